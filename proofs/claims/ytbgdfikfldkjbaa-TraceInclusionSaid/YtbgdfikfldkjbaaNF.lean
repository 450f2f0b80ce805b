/- Two texts, laid into one by mkclaim.py. -/
import Derived.Test.YtbgdfikfldkjbaaNR
section
/- Intervals: the reference's functions of layer 27, told. -/
namespace Go.Proofs.Ytbgdfikfldkjbaa.AI
set_option linter.unnecessarySimpa false
open Go
set_option linter.unusedVariables false
set_option linter.unusedSimpArgs false
theorem k30 : FnOk Try.prog 30 Try.f30 := fk Try.func30 (by kernel_rfl) rfl
theorem a30 (a b : Int) : ans Try.prog [] [(30, Try.f30, [])] 9 6 30 [iv a b] = bif decide (-1073741824 ≤ a) then bif decide (a ≤ b) then tru (decide (b ≤ 1073741824)) else tru false else tru false := by kernel_rfl
theorem told30 : Told Try.prog 30 validT := by
  refine told_flat (fuel := 9) (d := 6) (fns := [(30, Try.f30, [])]) mixed orc_nil (fns_cons k30 fns_nil) k30.enter valid_flat (fun args x h => ?_) fun args x h => ?_
  · obtain ⟨a, b, rfl, _⟩ := valid_val h; rfl
  · obtain ⟨a, b, rfl, rfl⟩ := valid_val h
    rw [a30]
    unfold vI tru
    cases decide (-1073741824 ≤ a) <;> cases decide (a ≤ b) <;> rfl
def fl82 (a b : Int) : R := bif decide (b = 0) then none else bif decide (a < W (W (Int.tdiv a b) * b)) then some (.u (ui (W (W (Int.tdiv a b) - 1))), []) else some (.u (ui (W (Int.tdiv a b))), [])
theorem a82 (a b : Int) : ans Try.prog [] [(82, Try.f82, [])] 9 3 82 [.u (ui a), .u (ui b)] = bif decide (b < 0) then fl82 (W (0 - a)) (W (0 - b)) else fl82 a b := by kernel_rfl
theorem k82 : FnOk Try.prog 82 Try.f82 := fk Try.func82 (by kernel_rfl) rfl
theorem fl82_eq {a b : Int} (hb : 0 < b) (h1 : -4611686018427387904 ≤ a) (h2 : a ≤ 4611686018427387904) : fl82 a b = some (.u (ui (a / b)), []) := by
  obtain ⟨t1, t2⟩ := tdiv_in hb h1 h2
  unfold fl82 W
  have hm : (a.tdiv b * b).natAbs ≤ a.natAbs := by rw [Int.natAbs_mul, Int.natAbs_tdiv]; exact Nat.div_mul_le_self _ _
  rw [wr (n := Int.tdiv a b) (by omega) (by omega), wr (n := Int.tdiv a b - 1) (by omega) (by omega), wr (n := Int.tdiv a b * b) (by omega) (by omega)]
  rw [decide_eq_false (show ¬ b = 0 by omega), cond_false]
  have h := tdiv_pos (a := a) hb
  have e1 := Int.mul_ediv_add_emod a b
  have e2 := Int.emod_lt_of_pos a hb
  have e3 := Int.emod_nonneg a (show b ≠ 0 by omega)
  rw [Int.mul_comm] at e1
  by_cases hc : a % b ≠ 0 ∧ a < 0
  · rw [if_pos hc] at h
    rw [h, decide_eq_true (show a < (a / b + 1) * b by rw [Int.add_mul]; omega), cond_true, Int.add_sub_cancel]
  · rw [if_neg hc] at h
    rw [h, decide_eq_false (show ¬ a < a / b * b by omega), cond_false]
theorem told82 : Told Try.prog 82 (quoT dnq) := by
  refine told_flat (fuel := 9) (d := 3) (fns := [(82, Try.f82, [])]) mixed orc_nil (fns_cons k82 fns_nil) k82.enter quo_flat (fun args x h => ?_) fun args x h => ?_
  · obtain ⟨a, b, rfl, _⟩ := quo_val h; rfl
  · obtain ⟨a, b, rfl, hb, h1, h2, rfl⟩ := quo_val h
    rw [a82, decide_eq_false (show ¬ b < 0 by omega), cond_false]
    exact fl82_eq hb h1 h2
theorem a83 (a b : Int) : ans Try.prog [(82, quoT dnq)] [(83, Try.f83, [])] 9 3 83 [.u (ui a), .u (ui b)] = quoK dnq (IntKind.i64.wrap (0 - a)) b fun q => some (.u (ui (IntKind.i64.wrap (0 - q))), []) := by kernel_rfl
theorem k83 : FnOk Try.prog 83 Try.f83 := fk Try.func83 (by kernel_rfl) rfl
theorem told83 : Told Try.prog 83 (quoT upq) := by
  refine told_flat (fuel := 9) (d := 3) (fns := [(83, Try.f83, [])]) mixed (orc_cons told82 orc_nil) (fns_cons k83 fns_nil) k83.enter quo_flat (fun args x h => ?_) fun args x h => ?_
  · obtain ⟨a, b, rfl, _⟩ := quo_val h; rfl
  · obtain ⟨a, b, rfl, hb, h1, h2, rfl⟩ := quo_val h
    rw [a83, show IntKind.i64.wrap (0 - a) = -a by rw [Int.zero_sub]; exact w64_in (by omega) (by omega), quoK_in hb (by omega) (by omega)]
    obtain ⟨d1, d2⟩ := div_in hb (a := -a) (by omega) (by omega)
    unfold dnq upq
    rw [show IntKind.i64.wrap (0 - -a / b) = -(-a / b) by rw [Int.zero_sub]; exact w64_in (by omega) (by omega)]
theorem k58 : FnOk Try.prog 58 Try.f58 := fk Try.func58 (by kernel_rfl) rfl
theorem k57 : FnOk Try.prog 57 Try.f57 := fk Try.func57 (by kernel_rfl) rfl
theorem k60 : FnOk Try.prog 60 Try.f60 := fk Try.func60 (by kernel_rfl) rfl
theorem k81 : FnOk Try.prog 81 Try.f81 := fk Try.func81 (by kernel_rfl) rfl
def orcF : List (FuncId × (List V → Tree)) := [(30, validT), (82, quoT dnq), (83, quoT upq)]
theorem orcF_ok : OrcOk Try.prog orcF := orc_cons told30 (orc_cons told82 (orc_cons told83 orc_nil))
noncomputable def fnsF (f : FuncId) (fn : Func) : List (FuncId × Func × List (Nat × LV)) := [(f, fn, []), (60, Try.f60, []), (81, Try.f81, [])]
theorem fnsF_ok {f : FuncId} {fn : Func} (h : FnOk Try.prog f fn) : FnsOk Try.prog (fnsF f fn) := fns_cons h (fns_cons k60 (fns_cons k81 fns_nil))
def FF (a b c d : Int) (x : R) : R := bif vI a b then bif !vI c d then B 1 else x else B 1
def mkF (lo hi : Int) : R := bif !vI lo hi then B 3 else O lo hi
theorem ff_of {f : Int → Int → Int → Int → Tree} {a b c d : Int} {x : V × Heap} (h : (two f [iv a b, iv c d]).val = some x) {X : R} (hX : (-1073741824 ≤ a ∧ a ≤ b ∧ b ≤ 1073741824) → (-1073741824 ≤ c ∧ c ≤ d ∧ d ≤ 1073741824) → X = (f a b c d).val) : FF a b c d X = some x := by
  rw [← h]
  show _ = (bif vI a b && vI c d then (f a b c d).val else B 1)
  unfold FF
  cases h1 : vI a b
  · rfl
  · cases h2 : vI c d
    · rfl
    · rw [hX (vI_iff.1 h1) (vI_iff.1 h2)]; rfl
theorem mkF_eq {lo hi : Int} (h : lo ≤ hi) : mkF lo hi = (mkT lo hi).val := by
  unfold mkF mkT inR vI
  simp only [Tree.val]
  rw [decide_eq_true h]
  cases decide (-1073741824 ≤ lo) <;> cases decide (hi ≤ 1073741824) <;> rfl
theorem a58 (a b c d : Int) : ans Try.prog orcF (fnsF 58 Try.f58) 9 6 58 [iv a b, iv c d] = FF a b c d (mkF (W (a + c)) (W (b + d))) := by kernel_rfl
theorem a57 (a b c d : Int) : ans Try.prog orcF (fnsF 57 Try.f57) 9 6 57 [iv a b, iv c d] = FF a b c d (quoK dnq (mnI (mnI (mnI (W (a * c)) (W (a * d))) (W (b * c))) (W (b * d))) 16777216 fun lo => quoK upq (mxI (mxI (mxI (W (a * c)) (W (a * d))) (W (b * c))) (W (b * d))) 16777216 fun hi => mkF lo hi) := by kernel_rfl
theorem told58 : Told Try.prog 58 addT := by
  refine told_flat (fuel := 9) (d := 6) (fns := fnsF 58 Try.f58) mixed orcF_ok (fnsF_ok k58) k58.enter (two_flat fun _ _ _ _ => rfl) two_bare fun args x h => ?_
  obtain ⟨a, b, c, d, rfl⟩ := two_val h
  rw [a58]
  refine ff_of h fun h1 h2 => ?_
  unfold W
  rw [wr (by omega) (by omega), wr (by omega) (by omega), mkF_eq (by omega)]
/-- Rounded down and up, in order. -/
theorem dn_up {x y : Int} (h : x ≤ y) : dnq x 16777216 ≤ upq y 16777216 := by unfold dnq upq; omega
theorem told57 : Told Try.prog 57 mulT := by
  refine told_flat (fuel := 9) (d := 6) (fns := fnsF 57 Try.f57) mixed orcF_ok (fnsF_ok k57) k57.enter (two_flat fun _ _ _ _ => rfl) two_bare fun args x h => ?_
  obtain ⟨a, b, c, d, rfl⟩ := two_val h
  rw [a57]
  refine ff_of h fun h1 h2 => ?_
  have p1 := prod30 (a := a) (b := c) (by omega) (by omega)
  have p2 := prod30 (a := a) (b := d) (by omega) (by omega)
  have p3 := prod30 (a := b) (b := c) (by omega) (by omega)
  have p4 := prod30 (a := b) (b := d) (by omega) (by omega)
  unfold W
  rw [wr (n := a * c) (by omega) (by omega), wr (n := a * d) (by omega) (by omega), wr (n := b * c) (by omega) (by omega), wr (n := b * d) (by omega) (by omega)]
  simp only [mnI_eq, mxI_eq]
  rw [quoK_in (by omega) (by omega) (by omega), quoK_in (by omega) (by omega) (by omega), mkF_eq (dn_up (by omega))]
  rfl
theorem k40 : FnOk Try.prog 40 Try.f40 := fk Try.func40 (by kernel_rfl) rfl
theorem a40 (a b c d : Int) : ans Try.prog orcF (fnsF 40 Try.f40) 9 6 40 [iv a b, iv c d] = bif vI a b then bif vI c d then bif decide (c ≤ a) then tru (decide (b ≤ d)) else tru false else tru false else tru false := by kernel_rfl
theorem told40 : Told Try.prog 40 insT := by
  refine told_flat (fuel := 9) (d := 6) (fns := fnsF 40 Try.f40) mixed orcF_ok (fnsF_ok k40) k40.enter ins_flat (fun args x h => ?_) fun args x h => ?_
  · obtain ⟨a, b, c, d, rfl, _⟩ := ins_val h; rfl
  · obtain ⟨a, b, c, d, rfl, rfl⟩ := ins_val h
    rw [a40]
    unfold insI tru
    cases vI a b <;> cases vI c d <;> cases decide (c ≤ a) <;> rfl
end Go.Proofs.Ytbgdfikfldkjbaa.AI
end
section
/- Answers that are right or an error; functions over plain numbers, by shape. -/
namespace Go.Proofs.Ytbgdfikfldkjbaa.AI
set_option linter.unnecessarySimpa false
open Go
set_option linter.unusedVariables false
set_option linter.unusedSimpArgs false
structure Iv where
  lo : Int
  hi : Int
structure Bx where
  x : Iv
  y : Iv
  z : Iv
abbrev Er := Except Nat
def okE {α : Type} : Er α → Bool
  | .ok _ => true
  | .error _ => false
def getE {α : Type} (d : α) : Er α → α
  | .ok x => x
  | .error _ => d
def erE {α : Type} : Er α → Nat
  | .ok _ => 0
  | .error e => e
def iv0 : Iv := ⟨0, 0⟩
def bx0 : Bx := ⟨iv0, iv0, iv0⟩
def Iv.v (x : Iv) : Bool := vI x.lo x.hi
def Bx.v (a : Bx) : Bool := a.x.v && (a.y.v && a.z.v)
/-- An error, one more than e. -/
def eC (e : Nat) : U := .c (.int .i64 (Int.ofNat (e + 1)))
def ivU (x : Iv) : U := .a [.int .i64 x.lo, .int .i64 x.hi]
def bxC (a : Bx) : List C := [.int .i64 a.x.lo, .int .i64 a.x.hi, .int .i64 a.y.lo, .int .i64 a.y.hi, .int .i64 a.z.lo, .int .i64 a.z.hi]
def bxU (a : Bx) : U := .a (bxC a)
def resT (e : Er Iv) : Tree := .test (okE e) (.leaf (.t [ivU (getE iv0 e), ui 0])) (.leaf (.t [ivU iv0, eC (erE e)]))
def resB (e : Er Bx) : Tree := .test (okE e) (.leaf (.t [bxU (getE bx0 e), ui 0])) (.leaf (.t [bxU bx0, eC (erE e)]))
def mkE (a b : Int) : Er Iv := bif inR a b then .ok ⟨a, b⟩ else .error 2
def addE (x y : Iv) : Er Iv := bif x.v && y.v then mkE (x.lo + y.lo) (x.hi + y.hi) else .error 0
def subE (x y : Iv) : Er Iv := bif x.v && y.v then mkE (x.lo - y.hi) (x.hi - y.lo) else .error 0
def mulE (x y : Iv) : Er Iv := bif x.v && y.v then mkE (mulL x.lo x.hi y.lo y.hi) (mulH x.lo x.hi y.lo y.hi) else .error 0
def divE (x y : Iv) : Er Iv := bif x.v && y.v then
    bif decide (y.lo ≤ 0) && decide (0 ≤ y.hi) then .error 9 else bif decide (y.hi < 0) then mkE (divL (-x.hi) (-x.lo) (-y.hi) (-y.lo)) (divH (-x.hi) (-x.lo) (-y.hi) (-y.lo)) else mkE (divL x.lo x.hi y.lo y.hi) (divH x.lo x.hi y.lo y.hi)
  else .error 0
def negE (x : Iv) : Er Iv := bif x.v then .ok ⟨-x.hi, -x.lo⟩ else .error 0
def sqE (x : Iv) : Er Iv := bif x.v then mkE (sqL x.lo x.hi) (sqH x.lo x.hi) else .error 0
def sqrtE (x : Iv) : Er Iv := bif x.v then bif decide (x.lo < 0) then .error 1 else mkE (sqrtL x.lo) (sqrtH x.hi) else .error 0
/-! Shapes. -/
def intsC : List C → Option (List Int)
  | [] => some []
  | .int .i64 n :: r => (intsC r).map (n :: ·)
  | _ => none
/-- none: a number; some k: k numbers. -/
def dec : List (Option Nat) → List V → Option (List Int)
  | [], [] => some []
  | none :: s, .u (.c (.int .i64 n)) :: r => (dec s r).map (n :: ·)
  | some k :: s, .u (.a cs) :: r => match intsC cs with
    | some l => cond (Nat.beq l.length k) ((dec s r).map (l ++ ·)) none
    | none => none
  | _, _ => none
def enc : List (Option Nat) → List Int → List V
  | [], _ => []
  | none :: s, n :: l => .u (.c (.int .i64 n)) :: enc s l
  | none :: s, [] => []
  | some k :: s, l => .u (.a ((l.take k).map (.int .i64))) :: enc s (l.drop k)
theorem intsC_inv : ∀ {cs : List C} {l : List Int}, intsC cs = some l → cs = l.map (.int .i64)
  | [], l, h => by cases h; rfl
  | c :: cs, l, h => by
    unfold intsC at h
    split at h
    · rename_i e; cases e
    · rename_i n r e
      cases e
      rw [Option.map_eq_some_iff] at h
      obtain ⟨m, hm, rfl⟩ := h
      rw [intsC_inv hm]; rfl
    · cases h
theorem dec_inv : ∀ {s : List (Option Nat)} {args : List V} {l : List Int}, dec s args = some l → args = enc s l
  | [], args, l, h => by
    cases args with
    | nil => rfl
    | cons a r => cases h
  | none :: s, args, l, h => by
    unfold dec at h
    split at h
    · rename_i e; cases e
    · rename_i s' n r e1
      injection e1 with _ e1
      subst e1
      rw [Option.map_eq_some_iff] at h
      obtain ⟨m, hm, rfl⟩ := h
      rw [dec_inv hm]; rfl
    · rename_i e1; injection e1 with e1; cases e1
    · cases h
  | some k :: s, args, l, h => by
    unfold dec at h
    split at h
    · rename_i e; cases e
    · rename_i e1; injection e1 with e1; cases e1
    · rename_i k' s' cs r e1
      injection e1 with e0 e1
      cases e0
      subst e1
      split at h
      · rename_i m hm
        cases hc : Nat.beq m.length k
        · rw [hc] at h; cases h
        · rw [hc, cond_true, Option.map_eq_some_iff] at h
          have := Nat.eq_of_beq_eq_true hc
          subst this
          obtain ⟨m2, hm2, rfl⟩ := h
          rw [intsC_inv hm, dec_inv hm2]
          simp [enc]
      · cases h
    · cases h
def shT (s : List (Option Nat)) (F : List Int → Tree) (args : List V) : Tree := match dec s args with
  | some l => F l
  | none => .no
theorem shT_val {s : List (Option Nat)} {F : List Int → Tree} {args : List V} {x : V × Heap} (h : (shT s F args).val = some x) : ∃ l, args = enc s l ∧ (F l).val = some x := by
  unfold shT at h
  split at h
  · rename_i l hl; exact ⟨l, dec_inv hl, h⟩
  · cases h
theorem enc_bare : ∀ (s : List (Option Nat)) (l : List Int), (enc s l).all bareV? = true
  | [], l => rfl
  | none :: s, [] => rfl
  | none :: s, n :: l => by simp only [enc, List.all_cons, enc_bare s l]; rfl
  | some k :: s, l => by
    simp only [enc, List.all_cons, enc_bare s, Bool.and_true, bareV?, bareU?]
    rw [List.all_eq_true]
    intro c hc
    obtain ⟨n, _, rfl⟩ := List.mem_map.1 hc
    rfl
theorem told_sh {P : Program} (hm : P.follows .mixedOrders = true) {orc : List (FuncId × (List V → Tree))} (ho : OrcOk P orc) {fns : List (FuncId × Func × List (Nat × LV))} (hf : FnsOk P fns) {fuel d : Nat} {f : FuncId} {s : List (Option Nat)} {F : List Int → Tree} (hen : ∀ args w, (callFunc f args).run P w = .ok (.enter f args) w)
    (hg : ∀ l, (F l).flat = true) (h : ∀ l x, (F l).val = some x → ans P orc fns fuel d f (enc s l) = some x) : Told P f (shT s F) := by
  refine told_flat (fuel := fuel) (d := d) hm ho hf hen (fun args => ?_) (fun args x hv => ?_) fun args x hv => ?_
  · unfold shT
    split
    · exact hg _
    · rfl
  · obtain ⟨l, rfl, _⟩ := shT_val hv; exact enc_bare s l
  · obtain ⟨l, rfl, hl⟩ := shT_val hv; exact h l x hl
theorem told_congr {P : Program} {f : FuncId} {g g' : List V → Tree} (h : Told P f g) (hv : ∀ args x, (g' args).val = some x → (g args).val = some x) : Told P f g' :=
  ⟨fun args v H e => h.isv args v H (hv _ _ e), fun args v H e => h.sc args v H (hv _ _ e), h.enter, fun args v H ha e => h.run args v H ha (hv _ _ e)⟩
def F1 (op : Iv → Er Iv) : List Int → Tree
  | [a, b] => resT (op ⟨a, b⟩)
  | _ => .no
def F2 (op : Iv → Iv → Er Iv) : List Int → Tree
  | [a, b, c, d] => resT (op ⟨a, b⟩ ⟨c, d⟩)
  | _ => .no
abbrev sh1 (op : Iv → Er Iv) : List V → Tree := shT [some 2] (F1 op)
abbrev sh2 (op : Iv → Iv → Er Iv) : List V → Tree := shT [some 2, some 2] (F2 op)
theorem sh2_val {op : Iv → Iv → Er Iv} {args : List V} {x : V × Heap} (h : (sh2 op args).val = some x) : ∃ a b c d, args = [iv a b, iv c d] ∧ (resT (op ⟨a, b⟩ ⟨c, d⟩)).val = some x := by
  obtain ⟨l, rfl, hl⟩ := shT_val h
  unfold F2 at hl
  split at hl
  · exact ⟨_, _, _, _, rfl, hl⟩
  · cases hl
theorem sh1_val {op : Iv → Er Iv} {args : List V} {x : V × Heap} (h : (sh1 op args).val = some x) : ∃ a b, args = [iv a b] ∧ (resT (op ⟨a, b⟩)).val = some x := by
  obtain ⟨l, rfl, hl⟩ := shT_val h
  unfold F1 at hl
  split at hl
  · exact ⟨_, _, rfl, hl⟩
  · cases hl
theorem mkT_val (a b : Int) : (mkT a b).val = (resT (mkE a b)).val := by
  unfold mkT mkE resT
  simp only [Tree.val]
  cases inR a b <;> rfl
theorem told2 {f : FuncId} {G : Int → Int → Int → Int → Tree} {op : Iv → Iv → Er Iv} (h : Told Try.prog f (two G)) (e : ∀ a b c d, (two G [iv a b, iv c d]).val = (resT (op ⟨a, b⟩ ⟨c, d⟩)).val) : Told Try.prog f (sh2 op) :=
  told_congr h fun args x hv => by obtain ⟨a, b, c, d, rfl, hx⟩ := sh2_val hv; rw [e]; exact hx
theorem told1 {f : FuncId} {G : Int → Int → Tree} {op : Iv → Er Iv} (h : Told Try.prog f (one G)) (e : ∀ a b, (one G [iv a b]).val = (resT (op ⟨a, b⟩)).val) : Told Try.prog f (sh1 op) :=
  told_congr h fun args x hv => by obtain ⟨a, b, rfl, hx⟩ := sh1_val hv; rw [e]; exact hx
theorem e_add (a b c d : Int) : (addT [iv a b, iv c d]).val = (resT (addE ⟨a, b⟩ ⟨c, d⟩)).val := by
  show (bif vI a b && vI c d then (mkT _ _).val else _) = (resT (bif vI a b && vI c d then _ else _)).val
  cases vI a b && vI c d
  · rfl
  · exact mkT_val _ _
theorem e_sub (a b c d : Int) : (subT [iv a b, iv c d]).val = (resT (subE ⟨a, b⟩ ⟨c, d⟩)).val := by
  show (bif vI a b && vI c d then (mkT _ _).val else _) = (resT (bif vI a b && vI c d then _ else _)).val
  cases vI a b && vI c d
  · rfl
  · exact mkT_val _ _
theorem e_mul (a b c d : Int) : (mulT [iv a b, iv c d]).val = (resT (mulE ⟨a, b⟩ ⟨c, d⟩)).val := by
  show (bif vI a b && vI c d then (mkT _ _).val else _) = (resT (bif vI a b && vI c d then _ else _)).val
  cases vI a b && vI c d
  · rfl
  · exact mkT_val _ _
theorem e_div (a b c d : Int) : (divT [iv a b, iv c d]).val = (resT (divE ⟨a, b⟩ ⟨c, d⟩)).val := by
  show (bif vI a b && vI c d then (bif decide (c ≤ 0) && decide (0 ≤ d) then _ else bif decide (d < 0) then (mkT _ _).val else (mkT _ _).val) else _) = (resT (bif vI a b && vI c d then bif decide (c ≤ 0) && decide (0 ≤ d) then _ else bif decide (d < 0) then _ else _ else _)).val
  cases vI a b && vI c d
  · rfl
  · cases decide (c ≤ 0) && decide (0 ≤ d)
    · cases decide (d < 0)
      · exact mkT_val _ _
      · exact mkT_val _ _
    · rfl
theorem e_neg (a b : Int) : (negT [iv a b]).val = (resT (negE ⟨a, b⟩)).val := by
  show (bif vI a b then _ else _) = (resT (bif vI a b then _ else _)).val
  cases vI a b <;> rfl
theorem e_sq (a b : Int) : (sqT [iv a b]).val = (resT (sqE ⟨a, b⟩)).val := by
  show (bif vI a b then (mkT _ _).val else _) = (resT (bif vI a b then _ else _)).val
  cases vI a b
  · rfl
  · exact mkT_val _ _
theorem e_sqrt (a b : Int) : (sqrtT [iv a b]).val = (resT (sqrtE ⟨a, b⟩)).val := by
  show (bif vI a b then (bif decide (a < 0) then _ else (mkT _ _).val) else _) = (resT (bif vI a b then (bif decide (a < 0) then _ else _) else _)).val
  cases vI a b
  · rfl
  · cases decide (a < 0)
    · exact mkT_val _ _
    · rfl
theorem E74 : Told Try.prog 74 (sh2 addE) := told2 told74 e_add
theorem E54 : Told Try.prog 54 (sh2 subE) := told2 told54 e_sub
theorem E69 : Told Try.prog 69 (sh2 mulE) := told2 told69 e_mul
theorem E111 : Told Try.prog 111 (sh2 divE) := told2 told111 e_div
theorem E90 : Told Try.prog 90 (sh1 negE) := told1 told90 e_neg
theorem E86 : Told Try.prog 86 (sh1 sqE) := told1 told86 e_sq
theorem E89 : Told Try.prog 89 (sh1 sqrtE) := told1 told89 e_sqrt
theorem E58 : Told Try.prog 58 (sh2 addE) := told2 told58 e_add
theorem E57 : Told Try.prog 57 (sh2 mulE) := told2 told57 e_mul
end Go.Proofs.Ytbgdfikfldkjbaa.AI
end
