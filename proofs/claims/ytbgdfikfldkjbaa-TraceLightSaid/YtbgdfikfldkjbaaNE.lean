/- Answers that are right or an error; functions over plain numbers, by shape. -/
import Derived.Test.YtbgdfikfldkjbaaNF
namespace Go.Proofs.Ytbgdfikfldkjbaa.AI
set_option linter.unnecessarySimpa false
open Go
set_option linter.unusedVariables false
set_option linter.unusedSimpArgs false
structure Iv where
  lo : Int
  hi : Int
structure Bx where
  x : Iv
  y : Iv
  z : Iv
abbrev Er := Except Nat
def okE {α : Type} : Er α → Bool
  | .ok _ => true
  | .error _ => false
def getE {α : Type} (d : α) : Er α → α
  | .ok x => x
  | .error _ => d
def erE {α : Type} : Er α → Nat
  | .ok _ => 0
  | .error e => e
def iv0 : Iv := ⟨0, 0⟩
def bx0 : Bx := ⟨iv0, iv0, iv0⟩
def Iv.v (x : Iv) : Bool := vI x.lo x.hi
def Bx.v (a : Bx) : Bool := a.x.v && (a.y.v && a.z.v)
/-- An error, one more than e. -/
def eC (e : Nat) : U := .c (.int .i64 (Int.ofNat (e + 1)))
def ivU (x : Iv) : U := .a [.int .i64 x.lo, .int .i64 x.hi]
def bxC (a : Bx) : List C := [.int .i64 a.x.lo, .int .i64 a.x.hi, .int .i64 a.y.lo, .int .i64 a.y.hi, .int .i64 a.z.lo, .int .i64 a.z.hi]
def bxU (a : Bx) : U := .a (bxC a)
def resT (e : Er Iv) : Tree := .test (okE e) (.leaf (.t [ivU (getE iv0 e), ui 0])) (.leaf (.t [ivU iv0, eC (erE e)]))
def resB (e : Er Bx) : Tree := .test (okE e) (.leaf (.t [bxU (getE bx0 e), ui 0])) (.leaf (.t [bxU bx0, eC (erE e)]))
def mkE (a b : Int) : Er Iv := bif inR a b then .ok ⟨a, b⟩ else .error 2
def addE (x y : Iv) : Er Iv := bif x.v && y.v then mkE (x.lo + y.lo) (x.hi + y.hi) else .error 0
def subE (x y : Iv) : Er Iv := bif x.v && y.v then mkE (x.lo - y.hi) (x.hi - y.lo) else .error 0
def mulE (x y : Iv) : Er Iv := bif x.v && y.v then mkE (mulL x.lo x.hi y.lo y.hi) (mulH x.lo x.hi y.lo y.hi) else .error 0
def divE (x y : Iv) : Er Iv := bif x.v && y.v then
    bif decide (y.lo ≤ 0) && decide (0 ≤ y.hi) then .error 9 else bif decide (y.hi < 0) then mkE (divL (-x.hi) (-x.lo) (-y.hi) (-y.lo)) (divH (-x.hi) (-x.lo) (-y.hi) (-y.lo)) else mkE (divL x.lo x.hi y.lo y.hi) (divH x.lo x.hi y.lo y.hi)
  else .error 0
def negE (x : Iv) : Er Iv := bif x.v then .ok ⟨-x.hi, -x.lo⟩ else .error 0
def sqE (x : Iv) : Er Iv := bif x.v then mkE (sqL x.lo x.hi) (sqH x.lo x.hi) else .error 0
def sqrtE (x : Iv) : Er Iv := bif x.v then bif decide (x.lo < 0) then .error 1 else mkE (sqrtL x.lo) (sqrtH x.hi) else .error 0
/-! Shapes. -/
def intsC : List C → Option (List Int)
  | [] => some []
  | .int .i64 n :: r => (intsC r).map (n :: ·)
  | _ => none
/-- none: a number; some k: k numbers. -/
def dec : List (Option Nat) → List V → Option (List Int)
  | [], [] => some []
  | none :: s, .u (.c (.int .i64 n)) :: r => (dec s r).map (n :: ·)
  | some k :: s, .u (.a cs) :: r => match intsC cs with
    | some l => cond (Nat.beq l.length k) ((dec s r).map (l ++ ·)) none
    | none => none
  | _, _ => none
def enc : List (Option Nat) → List Int → List V
  | [], _ => []
  | none :: s, n :: l => .u (.c (.int .i64 n)) :: enc s l
  | none :: s, [] => []
  | some k :: s, l => .u (.a ((l.take k).map (.int .i64))) :: enc s (l.drop k)
theorem intsC_inv : ∀ {cs : List C} {l : List Int}, intsC cs = some l → cs = l.map (.int .i64)
  | [], l, h => by cases h; rfl
  | c :: cs, l, h => by
    unfold intsC at h
    split at h
    · rename_i e; cases e
    · rename_i n r e
      cases e
      rw [Option.map_eq_some_iff] at h
      obtain ⟨m, hm, rfl⟩ := h
      rw [intsC_inv hm]; rfl
    · cases h
theorem dec_inv : ∀ {s : List (Option Nat)} {args : List V} {l : List Int}, dec s args = some l → args = enc s l
  | [], args, l, h => by
    cases args with
    | nil => rfl
    | cons a r => cases h
  | none :: s, args, l, h => by
    unfold dec at h
    split at h
    · rename_i e; cases e
    · rename_i s' n r e1
      injection e1 with _ e1
      subst e1
      rw [Option.map_eq_some_iff] at h
      obtain ⟨m, hm, rfl⟩ := h
      rw [dec_inv hm]; rfl
    · rename_i e1; injection e1 with e1; cases e1
    · cases h
  | some k :: s, args, l, h => by
    unfold dec at h
    split at h
    · rename_i e; cases e
    · rename_i e1; injection e1 with e1; cases e1
    · rename_i k' s' cs r e1
      injection e1 with e0 e1
      cases e0
      subst e1
      split at h
      · rename_i m hm
        cases hc : Nat.beq m.length k
        · rw [hc] at h; cases h
        · rw [hc, cond_true, Option.map_eq_some_iff] at h
          have := Nat.eq_of_beq_eq_true hc
          subst this
          obtain ⟨m2, hm2, rfl⟩ := h
          rw [intsC_inv hm, dec_inv hm2]
          simp [enc]
      · cases h
    · cases h
def shT (s : List (Option Nat)) (F : List Int → Tree) (args : List V) : Tree := match dec s args with
  | some l => F l
  | none => .no
theorem shT_val {s : List (Option Nat)} {F : List Int → Tree} {args : List V} {x : V × Heap} (h : (shT s F args).val = some x) : ∃ l, args = enc s l ∧ (F l).val = some x := by
  unfold shT at h
  split at h
  · rename_i l hl; exact ⟨l, dec_inv hl, h⟩
  · cases h
theorem enc_bare : ∀ (s : List (Option Nat)) (l : List Int), (enc s l).all bareV? = true
  | [], l => rfl
  | none :: s, [] => rfl
  | none :: s, n :: l => by simp only [enc, List.all_cons, enc_bare s l]; rfl
  | some k :: s, l => by
    simp only [enc, List.all_cons, enc_bare s, Bool.and_true, bareV?, bareU?]
    rw [List.all_eq_true]
    intro c hc
    obtain ⟨n, _, rfl⟩ := List.mem_map.1 hc
    rfl
theorem told_sh {P : Program} (hm : P.follows .mixedOrders = true) {orc : List (FuncId × (List V → Tree))} (ho : OrcOk P orc) {fns : List (FuncId × Func × List (Nat × LV))} (hf : FnsOk P fns) {fuel d : Nat} {f : FuncId} {s : List (Option Nat)} {F : List Int → Tree} (hen : ∀ args w, (callFunc f args).run P w = .ok (.enter f args) w)
    (hg : ∀ l, (F l).flat = true) (h : ∀ l x, (F l).val = some x → ans P orc fns fuel d f (enc s l) = some x) : Told P f (shT s F) := by
  refine told_flat (fuel := fuel) (d := d) hm ho hf hen (fun args => ?_) (fun args x hv => ?_) fun args x hv => ?_
  · unfold shT
    split
    · exact hg _
    · rfl
  · obtain ⟨l, rfl, _⟩ := shT_val hv; exact enc_bare s l
  · obtain ⟨l, rfl, hl⟩ := shT_val hv; exact h l x hl
theorem told_congr {P : Program} {f : FuncId} {g g' : List V → Tree} (h : Told P f g) (hv : ∀ args x, (g' args).val = some x → (g args).val = some x) : Told P f g' :=
  ⟨fun args v H e => h.isv args v H (hv _ _ e), fun args v H e => h.sc args v H (hv _ _ e), h.enter, fun args v H ha e => h.run args v H ha (hv _ _ e)⟩
def F1 (op : Iv → Er Iv) : List Int → Tree
  | [a, b] => resT (op ⟨a, b⟩)
  | _ => .no
def F2 (op : Iv → Iv → Er Iv) : List Int → Tree
  | [a, b, c, d] => resT (op ⟨a, b⟩ ⟨c, d⟩)
  | _ => .no
abbrev sh1 (op : Iv → Er Iv) : List V → Tree := shT [some 2] (F1 op)
abbrev sh2 (op : Iv → Iv → Er Iv) : List V → Tree := shT [some 2, some 2] (F2 op)
theorem sh2_val {op : Iv → Iv → Er Iv} {args : List V} {x : V × Heap} (h : (sh2 op args).val = some x) : ∃ a b c d, args = [iv a b, iv c d] ∧ (resT (op ⟨a, b⟩ ⟨c, d⟩)).val = some x := by
  obtain ⟨l, rfl, hl⟩ := shT_val h
  unfold F2 at hl
  split at hl
  · exact ⟨_, _, _, _, rfl, hl⟩
  · cases hl
theorem sh1_val {op : Iv → Er Iv} {args : List V} {x : V × Heap} (h : (sh1 op args).val = some x) : ∃ a b, args = [iv a b] ∧ (resT (op ⟨a, b⟩)).val = some x := by
  obtain ⟨l, rfl, hl⟩ := shT_val h
  unfold F1 at hl
  split at hl
  · exact ⟨_, _, rfl, hl⟩
  · cases hl
theorem mkT_val (a b : Int) : (mkT a b).val = (resT (mkE a b)).val := by
  unfold mkT mkE resT
  simp only [Tree.val]
  cases inR a b <;> rfl
theorem told2 {f : FuncId} {G : Int → Int → Int → Int → Tree} {op : Iv → Iv → Er Iv} (h : Told Try.prog f (two G)) (e : ∀ a b c d, (two G [iv a b, iv c d]).val = (resT (op ⟨a, b⟩ ⟨c, d⟩)).val) : Told Try.prog f (sh2 op) :=
  told_congr h fun args x hv => by obtain ⟨a, b, c, d, rfl, hx⟩ := sh2_val hv; rw [e]; exact hx
theorem told1 {f : FuncId} {G : Int → Int → Tree} {op : Iv → Er Iv} (h : Told Try.prog f (one G)) (e : ∀ a b, (one G [iv a b]).val = (resT (op ⟨a, b⟩)).val) : Told Try.prog f (sh1 op) :=
  told_congr h fun args x hv => by obtain ⟨a, b, rfl, hx⟩ := sh1_val hv; rw [e]; exact hx
theorem e_add (a b c d : Int) : (addT [iv a b, iv c d]).val = (resT (addE ⟨a, b⟩ ⟨c, d⟩)).val := by
  show (bif vI a b && vI c d then (mkT _ _).val else _) = (resT (bif vI a b && vI c d then _ else _)).val
  cases vI a b && vI c d
  · rfl
  · exact mkT_val _ _
theorem e_sub (a b c d : Int) : (subT [iv a b, iv c d]).val = (resT (subE ⟨a, b⟩ ⟨c, d⟩)).val := by
  show (bif vI a b && vI c d then (mkT _ _).val else _) = (resT (bif vI a b && vI c d then _ else _)).val
  cases vI a b && vI c d
  · rfl
  · exact mkT_val _ _
theorem e_mul (a b c d : Int) : (mulT [iv a b, iv c d]).val = (resT (mulE ⟨a, b⟩ ⟨c, d⟩)).val := by
  show (bif vI a b && vI c d then (mkT _ _).val else _) = (resT (bif vI a b && vI c d then _ else _)).val
  cases vI a b && vI c d
  · rfl
  · exact mkT_val _ _
theorem e_div (a b c d : Int) : (divT [iv a b, iv c d]).val = (resT (divE ⟨a, b⟩ ⟨c, d⟩)).val := by
  show (bif vI a b && vI c d then (bif decide (c ≤ 0) && decide (0 ≤ d) then _ else bif decide (d < 0) then (mkT _ _).val else (mkT _ _).val) else _) = (resT (bif vI a b && vI c d then bif decide (c ≤ 0) && decide (0 ≤ d) then _ else bif decide (d < 0) then _ else _ else _)).val
  cases vI a b && vI c d
  · rfl
  · cases decide (c ≤ 0) && decide (0 ≤ d)
    · cases decide (d < 0)
      · exact mkT_val _ _
      · exact mkT_val _ _
    · rfl
theorem e_neg (a b : Int) : (negT [iv a b]).val = (resT (negE ⟨a, b⟩)).val := by
  show (bif vI a b then _ else _) = (resT (bif vI a b then _ else _)).val
  cases vI a b <;> rfl
theorem e_sq (a b : Int) : (sqT [iv a b]).val = (resT (sqE ⟨a, b⟩)).val := by
  show (bif vI a b then (mkT _ _).val else _) = (resT (bif vI a b then _ else _)).val
  cases vI a b
  · rfl
  · exact mkT_val _ _
theorem e_sqrt (a b : Int) : (sqrtT [iv a b]).val = (resT (sqrtE ⟨a, b⟩)).val := by
  show (bif vI a b then (bif decide (a < 0) then _ else (mkT _ _).val) else _) = (resT (bif vI a b then (bif decide (a < 0) then _ else _) else _)).val
  cases vI a b
  · rfl
  · cases decide (a < 0)
    · exact mkT_val _ _
    · rfl
theorem E74 : Told Try.prog 74 (sh2 addE) := told2 told74 e_add
theorem E54 : Told Try.prog 54 (sh2 subE) := told2 told54 e_sub
theorem E69 : Told Try.prog 69 (sh2 mulE) := told2 told69 e_mul
theorem E111 : Told Try.prog 111 (sh2 divE) := told2 told111 e_div
theorem E90 : Told Try.prog 90 (sh1 negE) := told1 told90 e_neg
theorem E86 : Told Try.prog 86 (sh1 sqE) := told1 told86 e_sq
theorem E89 : Told Try.prog 89 (sh1 sqrtE) := told1 told89 e_sqrt
theorem E58 : Told Try.prog 58 (sh2 addE) := told2 told58 e_add
theorem E57 : Told Try.prog 57 (sh2 mulE) := told2 told57 e_mul
end Go.Proofs.Ytbgdfikfldkjbaa.AI
