/- Intervals: the program's functions, told. -/
import Derived.Test.YtbgdfikfldkjbaaNU
import Derived.Test.YtbgdfikfldkjbaaProg
import Derived.KernelRfl
namespace Go.Proofs.Ytbgdfikfldkjbaa.AI
set_option linter.unnecessarySimpa false
open Go
set_option linter.unusedVariables false
set_option linter.unusedSimpArgs false
theorem orc_nil {P : Program} : OrcOk P [] := fun p hp => by cases hp
theorem orc_cons {P : Program} {f : FuncId} {g : List V → Tree} {r : List (FuncId × (List V → Tree))} (h : Told P f g) (hr : OrcOk P r) : OrcOk P ((f, g) :: r) := fun p hp => by
  rcases List.mem_cons.1 hp with rfl | hp
  · exact h
  · exact hr p hp
theorem fns_nil {P : Program} : FnsOk P [] := fun p hp => by cases hp
theorem fns_loops {P : Program} {f : FuncId} {fn : Func} {l : List (Nat × LV)} {r : List (FuncId × Func × List (Nat × LV))} (h : FnOk P f fn) (hl : ∀ c, fn.body = some c → LoopsOk P c l) (hr : FnsOk P r) : FnsOk P ((f, fn, l) :: r) := fun p hp => by
  rcases List.mem_cons.1 hp with rfl | hp
  · exact ⟨h, hl⟩
  · exact hr p hp
theorem loops_nil {P : Program} {c : Code} : LoopsOk P c [] := ⟨(fun b _ i v g _ h => by cases h), (fun b _ i v g _ h => by cases h)⟩
theorem fns_cons {P : Program} {f : FuncId} {fn : Func} {r : List (FuncId × Func × List (Nat × LV))} (h : FnOk P f fn) (hr : FnsOk P r) : FnsOk P ((f, fn, []) :: r) := fns_loops h (fun _ _ => loops_nil) hr
theorem mixed : Try.prog.follows .mixedOrders = true := by kernel_rfl
theorem fk {f : FuncId} {fn : Func} {c : Code} (hf : Try.prog.funcs[f]? = some fn) (hname : (fn.name == "runtime.NumGoroutine") = false) (hb : fn.body = some c) : FnOk Try.prog f fn := ⟨hf, enters_of hf hname hb⟩
/-! The trees as they come. -/
abbrev R := Option (V × Heap)
def B (e : Int) : R := (badT e).val
def O (a b : Int) : R := (okT a b).val
def V3 (a b : Int) (x y : R) : R := bif decide (a ≤ b) then bif decide (-1073741824 ≤ a) then bif !decide (b ≤ 1073741824) then y else x else y else y
theorem V3_eq (a b : Int) (x y : R) : V3 a b x y = bif vI a b then x else y := by
  unfold V3 vI
  cases decide (a ≤ b) <;> cases decide (-1073741824 ≤ a) <;> cases decide (b ≤ 1073741824) <;> rfl
def mk3 (lo hi : Int) : R := bif decide (lo < -1073741824) then B 3 else bif decide (1073741824 < hi) then B 3 else O lo hi
theorem mk3_eq (lo hi : Int) : mk3 lo hi = (mkT lo hi).val := by
  unfold mk3 mkT inR
  simp only [Tree.val]
  by_cases h1 : lo < -1073741824
  · rw [decide_eq_true h1, decide_eq_false (show ¬ -1073741824 ≤ lo by omega)]; rfl
  · rw [decide_eq_false h1, decide_eq_true (show -1073741824 ≤ lo by omega)]
    by_cases h2 : 1073741824 < hi
    · rw [decide_eq_true h2, decide_eq_false (show ¬ hi ≤ 1073741824 by omega)]; rfl
    · rw [decide_eq_false h2, decide_eq_true (show hi ≤ 1073741824 by omega)]; rfl
def mnI (x y : Int) : Int := if y < x then y else x
def mxI (x y : Int) : Int := if x < y then y else x
theorem mnI_eq (x y : Int) : mnI x y = min x y := by unfold mnI; omega
theorem mxI_eq (x y : Int) : mxI x y = max x y := by unfold mxI; omega
/-! Quotients. -/
def inW (a b : Int) : Bool := decide (0 < b) && (decide (-4611686018427387904 ≤ a) && decide (a ≤ 4611686018427387904))
def quoT (f : Int → Int → Int) : List V → Tree
  | [.u (.c (.int .i64 a)), .u (.c (.int .i64 b))] => .test (inW a b) (.leaf (.u (ui (f a b)))) .no
  | _ => .no
def quoK (f : Int → Int → Int) (a b : Int) (k : Int → R) : R := bif inW a b then k (f a b) else none
theorem quo_val {f : Int → Int → Int} {args : List V} {x : V × Heap} (h : (quoT f args).val = some x) : ∃ a b, args = [.u (ui a), .u (ui b)] ∧ 0 < b ∧ -4611686018427387904 ≤ a ∧ a ≤ 4611686018427387904 ∧ x = (.u (ui (f a b)), []) := by
  unfold quoT at h
  split at h
  · rename_i a b
    simp only [Tree.val] at h
    cases hw : inW a b
    · rw [hw] at h; cases h
    · rw [hw, cond_true] at h
      simp only [inW, Bool.and_eq_true, decide_eq_true_eq] at hw
      cases h
      exact ⟨a, b, rfl, hw.1, hw.2.1, hw.2.2, rfl⟩
  · cases h
theorem quo_flat {f : Int → Int → Int} (args : List V) : (quoT f args).flat = true := by
  unfold quoT
  split <;> rfl
theorem a95 (a b : Int) : ans Try.prog [] [(95, Try.f95, [])] 9 3 95 [.u (ui a), .u (ui b)] =
    (bif decide (b = 0) then none else bif decide (b = 0) then none else bif !decide (Int.tmod a b = 0) then bif decide (a < 0) then some (.u (ui (IntKind.i64.wrap (IntKind.i64.wrap (Int.tdiv a b) - 1))), []) else some (.u (ui (IntKind.i64.wrap (Int.tdiv a b))), []) else some (.u (ui (IntKind.i64.wrap (Int.tdiv a b))), [])) := by kernel_rfl
theorem tdiv_in {a b : Int} (hb : 0 < b) (h1 : -4611686018427387904 ≤ a) (h2 : a ≤ 4611686018427387904) : -4611686018427387904 ≤ a.tdiv b ∧ a.tdiv b ≤ 4611686018427387904 := by
  have h : (a.tdiv b).natAbs ≤ a.natAbs := by rw [Int.natAbs_tdiv]; exact Nat.div_le_self _ _
  omega
theorem floor_eq {a b : Int} (hb : 0 < b) (h1 : -4611686018427387904 ≤ a) (h2 : a ≤ 4611686018427387904) (X : Int → R) :
    (bif !decide (Int.tmod a b = 0) then bif decide (a < 0) then X (IntKind.i64.wrap (IntKind.i64.wrap (Int.tdiv a b) - 1)) else X (IntKind.i64.wrap (Int.tdiv a b)) else X (IntKind.i64.wrap (Int.tdiv a b))) = X (a / b) := by
  obtain ⟨t1, t2⟩ := tdiv_in hb h1 h2
  rw [show IntKind.i64.wrap (Int.tdiv a b) = Int.tdiv a b from w64_in (by omega) (by omega), show IntKind.i64.wrap (Int.tdiv a b - 1) = Int.tdiv a b - 1 from w64_in (by omega) (by omega)]
  have h := tdiv_pos (a := a) hb
  by_cases h3 : a % b = 0
  · rw [decide_eq_true ((tmod_pos hb).2 h3), h, if_neg (fun c => c.1 h3)]; rfl
  · rw [decide_eq_false (fun c => h3 ((tmod_pos hb).1 c))]
    by_cases h4 : a < 0
    · rw [decide_eq_true h4, h, if_pos ⟨h3, h4⟩]
      show X (a / b + 1 - 1) = _
      rw [Int.add_sub_cancel]
    · rw [decide_eq_false h4, h, if_neg (fun c => h4 c.2)]; rfl
theorem k95 : FnOk Try.prog 95 Try.f95 := fk Try.func95 (by kernel_rfl) rfl
theorem told95 : Told Try.prog 95 (quoT dnq) := by
  refine told_flat (fuel := 9) (d := 3) (fns := [(95, Try.f95, [])]) mixed orc_nil (fns_cons k95 fns_nil) k95.enter quo_flat (fun args x h => ?_) fun args x h => ?_
  · obtain ⟨a, b, rfl, _⟩ := quo_val h; rfl
  · obtain ⟨a, b, rfl, hb, h1, h2, rfl⟩ := quo_val h
    rw [a95, decide_eq_false (show ¬ b = 0 by omega)]
    exact floor_eq hb h1 h2 fun n => some (.u (ui n), [])
theorem a96 (a b : Int) : ans Try.prog [(95, quoT dnq)] [(96, Try.f96, [])] 9 3 96 [.u (ui a), .u (ui b)] = quoK dnq (IntKind.i64.wrap (0 - a)) b fun q => some (.u (ui (IntKind.i64.wrap (0 - q))), []) := by kernel_rfl
theorem k96 : FnOk Try.prog 96 Try.f96 := fk Try.func96 (by kernel_rfl) rfl
theorem div_in {a b : Int} (hb : 0 < b) (h1 : -4611686018427387904 ≤ a) (h2 : a ≤ 4611686018427387904) : -4611686018427387904 ≤ a / b ∧ a / b ≤ 4611686018427387904 := by
  have h3 := Int.mul_ediv_self_le (x := a) (k := b) (by omega)
  have h4 := Int.lt_mul_ediv_self_add (x := a) hb
  refine ⟨?_, ?_⟩
  · exact Int.le_ediv_of_mul_le hb (by have := Int.mul_le_mul_of_nonneg_left (show (1:Int) ≤ b by omega) (show (0:Int) ≤ 4611686018427387904 by omega); omega)
  · have : a / b ≤ max 0 a := by
      by_cases h : 0 ≤ a
      · have := Int.ediv_le_self b h; omega
      · have := Int.ediv_neg_of_neg_of_pos (by omega : a < 0) hb; omega
    omega
theorem told96 : Told Try.prog 96 (quoT upq) := by
  refine told_flat (fuel := 9) (d := 3) (fns := [(96, Try.f96, [])]) mixed (orc_cons told95 orc_nil) (fns_cons k96 fns_nil) k96.enter quo_flat (fun args x h => ?_) fun args x h => ?_
  · obtain ⟨a, b, rfl, _⟩ := quo_val h; rfl
  · obtain ⟨a, b, rfl, hb, h1, h2, rfl⟩ := quo_val h
    rw [a96]
    unfold quoK
    rw [show IntKind.i64.wrap (0 - a) = -a by rw [Int.zero_sub]; exact w64_in (by omega) (by omega)]
    have hw : inW (-a) b = true := by simp only [inW, Bool.and_eq_true, decide_eq_true_eq]; omega
    rw [hw, cond_true]
    obtain ⟨d1, d2⟩ := div_in hb (a := -a) (by omega) (by omega)
    unfold dnq upq
    show some (V.u (ui (IntKind.i64.wrap (0 - -a / b))), []) = some (V.u (ui (-(-a / b))), [])
    rw [show IntKind.i64.wrap (0 - -a / b) = -(-a / b) by rw [Int.zero_sub]; exact w64_in (by omega) (by omega)]
/-! The functions of layer 27. -/
theorem k29 : FnOk Try.prog 29 Try.f29 := fk Try.func29 (by kernel_rfl) rfl
theorem k59 : FnOk Try.prog 59 Try.f59 := fk Try.func59 (by kernel_rfl) rfl
theorem k80 : FnOk Try.prog 80 Try.f80 := fk Try.func80 (by kernel_rfl) rfl
theorem k94 : FnOk Try.prog 94 Try.f94 := fk Try.func94 (by kernel_rfl) rfl
noncomputable def fnsI (f : FuncId) (fn : Func) : List (FuncId × Func × List (Nat × LV)) := [(f, fn, []), (29, Try.f29, []), (59, Try.f59, []), (80, Try.f80, []), (94, Try.f94, [])]
theorem fnsI_ok {f : FuncId} {fn : Func} (h : FnOk Try.prog f fn) : FnsOk Try.prog (fnsI f fn) := fns_cons h (fns_cons k29 (fns_cons k59 (fns_cons k80 (fns_cons k94 fns_nil))))
def orcQ : List (FuncId × (List V → Tree)) := [(95, quoT dnq), (96, quoT upq)]
theorem orcQ_ok : OrcOk Try.prog orcQ := orc_cons told95 (orc_cons told96 orc_nil)
def b29 (a b : Int) : R := bif decide (a ≤ b) then bif decide (-1073741824 ≤ a) then some (.u (.c (.bool (decide (b ≤ 1073741824)))), []) else some (.u (.c (.bool false)), []) else some (.u (.c (.bool false)), [])
theorem a29 (a b : Int) : ans Try.prog [] (fnsI 29 Try.f29) 9 6 29 [iv a b] = b29 a b := by kernel_rfl
theorem a74 (a b c d : Int) : ans Try.prog [] (fnsI 74 Try.f74) 9 6 74 [iv a b, iv c d] = V3 a b (V3 c d (mk3 (IntKind.i64.wrap (a + c)) (IntKind.i64.wrap (b + d))) (B 1)) (B 1) := by kernel_rfl
theorem a54 (a b c d : Int) : ans Try.prog [] (fnsI 54 Try.f54) 9 6 54 [iv a b, iv c d] = V3 a b (V3 c d (mk3 (IntKind.i64.wrap (a - d)) (IntKind.i64.wrap (b - c))) (B 1)) (B 1) := by kernel_rfl
def VV (a b : Int) (x y : R) : R := bif decide (a ≤ b) then bif decide (-1073741824 ≤ a) then bif decide (b ≤ 1073741824) then x else y else y else y
def VN (a b : Int) (x y : R) : R := bif decide (a ≤ b) then bif decide (-1073741824 ≤ a) then bif !decide (b ≤ 1073741824) then y else x else y else y
theorem a90 (a b : Int) : ans Try.prog [] (fnsI 90 Try.f90) 9 6 90 [iv a b] = VN a b (mk3 (IntKind.i64.wrap (0 - b)) (IntKind.i64.wrap (0 - a))) (B 1) := by kernel_rfl
theorem a69 (a b c d : Int) : ans Try.prog orcQ (fnsI 69 Try.f69) 9 6 69 [iv a b, iv c d] = V3 a b (V3 c d
    (quoK dnq (mnI (mnI (mnI (mnI (IntKind.i64.wrap (a * c)) (IntKind.i64.wrap (a * c))) (IntKind.i64.wrap (a * d))) (IntKind.i64.wrap (b * c))) (IntKind.i64.wrap (b * d))) 16777216 fun lo =>
    quoK upq (mxI (mxI (mxI (mxI (IntKind.i64.wrap (a * c)) (IntKind.i64.wrap (a * c))) (IntKind.i64.wrap (a * d))) (IntKind.i64.wrap (b * c))) (IntKind.i64.wrap (b * d))) 16777216 fun hi => mk3 lo hi) (B 1)) (B 1) := by kernel_rfl
def sqK (a b l : Int) : R := quoK dnq l 16777216 fun lo => quoK upq (mxI (mxI (IntKind.i64.wrap (a * a)) (IntKind.i64.wrap (a * a))) (IntKind.i64.wrap (b * b))) 16777216 fun hi => mk3 lo hi
theorem a86 (a b : Int) : ans Try.prog orcQ (fnsI 86 Try.f86) 9 6 86 [iv a b] = VN a b
    (bif decide (a ≤ 0) then bif decide (0 ≤ b) then sqK a b 0 else sqK a b (mnI (mnI (IntKind.i64.wrap (a * a)) (IntKind.i64.wrap (a * a))) (IntKind.i64.wrap (b * b))) else sqK a b (mnI (mnI (IntKind.i64.wrap (a * a)) (IntKind.i64.wrap (a * a))) (IntKind.i64.wrap (b * b)))) (B 1) := by kernel_rfl
theorem two_of {f : Int → Int → Int → Int → Tree} {a b c d : Int} {x : V × Heap} (h : (two f [iv a b, iv c d]).val = some x) {X : R} (hX : (-1073741824 ≤ a ∧ a ≤ b ∧ b ≤ 1073741824) → (-1073741824 ≤ c ∧ c ≤ d ∧ d ≤ 1073741824) → X = (f a b c d).val) : V3 a b (V3 c d X (B 1)) (B 1) = some x := by
  rw [V3_eq, V3_eq, ← h]
  show _ = (bif vI a b && vI c d then (f a b c d).val else B 1)
  cases h1 : vI a b
  · rfl
  · cases h2 : vI c d
    · rfl
    · rw [cond_true, cond_true, hX (vI_iff.1 h1) (vI_iff.1 h2)]; rfl
theorem one_of {f : Int → Int → Tree} {a b : Int} {x : V × Heap} (h : (one f [iv a b]).val = some x) {X : R} (hX : (-1073741824 ≤ a ∧ a ≤ b ∧ b ≤ 1073741824) → X = (f a b).val) : VN a b X (B 1) = some x := by
  show V3 a b X (B 1) = some x
  rw [V3_eq, ← h]
  show _ = (bif vI a b then (f a b).val else B 1)
  cases h1 : vI a b
  · rfl
  · rw [cond_true, cond_true, hX (vI_iff.1 h1)]
theorem two_bare {f : Int → Int → Int → Int → Tree} (args : List V) (x : V × Heap) (h : (two f args).val = some x) : args.all bareV? = true := by
  obtain ⟨a, b, c, d, rfl⟩ := two_val h; rfl
theorem one_bare {f : Int → Int → Tree} (args : List V) (x : V × Heap) (h : (one f args).val = some x) : args.all bareV? = true := by
  obtain ⟨a, b, rfl⟩ := one_val h; rfl
theorem wr {n : Int} (h : -9223372036854775808 ≤ n) (h' : n ≤ 9223372036854775807) : IntKind.i64.wrap n = n := w64_in h h'
theorem k74 : FnOk Try.prog 74 Try.f74 := fk Try.func74 (by kernel_rfl) rfl
theorem told74 : Told Try.prog 74 addT := by
  refine told_flat (fuel := 9) (d := 6) (fns := fnsI 74 Try.f74) mixed orc_nil (fnsI_ok k74) k74.enter (two_flat fun _ _ _ _ => rfl) two_bare fun args x h => ?_
  obtain ⟨a, b, c, d, rfl⟩ := two_val h
  rw [a74]
  refine two_of h fun h1 h2 => ?_
  rw [wr (by omega) (by omega), wr (by omega) (by omega), mk3_eq]
theorem k54 : FnOk Try.prog 54 Try.f54 := fk Try.func54 (by kernel_rfl) rfl
theorem told54 : Told Try.prog 54 subT := by
  refine told_flat (fuel := 9) (d := 6) (fns := fnsI 54 Try.f54) mixed orc_nil (fnsI_ok k54) k54.enter (two_flat fun _ _ _ _ => rfl) two_bare fun args x h => ?_
  obtain ⟨a, b, c, d, rfl⟩ := two_val h
  rw [a54]
  refine two_of h fun h1 h2 => ?_
  rw [wr (by omega) (by omega), wr (by omega) (by omega), mk3_eq]
theorem quoK_in {f : Int → Int → Int} {a b : Int} {k : Int → R} (hb : 0 < b) (h1 : -4611686018427387904 ≤ a) (h2 : a ≤ 4611686018427387904) : quoK f a b k = k (f a b) := by
  unfold quoK
  rw [show inW a b = true by simp only [inW, Bool.and_eq_true, decide_eq_true_eq]; omega]
  rfl
theorem k69 : FnOk Try.prog 69 Try.f69 := fk Try.func69 (by kernel_rfl) rfl
theorem told69 : Told Try.prog 69 mulT := by
  refine told_flat (fuel := 9) (d := 6) (fns := fnsI 69 Try.f69) mixed orcQ_ok (fnsI_ok k69) k69.enter (two_flat fun _ _ _ _ => rfl) two_bare fun args x h => ?_
  obtain ⟨a, b, c, d, rfl⟩ := two_val h
  rw [a69]
  refine two_of h fun h1 h2 => ?_
  have p1 := prod30 (a := a) (b := c) (by omega) (by omega)
  have p2 := prod30 (a := a) (b := d) (by omega) (by omega)
  have p3 := prod30 (a := b) (b := c) (by omega) (by omega)
  have p4 := prod30 (a := b) (b := d) (by omega) (by omega)
  rw [wr (n := a * c) (by omega) (by omega), wr (n := a * d) (by omega) (by omega), wr (n := b * c) (by omega) (by omega), wr (n := b * d) (by omega) (by omega)]
  simp only [mnI_eq, mxI_eq, Int.min_self, Int.max_self]
  rw [quoK_in (by omega) (by omega) (by omega), quoK_in (by omega) (by omega) (by omega), mk3_eq]
  rfl
theorem k86 : FnOk Try.prog 86 Try.f86 := fk Try.func86 (by kernel_rfl) rfl
theorem told86 : Told Try.prog 86 sqT := by
  refine told_flat (fuel := 9) (d := 6) (fns := fnsI 86 Try.f86) mixed orcQ_ok (fnsI_ok k86) k86.enter (one_flat fun _ _ => rfl) one_bare fun args x h => ?_
  obtain ⟨a, b, rfl⟩ := one_val h
  rw [a86]
  refine one_of h fun h1 => ?_
  have p1 := prod30 (a := a) (b := a) (by omega) (by omega)
  have p4 := prod30 (a := b) (b := b) (by omega) (by omega)
  unfold sqK
  rw [wr (n := a * a) (by omega) (by omega), wr (n := b * b) (by omega) (by omega)]
  simp only [mnI_eq, mxI_eq, Int.min_self, Int.max_self]
  rw [quoK_in (by omega) (by omega) (by omega), quoK_in (by omega) (by omega) (by omega), quoK_in (by omega) (by omega) (by omega), quoK_in (by omega) (by omega) (by omega), mk3_eq, mk3_eq]
  unfold sqL sqH
  by_cases h2 : a ≤ 0
  · by_cases h3 : 0 ≤ b
    · rw [decide_eq_true h2, decide_eq_true h3, if_pos ⟨h2, h3⟩]; rfl
    · rw [decide_eq_true h2, decide_eq_false h3, if_neg (fun c => h3 c.2)]; rfl
  · rw [decide_eq_false h2, if_neg (fun c => h2 c.1)]; rfl
theorem k90 : FnOk Try.prog 90 Try.f90 := fk Try.func90 (by kernel_rfl) rfl
theorem told90 : Told Try.prog 90 negT := by
  refine told_flat (fuel := 9) (d := 6) (fns := fnsI 90 Try.f90) mixed orc_nil (fnsI_ok k90) k90.enter (one_flat fun _ _ => rfl) one_bare fun args x h => ?_
  obtain ⟨a, b, rfl⟩ := one_val h
  rw [a90]
  refine one_of h fun h1 => ?_
  rw [wr (by omega) (by omega), wr (by omega) (by omega), mk3_eq, Int.zero_sub, Int.zero_sub]
  show (mkT (-b) (-a)).val = (okT (-b) (-a)).val
  simp only [mkT, Tree.val]
  rw [show inR (-b) (-a) = true by simp only [inR, Bool.and_eq_true, decide_eq_true_eq]; omega]
  rfl
theorem valid_val {args : List V} {x : V × Heap} (h : (validT args).val = some x) : ∃ a b, args = [iv a b] ∧ x = (.u (.c (.bool (vI a b))), []) := by
  unfold validT at h
  split at h
  · cases h; exact ⟨_, _, rfl, rfl⟩
  · cases h
theorem valid_flat (args : List V) : (validT args).flat = true := by unfold validT; split <;> rfl
theorem b29_eq (a b : Int) : b29 a b = some (.u (.c (.bool (vI a b))), []) := by
  unfold b29 vI
  cases decide (a ≤ b) <;> cases decide (-1073741824 ≤ a) <;> rfl
theorem told29 : Told Try.prog 29 validT := by
  refine told_flat (fuel := 9) (d := 6) (fns := fnsI 29 Try.f29) mixed orc_nil (fnsI_ok k29) k29.enter valid_flat (fun args x h => ?_) fun args x h => ?_
  · obtain ⟨a, b, rfl, _⟩ := valid_val h; rfl
  · obtain ⟨a, b, rfl, rfl⟩ := valid_val h
    rw [a29, b29_eq]
theorem k70 : FnOk Try.prog 70 Try.f70 := fk Try.func70 (by kernel_rfl) rfl
theorem a70 (a b : Int) : ans Try.prog [(29, validT)] [(70, Try.f70, [])] 9 6 70 [iv a b] = (bif !vI a b then some (.u (ui 0), []) else bif decide (0 < a) then some (.u (ui 1), []) else bif decide (b < 0) then some (.u (ui (-1)), []) else some (.u (ui 0), [])) := by kernel_rfl
theorem sign_val {args : List V} {x : V × Heap} (h : (signT args).val = some x) : ∃ a b, args = [iv a b] ∧ x = (.u (ui (sgn a b)), []) := by
  unfold signT at h
  split at h
  · cases h; exact ⟨_, _, rfl, rfl⟩
  · cases h
theorem sign_flat (args : List V) : (signT args).flat = true := by unfold signT; split <;> rfl
theorem told70 : Told Try.prog 70 signT := by
  refine told_flat (fuel := 9) (d := 6) (fns := [(70, Try.f70, [])]) mixed (orc_cons told29 orc_nil) (fns_cons k70 fns_nil) k70.enter sign_flat (fun args x h => ?_) fun args x h => ?_
  · obtain ⟨a, b, rfl, _⟩ := sign_val h; rfl
  · obtain ⟨a, b, rfl, rfl⟩ := sign_val h
    rw [a70]
    unfold sgn
    cases vI a b
    · rfl
    · rw [if_pos rfl]
      by_cases h1 : 0 < a
      · rw [decide_eq_true h1, if_pos h1]; rfl
      · rw [decide_eq_false h1, if_neg h1]
        by_cases h2 : b < 0
        · rw [decide_eq_true h2, if_pos h2]; rfl
        · rw [decide_eq_false h2, if_neg h2]; rfl
theorem k37 : FnOk Try.prog 37 Try.f37 := fk Try.func37 (by kernel_rfl) rfl
def tru (b : Bool) : R := some (.u (.c (.bool b)), [])
theorem a37 (a b c d : Int) : ans Try.prog [] (fnsI 37 Try.f37) 9 6 37 [iv a b, iv c d] = V3 a b (V3 c d (bif decide (c ≤ a) then tru (decide (b ≤ d)) else tru false) (tru false)) (tru false) := by kernel_rfl
theorem ins_val {args : List V} {x : V × Heap} (h : (insT args).val = some x) : ∃ a b c d, args = [iv a b, iv c d] ∧ x = (.u (.c (.bool (insI a b c d))), []) := by
  unfold insT at h
  split at h
  · cases h; exact ⟨_, _, _, _, rfl, rfl⟩
  · cases h
theorem ins_flat (args : List V) : (insT args).flat = true := by unfold insT; split <;> rfl
theorem told37 : Told Try.prog 37 insT := by
  refine told_flat (fuel := 9) (d := 6) (fns := fnsI 37 Try.f37) mixed orc_nil (fnsI_ok k37) k37.enter ins_flat (fun args x h => ?_) fun args x h => ?_
  · obtain ⟨a, b, c, d, rfl, _⟩ := ins_val h; rfl
  · obtain ⟨a, b, c, d, rfl, rfl⟩ := ins_val h
    rw [a37, V3_eq, V3_eq]
    unfold insI tru
    cases vI a b <;> cases vI c d <;> cases decide (c ≤ a) <;> rfl
theorem k111 : FnOk Try.prog 111 Try.f111 := fk Try.func111 (by kernel_rfl) rfl
def W (n : Int) : Int := IntKind.i64.wrap n
def divK (a b c d : Int) : R := quoK dnq (W (a * 16777216)) c fun p => quoK dnq (W (a * 16777216)) d fun q => quoK upq (W (b * 16777216)) c fun r => quoK upq (W (b * 16777216)) d fun s => mk3 (mnI (mnI p p) q) (mxI (mxI r r) s)
theorem a111 (a b c d : Int) : ans Try.prog orcQ (fnsI 111 Try.f111) 9 6 111 [iv a b, iv c d] = V3 a b (V3 c d (bif decide (c ≤ 0) then bif decide (0 ≤ d) then B 10 else bif decide (d < 0) then divK (W (0 - b)) (W (0 - a)) (W (0 - d)) (W (0 - c)) else divK a b c d else bif decide (d < 0) then divK (W (0 - b)) (W (0 - a)) (W (0 - d)) (W (0 - c)) else divK a b c d) (B 1)) (B 1) := by kernel_rfl
end Go.Proofs.Ytbgdfikfldkjbaa.AI
