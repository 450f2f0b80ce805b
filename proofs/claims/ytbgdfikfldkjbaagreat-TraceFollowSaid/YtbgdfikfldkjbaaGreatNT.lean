/- Intervals: the program's functions, told. -/
import Derived.Test.YtbgdfikfldkjbaaGreatNU
import Derived.Test.YtbgdfikfldkjbaaGreatProg
import Derived.KernelRfl
namespace Go.Proofs.YtbgdfikfldkjbaaGreat.AI
set_option linter.unnecessarySimpa false
open Go
set_option linter.unusedVariables false
set_option linter.unusedSimpArgs false
theorem orc_nil {P : Program} : OrcOk P [] := fun p hp => by cases hp
theorem orc_cons {P : Program} {f : FuncId} {g : List V → Tree} {r : List (FuncId × (List V → Tree))} (h : Told P f g) (hr : OrcOk P r) : OrcOk P ((f, g) :: r) := fun p hp => by
  rcases List.mem_cons.1 hp with rfl | hp
  · exact h
  · exact hr p hp
theorem fns_nil {P : Program} : FnsOk P [] := fun p hp => by cases hp
theorem fns_loops {P : Program} {f : FuncId} {fn : Func} {l : List (Nat × LV)} {r : List (FuncId × Func × List (Nat × LV))} (h : FnOk P f fn) (hl : ∀ c, fn.body = some c → LoopsOk P c l) (hr : FnsOk P r) : FnsOk P ((f, fn, l) :: r) := fun p hp => by
  rcases List.mem_cons.1 hp with rfl | hp
  · exact ⟨h, hl⟩
  · exact hr p hp
theorem loops_nil {P : Program} {c : Code} : LoopsOk P c [] := ⟨(fun b _ i v g _ h => by cases h), (fun b _ i v g _ h => by cases h)⟩
theorem fns_cons {P : Program} {f : FuncId} {fn : Func} {r : List (FuncId × Func × List (Nat × LV))} (h : FnOk P f fn) (hr : FnsOk P r) : FnsOk P ((f, fn, []) :: r) := fns_loops h (fun _ _ => loops_nil) hr
theorem mixed : Tryz.prog.follows .mixedOrders = true := by kernel_rfl
theorem fk {f : FuncId} {fn : Func} {c : Code} (hf : Tryz.prog.funcs[f]? = some fn) (hname : (fn.name == "runtime.NumGoroutine") = false) (hb : fn.body = some c) : FnOk Tryz.prog f fn := ⟨hf, enters_of hf hname hb⟩
/-! The trees as they come. -/
abbrev R := Option (V × Heap)
def B (e : Int) : R := (badT e).val
def O (a b : Int) : R := (okT a b).val
def V3 (a b : Int) (x y : R) : R := bif decide (a ≤ b) then bif decide (-1073741824 ≤ a) then bif !decide (b ≤ 1073741824) then y else x else y else y
theorem V3_eq (a b : Int) (x y : R) : V3 a b x y = bif vI a b then x else y := by
  unfold V3 vI
  cases decide (a ≤ b) <;> cases decide (-1073741824 ≤ a) <;> cases decide (b ≤ 1073741824) <;> rfl
def mk3 (lo hi : Int) : R := bif decide (lo < -1073741824) then B 3 else bif decide (1073741824 < hi) then B 3 else O lo hi
theorem mk3_eq (lo hi : Int) : mk3 lo hi = (mkT lo hi).val := by
  unfold mk3 mkT inR
  simp only [Tree.val]
  by_cases h1 : lo < -1073741824
  · rw [decide_eq_true h1, decide_eq_false (show ¬ -1073741824 ≤ lo by omega)]; rfl
  · rw [decide_eq_false h1, decide_eq_true (show -1073741824 ≤ lo by omega)]
    by_cases h2 : 1073741824 < hi
    · rw [decide_eq_true h2, decide_eq_false (show ¬ hi ≤ 1073741824 by omega)]; rfl
    · rw [decide_eq_false h2, decide_eq_true (show hi ≤ 1073741824 by omega)]; rfl
def mnI (x y : Int) : Int := if y < x then y else x
def mxI (x y : Int) : Int := if x < y then y else x
theorem mnI_eq (x y : Int) : mnI x y = min x y := by unfold mnI; omega
theorem mxI_eq (x y : Int) : mxI x y = max x y := by unfold mxI; omega
/-! Quotients. -/
def inW (a b : Int) : Bool := decide (0 < b) && (decide (-4611686018427387904 ≤ a) && decide (a ≤ 4611686018427387904))
def quoT (f : Int → Int → Int) : List V → Tree
  | [.u (.c (.int .i64 a)), .u (.c (.int .i64 b))] => .test (inW a b) (.leaf (.u (ui (f a b)))) .no
  | _ => .no
def quoK (f : Int → Int → Int) (a b : Int) (k : Int → R) : R := bif inW a b then k (f a b) else none
theorem quo_val {f : Int → Int → Int} {args : List V} {x : V × Heap} (h : (quoT f args).val = some x) : ∃ a b, args = [.u (ui a), .u (ui b)] ∧ 0 < b ∧ -4611686018427387904 ≤ a ∧ a ≤ 4611686018427387904 ∧ x = (.u (ui (f a b)), []) := by
  unfold quoT at h
  split at h
  · rename_i a b
    simp only [Tree.val] at h
    cases hw : inW a b
    · rw [hw] at h; cases h
    · rw [hw, cond_true] at h
      simp only [inW, Bool.and_eq_true, decide_eq_true_eq] at hw
      cases h
      exact ⟨a, b, rfl, hw.1, hw.2.1, hw.2.2, rfl⟩
  · cases h
theorem quo_flat {f : Int → Int → Int} (args : List V) : (quoT f args).flat = true := by
  unfold quoT
  split <;> rfl
theorem a95 (a b : Int) : ans Tryz.prog [] [(81, Tryz.f81, [])] 9 3 81 [.u (ui a), .u (ui b)] =
    (bif decide (b = 0) then none else bif decide (b = 0) then none else bif !decide (Int.tmod a b = 0) then bif decide (a < 0) then some (.u (ui (IntKind.i64.wrap (IntKind.i64.wrap (Int.tdiv a b) - 1))), []) else some (.u (ui (IntKind.i64.wrap (Int.tdiv a b))), []) else some (.u (ui (IntKind.i64.wrap (Int.tdiv a b))), [])) := by kernel_rfl
theorem tdiv_in {a b : Int} (hb : 0 < b) (h1 : -4611686018427387904 ≤ a) (h2 : a ≤ 4611686018427387904) : -4611686018427387904 ≤ a.tdiv b ∧ a.tdiv b ≤ 4611686018427387904 := by
  have h : (a.tdiv b).natAbs ≤ a.natAbs := by rw [Int.natAbs_tdiv]; exact Nat.div_le_self _ _
  omega
theorem floor_eq {a b : Int} (hb : 0 < b) (h1 : -4611686018427387904 ≤ a) (h2 : a ≤ 4611686018427387904) (X : Int → R) :
    (bif !decide (Int.tmod a b = 0) then bif decide (a < 0) then X (IntKind.i64.wrap (IntKind.i64.wrap (Int.tdiv a b) - 1)) else X (IntKind.i64.wrap (Int.tdiv a b)) else X (IntKind.i64.wrap (Int.tdiv a b))) = X (a / b) := by
  obtain ⟨t1, t2⟩ := tdiv_in hb h1 h2
  rw [show IntKind.i64.wrap (Int.tdiv a b) = Int.tdiv a b from w64_in (by omega) (by omega), show IntKind.i64.wrap (Int.tdiv a b - 1) = Int.tdiv a b - 1 from w64_in (by omega) (by omega)]
  have h := tdiv_pos (a := a) hb
  by_cases h3 : a % b = 0
  · rw [decide_eq_true ((tmod_pos hb).2 h3), h, if_neg (fun c => c.1 h3)]; rfl
  · rw [decide_eq_false (fun c => h3 ((tmod_pos hb).1 c))]
    by_cases h4 : a < 0
    · rw [decide_eq_true h4, h, if_pos ⟨h3, h4⟩]
      show X (a / b + 1 - 1) = _
      rw [Int.add_sub_cancel]
    · rw [decide_eq_false h4, h, if_neg (fun c => h4 c.2)]; rfl
theorem k95 : FnOk Tryz.prog 81 Tryz.f81 := fk Tryz.func81 (by kernel_rfl) rfl
theorem told95 : Told Tryz.prog 81 (quoT dnq) := by
  refine told_flat (fuel := 9) (d := 3) (fns := [(81, Tryz.f81, [])]) mixed orc_nil (fns_cons k95 fns_nil) k95.enter quo_flat (fun args x h => ?_) fun args x h => ?_
  · obtain ⟨a, b, rfl, _⟩ := quo_val h; rfl
  · obtain ⟨a, b, rfl, hb, h1, h2, rfl⟩ := quo_val h
    rw [a95, decide_eq_false (show ¬ b = 0 by omega)]
    exact floor_eq hb h1 h2 fun n => some (.u (ui n), [])
theorem a96 (a b : Int) : ans Tryz.prog [(81, quoT dnq)] [(82, Tryz.f82, [])] 9 3 82 [.u (ui a), .u (ui b)] = quoK dnq (IntKind.i64.wrap (0 - a)) b fun q => some (.u (ui (IntKind.i64.wrap (0 - q))), []) := by kernel_rfl
theorem k96 : FnOk Tryz.prog 82 Tryz.f82 := fk Tryz.func82 (by kernel_rfl) rfl
theorem div_in {a b : Int} (hb : 0 < b) (h1 : -4611686018427387904 ≤ a) (h2 : a ≤ 4611686018427387904) : -4611686018427387904 ≤ a / b ∧ a / b ≤ 4611686018427387904 := by
  have h3 := Int.mul_ediv_self_le (x := a) (k := b) (by omega)
  have h4 := Int.lt_mul_ediv_self_add (x := a) hb
  refine ⟨?_, ?_⟩
  · exact Int.le_ediv_of_mul_le hb (by have := Int.mul_le_mul_of_nonneg_left (show (1:Int) ≤ b by omega) (show (0:Int) ≤ 4611686018427387904 by omega); omega)
  · have : a / b ≤ max 0 a := by
      by_cases h : 0 ≤ a
      · have := Int.ediv_le_self b h; omega
      · have := Int.ediv_neg_of_neg_of_pos (by omega : a < 0) hb; omega
    omega
theorem told96 : Told Tryz.prog 82 (quoT upq) := by
  refine told_flat (fuel := 9) (d := 3) (fns := [(82, Tryz.f82, [])]) mixed (orc_cons told95 orc_nil) (fns_cons k96 fns_nil) k96.enter quo_flat (fun args x h => ?_) fun args x h => ?_
  · obtain ⟨a, b, rfl, _⟩ := quo_val h; rfl
  · obtain ⟨a, b, rfl, hb, h1, h2, rfl⟩ := quo_val h
    rw [a96]
    unfold quoK
    rw [show IntKind.i64.wrap (0 - a) = -a by rw [Int.zero_sub]; exact w64_in (by omega) (by omega)]
    have hw : inW (-a) b = true := by simp only [inW, Bool.and_eq_true, decide_eq_true_eq]; omega
    rw [hw, cond_true]
    obtain ⟨d1, d2⟩ := div_in hb (a := -a) (by omega) (by omega)
    unfold dnq upq
    show some (V.u (ui (IntKind.i64.wrap (0 - -a / b))), []) = some (V.u (ui (-(-a / b))), [])
    rw [show IntKind.i64.wrap (0 - -a / b) = -(-a / b) by rw [Int.zero_sub]; exact w64_in (by omega) (by omega)]
/-! The functions of layer 27. -/
theorem k29 : FnOk Tryz.prog 22 Tryz.f22 := fk Tryz.func22 (by kernel_rfl) rfl
theorem k59 : FnOk Tryz.prog 79 Tryz.f79 := fk Tryz.func79 (by kernel_rfl) rfl
theorem k80 : FnOk Tryz.prog 83 Tryz.f83 := fk Tryz.func83 (by kernel_rfl) rfl
theorem k94 : FnOk Tryz.prog 80 Tryz.f80 := fk Tryz.func80 (by kernel_rfl) rfl
noncomputable def fnsI (f : FuncId) (fn : Func) : List (FuncId × Func × List (Nat × LV)) := [(f, fn, []), (22, Tryz.f22, []), (79, Tryz.f79, []), (83, Tryz.f83, []), (80, Tryz.f80, [])]
theorem fnsI_ok {f : FuncId} {fn : Func} (h : FnOk Tryz.prog f fn) : FnsOk Tryz.prog (fnsI f fn) := fns_cons h (fns_cons k29 (fns_cons k59 (fns_cons k80 (fns_cons k94 fns_nil))))
def orcQ : List (FuncId × (List V → Tree)) := [(81, quoT dnq), (82, quoT upq)]
theorem orcQ_ok : OrcOk Tryz.prog orcQ := orc_cons told95 (orc_cons told96 orc_nil)
def b29 (a b : Int) : R := bif decide (a ≤ b) then bif decide (-1073741824 ≤ a) then some (.u (.c (.bool (decide (b ≤ 1073741824)))), []) else some (.u (.c (.bool false)), []) else some (.u (.c (.bool false)), [])
theorem a29 (a b : Int) : ans Tryz.prog [] (fnsI 22 Tryz.f22) 9 6 22 [iv a b] = b29 a b := by kernel_rfl
theorem a74 (a b c d : Int) : ans Tryz.prog [] (fnsI 62 Tryz.f62) 9 6 62 [iv a b, iv c d] = V3 a b (V3 c d (mk3 (IntKind.i64.wrap (a + c)) (IntKind.i64.wrap (b + d))) (B 1)) (B 1) := by kernel_rfl
theorem a54 (a b c d : Int) : ans Tryz.prog [] (fnsI 73 Tryz.f73) 9 6 73 [iv a b, iv c d] = V3 a b (V3 c d (mk3 (IntKind.i64.wrap (a - d)) (IntKind.i64.wrap (b - c))) (B 1)) (B 1) := by kernel_rfl
def VV (a b : Int) (x y : R) : R := bif decide (a ≤ b) then bif decide (-1073741824 ≤ a) then bif decide (b ≤ 1073741824) then x else y else y else y
def VN (a b : Int) (x y : R) : R := bif decide (a ≤ b) then bif decide (-1073741824 ≤ a) then bif !decide (b ≤ 1073741824) then y else x else y else y
theorem a90 (a b : Int) : ans Tryz.prog [] (fnsI 87 Tryz.f87) 9 6 87 [iv a b] = VN a b (mk3 (IntKind.i64.wrap (0 - b)) (IntKind.i64.wrap (0 - a))) (B 1) := by kernel_rfl
theorem a69 (a b c d : Int) : ans Tryz.prog orcQ (fnsI 58 Tryz.f58) 9 6 58 [iv a b, iv c d] = V3 a b (V3 c d
    (quoK dnq (mnI (mnI (mnI (mnI (IntKind.i64.wrap (a * c)) (IntKind.i64.wrap (a * c))) (IntKind.i64.wrap (a * d))) (IntKind.i64.wrap (b * c))) (IntKind.i64.wrap (b * d))) 16777216 fun lo =>
    quoK upq (mxI (mxI (mxI (mxI (IntKind.i64.wrap (a * c)) (IntKind.i64.wrap (a * c))) (IntKind.i64.wrap (a * d))) (IntKind.i64.wrap (b * c))) (IntKind.i64.wrap (b * d))) 16777216 fun hi => mk3 lo hi) (B 1)) (B 1) := by kernel_rfl
def sqK (a b l : Int) : R := quoK dnq l 16777216 fun lo => quoK upq (mxI (mxI (IntKind.i64.wrap (a * a)) (IntKind.i64.wrap (a * a))) (IntKind.i64.wrap (b * b))) 16777216 fun hi => mk3 lo hi
theorem a86 (a b : Int) : ans Tryz.prog orcQ (fnsI 106 Tryz.f106) 9 6 106 [iv a b] = VN a b
    (bif decide (a ≤ 0) then bif decide (0 ≤ b) then sqK a b 0 else sqK a b (mnI (mnI (IntKind.i64.wrap (a * a)) (IntKind.i64.wrap (a * a))) (IntKind.i64.wrap (b * b))) else sqK a b (mnI (mnI (IntKind.i64.wrap (a * a)) (IntKind.i64.wrap (a * a))) (IntKind.i64.wrap (b * b)))) (B 1) := by kernel_rfl
theorem two_of {f : Int → Int → Int → Int → Tree} {a b c d : Int} {x : V × Heap} (h : (two f [iv a b, iv c d]).val = some x) {X : R} (hX : (-1073741824 ≤ a ∧ a ≤ b ∧ b ≤ 1073741824) → (-1073741824 ≤ c ∧ c ≤ d ∧ d ≤ 1073741824) → X = (f a b c d).val) : V3 a b (V3 c d X (B 1)) (B 1) = some x := by
  rw [V3_eq, V3_eq, ← h]
  show _ = (bif vI a b && vI c d then (f a b c d).val else B 1)
  cases h1 : vI a b
  · rfl
  · cases h2 : vI c d
    · rfl
    · rw [cond_true, cond_true, hX (vI_iff.1 h1) (vI_iff.1 h2)]; rfl
theorem one_of {f : Int → Int → Tree} {a b : Int} {x : V × Heap} (h : (one f [iv a b]).val = some x) {X : R} (hX : (-1073741824 ≤ a ∧ a ≤ b ∧ b ≤ 1073741824) → X = (f a b).val) : VN a b X (B 1) = some x := by
  show V3 a b X (B 1) = some x
  rw [V3_eq, ← h]
  show _ = (bif vI a b then (f a b).val else B 1)
  cases h1 : vI a b
  · rfl
  · rw [cond_true, cond_true, hX (vI_iff.1 h1)]
theorem two_bare {f : Int → Int → Int → Int → Tree} (args : List V) (x : V × Heap) (h : (two f args).val = some x) : args.all bareV? = true := by
  obtain ⟨a, b, c, d, rfl⟩ := two_val h; rfl
theorem one_bare {f : Int → Int → Tree} (args : List V) (x : V × Heap) (h : (one f args).val = some x) : args.all bareV? = true := by
  obtain ⟨a, b, rfl⟩ := one_val h; rfl
theorem wr {n : Int} (h : -9223372036854775808 ≤ n) (h' : n ≤ 9223372036854775807) : IntKind.i64.wrap n = n := w64_in h h'
theorem k74 : FnOk Tryz.prog 62 Tryz.f62 := fk Tryz.func62 (by kernel_rfl) rfl
theorem told74 : Told Tryz.prog 62 addT := by
  refine told_flat (fuel := 9) (d := 6) (fns := fnsI 62 Tryz.f62) mixed orc_nil (fnsI_ok k74) k74.enter (two_flat fun _ _ _ _ => rfl) two_bare fun args x h => ?_
  obtain ⟨a, b, c, d, rfl⟩ := two_val h
  rw [a74]
  refine two_of h fun h1 h2 => ?_
  rw [wr (by omega) (by omega), wr (by omega) (by omega), mk3_eq]
theorem k54 : FnOk Tryz.prog 73 Tryz.f73 := fk Tryz.func73 (by kernel_rfl) rfl
theorem told54 : Told Tryz.prog 73 subT := by
  refine told_flat (fuel := 9) (d := 6) (fns := fnsI 73 Tryz.f73) mixed orc_nil (fnsI_ok k54) k54.enter (two_flat fun _ _ _ _ => rfl) two_bare fun args x h => ?_
  obtain ⟨a, b, c, d, rfl⟩ := two_val h
  rw [a54]
  refine two_of h fun h1 h2 => ?_
  rw [wr (by omega) (by omega), wr (by omega) (by omega), mk3_eq]
theorem quoK_in {f : Int → Int → Int} {a b : Int} {k : Int → R} (hb : 0 < b) (h1 : -4611686018427387904 ≤ a) (h2 : a ≤ 4611686018427387904) : quoK f a b k = k (f a b) := by
  unfold quoK
  rw [show inW a b = true by simp only [inW, Bool.and_eq_true, decide_eq_true_eq]; omega]
  rfl
theorem k69 : FnOk Tryz.prog 58 Tryz.f58 := fk Tryz.func58 (by kernel_rfl) rfl
theorem told69 : Told Tryz.prog 58 mulT := by
  refine told_flat (fuel := 9) (d := 6) (fns := fnsI 58 Tryz.f58) mixed orcQ_ok (fnsI_ok k69) k69.enter (two_flat fun _ _ _ _ => rfl) two_bare fun args x h => ?_
  obtain ⟨a, b, c, d, rfl⟩ := two_val h
  rw [a69]
  refine two_of h fun h1 h2 => ?_
  have p1 := prod30 (a := a) (b := c) (by omega) (by omega)
  have p2 := prod30 (a := a) (b := d) (by omega) (by omega)
  have p3 := prod30 (a := b) (b := c) (by omega) (by omega)
  have p4 := prod30 (a := b) (b := d) (by omega) (by omega)
  rw [wr (n := a * c) (by omega) (by omega), wr (n := a * d) (by omega) (by omega), wr (n := b * c) (by omega) (by omega), wr (n := b * d) (by omega) (by omega)]
  simp only [mnI_eq, mxI_eq, Int.min_self, Int.max_self]
  rw [quoK_in (by omega) (by omega) (by omega), quoK_in (by omega) (by omega) (by omega), mk3_eq]
  rfl
theorem k86 : FnOk Tryz.prog 106 Tryz.f106 := fk Tryz.func106 (by kernel_rfl) rfl
theorem told86 : Told Tryz.prog 106 sqT := by
  refine told_flat (fuel := 9) (d := 6) (fns := fnsI 106 Tryz.f106) mixed orcQ_ok (fnsI_ok k86) k86.enter (one_flat fun _ _ => rfl) one_bare fun args x h => ?_
  obtain ⟨a, b, rfl⟩ := one_val h
  rw [a86]
  refine one_of h fun h1 => ?_
  have p1 := prod30 (a := a) (b := a) (by omega) (by omega)
  have p4 := prod30 (a := b) (b := b) (by omega) (by omega)
  unfold sqK
  rw [wr (n := a * a) (by omega) (by omega), wr (n := b * b) (by omega) (by omega)]
  simp only [mnI_eq, mxI_eq, Int.min_self, Int.max_self]
  rw [quoK_in (by omega) (by omega) (by omega), quoK_in (by omega) (by omega) (by omega), quoK_in (by omega) (by omega) (by omega), quoK_in (by omega) (by omega) (by omega), mk3_eq, mk3_eq]
  unfold sqL sqH
  by_cases h2 : a ≤ 0
  · by_cases h3 : 0 ≤ b
    · rw [decide_eq_true h2, decide_eq_true h3, if_pos ⟨h2, h3⟩]; rfl
    · rw [decide_eq_true h2, decide_eq_false h3, if_neg (fun c => h3 c.2)]; rfl
  · rw [decide_eq_false h2, if_neg (fun c => h2 c.1)]; rfl
theorem k90 : FnOk Tryz.prog 87 Tryz.f87 := fk Tryz.func87 (by kernel_rfl) rfl
theorem told90 : Told Tryz.prog 87 negT := by
  refine told_flat (fuel := 9) (d := 6) (fns := fnsI 87 Tryz.f87) mixed orc_nil (fnsI_ok k90) k90.enter (one_flat fun _ _ => rfl) one_bare fun args x h => ?_
  obtain ⟨a, b, rfl⟩ := one_val h
  rw [a90]
  refine one_of h fun h1 => ?_
  rw [wr (by omega) (by omega), wr (by omega) (by omega), mk3_eq, Int.zero_sub, Int.zero_sub]
  show (mkT (-b) (-a)).val = (okT (-b) (-a)).val
  simp only [mkT, Tree.val]
  rw [show inR (-b) (-a) = true by simp only [inR, Bool.and_eq_true, decide_eq_true_eq]; omega]
  rfl
theorem valid_val {args : List V} {x : V × Heap} (h : (validT args).val = some x) : ∃ a b, args = [iv a b] ∧ x = (.u (.c (.bool (vI a b))), []) := by
  unfold validT at h
  split at h
  · cases h; exact ⟨_, _, rfl, rfl⟩
  · cases h
theorem valid_flat (args : List V) : (validT args).flat = true := by unfold validT; split <;> rfl
theorem b29_eq (a b : Int) : b29 a b = some (.u (.c (.bool (vI a b))), []) := by
  unfold b29 vI
  cases decide (a ≤ b) <;> cases decide (-1073741824 ≤ a) <;> rfl
theorem told29 : Told Tryz.prog 22 validT := by
  refine told_flat (fuel := 9) (d := 6) (fns := fnsI 22 Tryz.f22) mixed orc_nil (fnsI_ok k29) k29.enter valid_flat (fun args x h => ?_) fun args x h => ?_
  · obtain ⟨a, b, rfl, _⟩ := valid_val h; rfl
  · obtain ⟨a, b, rfl, rfl⟩ := valid_val h
    rw [a29, b29_eq]
theorem k70 : FnOk Tryz.prog 47 Tryz.f47 := fk Tryz.func47 (by kernel_rfl) rfl
theorem a70 (a b : Int) : ans Tryz.prog [(22, validT)] [(47, Tryz.f47, [])] 9 6 47 [iv a b] = (bif !vI a b then some (.u (ui 0), []) else bif decide (0 < a) then some (.u (ui 1), []) else bif decide (b < 0) then some (.u (ui (-1)), []) else some (.u (ui 0), [])) := by kernel_rfl
theorem sign_val {args : List V} {x : V × Heap} (h : (signT args).val = some x) : ∃ a b, args = [iv a b] ∧ x = (.u (ui (sgn a b)), []) := by
  unfold signT at h
  split at h
  · cases h; exact ⟨_, _, rfl, rfl⟩
  · cases h
theorem sign_flat (args : List V) : (signT args).flat = true := by unfold signT; split <;> rfl
theorem told70 : Told Tryz.prog 47 signT := by
  refine told_flat (fuel := 9) (d := 6) (fns := [(47, Tryz.f47, [])]) mixed (orc_cons told29 orc_nil) (fns_cons k70 fns_nil) k70.enter sign_flat (fun args x h => ?_) fun args x h => ?_
  · obtain ⟨a, b, rfl, _⟩ := sign_val h; rfl
  · obtain ⟨a, b, rfl, rfl⟩ := sign_val h
    rw [a70]
    unfold sgn
    cases vI a b
    · rfl
    · rw [if_pos rfl]
      by_cases h1 : 0 < a
      · rw [decide_eq_true h1, if_pos h1]; rfl
      · rw [decide_eq_false h1, if_neg h1]
        by_cases h2 : b < 0
        · rw [decide_eq_true h2, if_pos h2]; rfl
        · rw [decide_eq_false h2, if_neg h2]; rfl
def tru (b : Bool) : R := some (.u (.c (.bool b)), [])
theorem ins_val {args : List V} {x : V × Heap} (h : (insT args).val = some x) : ∃ a b c d, args = [iv a b, iv c d] ∧ x = (.u (.c (.bool (insI a b c d))), []) := by
  unfold insT at h
  split at h
  · cases h; exact ⟨_, _, _, _, rfl, rfl⟩
  · cases h
theorem ins_flat (args : List V) : (insT args).flat = true := by unfold insT; split <;> rfl
theorem k111 : FnOk Tryz.prog 44 Tryz.f44 := fk Tryz.func44 (by kernel_rfl) rfl
def W (n : Int) : Int := IntKind.i64.wrap n
def divK (a b c d : Int) : R := quoK dnq (W (a * 16777216)) c fun p => quoK dnq (W (a * 16777216)) d fun q => quoK upq (W (b * 16777216)) c fun r => quoK upq (W (b * 16777216)) d fun s => mk3 (mnI (mnI p p) q) (mxI (mxI r r) s)
theorem a111 (a b c d : Int) : ans Tryz.prog orcQ (fnsI 44 Tryz.f44) 9 6 44 [iv a b, iv c d] = V3 a b (V3 c d (bif decide (c ≤ 0) then bif decide (0 ≤ d) then B 10 else bif decide (d < 0) then divK (W (0 - b)) (W (0 - a)) (W (0 - d)) (W (0 - c)) else divK a b c d else bif decide (d < 0) then divK (W (0 - b)) (W (0 - a)) (W (0 - d)) (W (0 - c)) else divK a b c d) (B 1)) (B 1) := by kernel_rfl
end Go.Proofs.YtbgdfikfldkjbaaGreat.AI
