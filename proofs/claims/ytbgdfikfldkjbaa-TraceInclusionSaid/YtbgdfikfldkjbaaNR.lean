/- The square root of layer 27, told: a loop of 32 rounds. -/
import Derived.Test.YtbgdfikfldkjbaaNT
namespace Go.Proofs.Ytbgdfikfldkjbaa.AI
set_option linter.unnecessarySimpa false
open Go
set_option linter.unusedVariables false
set_option linter.unusedSimpArgs false
noncomputable def loopOf (fn : Func) (i : Nat) : Code := ((loops (fn.body.getD .skip))[i]?).getD .skip
def rootGo (n : Int) : Nat → Int → Int
  | 0, r => r
  | k + 1, r => if r + 2 ^ k ≤ n / (r + 2 ^ k) then rootGo n k (r + 2 ^ k) else rootGo n k r
def rootI (n : Int) : Int := rootGo n 32 0
noncomputable def body99 : Code := loopOf Try.f99 0
def lv99 : List (Nat × LV) := [(3, ⟨[0, 3, 4], [3], [], none⟩)]
noncomputable abbrev round99 {α : Type} (F : Nat) : List V → Heap → List Foot → KT α → Option α := codeA Try.prog (env Try.prog [] [] 9 3) F lv99 body99
def T99 (n r bit : Int) : List V := [.u (ui n), .any, .any, .u (ui r), .u (ui bit), .any, .any, .any, .any, .any, .any, .any, .any, .any, .any, .any, .any, .any, .any, .any]
def E99 (n r bit : Int) : List V := [.any, .any, .any, .u (ui r), .any, .any, .any, .any, .any, .any, .any, .any, .any, .any, .any, .any, .any, .any, .any, .any]
theorem step99 {α : Type} (n r bit : Int) (F fuel : Nat) (L : List Foot) (k : KT α) : loopA 0 [0, 3, 4] [3] (round99 F) (fuel + 1) (T99 n r bit) [] L k =
    bif decide (0 < bit) then bif decide (IntKind.i64.wrap (r + bit) = 0) then none else bif decide (IntKind.i64.wrap (r + bit) ≤ IntKind.i64.wrap (Int.tdiv n (IntKind.i64.wrap (r + bit)))) then loopA 0 [0, 3, 4] [3] (round99 F) fuel (T99 n (IntKind.i64.wrap (r + bit)) (Int.fdiv bit 2)) [] L k
      else loopA 0 [0, 3, 4] [3] (round99 F) fuel (T99 n r (Int.fdiv bit 2)) [] L k
    else k (.exit 0) (E99 n r bit) [] L := by kernel_rfl
def bitOf : Nat → Int
  | 0 => 0
  | k + 1 => 2 ^ k
theorem bitOf_half : ∀ k, Int.fdiv (bitOf (k + 1)) 2 = bitOf k
  | 0 => rfl
  | k + 1 => by
    show Int.fdiv ((2 : Int) ^ (k + 1)) 2 = 2 ^ k
    rw [Int.fdiv_eq_ediv_of_nonneg _ (by omega), Int.pow_succ]; omega
theorem pow_pos2 (k : Nat) : (0 : Int) < 2 ^ k := Int.pow_pos (by omega)
theorem pow_le2 {k : Nat} (h : k ≤ 31) : (2 : Int) ^ k ≤ 2147483648 := by
  have h1 : 2 ^ k ≤ 2 ^ 31 := Nat.pow_le_pow_right (by omega) h
  have h2 : ((2 ^ k : Nat) : Int) = (2 : Int) ^ k := by simp
  rw [← h2]
  omega
theorem run99 {α : Type} {n : Int} (h0 : 0 ≤ n) (h1 : n ≤ 4611686018427387904) (F : Nat) (L : List Foot) (k : KT α) : ∀ (m : Nat) (r : Int) (fuel : Nat), m ≤ 32 → m < fuel → 0 ≤ r → r ≤ 8589934592 - 2 * 2 ^ m → loopA 0 [0, 3, 4] [3] (round99 F) fuel (T99 n r (bitOf m)) [] L k = k (.exit 0) (E99 n (rootGo n m r) 0) [] L
  | 0, r, fuel + 1, _, _, _, _ => step99 n r 0 F fuel L k
  | m + 1, r, fuel + 1, hm, hf, hr, hb => by
    rw [step99, show bitOf (m + 1) = 2 ^ m from rfl]
    have p := pow_pos2 m
    have q := pow_le2 (show m ≤ 31 by omega)
    have e2 : (2 : Int) ^ (m + 1) = 2 * 2 ^ m := by rw [Int.pow_succ]; omega
    rw [e2] at hb
    rw [decide_eq_true p, cond_true]
    rw [show IntKind.i64.wrap (r + 2 ^ m) = r + 2 ^ m from wr (by omega) (by omega)]
    rw [decide_eq_false (show ¬ (r + 2 ^ m = 0) by omega), cond_false]
    have hq := div_in (a := n) (b := r + 2 ^ m) (by omega) (by omega) (by omega)
    rw [Int.tdiv_eq_ediv_of_nonneg h0, wr (n := n / (r + 2 ^ m)) (by omega) (by omega)]
    rw [show Int.fdiv ((2 : Int) ^ m) 2 = bitOf m from bitOf_half m]
    unfold rootGo
    by_cases hc : r + 2 ^ m ≤ n / (r + 2 ^ m)
    · rw [decide_eq_true hc, cond_true, if_pos hc]
      exact run99 h0 h1 F L k m (r + 2 ^ m) fuel (by omega) (by omega) (by omega) (by omega)
    · rw [decide_eq_false hc, cond_false, if_neg hc]
      exact run99 h0 h1 F L k m r fuel (by omega) (by omega) (by omega) (by omega)
def in62 (n : Int) : Bool := decide (0 ≤ n) && decide (n ≤ 4611686018427387904)
def g99 : List V → Heap → LTree
  | [.u (.c (.int .i64 n)), .any, .any, .u (.c (.int .i64 r)), .u (.c (.int .i64 b)), .any, .any, .any, .any, .any, .any, .any, .any, .any, .any, .any, .any, .any, .any, .any], [] => .test (in62 n && (decide (r = 0) && decide (b = 2147483648))) (.leaf (.exit 0) (E99 n (rootI n) 0) [] []) .no
  | _, _ => .no
theorem entry99 {α : Type} (n : Int) (F : Nat) (L : List Foot) (k : KT α) : codeA Try.prog (env Try.prog [] [] 9 3) F lv99 (.loop body99) (T99 n 0 2147483648) [] L k = loopA 0 [0, 3, 4] [3] (round99 F) F (T99 n 0 2147483648) [] L k := by kernel_rfl
theorem g99_val {T : List V} {H : Heap} {x : Ex × List V × Heap × List Foot} (h : (g99 T H).val = some x) : ∃ n, T = T99 n 0 2147483648 ∧ H = [] ∧ 0 ≤ n ∧ n ≤ 4611686018427387904 ∧ x = (.exit 0, E99 n (rootI n) 0, [], []) := by
  unfold g99 at h
  split at h
  · rename_i n r b
    simp only [LTree.val] at h
    cases hc : (in62 n && (decide (r = 0) && decide (b = 2147483648)))
    · rw [hc] at h; cases h
    · rw [hc, cond_true] at h
      simp only [in62, Bool.and_eq_true, decide_eq_true_eq] at hc
      obtain ⟨⟨h1, h2⟩, rfl, rfl⟩ := hc
      cases h
      exact ⟨n, rfl, rfl, h1, h2, rfl⟩
  · cases h
theorem loop_bodies99 : loops (Try.f99.body.getD .skip) = [body99] := by kernel_rfl
theorem key99 : keyOf body99 = some 3 := by kernel_rfl
theorem loops99 : loops body99 = [] := by kernel_rfl
theorem told_loop99 : LoopTold Try.prog body99 g99 := by
  refine loop_told mixed fun T H ex T' H' l hg => ?_
  obtain ⟨n, rfl, rfl, h0, h1, hx⟩ := g99_val hg
  cases hx
  refine ⟨env Try.prog [] [] 9 3, 40, lv99, [], env_ok mixed orc_nil fns_nil 9 3, untold (fun p hp => by rw [lv99, List.mem_singleton] at hp; rw [hp]), fun f hf => hf, ?_⟩
  rw [entry99]
  exact run99 h0 h1 40 [] _ 32 0 40 (by omega) (by omega) (by omega) (by omega)
def lw99 : List (Nat × LV) := [(3, ⟨[0, 3, 4], [3], [], some g99⟩)]
theorem ok99 : ∀ c, Try.f99.body = some c → LoopsOk Try.prog c lw99 := loopsOk_one loop_bodies99 key99 told_loop99
theorem k99 : FnOk Try.prog 99 Try.f99 := fk Try.func99 (by kernel_rfl) rfl
def rootT : List V → Tree
  | [.u (.c (.int .i64 n))] => .test (in62 n) (.leaf (.u (ui (rootI n)))) .no
  | _ => .no
theorem a99 (n : Int) : ans Try.prog [] [(99, Try.f99, lw99)] 9 3 99 [.u (ui n)] = bif in62 n && (decide (0 = 0) && decide ((2147483648 : Int) = 2147483648)) then some (.u (ui (rootI n)), []) else none := by kernel_rfl
theorem root_val {args : List V} {x : V × Heap} (h : (rootT args).val = some x) : ∃ n, args = [.u (ui n)] ∧ in62 n = true ∧ x = (.u (ui (rootI n)), []) := by
  unfold rootT at h
  split at h
  · rename_i n
    simp only [Tree.val] at h
    cases hc : in62 n
    · rw [hc] at h; cases h
    · rw [hc, cond_true] at h; cases h; exact ⟨n, rfl, hc, rfl⟩
  · cases h
theorem root_flat (args : List V) : (rootT args).flat = true := by unfold rootT; split <;> rfl
theorem told99 : Told Try.prog 99 rootT := by
  refine told_flat (fuel := 9) (d := 3) (fns := [(99, Try.f99, lw99)]) mixed orc_nil (fns_loops k99 ok99 fns_nil) k99.enter root_flat (fun args x h => ?_) fun args x h => ?_
  · obtain ⟨n, rfl, _⟩ := root_val h; rfl
  · obtain ⟨n, rfl, h1, rfl⟩ := root_val h
    rw [a99, h1]
    rfl
def sqrtL (a : Int) : Int := rootI (a * 16777216)
def sqrtH (b : Int) : Int := if rootI (b * 16777216) * rootI (b * 16777216) < b * 16777216 then rootI (b * 16777216) + 1 else rootI (b * 16777216)
def sqrtT := one fun a b => .test (decide (a < 0)) (badT 2) (mkT (sqrtL a) (sqrtH b))
theorem k89 : FnOk Try.prog 89 Try.f89 := fk Try.func89 (by kernel_rfl) rfl
def rootK (n : Int) (k : Int → R) : R := bif in62 n then k (rootI n) else none
theorem a89 (a b : Int) : ans Try.prog [(99, rootT)] (fnsI 89 Try.f89) 9 6 89 [iv a b] = VN a b (bif decide (a < 0) then B 2 else rootK (IntKind.i64.wrap (a * 16777216)) fun p => rootK (IntKind.i64.wrap (b * 16777216)) fun q => bif decide (IntKind.i64.wrap (q * q) < IntKind.i64.wrap (b * 16777216)) then mk3 p (IntKind.i64.wrap (q + 1)) else mk3 p q) (B 1) := by kernel_rfl
theorem rootGo_spec {n : Int} : ∀ (k : Nat) (r : Int), 0 ≤ r → r * r ≤ n → n < (r + 2 ^ k) * (r + 2 ^ k) → 0 ≤ rootGo n k r ∧ rootGo n k r * rootGo n k r ≤ n ∧ n < (rootGo n k r + 1) * (rootGo n k r + 1)
  | 0, r, h1, h2, h3 => ⟨h1, h2, by simpa [rootGo] using h3⟩
  | k + 1, r, h1, h2, h3 => by
    have p := pow_pos2 k
    have hx : 0 < r + 2 ^ k := by omega
    unfold rootGo
    by_cases hc : r + 2 ^ k ≤ n / (r + 2 ^ k)
    · rw [if_pos hc]
      refine rootGo_spec k _ (by omega) ((Int.le_ediv_iff_mul_le hx).1 hc) ?_
      rw [show r + 2 ^ k + 2 ^ k = r + 2 ^ (k + 1) by rw [Int.pow_succ]; omega]
      exact h3
    · rw [if_neg hc]
      exact rootGo_spec k r h1 h2 (Int.not_le.1 fun h => hc ((Int.le_ediv_iff_mul_le hx).2 h))
theorem root_spec {n : Int} (h0 : 0 ≤ n) (h1 : n ≤ 4611686018427387904) : 0 ≤ rootI n ∧ rootI n * rootI n ≤ n ∧ n < (rootI n + 1) * (rootI n + 1) :=
  rootGo_spec 32 0 (by omega) (by omega) (by
    show n < (0 + 4294967296) * (0 + 4294967296)
    omega)
theorem root_lt {n : Int} (h0 : 0 ≤ n) (h1 : n ≤ 4611686018427387904) : rootI n ≤ 2147483648 := by
  obtain ⟨a, b, c⟩ := root_spec h0 h1
  rcases Int.lt_or_le 2147483648 (rootI n) with h | h
  · have := Int.mul_le_mul (show 2147483649 ≤ rootI n by omega) (show 2147483649 ≤ rootI n by omega) (by omega) (by omega)
    omega
  · exact h
theorem rootK_in {n : Int} {k : Int → R} (h0 : 0 ≤ n) (h1 : n ≤ 4611686018427387904) : rootK n k = k (rootI n) := by
  unfold rootK
  rw [show in62 n = true by simp only [in62, Bool.and_eq_true, decide_eq_true_eq]; omega]
  rfl
theorem told89 : Told Try.prog 89 sqrtT := by
  refine told_flat (fuel := 9) (d := 6) (fns := fnsI 89 Try.f89) mixed (orc_cons told99 orc_nil) (fnsI_ok k89) k89.enter (one_flat fun _ _ => rfl) one_bare fun args x h => ?_
  obtain ⟨a, b, rfl⟩ := one_val h
  rw [a89]
  refine one_of h fun h1 => ?_
  show _ = (bif decide (a < 0) then B 2 else (mkT (sqrtL a) (sqrtH b)).val)
  by_cases h2 : a < 0
  · rw [decide_eq_true h2]; rfl
  · rw [decide_eq_false h2, cond_false, cond_false]
    rw [wr (n := a * 16777216) (by omega) (by omega), wr (n := b * 16777216) (by omega) (by omega)]
    rw [rootK_in (by omega) (by omega), rootK_in (by omega) (by omega)]
    obtain ⟨s1, s2, s3⟩ := root_spec (n := b * 16777216) (by omega) (by omega)
    have s4 := root_lt (n := b * 16777216) (by omega) (by omega)
    have s5 := Int.mul_nonneg s1 s1
    rw [wr (n := rootI (b * 16777216) * rootI (b * 16777216)) (by omega) (by omega), wr (n := rootI (b * 16777216) + 1) (by omega) (by omega), mk3_eq, mk3_eq]
    unfold sqrtL sqrtH
    by_cases h3 : rootI (b * 16777216) * rootI (b * 16777216) < b * 16777216
    · rw [decide_eq_true h3, if_pos h3]; rfl
    · rw [decide_eq_false h3, if_neg h3]; rfl
theorem told111 : Told Try.prog 111 divT := by
  refine told_flat (fuel := 9) (d := 6) (fns := fnsI 111 Try.f111) mixed orcQ_ok (fnsI_ok k111) k111.enter (two_flat fun _ _ _ _ => rfl) two_bare fun args x h => ?_
  obtain ⟨a, b, c, d, rfl⟩ := two_val h
  rw [a111]
  refine two_of h fun h1 h2 => ?_
  have key : ∀ a b c d : Int, (-1073741824 ≤ a ∧ a ≤ b ∧ b ≤ 1073741824) → 0 < c → 0 < d → divK a b c d = (mkT (divL a b c d) (divH a b c d)).val := by
    intro a b c d h1 hc hd
    unfold divK W
    rw [wr (n := a * 16777216) (by omega) (by omega), wr (n := b * 16777216) (by omega) (by omega)]
    rw [quoK_in hc (by omega) (by omega), quoK_in hd (by omega) (by omega), quoK_in hc (by omega) (by omega), quoK_in hd (by omega) (by omega), mk3_eq]
    simp only [mnI_eq, mxI_eq, Int.min_self, Int.max_self]
    rfl
  unfold W
  rw [wr (n := 0 - b) (by omega) (by omega), wr (n := 0 - a) (by omega) (by omega), wr (n := 0 - d) (by omega) (by omega), wr (n := 0 - c) (by omega) (by omega)]
  simp only [Int.zero_sub]
  show _ = (bif decide (c ≤ 0) && decide (0 ≤ d) then B 10 else bif decide (d < 0) then (mkT (divL (-b) (-a) (-d) (-c)) (divH (-b) (-a) (-d) (-c))).val else (mkT (divL a b c d) (divH a b c d)).val)
  by_cases h3 : c ≤ 0
  · by_cases h4 : 0 ≤ d
    · rw [decide_eq_true h3, decide_eq_true h4]; rfl
    · rw [decide_eq_true h3, decide_eq_false h4, decide_eq_true (show d < 0 by omega), key _ _ _ _ (by omega) (by omega) (by omega)]; rfl
  · rw [decide_eq_false h3, decide_eq_false (show ¬ d < 0 by omega), key _ _ _ _ h1 (by omega) (by omega)]; rfl
end Go.Proofs.Ytbgdfikfldkjbaa.AI
