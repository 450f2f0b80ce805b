/- Layer 27's reference: Sub, Neg, Sign, Square, Root, Sqrt, Div, told. -/
import Derived.Test.YtbgdfikfldkjbaaGreatPF3
import Derived.Test.YtbgdfikfldkjbaaGreatAI13
namespace Go.Proofs.YtbgdfikfldkjbaaGreat.AI
set_option linter.unnecessarySimpa false
open Go
set_option linter.unusedVariables false
set_option linter.unusedSimpArgs false
/-! Root. -/
noncomputable def allRt : Code := Tryz.f124.body.getD .skip
noncomputable def tailRt : Code := sndC (sndC (sndC allRt))
noncomputable def bodyRt : Code := loopOf Tryz.f124 0
def lvRt : List (Nat × LV) := [(3, ⟨[0, 3, 4], [3], [], none⟩)]
noncomputable abbrev envRt (F : Nat) : CallT (V × Heap) := env Tryz.prog [] [(124, Tryz.f124, lvRt)] F 2
noncomputable abbrev loopRt {α : Type} (call : CallT α) (F fuel : Nat) (T : List V) (L : List Foot) (K : KT α) : Option α := loopA 0 [0, 3, 4] [3] (codeA Tryz.prog call F lvRt bodyRt) fuel T [] L K
def TRt (n r k : Int) : List V := TT 25 [(0, .u (ui n)), (3, .u (ui r)), (4, .u (ui k))]
def ERt (r : Int) : List V := TT 25 [(3, .u (ui r))]
def shR (r k : Int) : Int := W (r + W (1 * 2 ^ (min k.toNat 64)))
theorem stepRt {α : Type} (call : CallT α) (n r k : Int) (F fuel : Nat) (L : List Foot) (K : KT α) : loopRt call F (fuel + 1) (TRt n r k) L K =
    bif decide (0 ≤ k) then bif decide (k < 0) then none else bif decide (shR r k ≤ 3037000499) then bif decide (W (shR r k * shR r k) ≤ n) then loopRt call F fuel (TRt n (shR r k) (W (k - 1))) L K else loopRt call F fuel (TRt n r (W (k - 1))) L K else loopRt call F fuel (TRt n r (W (k - 1))) L K
    else K (.exit 0) (ERt r) [] L := by kernel_rfl
noncomputable def KRt (F : Nat) : KT (V × Heap) := kblk (kseq (envRt F) F lvRt tailRt (kfinA Tryz.f124))
theorem entryRt (n : Int) (F : Nat) : ans Tryz.prog [] [(124, Tryz.f124, lvRt)] F 3 124 [.u (ui n)] = loopRt (envRt F) F F (TRt n 0 31) [] (KRt F) := by kernel_rfl
theorem finRt (r : Int) (F : Nat) (L : List Foot) : KRt F (.exit 0) (ERt r) [] L = some (.u (ui r), []) := by kernel_rfl
theorem shR_eq {r : Int} {m : Nat} (hm : m ≤ 31) (h0 : 0 ≤ r) (h1 : r ≤ 8589934592) : shR r m = r + 2 ^ m := by
  have p := pow_pos2 m
  have q := pow_le2 hm
  unfold shR W
  rw [Int.toNat_natCast, Nat.min_eq_left (by omega), Int.one_mul, wr (n := 2 ^ m) (by omega) (by omega), wr (by omega) (by omega)]
theorem runRt {α : Type} {n : Int} (h0 : 0 ≤ n) (h1 : n ≤ 4611686018427387904) (call : CallT α) (F : Nat) (L : List Foot) (K : KT α) : ∀ (m : Nat) (r : Int) (fuel : Nat), m ≤ 32 → m < fuel → 0 ≤ r → r ≤ 8589934592 - 2 * 2 ^ m → loopRt call F fuel (TRt n r ((m : Int) - 1)) L K = K (.exit 0) (ERt (rootGo n m r)) [] L
  | 0, r, fuel + 1, _, _, _, _ => by
    rw [stepRt, decide_eq_false (show ¬ (0 : Int) ≤ ((0 : Nat) : Int) - 1 by omega)]; rfl
  | m + 1, r, fuel + 1, hm, hf, hr, hb => by
    have p := pow_pos2 m
    have q := pow_le2 (show m ≤ 31 by omega)
    have e2 : (2 : Int) ^ (m + 1) = 2 * 2 ^ m := by rw [Int.pow_succ]; omega
    rw [e2] at hb
    rw [show (((m + 1 : Nat) : Int)) - 1 = (m : Int) by omega, stepRt, decide_eq_true (show (0 : Int) ≤ (m : Int) by omega), decide_eq_false (show ¬ (m : Int) < 0 by omega), shR_eq (by omega) hr (by omega)]
    rw [show W ((m : Int) - 1) = (m : Int) - 1 by unfold W; exact wr (by omega) (by omega)]
    simp only [cond_true, cond_false]
    have hs : 0 < r + 2 ^ m := by omega
    have hle := Int.le_ediv_iff_mul_le (a := r + 2 ^ m) (b := n) (c := r + 2 ^ m) hs
    have ih1 := runRt h0 h1 call F L K m (r + 2 ^ m) fuel (by omega) (by omega) (by omega) (by omega)
    have ih2 := runRt h0 h1 call F L K m r fuel (by omega) (by omega) (by omega) (by omega)
    unfold rootGo
    generalize r + 2 ^ m = s at *
    by_cases hs2 : s ≤ 3037000499
    · have hm2 : s * s ≤ 3037000499 * 3037000499 := Int.mul_le_mul hs2 hs2 (by omega) (by omega)
      have hm3 : 0 ≤ s * s := Int.mul_nonneg (by omega) (by omega)
      rw [decide_eq_true hs2, cond_true, show W (s * s) = s * s by unfold W; exact wr (by omega) (by omega)]
      by_cases hc : s * s ≤ n
      · rw [decide_eq_true hc, cond_true, if_pos (hle.2 hc)]; exact ih1
      · rw [decide_eq_false hc, cond_false, if_neg (fun h => hc (hle.1 h))]; exact ih2
    · have hm2 : 3037000500 * 3037000500 ≤ s * s := Int.mul_le_mul (by omega) (by omega) (by omega) (by omega)
      rw [decide_eq_false hs2, cond_false, if_neg (fun h => by have := hle.1 h; omega)]; exact ih2
theorem kRt : FnOk Tryz.prog 124 Tryz.f124 := fk Tryz.func124 (by kernel_rfl) rfl
theorem GRoot : Told Tryz.prog 124 rootT := by
  refine told_flat (fuel := 40) (d := 3) (fns := [(124, Tryz.f124, lvRt)]) mixed orc_nil (fns_loops kRt (fun c _ => untold fun p hp => by rw [lvRt, List.mem_singleton] at hp; rw [hp]) fns_nil) kRt.enter root_flat (fun args x h => ?_) fun args x h => ?_
  · obtain ⟨n, rfl, _⟩ := root_val h; rfl
  · obtain ⟨n, rfl, h1, rfl⟩ := root_val h
    simp only [in62, Bool.and_eq_true, decide_eq_true_eq] at h1
    have hr := runRt h1.1 h1.2 (envRt 40) 40 [] (KRt 40) 32 0 40 (by omega) (by omega) (by omega) (by omega)
    exact ((entryRt n 40).trans hr).trans (finRt _ 40 [])
/-! The rest. -/
theorem gk75 : FnOk Tryz.prog 75 Tryz.f75 := fk Tryz.func75 (by kernel_rfl) rfl
theorem gk99 : FnOk Tryz.prog 99 Tryz.f99 := fk Tryz.func99 (by kernel_rfl) rfl
theorem gk69 : FnOk Tryz.prog 69 Tryz.f69 := fk Tryz.func69 (by kernel_rfl) rfl
theorem gk120 : FnOk Tryz.prog 120 Tryz.f120 := fk Tryz.func120 (by kernel_rfl) rfl
theorem gk116 : FnOk Tryz.prog 116 Tryz.f116 := fk Tryz.func116 (by kernel_rfl) rfl
theorem gk49 : FnOk Tryz.prog 49 Tryz.f49 := fk Tryz.func49 (by kernel_rfl) rfl
theorem gk91 : FnOk Tryz.prog 91 Tryz.f91 := fk Tryz.func91 (by kernel_rfl) rfl
theorem gk94 : FnOk Tryz.prog 94 Tryz.f94 := fk Tryz.func94 (by kernel_rfl) rfl
noncomputable def fnsG (f : FuncId) (fn : Func) : List (FuncId × Func × List (Nat × LV)) := [(f, fn, []), (91, Tryz.f91, []), (94, Tryz.f94, [])]
theorem fnsG_ok {f : FuncId} {fn : Func} (h : FnOk Tryz.prog f fn) : FnsOk Tryz.prog (fnsG f fn) := fns_cons h (fns_cons gk91 (fns_cons gk94 fns_nil))
def orcG : List (FuncId × (List V → Tree)) := [(28, validT), (92, quoT dnq), (93, quoT upq), (124, rootT)]
theorem orcG_ok : OrcOk Tryz.prog orcG := orc_cons told30 (orc_cons told82 (orc_cons told83 (orc_cons GRoot orc_nil)))
theorem gq75 (a b c d : Int) : ans Tryz.prog orcG (fnsG 75 Tryz.f75) 9 6 75 [iv a b, iv c d] = FF a b c d (mkF (W (a - d)) (W (b - c))) := by kernel_rfl
theorem gq99 (a b : Int) : ans Tryz.prog orcG (fnsG 99 Tryz.f99) 9 6 99 [iv a b] = bif !vI a b then B 1 else O (W (0 - b)) (W (0 - a)) := by kernel_rfl
theorem gq69 (a b : Int) : ans Tryz.prog orcG (fnsG 69 Tryz.f69) 9 6 69 [iv a b] = bif !vI a b then some (.u (ui 0), []) else bif decide (0 < a) then some (.u (ui 1), []) else bif decide (b < 0) then some (.u (ui (-1)), []) else some (.u (ui 0), []) := by kernel_rfl
def sqG (a b l : Int) : R := quoK dnq l 16777216 fun lo => quoK upq (mxI (W (a * a)) (W (b * b))) 16777216 fun hi => mkF lo hi
theorem gq120 (a b : Int) : ans Tryz.prog orcG (fnsG 120 Tryz.f120) 9 6 120 [iv a b] = bif !vI a b then B 1 else bif decide (a ≤ 0) then bif decide (0 ≤ b) then sqG a b 0 else sqG a b (mnI (W (a * a)) (W (b * b))) else sqG a b (mnI (W (a * a)) (W (b * b))) := by kernel_rfl
theorem gq116 (a b : Int) : ans Tryz.prog orcG (fnsG 116 Tryz.f116) 9 6 116 [iv a b] = bif !vI a b then B 1 else bif decide (a < 0) then B 2 else rootK (W (a * 16777216)) fun p => rootK (W (b * 16777216)) fun q => bif decide (W (q * q) < W (b * 16777216)) then mkF p (W (q + 1)) else mkF p q := by kernel_rfl

theorem gnv_of {f : Int → Int → Tree} {a b : Int} {x : V × Heap} (h : (one f [iv a b]).val = some x) {X : R} (hX : (-1073741824 ≤ a ∧ a ≤ b ∧ b ≤ 1073741824) → X = (f a b).val) : (bif !vI a b then B 1 else X) = some x := by
  rw [← h]
  show _ = (bif vI a b then (f a b).val else B 1)
  cases h1 : vI a b
  · rfl
  · rw [cond_true, Bool.not_true, cond_false, hX (vI_iff.1 h1)]
theorem gtold75 : Told Tryz.prog 75 subT := by
  refine told_flat (fuel := 9) (d := 6) (fns := fnsG 75 Tryz.f75) mixed orcG_ok (fnsG_ok gk75) gk75.enter (two_flat fun _ _ _ _ => rfl) two_bare fun args x h => ?_
  obtain ⟨a, b, c, d, rfl⟩ := two_val h
  rw [gq75]
  refine ff_of h fun h1 h2 => ?_
  unfold W
  rw [wr (by omega) (by omega), wr (by omega) (by omega), mkF_eq (by omega)]
theorem gtold99 : Told Tryz.prog 99 negT := by
  refine told_flat (fuel := 9) (d := 6) (fns := fnsG 99 Tryz.f99) mixed orcG_ok (fnsG_ok gk99) gk99.enter (one_flat fun _ _ => rfl) one_bare fun args x h => ?_
  obtain ⟨a, b, rfl⟩ := one_val h
  rw [gq99]
  refine gnv_of h fun h1 => ?_
  unfold W
  rw [wr (by omega) (by omega), wr (by omega) (by omega), Int.zero_sub, Int.zero_sub]
  rfl
theorem gtold120 : Told Tryz.prog 120 sqT := by
  refine told_flat (fuel := 9) (d := 6) (fns := fnsG 120 Tryz.f120) mixed orcG_ok (fnsG_ok gk120) gk120.enter (one_flat fun _ _ => rfl) one_bare fun args x h => ?_
  obtain ⟨a, b, rfl⟩ := one_val h
  rw [gq120]
  refine gnv_of h fun h1 => ?_
  have p1 := prod30 (a := a) (b := a) (by omega) (by omega)
  have p4 := prod30 (a := b) (b := b) (by omega) (by omega)
  have n1 : 0 ≤ a * a := by rcases Int.le_total 0 a with h | h; exact Int.mul_nonneg h h; exact Int.mul_nonneg_of_nonpos_of_nonpos h h
  unfold sqG W
  rw [wr (n := a * a) (by omega) (by omega), wr (n := b * b) (by omega) (by omega)]
  simp only [mnI_eq, mxI_eq]
  rw [quoK_in (by omega) (by omega) (by omega), quoK_in (by omega) (by omega) (by omega), quoK_in (by omega) (by omega) (by omega), quoK_in (by omega) (by omega) (by omega), mkF_eq (dn_up (by omega)), mkF_eq (dn_up (by omega))]
  unfold sqL sqH
  by_cases h2 : a ≤ 0
  · by_cases h3 : 0 ≤ b
    · rw [decide_eq_true h2, decide_eq_true h3, if_pos ⟨h2, h3⟩]; rfl
    · rw [decide_eq_true h2, decide_eq_false h3, if_neg (fun c => h3 c.2)]; rfl
  · rw [decide_eq_false h2, if_neg (fun c => h2 c.1)]; rfl
theorem gtold116 : Told Tryz.prog 116 sqrtT := by
  refine told_flat (fuel := 9) (d := 6) (fns := fnsG 116 Tryz.f116) mixed orcG_ok (fnsG_ok gk116) gk116.enter (one_flat fun _ _ => rfl) one_bare fun args x h => ?_
  obtain ⟨a, b, rfl⟩ := one_val h
  rw [gq116]
  refine gnv_of h fun h1 => ?_
  show _ = (bif decide (a < 0) then B 2 else (mkT (sqrtL a) (sqrtH b)).val)
  by_cases h2 : a < 0
  · rw [decide_eq_true h2]; rfl
  · rw [decide_eq_false h2, cond_false, cond_false]
    unfold W
    rw [wr (n := a * 16777216) (by omega) (by omega), wr (n := b * 16777216) (by omega) (by omega)]
    rw [rootK_in (by omega) (by omega), rootK_in (by omega) (by omega)]
    obtain ⟨s1, s2, s3⟩ := root_spec (n := b * 16777216) (by omega) (by omega)
    obtain ⟨r1, r2, r3⟩ := root_spec (n := a * 16777216) (by omega) (by omega)
    have s4 := root_lt (n := b * 16777216) (by omega) (by omega)
    have s5 := Int.mul_nonneg s1 s1
    have hle : rootI (a * 16777216) ≤ rootI (b * 16777216) := by
      rcases Int.lt_or_le (rootI (b * 16777216)) (rootI (a * 16777216)) with h | h
      · have := Int.mul_le_mul (show rootI (b * 16777216) + 1 ≤ rootI (a * 16777216) by omega) (show rootI (b * 16777216) + 1 ≤ rootI (a * 16777216) by omega) (by omega) (by omega)
        omega
      · exact h
    rw [wr (n := rootI (b * 16777216) * rootI (b * 16777216)) (by omega) (by omega), wr (n := rootI (b * 16777216) + 1) (by omega) (by omega), mkF_eq (by omega), mkF_eq (by omega)]
    unfold sqrtL sqrtH
    by_cases h3 : rootI (b * 16777216) * rootI (b * 16777216) < b * 16777216
    · rw [decide_eq_true h3, if_pos h3]; rfl
    · rw [decide_eq_false h3, if_neg h3]; rfl
theorem H75 : Told Tryz.prog 75 (sh2 subE) := told2 gtold75 e_sub
theorem H99 : Told Tryz.prog 99 (sh1 negE) := told1 gtold99 e_neg
theorem H120 : Told Tryz.prog 120 (sh1 sqE) := told1 gtold120 e_sq
theorem H116 : Told Tryz.prog 116 (sh1 sqrtE) := told1 gtold116 e_sqrt
theorem H69 : Told Tryz.prog 69 (s1s Iv.sgn) := told_sh (fuel := 9) (d := 6) (fns := fnsG 69 Tryz.f69) mixed orcG_ok (fnsG_ok gk69) gk69.enter F1s_flat fun l x h => by
  obtain ⟨⟨a, b⟩, e, rfl⟩ := F1s_some h
  rw [e]
  refine (gq69 a b).trans ?_
  show _ = some (V.u (ui (sgn a b)), ([] : Heap))
  unfold sgn
  cases hv : vI a b
  · rfl
  · by_cases h1 : 0 < a
    · rw [decide_eq_true h1, if_pos rfl, if_pos h1]; rfl
    · rw [decide_eq_false h1, if_pos rfl, if_neg h1]
      by_cases h2 : b < 0
      · rw [decide_eq_true h2, if_pos h2]; rfl
      · rw [decide_eq_false h2, if_neg h2]; rfl
end Go.Proofs.YtbgdfikfldkjbaaGreat.AI
