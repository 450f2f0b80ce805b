/- The reference's Hit, told. -/
import Derived.Test.YtbgdfikfldkjbaaGreatGH
namespace Go.Proofs.YtbgdfikfldkjbaaGreat.AI
set_option linter.unnecessarySimpa false
open Go
set_option linter.unusedVariables false
set_option linter.unusedSimpArgs false
theorem bestL_sure (f : Nat → Tg) : ∀ (k i : Nat) (b : Int), b < (i : Int) → (0 ≤ b → (f b.toNat).sure = true) → 0 ≤ bestL f k i b → (f (bestL f k i b).toNat).sure = true
  | 0, i, b, _, h, h0 => h h0
  | k + 1, i, b, hb, h, h0 => by
    unfold bestL at h0 ⊢
    refine bestL_sure f k (i + 1) _ ?_ ?_ h0
    · unfold nextB
      cases ((f i).sure && (decide (b < 0) || decide ((f i).most < (f b.toNat).most)))
      · rw [cond_false]; omega
      · rw [cond_true]; simp only [Int.ofNat_eq_natCast]; omega
    · unfold nextB
      cases hs : (f i).sure
      · simp only [Bool.false_and, cond_false]; exact h
      · cases (decide (b < 0) || decide ((f i).most < (f b.toNat).most))
        · simp only [Bool.and_false, cond_false]; exact h
        · simp only [Bool.and_self, cond_true]; intro _; exact hs
/-- From what reaches answers on. -/
noncomputable def goRe (call : CallT (V × Heap)) (ad ad' : Option Addr) (n m cap cap' : Nat) (g g' : Nat → Nat → Int) (x : Iv) (r : Ray) (e : Er (Nat × (Nat → Tg))) : R :=
  preRe n m e (bif decide (((getE (0, fz) e).1 : Int) = 0) then hitR 0 0 0 7 else
        loopH1 call 1001 1001 (TH1 (getE (0, fz) e).1 (-1) 0) (HH ad ad' n m cap cap' g g' x r (getE (0, fz) e).1 (getE (0, fz) e).2) [] (KH1 call 1001))
theorem goRe_ok (call : CallT (V × Heap)) (ad ad' : Option Addr) (n m cap cap' : Nat) (g g' : Nat → Nat → Int) (x : Iv) (r : Ray) (c : Nat) (f : Nat → Tg) (h : n ≤ m) (h' : n ≤ 1000) : goRe call ad ad' n m cap cap' g g' x r (.ok (c, f)) =
    bif decide ((c : Int) = 0) then hitR 0 0 0 7 else loopH1 call 1001 1001 (TH1 c (-1) 0) (HH ad ad' n m cap cap' g g' x r c f) [] (KH1 call 1001) := by
  unfold goRe preRe
  rw [decide_eq_true h, decide_eq_true h']
  rfl
theorem goRe_err (call : CallT (V × Heap)) (ad ad' : Option Addr) (n m cap cap' : Nat) (g g' : Nat → Nat → Int) (x : Iv) (r : Ray) (e : Nat) (h : n ≤ m) (h' : n ≤ 1000) : goRe call ad ad' n m cap cap' g g' x r (.error e) = hitR 0 0 0 (Int.ofNat (e + 1)) := by
  unfold goRe preRe
  rw [decide_eq_true h, decide_eq_true h']
  rfl
theorem hit14_in (n m : Nat) (v u : Nat → Nat → Int) (x : Iv) (r : Ray) (call : CallT (V × Heap)) (ad ad' : Option Addr) (cap cap' : Nat) (g g' : Nat → Nat → Int) (hn : n ≤ 100) (hm : m = n) :
    goRe call ad ad' n m cap cap' g g' x r (reGo v u r n 0 0 fz) = (resH (hitS' (hitS v u r n))).val := by
  have hdef : hitGo (tgs v u r n 0) 0 (fun _ => ⟨0, 0, 0, false, 0⟩) (-1) = hitS v u r n := rfl
  rcases reGo_hit v u r n 0 0 fz (-1) (by omega) (by omega) with ⟨e, a1, a2⟩ | ⟨c', f', a1, a2, a3, a4, a5⟩
  · rw [show fz = (fun _ => ⟨0, 0, 0, false, 0⟩ : Nat → Tg) from rfl, hdef] at a2
    rw [a1, goRe_err _ _ _ _ _ _ _ _ _ _ _ _ (by omega) (by omega)]
    unfold hitS'
    rw [a2, decide_eq_false (show ¬ Int.ofNat (e + 1) = 0 by simp only [Int.ofNat_eq_natCast]; omega)]
    simp only [Bool.not_false, cond_true]
    rw [resH_err, show (Int.ofNat (e + 1)).toNat - 1 = e by simp only [Int.ofNat_eq_natCast]; omega]
  · rw [show fz = (fun _ => ⟨0, 0, 0, false, 0⟩ : Nat → Tg) from rfl, hdef] at a5
    have allP := hitGo_all (fun t => t.sure = true → 0 ≤ t.least ∧ t.least ≤ t.most) (tgs v u r n 0) 0 (fun _ => ⟨0, 0, 0, false, 0⟩) (-1) (fun t ht he => by
      obtain ⟨j, hj⟩ := tgs_ok v u r n n 0 (by omega) t ht he
      exact tg_order hj) (fun j hj => absurd hj (by omega)) (fun h => absurd h (by omega))
    rw [hdef, a5] at allP
    replace allP := allP.1
    simp only at allP
    rw [a1, a5, goRe_ok _ _ _ _ _ _ _ _ _ _ _ _ _ (by omega) (by omega), Nat.sub_zero]
    unfold hitS'
    simp only [decide_true, Bool.not_true, cond_false]
    by_cases hz : c' = 0
    · subst hz; rfl
    have hb0 : Nat.beq c' 0 = false := by
      cases h : Nat.beq c' 0 with
      | false => rfl
      | true => exact absurd (Nat.eq_of_beq_eq_true h) hz
    rw [decide_eq_false (show ¬ ((c' : Int) = 0) by omega), hb0, cond_false, cond_false]
    refine (runH1 call ad ad' n m cap cap' g g' x r c' (by omega) f' 1001 [] _ c' 0 1001 (-1) (by omega) (by omega) (by omega) (by omega)).trans ?_
    rw [endH1]
    obtain ⟨b1, b2⟩ := bestL_lt f' c' 0 (-1) (by omega) (by omega)
    have bs := bestL_sure f' c' 0 (-1) (by omega) (fun h => absurd h (by omega))
    generalize bestL f' c' 0 (-1) = b at *
    by_cases hb : b < 0
    · rw [decide_eq_true hb]; rfl
    rw [decide_eq_false hb, cond_false, cond_false]
    obtain ⟨bn, rfl⟩ : ∃ bn : Nat, b = bn := ⟨b.toNat, by omega⟩
    have hbc : bn < c' := by omega
    have r2 := runH2 call ad ad' n m cap cap' g g' x r c' (by omega) f' 1001 [] bn hbc c' 0 1001 (by omega) (by omega)
    refine r2.trans ?_
    rw [show ((bn : Nat) : Int).toNat = bn by omega] at bs ⊢
    have bs := bs (by omega)
    obtain ⟨o1, o2⟩ := allP bn hbc bs
    cases ambG f' bn 0 c'
    · rw [cond_false, cond_false, endH2, idxG_in hbc, idxG_in hbc, idxG_in hbc, idxG_in hbc, show 0 + ((bn : Nat) : Int).toNat = bn by omega]
      by_cases hl : 1073741824 < (f' bn).most
      · have hv : vI (f' bn).least (f' bn).most = false := by
          cases h : vI (f' bn).least (f' bn).most with
          | false => rfl
          | true => rw [vI_iff] at h; omega
        rw [decide_eq_true hl, hv]; rfl
      · have hv : vI (f' bn).least (f' bn).most = true := by rw [vI_iff]; omega
        rw [decide_eq_false hl, hv]
        simp only [cond_false, Bool.not_true]
        rw [resH_ok]
    · rfl
theorem hit14 (ad ad' : Option Addr) (n m cap cap' : Nat) (v u : Nat → Nat → Int) (x : Iv) (r : Ray) : ans Tryz.prog (orcH14 validB (fun r => r.pt.v && r.dir.v) reE) fnsH14 1001 3 14 [.u (.a (bodyA ad ad' n m cap cap' v u x)), rayV r] = (resH (hitE n m v u x r)).val := by
  refine (entryH validB (fun r => r.pt.v && r.dir.v) reE ad ad' n m cap cap' v u x r 1001).trans ?_
  rw [← hitE_arr n m v u x r, hitE_eq, pre22_in, pre22_in]
  cases hv : validB n m (numOf (arrC 6 v)) (numOf (arrC 2 u)) x
  · rfl
  cases hr : (r.pt.v && r.dir.v)
  · rfl
  simp only [Bool.not_true, cond_false]
  have hnm : n ≤ 100 ∧ m = n := by
    unfold validB at hv
    simp only [Bool.and_eq_true, decide_eq_true_eq] at hv
    exact ⟨hv.1.2.1, hv.1.2.2.1⟩
  exact hit14_in n m (numOf (arrC 6 v)) (numOf (arrC 2 u)) x r _ ad ad' cap cap' v u hnm.1 hnm.2
theorem gk14 : FnOk Tryz.prog 14 Tryz.f14 := fk Tryz.func14 (by kernel_rfl) rfl
theorem orcH14_ok : OrcOk Tryz.prog (orcH14 validB (fun r => r.pt.v && r.dir.v) reE) := orc_cons H16 (orc_cons H27 (orc_cons H35 orc_nil))
theorem H14 : Told Tryz.prog 14 (fun args => argsT args F11) := by
  refine told_args (fuel := 1001) (d := 3) (orc := orcH14 validB (fun r => r.pt.v && r.dir.v) reE) (fns := fnsH14) mixed orcH14_ok (fns_loops gk14 (fun c _ => untold fun p hp => by
    simp only [lvH14, List.mem_cons, List.not_mem_nil, or_false] at hp
    rcases hp with rfl | rfl <;> rfl) fns_nil) gk14.enter (args_flat fun l x h => ?_) fun l x h args hr => ?_
  · obtain ⟨n, m, v, u, a, b, a1, b1, a2, b2, a3, b3, c1, d1, c2, d2, c3, d3, _, h⟩ := F11_val h
    exact resH_flat h
  · obtain ⟨n, m, v, u, a, b, a1, b1, a2, b2, a3, b3, c1, d1, c2, d2, c3, d3, rfl, h'⟩ := F11_val h
    cases hr with
    | cons r1 t =>
      cases t with
      | cons r2 t =>
        cases t
        obtain ⟨ad, ad', cap, cap', rfl⟩ := real_body r1
        rw [real_ray r2]
        exact (hit14 ad ad' n m cap cap' v u ⟨a, b⟩ _).trans h'
end Go.Proofs.YtbgdfikfldkjbaaGreat.AI
