/- The law ParcelBalance, over lists: what came in is what went out, was lost, and is there. -/
import Derived.Test.YtndbchcfjajgbaaPureFew
import Derived.Test.YtndbchcfjajgbaaXP11
namespace Go.Proofs.Ytndbchcfjajgbaa.Pure
open Go Go.RowKit Go.Proofs.Ytndbchcfjajgbaa.XP Go.Proofs.Ytndbchcfjajgbaa.XW Go.Proofs.YtndbchcfjajgbaaW.PrintWords Go.Proofs.YtndbchcfjajgbaaW.PrintLast
set_option linter.unusedVariables false
set_option linter.unusedSimpArgs false
theorem aud_step (m : ByteArray) {l l' : List S24} {x : S34} (H : doX l x = (l', 0)) (b : Int × Int × Int) (h0 : 0 ≤ b.1 ∧ 0 ≤ b.2.1 ∧ 0 ≤ b.2.2) (h1 : b.1 ≤ 8000000000000000000 ∧ b.2.1 ≤ 8000000000000000000 ∧ b.2.2 ≤ 8000000000000000000) :
    (audStep m l x b).1 - (audStep m l x b).2.1 - (audStep m l x b).2.2 - sumL (wf m) l' = b.1 - b.2.1 - b.2.2 - sumL (wf m) l ∧
    b.1 ≤ (audStep m l x b).1 ∧ b.2.1 ≤ (audStep m l x b).2.1 ∧ b.2.2 ≤ (audStep m l x b).2.2 ∧
    (audStep m l x b).1 ≤ b.1 + 1000000 ∧ (audStep m l x b).2.1 ≤ b.2.1 + 1000000 ∧ (audStep m l x b).2.2 ≤ b.2.2 + 1000000 := by
  obtain ⟨hv, hsh, hS⟩ := do_ok (show doR l x.f0 x.f1.f0 x.f1.f1 x.f1.f2 x.f1.f3 x.f2 x.f3 x.f4 x.f5 = (l', 0) from H)
  obtain ⟨b1, b2, b3⟩ := b
  simp only at h0 h1 ⊢
  unfold audStep
  rcases step_weight hv m hsh hS with ⟨k1, e1, d1, d2⟩ | ⟨k2, p, hp, e1, d1, d2⟩ | ⟨k34, e1, e2⟩ | ⟨k5, p, hp, e1, e2, d1, d2⟩
  · by_cases hm : x.f1.f1.toList = m.toList
    · rw [if_pos hm] at e1
      rw [if_pos ⟨k1, beq_iff_eq.2 hm⟩]
      simp only
      rw [show wrap64 (b1 + x.f1.f2) = b1 + x.f1.f2 by unfold wrap64; omega]
      omega
    · rw [if_neg hm] at e1
      rw [if_neg (fun h => hm (beq_iff_eq.1 h.2)), if_neg (fun h => by omega), if_neg (fun h => by omega)]
      simp only; omega
  · obtain ⟨f1, _⟩ := (fnd_get l x.f2).1 p hp
    rw [f1, if_neg (fun h => by omega)]
    by_cases hm : p.f1.toList = m.toList
    · rw [if_pos hm] at e1
      rw [if_pos ⟨k2, beq_iff_eq.2 hm⟩]
      simp only
      rw [show wrap64 (b2 + p.f2) = b2 + p.f2 by unfold wrap64; omega]
      omega
    · rw [if_neg hm] at e1
      rw [if_neg (fun h => hm (beq_iff_eq.1 h.2)), if_neg (fun h => by omega)]
      simp only; omega
  · rw [if_neg (fun h => by omega), if_neg (fun h => by omega), if_neg (fun h => by omega)]
    simp only; omega
  · obtain ⟨f1, _⟩ := (fnd_get l x.f2).1 p hp
    rw [f1, if_neg (fun h => by omega), if_neg (fun h => by omega)]
    by_cases hm : p.f1.toList = m.toList
    · rw [if_pos hm] at e1
      rw [if_pos ⟨k5, beq_iff_eq.2 hm⟩]
      simp only
      rw [show wrap64 (b3 + x.f4) = b3 + x.f4 by unfold wrap64; omega]
      omega
    · rw [if_neg hm] at e1
      rw [if_neg (fun h => hm (beq_iff_eq.1 h.2))]
      simp only; omega
theorem aud_run (m : ByteArray) : ∀ (book : List S34) (i : Int) (l : List S24) (b : Int × Int × Int), (ofR book i l).2.2 = 0 → (0 ≤ b.1 ∧ 0 ≤ b.2.1 ∧ 0 ≤ b.2.2) →
    (b.1 + 1000000 * book.length ≤ 8000000000000000000 ∧ b.2.1 + 1000000 * book.length ≤ 8000000000000000000 ∧ b.2.2 + 1000000 * book.length ≤ 8000000000000000000) →
    (audGo m book l b).1 - (audGo m book l b).2.1 - (audGo m book l b).2.2 - sumL (wf m) (ofR book i l).1 = b.1 - b.2.1 - b.2.2 - sumL (wf m) l ∧
    (0 ≤ (audGo m book l b).1 ∧ 0 ≤ (audGo m book l b).2.1 ∧ 0 ≤ (audGo m book l b).2.2) ∧
    ((audGo m book l b).1 ≤ b.1 + 1000000 * book.length ∧ (audGo m book l b).2.1 ≤ b.2.1 + 1000000 * book.length ∧ (audGo m book l b).2.2 ≤ b.2.2 + 1000000 * book.length)
  | [], i, l, b, h, h0, h1 => ⟨rfl, h0, by simp [audGo]⟩
  | x :: r, i, l, b, h, h0, h1 => by
    simp only [ofR] at h
    by_cases hd : (doX l x).2 = 0
    · rw [if_pos hd] at h
      have e : (ofR (x :: r) i l).1 = (ofR r (i + 1) (doX l x).1).1 := by simp only [ofR]; rw [if_pos hd]
      simp only [List.length_cons] at h1
      have hs := aud_step m (show doX l x = ((doX l x).1, 0) by rw [← hd]) b h0 (by omega)
      have ih := aud_run m r (i + 1) (doX l x).1 (audStep m l x b) h (by omega) (by omega)
      simp only [audGo, List.length_cons]
      rw [e]
      omega
    · rw [if_neg hd] at h; exact absurd h hd
theorem of_none : ∀ (a : List S34) (i : Int) (l : List S24), (ofR a i l).2.2 ≠ 0 → (ofR a i l).1 = []
  | [], i, l, h => absurd rfl h
  | x :: a, i, l, h => by
    simp only [ofR] at h ⊢
    by_cases hd : (doX l x).2 = 0
    · rw [if_pos hd] at h ⊢; exact of_none a _ _ h
    · rw [if_neg hd]
theorem run_none (b : List S34) (h : (runR b).2.2 ≠ 0) : (runR b).1 = [] := by
  unfold runR at h ⊢
  split
  · rfl
  · rename_i hc; rw [if_neg hc] at h; exact of_none _ _ _ h
set_option maxRecDepth 100000 in
theorem ParcelBalance : culetlaw53_ParcelBalance.Pure := by
  intro book m _ _
  obtain ⟨b2, hb2, hb2'⟩ := fewE_eq book 2000 (by omega)
  refine ⟨2000, ?_⟩
  unfold culetlaw53_ParcelBalance.f
  rw [awake_eq 2000 (by omega), hb2]
  simp only [Option.bind_some, if_true]
  have hT : ∀ k, 100 ≤ k → culetlaw53_ParcelBalance.j0 (k + 1) book m true = some true := fun k hk => by
    simp only [culetlaw53_ParcelBalance.j0]
    rw [if_pos trivial, awake_eq k (by omega)]; rfl
  cases b2 with
  | false => rw [if_neg (by decide)]; exact hT 1999 (by omega)
  | true =>
    rw [if_pos rfl]
    have hl := hb2' rfl
    cases hm : decide ((m.size : Int) > 40) with
    | true => exact hT 1999 (by omega)
    | false =>
      show culetlaw53_ParcelBalance.j0 (1999 + 1) _ _ _ = _
      simp only [culetlaw53_ParcelBalance.j0]
      have hown : culetlaw53_Own.f book = some (book.map conv) := by unfold culetlaw53_Own.f; rw [if_pos (by omega)]
      rw [if_neg (by decide), hown]
      simp only [Option.bind_some, parcel_Of.f]
      obtain ⟨own, ho⟩ : ∃ own, own = book.map conv := ⟨_, rfl⟩
      have hol : own.length ≤ 202 := by rw [ho, List.length_map]; exact hl
      rw [← ho, weigh_eqk _ m (Nat.le_trans (runR_len own) (by omega)) 1999 (by have := runR_len own; omega)]
      unfold parcel_Audit.f
      by_cases hz : (runR own).2.2 = 0
      · rw [if_pos hz]
        simp only [Option.bind_some]
        rw [if_pos hz.symm, weighW_eq _ m (Nat.le_trans (runR_len own) (by omega))]
        simp only
        have h200 : ¬ own.length > 200 := fun hc => by
          unfold runR at hz; rw [if_pos hc] at hz; simp at hz
        have er : runR own = ofR own 0 [] := by unfold runR; rw [if_neg h200]
        rw [er] at hz ⊢
        have hA := aud_run m own 0 [] (0, 0, 0) hz (by simp) (by simp only; omega)
        obtain ⟨w1, w2⟩ := sumL_bound (wf m) 1000000 (ofR own 0 []).1 (fun y _ => wf_bound m y)
        have hlen : (ofR own 0 []).1.length ≤ 100 := by rw [← er]; exact runR_len own
        simp only [sumL] at hA
        generalize audGo m own [] (0, 0, 0) = A at hA ⊢
        generalize sumL (wf m) (ofR own 0 []).1 = S at hA w1 w2 ⊢
        obtain ⟨A1, A2, A3⟩ := A
        simp only at hA ⊢
        rw [if_pos (by unfold wrap64; omega), if_pos trivial, if_pos (by omega), if_pos (by omega), decide_eq_true (by omega)]
      · rw [if_neg hz]
        simp only [Option.bind_some]
        rw [if_pos trivial, run_none own hz, if_pos (by unfold wrap64; omega), if_pos (by rfl), if_pos (by decide), if_pos (by decide)]
        rfl
end Go.Proofs.Ytndbchcfjajgbaa.Pure
