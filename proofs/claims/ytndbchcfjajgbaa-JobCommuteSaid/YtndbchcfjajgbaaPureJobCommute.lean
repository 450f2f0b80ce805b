/- The law JobCommute, over lists. -/
import Derived.Test.YtndbchcfjajgbaaPureJob2
import Derived.Test.YtndbchcfjajgbaaPureJobCom
import Derived.Test.YtndbchcfjajgbaaXP17
import Derived.Test.YtndbchcfjajgbaaXP16
import Derived.Test.YtndbchcfjajgbaaXP18
namespace Go.Proofs.Ytndbchcfjajgbaa.Pure
open Go Go.RowKit Go.Proofs.Ytndbchcfjajgbaa.XP Go.Proofs.Ytndbchcfjajgbaa.XW Go.Proofs.YtndbchcfjajgbaaW.PrintWords Go.Proofs.YtndbchcfjajgbaaW.PrintLast
set_option linter.unusedVariables false
set_option linter.unusedSimpArgs false
theorem item_loop (l : List S99) (hn : l.length ≤ 1000) : ∀ (d i k : Nat), i + d = l.length → d < k → job_Item_98.l0 k l l (l.length : Int) (i : Int) = some true
  | 0, i, k, h, hk => by
    obtain ⟨k, rfl⟩ : ∃ m, k = m + 1 := ⟨k - 1, by omega⟩
    simp only [job_Item_98.l0]
    rw [if_neg (by omega)]
  | d + 1, i, k, h, hk => by
    obtain ⟨k, rfl⟩ : ∃ m, k = m + 1 := ⟨k - 1, by omega⟩
    simp only [job_Item_98.l0]
    rw [if_pos (by omega), if_pos (by omega), if_pos (by omega), if_pos (by omega), if_neg (by simp)]
    rw [show wrap64 ((i : Int) + 1) = ((i + 1 : Nat) : Int) by unfold wrap64; omega]
    exact item_loop l hn d (i + 1) k (by omega) (by omega)
theorem piece_loop (l : List S24) (hn : l.length ≤ 1000) : ∀ (d i k : Nat), i + d = l.length → d < k → api_Piece_99.l0 k l l (l.length : Int) (i : Int) = some true
  | 0, i, k, h, hk => by
    obtain ⟨k, rfl⟩ : ∃ m, k = m + 1 := ⟨k - 1, by omega⟩
    simp only [api_Piece_99.l0]
    rw [if_neg (by omega)]
  | d + 1, i, k, h, hk => by
    obtain ⟨k, rfl⟩ : ∃ m, k = m + 1 := ⟨k - 1, by omega⟩
    simp only [api_Piece_99.l0]
    rw [if_pos (by omega), if_pos (by omega), if_pos (by omega), if_pos (by omega), if_neg (by simp)]
    rw [show wrap64 ((i : Int) + 1) = ((i + 1 : Nat) : Int) by unfold wrap64; omega]
    exact piece_loop l hn d (i + 1) k (by omega) (by omega)
theorem equal_eq (d : Int) (l : List S99) (hl : l.length ≤ 500) (m : List S24) (hm : m.length ≤ 500) (e t : Int) (k : Nat) (hk : 600 ≤ k) : job_Equal.f k d l m e t d l m e t = some true := by
  unfold job_Equal.f job_Item_98.f api_Piece_99.f
  have h1 := item_loop l (by omega) l.length 0 k (by omega) (by omega)
  have h2 := piece_loop m (by omega) m.length 0 k (by omega) (by omega)
  rw [show ((0 : Nat) : Int) = 0 from rfl] at h1 h2
  rw [if_pos rfl, if_pos rfl, if_pos rfl, if_pos rfl, if_pos rfl, h1, h2]
  rfl
set_option maxRecDepth 100000 in
theorem fewEv2 (x y : S71) (k : Nat) (hk : 10 ≤ k) : ∃ b, culetref54_FewEvents.f k [x, y] = some b ∧ (b = true → x.f3.size ≤ 40 ∧ x.f2.f0.size ≤ 40 ∧ y.f3.size ≤ 40 ∧ y.f2.f0.size ≤ 40) := by
  obtain ⟨k, rfl⟩ : ∃ m, k = m + 6 := ⟨k - 6, by omega⟩
  unfold culetref54_FewEvents.f
  have w1 : wrap64 (0 + 1) = 1 := by unfold wrap64; omega
  have w2 : wrap64 (1 + 1) = 2 := by unfold wrap64; omega
  have r0 : rd_T71 [x, y] 0 = x := rfl
  have r1 : rd_T71 [x, y] 1 = y := rfl
  have hlen : (([x, y] : List S71).length : Int) = 2 := rfl
  simp only [culetref54_FewEvents.l0, culetref54_FewEvents.j1, hlen, w1, w2, r0, r1]
  simp only [show (0 : Int) < 2 from by decide, show (1 : Int) < 2 from by decide, show ¬ (2 : Int) < 2 from by decide, show (0 : Int) < 103 from by decide, show (0 : Int) < 203 from by decide, show (1 : Int) < 203 from by decide, show (0 : Int) ≤ 0 from by decide, show (0 : Int) ≤ 1 from by decide, decide_true, decide_false, if_true, if_false]
  repeat' (first | exact ⟨false, rfl, by simp⟩ | (refine ⟨_, rfl, fun _ => ⟨by omega, by omega, by omega, by omega⟩⟩) | split)
set_option maxRecDepth 100000 in
theorem JobCommute : culetlaw54_JobCommute.Pure := by
  intro s x y _ _ _
  obtain ⟨b1, hb1, hb1'⟩ := few54_eq s.f0 s.f1 s.f2 s.f3 s.f4 1000 (by omega)
  obtain ⟨b2, hb2, hb2'⟩ := fewEv2 (⟨x.f0, x.f1, (⟨x.f2.f0, x.f2.f1, x.f2.f2, x.f2.f3, x.f2.f4⟩ : S69), x.f3, x.f4⟩ : S71) (⟨y.f0, y.f1, (⟨y.f2.f0, y.f2.f1, y.f2.f2, y.f2.f3, y.f2.f4⟩ : S69), y.f3, y.f4⟩ : S71) 1000 (by omega)
  refine ⟨1000, ?_⟩
  unfold culetlaw54_JobCommute.f
  rw [awake_eq 1000 (by omega), hb1, hb2]
  simp only [Option.bind_some, if_true]
  have hT : culetlaw54_JobCommute.j0 (999 + 1) true s.f0 s.f1 s.f2 s.f3 s.f4 x.f0 x.f1 x.f2.f0 x.f2.f1 x.f2.f2 x.f2.f3 x.f2.f4 x.f3 x.f4 y.f0 y.f1 y.f2.f0 y.f2.f1 y.f2.f2 y.f2.f3 y.f2.f4 y.f3 y.f4 = some true := by
    simp only [culetlaw54_JobCommute.j0]
    rw [if_pos trivial, awake_eq 999 (by omega)]; rfl
  cases b1 with
  | false => rw [if_neg (by decide)]; exact hT
  | true =>
  rw [if_pos rfl]
  obtain ⟨hl, hm, _, _⟩ := hb1' rfl
  cases b2 with
  | false => rw [if_neg (by decide)]; exact hT
  | true =>
  rw [if_pos rfl]
  obtain ⟨z1, z2, z3, z4⟩ := hb2' rfl
  simp only at z1 z2 z3 z4
  by_cases hday : x.f1 = y.f1
  case neg => rw [if_neg hday]; exact hT
  case pos =>
  rw [if_pos hday, if_pos (by omega), if_pos (by omega)]
  cases hkey : ((x.f3 ++ x.f2.f0).toList == (y.f3 ++ y.f2.f0).toList) with
  | true => exact hT
  | false =>
  show culetlaw54_JobCommute.j0 (999 + 1) false _ _ _ _ _ _ _ _ _ _ _ _ _ _ _ _ _ _ _ _ _ _ _ = _
  simp only [culetlaw54_JobCommute.j0, culetlaw54_event.f]
  rw [if_neg (by decide), own_eq s.f1 (by omega) s.f0 s.f2 s.f3 s.f4 999 (by omega)]
  simp only [Option.bind_some]
  have l0 : (s.f1.map cvI).length = s.f1.length := List.length_map cvI
  -- whatever the second shop's parcel is, it is short
  have short : ∀ (d : Int) (l : List S99) (m : List S24) (e t ek ed : Int) (j : S81) (id : ByteArray) (wt : Int), (doJ d l m e t ek ed j id wt).2.2.1.length ≤ 101 ∧ (doJ d l m e t ek ed j id wt).2.1.length ≤ 61 := fun d l m e t ek ed j id wt => by
    cases hD : doJ d l m e t ek ed j id wt with
    | mk d' r =>
    obtain ⟨l', m', e', t', er⟩ := r
    by_cases h0 : er = 0
    · subst h0
      obtain ⟨hr, _, _, _, hS⟩ := doJ_ok hD
      obtain ⟨a, b⟩ := step_len hr hS
      exact ⟨b, a⟩
    · have := doJ_err hD h0
      obtain ⟨_, rfl, rfl, _, _⟩ := this
      exact ⟨by simp, by simp⟩
  rw [jdo_eqk _ _ _ (by omega), jdo_eqk _ _ _ (by omega)]
  simp only [Option.bind_some]
  rw [jdo_eqk _ _ _ (by have := (short s.f0 (s.f1.map cvI) s.f2 s.f3 s.f4 x.f0 x.f1 ⟨x.f2.f0, x.f2.f1, x.f2.f2, x.f2.f3, x.f2.f4⟩ x.f3 x.f4).1; omega), jdo_eqk _ _ _ (by have := (short s.f0 (s.f1.map cvI) s.f2 s.f3 s.f4 y.f0 y.f1 ⟨y.f2.f0, y.f2.f1, y.f2.f2, y.f2.f3, y.f2.f4⟩ y.f3 y.f4).1; omega)]
  simp only [Option.bind_some]
  cases H1 : doJ s.f0 (s.f1.map cvI) s.f2 s.f3 s.f4 x.f0 x.f1 ⟨x.f2.f0, x.f2.f1, x.f2.f2, x.f2.f3, x.f2.f4⟩ x.f3 x.f4 with
  | mk d1 r1 =>
  obtain ⟨l1, m1, e1, t1, er1⟩ := r1
  cases H3 : doJ s.f0 (s.f1.map cvI) s.f2 s.f3 s.f4 y.f0 y.f1 ⟨y.f2.f0, y.f2.f1, y.f2.f2, y.f2.f3, y.f2.f4⟩ y.f3 y.f4 with
  | mk d3 r3 =>
  obtain ⟨l3, m3, e3, t3, er3⟩ := r3
  simp only
  have sh2 := short d1 l1 m1 e1 t1 y.f0 y.f1 ⟨y.f2.f0, y.f2.f1, y.f2.f2, y.f2.f3, y.f2.f4⟩ y.f3 y.f4
  cases H2 : doJ d1 l1 m1 e1 t1 y.f0 y.f1 ⟨y.f2.f0, y.f2.f1, y.f2.f2, y.f2.f3, y.f2.f4⟩ y.f3 y.f4 with
  | mk d2 r2 =>
  obtain ⟨l2, m2, e2, t2, er2⟩ := r2
  cases H4 : doJ d3 l3 m3 e3 t3 x.f0 x.f1 ⟨x.f2.f0, x.f2.f1, x.f2.f2, x.f2.f3, x.f2.f4⟩ x.f3 x.f4 with
  | mk d4 r4 =>
  obtain ⟨l4, m4, e4, t4, er4⟩ := r4
  rw [H2] at sh2
  simp only at sh2 ⊢
  by_cases h1 : er1 = 0
  case neg => exact if_neg h1
  case pos =>
  rw [if_pos h1]
  by_cases h2 : er2 = 0
  case neg => exact if_neg h2
  case pos =>
  rw [if_pos h2]
  by_cases h3 : er3 = 0
  case neg => exact if_neg h3
  case pos =>
  rw [if_pos h3]
  by_cases h4 : er4 = 0
  case neg => exact if_neg h4
  case pos =>
  rw [if_pos h4]
  subst h1 h2 h3 h4
  have s1 := (doJ_ok H1).2.1
  have s3 := (doJ_ok H3).2.1
  rw [← hday] at H2 H3
  obtain ⟨q1, q2, q3, q4, q5⟩ := doJ_comm H1 H2 H3 H4 (fun e => by
    have k1 := shape_key s1
    have k2 := shape_key s3
    rw [e] at k1
    rw [← k2] at k1
    rw [show ((x.f3 ++ x.f2.f0).toList == (y.f3 ++ y.f2.f0).toList) = true from beq_iff_eq.2 k1] at hkey
    cases hkey)
  subst q1 q2 q3 q4 q5
  rw [equal_eq d2 l2 (by omega) m2 (by omega) e2 t2 999 (by omega)]
  rfl
end Go.Proofs.Ytndbchcfjajgbaa.Pure
