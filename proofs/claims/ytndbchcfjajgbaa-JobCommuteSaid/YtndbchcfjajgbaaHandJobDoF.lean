/- job.Do: its contract. -/
import Derived.Test.YtndbchcfjajgbaaXB
import Derived.Test.YtndbchcfjajgbaaHandJobDo
import Derived.Test.YtndbchcfjajgbaaPureJobO
import Derived.Test.YtndbchcfjajgbaaXP11
namespace Go.Proofs.Ytndbchcfjajgbaa.XP
open Go.Proofs.Ytndbchcfjajgbaa.XB Go.Proofs.Ytndbchcfjajgbaa.XQ
open Go Go.RowKit Go.Proofs Go.Proofs.YtndbchcfjajgbaaW.PrintWords Go.Proofs.YtndbchcfjajgbaaW.PrintLast
set_option linter.unusedVariables false
set_option linter.unusedSimpArgs false
section
variable {base gs : Nat} {v1 v2 : Value} {d e t : Int} {items : List S99} {mm : List S24} {W : World}
theorem JAv.parts (h : JAv base gs v1 v2 d e t items mm W) : ∃ A1 c1 A c2, v1 = .slice A1 items.length c1 ∧ v2 = .slice A mm.length c2 ∧ (Kd.C k99 W A1 items.length items ∧ items.length ≤ c1) ∧ Kd.C k24 W A mm.length mm ∧ mm.length ≤ c2 := by
  obtain ⟨A1, c1, rfl, _, _⟩ := Kd.R_reads h.hi
  obtain ⟨A, c2, rfl, _, _⟩ := Kd.R_reads h.hp
  exact ⟨A1, c1, A, c2, rfl, rfl, ⟨(Kd.R_reads' h.hi).2.2, (Kd.R_reads' h.hi).2.1⟩, (Kd.R_reads' h.hp).2.2, (Kd.R_reads' h.hp).2.1⟩
end
/-- accept's error. -/
def acceptE (l : List S99) (mm : List S24) (j : S81) : Int := if hasJ l j.f0 = true then 6 else if hasF mm j.f1 = false then 7 else if l.any (isTaken j.f1) = true then 9 else if 60 ≤ l.length then 3 else 0
/-- accept, as a whole. -/
theorem acc_all (items : List S99) (mm : List S24) (d e t : Int) (ek ed : Int) (j0 j1 j2 : ByteArray) (j3 j4 : Int) (id : ByteArray) (wt : Int) (hn : items.length ≤ 1000) (hs : SortedI items) :
    ∀ (B gp : Nat) (v1 v2 : Value) (W : World), B ≤ gp → B ≤ W.heap.size → JAv B gp v1 v2 d e t items mm W → Calls Try.prog 86 #[.pointer (some ⟨gp, 0, none⟩), .agg #[.int .i64 ek, .int .i64 ed, .string j0, .string j1, .string j2, .int .i64 j3, .int .i64 j4, .string id, .int .i64 wt]] W fun e' w' => e' = .returned (.int .i64 (acceptE items mm ⟨j0, j1, j2, j3, j4⟩)) ∧ ((acceptE items mm ⟨j0, j1, j2, j3, j4⟩ == 0) = false → Below W.heap.size W w') ∧
      ((acceptE items mm ⟨j0, j1, j2, j3, j4⟩ == 0) = true → ∃ v1' v2', JAv B gp v1' v2' d e t (items.take (posI items j0) ++ newItem ⟨j0, j1, j2, j3, j4⟩ ed :: items.drop (posI items j0)) mm w' ∧ Below B W w') := by
  intro B gp v1 v2 W hB1 hB2 hJ
  obtain ⟨A1, c1, A, c2, rfl, rfl, ⟨hC1, hc1⟩, hC2, hc2⟩ := hJ.parts
  have HF := Aside0.mk (fun (W1 : World) (hb : Below W.heap.size W W1) => find87 j0 A1 c1 items W1 (Kd.C_below hC1 hb) hn (posI items j0) (posI_le _ _) (posI_lt _ _) (posI_ge _ _ hs))
  have HP := Aside0.mk (fun (W1 : World) (hb : Below W.heap.size W W1) => parcel_Find.calls A c2 mm j1 _ _ _ _ _ W1 (Kd.C_below hC2 hb) hc2 (find_eq mm j1))
  have HT := Aside0.mk (fun (W1 : World) (hb : Below W.heap.size W W1) => job_taken.calls A1 c1 items j1 _ W1 (Kd.C_below hC1 hb) hc1 rfl)
  unfold acceptE
  unfold hasJ
  simp only
  refine accept_all B gp _ c1 _ c2 _ A1 A d e t items mm W ek ed j0 j1 j2 j3 j4 id wt ⟨hB1⟩ ⟨hB2⟩ ⟨hJ⟩ _ _ _ HF _ HP HT ⟨fun W1 vb hvb hR hb => insI (newItem ⟨j0, j1, j2, j3, j4⟩ ed) items W1 B vb (posI items j0) _ hvb hR hb (posI_le _ _) hn⟩ _ ⟨fun h1 w' hb => ?_⟩ ⟨fun h1 h2 w' hb => ?_⟩ ⟨fun h1 h2 h3 w' hb => ?_⟩ ⟨fun h1 h2 h3 h4 w' hb => ?_⟩ ⟨fun h1 h2 h3 h4 v' w' h5 hb => ?_⟩
  · rw [if_pos h1]; exact ⟨rfl, fun _ => hb, (fun hc => by cases hc)⟩
  · rw [if_neg (by rw [h1]; decide), if_pos h2]; exact ⟨rfl, fun _ => hb, (fun hc => by cases hc)⟩
  · rw [if_neg (by rw [h1]; decide), if_neg (by rw [h2]; decide), if_pos h3]; exact ⟨rfl, fun _ => hb, (fun hc => by cases hc)⟩
  · rw [if_neg (by rw [h1]; decide), if_neg (by rw [h2]; decide), if_neg (by rw [h3]; decide), if_pos h4]; exact ⟨rfl, fun _ => hb, (fun hc => by cases hc)⟩
  · rw [if_neg (by rw [h1]; decide), if_neg (by rw [h2]; decide), if_neg (by rw [h3]; decide), if_neg h4]; exact ⟨rfl, (fun hc => by cases hc), fun _ => ⟨v', _, h5, hb⟩⟩
/-- start, as a whole. -/
theorem start_all (B gp gI nI cap kf : Nat) (v2 : Value) (d e t : Int) (items : List S99) (mm : List S24) (x : S99) (hx : x = rd_T99 items kf) (hm : mm.length ≤ 1000) (W : World) (hB1 : B ≤ gp) (hB2 : B ≤ W.heap.size) (hkf : kf < nI) (hJ : JAt B gp gI nI cap v2 d e t items mm W) :
    ((startO e t items mm kf x).2.2.2.2 ≠ 0 → Calls Try.prog 115 #[.pointer (some ⟨gp, 0, none⟩), .pointer (some ⟨gI, kf * 13, none⟩)] W fun e' w' => e' = .returned (.int .i64 (startO e t items mm kf x).2.2.2.2) ∧ Below W.heap.size W w')
    ∧ ((startO e t items mm kf x).2.2.2.2 = 0 → Calls Try.prog 115 #[.pointer (some ⟨gp, 0, none⟩), .pointer (some ⟨gI, kf * 13, none⟩)] W fun e' w' => e' = .returned (.int .i64 0) ∧ ∃ v', JAt B gp gI nI cap v' d (startO e t items mm kf x).2.2.1 (startO e t items mm kf x).2.2.2.1 (startO e t items mm kf x).1 (startO e t items mm kf x).2.1 w' ∧ Below B W w') := by
  obtain ⟨A1, c1, A, c2, _, rfl, ⟨hC1, hc1⟩, hC2, hc2⟩ := hJ.av.parts
  have HP := Aside0.mk (fun (W1 : World) (hb : Below W.heap.size W W1) => parcel_Find.calls A c2 mm x.f0.f1 _ _ _ _ _ W1 (Kd.C_below hC2 hb) hc2 (find_eq mm x.f0.f1))
  have HD := Aside0.mk (fun (W1 : World) (hb : Below W.heap.size W W1) => parcel_Do.calls A c2 mm 2 ⟨#[]⟩ ⟨#[]⟩ 0 0 x.f0.f1 ⟨#[]⟩ 0 0 (doR mm 2 ⟨#[]⟩ ⟨#[]⟩ 0 0 x.f0.f1 ⟨#[]⟩ 0 0).1 (doR mm 2 ⟨#[]⟩ ⟨#[]⟩ 0 0 x.f0.f1 ⟨#[]⟩ 0 0).2 W1 (Kd.C_below hC2 hb) hc2 (by unfold parcel_Do.f; rw [if_pos hm]))
  unfold startO
  generalize doR mm 2 ⟨#[]⟩ ⟨#[]⟩ 0 0 x.f0.f1 ⟨#[]⟩ 0 0 = R at HD ⊢
  obtain ⟨ys, er⟩ := R
  by_cases h0 : er = 0
  · subst h0
    rw [if_pos rfl]
    refine ⟨fun h => absurd rfl h, fun _ => ?_⟩
    exact start_ok B gp gI nI cap kf _ c2 A d e t items mm x W (fnd mm x.f0.f1) _ hkf ⟨hB1⟩ ⟨hB2⟩ ⟨hJ⟩ ⟨hx⟩ HP ys HD
  · rw [if_neg h0]
    refine ⟨fun _ => ?_, fun h => absurd h h0⟩
    exact start_err B gp gI nI cap kf _ c2 A d e t items mm x W (fnd mm x.f0.f1) _ hkf ⟨hB1⟩ ⟨hB2⟩ ⟨hJ⟩ ⟨hx⟩ HP er (by simpa using h0) ys HD
theorem cancel_all (B gp gI nI cap kf : Nat) (v2 : Value) (d e t : Int) (items : List S99) (mm : List S24) (x : S99) (hx : x = rd_T99 items kf) (hm : mm.length ≤ 1000) (W : World) (hB1 : B ≤ gp) (hB2 : B ≤ W.heap.size) (hkf : kf < nI) (hJ : JAt B gp gI nI cap v2 d e t items mm W) :
    ((cancelO e t items mm kf x).2.2.2.2 ≠ 0 → Calls Try.prog 116 #[.pointer (some ⟨gp, 0, none⟩), .pointer (some ⟨gI, kf * 13, none⟩)] W fun e' w' => e' = .returned (.int .i64 (cancelO e t items mm kf x).2.2.2.2) ∧ Below W.heap.size W w')
    ∧ ((cancelO e t items mm kf x).2.2.2.2 = 0 → Calls Try.prog 116 #[.pointer (some ⟨gp, 0, none⟩), .pointer (some ⟨gI, kf * 13, none⟩)] W fun e' w' => e' = .returned (.int .i64 0) ∧ ∃ v', JAt B gp gI nI cap v' d (cancelO e t items mm kf x).2.2.1 (cancelO e t items mm kf x).2.2.2.1 (cancelO e t items mm kf x).1 (cancelO e t items mm kf x).2.1 w' ∧ Below B W w') := by
  obtain ⟨A1, c1, A, c2, _, rfl, ⟨hC1, hc1⟩, hC2, hc2⟩ := hJ.av.parts
  have HD := Aside0.mk (fun (W1 : World) (hb : Below W.heap.size W W1) => parcel_Do.calls A c2 mm 1 x.f5.f0 x.f5.f1 x.f5.f2 x.f5.f3 ⟨#[]⟩ ⟨#[]⟩ 0 0 (doR mm 1 x.f5.f0 x.f5.f1 x.f5.f2 x.f5.f3 ⟨#[]⟩ ⟨#[]⟩ 0 0).1 (doR mm 1 x.f5.f0 x.f5.f1 x.f5.f2 x.f5.f3 ⟨#[]⟩ ⟨#[]⟩ 0 0).2 W1 (Kd.C_below hC2 hb) hc2 (by unfold parcel_Do.f; rw [if_pos hm]))
  unfold cancelO
  by_cases hs : x.f1 = 2
  case neg =>
    rw [if_neg hs]
    refine ⟨fun h => absurd rfl h, fun _ => ?_⟩
    exact cancel_plain B gp gI nI cap kf _ c2 A d e t items mm x W hkf ⟨hB1⟩ ⟨hB2⟩ ⟨hJ⟩ ⟨hx⟩ (by simpa using hs)
  case pos =>
  rw [if_pos hs]
  generalize doR mm 1 x.f5.f0 x.f5.f1 x.f5.f2 x.f5.f3 ⟨#[]⟩ ⟨#[]⟩ 0 0 = R at HD ⊢
  obtain ⟨ys, er⟩ := R
  by_cases h0 : er = 0
  · subst h0
    rw [if_pos rfl]
    refine ⟨fun h => absurd rfl h, fun _ => ?_⟩
    exact cancel_ok B gp gI nI cap kf _ c2 A d e t items mm x W hkf ⟨hB1⟩ ⟨hB2⟩ ⟨hJ⟩ ⟨hx⟩ (by simpa using hs) ys HD
  · rw [if_neg h0]
    refine ⟨fun _ => ?_, fun h => absurd h h0⟩
    exact cancel_err B gp gI nI cap kf _ c2 A d e t items mm x W hkf ⟨hB1⟩ ⟨hB2⟩ ⟨hJ⟩ ⟨hx⟩ (by simpa using hs) er (by simpa using h0) ys HD
theorem any_of_two {P : Program} {f : Nat} {args : Array Value} {W : World} {er : Int} {R1 R2 : World → World → Prop} (h1 : er ≠ 0 → ∀ W1, Below W.heap.size W W1 → Calls P f args W1 fun e' w' => e' = .returned (.int .i64 er) ∧ R1 W1 w') (h2 : er = 0 → ∀ W1, Below W.heap.size W W1 → Calls P f args W1 fun e' w' => e' = .returned (.int .i64 0) ∧ R2 W1 w') :
    ∀ W1, Below W.heap.size W W1 → Calls P f args W1 fun e' w' => e' = .returned (.int .i64 er) ∧ ((er ≠ 0 → R1 W1 w') ∧ (er = 0 → R2 W1 w')) := by
  intro W1 hb
  by_cases h0 : er = 0
  · subst h0
    exact (h2 rfl W1 hb).mono (fun e' w' h => ⟨h.1, fun hc => absurd rfl hc, fun _ => h.2⟩)
  · exact (h1 h0 W1 hb).mono (fun e' w' h => ⟨h.1, fun _ => h.2, fun hc => absurd hc h0⟩)
theorem change_all (B gp gI nI cap kf : Nat) (v2 : Value) (d e t : Int) (items : List S99) (mm : List S24) (x : S99) (hx : x = rd_T99 items kf) (hm : mm.length ≤ 1000) (W : World) (hB1 : B ≤ gp) (hB2 : B ≤ W.heap.size) (hkf : kf < nI) (hJ : JAt B gp gI nI cap v2 d e t items mm W) (ek ed : Int) (j0 j1 j2 : ByteArray) (j3 j4 : Int) (id : ByteArray) (wt : Int) (hk : ek = 2 ∨ ek = 3 ∨ ek = 4 ∨ ek = 5) (O : Out) (hO : O = changeO e t items mm kf x ek ed wt) :
    Calls Try.prog 88 #[.pointer (some ⟨gp, 0, none⟩), .agg #[.int .i64 ek, .int .i64 ed, .string j0, .string j1, .string j2, .int .i64 j3, .int .i64 j4, .string id, .int .i64 wt], .pointer (some ⟨gI, kf * 13, none⟩)] W fun e' w' => e' = .returned (.int .i64 O.2.2.2.2) ∧ ((O.2.2.2.2 == 0) = false → Below W.heap.size W w') ∧ ((O.2.2.2.2 == 0) = true → ∃ v', JAt B gp gI nI cap v' d O.2.2.1 O.2.2.2.1 O.1 O.2.1 w' ∧ Below B W w') := by
  rcases hk with rfl | rfl | rfl | rfl
  · have HA := any_of_two (er := (startO e t items mm kf x).2.2.2.2) (W := W) (fun h W1 hb => (start_all B gp gI nI cap kf v2 d e t items mm x hx hm W1 hB1 (Nat.le_trans hB2 hb.size) hkf (hJ.below hb)).1 h) (fun h W1 hb => (start_all B gp gI nI cap kf v2 d e t items mm x hx hm W1 hB1 (Nat.le_trans hB2 hb.size) hkf (hJ.below hb)).2 h)
    have hO2 : O = if x.f1 = 1 then startO e t items mm kf x else badO 9 := hO
    refine ch2 B gp gI nI cap kf v2 d e t items mm x W ed j0 j1 j2 j3 j4 id wt hkf ⟨hB1⟩ ⟨hB2⟩ ⟨hJ⟩ ⟨hx⟩ _ _ ⟨HA⟩ _ ⟨fun h w' hb => ?_⟩ ⟨fun h W1 w' hb hR => ?_⟩
    · rw [hO2, if_neg t_8b]
      exact ⟨rfl, fun _ => hb, (fun hc => by cases hc)⟩
    · rw [hO2, if_pos t_8b]
      refine ⟨rfl, fun h0 => below_then hb hb.size (hR.1 (by simpa using h0)), fun h0 => ?_⟩
      obtain ⟨v', h4, h5⟩ := hR.2 (by simpa using h0)
      exact ⟨v', h4, (hb.mono hB2).trans h5⟩
  · have hO2 : O = if x.f1 = 2 then finishO e t items mm kf x wt else badO 9 := hO
    refine ch3 B gp gI nI cap kf v2 d e t items mm x W ed j0 j1 j2 j3 j4 id wt hkf ⟨hB1⟩ ⟨hB2⟩ ⟨hJ⟩ ⟨hx⟩ _ ⟨fun h w' hb => ?_⟩ ⟨fun h h1 w' hb => ?_⟩ ⟨fun h h1 h2 w' h3 hb => ?_⟩
    · rw [hO2, if_neg t_8b]
      exact ⟨rfl, fun _ => hb, (fun hc => by cases hc)⟩
    · rw [hO2, if_pos t_8b]
      unfold finishO
      have : (if wt < 1 then badO 2 else if x.f3 < wt then badO 2 else (items.set kf ⟨x.f0, 3, x.f2, x.f3, wt, z24⟩, mm, e, t, 0) : Out) = badO 2 := by
        by_cases hw : wt < 1
        · rw [if_pos hw]
        · rw [if_neg hw, if_pos (by omega)]
      rw [this]
      exact ⟨rfl, fun _ => hb, (fun hc => by cases hc)⟩
    · rw [hO2, if_pos t_8b]
      unfold finishO
      rw [if_neg h1, if_neg h2]
      exact ⟨rfl, (fun hc => by cases hc), fun _ => ⟨v2, h3, hb⟩⟩
  · have hO2 : O = if x.f1 = 3 then deliverO e t items mm kf x ed else badO 9 := hO
    refine ch4 B gp gI nI cap kf v2 d e t items mm x W ed j0 j1 j2 j3 j4 id wt hkf ⟨hB1⟩ ⟨hB2⟩ ⟨hJ⟩ ⟨hx⟩ _ ⟨fun h w' hb => ?_⟩ ⟨fun h w' h3 hb => ?_⟩
    · rw [hO2, if_neg t_8b]
      exact ⟨rfl, fun _ => hb, (fun hc => by cases hc)⟩
    · rw [hO2, if_pos t_8b]
      exact ⟨rfl, (fun hc => by cases hc), fun _ => ⟨v2, h3, hb⟩⟩
  · have HA := any_of_two (er := (cancelO e t items mm kf x).2.2.2.2) (W := W) (fun h W1 hb => (cancel_all B gp gI nI cap kf v2 d e t items mm x hx hm W1 hB1 (Nat.le_trans hB2 hb.size) hkf (hJ.below hb)).1 h) (fun h W1 hb => (cancel_all B gp gI nI cap kf v2 d e t items mm x hx hm W1 hB1 (Nat.le_trans hB2 hb.size) hkf (hJ.below hb)).2 h)
    have hO2 : O = if x.f1 = 1 ∨ x.f1 = 2 then cancelO e t items mm kf x else badO 9 := hO
    refine ch5 B gp gI nI cap kf v2 d e t items mm x W ed j0 j1 j2 j3 j4 id wt hkf ⟨hB1⟩ ⟨hB2⟩ ⟨hJ⟩ ⟨hx⟩ _ _ ⟨HA⟩ _ ⟨fun h w' hb => ?_⟩ ⟨fun h W1 w' hb hR => ?_⟩
    · rw [hO2, if_neg t_8b]
      exact ⟨rfl, fun _ => hb, (fun hc => by cases hc)⟩
    · rw [hO2, if_pos t_8b]
      refine ⟨rfl, fun h0 => below_then hb hb.size (hR.1 (by simpa using h0)), fun h0 => ?_⟩
      obtain ⟨v', h4, h5⟩ := hR.2 (by simpa using h0)
      exact ⟨v', h4, (hb.mono hB2).trans h5⟩
theorem job_Do.calls (a0_0 : Int) (A0_1 : Option Addr) (c0_1 : Nat) (l0_1 : List (S99)) (A0_2 : Option Addr) (c0_2 : Nat) (l0_2 : List (S24)) (a0_3 : Int) (a0_4 : Int) (a1_0 : Int) (a1_1 : Int) (a1_2 : ByteArray) (a1_3 : ByteArray) (a1_4 : ByteArray) (a1_5 : Int) (a1_6 : Int) (a1_7 : ByteArray) (a1_8 : Int) (r1 : Int) (r2 : List (S99)) (r3 : List (S24)) (r4 : Int) (r5 : Int) (r6 : Int) (w : World) (hr0_1 : Kd.C k99 w A0_1 l0_1.length l0_1) (hc0_1 : l0_1.length ≤ c0_1) (hr0_2 : Kd.C k24 w A0_2 l0_2.length l0_2) (hc0_2 : l0_2.length ≤ c0_2) (h : job_Do.f a0_0 l0_1 l0_2 a0_3 a0_4 a1_0 a1_1 a1_2 a1_3 a1_4 a1_5 a1_6 a1_7 a1_8 = some (r1, r2, r3, r4, r5, r6)) :
    Calls Try.prog 37 #[.agg #[.int .i64 a0_0, .slice A0_1 l0_1.length c0_1, .slice A0_2 l0_2.length c0_2, .int .i64 a0_3, .int .i64 a0_4], .agg #[.int .i64 a1_0, .int .i64 a1_1, .string a1_2, .string a1_3, .string a1_4, .int .i64 a1_5, .int .i64 a1_6, .string a1_7, .int .i64 a1_8]] w fun e w' => ∃ v1_ v2_ : Value, e = .returned (.tuple #[.agg #[.int .i64 r1, v1_, v2_, .int .i64 r4, .int .i64 r5], .int .i64 r6]) ∧ Kd.R k99 99 w' w.heap.size (fun _ => True) v1_ r2 ∧ Kd.R k24 24 w' w.heap.size (fun _ => True) v2_ r3 ∧ Below w.heap.size w w' := by
  unfold job_Do.f at h
  have hm : l0_2.length ≤ 1000 := by
    rcases Nat.lt_or_ge 1000 l0_2.length with hc | hc
    · rw [if_neg (by omega)] at h; cases h
    · exact hc
  rw [if_pos hm] at h
  injection h with h
  have HR := Aside0.mk (fun (w1 : World) (hb : Below w.heap.size w w1) => job_Right.calls a0_0 A0_1 c0_1 l0_1 A0_2 c0_2 l0_2 a0_3 a0_4 (rightS a0_0 l0_1 l0_2 a0_3 a0_4) w1 (Kd.C_below hr0_1 hb) hc0_1 (Kd.C_below hr0_2 hb) hc0_2 (by unfold job_Right.f; rw [if_pos hm]))
  have HS := Aside0.mk (fun (w1 : World) => job_shaped.calls 1 a1_0 a1_1 a1_2 a1_3 a1_4 a1_5 a1_6 a1_7 a1_8 _ w1 (shapeJ_eq a1_0 a1_1 ⟨a1_2, a1_3, a1_4, a1_5, a1_6⟩ a1_7 a1_8))
  unfold doJ at h
  by_cases hr : rightS a0_0 l0_1 l0_2 a0_3 a0_4 = true
  case neg =>
    rw [if_neg hr] at h
    rw [Bool.eq_false_iff.2 hr] at HR
    cases h
    exact jdo_right _ _ _ _ _ _ _ _ _ w _ _ _ _ _ _ _ _ _ HR
  case pos =>
  rw [if_pos hr] at h
  rw [hr] at HR
  by_cases hs : shapeJ a1_0 a1_1 ⟨a1_2, a1_3, a1_4, a1_5, a1_6⟩ a1_7 a1_8 = true
  case neg =>
    rw [if_neg hs] at h
    rw [Bool.eq_false_iff.2 hs] at HS
    cases h
    exact jdo_shaped _ _ _ _ _ _ _ _ _ w _ _ _ _ _ _ _ _ _ HR HS
  case pos =>
  rw [if_pos hs] at h
  have hkind := shapeJ_kind hs
  rw [hs] at HS
  by_cases hd : a1_1 < a0_0
  case pos =>
    rw [if_pos hd] at h
    cases h
    exact jdo_order _ _ _ _ _ _ _ _ _ w _ _ _ _ _ _ _ _ _ HR HS hd
  case neg =>
  rw [if_neg hd] at h
  obtain ⟨_, h60, _, _, _, hgo⟩ := rightS_split hr
  have hn : l0_1.length ≤ 1000 := by omega
  have hsort := (itemsGo_sorted _ _ _ _ hgo).1
  have HCI := Aside0.mk (fun (w1 : World) (hb : Below w.heap.size w w1) => clone85 A0_1 c0_1 l0_1 w1 (Kd.C_below hr0_1 hb) hc0_1 hn)
  have HCP := Aside0.mk (fun (w1 : World) (hb : Below w.heap.size w w1) => clone61 A0_2 c0_2 l0_2 w1 (Kd.C_below hr0_2 hb) hc0_2 hm)
  have HFI := fun (B : Nat) (v : Value) (W : World) (hR : Kd.R k99 99 W B (fun _ => True) v l0_1) => (show Calls Try.prog 87 #[v, .string a1_7] W fun e' w' => e' = .returned (.tuple #[.int .i64 (posI l0_1 a1_7 : Nat), .bool (hasJ l0_1 a1_7)]) ∧ Below W.heap.size W w' from by
    obtain ⟨A, c, rfl, _, _⟩ := Kd.R_reads hR
    exact find87 a1_7 A c l0_1 W (Kd.R_reads' hR).2.2 hn (posI l0_1 a1_7) (posI_le _ _) (posI_lt _ _) (posI_ge _ _ hsort))
  have HA := acc_all l0_1 l0_2 a1_1 a0_3 a0_4 a1_0 a1_1 a1_2 a1_3 a1_4 a1_5 a1_6 a1_7 a1_8 hn hsort
  have hk4 : (a1_0 == 1) = false → a1_0 = 2 ∨ a1_0 = 3 ∨ a1_0 = 4 ∨ a1_0 = 5 := fun hk => by
    have : ¬ a1_0 = 1 := by simpa using hk
    omega
  have HX := fun (B gp gI nI cap : Nat) (v2 : Value) (W : World) (b1 : B ≤ gp) (b2 : B ≤ W.heap.size) (b3 : posI l0_1 a1_7 < nI) (hJ : JAt B gp gI nI cap v2 a1_1 a0_3 a0_4 l0_1 l0_2 W) (hk : (a1_0 == 1) = false) => change_all B gp gI nI cap (posI l0_1 a1_7) v2 a1_1 a0_3 a0_4 l0_1 l0_2 (rd_T99 l0_1 (posI l0_1 a1_7)) rfl hm W b1 b2 b3 hJ a1_0 a1_1 a1_2 a1_3 a1_4 a1_5 a1_6 a1_7 a1_8 (hk4 hk) _ rfl
  have hlt : hasJ l0_1 a1_7 = true → posI l0_1 a1_7 < l0_1.length := fun hh => by
    unfold hasJ at hh
    rw [Bool.and_eq_true] at hh
    exact of_decide_eq_true hh.1
  refine jdo_all _ c0_1 _ c0_2 A0_1 A0_2 a0_0 a0_3 a0_4 w a1_0 a1_1 a1_2 a1_3 a1_4 a1_5 a1_6 a1_7 a1_8 HR HS hd l0_1 l0_2 HCI HCP (posI l0_1 a1_7) _ ⟨HFI⟩ hlt _ _ _ _ _ _ _ _ _ _ _ ⟨rfl⟩ ⟨HA⟩ ⟨HX⟩ _ ⟨fun h1 h2 e' w' hp => ?_⟩ ⟨fun h1 h2 e' w' hp => ?_⟩ ⟨fun h1 h2 e' w' hp => ?_⟩ ⟨fun h1 h2 h3 e' w' hp => ?_⟩ ⟨fun h1 h2 h3 e' w' hp => ?_⟩
  · rw [if_pos (show a1_0 = 1 by simpa using h1)] at h
    have ha : acceptE l0_1 l0_2 ⟨a1_2, a1_3, a1_4, a1_5, a1_6⟩ ≠ 0 := by simpa using h2
    have he : zeroS (acceptE l0_1 l0_2 ⟨a1_2, a1_3, a1_4, a1_5, a1_6⟩) = (r1, r2, r3, r4, r5, r6) := by
      rw [← h]
      unfold acceptE at ha ⊢
      simp only at ha ⊢
      split
      · rfl
      rename_i g1
      rw [if_neg g1] at ha
      split
      · rfl
      rename_i g2
      rw [if_neg g2] at ha
      split
      · rfl
      rename_i g3
      rw [if_neg g3] at ha
      split
      · rfl
      rename_i g4
      rw [if_neg g4] at ha
      exact absurd rfl ha
    unfold zeroS at he
    cases he
    exact hp
  · rw [if_pos (show a1_0 = 1 by simpa using h1)] at h
    have ha : acceptE l0_1 l0_2 ⟨a1_2, a1_3, a1_4, a1_5, a1_6⟩ = 0 := by simpa using h2
    unfold acceptE at ha
    simp only at h ha
    split at ha
    · cases ha
    split at ha
    · cases ha
    split at ha
    · cases ha
    split at ha
    · cases ha
    rename_i g1 g2 g3 g4
    rw [if_neg g1, if_neg g2, if_neg g3, if_neg g4] at h
    cases h
    exact hp
  · rw [if_neg (show ¬ a1_0 = 1 by simpa using h1), if_neg (by rw [h2]; decide)] at h
    cases h
    exact hp
  · rw [if_neg (show ¬ a1_0 = 1 by simpa using h1), if_pos h2, if_neg (by simpa using h3)] at h
    unfold zeroS at h
    cases h
    exact hp
  · rw [if_neg (show ¬ a1_0 = 1 by simpa using h1), if_pos h2, if_pos (by simpa using h3)] at h
    cases h
    exact hp
end Go.Proofs.Ytndbchcfjajgbaa.XP
