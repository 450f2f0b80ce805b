/- Two events for two jobs, in either order. Plain lists. -/
import Derived.Test.YtndbchcfjajgbaaXB
import Derived.Test.YtndbchcfjajgbaaPureJob2
namespace Go.Proofs.Ytndbchcfjajgbaa.XP
open Go.Proofs.Ytndbchcfjajgbaa.XB Go.Proofs.Ytndbchcfjajgbaa.XQ
open Go Go.RowKit
set_option linter.unusedVariables false
set_option linter.unusedSimpArgs false
/-- What an event does to the parcel: nothing, or one key gets another value. -/
def PEff (m m' : List S24) : Option (ByteArray × Option S24) → Prop
  | none => m' = m
  | some (f, o) => (getK S24.f0 m f).isSome = o.isNone ∧ Sorted m' ∧ ∀ s, getK S24.f0 m' s = if f = s then o else getK S24.f0 m s
theorem peff_ne {m m1 m2 m3 : List S24} {f g : ByteArray} {o p : Option S24} (h1 : PEff m m1 (some (f, o))) (h2 : PEff m1 m2 (some (g, p))) (h3 : PEff m m3 (some (g, p))) : f ≠ g := by
  rintro rfl
  obtain ⟨a1, _, a2⟩ := h1
  obtain ⟨b1, _, _⟩ := h2
  obtain ⟨c1, _, _⟩ := h3
  rw [a2 f, if_pos rfl] at b1
  rw [a1] at c1
  cases o <;> cases p <;> simp at b1 c1
theorem peff_comm {m m1 m2 m3 m4 : List S24} {q r : Option (ByteArray × Option S24)} (h1 : PEff m m1 q) (h2 : PEff m1 m2 r) (h3 : PEff m m3 r) (h4 : PEff m3 m4 q) : m2 = m4 := by
  cases q with
  | none =>
    have e1 : m1 = m := h1
    have e4 : m4 = m3 := h4
    subst e1 e4
    cases r with
    | none => exact h2.trans h3.symm
    | some r =>
      obtain ⟨g, p⟩ := r
      refine rises_ext (key := S24.f0) h2.2.1 h3.2.1 (fun s => ?_)
      rw [h2.2.2, h3.2.2]
  | some q =>
    obtain ⟨f, o⟩ := q
    cases r with
    | none =>
      have e2 : m2 = m1 := h2
      have e3 : m3 = m := h3
      subst e2 e3
      refine rises_ext (key := S24.f0) h1.2.1 h4.2.1 (fun s => ?_)
      rw [h1.2.2, h4.2.2]
    | some r =>
      obtain ⟨g, p⟩ := r
      have hne := peff_ne h1 h2 h3
      refine rises_ext (key := S24.f0) h2.2.1 h4.2.1 (fun s => ?_)
      rw [h2.2.2, h1.2.2, h4.2.2, h3.2.2]
      by_cases hf : f = s
      · rw [if_pos hf, if_pos hf, if_neg (fun e => hne (hf.trans e.symm))]
      · rw [if_neg hf, if_neg hf]
def keyE (ek : Int) (j : S81) (id : ByteArray) : ByteArray := if ek = 1 then j.f0 else id
def newY (ek ed wt : Int) (j : S81) (X : Option S99) (P : Option S24) : S99 :=
  if ek = 1 then newItem j ed else if ek = 2 then ⟨(X.getD z99).f0, 2, ed, (P.getD z24).f2, (X.getD z99).f4, P.getD z24⟩
  else if ek = 3 then ⟨(X.getD z99).f0, 3, ed, (X.getD z99).f3, wt, z24⟩
  else if ek = 4 then ⟨(X.getD z99).f0, 4, ed, (X.getD z99).f3, (X.getD z99).f4, (X.getD z99).f5⟩
  else ⟨(X.getD z99).f0, 5, ed, 0, (X.getD z99).f4, z24⟩
def newQ (ek : Int) (X : Option S99) : Option (ByteArray × Option S24) :=
  if ek = 2 then some ((X.getD z99).f0.f1, none) else if ek = 5 then (if (X.getD z99).f1 = 2 then some ((X.getD z99).f5.f0, some (X.getD z99).f5) else none) else none
def effE (ek : Int) (X : Option S99) (e : Int) : Int := if ek = 4 then wrap64 (e + (X.getD z99).f0.f4) else e
def effT (ek ed : Int) (X : Option S99) (t : Int) : Int := if ek = 4 then wrap64 (t + max 0 (wrap64 (ed - (X.getD z99).f0.f3))) else t
theorem effE_comm (a b : Int) (X Y : Option S99) (e : Int) : effE a X (effE b Y e) = effE b Y (effE a X e) := by
  unfold effE wrap64
  split <;> split <;> omega
theorem effT_comm (a b ed : Int) (X Y : Option S99) (t : Int) : effT a ed X (effT b ed Y t) = effT b ed Y (effT a ed X t) := by
  unfold effT
  generalize max 0 (wrap64 (ed - (X.getD z99).f0.f3)) = u
  generalize max 0 (wrap64 (ed - (Y.getD z99).f0.f3)) = v
  unfold wrap64
  split <;> split <;> omega
theorem step_keys {d : Int} {l : List S99} {mm : List S24} {e t : Int} {ek ed : Int} {j : S81} {id : ByteArray} {wt : Int} {l' : List S99} {m' : List S24} {e' t' : Int} (hr : rightS d l mm e t = true) (H : StepJ l mm e t ek ed j id wt l' m' e' t') :
    SortedI l' ∧ (∀ s, getK kI l' s = if keyE ek j id = s then some (newY ek ed wt j (getK kI l (keyE ek j id)) (getK S24.f0 mm ((getK kI l (keyE ek j id)).getD z99).f0.f1)) else getK kI l s) ∧
      PEff mm m' (newQ ek (getK kI l (keyE ek j id))) ∧ e' = effE ek (getK kI l (keyE ek j id)) e ∧ t' = effT ek ed (getK kI l (keyE ek j id)) t := by
  obtain ⟨_, _, _, _, hv, hI, hS, _⟩ := (rightS_iff d l mm e t).1 hr
  have hSm := ((validB_iff mm).1 hv).2.1
  rcases H with ⟨rfl, h1, h2, h3, h4, rfl, rfl, rfl, rfl⟩ | ⟨hk, x, y, hx, hSt, hy0, hy2, rfl⟩
  · obtain ⟨a, b⟩ := insJ_rises hS (newItem j ed) h1
    refine ⟨a, fun s => ?_, rfl, rfl, rfl⟩
    rw [b]; rfl
  · have hke : keyE ek j id = id := by unfold keyE; rw [if_neg (by omega)]
    obtain ⟨a, b⟩ := setJ_rises hS hx y hy0
    rw [hke, hx]
    refine ⟨a, fun s => ?_, ?_⟩
    · rw [b]
      congr 2
      rcases hSt with ⟨rfl, _, ⟨p, hp, _, rfl⟩, _, _⟩ | ⟨rfl, _, _, _, rfl, _, _, _⟩ | ⟨rfl, _, rfl, _, _, _⟩ | ⟨rfl, _, rfl, _, _, _⟩ | ⟨rfl, _, rfl, _, _, _, _, _⟩
      · show _ = (⟨x.f0, 2, ed, ((getK S24.f0 mm x.f0.f1).getD z24).f2, x.f4, (getK S24.f0 mm x.f0.f1).getD z24⟩ : S99)
        rw [hp]; rfl
      · rfl
      · rfl
      · rfl
      · rfl
    · rcases hSt with ⟨rfl, _, ⟨p, hp, rfl, _⟩, rfl, rfl⟩ | ⟨rfl, _, _, _, _, rfl, rfl, rfl⟩ | ⟨rfl, _, _, rfl, rfl, rfl⟩ | ⟨rfl, h1, _, rfl, rfl, rfl⟩ | ⟨rfl, h1, _, h2, h3, rfl, rfl, rfl⟩
      · obtain ⟨q1, q2⟩ := rises_erase (key := S24.f0) hSm hp
        exact ⟨⟨by show (getK S24.f0 mm x.f0.f1).isSome = true; rw [hp]; rfl, q1, q2⟩, rfl, rfl⟩
      · exact ⟨rfl, rfl, rfl⟩
      · exact ⟨rfl, rfl, rfl⟩
      · refine ⟨?_, rfl, rfl⟩
        show PEff _ _ (if x.f1 = 2 then _ else none)
        rw [if_neg (by omega)]; rfl
      · refine ⟨?_, rfl, rfl⟩
        show PEff mm (insP mm x.f5) (if x.f1 = 2 then some (x.f5.f0, some x.f5) else none)
        rw [if_pos h1]
        obtain ⟨q1, q2⟩ := ins_rises hSm x.f5 h2
        exact ⟨by rw [h2]; rfl, q1, q2⟩
theorem newY_eq (ek ed wt : Int) (j : S81) (X : Option S99) (P P' : Option S24) (h : ek = 2 → P = P') : newY ek ed wt j X P = newY ek ed wt j X P' := by
  unfold newY
  by_cases h2 : ek = 2
  · rw [h h2]
  · simp only [if_neg h2]
theorem doJ_comm {d : Int} {l : List S99} {mm : List S24} {e t ed : Int} {ka kb : Int} {ja jb : S81} {ia ib : ByteArray} {wa wb : Int}
    {d1 d2 d3 d4 : Int} {l1 l2 l3 l4 : List S99} {m1 m2 m3 m4 : List S24} {e1 e2 e3 e4 t1 t2 t3 t4 : Int}
    (H1 : doJ d l mm e t ka ed ja ia wa = (d1, l1, m1, e1, t1, 0)) (H2 : doJ d1 l1 m1 e1 t1 kb ed jb ib wb = (d2, l2, m2, e2, t2, 0))
    (H3 : doJ d l mm e t kb ed jb ib wb = (d3, l3, m3, e3, t3, 0)) (H4 : doJ d3 l3 m3 e3 t3 ka ed ja ia wa = (d4, l4, m4, e4, t4, 0))
    (hne : keyE ka ja ia ≠ keyE kb jb ib) : d2 = d4 ∧ l2 = l4 ∧ m2 = m4 ∧ e2 = e4 ∧ t2 = t4 := by
  obtain ⟨r1, _, _, rfl, s1⟩ := doJ_ok H1
  obtain ⟨r2, _, _, rfl, s2⟩ := doJ_ok H2
  obtain ⟨r3, _, _, rfl, s3⟩ := doJ_ok H3
  obtain ⟨r4, _, _, rfl, s4⟩ := doJ_ok H4
  obtain ⟨a1, b1, c1, x1, y1⟩ := step_keys r1 s1
  obtain ⟨a2, b2, c2, x2, y2⟩ := step_keys r2 s2
  obtain ⟨a3, b3, c3, x3, y3⟩ := step_keys r3 s3
  obtain ⟨a4, b4, c4, x4, y4⟩ := step_keys r4 s4
  have g2 : getK kI l1 (keyE kb jb ib) = getK kI l (keyE kb jb ib) := by rw [b1, if_neg hne]
  have g4 : getK kI l3 (keyE ka ja ia) = getK kI l (keyE ka ja ia) := by rw [b3, if_neg (fun e => hne e.symm)]
  rw [g2] at c2 x2 y2 b2
  rw [g4] at c4 x4 y4 b4
  have hm : m2 = m4 := peff_comm c1 c2 c3 c4
  refine ⟨rfl, ?_, hm, ?_, ?_⟩
  · refine rises_ext (key := kI) a2 a4 (fun s => ?_)
    rw [b2, b4, b1, b3]
    have pa : ka = 2 → getK S24.f0 mm ((getK kI l (keyE ka ja ia)).getD z99).f0.f1 = getK S24.f0 m3 ((getK kI l (keyE ka ja ia)).getD z99).f0.f1 := fun h2 => by
      have c1' := c1
      unfold newQ at c1'
      rw [if_pos h2] at c1'
      cases hq : newQ kb (getK kI l (keyE kb jb ib)) with
      | none => rw [hq] at c3; rw [show m3 = mm from c3]
      | some q =>
        obtain ⟨g, p⟩ := q
        rw [hq] at c2 c3
        rw [c3.2.2, if_neg (fun e => peff_ne c1' c2 c3 e.symm)]
    have pb : kb = 2 → getK S24.f0 mm ((getK kI l (keyE kb jb ib)).getD z99).f0.f1 = getK S24.f0 m1 ((getK kI l (keyE kb jb ib)).getD z99).f0.f1 := fun h2 => by
      have c3' := c3
      unfold newQ at c3'
      rw [if_pos h2] at c3'
      cases hq : newQ ka (getK kI l (keyE ka ja ia)) with
      | none => rw [hq] at c1; rw [show m1 = mm from c1]
      | some q =>
        obtain ⟨g, p⟩ := q
        rw [hq] at c1 c4
        rw [c1.2.2, if_neg (fun e => peff_ne c3' c4 c1 e.symm)]
    rw [newY_eq ka _ wa ja _ _ _ pa, newY_eq kb _ wb jb _ _ _ pb]
    by_cases ha : keyE ka ja ia = s
    · rw [if_pos ha, if_pos ha, if_neg (fun e => hne (ha.trans e.symm))]
    · rw [if_neg ha, if_neg ha]
  · rw [x2, x1, x4, x3]; exact effE_comm _ _ _ _ _
  · rw [y2, y1, y4, y3]; exact effT_comm _ _ _ _ _ _
/-- The key of an event is what stands in its two names. -/
theorem shape_key {ek ed : Int} {j : S81} {id : ByteArray} {wt : Int} (h : shapeJ ek ed j id wt = true) : (id ++ j.f0).toList = (keyE ek j id).toList := by
  have e0 : (⟨#[]⟩ : ByteArray).toList = [] := by rw [ByteArray.toList_eq]
  have app : (id ++ j.f0).toList = id.toList ++ j.f0.toList := by rw [ByteArray.toList_eq, ByteArray.toList_eq, ByteArray.toList_eq]; simp
  rw [app]
  unfold keyE
  by_cases h1 : ek = 1
  · subst h1
    obtain ⟨_, h2, _⟩ := shapeJ_job h
    rw [if_pos rfl, h2, e0]; rfl
  · rw [if_neg h1]
    unfold shapeJ at h
    rw [if_neg h1, Bool.and_eq_true] at h
    have hz : zeroJob j = true := by
      have h2 := h.2
      by_cases hk : ek = 2 ∨ ek = 4 ∨ ek = 5
      · rw [if_pos hk, Bool.and_eq_true] at h2; exact h2.1
      · rw [if_neg hk] at h2
        by_cases h3 : ek = 3
        · rw [if_pos h3] at h2; exact h2
        · rw [if_neg h3] at h2; cases h2
    unfold zeroJob at hz
    rw [Bool.and_eq_true, beq_iff_eq] at hz
    rw [hz.1, List.append_nil]
end Go.Proofs.Ytndbchcfjajgbaa.XP
