/- Cancelling what was just started; what job.Find finds. Plain lists. -/
import Derived.Test.YtndbchcfjajgbaaPureJob2
import Derived.Test.YtndbchcfjajgbaaHandJobFind
namespace Go.Proofs.Ytndbchcfjajgbaa.XP
open Go Go.RowKit Go.Proofs.Ytndbchcfjajgbaa.XH
set_option linter.unusedVariables false
set_option linter.unusedSimpArgs false
theorem empty_list : (⟨#[]⟩ : ByteArray).toList = [] := by rw [ByteArray.toList_eq]
theorem shaped1_mk {p : S24} (h : rightB p = true) : shapedB 1 p.f0 p.f1 p.f2 p.f3 ⟨#[]⟩ ⟨#[]⟩ 0 0 = true := by
  have H := shaped_eq 1 p.f0 p.f1 p.f2 p.f3 ⟨#[]⟩ ⟨#[]⟩ 0 0
  unfold parcel_shaped.f at H
  rw [right_eq, if_pos rfl, show rightB ⟨p.f0, p.f1, p.f2, p.f3⟩ = true from h] at H
  simp only [Option.bind_some, if_true, empty_list] at H
  have := Option.some.inj H
  rw [← this]; rfl
theorem out_in {mm : List S24} (hv : validB mm = true) {f : ByteArray} {p : S24} (hp : getK S24.f0 mm f = some p) : doR (mm.eraseIdx (posK S24.f0 f mm)) 1 p.f0 p.f1 p.f2 p.f3 ⟨#[]⟩ ⟨#[]⟩ 0 0 = (mm, 0) := by
  obtain ⟨hr, hs, h100⟩ := (validB_iff mm).1 hv
  have hpk := (getK_some hp).2
  have hpr := hr p (getK_some hp).1
  obtain ⟨r1, r2⟩ := rises_erase (key := S24.f0) hs hp
  have hlt := (List.getElem?_eq_some_iff.1 (posK_at (key := S24.f0) hs hp)).1
  have hlen : (mm.eraseIdx (posK S24.f0 f mm)).length = mm.length - 1 := by rw [List.length_eraseIdx, if_pos hlt]
  have hv' : validB (mm.eraseIdx (posK S24.f0 f mm)) = true := (validB_iff _).2 ⟨fun z hz => hr z (List.mem_of_mem_eraseIdx hz), r1, by omega⟩
  unfold doR
  rw [if_pos hv', if_pos (shaped1_mk hpr), if_pos rfl, putR_eq r1]
  have hn : getK S24.f0 (mm.eraseIdx (posK S24.f0 f mm)) p.f0 = none := by rw [r2, hpk, if_pos rfl]
  rw [show getK S24.f0 (mm.eraseIdx (posK S24.f0 f mm)) (⟨p.f0, p.f1, p.f2, p.f3⟩ : S24).f0 = none from hn, if_neg (by simp), if_neg (by omega)]
  congr 1
  obtain ⟨q1, q2⟩ := ins_rises r1 p hn
  refine rises_ext (key := S24.f0) q1 hs (fun s => ?_)
  show getK S24.f0 (insP _ p) s = _
  rw [q2, r2]
  by_cases e : p.f0 = s
  · rw [if_pos e, ← e, hpk, hp]
  · rw [if_neg e, if_neg (by rw [← hpk]; exact e)]
theorem fndI_get (l : List S99) (s : ByteArray) : (∀ x, getK kI l s = some x → fndI l s = x ∧ hasI l s = true) ∧ (getK kI l s = none → fndI l s = z99 ∧ hasI l s = false) := by
  have key : ∀ (l : List S99) (i : Int), 0 ≤ i → (∀ x, getK kI l s = some x → ∃ j : Nat, idx (isIdI s) l i = i + j ∧ l[j]? = some x) ∧ (getK kI l s = none → idx (isIdI s) l i = -1) := by
    intro l
    induction l with
    | nil => intro i hi; exact ⟨fun x h => by simp [getK_nil] at h, fun _ => rfl⟩
    | cons y l ih =>
      intro i hi
      have e : isIdI s y = true ↔ y.f0.f0 = s := by unfold isIdI; rw [beq_iff_eq, toList_inj]
      rw [getK_cons]
      unfold idx
      by_cases h : y.f0.f0 = s
      · rw [if_pos h, if_pos (e.2 h)]
        exact ⟨fun x hx => ⟨0, by simp, by simpa using hx⟩, fun hx => by cases hx⟩
      · rw [if_neg h, if_neg (fun hc => h (e.1 hc))]
        obtain ⟨h1, h2⟩ := ih (i + 1) (by omega)
        refine ⟨fun x hx => ?_, h2⟩
        obtain ⟨j, q1, q2⟩ := h1 x hx
        exact ⟨j + 1, by rw [q1]; omega, by simpa using q2⟩
  obtain ⟨h1, h2⟩ := key l 0 (by omega)
  unfold fndI hasI
  constructor
  · intro x hx
    obtain ⟨j, q1, q2⟩ := h1 x hx
    rw [q1, Int.zero_add]
    rw [if_pos (by omega), rdI_of_get q2]
    exact ⟨rfl, decide_eq_true (by omega)⟩
  · intro hx
    rw [h2 hx]
    exact ⟨rfl, rfl⟩
def noJob : S81 := ⟨⟨#[]⟩, ⟨#[]⟩, ⟨#[]⟩, 0, 0⟩
theorem noJob_zero : zeroJob noJob = true := by
  unfold zeroJob noJob
  simp [empty_list]
theorem shape5 {ed : Int} (h : 0 ≤ ed ∧ ed ≤ 100000) (id : ByteArray) : shapeJ 5 ed noJob id 0 = true := by
  unfold shapeJ
  rw [(dayB_iff ed).2 h, if_neg (by decide), if_pos (by omega), noJob_zero]; rfl
/-- Cancelling an item that was started. -/
theorem doJ_cancel {d : Int} {l : List S99} {m : List S24} {e t ed : Int} {id : ByteArray} {y : S99} {m' : List S24} (hr : rightS d l m e t = true) (hd : d ≤ ed) (he : ed ≤ 100000) (hy : getK kI l id = some y) (hs : y.f1 = 2)
    (hR : doR m 1 y.f5.f0 y.f5.f1 y.f5.f2 y.f5.f3 ⟨#[]⟩ ⟨#[]⟩ 0 0 = (m', 0)) : doJ d l m e t 5 ed noJob id 0 = (ed, l.set (posK kI id l) ⟨y.f0, 5, ed, 0, y.f4, z24⟩, m', e, t, 0) := by
  obtain ⟨hday, _, _, _, _, _, hS, _⟩ := (rightS_iff d l m e t).1 hr
  have hd0 := ((dayB_iff d).1 hday).1
  have hat := posK_at (key := kI) hS hy
  have hlt := (List.getElem?_eq_some_iff.1 hat).1
  unfold doJ
  rw [if_pos hr, if_pos (shape5 ⟨by omega, he⟩ id), if_neg (by omega), if_neg (by decide), hasJ_eq hS, hy, if_pos (by rfl), posI_posK, rdI_of_get hat]
  have hC : changeO e t l m (posK kI id l) y 5 ed 0 = (l.set (posK kI id l) ⟨y.f0, 5, y.f2, 0, y.f4, z24⟩, m', e, t, 0) := by
    unfold changeO
    rw [if_neg (by decide), if_neg (by decide), if_neg (by decide), if_pos (.inr hs)]
    unfold cancelO
    rw [if_pos hs, hR, if_pos rfl]
  rw [hC, if_pos rfl]
  simp only
  rw [set_since l _ hlt]; rfl
/-- A job is started, and cancelled. -/
theorem start_cancel {d : Int} {l : List S99} {mm : List S24} {e t ed : Int} {id : ByteArray} {d' : Int} {l' : List S99} {m' : List S24} {e' t' : Int} (H : doJ d l mm e t 2 d noJob id 0 = (d', l', m', e', t', 0)) (hd : d ≤ ed) (he : ed ≤ 100000) :
    ∃ x l2, doJ d' l' m' e' t' 5 ed noJob id 0 = (ed, l2, mm, e, t, 0) ∧ getK kI l2 id = some x ∧ x.f1 = 5 ∧ m'.length ≤ 101 := by
  obtain ⟨hr, hsh, hd1, rfl, hS⟩ := doJ_ok H
  obtain ⟨_, h60, he0, ht0, hv, hI, hSo, _⟩ := (rightS_iff _ l mm e t).1 hr
  have hlen := (step_len hr hS).2
  rcases hS with ⟨h0, _⟩ | ⟨hk, x, y, hx, hSt, hy0, hy2, hl⟩
  · omega
  rcases hSt with ⟨_, h1, ⟨p, hp, hm, hy⟩, h2, h3⟩ | ⟨h0, _⟩ | ⟨h0, _⟩ | ⟨h0, _⟩ | ⟨h0, _⟩
  · subst h2 h3
    have hr' : rightS d' l' m' e' t' = true := step_right hr hsh (Int.le_refl _) (.inr ⟨hk, x, y, hx, .inl ⟨rfl, h1, ⟨p, hp, hm, hy⟩, rfl, rfl⟩, hy0, hy2, hl⟩) he0 ht0
    obtain ⟨g1, g2⟩ := setJ_rises hSo hx y hy0
    have hyk : getK kI l' id = some y := by rw [hl, g2, if_pos rfl]
    have hR : doR m' 1 y.f5.f0 y.f5.f1 y.f5.f2 y.f5.f3 ⟨#[]⟩ ⟨#[]⟩ 0 0 = (mm, 0) := by rw [hy, hm]; exact out_in hv hp
    have g1' : SortedI l' := by rw [hl]; exact g1
    obtain ⟨q1, q2⟩ := setJ_rises g1' hyk ⟨y.f0, 5, ed, 0, y.f4, z24⟩ rfl
    exact ⟨⟨y.f0, 5, ed, 0, y.f4, z24⟩, _, doJ_cancel hr' hd he hyk (by rw [hy]) hR, by rw [q2, if_pos rfl], rfl, hlen⟩
  · omega
  · omega
  · omega
  · omega
end Go.Proofs.Ytndbchcfjajgbaa.XP
