/- A loop's head: what is kept. -/
import Derived.Test.YtbgdfikfldkjbaaAI11
namespace Go.Proofs.Ytbgdfikfldkjbaa.AI
set_option linter.unnecessarySimpa false
open Go
set_option linter.unusedVariables false
set_option linter.unusedSimpArgs false
theorem idsC_sc {W : World} {S : Nat → Prop} {x : C} (h : x.sc W S) : ∀ i ∈ idsC x, S i := by
  cases x <;> simp only [idsC, C.sc] at h ⊢ <;> intro i hi
  all_goals first | (cases hi; done) | skip
  · rw [List.mem_singleton.1 hi]; exact h
  · rw [List.mem_singleton.1 hi]; exact h
  · rw [List.mem_singleton.1 hi]; exact h
  · rcases List.mem_append.1 hi with hi | hi
    · obtain ⟨p, hp, rfl⟩ := List.mem_map.1 hi; exact h.1 p hp
    · obtain ⟨p, hp, rfl⟩ := List.mem_map.1 hi; exact h.2 p hp
theorem idsU_sc {W : World} {S : Nat → Prop} {x : U} (h : x.sc W S) : ∀ i ∈ idsU x, S i := by
  cases x with
  | c y => exact idsC_sc h
  | a ys =>
    intro i hi
    obtain ⟨y, hy, hi⟩ := List.mem_flatMap.1 hi
    exact idsC_sc (h y hy) i hi
theorem idsV_sc {W : World} {S : Nat → Prop} {x : V} (h : x.sc W S) : ∀ i ∈ idsV x, S i := by
  cases x with
  | u y => exact idsU_sc h
  | t ys =>
    intro i hi
    obtain ⟨y, hy, hi⟩ := List.mem_flatMap.1 hi
    exact idsU_sc (h y hy) i hi
  | any => intro i hi; cases hi
theorem renC_den {f : Nat → Nat} {ρ1 ρ2 : Ren} {x : C} (h : ∀ i ∈ idsC x, ρ2 (f i) = ρ1 i) : (renC f x).den ρ2 = x.den ρ1 := by
  cases x with
  | ptr b o => simp only [renC, C.den]; rw [h b (by simp [idsC])]
  | rp b sz i o => simp only [renC, C.den]; rw [h b (by simp [idsC])]
  | row b sz st n nl => simp only [renC, C.den]; rw [h b (by simp [idsC])]
  | fn g p q =>
    simp only [renC, C.den, List.map_map]
    have e1 : ∀ l : List (Nat × Nat), (∀ x ∈ l, ρ2 (f x.1) = ρ1 x.1) → l.map (pv ρ2 ∘ fun x => (f x.1, x.2)) = l.map (pv ρ1) := fun l hl => List.map_congr_left fun x hx => by simp only [Function.comp, pv]; rw [hl x hx]
    rw [e1 p (fun x hx => h x.1 (List.mem_append_left _ (List.mem_map.2 ⟨x, hx, rfl⟩))), e1 q (fun x hx => h x.1 (List.mem_append_right _ (List.mem_map.2 ⟨x, hx, rfl⟩)))]
  | _ => rfl
theorem renC_sc {f : Nat → Nat} {W : World} {S S2 : Nat → Prop} {x : C} (h : ∀ i ∈ idsC x, S2 (f i)) (hx : x.sc W S) : (renC f x).sc W S2 := by
  cases x with
  | ptr b o => exact h b (by simp [idsC])
  | rp b sz i o => exact h b (by simp [idsC])
  | row b sz st n nl => exact h b (by simp [idsC])
  | fn g p q =>
    refine ⟨fun y hy => ?_, fun y hy => ?_⟩
    · obtain ⟨x, hx, rfl⟩ := List.mem_map.1 hy; exact h x.1 (List.mem_append_left _ (List.mem_map.2 ⟨x, hx, rfl⟩))
    · obtain ⟨x, hx, rfl⟩ := List.mem_map.1 hy; exact h x.1 (List.mem_append_right _ (List.mem_map.2 ⟨x, hx, rfl⟩))
  | _ => exact hx
theorem renC_id {f : Nat → Nat} {x : C} (h : ∀ i ∈ idsC x, f i = i) : renC f x = x := by
  cases x with
  | ptr b o => simp only [renC]; rw [h b (by simp [idsC])]
  | rp b sz i o => simp only [renC]; rw [h b (by simp [idsC])]
  | row b sz st n nl => simp only [renC]; rw [h b (by simp [idsC])]
  | fn g p q =>
    simp only [renC]
    have e1 : ∀ l : List (Nat × Nat), (∀ x ∈ l, f x.1 = x.1) → l.map (fun x => (f x.1, x.2)) = l := fun l hl => by
      conv => rhs; rw [← List.map_id l]
      exact List.map_congr_left fun x hx => by rw [hl x hx]; rfl
    rw [e1 p (fun x hx => h x.1 (List.mem_append_left _ (List.mem_map.2 ⟨x, hx, rfl⟩))), e1 q (fun x hx => h x.1 (List.mem_append_right _ (List.mem_map.2 ⟨x, hx, rfl⟩)))]
  | _ => rfl
theorem renU_den {f : Nat → Nat} {ρ1 ρ2 : Ren} {x : U} (h : ∀ i ∈ idsU x, ρ2 (f i) = ρ1 i) : (renU f x).den ρ2 = x.den ρ1 := by
  cases x with
  | c y => exact renC_den h
  | a ys =>
    simp only [renU, U.den, List.map_map]
    rw [List.map_congr_left (f := C.den ρ2 ∘ renC f) (g := C.den ρ1) fun y hy => renC_den fun i hi => h i (List.mem_flatMap.2 ⟨y, hy, hi⟩)]
theorem renU_sc {f : Nat → Nat} {W : World} {S S2 : Nat → Prop} {x : U} (h : ∀ i ∈ idsU x, S2 (f i)) (hx : x.sc W S) : (renU f x).sc W S2 := by
  cases x with
  | c y => exact renC_sc h hx
  | a ys =>
    intro z hz
    obtain ⟨y, hy, rfl⟩ := List.mem_map.1 hz
    exact renC_sc (fun i hi => h i (List.mem_flatMap.2 ⟨y, hy, hi⟩)) (hx y hy)
theorem renV_den {f : Nat → Nat} {ρ1 ρ2 : Ren} {x : V} (h : ∀ i ∈ idsV x, ρ2 (f i) = ρ1 i) : (renV f x).den ρ2 = x.den ρ1 := by
  cases x with
  | u y => exact renU_den h
  | t ys =>
    simp only [renV, V.den, List.map_map]
    rw [List.map_congr_left (f := U.den ρ2 ∘ renU f) (g := U.den ρ1) fun y hy => renU_den fun i hi => h i (List.mem_flatMap.2 ⟨y, hy, hi⟩)]
  | any => rfl
theorem renV_sc {f : Nat → Nat} {W : World} {S S2 : Nat → Prop} {x : V} (h : ∀ i ∈ idsV x, S2 (f i)) (hx : x.sc W S) : (renV f x).sc W S2 := by
  cases x with
  | u y => exact renU_sc h hx
  | t ys =>
    intro z hz
    obtain ⟨y, hy, rfl⟩ := List.mem_map.1 hz
    exact renU_sc (fun i hi => h i (List.mem_flatMap.2 ⟨y, hy, hi⟩)) (hx y hy)
  | any => exact trivial
theorem any_beq {l : List Nat} {b : Nat} : l.any (Nat.beq b) = true ↔ b ∈ l := by
  rw [List.any_eq_true]
  constructor
  · rintro ⟨x, hx, e⟩
    rw [Nat.eq_of_beq_eq_true e]; exact hx
  · exact fun h => ⟨b, h, Nat.beq_refl b⟩
theorem addIds_spec {n0 : Nat} : ∀ (l acc : List Nat), acc.Nodup → (∀ i ∈ acc, n0 ≤ i) → (addIds n0 acc l).Nodup ∧ (∀ i ∈ addIds n0 acc l, n0 ≤ i) ∧ (∀ i ∈ acc, i ∈ addIds n0 acc l) ∧ ∀ i ∈ l, i < n0 ∨ i ∈ addIds n0 acc l
  | [], acc, h1, h2 => ⟨h1, h2, fun i hi => hi, fun i hi => by cases hi⟩
  | b :: r, acc, h1, h2 => by
    simp only [addIds]
    cases hc : (Nat.blt b n0 || acc.any (Nat.beq b)) with
    | true =>
      rw [cond_true]
      obtain ⟨g1, g2, g3, g4⟩ := addIds_spec r acc h1 h2
      refine ⟨g1, g2, g3, fun i hi => ?_⟩
      rcases List.mem_cons.1 hi with rfl | hi
      · rw [Bool.or_eq_true] at hc
        rcases hc with hc | hc
        · exact .inl (by simpa [Nat.blt_eq] using hc)
        · exact .inr (g3 _ (any_beq.1 hc))
      · exact g4 i hi
    | false =>
      rw [cond_false]
      rw [Bool.or_eq_false_iff] at hc
      have hb1 : n0 ≤ b := by
        have := hc.1
        rcases Nat.lt_or_ge b n0 with h | h
        · rw [show Nat.blt b n0 = true by rw [Nat.blt_eq]; exact h] at this; cases this
        · exact h
      have hb2 : b ∉ acc := fun h => by have := any_beq.2 h; rw [hc.2] at this; cases this
      obtain ⟨g1, g2, g3, g4⟩ := addIds_spec r (acc ++ [b]) (by
        rw [List.nodup_append]
        exact ⟨h1, by simp, fun x hx y hy => by rw [List.mem_singleton.1 hy]; rintro rfl; exact hb2 hx⟩) (fun i hi => by
        rcases List.mem_append.1 hi with hi | hi
        · exact h2 i hi
        · rw [List.mem_singleton.1 hi]; exact hb1)
      refine ⟨g1, g2, fun i hi => g3 i (List.mem_append_left _ hi), fun i hi => ?_⟩
      rcases List.mem_cons.1 hi with rfl | hi
      · exact .inr (g3 _ (List.mem_append_right _ (List.mem_singleton.2 rfl)))
      · exact g4 i hi
theorem place_spec {b : Nat} : ∀ (ids : List Nat) (i : Nat), b ∈ ids → ∃ j, j < ids.length ∧ ids[j]? = some b ∧ place ids i b = i + j
  | [], i, h => by cases h
  | x :: r, i, h => by
    simp only [place]
    cases hx : Nat.beq x b with
    | true =>
      rw [cond_true]
      exact ⟨0, by simp, by rw [Nat.eq_of_beq_eq_true hx]; simp, rfl⟩
    | false =>
      rw [cond_false]
      have hne : b ≠ x := by rintro rfl; rw [Nat.beq_refl] at hx; cases hx
      obtain ⟨j, h1, h2, h3⟩ := place_spec r (i + 1) ((List.mem_cons.1 h).resolve_left hne)
      exact ⟨j + 1, by simpa using h1, by simpa using h2, by omega⟩
theorem idsH_spec : ∀ {l : List (Option Blk)} {ids : List Nat}, idsH l = some ids → ∀ B, some B ∈ l → ∃ m, idsB B = some m ∧ ∀ i ∈ m, i ∈ ids
  | [], ids, h, B, hB => by cases hB
  | none :: r, ids, h, B, hB => by
    rcases List.mem_cons.1 hB with e | hB
    · cases e
    · exact idsH_spec (l := r) h B hB
  | some A :: r, ids, h, B, hB => by
    simp only [idsH] at h
    split at h
    · rename_i a b ha hb
      cases h
      rcases List.mem_cons.1 hB with e | hB
      · cases e; exact ⟨a, ha, fun i hi => List.mem_append_left _ hi⟩
      · obtain ⟨m, h1, h2⟩ := idsH_spec hb B hB
        exact ⟨m, h1, fun i hi => List.mem_append_right _ (h2 i hi)⟩
    · cases h
/-- What the head's reading keeps. -/
structure Norm (n0 : Nat) (ids : List Nat) (T : List V) (H : Heap) (T' : List V) (H' : Heap) : Prop where
  nodup : ids.Nodup
  ge : ∀ i ∈ ids, n0 ≤ i
  len : T'.length = T.length
  tmp : ∀ (t : Nat) (v : V), T'[t]? = some v → v = .any ∨ ∃ u, T[t]? = some u ∧ v = renV (ren n0 ids) u ∧ ∀ i ∈ idsV u, i < n0 ∨ i ∈ ids
  heap : H' = (H.take n0).map (fun x => x.map (renB (ren n0 ids))) ++ ids.map fun b => (blk H b).map (renB (ren n0 ids))
  old : ∀ b B, b < n0 → blk H b = some B → ∃ m, idsB B = some m ∧ ∀ i ∈ m, i < n0 ∨ i ∈ ids
  new : ∀ b B, b ∈ ids → blk H b = some B → ∃ m, idsB B = some m ∧ ∀ i ∈ m, i < n0 ∨ i ∈ ids
theorem keepL_get (lv : List Nat) : ∀ (T : List V) (b t : Nat), (keepL lv b T)[t]? = (T[t]?).map fun v => cond (lv.any (Nat.beq (b + t))) v .any
  | [], b, t => by simp [keepL]
  | v :: r, b, 0 => by simp [keepL]
  | v :: r, b, t + 1 => by
    simp only [keepL, List.getElem?_cons_succ]
    rw [keepL_get lv r (b + 1) t, show b + 1 + t = b + (t + 1) by omega]
theorem keepL_len (lv : List Nat) : ∀ (T : List V) (b : Nat), (keepL lv b T).length = T.length
  | [], b => rfl
  | v :: r, b => by simp [keepL, keepL_len lv r]
theorem blk_take {H : Heap} {n b : Nat} (h : b < n) : blk (H.take n) b = blk H b := blk_ext (List.getElem?_take_of_lt h)
theorem blk_mem {H : Heap} {b : Nat} {B : Blk} (h : blk H b = some B) : some B ∈ H := List.mem_of_getElem? (blk_eq.1 h)
theorem normA_spec {α : Type} {n0 : Nat} {lv : List Nat} {T : List V} {H : Heap} {k : List V → Heap → Option α} {r : α} (h : normA n0 lv T H k = some r) : ∃ ids T' H', k T' H' = some r ∧ Norm n0 ids T H T' H' := by
  unfold normA at h
  split at h
  · cases h
  rename_i h0 hh0
  simp only at h
  split at h
  · cases h
  rename_i more hmore
  split at h
  · cases h
  rename_i last hlast
  obtain ⟨T1, hT1⟩ : ∃ T1, T1 = keepL lv 0 T := ⟨_, rfl⟩
  rw [← hT1] at h hmore hlast
  obtain ⟨ids1, hids1⟩ : ∃ ids1, ids1 = addIds n0 [] (T1.flatMap idsV ++ h0) := ⟨_, rfl⟩
  rw [← hids1] at h hmore hlast
  obtain ⟨ids, hids⟩ : ∃ ids, ids = addIds n0 ids1 more := ⟨_, rfl⟩
  rw [← hids] at h hlast
  obtain ⟨a1, a2, a3, a4⟩ := addIds_spec (n0 := n0) (T1.flatMap idsV ++ h0) [] (by simp) (fun i hi => by cases hi)
  rw [← hids1] at a1 a2 a3 a4
  obtain ⟨b1, b2, b3, b4⟩ := addIds_spec more ids1 a1 a2
  rw [← hids] at b1 b2 b3 b4
  cases hall : last.all fun b => Nat.blt b n0 || ids.any (Nat.beq b)
  · rw [hall] at h; cases h
  rw [hall, cond_true] at h
  have hold : ∀ i, i ∈ T1.flatMap idsV ++ h0 → i < n0 ∨ i ∈ ids := fun i hi => (a4 i hi).imp id (b3 i)
  refine ⟨ids, _, _, h, ⟨b1, b2, by rw [List.length_map, hT1, keepL_len], fun t v hv => ?_, rfl, fun b B hb hB => ?_, fun b B hb hB => ?_⟩⟩
  · rw [List.getElem?_map, Option.map_eq_some_iff] at hv
    obtain ⟨u, hu, rfl⟩ := hv
    have hu' := hu
    rw [hT1, keepL_get, Option.map_eq_some_iff] at hu
    obtain ⟨x, hx, e⟩ := hu
    cases hc : lv.any (Nat.beq (0 + t)) with
    | false => rw [hc, cond_false] at e; subst e; exact .inl rfl
    | true =>
      rw [hc, cond_true] at e
      subst e
      exact .inr ⟨x, hx, rfl, fun i hi => hold i (List.mem_append_left _ (List.mem_flatMap.2 ⟨x, List.mem_of_getElem? hu', hi⟩))⟩
  · obtain ⟨m, h1, h2⟩ := idsH_spec hh0 B (blk_mem (by rw [blk_take hb]; exact hB))
    exact ⟨m, h1, fun i hi => hold i (List.mem_append_right _ (h2 i hi))⟩
  · obtain ⟨m, h1, h2⟩ := idsH_spec hlast B (List.mem_map.2 ⟨b, hb, hB⟩)
    refine ⟨m, h1, fun i hi => ?_⟩
    have := List.all_eq_true.1 hall i (h2 i hi)
    rw [Bool.or_eq_true] at this
    exact this.imp (fun h => by simpa [Nat.blt_eq] using h) any_beq.1
section
variable {n0 : Nat} {ids : List Nat} {T : List V} {H : Heap} {T' : List V} {H' : Heap}
theorem ren_old {b : Nat} (h : b < n0) : ren n0 ids b = b := by unfold ren; rw [show Nat.blt b n0 = true by rw [Nat.blt_eq]; exact h]; rfl
theorem ren_new (hge : ∀ i ∈ ids, n0 ≤ i) {b : Nat} (h : b ∈ ids) : ∃ j, j < ids.length ∧ ids[j]? = some b ∧ ren n0 ids b = n0 + j := by
  have hb : Nat.blt b n0 = false := by
    cases hc : Nat.blt b n0 with
    | false => rfl
    | true => have := hge b h; rw [Nat.blt_eq] at hc; omega
  unfold ren
  rw [hb, cond_false]
  exact place_spec ids n0 h
/-- Where a block lies after it. -/
theorem Norm.low (h : Norm n0 ids T H T' H') (hl : n0 ≤ H.length) {b : Nat} (hb : b < n0) : blk H' b = (blk H b).map (renB (ren n0 ids)) := by
  rw [h.heap]
  unfold blk
  rw [nth_eq, nth_eq, List.getElem?_append_left (by simp; omega), List.getElem?_map, List.getElem?_take_of_lt hb]
  cases H[b]? <;> simp
theorem Norm.high (h : Norm n0 ids T H T' H') (hl : n0 ≤ H.length) {b : Nat} (hb : n0 ≤ b) : blk H' b = ((ids[b - n0]?).bind (blk H)).map (renB (ren n0 ids)) := by
  rw [h.heap]
  have e : ((H.take n0).map (fun x => x.map (renB (ren n0 ids)))).length = n0 := by simp; omega
  unfold blk
  rw [nth_eq, List.getElem?_append_right (by omega), e, List.getElem?_map]
  cases ids[b - n0]? <;> simp
theorem Norm.length (h : Norm n0 ids T H T' H') (hl : n0 ≤ H.length) : H'.length = n0 + ids.length := by
  rw [h.heap]; simp; omega
theorem renB_used {f : Nat → Nat} {B : Blk} : (renB f B).used ↔ B.used := by cases B <;> exact Iff.rfl
theorem renB_isC {f : Nat → Nat} {B : Blk} : (renB f B).isC = B.isC := by cases B <;> rfl
/-- The block ahead of the new numbers. -/
def back (n0 : Nat) (ids : List Nat) (b : Nat) : Nat := if b < n0 then b else (ids[b - n0]?).getD 0
theorem Norm.src (h : Norm n0 ids T H T' H') (hl : n0 ≤ H.length) {b : Nat} {B : Blk} (hB : blk H' b = some B) : ∃ A, blk H (back n0 ids b) = some A ∧ B = renB (ren n0 ids) A ∧ (∃ m, idsB A = some m ∧ ∀ i ∈ m, i < n0 ∨ i ∈ ids) ∧ (b < n0 ∨ n0 ≤ b ∧ b - n0 < ids.length ∧ back n0 ids b ∈ ids ∧ ids[b - n0]? = some (back n0 ids b)) := by
  unfold back
  by_cases hb : b < n0
  · rw [if_pos hb]
    rw [h.low hl hb, Option.map_eq_some_iff] at hB
    obtain ⟨A, hA, rfl⟩ := hB
    exact ⟨A, hA, rfl, h.old b A hb hA, .inl hb⟩
  · rw [if_neg hb]
    rw [h.high hl (by omega), Option.map_eq_some_iff] at hB
    obtain ⟨A, hA, rfl⟩ := hB
    rw [Option.bind_eq_some_iff] at hA
    obtain ⟨c, hc, hA⟩ := hA
    rw [hc]
    have hm := List.mem_of_getElem? hc
    exact ⟨A, hA, rfl, h.new c A hm hA, .inr ⟨by omega, (List.getElem?_eq_some_iff.1 hc).1, hm, rfl⟩⟩
def ren2 (n0 : Nat) (ids : List Nat) (ρ : Ren) : Ren := fun b => ρ (back n0 ids b)
theorem ren2_ren (hge : ∀ i ∈ ids, n0 ≤ i) (ρ : Ren) {i : Nat} (h : i < n0 ∨ i ∈ ids) : ren2 n0 ids ρ (ren n0 ids i) = ρ i := by
  unfold ren2 back
  by_cases hi : i < n0
  · rw [ren_old hi, if_pos hi]
  · obtain ⟨j, h1, h2, h3⟩ := ren_new hge (h.resolve_left hi)
    rw [h3, if_neg (by omega), show n0 + j - n0 = j by omega, h2]
    rfl
theorem back_inj (hn : ids.Nodup) (hge : ∀ i ∈ ids, n0 ≤ i) {b b' : Nat} (h : b < n0 ∨ n0 ≤ b ∧ b - n0 < ids.length ∧ back n0 ids b ∈ ids ∧ ids[b - n0]? = some (back n0 ids b)) (h' : b' < n0 ∨ n0 ≤ b' ∧ b' - n0 < ids.length ∧ back n0 ids b' ∈ ids ∧ ids[b' - n0]? = some (back n0 ids b')) (e : back n0 ids b = back n0 ids b') : b = b' := by
  have lo : ∀ b, b < n0 → back n0 ids b = b := fun b hb => by unfold back; rw [if_pos hb]
  rcases h with h | ⟨h1, h2, h3, h4⟩ <;> rcases h' with h' | ⟨h1', h2', h3', h4'⟩
  · rw [lo b h, lo b' h'] at e; exact e
  · have := hge _ h3'; rw [← e, lo b h] at this; omega
  · have := hge _ h3; rw [e, lo b' h'] at this; omega
  · rw [e, ← h4'] at h4
    have := (List.getElem?_inj h2 hn).1 h4
    omega
/-- From the loop's entry to its head. -/
theorem Norm.shape (h : Norm n0 ids T H T' H') {T0 : List V} {H0 : Heap} {l : List Foot} (h0 : H0.length = n0) (hc : ∀ b cs, blk H0 b = some (.cells cs) → ∀ x ∈ cs, ∀ i ∈ idsC x, i < n0) (s : Shape T0 H0 T H l) : Shape T0 H0 T' H' l := by
  have hl : n0 ≤ H.length := by rw [← h0]; exact s.gr.len
  have hid : ∀ b B, blk H0 b = some B → renB (ren n0 ids) B = B := by
    intro b B hb
    cases B with
    | row e sz n get fl => rfl
    | cells cs =>
      simp only [renB]
      congr 1
      conv => rhs; rw [← List.map_id cs]
      exact List.map_congr_left fun x hx => renC_id fun i hi => ren_old (hc b cs hb x hx i hi)
  have hlt : ∀ {b B}, blk H0 b = some B → b < n0 := fun hb => by rw [← h0]; exact blk_lt hb
  refine ⟨⟨by rw [h.length hl]; omega, fun b hb hn => ?_, fun b B hb ht => ?_, fun b cs hb => ?_, fun b B B' hb hb' hu => ?_, fun b B B' hb hb' => ?_⟩, fun W S hT hH hlS => ?_⟩
  · rw [h.low hl (by omega), s.gr.dead b hb hn]; rfl
  · rw [h.low hl (hlt hb), s.gr.keep b B hb ht, Option.map_some, hid b B hb]
  · obtain ⟨cs', h1, h2, h3⟩ := s.gr.cells b cs hb
    refine ⟨cs'.map (renC (ren n0 ids)), by rw [h.low hl (hlt hb), h1]; rfl, by rw [List.length_map]; exact h2, fun j hj => ?_⟩
    rw [List.getElem?_map, h3 j hj]
    cases hx : cs[j]? with
    | none => rfl
    | some x => rw [Option.map_some, renC_id fun i hi => ren_old (hc b cs hb x (List.mem_of_getElem? hx) i hi)]
  · rw [h.low hl (hlt hb), Option.map_eq_some_iff] at hb'
    obtain ⟨A, hA, rfl⟩ := hb'
    exact s.gr.used b B A hb hA (renB_used.1 hu)
  · rw [h.low hl (hlt hb), Option.map_eq_some_iff] at hb'
    obtain ⟨A, hA, rfl⟩ := hb'
    rw [renB_isC]
    exact s.gr.kind b B A hb hA
  · obtain ⟨g1, g2⟩ := s.sc W S hT hH hlS
    have hext : ∀ i, ext S H0 H i → (i < n0 ∨ i ∈ ids) → ext S H0 H' (ren n0 ids i) := by
      intro i hi hor
      by_cases hin : i < n0
      · rw [ren_old hin]
        rcases hi with hi | ⟨hi, _⟩
        · exact .inl hi
        · omega
      · obtain ⟨j, h1, h2, h3⟩ := ren_new h.ge (hor.resolve_left hin)
        exact .inr ⟨by omega, by rw [h.length hl, h3]; omega⟩
    refine ⟨fun v hv => ?_, fun b B hB => ?_⟩
    · obtain ⟨t, ht⟩ := List.getElem?_of_mem hv
      rcases h.tmp t v ht with rfl | ⟨u, hu, rfl, hi⟩
      · exact trivial
      · have := g1 u (List.mem_of_getElem? hu)
        exact renV_sc (fun i hi' => hext i (idsV_sc this i hi') (hi i hi')) this
    · obtain ⟨A, hA, rfl, ⟨m, hm, hi⟩, _⟩ := h.src hl hB
      have := g2 _ A hA
      cases A with
      | cells cs =>
        intro y hy
        obtain ⟨x, hx, rfl⟩ := List.mem_map.1 hy
        refine renC_sc (fun i hi' => hext i (idsC_sc (this x hx) i hi') (hi i ?_)) (this x hx)
        simp only [idsB, Option.some.injEq] at hm
        subst hm
        exact List.mem_flatMap.2 ⟨x, hx, hi'⟩
      | row e sz n get fl =>
        cases fl with
        | false => simp [idsB] at hm
        | true => exact ⟨fun i hi' => ⟨(this.1 i hi').1, fun x hx => C.sc_mono (fun b hb => hb.elim) (this.2 rfl i hi' x hx)⟩, this.2⟩
theorem Norm.en (h : Norm n0 ids T H T' H') {T0 : List V} {H0 : Heap} {l : List Foot} (h0 : H0.length = n0) (s : Shape T0 H0 T H l) {W : World} {S : Nat → Prop} {ρ0 ρ : Ren} {a0 a : Act} {w0 w : World} (st : St W S ρ0 T0 H0 a0 w0) (e : En W ρ0 ρ T H0 H a0 a w0 w) : En W ρ0 (ren2 n0 ids ρ) T' H0 H' a0 a w0 w := by
  have hl : n0 ≤ H.length := by rw [← h0]; exact s.gr.len
  have s1 := En.st st s e
  refine ⟨e.dl, ⟨by rw [h.len]; exact e.tr.len, fun t v hv hne => ?_⟩, ⟨e.hr.low, e.hr.big, fun b B hB => ?_, fun b b' B B' hB hB' hu hu' he => ?_⟩, ⟨e.fr.os, e.fr.tape, e.fr.output, e.fr.size, e.fr.keep, fun b B hb hB hu => ?_, fun b hb => ?_⟩⟩
  · rw [nth_eq] at hv
    rcases h.tmp t v hv with rfl | ⟨u, hu, rfl, hi⟩
    · exact absurd rfl hne
    · rw [renV_den (ρ1 := ρ) fun i hi' => ren2_ren h.ge ρ (hi i hi')]
      exact e.tr.val t u (by rw [nth_eq]; exact hu) (by rintro rfl; exact hne rfl)
  · obtain ⟨A, hA, rfl, ⟨m, hm, hi⟩, hw⟩ := h.src hl hB
    have hr := e.hr.real _ A hA
    cases A with
    | cells cs =>
      obtain ⟨h1, rest, ty, hx⟩ := hr
      refine ⟨h1, rest, ty, ?_⟩
      show w.heap[(ρ (back n0 ids b)).r]? = _
      rw [hx, List.map_map]
      have : cs.map (C.den (ren2 n0 ids ρ) ∘ renC (ren n0 ids)) = cs.map (C.den ρ) := List.map_congr_left fun x hx => renC_den fun i hi' => ren2_ren h.ge ρ (hi i (by
        simp only [idsB, Option.some.injEq] at hm
        subst hm
        exact List.mem_flatMap.2 ⟨x, hx, hi'⟩))
      rw [this]
    | row ty sz n get fl =>
      rcases hr with hr | ⟨h1, h2, h3, h4, cur, h5, h6, h7⟩
      · exact .inl hr
      · refine .inr ⟨h1, h2, h3, h4, cur, h5, h6, fun i j x hin hx => ?_⟩
        rw [h7 i j x hin hx]
        cases fl with
        | false => simp [idsB] at hm
        | true =>
          have := (s1.sh _ _ hA).2 rfl i hin x (List.mem_of_getElem? hx)
          rw [C.den_congr (ρ' := ren2 n0 ids ρ) (ρ := ρ) (fun b hb => hb.elim) this]
  · obtain ⟨A, hA, rfl, _, hw⟩ := h.src hl hB
    obtain ⟨A', hA', rfl, _, hw'⟩ := h.src hl hB'
    exact back_inj h.nodup h.ge hw hw' (e.hr.inj _ _ A A' hA hA' (renB_used.1 hu) (renB_used.1 hu') he)
  · obtain ⟨A, hA, rfl, _, hw⟩ := h.src hl hB
    rcases hw with hw | ⟨_, _, hw, _⟩
    · omega
    · rcases e.fr.fresh _ A (by rw [h0]; exact h.ge _ hw) hA (renB_used.1 hu) with g | ⟨c, D, g1, g2, g3, g4⟩
      · exact .inl g
      · refine .inr ⟨c, D, g1, g2, ?_, g4⟩
        rw [h.low hl (by rw [← h0]; exact blk_lt g1), g3]; rfl
  · show ρ (back n0 ids b) = _
    unfold back
    rw [if_pos (by omega)]
    exact e.fr.ren b hb
end
/-! Rows that begin without elements. -/
theorem rowsA_spec : ∀ (rs : List (Nat × TypeId × Nat × List C)) (T : List V) (H : Heap), Shape T H (rowsA rs T H).1 (rowsA rs T H).2 [] ∧ ∀ (W : World) (S : Nat → Prop) (ρ : Ren) (a : Act) (w : World), St W S ρ T H a w → En W ρ ρ (rowsA rs T H).1 H (rowsA rs T H).2 a a w w
  | [], T, H => ⟨Shape.refl T H, fun W S ρ a w s => ⟨.same rfl, s.tr, s.hr, Fr.refl H ρ w⟩⟩
  | (t, e, sz, z) :: r, T, H => by
    unfold rowsA
    split
    · rename_i ht
      have g : Gr H (H ++ [some (.row e sz 0 (fun _ => z) true)]) [] := gr_push H _
      have s1 : Shape T H (upd T t (.u (.c (.row H.length sz 0 0 true)))) (H ++ [some (.row e sz 0 (fun _ => z) true)]) [] := by
        refine ⟨g, fun W S hT hH hlt => ⟨fun v hv => ?_, fun b B hB => ?_⟩⟩
        · rw [upd_eq] at hv
          rcases List.mem_or_eq_of_mem_set hv with hv | rfl
          · exact V.sc_mono (fun b => .inl) (hT v hv)
          · exact .inr ⟨Nat.le_refl _, by simp⟩
        · rcases blk_push hB with ⟨_, hB⟩ | ⟨_, rfl⟩
          · exact Blk.sc_mono (fun b => .inl) (hH b B hB)
          · exact ⟨fun i hi => absurd hi (Nat.not_lt_zero i), fun _ i hi => absurd hi (Nat.not_lt_zero i)⟩
      have e1 : ∀ (W : World) (S : Nat → Prop) (ρ : Ren) (a : Act) (w : World), St W S ρ T H a w → En W ρ ρ (upd T t (.u (.c (.row H.length sz 0 0 true)))) H (H ++ [some (.row e sz 0 (fun _ => z) true)]) a a w w := by
        intro W S ρ a w s
        refine ⟨.same rfl, ⟨by rw [upd_eq, List.length_set]; exact s.tr.len, fun q v hv hne => ?_⟩, ⟨s.hr.low, s.hr.big, fun b B hB => ?_, fun b b' B B' hB hB' hu hu' he => ?_⟩, ⟨rfl, rfl, rfl, Nat.le_refl _, fun _ _ _ => rfl, fun b B hb hB hu => ?_, fun _ _ => rfl⟩⟩
        · rw [upd_eq, nth_eq, List.getElem?_set] at hv
          split at hv
          · rename_i hq
            subst hq
            split at hv
            · injection hv with hv
              subst hv
              exact s.tr.val t (.u (.c .nils)) ht (fun e => by cases e)
            · cases hv
          · exact s.tr.val q v (by rw [nth_eq]; exact hv) hne
        · rcases blk_push hB with ⟨_, hB⟩ | ⟨_, rfl⟩
          · exact s.hr.real b B hB
          · exact .inl rfl
        · rcases blk_push hB with ⟨_, hB⟩ | ⟨_, rfl⟩
          · rcases blk_push hB' with ⟨_, hB'⟩ | ⟨_, rfl⟩
            · exact s.hr.inj b b' B B' hB hB' hu hu' he
            · exact absurd rfl hu'
          · exact absurd rfl hu
        · rcases blk_push hB with ⟨hlt, _⟩ | ⟨_, rfl⟩
          · omega
          · exact absurd rfl hu
      obtain ⟨s2, e2⟩ := rowsA_spec r (upd T t (.u (.c (.row H.length sz 0 0 true)))) (H ++ [some (.row e sz 0 (fun _ => z) true)])
      refine ⟨by have := s1.trans s2; simpa using this, fun W S ρ a w s => ?_⟩
      exact En.trans g s2.gr (e1 W S ρ a w s) (e2 W _ ρ a w (En.st s s1 (e1 W S ρ a w s)))
    · exact rowsA_spec r T H
end Go.Proofs.Ytbgdfikfldkjbaa.AI
