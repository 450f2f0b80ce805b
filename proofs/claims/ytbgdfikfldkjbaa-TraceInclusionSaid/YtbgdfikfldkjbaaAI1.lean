/- Operations that only compute. -/
import Derived.Test.YtbgdfikfldkjbaaAI0
namespace Go.Proofs.Ytbgdfikfldkjbaa.AI
set_option linter.unnecessarySimpa false
open Go
set_option linter.unusedVariables false
set_option linter.unusedSimpArgs false
/-! Parts of aggregates. -/
def szOf (P : Program) (t : TypeId) : Option Nat := (P.info? t).map (·.size)
def aggT (P : Program) (t : TypeId) : Option Bool :=
  match P.underlying t with
  | some (.struct _) => some true
  | some (.array _ _) => some true
  | some _ => some false
  | none => none
def partU (P : Program) (t : TypeId) (cs : List C) (off : Nat) : Option U :=
  match aggT P t with
  | some true => (szOf P t).map fun n => .a ((cs.drop off).take n)
  | some false => (nth cs off).map .c
  | none => none
section
variable {P : Program} {w : World} {t : TypeId}
theorem sizeOf_run {n : Nat} (h : szOf P t = some n) (w : World) : (sizeOf t).run P w = .ok n w := by
  unfold szOf at h
  cases hq : P.info? t with
  | none => simp [hq] at h
  | some i => simp [hq] at h; simp [sizeOf, typeInfo, hq, h]
theorem isAgg_run {b : Bool} (h : aggT P t = some b) (w : World) : (isAgg t).run P w = .ok b w := by
  unfold aggT at h
  split at h
  all_goals first
    | (cases h; rename_i hu; simp [isAgg, run_underlying hu]; done)
    | (cases h; rename_i d h1 h2 hu; simp only [isAgg, Sem.run_bind, run_underlying hu, Result.andThen_ok]; split <;> simp_all; done)
    | cases h
theorem part_run {ρ : Ren} {cs : List C} {off : Nat} {u : U} (h : partU P t cs off = some u) (w : World) : (part t (cs.map (C.den ρ)).toArray off).run P w = .ok (u.den ρ) w := by
  unfold partU at h
  unfold part
  split at h
  · rename_i ha
    rw [Option.map_eq_some_iff] at h
    obtain ⟨n, hn, rfl⟩ := h
    simp only [Sem.run_bind, isAgg_run ha, Result.andThen_ok, if_true, sizeOf_run hn, Sem.run_pure, U.den]
    congr 2
    simp [List.map_take, List.map_drop]
  · rename_i ha
    rw [Option.map_eq_some_iff] at h
    obtain ⟨x, hx, rfl⟩ := h
    rw [nth_eq] at hx
    simp [Sem.run_bind, isAgg_run ha, hx, U.den]
  · cases h
theorem partU_sc {W : World} {S : Nat → Prop} {cs : List C} {off : Nat} {u : U} (h : partU P t cs off = some u) (hs : ∀ x ∈ cs, x.sc W S) : u.sc W S := by
  unfold partU at h
  split at h
  · rw [Option.map_eq_some_iff] at h
    obtain ⟨n, hn, rfl⟩ := h
    exact fun x hx => hs x (List.mem_of_mem_drop (List.mem_of_mem_take hx))
  · rw [Option.map_eq_some_iff] at h
    obtain ⟨x, hx, rfl⟩ := h
    rw [nth_eq] at hx
    exact hs x (List.mem_of_getElem? hx)
  · cases h
end
def fieldOf (P : Program) (s : TypeId) (f : Nat) : Option Field :=
  match P.underlying s with
  | some (.struct fs) => nth fs.toList f
  | _ => none
theorem fieldOf_spec {P : Program} {s : TypeId} {f : Nat} {fd : Field} (h : fieldOf P s f = some fd) : ∃ fs, P.underlying s = some (.struct fs) ∧ fs[f]? = some fd := by
  unfold fieldOf at h
  split at h
  · rename_i fs hu
    rw [nth_eq] at h
    exact ⟨fs, hu, by simpa using h⟩
  · cases h
/-! Aggregates built. -/
def setRange (cs : List C) (off : Nat) (xs : List C) : List C := cs.take off ++ xs ++ cs.drop (off + xs.length)
def fillL (place : Nat → Option (Nat × Nat)) : List C → List (Nat × U) → Option (List C)
  | cs, [] => some cs
  | cs, (i, u) :: r => match place i with
    | some (off, n) => if u.cells.length == n && decide (off + n ≤ cs.length) then fillL place (setRange cs off u.cells) r else none
    | none => none
theorem foldl_set (xs : List Value) : ∀ (off k : Nat) (cs : Array Value), off + k + xs.length ≤ cs.size →
    (xs.zipIdx k).foldl (fun cs (x : Value × Nat) => cs.setIfInBounds (off + x.2) x.1) cs = (cs.toList.take (off + k) ++ xs ++ cs.toList.drop (off + k + xs.length)).toArray := by
  induction xs with
  | nil => intro off k cs h; simp
  | cons x r ih =>
    intro off k cs h
    simp only [List.length_cons] at h
    simp only [List.zipIdx_cons, List.foldl_cons]
    rw [show off + k = off + k from rfl, ih off (k + 1) _ (by simp; omega)]
    apply Array.ext'
    simp only [Array.toList_setIfInBounds, List.length_cons]
    have e := list_seg_step cs.toList (off + k) x r (by simp; omega)
    simpa [Nat.add_assoc, Nat.add_comm 1] using e
theorem fill_den {ρ : Ren} {place : Nat → Option (Nat × Nat)} : ∀ (ps : List (Nat × U)) (cs out : List C), fillL place cs ps = some out →
    Instr.fill place (cs.map (C.den ρ)).toArray (ps.map fun p => (p.1, p.2.den ρ)) = some (out.map (C.den ρ)).toArray
  | [], cs, out, h => by injection h with h; subst h; rfl
  | (i, u) :: r, cs, out, h => by
    unfold fillL at h
    split at h
    · rename_i off n hp
      split at h
      · rename_i hc
        rw [Bool.and_eq_true, beq_iff_eq, decide_eq_true_eq] at hc
        have ih := fill_den (ρ := ρ) r _ _ h
        simp only [List.map_cons, Instr.fill, hp, U.den_cells, List.size_toArray, List.length_map]
        rw [if_neg (by simp; omega)]
        rw [← ih]
        congr 1
        rw [← Array.foldl_toList, Array.toList_zipIdx]
        have := foldl_set (u.cells.map (C.den ρ)) off 0 (cs.map (C.den ρ)).toArray (by simp; omega)
        simp only [Nat.add_zero] at this
        simp only
        rw [this]
        unfold setRange
        simp [List.map_take, List.map_drop]
      · cases h
    · cases h
theorem setRange_len {cs xs : List C} {off : Nat} (h : off + xs.length ≤ cs.length) : (setRange cs off xs).length = cs.length := by
  unfold setRange; simp; omega
theorem setRange_get {cs xs : List C} {off j : Nat} (h : off + xs.length ≤ cs.length) : (setRange cs off xs)[j]? = if off ≤ j ∧ j < off + xs.length then xs[j - off]? else cs[j]? := by
  unfold setRange
  simp only [List.append_assoc, List.getElem?_append, List.length_take, List.getElem?_take, List.getElem?_drop]
  have hm : min off cs.length = off := by omega
  rw [hm]
  by_cases h1 : j < off
  · rw [if_pos h1, if_pos h1, if_neg (by omega)]
  · rw [if_neg h1]
    by_cases h2 : j < off + xs.length
    · rw [if_pos (by omega), if_pos (by omega)]
    · rw [if_neg (by omega), if_neg (by omega)]
      congr 1
      omega
theorem mem_setRange {cs xs : List C} {off : Nat} {x : C} (h : x ∈ setRange cs off xs) : x ∈ cs ∨ x ∈ xs := by
  unfold setRange at h
  rw [List.mem_append, List.mem_append] at h
  rcases h with (h | h) | h
  · exact .inl (List.mem_of_mem_take h)
  · exact .inr h
  · exact .inl (List.mem_of_mem_drop h)
theorem fillL_sc {W : World} {S : Nat → Prop} {place : Nat → Option (Nat × Nat)} : ∀ (ps : List (Nat × U)) (cs out : List C), fillL place cs ps = some out → (∀ x ∈ cs, x.sc W S) → (∀ p ∈ ps, p.2.sc W S) → ∀ x ∈ out, x.sc W S
  | [], cs, out, h, hc, _ => by injection h with h; subst h; exact hc
  | (i, u) :: r, cs, out, h, hc, hp => by
    unfold fillL at h
    split at h
    · split at h
      · refine fillL_sc r _ _ h (fun x hx => ?_) (fun p hm => hp p (List.mem_cons_of_mem _ hm))
        rcases mem_setRange hx with hx | hx
        · exact hc x hx
        · have hu := hp (i, u) (List.mem_cons_self ..)
          cases u with
          | c y => simp only [U.cells, List.mem_singleton] at hx; subst hx; exact hu
          | a ys => exact hu x hx
      · cases h
    · cases h
def zeroC (P : Program) (t : TypeId) : Option (List C) := ((P.info? t).bind (·.zero)).bind fun z => ofVals z.cells.toList
theorem zeroC_run {P : Program} {t : TypeId} {zc : List C} (h : zeroC P t = some zc) (ρ : Ren) (w : World) : ∃ z : Value, (zeroValue t).run P w = .ok z w ∧ z.cells = (zc.map (C.den ρ)).toArray := by
  unfold zeroC at h
  rw [Option.bind_eq_some_iff] at h
  obtain ⟨z, hz, h⟩ := h
  rw [Option.bind_eq_some_iff] at hz
  obtain ⟨i, hi, hz⟩ := hz
  refine ⟨z, by simp [zeroValue, typeInfo, hi, hz], ?_⟩
  have := (ofVals_den h ρ default (fun _ => True)).1
  rw [this]
theorem zeroC_sc {P : Program} {t : TypeId} {zc : List C} (h : zeroC P t = some zc) (W : World) (S : Nat → Prop) : ∀ x ∈ zc, x.sc W S := by
  unfold zeroC at h
  rw [Option.bind_eq_some_iff] at h
  obtain ⟨z, hz, h⟩ := h
  exact (ofVals_den h (fun _ => ri0) W S).2
def evUs (T : List V) : List (Nat × Operand) → Option (List (Nat × U))
  | [] => some []
  | (i, x) :: r => match ev T x, evUs T r with
    | some (.u u), some us => some ((i, u) :: us)
    | _, _ => none
theorem evUs_den {T : List V} {l : List (Nat × Operand)} {us : List (Nat × U)} {ρ : Ren} {a : Act} (h : evUs T l = some us) (ht : TR ρ T a) : (l.map fun p => (p.1, a.eval p.2)) = us.map fun p => (p.1, p.2.den ρ) := by
  induction l generalizing us with
  | nil => injection h with h; subst h; rfl
  | cons p r ih =>
    obtain ⟨i, x⟩ := p
    unfold evUs at h
    split at h
    · rename_i v ws hv hw
      injection h with h; subst h
      simp only [List.map_cons, ev_den hv ht, ih hw]
      rfl
    · cases h
theorem evUs_sc {T : List V} {l : List (Nat × Operand)} {us : List (Nat × U)} {W : World} {S : Nat → Prop} (h : evUs T l = some us) (hT : ScT W S T) : ∀ p ∈ us, p.2.sc W S := by
  induction l generalizing us with
  | nil => injection h with h; subst h; intro v hv; cases hv
  | cons p r ih =>
    obtain ⟨i, x⟩ := p
    unfold evUs at h
    split at h
    · rename_i v ws hv hw
      injection h with h; subst h
      intro z hz
      rcases List.mem_cons.1 hz with rfl | hz
      · exact ev_sc hv hT
      · exact ih hw z hz
    · cases h
/-- The places of a struct's fields. -/
def placesL (P : Program) : List Field → Option (List (Nat × Nat))
  | [] => some []
  | f :: r => match szOf P f.type, placesL P r with
    | some n, some l => some ((f.offset, n) :: l)
    | _, _ => none
theorem placesL_run {P : Program} {fs : Array Field} {l : List (Nat × Nat)} (h : placesL P fs.toList = some l) (w : World) : (fs.mapM fun f => do pure (f.offset, ← sizeOf f.type) : Sem (Array (Nat × Nat))).run P w = .ok l.toArray w := by
  rw [Array.mapM_eq_mapM_toList]
  generalize fs.toList = fl at h
  have key : ∀ (fl : List Field) (l : List (Nat × Nat)), placesL P fl = some l → (fl.mapM fun f => do pure (f.offset, ← sizeOf f.type) : Sem (List (Nat × Nat))).run P w = .ok l w := by
    intro fl
    induction fl with
    | nil => intro l h; injection h with h; subst h; rfl
    | cons f r ih =>
      intro l h
      unfold placesL at h
      split at h
      · rename_i n l' hn hl
        injection h with h; subst h
        simp only [List.mapM_cons, Sem.run_bind, sizeOf_run hn, Result.andThen_ok, Sem.run_pure, ih _ hl]
      · cases h
  have := key fl l h
  show Sem.run P ((fl.mapM fun f => do pure (f.offset, ← sizeOf f.type)) >>= fun x => pure x.toArray) w = _
  rw [Sem.run_bind, this]
  rfl
def buildU (P : Program) (t : TypeId) (ps : List (Nat × U)) : Option U :=
  match zeroC P t, P.underlying t with
  | some zc, some (.struct fs) => match placesL P fs.toList with
    | some pl => (fillL (nth pl) zc ps).map .a
    | none => none
  | some zc, some (.array _ e) => match szOf P e with
    | some n => (fillL (fun i => some (i * n, n)) zc ps).map .a
    | none => none
  | _, _ => none
theorem build_run {P : Program} {t : TypeId} {ps : List (Nat × U)} {u : U} {ρ : Ren} (h : buildU P t ps = some u) (w : World) : (Instr.build t (ps.map fun p => (p.1, p.2.den ρ)).toArray).run P w = .ok (u.den ρ) w := by
  unfold buildU at h
  split at h
  · rename_i zc fs hz hu
    obtain ⟨z, hz1, hz2⟩ := zeroC_run hz ρ w
    split at h
    · rename_i pl hpl
      rw [Option.map_eq_some_iff] at h
      obtain ⟨out, ho, rfl⟩ := h
      have hp := placesL_run hpl w
      have hf := fill_den (ρ := ρ) ps zc out ho
      have e1 : (fun i => (pl.toArray)[i]?) = nth pl := by funext i; rw [nth_eq]; simp
      unfold Instr.build
      simp only [Sem.run_bind, hz1, Result.andThen_ok, run_underlying hu, hp, hz2]
      rw [e1, hf]
      rfl
    · cases h
  · rename_i zc n e hz hu
    obtain ⟨z, hz1, hz2⟩ := zeroC_run hz ρ w
    split at h
    · rename_i m hm
      rw [Option.map_eq_some_iff] at h
      obtain ⟨out, ho, rfl⟩ := h
      have hf := fill_den (ρ := ρ) ps zc out ho
      unfold Instr.build
      simp only [Sem.run_bind, hz1, Result.andThen_ok, run_underlying hu, sizeOf_run hm, hz2]
      rw [hf]
      rfl
    · cases h
  · cases h
theorem buildU_sc {P : Program} {t : TypeId} {ps : List (Nat × U)} {u : U} {W : World} {S : Nat → Prop} (h : buildU P t ps = some u) (hp : ∀ p ∈ ps, p.2.sc W S) : u.sc W S := by
  unfold buildU at h
  split at h
  · rename_i zc fs hz hu
    split at h
    · rw [Option.map_eq_some_iff] at h
      obtain ⟨out, ho, rfl⟩ := h
      exact fillL_sc ps zc out ho (zeroC_sc hz W S) hp
    · cases h
  · rename_i zc n e hz hu
    split at h
    · rw [Option.map_eq_some_iff] at h
      obtain ⟨out, ho, rfl⟩ := h
      exact fillL_sc ps zc out ho (zeroC_sc hz W S) hp
    · cases h
  · cases h
end Go.Proofs.Ytbgdfikfldkjbaa.AI
