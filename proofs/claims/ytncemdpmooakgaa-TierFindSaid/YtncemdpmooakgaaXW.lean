import Derived.Test.YtncemdpmooakgaaWAll
import Derived.Lib.SmallJoins
import Derived.ChangeKeysEq
import Derived.OpenShut
import Derived.DataElems
import Derived.Laws.Rows
/-! Words of this session: a reading of an argument as data tells its kind; '==' of arrays. -/
namespace Go.Proofs.Ytncemdpmooakgaa.XW
open Go.RowKit Go.Proofs.YtncemdpmooakgaaW.PrintWords
set_option linter.unusedVariables false
set_option linter.unusedSimpArgs false

/-- Whatever reads as data of type t has cells that tell a value of the kind; V: what is known of the value. -/
def Opens {α : Type} (P : Program) (d : Kd α) (t : TypeId) (V : α → Prop) : Prop :=
  ∀ {H : Type} (enc : TypeId × Value → H) (w : World) (spare : Nat → Bool) (held : Bool) (fuel : Nat) (cs : List Value) (x : DataW H × List MemPlace),
    DataW.trod enc P w 0 spare held fuel t cs = some x → ∃ a, d.K w a cs ∧ V a
section
variable {P : Program} {t : TypeId} {α β : Type} {d : Kd α} {d' : Kd β} {V : α → Prop} {V' : β → Prop}
theorem opens_int {k : IntKind} (ht : P.underlying t = some (.int k)) : Opens P (Kd.int k) t (fun n => (Lit.int k n).wf = true) := by
  intro H enc w spare held fuel cs x h
  obtain ⟨n, rfl, _, hw⟩ := DataW.trod_int ht h
  exact ⟨n, rfl, hw⟩
theorem opens_bool (ht : P.underlying t = some .bool) : Opens P Kd.bool t (fun _ => True) := by
  intro H enc w spare held fuel cs x h
  obtain ⟨n, rfl, _⟩ := DataW.trod_bool ht h
  exact ⟨n, rfl, trivial⟩
theorem opens_string (ht : P.underlying t = some .string) : Opens P Kd.string t (fun s => s.size ≤ 9223372036854775807) := by
  intro H enc w spare held fuel cs x h
  obtain ⟨n, rfl, _, hs⟩ := DataW.trod_string ht h
  exact ⟨n, rfl, hs⟩
theorem cells_get : ∀ {w : World} {a : Addr} {n : Nat} {cs : List Value}, w.cells? 0 a n = some cs → cs.length = n ∧ ∀ (i : Nat) (u : Value), cs[i]? = some u → w.cell? (a.add i) = some u := by
  intro w a n cs h
  unfold World.cells? at h
  rw [if_pos (Nat.zero_le _)] at h
  have key : ∀ (l : List Nat) (cs : List Value), l.mapM (fun i => w.cell? (a.add i)) = some cs → cs.length = l.length ∧ ∀ (i j : Nat) (u : Value), l[i]? = some j → cs[i]? = some u → w.cell? (a.add j) = some u := by
    intro l
    induction l with
    | nil => intro cs h; simp at h; subst h; simp
    | cons j l ih =>
      intro cs h
      rw [List.mapM_cons] at h
      simp only [bind, Option.bind_eq_some_iff, pure, Option.some.injEq] at h
      obtain ⟨v, hv, vs, hvs, rfl⟩ := h
      obtain ⟨h1, h2⟩ := ih vs hvs
      refine ⟨by simp [h1], fun i j' u hi hu => ?_⟩
      cases i with
      | zero => simp at hi hu; subst hi; subst hu; exact hv
      | succ i => simp at hi hu; exact h2 i j' u hi hu
  obtain ⟨h1, h2⟩ := key _ _ h
  rw [List.length_range] at h1
  refine ⟨h1, fun i u hu => h2 i i u ?_ hu⟩
  have hi : i < cs.length := (List.getElem?_eq_some_iff.1 hu).1
  exact List.getElem?_range (by omega)
theorem choose_list {A : Type} {p : Nat → A → Prop} : ∀ (n : Nat), (∀ i, i < n → ∃ a, p i a) → ∃ l : List A, l.length = n ∧ ∀ (i : Nat) (a : A), l[i]? = some a → p i a
  | 0, _ => ⟨[], rfl, fun i a h => by simp at h⟩
  | n + 1, h => by
    obtain ⟨l, hl, hp⟩ := choose_list n (fun i hi => h i (by omega))
    obtain ⟨a, ha⟩ := h n (by omega)
    refine ⟨l ++ [a], by simp [hl], fun i b hb => ?_⟩
    by_cases hi : i < n
    · rw [List.getElem?_append_left (by omega)] at hb; exact hp i b hb
    · have hi' : i = n := by have := (List.getElem?_eq_some_iff.1 hb).1; simp [hl] at this; omega
      subst hi'
      rw [List.getElem?_append_right (by omega), hl] at hb
      simp at hb; subst hb; exact ha
/-- What is known of a slice's elements. -/
def AllV (V : α → Prop) (l : List α) : Prop := l.length ≤ 9223372036854775807 ∧ ∀ x ∈ l, V x
theorem opens_slice {e : TypeId} (ht : P.underlying t = some (.slice e)) (hc : P.cellsOf e = d.sz) (he : Opens P d e V) : Opens P (Kd.slice e d) t (AllV V) := by
  intro H enc w spare held fuel cs x h
  rcases DataW.trod_slice ht h with ⟨rfl, _⟩ | ⟨a, len, cap, elems, rest, n, _, rfl, _, _, hl, hm, hlen, hel, _⟩
  · exact ⟨[], ⟨none, 0, rfl, Nat.le_refl _, rfl, by simp, fun h => by simp at h⟩, by simp, fun x hx => by simp at hx⟩
  · have hone : ∀ i, i < len → ∃ a' : α, (∃ c, c.length = d.sz ∧ d.K w a' c ∧ ∀ j u, c[j]? = some u → w.cell? (a.add (i * d.sz + j)) = some u) ∧ V a' := by
      intro i hi
      have h1 := hel i hi
      rw [List.getElem?_eq_getElem (show i < elems.length by omega), Option.bind_eq_some_iff] at h1
      obtain ⟨c, hc1, hc2⟩ := h1
      obtain ⟨a', hK, hV⟩ := he enc w spare held n c _ hc2
      obtain ⟨g1, g2⟩ := cells_get hc1
      refine ⟨a', ⟨c, by rw [g1, hc], hK, fun j u hu => ?_⟩, hV⟩
      have := g2 j u hu
      rwa [Addr.add_add, hc] at this
    obtain ⟨l, hl1, hl2⟩ := choose_list len hone
    unfold maxLen at hm
    refine ⟨l, ⟨some a, cap, by rw [hl1], by omega, rfl, by omega, fun _ => ⟨a, rfl, fun j p hp => ?_⟩⟩, by omega, fun x hx => ?_⟩
    · obtain ⟨⟨c, h1, h2, h3⟩, _⟩ := hl2 j p hp
      exact ⟨c, h1, h2, h3⟩
    · obtain ⟨i, hi⟩ := List.getElem?_of_mem hx
      exact (hl2 i x hi).2
/-- Both. -/
def BothV (V : α → Prop) (V' : β → Prop) (x : α × β) : Prop := V x.1 ∧ V' x.2
/-- Fields (types, offsets), one behind the other, the first at offset o. -/
def OpensL (P : Program) (d : Kd α) (o : Nat) (fs : List (TypeId × Nat)) (V : α → Prop) : Prop :=
  ∀ {H : Type} (enc : TypeId × Value → H) (w : World) (spare : Nat → Bool) (held : Bool) (fuel : Nat) (cs : List Value) (xs : List (DataW H × List MemPlace)),
    cs.length = o + d.sz → (∀ (i : Nat) (f : TypeId × Nat), fs[i]? = some f → ∃ x, DataW.trod enc P w 0 spare held fuel f.1 ((cs.drop f.2).take (P.cellsOf f.1)) = some x) → ∃ a, d.K w a (cs.drop o) ∧ V a
theorem opensL_one {o : Nat} {u : TypeId} (hc : P.cellsOf u = d.sz) (h : Opens P d u V) : OpensL P d o [(u, o)] V := by
  intro H enc w spare held fuel cs xs hl hf
  obtain ⟨x, hx⟩ := hf 0 _ rfl
  obtain ⟨a, hK, hV⟩ := h enc w spare held fuel _ x hx
  rw [hc, List.take_of_length_le (by rw [List.length_drop]; omega)] at hK
  exact ⟨a, hK, hV⟩
theorem opensL_cons {o : Nat} {u : TypeId} {fs : List (TypeId × Nat)} (hc : P.cellsOf u = d.sz) (h : Opens P d u V) (hr : OpensL P d' (o + d.sz) fs V') : OpensL P (Kd.pair d d') o ((u, o) :: fs) (BothV V V') := by
  intro H enc w spare held fuel cs xs hl hf
  have hl' : cs.length = o + (d.sz + d'.sz) := hl
  obtain ⟨x, hx⟩ := hf 0 _ rfl
  obtain ⟨a, hK, hV⟩ := h enc w spare held fuel _ x hx
  obtain ⟨b, hK', hV'⟩ := hr enc w spare held fuel cs xs (by omega) (fun i f hi => hf (i + 1) f hi)
  refine ⟨(a, b), ⟨_, _, ?_, hK, hK'⟩, hV, hV'⟩
  rw [hc, ← List.drop_drop, List.take_append_drop]
theorem opens_struct {γ : Type} {fs : Array Field} {D : Kd γ} {f : α → γ} {g : γ → α} {V : γ → Prop} (ht : P.underlying t = some (.struct fs)) (hc : P.cellsOf t = D.sz) (hg : ∀ x, f (g x) = x) (h : OpensL P D 0 (fs.toList.map fun z => (z.type, z.offset)) V) :
    Opens P (Kd.iso D f) t (fun x => V (f x)) := by
  intro H enc w spare held fuel cs x h0
  obtain ⟨xs, n, _, _, hl, hlen, hf⟩ := DataW.trod_struct ht h0
  obtain ⟨a, hK, hV⟩ := h enc w spare held n cs xs (by omega) (fun i z hi => by
    rw [List.getElem?_map, Option.map_eq_some_iff] at hi
    obtain ⟨q, hq, rfl⟩ := hi
    have hq' : fs[i]? = some q := by simpa using hq
    have := hf i q hq'
    rw [List.getElem?_eq_getElem (show i < xs.length by have := (Array.getElem?_eq_some_iff.1 hq').1; omega)] at this
    exact ⟨_, this⟩)
  refine ⟨g a, ?_, by show V (f (g a)); rw [hg]; exact hV⟩
  show D.K w (f (g a)) cs
  rw [hg]
  exact hK
theorem opens_array {γ : Type} {n c : Nat} {e : TypeId} {D : Kd γ} {f : α → γ} {g : γ → α} {V : γ → Prop} (ht : P.underlying t = some (.array n e)) (hc : P.cellsOf t = D.sz) (he : P.cellsOf e = c) (hg : ∀ x, f (g x) = x) (h : OpensL P D 0 ((List.range n).map fun i => (e, i * c)) V) :
    Opens P (Kd.iso D f) t (fun x => V (f x)) := by
  intro H enc w spare held fuel cs x h0
  obtain ⟨xs, m, _, _, hl, hlen, hf⟩ := DataW.trod_array ht h0
  obtain ⟨a, hK, hV⟩ := h enc w spare held m cs xs (by omega) (fun i z hi => by
    rw [List.getElem?_map, Option.map_eq_some_iff] at hi
    obtain ⟨q, hq, rfl⟩ := hi
    have hin : i < n := by have := (List.getElem?_eq_some_iff.1 hq).1; simpa using this
    rw [List.getElem?_range hin] at hq
    injection hq with hq; subst hq
    have := hf i hin
    rw [List.getElem?_eq_getElem (show i < xs.length by omega)] at this
    rw [he] at this ⊢
    exact ⟨_, this⟩)
  refine ⟨g a, ?_, by show V (f (g a)); rw [hg]; exact hV⟩
  show D.K w (f (g a)) cs
  rw [hg]
  exact hK
theorem opens_imp {V2 : α → Prop} (h : Opens P d t V) (hV : ∀ x, V x → V2 x) : Opens P d t V2 := by
  intro H enc w spare held fuel cs x h0
  obtain ⟨a, h1, h2⟩ := h enc w spare held fuel cs x h0
  exact ⟨a, h1, hV a h2⟩
end

section
variable {P : Program} {d : Nat} {e : TypeId} {c : Nat} {xs ys : Array Value} {is : List Nat} {i : Nat} {a b : Value} {r s : Bool} {w : World}
theorem eqi_last (ha : (part e xs (i * c)).run P w = .ok a w) (hb : (part e ys (i * c)).run P w = .ok b w) (he : (Op.equalIn d e a b).run P w = .ok r w) : (Op.eqItems d e c xs ys [i]).run P w = .ok r w := by
  simp only [Op.eqItems, Sem.run_bind, ha, hb, he, Result.andThen_ok]
  cases r <;> simp
theorem eqi_cons (ha : (part e xs (i * c)).run P w = .ok a w) (hb : (part e ys (i * c)).run P w = .ok b w) (he : (Op.equalIn d e a b).run P w = .ok r w) (hr : (Op.eqItems d e c xs ys is).run P w = .ok s w) : (Op.eqItems d e c xs ys (i :: is)).run P w = .ok (r && s) w := by
  rw [Op.eqItems]
  simp only [Sem.run_bind, ha, hb, he, Result.andThen_ok]
  cases r
  · simp
  · simpa using hr
theorem eqArr_of {t : TypeId} {n : Nat} (hu : P.underlying t = some (.array n e)) (hi : (P.info? e).isSome = true) (hc : P.cellsOf e = c) (h : (Op.eqItems d e c xs ys (List.range n)).run P w = .ok r w) : (Op.equalIn (d + 1) t (.agg xs) (.agg ys)).run P w = .ok r w := by
  obtain ⟨i, hi⟩ := Option.isSome_iff_exists.1 hi
  rw [run_equalIn_array (w := w) d xs ys hu hi, hc]
  exact h
end
/-! A value of many cells, loaded at once: from the facts of its cells, without laying the load open. -/
def CellsFrom (w : World) (a : Addr) : Nat → Nat → List Value → Prop
  | _, 0, cs => cs = []
  | j, n + 1, cs => ∃ c r, cs = c :: r ∧ w.cell? ⟨a.block, a.off + j, none⟩ = some c ∧ CellsFrom w a (j + 1) n r
theorem CellsFrom.nil {w : World} {a : Addr} {j : Nat} : CellsFrom w a j 0 [] := rfl
theorem CellsFrom.cons {w : World} {a : Addr} {j n : Nat} {c : Value} {r : List Value} (h : w.cell? ⟨a.block, a.off + j, none⟩ = some c) (hr : CellsFrom w a (j + 1) n r) : CellsFrom w a j (n + 1) (c :: r) := ⟨c, r, rfl, h, hr⟩
theorem cc {w : World} {a : Addr} {j n : Nat} {c : Value} {r : List Value} (h : w.cell? ⟨a.block, a.off + j, none⟩ = some c) (hr : CellsFrom w a (j + 1) n r) : CellsFrom w a j (n + 1) (c :: r) := .cons h hr
theorem cn {w : World} {a : Addr} {j : Nat} : CellsFrom w a j 0 [] := rfl
theorem CellsFrom.get {w : World} {a : Addr} : ∀ {n j : Nat} {cs : List Value}, CellsFrom w a j n cs → cs.length = n ∧ ∀ i u, cs[i]? = some u → w.cell? ⟨a.block, a.off + (j + i), none⟩ = some u
  | 0, j, cs, h => by
    have : cs = [] := h
    subst this
    exact ⟨rfl, fun i u hu => by simp at hu⟩
  | n + 1, j, cs, h => by
    obtain ⟨c, r, rfl, h1, h2⟩ := h
    obtain ⟨g1, g2⟩ := CellsFrom.get h2
    refine ⟨by simp [g1], fun i u hu => ?_⟩
    cases i with
    | zero => simp at hu; subst hu; exact h1
    | succ i =>
      have := g2 i u (by simpa using hu)
      rw [show j + (i + 1) = j + 1 + i by omega]
      exact this
section
variable {P : Program} {o : Oper} {w : World}
theorem run_load_cells {ev : Operand → Value} {ty : TypeId} {x : Operand} (n : Nat) (ho : o.op = .load ty x) {a : Addr} (hx : ev x = .pointer (some a)) {d : TypeDesc} (hu : P.underlying ty = some d)
    (hd : (match d with | .struct _ | .array _ _ => true | _ => false) = true) (hi : (P.info? ty).map (·.size) = some (n + 1)) {c : Value} {r : List Value} (h0 : w.cell? a = some c) (h : CellsFrom w a 1 n r) :
    (execOp ev o).run P w = .ok (.value (.agg (c :: r).toArray)) w := by
  obtain ⟨hl, hc⟩ := h.get
  have hload : (loadCells a (c :: r).length).run P w = .ok (c :: r).toArray w :=
    run_loadCells_list (P := P) w a (c :: r) (fun j v hv => by
      cases j with
      | zero => simp at hv; subst hv; rw [Addr.add_zero']; exact h0
      | succ j =>
        rw [Addr.add_succ']
        have := hc j v (by simpa using hv)
        rw [Nat.add_comm 1 j] at this
        exact this)
  have hlen : (c :: r).length = n + 1 := by simp [hl]
  rw [hlen] at hload
  unfold execOp
  cases hq : P.info? ty with
  | none => simp [hq] at hi
  | some i =>
    have hs : i.size = n + 1 := by simpa [hq] using hi
    have hagg : (isAgg ty).run P w = .ok true w := by
      unfold isAgg
      rw [Sem.run_bind, run_underlying hu w]
      cases d <;> simp_all
    have hlv : (loadVar ty a).run P w = .ok (.agg (c :: r).toArray) w := by
      simp only [loadVar, Sem.run_bind, hagg, sizeOf, typeInfo, hq, Result.andThen_ok, Sem.run_pure, hs, if_true]
      simp [hload, hs, hq]
    simp only [ho, hx, Instr.loadAt, Instr.sureAddr, Sem.run_bind, Sem.run_pure, Result.andThen_ok, hlv]
theorem ev_load {ops : Array Oper} {rest : List Oper} {a : Act} {Q : Exit → Act → World → Prop} {ty : TypeId} {x : Operand} (n : Nat) (ho : o.op = .load ty x) (hgd : o.guard = none) {d : TypeDesc} (hu : P.underlying ty = some d)
    (hd : (match d with | .struct _ | .array _ _ => true | _ => false) = true) (hi : (P.info? ty).map (·.size) = some (n + 1)) {b : Addr} (hx : a.eval x = .pointer (some b)) {c : Value} {r : List Value} (h0 : w.cell? b = some c) (h : CellsFrom w b 1 n r)
    (hK : wpList P ops Q rest (a.put o.dst (.agg (c :: r).toArray)) w) : wpList P ops Q (o :: rest) a w :=
  Kd.event_run hgd (run_load_cells n ho hx hu hd hi h0 h) hK
theorem gate_load {ops : Array Oper} {rest : List Oper} {a : Act} {Q : Exit → Act → World → Prop} {T : TypeId} {x : Operand} (_ho : o.op = .load T x) (h : wpList P ops Q (o :: rest) a w) : wpList P ops Q (o :: rest) a w := h
end
end Go.Proofs.Ytncemdpmooakgaa.XW
