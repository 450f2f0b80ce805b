/- Memory: blocks of the call's own; rows. -/
import Derived.Test.YtbgdfikfldkjbaaAI2
import Derived.Laws.AppendOwn
namespace Go.Proofs.Ytbgdfikfldkjbaa.AI
set_option linter.unnecessarySimpa false
open Go
set_option linter.unusedVariables false
set_option linter.unusedSimpArgs false
/-- A variable's cells; a slice's row: n elements of sz cells; flat: they name no block. -/
inductive Blk where
  | cells (cs : List C)
  | row (e : TypeId) (sz n : Nat) (get : Nat → List C) (flat : Bool)
abbrev Heap := List (Option Blk)
inductive Foot where
  | c (b o n : Nat)
  | r (b : Nat)
def Foot.b : Foot → Nat
  | .c b _ _ => b
  | .r b => b
def blk (H : Heap) (b : Nat) : Option Blk := (nth H b).join
theorem blk_eq {H : Heap} {b : Nat} {B : Blk} : blk H b = some B ↔ H[b]? = some (some B) := by
  unfold blk
  rw [nth_eq]
  cases h : H[b]? with
  | none => simp
  | some o => cases o <;> simp
theorem blk_lt {H : Heap} {b : Nat} {B : Blk} (h : blk H b = some B) : b < H.length := (List.getElem?_eq_some_iff.1 (blk_eq.1 h)).1
theorem blk_ext {H H' : Heap} {b : Nat} (h : H[b]? = H'[b]?) : blk H b = blk H' b := by unfold blk; rw [nth_eq, nth_eq, h]
/-- Does the block lie somewhere (a nil slice's does not). -/
def Blk.used : Blk → Prop
  | .cells _ => True
  | .row _ _ n _ _ => n ≠ 0
def Blk.isC : Blk → Bool
  | .cells _ => true
  | .row _ _ _ _ _ => false
def Blk.sc (W : World) (S : Nat → Prop) : Blk → Prop
  | .cells cs => ∀ x ∈ cs, x.sc W S
  | .row _ sz n get flat => (∀ i, i < n → (get i).length = sz ∧ ∀ x ∈ get i, x.sc W S) ∧ (flat = true → ∀ i, i < n → ∀ x ∈ get i, x.sc W fun _ => False)
theorem Blk.sc_mono {W : World} {S S' : Nat → Prop} (h : ∀ b, S b → S' b) {B : Blk} (hB : B.sc W S) : B.sc W S' := by
  cases B with
  | cells cs => exact fun x hx => C.sc_mono h (hB x hx)
  | row e sz n get flat => exact ⟨fun i hi => ⟨(hB.1 i hi).1, fun x hx => C.sc_mono h ((hB.1 i hi).2 x hx)⟩, hB.2⟩
/-- The block lies where the renaming says, and holds what is said. -/
def Real (W : World) (ρ : Ren) (w : World) (b : Nat) : Blk → Prop
  | .cells cs => W.heap.size ≤ (ρ b).r ∧ ∃ (rest : List Value) (e : TypeId), w.heap[(ρ b).r]? = some (.cells (cs.map (C.den ρ) ++ rest).toArray e (0, 0))
  | .row e sz n get _ => n = 0 ∨ (W.heap.size ≤ (ρ b).r ∧ n ≤ (ρ b).k ∧ (ρ b).k ≤ maxLen ∧ (∀ i, i < n → (get i).length = sz) ∧
      ∃ cur : Array Value, w.heap[(ρ b).r]? = some (.cells cur e (0, 0)) ∧ cur.size = (ρ b).k * sz ∧ ∀ (i j : Nat) (x : C), i < n → (get i)[j]? = some x → cur[i * sz + j]? = some (x.den ρ))
structure HR (ρ : Ren) (W : World) (H : Heap) (w : World) : Prop where
  low : ∀ r, r < W.heap.size → w.heap[r]? = W.heap[r]?
  big : W.heap.size ≤ w.heap.size
  real : ∀ b B, blk H b = some B → Real W ρ w b B
  inj : ∀ b b' B B', blk H b = some B → blk H b' = some B' → B.used → B'.used → (ρ b).r = (ρ b').r → b = b'
theorem Real.lt {W : World} {ρ : Ren} {w : World} {b : Nat} {B : Blk} (h : Real W ρ w b B) (hu : B.used) : W.heap.size ≤ (ρ b).r ∧ (ρ b).r < w.heap.size := by
  cases B with
  | cells cs =>
    obtain ⟨h1, rest, e, hw⟩ := h
    exact ⟨h1, (Array.getElem?_eq_some_iff.1 hw).1⟩
  | row e sz n get flat =>
    rcases h with h | ⟨h1, _, _, _, cur, hw, _⟩
    · exact absurd h hu
    · exact ⟨h1, (Array.getElem?_eq_some_iff.1 hw).1⟩
theorem Real.keep {W : World} {ρ ρ' : Ren} {S : Nat → Prop} {w w' : World} {b : Nat} {B : Blk} (h : Real W ρ w b B) (hs : B.sc W S) (hS : ∀ c, S c → ρ' c = ρ c) (hb : ρ' b = ρ b) (hw : B.used → w'.heap[(ρ b).r]? = w.heap[(ρ b).r]?) : Real W ρ' w' b B := by
  cases B with
  | cells cs =>
    obtain ⟨h1, rest, e, h2⟩ := h
    refine ⟨by rw [hb]; exact h1, rest, e, ?_⟩
    rw [hb, hw trivial, h2, List.map_congr_left (fun x hx => C.den_congr hS (hs x hx))]
  | row e sz n get flat =>
    by_cases hn : n = 0
    · exact .inl hn
    · rcases h with h | ⟨h1, h2, h3, h4, cur, h5, h6, h7⟩
      · exact absurd h hn
      · refine .inr ⟨by rw [hb]; exact h1, by rw [hb]; exact h2, by rw [hb]; exact h3, h4, cur, by rw [hb, hw hn]; exact h5, by rw [hb]; exact h6, fun i j x hi hx => ?_⟩
        rw [h7 i j x hi hx, C.den_congr hS ((hs.1 i hi).2 x (List.mem_of_getElem? hx))]
def ScH (W : World) (S : Nat → Prop) (H : Heap) : Prop := ∀ b B, blk H b = some B → B.sc W S
/-- What a run leaves of the machine's memory. -/
structure Fr (H : Heap) (ρ : Ren) (H' : Heap) (ρ' : Ren) (w w' : World) : Prop where
  os : w'.os = w.os
  tape : w'.tape = w.tape
  output : w'.output = w.output
  size : w.heap.size ≤ w'.heap.size
  keep : ∀ r, r < w.heap.size → (∀ b B, blk H b = some B → B.used → (ρ b).r ≠ r) → w'.heap[r]? = w.heap[r]?
  fresh : ∀ b B, H.length ≤ b → blk H' b = some B → B.used → w.heap.size ≤ (ρ' b).r ∨ ∃ c D, blk H c = some D ∧ D.used ∧ blk H' c = none ∧ (ρ' b).r = (ρ c).r
  ren : ∀ b, b < H.length → ρ' b = ρ b
def cov (l : List Foot) (b j : Nat) : Prop := ∃ f ∈ l, match f with
  | .c c o n => c = b ∧ o ≤ j ∧ j < o + n
  | .r c => c = b
def touch (l : List Foot) (b : Nat) : Prop := ∃ f ∈ l, f.b = b
/-- What a run leaves of the blocks; l: what it may have written. -/
structure Gr (H H' : Heap) (l : List Foot) : Prop where
  len : H.length ≤ H'.length
  dead : ∀ b, b < H.length → blk H b = none → blk H' b = none
  keep : ∀ b B, blk H b = some B → ¬ touch l b → blk H' b = some B
  cells : ∀ b cs, blk H b = some (.cells cs) → ∃ cs', blk H' b = some (.cells cs') ∧ cs'.length = cs.length ∧ ∀ j, ¬ cov l b j → cs'[j]? = cs[j]?
  used : ∀ b B B', blk H b = some B → blk H' b = some B' → B'.used → B.used
  kind : ∀ b B B', blk H b = some B → blk H' b = some B' → B'.isC = B.isC
theorem Gr.refl (H : Heap) : Gr H H [] := ⟨Nat.le_refl _, fun _ _ h => h, fun _ _ h _ => h, fun b cs h => ⟨cs, h, rfl, fun _ _ => rfl⟩, fun b B B' h h' hu => by rw [h] at h'; cases h'; exact hu, fun b B B' h h' => by rw [h] at h'; cases h'; rfl⟩
theorem cov_append {l m : List Foot} {b j : Nat} (h : ¬ cov (m ++ l) b j) : ¬ cov m b j ∧ ¬ cov l b j :=
  ⟨fun ⟨f, hf, hc⟩ => h ⟨f, List.mem_append_left _ hf, hc⟩, fun ⟨f, hf, hc⟩ => h ⟨f, List.mem_append_right _ hf, hc⟩⟩
theorem touch_append {l m : List Foot} {b : Nat} (h : ¬ touch (m ++ l) b) : ¬ touch m b ∧ ¬ touch l b :=
  ⟨fun ⟨f, hf, hc⟩ => h ⟨f, List.mem_append_left _ hf, hc⟩, fun ⟨f, hf, hc⟩ => h ⟨f, List.mem_append_right _ hf, hc⟩⟩
theorem Gr.trans {A B D : Heap} {l m : List Foot} (h : Gr A B l) (g : Gr B D m) : Gr A D (m ++ l) := by
  refine ⟨Nat.le_trans h.len g.len, fun b hb hn => g.dead b (Nat.lt_of_lt_of_le hb h.len) (h.dead b hb hn), fun b X hb ht => ?_, fun b cs hb => ?_, fun b X X' hb hb' hu => ?_, fun b X X' hb hb' => ?_⟩
  · obtain ⟨t1, t2⟩ := touch_append ht
    exact g.keep b X (h.keep b X hb t2) t1
  · obtain ⟨c1, h1, h2, h3⟩ := h.cells b cs hb
    obtain ⟨c2, g1, g2, g3⟩ := g.cells b c1 h1
    refine ⟨c2, g1, g2.trans h2, fun j hj => ?_⟩
    obtain ⟨t1, t2⟩ := cov_append hj
    rw [g3 j t1, h3 j t2]
  · cases hB : blk B b with
    | none => rw [g.dead b (Nat.lt_of_lt_of_le (blk_lt hb) h.len) hB] at hb'; cases hb'
    | some Y => exact h.used b X Y hb hB (g.used b Y X' hB hb' hu)
  · cases hB : blk B b with
    | none => rw [g.dead b (Nat.lt_of_lt_of_le (blk_lt hb) h.len) hB] at hb'; cases hb'
    | some Y => rw [g.kind b Y X' hB hb', h.kind b X Y hb hB]
theorem Fr.refl (H : Heap) (ρ : Ren) (w : World) : Fr H ρ H ρ w w :=
  ⟨rfl, rfl, rfl, Nat.le_refl _, fun _ _ _ => rfl, fun b B hb h => absurd (blk_lt h) (by omega), fun _ _ => rfl⟩
theorem Fr.trans {H1 H2 H3 : Heap} {ρ1 ρ2 ρ3 : Ren} {w1 w2 w3 : World} {l m : List Foot} (gr : Gr H1 H2 l) (gr2 : Gr H2 H3 m) (h : Fr H1 ρ1 H2 ρ2 w1 w2) (g : Fr H2 ρ2 H3 ρ3 w2 w3) : Fr H1 ρ1 H3 ρ3 w1 w3 := by
  have down : ∀ b B, b < H1.length → blk H2 b = some B → B.used → ∃ B1, blk H1 b = some B1 ∧ B1.used := by
    intro b B hl hb hu
    cases h0 : blk H1 b with
    | none => rw [gr.dead b hl h0] at hb; cases hb
    | some B1 => exact ⟨B1, rfl, gr.used b B1 B h0 hb hu⟩
  refine ⟨g.os.trans h.os, g.tape.trans h.tape, g.output.trans h.output, Nat.le_trans h.size g.size, fun r hr hn => ?_, fun b B hb hk hu => ?_, fun b hb => ?_⟩
  · have h1 := h.keep r hr hn
    rw [g.keep r (Nat.lt_of_lt_of_le hr h.size) (fun b B hb hu => ?_), h1]
    by_cases hl : b < H1.length
    · rw [h.ren b hl]
      obtain ⟨B1, e1, e2⟩ := down b B hl hb hu
      exact hn b B1 e1 e2
    · rcases h.fresh b B (by omega) hb hu with h2 | ⟨c, D, e1, e2, _, e4⟩
      · omega
      · rw [e4]; exact hn c D e1 e2
  · by_cases hl : b < H2.length
    · rw [g.ren b hl]
      cases h0 : blk H2 b with
      | none => rw [gr2.dead b hl h0] at hk; cases hk
      | some B2 =>
        rcases h.fresh b B2 hb h0 (gr2.used b B2 B h0 hk hu) with h2 | ⟨c, D, e1, e2, e3, e4⟩
        · exact .inl h2
        · exact .inr ⟨c, D, e1, e2, gr2.dead c (Nat.lt_of_lt_of_le (blk_lt e1) gr.len) e3, e4⟩
    · rcases g.fresh b B (by omega) hk hu with h2 | ⟨c, D, e1, e2, e3, e4⟩
      · exact .inl (Nat.le_trans h.size h2)
      · by_cases hc : c < H1.length
        · obtain ⟨D1, f1, f2⟩ := down c D hc e1 e2
          exact .inr ⟨c, D1, f1, f2, e3, by rw [e4, h.ren c hc]⟩
        · rcases h.fresh c D (by omega) e1 e2 with h2 | ⟨c', D', f1, f2, f3, f4⟩
          · exact .inl (by rw [e4]; exact h2)
          · exact .inr ⟨c', D', f1, f2, gr2.dead c' (Nat.lt_of_lt_of_le (blk_lt f1) gr.len) f3, by rw [e4, f4]⟩
  · rw [g.ren b (Nat.lt_of_lt_of_le hb gr.len), h.ren b hb]
def ext (S : Nat → Prop) (H H' : Heap) : Nat → Prop := fun b => S b ∨ (H.length ≤ b ∧ b < H'.length)
theorem ext_refl {S : Nat → Prop} {H : Heap} : ∀ b, ext S H H b → S b := fun b h => h.elim id (fun h => absurd h.2 (by omega))
theorem ext_trans {S : Nat → Prop} {H1 H2 H3 : Heap} (h12 : H1.length ≤ H2.length) (h23 : H2.length ≤ H3.length) : ∀ b, ext (ext S H1 H2) H2 H3 b → ext S H1 H3 b := by
  rintro b ((h | h) | h)
  · exact .inl h
  · exact .inr ⟨h.1, by omega⟩
  · exact .inr ⟨by omega, h.2⟩
/-! Loads. -/
/-- A value of type t out of cells. -/
def takeU (P : Program) (t : TypeId) (cs : List C) (o : Nat) : Option (U × Nat) :=
  match aggT P t with
  | some true => match szOf P t with
    | some n => if ((cs.drop o).take n).length == n then some (.a ((cs.drop o).take n), n) else none
    | none => none
  | some false => (nth cs o).map fun x => (.c x, 1)
  | none => none
theorem takeU_run {P : Program} {t : TypeId} {cs : List C} {o : Nat} {u : U} {n : Nat} (h : takeU P t cs o = some (u, n)) {ρ : Ren} {w : World} {ad : Addr} (hc : ∀ j x, cs[o + j]? = some x → w.cell? (ad.add j) = some (x.den ρ)) :
    (loadVar t ad).run P w = .ok (u.den ρ) w := by
  unfold takeU at h
  split at h
  · rename_i ha
    split at h
    · rename_i m hm
      split at h
      · rename_i hl
        cases h
        rw [beq_iff_eq] at hl
        have hc' : ∀ j v, (((cs.drop o).take n).map (C.den ρ))[j]? = some v → w.cell? (ad.add j) = some v := by
          intro j v hv
          rw [List.getElem?_map, Option.map_eq_some_iff] at hv
          obtain ⟨x, hx, rfl⟩ := hv
          have hj : j < n := by have := (List.getElem?_eq_some_iff.1 hx).1; omega
          rw [List.getElem?_take, if_pos hj, List.getElem?_drop] at hx
          exact hc j x hx
        have hload := run_loadCells_list (P := P) w ad (((cs.drop o).take n).map (C.den ρ)) hc'
        rw [List.length_map, hl] at hload
        simp only [Sem.run_bind, Sem.run_pure, Result.andThen_ok, loadVar, isAgg_run ha, if_true, sizeOf_run hm, hload, U.den]
      · cases h
    · cases h
  · rename_i ha
    rw [Option.map_eq_some_iff] at h
    obtain ⟨x, hx, he⟩ := h
    cases he
    rw [nth_eq] at hx
    have hc0 := hc 0 x (by simpa using hx)
    have e0 : ad.add 0 = ad := by unfold Addr.add; simp
    rw [e0] at hc0
    simp [loadVar, isAgg_run ha, hc0, U.den]
  · cases h
theorem takeU_sc {P : Program} {t : TypeId} {cs : List C} {o : Nat} {u : U} {n : Nat} (h : takeU P t cs o = some (u, n)) {W : World} {S : Nat → Prop} (hs : ∀ x ∈ cs, x.sc W S) : u.sc W S := by
  unfold takeU at h
  split at h
  · split at h
    · split at h
      · cases h; exact fun x hx => hs x (List.mem_of_mem_drop (List.mem_of_mem_take hx))
      · cases h
    · cases h
  · rw [Option.map_eq_some_iff] at h
    obtain ⟨x, hx, he⟩ := h
    cases he
    rw [nth_eq] at hx
    exact hs x (List.mem_of_getElem? hx)
  · cases h
theorem takeU_congr {P : Program} {t : TypeId} {cs cs' : List C} {o : Nat} {u : U} {n : Nat} (h : takeU P t cs o = some (u, n)) (hc : ∀ j, o ≤ j → j < o + n → cs'[j]? = cs[j]?) : takeU P t cs' o = some (u, n) := by
  unfold takeU at h ⊢
  split at h
  · rename_i ha
    split at h
    · rename_i m hm
      split at h
      · rename_i hl
        cases h
        have e : (cs'.drop o).take n = (cs.drop o).take n := by
          apply List.ext_getElem?
          intro j
          rw [List.getElem?_take, List.getElem?_take]
          split
          · rw [List.getElem?_drop, List.getElem?_drop]; exact hc _ (by omega) (by omega)
          · rfl
        rw [e, if_pos hl]
      · cases h
    · cases h
  · rename_i ha
    rw [Option.map_eq_some_iff] at h
    obtain ⟨x, hx, he⟩ := h
    cases he
    rw [nth_eq] at hx ⊢
    rw [hc o (Nat.le_refl _) (by omega), hx]
    rfl
  · cases h
/-- Through a pointer: what stands there, and the place. -/
def loadP (P : Program) (H : Heap) (t : TypeId) : C → Option (U × List Foot)
  | .ptr b o => match blk H b with
    | some (.cells cs) => (takeU P t cs o).map fun x => (x.1, [.c b o x.2])
    | _ => none
  | .rp b sz i o => match blk H b with
    | some (.row _ sz' n get _) => if sz' = sz ∧ i < n then (takeU P t (get i) o).map fun x => (x.1, [.r b]) else none
    | _ => none
  | .ap _ cs => (takeU P t cs 0).map fun x => (x.1, [])
  | _ => none
theorem cell_at {ρ : Ren} {W : World} {H : Heap} {w : World} (h : HR ρ W H w) {b : Nat} {cs : List C} (hb : blk H b = some (.cells cs)) {j : Nat} {x : C} (hx : cs[j]? = some x) : w.cell? ⟨(ρ b).r, j, none⟩ = some (x.den ρ) := by
  obtain ⟨_, rest, e, hw⟩ := h.real b _ hb
  have hj : j < cs.length := (List.getElem?_eq_some_iff.1 hx).1
  have hx2 := (List.getElem?_eq_some_iff.1 hx).2
  simp only [World.cell?, hw]
  simp [List.getElem?_append, hj, hx2]
theorem low_cell {ρ : Ren} {W : World} {H : Heap} {w : World} (h : HR ρ W H w) {a : Addr} (ha : a.block < W.heap.size) : w.cell? a = W.cell? a := by
  unfold World.cell?
  rw [h.low _ ha]
theorem loadP_run {P : Program} {H : Heap} {t : TypeId} {p : C} {u : U} {fs : List Foot} (h : loadP P H t p = some (u, fs)) {ρ : Ren} {W : World} {S : Nat → Prop} {w : World} (hr : HR ρ W H w) (hp : p.sc W S) :
    ∃ a, p.den ρ = .pointer (some a) ∧ (loadVar t a).run P w = .ok (u.den ρ) w := by
  unfold loadP at h
  split at h
  · rename_i b o
    split at h
    · rename_i cs hb
      rw [Option.map_eq_some_iff] at h
      obtain ⟨⟨u', n⟩, hx, he⟩ := h
      cases he
      exact ⟨_, rfl, takeU_run hx fun j x hj => by rw [addr_add]; exact cell_at hr hb hj⟩
    · cases h
  · rename_i b sz i o
    split at h
    · rename_i e sz' n get flat hb
      split at h
      · rename_i hc
        rw [Option.map_eq_some_iff] at h
        obtain ⟨⟨u', n'⟩, hx, he⟩ := h
        cases he
        refine ⟨_, rfl, takeU_run hx fun j x hj => ?_⟩
        rcases hr.real b _ hb with hn | ⟨_, _, _, _, cur, h5, _, h7⟩
        · omega
        · rw [addr_add]
          have := h7 i (o + j) x hc.2 hj
          rw [hc.1, ← Nat.add_assoc] at this
          simp only [World.cell?, h5, this]
          simp
      · cases h
    · cases h
  · rename_i ad cs
    rw [Option.map_eq_some_iff] at h
    obtain ⟨⟨u', n⟩, hx, he⟩ := h
    cases he
    refine ⟨_, rfl, takeU_run hx fun j x hj => ?_⟩
    have hok : AOk W (.ap ad cs) := hp
    cases hok with
    | ap _ _ hok hc =>
      rw [Nat.zero_add] at hj
      obtain ⟨g1, g2⟩ := hc j x hj
      rw [low_cell hr (by rw [add_block']; exact g1), g2, (hok j x hj).den]
  · cases h
theorem loadP_sc {P : Program} {H : Heap} {t : TypeId} {p : C} {u : U} {fs : List Foot} (h : loadP P H t p = some (u, fs)) {W : World} {S : Nat → Prop} (hs : ScH W S H) (hp : p.sc W S) : u.sc W S := by
  unfold loadP at h
  split at h
  · split at h
    · rename_i cs hb
      rw [Option.map_eq_some_iff] at h
      obtain ⟨⟨u', n⟩, hx, he⟩ := h
      cases he
      exact takeU_sc hx (hs _ _ hb)
    · cases h
  · split at h
    · rename_i e sz' n get flat hb
      split at h
      · rename_i hc
        rw [Option.map_eq_some_iff] at h
        obtain ⟨⟨u', n'⟩, hx, he⟩ := h
        cases he
        exact takeU_sc hx ((hs _ _ hb).1 _ hc.2).2
      · cases h
    · cases h
  · rename_i ad cs
    rw [Option.map_eq_some_iff] at h
    obtain ⟨⟨u', n⟩, hx, he⟩ := h
    cases he
    have hok : AOk W (.ap ad cs) := hp
    cases hok with
    | ap _ _ hok hc =>
      refine takeU_sc hx fun x hx => ?_
      obtain ⟨j, hj⟩ := List.getElem?_of_mem hx
      exact (hok j x hj).sc S
  · cases h
/-- Two blocks alike at a place. -/
def SameAt : Foot → Option Blk → Option Blk → Prop
  | .c _ o n, x, y => ∀ cs, y = some (.cells cs) → ∃ cs', x = some (.cells cs') ∧ ∀ j, o ≤ j → j < o + n → cs'[j]? = cs[j]?
  | .r _, x, y => ∀ e sz n get fl, y = some (.row e sz n get fl) → x = y
theorem SameAt.refl (f : Foot) (x : Option Blk) : SameAt f x x := by
  cases f with
  | c b o n => exact fun cs h => ⟨cs, h, fun _ _ _ => rfl⟩
  | r b => exact fun _ _ _ _ _ _ => rfl
theorem SameAt.trans {f : Foot} {x y z : Option Blk} (h : SameAt f x y) (g : SameAt f y z) : SameAt f x z := by
  cases f with
  | c b o n =>
    intro cs hz
    obtain ⟨c1, h1, h2⟩ := g cs hz
    obtain ⟨c2, h3, h4⟩ := h c1 h1
    exact ⟨c2, h3, fun j a b => (h4 j a b).trans (h2 j a b)⟩
  | r b =>
    intro e sz n get fl hz
    have h1 := g e sz n get fl hz
    have h2 := h e sz n get fl (h1.trans hz)
    rw [h2, h1]
/-- A load goes by the place that it reads. -/
theorem loadP_congr {P : Program} {H H' : Heap} {t : TypeId} {p : C} {u : U} {fs : List Foot} (h : loadP P H t p = some (u, fs)) (hc : ∀ f ∈ fs, SameAt f (blk H' f.b) (blk H f.b)) : loadP P H' t p = some (u, fs) := by
  unfold loadP at h ⊢
  split at h
  · rename_i b o
    split at h
    · rename_i cs hb
      rw [Option.map_eq_some_iff] at h
      obtain ⟨⟨u', n⟩, hx, he⟩ := h
      cases he
      obtain ⟨cs', e1, e2⟩ := hc (.c b o n) (List.mem_singleton.2 rfl) cs hb
      simp only [Foot.b] at e1
      simp only [e1]
      rw [takeU_congr hx e2]
      rfl
    · cases h
  · rename_i b sz i o
    split at h
    · rename_i e sz' n get flat hb
      split at h
      · rename_i hcond
        have h0 := h
        rw [Option.map_eq_some_iff] at h
        obtain ⟨⟨u', n'⟩, hx, he⟩ := h
        cases he
        have e1 := hc (.r b) (List.mem_singleton.2 rfl) _ _ _ _ _ hb
        simp only [Foot.b] at e1
        simp only [e1, hb, if_pos hcond]
        exact h0
      · cases h
    · cases h
  · exact h
  · cases h
theorem loadP_foot {P : Program} {H : Heap} {t : TypeId} {p : C} {u : U} {fs : List Foot} (h : loadP P H t p = some (u, fs)) : ∀ f ∈ fs, f.b < H.length ∧ (match f with
    | .c b _ _ => ∃ cs, blk H b = some (.cells cs)
    | .r b => ∃ e sz n get fl, blk H b = some (.row e sz n get fl)) := by
  unfold loadP at h
  split at h
  · split at h
    · rename_i cs hb
      rw [Option.map_eq_some_iff] at h
      obtain ⟨⟨u', n⟩, hx, he⟩ := h
      cases he
      intro f hf
      rw [List.mem_singleton] at hf
      subst hf
      exact ⟨blk_lt hb, cs, hb⟩
    · cases h
  · split at h
    · rename_i e sz' n get flat hb
      split at h
      · rw [Option.map_eq_some_iff] at h
        obtain ⟨⟨u', n'⟩, hx, he⟩ := h
        cases he
        intro f hf
        rw [List.mem_singleton] at hf
        subst hf
        exact ⟨blk_lt hb, _, _, _, _, _, hb⟩
      · cases h
    · cases h
  · rw [Option.map_eq_some_iff] at h
    obtain ⟨⟨u', n⟩, hx, he⟩ := h
    cases he
    intro f hf
    cases hf
  · cases h
end Go.Proofs.Ytbgdfikfldkjbaa.AI
