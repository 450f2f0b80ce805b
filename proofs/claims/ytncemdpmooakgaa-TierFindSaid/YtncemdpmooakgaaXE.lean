/- Words: variables of struct types loaded and stored whole, block by block. -/
import Derived.Test.YtncemdpmooakgaaXW
import Derived.Test.YtncemdpmooakgaaWAll
import Derived.Below
import Derived.Deep.MidRow
import Derived.Laws.Rows
import Derived.Laws.AppendOwn
namespace Go.Proofs.Ytncemdpmooakgaa.XE
open Go Go.RowKit Go.Proofs Go.Proofs.YtncemdpmooakgaaW.PrintWords Go.Proofs.YtncemdpmooakgaaW.PrintLast Go.Proofs.Ytncemdpmooakgaa.XW
set_option linter.unusedVariables false
variable {P : Program} {o : Oper} {w : World}
theorem gate_store {ops : Array Oper} {rest : List Oper} {a : Act} {Q : Exit → Act → World → Prop} {T : TypeId} {x y : Operand} (_ho : o.op = .store T x y) (h : wpList P ops Q (o :: rest) a w) : wpList P ops Q (o :: rest) a w := h
theorem setCells_other (b k : Nat) (hk : k ≠ b) : ∀ (vs : List Value) (j : Nat) (w : World), (w.setCells b j vs).heap[k]? = w.heap[k]?
  | [], _, _ => rfl
  | v :: r, j, w => by
    rw [World.setCells, setCells_other b k hk r (j + 1)]
    exact Below.heap_setCell w _ _ k hk
theorem setCells_size (b : Nat) : ∀ (vs : List Value) (j : Nat) (w : World), (w.setCells b j vs).heap.size = w.heap.size
  | [], _, _ => rfl
  | v :: r, j, w => by rw [World.setCells, setCells_size b r (j + 1)]; simp [World.setCell]
theorem setCells_rest (b : Nat) : ∀ (vs : List Value) (j : Nat) (w : World), (w.setCells b j vs).os = w.os ∧ (w.setCells b j vs).tape = w.tape ∧ (w.setCells b j vs).output = w.output
  | [], _, _ => ⟨rfl, rfl, rfl⟩
  | v :: r, j, w => by rw [World.setCells]; exact setCells_rest b r (j + 1) _
theorem setCells_heap (b t : Nat) : ∀ (vs : List Value) (j : Nat) (cs : Array Value) (w : World), w.heap[b]? = some (.cells cs t (0, 0)) → j + vs.length ≤ cs.size →
    ∃ ds : Array Value, (w.setCells b j vs).heap[b]? = some (.cells ds t (0, 0)) ∧ ds.size = cs.size ∧ ∀ i, ds[i]? = if j ≤ i ∧ i < j + vs.length then vs[i - j]? else cs[i]?
  | [], j, cs, w, h, _ => ⟨cs, h, rfl, fun i => by rw [if_neg (by simp)]⟩
  | v :: r, j, cs, w, h, hl => by
    simp only [List.length_cons] at hl
    have h1 : (w.setCell ⟨b, j, none⟩ v).heap[b]? = some (.cells (cs.setIfInBounds j v) t (0, 0)) := heap_setCell_same w b j cs t v h
    obtain ⟨ds, d1, d2, d3⟩ := setCells_heap b t r (j + 1) _ _ h1 (by simp; omega)
    refine ⟨ds, d1, by rw [d2]; simp, fun i => ?_⟩
    rw [d3]
    by_cases hi : i = j
    · subst hi
      rw [if_neg (by omega), if_pos (by simp)]
      simp [Array.getElem?_setIfInBounds]; omega
    · by_cases hj : j + 1 ≤ i ∧ i < j + 1 + r.length
      · rw [if_pos hj, if_pos (by simp; omega), show i - j = (i - (j + 1)) + 1 by omega, List.getElem?_cons_succ]
      · rw [if_neg hj, if_neg (by simp; omega)]
        simp [Array.getElem?_setIfInBounds]; omega
/-- A variable of a struct type that is a block of its own is stored whole. -/
theorem ev_store {ops : Array Oper} {rest : List Oper} {a : Act} {Q : Exit → Act → World → Prop} {ty : TypeId} {x y : Operand} (hgd : o.guard = none) (ho : o.op = .store ty x y)
    {g t : Nat} {old cells : Array Value} (hx : a.eval x = .pointer (some ⟨g, 0, none⟩)) (hy : a.eval y = .agg cells) (hb : w.heap[g]? = some (.cells old t (0, 0))) (hs : cells.size = old.size)
    (hi : (P.info? ty).map (·.size) = some cells.size) (h1 : cells.all (·.oneCell') = true)
    (hK : ∀ w1, w1.heap[g]? = some (.cells cells t (0, 0)) → w.grownBy w1 (some g) → w1.heap.size = w.heap.size → wpList P ops Q rest (a.put o.dst undef) w1) : wpList P ops Q (o :: rest) a w := by
  obtain ⟨ds, d1, d2, d3⟩ := setCells_heap g t cells.toList 0 old w hb (by simp [hs])
  have hd : ds = cells := by
    apply Array.ext_getElem?
    intro i
    rw [d3]
    by_cases hi : i < cells.size
    · rw [if_pos (by simp; exact hi)]; simp
    · rw [if_neg (by simp; omega), Array.getElem?_eq_none (by omega), Array.getElem?_eq_none (by omega)]
  rw [hd] at d1
  have hc : ∀ j, j < old.size → (w.cell? ⟨g, j, none⟩).isSome = true := fun j hj => by
    rw [cell_of_row w g j old t (0, 0) hb]; simp [hj]
  refine wpList_store_mid hgd ty x y ho g 0 cells hx hy (fun j hj => ⟨by rw [Nat.zero_add]; exact hc j (by omega), by rw [Nat.zero_add]; exact frozen_of_row w g j old t hb⟩) hi h1 (hK _ d1 ?_ (setCells_size g _ _ w))
  obtain ⟨r1, r2, r3⟩ := setCells_rest g cells.toList 0 w
  exact ⟨r1, r2, r3, Nat.le_of_eq (setCells_size g _ _ w).symm, fun k hk hne => setCells_other g k (fun e => hne (by rw [e])) _ _ w⟩
/-- Some cells of a block are written: a field, a struct in a struct. -/
theorem ev_storeAt {ops : Array Oper} {rest : List Oper} {a : Act} {Q : Exit → Act → World → Prop} {ty : TypeId} {x y : Operand} (hgd : o.guard = none) (hN : o.dst = none) (ho : o.op = .store ty x y)
    {g t off : Nat} {old new : Array Value} {u : Value} {seg : List Value} (hx : a.eval x = .pointer (some ⟨g, off, none⟩)) (hy : a.eval y = u) (hu : u.cells.toList = seg) (ht : (P.info? ty).map (·.size) = some seg.length)
    (h1 : ∀ q ∈ seg, q.oneCell' = true) (hb : w.heap[g]? = some (.cells old t (0, 0))) (hfit : off + seg.length ≤ old.size) (hnew : new.toList = old.toList.take off ++ seg ++ old.toList.drop (off + seg.length))
    (hK : ∀ w1, w1.heap[g]? = some (.cells new t (0, 0)) → w.grownBy w1 (some g) → w1.heap.size = w.heap.size → wpList P ops Q rest a w1) : wpList P ops Q (o :: rest) a w := by
  obtain ⟨ds, d1, d2, d3⟩ := setCells_heap g t seg off old w hb hfit
  have hd : ds = new := by
    apply Array.ext_getElem?
    intro i
    have hl : old.toList.length = old.size := Array.length_toList
    have e1 : new[i]? = (old.toList.take off ++ (seg ++ old.toList.drop (off + seg.length)))[i]? := by rw [← List.append_assoc, ← hnew]; simp
    have e2 : old[i]? = old.toList[i]? := by simp
    rw [d3, e1, e2]
    have h4 : (old.toList.take off).length = off := by rw [List.length_take]; omega
    by_cases h3 : i < off
    · rw [if_neg (by omega), List.getElem?_append_left (by omega), List.getElem?_take, if_pos h3]
    · rw [List.getElem?_append_right (by omega), h4]
      by_cases h2 : i < off + seg.length
      · rw [if_pos ⟨by omega, h2⟩, List.getElem?_append_left (by omega)]
      · rw [if_neg (by omega), List.getElem?_append_right (by omega), List.getElem?_drop]; congr 1; omega
  rw [hd] at d1
  have hrun : (Instr.storeAt ty (.pointer (some ⟨g, off, none⟩)) u).run P w = .ok () (w.setCells g off seg) := run_store_run ty u seg hb hu ht hfit h1
  obtain ⟨r1, r2, r3⟩ := setCells_rest g seg off w
  refine wpList_plain hgd fun K hK' => ?_
  unfold Oper.wp execOp
  simp only [ho, hx, hy, Sem.run_bind, Sem.run_pure, Result.andThen_ok, hrun]
  show K (a.put o.dst undef) _
  rw [hN]
  exact hK' a _ (hK _ d1 ⟨r1, r2, r3, Nat.le_of_eq (setCells_size g _ _ w).symm, fun k hk hne => setCells_other g k (fun e => hne (by rw [e])) _ _ w⟩ (setCells_size g _ _ w))
/-- The same in a region that draws. -/
theorem step_storeR {α : Type} (d : Kd α) {ops : Array Oper} {a : Act} {K : Act → World → Prop} {Q : Exit → Act → World → Prop} {ty : TypeId} {x y : Operand} (hw : Region.wanted o (yielded ops a.tmps) = true) (hN : o.dst = none) (ho : o.op = .store ty x y)
    {base e g n cap k j off : Nat} {xs : List α} {x' : α} {u : Value} {seg c : List Value} (hx : a.eval x = .pointer (some ⟨g, off, none⟩)) (hoff : off = k * d.sz + j) (hy : a.eval y = u) (hu : u.cells.toList = seg) (ht : (P.info? ty).map (·.size) = some seg.length)
    (h1 : ∀ q ∈ seg, q.oneCell' = true) (HO : d.R e w base (fun _ => True) (.slice (some ⟨g, 0, none⟩) n cap) xs) (hk : k < n) (hcl : c.length = d.sz) (hcc : ∀ j u, c[j]? = some u → w.cell? ⟨g, k * d.sz + j, none⟩ = some u)
    (hj : j + seg.length ≤ d.sz) (hM : ∀ w0, d.M w0 base (fun _ => False) x' (c.take j ++ seg ++ c.drop (j + seg.length)))
    (hK : ∀ w1, d.R e w1 base (fun _ => True) (.slice (some ⟨g, 0, none⟩) n cap) (xs.set k x') → w.grownBy w1 (some g) → w1.heap.size = w.heap.size → K a w1) : if Region.wanted o (yielded ops a.tmps) = true then Oper.wp P o a w K Q else K (a.put none undef) w := by
  obtain ⟨hrow, hg⟩ := Kd.R_seg (okp := fun _ => False) HO (k : Int) (by omega) (by omega) hcl (by simpa using hcc) hj (hM _) (fun _ h => h.elim)
  simp only [Int.toNat_natCast] at hrow hg
  obtain ⟨_, inner, hown, hr⟩ := HO
  have hrun : (Instr.storeAt ty (.pointer (some ⟨g, off, none⟩)) u).run P w = .ok () (w.setCells g off seg) := by
    rcases hown.2 with ⟨hv, _⟩ | ⟨g', cap', cur, hv, hb, hh, hnc, hcm, hcs, _⟩
    · cases hv
    injection hv with ha _ hc
    injection ha with ha
    injection ha with hg'
    subst hg'; subst hc
    refine run_store_run ty u seg hh hu ht ?_ h1
    have h2 : k * d.sz + d.sz ≤ n * d.sz := by rw [← Nat.succ_mul]; exact Nat.mul_le_mul_right _ hk
    have h3 : n * d.sz ≤ cap * d.sz := Nat.mul_le_mul_right _ (by omega)
    omega
  subst hoff
  rw [if_pos hw]
  unfold Oper.wp execOp
  simp only [ho, hx, hy, Sem.run_bind, Sem.run_pure, Result.andThen_ok, hrun]
  show K (a.put o.dst undef) _
  rw [hN]
  exact hK _ hrow hg (setCells_size g _ _ w)
/-- One block has been written, and new ones made: told from the base. -/
theorem grown_below {w0 w1 w2 : World} {row : Option Nat} (h : w0.grownBy w1 row) (hb : Below w1.heap.size w1 w2) : w0.grownBy w2 row :=
  ⟨hb.os.trans h.os, hb.tape.trans h.tape, hb.output.trans h.output, Nat.le_trans h.size hb.size, fun k hk hne => (hb.block k (Nat.lt_of_lt_of_le hk h.size)).trans (h.block k hk hne)⟩
theorem grown_refl (w0 : World) (row : Option Nat) : w0.grownBy w0 row := ⟨rfl, rfl, rfl, Nat.le_refl _, fun _ _ _ => rfl⟩
theorem grown_of_below {w0 w2 : World} {row : Option Nat} (hb : Below w0.heap.size w0 w2) : w0.grownBy w2 row := grown_below (grown_refl w0 row) hb
end Go.Proofs.Ytncemdpmooakgaa.XE
