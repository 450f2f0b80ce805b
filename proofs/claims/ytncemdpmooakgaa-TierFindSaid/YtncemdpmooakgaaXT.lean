/- Loads of many cells at once, the cells kept as one opaque array. -/
import Derived.Test.YtncemdpmooakgaaXK0
import Derived.Test.YtncemdpmooakgaaHandEq
import Derived.Laws.Cells
import Derived.DataElems
import Derived.BigQuiet
import Derived.Lib.QuietBelow
namespace Go.Proofs.Ytncemdpmooakgaa.XT
open Go Go.RowKit Go.Proofs Go.Proofs.Ytncemdpmooakgaa.XK Go.Proofs.Ytncemdpmooakgaa.XW Go.Proofs.YtncemdpmooakgaaW.PrintWords Go.Proofs.YtncemdpmooakgaaW.PrintLast
set_option linter.unusedVariables false
set_option linter.unusedSimpArgs false
def aggD (d : TypeDesc) : Bool := match d with | .struct _ | .array _ _ => true | _ => false
theorem load_cells {P : Program} {o : Oper} {w : World} {ev : Operand → Value} {ty : TypeId} {x : Operand} {tc : Array Value} {b : Addr} {d : TypeDesc} {n : Nat} (ho : o.op = .load ty x) (hx : ev x = .pointer (some b)) (hu : P.underlying ty = some d)
    (hd : aggD d = true) (hi : (P.info? ty).map (·.size) = some n) (hn : tc.size = n) (hc : ∀ j v, tc[j]? = some v → w.cell? (b.add j) = some v) :
    (execOp ev o).run P w = .ok (.value (.agg tc)) w := by
  have hl : tc.toList.length = n := by simp [hn]
  have hload : (loadCells b tc.toList.length).run P w = .ok tc.toList.toArray w :=
    run_loadCells_list (P := P) w _ tc.toList (fun j v hv => hc j v (by simpa using hv))
  rw [hl] at hload
  unfold execOp
  cases hq : P.info? ty with
  | none => simp [hq] at hi
  | some i =>
    have hs : i.size = n := by simpa [hq] using hi
    have hagg : (isAgg ty).run P w = .ok true w := by
      unfold isAgg
      rw [Sem.run_bind, run_underlying hu w]
      cases d <;> simp_all [aggD]
    have hlv : (loadVar ty b).run P w = .ok (.agg tc) w := by
      simp only [loadVar, Sem.run_bind, hagg, sizeOf, typeInfo, hq, Result.andThen_ok, Sem.run_pure, hs, if_true]
      simp [hload, hs, hq]
    simp only [ho, hx, Instr.loadAt, Instr.sureAddr, Sem.run_bind, Sem.run_pure, Result.andThen_ok, hlv]
section
variable {P : Program} {o : Oper} {w : World}
theorem ev_cells {ops : Array Oper} {rest : List Oper} {a : Act} {Q : Exit → Act → World → Prop} (ty : TypeId) (x : Operand) (n : Nat) (tc : Array Value) (ho : o.op = .load ty x) (hgd : o.guard = none) {d : TypeDesc} (hu : P.underlying ty = some d)
    (hd : aggD d = true) (hi : (P.info? ty).map (·.size) = some n) (hn : tc.size = n) {b : Addr} (hx : a.eval x = .pointer (some b)) (hc : ∀ j v, tc[j]? = some v → w.cell? (b.add j) = some v)
    (hK : wpList P ops Q rest (a.put o.dst (.agg tc)) w) : wpList P ops Q (o :: rest) a w :=
  Kd.event_run hgd (load_cells ho hx hu hd hi hn hc) hK
end
/-- A part of a block's cells. -/
theorem part_cells {w : World} {g t : Nat} {cs tc : Array Value} (off n : Nat) (hg : w.heap[g]? = some (.cells cs t (0, 0))) (ht : tc = cs.extract off (off + n)) : ∀ j v, tc[j]? = some v → w.cell? ((⟨g, off, none⟩ : Addr).add j) = some v := by
  intro j v hv
  have ha : (⟨g, off, none⟩ : Addr).add j = ⟨g, off + j, none⟩ := by unfold Addr.add; split <;> simp_all
  rw [ha, blk_cell hg]
  rw [ht] at hv
  simp only [Array.getElem?_extract] at hv
  split at hv
  · exact hv
  · cases hv
section
variable {P : Program} {C : World → Prop} {a : Act} {o : Oper}
/-- A load of many cells in a quiet walk. -/
theorem quiet_cells {K : Act → Prop} (ty : TypeId) (x : Operand) (n : Nat) (tc : Array Value) (ho : o.op = .load ty x) {d : TypeDesc} (hu : P.underlying ty = some d) (hd : aggD d = true) (hi : (P.info? ty).map (·.size) = some n) (hn : tc.size = n)
    {b : Addr} (hx : a.eval x = .pointer (some b)) (hc : ∀ w, C w → ∀ j v, tc[j]? = some v → w.cell? (b.add j) = some v) (hk : K (a.put o.dst (.agg tc))) : o.quiet P a C K :=
  ⟨_, fun w hw => by unfold Oper.quietAt; rw [load_cells ho hx hu hd hi hn (hc w hw)]; exact ⟨rfl, rfl⟩, hk⟩
end
/-- A row's element, as one opaque array. -/
theorem row_elem {α : Type} {d : Kd α} {w : World} {A : Option Addr} {n : Nat} {xs : List α} (h : d.C w A n xs) (z : α) (i : Nat) (h1 : i < n) :
    ∃ (ad : Addr) (tc : Array Value), A = some ad ∧ tc.size = d.sz ∧ d.K w (xs.getD i z) tc.toList ∧ ∀ j v, tc[j]? = some v → w.cell? ((ad.add (i * d.sz)).add j) = some v := by
  obtain ⟨ad, c, e, hl, hK, hc⟩ := Kd.C_get h z (i : Int) (by omega) (by omega)
  rw [Int.toNat_natCast] at hK hc
  refine ⟨ad, c.toArray, e, by simpa using hl, by simpa using hK, fun j v hv => ?_⟩
  rw [Addr.add_add]
  exact hc j v (by simpa using hv)
end Go.Proofs.Ytncemdpmooakgaa.XT
