/- parcel.Do's map of functions: made, and looked up. -/
import Derived.WideMake
import Derived.Below
import Derived.Test.YtndbchcfjajgbaaXP0
namespace Go.Proofs.Ytndbchcfjajgbaa.XP
open Go Go.RowKit Go.Proofs Go.Proofs.YtndbchcfjajgbaaW.PrintWords Go.Proofs.YtndbchcfjajgbaaW.PrintLast
set_option linter.unusedVariables false
set_option linter.unusedSimpArgs false
section
variable {P : Program}
/-- A map that holds functions under integers: an entry more. -/
theorem run_mapUpdate_push {w : World} (mty kt et : TypeId) (r clock : Nat) (es : Array MapEntry) (k : Int) (val : Value) (hm : P.underlying mty = some (.map kt et)) (hk : P.underlying kt = some (.int .i64)) (hb : w.heap[r]? = some (.map es clock)) (hf : Instr.findNow (.int .i64) (.int .i64 k) es.toList 0 = some none) :
    (Instr.mapUpdate mty (.map (some r)) (.int .i64 k) val).run P w = .ok () { w with heap := w.heap.setIfInBounds r (.map (es.push { key := .int .i64 k, val := val, born := clock }) (clock + 1)) } := by
  have hc : (Instr.checkKey false 10000 kt (.int .i64 k)).run P w = .ok () w := MapKept.run_checkKey (k := .int .i64 k) hk (by simp [MapKept.IsKey]) false 9999
  simp [Instr.mapUpdate, run_underlying hm, MapKept.run_getObj_map hb, hc, MapKept.run_findKey hk hf, MapKept.run_setObj_map _ hb, Result.andThen]
theorem run_lookup_hit {w : World} (mty kt et : TypeId) (r clock : Nat) (es : Array MapEntry) (k : Int) (i : Nat) (val : Value) (hm : P.underlying mty = some (.map kt et)) (hk : P.underlying kt = some (.int .i64)) (hb : w.heap[r]? = some (.map es clock)) (hne : es.isEmpty = false) (hf : Instr.findNow (.int .i64) (.int .i64 k) es.toList 0 = some (some (i, val))) :
    (Instr.lookup mty (.map (some r)) (.int .i64 k) false).run P w = .ok val w := by
  have hc : (Instr.checkKey false 10000 kt (.int .i64 k)).run P w = .ok () w := MapKept.run_checkKey (k := .int .i64 k) hk (by simp [MapKept.IsKey]) false 9999
  simp [Instr.lookup, run_underlying hm, MapKept.run_getObj_map hb, hne, hc, MapKept.run_findKey hk hf, Result.andThen]
theorem push_step {w : World} (mty kt et : TypeId) (r clock : Nat) (es : Array MapEntry) (k : Int) (val : Value) (hm : P.underlying mty = some (.map kt et)) (hk : P.underlying kt = some (.int .i64)) (hb : w.heap[r]? = some (.map es clock)) (hf : Instr.findNow (.int .i64) (.int .i64 k) es.toList 0 = some none) :
    ∃ W, (Instr.mapUpdate mty (.map (some r)) (.int .i64 k) val).run P w = .ok () W ∧ W.heap[r]? = some (.map (es.push { key := .int .i64 k, val := val, born := clock }) (clock + 1)) ∧ Below r w W :=
  ⟨_, run_mapUpdate_push mty kt et r clock es k val hm hk hb hf, (MapKept.heap_set hb).1, ⟨rfl, rfl, rfl, by simp, fun k hk => (MapKept.heap_set hb).2 k (by omega)⟩⟩
end
theorem heap_new (w : World) (o : Obj) : (w.alloc o).heap[w.heap.size]? = some o := (MapKept.heap_alloc w o).1
theorem kinds_run (w : World) : ∃ W1 W2 W3 W4 : World,
    (Instr.mapUpdate 125 (.map (some w.heap.size)) (.int .i64 2) (.func (.func 64) #[] #[])).run Try.prog (w.alloc (.map #[] 0)) = .ok () W1 ∧
    (Instr.mapUpdate 125 (.map (some w.heap.size)) (.int .i64 3) (.func (.func 65) #[] #[])).run Try.prog W1 = .ok () W2 ∧
    (Instr.mapUpdate 125 (.map (some w.heap.size)) (.int .i64 4) (.func (.func 66) #[] #[])).run Try.prog W2 = .ok () W3 ∧
    (Instr.mapUpdate 125 (.map (some w.heap.size)) (.int .i64 5) (.func (.func 67) #[] #[])).run Try.prog W3 = .ok () W4 ∧
    Below w.heap.size w W4 ∧
    (Instr.lookup 125 (.map (some w.heap.size)) (.int .i64 2) false).run Try.prog W4 = .ok (.func (.func 64) #[] #[]) W4 ∧
    (Instr.lookup 125 (.map (some w.heap.size)) (.int .i64 3) false).run Try.prog W4 = .ok (.func (.func 65) #[] #[]) W4 ∧
    (Instr.lookup 125 (.map (some w.heap.size)) (.int .i64 4) false).run Try.prog W4 = .ok (.func (.func 66) #[] #[]) W4 ∧
    (Instr.lookup 125 (.map (some w.heap.size)) (.int .i64 5) false).run Try.prog W4 = .ok (.func (.func 67) #[] #[]) W4 := by
  have h0 : (w.alloc (.map #[] 0)).heap[w.heap.size]? = some (.map #[] 0) := heap_new w _
  obtain ⟨W1, r1, h1, b1⟩ := push_step (P := Try.prog) 125 3 124 w.heap.size 0 #[] 2 (.func (.func 64) #[] #[]) Try.underlying125 Try.underlying3 h0 rfl
  obtain ⟨W2, r2, h2, b2⟩ := push_step (P := Try.prog) 125 3 124 w.heap.size _ _ 3 (.func (.func 65) #[] #[]) Try.underlying125 Try.underlying3 h1 rfl
  obtain ⟨W3, r3, h3, b3⟩ := push_step (P := Try.prog) 125 3 124 w.heap.size _ _ 4 (.func (.func 66) #[] #[]) Try.underlying125 Try.underlying3 h2 rfl
  obtain ⟨W4, r4, h4, b4⟩ := push_step (P := Try.prog) 125 3 124 w.heap.size _ _ 5 (.func (.func 67) #[] #[]) Try.underlying125 Try.underlying3 h3 rfl
  refine ⟨W1, W2, W3, W4, r1, r2, r3, r4, ?_, ?_, ?_, ?_, ?_⟩
  · exact ((((Below.alloc (Below.refl _ w) (Nat.le_refl _) _).trans b1).trans b2).trans b3).trans b4
  · exact run_lookup_hit 125 3 124 _ _ _ 2 0 _ Try.underlying125 Try.underlying3 h4 rfl rfl
  · exact run_lookup_hit 125 3 124 _ _ _ 3 1 _ Try.underlying125 Try.underlying3 h4 rfl rfl
  · exact run_lookup_hit 125 3 124 _ _ _ 4 2 _ Try.underlying125 Try.underlying3 h4 rfl rfl
  · exact run_lookup_hit 125 3 124 _ _ _ 5 3 _ Try.underlying125 Try.underlying3 h4 rfl rfl
end Go.Proofs.Ytndbchcfjajgbaa.XP
