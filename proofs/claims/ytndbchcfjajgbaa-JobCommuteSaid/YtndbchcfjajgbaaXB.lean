/- Short names: a tactic block that stands often, as a theorem whose one hypothesis it lays; arrays of truths. Laid by sq2.py. -/
import Derived.Test.YtndbchcfjajgbaaXE
import Derived.Test.YtndbchcfjajgbaaWAll
import Derived.WalkKit
import Derived.Lib.QuietBelow
import Derived.BigQuiet
import Derived.Below
import Derived.Deep.Draws
import Derived.Deep.AppendLies
import Derived.Maps.AppendAt
import Derived.OwnWalk
import Derived.Laws.BytesArg
import Derived.Laws.MakeOwn
import Derived.Laws.OwnMore
import Derived.Deep.OwnRows
import Derived.Tactics
import Derived.Lib.ConvBytes
import Derived.Laws.Slices
import Derived.KernelRfl
import Derived.RowKit3
import Derived.Deep.LoopGhost
import Derived.Deep.QuietTactic
import Derived.WideLaws
import Derived.Deep.DeepCutAuto
import Derived.Deep.CutBlock
import Derived.Deep.RegionHeld3
import Derived.Laws.Rows
import Derived.Lib.AppendStr
import Derived.ArgAppend
import Derived.Laws.IdiomCopy
import Derived.OrdersHeld
import Derived.Laws.BitsLemmas
import Derived.RowKit
import Derived.Laws.Cover1
import Derived.Lib.Hide
import Derived.Lib.Overlaps
import Derived.Lib.AppendZerosOnto
import Derived.Laws.Externs
import Derived.Laws.CopyRow
import Derived.Lib.Bytealg
import Derived.Lib.SliceRun
import Derived.WideShapes
import Derived.Deep.MidRow
import Derived.Laws.AppendOwn
import Derived.Deep.RegionWith
import Derived.WideMake
import Derived.Great.BuildSlice
import Derived.ProofKit
import Derived.OpenShut
import Derived.ShutString
import Derived.ChangeOld
import Derived.SizedLaws
/- Shorter words for walked regions: a step's side goals are laid by their usual tactics; what is read stays where memory only grows. -/
namespace Go.Proofs.Ytndbchcfjajgbaa.XQ
open Go Go.RowKit Go.Proofs.YtndbchcfjajgbaaW.PrintWords Go.Proofs.YtndbchcfjajgbaaW.PrintLast
set_option linter.unusedVariables false
/-- W' is W with new blocks, and with answers drawn. -/
class Gr (W W' : World) : Prop where out : ∀ (n : Nat) (w : World), Below n w W → n ≤ W.heap.size → Below n w W' ∧ n ≤ W'.heap.size
instance gr0 (W : World) : Gr W W := ⟨fun _ _ h hn => ⟨h, hn⟩⟩
instance gr1 (W W' : World) (o : Obj) [g : Gr W W'] : Gr W (W'.alloc o) := ⟨fun n w h hn => ⟨(g.out n w h hn).1.alloc (g.out n w h hn).2 o, Nat.le_trans (g.out n w h hn).2 (below_alloc (Below.refl W'.heap.size W') o).size⟩⟩
instance gr2 (W W' : World) (k : Nat) [g : Gr W W'] : Gr W (W'.drewN k) := ⟨fun n w h hn => ⟨pw_below_drewN (g.out n w h hn).1 k, (g.out n w h hn).2⟩⟩
instance gr3 (W W' : World) [g : Gr W W'] : Gr W W'.drew := ⟨fun n w h hn => ⟨below_drew (g.out n w h hn).1, (g.out n w h hn).2⟩⟩
theorem Gr.below {W W' : World} (g : Gr W W') : Below W.heap.size W W' := (g.out _ _ (Below.refl _ _) (Nat.le_refl _)).1
theorem bb {w W W' : World} (h : Below w.heap.size w W) [g : Gr W W'] : Below w.heap.size w W' := (g.out _ _ h h.size).1
theorem bl {W W' : World} {g : Nat} {o : Obj} (h : W.heap[g]? = some o) [k : Gr W W'] : W'.heap[g]? = some o := blk_below h k.below
section
variable {α : Type} {d : Kd α} {e base n : Nat} {ok : Nat → Prop} {A : Option Addr} {v : Value} {W W' : World} {xs : List α}
theorem cl (h : d.C W A n xs) [g : Gr W W'] : d.C W' A n xs := Kd.C_below h g.below
theorem rl (h : d.R e W base ok v xs) [g : Gr W W'] : d.R e W' base ok v xs := Kd.R_below h g.below
theorem vl (h : Kd.V d e W base ok v xs) [g : Gr W W'] : Kd.V d e W' base ok v xs := Kd.V_below h g.below
end
section
variable {P : Program} {md : Region.Mode} {ops : Array Oper} {Q : Exit → Act → World → Prop} {S : World → Prop} {ds : List Nat}
theorem p_ {i : Nat} {N : Option Tmp} {oi : Oper} {v : Value} {fuel : Nat} {l : Array Bool} {a : Act} {w : World} (l' : Array Bool) (hi : ops[i]? = some oi) (hN : oi.dst = N) (hc : anyB md ops l l' i = true) {a' : Act}
    (h : wpAnyLast P md ops Q S ds fuel l' a' w) (hQ : ∀ c a w, Q (.panic c) (a.put oi.dst v) w → Q (.panic c) a w := by exact fun _ _ _ h => h) (hy : Yields P ops oi v a := by exact Or.inl ⟨by rfl, by intro w'; go_simp; with_reducible rfl⟩)
    (ha : a.put N v = a' := by simp only [Act.put, List.setIfInBounds_toArray, List.set_cons_zero, List.set_cons_succ, i64_w, i32_w]; rfl) : wpAnyLast P md ops Q S ds (fuel + 1) l a w := pure_ l' hi hN hc hQ hy ha h
theorem k_ {i : Nat} {N : Option Tmp} {oi : Oper} {v : Value} {fuel : Nat} {l : Array Bool} {a : Act} {w : World} (l' : Array Bool) (hi : ops[i]? = some oi) (hN : oi.dst = N) (hc : takeB md ops ds l l' i = true)
    (hy : YieldsIf P ops S oi v a) (hS : S w) {a' : Act} (h : wpAnyLast P md ops Q S ds fuel l' a' w) (hQ : ∀ c a w, Q (.panic c) (a.put oi.dst v) w → Q (.panic c) a w := by exact fun _ _ _ h => h)
    (ha : a.put N v = a' := by simp only [Act.put, List.setIfInBounds_toArray, List.set_cons_zero, List.set_cons_succ, i64_w, i32_w]; rfl) : wpAnyLast P md ops Q S ds (fuel + 1) l a w := take_ l' hi hN hc hQ hy hS ha h
theorem u_ {i : Nat} {N : Option Tmp} {oi : Oper} {fuel : Nat} {l : Array Bool} {a : Act} {w : World} (l' : Array Bool) (hi : ops[i]? = some oi) (hN : oi.dst = N) (hc : anyB md ops l l' i = true) {a' : Act}
    (h : wpAnyLast P md ops Q S ds fuel l' a' w) (hQ : ∀ c a w, Q (.panic c) (a.put oi.dst undef) w → Q (.panic c) a w := by exact fun _ _ _ h => h) (hy : Yields P ops oi undef a := by exact Or.inr ⟨by rfl, rfl⟩)
    (ha : a.put N undef = a' := by simp only [Act.put, List.setIfInBounds_toArray, List.set_cons_zero, List.set_cons_succ, i64_w, i32_w]; rfl) : wpAnyLast P md ops Q S ds (fuel + 1) l a w := pure_ l' hi hN hc hQ hy ha h
end
section
variable {P : Program} {o : Oper} {ops : Array Oper} {rest : List Oper} {a : Act} {Q : Exit → Act → World → Prop} {Kc : Act → World → Prop}
theorem bx_ {W : World} {N : Tmp} {cs : Array Value} {t : TypeId} (h : ∀ g, g = W.heap.size → ∀ w1, w1.heap[g]? = some (.cells cs t (0, 0)) → Below W.heap.size W w1 → wpList P ops Q rest (a.put o.dst (.pointer (some ⟨g, 0, none⟩))) w1)
    (hd : o.dst = some N := by rfl) (hgd : o.guard = none := by rfl) (hrun : (execOp a.eval o).run P W = .ok (.value (.pointer (some ⟨W.heap.size, 0, none⟩))) (W.alloc (.cells cs t (0, 0))) := by first | (go_simp; done) | (go_simp; rfl)) : wpList P ops Q (o :: rest) a W :=
  box_event hgd hd hrun h
end
theorem hc_ {w W : World} {a : Addr} {v : Value} (h : Below w.heap.size w W) (hx : w.cell? a = some v) : W.cell? a = some v := (h.cell (World.block_lt_of_cell? w _ hx)).trans hx
theorem kb {w W : World} {g : Nat} {o : Obj} (h : Below w.heap.size w W) (hx : Aside0 (w.heap[g]? = some o)) : Aside0 (W.heap[g]? = some o) := Aside0.mk (blk_below hx.out h)
theorem cz5 {w : World} {g : Nat} {t : TypeId} {c0 c1 c2 c3 c4 : Value} (h : w.heap[g]? = some (.cells #[c0, c1, c2, c3, c4] t (0, 0))) : w.cell? ⟨g, 0, none⟩ = some c0 ∧ w.cell? ⟨g, 1, none⟩ = some c1 ∧ w.cell? ⟨g, 2, none⟩ = some c2 ∧ w.cell? ⟨g, 3, none⟩ = some c3 ∧ w.cell? ⟨g, 4, none⟩ = some c4 := ⟨(blk_cell h 0).trans rfl, (blk_cell h 1).trans rfl, (blk_cell h 2).trans rfl, (blk_cell h 3).trans rfl, (blk_cell h 4).trans rfl⟩
theorem fz5 {w : World} {g : Nat} {t : TypeId} {c0 c1 c2 c3 c4 : Value} (h : w.heap[g]? = some (.cells #[c0, c1, c2, c3, c4] t (0, 0))) : w.frozen? ⟨g, 0, none⟩ = false ∧ w.frozen? ⟨g, 1, none⟩ = false ∧ w.frozen? ⟨g, 2, none⟩ = false ∧ w.frozen? ⟨g, 3, none⟩ = false ∧ w.frozen? ⟨g, 4, none⟩ = false := ⟨blk_frozen h 0, blk_frozen h 1, blk_frozen h 2, blk_frozen h 3, blk_frozen h 4⟩
theorem cz9 {w : World} {g : Nat} {t : TypeId} {c0 c1 c2 c3 c4 c5 c6 c7 c8 : Value} (h : w.heap[g]? = some (.cells #[c0, c1, c2, c3, c4, c5, c6, c7, c8] t (0, 0))) : w.cell? ⟨g, 0, none⟩ = some c0 ∧ w.cell? ⟨g, 1, none⟩ = some c1 ∧ w.cell? ⟨g, 2, none⟩ = some c2 ∧ w.cell? ⟨g, 3, none⟩ = some c3 ∧ w.cell? ⟨g, 4, none⟩ = some c4 ∧ w.cell? ⟨g, 5, none⟩ = some c5 ∧ w.cell? ⟨g, 6, none⟩ = some c6 ∧ w.cell? ⟨g, 7, none⟩ = some c7 ∧ w.cell? ⟨g, 8, none⟩ = some c8 := ⟨(blk_cell h 0).trans rfl, (blk_cell h 1).trans rfl, (blk_cell h 2).trans rfl, (blk_cell h 3).trans rfl, (blk_cell h 4).trans rfl, (blk_cell h 5).trans rfl, (blk_cell h 6).trans rfl, (blk_cell h 7).trans rfl, (blk_cell h 8).trans rfl⟩
theorem fz9 {w : World} {g : Nat} {t : TypeId} {c0 c1 c2 c3 c4 c5 c6 c7 c8 : Value} (h : w.heap[g]? = some (.cells #[c0, c1, c2, c3, c4, c5, c6, c7, c8] t (0, 0))) : w.frozen? ⟨g, 0, none⟩ = false ∧ w.frozen? ⟨g, 1, none⟩ = false ∧ w.frozen? ⟨g, 2, none⟩ = false ∧ w.frozen? ⟨g, 3, none⟩ = false ∧ w.frozen? ⟨g, 4, none⟩ = false ∧ w.frozen? ⟨g, 5, none⟩ = false ∧ w.frozen? ⟨g, 6, none⟩ = false ∧ w.frozen? ⟨g, 7, none⟩ = false ∧ w.frozen? ⟨g, 8, none⟩ = false := ⟨blk_frozen h 0, blk_frozen h 1, blk_frozen h 2, blk_frozen h 3, blk_frozen h 4, blk_frozen h 5, blk_frozen h 6, blk_frozen h 7, blk_frozen h 8⟩
theorem cz13 {w : World} {g : Nat} {t : TypeId} {c0 c1 c2 c3 c4 c5 c6 c7 c8 c9 c10 c11 c12 : Value} (h : w.heap[g]? = some (.cells #[c0, c1, c2, c3, c4, c5, c6, c7, c8, c9, c10, c11, c12] t (0, 0))) : w.cell? ⟨g, 0, none⟩ = some c0 ∧ w.cell? ⟨g, 1, none⟩ = some c1 ∧ w.cell? ⟨g, 2, none⟩ = some c2 ∧ w.cell? ⟨g, 3, none⟩ = some c3 ∧ w.cell? ⟨g, 4, none⟩ = some c4 ∧ w.cell? ⟨g, 5, none⟩ = some c5 ∧ w.cell? ⟨g, 6, none⟩ = some c6 ∧ w.cell? ⟨g, 7, none⟩ = some c7 ∧ w.cell? ⟨g, 8, none⟩ = some c8 ∧ w.cell? ⟨g, 9, none⟩ = some c9 ∧ w.cell? ⟨g, 10, none⟩ = some c10 ∧ w.cell? ⟨g, 11, none⟩ = some c11 ∧ w.cell? ⟨g, 12, none⟩ = some c12 := ⟨(blk_cell h 0).trans rfl, (blk_cell h 1).trans rfl, (blk_cell h 2).trans rfl, (blk_cell h 3).trans rfl, (blk_cell h 4).trans rfl, (blk_cell h 5).trans rfl, (blk_cell h 6).trans rfl, (blk_cell h 7).trans rfl, (blk_cell h 8).trans rfl, (blk_cell h 9).trans rfl, (blk_cell h 10).trans rfl, (blk_cell h 11).trans rfl, (blk_cell h 12).trans rfl⟩
theorem fz13 {w : World} {g : Nat} {t : TypeId} {c0 c1 c2 c3 c4 c5 c6 c7 c8 c9 c10 c11 c12 : Value} (h : w.heap[g]? = some (.cells #[c0, c1, c2, c3, c4, c5, c6, c7, c8, c9, c10, c11, c12] t (0, 0))) : w.frozen? ⟨g, 0, none⟩ = false ∧ w.frozen? ⟨g, 1, none⟩ = false ∧ w.frozen? ⟨g, 2, none⟩ = false ∧ w.frozen? ⟨g, 3, none⟩ = false ∧ w.frozen? ⟨g, 4, none⟩ = false ∧ w.frozen? ⟨g, 5, none⟩ = false ∧ w.frozen? ⟨g, 6, none⟩ = false ∧ w.frozen? ⟨g, 7, none⟩ = false ∧ w.frozen? ⟨g, 8, none⟩ = false ∧ w.frozen? ⟨g, 9, none⟩ = false ∧ w.frozen? ⟨g, 10, none⟩ = false ∧ w.frozen? ⟨g, 11, none⟩ = false ∧ w.frozen? ⟨g, 12, none⟩ = false := ⟨blk_frozen h 0, blk_frozen h 1, blk_frozen h 2, blk_frozen h 3, blk_frozen h 4, blk_frozen h 5, blk_frozen h 6, blk_frozen h 7, blk_frozen h 8, blk_frozen h 9, blk_frozen h 10, blk_frozen h 11, blk_frozen h 12⟩
theorem fr {w : World} {a p : Addr} {v : Value} {o : Option Value} (h : Aside0 (a.block ≠ p.block)) (x : w.cell? a = o) : (w.setCell p v).cell? a = o := (cell_far h.out v).trans x
theorem kc {w0 w W : World} {g : Nat} {o : Obj} (hx : Aside0 (w0.heap[g]? = some o)) (hb : Below w.heap.size w W) [k : Gr w0 w] : Aside0 (W.heap[g]? = some o) := ⟨blk_below (bl hx.out) hb⟩
theorem ko {α : Type} {d : Kd α} {e base : Nat} {ok : Nat → Prop} {v : Value} {w0 w W : World} {xs : List α} (hx : Aside0 (d.R e w0 base ok v xs)) (hb : Below w.heap.size w W) [k : Gr w0 w] : Aside0 (d.R e W base ok v xs) := ⟨Kd.R_below (rl hx.out) hb⟩
theorem nl {w0 w : World} {g g2 : Nat} {o : Obj} (hg : g2 = w.heap.size) (hx : Aside0 (w0.heap[g]? = some o)) [k : Gr w0 w] : Aside0 (g ≠ g2) := ⟨by rw [hg]; exact Nat.ne_of_lt (blk_lt (bl (W' := w) hx.out))⟩
theorem ng {w0 w : World} {g g2 : Nat} {o : Obj} (hg : g2 = w.heap.size) (hx : Aside0 (w0.heap[g]? = some o)) [k : Gr w0 w] : Aside0 (g2 ≠ g) := ⟨by rw [hg]; exact Nat.ne_of_gt (blk_lt (bl (W' := w) hx.out))⟩
theorem bc {w : World} {g : Nat} {t : TypeId} {cs : Array Value} {v : Value} (h : Aside0 (w.heap[g]? = some (.cells cs t (0, 0)))) (i : Nat) (e : cs[i]? = some v := by rfl) : w.cell? ⟨g, i, none⟩ = some v := (blk_cell h.out i).trans e
end Go.Proofs.Ytndbchcfjajgbaa.XQ
namespace Go.Proofs.Ytndbchcfjajgbaa.XB
open Go Go.RowKit Go.Proofs.YtndbchcfjajgbaaW.PrintWords
theorem fs5 (g : Nat) (v0 v1 v2 v3 v4 : Value) {w : World} {a : Addr} {o : Option Value} (h : a.block ≠ g) (x : w.cell? a = o) : (((((w.setCell ⟨g, 0, none⟩ v0).setCell ⟨g, 1, none⟩ v1).setCell ⟨g, 2, none⟩ v2).setCell ⟨g, 3, none⟩ v3).setCell ⟨g, 4, none⟩ v4).cell? a = o := ((cell_far (p := ⟨g, 4, none⟩) h v4).trans ((cell_far (p := ⟨g, 3, none⟩) h v3).trans ((cell_far (p := ⟨g, 2, none⟩) h v2).trans ((cell_far (p := ⟨g, 1, none⟩) h v1).trans ((cell_far (p := ⟨g, 0, none⟩) h v0).trans x)))))
abbrev q10_0 : Array Bool := #[false, false, false, false, false, false, false, false, false, false]
abbrev q10_1 : Array Bool := #[true, false, false, false, false, false, false, false, false, false]
abbrev q10_1f : Array Bool := #[true, true, true, true, true, false, false, false, false, false]
abbrev q10_1ff : Array Bool := #[true, true, true, true, true, true, true, true, true, false]
abbrev q10_3 : Array Bool := #[true, true, false, false, false, false, false, false, false, false]
abbrev q10_3f : Array Bool := #[true, true, true, true, true, true, false, false, false, false]
abbrev q10_3ff : Array Bool := #[true, true, true, true, true, true, true, true, true, true]
abbrev q10_7 : Array Bool := #[true, true, true, false, false, false, false, false, false, false]
abbrev q10_7f : Array Bool := #[true, true, true, true, true, true, true, false, false, false]
abbrev q10_83 : Array Bool := #[true, true, false, false, false, false, false, true, false, false]
abbrev q10_87 : Array Bool := #[true, true, true, false, false, false, false, true, false, false]
abbrev q10_8f : Array Bool := #[true, true, true, true, false, false, false, true, false, false]
abbrev q10_9f : Array Bool := #[true, true, true, true, true, false, false, true, false, false]
abbrev q10_bf : Array Bool := #[true, true, true, true, true, true, false, true, false, false]
abbrev q10_f : Array Bool := #[true, true, true, true, false, false, false, false, false, false]
abbrev q10_ff : Array Bool := #[true, true, true, true, true, true, true, true, false, false]
abbrev q11_0 : Array Bool := #[false, false, false, false, false, false, false, false, false, false, false]
abbrev q11_1 : Array Bool := #[true, false, false, false, false, false, false, false, false, false, false]
abbrev q11_105 : Array Bool := #[true, false, true, false, false, false, false, false, true, false, false]
abbrev q11_107 : Array Bool := #[true, true, true, false, false, false, false, false, true, false, false]
abbrev q11_10f : Array Bool := #[true, true, true, true, false, false, false, false, true, false, false]
abbrev q11_11f : Array Bool := #[true, true, true, true, true, false, false, false, true, false, false]
abbrev q11_13f : Array Bool := #[true, true, true, true, true, true, false, false, true, false, false]
abbrev q11_17f : Array Bool := #[true, true, true, true, true, true, true, false, true, false, false]
abbrev q11_1f : Array Bool := #[true, true, true, true, true, false, false, false, false, false, false]
abbrev q11_1ff : Array Bool := #[true, true, true, true, true, true, true, true, true, false, false]
abbrev q11_3f : Array Bool := #[true, true, true, true, true, true, false, false, false, false, false]
abbrev q11_3ff : Array Bool := #[true, true, true, true, true, true, true, true, true, true, false]
abbrev q11_5 : Array Bool := #[true, false, true, false, false, false, false, false, false, false, false]
abbrev q11_7 : Array Bool := #[true, true, true, false, false, false, false, false, false, false, false]
abbrev q11_7f : Array Bool := #[true, true, true, true, true, true, true, false, false, false, false]
abbrev q11_7ff : Array Bool := #[true, true, true, true, true, true, true, true, true, true, true]
abbrev q11_f : Array Bool := #[true, true, true, true, false, false, false, false, false, false, false]
abbrev q11_ff : Array Bool := #[true, true, true, true, true, true, true, true, false, false, false]
abbrev q13_0 : Array Bool := #[false, false, false, false, false, false, false, false, false, false, false, false, false]
abbrev q13_1 : Array Bool := #[true, false, false, false, false, false, false, false, false, false, false, false, false]
abbrev q13_17 : Array Bool := #[true, true, true, false, true, false, false, false, false, false, false, false, false]
abbrev q13_1ff : Array Bool := #[true, true, true, true, true, true, true, true, true, false, false, false, false]
abbrev q13_1fff : Array Bool := #[true, true, true, true, true, true, true, true, true, true, true, true, true]
abbrev q13_3 : Array Bool := #[true, true, false, false, false, false, false, false, false, false, false, false, false]
abbrev q13_37 : Array Bool := #[true, true, true, false, true, true, false, false, false, false, false, false, false]
abbrev q13_3ff : Array Bool := #[true, true, true, true, true, true, true, true, true, true, false, false, false]
abbrev q13_7 : Array Bool := #[true, true, true, false, false, false, false, false, false, false, false, false, false]
abbrev q13_77 : Array Bool := #[true, true, true, false, true, true, true, false, false, false, false, false, false]
abbrev q13_7ff : Array Bool := #[true, true, true, true, true, true, true, true, true, true, true, false, false]
abbrev q13_f7 : Array Bool := #[true, true, true, false, true, true, true, true, false, false, false, false, false]
abbrev q13_ff : Array Bool := #[true, true, true, true, true, true, true, true, false, false, false, false, false]
abbrev q13_fff : Array Bool := #[true, true, true, true, true, true, true, true, true, true, true, true, false]
abbrev q14_0 : Array Bool := #[false, false, false, false, false, false, false, false, false, false, false, false, false, false]
abbrev q14_1 : Array Bool := #[true, false, false, false, false, false, false, false, false, false, false, false, false, false]
abbrev q14_17 : Array Bool := #[true, true, true, false, true, false, false, false, false, false, false, false, false, false]
abbrev q14_1ff : Array Bool := #[true, true, true, true, true, true, true, true, true, false, false, false, false, false]
abbrev q14_1fff : Array Bool := #[true, true, true, true, true, true, true, true, true, true, true, true, true, false]
abbrev q14_3 : Array Bool := #[true, true, false, false, false, false, false, false, false, false, false, false, false, false]
abbrev q14_37 : Array Bool := #[true, true, true, false, true, true, false, false, false, false, false, false, false, false]
abbrev q14_3f : Array Bool := #[true, true, true, true, true, true, false, false, false, false, false, false, false, false]
abbrev q14_3ff : Array Bool := #[true, true, true, true, true, true, true, true, true, true, false, false, false, false]
abbrev q14_3fff : Array Bool := #[true, true, true, true, true, true, true, true, true, true, true, true, true, true]
abbrev q14_7 : Array Bool := #[true, true, true, false, false, false, false, false, false, false, false, false, false, false]
abbrev q14_7f : Array Bool := #[true, true, true, true, true, true, true, false, false, false, false, false, false, false]
abbrev q14_7ff : Array Bool := #[true, true, true, true, true, true, true, true, true, true, true, false, false, false]
abbrev q14_87f : Array Bool := #[true, true, true, true, true, true, true, false, false, false, false, true, false, false]
abbrev q14_8ff : Array Bool := #[true, true, true, true, true, true, true, true, false, false, false, true, false, false]
abbrev q14_9ff : Array Bool := #[true, true, true, true, true, true, true, true, true, false, false, true, false, false]
abbrev q14_bff : Array Bool := #[true, true, true, true, true, true, true, true, true, true, false, true, false, false]
abbrev q14_ff : Array Bool := #[true, true, true, true, true, true, true, true, false, false, false, false, false, false]
abbrev q14_fff : Array Bool := #[true, true, true, true, true, true, true, true, true, true, true, true, false, false]
abbrev q15_0 : Array Bool := #[false, false, false, false, false, false, false, false, false, false, false, false, false, false, false]
abbrev q15_1 : Array Bool := #[true, false, false, false, false, false, false, false, false, false, false, false, false, false, false]
abbrev q15_125 : Array Bool := #[true, false, true, false, false, true, false, false, true, false, false, false, false, false, false]
abbrev q15_17 : Array Bool := #[true, true, true, false, true, false, false, false, false, false, false, false, false, false, false]
abbrev q15_1ff : Array Bool := #[true, true, true, true, true, true, true, true, true, false, false, false, false, false, false]
abbrev q15_1fff : Array Bool := #[true, true, true, true, true, true, true, true, true, true, true, true, true, false, false]
abbrev q15_25 : Array Bool := #[true, false, true, false, false, true, false, false, false, false, false, false, false, false, false]
abbrev q15_2f : Array Bool := #[true, true, true, true, false, true, false, false, false, false, false, false, false, false, false]
abbrev q15_2f6f : Array Bool := #[true, true, true, true, false, true, true, false, true, true, true, true, false, true, false]
abbrev q15_2f7f : Array Bool := #[true, true, true, true, true, true, true, false, true, true, true, true, false, true, false]
abbrev q15_2fff : Array Bool := #[true, true, true, true, true, true, true, true, true, true, true, true, false, true, false]
abbrev q15_3 : Array Bool := #[true, true, false, false, false, false, false, false, false, false, false, false, false, false, false]
abbrev q15_37 : Array Bool := #[true, true, true, false, true, true, false, false, false, false, false, false, false, false, false]
abbrev q15_3ff : Array Bool := #[true, true, true, true, true, true, true, true, true, true, false, false, false, false, false]
abbrev q15_3fff : Array Bool := #[true, true, true, true, true, true, true, true, true, true, true, true, true, true, false]
abbrev q15_4f : Array Bool := #[true, true, true, true, false, false, true, false, false, false, false, false, false, false, false]
abbrev q15_5 : Array Bool := #[true, false, true, false, false, false, false, false, false, false, false, false, false, false, false]
abbrev q15_525 : Array Bool := #[true, false, true, false, false, true, false, false, true, false, true, false, false, false, false]
abbrev q15_527 : Array Bool := #[true, true, true, false, false, true, false, false, true, false, true, false, false, false, false]
abbrev q15_52f : Array Bool := #[true, true, true, true, false, true, false, false, true, false, true, false, false, false, false]
abbrev q15_56f : Array Bool := #[true, true, true, true, false, true, true, false, true, false, true, false, false, false, false]
abbrev q15_6f : Array Bool := #[true, true, true, true, false, true, true, false, false, false, false, false, false, false, false]
abbrev q15_7 : Array Bool := #[true, true, true, false, false, false, false, false, false, false, false, false, false, false, false]
abbrev q15_76f : Array Bool := #[true, true, true, true, false, true, true, false, true, true, true, false, false, false, false]
abbrev q15_77 : Array Bool := #[true, true, true, false, true, true, true, false, false, false, false, false, false, false, false]
abbrev q15_7f : Array Bool := #[true, true, true, true, true, true, true, false, false, false, false, false, false, false, false]
abbrev q15_7ff : Array Bool := #[true, true, true, true, true, true, true, true, true, true, true, false, false, false, false]
abbrev q15_7fff : Array Bool := #[true, true, true, true, true, true, true, true, true, true, true, true, true, true, true]
abbrev q15_cf : Array Bool := #[true, true, true, true, false, false, true, true, false, false, false, false, false, false, false]
abbrev q15_df : Array Bool := #[true, true, true, true, true, false, true, true, false, false, false, false, false, false, false]
abbrev q15_ef : Array Bool := #[true, true, true, true, false, true, true, true, false, false, false, false, false, false, false]
abbrev q15_f : Array Bool := #[true, true, true, true, false, false, false, false, false, false, false, false, false, false, false]
abbrev q15_f6f : Array Bool := #[true, true, true, true, false, true, true, false, true, true, true, true, false, false, false]
abbrev q15_f7f : Array Bool := #[true, true, true, true, true, true, true, false, true, true, true, true, false, false, false]
abbrev q15_ff : Array Bool := #[true, true, true, true, true, true, true, true, false, false, false, false, false, false, false]
abbrev q15_fff : Array Bool := #[true, true, true, true, true, true, true, true, true, true, true, true, false, false, false]
abbrev q16_0 : Array Bool := #[false, false, false, false, false, false, false, false, false, false, false, false, false, false, false, false]
abbrev q16_1 : Array Bool := #[true, false, false, false, false, false, false, false, false, false, false, false, false, false, false, false]
abbrev q16_16f : Array Bool := #[true, true, true, true, false, true, true, false, true, false, false, false, false, false, false, false]
abbrev q16_17 : Array Bool := #[true, true, true, false, true, false, false, false, false, false, false, false, false, false, false, false]
abbrev q16_17f : Array Bool := #[true, true, true, true, true, true, true, false, true, false, false, false, false, false, false, false]
abbrev q16_1ff : Array Bool := #[true, true, true, true, true, true, true, true, true, false, false, false, false, false, false, false]
abbrev q16_1fff : Array Bool := #[true, true, true, true, true, true, true, true, true, true, true, true, true, false, false, false]
abbrev q16_21ff : Array Bool := #[true, true, true, true, true, true, true, true, true, false, false, false, false, true, false, false]
abbrev q16_23ff : Array Bool := #[true, true, true, true, true, true, true, true, true, true, false, false, false, true, false, false]
abbrev q16_27ff : Array Bool := #[true, true, true, true, true, true, true, true, true, true, true, false, false, true, false, false]
abbrev q16_2f : Array Bool := #[true, true, true, true, false, true, false, false, false, false, false, false, false, false, false, false]
abbrev q16_2fff : Array Bool := #[true, true, true, true, true, true, true, true, true, true, true, true, false, true, false, false]
abbrev q16_3 : Array Bool := #[true, true, false, false, false, false, false, false, false, false, false, false, false, false, false, false]
abbrev q16_37 : Array Bool := #[true, true, true, false, true, true, false, false, false, false, false, false, false, false, false, false]
abbrev q16_3ff : Array Bool := #[true, true, true, true, true, true, true, true, true, true, false, false, false, false, false, false]
abbrev q16_3fff : Array Bool := #[true, true, true, true, true, true, true, true, true, true, true, true, true, true, false, false]
abbrev q16_6f : Array Bool := #[true, true, true, true, false, true, true, false, false, false, false, false, false, false, false, false]
abbrev q16_7 : Array Bool := #[true, true, true, false, false, false, false, false, false, false, false, false, false, false, false, false]
abbrev q16_77 : Array Bool := #[true, true, true, false, true, true, true, false, false, false, false, false, false, false, false, false]
abbrev q16_7ff : Array Bool := #[true, true, true, true, true, true, true, true, true, true, true, false, false, false, false, false]
abbrev q16_7fff : Array Bool := #[true, true, true, true, true, true, true, true, true, true, true, true, true, true, true, false]
abbrev q16_f : Array Bool := #[true, true, true, true, false, false, false, false, false, false, false, false, false, false, false, false]
abbrev q16_f7 : Array Bool := #[true, true, true, false, true, true, true, true, false, false, false, false, false, false, false, false]
abbrev q16_ff : Array Bool := #[true, true, true, true, true, true, true, true, false, false, false, false, false, false, false, false]
abbrev q16_fff : Array Bool := #[true, true, true, true, true, true, true, true, true, true, true, true, false, false, false, false]
abbrev q16_ffff : Array Bool := #[true, true, true, true, true, true, true, true, true, true, true, true, true, true, true, true]
abbrev q17_0 : Array Bool := #[false, false, false, false, false, false, false, false, false, false, false, false, false, false, false, false, false]
abbrev q17_1 : Array Bool := #[true, false, false, false, false, false, false, false, false, false, false, false, false, false, false, false, false]
abbrev q17_17 : Array Bool := #[true, true, true, false, true, false, false, false, false, false, false, false, false, false, false, false, false]
abbrev q17_1b : Array Bool := #[true, true, false, true, true, false, false, false, false, false, false, false, false, false, false, false, false]
abbrev q17_1d7 : Array Bool := #[true, true, true, false, true, false, true, true, true, false, false, false, false, false, false, false, false]
abbrev q17_1fff : Array Bool := #[true, true, true, true, true, true, true, true, true, true, true, true, true, false, false, false, false]
abbrev q17_1ffff : Array Bool := #[true, true, true, true, true, true, true, true, true, true, true, true, true, true, true, true, true]
abbrev q17_2bb : Array Bool := #[true, true, false, true, true, true, false, true, false, true, false, false, false, false, false, false, false]
abbrev q17_2bf : Array Bool := #[true, true, true, true, true, true, false, true, false, true, false, false, false, false, false, false, false]
abbrev q17_2ff : Array Bool := #[true, true, true, true, true, true, true, true, false, true, false, false, false, false, false, false, false]
abbrev q17_3 : Array Bool := #[true, true, false, false, false, false, false, false, false, false, false, false, false, false, false, false, false]
abbrev q17_3b : Array Bool := #[true, true, false, true, true, true, false, false, false, false, false, false, false, false, false, false, false]
abbrev q17_3d7 : Array Bool := #[true, true, true, false, true, false, true, true, true, true, false, false, false, false, false, false, false]
abbrev q17_3df : Array Bool := #[true, true, true, true, true, false, true, true, true, true, false, false, false, false, false, false, false]
abbrev q17_3ff : Array Bool := #[true, true, true, true, true, true, true, true, true, true, false, false, false, false, false, false, false]
abbrev q17_3fff : Array Bool := #[true, true, true, true, true, true, true, true, true, true, true, true, true, true, false, false, false]
abbrev q17_57 : Array Bool := #[true, true, true, false, true, false, true, false, false, false, false, false, false, false, false, false, false]
abbrev q17_7 : Array Bool := #[true, true, true, false, false, false, false, false, false, false, false, false, false, false, false, false, false]
abbrev q17_7ff : Array Bool := #[true, true, true, true, true, true, true, true, true, true, true, false, false, false, false, false, false]
abbrev q17_7fff : Array Bool := #[true, true, true, true, true, true, true, true, true, true, true, true, true, true, true, false, false]
abbrev q17_b : Array Bool := #[true, true, false, true, false, false, false, false, false, false, false, false, false, false, false, false, false]
abbrev q17_bb : Array Bool := #[true, true, false, true, true, true, false, true, false, false, false, false, false, false, false, false, false]
abbrev q17_d7 : Array Bool := #[true, true, true, false, true, false, true, true, false, false, false, false, false, false, false, false, false]
abbrev q17_fff : Array Bool := #[true, true, true, true, true, true, true, true, true, true, true, true, false, false, false, false, false]
abbrev q17_ffff : Array Bool := #[true, true, true, true, true, true, true, true, true, true, true, true, true, true, true, true, false]
theorem t_0 {p : Prop} (h : p := by (with_reducible repeat (first | refine blk_drewN ?_ _ | refine blk_drew ?_ | refine blk_alloc ?_ _)); refine blk_far ?_ NB180_182.out _; (with_reducible repeat (first | refine blk_drewN ?_ _ | refine blk_drew ?_ | refine blk_alloc ?_ _)); refine blk_far ?_ NB180_182.out _; (with_reducible repeat (first | refine blk_drewN ?_ _ | refine blk_drew ?_ | refine blk_alloc ?_ _)); refine blk_far ?_ NB180_182.out _; (with_reducible repeat (first | refine blk_drewN ?_ _ | refine blk_drew ?_ | refine blk_alloc ?_ _)); refine blk_far ?_ NB180_182.out _; (with_reducible repeat (first | refine blk_drewN ?_ _ | refine blk_drew ?_ | refine blk_alloc ?_ _)); refine blk_far ?_ NB180_182.out _; (with_reducible repeat (first | refine blk_drewN ?_ _ | refine blk_drew ?_ | refine blk_alloc ?_ _)); refine blk_far ?_ NB180_182.out _; (with_reducible repeat (first | refine blk_drewN ?_ _ | refine blk_drew ?_ | refine blk_alloc ?_ _)); refine blk_far ?_ NB180_182.out _; (with_reducible repeat (first | refine blk_drewN ?_ _ | refine blk_drew ?_ | refine blk_alloc ?_ _)); refine blk_far ?_ NB180_182.out _; (with_reducible repeat (first | refine blk_drewN ?_ _ | refine blk_drew ?_ | refine blk_alloc ?_ _)); refine blk_far ?_ NB180_182.out _; (with_reducible repeat (first | refine blk_drewN ?_ _ | refine blk_drew ?_ | refine blk_alloc ?_ _)); refine blk_far ?_ NB180_182.out _; (with_reducible repeat (first | refine blk_drewN ?_ _ | refine blk_drew ?_ | refine blk_alloc ?_ _)); refine blk_far ?_ NB180_182.out _; (with_reducible repeat (first | refine blk_drewN ?_ _ | refine blk_drew ?_ | refine blk_alloc ?_ _)); refine blk_far ?_ NB180_182.out _; (with_reducible repeat (first | refine blk_drewN ?_ _ | refine blk_drew ?_ | refine blk_alloc ?_ _)); refine blk_far ?_ NB180_182.out _; (with_reducible repeat (first | refine blk_drewN ?_ _ | refine blk_drew ?_ | refine blk_alloc ?_ _)); exact BK180.out) : p := h
theorem t_1 {p : Prop} (h : p := by (with_reducible repeat (first | refine blk_drewN ?_ _ | refine blk_drew ?_ | refine blk_alloc ?_ _)); refine blk_far ?_ NB157_169.out _; (with_reducible repeat (first | refine blk_drewN ?_ _ | refine blk_drew ?_ | refine blk_alloc ?_ _)); refine blk_far ?_ NB157_169.out _; (with_reducible repeat (first | refine blk_drewN ?_ _ | refine blk_drew ?_ | refine blk_alloc ?_ _)); refine blk_far ?_ NB157_169.out _; (with_reducible repeat (first | refine blk_drewN ?_ _ | refine blk_drew ?_ | refine blk_alloc ?_ _)); refine blk_far ?_ NB157_169.out _; (with_reducible repeat (first | refine blk_drewN ?_ _ | refine blk_drew ?_ | refine blk_alloc ?_ _)); refine blk_far ?_ NB157_169.out _; (with_reducible repeat (first | refine blk_drewN ?_ _ | refine blk_drew ?_ | refine blk_alloc ?_ _)); refine blk_far ?_ NB157_169.out _; (with_reducible repeat (first | refine blk_drewN ?_ _ | refine blk_drew ?_ | refine blk_alloc ?_ _)); refine blk_far ?_ NB157_169.out _; (with_reducible repeat (first | refine blk_drewN ?_ _ | refine blk_drew ?_ | refine blk_alloc ?_ _)); refine blk_far ?_ NB157_169.out _; (with_reducible repeat (first | refine blk_drewN ?_ _ | refine blk_drew ?_ | refine blk_alloc ?_ _)); refine blk_far ?_ NB157_169.out _; (with_reducible repeat (first | refine blk_drewN ?_ _ | refine blk_drew ?_ | refine blk_alloc ?_ _)); exact BK157.out) : p := h
theorem t_2 {p : Prop} (h : p := by (with_reducible repeat (first | apply Kd.R_alloc | apply Kd.R_drewN | apply Kd.R_drew)); exact (Kd.R_mono (Kd.R_far (p := ⟨gb169, 8, none⟩) (Kd.R_far (p := ⟨gb169, 7, none⟩) (Kd.R_far (p := ⟨gb169, 6, none⟩) (Kd.R_far (p := ⟨gb169, 5, none⟩) (Kd.R_far (p := ⟨gb169, 4, none⟩) (Kd.R_far (p := ⟨gb169, 3, none⟩) (Kd.R_far (p := ⟨gb169, 2, none⟩) (Kd.R_far (p := ⟨gb169, 1, none⟩) (Kd.R_far (p := ⟨gb169, 0, none⟩) (Kd.R_types HO_158001.out BK169.out (by decide)) (fun _ hk => hk.2) (.int .i64 ((rd_T83 l1 x24_1).f0))) (fun _ hk => hk.2) (.int .i64 ((rd_T83 l1 x24_1).f1))) (fun _ hk => hk.2) (.string ((rd_T83 l1 x24_1).f2.f0))) (fun _ hk => hk.2) (.string ((rd_T83 l1 x24_1).f2.f1))) (fun _ hk => hk.2) (.string ((rd_T83 l1 x24_1).f2.f2))) (fun _ hk => hk.2) (.int .i64 ((rd_T83 l1 x24_1).f2.f3))) (fun _ hk => hk.2) (.int .i64 ((rd_T83 l1 x24_1).f2.f4))) (fun _ hk => hk.2) (.string ((rd_T83 l1 x24_1).f3))) (fun _ hk => hk.2) (.int .i64 ((rd_T83 l1 x24_1).f4))) (fun _ h_ => h_.1))) : p := h
theorem t_3 {p : Prop} (h : p := by (with_reducible repeat (first | apply Kd.R_alloc | apply Kd.R_drewN | apply Kd.R_drew)); exact (Kd.R_mono (Kd.R_far (p := ⟨gb169, 8, none⟩) (Kd.R_far (p := ⟨gb169, 7, none⟩) (Kd.R_far (p := ⟨gb169, 6, none⟩) (Kd.R_far (p := ⟨gb169, 5, none⟩) (Kd.R_far (p := ⟨gb169, 4, none⟩) (Kd.R_far (p := ⟨gb169, 3, none⟩) (Kd.R_far (p := ⟨gb169, 2, none⟩) (Kd.R_far (p := ⟨gb169, 1, none⟩) (Kd.R_far (p := ⟨gb169, 0, none⟩) (Kd.R_types HO_158002.out BK169.out (by decide)) (fun _ hk => hk.2) (.int .i64 ((rd_T83 l1 x24_1).f0))) (fun _ hk => hk.2) (.int .i64 ((rd_T83 l1 x24_1).f1))) (fun _ hk => hk.2) (.string ((rd_T83 l1 x24_1).f2.f0))) (fun _ hk => hk.2) (.string ((rd_T83 l1 x24_1).f2.f1))) (fun _ hk => hk.2) (.string ((rd_T83 l1 x24_1).f2.f2))) (fun _ hk => hk.2) (.int .i64 ((rd_T83 l1 x24_1).f2.f3))) (fun _ hk => hk.2) (.int .i64 ((rd_T83 l1 x24_1).f2.f4))) (fun _ hk => hk.2) (.string ((rd_T83 l1 x24_1).f3))) (fun _ hk => hk.2) (.int .i64 ((rd_T83 l1 x24_1).f4))) (fun _ h_ => h_.1))) : p := h
theorem t_4 {p : Prop} (h : p := by (with_reducible repeat (first | refine blk_drewN ?_ _ | refine blk_drew ?_ | refine blk_alloc ?_ _)); refine blk_far ?_ NB208_210.out _; (with_reducible repeat (first | refine blk_drewN ?_ _ | refine blk_drew ?_ | refine blk_alloc ?_ _)); refine blk_far ?_ NB208_210.out _; (with_reducible repeat (first | refine blk_drewN ?_ _ | refine blk_drew ?_ | refine blk_alloc ?_ _)); refine blk_far ?_ NB208_210.out _; (with_reducible repeat (first | refine blk_drewN ?_ _ | refine blk_drew ?_ | refine blk_alloc ?_ _)); refine blk_far ?_ NB208_210.out _; (with_reducible repeat (first | refine blk_drewN ?_ _ | refine blk_drew ?_ | refine blk_alloc ?_ _)); refine blk_far ?_ NB208_210.out _; (with_reducible repeat (first | refine blk_drewN ?_ _ | refine blk_drew ?_ | refine blk_alloc ?_ _)); exact BK208.out) : p := h
theorem t_5 {p : Prop} (h : p := by (with_reducible repeat (first | apply Kd.V_alloc | apply Kd.V_drewN | apply Kd.V_drew)); exact Kd.V_mono (Kd.V_far (p := ⟨gb223, 4, none⟩) (Kd.V_far (p := ⟨gb223, 3, none⟩) (Kd.V_far (p := ⟨gb223, 2, none⟩) (Kd.V_far (p := ⟨gb223, 1, none⟩) (Kd.V_far (p := ⟨gb223, 0, none⟩) (Kd.V_mono HO0_2.out (fun k_ hk => (⟨hk, hk.2⟩ : _ ∧ k_ ≠ gb223))) (fun _ hk => hk.2) (.int .i64 a0_0)) (fun _ hk => hk.2) (.slice none 0 0)) (fun _ hk => hk.2) (.slice A0_2 l0_2.length c0_2)) (fun _ hk => hk.2) (.int .i64 a0_3)) (fun _ hk => hk.2) (.int .i64 a0_4)) (fun _ hk => ⟨hk.1.1.1.1, ⟨(by simp [Value.ownBlock]), ⟨hk.1.1.1.2, ⟨hk.1.1.2, hk.1.2⟩⟩⟩⟩)) : p := h
theorem t_6 {p : Prop} (h : p := by (with_reducible repeat (first | apply Kd.R_alloc | apply Kd.R_drewN | apply Kd.R_drew)); exact (Kd.R_mono (Kd.R_far (p := ⟨gb346, 4, none⟩) (Kd.R_far (p := ⟨gb346, 3, none⟩) (Kd.R_far (p := ⟨gb346, 2, none⟩) (Kd.R_far (p := ⟨gb346, 1, none⟩) (Kd.R_far (p := ⟨gb346, 0, none⟩) (Kd.R_types HO290.out BK346.out (by decide)) (fun _ hk => hk.2) (.int .i64 t336)) (fun _ hk => hk.2) (.slice Ao129 t337.length co129)) (fun _ hk => hk.2) (.slice Ao131 t340.length co131)) (fun _ hk => hk.2) (.int .i64 t343)) (fun _ hk => hk.2) (.int .i64 t344)) (fun _ h_ => h_.1))) : p := h
theorem t_7 {p : Prop} (h : p := by (with_reducible repeat (first | apply Kd.R_alloc | apply Kd.R_drewN | apply Kd.R_drew)); exact (Kd.R_mono (Kd.R_far (p := ⟨gb346, 4, none⟩) (Kd.R_far (p := ⟨gb346, 3, none⟩) (Kd.R_far (p := ⟨gb346, 2, none⟩) (Kd.R_far (p := ⟨gb346, 1, none⟩) (Kd.R_far (p := ⟨gb346, 0, none⟩) (Kd.R_types HO293.out BK346.out (by decide)) (fun _ hk => hk.2) (.int .i64 t336)) (fun _ hk => hk.2) (.slice Ao129 t337.length co129)) (fun _ hk => hk.2) (.slice Ao131 t340.length co131)) (fun _ hk => hk.2) (.int .i64 t343)) (fun _ hk => hk.2) (.int .i64 t344)) (fun _ h_ => h_.1))) : p := h
theorem t_8 {p : Prop} (h : p := by (with_reducible repeat (first | apply Kd.R_alloc | apply Kd.R_drewN | apply Kd.R_drew)); exact (Kd.R_mono (Kd.R_far (p := ⟨gb346, 4, none⟩) (Kd.R_far (p := ⟨gb346, 3, none⟩) (Kd.R_far (p := ⟨gb346, 2, none⟩) (Kd.R_far (p := ⟨gb346, 1, none⟩) (Kd.R_far (p := ⟨gb346, 0, none⟩) (Kd.R_types HO339.out BK346.out (by decide)) (fun _ hk => hk.2) (.int .i64 t336)) (fun _ hk => hk.2) (.slice Ao129 t337.length co129)) (fun _ hk => hk.2) (.slice Ao131 t340.length co131)) (fun _ hk => hk.2) (.int .i64 t343)) (fun _ hk => hk.2) (.int .i64 t344)) (fun _ h_ => h_.1))) : p := h
theorem t_9 {p : Prop} (h : p := by (with_reducible repeat (first | apply Kd.R_alloc | apply Kd.R_drewN | apply Kd.R_drew)); exact (Kd.R_mono (Kd.R_far (p := ⟨gb346, 4, none⟩) (Kd.R_far (p := ⟨gb346, 3, none⟩) (Kd.R_far (p := ⟨gb346, 2, none⟩) (Kd.R_far (p := ⟨gb346, 1, none⟩) (Kd.R_far (p := ⟨gb346, 0, none⟩) (Kd.R_types HO342.out BK346.out (by decide)) (fun _ hk => hk.2) (.int .i64 t336)) (fun _ hk => hk.2) (.slice Ao129 t337.length co129)) (fun _ hk => hk.2) (.slice Ao131 t340.length co131)) (fun _ hk => hk.2) (.int .i64 t343)) (fun _ hk => hk.2) (.int .i64 t344)) (fun _ h_ => h_.1))) : p := h
theorem t_a {p : Prop} (h : p := by (with_reducible repeat (first | apply Kd.R_alloc | apply Kd.R_drewN | apply Kd.R_drew)); exact (Kd.R_mono (Kd.R_far (p := ⟨gb201, 4, none⟩) (Kd.R_far (p := ⟨gb201, 3, none⟩) (Kd.R_far (p := ⟨gb201, 2, none⟩) (Kd.R_far (p := ⟨gb201, 1, none⟩) (Kd.R_far (p := ⟨gb201, 0, none⟩) (Kd.R_types HO193.out BK201.out (by decide)) (fun _ hk => hk.2) (.int .i64 t190)) (fun _ hk => hk.2) (.slice Ao26 t191.length co26)) (fun _ hk => hk.2) (.slice Ao27 t194.length co27)) (fun _ hk => hk.2) (.int .i64 t197)) (fun _ hk => hk.2) (.int .i64 t198)) (fun _ h_ => h_.1))) : p := h
theorem t_b {p : Prop} (h : p := by (with_reducible repeat (first | apply Kd.R_alloc | apply Kd.R_drewN | apply Kd.R_drew)); exact (Kd.R_mono (Kd.R_far (p := ⟨gb201, 4, none⟩) (Kd.R_far (p := ⟨gb201, 3, none⟩) (Kd.R_far (p := ⟨gb201, 2, none⟩) (Kd.R_far (p := ⟨gb201, 1, none⟩) (Kd.R_far (p := ⟨gb201, 0, none⟩) (Kd.R_types HO196.out BK201.out (by decide)) (fun _ hk => hk.2) (.int .i64 t190)) (fun _ hk => hk.2) (.slice Ao26 t191.length co26)) (fun _ hk => hk.2) (.slice Ao27 t194.length co27)) (fun _ hk => hk.2) (.int .i64 t197)) (fun _ hk => hk.2) (.int .i64 t198)) (fun _ h_ => h_.1))) : p := h
theorem t_c {p : Prop} (h : p := by (with_reducible repeat (first | apply Kd.V_alloc | apply Kd.V_drewN | apply Kd.V_drew)); exact Kd.V_mono HO255.out (fun _ hk => ⟨hk.1.1.1.1, ⟨hk.1.1.1.2.1, ⟨hk.1.1.1.2.2.1, ⟨hk.1.1.1.2.2.2.1, ⟨hk.1.1.1.2.2.2.2.1, ⟨hk.1.1.1.2.2.2.2.2.1, ⟨hk.1.1.1.2.2.2.2.2.2.1, ⟨hk.1.1.1.2.2.2.2.2.2.2.1, ⟨hk.1.2, ⟨hk.2, ⟨hk.1.1.1.2.2.2.2.2.2.2.2.1, ⟨hk.1.1.1.2.2.2.2.2.2.2.2.2.1, ⟨hk.1.1.1.2.2.2.2.2.2.2.2.2.2.1, ⟨hk.1.1.1.2.2.2.2.2.2.2.2.2.2.2.1, ⟨hk.1.1.1.2.2.2.2.2.2.2.2.2.2.2.2.1, ⟨hk.1.1.1.2.2.2.2.2.2.2.2.2.2.2.2.2, hk.1.1.2⟩⟩⟩⟩⟩⟩⟩⟩⟩⟩⟩⟩⟩⟩⟩⟩)) : p := h
theorem t_d {p : Prop} (h : p := by (with_reducible repeat (first | apply Kd.V_alloc | apply Kd.V_drewN | apply Kd.V_drew)); exact Kd.V_mono HO304.out (fun _ hk => ⟨hk.1.1.1.1, ⟨hk.1.1.1.2.1, ⟨hk.1.1.1.2.2.1, ⟨hk.1.1.1.2.2.2.1, ⟨hk.1.1.1.2.2.2.2.1, ⟨hk.1.1.1.2.2.2.2.2.1, ⟨hk.1.1.1.2.2.2.2.2.2.1, ⟨hk.1.1.1.2.2.2.2.2.2.2.1, ⟨hk.1.2, ⟨hk.2, ⟨hk.1.1.1.2.2.2.2.2.2.2.2.1, ⟨hk.1.1.1.2.2.2.2.2.2.2.2.2.1, ⟨hk.1.1.1.2.2.2.2.2.2.2.2.2.2.1, ⟨hk.1.1.1.2.2.2.2.2.2.2.2.2.2.2.1, ⟨hk.1.1.1.2.2.2.2.2.2.2.2.2.2.2.2.1, ⟨hk.1.1.1.2.2.2.2.2.2.2.2.2.2.2.2.2, hk.1.1.2⟩⟩⟩⟩⟩⟩⟩⟩⟩⟩⟩⟩⟩⟩⟩⟩)) : p := h
theorem t_e {p : Prop} (h : p := by (with_reducible repeat (first | apply Kd.V_alloc | apply Kd.V_drewN | apply Kd.V_drew)); exact Kd.V_mono HO255.out (fun _ hk => ⟨hk.1.1.1.1.1, ⟨hk.1.1.1.1.2.1, ⟨hk.1.1.1.1.2.2.1, ⟨hk.1.1.1.1.2.2.2.1, ⟨hk.1.1.1.1.2.2.2.2.1, ⟨hk.1.1.1.2, ⟨hk.1.2, ⟨hk.2, ⟨hk.1.1.1.1.2.2.2.2.2.1, ⟨hk.1.1.1.1.2.2.2.2.2.2.1, ⟨hk.1.1.1.1.2.2.2.2.2.2.2.1, ⟨hk.1.1.1.1.2.2.2.2.2.2.2.2.1, ⟨hk.1.1.1.1.2.2.2.2.2.2.2.2.2, hk.1.1.2⟩⟩⟩⟩⟩⟩⟩⟩⟩⟩⟩⟩⟩)) : p := h
theorem t_f {p : Prop} (h : p := by (with_reducible repeat (first | apply Kd.V_alloc | apply Kd.V_drewN | apply Kd.V_drew)); exact Kd.V_mono HO304.out (fun _ hk => ⟨hk.1.1.1.2.1, ⟨hk.1.1.1.2.2.1, ⟨hk.1.1.1.2.2.2.1, ⟨hk.1.1.1.2.2.2.2.1, ⟨hk.1.1.1.2.2.2.2.2.1, ⟨hk.1.1.1.1, ⟨hk.1.2, ⟨hk.2, ⟨hk.1.1.1.2.2.2.2.2.2.1, ⟨hk.1.1.1.2.2.2.2.2.2.2.1, ⟨hk.1.1.1.2.2.2.2.2.2.2.2.1, ⟨hk.1.1.1.2.2.2.2.2.2.2.2.2.1, ⟨hk.1.1.1.2.2.2.2.2.2.2.2.2.2, hk.1.1.2⟩⟩⟩⟩⟩⟩⟩⟩⟩⟩⟩⟩⟩)) : p := h
theorem t_10 {p : Prop} (h : p := by repeat (first | (with_reducible first | exact HB.out | apply below_alloc | apply pw_below_drewN | apply below_drew1 | refine below_set ?_ GE239.out | refine below_set ?_ GE240.out | refine below_set ?_ GE241.out | refine below_set ?_ GE277.out | refine below_set ?_ GE297.out | refine below_set ?_ GE326.out | refine below_set ?_ GE346.out) | exact HB.out)) : p := h
theorem t_11 {p : Prop} (h : p := by repeat (first | (with_reducible first | exact HB.out | apply below_alloc | apply pw_below_drewN | apply below_drew1 | refine below_set ?_ GE239.out | refine below_set ?_ GE240.out | refine below_set ?_ GE241.out | refine below_set ?_ GE277.out | refine below_set ?_ GE297.out | refine below_set ?_ GE326.out) | exact HB.out)) : p := h
theorem t_12 {p : Prop} (h : p := by (with_reducible repeat (first | apply Kd.V_alloc | apply Kd.V_drewN | apply Kd.V_drew)); exact Kd.V_mono HO255.out (fun _ hk => ⟨hk.1.1.1.1, ⟨hk.1.1.1.2.1, ⟨hk.1.1.1.2.2.1, ⟨hk.1.2, ⟨hk.2, ⟨hk.1.1.1.2.2.2.1, ⟨hk.1.1.1.2.2.2.2.1, ⟨hk.1.1.1.2.2.2.2.2.1, ⟨hk.1.1.1.2.2.2.2.2.2, hk.1.1.2⟩⟩⟩⟩⟩⟩⟩⟩⟩)) : p := h
theorem t_13 {p : Prop} (h : p := by repeat (first | (with_reducible first | exact HB.out | apply below_alloc | apply pw_below_drewN | apply below_drew1 | refine below_set ?_ GE239.out | refine below_set ?_ GE240.out | refine below_set ?_ GE241.out | refine below_set ?_ GE277.out | refine below_set ?_ GE297.out) | exact HB.out)) : p := h
theorem t_14 {p : Prop} (h : p := by repeat (first | (with_reducible first | exact HB.out | apply below_alloc | apply pw_below_drewN | apply below_drew1 | refine below_set ?_ GE221.out | refine below_set ?_ GE222.out | refine below_set ?_ GE223.out | refine below_set ?_ GE225.out) | exact HB.out)) : p := h
theorem t_15 {p : Prop} (h : p := by repeat (first | (with_reducible first | exact HB.out | apply below_alloc | apply pw_below_drewN | apply below_drew1 | refine below_set ?_ GE239.out | refine below_set ?_ GE240.out | refine below_set ?_ GE241.out | refine below_set ?_ GE277.out) | exact HB.out)) : p := h
theorem t_16 {p : Prop} (h : p := by (with_reducible repeat (first | refine blk_drewN ?_ _ | refine blk_drew ?_ | refine blk_alloc ?_ _)); apply put4; (with_reducible repeat (first | refine blk_drewN ?_ _ | refine blk_drew ?_ | refine blk_alloc ?_ _)); exact BK107.out) : p := h
theorem t_17 {p : Prop} (h : p := by (with_reducible repeat (first | refine blk_drewN ?_ _ | refine blk_drew ?_ | refine blk_alloc ?_ _)); apply put5; (with_reducible repeat (first | refine blk_drewN ?_ _ | refine blk_drew ?_ | refine blk_alloc ?_ _)); exact BK157.out) : p := h
theorem t_18 {p : Prop} (h : p := by (with_reducible repeat (first | refine blk_drewN ?_ _ | refine blk_drew ?_ | refine blk_alloc ?_ _)); apply put9; (with_reducible repeat (first | refine blk_drewN ?_ _ | refine blk_drew ?_ | refine blk_alloc ?_ _)); exact BK169.out) : p := h
theorem t_19 {p : Prop} (h : p := by (with_reducible repeat (first | refine blk_drewN ?_ _ | refine blk_drew ?_ | refine blk_alloc ?_ _)); apply put5; (with_reducible repeat (first | refine blk_drewN ?_ _ | refine blk_drew ?_ | refine blk_alloc ?_ _)); exact BK210.out) : p := h
theorem t_1a {p : Prop} (h : p := by repeat (first | (with_reducible first | exact HB.out | apply below_alloc | apply pw_below_drewN | apply below_drew1 | refine below_set ?_ GE221.out | refine below_set ?_ GE222.out | refine below_set ?_ GE223.out) | exact HB.out)) : p := h
theorem t_1b {p : Prop} (h : p := by repeat (first | (with_reducible first | exact HB.out | apply below_alloc | apply pw_below_drewN | apply below_drew1 | refine below_set ?_ GE239.out | refine below_set ?_ GE240.out | refine below_set ?_ GE241.out) | exact HB.out)) : p := h
theorem t_1c {p : Prop} (h : p := by (with_reducible repeat (first | apply Kd.V_alloc | apply Kd.V_drewN | apply Kd.V_drew)); exact Kd.V_mono HO255.out (fun _ hk => ⟨hk.1.1.1.1, ⟨hk.1.2, ⟨hk.2, ⟨hk.1.1.1.2.1, ⟨hk.1.1.1.2.2.1, ⟨hk.1.1.1.2.2.2, hk.1.1.2⟩⟩⟩⟩⟩⟩)) : p := h
theorem t_1d {p : Prop} (h : p := by repeat (first | (with_reducible first | exact HB.out | apply below_alloc | apply pw_below_drewN | apply below_drew1 | refine below_set ?_ GE157.out | refine below_set ?_ GE169.out) | exact HB.out)) : p := h
theorem t_1e {p : Prop} (h : p := by repeat (first | (with_reducible first | exact HB.out | apply below_alloc | apply pw_below_drewN | apply below_drew1 | refine below_set ?_ GE180.out | refine below_set ?_ GE182.out) | exact HB.out)) : p := h
theorem t_1f {p : Prop} (h : p := by repeat (first | (with_reducible first | exact HB.out | apply below_alloc | apply pw_below_drewN | apply below_drew1 | refine below_set ?_ GE183.out | refine below_set ?_ GE201.out) | exact HB.out)) : p := h
theorem t_20 {p : Prop} (h : p := by repeat (first | (with_reducible first | exact HB.out | apply below_alloc | apply pw_below_drewN | apply below_drew1 | refine below_set ?_ GE208.out | refine below_set ?_ GE210.out) | exact HB.out)) : p := h
theorem t_21 {p : Prop} (h : p := by repeat (first | (with_reducible first | exact HB.out | apply below_alloc | apply pw_below_drewN | apply below_drew1 | refine below_set ?_ GE221.out | refine below_set ?_ GE222.out) | exact HB.out)) : p := h
theorem t_22 {p : Prop} (h : p := by repeat (first | (with_reducible first | exact HB.out | apply below_alloc | apply pw_below_drewN | apply below_drew1 | refine below_set ?_ GE235.out | refine below_set ?_ GE236.out) | exact HB.out)) : p := h
theorem t_23 {p : Prop} (h : p := by repeat (first | (with_reducible first | exact HB.out | apply below_alloc | apply pw_below_drewN | apply below_drew1 | refine below_set ?_ GE239.out | refine below_set ?_ GE240.out) | exact HB.out)) : p := h
theorem t_24 {p : Prop} (h : p := by (with_reducible repeat (first | apply Kd.R_alloc | apply Kd.R_drewN | apply Kd.R_drew)); exact Kd.R_mono HO339.out (fun _ hk => ⟨hk.1.1.1.1.2, ⟨hk.1.1.1.2, ⟨hk.1.1.2, ⟨hk.1.2, hk.2⟩⟩⟩⟩)) : p := h
theorem t_25 {p : Prop} (h : p := by (with_reducible repeat (first | apply Kd.R_alloc | apply Kd.R_drewN | apply Kd.R_drew)); exact Kd.R_mono HO252.out (fun _ hk => ⟨hk.1.1, ⟨hk.1.2.1, ⟨hk.1.2.2.1, ⟨hk.1.2.2.2, hk.2⟩⟩⟩⟩)) : p := h
theorem t_26 {p : Prop} (h : p := by (with_reducible repeat (first | apply Kd.R_alloc | apply Kd.R_drewN | apply Kd.R_drew)); exact Kd.R_mono HO270.out (fun _ hk => ⟨hk.1.1, ⟨hk.1.2.1, ⟨hk.1.2.2.1, ⟨hk.1.2.2.2, hk.2⟩⟩⟩⟩)) : p := h
theorem t_27 {p : Prop} (h : p := by (with_reducible repeat (first | apply Kd.R_alloc | apply Kd.R_drewN | apply Kd.R_drew)); exact Kd.R_mono HO290.out (fun _ hk => ⟨hk.1.1, ⟨hk.1.2.1, ⟨hk.1.2.2.1, ⟨hk.1.2.2.2, hk.2⟩⟩⟩⟩)) : p := h
theorem t_28 {p : Prop} (h : p := by (with_reducible repeat (first | apply Kd.R_alloc | apply Kd.R_drewN | apply Kd.R_drew)); exact Kd.R_mono HO301.out (fun _ hk => ⟨hk.1.1, ⟨hk.1.2.1, ⟨hk.1.2.2.1, ⟨hk.1.2.2.2, hk.2⟩⟩⟩⟩)) : p := h
theorem t_29 {p : Prop} (h : p := by (with_reducible repeat (first | apply Kd.R_alloc | apply Kd.R_drewN | apply Kd.R_drew)); exact Kd.R_mono HO319.out (fun _ hk => ⟨hk.1.1, ⟨hk.1.2.1, ⟨hk.1.2.2.1, ⟨hk.1.2.2.2, hk.2⟩⟩⟩⟩)) : p := h
theorem t_2a {p : Prop} (h : p := by (with_reducible repeat (first | apply Kd.R_alloc | apply Kd.R_drewN | apply Kd.R_drew)); exact Kd.R_mono HO301.out (fun _ hk => ⟨hk.1.1.1.2, ⟨hk.1.1.2, ⟨hk.1.2, hk.2⟩⟩⟩)) : p := h
theorem t_2b {p : Prop} (h : p := by (with_reducible repeat (first | apply Kd.R_alloc | apply Kd.R_drewN | apply Kd.R_drew)); exact Kd.R_mono HO319.out (fun _ hk => ⟨hk.1.1.1.2, ⟨hk.1.1.2, ⟨hk.1.2, hk.2⟩⟩⟩)) : p := h
theorem t_2c {p : Prop} (h : p := by (with_reducible repeat (first | apply Kd.R_alloc | apply Kd.R_drewN | apply Kd.R_drew)); exact Kd.R_mono HO252.out (fun _ hk => ⟨hk.1.1.1, ⟨hk.1.1.2, ⟨hk.1.2, hk.2⟩⟩⟩)) : p := h
theorem t_2d {p : Prop} (h : p := by (with_reducible repeat (first | apply Kd.R_alloc | apply Kd.R_drewN | apply Kd.R_drew)); exact Kd.R_mono HO270.out (fun _ hk => ⟨hk.1.1.1, ⟨hk.1.1.2, ⟨hk.1.2, hk.2⟩⟩⟩)) : p := h
theorem t_2e {p : Prop} (h : p := by (with_reducible repeat (first | apply Kd.R_alloc | apply Kd.R_drewN | apply Kd.R_drew)); exact Kd.R_mono HO290.out (fun _ hk => ⟨hk.1.1.1, ⟨hk.1.1.2, ⟨hk.1.2, hk.2⟩⟩⟩)) : p := h
theorem t_2f {p : Prop} (h : p := by repeat (first | (with_reducible first | exact HB.out | apply below_alloc | apply pw_below_drewN | apply below_drew1 | refine below_set ?_ GE103.out) | exact HB.out)) : p := h
theorem t_30 {p : Prop} (h : p := by repeat (first | (with_reducible first | exact HB.out | apply below_alloc | apply pw_below_drewN | apply below_drew1 | refine below_set ?_ GE110.out) | exact HB.out)) : p := h
theorem t_31 {p : Prop} (h : p := by repeat (first | (with_reducible first | exact HB.out | apply below_alloc | apply pw_below_drewN | apply below_drew1 | refine below_set ?_ GE114.out) | exact HB.out)) : p := h
theorem t_32 {p : Prop} (h : p := by repeat (first | (with_reducible first | exact HB.out | apply below_alloc | apply pw_below_drewN | apply below_drew1 | refine below_set ?_ GE107.out) | exact HB.out)) : p := h
theorem t_33 {p : Prop} (h : p := by repeat (first | (with_reducible first | exact HB.out | apply below_alloc | apply pw_below_drewN | apply below_drew1 | refine below_set ?_ GE125.out) | exact HB.out)) : p := h
theorem t_34 {p : Prop} (h : p := by repeat (first | (with_reducible first | exact HB.out | apply below_alloc | apply pw_below_drewN | apply below_drew1 | refine below_set ?_ GE119.out) | exact HB.out)) : p := h
theorem t_35 {p : Prop} (h : p := by repeat (first | (with_reducible first | exact HB.out | apply below_alloc | apply pw_below_drewN | apply below_drew1 | refine below_set ?_ GE157.out) | exact HB.out)) : p := h
theorem t_36 {p : Prop} (h : p := by repeat (first | (with_reducible first | exact HB.out | apply below_alloc | apply pw_below_drewN | apply below_drew1 | refine below_set ?_ GE180.out) | exact HB.out)) : p := h
theorem t_37 {p : Prop} (h : p := by repeat (first | (with_reducible first | exact HB.out | apply below_alloc | apply pw_below_drewN | apply below_drew1 | refine below_set ?_ GE183.out) | exact HB.out)) : p := h
theorem t_38 {p : Prop} (h : p := by repeat (first | (with_reducible first | exact HB.out | apply below_alloc | apply pw_below_drewN | apply below_drew1 | refine below_set ?_ GE208.out) | exact HB.out)) : p := h
theorem t_39 {p : Prop} (h : p := by repeat (first | (with_reducible first | exact HB.out | apply below_alloc | apply pw_below_drewN | apply below_drew1 | refine below_set ?_ GE221.out) | exact HB.out)) : p := h
theorem t_3a {p : Prop} (h : p := by repeat (first | (with_reducible first | exact HB.out | apply below_alloc | apply pw_below_drewN | apply below_drew1 | refine below_set ?_ GE229.out) | exact HB.out)) : p := h
theorem t_3b {p : Prop} (h : p := by repeat (first | (with_reducible first | exact HB.out | apply below_alloc | apply pw_below_drewN | apply below_drew1 | refine below_set ?_ GE235.out) | exact HB.out)) : p := h
theorem t_3c {p : Prop} (h : p := by repeat (first | (with_reducible first | exact HB.out | apply below_alloc | apply pw_below_drewN | apply below_drew1 | refine below_set ?_ GE239.out) | exact HB.out)) : p := h
theorem t_3d {p : Prop} (h : p := by repeat (first | (with_reducible first | exact BW3.out | apply below_alloc | apply pw_below_drewN | apply below_drew1 | refine below_set ?_ GR.out) | exact BW3.out)) : p := h
theorem t_3e {p : Prop} (h : p := by (with_reducible repeat (first | apply Kd.R_alloc | apply Kd.R_drewN | apply Kd.R_drew)); exact Kd.R_mono HO342.out (fun _ hk => ⟨hk.1.1.2, ⟨hk.1.2, hk.2⟩⟩)) : p := h
theorem t_3f {p : Prop} (h : p := by (with_reducible repeat (first | apply Kd.R_alloc | apply Kd.R_drewN | apply Kd.R_drew)); exact Kd.R_mono HO273.out (fun _ hk => ⟨hk.1.1, ⟨hk.1.2, hk.2⟩⟩)) : p := h
theorem t_40 {p : Prop} (h : p := by (with_reducible repeat (first | apply Kd.R_alloc | apply Kd.R_drewN | apply Kd.R_drew)); exact Kd.R_mono HO293.out (fun _ hk => ⟨hk.1.1, ⟨hk.1.2, hk.2⟩⟩)) : p := h
theorem t_41 {p : Prop} (h : p := by (with_reducible repeat (first | apply Kd.R_alloc | apply Kd.R_drewN | apply Kd.R_drew)); exact Kd.R_mono HO322.out (fun _ hk => ⟨hk.1.1, ⟨hk.1.2, hk.2⟩⟩)) : p := h
theorem t_42 {p : Prop} (h : p := by (with_reducible repeat (first | apply Kd.R_alloc | apply Kd.R_drewN | apply Kd.R_drew)); exact Kd.R_mono HO290.out (fun _ hk => ⟨hk.1.2, hk.2⟩)) : p := h
theorem t_43 {p : Prop} (h : p := by (with_reducible repeat (first | apply Kd.R_alloc | apply Kd.R_drewN | apply Kd.R_drew)); exact Kd.R_mono HO322.out (fun _ hk => ⟨hk.1.2, hk.2⟩)) : p := h
theorem t_44 {p : Prop} (h : p := by first | exact Kd.R_nil _ _ _ _ _ | exact Kd.N_nil _ _ _ _ _ | exact Kd.V_nil _ _ _ _ _ | exact Kd.Q_nil _ _ _ _ _ | exact Kd.S_nil _ _ _ _ _) : p := h
theorem t_45 {p : Prop} (h : p := by (try simp only [List.map_toArray, List.map_cons, List.map_nil]); first | done | rfl | (simp only [List.length_drop, List.length_take]; rfl)) : p := h
theorem t_46 {p : Prop} (h : p := by show Act.put _ (some 13) _ = _; simp only [Act.put, List.setIfInBounds_toArray, List.set_cons_zero, List.set_cons_succ, i64_w, i32_w]; rfl) : p := h
theorem t_47 {p : Prop} (h : p := by show Act.put _ (some 19) _ = _; simp only [Act.put, List.setIfInBounds_toArray, List.set_cons_zero, List.set_cons_succ, i64_w, i32_w]; rfl) : p := h
theorem t_48 {p : Prop} (h : p := by show Act.put _ (some 33) _ = _; simp only [Act.put, List.setIfInBounds_toArray, List.set_cons_zero, List.set_cons_succ, i64_w, i32_w]; rfl) : p := h
theorem t_49 {p : Prop} (h : p := by show Act.put _ (some 22) _ = _; simp only [Act.put, List.setIfInBounds_toArray, List.set_cons_zero, List.set_cons_succ, i64_w, i32_w]; rfl) : p := h
theorem t_4a {p : Prop} (h : p := by show Act.put _ (some 28) _ = _; simp only [Act.put, List.setIfInBounds_toArray, List.set_cons_zero, List.set_cons_succ, i64_w, i32_w]; rfl) : p := h
theorem t_4b {p : Prop} (h : p := by show Act.put _ (some 63) _ = _; simp only [Act.put, List.setIfInBounds_toArray, List.set_cons_zero, List.set_cons_succ, i64_w, i32_w]; rfl) : p := h
theorem t_4c {p : Prop} (h : p := by show Act.put _ (some 64) _ = _; simp only [Act.put, List.setIfInBounds_toArray, List.set_cons_zero, List.set_cons_succ, i64_w, i32_w]; rfl) : p := h
theorem t_4d {p : Prop} (h : p := by show Act.put _ (some 36) _ = _; simp only [Act.put, List.setIfInBounds_toArray, List.set_cons_zero, List.set_cons_succ, i64_w, i32_w]; rfl) : p := h
theorem t_4e {p : Prop} (h : p := by show Act.put _ (some 54) _ = _; simp only [Act.put, List.setIfInBounds_toArray, List.set_cons_zero, List.set_cons_succ, i64_w, i32_w]; rfl) : p := h
theorem t_4f {p : Prop} (h : p := by show Act.put _ (some 56) _ = _; simp only [Act.put, List.setIfInBounds_toArray, List.set_cons_zero, List.set_cons_succ, i64_w, i32_w]; rfl) : p := h
theorem t_50 {p : Prop} (h : p := by show Act.put _ (some 57) _ = _; simp only [Act.put, List.setIfInBounds_toArray, List.set_cons_zero, List.set_cons_succ, i64_w, i32_w]; rfl) : p := h
theorem t_51 {p : Prop} (h : p := by show Act.put _ (some 69) _ = _; simp only [Act.put, List.setIfInBounds_toArray, List.set_cons_zero, List.set_cons_succ, i64_w, i32_w]; rfl) : p := h
theorem t_52 {p : Prop} (h : p := by show Act.put _ (some 71) _ = _; simp only [Act.put, List.setIfInBounds_toArray, List.set_cons_zero, List.set_cons_succ, i64_w, i32_w]; rfl) : p := h
theorem t_53 {p : Prop} (h : p := by show Act.put _ (some 72) _ = _; simp only [Act.put, List.setIfInBounds_toArray, List.set_cons_zero, List.set_cons_succ, i64_w, i32_w]; rfl) : p := h
theorem t_54 {p : Prop} (h : p := by show Act.put _ (some 11) _ = _; simp only [Act.put, List.setIfInBounds_toArray, List.set_cons_zero, List.set_cons_succ, i64_w, i32_w]; rfl) : p := h
theorem t_55 {p : Prop} (h : p := by show Act.put _ (some 78) _ = _; simp only [Act.put, List.setIfInBounds_toArray, List.set_cons_zero, List.set_cons_succ, i64_w, i32_w]; rfl) : p := h
theorem t_56 {p : Prop} (h : p := by show Act.put _ (some 79) _ = _; simp only [Act.put, List.setIfInBounds_toArray, List.set_cons_zero, List.set_cons_succ, i64_w, i32_w]; rfl) : p := h
theorem t_57 {p : Prop} (h : p := by show Act.put _ (some 5) _ = _; simp only [Act.put, List.setIfInBounds_toArray, List.set_cons_zero, List.set_cons_succ, i64_w, i32_w]; rfl) : p := h
theorem t_58 {p : Prop} (h : p := by show Act.put _ (some 7) _ = _; simp only [Act.put, List.setIfInBounds_toArray, List.set_cons_zero, List.set_cons_succ, i64_w, i32_w]; rfl) : p := h
theorem t_59 {p : Prop} (h : p := by show Act.put _ (some 6) _ = _; simp only [Act.put, List.setIfInBounds_toArray, List.set_cons_zero, List.set_cons_succ, i64_w, i32_w]; rfl) : p := h
theorem t_5a {p : Prop} (h : p := by show Act.put _ (some 9) _ = _; simp only [Act.put, List.setIfInBounds_toArray, List.set_cons_zero, List.set_cons_succ, i64_w, i32_w]; rfl) : p := h
theorem t_5b {p : Prop} (h : p := by (with_reducible repeat (first | apply Kd.R_alloc | apply Kd.R_drewN | apply Kd.R_drew)); exact Kd.R_mono HO252.out (fun _ hk => hk.2)) : p := h
theorem t_5c {p : Prop} (h : p := by (with_reducible repeat (first | apply Kd.R_alloc | apply Kd.R_drewN | apply Kd.R_drew)); exact Kd.R_mono HO270.out (fun _ hk => hk.2)) : p := h
theorem t_5d {p : Prop} (h : p := by (with_reducible repeat (first | apply Kd.R_alloc | apply Kd.R_drewN | apply Kd.R_drew)); exact Kd.R_mono HO273.out (fun _ hk => hk.2)) : p := h
theorem t_5e {p : Prop} (h : p := by (with_reducible repeat (first | apply Kd.R_alloc | apply Kd.R_drewN | apply Kd.R_drew)); exact Kd.R_mono HO293.out (fun _ hk => hk.2)) : p := h
theorem t_5f {p : Prop} (h : p := by first | (rw [add_block]; exact hn211_0) | (show (Addr.add _ _).block ≠ _; rw [add_block]; exact hn211_0) | exact hn211_0) : p := h
theorem t_60 {p : Prop} (h : p := by (with_reducible repeat (first | refine blk_drewN ?_ _ | refine blk_drew ?_ | refine blk_alloc ?_ _)); exact BK125.out) : p := h
theorem t_61 {p : Prop} (h : p := by (with_reducible repeat (first | refine blk_drewN ?_ _ | refine blk_drew ?_ | refine blk_alloc ?_ _)); exact BK119.out) : p := h
theorem t_62 {p : Prop} (h : p := by (with_reducible repeat (first | refine blk_drewN ?_ _ | refine blk_drew ?_ | refine blk_alloc ?_ _)); exact BK208.out) : p := h
theorem t_63 {p : Prop} (h : p := by (with_reducible repeat (first | refine blk_drewN ?_ _ | refine blk_drew ?_ | refine blk_alloc ?_ _)); exact BK239.out) : p := h
theorem t_64 {p : Prop} (h : p := by (with_reducible repeat (first | refine blk_drewN ?_ _ | refine blk_drew ?_ | refine blk_alloc ?_ _)); exact BK240.out) : p := h
theorem t_65 {p : Prop} (h : p := by (with_reducible repeat (first | refine blk_drewN ?_ _ | refine blk_drew ?_ | refine blk_alloc ?_ _)); exact BK241.out) : p := h
theorem t_66 {p : Prop} (h : p := by rintro w' ⟨s0, s1, s2, s3, s4, s5, s6, s7, s8, s9, s10, s11, s12, s13⟩; go_simp; with_reducible rfl) : p := h
theorem t_67 {p : Prop} (h : p := by simp only [putAll, Act.put, List.setIfInBounds_toArray, List.set_cons_zero, List.set_cons_succ]) : p := h
theorem t_68 {p : Prop} (h : p := by first | rfl | (simp [errW_none, errW_some] <;> rfl) | (simp [*, errW_none, errW_some] <;> rfl)) : p := h
theorem t_69 {p : Prop} (h : p := by have := World.block_lt_of_cell? _ _ hx211_0; first | rwa [add_block] at this | exact this) : p := h
theorem t_6a {p : Prop} (h : p := by rintro w' ⟨s0, s1, s2, s3, s4, s5, s6, s7⟩; go_simp; with_reducible rfl) : p := h
theorem t_6b {p : Prop} (h : p := by have := HJ2.out; have := HJ18.out; first | omega | exact Nat.le_refl _) : p := h
theorem t_6c {p : Prop} (h : p := by have := HJ2.out; have := HJ16.out; first | omega | exact Nat.le_refl _) : p := h
theorem t_6d {p : Prop} (h : p := by rintro w' ⟨s0, s1, s2, s3, s4, s5, s6⟩; go_simp; with_reducible rfl) : p := h
theorem t_6e {p : Prop} (h : p := by simp only [List.map_toArray, List.map_cons, List.map_nil]; rfl) : p := h
theorem t_70 {p : Prop} (h : p := by simp only [List.length_take, Array.length_toList, hs]; omega) : p := h
theorem t_71 {p : Prop} (h : p := by rintro w' ⟨s0, s1, s2, s3, s4⟩; go_simp; with_reducible rfl) : p := h
theorem t_72 {p : Prop} (h : p := by repeat (first | exact Drawn0.refl _ | apply Drawn0.step)) : p := h
theorem t_73 {p : Prop} (h : p := by rintro w' ⟨s0, s1, s2, s3⟩; go_simp; with_reducible rfl) : p := h
theorem t_74 {p : Prop} (h : p := by have := HK1.out; first | omega | exact Nat.le_refl _) : p := h
theorem t_75 {p : Prop} (h : p := by rw [← add_field _ _ 1 (by omega)]; exact hc 1 _ rfl) : p := h
theorem t_76 {p : Prop} (h : p := by rw [← add_field _ _ 2 (by omega)]; exact hc 2 _ rfl) : p := h
theorem t_77 {p : Prop} (h : p := by rw [← add_field _ _ 3 (by omega)]; exact hc 3 _ rfl) : p := h
theorem t_78 {p : Prop} (h : p := by rw [← add_field _ _ 4 (by omega)]; exact hc 4 _ rfl) : p := h
theorem t_79 {p : Prop} (h : p := by rw [← add_field _ _ 5 (by omega)]; exact hc 5 _ rfl) : p := h
theorem t_7a {p : Prop} (h : p := by rw [← add_field _ _ 6 (by omega)]; exact hc 6 _ rfl) : p := h
theorem t_7b {p : Prop} (h : p := by rw [← add_field _ _ 7 (by omega)]; exact hc 7 _ rfl) : p := h
theorem t_7c {p : Prop} (h : p := by rw [← add_field _ _ 8 (by omega)]; exact hc 8 _ rfl) : p := h
theorem t_7d {p : Prop} (h : p := by first | (with_reducible assumption) | assumption) : p := h
theorem t_7e {p : Prop} (h : p := by rintro w' ⟨s0, s1⟩; go_simp; with_reducible rfl) : p := h
theorem t_7f {p : Prop} (h : p := by first | rfl | (simp; done) | (simp [*]; done)) : p := h
theorem t_80 {p : Prop} (h : p := by rw [cells4_len, List.length_take]; omega) : p := h
theorem t_81 {p : Prop} (h : p := by rw [cellsI_len, List.length_take]; omega) : p := h
theorem t_82 {p : Prop} (h : p := by first | decide | (show _ ≤ 13; simp)) : p := h
theorem t_84 {p : Prop} (h : p := by first | omega | exact Nat.le_refl _) : p := h
theorem t_85 {p : Prop} (h : p := by rw [hgr]; exact BW.out.size) : p := h
theorem t_86 {p : Prop} (h : p := by simp [Act.eval, Act.put]) : p := h
theorem t_87 {p : Prop} (h : p := by have := HK1.out; omega) : p := h
theorem t_88 {p : Prop} (h : p := by simp [Value.oneCell']) : p := h
theorem t_89 {p : Prop} (h : p := by simp [World.setRow]) : p := h
theorem t_8b {p : Prop} (h : p := by simpa using h) : p := h
theorem t_8c {p : Prop} (h : p := by go_simp; rfl) : p := h
theorem t_8d {p : Prop} (h : p := by injection e) : p := h
theorem t_8e {p : Prop} (h : p := by kernel_rfl) : p := h
end Go.Proofs.Ytndbchcfjajgbaa.XB
