/- A body and a ray, as data. -/
import Derived.Test.YtbgdfikfldkjbaaPT
import Derived.Test.YtbgdfikfldkjbaaNL
import Derived.WalkKit
import Derived.ProofKit
import Derived.OpenShut
import Derived.ChangeOld
import Derived.Below
import Derived.SizedLaws
namespace Go.Proofs.Ytbgdfikfldkjbaa.AI
set_option linter.unnecessarySimpa false
open Go Go.ChangeShapes Go.WideShapes Go.ChangeAt Go.RowKit
set_option linter.unusedSimpArgs false
theorem o3 : OpensN Try.prog 3 (Try.prog.cellsOf 3) := by
  rw [show Try.prog.cellsOf 3 = 1 by kernel_rfl]
  exact opensN_int Try.underlying3
theorem o25 : OpensN Try.prog 25 2 := opensN_struct Try.underlying25 (by kernel_rfl) (by kernel_rfl) fun f hf => by
  simp only [List.mem_cons, List.not_mem_nil, or_false] at hf
  rcases hf with rfl | rfl
  · exact o3
  · exact o3
theorem o25' : OpensN Try.prog 25 (Try.prog.cellsOf 25) := by
  rw [show Try.prog.cellsOf 25 = 2 by kernel_rfl]
  exact o25
theorem o29 : OpensN Try.prog 29 6 := opensN_struct Try.underlying29 (by kernel_rfl) (by kernel_rfl) fun f hf => by
  simp only [List.mem_cons, List.not_mem_nil, or_false] at hf
  rcases hf with rfl | rfl | rfl
  · exact o25'
  · exact o25'
  · exact o25'
theorem o29' : OpensN Try.prog 29 (Try.prog.cellsOf 29) := by
  rw [show Try.prog.cellsOf 29 = 6 by kernel_rfl]
  exact o29
theorem o31 : OpensN Try.prog 31 12 := opensN_struct Try.underlying31 (by kernel_rfl) (by kernel_rfl) fun f hf => by
  simp only [List.mem_cons, List.not_mem_nil, or_false] at hf
  rcases hf with rfl | rfl
  · exact o29'
  · exact o29'
/-- A ray, as data. -/
theorem o31_ray {l : List Int} (h : l.length = 12) : ∃ r : Ray, l.map (.int .i64) = (rayC r).map (C.den fun _ => ri0) := by
  match l, h with
  | [a, b, c, d, e, f, a', b', c', d', e', f'], _ => exact ⟨⟨⟨⟨a, b⟩, ⟨c, d⟩, ⟨e, f⟩⟩, ⟨⟨a', b'⟩, ⟨c', d'⟩, ⟨e', f'⟩⟩⟩, rfl⟩
theorem drop_take1 {α : Type} {l : List α} {i : Nat} {x : α} (h : (l.drop i).take 1 = [x]) : l[i]? = some x := by
  have := congrArg (·[0]?) h
  simpa [List.getElem?_take, List.getElem?_drop] using this
set_option maxRecDepth 100000 in
/-- A body, as data. -/
theorem o27 {H : Type} {enc : TypeId × Value → H} {w : World} {spare : Nat → Bool} {held : Bool} {fuel : Nat} {cs : List Value} {x : DataW H × List MemPlace} (h : DataW.trod enc Try.prog w 0 spare held fuel 27 cs = some x) :
    ∃ (ad ad' : Option Addr) (n m cap cap' : Nat) (v u : Nat → Nat → Int) (y : Iv), cs = (bodyA ad ad' n m cap cap' v u y).map (C.den fun _ => ri0) ∧ AI.AOk w (.as ad 6 n cap (arrC 6 v)) ∧ AI.AOk w (.as ad' 2 m cap' (arrC 2 u)) ∧ (n = 0 ∨ ∃ sp, (n + sp) * 48 ∈ x.1.weights Try.prog 27) := by
  obtain ⟨xs, k, _, hx, hl, hlen, hg⟩ := DataW.trod_struct Try.underlying27 h
  have hl4 : cs.length = 4 := by rw [hl]; kernel_rfl
  have hn3 : xs.length = 3 := by rw [hlen]; rfl
  obtain ⟨x0, x1, x2, rfl⟩ : ∃ x0 x1 x2, xs = [x0, x1, x2] := by
    match xs, hn3 with
    | [a, b, c], _ => exact ⟨a, b, c, rfl⟩
  obtain ⟨c0, c1, c2, c3, rfl⟩ : ∃ c0 c1 c2 c3, cs = [c0, c1, c2, c3] := by
    match cs, hl4 with
    | [a, b, c, d], _ => exact ⟨a, b, c, d, rfl⟩
  have g0 := hg 0 _ rfl
  have g1 := hg 1 _ rfl
  have g2 := hg 2 _ rfl
  simp only [show Try.prog.cellsOf 22 = 1 by kernel_rfl, show Try.prog.cellsOf 23 = 1 by kernel_rfl, show Try.prog.cellsOf 25 = 2 by kernel_rfl, List.drop_zero, List.take_succ_cons, List.take_zero, List.drop_succ_cons, List.getElem?_cons_zero, List.getElem?_cons_succ] at g0 g1 g2
  obtain ⟨ad, n, cap, v, e0, a0, w0⟩ := opens_as Try.underlying22 (by kernel_rfl) o29 g0
  obtain ⟨ad', m, cap', u, e1, a1, _⟩ := opens_as Try.underlying23 (by kernel_rfl) o25 g1
  obtain ⟨l, h2, e2⟩ := o25 enc w spare held k _ _ g2
  obtain ⟨lo, hi, rfl⟩ : ∃ lo hi, l = [lo, hi] := by
    match l, h2 with
    | [a, b], _ => exact ⟨a, b, rfl⟩
  injection e0 with e0
  injection e1 with e1
  simp only [List.map_cons, List.map_nil] at e2
  injection e2 with e2 e3
  injection e3 with e3
  subst e0 e1 e2 e3
  refine ⟨ad, ad', n, m, cap, cap', v, u, ⟨lo, hi⟩, rfl, a0, a1, ?_⟩
  rcases w0 with w0 | ⟨sp, w0⟩
  · exact .inl w0
  · refine .inr ⟨sp, ?_⟩
    rw [show Try.prog.bytesOf 29 = 48 by kernel_rfl] at w0
    rw [hx]
    simp only [DataW.weights, Try.underlying27, List.map_cons, List.map_nil, DataW.weightsEach, List.mem_append]
    exact .inl w0
end Go.Proofs.Ytbgdfikfldkjbaa.AI
