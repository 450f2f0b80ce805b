/- The law TracePoint answers true at every input, and leaves its arguments as they were: the given statement, with no condition of its own. -/
import Derived.Test.YtbgdfikfldkjbaaRows
import Derived.Test.YtbgdfikfldkjbaaPT
import Derived.Test.YtbgdfikfldkjbaaNL
import Derived.WalkKit
import Derived.ProofKit
import Derived.OpenShut
import Derived.ChangeOld
import Derived.Below
import Derived.SizedLaws
namespace Go.Proofs.Ytbgdfikfldkjbaa.tracePoint
set_option linter.unnecessarySimpa false
open Go.ChangeShapes Go.WideShapes Go.ChangeAt Go.RowKit Go.Proofs.Ytbgdfikfldkjbaa.AI
theorem own : ownKnob Try.prog.godebug = none := by kernel_rfl
theorem laidOut : laidOutB Try.prog = true := by kernel_rfl
set_option linter.unusedSimpArgs false
theorem o3 : OpensN Try.prog 3 (Try.prog.cellsOf 3) := by
  rw [show Try.prog.cellsOf 3 = 1 by kernel_rfl]
  exact opensN_int Try.underlying3
theorem o25 : OpensN Try.prog 25 2 := opensN_struct Try.underlying25 (by kernel_rfl) (by kernel_rfl) fun f hf => by
  simp only [List.mem_cons, List.not_mem_nil, or_false] at hf
  rcases hf with rfl | rfl
  · exact o3
  · exact o3
theorem o25' : OpensN Try.prog 25 (Try.prog.cellsOf 25) := by
  rw [show Try.prog.cellsOf 25 = 2 by kernel_rfl]
  exact o25
theorem o29 : OpensN Try.prog 29 6 := opensN_struct Try.underlying29 (by kernel_rfl) (by kernel_rfl) fun f hf => by
  simp only [List.mem_cons, List.not_mem_nil, or_false] at hf
  rcases hf with rfl | rfl | rfl
  · exact o25'
  · exact o25'
  · exact o25'
theorem o29' : OpensN Try.prog 29 (Try.prog.cellsOf 29) := by
  rw [show Try.prog.cellsOf 29 = 6 by kernel_rfl]
  exact o29
theorem o31 : OpensN Try.prog 31 12 := opensN_struct Try.underlying31 (by kernel_rfl) (by kernel_rfl) fun f hf => by
  simp only [List.mem_cons, List.not_mem_nil, or_false] at hf
  rcases hf with rfl | rfl
  · exact o29'
  · exact o29'
/-- A ray, as data. -/
theorem o31_ray {l : List Int} (h : l.length = 12) : ∃ r : Ray, l.map (.int .i64) = (rayC r).map (C.den fun _ => ri0) := by
  match l, h with
  | [a, b, c, d, e, f, a', b', c', d', e', f'], _ => exact ⟨⟨⟨⟨a, b⟩, ⟨c, d⟩, ⟨e, f⟩⟩, ⟨⟨a', b'⟩, ⟨c', d'⟩, ⟨e', f'⟩⟩⟩, rfl⟩
theorem drop_take1 {α : Type} {l : List α} {i : Nat} {x : α} (h : (l.drop i).take 1 = [x]) : l[i]? = some x := by
  have := congrArg (·[0]?) h
  simpa [List.getElem?_take, List.getElem?_drop] using this
set_option maxRecDepth 100000 in
/-- A body, as data. -/
theorem o27 {H : Type} {enc : TypeId × Value → H} {w : World} {spare : Nat → Bool} {held : Bool} {fuel : Nat} {cs : List Value} {x : DataW H × List MemPlace} (h : DataW.trod enc Try.prog w 0 spare held fuel 27 cs = some x) :
    ∃ (ad ad' : Option Addr) (n m cap cap' : Nat) (v u : Nat → Nat → Int) (y : Iv), cs = (bodyA ad ad' n m cap cap' v u y).map (C.den fun _ => ri0) ∧ AI.AOk w (.as ad 6 n cap (arrC 6 v)) ∧ AI.AOk w (.as ad' 2 m cap' (arrC 2 u)) ∧ (n = 0 ∨ ∃ sp, (n + sp) * 48 ∈ x.1.weights Try.prog 27) := by
  obtain ⟨xs, k, _, hx, hl, hlen, hg⟩ := DataW.trod_struct Try.underlying27 h
  have hl4 : cs.length = 4 := by rw [hl]; kernel_rfl
  have hn3 : xs.length = 3 := by rw [hlen]; rfl
  obtain ⟨x0, x1, x2, rfl⟩ : ∃ x0 x1 x2, xs = [x0, x1, x2] := by
    match xs, hn3 with
    | [a, b, c], _ => exact ⟨a, b, c, rfl⟩
  obtain ⟨c0, c1, c2, c3, rfl⟩ : ∃ c0 c1 c2 c3, cs = [c0, c1, c2, c3] := by
    match cs, hl4 with
    | [a, b, c, d], _ => exact ⟨a, b, c, d, rfl⟩
  have g0 := hg 0 _ rfl
  have g1 := hg 1 _ rfl
  have g2 := hg 2 _ rfl
  simp only [show Try.prog.cellsOf 22 = 1 by kernel_rfl, show Try.prog.cellsOf 23 = 1 by kernel_rfl, show Try.prog.cellsOf 25 = 2 by kernel_rfl, List.drop_zero, List.take_succ_cons, List.take_zero, List.drop_succ_cons, List.getElem?_cons_zero, List.getElem?_cons_succ] at g0 g1 g2
  obtain ⟨ad, n, cap, v, e0, a0, w0⟩ := opens_as Try.underlying22 (by kernel_rfl) o29 g0
  obtain ⟨ad', m, cap', u, e1, a1, _⟩ := opens_as Try.underlying23 (by kernel_rfl) o25 g1
  obtain ⟨l, h2, e2⟩ := o25 enc w spare held k _ _ g2
  obtain ⟨lo, hi, rfl⟩ : ∃ lo hi, l = [lo, hi] := by
    match l, h2 with
    | [a, b], _ => exact ⟨a, b, rfl⟩
  injection e0 with e0
  injection e1 with e1
  simp only [List.map_cons, List.map_nil] at e2
  injection e2 with e2 e3
  injection e3 with e3
  subst e0 e1 e2 e3
  refine ⟨ad, ad', n, m, cap, cap', v, u, ⟨lo, hi⟩, rfl, a0, a1, ?_⟩
  rcases w0 with w0 | ⟨sp, w0⟩
  · exact .inl w0
  · refine .inr ⟨sp, ?_⟩
    rw [show Try.prog.bytesOf 29 = 48 by kernel_rfl] at w0
    rw [hx]
    simp only [DataW.weights, Try.underlying27, List.map_cons, List.map_nil, DataW.weightsEach, List.mem_append]
    exact .inl w0
set_option maxRecDepth 100000 in
theorem lifted (os : Os) (started : os.Started) (H : Type) (enc : TypeId × Value → H) :
    ReturnsInHanded {} Try.checked os 3 .any (Rows.tracePointSpec.pre6 enc Try.prog Try.f3 Rows.tracePointRow.domain false) (Rows.tracePointSpec.post enc Try.prog Try.f3 false true false false) := by
  refine returnsInHanded_of_change_sized (C := Try.checked) own started (by kernel_rfl) Try.func3
    (ChangeSpec.witness6 (enc := enc) (C := Try.checked) false ⟨#[], #[.agg #[.slice none 0 0, .slice none 0 0, .int .i64 0, .int .i64 0], .agg #[.int .i64 0, .int .i64 0, .int .i64 0, .int .i64 0, .int .i64 0, .int .i64 0, .int .i64 0, .int .i64 0, .int .i64 0, .int .i64 0, .int .i64 0, .int .i64 0]], []⟩ 8 (by kernel_rfl) (by kernel_rfl) (by kernel_rfl) (by kernel_rfl)) ?_
  intro W base args ds gs _ hval0 hW hcnd hsz _
  have hval : ∀ (j : Nat) t v, Try.f3.params[j]? = some t → args[j]? = some v → Value.okWide Try.prog W .any base t v := hval0
  have hW' := hW
  obtain ⟨p, q, hA0, hV, rfl, _, _⟩ := hW
  have hA : DataW.TrodAll enc Try.prog W 0 (fun _ => true) true Try.f3.params.toList args.toList ds p := hA0
  rw [Try.params3] at hA hval
  obtain ⟨v0, vs0, d0, ds0, p0, q0, hargs, rfl, rfl, h0, r0⟩ := trodAll_cons hA
  obtain ⟨v1, vs1, d1, ds1, p1, q1, rfl, rfl, rfl, h1, r1⟩ := trodAll_cons r0
  obtain ⟨rfl, rfl, rfl⟩ := trodAll_nil r1
  obtain rfl : args = #[v0, v1] := by cases args; simp_all
  obtain ⟨rfl, rfl⟩ := trodVars_none hV
  obtain ⟨c0, rfl, _⟩ := okWide_struct Try.underlying27 (hval 0 27 v0 rfl rfl)
  have k0 := h0
  have lt0 : ∀ x ∈ p0, x.block < W.heap.size := by obtain ⟨m, hm⟩ := k0; exact DataW.trod_lt m _ _ _ hm
  obtain ⟨fu0, hf0⟩ := h0
  obtain ⟨ad, ad', n, m, cap, cap', v, u, y, he0, A0, A1, hwt⟩ := o27 hf0
  obtain rfl : c0 = ((bodyA ad ad' n m cap cap' v u y).map (C.den fun _ => ri0)).toArray := by apply Array.ext'; simpa [Value.cells] using he0
  obtain ⟨c1, rfl, _⟩ := okWide_struct Try.underlying31 (hval 1 31 v1 rfl rfl)
  have k1 := h1
  have lt1 : ∀ x ∈ p1, x.block < W.heap.size := by obtain ⟨m, hm⟩ := k1; exact DataW.trod_lt m _ _ _ hm
  obtain ⟨fu1, hf1⟩ := h1
  obtain ⟨l, hl, he1⟩ := o31 enc W _ _ fu1 _ _ hf1
  obtain ⟨r, hr⟩ := o31_ray hl
  rw [hr] at he1
  obtain rfl : c1 = ((rayC r).map (C.den fun _ => ri0)).toArray := by apply Array.ext'; simpa [Value.cells] using he1
  have hn : n * 48 ≤ 140737488351232 := by
    rcases hwt with rfl | ⟨sp, hwt⟩
    · omega
    · have := List.all_eq_true.1 hsz _ (DataW.weights_mem_each (j := 0) rfl rfl _ hwt)
      have h2 : (n + sp) * 48 ≤ reachBytes := by simpa using this
      have h3 : reachBytes = 140737488351232 := rfl
      have : n * 48 ≤ (n + sp) * 48 := Nat.mul_le_mul_right _ (Nat.le_add_right _ _)
      omega
  refine (point_calls ad ad' n m cap cap' v u y r hn W A0 A1).mono fun e W' ⟨he, bel0⟩ => ?_
  have bel : Below W.heap.size W W' := bel0
  subst he
  exact ⟨_, rfl, _, _, _, [], _, [], hW', trodAll_mk1 (shut_bool Try.underlying4 _), (trodAll_cons_mk (Below.trod laidOut (by kernel_rfl) (of_decide_eq_true (by kernel_rfl)) k0 bel lt0) (trodAll_cons_mk (Below.trod laidOut (by kernel_rfl) (of_decide_eq_true (by kernel_rfl)) k1 bel lt1) trodAll_mk0)), rfl, bel.frame _, fun h => by cases h⟩
theorem over : Rows.tracePointRow.holds Try.pinned (OpenSpec.ofChange Rows.tracePointSpec) :=
  OpenClaim.holds_of_wide 3 Try.f3 rfl rfl rfl rfl rfl rfl rfl ⟨rfl, rfl, rfl, rfl, rfl⟩ rfl rfl rfl rfl rfl (by kernel_rfl) Try.func3 (by kernel_rfl)
    (of_decide_eq_true (by kernel_rfl)) (by unfold Func.isWrapper; first | (rw [if_pos (by decide +kernel)]; kernel_rfl) | (rw [if_neg (by decide +kernel)]; exact ⟨rfl, rfl⟩))
    (fun os started H enc _ => lifted os started H enc)
theorem proved : Rows.TracePointSaid := over
#print axioms proved
end Go.Proofs.Ytbgdfikfldkjbaa.tracePoint
namespace Go.Proofs.Ytbgdfikfldkjbaa
/-- The row, under a short name, for the claim. -/
theorem tracePoint_holds : Rows.TracePointSaid := tracePoint.proved
end Go.Proofs.Ytbgdfikfldkjbaa
