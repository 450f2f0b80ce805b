/- The law TraceInside answers true at every input, and leaves its arguments as they were: the given statement, with no condition of its own. -/
import Derived.Test.YtbgdfikfldkjbaaRows
import Derived.Test.YtbgdfikfldkjbaaPI2
import Derived.Test.YtbgdfikfldkjbaaNO
import Derived.WalkKit
import Derived.ProofKit
import Derived.OpenShut
import Derived.ChangeOld
import Derived.Below
import Derived.SizedLaws
namespace Go.Proofs.Ytbgdfikfldkjbaa.traceInside
set_option linter.unnecessarySimpa false
open Go.ChangeShapes Go.WideShapes Go.ChangeAt Go.RowKit Go.Proofs.Ytbgdfikfldkjbaa.AI
theorem own : ownKnob Try.prog.godebug = none := by kernel_rfl
theorem laidOut : laidOutB Try.prog = true := by kernel_rfl
set_option linter.unusedSimpArgs false
theorem o52c : OpensN Try.prog 3 1 := opensN_int Try.underlying3
set_option maxRecDepth 100000 in
/-- A path, as data. -/
theorem o52 {H : Type} {enc : TypeId × Value → H} {w : World} {spare : Nat → Bool} {held : Bool} {fuel : Nat} {cs : List Value} {x : DataW H × List MemPlace} (h : DataW.trod enc Try.prog w 0 spare held fuel 52 cs = some x) :
    ∃ (p : Pth) (ad : Option Addr) (cap : Nat), cs = (pathC p ad cap).map (C.den fun _ => ri0) ∧ AI.AOk w (.as ad 1 p.n cap (arrC 1 p.v)) := by
  obtain ⟨xs, k, _, hx, hl, hlen, hg⟩ := DataW.trod_struct Try.underlying52 h
  have hl4 : cs.length = 10 := by rw [hl]; kernel_rfl
  have hn4 : xs.length = 4 := by rw [hlen]; rfl
  obtain ⟨x0, x1, x2, x3, rfl⟩ : ∃ x0 x1 x2 x3, xs = [x0, x1, x2, x3] := by
    match xs, hn4 with
    | [a, b, c, d], _ => exact ⟨a, b, c, d, rfl⟩
  obtain ⟨c0, c1, c2, c3, c4, c5, c6, c7, c8, c9, rfl⟩ : ∃ c0 c1 c2 c3 c4 c5 c6 c7 c8 c9, cs = [c0, c1, c2, c3, c4, c5, c6, c7, c8, c9] := by
    match cs, hl4 with
    | [a, b, c, d, e, f, g, h, i, j], _ => exact ⟨a, b, c, d, e, f, g, h, i, j, rfl⟩
  have g0 := hg 0 ⟨"Kind", 3, 0, false, "", "", 0⟩ rfl
  have g1 := hg 1 ⟨"Faces", 50, 1, false, "", "", 8⟩ rfl
  have g2 := hg 2 ⟨"Out", 29, 2, false, "", "", 32⟩ rfl
  have g3 := hg 3 ⟨"Gain", 25, 8, false, "", "", 80⟩ rfl
  simp only [show Try.prog.cellsOf 3 = 1 by kernel_rfl, show Try.prog.cellsOf 50 = 1 by kernel_rfl, show Try.prog.cellsOf 29 = 6 by kernel_rfl, show Try.prog.cellsOf 25 = 2 by kernel_rfl, List.drop_zero, List.take_succ_cons, List.take_zero, List.drop_succ_cons, List.getElem?_cons_zero, List.getElem?_cons_succ] at g0 g1 g2 g3
  obtain ⟨l0, h0, e0⟩ := o52c enc w spare held k _ _ g0
  obtain ⟨ad, n, cap, v, e1, a1, _⟩ := opens_as Try.underlying50 (by kernel_rfl) o52c g1
  obtain ⟨l2, h2, e2⟩ := o29 enc w spare held k _ _ g2
  obtain ⟨l3, h3, e3⟩ := o25 enc w spare held k _ _ g3
  obtain ⟨kd, rfl⟩ : ∃ a, l0 = [a] := by
    match l0, h0 with
    | [a], _ => exact ⟨a, rfl⟩
  obtain ⟨a, b, c, d, e, f, rfl⟩ : ∃ a b c d e f, l2 = [a, b, c, d, e, f] := by
    match l2, h2 with
    | [a, b, c, d, e, f], _ => exact ⟨a, b, c, d, e, f, rfl⟩
  obtain ⟨lo, hi, rfl⟩ : ∃ lo hi, l3 = [lo, hi] := by
    match l3, h3 with
    | [a, b], _ => exact ⟨a, b, rfl⟩
  simp only [List.map_cons, List.map_nil, List.cons.injEq, and_true] at e0
  simp only [List.map_cons, List.map_nil, List.cons.injEq, and_true] at e1
  simp only [List.map_cons, List.map_nil, List.cons.injEq, and_true] at e2
  simp only [List.map_cons, List.map_nil, List.cons.injEq, and_true] at e3
  obtain ⟨rfl, rfl, rfl, rfl, rfl, rfl⟩ := e2
  obtain ⟨rfl, rfl⟩ := e3
  subst e0 e1
  exact ⟨⟨kd, n, v, ⟨⟨a, b⟩, ⟨c, d⟩, ⟨e, f⟩⟩, ⟨lo, hi⟩⟩, ad, cap, rfl, a1⟩
set_option maxRecDepth 100000 in
theorem lifted (os : Os) (started : os.Started) (H : Type) (enc : TypeId × Value → H) :
    ReturnsInHanded {} Try.checked os 5 .any (Rows.traceInsideSpec.pre6 enc Try.prog Try.f5 Rows.traceInsideRow.domain false) (Rows.traceInsideSpec.post enc Try.prog Try.f5 false true false false) := by
  refine returnsInHanded_of_change_sized (C := Try.checked) own started (by kernel_rfl) Try.func5
    (ChangeSpec.witness6 (enc := enc) (C := Try.checked) false ⟨#[], #[.agg #[.int .i64 0, .slice none 0 0, .int .i64 0, .int .i64 0, .int .i64 0, .int .i64 0, .int .i64 0, .int .i64 0, .int .i64 0, .int .i64 0], .agg #[.int .i64 0, .slice none 0 0, .int .i64 0, .int .i64 0, .int .i64 0, .int .i64 0, .int .i64 0, .int .i64 0, .int .i64 0, .int .i64 0]], []⟩ 8 (by kernel_rfl) (by kernel_rfl) (by kernel_rfl) (by kernel_rfl)) ?_
  intro W base args ds gs _ hval0 hW hcnd hsz _
  have hval : ∀ (j : Nat) t v, Try.f5.params[j]? = some t → args[j]? = some v → Value.okWide Try.prog W .any base t v := hval0
  have hW' := hW
  obtain ⟨p, q, hA0, hV, rfl, _, _⟩ := hW
  have hA : DataW.TrodAll enc Try.prog W 0 (fun _ => true) true Try.f5.params.toList args.toList ds p := hA0
  rw [Try.params5] at hA hval
  obtain ⟨v0, vs0, d0, ds0, p0, q0, hargs, rfl, rfl, h0, r0⟩ := trodAll_cons hA
  obtain ⟨v1, vs1, d1, ds1, p1, q1, rfl, rfl, rfl, h1, r1⟩ := trodAll_cons r0
  obtain ⟨rfl, rfl, rfl⟩ := trodAll_nil r1
  obtain rfl : args = #[v0, v1] := by cases args; simp_all
  obtain ⟨rfl, rfl⟩ := trodVars_none hV
  obtain ⟨c0, rfl, _⟩ := okWide_struct Try.underlying52 (hval 0 52 v0 rfl rfl)
  have k0 := h0
  have lt0 : ∀ x ∈ p0, x.block < W.heap.size := by obtain ⟨m, hm⟩ := k0; exact DataW.trod_lt m _ _ _ hm
  obtain ⟨fu0, hf0⟩ := h0
  obtain ⟨P, ad, cap, he0, A0⟩ := o52 hf0
  obtain rfl : c0 = ((pathC P ad cap).map (C.den fun _ => ri0)).toArray := by apply Array.ext'; simpa [Value.cells] using he0
  obtain ⟨c1, rfl, _⟩ := okWide_struct Try.underlying52 (hval 1 52 v1 rfl rfl)
  have k1 := h1
  have lt1 : ∀ x ∈ p1, x.block < W.heap.size := by obtain ⟨m, hm⟩ := k1; exact DataW.trod_lt m _ _ _ hm
  obtain ⟨fu1, hf1⟩ := h1
  obtain ⟨Q, ad', cap', he1, A1⟩ := o52 hf1
  obtain rfl : c1 = ((pathC Q ad' cap').map (C.den fun _ => ri0)).toArray := by apply Array.ext'; simpa [Value.cells] using he1
  refine (in_calls P Q ad ad' cap cap' W A0 A1).mono fun e W' ⟨he, bel0⟩ => ?_
  have bel : Below W.heap.size W W' := bel0
  subst he
  exact ⟨_, rfl, _, _, _, [], _, [], hW', trodAll_mk1 (shut_bool Try.underlying4 _), (trodAll_cons_mk (Below.trod laidOut (by kernel_rfl) (of_decide_eq_true (by kernel_rfl)) k0 bel lt0) (trodAll_cons_mk (Below.trod laidOut (by kernel_rfl) (of_decide_eq_true (by kernel_rfl)) k1 bel lt1) trodAll_mk0)), rfl, bel.frame _, fun h => by cases h⟩
theorem over : Rows.traceInsideRow.holds Try.pinned (OpenSpec.ofChange Rows.traceInsideSpec) :=
  OpenClaim.holds_of_wide 5 Try.f5 rfl rfl rfl rfl rfl rfl rfl ⟨rfl, rfl, rfl, rfl, rfl⟩ rfl rfl rfl rfl rfl (by kernel_rfl) Try.func5 (by kernel_rfl)
    (of_decide_eq_true (by kernel_rfl)) (by unfold Func.isWrapper; first | (rw [if_pos (by decide +kernel)]; kernel_rfl) | (rw [if_neg (by decide +kernel)]; exact ⟨rfl, rfl⟩))
    (fun os started H enc _ => lifted os started H enc)
theorem proved : Rows.TraceInsideSaid := over
#print axioms proved
end Go.Proofs.Ytbgdfikfldkjbaa.traceInside
namespace Go.Proofs.Ytbgdfikfldkjbaa
/-- The row, under a short name, for the claim. -/
theorem traceInside_holds : Rows.TraceInsideSaid := traceInside.proved
end Go.Proofs.Ytbgdfikfldkjbaa
