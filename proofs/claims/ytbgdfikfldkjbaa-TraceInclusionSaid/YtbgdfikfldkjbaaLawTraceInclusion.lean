/- The law TraceInclusion answers true at every input, and leaves its arguments as they were: the given statement, with no condition of its own. -/
import Derived.Test.YtbgdfikfldkjbaaRows
import Derived.Test.YtbgdfikfldkjbaaPI2
import Derived.Test.YtbgdfikfldkjbaaNL
import Derived.WalkKit
import Derived.ProofKit
import Derived.OpenShut
import Derived.ChangeOld
import Derived.Below
import Derived.SizedLaws
namespace Go.Proofs.Ytbgdfikfldkjbaa.traceInclusion
set_option linter.unnecessarySimpa false
open Go.ChangeShapes Go.WideShapes Go.ChangeAt Go.RowKit Go.Proofs.Ytbgdfikfldkjbaa.AI
theorem own : ownKnob Try.prog.godebug = none := by kernel_rfl
theorem laidOut : laidOutB Try.prog = true := by kernel_rfl
set_option linter.unusedSimpArgs false
set_option maxRecDepth 100000 in
/-- Six numbers, as data. -/
theorem o59 {H : Type} {enc : TypeId × Value → H} {w : World} {spare : Nat → Bool} {held : Bool} {fuel : Nat} {cs : List Value} {x : DataW H × List MemPlace} (h : DataW.trod enc Try.prog w 0 spare held fuel 59 cs = some x) :
    ∃ a b c d e f : Int, cs = [.int .u32 a, .int .u32 b, .int .u32 c, .int .u32 d, .int .u32 e, .int .u32 f] ∧ U32 a ∧ U32 b ∧ U32 c ∧ U32 d ∧ U32 e ∧ U32 f := by
  obtain ⟨xs, k, _, _, hl, hlen, hg⟩ := DataW.trod_array Try.underlying59 h
  have hl6 : cs.length = 6 := by rw [hl]; kernel_rfl
  obtain ⟨c0, c1, c2, c3, c4, c5, rfl⟩ : ∃ c0 c1 c2 c3 c4 c5, cs = [c0, c1, c2, c3, c4, c5] := by
    match cs, hl6 with
    | [a, b, c, d, e, f], _ => exact ⟨a, b, c, d, e, f, rfl⟩
  have one : ∀ (i : Nat) (c : Value), i < 6 → ([c0, c1, c2, c3, c4, c5].drop (i * Try.prog.cellsOf 58)).take (Try.prog.cellsOf 58) = [c] → ∃ n, c = .int .u32 n ∧ U32 n := fun i c hi hc => by
    have h1 := hg i hi
    rw [hc, List.getElem?_eq_getElem (show i < xs.length by omega)] at h1
    obtain ⟨n, e, _, hw⟩ := DataW.trod_int Try.underlying58 h1
    simp only [List.cons.injEq, and_true] at e
    subst e
    simp only [Lit.wf, Bool.and_eq_true, decide_eq_true_eq] at hw
    exact ⟨n, rfl, hw⟩
  have c58 : Try.prog.cellsOf 58 = 1 := by kernel_rfl
  rw [c58] at one
  obtain ⟨n0, rfl, h0⟩ := one 0 c0 (by omega) rfl
  obtain ⟨n1, rfl, h1⟩ := one 1 c1 (by omega) rfl
  obtain ⟨n2, rfl, h2⟩ := one 2 c2 (by omega) rfl
  obtain ⟨n3, rfl, h3⟩ := one 3 c3 (by omega) rfl
  obtain ⟨n4, rfl, h4⟩ := one 4 c4 (by omega) rfl
  obtain ⟨n5, rfl, h5⟩ := one 5 c5 (by omega) rfl
  exact ⟨n0, n1, n2, n3, n4, n5, rfl, h0, h1, h2, h3, h4, h5⟩
set_option maxRecDepth 100000 in
/-- A part, as data. -/
theorem o61 {H : Type} {enc : TypeId × Value → H} {w : World} {spare : Nat → Bool} {held : Bool} {fuel : Nat} {cs : List Value} {x : DataW H × List MemPlace} (h : DataW.trod enc Try.prog w 0 spare held fuel 61 cs = some x) :
    ∃ p : Par, cs = (parC p).map (C.den fun _ => ri0) ∧ ParOk p := by
  obtain ⟨xs, k, _, hx, hl, hlen, hg⟩ := DataW.trod_struct Try.underlying61 h
  have hl13 : cs.length = 13 := by rw [hl]; kernel_rfl
  have hn3 : xs.length = 3 := by rw [hlen]; rfl
  obtain ⟨x0, x1, x2, rfl⟩ : ∃ x0 x1 x2, xs = [x0, x1, x2] := by
    match xs, hn3 with
    | [a, b, c], _ => exact ⟨a, b, c, rfl⟩
  obtain ⟨c0, c1, c2, c3, c4, c5, c6, c7, c8, c9, c10, c11, c12, rfl⟩ : ∃ c0 c1 c2 c3 c4 c5 c6 c7 c8 c9 c10 c11 c12, cs = [c0, c1, c2, c3, c4, c5, c6, c7, c8, c9, c10, c11, c12] := by
    match cs, hl13 with
    | [a, b, c, d, e, f, g, h, i, j, k, l, m], _ => exact ⟨a, b, c, d, e, f, g, h, i, j, k, l, m, rfl⟩
  have g0 := hg 0 ⟨"Most", 3, 0, false, "", "", 0⟩ rfl
  have g1 := hg 1 ⟨"K", 59, 1, false, "", "", 8⟩ rfl
  have g2 := hg 2 ⟨"L", 59, 7, false, "", "", 32⟩ rfl
  simp only [show Try.prog.cellsOf 3 = 1 by kernel_rfl, show Try.prog.cellsOf 59 = 6 by kernel_rfl, List.drop_zero, List.take_succ_cons, List.take_zero, List.drop_succ_cons, List.getElem?_cons_zero, List.getElem?_cons_succ] at g0 g1 g2
  obtain ⟨n, e0, _, _⟩ := DataW.trod_int Try.underlying3 g0
  obtain ⟨a0, a1, a2, a3, a4, a5, e1, q0, q1, q2, q3, q4, q5⟩ := o59 g1
  obtain ⟨b0, b1, b2, b3, b4, b5, e2, r0, r1, r2, r3, r4, r5⟩ := o59 g2
  have e0 : [c0] = [Value.int .i64 n] := e0
  have e1 : [c1, c2, c3, c4, c5, c6] = [Value.int .u32 a0, .int .u32 a1, .int .u32 a2, .int .u32 a3, .int .u32 a4, .int .u32 a5] := e1
  have e2 : [c7, c8, c9, c10, c11, c12] = [Value.int .u32 b0, .int .u32 b1, .int .u32 b2, .int .u32 b3, .int .u32 b4, .int .u32 b5] := e2
  simp only [List.cons.injEq, and_true] at e0 e1 e2
  obtain ⟨rfl, rfl, rfl, rfl, rfl, rfl⟩ := e1
  obtain ⟨rfl, rfl, rfl, rfl, rfl, rfl⟩ := e2
  subst e0
  exact ⟨⟨n, a0, a1, a2, a3, a4, a5, b0, b1, b2, b3, b4, b5⟩, rfl, ⟨q0, q1, q2, q3, q4, q5, r0, r1, r2, r3, r4, r5⟩⟩
set_option maxRecDepth 100000 in
theorem lifted (os : Os) (started : os.Started) (H : Type) (enc : TypeId × Value → H) :
    ReturnsInHanded {} Try.checked os 6 .any (Rows.traceInclusionSpec.pre6 enc Try.prog Try.f6 Rows.traceInclusionRow.domain false) (Rows.traceInclusionSpec.post enc Try.prog Try.f6 false true false false) := by
  refine returnsInHanded_of_change_sized (C := Try.checked) own started (by kernel_rfl) Try.func6
    (ChangeSpec.witness6 (enc := enc) (C := Try.checked) false ⟨#[], #[.agg #[.slice none 0 0, .slice none 0 0, .int .i64 0, .int .i64 0], .agg #[.int .i64 0, .int .i64 0, .int .i64 0, .int .i64 0, .int .i64 0, .int .i64 0, .int .i64 0, .int .i64 0, .int .i64 0, .int .i64 0, .int .i64 0, .int .i64 0], .agg #[.int .i64 0, .int .u32 0, .int .u32 0, .int .u32 0, .int .u32 0, .int .u32 0, .int .u32 0, .int .u32 0, .int .u32 0, .int .u32 0, .int .u32 0, .int .u32 0, .int .u32 0]], []⟩ 8 (by kernel_rfl) (by kernel_rfl) (by kernel_rfl) (by kernel_rfl)) ?_
  intro W base args ds gs _ hval0 hW hcnd hsz _
  have hval : ∀ (j : Nat) t v, Try.f6.params[j]? = some t → args[j]? = some v → Value.okWide Try.prog W .any base t v := hval0
  have hW' := hW
  obtain ⟨p, q, hA0, hV, rfl, _, _⟩ := hW
  have hA : DataW.TrodAll enc Try.prog W 0 (fun _ => true) true Try.f6.params.toList args.toList ds p := hA0
  rw [Try.params6] at hA hval
  obtain ⟨v0, vs0, d0, ds0, p0, q0, hargs, rfl, rfl, h0, r0⟩ := trodAll_cons hA
  obtain ⟨v1, vs1, d1, ds1, p1, q1, rfl, rfl, rfl, h1, r1⟩ := trodAll_cons r0
  obtain ⟨v2, vs2, d2, ds2, p2, q2, rfl, rfl, rfl, h2, r2⟩ := trodAll_cons r1
  obtain ⟨rfl, rfl, rfl⟩ := trodAll_nil r2
  obtain rfl : args = #[v0, v1, v2] := by cases args; simp_all
  obtain ⟨rfl, rfl⟩ := trodVars_none hV
  obtain ⟨c0, rfl, _⟩ := okWide_struct Try.underlying27 (hval 0 27 v0 rfl rfl)
  have k0 := h0
  have lt0 : ∀ x ∈ p0, x.block < W.heap.size := by obtain ⟨m, hm⟩ := k0; exact DataW.trod_lt m _ _ _ hm
  obtain ⟨fu0, hf0⟩ := h0
  obtain ⟨ad, ad', n, m, cap, cap', v, u, y, he0, A0, A1, hwt⟩ := o27 hf0
  obtain rfl : c0 = ((bodyA ad ad' n m cap cap' v u y).map (C.den fun _ => ri0)).toArray := by apply Array.ext'; simpa [Value.cells] using he0
  obtain ⟨c1, rfl, _⟩ := okWide_struct Try.underlying31 (hval 1 31 v1 rfl rfl)
  have k1 := h1
  have lt1 : ∀ x ∈ p1, x.block < W.heap.size := by obtain ⟨m, hm⟩ := k1; exact DataW.trod_lt m _ _ _ hm
  obtain ⟨fu1, hf1⟩ := h1
  obtain ⟨l, hl, he1⟩ := o31 enc W _ _ fu1 _ _ hf1
  obtain ⟨r, hr⟩ := o31_ray hl
  rw [hr] at he1
  obtain rfl : c1 = ((rayC r).map (C.den fun _ => ri0)).toArray := by apply Array.ext'; simpa [Value.cells] using he1
  obtain ⟨c2, rfl, _⟩ := okWide_struct Try.underlying61 (hval 2 61 v2 rfl rfl)
  have k2 := h2
  have lt2 : ∀ x ∈ p2, x.block < W.heap.size := by obtain ⟨m, hm⟩ := k2; exact DataW.trod_lt m _ _ _ hm
  obtain ⟨fu2, hf2⟩ := h2
  obtain ⟨pp, he2, hpp⟩ := o61 hf2
  obtain rfl : c2 = ((parC pp).map (C.den fun _ => ri0)).toArray := by apply Array.ext'; simpa [Value.cells] using he2
  have hn : n * 48 ≤ 140737488351232 := by
    rcases hwt with rfl | ⟨sp, hwt⟩
    · omega
    · have := List.all_eq_true.1 hsz _ (DataW.weights_mem_each (j := 0) rfl rfl _ hwt)
      have h2 : (n + sp) * 48 ≤ reachBytes := by simpa using this
      have h3 : reachBytes = 140737488351232 := rfl
      have : n * 48 ≤ (n + sp) * 48 := Nat.mul_le_mul_right _ (Nat.le_add_right _ _)
      omega
  refine (incl_calls ad ad' n m cap cap' v u y r pp hpp hn W A0 A1).mono fun e W' ⟨he, bel0⟩ => ?_
  have bel : Below W.heap.size W W' := bel0
  subst he
  exact ⟨_, rfl, _, _, _, [], _, [], hW', trodAll_mk1 (shut_bool Try.underlying4 _), (trodAll_cons_mk (Below.trod laidOut (by kernel_rfl) (of_decide_eq_true (by kernel_rfl)) k0 bel lt0) (trodAll_cons_mk (Below.trod laidOut (by kernel_rfl) (of_decide_eq_true (by kernel_rfl)) k1 bel lt1) (trodAll_cons_mk (Below.trod laidOut (by kernel_rfl) (of_decide_eq_true (by kernel_rfl)) k2 bel lt2) trodAll_mk0))), rfl, bel.frame _, fun h => by cases h⟩
theorem over : Rows.traceInclusionRow.holds Try.pinned (OpenSpec.ofChange Rows.traceInclusionSpec) :=
  OpenClaim.holds_of_wide 6 Try.f6 rfl rfl rfl rfl rfl rfl rfl ⟨rfl, rfl, rfl, rfl, rfl⟩ rfl rfl rfl rfl rfl (by kernel_rfl) Try.func6 (by kernel_rfl)
    (of_decide_eq_true (by kernel_rfl)) (by unfold Func.isWrapper; first | (rw [if_pos (by decide +kernel)]; kernel_rfl) | (rw [if_neg (by decide +kernel)]; exact ⟨rfl, rfl⟩))
    (fun os started H enc _ => lifted os started H enc)
theorem proved : Rows.TraceInclusionSaid := over
#print axioms proved
end Go.Proofs.Ytbgdfikfldkjbaa.traceInclusion
namespace Go.Proofs.Ytbgdfikfldkjbaa
/-- The row, under a short name, for the claim. -/
theorem traceInclusion_holds : Rows.TraceInclusionSaid := traceInclusion.proved
end Go.Proofs.Ytbgdfikfldkjbaa
