/- The law TraceFollow answers true at every input, and leaves its arguments as they were: the given statement, with no condition of its own. -/
import Derived.Test.YtbgdfikfldkjbaaGreatRows
import Derived.Test.YtbgdfikfldkjbaaGreatGQ
import Derived.Test.YtbgdfikfldkjbaaGreatNL
import Derived.WalkKit
import Derived.ProofKit
import Derived.OpenShut
import Derived.ChangeOld
import Derived.Below
import Derived.SizedLaws
namespace Go.Proofs.YtbgdfikfldkjbaaGreat.traceFollow
set_option linter.unnecessarySimpa false
open Go.ChangeShapes Go.WideShapes Go.ChangeAt Go.RowKit Go.Proofs.YtbgdfikfldkjbaaGreat.AI
theorem own : ownKnob Tryz.prog.godebug = none := by kernel_rfl
theorem laidOut : laidOutB Tryz.prog = true := by kernel_rfl
set_option linter.unusedSimpArgs false
theorem o69 : OpensN Tryz.prog 33 3 := opensN_struct Tryz.underlying33 (by kernel_rfl) (by kernel_rfl) fun f hf => by
  simp only [List.mem_cons, List.not_mem_nil, or_false] at hf
  rcases hf with rfl | rfl
  · exact o25'
  · exact o3
theorem o69_lt {l : List Int} (h : l.length = 3) : ∃ (g : Iv) (k : Int), l.map (.int .i64) = (ltC g k).map (C.den fun _ => ri0) := by
  match l, h with
  | [a, b, c], _ => exact ⟨⟨a, b⟩, c, rfl⟩
set_option maxRecDepth 100000 in
theorem lifted (os : Os) (started : os.Started) (H : Type) (enc : TypeId × Value → H) :
    ReturnsInHanded {} Tryz.checked os 3 .any (Rows.traceFollowSpec.pre6 enc Tryz.prog Tryz.f3 Rows.traceFollowRow.domain false) (Rows.traceFollowSpec.post enc Tryz.prog Tryz.f3 false true false false) := by
  refine returnsInHanded_of_change_sized (C := Tryz.checked) own started (by kernel_rfl) Tryz.func3
    (ChangeSpec.witness6 (enc := enc) (C := Tryz.checked) false ⟨#[], #[.agg #[.slice none 0 0, .slice none 0 0, .int .i64 0, .int .i64 0], .agg #[.int .i64 0, .int .i64 0, .int .i64 0, .int .i64 0, .int .i64 0, .int .i64 0, .int .i64 0, .int .i64 0, .int .i64 0, .int .i64 0, .int .i64 0, .int .i64 0], .agg #[.int .i64 0, .int .i64 0, .int .i64 0]], []⟩ 8 (by kernel_rfl) (by kernel_rfl) (by kernel_rfl) (by kernel_rfl)) ?_
  intro W base args ds gs _ hval0 hW hcnd hsz _
  have hval : ∀ (j : Nat) t v, Tryz.f3.params[j]? = some t → args[j]? = some v → Value.okWide Tryz.prog W .any base t v := hval0
  have hW' := hW
  obtain ⟨p, q, hA0, hV, rfl, _, _⟩ := hW
  have hA : DataW.TrodAll enc Tryz.prog W 0 (fun _ => true) true Tryz.f3.params.toList args.toList ds p := hA0
  rw [Tryz.params3] at hA hval
  obtain ⟨v0, vs0, d0, ds0, p0, q0, hargs, rfl, rfl, h0, r0⟩ := trodAll_cons hA
  obtain ⟨v1, vs1, d1, ds1, p1, q1, rfl, rfl, rfl, h1, r1⟩ := trodAll_cons r0
  obtain ⟨v2, vs2, d2, ds2, p2, q2, rfl, rfl, rfl, h2, r2⟩ := trodAll_cons r1
  obtain ⟨rfl, rfl, rfl⟩ := trodAll_nil r2
  obtain rfl : args = #[v0, v1, v2] := by cases args; simp_all
  obtain ⟨rfl, rfl⟩ := trodVars_none hV
  obtain ⟨c0, rfl, _⟩ := okWide_struct Tryz.underlying27 (hval 0 27 v0 rfl rfl)
  have k0 := h0
  have lt0 : ∀ x ∈ p0, x.block < W.heap.size := by obtain ⟨m, hm⟩ := k0; exact DataW.trod_lt m _ _ _ hm
  obtain ⟨fu0, hf0⟩ := h0
  obtain ⟨ad, ad', n, m, cap, cap', v, u, y, he0, A0, A1, hwt⟩ := o27 hf0
  obtain rfl : c0 = ((bodyA ad ad' n m cap cap' v u y).map (C.den fun _ => ri0)).toArray := by apply Array.ext'; simpa [Value.cells] using he0
  obtain ⟨c1, rfl, _⟩ := okWide_struct Tryz.underlying31 (hval 1 31 v1 rfl rfl)
  have k1 := h1
  have lt1 : ∀ x ∈ p1, x.block < W.heap.size := by obtain ⟨m, hm⟩ := k1; exact DataW.trod_lt m _ _ _ hm
  obtain ⟨fu1, hf1⟩ := h1
  obtain ⟨l, hl, he1⟩ := o31 enc W _ _ fu1 _ _ hf1
  obtain ⟨r, hr⟩ := o31_ray hl
  rw [hr] at he1
  obtain rfl : c1 = ((rayC r).map (C.den fun _ => ri0)).toArray := by apply Array.ext'; simpa [Value.cells] using he1
  obtain ⟨c2, rfl, _⟩ := okWide_struct Tryz.underlying33 (hval 2 33 v2 rfl rfl)
  have k2 := h2
  have lt2 : ∀ x ∈ p2, x.block < W.heap.size := by obtain ⟨m, hm⟩ := k2; exact DataW.trod_lt m _ _ _ hm
  obtain ⟨fu2, hf2⟩ := h2
  obtain ⟨l2, hl2, he2⟩ := o69 enc W _ _ fu2 _ _ hf2
  obtain ⟨lg, lk, hlt⟩ := o69_lt hl2
  rw [hlt] at he2
  obtain rfl : c2 = ((ltC lg lk).map (C.den fun _ => ri0)).toArray := by apply Array.ext'; simpa [Value.cells] using he2
  have hn : n * 48 ≤ 140737488351232 := by
    rcases hwt with rfl | ⟨sp, hwt⟩
    · omega
    · have := List.all_eq_true.1 hsz _ (DataW.weights_mem_each (j := 0) rfl rfl _ hwt)
      have h2 : (n + sp) * 48 ≤ reachBytes := by simpa using this
      have h3 : reachBytes = 140737488351232 := rfl
      have : n * 48 ≤ (n + sp) * 48 := Nat.mul_le_mul_right _ (Nat.le_add_right _ _)
      omega
  refine (follow_calls ad ad' n m cap cap' v u y r lg lk hn W A0 A1).mono fun e W' ⟨he, bel0⟩ => ?_
  have bel : Below W.heap.size W W' := bel0
  subst he
  exact ⟨_, rfl, _, _, _, [], _, [], hW', trodAll_mk1 (shut_bool Tryz.underlying4 _), (trodAll_cons_mk (Below.trod laidOut (by kernel_rfl) (of_decide_eq_true (by kernel_rfl)) k0 bel lt0) (trodAll_cons_mk (Below.trod laidOut (by kernel_rfl) (of_decide_eq_true (by kernel_rfl)) k1 bel lt1) (trodAll_cons_mk (Below.trod laidOut (by kernel_rfl) (of_decide_eq_true (by kernel_rfl)) k2 bel lt2) trodAll_mk0))), rfl, bel.frame _, fun h => by cases h⟩
theorem over : Rows.traceFollowRow.holds Tryz.pinned (OpenSpec.ofChange Rows.traceFollowSpec) :=
  OpenClaim.holds_of_wide 3 Tryz.f3 rfl rfl rfl rfl rfl rfl rfl ⟨rfl, rfl, rfl, rfl, rfl⟩ rfl rfl rfl rfl rfl (by kernel_rfl) Tryz.func3 (by kernel_rfl)
    (of_decide_eq_true (by kernel_rfl)) (by unfold Func.isWrapper; first | (rw [if_pos (by decide +kernel)]; kernel_rfl) | (rw [if_neg (by decide +kernel)]; exact ⟨rfl, rfl⟩))
    (fun os started H enc _ => lifted os started H enc)
theorem proved : Rows.TraceFollowSaid := over
#print axioms proved
end Go.Proofs.YtbgdfikfldkjbaaGreat.traceFollow
namespace Go.Proofs.YtbgdfikfldkjbaaGreat
/-- The row, under a short name, for the claim. -/
theorem traceFollow_holds : Rows.TraceFollowSaid := traceFollow.proved
end Go.Proofs.YtbgdfikfldkjbaaGreat
