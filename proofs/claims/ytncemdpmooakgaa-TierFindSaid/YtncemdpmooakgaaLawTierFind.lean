/- The law TierFind answers true at every input, and leaves its arguments as they were: the given statement, with no condition of its own. -/
import Derived.Test.YtncemdpmooakgaaRows
import Derived.Test.YtncemdpmooakgaaXK5
import Derived.Test.YtncemdpmooakgaaPureTierFind
import Derived.WalkKit
import Derived.ProofKit
import Derived.OpenShut
import Derived.ShutString
import Derived.ChangeOld
import Derived.Below
import Derived.SizedLaws
namespace Go.Proofs.Ytncemdpmooakgaa.tierFind
open Go.ChangeShapes Go.WideShapes Go.ChangeAt Go.RowKit Go.Proofs.Ytncemdpmooakgaa.XK Go.Proofs.Ytncemdpmooakgaa.XW
open Go.ChangeMaps (open_string shut_string)
open Go.Proofs.YtncemdpmooakgaaW.PrintWords
theorem own : ownKnob Try.prog.godebug = none := by kernel_rfl
theorem laidOut : laidOutB Try.prog = true := by kernel_rfl
set_option linter.unusedSimpArgs false
set_option maxRecDepth 100000 in
theorem lifted (os : Os) (started : os.Started) (H : Type) (enc : TypeId × Value → H) :
    ReturnsInHanded {} Try.checked os 6 .any (Rows.tierFindSpec.pre6 enc Try.prog Try.f6 Rows.tierFindRow.domain false) (Rows.tierFindSpec.post enc Try.prog Try.f6 false true false false) := by
  refine returnsInHanded_of_change_sized (C := Try.checked) own started (by kernel_rfl) Try.func6
    (ChangeSpec.witness6 (enc := enc) (C := Try.checked) false ⟨#[], #[.slice none 0 0, .agg #[.string ByteArray.empty, .int .i64 0], .agg #[.string ByteArray.empty, .int .i64 0, .bool false, .slice none 0 0, .int .i64 0]], []⟩ 8 (by kernel_rfl) (by kernel_rfl) (by kernel_rfl) (by kernel_rfl)) ?_
  intro W base args ds gs _ hval0 hW hcnd _ _
  have hval : ∀ (j : Nat) t v, Try.f6.params[j]? = some t → args[j]? = some v → Value.okWide Try.prog W .any base t v := hval0
  have hW' := hW
  obtain ⟨p, q, hA0, hV, rfl, _, _⟩ := hW
  have hA : DataW.TrodAll enc Try.prog W 0 (fun _ => true) true Try.f6.params.toList args.toList ds p := hA0
  rw [Try.params6] at hA hval
  obtain ⟨v0, vs0, d0, ds0, p0, q0, hargs, rfl, rfl, h0, r0⟩ := trodAll_cons hA
  obtain ⟨v1, vs1, d1, ds1, p1, q1, rfl, rfl, rfl, h1, r1⟩ := trodAll_cons r0
  obtain ⟨v2, vs2, d2, ds2, p2, q2, rfl, rfl, rfl, h2, r2⟩ := trodAll_cons r1
  obtain ⟨rfl, rfl, rfl⟩ := trodAll_nil r2
  obtain rfl : args = #[v0, v1, v2] := by cases args; simp_all
  obtain ⟨rfl, rfl⟩ := trodVars_none hV
  obtain ⟨aa0, ll0, cc0, rfl⟩ := okWide_slice Try.underlying62 (hval 0 62 v0 rfl rfl)
  have k0 := h0
  have lt0 : ∀ x ∈ p0, x.block < W.heap.size := by obtain ⟨m, hm⟩ := k0; exact DataW.trod_lt m _ _ _ hm
  obtain ⟨fu0, hf0⟩ := h0
  obtain ⟨x0, K0, V0⟩ := (opens_slice Try.underlying62 (by kernel_rfl) o73) enc W _ _ fu0 _ _ hf0
  obtain ⟨A0, C0, he0, L0, R0⟩ := K0
  obtain ⟨rfl, rfl, rfl⟩ : aa0 = A0 ∧ ll0 = x0.length ∧ cc0 = C0 := by simpa [Value.cells] using he0
  obtain ⟨c1, rfl, _⟩ := okWide_struct Try.underlying64 (hval 1 64 v1 rfl rfl)
  have k1 := h1
  have lt1 : ∀ x ∈ p1, x.block < W.heap.size := by obtain ⟨m, hm⟩ := k1; exact DataW.trod_lt m _ _ _ hm
  obtain ⟨fu1, hf1⟩ := h1
  obtain ⟨x1, K1, V1⟩ := o64 enc W _ _ fu1 _ _ hf1
  have he1 := k64_open K1
  obtain rfl : c1 = #[.string x1.f0, .int .i64 x1.f1] := by cases c1; simpa [Value.cells] using he1
  obtain ⟨c2, rfl, _⟩ := okWide_struct Try.underlying66 (hval 2 66 v2 rfl rfl)
  have k2 := h2
  have lt2 : ∀ x ∈ p2, x.block < W.heap.size := by obtain ⟨m, hm⟩ := k2; exact DataW.trod_lt m _ _ _ hm
  obtain ⟨fu2, hf2⟩ := h2
  obtain ⟨x2, K2, V2⟩ := o66 enc W _ _ fu2 _ _ hf2
  obtain ⟨A2_3, C2_3, he2, L2_3, R2_3⟩ := k66_open K2
  obtain rfl : c2 = #[.string x2.f0.f0, .int .i64 x2.f0.f1, .bool x2.f0.f2, .slice A2_3 x2.f0.f3.length C2_3, .int .i64 x2.f1] := by cases c2; simpa [Value.cells] using he2
  obtain ⟨k, hk⟩ := Pure.TierFind x0 x1 x2 V0 V1 V2
  refine (culetlaw16_TierFind.calls k _ _ x0 x1.f0 x1.f1 x2.f0.f0 x2.f0.f1 x2.f0.f2 _ _ x2.f0.f3 x2.f1 true W R0 L0 R2_3 L2_3 hk rfl).mono fun e W' ⟨he, bel0⟩ => ?_
  have bel : Below W.heap.size W W' := bel0
  subst he
  exact ⟨_, rfl, _, _, _, [], _, [], hW', trodAll_mk1 (shut_bool Try.underlying4 _), (trodAll_cons_mk (Below.trod laidOut (by kernel_rfl) (of_decide_eq_true (by kernel_rfl)) k0 bel lt0) (trodAll_cons_mk (Below.trod laidOut (by kernel_rfl) (of_decide_eq_true (by kernel_rfl)) k1 bel lt1) (trodAll_cons_mk (Below.trod laidOut (by kernel_rfl) (of_decide_eq_true (by kernel_rfl)) k2 bel lt2) trodAll_mk0))), rfl, bel.frame _, fun h => by cases h⟩
theorem over : Rows.tierFindRow.holds Try.pinned (OpenSpec.ofChange Rows.tierFindSpec) :=
  OpenClaim.holds_of_wide 6 Try.f6 rfl rfl rfl rfl rfl rfl rfl ⟨rfl, rfl, rfl, rfl, rfl⟩ rfl rfl rfl rfl rfl (by kernel_rfl) Try.func6 (by kernel_rfl)
    (of_decide_eq_true (by kernel_rfl)) (by unfold Func.isWrapper; first | (rw [if_pos (by decide +kernel)]; kernel_rfl) | (rw [if_neg (by decide +kernel)]; exact ⟨rfl, rfl⟩))
    (fun os started H enc _ => lifted os started H enc)
theorem proved : Rows.TierFindSaid := over
#print axioms proved
end Go.Proofs.Ytncemdpmooakgaa.tierFind
namespace Go.Proofs.Ytncemdpmooakgaa
/-- The row, under a short name, for the claim. -/
theorem tierFind_holds : Rows.TierFindSaid := tierFind.proved
end Go.Proofs.Ytncemdpmooakgaa
