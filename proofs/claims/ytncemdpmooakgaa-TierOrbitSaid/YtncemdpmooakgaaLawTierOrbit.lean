/- The law TierOrbit answers true at every input, and leaves its arguments as they were: the given statement, with no condition of its own. -/
import Derived.Test.YtncemdpmooakgaaRows
import Derived.Test.YtncemdpmooakgaaXK6
import Derived.Test.YtncemdpmooakgaaPureTierOrbit
import Derived.WalkKit
import Derived.ProofKit
import Derived.OpenShut
import Derived.ShutString
import Derived.ChangeOld
import Derived.Below
import Derived.SizedLaws
namespace Go.Proofs.Ytncemdpmooakgaa.tierOrbit
open Go.ChangeShapes Go.WideShapes Go.ChangeAt Go.RowKit Go.Proofs.Ytncemdpmooakgaa.XK Go.Proofs.Ytncemdpmooakgaa.XW
open Go.ChangeMaps (open_string shut_string)
open Go.Proofs.YtncemdpmooakgaaW.PrintWords
theorem own : ownKnob Try.prog.godebug = none := by kernel_rfl
theorem laidOut : laidOutB Try.prog = true := by kernel_rfl
set_option maxRecDepth 100000 in
theorem lifted (os : Os) (started : os.Started) (H : Type) (enc : TypeId × Value → H) :
    ReturnsInHanded {} Try.checked os 4 .any (Rows.tierOrbitSpec.pre6 enc Try.prog Try.f4 Rows.tierOrbitRow.domain false) (Rows.tierOrbitSpec.post enc Try.prog Try.f4 false true false false) := by
  refine returnsInHanded_of_change_sized (C := Try.checked) own started (by kernel_rfl) Try.func4
    (ChangeSpec.witness6 (enc := enc) (C := Try.checked) false ⟨#[], #[.agg #[.int .i64 0, .int .i64 0, .string ByteArray.empty, .int .i64 0, .int .i64 0, .slice none 0 0, .int .i64 0, .bool false, .string ByteArray.empty, .bool false, .string ByteArray.empty, .bool false, .string ByteArray.empty, .bool false, .string ByteArray.empty, .bool false, .string ByteArray.empty, .bool false, .string ByteArray.empty, .bool false, .string ByteArray.empty, .bool false, .string ByteArray.empty, .bool false, .string ByteArray.empty, .bool false, .string ByteArray.empty, .bool false, .string ByteArray.empty, .bool false, .string ByteArray.empty, .bool false, .string ByteArray.empty, .bool false, .string ByteArray.empty, .bool false, .string ByteArray.empty, .bool false, .string ByteArray.empty, .bool false, .string ByteArray.empty, .bool false, .string ByteArray.empty, .bool false, .string ByteArray.empty, .bool false, .string ByteArray.empty, .slice none 0 0, .bool false]], []⟩ 8 (by kernel_rfl) (by kernel_rfl) (by kernel_rfl) (by kernel_rfl)) ?_
  intro W base args ds gs _ hval0 hW hcnd _ _
  have hval : ∀ (j : Nat) t v, Try.f4.params[j]? = some t → args[j]? = some v → Value.okWide Try.prog W .any base t v := hval0
  have hW' := hW
  obtain ⟨p, q, hA0, hV, rfl, _, _⟩ := hW
  have hA : DataW.TrodAll enc Try.prog W 0 (fun _ => true) true Try.f4.params.toList args.toList ds p := hA0
  rw [Try.params4] at hA hval
  obtain ⟨v0, vs0, d0, ds0, p0, q0, hargs, rfl, rfl, h0, r0⟩ := trodAll_cons hA
  obtain ⟨rfl, rfl, rfl⟩ := trodAll_nil r0
  obtain rfl : args = #[v0] := by cases args; simp_all
  obtain ⟨rfl, rfl⟩ := trodVars_none hV
  obtain ⟨c0, rfl, _⟩ := okWide_struct Try.underlying53 (hval 0 53 v0 rfl rfl)
  have k0 := h0
  have lt0 : ∀ x ∈ p0, x.block < W.heap.size := by obtain ⟨m, hm⟩ := k0; exact DataW.trod_lt m _ _ _ hm
  obtain ⟨fu0, hf0⟩ := h0
  obtain ⟨x0, K0, V0⟩ := o53 enc W _ _ fu0 _ _ hf0
  obtain ⟨A0_5, C0_5, A0_47, C0_47, he0, L0_5, R0_5, L0_47, R0_47⟩ := k53_open K0
  obtain rfl : c0 = #[.int .i64 x0.f0, .int .i64 x0.f1, .string x0.f2.f0, .int .i64 x0.f2.f1, .int .i64 x0.f2.f2, .slice A0_5 x0.f2.f3.length C0_5, .int .i64 x0.f2.f4.f0, .bool x0.f2.f4.f1.f0.f0.f0, .string x0.f2.f4.f1.f0.f0.f1, .bool x0.f2.f4.f1.f0.f1.f0, .string x0.f2.f4.f1.f0.f1.f1, .bool x0.f2.f4.f1.f0.f2.f0, .string x0.f2.f4.f1.f0.f2.f1, .bool x0.f2.f4.f1.f0.f3.f0, .string x0.f2.f4.f1.f0.f3.f1, .bool x0.f2.f4.f1.f1.f0, .string x0.f2.f4.f1.f1.f1, .bool x0.f2.f4.f2.f0.f0.f0.f0, .string x0.f2.f4.f2.f0.f0.f0.f1, .bool x0.f2.f4.f2.f0.f0.f1.f0, .string x0.f2.f4.f2.f0.f0.f1.f1, .bool x0.f2.f4.f2.f0.f0.f2.f0, .string x0.f2.f4.f2.f0.f0.f2.f1, .bool x0.f2.f4.f2.f0.f0.f3.f0, .string x0.f2.f4.f2.f0.f0.f3.f1, .bool x0.f2.f4.f2.f0.f1.f0, .string x0.f2.f4.f2.f0.f1.f1, .bool x0.f2.f4.f2.f1.f0.f0.f0, .string x0.f2.f4.f2.f1.f0.f0.f1, .bool x0.f2.f4.f2.f1.f0.f1.f0, .string x0.f2.f4.f2.f1.f0.f1.f1, .bool x0.f2.f4.f2.f1.f0.f2.f0, .string x0.f2.f4.f2.f1.f0.f2.f1, .bool x0.f2.f4.f2.f1.f0.f3.f0, .string x0.f2.f4.f2.f1.f0.f3.f1, .bool x0.f2.f4.f2.f1.f1.f0, .string x0.f2.f4.f2.f1.f1.f1, .bool x0.f2.f4.f2.f2.f0.f0.f0, .string x0.f2.f4.f2.f2.f0.f0.f1, .bool x0.f2.f4.f2.f2.f0.f1.f0, .string x0.f2.f4.f2.f2.f0.f1.f1, .bool x0.f2.f4.f2.f2.f0.f2.f0, .string x0.f2.f4.f2.f2.f0.f2.f1, .bool x0.f2.f4.f2.f2.f0.f3.f0, .string x0.f2.f4.f2.f2.f0.f3.f1, .bool x0.f2.f4.f2.f2.f1.f0, .string x0.f2.f4.f2.f2.f1.f1, .slice A0_47 x0.f2.f4.f3.length C0_47, .bool x0.f3] := by cases c0; simpa [Value.cells] using he0
  obtain ⟨k, hk⟩ := Pure.TierOrbit x0 V0
  refine (culetlaw16_TierOrbit.calls k x0.f0 x0.f1 x0.f2.f0 x0.f2.f1 x0.f2.f2 _ _ x0.f2.f3 x0.f2.f4.f0 x0.f2.f4.f1.f0.f0.f0 x0.f2.f4.f1.f0.f0.f1 x0.f2.f4.f1.f0.f1.f0 x0.f2.f4.f1.f0.f1.f1 x0.f2.f4.f1.f0.f2.f0 x0.f2.f4.f1.f0.f2.f1 x0.f2.f4.f1.f0.f3.f0 x0.f2.f4.f1.f0.f3.f1 x0.f2.f4.f1.f1.f0 x0.f2.f4.f1.f1.f1 x0.f2.f4.f2.f0.f0.f0.f0 x0.f2.f4.f2.f0.f0.f0.f1 x0.f2.f4.f2.f0.f0.f1.f0 x0.f2.f4.f2.f0.f0.f1.f1 x0.f2.f4.f2.f0.f0.f2.f0 x0.f2.f4.f2.f0.f0.f2.f1 x0.f2.f4.f2.f0.f0.f3.f0 x0.f2.f4.f2.f0.f0.f3.f1 x0.f2.f4.f2.f0.f1.f0 x0.f2.f4.f2.f0.f1.f1 x0.f2.f4.f2.f1.f0.f0.f0 x0.f2.f4.f2.f1.f0.f0.f1 x0.f2.f4.f2.f1.f0.f1.f0 x0.f2.f4.f2.f1.f0.f1.f1 x0.f2.f4.f2.f1.f0.f2.f0 x0.f2.f4.f2.f1.f0.f2.f1 x0.f2.f4.f2.f1.f0.f3.f0 x0.f2.f4.f2.f1.f0.f3.f1 x0.f2.f4.f2.f1.f1.f0 x0.f2.f4.f2.f1.f1.f1 x0.f2.f4.f2.f2.f0.f0.f0 x0.f2.f4.f2.f2.f0.f0.f1 x0.f2.f4.f2.f2.f0.f1.f0 x0.f2.f4.f2.f2.f0.f1.f1 x0.f2.f4.f2.f2.f0.f2.f0 x0.f2.f4.f2.f2.f0.f2.f1 x0.f2.f4.f2.f2.f0.f3.f0 x0.f2.f4.f2.f2.f0.f3.f1 x0.f2.f4.f2.f2.f1.f0 x0.f2.f4.f2.f2.f1.f1 _ _ x0.f2.f4.f3 x0.f3 true W R0_5 L0_5 R0_47 L0_47 hk).mono fun e W' ⟨he, bel0⟩ => ?_
  have bel : Below W.heap.size W W' := bel0
  subst he
  exact ⟨_, rfl, _, _, _, [], _, [], hW', trodAll_mk1 (shut_bool Try.underlying4 _), (trodAll_cons_mk (Below.trod laidOut (by kernel_rfl) (of_decide_eq_true (by kernel_rfl)) k0 bel lt0) trodAll_mk0), rfl, bel.frame _, fun h => by cases h⟩
theorem over : Rows.tierOrbitRow.holds Try.pinned (OpenSpec.ofChange Rows.tierOrbitSpec) :=
  OpenClaim.holds_of_wide 4 Try.f4 rfl rfl rfl rfl rfl rfl rfl ⟨rfl, rfl, rfl, rfl, rfl⟩ rfl rfl rfl rfl rfl (by kernel_rfl) Try.func4 (by kernel_rfl)
    (of_decide_eq_true (by kernel_rfl)) (by unfold Func.isWrapper; first | (rw [if_pos (by decide +kernel)]; kernel_rfl) | (rw [if_neg (by decide +kernel)]; exact ⟨rfl, rfl⟩))
    (fun os started H enc _ => lifted os started H enc)
theorem proved : Rows.TierOrbitSaid := over
#print axioms proved
end Go.Proofs.Ytncemdpmooakgaa.tierOrbit
namespace Go.Proofs.Ytncemdpmooakgaa
/-- The row, under a short name, for the claim. -/
theorem tierOrbit_holds : Rows.TierOrbitSaid := tierOrbit.proved
end Go.Proofs.Ytncemdpmooakgaa
