/- The law JobWeight answers true at every input, and leaves its arguments as they were: the given statement, with no condition of its own. -/
import Derived.Test.YtndbchcfjajgbaaXB
import Derived.Test.YtndbchcfjajgbaaRows
import Derived.Test.YtndbchcfjajgbaaXP17
import Derived.Test.YtndbchcfjajgbaaPureJobWeight
import Derived.WalkKit
import Derived.ProofKit
import Derived.OpenShut
import Derived.ShutString
import Derived.ChangeOld
import Derived.Below
import Derived.SizedLaws
namespace Go.Proofs.Ytndbchcfjajgbaa.jobWeight
open Go.Proofs.Ytndbchcfjajgbaa.XB Go.Proofs.Ytndbchcfjajgbaa.XQ
open Go.ChangeShapes Go.WideShapes Go.ChangeAt Go.RowKit Go.Proofs.Ytndbchcfjajgbaa.XP Go.Proofs.Ytndbchcfjajgbaa.XW
open Go.ChangeMaps (open_string shut_string)
open Go.Proofs.YtndbchcfjajgbaaW.PrintWords
theorem own : ownKnob Try.prog.godebug = none := by kernel_rfl
theorem laidOut : laidOutB Try.prog = true := by kernel_rfl
set_option linter.unusedSimpArgs false
set_option maxRecDepth 100000 in
theorem lifted (os : Os) (started : os.Started) (H : Type) (enc : TypeId × Value → H) :
    ReturnsInHanded {} Try.checked os 10 .any (Rows.jobWeightSpec.pre6 enc Try.prog Try.f10 Rows.jobWeightRow.domain false) (Rows.jobWeightSpec.post enc Try.prog Try.f10 false true false false) := by
  refine returnsInHanded_of_change_sized (C := Try.checked) own started t_6f Try.func10
    (ChangeSpec.witness6 (enc := enc) (C := Try.checked) false ⟨#[], #[.agg #[.int .i64 0, .slice none 0 0, .slice none 0 0, .int .i64 0, .int .i64 0], .agg #[.int .i64 0, .int .i64 0, .string ByteArray.empty, .string ByteArray.empty, .string ByteArray.empty, .int .i64 0, .int .i64 0, .string ByteArray.empty, .int .i64 0]], []⟩ 8 t_6f t_6f t_6f t_6f) ?_
  intro W base args ds gs _ hval0 hW hcnd _ _
  have hval : ∀ (j : Nat) t v, Try.f10.params[j]? = some t → args[j]? = some v → Value.okWide Try.prog W .any base t v := hval0
  have hW' := hW
  obtain ⟨p, q, hA0, hV, rfl, _, _⟩ := hW
  have hA : DataW.TrodAll enc Try.prog W 0 (fun _ => true) true Try.f10.params.toList args.toList ds p := hA0
  rw [Try.params10] at hA hval
  obtain ⟨v0, vs0, d0, ds0, p0, q0, hargs, rfl, rfl, h0, r0⟩ := trodAll_cons hA
  obtain ⟨v1, vs1, d1, ds1, p1, q1, rfl, rfl, rfl, h1, r1⟩ := trodAll_cons r0
  obtain ⟨rfl, rfl, rfl⟩ := trodAll_nil r1
  obtain rfl : args = #[v0, v1] := by cases args; simp_all
  obtain ⟨rfl, rfl⟩ := trodVars_none hV
  obtain ⟨c0, rfl, _⟩ := okWide_struct Try.underlying67 (hval 0 67 v0 rfl rfl)
  have k0 := h0
  have lt0 : ∀ x ∈ p0, x.block < W.heap.size := by obtain ⟨m, hm⟩ := k0; exact DataW.trod_lt m _ _ _ hm
  obtain ⟨fu0, hf0⟩ := h0
  obtain ⟨x0, K0, V0⟩ := o67 enc W _ _ fu0 _ _ hf0
  obtain ⟨A0_1, C0_1, A0_2, C0_2, he0, L0_1, R0_1, L0_2, R0_2⟩ := k67_open K0
  obtain rfl : c0 = #[.int .i64 x0.f0, .slice A0_1 x0.f1.length C0_1, .slice A0_2 x0.f2.length C0_2, .int .i64 x0.f3, .int .i64 x0.f4] := by cases c0; simpa [Value.cells] using he0
  obtain ⟨c1, rfl, _⟩ := okWide_struct Try.underlying71 (hval 1 71 v1 rfl rfl)
  have k1 := h1
  have lt1 : ∀ x ∈ p1, x.block < W.heap.size := by obtain ⟨m, hm⟩ := k1; exact DataW.trod_lt m _ _ _ hm
  obtain ⟨fu1, hf1⟩ := h1
  obtain ⟨x1, K1, V1⟩ := o71 enc W _ _ fu1 _ _ hf1
  have he1 := k71_open K1
  obtain rfl : c1 = #[.int .i64 x1.f0, .int .i64 x1.f1, .string x1.f2.f0, .string x1.f2.f1, .string x1.f2.f2, .int .i64 x1.f2.f3, .int .i64 x1.f2.f4, .string x1.f3, .int .i64 x1.f4] := by cases c1; simpa [Value.cells] using he1
  obtain ⟨k, hk⟩ := Pure.JobWeight x0 x1 V0 V1
  refine (culetlaw54_JobWeight.calls k x0.f0 _ _ x0.f1 _ _ x0.f2 x0.f3 x0.f4 x1.f0 x1.f1 x1.f2.f0 x1.f2.f1 x1.f2.f2 x1.f2.f3 x1.f2.f4 x1.f3 x1.f4 true W R0_1 L0_1 R0_2 L0_2 hk rfl).mono fun e W' ⟨he, bel0⟩ => ?_
  have bel : Below W.heap.size W W' := bel0
  subst he
  exact ⟨_, rfl, _, _, _, [], _, [], hW', trodAll_mk1 (shut_bool Try.underlying4 _), (trodAll_cons_mk (Below.trod laidOut t_6f (of_decide_eq_true t_6f) k0 bel lt0) (trodAll_cons_mk (Below.trod laidOut t_6f (of_decide_eq_true t_6f) k1 bel lt1) trodAll_mk0)), rfl, bel.frame _, fun h => by cases h⟩
theorem over : Rows.jobWeightRow.holds Try.pinned (OpenSpec.ofChange Rows.jobWeightSpec) :=
  OpenClaim.holds_of_wide 10 Try.f10 rfl rfl rfl rfl rfl rfl rfl ⟨rfl, rfl, rfl, rfl, rfl⟩ rfl rfl rfl rfl rfl t_6f Try.func10 t_6f
    (of_decide_eq_true t_6f) (by unfold Func.isWrapper; first | (rw [if_pos (by decide +kernel)]; kernel_rfl) | (rw [if_neg (by decide +kernel)]; exact ⟨rfl, rfl⟩))
    (fun os started H enc _ => lifted os started H enc)
theorem proved : Rows.JobWeightSaid := over
#print axioms proved
end Go.Proofs.Ytndbchcfjajgbaa.jobWeight
namespace Go.Proofs.Ytndbchcfjajgbaa
/-- The row, under a short name, for the claim. -/
theorem jobWeight_holds : Rows.JobWeightSaid := jobWeight.proved
end Go.Proofs.Ytndbchcfjajgbaa
