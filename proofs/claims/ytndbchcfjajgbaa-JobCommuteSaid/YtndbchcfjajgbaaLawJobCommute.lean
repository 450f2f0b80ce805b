/- The law JobCommute answers true at every input, and leaves its arguments as they were: the given statement, with no condition of its own. -/
import Derived.Test.YtndbchcfjajgbaaXB
import Derived.Test.YtndbchcfjajgbaaRows
import Derived.Test.YtndbchcfjajgbaaXP18
import Derived.Test.YtndbchcfjajgbaaPureJobCommute
import Derived.WalkKit
import Derived.ProofKit
import Derived.OpenShut
import Derived.ShutString
import Derived.ChangeOld
import Derived.Below
import Derived.SizedLaws
namespace Go.Proofs.Ytndbchcfjajgbaa.jobCommute
open Go.Proofs.Ytndbchcfjajgbaa.XB Go.Proofs.Ytndbchcfjajgbaa.XQ
open Go.ChangeShapes Go.WideShapes Go.ChangeAt Go.RowKit Go.Proofs.Ytndbchcfjajgbaa.XP Go.Proofs.Ytndbchcfjajgbaa.XW
open Go.ChangeMaps (open_string shut_string)
open Go.Proofs.YtndbchcfjajgbaaW.PrintWords
theorem own : ownKnob Try.prog.godebug = none := by kernel_rfl
theorem laidOut : laidOutB Try.prog = true := by kernel_rfl
set_option linter.unusedSimpArgs false
set_option maxRecDepth 100000 in
theorem lifted (os : Os) (started : os.Started) (H : Type) (enc : TypeId × Value → H) :
    ReturnsInHanded {} Try.checked os 13 .any (Rows.jobCommuteSpec.pre6 enc Try.prog Try.f13 Rows.jobCommuteRow.domain false) (Rows.jobCommuteSpec.post enc Try.prog Try.f13 false true false false) := by
  refine returnsInHanded_of_change_sized (C := Try.checked) own started t_8e Try.func13
    (ChangeSpec.witness6 (enc := enc) (C := Try.checked) false ⟨#[], #[.agg #[.int .i64 0, .slice none 0 0, .slice none 0 0, .int .i64 0, .int .i64 0], .agg #[.int .i64 0, .int .i64 0, .string ByteArray.empty, .string ByteArray.empty, .string ByteArray.empty, .int .i64 0, .int .i64 0, .string ByteArray.empty, .int .i64 0], .agg #[.int .i64 0, .int .i64 0, .string ByteArray.empty, .string ByteArray.empty, .string ByteArray.empty, .int .i64 0, .int .i64 0, .string ByteArray.empty, .int .i64 0]], []⟩ 8 t_8e t_8e t_8e t_8e) ?_
  intro W base args ds gs _ hval0 hW hcnd _ _
  have hval : ∀ (j : Nat) t v, Try.f13.params[j]? = some t → args[j]? = some v → Value.okWide Try.prog W .any base t v := hval0
  have hW' := hW
  obtain ⟨p, q, hA0, hV, rfl, _, _⟩ := hW
  have hA : DataW.TrodAll enc Try.prog W 0 (fun _ => true) true Try.f13.params.toList args.toList ds p := hA0
  rw [Try.params13] at hA hval
  obtain ⟨v0, vs0, d0, ds0, p0, q0, hargs, rfl, rfl, h0, r0⟩ := trodAll_cons hA
  obtain ⟨v1, vs1, d1, ds1, p1, q1, rfl, rfl, rfl, h1, r1⟩ := trodAll_cons r0
  obtain ⟨v2, vs2, d2, ds2, p2, q2, rfl, rfl, rfl, h2, r2⟩ := trodAll_cons r1
  obtain ⟨rfl, rfl, rfl⟩ := trodAll_nil r2
  obtain rfl : args = #[v0, v1, v2] := by cases args; simp_all
  obtain ⟨rfl, rfl⟩ := trodVars_none hV
  obtain ⟨c0, rfl, _⟩ := okWide_struct Try.underlying67 (hval 0 67 v0 rfl rfl)
  have k0 := h0
  have lt0 : ∀ x ∈ p0, x.block < W.heap.size := by obtain ⟨m, hm⟩ := k0; exact DataW.trod_lt m _ _ _ hm
  obtain ⟨fu0, hf0⟩ := h0
  obtain ⟨x0, K0, V0⟩ := o67 enc W _ _ fu0 _ _ hf0
  obtain ⟨A0_1, C0_1, A0_2, C0_2, he0, L0_1, R0_1, L0_2, R0_2⟩ := k67_open K0
  obtain rfl : c0 = #[.int .i64 x0.f0, .slice A0_1 x0.f1.length C0_1, .slice A0_2 x0.f2.length C0_2, .int .i64 x0.f3, .int .i64 x0.f4] := by cases c0; simpa [Value.cells] using he0
  obtain ⟨c1, rfl, _⟩ := okWide_struct Try.underlying71 (hval 1 71 v1 rfl rfl)
  have k1 := h1
  have lt1 : ∀ x ∈ p1, x.block < W.heap.size := by obtain ⟨m, hm⟩ := k1; exact DataW.trod_lt m _ _ _ hm
  obtain ⟨fu1, hf1⟩ := h1
  obtain ⟨x1, K1, V1⟩ := o71 enc W _ _ fu1 _ _ hf1
  have he1 := k71_open K1
  obtain rfl : c1 = #[.int .i64 x1.f0, .int .i64 x1.f1, .string x1.f2.f0, .string x1.f2.f1, .string x1.f2.f2, .int .i64 x1.f2.f3, .int .i64 x1.f2.f4, .string x1.f3, .int .i64 x1.f4] := by cases c1; simpa [Value.cells] using he1
  obtain ⟨c2, rfl, _⟩ := okWide_struct Try.underlying71 (hval 2 71 v2 rfl rfl)
  have k2 := h2
  have lt2 : ∀ x ∈ p2, x.block < W.heap.size := by obtain ⟨m, hm⟩ := k2; exact DataW.trod_lt m _ _ _ hm
  obtain ⟨fu2, hf2⟩ := h2
  obtain ⟨x2, K2, V2⟩ := o71 enc W _ _ fu2 _ _ hf2
  have he2 := k71_open K2
  obtain rfl : c2 = #[.int .i64 x2.f0, .int .i64 x2.f1, .string x2.f2.f0, .string x2.f2.f1, .string x2.f2.f2, .int .i64 x2.f2.f3, .int .i64 x2.f2.f4, .string x2.f3, .int .i64 x2.f4] := by cases c2; simpa [Value.cells] using he2
  obtain ⟨k, hk⟩ := Pure.JobCommute x0 x1 x2 V0 V1 V2
  refine (culetlaw54_JobCommute.calls k x0.f0 _ _ x0.f1 _ _ x0.f2 x0.f3 x0.f4 x1.f0 x1.f1 x1.f2.f0 x1.f2.f1 x1.f2.f2 x1.f2.f3 x1.f2.f4 x1.f3 x1.f4 x2.f0 x2.f1 x2.f2.f0 x2.f2.f1 x2.f2.f2 x2.f2.f3 x2.f2.f4 x2.f3 x2.f4 true W R0_1 L0_1 R0_2 L0_2 hk rfl).mono fun e W' ⟨he, bel0⟩ => ?_
  have bel : Below W.heap.size W W' := bel0
  subst he
  exact ⟨_, rfl, _, _, _, [], _, [], hW', trodAll_mk1 (shut_bool Try.underlying4 _), (trodAll_cons_mk (Below.trod laidOut t_8e (of_decide_eq_true t_8e) k0 bel lt0) (trodAll_cons_mk (Below.trod laidOut t_8e (of_decide_eq_true t_8e) k1 bel lt1) (trodAll_cons_mk (Below.trod laidOut t_8e (of_decide_eq_true t_8e) k2 bel lt2) trodAll_mk0))), rfl, bel.frame _, fun h => by cases h⟩
theorem over : Rows.jobCommuteRow.holds Try.pinned (OpenSpec.ofChange Rows.jobCommuteSpec) :=
  OpenClaim.holds_of_wide 13 Try.f13 rfl rfl rfl rfl rfl rfl rfl ⟨rfl, rfl, rfl, rfl, rfl⟩ rfl rfl rfl rfl rfl t_8e Try.func13 t_8e
    (of_decide_eq_true t_8e) (by unfold Func.isWrapper; first | (rw [if_pos (by decide +kernel)]; kernel_rfl) | (rw [if_neg (by decide +kernel)]; exact ⟨rfl, rfl⟩))
    (fun os started H enc _ => lifted os started H enc)
theorem proved : Rows.JobCommuteSaid := over
#print axioms proved
end Go.Proofs.Ytndbchcfjajgbaa.jobCommute
namespace Go.Proofs.Ytndbchcfjajgbaa
/-- The row, under a short name, for the claim. -/
theorem jobCommute_holds : Rows.JobCommuteSaid := jobCommute.proved
end Go.Proofs.Ytndbchcfjajgbaa
