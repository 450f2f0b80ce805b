/- The law JobEarned answers true at every input, and leaves its arguments as they were: the given statement, with no condition of its own. -/
import Derived.Test.YtndbchcfjajgbaaXB
import Derived.Test.YtndbchcfjajgbaaRows
import Derived.Test.YtndbchcfjajgbaaXP18
import Derived.Test.YtndbchcfjajgbaaPureJobEarned
import Derived.WalkKit
import Derived.ProofKit
import Derived.OpenShut
import Derived.ShutString
import Derived.ChangeOld
import Derived.Below
import Derived.SizedLaws
namespace Go.Proofs.Ytndbchcfjajgbaa.jobEarned
open Go.Proofs.Ytndbchcfjajgbaa.XB Go.Proofs.Ytndbchcfjajgbaa.XQ
open Go.ChangeShapes Go.WideShapes Go.ChangeAt Go.RowKit Go.Proofs.Ytndbchcfjajgbaa.XP Go.Proofs.Ytndbchcfjajgbaa.XW
open Go.ChangeMaps (open_string shut_string)
open Go.Proofs.YtndbchcfjajgbaaW.PrintWords
theorem own : ownKnob Try.prog.godebug = none := by kernel_rfl
theorem laidOut : laidOutB Try.prog = true := by kernel_rfl
set_option linter.unusedSimpArgs false
set_option maxRecDepth 100000 in
theorem lifted (os : Os) (started : os.Started) (H : Type) (enc : TypeId × Value → H) :
    ReturnsInHanded {} Try.checked os 11 .any (Rows.jobEarnedSpec.pre6 enc Try.prog Try.f11 Rows.jobEarnedRow.domain false) (Rows.jobEarnedSpec.post enc Try.prog Try.f11 false true false false) := by
  refine returnsInHanded_of_change_sized (C := Try.checked) own started t_67 Try.func11
    (ChangeSpec.witness6 (enc := enc) (C := Try.checked) false ⟨#[], #[.slice none 0 0, .slice none 0 0], []⟩ 8 t_67 t_67 t_67 t_67) ?_
  intro W base args ds gs _ hval0 hW hcnd _ _
  have hval : ∀ (j : Nat) t v, Try.f11.params[j]? = some t → args[j]? = some v → Value.okWide Try.prog W .any base t v := hval0
  have hW' := hW
  obtain ⟨p, q, hA0, hV, rfl, _, _⟩ := hW
  have hA : DataW.TrodAll enc Try.prog W 0 (fun _ => true) true Try.f11.params.toList args.toList ds p := hA0
  rw [Try.params11] at hA hval
  obtain ⟨v0, vs0, d0, ds0, p0, q0, hargs, rfl, rfl, h0, r0⟩ := trodAll_cons hA
  obtain ⟨v1, vs1, d1, ds1, p1, q1, rfl, rfl, rfl, h1, r1⟩ := trodAll_cons r0
  obtain ⟨rfl, rfl, rfl⟩ := trodAll_nil r1
  obtain rfl : args = #[v0, v1] := by cases args; simp_all
  obtain ⟨rfl, rfl⟩ := trodVars_none hV
  obtain ⟨aa0, ll0, cc0, rfl⟩ := okWide_slice Try.underlying22 (hval 0 22 v0 rfl rfl)
  have k0 := h0
  have lt0 : ∀ x ∈ p0, x.block < W.heap.size := by obtain ⟨m, hm⟩ := k0; exact DataW.trod_lt m _ _ _ hm
  obtain ⟨fu0, hf0⟩ := h0
  obtain ⟨x0, K0, V0⟩ := (opens_slice Try.underlying22 t_67 o24) enc W _ _ fu0 _ _ hf0
  obtain ⟨A0, C0, he0, L0, R0⟩ := K0
  obtain ⟨rfl, rfl, rfl⟩ : aa0 = A0 ∧ ll0 = x0.length ∧ cc0 = C0 := by simpa [Value.cells] using he0
  obtain ⟨aa1, ll1, cc1, rfl⟩ := okWide_slice Try.underlying74 (hval 1 74 v1 rfl rfl)
  have k1 := h1
  have lt1 : ∀ x ∈ p1, x.block < W.heap.size := by obtain ⟨m, hm⟩ := k1; exact DataW.trod_lt m _ _ _ hm
  obtain ⟨fu1, hf1⟩ := h1
  obtain ⟨x1, K1, V1⟩ := (opens_slice Try.underlying74 t_67 o71) enc W _ _ fu1 _ _ hf1
  obtain ⟨A1, C1, he1, L1, R1⟩ := K1
  obtain ⟨rfl, rfl, rfl⟩ : aa1 = A1 ∧ ll1 = x1.length ∧ cc1 = C1 := by simpa [Value.cells] using he1
  obtain ⟨k, hk⟩ := Pure.JobEarned x0 x1 V0 V1
  refine (culetlaw54_JobEarned.calls k _ _ x0 _ _ x1 true W R0 L0 R1 L1 hk rfl).mono fun e W' ⟨he, bel0⟩ => ?_
  have bel : Below W.heap.size W W' := bel0
  subst he
  exact ⟨_, rfl, _, _, _, [], _, [], hW', trodAll_mk1 (shut_bool Try.underlying4 _), (trodAll_cons_mk (Below.trod laidOut t_67 (of_decide_eq_true t_67) k0 bel lt0) (trodAll_cons_mk (Below.trod laidOut t_67 (of_decide_eq_true t_67) k1 bel lt1) trodAll_mk0)), rfl, bel.frame _, fun h => by cases h⟩
theorem over : Rows.jobEarnedRow.holds Try.pinned (OpenSpec.ofChange Rows.jobEarnedSpec) :=
  OpenClaim.holds_of_wide 11 Try.f11 rfl rfl rfl rfl rfl rfl rfl ⟨rfl, rfl, rfl, rfl, rfl⟩ rfl rfl rfl rfl rfl t_67 Try.func11 t_67
    (of_decide_eq_true t_67) (by unfold Func.isWrapper; first | (rw [if_pos (by decide +kernel)]; kernel_rfl) | (rw [if_neg (by decide +kernel)]; exact ⟨rfl, rfl⟩))
    (fun os started H enc _ => lifted os started H enc)
theorem proved : Rows.JobEarnedSaid := over
#print axioms proved
end Go.Proofs.Ytndbchcfjajgbaa.jobEarned
namespace Go.Proofs.Ytndbchcfjajgbaa
/-- The row, under a short name, for the claim. -/
theorem jobEarned_holds : Rows.JobEarnedSaid := jobEarned.proved
end Go.Proofs.Ytndbchcfjajgbaa
