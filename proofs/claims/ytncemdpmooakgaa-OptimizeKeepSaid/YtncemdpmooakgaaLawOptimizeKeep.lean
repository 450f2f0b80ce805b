/- The law OptimizeKeep answers true at every input, and leaves its arguments as they were: the given statement, with no condition of its own. -/
import Derived.Test.YtncemdpmooakgaaRows
import Derived.Test.YtncemdpmooakgaaXK6
import Derived.Test.YtncemdpmooakgaaPureOptimizeKeep
import Derived.WalkKit
import Derived.ProofKit
import Derived.OpenShut
import Derived.ShutString
import Derived.ChangeOld
import Derived.Below
import Derived.SizedLaws
namespace Go.Proofs.Ytncemdpmooakgaa.optimizeKeep
open Go.ChangeShapes Go.WideShapes Go.ChangeAt Go.RowKit Go.Proofs.Ytncemdpmooakgaa.XK Go.Proofs.Ytncemdpmooakgaa.XW
open Go.ChangeMaps (open_string shut_string)
open Go.Proofs.YtncemdpmooakgaaW.PrintWords
theorem own : ownKnob Try.prog.godebug = none := by kernel_rfl
theorem laidOut : laidOutB Try.prog = true := by kernel_rfl
set_option maxRecDepth 100000 in
theorem lifted (os : Os) (started : os.Started) (H : Type) (enc : TypeId × Value → H) :
    ReturnsInHanded {} Try.checked os 3 .any (Rows.optimizeKeepSpec.pre6 enc Try.prog Try.f3 Rows.optimizeKeepRow.domain false) (Rows.optimizeKeepSpec.post enc Try.prog Try.f3 false true false false) := by
  refine returnsInHanded_of_change_sized (C := Try.checked) own started (by kernel_rfl) Try.func3
    (ChangeSpec.witness6 (enc := enc) (C := Try.checked) false ⟨#[], #[.slice none 0 0], []⟩ 8 (by kernel_rfl) (by kernel_rfl) (by kernel_rfl) (by kernel_rfl)) ?_
  intro W base args ds gs _ hval0 hW hcnd _ _
  have hval : ∀ (j : Nat) t v, Try.f3.params[j]? = some t → args[j]? = some v → Value.okWide Try.prog W .any base t v := hval0
  have hW' := hW
  obtain ⟨p, q, hA0, hV, rfl, _, _⟩ := hW
  have hA : DataW.TrodAll enc Try.prog W 0 (fun _ => true) true Try.f3.params.toList args.toList ds p := hA0
  rw [Try.params3] at hA hval
  obtain ⟨v0, vs0, d0, ds0, p0, q0, hargs, rfl, rfl, h0, r0⟩ := trodAll_cons hA
  obtain ⟨rfl, rfl, rfl⟩ := trodAll_nil r0
  obtain rfl : args = #[v0] := by cases args; simp_all
  obtain ⟨rfl, rfl⟩ := trodVars_none hV
  obtain ⟨aa0, ll0, cc0, rfl⟩ := okWide_slice Try.underlying22 (hval 0 22 v0 rfl rfl)
  have k0 := h0
  have lt0 : ∀ x ∈ p0, x.block < W.heap.size := by obtain ⟨m, hm⟩ := k0; exact DataW.trod_lt m _ _ _ hm
  obtain ⟨fu0, hf0⟩ := h0
  obtain ⟨x0, K0, V0⟩ := (opens_slice Try.underlying22 (by kernel_rfl) o38) enc W _ _ fu0 _ _ hf0
  obtain ⟨A0, C0, he0, L0, R0⟩ := K0
  obtain ⟨rfl, rfl, rfl⟩ : aa0 = A0 ∧ ll0 = x0.length ∧ cc0 = C0 := by simpa [Value.cells] using he0
  obtain ⟨k, hk⟩ := Pure.OptimizeKeep x0 V0
  refine (culetlaw39_OptimizeKeep.calls k _ _ x0 true W R0 L0 hk).mono fun e W' ⟨he, bel0⟩ => ?_
  have bel : Below W.heap.size W W' := bel0
  subst he
  exact ⟨_, rfl, _, _, _, [], _, [], hW', trodAll_mk1 (shut_bool Try.underlying4 _), (trodAll_cons_mk (Below.trod laidOut (by kernel_rfl) (of_decide_eq_true (by kernel_rfl)) k0 bel lt0) trodAll_mk0), rfl, bel.frame _, fun h => by cases h⟩
theorem over : Rows.optimizeKeepRow.holds Try.pinned (OpenSpec.ofChange Rows.optimizeKeepSpec) :=
  OpenClaim.holds_of_wide 3 Try.f3 rfl rfl rfl rfl rfl rfl rfl ⟨rfl, rfl, rfl, rfl, rfl⟩ rfl rfl rfl rfl rfl (by kernel_rfl) Try.func3 (by kernel_rfl)
    (of_decide_eq_true (by kernel_rfl)) (by unfold Func.isWrapper; first | (rw [if_pos (by decide +kernel)]; kernel_rfl) | (rw [if_neg (by decide +kernel)]; exact ⟨rfl, rfl⟩))
    (fun os started H enc _ => lifted os started H enc)
theorem proved : Rows.OptimizeKeepSaid := over
#print axioms proved
end Go.Proofs.Ytncemdpmooakgaa.optimizeKeep
namespace Go.Proofs.Ytncemdpmooakgaa
/-- The row, under a short name, for the claim. -/
theorem optimizeKeep_holds : Rows.OptimizeKeepSaid := optimizeKeep.proved
end Go.Proofs.Ytncemdpmooakgaa
