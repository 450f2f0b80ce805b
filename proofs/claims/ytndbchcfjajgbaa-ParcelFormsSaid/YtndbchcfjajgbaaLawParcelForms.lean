/- The law ParcelForms answers true at every input, and leaves its arguments as they were: the given statement, with no condition of its own. -/
import Derived.Test.YtndbchcfjajgbaaRows
import Derived.Test.YtndbchcfjajgbaaXP18
import Derived.Test.YtndbchcfjajgbaaPureParcelForms
import Derived.WalkKit
import Derived.ProofKit
import Derived.OpenShut
import Derived.ShutString
import Derived.ChangeOld
import Derived.Below
import Derived.SizedLaws
namespace Go.Proofs.Ytndbchcfjajgbaa.parcelForms
open Go.ChangeShapes Go.WideShapes Go.ChangeAt Go.RowKit Go.Proofs.Ytndbchcfjajgbaa.XP Go.Proofs.Ytndbchcfjajgbaa.XW
open Go.ChangeMaps (open_string shut_string)
open Go.Proofs.YtndbchcfjajgbaaW.PrintWords
theorem own : ownKnob Try.prog.godebug = none := by kernel_rfl
theorem laidOut : laidOutB Try.prog = true := by kernel_rfl
set_option linter.unusedSimpArgs false
set_option maxRecDepth 100000 in
theorem lifted (os : Os) (started : os.Started) (H : Type) (enc : TypeId × Value → H) :
    ReturnsInHanded {} Try.checked os 8 .any (Rows.parcelFormsSpec.pre6 enc Try.prog Try.f8 Rows.parcelFormsRow.domain false) (Rows.parcelFormsSpec.post enc Try.prog Try.f8 false true false false) := by
  refine returnsInHanded_of_change_sized (C := Try.checked) own started (by kernel_rfl) Try.func8
    (ChangeSpec.witness6 (enc := enc) (C := Try.checked) false ⟨#[], #[.slice none 0 0, .string ByteArray.empty, .agg #[.string ByteArray.empty, .slice none 0 0]], []⟩ 8 (by kernel_rfl) (by kernel_rfl) (by kernel_rfl) (by kernel_rfl)) ?_
  intro W base args ds gs _ hval0 hW hcnd _ _
  have hval : ∀ (j : Nat) t v, Try.f8.params[j]? = some t → args[j]? = some v → Value.okWide Try.prog W .any base t v := hval0
  have hW' := hW
  obtain ⟨p, q, hA0, hV, rfl, _, _⟩ := hW
  have hA : DataW.TrodAll enc Try.prog W 0 (fun _ => true) true Try.f8.params.toList args.toList ds p := hA0
  rw [Try.params8] at hA hval
  obtain ⟨v0, vs0, d0, ds0, p0, q0, hargs, rfl, rfl, h0, r0⟩ := trodAll_cons hA
  obtain ⟨v1, vs1, d1, ds1, p1, q1, rfl, rfl, rfl, h1, r1⟩ := trodAll_cons r0
  obtain ⟨v2, vs2, d2, ds2, p2, q2, rfl, rfl, rfl, h2, r2⟩ := trodAll_cons r1
  obtain ⟨rfl, rfl, rfl⟩ := trodAll_nil r2
  obtain rfl : args = #[v0, v1, v2] := by cases args; simp_all
  obtain ⟨rfl, rfl⟩ := trodVars_none hV
  obtain ⟨aa0, ll0, cc0, rfl⟩ := okWide_slice Try.underlying22 (hval 0 22 v0 rfl rfl)
  have k0 := h0
  have lt0 : ∀ x ∈ p0, x.block < W.heap.size := by obtain ⟨m, hm⟩ := k0; exact DataW.trod_lt m _ _ _ hm
  obtain ⟨fu0, hf0⟩ := h0
  obtain ⟨x0, K0, V0⟩ := (opens_slice Try.underlying22 (by kernel_rfl) o24) enc W _ _ fu0 _ _ hf0
  obtain ⟨A0, C0, he0, L0, R0⟩ := K0
  obtain ⟨rfl, rfl, rfl⟩ : aa0 = A0 ∧ ll0 = x0.length ∧ cc0 = C0 := by simpa [Value.cells] using he0
  obtain ⟨s1, rfl⟩ := okWide_string Try.underlying9 (hval 1 9 v1 rfl rfl)
  have k1 := h1
  have lt1 : ∀ x ∈ p1, x.block < W.heap.size := by obtain ⟨m, hm⟩ := k1; exact DataW.trod_lt m _ _ _ hm
  obtain ⟨fu1, hf1⟩ := h1
  obtain ⟨x1, K1, V1⟩ := (opens_string Try.underlying9) enc W _ _ fu1 _ _ hf1
  obtain rfl : x1 = s1 := by have h_ := K1; simp [Value.cells, Kd.int, Kd.bool, Kd.string, Kd.scalar] at h_; exact h_.symm
  obtain ⟨c2, rfl, _⟩ := okWide_struct Try.underlying55 (hval 2 55 v2 rfl rfl)
  have k2 := h2
  have lt2 : ∀ x ∈ p2, x.block < W.heap.size := by obtain ⟨m, hm⟩ := k2; exact DataW.trod_lt m _ _ _ hm
  obtain ⟨fu2, hf2⟩ := h2
  obtain ⟨x2, K2, V2⟩ := o55 enc W _ _ fu2 _ _ hf2
  obtain ⟨A2_1, C2_1, he2, L2_1, R2_1⟩ := k55_open K2
  obtain rfl : c2 = #[.string x2.f0, .slice A2_1 x2.f1.length C2_1] := by cases c2; simpa [Value.cells] using he2
  obtain ⟨k, hk⟩ := Pure.ParcelForms x0 x1 x2 V0 V1 V2
  refine (culetlaw53_ParcelForms.calls k _ _ x0 x1 x2.f0 _ _ x2.f1 true W R0 L0 R2_1 L2_1 hk rfl).mono fun e W' ⟨he, bel0⟩ => ?_
  have bel : Below W.heap.size W W' := bel0
  subst he
  exact ⟨_, rfl, _, _, _, [], _, [], hW', trodAll_mk1 (shut_bool Try.underlying4 _), (trodAll_cons_mk (Below.trod laidOut (by kernel_rfl) (of_decide_eq_true (by kernel_rfl)) k0 bel lt0) (trodAll_cons_mk (Below.trod laidOut (by kernel_rfl) (of_decide_eq_true (by kernel_rfl)) k1 bel lt1) (trodAll_cons_mk (Below.trod laidOut (by kernel_rfl) (of_decide_eq_true (by kernel_rfl)) k2 bel lt2) trodAll_mk0))), rfl, bel.frame _, fun h => by cases h⟩
theorem over : Rows.parcelFormsRow.holds Try.pinned (OpenSpec.ofChange Rows.parcelFormsSpec) :=
  OpenClaim.holds_of_wide 8 Try.f8 rfl rfl rfl rfl rfl rfl rfl ⟨rfl, rfl, rfl, rfl, rfl⟩ rfl rfl rfl rfl rfl (by kernel_rfl) Try.func8 (by kernel_rfl)
    (of_decide_eq_true (by kernel_rfl)) (by unfold Func.isWrapper; first | (rw [if_pos (by decide +kernel)]; kernel_rfl) | (rw [if_neg (by decide +kernel)]; exact ⟨rfl, rfl⟩))
    (fun os started H enc _ => lifted os started H enc)
theorem proved : Rows.ParcelFormsSaid := over
#print axioms proved
end Go.Proofs.Ytndbchcfjajgbaa.parcelForms
namespace Go.Proofs.Ytndbchcfjajgbaa
/-- The row, under a short name, for the claim. -/
theorem parcelForms_holds : Rows.ParcelFormsSaid := parcelForms.proved
end Go.Proofs.Ytndbchcfjajgbaa
