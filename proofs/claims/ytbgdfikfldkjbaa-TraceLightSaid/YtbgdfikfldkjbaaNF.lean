/- Intervals: the reference's functions of layer 27, told. -/
import Derived.Test.YtbgdfikfldkjbaaNR
namespace Go.Proofs.Ytbgdfikfldkjbaa.AI
set_option linter.unnecessarySimpa false
open Go
set_option linter.unusedVariables false
set_option linter.unusedSimpArgs false
theorem k30 : FnOk Try.prog 30 Try.f30 := fk Try.func30 (by kernel_rfl) rfl
theorem a30 (a b : Int) : ans Try.prog [] [(30, Try.f30, [])] 9 6 30 [iv a b] = bif decide (-1073741824 ≤ a) then bif decide (a ≤ b) then tru (decide (b ≤ 1073741824)) else tru false else tru false := by kernel_rfl
theorem told30 : Told Try.prog 30 validT := by
  refine told_flat (fuel := 9) (d := 6) (fns := [(30, Try.f30, [])]) mixed orc_nil (fns_cons k30 fns_nil) k30.enter valid_flat (fun args x h => ?_) fun args x h => ?_
  · obtain ⟨a, b, rfl, _⟩ := valid_val h; rfl
  · obtain ⟨a, b, rfl, rfl⟩ := valid_val h
    rw [a30]
    unfold vI tru
    cases decide (-1073741824 ≤ a) <;> cases decide (a ≤ b) <;> rfl
def fl82 (a b : Int) : R := bif decide (b = 0) then none else bif decide (a < W (W (Int.tdiv a b) * b)) then some (.u (ui (W (W (Int.tdiv a b) - 1))), []) else some (.u (ui (W (Int.tdiv a b))), [])
theorem a82 (a b : Int) : ans Try.prog [] [(82, Try.f82, [])] 9 3 82 [.u (ui a), .u (ui b)] = bif decide (b < 0) then fl82 (W (0 - a)) (W (0 - b)) else fl82 a b := by kernel_rfl
theorem k82 : FnOk Try.prog 82 Try.f82 := fk Try.func82 (by kernel_rfl) rfl
theorem fl82_eq {a b : Int} (hb : 0 < b) (h1 : -4611686018427387904 ≤ a) (h2 : a ≤ 4611686018427387904) : fl82 a b = some (.u (ui (a / b)), []) := by
  obtain ⟨t1, t2⟩ := tdiv_in hb h1 h2
  unfold fl82 W
  have hm : (a.tdiv b * b).natAbs ≤ a.natAbs := by rw [Int.natAbs_mul, Int.natAbs_tdiv]; exact Nat.div_mul_le_self _ _
  rw [wr (n := Int.tdiv a b) (by omega) (by omega), wr (n := Int.tdiv a b - 1) (by omega) (by omega), wr (n := Int.tdiv a b * b) (by omega) (by omega)]
  rw [decide_eq_false (show ¬ b = 0 by omega), cond_false]
  have h := tdiv_pos (a := a) hb
  have e1 := Int.mul_ediv_add_emod a b
  have e2 := Int.emod_lt_of_pos a hb
  have e3 := Int.emod_nonneg a (show b ≠ 0 by omega)
  rw [Int.mul_comm] at e1
  by_cases hc : a % b ≠ 0 ∧ a < 0
  · rw [if_pos hc] at h
    rw [h, decide_eq_true (show a < (a / b + 1) * b by rw [Int.add_mul]; omega), cond_true, Int.add_sub_cancel]
  · rw [if_neg hc] at h
    rw [h, decide_eq_false (show ¬ a < a / b * b by omega), cond_false]
theorem told82 : Told Try.prog 82 (quoT dnq) := by
  refine told_flat (fuel := 9) (d := 3) (fns := [(82, Try.f82, [])]) mixed orc_nil (fns_cons k82 fns_nil) k82.enter quo_flat (fun args x h => ?_) fun args x h => ?_
  · obtain ⟨a, b, rfl, _⟩ := quo_val h; rfl
  · obtain ⟨a, b, rfl, hb, h1, h2, rfl⟩ := quo_val h
    rw [a82, decide_eq_false (show ¬ b < 0 by omega), cond_false]
    exact fl82_eq hb h1 h2
theorem a83 (a b : Int) : ans Try.prog [(82, quoT dnq)] [(83, Try.f83, [])] 9 3 83 [.u (ui a), .u (ui b)] = quoK dnq (IntKind.i64.wrap (0 - a)) b fun q => some (.u (ui (IntKind.i64.wrap (0 - q))), []) := by kernel_rfl
theorem k83 : FnOk Try.prog 83 Try.f83 := fk Try.func83 (by kernel_rfl) rfl
theorem told83 : Told Try.prog 83 (quoT upq) := by
  refine told_flat (fuel := 9) (d := 3) (fns := [(83, Try.f83, [])]) mixed (orc_cons told82 orc_nil) (fns_cons k83 fns_nil) k83.enter quo_flat (fun args x h => ?_) fun args x h => ?_
  · obtain ⟨a, b, rfl, _⟩ := quo_val h; rfl
  · obtain ⟨a, b, rfl, hb, h1, h2, rfl⟩ := quo_val h
    rw [a83, show IntKind.i64.wrap (0 - a) = -a by rw [Int.zero_sub]; exact w64_in (by omega) (by omega), quoK_in hb (by omega) (by omega)]
    obtain ⟨d1, d2⟩ := div_in hb (a := -a) (by omega) (by omega)
    unfold dnq upq
    rw [show IntKind.i64.wrap (0 - -a / b) = -(-a / b) by rw [Int.zero_sub]; exact w64_in (by omega) (by omega)]
theorem k58 : FnOk Try.prog 58 Try.f58 := fk Try.func58 (by kernel_rfl) rfl
theorem k57 : FnOk Try.prog 57 Try.f57 := fk Try.func57 (by kernel_rfl) rfl
theorem k60 : FnOk Try.prog 60 Try.f60 := fk Try.func60 (by kernel_rfl) rfl
theorem k81 : FnOk Try.prog 81 Try.f81 := fk Try.func81 (by kernel_rfl) rfl
def orcF : List (FuncId × (List V → Tree)) := [(30, validT), (82, quoT dnq), (83, quoT upq)]
theorem orcF_ok : OrcOk Try.prog orcF := orc_cons told30 (orc_cons told82 (orc_cons told83 orc_nil))
noncomputable def fnsF (f : FuncId) (fn : Func) : List (FuncId × Func × List (Nat × LV)) := [(f, fn, []), (60, Try.f60, []), (81, Try.f81, [])]
theorem fnsF_ok {f : FuncId} {fn : Func} (h : FnOk Try.prog f fn) : FnsOk Try.prog (fnsF f fn) := fns_cons h (fns_cons k60 (fns_cons k81 fns_nil))
def FF (a b c d : Int) (x : R) : R := bif vI a b then bif !vI c d then B 1 else x else B 1
def mkF (lo hi : Int) : R := bif !vI lo hi then B 3 else O lo hi
theorem ff_of {f : Int → Int → Int → Int → Tree} {a b c d : Int} {x : V × Heap} (h : (two f [iv a b, iv c d]).val = some x) {X : R} (hX : (-1073741824 ≤ a ∧ a ≤ b ∧ b ≤ 1073741824) → (-1073741824 ≤ c ∧ c ≤ d ∧ d ≤ 1073741824) → X = (f a b c d).val) : FF a b c d X = some x := by
  rw [← h]
  show _ = (bif vI a b && vI c d then (f a b c d).val else B 1)
  unfold FF
  cases h1 : vI a b
  · rfl
  · cases h2 : vI c d
    · rfl
    · rw [hX (vI_iff.1 h1) (vI_iff.1 h2)]; rfl
theorem mkF_eq {lo hi : Int} (h : lo ≤ hi) : mkF lo hi = (mkT lo hi).val := by
  unfold mkF mkT inR vI
  simp only [Tree.val]
  rw [decide_eq_true h]
  cases decide (-1073741824 ≤ lo) <;> cases decide (hi ≤ 1073741824) <;> rfl
theorem a58 (a b c d : Int) : ans Try.prog orcF (fnsF 58 Try.f58) 9 6 58 [iv a b, iv c d] = FF a b c d (mkF (W (a + c)) (W (b + d))) := by kernel_rfl
theorem a57 (a b c d : Int) : ans Try.prog orcF (fnsF 57 Try.f57) 9 6 57 [iv a b, iv c d] = FF a b c d (quoK dnq (mnI (mnI (mnI (W (a * c)) (W (a * d))) (W (b * c))) (W (b * d))) 16777216 fun lo => quoK upq (mxI (mxI (mxI (W (a * c)) (W (a * d))) (W (b * c))) (W (b * d))) 16777216 fun hi => mkF lo hi) := by kernel_rfl
theorem told58 : Told Try.prog 58 addT := by
  refine told_flat (fuel := 9) (d := 6) (fns := fnsF 58 Try.f58) mixed orcF_ok (fnsF_ok k58) k58.enter (two_flat fun _ _ _ _ => rfl) two_bare fun args x h => ?_
  obtain ⟨a, b, c, d, rfl⟩ := two_val h
  rw [a58]
  refine ff_of h fun h1 h2 => ?_
  unfold W
  rw [wr (by omega) (by omega), wr (by omega) (by omega), mkF_eq (by omega)]
/-- Rounded down and up, in order. -/
theorem dn_up {x y : Int} (h : x ≤ y) : dnq x 16777216 ≤ upq y 16777216 := by unfold dnq upq; omega
theorem told57 : Told Try.prog 57 mulT := by
  refine told_flat (fuel := 9) (d := 6) (fns := fnsF 57 Try.f57) mixed orcF_ok (fnsF_ok k57) k57.enter (two_flat fun _ _ _ _ => rfl) two_bare fun args x h => ?_
  obtain ⟨a, b, c, d, rfl⟩ := two_val h
  rw [a57]
  refine ff_of h fun h1 h2 => ?_
  have p1 := prod30 (a := a) (b := c) (by omega) (by omega)
  have p2 := prod30 (a := a) (b := d) (by omega) (by omega)
  have p3 := prod30 (a := b) (b := c) (by omega) (by omega)
  have p4 := prod30 (a := b) (b := d) (by omega) (by omega)
  unfold W
  rw [wr (n := a * c) (by omega) (by omega), wr (n := a * d) (by omega) (by omega), wr (n := b * c) (by omega) (by omega), wr (n := b * d) (by omega) (by omega)]
  simp only [mnI_eq, mxI_eq]
  rw [quoK_in (by omega) (by omega) (by omega), quoK_in (by omega) (by omega) (by omega), mkF_eq (dn_up (by omega))]
  rfl
theorem k40 : FnOk Try.prog 40 Try.f40 := fk Try.func40 (by kernel_rfl) rfl
theorem a40 (a b c d : Int) : ans Try.prog orcF (fnsF 40 Try.f40) 9 6 40 [iv a b, iv c d] = bif vI a b then bif vI c d then bif decide (c ≤ a) then tru (decide (b ≤ d)) else tru false else tru false else tru false := by kernel_rfl
theorem told40 : Told Try.prog 40 insT := by
  refine told_flat (fuel := 9) (d := 6) (fns := fnsF 40 Try.f40) mixed orcF_ok (fnsF_ok k40) k40.enter ins_flat (fun args x h => ?_) fun args x h => ?_
  · obtain ⟨a, b, c, d, rfl, _⟩ := ins_val h; rfl
  · obtain ⟨a, b, c, d, rfl, rfl⟩ := ins_val h
    rw [a40]
    unfold insI tru
    cases vI a b <;> cases vI c d <;> cases decide (c ≤ a) <;> rfl
end Go.Proofs.Ytbgdfikfldkjbaa.AI
