/- The statement TraceInside, read. -/
import Derived.Test.YtbgdfikfldkjbaaPI1
namespace Go.Proofs.Ytbgdfikfldkjbaa.AI
set_option linter.unnecessarySimpa false
open Go
set_option linter.unusedVariables false
set_option linter.unusedSimpArgs false
noncomputable def orc5 (w : Pth → Pth → Bool) : List (FuncId × (List V → Tree)) := [(8, T8), (17, fun args => argsT args (F17 w)), (18, fun args => argsT args (F17 w))]
noncomputable def fns5 : List (FuncId × Func × List (Nat × LV)) := [(5, Try.f5, []), (19, Try.f19, [])]
/-- A path, read from an argument slice. -/
def Pth.num (p : Pth) : Pth := ⟨p.kd, p.n, numOf (arrC 1 p.v), p.o, p.g⟩
theorem a5 (w : Pth → Pth → Bool) (p q : Pth) (ad ad' : Option Addr) (cap cap' : Nat) : ans Try.prog (orc5 w) fns5 9 3 5 [.u (.a (pathC p ad cap)), .u (.a (pathC q ad' cap'))] =
    bif decide (30 < (p.n : Int)) then tru true else bif decide (30 < (q.n : Int)) then tru true else
    bif allN (fun j => isInts 1 (arrC 1 p.v j)) p.n then bif allN (fun j => isInts 1 (arrC 1 q.v j)) q.n then bif decide (p.n ≤ 200) && decide (q.n ≤ 200) then
    bif allN (fun j => isInts 1 (arrC 1 p.v j)) p.n then bif allN (fun j => isInts 1 (arrC 1 q.v j)) q.n then bif decide (p.n ≤ 200) && decide (q.n ≤ 200) then
    tru (decide (w p.num q.num = w p.num q.num)) else none else none else none else none else none else none := by kernel_rfl
theorem in_true (w : Pth → Pth → Bool) (p q : Pth) (ad ad' : Option Addr) (cap cap' : Nat) : ans Try.prog (orc5 w) fns5 9 3 5 [.u (.a (pathC p ad cap)), .u (.a (pathC q ad' cap'))] = tru true := by
  have i1 := allN_iff.2 fun j (_ : j < p.n) => isInts_arr 1 p.v j
  have i2 := allN_iff.2 fun j (_ : j < q.n) => isInts_arr 1 q.v j
  rw [a5, i1, i2]
  by_cases h1 : p.n ≤ 30
  · by_cases h2 : q.n ≤ 30
    · rw [decide_eq_false (show ¬ 30 < (p.n : Int) by omega), decide_eq_false (show ¬ 30 < (q.n : Int) by omega), decide_eq_true (show p.n ≤ 200 by omega), decide_eq_true (show q.n ≤ 200 by omega), decide_eq_true rfl]
      rfl
    · rw [decide_eq_true (show 30 < (q.n : Int) by omega)]
      cases decide (30 < (p.n : Int)) <;> rfl
  · rw [decide_eq_true (show 30 < (p.n : Int) by omega)]
    rfl
theorem k5 : FnOk Try.prog 5 Try.f5 := fk Try.func5 (by kernel_rfl) rfl
theorem k19 : FnOk Try.prog 19 Try.f19 := fk Try.func19 (by kernel_rfl) rfl
theorem fns5_ok : FnsOk Try.prog fns5 := fns_cons k5 (fns_cons k19 fns_nil)
theorem orc5_ok : OrcOk Try.prog (orc5 insW) := orc_cons E8 (orc_cons E17 (orc_cons E18 orc_nil))
theorem in_calls (p q : Pth) (ad ad' : Option Addr) (cap cap' : Nat) (w : World) (h1 : AOk w (.as ad 1 p.n cap (arrC 1 p.v))) (h2 : AOk w (.as ad' 1 q.n cap' (arrC 1 q.v))) :
    Calls Try.prog 5 (([.u (.a (pathC p ad cap)), .u (.a (pathC q ad' cap'))] : List V).map (V.den fun _ => ri0)).toArray w fun e w' => e = .returned (.bool true) ∧ RowKit.Below w.heap.size w w' := by
  refine ans_calls mixed orc5_ok fns5_ok (in_true insW p q ad ad' cap cap') (fun y hy => ?_) _ (fun y hy => ?_)
  · simp only [List.mem_cons, List.not_mem_nil, or_false] at hy
    rcases hy with rfl | rfl
    · exact ⟨rfl, fun e => by cases e⟩
    · exact ⟨rfl, fun e => by cases e⟩
  · simp only [List.mem_cons, List.not_mem_nil, or_false] at hy
    rcases hy with rfl | rfl
    · intro z hz
      simp only [pathC, List.mem_cons, List.not_mem_nil, or_false] at hz
      rcases hz with rfl | rfl | rfl | rfl | rfl | rfl | rfl | rfl | rfl | rfl
      all_goals first | exact h1 | exact AOk.int _ _
    · intro z hz
      simp only [pathC, List.mem_cons, List.not_mem_nil, or_false] at hz
      rcases hz with rfl | rfl | rfl | rfl | rfl | rfl | rfl | rfl | rfl | rfl
      all_goals first | exact h2 | exact AOk.int _ _
end Go.Proofs.Ytbgdfikfldkjbaa.AI
