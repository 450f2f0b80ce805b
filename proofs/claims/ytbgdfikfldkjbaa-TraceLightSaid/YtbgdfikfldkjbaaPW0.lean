/- TraceScale: the small functions, and a nil slice that is handed on. -/
import Derived.Test.YtbgdfikfldkjbaaPS
namespace Go.Proofs.Ytbgdfikfldkjbaa.AI
set_option linter.unnecessarySimpa false
open Go
set_option linter.unusedVariables false
set_option linter.unusedSimpArgs false
/-- A nil slice of rows of two, as a slice without rows. -/
def fixC : C → C
  | .nils => .as none 2 0 0 fun _ => []
  | x => x
def fixL : List C → List C
  | [x, c, a, b] => [x, fixC c, a, b]
  | l => l
def fixV : V → V
  | .u (.a cs) => .u (.a (fixL cs))
  | v => v
def fix1 : List V → List V
  | v :: r => fixV v :: r
  | [] => []
theorem fixC_bare (c : C) : fixC (bareC c) = bareC (fixC c) := by cases c <;> rfl
theorem fixC_den (ρ : Ren) (c : C) : (fixC c).den ρ = c.den ρ := by cases c <;> rfl
theorem fixC_ids (c : C) : idsC (fixC c) = idsC c := by cases c <;> rfl
theorem fixC_sc {W : World} {S : Nat → Prop} {c : C} (h : c.sc W S) : (fixC c).sc W S := by
  cases c with
  | nils => exact AOk.as none 2 0 0 _ (fun i hi => by omega) (fun _ => rfl) (by omega) (fun i j x hi => by omega) (fun i j x a hi => by omega)
  | _ => exact h
theorem fixL_bare : ∀ cs : List C, fixL (cs.map bareC) = (fixL cs).map bareC
  | [] => rfl
  | [_] => rfl
  | [_, _] => rfl
  | [_, _, _] => rfl
  | [x, c, a, b] => by simp only [fixL, List.map_cons, List.map_nil, fixC_bare]
  | _ :: _ :: _ :: _ :: _ :: _ => rfl
theorem fixL_den (ρ : Ren) : ∀ cs : List C, (fixL cs).map (C.den ρ) = cs.map (C.den ρ)
  | [] => rfl
  | [_] => rfl
  | [_, _] => rfl
  | [_, _, _] => rfl
  | [x, c, a, b] => by simp only [fixL, List.map_cons, List.map_nil, fixC_den]
  | _ :: _ :: _ :: _ :: _ :: _ => rfl
theorem fixL_ids : ∀ cs : List C, (fixL cs).flatMap idsC = cs.flatMap idsC
  | [] => rfl
  | [_] => rfl
  | [_, _] => rfl
  | [_, _, _] => rfl
  | [x, c, a, b] => by simp only [fixL, List.flatMap_cons, List.flatMap_nil, fixC_ids]
  | _ :: _ :: _ :: _ :: _ :: _ => rfl
theorem fixL_sc {W : World} {S : Nat → Prop} : ∀ cs : List C, (∀ x ∈ cs, x.sc W S) → ∀ x ∈ fixL cs, x.sc W S
  | [], h => h
  | [_], h => h
  | [_, _], h => h
  | [_, _, _], h => h
  | [x, c, a, b], h => fun y hy => by
    simp only [fixL, List.mem_cons, List.not_mem_nil, or_false] at hy
    rcases hy with rfl | rfl | rfl | rfl
    · exact h _ (by simp)
    · exact fixC_sc (h _ (by simp))
    · exact h _ (by simp)
    · exact h _ (by simp)
  | _ :: _ :: _ :: _ :: _ :: _, h => h
theorem fixV_bare (v : V) : fixV (bareV v) = bareV (fixV v) := by
  rcases v with (x | cs) | xs | _
  · rfl
  · exact congrArg (fun l => V.u (.a l)) (fixL_bare cs)
  · rfl
  · rfl
theorem fixV_den (ρ : Ren) (v : V) : (fixV v).den ρ = v.den ρ := by
  rcases v with (x | cs) | xs | _
  · rfl
  · exact congrArg (fun l : List Value => Value.agg l.toArray) (fixL_den ρ cs)
  · rfl
  · rfl
theorem fixV_ids (v : V) : idsV (fixV v) = idsV v := by
  rcases v with (x | cs) | xs | _
  · rfl
  · exact fixL_ids cs
  · rfl
  · rfl
theorem fixV_some {v : V} (h : v ≠ .any) : fixV v ≠ .any := by
  rcases v with (x | cs) | xs | _
  · exact h
  · exact fun e => by cases e
  · exact h
  · exact h
theorem fixV_sc {W : World} {S : Nat → Prop} (v : V) (h : v.sc W S) : (fixV v).sc W S := by
  rcases v with (x | cs) | xs | _
  · exact h
  · exact fixL_sc cs h
  · exact h
  · exact h
theorem told_fix {P : Program} {f : FuncId} {g : List V → Tree} (h : Told P f g) : Told P f (fun args => g (fix1 args)) := by
  refine ⟨fun args v H e => h.isv _ v H e, fun args v H e => h.sc _ v H e, h.enter, fun args v H ha hg => ?_⟩
  cases args with
  | nil => exact h.run [] v H ha hg
  | cons a r =>
    obtain ⟨l, hr⟩ := h.run (fixV a :: r) v H (fun x hx => by
      rcases List.mem_cons.1 hx with rfl | hx
      · rw [fixV_ids]; exact ⟨(ha a (List.mem_cons_self ..)).1, fixV_some (ha a (List.mem_cons_self ..)).2⟩
      · exact ha x (List.mem_cons_of_mem _ hx)) (by rw [← hg]; simp only [List.map_cons, fix1, fixV_bare])
    refine ⟨l, runs_like hr (fun ρ => by simp only [List.map_cons, fixV_den]) fun W S hs x hx => ?_⟩
    rcases List.mem_cons.1 hx with rfl | hx
    · exact fixV_sc a (hs a (List.mem_cons_self ..))
    · exact hs x (List.mem_cons_of_mem _ hx)
/-! narrow, twice. -/
def narB (x : Iv) : Bool := decide (x.lo = x.hi) && (decide (x.lo ≤ 134217728) && decide (-134217728 ≤ x.lo))
def twI (x : Iv) : Iv := ⟨W (2 * x.lo), W (2 * x.hi)⟩
def F15 (nb : Iv → Bool) : List Int → Tree
  | [a, b] => truT (nb ⟨a, b⟩)
  | _ => .no
def F16 (tw : Iv → Iv) : List Int → Tree
  | [a, b] => .leaf (.u (ivU (tw ⟨a, b⟩)))
  | _ => .no
theorem k15 : FnOk Try.prog 15 Try.f15 := fk Try.func15 (by kernel_rfl) rfl
theorem k16 : FnOk Try.prog 16 Try.f16 := fk Try.func16 (by kernel_rfl) rfl
theorem a15 (a b : Int) : ans Try.prog [] [(15, Try.f15, [])] 9 3 15 [iv a b] = bif decide (a = b) then bif decide (a ≤ 134217728) then tru (decide (-134217728 ≤ a)) else tru false else tru false := by kernel_rfl
theorem a16 (a b : Int) : ans Try.prog [] [(16, Try.f16, [])] 9 3 16 [iv a b] = some (.u (ivU ⟨W (2 * a), W (2 * b)⟩), []) := by kernel_rfl
theorem E15 : Told Try.prog 15 (shT [some 2] (F15 narB)) := told_sh (fuel := 9) (d := 3) (fns := [(15, Try.f15, [])]) mixed orc_nil (fns_cons k15 fns_nil) k15.enter (fun l => by unfold F15; split <;> rfl) fun l x h => by
  unfold F15 at h
  split at h
  · rename_i a b
    cases h
    refine (a15 a b).trans ?_
    unfold narB
    cases decide (a = b) <;> cases decide (a ≤ 134217728) <;> rfl
  · cases h
theorem E16 : Told Try.prog 16 (shT [some 2] (F16 twI)) := told_sh (fuel := 9) (d := 3) (fns := [(16, Try.f16, [])]) mixed orc_nil (fns_cons k16 fns_nil) k16.enter (fun l => by unfold F16; split <;> rfl) fun l x h => by
  unfold F16 at h
  split at h
  · rename_i a b
    cases h
    exact a16 a b
  · cases h
end Go.Proofs.Ytbgdfikfldkjbaa.AI
