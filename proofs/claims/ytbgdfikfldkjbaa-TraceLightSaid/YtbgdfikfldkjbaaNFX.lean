/- Nil slices that are handed to told functions: as slices without rows. -/
import Derived.Test.YtbgdfikfldkjbaaPT
namespace Go.Proofs.Ytbgdfikfldkjbaa.AI
set_option linter.unnecessarySimpa false
open Go
set_option linter.unusedVariables false
set_option linter.unusedSimpArgs false
def nilC (w : Nat) : C → C
  | .nils => .as none w 0 0 fun _ => []
  | x => x
theorem nilC_bare (w : Nat) (c : C) : nilC w (bareC c) = bareC (nilC w c) := by cases c <;> rfl
theorem nilC_den (w : Nat) (ρ : Ren) (c : C) : (nilC w c).den ρ = c.den ρ := by cases c <;> rfl
theorem nilC_ids (w : Nat) (c : C) : idsC (nilC w c) = idsC c := by cases c <;> rfl
theorem nilC_sc {w : Nat} {W : World} {S : Nat → Prop} {c : C} (h : c.sc W S) : (nilC w c).sc W S := by
  cases c with
  | nils => exact AOk.as none w 0 0 _ (fun i hi => by omega) (fun _ => rfl) (by omega) (fun i j x hi => by omega) (fun i j x a hi => by omega)
  | _ => exact h
/-- ws: at some w, a nil slice becomes one of rows of w. -/
def nilL : List (Option Nat) → List C → List C
  | some w :: ws, c :: cs => nilC w c :: nilL ws cs
  | none :: ws, c :: cs => c :: nilL ws cs
  | _, cs => cs
theorem nilL_bare : ∀ (ws : List (Option Nat)) (cs : List C), nilL ws (cs.map bareC) = (nilL ws cs).map bareC
  | [], _ => by simp only [nilL]
  | some w :: ws, [] => rfl
  | none :: ws, [] => rfl
  | some w :: ws, c :: cs => by simp only [nilL, List.map_cons, nilC_bare, nilL_bare ws cs]
  | none :: ws, c :: cs => by simp only [nilL, List.map_cons, nilL_bare ws cs]
theorem nilL_den (ρ : Ren) : ∀ (ws : List (Option Nat)) (cs : List C), (nilL ws cs).map (C.den ρ) = cs.map (C.den ρ)
  | [], _ => by simp only [nilL]
  | some w :: ws, [] => rfl
  | none :: ws, [] => rfl
  | some w :: ws, c :: cs => by simp only [nilL, List.map_cons, nilC_den, nilL_den ρ ws cs]
  | none :: ws, c :: cs => by simp only [nilL, List.map_cons, nilL_den ρ ws cs]
theorem nilL_ids : ∀ (ws : List (Option Nat)) (cs : List C), (nilL ws cs).flatMap idsC = cs.flatMap idsC
  | [], _ => by simp only [nilL]
  | some w :: ws, [] => rfl
  | none :: ws, [] => rfl
  | some w :: ws, c :: cs => by simp only [nilL, List.flatMap_cons, nilC_ids, nilL_ids ws cs]
  | none :: ws, c :: cs => by simp only [nilL, List.flatMap_cons, nilL_ids ws cs]
theorem nilL_sc {W : World} {S : Nat → Prop} : ∀ (ws : List (Option Nat)) (cs : List C), (∀ x ∈ cs, x.sc W S) → ∀ x ∈ nilL ws cs, x.sc W S
  | [], _, h => by simp only [nilL]; exact h
  | some w :: ws, [], h => h
  | none :: ws, [], h => h
  | some w :: ws, c :: cs, h => fun x hx => by
    rcases List.mem_cons.1 hx with rfl | hx
    · exact nilC_sc (h c (List.mem_cons_self ..))
    · exact nilL_sc ws cs (fun y hy => h y (List.mem_cons_of_mem _ hy)) x hx
  | none :: ws, c :: cs, h => fun x hx => by
    rcases List.mem_cons.1 hx with rfl | hx
    · exact h _ (List.mem_cons_self ..)
    · exact nilL_sc ws cs (fun y hy => h y (List.mem_cons_of_mem _ hy)) x hx
def nilV (ws : List (Option Nat)) : V → V
  | .u (.a cs) => .u (.a (nilL ws cs))
  | v => v
theorem nilV_bare (ws : List (Option Nat)) (v : V) : nilV ws (bareV v) = bareV (nilV ws v) := by
  rcases v with (x | cs) | xs | _
  · rfl
  · exact congrArg (fun l => V.u (.a l)) (nilL_bare ws cs)
  · rfl
  · rfl
theorem nilV_den (ws : List (Option Nat)) (ρ : Ren) (v : V) : (nilV ws v).den ρ = v.den ρ := by
  rcases v with (x | cs) | xs | _
  · rfl
  · exact congrArg (fun l : List Value => Value.agg l.toArray) (nilL_den ρ ws cs)
  · rfl
  · rfl
theorem nilV_ids (ws : List (Option Nat)) (v : V) : idsV (nilV ws v) = idsV v := by
  rcases v with (x | cs) | xs | _
  · rfl
  · exact nilL_ids ws cs
  · rfl
  · rfl
theorem nilV_some (ws : List (Option Nat)) {v : V} (h : v ≠ .any) : nilV ws v ≠ .any := by
  rcases v with (x | cs) | xs | _
  · exact h
  · exact fun e => by cases e
  · exact h
  · exact h
theorem nilV_sc (ws : List (Option Nat)) {W : World} {S : Nat → Prop} (v : V) (h : v.sc W S) : (nilV ws v).sc W S := by
  rcases v with (x | cs) | xs | _
  · exact h
  · exact nilL_sc ws cs h
  · exact h
  · exact h
/-- All arguments that are structures alike. -/
theorem told_nil (ws : List (Option Nat)) {P : Program} {f : FuncId} {g : List V → Tree} (h : Told P f g) : Told P f (fun args => g (args.map (nilV ws))) := by
  refine ⟨fun args v H e => h.isv _ v H e, fun args v H e => h.sc _ v H e, h.enter, fun args v H ha hg => ?_⟩
  obtain ⟨l, hr⟩ := h.run (args.map (nilV ws)) v H (fun x hx => by
    obtain ⟨y, hy, rfl⟩ := List.mem_map.1 hx
    rw [nilV_ids]
    exact ⟨(ha y hy).1, nilV_some ws (ha y hy).2⟩) (by
      rw [← hg, List.map_map, List.map_map]
      congr 2
      exact List.map_congr_left fun y _ => (nilV_bare ws y).symm)
  refine ⟨l, runs_like hr (fun ρ => by rw [List.map_map]; exact List.map_congr_left fun y _ => nilV_den ws ρ y) fun W S hs x hx => ?_⟩
  obtain ⟨y, hy, rfl⟩ := List.mem_map.1 hx
  exact nilV_sc ws y (hs y hy)
end Go.Proofs.Ytbgdfikfldkjbaa.AI
