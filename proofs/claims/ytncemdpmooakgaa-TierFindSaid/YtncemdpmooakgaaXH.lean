import Derived.Test.YtncemdpmooakgaaXW
import Derived.Test.YtncemdpmooakgaaWAll
import Derived.Shelf.SlicesQ.Load
/-! Words of this session: function values handed to the library's generic functions. -/
namespace Go.Proofs.Ytncemdpmooakgaa.XH
open Go.RowKit Go.Proofs Go.Proofs.YtncemdpmooakgaaW.PrintWords Go.Proofs.YtncemdpmooakgaaW.PrintLast
set_option linter.unusedVariables false
/-- What is asked of a predicate on values of a kind; mk: how its cells are handed over. -/
def PredK {α : Type} (P : Program) (g : Nat) (lb : Array Value) (d : Kd α) (mk : List Value → Value) (p : α → Bool) (w : World) : Prop :=
  ∀ (W : World) (x : α) (cs : List Value), Below w.heap.size w W → d.K W x cs → Calls P g (#[mk cs] ++ lb) W fun e w' => e = .returned (.bool (p x)) ∧ Below W.heap.size W w'
def agg (cs : List Value) : Value := .agg cs.toArray
def one (cs : List Value) : Value := cs.headD .nilFunc
/-- The first place of which p holds; -1. -/
def idx {α : Type} (p : α → Bool) : List α → Int → Int
  | [], _ => -1
  | x :: l, i => if p x then i else idx p l (i + 1)
theorem idx_hit {α : Type} (p : α → Bool) (z : α) : ∀ (l : List α) (k : Nat) (i : Int), k < l.length → (∀ j, j < k → p (l.getD j z) = false) → p (l.getD k z) = true → idx p l i = i + k
  | [], k, i, h, _, _ => by simp at h
  | x :: l, 0, i, h, _, hp => by simp [idx] at hp ⊢; simp [hp]
  | x :: l, k + 1, i, h, hn, hp => by
    have h0 := hn 0 (by omega)
    simp at h0
    have := idx_hit p z l k (i + 1) (by simpa using h) (fun j hj => by have := hn (j + 1) (by omega); simpa using this) (by simpa using hp)
    simp only [idx, h0]
    simp only [Bool.false_eq_true, if_false]
    rw [this]; omega
theorem idx_miss {α : Type} (p : α → Bool) (z : α) : ∀ (l : List α) (i : Int), (∀ j, j < l.length → p (l.getD j z) = false) → idx p l i = -1
  | [], _, _ => rfl
  | x :: l, i, hn => by
    have h0 := hn 0 (by simp)
    simp at h0
    have := idx_miss p z l (i + 1) (fun j hj => by have := hn (j + 1) (by simpa using hj); simpa using this)
    simp only [idx, h0]
    simpa using this
end Go.Proofs.Ytncemdpmooakgaa.XH
