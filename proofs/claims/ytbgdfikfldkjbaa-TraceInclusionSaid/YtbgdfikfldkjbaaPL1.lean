/- culetlaw31.Theirs, where a third block lies: light and a number of reflections (from NP, by gen10.py). -/
import Derived.Test.YtbgdfikfldkjbaaPF3
namespace Go.Proofs.Ytbgdfikfldkjbaa.AI
set_option linter.unnecessarySimpa false
open Go
set_option linter.unusedVariables false
set_option linter.unusedSimpArgs false
def ltC (g : Iv) (k : Int) : List C := [ci g.lo, ci g.hi, ci k]
def T10L (i : Int) : List V := TT 28 [(1, .u (.c (.ptr 3 0))), (2, .u (.c (.ptr 4 0))), (3, .u (.c (.ptr 5 0))), (4, .u (ui i))]
def T10oL : List V := TT 28 [(1, .u (.c (.ptr 3 0))), (2, .u (.c (.ptr 4 0))), (3, .u (.c (.ptr 5 0)))]
/-- out: what has come. -/
def H10L (b : List C) (r : Ray) (lg : Iv) (lk : Int) (z out : List C) : Heap := [some (.cells b), some (.cells (rayC r)), some (.cells (ltC lg lk)), some (.cells b), some (.cells z), some (.cells out)]
noncomputable abbrev loop10L {α : Type} (call : CallT α) (F fuel : Nat) (T : List V) (H : Heap) (L : List Foot) (k : KT α) : Option α := loopA 6 [1, 2, 3, 4] [1, 2, 3] (code10 call F body10) fuel T H L k
theorem step10nL {α : Type} (call : CallT α) (ad ad' : Option Addr) (n m cap cap' : Nat) (v u : Nat → Nat → Int) (x : Iv) (r : Ray) (lg : Iv) (lk : Int) (i : Int) (F fuel : Nat) (L : List Foot) (k : KT α) : loop10L call F (fuel + 1) (T10L i) (H10L (bodyA ad ad' n m cap cap' v u x) r lg lk z10 (out10 .nils ad' m cap' u x)) L k =
    bif decide (i < n) then bif decide (0 ≤ i) && decide (i < n) then loop10L call F fuel (T10L (W (i + 1))) (H10L (bodyA ad ad' n m cap cap' v u x) r lg lk z10 (out10 (.row 6 6 0 1 true) ad' m cap' u x) ++ row10 1 (fun _ k => v i.toNat k)) ([.c 5 0 1] ++ L) k else none
    else k (.exit 0) T10oL (H10L (bodyA ad ad' n m cap cap' v u x) r lg lk z10 (out10 .nils ad' m cap' u x)) L := by kernel_rfl
theorem step10rL {α : Type} (call : CallT α) (ad ad' : Option Addr) (n m cap cap' : Nat) (v u : Nat → Nat → Int) (x : Iv) (r : Ray) (lg : Iv) (lk : Int) (i : Int) (c : Nat) (f : Nat → Nat → Int) (F fuel : Nat) (L : List Foot) (k : KT α) : loop10L call F (fuel + 1) (T10L i) (H10L (bodyA ad ad' n m cap cap' v u x) r lg lk z10 (out10 (.row 6 6 0 (c + 1) true) ad' m cap' u x) ++ row10 (c + 1) f) L k =
    bif decide (i < n) then bif decide (0 ≤ i) && decide (i < n) then bif decide (c + 1 ≤ c + 1) then bif decide ((c + 1 + 1) * 48 ≤ 140737488355328) && decide (c + 1 + 1 ≤ 140737488355328) then
      loop10L call F fuel (T10L (W (i + 1))) (H10L (bodyA ad ad' n m cap cap' v u x) r lg lk z10 (out10 (.row 6 6 0 (c + 2) true) ad' m cap' u x) ++ row10 (c + 2) (fun j k => bif Nat.blt j (c + 1) then f j k else v i.toNat k)) ([.c 5 0 1, .r 6] ++ L) k else none else none else none
    else k (.exit 0) T10oL (H10L (bodyA ad ad' n m cap cap' v u x) r lg lk z10 (out10 (.row 6 6 0 (c + 1) true) ad' m cap' u x) ++ row10 (c + 1) f) L := by kernel_rfl
theorem entry10L {α : Type} (call : CallT α) (ad ad' : Option Addr) (n m cap cap' : Nat) (v u : Nat → Nat → Int) (x : Iv) (r : Ray) (lg : Iv) (lk : Int) (F : Nat) (L : List Foot) (k : KT α) : code10 call F pre10 ([.u (.a (bodyA ad ad' n m cap cap' v u x))] ++ undefs 27) [some (.cells (bodyA ad ad' n m cap cap' v u x)), some (.cells (rayC r)), some (.cells (ltC lg lk))] L k =
    loop10L call F F (T10L 0) (H10L (bodyA ad ad' n m cap cap' v u x) r lg lk z10 (out10 .nils ad' m cap' u x)) ([.c 5 0 4] ++ L) (fun ex T H L => match ex with
      | .exit i => cond (i == 0) (k .normal T H L) (k (.exit i) T H L)
      | e => k e T H L) := by kernel_rfl
theorem a10nL {α : Type} (call : CallT α) (ad ad' : Option Addr) (n m cap cap' : Nat) (v u : Nat → Nat → Int) (x : Iv) (r : Ray) (lg : Iv) (lk : Int) (F : Nat) (L : List Foot) (K : V → Heap → List Foot → Option α) : code10 call F tail10 T10oL (H10L (bodyA ad ad' n m cap cap' v u x) r lg lk z10 (out10 .nils ad' m cap' u x)) L (kfin10 K) =
    K (.u (.a (out10 .nils ad' m cap' u x))) (H10L (bodyA ad ad' n m cap cap' v u x) r lg lk (out10 .nils ad' m cap' u x) (out10 .nils ad' m cap' u x)) ([.c 4 0 4] ++ L) := by kernel_rfl
theorem a10rL {α : Type} (call : CallT α) (ad ad' : Option Addr) (n m cap cap' : Nat) (v u : Nat → Nat → Int) (x : Iv) (r : Ray) (lg : Iv) (lk : Int) (c : Nat) (f : Nat → Nat → Int) (F : Nat) (L : List Foot) (K : V → Heap → List Foot → Option α) : code10 call F tail10 T10oL (H10L (bodyA ad ad' n m cap cap' v u x) r lg lk z10 (out10 (.row 6 6 0 (c + 1) true) ad' m cap' u x) ++ row10 (c + 1) f) L (kfin10 K) =
    K (.u (.a (out10 (.row 6 6 0 (c + 1) true) ad' m cap' u x))) (H10L (bodyA ad ad' n m cap cap' v u x) r lg lk (out10 (.row 6 6 0 (c + 1) true) ad' m cap' u x) (out10 (.row 6 6 0 (c + 1) true) ad' m cap' u x) ++ row10 (c + 1) f) ([.c 4 0 4] ++ L) := by kernel_rfl

theorem exit0L {α : Type} (k : KT α) (T : List V) (H : Heap) (L : List Foot) : (match Ex.exit 0 with
      | .exit i => cond (i == 0) (k .normal T H L) (k (.exit i) T H L)
      | e => k e T H L) = k .normal T H L := rfl
theorem run10rL {α : Type} (call : CallT α) (ad ad' : Option Addr) (n m cap cap' : Nat) (v u : Nat → Nat → Int) (x : Iv) (r : Ray) (lg : Iv) (lk : Int) (hn : n * 48 ≤ 140737488351232) (F : Nat) : ∀ (j c fuel : Nat) (f : Nat → Nat → Int) (L : List Foot), c + 1 + j = n → j < fuel → ∃ f' L', ∀ K : KT α,
    loop10L call F fuel (T10L (c + 1 : Nat)) (H10L (bodyA ad ad' n m cap cap' v u x) r lg lk z10 (out10 (.row 6 6 0 (c + 1) true) ad' m cap' u x) ++ row10 (c + 1) f) L K = K (.exit 0) T10oL (H10L (bodyA ad ad' n m cap cap' v u x) r lg lk z10 (out10 (.row 6 6 0 n true) ad' m cap' u x) ++ row10 n f') L'
  | 0, c, fuel + 1, f, L, h, _ => by
    obtain rfl : c + 1 = n := by omega
    exact ⟨f, L, fun K => by rw [step10rL, decide_eq_false (show ¬ (((c + 1 : Nat) : Int) < ((c + 1 : Nat) : Int)) by omega)]; rfl⟩
  | j + 1, c, fuel + 1, f, L, h, hf => by
    obtain ⟨f', L', ih⟩ := run10rL call ad ad' n m cap cap' v u x r lg lk hn F j (c + 1) fuel (fun j k => bif Nat.blt j (c + 1) then f j k else v (((c + 1 : Nat) : Int)).toNat k) ([.c 5 0 1, .r 6] ++ L) (by omega) (by omega)
    refine ⟨f', L', fun K => ?_⟩
    rw [step10rL, decide_eq_true (show (((c + 1 : Nat) : Int) < (n : Int)) by omega), decide_eq_true (show ((0 : Int) ≤ ((c + 1 : Nat) : Int)) by omega), decide_eq_true (Nat.le_refl (c + 1)),
      decide_eq_true (show (c + 1 + 1) * 48 ≤ 140737488355328 by omega), decide_eq_true (show c + 1 + 1 ≤ 140737488355328 by omega)]
    simp only [Bool.and_self, cond_true]
    rw [show W (((c + 1 : Nat) : Int) + 1) = ((c + 1 + 1 : Nat) : Int) by unfold W; rw [wr (by omega) (by omega)]; omega]
    exact ih K
/-- Theirs: the normals anew. -/
theorem theirs_runL {α : Type} (call : CallT α) (ad ad' : Option Addr) (n m cap cap' : Nat) (v u : Nat → Nat → Int) (x : Iv) (r : Ray) (lg : Iv) (lk : Int) (hn : n * 48 ≤ 140737488351232) (F : Nat) (hF : n < F) (K : V → Heap → List Foot → Option α) (X : Option α)
    (h0 : n = 0 → ∀ L, K (.u (.a (out10 .nils ad' m cap' u x))) (H10L (bodyA ad ad' n m cap cap' v u x) r lg lk (out10 .nils ad' m cap' u x) (out10 .nils ad' m cap' u x)) L = X)
    (h1 : 0 < n → ∀ f L, K (.u (.a (out10 (.row 6 6 0 n true) ad' m cap' u x))) (H10L (bodyA ad ad' n m cap cap' v u x) r lg lk (out10 (.row 6 6 0 n true) ad' m cap' u x) (out10 (.row 6 6 0 n true) ad' m cap' u x) ++ row10 n f) L = X) (L : List Foot) :
    code10 call F (.seq pre10 tail10) ([.u (.a (bodyA ad ad' n m cap cap' v u x))] ++ undefs 27) [some (.cells (bodyA ad ad' n m cap cap' v u x)), some (.cells (rayC r)), some (.cells (ltC lg lk))] L (kfin10 K) = X := by
  have seq : code10 call F (.seq pre10 tail10) ([.u (.a (bodyA ad ad' n m cap cap' v u x))] ++ undefs 27) [some (.cells (bodyA ad ad' n m cap cap' v u x)), some (.cells (rayC r)), some (.cells (ltC lg lk))] L (kfin10 K) = code10 call F pre10 ([.u (.a (bodyA ad ad' n m cap cap' v u x))] ++ undefs 27) [some (.cells (bodyA ad ad' n m cap cap' v u x)), some (.cells (rayC r)), some (.cells (ltC lg lk))] L (fun ex T H L => match ex with
      | .normal => code10 call F tail10 T H L (kfin10 K)
      | e => kfin10 K e T H L) := rfl
  rw [seq, entry10L]
  cases n with
  | zero =>
    obtain ⟨F, rfl⟩ : ∃ G, F = G + 1 := ⟨F - 1, by omega⟩
    rw [step10nL, decide_eq_false (show ¬ ((0 : Int) < ((0 : Nat) : Int)) by omega), cond_false]
    refine Eq.trans (exit0L (fun ex T H L => match ex with
      | .normal => code10 call (F + 1) tail10 T H L (kfin10 K)
      | e => kfin10 K e T H L) _ _ _) ?_
    exact (a10nL call ad ad' 0 m cap cap' v u x r lg lk (F + 1) _ K).trans (h0 rfl _)
  | succ n =>
    obtain ⟨G, hG⟩ : ∃ G, F = G + 1 := ⟨F - 1, by omega⟩
    obtain ⟨f', L', hrun⟩ := run10rL call ad ad' (n + 1) m cap cap' v u x r lg lk hn F n 0 G (fun _ k => v (0 : Int).toNat k) ([.c 5 0 1] ++ ([.c 5 0 4] ++ L)) (by omega) (by omega)
    have hstep := fun k : KT α => step10nL call ad ad' (n + 1) m cap cap' v u x r lg lk 0 F G ([.c 5 0 4] ++ L) k
    rw [← hG] at hstep
    rw [hstep, decide_eq_true (show ((0 : Int) < ((n + 1 : Nat) : Int)) by omega), decide_eq_true (Int.le_refl 0)]
    simp only [Bool.and_self, cond_true]
    rw [show W ((0 : Int) + 1) = ((0 + 1 : Nat) : Int) by unfold W; rw [wr (by omega) (by omega)]; rfl]
    refine (hrun _).trans ?_
    refine Eq.trans (exit0L (fun ex T H L => match ex with
      | .normal => code10 call F tail10 T H L (kfin10 K)
      | e => kfin10 K e T H L) _ _ _) ?_
    exact (a10rL call ad ad' (n + 1) m cap cap' v u x r lg lk n f' F _ K).trans (h1 (by omega) f' _)
end Go.Proofs.Ytbgdfikfldkjbaa.AI
