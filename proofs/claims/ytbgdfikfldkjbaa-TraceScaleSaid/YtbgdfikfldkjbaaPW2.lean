/- The statement TraceScale: its end, and the whole. -/
import Derived.Test.YtbgdfikfldkjbaaPW
namespace Go.Proofs.Ytbgdfikfldkjbaa.AI
set_option linter.unnecessarySimpa false
open Go
set_option linter.unusedVariables false
set_option linter.unusedSimpArgs false
/-- The ray at the doubled point. -/
def dblR (tw : Iv → Iv) (r : Ray) : Ray := ⟨⟨tw r.pt.x, tw r.pt.y, tw r.pt.z⟩, r.dir⟩
/-- What is answered behind both hits. -/
def sc4 (h1 h2 : Er (Int × Iv)) : R := bif okE h2 then bif decide ((getE (0, iv0) h1).1 = (getE (0, iv0) h2).1) then bif decide ((getE (0, iv0) h2).2.lo ≤ W (2 * (getE (0, iv0) h1).2.hi)) then tru (decide (W (2 * (getE (0, iv0) h1).2.lo) ≤ (getE (0, iv0) h2).2.hi)) else tru false else tru false else tru true
theorem tail4n0 (hf : HF) (nb : Iv → Bool) (tw : Iv → Iv) (ad ad' : Option Addr) (n m cap cap' : Nat) (v u : Nat → Nat → Int) (x : Iv) (r : Ray) (F : Nat) (L : List Foot) : code4 (orc4 hf nb tw) F tail4 (T4o 6 false) (HN4 (bodyA ad ad' n m cap cap' v u x) r (out10 .nils ad' m cap' u x) (dblC ad n cap v .nils x)) L kfin4 =
    bif allN (fun j => isInts 6 (arrC 6 v j)) n then bif allN (fun j => isInts 2 (arrC 2 u j)) m then
      bif okE (hf n m (numOf (arrC 6 v)) (numOf (arrC 2 u)) x r) then bif allN (fun j => isInts 6 (arrC 6 v j)) n then sc4 (hf n m (numOf (arrC 6 v)) (numOf (arrC 2 u)) x r) (hf n 0 (numOf (arrC 6 v)) (numOf fun _ => []) x (dblR tw r)) else none
      else bif allN (fun j => isInts 6 (arrC 6 v j)) n then bif okE (hf n 0 (numOf (arrC 6 v)) (numOf fun _ => []) x (dblR tw r)) then tru true else tru true else none
    else none else none := by kernel_rfl
theorem tail4n1 (hf : HF) (nb : Iv → Bool) (tw : Iv → Iv) (ad ad' : Option Addr) (n m cap cap' : Nat) (v u : Nat → Nat → Int) (x : Iv) (r : Ray) (c : Nat) (g : Nat → Nat → Int) (F : Nat) (L : List Foot) : code4 (orc4 hf nb tw) F tail4 (T4o 6 false) ((HN4 (bodyA ad ad' n m cap cap' v u x) r (out10 .nils ad' m cap' u x) (dblC ad n cap v (.row 7 2 0 (c + 1) true) x)) ++ row4 (c + 1) g) L kfin4 =
    bif allN (fun j => isInts 6 (arrC 6 v j)) n then bif allN (fun j => isInts 2 (arrC 2 u j)) m then
      bif okE (hf n m (numOf (arrC 6 v)) (numOf (arrC 2 u)) x r) then bif decide (0 + (c + 1) ≤ c + 1) then bif allN (fun j => isInts 6 (arrC 6 v j)) n then bif allN (fun j => isInts 2 (arrC 2 g (0 + j))) (c + 1) then sc4 (hf n m (numOf (arrC 6 v)) (numOf (arrC 2 u)) x r) (hf n (c + 1) (numOf (arrC 6 v)) (numOf fun j => arrC 2 g (0 + j)) x (dblR tw r)) else none else none else none
      else bif decide (0 + (c + 1) ≤ c + 1) then bif allN (fun j => isInts 6 (arrC 6 v j)) n then bif allN (fun j => isInts 2 (arrC 2 g (0 + j))) (c + 1) then bif okE (hf n (c + 1) (numOf (arrC 6 v)) (numOf fun j => arrC 2 g (0 + j)) x (dblR tw r)) then tru true else tru true else none else none else none
    else none else none := by kernel_rfl
theorem ret4n0 (hf : HF) (nb : Iv → Bool) (tw : Iv → Iv) (ad ad' : Option Addr) (n m cap cap' : Nat) (v u : Nat → Nat → Int) (x : Iv) (r : Ray) (F : Nat) (L : List Foot) : k4o (orc4 hf nb tw) F .ret (T4o 6 true) (HN4 (bodyA ad ad' n m cap cap' v u x) r (out10 .nils ad' m cap' u x) (dblC ad n cap v .nils x)) L = tru true := by kernel_rfl
theorem ret4n1 (hf : HF) (nb : Iv → Bool) (tw : Iv → Iv) (ad ad' : Option Addr) (n m cap cap' : Nat) (v u : Nat → Nat → Int) (x : Iv) (r : Ray) (c : Nat) (g : Nat → Nat → Int) (F : Nat) (L : List Foot) : k4o (orc4 hf nb tw) F .ret (T4o 6 true) ((HN4 (bodyA ad ad' n m cap cap' v u x) r (out10 .nils ad' m cap' u x) (dblC ad n cap v (.row 7 2 0 (c + 1) true) x)) ++ row4 (c + 1) g) L = tru true := by kernel_rfl
theorem tail4r0 (hf : HF) (nb : Iv → Bool) (tw : Iv → Iv) (ad ad' : Option Addr) (n m cap cap' : Nat) (v u : Nat → Nat → Int) (x : Iv) (r : Ray) (f : Nat → Nat → Int) (F : Nat) (L : List Foot) : code4 (orc4 hf nb tw) F tail4 (T4o 7 false) (HR4 (bodyA ad ad' n m cap cap' v u x) r (out10 (.row 5 6 0 n true) ad' m cap' u x) n f (dblC ad n cap v .nils x)) L kfin4 =
    bif allN (fun j => isInts 6 (arrC 6 v j)) n then bif allN (fun j => isInts 2 (arrC 2 u j)) m then
      bif okE (hf n m (numOf (arrC 6 v)) (numOf (arrC 2 u)) x r) then bif allN (fun j => isInts 6 (arrC 6 v j)) n then sc4 (hf n m (numOf (arrC 6 v)) (numOf (arrC 2 u)) x r) (hf n 0 (numOf (arrC 6 v)) (numOf fun _ => []) x (dblR tw r)) else none
      else bif allN (fun j => isInts 6 (arrC 6 v j)) n then bif okE (hf n 0 (numOf (arrC 6 v)) (numOf fun _ => []) x (dblR tw r)) then tru true else tru true else none
    else none else none := by kernel_rfl
theorem tail4r1 (hf : HF) (nb : Iv → Bool) (tw : Iv → Iv) (ad ad' : Option Addr) (n m cap cap' : Nat) (v u : Nat → Nat → Int) (x : Iv) (r : Ray) (f : Nat → Nat → Int) (c : Nat) (g : Nat → Nat → Int) (F : Nat) (L : List Foot) : code4 (orc4 hf nb tw) F tail4 (T4o 7 false) ((HR4 (bodyA ad ad' n m cap cap' v u x) r (out10 (.row 5 6 0 n true) ad' m cap' u x) n f (dblC ad n cap v (.row 8 2 0 (c + 1) true) x)) ++ row4 (c + 1) g) L kfin4 =
    bif allN (fun j => isInts 6 (arrC 6 v j)) n then bif allN (fun j => isInts 2 (arrC 2 u j)) m then
      bif okE (hf n m (numOf (arrC 6 v)) (numOf (arrC 2 u)) x r) then bif decide (0 + (c + 1) ≤ c + 1) then bif allN (fun j => isInts 6 (arrC 6 v j)) n then bif allN (fun j => isInts 2 (arrC 2 g (0 + j))) (c + 1) then sc4 (hf n m (numOf (arrC 6 v)) (numOf (arrC 2 u)) x r) (hf n (c + 1) (numOf (arrC 6 v)) (numOf fun j => arrC 2 g (0 + j)) x (dblR tw r)) else none else none else none
      else bif decide (0 + (c + 1) ≤ c + 1) then bif allN (fun j => isInts 6 (arrC 6 v j)) n then bif allN (fun j => isInts 2 (arrC 2 g (0 + j))) (c + 1) then bif okE (hf n (c + 1) (numOf (arrC 6 v)) (numOf fun j => arrC 2 g (0 + j)) x (dblR tw r)) then tru true else tru true else none else none else none
    else none else none := by kernel_rfl
theorem ret4r0 (hf : HF) (nb : Iv → Bool) (tw : Iv → Iv) (ad ad' : Option Addr) (n m cap cap' : Nat) (v u : Nat → Nat → Int) (x : Iv) (r : Ray) (f : Nat → Nat → Int) (F : Nat) (L : List Foot) : k4o (orc4 hf nb tw) F .ret (T4o 7 true) (HR4 (bodyA ad ad' n m cap cap' v u x) r (out10 (.row 5 6 0 n true) ad' m cap' u x) n f (dblC ad n cap v .nils x)) L = tru true := by kernel_rfl
theorem ret4r1 (hf : HF) (nb : Iv → Bool) (tw : Iv → Iv) (ad ad' : Option Addr) (n m cap cap' : Nat) (v u : Nat → Nat → Int) (x : Iv) (r : Ray) (f : Nat → Nat → Int) (c : Nat) (g : Nat → Nat → Int) (F : Nat) (L : List Foot) : k4o (orc4 hf nb tw) F .ret (T4o 7 true) ((HR4 (bodyA ad ad' n m cap cap' v u x) r (out10 (.row 5 6 0 n true) ad' m cap' u x) n f (dblC ad n cap v (.row 8 2 0 (c + 1) true) x)) ++ row4 (c + 1) g) L = tru true := by kernel_rfl
theorem exit4 (orc : List (FuncId × (List V → Tree))) (F : Nat) (T : List V) (H : Heap) (L : List Foot) : k4o orc F (.exit 0) T H L = code4 orc F tail4 T H L kfin4 := rfl
/-- The distances that were doubled. -/
def Dbl (nb : Iv → Bool) (tw : Iv → Iv) (u g : Nat → Nat → Int) (k : Nat) : Prop := ∀ i, i < k → nb (ivOf u i) = true ∧ g i 0 = (tw (ivOf u i)).lo ∧ g i 1 = (tw (ivOf u i)).hi
theorem dbl_next {nb : Iv → Bool} {tw : Iv → Iv} {u g : Nat → Nat → Int} {c : Nat} (h : Dbl nb tw u g (c + 1)) {i : Int} (hi : i = ((c + 1 : Nat) : Int)) (hb : nb (ivOf u i.toNat) = true) : Dbl nb tw u (fun j k => bif Nat.blt j (c + 1) then g j k else bif Nat.beq k 0 then (tw (ivOf u i.toNat)).lo else (tw (ivOf u i.toNat)).hi) (c + 1 + 1) := by
  subst hi
  rw [Int.toNat_natCast] at hb ⊢
  intro j hj
  by_cases e : j < c + 1
  · have : Nat.blt j (c + 1) = true := by rw [Nat.blt_eq]; exact e
    simp only [this, cond_true]
    exact h j e
  · obtain rfl : j = c + 1 := by omega
    have : Nat.blt (c + 1) (c + 1) = false := by
      cases hb : Nat.blt (c + 1) (c + 1)
      · rfl
      · rw [Nat.blt_eq] at hb; omega
    simp only [this, cond_false]
    exact ⟨hb, rfl, rfl⟩
/-- What is asked of both hits. -/
def Ask (hf : HF) (nb : Iv → Bool) (tw : Iv → Iv) (n m : Nat) (v u : Nat → Nat → Int) (x : Iv) (r : Ray) : Prop := ∀ g, Dbl nb tw u g m → okE (hf n m (numOf (arrC 6 v)) (numOf (arrC 2 u)) x r) = true → sc4 (hf n m (numOf (arrC 6 v)) (numOf (arrC 2 u)) x r) (hf n m (numOf (arrC 6 v)) (numOf (arrC 2 g)) x (dblR tw r)) = tru true
theorem tt_if (b : Bool) : (bif b then tru true else tru true) = tru true := by cases b <;> rfl
theorem end4n0 (hf : HF) (nb : Iv → Bool) (tw : Iv → Iv) (ad ad' : Option Addr) (n m cap cap' : Nat) (v u : Nat → Nat → Int) (x : Iv) (r : Ray) (F : Nat) (L : List Foot) (hm : m = 0) (ha : okE (hf n m (numOf (arrC 6 v)) (numOf (arrC 2 u)) x r) = true → False) : k4o (orc4 hf nb tw) F (.exit 0) (T4o 6 false) (HN4 (bodyA ad ad' n m cap cap' v u x) r (out10 .nils ad' m cap' u x) (dblC ad n cap v .nils x)) L = tru true := by
  have i1 := allN_iff.2 fun j (_ : j < n) => isInts_arr 6 v j
  have i2 := allN_iff.2 fun j (_ : j < m) => isInts_arr 2 u j
  rw [exit4, tail4n0, i1, i2]
  simp only [cond_true]
  cases h : okE (hf n m (numOf (arrC 6 v)) (numOf (arrC 2 u)) x r)
  · simp only [cond_false]; exact tt_if _
  · exact (ha h).elim
theorem end4n1 (hf : HF) (nb : Iv → Bool) (tw : Iv → Iv) (ad ad' : Option Addr) (n m cap cap' : Nat) (v u : Nat → Nat → Int) (x : Iv) (r : Ray) (c : Nat) (hc : c + 1 = m) (g : Nat → Nat → Int) (hg : Dbl nb tw u g m) (F : Nat) (L : List Foot) (ha : Ask hf nb tw n m v u x r) : k4o (orc4 hf nb tw) F (.exit 0) (T4o 6 false) ((HN4 (bodyA ad ad' n m cap cap' v u x) r (out10 .nils ad' m cap' u x) (dblC ad n cap v (.row 7 2 0 (c + 1) true) x)) ++ row4 (c + 1) g) L = tru true := by
  have i1 := allN_iff.2 fun j (_ : j < n) => isInts_arr 6 v j
  have i2 := allN_iff.2 fun j (_ : j < m) => isInts_arr 2 u j
  have i3 := allN_iff.2 fun j (_ : j < c + 1) => isInts_arr 2 g (0 + j)
  have e0 : (fun j => arrC 2 g (0 + j)) = arrC 2 g := by funext j; rw [Nat.zero_add]
  rw [exit4, tail4n1, i1, i2, i3, decide_eq_true (show 0 + (c + 1) ≤ c + 1 by omega), e0, hc]
  simp only [cond_true]
  cases h : okE (hf n m (numOf (arrC 6 v)) (numOf (arrC 2 u)) x r)
  · simp only [cond_false]; exact tt_if _
  · simp only [cond_true]; exact ha g hg h
theorem run4n (hf : HF) (nb : Iv → Bool) (tw : Iv → Iv) (ad ad' : Option Addr) (n m cap cap' : Nat) (v u : Nat → Nat → Int) (x : Iv) (r : Ray) (hm : m ≤ 20) (F : Nat) (ha : Ask hf nb tw n m v u x r) : ∀ (j c fuel : Nat) (g : Nat → Nat → Int) (L : List Foot), c + 1 + j = m → j < fuel → Dbl nb tw u g (c + 1) →
    loop4 (orc4 hf nb tw) 7 F fuel (T4 6 ((c + 1 : Nat) : Int)) ((HN4 (bodyA ad ad' n m cap cap' v u x) r (out10 .nils ad' m cap' u x) (dblC ad n cap v (.row 7 2 0 (c + 1) true) x)) ++ row4 (c + 1) g) L (k4o (orc4 hf nb tw) F) = tru true
  | 0, c, fuel + 1, g, L, h, _, hg => by
    rw [step4n1, decide_eq_false (show ¬ (((c + 1 : Nat) : Int) < (m : Int)) by omega), cond_false]
    exact end4n1 hf nb tw ad ad' n m cap cap' v u x r c (by omega) g (by rw [← show c + 1 = m by omega]; exact hg) F L ha
  | j + 1, c, fuel + 1, g, L, h, hf', hg => by
    rw [step4n1, decide_eq_true (show (((c + 1 : Nat) : Int) < (m : Int)) by omega), decide_eq_true (show ((0 : Int) ≤ ((c + 1 : Nat) : Int)) by omega), decide_eq_true (Nat.le_refl (c + 1)),
      decide_eq_true (show (c + 1 + 1) * 16 ≤ 140737488355328 by omega), decide_eq_true (show c + 1 + 1 ≤ 140737488355328 by omega)]
    simp only [Bool.and_self, cond_true]
    cases hb : nb (ivOf u ((c + 1 : Nat) : Int).toNat)
    · exact ret4n1 hf nb tw ad ad' n m cap cap' v u x r c g F L
    · simp only [Bool.not_true, cond_false]
      rw [show W (((c + 1 : Nat) : Int) + 1) = ((c + 1 + 1 : Nat) : Int) by unfold W; rw [wr (by omega) (by omega)]; omega]
      exact run4n hf nb tw ad ad' n m cap cap' v u x r hm F ha j (c + 1) fuel _ _ (by omega) (by omega) (dbl_next hg rfl hb)
theorem all4n (hf : HF) (nb : Iv → Bool) (tw : Iv → Iv) (ad ad' : Option Addr) (n m cap cap' : Nat) (v u : Nat → Nat → Int) (x : Iv) (r : Ray) (hm : m ≤ 20) (F : Nat) (hF : m < F) (ha : Ask hf nb tw n m v u x r) (hz : m = 0 → okE (hf n m (numOf (arrC 6 v)) (numOf (arrC 2 u)) x r) = true → False) (L : List Foot) :
    loop4 (orc4 hf nb tw) 7 F F (T4 6 0) (HN4 (bodyA ad ad' n m cap cap' v u x) r (out10 .nils ad' m cap' u x) (dblC ad n cap v .nils x)) L (k4o (orc4 hf nb tw) F) = tru true := by
  obtain ⟨G, hG⟩ : ∃ G, F = G + 1 := ⟨F - 1, by omega⟩
  have hs := step4n0 hf nb tw ad ad' n m cap cap' v u x r 0 F G L (k4o (orc4 hf nb tw) F)
  rw [← hG] at hs
  refine hs.trans ?_
  by_cases h0 : m = 0
  · rw [decide_eq_false (show ¬ ((0 : Int) < (m : Int)) by omega), cond_false]
    exact end4n0 hf nb tw ad ad' n m cap cap' v u x r F L h0 (hz h0)
  · rw [decide_eq_true (show ((0 : Int) < (m : Int)) by omega), decide_eq_true (Int.le_refl 0)]
    simp only [Bool.and_self, cond_true]
    cases hb : nb (ivOf u (0 : Int).toNat)
    · exact ret4n0 hf nb tw ad ad' n m cap cap' v u x r F L
    · simp only [Bool.not_true, cond_false]
      rw [show W ((0 : Int) + 1) = ((0 + 1 : Nat) : Int) by unfold W; rw [wr (by omega) (by omega)]; rfl]
      refine run4n hf nb tw ad ad' n m cap cap' v u x r hm F ha (m - 1) 0 G _ _ (by omega) (by omega) fun i hi => ?_
      obtain rfl : i = 0 := by omega
      exact ⟨hb, rfl, rfl⟩
theorem end4r0 (hf : HF) (nb : Iv → Bool) (tw : Iv → Iv) (ad ad' : Option Addr) (n m cap cap' : Nat) (v u : Nat → Nat → Int) (x : Iv) (r : Ray) (f : Nat → Nat → Int) (F : Nat) (L : List Foot) (hm : m = 0) (ha : okE (hf n m (numOf (arrC 6 v)) (numOf (arrC 2 u)) x r) = true → False) : k4o (orc4 hf nb tw) F (.exit 0) (T4o 7 false) (HR4 (bodyA ad ad' n m cap cap' v u x) r (out10 (.row 5 6 0 n true) ad' m cap' u x) n f (dblC ad n cap v .nils x)) L = tru true := by
  have i1 := allN_iff.2 fun j (_ : j < n) => isInts_arr 6 v j
  have i2 := allN_iff.2 fun j (_ : j < m) => isInts_arr 2 u j
  rw [exit4, tail4r0, i1, i2]
  simp only [cond_true]
  cases h : okE (hf n m (numOf (arrC 6 v)) (numOf (arrC 2 u)) x r)
  · simp only [cond_false]; exact tt_if _
  · exact (ha h).elim
theorem end4r1 (hf : HF) (nb : Iv → Bool) (tw : Iv → Iv) (ad ad' : Option Addr) (n m cap cap' : Nat) (v u : Nat → Nat → Int) (x : Iv) (r : Ray) (f : Nat → Nat → Int) (c : Nat) (hc : c + 1 = m) (g : Nat → Nat → Int) (hg : Dbl nb tw u g m) (F : Nat) (L : List Foot) (ha : Ask hf nb tw n m v u x r) : k4o (orc4 hf nb tw) F (.exit 0) (T4o 7 false) ((HR4 (bodyA ad ad' n m cap cap' v u x) r (out10 (.row 5 6 0 n true) ad' m cap' u x) n f (dblC ad n cap v (.row 8 2 0 (c + 1) true) x)) ++ row4 (c + 1) g) L = tru true := by
  have i1 := allN_iff.2 fun j (_ : j < n) => isInts_arr 6 v j
  have i2 := allN_iff.2 fun j (_ : j < m) => isInts_arr 2 u j
  have i3 := allN_iff.2 fun j (_ : j < c + 1) => isInts_arr 2 g (0 + j)
  have e0 : (fun j => arrC 2 g (0 + j)) = arrC 2 g := by funext j; rw [Nat.zero_add]
  rw [exit4, tail4r1, i1, i2, i3, decide_eq_true (show 0 + (c + 1) ≤ c + 1 by omega), e0, hc]
  simp only [cond_true]
  cases h : okE (hf n m (numOf (arrC 6 v)) (numOf (arrC 2 u)) x r)
  · simp only [cond_false]; exact tt_if _
  · simp only [cond_true]; exact ha g hg h
theorem run4r (hf : HF) (nb : Iv → Bool) (tw : Iv → Iv) (ad ad' : Option Addr) (n m cap cap' : Nat) (v u : Nat → Nat → Int) (x : Iv) (r : Ray) (f : Nat → Nat → Int) (hm : m ≤ 20) (F : Nat) (ha : Ask hf nb tw n m v u x r) : ∀ (j c fuel : Nat) (g : Nat → Nat → Int) (L : List Foot), c + 1 + j = m → j < fuel → Dbl nb tw u g (c + 1) →
    loop4 (orc4 hf nb tw) 8 F fuel (T4 7 ((c + 1 : Nat) : Int)) ((HR4 (bodyA ad ad' n m cap cap' v u x) r (out10 (.row 5 6 0 n true) ad' m cap' u x) n f (dblC ad n cap v (.row 8 2 0 (c + 1) true) x)) ++ row4 (c + 1) g) L (k4o (orc4 hf nb tw) F) = tru true
  | 0, c, fuel + 1, g, L, h, _, hg => by
    rw [step4r1, decide_eq_false (show ¬ (((c + 1 : Nat) : Int) < (m : Int)) by omega), cond_false]
    exact end4r1 hf nb tw ad ad' n m cap cap' v u x r f c (by omega) g (by rw [← show c + 1 = m by omega]; exact hg) F L ha
  | j + 1, c, fuel + 1, g, L, h, hf', hg => by
    rw [step4r1, decide_eq_true (show (((c + 1 : Nat) : Int) < (m : Int)) by omega), decide_eq_true (show ((0 : Int) ≤ ((c + 1 : Nat) : Int)) by omega), decide_eq_true (Nat.le_refl (c + 1)),
      decide_eq_true (show (c + 1 + 1) * 16 ≤ 140737488355328 by omega), decide_eq_true (show c + 1 + 1 ≤ 140737488355328 by omega)]
    simp only [Bool.and_self, cond_true]
    cases hb : nb (ivOf u ((c + 1 : Nat) : Int).toNat)
    · exact ret4r1 hf nb tw ad ad' n m cap cap' v u x r f c g F L
    · simp only [Bool.not_true, cond_false]
      rw [show W (((c + 1 : Nat) : Int) + 1) = ((c + 1 + 1 : Nat) : Int) by unfold W; rw [wr (by omega) (by omega)]; omega]
      exact run4r hf nb tw ad ad' n m cap cap' v u x r f hm F ha j (c + 1) fuel _ _ (by omega) (by omega) (dbl_next hg rfl hb)
theorem all4r (hf : HF) (nb : Iv → Bool) (tw : Iv → Iv) (ad ad' : Option Addr) (n m cap cap' : Nat) (v u : Nat → Nat → Int) (x : Iv) (r : Ray) (f : Nat → Nat → Int) (hm : m ≤ 20) (F : Nat) (hF : m < F) (ha : Ask hf nb tw n m v u x r) (hz : m = 0 → okE (hf n m (numOf (arrC 6 v)) (numOf (arrC 2 u)) x r) = true → False) (L : List Foot) :
    loop4 (orc4 hf nb tw) 8 F F (T4 7 0) (HR4 (bodyA ad ad' n m cap cap' v u x) r (out10 (.row 5 6 0 n true) ad' m cap' u x) n f (dblC ad n cap v .nils x)) L (k4o (orc4 hf nb tw) F) = tru true := by
  obtain ⟨G, hG⟩ : ∃ G, F = G + 1 := ⟨F - 1, by omega⟩
  have hs := step4r0 hf nb tw ad ad' n m cap cap' v u x r f 0 F G L (k4o (orc4 hf nb tw) F)
  rw [← hG] at hs
  refine hs.trans ?_
  by_cases h0 : m = 0
  · rw [decide_eq_false (show ¬ ((0 : Int) < (m : Int)) by omega), cond_false]
    exact end4r0 hf nb tw ad ad' n m cap cap' v u x r f F L h0 (hz h0)
  · rw [decide_eq_true (show ((0 : Int) < (m : Int)) by omega), decide_eq_true (Int.le_refl 0)]
    simp only [Bool.and_self, cond_true]
    cases hb : nb (ivOf u (0 : Int).toNat)
    · exact ret4r0 hf nb tw ad ad' n m cap cap' v u x r f F L
    · simp only [Bool.not_true, cond_false]
      rw [show W ((0 : Int) + 1) = ((0 + 1 : Nat) : Int) by unfold W; rw [wr (by omega) (by omega)]; rfl]
      refine run4r hf nb tw ad ad' n m cap cap' v u x r f hm F ha (m - 1) 0 G _ _ (by omega) (by omega) fun i hi => ?_
      obtain rfl : i = 0 := by omega
      exact ⟨hb, rfl, rfl⟩
end Go.Proofs.Ytbgdfikfldkjbaa.AI
