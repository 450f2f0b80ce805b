/- Two texts, laid into one by mkclaim.py. -/
import Derived.Test.YtbgdfikfldkjbaaGreatGJ
import Derived.Test.YtbgdfikfldkjbaaGreatGT
section
/- The statement TraceHit, read. -/
namespace Go.Proofs.YtbgdfikfldkjbaaGreat.AI
set_option linter.unnecessarySimpa false
open Go
set_option linter.unusedVariables false
set_option linter.unusedSimpArgs false
abbrev ThF := (Nat → Nat → Int) → Nat → Nat → Nat → Int
abbrev ValF := Nat → Nat → (Nat → Nat → Int) → (Nat → Nat → Int) → Iv → Bool
noncomputable def orcW4 (hf hg : HF) (va vb : ValF) (ea eb : EnF) : List (FuncId × (List V → Tree)) := [(5, T8), (13, fun args => argsT args (F11g hf)), (14, fun args => argsT args (F11g hg)), (15, fun args => argsT args (F26g va)), (16, fun args => argsT args (F26g vb)), (17, fun args => argsT args (F17e ea)), (18, fun args => argsT args (F17e eb))]
noncomputable def fnsW4 : List (FuncId × Func × List (Nat × LV)) := [(6, Tryz.f6, []), (10, Tryz.f10, [])]
def preT (n m : Nat) (v u : Nat → Nat → Int) (X : R) : R := bif (allN (fun j => isInts 6 (arrC 6 v j)) n && (allN (fun j => isInts 2 (arrC 2 u j)) m && decide (n * 48 ≤ 140737488351232))) then X else none
def rowV (th : ThF) (v : Nat → Nat → Int) (c : Nat) : Nat → Nat → Int := numOf fun j => arrC 6 (th (numOf (arrC 6 v)) (c + 1)) (0 + j)
def depV (u : Nat → Nat → Int) : Nat → Nat → Int := numOf (arrC 2 (numOf (arrC 2 u)))
def viewT (th : ThF) (c m : Nat) (v u : Nat → Nat → Int) (X : R) : R := bif decide (0 + (c + 1) ≤ c + 1) then bif allN (fun j => isInts 6 (arrC 6 (th (numOf (arrC 6 v)) (c + 1)) (0 + j))) (c + 1) then bif allN (fun j => isInts 2 (arrC 2 (numOf (arrC 2 u)) j)) m then X else none else none else none
def hitK (e : Er (Int × Iv)) (k : Int → Iv → Int → R) : R := bif okE e then k (getE (0, iv0) e).1 (getE (0, iv0) e).2 0 else k 0 iv0 (Int.ofNat (erE e + 1))
def enK (e : Er (Ray × Iv)) (k : Ray → Iv → Int → R) : R := bif okE e then k (getE (ray0, iv0) e).1 (getE (ray0, iv0) e).2 0 else k ray0 iv0 (Int.ofNat (erE e + 1))
def eqI4 (x y : Iv) : Bool := decide (x.lo = y.lo) && (decide (x.hi = y.hi) && true)
def eqX4 (a b : Bx) : Bool := eqI4 a.x b.x && (eqI4 a.y b.y && (eqI4 a.z b.z && true))
def eqR4 (a b : Ray) : Bool := eqX4 a.pt b.pt && (eqX4 a.dir b.dir && true)
def lawW4 (th : ThF) (hf hg : HF) (va vb : ValF) (ea eb : EnF) (c m : Nat) (v u : Nat → Nat → Int) (x : Iv) (r : Ray) (face : Int) : R :=
  preT (c + 1) m v u (bif decide (((c + 1 : Nat) : Int) ≤ 20) then bif !decide ((m : Int) ≤ 20) then tru true else
    pre22 (c + 1) m v u (hitK (hf (c + 1) m (numOf (arrC 6 v)) (numOf (arrC 2 u)) x r) fun i y e => preT (c + 1) m v u (viewT th c m v u (hitK (hg (c + 1) m (rowV th v c) (depV u) x r) fun k z f =>
      bif !decide (i = k) then tru false else bif !eqI4 y z then tru false else bif !decide (e = f) then tru false else pre22 (c + 1) m v u (preT (c + 1) m v u (viewT th c m v u (
        bif !decide (va (c + 1) m (numOf (arrC 6 v)) (numOf (arrC 2 u)) x = vb (c + 1) m (rowV th v c) (depV u) x) then tru false else
        pre22 (c + 1) m v u (enK (ea (c + 1) m (numOf (arrC 6 v)) (numOf (arrC 2 u)) x face r) fun r1 t1 e1 => preT (c + 1) m v u (viewT th c m v u (enK (eb (c + 1) m (rowV th v c) (depV u) x face r) fun r2 t2 e2 =>
          bif eqR4 r1 r2 then bif eqI4 t1 t2 then tru (decide (e1 = e2)) else tru false else tru false))))))))) else tru true)
theorem t4 (th : ThF) (hf hg : HF) (va vb : ValF) (ea eb : EnF) (ad ad' : Option Addr) (c m cap cap' : Nat) (v u : Nat → Nat → Int) (x : Iv) (r : Ray) (face : Int) (F : Nat) :
    ansA Tryz.prog [(7, T7g th)] (orcW4 hf hg va vb ea eb) fnsW4 F 3 Tryz.f4 [] [.u (.a (bodyA ad ad' (c + 1) m cap cap' v u x)), rayV r, .u (ui face)] = lawW4 th hf hg va vb ea eb c m v u x r face := by kernel_rfl

def viewZ (m : Nat) (u : Nat → Nat → Int) (X : R) : R := bif allN (fun j => isInts 6 (arrC 6 zz j)) 0 then bif allN (fun j => isInts 2 (arrC 2 (numOf (arrC 2 u)) j)) m then X else none else none
def lawW0 (hf hg : HF) (va vb : ValF) (ea eb : EnF) (m : Nat) (v u : Nat → Nat → Int) (x : Iv) (r : Ray) (face : Int) : R :=
  preT 0 m v u (bif !decide ((m : Int) ≤ 20) then tru true else
    pre22 0 m v u (hitK (hf 0 m (numOf (arrC 6 v)) (numOf (arrC 2 u)) x r) fun i y e => preT 0 m v u (viewZ m u (hitK (hg 0 m (numOf (arrC 6 zz)) (depV u) x r) fun k z f =>
      bif !decide (i = k) then tru false else bif !eqI4 y z then tru false else bif !decide (e = f) then tru false else pre22 0 m v u (preT 0 m v u (viewZ m u (
        bif !decide (va 0 m (numOf (arrC 6 v)) (numOf (arrC 2 u)) x = vb 0 m (numOf (arrC 6 zz)) (depV u) x) then tru false else
        pre22 0 m v u (enK (ea 0 m (numOf (arrC 6 v)) (numOf (arrC 2 u)) x face r) fun r1 t1 e1 => preT 0 m v u (viewZ m u (enK (eb 0 m (numOf (arrC 6 zz)) (depV u) x face r) fun r2 t2 e2 =>
          bif eqR4 r1 r2 then bif eqI4 t1 t2 then tru (decide (e1 = e2)) else tru false else tru false))))))))))
theorem t40 (th : ThF) (hf hg : HF) (va vb : ValF) (ea eb : EnF) (ad ad' : Option Addr) (m cap cap' : Nat) (v u : Nat → Nat → Int) (x : Iv) (r : Ray) (face : Int) (F : Nat) :
    ansA Tryz.prog [(7, T7g th)] (orcW4 hf hg va vb ea eb) fnsW4 F 3 Tryz.f4 [] [.u (.a (bodyA ad ad' 0 m cap cap' v u x)), rayV r, .u (ui face)] = lawW0 hf hg va vb ea eb m v u x r face := by kernel_rfl
end Go.Proofs.YtbgdfikfldkjbaaGreat.AI
end
section
/- TraceHit: what its text answers. -/
namespace Go.Proofs.YtbgdfikfldkjbaaGreat.AI
set_option linter.unnecessarySimpa false
open Go
set_option linter.unusedVariables false
set_option linter.unusedSimpArgs false
/-! What is asked of a body depends on its faces alone. -/
theorem allF_congr {p q : Nat → Bool} : ∀ (k i : Nat), (∀ j, i ≤ j → j < i + k → p j = q j) → allF p i k = allF q i k
  | 0, i, _ => rfl
  | k + 1, i, h => by
    unfold allF
    rw [h i (Nat.le_refl _) (by omega), allF_congr k (i + 1) fun j h1 h2 => h j (by omega) (by omega)]
structure SameB (n m : Nat) (v v' u u' : Nat → Nat → Int) : Prop where
  bx : ∀ j, j < n → bxOf v j = bxOf v' j
  iv : ∀ j, j < m → ivOf u j = ivOf u' j
theorem valid_congr {n m : Nat} {v v' u u' : Nat → Nat → Int} {x : Iv} (h : SameB n m v v' u u') : validB n m v u x = validB n m v' u' x := by
  unfold validB
  rw [allF_congr n 0 fun j _ hj => by rw [h.bx j (by omega)], allF_congr m 0 fun j _ hj => by rw [h.iv j (by omega)]]
theorem tgs_congr {n : Nat} {v v' u u' : Nat → Nat → Int} {r : Ray} (h : SameB n n v v' u u') : ∀ (k i : Nat), i + k = n → tgs v u r k i = tgs v' u' r k i
  | 0, i, _ => rfl
  | k + 1, i, hi => by
    unfold tgs cosE gapE
    rw [h.bx i (by omega), h.iv i (by omega), tgs_congr h k (i + 1) (by omega)]
theorem hit_congr {n m : Nat} {v v' u u' : Nat → Nat → Int} {x : Iv} {r : Ray} (h : SameB n m v v' u u') : hitE n m v u x r = hitE n m v' u' x r := by
  rw [hitE_eq, hitE_eq, valid_congr h]
  cases hv : validB n m v' u' x
  · rfl
  have hnm : m = n := by
    unfold validB at hv
    simp only [Bool.and_eq_true, decide_eq_true_eq] at hv
    exact hv.1.2.2.1
  subst hnm
  unfold hitS
  rw [tgs_congr h m 0 (by omega)]
theorem ent_congr {n m : Nat} {v v' u u' : Nat → Nat → Int} {x : Iv} {i : Int} {r : Ray} (h : SameB n m v v' u u') : entE n m v u x i r = entE n m v' u' x i r := by
  unfold entE
  rw [valid_congr h]
  cases hi : decide (i < 0)
  · cases hn : decide ((n : Int) ≤ i)
    · have hi' : ¬ i < 0 := by simpa using hi
      have hn' : ¬ (n : Int) ≤ i := by simpa using hn
      rw [h.bx i.toNat (by omega)]
    · rfl
  · rfl
theorem bx_of {v v' : Nat → Nat → Int} {j : Nat} (h : ∀ k, k < 6 → v j k = v' j k) : bxOf v j = bxOf v' j := by
  unfold bxOf
  rw [h 0 (by omega), h 1 (by omega), h 2 (by omega), h 3 (by omega), h 4 (by omega), h 5 (by omega)]
theorem iv_of {v v' : Nat → Nat → Int} {j : Nat} (h : ∀ k, k < 2 → v j k = v' j k) : ivOf v j = ivOf v' j := by
  unfold ivOf
  rw [h 0 (by omega), h 1 (by omega)]
theorem dep_eq (u : Nat → Nat → Int) (j : Nat) : ivOf (depV u) j = ivOf (numOf (arrC 2 u)) j := iv_of fun k hk => by
  unfold depV
  rw [num_arr hk]
theorem num_arr0 {k : Nat} {w : Nat → Nat → Int} {j m : Nat} (h : m < k) : numOf (fun j => arrC k w (0 + j)) j m = w j m := by
  have : (fun j => arrC k w (0 + j)) = arrC k w := by funext j; rw [Nat.zero_add]
  rw [this, num_arr h]
theorem row_eq {v : Nat → Nat → Int} {c j : Nat} (hj : j < c + 1) : bxOf (rowV thF v c) j = bxOf (numOf (arrC 6 v)) j := bx_of fun k hk => by
  unfold rowV
  rw [num_arr0 hk, thF_eq _ _ _ _ hj]
theorem same_row (c m : Nat) (v u : Nat → Nat → Int) : SameB (c + 1) m (rowV thF v c) (numOf (arrC 6 v)) (depV u) (numOf (arrC 2 u)) := ⟨fun j hj => row_eq hj, fun j _ => dep_eq u j⟩
theorem same_zz (m : Nat) (v u : Nat → Nat → Int) : SameB 0 m (numOf (arrC 6 zz)) (numOf (arrC 6 v)) (depV u) (numOf (arrC 2 u)) := ⟨fun j hj => absurd hj (Nat.not_lt_zero j), fun j _ => dep_eq u j⟩
/-! The guards hold. -/
theorem preT_in {n m : Nat} {v u : Nat → Nat → Int} (hn : n * 48 ≤ 140737488351232) (X : R) : preT n m v u X = X := by
  unfold preT
  rw [allN_iff.2 fun j (_ : j < n) => isInts_arr 6 v j, allN_iff.2 fun j (_ : j < m) => isInts_arr 2 u j, decide_eq_true hn]
  rfl
theorem viewT_in (th : ThF) (c m : Nat) (v u : Nat → Nat → Int) (X : R) : viewT th c m v u X = X := by
  unfold viewT
  rw [decide_eq_true (show 0 + (c + 1) ≤ c + 1 by omega), allN_iff.2 fun j (_ : j < c + 1) => isInts_arr 6 (th (numOf (arrC 6 v)) (c + 1)) (0 + j), allN_iff.2 fun j (_ : j < m) => isInts_arr 2 (numOf (arrC 2 u)) j]
  rfl
theorem viewZ_in (m : Nat) (u : Nat → Nat → Int) (X : R) : viewZ m u X = X := by
  unfold viewZ
  rw [allN_iff.2 fun j (_ : j < 0) => isInts_arr 6 zz j, allN_iff.2 fun j (_ : j < m) => isInts_arr 2 (numOf (arrC 2 u)) j]
  rfl
theorem hit2 {e : Er (Int × Iv)} {Z : R} {G : Int → Iv → Int → Int → Iv → Int → R} (h : ∀ i y z, G i y z i y z = Z) : (hitK e fun i y z => hitK e fun k w f => G i y z k w f) = Z := by
  unfold hitK
  cases okE e
  · exact h _ _ _
  · exact h _ _ _
theorem en2 {e : Er (Ray × Iv)} {Z : R} {G : Ray → Iv → Int → Ray → Iv → Int → R} (h : ∀ i y z, G i y z i y z = Z) : (enK e fun i y z => enK e fun k w f => G i y z k w f) = Z := by
  unfold enK
  cases okE e
  · exact h _ _ _
  · exact h _ _ _
theorem eqI4_self (x : Iv) : eqI4 x x = true := by unfold eqI4; simp
theorem eqX4_self (x : Bx) : eqX4 x x = true := by unfold eqX4; rw [eqI4_self, eqI4_self, eqI4_self]; rfl
theorem eqR4_self (x : Ray) : eqR4 x x = true := by unfold eqR4; rw [eqX4_self, eqX4_self]; rfl
def tail4 (va vb : Bool) (ea eb : Er (Ray × Iv)) : R := bif !decide (va = vb) then tru false else enK ea fun r1 t1 e1 => enK eb fun r2 t2 e2 => bif eqR4 r1 r2 then bif eqI4 t1 t2 then tru (decide (e1 = e2)) else tru false else tru false
def all4t (ha hb : Er (Int × Iv)) (va vb : Bool) (ea eb : Er (Ray × Iv)) : R := hitK ha fun i y e => hitK hb fun k z f => bif !decide (i = k) then tru false else bif !eqI4 y z then tru false else bif !decide (e = f) then tru false else tail4 va vb ea eb
theorem all4t_true (h : Er (Int × Iv)) (v : Bool) (e : Er (Ray × Iv)) : all4t h h v v e e = tru true := by
  unfold all4t
  refine hit2 fun i y z => ?_
  rw [decide_eq_true (show i = i from rfl), decide_eq_true (show z = z from rfl), eqI4_self]
  simp only [Bool.not_true, cond_false]
  unfold tail4
  rw [decide_eq_true (show v = v from rfl)]
  simp only [Bool.not_true, cond_false]
  refine en2 fun r t f => ?_
  rw [eqR4_self, eqI4_self, decide_eq_true (show f = f from rfl)]
  rfl
theorem law4_true (c m : Nat) (v u : Nat → Nat → Int) (x : Iv) (r : Ray) (face : Int) (hn : (c + 1) * 48 ≤ 140737488351232) : lawW4 thF hitE hitE validB validB entE entE c m v u x r face = tru true := by
  unfold lawW4
  rw [preT_in hn]
  have hb := same_row c m v u
  cases decide (((c + 1 : Nat) : Int) ≤ 20)
  · rfl
  cases decide ((m : Int) ≤ 20)
  · rfl
  simp only [cond_true, Bool.not_true, cond_false, pre22_in, preT_in hn, viewT_in]
  rw [hit_congr hb, valid_congr hb, ent_congr hb]
  exact all4t_true _ _ _
theorem law40_gen (hf : HF) (va : ValF) (ea : EnF) (m : Nat) (v u : Nat → Nat → Int) (x : Iv) (r : Ray) (face : Int) (h1 : hf 0 m (numOf (arrC 6 zz)) (depV u) x r = hf 0 m (numOf (arrC 6 v)) (numOf (arrC 2 u)) x r)
    (h2 : va 0 m (numOf (arrC 6 zz)) (depV u) x = va 0 m (numOf (arrC 6 v)) (numOf (arrC 2 u)) x) (h3 : ea 0 m (numOf (arrC 6 zz)) (depV u) x face r = ea 0 m (numOf (arrC 6 v)) (numOf (arrC 2 u)) x face r) : lawW0 hf hf va va ea ea m v u x r face = tru true := by
  unfold lawW0
  have hn : 0 * 48 ≤ 140737488351232 := Nat.zero_mul 48 ▸ Nat.zero_le _
  rw [preT_in hn]
  cases decide ((m : Int) ≤ 20)
  · rfl
  simp only [Bool.not_true, cond_false, pre22_in, preT_in hn, viewZ_in]
  rw [h1, h2, h3]
  exact all4t_true _ _ _
theorem law40_true (m : Nat) (v u : Nat → Nat → Int) (x : Iv) (r : Ray) (face : Int) : lawW0 hitE hitE validB validB entE entE m v u x r face = tru true :=
  law40_gen hitE validB entE m v u x r face (hit_congr (same_zz m v u)) (valid_congr (same_zz m v u)) (ent_congr (same_zz m v u))
theorem gk4 : FnOk Tryz.prog 4 Tryz.f4 := fk Tryz.func4 (by kernel_rfl) rfl
theorem gk6 : FnOk Tryz.prog 6 Tryz.f6 := fk Tryz.func6 (by kernel_rfl) rfl
theorem gk10 : FnOk Tryz.prog 10 Tryz.f10 := fk Tryz.func10 (by kernel_rfl) rfl
theorem orcW4_ok : OrcOk Tryz.prog (orcW4 hitE hitE validB validB entE entE) := orc_cons E8 (orc_cons E11 (orc_cons H14 (orc_cons E26 (orc_cons H16 (orc_cons H17 (orc_cons H18 orc_nil))))))
theorem face_sc (i : Int) (W : World) (S : Nat → Prop) : (V.u (ui i)).sc W S := AOk.int _ _
theorem hit_calls (ad ad' : Option Addr) (n m cap cap' : Nat) (v u : Nat → Nat → Int) (x : Iv) (r : Ray) (face : Int) (hn : n * 48 ≤ 140737488351232) (w : World) (h1 : AOk w (.as ad 6 n cap (arrC 6 v))) (h2 : AOk w (.as ad' 2 m cap' (arrC 2 u))) :
    Calls Tryz.prog 4 (([.u (.a (bodyA ad ad' n m cap cap' v u x)), rayV r, .u (ui face)] : List V).map (V.den fun _ => ri0)).toArray w fun e w' => e = .returned (.bool true) ∧ RowKit.Below w.heap.size w w' := by
  have h : ansA Tryz.prog [(7, T7g thF)] (orcW4 hitE hitE validB validB entE entE) fnsW4 9 3 Tryz.f4 [] [.u (.a (bodyA ad ad' n m cap cap' v u x)), rayV r, .u (ui face)] = tru true := by
    cases n with
    | zero => exact (t40 thF hitE hitE validB validB entE entE ad ad' m cap cap' v u x r face 9).trans (law40_true m v u x r face)
    | succ c => exact (t4 thF hitE hitE validB validB entE entE ad ad' c m cap cap' v u x r face 9).trans (law4_true c m v u x r face hn)
  refine ansA_calls mixed (orcA_cons E7A orcA_nil) orcW4_ok (fns_cons gk6 (fns_cons gk10 fns_nil)) gk4 (fun _ _ => loops_nil) h (fun y hy => ?_) _ (fun y hy => ?_)
  · simp only [List.mem_cons, List.not_mem_nil, or_false] at hy
    rcases hy with rfl | rfl | rfl
    · exact ⟨rfl, fun e => by cases e⟩
    · exact ⟨rfl, fun e => by cases e⟩
    · exact ⟨rfl, fun e => by cases e⟩
  · simp only [List.mem_cons, List.not_mem_nil, or_false] at hy
    rcases hy with rfl | rfl | rfl
    · intro z hz
      simp only [bodyA, List.mem_cons, List.not_mem_nil, or_false] at hz
      rcases hz with rfl | rfl | rfl | rfl
      · exact h1
      · exact h2
      · exact AOk.int _ _
      · exact AOk.int _ _
    · exact rayC_sc r w _
    · exact face_sc face w _
end Go.Proofs.YtbgdfikfldkjbaaGreat.AI
end
