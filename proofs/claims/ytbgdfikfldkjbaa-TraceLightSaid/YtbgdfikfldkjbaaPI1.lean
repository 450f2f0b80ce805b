/- trace.Inside and the reference's Inside, told. -/
import Derived.Test.YtbgdfikfldkjbaaPI0
import Derived.Test.YtbgdfikfldkjbaaNFX
namespace Go.Proofs.Ytbgdfikfldkjbaa.AI
set_option linter.unnecessarySimpa false
open Go
set_option linter.unusedVariables false
set_option linter.unusedSimpArgs false
/-- A path: kind, faces, the direction, the light. -/
structure Pth where
  kd : Int
  n : Nat
  v : Nat → Nat → Int
  o : Bx
  g : Iv
def pathC (p : Pth) (ad : Option Addr) (cap : Nat) : List C := [.int .i64 p.kd, .as ad 1 p.n cap (arrC 1 p.v), .int .i64 p.o.x.lo, .int .i64 p.o.x.hi, .int .i64 p.o.y.lo, .int .i64 p.o.y.hi, .int .i64 p.o.z.lo, .int .i64 p.o.z.hi, .int .i64 p.g.lo, .int .i64 p.g.hi]
abbrev EqF := Nat → Nat → (Nat → Nat → Int) → (Nat → Nat → Int) → Bool
def F2g (ic : Iv → Iv → Bool) : List Int → Tree
  | [a, b, c, d] => truT (ic ⟨a, b⟩ ⟨c, d⟩)
  | _ => .no
noncomputable def orc17 (eq : EqF) (ib : Bx → Bx → Bool) (ic : Iv → Iv → Bool) : List (FuncId × (List V → Tree)) := [(35, fun args => argsT args (F35 eq)), (36, s66 fun a b => truT (ib a b)), (37, shT [some 2, some 2] (F2g ic))]
noncomputable def orc18 (eq : EqF) (ib : Bx → Bx → Bool) (ic : Iv → Iv → Bool) : List (FuncId × (List V → Tree)) := [(38, fun args => argsT args (F35 eq)), (39, s66 fun a b => truT (ib a b)), (40, shT [some 2, some 2] (F2g ic))]
theorem a17 (eq : EqF) (ib : Bx → Bx → Bool) (ic : Iv → Iv → Bool) (p q : Pth) (ad ad' : Option Addr) (cap cap' : Nat) : ans Try.prog (orc17 eq ib ic) [(17, Try.f17, [])] 9 3 17 [.u (.a (pathC p ad cap)), .u (.a (pathC q ad' cap'))] =
    bif decide (q.kd = 3) then bif decide ((q.n : Int) ≤ p.n) then bif decide ((q.n : Int) ≤ p.n) then bif allN (fun j => isInts 1 (arrC 1 p.v j)) q.n then bif allN (fun j => isInts 1 (arrC 1 q.v j)) q.n then bif decide (q.n ≤ 200) then
      tru (eq q.n q.n (numOf (arrC 1 p.v)) (numOf (arrC 1 q.v))) else none else none else none else none else tru false
    else bif decide (p.kd = q.kd) then bif allN (fun j => isInts 1 (arrC 1 p.v j)) p.n then bif allN (fun j => isInts 1 (arrC 1 q.v j)) q.n then bif decide (p.n ≤ 200) then
      bif eq p.n q.n (numOf (arrC 1 p.v)) (numOf (arrC 1 q.v)) then bif ib p.o q.o then tru (ic p.g q.g) else tru false else tru false else none else none else none else tru false := by kernel_rfl
theorem a18 (eq : EqF) (ib : Bx → Bx → Bool) (ic : Iv → Iv → Bool) (p q : Pth) (ad ad' : Option Addr) (cap cap' : Nat) : ans Try.prog (orc18 eq ib ic) [(18, Try.f18, [])] 9 3 18 [.u (.a (pathC p ad cap)), .u (.a (pathC q ad' cap'))] =
    bif decide (q.kd = 3) then bif allN (fun j => isInts 1 (arrC 1 p.v j)) p.n then bif allN (fun j => isInts 1 (arrC 1 q.v j)) q.n then bif decide (p.n ≤ 200) then
      tru (eq p.n q.n (numOf (arrC 1 p.v)) (numOf (arrC 1 q.v))) else none else none else none
    else bif decide (p.kd = q.kd) then bif decide ((p.n : Int) = q.n) then bif allN (fun j => isInts 1 (arrC 1 p.v j)) p.n then bif allN (fun j => isInts 1 (arrC 1 q.v j)) q.n then bif decide (p.n ≤ 200) then
      bif eq p.n q.n (numOf (arrC 1 p.v)) (numOf (arrC 1 q.v)) then bif ib p.o q.o then tru (ic p.g q.g) else tru false else tru false else none else none else none else tru false else tru false := by kernel_rfl
/-- One path inside another. -/
def insW (p q : Pth) : Bool := bif decide (q.kd = 3) then startB p.n q.n p.v q.v else decide (p.kd = q.kd) && (eqB p.n q.n p.v q.v && (p.o.ins q.o && p.g.ins q.g))
def F17 (w : Pth → Pth → Bool) : List A → Tree
  | [.a [.i kd, .s k n v, .i a, .i b, .i c, .i d, .i e, .i f, .i g, .i h], .a [.i kd', .s k' n' v', .i a', .i b', .i c', .i d', .i e', .i f', .i g', .i h']] =>
    .test ((Nat.beq k 1 && Nat.beq k' 1) && (decide (n ≤ 200) && decide (n' ≤ 200))) (truT (w ⟨kd, n, v, ⟨⟨a, b⟩, ⟨c, d⟩, ⟨e, f⟩⟩, ⟨g, h⟩⟩ ⟨kd', n', v', ⟨⟨a', b'⟩, ⟨c', d'⟩, ⟨e', f'⟩⟩, ⟨g', h'⟩⟩)) .no
  | _ => .no
def Pth.D (p : Pth) : List D := [.i p.kd, .s 1 p.n p.v, .i p.o.x.lo, .i p.o.x.hi, .i p.o.y.lo, .i p.o.y.hi, .i p.o.z.lo, .i p.o.z.hi, .i p.g.lo, .i p.g.hi]
theorem F17_val {w : Pth → Pth → Bool} {l : List A} {x : V × Heap} (h : (F17 w l).val = some x) : ∃ p q : Pth, l = [.a p.D, .a q.D] ∧ p.n ≤ 200 ∧ q.n ≤ 200 ∧ x = (.u (.c (.bool (w p q))), []) := by
  unfold F17 at h
  split at h
  · rename_i kd k n v a b c d e f g hh kd' k' n' v' a' b' c' d' e' f' g' hh'
    simp only [Tree.val] at h
    cases hc : ((Nat.beq k 1 && Nat.beq k' 1) && (decide (n ≤ 200) && decide (n' ≤ 200)))
    · rw [hc] at h; cases h
    rw [hc, cond_true] at h
    simp only [Bool.and_eq_true, decide_eq_true_eq] at hc
    have hk := Nat.eq_of_beq_eq_true hc.1.1
    have hf := Nat.eq_of_beq_eq_true hc.1.2
    subst hk
    subst hf
    cases h
    exact ⟨⟨kd, n, v, ⟨⟨a, b⟩, ⟨c, d⟩, ⟨e, f⟩⟩, ⟨g, hh⟩⟩, ⟨kd', n', v', ⟨⟨a', b'⟩, ⟨c', d'⟩, ⟨e', f'⟩⟩, ⟨g', hh'⟩⟩, rfl, hc.2.1, hc.2.2, rfl⟩
  · cases h
theorem real_i {n : Int} {c : C} (h : RealC (.i n) c) : c = .int .i64 n := by cases h; rfl
theorem real_path {p : Pth} {y : V} (h : RealA (.a p.D) y) : ∃ ad cap, y = .u (.a (pathC p ad cap)) := by
  cases h with
  | a h =>
    unfold Pth.D at h
    cases h with
    | cons h1 h => cases h1; cases h with
      | cons h2 h => cases h2 with
        | s _ _ _ ad cap =>
          refine ⟨ad, cap, ?_⟩
          cases h with
          | cons h3 h => cases h3; cases h with
            | cons h3 h => cases h3; cases h with
              | cons h3 h => cases h3; cases h with
                | cons h3 h => cases h3; cases h with
                  | cons h3 h => cases h3; cases h with
                    | cons h3 h => cases h3; cases h with
                      | cons h3 h => cases h3; cases h with
                        | cons h3 h => cases h3; cases h; rfl
theorem start_eq (n m : Nat) (v v' : Nat → Nat → Int) (h : m ≤ n) : eqB m m v v' = startB n m v v' := by
  unfold eqB startB
  rw [decide_eq_true h, decide_eq_true (show m = m from rfl)]
theorem num1 (v : Nat → Nat → Int) (j : Nat) : numOf (arrC 1 v) j 0 = v j 0 := num_arr (by omega)
theorem eqF_arr (v v' : Nat → Nat → Int) : eqF (numOf (arrC 1 v)) (numOf (arrC 1 v')) = eqF v v' := by
  funext j
  unfold eqF
  rw [num1, num1]
theorem eqB_arr (n m : Nat) (v v' : Nat → Nat → Int) : eqB n m (numOf (arrC 1 v)) (numOf (arrC 1 v')) = eqB n m v v' := by unfold eqB; rw [eqF_arr]
theorem startB_arr (n m : Nat) (v v' : Nat → Nat → Int) : startB n m (numOf (arrC 1 v)) (numOf (arrC 1 v')) = startB n m v v' := by unfold startB; rw [eqF_arr]
theorem k17 : FnOk Try.prog 17 Try.f17 := fk Try.func17 (by kernel_rfl) rfl
theorem k18 : FnOk Try.prog 18 Try.f18 := fk Try.func18 (by kernel_rfl) rfl
theorem toldPath {f : FuncId} {fn : Func} {orc : List (FuncId × (List V → Tree))} {w : Pth → Pth → Bool} (hk : FnOk Try.prog f fn) (ho : OrcOk Try.prog orc)
    (ha : ∀ p q ad ad' cap cap', p.n ≤ 200 → q.n ≤ 200 → ans Try.prog orc [(f, fn, [])] 9 3 f [.u (.a (pathC p ad cap)), .u (.a (pathC q ad' cap'))] = tru (w p q)) : Told Try.prog f (fun args => argsT args (F17 w)) := by
  refine told_args (fuel := 9) (d := 3) (orc := orc) (fns := [(f, fn, [])]) mixed ho (fns_cons hk fns_nil) hk.enter (args_flat fun l x h => ?_) fun l x h args ha' => ?_
  · obtain ⟨p, q, _, _, _, rfl⟩ := F17_val h; exact ⟨_, rfl, rfl⟩
  · obtain ⟨p, q, rfl, h1, h2, rfl⟩ := F17_val h
    obtain ⟨y1, y2, rfl, r1, r2⟩ := real2 ha'
    obtain ⟨ad, cap, rfl⟩ := real_path r1
    obtain ⟨ad', cap', rfl⟩ := real_path r2
    exact ha p q ad ad' cap cap' h1 h2
theorem and3 (a b c : Bool) : (bif a then bif b then tru c else tru false else tru false) = tru (a && (b && c)) := by cases a <;> cases b <;> rfl
theorem E17 : Told Try.prog 17 (fun args => argsT args (F17 insW)) := toldPath k17 (orc := orc17 eqB Bx.ins Iv.ins) (orc_cons E35 (orc_cons E36 (orc_cons E37 orc_nil))) fun p q ad ad' cap cap' h1 h2 => by
  have i1 := allN_iff.2 fun j (_ : j < p.n) => isInts_arr 1 p.v j
  have i2 := allN_iff.2 fun j (_ : j < q.n) => isInts_arr 1 q.v j
  have i3 := allN_iff.2 fun j (_ : j < q.n) => isInts_arr 1 p.v j
  rw [a17, i1, i2, i3, eqB_arr, eqB_arr, decide_eq_true h1, decide_eq_true h2]
  unfold insW
  cases decide (q.kd = 3)
  · simp only [cond_false, cond_true]
    cases decide (p.kd = q.kd)
    · rfl
    · exact and3 _ _ _
  · simp only [cond_true]
    by_cases e : q.n ≤ p.n
    · rw [decide_eq_true (show (q.n : Int) ≤ p.n by omega), start_eq _ _ _ _ e]; rfl
    · rw [decide_eq_false (show ¬ (q.n : Int) ≤ p.n by omega)]
      unfold startB
      rw [decide_eq_false e]; rfl
theorem E18 : Told Try.prog 18 (fun args => argsT args (F17 insW)) := toldPath k18 (orc := orc18 startB Bx.ins Iv.ins) (orc_cons E38 (orc_cons E39 (orc_cons E40 orc_nil))) fun p q ad ad' cap cap' h1 h2 => by
  have i1 := allN_iff.2 fun j (_ : j < p.n) => isInts_arr 1 p.v j
  have i2 := allN_iff.2 fun j (_ : j < q.n) => isInts_arr 1 q.v j
  rw [a18, i1, i2, startB_arr, decide_eq_true h1]
  unfold insW
  cases decide (q.kd = 3)
  · simp only [cond_false, cond_true]
    cases decide (p.kd = q.kd)
    · rfl
    · simp only [cond_true, Bool.true_and]
      by_cases e : p.n = q.n
      · rw [decide_eq_true (show (p.n : Int) = q.n by omega), cond_true, ← e, ← start_eq _ _ _ _ (Nat.le_refl p.n)]
        exact and3 _ _ _
      · rw [decide_eq_false (show ¬ (p.n : Int) = q.n by omega)]
        unfold eqB
        rw [decide_eq_false e]; rfl
  · rfl
end Go.Proofs.Ytbgdfikfldkjbaa.AI
