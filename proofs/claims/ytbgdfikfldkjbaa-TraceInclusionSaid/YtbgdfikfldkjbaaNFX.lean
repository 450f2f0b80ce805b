/- Two texts, laid into one by mkclaim.py. -/
import Derived.Test.YtbgdfikfldkjbaaPT
import Derived.Test.YtbgdfikfldkjbaaPW0
section
/- Nil slices that are handed to told functions: as slices without rows. -/
namespace Go.Proofs.Ytbgdfikfldkjbaa.AI
set_option linter.unnecessarySimpa false
open Go
set_option linter.unusedVariables false
set_option linter.unusedSimpArgs false
def nilC (w : Nat) : C → C
  | .nils => .as none w 0 0 fun _ => []
  | x => x
theorem nilC_bare (w : Nat) (c : C) : nilC w (bareC c) = bareC (nilC w c) := by cases c <;> rfl
theorem nilC_den (w : Nat) (ρ : Ren) (c : C) : (nilC w c).den ρ = c.den ρ := by cases c <;> rfl
theorem nilC_ids (w : Nat) (c : C) : idsC (nilC w c) = idsC c := by cases c <;> rfl
theorem nilC_sc {w : Nat} {W : World} {S : Nat → Prop} {c : C} (h : c.sc W S) : (nilC w c).sc W S := by
  cases c with
  | nils => exact AOk.as none w 0 0 _ (fun i hi => by omega) (fun _ => rfl) (by omega) (fun i j x hi => by omega) (fun i j x a hi => by omega)
  | _ => exact h
/-- ws: at some w, a nil slice becomes one of rows of w. -/
def nilL : List (Option Nat) → List C → List C
  | some w :: ws, c :: cs => nilC w c :: nilL ws cs
  | none :: ws, c :: cs => c :: nilL ws cs
  | _, cs => cs
theorem nilL_bare : ∀ (ws : List (Option Nat)) (cs : List C), nilL ws (cs.map bareC) = (nilL ws cs).map bareC
  | [], _ => by simp only [nilL]
  | some w :: ws, [] => rfl
  | none :: ws, [] => rfl
  | some w :: ws, c :: cs => by simp only [nilL, List.map_cons, nilC_bare, nilL_bare ws cs]
  | none :: ws, c :: cs => by simp only [nilL, List.map_cons, nilL_bare ws cs]
theorem nilL_den (ρ : Ren) : ∀ (ws : List (Option Nat)) (cs : List C), (nilL ws cs).map (C.den ρ) = cs.map (C.den ρ)
  | [], _ => by simp only [nilL]
  | some w :: ws, [] => rfl
  | none :: ws, [] => rfl
  | some w :: ws, c :: cs => by simp only [nilL, List.map_cons, nilC_den, nilL_den ρ ws cs]
  | none :: ws, c :: cs => by simp only [nilL, List.map_cons, nilL_den ρ ws cs]
theorem nilL_ids : ∀ (ws : List (Option Nat)) (cs : List C), (nilL ws cs).flatMap idsC = cs.flatMap idsC
  | [], _ => by simp only [nilL]
  | some w :: ws, [] => rfl
  | none :: ws, [] => rfl
  | some w :: ws, c :: cs => by simp only [nilL, List.flatMap_cons, nilC_ids, nilL_ids ws cs]
  | none :: ws, c :: cs => by simp only [nilL, List.flatMap_cons, nilL_ids ws cs]
theorem nilL_sc {W : World} {S : Nat → Prop} : ∀ (ws : List (Option Nat)) (cs : List C), (∀ x ∈ cs, x.sc W S) → ∀ x ∈ nilL ws cs, x.sc W S
  | [], _, h => by simp only [nilL]; exact h
  | some w :: ws, [], h => h
  | none :: ws, [], h => h
  | some w :: ws, c :: cs, h => fun x hx => by
    rcases List.mem_cons.1 hx with rfl | hx
    · exact nilC_sc (h c (List.mem_cons_self ..))
    · exact nilL_sc ws cs (fun y hy => h y (List.mem_cons_of_mem _ hy)) x hx
  | none :: ws, c :: cs, h => fun x hx => by
    rcases List.mem_cons.1 hx with rfl | hx
    · exact h _ (List.mem_cons_self ..)
    · exact nilL_sc ws cs (fun y hy => h y (List.mem_cons_of_mem _ hy)) x hx
def nilV (ws : List (Option Nat)) : V → V
  | .u (.a cs) => .u (.a (nilL ws cs))
  | v => v
theorem nilV_bare (ws : List (Option Nat)) (v : V) : nilV ws (bareV v) = bareV (nilV ws v) := by
  rcases v with (x | cs) | xs | _
  · rfl
  · exact congrArg (fun l => V.u (.a l)) (nilL_bare ws cs)
  · rfl
  · rfl
theorem nilV_den (ws : List (Option Nat)) (ρ : Ren) (v : V) : (nilV ws v).den ρ = v.den ρ := by
  rcases v with (x | cs) | xs | _
  · rfl
  · exact congrArg (fun l : List Value => Value.agg l.toArray) (nilL_den ρ ws cs)
  · rfl
  · rfl
theorem nilV_ids (ws : List (Option Nat)) (v : V) : idsV (nilV ws v) = idsV v := by
  rcases v with (x | cs) | xs | _
  · rfl
  · exact nilL_ids ws cs
  · rfl
  · rfl
theorem nilV_some (ws : List (Option Nat)) {v : V} (h : v ≠ .any) : nilV ws v ≠ .any := by
  rcases v with (x | cs) | xs | _
  · exact h
  · exact fun e => by cases e
  · exact h
  · exact h
theorem nilV_sc (ws : List (Option Nat)) {W : World} {S : Nat → Prop} (v : V) (h : v.sc W S) : (nilV ws v).sc W S := by
  rcases v with (x | cs) | xs | _
  · exact h
  · exact nilL_sc ws cs h
  · exact h
  · exact h
/-- All arguments that are structures alike. -/
theorem told_nil (ws : List (Option Nat)) {P : Program} {f : FuncId} {g : List V → Tree} (h : Told P f g) : Told P f (fun args => g (args.map (nilV ws))) := by
  refine ⟨fun args v H e => h.isv _ v H e, fun args v H e => h.sc _ v H e, h.enter, fun args v H ha hg => ?_⟩
  obtain ⟨l, hr⟩ := h.run (args.map (nilV ws)) v H (fun x hx => by
    obtain ⟨y, hy, rfl⟩ := List.mem_map.1 hx
    rw [nilV_ids]
    exact ⟨(ha y hy).1, nilV_some ws (ha y hy).2⟩) (by
      rw [← hg, List.map_map, List.map_map]
      congr 2
      exact List.map_congr_left fun y _ => (nilV_bare ws y).symm)
  refine ⟨l, runs_like hr (fun ρ => by rw [List.map_map]; exact List.map_congr_left fun y _ => nilV_den ws ρ y) fun W S hs x hx => ?_⟩
  obtain ⟨y, hy, rfl⟩ := List.mem_map.1 hx
  exact nilV_sc ws y (hs y hy)
end Go.Proofs.Ytbgdfikfldkjbaa.AI
end
section
/- trace.Inside and the reference's Inside, told. -/
namespace Go.Proofs.Ytbgdfikfldkjbaa.AI
set_option linter.unnecessarySimpa false
open Go
set_option linter.unusedVariables false
set_option linter.unusedSimpArgs false
/-- A path: kind, faces, the direction, the light. -/
structure Pth where
  kd : Int
  n : Nat
  v : Nat → Nat → Int
  o : Bx
  g : Iv
def pathC (p : Pth) (ad : Option Addr) (cap : Nat) : List C := [.int .i64 p.kd, .as ad 1 p.n cap (arrC 1 p.v), .int .i64 p.o.x.lo, .int .i64 p.o.x.hi, .int .i64 p.o.y.lo, .int .i64 p.o.y.hi, .int .i64 p.o.z.lo, .int .i64 p.o.z.hi, .int .i64 p.g.lo, .int .i64 p.g.hi]
abbrev EqF := Nat → Nat → (Nat → Nat → Int) → (Nat → Nat → Int) → Bool
def F2g (ic : Iv → Iv → Bool) : List Int → Tree
  | [a, b, c, d] => truT (ic ⟨a, b⟩ ⟨c, d⟩)
  | _ => .no
noncomputable def orc17 (eq : EqF) (ib : Bx → Bx → Bool) (ic : Iv → Iv → Bool) : List (FuncId × (List V → Tree)) := [(35, fun args => argsT args (F35 eq)), (36, s66 fun a b => truT (ib a b)), (37, shT [some 2, some 2] (F2g ic))]
noncomputable def orc18 (eq : EqF) (ib : Bx → Bx → Bool) (ic : Iv → Iv → Bool) : List (FuncId × (List V → Tree)) := [(38, fun args => argsT args (F35 eq)), (39, s66 fun a b => truT (ib a b)), (40, shT [some 2, some 2] (F2g ic))]
theorem a17 (eq : EqF) (ib : Bx → Bx → Bool) (ic : Iv → Iv → Bool) (p q : Pth) (ad ad' : Option Addr) (cap cap' : Nat) : ans Try.prog (orc17 eq ib ic) [(17, Try.f17, [])] 9 3 17 [.u (.a (pathC p ad cap)), .u (.a (pathC q ad' cap'))] =
    bif decide (q.kd = 3) then bif decide ((q.n : Int) ≤ p.n) then bif decide ((q.n : Int) ≤ p.n) then bif allN (fun j => isInts 1 (arrC 1 p.v j)) q.n then bif allN (fun j => isInts 1 (arrC 1 q.v j)) q.n then bif decide (q.n ≤ 200) then
      tru (eq q.n q.n (numOf (arrC 1 p.v)) (numOf (arrC 1 q.v))) else none else none else none else none else tru false
    else bif decide (p.kd = q.kd) then bif allN (fun j => isInts 1 (arrC 1 p.v j)) p.n then bif allN (fun j => isInts 1 (arrC 1 q.v j)) q.n then bif decide (p.n ≤ 200) then
      bif eq p.n q.n (numOf (arrC 1 p.v)) (numOf (arrC 1 q.v)) then bif ib p.o q.o then tru (ic p.g q.g) else tru false else tru false else none else none else none else tru false := by kernel_rfl
theorem a18 (eq : EqF) (ib : Bx → Bx → Bool) (ic : Iv → Iv → Bool) (p q : Pth) (ad ad' : Option Addr) (cap cap' : Nat) : ans Try.prog (orc18 eq ib ic) [(18, Try.f18, [])] 9 3 18 [.u (.a (pathC p ad cap)), .u (.a (pathC q ad' cap'))] =
    bif decide (q.kd = 3) then bif allN (fun j => isInts 1 (arrC 1 p.v j)) p.n then bif allN (fun j => isInts 1 (arrC 1 q.v j)) q.n then bif decide (p.n ≤ 200) then
      tru (eq p.n q.n (numOf (arrC 1 p.v)) (numOf (arrC 1 q.v))) else none else none else none
    else bif decide (p.kd = q.kd) then bif decide ((p.n : Int) = q.n) then bif allN (fun j => isInts 1 (arrC 1 p.v j)) p.n then bif allN (fun j => isInts 1 (arrC 1 q.v j)) q.n then bif decide (p.n ≤ 200) then
      bif eq p.n q.n (numOf (arrC 1 p.v)) (numOf (arrC 1 q.v)) then bif ib p.o q.o then tru (ic p.g q.g) else tru false else tru false else none else none else none else tru false else tru false := by kernel_rfl
/-- One path inside another. -/
def insW (p q : Pth) : Bool := bif decide (q.kd = 3) then startB p.n q.n p.v q.v else decide (p.kd = q.kd) && (eqB p.n q.n p.v q.v && (p.o.ins q.o && p.g.ins q.g))
def F17 (w : Pth → Pth → Bool) : List A → Tree
  | [.a [.i kd, .s k n v, .i a, .i b, .i c, .i d, .i e, .i f, .i g, .i h], .a [.i kd', .s k' n' v', .i a', .i b', .i c', .i d', .i e', .i f', .i g', .i h']] =>
    .test ((Nat.beq k 1 && Nat.beq k' 1) && (decide (n ≤ 200) && decide (n' ≤ 200))) (truT (w ⟨kd, n, v, ⟨⟨a, b⟩, ⟨c, d⟩, ⟨e, f⟩⟩, ⟨g, h⟩⟩ ⟨kd', n', v', ⟨⟨a', b'⟩, ⟨c', d'⟩, ⟨e', f'⟩⟩, ⟨g', h'⟩⟩)) .no
  | _ => .no
def Pth.D (p : Pth) : List D := [.i p.kd, .s 1 p.n p.v, .i p.o.x.lo, .i p.o.x.hi, .i p.o.y.lo, .i p.o.y.hi, .i p.o.z.lo, .i p.o.z.hi, .i p.g.lo, .i p.g.hi]
theorem F17_val {w : Pth → Pth → Bool} {l : List A} {x : V × Heap} (h : (F17 w l).val = some x) : ∃ p q : Pth, l = [.a p.D, .a q.D] ∧ p.n ≤ 200 ∧ q.n ≤ 200 ∧ x = (.u (.c (.bool (w p q))), []) := by
  unfold F17 at h
  split at h
  · rename_i kd k n v a b c d e f g hh kd' k' n' v' a' b' c' d' e' f' g' hh'
    simp only [Tree.val] at h
    cases hc : ((Nat.beq k 1 && Nat.beq k' 1) && (decide (n ≤ 200) && decide (n' ≤ 200)))
    · rw [hc] at h; cases h
    rw [hc, cond_true] at h
    simp only [Bool.and_eq_true, decide_eq_true_eq] at hc
    have hk := Nat.eq_of_beq_eq_true hc.1.1
    have hf := Nat.eq_of_beq_eq_true hc.1.2
    subst hk
    subst hf
    cases h
    exact ⟨⟨kd, n, v, ⟨⟨a, b⟩, ⟨c, d⟩, ⟨e, f⟩⟩, ⟨g, hh⟩⟩, ⟨kd', n', v', ⟨⟨a', b'⟩, ⟨c', d'⟩, ⟨e', f'⟩⟩, ⟨g', hh'⟩⟩, rfl, hc.2.1, hc.2.2, rfl⟩
  · cases h
theorem real_i {n : Int} {c : C} (h : RealC (.i n) c) : c = .int .i64 n := by cases h; rfl
theorem real_path {p : Pth} {y : V} (h : RealA (.a p.D) y) : ∃ ad cap, y = .u (.a (pathC p ad cap)) := by
  cases h with
  | a h =>
    unfold Pth.D at h
    cases h with
    | cons h1 h => cases h1; cases h with
      | cons h2 h => cases h2 with
        | s _ _ _ ad cap =>
          refine ⟨ad, cap, ?_⟩
          cases h with
          | cons h3 h => cases h3; cases h with
            | cons h3 h => cases h3; cases h with
              | cons h3 h => cases h3; cases h with
                | cons h3 h => cases h3; cases h with
                  | cons h3 h => cases h3; cases h with
                    | cons h3 h => cases h3; cases h with
                      | cons h3 h => cases h3; cases h with
                        | cons h3 h => cases h3; cases h; rfl
theorem start_eq (n m : Nat) (v v' : Nat → Nat → Int) (h : m ≤ n) : eqB m m v v' = startB n m v v' := by
  unfold eqB startB
  rw [decide_eq_true h, decide_eq_true (show m = m from rfl)]
theorem num1 (v : Nat → Nat → Int) (j : Nat) : numOf (arrC 1 v) j 0 = v j 0 := num_arr (by omega)
theorem eqF_arr (v v' : Nat → Nat → Int) : eqF (numOf (arrC 1 v)) (numOf (arrC 1 v')) = eqF v v' := by
  funext j
  unfold eqF
  rw [num1, num1]
theorem eqB_arr (n m : Nat) (v v' : Nat → Nat → Int) : eqB n m (numOf (arrC 1 v)) (numOf (arrC 1 v')) = eqB n m v v' := by unfold eqB; rw [eqF_arr]
theorem startB_arr (n m : Nat) (v v' : Nat → Nat → Int) : startB n m (numOf (arrC 1 v)) (numOf (arrC 1 v')) = startB n m v v' := by unfold startB; rw [eqF_arr]
theorem k17 : FnOk Try.prog 17 Try.f17 := fk Try.func17 (by kernel_rfl) rfl
theorem k18 : FnOk Try.prog 18 Try.f18 := fk Try.func18 (by kernel_rfl) rfl
theorem toldPath {f : FuncId} {fn : Func} {orc : List (FuncId × (List V → Tree))} {w : Pth → Pth → Bool} (hk : FnOk Try.prog f fn) (ho : OrcOk Try.prog orc)
    (ha : ∀ p q ad ad' cap cap', p.n ≤ 200 → q.n ≤ 200 → ans Try.prog orc [(f, fn, [])] 9 3 f [.u (.a (pathC p ad cap)), .u (.a (pathC q ad' cap'))] = tru (w p q)) : Told Try.prog f (fun args => argsT args (F17 w)) := by
  refine told_args (fuel := 9) (d := 3) (orc := orc) (fns := [(f, fn, [])]) mixed ho (fns_cons hk fns_nil) hk.enter (args_flat fun l x h => ?_) fun l x h args ha' => ?_
  · obtain ⟨p, q, _, _, _, rfl⟩ := F17_val h; exact ⟨_, rfl, rfl⟩
  · obtain ⟨p, q, rfl, h1, h2, rfl⟩ := F17_val h
    obtain ⟨y1, y2, rfl, r1, r2⟩ := real2 ha'
    obtain ⟨ad, cap, rfl⟩ := real_path r1
    obtain ⟨ad', cap', rfl⟩ := real_path r2
    exact ha p q ad ad' cap cap' h1 h2
theorem and3 (a b c : Bool) : (bif a then bif b then tru c else tru false else tru false) = tru (a && (b && c)) := by cases a <;> cases b <;> rfl
theorem E17 : Told Try.prog 17 (fun args => argsT args (F17 insW)) := toldPath k17 (orc := orc17 eqB Bx.ins Iv.ins) (orc_cons E35 (orc_cons E36 (orc_cons E37 orc_nil))) fun p q ad ad' cap cap' h1 h2 => by
  have i1 := allN_iff.2 fun j (_ : j < p.n) => isInts_arr 1 p.v j
  have i2 := allN_iff.2 fun j (_ : j < q.n) => isInts_arr 1 q.v j
  have i3 := allN_iff.2 fun j (_ : j < q.n) => isInts_arr 1 p.v j
  rw [a17, i1, i2, i3, eqB_arr, eqB_arr, decide_eq_true h1, decide_eq_true h2]
  unfold insW
  cases decide (q.kd = 3)
  · simp only [cond_false, cond_true]
    cases decide (p.kd = q.kd)
    · rfl
    · exact and3 _ _ _
  · simp only [cond_true]
    by_cases e : q.n ≤ p.n
    · rw [decide_eq_true (show (q.n : Int) ≤ p.n by omega), start_eq _ _ _ _ e]; rfl
    · rw [decide_eq_false (show ¬ (q.n : Int) ≤ p.n by omega)]
      unfold startB
      rw [decide_eq_false e]; rfl
theorem E18 : Told Try.prog 18 (fun args => argsT args (F17 insW)) := toldPath k18 (orc := orc18 startB Bx.ins Iv.ins) (orc_cons E38 (orc_cons E39 (orc_cons E40 orc_nil))) fun p q ad ad' cap cap' h1 h2 => by
  have i1 := allN_iff.2 fun j (_ : j < p.n) => isInts_arr 1 p.v j
  have i2 := allN_iff.2 fun j (_ : j < q.n) => isInts_arr 1 q.v j
  rw [a18, i1, i2, startB_arr, decide_eq_true h1]
  unfold insW
  cases decide (q.kd = 3)
  · simp only [cond_false, cond_true]
    cases decide (p.kd = q.kd)
    · rfl
    · simp only [cond_true, Bool.true_and]
      by_cases e : p.n = q.n
      · rw [decide_eq_true (show (p.n : Int) = q.n by omega), cond_true, ← e, ← start_eq _ _ _ _ (Nat.le_refl p.n)]
        exact and3 _ _ _
      · rw [decide_eq_false (show ¬ (p.n : Int) = q.n by omega)]
        unfold eqB
        rw [decide_eq_false e]; rfl
  · rfl
end Go.Proofs.Ytbgdfikfldkjbaa.AI
end
