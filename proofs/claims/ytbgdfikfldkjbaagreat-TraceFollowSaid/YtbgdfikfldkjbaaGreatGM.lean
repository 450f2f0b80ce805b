/- Two texts, laid into one by mkclaim.py. -/
import Derived.Test.YtbgdfikfldkjbaaGreatGJ
import Derived.Test.YtbgdfikfldkjbaaGreatPF3
section
/- Two texts, laid into one by mkclaim.py. -/
section
/- The reference's Follow, read. -/
namespace Go.Proofs.YtbgdfikfldkjbaaGreat.AI
set_option linter.unnecessarySimpa false
open Go
set_option linter.unusedVariables false
set_option linter.unusedSimpArgs false
noncomputable def orc9 (o : Fo) (lv : LvF) : List (FuncId × (List V → Tree)) := [(14, fun args => argsT args (F11g o.hit)), (16, fun args => argsT args (F26g o.val)), (27, shT [some 12] (P12 fun r => truT (o.ray r))), (28, shT [some 2] (F1vg o.iv)), (29, s122 fun r k => resB (o.mv r k)), (30, s662 fun d n r => resN (o.kind d n r)), (31, fun args => argsT args (F31 lv)), (32, s66 fun d n => resB (o.refl d n))]
def lv9 : List (Nat × LV) := [(7, ⟨[3, 4, 5, 6, 8, 9, 10, 11], [8, 9, 10], [(10, 3, 1, [ci 0])], none⟩)]
noncomputable def fns9 : List (FuncId × Func × List (Nat × LV)) := [(9, Tryz.f9, lv9)]
noncomputable def all9 : Code := Tryz.f9.body.getD .skip
noncomputable def body9 : Code := loopOf Tryz.f9 0
def T9 (most i : Int) (c : Nat) : List V := TT 129 [(3, .u (ui most)), (4, .u (.c (.ptr 0 0))), (5, .u (.c (.ptr 1 0))), (6, .u (.c (.ptr 2 0))), (8, .u (.c (.ptr 3 0))), (9, .u (ui 0)), (10, .u (.c (.row 4 1 0 c true))), (11, .u (ui i))]
def U9 (most i : Int) (c : Nat) : List V := TT 129 [(3, .u (ui most)), (4, .u (.c (.ptr 0 0))), (5, .u (.c (.ptr 1 0))), (6, .u (.c (.ptr 2 0))), (8, .u (.c (.ptr 3 0))), (9, .u (ui 0)), (10, .u (.c (.row 5 1 0 c true))), (11, .u (ui i))]
noncomputable abbrev env9 {α : Type} (o : Fo) (lv : LvF) (F : Nat) : CallT α := env Tryz.prog (orc9 o lv) fns9 F 2
noncomputable abbrev loop9 {α : Type} (o : Fo) (lv : LvF) (F fuel : Nat) (T : List V) (H : Heap) (L : List Foot) (K : KT α) : Option α := loopA 5 [3, 4, 5, 6, 8, 9, 10, 11] [8, 9, 10] (codeA Tryz.prog (env9 o lv F) F lv9 body9) fuel T H L K
noncomputable def tail9 : Code := sndC (sndC (sndC (sndC (sndC all9))))
noncomputable def K9 (o : Fo) (lv : LvF) (F : Nat) : KT (V × Heap) := kblk (kseq (env9 o lv F) F lv9 tail9 (kfinA Tryz.f9))
theorem entry9 (o : Fo) (lv : LvF) (ad ad' : Option Addr) (n m cap cap' : Nat) (v u : Nat → Nat → Int) (x g : Iv) (r : Ray) (most : Int) (F : Nat) : ans Tryz.prog (orc9 o lv) fns9 F 3 9 [.u (.a (bodyA ad ad' n m cap cap' v u x)), rayV r, ivV g, .u (ui most)] =
    pre22 n m v u (bif !o.val n m (numOf (arrC 6 v)) (numOf (arrC 2 u)) x then errR 0 else bif !o.ray r then errR 0 else bif !o.iv g then errR 0 else bif decide (g.lo < 0) then errR 0 else bif decide (16777216 < g.hi) then errR 0 else
      bif decide (most < 0) then errR 1 else bif decide (20 < most) then errR 1 else loop9 o lv F F (T9 most 0 0) (H22 (bodyA ad ad' n m cap cap' v u x) r g 0 (fun _ _ => 0)) [] (K9 o lv F)) := by kernel_rfl
def left9 (n m : Nat) (v u : Nat → Nat → Int) (c : Nat) (f : Nat → Nat → Int) (i : Int) (l : Lv) : R :=
  pre22 n m v u (bif decide (0 ≤ i) && decide (i < n) then bif l.ok then pathR l.kd (c + 1) (putN f c i) l.o l.g else pathR 3 (c + 1) (putN f c i) bx0 iv0 else none)
def round9 (n m : Nat) (v u : Nat → Nat → Int) (c : Nat) (f : Nat → Nat → Int) (h : Er (Int × Iv)) (p : Er Bx) (k : Er Int) (d : Er Bx) (l : Lv) (X : R) : R :=
  pre22 n m v u (bif okE h then bif decide (c ≤ c) then bif decide ((c + 1) * 8 ≤ 140737488355328) && decide (c + 1 ≤ 140737488355328) then
    bif okE p then bif decide (0 ≤ (getE (0, iv0) h).1) && decide ((getE (0, iv0) h).1 < n) then bif okE k then
      bif decide (getE 0 k = 3) then pathR 3 (c + 1) (putN f c (getE (0, iv0) h).1) bx0 iv0 else bif decide (getE 0 k = 2) then left9 n m v u c f (getE (0, iv0) h).1 l else refl22 n c f (getE (0, iv0) h).1 d X
    else pathR 3 (c + 1) (putN f c (getE (0, iv0) h).1) bx0 iv0 else none else pathR 3 (c + 1) (putN f c (getE (0, iv0) h).1) bx0 iv0 else none else none else pathR 3 c f bx0 iv0)
theorem step9a (o : Fo) (lv : LvF) (ad ad' : Option Addr) (n m cap cap' : Nat) (v u : Nat → Nat → Int) (x g : Iv) (r : Ray) (i most : Int) (c : Nat) (f : Nat → Nat → Int) (F fuel : Nat) (L : List Foot) :
    loop9 o lv F (fuel + 1) (T9 most i c) (H22 (bodyA ad ad' n m cap cap' v u x) r g c f) L (K9 o lv F) =
    bif decide (i ≤ most) then round9 n m v u c f (hitT o n m v u x r) (mvT o r (hitT o n m v u x r)) (o.kind r.dir (bxOf v (getE (0, iv0) (hitT o n m v u x r)).1.toNat) x) (o.refl r.dir (bxOf v (getE (0, iv0) (hitT o n m v u x r)).1.toNat))
      (lv (numOf (arrC 6 v)) x ⟨bx0, r.dir⟩ (getE (0, iv0) (hitT o n m v u x r)).1.toNat g)
      (loop9 o lv F fuel (U9 most (W (i + 1)) (c + 1)) (J22 (bodyA ad ad' n m cap cap' v u x) ⟨getE bx0 (mvT o r (hitT o n m v u x r)), getE bx0 (o.refl r.dir (bxOf v (getE (0, iv0) (hitT o n m v u x r)).1.toNat))⟩ g (c + 1) (putN f c (getE (0, iv0) (hitT o n m v u x r)).1)) ([.c 1 0 12, .c 9 0 6, .c 8 0 6, .r 4, .c 5 0 2] ++ L) (K9 o lv F))
    else pathR 3 c f bx0 iv0 := by kernel_rfl
theorem step9b (o : Fo) (lv : LvF) (ad ad' : Option Addr) (n m cap cap' : Nat) (v u : Nat → Nat → Int) (x g : Iv) (r : Ray) (i most : Int) (c : Nat) (f : Nat → Nat → Int) (F fuel : Nat) (L : List Foot) :
    loop9 o lv F (fuel + 1) (U9 most i c) (J22 (bodyA ad ad' n m cap cap' v u x) r g c f) L (K9 o lv F) =
    bif decide (i ≤ most) then round9 n m v u c f (hitT o n m v u x r) (mvT o r (hitT o n m v u x r)) (o.kind r.dir (bxOf v (getE (0, iv0) (hitT o n m v u x r)).1.toNat) x) (o.refl r.dir (bxOf v (getE (0, iv0) (hitT o n m v u x r)).1.toNat))
      (lv (numOf (arrC 6 v)) x ⟨bx0, r.dir⟩ (getE (0, iv0) (hitT o n m v u x r)).1.toNat g)
      (loop9 o lv F fuel (U9 most (W (i + 1)) (c + 1)) (J22 (bodyA ad ad' n m cap cap' v u x) ⟨getE bx0 (mvT o r (hitT o n m v u x r)), getE bx0 (o.refl r.dir (bxOf v (getE (0, iv0) (hitT o n m v u x r)).1.toNat))⟩ g (c + 1) (putN f c (getE (0, iv0) (hitT o n m v u x r)).1)) ([.c 1 0 12, .c 10 0 6, .c 9 0 6, .r 5, .c 6 0 2] ++ L) (K9 o lv F))
    else pathR 3 c f bx0 iv0 := by kernel_rfl
end Go.Proofs.YtbgdfikfldkjbaaGreat.AI
end
section
/- The reference's Same, told. -/
namespace Go.Proofs.YtbgdfikfldkjbaaGreat.AI
set_option linter.unnecessarySimpa false
open Go
set_option linter.unusedVariables false
set_option linter.unusedSimpArgs false
def eqI (x y : Iv) : Bool := decide (x.lo = y.lo) && (decide (x.hi = y.hi) && true)
def eqX (a b : Bx) : Bool := eqI a.x b.x && (eqI a.y b.y && (eqI a.z b.z && true))
/-- Two paths alike. -/
def sameW (p q : Pth) : Bool := decide (p.kd = q.kd) && (decide (p.n = q.n) && (startB p.n q.n p.v q.v && (eqX p.o q.o && eqI p.g q.g)))
theorem k24 : FnOk Tryz.prog 11 Tryz.f11 := fk Tryz.func11 (by kernel_rfl) rfl
end Go.Proofs.YtbgdfikfldkjbaaGreat.AI
end
end
section
/- The reference's Follow and Same, told. -/
namespace Go.Proofs.YtbgdfikfldkjbaaGreat.AI
set_option linter.unnecessarySimpa false
open Go
set_option linter.unusedVariables false
set_option linter.unusedSimpArgs false
theorem left_leave (v : Nat → Nat → Int) (x : Iv) (p d : Bx) (i : Nat) (g : Iv) : (leftF foG v x ⟨bx0, d⟩ i g).ok = (leaveF foE v x ⟨p, d⟩ i g).ok ∧ ((leaveF foE v x ⟨p, d⟩ i g).ok = true → leftF foG v x ⟨bx0, d⟩ i g = leaveF foE v x ⟨p, d⟩ i g) := by
  have e1 : refL foG v x ⟨bx0, d⟩ i = refL foE v x ⟨p, d⟩ i := rfl
  unfold leftF leaveF
  rw [e1]
  cases h1 : okE (refL foE v x ⟨p, d⟩ i)
  · exact ⟨rfl, fun h => by cases h⟩
  have e2 : litL foG v x ⟨bx0, d⟩ i = litL foE v x ⟨p, d⟩ i := pass_refr h1
  have e3 : gainL foG v x ⟨bx0, d⟩ i g = gainL foE v x ⟨p, d⟩ i g := by
    unfold gainL
    rw [e2]
    rfl
  rw [e2, e3]
  simp only [cond_true]
  cases okE (litL foE v x ⟨p, d⟩ i)
  · exact ⟨rfl, fun h => by cases h⟩
  cases okE (gainL foE v x ⟨p, d⟩ i g)
  · exact ⟨rfl, fun h => by cases h⟩
  simp only [cond_true]
  have hs : foG.sgn = foE.sgn := rfl
  rw [hs]
  cases decide (foE.sgn (getE rf0 (refL foE v x ⟨p, d⟩ i)).out.z = 1)
  · cases decide (foE.sgn (getE rf0 (refL foE v x ⟨p, d⟩ i)).out.z = -1)
    · exact ⟨rfl, fun h => by cases h⟩
    · exact ⟨rfl, fun _ => rfl⟩
  · exact ⟨rfl, fun _ => rfl⟩
theorem round9_eq {n m : Nat} {v u : Nat → Nat → Int} {c : Nat} {f : Nat → Nat → Int} {last : Bool} {h : Er (Int × Iv)} {p : Er Bx} {k : Er Int} {d : Er Bx} {l l' : Lv} {X : R} {Y : Pth} (hc : c ≤ 1000) (hf : okE h = true → 0 ≤ (getE (0, iv0) h).1 ∧ (getE (0, iv0) h).1 < n)
    (hk : okE k = true → getE 0 k = 1 ∨ getE 0 k = 2 ∨ getE 0 k = 3) (hl : l.ok = l'.ok) (hl' : l'.ok = true → l = l') (hX1 : last = true → X = pathP (unkP (c + 1) (putN f c (getE (0, iv0) h).1))) (hX2 : last = false → X = pathP Y) : round9 n m v u c f h p k d l X = pathP (roundP c f last h p k d l' Y) := by
  unfold round9 roundP
  rw [pre22_in, decide_eq_true (Nat.le_refl c), decide_eq_true (show (c + 1) * 8 ≤ 140737488355328 by omega), decide_eq_true (show c + 1 ≤ 140737488355328 by omega)]
  simp only [Bool.and_self, cond_true]
  cases h1 : okE h
  · rfl
  obtain ⟨f1, f2⟩ := hf h1
  rw [decide_eq_true f1, decide_eq_true f2]
  simp only [Bool.and_self, cond_true]
  cases h2 : okE p
  · rfl
  cases h3 : okE k
  · rfl
  simp only [cond_true]
  have hk := hk h3
  generalize getE 0 k = z at *
  unfold left9 refl22
  rw [pre22_in, decide_eq_true f1, decide_eq_true f2]
  simp only [Bool.and_self, cond_true]
  rcases hk with rfl | rfl | rfl
  · cases last
    · rw [hX2 rfl]
      cases hd : okE d <;> rfl
    · rw [hX1 rfl]
      cases hd : okE d <;> rfl
  · cases hok : l'.ok
    · rw [hok] at hl
      rw [hl]
      rfl
    · rw [hl' hok, hok]
      rfl
  · rfl
theorem lv_left {v : Nat → Nat → Int} {x : Iv} {r : Ray} {i : Nat} {g : Iv} (p : Bx) : (leftF foG (numOf (arrC 6 v)) x ⟨bx0, r.dir⟩ i g).ok = (leaveF foE v x ⟨p, r.dir⟩ i g).ok ∧ ((leaveF foE v x ⟨p, r.dir⟩ i g).ok = true → leftF foG (numOf (arrC 6 v)) x ⟨bx0, r.dir⟩ i g = leaveF foE v x ⟨p, r.dir⟩ i g) := by
  have h := left_leave (numOf (arrC 6 v)) x p r.dir i g
  rw [leave_arr] at h
  exact h
theorem rd9 (n m : Nat) (v u : Nat → Nat → Int) (x g : Iv) (last : Bool) (r : Ray) (c : Nat) (hc : c ≤ 1000) (f : Nat → Nat → Int) (X : R) (Y : Pth) (hX1 : last = true → X = pathP (unkP (c + 1) (putN f c (getE (0, iv0) (hitE n m v u x r)).1))) (hX2 : last = false → X = pathP Y) :
    round9 n m v u c f (hitT foG n m v u x r) (mvT foG r (hitT foG n m v u x r)) (foG.kind r.dir (bxOf v (getE (0, iv0) (hitT foG n m v u x r)).1.toNat) x) (foG.refl r.dir (bxOf v (getE (0, iv0) (hitT foG n m v u x r)).1.toNat))
      (leftF foG (numOf (arrC 6 v)) x ⟨bx0, r.dir⟩ (getE (0, iv0) (hitT foG n m v u x r)).1.toNat g) X = pathP (rdP foE (leaveF foE) n m v u x g last r c f Y) := by
  have ht : hitT foG n m v u x r = foE.hit n m v u x r := hitE_arr n m v u x r
  rw [ht]
  obtain ⟨l1, l2⟩ := lv_left (v := v) (x := x) (r := r) (i := (getE (0, iv0) (foE.hit n m v u x r)).1.toNat) (g := g) (getE bx0 (mvT foE r (foE.hit n m v u x r)))
  exact round9_eq hc (fun h => hit_face h) (fun h => hits_kind h) l1 l2 hX1 hX2
theorem run9b (ad ad' : Option Addr) (n m cap cap' : Nat) (v u : Nat → Nat → Int) (x g : Iv) (most : Int) (F : Nat) (hm : most ≤ 1000) (k : Nat) : ∀ (i : Int) (fuel : Nat) (r : Ray) (c : Nat) (f : Nat → Nat → Int) (L : List Foot), 0 ≤ i → i + k = most → k + 1 < fuel → c + k ≤ 900 →
    loop9 foG (leftF foG) F fuel (U9 most i c) (J22 (bodyA ad ad' n m cap cap' v u x) r g c f) L (K9 foG (leftF foG) F) = pathP (foGo foE (leaveF foE) n m v u x g k r c f) := by
  induction k with
  | zero =>
    intro i fuel r c f L h0 h hf hc
    obtain ⟨G, rfl⟩ : ∃ G, fuel = G + 2 := ⟨fuel - 2, by omega⟩
    refine (step9b foG (leftF foG) ad ad' n m cap cap' v u x g r i most c f F (G + 1) L).trans ?_
    rw [decide_eq_true (show i ≤ most by omega), cond_true, go_zero]
    have hw : W (i + 1) = i + 1 := by unfold W; exact wr (by omega) (by omega)
    refine rd9 n m v u x g true r c (by omega) f _ (unkP 0 f) (fun _ => ?_) (fun h' => by cases h')
    rw [hw]
    refine (step9b foG (leftF foG) ad ad' n m cap cap' v u x g _ (i + 1) most (c + 1) _ F G _).trans ?_
    rw [decide_eq_false (show ¬ i + 1 ≤ most by omega), cond_false, show hitT foG n m v u x r = hitE n m v u x r from hitE_arr n m v u x r]
    rfl
  | succ k ih =>
    intro i fuel r c f L h0 h hf hc
    obtain ⟨G, rfl⟩ : ∃ G, fuel = G + 1 := ⟨fuel - 1, by omega⟩
    refine (step9b foG (leftF foG) ad ad' n m cap cap' v u x g r i most c f F G L).trans ?_
    rw [decide_eq_true (show i ≤ most by omega), cond_true, go_succ]
    have hw : W (i + 1) = i + 1 := by unfold W; exact wr (by omega) (by omega)
    rw [hw]
    refine rd9 n m v u x g false r c (by omega) f _ _ (fun h' => by cases h') (fun _ => ?_)
    rw [show hitT foG n m v u x r = hitE n m v u x r from hitE_arr n m v u x r]
    exact ih (i + 1) G _ (c + 1) _ _ (by omega) (by omega) (by omega) (by omega)
theorem run9a (ad ad' : Option Addr) (n m cap cap' : Nat) (v u : Nat → Nat → Int) (x g : Iv) (most : Int) (F : Nat) (hm : most ≤ 800) (h0 : 0 ≤ most) (hF : 1000 ≤ F) (r : Ray) (f : Nat → Nat → Int) (L : List Foot) :
    loop9 foG (leftF foG) F F (T9 most 0 0) (H22 (bodyA ad ad' n m cap cap' v u x) r g 0 f) L (K9 foG (leftF foG) F) = pathP (foGo foE (leaveF foE) n m v u x g most.toNat r 0 f) := by
  obtain ⟨G, hG⟩ : ∃ G, F = G + 2 := ⟨F - 2, by omega⟩
  have hs := step9a foG (leftF foG) ad ad' n m cap cap' v u x g r 0 most 0 f F (G + 1) L
  rw [show G + 1 + 1 = F by omega] at hs
  refine hs.trans ?_
  obtain ⟨k, hk⟩ : ∃ k : Nat, most = k := ⟨most.toNat, by omega⟩
  subst hk
  rw [Int.toNat_natCast, decide_eq_true (show (0 : Int) ≤ (k : Int) by omega), cond_true]
  have hw : W ((0 : Int) + 1) = (0 : Int) + 1 := by unfold W; exact wr (by omega) (by omega)
  rw [hw]
  cases k with
  | zero =>
    rw [go_zero]
    refine rd9 n m v u x g true r 0 (by omega) f _ (unkP 0 f) (fun _ => ?_) (fun h' => by cases h')
    refine (step9b foG (leftF foG) ad ad' n m cap cap' v u x g _ (0 + 1) _ (0 + 1) _ F G _).trans ?_
    rw [decide_eq_false (show ¬ (0 : Int) + 1 ≤ ((0 : Nat) : Int) by omega), cond_false, show hitT foG n m v u x r = hitE n m v u x r from hitE_arr n m v u x r]
    rfl
  | succ k =>
    rw [go_succ]
    refine rd9 n m v u x g false r 0 (by omega) f _ _ (fun h' => by cases h') (fun _ => ?_)
    rw [show hitT foG n m v u x r = hitE n m v u x r from hitE_arr n m v u x r]
    exact run9b ad ad' n m cap cap' v u x g _ F (by omega) k (0 + 1) (G + 1) _ (0 + 1) _ _ (by omega) (by omega) (by omega) (by omega)
theorem follow9_ans (ad ad' : Option Addr) (n m cap cap' : Nat) (v u : Nat → Nat → Int) (x g : Iv) (r : Ray) (most : Int) : ans Tryz.prog (orc9 foG (leftF foG)) fns9 1000 3 9 [.u (.a (bodyA ad ad' n m cap cap' v u x)), rayV r, ivV g, .u (ui most)] = (resP (followE n m v u x r g most)).val := by
  refine (entry9 foG (leftF foG) ad ad' n m cap cap' v u x g r most 1000).trans ?_
  rw [pre22_in]
  unfold followE
  rw [show foG.val n m (numOf (arrC 6 v)) (numOf (arrC 2 u)) x = validB n m v u x from valid_arr n m v u x, show foG.ray r = (r.pt.v && r.dir.v) from rfl, show foG.iv g = g.v from rfl]
  cases validB n m v u x
  · rfl
  cases r.pt.v && r.dir.v
  · rfl
  cases g.v
  · rfl
  cases decide (g.lo < 0)
  · cases decide (16777216 < g.hi)
    · cases h1 : decide (most < 0)
      · cases h2 : decide (20 < most)
        · simp only [decide_eq_false_iff_not] at h1 h2
          simp only [Bool.not_true, cond_false]
          rw [run9a ad ad' n m cap cap' v u x g most 1000 (by omega) (by omega) (Nat.le_refl _) r _ _]
          rfl
        · rfl
      · rfl
    · rfl
  · rfl
theorem gk9 : FnOk Tryz.prog 9 Tryz.f9 := fk Tryz.func9 (by kernel_rfl) rfl
theorem orc9_ok : OrcOk Tryz.prog (orc9 foG (leftF foG)) := orc_cons H14 (orc_cons H16 (orc_cons H27 (orc_cons H28 (orc_cons H29 (orc_cons H30 (orc_cons H31 (orc_cons H32 orc_nil)))))))
theorem H9 : Told Tryz.prog 9 (fun args => argsT args (F22 followE)) := by
  refine told_args (fuel := 1000) (d := 3) (orc := orc9 foG (leftF foG)) (fns := fns9) mixed orc9_ok (fns_loops gk9 (fun c _ => untold fun p hp => by rw [lv9, List.mem_singleton] at hp; rw [hp]) fns_nil) gk9.enter (args_all (Pd := fun x => x.1 ≠ .any ∧ ∀ W, x.1.sc W (fun b => b < x.2.length) ∧ ScH W (fun b => b < x.2.length) x.2) fun l x h => ?_) fun l x h args ha => ?_
  · obtain ⟨n, m, v, u, y, r, g, i, _, h⟩ := F22_val h
    exact resP_sc h
  · obtain ⟨n, m, v, u, y, r, g, i, rfl, h⟩ := F22_val h
    obtain ⟨y1, y2, y3, y4, rfl, r1, r2, r3, r4⟩ := realF4 ha
    obtain ⟨ad, ad', cap, cap', e1⟩ := realF_body r1
    rw [e1, realF_ray r2, realF_iv r3, realA_i r4, follow9_ans]
    exact h
/-! Same. -/
noncomputable def orc11 (eq : EqF) : List (FuncId × (List V → Tree)) := [(33, fun args => argsT args (F35 eq))]
theorem gq11 (eq : EqF) (p q : Pth) (ad ad' : Option Addr) (cap cap' : Nat) : ans Tryz.prog (orc11 eq) [(11, Tryz.f11, [])] 9 3 11 [.u (.a (pathC p ad cap)), .u (.a (pathC q ad' cap'))] =
    bif decide (p.kd = q.kd) then bif decide ((p.n : Int) = q.n) then bif allN (fun j => isInts 1 (arrC 1 p.v j)) p.n then bif allN (fun j => isInts 1 (arrC 1 q.v j)) q.n then bif decide (p.n ≤ 200) then
      bif eq p.n q.n (numOf (arrC 1 p.v)) (numOf (arrC 1 q.v)) then bif eqX p.o q.o then tru (eqI p.g q.g) else tru false else tru false else none else none else none else tru false else tru false := by kernel_rfl
theorem gk11 : FnOk Tryz.prog 11 Tryz.f11 := fk Tryz.func11 (by kernel_rfl) rfl
theorem H11 : Told Tryz.prog 11 (fun args => argsT args (F17 sameW)) := toldPath gk11 (orc := orc11 startB) (orc_cons E38 orc_nil) fun p q ad ad' cap cap' h1 h2 => by
  have i1 := allN_iff.2 fun j (_ : j < p.n) => isInts_arr 1 p.v j
  have i2 := allN_iff.2 fun j (_ : j < q.n) => isInts_arr 1 q.v j
  rw [gq11, i1, i2, startB_arr, decide_eq_true h1]
  unfold sameW
  cases decide (p.kd = q.kd)
  · rfl
  by_cases e : p.n = q.n
  · rw [decide_eq_true (show (p.n : Int) = q.n by omega), decide_eq_true e]
    simp only [cond_true, Bool.true_and]
    exact and3 _ _ _
  · rw [decide_eq_false (show ¬ (p.n : Int) = q.n by omega), decide_eq_false e]; rfl
end Go.Proofs.YtbgdfikfldkjbaaGreat.AI
end
