/- Two texts, laid into one by mkclaim.py. -/
import Derived.Test.YtbgdfikfldkjbaaPF0
section
/- trace.Follow, read. -/
namespace Go.Proofs.Ytbgdfikfldkjbaa.AI
set_option linter.unnecessarySimpa false
open Go
set_option linter.unusedVariables false
set_option linter.unusedSimpArgs false
abbrev LvF := (Nat → Nat → Int) → Iv → Ray → Nat → Iv → Lv
noncomputable def orc22 (o : Fo) (lv : LvF) : List (FuncId × (List V → Tree)) := [(11, fun args => argsT args (F11g o.hit)), (26, fun args => argsT args (F26g o.val)), (27, shT [some 12] (P12 fun r => truT (o.ray r))), (29, shT [some 2] (F1vg o.iv)), (42, s122 fun r k => resB (o.mv r k)), (43, s662 fun d n r => resN (o.kind d n r)), (44, fun args => argsT args (F44 lv)), (45, s66 fun d n => resB (o.refl d n))]
def lv22 : List (Nat × LV) := [(8, ⟨[3, 4, 5, 6, 8, 9, 10, 11], [8, 9, 10], [(10, 3, 1, [ci 0])], none⟩)]
noncomputable def fns22 : List (FuncId × Func × List (Nat × LV)) := [(22, Try.f22, lv22)]
noncomputable def all22 : Code := Try.f22.body.getD .skip
noncomputable def body22 : Code := loopOf Try.f22 0
/-- A path without faces yet. -/
def path0 : List C := [ci 0, .nils, ci 0, ci 0, ci 0, ci 0, ci 0, ci 0, ci 0, ci 0]
def H22 (b : List C) (r : Ray) (g : Iv) (c : Nat) (f : Nat → Nat → Int) : Heap := [some (.cells b), some (.cells (rayC r)), some (.cells [ci g.lo, ci g.hi]), some (.cells path0), some (.row 3 1 c (arrC 1 f) true)]
def T22 (most i : Int) (c : Nat) : List V := TT 134 [(3, .u (ui most)), (4, .u (.c (.ptr 0 0))), (5, .u (.c (.ptr 1 0))), (6, .u (.c (.ptr 2 0))), (8, .u (.c (.ptr 3 0))), (9, .u (ui 0)), (10, .u (.c (.row 4 1 0 c true))), (11, .u (ui i))]
noncomputable abbrev env22 (o : Fo) (lv : LvF) (F : Nat) : CallT (V × Heap) := env Try.prog (orc22 o lv) fns22 F 2
noncomputable abbrev loop22 (o : Fo) (lv : LvF) (F fuel : Nat) (T : List V) (H : Heap) (L : List Foot) (K : KT (V × Heap)) : R := loopA 5 [3, 4, 5, 6, 8, 9, 10, 11] [8, 9, 10] (codeA Try.prog (env22 o lv F) F lv22 body22) fuel T H L K
def unS : Code → Code
  | .scope b => b
  | c => c
noncomputable def end22 : Code := sndC (sndC (sndC (sndC (sndC (unS (sndC all22))))))
noncomputable def K22 (o : Fo) (lv : LvF) (F : Nat) : KT (V × Heap) := kblk (kseq (env22 o lv F) F lv22 end22 (kfinA Try.f22))
/-- What Follow answers: an error; a path. -/
def errR (e : Nat) : R := some (.t [.a path0, eC e], [])
def pathR (kd : Int) (c : Nat) (f : Nat → Nat → Int) (b : Bx) (g : Iv) : R := some (.t [.a ([ci kd, .row 0 1 0 c true] ++ bxC b ++ [ci g.lo, ci g.hi]), ui 0], [some (.row 3 1 c (arrC 1 f) true)])
def hitT (o : Fo) (n m : Nat) (v u : Nat → Nat → Int) (x : Iv) (r : Ray) : Er (Int × Iv) := o.hit n m (numOf (arrC 6 v)) (numOf (arrC 2 u)) x r
def putN (f : Nat → Nat → Int) (c : Nat) (y : Int) (j k : Nat) : Int := bif Nat.blt j c then f j k else y
def pre22 (n m : Nat) (v u : Nat → Nat → Int) (X : R) : R := bif allN (fun j => isInts 6 (arrC 6 v j)) n then bif allN (fun j => isInts 2 (arrC 2 u j)) m then X else none else none
theorem entry22 (o : Fo) (lv : LvF) (ad ad' : Option Addr) (n m cap cap' : Nat) (v u : Nat → Nat → Int) (x g : Iv) (r : Ray) (most : Int) (F : Nat) : ans Try.prog (orc22 o lv) fns22 F 3 22 [.u (.a (bodyA ad ad' n m cap cap' v u x)), rayV r, ivV g, .u (ui most)] =
    pre22 n m v u (bif !o.val n m (numOf (arrC 6 v)) (numOf (arrC 2 u)) x then errR 0 else bif !o.ray r then errR 0 else bif !o.iv g then errR 0 else bif decide (g.lo < 0) then errR 0 else bif decide (16777216 < g.hi) then errR 0 else
      bif decide (most < 0) then errR 1 else bif decide (20 < most) then errR 1 else loop22 o lv F F (T22 most 0 0) (H22 (bodyA ad ad' n m cap cap' v u x) r g 0 (fun _ _ => 0)) [] (K22 o lv F)) := by kernel_rfl
def mvT (o : Fo) (r : Ray) (h : Er (Int × Iv)) : Er Bx := o.mv r (getE (0, iv0) h).2
/-- One round: h: the hit; p: the next point; k: what light does; d: the direction reflected; l: the end. -/
def leave22 (n m : Nat) (v u : Nat → Nat → Int) (c : Nat) (f : Nat → Nat → Int) (i : Int) (l : Lv) : R :=
  pre22 n m v u (bif decide (0 ≤ i) && decide (i < n) then bif !l.ok then pathR 3 (c + 1) (putN f c i) bx0 iv0 else pathR l.kd (c + 1) (putN f c i) l.o l.g else none)
def refl22 (n : Nat) (c : Nat) (f : Nat → Nat → Int) (i : Int) (d : Er Bx) (X : R) : R :=
  bif decide (0 ≤ i) && decide (i < n) then bif okE d then X else pathR 3 (c + 1) (putN f c i) bx0 iv0 else none
def kind22 (n m : Nat) (v u : Nat → Nat → Int) (c : Nat) (f : Nat → Nat → Int) (i : Int) (k : Int) (last : Bool) (d : Er Bx) (l : Lv) (X : R) : R :=
  bif decide (k = 3) then pathR 3 (c + 1) (putN f c i) bx0 iv0 else bif decide (k = 1) then bif last then pathR 3 (c + 1) (putN f c i) bx0 iv0 else
    bif decide (k = 2) then leave22 n m v u c f i l else refl22 n c f i d X
  else bif decide (k = 2) then leave22 n m v u c f i l else refl22 n c f i d X
def round22 (n m : Nat) (v u : Nat → Nat → Int) (c : Nat) (f : Nat → Nat → Int) (last : Bool) (h : Er (Int × Iv)) (p : Er Bx) (k : Er Int) (d : Er Bx) (l : Lv) (X : R) : R :=
  pre22 n m v u (bif okE h then bif decide (c ≤ c) then bif decide ((c + 1) * 8 ≤ 140737488355328) && decide (c + 1 ≤ 140737488355328) then
    bif okE p then bif decide (0 ≤ (getE (0, iv0) h).1) && decide ((getE (0, iv0) h).1 < n) then bif okE k then kind22 n m v u c f (getE (0, iv0) h).1 (getE 0 k) last d l X
    else pathR 3 (c + 1) (putN f c (getE (0, iv0) h).1) bx0 iv0 else none else pathR 3 (c + 1) (putN f c (getE (0, iv0) h).1) bx0 iv0 else none else none else pathR 3 c f bx0 iv0)
/-- From the second round on: the faces lie elsewhere. -/
def J22 (b : List C) (r : Ray) (g : Iv) (c : Nat) (f : Nat → Nat → Int) : Heap := [some (.cells b), some (.cells (rayC r)), some (.cells [ci g.lo, ci g.hi]), some (.cells path0), none, some (.row 3 1 c (arrC 1 f) true)]
def U22 (most i : Int) (c : Nat) : List V := TT 134 [(3, .u (ui most)), (4, .u (.c (.ptr 0 0))), (5, .u (.c (.ptr 1 0))), (6, .u (.c (.ptr 2 0))), (8, .u (.c (.ptr 3 0))), (9, .u (ui 0)), (10, .u (.c (.row 5 1 0 c true))), (11, .u (ui i))]
theorem step22a (o : Fo) (lv : LvF) (ad ad' : Option Addr) (n m cap cap' : Nat) (v u : Nat → Nat → Int) (x g : Iv) (r : Ray) (i most : Int) (c : Nat) (f : Nat → Nat → Int) (F fuel : Nat) (L : List Foot) :
    loop22 o lv F (fuel + 1) (T22 most i c) (H22 (bodyA ad ad' n m cap cap' v u x) r g c f) L (K22 o lv F) =
    round22 n m v u c f (decide (i = most)) (hitT o n m v u x r) (mvT o r (hitT o n m v u x r)) (o.kind r.dir (bxOf v (getE (0, iv0) (hitT o n m v u x r)).1.toNat) x) (o.refl r.dir (bxOf v (getE (0, iv0) (hitT o n m v u x r)).1.toNat))
      (lv (numOf (arrC 6 v)) x ⟨getE bx0 (mvT o r (hitT o n m v u x r)), r.dir⟩ (getE (0, iv0) (hitT o n m v u x r)).1.toNat g)
      (loop22 o lv F fuel (U22 most (W (i + 1)) (c + 1)) (J22 (bodyA ad ad' n m cap cap' v u x) ⟨getE bx0 (mvT o r (hitT o n m v u x r)), getE bx0 (o.refl r.dir (bxOf v (getE (0, iv0) (hitT o n m v u x r)).1.toNat))⟩ g (c + 1) (putN f c (getE (0, iv0) (hitT o n m v u x r)).1)) ([.c 1 6 6, .c 1 0 6, .r 4, .c 5 0 2] ++ L) (K22 o lv F)) := by kernel_rfl
theorem step22b (o : Fo) (lv : LvF) (ad ad' : Option Addr) (n m cap cap' : Nat) (v u : Nat → Nat → Int) (x g : Iv) (r : Ray) (i most : Int) (c : Nat) (f : Nat → Nat → Int) (F fuel : Nat) (L : List Foot) :
    loop22 o lv F (fuel + 1) (U22 most i c) (J22 (bodyA ad ad' n m cap cap' v u x) r g c f) L (K22 o lv F) =
    round22 n m v u c f (decide (i = most)) (hitT o n m v u x r) (mvT o r (hitT o n m v u x r)) (o.kind r.dir (bxOf v (getE (0, iv0) (hitT o n m v u x r)).1.toNat) x) (o.refl r.dir (bxOf v (getE (0, iv0) (hitT o n m v u x r)).1.toNat))
      (lv (numOf (arrC 6 v)) x ⟨getE bx0 (mvT o r (hitT o n m v u x r)), r.dir⟩ (getE (0, iv0) (hitT o n m v u x r)).1.toNat g)
      (loop22 o lv F fuel (U22 most (W (i + 1)) (c + 1)) (J22 (bodyA ad ad' n m cap cap' v u x) ⟨getE bx0 (mvT o r (hitT o n m v u x r)), getE bx0 (o.refl r.dir (bxOf v (getE (0, iv0) (hitT o n m v u x r)).1.toNat))⟩ g (c + 1) (putN f c (getE (0, iv0) (hitT o n m v u x r)).1)) ([.c 1 6 6, .c 1 0 6, .r 5, .c 6 0 2] ++ L) (K22 o lv F)) := by kernel_rfl
end Go.Proofs.Ytbgdfikfldkjbaa.AI
end
section
/- trace.Follow, told. -/
namespace Go.Proofs.Ytbgdfikfldkjbaa.AI
set_option linter.unnecessarySimpa false
open Go
set_option linter.unusedVariables false
set_option linter.unusedSimpArgs false
/-- A path that is not known. -/
def unkP (c : Nat) (f : Nat → Nat → Int) : Pth := ⟨3, c, f, bx0, iv0⟩
/-- One round of a path. -/
def roundP (c : Nat) (f : Nat → Nat → Int) (last : Bool) (h : Er (Int × Iv)) (p : Er Bx) (k : Er Int) (d : Er Bx) (l : Lv) (X : Pth) : Pth :=
  bif okE h then bif okE p then bif okE k then
    bif decide (getE 0 k = 3) then unkP (c + 1) (putN f c (getE (0, iv0) h).1) else bif decide (getE 0 k = 2) then bif l.ok then ⟨l.kd, c + 1, putN f c (getE (0, iv0) h).1, l.o, l.g⟩ else unkP (c + 1) (putN f c (getE (0, iv0) h).1)
    else bif last then unkP (c + 1) (putN f c (getE (0, iv0) h).1) else bif okE d then X else unkP (c + 1) (putN f c (getE (0, iv0) h).1)
  else unkP (c + 1) (putN f c (getE (0, iv0) h).1) else unkP (c + 1) (putN f c (getE (0, iv0) h).1) else unkP c f
/-- The path: k: how many reflections are left. -/
def foGo (o : Fo) (lv : LvF) (n m : Nat) (v u : Nat → Nat → Int) (x g : Iv) : Nat → Ray → Nat → (Nat → Nat → Int) → Pth
  | 0, r, c, f => roundP c f true (o.hit n m v u x r) (mvT o r (o.hit n m v u x r)) (o.kind r.dir (bxOf v (getE (0, iv0) (o.hit n m v u x r)).1.toNat) x) (o.refl r.dir (bxOf v (getE (0, iv0) (o.hit n m v u x r)).1.toNat)) (lv v x ⟨getE bx0 (mvT o r (o.hit n m v u x r)), r.dir⟩ (getE (0, iv0) (o.hit n m v u x r)).1.toNat g) (unkP 0 f)
  | k + 1, r, c, f => roundP c f false (o.hit n m v u x r) (mvT o r (o.hit n m v u x r)) (o.kind r.dir (bxOf v (getE (0, iv0) (o.hit n m v u x r)).1.toNat) x) (o.refl r.dir (bxOf v (getE (0, iv0) (o.hit n m v u x r)).1.toNat)) (lv v x ⟨getE bx0 (mvT o r (o.hit n m v u x r)), r.dir⟩ (getE (0, iv0) (o.hit n m v u x r)).1.toNat g)
      (foGo o lv n m v u x g k ⟨getE bx0 (mvT o r (o.hit n m v u x r)), getE bx0 (o.refl r.dir (bxOf v (getE (0, iv0) (o.hit n m v u x r)).1.toNat))⟩ (c + 1) (putN f c (getE (0, iv0) (o.hit n m v u x r)).1))
def pathP (p : Pth) : R := pathR p.kd p.n p.v p.o p.g
/-- What is asked of what Follow calls. -/
structure FoOk (o : Fo) (lv : LvF) (n m : Nat) (v u : Nat → Nat → Int) (x : Iv) : Prop where
  hit : ∀ r, hitT o n m v u x r = o.hit n m v u x r
  face : ∀ r, okE (o.hit n m v u x r) = true → 0 ≤ (getE (0, iv0) (o.hit n m v u x r)).1 ∧ (getE (0, iv0) (o.hit n m v u x r)).1 < n
  kind : ∀ d b, okE (o.kind d b x) = true → getE 0 (o.kind d b x) = 1 ∨ getE 0 (o.kind d b x) = 2 ∨ getE 0 (o.kind d b x) = 3
  lv : ∀ r i g, lv (numOf (arrC 6 v)) x r i g = lv v x r i g
theorem pre22_in (n m : Nat) (v u : Nat → Nat → Int) (X : R) : pre22 n m v u X = X := by
  unfold pre22
  rw [allN_iff.2 fun j (_ : j < n) => isInts_arr 6 v j, allN_iff.2 fun j (_ : j < m) => isInts_arr 2 u j]
  rfl
theorem round_eq {n m : Nat} {v u : Nat → Nat → Int} {c : Nat} {f : Nat → Nat → Int} {last : Bool} {h : Er (Int × Iv)} {p : Er Bx} {k : Er Int} {d : Er Bx} {l : Lv} {X : R} {Y : Pth} (hc : c ≤ 1000) (hf : okE h = true → 0 ≤ (getE (0, iv0) h).1 ∧ (getE (0, iv0) h).1 < n)
    (hk : okE k = true → getE 0 k = 1 ∨ getE 0 k = 2 ∨ getE 0 k = 3) (hX : okE h = true → last = false → okE d = true → X = pathP Y) : round22 n m v u c f last h p k d l X = pathP (roundP c f last h p k d l Y) := by
  unfold round22 roundP
  rw [pre22_in, decide_eq_true (Nat.le_refl c), decide_eq_true (show (c + 1) * 8 ≤ 140737488355328 by omega), decide_eq_true (show c + 1 ≤ 140737488355328 by omega)]
  simp only [Bool.and_self, cond_true]
  cases h1 : okE h
  · rfl
  obtain ⟨f1, f2⟩ := hf h1
  rw [decide_eq_true f1, decide_eq_true f2]
  simp only [Bool.and_self, cond_true]
  cases h2 : okE p
  · rfl
  cases h3 : okE k
  · rfl
  simp only [cond_true]
  have hk := hk h3
  generalize getE 0 k = z at *
  unfold kind22 leave22 refl22
  rw [pre22_in, decide_eq_true f1, decide_eq_true f2]
  simp only [Bool.and_self, cond_true]
  rcases hk with rfl | rfl | rfl
  · cases last
    · cases hd : okE d
      · rfl
      · exact hX h1 rfl hd
    · rfl
  · obtain ⟨kd, ob, og, ok⟩ := l
    cases ok <;> rfl
  · rfl
/-- What a round comes to, in the path's own words. -/
def rdP (o : Fo) (lv : LvF) (n m : Nat) (v u : Nat → Nat → Int) (x g : Iv) (last : Bool) (r : Ray) (c : Nat) (f : Nat → Nat → Int) (Y : Pth) : Pth :=
  roundP c f last (o.hit n m v u x r) (mvT o r (o.hit n m v u x r)) (o.kind r.dir (bxOf v (getE (0, iv0) (o.hit n m v u x r)).1.toNat) x) (o.refl r.dir (bxOf v (getE (0, iv0) (o.hit n m v u x r)).1.toNat)) (lv v x ⟨getE bx0 (mvT o r (o.hit n m v u x r)), r.dir⟩ (getE (0, iv0) (o.hit n m v u x r)).1.toNat g) Y
def nxR (o : Fo) (n m : Nat) (v u : Nat → Nat → Int) (x : Iv) (r : Ray) : Ray := ⟨getE bx0 (mvT o r (o.hit n m v u x r)), getE bx0 (o.refl r.dir (bxOf v (getE (0, iv0) (o.hit n m v u x r)).1.toNat))⟩
theorem go_zero (o : Fo) (lv : LvF) (n m : Nat) (v u : Nat → Nat → Int) (x g : Iv) (r : Ray) (c : Nat) (f : Nat → Nat → Int) : foGo o lv n m v u x g 0 r c f = rdP o lv n m v u x g true r c f (unkP 0 f) := rfl
theorem go_succ (o : Fo) (lv : LvF) (n m : Nat) (v u : Nat → Nat → Int) (x g : Iv) (k : Nat) (r : Ray) (c : Nat) (f : Nat → Nat → Int) : foGo o lv n m v u x g (k + 1) r c f = rdP o lv n m v u x g false r c f (foGo o lv n m v u x g k (nxR o n m v u x r) (c + 1) (putN f c (getE (0, iv0) (o.hit n m v u x r)).1)) := rfl
theorem rd_eq (o : Fo) (lv : LvF) (n m : Nat) (v u : Nat → Nat → Int) (x g : Iv) (ho : FoOk o lv n m v u x) (last : Bool) (r : Ray) (c : Nat) (hc : c ≤ 1000) (f : Nat → Nat → Int) (X : R) (Y : Pth) (hX : last = false → X = pathP Y) :
    round22 n m v u c f last (hitT o n m v u x r) (mvT o r (hitT o n m v u x r)) (o.kind r.dir (bxOf v (getE (0, iv0) (hitT o n m v u x r)).1.toNat) x) (o.refl r.dir (bxOf v (getE (0, iv0) (hitT o n m v u x r)).1.toNat))
      (lv (numOf (arrC 6 v)) x ⟨getE bx0 (mvT o r (hitT o n m v u x r)), r.dir⟩ (getE (0, iv0) (hitT o n m v u x r)).1.toNat g) X = pathP (rdP o lv n m v u x g last r c f Y) := by
  rw [ho.hit, ho.lv]
  exact round_eq hc (ho.face r) (ho.kind _ _) fun _ h _ => hX h
theorem run22b (o : Fo) (lv : LvF) (ad ad' : Option Addr) (n m cap cap' : Nat) (v u : Nat → Nat → Int) (x g : Iv) (ho : FoOk o lv n m v u x) (most : Int) (F : Nat) (hm : most ≤ 1000) (k : Nat) : ∀ (i : Int) (fuel : Nat) (r : Ray) (c : Nat) (f : Nat → Nat → Int) (L : List Foot), 0 ≤ i → i + k = most → k < fuel → c + k ≤ 1000 →
    loop22 o lv F fuel (U22 most i c) (J22 (bodyA ad ad' n m cap cap' v u x) r g c f) L (K22 o lv F) = pathP (foGo o lv n m v u x g k r c f) := by
  induction k with
  | zero =>
    intro i fuel r c f L h0 h hf hc
    obtain ⟨G, rfl⟩ : ∃ G, fuel = G + 1 := ⟨fuel - 1, by omega⟩
    refine (step22b o lv ad ad' n m cap cap' v u x g r i most c f F G L).trans ?_
    rw [go_zero]
    refine (rd_eq o lv n m v u x g ho _ r c (by omega) f _ (unkP 0 f) fun h' => ?_).trans ?_
    · rw [decide_eq_true (show i = most by omega)] at h'; cases h'
    · rw [decide_eq_true (show i = most by omega)]
  | succ k ih =>
    intro i fuel r c f L h0 h hf hc
    obtain ⟨G, rfl⟩ : ∃ G, fuel = G + 1 := ⟨fuel - 1, by omega⟩
    refine (step22b o lv ad ad' n m cap cap' v u x g r i most c f F G L).trans ?_
    rw [go_succ]
    have hw : W (i + 1) = i + 1 := by unfold W; exact wr (by omega) (by omega)
    have hd : decide (i = most) = false := decide_eq_false (by omega)
    rw [hw, hd]
    refine rd_eq o lv n m v u x g ho false r c (by omega) f _ _ fun _ => ?_
    rw [ho.hit]
    exact ih (i + 1) G _ (c + 1) _ _ (by omega) (by omega) (by omega) (by omega)
theorem run22a (o : Fo) (lv : LvF) (ad ad' : Option Addr) (n m cap cap' : Nat) (v u : Nat → Nat → Int) (x g : Iv) (ho : FoOk o lv n m v u x) (most : Int) (F : Nat) (hm : most ≤ 900) (h0 : 0 ≤ most) (hF : 1000 ≤ F) (r : Ray) (f : Nat → Nat → Int) (L : List Foot) :
    loop22 o lv F F (T22 most 0 0) (H22 (bodyA ad ad' n m cap cap' v u x) r g 0 f) L (K22 o lv F) = pathP (foGo o lv n m v u x g most.toNat r 0 f) := by
  obtain ⟨G, hG⟩ : ∃ G, F = G + 1 := ⟨F - 1, by omega⟩
  have hs := step22a o lv ad ad' n m cap cap' v u x g r 0 most 0 f F G L
  rw [← hG] at hs
  refine hs.trans ?_
  obtain ⟨k, hk⟩ : ∃ k : Nat, most = k := ⟨most.toNat, by omega⟩
  subst hk
  rw [Int.toNat_natCast]
  cases k with
  | zero =>
    rw [go_zero]
    refine (rd_eq o lv n m v u x g ho _ r 0 (by omega) f _ (unkP 0 f) fun h' => ?_).trans ?_
    · cases h'
    · rfl
  | succ k =>
    rw [go_succ]
    have hd : decide ((0 : Int) = ((k + 1 : Nat) : Int)) = false := decide_eq_false (by omega)
    rw [hd]
    refine rd_eq o lv n m v u x g ho false r 0 (by omega) f _ _ fun _ => ?_
    rw [ho.hit]
    exact run22b o lv ad ad' n m cap cap' v u x g ho _ F (by omega) k 1 G _ 1 _ _ (by omega) (by omega) (by omega) (by omega)
end Go.Proofs.Ytbgdfikfldkjbaa.AI
end
