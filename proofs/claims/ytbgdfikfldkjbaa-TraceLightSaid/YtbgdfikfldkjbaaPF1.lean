/- trace.Follow, read. -/
import Derived.Test.YtbgdfikfldkjbaaPF0
namespace Go.Proofs.Ytbgdfikfldkjbaa.AI
set_option linter.unnecessarySimpa false
open Go
set_option linter.unusedVariables false
set_option linter.unusedSimpArgs false
abbrev LvF := (Nat → Nat → Int) → Iv → Ray → Nat → Iv → Lv
noncomputable def orc22 (o : Fo) (lv : LvF) : List (FuncId × (List V → Tree)) := [(11, fun args => argsT args (F11g o.hit)), (26, fun args => argsT args (F26g o.val)), (27, shT [some 12] (P12 fun r => truT (o.ray r))), (29, shT [some 2] (F1vg o.iv)), (42, s122 fun r k => resB (o.mv r k)), (43, s662 fun d n r => resN (o.kind d n r)), (44, fun args => argsT args (F44 lv)), (45, s66 fun d n => resB (o.refl d n))]
def lv22 : List (Nat × LV) := [(8, ⟨[3, 4, 5, 6, 8, 9, 10, 11], [8, 9, 10], [(10, 3, 1, [ci 0])], none⟩)]
noncomputable def fns22 : List (FuncId × Func × List (Nat × LV)) := [(22, Try.f22, lv22)]
noncomputable def all22 : Code := Try.f22.body.getD .skip
noncomputable def body22 : Code := loopOf Try.f22 0
/-- A path without faces yet. -/
def path0 : List C := [ci 0, .nils, ci 0, ci 0, ci 0, ci 0, ci 0, ci 0, ci 0, ci 0]
def H22 (b : List C) (r : Ray) (g : Iv) (c : Nat) (f : Nat → Nat → Int) : Heap := [some (.cells b), some (.cells (rayC r)), some (.cells [ci g.lo, ci g.hi]), some (.cells path0), some (.row 3 1 c (arrC 1 f) true)]
def T22 (most i : Int) (c : Nat) : List V := TT 134 [(3, .u (ui most)), (4, .u (.c (.ptr 0 0))), (5, .u (.c (.ptr 1 0))), (6, .u (.c (.ptr 2 0))), (8, .u (.c (.ptr 3 0))), (9, .u (ui 0)), (10, .u (.c (.row 4 1 0 c true))), (11, .u (ui i))]
noncomputable abbrev env22 (o : Fo) (lv : LvF) (F : Nat) : CallT (V × Heap) := env Try.prog (orc22 o lv) fns22 F 2
noncomputable abbrev loop22 (o : Fo) (lv : LvF) (F fuel : Nat) (T : List V) (H : Heap) (L : List Foot) (K : KT (V × Heap)) : R := loopA 5 [3, 4, 5, 6, 8, 9, 10, 11] [8, 9, 10] (codeA Try.prog (env22 o lv F) F lv22 body22) fuel T H L K
def unS : Code → Code
  | .scope b => b
  | c => c
noncomputable def end22 : Code := sndC (sndC (sndC (sndC (sndC (unS (sndC all22))))))
noncomputable def K22 (o : Fo) (lv : LvF) (F : Nat) : KT (V × Heap) := kblk (kseq (env22 o lv F) F lv22 end22 (kfinA Try.f22))
/-- What Follow answers: an error; a path. -/
def errR (e : Nat) : R := some (.t [.a path0, eC e], [])
def pathR (kd : Int) (c : Nat) (f : Nat → Nat → Int) (b : Bx) (g : Iv) : R := some (.t [.a ([ci kd, .row 0 1 0 c true] ++ bxC b ++ [ci g.lo, ci g.hi]), ui 0], [some (.row 3 1 c (arrC 1 f) true)])
def hitT (o : Fo) (n m : Nat) (v u : Nat → Nat → Int) (x : Iv) (r : Ray) : Er (Int × Iv) := o.hit n m (numOf (arrC 6 v)) (numOf (arrC 2 u)) x r
def putN (f : Nat → Nat → Int) (c : Nat) (y : Int) (j k : Nat) : Int := bif Nat.blt j c then f j k else y
def pre22 (n m : Nat) (v u : Nat → Nat → Int) (X : R) : R := bif allN (fun j => isInts 6 (arrC 6 v j)) n then bif allN (fun j => isInts 2 (arrC 2 u j)) m then X else none else none
theorem entry22 (o : Fo) (lv : LvF) (ad ad' : Option Addr) (n m cap cap' : Nat) (v u : Nat → Nat → Int) (x g : Iv) (r : Ray) (most : Int) (F : Nat) : ans Try.prog (orc22 o lv) fns22 F 3 22 [.u (.a (bodyA ad ad' n m cap cap' v u x)), rayV r, ivV g, .u (ui most)] =
    pre22 n m v u (bif !o.val n m (numOf (arrC 6 v)) (numOf (arrC 2 u)) x then errR 0 else bif !o.ray r then errR 0 else bif !o.iv g then errR 0 else bif decide (g.lo < 0) then errR 0 else bif decide (16777216 < g.hi) then errR 0 else
      bif decide (most < 0) then errR 1 else bif decide (20 < most) then errR 1 else loop22 o lv F F (T22 most 0 0) (H22 (bodyA ad ad' n m cap cap' v u x) r g 0 (fun _ _ => 0)) [] (K22 o lv F)) := by kernel_rfl
def mvT (o : Fo) (r : Ray) (h : Er (Int × Iv)) : Er Bx := o.mv r (getE (0, iv0) h).2
/-- One round: h: the hit; p: the next point; k: what light does; d: the direction reflected; l: the end. -/
def leave22 (n m : Nat) (v u : Nat → Nat → Int) (c : Nat) (f : Nat → Nat → Int) (i : Int) (l : Lv) : R :=
  pre22 n m v u (bif decide (0 ≤ i) && decide (i < n) then bif !l.ok then pathR 3 (c + 1) (putN f c i) bx0 iv0 else pathR l.kd (c + 1) (putN f c i) l.o l.g else none)
def refl22 (n : Nat) (c : Nat) (f : Nat → Nat → Int) (i : Int) (d : Er Bx) (X : R) : R :=
  bif decide (0 ≤ i) && decide (i < n) then bif okE d then X else pathR 3 (c + 1) (putN f c i) bx0 iv0 else none
def kind22 (n m : Nat) (v u : Nat → Nat → Int) (c : Nat) (f : Nat → Nat → Int) (i : Int) (k : Int) (last : Bool) (d : Er Bx) (l : Lv) (X : R) : R :=
  bif decide (k = 3) then pathR 3 (c + 1) (putN f c i) bx0 iv0 else bif decide (k = 1) then bif last then pathR 3 (c + 1) (putN f c i) bx0 iv0 else
    bif decide (k = 2) then leave22 n m v u c f i l else refl22 n c f i d X
  else bif decide (k = 2) then leave22 n m v u c f i l else refl22 n c f i d X
def round22 (n m : Nat) (v u : Nat → Nat → Int) (c : Nat) (f : Nat → Nat → Int) (last : Bool) (h : Er (Int × Iv)) (p : Er Bx) (k : Er Int) (d : Er Bx) (l : Lv) (X : R) : R :=
  pre22 n m v u (bif okE h then bif decide (c ≤ c) then bif decide ((c + 1) * 8 ≤ 140737488355328) && decide (c + 1 ≤ 140737488355328) then
    bif okE p then bif decide (0 ≤ (getE (0, iv0) h).1) && decide ((getE (0, iv0) h).1 < n) then bif okE k then kind22 n m v u c f (getE (0, iv0) h).1 (getE 0 k) last d l X
    else pathR 3 (c + 1) (putN f c (getE (0, iv0) h).1) bx0 iv0 else none else pathR 3 (c + 1) (putN f c (getE (0, iv0) h).1) bx0 iv0 else none else none else pathR 3 c f bx0 iv0)
/-- From the second round on: the faces lie elsewhere. -/
def J22 (b : List C) (r : Ray) (g : Iv) (c : Nat) (f : Nat → Nat → Int) : Heap := [some (.cells b), some (.cells (rayC r)), some (.cells [ci g.lo, ci g.hi]), some (.cells path0), none, some (.row 3 1 c (arrC 1 f) true)]
def U22 (most i : Int) (c : Nat) : List V := TT 134 [(3, .u (ui most)), (4, .u (.c (.ptr 0 0))), (5, .u (.c (.ptr 1 0))), (6, .u (.c (.ptr 2 0))), (8, .u (.c (.ptr 3 0))), (9, .u (ui 0)), (10, .u (.c (.row 5 1 0 c true))), (11, .u (ui i))]
theorem step22a (o : Fo) (lv : LvF) (ad ad' : Option Addr) (n m cap cap' : Nat) (v u : Nat → Nat → Int) (x g : Iv) (r : Ray) (i most : Int) (c : Nat) (f : Nat → Nat → Int) (F fuel : Nat) (L : List Foot) :
    loop22 o lv F (fuel + 1) (T22 most i c) (H22 (bodyA ad ad' n m cap cap' v u x) r g c f) L (K22 o lv F) =
    round22 n m v u c f (decide (i = most)) (hitT o n m v u x r) (mvT o r (hitT o n m v u x r)) (o.kind r.dir (bxOf v (getE (0, iv0) (hitT o n m v u x r)).1.toNat) x) (o.refl r.dir (bxOf v (getE (0, iv0) (hitT o n m v u x r)).1.toNat))
      (lv (numOf (arrC 6 v)) x ⟨getE bx0 (mvT o r (hitT o n m v u x r)), r.dir⟩ (getE (0, iv0) (hitT o n m v u x r)).1.toNat g)
      (loop22 o lv F fuel (U22 most (W (i + 1)) (c + 1)) (J22 (bodyA ad ad' n m cap cap' v u x) ⟨getE bx0 (mvT o r (hitT o n m v u x r)), getE bx0 (o.refl r.dir (bxOf v (getE (0, iv0) (hitT o n m v u x r)).1.toNat))⟩ g (c + 1) (putN f c (getE (0, iv0) (hitT o n m v u x r)).1)) ([.c 1 6 6, .c 1 0 6, .r 4, .c 5 0 2] ++ L) (K22 o lv F)) := by kernel_rfl
theorem step22b (o : Fo) (lv : LvF) (ad ad' : Option Addr) (n m cap cap' : Nat) (v u : Nat → Nat → Int) (x g : Iv) (r : Ray) (i most : Int) (c : Nat) (f : Nat → Nat → Int) (F fuel : Nat) (L : List Foot) :
    loop22 o lv F (fuel + 1) (U22 most i c) (J22 (bodyA ad ad' n m cap cap' v u x) r g c f) L (K22 o lv F) =
    round22 n m v u c f (decide (i = most)) (hitT o n m v u x r) (mvT o r (hitT o n m v u x r)) (o.kind r.dir (bxOf v (getE (0, iv0) (hitT o n m v u x r)).1.toNat) x) (o.refl r.dir (bxOf v (getE (0, iv0) (hitT o n m v u x r)).1.toNat))
      (lv (numOf (arrC 6 v)) x ⟨getE bx0 (mvT o r (hitT o n m v u x r)), r.dir⟩ (getE (0, iv0) (hitT o n m v u x r)).1.toNat g)
      (loop22 o lv F fuel (U22 most (W (i + 1)) (c + 1)) (J22 (bodyA ad ad' n m cap cap' v u x) ⟨getE bx0 (mvT o r (hitT o n m v u x r)), getE bx0 (o.refl r.dir (bxOf v (getE (0, iv0) (hitT o n m v u x r)).1.toNat))⟩ g (c + 1) (putN f c (getE (0, iv0) (hitT o n m v u x r)).1)) ([.c 1 6 6, .c 1 0 6, .r 5, .c 6 0 2] ++ L) (K22 o lv F)) := by kernel_rfl
end Go.Proofs.Ytbgdfikfldkjbaa.AI
