/- The statement TraceInclusion, read. (Numbers of functions: seat r5.) -/
import Derived.Test.YtbgdfikfldkjbaaGT
import Derived.Test.YtbgdfikfldkjbaaPL6
namespace Go.Proofs.Ytbgdfikfldkjbaa.AI
set_option linter.unnecessarySimpa false
open Go
set_option linter.unusedVariables false
set_option linter.unusedSimpArgs false
abbrev ThF := (Nat → Nat → Int) → Nat → Nat → Nat → Int
noncomputable def orc6 (fo : FoF) (bv : Bx → Bool) (w w' : PathF) : List (FuncId × (List V → Tree)) := [(8, T8), (20, s6 fun a => truT (bv a)), (22, fun args => argsT args (F22 fo)), (17, fun args => argsT args (F17 w)), (18, fun args => argsT args (F17 w'))]
noncomputable def fns6 : List (FuncId × Func × List (Nat × LV)) := [(9, Try.f9, []), (19, Try.f19, []), (21, Try.f21, []), (23, Try.f23, []), (41, Try.f41, [])]
/-- A part: a number of reflections, numbers that choose. -/
structure Par where
  most : Int
  k0 : Int
  k1 : Int
  k2 : Int
  k3 : Int
  k4 : Int
  k5 : Int
  l0 : Int
  l1 : Int
  l2 : Int
  l3 : Int
  l4 : Int
  l5 : Int
def cu (n : Int) : C := .int .u32 n
def parC (p : Par) : List C := [ci p.most, cu p.k0, cu p.k1, cu p.k2, cu p.k3, cu p.k4, cu p.k5, cu p.l0, cu p.l1, cu p.l2, cu p.l3, cu p.l4, cu p.l5]
def parV (p : Par) : V := .u (.a (parC p))
def wiN (x : Iv) (k l : Int) (K : Iv → R) : R := bif decide (W (W (x.hi - x.lo) + 1) = 0) then none else bif decide (W (W (x.hi - x.lo) + 1) = 0) then none else
  K ⟨mnI (W (x.lo + Int.tmod (W k) (W (W (x.hi - x.lo) + 1)))) (W (x.lo + Int.tmod (W l) (W (W (x.hi - x.lo) + 1)))), mxI (W (x.lo + Int.tmod (W k) (W (W (x.hi - x.lo) + 1)))) (W (x.lo + Int.tmod (W l) (W (W (x.hi - x.lo) + 1))))⟩
def parX (a : Bx) (k0 k1 k2 k3 k4 k5 : Int) (K : Bx → R) : R := wiN a.x k0 k1 fun x => wiN a.y k2 k3 fun y => wiN a.z k4 k5 fun z => K ⟨x, y, z⟩
def preT (n m : Nat) (v u : Nat → Nat → Int) (X : R) : R := bif (allN (fun j => isInts 6 (arrC 6 v j)) n && (allN (fun j => isInts 2 (arrC 2 u j)) m && decide (n * 48 ≤ 140737488351232))) then X else none
def tailO (w w' : PathF) (p : Pth) (e : Er Pth) : R := bif okE e then two7 p (getE p0 e) (bif w p.row (getE p0 e).row then two7 p (getE p0 e) (tru (w' p.row (getE p0 e).row)) else tru false) else tru false
def tailN (d : Nat) (e : Er Pth) : R := bif okE e then tru false else bif decide (Int.ofNat (d + 1) = Int.ofNat (erE e + 1)) then tru true else tru false
def law6 (fo : FoF) (bv : Bx → Bool) (w w' : PathF) (n m : Nat) (v u : Nat → Nat → Int) (x : Iv) (r : Ray) (p : Par) : R :=
  bif !bv r.pt then tru true else bif !bv r.dir then tru true else parX r.pt p.k0 p.k1 p.k2 p.k3 p.k4 p.k5 fun a => parX r.dir p.l0 p.l1 p.l2 p.l3 p.l4 p.l5 fun d =>
    pre22 n m v u (bif okE (fo n m (numOf (arrC 6 v)) (numOf (arrC 2 u)) x ⟨a, d⟩ one1 p.most) then pre22 n m v u (tailO w w' (getE p0 (fo n m (numOf (arrC 6 v)) (numOf (arrC 2 u)) x ⟨a, d⟩ one1 p.most)) (fo n m (numOf (arrC 6 v)) (numOf (arrC 2 u)) x r one1 p.most))
      else pre22 n m v u (tailN (erE (fo n m (numOf (arrC 6 v)) (numOf (arrC 2 u)) x ⟨a, d⟩ one1 p.most)) (fo n m (numOf (arrC 6 v)) (numOf (arrC 2 u)) x r one1 p.most)))
theorem t6 (th : ThF) (fo : FoF) (bv : Bx → Bool) (w w' : PathF) (ad ad' : Option Addr) (c m cap cap' : Nat) (v u : Nat → Nat → Int) (x : Iv) (r : Ray) (p : Par) (F : Nat) :
    ansA Try.prog [(10, T7g th)] (orc6 fo bv w w') fns6 F 3 Try.f6 [] [.u (.a (bodyA ad ad' (c + 1) m cap cap' v u x)), rayV r, parV p] =
    preT (c + 1) m v u (bif decide (((c + 1 : Nat) : Int) ≤ 20) then bif !decide ((m : Int) ≤ 20) then tru true else law6 fo bv w w' (c + 1) m v u x r p else tru true) := by kernel_rfl
theorem t60 (th : ThF) (fo : FoF) (bv : Bx → Bool) (w w' : PathF) (ad ad' : Option Addr) (m cap cap' : Nat) (v u : Nat → Nat → Int) (x : Iv) (r : Ray) (p : Par) (F : Nat) :
    ansA Try.prog [(10, T7g th)] (orc6 fo bv w w') fns6 F 3 Try.f6 [] [.u (.a (bodyA ad ad' 0 m cap cap' v u x)), rayV r, parV p] =
    preT 0 m v u (bif !decide ((m : Int) ≤ 20) then tru true else law6 fo bv w w' 0 m v u x r p) := by kernel_rfl
end Go.Proofs.Ytbgdfikfldkjbaa.AI
