/- Two texts, laid into one by mkclaim.py. -/
import Derived.Test.YtbgdfikfldkjbaaPL1
import Derived.Test.YtbgdfikfldkjbaaPW
section
/- The statement TraceLight, read. -/
namespace Go.Proofs.Ytbgdfikfldkjbaa.AI
set_option linter.unnecessarySimpa false
open Go
set_option linter.unusedVariables false
set_option linter.unusedSimpArgs false
noncomputable def all7 : Code := Try.f7.body.getD .skip
noncomputable def pre7 : Code := .seq (fstC all7) (fstC (sndC all7))
noncomputable def few7 : Code := fstC (sndC (sndC all7))
noncomputable def tail7 : Code := sndC (sndC (sndC all7))
abbrev PathF := Pth → Pth → Bool
noncomputable def orc7 (fo : FoF) (w sm : PathF) : List (FuncId × (List V → Tree)) := [(8, T8), (17, fun args => argsT args (F17 w)), (22, fun args => argsT args (F22 fo)), (24, fun args => argsT args (F17 sm))]
noncomputable def fns7 : List (FuncId × Func × List (Nat × LV)) := [(7, Try.f7, []), (9, Try.f9, []), (10, Try.f10, lv10), (19, Try.f19, [])]
noncomputable abbrev code7 {α : Type} (orc : List (FuncId × (List V → Tree))) (F : Nat) (c : Code) : List V → Heap → List Foot → KT α → Option α := codeA Try.prog (env Try.prog orc fns7 F 5) F [] c
noncomputable def kfin7 : KT (V × Heap) := fun ex T H L => match ex with
  | .exit _ => none
  | _ => resA Try.prog T H Try.f7.results.toList fun xs => tidyA (resV xs) H fun v H => some (v, H)
def ltV (g : Iv) (k : Int) : V := .u (.a (ltC g k))
def T7p (b : List C) (r : Ray) (lg : Iv) (lk : Int) : List V := TUn 101 [(0, .u (.a b)), (1, rayV r), (2, ltV lg lk), (3, .u (.c (.ptr 0 0))), (4, .u (.c (.ptr 1 0))), (5, .u (.c (.ptr 2 0))), (6, .u (.c (.bool false))), (11, .u (.c (.bool true))), (12, .u (.c (.bool false)))]
def H7p (b : List C) (r : Ray) (lg : Iv) (lk : Int) : Heap := [some (.cells b), some (.cells (rayC r)), some (.cells (ltC lg lk))]
def T7t (b : List C) (r : Ray) (lg : Iv) (lk : Int) (v14 : V) (bb : Bool) : List V := TUn 101 [(0, .u (.a b)), (1, rayV r), (2, ltV lg lk), (3, .u (.c (.ptr 0 0))), (4, .u (.c (.ptr 1 0))), (5, .u (.c (.ptr 2 0))), (6, .u (.c (.bool false))), (11, .u (.c (.bool true))), (12, .u (.c (.bool false))), (13, .u (.a b)), (14, v14), (15, .u (.c (.bool bb))), (16, .u (.c (.bool false)))]
theorem e7pre {α : Type} (fo : FoF) (w sm : PathF) (ad ad' : Option Addr) (n m cap cap' : Nat) (v u : Nat → Nat → Int) (x : Iv) (r : Ray) (lg : Iv) (lk : Int) (F : Nat) (k : KT α) : code7 (orc7 fo w sm) F pre7 ([.u (.a (bodyA ad ad' n m cap cap' v u x)), rayV r, ltV lg lk] ++ undefs 98) [] [] k =
    k .normal (T7p (bodyA ad ad' n m cap cap' v u x) r lg lk) (H7p (bodyA ad ad' n m cap cap' v u x) r lg lk) [] := by kernel_rfl
noncomputable def rest7 (call : CallT (V × Heap)) (F : Nat) (b : List C) (r : Ray) (lg : Iv) (lk : Int) (k : KT (V × Heap)) : V → Heap → List Foot → R := fun v H l => regS Try.prog call (opsOf (fstC few7)) ((opsOf (fstC few7)).toList.drop 2) (putT (putT (T7p b r lg lk) (some 13) (.u (.a b))) (some 14) v) H (l ++ []) (fun T H L => codeA Try.prog call F [] (sndC few7) T H L k)
theorem few7_eq : few7 = .seq (.region 3 (opsOf (fstC few7)) false) (sndC few7) := by kernel_rfl
theorem few7_step (call : CallT (V × Heap)) (rest : List Oper) (ad ad' : Option Addr) (n m cap cap' : Nat) (v u : Nat → Nat → Int) (x : Iv) (r : Ray) (lg : Iv) (lk : Int) (k : List V → Heap → List Foot → R) : regS Try.prog call (opsOf (fstC few7)) ((opsOf (fstC few7)).toList.take 2 ++ rest) (T7p (bodyA ad ad' n m cap cap' v u x) r lg lk) (H7p (bodyA ad ad' n m cap cap' v u x) r lg lk) [] k =
    call 10 [.u (.a (bodyA ad ad' n m cap cap' v u x))] (H7p (bodyA ad ad' n m cap cap' v u x) r lg lk) fun w H l => regS Try.prog call (opsOf (fstC few7)) rest (putT (putT (T7p (bodyA ad ad' n m cap cap' v u x) r lg lk) (some 13) (.u (.a (bodyA ad ad' n m cap cap' v u x)))) (some 14) w) H (l ++ []) k := by kernel_rfl
theorem e7few (call : CallT (V × Heap)) (ad ad' : Option Addr) (n m cap cap' : Nat) (v u : Nat → Nat → Int) (x : Iv) (r : Ray) (lg : Iv) (lk : Int) (F : Nat) (k : KT (V × Heap)) : codeA Try.prog call F [] few7 (T7p (bodyA ad ad' n m cap cap' v u x) r lg lk) (H7p (bodyA ad ad' n m cap cap' v u x) r lg lk) [] k =
    call 10 [.u (.a (bodyA ad ad' n m cap cap' v u x))] (H7p (bodyA ad ad' n m cap cap' v u x) r lg lk) (rest7 call F (bodyA ad ad' n m cap cap' v u x) r lg lk k) := by
  refine (congrArg (fun c => codeA Try.prog call F [] c (T7p (bodyA ad ad' n m cap cap' v u x) r lg lk) (H7p (bodyA ad ad' n m cap cap' v u x) r lg lk) [] k) few7_eq).trans ?_
  refine (code_region _ _ _ _ _ _ _ _ _ _ _).trans ?_
  refine (congrArg (fun l => regS Try.prog call (opsOf (fstC few7)) l (T7p (bodyA ad ad' n m cap cap' v u x) r lg lk) (H7p (bodyA ad ad' n m cap cap' v u x) r lg lk) [] (fun T H L => codeA Try.prog call F [] (sndC few7) T H L k)) (List.take_append_drop 2 (opsOf (fstC few7)).toList).symm).trans ?_
  exact few7_step call _ ad ad' n m cap cap' v u x r lg lk _
theorem env107 {α : Type} (fo : FoF) (w sm : PathF) (b : List C) (H : Heap) (F : Nat) (K : V → Heap → List Foot → Option α) : env Try.prog (orc7 fo w sm) fns7 F 5 10 [.u (.a b)] H K = code10 (env Try.prog (orc7 fo w sm) fns7 F 4) F all10 ([.u (.a b)] ++ undefs 27) H [] (kfin10 K) := by kernel_rfl
noncomputable def k7 (X : List V → Heap → List Foot → R) : KT (V × Heap) := fun ex T H L => match ex with
  | .normal => X T H L
  | e => kfin7 e T H L
theorem e7n (fo : FoF) (w sm : PathF) (ad ad' : Option Addr) (n m cap cap' : Nat) (v u : Nat → Nat → Int) (x : Iv) (r : Ray) (lg : Iv) (lk : Int) (F : Nat) (X : List V → Heap → List Foot → R) (L : List Foot) : rest7 (env Try.prog (orc7 fo w sm) fns7 F 5) F (bodyA ad ad' n m cap cap' v u x) r lg lk (k7 X) (.u (.a (out10 .nils ad' m cap' u x))) (H10L (bodyA ad ad' n m cap cap' v u x) r lg lk (out10 .nils ad' m cap' u x) (out10 .nils ad' m cap' u x)) L =
    bif !decide ((m : Int) ≤ 20) then tru true else X (T7t (bodyA ad ad' n m cap cap' v u x) r lg lk (.u (.a (out10 .nils ad' m cap' u x))) (decide ((m : Int) ≤ 20))) (H10L (bodyA ad ad' n m cap cap' v u x) r lg lk (out10 .nils ad' m cap' u x) (out10 .nils ad' m cap' u x) ++ [some (.cells (out10 .nils ad' m cap' u x))]) (L ++ []) := by kernel_rfl
theorem e7r (fo : FoF) (w sm : PathF) (ad ad' : Option Addr) (n m cap cap' : Nat) (v u : Nat → Nat → Int) (x : Iv) (r : Ray) (lg : Iv) (lk : Int) (F : Nat) (f : Nat → Nat → Int) (X : List V → Heap → List Foot → R) (L : List Foot) : rest7 (env Try.prog (orc7 fo w sm) fns7 F 5) F (bodyA ad ad' n m cap cap' v u x) r lg lk (k7 X) (.u (.a (out10 (.row 6 6 0 n true) ad' m cap' u x))) (H10L (bodyA ad ad' n m cap cap' v u x) r lg lk (out10 (.row 6 6 0 n true) ad' m cap' u x) (out10 (.row 6 6 0 n true) ad' m cap' u x) ++ row10 n f) L =
    bif decide ((n : Int) ≤ 20) then bif !decide ((m : Int) ≤ 20) then tru true else X (T7t (bodyA ad ad' n m cap cap' v u x) r lg lk (.u (.a (out10 (.row 6 6 0 n true) ad' m cap' u x))) (decide ((m : Int) ≤ 20))) (H10L (bodyA ad ad' n m cap cap' v u x) r lg lk (out10 (.row 6 6 0 n true) ad' m cap' u x) (out10 (.row 6 6 0 n true) ad' m cap' u x) ++ row10 n f ++ [some (.cells (out10 (.row 6 6 0 n true) ad' m cap' u x))]) (L ++ [])
    else tru true := by kernel_rfl
end Go.Proofs.Ytbgdfikfldkjbaa.AI
end
section
/- Two texts, laid into one by mkclaim.py. -/
section
/- The statement TraceLight: its end. -/
namespace Go.Proofs.Ytbgdfikfldkjbaa.AI
set_option linter.unnecessarySimpa false
open Go
set_option linter.unusedVariables false
set_option linter.unusedSimpArgs false
/-- A path, read from an own slice. -/
def Pth.row (p : Pth) : Pth := ⟨p.kd, p.n, numOf fun j => arrC 1 p.v (0 + j), p.o, p.g⟩
/-- Two paths are handed on. -/
def two7 (p q : Pth) (X : R) : R := bif decide (0 + p.n ≤ p.n) then bif decide (0 + q.n ≤ q.n) then bif allN (fun j => isInts 1 (arrC 1 p.v (0 + j))) p.n then bif allN (fun j => isInts 1 (arrC 1 q.v (0 + j))) q.n then bif decide (p.n ≤ 200) && decide (q.n ≤ 200) then X else none else none else none else none else none
def end7 (n m : Nat) (v u : Nat → Nat → Int) (w sm : PathF) (lk : Int) (p : Pth) (e : Er Pth) : R :=
  pre22 n m v u (bif okE e then two7 (getE p0 e) p (bif w (getE p0 e).row p.row then bif decide (p.kd = 3) then tru true else two7 p (getE p0 e) (tru (sm p.row (getE p0 e).row)) else tru false)
    else bif decide (Int.ofNat (erE e + 1) = 2) then tru (decide (lk = 20)) else tru false)
def mid7 (n m : Nat) (v u : Nat → Nat → Int) (w sm : PathF) (lg : Iv) (lk : Int) (d e : Er Pth) : R :=
  pre22 n m v u (bif okE d then bif decide ((getE p0 d).g.lo < 0) then tru false else bif decide (lg.hi < (getE p0 d).g.hi) then tru false else bif decide ((getE p0 d).kd < 1) then tru false else bif decide (3 < (getE p0 d).kd) then tru false else
    bif !decide ((getE p0 d).kd = 3) then bif decide (W (lk + 1) < ((getE p0 d).n : Int)) then tru false else end7 n m v u w sm lk (getE p0 d) e else end7 n m v u w sm lk (getE p0 d) e
  else tru true)
theorem t7n (fo : FoF) (w sm : PathF) (ad ad' : Option Addr) (n m cap cap' : Nat) (v u : Nat → Nat → Int) (x : Iv) (r : Ray) (lg : Iv) (lk : Int) (F : Nat) (z o : List C) (B5 : Option Blk) (v14 : V) (bb : Bool) (L : List Foot) : code7 (orc7 fo w sm) F tail7 (T7t (bodyA ad ad' n m cap cap' v u x) r lg lk v14 bb) (H10L (bodyA ad ad' n m cap cap' v u x) r lg lk z o ++ [B5]) L kfin7 =
    mid7 n m v u w sm lg lk (fo n m (numOf (arrC 6 v)) (numOf (arrC 2 u)) x r lg lk) (fo n m (numOf (arrC 6 v)) (numOf (arrC 2 u)) x r lg (W (lk + 1))) := by kernel_rfl
theorem t7r (fo : FoF) (w sm : PathF) (ad ad' : Option Addr) (n m cap cap' : Nat) (v u : Nat → Nat → Int) (x : Iv) (r : Ray) (lg : Iv) (lk : Int) (F : Nat) (z o : List C) (B5 B6 : Option Blk) (v14 : V) (bb : Bool) (L : List Foot) : code7 (orc7 fo w sm) F tail7 (T7t (bodyA ad ad' n m cap cap' v u x) r lg lk v14 bb) (H10L (bodyA ad ad' n m cap cap' v u x) r lg lk z o ++ [B5] ++ [B6]) L kfin7 =
    mid7 n m v u w sm lg lk (fo n m (numOf (arrC 6 v)) (numOf (arrC 2 u)) x r lg lk) (fo n m (numOf (arrC 6 v)) (numOf (arrC 2 u)) x r lg (W (lk + 1))) := by kernel_rfl
end Go.Proofs.Ytbgdfikfldkjbaa.AI
end
section
/- TraceLight: what its text answers, from what its end answers. -/
namespace Go.Proofs.Ytbgdfikfldkjbaa.AI
set_option linter.unnecessarySimpa false
open Go
set_option linter.unusedVariables false
set_option linter.unusedSimpArgs false
theorem all7_eq : all7 = .seq (fstC all7) (.seq (fstC (sndC all7)) (.seq few7 tail7)) := by kernel_rfl
theorem ans7 (fo : FoF) (w sm : PathF) (b : List C) (r : Ray) (lg : Iv) (lk : Int) (F : Nat) : ans Try.prog (orc7 fo w sm) fns7 F 6 7 [.u (.a b), rayV r, ltV lg lk] = code7 (orc7 fo w sm) F all7 ([.u (.a b), rayV r, ltV lg lk] ++ undefs 98) [] [] kfin7 := by kernel_rfl
theorem light_code (fo : FoF) (w sm : PathF) (ad ad' : Option Addr) (n m cap cap' : Nat) (v u : Nat → Nat → Int) (x : Iv) (r : Ray) (lg : Iv) (lk : Int) (F : Nat) (hn : n * 48 ≤ 140737488351232) (hF : n < F)
    (ha : mid7 n m v u w sm lg lk (fo n m (numOf (arrC 6 v)) (numOf (arrC 2 u)) x r lg lk) (fo n m (numOf (arrC 6 v)) (numOf (arrC 2 u)) x r lg (W (lk + 1))) = tru true) : ans Try.prog (orc7 fo w sm) fns7 F 6 7 [.u (.a (bodyA ad ad' n m cap cap' v u x)), rayV r, ltV lg lk] = tru true := by
  rw [ans7, all7_eq]
  refine (codeA_assoc (P := Try.prog) (call := env Try.prog (orc7 fo w sm) fns7 F 5) (fuel := F) (lvs := []) (fstC all7) (fstC (sndC all7)) (.seq few7 tail7) ([.u (.a (bodyA ad ad' n m cap cap' v u x)), rayV r, ltV lg lk] ++ undefs 98) [] [] kfin7).trans ?_
  have h1 := fun k : KT (V × Heap) => e7pre fo w sm ad ad' n m cap cap' v u x r lg lk F k
  refine (show code7 (orc7 fo w sm) F (.seq pre7 (.seq few7 tail7)) _ [] [] kfin7 = _ from h1 _).trans ?_
  refine (show code7 (orc7 fo w sm) F (.seq few7 tail7) _ _ [] kfin7 = code7 (orc7 fo w sm) F few7 _ _ [] (k7 (fun T H L => code7 (orc7 fo w sm) F tail7 T H L kfin7)) from rfl).trans ?_
  refine (e7few _ ad ad' n m cap cap' v u x r lg lk F _).trans ?_
  refine (env107 fo w sm (bodyA ad ad' n m cap cap' v u x) _ F _).trans ?_
  rw [all10_eq]
  refine (codeA_assoc _ _ _ _ _ _ _).trans ?_
  refine (codeA_assoc _ _ _ _ _ _ _).trans ?_
  refine theirs_runL (env Try.prog (orc7 fo w sm) fns7 F 4) ad ad' n m cap cap' v u x r lg lk hn F hF _ (tru true) (fun hz L => ?_) (fun hz f L => ?_) []
  · refine (e7n fo w sm ad ad' n m cap cap' v u x r lg lk F _ L).trans ?_
    cases hm : decide ((m : Int) ≤ 20)
    · exact bnt _ _
    · refine (bnf _ _).trans ?_
      exact (t7n fo w sm ad ad' n m cap cap' v u x r lg lk F _ _ _ _ _ _).trans ha
  · refine (e7r fo w sm ad ad' n m cap cap' v u x r lg lk F f _ L).trans ?_
    cases hnn : decide ((n : Int) ≤ 20)
    · exact bft _ _
    · refine (btt _ _).trans ?_
      cases hm : decide ((m : Int) ≤ 20)
      · exact bnt _ _
      · refine (bnf _ _).trans ?_
        exact (t7r fo w sm ad ad' n m cap cap' v u x r lg lk F _ _ _ _ _ _ _).trans ha
end Go.Proofs.Ytbgdfikfldkjbaa.AI
end
end
