/- The statement TraceLight, read. -/
import Derived.Test.YtbgdfikfldkjbaaPL1
import Derived.Test.YtbgdfikfldkjbaaPW
namespace Go.Proofs.Ytbgdfikfldkjbaa.AI
set_option linter.unnecessarySimpa false
open Go
set_option linter.unusedVariables false
set_option linter.unusedSimpArgs false
noncomputable def all7 : Code := Try.f7.body.getD .skip
noncomputable def pre7 : Code := .seq (fstC all7) (fstC (sndC all7))
noncomputable def few7 : Code := fstC (sndC (sndC all7))
noncomputable def tail7 : Code := sndC (sndC (sndC all7))
abbrev PathF := Pth → Pth → Bool
noncomputable def orc7 (fo : FoF) (w sm : PathF) : List (FuncId × (List V → Tree)) := [(8, T8), (17, fun args => argsT args (F17 w)), (22, fun args => argsT args (F22 fo)), (24, fun args => argsT args (F17 sm))]
noncomputable def fns7 : List (FuncId × Func × List (Nat × LV)) := [(7, Try.f7, []), (9, Try.f9, []), (10, Try.f10, lv10), (19, Try.f19, [])]
noncomputable abbrev code7 {α : Type} (orc : List (FuncId × (List V → Tree))) (F : Nat) (c : Code) : List V → Heap → List Foot → KT α → Option α := codeA Try.prog (env Try.prog orc fns7 F 5) F [] c
noncomputable def kfin7 : KT (V × Heap) := fun ex T H L => match ex with
  | .exit _ => none
  | _ => resA Try.prog T H Try.f7.results.toList fun xs => tidyA (resV xs) H fun v H => some (v, H)
def ltV (g : Iv) (k : Int) : V := .u (.a (ltC g k))
def T7p (b : List C) (r : Ray) (lg : Iv) (lk : Int) : List V := TUn 101 [(0, .u (.a b)), (1, rayV r), (2, ltV lg lk), (3, .u (.c (.ptr 0 0))), (4, .u (.c (.ptr 1 0))), (5, .u (.c (.ptr 2 0))), (6, .u (.c (.bool false))), (11, .u (.c (.bool true))), (12, .u (.c (.bool false)))]
def H7p (b : List C) (r : Ray) (lg : Iv) (lk : Int) : Heap := [some (.cells b), some (.cells (rayC r)), some (.cells (ltC lg lk))]
def T7t (b : List C) (r : Ray) (lg : Iv) (lk : Int) (v14 : V) (bb : Bool) : List V := TUn 101 [(0, .u (.a b)), (1, rayV r), (2, ltV lg lk), (3, .u (.c (.ptr 0 0))), (4, .u (.c (.ptr 1 0))), (5, .u (.c (.ptr 2 0))), (6, .u (.c (.bool false))), (11, .u (.c (.bool true))), (12, .u (.c (.bool false))), (13, .u (.a b)), (14, v14), (15, .u (.c (.bool bb))), (16, .u (.c (.bool false)))]
theorem e7pre {α : Type} (fo : FoF) (w sm : PathF) (ad ad' : Option Addr) (n m cap cap' : Nat) (v u : Nat → Nat → Int) (x : Iv) (r : Ray) (lg : Iv) (lk : Int) (F : Nat) (k : KT α) : code7 (orc7 fo w sm) F pre7 ([.u (.a (bodyA ad ad' n m cap cap' v u x)), rayV r, ltV lg lk] ++ undefs 98) [] [] k =
    k .normal (T7p (bodyA ad ad' n m cap cap' v u x) r lg lk) (H7p (bodyA ad ad' n m cap cap' v u x) r lg lk) [] := by kernel_rfl
noncomputable def rest7 (call : CallT (V × Heap)) (F : Nat) (b : List C) (r : Ray) (lg : Iv) (lk : Int) (k : KT (V × Heap)) : V → Heap → List Foot → R := fun v H l => regS Try.prog call (opsOf (fstC few7)) ((opsOf (fstC few7)).toList.drop 2) (putT (putT (T7p b r lg lk) (some 13) (.u (.a b))) (some 14) v) H (l ++ []) (fun T H L => codeA Try.prog call F [] (sndC few7) T H L k)
theorem few7_eq : few7 = .seq (.region 3 (opsOf (fstC few7)) false) (sndC few7) := by kernel_rfl
theorem few7_step (call : CallT (V × Heap)) (rest : List Oper) (ad ad' : Option Addr) (n m cap cap' : Nat) (v u : Nat → Nat → Int) (x : Iv) (r : Ray) (lg : Iv) (lk : Int) (k : List V → Heap → List Foot → R) : regS Try.prog call (opsOf (fstC few7)) ((opsOf (fstC few7)).toList.take 2 ++ rest) (T7p (bodyA ad ad' n m cap cap' v u x) r lg lk) (H7p (bodyA ad ad' n m cap cap' v u x) r lg lk) [] k =
    call 10 [.u (.a (bodyA ad ad' n m cap cap' v u x))] (H7p (bodyA ad ad' n m cap cap' v u x) r lg lk) fun w H l => regS Try.prog call (opsOf (fstC few7)) rest (putT (putT (T7p (bodyA ad ad' n m cap cap' v u x) r lg lk) (some 13) (.u (.a (bodyA ad ad' n m cap cap' v u x)))) (some 14) w) H (l ++ []) k := by kernel_rfl
theorem e7few (call : CallT (V × Heap)) (ad ad' : Option Addr) (n m cap cap' : Nat) (v u : Nat → Nat → Int) (x : Iv) (r : Ray) (lg : Iv) (lk : Int) (F : Nat) (k : KT (V × Heap)) : codeA Try.prog call F [] few7 (T7p (bodyA ad ad' n m cap cap' v u x) r lg lk) (H7p (bodyA ad ad' n m cap cap' v u x) r lg lk) [] k =
    call 10 [.u (.a (bodyA ad ad' n m cap cap' v u x))] (H7p (bodyA ad ad' n m cap cap' v u x) r lg lk) (rest7 call F (bodyA ad ad' n m cap cap' v u x) r lg lk k) := by
  refine (congrArg (fun c => codeA Try.prog call F [] c (T7p (bodyA ad ad' n m cap cap' v u x) r lg lk) (H7p (bodyA ad ad' n m cap cap' v u x) r lg lk) [] k) few7_eq).trans ?_
  refine (code_region _ _ _ _ _ _ _ _ _ _ _).trans ?_
  refine (congrArg (fun l => regS Try.prog call (opsOf (fstC few7)) l (T7p (bodyA ad ad' n m cap cap' v u x) r lg lk) (H7p (bodyA ad ad' n m cap cap' v u x) r lg lk) [] (fun T H L => codeA Try.prog call F [] (sndC few7) T H L k)) (List.take_append_drop 2 (opsOf (fstC few7)).toList).symm).trans ?_
  exact few7_step call _ ad ad' n m cap cap' v u x r lg lk _
theorem env107 {α : Type} (fo : FoF) (w sm : PathF) (b : List C) (H : Heap) (F : Nat) (K : V → Heap → List Foot → Option α) : env Try.prog (orc7 fo w sm) fns7 F 5 10 [.u (.a b)] H K = code10 (env Try.prog (orc7 fo w sm) fns7 F 4) F all10 ([.u (.a b)] ++ undefs 27) H [] (kfin10 K) := by kernel_rfl
noncomputable def k7 (X : List V → Heap → List Foot → R) : KT (V × Heap) := fun ex T H L => match ex with
  | .normal => X T H L
  | e => kfin7 e T H L
theorem e7n (fo : FoF) (w sm : PathF) (ad ad' : Option Addr) (n m cap cap' : Nat) (v u : Nat → Nat → Int) (x : Iv) (r : Ray) (lg : Iv) (lk : Int) (F : Nat) (X : List V → Heap → List Foot → R) (L : List Foot) : rest7 (env Try.prog (orc7 fo w sm) fns7 F 5) F (bodyA ad ad' n m cap cap' v u x) r lg lk (k7 X) (.u (.a (out10 .nils ad' m cap' u x))) (H10L (bodyA ad ad' n m cap cap' v u x) r lg lk (out10 .nils ad' m cap' u x) (out10 .nils ad' m cap' u x)) L =
    bif !decide ((m : Int) ≤ 20) then tru true else X (T7t (bodyA ad ad' n m cap cap' v u x) r lg lk (.u (.a (out10 .nils ad' m cap' u x))) (decide ((m : Int) ≤ 20))) (H10L (bodyA ad ad' n m cap cap' v u x) r lg lk (out10 .nils ad' m cap' u x) (out10 .nils ad' m cap' u x) ++ [some (.cells (out10 .nils ad' m cap' u x))]) (L ++ []) := by kernel_rfl
theorem e7r (fo : FoF) (w sm : PathF) (ad ad' : Option Addr) (n m cap cap' : Nat) (v u : Nat → Nat → Int) (x : Iv) (r : Ray) (lg : Iv) (lk : Int) (F : Nat) (f : Nat → Nat → Int) (X : List V → Heap → List Foot → R) (L : List Foot) : rest7 (env Try.prog (orc7 fo w sm) fns7 F 5) F (bodyA ad ad' n m cap cap' v u x) r lg lk (k7 X) (.u (.a (out10 (.row 6 6 0 n true) ad' m cap' u x))) (H10L (bodyA ad ad' n m cap cap' v u x) r lg lk (out10 (.row 6 6 0 n true) ad' m cap' u x) (out10 (.row 6 6 0 n true) ad' m cap' u x) ++ row10 n f) L =
    bif decide ((n : Int) ≤ 20) then bif !decide ((m : Int) ≤ 20) then tru true else X (T7t (bodyA ad ad' n m cap cap' v u x) r lg lk (.u (.a (out10 (.row 6 6 0 n true) ad' m cap' u x))) (decide ((m : Int) ≤ 20))) (H10L (bodyA ad ad' n m cap cap' v u x) r lg lk (out10 (.row 6 6 0 n true) ad' m cap' u x) (out10 (.row 6 6 0 n true) ad' m cap' u x) ++ row10 n f ++ [some (.cells (out10 (.row 6 6 0 n true) ad' m cap' u x))]) (L ++ [])
    else tru true := by kernel_rfl
end Go.Proofs.Ytbgdfikfldkjbaa.AI
