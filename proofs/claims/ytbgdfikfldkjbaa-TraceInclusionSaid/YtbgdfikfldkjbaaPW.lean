/- The statement TraceScale, read. -/
import Derived.Test.YtbgdfikfldkjbaaPW0
namespace Go.Proofs.Ytbgdfikfldkjbaa.AI
set_option linter.unnecessarySimpa false
open Go
set_option linter.unusedVariables false
set_option linter.unusedSimpArgs false
noncomputable def all4 : Code := Try.f4.body.getD .skip
noncomputable def pre4 : Code := .seq (fstC all4) (fstC (sndC all4))
noncomputable def few4 : Code := fstC (sndC (sndC all4))
noncomputable def run4 : Code := sndC (sndC (sndC all4))
noncomputable def tail4 : Code := sndC (sndC run4)
noncomputable def body4 : Code := loopOf Try.f4 0
def lv4 : List (Nat × LV) := [(7, ⟨[2, 3, 4, 5, 6], [2, 3, 4, 5], [], none⟩)]
noncomputable def orc4 (hf : HF) (nb : Iv → Bool) (tw : Iv → Iv) : List (FuncId × (List V → Tree)) := [(8, T8), (11, fun args => argsT (fix1 args) (F11g hf)), (15, shT [some 2] (F15 nb)), (16, shT [some 2] (F16 tw))]
noncomputable def fns4 : List (FuncId × Func × List (Nat × LV)) := [(4, Try.f4, lv4), (9, Try.f9, []), (10, Try.f10, lv10)]
noncomputable abbrev code4 {α : Type} (orc : List (FuncId × (List V → Tree))) (F : Nat) (c : Code) : List V → Heap → List Foot → KT α → Option α := codeA Try.prog (env Try.prog orc fns4 F 5) F lv4 c
noncomputable def kfin4 : KT (V × Heap) := fun ex T H L => match ex with
  | .exit _ => none
  | _ => resA Try.prog T H Try.f4.results.toList fun xs => tidyA (resV xs) H fun v H => some (v, H)
def T4p (b : List C) (r : Ray) : List V := TUn 128 [(0, .u (.a b)), (1, rayV r), (2, .u (.c (.ptr 0 0))), (3, .u (.c (.ptr 1 0))), (4, .u (.c (.bool false))), (14, .u (.c (.bool true))), (15, .u (.c (.bool false)))]
theorem e4pre {α : Type} (hf : HF) (nb : Iv → Bool) (tw : Iv → Iv) (ad ad' : Option Addr) (n m cap cap' : Nat) (v u : Nat → Nat → Int) (x : Iv) (r : Ray) (F : Nat) (k : KT α) : code4 (orc4 hf nb tw) F pre4 ([.u (.a (bodyA ad ad' n m cap cap' v u x)), rayV r] ++ undefs 126) [] [] k =
    k .normal (T4p (bodyA ad ad' n m cap cap' v u x) r) [some (.cells (bodyA ad ad' n m cap cap' v u x)), some (.cells (rayC r))] [] := by kernel_rfl
noncomputable def rest4 (call : CallT (V × Heap)) (F : Nat) (b : List C) (r : Ray) (k : KT (V × Heap)) : V → Heap → List Foot → R := fun v H l => regS Try.prog call (opsOf (fstC few4)) ((opsOf (fstC few4)).toList.drop 2) (putT (putT (T4p b r) (some 16) (.u (.a b))) (some 17) v) H (l ++ []) (fun T H L => codeA Try.prog call F lv4 (sndC few4) T H L k)
theorem code_region {α : Type} (P : Program) (call : CallT α) (F : Nat) (lv : List (Nat × LV)) (id : Nat) (ops : Array Oper) (b : Code) (T : List V) (H : Heap) (L : List Foot) (k : KT α) : codeA P call F lv (.seq (.region id ops false) b) T H L k = regS P call ops ops.toList T H L (fun T H L => codeA P call F lv b T H L k) := rfl
theorem few4_eq : few4 = .seq (.region 3 (opsOf (fstC few4)) false) (sndC few4) := by kernel_rfl
theorem few4_step (call : CallT (V × Heap)) (rest : List Oper) (ad ad' : Option Addr) (n m cap cap' : Nat) (v u : Nat → Nat → Int) (x : Iv) (r : Ray) (k : List V → Heap → List Foot → R) : regS Try.prog call (opsOf (fstC few4)) ((opsOf (fstC few4)).toList.take 2 ++ rest) (T4p (bodyA ad ad' n m cap cap' v u x) r) [some (.cells (bodyA ad ad' n m cap cap' v u x)), some (.cells (rayC r))] [] k =
    call 10 [.u (.a (bodyA ad ad' n m cap cap' v u x))] [some (.cells (bodyA ad ad' n m cap cap' v u x)), some (.cells (rayC r))] fun w H l => regS Try.prog call (opsOf (fstC few4)) rest (putT (putT (T4p (bodyA ad ad' n m cap cap' v u x) r) (some 16) (.u (.a (bodyA ad ad' n m cap cap' v u x)))) (some 17) w) H (l ++ []) k := by kernel_rfl
theorem e4few (call : CallT (V × Heap)) (ad ad' : Option Addr) (n m cap cap' : Nat) (v u : Nat → Nat → Int) (x : Iv) (r : Ray) (F : Nat) (k : KT (V × Heap)) : codeA Try.prog call F lv4 few4 (T4p (bodyA ad ad' n m cap cap' v u x) r) [some (.cells (bodyA ad ad' n m cap cap' v u x)), some (.cells (rayC r))] [] k =
    call 10 [.u (.a (bodyA ad ad' n m cap cap' v u x))] [some (.cells (bodyA ad ad' n m cap cap' v u x)), some (.cells (rayC r))] (rest4 call F (bodyA ad ad' n m cap cap' v u x) r k) := by
  refine (congrArg (fun c => codeA Try.prog call F lv4 c (T4p (bodyA ad ad' n m cap cap' v u x) r) [some (.cells (bodyA ad ad' n m cap cap' v u x)), some (.cells (rayC r))] [] k) few4_eq).trans ?_
  refine (code_region _ _ _ _ _ _ _ _ _ _ _).trans ?_
  refine (congrArg (fun l => regS Try.prog call (opsOf (fstC few4)) l (T4p (bodyA ad ad' n m cap cap' v u x) r) [some (.cells (bodyA ad ad' n m cap cap' v u x)), some (.cells (rayC r))] [] (fun T H L => codeA Try.prog call F lv4 (sndC few4) T H L k)) (List.take_append_drop 2 (opsOf (fstC few4)).toList).symm).trans ?_
  exact few4_step call _ ad ad' n m cap cap' v u x r _
theorem env10' {α : Type} (hf : HF) (nb : Iv → Bool) (tw : Iv → Iv) (b : List C) (H : Heap) (F : Nat) (K : V → Heap → List Foot → Option α) : env Try.prog (orc4 hf nb tw) fns4 F 5 10 [.u (.a b)] H K = code10 (env Try.prog (orc4 hf nb tw) fns4 F 4) F all10 ([.u (.a b)] ++ undefs 27) H [] (kfin10 K) := by kernel_rfl
noncomputable def k4 (orc : List (FuncId × (List V → Tree))) (F : Nat) : KT (V × Heap) := fun ex T H L => match ex with
  | .normal => code4 orc F run4 T H L kfin4
  | e => kfin4 e T H L
/-! The doubled body: nrm, dep: its slices. c: its block. -/
def dblC (ad : Option Addr) (n cap : Nat) (v : Nat → Nat → Int) (dep : C) (x : Iv) : List C := [.as ad 6 n cap (arrC 6 v), dep, ci x.lo, ci x.hi]
def HN4 (b : List C) (r : Ray) (o c : List C) : Heap := H10 b r o o ++ [some (.cells o), some (.cells c)]
def HR4 (b : List C) (r : Ray) (o : List C) (n : Nat) (f : Nat → Nat → Int) (c : List C) : Heap := H10 b r o o ++ row10 n f ++ [some (.cells o), some (.cells c)]
def row4 (n : Nat) (f : Nat → Nat → Int) : Heap := [some (.row 25 2 n (arrC 2 f) true)]
def T4 (p : Nat) (i : Int) : List V := TT 128 [(2, .u (.c (.ptr 0 0))), (3, .u (.c (.ptr 1 0))), (4, .u (.c (.bool false))), (5, .u (.c (.ptr p 0))), (6, .u (ui i))]
def T4o (p : Nat) (b : Bool) : List V := TT 128 [(2, .u (.c (.ptr 0 0))), (3, .u (.c (.ptr 1 0))), (4, .u (.c (.bool b))), (5, .u (.c (.ptr p 0)))]
noncomputable abbrev loop4 {α : Type} (orc : List (FuncId × (List V → Tree))) (p F fuel : Nat) (T : List V) (H : Heap) (L : List Foot) (k : KT α) : Option α := loopA p [2, 3, 4, 5, 6] [2, 3, 4, 5] (code4 orc F body4) fuel T H L k
noncomputable def kt4 (orc : List (FuncId × (List V → Tree))) (F : Nat) : KT (V × Heap) := fun ex T H L => match ex with
  | .normal => code4 orc F tail4 T H L kfin4
  | e => kfin4 e T H L
noncomputable def k4o (orc : List (FuncId × (List V → Tree))) (F : Nat) : KT (V × Heap) := fun ex T H L => match ex with
  | .exit i => cond (i == 0) (kt4 orc F .normal T H L) (kt4 orc F (.exit i) T H L)
  | e => kt4 orc F e T H L
theorem entry4n (hf : HF) (nb : Iv → Bool) (tw : Iv → Iv) (ad ad' : Option Addr) (n m cap cap' : Nat) (v u : Nat → Nat → Int) (x : Iv) (r : Ray) (F : Nat) (L : List Foot) : rest4 (env Try.prog (orc4 hf nb tw) fns4 F 5) F (bodyA ad ad' n m cap cap' v u x) r (k4 (orc4 hf nb tw) F) (.u (.a (out10 .nils ad' m cap' u x))) (H10 (bodyA ad ad' n m cap cap' v u x) r (out10 .nils ad' m cap' u x) (out10 .nils ad' m cap' u x)) L =
    bif !decide ((m : Int) ≤ 20) then tru true else bif !nb r.pt.x then tru true else bif !nb r.pt.y then tru true else bif !nb r.pt.z then tru true else
    loop4 (orc4 hf nb tw) 7 F F (T4 6 0) (HN4 (bodyA ad ad' n m cap cap' v u x) r (out10 .nils ad' m cap' u x) (dblC ad n cap v .nils x)) ([.c 6 0 4] ++ (L ++ [])) (k4o (orc4 hf nb tw) F) := by kernel_rfl
theorem entry4r (hf : HF) (nb : Iv → Bool) (tw : Iv → Iv) (ad ad' : Option Addr) (n m cap cap' : Nat) (v u : Nat → Nat → Int) (x : Iv) (r : Ray) (f : Nat → Nat → Int) (F : Nat) (L : List Foot) : rest4 (env Try.prog (orc4 hf nb tw) fns4 F 5) F (bodyA ad ad' n m cap cap' v u x) r (k4 (orc4 hf nb tw) F) (.u (.a (out10 (.row 5 6 0 n true) ad' m cap' u x))) (H10 (bodyA ad ad' n m cap cap' v u x) r (out10 (.row 5 6 0 n true) ad' m cap' u x) (out10 (.row 5 6 0 n true) ad' m cap' u x) ++ row10 n f) L =
    bif decide ((n : Int) ≤ 20) then bif !decide ((m : Int) ≤ 20) then tru true else bif !nb r.pt.x then tru true else bif !nb r.pt.y then tru true else bif !nb r.pt.z then tru true else
    loop4 (orc4 hf nb tw) 8 F F (T4 7 0) (HR4 (bodyA ad ad' n m cap cap' v u x) r (out10 (.row 5 6 0 n true) ad' m cap' u x) n f (dblC ad n cap v .nils x)) ([.c 7 0 4] ++ (L ++ [])) (k4o (orc4 hf nb tw) F) else tru true := by kernel_rfl
theorem step4n0 (hf : HF) (nb : Iv → Bool) (tw : Iv → Iv) (ad ad' : Option Addr) (n m cap cap' : Nat) (v u : Nat → Nat → Int) (x : Iv) (r : Ray) (i : Int) (F fuel : Nat) (L : List Foot) (k : KT (V × Heap)) : loop4 (orc4 hf nb tw) 7 F (fuel + 1) (T4 6 i) (HN4 (bodyA ad ad' n m cap cap' v u x) r (out10 .nils ad' m cap' u x) (dblC ad n cap v .nils x)) L k =
    bif decide (i < m) then bif decide (0 ≤ i) && decide (i < m) then bif !nb (ivOf u i.toNat) then k .ret (T4o 6 true) (HN4 (bodyA ad ad' n m cap cap' v u x) r (out10 .nils ad' m cap' u x) (dblC ad n cap v .nils x)) L else bif decide (0 ≤ i) && decide (i < m) then
      loop4 (orc4 hf nb tw) 7 F fuel (T4 6 (W (i + 1))) ((HN4 (bodyA ad ad' n m cap cap' v u x) r (out10 .nils ad' m cap' u x) (dblC ad n cap v (.row 7 2 0 1 true) x)) ++ row4 1 (fun _ k => bif Nat.beq k 0 then (tw (ivOf u i.toNat)).lo else (tw (ivOf u i.toNat)).hi)) ([.c 6 1 1] ++ L) k else none else none
    else k (.exit 0) (T4o 6 false) (HN4 (bodyA ad ad' n m cap cap' v u x) r (out10 .nils ad' m cap' u x) (dblC ad n cap v .nils x)) L := by kernel_rfl
theorem step4n1 (hf : HF) (nb : Iv → Bool) (tw : Iv → Iv) (ad ad' : Option Addr) (n m cap cap' : Nat) (v u : Nat → Nat → Int) (x : Iv) (r : Ray) (i : Int) (c : Nat) (g : Nat → Nat → Int) (F fuel : Nat) (L : List Foot) (k : KT (V × Heap)) : loop4 (orc4 hf nb tw) 7 F (fuel + 1) (T4 6 i) ((HN4 (bodyA ad ad' n m cap cap' v u x) r (out10 .nils ad' m cap' u x) (dblC ad n cap v (.row 7 2 0 (c + 1) true) x)) ++ row4 (c + 1) g) L k =
    bif decide (i < m) then bif decide (0 ≤ i) && decide (i < m) then bif !nb (ivOf u i.toNat) then k .ret (T4o 6 true) ((HN4 (bodyA ad ad' n m cap cap' v u x) r (out10 .nils ad' m cap' u x) (dblC ad n cap v (.row 7 2 0 (c + 1) true) x)) ++ row4 (c + 1) g) L else bif decide (0 ≤ i) && decide (i < m) then bif decide (c + 1 ≤ c + 1) then bif decide ((c + 1 + 1) * 16 ≤ 140737488355328) && decide (c + 1 + 1 ≤ 140737488355328) then
      loop4 (orc4 hf nb tw) 7 F fuel (T4 6 (W (i + 1))) ((HN4 (bodyA ad ad' n m cap cap' v u x) r (out10 .nils ad' m cap' u x) (dblC ad n cap v (.row 7 2 0 (c + 2) true) x)) ++ row4 (c + 2) (fun j k => bif Nat.blt j (c + 1) then g j k else bif Nat.beq k 0 then (tw (ivOf u i.toNat)).lo else (tw (ivOf u i.toNat)).hi)) ([.c 6 1 1, .r 7] ++ L) k else none else none else none else none
    else k (.exit 0) (T4o 6 false) ((HN4 (bodyA ad ad' n m cap cap' v u x) r (out10 .nils ad' m cap' u x) (dblC ad n cap v (.row 7 2 0 (c + 1) true) x)) ++ row4 (c + 1) g) L := by kernel_rfl
theorem step4r0 (hf : HF) (nb : Iv → Bool) (tw : Iv → Iv) (ad ad' : Option Addr) (n m cap cap' : Nat) (v u : Nat → Nat → Int) (x : Iv) (r : Ray) (f : Nat → Nat → Int) (i : Int) (F fuel : Nat) (L : List Foot) (k : KT (V × Heap)) : loop4 (orc4 hf nb tw) 8 F (fuel + 1) (T4 7 i) (HR4 (bodyA ad ad' n m cap cap' v u x) r (out10 (.row 5 6 0 n true) ad' m cap' u x) n f (dblC ad n cap v .nils x)) L k =
    bif decide (i < m) then bif decide (0 ≤ i) && decide (i < m) then bif !nb (ivOf u i.toNat) then k .ret (T4o 7 true) (HR4 (bodyA ad ad' n m cap cap' v u x) r (out10 (.row 5 6 0 n true) ad' m cap' u x) n f (dblC ad n cap v .nils x)) L else bif decide (0 ≤ i) && decide (i < m) then
      loop4 (orc4 hf nb tw) 8 F fuel (T4 7 (W (i + 1))) ((HR4 (bodyA ad ad' n m cap cap' v u x) r (out10 (.row 5 6 0 n true) ad' m cap' u x) n f (dblC ad n cap v (.row 8 2 0 1 true) x)) ++ row4 1 (fun _ k => bif Nat.beq k 0 then (tw (ivOf u i.toNat)).lo else (tw (ivOf u i.toNat)).hi)) ([.c 7 1 1] ++ L) k else none else none
    else k (.exit 0) (T4o 7 false) (HR4 (bodyA ad ad' n m cap cap' v u x) r (out10 (.row 5 6 0 n true) ad' m cap' u x) n f (dblC ad n cap v .nils x)) L := by kernel_rfl
theorem step4r1 (hf : HF) (nb : Iv → Bool) (tw : Iv → Iv) (ad ad' : Option Addr) (n m cap cap' : Nat) (v u : Nat → Nat → Int) (x : Iv) (r : Ray) (f : Nat → Nat → Int) (i : Int) (c : Nat) (g : Nat → Nat → Int) (F fuel : Nat) (L : List Foot) (k : KT (V × Heap)) : loop4 (orc4 hf nb tw) 8 F (fuel + 1) (T4 7 i) ((HR4 (bodyA ad ad' n m cap cap' v u x) r (out10 (.row 5 6 0 n true) ad' m cap' u x) n f (dblC ad n cap v (.row 8 2 0 (c + 1) true) x)) ++ row4 (c + 1) g) L k =
    bif decide (i < m) then bif decide (0 ≤ i) && decide (i < m) then bif !nb (ivOf u i.toNat) then k .ret (T4o 7 true) ((HR4 (bodyA ad ad' n m cap cap' v u x) r (out10 (.row 5 6 0 n true) ad' m cap' u x) n f (dblC ad n cap v (.row 8 2 0 (c + 1) true) x)) ++ row4 (c + 1) g) L else bif decide (0 ≤ i) && decide (i < m) then bif decide (c + 1 ≤ c + 1) then bif decide ((c + 1 + 1) * 16 ≤ 140737488355328) && decide (c + 1 + 1 ≤ 140737488355328) then
      loop4 (orc4 hf nb tw) 8 F fuel (T4 7 (W (i + 1))) ((HR4 (bodyA ad ad' n m cap cap' v u x) r (out10 (.row 5 6 0 n true) ad' m cap' u x) n f (dblC ad n cap v (.row 8 2 0 (c + 2) true) x)) ++ row4 (c + 2) (fun j k => bif Nat.blt j (c + 1) then g j k else bif Nat.beq k 0 then (tw (ivOf u i.toNat)).lo else (tw (ivOf u i.toNat)).hi)) ([.c 7 1 1, .r 8] ++ L) k else none else none else none else none
    else k (.exit 0) (T4o 7 false) ((HR4 (bodyA ad ad' n m cap cap' v u x) r (out10 (.row 5 6 0 n true) ad' m cap' u x) n f (dblC ad n cap v (.row 8 2 0 (c + 1) true) x)) ++ row4 (c + 1) g) L := by kernel_rfl
end Go.Proofs.Ytbgdfikfldkjbaa.AI
