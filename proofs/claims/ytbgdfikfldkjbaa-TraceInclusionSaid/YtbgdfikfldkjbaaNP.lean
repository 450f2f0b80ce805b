/- The statement TracePoint, read: what comes behind its guard. -/
import Derived.Test.YtbgdfikfldkjbaaNH3
namespace Go.Proofs.Ytbgdfikfldkjbaa.AI
set_option linter.unnecessarySimpa false
open Go
set_option linter.unusedVariables false
set_option linter.unusedSimpArgs false
def opsOf : Code → Array Oper
  | .region _ ops _ => ops
  | _ => #[]
def bodyA (ad ad' : Option Addr) (n m cap cap' : Nat) (v u : Nat → Nat → Int) (x : Iv) : List C := [.as ad 6 n cap (arrC 6 v), .as ad' 2 m cap' (arrC 2 u), .int .i64 x.lo, .int .i64 x.hi]
/-! culetlaw31.Theirs, called with a body where two blocks lie already. -/
noncomputable def body10 : Code := loopOf Try.f10 0
noncomputable def all10 : Code := Try.f10.body.getD .skip
noncomputable def tail10 : Code := sndC (sndC (sndC all10))
noncomputable def pre10 : Code := .seq (.seq (fstC all10) (fstC (sndC all10))) (fstC (sndC (sndC all10)))
def lv10 : List (Nat × LV) := [(3, ⟨[1, 2, 3, 4], [1, 2, 3], [], none⟩)]
def T10 (i : Int) : List V := TT 28 [(1, .u (.c (.ptr 2 0))), (2, .u (.c (.ptr 3 0))), (3, .u (.c (.ptr 4 0))), (4, .u (ui i))]
def T10o : List V := TT 28 [(1, .u (.c (.ptr 2 0))), (2, .u (.c (.ptr 3 0))), (3, .u (.c (.ptr 4 0)))]
/-- out: what has come. -/
def H10 (b : List C) (r : Ray) (z out : List C) : Heap := [some (.cells b), some (.cells (rayC r)), some (.cells b), some (.cells z), some (.cells out)]
def z10 : List C := [.nils, .nils, ci 0, ci 0]
def out10 (c : C) (ad' : Option Addr) (m cap' : Nat) (u : Nat → Nat → Int) (x : Iv) : List C := [c, .as ad' 2 m cap' (arrC 2 u), ci x.lo, ci x.hi]
def row10 (n : Nat) (f : Nat → Nat → Int) : Heap := [some (.row 41 6 n (arrC 6 f) true)]
noncomputable abbrev code10 {α : Type} (call : CallT α) (F : Nat) (c : Code) : List V → Heap → List Foot → KT α → Option α := codeA Try.prog call F lv10 c
noncomputable abbrev loop10 {α : Type} (call : CallT α) (F fuel : Nat) (T : List V) (H : Heap) (L : List Foot) (k : KT α) : Option α := loopA 5 [1, 2, 3, 4] [1, 2, 3] (code10 call F body10) fuel T H L k
theorem step10n {α : Type} (call : CallT α) (ad ad' : Option Addr) (n m cap cap' : Nat) (v u : Nat → Nat → Int) (x : Iv) (r : Ray) (i : Int) (F fuel : Nat) (L : List Foot) (k : KT α) : loop10 call F (fuel + 1) (T10 i) (H10 (bodyA ad ad' n m cap cap' v u x) r z10 (out10 .nils ad' m cap' u x)) L k =
    bif decide (i < n) then bif decide (0 ≤ i) && decide (i < n) then loop10 call F fuel (T10 (W (i + 1))) (H10 (bodyA ad ad' n m cap cap' v u x) r z10 (out10 (.row 5 6 0 1 true) ad' m cap' u x) ++ row10 1 (fun _ k => v i.toNat k)) ([.c 4 0 1] ++ L) k else none
    else k (.exit 0) T10o (H10 (bodyA ad ad' n m cap cap' v u x) r z10 (out10 .nils ad' m cap' u x)) L := by kernel_rfl
theorem step10r {α : Type} (call : CallT α) (ad ad' : Option Addr) (n m cap cap' : Nat) (v u : Nat → Nat → Int) (x : Iv) (r : Ray) (i : Int) (c : Nat) (f : Nat → Nat → Int) (F fuel : Nat) (L : List Foot) (k : KT α) : loop10 call F (fuel + 1) (T10 i) (H10 (bodyA ad ad' n m cap cap' v u x) r z10 (out10 (.row 5 6 0 (c + 1) true) ad' m cap' u x) ++ row10 (c + 1) f) L k =
    bif decide (i < n) then bif decide (0 ≤ i) && decide (i < n) then bif decide (c + 1 ≤ c + 1) then bif decide ((c + 1 + 1) * 48 ≤ 140737488355328) && decide (c + 1 + 1 ≤ 140737488355328) then
      loop10 call F fuel (T10 (W (i + 1))) (H10 (bodyA ad ad' n m cap cap' v u x) r z10 (out10 (.row 5 6 0 (c + 2) true) ad' m cap' u x) ++ row10 (c + 2) (fun j k => bif Nat.blt j (c + 1) then f j k else v i.toNat k)) ([.c 4 0 1, .r 5] ++ L) k else none else none else none
    else k (.exit 0) T10o (H10 (bodyA ad ad' n m cap cap' v u x) r z10 (out10 (.row 5 6 0 (c + 1) true) ad' m cap' u x) ++ row10 (c + 1) f) L := by kernel_rfl
theorem entry10 {α : Type} (call : CallT α) (ad ad' : Option Addr) (n m cap cap' : Nat) (v u : Nat → Nat → Int) (x : Iv) (r : Ray) (F : Nat) (L : List Foot) (k : KT α) : code10 call F pre10 ([.u (.a (bodyA ad ad' n m cap cap' v u x))] ++ undefs 27) [some (.cells (bodyA ad ad' n m cap cap' v u x)), some (.cells (rayC r))] L k =
    loop10 call F F (T10 0) (H10 (bodyA ad ad' n m cap cap' v u x) r z10 (out10 .nils ad' m cap' u x)) ([.c 4 0 4] ++ L) (fun ex T H L => match ex with
      | .exit i => cond (i == 0) (k .normal T H L) (k (.exit i) T H L)
      | e => k e T H L) := by kernel_rfl
noncomputable def kfin10 {α : Type} (K : V → Heap → List Foot → Option α) : KT α := fun ex T H L => match ex with
  | .exit _ => none
  | _ => resA Try.prog T H Try.f10.results.toList fun xs => K (resV xs) H L
theorem a10n {α : Type} (call : CallT α) (ad ad' : Option Addr) (n m cap cap' : Nat) (v u : Nat → Nat → Int) (x : Iv) (r : Ray) (F : Nat) (L : List Foot) (K : V → Heap → List Foot → Option α) : code10 call F tail10 T10o (H10 (bodyA ad ad' n m cap cap' v u x) r z10 (out10 .nils ad' m cap' u x)) L (kfin10 K) =
    K (.u (.a (out10 .nils ad' m cap' u x))) (H10 (bodyA ad ad' n m cap cap' v u x) r (out10 .nils ad' m cap' u x) (out10 .nils ad' m cap' u x)) ([.c 3 0 4] ++ L) := by kernel_rfl
theorem a10r {α : Type} (call : CallT α) (ad ad' : Option Addr) (n m cap cap' : Nat) (v u : Nat → Nat → Int) (x : Iv) (r : Ray) (c : Nat) (f : Nat → Nat → Int) (F : Nat) (L : List Foot) (K : V → Heap → List Foot → Option α) : code10 call F tail10 T10o (H10 (bodyA ad ad' n m cap cap' v u x) r z10 (out10 (.row 5 6 0 (c + 1) true) ad' m cap' u x) ++ row10 (c + 1) f) L (kfin10 K) =
    K (.u (.a (out10 (.row 5 6 0 (c + 1) true) ad' m cap' u x))) (H10 (bodyA ad ad' n m cap cap' v u x) r (out10 (.row 5 6 0 (c + 1) true) ad' m cap' u x) (out10 (.row 5 6 0 (c + 1) true) ad' m cap' u x) ++ row10 (c + 1) f) ([.c 3 0 4] ++ L) := by kernel_rfl

theorem exit0 {α : Type} (k : KT α) (T : List V) (H : Heap) (L : List Foot) : (match Ex.exit 0 with
      | .exit i => cond (i == 0) (k .normal T H L) (k (.exit i) T H L)
      | e => k e T H L) = k .normal T H L := rfl
theorem run10r {α : Type} (call : CallT α) (ad ad' : Option Addr) (n m cap cap' : Nat) (v u : Nat → Nat → Int) (x : Iv) (r : Ray) (hn : n * 48 ≤ 140737488351232) (F : Nat) : ∀ (j c fuel : Nat) (f : Nat → Nat → Int) (L : List Foot), c + 1 + j = n → j < fuel → ∃ f' L', ∀ K : KT α,
    loop10 call F fuel (T10 (c + 1 : Nat)) (H10 (bodyA ad ad' n m cap cap' v u x) r z10 (out10 (.row 5 6 0 (c + 1) true) ad' m cap' u x) ++ row10 (c + 1) f) L K = K (.exit 0) T10o (H10 (bodyA ad ad' n m cap cap' v u x) r z10 (out10 (.row 5 6 0 n true) ad' m cap' u x) ++ row10 n f') L'
  | 0, c, fuel + 1, f, L, h, _ => by
    obtain rfl : c + 1 = n := by omega
    exact ⟨f, L, fun K => by rw [step10r, decide_eq_false (show ¬ (((c + 1 : Nat) : Int) < ((c + 1 : Nat) : Int)) by omega)]; rfl⟩
  | j + 1, c, fuel + 1, f, L, h, hf => by
    obtain ⟨f', L', ih⟩ := run10r call ad ad' n m cap cap' v u x r hn F j (c + 1) fuel (fun j k => bif Nat.blt j (c + 1) then f j k else v (((c + 1 : Nat) : Int)).toNat k) ([.c 4 0 1, .r 5] ++ L) (by omega) (by omega)
    refine ⟨f', L', fun K => ?_⟩
    rw [step10r, decide_eq_true (show (((c + 1 : Nat) : Int) < (n : Int)) by omega), decide_eq_true (show ((0 : Int) ≤ ((c + 1 : Nat) : Int)) by omega), decide_eq_true (Nat.le_refl (c + 1)),
      decide_eq_true (show (c + 1 + 1) * 48 ≤ 140737488355328 by omega), decide_eq_true (show c + 1 + 1 ≤ 140737488355328 by omega)]
    simp only [Bool.and_self, cond_true]
    rw [show W (((c + 1 : Nat) : Int) + 1) = ((c + 1 + 1 : Nat) : Int) by unfold W; rw [wr (by omega) (by omega)]; omega]
    exact ih K
/-- Theirs: the normals anew. -/
theorem theirs_run {α : Type} (call : CallT α) (ad ad' : Option Addr) (n m cap cap' : Nat) (v u : Nat → Nat → Int) (x : Iv) (r : Ray) (hn : n * 48 ≤ 140737488351232) (F : Nat) (hF : n < F) (K : V → Heap → List Foot → Option α) (X : Option α)
    (h0 : n = 0 → ∀ L, K (.u (.a (out10 .nils ad' m cap' u x))) (H10 (bodyA ad ad' n m cap cap' v u x) r (out10 .nils ad' m cap' u x) (out10 .nils ad' m cap' u x)) L = X)
    (h1 : 0 < n → ∀ f L, K (.u (.a (out10 (.row 5 6 0 n true) ad' m cap' u x))) (H10 (bodyA ad ad' n m cap cap' v u x) r (out10 (.row 5 6 0 n true) ad' m cap' u x) (out10 (.row 5 6 0 n true) ad' m cap' u x) ++ row10 n f) L = X) (L : List Foot) :
    code10 call F (.seq pre10 tail10) ([.u (.a (bodyA ad ad' n m cap cap' v u x))] ++ undefs 27) [some (.cells (bodyA ad ad' n m cap cap' v u x)), some (.cells (rayC r))] L (kfin10 K) = X := by
  have seq : code10 call F (.seq pre10 tail10) ([.u (.a (bodyA ad ad' n m cap cap' v u x))] ++ undefs 27) [some (.cells (bodyA ad ad' n m cap cap' v u x)), some (.cells (rayC r))] L (kfin10 K) = code10 call F pre10 ([.u (.a (bodyA ad ad' n m cap cap' v u x))] ++ undefs 27) [some (.cells (bodyA ad ad' n m cap cap' v u x)), some (.cells (rayC r))] L (fun ex T H L => match ex with
      | .normal => code10 call F tail10 T H L (kfin10 K)
      | e => kfin10 K e T H L) := rfl
  rw [seq, entry10]
  cases n with
  | zero =>
    obtain ⟨F, rfl⟩ : ∃ G, F = G + 1 := ⟨F - 1, by omega⟩
    rw [step10n, decide_eq_false (show ¬ ((0 : Int) < ((0 : Nat) : Int)) by omega), cond_false]
    refine Eq.trans (exit0 (fun ex T H L => match ex with
      | .normal => code10 call (F + 1) tail10 T H L (kfin10 K)
      | e => kfin10 K e T H L) _ _ _) ?_
    exact (a10n call ad ad' 0 m cap cap' v u x r (F + 1) _ K).trans (h0 rfl _)
  | succ n =>
    obtain ⟨G, hG⟩ : ∃ G, F = G + 1 := ⟨F - 1, by omega⟩
    obtain ⟨f', L', hrun⟩ := run10r call ad ad' (n + 1) m cap cap' v u x r hn F n 0 G (fun _ k => v (0 : Int).toNat k) ([.c 4 0 1] ++ ([.c 4 0 4] ++ L)) (by omega) (by omega)
    have hstep := fun k : KT α => step10n call ad ad' (n + 1) m cap cap' v u x r 0 F G ([.c 4 0 4] ++ L) k
    rw [← hG] at hstep
    rw [hstep, decide_eq_true (show ((0 : Int) < ((n + 1 : Nat) : Int)) by omega), decide_eq_true (Int.le_refl 0)]
    simp only [Bool.and_self, cond_true]
    rw [show W ((0 : Int) + 1) = ((0 + 1 : Nat) : Int) by unfold W; rw [wr (by omega) (by omega)]; rfl]
    refine (hrun _).trans ?_
    refine Eq.trans (exit0 (fun ex T H L => match ex with
      | .normal => code10 call F tail10 T H L (kfin10 K)
      | e => kfin10 K e T H L) _ _ _) ?_
    exact (a10r call ad ad' (n + 1) m cap cap' v u x r n f' F _ K).trans (h1 (by omega) f' _)
/-! The statement's text. -/
noncomputable def all3 : Code := Try.f3.body.getD .skip
noncomputable def pre3 : Code := .seq (fstC all3) (fstC (sndC all3))
noncomputable def few3 : Code := fstC (sndC (sndC all3))
noncomputable def tail3 : Code := sndC (sndC (sndC all3))

abbrev HF := Nat → Nat → (Nat → Nat → Int) → (Nat → Nat → Int) → Iv → Ray → Er (Int × Iv)
def F11g (hf : HF) : List A → Tree
  | [.a [.s k n v, .s k' m u, .i a, .i b], .a [.i a1, .i b1, .i a2, .i b2, .i a3, .i b3, .i c1, .i d1, .i c2, .i d2, .i c3, .i d3]] => .test (Nat.beq k 6 && Nat.beq k' 2) (resH (hf n m v u ⟨a, b⟩ ⟨⟨⟨a1, b1⟩, ⟨a2, b2⟩, ⟨a3, b3⟩⟩, ⟨⟨c1, d1⟩, ⟨c2, d2⟩, ⟨c3, d3⟩⟩⟩)) .no
  | _ => .no
def T8 : List V → Tree
  | [] => truT true
  | _ => .no
noncomputable def orc3 (hf : HF) (sc : Bx → Iv → Er Bx) (ab : Bx → Bx → Er Bx) (dt : Bx → Bx → Er Iv) : List (FuncId × (List V → Tree)) := [(8, T8), (11, fun args => argsT args (F11g hf)), (12, s62 fun a k => resB (sc a k)), (13, s66 fun a b => resB (ab a b)), (14, s66 fun a b => resT (dt a b))]
noncomputable def fns3 : List (FuncId × Func × List (Nat × LV)) := [(3, Try.f3, []), (9, Try.f9, []), (10, Try.f10, lv10)]
noncomputable abbrev code3 {α : Type} (orc : List (FuncId × (List V → Tree))) (F : Nat) (c : Code) : List V → Heap → List Foot → KT α → Option α := codeA Try.prog (env Try.prog orc fns3 F 5) F [] c
noncomputable def kfin3 : KT (V × Heap) := fun ex T H L => match ex with
  | .exit _ => none
  | _ => resA Try.prog T H Try.f3.results.toList fun xs => tidyA (resV xs) H fun v H => some (v, H)
def TUn (n : Nat) (l : List (Nat × V)) : List V := (List.range n).map fun i => (look l i).getD undefV
def T3p (b : List C) (r : Ray) : List V := TUn 106 [(0, .u (.a b)), (1, rayV r), (2, .u (.c (.ptr 0 0))), (3, .u (.c (.ptr 1 0))), (4, .u (.c (.bool false))), (14, .u (.c (.bool true))), (15, .u (.c (.bool false)))]
def T3t (b : List C) (r : Ray) (v17 : V) (bb : Bool) : List V := TUn 106 [(0, .u (.a b)), (1, rayV r), (2, .u (.c (.ptr 0 0))), (3, .u (.c (.ptr 1 0))), (4, .u (.c (.bool false))), (14, .u (.c (.bool true))), (15, .u (.c (.bool false))), (16, .u (.a b)), (17, v17), (18, .u (.c (.bool bb))), (19, .u (.c (.bool false)))]
theorem e3pre {α : Type} (hf : HF) (sc : Bx → Iv → Er Bx) (ab : Bx → Bx → Er Bx) (dt : Bx → Bx → Er Iv) (ad ad' : Option Addr) (n m cap cap' : Nat) (v u : Nat → Nat → Int) (x : Iv) (r : Ray) (F : Nat) (k : KT α) : code3 (orc3 hf sc ab dt) F pre3 ([.u (.a (bodyA ad ad' n m cap cap' v u x)), rayV r] ++ undefs 104) [] [] k =
    k .normal (T3p (bodyA ad ad' n m cap cap' v u x) r) [some (.cells (bodyA ad ad' n m cap cap' v u x)), some (.cells (rayC r))] [] := by kernel_rfl
noncomputable def rest3 (call : CallT (V × Heap)) (F : Nat) (b : List C) (r : Ray) (k : KT (V × Heap)) : V → Heap → List Foot → R := fun v H l => regS Try.prog call (opsOf (fstC few3)) ((opsOf (fstC few3)).toList.drop 2) (putT (putT (T3p b r) (some 16) (.u (.a b))) (some 17) v) H (l ++ []) (fun T H L => codeA Try.prog call F [] (sndC few3) T H L k)
theorem e3few (call : CallT (V × Heap)) (ad ad' : Option Addr) (n m cap cap' : Nat) (v u : Nat → Nat → Int) (x : Iv) (r : Ray) (F : Nat) (k : KT (V × Heap)) : codeA Try.prog call F [] few3 (T3p (bodyA ad ad' n m cap cap' v u x) r) [some (.cells (bodyA ad ad' n m cap cap' v u x)), some (.cells (rayC r))] [] k =
    call 10 [.u (.a (bodyA ad ad' n m cap cap' v u x))] [some (.cells (bodyA ad ad' n m cap cap' v u x)), some (.cells (rayC r))] (rest3 call F (bodyA ad ad' n m cap cap' v u x) r k) := by kernel_rfl
theorem env10 {α : Type} (hf : HF) (sc : Bx → Iv → Er Bx) (ab : Bx → Bx → Er Bx) (dt : Bx → Bx → Er Iv) (b : List C) (H : Heap) (F : Nat) (K : V → Heap → List Foot → Option α) : env Try.prog (orc3 hf sc ab dt) fns3 F 5 10 [.u (.a b)] H K = code10 (env Try.prog (orc3 hf sc ab dt) fns3 F 4) F all10 ([.u (.a b)] ++ undefs 27) H [] (kfin10 K) := by kernel_rfl
noncomputable def k3 (X : List V → Heap → List Foot → R) : KT (V × Heap) := fun ex T H L => match ex with
  | .normal => X T H L
  | e => kfin3 e T H L
theorem e3n (hf : HF) (sc : Bx → Iv → Er Bx) (ab : Bx → Bx → Er Bx) (dt : Bx → Bx → Er Iv) (ad ad' : Option Addr) (n m cap cap' : Nat) (v u : Nat → Nat → Int) (x : Iv) (r : Ray) (F : Nat) (X : List V → Heap → List Foot → R) (L : List Foot) : rest3 (env Try.prog (orc3 hf sc ab dt) fns3 F 5) F (bodyA ad ad' n m cap cap' v u x) r (k3 X) (.u (.a (out10 .nils ad' m cap' u x))) (H10 (bodyA ad ad' n m cap cap' v u x) r (out10 .nils ad' m cap' u x) (out10 .nils ad' m cap' u x)) L =
    bif !decide ((m : Int) ≤ 20) then tru true else X (T3t (bodyA ad ad' n m cap cap' v u x) r (.u (.a (out10 .nils ad' m cap' u x))) (decide ((m : Int) ≤ 20))) (H10 (bodyA ad ad' n m cap cap' v u x) r (out10 .nils ad' m cap' u x) (out10 .nils ad' m cap' u x) ++ [some (.cells (out10 .nils ad' m cap' u x))]) (L ++ []) := by kernel_rfl
theorem e3r (hf : HF) (sc : Bx → Iv → Er Bx) (ab : Bx → Bx → Er Bx) (dt : Bx → Bx → Er Iv) (ad ad' : Option Addr) (n m cap cap' : Nat) (v u : Nat → Nat → Int) (x : Iv) (r : Ray) (F : Nat) (f : Nat → Nat → Int) (X : List V → Heap → List Foot → R) (L : List Foot) : rest3 (env Try.prog (orc3 hf sc ab dt) fns3 F 5) F (bodyA ad ad' n m cap cap' v u x) r (k3 X) (.u (.a (out10 (.row 5 6 0 n true) ad' m cap' u x))) (H10 (bodyA ad ad' n m cap cap' v u x) r (out10 (.row 5 6 0 n true) ad' m cap' u x) (out10 (.row 5 6 0 n true) ad' m cap' u x) ++ row10 n f) L =
    bif decide ((n : Int) ≤ 20) then bif !decide ((m : Int) ≤ 20) then tru true else X (T3t (bodyA ad ad' n m cap cap' v u x) r (.u (.a (out10 (.row 5 6 0 n true) ad' m cap' u x))) (decide ((m : Int) ≤ 20))) (H10 (bodyA ad ad' n m cap cap' v u x) r (out10 (.row 5 6 0 n true) ad' m cap' u x) (out10 (.row 5 6 0 n true) ad' m cap' u x) ++ row10 n f ++ [some (.cells (out10 (.row 5 6 0 n true) ad' m cap' u x))]) (L ++ [])
    else tru true := by kernel_rfl
/-- What the statement answers behind its guards; h: the hit; d, a: the way and the point; q: the scalar product. -/
def pt3 (n m : Nat) (u : Nat → Nat → Int) (h : Er (Int × Iv)) (d a a0 : Er Bx) (q : Er Iv) : R :=
  bif okE h then bif okE d then bif okE a then bif decide ((getE (0, iv0) h).1 < 0) then tru false else bif decide ((n : Int) ≤ (getE (0, iv0) h).1) then tru false else bif !decide ((m : Int) = n) then tru false else
    bif decide (0 ≤ (getE (0, iv0) h).1) && decide ((getE (0, iv0) h).1 < n) then bif okE q then
      bif decide (0 ≤ (getE (0, iv0) h).1) && decide ((getE (0, iv0) h).1 < m) then bif decide ((getE iv0 q).lo ≤ u (getE (0, iv0) h).1.toNat 1) then
        bif decide (0 ≤ (getE (0, iv0) h).1) && decide ((getE (0, iv0) h).1 < m) then bif decide (u (getE (0, iv0) h).1.toNat 0 ≤ (getE iv0 q).hi) then tru true else tru (decide ((getE (0, iv0) h).2.lo = 0)) else none
        else tru (decide ((getE (0, iv0) h).2.lo = 0))
      else none
    else tru true else none
  else tru true else bif okE a0 then tru true else tru true else tru true
def pt3' (hf : HF) (sc : Bx → Iv → Er Bx) (ab : Bx → Bx → Er Bx) (dt : Bx → Bx → Er Iv) (n m : Nat) (v u v' u' : Nat → Nat → Int) (x : Iv) (r : Ray) : R :=
  pt3 n m u (hf n m v' u' x r) (sc r.dir (getE (0, iv0) (hf n m v' u' x r)).2) (ab r.pt (getE bx0 (sc r.dir (getE (0, iv0) (hf n m v' u' x r)).2))) (ab r.pt bx0) (dt (bxOf v (getE (0, iv0) (hf n m v' u' x r)).1.toNat) (getE bx0 (ab r.pt (getE bx0 (sc r.dir (getE (0, iv0) (hf n m v' u' x r)).2)))))
theorem t3n (hf : HF) (sc : Bx → Iv → Er Bx) (ab : Bx → Bx → Er Bx) (dt : Bx → Bx → Er Iv) (ad ad' : Option Addr) (n m cap cap' : Nat) (v u : Nat → Nat → Int) (x : Iv) (r : Ray) (F : Nat) (z o : List C) (B5 : Option Blk) (v17 : V) (bb : Bool) (L : List Foot) : code3 (orc3 hf sc ab dt) F tail3 (T3t (bodyA ad ad' n m cap cap' v u x) r v17 bb) (H10 (bodyA ad ad' n m cap cap' v u x) r z o ++ [B5]) L kfin3 =
    bif allN (fun j => isInts 6 (arrC 6 v j)) n then bif allN (fun j => isInts 2 (arrC 2 u j)) m then pt3' hf sc ab dt n m v u (numOf (arrC 6 v)) (numOf (arrC 2 u)) x r else none else none := by kernel_rfl
theorem t3r (hf : HF) (sc : Bx → Iv → Er Bx) (ab : Bx → Bx → Er Bx) (dt : Bx → Bx → Er Iv) (ad ad' : Option Addr) (n m cap cap' : Nat) (v u : Nat → Nat → Int) (x : Iv) (r : Ray) (F : Nat) (z o : List C) (B5 B6 : Option Blk) (v17 : V) (bb : Bool) (L : List Foot) : code3 (orc3 hf sc ab dt) F tail3 (T3t (bodyA ad ad' n m cap cap' v u x) r v17 bb) (H10 (bodyA ad ad' n m cap cap' v u x) r z o ++ [B5] ++ [B6]) L kfin3 =
    bif allN (fun j => isInts 6 (arrC 6 v j)) n then bif allN (fun j => isInts 2 (arrC 2 u j)) m then pt3' hf sc ab dt n m v u (numOf (arrC 6 v)) (numOf (arrC 2 u)) x r else none else none := by kernel_rfl

theorem all3_eq : all3 = .seq (fstC all3) (.seq (fstC (sndC all3)) (.seq few3 tail3)) := by kernel_rfl
theorem all10_eq : all10 = .seq (fstC all10) (.seq (fstC (sndC all10)) (.seq (fstC (sndC (sndC all10))) tail10)) := by kernel_rfl
theorem ans3 (hf : HF) (sc : Bx → Iv → Er Bx) (ab : Bx → Bx → Er Bx) (dt : Bx → Bx → Er Iv) (b : List C) (r : Ray) (F : Nat) : ans Try.prog (orc3 hf sc ab dt) fns3 F 6 3 [.u (.a b), rayV r] = code3 (orc3 hf sc ab dt) F all3 ([.u (.a b), rayV r] ++ undefs 104) [] [] kfin3 := by kernel_rfl
theorem seq3 {α : Type} (orc : List (FuncId × (List V → Tree))) (F : Nat) (a b : Code) (T : List V) (H : Heap) (L : List Foot) (k : KT α) : code3 orc F (.seq a b) T H L k = code3 orc F a T H L (fun ex T H L => match ex with
    | .normal => code3 orc F b T H L k
    | e => k e T H L) := rfl
theorem kk3 (orc : List (FuncId × (List V → Tree))) (F : Nat) : (fun (ex : Ex) (T : List V) (H : Heap) (L : List Foot) => match ex with
    | .normal => code3 orc F tail3 T H L kfin3
    | e => kfin3 e T H L) = k3 (fun T H L => code3 orc F tail3 T H L kfin3) := rfl
theorem bnt (a b : R) : (bif !false then a else b) = a := rfl
theorem bnf (a b : R) : (bif !true then a else b) = b := rfl
theorem bft (a b : R) : (bif false then a else b) = b := rfl
theorem btt (a b : R) : (bif true then a else b) = a := rfl
theorem point_code (hf : HF) (sc : Bx → Iv → Er Bx) (ab : Bx → Bx → Er Bx) (dt : Bx → Bx → Er Iv) (ad ad' : Option Addr) (n m cap cap' : Nat) (v u : Nat → Nat → Int) (x : Iv) (r : Ray) (F : Nat) (hn : n * 48 ≤ 140737488351232) (hF : n < F)
    (hp : n ≤ 20 → m ≤ 20 → pt3' hf sc ab dt n m v u (numOf (arrC 6 v)) (numOf (arrC 2 u)) x r = tru true) : ans Try.prog (orc3 hf sc ab dt) fns3 F 6 3 [.u (.a (bodyA ad ad' n m cap cap' v u x)), rayV r] = tru true := by
  have i1 := allN_iff.2 fun j (_ : j < n) => isInts_arr 6 v j
  have i2 := allN_iff.2 fun j (_ : j < m) => isInts_arr 2 u j
  rw [ans3, all3_eq]
  have hassoc := codeA_assoc (P := Try.prog) (call := env Try.prog (orc3 hf sc ab dt) fns3 F 5) (fuel := F) (lvs := []) (fstC all3) (fstC (sndC all3)) (.seq few3 tail3) ([.u (.a (bodyA ad ad' n m cap cap' v u x)), rayV r] ++ undefs 104) [] [] kfin3
  refine hassoc.trans ?_
  have h1 := fun k : KT (V × Heap) => e3pre hf sc ab dt ad ad' n m cap cap' v u x r F k
  refine (show code3 (orc3 hf sc ab dt) F (.seq pre3 (.seq few3 tail3)) _ [] [] kfin3 = _ from h1 _).trans ?_
  refine (show code3 (orc3 hf sc ab dt) F (.seq few3 tail3) _ _ [] kfin3 = code3 (orc3 hf sc ab dt) F few3 _ _ [] (k3 (fun T H L => code3 (orc3 hf sc ab dt) F tail3 T H L kfin3)) from rfl).trans ?_
  refine (e3few _ ad ad' n m cap cap' v u x r F _).trans ?_
  refine (env10 hf sc ab dt (bodyA ad ad' n m cap cap' v u x) _ F _).trans ?_
  rw [all10_eq]
  refine (codeA_assoc _ _ _ _ _ _ _).trans ?_
  refine (codeA_assoc _ _ _ _ _ _ _).trans ?_
  refine theirs_run (env Try.prog (orc3 hf sc ab dt) fns3 F 4) ad ad' n m cap cap' v u x r hn F hF _ (tru true) (fun hz L => ?_) (fun hz f L => ?_) []
  · refine (e3n hf sc ab dt ad ad' n m cap cap' v u x r F _ L).trans ?_
    cases hm : decide ((m : Int) ≤ 20)
    · exact bnt _ _
    · have hm' : m ≤ 20 := by have : (m : Int) ≤ 20 := by simpa using hm
                              omega
      refine (bnf _ _).trans ?_
      refine (t3n hf sc ab dt ad ad' n m cap cap' v u x r F (out10 .nils ad' m cap' u x) (out10 .nils ad' m cap' u x) (some (.cells (out10 .nils ad' m cap' u x))) (.u (.a (out10 .nils ad' m cap' u x))) true (L ++ [])).trans ?_
      rw [i1, i2]
      exact hp (by omega) hm'
  · refine (e3r hf sc ab dt ad ad' n m cap cap' v u x r F f _ L).trans ?_
    cases hnn : decide ((n : Int) ≤ 20)
    · exact bft _ _
    · have hn' : n ≤ 20 := by have : (n : Int) ≤ 20 := by simpa using hnn
                              omega
      refine (btt _ _).trans ?_
      cases hm : decide ((m : Int) ≤ 20)
      · exact bnt _ _
      · have hm' : m ≤ 20 := by have : (m : Int) ≤ 20 := by simpa using hm
                                omega
        refine (bnf _ _).trans ?_
        refine (t3r hf sc ab dt ad ad' n m cap cap' v u x r F (out10 (.row 5 6 0 n true) ad' m cap' u x) (out10 (.row 5 6 0 n true) ad' m cap' u x) (some (.row 41 6 n (arrC 6 f) true)) (some (.cells (out10 (.row 5 6 0 n true) ad' m cap' u x))) (.u (.a (out10 (.row 5 6 0 n true) ad' m cap' u x))) true (L ++ [])).trans ?_
        rw [i1, i2]
        exact hp hn' hm'
end Go.Proofs.Ytbgdfikfldkjbaa.AI
