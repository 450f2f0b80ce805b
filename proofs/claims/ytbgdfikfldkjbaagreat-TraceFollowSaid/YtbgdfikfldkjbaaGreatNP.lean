/- The statement TracePoint, read: what comes behind its guard. -/
import Derived.Test.YtbgdfikfldkjbaaGreatNH3
namespace Go.Proofs.YtbgdfikfldkjbaaGreat.AI
set_option linter.unnecessarySimpa false
open Go
set_option linter.unusedVariables false
set_option linter.unusedSimpArgs false
def opsOf : Code → Array Oper
  | .region _ ops _ => ops
  | _ => #[]
def bodyA (ad ad' : Option Addr) (n m cap cap' : Nat) (v u : Nat → Nat → Int) (x : Iv) : List C := [.as ad 6 n cap (arrC 6 v), .as ad' 2 m cap' (arrC 2 u), .int .i64 x.lo, .int .i64 x.hi]
/-! culetlaw31.Theirs, called with a body where two blocks lie already. -/
noncomputable def body10 : Code := loopOf Tryz.f7 0
noncomputable def all10 : Code := Tryz.f7.body.getD .skip
noncomputable def tail10 : Code := sndC (sndC (sndC all10))
noncomputable def pre10 : Code := .seq (.seq (fstC all10) (fstC (sndC all10))) (fstC (sndC (sndC all10)))
def lv10 : List (Nat × LV) := [(3, ⟨[1, 2, 3, 4], [1, 2, 3], [], none⟩)]
def T10 (i : Int) : List V := TT 28 [(1, .u (.c (.ptr 2 0))), (2, .u (.c (.ptr 3 0))), (3, .u (.c (.ptr 4 0))), (4, .u (ui i))]
def T10o : List V := TT 28 [(1, .u (.c (.ptr 2 0))), (2, .u (.c (.ptr 3 0))), (3, .u (.c (.ptr 4 0)))]
/-- out: what has come. -/
def H10 (b : List C) (r : Ray) (z out : List C) : Heap := [some (.cells b), some (.cells (rayC r)), some (.cells b), some (.cells z), some (.cells out)]
def z10 : List C := [.nils, .nils, ci 0, ci 0]
def out10 (c : C) (ad' : Option Addr) (m cap' : Nat) (u : Nat → Nat → Int) (x : Iv) : List C := [c, .as ad' 2 m cap' (arrC 2 u), ci x.lo, ci x.hi]
def row10 (n : Nat) (f : Nat → Nat → Int) : Heap := [some (.row 46 6 n (arrC 6 f) true)]
noncomputable abbrev code10 {α : Type} (call : CallT α) (F : Nat) (c : Code) : List V → Heap → List Foot → KT α → Option α := codeA Tryz.prog call F lv10 c
noncomputable abbrev loop10 {α : Type} (call : CallT α) (F fuel : Nat) (T : List V) (H : Heap) (L : List Foot) (k : KT α) : Option α := loopA 5 [1, 2, 3, 4] [1, 2, 3] (code10 call F body10) fuel T H L k
theorem step10n {α : Type} (call : CallT α) (ad ad' : Option Addr) (n m cap cap' : Nat) (v u : Nat → Nat → Int) (x : Iv) (r : Ray) (i : Int) (F fuel : Nat) (L : List Foot) (k : KT α) : loop10 call F (fuel + 1) (T10 i) (H10 (bodyA ad ad' n m cap cap' v u x) r z10 (out10 .nils ad' m cap' u x)) L k =
    bif decide (i < n) then bif decide (0 ≤ i) && decide (i < n) then loop10 call F fuel (T10 (W (i + 1))) (H10 (bodyA ad ad' n m cap cap' v u x) r z10 (out10 (.row 5 6 0 1 true) ad' m cap' u x) ++ row10 1 (fun _ k => v i.toNat k)) ([.c 4 0 1] ++ L) k else none
    else k (.exit 0) T10o (H10 (bodyA ad ad' n m cap cap' v u x) r z10 (out10 .nils ad' m cap' u x)) L := by kernel_rfl
theorem step10r {α : Type} (call : CallT α) (ad ad' : Option Addr) (n m cap cap' : Nat) (v u : Nat → Nat → Int) (x : Iv) (r : Ray) (i : Int) (c : Nat) (f : Nat → Nat → Int) (F fuel : Nat) (L : List Foot) (k : KT α) : loop10 call F (fuel + 1) (T10 i) (H10 (bodyA ad ad' n m cap cap' v u x) r z10 (out10 (.row 5 6 0 (c + 1) true) ad' m cap' u x) ++ row10 (c + 1) f) L k =
    bif decide (i < n) then bif decide (0 ≤ i) && decide (i < n) then bif decide (c + 1 ≤ c + 1) then bif decide ((c + 1 + 1) * 48 ≤ 140737488355328) && decide (c + 1 + 1 ≤ 140737488355328) then
      loop10 call F fuel (T10 (W (i + 1))) (H10 (bodyA ad ad' n m cap cap' v u x) r z10 (out10 (.row 5 6 0 (c + 2) true) ad' m cap' u x) ++ row10 (c + 2) (fun j k => bif Nat.blt j (c + 1) then f j k else v i.toNat k)) ([.c 4 0 1, .r 5] ++ L) k else none else none else none
    else k (.exit 0) T10o (H10 (bodyA ad ad' n m cap cap' v u x) r z10 (out10 (.row 5 6 0 (c + 1) true) ad' m cap' u x) ++ row10 (c + 1) f) L := by kernel_rfl
theorem entry10 {α : Type} (call : CallT α) (ad ad' : Option Addr) (n m cap cap' : Nat) (v u : Nat → Nat → Int) (x : Iv) (r : Ray) (F : Nat) (L : List Foot) (k : KT α) : code10 call F pre10 ([.u (.a (bodyA ad ad' n m cap cap' v u x))] ++ undefs 27) [some (.cells (bodyA ad ad' n m cap cap' v u x)), some (.cells (rayC r))] L k =
    loop10 call F F (T10 0) (H10 (bodyA ad ad' n m cap cap' v u x) r z10 (out10 .nils ad' m cap' u x)) ([.c 4 0 4] ++ L) (fun ex T H L => match ex with
      | .exit i => cond (i == 0) (k .normal T H L) (k (.exit i) T H L)
      | e => k e T H L) := by kernel_rfl
noncomputable def kfin10 {α : Type} (K : V → Heap → List Foot → Option α) : KT α := fun ex T H L => match ex with
  | .exit _ => none
  | _ => resA Tryz.prog T H Tryz.f7.results.toList fun xs => K (resV xs) H L
theorem a10n {α : Type} (call : CallT α) (ad ad' : Option Addr) (n m cap cap' : Nat) (v u : Nat → Nat → Int) (x : Iv) (r : Ray) (F : Nat) (L : List Foot) (K : V → Heap → List Foot → Option α) : code10 call F tail10 T10o (H10 (bodyA ad ad' n m cap cap' v u x) r z10 (out10 .nils ad' m cap' u x)) L (kfin10 K) =
    K (.u (.a (out10 .nils ad' m cap' u x))) (H10 (bodyA ad ad' n m cap cap' v u x) r (out10 .nils ad' m cap' u x) (out10 .nils ad' m cap' u x)) ([.c 3 0 4] ++ L) := by kernel_rfl
theorem a10r {α : Type} (call : CallT α) (ad ad' : Option Addr) (n m cap cap' : Nat) (v u : Nat → Nat → Int) (x : Iv) (r : Ray) (c : Nat) (f : Nat → Nat → Int) (F : Nat) (L : List Foot) (K : V → Heap → List Foot → Option α) : code10 call F tail10 T10o (H10 (bodyA ad ad' n m cap cap' v u x) r z10 (out10 (.row 5 6 0 (c + 1) true) ad' m cap' u x) ++ row10 (c + 1) f) L (kfin10 K) =
    K (.u (.a (out10 (.row 5 6 0 (c + 1) true) ad' m cap' u x))) (H10 (bodyA ad ad' n m cap cap' v u x) r (out10 (.row 5 6 0 (c + 1) true) ad' m cap' u x) (out10 (.row 5 6 0 (c + 1) true) ad' m cap' u x) ++ row10 (c + 1) f) ([.c 3 0 4] ++ L) := by kernel_rfl

theorem exit0 {α : Type} (k : KT α) (T : List V) (H : Heap) (L : List Foot) : (match Ex.exit 0 with
      | .exit i => cond (i == 0) (k .normal T H L) (k (.exit i) T H L)
      | e => k e T H L) = k .normal T H L := rfl
theorem run10r {α : Type} (call : CallT α) (ad ad' : Option Addr) (n m cap cap' : Nat) (v u : Nat → Nat → Int) (x : Iv) (r : Ray) (hn : n * 48 ≤ 140737488351232) (F : Nat) : ∀ (j c fuel : Nat) (f : Nat → Nat → Int) (L : List Foot), c + 1 + j = n → j < fuel → ∃ f' L', ∀ K : KT α,
    loop10 call F fuel (T10 (c + 1 : Nat)) (H10 (bodyA ad ad' n m cap cap' v u x) r z10 (out10 (.row 5 6 0 (c + 1) true) ad' m cap' u x) ++ row10 (c + 1) f) L K = K (.exit 0) T10o (H10 (bodyA ad ad' n m cap cap' v u x) r z10 (out10 (.row 5 6 0 n true) ad' m cap' u x) ++ row10 n f') L'
  | 0, c, fuel + 1, f, L, h, _ => by
    obtain rfl : c + 1 = n := by omega
    exact ⟨f, L, fun K => by rw [step10r, decide_eq_false (show ¬ (((c + 1 : Nat) : Int) < ((c + 1 : Nat) : Int)) by omega)]; rfl⟩
  | j + 1, c, fuel + 1, f, L, h, hf => by
    obtain ⟨f', L', ih⟩ := run10r call ad ad' n m cap cap' v u x r hn F j (c + 1) fuel (fun j k => bif Nat.blt j (c + 1) then f j k else v (((c + 1 : Nat) : Int)).toNat k) ([.c 4 0 1, .r 5] ++ L) (by omega) (by omega)
    refine ⟨f', L', fun K => ?_⟩
    rw [step10r, decide_eq_true (show (((c + 1 : Nat) : Int) < (n : Int)) by omega), decide_eq_true (show ((0 : Int) ≤ ((c + 1 : Nat) : Int)) by omega), decide_eq_true (Nat.le_refl (c + 1)),
      decide_eq_true (show (c + 1 + 1) * 48 ≤ 140737488355328 by omega), decide_eq_true (show c + 1 + 1 ≤ 140737488355328 by omega)]
    simp only [Bool.and_self, cond_true]
    rw [show W (((c + 1 : Nat) : Int) + 1) = ((c + 1 + 1 : Nat) : Int) by unfold W; rw [wr (by omega) (by omega)]; omega]
    exact ih K
/-- Theirs: the normals anew. -/
theorem theirs_run {α : Type} (call : CallT α) (ad ad' : Option Addr) (n m cap cap' : Nat) (v u : Nat → Nat → Int) (x : Iv) (r : Ray) (hn : n * 48 ≤ 140737488351232) (F : Nat) (hF : n < F) (K : V → Heap → List Foot → Option α) (X : Option α)
    (h0 : n = 0 → ∀ L, K (.u (.a (out10 .nils ad' m cap' u x))) (H10 (bodyA ad ad' n m cap cap' v u x) r (out10 .nils ad' m cap' u x) (out10 .nils ad' m cap' u x)) L = X)
    (h1 : 0 < n → ∀ f L, K (.u (.a (out10 (.row 5 6 0 n true) ad' m cap' u x))) (H10 (bodyA ad ad' n m cap cap' v u x) r (out10 (.row 5 6 0 n true) ad' m cap' u x) (out10 (.row 5 6 0 n true) ad' m cap' u x) ++ row10 n f) L = X) (L : List Foot) :
    code10 call F (.seq pre10 tail10) ([.u (.a (bodyA ad ad' n m cap cap' v u x))] ++ undefs 27) [some (.cells (bodyA ad ad' n m cap cap' v u x)), some (.cells (rayC r))] L (kfin10 K) = X := by
  have seq : code10 call F (.seq pre10 tail10) ([.u (.a (bodyA ad ad' n m cap cap' v u x))] ++ undefs 27) [some (.cells (bodyA ad ad' n m cap cap' v u x)), some (.cells (rayC r))] L (kfin10 K) = code10 call F pre10 ([.u (.a (bodyA ad ad' n m cap cap' v u x))] ++ undefs 27) [some (.cells (bodyA ad ad' n m cap cap' v u x)), some (.cells (rayC r))] L (fun ex T H L => match ex with
      | .normal => code10 call F tail10 T H L (kfin10 K)
      | e => kfin10 K e T H L) := rfl
  rw [seq, entry10]
  cases n with
  | zero =>
    obtain ⟨F, rfl⟩ : ∃ G, F = G + 1 := ⟨F - 1, by omega⟩
    rw [step10n, decide_eq_false (show ¬ ((0 : Int) < ((0 : Nat) : Int)) by omega), cond_false]
    refine Eq.trans (exit0 (fun ex T H L => match ex with
      | .normal => code10 call (F + 1) tail10 T H L (kfin10 K)
      | e => kfin10 K e T H L) _ _ _) ?_
    exact (a10n call ad ad' 0 m cap cap' v u x r (F + 1) _ K).trans (h0 rfl _)
  | succ n =>
    obtain ⟨G, hG⟩ : ∃ G, F = G + 1 := ⟨F - 1, by omega⟩
    obtain ⟨f', L', hrun⟩ := run10r call ad ad' (n + 1) m cap cap' v u x r hn F n 0 G (fun _ k => v (0 : Int).toNat k) ([.c 4 0 1] ++ ([.c 4 0 4] ++ L)) (by omega) (by omega)
    have hstep := fun k : KT α => step10n call ad ad' (n + 1) m cap cap' v u x r 0 F G ([.c 4 0 4] ++ L) k
    rw [← hG] at hstep
    rw [hstep, decide_eq_true (show ((0 : Int) < ((n + 1 : Nat) : Int)) by omega), decide_eq_true (Int.le_refl 0)]
    simp only [Bool.and_self, cond_true]
    rw [show W ((0 : Int) + 1) = ((0 + 1 : Nat) : Int) by unfold W; rw [wr (by omega) (by omega)]; rfl]
    refine (hrun _).trans ?_
    refine Eq.trans (exit0 (fun ex T H L => match ex with
      | .normal => code10 call F tail10 T H L (kfin10 K)
      | e => kfin10 K e T H L) _ _ _) ?_
    exact (a10r call ad ad' (n + 1) m cap cap' v u x r n f' F _ K).trans (h1 (by omega) f' _)
/-! The statement's text. -/
abbrev HF := Nat → Nat → (Nat → Nat → Int) → (Nat → Nat → Int) → Iv → Ray → Er (Int × Iv)
def F11g (hf : HF) : List A → Tree
  | [.a [.s k n v, .s k' m u, .i a, .i b], .a [.i a1, .i b1, .i a2, .i b2, .i a3, .i b3, .i c1, .i d1, .i c2, .i d2, .i c3, .i d3]] => .test (Nat.beq k 6 && Nat.beq k' 2) (resH (hf n m v u ⟨a, b⟩ ⟨⟨⟨a1, b1⟩, ⟨a2, b2⟩, ⟨a3, b3⟩⟩, ⟨⟨c1, d1⟩, ⟨c2, d2⟩, ⟨c3, d3⟩⟩⟩)) .no
  | _ => .no
def T8 : List V → Tree
  | [] => truT true
  | _ => .no
noncomputable def orc3 (hf : HF) (sc : Bx → Iv → Er Bx) (ab : Bx → Bx → Er Bx) (dt : Bx → Bx → Er Iv) : List (FuncId × (List V → Tree)) := [(5, T8), (13, fun args => argsT args (F11g hf)), (63, s62 fun a k => resB (sc a k)), (64, s66 fun a b => resB (ab a b)), (65, s66 fun a b => resT (dt a b))]
def TUn (n : Nat) (l : List (Nat × V)) : List V := (List.range n).map fun i => (look l i).getD undefV
def T3p (b : List C) (r : Ray) : List V := TUn 106 [(0, .u (.a b)), (1, rayV r), (2, .u (.c (.ptr 0 0))), (3, .u (.c (.ptr 1 0))), (4, .u (.c (.bool false))), (14, .u (.c (.bool true))), (15, .u (.c (.bool false)))]
def T3t (b : List C) (r : Ray) (v17 : V) (bb : Bool) : List V := TUn 106 [(0, .u (.a b)), (1, rayV r), (2, .u (.c (.ptr 0 0))), (3, .u (.c (.ptr 1 0))), (4, .u (.c (.bool false))), (14, .u (.c (.bool true))), (15, .u (.c (.bool false))), (16, .u (.a b)), (17, v17), (18, .u (.c (.bool bb))), (19, .u (.c (.bool false)))]
/-- What the statement answers behind its guards; h: the hit; d, a: the way and the point; q: the scalar product. -/
def pt3 (n m : Nat) (u : Nat → Nat → Int) (h : Er (Int × Iv)) (d a a0 : Er Bx) (q : Er Iv) : R :=
  bif okE h then bif okE d then bif okE a then bif decide ((getE (0, iv0) h).1 < 0) then tru false else bif decide ((n : Int) ≤ (getE (0, iv0) h).1) then tru false else bif !decide ((m : Int) = n) then tru false else
    bif decide (0 ≤ (getE (0, iv0) h).1) && decide ((getE (0, iv0) h).1 < n) then bif okE q then
      bif decide (0 ≤ (getE (0, iv0) h).1) && decide ((getE (0, iv0) h).1 < m) then bif decide ((getE iv0 q).lo ≤ u (getE (0, iv0) h).1.toNat 1) then
        bif decide (0 ≤ (getE (0, iv0) h).1) && decide ((getE (0, iv0) h).1 < m) then bif decide (u (getE (0, iv0) h).1.toNat 0 ≤ (getE iv0 q).hi) then tru true else tru (decide ((getE (0, iv0) h).2.lo = 0)) else none
        else tru (decide ((getE (0, iv0) h).2.lo = 0))
      else none
    else tru true else none
  else tru true else bif okE a0 then tru true else tru true else tru true
def pt3' (hf : HF) (sc : Bx → Iv → Er Bx) (ab : Bx → Bx → Er Bx) (dt : Bx → Bx → Er Iv) (n m : Nat) (v u v' u' : Nat → Nat → Int) (x : Iv) (r : Ray) : R :=
  pt3 n m u (hf n m v' u' x r) (sc r.dir (getE (0, iv0) (hf n m v' u' x r)).2) (ab r.pt (getE bx0 (sc r.dir (getE (0, iv0) (hf n m v' u' x r)).2))) (ab r.pt bx0) (dt (bxOf v (getE (0, iv0) (hf n m v' u' x r)).1.toNat) (getE bx0 (ab r.pt (getE bx0 (sc r.dir (getE (0, iv0) (hf n m v' u' x r)).2)))))
theorem all10_eq : all10 = .seq (fstC all10) (.seq (fstC (sndC all10)) (.seq (fstC (sndC (sndC all10))) tail10)) := by kernel_rfl
theorem bnt (a b : R) : (bif !false then a else b) = a := rfl
theorem bnf (a b : R) : (bif !true then a else b) = b := rfl
theorem bft (a b : R) : (bif false then a else b) = b := rfl
theorem btt (a b : R) : (bif true then a else b) = a := rfl
end Go.Proofs.YtbgdfikfldkjbaaGreat.AI
