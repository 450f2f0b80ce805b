/- trace.Hit: what comes behind the loop over the faces; the whole. -/
import Derived.Test.YtbgdfikfldkjbaaNH1
namespace Go.Proofs.Ytbgdfikfldkjbaa.AI
set_option linter.unnecessarySimpa false
open Go
set_option linter.unusedVariables false
set_option linter.unusedSimpArgs false
noncomputable def body17 : Code := loopOf Try.f11 0
noncomputable def body11 : Code := Try.f11.body.getD .skip
def sndC : Code → Code
  | .seq _ b => b
  | c => c
def fstC : Code → Code
  | .seq a _ => a
  | c => c
noncomputable def tail12 : Code := sndC (sndC (sndC (sndC (sndC body11))))
noncomputable def tail17 : Code := sndC (sndC tail12)
noncomputable def tail22 : Code := sndC tail17
noncomputable def orcT11 : List (FuncId × (List V → Tree)) := [(26, fun args => argsT args F26), (27, shT [some 12] (P12 fun r => truT (r.pt.v && r.dir.v))), (29, s1v)]
noncomputable def lv11 : List (Nat × LV) := [(6, ⟨[4, 5, 6, 7, 8, 23], [], [], some g6⟩), (17, ⟨[4, 5, 6, 7, 8, 60, 61, 62], [4, 5, 6, 7, 8], [], none⟩)]
noncomputable abbrev call11 {α : Type} (F : Nat) : CallT α := env Try.prog orcT11 [(11, Try.f11, lv11), (28, Try.f28, [])] F 5
noncomputable abbrev code11 {α : Type} (F : Nat) (c : Code) : List V → Heap → List Foot → KT α → Option α := codeA Try.prog (call11 F) F lv11 c
noncomputable def kfin11 : KT (V × Heap) := fun ex T H L => match ex with
  | .exit _ => none
  | _ => resA Try.prog T H Try.f11.results.toList fun xs => tidyA (resV xs) H fun v H => some (v, H)
def T17o : List V := TT 103 [(4, .u (.c (.ptr 2 0))), (5, .u (.c (.ptr 3 0))), (6, .u (.c (.ptr 4 0))), (7, .u (.c (.ptr 5 0))), (8, .u (.c (.ptr 6 0)))]
def T17 (n : Nat) (i : Int) : List V := TT 103 [(4, .u (.c (.ptr 2 0))), (5, .u (.c (.ptr 3 0))), (6, .u (.c (.ptr 4 0))), (7, .u (.c (.ptr 5 0))), (8, .u (.c (.ptr 6 0))), (60, .u (.c (rowC n))), (61, .u (ui n)), (62, .u (ui i))]
def T16 (n : Nat) (b : Int) : List V := TT 103 [(4, .u (.c (.ptr 2 0))), (5, .u (.c (.ptr 3 0))), (6, .u (.c (.ptr 4 0))), (7, .u (.c (.ptr 5 0))), (8, .u (.c (.ptr 6 0))), (23, .u (.c (.fn 52 [] [(7, 0), (8, 0)]))), (53, .u (.c (rowC n))), (54, .u (ui n)), (55, .u (.c (.bool false))), (57, .u (ui b)), (58, .u (.c (.bool false)))]
def hitR (a b c e : Int) : R := some (.t [ui a, .a [ci b, ci c], ui e], [])
def HR1 (B B' : BodyR) (r r' : Ray) (a b c d : Int) (n : Nat) (f : Nat → Tg) (best : Int) : Heap := HB B.c B'.c r r' a b c d (rowC n) best ++ rowH n f
noncomputable abbrev loop17 {α : Type} (F fuel : Nat) (T : List V) (H : Heap) (L : List Foot) (k : KT α) : Option α := loopA 10 [4, 5, 6, 7, 8, 60, 61, 62] [4, 5, 6, 7, 8] (code11 F body17) fuel T H L k
theorem step17 {α : Type} (B B' : BodyR) (r r' : Ray) (n : Nat) (f : Nat → Tg) (best i : Int) (F fuel : Nat) (L : List Foot) (k : KT α) : loop17 F (fuel + 1) (T17 n i) (HR1 B B' r r' 0 0 0 0 n f best) L k =
    bif decide (i < n) then bif decide (0 ≤ i) && decide (i < n) then bif decide (0 + i.toNat < n) then
      bif !decide (i = best) then bif decide (0 ≤ best) && decide (best < n) then bif decide (0 + best.toNat < n) then bif decide ((f (0 + i.toNat)).least ≤ (f (0 + best.toNat)).most) then
          k .ret T17o (HR1 B B' r r' 0 0 0 20 n f best) ([.c 4 0 1, .c 3 0 2, .c 2 0 1, .c 10 0 5] ++ L)
        else loop17 F fuel (T17 n (W (i + 1))) (HR1 B B' r r' 0 0 0 0 n f best) ([.c 10 0 5] ++ L) k
        else none else none
      else loop17 F fuel (T17 n (W (i + 1))) (HR1 B B' r r' 0 0 0 0 n f best) ([.c 10 0 5] ++ L) k
    else none else none
    else k (.exit 2) T17o (HR1 B B' r r' 0 0 0 0 n f best) L := by kernel_rfl
theorem entry17 {α : Type} (B B' : BodyR) (r r' : Ray) (n : Nat) (f : Nat → Tg) (b best : Int) (F : Nat) (L : List Foot) (k : KT α) : code11 F (fstC tail17) (T16 n b) (HR1 B B' r r' 0 0 0 0 n f best) L k =
    loop17 F F (T17 n 0) (HR1 B B' r r' 0 0 0 0 n f best) L (fun ex T H L => match ex with
      | .exit i => cond (i == 2) (k .normal T H L) (k (.exit i) T H L)
      | e => k e T H L) := by kernel_rfl

/-- Another face could be hit first: from i on, for k. -/
def ambG (f : Nat → Tg) (b : Nat) : Nat → Nat → Bool
  | _, 0 => false
  | i, k + 1 => (!decide (i = b) && decide ((f i).least ≤ (f b).most)) || ambG f b (i + 1) k
theorem run17 {α : Type} (B B' : BodyR) (r r' : Ray) (n : Nat) (f : Nat → Tg) (b : Nat) (hb : b < n) (hn : n < 4611686018427387904) (F : Nat) : ∀ (k i fuel : Nat) (L : List Foot), i + k = n → k < fuel → ∃ L', ∀ K : KT α,
    loop17 F fuel (T17 n i) (HR1 B B' r r' 0 0 0 0 n f b) L K = bif ambG f b i k then K .ret T17o (HR1 B B' r r' 0 0 0 20 n f b) L' else K (.exit 2) T17o (HR1 B B' r r' 0 0 0 0 n f b) L'
  | 0, i, fuel + 1, L, h, _ => ⟨L, fun K => by rw [step17, decide_eq_false (show ¬ (i : Int) < n by omega)]; rfl⟩
  | k + 1, i, fuel + 1, L, h, hf => by
    obtain ⟨L', ih⟩ := run17 (α := α) B B' r r' n f b hb hn F k (i + 1) fuel ([.c 10 0 5] ++ L) (by omega) (by omega)
    have w1 : W ((i : Int) + 1) = ((i + 1 : Nat) : Int) := by unfold W; rw [wr (by omega) (by omega)]; omega
    have d1 := decide_eq_true (show (i : Int) < n by omega)
    have d2 := decide_eq_true (show (0 : Int) ≤ i by omega)
    have d3 := decide_eq_true (show (i : Nat) < n by omega)
    have d4 := decide_eq_true (show (0 : Int) ≤ (b : Int) by omega)
    have d5 := decide_eq_true (show (b : Int) < n by omega)
    have d6 := decide_eq_true (show b < n by omega)
    have base := fun K : KT α => step17 B B' r r' n f b i F fuel L K
    simp only [Int.toNat_natCast, Nat.zero_add, d1, d2, d3, d4, d5, d6, Bool.and_self, cond_true, w1] at base
    unfold ambG
    by_cases hib : i = b
    · have e1 : decide ((i : Int) = b) = true := decide_eq_true (by omega)
      refine ⟨L', fun K => ?_⟩
      rw [base K, e1, decide_eq_true hib]
      simp only [Bool.not_true, cond_false, Bool.false_and, Bool.false_or]
      exact ih K
    · have e1 : decide ((i : Int) = b) = false := decide_eq_false (by omega)
      cases hd : decide ((f i).least ≤ (f b).most)
      · refine ⟨L', fun K => ?_⟩
        rw [base K, e1, hd, decide_eq_false hib]
        simp only [Bool.not_false, cond_true, cond_false, Bool.and_false, Bool.false_or]
        exact ih K
      · refine ⟨[.c 4 0 1, .c 3 0 2, .c 2 0 1, .c 10 0 5] ++ L, fun K => ?_⟩
        rw [base K, e1, hd, decide_eq_false hib]
        simp only [Bool.not_false, cond_true, Bool.and_self, Bool.true_or]

def idxN (b : Int) (n : Nat) (X : R) : R := bif decide (0 ≤ b) && decide (b < n) then bif decide (0 + b.toNat < n) then X else none else none
theorem a22 (B B' : BodyR) (r r' : Ray) (n : Nat) (f : Nat → Tg) (best : Int) (F : Nat) (L : List Foot) : code11 F tail22 T17o (HR1 B B' r r' 0 0 0 0 n f best) L kfin11 =
    idxN best n (idxN best n (bif !vI (f (0 + best.toNat)).least (f (0 + best.toNat)).most then hitR 0 0 0 3 else idxN best n (hitR (f (0 + best.toNat)).face (f (0 + best.toNat)).least (f (0 + best.toNat)).most 0))) := by kernel_rfl
theorem h12 (B B' : BodyR) (r r' : Ray) (n : Nat) (f : Nat → Tg) (best : Int) (F : Nat) (L : List Foot) : code11 F tail12 T11 (HR1 B B' r r' 0 0 0 0 n f best) L kfin11 =
    bif decide ((n : Int) = 0) then hitR 0 0 0 7 else bif decide (best < 0) then hitR 0 0 0 20 else code11 F tail17 (T16 n best) (HR1 B B' r r' 0 0 0 0 n f best) L kfin11 := by kernel_rfl
def mkB (ad ad' : Option Addr) (n m cap cap' : Nat) (v u : Nat → Nat → Int) (x : Iv) : BodyR := ⟨ad, ad', n, m, cap, cap', arrC 6 v, arrC 2 u, x⟩
theorem a12n' (B B' : BodyR) (r r' : Ray) (best : Int) (F : Nat) (L : List Foot) : code11 F tail12 T11 (HB B.c B'.c r r' 0 0 0 0 .nils best) L kfin11 = hitR 0 0 0 7 := by kernel_rfl
noncomputable def pre11 : Code := .seq (.seq (.seq (fstC body11) (fstC (sndC body11))) (fstC (sndC (sndC body11)))) (fstC (sndC (sndC (sndC body11))))
noncomputable def tail5 : Code := sndC (sndC (sndC (sndC body11)))

/-- Temporaries by number; the others are fresh. -/
def TU (n : Nat) (l : List (Nat × V)) : List V := (List.range n).map fun i => (look l i).getD undefV
def T5 (b : List C) (r : Ray) (vv rv : Bool) : List V := TU 103 [(0, .u (.a b)), (1, rayV r), (2, .u (.c (.ptr 0 0))), (3, .u (.c (.ptr 1 0))), (4, .u (.c (.ptr 2 0))), (5, .u (.c (.ptr 3 0))), (6, .u (.c (.ptr 4 0))), (7, .u (.c (.ptr 5 0))), (8, .u (.c (.ptr 6 0))), (12, .u (.a b)), (13, .u (.c (.bool vv))), (14, .u (.c (.bool !vv))), (15, .u (.c (.bool false))), (16, rayV r), (17, .u (.c (.bool rv))), (18, .u (.c (.bool !rv))), (19, .u (.c (.bool false)))]
def H5 (b : List C) (r : Ray) : Heap := [some (.cells b), some (.cells (rayC r)), some (.cells [.int .i64 0]), some (.cells [.int .i64 0, .int .i64 0]), some (.cells [.int .i64 0]), some (.cells [.nils]), some (.cells [.int .i64 (-1)])]
theorem e11 (ad ad' : Option Addr) (n m cap cap' : Nat) (v u : Nat → Nat → Int) (x : Iv) (r : Ray) (F : Nat) (X : List V → Heap → List Foot → R) : code11 F pre11 ([bodyV ad ad' n m cap cap' v u x, rayV r] ++ undefs 101) [] [] (fun ex T H L => match ex with
      | .normal => X T H L
      | e => kfin11 e T H L) =
    bif allN (fun j => isInts 6 (arrC 6 v j)) n then bif allN (fun j => isInts 2 (arrC 2 u j)) m then
      bif !validB n m (numOf (arrC 6 v)) (numOf (arrC 2 u)) x then hitR 0 0 0 1 else bif !(r.pt.v && r.dir.v) then hitR 0 0 0 1 else
      X (T5 (mkB ad ad' n m cap cap' v u x).c r (validB n m (numOf (arrC 6 v)) (numOf (arrC 2 u)) x) (r.pt.v && r.dir.v)) (H5 (mkB ad ad' n m cap cap' v u x).c r) [.c 6 0 1]
    else none else none := by kernel_rfl
theorem e5 {α : Type} (ad ad' : Option Addr) (n m cap cap' : Nat) (v u : Nat → Nat → Int) (x : Iv) (r : Ray) (vv rv : Bool) (F : Nat) (L : List Foot) (k : KT α) : code11 F (fstC tail5) (T5 (mkB ad ad' n m cap cap' v u x).c r vv rv) (H5 (mkB ad ad' n m cap cap' v u x).c r) L k =
    bif ok6 (mkB ad ad' n m cap cap' v u x) then
      bif !decide ((hitOf (mkB ad ad' n m cap cap' v u x) r).e = 0) then
        bif Nat.beq (hitOf (mkB ad ad' n m cap cap' v u x) r).n 0 then k .ret T11 (HB (mkB ad ad' n m cap cap' v u x).c (mkB ad ad' n m cap cap' v u x).c r r 0 0 0 (hitOf (mkB ad ad' n m cap cap' v u x) r).e .nils (hitOf (mkB ad ad' n m cap cap' v u x) r).b) (L11 ++ L)
        else k .ret T11 (HR1 (mkB ad ad' n m cap cap' v u x) (mkB ad ad' n m cap cap' v u x) r r 0 0 0 (hitOf (mkB ad ad' n m cap cap' v u x) r).e (hitOf (mkB ad ad' n m cap cap' v u x) r).n (hitOf (mkB ad ad' n m cap cap' v u x) r).f (hitOf (mkB ad ad' n m cap cap' v u x) r).b) (L11 ++ L)
      else bif Nat.beq (hitOf (mkB ad ad' n m cap cap' v u x) r).n 0 then k .normal T11 (HB (mkB ad ad' n m cap cap' v u x).c (mkB ad ad' n m cap cap' v u x).c r r 0 0 0 0 .nils (hitOf (mkB ad ad' n m cap cap' v u x) r).b) (L11 ++ L)
        else k .normal T11 (HR1 (mkB ad ad' n m cap cap' v u x) (mkB ad ad' n m cap cap' v u x) r r 0 0 0 0 (hitOf (mkB ad ad' n m cap cap' v u x) r).n (hitOf (mkB ad ad' n m cap cap' v u x) r).f (hitOf (mkB ad ad' n m cap cap' v u x) r).b) (L11 ++ L)
    else none := by kernel_rfl

theorem codeA_assoc {α : Type} {P : Program} {call : CallT α} {fuel : Nat} {lvs : List (Nat × LV)} (a b c : Code) (T : List V) (H : Heap) (L : List Foot) (k : KT α) : codeA P call fuel lvs (.seq a (.seq b c)) T H L k = codeA P call fuel lvs (.seq (.seq a b) c) T H L k := by
  show codeA P call fuel lvs a T H L _ = codeA P call fuel lvs a T H L _
  congr 1
  funext ex T H L
  cases ex <;> rfl
theorem body11_eq : body11 = .seq (fstC body11) (.seq (fstC (sndC body11)) (.seq (fstC (sndC (sndC body11))) (.seq (fstC (sndC (sndC (sndC body11)))) tail5))) := by kernel_rfl
theorem tail5_eq : tail5 = .seq (fstC tail5) tail12 := by kernel_rfl
theorem tail17_eq : tail17 = .seq (fstC tail17) tail22 := by kernel_rfl
theorem seq11 {α : Type} (F : Nat) (a b : Code) (T : List V) (H : Heap) (L : List Foot) (k : KT α) : code11 F (.seq a b) T H L k = code11 F a T H L (fun ex T H L => match ex with
    | .normal => code11 F b T H L k
    | e => k e T H L) := rfl
theorem assoc11 {α : Type} (F : Nat) (a b c : Code) (T : List V) (H : Heap) (L : List Foot) (k : KT α) : code11 F (.seq a (.seq b c)) T H L k = code11 F (.seq (.seq a b) c) T H L k := codeA_assoc a b c T H L k
theorem ans11 (b : List C) (r : Ray) (F : Nat) : ans Try.prog orcT11 [(11, Try.f11, lv11), (28, Try.f28, [])] F 6 11 [.u (.a b), rayV r] = code11 F body11 ([.u (.a b), rayV r] ++ undefs 101) [] [] kfin11 := by kernel_rfl
theorem ret_nil (B B' : BodyR) (r r' : Ray) (e best : Int) (L : List Foot) : kfin11 .ret T11 (HB B.c B'.c r r' 0 0 0 e .nils best) L = hitR 0 0 0 e := by kernel_rfl
theorem ret_row (B B' : BodyR) (r r' : Ray) (n : Nat) (f : Nat → Tg) (e best : Int) (L : List Foot) : kfin11 .ret T11 (HR1 B B' r r' 0 0 0 e n f best) L = hitR 0 0 0 e := by kernel_rfl
theorem ret_row' (B B' : BodyR) (r r' : Ray) (n : Nat) (f : Nat → Tg) (e best : Int) (L : List Foot) : kfin11 .ret T17o (HR1 B B' r r' 0 0 0 e n f best) L = hitR 0 0 0 e := by kernel_rfl
def goHit (s : HG) : R := bif Nat.beq s.n 0 then hitR 0 0 0 7 else bif decide (s.b < 0) then hitR 0 0 0 20 else bif ambG s.f s.b.toNat 0 s.n then hitR 0 0 0 20 else
  bif !vI (s.f s.b.toNat).least (s.f s.b.toNat).most then hitR 0 0 0 3 else hitR (s.f s.b.toNat).face (s.f s.b.toNat).least (s.f s.b.toNat).most 0
theorem seq_ret {α : Type} {F : Nat} {a b : Code} {T : List V} {H : Heap} {L : List Foot} {T1 : List V} {H1 : Heap} {L1 : List Foot} (h : ∀ k : KT α, code11 F a T H L k = k .ret T1 H1 L1) (k : KT α) : code11 F (.seq a b) T H L k = k .ret T1 H1 L1 := h _
theorem seq_go {α : Type} {F : Nat} {a b : Code} {T : List V} {H : Heap} {L : List Foot} {T1 : List V} {H1 : Heap} {L1 : List Foot} (h : ∀ k : KT α, code11 F a T H L k = k .normal T1 H1 L1) (k : KT α) : code11 F (.seq a b) T H L k = code11 F b T1 H1 L1 k := h _
theorem exit2 {α : Type} (k : KT α) (T : List V) (H : Heap) (L : List Foot) : (match Ex.exit 2 with
      | .exit i => cond (i == 2) (k .normal T H L) (k (.exit i) T H L)
      | e => k e T H L) = k .normal T H L := rfl
theorem mid17 {α : Type} (B B' : BodyR) (r r' : Ray) (n : Nat) (f : Nat → Tg) (b : Nat) (hb : b < n) (hn : n ≤ 100000) (F : Nat) (hF : 100000 < F) (L : List Foot) : ∃ L', ∀ k : KT α, code11 F (fstC tail17) (T16 n b) (HR1 B B' r r' 0 0 0 0 n f b) L k =
    bif ambG f b 0 n then k .ret T17o (HR1 B B' r r' 0 0 0 20 n f b) L' else k .normal T17o (HR1 B B' r r' 0 0 0 0 n f b) L' := by
  obtain ⟨L', hrun⟩ := run17 (α := α) B B' r r' n f b hb (by omega) F n 0 F L (by omega) (by omega)
  refine ⟨L', fun k => ?_⟩
  rw [entry17]
  refine (hrun _).trans ?_
  cases ambG f b 0 n
  · exact exit2 k _ _ _
  · rfl
theorem tail_eq (B B' : BodyR) (r r' : Ray) (s : HG) (hb : s.b < Int.ofNat s.n) (hn : s.n ≤ 100000) (hz : s.n ≠ 0) (F : Nat) (hF : 100000 < F) (L : List Foot) : code11 F tail12 T11 (HR1 B B' r r' 0 0 0 0 s.n s.f s.b) L kfin11 = goHit s := by
  rw [h12, decide_eq_false (show ¬ ((s.n : Int) = 0) by omega)]
  unfold goHit
  rw [show Nat.beq s.n 0 = false from by cases h : Nat.beq s.n 0 with
    | false => rfl
    | true => exact absurd (Nat.eq_of_beq_eq_true h) hz]
  simp only [cond_false]
  cases hbn : decide (s.b < 0)
  · have h0 : 0 ≤ s.b := by simpa using hbn
    simp only [cond_false]
    obtain ⟨b, hbb⟩ : ∃ b : Nat, s.b = b := ⟨s.b.toNat, by omega⟩
    have hlt : b < s.n := by rw [hbb] at hb; simpa using hb
    rw [hbb, tail17_eq]
    obtain ⟨L', hmid⟩ := mid17 (α := V × Heap) B B' r r' s.n s.f b hlt hn F hF L
    simp only [Int.toNat_natCast]
    cases ha : ambG s.f b 0 s.n
    · simp only [cond_false]
      rw [ha] at hmid
      rw [seq_go hmid, a22]
      unfold idxN
      rw [decide_eq_true (show (0 : Int) ≤ (b : Int) by omega), decide_eq_true (show (b : Int) < s.n by omega)]
      simp only [Int.toNat_natCast, Nat.zero_add, Bool.and_self, cond_true]
      rw [decide_eq_true hlt]
      simp only [cond_true]
    · simp only [cond_true]
      rw [ha] at hmid
      rw [seq_ret hmid, ret_row']
  · simp only [cond_true]
/-- The first face that a ray hits, or an error. -/
def hitS (v u : Nat → Nat → Int) (r : Ray) (n : Nat) : HG := hitGo (tgs v u r n 0) 0 (fun _ => ⟨0, 0, 0, false, 0⟩) (-1)
def hitE (n m : Nat) (v u : Nat → Nat → Int) (x : Iv) (r : Ray) : Er (Int × Iv) :=
  bif !validB n m v u x then .error 0 else bif !(r.pt.v && r.dir.v) then .error 0 else
  bif !decide ((hitS v u r n).e = 0) then .error ((hitS v u r n).e.toNat - 1) else
  bif Nat.beq (hitS v u r n).n 0 then .error 6 else bif decide ((hitS v u r n).b < 0) then .error 19 else bif ambG (hitS v u r n).f (hitS v u r n).b.toNat 0 (hitS v u r n).n then .error 19 else
  bif !vI ((hitS v u r n).f (hitS v u r n).b.toNat).least ((hitS v u r n).f (hitS v u r n).b.toNat).most then .error 2
  else .ok (((hitS v u r n).f (hitS v u r n).b.toNat).face, ⟨((hitS v u r n).f (hitS v u r n).b.toNat).least, ((hitS v u r n).f (hitS v u r n).b.toNat).most⟩)
def resH (e : Er (Int × Iv)) : Tree := .test (okE e) (.leaf (.t [ui (getE (0, iv0) e).1, ivU (getE (0, iv0) e).2, ui 0])) (.leaf (.t [ui 0, ivU iv0, eC (erE e)]))
theorem hitGo_inv : ∀ (xs : List Tg) (n : Nat) (f : Nat → Tg) (b : Int), -1 ≤ b → b < Int.ofNat n → -1 ≤ (hitGo xs n f b).b ∧ (hitGo xs n f b).b < Int.ofNat (hitGo xs n f b).n ∧ (hitGo xs n f b).n ≤ n + xs.length
  | [], n, f, b, h1, h2 => ⟨h1, h2, Nat.le_refl _⟩
  | x :: xs, n, f, b, h1, h2 => by
    unfold hitGo
    cases !decide (x.e = 0)
    · simp only [cond_false]
      have hn : -1 ≤ nextB n f b x ∧ nextB n f b x < Int.ofNat (n + 1) := by
        unfold nextB
        cases x.sure && (decide (b < 0) || decide (x.most < (f b.toNat).most))
        · exact ⟨h1, by simp only [cond_false, Int.ofNat_eq_natCast] at h2 ⊢; omega⟩
        · simp only [cond_true, Int.ofNat_eq_natCast]; omega
      obtain ⟨g1, g2, g3⟩ := hitGo_inv xs (n + 1) (putF f n x) (nextB n f b x) hn.1 hn.2
      exact ⟨g1, g2, by rw [List.length_cons]; omega⟩
    · simp only [cond_true]
      exact ⟨h1, h2, by omega⟩
theorem hitGo_pos : ∀ (xs : List Tg) (n : Nat) (f : Nat → Tg) (b : Int), (∀ x ∈ xs, 0 ≤ x.e) → 0 ≤ (hitGo xs n f b).e
  | [], n, f, b, h => Int.le_refl _
  | x :: xs, n, f, b, h => by
    unfold hitGo
    cases !decide (x.e = 0)
    · exact hitGo_pos xs _ _ _ fun y hy => h y (List.mem_cons_of_mem _ hy)
    · exact h x (List.mem_cons_self ..)
theorem tgs_pos (v u : Nat → Nat → Int) (r : Ray) : ∀ (k i : Nat), ∀ x ∈ tgs v u r k i, 0 ≤ x.e
  | 0, i, x, hx => by cases hx
  | k + 1, i, x, hx => by
    have he : ∀ e : Nat, x ∈ [tgE e] → 0 ≤ x.e := fun e h => by rw [List.mem_singleton.1 h]; exact Int.natCast_nonneg _
    unfold tgs at hx
    cases h1 : okE (cosE v r i)
    · rw [h1] at hx; exact he _ hx
    rw [h1] at hx
    cases h2 : okE (dotE (bxOf v i) r.pt)
    · rw [h2] at hx; exact he _ hx
    rw [h2] at hx
    cases h3 : okE (gapE v u r i)
    · rw [h3] at hx; exact he _ hx
    rw [h3] at hx
    cases h4 : decide ((getE iv0 (cosE v r i)).hi ≤ 0)
    · rw [h4] at hx
      rcases List.mem_cons.1 hx with rfl | hx
      · unfold tgN
        cases decide (0 < (getE iv0 (cosE v r i)).lo) <;> exact Int.le_refl _
      · exact tgs_pos v u r k (i + 1) x hx
    · rw [h4] at hx; exact tgs_pos v u r k (i + 1) x hx
theorem bx_arr' (v : Nat → Nat → Int) : bxOf (numOf (arrC 6 v)) = bxOf v := by
  funext j
  unfold bxOf
  rw [num_arr (by omega), num_arr (by omega), num_arr (by omega), num_arr (by omega), num_arr (by omega), num_arr (by omega)]
theorem iv_arr' (v : Nat → Nat → Int) : ivOf (numOf (arrC 2 v)) = ivOf v := by
  funext j
  unfold ivOf
  rw [num_arr (by omega), num_arr (by omega)]
theorem tgs_arr (v u : Nat → Nat → Int) (r : Ray) : ∀ (k i : Nat), tgs (numOf (arrC 6 v)) (numOf (arrC 2 u)) r k i = tgs v u r k i
  | 0, i => rfl
  | k + 1, i => by
    unfold tgs cosE gapE
    rw [bx_arr', iv_arr', tgs_arr v u r k (i + 1)]
theorem valid_arr (n m : Nat) (v u : Nat → Nat → Int) (x : Iv) : validB n m (numOf (arrC 6 v)) (numOf (arrC 2 u)) x = validB n m v u x := by
  unfold validB
  rw [bx_arr', iv_arr']
end Go.Proofs.Ytbgdfikfldkjbaa.AI
