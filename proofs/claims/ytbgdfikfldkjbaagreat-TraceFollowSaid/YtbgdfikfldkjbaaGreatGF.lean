/- The reference's reaches, told. -/
import Derived.Test.YtbgdfikfldkjbaaGreatGD
namespace Go.Proofs.YtbgdfikfldkjbaaGreat.AI
set_option linter.unnecessarySimpa false
open Go
set_option linter.unusedVariables false
set_option linter.unusedSimpArgs false
def TReo (c : Nat) : List V := TT 93 [(4, .u (.c .nils)), (5, .u (ui 0)), (6, .u (.c (.row 2 4 0 c true)))]
/-- From the first face on: the row lies elsewhere. -/
def HReB (b : List C) (r : Ray) (c : Nat) (f : Nat → Tg) : Heap := [some (.cells b), some (.cells (rayC r)), none, some (.row 95 4 c (fun j => rcC (f j)) true)]
def TReB (c : Nat) (i : Int) : List V := TT 93 [(2, .u (.c (.ptr 0 0))), (3, .u (.c (.ptr 1 0))), (4, .u (.c .nils)), (5, .u (ui 0)), (6, .u (.c (.row 3 4 0 c true))), (7, .u (ui i))]
def TReBo (c : Nat) : List V := TT 93 [(4, .u (.c .nils)), (5, .u (ui 0)), (6, .u (.c (.row 3 4 0 c true)))]
def errRe (e : Nat) : R := some (.t [.c .nils, eC e], [])
def appRe (c : Nat) (X : R) : R := bif decide (c ≤ c) then bif decide ((c + 1) * 32 ≤ 140737488355328) && decide (c + 1 ≤ 140737488355328) then X else none else none
def roundRe (q : Int → Int → Int) (n m c : Nat) (i : Int) (p1 p2 p3 : Er Iv) (X : R) (Y Z : Tg → R) : R :=
  bif decide (0 ≤ i) && decide (i < n) then bif okE p1 then bif decide (0 ≤ i) && decide (i < n) then bif okE p2 then bif decide (0 ≤ i) && decide (i < m) then bif okE p3 then
    bif decide ((getE iv0 p1).hi ≤ 0) then X else quoK q (W (pos (getE iv0 p3).lo * 16777216)) (getE iv0 p1).hi fun l =>
      bif decide (0 < (getE iv0 p1).lo) then quoK q (W (W (0 - pos (getE iv0 p3).hi) * 16777216)) (getE iv0 p1).lo fun h => appRe c (Y ⟨i, l, W (0 - h), decide (0 < (getE iv0 p1).lo), 0⟩) else appRe c (Z ⟨i, l, 0, decide (0 < (getE iv0 p1).lo), 0⟩)
  else errRe (erE p3) else none else errRe (erE p2) else none else errRe (erE p1) else none
theorem stepReA (dot : Bx → Bx → Er Iv) (sub : Iv → Iv → Er Iv) (q : Int → Int → Int) (ad ad' : Option Addr) (n m cap cap' : Nat) (v u : Nat → Nat → Int) (x : Iv) (r : Ray) (c : Nat) (f : Nat → Tg) (i : Int) (F fuel : Nat) (L : List Foot) :
    loopRe dot sub q F (fuel + 1) (TRe c i) (HRe (bodyA ad ad' n m cap cap' v u x) r c f) L (KRe dot sub q F) =
    bif decide (i < n) then roundRe q n m c i (dot (bxOf v i.toNat) r.dir) (dot (bxOf v i.toNat) r.pt) (sub (ivOf u i.toNat) (getE iv0 (dot (bxOf v i.toNat) r.pt)))
      (loopRe dot sub q F fuel (TRe c (W (i + 1))) (HRe (bodyA ad ad' n m cap cap' v u x) r c f) ([.c 5 0 2, .c 4 0 2, .c 3 0 2] ++ L) (KRe dot sub q F))
      (fun y => loopRe dot sub q F fuel (TReB (c + 1) (W (i + 1))) (HReB (bodyA ad ad' n m cap cap' v u x) r (c + 1) (putF f c y)) ([.r 2, .c 6 2 1, .c 6 0 4, .c 5 0 2, .c 4 0 2, .c 3 0 2] ++ L) (KRe dot sub q F))
      (fun y => loopRe dot sub q F fuel (TReB (c + 1) (W (i + 1))) (HReB (bodyA ad ad' n m cap cap' v u x) r (c + 1) (putF f c y)) ([.r 2, .c 6 0 4, .c 5 0 2, .c 4 0 2, .c 3 0 2] ++ L) (KRe dot sub q F))
    else KRe dot sub q F (.exit 0) (TReo c) (HRe (bodyA ad ad' n m cap cap' v u x) r c f) L := by kernel_rfl
theorem stepReB (dot : Bx → Bx → Er Iv) (sub : Iv → Iv → Er Iv) (q : Int → Int → Int) (ad ad' : Option Addr) (n m cap cap' : Nat) (v u : Nat → Nat → Int) (x : Iv) (r : Ray) (c : Nat) (f : Nat → Tg) (i : Int) (F fuel : Nat) (L : List Foot) :
    loopRe dot sub q F (fuel + 1) (TReB c i) (HReB (bodyA ad ad' n m cap cap' v u x) r c f) L (KRe dot sub q F) =
    bif decide (i < n) then roundRe q n m c i (dot (bxOf v i.toNat) r.dir) (dot (bxOf v i.toNat) r.pt) (sub (ivOf u i.toNat) (getE iv0 (dot (bxOf v i.toNat) r.pt)))
      (loopRe dot sub q F fuel (TReB c (W (i + 1))) (HReB (bodyA ad ad' n m cap cap' v u x) r c f) ([.c 6 0 2, .c 5 0 2, .c 4 0 2] ++ L) (KRe dot sub q F))
      (fun y => loopRe dot sub q F fuel (TReB (c + 1) (W (i + 1))) (HReB (bodyA ad ad' n m cap cap' v u x) r (c + 1) (putF f c y)) ([.r 3, .c 7 2 1, .c 7 0 4, .c 6 0 2, .c 5 0 2, .c 4 0 2] ++ L) (KRe dot sub q F))
      (fun y => loopRe dot sub q F fuel (TReB (c + 1) (W (i + 1))) (HReB (bodyA ad ad' n m cap cap' v u x) r (c + 1) (putF f c y)) ([.r 3, .c 7 0 4, .c 6 0 2, .c 5 0 2, .c 4 0 2] ++ L) (KRe dot sub q F))
    else KRe dot sub q F (.exit 0) (TReBo c) (HReB (bodyA ad ad' n m cap cap' v u x) r c f) L := by kernel_rfl
/-- What reaches answers: how many, and what they are. -/
def rowRe (c : Nat) (f : Nat → Tg) : R := some (.t [.c (.row 0 4 0 c true), ui 0], [some (.row 95 4 c (fun j => rcC (f j)) true)])
theorem entryRe (dot : Bx → Bx → Er Iv) (sub : Iv → Iv → Er Iv) (q : Int → Int → Int) (ad ad' : Option Addr) (n m cap cap' : Nat) (v u : Nat → Nat → Int) (x : Iv) (r : Ray) (F : Nat) : ans Tryz.prog (orcRe dot sub q) [(35, Tryz.f35, lvRe)] F 3 35 [.u (.a (bodyA ad ad' n m cap cap' v u x)), rayV r] =
    loopRe dot sub q F F (TRe 0 0) (HRe (bodyA ad ad' n m cap cap' v u x) r 0 fun _ => ⟨0, 0, 0, false, 0⟩) [] (KRe dot sub q F) := by kernel_rfl
theorem finReA (dot : Bx → Bx → Er Iv) (sub : Iv → Iv → Er Iv) (q : Int → Int → Int) (b : List C) (r : Ray) (c : Nat) (f : Nat → Tg) (F : Nat) (L : List Foot) : KRe dot sub q F (.exit 0) (TReo c) (HRe b r c f) L = rowRe c f := by kernel_rfl
theorem finReB (dot : Bx → Bx → Er Iv) (sub : Iv → Iv → Er Iv) (q : Int → Int → Int) (b : List C) (r : Ray) (c : Nat) (f : Nat → Tg) (F : Nat) (L : List Foot) : KRe dot sub q F (.exit 0) (TReBo c) (HReB b r c f) L = rowRe c f := by kernel_rfl

/-- The faces that can be hit, from i on, for k; c of them, f, have come. -/
def reGo (v u : Nat → Nat → Int) (r : Ray) : Nat → Nat → Nat → (Nat → Tg) → Er (Nat × (Nat → Tg))
  | 0, _, c, f => .ok (c, f)
  | k + 1, i, c, f => bif okE (cosE v r i) then bif okE (dotE (bxOf v i) r.pt) then bif okE (gapE v u r i) then
      bif decide ((getE iv0 (cosE v r i)).hi ≤ 0) then reGo v u r k (i + 1) c f else reGo v u r k (i + 1) (c + 1) (putF f c (tgN (getE iv0 (cosE v r i)) (getE iv0 (gapE v u r i)) i))
    else .error (erE (gapE v u r i)) else .error (erE (dotE (bxOf v i) r.pt)) else .error (erE (cosE v r i))
def fz : Nat → Tg := fun _ => ⟨0, 0, 0, false, 0⟩
def valRe (e : Er (Nat × (Nat → Tg))) : R := bif okE e then rowRe (getE (0, fz) e).1 (getE (0, fz) e).2 else errRe (erE e)
theorem appRe_in {c : Nat} (h : c ≤ 1000) (X : R) : appRe c X = X := by
  unfold appRe
  rw [decide_eq_true (Nat.le_refl c), decide_eq_true (show (c + 1) * 32 ≤ 140737488355328 by omega), decide_eq_true (show c + 1 ≤ 140737488355328 by omega)]
  rfl
theorem round_re {n m c i : Nat} (hi : i < n) (hm : i < m) (hc : c ≤ 1000) {p1 p2 p3 : Er Iv} (hg : okE p3 = true → (getE iv0 p3).v = true) {X A B : R} {Y Z : Tg → R} (hX : X = A) (hY : ∀ t, Y t = Z t) (hB : Y (tgN (getE iv0 p1) (getE iv0 p3) i) = B) :
    roundRe dnq n m c i p1 p2 p3 X Y Z = bif okE p1 then bif okE p2 then bif okE p3 then bif decide ((getE iv0 p1).hi ≤ 0) then A else B else errRe (erE p3) else errRe (erE p2) else errRe (erE p1) := by
  unfold roundRe
  rw [decide_eq_true (show (0 : Int) ≤ (i : Int) by omega), decide_eq_true (show (i : Int) < n by omega), decide_eq_true (show (i : Int) < m by omega)]
  simp only [Bool.and_self, cond_true, appRe_in hc, ← hY]
  cases h1 : okE p1
  · rfl
  cases h2 : okE p2
  · rfl
  cases h3 : okE p3
  · rfl
  simp only [cond_true]
  have hg := hg h3
  generalize getE iv0 p1 = a at *
  generalize getE iv0 p3 = g at *
  cases h4 : decide (a.hi ≤ 0)
  · simp only [cond_false]
    simp only [Iv.v, vI_iff] at hg
    have h5 : 0 < a.hi := by simpa using h4
    have q1 := pos_bd (x := g.lo) (by omega) (by omega)
    have q2 := pos_bd (x := g.hi) (by omega) (by omega)
    have w1 : W (pos g.lo * 16777216) = pos g.lo * 16777216 := by unfold W; exact wr (by omega) (by omega)
    have w2 : W (W (0 - pos g.hi) * 16777216) = -(pos g.hi * 16777216) := by
      have : W (0 - pos g.hi) = 0 - pos g.hi := by unfold W; exact wr (by omega) (by omega)
      rw [this]; unfold W; rw [wr (by omega) (by omega)]; omega
    rw [w1, w2, quoK_in h5 (by omega) (by omega)]
    rw [← hB]
    unfold tgN
    cases h6 : decide (0 < a.lo)
    · rfl
    · have h7 : 0 < a.lo := by simpa using h6
      rw [cond_true, cond_true, quoK_in h7 (by omega) (by omega)]
      have e : W (0 - dnq (-(pos g.hi * 16777216)) a.lo) = upq (pos g.hi * 16777216) a.lo := by
        unfold dnq upq
        obtain ⟨N, hN⟩ : ∃ N, N = pos g.hi * 16777216 := ⟨_, rfl⟩
        rw [← hN]
        have hN0 : 0 ≤ N := by omega
        have hb1 : -N ≤ -N / a.lo := by
          refine Int.le_ediv_of_mul_le h7 ?_
          have : N * 1 ≤ N * a.lo := Int.mul_le_mul_of_nonneg_left (by omega) hN0
          rw [Int.neg_mul]; omega
        have hb2 : -N / a.lo ≤ 0 := Int.ediv_nonpos_of_nonpos_of_neg (by omega) (by omega)
        unfold W; rw [wr (by omega) (by omega)]; omega
      rw [e]
  · exact hX
theorem gap_ok {v u : Nat → Nat → Int} {r : Ray} {i : Nat} (h : okE (gapE v u r i) = true) : (getE iv0 (gapE v u r i)).v = true := sub_v h
theorem valRe_round {a b c : Er Iv} {d : Bool} {A B : Er (Nat × (Nat → Tg))} : (bif okE a then bif okE b then bif okE c then bif d then valRe A else valRe B else errRe (erE c) else errRe (erE b) else errRe (erE a)) =
    valRe (bif okE a then bif okE b then bif okE c then bif d then A else B else .error (erE c) else .error (erE b) else .error (erE a)) := by
  cases okE a
  · rfl
  cases okE b
  · rfl
  cases okE c
  · rfl
  cases d <;> rfl
theorem runReB (ad ad' : Option Addr) (n m cap cap' : Nat) (v u : Nat → Nat → Int) (x : Iv) (r : Ray) (hm : n ≤ m) (hn : n ≤ 1000) (F : Nat) : ∀ (k i fuel : Nat) (c : Nat) (f : Nat → Tg) (L : List Foot), i + k = n → k < fuel → c ≤ i →
    loopRe dotE subE dnq F fuel (TReB c i) (HReB (bodyA ad ad' n m cap cap' v u x) r c f) L (KRe dotE subE dnq F) = valRe (reGo v u r k i c f)
  | 0, i, fuel + 1, c, f, L, h, _, _ => by
    rw [stepReB, decide_eq_false (show ¬ (i : Int) < n by omega), cond_false, finReB]; rfl
  | k + 1, i, fuel + 1, c, f, L, h, hf, hc => by
    have w1 : W ((i : Int) + 1) = ((i + 1 : Nat) : Int) := by unfold W; rw [wr (by omega) (by omega)]; omega
    rw [stepReB, decide_eq_true (show (i : Int) < n by omega), cond_true, Int.toNat_natCast, w1]
    unfold reGo
    have ih1 := fun L => runReB ad ad' n m cap cap' v u x r hm hn F k (i + 1) fuel c f L (by omega) (by omega) (by omega)
    have ih2 := fun t L => runReB ad ad' n m cap cap' v u x r hm hn F k (i + 1) fuel (c + 1) (putF f c t) L (by omega) (by omega) (by omega)
    exact (round_re (p1 := cosE v r i) (p2 := dotE (bxOf v i) r.pt) (p3 := gapE v u r i) (by omega) (by omega) (by omega) gap_ok (ih1 _) (fun t => (ih2 t _).trans (ih2 t _).symm) (ih2 _ _)).trans valRe_round
theorem runReA (ad ad' : Option Addr) (n m cap cap' : Nat) (v u : Nat → Nat → Int) (x : Iv) (r : Ray) (hm : n ≤ m) (hn : n ≤ 1000) (F : Nat) : ∀ (k i fuel : Nat) (f : Nat → Tg) (L : List Foot), i + k = n → k < fuel →
    loopRe dotE subE dnq F fuel (TRe 0 i) (HRe (bodyA ad ad' n m cap cap' v u x) r 0 f) L (KRe dotE subE dnq F) = valRe (reGo v u r k i 0 f)
  | 0, i, fuel + 1, f, L, h, _ => by
    rw [stepReA, decide_eq_false (show ¬ (i : Int) < n by omega), cond_false, finReA]; rfl
  | k + 1, i, fuel + 1, f, L, h, hf => by
    have w1 : W ((i : Int) + 1) = ((i + 1 : Nat) : Int) := by unfold W; rw [wr (by omega) (by omega)]; omega
    rw [stepReA, decide_eq_true (show (i : Int) < n by omega), cond_true, Int.toNat_natCast, w1]
    unfold reGo
    have ih1 := fun L => runReA ad ad' n m cap cap' v u x r hm hn F k (i + 1) fuel f L (by omega) (by omega)
    have ih2 := fun t L => runReB ad ad' n m cap cap' v u x r hm hn F k (i + 1) fuel (0 + 1) (putF f 0 t) L (by omega) (by omega) (by omega)
    exact (round_re (p1 := cosE v r i) (p2 := dotE (bxOf v i) r.pt) (p3 := gapE v u r i) (by omega) (by omega) (by omega) gap_ok (ih1 _) (fun t => (ih2 t _).trans (ih2 t _).symm) (ih2 _ _)).trans valRe_round
theorem reaches_ans (ad ad' : Option Addr) (n m cap cap' : Nat) (v u : Nat → Nat → Int) (x : Iv) (r : Ray) (hm : n ≤ m) (hn : n ≤ 1000) : ans Tryz.prog (orcRe dotE subE dnq) [(35, Tryz.f35, lvRe)] 1001 3 35 [.u (.a (bodyA ad ad' n m cap cap' v u x)), rayV r] = valRe (reGo v u r n 0 0 fz) :=
  (entryRe dotE subE dnq ad ad' n m cap cap' v u x r 1001).trans (runReA ad ad' n m cap cap' v u x r hm hn 1001 n 0 1001 fz [] (by omega) (by omega))
/-- reaches: a body, a ray. -/
abbrev ReF := Nat → Nat → (Nat → Nat → Int) → (Nat → Nat → Int) → Ray → Er (Nat × (Nat → Tg))
def resRe (e : Er (Nat × (Nat → Tg))) : Tree := .test (okE e) (.own (.t [.c (.row 0 4 0 (getE (0, fz) e).1 true), ui 0]) [some (.row 95 4 (getE (0, fz) e).1 (fun j => rcC ((getE (0, fz) e).2 j)) true)]) (.leaf (.t [.c .nils, eC (erE e)]))
theorem resRe_val (e : Er (Nat × (Nat → Tg))) : (resRe e).val = valRe e := rfl
def F35r (re : ReF) : List A → Tree
  | [.a [.s k n v, .s k' m u, .i a, .i b], .a [.i a1, .i b1, .i a2, .i b2, .i a3, .i b3, .i c1, .i d1, .i c2, .i d2, .i c3, .i d3]] =>
    .test ((Nat.beq k 6 && Nat.beq k' 2) && (decide (n ≤ m) && decide (n ≤ 1000))) (resRe (re n m v u ⟨⟨⟨a1, b1⟩, ⟨a2, b2⟩, ⟨a3, b3⟩⟩, ⟨⟨c1, d1⟩, ⟨c2, d2⟩, ⟨c3, d3⟩⟩⟩)) .no
  | _ => .no
theorem F35r_val {re : ReF} {l : List A} {x : V × Heap} (h : (F35r re l).val = some x) : ∃ n m v u y r, l = [.a (bodyD n m v u y), .a (rayD r)] ∧ n ≤ m ∧ n ≤ 1000 ∧ (resRe (re n m v u r)).val = some x := by
  unfold F35r at h
  split at h
  · rename_i k n v k' m u a b a1 b1 a2 b2 a3 b3 c1 d1 c2 d2 c3 d3
    simp only [Tree.val] at h
    cases hc : ((Nat.beq k 6 && Nat.beq k' 2) && (decide (n ≤ m) && decide (n ≤ 1000)))
    · rw [hc] at h; cases h
    rw [hc, cond_true] at h
    simp only [Bool.and_eq_true, decide_eq_true_eq] at hc
    have hk := Nat.eq_of_beq_eq_true hc.1.1
    have hf := Nat.eq_of_beq_eq_true hc.1.2
    subst hk
    subst hf
    exact ⟨n, m, v, u, ⟨a, b⟩, ⟨⟨⟨a1, b1⟩, ⟨a2, b2⟩, ⟨a3, b3⟩⟩, ⟨⟨c1, d1⟩, ⟨c2, d2⟩, ⟨c3, d3⟩⟩⟩, rfl, hc.2.1, hc.2.2, h⟩
  · cases h
theorem realF2 {a b : A} {args : List V} (h : RealAs [a, b] args) : ∃ x y, args = [x, y] ∧ RealA a x ∧ RealA b y := by
  cases h with
  | cons h1 t => cases t with
    | cons h2 t => cases t; exact ⟨_, _, rfl, h1, h2⟩
theorem resRe_sc {e : Er (Nat × (Nat → Tg))} {x : V × Heap} (h : (resRe e).val = some x) : x.1 ≠ .any ∧ ∀ W, x.1.sc W (fun b => b < x.2.length) ∧ ScH W (fun b => b < x.2.length) x.2 := by
  unfold resRe at h
  simp only [Tree.val] at h
  cases he : okE e
  · rw [he] at h
    cases h
    refine ⟨fun e => (by cases e), fun W => ⟨fun u hu => ?_, fun b B hB => by rw [blk_nil] at hB; cases hB⟩⟩
    simp only [List.mem_cons, List.not_mem_nil, or_false] at hu
    rcases hu with rfl | rfl
    · exact AOk.nils
    · exact AOk.int _ _
  · rw [he] at h
    cases h
    refine ⟨fun e => (by cases e), fun W => ⟨fun u hu => ?_, fun b B hb => ?_⟩⟩
    · simp only [List.mem_cons, List.not_mem_nil, or_false] at hu
      rcases hu with rfl | rfl
      · show 0 < 1; omega
      · exact AOk.int _ _
    · have hall : ∀ (T : Nat → Prop) (t : Tg), ∀ x ∈ rcC t, x.sc W T := fun T t x hx => by
        simp only [rcC, List.mem_cons, List.not_mem_nil, or_false] at hx
        rcases hx with rfl | rfl | rfl | rfl
        · exact AOk.int _ _
        · exact AOk.int _ _
        · exact AOk.int _ _
        · exact AOk.bool _
      cases b with
      | zero =>
        cases hb
        exact ⟨fun i _ => ⟨rfl, hall _ _⟩, fun _ i _ => hall _ _⟩
      | succ b =>
        unfold blk at hb
        rw [nth_eq] at hb
        simp at hb
def reE : ReF := fun n _ v u r => reGo v u r n 0 0 fz
theorem gk35 : FnOk Tryz.prog 35 Tryz.f35 := fk Tryz.func35 (by kernel_rfl) rfl
theorem H35 : Told Tryz.prog 35 (fun args => argsT args (F35r reE)) := by
  refine told_args (fuel := 1001) (d := 3) (orc := orcRe dotE subE dnq) (fns := [(35, Tryz.f35, lvRe)]) mixed (orc_cons E14 (orc_cons H75 (orc_cons H76 orc_nil))) (fns_loops gk35 (fun c _ => untold fun p hp => by rw [lvRe, List.mem_singleton] at hp; rw [hp]) fns_nil) gk35.enter
    (args_all (Pd := fun x => x.1 ≠ .any ∧ ∀ W, x.1.sc W (fun b => b < x.2.length) ∧ ScH W (fun b => b < x.2.length) x.2) fun l x h => ?_) fun l x h args ha => ?_
  · obtain ⟨n, m, v, u, y, r, _, _, _, h⟩ := F35r_val h
    exact resRe_sc h
  · obtain ⟨n, m, v, u, y, r, rfl, h1, h2, h⟩ := F35r_val h
    obtain ⟨y1, y2, rfl, r1, r2⟩ := realF2 ha
    obtain ⟨ad, ad', cap, cap', e1⟩ := realF_body r1
    rw [e1, realF_ray r2, reaches_ans _ _ _ _ _ _ _ _ _ _ h1 h2]
    exact h
end Go.Proofs.YtbgdfikfldkjbaaGreat.AI
