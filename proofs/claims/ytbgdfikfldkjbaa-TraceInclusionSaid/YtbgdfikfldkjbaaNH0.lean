/- trace.targets: the faces that can be hit, as a list. -/
import Derived.Test.YtbgdfikfldkjbaaNV2
import Derived.Test.YtbgdfikfldkjbaaAY
namespace Go.Proofs.Ytbgdfikfldkjbaa.AI
set_option linter.unnecessarySimpa false
open Go
set_option linter.unusedVariables false
set_option linter.unusedSimpArgs false
/-- A face that can be hit, or an error. -/
structure Tg where
  face : Int
  least : Int
  most : Int
  sure : Bool
  e : Int
def tgC (t : Tg) : List C := [.int .i64 t.face, .int .i64 t.least, .int .i64 t.most, .bool t.sure, .int .i64 t.e]
def pos (x : Int) : Int := if x > 0 then x else 0
def tgE (e : Nat) : Tg := ⟨0, 0, 0, false, Int.ofNat (e + 1)⟩
noncomputable def body52 : Code := loopOf Try.f52 0
def orc52 (dot : Bx → Bx → Er Iv) (sub : Iv → Iv → Er Iv) (q : Int → Int → Int) : List (FuncId × (List V → Tree)) := [(53, s66 fun a b => resT (dot a b)), (54, sh2 sub), (55, quoT q)]
def lv52 : List (Nat × List Nat) := [(1, [0, 1, 2, 13, 14, 15])]
def H52 (ad ad' : Option Addr) (n m cap cap' : Nat) (v u : Nat → Nat → Int) (x : Iv) (r : Ray) : Heap := [some (.cells [.as ad 6 n cap (arrC 6 v), .as ad' 2 m cap' (arrC 2 u), .int .i64 x.lo, .int .i64 x.hi]), some (.cells (rayC r))]
def T52 (l : Nat) (ad : Option Addr) (n cap : Nat) (v : Nat → Nat → Int) (i : Int) : List V := TT 90 [(0, .u (.c (.yld l))), (1, .u (.c (.ptr 0 0))), (2, .u (.c (.ptr 1 0))), (13, .u (.c (.as ad 6 n cap (arrC 6 v)))), (14, .u (ui n)), (15, .u (ui i))]
def K52 : KY := fun ex T H L => match ex with
  | .exit i => cond (i == 0) (endY 2 .normal T H L) (endY 2 (.exit i) T H L)
  | e => endY 2 e T H L
noncomputable abbrev loop52 (dot : Bx → Bx → Er Iv) (sub : Iv → Iv → Er Iv) (q : Int → Int → Int) (F fuel : Nat) (T : List V) (H : Heap) : Option YT := loopY 2 [0, 1, 2, 13, 14, 15] (codeY Try.prog (env Try.prog (orc52 dot sub q) [] 9 3) F lv52 2 body52) fuel T H K52
def y1 (l : Nat) (t : Tg) (r : Option YT) : Option YT := yieldO l [.a (tgC t)] r (some .leaf)
/-- One face: c, p: the scalar products with the direction and the point; g: the distance that is left. -/
def face52 (q : Int → Int → Int) (l : Nat) (i : Int) (c p g : Er Iv) (X : Option YT) : Option YT :=
  bif decide ((getE iv0 c).hi ≤ 0) then X
  else bif inW (W (pos (getE iv0 g).lo * 16777216)) (getE iv0 c).hi then
    bif decide (0 < (getE iv0 c).lo) then bif inW (W (W (0 - pos (getE iv0 g).hi) * 16777216)) (getE iv0 c).lo then
      y1 l ⟨i, q (W (pos (getE iv0 g).lo * 16777216)) (getE iv0 c).hi, W (0 - q (W (W (0 - pos (getE iv0 g).hi) * 16777216)) (getE iv0 c).lo), true, 0⟩ X
    else none
    else y1 l ⟨i, q (W (pos (getE iv0 g).lo * 16777216)) (getE iv0 c).hi, 0, false, 0⟩ X
  else none
def rhs52 (q : Int → Int → Int) (l : Nat) (i : Int) (n m : Nat) (c p g : Er Iv) (X : Option YT) : Option YT :=
  bif decide (i < n) then bif decide (0 ≤ i) && decide (i < n) then bif okE c then bif okE p then
    bif decide (0 ≤ i) && decide (i < m) then bif okE g then face52 q l i c p g X
    else y1 l (tgE (erE g)) (some .leaf)
    else none
  else y1 l (tgE (erE p)) (some .leaf)
  else bif okE p then y1 l (tgE (erE c)) (some .leaf) else y1 l (tgE (erE c)) (some .leaf)
  else none else some .leaf
theorem step52 (dot : Bx → Bx → Er Iv) (sub : Iv → Iv → Er Iv) (q : Int → Int → Int) (l : Nat) (ad ad' : Option Addr) (n m cap cap' : Nat) (v u : Nat → Nat → Int) (y : Iv) (r : Ray) (i : Int) (F fuel : Nat) :
    loop52 dot sub q F (fuel + 1) (T52 l ad n cap v i) (H52 ad ad' n m cap cap' v u y r) =
    rhs52 q l i n m (dot (bxOf v i.toNat) r.dir) (dot (bxOf v i.toNat) r.pt) (sub (ivOf u i.toNat) (getE iv0 (dot (bxOf v i.toNat) r.pt))) (loop52 dot sub q F fuel (T52 l ad n cap v (W (i + 1))) (H52 ad ad' n m cap cap' v u y r)) := by kernel_rfl
theorem sub_v {x y : Iv} (h : okE (subE x y) = true) : (getE iv0 (subE x y)).v = true := by
  unfold subE mkE at *
  cases hv : x.v && y.v
  · rw [hv] at h; cases h
  simp only [hv, cond_true] at h ⊢
  cases hr : inR (x.lo - y.hi) (x.hi - y.lo)
  · rw [hr] at h; cases h
  rw [cond_true]
  simp only [Bool.and_eq_true, Iv.v, vI_iff] at hv
  simp only [inR, Bool.and_eq_true, decide_eq_true_eq] at hr
  simp only [getE, Iv.v, vI_iff]
  omega
def gapE (v u : Nat → Nat → Int) (r : Ray) (i : Nat) : Er Iv := subE (ivOf u i) (getE iv0 (dotE (bxOf v i) r.pt))
def cosE (v : Nat → Nat → Int) (r : Ray) (i : Nat) : Er Iv := dotE (bxOf v i) r.dir
def tgN (c g : Iv) (i : Nat) : Tg := bif decide (0 < c.lo) then ⟨i, dnq (pos g.lo * 16777216) c.hi, upq (pos g.hi * 16777216) c.lo, true, 0⟩ else ⟨i, dnq (pos g.lo * 16777216) c.hi, 0, false, 0⟩
/-- The faces that can be hit, from i on, for k; the first error ends them. -/
def tgs (v u : Nat → Nat → Int) (r : Ray) : Nat → Nat → List Tg
  | 0, _ => []
  | k + 1, i => bif okE (cosE v r i) then bif okE (dotE (bxOf v i) r.pt) then bif okE (gapE v u r i) then
      bif decide ((getE iv0 (cosE v r i)).hi ≤ 0) then tgs v u r k (i + 1) else tgN (getE iv0 (cosE v r i)) (getE iv0 (gapE v u r i)) i :: tgs v u r k (i + 1)
    else [tgE (erE (gapE v u r i))] else [tgE (erE (dotE (bxOf v i) r.pt))] else [tgE (erE (cosE v r i))]
def itemsT (ts : List Tg) : List (List U) := ts.map fun t => [.a (tgC t)]
theorem y1_tree (l : Nat) (t : Tg) (ts : List Tg) : y1 l t (some (treeOf l (itemsT ts))) = some (treeOf l (itemsT (t :: ts))) := rfl
theorem div_bd {a b : Int} (ha : 0 ≤ a) (hb : 0 < b) : 0 ≤ a / b ∧ a / b ≤ a := ⟨Int.ediv_nonneg ha (by omega), Int.ediv_le_self b ha⟩
theorem pos_bd {x : Int} (h : -1073741824 ≤ x) (h' : x ≤ 1073741824) : 0 ≤ pos x ∧ pos x ≤ 1073741824 := by unfold pos; split <;> omega
theorem face_eq (l i : Nat) (c p g : Er Iv) (hg : (getE iv0 g).v = true) (ts : List Tg) : face52 dnq l i c p g (some (treeOf l (itemsT ts))) = some (treeOf l (itemsT (bif decide ((getE iv0 c).hi ≤ 0) then ts else tgN (getE iv0 c) (getE iv0 g) i :: ts))) := by
  unfold face52
  generalize getE iv0 c = c at *
  generalize getE iv0 g = g at *
  cases h4 : decide (c.hi ≤ 0)
  · simp only [cond_false]
    simp only [Iv.v, vI_iff] at hg
    have h5 : 0 < c.hi := by simpa using h4
    have p1 := pos_bd (x := g.lo) (by omega) (by omega)
    have p2 := pos_bd (x := g.hi) (by omega) (by omega)
    have w1 : W (pos g.lo * 16777216) = pos g.lo * 16777216 := by unfold W; exact wr (by omega) (by omega)
    have w2 : W (W (0 - pos g.hi) * 16777216) = -(pos g.hi * 16777216) := by
      have : W (0 - pos g.hi) = 0 - pos g.hi := by unfold W; exact wr (by omega) (by omega)
      rw [this]; unfold W; rw [wr (by omega) (by omega)]; omega
    rw [w1, w2]
    have i1 : inW (pos g.lo * 16777216) c.hi = true := by simp [inW]; omega
    rw [i1]
    simp only [cond_true]
    unfold tgN
    cases h6 : decide (0 < c.lo)
    · simp only [cond_false]; exact y1_tree _ _ _
    · have h7 : 0 < c.lo := by simpa using h6
      have i2 : inW (-(pos g.hi * 16777216)) c.lo = true := by simp [inW]; omega
      rw [i2]
      simp only [cond_true]
      have e : W (0 - dnq (-(pos g.hi * 16777216)) c.lo) = upq (pos g.hi * 16777216) c.lo := by
        unfold dnq upq
        obtain ⟨N, hN⟩ : ∃ N, N = pos g.hi * 16777216 := ⟨_, rfl⟩
        rw [← hN]
        have hN0 : 0 ≤ N := by omega
        have hb1 : -N ≤ -N / c.lo := by
          refine Int.le_ediv_of_mul_le h7 ?_
          have : N * 1 ≤ N * c.lo := Int.mul_le_mul_of_nonneg_left (by omega) hN0
          rw [Int.neg_mul]; omega
        have hb2 : -N / c.lo ≤ 0 := Int.ediv_nonpos_of_nonpos_of_neg (by omega) (by omega)
        unfold W; rw [wr (by omega) (by omega)]; omega
      rw [e]; exact y1_tree _ _ _
  · rfl
theorem run52 (l : Nat) (ad ad' : Option Addr) (n m cap cap' : Nat) (v u : Nat → Nat → Int) (y : Iv) (r : Ray) (F : Nat) (hn : n < 4611686018427387904) (hm : n ≤ m) : ∀ (k i fuel : Nat), i + k = n → k < fuel →
    loop52 dotE subE dnq F fuel (T52 l ad n cap v i) (H52 ad ad' n m cap cap' v u y r) = some (treeOf l (itemsT (tgs v u r k i)))
  | 0, i, fuel + 1, h, _ => by
    rw [step52]; unfold rhs52; rw [decide_eq_false (show ¬ (i : Int) < n by omega)]; rfl
  | k + 1, i, fuel + 1, h, hf => by
    have ih := run52 l ad ad' n m cap cap' v u y r F hn hm k (i + 1) fuel (by omega) (by omega)
    rw [step52, show W ((i : Int) + 1) = ((i + 1 : Nat) : Int) by unfold W; rw [wr (by omega) (by omega)]; omega, ih]
    unfold rhs52
    rw [decide_eq_true (show (i : Int) < n by omega), decide_eq_true (show (0 : Int) ≤ i by omega), decide_eq_true (show (i : Int) < m by omega)]
    simp only [Bool.and_self, cond_true, Int.toNat_natCast]
    show (bif okE (cosE v r i) then bif okE (dotE (bxOf v i) r.pt) then bif okE (gapE v u r i) then face52 dnq l i (cosE v r i) (dotE (bxOf v i) r.pt) (gapE v u r i) _ else y1 l (tgE (erE (gapE v u r i))) (some .leaf) else y1 l (tgE (erE (dotE (bxOf v i) r.pt))) (some .leaf) else bif okE (dotE (bxOf v i) r.pt) then y1 l (tgE (erE (cosE v r i))) (some .leaf) else y1 l (tgE (erE (cosE v r i))) (some .leaf)) = _
    rw [tgs]
    cases h1 : okE (cosE v r i)
    · cases okE (dotE (bxOf v i) r.pt) <;> rfl
    cases h2 : okE (dotE (bxOf v i) r.pt)
    · rfl
    cases h3 : okE (gapE v u r i)
    · rfl
    simp only [cond_true]
    exact face_eq _ _ _ _ _ (sub_v h3) _

theorem entry52 (dot : Bx → Bx → Er Iv) (sub : Iv → Iv → Er Iv) (q : Int → Int → Int) (l : Nat) (ad ad' : Option Addr) (n m cap cap' : Nat) (v u : Nat → Nat → Int) (y : Iv) (r : Ray) (F : Nat) :
    codeY Try.prog (env Try.prog (orc52 dot sub q) [] 9 3) F lv52 2 (Try.f52.body.getD .skip) (.u (.c (.yld l)) :: [(0, 0), (1, 0)].map ptrV ++ undefs (Try.f52.ntmps - (1 + 2))) (H52 ad ad' n m cap cap' v u y r) [] (endY 2) = loop52 dot sub q F F (T52 l ad n cap v 0) (H52 ad ad' n m cap cap' v u y r) := by kernel_rfl
theorem as_arr {W : World} {ad : Option Addr} {k n cap : Nat} {g : Nat → List C} (h : allN (fun j => isInts k (g j)) n = true) (hs : AOk W (.as ad k n cap g)) : AOk W (.as ad k n cap (arrC k (numOf g))) := by
  have hg : ∀ j, j < n → g j = arrC k (numOf g) j := fun j hj => isInts_eq (allN_iff.1 h j hj)
  cases hs with
  | «as» _ _ _ _ _ hl hn hcap hok hcc =>
    exact AOk.as ad k n cap _ (fun i hi => by rw [← hg i hi]; exact hl i hi) hn hcap (fun i j x hi hx => hok i j x hi (by rw [hg i hi]; exact hx)) (fun i j x a hi hx ha => hcc i j x a hi (by rw [hg i hi]; exact hx) ha)
theorem tg_ids (t : Tg) : idsU (.a (tgC t)) = [] := rfl
theorem tg_sc (t : Tg) (W : World) (S : Nat → Prop) : (U.a (tgC t)).sc W S := by
  intro x hx
  simp only [tgC, List.mem_cons, List.not_mem_nil, or_false] at hx
  rcases hx with rfl | rfl | rfl | rfl | rfl
  · exact AOk.int _ _
  · exact AOk.int _ _
  · exact AOk.int _ _
  · exact AOk.bool _
  · exact AOk.int _ _
theorem rayC_sc (r : Ray) (W : World) (S : Nat → Prop) : ∀ x ∈ rayC r, x.sc W S := by
  intro x hx
  have : ∃ n, x = .int .i64 n := by
    simp only [rayC, bxC, List.mem_append, List.mem_cons, List.not_mem_nil, or_false] at hx
    rcases hx with hx | hx
    all_goals (rcases hx with rfl | rfl | rfl | rfl | rfl | rfl <;> exact ⟨_, rfl⟩)
  obtain ⟨n, rfl⟩ := this
  exact AOk.int _ _
theorem rayC_ids (r : Ray) : (rayC r).flatMap idsC = [] := rfl
theorem blk52 {ad ad' : Option Addr} {n m cap cap' : Nat} {v u : Nat → Nat → Int} {x : Iv} {r : Ray} {b : Nat} {B : Blk} (h : blk (H52 ad ad' n m cap cap' v u x r) b = some B) : (b = 0 ∧ B = .cells [.as ad 6 n cap (arrC 6 v), .as ad' 2 m cap' (arrC 2 u), .int .i64 x.lo, .int .i64 x.hi]) ∨ (b = 1 ∧ B = .cells (rayC r)) := by
  match b, h with
  | 0, h => cases h; exact .inl ⟨rfl, rfl⟩
  | 1, h => cases h; exact .inr ⟨rfl, rfl⟩
  | b + 2, h => have := blk_lt h; simp [H52] at this; omega
theorem mixed' : Try.prog.follows .mixedOrders = true := mixed
/-- What trace.targets yields, for a body and a ray in blocks p and q. -/
theorem targets_yield {H : Heap} {p q : Nat} {ad ad' : Option Addr} {n m cap cap' : Nat} {g g' : Nat → List C} {x : Iv} {r : Ray} (hp : blk H p = some (.cells [.as ad 6 n cap g, .as ad' 2 m cap' g', .int .i64 x.lo, .int .i64 x.hi])) (hq : blk H q = some (.cells (rayC r))) (hpq : p ≠ q)
    (h1 : allN (fun j => isInts 6 (g j)) n = true) (h2 : allN (fun j => isInts 2 (g' j)) m = true) (hn : n < 4611686018427387904) (hm : n ≤ m) {T : List V} (W : World) (S : Nat → Prop) (ρ : Ren) (a : Act) (w : World) (hs : St W S ρ T H a w) :
    Yields Try.prog 52 ([(p, 0), (q, 0)].map (pv ρ)).toArray ((itemsT (tgs (numOf g) (numOf g') r n 0)).map (·.map (U.den ρ))) ([(p, 0), (q, 0)].map fun p => (ρ p.1).r) (CapInv W ρ H [(p, 0), (q, 0)]) := by
  obtain ⟨ρ0, hρ⟩ : ∃ ρ0 : Ren, ρ0 = fun b => if b = 0 then ρ p else ρ q := ⟨_, rfl⟩
  have e0 : ρ0 0 = ρ p := by rw [hρ]; rfl
  have e1 : ρ0 1 = ρ q := by rw [hρ]; rfl
  have hc : OrcOk Try.prog (orc52 dotE subE dnq) := orc_cons E53 (orc_cons E54 (orc_cons told55 orc_nil))
  have key := yields_of (P := Try.prog) mixed (env_ok mixed hc fns_nil 9 3) (fuel := n + 1) (lvs := lv52) (gf := 52) (fn := Try.f52) (c := Try.f52.body.getD .skip) Try.func52 rfl rfl (H0 := H52 ad ad' n m cap cap' (numOf g) (numOf g') x r) (xs := itemsT (tgs (numOf g) (numOf g') r n 0)) ?_ ?_ (ps := [(0, 0), (1, 0)]) (fun p hp => ?_) (fun l => ?_) (W := W) (ρ0 := ρ0) ?_ ?_
  · have a1 : ([(0, 0), (1, 0)].map (pv ρ0)).toArray = ([(p, 0), (q, 0)].map (pv ρ)).toArray := by simp [pv, e0, e1]
    have a2 : ((List.range (H52 ad ad' n m cap cap' (numOf g) (numOf g') x r).length).map fun b => (ρ0 b).r) = ([(p, 0), (q, 0)].map fun p => (ρ p.1).r) := by
      show ((List.range 2).map fun b => (ρ0 b).r) = _
      simp [List.range_succ, e0, e1]
    have a3 : (itemsT (tgs (numOf g) (numOf g') r n 0)).map (·.map (U.den ρ0)) = (itemsT (tgs (numOf g) (numOf g') r n 0)).map (·.map (U.den ρ)) := by
      unfold itemsT
      rw [List.map_map, List.map_map]
      exact List.map_congr_left fun t _ => rfl
    have a4 : CapOk W ρ0 (H52 ad ad' n m cap cap' (numOf g) (numOf g') x r) = CapInv W ρ H [(p, 0), (q, 0)] := by
      funext A
      refine propext ⟨fun h => ⟨h.1, h.2.1, fun z hz B hB => ?_⟩, fun h => ⟨h.1, h.2.1, fun b B hB => ?_⟩⟩
      · simp only [List.mem_cons, List.not_mem_nil, or_false] at hz
        rcases hz with rfl | rfl
        · rw [hp] at hB; cases hB
          have := h.2.2 0 _ rfl
          simp only [Real, e0] at this ⊢
          exact this
        · rw [hq] at hB; cases hB
          have := h.2.2 1 _ rfl
          simp only [Real, e1] at this ⊢
          exact this
      · rcases blk52 hB with ⟨rfl, rfl⟩ | ⟨rfl, rfl⟩
        · have := h.2.2 (p, 0) (by simp) _ hp
          simp only [Real, e0] at this ⊢
          exact this
        · have := h.2.2 (q, 0) (by simp) _ hq
          simp only [Real, e1] at this ⊢
          exact this
    rw [a1, a2, a3, a4] at key
    exact key
  · intro y hy u hu
    obtain ⟨t, _, rfl⟩ := List.mem_map.1 hy
    rw [List.mem_singleton.1 hu]
    exact tg_ids t
  · intro b B hB
    rcases blk52 hB with ⟨rfl, rfl⟩ | ⟨rfl, rfl⟩
    · exact ⟨[], rfl, fun i hi => by cases hi⟩
    · exact ⟨[], rfl, fun i hi => by cases hi⟩
  · simp only [List.mem_cons, List.not_mem_nil, or_false] at hp
    rcases hp with rfl | rfl
    · exact Nat.zero_lt_two
    · exact Nat.one_lt_two
  · exact (entry52 dotE subE dnq l ad ad' n m cap cap' (numOf g) (numOf g') x r (n + 1)).trans (run52 l ad ad' n m cap cap' (numOf g) (numOf g') x r (n + 1) hn hm n 0 (n + 1) (by omega) (by omega))
  · intro b b' B B' hB hB' hu hu' he
    rcases blk52 hB with ⟨rfl, rfl⟩ | ⟨rfl, rfl⟩ <;> rcases blk52 hB' with ⟨rfl, rfl⟩ | ⟨rfl, rfl⟩
    · rfl
    · rw [e0, e1] at he; exact absurd (hs.hr.inj _ _ _ _ hp hq trivial trivial he) hpq
    · rw [e0, e1] at he; exact absurd (hs.hr.inj _ _ _ _ hq hp trivial trivial he).symm hpq
    · rfl
  · intro b B hB
    rcases blk52 hB with ⟨rfl, rfl⟩ | ⟨rfl, rfl⟩
    · have h := hs.sh p _ hp
      intro y hy
      simp only [List.mem_cons, List.not_mem_nil, or_false] at hy
      rcases hy with rfl | rfl | rfl | rfl
      · exact as_arr h1 (h (.as ad 6 n cap g) (by simp))
      · exact as_arr h2 (h (.as ad' 2 m cap' g') (by simp))
      · exact AOk.int _ _
      · exact AOk.int _ _
    · exact rayC_sc r W _
end Go.Proofs.Ytbgdfikfldkjbaa.AI
