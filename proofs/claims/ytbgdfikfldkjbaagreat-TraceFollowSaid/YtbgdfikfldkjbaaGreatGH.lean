/- The reference's Valid and Hit, told: what they answer. -/
import Derived.Test.YtbgdfikfldkjbaaGreatGG
namespace Go.Proofs.YtbgdfikfldkjbaaGreat.AI
set_option linter.unnecessarySimpa false
open Go
set_option linter.unusedVariables false
set_option linter.unusedSimpArgs false
/-! Valid. -/
def HV16 (ad ad' : Option Addr) (n m cap cap' : Nat) (v u : Nat → Nat → Int) (x : Iv) : Heap := [some (.cells (bodyA ad ad' n m cap cap' v u x)), some (.cells [ci x.lo, ci x.hi])]
theorem entryV16 (iv : Iv → Bool) (bx : Bx → Bool) (ad ad' : Option Addr) (n m cap cap' : Nat) (v u : Nat → Nat → Int) (x : Iv) (F : Nat) : ans Tryz.prog (orcV16 iv bx) fnsV16 F 3 16 [.u (.a (bodyA ad ad' n m cap cap' v u x))] =
    bif decide ((n : Int) < 4) then tru false else bif decide (100 < (n : Int)) then tru false else bif !decide ((m : Int) = n) then tru false else bif iv x then bif decide (16777216 ≤ x.lo) then bif !decide (x.hi ≤ 67108864) then tru false else
      loopV16 iv bx F F (TV16 0) (HV16 ad ad' n m cap cap' v u x) [] (KV16 iv bx F) else tru false else tru false := by kernel_rfl
theorem stepV16 (iv : Iv → Bool) (bx : Bx → Bool) (ad ad' : Option Addr) (n m cap cap' : Nat) (v u : Nat → Nat → Int) (x : Iv) (i : Int) (F fuel : Nat) (L : List Foot) : loopV16 iv bx F (fuel + 1) (TV16 i) (HV16 ad ad' n m cap cap' v u x) L (KV16 iv bx F) =
    bif decide (i < n) then bif decide (0 ≤ i) && decide (i < n) then bif !bx (bxOf v i.toNat) then tru false else bif decide (0 ≤ i) && decide (i < m) then bif !iv (ivOf u i.toNat) then tru false else
      loopV16 iv bx F fuel (TV16 (W (i + 1))) (HV16 ad ad' n m cap cap' v u x) L (KV16 iv bx F) else none else none else tru true := by kernel_rfl
theorem runV16 (ad ad' : Option Addr) (n cap cap' : Nat) (v u : Nat → Nat → Int) (x : Iv) (hn : n ≤ 1000) (F : Nat) (L : List Foot) : ∀ (k i fuel : Nat), i + k = n → k < fuel → loopV16 Iv.v Bx.v F fuel (TV16 i) (HV16 ad ad' n n cap cap' v u x) L (KV16 Iv.v Bx.v F) = tru (allF (fun j => (bxOf v j).v) i k && allF (fun j => (ivOf u j).v) i k)
  | 0, i, fuel + 1, h, _ => by
    rw [stepV16, decide_eq_false (show ¬ (i : Int) < n by omega)]; rfl
  | k + 1, i, fuel + 1, h, hf => by
    have w1 : W ((i : Int) + 1) = ((i + 1 : Nat) : Int) := by unfold W; rw [wr (by omega) (by omega)]; omega
    rw [stepV16, decide_eq_true (show (i : Int) < n by omega), decide_eq_true (show (0 : Int) ≤ i by omega), w1]
    simp only [Bool.and_self, cond_true, Int.toNat_natCast]
    have ih := runV16 ad ad' n cap cap' v u x hn F L k (i + 1) fuel (by omega) (by omega)
    unfold allF
    cases h1 : (bxOf v i).v
    · rfl
    · cases h2 : (ivOf u i).v
      · simp only [Bool.not_true, Bool.not_false, cond_false, cond_true, Bool.false_and, Bool.and_false]
      · simp only [Bool.not_true, cond_false, Bool.true_and]
        exact ih
theorem valid16 (ad ad' : Option Addr) (n m cap cap' : Nat) (v u : Nat → Nat → Int) (x : Iv) : ans Tryz.prog (orcV16 Iv.v Bx.v) fnsV16 1001 3 16 [.u (.a (bodyA ad ad' n m cap cap' v u x))] = tru (validB n m v u x) := by
  rw [entryV16]
  unfold validB
  by_cases h1 : 4 ≤ n
  · rw [decide_eq_false (show ¬ (n : Int) < 4 by omega), decide_eq_true h1]
    by_cases h2 : n ≤ 100
    · rw [decide_eq_false (show ¬ 100 < (n : Int) by omega), decide_eq_true h2]
      by_cases h3 : m = n
      · subst h3
        rw [decide_eq_true (show ((m : Nat) : Int) = m from rfl), decide_eq_true (show m = m from rfl)]
        have hr := runV16 ad ad' m cap cap' v u x (by omega) 1001 [] m 0 1001 (by omega) (by omega)
        generalize loopV16 Iv.v Bx.v 1001 1001 _ _ _ _ = Z at *
        rw [hr]
        cases x.v
        · rfl
        cases decide (16777216 ≤ x.lo)
        · rfl
        cases decide (x.hi ≤ 67108864) <;> rfl
      · rw [decide_eq_false (show ¬ (m : Int) = n by omega), decide_eq_false h3]; rfl
    · rw [decide_eq_true (show 100 < (n : Int) by omega), decide_eq_false h2]; rfl
  · rw [decide_eq_true (show (n : Int) < 4 by omega), decide_eq_false h1]; rfl
theorem F26g_val {val : Nat → Nat → (Nat → Nat → Int) → (Nat → Nat → Int) → Iv → Bool} {l : List A} {x : V × Heap} (h : (F26g val l).val = some x) : ∃ n m v u y, l = [.a (bodyD n m v u y)] ∧ x = (.u (.c (.bool (val n m v u y))), []) := by
  unfold F26g at h
  split at h
  · rename_i k n v k' m u a b
    simp only [Tree.val] at h
    cases hc : (Nat.beq k 6 && Nat.beq k' 2)
    · rw [hc] at h; cases h
    rw [hc, cond_true] at h
    simp only [Bool.and_eq_true] at hc
    have hk := Nat.eq_of_beq_eq_true hc.1
    have hf := Nat.eq_of_beq_eq_true hc.2
    subst hk
    subst hf
    cases h
    exact ⟨n, m, v, u, ⟨a, b⟩, rfl, rfl⟩
  · cases h
theorem realF1 {a : A} {args : List V} (h : RealAs [a] args) : ∃ x, args = [x] ∧ RealA a x := by
  cases h with
  | cons h1 t => cases t; exact ⟨_, rfl, h1⟩
theorem gk16 : FnOk Tryz.prog 16 Tryz.f16 := fk Tryz.func16 (by kernel_rfl) rfl
theorem H28 : Told Tryz.prog 28 (shT [some 2] (F1vg Iv.v)) := told_congr E30 fun args x hv => hv
theorem H16 : Told Tryz.prog 16 (fun args => argsT args (F26g validB)) := by
  refine told_args (fuel := 1001) (d := 3) (orc := orcV16 Iv.v Bx.v) (fns := fnsV16) mixed (orc_cons H28 (orc_cons E20 orc_nil)) (fns_loops gk16 (fun c _ => untold fun p hp => by rw [lvV16, List.mem_singleton] at hp; rw [hp]) (fns_cons gk42 fns_nil)) gk16.enter (args_flat fun l x h => ?_) fun l x h args ha => ?_
  · obtain ⟨n, m, v, u, y, _, rfl⟩ := F26g_val h; exact ⟨_, rfl, rfl⟩
  · obtain ⟨n, m, v, u, y, rfl, rfl⟩ := F26g_val h
    obtain ⟨y1, rfl, r1⟩ := realF1 ha
    obtain ⟨ad, ad', cap, cap', e1⟩ := realF_body r1
    rw [e1, valid16]; rfl
/-! Hit. -/
theorem idxG_in {α : Type} {i n : Nat} {X : Option α} (h : i < n) : idxG (i : Int) n X = X := by
  unfold idxG
  rw [decide_eq_true (show (0 : Int) ≤ i by omega), decide_eq_true (show (i : Int) < n by omega), decide_eq_true (show 0 + (i : Int).toNat < n by omega)]
  rfl
/-- The best of those from i on, for k; b is the best so far. -/
def bestL (f : Nat → Tg) : Nat → Nat → Int → Int
  | 0, _, b => b
  | k + 1, i, b => bestL f k (i + 1) (nextB i f b (f i))
theorem nextB_lt (i : Nat) (f : Nat → Tg) (b : Int) (t : Tg) (h1 : -1 ≤ b) (h2 : b < (i : Int)) : -1 ≤ nextB i f b t ∧ nextB i f b t < ((i + 1 : Nat) : Int) := by
  unfold nextB
  cases (t.sure && (decide (b < 0) || decide (t.most < (f b.toNat).most)))
  · exact ⟨h1, by rw [cond_false]; omega⟩
  · rw [cond_true]; simp only [Int.ofNat_eq_natCast]; omega
theorem bestL_lt (f : Nat → Tg) : ∀ (k i : Nat) (b : Int), -1 ≤ b → b < (i : Int) → -1 ≤ bestL f k i b ∧ bestL f k i b < ((i + k : Nat) : Int)
  | 0, i, b, h1, h2 => ⟨h1, h2⟩
  | k + 1, i, b, h1, h2 => by
    obtain ⟨a, c⟩ := nextB_lt i f b (f i) h1 h2
    have := bestL_lt f k (i + 1) _ a c
    unfold bestL
    refine ⟨this.1, ?_⟩
    have := this.2
    rw [show i + (k + 1) = i + 1 + k by omega]
    exact this
theorem runH1 {α : Type} (call : CallT α) (ad ad' : Option Addr) (n m cap cap' : Nat) (v u : Nat → Nat → Int) (x : Iv) (r : Ray) (c : Nat) (hc : c ≤ 100000) (f : Nat → Tg) (F : Nat) (L : List Foot) (K : KT α) : ∀ (k i fuel : Nat) (b : Int), i + k = c → k < fuel → -1 ≤ b → b < (i : Int) →
    loopH1 call F fuel (TH1 c b i) (HH ad ad' n m cap cap' v u x r c f) L K = K (.exit 0) (THo c (bestL f k i b)) (HH ad ad' n m cap cap' v u x r c f) L
  | 0, i, fuel + 1, b, h, _, _, _ => by
    rw [stepH1, decide_eq_false (show ¬ (i : Int) < c by omega)]; rfl
  | k + 1, i, fuel + 1, b, h, hf, h1, h2 => by
    have w1 : W ((i : Int) + 1) = ((i + 1 : Nat) : Int) := by unfold W; rw [wr (by omega) (by omega)]; omega
    have ih := fun b' (g1 : -1 ≤ b') (g2 : b' < ((i + 1 : Nat) : Int)) => runH1 call ad ad' n m cap cap' v u x r c hc f F L K k (i + 1) fuel b' (by omega) (by omega) g1 g2
    rw [stepH1, decide_eq_true (show (i : Int) < c by omega), cond_true, idxG_in (show i < c by omega), w1]
    rw [show 0 + (i : Int).toNat = i by omega]
    unfold bestL
    obtain ⟨nb1, nb2⟩ := nextB_lt i f b (f i) h1 h2
    have ihn := ih _ nb1 nb2
    unfold nextB at ihn ⊢
    cases hs : (f i).sure
    · rw [hs] at ihn
      simp only [Bool.false_and, cond_false] at ihn ⊢
      exact ihn
    · rw [hs] at ihn
      simp only [Bool.true_and, cond_true] at ihn ⊢
      cases hb : decide (b < 0)
      · rw [hb] at ihn
        have hb' : ¬ b < 0 := by simpa using hb
        obtain ⟨bn, rfl⟩ : ∃ bn : Nat, b = bn := ⟨b.toNat, by omega⟩
        simp only [Bool.false_or, cond_false] at ihn ⊢
        rw [idxG_in (show i < c by omega), idxG_in (show bn < c by omega), show 0 + ((bn : Nat) : Int).toNat = bn by omega]
        rw [show ((bn : Nat) : Int).toNat = bn by omega] at ihn ⊢
        cases hd : decide ((f i).most < (f bn).most)
        · rw [hd] at ihn; exact ihn
        · rw [hd] at ihn; exact ihn
      · rw [hb] at ihn
        simp only [Bool.true_or, cond_true] at ihn ⊢
        exact ihn
theorem runH2 (call : CallT (V × Heap)) (ad ad' : Option Addr) (n m cap cap' : Nat) (v u : Nat → Nat → Int) (x : Iv) (r : Ray) (c : Nat) (hc : c ≤ 100000) (f : Nat → Tg) (F : Nat) (L : List Foot) (b : Nat) (hb : b < c) : ∀ (k i fuel : Nat), i + k = c → k < fuel →
    loopH2 call F fuel (TH2 c b i) (HH ad ad' n m cap cap' v u x r c f) L (KH2 call F) = bif ambG f b i k then hitR 0 0 0 20 else KH2 call F (.exit 2) (THo c b) (HH ad ad' n m cap cap' v u x r c f) L
  | 0, i, fuel + 1, h, _ => by
    rw [stepH2, decide_eq_false (show ¬ (i : Int) < c by omega)]; rfl
  | k + 1, i, fuel + 1, h, hf => by
    have w1 : W ((i : Int) + 1) = ((i + 1 : Nat) : Int) := by unfold W; rw [wr (by omega) (by omega)]; omega
    have ih := runH2 call ad ad' n m cap cap' v u x r c hc f F L b hb k (i + 1) fuel (by omega) (by omega)
    rw [stepH2, decide_eq_true (show (i : Int) < c by omega), cond_true, idxG_in (show i < c by omega), idxG_in hb, w1, ih]
    rw [show 0 + (i : Int).toNat = i by omega, show 0 + (b : Int).toNat = b by omega]
    rw [show ambG f b i (k + 1) = ((!decide (i = b) && decide ((f i).least ≤ (f b).most)) || ambG f b (i + 1) k) from rfl]
    by_cases e : i = b
    · rw [decide_eq_true (show (i : Int) = b by omega), decide_eq_true e]
      simp only [Bool.not_true, cond_false, Bool.false_and, Bool.false_or]
    · rw [decide_eq_false (show ¬ (i : Int) = b by omega), decide_eq_false e]
      cases decide ((f i).least ≤ (f b).most)
      · simp only [Bool.not_false, cond_true, cond_false, Bool.true_and, Bool.false_or]
      · simp only [Bool.not_false, cond_true, Bool.true_and, Bool.true_or]
theorem tgN_e (c g : Iv) (i : Nat) : (tgN c g i).e = 0 := by unfold tgN; cases decide (0 < c.lo) <;> rfl
/-- What reaches answers is what Hit goes through. -/
theorem reGo_hit (v u : Nat → Nat → Int) (r : Ray) : ∀ (k i c : Nat) (f : Nat → Tg) (b : Int), -1 ≤ b → b < (c : Int) →
    (∃ e, reGo v u r k i c f = .error e ∧ (hitGo (tgs v u r k i) c f b).e = Int.ofNat (e + 1)) ∨
    (∃ c' f', reGo v u r k i c f = .ok (c', f') ∧ c ≤ c' ∧ c' ≤ c + k ∧ (∀ j, j < c → f' j = f j) ∧ hitGo (tgs v u r k i) c f b = ⟨0, c', f', bestL f' (c' - c) c b⟩)
  | 0, i, c, f, b, _, _ => .inr ⟨c, f, rfl, Nat.le_refl _, Nat.le_refl _, fun _ _ => rfl, by rw [Nat.sub_self]; rfl⟩
  | k + 1, i, c, f, b, h1, h2 => by
    have bad : ∀ er : Nat, (hitGo [tgE er] c f b).e = Int.ofNat (er + 1) := fun er => by
      unfold hitGo
      rw [decide_eq_false (show ¬ (tgE er).e = 0 by show ¬ Int.ofNat (er + 1) = 0; simp only [Int.ofNat_eq_natCast]; omega)]
      rfl
    unfold reGo tgs
    cases c1 : okE (cosE v r i)
    · exact .inl ⟨_, rfl, bad _⟩
    cases c2 : okE (dotE (bxOf v i) r.pt)
    · exact .inl ⟨_, rfl, bad _⟩
    cases c3 : okE (gapE v u r i)
    · exact .inl ⟨_, rfl, bad _⟩
    simp only [cond_true]
    cases c4 : decide ((getE iv0 (cosE v r i)).hi ≤ 0)
    · simp only [cond_false]
      generalize ht : tgN (getE iv0 (cosE v r i)) (getE iv0 (gapE v u r i)) i = t
      have he : t.e = 0 := by rw [← ht]; exact tgN_e _ _ _
      have hg : hitGo (t :: tgs v u r k (i + 1)) c f b = hitGo (tgs v u r k (i + 1)) (c + 1) (putF f c t) (nextB c f b t) := by
        rw [hitGo, decide_eq_true he]; rfl
      rw [hg]
      obtain ⟨nb1, nb2⟩ := nextB_lt c f b t h1 h2
      rcases reGo_hit v u r k (i + 1) (c + 1) (putF f c t) (nextB c f b t) nb1 nb2 with ⟨e, a1, a2⟩ | ⟨c', f', a1, a2, a3, a4, a5⟩
      · exact .inl ⟨e, a1, a2⟩
      · refine .inr ⟨c', f', a1, by omega, by omega, fun j hj => ?_, ?_⟩
        · rw [a4 j (by omega), putF_eq, if_pos hj]
        · rw [a5]
          have e1 : f' c = t := by rw [a4 c (by omega), putF_eq, if_neg (by omega)]
          have e2 : nextB c f' b (f' c) = nextB c f b t := by
            rw [e1]
            unfold nextB
            by_cases hb : b < 0
            · rw [decide_eq_true hb]; rfl
            · rw [a4 b.toNat (by omega), putF_eq, if_pos (by omega)]
          rw [show c' - c = (c' - (c + 1)) + 1 by omega]
          show _ = (⟨0, c', f', bestL f' (c' - (c + 1)) (c + 1) (nextB c f' b (f' c))⟩ : HG)
          rw [e2]
    · simp only [cond_true]
      rcases reGo_hit v u r k (i + 1) c f b h1 h2 with ⟨e, a1, a2⟩ | ⟨c', f', a1, a2, a3, a4, a5⟩
      · exact .inl ⟨e, a1, a2⟩
      · exact .inr ⟨c', f', a1, a2, by omega, a4, a5⟩
theorem div_anti {A p q : Int} (hA : 0 ≤ A) (hp : 0 < p) (h : p ≤ q) : A / q ≤ A / p := by
  refine (Int.le_ediv_iff_mul_le hp).2 ?_
  have h0 : 0 ≤ A / q := Int.ediv_nonneg hA (by omega)
  have h1 := Int.ediv_mul_le A (show q ≠ 0 by omega)
  have h2 : A / q * p ≤ A / q * q := Int.mul_le_mul_of_nonneg_left h h0
  omega
theorem gmk_in {a b : Int} (h : okE (mkE a b) = true) : -1073741824 ≤ a ∧ b ≤ 1073741824 := by
  unfold mkE at h
  cases hr : inR a b
  · rw [hr] at h; cases h
  · simpa only [inR, Bool.and_eq_true, decide_eq_true_eq] using hr
theorem gadd_v {x y : Iv} (h : okE (addE x y) = true) : (getE iv0 (addE x y)).v = true := by
  unfold addE at *
  cases hv : x.v && y.v
  · rw [hv] at h; cases h
  simp only [hv, cond_true] at h ⊢
  rw [mk_ok h]
  have hi := gmk_in h
  simp only [Bool.and_eq_true, Iv.v, vI_iff] at hv
  simp only [getE, Iv.v, vI_iff]
  omega
theorem tg_order {v u : Nat → Nat → Int} {r : Ray} {n i : Nat} {t : Tg} (h : TgOk v u r n i t) (hs : t.sure = true) : 0 ≤ t.least ∧ t.least ≤ t.most := by
  have hlo := sure_lo h hs
  have gv := gap_ok h.g
  have cv : (getE iv0 (cosE v r i)).lo ≤ (getE iv0 (cosE v r i)).hi := by
    obtain ⟨_, _, _, _, _, _, h6, e⟩ := dot_ok (show okE (dotE (bxOf v i) r.dir) = true from h.c)
    have := iv_le (gadd_v h6)
    rw [← e] at this
    exact this
  have gle := iv_le gv
  rw [h.eq]
  generalize getE iv0 (cosE v r i) = c at *
  generalize getE iv0 (gapE v u r i) = g at *
  unfold tgN
  rw [decide_eq_true hlo, cond_true]
  simp only
  have p1 := pos_nn g.lo
  have p2 := pos_mono gle
  have q1 : 0 ≤ dnq (pos g.lo * 16777216) c.hi := by unfold dnq; exact Int.ediv_nonneg (by omega) (by omega)
  have q2 : dnq (pos g.lo * 16777216) c.hi ≤ dnq (pos g.lo * 16777216) c.lo := div_anti (by omega) hlo cv
  have q3 := dn_upM (m := pos g.lo * 16777216) (M := pos g.hi * 16777216) hlo (by omega)
  omega
end Go.Proofs.YtbgdfikfldkjbaaGreat.AI
