/- Layer 27's reference: Div, told. -/
import Derived.Test.YtbgdfikfldkjbaaGreatGA
namespace Go.Proofs.YtbgdfikfldkjbaaGreat.AI
set_option linter.unnecessarySimpa false
open Go
set_option linter.unusedVariables false
set_option linter.unusedSimpArgs false
/-- Quotients by numbers of either sign. -/
def dnS (a b : Int) : Int := if b < 0 then (-a) / (-b) else a / b
def upS (a b : Int) : Int := -dnS (-a) b
def inS2 (a b : Int) : Bool := !decide (b = 0) && ((decide (-4611686018427387904 ≤ b) && decide (b ≤ 4611686018427387904)) && (decide (-4611686018427387904 ≤ a) && decide (a ≤ 4611686018427387904)))
def quoS (f : Int → Int → Int) : List V → Tree
  | [.u (.c (.int .i64 a)), .u (.c (.int .i64 b))] => .test (inS2 a b) (.leaf (.u (ui (f a b)))) .no
  | _ => .no
def quoSK (f : Int → Int → Int) (a b : Int) (k : Int → R) : R := bif inS2 a b then k (f a b) else none
theorem quoS_val {f : Int → Int → Int} {args : List V} {x : V × Heap} (h : (quoS f args).val = some x) : ∃ a b, args = [.u (ui a), .u (ui b)] ∧ b ≠ 0 ∧ (-4611686018427387904 ≤ b ∧ b ≤ 4611686018427387904) ∧ (-4611686018427387904 ≤ a ∧ a ≤ 4611686018427387904) ∧ x = (.u (ui (f a b)), []) := by
  unfold quoS at h
  split at h
  · rename_i a b
    simp only [Tree.val] at h
    cases hw : inS2 a b
    · rw [hw] at h; cases h
    · rw [hw, cond_true] at h
      simp only [inS2, Bool.and_eq_true, decide_eq_true_eq, Bool.not_eq_true', decide_eq_false_iff_not] at hw
      cases h
      exact ⟨a, b, rfl, hw.1, hw.2.1, hw.2.2, rfl⟩
  · cases h
theorem quoS_flat {f : Int → Int → Int} (args : List V) : (quoS f args).flat = true := by
  unfold quoS
  split <;> rfl
theorem quoSK_in {f : Int → Int → Int} {a b : Int} {k : Int → R} (hb : b ≠ 0) (h3 : -4611686018427387904 ≤ b) (h4 : b ≤ 4611686018427387904) (h1 : -4611686018427387904 ≤ a) (h2 : a ≤ 4611686018427387904) : quoSK f a b k = k (f a b) := by
  unfold quoSK
  rw [show inS2 a b = true by simp only [inS2, Bool.and_eq_true, decide_eq_true_eq, Bool.not_eq_true', decide_eq_false_iff_not]; omega]
  rfl
theorem S92 : Told Tryz.prog 92 (quoS dnS) := by
  refine told_flat (fuel := 9) (d := 3) (fns := [(92, Tryz.f92, [])]) mixed orc_nil (fns_cons k82 fns_nil) k82.enter quoS_flat (fun args x h => ?_) fun args x h => ?_
  · obtain ⟨a, b, rfl, _⟩ := quoS_val h; rfl
  · obtain ⟨a, b, rfl, hb, ⟨h3, h4⟩, ⟨h1, h2⟩, rfl⟩ := quoS_val h
    rw [a82]
    unfold dnS
    by_cases hn : b < 0
    · rw [decide_eq_true hn, cond_true, if_pos hn]
      unfold W
      rw [wr (n := 0 - a) (by omega) (by omega), wr (n := 0 - b) (by omega) (by omega), Int.zero_sub, Int.zero_sub]
      exact fl82_eq (by omega) (by omega) (by omega)
    · rw [decide_eq_false hn, cond_false, if_neg hn]
      exact fl82_eq (by omega) h1 h2
theorem gq93 (a b : Int) : ans Tryz.prog [(92, quoS dnS)] [(93, Tryz.f93, [])] 9 3 93 [.u (ui a), .u (ui b)] = quoSK dnS (W (0 - a)) b fun q => some (.u (ui (W (0 - q))), []) := by kernel_rfl
theorem dnS_in {a b : Int} (hb : b ≠ 0) (h1 : -4611686018427387904 ≤ a) (h2 : a ≤ 4611686018427387904) : -4611686018427387904 ≤ dnS a b ∧ dnS a b ≤ 4611686018427387904 := by
  unfold dnS
  split
  · exact div_in (by omega) (by omega) (by omega)
  · exact div_in (by omega) h1 h2
theorem S93 : Told Tryz.prog 93 (quoS upS) := by
  refine told_flat (fuel := 9) (d := 3) (fns := [(93, Tryz.f93, [])]) mixed (orc_cons S92 orc_nil) (fns_cons k83 fns_nil) k83.enter quoS_flat (fun args x h => ?_) fun args x h => ?_
  · obtain ⟨a, b, rfl, _⟩ := quoS_val h; rfl
  · obtain ⟨a, b, rfl, hb, ⟨h3, h4⟩, ⟨h1, h2⟩, rfl⟩ := quoS_val h
    obtain ⟨d1, d2⟩ := dnS_in (a := -a) hb (by omega) (by omega)
    rw [gq93]
    unfold W
    rw [wr (n := 0 - a) (by omega) (by omega), Int.zero_sub, quoSK_in hb h3 h4 (by omega) (by omega), wr (n := 0 - dnS (-a) b) (by omega) (by omega), Int.zero_sub]
    rfl
def orcD49 : List (FuncId × (List V → Tree)) := [(28, validT), (92, quoS dnS), (93, quoS upS)]
theorem orcD49_ok : OrcOk Tryz.prog orcD49 := orc_cons told30 (orc_cons S92 (orc_cons S93 orc_nil))
def DG (a b c d : Int) : R := quoSK dnS (W (a * 16777216)) c fun p => quoSK dnS (W (a * 16777216)) d fun q => quoSK dnS (W (b * 16777216)) c fun r => quoSK dnS (W (b * 16777216)) d fun s =>
  quoSK upS (W (a * 16777216)) c fun p' => quoSK upS (W (a * 16777216)) d fun q' => quoSK upS (W (b * 16777216)) c fun r' => quoSK upS (W (b * 16777216)) d fun s' => mkF (mnI (mnI (mnI p q) r) s) (mxI (mxI (mxI p' q') r') s')
theorem gq49 (a b c d : Int) : ans Tryz.prog orcD49 (fnsG 49 Tryz.f49) 9 6 49 [iv a b, iv c d] = FF a b c d (bif decide (c ≤ 0) then bif decide (0 ≤ d) then B 10 else DG a b c d else DG a b c d) := by kernel_rfl
theorem ediv_mono {x y c : Int} (hc : 0 < c) (h : x ≤ y) : x / c ≤ y / c := Int.ediv_le_ediv hc h
theorem dn_upM {m M u : Int} (hu : 0 < u) (h : m ≤ M) : dnq m u ≤ upq M u := by
  have h1 := dn_le m hu
  have h2 := le_up M hu
  exact mul_cancel hu (by omega)
theorem dnS_pos {a b : Int} (h : 0 < b) : dnS a b = dnq a b := by unfold dnS dnq; rw [if_neg (by omega)]
theorem dnS_neg {a b : Int} (h : b < 0) : dnS a b = dnq (-a) (-b) := by unfold dnS dnq; rw [if_pos h]
theorem upS_pos {a b : Int} (h : 0 < b) : upS a b = upq a b := by unfold upS upq; rw [dnS_pos h]; rfl
theorem upS_neg {a b : Int} (h : b < 0) : upS a b = upq (-a) (-b) := by unfold upS upq; rw [dnS_neg h]; rfl
theorem dnq_mono {x y c : Int} (hc : 0 < c) (h : x ≤ y) : dnq x c ≤ dnq y c := Int.ediv_le_ediv hc h
theorem upq_mono {x y c : Int} (hc : 0 < c) (h : x ≤ y) : upq x c ≤ upq y c := by
  unfold upq
  have := Int.ediv_le_ediv hc (show -y ≤ -x by omega)
  omega
theorem DG_eq {a b c d : Int} (h1 : -1073741824 ≤ a ∧ a ≤ b ∧ b ≤ 1073741824) (h2 : -1073741824 ≤ c ∧ c ≤ d ∧ d ≤ 1073741824) (h0 : 0 < c ∨ d < 0) :
    DG a b c d = if d < 0 then (mkT (divL (-b) (-a) (-d) (-c)) (divH (-b) (-a) (-d) (-c))).val else (mkT (divL a b c d) (divH a b c d)).val := by
  unfold DG W
  rw [wr (n := a * 16777216) (by omega) (by omega), wr (n := b * 16777216) (by omega) (by omega)]
  rw [quoSK_in (by omega) (by omega) (by omega) (by omega) (by omega), quoSK_in (by omega) (by omega) (by omega) (by omega) (by omega), quoSK_in (by omega) (by omega) (by omega) (by omega) (by omega), quoSK_in (by omega) (by omega) (by omega) (by omega) (by omega),
    quoSK_in (by omega) (by omega) (by omega) (by omega) (by omega), quoSK_in (by omega) (by omega) (by omega) (by omega) (by omega), quoSK_in (by omega) (by omega) (by omega) (by omega) (by omega), quoSK_in (by omega) (by omega) (by omega) (by omega) (by omega)]
  simp only [mnI_eq, mxI_eq]
  by_cases hd : d < 0
  · rw [if_pos hd, dnS_neg (b := c) (by omega), dnS_neg hd, dnS_neg (b := c) (by omega), dnS_neg hd, upS_neg (b := c) (by omega), upS_neg hd, upS_neg (b := c) (by omega), upS_neg hd]
    have m1 := dnq_mono (c := -c) (by omega) (show -(b * 16777216) ≤ -(a * 16777216) by omega)
    have m2 := dnq_mono (c := -d) (by omega) (show -(b * 16777216) ≤ -(a * 16777216) by omega)
    have m3 := upq_mono (c := -c) (by omega) (show -(b * 16777216) ≤ -(a * 16777216) by omega)
    have m4 := upq_mono (c := -d) (by omega) (show -(b * 16777216) ≤ -(a * 16777216) by omega)
    have m5 := dn_upM (u := -c) (by omega) (show -(b * 16777216) ≤ -(a * 16777216) by omega)
    have e1 : min (min (min (dnq (-(a * 16777216)) (-c)) (dnq (-(a * 16777216)) (-d))) (dnq (-(b * 16777216)) (-c))) (dnq (-(b * 16777216)) (-d)) = divL (-b) (-a) (-d) (-c) := by
      unfold divL
      rw [show -b * 16777216 = -(b * 16777216) by omega]
      omega
    have e2 : max (max (max (upq (-(a * 16777216)) (-c)) (upq (-(a * 16777216)) (-d))) (upq (-(b * 16777216)) (-c))) (upq (-(b * 16777216)) (-d)) = divH (-b) (-a) (-d) (-c) := by
      unfold divH
      rw [show -a * 16777216 = -(a * 16777216) by omega]
      omega
    rw [mkF_eq (by omega), e1, e2]
  · rw [if_neg hd, dnS_pos (b := c) (by omega), dnS_pos (b := d) (by omega), dnS_pos (b := c) (by omega), dnS_pos (b := d) (by omega), upS_pos (b := c) (by omega), upS_pos (b := d) (by omega), upS_pos (b := c) (by omega), upS_pos (b := d) (by omega)]
    have m1 := dnq_mono (c := c) (by omega) (show a * 16777216 ≤ b * 16777216 by omega)
    have m2 := dnq_mono (c := d) (by omega) (show a * 16777216 ≤ b * 16777216 by omega)
    have m3 := upq_mono (c := c) (by omega) (show a * 16777216 ≤ b * 16777216 by omega)
    have m4 := upq_mono (c := d) (by omega) (show a * 16777216 ≤ b * 16777216 by omega)
    have m5 := dn_upM (u := c) (by omega) (show a * 16777216 ≤ b * 16777216 by omega)
    have e1 : min (min (min (dnq (a * 16777216) c) (dnq (a * 16777216) d)) (dnq (b * 16777216) c)) (dnq (b * 16777216) d) = divL a b c d := by unfold divL; omega
    have e2 : max (max (max (upq (a * 16777216) c) (upq (a * 16777216) d)) (upq (b * 16777216) c)) (upq (b * 16777216) d) = divH a b c d := by unfold divH; omega
    rw [mkF_eq (by omega), e1, e2]
theorem gtold49 : Told Tryz.prog 49 divT := by
  refine told_flat (fuel := 9) (d := 6) (fns := fnsG 49 Tryz.f49) mixed orcD49_ok (fnsG_ok gk49) gk49.enter (two_flat fun _ _ _ _ => rfl) two_bare fun args x h => ?_
  obtain ⟨a, b, c, d, rfl⟩ := two_val h
  rw [gq49]
  refine ff_of h fun h1 h2 => ?_
  show _ = (bif decide (c ≤ 0) && decide (0 ≤ d) then B 10 else bif decide (d < 0) then (mkT (divL (-b) (-a) (-d) (-c)) (divH (-b) (-a) (-d) (-c))).val else (mkT (divL a b c d) (divH a b c d)).val)
  by_cases h3 : c ≤ 0
  · by_cases h4 : 0 ≤ d
    · rw [decide_eq_true h3, decide_eq_true h4]; rfl
    · rw [decide_eq_true h3, decide_eq_false h4, decide_eq_true (show d < 0 by omega), cond_true, cond_false, DG_eq h1 h2 (by omega), if_pos (by omega)]; rfl
  · rw [decide_eq_false h3, decide_eq_false (show ¬ d < 0 by omega), cond_false, DG_eq h1 h2 (by omega), if_neg (by omega)]; rfl
theorem H49 : Told Tryz.prog 49 (sh2 divE) := told2 gtold49 e_div
end Go.Proofs.YtbgdfikfldkjbaaGreat.AI
