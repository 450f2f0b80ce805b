/- Two texts, laid into one by mkclaim.py. -/
import Derived.Test.YtbgdfikfldkjbaaGreatGA
section
/- Layer 27's reference: Div, told. -/
namespace Go.Proofs.YtbgdfikfldkjbaaGreat.AI
set_option linter.unnecessarySimpa false
open Go
set_option linter.unusedVariables false
set_option linter.unusedSimpArgs false
/-- Quotients by numbers of either sign. -/
def dnS (a b : Int) : Int := if b < 0 then (-a) / (-b) else a / b
def upS (a b : Int) : Int := -dnS (-a) b
def inS2 (a b : Int) : Bool := !decide (b = 0) && ((decide (-4611686018427387904 ≤ b) && decide (b ≤ 4611686018427387904)) && (decide (-4611686018427387904 ≤ a) && decide (a ≤ 4611686018427387904)))
def quoS (f : Int → Int → Int) : List V → Tree
  | [.u (.c (.int .i64 a)), .u (.c (.int .i64 b))] => .test (inS2 a b) (.leaf (.u (ui (f a b)))) .no
  | _ => .no
def quoSK (f : Int → Int → Int) (a b : Int) (k : Int → R) : R := bif inS2 a b then k (f a b) else none
theorem quoS_val {f : Int → Int → Int} {args : List V} {x : V × Heap} (h : (quoS f args).val = some x) : ∃ a b, args = [.u (ui a), .u (ui b)] ∧ b ≠ 0 ∧ (-4611686018427387904 ≤ b ∧ b ≤ 4611686018427387904) ∧ (-4611686018427387904 ≤ a ∧ a ≤ 4611686018427387904) ∧ x = (.u (ui (f a b)), []) := by
  unfold quoS at h
  split at h
  · rename_i a b
    simp only [Tree.val] at h
    cases hw : inS2 a b
    · rw [hw] at h; cases h
    · rw [hw, cond_true] at h
      simp only [inS2, Bool.and_eq_true, decide_eq_true_eq, Bool.not_eq_true', decide_eq_false_iff_not] at hw
      cases h
      exact ⟨a, b, rfl, hw.1, hw.2.1, hw.2.2, rfl⟩
  · cases h
theorem quoS_flat {f : Int → Int → Int} (args : List V) : (quoS f args).flat = true := by
  unfold quoS
  split <;> rfl
theorem quoSK_in {f : Int → Int → Int} {a b : Int} {k : Int → R} (hb : b ≠ 0) (h3 : -4611686018427387904 ≤ b) (h4 : b ≤ 4611686018427387904) (h1 : -4611686018427387904 ≤ a) (h2 : a ≤ 4611686018427387904) : quoSK f a b k = k (f a b) := by
  unfold quoSK
  rw [show inS2 a b = true by simp only [inS2, Bool.and_eq_true, decide_eq_true_eq, Bool.not_eq_true', decide_eq_false_iff_not]; omega]
  rfl
theorem S92 : Told Tryz.prog 92 (quoS dnS) := by
  refine told_flat (fuel := 9) (d := 3) (fns := [(92, Tryz.f92, [])]) mixed orc_nil (fns_cons k82 fns_nil) k82.enter quoS_flat (fun args x h => ?_) fun args x h => ?_
  · obtain ⟨a, b, rfl, _⟩ := quoS_val h; rfl
  · obtain ⟨a, b, rfl, hb, ⟨h3, h4⟩, ⟨h1, h2⟩, rfl⟩ := quoS_val h
    rw [a82]
    unfold dnS
    by_cases hn : b < 0
    · rw [decide_eq_true hn, cond_true, if_pos hn]
      unfold W
      rw [wr (n := 0 - a) (by omega) (by omega), wr (n := 0 - b) (by omega) (by omega), Int.zero_sub, Int.zero_sub]
      exact fl82_eq (by omega) (by omega) (by omega)
    · rw [decide_eq_false hn, cond_false, if_neg hn]
      exact fl82_eq (by omega) h1 h2
theorem gq93 (a b : Int) : ans Tryz.prog [(92, quoS dnS)] [(93, Tryz.f93, [])] 9 3 93 [.u (ui a), .u (ui b)] = quoSK dnS (W (0 - a)) b fun q => some (.u (ui (W (0 - q))), []) := by kernel_rfl
theorem dnS_in {a b : Int} (hb : b ≠ 0) (h1 : -4611686018427387904 ≤ a) (h2 : a ≤ 4611686018427387904) : -4611686018427387904 ≤ dnS a b ∧ dnS a b ≤ 4611686018427387904 := by
  unfold dnS
  split
  · exact div_in (by omega) (by omega) (by omega)
  · exact div_in (by omega) h1 h2
theorem S93 : Told Tryz.prog 93 (quoS upS) := by
  refine told_flat (fuel := 9) (d := 3) (fns := [(93, Tryz.f93, [])]) mixed (orc_cons S92 orc_nil) (fns_cons k83 fns_nil) k83.enter quoS_flat (fun args x h => ?_) fun args x h => ?_
  · obtain ⟨a, b, rfl, _⟩ := quoS_val h; rfl
  · obtain ⟨a, b, rfl, hb, ⟨h3, h4⟩, ⟨h1, h2⟩, rfl⟩ := quoS_val h
    obtain ⟨d1, d2⟩ := dnS_in (a := -a) hb (by omega) (by omega)
    rw [gq93]
    unfold W
    rw [wr (n := 0 - a) (by omega) (by omega), Int.zero_sub, quoSK_in hb h3 h4 (by omega) (by omega), wr (n := 0 - dnS (-a) b) (by omega) (by omega), Int.zero_sub]
    rfl
def orcD49 : List (FuncId × (List V → Tree)) := [(28, validT), (92, quoS dnS), (93, quoS upS)]
theorem orcD49_ok : OrcOk Tryz.prog orcD49 := orc_cons told30 (orc_cons S92 (orc_cons S93 orc_nil))
def DG (a b c d : Int) : R := quoSK dnS (W (a * 16777216)) c fun p => quoSK dnS (W (a * 16777216)) d fun q => quoSK dnS (W (b * 16777216)) c fun r => quoSK dnS (W (b * 16777216)) d fun s =>
  quoSK upS (W (a * 16777216)) c fun p' => quoSK upS (W (a * 16777216)) d fun q' => quoSK upS (W (b * 16777216)) c fun r' => quoSK upS (W (b * 16777216)) d fun s' => mkF (mnI (mnI (mnI p q) r) s) (mxI (mxI (mxI p' q') r') s')
theorem gq49 (a b c d : Int) : ans Tryz.prog orcD49 (fnsG 49 Tryz.f49) 9 6 49 [iv a b, iv c d] = FF a b c d (bif decide (c ≤ 0) then bif decide (0 ≤ d) then B 10 else DG a b c d else DG a b c d) := by kernel_rfl
theorem ediv_mono {x y c : Int} (hc : 0 < c) (h : x ≤ y) : x / c ≤ y / c := Int.ediv_le_ediv hc h
theorem dn_upM {m M u : Int} (hu : 0 < u) (h : m ≤ M) : dnq m u ≤ upq M u := by
  have h1 := dn_le m hu
  have h2 := le_up M hu
  exact mul_cancel hu (by omega)
theorem dnS_pos {a b : Int} (h : 0 < b) : dnS a b = dnq a b := by unfold dnS dnq; rw [if_neg (by omega)]
theorem dnS_neg {a b : Int} (h : b < 0) : dnS a b = dnq (-a) (-b) := by unfold dnS dnq; rw [if_pos h]
theorem upS_pos {a b : Int} (h : 0 < b) : upS a b = upq a b := by unfold upS upq; rw [dnS_pos h]; rfl
theorem upS_neg {a b : Int} (h : b < 0) : upS a b = upq (-a) (-b) := by unfold upS upq; rw [dnS_neg h]; rfl
theorem dnq_mono {x y c : Int} (hc : 0 < c) (h : x ≤ y) : dnq x c ≤ dnq y c := Int.ediv_le_ediv hc h
theorem upq_mono {x y c : Int} (hc : 0 < c) (h : x ≤ y) : upq x c ≤ upq y c := by
  unfold upq
  have := Int.ediv_le_ediv hc (show -y ≤ -x by omega)
  omega
theorem DG_eq {a b c d : Int} (h1 : -1073741824 ≤ a ∧ a ≤ b ∧ b ≤ 1073741824) (h2 : -1073741824 ≤ c ∧ c ≤ d ∧ d ≤ 1073741824) (h0 : 0 < c ∨ d < 0) :
    DG a b c d = if d < 0 then (mkT (divL (-b) (-a) (-d) (-c)) (divH (-b) (-a) (-d) (-c))).val else (mkT (divL a b c d) (divH a b c d)).val := by
  unfold DG W
  rw [wr (n := a * 16777216) (by omega) (by omega), wr (n := b * 16777216) (by omega) (by omega)]
  rw [quoSK_in (by omega) (by omega) (by omega) (by omega) (by omega), quoSK_in (by omega) (by omega) (by omega) (by omega) (by omega), quoSK_in (by omega) (by omega) (by omega) (by omega) (by omega), quoSK_in (by omega) (by omega) (by omega) (by omega) (by omega),
    quoSK_in (by omega) (by omega) (by omega) (by omega) (by omega), quoSK_in (by omega) (by omega) (by omega) (by omega) (by omega), quoSK_in (by omega) (by omega) (by omega) (by omega) (by omega), quoSK_in (by omega) (by omega) (by omega) (by omega) (by omega)]
  simp only [mnI_eq, mxI_eq]
  by_cases hd : d < 0
  · rw [if_pos hd, dnS_neg (b := c) (by omega), dnS_neg hd, dnS_neg (b := c) (by omega), dnS_neg hd, upS_neg (b := c) (by omega), upS_neg hd, upS_neg (b := c) (by omega), upS_neg hd]
    have m1 := dnq_mono (c := -c) (by omega) (show -(b * 16777216) ≤ -(a * 16777216) by omega)
    have m2 := dnq_mono (c := -d) (by omega) (show -(b * 16777216) ≤ -(a * 16777216) by omega)
    have m3 := upq_mono (c := -c) (by omega) (show -(b * 16777216) ≤ -(a * 16777216) by omega)
    have m4 := upq_mono (c := -d) (by omega) (show -(b * 16777216) ≤ -(a * 16777216) by omega)
    have m5 := dn_upM (u := -c) (by omega) (show -(b * 16777216) ≤ -(a * 16777216) by omega)
    have e1 : min (min (min (dnq (-(a * 16777216)) (-c)) (dnq (-(a * 16777216)) (-d))) (dnq (-(b * 16777216)) (-c))) (dnq (-(b * 16777216)) (-d)) = divL (-b) (-a) (-d) (-c) := by
      unfold divL
      rw [show -b * 16777216 = -(b * 16777216) by omega]
      omega
    have e2 : max (max (max (upq (-(a * 16777216)) (-c)) (upq (-(a * 16777216)) (-d))) (upq (-(b * 16777216)) (-c))) (upq (-(b * 16777216)) (-d)) = divH (-b) (-a) (-d) (-c) := by
      unfold divH
      rw [show -a * 16777216 = -(a * 16777216) by omega]
      omega
    rw [mkF_eq (by omega), e1, e2]
  · rw [if_neg hd, dnS_pos (b := c) (by omega), dnS_pos (b := d) (by omega), dnS_pos (b := c) (by omega), dnS_pos (b := d) (by omega), upS_pos (b := c) (by omega), upS_pos (b := d) (by omega), upS_pos (b := c) (by omega), upS_pos (b := d) (by omega)]
    have m1 := dnq_mono (c := c) (by omega) (show a * 16777216 ≤ b * 16777216 by omega)
    have m2 := dnq_mono (c := d) (by omega) (show a * 16777216 ≤ b * 16777216 by omega)
    have m3 := upq_mono (c := c) (by omega) (show a * 16777216 ≤ b * 16777216 by omega)
    have m4 := upq_mono (c := d) (by omega) (show a * 16777216 ≤ b * 16777216 by omega)
    have m5 := dn_upM (u := c) (by omega) (show a * 16777216 ≤ b * 16777216 by omega)
    have e1 : min (min (min (dnq (a * 16777216) c) (dnq (a * 16777216) d)) (dnq (b * 16777216) c)) (dnq (b * 16777216) d) = divL a b c d := by unfold divL; omega
    have e2 : max (max (max (upq (a * 16777216) c) (upq (a * 16777216) d)) (upq (b * 16777216) c)) (upq (b * 16777216) d) = divH a b c d := by unfold divH; omega
    rw [mkF_eq (by omega), e1, e2]
theorem gtold49 : Told Tryz.prog 49 divT := by
  refine told_flat (fuel := 9) (d := 6) (fns := fnsG 49 Tryz.f49) mixed orcD49_ok (fnsG_ok gk49) gk49.enter (two_flat fun _ _ _ _ => rfl) two_bare fun args x h => ?_
  obtain ⟨a, b, c, d, rfl⟩ := two_val h
  rw [gq49]
  refine ff_of h fun h1 h2 => ?_
  show _ = (bif decide (c ≤ 0) && decide (0 ≤ d) then B 10 else bif decide (d < 0) then (mkT (divL (-b) (-a) (-d) (-c)) (divH (-b) (-a) (-d) (-c))).val else (mkT (divL a b c d) (divH a b c d)).val)
  by_cases h3 : c ≤ 0
  · by_cases h4 : 0 ≤ d
    · rw [decide_eq_true h3, decide_eq_true h4]; rfl
    · rw [decide_eq_true h3, decide_eq_false h4, decide_eq_true (show d < 0 by omega), cond_true, cond_false, DG_eq h1 h2 (by omega), if_pos (by omega)]; rfl
  · rw [decide_eq_false h3, decide_eq_false (show ¬ d < 0 by omega), cond_false, DG_eq h1 h2 (by omega), if_neg (by omega)]; rfl
theorem H49 : Told Tryz.prog 49 (sh2 divE) := told2 gtold49 e_div
end Go.Proofs.YtbgdfikfldkjbaaGreat.AI
end
section
/- Layers 28 and 29's reference, told. -/
namespace Go.Proofs.YtbgdfikfldkjbaaGreat.AI
set_option linter.unnecessarySimpa false
open Go
set_option linter.unusedVariables false
set_option linter.unusedSimpArgs false
theorem gk71 : FnOk Tryz.prog 71 Tryz.f71 := fk Tryz.func71 (by kernel_rfl) rfl
theorem gk66 : FnOk Tryz.prog 66 Tryz.f66 := fk Tryz.func66 (by kernel_rfl) rfl
theorem gk67 : FnOk Tryz.prog 67 Tryz.f67 := fk Tryz.func67 (by kernel_rfl) rfl
theorem gk30 : FnOk Tryz.prog 30 Tryz.f30 := fk Tryz.func30 (by kernel_rfl) rfl
theorem gk32 : FnOk Tryz.prog 32 Tryz.f32 := fk Tryz.func32 (by kernel_rfl) rfl
theorem gk50 : FnOk Tryz.prog 50 Tryz.f50 := fk Tryz.func50 (by kernel_rfl) rfl
theorem gk20 : FnOk Tryz.prog 20 Tryz.f20 := fk Tryz.func20 (by kernel_rfl) rfl
theorem gk95 : FnOk Tryz.prog 95 Tryz.f95 := fk Tryz.func95 (by kernel_rfl) rfl
theorem gk96 : FnOk Tryz.prog 96 Tryz.f96 := fk Tryz.func96 (by kernel_rfl) rfl
theorem gk97 : FnOk Tryz.prog 97 Tryz.f97 := fk Tryz.func97 (by kernel_rfl) rfl
theorem gk98 : FnOk Tryz.prog 98 Tryz.f98 := fk Tryz.func98 (by kernel_rfl) rfl
theorem gk109 : FnOk Tryz.prog 109 Tryz.f109 := fk Tryz.func109 (by kernel_rfl) rfl
theorem gk110 : FnOk Tryz.prog 110 Tryz.f110 := fk Tryz.func110 (by kernel_rfl) rfl
theorem gk112 : FnOk Tryz.prog 112 Tryz.f112 := fk Tryz.func112 (by kernel_rfl) rfl
theorem gk115 : FnOk Tryz.prog 115 Tryz.f115 := fk Tryz.func115 (by kernel_rfl) rfl
theorem gk135 : FnOk Tryz.prog 135 Tryz.f135 := fk Tryz.func135 (by kernel_rfl) rfl
noncomputable def fnsR (f : FuncId) (fn : Func) : List (FuncId × Func × List (Nat × LV)) := [(f, fn, []), (20, Tryz.f20, []), (95, Tryz.f95, []), (96, Tryz.f96, []), (97, Tryz.f97, []), (98, Tryz.f98, []), (109, Tryz.f109, []), (110, Tryz.f110, []), (112, Tryz.f112, []), (115, Tryz.f115, []), (135, Tryz.f135, [])]
theorem fnsR_ok {f : FuncId} {fn : Func} (h : FnOk Tryz.prog f fn) : FnsOk Tryz.prog (fnsR f fn) := fns_cons h (fns_cons gk20 (fns_cons gk95 (fns_cons gk96 (fns_cons gk97 (fns_cons gk98 (fns_cons gk109 (fns_cons gk110 (fns_cons gk112 (fns_cons gk115 (fns_cons gk135 fns_nil))))))))))
def orc27 (o : Ops) : List (FuncId × (List V → Tree)) := [(28, s1v), (43, s6v), (70, sh2 o.add), (75, sh2 o.sub), (68, sh2 o.mul), (49, sh2 o.div), (99, sh1 o.neg), (120, sh1 o.sq), (116, sh1 o.sqrt), (69, s1s o.sgn)]
theorem orc27_ok : OrcOk Tryz.prog (orc27 opsE) := orc_cons E30 (orc_cons E20 (orc_cons E58 (orc_cons H75 (orc_cons E57 (orc_cons H49 (orc_cons H99 (orc_cons H120 (orc_cons H116 (orc_cons H69 orc_nil)))))))))
theorem gq71 (o : Ops) (a b : Bx) : ans Tryz.prog (orc27 o) (fnsR 71 Tryz.f71) 9 6 71 [bxV a, bxV b] = two6 a.v b.v (kept none (o.sub a.x b.x) fun x s => kept s (o.sub a.y b.y) fun y s => kept s (o.sub a.z b.z) fun z s => endB ⟨x, y, z⟩ s) (BB 0) := by kernel_rfl
theorem H71 : Told Tryz.prog 71 (s66 fun a b => resB (subB a b)) := told_sh (fuel := 9) (d := 6) (fns := fnsR 71 Tryz.f71) mixed orc27_ok (fnsR_ok gk71) gk71.enter (P66_flat fun _ _ => rfl) fun l x h => by
  obtain ⟨a, b, e, hx⟩ := P66_some h
  rw [e, gq71, ← hx, resB_val, two6_eq]
  unfold subB mapE
  cases a.v && b.v
  · rfl
  · rw [kept3]; rfl
theorem gq66 (o : Ops) (a b : Iv) : ans Tryz.prog (orc27 o) (fnsR 66 Tryz.f66) 9 6 66 [ivV a, ivV b] = two6 a.v b.v (kept none (o.sq b) fun sq s => kept s (o.sq a) fun c2 s => kept s (o.sub one1 c2) fun t s => kept s (o.mul sq t) fun p s => kept s (o.sub one1 p) fun q s => endI q s) (BI 0) := by kernel_rfl
theorem H66 : Told Tryz.prog 66 (sh2 radE) := told_sh (fuel := 9) (d := 6) (fns := fnsR 66 Tryz.f66) mixed orc27_ok (fnsR_ok gk66) gk66.enter F2_flat fun l x h => by
  obtain ⟨a, b, e, hx⟩ := F2_some h
  rw [e, gq66, ← hx, resT_val, two6_eq]
  unfold radE
  cases a.v && b.v
  · rfl
  · simp only [cond_true, okK_bind]
    exact kept_none (fun x => kept_none (fun y => kept_none (fun z => kept_none (fun t => kept_none (fun u => rfl) fun er u => rfl) fun er t => kept_skip fun u => rfl) fun er z => kept_skip fun t => kept_skip fun u => rfl) fun er y => kept_skip fun z => kept_skip fun t => kept_skip fun u => rfl) fun er x => kept_skip fun y => kept_skip fun z => kept_skip fun t => kept_skip fun u => rfl
theorem gq67 (o : Ops) (a : Iv) : ans Tryz.prog (orc27 o) (fnsR 67 Tryz.f67) 9 6 67 [ivV a] = bif !a.v then some (.u (ui 0), []) else bif decide (o.sgn a = -1) then some (.u (ui 1), []) else bif decide (o.sgn a = 1) then some (.u (ui 2), []) else some (.u (ui 3), []) := by kernel_rfl
theorem H67 : Told Tryz.prog 67 (s1s Iv.kind) := told_sh (fuel := 9) (d := 6) (fns := fnsR 67 Tryz.f67) mixed orc27_ok (fnsR_ok gk67) gk67.enter F1s_flat fun l x h => by
  obtain ⟨a, e, rfl⟩ := F1s_some h
  rw [e, gq67]
  unfold Iv.kind decI
  show _ = some (V.u (ui (bif !a.v then 0 else bif decide (a.sgn = -1) then 1 else bif decide (a.sgn = 1) then 2 else 3)), ([] : Heap))
  show (bif !a.v then _ else bif decide (a.sgn = -1) then _ else bif decide (a.sgn = 1) then _ else _) = _
  cases a.v
  · rfl
  · cases decide (a.sgn = -1)
    · cases decide (a.sgn = 1) <;> rfl
    · rfl
def orc29 (o : Ops) (rad : Iv → Iv → Er Iv) (kind : Iv → Int) : List (FuncId × (List V → Tree)) := (66, sh2 rad) :: (67, s1s kind) :: (65, s66 fun a b => resT (o.dot a b)) :: (63, s62 fun a b => resB (o.scale a b)) :: (64, s66 fun a b => resB (o.addB a b)) :: (71, s66 fun a b => resB (o.subB a b)) :: orc27 o
theorem orc29_ok : OrcOk Tryz.prog (orc29 opsE radE Iv.kind) := orc_cons H66 (orc_cons H67 (orc_cons E14 (orc_cons E12 (orc_cons E13 (orc_cons H71 orc27_ok)))))
theorem gq30 (o : Ops) (rad : Iv → Iv → Er Iv) (kind : Iv → Int) (d n : Bx) (r : Iv) : ans Tryz.prog (orc29 o rad kind) (fnsR 30 Tryz.f30) 9 6 30 [bxV d, bxV n, ivV r] = bif !r.v then BN 0 else okK (o.dot d n) (fun x => okK (rad x r) (fun q => ON (kind q)) BN) BN := by kernel_rfl
theorem dot_bad {d n : Bx} (h : (d.v && n.v) = false) : dotE d n = .error 0 := by unfold dotE; rw [h]; rfl
theorem H30 : Told Tryz.prog 30 (s662 fun d n r => resN (hitsE d n r)) := told_sh (fuel := 9) (d := 6) (fns := fnsR 30 Tryz.f30) mixed orc29_ok (fnsR_ok gk30) gk30.enter (P662_flat fun _ _ _ => rfl) fun l x h => by
  obtain ⟨d, n, r, e, hx⟩ := P662_some h
  rw [e, gq30, ← hx, resN_val]
  unfold hitsE
  cases hr : r.v
  · rw [Bool.and_false]; rfl
  · cases hdn : d.v && n.v
    · rw [show opsE.dot d n = .error 0 from dot_bad hdn]; rfl
    · simp only [Bool.and_self, Bool.not_true, cond_false, cond_true, okN_bind]
      rfl
theorem gq32 (o : Ops) (rad : Iv → Iv → Er Iv) (kind : Iv → Int) (d n : Bx) : ans Tryz.prog (orc29 o rad kind) (fnsR 32 Tryz.f32) 9 6 32 [bxV d, bxV n] = okK (o.dot d n) (fun x => okK (o.add x x) (fun k => okB (o.scale n k) (fun s => okB (o.subB d s) OB BB) BB) BB) BB := by kernel_rfl
theorem H32 : Told Tryz.prog 32 (s66 fun d n => resB (reflE d n)) := told_sh (fuel := 9) (d := 6) (fns := fnsR 32 Tryz.f32) mixed orc29_ok (fnsR_ok gk32) gk32.enter (P66_flat fun _ _ => rfl) fun l x h => by
  obtain ⟨d, n, e, hx⟩ := P66_some h
  rw [e, gq32, ← hx, resB_val]
  unfold reflE
  simp only [okB_bind, okB_bindB]
  rfl
def afK (s : Option Nat) (X : R) : R := match s with
  | none => X
  | some e => BF e
def refG (o : Ops) (d n : Bx) (r c af : Iv) : R := okB (o.scale d r) (fun al => kept none (o.mul r c) fun m s => kept s (o.sub af m) fun k s => afK s (okB (o.scale n k) (fun s' => okB (o.addB al s') (fun out => OF ⟨out, c, af⟩) BF) BF)) BF
theorem gq50 (o : Ops) (rad : Iv → Iv → Er Iv) (kind : Iv → Int) (d n : Bx) (r : Iv) : ans Tryz.prog (orc29 o rad kind) (fnsR 50 Tryz.f50) 9 6 50 [bxV d, bxV n, ivV r] = bif !r.v then BF 0 else okK (o.dot d n) (fun c => bif decide (o.sgn c = 0) then BF 8 else okK (rad c r) (fun q => bif decide (q.lo < 0) then BF 14 else
    kept none (o.sqrt q) fun t s => bif decide (o.sgn c < 0) then kept s (o.neg t) fun af s => afK s (refG o d n r c af) else afK s (refG o d n r c t)) BF) BF := by kernel_rfl
theorem refG_eq (d n : Bx) (r c af : Iv) : refG opsE d n r c af = okF (bindE (scaleE d r) fun al => bindE (mulE r c) fun m => bindE (subE af m) fun k => bindE (scaleE n k) fun s => bindE (addB al s) fun out => .ok ⟨out, c, af⟩) OF BF := by
  unfold refG
  simp only [okF_bind, okF_bindB]
  show okB (scaleE d r) _ _ = okB (scaleE d r) _ _
  unfold okB
  cases okE (scaleE d r)
  · rfl
  simp only [cond_true]
  exact kept_none (fun m => kept_none (fun k => rfl) fun er k => rfl) fun er m => kept_skip fun k => rfl
theorem H50 : Told Tryz.prog 50 (s662 fun d n r => resF (refrE d n r)) := told_sh (fuel := 9) (d := 6) (fns := fnsR 50 Tryz.f50) mixed orc29_ok (fnsR_ok gk50) gk50.enter (P662_flat fun _ _ _ => rfl) fun l x h => by
  obtain ⟨d, n, r, e, hx⟩ := P662_some h
  rw [e, gq50, ← hx, resF_val]
  unfold refrE
  cases hr : r.v
  · rw [Bool.and_false]; rfl
  · cases hdn : d.v && n.v
    · rw [show opsE.dot d n = .error 0 from dot_bad hdn]; rfl
    · simp only [Bool.and_self, Bool.not_true, cond_false, cond_true, okF_bind]
      show okK (dotE d n) _ _ = okK (dotE d n) _ _
      unfold okK
      cases okE (dotE d n)
      · rfl
      simp only [cond_true]
      generalize getE iv0 (dotE d n) = c
      show (bif decide (c.sgn = 0) then BF 8 else _) = _
      cases decide (c.sgn = 0)
      · simp only [cond_false, okF_bind]
        unfold okK
        cases okE (radE c r)
        · rfl
        simp only [cond_true]
        generalize getE iv0 (radE c r) = q
        cases decide (q.lo < 0)
        · simp only [cond_false, okF_bind]
          show (kept none (sqrtE q) fun t s => bif decide (c.sgn < 0) then kept s (negE t) fun af s => afK s (refG opsE d n r c af) else afK s (refG opsE d n r c t)) = _
          cases decide (c.sgn < 0)
          · simp only [cond_false]
            exact kept_none (fun t => (refG_eq d n r c t).trans (by simp only [okF_bind, okF_bindB]; rfl)) fun er t => rfl
          · simp only [cond_true]
            exact kept_none (fun t => (kept_none (fun af => (refG_eq d n r c af).trans (by simp only [okF_bind, okF_bindB])) fun er af => rfl)) fun er t => kept_skip fun af => rfl
        · rfl
      · rfl
end Go.Proofs.YtbgdfikfldkjbaaGreat.AI
end
