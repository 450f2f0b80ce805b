/- Layer 30's reference, told; the reference's passing light and next point of layer 31. -/
import Derived.Test.YtbgdfikfldkjbaaGreatGC
namespace Go.Proofs.YtbgdfikfldkjbaaGreat.AI
set_option linter.unnecessarySimpa false
open Go
set_option linter.unusedVariables false
set_option linter.unusedSimpArgs false
theorem gk101 : FnOk Tryz.prog 101 Tryz.f101 := fk Tryz.func101 (by kernel_rfl) rfl
theorem gk130 : FnOk Tryz.prog 130 Tryz.f130 := fk Tryz.func130 (by kernel_rfl) rfl
theorem gk134 : FnOk Tryz.prog 134 Tryz.f134 := fk Tryz.func134 (by kernel_rfl) rfl
theorem gk131 : FnOk Tryz.prog 131 Tryz.f131 := fk Tryz.func131 (by kernel_rfl) rfl
theorem gk125 : FnOk Tryz.prog 125 Tryz.f125 := fk Tryz.func125 (by kernel_rfl) rfl
theorem gk126 : FnOk Tryz.prog 126 Tryz.f126 := fk Tryz.func126 (by kernel_rfl) rfl
theorem gk117 : FnOk Tryz.prog 117 Tryz.f117 := fk Tryz.func117 (by kernel_rfl) rfl
theorem gk100 : FnOk Tryz.prog 100 Tryz.f100 := fk Tryz.func100 (by kernel_rfl) rfl
theorem gk51 : FnOk Tryz.prog 51 Tryz.f51 := fk Tryz.func51 (by kernel_rfl) rfl
theorem gk29 : FnOk Tryz.prog 29 Tryz.f29 := fk Tryz.func29 (by kernel_rfl) rfl
def cutG (n : Int) : Int := mxI 0 (mnI n 16777216)
theorem cutG_eq (n : Int) : cutG n = cutN n := by unfold cutG cutN; rw [mxI_eq, mnI_eq, mxI_eq, mnI_eq, Int.min_comm]
theorem gq101 (a : Iv) : ans Tryz.prog [] [(101, Tryz.f101, [])] 9 6 101 [ivV a] = some (.u (ivU ⟨cutG a.lo, cutG a.hi⟩), []) := by kernel_rfl
theorem H101 : Told Tryz.prog 101 (s1c Iv.cut) := told_sh (fuel := 9) (d := 6) (fns := [(101, Tryz.f101, [])]) mixed orc_nil (fns_cons gk101 fns_nil) gk101.enter F1c_flat fun l x h => by
  obtain ⟨a, e, rfl⟩ := F1c_some h
  rw [e, gq101, cutG_eq, cutG_eq]; rfl
def wiG (x : Iv) (a b : Int) (y n : R) : R := bif x.v then bif decide (a ≤ x.lo) then bif decide (x.hi ≤ b) then y else n else n else n
theorem gq130 (s : Sf) : ans Tryz.prog [(28, s1v)] [(130, Tryz.f130, []), (134, Tryz.f134, [])] 9 6 130 [sfV s] = wi s.before 0 16777216 (wi s.after 0 16777216 (wi s.fr 16777216 67108864 (wl s.to 16777216 67108864) (tru false)) (tru false)) (tru false) := by kernel_rfl
theorem H130 : Told Tryz.prog 130 (s8 fun s => truT s.v) := told_sh (fuel := 9) (d := 6) (fns := [(130, Tryz.f130, []), (134, Tryz.f134, [])]) mixed (orc_cons E30 orc_nil) (fns_cons gk130 (fns_cons gk134 fns_nil)) gk130.enter (P8_flat fun _ => rfl) fun l x h => by
  obtain ⟨s, e, hx⟩ := P8_some h
  rw [e, gq130, ← hx]
  show _ = tru s.v
  simp only [wi_eq, wl_eq]
  unfold Sf.v
  cases s.before.within 0 16777216 <;> cases s.after.within 0 16777216 <;> cases s.fr.within 16777216 67108864 <;> rfl
noncomputable def fnsT (f : FuncId) (fn : Func) : List (FuncId × Func × List (Nat × LV)) := (131, Tryz.f131, []) :: fnsR f fn
theorem fnsT_ok {f : FuncId} {fn : Func} (h : FnOk Tryz.prog f fn) : FnsOk Tryz.prog (fnsT f fn) := fns_cons gk131 (fnsR_ok h)
def orc30 (o : Ops) (cut : Iv → Iv) : List (FuncId × (List V → Tree)) := (101, s1c cut) :: (130, s8 fun s => truT s.v) :: orc27 o
theorem orc30_ok : OrcOk Tryz.prog (orc30 opsE Iv.cut) := orc_cons H101 (orc_cons H130 orc27_ok)
def shK (o : Ops) (cut : Iv → Iv) (p q : Iv) (s : Option Nat) : R := kept s (o.sub p q) fun d s => kept s (o.add p q) fun t s => kept s (o.div d t) fun x s => kept s (o.sq x) fun y s => endI (cut y) s
theorem gq125 (o : Ops) (cut : Iv → Iv) (s : Sf) : ans Tryz.prog (orc30 o cut) (fnsT 125 Tryz.f125) 9 6 125 [sfV s] = bif !s.v then BI 0 else kept none (o.mul s.fr s.before) fun p t => kept t (o.mul s.to s.after) fun q t => shK o cut p q t := by kernel_rfl
theorem gq126 (o : Ops) (cut : Iv → Iv) (s : Sf) : ans Tryz.prog (orc30 o cut) (fnsT 126 Tryz.f126) 9 6 126 [sfV s] = bif !s.v then BI 0 else kept none (o.mul s.fr s.after) fun p t => kept t (o.mul s.to s.before) fun q t => shK o cut p q t := by kernel_rfl
theorem shK_none (p q : Iv) : shK opsE Iv.cut p q none = okK (shareE p q) OI BI := by
  unfold shK shareE
  simp only [okK_bind]
  exact kept_none (fun d => kept_none (fun t => kept_none (fun x => kept_none (fun y => rfl) fun er y => rfl) fun er x => kept_skip fun y => rfl) fun er t => kept_skip fun x => kept_skip fun y => rfl) fun er d => kept_skip fun t => kept_skip fun x => kept_skip fun y => rfl
theorem shK_some (p q : Iv) (e : Nat) : shK opsE Iv.cut p q (some e) = BI e := kept_skip fun d => kept_skip fun t => kept_skip fun x => kept_skip fun y => rfl
theorem pol_eq (s : Sf) (f g : Iv) : (bif !s.v then BI 0 else kept none (mulE s.fr f) fun p t => kept t (mulE s.to g) fun q t => shK opsE Iv.cut p q t) = okK (polE s f g) OI BI := by
  unfold polE
  cases s.v
  · rfl
  · simp only [Bool.not_true, cond_false, cond_true, okK_bind]
    exact kept_none (fun p => kept_none (fun q => shK_none p q) fun er q => shK_some p q er) fun er p => kept_skip fun q => shK_some p q er
theorem H125 : Told Tryz.prog 125 (s8 fun s => resT (polE s s.before s.after)) := told_sh (fuel := 9) (d := 6) (fns := fnsT 125 Tryz.f125) mixed orc30_ok (fnsT_ok gk125) gk125.enter (P8_flat fun _ => rfl) fun l x h => by
  obtain ⟨s, e, hx⟩ := P8_some h
  rw [e, gq125, ← hx, resT_val]
  exact pol_eq s s.before s.after
theorem H126 : Told Tryz.prog 126 (s8 fun s => resT (polE s s.after s.before)) := told_sh (fuel := 9) (d := 6) (fns := fnsT 126 Tryz.f126) mixed orc30_ok (fnsT_ok gk126) gk126.enter (P8_flat fun _ => rfl) fun l x h => by
  obtain ⟨s, e, hx⟩ := P8_some h
  rw [e, gq126, ← hx, resT_val]
  exact pol_eq s s.after s.before
theorem okK_ext {e : Er Iv} {k k' : Iv → R} {b : Nat → R} (h : ∀ x, k x = k' x) : okK e k b = okK e k' b := by rw [show k = k' from funext h]
def orc30' (o : Ops) (cut : Iv → Iv) (p1 p2 : Sf → Er Iv) : List (FuncId × (List V → Tree)) := (125, s8 fun s => resT (p1 s)) :: (126, s8 fun s => resT (p2 s)) :: orc30 o cut
theorem gq117 (o : Ops) (cut : Iv → Iv) (p1 p2 : Sf → Er Iv) (s : Sf) : ans Tryz.prog (orc30' o cut p1 p2) (fnsT 117 Tryz.f117) 9 6 117 [sfV s] = okK (p1 s) (fun a => okK (p2 s) (fun b => kept none (o.add a b) fun t s => kept s (o.mul t half1) fun x s => endI (cut x) s) BI) BI := by kernel_rfl
theorem H117 : Told Tryz.prog 117 (s8 fun s => resT (reflectE s)) := told_sh (fuel := 9) (d := 6) (fns := fnsT 117 Tryz.f117) mixed (orc_cons H125 (orc_cons H126 orc30_ok)) (fnsT_ok gk117) gk117.enter (P8_flat fun _ => rfl) fun l x h => by
  obtain ⟨s, e, hx⟩ := P8_some h
  rw [e]
  refine (gq117 opsE Iv.cut (fun s => polE s s.before s.after) (fun s => polE s s.after s.before) s).trans ?_
  rw [← hx, resT_val]
  unfold reflectE
  simp only [okK_bind]
  exact okK_ext fun a => okK_ext fun b => kept_none (fun t => kept_none (fun x => rfl) fun er x => rfl) fun er t => kept_skip fun x => rfl
theorem gq100 (o : Ops) (re : Sf → Er Iv) (s : Sf) : ans Tryz.prog ((117, s8 fun s => resT (re s)) :: orc27 o) (fnsT 100 Tryz.f100) 9 6 100 [sfV s] = okK (re s) (fun r => okK (o.sub one1 r) OI BI) BI := by kernel_rfl
theorem H100 : Told Tryz.prog 100 (s8 fun s => resT (transE s)) := told_sh (fuel := 9) (d := 6) (fns := fnsT 100 Tryz.f100) mixed (orc_cons H117 orc27_ok) (fnsT_ok gk100) gk100.enter (P8_flat fun _ => rfl) fun l x h => by
  obtain ⟨s, e, hx⟩ := P8_some h
  rw [e, gq100, ← hx, resT_val]
  unfold transE
  simp only [okK_bind]
  rfl
/-! Light that passes. -/
def passE (before after fr to : Iv) : Er Iv := bif decide (before.lo < 0) then transE ⟨(getE iv0 (negE before)).cut, (getE iv0 (negE after)).cut, fr, to⟩ else transE ⟨before.cut, after.cut, fr, to⟩
def ngX (e : Er Iv) (k : Iv → R) : R := bif okE e then k (getE iv0 e) else k iv0
theorem gq51 (neg : Iv → Er Iv) (cut : Iv → Iv) (tr : Sf → Er Iv) (p q r s : Iv) : ans Tryz.prog [(99, sh1 neg), (101, s1c cut), (100, s8 fun s => resT (tr s))] [(51, Tryz.f51, [])] 9 6 51 [ivV p, ivV q, ivV r, ivV s] =
    bif decide (p.lo < 0) then ngX (neg p) fun p' => ngX (neg q) fun q' => okK (tr ⟨cut p', cut q', r, s⟩) OI BI else okK (tr ⟨cut p, cut q, r, s⟩) OI BI := by kernel_rfl
theorem ngX_get {e : Er Iv} {k : Iv → R} : ngX e k = k (getE iv0 e) := by cases e <;> rfl
theorem H51 : Told Tryz.prog 51 (s2222 fun p q r s => resT (passE p q r s)) := told_sh (fuel := 9) (d := 6) (fns := [(51, Tryz.f51, [])]) mixed (orc_cons H99 (orc_cons H101 (orc_cons H100 orc_nil))) (fns_cons gk51 fns_nil) gk51.enter (P2222_flat fun _ _ _ _ => rfl) fun l x h => by
  obtain ⟨p, q, r, s, e, hx⟩ := P2222_some h
  rw [e, gq51, ← hx, resT_val]
  unfold passE
  simp only [ngX_get]
  cases decide (p.lo < 0) <;> rfl
/-- Light passes as the program says. -/
theorem neg_in {x : Iv} (h : x.v = true) : getE iv0 (negE x) = ⟨-x.hi, -x.lo⟩ := by unfold negE; rw [h]; rfl
theorem pass_light {a b c d : Iv} (ha : a.v = true) (hb : b.v = true) (h : (0 ≤ a.lo ∧ 0 ≤ b.lo) ∨ (a.lo < 0 ∧ (b.lo < 0 ∨ b.lo = 0 ∧ b.hi = 0))) : passE a b c d = lightE a b c d := by
  unfold passE lightE cosI
  have va := ha
  have vb := hb
  simp only [Iv.v, vI_iff] at va vb
  have w : ∀ n : Int, -1073741824 ≤ n → n ≤ 1073741824 → W (0 - n) = -n := fun n h1 h2 => by unfold W; rw [Int.zero_sub]; exact wr (by omega) (by omega)
  rcases h with ⟨h1, h2⟩ | ⟨h1, h2⟩
  · rw [decide_eq_false (show ¬ a.lo < 0 by omega), decide_eq_false (show ¬ b.lo < 0 by omega)]
    rfl
  · rw [decide_eq_true h1, neg_in ha, neg_in hb, w _ (by omega) (by omega), w _ (by omega) (by omega)]
    rcases h2 with h2 | ⟨h2, h3⟩
    · rw [decide_eq_true h2, w _ (by omega) (by omega), w _ (by omega) (by omega)]; rfl
    · rw [decide_eq_false (show ¬ b.lo < 0 by omega)]
      obtain ⟨bl, bh⟩ := b
      simp only at h2 h3
      subst h2 h3
      rfl
/-! The next point. -/
theorem gq29 (sc : Bx → Iv → Er Bx) (ad : Bx → Bx → Er Bx) (r : Ray) (k : Iv) : ans Tryz.prog [(63, s62 fun a b => resB (sc a b)), (64, s66 fun a b => resB (ad a b))] [(29, Tryz.f29, [])] 9 6 29 [rayV r, ivV k] = okB (sc r.dir k) (fun w => okB (ad r.pt w) OB BB) BB := by kernel_rfl
theorem H29 : Told Tryz.prog 29 (s122 fun r k => resB (moveE r k)) := told_sh (fuel := 9) (d := 6) (fns := [(29, Tryz.f29, [])]) mixed (orc_cons E12 (orc_cons E13 orc_nil)) (fns_cons gk29 fns_nil) gk29.enter (P122_flat fun _ _ => rfl) fun l x h => by
  obtain ⟨r, k, e, hx⟩ := P122_some h
  rw [e, gq29, ← hx, resB_val]
  unfold moveE
  simp only [okB_bindB]
end Go.Proofs.YtbgdfikfldkjbaaGreat.AI
