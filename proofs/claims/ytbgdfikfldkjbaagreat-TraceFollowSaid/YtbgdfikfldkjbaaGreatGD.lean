/- Two texts, laid into one by mkclaim.py. -/
import Derived.Test.YtbgdfikfldkjbaaGreatGB
section
/- Layer 30's reference, told; the reference's passing light and next point of layer 31. -/
namespace Go.Proofs.YtbgdfikfldkjbaaGreat.AI
set_option linter.unnecessarySimpa false
open Go
set_option linter.unusedVariables false
set_option linter.unusedSimpArgs false
theorem gk101 : FnOk Tryz.prog 101 Tryz.f101 := fk Tryz.func101 (by kernel_rfl) rfl
theorem gk130 : FnOk Tryz.prog 130 Tryz.f130 := fk Tryz.func130 (by kernel_rfl) rfl
theorem gk134 : FnOk Tryz.prog 134 Tryz.f134 := fk Tryz.func134 (by kernel_rfl) rfl
theorem gk131 : FnOk Tryz.prog 131 Tryz.f131 := fk Tryz.func131 (by kernel_rfl) rfl
theorem gk125 : FnOk Tryz.prog 125 Tryz.f125 := fk Tryz.func125 (by kernel_rfl) rfl
theorem gk126 : FnOk Tryz.prog 126 Tryz.f126 := fk Tryz.func126 (by kernel_rfl) rfl
theorem gk117 : FnOk Tryz.prog 117 Tryz.f117 := fk Tryz.func117 (by kernel_rfl) rfl
theorem gk100 : FnOk Tryz.prog 100 Tryz.f100 := fk Tryz.func100 (by kernel_rfl) rfl
theorem gk51 : FnOk Tryz.prog 51 Tryz.f51 := fk Tryz.func51 (by kernel_rfl) rfl
theorem gk29 : FnOk Tryz.prog 29 Tryz.f29 := fk Tryz.func29 (by kernel_rfl) rfl
def cutG (n : Int) : Int := mxI 0 (mnI n 16777216)
theorem cutG_eq (n : Int) : cutG n = cutN n := by unfold cutG cutN; rw [mxI_eq, mnI_eq, mxI_eq, mnI_eq, Int.min_comm]
theorem gq101 (a : Iv) : ans Tryz.prog [] [(101, Tryz.f101, [])] 9 6 101 [ivV a] = some (.u (ivU ⟨cutG a.lo, cutG a.hi⟩), []) := by kernel_rfl
theorem H101 : Told Tryz.prog 101 (s1c Iv.cut) := told_sh (fuel := 9) (d := 6) (fns := [(101, Tryz.f101, [])]) mixed orc_nil (fns_cons gk101 fns_nil) gk101.enter F1c_flat fun l x h => by
  obtain ⟨a, e, rfl⟩ := F1c_some h
  rw [e, gq101, cutG_eq, cutG_eq]; rfl
def wiG (x : Iv) (a b : Int) (y n : R) : R := bif x.v then bif decide (a ≤ x.lo) then bif decide (x.hi ≤ b) then y else n else n else n
theorem gq130 (s : Sf) : ans Tryz.prog [(28, s1v)] [(130, Tryz.f130, []), (134, Tryz.f134, [])] 9 6 130 [sfV s] = wi s.before 0 16777216 (wi s.after 0 16777216 (wi s.fr 16777216 67108864 (wl s.to 16777216 67108864) (tru false)) (tru false)) (tru false) := by kernel_rfl
theorem H130 : Told Tryz.prog 130 (s8 fun s => truT s.v) := told_sh (fuel := 9) (d := 6) (fns := [(130, Tryz.f130, []), (134, Tryz.f134, [])]) mixed (orc_cons E30 orc_nil) (fns_cons gk130 (fns_cons gk134 fns_nil)) gk130.enter (P8_flat fun _ => rfl) fun l x h => by
  obtain ⟨s, e, hx⟩ := P8_some h
  rw [e, gq130, ← hx]
  show _ = tru s.v
  simp only [wi_eq, wl_eq]
  unfold Sf.v
  cases s.before.within 0 16777216 <;> cases s.after.within 0 16777216 <;> cases s.fr.within 16777216 67108864 <;> rfl
noncomputable def fnsT (f : FuncId) (fn : Func) : List (FuncId × Func × List (Nat × LV)) := (131, Tryz.f131, []) :: fnsR f fn
theorem fnsT_ok {f : FuncId} {fn : Func} (h : FnOk Tryz.prog f fn) : FnsOk Tryz.prog (fnsT f fn) := fns_cons gk131 (fnsR_ok h)
def orc30 (o : Ops) (cut : Iv → Iv) : List (FuncId × (List V → Tree)) := (101, s1c cut) :: (130, s8 fun s => truT s.v) :: orc27 o
theorem orc30_ok : OrcOk Tryz.prog (orc30 opsE Iv.cut) := orc_cons H101 (orc_cons H130 orc27_ok)
def shK (o : Ops) (cut : Iv → Iv) (p q : Iv) (s : Option Nat) : R := kept s (o.sub p q) fun d s => kept s (o.add p q) fun t s => kept s (o.div d t) fun x s => kept s (o.sq x) fun y s => endI (cut y) s
theorem gq125 (o : Ops) (cut : Iv → Iv) (s : Sf) : ans Tryz.prog (orc30 o cut) (fnsT 125 Tryz.f125) 9 6 125 [sfV s] = bif !s.v then BI 0 else kept none (o.mul s.fr s.before) fun p t => kept t (o.mul s.to s.after) fun q t => shK o cut p q t := by kernel_rfl
theorem gq126 (o : Ops) (cut : Iv → Iv) (s : Sf) : ans Tryz.prog (orc30 o cut) (fnsT 126 Tryz.f126) 9 6 126 [sfV s] = bif !s.v then BI 0 else kept none (o.mul s.fr s.after) fun p t => kept t (o.mul s.to s.before) fun q t => shK o cut p q t := by kernel_rfl
theorem shK_none (p q : Iv) : shK opsE Iv.cut p q none = okK (shareE p q) OI BI := by
  unfold shK shareE
  simp only [okK_bind]
  exact kept_none (fun d => kept_none (fun t => kept_none (fun x => kept_none (fun y => rfl) fun er y => rfl) fun er x => kept_skip fun y => rfl) fun er t => kept_skip fun x => kept_skip fun y => rfl) fun er d => kept_skip fun t => kept_skip fun x => kept_skip fun y => rfl
theorem shK_some (p q : Iv) (e : Nat) : shK opsE Iv.cut p q (some e) = BI e := kept_skip fun d => kept_skip fun t => kept_skip fun x => kept_skip fun y => rfl
theorem pol_eq (s : Sf) (f g : Iv) : (bif !s.v then BI 0 else kept none (mulE s.fr f) fun p t => kept t (mulE s.to g) fun q t => shK opsE Iv.cut p q t) = okK (polE s f g) OI BI := by
  unfold polE
  cases s.v
  · rfl
  · simp only [Bool.not_true, cond_false, cond_true, okK_bind]
    exact kept_none (fun p => kept_none (fun q => shK_none p q) fun er q => shK_some p q er) fun er p => kept_skip fun q => shK_some p q er
theorem H125 : Told Tryz.prog 125 (s8 fun s => resT (polE s s.before s.after)) := told_sh (fuel := 9) (d := 6) (fns := fnsT 125 Tryz.f125) mixed orc30_ok (fnsT_ok gk125) gk125.enter (P8_flat fun _ => rfl) fun l x h => by
  obtain ⟨s, e, hx⟩ := P8_some h
  rw [e, gq125, ← hx, resT_val]
  exact pol_eq s s.before s.after
theorem H126 : Told Tryz.prog 126 (s8 fun s => resT (polE s s.after s.before)) := told_sh (fuel := 9) (d := 6) (fns := fnsT 126 Tryz.f126) mixed orc30_ok (fnsT_ok gk126) gk126.enter (P8_flat fun _ => rfl) fun l x h => by
  obtain ⟨s, e, hx⟩ := P8_some h
  rw [e, gq126, ← hx, resT_val]
  exact pol_eq s s.after s.before
theorem okK_ext {e : Er Iv} {k k' : Iv → R} {b : Nat → R} (h : ∀ x, k x = k' x) : okK e k b = okK e k' b := by rw [show k = k' from funext h]
def orc30' (o : Ops) (cut : Iv → Iv) (p1 p2 : Sf → Er Iv) : List (FuncId × (List V → Tree)) := (125, s8 fun s => resT (p1 s)) :: (126, s8 fun s => resT (p2 s)) :: orc30 o cut
theorem gq117 (o : Ops) (cut : Iv → Iv) (p1 p2 : Sf → Er Iv) (s : Sf) : ans Tryz.prog (orc30' o cut p1 p2) (fnsT 117 Tryz.f117) 9 6 117 [sfV s] = okK (p1 s) (fun a => okK (p2 s) (fun b => kept none (o.add a b) fun t s => kept s (o.mul t half1) fun x s => endI (cut x) s) BI) BI := by kernel_rfl
theorem H117 : Told Tryz.prog 117 (s8 fun s => resT (reflectE s)) := told_sh (fuel := 9) (d := 6) (fns := fnsT 117 Tryz.f117) mixed (orc_cons H125 (orc_cons H126 orc30_ok)) (fnsT_ok gk117) gk117.enter (P8_flat fun _ => rfl) fun l x h => by
  obtain ⟨s, e, hx⟩ := P8_some h
  rw [e]
  refine (gq117 opsE Iv.cut (fun s => polE s s.before s.after) (fun s => polE s s.after s.before) s).trans ?_
  rw [← hx, resT_val]
  unfold reflectE
  simp only [okK_bind]
  exact okK_ext fun a => okK_ext fun b => kept_none (fun t => kept_none (fun x => rfl) fun er x => rfl) fun er t => kept_skip fun x => rfl
theorem gq100 (o : Ops) (re : Sf → Er Iv) (s : Sf) : ans Tryz.prog ((117, s8 fun s => resT (re s)) :: orc27 o) (fnsT 100 Tryz.f100) 9 6 100 [sfV s] = okK (re s) (fun r => okK (o.sub one1 r) OI BI) BI := by kernel_rfl
theorem H100 : Told Tryz.prog 100 (s8 fun s => resT (transE s)) := told_sh (fuel := 9) (d := 6) (fns := fnsT 100 Tryz.f100) mixed (orc_cons H117 orc27_ok) (fnsT_ok gk100) gk100.enter (P8_flat fun _ => rfl) fun l x h => by
  obtain ⟨s, e, hx⟩ := P8_some h
  rw [e, gq100, ← hx, resT_val]
  unfold transE
  simp only [okK_bind]
  rfl
/-! Light that passes. -/
def passE (before after fr to : Iv) : Er Iv := bif decide (before.lo < 0) then transE ⟨(getE iv0 (negE before)).cut, (getE iv0 (negE after)).cut, fr, to⟩ else transE ⟨before.cut, after.cut, fr, to⟩
def ngX (e : Er Iv) (k : Iv → R) : R := bif okE e then k (getE iv0 e) else k iv0
theorem gq51 (neg : Iv → Er Iv) (cut : Iv → Iv) (tr : Sf → Er Iv) (p q r s : Iv) : ans Tryz.prog [(99, sh1 neg), (101, s1c cut), (100, s8 fun s => resT (tr s))] [(51, Tryz.f51, [])] 9 6 51 [ivV p, ivV q, ivV r, ivV s] =
    bif decide (p.lo < 0) then ngX (neg p) fun p' => ngX (neg q) fun q' => okK (tr ⟨cut p', cut q', r, s⟩) OI BI else okK (tr ⟨cut p, cut q, r, s⟩) OI BI := by kernel_rfl
theorem ngX_get {e : Er Iv} {k : Iv → R} : ngX e k = k (getE iv0 e) := by cases e <;> rfl
theorem H51 : Told Tryz.prog 51 (s2222 fun p q r s => resT (passE p q r s)) := told_sh (fuel := 9) (d := 6) (fns := [(51, Tryz.f51, [])]) mixed (orc_cons H99 (orc_cons H101 (orc_cons H100 orc_nil))) (fns_cons gk51 fns_nil) gk51.enter (P2222_flat fun _ _ _ _ => rfl) fun l x h => by
  obtain ⟨p, q, r, s, e, hx⟩ := P2222_some h
  rw [e, gq51, ← hx, resT_val]
  unfold passE
  simp only [ngX_get]
  cases decide (p.lo < 0) <;> rfl
/-- Light passes as the program says. -/
theorem neg_in {x : Iv} (h : x.v = true) : getE iv0 (negE x) = ⟨-x.hi, -x.lo⟩ := by unfold negE; rw [h]; rfl
theorem pass_light {a b c d : Iv} (ha : a.v = true) (hb : b.v = true) (h : (0 ≤ a.lo ∧ 0 ≤ b.lo) ∨ (a.lo < 0 ∧ (b.lo < 0 ∨ b.lo = 0 ∧ b.hi = 0))) : passE a b c d = lightE a b c d := by
  unfold passE lightE cosI
  have va := ha
  have vb := hb
  simp only [Iv.v, vI_iff] at va vb
  have w : ∀ n : Int, -1073741824 ≤ n → n ≤ 1073741824 → W (0 - n) = -n := fun n h1 h2 => by unfold W; rw [Int.zero_sub]; exact wr (by omega) (by omega)
  rcases h with ⟨h1, h2⟩ | ⟨h1, h2⟩
  · rw [decide_eq_false (show ¬ a.lo < 0 by omega), decide_eq_false (show ¬ b.lo < 0 by omega)]
    rfl
  · rw [decide_eq_true h1, neg_in ha, neg_in hb, w _ (by omega) (by omega), w _ (by omega) (by omega)]
    rcases h2 with h2 | ⟨h2, h3⟩
    · rw [decide_eq_true h2, w _ (by omega) (by omega), w _ (by omega) (by omega)]; rfl
    · rw [decide_eq_false (show ¬ b.lo < 0 by omega)]
      obtain ⟨bl, bh⟩ := b
      simp only at h2 h3
      subst h2 h3
      rfl
/-! The next point. -/
theorem gq29 (sc : Bx → Iv → Er Bx) (ad : Bx → Bx → Er Bx) (r : Ray) (k : Iv) : ans Tryz.prog [(63, s62 fun a b => resB (sc a b)), (64, s66 fun a b => resB (ad a b))] [(29, Tryz.f29, [])] 9 6 29 [rayV r, ivV k] = okB (sc r.dir k) (fun w => okB (ad r.pt w) OB BB) BB := by kernel_rfl
theorem H29 : Told Tryz.prog 29 (s122 fun r k => resB (moveE r k)) := told_sh (fuel := 9) (d := 6) (fns := [(29, Tryz.f29, [])]) mixed (orc_cons E12 (orc_cons E13 orc_nil)) (fns_cons gk29 fns_nil) gk29.enter (P122_flat fun _ _ => rfl) fun l x h => by
  obtain ⟨r, k, e, hx⟩ := P122_some h
  rw [e, gq29, ← hx, resB_val]
  unfold moveE
  simp only [okB_bindB]
end Go.Proofs.YtbgdfikfldkjbaaGreat.AI
end
section
/- Layer 31's reference: left, floor, index, told. -/
namespace Go.Proofs.YtbgdfikfldkjbaaGreat.AI
set_option linter.unnecessarySimpa false
open Go
set_option linter.unusedVariables false
set_option linter.unusedSimpArgs false
theorem gk31 : FnOk Tryz.prog 31 Tryz.f31 := fk Tryz.func31 (by kernel_rfl) rfl
theorem gk76 : FnOk Tryz.prog 76 Tryz.f76 := fk Tryz.func76 (by kernel_rfl) rfl
theorem gk42 : FnOk Tryz.prog 42 Tryz.f42 := fk Tryz.func42 (by kernel_rfl) rfl
theorem gk27 : FnOk Tryz.prog 27 Tryz.f27 := fk Tryz.func27 (by kernel_rfl) rfl
theorem gq76 (a b : Int) : ans Tryz.prog [] [(76, Tryz.f76, [])] 9 3 76 [.u (ui a), .u (ui b)] = fl82 a b := by kernel_rfl
theorem H76 : Told Tryz.prog 76 (quoT dnq) := by
  refine told_flat (fuel := 9) (d := 3) (fns := [(76, Tryz.f76, [])]) mixed orc_nil (fns_cons gk76 fns_nil) gk76.enter quo_flat (fun args x h => ?_) fun args x h => ?_
  · obtain ⟨a, b, rfl, _⟩ := quo_val h; rfl
  · obtain ⟨a, b, rfl, hb, h1, h2, rfl⟩ := quo_val h
    rw [gq76]
    exact fl82_eq hb h1 h2
theorem gq27 (r : Ray) : ans Tryz.prog [(43, s6v)] [(27, Tryz.f27, [])] 9 3 27 [rayV r] = bif r.pt.v then tru r.dir.v else tru false := by kernel_rfl
theorem H27 : Told Tryz.prog 27 (shT [some 12] (P12 fun r => truT (r.pt.v && r.dir.v))) := told_sh (fuel := 9) (d := 3) (fns := [(27, Tryz.f27, [])]) mixed (orc_cons E20 orc_nil) (fns_cons gk27 fns_nil) gk27.enter (fun l => by unfold P12; split <;> rfl) fun l x h => by
  unfold P12 at h
  split at h
  · rename_i a b c d e f a' b' c' d' e' f'
    refine (gq27 ⟨⟨⟨a, b⟩, ⟨c, d⟩, ⟨e, f⟩⟩, ⟨⟨a', b'⟩, ⟨c', d'⟩, ⟨e', f'⟩⟩⟩).trans ?_
    rw [← h]
    show _ = tru (_ && _)
    cases Bx.v (Ray.pt ⟨⟨⟨a, b⟩, ⟨c, d⟩, ⟨e, f⟩⟩, ⟨⟨a', b'⟩, ⟨c', d'⟩, ⟨e', f'⟩⟩⟩) <;> rfl
  · cases h
/-! left. -/
noncomputable def orcLf (o : Fo) : List (FuncId × (List V → Tree)) := [(50, s662 fun d n r => resF (o.refr d n r)), (51, s2222 fun p q r s => resT (o.light p q r s)), (68, sh2 o.mul), (69, s1s o.sgn)]
noncomputable def foG : Fo := ⟨hitE, validB, fun r => r.pt.v && r.dir.v, Iv.v, moveE, hitsE, reflE, refrE, passE, mulE, Iv.sgn⟩
noncomputable def fnsLf : List (FuncId × Func × List (Nat × LV)) := [(31, Tryz.f31, []), (20, Tryz.f20, [])]
def leftF (o : Fo) (v : Nat → Nat → Int) (x : Iv) (r : Ray) (i : Nat) (g : Iv) : Lv :=
  bif okE (refL o v x r i) then bif okE (litL o v x r i) then bif okE (gainL o v x r i g) then
    bif decide (o.sgn (getE rf0 (refL o v x r i)).out.z = 1) then ⟨1, (getE rf0 (refL o v x r i)).out, getE iv0 (gainL o v x r i g), true⟩
    else bif decide (o.sgn (getE rf0 (refL o v x r i)).out.z = -1) then ⟨2, (getE rf0 (refL o v x r i)).out, getE iv0 (gainL o v x r i g), true⟩
    else lv0 else lv0 else lv0 else lv0
theorem gq31 (o : Fo) (ad ad' : Option Addr) (n m cap cap' : Nat) (v u : Nat → Nat → Int) (x g : Iv) (d : Bx) (i : Int) : ans Tryz.prog (orcLf o) fnsLf 9 3 31 [.u (.a (bodyA ad ad' n m cap cap' v u x)), .u (ui i), bxV d, ivV g] =
    bif decide (0 ≤ i) && decide (i < n) then bif okE (refL o v x ⟨bx0, d⟩ i.toNat) then bif okE (litL o v x ⟨bx0, d⟩ i.toNat) then bif okE (gainL o v x ⟨bx0, d⟩ i.toNat g) then
    bif decide (o.sgn (getE rf0 (refL o v x ⟨bx0, d⟩ i.toNat)).out.z = 1) then lvT ⟨1, (getE rf0 (refL o v x ⟨bx0, d⟩ i.toNat)).out, getE iv0 (gainL o v x ⟨bx0, d⟩ i.toNat g), true⟩
    else bif decide (o.sgn (getE rf0 (refL o v x ⟨bx0, d⟩ i.toNat)).out.z = -1) then lvT ⟨2, (getE rf0 (refL o v x ⟨bx0, d⟩ i.toNat)).out, getE iv0 (gainL o v x ⟨bx0, d⟩ i.toNat g), true⟩
    else lvT lv0 else lvT lv0 else lvT lv0 else lvT lv0 else none := by kernel_rfl
/-- left: the body, the face, the direction, the light. -/
def F31 (lv : LvF) : List A → Tree
  | [.a [.s k n v, .s k' m u, .i a, .i b], .o (.i i), .a [.i c1, .i d1, .i c2, .i d2, .i c3, .i d3], .a [.i g, .i h]] =>
    .test ((Nat.beq k 6 && Nat.beq k' 2) && (decide (0 ≤ i) && decide (i < n))) (.leaf (lvV (lv v ⟨a, b⟩ ⟨bx0, ⟨⟨c1, d1⟩, ⟨c2, d2⟩, ⟨c3, d3⟩⟩⟩ i.toNat ⟨g, h⟩))) .no
  | _ => .no
theorem F31_val {lv : LvF} {l : List A} {x : V × Heap} (h : (F31 lv l).val = some x) : ∃ n m v u y d i g, l = [.a (bodyD n m v u y), .o (.i i), .a (bxD d), .a (ivD g)] ∧ 0 ≤ i ∧ i < (n : Int) ∧ x = (lvV (lv v y ⟨bx0, d⟩ i.toNat g), []) := by
  unfold F31 at h
  split at h
  · rename_i k n v k' m u a b i c1 d1 c2 d2 c3 d3 g hh
    simp only [Tree.val] at h
    cases hc : ((Nat.beq k 6 && Nat.beq k' 2) && (decide (0 ≤ i) && decide (i < n)))
    · rw [hc] at h; cases h
    rw [hc, cond_true] at h
    simp only [Bool.and_eq_true, decide_eq_true_eq] at hc
    have hk := Nat.eq_of_beq_eq_true hc.1.1
    have hf := Nat.eq_of_beq_eq_true hc.1.2
    subst hk
    subst hf
    cases h
    exact ⟨n, m, v, u, ⟨a, b⟩, ⟨⟨c1, d1⟩, ⟨c2, d2⟩, ⟨c3, d3⟩⟩, i, ⟨g, hh⟩, rfl, hc.2.1, hc.2.2, rfl⟩
  · cases h
theorem realF_bx {r : Bx} {y : V} (h : RealA (.a (bxD r)) y) : y = bxV r := by
  obtain ⟨cs, e0, q0⟩ := realA_a h
  subst e0
  simp only [bxD] at q0
  obtain ⟨r0, e1, q1⟩ := realCs_i q0
  obtain ⟨r1, e2, q2⟩ := realCs_i q1
  obtain ⟨r2, e3, q3⟩ := realCs_i q2
  obtain ⟨r3, e4, q4⟩ := realCs_i q3
  obtain ⟨r4, e5, q5⟩ := realCs_i q4
  obtain ⟨r5, e6, q6⟩ := realCs_i q5
  have e := realCs_nil q6
  subst e e6 e5 e4 e3 e2 e1
  rfl
theorem H31 : Told Tryz.prog 31 (fun args => argsT args (F31 (leftF foG))) := by
  refine told_args (fuel := 9) (d := 3) (orc := orcLf foG) (fns := fnsLf) mixed (orc_cons H50 (orc_cons H51 (orc_cons E57 (orc_cons H69 orc_nil)))) (fns_cons gk31 (fns_cons gk20 fns_nil)) gk31.enter (args_all (Pd := fun x => x.1 ≠ .any ∧ ∀ W, x.1.sc W (fun b => b < x.2.length) ∧ ScH W (fun b => b < x.2.length) x.2) fun l x h => ?_) fun l x h args ha => ?_
  · obtain ⟨n, m, v, u, y, r, i, g, _, _, _, rfl⟩ := F31_val h
    exact ⟨fun e => (by cases e), fun W => ⟨lv_sc _ _ _, fun b B hB => by rw [blk_nil] at hB; cases hB⟩⟩
  · obtain ⟨n, m, v, u, y, d, i, g, rfl, h1, h2, rfl⟩ := F31_val h
    obtain ⟨y1, y2, y3, y4, rfl, r1, r2, r3, r4⟩ := realF4 ha
    obtain ⟨ad, ad', cap, cap', e1⟩ := realF_body r1
    rw [e1, realA_i r2, realF_bx r3, realF_iv r4, gq31, decide_eq_true h1, decide_eq_true h2]
    unfold leftF
    simp only [Bool.and_self, cond_true]
    cases okE (refL foG v y ⟨bx0, d⟩ i.toNat)
    · rfl
    cases okE (litL foG v y ⟨bx0, d⟩ i.toNat)
    · rfl
    cases okE (gainL foG v y ⟨bx0, d⟩ i.toNat g)
    · rfl
    cases decide (foG.sgn (getE rf0 (refL foG v y ⟨bx0, d⟩ i.toNat)).out.z = 1)
    · cases decide (foG.sgn (getE rf0 (refL foG v y ⟨bx0, d⟩ i.toNat)).out.z = -1) <;> rfl
    · rfl
/-! The loops to come. -/
noncomputable def allV16 : Code := Tryz.f16.body.getD .skip
noncomputable def tailV16 : Code := sndC (sndC (sndC allV16))
noncomputable def bodyV16 : Code := loopOf Tryz.f16 0
def lvV16 : List (Nat × LV) := [(4, ⟨[1, 2, 3], [2], [], none⟩)]
def orcV16 (iv : Iv → Bool) (bx : Bx → Bool) : List (FuncId × (List V → Tree)) := [(28, shT [some 2] (F1vg iv)), (43, s6 fun a => truT (bx a))]
noncomputable def fnsV16 : List (FuncId × Func × List (Nat × LV)) := [(16, Tryz.f16, lvV16), (42, Tryz.f42, [])]
noncomputable abbrev envV16 {α : Type} (iv : Iv → Bool) (bx : Bx → Bool) (F : Nat) : CallT α := env Tryz.prog (orcV16 iv bx) fnsV16 F 2
noncomputable abbrev loopV16 {α : Type} (iv : Iv → Bool) (bx : Bx → Bool) (F fuel : Nat) (T : List V) (H : Heap) (L : List Foot) (K : KT α) : Option α := loopA 2 [1, 2, 3] [2] (codeA Tryz.prog (envV16 iv bx F) F lvV16 bodyV16) fuel T H L K
noncomputable def KV16 (iv : Iv → Bool) (bx : Bx → Bool) (F : Nat) : KT (V × Heap) := kblk (kseq (envV16 iv bx F) F lvV16 tailV16 (kfinA Tryz.f16))
def TV16 (i : Int) : List V := TT 52 [(1, .u (.c (.ptr 0 0))), (2, .u (.c (.bool false))), (3, .u (ui i))]
def TV16' (b : Bool) : List V := TT 52 [(2, .u (.c (.bool b)))]
/-! reaches. -/
noncomputable def allRe : Code := Tryz.f35.body.getD .skip
noncomputable def tailRe : Code := sndC (sndC (sndC allRe))
noncomputable def bodyRe : Code := loopOf Tryz.f35 0
def lvRe : List (Nat × LV) := [(3, ⟨[2, 3, 4, 5, 6, 7], [4, 5, 6], [(6, 95, 4, [ci 0, ci 0, ci 0, .bool false])], none⟩)]
def orcRe (dot : Bx → Bx → Er Iv) (sub : Iv → Iv → Er Iv) (q : Int → Int → Int) : List (FuncId × (List V → Tree)) := [(65, s66 fun a b => resT (dot a b)), (75, sh2 sub), (76, quoT q)]
noncomputable abbrev envRe {α : Type} (dot : Bx → Bx → Er Iv) (sub : Iv → Iv → Er Iv) (q : Int → Int → Int) (F : Nat) : CallT α := env Tryz.prog (orcRe dot sub q) [(35, Tryz.f35, lvRe)] F 2
noncomputable abbrev loopRe {α : Type} (dot : Bx → Bx → Er Iv) (sub : Iv → Iv → Er Iv) (q : Int → Int → Int) (F fuel : Nat) (T : List V) (H : Heap) (L : List Foot) (K : KT α) : Option α := loopA 3 [2, 3, 4, 5, 6, 7] [4, 5, 6] (codeA Tryz.prog (envRe dot sub q F) F lvRe bodyRe) fuel T H L K
noncomputable def KRe (dot : Bx → Bx → Er Iv) (sub : Iv → Iv → Er Iv) (q : Int → Int → Int) (F : Nat) : KT (V × Heap) := kblk (kseq (envRe dot sub q F) F lvRe tailRe (kfinA Tryz.f35))
def rcC (t : Tg) : List C := [ci t.face, ci t.least, ci t.most, .bool t.sure]
def HRe (b : List C) (r : Ray) (c : Nat) (f : Nat → Tg) : Heap := [some (.cells b), some (.cells (rayC r)), some (.row 95 4 c (fun j => rcC (f j)) true)]
def TRe (c : Nat) (i : Int) : List V := TT 93 [(2, .u (.c (.ptr 0 0))), (3, .u (.c (.ptr 1 0))), (4, .u (.c .nils)), (5, .u (ui 0)), (6, .u (.c (.row 2 4 0 c true))), (7, .u (ui i))]
end Go.Proofs.YtbgdfikfldkjbaaGreat.AI
end
