/- Layer 31's reference: left, floor, index, told. -/
import Derived.Test.YtbgdfikfldkjbaaGreatGD
namespace Go.Proofs.YtbgdfikfldkjbaaGreat.AI
set_option linter.unnecessarySimpa false
open Go
set_option linter.unusedVariables false
set_option linter.unusedSimpArgs false
theorem gk31 : FnOk Tryz.prog 31 Tryz.f31 := fk Tryz.func31 (by kernel_rfl) rfl
theorem gk76 : FnOk Tryz.prog 76 Tryz.f76 := fk Tryz.func76 (by kernel_rfl) rfl
theorem gk42 : FnOk Tryz.prog 42 Tryz.f42 := fk Tryz.func42 (by kernel_rfl) rfl
theorem gk27 : FnOk Tryz.prog 27 Tryz.f27 := fk Tryz.func27 (by kernel_rfl) rfl
theorem gq76 (a b : Int) : ans Tryz.prog [] [(76, Tryz.f76, [])] 9 3 76 [.u (ui a), .u (ui b)] = fl82 a b := by kernel_rfl
theorem H76 : Told Tryz.prog 76 (quoT dnq) := by
  refine told_flat (fuel := 9) (d := 3) (fns := [(76, Tryz.f76, [])]) mixed orc_nil (fns_cons gk76 fns_nil) gk76.enter quo_flat (fun args x h => ?_) fun args x h => ?_
  · obtain ⟨a, b, rfl, _⟩ := quo_val h; rfl
  · obtain ⟨a, b, rfl, hb, h1, h2, rfl⟩ := quo_val h
    rw [gq76]
    exact fl82_eq hb h1 h2
theorem gq27 (r : Ray) : ans Tryz.prog [(43, s6v)] [(27, Tryz.f27, [])] 9 3 27 [rayV r] = bif r.pt.v then tru r.dir.v else tru false := by kernel_rfl
theorem H27 : Told Tryz.prog 27 (shT [some 12] (P12 fun r => truT (r.pt.v && r.dir.v))) := told_sh (fuel := 9) (d := 3) (fns := [(27, Tryz.f27, [])]) mixed (orc_cons E20 orc_nil) (fns_cons gk27 fns_nil) gk27.enter (fun l => by unfold P12; split <;> rfl) fun l x h => by
  unfold P12 at h
  split at h
  · rename_i a b c d e f a' b' c' d' e' f'
    refine (gq27 ⟨⟨⟨a, b⟩, ⟨c, d⟩, ⟨e, f⟩⟩, ⟨⟨a', b'⟩, ⟨c', d'⟩, ⟨e', f'⟩⟩⟩).trans ?_
    rw [← h]
    show _ = tru (_ && _)
    cases Bx.v (Ray.pt ⟨⟨⟨a, b⟩, ⟨c, d⟩, ⟨e, f⟩⟩, ⟨⟨a', b'⟩, ⟨c', d'⟩, ⟨e', f'⟩⟩⟩) <;> rfl
  · cases h
/-! left. -/
noncomputable def orcLf (o : Fo) : List (FuncId × (List V → Tree)) := [(50, s662 fun d n r => resF (o.refr d n r)), (51, s2222 fun p q r s => resT (o.light p q r s)), (68, sh2 o.mul), (69, s1s o.sgn)]
noncomputable def foG : Fo := ⟨hitE, validB, fun r => r.pt.v && r.dir.v, Iv.v, moveE, hitsE, reflE, refrE, passE, mulE, Iv.sgn⟩
noncomputable def fnsLf : List (FuncId × Func × List (Nat × LV)) := [(31, Tryz.f31, []), (20, Tryz.f20, [])]
def leftF (o : Fo) (v : Nat → Nat → Int) (x : Iv) (r : Ray) (i : Nat) (g : Iv) : Lv :=
  bif okE (refL o v x r i) then bif okE (litL o v x r i) then bif okE (gainL o v x r i g) then
    bif decide (o.sgn (getE rf0 (refL o v x r i)).out.z = 1) then ⟨1, (getE rf0 (refL o v x r i)).out, getE iv0 (gainL o v x r i g), true⟩
    else bif decide (o.sgn (getE rf0 (refL o v x r i)).out.z = -1) then ⟨2, (getE rf0 (refL o v x r i)).out, getE iv0 (gainL o v x r i g), true⟩
    else lv0 else lv0 else lv0 else lv0
theorem gq31 (o : Fo) (ad ad' : Option Addr) (n m cap cap' : Nat) (v u : Nat → Nat → Int) (x g : Iv) (d : Bx) (i : Int) : ans Tryz.prog (orcLf o) fnsLf 9 3 31 [.u (.a (bodyA ad ad' n m cap cap' v u x)), .u (ui i), bxV d, ivV g] =
    bif decide (0 ≤ i) && decide (i < n) then bif okE (refL o v x ⟨bx0, d⟩ i.toNat) then bif okE (litL o v x ⟨bx0, d⟩ i.toNat) then bif okE (gainL o v x ⟨bx0, d⟩ i.toNat g) then
    bif decide (o.sgn (getE rf0 (refL o v x ⟨bx0, d⟩ i.toNat)).out.z = 1) then lvT ⟨1, (getE rf0 (refL o v x ⟨bx0, d⟩ i.toNat)).out, getE iv0 (gainL o v x ⟨bx0, d⟩ i.toNat g), true⟩
    else bif decide (o.sgn (getE rf0 (refL o v x ⟨bx0, d⟩ i.toNat)).out.z = -1) then lvT ⟨2, (getE rf0 (refL o v x ⟨bx0, d⟩ i.toNat)).out, getE iv0 (gainL o v x ⟨bx0, d⟩ i.toNat g), true⟩
    else lvT lv0 else lvT lv0 else lvT lv0 else lvT lv0 else none := by kernel_rfl
/-- left: the body, the face, the direction, the light. -/
def F31 (lv : LvF) : List A → Tree
  | [.a [.s k n v, .s k' m u, .i a, .i b], .o (.i i), .a [.i c1, .i d1, .i c2, .i d2, .i c3, .i d3], .a [.i g, .i h]] =>
    .test ((Nat.beq k 6 && Nat.beq k' 2) && (decide (0 ≤ i) && decide (i < n))) (.leaf (lvV (lv v ⟨a, b⟩ ⟨bx0, ⟨⟨c1, d1⟩, ⟨c2, d2⟩, ⟨c3, d3⟩⟩⟩ i.toNat ⟨g, h⟩))) .no
  | _ => .no
theorem F31_val {lv : LvF} {l : List A} {x : V × Heap} (h : (F31 lv l).val = some x) : ∃ n m v u y d i g, l = [.a (bodyD n m v u y), .o (.i i), .a (bxD d), .a (ivD g)] ∧ 0 ≤ i ∧ i < (n : Int) ∧ x = (lvV (lv v y ⟨bx0, d⟩ i.toNat g), []) := by
  unfold F31 at h
  split at h
  · rename_i k n v k' m u a b i c1 d1 c2 d2 c3 d3 g hh
    simp only [Tree.val] at h
    cases hc : ((Nat.beq k 6 && Nat.beq k' 2) && (decide (0 ≤ i) && decide (i < n)))
    · rw [hc] at h; cases h
    rw [hc, cond_true] at h
    simp only [Bool.and_eq_true, decide_eq_true_eq] at hc
    have hk := Nat.eq_of_beq_eq_true hc.1.1
    have hf := Nat.eq_of_beq_eq_true hc.1.2
    subst hk
    subst hf
    cases h
    exact ⟨n, m, v, u, ⟨a, b⟩, ⟨⟨c1, d1⟩, ⟨c2, d2⟩, ⟨c3, d3⟩⟩, i, ⟨g, hh⟩, rfl, hc.2.1, hc.2.2, rfl⟩
  · cases h
theorem realF_bx {r : Bx} {y : V} (h : RealA (.a (bxD r)) y) : y = bxV r := by
  obtain ⟨cs, e0, q0⟩ := realA_a h
  subst e0
  simp only [bxD] at q0
  obtain ⟨r0, e1, q1⟩ := realCs_i q0
  obtain ⟨r1, e2, q2⟩ := realCs_i q1
  obtain ⟨r2, e3, q3⟩ := realCs_i q2
  obtain ⟨r3, e4, q4⟩ := realCs_i q3
  obtain ⟨r4, e5, q5⟩ := realCs_i q4
  obtain ⟨r5, e6, q6⟩ := realCs_i q5
  have e := realCs_nil q6
  subst e e6 e5 e4 e3 e2 e1
  rfl
theorem H31 : Told Tryz.prog 31 (fun args => argsT args (F31 (leftF foG))) := by
  refine told_args (fuel := 9) (d := 3) (orc := orcLf foG) (fns := fnsLf) mixed (orc_cons H50 (orc_cons H51 (orc_cons E57 (orc_cons H69 orc_nil)))) (fns_cons gk31 (fns_cons gk20 fns_nil)) gk31.enter (args_all (Pd := fun x => x.1 ≠ .any ∧ ∀ W, x.1.sc W (fun b => b < x.2.length) ∧ ScH W (fun b => b < x.2.length) x.2) fun l x h => ?_) fun l x h args ha => ?_
  · obtain ⟨n, m, v, u, y, r, i, g, _, _, _, rfl⟩ := F31_val h
    exact ⟨fun e => (by cases e), fun W => ⟨lv_sc _ _ _, fun b B hB => by rw [blk_nil] at hB; cases hB⟩⟩
  · obtain ⟨n, m, v, u, y, d, i, g, rfl, h1, h2, rfl⟩ := F31_val h
    obtain ⟨y1, y2, y3, y4, rfl, r1, r2, r3, r4⟩ := realF4 ha
    obtain ⟨ad, ad', cap, cap', e1⟩ := realF_body r1
    rw [e1, realA_i r2, realF_bx r3, realF_iv r4, gq31, decide_eq_true h1, decide_eq_true h2]
    unfold leftF
    simp only [Bool.and_self, cond_true]
    cases okE (refL foG v y ⟨bx0, d⟩ i.toNat)
    · rfl
    cases okE (litL foG v y ⟨bx0, d⟩ i.toNat)
    · rfl
    cases okE (gainL foG v y ⟨bx0, d⟩ i.toNat g)
    · rfl
    cases decide (foG.sgn (getE rf0 (refL foG v y ⟨bx0, d⟩ i.toNat)).out.z = 1)
    · cases decide (foG.sgn (getE rf0 (refL foG v y ⟨bx0, d⟩ i.toNat)).out.z = -1) <;> rfl
    · rfl
/-! The loops to come. -/
noncomputable def allV16 : Code := Tryz.f16.body.getD .skip
noncomputable def tailV16 : Code := sndC (sndC (sndC allV16))
noncomputable def bodyV16 : Code := loopOf Tryz.f16 0
def lvV16 : List (Nat × LV) := [(4, ⟨[1, 2, 3], [2], [], none⟩)]
def orcV16 (iv : Iv → Bool) (bx : Bx → Bool) : List (FuncId × (List V → Tree)) := [(28, shT [some 2] (F1vg iv)), (43, s6 fun a => truT (bx a))]
noncomputable def fnsV16 : List (FuncId × Func × List (Nat × LV)) := [(16, Tryz.f16, lvV16), (42, Tryz.f42, [])]
noncomputable abbrev envV16 {α : Type} (iv : Iv → Bool) (bx : Bx → Bool) (F : Nat) : CallT α := env Tryz.prog (orcV16 iv bx) fnsV16 F 2
noncomputable abbrev loopV16 {α : Type} (iv : Iv → Bool) (bx : Bx → Bool) (F fuel : Nat) (T : List V) (H : Heap) (L : List Foot) (K : KT α) : Option α := loopA 2 [1, 2, 3] [2] (codeA Tryz.prog (envV16 iv bx F) F lvV16 bodyV16) fuel T H L K
noncomputable def KV16 (iv : Iv → Bool) (bx : Bx → Bool) (F : Nat) : KT (V × Heap) := kblk (kseq (envV16 iv bx F) F lvV16 tailV16 (kfinA Tryz.f16))
def TV16 (i : Int) : List V := TT 52 [(1, .u (.c (.ptr 0 0))), (2, .u (.c (.bool false))), (3, .u (ui i))]
def TV16' (b : Bool) : List V := TT 52 [(2, .u (.c (.bool b)))]
/-! reaches. -/
noncomputable def allRe : Code := Tryz.f35.body.getD .skip
noncomputable def tailRe : Code := sndC (sndC (sndC allRe))
noncomputable def bodyRe : Code := loopOf Tryz.f35 0
def lvRe : List (Nat × LV) := [(3, ⟨[2, 3, 4, 5, 6, 7], [4, 5, 6], [(6, 95, 4, [ci 0, ci 0, ci 0, .bool false])], none⟩)]
def orcRe (dot : Bx → Bx → Er Iv) (sub : Iv → Iv → Er Iv) (q : Int → Int → Int) : List (FuncId × (List V → Tree)) := [(65, s66 fun a b => resT (dot a b)), (75, sh2 sub), (76, quoT q)]
noncomputable abbrev envRe {α : Type} (dot : Bx → Bx → Er Iv) (sub : Iv → Iv → Er Iv) (q : Int → Int → Int) (F : Nat) : CallT α := env Tryz.prog (orcRe dot sub q) [(35, Tryz.f35, lvRe)] F 2
noncomputable abbrev loopRe {α : Type} (dot : Bx → Bx → Er Iv) (sub : Iv → Iv → Er Iv) (q : Int → Int → Int) (F fuel : Nat) (T : List V) (H : Heap) (L : List Foot) (K : KT α) : Option α := loopA 3 [2, 3, 4, 5, 6, 7] [4, 5, 6] (codeA Tryz.prog (envRe dot sub q F) F lvRe bodyRe) fuel T H L K
noncomputable def KRe (dot : Bx → Bx → Er Iv) (sub : Iv → Iv → Er Iv) (q : Int → Int → Int) (F : Nat) : KT (V × Heap) := kblk (kseq (envRe dot sub q F) F lvRe tailRe (kfinA Tryz.f35))
def rcC (t : Tg) : List C := [ci t.face, ci t.least, ci t.most, .bool t.sure]
def HRe (b : List C) (r : Ray) (c : Nat) (f : Nat → Tg) : Heap := [some (.cells b), some (.cells (rayC r)), some (.row 95 4 c (fun j => rcC (f j)) true)]
def TRe (c : Nat) (i : Int) : List V := TT 93 [(2, .u (.c (.ptr 0 0))), (3, .u (.c (.ptr 1 0))), (4, .u (.c .nils)), (5, .u (ui 0)), (6, .u (.c (.row 2 4 0 c true))), (7, .u (ui i))]
end Go.Proofs.YtbgdfikfldkjbaaGreat.AI
