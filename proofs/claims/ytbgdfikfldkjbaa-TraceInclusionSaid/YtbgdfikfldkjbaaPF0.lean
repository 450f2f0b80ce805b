/- trace.leave, told; what Follow calls. -/
import Derived.Test.YtbgdfikfldkjbaaNFX
namespace Go.Proofs.Ytbgdfikfldkjbaa.AI
set_option linter.unnecessarySimpa false
open Go
set_option linter.unusedVariables false
set_option linter.unusedSimpArgs false
/-- What Follow calls: the hit, the next point, what light does, reflected, refracted, the light that passes, products, signs. -/
structure Fo where
  hit : HF
  val : Nat → Nat → (Nat → Nat → Int) → (Nat → Nat → Int) → Iv → Bool
  ray : Ray → Bool
  iv : Iv → Bool
  mv : Ray → Iv → Er Bx
  kind : Bx → Bx → Iv → Er Int
  refl : Bx → Bx → Er Bx
  refr : Bx → Bx → Iv → Er Rf
  light : Iv → Iv → Iv → Iv → Er Iv
  mul : Iv → Iv → Er Iv
  sgn : Iv → Int
def F26g (val : Nat → Nat → (Nat → Nat → Int) → (Nat → Nat → Int) → Iv → Bool) : List A → Tree
  | [.a [.s k n v, .s k' m u, .i a, .i b]] => .test (Nat.beq k 6 && Nat.beq k' 2) (truT (val n m v u ⟨a, b⟩)) .no
  | _ => .no
def F1vg (iv : Iv → Bool) : List Int → Tree
  | [a, b] => truT (iv ⟨a, b⟩)
  | _ => .no
noncomputable def orcL (o : Fo) : List (FuncId × (List V → Tree)) := [(66, s662 fun d n r => resF (o.refr d n r)), (67, s2222 fun p q r s => resT (o.light p q r s)), (69, sh2 o.mul), (70, s1s o.sgn)]
noncomputable def foE : Fo := ⟨hitE, validB, fun r => r.pt.v && r.dir.v, Iv.v, moveE, hitsE, reflE, refrE, lightE, mulE, Iv.sgn⟩
noncomputable def fns44 : List (FuncId × Func × List (Nat × LV)) := [(44, Try.f44, []), (68, Try.f68, [])]
def refL (o : Fo) (v : Nat → Nat → Int) (x : Iv) (r : Ray) (i : Nat) : Er Rf := o.refr r.dir (bxOf v i) x
def litL (o : Fo) (v : Nat → Nat → Int) (x : Iv) (r : Ray) (i : Nat) : Er Iv := o.light (getE rf0 (refL o v x r i)).before (getE rf0 (refL o v x r i)).after x one1
def gainL (o : Fo) (v : Nat → Nat → Int) (x : Iv) (r : Ray) (i : Nat) (g : Iv) : Er Iv := o.mul g (getE iv0 (litL o v x r i))
/-- The end of a path, and whether it is known. -/
structure Lv where
  kd : Int
  o : Bx
  g : Iv
  ok : Bool
def lv0 : Lv := ⟨0, bx0, iv0, false⟩
def leaveF (o : Fo) (v : Nat → Nat → Int) (x : Iv) (r : Ray) (i : Nat) (g : Iv) : Lv :=
  bif okE (refL o v x r i) then bif okE (litL o v x r i) then bif okE (gainL o v x r i g) then
    bif decide (o.sgn (getE rf0 (refL o v x r i)).out.z = 1) then ⟨1, (getE rf0 (refL o v x r i)).out, getE iv0 (gainL o v x r i g), true⟩
    else bif decide (o.sgn (getE rf0 (refL o v x r i)).out.z = -1) then ⟨2, (getE rf0 (refL o v x r i)).out, getE iv0 (gainL o v x r i g), true⟩
    else ⟨0, (getE rf0 (refL o v x r i)).out, getE iv0 (gainL o v x r i g), false⟩
  else lv0 else lv0 else lv0
def lvV (l : Lv) : V := .t [.a ([ci l.kd, .nils] ++ bxC l.o ++ [ci l.g.lo, ci l.g.hi]), .c (.bool l.ok)]
/-- What is said of all answers. -/
theorem args_all {F : List A → Tree} {Pd : V × Heap → Prop} (h : ∀ l x, (F l).val = some x → Pd x) : ∀ args v H, (argsT args F).val = some (v, H) → Pd (v, H) := by
  have cell : ∀ (c : C) (G : D → Tree) (x : V × Heap), (cellT c G).val = some x → ∃ d, (G d).val = some x := by
    intro c G x h
    unfold cellT at h
    split at h
    · exact ⟨_, h⟩
    · rename_i ad k n cap g
      simp only [Tree.val] at h
      cases hc : allN (fun j => isInts k (g j)) n
      · rw [hc] at h; cases h
      · rw [hc] at h; exact ⟨_, h⟩
    · exact ⟨_, h⟩
    · cases h
  have cells : ∀ (cs : List C) (G : List D → Tree) (x : V × Heap), (cellsT cs G).val = some x → ∃ ds, (G ds).val = some x := by
    intro cs
    induction cs with
    | nil => exact fun G x h => ⟨_, h⟩
    | cons c r ih =>
      intro G x h
      obtain ⟨d, h⟩ := cell c _ x h
      obtain ⟨ds, h⟩ := ih _ x h
      exact ⟨_, h⟩
  have arg : ∀ (v : V) (G : A → Tree) (x : V × Heap), (argT v G).val = some x → ∃ a, (G a).val = some x := by
    intro v G x h
    unfold argT at h
    split at h
    · obtain ⟨d, h⟩ := cell _ _ x h; exact ⟨_, h⟩
    · obtain ⟨d, h⟩ := cells _ _ x h; exact ⟨_, h⟩
    · cases h
  have all : ∀ (vs : List V) (G : List A → Tree) (x : V × Heap), (argsT vs G).val = some x → ∃ l, (G l).val = some x := by
    intro vs
    induction vs with
    | nil => exact fun G x h => ⟨_, h⟩
    | cons v r ih =>
      intro G x h
      obtain ⟨a, h⟩ := arg v _ x h
      obtain ⟨l, h⟩ := ih _ x h
      exact ⟨_, h⟩
  intro args v H hv
  obtain ⟨l, hl⟩ := all args F _ hv
  exact h l _ hl
theorem scC_nils (W : World) (S : Nat → Prop) : (C.nils).sc W S := AOk.nils
theorem scC_int (k : IntKind) (n : Int) (W : World) (S : Nat → Prop) : (C.int k n).sc W S := AOk.int k n
theorem lv_sc (l : Lv) (W : World) (S : Nat → Prop) : (lvV l).sc W S := by
  intro u hu
  simp only [List.mem_cons, List.not_mem_nil, or_false] at hu
  rcases hu with rfl | rfl
  · intro c hc
    simp only [bxC, List.mem_cons, List.mem_append, List.not_mem_nil, or_false, false_or] at hc
    rcases hc with ((rfl | rfl) | (rfl | rfl | rfl | rfl | rfl | rfl)) | (rfl | rfl)
    all_goals first | exact AOk.int _ _ | exact AOk.nils
  · exact AOk.bool _
def lvT (l : Lv) : R := some (lvV l, [])
theorem a44 (o : Fo) (ad ad' : Option Addr) (n m cap cap' : Nat) (v u : Nat → Nat → Int) (x g : Iv) (r : Ray) (i : Int) : ans Try.prog (orcL o) fns44 9 3 44 [.u (.a (bodyA ad ad' n m cap cap' v u x)), rayV r, .u (ui i), ivV g] =
    bif decide (0 ≤ i) && decide (i < n) then bif okE (refL o v x r i.toNat) then bif okE (litL o v x r i.toNat) then bif okE (gainL o v x r i.toNat g) then
    bif decide (o.sgn (getE rf0 (refL o v x r i.toNat)).out.z = 1) then lvT ⟨1, (getE rf0 (refL o v x r i.toNat)).out, getE iv0 (gainL o v x r i.toNat g), true⟩
    else bif decide (o.sgn (getE rf0 (refL o v x r i.toNat)).out.z = -1) then lvT ⟨2, (getE rf0 (refL o v x r i.toNat)).out, getE iv0 (gainL o v x r i.toNat g), true⟩
    else lvT ⟨0, (getE rf0 (refL o v x r i.toNat)).out, getE iv0 (gainL o v x r i.toNat g), false⟩ else lvT lv0 else lvT lv0 else lvT lv0 else none := by kernel_rfl
/-- leave: the body, the ray, the face, the light. -/
def F44 (lv : (Nat → Nat → Int) → Iv → Ray → Nat → Iv → Lv) : List A → Tree
  | [.a [.s k n v, .s k' m u, .i a, .i b], .a [.i a1, .i b1, .i a2, .i b2, .i a3, .i b3, .i c1, .i d1, .i c2, .i d2, .i c3, .i d3], .o (.i i), .a [.i g, .i h]] =>
    .test ((Nat.beq k 6 && Nat.beq k' 2) && (decide (0 ≤ i) && decide (i < n))) (.leaf (lvV (lv v ⟨a, b⟩ ⟨⟨⟨a1, b1⟩, ⟨a2, b2⟩, ⟨a3, b3⟩⟩, ⟨⟨c1, d1⟩, ⟨c2, d2⟩, ⟨c3, d3⟩⟩⟩ i.toNat ⟨g, h⟩))) .no
  | _ => .no
def bodyD (n m : Nat) (v u : Nat → Nat → Int) (x : Iv) : List D := [.s 6 n v, .s 2 m u, .i x.lo, .i x.hi]
def bxD (b : Bx) : List D := [.i b.x.lo, .i b.x.hi, .i b.y.lo, .i b.y.hi, .i b.z.lo, .i b.z.hi]
def rayD (r : Ray) : List D := bxD r.pt ++ bxD r.dir
def ivD (x : Iv) : List D := [.i x.lo, .i x.hi]
theorem F44_val {lv : (Nat → Nat → Int) → Iv → Ray → Nat → Iv → Lv} {l : List A} {x : V × Heap} (h : (F44 lv l).val = some x) : ∃ n m v u y r i g, l = [.a (bodyD n m v u y), .a (rayD r), .o (.i i), .a (ivD g)] ∧ 0 ≤ i ∧ i < (n : Int) ∧ x = (lvV (lv v y r i.toNat g), []) := by
  unfold F44 at h
  split at h
  · rename_i k n v k' m u a b a1 b1 a2 b2 a3 b3 c1 d1 c2 d2 c3 d3 i g hh
    simp only [Tree.val] at h
    cases hc : ((Nat.beq k 6 && Nat.beq k' 2) && (decide (0 ≤ i) && decide (i < n)))
    · rw [hc] at h; cases h
    rw [hc, cond_true] at h
    simp only [Bool.and_eq_true, decide_eq_true_eq] at hc
    have hk := Nat.eq_of_beq_eq_true hc.1.1
    have hf := Nat.eq_of_beq_eq_true hc.1.2
    subst hk
    subst hf
    cases h
    exact ⟨n, m, v, u, ⟨a, b⟩, ⟨⟨⟨a1, b1⟩, ⟨a2, b2⟩, ⟨a3, b3⟩⟩, ⟨⟨c1, d1⟩, ⟨c2, d2⟩, ⟨c3, d3⟩⟩⟩, i, ⟨g, hh⟩, rfl, hc.2.1, hc.2.2, rfl⟩
  · cases h
theorem realCs_nil {cs : List C} (h : RealCs [] cs) : cs = [] := by cases h; rfl
theorem realCs_i {n : Int} {ds : List D} {cs : List C} (h : RealCs (.i n :: ds) cs) : ∃ r, cs = .int .i64 n :: r ∧ RealCs ds r := by
  cases h with
  | cons h1 h => cases h1; exact ⟨_, rfl, h⟩
theorem realCs_s {k n : Nat} {v : Nat → Nat → Int} {ds : List D} {cs : List C} (h : RealCs (.s k n v :: ds) cs) : ∃ ad cap r, cs = .as ad k n cap (arrC k v) :: r ∧ RealCs ds r := by
  cases h with
  | cons h1 h => cases h1 with
    | s _ _ _ ad cap => exact ⟨_, _, _, rfl, h⟩
theorem realA_a {ds : List D} {y : V} (h : RealA (.a ds) y) : ∃ cs, y = .u (.a cs) ∧ RealCs ds cs := by
  cases h with
  | a h => exact ⟨_, rfl, h⟩
theorem realA_i {n : Int} {y : V} (h : RealA (.o (.i n)) y) : y = .u (ui n) := by
  cases h with
  | o h => cases h; rfl
theorem realF_iv {x : Iv} {y : V} (h : RealA (.a (ivD x)) y) : y = ivV x := by
  obtain ⟨cs, e0, q0⟩ := realA_a h
  subst e0
  unfold ivD at q0
  obtain ⟨r0, e1, q1⟩ := realCs_i q0
  obtain ⟨r1, e2, q2⟩ := realCs_i q1
  have e := realCs_nil q2
  subst e e2 e1
  rfl
theorem realF_ray {r : Ray} {y : V} (h : RealA (.a (rayD r)) y) : y = rayV r := by
  obtain ⟨cs, e0, q0⟩ := realA_a h
  subst e0
  simp only [rayD, bxD, List.cons_append, List.nil_append] at q0
  obtain ⟨r0, e1, q1⟩ := realCs_i q0
  obtain ⟨r1, e2, q2⟩ := realCs_i q1
  obtain ⟨r2, e3, q3⟩ := realCs_i q2
  obtain ⟨r3, e4, q4⟩ := realCs_i q3
  obtain ⟨r4, e5, q5⟩ := realCs_i q4
  obtain ⟨r5, e6, q6⟩ := realCs_i q5
  obtain ⟨r6, e7, q7⟩ := realCs_i q6
  obtain ⟨r7, e8, q8⟩ := realCs_i q7
  obtain ⟨r8, e9, q9⟩ := realCs_i q8
  obtain ⟨r9, e10, q10⟩ := realCs_i q9
  obtain ⟨r10, e11, q11⟩ := realCs_i q10
  obtain ⟨r11, e12, q12⟩ := realCs_i q11
  have e := realCs_nil q12
  subst e e12 e11 e10 e9 e8 e7 e6 e5 e4 e3 e2 e1
  rfl
theorem realF_body {n m : Nat} {v u : Nat → Nat → Int} {x : Iv} {y : V} (h : RealA (.a (bodyD n m v u x)) y) : ∃ ad ad' cap cap', y = .u (.a (bodyA ad ad' n m cap cap' v u x)) := by
  obtain ⟨cs, e0, q0⟩ := realA_a h
  subst e0
  unfold bodyD at q0
  obtain ⟨ad, cap, r0, e1, q1⟩ := realCs_s q0
  obtain ⟨ad', cap', r1, e2, q2⟩ := realCs_s q1
  obtain ⟨r2, e3, q3⟩ := realCs_i q2
  obtain ⟨r3, e4, q4⟩ := realCs_i q3
  have e := realCs_nil q4
  subst e e4 e3 e2 e1
  exact ⟨ad, ad', cap, cap', rfl⟩
theorem realF4 {a b c d : A} {args : List V} (h : RealAs [a, b, c, d] args) : ∃ x y z t, args = [x, y, z, t] ∧ RealA a x ∧ RealA b y ∧ RealA c z ∧ RealA d t := by
  cases h with
  | cons h1 t => cases t with
    | cons h2 t => cases t with
      | cons h3 t => cases t with
        | cons h4 t => cases t; exact ⟨_, _, _, _, rfl, h1, h2, h3, h4⟩
theorem k44' : FnOk Try.prog 44 Try.f44 := fk Try.func44 (by kernel_rfl) rfl
theorem k68' : FnOk Try.prog 68 Try.f68 := fk Try.func68 (by kernel_rfl) rfl
theorem E44 : Told Try.prog 44 (fun args => argsT args (F44 (leaveF foE))) := by
  refine told_args (fuel := 9) (d := 3) (orc := orcL foE) (fns := fns44) mixed (orc_cons E66 (orc_cons E67 (orc_cons E69 (orc_cons E70 orc_nil)))) (fns_cons k44' (fns_cons k68' fns_nil)) k44'.enter (args_all (Pd := fun x => x.1 ≠ .any ∧ ∀ W, x.1.sc W (fun b => b < x.2.length) ∧ ScH W (fun b => b < x.2.length) x.2) fun l x h => ?_) fun l x h args ha => ?_
  · obtain ⟨n, m, v, u, y, r, i, g, _, _, _, rfl⟩ := F44_val h
    exact ⟨fun e => (by cases e), fun W => ⟨lv_sc _ _ _, fun b B hB => by rw [blk_nil] at hB; cases hB⟩⟩
  · obtain ⟨n, m, v, u, y, r, i, g, rfl, h1, h2, rfl⟩ := F44_val h
    obtain ⟨y1, y2, y3, y4, rfl, r1, r2, r3, r4⟩ := realF4 ha
    obtain ⟨ad, ad', cap, cap', e1⟩ := realF_body r1
    rw [e1, realF_ray r2, realA_i r3, realF_iv r4, a44, decide_eq_true h1, decide_eq_true h2]
    unfold leaveF
    simp only [Bool.and_self, cond_true]
    cases okE (refL foE v y r i.toNat)
    · rfl
    cases okE (litL foE v y r i.toNat)
    · rfl
    cases okE (gainL foE v y r i.toNat g)
    · rfl
    cases decide (foE.sgn (getE rf0 (refL foE v y r i.toNat)).out.z = 1)
    · cases decide (foE.sgn (getE rf0 (refL foE v y r i.toNat)).out.z = -1) <;> rfl
    · rfl
end Go.Proofs.Ytbgdfikfldkjbaa.AI
