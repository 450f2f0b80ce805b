/- What is contained stays contained: the path. -/
import Derived.Test.YtbgdfikfldkjbaaTI3
namespace Go.Proofs.Ytbgdfikfldkjbaa.AI
set_option linter.unnecessarySimpa false
open Go
set_option linter.unusedVariables false
set_option linter.unusedSimpArgs false
/-- A path inside another. -/
def PIn (p P : Pth) : Prop := (P.kd = 3 ∧ P.n ≤ p.n ∧ ∀ j, j < P.n → p.v j 0 = P.v j 0) ∨ (p.kd = P.kd ∧ p.n = P.n ∧ (∀ j, j < p.n → p.v j 0 = P.v j 0) ∧ BxIn p.o P.o ∧ IvIn p.g P.g)
theorem pin_unk {c k : Nat} {f : Nat → Nat → Int} {p : Pth} (h : Ext c f k p) : PIn p (unkP c f) := .inl ⟨rfl, h.ge, h.eq⟩
/-- Whoever is hit is written down. -/
theorem go_ext1 (o : Fo) (lv : LvF) (n m : Nat) (v u : Nat → Nat → Int) (x g : Iv) (k : Nat) (r : Ray) (c : Nat) (f : Nat → Nat → Int) (hh : okE (o.hit n m v u x r) = true) : Ext (c + 1) (putN f c (getE (0, iv0) (o.hit n m v u x r)).1) k (foGo o lv n m v u x g k r c f) := by
  have one : ∀ last p kk d l (X : Pth), Ext (c + 1) (putN f c (getE (0, iv0) (o.hit n m v u x r)).1) k X → Ext (c + 1) (putN f c (getE (0, iv0) (o.hit n m v u x r)).1) k (roundP c f last (o.hit n m v u x r) p kk d l X) := fun last p kk d l X hX => by
    have eu : Ext (c + 1) (putN f c (getE (0, iv0) (o.hit n m v u x r)).1) k (unkP (c + 1) (putN f c (getE (0, iv0) (o.hit n m v u x r)).1)) := ext_unk _ _ _
    unfold roundP
    rw [hh, cond_true]
    cases okE p
    · exact eu
    cases okE kk
    · exact eu
    simp only [cond_true]
    cases decide (getE 0 kk = 3)
    · cases decide (getE 0 kk = 2)
      · cases last
        · cases okE d
          · exact eu
          · exact hX
        · exact eu
      · cases l.ok
        · exact eu
        · exact ⟨Nat.le_refl _, by show c + 1 ≤ _; omega, fun j _ => rfl⟩
    · exact eu
  cases k with
  | zero =>
    rw [go_zero]
    unfold rdP
    unfold roundP
    rw [hh, cond_true]
    have eu : Ext (c + 1) (putN f c (getE (0, iv0) (o.hit n m v u x r)).1) 0 (unkP (c + 1) (putN f c (getE (0, iv0) (o.hit n m v u x r)).1)) := ext_unk _ _ _
    cases okE (mvT o r (o.hit n m v u x r))
    · exact eu
    generalize o.kind r.dir (bxOf v (getE (0, iv0) (o.hit n m v u x r)).1.toNat) x = kk
    generalize lv v x ⟨getE bx0 (mvT o r (o.hit n m v u x r)), r.dir⟩ (getE (0, iv0) (o.hit n m v u x r)).1.toNat g = l
    cases okE kk
    · exact eu
    simp only [cond_true]
    cases decide (getE 0 kk = 3)
    · cases decide (getE 0 kk = 2)
      · exact eu
      · cases l.ok
        · exact eu
        · exact ⟨Nat.le_refl _, by show c + 1 ≤ _; omega, fun j _ => rfl⟩
    · exact eu
  | succ k =>
    rw [go_succ]
    unfold rdP
    refine one _ _ _ _ _ _ ?_
    have := go_ext o lv n m v u x g k (nxR o n m v u x r) (c + 1) (putN f c (getE (0, iv0) (o.hit n m v u x r)).1)
    exact ⟨this.ge, by have := this.le; omega, this.eq⟩
/-- One round, contained. -/
theorem round_in {c : Nat} {f : Nat → Nat → Int} {last : Bool} {i : Int} {t T : Iv} {p P : Er Bx} {kk K : Er Int} {d D : Er Bx} {l L : Lv} {X Y : Pth} (hp : Mon BxIn p P) (hk : Mon (fun a b => b = 3 ∨ a = b) kk K) (hd : okE P = true → Mon BxIn d D) (hl : okE P = true → L.ok = true → LvIn l L)
    (hX : last = false → okE P = true → okE D = true → PIn X Y) (hx : ∀ Z : Pth, Z = roundP c f last (.ok (i, t)) p kk d l X → PIn Z (unkP (c + 1) (putN f c i))) : PIn (roundP c f last (.ok (i, t)) p kk d l X) (roundP c f last (.ok (i, T)) P K D L Y) := by
  have hx := hx _ rfl
  generalize hZ : roundP c f last (.ok (i, t)) p kk d l X = Z at *
  unfold roundP
  show PIn Z (bif okE P then _ else _)
  rcases mon_case hp with ⟨e, he⟩ | ⟨q, Q, p1, p2, hq⟩
  · rw [he]; exact hx
  rw [p2] at hd hl hX ⊢
  show PIn Z (bif okE K then _ else _)
  rcases mon_case hk with ⟨e, he⟩ | ⟨a, A, k1, k2, ha⟩
  · rw [he]; exact hx
  rw [k2]
  show PIn Z (bif decide (A = 3) then _ else bif decide (A = 2) then bif L.ok then _ else _ else bif last then _ else bif okE D then Y else _)
  by_cases h3 : A = 3
  · rw [decide_eq_true h3]; exact hx
  have haA : a = A := by rcases ha with h | h; exact absurd h h3; exact h
  subst haA
  rw [decide_eq_false h3, cond_false]
  subst hZ
  unfold roundP
  rw [p1, k1]
  show PIn (bif decide (a = 3) then _ else bif decide (a = 2) then bif l.ok then (⟨l.kd, c + 1, putN f c i, l.o, l.g⟩ : Pth) else _ else bif last then _ else bif okE d then X else _) _
  unfold roundP at hx
  rw [p1, k1] at hx
  have hx : PIn (bif decide (a = 3) then unkP (c + 1) (putN f c i) else bif decide (a = 2) then bif l.ok then (⟨l.kd, c + 1, putN f c i, l.o, l.g⟩ : Pth) else unkP (c + 1) (putN f c i) else bif last then unkP (c + 1) (putN f c i) else bif okE d then X else unkP (c + 1) (putN f c i)) (unkP (c + 1) (putN f c i)) := hx
  rw [decide_eq_false h3, cond_false] at hx ⊢
  cases h2 : decide (a = 2)
  · rw [h2] at hx
    cases last
    · simp only [cond_false] at hx ⊢
      rcases mon_case (hd rfl) with ⟨e, he⟩ | ⟨b, B, d1, d2, hb⟩
      · rw [he]; exact hx
      · rw [d2] at hX
        rw [d1, d2]
        exact hX rfl rfl rfl
    · exact hx
  · rw [h2] at hx
    simp only [cond_true] at hx ⊢
    cases hL : L.ok
    · exact hx
    · have := hl rfl hL
      rw [this.ok]
      exact .inr ⟨this.kd, rfl, fun _ _ => rfl, this.o, this.g⟩
theorem mon_getB {e E : Er Bx} (h : Mon BxIn e E) (hE : okE E = true) : BxIn (getE bx0 e) (getE bx0 E) := by
  rcases mon_case h with ⟨n, h1⟩ | ⟨y, Y, h1, h2, h3⟩
  · rw [h1] at hE; cases hE
  · rw [h1, h2]; exact h3
/-- The path, contained. -/
theorem go_incl (n m : Nat) (v u : Nat → Nat → Int) (x g : Iv) (hv : validB n m v u x = true) (hg : g.v = true) : ∀ (k : Nat) (r R : Ray) (c : Nat) (f : Nat → Nat → Int), RayIn r R → PIn (foGo foE (leaveF foE) n m v u x g k r c f) (foGo foE (leaveF foE) n m v u x g k R c f) := by
  obtain ⟨hxv, hfv⟩ := valid_get hv
  have main : ∀ (k : Nat) (last : Bool) (r R : Ray) (c : Nat) (f : Nat → Nat → Int) (X Y : Pth), RayIn r R → foGo foE (leaveF foE) n m v u x g k r c f = rdP foE (leaveF foE) n m v u x g last r c f X →
      (∀ i : Int, (getE (0, iv0) (hitE n m v u x R)).1 = i → last = false → RayIn (nxR foE n m v u x r) (nxR foE n m v u x R) → (getE (0, iv0) (hitE n m v u x r)).1 = i → PIn X Y) → PIn (rdP foE (leaveF foE) n m v u x g last r c f X) (rdP foE (leaveF foE) n m v u x g last R c f Y) := by
    intro k last r R c f X Y hr hgo hXY
    have hh := mon_hit (n := n) (m := m) (v := v) (u := u) (x := x) hr
    rcases mon_case hh with ⟨e, he⟩ | ⟨⟨i, t⟩, ⟨I, T⟩, h1, h2, hi, hT⟩
    · rw [← hgo]
      have : rdP foE (leaveF foE) n m v u x g last R c f Y = unkP c f := by
        unfold rdP
        rw [show foE.hit n m v u x R = .error e from he]
        rfl
      rw [this]
      exact pin_unk (go_ext foE (leaveF foE) n m v u x g k r c f)
    · have hi : i = I := hi
      have hT : IvIn t T := hT
      subst hi
      have e1 : foE.hit n m v u x r = .ok (i, t) := h1
      have e2 : foE.hit n m v u x R = .ok (i, T) := h2
      have hface := hit_face (n := n) (m := m) (v := v) (u := u) (x := x) (r := R) (by rw [h2]; rfl)
      rw [h2] at hface
      have hil : i.toNat < n := by have := hface.1; have := hface.2; simp only [getE] at *; omega
      have hbn := (hfv i.toNat hil).1
      have hm : Mon BxIn (moveE r t) (moveE R T) := mon_move hr.pt hr.dir hT
      have hrefl : Mon BxIn (reflE r.dir (bxOf v i.toNat)) (reflE R.dir (bxOf v i.toNat)) := mon_refl hr.dir (.self hbn)
      have hx := go_ext1 foE (leaveF foE) n m v u x g k r c f (by rw [e1]; rfl)
      rw [hgo, e1] at hx
      unfold rdP at hx ⊢
      unfold nxR at hXY
      rw [e1] at hx ⊢
      rw [e2]
      rw [e1, e2] at hXY
      refine round_in (t := t) (T := T) hm (kind_in hr.dir hbn hxv) (fun _ => hrefl) (fun hP hL => ?_) (fun hl hP hD => ?_) (fun Z hZ => ?_)
      · exact leave_in (r := ⟨getE bx0 (moveE r t), r.dir⟩) (R := ⟨getE bx0 (moveE R T), R.dir⟩) hr.dir hbn hxv hg hL
      · refine hXY i (by rw [h2]; rfl) hl ⟨?_, ?_⟩ (by rw [h1]; rfl)
        · exact mon_getB hm hP
        · exact mon_getB hrefl hD
      · rw [hZ]
        exact pin_unk hx
  intro k
  induction k with
  | zero =>
    intro r R c f hr
    have h := main 0 true r R c f (unkP 0 f) (unkP 0 f) hr (go_zero ..) fun _ _ h => by cases h
    rw [go_zero, go_zero]
    exact h
  | succ k ih =>
    intro r R c f hr
    have h := main (k + 1) false r R c f _ (foGo foE (leaveF foE) n m v u x g k (nxR foE n m v u x R) (c + 1) (putN f c (getE (0, iv0) (foE.hit n m v u x R)).1)) hr (go_succ ..) fun i hI _ hn hi => by
      rw [show (getE (0, iv0) (foE.hit n m v u x R)).1 = i from hI, show (getE (0, iv0) (foE.hit n m v u x r)).1 = i from hi]
      exact ih _ _ _ _ hn
    rw [go_succ, go_succ]
    exact h
theorem ins_of {x X : Iv} (h : IvIn x X) (hX : X.v = true) : x.ins X = true := by
  have a : vI x.lo x.hi = true := h.v
  have b : vI X.lo X.hi = true := hX
  have := h.lo
  have := h.hi
  unfold Iv.ins insI
  rw [a, b]
  simp
  omega
theorem insX_of {a A : Bx} (h : BxIn a A) (hA : A.v = true) : a.ins A = true := by
  simp only [Bx.v, Bool.and_eq_true] at hA
  unfold Bx.ins
  rw [ins_of h.x hA.1, ins_of h.y hA.2.1, ins_of h.z hA.2.2]
  rfl
theorem eqB_of {n m : Nat} (e : n = m) (v v' : Nat → Nat → Int) (h : ∀ j, j < n → v j 0 = v' j 0) : eqB n m v v' = true := by
  subst e
  exact eqB_self n v v' h
/-- Inside, as the statement asks it. -/
theorem ins_pin {g : Iv} {p P : Pth} (h : PIn p P) (he : EndOk g P.kd P.o P.g) : insW p.row P.row = true := by
  rw [row_eq, row_eq]
  unfold insW
  have st : P.n ≤ p.n → (∀ j, j < P.n → p.v j 0 = P.v j 0) → startB p.n P.n (numOf (arrC 1 p.v)) (numOf (arrC 1 P.v)) = true := fun h2 h3 => by
    unfold startB
    rw [decide_eq_true h2, allF_of (p := eqF (numOf (arrC 1 p.v)) (numOf (arrC 1 P.v))) P.n 0 fun j _ hj => eqF_of (by rw [num1, num1]; exact h3 j (by omega))]
    rfl
  rcases h with ⟨h1, h2, h3⟩ | ⟨h1, h2, h3, h4, h5⟩
  · rw [decide_eq_true h1, cond_true]
    exact st h2 h3
  · by_cases hk : P.kd = 3
    · rw [decide_eq_true hk, cond_true]
      exact st (by omega) fun j hj => h3 j (by omega)
    · rcases he.1 with h | ⟨_, ho, hgv⟩
      · exact absurd h hk
      rw [decide_eq_false hk, cond_false, decide_eq_true h1, eqB_of h2 _ _ fun j hj => by show numOf (arrC 1 p.v) j 0 = numOf (arrC 1 P.v) j 0; rw [num1, num1]; exact h3 j hj, insX_of h4 ho, ins_of h5 hgv]
      rfl
end Go.Proofs.Ytbgdfikfldkjbaa.AI
