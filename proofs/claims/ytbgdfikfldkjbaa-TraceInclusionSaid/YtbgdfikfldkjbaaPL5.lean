/- TraceLight, the plain law. -/
import Derived.Test.YtbgdfikfldkjbaaPL2
namespace Go.Proofs.Ytbgdfikfldkjbaa.AI
set_option linter.unnecessarySimpa false
open Go
set_option linter.unusedVariables false
set_option linter.unusedSimpArgs false
/-- What a round can come to. -/
theorem round_or (c : Nat) (f : Nat → Nat → Int) (h : Er (Int × Iv)) (p : Er Bx) (k : Er Int) (d : Er Bx) (l : Lv) :
    (∃ P : Pth, (P = unkP c f ∨ P = unkP (c + 1) (putN f c (getE (0, iv0) h).1) ∨ (l.ok = true ∧ P = ⟨l.kd, c + 1, putN f c (getE (0, iv0) h).1, l.o, l.g⟩)) ∧ ∀ last X, roundP c f last h p k d l X = P) ∨
    (∀ X, roundP c f true h p k d l X = unkP (c + 1) (putN f c (getE (0, iv0) h).1) ∧ roundP c f false h p k d l X = bif okE d then X else unkP (c + 1) (putN f c (getE (0, iv0) h).1)) := by
  unfold roundP
  cases h1 : okE h
  · exact .inl ⟨_, .inl rfl, fun _ _ => rfl⟩
  cases h2 : okE p
  · exact .inl ⟨_, .inr (.inl rfl), fun _ _ => rfl⟩
  cases h3 : okE k
  · exact .inl ⟨_, .inr (.inl rfl), fun _ _ => rfl⟩
  cases h4 : decide (getE 0 k = 3)
  · cases h5 : decide (getE 0 k = 2)
    · exact .inr fun X => ⟨rfl, rfl⟩
    · cases h6 : l.ok
      · exact .inl ⟨_, .inr (.inl rfl), fun _ _ => rfl⟩
      · exact .inl ⟨_, .inr (.inr ⟨rfl, rfl⟩), fun _ _ => rfl⟩
  · exact .inl ⟨_, .inr (.inl rfl), fun _ _ => rfl⟩
theorem putN_lt {f : Nat → Nat → Int} {c : Nat} {y : Int} {j k : Nat} (h : j < c) : putN f c y j k = f j k := by
  unfold putN
  have : Nat.blt j c = true := by rw [Nat.blt_eq]; exact h
  rw [this]; rfl
/-- What came stays; no more than what is left is put behind. -/
structure Ext (c : Nat) (f : Nat → Nat → Int) (k : Nat) (p : Pth) : Prop where
  ge : c ≤ p.n
  le : p.n ≤ c + k + 1
  eq : ∀ j, j < c → p.v j 0 = f j 0
theorem ext_unk (c : Nat) (f : Nat → Nat → Int) (k : Nat) : Ext c f k (unkP c f) := ⟨Nat.le_refl _, by show c ≤ _; omega, fun _ _ => rfl⟩
theorem ext_put (c : Nat) (f : Nat → Nat → Int) (k : Nat) (y : Int) (kd : Int) (o : Bx) (g : Iv) : Ext c f k ⟨kd, c + 1, putN f c y, o, g⟩ := ⟨by show c ≤ c + 1; omega, by show c + 1 ≤ _; omega, fun j hj => putN_lt hj⟩
theorem go_ext (o : Fo) (lv : LvF) (n m : Nat) (v u : Nat → Nat → Int) (x g : Iv) : ∀ (k : Nat) (r : Ray) (c : Nat) (f : Nat → Nat → Int), Ext c f k (foGo o lv n m v u x g k r c f)
  | 0, r, c, f => by
    rw [go_zero]
    unfold rdP
    rcases round_or c f (o.hit n m v u x r) (mvT o r (o.hit n m v u x r)) (o.kind r.dir (bxOf v (getE (0, iv0) (o.hit n m v u x r)).1.toNat) x) (o.refl r.dir (bxOf v (getE (0, iv0) (o.hit n m v u x r)).1.toNat)) (lv v x ⟨getE bx0 (mvT o r (o.hit n m v u x r)), r.dir⟩ (getE (0, iv0) (o.hit n m v u x r)).1.toNat g) with ⟨P, hP, e⟩ | e
    · rw [e]
      rcases hP with rfl | rfl | ⟨_, rfl⟩
      · exact ext_unk c f 0
      · exact ext_put c f 0 _ _ _ _
      · exact ext_put c f 0 _ _ _ _
    · rw [(e _).1]; exact ext_put c f 0 _ _ _ _
  | k + 1, r, c, f => by
    rw [go_succ]
    have ih := go_ext o lv n m v u x g k (nxR o n m v u x r) (c + 1) (putN f c (getE (0, iv0) (o.hit n m v u x r)).1)
    unfold rdP
    rcases round_or c f (o.hit n m v u x r) (mvT o r (o.hit n m v u x r)) (o.kind r.dir (bxOf v (getE (0, iv0) (o.hit n m v u x r)).1.toNat) x) (o.refl r.dir (bxOf v (getE (0, iv0) (o.hit n m v u x r)).1.toNat)) (lv v x ⟨getE bx0 (mvT o r (o.hit n m v u x r)), r.dir⟩ (getE (0, iv0) (o.hit n m v u x r)).1.toNat g) with ⟨P, hP, e⟩ | e
    · rw [e]
      rcases hP with rfl | rfl | ⟨_, rfl⟩
      · exact ext_unk c f _
      · exact ext_put c f _ _ _ _ _
      · exact ext_put c f _ _ _ _ _
    · rw [(e _).2]
      cases okE (o.refl r.dir (bxOf v (getE (0, iv0) (o.hit n m v u x r)).1.toNat))
      · exact ext_put c f _ _ _ _ _
      · rw [cond_true]
        exact ⟨by have := ih.ge; omega, by have := ih.le; omega, fun j hj => by rw [ih.eq j (by omega), putN_lt hj]⟩
/-- A path with one more reflection. -/
def Next (p q : Pth) : Prop := p = q ∨ (p.kd = 3 ∧ p.n ≤ q.n ∧ ∀ j, j < p.n → q.v j 0 = p.v j 0)
theorem go_next (o : Fo) (lv : LvF) (n m : Nat) (v u : Nat → Nat → Int) (x g : Iv) : ∀ (k : Nat) (r : Ray) (c : Nat) (f : Nat → Nat → Int), Next (foGo o lv n m v u x g k r c f) (foGo o lv n m v u x g (k + 1) r c f)
  | 0, r, c, f => by
    have ex := go_ext o lv n m v u x g 0 (nxR o n m v u x r) (c + 1) (putN f c (getE (0, iv0) (o.hit n m v u x r)).1)
    rw [go_succ, go_zero]
    unfold rdP
    rcases round_or c f (o.hit n m v u x r) (mvT o r (o.hit n m v u x r)) (o.kind r.dir (bxOf v (getE (0, iv0) (o.hit n m v u x r)).1.toNat) x) (o.refl r.dir (bxOf v (getE (0, iv0) (o.hit n m v u x r)).1.toNat)) (lv v x ⟨getE bx0 (mvT o r (o.hit n m v u x r)), r.dir⟩ (getE (0, iv0) (o.hit n m v u x r)).1.toNat g) with ⟨P, hP, e⟩ | e
    · rw [e, e]; exact .inl rfl
    · rw [(e _).1, (e _).2]
      cases okE (o.refl r.dir (bxOf v (getE (0, iv0) (o.hit n m v u x r)).1.toNat))
      · exact .inl rfl
      · exact .inr ⟨rfl, ex.ge, fun j hj => ex.eq j hj⟩
  | k + 1, r, c, f => by
    have ih := go_next o lv n m v u x g k (nxR o n m v u x r) (c + 1) (putN f c (getE (0, iv0) (o.hit n m v u x r)).1)
    rw [go_succ o lv n m v u x g (k + 1), go_succ o lv n m v u x g k r]
    unfold rdP
    rcases round_or c f (o.hit n m v u x r) (mvT o r (o.hit n m v u x r)) (o.kind r.dir (bxOf v (getE (0, iv0) (o.hit n m v u x r)).1.toNat) x) (o.refl r.dir (bxOf v (getE (0, iv0) (o.hit n m v u x r)).1.toNat)) (lv v x ⟨getE bx0 (mvT o r (o.hit n m v u x r)), r.dir⟩ (getE (0, iv0) (o.hit n m v u x r)).1.toNat g) with ⟨P, hP, e⟩ | e
    · rw [e, e]; exact .inl rfl
    · rw [(e _).2, (e _).2]
      cases okE (o.refl r.dir (bxOf v (getE (0, iv0) (o.hit n m v u x r)).1.toNat))
      · exact .inl rfl
      · exact ih
/-- What holds of the ends holds of the path. -/
theorem go_end (o : Fo) (lv : LvF) (n m : Nat) (v u : Nat → Nat → Int) (x g : Iv) (Pd : Int → Bx → Iv → Prop) (h0 : Pd 3 bx0 iv0) (hl : ∀ r i, (lv v x r i g).ok = true → Pd (lv v x r i g).kd (lv v x r i g).o (lv v x r i g).g) : ∀ (k : Nat) (r : Ray) (c : Nat) (f : Nat → Nat → Int), Pd (foGo o lv n m v u x g k r c f).kd (foGo o lv n m v u x g k r c f).o (foGo o lv n m v u x g k r c f).g
  | 0, r, c, f => by
    rw [go_zero]
    unfold rdP
    rcases round_or c f (o.hit n m v u x r) (mvT o r (o.hit n m v u x r)) (o.kind r.dir (bxOf v (getE (0, iv0) (o.hit n m v u x r)).1.toNat) x) (o.refl r.dir (bxOf v (getE (0, iv0) (o.hit n m v u x r)).1.toNat)) (lv v x ⟨getE bx0 (mvT o r (o.hit n m v u x r)), r.dir⟩ (getE (0, iv0) (o.hit n m v u x r)).1.toNat g) with ⟨P, hP, e⟩ | e
    · rw [e]
      rcases hP with rfl | rfl | ⟨h, rfl⟩
      · exact h0
      · exact h0
      · exact hl _ _ h
    · rw [(e _).1]; exact h0
  | k + 1, r, c, f => by
    rw [go_succ]
    have ih := go_end o lv n m v u x g Pd h0 hl k (nxR o n m v u x r) (c + 1) (putN f c (getE (0, iv0) (o.hit n m v u x r)).1)
    unfold rdP
    rcases round_or c f (o.hit n m v u x r) (mvT o r (o.hit n m v u x r)) (o.kind r.dir (bxOf v (getE (0, iv0) (o.hit n m v u x r)).1.toNat) x) (o.refl r.dir (bxOf v (getE (0, iv0) (o.hit n m v u x r)).1.toNat)) (lv v x ⟨getE bx0 (mvT o r (o.hit n m v u x r)), r.dir⟩ (getE (0, iv0) (o.hit n m v u x r)).1.toNat g) with ⟨P, hP, e⟩ | e
    · rw [e]
      rcases hP with rfl | rfl | ⟨h, rfl⟩
      · exact h0
      · exact h0
      · exact hl _ _ h
    · rw [(e _).2]
      cases okE (o.refl r.dir (bxOf v (getE (0, iv0) (o.hit n m v u x r)).1.toNat))
      · exact h0
      · exact ih
end Go.Proofs.Ytbgdfikfldkjbaa.AI
