/- trace.Hit: the loop over the faces. -/
import Derived.Test.YtbgdfikfldkjbaaNH0
namespace Go.Proofs.Ytbgdfikfldkjbaa.AI
set_option linter.unnecessarySimpa false
open Go
set_option linter.unusedVariables false
set_option linter.unusedSimpArgs false
noncomputable def range11 : Code := rangeOf Try.f11 0
noncomputable def asg11 : Code := asgOf range11
noncomputable def in11 : Code := bodyOf range11
def T11 : List V := TT 103 [(4, .u (.c (.ptr 2 0))), (5, .u (.c (.ptr 3 0))), (6, .u (.c (.ptr 4 0))), (7, .u (.c (.ptr 5 0))), (8, .u (.c (.ptr 6 0))), (23, .u (.c (.fn 52 [] [(7, 0), (8, 0)])))]
def bodyC (ad ad' : Option Addr) (n m cap cap' : Nat) (g g' : Nat → List C) (x : Iv) : List C := [.as ad 6 n cap g, .as ad' 2 m cap' g', .int .i64 x.lo, .int .i64 x.hi]
/-- Two copies of the body and the ray; between them the results (a, b, c, d), the faces, the best. -/
def HB (B B' : List C) (r r' : Ray) (a b c d : Int) (all : C) (best : Int) : Heap := [some (.cells B), some (.cells (rayC r)), some (.cells [.int .i64 a]), some (.cells [.int .i64 b, .int .i64 c]), some (.cells [.int .i64 d]), some (.cells [all]), some (.cells [.int .i64 best]), some (.cells B'), some (.cells (rayC r'))]
def rowH (n : Nat) (f : Nat → Tg) : Heap := [some (.row 79 5 n (fun i => tgC (f i)) true)]
def putF (f : Nat → Tg) (n : Nat) (x : Tg) (j : Nat) : Tg := ⟨bif Nat.blt j n then (f j).face else x.face, bif Nat.blt j n then (f j).least else x.least, bif Nat.blt j n then (f j).most else x.most, bif Nat.blt j n then (f j).sure else x.sure, bif Nat.blt j n then (f j).e else x.e⟩
abbrev RY1 (α : Type) := Ex → Heap → List Foot → Option α
noncomputable abbrev round11 {α : Type} (F : Nat) (x : Tg) (H : Heap) (L : List Foot) (k : RY1 α) : Option α := roundA Try.prog (env Try.prog [] [] 9 3) F [] asg11 in11 9 (setPs T11 [24] [.a (tgC x)]) H L k
theorem round0 {α : Type} (F : Nat) (x : Tg) (ad ad' ae ae' : Option Addr) (n m cap cap' n1 m1 cap1 cap1' : Nat) (g g' g1 g1' : Nat → List C) (y y1 : Iv) (r r' : Ray) (L : List Foot) (k : RY1 α) :
    round11 F x (HB (bodyC ad ad' n m cap cap' g g' y) (bodyC ae ae' n1 m1 cap1 cap1' g1 g1' y1) r r' 0 0 0 0 .nils (-1)) L k =
    bif !decide (x.e = 0) then k .ret (HB (bodyC ad ad' n m cap cap' g g' y) (bodyC ae ae' n1 m1 cap1 cap1' g1 g1' y1) r r' 0 0 0 x.e .nils (-1)) ([.c 4 0 1, .c 3 0 2, .c 2 0 1, .c 9 0 5] ++ L)
    else bif x.sure then k .normal (HB (bodyC ad ad' n m cap cap' g g' y) (bodyC ae ae' n1 m1 cap1 cap1' g1 g1' y1) r r' 0 0 0 0 (.row 9 5 0 1 true) 0 ++ rowH 1 (fun _ => x)) ([.c 5 0 1, .c 6 0 1, .c 9 0 5] ++ L)
    else k .normal (HB (bodyC ad ad' n m cap cap' g g' y) (bodyC ae ae' n1 m1 cap1 cap1' g1 g1' y1) r r' 0 0 0 0 (.row 9 5 0 1 true) (-1) ++ rowH 1 (fun _ => x)) ([.c 5 0 1, .c 9 0 5] ++ L) := by kernel_rfl
theorem round1 {α : Type} (F : Nat) (x : Tg) (ad ad' ae ae' : Option Addr) (n m cap cap' n1 m1 cap1 cap1' : Nat) (g g' g1 g1' : Nat → List C) (y y1 : Iv) (r r' : Ray) (c : Nat) (f : Nat → Tg) (best : Int) (L : List Foot) (k : RY1 α) :
    round11 F x (HB (bodyC ad ad' n m cap cap' g g' y) (bodyC ae ae' n1 m1 cap1 cap1' g1 g1' y1) r r' 0 0 0 0 (.row 9 5 0 (c + 1) true) best ++ rowH (c + 1) f) L k =
    bif !decide (x.e = 0) then k .ret (HB (bodyC ad ad' n m cap cap' g g' y) (bodyC ae ae' n1 m1 cap1 cap1' g1 g1' y1) r r' 0 0 0 x.e (.row 9 5 0 (c + 1) true) best ++ rowH (c + 1) f) ([.c 4 0 1, .c 3 0 2, .c 2 0 1, .c 10 0 5] ++ L)
    else bif x.sure then bif decide (best < 0) then bif decide (c + 1 ≤ c + 1) then bif decide ((c + 1 + 1) * 40 ≤ 140737488355328) && decide (c + 1 + 1 ≤ 140737488355328) then
          k .normal (HB (bodyC ad ad' n m cap cap' g g' y) (bodyC ae ae' n1 m1 cap1 cap1' g1 g1' y1) r r' 0 0 0 0 (.row 9 5 0 (c + 2) true) (Int.ofNat (c + 1)) ++ rowH (c + 2) (putF f (c + 1) x)) ([.c 5 0 1, .r 9, .c 6 0 1, .c 10 0 5] ++ L) else none else none
        else bif decide (0 ≤ best) && decide (best < Int.ofNat (c + 1)) then bif decide (0 + best.toNat < c + 1) then bif decide (x.most < (f (0 + best.toNat)).most) then bif decide (c + 1 ≤ c + 1) then bif decide ((c + 1 + 1) * 40 ≤ 140737488355328) && decide (c + 1 + 1 ≤ 140737488355328) then
          k .normal (HB (bodyC ad ad' n m cap cap' g g' y) (bodyC ae ae' n1 m1 cap1 cap1' g1 g1' y1) r r' 0 0 0 0 (.row 9 5 0 (c + 2) true) (Int.ofNat (c + 1)) ++ rowH (c + 2) (putF f (c + 1) x)) ([.c 5 0 1, .r 9, .c 6 0 1, .c 10 0 5] ++ L) else none else none
          else bif decide (c + 1 ≤ c + 1) then bif decide ((c + 1 + 1) * 40 ≤ 140737488355328) && decide (c + 1 + 1 ≤ 140737488355328) then
          k .normal (HB (bodyC ad ad' n m cap cap' g g' y) (bodyC ae ae' n1 m1 cap1 cap1' g1 g1' y1) r r' 0 0 0 0 (.row 9 5 0 (c + 2) true) best ++ rowH (c + 2) (putF f (c + 1) x)) ([.c 5 0 1, .r 9, .c 10 0 5] ++ L) else none else none
          else none else none
    else bif decide (c + 1 ≤ c + 1) then bif decide ((c + 1 + 1) * 40 ≤ 140737488355328) && decide (c + 1 + 1 ≤ 140737488355328) then
          k .normal (HB (bodyC ad ad' n m cap cap' g g' y) (bodyC ae ae' n1 m1 cap1 cap1' g1 g1' y1) r r' 0 0 0 0 (.row 9 5 0 (c + 2) true) best ++ rowH (c + 2) (putF f (c + 1) x)) ([.c 5 0 1, .r 9, .c 10 0 5] ++ L) else none else none := by kernel_rfl

def nextB (n : Nat) (f : Nat → Tg) (b : Int) (x : Tg) : Int := bif x.sure && (decide (b < 0) || decide (x.most < (f b.toNat).most)) then Int.ofNat n else b
/-- The faces, one after the other: an error, or how many there are, what they are, and the best. -/
structure HG where
  e : Int
  n : Nat
  f : Nat → Tg
  b : Int
def hitGo : List Tg → Nat → (Nat → Tg) → Int → HG
  | [], n, f, b => ⟨0, n, f, b⟩
  | x :: r, n, f, b => bif !decide (x.e = 0) then ⟨x.e, n, f, b⟩ else hitGo r (n + 1) (putF f n x) (nextB n f b x)
def rowC (n : Nat) : C := .row 9 5 0 n true
def hpH (B B' : List C) (r r' : Ray) (s : HG) : Heap := bif Nat.beq s.n 0 then HB B B' r r' 0 0 0 s.e .nils s.b else HB B B' r r' 0 0 0 s.e (rowC s.n) s.b ++ rowH s.n s.f
def L11 : List Foot := [.c 4 0 1, .c 3 0 2, .c 2 0 1, .c 5 0 1, .c 6 0 1, .r 9, .c 9 0 5, .c 10 0 5]
theorem putF_zero (f : Nat → Tg) (x : Tg) : putF f 0 x = fun _ => x := by
  funext j
  unfold putF
  have : Nat.blt j 0 = false := by
    cases h : Nat.blt j 0
    · rfl
    · rw [Nat.blt_eq] at h; omega
  rw [this]
  rfl
theorem rf11 {ad ad' ae ae' : Option Addr} {n m cap cap' n1 m1 cap1 cap1' : Nat} {g g' g1 g1' : Nat → List C} {y y1 : Iv} {r r' : Ray} : ∀ (xs : List Tg) (c : Nat) (f : Nat → Tg) (b : Int), -1 ≤ b → b < Int.ofNat c → c + xs.length ≤ 1000000 → (c = 0 → b = -1) →
    ∃ l, RF Try.prog #[24] asg11 in11 T11 9 (itemsT xs) (hpH (bodyC ad ad' n m cap cap' g g' y) (bodyC ae ae' n1 m1 cap1 cap1' g1 g1' y1) r r' ⟨0, c, f, b⟩) (bif !decide ((hitGo xs c f b).e = 0) then .ret else .normal) (hpH (bodyC ad ad' n m cap cap' g g' y) (bodyC ae ae' n1 m1 cap1 cap1' g1 g1' y1) r r' (hitGo xs c f b)) l ∧ ∀ z ∈ l, z ∈ L11
  | [], c, f, b, _, _, _, _ => ⟨[], RF.nil _, fun z hz => by cases hz⟩
  | x :: xs, c, f, b, h1, h2, h3, h0 => by
    rw [List.length_cons] at h3
    have stepR : ∀ {H : Heap} {ex : Ex} {Hn : Heap} {lx : List Foot}, round11 1 x H [] (fun ex H L => some (ex, H, L)) = some (ex, Hn, lx) → (ex ≠ .normal → RF Try.prog #[24] asg11 in11 T11 9 (itemsT (x :: xs)) H ex Hn lx) ∧ (ex = .normal → ∀ ex' H' l, RF Try.prog #[24] asg11 in11 T11 9 (itemsT xs) Hn ex' H' l → RF Try.prog #[24] asg11 in11 T11 9 (itemsT (x :: xs)) H ex' H' (l ++ lx)) :=
      fun h => rf_step mixed (env_ok mixed orc_nil fns_nil 9 3) (fuel := 1) (untold fun p hp => by cases hp) (untold fun p hp => by cases hp) h
    rw [hitGo]
    cases he : decide (x.e = 0)
    · have hne : x.e ≠ 0 := by simpa using he
      simp only [Bool.not_false, cond_true]
      rw [he]
      simp only [Bool.not_false, cond_true]
      cases c with
      | zero =>
        have hb : b = -1 := h0 rfl
        subst hb
        have := stepR (round0 1 x ad ad' ae ae' n m cap cap' n1 m1 cap1 cap1' g g' g1 g1' y y1 r r' [] _ |>.trans (by rw [he]; rfl))
        exact ⟨_, this.1 (fun e => by cases e), by simp [L11]⟩
      | succ c =>
        have := stepR (round1 1 x ad ad' ae ae' n m cap cap' n1 m1 cap1 cap1' g g' g1 g1' y y1 r r' c f b [] _ |>.trans (by rw [he]; rfl))
        exact ⟨_, this.1 (fun e => by cases e), by simp [L11]⟩
    · simp only [Bool.not_true, cond_false]
      have hn : -1 ≤ nextB c f b x ∧ nextB c f b x < Int.ofNat (c + 1) := by
        unfold nextB
        cases x.sure && (decide (b < 0) || decide (x.most < (f b.toNat).most))
        · exact ⟨h1, by simp only [cond_false, Int.ofNat_eq_natCast] at h2 ⊢; omega⟩
        · simp only [cond_true, Int.ofNat_eq_natCast]; omega
      obtain ⟨l, hl, hsub⟩ := rf11 (ad := ad) (ad' := ad') (ae := ae) (ae' := ae') (n := n) (m := m) (cap := cap) (cap' := cap') (n1 := n1) (m1 := m1) (cap1 := cap1) (cap1' := cap1') (g := g) (g' := g') (g1 := g1) (g1' := g1') (y := y) (y1 := y1) (r := r) (r' := r') xs (c + 1) (putF f c x) (nextB c f b x) hn.1 hn.2 (by omega) (fun e => by cases e)
      cases c with
      | zero =>
        have hb : b = -1 := h0 rfl
        subst hb
        rw [putF_zero] at hl ⊢
        cases hs : x.sure
        · have e1 : nextB 0 f (-1) x = -1 := by unfold nextB; rw [hs]; rfl
          rw [e1] at hl ⊢
          have := stepR (round0 1 x ad ad' ae ae' n m cap cap' n1 m1 cap1 cap1' g g' g1 g1' y y1 r r' [] _ |>.trans (by rw [he, hs]; rfl))
          refine ⟨_, this.2 rfl _ _ _ hl, fun z hz => ?_⟩
          rcases List.mem_append.1 hz with hz | hz
          · exact hsub z hz
          · exact (by simp [L11] : ∀ z ∈ [Foot.c 5 0 1, Foot.c 9 0 5] ++ [], z ∈ L11) z hz
        · have e1 : nextB 0 f (-1) x = 0 := by unfold nextB; rw [hs]; rfl
          rw [e1] at hl ⊢
          have := stepR (round0 1 x ad ad' ae ae' n m cap cap' n1 m1 cap1 cap1' g g' g1 g1' y y1 r r' [] _ |>.trans (by rw [he, hs]; rfl))
          refine ⟨_, this.2 rfl _ _ _ hl, fun z hz => ?_⟩
          rcases List.mem_append.1 hz with hz | hz
          · exact hsub z hz
          · exact (by simp [L11] : ∀ z ∈ [Foot.c 5 0 1, Foot.c 6 0 1, Foot.c 9 0 5] ++ [], z ∈ L11) z hz
      | succ c =>
        have d1 : decide (c + 1 ≤ c + 1) = true := decide_eq_true (Nat.le_refl _)
        have d2 : decide ((c + 1 + 1) * 40 ≤ 140737488355328) = true := decide_eq_true (by omega)
        have d3 : decide (c + 1 + 1 ≤ 140737488355328) = true := decide_eq_true (by omega)
        have goal : ∀ {b' : Int} {lx : List Foot}, nextB (c + 1) f b x = b' → (∀ z ∈ lx, z ∈ L11) → round11 1 x (HB (bodyC ad ad' n m cap cap' g g' y) (bodyC ae ae' n1 m1 cap1 cap1' g1 g1' y1) r r' 0 0 0 0 (.row 9 5 0 (c + 1) true) b ++ rowH (c + 1) f) [] (fun ex H L => some (ex, H, L)) = some (.normal, HB (bodyC ad ad' n m cap cap' g g' y) (bodyC ae ae' n1 m1 cap1 cap1' g1 g1' y1) r r' 0 0 0 0 (.row 9 5 0 (c + 2) true) b' ++ rowH (c + 2) (putF f (c + 1) x), lx) →
            ∃ l, RF Try.prog #[24] asg11 in11 T11 9 (itemsT (x :: xs)) (hpH (bodyC ad ad' n m cap cap' g g' y) (bodyC ae ae' n1 m1 cap1 cap1' g1 g1' y1) r r' ⟨0, c + 1, f, b⟩) (bif !decide ((hitGo xs (c + 1 + 1) (putF f (c + 1) x) (nextB (c + 1) f b x)).e = 0) then .ret else .normal) (hpH (bodyC ad ad' n m cap cap' g g' y) (bodyC ae ae' n1 m1 cap1 cap1' g1 g1' y1) r r' (hitGo xs (c + 1 + 1) (putF f (c + 1) x) (nextB (c + 1) f b x))) l ∧ ∀ z ∈ l, z ∈ L11 := by
          intro b' lx e1 hlx hr
          have := stepR hr
          rw [e1] at hl ⊢
          refine ⟨_, this.2 rfl _ _ _ hl, fun z hz => ?_⟩
          rcases List.mem_append.1 hz with hz | hz
          · exact hsub z hz
          · exact hlx z hz
        have base := round1 1 x ad ad' ae ae' n m cap cap' n1 m1 cap1 cap1' g g' g1 g1' y y1 r r' c f b [] (fun ex H L => some (ex, H, L))
        rw [he, d1, d2, d3] at base
        simp only [Bool.not_true, cond_false, Bool.and_self, cond_true] at base
        cases hs : x.sure
        · rw [hs] at base
          simp only [cond_false] at base
          exact goal (by unfold nextB; rw [hs]; rfl) (by simp [L11]) base
        · rw [hs] at base
          simp only [cond_true] at base
          cases hb : decide (b < 0)
          · have hb0 : 0 ≤ b := by simpa using hb
            have hbn : b.toNat < c + 1 := by simp only [Int.ofNat_eq_natCast] at h2; omega
            rw [hb, decide_eq_true hb0, decide_eq_true h2, Nat.zero_add, decide_eq_true hbn] at base
            simp only [cond_false, Bool.and_self, cond_true] at base
            cases hm : decide (x.most < (f b.toNat).most)
            · rw [hm] at base
              simp only [cond_false] at base
              exact goal (by unfold nextB; rw [hs, hb, hm]; rfl) (by simp [L11]) base
            · rw [hm] at base
              simp only [cond_true] at base
              exact goal (by unfold nextB; rw [hs, hb, hm]; rfl) (by simp [L11]) base
          · rw [hb] at base
            simp only [cond_true] at base
            exact goal (by unfold nextB; rw [hs, hb]; rfl) (by simp [L11]) base

/-! The loop, told. -/
structure BodyR where
  ad : Option Addr
  ad' : Option Addr
  n : Nat
  m : Nat
  cap : Nat
  cap' : Nat
  g : Nat → List C
  g' : Nat → List C
  y : Iv
def BodyR.c (b : BodyR) : List C := bodyC b.ad b.ad' b.n b.m b.cap b.cap' b.g b.g' b.y
def parseB : Option Blk → Option BodyR
  | some (.cells [.as ad k n cap g, .as ad' k' m cap' g', .int .i64 lo, .int .i64 hi]) => cond (Nat.beq k 6 && Nat.beq k' 2) (some ⟨ad, ad', n, m, cap, cap', g, g', ⟨lo, hi⟩⟩) none
  | _ => none
theorem parseB_inv {x : Option Blk} {b : BodyR} (h : parseB x = some b) : x = some (.cells b.c) := by
  unfold parseB at h
  split at h
  · rename_i ad k n cap g ad' k' m cap' g' lo hi
    cases hc : (Nat.beq k 6 && Nat.beq k' 2)
    · rw [hc] at h; cases h
    rw [hc] at h
    cases h
    rw [Bool.and_eq_true] at hc
    have e1 := Nat.eq_of_beq_eq_true hc.1
    have e2 := Nat.eq_of_beq_eq_true hc.2
    subst e1
    subst e2
    rfl
  · cases h
def rayO : List Int → Option Ray
  | [a, b, c, d, e, f, a', b', c', d', e', f'] => some ⟨⟨⟨a, b⟩, ⟨c, d⟩, ⟨e, f⟩⟩, ⟨⟨a', b'⟩, ⟨c', d'⟩, ⟨e', f'⟩⟩⟩
  | _ => none
def parseR : Option Blk → Option Ray
  | some (.cells cs) => (intsC cs).bind rayO
  | _ => none
theorem parseR_inv {x : Option Blk} {r : Ray} (h : parseR x = some r) : x = some (.cells (rayC r)) := by
  unfold parseR at h
  split at h
  · rename_i cs
    obtain ⟨l, h1, h2⟩ := Option.bind_eq_some_iff.1 h
    unfold rayO at h2
    split at h2
    · cases h2
      rw [intsC_inv h1]; rfl
    · cases h2
  · cases h
def eqInts : List Int → List Int → Bool
  | [], [] => true
  | a :: r, b :: s => decide (a = b) && eqInts r s
  | _, _ => false
theorem eqInts_eq : ∀ {a b : List Int}, eqInts a b = true → a = b
  | [], [], _ => rfl
  | a :: r, b :: s, h => by
    rw [eqInts, Bool.and_eq_true, decide_eq_true_eq] at h
    rw [h.1, eqInts_eq h.2]
  | [], b :: s, h => by cases h
  | a :: r, [], h => by cases h
def isInt (l : List Int) : Option Blk → Bool
  | some (.cells cs) => match intsC cs with
    | some m => eqInts m l
    | none => false
  | _ => false
theorem isInt_inv {l : List Int} {x : Option Blk} (h : isInt l x = true) : x = some (.cells (l.map (.int .i64))) := by
  unfold isInt at h
  split at h
  · split at h
    · rename_i m hm
      rw [← eqInts_eq h, ← intsC_inv hm]
    · cases h
  · cases h
def isNil : Option Blk → Bool
  | some (.cells [.nils]) => true
  | _ => false
theorem isNil_inv {x : Option Blk} (h : isNil x = true) : x = some (.cells [.nils]) := by
  unfold isNil at h
  split at h
  · rfl
  · cases h
/-- Temporaries that only point. -/
def eqPs : List (Nat × Nat) → List (Nat × Nat) → Bool
  | [], [] => true
  | a :: r, b :: s => (Nat.beq a.1 b.1 && Nat.beq a.2 b.2) && eqPs r s
  | _, _ => false
theorem eqPs_eq : ∀ {a b : List (Nat × Nat)}, eqPs a b = true → a = b
  | [], [], _ => rfl
  | a :: r, b :: s, h => by
    rw [eqPs, Bool.and_eq_true, Bool.and_eq_true] at h
    rw [eqPs_eq h.2, show a = b from Prod.ext (Nat.eq_of_beq_eq_true h.1.1) (Nat.eq_of_beq_eq_true h.1.2)]
  | [], b :: s, h => by cases h
  | a :: r, [], h => by cases h
def eqV0 : V → V → Bool
  | .any, .any => true
  | .u (.c (.ptr a b)), .u (.c (.ptr c d)) => Nat.beq a c && Nat.beq b d
  | .u (.c (.fn f p q)), .u (.c (.fn g r s)) => Nat.beq f g && (eqPs p r && eqPs q s)
  | _, _ => false
theorem eqV0_eq {a b : V} (h : eqV0 a b = true) : a = b := by
  unfold eqV0 at h
  split at h
  · rfl
  · rw [Bool.and_eq_true] at h
    rw [Nat.eq_of_beq_eq_true h.1, Nat.eq_of_beq_eq_true h.2]
  · rw [Bool.and_eq_true, Bool.and_eq_true] at h
    rw [Nat.eq_of_beq_eq_true h.1, eqPs_eq h.2.1, eqPs_eq h.2.2]
  · cases h
def eqT0 : List V → List V → Bool
  | [], [] => true
  | a :: r, b :: s => eqV0 a b && eqT0 r s
  | _, _ => false
theorem eqT0_eq : ∀ {a b : List V}, eqT0 a b = true → a = b
  | [], [], _ => rfl
  | a :: r, b :: s, h => by
    rw [eqT0, Bool.and_eq_true] at h
    rw [eqV0_eq h.1, eqT0_eq h.2]
  | [], b :: s, h => by cases h
  | a :: r, [], h => by cases h
/-- What the loop comes to. -/
def hitOf (b : BodyR) (r : Ray) : HG := hitGo (tgs (numOf b.g) (numOf b.g') r b.n 0) 0 (fun _ => ⟨0, 0, 0, false, 0⟩) (-1)
def ok6 (b : BodyR) : Bool := (decide (b.n ≤ 100000) && decide (b.n ≤ b.m)) && (allN (fun j => isInts 6 (b.g j)) b.n && allN (fun j => isInts 2 (b.g' j)) b.m)
def tree6 (B B' : List C) (r r' : Ray) (s : HG) : LTree :=
  .test (!decide (s.e = 0)) (.test (Nat.beq s.n 0) (.leaf .ret T11 (HB B B' r r' 0 0 0 s.e .nils s.b) L11) (.leaf .ret T11 (HB B B' r r' 0 0 0 s.e (rowC s.n) s.b ++ rowH s.n s.f) L11))
    (.test (Nat.beq s.n 0) (.leaf .normal T11 (HB B B' r r' 0 0 0 0 .nils s.b) L11) (.leaf .normal T11 (HB B B' r r' 0 0 0 0 (rowC s.n) s.b ++ rowH s.n s.f) L11))
def g6 (T : List V) : Heap → LTree
  | [x0, x1, x2, x3, x4, x5, x6, x7, x8] => match parseB x0, parseR x1, parseB x7, parseR x8 with
    | some B, some r, some B', some r' => .test (eqT0 T T11 && ((isInt [0] x2 && (isInt [0, 0] x3 && (isInt [0] x4 && (isNil x5 && isInt [-1] x6)))) && ok6 B')) (tree6 B.c B'.c r r' (hitOf B' r')) .no
    | _, _, _, _ => .no
  | _ => .no
theorem closed_of {H : Heap} {h0 : List Nat} (h : idsH H = some h0) (hb : (h0.all fun b => Nat.blt b H.length) = true) : ∀ b cs, blk H b = some (.cells cs) → ∀ x ∈ cs, ∀ i ∈ idsC x, i < H.length := by
  intro b cs hbk x hx i hi
  obtain ⟨m, h1, h2⟩ := idsH_spec h _ (blk_mem hbk)
  simp only [idsB, Option.some.injEq] at h1
  subst h1
  have := List.all_eq_true.1 hb i (h2 i (List.mem_flatMap.2 ⟨x, hx, hi⟩))
  simpa [Nat.blt_eq] using this
theorem hitGo_e (xs : List Tg) : ∀ (n : Nat) (f : Nat → Tg) (b : Int), ((hitGo xs n f b).e = 0) → True := fun _ _ _ _ => trivial
theorem tgs_len (v u : Nat → Nat → Int) (r : Ray) : ∀ (k i : Nat), (tgs v u r k i).length ≤ k
  | 0, i => Nat.le_refl _
  | k + 1, i => by
    have := tgs_len v u r k (i + 1)
    unfold tgs
    cases okE (cosE v r i)
    · simp
    cases okE (dotE (bxOf v i) r.pt)
    · simp
    cases okE (gapE v u r i)
    · simp
    cases decide ((getE iv0 (cosE v r i)).hi ≤ 0)
    · simp only [cond_true, cond_false, List.length_cons]; omega
    · simp only [cond_true]; omega
theorem range11_eq : range11 = .rangeFunc (.tmp 23) #[24] asg11 in11 := by kernel_rfl
theorem enter52 : ∀ args w, (callFunc 52 args).run Try.prog w = .ok (.enter 52 args) w := enters_of Try.func52 (by kernel_rfl) rfl
theorem told6 : RangeTold Try.prog range11 g6 := by
  intro T H ex T' H' l hg
  unfold g6 at hg
  split at hg
  case h_2 => cases hg
  rename_i x0 x1 x2 x3 x4 x5 x6 x7 x8
  split at hg
  case h_2 => cases hg
  rename_i B r B' r' hB hr hB' hr'
  simp only [LTree.val] at hg
  cases hc : (eqT0 T T11 && ((isInt [0] x2 && (isInt [0, 0] x3 && (isInt [0] x4 && (isNil x5 && isInt [-1] x6)))) && ok6 B'))
  · rw [hc] at hg; cases hg
  rw [hc, cond_true] at hg
  simp only [Bool.and_eq_true] at hc
  obtain ⟨h1, ⟨h2, h3, h4, h5, h6⟩, h7⟩ := hc
  have e1 := eqT0_eq h1
  subst e1
  have E0 := parseB_inv hB
  have E1 := parseR_inv hr
  have E2 := isInt_inv h2
  have E3 := isInt_inv h3
  have E4 := isInt_inv h4
  have E5 := isNil_inv h5
  have E6 := isInt_inv h6
  have E7 := parseB_inv hB'
  have E8 := parseR_inv hr'
  subst E0 E1 E2 E3 E4 E5 E6 E7 E8
  clear hB hr hB' hr' h1 h2 h3 h4 h5 h6
  simp only [ok6, Bool.and_eq_true, decide_eq_true_eq] at h7
  obtain ⟨⟨hn, hm⟩, i1, i2⟩ := h7
  have hlen := tgs_len (numOf B'.g) (numOf B'.g') r' B'.n 0
  obtain ⟨lr, hrf, hsub⟩ := rf11 (ad := B.ad) (ad' := B.ad') (ae := B'.ad) (ae' := B'.ad') (n := B.n) (m := B.m) (cap := B.cap) (cap' := B.cap') (n1 := B'.n) (m1 := B'.m) (cap1 := B'.cap) (cap1' := B'.cap') (g := B.g) (g' := B.g') (g1 := B'.g) (g1' := B'.g') (y := B.y) (y1 := B'.y) (r := r) (r' := r')
    (tgs (numOf B'.g) (numOf B'.g') r' B'.n 0) 0 (fun _ => ⟨0, 0, 0, false, 0⟩) (-1) (by omega) (by decide) (by omega) (fun _ => rfl)
  have hids : idsH (HB B.c B'.c r r' 0 0 0 0 .nils (-1)) = some [] := rfl
  have ct : CodeTo Try.prog range11 T11 (HB B.c B'.c r r' 0 0 0 0 .nils (-1)) (bif !decide ((hitOf B' r').e = 0) then .ret else .normal) T11 (hpH B.c B'.c r r' (hitOf B' r')) lr := by
    rw [range11_eq]
    refine range_told (gf := 52) (caps := [(7, 0), (8, 0)]) (xs := itemsT (tgs (numOf B'.g) (numOf B'.g') r' B'.n 0)) rfl enter52 ⟨by kernel_rfl, by kernel_rfl⟩ ?_ ?_ (closed_of hids rfl) ?_ ?_ ?_ hrf ?_
    · intro x hx u hu
      obtain ⟨t, _, rfl⟩ := List.mem_map.1 hx
      rw [List.mem_singleton.1 hu]
      exact ⟨tg_ids t, fun W S _ _ => tg_sc t W S⟩
    · intro x hx
      obtain ⟨t, _, rfl⟩ := List.mem_map.1 hx
      rfl
    · have : (T11.all fun v => (idsV v).all fun i => Nat.blt i 9) = true := by kernel_rfl
      intro v hv i hi
      have := List.all_eq_true.1 (List.all_eq_true.1 this v hv) i hi
      rw [Nat.blt_eq] at this
      exact this
    · intro p hp
      simp only [List.mem_cons, List.not_mem_nil, or_false] at hp
      rcases hp with rfl | rfl
      · exact ⟨_, rfl⟩
      · exact ⟨_, rfl⟩
    · intro W S ρ a w hs
      exact targets_yield (p := 7) (q := 8) (ad := B'.ad) (ad' := B'.ad') (n := B'.n) (m := B'.m) (cap := B'.cap) (cap' := B'.cap') (g := B'.g) (g' := B'.g') (x := B'.y) (r := r') rfl rfl (by decide) i1 i2 (by omega) hm W S ρ a w hs
    · intro p hp
      rintro ⟨f, hf, e⟩
      have := hsub f hf
      simp only [L11, List.mem_cons, List.not_mem_nil, or_false] at this hp
      rcases this with rfl | rfl | rfl | rfl | rfl | rfl | rfl | rfl <;> rcases hp with rfl | rfl <;> exact absurd e (by decide)
  have ct' : CodeTo Try.prog range11 T11 (HB B.c B'.c r r' 0 0 0 0 .nils (-1)) (bif !decide ((hitOf B' r').e = 0) then .ret else .normal) T11 (hpH B.c B'.c r r' (hitOf B' r')) L11 := { gr := ct.gr.weaken hsub, sc := ct.sc, run := ct.run }
  show CodeTo Try.prog range11 T11 (HB B.c B'.c r r' 0 0 0 0 .nils (-1)) ex T' H' l
  unfold tree6 at hg
  simp only [LTree.val] at hg
  unfold hpH at ct'
  cases he : decide ((hitOf B' r').e = 0)
  · rw [he] at hg ct'
    cases hz : Nat.beq (hitOf B' r').n 0
    · rw [hz] at hg ct'
      cases hg
      exact ct'
    · rw [hz] at hg ct'
      cases hg
      exact ct'
  · have he0 : (hitOf B' r').e = 0 := by simpa using he
    rw [he] at hg ct'
    rw [he0] at ct'
    cases hz : Nat.beq (hitOf B' r').n 0
    · rw [hz] at hg ct'
      cases hg
      exact ct'
    · rw [hz] at hg ct'
      cases hg
      exact ct'
end Go.Proofs.Ytbgdfikfldkjbaa.AI
