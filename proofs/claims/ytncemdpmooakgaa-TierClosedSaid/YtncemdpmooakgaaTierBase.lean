/- Plain laws of orbits and positions of the wheel: what the program marks is what the reference lists. No condition but what each lemma names. -/
import Derived.Test.YtncemdpmooakgaaHandTier
import Derived.Test.YtncemdpmooakgaaXK4
namespace Go.Proofs.Ytncemdpmooakgaa.Pure
open Go.RowKit Go.Proofs.Ytncemdpmooakgaa.XK Go.Proofs.Ytncemdpmooakgaa.XW Go.Proofs.YtncemdpmooakgaaW.PrintWords Go.Proofs.YtncemdpmooakgaaW.PrintLast
namespace TierB
theorem w1 {i : Int} (h0 : 0 ≤ i) (h : i < 1000) : wrap64 (i + 1) = i + 1 := by unfold wrap64; omega
def tst (s i : Int) (m : Bool) (p : Int) : Bool := ((p - i) % 24) % s == 0 || m && ((p + i) % 24) % s == 0
def ps : List Int := [0, 1, 2, 3, 4, 5, 6, 7, 8, 9, 10, 11, 12, 13, 14, 15, 16, 17, 18, 19, 20, 21, 22, 23]
def orders : List Nat := [1, 2, 3, 4, 6, 8, 12, 24]
theorem dv_orders (a : Int) (h : dv a = true) : ∃ n ∈ orders, a = (n : Int) := by
  obtain ⟨n, rfl, h1, h2, h3⟩ := dv_cases a h
  have key : ∀ n : Fin 25, (1 : Nat) ≤ n.val → ((n.val : Int) * (24 / (n.val : Int)) = 24) → n.val ∈ orders := by decide +kernel
  exact ⟨n, key ⟨n, by omega⟩ (by show 1 ≤ n; omega) h3, rfl⟩
theorem orders_dv : ∀ n ∈ orders, dv (n : Int) = true := by decide +kernel
theorem mark_tst : ∀ n ∈ orders, ∀ (m : Bool) (i : Fin 24) (p : Fin 24), (markL (i.val : Int) (24 / (n : Int)) m no n).getD p.val false = tst (24 / (n : Int)) (i.val : Int) m (p.val : Int) := by decide +kernel
theorem no_get (p : Nat) : no.getD p false = false := by
  unfold no; rw [List.getD_eq_getElem?_getD, List.getElem?_replicate]; split <;> rfl
theorem set_or (bs : List Bool) (j p : Nat) (h : bs.length = 24) (hj : j < 24) : (bs.set j true).getD p false = (bs.getD p false || (no.set j true).getD p false) := by
  rw [List.getD_eq_getElem?_getD, List.getD_eq_getElem?_getD, List.getD_eq_getElem?_getD, List.getElem?_set, List.getElem?_set]
  by_cases e : j = p
  · subst e; simp [h, hj, no]
  · simp only [e, if_false]
    have : (no[p]?.getD false) = false := by rw [← List.getD_eq_getElem?_getD]; exact no_get p
    rw [this, Bool.or_false]
theorem no_len : no.length = 24 := rfl
theorem step_or (i s : Int) (m : Bool) (bs : List Bool) (hb : bs.length = 24) (k p : Nat) :
    (step1 i s m bs k).getD p false = (bs.getD p false || (step1 i s m no k).getD p false) := by
  have h1 : ((i + (k : Int) * s) % 24).toNat < 24 := by omega
  have h2 : ((24 - i + (k : Int) * s) % 24).toNat < 24 := by omega
  unfold step1
  cases m with
  | false => simp only [Bool.false_eq_true, if_false]; exact set_or bs _ p hb h1
  | true =>
    simp only [if_true]
    rw [set_or (bs.set _ true) _ p (by simp [hb]) h2, set_or bs _ p hb h1, set_or (no.set _ true) _ p (by simp [no_len]) h2, Bool.or_assoc]
theorem step_mono (i s : Int) (m : Bool) (bs : List Bool) (hb : bs.length = 24) (k p : Nat) (cs : List Bool) (ds : List Bool) (hd : ds.length = 24) (h : ∀ p, bs.getD p false = (cs.getD p false || ds.getD p false)) :
    (step1 i s m bs k).getD p false = (cs.getD p false || (step1 i s m ds k).getD p false) := by
  rw [step_or i s m bs hb, step_or i s m ds hd, h p, Bool.or_assoc]
theorem markL_or (i s : Int) (m : Bool) (bs : List Bool) (hb : bs.length = 24) : ∀ (k p : Nat), (markL i s m bs k).getD p false = (bs.getD p false || (markL i s m no k).getD p false)
  | 0, p => by
    simp only [markL, no_get, Bool.or_false]
  | k + 1, p => step_mono i s m _ (by rw [markL_len, hb]) k p bs _ (by rw [markL_len]; rfl) (markL_or i s m bs hb k)
theorem orb_or (n : Nat) (hn : n ∈ orders) (m : Bool) (x : Int) (bs : List Bool) (hb : bs.length = 24) (p : Fin 24) : (orb n m x bs).getD p.val false = (bs.getD p.val false || tst (24 / (n : Int)) (x % 24) m (p.val : Int)) := by
  unfold orb
  have e : Int.tmod x 24 % 24 = x % 24 := by
    have h := Int.tmod_add_mul_tdiv x 24
    omega
  rw [e, markL_or _ _ _ _ hb]
  have := mark_tst n hn m ⟨(x % 24).toNat, by omega⟩ p
  simp only [Int.toNat_of_nonneg (show 0 ≤ x % 24 by omega)] at this
  rw [this]
theorem orbs_any (n : Nat) (hn : n ∈ orders) (m : Bool) : ∀ (l : List Int) (bs : List Bool) (_ : bs.length = 24) (p : Fin 24), (orbs n m l bs).getD p.val false = (bs.getD p.val false || l.any fun x => tst (24 / (n : Int)) (x % 24) m (p.val : Int))
  | [], bs, hb, p => by simp [orbs]
  | x :: l, bs, hb, p => by
    show (orbs n m l (orb n m x bs)).getD p.val false = _
    rw [orbs_any n hn m l _ (by rw [orb_len, hb]) p, orb_or n hn m x bs hb p]
    simp [Bool.or_assoc]
theorem marks_filter : ∀ (bs : List Bool) (i : Nat), marks bs (i : Int) = ((List.range bs.length).filter fun k => bs.getD k false).map fun (k : Nat) => ((i + k : Nat) : Int)
  | [], i => by simp [marks]
  | b :: bs, i => by
    have ih := marks_filter bs (i + 1)
    rw [List.length_cons, List.range_succ_eq_map, List.filter_cons, List.filter_map]
    have e : (fun k => (b :: bs).getD k false) ∘ Nat.succ = fun k => bs.getD k false := by funext k; simp
    rw [e]
    simp only [marks]
    have e2 : ((i : Int) + 1) = ((i + 1 : Nat) : Int) := by omega
    rw [e2, ih]
    cases b <;> simp [Function.comp_def] <;> (try intro a _ _; omega)
theorem ps_range : ps = (List.range 24).map fun (k : Nat) => (k : Int) := by decide
theorem marks_ps (bs : List Bool) (hb : bs.length = 24) (f : Int → Bool) (h : ∀ p : Fin 24, bs.getD p.val false = f (p.val : Int)) : marks bs 0 = ps.filter f := by
  have := marks_filter bs 0
  rw [show ((0 : Nat) : Int) = 0 from rfl] at this
  rw [this, hb, ps_range, List.filter_map]
  simp only [Nat.zero_add]
  congr 1
  refine List.filter_congr (fun k hk => ?_)
  have hk' : k < 24 := by simpa using hk
  exact h ⟨k, hk'⟩
/-- What the program lists as an orbit. -/
theorem orbitL_eq (a : Int) (m : Bool) (x : Int) : orbitL a m x = if dv a then ps.filter (tst (24 / a) (x % 24) m) else [] := by
  unfold orbitL
  by_cases h : dv a = true
  · rw [if_pos h, if_pos h]
    obtain ⟨n, hn, rfl⟩ := dv_orders a h
    rw [Int.toNat_natCast]
    refine marks_ps _ (by rw [orb_len]; rfl) _ (fun p => ?_)
    rw [orb_or n hn m x no rfl p]
    rw [no_get, Bool.false_or]
  · rw [if_neg h, if_neg h]
theorem posL_eq (a : Int) (m : Bool) (h : Int) (l : List Int) : posL a m h l = if dv a then (if h = 0 then [0] else ps.filter fun p => l.any fun x => tst (24 / a) (x % 24) m p) else [] := by
  unfold posL
  by_cases hd : dv a = true
  · rw [if_pos hd, if_pos hd]
    by_cases h0 : h = 0
    · rw [if_pos h0, if_pos h0]
    · rw [if_neg h0, if_neg h0]
      obtain ⟨n, hn, rfl⟩ := dv_orders a hd
      rw [Int.toNat_natCast]
      refine marks_ps _ (by rw [orbs_len]; rfl) _ (fun p => ?_)
      rw [orbs_any n hn m l no rfl p]
      rw [no_get, Bool.false_or]
  · rw [if_neg hd, if_neg hd]
end TierB
end Go.Proofs.Ytncemdpmooakgaa.Pure
