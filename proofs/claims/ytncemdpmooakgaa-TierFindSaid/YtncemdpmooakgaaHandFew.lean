/- culetref15.Few, walked: a tier's cells kept as one opaque array. (Printed by mkfew.py.) -/
import Derived.Test.YtncemdpmooakgaaXT
import Derived.Test.YtncemdpmooakgaaXE
import Derived.Test.YtncemdpmooakgaaXK1
namespace Go.Proofs.Ytncemdpmooakgaa.XK
open Go Go.RowKit Go.Proofs Go.Proofs.YtncemdpmooakgaaW.PrintWords Go.Proofs.YtncemdpmooakgaaW.PrintLast Go.Proofs.Ytncemdpmooakgaa.XW Go.Proofs.Ytncemdpmooakgaa.XT Go.Proofs.Ytncemdpmooakgaa.XE
set_option linter.unusedVariables false
set_option linter.unusedSimpArgs false
def fewN (x : S44) : Bool := decide ((x.f1.f1.size : Int) ≤ 200) && (decide ((x.f0.f0.f1.size : Int) ≤ 200) && (decide ((x.f0.f1.f1.size : Int) ≤ 200) && (decide ((x.f0.f2.f1.size : Int) ≤ 200) && decide ((x.f0.f3.f1.size : Int) ≤ 200))))
theorem fewN_eq (x : S44) : culetref15_few.f (x.f0.f0.f0) (x.f0.f0.f1) (x.f0.f1.f0) (x.f0.f1.f1) (x.f0.f2.f0) (x.f0.f2.f1) (x.f0.f3.f0) (x.f0.f3.f1) (x.f1.f0) (x.f1.f1) = some (fewN x) := by
  unfold culetref15_few.f fewN
  repeat' split
  all_goals simp_all
  all_goals omega
def shortR (x : S64) : Bool := decide (x.f0.size ≤ 60)
def fewFixB (x : S49) : Bool := x.f3.all shortR && (decide (x.f3.length ≤ 5) && (fewN x.f1 && (fewN x.f2.f0 && (fewN x.f2.f1 && fewN x.f2.f2))))
theorem few_loop (x : S49) (hn : x.f3.length ≤ 9223372036854775807) : ∀ (d i k : Nat), i + d = x.f3.length → d < k → (x.f3.take i).all shortR = true → culetref15_FewFix.l0 k (i : Int) (x.f0) (x.f1.f0.f0.f0) (x.f1.f0.f0.f1) (x.f1.f0.f1.f0) (x.f1.f0.f1.f1) (x.f1.f0.f2.f0) (x.f1.f0.f2.f1) (x.f1.f0.f3.f0) (x.f1.f0.f3.f1) (x.f1.f1.f0) (x.f1.f1.f1) (x.f2.f0.f0.f0.f0) (x.f2.f0.f0.f0.f1) (x.f2.f0.f0.f1.f0) (x.f2.f0.f0.f1.f1) (x.f2.f0.f0.f2.f0) (x.f2.f0.f0.f2.f1) (x.f2.f0.f0.f3.f0) (x.f2.f0.f0.f3.f1) (x.f2.f0.f1.f0) (x.f2.f0.f1.f1) (x.f2.f1.f0.f0.f0) (x.f2.f1.f0.f0.f1) (x.f2.f1.f0.f1.f0) (x.f2.f1.f0.f1.f1) (x.f2.f1.f0.f2.f0) (x.f2.f1.f0.f2.f1) (x.f2.f1.f0.f3.f0) (x.f2.f1.f0.f3.f1) (x.f2.f1.f1.f0) (x.f2.f1.f1.f1) (x.f2.f2.f0.f0.f0) (x.f2.f2.f0.f0.f1) (x.f2.f2.f0.f1.f0) (x.f2.f2.f0.f1.f1) (x.f2.f2.f0.f2.f0) (x.f2.f2.f0.f2.f1) (x.f2.f2.f0.f3.f0) (x.f2.f2.f0.f3.f1) (x.f2.f2.f1.f0) (x.f2.f2.f1.f1) x.f3 = some (fewFixB x)
  | 0, i, k, h, hk, ha => by
    obtain ⟨k, rfl⟩ : ∃ m, k = m + 1 := ⟨k - 1, by omega⟩
    rw [List.take_of_length_le (by omega)] at ha
    simp only [culetref15_FewFix.l0]
    rw [if_neg (by omega), show culetref15_few.f (x.f1.f0.f0.f0) (x.f1.f0.f0.f1) (x.f1.f0.f1.f0) (x.f1.f0.f1.f1) (x.f1.f0.f2.f0) (x.f1.f0.f2.f1) (x.f1.f0.f3.f0) (x.f1.f0.f3.f1) (x.f1.f1.f0) (x.f1.f1.f1) = _ from fewN_eq x.f1, show culetref15_few.f (x.f2.f0.f0.f0.f0) (x.f2.f0.f0.f0.f1) (x.f2.f0.f0.f1.f0) (x.f2.f0.f0.f1.f1) (x.f2.f0.f0.f2.f0) (x.f2.f0.f0.f2.f1) (x.f2.f0.f0.f3.f0) (x.f2.f0.f0.f3.f1) (x.f2.f0.f1.f0) (x.f2.f0.f1.f1) = _ from fewN_eq x.f2.f0, show culetref15_few.f (x.f2.f1.f0.f0.f0) (x.f2.f1.f0.f0.f1) (x.f2.f1.f0.f1.f0) (x.f2.f1.f0.f1.f1) (x.f2.f1.f0.f2.f0) (x.f2.f1.f0.f2.f1) (x.f2.f1.f0.f3.f0) (x.f2.f1.f0.f3.f1) (x.f2.f1.f1.f0) (x.f2.f1.f1.f1) = _ from fewN_eq x.f2.f1, show culetref15_few.f (x.f2.f2.f0.f0.f0) (x.f2.f2.f0.f0.f1) (x.f2.f2.f0.f1.f0) (x.f2.f2.f0.f1.f1) (x.f2.f2.f0.f2.f0) (x.f2.f2.f0.f2.f1) (x.f2.f2.f0.f3.f0) (x.f2.f2.f0.f3.f1) (x.f2.f2.f1.f0) (x.f2.f2.f1.f1) = _ from fewN_eq x.f2.f2]
    unfold fewFixB
    rw [ha]
    by_cases c : x.f3.length ≤ 5
    · rw [if_pos (by omega)]
      cases fewN x.f1 <;> cases fewN x.f2.f0 <;> cases fewN x.f2.f1 <;> cases fewN x.f2.f2 <;> simp [c]
    · rw [if_neg (by omega)]
      simp [c]
  | d + 1, i, k, h, hk, ha => by
    obtain ⟨k, rfl⟩ : ∃ m, k = m + 1 := ⟨k - 1, by omega⟩
    have hi : i < x.f3.length := by omega
    have e : rd_T64 x.f3 (i : Int) = x.f3[i] := by unfold rd_T64; rw [Int.toNat_natCast, List.getD_eq_getElem?_getD, List.getElem?_eq_getElem hi]; rfl
    simp only [culetref15_FewFix.l0]
    rw [if_pos (by omega), if_pos (by omega), e]
    by_cases c : x.f3[i].f0.size ≤ 60
    · rw [if_neg (by omega), show wrap64 ((i : Int) + 1) = ((i + 1 : Nat) : Int) by unfold wrap64; omega]
      refine few_loop x hn d (i + 1) k (by omega) (by omega) ?_
      rw [List.take_add_one, List.all_append, ha, List.getElem?_eq_getElem hi]
      simp [shortR, c]
    · rw [if_pos (by omega)]
      have hf : x.f3.all shortR = false := by
        rw [List.all_eq_false]
        exact ⟨x.f3[i], List.getElem_mem hi, by simp [shortR]; omega⟩
      simp [fewFixB, hf]
theorem fewFix_ {w : World} {x : S49} {fc : Array Value} (hK : k49.K w x fc.toList) (w1 : World) (hb : Below w.heap.size w w1) :
    Calls Try.prog 59 #[.agg fc] w1 fun e w' => e = .returned (.bool (fewFixB x)) ∧ Below w1.heap.size w1 w' := by
  obtain ⟨A, c, e, hl, hC⟩ := k49_open hK
  have ea := congrArg List.toArray e
  simp only [Array.toArray_toList] at ea
  clear e hK
  subst ea
  exact culetref15_FewFix.calls (x.f3.length + 1) (x.f0) (x.f1.f0.f0.f0) (x.f1.f0.f0.f1) (x.f1.f0.f1.f0) (x.f1.f0.f1.f1) (x.f1.f0.f2.f0) (x.f1.f0.f2.f1) (x.f1.f0.f3.f0) (x.f1.f0.f3.f1) (x.f1.f1.f0) (x.f1.f1.f1) (x.f2.f0.f0.f0.f0) (x.f2.f0.f0.f0.f1) (x.f2.f0.f0.f1.f0) (x.f2.f0.f0.f1.f1) (x.f2.f0.f0.f2.f0) (x.f2.f0.f0.f2.f1) (x.f2.f0.f0.f3.f0) (x.f2.f0.f0.f3.f1) (x.f2.f0.f1.f0) (x.f2.f0.f1.f1) (x.f2.f1.f0.f0.f0) (x.f2.f1.f0.f0.f1) (x.f2.f1.f0.f1.f0) (x.f2.f1.f0.f1.f1) (x.f2.f1.f0.f2.f0) (x.f2.f1.f0.f2.f1) (x.f2.f1.f0.f3.f0) (x.f2.f1.f0.f3.f1) (x.f2.f1.f1.f0) (x.f2.f1.f1.f1) (x.f2.f2.f0.f0.f0) (x.f2.f2.f0.f0.f1) (x.f2.f2.f0.f1.f0) (x.f2.f2.f0.f1.f1) (x.f2.f2.f0.f2.f0) (x.f2.f2.f0.f2.f1) (x.f2.f2.f0.f3.f0) (x.f2.f2.f0.f3.f1) (x.f2.f2.f1.f0) (x.f2.f2.f1.f1) A c x.f3 (fewFixB x) w1 (Kd.C_below hC hb) hl (by unfold culetref15_FewFix.f; exact few_loop x hC.2.1 x.f3.length 0 _ (by omega) (by omega) (by simp))
def fewT (x : S51) : Bool := decide (x.f0.size ≤ 60) && (decide (x.f3.length ≤ 26) && fewFixB x.f4)
def few15 (n : ByteArray) (l : List S51) : Bool := decide (n.size ≤ 60) && (decide (l.length ≤ 22) && l.all fewT)
def Z51 : Array Value := #[.string ⟨#[]⟩, .int .i64 0, .int .i64 0, .slice none 0 0, .int .i64 0, .bool false, .string ⟨#[]⟩, .bool false, .string ⟨#[]⟩, .bool false, .string ⟨#[]⟩, .bool false, .string ⟨#[]⟩, .bool false, .string ⟨#[]⟩, .bool false, .string ⟨#[]⟩, .bool false, .string ⟨#[]⟩, .bool false, .string ⟨#[]⟩, .bool false, .string ⟨#[]⟩, .bool false, .string ⟨#[]⟩, .bool false, .string ⟨#[]⟩, .bool false, .string ⟨#[]⟩, .bool false, .string ⟨#[]⟩, .bool false, .string ⟨#[]⟩, .bool false, .string ⟨#[]⟩, .bool false, .string ⟨#[]⟩, .bool false, .string ⟨#[]⟩, .bool false, .string ⟨#[]⟩, .bool false, .string ⟨#[]⟩, .bool false, .string ⟨#[]⟩, .slice none 0 0]
/-- What of a tier is read. -/
theorem tier_cells {w : World} {x : S51} {tc : Array Value} (hK : k51.K w x tc.toList) : ∃ (A : Option Addr) (c : Nat) (fc : Array Value), tc[0]? = some (.string x.f0) ∧ tc[3]? = some (.slice A x.f3.length c) ∧ fc = tc.extract 4 (4 + 42) ∧ fc.size = 42 ∧ k49.K w x.f4 fc.toList ∧ (tc.all fun v => v.oneCell') = true := by
  have h1 := k51.K_one hK
  obtain ⟨_, _, e, rfl, ⟨_, _, rfl, rfl, ⟨_, _, rfl, rfl, ⟨_, fa, rfl, ⟨A, c, rfl, l3, g3⟩, s4⟩⟩⟩⟩ := hK
  have ea := congrArg List.toArray e
  simp only [Array.toArray_toList] at ea
  have l1 : fa.length = 42 := k49.K_len s4
  have ha : fa.toArray = (([.string x.f0, .int .i64 x.f1, .int .i64 x.f2, .slice A x.f3.length c] : List Value) ++ fa).toArray.extract 4 (4 + 42) := by
    apply Array.ext'
    simp [l1]
    exact (List.take_of_length_le (by omega)).symm
  refine ⟨A, c, fa.toArray, ?_, ?_, ?_, by simpa using l1, by simpa using s4, ?_⟩
  · rw [ea]; rfl
  · rw [ea]; rfl
  · rw [ea]; exact ha
  · rw [← Array.all_toList, List.all_eq_true]; exact h1
def culetref15_Few.f (a0_0 : ByteArray) (a0_1 : Int) (a0_2 : Bool) (l0_3 : List (S51)) : Option (Bool) := some (few15 a0_0 l0_3)
set_option maxHeartbeats 8000000 in
set_option maxRecDepth 100000 in
theorem culetref15_Few.calls (a0_0 : ByteArray) (a0_1 : Int) (a0_2 : Bool) (A0_3 : Option Addr) (c0_3 : Nat) (l0_3 : List (S51)) (r : Bool) (w : World) (hr0_3 : Kd.C k51 w A0_3 l0_3.length l0_3) (hc0_3 : l0_3.length ≤ c0_3) (h : culetref15_Few.f a0_0 a0_1 a0_2 l0_3 = some r) :
    Calls Try.prog 24 #[.agg #[.string a0_0, .int .i64 a0_1, .bool a0_2, .slice A0_3 l0_3.length c0_3]] w fun e w' => e = .returned (.bool r) ∧ Below w.heap.size w w' := by
  unfold culetref15_Few.f few15 at h
  injection h with h
  have hbig : l0_3.length ≤ 9223372036854775807 := hr0_3.2.1
  have HAT := Aside0.mk (show ∀ i, i < l0_3.length → l0_3.getD i z51 ∈ l0_3 from fun i hi => by rw [List.getD_eq_getElem?_getD, List.getElem?_eq_getElem hi]; exact List.getElem_mem hi)
  have HTK := Aside0.mk (show ∀ i, i < l0_3.length → (l0_3.take i).all fewT = true → fewT (l0_3.getD i z51) = true → (l0_3.take (i + 1)).all fewT = true from fun i hi h1 h2 => by
    rw [List.take_add_one, List.all_append, h1, List.getElem?_eq_getElem hi]
    rw [List.getD_eq_getElem?_getD, List.getElem?_eq_getElem hi] at h2
    simpa using h2)
  have HNO := Aside0.mk (show ∀ i, i < l0_3.length → fewT (l0_3.getD i z51) = false → l0_3.all fewT = false from fun i hi h1 => List.all_eq_false.2 ⟨_, HAT.out i hi, by rw [h1]; decide⟩)
  have HYES := Aside0.mk (show (l0_3.take l0_3.length).all fewT = true → l0_3.all fewT = true from fun h => by rwa [List.take_length] at h)
  clear HAT
  obtain ⟨n, hn⟩ : ∃ n, n = l0_3.length := ⟨_, rfl⟩
  rw [← hn] at hr0_3 hbig HTK HNO HYES h ⊢
  have HC := Aside0.mk hr0_3
  have H := Aside0.mk h
  clear hr0_3 hc0_3 hn h
  by_cases c1 : a0_0.size ≤ 60
  case neg =>
    have b1 : decide (60 < (a0_0.size : Int)) = true := decide_eq_true (by omega)
    have hr : r = false := by rw [← H.out]; simp [c1]
    subst hr
    clear H
    go_enter Try.func24, Try.ntmps24
    go_wp2_with ((with_reducible refine gate_dst (N := 1) rfl ?_); refine box_event ?hg (N := 1) ?hd (cs := #[.string a0_0, .int .i64 a0_1, .bool a0_2, .slice A0_3 n c0_3]) (t := 36) ?hr ?_; (case hd => rfl); (case hg => rfl); (case hr => first | (go_simp; done) | (go_simp; rfl)); intro ga hga w1 hbox hb1; have BW := Aside0.mk hb1; have BA := Aside0.mk hbox; have z0 := (blk_cell BA.out 0).trans rfl; have z3 := (blk_cell BA.out 3).trans rfl; clear hga hb1 hbox)
    go_ret
    exact ⟨rfl, BW.out⟩
  case pos =>
    have b1 : decide (60 < (a0_0.size : Int)) = false := decide_eq_false (by omega)
    by_cases c2 : n ≤ 22
    case neg =>
      have b2 : decide (22 < (n : Int)) = true := decide_eq_true (by omega)
      have hr : r = false := by rw [← H.out]; simp [c2]
      subst hr
      clear H
      go_enter Try.func24, Try.ntmps24
      go_wp2_with ((with_reducible refine gate_dst (N := 1) rfl ?_); refine box_event ?hg (N := 1) ?hd (cs := #[.string a0_0, .int .i64 a0_1, .bool a0_2, .slice A0_3 n c0_3]) (t := 36) ?hr ?_; (case hd => rfl); (case hg => rfl); (case hr => first | (go_simp; done) | (go_simp; rfl)); intro ga hga w1 hbox hb1; have BW := Aside0.mk hb1; have BA := Aside0.mk hbox; have z0 := (blk_cell BA.out 0).trans rfl; have z3 := (blk_cell BA.out 3).trans rfl; clear hga hb1 hbox)
      go_ret
      exact ⟨rfl, BW.out⟩
    case pos =>
      have b2 : decide (22 < (n : Int)) = false := decide_eq_false (by omega)
      have H2 := Aside0.mk (show l0_3.all fewT = r by rw [← H.out]; simp [c1, c2])
      clear H c1 c2
      go_enter Try.func24, Try.ntmps24
      go_wp2_with ((with_reducible refine gate_dst (N := 1) rfl ?_); refine box_event ?hg (N := 1) ?hd (cs := #[.string a0_0, .int .i64 a0_1, .bool a0_2, .slice A0_3 n c0_3]) (t := 36) ?hr ?_; (case hd => rfl); (case hg => rfl); (case hr => first | (go_simp; done) | (go_simp; rfl)); intro ga hga w1 hbox hb1; have BW := Aside0.mk hb1; have BA := Aside0.mk hbox; have z0 := (blk_cell BA.out 0).trans rfl; have z3 := (blk_cell BA.out 3).trans rfl; clear hga hb1 hbox)
      go_loopg [3] n (fun gg v3 wr => ∃ i : Nat, i ≤ n ∧ n - i ≤ gg ∧ v3 = .int .i64 i ∧ Aside0 ((l0_3.take i).all fewT = true) ∧ Aside0 (Below w1.heap.size w1 wr))
      case atStart => exact ⟨0, Nat.zero_le _, by omega, rfl, ⟨by simp⟩, ⟨Below.refl _ _⟩⟩
      case round =>
        obtain ⟨i, hi, hgg, rfl, HALL, HR⟩ := hrel
        have p0 : (0 : Int) ≤ (i : Int) := by omega
        have y3 : wr.cell? ⟨ga, 3, none⟩ = some (.slice A0_3 n c0_3) := (blk_cell ((HR.out.block ga (blk_lt BA.out)).trans BA.out) 3).trans rfl
        by_cases hlt : i < n
        · have hltz : (i : Int) < (n : Int) := by omega
          have hd := decide_eq_true hltz
          have hbw := below_then BW.out BW.out.size HR.out
          obtain ⟨ad, tc, e1, hs1, hK, hcA⟩ := row_elem (Kd.C_below HC.out hbw) z51 i hlt
          cases e1
          obtain ⟨x, hx⟩ : ∃ x, x = l0_3.getD i z51 := ⟨_, rfl⟩
          rw [← hx] at hK
          have HX := Aside0.mk hx
          obtain ⟨A, c, fc, t0, t3, tf, fs, hKf, h1⟩ := tier_cells hK
          have HT0 := Aside0.mk t0
          have HT3 := Aside0.mk t3
          have HTF := Aside0.mk tf
          have HFS := Aside0.mk fs
          have H1 := Aside0.mk h1
          have HF := Aside0.mk (fewFix_ hKf)
          have HCA := Aside0.mk hcA
          have HS1 := Aside0.mk (show tc.size = 46 from hs1)
          clear hK hcA hs1 hbw hx t0 t3 tf fs h1 hKf
          by_cases d1 : x.f0.size ≤ 60
          case neg =>
            have q1 : decide (60 < (x.f0.size : Int)) = true := decide_eq_true (by omega)
            have hr : r = false := by rw [← H2.out]; exact HNO.out i hlt (by rw [← HX.out]; simp [fewT, d1])
            subst hr
            go_wp2_with (first | ((with_reducible refine gate_load (T := 51) rfl ?_); refine ev_cells 51 _ 46 tc rfl rfl Try.underlying51 rfl (by kernel_rfl) HS1.out rfl HCA.out ?_) | ((with_reducible refine gate_dst (N := 4) rfl ?_); refine box_event ?hg (N := 4) ?hd (cs := Z51) (t := 51) ?hr ?_; (case hd => rfl); (case hg => rfl); (case hr => first | (go_simp; done) | (go_simp; rfl)); intro gt hgt w2 hbox hb2; have BR := Aside0.mk hb2; have BT := Aside0.mk hbox; have GT := Aside0.mk (Nat.le_of_eq hgt.symm); clear hgt hbox hb2) | ((with_reducible refine gate_store (T := 51) rfl ?_); refine ev_store (g := gt) (t := 51) (old := Z51) (cells := tc) rfl rfl rfl rfl BT.out (by rw [HS1.out]; rfl) (by rw [HS1.out]; kernel_rfl) H1.out ?_; intro w5 hb2 hg2 hs2; replace BR := Aside0.mk (Below.grown BR.out hg2 BR.out.size (fun k hk => by injection hk with hk; subst hk; exact GT.out)); replace BT := Aside0.mk hb2; have u0 := (blk_cell hb2 0).trans HT0.out; have u3 := (blk_cell hb2 3).trans HT3.out; clear hb2 hg2 hs2) | ((with_reducible refine gate_load (T := 49) rfl ?_); (try refine gate_guard (by rfl) ?_); refine ev_cells 49 _ 42 fc rfl rfl Try.underlying49 rfl (by kernel_rfl) HFS.out rfl (part_cells 4 42 BT.out HTF.out) ?_) | (go_at_call 59; refine (HF.out _ BR.out).mono ?_; rintro e w6 ⟨rfl, hb6⟩; replace BR := Aside0.mk (below_then BR.out BR.out.size hb6); clear hb6 u0 u3))
            go_ret
            exact ⟨rfl, below_then BW.out BW.out.size (below_then HR.out HR.out.size BR.out)⟩
          case pos =>
            have q1 : decide (60 < (x.f0.size : Int)) = false := decide_eq_false (by omega)
            by_cases d2 : x.f3.length ≤ 26
            case neg =>
              have q2 : decide (26 < (x.f3.length : Int)) = true := decide_eq_true (by omega)
              have hr : r = false := by rw [← H2.out]; exact HNO.out i hlt (by rw [← HX.out]; simp [fewT, d2])
              subst hr
              go_wp2_with (first | ((with_reducible refine gate_load (T := 51) rfl ?_); refine ev_cells 51 _ 46 tc rfl rfl Try.underlying51 rfl (by kernel_rfl) HS1.out rfl HCA.out ?_) | ((with_reducible refine gate_dst (N := 4) rfl ?_); refine box_event ?hg (N := 4) ?hd (cs := Z51) (t := 51) ?hr ?_; (case hd => rfl); (case hg => rfl); (case hr => first | (go_simp; done) | (go_simp; rfl)); intro gt hgt w2 hbox hb2; have BR := Aside0.mk hb2; have BT := Aside0.mk hbox; have GT := Aside0.mk (Nat.le_of_eq hgt.symm); clear hgt hbox hb2) | ((with_reducible refine gate_store (T := 51) rfl ?_); refine ev_store (g := gt) (t := 51) (old := Z51) (cells := tc) rfl rfl rfl rfl BT.out (by rw [HS1.out]; rfl) (by rw [HS1.out]; kernel_rfl) H1.out ?_; intro w5 hb2 hg2 hs2; replace BR := Aside0.mk (Below.grown BR.out hg2 BR.out.size (fun k hk => by injection hk with hk; subst hk; exact GT.out)); replace BT := Aside0.mk hb2; have u0 := (blk_cell hb2 0).trans HT0.out; have u3 := (blk_cell hb2 3).trans HT3.out; clear hb2 hg2 hs2) | ((with_reducible refine gate_load (T := 49) rfl ?_); (try refine gate_guard (by rfl) ?_); refine ev_cells 49 _ 42 fc rfl rfl Try.underlying49 rfl (by kernel_rfl) HFS.out rfl (part_cells 4 42 BT.out HTF.out) ?_) | (go_at_call 59; refine (HF.out _ BR.out).mono ?_; rintro e w6 ⟨rfl, hb6⟩; replace BR := Aside0.mk (below_then BR.out BR.out.size hb6); clear hb6 u0 u3))
              go_ret
              exact ⟨rfl, below_then BW.out BW.out.size (below_then HR.out HR.out.size BR.out)⟩
            case pos =>
              have q2 : decide (26 < (x.f3.length : Int)) = false := decide_eq_false (by omega)
              obtain ⟨bx, hbx⟩ : ∃ bx, bx = fewFixB x.f4 := ⟨_, rfl⟩
              rw [← hbx] at HF
              cases bx with
              | false =>
                have hr : r = false := by rw [← H2.out]; exact HNO.out i hlt (by rw [← HX.out]; simp [fewT, ← hbx])
                subst hr
                clear hbx
                go_wp2_with (first | ((with_reducible refine gate_load (T := 51) rfl ?_); refine ev_cells 51 _ 46 tc rfl rfl Try.underlying51 rfl (by kernel_rfl) HS1.out rfl HCA.out ?_) | ((with_reducible refine gate_dst (N := 4) rfl ?_); refine box_event ?hg (N := 4) ?hd (cs := Z51) (t := 51) ?hr ?_; (case hd => rfl); (case hg => rfl); (case hr => first | (go_simp; done) | (go_simp; rfl)); intro gt hgt w2 hbox hb2; have BR := Aside0.mk hb2; have BT := Aside0.mk hbox; have GT := Aside0.mk (Nat.le_of_eq hgt.symm); clear hgt hbox hb2) | ((with_reducible refine gate_store (T := 51) rfl ?_); refine ev_store (g := gt) (t := 51) (old := Z51) (cells := tc) rfl rfl rfl rfl BT.out (by rw [HS1.out]; rfl) (by rw [HS1.out]; kernel_rfl) H1.out ?_; intro w5 hb2 hg2 hs2; replace BR := Aside0.mk (Below.grown BR.out hg2 BR.out.size (fun k hk => by injection hk with hk; subst hk; exact GT.out)); replace BT := Aside0.mk hb2; have u0 := (blk_cell hb2 0).trans HT0.out; have u3 := (blk_cell hb2 3).trans HT3.out; clear hb2 hg2 hs2) | ((with_reducible refine gate_load (T := 49) rfl ?_); (try refine gate_guard (by rfl) ?_); refine ev_cells 49 _ 42 fc rfl rfl Try.underlying49 rfl (by kernel_rfl) HFS.out rfl (part_cells 4 42 BT.out HTF.out) ?_) | (go_at_call 59; refine (HF.out _ BR.out).mono ?_; rintro e w6 ⟨rfl, hb6⟩; replace BR := Aside0.mk (below_then BR.out BR.out.size hb6); clear hb6 u0 u3))
                go_ret
                exact ⟨rfl, below_then BW.out BW.out.size (below_then HR.out HR.out.size BR.out)⟩
              | true =>
                have HA2 := Aside0.mk (HTK.out i hlt HALL.out (by rw [← HX.out]; simp [fewT, ← hbx, d1, d2]))
                clear hbx d1 d2
                go_wp2_with (first | ((with_reducible refine gate_load (T := 51) rfl ?_); refine ev_cells 51 _ 46 tc rfl rfl Try.underlying51 rfl (by kernel_rfl) HS1.out rfl HCA.out ?_) | ((with_reducible refine gate_dst (N := 4) rfl ?_); refine box_event ?hg (N := 4) ?hd (cs := Z51) (t := 51) ?hr ?_; (case hd => rfl); (case hg => rfl); (case hr => first | (go_simp; done) | (go_simp; rfl)); intro gt hgt w2 hbox hb2; have BR := Aside0.mk hb2; have BT := Aside0.mk hbox; have GT := Aside0.mk (Nat.le_of_eq hgt.symm); clear hgt hbox hb2) | ((with_reducible refine gate_store (T := 51) rfl ?_); refine ev_store (g := gt) (t := 51) (old := Z51) (cells := tc) rfl rfl rfl rfl BT.out (by rw [HS1.out]; rfl) (by rw [HS1.out]; kernel_rfl) H1.out ?_; intro w5 hb2 hg2 hs2; replace BR := Aside0.mk (Below.grown BR.out hg2 BR.out.size (fun k hk => by injection hk with hk; subst hk; exact GT.out)); replace BT := Aside0.mk hb2; have u0 := (blk_cell hb2 0).trans HT0.out; have u3 := (blk_cell hb2 3).trans HT3.out; clear hb2 hg2 hs2) | ((with_reducible refine gate_load (T := 49) rfl ?_); (try refine gate_guard (by rfl) ?_); refine ev_cells 49 _ 42 fc rfl rfl Try.underlying49 rfl (by kernel_rfl) HFS.out rfl (part_cells 4 42 BT.out HTF.out) ?_) | (go_at_call 59; refine (HF.out _ BR.out).mono ?_; rintro e w6 ⟨rfl, hb6⟩; replace BR := Aside0.mk (below_then BR.out BR.out.size hb6); clear hb6 u0 u3))
                go_roundg (n - (i + 1))
                case measure => omega
                case rel => exact ⟨i + 1, by omega, by omega, by go_num, HA2, ⟨below_then HR.out HR.out.size BR.out⟩⟩
        · obtain rfl : i = n := by omega
          have hd : decide ((i : Int) < (i : Int)) = false := decide_eq_false (by omega)
          have hr : r = true := by rw [← H2.out]; exact HYES.out HALL.out
          subst hr
          go_wp2
          go_ret
          exact ⟨rfl, below_then BW.out BW.out.size HR.out⟩
end Go.Proofs.Ytncemdpmooakgaa.XK
