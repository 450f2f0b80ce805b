/- tariff.right, walked. -/
import Derived.Test.YtndbchcfjajgbaaXP0
import Derived.Test.YtndbchcfjajgbaaXH
import Derived.Test.YtndbchcfjajgbaaXPF
import Derived.Test.YtndbchcfjajgbaaXP8
namespace Go.Proofs.Ytndbchcfjajgbaa.XP
open Go.RowKit Go.Proofs Go.Proofs.YtndbchcfjajgbaaW.PrintWords Go.Proofs.YtndbchcfjajgbaaW.PrintLast Go.Proofs.Ytndbchcfjajgbaa.XH
set_option linter.unusedVariables false
set_option linter.unusedSimpArgs false
def badW (x : Int) : Bool := decide (x < 0) || decide (1000000 < x)
set_option maxHeartbeats 4000000 in
theorem cl127 (w : World) : PredK Try.prog 127 #[] (Kd.int .i64) one badW w := by
  intro W x cs hb hK
  obtain rfl : cs = [.int .i64 x] := hK
  show Calls Try.prog 127 #[.int .i64 x] W _
  clear hb
  unfold badW
  by_cases h1 : x < 0
  · have h1b : decide (x < 0) = true := decide_eq_true h1
    go_enter Try.func127, Try.ntmps127
    go_wp2
    repeat (go_quiet (fail)); try go_wp2
    go_ret
    exact ⟨by simp [h1b], by repeat (first | exact Below.refl _ _ | apply pw_below_drewN | apply below_drew1)⟩
  · have h1b : decide (x < 0) = false := decide_eq_false h1
    go_enter Try.func127, Try.ntmps127
    go_wp2
    repeat (go_quiet (fail)); try go_wp2
    go_ret
    exact ⟨by simp [h1b], by repeat (first | exact Below.refl _ _ | apply pw_below_drewN | apply below_drew1)⟩
def tariff_right.f (a0_0 : ByteArray) (l0_1 : List (S139)) (l1 : List Int) : Option (Int) :=
  (tariff_Valid.f (l0_1.length + 1) a0_0 l0_1).bind fun b => some (if b = false then 1 else if l1.any badW = true then 2 else 0)
set_option maxHeartbeats 4000000 in
theorem tariff_right.calls (a0_0 : ByteArray) (A0_1 : Option Addr) (c0_1 : Nat) (l0_1 : List (S139)) (A1 : Option Addr) (c1 : Nat) (l1 : List Int) (r : Int) (w : World) (hr0_1 : Kd.C k139 w A0_1 l0_1.length l0_1) (hc0_1 : l0_1.length ≤ c0_1) (hr1 : Kd.C (Kd.int .i64) w A1 l1.length l1) (hc1 : l1.length ≤ c1) (h : tariff_right.f a0_0 l0_1 l1 = some r) :
    Calls Try.prog 108 #[.agg #[.string a0_0, .slice A0_1 l0_1.length c0_1], .slice A1 l1.length c1] w fun e w' => e = .returned (.int .i64 r) ∧ Below w.heap.size w w' := by
  unfold tariff_right.f at h
  cases hv : tariff_Valid.f (l0_1.length + 1) a0_0 l0_1 with
  | none => rw [hv] at h; cases h
  | some b =>
    rw [hv, Option.bind_some] at h
    injection h with h
    have eg := enters_of Try.func127 (by kernel_rfl) rfl
    have HV := Aside0.mk (fun (w1 : World) (hb : Below w.heap.size w w1) => tariff_Valid.calls (l0_1.length + 1) a0_0 A0_1 c0_1 l0_1 b w1 (Kd.C_below hr0_1 hb) hc0_1 hv)
    have HF := Aside0.mk (fun (w1 : World) (hb : Below w.heap.size w w1) => ContainsFunc126 127 #[] eg badW A1 c1 l1 w1 (Kd.C_below hr1 hb) hc1 (cl127 w1))
    clear hr0_1 hc0_1 hr1 hc1 eg hv
    obtain ⟨q, hq⟩ : ∃ q, q = l1.any badW := ⟨_, rfl⟩
    rw [← hq] at HF h
    clear hq
    obtain ⟨n, hn⟩ : ∃ n, n = l0_1.length := ⟨_, rfl⟩
    rw [← hn] at HV ⊢
    obtain ⟨m, hm⟩ : ∃ m, m = l1.length := ⟨_, rfl⟩
    rw [← hm] at HF ⊢
    clear hn hm
    subst h
    cases b
    · go_enter Try.func108, Try.ntmps108
      go_wp2_with (first | ((with_reducible refine gate_dst (N := 2) rfl ?_); refine box_event ?hg (N := 2) ?hd (cs := #[.string a0_0, .slice A0_1 n c0_1]) (t := 61) ?hr ?_; (case hd => rfl); (case hg => rfl); (case hr => first | (go_simp; done) | (go_simp; rfl)); intro gb hgb w1 hbox hb1; have BW0 := Aside0.mk hb1; have k0 := (blk_cell hbox 0).trans rfl; have k1 := (blk_cell hbox 1).trans rfl; clear hgb hbox hb1) | (go_at_call 80; refine (HV.out _ BW0.out).mono ?_; rintro e w3 ⟨rfl, hb3⟩; replace BW0 := Aside0.mk (below_then BW0.out BW0.out.size hb3); clear hb3 k0 k1))
      go_ret
      exact ⟨rfl, BW0.out⟩
    · cases q
      all_goals
        go_enter Try.func108, Try.ntmps108
        go_wp2_with (first | ((with_reducible refine gate_dst (N := 2) rfl ?_); refine box_event ?hg (N := 2) ?hd (cs := #[.string a0_0, .slice A0_1 n c0_1]) (t := 61) ?hr ?_; (case hd => rfl); (case hg => rfl); (case hr => first | (go_simp; done) | (go_simp; rfl)); intro gb hgb w1 hbox hb1; have BW0 := Aside0.mk hb1; have k0 := (blk_cell hbox 0).trans rfl; have k1 := (blk_cell hbox 1).trans rfl; clear hgb hbox hb1) | (go_at_call 80; refine (HV.out _ BW0.out).mono ?_; rintro e w3 ⟨rfl, hb3⟩; replace BW0 := Aside0.mk (below_then BW0.out BW0.out.size hb3); clear hb3 k0 k1) | (go_at_call 126; refine (HF.out _ BW0.out).mono ?_; rintro e w3 ⟨rfl, hb3⟩; replace BW0 := Aside0.mk (below_then BW0.out BW0.out.size hb3); clear hb3))
        go_ret
        exact ⟨rfl, BW0.out⟩
end Go.Proofs.Ytndbchcfjajgbaa.XP
