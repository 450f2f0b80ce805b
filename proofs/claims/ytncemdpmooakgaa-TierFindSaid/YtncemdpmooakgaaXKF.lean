-- printed by xprint.py
import Derived.Test.YtncemdpmooakgaaXK0
import Derived.Test.YtncemdpmooakgaaXH
namespace Go.Proofs.Ytncemdpmooakgaa.XK
open Go.Proofs.Ytncemdpmooakgaa.XW
open Go.RowKit Go.Proofs.YtncemdpmooakgaaW.PrintWords Go.Proofs.YtncemdpmooakgaaW.PrintLast Go.Proofs.YtncemdpmooakgaaW.PrintMore
attribute [local go_sem] max2_int min2_int max_two min_two max_three min_three max_four min_four   -- for this text's walks alone
set_option linter.unusedVariables false
set_option linter.unusedSimpArgs false

open Go.Proofs.Ytncemdpmooakgaa.XH
set_option maxHeartbeats 4000000 in
set_option maxRecDepth 100000 in
theorem IndexFunc60 (g : Nat) (lb : Array Value) (eg : ∀ args w, (callFunc g args).run Try.prog w = .ok (.enter g args) w) (p : S73 → Bool) (A0 : Option Addr) (c0 : Nat) (l0 : List S73) (w : World) (hr0 : Kd.C k73 w A0 l0.length l0) (hc0 : l0.length ≤ c0) (hp : PredK Try.prog g lb k73 agg p w) :
    Calls Try.prog 60 #[.slice A0 l0.length c0, .func (.func g) #[] lb] w fun e w' => e = .returned (.int .i64 (idx p l0 0)) ∧ Below w.heap.size w w' := by
  have hbig : l0.length ≤ 9223372036854775807 := hr0.2.1
  have HR0 := Aside0.mk hr0
  have HP := Aside0.mk hp
  clear hr0 hp hc0
  obtain ⟨n, hn⟩ : ∃ n, n = l0.length := ⟨_, rfl⟩
  rw [← hn] at hbig
  have hr1 := HR0.out
  rw [← hn] at hr1 ⊢
  have HR := Aside0.mk hr1
  have HN := Aside0.mk hn
  clear hn hr1 HR0
  go_enter Try.func60, Try.ntmps60
  go_wp2
  go_loopg [5, 8] n (fun gg _ s8 wr => ∃ kk : Nat, kk ≤ n ∧ n - kk ≤ gg ∧ s8 = .int .i64 kk ∧ Aside0 (Below w.heap.size w wr) ∧ Aside0 (∀ j, j < kk → p (l0.getD j z73) = false))
  case atStart => exact ⟨0, Nat.zero_le _, by omega, rfl, ⟨Below.refl _ w⟩, ⟨fun j hj => absurd hj (Nat.not_lt_zero _)⟩⟩
  case round =>
    obtain ⟨kk, hkk, hg, rfl, BW, A⟩ := hrel
    by_cases hlt : kk < n
    · have hltz : (kk : Int) < (n : Int) := by omega
      have p0 : (0 : Int) ≤ (kk : Int) := by omega
      obtain ⟨ad, rfl, hx0, hx1, hx2, hx3, hx4, hx5, hx6, hx7, hx8, hx9, hx10, hx11, hx12, hx13⟩ := at_T73 (Kd.C_below HR.out BW.out) (kk : Int) p0 hltz
      simp only [Int.toNat_natCast] at hx0 hx1 hx2 hx3 hx4 hx5 hx6 hx7 hx8 hx9 hx10 hx11 hx12 hx13
      have hcall : Calls Try.prog g (#[agg _] ++ lb) wr fun e w' => e = .returned (.bool (p (rd_T73 l0 (kk : Int)))) ∧ Below wr.heap.size wr w' := HP.out wr (rd_T73 l0 (kk : Int)) _ BW.out (k73_mk wr _)
      cases hq : p (rd_T73 l0 (kk : Int)) with
      | true =>
        rw [hq] at hcall
        have HQ := Aside0.mk hq
        have HH := Aside0.mk hcall
        clear hcall hq
        go_wp2_with (go_at_fn g; refine HH.out.mono ?_; rintro e w' ⟨rfl, hb'⟩)
        go_ret
        refine ⟨?_, below_then BW.out BW.out.size hb'⟩
        have := idx_hit p z73 l0 kk 0 (by rw [← HN.out]; exact hlt) A.out HQ.out
        rw [this, Int.zero_add]; rfl
      | false =>
        rw [hq] at hcall
        have HQ := Aside0.mk hq
        have HH := Aside0.mk hcall
        clear hcall hq
        go_wp2_with (go_at_fn g; refine HH.out.mono ?_; rintro e w' ⟨rfl, hb'⟩)
        go_roundg (n - (kk + 1))
        case measure => omega
        case rel =>
          refine ⟨kk + 1, by omega, by omega, by go_num, ⟨below_then BW.out BW.out.size hb'⟩, ⟨fun j hj => ?_⟩⟩
          by_cases e : j = kk
          · subst e; exact HQ.out
          · exact A.out j (by omega)
    · have hltz : ¬ (kk : Int) < (n : Int) := by omega
      obtain rfl : kk = n := by omega
      go_wp2
      go_ret
      refine ⟨?_, BW.out⟩
      rw [idx_miss p z73 l0 0 (by rw [← HN.out]; exact A.out)]; rfl

end Go.Proofs.Ytncemdpmooakgaa.XK
