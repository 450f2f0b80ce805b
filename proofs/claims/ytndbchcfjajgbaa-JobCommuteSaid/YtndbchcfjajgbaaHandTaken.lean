/- job.taken, walked: is there an open item of a piece. -/
import Derived.Test.YtndbchcfjajgbaaXB
import Derived.Test.YtndbchcfjajgbaaXP0
import Derived.Test.YtndbchcfjajgbaaXH
import Derived.Test.YtndbchcfjajgbaaXPF
namespace Go.Proofs.Ytndbchcfjajgbaa.XP
open Go.Proofs.Ytndbchcfjajgbaa.XB Go.Proofs.Ytndbchcfjajgbaa.XQ
open Go.RowKit Go.Proofs Go.Proofs.YtndbchcfjajgbaaW.PrintWords Go.Proofs.YtndbchcfjajgbaaW.PrintLast Go.Proofs.Ytndbchcfjajgbaa.XH
set_option linter.unusedVariables false
set_option linter.unusedSimpArgs false
def isTaken (s : ByteArray) (x : S99) : Bool := x.f1 == 1 && x.f0.f1.toList == s.toList
set_option maxHeartbeats 4000000 in
set_option maxRecDepth 100000 in
theorem cl118 (s : ByteArray) (g : Nat) (w : World) (hg : w.heap[g]? = some (.cells #[.string s] 9 (0, 0))) : PredK Try.prog 118 #[.pointer (some ⟨g, 0, none⟩)] k99 agg (isTaken s) w := by
  intro W x cs hb hK
  have hc0 : W.cell? ⟨g, 0, none⟩ = some (.string s) := (hb.cell (p := ⟨g, 0, none⟩) (blk_lt hg)).trans (blk_cell hg 0)
  have hlt : g < W.heap.size := Nat.lt_of_lt_of_le (blk_lt hg) hb.size
  obtain rfl := k99_open hK
  show Calls Try.prog 118 #[.agg #[.string x.f0.f0, .string x.f0.f1, .string x.f0.f2, .int .i64 x.f0.f3, .int .i64 x.f0.f4, .int .i64 x.f1, .int .i64 x.f2, .int .i64 x.f3, .int .i64 x.f4, .string x.f5.f0, .string x.f5.f1, .int .i64 x.f5.f2, .int .i64 x.f5.f3], .pointer (some ⟨g, 0, none⟩)] W _
  clear hK hg hb
  have HL := Aside0.mk hlt
  have HC0 := Aside0.mk hc0
  clear hlt hc0
  unfold isTaken
  cases e0 : (x.f1 == 1)
  · go_enter Try.func118, Try.ntmps118
    go_wp2_with (((with_reducible refine gate_dst (N := 2) rfl ?_); refine bx_ (N := 2) (cs := #[.string x.f0.f0, .string x.f0.f1, .string x.f0.f2, .int .i64 x.f0.f3, .int .i64 x.f0.f4, .int .i64 x.f1, .int .i64 x.f2, .int .i64 x.f3, .int .i64 x.f4, .string x.f5.f0, .string x.f5.f1, .int .i64 x.f5.f2, .int .i64 x.f5.f3]) (t := 99) ?_; intro gb hgb w1 hbox hb1; have BW0 := Aside0.mk hb1; have k5 := (blk_cell hbox 5).trans rfl; have k1 := (blk_cell hbox 1).trans rfl; have kc := (hb1.cell (p := ⟨g, 0, none⟩) HL.out).trans HC0.out; clear hgb hbox hb1))
    go_ret
    exact ⟨by simp, BW0.out⟩
  · cases e1 : (x.f0.f1.toList == s.toList)
    all_goals
      go_enter Try.func118, Try.ntmps118
      go_wp2_with (((with_reducible refine gate_dst (N := 2) rfl ?_); refine bx_ (N := 2) (cs := #[.string x.f0.f0, .string x.f0.f1, .string x.f0.f2, .int .i64 x.f0.f3, .int .i64 x.f0.f4, .int .i64 x.f1, .int .i64 x.f2, .int .i64 x.f3, .int .i64 x.f4, .string x.f5.f0, .string x.f5.f1, .int .i64 x.f5.f2, .int .i64 x.f5.f3]) (t := 99) ?_; intro gb hgb w1 hbox hb1; have BW0 := Aside0.mk hb1; have k5 := (blk_cell hbox 5).trans rfl; have k1 := (blk_cell hbox 1).trans rfl; have kc := (hb1.cell (p := ⟨g, 0, none⟩) HL.out).trans HC0.out; clear hgb hbox hb1))
      go_ret
      exact ⟨by simp, BW0.out⟩
def job_taken.f (l0 : List (S99)) (a1 : ByteArray) : Option (Bool) := some (l0.any (isTaken a1))
set_option maxHeartbeats 4000000 in
theorem job_taken.calls (A0 : Option Addr) (c0 : Nat) (l0 : List (S99)) (a1 : ByteArray) (r : Bool) (w : World) (hr0 : Kd.C k99 w A0 l0.length l0) (hc0 : l0.length ≤ c0) (h : job_taken.f l0 a1 = some r) :
    Calls Try.prog 94 #[.slice A0 l0.length c0, .string a1] w fun e w' => e = .returned (.bool r) ∧ Below w.heap.size w w' := by
  have eg := enters_of Try.func118 t_8e rfl
  have HF := Aside0.mk (fun (g : Nat) (w1 : World) (hb : Below w.heap.size w w1) (hg : w1.heap[g]? = some (.cells #[.string a1] 9 (0, 0))) => ContainsFunc117 118 #[.pointer (some ⟨g, 0, none⟩)] eg (isTaken a1) A0 c0 l0 w1 (Kd.C_below hr0 hb) hc0 (cl118 a1 g w1 hg))
  unfold job_taken.f at h
  injection h with h
  rw [h] at HF
  clear hr0 hc0 eg h
  obtain ⟨n, hn⟩ : ∃ n, n = l0.length := ⟨_, rfl⟩
  rw [← hn] at HF ⊢
  clear hn
  go_enter Try.func94, Try.ntmps94
  go_wp2_with (first | ((with_reducible refine gate_dst (N := 3) rfl ?_); refine bx_ (N := 3) (cs := #[.string a1]) (t := 9) ?_; intro gb hgb w1 hbox hb1; have BW0 := Aside0.mk hb1; have BK := Aside0.mk hbox; clear hgb hbox hb1) | (go_at_call 117; (with_reducible refine (HF.out gb _ BW0.out BK.out).mono ?_); rintro e w3 ⟨rfl, hb3⟩; have BW3 := Aside0.mk (below_then BW0.out BW0.out.size hb3); clear hb3))
  go_ret
  exact ⟨rfl, BW3.out⟩
end Go.Proofs.Ytndbchcfjajgbaa.XP
