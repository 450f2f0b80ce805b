/- tariff.class and tariff.right, walked. -/
import Derived.Test.YtndbchcfjajgbaaXP0
import Derived.Test.YtndbchcfjajgbaaXH
import Derived.Test.YtndbchcfjajgbaaXPF
namespace Go.Proofs.Ytndbchcfjajgbaa.XP
open Go.RowKit Go.Proofs Go.Proofs.YtndbchcfjajgbaaW.PrintWords Go.Proofs.YtndbchcfjajgbaaW.PrintLast Go.Proofs.Ytndbchcfjajgbaa.XH
set_option linter.unusedVariables false
set_option linter.unusedSimpArgs false
/-- Classes that begin above a weight. -/
def above (a : Int) (x : S139) : Bool := decide (a < x.f0)
set_option maxHeartbeats 4000000 in
theorem cl141 (s : Int) (g : Nat) (w : World) (hg : w.heap[g]? = some (.cells #[.int .i64 s] 3 (0, 0))) : PredK Try.prog 141 #[.pointer (some ⟨g, 0, none⟩)] k139 agg (above s) w := by
  intro W x cs hb hK
  have hc0 : W.cell? ⟨g, 0, none⟩ = some (.int .i64 s) := (hb.cell (p := ⟨g, 0, none⟩) (blk_lt hg)).trans (blk_cell hg 0)
  have hlt : g < W.heap.size := Nat.lt_of_lt_of_le (blk_lt hg) hb.size
  obtain rfl := k139_open hK
  show Calls Try.prog 141 #[.agg #[.int .i64 x.f0, .int .i64 x.f1], .pointer (some ⟨g, 0, none⟩)] W _
  clear hK hg hb
  have HL := Aside0.mk hlt
  have HC0 := Aside0.mk hc0
  clear hlt hc0
  unfold above
  go_enter Try.func141, Try.ntmps141
  go_wp2_with ((with_reducible refine gate_dst (N := 2) rfl ?_); refine box_event ?hg (N := 2) ?hd (cs := #[.int .i64 x.f0, .int .i64 x.f1]) (t := 139) ?hr ?_; (case hd => rfl); (case hg => rfl); (case hr => first | (go_simp; done) | (go_simp; rfl)); intro gb hgb w1 hbox hb1; have BW0 := Aside0.mk hb1; have k0 := (blk_cell hbox 0).trans rfl; have k1 := (hb1.cell (p := ⟨g, 0, none⟩) HL.out).trans HC0.out; clear hgb hbox hb1)
  repeat (go_quiet (fail)); try go_wp2
  go_ret
  exact ⟨rfl, by repeat (first | exact BW0.out | apply pw_below_drewN | apply below_drew1)⟩
theorem idx_bound' {α : Type} (p : α → Bool) : ∀ (l : List α) (i : Int), idx p l i = -1 ∨ (i ≤ idx p l i ∧ idx p l i < i + l.length)
  | [], _ => .inl rfl
  | x :: l, i => by
    simp only [idx, List.length_cons]
    split
    · exact .inr ⟨by omega, by omega⟩
    · rcases idx_bound' p l (i + 1) with h | ⟨h1, h2⟩
      · exact .inl h
      · exact .inr ⟨by omega, by omega⟩
def tariff_class.f (a0_0 : ByteArray) (l0_1 : List (S139)) (a1 : Int) : Option (Int) :=
  some (if idx (above a1) l0_1 0 < 0 then (l0_1.length : Int) - 1 else idx (above a1) l0_1 0 - 1)
set_option maxHeartbeats 4000000 in
theorem tariff_class.calls (a0_0 : ByteArray) (A0_1 : Option Addr) (c0_1 : Nat) (l0_1 : List (S139)) (a1 : Int) (r : Int) (w : World) (hr0_1 : Kd.C k139 w A0_1 l0_1.length l0_1) (hc0_1 : l0_1.length ≤ c0_1) (h : tariff_class.f a0_0 l0_1 a1 = some r) :
    Calls Try.prog 128 #[.agg #[.string a0_0, .slice A0_1 l0_1.length c0_1], .int .i64 a1] w fun e w' => e = .returned (.int .i64 r) ∧ Below w.heap.size w w' := by
  have eg := enters_of Try.func141 (by kernel_rfl) rfl
  have HF := Aside0.mk (fun (g : Nat) (w1 : World) (hb : Below w.heap.size w w1) (hg : w1.heap[g]? = some (.cells #[.int .i64 a1] 3 (0, 0))) => IndexFunc140 141 #[.pointer (some ⟨g, 0, none⟩)] eg (above a1) A0_1 c0_1 l0_1 w1 (Kd.C_below hr0_1 hb) hc0_1 (cl141 a1 g w1 hg))
  have hbig : l0_1.length ≤ 9223372036854775807 := hr0_1.2.1
  have hbd := idx_bound' (above a1) l0_1 0
  clear hr0_1 hc0_1 eg
  unfold tariff_class.f at h
  injection h with h
  obtain ⟨i, hi⟩ : ∃ i, i = idx (above a1) l0_1 0 := ⟨_, rfl⟩
  rw [← hi] at HF h hbd
  clear hi
  obtain ⟨n, hn⟩ : ∃ n, n = l0_1.length := ⟨_, rfl⟩
  rw [← hn] at HF h hbd hbig ⊢
  clear hn
  subst h
  have hbd' : -1 ≤ i ∧ i < (n : Int) + 1 := by omega
  clear hbd
  by_cases h0 : i < 0
  · rw [if_pos h0]
    have c1b : decide (i < 0) = true := decide_eq_true h0
    go_enter Try.func128, Try.ntmps128
    go_wp2_with (first | ((with_reducible refine gate_dst (N := 2) rfl ?_); refine box_event ?hg (N := 2) ?hd (cs := #[.string a0_0, .slice A0_1 n c0_1]) (t := 61) ?hr ?_; (case hd => rfl); (case hg => rfl); (case hr => first | (go_simp; done) | (go_simp; rfl)); intro gb hgb w1 hbox hb1; have BW0 := Aside0.mk hb1; have BK := Aside0.mk hbox; clear hgb hbox hb1) | ((with_reducible refine gate_dst (N := 3) rfl ?_); refine box_event ?hg (N := 3) ?hd (cs := #[.int .i64 a1]) (t := 3) ?hr ?_; (case hd => rfl); (case hg => rfl); (case hr => first | (go_simp; done) | (go_simp; rfl)); intro gc hgc w1 hbox hb1; replace BK := Aside0.mk ((hb1.block _ (blk_lt BK.out)).trans BK.out); replace BW0 := Aside0.mk (below_then BW0.out BW0.out.size hb1); have BC := Aside0.mk hbox; have k1 := (blk_cell BK.out 1).trans rfl; clear hgc hbox hb1) | (go_at_call 140; refine (HF.out gc _ BW0.out BC.out).mono ?_; rintro e w3 ⟨rfl, hb3⟩; replace BW0 := Aside0.mk (below_then BW0.out BW0.out.size hb3); have k2 := (blk_cell ((hb3.block _ (blk_lt BK.out)).trans BK.out) 1).trans rfl; clear hb3 k1))
    go_ret
    exact ⟨rfl, BW0.out⟩
  · rw [if_neg h0]
    have c1b : decide (i < 0) = false := decide_eq_false h0
    go_enter Try.func128, Try.ntmps128
    go_wp2_with (first | ((with_reducible refine gate_dst (N := 2) rfl ?_); refine box_event ?hg (N := 2) ?hd (cs := #[.string a0_0, .slice A0_1 n c0_1]) (t := 61) ?hr ?_; (case hd => rfl); (case hg => rfl); (case hr => first | (go_simp; done) | (go_simp; rfl)); intro gb hgb w1 hbox hb1; have BW0 := Aside0.mk hb1; have BK := Aside0.mk hbox; clear hgb hbox hb1) | ((with_reducible refine gate_dst (N := 3) rfl ?_); refine box_event ?hg (N := 3) ?hd (cs := #[.int .i64 a1]) (t := 3) ?hr ?_; (case hd => rfl); (case hg => rfl); (case hr => first | (go_simp; done) | (go_simp; rfl)); intro gc hgc w1 hbox hb1; replace BK := Aside0.mk ((hb1.block _ (blk_lt BK.out)).trans BK.out); replace BW0 := Aside0.mk (below_then BW0.out BW0.out.size hb1); have BC := Aside0.mk hbox; have k1 := (blk_cell BK.out 1).trans rfl; clear hgc hbox hb1) | (go_at_call 140; refine (HF.out gc _ BW0.out BC.out).mono ?_; rintro e w3 ⟨rfl, hb3⟩; replace BW0 := Aside0.mk (below_then BW0.out BW0.out.size hb3); clear hb3 k1))
    go_ret
    exact ⟨rfl, BW0.out⟩
end Go.Proofs.Ytndbchcfjajgbaa.XP
