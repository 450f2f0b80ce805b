/- parcel.Find, walked: the first piece with an identifier. -/
import Derived.Test.YtndbchcfjajgbaaXB
import Derived.Test.YtndbchcfjajgbaaXP0
import Derived.Test.YtndbchcfjajgbaaXH
import Derived.Test.YtndbchcfjajgbaaXPF
namespace Go.Proofs.Ytndbchcfjajgbaa.XP
open Go.Proofs.Ytndbchcfjajgbaa.XB Go.Proofs.Ytndbchcfjajgbaa.XQ
open Go.RowKit Go.Proofs Go.Proofs.YtndbchcfjajgbaaW.PrintWords Go.Proofs.YtndbchcfjajgbaaW.PrintLast Go.Proofs.Ytndbchcfjajgbaa.XH
set_option linter.unusedVariables false
set_option linter.unusedSimpArgs false
theorem idx_bound {α : Type} (p : α → Bool) : ∀ (l : List α) (i : Int), idx p l i = -1 ∨ (i ≤ idx p l i ∧ idx p l i < i + l.length)
  | [], _ => .inl rfl
  | x :: l, i => by
    simp only [idx, List.length_cons]
    split
    · exact .inr ⟨by omega, by omega⟩
    · rcases idx_bound p l (i + 1) with h | ⟨h1, h2⟩
      · exact .inl h
      · exact .inr ⟨by omega, by omega⟩
def isId (s : ByteArray) (x : S24) : Bool := x.f0.toList == s.toList
set_option maxHeartbeats 4000000 in
theorem cl79 (s : ByteArray) (g : Nat) (w : World) (hg : w.heap[g]? = some (.cells #[.string s] 9 (0, 0))) : PredK Try.prog 79 #[.pointer (some ⟨g, 0, none⟩)] k24 agg (isId s) w := by
  intro W x cs hb hK
  have hc0 : W.cell? ⟨g, 0, none⟩ = some (.string s) := (hb.cell (p := ⟨g, 0, none⟩) (blk_lt hg)).trans (blk_cell hg 0)
  have hlt : g < W.heap.size := Nat.lt_of_lt_of_le (blk_lt hg) hb.size
  obtain rfl := k24_open hK
  show Calls Try.prog 79 #[.agg #[.string x.f0, .string x.f1, .int .i64 x.f2, .int .i64 x.f3], .pointer (some ⟨g, 0, none⟩)] W _
  clear hK hg hb
  have HL := Aside0.mk hlt
  have HC0 := Aside0.mk hc0
  clear hlt hc0
  unfold isId
  cases e1 : (x.f0.toList == s.toList)
  all_goals
    go_enter Try.func79, Try.ntmps79
    go_wp2_with ((with_reducible refine gate_dst (N := 2) rfl ?_); refine bx_ (N := 2) (cs := #[.string x.f0, .string x.f1, .int .i64 x.f2, .int .i64 x.f3]) (t := 24) ?_; intro gb hgb w1 hbox hb1; have BW0 := Aside0.mk hb1; have k0 := (blk_cell hbox 0).trans rfl; have k1 := (hb1.cell (p := ⟨g, 0, none⟩) HL.out).trans HC0.out; clear hgb hbox hb1)
    go_ret
    exact ⟨by simp, BW0.out⟩
def parcel_Find.f (l0 : List (S24)) (a1 : ByteArray) : Option (ByteArray × ByteArray × Int × Int × Bool) :=
  some (if 0 ≤ idx (isId a1) l0 0 then ((rd_T24 l0 (idx (isId a1) l0 0)).f0, (rd_T24 l0 (idx (isId a1) l0 0)).f1, (rd_T24 l0 (idx (isId a1) l0 0)).f2, (rd_T24 l0 (idx (isId a1) l0 0)).f3, true) else ((⟨#[]⟩ : ByteArray), (⟨#[]⟩ : ByteArray), 0, 0, false))
set_option maxHeartbeats 4000000 in
theorem parcel_Find.calls (A0 : Option Addr) (c0 : Nat) (l0 : List (S24)) (a1 : ByteArray) (r1 : ByteArray) (r2 : ByteArray) (r3 : Int) (r4 : Int) (r5 : Bool) (w : World) (hr0 : Kd.C k24 w A0 l0.length l0) (hc0 : l0.length ≤ c0) (h : parcel_Find.f l0 a1 = some (r1, r2, r3, r4, r5)) :
    Calls Try.prog 26 #[.slice A0 l0.length c0, .string a1] w fun e w' => e = .returned (.tuple #[.agg #[.string r1, .string r2, .int .i64 r3, .int .i64 r4], .bool r5]) ∧ Below w.heap.size w w' := by
  have eg := enters_of Try.func79 t_8e rfl
  have HF := Aside0.mk (fun (g : Nat) (w1 : World) (hb : Below w.heap.size w w1) (hg : w1.heap[g]? = some (.cells #[.string a1] 9 (0, 0))) => IndexFunc78 79 #[.pointer (some ⟨g, 0, none⟩)] eg (isId a1) A0 c0 l0 w1 (Kd.C_below hr0 hb) hc0 (cl79 a1 g w1 hg))
  have HR0 := Aside0.mk hr0
  have hbd := idx_bound (isId a1) l0 0
  clear hr0 hc0 eg
  unfold parcel_Find.f at h
  obtain ⟨i, hi⟩ : ∃ i, i = idx (isId a1) l0 0 := ⟨_, rfl⟩
  rw [← hi] at HF h hbd
  clear hi
  by_cases h0 : 0 ≤ i
  · rw [if_pos h0] at h
    simp only [Option.some.injEq, Prod.mk.injEq] at h
    obtain ⟨rfl, rfl, rfl, rfl, rfl⟩ := h
    have hlt : i < (l0.length : Int) := by omega
    clear hbd
    obtain ⟨ad132, e132, hx0, hx1, hx2, hx3⟩ := at_T24 HR0.out i h0 hlt
    cases e132
    have hx0 := Aside0.mk hx0
    have hx1 := Aside0.mk hx1
    have hx2 := Aside0.mk hx2
    have hx3 := Aside0.mk hx3
    clear HR0
    obtain ⟨x, hx⟩ : ∃ x, x = rd_T24 l0 i := ⟨_, rfl⟩
    rw [← hx] at hx0 hx1 hx2 hx3 ⊢
    clear hx
    obtain ⟨n, hn⟩ : ∃ n, n = l0.length := ⟨_, rfl⟩
    rw [← hn] at HF hlt ⊢
    clear hn
    have c1b : decide (i < 0) = false := decide_eq_false (by omega)
    replace h0 := eq_true h0
    replace hlt := eq_true hlt
    go_enter Try.func26, Try.ntmps26
    go_wp2_with (first | ((with_reducible refine gate_dst (N := 3) rfl ?_); refine bx_ (N := 3) (cs := #[.string a1]) (t := 9) ?_; intro gb hgb w1 hbox hb1; have BW0 := Aside0.mk hb1; have BK := Aside0.mk hbox; clear hgb hbox hb1) | ((with_reducible refine gate_dst (N := 4) rfl ?_); refine bx_ (N := 4) (cs := #[.string (⟨#[]⟩ : ByteArray), .string (⟨#[]⟩ : ByteArray), .int .i64 0, .int .i64 0]) (t := 24) ?_; intro gr hgr w2 hbox2 hb2; have BW1 := Aside0.mk (below_then BW0.out BW0.out.size hb2); have GR := Aside0.mk ((by rw [hgr]; exact BW0.out.size) : w.heap.size ≤ gr); replace BK := Aside0.mk ((hb2.block _ (blk_lt BK.out)).trans BK.out); have BR := Aside0.mk hbox2; clear hgr hbox2 hb2) | (go_at_call 78; refine (HF.out gb _ BW1.out BK.out).mono ?_; rintro e w3 ⟨rfl, hb3⟩; have BW3 := Aside0.mk (below_then BW1.out BW1.out.size hb3); have BR3 := (hb3.block _ (blk_lt BR.out)).trans BR.out; have y0 := (BW3.out.cell (World.block_lt_of_cell? w _ hx0.out)).trans hx0.out; have y1 := (BW3.out.cell (World.block_lt_of_cell? w _ hx1.out)).trans hx1.out; have y2 := (BW3.out.cell (World.block_lt_of_cell? w _ hx2.out)).trans hx2.out; have y3 := (BW3.out.cell (World.block_lt_of_cell? w _ hx3.out)).trans hx3.out; have hcz0 : w3.cell? ⟨gr, 0, none⟩ = some (.string _) := (blk_cell BR3 0).trans rfl; have hcz1 : w3.cell? ⟨gr, 1, none⟩ = some (.string _) := (blk_cell BR3 1).trans rfl; have hcz2 : w3.cell? ⟨gr, 2, none⟩ = some (.int .i64 0) := (blk_cell BR3 2).trans rfl; have hcz3 : w3.cell? ⟨gr, 3, none⟩ = some (.int .i64 0) := (blk_cell BR3 3).trans rfl; have hfz0 := blk_frozen BR3 0; have hfz1 := blk_frozen BR3 1; have hfz2 := blk_frozen BR3 2; have hfz3 := blk_frozen BR3 3; have BR3 := Aside0.mk BR3; clear hb3))
    refine bodyPost_ret (results_ct rfl _ _ gr 24 #[.string x.f0, .string x.f1, .int .i64 x.f2, .int .i64 x.f3] (0, 0) _ rfl (by refine blk_put (cs := #[.string x.f0, .string x.f1, .int .i64 x.f2, .int .i64 0]) ?_ 3 _ rfl; refine blk_put (cs := #[.string x.f0, .string x.f1, .int .i64 0, .int .i64 0]) ?_ 2 _ rfl; refine blk_put (cs := #[.string x.f0, .string (⟨#[]⟩ : ByteArray), .int .i64 0, .int .i64 0]) ?_ 1 _ rfl; refine blk_put (cs := #[.string (⟨#[]⟩ : ByteArray), .string (⟨#[]⟩ : ByteArray), .int .i64 0, .int .i64 0]) ?_ 0 _ rfl; exact BR3.out) Try.underlying24 rfl t_8e) rfl ?_
    exact ⟨rfl, t_3d⟩
  · rw [if_neg h0] at h
    simp only [Option.some.injEq, Prod.mk.injEq] at h
    obtain ⟨rfl, rfl, rfl, rfl, rfl⟩ := h
    clear hbd HR0
    obtain ⟨n, hn⟩ : ∃ n, n = l0.length := ⟨_, rfl⟩
    rw [← hn] at HF ⊢
    clear hn
    have c1b : decide (i < 0) = true := decide_eq_true (by omega)
    go_enter Try.func26, Try.ntmps26
    go_wp2_with (first | ((with_reducible refine gate_dst (N := 3) rfl ?_); refine bx_ (N := 3) (cs := #[.string a1]) (t := 9) ?_; intro gb hgb w1 hbox hb1; have BW0 := Aside0.mk hb1; have BK := Aside0.mk hbox; clear hgb hbox hb1) | ((with_reducible refine gate_dst (N := 4) rfl ?_); refine bx_ (N := 4) (cs := #[.string (⟨#[]⟩ : ByteArray), .string (⟨#[]⟩ : ByteArray), .int .i64 0, .int .i64 0]) (t := 24) ?_; intro gr hgr w2 hbox2 hb2; have BW1 := Aside0.mk (below_then BW0.out BW0.out.size hb2); have GR := Aside0.mk ((by rw [hgr]; exact BW0.out.size) : w.heap.size ≤ gr); replace BK := Aside0.mk ((hb2.block _ (blk_lt BK.out)).trans BK.out); have BR := Aside0.mk hbox2; clear hgr hbox2 hb2) | (go_at_call 78; refine (HF.out gb _ BW1.out BK.out).mono ?_; rintro e w3 ⟨rfl, hb3⟩; have BW3 := Aside0.mk (below_then BW1.out BW1.out.size hb3); have BR3 := (hb3.block _ (blk_lt BR.out)).trans BR.out; have hcz0 : w3.cell? ⟨gr, 0, none⟩ = some (.string _) := (blk_cell BR3 0).trans rfl; have hcz1 : w3.cell? ⟨gr, 1, none⟩ = some (.string _) := (blk_cell BR3 1).trans rfl; have hcz2 : w3.cell? ⟨gr, 2, none⟩ = some (.int .i64 0) := (blk_cell BR3 2).trans rfl; have hcz3 : w3.cell? ⟨gr, 3, none⟩ = some (.int .i64 0) := (blk_cell BR3 3).trans rfl; have hfz0 := blk_frozen BR3 0; have hfz1 := blk_frozen BR3 1; have hfz2 := blk_frozen BR3 2; have hfz3 := blk_frozen BR3 3; have BR3 := Aside0.mk BR3; clear hb3))
    refine bodyPost_ret (results_ct rfl _ _ gr 24 #[.string (⟨#[]⟩ : ByteArray), .string (⟨#[]⟩ : ByteArray), .int .i64 0, .int .i64 0] (0, 0) _ rfl (by refine blk_put (cs := #[.string (⟨#[]⟩ : ByteArray), .string (⟨#[]⟩ : ByteArray), .int .i64 0, .int .i64 0]) ?_ 3 _ rfl; refine blk_put (cs := #[.string (⟨#[]⟩ : ByteArray), .string (⟨#[]⟩ : ByteArray), .int .i64 0, .int .i64 0]) ?_ 2 _ rfl; refine blk_put (cs := #[.string (⟨#[]⟩ : ByteArray), .string (⟨#[]⟩ : ByteArray), .int .i64 0, .int .i64 0]) ?_ 1 _ rfl; refine blk_put (cs := #[.string (⟨#[]⟩ : ByteArray), .string (⟨#[]⟩ : ByteArray), .int .i64 0, .int .i64 0]) ?_ 0 _ rfl; exact BR3.out) Try.underlying24 rfl t_8e) rfl ?_
    exact ⟨rfl, t_3d⟩
end Go.Proofs.Ytndbchcfjajgbaa.XP
