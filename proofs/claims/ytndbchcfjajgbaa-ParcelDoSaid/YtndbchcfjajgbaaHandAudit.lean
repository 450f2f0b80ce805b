/- parcel.Audit, walked. -/
import Derived.Test.YtndbchcfjajgbaaHandRun
import Derived.Test.YtndbchcfjajgbaaHandFind
import Derived.Test.YtndbchcfjajgbaaXP8
namespace Go.Proofs.Ytndbchcfjajgbaa.XP
open Go.RowKit Go.Proofs Go.Proofs.YtndbchcfjajgbaaW.PrintWords Go.Proofs.YtndbchcfjajgbaaW.PrintLast Go.Proofs.Ytndbchcfjajgbaa.XH Go.Proofs.Ytndbchcfjajgbaa.XE Go.Proofs.Ytndbchcfjajgbaa.XW
set_option linter.unusedVariables false
set_option linter.unusedSimpArgs false
/-- The piece with a name, or none. -/
def fnd (l : List S24) (s : ByteArray) : S24 := if 0 ≤ idx (isId s) l 0 then rd_T24 l (idx (isId s) l 0) else z24
def hasF (l : List S24) (s : ByteArray) : Bool := decide (0 ≤ idx (isId s) l 0)
theorem find_eq (l : List S24) (s : ByteArray) : parcel_Find.f l s = some ((fnd l s).f0, (fnd l s).f1, (fnd l s).f2, (fnd l s).f3, hasF l s) := by
  unfold parcel_Find.f fnd hasF
  by_cases h : 0 ≤ idx (isId s) l 0
  · rw [if_pos h, if_pos h, decide_eq_true h]
  · rw [if_neg h, if_neg h, decide_eq_false h]; rfl
def audStep (m : ByteArray) (l : List S24) (x : S34) (b : Int × Int × Int) : Int × Int × Int :=
  if x.f0 = 1 ∧ (x.f1.f1.toList == m.toList) = true then (wrap64 (b.1 + x.f1.f2), b.2.1, b.2.2)
  else if x.f0 = 2 ∧ ((fnd l x.f2).f1.toList == m.toList) = true then (b.1, wrap64 (b.2.1 + (fnd l x.f2).f2), b.2.2)
  else if x.f0 = 5 ∧ ((fnd l x.f2).f1.toList == m.toList) = true then (b.1, b.2.1, wrap64 (b.2.2 + x.f4)) else b
theorem grown_set (w : World) (g j : Nat) (v : Value) : w.grownBy (w.setCell ⟨g, j, none⟩ v) (some g) :=
  ⟨rfl, rfl, rfl, by simp [World.setCell], fun k _ hne => Below.heap_setCell w _ _ k (fun e => hne (by rw [e]))⟩
set_option maxHeartbeats 8000000 in
set_option maxRecDepth 100000 in
theorem aud76 (m : ByteArray) (Bm B0 : Nat) (bi bo bs : Int) (A : Option Addr) (c : Nat) (l : List S24) (x : S34) (W : World) (hm : W.heap[Bm]? = some (.cells #[.string m] 9 (0, 0))) (h0 : W.heap[B0]? = some (.cells #[.int .i64 bi, .int .i64 bo, .int .i64 bs, .int .i64 0] 39 (0, 0))) (hne : Bm ≠ B0)
    (hr : Kd.C k24 W A l.length l) (hc : l.length ≤ c) :
    Calls Try.prog 76 (#[.slice A l.length c, .agg #[.int .i64 x.f0, .string x.f1.f0, .string x.f1.f1, .int .i64 x.f1.f2, .int .i64 x.f1.f3, .string x.f2, .string x.f3, .int .i64 x.f4, .int .i64 x.f5]] ++ #[.pointer (some ⟨Bm, 0, none⟩), .pointer (some ⟨B0, 0, none⟩)]) W fun e W' => e = .returned (.tuple #[]) ∧ W'.heap[B0]? = some (.cells #[.int .i64 (audStep m l x (bi, bo, bs)).1, .int .i64 (audStep m l x (bi, bo, bs)).2.1, .int .i64 (audStep m l x (bi, bo, bs)).2.2, .int .i64 0] 39 (0, 0)) ∧ W'.heap[Bm]? = some (.cells #[.string m] 9 (0, 0)) ∧ W.grownBy W' (some B0) := by
  have HF := Aside0.mk (fun (w1 : World) (hb : Below W.heap.size W w1) => parcel_Find.calls A c l x.f2 _ _ _ _ _ w1 (Kd.C_below hr hb) hc (find_eq l x.f2))
  have Hm := Aside0.mk hm
  have H0 := Aside0.mk h0
  have HNE := Aside0.mk hne
  have HL0 := Aside0.mk (blk_lt h0)
  have HLm := Aside0.mk (blk_lt hm)
  unfold audStep
  obtain ⟨p, hp⟩ : ∃ p, p = fnd l x.f2 := ⟨_, rfl⟩
  rw [← hp] at HF ⊢
  obtain ⟨n, hn⟩ : ∃ n, n = l.length := ⟨_, rfl⟩
  rw [← hn] at HF ⊢
  clear hm h0 hne hr hc hp hn
  by_cases k1 : x.f0 = 1
  · have k1a : (x.f0 == 1) = true := beq_iff_eq.2 k1
    have k2a : (x.f0 == 2) = false := beq_eq_false_iff_ne.2 (by omega)
    have k5a : (x.f0 == 5) = false := beq_eq_false_iff_ne.2 (by omega)
    cases q1 : (x.f1.f1.toList == m.toList)
    · rw [if_neg (fun h => by simp at h), if_neg (fun h => by omega), if_neg (fun h => by omega)]
      clear k1
      go_enter Try.func76, Try.ntmps76
      go_wp2_with (first | ((with_reducible refine gate_dst (N := 5) rfl ?_); refine box_event ?hg (N := 5) ?hd (cs := #[.int .i64 x.f0, .string x.f1.f0, .string x.f1.f1, .int .i64 x.f1.f2, .int .i64 x.f1.f3, .string x.f2, .string x.f3, .int .i64 x.f4, .int .i64 x.f5]) (t := 34) ?hr ?_; (case hd => rfl); (case hg => rfl); (case hr => first | (go_simp; done) | (go_simp; rfl)); intro gb hgb w1 hbox hb1; have GB := Aside0.mk (Nat.le_of_eq hgb.symm); have BW := Aside0.mk hb1; have BK := Aside0.mk hbox; have z5 := (blk_cell hbox 5).trans rfl; clear hgb hbox hb1) | (go_at_call 26; refine (HF.out _ BW.out).mono ?_; rintro e w2 ⟨rfl, hb'⟩; replace BK := Aside0.mk ((hb'.block _ (blk_lt BK.out)).trans BK.out); have GBL := Aside0.mk (blk_lt BK.out); replace BW := Aside0.mk (below_then BW.out BW.out.size hb'); clear hb' z5) | ((with_reducible refine gate_dst (N := 6) rfl ?_); refine box_event ?hg (N := 6) ?hd (cs := #[.string (⟨#[]⟩ : ByteArray), .string (⟨#[]⟩ : ByteArray), .int .i64 0, .int .i64 0]) (t := 24) ?hr ?_; (case hd => rfl); (case hg => rfl); (case hr => first | (go_simp; done) | (go_simp; rfl)); intro gp hgp w3 hbox hb1; have GPN := Aside0.mk (show gb ≠ gp by have := GBL.out; omega); have GP := Aside0.mk (show W.heap.size ≤ gp by rw [hgp]; exact BW.out.size); replace BK := Aside0.mk ((hb1.block _ (blk_lt BK.out)).trans BK.out); replace BW := Aside0.mk (below_then BW.out BW.out.size hb1); have BP := Aside0.mk hbox; clear hgp hbox hb1) | ((with_reducible refine gate_store (T := 24) rfl ?_); refine ev_store (g := gp) (t := 24) (old := #[.string (⟨#[]⟩ : ByteArray), .string (⟨#[]⟩ : ByteArray), .int .i64 0, .int .i64 0]) (cells := #[.string p.f0, .string p.f1, .int .i64 p.f2, .int .i64 p.f3]) rfl rfl ?hx ?hy BP.out rfl (by kernel_rfl) (by simp [Value.oneCell']) ?_; (case hx => first | rfl | (go_simp; done) | (go_simp; rfl)); (case hy => first | rfl | (go_simp; done) | (go_simp; rfl)); intro w4 hb2 hg2 hs2; replace BK := Aside0.mk ((hg2.block gb (blk_lt BK.out) (fun e => GPN.out (by injection e))).trans BK.out); replace BW := Aside0.mk (Below.grown BW.out hg2 BW.out.size (fun k hk => by injection hk with hk; subst hk; exact GP.out)); replace BP := Aside0.mk hb2; have y0 := (BW.out.block B0 HL0.out).trans H0.out; have ym := (BW.out.block Bm HLm.out).trans Hm.out; have z0 := (blk_cell BK.out 0).trans rfl; have z2 := (blk_cell BK.out 2).trans rfl; have z3 := (blk_cell BK.out 3).trans rfl; have z7 := (blk_cell BK.out 7).trans rfl; have p1 := (blk_cell BP.out 1).trans rfl; have p2 := (blk_cell BP.out 2).trans rfl; have u0 := (blk_cell ym 0).trans rfl; have v0 := (blk_cell y0 0).trans rfl; have v1 := (blk_cell y0 1).trans rfl; have v2 := (blk_cell y0 2).trans rfl; have f0 := blk_frozen y0 0; have f1 := blk_frozen y0 1; have f2 := blk_frozen y0 2; have Y0 := Aside0.mk y0; have YM := Aside0.mk ym; clear hb2 hg2 hs2 y0 ym))
      go_end0
      exact ⟨rfl, Y0.out, YM.out, grown_of_below BW.out⟩
    · rw [if_pos ⟨k1, rfl⟩]
      clear k1
      go_enter Try.func76, Try.ntmps76
      go_wp2_with (first | ((with_reducible refine gate_dst (N := 5) rfl ?_); refine box_event ?hg (N := 5) ?hd (cs := #[.int .i64 x.f0, .string x.f1.f0, .string x.f1.f1, .int .i64 x.f1.f2, .int .i64 x.f1.f3, .string x.f2, .string x.f3, .int .i64 x.f4, .int .i64 x.f5]) (t := 34) ?hr ?_; (case hd => rfl); (case hg => rfl); (case hr => first | (go_simp; done) | (go_simp; rfl)); intro gb hgb w1 hbox hb1; have GB := Aside0.mk (Nat.le_of_eq hgb.symm); have BW := Aside0.mk hb1; have BK := Aside0.mk hbox; have z5 := (blk_cell hbox 5).trans rfl; clear hgb hbox hb1) | (go_at_call 26; refine (HF.out _ BW.out).mono ?_; rintro e w2 ⟨rfl, hb'⟩; replace BK := Aside0.mk ((hb'.block _ (blk_lt BK.out)).trans BK.out); have GBL := Aside0.mk (blk_lt BK.out); replace BW := Aside0.mk (below_then BW.out BW.out.size hb'); clear hb' z5) | ((with_reducible refine gate_dst (N := 6) rfl ?_); refine box_event ?hg (N := 6) ?hd (cs := #[.string (⟨#[]⟩ : ByteArray), .string (⟨#[]⟩ : ByteArray), .int .i64 0, .int .i64 0]) (t := 24) ?hr ?_; (case hd => rfl); (case hg => rfl); (case hr => first | (go_simp; done) | (go_simp; rfl)); intro gp hgp w3 hbox hb1; have GPN := Aside0.mk (show gb ≠ gp by have := GBL.out; omega); have GP := Aside0.mk (show W.heap.size ≤ gp by rw [hgp]; exact BW.out.size); replace BK := Aside0.mk ((hb1.block _ (blk_lt BK.out)).trans BK.out); replace BW := Aside0.mk (below_then BW.out BW.out.size hb1); have BP := Aside0.mk hbox; clear hgp hbox hb1) | ((with_reducible refine gate_store (T := 24) rfl ?_); refine ev_store (g := gp) (t := 24) (old := #[.string (⟨#[]⟩ : ByteArray), .string (⟨#[]⟩ : ByteArray), .int .i64 0, .int .i64 0]) (cells := #[.string p.f0, .string p.f1, .int .i64 p.f2, .int .i64 p.f3]) rfl rfl ?hx ?hy BP.out rfl (by kernel_rfl) (by simp [Value.oneCell']) ?_; (case hx => first | rfl | (go_simp; done) | (go_simp; rfl)); (case hy => first | rfl | (go_simp; done) | (go_simp; rfl)); intro w4 hb2 hg2 hs2; replace BK := Aside0.mk ((hg2.block gb (blk_lt BK.out) (fun e => GPN.out (by injection e))).trans BK.out); replace BW := Aside0.mk (Below.grown BW.out hg2 BW.out.size (fun k hk => by injection hk with hk; subst hk; exact GP.out)); replace BP := Aside0.mk hb2; have y0 := (BW.out.block B0 HL0.out).trans H0.out; have ym := (BW.out.block Bm HLm.out).trans Hm.out; have z0 := (blk_cell BK.out 0).trans rfl; have z2 := (blk_cell BK.out 2).trans rfl; have z3 := (blk_cell BK.out 3).trans rfl; have z7 := (blk_cell BK.out 7).trans rfl; have p1 := (blk_cell BP.out 1).trans rfl; have p2 := (blk_cell BP.out 2).trans rfl; have u0 := (blk_cell ym 0).trans rfl; have v0 := (blk_cell y0 0).trans rfl; have v1 := (blk_cell y0 1).trans rfl; have v2 := (blk_cell y0 2).trans rfl; have f0 := blk_frozen y0 0; have f1 := blk_frozen y0 1; have f2 := blk_frozen y0 2; have Y0 := Aside0.mk y0; have YM := Aside0.mk ym; clear hb2 hg2 hs2 y0 ym))
      go_end0
      exact ⟨rfl, blk_put (cs := #[.int .i64 bi, .int .i64 bo, .int .i64 bs, .int .i64 0]) Y0.out 0 _ rfl, (Below.heap_setCell _ _ _ Bm HNE.out).trans YM.out, grown_then (grown_of_below BW.out) (grown_set _ B0 0 _) (fun k hk => .inr hk.symm)⟩
  rw [if_neg (fun h => k1 h.1)]
  have k1a : (x.f0 == 1) = false := beq_eq_false_iff_ne.2 k1
  by_cases k2 : x.f0 = 2
  · have k2a : (x.f0 == 2) = true := beq_iff_eq.2 k2
    have k5a : (x.f0 == 5) = false := beq_eq_false_iff_ne.2 (by omega)
    cases q1 : (p.f1.toList == m.toList)
    · rw [if_neg (fun h => by simp at h), if_neg (fun h => by omega)]
      clear k1 k2
      go_enter Try.func76, Try.ntmps76
      go_wp2_with (first | ((with_reducible refine gate_dst (N := 5) rfl ?_); refine box_event ?hg (N := 5) ?hd (cs := #[.int .i64 x.f0, .string x.f1.f0, .string x.f1.f1, .int .i64 x.f1.f2, .int .i64 x.f1.f3, .string x.f2, .string x.f3, .int .i64 x.f4, .int .i64 x.f5]) (t := 34) ?hr ?_; (case hd => rfl); (case hg => rfl); (case hr => first | (go_simp; done) | (go_simp; rfl)); intro gb hgb w1 hbox hb1; have GB := Aside0.mk (Nat.le_of_eq hgb.symm); have BW := Aside0.mk hb1; have BK := Aside0.mk hbox; have z5 := (blk_cell hbox 5).trans rfl; clear hgb hbox hb1) | (go_at_call 26; refine (HF.out _ BW.out).mono ?_; rintro e w2 ⟨rfl, hb'⟩; replace BK := Aside0.mk ((hb'.block _ (blk_lt BK.out)).trans BK.out); have GBL := Aside0.mk (blk_lt BK.out); replace BW := Aside0.mk (below_then BW.out BW.out.size hb'); clear hb' z5) | ((with_reducible refine gate_dst (N := 6) rfl ?_); refine box_event ?hg (N := 6) ?hd (cs := #[.string (⟨#[]⟩ : ByteArray), .string (⟨#[]⟩ : ByteArray), .int .i64 0, .int .i64 0]) (t := 24) ?hr ?_; (case hd => rfl); (case hg => rfl); (case hr => first | (go_simp; done) | (go_simp; rfl)); intro gp hgp w3 hbox hb1; have GPN := Aside0.mk (show gb ≠ gp by have := GBL.out; omega); have GP := Aside0.mk (show W.heap.size ≤ gp by rw [hgp]; exact BW.out.size); replace BK := Aside0.mk ((hb1.block _ (blk_lt BK.out)).trans BK.out); replace BW := Aside0.mk (below_then BW.out BW.out.size hb1); have BP := Aside0.mk hbox; clear hgp hbox hb1) | ((with_reducible refine gate_store (T := 24) rfl ?_); refine ev_store (g := gp) (t := 24) (old := #[.string (⟨#[]⟩ : ByteArray), .string (⟨#[]⟩ : ByteArray), .int .i64 0, .int .i64 0]) (cells := #[.string p.f0, .string p.f1, .int .i64 p.f2, .int .i64 p.f3]) rfl rfl ?hx ?hy BP.out rfl (by kernel_rfl) (by simp [Value.oneCell']) ?_; (case hx => first | rfl | (go_simp; done) | (go_simp; rfl)); (case hy => first | rfl | (go_simp; done) | (go_simp; rfl)); intro w4 hb2 hg2 hs2; replace BK := Aside0.mk ((hg2.block gb (blk_lt BK.out) (fun e => GPN.out (by injection e))).trans BK.out); replace BW := Aside0.mk (Below.grown BW.out hg2 BW.out.size (fun k hk => by injection hk with hk; subst hk; exact GP.out)); replace BP := Aside0.mk hb2; have y0 := (BW.out.block B0 HL0.out).trans H0.out; have ym := (BW.out.block Bm HLm.out).trans Hm.out; have z0 := (blk_cell BK.out 0).trans rfl; have z2 := (blk_cell BK.out 2).trans rfl; have z3 := (blk_cell BK.out 3).trans rfl; have z7 := (blk_cell BK.out 7).trans rfl; have p1 := (blk_cell BP.out 1).trans rfl; have p2 := (blk_cell BP.out 2).trans rfl; have u0 := (blk_cell ym 0).trans rfl; have v0 := (blk_cell y0 0).trans rfl; have v1 := (blk_cell y0 1).trans rfl; have v2 := (blk_cell y0 2).trans rfl; have f0 := blk_frozen y0 0; have f1 := blk_frozen y0 1; have f2 := blk_frozen y0 2; have Y0 := Aside0.mk y0; have YM := Aside0.mk ym; clear hb2 hg2 hs2 y0 ym))
      go_end0
      exact ⟨rfl, Y0.out, YM.out, grown_of_below BW.out⟩
    · rw [if_pos ⟨k2, rfl⟩]
      clear k1 k2
      go_enter Try.func76, Try.ntmps76
      go_wp2_with (first | ((with_reducible refine gate_dst (N := 5) rfl ?_); refine box_event ?hg (N := 5) ?hd (cs := #[.int .i64 x.f0, .string x.f1.f0, .string x.f1.f1, .int .i64 x.f1.f2, .int .i64 x.f1.f3, .string x.f2, .string x.f3, .int .i64 x.f4, .int .i64 x.f5]) (t := 34) ?hr ?_; (case hd => rfl); (case hg => rfl); (case hr => first | (go_simp; done) | (go_simp; rfl)); intro gb hgb w1 hbox hb1; have GB := Aside0.mk (Nat.le_of_eq hgb.symm); have BW := Aside0.mk hb1; have BK := Aside0.mk hbox; have z5 := (blk_cell hbox 5).trans rfl; clear hgb hbox hb1) | (go_at_call 26; refine (HF.out _ BW.out).mono ?_; rintro e w2 ⟨rfl, hb'⟩; replace BK := Aside0.mk ((hb'.block _ (blk_lt BK.out)).trans BK.out); have GBL := Aside0.mk (blk_lt BK.out); replace BW := Aside0.mk (below_then BW.out BW.out.size hb'); clear hb' z5) | ((with_reducible refine gate_dst (N := 6) rfl ?_); refine box_event ?hg (N := 6) ?hd (cs := #[.string (⟨#[]⟩ : ByteArray), .string (⟨#[]⟩ : ByteArray), .int .i64 0, .int .i64 0]) (t := 24) ?hr ?_; (case hd => rfl); (case hg => rfl); (case hr => first | (go_simp; done) | (go_simp; rfl)); intro gp hgp w3 hbox hb1; have GPN := Aside0.mk (show gb ≠ gp by have := GBL.out; omega); have GP := Aside0.mk (show W.heap.size ≤ gp by rw [hgp]; exact BW.out.size); replace BK := Aside0.mk ((hb1.block _ (blk_lt BK.out)).trans BK.out); replace BW := Aside0.mk (below_then BW.out BW.out.size hb1); have BP := Aside0.mk hbox; clear hgp hbox hb1) | ((with_reducible refine gate_store (T := 24) rfl ?_); refine ev_store (g := gp) (t := 24) (old := #[.string (⟨#[]⟩ : ByteArray), .string (⟨#[]⟩ : ByteArray), .int .i64 0, .int .i64 0]) (cells := #[.string p.f0, .string p.f1, .int .i64 p.f2, .int .i64 p.f3]) rfl rfl ?hx ?hy BP.out rfl (by kernel_rfl) (by simp [Value.oneCell']) ?_; (case hx => first | rfl | (go_simp; done) | (go_simp; rfl)); (case hy => first | rfl | (go_simp; done) | (go_simp; rfl)); intro w4 hb2 hg2 hs2; replace BK := Aside0.mk ((hg2.block gb (blk_lt BK.out) (fun e => GPN.out (by injection e))).trans BK.out); replace BW := Aside0.mk (Below.grown BW.out hg2 BW.out.size (fun k hk => by injection hk with hk; subst hk; exact GP.out)); replace BP := Aside0.mk hb2; have y0 := (BW.out.block B0 HL0.out).trans H0.out; have ym := (BW.out.block Bm HLm.out).trans Hm.out; have z0 := (blk_cell BK.out 0).trans rfl; have z2 := (blk_cell BK.out 2).trans rfl; have z3 := (blk_cell BK.out 3).trans rfl; have z7 := (blk_cell BK.out 7).trans rfl; have p1 := (blk_cell BP.out 1).trans rfl; have p2 := (blk_cell BP.out 2).trans rfl; have u0 := (blk_cell ym 0).trans rfl; have v0 := (blk_cell y0 0).trans rfl; have v1 := (blk_cell y0 1).trans rfl; have v2 := (blk_cell y0 2).trans rfl; have f0 := blk_frozen y0 0; have f1 := blk_frozen y0 1; have f2 := blk_frozen y0 2; have Y0 := Aside0.mk y0; have YM := Aside0.mk ym; clear hb2 hg2 hs2 y0 ym))
      go_end0
      exact ⟨rfl, blk_put (cs := #[.int .i64 bi, .int .i64 bo, .int .i64 bs, .int .i64 0]) Y0.out 1 _ rfl, (Below.heap_setCell _ _ _ Bm HNE.out).trans YM.out, grown_then (grown_of_below BW.out) (grown_set _ B0 1 _) (fun k hk => .inr hk.symm)⟩
  rw [if_neg (fun h => k2 h.1)]
  have k2a : (x.f0 == 2) = false := beq_eq_false_iff_ne.2 k2
  by_cases k5 : x.f0 = 5
  · have k5a : (x.f0 == 5) = true := beq_iff_eq.2 k5
    cases q1 : (p.f1.toList == m.toList)
    · rw [if_neg (fun h => by simp at h)]
      clear k1 k2 k5
      go_enter Try.func76, Try.ntmps76
      go_wp2_with (first | ((with_reducible refine gate_dst (N := 5) rfl ?_); refine box_event ?hg (N := 5) ?hd (cs := #[.int .i64 x.f0, .string x.f1.f0, .string x.f1.f1, .int .i64 x.f1.f2, .int .i64 x.f1.f3, .string x.f2, .string x.f3, .int .i64 x.f4, .int .i64 x.f5]) (t := 34) ?hr ?_; (case hd => rfl); (case hg => rfl); (case hr => first | (go_simp; done) | (go_simp; rfl)); intro gb hgb w1 hbox hb1; have GB := Aside0.mk (Nat.le_of_eq hgb.symm); have BW := Aside0.mk hb1; have BK := Aside0.mk hbox; have z5 := (blk_cell hbox 5).trans rfl; clear hgb hbox hb1) | (go_at_call 26; refine (HF.out _ BW.out).mono ?_; rintro e w2 ⟨rfl, hb'⟩; replace BK := Aside0.mk ((hb'.block _ (blk_lt BK.out)).trans BK.out); have GBL := Aside0.mk (blk_lt BK.out); replace BW := Aside0.mk (below_then BW.out BW.out.size hb'); clear hb' z5) | ((with_reducible refine gate_dst (N := 6) rfl ?_); refine box_event ?hg (N := 6) ?hd (cs := #[.string (⟨#[]⟩ : ByteArray), .string (⟨#[]⟩ : ByteArray), .int .i64 0, .int .i64 0]) (t := 24) ?hr ?_; (case hd => rfl); (case hg => rfl); (case hr => first | (go_simp; done) | (go_simp; rfl)); intro gp hgp w3 hbox hb1; have GPN := Aside0.mk (show gb ≠ gp by have := GBL.out; omega); have GP := Aside0.mk (show W.heap.size ≤ gp by rw [hgp]; exact BW.out.size); replace BK := Aside0.mk ((hb1.block _ (blk_lt BK.out)).trans BK.out); replace BW := Aside0.mk (below_then BW.out BW.out.size hb1); have BP := Aside0.mk hbox; clear hgp hbox hb1) | ((with_reducible refine gate_store (T := 24) rfl ?_); refine ev_store (g := gp) (t := 24) (old := #[.string (⟨#[]⟩ : ByteArray), .string (⟨#[]⟩ : ByteArray), .int .i64 0, .int .i64 0]) (cells := #[.string p.f0, .string p.f1, .int .i64 p.f2, .int .i64 p.f3]) rfl rfl ?hx ?hy BP.out rfl (by kernel_rfl) (by simp [Value.oneCell']) ?_; (case hx => first | rfl | (go_simp; done) | (go_simp; rfl)); (case hy => first | rfl | (go_simp; done) | (go_simp; rfl)); intro w4 hb2 hg2 hs2; replace BK := Aside0.mk ((hg2.block gb (blk_lt BK.out) (fun e => GPN.out (by injection e))).trans BK.out); replace BW := Aside0.mk (Below.grown BW.out hg2 BW.out.size (fun k hk => by injection hk with hk; subst hk; exact GP.out)); replace BP := Aside0.mk hb2; have y0 := (BW.out.block B0 HL0.out).trans H0.out; have ym := (BW.out.block Bm HLm.out).trans Hm.out; have z0 := (blk_cell BK.out 0).trans rfl; have z2 := (blk_cell BK.out 2).trans rfl; have z3 := (blk_cell BK.out 3).trans rfl; have z7 := (blk_cell BK.out 7).trans rfl; have p1 := (blk_cell BP.out 1).trans rfl; have p2 := (blk_cell BP.out 2).trans rfl; have u0 := (blk_cell ym 0).trans rfl; have v0 := (blk_cell y0 0).trans rfl; have v1 := (blk_cell y0 1).trans rfl; have v2 := (blk_cell y0 2).trans rfl; have f0 := blk_frozen y0 0; have f1 := blk_frozen y0 1; have f2 := blk_frozen y0 2; have Y0 := Aside0.mk y0; have YM := Aside0.mk ym; clear hb2 hg2 hs2 y0 ym))
      go_end0
      exact ⟨rfl, Y0.out, YM.out, grown_of_below BW.out⟩
    · rw [if_pos ⟨k5, rfl⟩]
      clear k1 k2 k5
      go_enter Try.func76, Try.ntmps76
      go_wp2_with (first | ((with_reducible refine gate_dst (N := 5) rfl ?_); refine box_event ?hg (N := 5) ?hd (cs := #[.int .i64 x.f0, .string x.f1.f0, .string x.f1.f1, .int .i64 x.f1.f2, .int .i64 x.f1.f3, .string x.f2, .string x.f3, .int .i64 x.f4, .int .i64 x.f5]) (t := 34) ?hr ?_; (case hd => rfl); (case hg => rfl); (case hr => first | (go_simp; done) | (go_simp; rfl)); intro gb hgb w1 hbox hb1; have GB := Aside0.mk (Nat.le_of_eq hgb.symm); have BW := Aside0.mk hb1; have BK := Aside0.mk hbox; have z5 := (blk_cell hbox 5).trans rfl; clear hgb hbox hb1) | (go_at_call 26; refine (HF.out _ BW.out).mono ?_; rintro e w2 ⟨rfl, hb'⟩; replace BK := Aside0.mk ((hb'.block _ (blk_lt BK.out)).trans BK.out); have GBL := Aside0.mk (blk_lt BK.out); replace BW := Aside0.mk (below_then BW.out BW.out.size hb'); clear hb' z5) | ((with_reducible refine gate_dst (N := 6) rfl ?_); refine box_event ?hg (N := 6) ?hd (cs := #[.string (⟨#[]⟩ : ByteArray), .string (⟨#[]⟩ : ByteArray), .int .i64 0, .int .i64 0]) (t := 24) ?hr ?_; (case hd => rfl); (case hg => rfl); (case hr => first | (go_simp; done) | (go_simp; rfl)); intro gp hgp w3 hbox hb1; have GPN := Aside0.mk (show gb ≠ gp by have := GBL.out; omega); have GP := Aside0.mk (show W.heap.size ≤ gp by rw [hgp]; exact BW.out.size); replace BK := Aside0.mk ((hb1.block _ (blk_lt BK.out)).trans BK.out); replace BW := Aside0.mk (below_then BW.out BW.out.size hb1); have BP := Aside0.mk hbox; clear hgp hbox hb1) | ((with_reducible refine gate_store (T := 24) rfl ?_); refine ev_store (g := gp) (t := 24) (old := #[.string (⟨#[]⟩ : ByteArray), .string (⟨#[]⟩ : ByteArray), .int .i64 0, .int .i64 0]) (cells := #[.string p.f0, .string p.f1, .int .i64 p.f2, .int .i64 p.f3]) rfl rfl ?hx ?hy BP.out rfl (by kernel_rfl) (by simp [Value.oneCell']) ?_; (case hx => first | rfl | (go_simp; done) | (go_simp; rfl)); (case hy => first | rfl | (go_simp; done) | (go_simp; rfl)); intro w4 hb2 hg2 hs2; replace BK := Aside0.mk ((hg2.block gb (blk_lt BK.out) (fun e => GPN.out (by injection e))).trans BK.out); replace BW := Aside0.mk (Below.grown BW.out hg2 BW.out.size (fun k hk => by injection hk with hk; subst hk; exact GP.out)); replace BP := Aside0.mk hb2; have y0 := (BW.out.block B0 HL0.out).trans H0.out; have ym := (BW.out.block Bm HLm.out).trans Hm.out; have z0 := (blk_cell BK.out 0).trans rfl; have z2 := (blk_cell BK.out 2).trans rfl; have z3 := (blk_cell BK.out 3).trans rfl; have z7 := (blk_cell BK.out 7).trans rfl; have p1 := (blk_cell BP.out 1).trans rfl; have p2 := (blk_cell BP.out 2).trans rfl; have u0 := (blk_cell ym 0).trans rfl; have v0 := (blk_cell y0 0).trans rfl; have v1 := (blk_cell y0 1).trans rfl; have v2 := (blk_cell y0 2).trans rfl; have f0 := blk_frozen y0 0; have f1 := blk_frozen y0 1; have f2 := blk_frozen y0 2; have Y0 := Aside0.mk y0; have YM := Aside0.mk ym; clear hb2 hg2 hs2 y0 ym))
      go_end0
      exact ⟨rfl, blk_put (cs := #[.int .i64 bi, .int .i64 bo, .int .i64 bs, .int .i64 0]) Y0.out 2 _ rfl, (Below.heap_setCell _ _ _ Bm HNE.out).trans YM.out, grown_then (grown_of_below BW.out) (grown_set _ B0 2 _) (fun k hk => .inr hk.symm)⟩
  · rw [if_neg (fun h => k5 h.1)]
    have k5a : (x.f0 == 5) = false := beq_eq_false_iff_ne.2 k5
    clear k1 k2 k5
    go_enter Try.func76, Try.ntmps76
    go_wp2_with (first | ((with_reducible refine gate_dst (N := 5) rfl ?_); refine box_event ?hg (N := 5) ?hd (cs := #[.int .i64 x.f0, .string x.f1.f0, .string x.f1.f1, .int .i64 x.f1.f2, .int .i64 x.f1.f3, .string x.f2, .string x.f3, .int .i64 x.f4, .int .i64 x.f5]) (t := 34) ?hr ?_; (case hd => rfl); (case hg => rfl); (case hr => first | (go_simp; done) | (go_simp; rfl)); intro gb hgb w1 hbox hb1; have GB := Aside0.mk (Nat.le_of_eq hgb.symm); have BW := Aside0.mk hb1; have BK := Aside0.mk hbox; have z5 := (blk_cell hbox 5).trans rfl; clear hgb hbox hb1) | (go_at_call 26; refine (HF.out _ BW.out).mono ?_; rintro e w2 ⟨rfl, hb'⟩; replace BK := Aside0.mk ((hb'.block _ (blk_lt BK.out)).trans BK.out); have GBL := Aside0.mk (blk_lt BK.out); replace BW := Aside0.mk (below_then BW.out BW.out.size hb'); clear hb' z5) | ((with_reducible refine gate_dst (N := 6) rfl ?_); refine box_event ?hg (N := 6) ?hd (cs := #[.string (⟨#[]⟩ : ByteArray), .string (⟨#[]⟩ : ByteArray), .int .i64 0, .int .i64 0]) (t := 24) ?hr ?_; (case hd => rfl); (case hg => rfl); (case hr => first | (go_simp; done) | (go_simp; rfl)); intro gp hgp w3 hbox hb1; have GPN := Aside0.mk (show gb ≠ gp by have := GBL.out; omega); have GP := Aside0.mk (show W.heap.size ≤ gp by rw [hgp]; exact BW.out.size); replace BK := Aside0.mk ((hb1.block _ (blk_lt BK.out)).trans BK.out); replace BW := Aside0.mk (below_then BW.out BW.out.size hb1); have BP := Aside0.mk hbox; clear hgp hbox hb1) | ((with_reducible refine gate_store (T := 24) rfl ?_); refine ev_store (g := gp) (t := 24) (old := #[.string (⟨#[]⟩ : ByteArray), .string (⟨#[]⟩ : ByteArray), .int .i64 0, .int .i64 0]) (cells := #[.string p.f0, .string p.f1, .int .i64 p.f2, .int .i64 p.f3]) rfl rfl ?hx ?hy BP.out rfl (by kernel_rfl) (by simp [Value.oneCell']) ?_; (case hx => first | rfl | (go_simp; done) | (go_simp; rfl)); (case hy => first | rfl | (go_simp; done) | (go_simp; rfl)); intro w4 hb2 hg2 hs2; replace BK := Aside0.mk ((hg2.block gb (blk_lt BK.out) (fun e => GPN.out (by injection e))).trans BK.out); replace BW := Aside0.mk (Below.grown BW.out hg2 BW.out.size (fun k hk => by injection hk with hk; subst hk; exact GP.out)); replace BP := Aside0.mk hb2; have y0 := (BW.out.block B0 HL0.out).trans H0.out; have ym := (BW.out.block Bm HLm.out).trans Hm.out; have z0 := (blk_cell BK.out 0).trans rfl; have z2 := (blk_cell BK.out 2).trans rfl; have z3 := (blk_cell BK.out 3).trans rfl; have z7 := (blk_cell BK.out 7).trans rfl; have p1 := (blk_cell BP.out 1).trans rfl; have p2 := (blk_cell BP.out 2).trans rfl; have u0 := (blk_cell ym 0).trans rfl; have v0 := (blk_cell y0 0).trans rfl; have v1 := (blk_cell y0 1).trans rfl; have v2 := (blk_cell y0 2).trans rfl; have f0 := blk_frozen y0 0; have f1 := blk_frozen y0 1; have f2 := blk_frozen y0 2; have Y0 := Aside0.mk y0; have YM := Aside0.mk ym; clear hb2 hg2 hs2 y0 ym))
    go_end0
    exact ⟨rfl, Y0.out, YM.out, grown_of_below BW.out⟩
def audGo (m : ByteArray) : List S34 → List S24 → Int × Int × Int → Int × Int × Int
  | [], _, b => b
  | x :: r, l, b => audGo m r (doX l x).1 (audStep m l x b)
def weighGo (m : ByteArray) : List S24 → Int × Int → Int × Int
  | [], b => b
  | x :: r, b => weighGo m r (if rightB x = true ∧ x.f1.toList = m.toList then (wrap64 (b.1 + x.f2), wrap64 (b.2 + x.f3)) else b)
theorem weigh_loop (m : ByteArray) (l : List S24) (hn : l.length ≤ 1000) : ∀ (d i k : Nat) (b : Int × Int), i + d = l.length → d < k → parcel_Weigh.l0 k m b.1 b.2 l (l.length : Int) (i : Int) = some (weighGo m (l.drop i) b)
  | 0, i, k, b, h, hk => by
    obtain ⟨k, rfl⟩ : ∃ q, k = q + 1 := ⟨k - 1, by omega⟩
    simp only [parcel_Weigh.l0]
    rw [if_neg (by omega), List.drop_of_length_le (by omega)]
    rfl
  | d + 1, i, k, b, h, hk => by
    obtain ⟨k, rfl⟩ : ∃ q, k = q + 1 := ⟨k - 1, by omega⟩
    have hlt : i < l.length := by omega
    have ih := fun b => weigh_loop m l hn d (i + 1) k b (by omega) (by omega)
    simp only [parcel_Weigh.l0]
    rw [if_pos (by omega), if_pos (by omega), if_pos (by omega), right_eq, rd24 l i hlt, List.drop_eq_getElem_cons hlt]
    simp only [Option.bind_some, weighGo]
    rw [show wrap64 ((i : Int) + 1) = ((i + 1 : Nat) : Int) by unfold wrap64; omega]
    have e : (⟨l[i].f0, l[i].f1, l[i].f2, l[i].f3⟩ : S24) = l[i] := rfl
    rw [e]
    by_cases h1 : rightB l[i] = true
    · rw [if_pos h1]
      by_cases h2 : l[i].f1.toList = m.toList
      · rw [if_pos h2, if_pos ⟨h1, h2⟩]; exact ih (_, _)
      · rw [if_neg h2, if_neg (fun h => h2 h.2)]; exact ih b
    · rw [if_neg h1, if_neg (fun h => h1 h.1)]; exact ih b
def weighW (l : List S24) (m : ByteArray) : Int × Int := weighGo m l (0, 0)
theorem weigh_eq (l : List S24) (m : ByteArray) (hn : l.length ≤ 1000) : parcel_Weigh.f (l.length + 1) l m = some (weighW l m) := by
  unfold parcel_Weigh.f weighW
  exact weigh_loop m l hn l.length 0 (l.length + 1) (0, 0) (by omega) (by omega)
def parcel_Audit.f (l0 : List (S34)) (a1 : ByteArray) : Option (Int × Int × Int × Int × Int) :=
  if (runR l0).2.2 = 0 then some ((audGo a1 l0 [] (0, 0, 0)).1, (audGo a1 l0 [] (0, 0, 0)).2.1, (audGo a1 l0 [] (0, 0, 0)).2.2, (weighW (runR l0).1 a1).1, 0) else some (0, 0, 0, 0, (runR l0).2.2)
theorem runR_len (book : List S34) : (runR book).1.length ≤ 100 := by
  unfold runR
  split
  · simp
  · suffices H : ∀ (b : List S34) (i : Int) (l : List S24), l.length ≤ 100 → (ofR b i l).1.length ≤ 100 from H _ _ _ (by simp)
    intro b
    induction b with
    | nil => intro i l h; exact h
    | cons x r ih =>
      intro i l h
      unfold ofR
      split
      · exact ih _ _ (doR_len _ _ _ _ _ _ _ _ _ _)
      · simp
theorem run_audit (m : ByteArray) (A : Option Addr) (c : Nat) (book : List S34) (w0 : World) (hr0 : Kd.C k34 w0 A book.length book) (hc : book.length ≤ c) (Bm B0 : Nat) (w : World) (hb : Below w0.heap.size w0 w)
    (hm : w.heap[Bm]? = some (.cells #[.string m] 9 (0, 0))) (h0 : w.heap[B0]? = some (.cells #[.int .i64 0, .int .i64 0, .int .i64 0, .int .i64 0] 39 (0, 0))) (hne : Bm ≠ B0) (hge : w0.heap.size ≤ B0) :
    Calls Try.prog 75 #[.slice A book.length c, .func (.func 76) #[] #[.pointer (some ⟨Bm, 0, none⟩), .pointer (some ⟨B0, 0, none⟩)]] w fun e w' => ∃ v' : Value, e = .returned (.tuple #[v', .int .i64 (runR book).2.1, .int .i64 (runR book).2.2]) ∧ Kd.R k24 24 w' w.heap.size (fun _ => True) v' (runR book).1 ∧ w.grownBy w' (some B0) ∧
      ((runR book).2.2 = 0 → w'.heap[B0]? = some (.cells #[.int .i64 (audGo m book [] (0, 0, 0)).1, .int .i64 (audGo m book [] (0, 0, 0)).2.1, .int .i64 (audGo m book [] (0, 0, 0)).2.2, .int .i64 0] 39 (0, 0)) ∧ w'.heap[Bm]? = some (.cells #[.string m] 9 (0, 0))) := by
  have hr := Kd.C_below hr0 hb
  refine (run75 76 _ (enters_of Try.func76 (by kernel_rfl) rfl) (some B0) (fun r l W => ∃ b : Int × Int × Int, W.heap[B0]? = some (.cells #[.int .i64 b.1, .int .i64 b.2.1, .int .i64 b.2.2, .int .i64 0] 39 (0, 0)) ∧ W.heap[Bm]? = some (.cells #[.string m] 9 (0, 0)) ∧ audGo m r l b = audGo m book [] (0, 0, 0)) ?_ ?_ A c book w hr hc ?_ ?_ ⟨(0, 0, 0), h0, hm, rfl⟩).mono ?_
  · rintro W A c l x r ⟨b, h1, h2, h3⟩ _ hC hcl _
    refine (aud76 m Bm B0 b.1 b.2.1 b.2.2 A c l x W h2 h1 hne hC hcl).mono ?_
    rintro e W' ⟨h4, h5, h6, h7⟩
    exact ⟨h4, ⟨_, h5, h6, h3⟩, h7⟩
  · rintro r l W W' ⟨b, h1, h2, h3⟩ hb
    exact ⟨b, (hb.block _ (blk_lt h1)).trans h1, (hb.block _ (blk_lt h2)).trans h2, h3⟩
  · intro k hk
    injection hk with hk; subst hk; exact blk_lt h0
  · intro hn k hk ad had
    injection hk with hk; subst hk
    obtain ⟨ad', e1, hx0, _⟩ := at_T34 hr0 0 (by omega) (by omega)
    rw [had] at e1
    injection e1 with e1; subst e1
    have := World.block_lt_of_cell? w0 _ hx0
    rw [add_block] at this
    omega
  · rintro e w' ⟨v', h1, h2, h3, h4⟩
    refine ⟨v', h1, h2, h3, fun hz => ?_⟩
    obtain ⟨b, q1, q2, q3⟩ := h4 hz
    rw [← q3]
    exact ⟨q1, q2⟩
set_option maxHeartbeats 4000000 in
set_option maxRecDepth 100000 in
theorem audit_bad (m : ByteArray) (A : Option Addr) (n c : Nat) (R : List S24 × Int × Int) (w : World) (hne : R.2.2 ≠ 0) (HRUN : Aside0 (∀ (Bm B0 : Nat) (w1 : World), Below w.heap.size w w1 → w1.heap[Bm]? = some (.cells #[.string m] 9 (0, 0)) → w1.heap[B0]? = some (.cells #[.int .i64 0, .int .i64 0, .int .i64 0, .int .i64 0] 39 (0, 0)) → Bm ≠ B0 → w.heap.size ≤ B0 →
      Calls Try.prog 75 #[.slice A n c, .func (.func 76) #[] #[.pointer (some ⟨Bm, 0, none⟩), .pointer (some ⟨B0, 0, none⟩)]] w1 fun e w' => ∃ v' : Value, e = .returned (.tuple #[v', .int .i64 R.2.1, .int .i64 R.2.2]) ∧ w1.grownBy w' (some B0))) :
    Calls Try.prog 22 #[.slice A n c, .string m] w fun e w' => e = .returned (.tuple #[.agg #[.int .i64 0, .int .i64 0, .int .i64 0, .int .i64 0], .int .i64 R.2.2]) ∧ Below w.heap.size w w' := by
  obtain ⟨r1, r2, r3⟩ := R
  simp only at HRUN hne ⊢
  have hneb : (r3 == 0) = false := beq_eq_false_iff_ne.2 hne
  have hnec : (r3 != 0) = true := bne_iff_ne.2 hne
  clear hne
  go_enter Try.func22, Try.ntmps22
  go_wp2_with (first | ((with_reducible refine gate_dst (N := 3) rfl ?_); refine box_event ?hg (N := 3) ?hd (cs := #[.string m]) (t := 9) ?hr ?_; (case hd => rfl); (case hg => rfl); (case hr => first | (go_simp; done) | (go_simp; rfl)); intro Bm hgb w1 hbox hb1; have BW := Aside0.mk hb1; have BM := Aside0.mk hbox; clear hgb hbox hb1) | ((with_reducible refine gate_dst (N := 4) rfl ?_); refine box_event ?hg (N := 4) ?hd (cs := #[.int .i64 0, .int .i64 0, .int .i64 0, .int .i64 0]) (t := 39) ?hr ?_; (case hd => rfl); (case hg => rfl); (case hr => first | (go_simp; done) | (go_simp; rfl)); intro gr hgb w1 hbox hb1; have GR := Aside0.mk (show w.heap.size ≤ gr by rw [hgb]; exact BW.out.size); replace BM := Aside0.mk ((hb1.block _ (blk_lt BM.out)).trans BM.out); replace BW := Aside0.mk (below_then BW.out BW.out.size hb1); have BR := Aside0.mk hbox; clear hgb hbox hb1) | ((with_reducible refine gate_dst (N := 6) rfl ?_); refine box_event ?hg (N := 6) ?hd (cs := #[.int .i64 0, .int .i64 0, .int .i64 0, .int .i64 0]) (t := 39) ?hr ?_; (case hd => rfl); (case hg => rfl); (case hr => first | (go_simp; done) | (go_simp; rfl)); intro B0 hgb w1 hbox hb1; have N1 := Aside0.mk (show Bm ≠ B0 by have := blk_lt BM.out; omega); have N2 := Aside0.mk (show gr ≠ B0 by have := blk_lt BR.out; omega); have GE := Aside0.mk (show w.heap.size ≤ B0 by rw [hgb]; exact BW.out.size); replace BM := Aside0.mk ((hb1.block _ (blk_lt BM.out)).trans BM.out); replace BR := Aside0.mk ((hb1.block _ (blk_lt BR.out)).trans BR.out); replace BW := Aside0.mk (below_then BW.out BW.out.size hb1); have BB := Aside0.mk hbox; clear hgb hbox hb1) | (go_at_call 75; refine (HRUN.out _ _ _ BW.out BM.out BB.out N1.out GE.out).mono ?_; rintro e w2 ⟨v', rfl, hG⟩; replace BR := Aside0.mk ((hG.block _ (blk_lt BR.out) (fun e => N2.out (by injection e))).trans BR.out); replace BW := Aside0.mk (Below.grown BW.out hG BW.out.size (fun k hk => by injection hk with hk; subst hk; exact GE.out)); clear hG) | ((with_reducible refine gate_store (T := 39) rfl ?_); refine ev_store (g := gr) (t := 39) (old := #[.int .i64 0, .int .i64 0, .int .i64 0, .int .i64 0]) (cells := #[.int .i64 0, .int .i64 0, .int .i64 0, .int .i64 0]) rfl rfl ?hx ?hy BR.out rfl (by kernel_rfl) (by simp [Value.oneCell']) ?_; (case hx => first | rfl | (go_simp; done) | (go_simp; rfl)); (case hy => first | rfl | (go_simp; done) | (go_simp; rfl)); intro w4 hb2 hg2 hs2; replace BW := Aside0.mk (Below.grown BW.out hg2 BW.out.size (fun k hk => by injection hk with hk; subst hk; exact GR.out)); replace BR := Aside0.mk hb2; clear hb2 hg2 hs2))
  refine bodyPost_ret (results_ct rfl _ _ gr 39 #[.int .i64 0, .int .i64 0, .int .i64 0, .int .i64 0] (0, 0) _ rfl BR.out Try.underlying39 rfl (by kernel_rfl)) rfl ?_
  exact ⟨rfl, BW.out⟩
set_option maxHeartbeats 4000000 in
set_option maxRecDepth 100000 in
theorem audit_ok (m : ByteArray) (A : Option Addr) (n c : Nat) (R : List S24 × Int × Int) (F : Int × Int × Int) (T : Int × Int) (w : World) (he : R.2.2 = 0) (HRUN : Aside0 (∀ (Bm B0 : Nat) (w1 : World), Below w.heap.size w w1 → w1.heap[Bm]? = some (.cells #[.string m] 9 (0, 0)) → w1.heap[B0]? = some (.cells #[.int .i64 0, .int .i64 0, .int .i64 0, .int .i64 0] 39 (0, 0)) → Bm ≠ B0 → w.heap.size ≤ B0 →
      Calls Try.prog 75 #[.slice A n c, .func (.func 76) #[] #[.pointer (some ⟨Bm, 0, none⟩), .pointer (some ⟨B0, 0, none⟩)]] w1 fun e w' => ∃ v' : Value, e = .returned (.tuple #[v', .int .i64 R.2.1, .int .i64 R.2.2]) ∧ Kd.R k24 24 w' w1.heap.size (fun _ => True) v' R.1 ∧ w1.grownBy w' (some B0) ∧ w'.heap[B0]? = some (.cells #[.int .i64 F.1, .int .i64 F.2.1, .int .i64 F.2.2, .int .i64 0] 39 (0, 0)) ∧ w'.heap[Bm]? = some (.cells #[.string m] 9 (0, 0))))
    (HWE : Aside0 (∀ (A : Option Addr) (c : Nat) (w1 : World), Kd.C k24 w1 A R.1.length R.1 → R.1.length ≤ c → Calls Try.prog 25 #[.slice A R.1.length c, .string m] w1 fun e w' => e = .returned (.tuple #[.int .i64 T.1, .int .i64 T.2]) ∧ Below w1.heap.size w1 w')) :
    Calls Try.prog 22 #[.slice A n c, .string m] w fun e w' => e = .returned (.tuple #[.agg #[.int .i64 F.1, .int .i64 F.2.1, .int .i64 F.2.2, .int .i64 T.1], .int .i64 0]) ∧ Below w.heap.size w w' := by
  obtain ⟨r1, r2, r3⟩ := R
  obtain ⟨F1, F2, F3⟩ := F
  obtain ⟨T1, T2⟩ := T
  simp only at HRUN HWE he ⊢
  subst he
  obtain ⟨q, hq⟩ : ∃ q, q = r1.length := ⟨_, rfl⟩
  have HQ := Aside0.mk hq
  rw [← hq] at HWE
  clear hq
  go_enter Try.func22, Try.ntmps22
  go_wp2_with (first | ((with_reducible refine gate_dst (N := 3) rfl ?_); refine box_event ?hg (N := 3) ?hd (cs := #[.string m]) (t := 9) ?hr ?_; (case hd => rfl); (case hg => rfl); (case hr => first | (go_simp; done) | (go_simp; rfl)); intro Bm hgb w1 hbox hb1; have BW := Aside0.mk hb1; have BM := Aside0.mk hbox; clear hgb hbox hb1) | ((with_reducible refine gate_dst (N := 4) rfl ?_); refine box_event ?hg (N := 4) ?hd (cs := #[.int .i64 0, .int .i64 0, .int .i64 0, .int .i64 0]) (t := 39) ?hr ?_; (case hd => rfl); (case hg => rfl); (case hr => first | (go_simp; done) | (go_simp; rfl)); intro gr hgb w1 hbox hb1; have GR := Aside0.mk (show w.heap.size ≤ gr by rw [hgb]; exact BW.out.size); replace BM := Aside0.mk ((hb1.block _ (blk_lt BM.out)).trans BM.out); replace BW := Aside0.mk (below_then BW.out BW.out.size hb1); have BR := Aside0.mk hbox; clear hgb hbox hb1) | ((with_reducible refine gate_dst (N := 6) rfl ?_); refine box_event ?hg (N := 6) ?hd (cs := #[.int .i64 0, .int .i64 0, .int .i64 0, .int .i64 0]) (t := 39) ?hr ?_; (case hd => rfl); (case hg => rfl); (case hr => first | (go_simp; done) | (go_simp; rfl)); intro B0 hgb w1 hbox hb1; have N1 := Aside0.mk (show Bm ≠ B0 by have := blk_lt BM.out; omega); have N2 := Aside0.mk (show gr ≠ B0 by have := blk_lt BR.out; omega); have GE := Aside0.mk (show w.heap.size ≤ B0 by rw [hgb]; exact BW.out.size); replace BM := Aside0.mk ((hb1.block _ (blk_lt BM.out)).trans BM.out); replace BR := Aside0.mk ((hb1.block _ (blk_lt BR.out)).trans BR.out); replace BW := Aside0.mk (below_then BW.out BW.out.size hb1); have BB := Aside0.mk hbox; clear hgb hbox hb1) | (go_at_call 75; refine (HRUN.out _ _ _ BW.out BM.out BB.out N1.out GE.out).mono ?_; rintro e w2 ⟨v', rfl, hR, hG, hB, hM⟩; obtain ⟨A2, c2, rfl, hc2, hC2⟩ := Kd.R_reads hR; rw [← HQ.out] at hc2 hC2 ⊢; have HC2 := Aside0.mk hC2; have HL2 := Aside0.mk hc2; replace BR := Aside0.mk ((hG.block _ (blk_lt BR.out) (fun e => N2.out (by injection e))).trans BR.out); replace BB := Aside0.mk hB; replace BM := Aside0.mk hM; have u0 := (blk_cell hM 0).trans rfl; replace BW := Aside0.mk (Below.grown BW.out hG BW.out.size (fun k hk => by injection hk with hk; subst hk; exact GE.out)); clear hG hR hB hM hc2 hC2) | (go_at_call 25; refine (HWE.out _ _ _ HC2.out HL2.out).mono ?_; rintro e w3 ⟨rfl, hb'⟩; replace BR := Aside0.mk ((hb'.block _ (blk_lt BR.out)).trans BR.out); replace BB := Aside0.mk ((hb'.block _ (blk_lt BB.out)).trans BB.out); have b3 := (blk_cell BB.out 3).trans rfl; have f3 := blk_frozen BB.out 3; replace BW := Aside0.mk (below_then BW.out BW.out.size hb'); clear hb' u0) | ((with_reducible refine gate_load (T := 39) rfl ?_); refine ev_row (g := B0) (t := 39) (cs := #[.int .i64 F1, .int .i64 F2, .int .i64 F3, .int .i64 T1]) rfl rfl ?hx (blk_put (cs := #[.int .i64 F1, .int .i64 F2, .int .i64 F3, .int .i64 0]) BB.out 3 _ rfl) Try.underlying39 rfl (by kernel_rfl) ?_; (case hx => first | rfl | (go_simp; done) | (go_simp; rfl))) | ((with_reducible refine gate_store (T := 39) rfl ?_); refine ev_store (g := gr) (t := 39) (old := #[.int .i64 0, .int .i64 0, .int .i64 0, .int .i64 0]) (cells := #[.int .i64 F1, .int .i64 F2, .int .i64 F3, .int .i64 T1]) rfl rfl ?hx ?hy ((Below.heap_setCell _ _ _ gr N2.out).trans BR.out) rfl (by kernel_rfl) (by simp [Value.oneCell']) ?_; (case hx => first | rfl | (go_simp; done) | (go_simp; rfl)); (case hy => first | rfl | (go_simp; done) | (go_simp; rfl)); intro w4 hb2 hg2 hs2; replace BW := Aside0.mk (Below.grown (below_set BW.out GE.out) hg2 (below_set BW.out GE.out).size (fun k hk => by injection hk with hk; subst hk; exact GR.out)); replace BR := Aside0.mk hb2; clear hb2 hg2 hs2 b3 f3))
  refine bodyPost_ret (results_ct rfl _ _ gr 39 #[.int .i64 F1, .int .i64 F2, .int .i64 F3, .int .i64 T1] (0, 0) _ rfl BR.out Try.underlying39 rfl (by kernel_rfl)) rfl ?_
  exact ⟨rfl, BW.out⟩
theorem parcel_Audit.calls (A0 : Option Addr) (c0 : Nat) (l0 : List (S34)) (a1 : ByteArray) (r1 : Int) (r2 : Int) (r3 : Int) (r4 : Int) (r5 : Int) (w : World) (hr0 : Kd.C k34 w A0 l0.length l0) (hc0 : l0.length ≤ c0) (h : parcel_Audit.f l0 a1 = some (r1, r2, r3, r4, r5)) :
    Calls Try.prog 22 #[.slice A0 l0.length c0, .string a1] w fun e w' => e = .returned (.tuple #[.agg #[.int .i64 r1, .int .i64 r2, .int .i64 r3, .int .i64 r4], .int .i64 r5]) ∧ Below w.heap.size w w' := by
  unfold parcel_Audit.f at h
  by_cases he : (runR l0).2.2 = 0
  · rw [if_pos he] at h
    simp only [Option.some.injEq, Prod.mk.injEq] at h
    obtain ⟨rfl, rfl, rfl, rfl, rfl⟩ := h
    refine audit_ok a1 A0 l0.length c0 (runR l0) (audGo a1 l0 [] (0, 0, 0)) (weighW (runR l0).1 a1) w he ⟨fun Bm B0 w1 hb hm h0 hne hge => ?_⟩ ⟨fun A c w1 hC hc => parcel_Weigh.calls _ A c (runR l0).1 a1 _ _ w1 hC hc (weigh_eq _ _ (Nat.le_trans (runR_len _) (by omega)))⟩
    refine (run_audit a1 A0 c0 l0 w hr0 hc0 Bm B0 w1 hb hm h0 hne hge).mono ?_
    rintro e w' ⟨v', q1, q2, q3, q4⟩
    obtain ⟨q5, q6⟩ := q4 he
    exact ⟨v', q1, q2, q3, q5, q6⟩
  · rw [if_neg he] at h
    simp only [Option.some.injEq, Prod.mk.injEq] at h
    obtain ⟨rfl, rfl, rfl, rfl, rfl⟩ := h
    refine audit_bad a1 A0 l0.length c0 (runR l0) w he ⟨fun Bm B0 w1 hb hm h0 hne hge => ?_⟩
    refine (run_audit a1 A0 c0 l0 w hr0 hc0 Bm B0 w1 hb hm h0 hne hge).mono ?_
    rintro e w' ⟨v', q1, q2, q3, q4⟩
    exact ⟨v', q1, q3⟩
end Go.Proofs.Ytndbchcfjajgbaa.XP
