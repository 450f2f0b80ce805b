/- job.Find, walked: the first item with an identifier; slices.Clone at items. -/
import Derived.Test.YtndbchcfjajgbaaXB
import Derived.Test.YtndbchcfjajgbaaHandTaken
import Derived.Test.YtndbchcfjajgbaaHandFind
import Derived.Test.YtndbchcfjajgbaaHandInsI
import Derived.Test.YtndbchcfjajgbaaXE
import Derived.Lib.SliceRun
namespace Go.Proofs.Ytndbchcfjajgbaa.XP
open Go.Proofs.Ytndbchcfjajgbaa.XB Go.Proofs.Ytndbchcfjajgbaa.XQ
open Go.RowKit Go.Proofs Go.Proofs.YtndbchcfjajgbaaW.PrintWords Go.Proofs.YtndbchcfjajgbaaW.PrintLast Go.Proofs.Ytndbchcfjajgbaa.XH Go.Proofs.Ytndbchcfjajgbaa.XE Go.Proofs.Ytndbchcfjajgbaa.XW
set_option linter.unusedVariables false
set_option linter.unusedSimpArgs false
def isIdI (s : ByteArray) (x : S99) : Bool := x.f0.f0.toList == s.toList
set_option maxHeartbeats 4000000 in
set_option maxRecDepth 100000 in
theorem cl97 (s : ByteArray) (g : Nat) (w : World) (hg : w.heap[g]? = some (.cells #[.string s] 9 (0, 0))) : PredK Try.prog 97 #[.pointer (some ⟨g, 0, none⟩)] k99 agg (isIdI s) w := by
  intro W x cs hb hK
  have hc0 : W.cell? ⟨g, 0, none⟩ = some (.string s) := (hb.cell (p := ⟨g, 0, none⟩) (blk_lt hg)).trans (blk_cell hg 0)
  have hlt : g < W.heap.size := Nat.lt_of_lt_of_le (blk_lt hg) hb.size
  obtain rfl := k99_open hK
  show Calls Try.prog 97 #[.agg #[.string x.f0.f0, .string x.f0.f1, .string x.f0.f2, .int .i64 x.f0.f3, .int .i64 x.f0.f4, .int .i64 x.f1, .int .i64 x.f2, .int .i64 x.f3, .int .i64 x.f4, .string x.f5.f0, .string x.f5.f1, .int .i64 x.f5.f2, .int .i64 x.f5.f3], .pointer (some ⟨g, 0, none⟩)] W _
  clear hK hg hb
  have HL := Aside0.mk hlt
  have HC0 := Aside0.mk hc0
  clear hlt hc0
  unfold isIdI
  cases e1 : (x.f0.f0.toList == s.toList)
  all_goals
    go_enter Try.func97, Try.ntmps97
    go_wp2_with ((with_reducible refine gate_dst (N := 2) rfl ?_); refine bx_ (N := 2) (cs := #[.string x.f0.f0, .string x.f0.f1, .string x.f0.f2, .int .i64 x.f0.f3, .int .i64 x.f0.f4, .int .i64 x.f1, .int .i64 x.f2, .int .i64 x.f3, .int .i64 x.f4, .string x.f5.f0, .string x.f5.f1, .int .i64 x.f5.f2, .int .i64 x.f5.f3]) (t := 99) ?_; intro gb hgb w1 hbox hb1; have BW0 := Aside0.mk hb1; have k0 := (blk_cell hbox 0).trans rfl; have kc := (hb1.cell (p := ⟨g, 0, none⟩) HL.out).trans HC0.out; clear hgb hbox hb1)
    go_ret
    exact ⟨by simp, BW0.out⟩
set_option maxHeartbeats 4000000 in
set_option maxRecDepth 100000 in
theorem clone85 (A : Option Addr) (c : Nat) (xs : List S99) (w : World) (hr : Kd.C k99 w A xs.length xs) (hc : xs.length ≤ c) (hn : xs.length ≤ 1000) :
    Calls Try.prog 85 #[.slice A xs.length c] w fun e w' => ∃ v', e = .returned v' ∧ Kd.R k99 99 w' w.heap.size (fun _ => True) v' xs ∧ Below w.heap.size w w' := by
  obtain ⟨n, hnn⟩ : ∃ n, n = xs.length := ⟨_, rfl⟩
  rw [← hnn] at hr hc hn ⊢
  cases A with
  | none =>
    have h0 : n = 0 := by
      rcases Nat.eq_zero_or_pos n with h | h
      · exact h
      · obtain ⟨ad, e, _⟩ := hr.2.2 h; cases e
    subst h0
    have hx : xs = [] := List.eq_nil_of_length_eq_zero hnn.symm
    subst hx
    clear hr hnn
    have heq : ∀ w : World, (binOp .eql 75 (.slice none 0 c) (.slice none 0 0)).run Try.prog w = .ok (.bool true) w := fun w => Lib.run_eql_slice_nil w 75 99 none 0 c 0 0 Try.underlying75
    go_enter Try.func85, Try.ntmps85
    go_wp2_with (simp only [heq])
    go_ret
    exact ⟨_, rfl, Kd.R_nil _ _ _ _ _, by repeat (first | exact Below.refl _ _ | apply below_alloc | apply pw_below_drewN | apply below_drew1)⟩
  | some ad =>
    have HR := Aside0.mk hr
    have HN := Aside0.mk hnn
    clear hr hnn
    have heq : ∀ w : World, (binOp .eql 75 (.slice (some ad) n c) (.slice none 0 0)).run Try.prog w = .ok (.bool false) w := fun w => Lib.run_eql_slice_nil w 75 99 (some ad) n c 0 0 Try.underlying75
    go_enter Try.func85, Try.ntmps85
    go_wp2_with (first | (simp only [heq]) | ((with_reducible refine gate_dst (N := 5) rfl ?_); refine Kd.R_lit k99 (w0 := w) w.heap.size 99 rfl (N := 5) rfl (xs := ([] : List S99)) (inner := []) (ok := fun _ => True) (okp := fun _ => False) ?hr (by exact Reps.none _ _) (fun _ hk => hk.elim) trivial (Below.refl _ _) (Nat.le_refl _) (by simp) ?_; (case hr => first | (go_simp; done) | (go_simp; rfl)); intro v1 w1 hR hb _ _; have HR1 := Aside0.mk hR; have HB1 := Aside0.mk hb; clear hR hb) | (at_builtin; refine Kd.R_append_rows k99 (w0 := w) w.heap.size rfl (.tmp 5) (.tmp 6) 75 99 z99v 144 rfl Try.underlying75 info99 rfl (by decide) (by omega) _ [] xs (some ad) n c (fun _ => True) (fun _ => False) rfl rfl HR1.out (Kd.C_below HR.out HB1.out) (fun x cs hx => by rw [k99_open hx]; exact k99_mkM _ _ _ x) (fun _ hk => hk.elim) (fun k hk => trivial) HB1.out HB1.out.size (by simp; omega) ?_; intro v2 w2 ho2 hb2 _ _))
    go_ret
    exact ⟨v2, rfl, ho2, hb2⟩
def fndI (l : List S99) (s : ByteArray) : S99 := if 0 ≤ idx (isIdI s) l 0 then rd_T99 l (idx (isIdI s) l 0) else z99
def hasI (l : List S99) (s : ByteArray) : Bool := decide (0 ≤ idx (isIdI s) l 0)
def job_Find.f (a0_0 : Int) (l0_1 : List (S99)) (l0_2 : List (S24)) (a0_3 : Int) (a0_4 : Int) (a1 : ByteArray) : Option (ByteArray × ByteArray × ByteArray × Int × Int × Int × Int × Int × Int × ByteArray × ByteArray × Int × Int × Bool) :=
  some ((fndI l0_1 a1).f0.f0, (fndI l0_1 a1).f0.f1, (fndI l0_1 a1).f0.f2, (fndI l0_1 a1).f0.f3, (fndI l0_1 a1).f0.f4, (fndI l0_1 a1).f1, (fndI l0_1 a1).f2, (fndI l0_1 a1).f3, (fndI l0_1 a1).f4, (fndI l0_1 a1).f5.f0, (fndI l0_1 a1).f5.f1, (fndI l0_1 a1).f5.f2, (fndI l0_1 a1).f5.f3, hasI l0_1 a1)
set_option maxHeartbeats 4000000 in
set_option maxRecDepth 100000 in
theorem job_Find.calls (a0_0 : Int) (A0_1 : Option Addr) (c0_1 : Nat) (l0_1 : List (S99)) (A0_2 : Option Addr) (c0_2 : Nat) (l0_2 : List (S24)) (a0_3 : Int) (a0_4 : Int) (a1 : ByteArray) (r1 : ByteArray) (r2 : ByteArray) (r3 : ByteArray) (r4 : Int) (r5 : Int) (r6 : Int) (r7 : Int) (r8 : Int) (r9 : Int) (r10 : ByteArray) (r11 : ByteArray) (r12 : Int) (r13 : Int) (r14 : Bool) (w : World) (hr0_1 : Kd.C k99 w A0_1 l0_1.length l0_1) (hc0_1 : l0_1.length ≤ c0_1) (hr0_2 : Kd.C k24 w A0_2 l0_2.length l0_2) (hc0_2 : l0_2.length ≤ c0_2) (h : job_Find.f a0_0 l0_1 l0_2 a0_3 a0_4 a1 = some (r1, r2, r3, r4, r5, r6, r7, r8, r9, r10, r11, r12, r13, r14)) :
    Calls Try.prog 49 #[.agg #[.int .i64 a0_0, .slice A0_1 l0_1.length c0_1, .slice A0_2 l0_2.length c0_2, .int .i64 a0_3, .int .i64 a0_4], .string a1] w fun e w' => e = .returned (.tuple #[.agg #[.string r1, .string r2, .string r3, .int .i64 r4, .int .i64 r5, .int .i64 r6, .int .i64 r7, .int .i64 r8, .int .i64 r9, .string r10, .string r11, .int .i64 r12, .int .i64 r13], .bool r14]) ∧ Below w.heap.size w w' := by
  have eg := enters_of Try.func97 t_74 rfl
  have HF := Aside0.mk (fun (g : Nat) (w1 : World) (hb : Below w.heap.size w w1) (hg : w1.heap[g]? = some (.cells #[.string a1] 9 (0, 0))) => IndexFunc96 97 #[.pointer (some ⟨g, 0, none⟩)] eg (isIdI a1) A0_1 c0_1 l0_1 w1 (Kd.C_below hr0_1 hb) hc0_1 (cl97 a1 g w1 hg))
  have HR0 := Aside0.mk hr0_1
  have hbd := idx_bound (isIdI a1) l0_1 0
  clear hr0_1 hc0_1 hr0_2 hc0_2 eg
  unfold job_Find.f at h
  simp only [Option.some.injEq, Prod.mk.injEq] at h
  unfold fndI hasI at h
  obtain ⟨i, hi⟩ : ∃ i, i = idx (isIdI a1) l0_1 0 := ⟨_, rfl⟩
  rw [← hi] at HF h hbd
  clear hi
  obtain ⟨m, hm⟩ : ∃ m, m = l0_2.length := ⟨_, rfl⟩
  rw [← hm]
  clear hm
  by_cases h0 : 0 ≤ i
  · rw [if_pos h0, decide_eq_true h0] at h
    have hlt : i < (l0_1.length : Int) := by omega
    clear hbd
    obtain ⟨x, hx⟩ : ∃ x, x = rd_T99 l0_1 i := ⟨_, rfl⟩
    obtain ⟨ad, e1, hx0, hx1, hx2, hx3, hx4, hx5, hx6, hx7, hx8, hx9, hx10, hx11, hx12⟩ := at_T99 HR0.out i h0 hlt
    cases e1
    rw [← hx] at h hx0 hx1 hx2 hx3 hx4 hx5 hx6 hx7 hx8 hx9 hx10 hx11 hx12
    obtain ⟨rfl, rfl, rfl, rfl, rfl, rfl, rfl, rfl, rfl, rfl, rfl, rfl, rfl, rfl⟩ := h
    have HX := Aside0.mk (fun (w1 : World) (hb : Below w.heap.size w w1) => And.intro ((hb.cell (World.block_lt_of_cell? w _ hx0)).trans hx0) (CellsFrom.cons ((hb.cell (World.block_lt_of_cell? w _ hx1)).trans hx1) (CellsFrom.cons ((hb.cell (World.block_lt_of_cell? w _ hx2)).trans hx2) (CellsFrom.cons ((hb.cell (World.block_lt_of_cell? w _ hx3)).trans hx3) (CellsFrom.cons ((hb.cell (World.block_lt_of_cell? w _ hx4)).trans hx4) (CellsFrom.cons ((hb.cell (World.block_lt_of_cell? w _ hx5)).trans hx5) (CellsFrom.cons ((hb.cell (World.block_lt_of_cell? w _ hx6)).trans hx6) (CellsFrom.cons ((hb.cell (World.block_lt_of_cell? w _ hx7)).trans hx7) (CellsFrom.cons ((hb.cell (World.block_lt_of_cell? w _ hx8)).trans hx8) (CellsFrom.cons ((hb.cell (World.block_lt_of_cell? w _ hx9)).trans hx9) (CellsFrom.cons ((hb.cell (World.block_lt_of_cell? w _ hx10)).trans hx10) (CellsFrom.cons ((hb.cell (World.block_lt_of_cell? w _ hx11)).trans hx11) (CellsFrom.cons ((hb.cell (World.block_lt_of_cell? w _ hx12)).trans hx12) CellsFrom.nil)))))))))))))
    clear HR0 hx hx0 hx1 hx2 hx3 hx4 hx5 hx6 hx7 hx8 hx9 hx10 hx11 hx12
    obtain ⟨n, hn⟩ : ∃ n, n = l0_1.length := ⟨_, rfl⟩
    rw [← hn] at HF hlt ⊢
    clear hn
    have c1b : decide (i < 0) = false := decide_eq_false (by omega)
    replace h0 := eq_true h0
    replace hlt := eq_true hlt
    go_enter Try.func49, Try.ntmps49
    go_wp2_with (first | ((with_reducible refine gate_dst (N := 2) rfl ?_); refine bx_ (N := 2) (cs := #[.int .i64 a0_0, .slice (some ad) n c0_1, .slice A0_2 m c0_2, .int .i64 a0_3, .int .i64 a0_4]) (t := 77) ?_; intro gs hgs w1 hbox hb1; have BW := Aside0.mk hb1; have BS := Aside0.mk hbox; clear hgs hbox hb1) | ((with_reducible refine gate_dst (N := 3) rfl ?_); refine bx_ (N := 3) (cs := #[.string a1]) (t := 9) ?_; intro gb hgb w2 hbox hb2; replace BW := Aside0.mk (below_then BW.out BW.out.size hb2); replace BS := Aside0.mk ((hb2.block _ (blk_lt BS.out)).trans BS.out); have BK := Aside0.mk hbox; clear hgb hbox hb2) | ((with_reducible refine gate_dst (N := 4) rfl ?_); refine bx_ (N := 4) (cs := #[.string (⟨#[]⟩ : ByteArray), .string (⟨#[]⟩ : ByteArray), .string (⟨#[]⟩ : ByteArray), .int .i64 0, .int .i64 0, .int .i64 0, .int .i64 0, .int .i64 0, .int .i64 0, .string (⟨#[]⟩ : ByteArray), .string (⟨#[]⟩ : ByteArray), .int .i64 0, .int .i64 0]) (t := 99) ?_; intro gr hgr w3 hbox hb3; have GR := Aside0.mk (t_6a : w.heap.size ≤ gr); replace BW := Aside0.mk (below_then BW.out BW.out.size hb3); replace BS := Aside0.mk ((hb3.block _ (blk_lt BS.out)).trans BS.out); replace BK := Aside0.mk ((hb3.block _ (blk_lt BK.out)).trans BK.out); have BR := Aside0.mk hbox; have y1 := (blk_cell BS.out 1).trans rfl; clear hgr hbox hb3) | (go_at_call 96; (with_reducible refine (HF.out gb _ BW.out BK.out).mono ?_); rintro e w4 ⟨rfl, hb4⟩; replace BW := Aside0.mk (below_then BW.out BW.out.size hb4); replace BS := Aside0.mk ((hb4.block _ (blk_lt BS.out)).trans BS.out); replace BR := Aside0.mk ((hb4.block _ (blk_lt BR.out)).trans BR.out); clear y1; have y1 := (blk_cell BS.out 1).trans rfl; clear hb4) | ((with_reducible refine gate_load (T := 99) rfl ?_); refine ev_load 12 rfl rfl Try.underlying99 rfl t_74 ?hx (HX.out _ BW.out).1 (HX.out _ BW.out).2 ?_; (case hx => first | rfl | (go_simp; done) | (go_simp; rfl))) | ((with_reducible refine gate_store (T := 99) rfl ?_); refine ev_store (g := gr) (t := 99) (old := #[.string (⟨#[]⟩ : ByteArray), .string (⟨#[]⟩ : ByteArray), .string (⟨#[]⟩ : ByteArray), .int .i64 0, .int .i64 0, .int .i64 0, .int .i64 0, .int .i64 0, .int .i64 0, .string (⟨#[]⟩ : ByteArray), .string (⟨#[]⟩ : ByteArray), .int .i64 0, .int .i64 0]) (cells := #[.string x.f0.f0, .string x.f0.f1, .string x.f0.f2, .int .i64 x.f0.f3, .int .i64 x.f0.f4, .int .i64 x.f1, .int .i64 x.f2, .int .i64 x.f3, .int .i64 x.f4, .string x.f5.f0, .string x.f5.f1, .int .i64 x.f5.f2, .int .i64 x.f5.f3]) rfl rfl ?hx ?hy BR.out rfl t_74 t_6e ?_; (case hx => first | rfl | (go_simp; done) | (go_simp; rfl)); (case hy => first | rfl | (go_simp; done) | (go_simp; rfl)); intro w5 hb2 hg2 hs2; replace BW := Aside0.mk (Below.grown BW.out hg2 BW.out.size (fun k hk => by injection hk with hk; subst hk; exact GR.out)); replace BR := Aside0.mk hb2; clear hb2 hg2 hs2))
    refine bodyPost_ret (results_ct rfl _ _ gr 99 #[.string x.f0.f0, .string x.f0.f1, .string x.f0.f2, .int .i64 x.f0.f3, .int .i64 x.f0.f4, .int .i64 x.f1, .int .i64 x.f2, .int .i64 x.f3, .int .i64 x.f4, .string x.f5.f0, .string x.f5.f1, .int .i64 x.f5.f2, .int .i64 x.f5.f3] (0, 0) _ rfl BR.out Try.underlying99 rfl t_74) rfl ?_
    exact ⟨rfl, BW.out⟩
  · rw [if_neg h0, decide_eq_false h0] at h
    obtain ⟨rfl, rfl, rfl, rfl, rfl, rfl, rfl, rfl, rfl, rfl, rfl, rfl, rfl, rfl⟩ := h
    clear hbd HR0
    obtain ⟨n, hn⟩ : ∃ n, n = l0_1.length := ⟨_, rfl⟩
    rw [← hn] at HF ⊢
    clear hn
    have c1b : decide (i < 0) = true := decide_eq_true (by omega)
    clear h0
    go_enter Try.func49, Try.ntmps49
    go_wp2_with (first | ((with_reducible refine gate_dst (N := 2) rfl ?_); refine bx_ (N := 2) (cs := #[.int .i64 a0_0, .slice A0_1 n c0_1, .slice A0_2 m c0_2, .int .i64 a0_3, .int .i64 a0_4]) (t := 77) ?_; intro gs hgs w1 hbox hb1; have BW := Aside0.mk hb1; have BS := Aside0.mk hbox; clear hgs hbox hb1) | ((with_reducible refine gate_dst (N := 3) rfl ?_); refine bx_ (N := 3) (cs := #[.string a1]) (t := 9) ?_; intro gb hgb w2 hbox hb2; replace BW := Aside0.mk (below_then BW.out BW.out.size hb2); replace BS := Aside0.mk ((hb2.block _ (blk_lt BS.out)).trans BS.out); have BK := Aside0.mk hbox; clear hgb hbox hb2) | ((with_reducible refine gate_dst (N := 4) rfl ?_); refine bx_ (N := 4) (cs := #[.string (⟨#[]⟩ : ByteArray), .string (⟨#[]⟩ : ByteArray), .string (⟨#[]⟩ : ByteArray), .int .i64 0, .int .i64 0, .int .i64 0, .int .i64 0, .int .i64 0, .int .i64 0, .string (⟨#[]⟩ : ByteArray), .string (⟨#[]⟩ : ByteArray), .int .i64 0, .int .i64 0]) (t := 99) ?_; intro gr hgr w3 hbox hb3; have GR := Aside0.mk (t_6a : w.heap.size ≤ gr); replace BW := Aside0.mk (below_then BW.out BW.out.size hb3); replace BS := Aside0.mk ((hb3.block _ (blk_lt BS.out)).trans BS.out); replace BK := Aside0.mk ((hb3.block _ (blk_lt BK.out)).trans BK.out); have BR := Aside0.mk hbox; have y1 := (blk_cell BS.out 1).trans rfl; clear hgr hbox hb3) | (go_at_call 96; (with_reducible refine (HF.out gb _ BW.out BK.out).mono ?_); rintro e w4 ⟨rfl, hb4⟩; replace BW := Aside0.mk (below_then BW.out BW.out.size hb4); replace BS := Aside0.mk ((hb4.block _ (blk_lt BS.out)).trans BS.out); replace BR := Aside0.mk ((hb4.block _ (blk_lt BR.out)).trans BR.out); clear y1; have y1 := (blk_cell BS.out 1).trans rfl; clear hb4) | ((with_reducible refine gate_store (T := 99) rfl ?_); refine ev_store (g := gr) (t := 99) (old := #[.string (⟨#[]⟩ : ByteArray), .string (⟨#[]⟩ : ByteArray), .string (⟨#[]⟩ : ByteArray), .int .i64 0, .int .i64 0, .int .i64 0, .int .i64 0, .int .i64 0, .int .i64 0, .string (⟨#[]⟩ : ByteArray), .string (⟨#[]⟩ : ByteArray), .int .i64 0, .int .i64 0]) (cells := #[.string (⟨#[]⟩ : ByteArray), .string (⟨#[]⟩ : ByteArray), .string (⟨#[]⟩ : ByteArray), .int .i64 0, .int .i64 0, .int .i64 0, .int .i64 0, .int .i64 0, .int .i64 0, .string (⟨#[]⟩ : ByteArray), .string (⟨#[]⟩ : ByteArray), .int .i64 0, .int .i64 0]) rfl rfl ?hx ?hy BR.out rfl t_74 t_6e ?_; (case hx => first | rfl | (go_simp; done) | (go_simp; rfl)); (case hy => first | rfl | (go_simp; done) | (go_simp; rfl)); intro w5 hb2 hg2 hs2; replace BW := Aside0.mk (Below.grown BW.out hg2 BW.out.size (fun k hk => by injection hk with hk; subst hk; exact GR.out)); replace BR := Aside0.mk hb2; clear hb2 hg2 hs2))
    refine bodyPost_ret (results_ct rfl _ _ gr 99 #[.string (⟨#[]⟩ : ByteArray), .string (⟨#[]⟩ : ByteArray), .string (⟨#[]⟩ : ByteArray), .int .i64 0, .int .i64 0, .int .i64 0, .int .i64 0, .int .i64 0, .int .i64 0, .string (⟨#[]⟩ : ByteArray), .string (⟨#[]⟩ : ByteArray), .int .i64 0, .int .i64 0] (0, 0) _ rfl BR.out Try.underlying99 rfl t_74) rfl ?_
    exact ⟨rfl, BW.out⟩
end Go.Proofs.Ytndbchcfjajgbaa.XP
