/- A shop in memory; job.start, walked. -/
import Derived.Test.YtndbchcfjajgbaaXB
import Derived.Test.YtndbchcfjajgbaaHandJobFind
import Derived.Test.YtndbchcfjajgbaaHandDoF
import Derived.Test.YtndbchcfjajgbaaPureFnd
namespace Go.Proofs.Ytndbchcfjajgbaa.XP
open Go.Proofs.Ytndbchcfjajgbaa.XB Go.Proofs.Ytndbchcfjajgbaa.XQ
open Go Go.RowKit Go.Proofs Go.Proofs.YtndbchcfjajgbaaW.PrintWords Go.Proofs.YtndbchcfjajgbaaW.PrintLast Go.Proofs.Ytndbchcfjajgbaa.XH Go.Proofs.Ytndbchcfjajgbaa.XE Go.Proofs.Ytndbchcfjajgbaa.XW
set_option linter.unusedVariables false
set_option linter.unusedSimpArgs false
/-- The shop's block gs, its items (row gI) and its parcel (v2), all made behind the base. -/
structure JAt (base gs gI n cap : Nat) (v2 : Value) (d e t : Int) (items : List S99) (mm : List S24) (W : World) : Prop where
  hs : W.heap[gs]? = some (.cells #[.int .i64 d, .slice (some ⟨gI, 0, none⟩) n cap, v2, .int .i64 e, .int .i64 t] 77 (0, 0))
  hi : Kd.R k99 99 W base (fun _ => True) (.slice (some ⟨gI, 0, none⟩) n cap) items
  hp : Kd.R k24 24 W base (fun _ => True) v2 mm
section
variable {base gs gI n cap : Nat} {v2 : Value} {d e t : Int} {items : List S99} {mm : List S24} {W W1 : World}
theorem JAt.below (h : JAt base gs gI n cap v2 d e t items mm W) (hb : Below W.heap.size W W1) : JAt base gs gI n cap v2 d e t items mm W1 :=
  ⟨(hb.block _ (blk_lt h.hs)).trans h.hs, Kd.R_below h.hi hb, Kd.R_below h.hp hb⟩
theorem JAt.ne (h : JAt base gs gI n cap v2 d e t items mm W) : gs ≠ gI ∧ v2.ownBlock ≠ some gs ∧ v2.ownBlock ≠ some gI := by
  obtain ⟨c1, h1⟩ := Kd.R_typed h.hi gI rfl
  refine ⟨blk_ne h.hs h1 (by decide), fun e => ?_, fun e => ?_⟩
  · obtain ⟨c2, h2⟩ := Kd.R_typed h.hp gs e
    exact blk_ne h.hs h2 (by decide) rfl
  · obtain ⟨c2, h2⟩ := Kd.R_typed h.hp gI e
    exact blk_ne h1 h2 (by decide) rfl
theorem JAt.shop {v3 : Value} {d' e' t' : Int} {mm' : List S24} (h : JAt base gs gI n cap v2 d e t items mm W) (hg : W.grownBy W1 (some gs)) (hs : W1.heap[gs]? = some (.cells #[.int .i64 d', .slice (some ⟨gI, 0, none⟩) n cap, v3, .int .i64 e', .int .i64 t'] 77 (0, 0))) (hp : Kd.R k24 24 W base (fun _ => True) v3 mm') (hne : v3.ownBlock ≠ some gs) :
    JAt base gs gI n cap v3 d' e' t' items mm' W1 :=
  ⟨hs, Kd.R_grown1 h.hi rfl hg (fun e => h.ne.1 t_8d), Kd.R_grown1 hp rfl hg (fun e => hne e.symm)⟩
theorem JAt.item {items' : List S99} (h : JAt base gs gI n cap v2 d e t items mm W) (hg : W.grownBy W1 (some gI)) (hi : Kd.R k99 99 W1 base (fun _ => True) (.slice (some ⟨gI, 0, none⟩) n cap) items') : JAt base gs gI n cap v2 d e t items' mm W1 :=
  ⟨blk_grown h.hs hg (fun e => h.ne.1 t_8d), hi, Kd.R_grown1 h.hp rfl hg (fun e => h.ne.2.2 e.symm)⟩
end
theorem elemI {W : World} {base g n cap : Nat} {xs : List S99} (h : Kd.R k99 99 W base (fun _ => True) (.slice (some ⟨g, 0, none⟩) n cap) xs) (k : Nat) (hk : k < n) {x : S99} (hx : x = rd_T99 xs k) : ∀ j u, (pcsI x)[j]? = some u → W.cell? ⟨g, k * k99.sz + j, none⟩ = some u := by
  obtain ⟨c, _, hM, hc, hf⟩ := Kd.R_elem h z99 (k : Int) (by omega) (by omega)
  have hq := k99_openM hM
  subst hq
  subst hx
  intro j u hu
  have := hc j u hu
  simpa using this
theorem rd_set99 (xs : List S99) (k : Nat) (z : S99) (hk : k < xs.length) : z = rd_T99 (xs.set k z) k := by
  unfold rd_T99
  simp [List.getD_eq_getElem?_getD, hk]
set_option maxHeartbeats 4000000 in
set_option maxRecDepth 100000 in
theorem start_err (base gs gI n cap k m c2 : Nat) (A : Option Addr) (d e t : Int) (items : List S99) (mm : List S24) (x : S99) (w : World) (p : S24) (bh : Bool) (hk : k < n) (HBS : Aside0 (base ≤ gs)) (HBW : Aside0 (base ≤ w.heap.size)) (HJ : Aside0 (JAt base gs gI n cap (.slice A m c2) d e t items mm w)) (HIx : Aside0 (x = rd_T99 items k)) (HF : Aside0 (∀ W : World, Below w.heap.size w W → Calls Try.prog 26 #[.slice A m c2, .string x.f0.f1] W fun e' w' => e' = .returned (.tuple #[.agg #[.string p.f0, .string p.f1, .int .i64 p.f2, .int .i64 p.f3], .bool bh]) ∧ Below W.heap.size W w')) (er : Int) (her : (er == 0) = false) (ys : List S24) (HD : Aside0 (∀ W : World, Below w.heap.size w W → Calls Try.prog 18 #[.slice A m c2, .agg #[.int .i64 2, .string (⟨#[]⟩ : ByteArray), .string (⟨#[]⟩ : ByteArray), .int .i64 0, .int .i64 0, .string x.f0.f1, .string (⟨#[]⟩ : ByteArray), .int .i64 0, .int .i64 0]] W fun e' w' => ∃ v', e' = .returned (.tuple #[v', .int .i64 er]) ∧ Kd.R k24 24 w' W.heap.size (fun _ => True) v' ys ∧ Below W.heap.size W w')) :
    Calls Try.prog 115 #[.pointer (some ⟨gs, 0, none⟩), .pointer (some ⟨gI, k * 13, none⟩)] w fun e' w' => e' = .returned (.int .i64 er) ∧ Below w.heap.size w w' := by
  have FS := Aside0.mk (show ∀ W : World, Below w.heap.size w W → W.cell? ⟨gs, 2, none⟩ = some (.slice A m c2) ∧ W.cell? ⟨gI, k * 13 + 1, none⟩ = some (.string x.f0.f1) from fun W hb => ⟨(blk_cell (HJ.out.below hb).hs 2).trans rfl, elemI (HJ.out.below hb).hi k hk HIx.out 1 _ rfl⟩)
  have HB_ := Aside0.mk (below_drew (Below.refl w.heap.size w))
  clear HJ
  go_enter Try.func115, Try.ntmps115
  go_wp2
  refine start_ (n := 16) (S := fun w' => w'.cell? ⟨gs, 2, none⟩ = some (.slice A m c2) ∧ w'.cell? ⟨gI, k * 13 + 1, none⟩ = some (.string x.f0.f1)) (ds := [14]) q16_0 t_8e rfl rfl ⟨(FS.out _ HB_.out).1, (FS.out _ HB_.out).2⟩ (fun hHeld => ?_)
  refine p_ (i := 0) (N := some 10) q16_1 rfl rfl t_8e ?_
  refine p_ (i := 1) (N := some 11) q16_3 rfl rfl t_8e ?_
  refine p_ (i := 2) (N := some 12) q16_7 rfl rfl t_8e ?_
  refine p_ (i := 4) (N := some 14) q16_17 rfl rfl t_8e ?_
  refine p_ (i := 5) (N := some 15) q16_37 rfl rfl t_8e ?_
  refine p_ (i := 6) (N := some 16) q16_77 rfl rfl t_8e ?_
  refine p_ (i := 7) (N := some 17) q16_f7 rfl rfl t_8e ?_
  refine k_ (i := 3) (N := some 13) q16_ff rfl rfl t_8e (Or.inl ⟨rfl, t_7e⟩) hHeld ?_
  refine k_ (i := 8) (N := some 18) q16_1ff rfl rfl t_8e (Or.inl ⟨rfl, t_7e⟩) hHeld ?_
  refine join_ (σ := Nat) 2 q16_3fff (fun s_ => [(19, .tuple #[.agg #[.string p.f0, .string p.f1, .int .i64 p.f2, .int .i64 p.f3], .bool bh]), (5, .pointer (some ⟨s_, 0, none⟩)), (9, .tuple #[.agg #[.string p.f0, .string p.f1, .int .i64 p.f2, .int .i64 p.f3], .bool bh]), (20, .agg #[.string p.f0, .string p.f1, .int .i64 p.f2, .int .i64 p.f3]), (21, .bool bh)]) (fun s_ w' => (w'.cell? ⟨gs, 2, none⟩ = some (.slice A m c2) ∧ w'.cell? ⟨gI, k * 13 + 1, none⟩ = some (.string x.f0.f1)) ∧ w'.heap[s_]? = some (.cells #[.string (⟨#[]⟩ : ByteArray), .string (⟨#[]⟩ : ByteArray), .int .i64 0, .int .i64 0] 24 (0, 0)) ∧ w.heap.size ≤ s_ ∧ Below w.heap.size w w') ?_ ?_
  rotate_left
  · intro hCont
    refine two_ (i := 9) (j := 13) (Ni := some 19) (Nj := some 5) q16_3ff q16_21ff rfl rfl rfl rfl t_8e (by decide) (by decide) (fun K hK => ?_) (fun K hK => ?_)
    · skip
      refine goes_ Try.func26 t_8e rfl #[.slice A m c2, .string x.f0.f1] (by rfl) rfl rfl t_6e ?_
      with_reducible refine (HF.out _ HB_.out).mono ?_
      rintro e1 wq_9 ⟨rfl, hb'⟩
      refine ⟨_, rfl, ?_⟩
      have HB_9 := Aside0.mk (below_then HB_.out HB_.out.size hb')
      clear hb'
      refine hK.out _ _ ⟨(FS.out _ HB_9.out).1, (FS.out _ HB_9.out).2⟩ (fun hHeld => ?_)
      clear hK K
      refine norm_ t_47 ?_
      refine p_ (i := 10) (N := some 9) q16_7ff rfl rfl t_8e ?_
      refine p_ (i := 11) (N := some 20) q16_fff rfl rfl t_8e ?_
      refine p_ (i := 12) (N := some 21) q16_1fff rfl rfl t_8e ?_
      refine one_ (i := 13) (N := some 5) q16_3fff rfl rfl t_8e (by decide) (fun K hK => ?_)
      refine box_step (by rfl) (N := 5) rfl (cs := #[.string (⟨#[]⟩ : ByteArray), .string (⟨#[]⟩ : ByteArray), .int .i64 0, .int .i64 0]) (t := 24) ?hr ?_
      (case hr => first | (go_simp; done) | (go_simp; rfl))
      intro gp hgp wq_913 hbox hb'
      have HB_913 := Aside0.mk (below_then HB_9.out HB_9.out.size hb')
      have BP_913 := Aside0.mk hbox
      have GP := Aside0.mk (show w.heap.size ≤ gp by rw [hgp]; exact HB_9.out.size)
      clear hgp hbox hb'
      refine hK.out _ _ ⟨(FS.out _ HB_913.out).1, (FS.out _ HB_913.out).2⟩ (fun hHeld => ?_)
      clear hK K
      refine norm_ t_57 ?_
      exact norm_ t_67 (hCont gp _ ⟨hHeld, BP_913.out, GP.out, HB_913.out⟩)
    · skip
      refine box_step (by rfl) (N := 5) rfl (cs := #[.string (⟨#[]⟩ : ByteArray), .string (⟨#[]⟩ : ByteArray), .int .i64 0, .int .i64 0]) (t := 24) ?hr ?_
      (case hr => first | (go_simp; done) | (go_simp; rfl))
      intro gp hgp wq_13 hbox hb'
      have HB_13 := Aside0.mk (below_then HB_.out HB_.out.size hb')
      have BP_13 := Aside0.mk hbox
      have GP := Aside0.mk (show w.heap.size ≤ gp by rw [hgp]; exact HB_.out.size)
      clear hgp hbox hb'
      refine hK.out _ _ ⟨(FS.out _ HB_13.out).1, (FS.out _ HB_13.out).2⟩ (fun hHeld => ?_)
      clear hK K
      refine norm_ t_57 ?_
      refine one_ (i := 9) (N := some 19) q16_23ff rfl rfl t_8e (by decide) (fun K hK => ?_)
      refine goes_ Try.func26 t_8e rfl #[.slice A m c2, .string x.f0.f1] (by rfl) rfl rfl t_6e ?_
      with_reducible refine (HF.out _ HB_13.out).mono ?_
      rintro e1 wq_139 ⟨rfl, hb'⟩
      refine ⟨_, rfl, ?_⟩
      have HB_139 := Aside0.mk (below_then HB_13.out HB_13.out.size hb')
      have BP_139 := kb hb' BP_13
      clear hb'
      refine hK.out _ _ ⟨(FS.out _ HB_139.out).1, (FS.out _ HB_139.out).2⟩ (fun hHeld => ?_)
      clear hK K
      refine norm_ t_47 ?_
      refine p_ (i := 10) (N := some 9) q16_27ff rfl rfl t_8e ?_
      refine p_ (i := 11) (N := some 20) q16_2fff rfl rfl t_8e ?_
      refine p_ (i := 12) (N := some 21) q16_3fff rfl rfl t_8e ?_
      exact norm_ t_67 (hCont gp _ ⟨hHeld, BP_139.out, GP.out, HB_139.out⟩)
  rintro gp wj ⟨hS_, hp_, hg_, hb_⟩
  have BPj := Aside0.mk hp_
  have GPj := Aside0.mk hg_
  have HBj := Aside0.mk hb_
  have hHeld : wj.cell? ⟨gs, 2, none⟩ = some (.slice A m c2) ∧ wj.cell? ⟨gI, k * 13 + 1, none⟩ = some (.string x.f0.f1) := hS_
  clear hS_ hp_ hg_ hb_
  refine norm_ (a' := ?_) ?_ ?_
  rotate_left
  · simp only [putAll, Act.put, List.setIfInBounds_toArray, List.set_cons_zero, List.set_cons_succ]
    rfl
  refine last_ (i := 14) (N := none) q16_7fff rfl rfl t_8e (by decide) (fun K hK => ?_)
  refine step_storeAt (g := gp) (t := 24) (off := 0) (old := #[.string (⟨#[]⟩ : ByteArray), .string (⟨#[]⟩ : ByteArray), .int .i64 0, .int .i64 0]) (new := #[.string p.f0, .string p.f1, .int .i64 p.f2, .int .i64 p.f3]) (u := .agg #[.string p.f0, .string p.f1, .int .i64 p.f2, .int .i64 p.f3]) (seg := [.string p.f0, .string p.f1, .int .i64 p.f2, .int .i64 p.f3]) (by rfl) rfl rfl (by rfl) (by rfl) rfl t_8e t_88 BPj.out (by simp) rfl ?_
  intro wk hb2 hg2 hs2
  have BPk := Aside0.mk hb2
  have HBk := Aside0.mk (Below.grown HBj.out hg2 HBj.out.size (fun k hk => by injection hk with hk; subst hk; exact GPj.out))
  clear hb2 hg2 hs2
  refine hK.out _ _ ?_
  clear hK K
  refine p_ (i := 15) (N := some 6) q16_ffff rfl rfl t_8e ?_
  refine done_ t_8e ?_
  go_wp2
  refine start_ (n := 16) (S := fun w' => w'.cell? ⟨gs, 2, none⟩ = some (.slice A m c2) ∧ w'.cell? ⟨gI, k * 13 + 1, none⟩ = some (.string x.f0.f1)) (ds := [10]) q16_0 t_8e rfl rfl ⟨(FS.out _ (below_drew HBk.out)).1, (FS.out _ (below_drew HBk.out)).2⟩ (fun hHeld => ?_)
  refine p_ (i := 0) (N := some 23) q16_1 rfl rfl t_8e ?_
  refine p_ (i := 1) (N := some 24) q16_3 rfl rfl t_8e ?_
  refine p_ (i := 2) (N := some 25) q16_7 rfl rfl t_8e ?_
  refine p_ (i := 4) (N := some 27) q16_17 rfl rfl t_8e ?_
  refine p_ (i := 5) (N := some 28) q16_37 rfl rfl t_8e ?_
  refine p_ (i := 6) (N := some 29) q16_77 rfl rfl t_8e ?_
  refine p_ (i := 7) (N := some 30) q16_f7 rfl rfl t_8e ?_
  refine k_ (i := 3) (N := some 26) q16_ff rfl rfl t_8e (Or.inl ⟨rfl, t_7e⟩) hHeld ?_
  refine k_ (i := 8) (N := some 31) q16_1ff rfl rfl t_8e (Or.inl ⟨rfl, t_7e⟩) hHeld ?_
  refine p_ (i := 9) (N := some 32) q16_3ff rfl rfl t_8e ?_
  refine last_ (i := 10) (N := some 33) q16_7ff rfl rfl t_8e (by decide) (fun K hK => ?_)
  refine goes_ Try.func18 t_8e rfl #[.slice A m c2, .agg #[.int .i64 2, .string (⟨#[]⟩ : ByteArray), .string (⟨#[]⟩ : ByteArray), .int .i64 0, .int .i64 0, .string x.f0.f1, .string (⟨#[]⟩ : ByteArray), .int .i64 0, .int .i64 0]] (by rfl) rfl rfl t_6e ?_
  with_reducible refine (HD.out _ (below_drew HBk.out)).mono ?_
  rintro e2 wl ⟨v1, rfl, hR, hb'⟩
  refine ⟨_, rfl, ?_⟩
  obtain ⟨A1, c1, rfl, _, _⟩ := Kd.R_reads hR
  have HR := Aside0.mk (Kd.R_lower hR (Nat.le_trans HBW.out (below_drew HBk.out).size))
  have HNG := Aside0.mk (show ∀ q, (Value.slice A1 ys.length c1).ownBlock = some q → wk.heap.size ≤ q from fun q hq => Kd.R_base hR q hq)
  have HBl := Aside0.mk (below_then (below_drew HBk.out) (below_drew HBk.out).size hb')
  have BPl := Aside0.mk ((hb'.block gp (blk_lt (blk_drew BPk.out))).trans (blk_drew BPk.out))
  clear hR hb'
  refine hK.out _ _ ?_
  clear hK K
  refine norm_ t_48 ?_
  refine p_ (i := 11) (N := some 22) q16_fff rfl rfl t_8e ?_
  refine p_ (i := 12) (N := some 34) q16_1fff rfl rfl t_8e ?_
  refine p_ (i := 13) (N := some 35) q16_3fff rfl rfl t_8e ?_
  refine p_ (i := 14) (N := some 7) q16_7fff rfl rfl t_8e ?_
  refine p_ (i := 15) (N := some 8) q16_ffff rfl rfl t_8e ?_
  refine done_ t_8e ?_
  go_wp2
  go_ret
  exact ⟨rfl, HBl.out⟩
set_option maxHeartbeats 4000000 in
set_option maxRecDepth 100000 in
theorem start_ok (base gs gI n cap k m c2 : Nat) (A : Option Addr) (d e t : Int) (items : List S99) (mm : List S24) (x : S99) (w : World) (p : S24) (bh : Bool) (hk : k < n) (HBS : Aside0 (base ≤ gs)) (HBW : Aside0 (base ≤ w.heap.size)) (HJ : Aside0 (JAt base gs gI n cap (.slice A m c2) d e t items mm w)) (HIx : Aside0 (x = rd_T99 items k)) (HF : Aside0 (∀ W : World, Below w.heap.size w W → Calls Try.prog 26 #[.slice A m c2, .string x.f0.f1] W fun e' w' => e' = .returned (.tuple #[.agg #[.string p.f0, .string p.f1, .int .i64 p.f2, .int .i64 p.f3], .bool bh]) ∧ Below W.heap.size W w')) (ys : List S24) (HD : Aside0 (∀ W : World, Below w.heap.size w W → Calls Try.prog 18 #[.slice A m c2, .agg #[.int .i64 2, .string (⟨#[]⟩ : ByteArray), .string (⟨#[]⟩ : ByteArray), .int .i64 0, .int .i64 0, .string x.f0.f1, .string (⟨#[]⟩ : ByteArray), .int .i64 0, .int .i64 0]] W fun e' w' => ∃ v', e' = .returned (.tuple #[v', .int .i64 0]) ∧ Kd.R k24 24 w' W.heap.size (fun _ => True) v' ys ∧ Below W.heap.size W w')) :
    Calls Try.prog 115 #[.pointer (some ⟨gs, 0, none⟩), .pointer (some ⟨gI, k * 13, none⟩)] w fun e' w' => e' = .returned (.int .i64 0) ∧ ∃ v', JAt base gs gI n cap v' d e t (items.set k ⟨x.f0, 2, x.f2, p.f2, x.f4, p⟩) ys w' ∧ Below base w w' := by
  have FS := Aside0.mk (show ∀ W : World, Below w.heap.size w W → W.cell? ⟨gs, 2, none⟩ = some (.slice A m c2) ∧ W.cell? ⟨gI, k * 13 + 1, none⟩ = some (.string x.f0.f1) from fun W hb => ⟨(blk_cell (HJ.out.below hb).hs 2).trans rfl, elemI (HJ.out.below hb).hi k hk HIx.out 1 _ rfl⟩)
  have HB_ := Aside0.mk (below_drew (Below.refl w.heap.size w))
  have HKL := Aside0.mk (show k < items.length by have := (Kd.R_reads' HJ.out.hi).1; omega)
  have HGI := Aside0.mk (show base ≤ gI from Kd.R_base HJ.out.hi gI rfl)
  go_enter Try.func115, Try.ntmps115
  go_wp2
  refine start_ (n := 16) (S := fun w' => w'.cell? ⟨gs, 2, none⟩ = some (.slice A m c2) ∧ w'.cell? ⟨gI, k * 13 + 1, none⟩ = some (.string x.f0.f1)) (ds := [14]) q16_0 t_8e rfl rfl ⟨(FS.out _ HB_.out).1, (FS.out _ HB_.out).2⟩ (fun hHeld => ?_)
  refine p_ (i := 0) (N := some 10) q16_1 rfl rfl t_8e ?_
  refine p_ (i := 1) (N := some 11) q16_3 rfl rfl t_8e ?_
  refine p_ (i := 2) (N := some 12) q16_7 rfl rfl t_8e ?_
  refine p_ (i := 4) (N := some 14) q16_17 rfl rfl t_8e ?_
  refine p_ (i := 5) (N := some 15) q16_37 rfl rfl t_8e ?_
  refine p_ (i := 6) (N := some 16) q16_77 rfl rfl t_8e ?_
  refine p_ (i := 7) (N := some 17) q16_f7 rfl rfl t_8e ?_
  refine k_ (i := 3) (N := some 13) q16_ff rfl rfl t_8e (Or.inl ⟨rfl, t_7e⟩) hHeld ?_
  refine k_ (i := 8) (N := some 18) q16_1ff rfl rfl t_8e (Or.inl ⟨rfl, t_7e⟩) hHeld ?_
  refine join_ (σ := Nat) 2 q16_3fff (fun s_ => [(19, .tuple #[.agg #[.string p.f0, .string p.f1, .int .i64 p.f2, .int .i64 p.f3], .bool bh]), (5, .pointer (some ⟨s_, 0, none⟩)), (9, .tuple #[.agg #[.string p.f0, .string p.f1, .int .i64 p.f2, .int .i64 p.f3], .bool bh]), (20, .agg #[.string p.f0, .string p.f1, .int .i64 p.f2, .int .i64 p.f3]), (21, .bool bh)]) (fun s_ w' => (w'.cell? ⟨gs, 2, none⟩ = some (.slice A m c2) ∧ w'.cell? ⟨gI, k * 13 + 1, none⟩ = some (.string x.f0.f1)) ∧ w'.heap[s_]? = some (.cells #[.string (⟨#[]⟩ : ByteArray), .string (⟨#[]⟩ : ByteArray), .int .i64 0, .int .i64 0] 24 (0, 0)) ∧ w.heap.size ≤ s_ ∧ Below w.heap.size w w') ?_ ?_
  rotate_left
  · intro hCont
    refine two_ (i := 9) (j := 13) (Ni := some 19) (Nj := some 5) q16_3ff q16_21ff rfl rfl rfl rfl t_8e (by decide) (by decide) (fun K hK => ?_) (fun K hK => ?_)
    · skip
      refine goes_ Try.func26 t_8e rfl #[.slice A m c2, .string x.f0.f1] (by rfl) rfl rfl t_6e ?_
      with_reducible refine (HF.out _ HB_.out).mono ?_
      rintro e1 wq_9 ⟨rfl, hb'⟩
      refine ⟨_, rfl, ?_⟩
      have HB_9 := Aside0.mk (below_then HB_.out HB_.out.size hb')
      clear hb'
      refine hK.out _ _ ⟨(FS.out _ HB_9.out).1, (FS.out _ HB_9.out).2⟩ (fun hHeld => ?_)
      clear hK K
      refine norm_ t_47 ?_
      refine p_ (i := 10) (N := some 9) q16_7ff rfl rfl t_8e ?_
      refine p_ (i := 11) (N := some 20) q16_fff rfl rfl t_8e ?_
      refine p_ (i := 12) (N := some 21) q16_1fff rfl rfl t_8e ?_
      refine one_ (i := 13) (N := some 5) q16_3fff rfl rfl t_8e (by decide) (fun K hK => ?_)
      refine box_step (by rfl) (N := 5) rfl (cs := #[.string (⟨#[]⟩ : ByteArray), .string (⟨#[]⟩ : ByteArray), .int .i64 0, .int .i64 0]) (t := 24) ?hr ?_
      (case hr => first | (go_simp; done) | (go_simp; rfl))
      intro gp hgp wq_913 hbox hb'
      have HB_913 := Aside0.mk (below_then HB_9.out HB_9.out.size hb')
      have BP_913 := Aside0.mk hbox
      have GP := Aside0.mk (show w.heap.size ≤ gp by rw [hgp]; exact HB_9.out.size)
      clear hgp hbox hb'
      refine hK.out _ _ ⟨(FS.out _ HB_913.out).1, (FS.out _ HB_913.out).2⟩ (fun hHeld => ?_)
      clear hK K
      refine norm_ t_57 ?_
      exact norm_ t_67 (hCont gp _ ⟨hHeld, BP_913.out, GP.out, HB_913.out⟩)
    · skip
      refine box_step (by rfl) (N := 5) rfl (cs := #[.string (⟨#[]⟩ : ByteArray), .string (⟨#[]⟩ : ByteArray), .int .i64 0, .int .i64 0]) (t := 24) ?hr ?_
      (case hr => first | (go_simp; done) | (go_simp; rfl))
      intro gp hgp wq_13 hbox hb'
      have HB_13 := Aside0.mk (below_then HB_.out HB_.out.size hb')
      have BP_13 := Aside0.mk hbox
      have GP := Aside0.mk (show w.heap.size ≤ gp by rw [hgp]; exact HB_.out.size)
      clear hgp hbox hb'
      refine hK.out _ _ ⟨(FS.out _ HB_13.out).1, (FS.out _ HB_13.out).2⟩ (fun hHeld => ?_)
      clear hK K
      refine norm_ t_57 ?_
      refine one_ (i := 9) (N := some 19) q16_23ff rfl rfl t_8e (by decide) (fun K hK => ?_)
      refine goes_ Try.func26 t_8e rfl #[.slice A m c2, .string x.f0.f1] (by rfl) rfl rfl t_6e ?_
      with_reducible refine (HF.out _ HB_13.out).mono ?_
      rintro e1 wq_139 ⟨rfl, hb'⟩
      refine ⟨_, rfl, ?_⟩
      have HB_139 := Aside0.mk (below_then HB_13.out HB_13.out.size hb')
      have BP_139 := kb hb' BP_13
      clear hb'
      refine hK.out _ _ ⟨(FS.out _ HB_139.out).1, (FS.out _ HB_139.out).2⟩ (fun hHeld => ?_)
      clear hK K
      refine norm_ t_47 ?_
      refine p_ (i := 10) (N := some 9) q16_27ff rfl rfl t_8e ?_
      refine p_ (i := 11) (N := some 20) q16_2fff rfl rfl t_8e ?_
      refine p_ (i := 12) (N := some 21) q16_3fff rfl rfl t_8e ?_
      exact norm_ t_67 (hCont gp _ ⟨hHeld, BP_139.out, GP.out, HB_139.out⟩)
  rintro gp wj ⟨hS_, hp_, hg_, hb_⟩
  have BPj := Aside0.mk hp_
  have GPj := Aside0.mk hg_
  have HBj := Aside0.mk hb_
  have hHeld : wj.cell? ⟨gs, 2, none⟩ = some (.slice A m c2) ∧ wj.cell? ⟨gI, k * 13 + 1, none⟩ = some (.string x.f0.f1) := hS_
  clear hS_ hp_ hg_ hb_
  refine norm_ (a' := ?_) ?_ ?_
  rotate_left
  · simp only [putAll, Act.put, List.setIfInBounds_toArray, List.set_cons_zero, List.set_cons_succ]
    rfl
  refine last_ (i := 14) (N := none) q16_7fff rfl rfl t_8e (by decide) (fun K hK => ?_)
  refine step_storeAt (g := gp) (t := 24) (off := 0) (old := #[.string (⟨#[]⟩ : ByteArray), .string (⟨#[]⟩ : ByteArray), .int .i64 0, .int .i64 0]) (new := #[.string p.f0, .string p.f1, .int .i64 p.f2, .int .i64 p.f3]) (u := .agg #[.string p.f0, .string p.f1, .int .i64 p.f2, .int .i64 p.f3]) (seg := [.string p.f0, .string p.f1, .int .i64 p.f2, .int .i64 p.f3]) (by rfl) rfl rfl (by rfl) (by rfl) rfl t_8e t_88 BPj.out (by simp) rfl ?_
  intro wk hb2 hg2 hs2
  have BPk := Aside0.mk hb2
  have HBk := Aside0.mk (Below.grown HBj.out hg2 HBj.out.size (fun k hk => by injection hk with hk; subst hk; exact GPj.out))
  clear hb2 hg2 hs2
  refine hK.out _ _ ?_
  clear hK K
  refine p_ (i := 15) (N := some 6) q16_ffff rfl rfl t_8e ?_
  refine done_ t_8e ?_
  go_wp2
  have NPS := Aside0.mk (show gp ≠ gs by have := GPj.out; have := blk_lt HJ.out.hs; omega)
  have NPI := Aside0.mk (show gp ≠ gI by have := GPj.out; have := Kd.R_lt HJ.out.hi gI rfl; omega)
  refine start_ (n := 16) (S := fun w' => w'.cell? ⟨gs, 2, none⟩ = some (.slice A m c2) ∧ w'.cell? ⟨gI, k * 13 + 1, none⟩ = some (.string x.f0.f1)) (ds := [10]) q16_0 t_8e rfl rfl ⟨(FS.out _ (below_drew HBk.out)).1, (FS.out _ (below_drew HBk.out)).2⟩ (fun hHeld => ?_)
  refine p_ (i := 0) (N := some 23) q16_1 rfl rfl t_8e ?_
  refine p_ (i := 1) (N := some 24) q16_3 rfl rfl t_8e ?_
  refine p_ (i := 2) (N := some 25) q16_7 rfl rfl t_8e ?_
  refine p_ (i := 4) (N := some 27) q16_17 rfl rfl t_8e ?_
  refine p_ (i := 5) (N := some 28) q16_37 rfl rfl t_8e ?_
  refine p_ (i := 6) (N := some 29) q16_77 rfl rfl t_8e ?_
  refine p_ (i := 7) (N := some 30) q16_f7 rfl rfl t_8e ?_
  refine k_ (i := 3) (N := some 26) q16_ff rfl rfl t_8e (Or.inl ⟨rfl, t_7e⟩) hHeld ?_
  refine k_ (i := 8) (N := some 31) q16_1ff rfl rfl t_8e (Or.inl ⟨rfl, t_7e⟩) hHeld ?_
  refine p_ (i := 9) (N := some 32) q16_3ff rfl rfl t_8e ?_
  refine last_ (i := 10) (N := some 33) q16_7ff rfl rfl t_8e (by decide) (fun K hK => ?_)
  refine goes_ Try.func18 t_8e rfl #[.slice A m c2, .agg #[.int .i64 2, .string (⟨#[]⟩ : ByteArray), .string (⟨#[]⟩ : ByteArray), .int .i64 0, .int .i64 0, .string x.f0.f1, .string (⟨#[]⟩ : ByteArray), .int .i64 0, .int .i64 0]] (by rfl) rfl rfl t_6e ?_
  with_reducible refine (HD.out _ (below_drew HBk.out)).mono ?_
  rintro e2 wl ⟨v1, rfl, hR, hb'⟩
  refine ⟨_, rfl, ?_⟩
  obtain ⟨A1, c1, rfl, _, _⟩ := Kd.R_reads hR
  have HR := Aside0.mk (Kd.R_lower hR (Nat.le_trans HBW.out (below_drew HBk.out).size))
  have HNG := Aside0.mk (show ∀ q, (Value.slice A1 ys.length c1).ownBlock = some q → wk.heap.size ≤ q from fun q hq => Kd.R_base hR q hq)
  have HBl := Aside0.mk (below_then (below_drew HBk.out) (below_drew HBk.out).size hb')
  have BPl := Aside0.mk ((hb'.block gp (blk_lt (blk_drew BPk.out))).trans (blk_drew BPk.out))
  clear hR hb'
  refine hK.out _ _ ?_
  clear hK K
  refine norm_ t_48 ?_
  refine p_ (i := 11) (N := some 22) q16_fff rfl rfl t_8e ?_
  refine p_ (i := 12) (N := some 34) q16_1fff rfl rfl t_8e ?_
  refine p_ (i := 13) (N := some 35) q16_3fff rfl rfl t_8e ?_
  refine p_ (i := 14) (N := some 7) q16_7fff rfl rfl t_8e ?_
  refine p_ (i := 15) (N := some 8) q16_ffff rfl rfl t_8e ?_
  refine done_ t_8e ?_
  have HJl := Aside0.mk (HJ.out.below HBl.out)
  go_wp2_with (first | ((with_reducible refine gate_ (.store 22 (.tmp 42) (.tmp 40)) rfl ?_); refine ev_storeAt (g := gs) (t := 77) (off := 2) (old := #[.int .i64 d, .slice (some ⟨gI, 0, none⟩) n cap, .slice A m c2, .int .i64 e, .int .i64 t]) (new := #[.int .i64 d, .slice (some ⟨gI, 0, none⟩) n cap, .slice A1 ys.length c1, .int .i64 e, .int .i64 t]) (u := .slice A1 ys.length c1) (seg := [.slice A1 ys.length c1]) rfl rfl rfl ?hx ?hy rfl t_8e t_88 HJl.out.hs (by simp) rfl ?_; (case hx => first | rfl | (go_simp; done) | (go_simp; rfl)); (case hy => first | rfl | (go_simp; done) | (go_simp; rfl)); intro w5 hb2 hg2 hs2; have HJ5 := Aside0.mk (HJl.out.shop hg2 hb2 HR.out (fun e => by have h1 := HNG.out gs e; have h2 := blk_lt HJ.out.hs; have h3 := HBk.out.size; omega)); have HB5 := Aside0.mk (Below.grown (Below.mono HBl.out HBW.out) hg2 (Nat.le_trans HBW.out HBl.out.size) (fun q hq => by injection hq with hq; subst hq; exact HBS.out)); have BP5 := Aside0.mk (blk_grown BPl.out hg2 (fun e => NPS.out t_8d)); clear hb2 hg2 hs2))
  have HJ6 := Aside0.mk (HJ5.out.below (below_drew (Below.refl _ _)))
  have HX6 := HIx
  have HB6 := Aside0.mk (below_drew HB5.out)
  have BP6 := Aside0.mk (blk_drew BP5.out)
  refine start_ (n := 15) (S := fun w' => w'.cell? ⟨gp, 0, none⟩ = some (.string p.f0) ∧ w'.cell? ⟨gp, 1, none⟩ = some (.string p.f1) ∧ w'.cell? ⟨gp, 2, none⟩ = some (.int .i64 p.f2) ∧ w'.cell? ⟨gp, 3, none⟩ = some (.int .i64 p.f3)) (ds := [14]) q15_0 t_8e rfl rfl ⟨(blk_cell BP6.out 0).trans rfl, (blk_cell BP6.out 1).trans rfl, (blk_cell BP6.out 2).trans rfl, (blk_cell BP6.out 3).trans rfl⟩ (fun hHeld => ?_)
  refine p_ (i := 0) (N := some 43) q15_1 rfl rfl t_8e ?_
  refine p_ (i := 1) (N := some 44) q15_3 rfl rfl t_8e ?_
  refine p_ (i := 2) (N := some 45) q15_7 rfl rfl t_8e ?_
  refine p_ (i := 3) (N := some 46) q15_f rfl rfl t_8e ?_
  refine p_ (i := 6) (N := some 49) q15_4f rfl rfl t_8e ?_
  refine p_ (i := 7) (N := some 50) q15_cf rfl rfl t_8e ?_
  refine k_ (i := 4) (N := some 47) q15_df rfl rfl t_8e (Or.inl ⟨rfl, t_73⟩) hHeld ?_
  refine k_ (i := 5) (N := some 48) q15_ff rfl rfl t_8e (Or.inl ⟨rfl, t_73⟩) hHeld ?_
  refine one_ (i := 8) (N := none) q15_1ff rfl rfl t_8e (by decide) (fun K hK => ?_)
  refine step_storeR k99 (x' := ⟨x.f0, 2, x.f2, x.f3, x.f4, x.f5⟩) (c := pcsI x) (k := k) (j := 5) (seg := [.int .i64 2]) (u := .int .i64 2) (by rfl) rfl rfl (by rfl) rfl (by rfl) rfl t_8e t_88 HJ6.out.hi hk rfl (elemI HJ6.out.hi k hk HX6.out) t_82 (fun w0 => k99_mkM w0 _ _ ⟨x.f0, 2, x.f2, x.f3, x.f4, x.f5⟩) ?_
  intro w8 hi2 hg2 hs2
  try rw [List.set_set] at hi2
  have HJ8 := Aside0.mk (HJ6.out.item hg2 hi2)
  have HX8 := Aside0.mk (rd_set99 items k (⟨x.f0, 2, x.f2, x.f3, x.f4, x.f5⟩) HKL.out)
  have HB8 := Aside0.mk (Below.grown HB6.out hg2 (Nat.le_trans HBW.out HB6.out.size) (fun q hq => by injection hq with hq; subst hq; exact HGI.out))
  have BP8 := Aside0.mk (blk_grown BP6.out hg2 (fun e => NPI.out t_8d))
  clear hi2 hg2 hs2
  refine hK.out _ _ ⟨(blk_cell BP8.out 0).trans rfl, (blk_cell BP8.out 1).trans rfl, (blk_cell BP8.out 2).trans rfl, (blk_cell BP8.out 3).trans rfl⟩ (fun hHeld => ?_)
  clear hK K
  refine p_ (i := 9) (N := some 51) q15_3ff rfl rfl t_8e ?_
  refine p_ (i := 10) (N := some 52) q15_7ff rfl rfl t_8e ?_
  refine one_ (i := 11) (N := none) q15_fff rfl rfl t_8e (by decide) (fun K hK => ?_)
  refine step_storeR k99 (x' := ⟨x.f0, 2, x.f2, p.f2, x.f4, x.f5⟩) (c := pcsI ⟨x.f0, 2, x.f2, x.f3, x.f4, x.f5⟩) (k := k) (j := 7) (seg := [.int .i64 p.f2]) (u := .int .i64 p.f2) (by rfl) rfl rfl (by rfl) rfl (by rfl) rfl t_8e t_88 HJ8.out.hi hk rfl (elemI HJ8.out.hi k hk HX8.out) t_82 (fun w0 => k99_mkM w0 _ _ ⟨x.f0, 2, x.f2, p.f2, x.f4, x.f5⟩) ?_
  intro w11 hi2 hg2 hs2
  try rw [List.set_set] at hi2
  have HJ11 := Aside0.mk (HJ8.out.item hg2 hi2)
  have HX11 := Aside0.mk (rd_set99 items k (⟨x.f0, 2, x.f2, p.f2, x.f4, x.f5⟩) HKL.out)
  have HB11 := Aside0.mk (Below.grown HB8.out hg2 (Nat.le_trans HBW.out HB8.out.size) (fun q hq => by injection hq with hq; subst hq; exact HGI.out))
  have BP11 := Aside0.mk (blk_grown BP8.out hg2 (fun e => NPI.out t_8d))
  clear hi2 hg2 hs2
  refine hK.out _ _ ⟨(blk_cell BP11.out 0).trans rfl, (blk_cell BP11.out 1).trans rfl, (blk_cell BP11.out 2).trans rfl, (blk_cell BP11.out 3).trans rfl⟩ (fun hHeld => ?_)
  clear hK K
  refine p_ (i := 12) (N := some 53) q15_1fff rfl rfl t_8e ?_
  refine p_ (i := 13) (N := some 54) q15_3fff rfl rfl t_8e ?_
  refine last_ (i := 14) (N := none) q15_7fff rfl rfl t_8e (by decide) (fun K hK => ?_)
  refine step_storeR k99 (x' := ⟨x.f0, 2, x.f2, p.f2, x.f4, p⟩) (c := pcsI ⟨x.f0, 2, x.f2, p.f2, x.f4, x.f5⟩) (k := k) (j := 9) (seg := [.string p.f0, .string p.f1, .int .i64 p.f2, .int .i64 p.f3]) (u := .agg #[.string p.f0, .string p.f1, .int .i64 p.f2, .int .i64 p.f3]) (by rfl) rfl rfl (by rfl) rfl (by rfl) rfl t_8e t_88 HJ11.out.hi hk rfl (elemI HJ11.out.hi k hk HX11.out) t_82 (fun w0 => k99_mkM w0 _ _ ⟨x.f0, 2, x.f2, p.f2, x.f4, p⟩) ?_
  intro w14 hi2 hg2 hs2
  try rw [List.set_set] at hi2
  have HJ14 := Aside0.mk (HJ11.out.item hg2 hi2)
  have HX14 := Aside0.mk (rd_set99 items k (⟨x.f0, 2, x.f2, p.f2, x.f4, p⟩) HKL.out)
  have HB14 := Aside0.mk (Below.grown HB11.out hg2 (Nat.le_trans HBW.out HB11.out.size) (fun q hq => by injection hq with hq; subst hq; exact HGI.out))
  clear hi2 hg2 hs2
  refine hK.out _ _ ?_
  clear hK K
  refine done_ t_8e ?_
  go_wp2
  go_ret
  exact ⟨rfl, _, HJ14.out, HB14.out⟩
end Go.Proofs.Ytndbchcfjajgbaa.XP
