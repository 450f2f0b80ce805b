/- job.accept, walked. -/
import Derived.Test.YtndbchcfjajgbaaXB
import Derived.Test.YtndbchcfjajgbaaHandJobCh
namespace Go.Proofs.Ytndbchcfjajgbaa.XP
open Go.Proofs.Ytndbchcfjajgbaa.XB Go.Proofs.Ytndbchcfjajgbaa.XQ
open Go Go.Sort Go.RowKit Go.Proofs Go.Proofs.YtndbchcfjajgbaaW.PrintWords Go.Proofs.YtndbchcfjajgbaaW.PrintLast Go.Proofs.Ytndbchcfjajgbaa.XH Go.Proofs.Ytndbchcfjajgbaa.XE Go.Proofs.Ytndbchcfjajgbaa.XW
open Go.BigFrame
set_option linter.unusedVariables false
set_option linter.unusedSimpArgs false
theorem rowlit_step {P : Program} {ops : Array Oper} {o : Oper} {a : Act} {Kc : Act → World → Prop} {Q : Exit → Act → World → Prop} {W : World} (hw : Region.wanted o (yielded ops a.tmps) = true) {N : Tmp} (_hd : o.dst = some N) {cs : Array Value} {t : TypeId} {n : Nat}
    (hrun : (execOp a.eval o).run P W = .ok (.value (.slice (some ⟨W.heap.size, 0, none⟩) n n)) (W.alloc (.cells cs t (0, 0))))
    (h : ∀ g, g = W.heap.size → ∀ w1, w1.heap[g]? = some (.cells cs t (0, 0)) → Below W.heap.size W w1 → Kc (a.put o.dst (.slice (some ⟨g, 0, none⟩) n n)) w1) : if Region.wanted o (yielded ops a.tmps) = true then Oper.wp P o a W Kc Q else Kc (a.put o.dst undef) W :=
  event_step hw hrun (h _ rfl _ (blk_new W _) (below_alloc (Below.refl _ _) _))
/-- The shop's block gs, its items (v1) and its parcel (v2). -/
structure JAv (base gs : Nat) (v1 v2 : Value) (d e t : Int) (items : List S99) (mm : List S24) (W : World) : Prop where
  hs : W.heap[gs]? = some (.cells #[.int .i64 d, v1, v2, .int .i64 e, .int .i64 t] 77 (0, 0))
  hi : Kd.R k99 99 W base (fun _ => True) v1 items
  hp : Kd.R k24 24 W base (fun _ => True) v2 mm
section
variable {base gs : Nat} {v1 v2 : Value} {d e t : Int} {items : List S99} {mm : List S24} {W W1 : World}
theorem JAt.av {gI n cap : Nat} (h : JAt base gs gI n cap v2 d e t items mm W) : JAv base gs (.slice (some ⟨gI, 0, none⟩) n cap) v2 d e t items mm W := ⟨h.hs, h.hi, h.hp⟩
theorem JAv.at_ {gI n cap : Nat} (h : JAv base gs (.slice (some ⟨gI, 0, none⟩) n cap) v2 d e t items mm W) : JAt base gs gI n cap v2 d e t items mm W := ⟨h.hs, h.hi, h.hp⟩
theorem JAv.below (h : JAv base gs v1 v2 d e t items mm W) (hb : Below W.heap.size W W1) : JAv base gs v1 v2 d e t items mm W1 :=
  ⟨(hb.block _ (blk_lt h.hs)).trans h.hs, Kd.R_below h.hi hb, Kd.R_below h.hp hb⟩
/-- slices.Insert has been called, and its answer stored. -/
theorem JAv.insert {g n cap : Nat} {items' : List S99} {W2 : World} (h : JAv base gs v1 v2 d e t items mm W) (hg : W.grownBy W1 v1.ownBlock) (hR : Kd.R k99 99 W1 base (fun _ => True) (.slice (some ⟨g, 0, none⟩) n cap) items')
    (hg2 : W1.grownBy W2 (some gs)) (hs : W2.heap[gs]? = some (.cells #[.int .i64 d, .slice (some ⟨g, 0, none⟩) n cap, v2, .int .i64 e, .int .i64 t] 77 (0, 0))) : JAv base gs (.slice (some ⟨g, 0, none⟩) n cap) v2 d e t items' mm W2 := by
  have h1 : some gs ≠ v1.ownBlock := fun e => by obtain ⟨c1, h1⟩ := Kd.R_typed h.hi gs e.symm; exact blk_ne h.hs h1 (by decide) rfl
  have h3 : W1.heap[gs]? = some (.cells #[.int .i64 d, v1, v2, .int .i64 e, .int .i64 t] 77 (0, 0)) := blk_grown h.hs hg h1
  have hE : ∀ q, q ∈ 24 :: k24.E → q ≠ 99 := by
    intro q hq
    have h6 : q = 24 := by simpa [k24, Kd.iso, Kd.pair, Kd.string, Kd.int, Kd.scalar] using hq
    omega
  have h4 : Kd.R k24 24 W1 base (fun _ => True) v2 mm := Kd.R_over' h.hp (fun k hk => Kd.R_typed h.hi k hk) hE hg
  refine ⟨hs, Kd.R_grown1 hR rfl hg2 (fun e => ?_), Kd.R_grown1 h4 rfl hg2 (fun e => ?_)⟩
  · obtain ⟨c1, h5⟩ := Kd.R_typed hR gs e.symm; exact blk_ne h3 h5 (by decide) rfl
  · obtain ⟨c1, h5⟩ := Kd.R_typed h4 gs e.symm; exact blk_ne h3 h5 (by decide) rfl
end
theorem R99_cons {w : World} {base i : Nat} {ok : Nat → Prop} {v : Value} {p : S99} {xs : List S99} (h : Kd.R k99 99 w base ok v (xs.take i ++ p :: xs.drop i)) : ∃ g n cap, v = .slice (some ⟨g, 0, none⟩) n cap := by
  rcases R99_open h with ⟨_, hx⟩ | ⟨g, cap, cur, hv, _⟩
  · simp at hx
  · exact ⟨g, _, cap, hv⟩
set_option maxHeartbeats 4000000 in
set_option maxRecDepth 100000 in
theorem accept_all (base gs n c1 m c2 i0 : Nat) (A1 A : Option Addr) (d e t : Int) (items : List S99) (mm : List S24) (w : World) (ek ed : Int) (j0 j1 j2 : ByteArray) (j3 j4 : Int) (id : ByteArray) (wt : Int) (HBS : Aside0 (base ≤ gs)) (HBW : Aside0 (base ≤ w.heap.size)) (HJ : Aside0 (JAv base gs (.slice A1 n c1) (.slice A m c2) d e t items mm w)) (bh bp bt : Bool) (HF : Aside0 (∀ W : World, Below w.heap.size w W → Calls Try.prog 87 #[.slice A1 n c1, .string j0] W fun e' w' => e' = .returned (.tuple #[.int .i64 (i0 : Nat), .bool bh]) ∧ Below W.heap.size W w')) (p : S24) (HP : Aside0 (∀ W : World, Below w.heap.size w W → Calls Try.prog 26 #[.slice A m c2, .string j1] W fun e' w' => e' = .returned (.tuple #[.agg #[.string p.f0, .string p.f1, .int .i64 p.f2, .int .i64 p.f3], .bool bp]) ∧ Below W.heap.size W w')) (HT : Aside0 (∀ W : World, Below w.heap.size w W → Calls Try.prog 94 #[.slice A1 n c1, .string j1] W fun e' w' => e' = .returned (.bool bt) ∧ Below W.heap.size W w')) (HIN : Aside0 (∀ (W : World) (vb : Nat), W.heap[vb]? = some (.cells (pcsI (⟨⟨j0, j1, j2, j3, j4⟩, 1, ed, 0, 0, z24⟩ : S99)).toArray 99 (0, 0)) → Kd.R k99 99 W base (fun k => k ≠ vb) (.slice A1 n c1) items → base ≤ W.heap.size → Calls Try.prog 111 #[.slice A1 n c1, .int .i64 (i0 : Nat), .slice (some ⟨vb, 0, none⟩) 1 1] W fun e' w' => ∃ v', e' = .returned v' ∧ Kd.R k99 99 w' base (fun _ => True) v' (items.take i0 ++ (⟨⟨j0, j1, j2, j3, j4⟩, 1, ed, 0, 0, z24⟩ : S99) :: items.drop i0) ∧ Below base W w' ∧ W.grownBy w' (Value.slice A1 n c1).ownBlock)) (Q : Ending → World → Prop) (H1 : Aside0 (bh = true → ∀ w', Below w.heap.size w w' → Q (.returned (.int .i64 6)) w')) (H2 : Aside0 (bh = false → bp = false → ∀ w', Below w.heap.size w w' → Q (.returned (.int .i64 7)) w')) (H3 : Aside0 (bh = false → bp = true → bt = true → ∀ w', Below w.heap.size w w' → Q (.returned (.int .i64 9)) w')) (H4 : Aside0 (bh = false → bp = true → bt = false → 60 ≤ n → ∀ w', Below w.heap.size w w' → Q (.returned (.int .i64 3)) w')) (H5 : Aside0 (bh = false → bp = true → bt = false → ¬ 60 ≤ n → ∀ v' w', JAv base gs v' (.slice A m c2) d e t (items.take i0 ++ (⟨⟨j0, j1, j2, j3, j4⟩, 1, ed, 0, 0, z24⟩ : S99) :: items.drop i0) mm w' → Below base w w' → Q (.returned (.int .i64 0)) w')) :
    Calls Try.prog 86 #[.pointer (some ⟨gs, 0, none⟩), .agg #[.int .i64 ek, .int .i64 ed, .string j0, .string j1, .string j2, .int .i64 j3, .int .i64 j4, .string id, .int .i64 wt]] w Q := by
  have HNSI := Aside0.mk (show some gs ≠ (Value.slice A1 n c1).ownBlock from fun e => by obtain ⟨cc, h1⟩ := Kd.R_typed HJ.out.hi gs e.symm; exact blk_ne HJ.out.hs h1 (by decide) rfl)
  (go_enter Try.func86, Try.ntmps86; (go_wp2_with ((with_reducible refine gate_dst (N := 3) rfl ?_); refine bx_ (N := 3) (cs := #[.int .i64 ek, .int .i64 ed, .string j0, .string j1, .string j2, .int .i64 j3, .int .i64 j4, .string id, .int .i64 wt]) (t := 83) ?_; intro gb hgb w1 hbox hb'; have BW := Aside0.mk hb'; have BK := Aside0.mk hbox; have BG := Aside0.mk (show w.heap.size ≤ gb by omega); clear hgb hbox hb')); (have yb : w1.cell? ⟨gb, 2, none⟩ = some (.string j0) := (blk_cell BK.out 2).trans rfl; have kb := cell_regrown yb; have yi : w1.cell? ⟨gs, 1, none⟩ = some (.slice A1 n c1) := (blk_cell (HJ.out.below BW.out).hs 1).trans rfl; have ki := cell_regrown yi; have cC := fun dd os => Calls.regrown_of (HF.out _ (below_then BW.out BW.out.size (below_regrown w1 dd os))); refine wp_region_quiet_below t_8e t_8e ?_; (repeat ((try simp only [Act.put, List.setIfInBounds_toArray, List.set_cons_zero, List.set_cons_succ]); (go_big_quiet_step (first | exact cC _ _)))); refine wpQuiet_nil ?_; intro _ hw'; obtain ⟨⟨dq, osq⟩, hw''⟩ := hw'; subst hw''; have hb' := below_regrown w1 dq osq; clear cC kb ki yb yi; generalize grow (redrawn w1 dq) osq = w2 at hb' ⊢; replace BW := Aside0.mk (below_then BW.out BW.out.size hb'); replace BK := kb hb' BK; clear hb'))
  have FS := Aside0.mk (show ∀ W : World, Below w2.heap.size w2 W → W.cell? ⟨gs, 2, none⟩ = some (.slice A m c2) ∧ W.cell? ⟨gb, 3, none⟩ = some (.string j1) from fun W hb => ⟨(blk_cell ((HJ.out.below BW.out).below hb).hs 2).trans rfl, (blk_cell ((hb.block _ (blk_lt BK.out)).trans BK.out) 3).trans rfl⟩)
  have HB_ := Aside0.mk (below_drew (Below.refl w2.heap.size w2))
  go_wp2
  refine start_ (n := 14) (S := fun w' => w'.cell? ⟨gs, 2, none⟩ = some (.slice A m c2) ∧ w'.cell? ⟨gb, 3, none⟩ = some (.string j1)) (ds := [12]) q14_0 t_8e rfl rfl ⟨(FS.out _ HB_.out).1, (FS.out _ HB_.out).2⟩ (fun hHeld => ?_)
  refine p_ (i := 0) (N := some 21) q14_1 rfl rfl t_8e ?_
  refine p_ (i := 1) (N := some 22) q14_3 rfl rfl t_8e ?_
  refine p_ (i := 2) (N := some 23) q14_7 rfl rfl t_8e ?_
  refine p_ (i := 4) (N := some 25) q14_17 rfl rfl t_8e ?_
  refine p_ (i := 5) (N := some 26) q14_37 rfl rfl t_8e ?_
  refine k_ (i := 3) (N := some 24) q14_3f rfl rfl t_8e (Or.inl ⟨rfl, t_7e⟩) hHeld ?_
  refine k_ (i := 6) (N := some 27) q14_7f rfl rfl t_8e (Or.inl ⟨rfl, t_7e⟩) hHeld ?_
  refine join_ (σ := Nat) 2 q14_fff (fun s_ => [(28, .tuple #[.agg #[.string p.f0, .string p.f1, .int .i64 p.f2, .int .i64 p.f3], .bool bp]), (7, .pointer (some ⟨s_, 0, none⟩)), (20, .tuple #[.agg #[.string p.f0, .string p.f1, .int .i64 p.f2, .int .i64 p.f3], .bool bp]), (29, .agg #[.string p.f0, .string p.f1, .int .i64 p.f2, .int .i64 p.f3]), (30, .bool bp)]) (fun s_ w' => (w'.cell? ⟨gs, 2, none⟩ = some (.slice A m c2) ∧ w'.cell? ⟨gb, 3, none⟩ = some (.string j1)) ∧ w'.heap[s_]? = some (.cells #[.string (⟨#[]⟩ : ByteArray), .string (⟨#[]⟩ : ByteArray), .int .i64 0, .int .i64 0] 24 (0, 0)) ∧ w2.heap.size ≤ s_ ∧ Below w2.heap.size w2 w') ?_ ?_
  rotate_left
  · intro hCont
    refine two_ (i := 7) (j := 11) (Ni := some 28) (Nj := some 7) q14_ff q14_87f rfl rfl rfl rfl t_8e (by decide) (by decide) (fun K hK => ?_) (fun K hK => ?_)
    · skip
      refine goes_ Try.func26 t_8e rfl #[.slice A m c2, .string j1] (by rfl) rfl rfl t_6e ?_
      with_reducible refine (HP.out _ (below_then BW.out BW.out.size HB_.out)).mono ?_
      rintro e1 wq_7 ⟨rfl, hb'⟩
      refine ⟨_, rfl, ?_⟩
      have HB_7 := Aside0.mk (below_then HB_.out HB_.out.size hb')
      clear hb'
      refine hK.out _ _ ⟨(FS.out _ HB_7.out).1, (FS.out _ HB_7.out).2⟩ (fun hHeld => ?_)
      clear hK K
      refine norm_ t_4a ?_
      refine p_ (i := 8) (N := some 20) q14_1ff rfl rfl t_8e ?_
      refine p_ (i := 9) (N := some 29) q14_3ff rfl rfl t_8e ?_
      refine p_ (i := 10) (N := some 30) q14_7ff rfl rfl t_8e ?_
      refine one_ (i := 11) (N := some 7) q14_fff rfl rfl t_8e (by decide) (fun K hK => ?_)
      refine box_step (by rfl) (N := 7) rfl (cs := #[.string (⟨#[]⟩ : ByteArray), .string (⟨#[]⟩ : ByteArray), .int .i64 0, .int .i64 0]) (t := 24) ?hr ?_
      (case hr => first | (go_simp; done) | (go_simp; rfl))
      intro gp hgp wq_711 hbox hb'
      have HB_711 := Aside0.mk (below_then HB_7.out HB_7.out.size hb')
      have BP_711 := Aside0.mk hbox
      have GP := Aside0.mk (show w2.heap.size ≤ gp by rw [hgp]; exact HB_7.out.size)
      clear hgp hbox hb'
      refine hK.out _ _ ⟨(FS.out _ HB_711.out).1, (FS.out _ HB_711.out).2⟩ (fun hHeld => ?_)
      clear hK K
      refine norm_ t_58 ?_
      exact norm_ t_67 (hCont gp _ ⟨hHeld, BP_711.out, GP.out, HB_711.out⟩)
    · skip
      refine box_step (by rfl) (N := 7) rfl (cs := #[.string (⟨#[]⟩ : ByteArray), .string (⟨#[]⟩ : ByteArray), .int .i64 0, .int .i64 0]) (t := 24) ?hr ?_
      (case hr => first | (go_simp; done) | (go_simp; rfl))
      intro gp hgp wq_11 hbox hb'
      have HB_11 := Aside0.mk (below_then HB_.out HB_.out.size hb')
      have BP_11 := Aside0.mk hbox
      have GP := Aside0.mk (show w2.heap.size ≤ gp by rw [hgp]; exact HB_.out.size)
      clear hgp hbox hb'
      refine hK.out _ _ ⟨(FS.out _ HB_11.out).1, (FS.out _ HB_11.out).2⟩ (fun hHeld => ?_)
      clear hK K
      refine norm_ t_58 ?_
      refine one_ (i := 7) (N := some 28) q14_8ff rfl rfl t_8e (by decide) (fun K hK => ?_)
      refine goes_ Try.func26 t_8e rfl #[.slice A m c2, .string j1] (by rfl) rfl rfl t_6e ?_
      with_reducible refine (HP.out _ (below_then BW.out BW.out.size HB_11.out)).mono ?_
      rintro e1 wq_117 ⟨rfl, hb'⟩
      refine ⟨_, rfl, ?_⟩
      have HB_117 := Aside0.mk (below_then HB_11.out HB_11.out.size hb')
      have BP_117 := kb hb' BP_11
      clear hb'
      refine hK.out _ _ ⟨(FS.out _ HB_117.out).1, (FS.out _ HB_117.out).2⟩ (fun hHeld => ?_)
      clear hK K
      refine norm_ t_4a ?_
      refine p_ (i := 8) (N := some 20) q14_9ff rfl rfl t_8e ?_
      refine p_ (i := 9) (N := some 29) q14_bff rfl rfl t_8e ?_
      refine p_ (i := 10) (N := some 30) q14_fff rfl rfl t_8e ?_
      exact norm_ t_67 (hCont gp _ ⟨hHeld, BP_117.out, GP.out, HB_117.out⟩)
  rintro gp wj ⟨hS_, hp_, hg_, hb_⟩
  have BPj := Aside0.mk hp_
  have GPj := Aside0.mk hg_
  have HBj := Aside0.mk hb_
  have hHeld : wj.cell? ⟨gs, 2, none⟩ = some (.slice A m c2) ∧ wj.cell? ⟨gb, 3, none⟩ = some (.string j1) := hS_
  clear hS_ hp_ hg_ hb_
  refine norm_ (a' := ?_) ?_ ?_
  rotate_left
  · simp only [putAll, Act.put, List.setIfInBounds_toArray, List.set_cons_zero, List.set_cons_succ]
    rfl
  refine last_ (i := 12) (N := none) q14_1fff rfl rfl t_8e (by decide) (fun K hK => ?_)
  refine step_storeAt (g := gp) (t := 24) (off := 0) (old := #[.string (⟨#[]⟩ : ByteArray), .string (⟨#[]⟩ : ByteArray), .int .i64 0, .int .i64 0]) (new := #[.string p.f0, .string p.f1, .int .i64 p.f2, .int .i64 p.f3]) (u := .agg #[.string p.f0, .string p.f1, .int .i64 p.f2, .int .i64 p.f3]) (seg := [.string p.f0, .string p.f1, .int .i64 p.f2, .int .i64 p.f3]) (by rfl) rfl rfl (by rfl) (by rfl) rfl t_8e t_88 BPj.out (by simp) rfl ?_
  intro wk hb2 hg2 hs2
  have BPk := Aside0.mk hb2
  have HBk := Aside0.mk (Below.grown HBj.out hg2 HBj.out.size (fun k hk => by injection hk with hk; subst hk; exact GPj.out))
  clear hb2 hg2 hs2
  refine hK.out _ _ ?_
  clear hK K
  refine p_ (i := 13) (N := some 8) q14_3fff rfl rfl t_8e ?_
  refine done_ t_8e ?_
  (replace BW := Aside0.mk (below_then BW.out BW.out.size HBk.out); replace BK := Aside0.mk ((HBk.out.block _ (blk_lt BK.out)).trans BK.out))
  cases bh
  case true =>
    go_wp2
    try go_ret
    exact H1.out (by simp) _ BW.out
  cases bp
  case false =>
    go_wp2
    try go_ret
    exact H2.out (by simp) (by simp) _ BW.out
  go_wp2
  (have yb : wk.cell? ⟨gb, 3, none⟩ = some (.string j1) := (blk_cell BK.out 3).trans rfl; have kb := cell_regrown yb; have yi : wk.cell? ⟨gs, 1, none⟩ = some (.slice A1 n c1) := (blk_cell (HJ.out.below BW.out).hs 1).trans rfl; have ki := cell_regrown yi; have cC := fun dd os => Calls.regrown_of (HT.out _ (below_then BW.out BW.out.size (below_regrown wk dd os))); refine wp_region_quiet_below t_8e t_8e ?_; (repeat ((try simp only [Act.put, List.setIfInBounds_toArray, List.set_cons_zero, List.set_cons_succ]); (go_big_quiet_step (first | exact cC _ _)))); refine wpQuiet_nil ?_; intro _ hw'; obtain ⟨⟨dq, osq⟩, hw''⟩ := hw'; subst hw''; have hb' := below_regrown wk dq osq; clear cC kb ki yb yi; generalize grow (redrawn wk dq) osq = w5 at hb' ⊢; replace BW := Aside0.mk (below_then BW.out BW.out.size hb'); replace BK := kb hb' BK; clear hb')
  cases bt
  case true =>
    go_wp2
    try go_ret
    exact H3.out (by simp) (by simp) (by simp) _ BW.out
  have yi : w5.cell? ⟨gs, 1, none⟩ = some (.slice A1 n c1) := (blk_cell (HJ.out.below BW.out).hs 1).trans rfl
  by_cases hn : 60 ≤ n
  · have e1 : decide (60 ≤ (n : Int)) = true := decide_eq_true (by omega)
    have e2 : decide (60 ≤ n) = true := decide_eq_true hn
    have HN := Aside0.mk hn
    clear hn
    go_wp2
    try go_ret
    exact H4.out (by simp) (by simp) (by simp) HN.out _ BW.out
  have e1 : decide (60 ≤ (n : Int)) = false := decide_eq_false (by omega)
  have e2 : decide (60 ≤ n) = false := decide_eq_false hn
  have HN := Aside0.mk hn
  clear hn
  go_wp2
  have HJ9 := Aside0.mk (HJ.out.below (below_drew BW.out))
  replace BK := Aside0.mk (blk_drew BK.out)
  have HB9 := Aside0.mk (Below.mono (below_drew BW.out) HBW.out)
  refine start_ (n := 16) (S := fun w' => w'.cell? ⟨gs, 1, none⟩ = some (.slice A1 n c1) ∧ w'.cell? ⟨gb, 1, none⟩ = some (.int .i64 ed) ∧ w'.cell? ⟨gb, 2, none⟩ = some (.string j0) ∧ w'.cell? ⟨gb, 3, none⟩ = some (.string j1) ∧ w'.cell? ⟨gb, 4, none⟩ = some (.string j2) ∧ w'.cell? ⟨gb, 5, none⟩ = some (.int .i64 j3) ∧ w'.cell? ⟨gb, 6, none⟩ = some (.int .i64 j4)) (ds := [12, 15]) q16_0 t_8e rfl rfl ⟨(blk_cell HJ9.out.hs 1).trans rfl, bc BK 1, bc BK 2, bc BK 3, bc BK 4, bc BK 5, bc BK 6⟩ (fun hHeld => ?_)
  refine p_ (i := 0) (N := some 52) q16_1 rfl rfl t_8e ?_
  refine p_ (i := 1) (N := some 53) q16_3 rfl rfl t_8e ?_
  refine p_ (i := 2) (N := some 54) q16_7 rfl rfl t_8e ?_
  refine p_ (i := 3) (N := some 55) q16_f rfl rfl t_8e ?_
  refine p_ (i := 5) (N := some 57) q16_2f rfl rfl t_8e ?_
  refine p_ (i := 6) (N := some 58) q16_6f rfl rfl t_8e ?_
  refine p_ (i := 8) (N := some 60) q16_16f rfl rfl t_8e ?_
  refine k_ (i := 4) (N := some 56) q16_17f rfl rfl t_8e (Or.inl ⟨rfl, t_6d⟩) hHeld ?_
  refine k_ (i := 7) (N := some 59) q16_1ff rfl rfl t_8e (Or.inl ⟨rfl, t_6d⟩) hHeld ?_
  refine k_ (i := 9) (N := some 61) q16_3ff rfl rfl t_8e (Or.inl ⟨rfl, t_6d⟩) hHeld ?_
  refine p_ (i := 10) (N := some 62) q16_7ff rfl rfl t_8e ?_
  refine one_ (i := 11) (N := some 63) q16_fff rfl rfl t_8e (by decide) (fun K hK => ?_)
  refine rowlit_step (by rfl) (N := 63) rfl (cs := (pcsI ⟨⟨j0, j1, j2, j3, j4⟩, 1, ed, 0, 0, z24⟩).toArray) (t := 99) (n := 1) ?hr ?_
  (case hr => first | (go_simp; done) | (go_simp; rfl))
  intro gv hgv w11 hbox hb'
  have HIv := Aside0.mk (Kd.R_below (Kd.R_mono (Kd.R_elderB HJ9.out.hi gv (Nat.le_of_eq hgv.symm)) (fun k hk => hk.2)) hb')
  have HJ11 := Aside0.mk (HJ9.out.below hb')
  have HB11 := Aside0.mk (below_then HB9.out (Nat.le_trans HBW.out BW.out.size) hb')
  have BV := Aside0.mk hbox
  have BK11 := kb hb' BK
  have HW11 := Aside0.mk (show w5.heap.size ≤ w11.heap.size from hb'.size)
  clear hgv hbox hb'
  refine hK.out _ _ ⟨(blk_cell HJ11.out.hs 1).trans rfl, bc BK11 1, bc BK11 2, bc BK11 3, bc BK11 4, bc BK11 5, bc BK11 6⟩ (fun hHeld => ?_)
  clear hK K
  refine norm_ t_4b ?_
  refine last_ (i := 12) (N := some 64) q16_1fff rfl rfl t_8e (by decide) (fun K hK => ?_)
  refine goes_ Try.func111 t_8e rfl #[.slice A1 n c1, .int .i64 (i0 : Nat), .slice (some ⟨gv, 0, none⟩) 1 1] (by rfl) rfl rfl t_6e ?_
  with_reducible refine (HIN.out _ gv BV.out HIv.out (Nat.le_trans HBW.out (Nat.le_trans BW.out.size HW11.out))).mono ?_
  rintro e1 w12 ⟨v1, rfl, hR, hB, hG⟩
  refine ⟨_, rfl, ?_⟩
  obtain ⟨g2, n2, cap2, rfl⟩ := R99_cons hR
  have HR12 := Aside0.mk hR
  have HG12 := Aside0.mk hG
  have HS12 := Aside0.mk (show w12.heap[gs]? = some (.cells #[.int .i64 d, .slice A1 n c1, .slice A m c2, .int .i64 e, .int .i64 t] 77 (0, 0)) from blk_grown HJ11.out.hs hG (HNSI.out))
  have HB12 := Aside0.mk (HB11.out.trans hB)
  clear hR hB hG
  refine hK.out _ _ ?_
  clear hK K
  refine norm_ t_4c ?_
  refine p_ (i := 13) (N := some 65) q16_3fff rfl rfl t_8e ?_
  refine p_ (i := 14) (N := some 66) q16_7fff rfl rfl t_8e ?_
  refine last_ (i := 15) (N := none) q16_ffff rfl rfl t_8e (by decide) (fun K hK => ?_)
  refine step_storeAt (g := gs) (t := 77) (off := 1) (old := #[.int .i64 d, .slice A1 n c1, .slice A m c2, .int .i64 e, .int .i64 t]) (new := #[.int .i64 d, .slice (some ⟨g2, 0, none⟩) n2 cap2, .slice A m c2, .int .i64 e, .int .i64 t]) (u := .slice (some ⟨g2, 0, none⟩) n2 cap2) (seg := [.slice (some ⟨g2, 0, none⟩) n2 cap2]) (by rfl) rfl rfl (by rfl) (by rfl) rfl t_8e t_88 HS12.out (by simp) rfl ?_
  intro w15 hb2 hg2 hs2
  have HJ15 := Aside0.mk (HJ11.out.insert HG12.out HR12.out hg2 hb2)
  have HB15 := Aside0.mk (Below.grown HB12.out hg2 (Nat.le_trans HBW.out (Nat.le_trans BW.out.size (Nat.le_trans HW11.out HG12.out.size))) (fun q hq => by injection hq with hq; subst hq; exact HBS.out))
  clear hb2 hg2 hs2
  refine hK.out _ _ ?_
  clear hK K
  refine done_ t_8e ?_
  go_wp2
  try go_ret
  exact H5.out (by simp) (by simp) (by simp) HN.out _ _ HJ15.out HB15.out
end Go.Proofs.Ytndbchcfjajgbaa.XP
