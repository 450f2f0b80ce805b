/- job.change, walked. -/
import Derived.Test.YtndbchcfjajgbaaXB
import Derived.Test.YtndbchcfjajgbaaHandJobCa
import Derived.Test.YtndbchcfjajgbaaHandKinds
import Derived.Great.BuildSlice
import Derived.Lib.QuietBelow
import Derived.BigQuiet
import Derived.Test.YtndbchcfjajgbaaXP11
namespace Go.Proofs.Ytndbchcfjajgbaa.XP
open Go.Proofs.Ytndbchcfjajgbaa.XB Go.Proofs.Ytndbchcfjajgbaa.XQ
open Go Go.Sort Go.RowKit Go.Proofs Go.Proofs.YtndbchcfjajgbaaW.PrintWords Go.Proofs.YtndbchcfjajgbaaW.PrintLast Go.Proofs.Ytndbchcfjajgbaa.XH Go.Proofs.Ytndbchcfjajgbaa.XE Go.Proofs.Ytndbchcfjajgbaa.XW
open Go.BigFrame
set_option linter.unusedVariables false
set_option linter.unusedSimpArgs false
section
variable {P : Program} {ops : Array Oper} {rest : List Oper} {o : Oper} {a : Act} {Q : Exit → Act → World → Prop}
theorem map_event {W : World} (hgd : o.guard = none) {t : TypeId} (ho : o.op = .makeMap t none)
    (h : ∀ g, g = W.heap.size → ∀ w1, w1.heap[g]? = some (.map #[] 0) → Below W.heap.size W w1 → wpList P ops Q rest (a.put o.dst (.map (some g))) w1) : wpList P ops Q (o :: rest) a W := by
  refine Kd.event_run (v := .map (some W.heap.size)) (w1 := W.alloc (.map #[] 0)) hgd ?_ (h _ rfl _ (heap_new W _) (Below.alloc (Below.refl _ W) (Nat.le_refl _) _))
  unfold execOp
  simp [ho, Instr.makeMap, newObj, Result.andThen]
  rfl
theorem ints_event {W : World} (hgd : o.guard = none) {t : TypeId} {len : Nat} {parts : Array (Nat × Operand)} (ho : o.op = .buildSlice t len parts) (e : TypeId) (zs : List Int)
    (hu : P.underlying t = some (.slice e)) (hsz : (P.info? e).map (·.size) = some 1) (hz : ((P.info? e).bind (·.zero)).isSome = true)
    (hlen : len = zs.length) (hpos : 0 < len) (hsmall : len ≤ 2 ^ 24) (hparts : parts.toList = (zs.zipIdx 0).map fun x => (x.2, Operand.const (Value.int .i64 x.1)))
    (h : ∀ g, g = W.heap.size → ∀ w1, w1.heap[g]? = some (.cells (zs.map (Value.int .i64)).toArray e (0, 0)) → Below W.heap.size W w1 → wpList P ops Q rest (a.put o.dst (.slice (some ⟨g, 0, none⟩) len len)) w1) : wpList P ops Q (o :: rest) a W :=
  wpList_buildFlat hgd t e len parts ho .i64 zs hu hsz hz hlen hpos hsmall hparts (h _ rfl _ (heap_new W _) (Below.alloc (Below.refl _ W) (Nat.le_refl _) _))
theorem ins_event {W : World} (hgd : o.guard = none) (hN : o.dst = none) {mty kt et : TypeId} {x y z : Operand} (ho : o.op = .insert mty x y z) {r clock : Nat} {es : Array MapEntry} {k : Int} {val : Value}
    (hx : a.eval x = .map (some r)) (hy : a.eval y = .int .i64 k) (hz : a.eval z = val)
    (hm : P.underlying mty = some (.map kt et)) (hk : P.underlying kt = some (.int .i64)) (hb : W.heap[r]? = some (.map es clock)) (hf : Instr.findNow (.int .i64) (.int .i64 k) es.toList 0 = some none)
    (h : ∀ w1, w1.heap[r]? = some (.map (es.push { key := .int .i64 k, val := val, born := clock }) (clock + 1)) → W.grownBy w1 (some r) → w1.heap.size = W.heap.size → wpList P ops Q rest a w1) : wpList P ops Q (o :: rest) a W := by
  have hr := run_mapUpdate_push (P := P) mty kt et r clock es k val hm hk hb hf
  refine wpList_plain hgd fun K hK' => ?_
  unfold Oper.wp execOp
  simp only [ho, hx, hy, hz, Sem.run_bind, Sem.run_pure, Result.andThen_ok, hr]
  show K (a.put o.dst undef) _
  rw [hN]
  exact hK' a _ (h _ (MapKept.heap_set hb).1 ⟨rfl, rfl, rfl, by simp, fun k hk hne => (MapKept.heap_set hb).2 k (fun e => hne (by rw [e]))⟩ (by simp))
end
theorem cont_int (zs : List Int) (s : Int) (r : Bool) (g : Nat) (W : World) (hl : zs.length < 100) (hg : W.heap[g]? = some (.cells (zs.map (Value.int .i64)).toArray 3 (0, 0))) (hf : slices_Contains_int_int.f 5 zs s = some r) :
    Calls Try.prog 114 #[.slice (some ⟨g, 0, none⟩) zs.length zs.length, .int .i64 s] W fun e w' => e = .returned (.bool r) ∧ Below W.heap.size W w' := by
  refine (slices_Contains_int_int.calls 5 (some ⟨g, 0, none⟩) zs.length zs s r W (Kd.C_of_reads (d := (0 : Int)) ⟨rfl, by omega, fun hn => ⟨_, rfl, fun j hj => ?_⟩⟩) (Nat.le_refl _) hf).mono ?_
  · have h1 := blk_cell hg j
    rw [show (Addr.add ⟨g, 0, none⟩ j) = ⟨g, j, none⟩ from by unfold Addr.add; split <;> simp_all]
    refine h1.trans ?_
    simp [List.getD_eq_getElem?_getD, hj]
  · rintro e w' ⟨h1, h2⟩
    exact ⟨h1, h2.below⟩
theorem cont_one (z s : Int) : slices_Contains_int_int.f 5 [z] s = some (s == z) := by
  unfold slices_Contains_int_int.f slices_Index_int_int.f
  by_cases h : s = z
  · simp [slices_Index_int_int.l0, rd, h]
  · have h2 : (s == z) = false := by simpa using h
    simp [slices_Index_int_int.l0, rd, h, wrap64]
theorem cont_two (s : Int) : slices_Contains_int_int.f 5 [1, 2] s = some (s == 1 || s == 2) := by
  unfold slices_Contains_int_int.f slices_Index_int_int.f
  by_cases h : s = 1
  · simp [slices_Index_int_int.l0, rd, h]
  · by_cases h2 : s = 2
    · simp [slices_Index_int_int.l0, rd, h, h2, wrap64]
    · simp [slices_Index_int_int.l0, rd, h, h2, wrap64]
theorem map_ne {W : World} {g r c t : Nat} {es : Array MapEntry} {cs : Array Value} (h : W.heap[r]? = some (.map es c)) (h' : W.heap[g]? = some (.cells cs t (0, 0))) : some g ≠ some r := by
  rintro e
  injection e with e
  subst e
  rw [h] at h'
  injection h' with h'
  cases h'
set_option maxHeartbeats 4000000 in
set_option maxRecDepth 100000 in
theorem ch2 (base gs gI n cap k : Nat) (v2 : Value) (d e t : Int) (items : List S99) (mm : List S24) (x : S99) (w : World) (ed : Int) (j0 j1 j2 : ByteArray) (j3 j4 : Int) (id : ByteArray) (wt : Int) (hk : k < n) (HBS : Aside0 (base ≤ gs)) (HBW : Aside0 (base ≤ w.heap.size)) (HJ : Aside0 (JAt base gs gI n cap v2 d e t items mm w)) (HIx : Aside0 (x = rd_T99 items k)) (er : Int) (R : World → World → Prop) (HS : Aside0 (∀ W : World, Below w.heap.size w W → Calls Try.prog 115 #[.pointer (some ⟨gs, 0, none⟩), .pointer (some ⟨gI, k * 13, none⟩)] W fun e' w' => e' = .returned (.int .i64 er) ∧ R W w')) (Q : Ending → World → Prop) (H1 : Aside0 ((x.f1 == 1) = false → ∀ w', Below w.heap.size w w' → Q (.returned (.int .i64 9)) w')) (H2 : Aside0 ((x.f1 == 1) = true → ∀ W w', Below w.heap.size w W → R W w' → Q (.returned (.int .i64 er)) w')) :
    Calls Try.prog 88 #[.pointer (some ⟨gs, 0, none⟩), .agg #[.int .i64 2, .int .i64 ed, .string j0, .string j1, .string j2, .int .i64 j3, .int .i64 j4, .string id, .int .i64 wt], .pointer (some ⟨gI, k * 13, none⟩)] w Q := by
  obtain ⟨b, hb⟩ : ∃ b, b = (x.f1 == 1) := ⟨_, rfl⟩
  have HBB := Aside0.mk hb
  clear hb
  (go_enter Try.func88, Try.ntmps88; (go_wp2_with (first | ((with_reducible refine gate_dst (N := 4) rfl ?_); refine bx_ (N := 4) (cs := #[.int .i64 2, .int .i64 ed, .string j0, .string j1, .string j2, .int .i64 j3, .int .i64 j4, .string id, .int .i64 wt]) (t := 83) ?_; intro gb hgb w1 hbox hb'; have BW := Aside0.mk hb'; have BK := Aside0.mk hbox; have BG := Aside0.mk (show w.heap.size ≤ gb by omega); clear hgb hbox hb') | ((with_reducible refine gate_ (.makeMap 169 none) rfl ?_); refine map_event rfl rfl ?_; intro gm hgm w2 hbm hb'; have GM := Aside0.mk (show w.heap.size ≤ gm by rw [hgm]; exact BW.out.size); have NM := Aside0.mk (show gb ≠ gm by have := blk_lt BK.out; omega); (replace BW := Aside0.mk (below_then BW.out BW.out.size hb'); replace BK := kb hb' BK; (try replace HM := kb hb' HM); (try replace H9 := kb hb' H9)); have HM := Aside0.mk hbm; clear hgm hbm hb') | ((with_reducible refine gate_dst (N := 9) rfl ?_); refine ints_event rfl (t := 148) (len := 1) rfl 3 [1] Try.underlying148 t_8e t_8e rfl (by decide) (by decide) rfl ?_; intro g9 hg9 w9 hbs hb'; (replace BW := Aside0.mk (below_then BW.out BW.out.size hb'); replace BK := kb hb' BK; (try replace HM := kb hb' HM); (try replace H9 := kb hb' H9)); have H9 := Aside0.mk hbs; clear hg9 hbs hb') | ((with_reducible refine gate_dst (N := 10) rfl ?_); refine ints_event rfl (t := 148) (len := 1) rfl 3 [2] Try.underlying148 t_8e t_8e rfl (by decide) (by decide) rfl ?_; intro g10 hg10 w10 hbs hb'; (replace BW := Aside0.mk (below_then BW.out BW.out.size hb'); replace BK := kb hb' BK; (try replace HM := kb hb' HM); (try replace H9 := kb hb' H9)); have H10 := Aside0.mk hbs; clear hg10 hbs hb') | ((with_reducible refine gate_dst (N := 11) rfl ?_); refine ints_event rfl (t := 148) (len := 1) rfl 3 [3] Try.underlying148 t_8e t_8e rfl (by decide) (by decide) rfl ?_; intro g11 hg11 w11 hbs hb'; (replace BW := Aside0.mk (below_then BW.out BW.out.size hb'); replace BK := kb hb' BK; (try replace HM := kb hb' HM); (try replace H9 := kb hb' H9)); have H11 := Aside0.mk hbs; clear hg11 hbs hb') | ((with_reducible refine gate_dst (N := 12) rfl ?_); refine ints_event rfl (t := 148) (len := 2) rfl 3 [1, 2] Try.underlying148 t_8e t_8e rfl (by decide) (by decide) rfl ?_; intro g12 hg12 w12 hbs hb'; (replace BW := Aside0.mk (below_then BW.out BW.out.size hb'); replace BK := kb hb' BK; (try replace HM := kb hb' HM); (try replace H9 := kb hb' H9)); have H12 := Aside0.mk hbs; clear hg12 hbs hb') | ((with_reducible refine gate_ (.insert 169 (.tmp 8) (.const (.int .i64 2)) (.tmp 9)) rfl ?_); refine ins_event (val := .slice (some ⟨g9, 0, none⟩) 1 1) rfl rfl rfl ?hx rfl ?hy Try.underlying169 Try.underlying3 HM.out rfl ?_; (case hx => first | rfl | (go_simp; done) | (go_simp; rfl)); (case hy => first | rfl | (go_simp; done) | (go_simp; rfl)); intro wI2 hbm hg' hs'; replace BW := Aside0.mk (Below.grown BW.out hg' BW.out.size (fun j hj => by injection hj with hj; subst hj; exact GM.out)); replace BK := Aside0.mk (blk_grown BK.out hg' (fun e => NM.out t_8d)); (try replace H9 := Aside0.mk (blk_grown H9.out hg' (map_ne HM.out H9.out))); replace HM := Aside0.mk hbm; clear hbm hg' hs') | ((with_reducible refine gate_ (.insert 169 (.tmp 8) (.const (.int .i64 3)) (.tmp 10)) rfl ?_); refine ins_event (val := .slice (some ⟨g10, 0, none⟩) 1 1) rfl rfl rfl ?hx rfl ?hy Try.underlying169 Try.underlying3 HM.out rfl ?_; (case hx => first | rfl | (go_simp; done) | (go_simp; rfl)); (case hy => first | rfl | (go_simp; done) | (go_simp; rfl)); intro wI3 hbm hg' hs'; replace BW := Aside0.mk (Below.grown BW.out hg' BW.out.size (fun j hj => by injection hj with hj; subst hj; exact GM.out)); replace BK := Aside0.mk (blk_grown BK.out hg' (fun e => NM.out t_8d)); (try replace H9 := Aside0.mk (blk_grown H9.out hg' (map_ne HM.out H9.out))); replace HM := Aside0.mk hbm; clear hbm hg' hs') | ((with_reducible refine gate_ (.insert 169 (.tmp 8) (.const (.int .i64 4)) (.tmp 11)) rfl ?_); refine ins_event (val := .slice (some ⟨g11, 0, none⟩) 1 1) rfl rfl rfl ?hx rfl ?hy Try.underlying169 Try.underlying3 HM.out rfl ?_; (case hx => first | rfl | (go_simp; done) | (go_simp; rfl)); (case hy => first | rfl | (go_simp; done) | (go_simp; rfl)); intro wI4 hbm hg' hs'; replace BW := Aside0.mk (Below.grown BW.out hg' BW.out.size (fun j hj => by injection hj with hj; subst hj; exact GM.out)); replace BK := Aside0.mk (blk_grown BK.out hg' (fun e => NM.out t_8d)); (try replace H9 := Aside0.mk (blk_grown H9.out hg' (map_ne HM.out H9.out))); replace HM := Aside0.mk hbm; clear hbm hg' hs') | ((with_reducible refine gate_ (.insert 169 (.tmp 8) (.const (.int .i64 5)) (.tmp 12)) rfl ?_); refine ins_event (val := .slice (some ⟨g12, 0, none⟩) 2 2) rfl rfl rfl ?hx rfl ?hy Try.underlying169 Try.underlying3 HM.out rfl ?_; (case hx => first | rfl | (go_simp; done) | (go_simp; rfl)); (case hy => first | rfl | (go_simp; done) | (go_simp; rfl)); intro wI5 hbm hg' hs'; replace BW := Aside0.mk (Below.grown BW.out hg' BW.out.size (fun j hj => by injection hj with hj; subst hj; exact GM.out)); replace BK := Aside0.mk (blk_grown BK.out hg' (fun e => NM.out t_8d)); (try replace H9 := Aside0.mk (blk_grown H9.out hg' (map_ne HM.out H9.out))); replace HM := Aside0.mk hbm; clear hbm hg' hs'))); have hm := HM.out; have cL := fun dd os => run_lookup_hit (P := Try.prog) (w := grow (redrawn wI5 dd) os) 169 3 148 gm _ _ 2 0 _ Try.underlying169 Try.underlying3 (((below_regrown wI5 dd os).block gm (blk_lt hm)).trans hm) rfl rfl; have z0 : wI5.cell? ⟨gb, 0, none⟩ = some (.int .i64 2) := (blk_cell BK.out 0).trans rfl; have k0 := cell_regrown z0; have z5 : wI5.cell? ⟨gI, k * 13 + 5, none⟩ = some (.int .i64 x.f1) := elemI (HJ.out.below BW.out).hi k hk HIx.out 5 _ rfl; have k5 := cell_regrown z5; have hd := H9.out; have cC := fun dd os => Calls.regrown_of (cont_int _ x.f1 _ g9 (grow (redrawn wI5 dd) os) (by decide) (((below_regrown wI5 dd os).block g9 (blk_lt hd)).trans hd) (by rw [cont_one, ← HBB.out])); clear hm hd; refine wp_region_quiet_below t_8e t_8e ?_; (repeat ((try simp only [Act.put, List.setIfInBounds_toArray, List.set_cons_zero, List.set_cons_succ]); (go_big_quiet_step (first | exact cC _ _)))); refine wpQuiet_nil ?_; intro _ hw'; obtain ⟨⟨dq, osq⟩, hw''⟩ := hw'; subst hw''; have hb' := below_regrown wI5 dq osq; clear cL cC k0 k5 z0 z5 HM H9 H10 H11 H12 NM GM; generalize grow (redrawn wI5 dq) osq = w3 at hb' ⊢; replace BW := Aside0.mk (below_then BW.out BW.out.size hb'); replace BK := kb hb' BK; clear hb')
  cases b
  · go_wp2
    try go_ret
    exact H1.out HBB.out.symm _ BW.out
  · (have y0 : w3.cell? ⟨gb, 0, none⟩ = some (.int .i64 2) := (blk_cell BK.out 0).trans rfl)
    go_wp2_with (go_at_call 115; (with_reducible refine (HS.out _ BW.out).mono ?_); rintro e' w4 ⟨rfl, hr⟩; have HR := Aside0.mk hr; clear hr)
    try go_ret
    exact H2.out HBB.out.symm _ _ BW.out HR.out
set_option maxHeartbeats 4000000 in
set_option maxRecDepth 100000 in
theorem ch5 (base gs gI n cap k : Nat) (v2 : Value) (d e t : Int) (items : List S99) (mm : List S24) (x : S99) (w : World) (ed : Int) (j0 j1 j2 : ByteArray) (j3 j4 : Int) (id : ByteArray) (wt : Int) (hk : k < n) (HBS : Aside0 (base ≤ gs)) (HBW : Aside0 (base ≤ w.heap.size)) (HJ : Aside0 (JAt base gs gI n cap v2 d e t items mm w)) (HIx : Aside0 (x = rd_T99 items k)) (er : Int) (R : World → World → Prop) (HS : Aside0 (∀ W : World, Below w.heap.size w W → Calls Try.prog 116 #[.pointer (some ⟨gs, 0, none⟩), .pointer (some ⟨gI, k * 13, none⟩)] W fun e' w' => e' = .returned (.int .i64 er) ∧ R W w')) (Q : Ending → World → Prop) (H1 : Aside0 ((x.f1 == 1 || x.f1 == 2) = false → ∀ w', Below w.heap.size w w' → Q (.returned (.int .i64 9)) w')) (H2 : Aside0 ((x.f1 == 1 || x.f1 == 2) = true → ∀ W w', Below w.heap.size w W → R W w' → Q (.returned (.int .i64 er)) w')) :
    Calls Try.prog 88 #[.pointer (some ⟨gs, 0, none⟩), .agg #[.int .i64 5, .int .i64 ed, .string j0, .string j1, .string j2, .int .i64 j3, .int .i64 j4, .string id, .int .i64 wt], .pointer (some ⟨gI, k * 13, none⟩)] w Q := by
  obtain ⟨b, hb⟩ : ∃ b, b = (x.f1 == 1 || x.f1 == 2) := ⟨_, rfl⟩
  have HBB := Aside0.mk hb
  clear hb
  (go_enter Try.func88, Try.ntmps88; (go_wp2_with (first | ((with_reducible refine gate_dst (N := 4) rfl ?_); refine bx_ (N := 4) (cs := #[.int .i64 5, .int .i64 ed, .string j0, .string j1, .string j2, .int .i64 j3, .int .i64 j4, .string id, .int .i64 wt]) (t := 83) ?_; intro gb hgb w1 hbox hb'; have BW := Aside0.mk hb'; have BK := Aside0.mk hbox; have BG := Aside0.mk (show w.heap.size ≤ gb by omega); clear hgb hbox hb') | ((with_reducible refine gate_ (.makeMap 169 none) rfl ?_); refine map_event rfl rfl ?_; intro gm hgm w2 hbm hb'; have GM := Aside0.mk (show w.heap.size ≤ gm by rw [hgm]; exact BW.out.size); have NM := Aside0.mk (show gb ≠ gm by have := blk_lt BK.out; omega); (replace BW := Aside0.mk (below_then BW.out BW.out.size hb'); replace BK := kb hb' BK; (try replace HM := kb hb' HM); (try replace H12 := kb hb' H12)); have HM := Aside0.mk hbm; clear hgm hbm hb') | ((with_reducible refine gate_dst (N := 9) rfl ?_); refine ints_event rfl (t := 148) (len := 1) rfl 3 [1] Try.underlying148 t_8e t_8e rfl (by decide) (by decide) rfl ?_; intro g9 hg9 w9 hbs hb'; (replace BW := Aside0.mk (below_then BW.out BW.out.size hb'); replace BK := kb hb' BK; (try replace HM := kb hb' HM); (try replace H12 := kb hb' H12)); have H9 := Aside0.mk hbs; clear hg9 hbs hb') | ((with_reducible refine gate_dst (N := 10) rfl ?_); refine ints_event rfl (t := 148) (len := 1) rfl 3 [2] Try.underlying148 t_8e t_8e rfl (by decide) (by decide) rfl ?_; intro g10 hg10 w10 hbs hb'; (replace BW := Aside0.mk (below_then BW.out BW.out.size hb'); replace BK := kb hb' BK; (try replace HM := kb hb' HM); (try replace H12 := kb hb' H12)); have H10 := Aside0.mk hbs; clear hg10 hbs hb') | ((with_reducible refine gate_dst (N := 11) rfl ?_); refine ints_event rfl (t := 148) (len := 1) rfl 3 [3] Try.underlying148 t_8e t_8e rfl (by decide) (by decide) rfl ?_; intro g11 hg11 w11 hbs hb'; (replace BW := Aside0.mk (below_then BW.out BW.out.size hb'); replace BK := kb hb' BK; (try replace HM := kb hb' HM); (try replace H12 := kb hb' H12)); have H11 := Aside0.mk hbs; clear hg11 hbs hb') | ((with_reducible refine gate_dst (N := 12) rfl ?_); refine ints_event rfl (t := 148) (len := 2) rfl 3 [1, 2] Try.underlying148 t_8e t_8e rfl (by decide) (by decide) rfl ?_; intro g12 hg12 w12 hbs hb'; (replace BW := Aside0.mk (below_then BW.out BW.out.size hb'); replace BK := kb hb' BK; (try replace HM := kb hb' HM); (try replace H12 := kb hb' H12)); have H12 := Aside0.mk hbs; clear hg12 hbs hb') | ((with_reducible refine gate_ (.insert 169 (.tmp 8) (.const (.int .i64 2)) (.tmp 9)) rfl ?_); refine ins_event (val := .slice (some ⟨g9, 0, none⟩) 1 1) rfl rfl rfl ?hx rfl ?hy Try.underlying169 Try.underlying3 HM.out rfl ?_; (case hx => first | rfl | (go_simp; done) | (go_simp; rfl)); (case hy => first | rfl | (go_simp; done) | (go_simp; rfl)); intro wI2 hbm hg' hs'; replace BW := Aside0.mk (Below.grown BW.out hg' BW.out.size (fun j hj => by injection hj with hj; subst hj; exact GM.out)); replace BK := Aside0.mk (blk_grown BK.out hg' (fun e => NM.out t_8d)); (try replace H12 := Aside0.mk (blk_grown H12.out hg' (map_ne HM.out H12.out))); replace HM := Aside0.mk hbm; clear hbm hg' hs') | ((with_reducible refine gate_ (.insert 169 (.tmp 8) (.const (.int .i64 3)) (.tmp 10)) rfl ?_); refine ins_event (val := .slice (some ⟨g10, 0, none⟩) 1 1) rfl rfl rfl ?hx rfl ?hy Try.underlying169 Try.underlying3 HM.out rfl ?_; (case hx => first | rfl | (go_simp; done) | (go_simp; rfl)); (case hy => first | rfl | (go_simp; done) | (go_simp; rfl)); intro wI3 hbm hg' hs'; replace BW := Aside0.mk (Below.grown BW.out hg' BW.out.size (fun j hj => by injection hj with hj; subst hj; exact GM.out)); replace BK := Aside0.mk (blk_grown BK.out hg' (fun e => NM.out t_8d)); (try replace H12 := Aside0.mk (blk_grown H12.out hg' (map_ne HM.out H12.out))); replace HM := Aside0.mk hbm; clear hbm hg' hs') | ((with_reducible refine gate_ (.insert 169 (.tmp 8) (.const (.int .i64 4)) (.tmp 11)) rfl ?_); refine ins_event (val := .slice (some ⟨g11, 0, none⟩) 1 1) rfl rfl rfl ?hx rfl ?hy Try.underlying169 Try.underlying3 HM.out rfl ?_; (case hx => first | rfl | (go_simp; done) | (go_simp; rfl)); (case hy => first | rfl | (go_simp; done) | (go_simp; rfl)); intro wI4 hbm hg' hs'; replace BW := Aside0.mk (Below.grown BW.out hg' BW.out.size (fun j hj => by injection hj with hj; subst hj; exact GM.out)); replace BK := Aside0.mk (blk_grown BK.out hg' (fun e => NM.out t_8d)); (try replace H12 := Aside0.mk (blk_grown H12.out hg' (map_ne HM.out H12.out))); replace HM := Aside0.mk hbm; clear hbm hg' hs') | ((with_reducible refine gate_ (.insert 169 (.tmp 8) (.const (.int .i64 5)) (.tmp 12)) rfl ?_); refine ins_event (val := .slice (some ⟨g12, 0, none⟩) 2 2) rfl rfl rfl ?hx rfl ?hy Try.underlying169 Try.underlying3 HM.out rfl ?_; (case hx => first | rfl | (go_simp; done) | (go_simp; rfl)); (case hy => first | rfl | (go_simp; done) | (go_simp; rfl)); intro wI5 hbm hg' hs'; replace BW := Aside0.mk (Below.grown BW.out hg' BW.out.size (fun j hj => by injection hj with hj; subst hj; exact GM.out)); replace BK := Aside0.mk (blk_grown BK.out hg' (fun e => NM.out t_8d)); (try replace H12 := Aside0.mk (blk_grown H12.out hg' (map_ne HM.out H12.out))); replace HM := Aside0.mk hbm; clear hbm hg' hs'))); have hm := HM.out; have cL := fun dd os => run_lookup_hit (P := Try.prog) (w := grow (redrawn wI5 dd) os) 169 3 148 gm _ _ 5 3 _ Try.underlying169 Try.underlying3 (((below_regrown wI5 dd os).block gm (blk_lt hm)).trans hm) rfl rfl; have z0 : wI5.cell? ⟨gb, 0, none⟩ = some (.int .i64 5) := (blk_cell BK.out 0).trans rfl; have k0 := cell_regrown z0; have z5 : wI5.cell? ⟨gI, k * 13 + 5, none⟩ = some (.int .i64 x.f1) := elemI (HJ.out.below BW.out).hi k hk HIx.out 5 _ rfl; have k5 := cell_regrown z5; have hd := H12.out; have cC := fun dd os => Calls.regrown_of (cont_int _ x.f1 _ g12 (grow (redrawn wI5 dd) os) (by decide) (((below_regrown wI5 dd os).block g12 (blk_lt hd)).trans hd) (by rw [cont_two, ← HBB.out])); clear hm hd; refine wp_region_quiet_below t_8e t_8e ?_; (repeat ((try simp only [Act.put, List.setIfInBounds_toArray, List.set_cons_zero, List.set_cons_succ]); (go_big_quiet_step (first | exact cC _ _)))); refine wpQuiet_nil ?_; intro _ hw'; obtain ⟨⟨dq, osq⟩, hw''⟩ := hw'; subst hw''; have hb' := below_regrown wI5 dq osq; clear cL cC k0 k5 z0 z5 HM H9 H10 H11 H12 NM GM; generalize grow (redrawn wI5 dq) osq = w3 at hb' ⊢; replace BW := Aside0.mk (below_then BW.out BW.out.size hb'); replace BK := kb hb' BK; clear hb')
  cases b
  · go_wp2
    try go_ret
    exact H1.out HBB.out.symm _ BW.out
  · (have y0 : w3.cell? ⟨gb, 0, none⟩ = some (.int .i64 5) := (blk_cell BK.out 0).trans rfl)
    go_wp2_with (go_at_call 116; (with_reducible refine (HS.out _ BW.out).mono ?_); rintro e' w4 ⟨rfl, hr⟩; have HR := Aside0.mk hr; clear hr)
    try go_ret
    exact H2.out HBB.out.symm _ _ BW.out HR.out
set_option maxHeartbeats 4000000 in
set_option maxRecDepth 100000 in
theorem ch3 (base gs gI n cap k : Nat) (v2 : Value) (d e t : Int) (items : List S99) (mm : List S24) (x : S99) (w : World) (ed : Int) (j0 j1 j2 : ByteArray) (j3 j4 : Int) (id : ByteArray) (wt : Int) (hk : k < n) (HBS : Aside0 (base ≤ gs)) (HBW : Aside0 (base ≤ w.heap.size)) (HJ : Aside0 (JAt base gs gI n cap v2 d e t items mm w)) (HIx : Aside0 (x = rd_T99 items k)) (Q : Ending → World → Prop) (H1 : Aside0 ((x.f1 == 2) = false → ∀ w', Below w.heap.size w w' → Q (.returned (.int .i64 9)) w')) (H2 : Aside0 ((x.f1 == 2) = true → (wt < 1 ∨ x.f3 < wt) → ∀ w', Below w.heap.size w w' → Q (.returned (.int .i64 2)) w')) (H3 : Aside0 ((x.f1 == 2) = true → ¬ wt < 1 → ¬ x.f3 < wt → ∀ w', JAt base gs gI n cap v2 d e t (items.set k ⟨x.f0, 3, x.f2, x.f3, wt, z24⟩) mm w' → Below base w w' → Q (.returned (.int .i64 0)) w')) :
    Calls Try.prog 88 #[.pointer (some ⟨gs, 0, none⟩), .agg #[.int .i64 3, .int .i64 ed, .string j0, .string j1, .string j2, .int .i64 j3, .int .i64 j4, .string id, .int .i64 wt], .pointer (some ⟨gI, k * 13, none⟩)] w Q := by
  have HKL := Aside0.mk (show k < items.length by have := (Kd.R_reads' HJ.out.hi).1; omega)
  have HGI := Aside0.mk (show base ≤ gI from Kd.R_base HJ.out.hi gI rfl)
  obtain ⟨b, hb⟩ : ∃ b, b = (x.f1 == 2) := ⟨_, rfl⟩
  have HBB := Aside0.mk hb
  clear hb
  (go_enter Try.func88, Try.ntmps88; (go_wp2_with (first | ((with_reducible refine gate_dst (N := 4) rfl ?_); refine bx_ (N := 4) (cs := #[.int .i64 3, .int .i64 ed, .string j0, .string j1, .string j2, .int .i64 j3, .int .i64 j4, .string id, .int .i64 wt]) (t := 83) ?_; intro gb hgb w1 hbox hb'; have BW := Aside0.mk hb'; have BK := Aside0.mk hbox; have BG := Aside0.mk (show w.heap.size ≤ gb by omega); clear hgb hbox hb') | ((with_reducible refine gate_ (.makeMap 169 none) rfl ?_); refine map_event rfl rfl ?_; intro gm hgm w2 hbm hb'; have GM := Aside0.mk (show w.heap.size ≤ gm by rw [hgm]; exact BW.out.size); have NM := Aside0.mk (show gb ≠ gm by have := blk_lt BK.out; omega); (replace BW := Aside0.mk (below_then BW.out BW.out.size hb'); replace BK := kb hb' BK; (try replace HM := kb hb' HM); (try replace H10 := kb hb' H10)); have HM := Aside0.mk hbm; clear hgm hbm hb') | ((with_reducible refine gate_dst (N := 9) rfl ?_); refine ints_event rfl (t := 148) (len := 1) rfl 3 [1] Try.underlying148 t_8e t_8e rfl (by decide) (by decide) rfl ?_; intro g9 hg9 w9 hbs hb'; (replace BW := Aside0.mk (below_then BW.out BW.out.size hb'); replace BK := kb hb' BK; (try replace HM := kb hb' HM); (try replace H10 := kb hb' H10)); have H9 := Aside0.mk hbs; clear hg9 hbs hb') | ((with_reducible refine gate_dst (N := 10) rfl ?_); refine ints_event rfl (t := 148) (len := 1) rfl 3 [2] Try.underlying148 t_8e t_8e rfl (by decide) (by decide) rfl ?_; intro g10 hg10 w10 hbs hb'; (replace BW := Aside0.mk (below_then BW.out BW.out.size hb'); replace BK := kb hb' BK; (try replace HM := kb hb' HM); (try replace H10 := kb hb' H10)); have H10 := Aside0.mk hbs; clear hg10 hbs hb') | ((with_reducible refine gate_dst (N := 11) rfl ?_); refine ints_event rfl (t := 148) (len := 1) rfl 3 [3] Try.underlying148 t_8e t_8e rfl (by decide) (by decide) rfl ?_; intro g11 hg11 w11 hbs hb'; (replace BW := Aside0.mk (below_then BW.out BW.out.size hb'); replace BK := kb hb' BK; (try replace HM := kb hb' HM); (try replace H10 := kb hb' H10)); have H11 := Aside0.mk hbs; clear hg11 hbs hb') | ((with_reducible refine gate_dst (N := 12) rfl ?_); refine ints_event rfl (t := 148) (len := 2) rfl 3 [1, 2] Try.underlying148 t_8e t_8e rfl (by decide) (by decide) rfl ?_; intro g12 hg12 w12 hbs hb'; (replace BW := Aside0.mk (below_then BW.out BW.out.size hb'); replace BK := kb hb' BK; (try replace HM := kb hb' HM); (try replace H10 := kb hb' H10)); have H12 := Aside0.mk hbs; clear hg12 hbs hb') | ((with_reducible refine gate_ (.insert 169 (.tmp 8) (.const (.int .i64 2)) (.tmp 9)) rfl ?_); refine ins_event (val := .slice (some ⟨g9, 0, none⟩) 1 1) rfl rfl rfl ?hx rfl ?hy Try.underlying169 Try.underlying3 HM.out rfl ?_; (case hx => first | rfl | (go_simp; done) | (go_simp; rfl)); (case hy => first | rfl | (go_simp; done) | (go_simp; rfl)); intro wI2 hbm hg' hs'; replace BW := Aside0.mk (Below.grown BW.out hg' BW.out.size (fun j hj => by injection hj with hj; subst hj; exact GM.out)); replace BK := Aside0.mk (blk_grown BK.out hg' (fun e => NM.out t_8d)); (try replace H10 := Aside0.mk (blk_grown H10.out hg' (map_ne HM.out H10.out))); replace HM := Aside0.mk hbm; clear hbm hg' hs') | ((with_reducible refine gate_ (.insert 169 (.tmp 8) (.const (.int .i64 3)) (.tmp 10)) rfl ?_); refine ins_event (val := .slice (some ⟨g10, 0, none⟩) 1 1) rfl rfl rfl ?hx rfl ?hy Try.underlying169 Try.underlying3 HM.out rfl ?_; (case hx => first | rfl | (go_simp; done) | (go_simp; rfl)); (case hy => first | rfl | (go_simp; done) | (go_simp; rfl)); intro wI3 hbm hg' hs'; replace BW := Aside0.mk (Below.grown BW.out hg' BW.out.size (fun j hj => by injection hj with hj; subst hj; exact GM.out)); replace BK := Aside0.mk (blk_grown BK.out hg' (fun e => NM.out t_8d)); (try replace H10 := Aside0.mk (blk_grown H10.out hg' (map_ne HM.out H10.out))); replace HM := Aside0.mk hbm; clear hbm hg' hs') | ((with_reducible refine gate_ (.insert 169 (.tmp 8) (.const (.int .i64 4)) (.tmp 11)) rfl ?_); refine ins_event (val := .slice (some ⟨g11, 0, none⟩) 1 1) rfl rfl rfl ?hx rfl ?hy Try.underlying169 Try.underlying3 HM.out rfl ?_; (case hx => first | rfl | (go_simp; done) | (go_simp; rfl)); (case hy => first | rfl | (go_simp; done) | (go_simp; rfl)); intro wI4 hbm hg' hs'; replace BW := Aside0.mk (Below.grown BW.out hg' BW.out.size (fun j hj => by injection hj with hj; subst hj; exact GM.out)); replace BK := Aside0.mk (blk_grown BK.out hg' (fun e => NM.out t_8d)); (try replace H10 := Aside0.mk (blk_grown H10.out hg' (map_ne HM.out H10.out))); replace HM := Aside0.mk hbm; clear hbm hg' hs') | ((with_reducible refine gate_ (.insert 169 (.tmp 8) (.const (.int .i64 5)) (.tmp 12)) rfl ?_); refine ins_event (val := .slice (some ⟨g12, 0, none⟩) 2 2) rfl rfl rfl ?hx rfl ?hy Try.underlying169 Try.underlying3 HM.out rfl ?_; (case hx => first | rfl | (go_simp; done) | (go_simp; rfl)); (case hy => first | rfl | (go_simp; done) | (go_simp; rfl)); intro wI5 hbm hg' hs'; replace BW := Aside0.mk (Below.grown BW.out hg' BW.out.size (fun j hj => by injection hj with hj; subst hj; exact GM.out)); replace BK := Aside0.mk (blk_grown BK.out hg' (fun e => NM.out t_8d)); (try replace H10 := Aside0.mk (blk_grown H10.out hg' (map_ne HM.out H10.out))); replace HM := Aside0.mk hbm; clear hbm hg' hs'))); have hm := HM.out; have cL := fun dd os => run_lookup_hit (P := Try.prog) (w := grow (redrawn wI5 dd) os) 169 3 148 gm _ _ 3 1 _ Try.underlying169 Try.underlying3 (((below_regrown wI5 dd os).block gm (blk_lt hm)).trans hm) rfl rfl; have z0 : wI5.cell? ⟨gb, 0, none⟩ = some (.int .i64 3) := (blk_cell BK.out 0).trans rfl; have k0 := cell_regrown z0; have z5 : wI5.cell? ⟨gI, k * 13 + 5, none⟩ = some (.int .i64 x.f1) := elemI (HJ.out.below BW.out).hi k hk HIx.out 5 _ rfl; have k5 := cell_regrown z5; have hd := H10.out; have cC := fun dd os => Calls.regrown_of (cont_int _ x.f1 _ g10 (grow (redrawn wI5 dd) os) (by decide) (((below_regrown wI5 dd os).block g10 (blk_lt hd)).trans hd) (by rw [cont_one, ← HBB.out])); clear hm hd; refine wp_region_quiet_below t_8e t_8e ?_; (repeat ((try simp only [Act.put, List.setIfInBounds_toArray, List.set_cons_zero, List.set_cons_succ]); (go_big_quiet_step (first | exact cC _ _)))); refine wpQuiet_nil ?_; intro _ hw'; obtain ⟨⟨dq, osq⟩, hw''⟩ := hw'; subst hw''; have hb' := below_regrown wI5 dq osq; clear cL cC k0 k5 z0 z5 HM H9 H10 H11 H12 NM GM; generalize grow (redrawn wI5 dq) osq = w3 at hb' ⊢; replace BW := Aside0.mk (below_then BW.out BW.out.size hb'); replace BK := kb hb' BK; clear hb')
  cases b
  · go_wp2
    try go_ret
    exact H1.out HBB.out.symm _ BW.out
  (have y0 : w3.cell? ⟨gb, 0, none⟩ = some (.int .i64 3) := (blk_cell BK.out 0).trans rfl)
  go_wp2
  by_cases h1 : wt < 1
  · have e1 : decide (wt < 1) = true := decide_eq_true h1
    have HN := Aside0.mk h1
    clear h1
    (have yw : w3.cell? ⟨gb, 8, none⟩ = some (.int .i64 wt) := (blk_cell BK.out 8).trans rfl; have kw := cell_regrown yw; have yr : w3.cell? ⟨gI, k * 13 + 7, none⟩ = some (.int .i64 x.f3) := elemI (HJ.out.below BW.out).hi k hk HIx.out 7 _ rfl; have kr := cell_regrown yr; refine wp_region_quiet_below t_8e t_8e ?_; (repeat ((try simp only [Act.put, List.setIfInBounds_toArray, List.set_cons_zero, List.set_cons_succ]); (go_big_quiet_step (fail)))); refine wpQuiet_nil ?_; intro _ hw'; obtain ⟨⟨dq, osq⟩, hw''⟩ := hw'; subst hw''; have hb' := below_regrown w3 dq osq; clear kw kr yw yr y0; generalize grow (redrawn w3 dq) osq = w4 at hb' ⊢; replace BW := Aside0.mk (below_then BW.out BW.out.size hb'); replace BK := kb hb' BK; clear hb')
    go_wp2
    try go_ret
    exact H2.out HBB.out.symm (.inl HN.out) _ BW.out
  have e1 : decide (wt < 1) = false := decide_eq_false h1
  have HN := Aside0.mk h1
  clear h1
  by_cases h2 : x.f3 < wt
  · have e2 : decide (x.f3 < wt) = true := decide_eq_true h2
    have HN2 := Aside0.mk h2
    clear h2
    (have yw : w3.cell? ⟨gb, 8, none⟩ = some (.int .i64 wt) := (blk_cell BK.out 8).trans rfl; have kw := cell_regrown yw; have yr : w3.cell? ⟨gI, k * 13 + 7, none⟩ = some (.int .i64 x.f3) := elemI (HJ.out.below BW.out).hi k hk HIx.out 7 _ rfl; have kr := cell_regrown yr; refine wp_region_quiet_below t_8e t_8e ?_; (repeat ((try simp only [Act.put, List.setIfInBounds_toArray, List.set_cons_zero, List.set_cons_succ]); (go_big_quiet_step (fail)))); refine wpQuiet_nil ?_; intro _ hw'; obtain ⟨⟨dq, osq⟩, hw''⟩ := hw'; subst hw''; have hb' := below_regrown w3 dq osq; clear kw kr yw yr y0; generalize grow (redrawn w3 dq) osq = w4 at hb' ⊢; replace BW := Aside0.mk (below_then BW.out BW.out.size hb'); replace BK := kb hb' BK; clear hb')
    go_wp2
    try go_ret
    exact H2.out HBB.out.symm (.inr HN2.out) _ BW.out
  have e2 : decide (x.f3 < wt) = false := decide_eq_false h2
  have HN2 := Aside0.mk h2
  clear h2
  (have yw : w3.cell? ⟨gb, 8, none⟩ = some (.int .i64 wt) := (blk_cell BK.out 8).trans rfl; have kw := cell_regrown yw; have yr : w3.cell? ⟨gI, k * 13 + 7, none⟩ = some (.int .i64 x.f3) := elemI (HJ.out.below BW.out).hi k hk HIx.out 7 _ rfl; have kr := cell_regrown yr; refine wp_region_quiet_below t_8e t_8e ?_; (repeat ((try simp only [Act.put, List.setIfInBounds_toArray, List.set_cons_zero, List.set_cons_succ]); (go_big_quiet_step (fail)))); refine wpQuiet_nil ?_; intro _ hw'; obtain ⟨⟨dq, osq⟩, hw''⟩ := hw'; subst hw''; have hb' := below_regrown w3 dq osq; clear kw kr yw yr y0; generalize grow (redrawn w3 dq) osq = w4 at hb' ⊢; replace BW := Aside0.mk (below_then BW.out BW.out.size hb'); replace BK := kb hb' BK; clear hb')
  go_wp2
  have HJ9 := Aside0.mk (HJ.out.below (below_drew BW.out))
  have HX9 := HIx
  have HB9 := Aside0.mk (Below.mono (below_drew BW.out) HBW.out)
  have NGB := Aside0.mk (show gb ≠ gI by have := BG.out; have := Kd.R_lt HJ.out.hi gI rfl; omega)
  have BP9 := Aside0.mk (blk_drew BK.out)
  clear BW BK
  refine start_ (n := 15) (S := fun w' => w'.cell? ⟨gb, 8, none⟩ = some (.int .i64 wt)) (ds := [14]) q15_0 t_8e rfl rfl ((blk_cell BP9.out 8).trans rfl) (fun hHeld => ?_)
  refine p_ (i := 0) (N := some 48) q15_1 rfl rfl t_8e ?_
  refine p_ (i := 1) (N := some 49) q15_3 rfl rfl t_8e ?_
  refine p_ (i := 2) (N := some 50) q15_7 rfl rfl t_8e ?_
  refine p_ (i := 3) (N := some 51) q15_f rfl rfl t_8e ?_
  refine p_ (i := 5) (N := some 53) q15_2f rfl rfl t_8e ?_
  refine p_ (i := 6) (N := some 54) q15_6f rfl rfl t_8e ?_
  refine p_ (i := 7) (N := some 55) q15_ef rfl rfl t_8e ?_
  refine k_ (i := 4) (N := some 52) q15_ff rfl rfl t_8e (Or.inl ⟨rfl, (by intro w' s0; go_simp; with_reducible rfl)⟩) hHeld ?_
  refine one_ (i := 8) (N := none) q15_1ff rfl rfl t_8e (by decide) (fun K hK => ?_)
  refine step_storeR k99 (x' := ⟨x.f0, 3, x.f2, x.f3, x.f4, x.f5⟩) (c := pcsI x) (k := k) (j := 5) (seg := [.int .i64 3]) (u := .int .i64 3) (by rfl) rfl rfl (by rfl) rfl (by rfl) rfl t_8e t_88 HJ9.out.hi hk rfl (elemI HJ9.out.hi k hk HX9.out) t_82 (fun w0 => k99_mkM w0 _ _ ⟨x.f0, 3, x.f2, x.f3, x.f4, x.f5⟩) ?_
  intro w8 hi2 hg2 hs2
  try rw [List.set_set] at hi2
  have HJ8 := Aside0.mk (HJ9.out.item hg2 hi2)
  have HX8 := Aside0.mk (rd_set99 items k (⟨x.f0, 3, x.f2, x.f3, x.f4, x.f5⟩) HKL.out)
  have HB8 := Aside0.mk (Below.grown HB9.out hg2 (Nat.le_trans HBW.out HB9.out.size) (fun q hq => by injection hq with hq; subst hq; exact HGI.out))
  have BP8 := Aside0.mk (blk_grown BP9.out hg2 (fun e => NGB.out t_8d))
  clear hi2 hg2 hs2
  refine hK.out _ _ ((blk_cell BP8.out 8).trans rfl) (fun hHeld => ?_)
  clear hK K
  refine p_ (i := 9) (N := some 56) q15_3ff rfl rfl t_8e ?_
  refine p_ (i := 10) (N := some 57) q15_7ff rfl rfl t_8e ?_
  refine one_ (i := 11) (N := none) q15_fff rfl rfl t_8e (by decide) (fun K hK => ?_)
  refine step_storeR k99 (x' := ⟨x.f0, 3, x.f2, x.f3, wt, x.f5⟩) (c := pcsI ⟨x.f0, 3, x.f2, x.f3, x.f4, x.f5⟩) (k := k) (j := 8) (seg := [.int .i64 wt]) (u := .int .i64 wt) (by rfl) rfl rfl (by rfl) rfl (by rfl) rfl t_8e t_88 HJ8.out.hi hk rfl (elemI HJ8.out.hi k hk HX8.out) t_82 (fun w0 => k99_mkM w0 _ _ ⟨x.f0, 3, x.f2, x.f3, wt, x.f5⟩) ?_
  intro w11 hi2 hg2 hs2
  try rw [List.set_set] at hi2
  have HJ11 := Aside0.mk (HJ8.out.item hg2 hi2)
  have HX11 := Aside0.mk (rd_set99 items k (⟨x.f0, 3, x.f2, x.f3, wt, x.f5⟩) HKL.out)
  have HB11 := Aside0.mk (Below.grown HB8.out hg2 (Nat.le_trans HBW.out HB8.out.size) (fun q hq => by injection hq with hq; subst hq; exact HGI.out))
  have BP11 := Aside0.mk (blk_grown BP8.out hg2 (fun e => NGB.out t_8d))
  clear hi2 hg2 hs2
  refine hK.out _ _ ((blk_cell BP11.out 8).trans rfl) (fun hHeld => ?_)
  clear hK K
  refine p_ (i := 12) (N := some 58) q15_1fff rfl rfl t_8e ?_
  refine p_ (i := 13) (N := some 59) q15_3fff rfl rfl t_8e ?_
  refine last_ (i := 14) (N := none) q15_7fff rfl rfl t_8e (by decide) (fun K hK => ?_)
  refine step_storeR k99 (x' := ⟨x.f0, 3, x.f2, x.f3, wt, z24⟩) (c := pcsI ⟨x.f0, 3, x.f2, x.f3, wt, x.f5⟩) (k := k) (j := 9) (seg := [.string (⟨#[]⟩ : ByteArray), .string (⟨#[]⟩ : ByteArray), .int .i64 0, .int .i64 0]) (u := .agg #[.string (⟨#[]⟩ : ByteArray), .string (⟨#[]⟩ : ByteArray), .int .i64 0, .int .i64 0]) (by rfl) rfl rfl (by rfl) rfl (by rfl) rfl t_8e t_88 HJ11.out.hi hk rfl (elemI HJ11.out.hi k hk HX11.out) t_82 (fun w0 => k99_mkM w0 _ _ ⟨x.f0, 3, x.f2, x.f3, wt, z24⟩) ?_
  intro w14 hi2 hg2 hs2
  try rw [List.set_set] at hi2
  have HJ14 := Aside0.mk (HJ11.out.item hg2 hi2)
  have HX14 := Aside0.mk (rd_set99 items k (⟨x.f0, 3, x.f2, x.f3, wt, z24⟩) HKL.out)
  have HB14 := Aside0.mk (Below.grown HB11.out hg2 (Nat.le_trans HBW.out HB11.out.size) (fun q hq => by injection hq with hq; subst hq; exact HGI.out))
  have BP14 := Aside0.mk (blk_grown BP11.out hg2 (fun e => NGB.out t_8d))
  clear hi2 hg2 hs2
  refine hK.out _ _ ?_
  clear hK K
  refine done_ t_8e ?_
  go_wp2
  try go_ret
  exact H3.out HBB.out.symm HN.out HN2.out _ HJ14.out HB14.out
set_option maxHeartbeats 4000000 in
set_option maxRecDepth 100000 in
theorem ch4 (base gs gI n cap k : Nat) (v2 : Value) (d e t : Int) (items : List S99) (mm : List S24) (x : S99) (w : World) (ed : Int) (j0 j1 j2 : ByteArray) (j3 j4 : Int) (id : ByteArray) (wt : Int) (hk : k < n) (HBS : Aside0 (base ≤ gs)) (HBW : Aside0 (base ≤ w.heap.size)) (HJ : Aside0 (JAt base gs gI n cap v2 d e t items mm w)) (HIx : Aside0 (x = rd_T99 items k)) (Q : Ending → World → Prop) (H1 : Aside0 ((x.f1 == 3) = false → ∀ w', Below w.heap.size w w' → Q (.returned (.int .i64 9)) w')) (H2 : Aside0 ((x.f1 == 3) = true → ∀ w', JAt base gs gI n cap v2 d (wrap64 (e + x.f0.f4)) (wrap64 (t + max 0 (wrap64 (ed - x.f0.f3)))) (items.set k ⟨x.f0, 4, x.f2, x.f3, x.f4, x.f5⟩) mm w' → Below base w w' → Q (.returned (.int .i64 0)) w')) :
    Calls Try.prog 88 #[.pointer (some ⟨gs, 0, none⟩), .agg #[.int .i64 4, .int .i64 ed, .string j0, .string j1, .string j2, .int .i64 j3, .int .i64 j4, .string id, .int .i64 wt], .pointer (some ⟨gI, k * 13, none⟩)] w Q := by
  have HKL := Aside0.mk (show k < items.length by have := (Kd.R_reads' HJ.out.hi).1; omega)
  have HGI := Aside0.mk (show base ≤ gI from Kd.R_base HJ.out.hi gI rfl)
  have HNS := Aside0.mk (show v2.ownBlock ≠ some gs from HJ.out.ne.2.1)
  obtain ⟨b, hb⟩ : ∃ b, b = (x.f1 == 3) := ⟨_, rfl⟩
  have HBB := Aside0.mk hb
  clear hb
  (go_enter Try.func88, Try.ntmps88; (go_wp2_with (first | ((with_reducible refine gate_dst (N := 4) rfl ?_); refine bx_ (N := 4) (cs := #[.int .i64 4, .int .i64 ed, .string j0, .string j1, .string j2, .int .i64 j3, .int .i64 j4, .string id, .int .i64 wt]) (t := 83) ?_; intro gb hgb w1 hbox hb'; have BW := Aside0.mk hb'; have BK := Aside0.mk hbox; have BG := Aside0.mk (show w.heap.size ≤ gb by omega); clear hgb hbox hb') | ((with_reducible refine gate_ (.makeMap 169 none) rfl ?_); refine map_event rfl rfl ?_; intro gm hgm w2 hbm hb'; have GM := Aside0.mk (show w.heap.size ≤ gm by rw [hgm]; exact BW.out.size); have NM := Aside0.mk (show gb ≠ gm by have := blk_lt BK.out; omega); (replace BW := Aside0.mk (below_then BW.out BW.out.size hb'); replace BK := kb hb' BK; (try replace HM := kb hb' HM); (try replace H11 := kb hb' H11)); have HM := Aside0.mk hbm; clear hgm hbm hb') | ((with_reducible refine gate_dst (N := 9) rfl ?_); refine ints_event rfl (t := 148) (len := 1) rfl 3 [1] Try.underlying148 t_8e t_8e rfl (by decide) (by decide) rfl ?_; intro g9 hg9 w9 hbs hb'; (replace BW := Aside0.mk (below_then BW.out BW.out.size hb'); replace BK := kb hb' BK; (try replace HM := kb hb' HM); (try replace H11 := kb hb' H11)); have H9 := Aside0.mk hbs; clear hg9 hbs hb') | ((with_reducible refine gate_dst (N := 10) rfl ?_); refine ints_event rfl (t := 148) (len := 1) rfl 3 [2] Try.underlying148 t_8e t_8e rfl (by decide) (by decide) rfl ?_; intro g10 hg10 w10 hbs hb'; (replace BW := Aside0.mk (below_then BW.out BW.out.size hb'); replace BK := kb hb' BK; (try replace HM := kb hb' HM); (try replace H11 := kb hb' H11)); have H10 := Aside0.mk hbs; clear hg10 hbs hb') | ((with_reducible refine gate_dst (N := 11) rfl ?_); refine ints_event rfl (t := 148) (len := 1) rfl 3 [3] Try.underlying148 t_8e t_8e rfl (by decide) (by decide) rfl ?_; intro g11 hg11 w11 hbs hb'; (replace BW := Aside0.mk (below_then BW.out BW.out.size hb'); replace BK := kb hb' BK; (try replace HM := kb hb' HM); (try replace H11 := kb hb' H11)); have H11 := Aside0.mk hbs; clear hg11 hbs hb') | ((with_reducible refine gate_dst (N := 12) rfl ?_); refine ints_event rfl (t := 148) (len := 2) rfl 3 [1, 2] Try.underlying148 t_8e t_8e rfl (by decide) (by decide) rfl ?_; intro g12 hg12 w12 hbs hb'; (replace BW := Aside0.mk (below_then BW.out BW.out.size hb'); replace BK := kb hb' BK; (try replace HM := kb hb' HM); (try replace H11 := kb hb' H11)); have H12 := Aside0.mk hbs; clear hg12 hbs hb') | ((with_reducible refine gate_ (.insert 169 (.tmp 8) (.const (.int .i64 2)) (.tmp 9)) rfl ?_); refine ins_event (val := .slice (some ⟨g9, 0, none⟩) 1 1) rfl rfl rfl ?hx rfl ?hy Try.underlying169 Try.underlying3 HM.out rfl ?_; (case hx => first | rfl | (go_simp; done) | (go_simp; rfl)); (case hy => first | rfl | (go_simp; done) | (go_simp; rfl)); intro wI2 hbm hg' hs'; replace BW := Aside0.mk (Below.grown BW.out hg' BW.out.size (fun j hj => by injection hj with hj; subst hj; exact GM.out)); replace BK := Aside0.mk (blk_grown BK.out hg' (fun e => NM.out t_8d)); (try replace H11 := Aside0.mk (blk_grown H11.out hg' (map_ne HM.out H11.out))); replace HM := Aside0.mk hbm; clear hbm hg' hs') | ((with_reducible refine gate_ (.insert 169 (.tmp 8) (.const (.int .i64 3)) (.tmp 10)) rfl ?_); refine ins_event (val := .slice (some ⟨g10, 0, none⟩) 1 1) rfl rfl rfl ?hx rfl ?hy Try.underlying169 Try.underlying3 HM.out rfl ?_; (case hx => first | rfl | (go_simp; done) | (go_simp; rfl)); (case hy => first | rfl | (go_simp; done) | (go_simp; rfl)); intro wI3 hbm hg' hs'; replace BW := Aside0.mk (Below.grown BW.out hg' BW.out.size (fun j hj => by injection hj with hj; subst hj; exact GM.out)); replace BK := Aside0.mk (blk_grown BK.out hg' (fun e => NM.out t_8d)); (try replace H11 := Aside0.mk (blk_grown H11.out hg' (map_ne HM.out H11.out))); replace HM := Aside0.mk hbm; clear hbm hg' hs') | ((with_reducible refine gate_ (.insert 169 (.tmp 8) (.const (.int .i64 4)) (.tmp 11)) rfl ?_); refine ins_event (val := .slice (some ⟨g11, 0, none⟩) 1 1) rfl rfl rfl ?hx rfl ?hy Try.underlying169 Try.underlying3 HM.out rfl ?_; (case hx => first | rfl | (go_simp; done) | (go_simp; rfl)); (case hy => first | rfl | (go_simp; done) | (go_simp; rfl)); intro wI4 hbm hg' hs'; replace BW := Aside0.mk (Below.grown BW.out hg' BW.out.size (fun j hj => by injection hj with hj; subst hj; exact GM.out)); replace BK := Aside0.mk (blk_grown BK.out hg' (fun e => NM.out t_8d)); (try replace H11 := Aside0.mk (blk_grown H11.out hg' (map_ne HM.out H11.out))); replace HM := Aside0.mk hbm; clear hbm hg' hs') | ((with_reducible refine gate_ (.insert 169 (.tmp 8) (.const (.int .i64 5)) (.tmp 12)) rfl ?_); refine ins_event (val := .slice (some ⟨g12, 0, none⟩) 2 2) rfl rfl rfl ?hx rfl ?hy Try.underlying169 Try.underlying3 HM.out rfl ?_; (case hx => first | rfl | (go_simp; done) | (go_simp; rfl)); (case hy => first | rfl | (go_simp; done) | (go_simp; rfl)); intro wI5 hbm hg' hs'; replace BW := Aside0.mk (Below.grown BW.out hg' BW.out.size (fun j hj => by injection hj with hj; subst hj; exact GM.out)); replace BK := Aside0.mk (blk_grown BK.out hg' (fun e => NM.out t_8d)); (try replace H11 := Aside0.mk (blk_grown H11.out hg' (map_ne HM.out H11.out))); replace HM := Aside0.mk hbm; clear hbm hg' hs'))); have hm := HM.out; have cL := fun dd os => run_lookup_hit (P := Try.prog) (w := grow (redrawn wI5 dd) os) 169 3 148 gm _ _ 4 2 _ Try.underlying169 Try.underlying3 (((below_regrown wI5 dd os).block gm (blk_lt hm)).trans hm) rfl rfl; have z0 : wI5.cell? ⟨gb, 0, none⟩ = some (.int .i64 4) := (blk_cell BK.out 0).trans rfl; have k0 := cell_regrown z0; have z5 : wI5.cell? ⟨gI, k * 13 + 5, none⟩ = some (.int .i64 x.f1) := elemI (HJ.out.below BW.out).hi k hk HIx.out 5 _ rfl; have k5 := cell_regrown z5; have hd := H11.out; have cC := fun dd os => Calls.regrown_of (cont_int _ x.f1 _ g11 (grow (redrawn wI5 dd) os) (by decide) (((below_regrown wI5 dd os).block g11 (blk_lt hd)).trans hd) (by rw [cont_one, ← HBB.out])); clear hm hd; refine wp_region_quiet_below t_8e t_8e ?_; (repeat ((try simp only [Act.put, List.setIfInBounds_toArray, List.set_cons_zero, List.set_cons_succ]); (go_big_quiet_step (first | exact cC _ _)))); refine wpQuiet_nil ?_; intro _ hw'; obtain ⟨⟨dq, osq⟩, hw''⟩ := hw'; subst hw''; have hb' := below_regrown wI5 dq osq; clear cL cC k0 k5 z0 z5 HM H9 H10 H11 H12 NM GM; generalize grow (redrawn wI5 dq) osq = w3 at hb' ⊢; replace BW := Aside0.mk (below_then BW.out BW.out.size hb'); replace BK := kb hb' BK; clear hb')
  cases b
  · go_wp2
    try go_ret
    exact H1.out HBB.out.symm _ BW.out
  (have y0 : w3.cell? ⟨gb, 0, none⟩ = some (.int .i64 4) := (blk_cell BK.out 0).trans rfl)
  have HJ12 := Aside0.mk (HJ.out.below BW.out)
  have HB12 := Aside0.mk (Below.mono BW.out HBW.out)
  have NGB := Aside0.mk (show gb ≠ gI by have := BG.out; have := Kd.R_lt HJ.out.hi gI rfl; omega)
  have NGS := Aside0.mk (show gb ≠ gs by have := BG.out; have := blk_lt HJ.out.hs; omega)
  go_wp2_with (first | ((with_reducible refine gate_ (.store 3 (.tmp 64) (.const (.int .i64 4))) rfl ?_); refine ev_storeR k99 (x' := ⟨x.f0, 4, x.f2, x.f3, x.f4, x.f5⟩) (c := pcsI x) (k := k) (j := 5) (seg := [.int .i64 4]) (u := .int .i64 4) rfl rfl rfl ?hx rfl ?hy rfl t_8e t_88 HJ12.out.hi hk rfl (elemI HJ12.out.hi k hk HIx.out) t_82 (fun w0 => k99_mkM w0 _ _ ⟨x.f0, 4, x.f2, x.f3, x.f4, x.f5⟩) ?_; (case hx => first | rfl | (go_simp; done) | (go_simp; rfl)); (case hy => first | rfl | (go_simp; done) | (go_simp; rfl)); intro wq hi2 hg2 hs2; have HJ13 := Aside0.mk (HJ12.out.item hg2 hi2); have HX13 := Aside0.mk (rd_set99 items k (⟨x.f0, 4, x.f2, x.f3, x.f4, x.f5⟩) HKL.out); have HB13 := Aside0.mk (Below.grown HB12.out hg2 (Nat.le_trans HBW.out HB12.out.size) (fun q hq => by injection hq with hq; subst hq; exact HGI.out)); have BP13 := Aside0.mk (blk_grown BK.out hg2 (fun e => NGB.out t_8d)); clear hi2 hg2 hs2))
  replace HJ13 := Aside0.mk (HJ13.out.below (below_drew (Below.refl _ _)))
  replace HB13 := Aside0.mk (below_drew HB13.out)
  replace BP13 := Aside0.mk (blk_drew BP13.out)
  refine start_ (n := 13) (S := fun w' => w'.cell? ⟨gs, 3, none⟩ = some (.int .i64 e) ∧ w'.cell? ⟨gI, k * 13 + 4, none⟩ = some (.int .i64 x.f0.f4)) (ds := [12]) q13_0 t_8e rfl rfl ⟨(blk_cell HJ13.out.hs 3).trans rfl, elemI HJ13.out.hi k hk HX13.out 4 _ rfl⟩ (fun hHeld => ?_)
  refine p_ (i := 0) (N := some 65) q13_1 rfl rfl t_8e ?_
  refine p_ (i := 1) (N := some 66) q13_3 rfl rfl t_8e ?_
  refine p_ (i := 2) (N := some 67) q13_7 rfl rfl t_8e ?_
  refine p_ (i := 4) (N := some 69) q13_17 rfl rfl t_8e ?_
  refine p_ (i := 5) (N := some 70) q13_37 rfl rfl t_8e ?_
  refine p_ (i := 6) (N := some 71) q13_77 rfl rfl t_8e ?_
  refine p_ (i := 7) (N := some 72) q13_f7 rfl rfl t_8e ?_
  refine k_ (i := 3) (N := some 68) q13_ff rfl rfl t_8e (Or.inl ⟨rfl, t_7e⟩) hHeld ?_
  refine k_ (i := 8) (N := some 73) q13_1ff rfl rfl t_8e (Or.inl ⟨rfl, t_7e⟩) hHeld ?_
  refine p_ (i := 9) (N := some 74) q13_3ff rfl rfl t_8e ?_
  refine p_ (i := 10) (N := some 75) q13_7ff rfl rfl t_8e ?_
  refine p_ (i := 11) (N := some 76) q13_fff rfl rfl t_8e ?_
  refine last_ (i := 12) (N := none) q13_1fff rfl rfl t_8e (by decide) (fun K hK => ?_)
  refine step_storeAt (g := gs) (t := 77) (off := 3) (old := #[.int .i64 d, .slice (some ⟨gI, 0, none⟩) n cap, v2, .int .i64 e, .int .i64 t]) (new := #[.int .i64 d, .slice (some ⟨gI, 0, none⟩) n cap, v2, .int .i64 (wrap64 (e + x.f0.f4)), .int .i64 t]) (u := .int .i64 ((wrap64 (e + x.f0.f4)))) (seg := [.int .i64 ((wrap64 (e + x.f0.f4)))]) (by rfl) rfl rfl (by rfl) (by rfl) rfl t_8e t_88 HJ13.out.hs (by simp) rfl ?_
  intro wk14 hb2 hg2 hs2
  have HJ14 := Aside0.mk (HJ13.out.shop hg2 hb2 HJ13.out.hp HNS.out)
  have HB14 := Aside0.mk (Below.grown HB13.out hg2 (Nat.le_trans HBW.out HB13.out.size) (fun q hq => by injection hq with hq; subst hq; exact HBS.out))
  have BP14 := Aside0.mk (blk_grown BP13.out hg2 (fun e => NGS.out t_8d))
  clear hb2 hg2 hs2
  refine hK.out _ _ ?_
  clear hK K
  refine done_ t_8e ?_
  go_wp2
  replace HJ14 := Aside0.mk (HJ14.out.below (below_drew (Below.refl _ _)))
  replace HB14 := Aside0.mk (below_drew HB14.out)
  replace BP14 := Aside0.mk (blk_drew BP14.out)
  refine start_ (n := 17) (S := fun w' => w'.cell? ⟨gs, 4, none⟩ = some (.int .i64 t) ∧ w'.cell? ⟨gb, 1, none⟩ = some (.int .i64 ed) ∧ w'.cell? ⟨gI, k * 13 + 3, none⟩ = some (.int .i64 x.f0.f3)) (ds := [16]) q17_0 t_8e rfl rfl ⟨(blk_cell HJ14.out.hs 4).trans rfl, (blk_cell BP14.out 1).trans rfl, elemI HJ14.out.hi k hk HX13.out 3 _ rfl⟩ (fun hHeld => ?_)
  refine p_ (i := 0) (N := some 77) q17_1 rfl rfl t_8e ?_
  refine p_ (i := 1) (N := some 78) q17_3 rfl rfl t_8e ?_
  refine p_ (i := 2) (N := some 79) q17_7 rfl rfl t_8e ?_
  refine p_ (i := 4) (N := some 81) q17_17 rfl rfl t_8e ?_
  refine p_ (i := 6) (N := some 83) q17_57 rfl rfl t_8e ?_
  refine p_ (i := 7) (N := some 84) q17_d7 rfl rfl t_8e ?_
  refine p_ (i := 8) (N := some 85) q17_1d7 rfl rfl t_8e ?_
  refine p_ (i := 9) (N := some 86) q17_3d7 rfl rfl t_8e ?_
  refine k_ (i := 3) (N := some 80) q17_3df rfl rfl t_8e (Or.inl ⟨rfl, (by rintro w' ⟨s0, s1, s2⟩; go_simp; with_reducible rfl)⟩) hHeld ?_
  refine k_ (i := 5) (N := some 82) q17_3ff rfl rfl t_8e (Or.inl ⟨rfl, (by rintro w' ⟨s0, s1, s2⟩; go_simp; with_reducible rfl)⟩) hHeld ?_
  refine k_ (i := 10) (N := some 87) q17_7ff rfl rfl t_8e (Or.inl ⟨rfl, (by rintro w' ⟨s0, s1, s2⟩; go_simp; with_reducible rfl)⟩) hHeld ?_
  refine p_ (i := 11) (N := some 88) q17_fff rfl rfl t_8e ?_
  refine p_ (i := 12) (N := some 89) q17_1fff rfl rfl t_8e ?_
  refine p_ (i := 13) (N := some 90) q17_3fff rfl rfl t_8e ?_
  refine p_ (i := 14) (N := some 91) q17_7fff rfl rfl t_8e ?_
  refine p_ (i := 15) (N := some 92) q17_ffff rfl rfl t_8e ?_
  refine last_ (i := 16) (N := none) q17_1ffff rfl rfl t_8e (by decide) (fun K hK => ?_)
  refine step_storeAt (g := gs) (t := 77) (off := 4) (old := #[.int .i64 d, .slice (some ⟨gI, 0, none⟩) n cap, v2, .int .i64 (wrap64 (e + x.f0.f4)), .int .i64 t]) (new := #[.int .i64 d, .slice (some ⟨gI, 0, none⟩) n cap, v2, .int .i64 (wrap64 (e + x.f0.f4)), .int .i64 (wrap64 (t + max 0 (wrap64 (ed - x.f0.f3))))]) (u := .int .i64 ((wrap64 (t + max 0 (wrap64 (ed - x.f0.f3)))))) (seg := [.int .i64 ((wrap64 (t + max 0 (wrap64 (ed - x.f0.f3)))))]) (by rfl) rfl rfl (by rfl) (by rfl) rfl t_8e t_88 HJ14.out.hs (by simp) rfl ?_
  intro wk15 hb2 hg2 hs2
  have HJ15 := Aside0.mk (HJ14.out.shop hg2 hb2 HJ14.out.hp HNS.out)
  have HB15 := Aside0.mk (Below.grown HB14.out hg2 (Nat.le_trans HBW.out HB14.out.size) (fun q hq => by injection hq with hq; subst hq; exact HBS.out))
  have BP15 := Aside0.mk (blk_grown BP14.out hg2 (fun e => NGS.out t_8d))
  clear hb2 hg2 hs2
  refine hK.out _ _ ?_
  clear hK K
  refine done_ t_8e ?_
  go_wp2
  try go_ret
  exact H2.out HBB.out.symm _ HJ15.out HB15.out
end Go.Proofs.Ytndbchcfjajgbaa.XP
