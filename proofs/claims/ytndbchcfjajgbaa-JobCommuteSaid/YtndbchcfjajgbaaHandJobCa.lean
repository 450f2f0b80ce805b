/- job.cancel, walked. -/
import Derived.Test.YtndbchcfjajgbaaXB
import Derived.Test.YtndbchcfjajgbaaHandJobSt
namespace Go.Proofs.Ytndbchcfjajgbaa.XP
open Go.Proofs.Ytndbchcfjajgbaa.XB Go.Proofs.Ytndbchcfjajgbaa.XQ
open Go Go.RowKit Go.Proofs Go.Proofs.YtndbchcfjajgbaaW.PrintWords Go.Proofs.YtndbchcfjajgbaaW.PrintLast Go.Proofs.Ytndbchcfjajgbaa.XH Go.Proofs.Ytndbchcfjajgbaa.XE Go.Proofs.Ytndbchcfjajgbaa.XW
set_option linter.unusedVariables false
set_option linter.unusedSimpArgs false
set_option maxHeartbeats 4000000 in
set_option maxRecDepth 100000 in
theorem cancel_plain (base gs gI n cap k m c2 : Nat) (A : Option Addr) (d e t : Int) (items : List S99) (mm : List S24) (x : S99) (w : World) (hk : k < n) (HBS : Aside0 (base ≤ gs)) (HBW : Aside0 (base ≤ w.heap.size)) (HJ : Aside0 (JAt base gs gI n cap (.slice A m c2) d e t items mm w)) (HIx : Aside0 (x = rd_T99 items k)) (hs : (x.f1 == 2) = false) :
    Calls Try.prog 116 #[.pointer (some ⟨gs, 0, none⟩), .pointer (some ⟨gI, k * 13, none⟩)] w fun e' w' => e' = .returned (.int .i64 0) ∧ ∃ v', JAt base gs gI n cap v' d e t (items.set k ⟨x.f0, 5, x.f2, 0, x.f4, z24⟩) mm w' ∧ Below base w w' := by
  have HKL := Aside0.mk (show k < items.length by have := (Kd.R_reads' HJ.out.hi).1; omega)
  have HGI := Aside0.mk (show base ≤ gI from Kd.R_base HJ.out.hi gI rfl)
  have z5 : w.cell? ⟨gI, k * 13 + 5, none⟩ = some (.int .i64 x.f1) := elemI HJ.out.hi k hk HIx.out 5 _ rfl
  have HJ5 := HJ
  have HX5 := HIx
  have HB5 := Aside0.mk (Below.refl base w)
  go_enter Try.func116, Try.ntmps116
  go_wp2_with (first | ((with_reducible refine gate_ (.store 3 (.tmp 37) (.const (.int .i64 5))) rfl ?_); refine ev_storeR k99 (x' := ⟨x.f0, 5, x.f2, x.f3, x.f4, x.f5⟩) (c := pcsI x) (k := k) (j := 5) (seg := [.int .i64 5]) (u := .int .i64 5) rfl rfl rfl ?hx rfl ?hy rfl t_8e t_88 HJ5.out.hi hk rfl (elemI HJ5.out.hi k hk HX5.out) t_82 (fun w0 => k99_mkM w0 _ _ ⟨x.f0, 5, x.f2, x.f3, x.f4, x.f5⟩) ?_; (case hx => first | rfl | (go_simp; done) | (go_simp; rfl)); (case hy => first | rfl | (go_simp; done) | (go_simp; rfl)); intro wq hi2 hg2 hs2; (try rw [List.set_set] at hi2); have HJ6 := Aside0.mk (HJ5.out.item hg2 hi2); have HX6 := Aside0.mk (rd_set99 items k (⟨x.f0, 5, x.f2, x.f3, x.f4, x.f5⟩) HKL.out); have HB6 := Aside0.mk (Below.grown HB5.out hg2 (Nat.le_trans HBW.out HB5.out.size) (fun q hq => by injection hq with hq; subst hq; exact HGI.out)); clear hi2 hg2 hs2) | ((with_reducible refine gate_ (.store 3 (.tmp 39) (.const (.int .i64 0))) rfl ?_); refine ev_storeR k99 (x' := ⟨x.f0, 5, x.f2, 0, x.f4, x.f5⟩) (c := pcsI ⟨x.f0, 5, x.f2, x.f3, x.f4, x.f5⟩) (k := k) (j := 7) (seg := [.int .i64 0]) (u := .int .i64 0) rfl rfl rfl ?hx rfl ?hy rfl t_8e t_88 HJ6.out.hi hk rfl (elemI HJ6.out.hi k hk HX6.out) t_82 (fun w0 => k99_mkM w0 _ _ ⟨x.f0, 5, x.f2, 0, x.f4, x.f5⟩) ?_; (case hx => first | rfl | (go_simp; done) | (go_simp; rfl)); (case hy => first | rfl | (go_simp; done) | (go_simp; rfl)); intro wq hi2 hg2 hs2; (try rw [List.set_set] at hi2); have HJ7 := Aside0.mk (HJ6.out.item hg2 hi2); have HX7 := Aside0.mk (rd_set99 items k (⟨x.f0, 5, x.f2, 0, x.f4, x.f5⟩) HKL.out); have HB7 := Aside0.mk (Below.grown HB6.out hg2 (Nat.le_trans HBW.out HB6.out.size) (fun q hq => by injection hq with hq; subst hq; exact HGI.out)); clear hi2 hg2 hs2) | ((with_reducible refine gate_ (.store 24 (.tmp 41) (.tmp 35)) rfl ?_); refine ev_storeR k99 (x' := ⟨x.f0, 5, x.f2, 0, x.f4, z24⟩) (c := pcsI ⟨x.f0, 5, x.f2, 0, x.f4, x.f5⟩) (k := k) (j := 9) (seg := [.string (⟨#[]⟩ : ByteArray), .string (⟨#[]⟩ : ByteArray), .int .i64 0, .int .i64 0]) (u := .agg #[.string (⟨#[]⟩ : ByteArray), .string (⟨#[]⟩ : ByteArray), .int .i64 0, .int .i64 0]) rfl rfl rfl ?hx rfl ?hy rfl t_8e t_88 HJ7.out.hi hk rfl (elemI HJ7.out.hi k hk HX7.out) t_82 (fun w0 => k99_mkM w0 _ _ ⟨x.f0, 5, x.f2, 0, x.f4, z24⟩) ?_; (case hx => first | rfl | (go_simp; done) | (go_simp; rfl)); (case hy => first | rfl | (go_simp; done) | (go_simp; rfl)); intro wq hi2 hg2 hs2; (try rw [List.set_set] at hi2); have HJ8 := Aside0.mk (HJ7.out.item hg2 hi2); have HX8 := Aside0.mk (rd_set99 items k (⟨x.f0, 5, x.f2, 0, x.f4, z24⟩) HKL.out); have HB8 := Aside0.mk (Below.grown HB7.out hg2 (Nat.le_trans HBW.out HB7.out.size) (fun q hq => by injection hq with hq; subst hq; exact HGI.out)); clear hi2 hg2 hs2))
  go_ret
  exact ⟨rfl, _, HJ8.out, HB8.out⟩
set_option maxHeartbeats 4000000 in
set_option maxRecDepth 100000 in
theorem cancel_err (base gs gI n cap k m c2 : Nat) (A : Option Addr) (d e t : Int) (items : List S99) (mm : List S24) (x : S99) (w : World) (hk : k < n) (HBS : Aside0 (base ≤ gs)) (HBW : Aside0 (base ≤ w.heap.size)) (HJ : Aside0 (JAt base gs gI n cap (.slice A m c2) d e t items mm w)) (HIx : Aside0 (x = rd_T99 items k)) (hs : (x.f1 == 2) = true) (er : Int) (her : (er == 0) = false) (ys : List S24) (HD : Aside0 (∀ W : World, Below w.heap.size w W → Calls Try.prog 18 #[.slice A m c2, .agg #[.int .i64 1, .string x.f5.f0, .string x.f5.f1, .int .i64 x.f5.f2, .int .i64 x.f5.f3, .string (⟨#[]⟩ : ByteArray), .string (⟨#[]⟩ : ByteArray), .int .i64 0, .int .i64 0]] W fun e' w' => ∃ v', e' = .returned (.tuple #[v', .int .i64 er]) ∧ Kd.R k24 24 w' W.heap.size (fun _ => True) v' ys ∧ Below W.heap.size W w')) :
    Calls Try.prog 116 #[.pointer (some ⟨gs, 0, none⟩), .pointer (some ⟨gI, k * 13, none⟩)] w fun e' w' => e' = .returned (.int .i64 er) ∧ Below w.heap.size w w' := by
  have FS := Aside0.mk (show ∀ W : World, Below w.heap.size w W → W.cell? ⟨gs, 2, none⟩ = some (.slice A m c2) ∧ W.cell? ⟨gI, k * 13 + 9, none⟩ = some (.string x.f5.f0) ∧ W.cell? ⟨gI, k * 13 + 10, none⟩ = some (.string x.f5.f1) ∧ W.cell? ⟨gI, k * 13 + 11, none⟩ = some (.int .i64 x.f5.f2) ∧ W.cell? ⟨gI, k * 13 + 12, none⟩ = some (.int .i64 x.f5.f3) from fun W hb => ⟨(blk_cell (HJ.out.below hb).hs 2).trans rfl, elemI (HJ.out.below hb).hi k hk HIx.out 9 _ rfl, elemI (HJ.out.below hb).hi k hk HIx.out 10 _ rfl, elemI (HJ.out.below hb).hi k hk HIx.out 11 _ rfl, elemI (HJ.out.below hb).hi k hk HIx.out 12 _ rfl⟩)
  have HB_ := Aside0.mk (below_drew (Below.refl w.heap.size w))
  have z5 : w.cell? ⟨gI, k * 13 + 5, none⟩ = some (.int .i64 x.f1) := elemI HJ.out.hi k hk HIx.out 5 _ rfl
  go_enter Try.func116, Try.ntmps116
  go_wp2
  refine start_ (n := 15) (S := fun w' => w'.cell? ⟨gs, 2, none⟩ = some (.slice A m c2) ∧ w'.cell? ⟨gI, k * 13 + 9, none⟩ = some (.string x.f5.f0) ∧ w'.cell? ⟨gI, k * 13 + 10, none⟩ = some (.string x.f5.f1) ∧ w'.cell? ⟨gI, k * 13 + 11, none⟩ = some (.int .i64 x.f5.f2) ∧ w'.cell? ⟨gI, k * 13 + 12, none⟩ = some (.int .i64 x.f5.f3)) (ds := [9]) q15_0 t_8e rfl rfl ⟨(FS.out _ HB_.out).1, (FS.out _ HB_.out).2.1, (FS.out _ HB_.out).2.2.1, (FS.out _ HB_.out).2.2.2.1, (FS.out _ HB_.out).2.2.2.2⟩ (fun hHeld => ?_)
  refine p_ (i := 0) (N := some 13) q15_1 rfl rfl t_8e ?_
  refine p_ (i := 1) (N := some 14) q15_3 rfl rfl t_8e ?_
  refine p_ (i := 2) (N := some 15) q15_7 rfl rfl t_8e ?_
  refine p_ (i := 4) (N := some 17) q15_17 rfl rfl t_8e ?_
  refine p_ (i := 5) (N := some 18) q15_37 rfl rfl t_8e ?_
  refine p_ (i := 6) (N := some 19) q15_77 rfl rfl t_8e ?_
  refine k_ (i := 3) (N := some 16) q15_7f rfl rfl t_8e (Or.inl ⟨rfl, t_71⟩) hHeld ?_
  refine k_ (i := 7) (N := some 20) q15_ff rfl rfl t_8e (Or.inl ⟨rfl, t_71⟩) hHeld ?_
  refine p_ (i := 8) (N := some 21) q15_1ff rfl rfl t_8e ?_
  refine last_ (i := 9) (N := some 22) q15_3ff rfl rfl t_8e (by decide) (fun K hK => ?_)
  refine goes_ Try.func18 t_8e rfl #[.slice A m c2, .agg #[.int .i64 1, .string x.f5.f0, .string x.f5.f1, .int .i64 x.f5.f2, .int .i64 x.f5.f3, .string (⟨#[]⟩ : ByteArray), .string (⟨#[]⟩ : ByteArray), .int .i64 0, .int .i64 0]] (by rfl) rfl rfl t_6e ?_
  with_reducible refine (HD.out _ HB_.out).mono ?_
  rintro e2 wl ⟨v1, rfl, hR, hb'⟩
  refine ⟨_, rfl, ?_⟩
  obtain ⟨A1, c1, rfl, _, _⟩ := Kd.R_reads hR
  have HR := Aside0.mk (Kd.R_lower hR (Nat.le_trans HBW.out HB_.out.size))
  have HNG := Aside0.mk (show ∀ q, (Value.slice A1 ys.length c1).ownBlock = some q → w.drew.heap.size ≤ q from fun q hq => Kd.R_base hR q hq)
  have HBl := Aside0.mk (below_then HB_.out HB_.out.size hb')
  clear hR hb'
  refine hK.out _ _ ?_
  clear hK K
  refine norm_ t_49 ?_
  refine p_ (i := 10) (N := some 12) q15_7ff rfl rfl t_8e ?_
  refine p_ (i := 11) (N := some 23) q15_fff rfl rfl t_8e ?_
  refine p_ (i := 12) (N := some 24) q15_1fff rfl rfl t_8e ?_
  refine p_ (i := 13) (N := some 5) q15_3fff rfl rfl t_8e ?_
  refine p_ (i := 14) (N := some 6) q15_7fff rfl rfl t_8e ?_
  refine done_ t_8e ?_
  go_wp2
  go_ret
  exact ⟨rfl, HBl.out⟩
set_option maxHeartbeats 4000000 in
set_option maxRecDepth 100000 in
theorem cancel_ok (base gs gI n cap k m c2 : Nat) (A : Option Addr) (d e t : Int) (items : List S99) (mm : List S24) (x : S99) (w : World) (hk : k < n) (HBS : Aside0 (base ≤ gs)) (HBW : Aside0 (base ≤ w.heap.size)) (HJ : Aside0 (JAt base gs gI n cap (.slice A m c2) d e t items mm w)) (HIx : Aside0 (x = rd_T99 items k)) (hs : (x.f1 == 2) = true) (ys : List S24) (HD : Aside0 (∀ W : World, Below w.heap.size w W → Calls Try.prog 18 #[.slice A m c2, .agg #[.int .i64 1, .string x.f5.f0, .string x.f5.f1, .int .i64 x.f5.f2, .int .i64 x.f5.f3, .string (⟨#[]⟩ : ByteArray), .string (⟨#[]⟩ : ByteArray), .int .i64 0, .int .i64 0]] W fun e' w' => ∃ v', e' = .returned (.tuple #[v', .int .i64 0]) ∧ Kd.R k24 24 w' W.heap.size (fun _ => True) v' ys ∧ Below W.heap.size W w')) :
    Calls Try.prog 116 #[.pointer (some ⟨gs, 0, none⟩), .pointer (some ⟨gI, k * 13, none⟩)] w fun e' w' => e' = .returned (.int .i64 0) ∧ ∃ v', JAt base gs gI n cap v' d e t (items.set k ⟨x.f0, 5, x.f2, 0, x.f4, z24⟩) ys w' ∧ Below base w w' := by
  have HKL := Aside0.mk (show k < items.length by have := (Kd.R_reads' HJ.out.hi).1; omega)
  have HGI := Aside0.mk (show base ≤ gI from Kd.R_base HJ.out.hi gI rfl)
  have FS := Aside0.mk (show ∀ W : World, Below w.heap.size w W → W.cell? ⟨gs, 2, none⟩ = some (.slice A m c2) ∧ W.cell? ⟨gI, k * 13 + 9, none⟩ = some (.string x.f5.f0) ∧ W.cell? ⟨gI, k * 13 + 10, none⟩ = some (.string x.f5.f1) ∧ W.cell? ⟨gI, k * 13 + 11, none⟩ = some (.int .i64 x.f5.f2) ∧ W.cell? ⟨gI, k * 13 + 12, none⟩ = some (.int .i64 x.f5.f3) from fun W hb => ⟨(blk_cell (HJ.out.below hb).hs 2).trans rfl, elemI (HJ.out.below hb).hi k hk HIx.out 9 _ rfl, elemI (HJ.out.below hb).hi k hk HIx.out 10 _ rfl, elemI (HJ.out.below hb).hi k hk HIx.out 11 _ rfl, elemI (HJ.out.below hb).hi k hk HIx.out 12 _ rfl⟩)
  have HB_ := Aside0.mk (below_drew (Below.refl w.heap.size w))
  have z5 : w.cell? ⟨gI, k * 13 + 5, none⟩ = some (.int .i64 x.f1) := elemI HJ.out.hi k hk HIx.out 5 _ rfl
  go_enter Try.func116, Try.ntmps116
  go_wp2
  refine start_ (n := 15) (S := fun w' => w'.cell? ⟨gs, 2, none⟩ = some (.slice A m c2) ∧ w'.cell? ⟨gI, k * 13 + 9, none⟩ = some (.string x.f5.f0) ∧ w'.cell? ⟨gI, k * 13 + 10, none⟩ = some (.string x.f5.f1) ∧ w'.cell? ⟨gI, k * 13 + 11, none⟩ = some (.int .i64 x.f5.f2) ∧ w'.cell? ⟨gI, k * 13 + 12, none⟩ = some (.int .i64 x.f5.f3)) (ds := [9]) q15_0 t_8e rfl rfl ⟨(FS.out _ HB_.out).1, (FS.out _ HB_.out).2.1, (FS.out _ HB_.out).2.2.1, (FS.out _ HB_.out).2.2.2.1, (FS.out _ HB_.out).2.2.2.2⟩ (fun hHeld => ?_)
  refine p_ (i := 0) (N := some 13) q15_1 rfl rfl t_8e ?_
  refine p_ (i := 1) (N := some 14) q15_3 rfl rfl t_8e ?_
  refine p_ (i := 2) (N := some 15) q15_7 rfl rfl t_8e ?_
  refine p_ (i := 4) (N := some 17) q15_17 rfl rfl t_8e ?_
  refine p_ (i := 5) (N := some 18) q15_37 rfl rfl t_8e ?_
  refine p_ (i := 6) (N := some 19) q15_77 rfl rfl t_8e ?_
  refine k_ (i := 3) (N := some 16) q15_7f rfl rfl t_8e (Or.inl ⟨rfl, t_71⟩) hHeld ?_
  refine k_ (i := 7) (N := some 20) q15_ff rfl rfl t_8e (Or.inl ⟨rfl, t_71⟩) hHeld ?_
  refine p_ (i := 8) (N := some 21) q15_1ff rfl rfl t_8e ?_
  refine last_ (i := 9) (N := some 22) q15_3ff rfl rfl t_8e (by decide) (fun K hK => ?_)
  refine goes_ Try.func18 t_8e rfl #[.slice A m c2, .agg #[.int .i64 1, .string x.f5.f0, .string x.f5.f1, .int .i64 x.f5.f2, .int .i64 x.f5.f3, .string (⟨#[]⟩ : ByteArray), .string (⟨#[]⟩ : ByteArray), .int .i64 0, .int .i64 0]] (by rfl) rfl rfl t_6e ?_
  with_reducible refine (HD.out _ HB_.out).mono ?_
  rintro e2 wl ⟨v1, rfl, hR, hb'⟩
  refine ⟨_, rfl, ?_⟩
  obtain ⟨A1, c1, rfl, _, _⟩ := Kd.R_reads hR
  have HR := Aside0.mk (Kd.R_lower hR (Nat.le_trans HBW.out HB_.out.size))
  have HNG := Aside0.mk (show ∀ q, (Value.slice A1 ys.length c1).ownBlock = some q → w.drew.heap.size ≤ q from fun q hq => Kd.R_base hR q hq)
  have HBl := Aside0.mk (below_then HB_.out HB_.out.size hb')
  clear hR hb'
  refine hK.out _ _ ?_
  clear hK K
  refine norm_ t_49 ?_
  refine p_ (i := 10) (N := some 12) q15_7ff rfl rfl t_8e ?_
  refine p_ (i := 11) (N := some 23) q15_fff rfl rfl t_8e ?_
  refine p_ (i := 12) (N := some 24) q15_1fff rfl rfl t_8e ?_
  refine p_ (i := 13) (N := some 5) q15_3fff rfl rfl t_8e ?_
  refine p_ (i := 14) (N := some 6) q15_7fff rfl rfl t_8e ?_
  refine done_ t_8e ?_
  have HJl := Aside0.mk (HJ.out.below HBl.out)
  go_wp2_with (first | ((with_reducible refine gate_ (.store 22 (.tmp 31) (.tmp 29)) rfl ?_); refine ev_storeAt (g := gs) (t := 77) (off := 2) (old := #[.int .i64 d, .slice (some ⟨gI, 0, none⟩) n cap, .slice A m c2, .int .i64 e, .int .i64 t]) (new := #[.int .i64 d, .slice (some ⟨gI, 0, none⟩) n cap, .slice A1 ys.length c1, .int .i64 e, .int .i64 t]) (u := .slice A1 ys.length c1) (seg := [.slice A1 ys.length c1]) rfl rfl rfl ?hx ?hy rfl t_8e t_88 HJl.out.hs (by simp) rfl ?_; (case hx => first | rfl | (go_simp; done) | (go_simp; rfl)); (case hy => first | rfl | (go_simp; done) | (go_simp; rfl)); intro w5 hb2 hg2 hs2; have HJ5 := Aside0.mk (HJl.out.shop hg2 hb2 HR.out (fun e => by have h1 : w.heap.size ≤ gs := HNG.out gs e; have h2 := blk_lt HJ.out.hs; omega)); have HX5 := HIx; have HB5 := Aside0.mk (Below.grown (Below.mono HBl.out HBW.out) hg2 (Nat.le_trans HBW.out HBl.out.size) (fun q hq => by injection hq with hq; subst hq; exact HBS.out)); clear hb2 hg2 hs2) | ((with_reducible refine gate_ (.store 3 (.tmp 37) (.const (.int .i64 5))) rfl ?_); refine ev_storeR k99 (x' := ⟨x.f0, 5, x.f2, x.f3, x.f4, x.f5⟩) (c := pcsI x) (k := k) (j := 5) (seg := [.int .i64 5]) (u := .int .i64 5) rfl rfl rfl ?hx rfl ?hy rfl t_8e t_88 HJ5.out.hi hk rfl (elemI HJ5.out.hi k hk HX5.out) t_82 (fun w0 => k99_mkM w0 _ _ ⟨x.f0, 5, x.f2, x.f3, x.f4, x.f5⟩) ?_; (case hx => first | rfl | (go_simp; done) | (go_simp; rfl)); (case hy => first | rfl | (go_simp; done) | (go_simp; rfl)); intro wq hi2 hg2 hs2; (try rw [List.set_set] at hi2); have HJ6 := Aside0.mk (HJ5.out.item hg2 hi2); have HX6 := Aside0.mk (rd_set99 items k (⟨x.f0, 5, x.f2, x.f3, x.f4, x.f5⟩) HKL.out); have HB6 := Aside0.mk (Below.grown HB5.out hg2 (Nat.le_trans HBW.out HB5.out.size) (fun q hq => by injection hq with hq; subst hq; exact HGI.out)); clear hi2 hg2 hs2) | ((with_reducible refine gate_ (.store 3 (.tmp 39) (.const (.int .i64 0))) rfl ?_); refine ev_storeR k99 (x' := ⟨x.f0, 5, x.f2, 0, x.f4, x.f5⟩) (c := pcsI ⟨x.f0, 5, x.f2, x.f3, x.f4, x.f5⟩) (k := k) (j := 7) (seg := [.int .i64 0]) (u := .int .i64 0) rfl rfl rfl ?hx rfl ?hy rfl t_8e t_88 HJ6.out.hi hk rfl (elemI HJ6.out.hi k hk HX6.out) t_82 (fun w0 => k99_mkM w0 _ _ ⟨x.f0, 5, x.f2, 0, x.f4, x.f5⟩) ?_; (case hx => first | rfl | (go_simp; done) | (go_simp; rfl)); (case hy => first | rfl | (go_simp; done) | (go_simp; rfl)); intro wq hi2 hg2 hs2; (try rw [List.set_set] at hi2); have HJ7 := Aside0.mk (HJ6.out.item hg2 hi2); have HX7 := Aside0.mk (rd_set99 items k (⟨x.f0, 5, x.f2, 0, x.f4, x.f5⟩) HKL.out); have HB7 := Aside0.mk (Below.grown HB6.out hg2 (Nat.le_trans HBW.out HB6.out.size) (fun q hq => by injection hq with hq; subst hq; exact HGI.out)); clear hi2 hg2 hs2) | ((with_reducible refine gate_ (.store 24 (.tmp 41) (.tmp 35)) rfl ?_); refine ev_storeR k99 (x' := ⟨x.f0, 5, x.f2, 0, x.f4, z24⟩) (c := pcsI ⟨x.f0, 5, x.f2, 0, x.f4, x.f5⟩) (k := k) (j := 9) (seg := [.string (⟨#[]⟩ : ByteArray), .string (⟨#[]⟩ : ByteArray), .int .i64 0, .int .i64 0]) (u := .agg #[.string (⟨#[]⟩ : ByteArray), .string (⟨#[]⟩ : ByteArray), .int .i64 0, .int .i64 0]) rfl rfl rfl ?hx rfl ?hy rfl t_8e t_88 HJ7.out.hi hk rfl (elemI HJ7.out.hi k hk HX7.out) t_82 (fun w0 => k99_mkM w0 _ _ ⟨x.f0, 5, x.f2, 0, x.f4, z24⟩) ?_; (case hx => first | rfl | (go_simp; done) | (go_simp; rfl)); (case hy => first | rfl | (go_simp; done) | (go_simp; rfl)); intro wq hi2 hg2 hs2; (try rw [List.set_set] at hi2); have HJ8 := Aside0.mk (HJ7.out.item hg2 hi2); have HX8 := Aside0.mk (rd_set99 items k (⟨x.f0, 5, x.f2, 0, x.f4, z24⟩) HKL.out); have HB8 := Aside0.mk (Below.grown HB7.out hg2 (Nat.le_trans HBW.out HB7.out.size) (fun q hq => by injection hq with hq; subst hq; exact HGI.out)); clear hi2 hg2 hs2))
  go_ret
  exact ⟨rfl, _, HJ8.out, HB8.out⟩
end Go.Proofs.Ytndbchcfjajgbaa.XP
