/- job.Do, walked. -/
import Derived.Test.YtndbchcfjajgbaaXB
import Derived.Test.YtndbchcfjajgbaaHandJobAc
namespace Go.Proofs.Ytndbchcfjajgbaa.XP
open Go.Proofs.Ytndbchcfjajgbaa.XB Go.Proofs.Ytndbchcfjajgbaa.XQ
open Go Go.Sort Go.RowKit Go.Proofs Go.Proofs.YtndbchcfjajgbaaW.PrintWords Go.Proofs.YtndbchcfjajgbaaW.PrintLast Go.Proofs.Ytndbchcfjajgbaa.XH Go.Proofs.Ytndbchcfjajgbaa.XE Go.Proofs.Ytndbchcfjajgbaa.XW
set_option linter.unusedVariables false
set_option linter.unusedSimpArgs false
theorem cells5D {w : World} {g : Nat} {c0 c1 c2 c3 c4 : Value} (h : w.heap[g]? = some (.cells #[c0, c1, c2, c3, c4] 77 (0, 0))) :
    w.cell? ⟨g, 0, none⟩ = some c0 ∧ w.cell? ⟨g, 1, none⟩ = some c1 ∧ w.cell? ⟨g, 2, none⟩ = some c2 ∧ w.cell? ⟨g, 3, none⟩ = some c3 ∧ w.cell? ⟨g, 4, none⟩ = some c4 :=
  ⟨(blk_cell h 0).trans rfl, (blk_cell h 1).trans rfl, (blk_cell h 2).trans rfl, (blk_cell h 3).trans rfl, (blk_cell h 4).trans rfl⟩
theorem cells9D {w : World} {g : Nat} {c0 c1 c2 c3 c4 c5 c6 c7 c8 : Value} (h : w.heap[g]? = some (.cells #[c0, c1, c2, c3, c4, c5, c6, c7, c8] 83 (0, 0))) :
    w.cell? ⟨g, 0, none⟩ = some c0 ∧ w.cell? ⟨g, 1, none⟩ = some c1 ∧ w.cell? ⟨g, 2, none⟩ = some c2 ∧ w.cell? ⟨g, 3, none⟩ = some c3 ∧ w.cell? ⟨g, 4, none⟩ = some c4 ∧ w.cell? ⟨g, 5, none⟩ = some c5 ∧ w.cell? ⟨g, 6, none⟩ = some c6 ∧ w.cell? ⟨g, 7, none⟩ = some c7 ∧ w.cell? ⟨g, 8, none⟩ = some c8 :=
  ⟨(blk_cell h 0).trans rfl, (blk_cell h 1).trans rfl, (blk_cell h 2).trans rfl, (blk_cell h 3).trans rfl, (blk_cell h 4).trans rfl, (blk_cell h 5).trans rfl, (blk_cell h 6).trans rfl, (blk_cell h 7).trans rfl, (blk_cell h 8).trans rfl⟩
set_option maxHeartbeats 4000000 in
set_option maxRecDepth 100000 in
theorem jdo_right (n c1 m c2 : Nat) (A1 A : Option Addr) (d e t : Int) (w : World) (ek ed : Int) (j0 j1 j2 : ByteArray) (j3 j4 : Int) (id : ByteArray) (wt : Int) (HR : Aside0 (∀ W : World, Below w.heap.size w W → Calls Try.prog 43 #[.agg #[.int .i64 d, .slice A1 n c1, .slice A m c2, .int .i64 e, .int .i64 t]] W fun e' w' => e' = .returned (.bool false) ∧ Below W.heap.size W w')) :
    Calls Try.prog 37 #[.agg #[.int .i64 d, .slice A1 n c1, .slice A m c2, .int .i64 e, .int .i64 t], .agg #[.int .i64 ek, .int .i64 ed, .string j0, .string j1, .string j2, .int .i64 j3, .int .i64 j4, .string id, .int .i64 wt]] w fun e' w' => ∃ v1_ v2_ : Value, e' = .returned (.tuple #[.agg #[.int .i64 0, v1_, v2_, .int .i64 0, .int .i64 0], .int .i64 1]) ∧ Kd.R k99 99 w' w.heap.size (fun _ => True) v1_ [] ∧ Kd.R k24 24 w' w.heap.size (fun _ => True) v2_ [] ∧ Below w.heap.size w w' := by
  go_enter Try.func37, Try.ntmps37
  go_wp2_with (first | ((with_reducible refine gate_dst (N := 2) rfl ?_); refine bx_ (N := 2) (cs := #[.int .i64 d, .slice A1 n c1, .slice A m c2, .int .i64 e, .int .i64 t]) (t := 77) ?_; intro gb hgb w1 hbox hb'; have BW := Aside0.mk hb'; have BS := Aside0.mk hbox; clear hgb hbox hb') | ((with_reducible refine gate_dst (N := 3) rfl ?_); refine bx_ (N := 3) (cs := #[.int .i64 ek, .int .i64 ed, .string j0, .string j1, .string j2, .int .i64 j3, .int .i64 j4, .string id, .int .i64 wt]) (t := 83) ?_; intro ge hge w2 hbox hb'; (replace BW := Aside0.mk (below_then BW.out BW.out.size hb'); (try replace BS := kb hb' BS); (try replace BE := kb hb' BE); (try replace BR := kb hb' BR)); have BE := Aside0.mk hbox; clear hge hbox hb') | ((with_reducible refine gate_dst (N := 4) rfl ?_); refine bx_ (N := 4) (cs := #[.int .i64 0, .slice none 0 0, .slice none 0 0, .int .i64 0, .int .i64 0]) (t := 77) ?_; intro gr hgr w3 hbox hb'; have GR := Aside0.mk (t_85 : w.heap.size ≤ gr); (replace BW := Aside0.mk (below_then BW.out BW.out.size hb'); (try replace BS := kb hb' BS); (try replace BE := kb hb' BE); (try replace BR := kb hb' BR)); have BR := Aside0.mk hbox; clear hgr hbox hb'; obtain ⟨s0, s1, s2, s3, s4⟩ := cells5D BS.out; obtain ⟨z0, z1, z2, z3, z4, z5, z6, z7, z8⟩ := cells9D BE.out) | (go_at_call 43; (with_reducible refine (HR.out _ BW.out).mono ?_); rintro e' wR ⟨rfl, hb'⟩; clear s0 s1 s2 s3 s4 z0 z1 z2 z3 z4 z5 z6 z7 z8; (replace BW := Aside0.mk (below_then BW.out BW.out.size hb'); (try replace BS := kb hb' BS); (try replace BE := kb hb' BE); (try replace BR := kb hb' BR)); clear hb'; obtain ⟨s0, s1, s2, s3, s4⟩ := cells5D BS.out; obtain ⟨z0, z1, z2, z3, z4, z5, z6, z7, z8⟩ := cells9D BE.out) | ((with_reducible refine gate_store (T := 77) rfl ?_); refine ev_store (g := gr) (t := 77) (old := #[.int .i64 0, .slice none 0 0, .slice none 0 0, .int .i64 0, .int .i64 0]) (cells := #[.int .i64 0, .slice none 0 0, .slice none 0 0, .int .i64 0, .int .i64 0]) rfl rfl ?hx ?hy BR.out rfl t_8e t_88 ?_; (case hx => first | rfl | (go_simp; done) | (go_simp; rfl)); (case hy => first | rfl | (go_simp; done) | (go_simp; rfl)); intro wF hb2 hg2 hs2; have HG2 := Aside0.mk hg2; have BWF := Aside0.mk (Below.grown BW.out hg2 BW.out.size (fun q hq => by injection hq with hq; subst hq; exact GR.out)); replace BR := Aside0.mk hb2; clear hb2 hg2 hs2))
  (refine bodyPost_ret (results_ct rfl _ _ gr 77 #[.int .i64 0, .slice none 0 0, .slice none 0 0, .int .i64 0, .int .i64 0] (0, 0) _ rfl BR.out Try.underlying77 rfl t_8e) rfl ?_)
  exact ⟨_, _, rfl, Kd.R_nil _ _ _ _ _, Kd.R_nil _ _ _ _ _, BWF.out⟩
set_option maxHeartbeats 4000000 in
set_option maxRecDepth 100000 in
theorem jdo_shaped (n c1 m c2 : Nat) (A1 A : Option Addr) (d e t : Int) (w : World) (ek ed : Int) (j0 j1 j2 : ByteArray) (j3 j4 : Int) (id : ByteArray) (wt : Int) (HR : Aside0 (∀ W : World, Below w.heap.size w W → Calls Try.prog 43 #[.agg #[.int .i64 d, .slice A1 n c1, .slice A m c2, .int .i64 e, .int .i64 t]] W fun e' w' => e' = .returned (.bool true) ∧ Below W.heap.size W w')) (HS : Aside0 (∀ W : World, Calls Try.prog 84 #[.agg #[.int .i64 ek, .int .i64 ed, .string j0, .string j1, .string j2, .int .i64 j3, .int .i64 j4, .string id, .int .i64 wt]] W fun e' w' => e' = .returned (.bool false) ∧ Below W.heap.size W w')) :
    Calls Try.prog 37 #[.agg #[.int .i64 d, .slice A1 n c1, .slice A m c2, .int .i64 e, .int .i64 t], .agg #[.int .i64 ek, .int .i64 ed, .string j0, .string j1, .string j2, .int .i64 j3, .int .i64 j4, .string id, .int .i64 wt]] w fun e' w' => ∃ v1_ v2_ : Value, e' = .returned (.tuple #[.agg #[.int .i64 0, v1_, v2_, .int .i64 0, .int .i64 0], .int .i64 1]) ∧ Kd.R k99 99 w' w.heap.size (fun _ => True) v1_ [] ∧ Kd.R k24 24 w' w.heap.size (fun _ => True) v2_ [] ∧ Below w.heap.size w w' := by
  go_enter Try.func37, Try.ntmps37
  go_wp2_with (first | ((with_reducible refine gate_dst (N := 2) rfl ?_); refine bx_ (N := 2) (cs := #[.int .i64 d, .slice A1 n c1, .slice A m c2, .int .i64 e, .int .i64 t]) (t := 77) ?_; intro gb hgb w1 hbox hb'; have BW := Aside0.mk hb'; have BS := Aside0.mk hbox; clear hgb hbox hb') | ((with_reducible refine gate_dst (N := 3) rfl ?_); refine bx_ (N := 3) (cs := #[.int .i64 ek, .int .i64 ed, .string j0, .string j1, .string j2, .int .i64 j3, .int .i64 j4, .string id, .int .i64 wt]) (t := 83) ?_; intro ge hge w2 hbox hb'; (replace BW := Aside0.mk (below_then BW.out BW.out.size hb'); (try replace BS := kb hb' BS); (try replace BE := kb hb' BE); (try replace BR := kb hb' BR)); have BE := Aside0.mk hbox; clear hge hbox hb') | ((with_reducible refine gate_dst (N := 4) rfl ?_); refine bx_ (N := 4) (cs := #[.int .i64 0, .slice none 0 0, .slice none 0 0, .int .i64 0, .int .i64 0]) (t := 77) ?_; intro gr hgr w3 hbox hb'; have GR := Aside0.mk (t_85 : w.heap.size ≤ gr); (replace BW := Aside0.mk (below_then BW.out BW.out.size hb'); (try replace BS := kb hb' BS); (try replace BE := kb hb' BE); (try replace BR := kb hb' BR)); have BR := Aside0.mk hbox; clear hgr hbox hb'; obtain ⟨s0, s1, s2, s3, s4⟩ := cells5D BS.out; obtain ⟨z0, z1, z2, z3, z4, z5, z6, z7, z8⟩ := cells9D BE.out) | (go_at_call 43; (with_reducible refine (HR.out _ BW.out).mono ?_); rintro e' wR ⟨rfl, hb'⟩; clear s0 s1 s2 s3 s4 z0 z1 z2 z3 z4 z5 z6 z7 z8; (replace BW := Aside0.mk (below_then BW.out BW.out.size hb'); (try replace BS := kb hb' BS); (try replace BE := kb hb' BE); (try replace BR := kb hb' BR)); clear hb'; obtain ⟨s0, s1, s2, s3, s4⟩ := cells5D BS.out; obtain ⟨z0, z1, z2, z3, z4, z5, z6, z7, z8⟩ := cells9D BE.out) | (go_at_call 84; (with_reducible refine (HS.out _).mono ?_); rintro e' wS ⟨rfl, hb'⟩; clear s0 s1 s2 s3 s4 z0 z1 z2 z3 z4 z5 z6 z7 z8; (replace BW := Aside0.mk (below_then BW.out BW.out.size hb'); (try replace BS := kb hb' BS); (try replace BE := kb hb' BE); (try replace BR := kb hb' BR)); clear hb'; obtain ⟨s0, s1, s2, s3, s4⟩ := cells5D BS.out; obtain ⟨z0, z1, z2, z3, z4, z5, z6, z7, z8⟩ := cells9D BE.out) | ((with_reducible refine gate_store (T := 77) rfl ?_); refine ev_store (g := gr) (t := 77) (old := #[.int .i64 0, .slice none 0 0, .slice none 0 0, .int .i64 0, .int .i64 0]) (cells := #[.int .i64 0, .slice none 0 0, .slice none 0 0, .int .i64 0, .int .i64 0]) rfl rfl ?hx ?hy BR.out rfl t_8e t_88 ?_; (case hx => first | rfl | (go_simp; done) | (go_simp; rfl)); (case hy => first | rfl | (go_simp; done) | (go_simp; rfl)); intro wF hb2 hg2 hs2; have HG2 := Aside0.mk hg2; have BWF := Aside0.mk (Below.grown BW.out hg2 BW.out.size (fun q hq => by injection hq with hq; subst hq; exact GR.out)); replace BR := Aside0.mk hb2; clear hb2 hg2 hs2))
  (refine bodyPost_ret (results_ct rfl _ _ gr 77 #[.int .i64 0, .slice none 0 0, .slice none 0 0, .int .i64 0, .int .i64 0] (0, 0) _ rfl BR.out Try.underlying77 rfl t_8e) rfl ?_)
  exact ⟨_, _, rfl, Kd.R_nil _ _ _ _ _, Kd.R_nil _ _ _ _ _, BWF.out⟩
set_option maxHeartbeats 4000000 in
set_option maxRecDepth 100000 in
theorem jdo_order (n c1 m c2 : Nat) (A1 A : Option Addr) (d e t : Int) (w : World) (ek ed : Int) (j0 j1 j2 : ByteArray) (j3 j4 : Int) (id : ByteArray) (wt : Int) (HR : Aside0 (∀ W : World, Below w.heap.size w W → Calls Try.prog 43 #[.agg #[.int .i64 d, .slice A1 n c1, .slice A m c2, .int .i64 e, .int .i64 t]] W fun e' w' => e' = .returned (.bool true) ∧ Below W.heap.size W w')) (HS : Aside0 (∀ W : World, Calls Try.prog 84 #[.agg #[.int .i64 ek, .int .i64 ed, .string j0, .string j1, .string j2, .int .i64 j3, .int .i64 j4, .string id, .int .i64 wt]] W fun e' w' => e' = .returned (.bool true) ∧ Below W.heap.size W w')) (h : ed < d) :
    Calls Try.prog 37 #[.agg #[.int .i64 d, .slice A1 n c1, .slice A m c2, .int .i64 e, .int .i64 t], .agg #[.int .i64 ek, .int .i64 ed, .string j0, .string j1, .string j2, .int .i64 j3, .int .i64 j4, .string id, .int .i64 wt]] w fun e' w' => ∃ v1_ v2_ : Value, e' = .returned (.tuple #[.agg #[.int .i64 0, v1_, v2_, .int .i64 0, .int .i64 0], .int .i64 8]) ∧ Kd.R k99 99 w' w.heap.size (fun _ => True) v1_ [] ∧ Kd.R k24 24 w' w.heap.size (fun _ => True) v2_ [] ∧ Below w.heap.size w w' := by
  have e1 : decide (ed < d) = true := decide_eq_true h
  clear h
  go_enter Try.func37, Try.ntmps37
  go_wp2_with (first | ((with_reducible refine gate_dst (N := 2) rfl ?_); refine bx_ (N := 2) (cs := #[.int .i64 d, .slice A1 n c1, .slice A m c2, .int .i64 e, .int .i64 t]) (t := 77) ?_; intro gb hgb w1 hbox hb'; have BW := Aside0.mk hb'; have BS := Aside0.mk hbox; clear hgb hbox hb') | ((with_reducible refine gate_dst (N := 3) rfl ?_); refine bx_ (N := 3) (cs := #[.int .i64 ek, .int .i64 ed, .string j0, .string j1, .string j2, .int .i64 j3, .int .i64 j4, .string id, .int .i64 wt]) (t := 83) ?_; intro ge hge w2 hbox hb'; (replace BW := Aside0.mk (below_then BW.out BW.out.size hb'); (try replace BS := kb hb' BS); (try replace BE := kb hb' BE); (try replace BR := kb hb' BR)); have BE := Aside0.mk hbox; clear hge hbox hb') | ((with_reducible refine gate_dst (N := 4) rfl ?_); refine bx_ (N := 4) (cs := #[.int .i64 0, .slice none 0 0, .slice none 0 0, .int .i64 0, .int .i64 0]) (t := 77) ?_; intro gr hgr w3 hbox hb'; have GR := Aside0.mk (t_85 : w.heap.size ≤ gr); (replace BW := Aside0.mk (below_then BW.out BW.out.size hb'); (try replace BS := kb hb' BS); (try replace BE := kb hb' BE); (try replace BR := kb hb' BR)); have BR := Aside0.mk hbox; clear hgr hbox hb'; obtain ⟨s0, s1, s2, s3, s4⟩ := cells5D BS.out; obtain ⟨z0, z1, z2, z3, z4, z5, z6, z7, z8⟩ := cells9D BE.out) | (go_at_call 43; (with_reducible refine (HR.out _ BW.out).mono ?_); rintro e' wR ⟨rfl, hb'⟩; clear s0 s1 s2 s3 s4 z0 z1 z2 z3 z4 z5 z6 z7 z8; (replace BW := Aside0.mk (below_then BW.out BW.out.size hb'); (try replace BS := kb hb' BS); (try replace BE := kb hb' BE); (try replace BR := kb hb' BR)); clear hb'; obtain ⟨s0, s1, s2, s3, s4⟩ := cells5D BS.out; obtain ⟨z0, z1, z2, z3, z4, z5, z6, z7, z8⟩ := cells9D BE.out) | (go_at_call 84; (with_reducible refine (HS.out _).mono ?_); rintro e' wS ⟨rfl, hb'⟩; clear s0 s1 s2 s3 s4 z0 z1 z2 z3 z4 z5 z6 z7 z8; (replace BW := Aside0.mk (below_then BW.out BW.out.size hb'); (try replace BS := kb hb' BS); (try replace BE := kb hb' BE); (try replace BR := kb hb' BR)); clear hb'; obtain ⟨s0, s1, s2, s3, s4⟩ := cells5D BS.out; obtain ⟨z0, z1, z2, z3, z4, z5, z6, z7, z8⟩ := cells9D BE.out) | ((with_reducible refine gate_store (T := 77) rfl ?_); refine ev_store (g := gr) (t := 77) (old := #[.int .i64 0, .slice none 0 0, .slice none 0 0, .int .i64 0, .int .i64 0]) (cells := #[.int .i64 0, .slice none 0 0, .slice none 0 0, .int .i64 0, .int .i64 0]) rfl rfl ?hx ?hy BR.out rfl t_8e t_88 ?_; (case hx => first | rfl | (go_simp; done) | (go_simp; rfl)); (case hy => first | rfl | (go_simp; done) | (go_simp; rfl)); intro wF hb2 hg2 hs2; have HG2 := Aside0.mk hg2; have BWF := Aside0.mk (Below.grown BW.out hg2 BW.out.size (fun q hq => by injection hq with hq; subst hq; exact GR.out)); replace BR := Aside0.mk hb2; clear hb2 hg2 hs2))
  (refine bodyPost_ret (results_ct rfl _ _ gr 77 #[.int .i64 0, .slice none 0 0, .slice none 0 0, .int .i64 0, .int .i64 0] (0, 0) _ rfl BR.out Try.underlying77 rfl t_8e) rfl ?_)
  exact ⟨_, _, rfl, Kd.R_nil _ _ _ _ _, Kd.R_nil _ _ _ _ _, BWF.out⟩
set_option maxHeartbeats 4000000 in
set_option maxRecDepth 100000 in
theorem jdo_all (n c1 m c2 : Nat) (A1 A : Option Addr) (d e t : Int) (w : World) (ek ed : Int) (j0 j1 j2 : ByteArray) (j3 j4 : Int) (id : ByteArray) (wt : Int) (HR : Aside0 (∀ W : World, Below w.heap.size w W → Calls Try.prog 43 #[.agg #[.int .i64 d, .slice A1 n c1, .slice A m c2, .int .i64 e, .int .i64 t]] W fun e' w' => e' = .returned (.bool true) ∧ Below W.heap.size W w')) (HS : Aside0 (∀ W : World, Calls Try.prog 84 #[.agg #[.int .i64 ek, .int .i64 ed, .string j0, .string j1, .string j2, .int .i64 j3, .int .i64 j4, .string id, .int .i64 wt]] W fun e' w' => e' = .returned (.bool true) ∧ Below W.heap.size W w')) (hd : ¬ ed < d) (items : List S99) (mm : List S24) (HCI : Aside0 (∀ W : World, Below w.heap.size w W → Calls Try.prog 85 #[.slice A1 n c1] W fun e' w' => ∃ v', e' = .returned v' ∧ Kd.R k99 99 w' W.heap.size (fun _ => True) v' items ∧ Below W.heap.size W w')) (HCP : Aside0 (∀ W : World, Below w.heap.size w W → Calls Try.prog 61 #[.slice A m c2] W fun e' w' => ∃ v', e' = .returned v' ∧ Kd.R k24 24 w' W.heap.size (fun _ => True) v' mm ∧ Below W.heap.size W w')) (kf : Nat) (bf : Bool) (HF : Aside0 (∀ (B : Nat) (v : Value) (W : World), Kd.R k99 99 W B (fun _ => True) v items → Calls Try.prog 87 #[v, .string id] W fun e' w' => e' = .returned (.tuple #[.int .i64 (kf : Nat), .bool bf]) ∧ Below W.heap.size W w')) (hlt : bf = true → kf < items.length) (era erc : Int) (e2 t2 : Int) (items2 : List S99) (mm2 : List S24) (e3 t3 : Int) (items3 : List S99) (mm3 : List S24) (x : S99) (HX : Aside0 (x = rd_T99 items3 kf))
    (HA : Aside0 (∀ (B gp : Nat) (v1 v2 : Value) (W : World), B ≤ gp → B ≤ W.heap.size → JAv B gp v1 v2 ed e t items mm W → Calls Try.prog 86 #[.pointer (some ⟨gp, 0, none⟩), .agg #[.int .i64 ek, .int .i64 ed, .string j0, .string j1, .string j2, .int .i64 j3, .int .i64 j4, .string id, .int .i64 wt]] W fun e' w' => e' = .returned (.int .i64 era) ∧ ((era == 0) = false → Below W.heap.size W w') ∧ ((era == 0) = true → ∃ v1' v2', JAv B gp v1' v2' ed e2 t2 items2 mm2 w' ∧ Below B W w')))
    (HCh : Aside0 (∀ (B gp gI nI cap : Nat) (v2 : Value) (W : World), B ≤ gp → B ≤ W.heap.size → kf < nI → JAt B gp gI nI cap v2 ed e t items mm W → (ek == 1) = false → Calls Try.prog 88 #[.pointer (some ⟨gp, 0, none⟩), .agg #[.int .i64 ek, .int .i64 ed, .string j0, .string j1, .string j2, .int .i64 j3, .int .i64 j4, .string id, .int .i64 wt], .pointer (some ⟨gI, kf * 13, none⟩)] W fun e' w' => e' = .returned (.int .i64 erc) ∧ ((erc == 0) = false → Below W.heap.size W w') ∧ ((erc == 0) = true → ∃ v2', JAt B gp gI nI cap v2' ed e3 t3 items3 mm3 w' ∧ Below B W w')))
    (Q : Ending → World → Prop) (K1 : Aside0 ((ek == 1) = true → (era == 0) = false → ∀ e' w', (fun e' w' => ∃ v1_ v2_ : Value, e' = .returned (.tuple #[.agg #[.int .i64 0, v1_, v2_, .int .i64 0, .int .i64 0], .int .i64 era]) ∧ Kd.R k99 99 w' w.heap.size (fun _ => True) v1_ [] ∧ Kd.R k24 24 w' w.heap.size (fun _ => True) v2_ [] ∧ Below w.heap.size w w') e' w' → Q e' w')) (K2 : Aside0 ((ek == 1) = true → (era == 0) = true → ∀ e' w', (fun e' w' => ∃ v1_ v2_ : Value, e' = .returned (.tuple #[.agg #[.int .i64 ed, v1_, v2_, .int .i64 e2, .int .i64 t2], .int .i64 0]) ∧ Kd.R k99 99 w' w.heap.size (fun _ => True) v1_ items2 ∧ Kd.R k24 24 w' w.heap.size (fun _ => True) v2_ mm2 ∧ Below w.heap.size w w') e' w' → Q e' w')) (K3 : Aside0 ((ek == 1) = false → bf = false → ∀ e' w', (fun e' w' => ∃ v1_ v2_ : Value, e' = .returned (.tuple #[.agg #[.int .i64 0, v1_, v2_, .int .i64 0, .int .i64 0], .int .i64 7]) ∧ Kd.R k99 99 w' w.heap.size (fun _ => True) v1_ [] ∧ Kd.R k24 24 w' w.heap.size (fun _ => True) v2_ [] ∧ Below w.heap.size w w') e' w' → Q e' w')) (K4 : Aside0 ((ek == 1) = false → bf = true → (erc == 0) = false → ∀ e' w', (fun e' w' => ∃ v1_ v2_ : Value, e' = .returned (.tuple #[.agg #[.int .i64 0, v1_, v2_, .int .i64 0, .int .i64 0], .int .i64 erc]) ∧ Kd.R k99 99 w' w.heap.size (fun _ => True) v1_ [] ∧ Kd.R k24 24 w' w.heap.size (fun _ => True) v2_ [] ∧ Below w.heap.size w w') e' w' → Q e' w')) (K5 : Aside0 ((ek == 1) = false → bf = true → (erc == 0) = true → ∀ e' w', (fun e' w' => ∃ v1_ v2_ : Value, e' = .returned (.tuple #[.agg #[.int .i64 ed, v1_, v2_, .int .i64 e3, .int .i64 t3], .int .i64 0]) ∧ Kd.R k99 99 w' w.heap.size (fun _ => True) v1_ (items3.set kf ⟨x.f0, x.f1, ed, x.f3, x.f4, x.f5⟩) ∧ Kd.R k24 24 w' w.heap.size (fun _ => True) v2_ mm3 ∧ Below w.heap.size w w') e' w' → Q e' w')) :
    Calls Try.prog 37 #[.agg #[.int .i64 d, .slice A1 n c1, .slice A m c2, .int .i64 e, .int .i64 t], .agg #[.int .i64 ek, .int .i64 ed, .string j0, .string j1, .string j2, .int .i64 j3, .int .i64 j4, .string id, .int .i64 wt]] w Q := by
  have HLT0 := Aside0.mk hlt
  clear hlt
  (have e1 : decide (ed < d) = false := decide_eq_false hd; clear hd; go_enter Try.func37, Try.ntmps37; (go_wp2_with (first | ((with_reducible refine gate_dst (N := 2) rfl ?_); refine bx_ (N := 2) (cs := #[.int .i64 d, .slice A1 n c1, .slice A m c2, .int .i64 e, .int .i64 t]) (t := 77) ?_; intro gb hgb w1 hbox hb'; have BW := Aside0.mk hb'; have BS := Aside0.mk hbox; clear hgb hbox hb') | ((with_reducible refine gate_dst (N := 3) rfl ?_); refine bx_ (N := 3) (cs := #[.int .i64 ek, .int .i64 ed, .string j0, .string j1, .string j2, .int .i64 j3, .int .i64 j4, .string id, .int .i64 wt]) (t := 83) ?_; intro ge hge w2 hbox hb'; (replace BW := Aside0.mk (below_then BW.out BW.out.size hb'); (try replace BS := kb hb' BS); (try replace BE := kb hb' BE); (try replace BR := kb hb' BR)); have BE := Aside0.mk hbox; clear hge hbox hb') | ((with_reducible refine gate_dst (N := 4) rfl ?_); refine bx_ (N := 4) (cs := #[.int .i64 0, .slice none 0 0, .slice none 0 0, .int .i64 0, .int .i64 0]) (t := 77) ?_; intro gr hgr w3 hbox hb'; have GR := Aside0.mk (t_85 : w.heap.size ≤ gr); (replace BW := Aside0.mk (below_then BW.out BW.out.size hb'); (try replace BS := kb hb' BS); (try replace BE := kb hb' BE); (try replace BR := kb hb' BR)); have BR := Aside0.mk hbox; clear hgr hbox hb'; obtain ⟨s0, s1, s2, s3, s4⟩ := cells5D BS.out; obtain ⟨z0, z1, z2, z3, z4, z5, z6, z7, z8⟩ := cells9D BE.out) | (go_at_call 43; (with_reducible refine (HR.out _ BW.out).mono ?_); rintro e' wR ⟨rfl, hb'⟩; clear s0 s1 s2 s3 s4 z0 z1 z2 z3 z4 z5 z6 z7 z8; (replace BW := Aside0.mk (below_then BW.out BW.out.size hb'); (try replace BS := kb hb' BS); (try replace BE := kb hb' BE); (try replace BR := kb hb' BR)); clear hb'; obtain ⟨s0, s1, s2, s3, s4⟩ := cells5D BS.out; obtain ⟨z0, z1, z2, z3, z4, z5, z6, z7, z8⟩ := cells9D BE.out) | (go_at_call 84; (with_reducible refine (HS.out _).mono ?_); rintro e' wS ⟨rfl, hb'⟩; clear s0 s1 s2 s3 s4 z0 z1 z2 z3 z4 z5 z6 z7 z8; (replace BW := Aside0.mk (below_then BW.out BW.out.size hb'); (try replace BS := kb hb' BS); (try replace BE := kb hb' BE); (try replace BR := kb hb' BR)); clear hb'; obtain ⟨s0, s1, s2, s3, s4⟩ := cells5D BS.out; obtain ⟨z0, z1, z2, z3, z4, z5, z6, z7, z8⟩ := cells9D BE.out))); have FS := Aside0.mk (show ∀ W : World, Below wS.heap.size wS W → W.cell? ⟨ge, 1, none⟩ = some (.int .i64 ed) ∧ W.cell? ⟨gb, 1, none⟩ = some (.slice A1 n c1) ∧ W.cell? ⟨gb, 2, none⟩ = some (.slice A m c2) ∧ W.cell? ⟨gb, 3, none⟩ = some (.int .i64 e) ∧ W.cell? ⟨gb, 4, none⟩ = some (.int .i64 t) from fun W hb => ⟨(blk_cell ((hb.block _ (blk_lt BE.out)).trans BE.out) 1).trans rfl, (blk_cell ((hb.block _ (blk_lt BS.out)).trans BS.out) 1).trans rfl, (blk_cell ((hb.block _ (blk_lt BS.out)).trans BS.out) 2).trans rfl, (blk_cell ((hb.block _ (blk_lt BS.out)).trans BS.out) 3).trans rfl, (blk_cell ((hb.block _ (blk_lt BS.out)).trans BS.out) 4).trans rfl⟩); clear s0 s1 s2 s3 s4 z0 z1 z2 z3 z4 z5 z6 z7 z8; have HB_ := Aside0.mk (below_drew (Below.refl wS.heap.size wS)))
  refine start_ (n := 15) (S := fun w' => w'.cell? ⟨ge, 1, none⟩ = some (.int .i64 ed) ∧ w'.cell? ⟨gb, 1, none⟩ = some (.slice A1 n c1) ∧ w'.cell? ⟨gb, 2, none⟩ = some (.slice A m c2) ∧ w'.cell? ⟨gb, 3, none⟩ = some (.int .i64 e) ∧ w'.cell? ⟨gb, 4, none⟩ = some (.int .i64 t)) (ds := [14]) q15_0 t_8e rfl rfl ⟨(FS.out _ HB_.out).1, (FS.out _ HB_.out).2.1, (FS.out _ HB_.out).2.2.1, (FS.out _ HB_.out).2.2.2.1, (FS.out _ HB_.out).2.2.2.2⟩ (fun hHeld => ?_)
  refine p_ (i := 0) (N := some 29) q15_1 rfl rfl t_8e ?_
  refine p_ (i := 2) (N := some 31) q15_5 rfl rfl t_8e ?_
  refine p_ (i := 5) (N := some 34) q15_25 rfl rfl t_8e ?_
  refine p_ (i := 8) (N := some 37) q15_125 rfl rfl t_8e ?_
  refine p_ (i := 10) (N := some 39) q15_525 rfl rfl t_8e ?_
  refine k_ (i := 1) (N := some 30) q15_527 rfl rfl t_8e (Or.inl ⟨rfl, t_71⟩) hHeld ?_
  refine k_ (i := 3) (N := some 32) q15_52f rfl rfl t_8e (Or.inl ⟨rfl, t_71⟩) hHeld ?_
  refine k_ (i := 6) (N := some 35) q15_56f rfl rfl t_8e (Or.inl ⟨rfl, t_71⟩) hHeld ?_
  refine k_ (i := 9) (N := some 38) q15_76f rfl rfl t_8e (Or.inl ⟨rfl, t_71⟩) hHeld ?_
  refine k_ (i := 11) (N := some 40) q15_f6f rfl rfl t_8e (Or.inl ⟨rfl, t_71⟩) hHeld ?_
  refine join_ (σ := Value × Value × Nat) 1 q15_3fff (fun s_ => [(33, s_.1), (36, s_.2.1), (41, .agg #[.int .i64 ed, s_.1, s_.2.1, .int .i64 e, .int .i64 t]), (6, .pointer (some ⟨s_.2.2, 0, none⟩))]) (fun s_ w' => (w'.cell? ⟨ge, 1, none⟩ = some (.int .i64 ed) ∧ w'.cell? ⟨gb, 1, none⟩ = some (.slice A1 n c1) ∧ w'.cell? ⟨gb, 2, none⟩ = some (.slice A m c2) ∧ w'.cell? ⟨gb, 3, none⟩ = some (.int .i64 e) ∧ w'.cell? ⟨gb, 4, none⟩ = some (.int .i64 t)) ∧ Kd.R k99 99 w' wS.heap.size (fun _ => True) s_.1 items ∧ Kd.R k24 24 w' wS.heap.size (fun _ => True) s_.2.1 mm ∧ w'.heap[s_.2.2]? = some (.cells #[.int .i64 0, .slice none 0 0, .slice none 0 0, .int .i64 0, .int .i64 0] 77 (0, 0)) ∧ wS.heap.size ≤ s_.2.2 ∧ Below wS.heap.size wS w') ?_ ?_
  rotate_left
  · intro hCont
    refine two_ (i := 4) (j := 13) (Ni := some 33) (Nj := some 6) q15_f7f q15_2f6f rfl rfl rfl rfl t_8e (by decide) (by decide) (fun K hK => ?_) (fun K hK => ?_)
    · skip
      refine goes_ Try.func85 t_8e rfl #[.slice A1 n c1] (by rfl) rfl rfl t_6e ?_
      with_reducible refine (HCI.out _ (below_then BW.out BW.out.size HB_.out)).mono ?_
      rintro e1 wq_4 ⟨v33, rfl, hR, hb'⟩
      refine ⟨_, rfl, ?_⟩
      obtain ⟨A33, c33, rfl, _, _⟩ := Kd.R_reads hR
      have HB_4 := Aside0.mk (below_then HB_.out HB_.out.size hb')
      have HI_4 := Aside0.mk (Kd.R_lower hR HB_.out.size)
      clear hR hb'
      refine hK.out _ _ ⟨(FS.out _ HB_4.out).1, (FS.out _ HB_4.out).2.1, (FS.out _ HB_4.out).2.2.1, (FS.out _ HB_4.out).2.2.2.1, (FS.out _ HB_4.out).2.2.2.2⟩ (fun hHeld => ?_)
      clear hK K
      refine norm_ t_48 ?_
      refine two_ (i := 7) (j := 13) (Ni := some 36) (Nj := some 6) q15_fff q15_2f7f rfl rfl rfl rfl t_8e (by decide) (by decide) (fun K hK => ?_) (fun K hK => ?_)
      · skip
        refine goes_ Try.func61 t_8e rfl #[.slice A m c2] (by rfl) rfl rfl t_6e ?_
        with_reducible refine (HCP.out _ (below_then BW.out BW.out.size HB_4.out)).mono ?_
        rintro e2 wq_47 ⟨v36, rfl, hR, hb'⟩
        refine ⟨_, rfl, ?_⟩
        obtain ⟨A36, c36, rfl, _, _⟩ := Kd.R_reads hR
        have HB_47 := Aside0.mk (below_then HB_4.out HB_4.out.size hb')
        have HI_47 := Aside0.mk (Kd.R_below HI_4.out hb')
        have HP_47 := Aside0.mk (Kd.R_lower hR HB_4.out.size)
        clear hR hb'
        refine hK.out _ _ ⟨(FS.out _ HB_47.out).1, (FS.out _ HB_47.out).2.1, (FS.out _ HB_47.out).2.2.1, (FS.out _ HB_47.out).2.2.2.1, (FS.out _ HB_47.out).2.2.2.2⟩ (fun hHeld => ?_)
        clear hK K
        refine norm_ t_4d ?_
        refine p_ (i := 12) (N := some 41) q15_1fff rfl rfl t_8e ?_
        refine one_ (i := 13) (N := some 6) q15_3fff rfl rfl t_8e (by decide) (fun K hK => ?_)
        refine box_step (by rfl) (N := 6) rfl (cs := #[.int .i64 0, .slice none 0 0, .slice none 0 0, .int .i64 0, .int .i64 0]) (t := 77) ?hr ?_
        (case hr => first | (go_simp; done) | (go_simp; rfl))
        intro gp hgp wq_4713 hbox hb'
        have HB_4713 := Aside0.mk (below_then HB_47.out HB_47.out.size hb')
        have HI_4713 := Aside0.mk (Kd.R_below HI_47.out hb')
        have HP_4713 := Aside0.mk (Kd.R_below HP_47.out hb')
        have BP_4713 := Aside0.mk hbox
        have GP := Aside0.mk (show wS.heap.size ≤ gp by rw [hgp]; exact HB_47.out.size)
        clear hgp hbox hb'
        refine hK.out _ _ ⟨(FS.out _ HB_4713.out).1, (FS.out _ HB_4713.out).2.1, (FS.out _ HB_4713.out).2.2.1, (FS.out _ HB_4713.out).2.2.2.1, (FS.out _ HB_4713.out).2.2.2.2⟩ (fun hHeld => ?_)
        clear hK K
        refine norm_ t_59 ?_
        exact norm_ t_67 (hCont (Value.slice A33 items.length c33, Value.slice A36 mm.length c36, gp) _ ⟨hHeld, HI_4713.out, HP_4713.out, BP_4713.out, GP.out, HB_4713.out⟩)
      · skip
        refine box_step (by rfl) (N := 6) rfl (cs := #[.int .i64 0, .slice none 0 0, .slice none 0 0, .int .i64 0, .int .i64 0]) (t := 77) ?hr ?_
        (case hr => first | (go_simp; done) | (go_simp; rfl))
        intro gp hgp wq_413 hbox hb'
        have HB_413 := Aside0.mk (below_then HB_4.out HB_4.out.size hb')
        have HI_413 := Aside0.mk (Kd.R_below HI_4.out hb')
        have BP_413 := Aside0.mk hbox
        have GP := Aside0.mk (show wS.heap.size ≤ gp by rw [hgp]; exact HB_4.out.size)
        clear hgp hbox hb'
        refine hK.out _ _ ⟨(FS.out _ HB_413.out).1, (FS.out _ HB_413.out).2.1, (FS.out _ HB_413.out).2.2.1, (FS.out _ HB_413.out).2.2.2.1, (FS.out _ HB_413.out).2.2.2.2⟩ (fun hHeld => ?_)
        clear hK K
        refine norm_ t_59 ?_
        refine one_ (i := 7) (N := some 36) q15_2fff rfl rfl t_8e (by decide) (fun K hK => ?_)
        refine goes_ Try.func61 t_8e rfl #[.slice A m c2] (by rfl) rfl rfl t_6e ?_
        with_reducible refine (HCP.out _ (below_then BW.out BW.out.size HB_413.out)).mono ?_
        rintro e2 wq_4137 ⟨v36, rfl, hR, hb'⟩
        refine ⟨_, rfl, ?_⟩
        obtain ⟨A36, c36, rfl, _, _⟩ := Kd.R_reads hR
        have HB_4137 := Aside0.mk (below_then HB_413.out HB_413.out.size hb')
        have HI_4137 := Aside0.mk (Kd.R_below HI_413.out hb')
        have BP_4137 := kb hb' BP_413
        have HP_4137 := Aside0.mk (Kd.R_lower hR HB_413.out.size)
        clear hR hb'
        refine hK.out _ _ ⟨(FS.out _ HB_4137.out).1, (FS.out _ HB_4137.out).2.1, (FS.out _ HB_4137.out).2.2.1, (FS.out _ HB_4137.out).2.2.2.1, (FS.out _ HB_4137.out).2.2.2.2⟩ (fun hHeld => ?_)
        clear hK K
        refine norm_ t_4d ?_
        refine p_ (i := 12) (N := some 41) q15_3fff rfl rfl t_8e ?_
        exact norm_ t_67 (hCont (Value.slice A33 items.length c33, Value.slice A36 mm.length c36, gp) _ ⟨hHeld, HI_4137.out, HP_4137.out, BP_4137.out, GP.out, HB_4137.out⟩)
    · skip
      refine box_step (by rfl) (N := 6) rfl (cs := #[.int .i64 0, .slice none 0 0, .slice none 0 0, .int .i64 0, .int .i64 0]) (t := 77) ?hr ?_
      (case hr => first | (go_simp; done) | (go_simp; rfl))
      intro gp hgp wq_13 hbox hb'
      have HB_13 := Aside0.mk (below_then HB_.out HB_.out.size hb')
      have BP_13 := Aside0.mk hbox
      have GP := Aside0.mk (show wS.heap.size ≤ gp by rw [hgp]; exact HB_.out.size)
      clear hgp hbox hb'
      refine hK.out _ _ ⟨(FS.out _ HB_13.out).1, (FS.out _ HB_13.out).2.1, (FS.out _ HB_13.out).2.2.1, (FS.out _ HB_13.out).2.2.2.1, (FS.out _ HB_13.out).2.2.2.2⟩ (fun hHeld => ?_)
      clear hK K
      refine norm_ t_59 ?_
      refine one_ (i := 4) (N := some 33) q15_2f7f rfl rfl t_8e (by decide) (fun K hK => ?_)
      refine goes_ Try.func85 t_8e rfl #[.slice A1 n c1] (by rfl) rfl rfl t_6e ?_
      with_reducible refine (HCI.out _ (below_then BW.out BW.out.size HB_13.out)).mono ?_
      rintro e1 wq_134 ⟨v33, rfl, hR, hb'⟩
      refine ⟨_, rfl, ?_⟩
      obtain ⟨A33, c33, rfl, _, _⟩ := Kd.R_reads hR
      have HB_134 := Aside0.mk (below_then HB_13.out HB_13.out.size hb')
      have BP_134 := kb hb' BP_13
      have HI_134 := Aside0.mk (Kd.R_lower hR HB_13.out.size)
      clear hR hb'
      refine hK.out _ _ ⟨(FS.out _ HB_134.out).1, (FS.out _ HB_134.out).2.1, (FS.out _ HB_134.out).2.2.1, (FS.out _ HB_134.out).2.2.2.1, (FS.out _ HB_134.out).2.2.2.2⟩ (fun hHeld => ?_)
      clear hK K
      refine norm_ t_48 ?_
      refine one_ (i := 7) (N := some 36) q15_2fff rfl rfl t_8e (by decide) (fun K hK => ?_)
      refine goes_ Try.func61 t_8e rfl #[.slice A m c2] (by rfl) rfl rfl t_6e ?_
      with_reducible refine (HCP.out _ (below_then BW.out BW.out.size HB_134.out)).mono ?_
      rintro e2 wq_1347 ⟨v36, rfl, hR, hb'⟩
      refine ⟨_, rfl, ?_⟩
      obtain ⟨A36, c36, rfl, _, _⟩ := Kd.R_reads hR
      have HB_1347 := Aside0.mk (below_then HB_134.out HB_134.out.size hb')
      have HI_1347 := Aside0.mk (Kd.R_below HI_134.out hb')
      have BP_1347 := kb hb' BP_134
      have HP_1347 := Aside0.mk (Kd.R_lower hR HB_134.out.size)
      clear hR hb'
      refine hK.out _ _ ⟨(FS.out _ HB_1347.out).1, (FS.out _ HB_1347.out).2.1, (FS.out _ HB_1347.out).2.2.1, (FS.out _ HB_1347.out).2.2.2.1, (FS.out _ HB_1347.out).2.2.2.2⟩ (fun hHeld => ?_)
      clear hK K
      refine norm_ t_4d ?_
      refine p_ (i := 12) (N := some 41) q15_3fff rfl rfl t_8e ?_
      exact norm_ t_67 (hCont (Value.slice A33 items.length c33, Value.slice A36 mm.length c36, gp) _ ⟨hHeld, HI_1347.out, HP_1347.out, BP_1347.out, GP.out, HB_1347.out⟩)
  rintro ⟨v33, v36, gp⟩ wj ⟨hS_, h33, h36, hp_, hg_, hb_⟩
  obtain ⟨A33, c33, rfl, _, _⟩ := Kd.R_reads h33
  obtain ⟨A36, c36, rfl, _, _⟩ := Kd.R_reads h36
  have HIj := Aside0.mk h33
  have HPj := Aside0.mk h36
  have BPj := Aside0.mk hp_
  have GPj := Aside0.mk hg_
  have HBj := Aside0.mk hb_
  have hHeld : wj.cell? ⟨ge, 1, none⟩ = some (.int .i64 ed) ∧ wj.cell? ⟨gb, 1, none⟩ = some (.slice A1 n c1) ∧ wj.cell? ⟨gb, 2, none⟩ = some (.slice A m c2) ∧ wj.cell? ⟨gb, 3, none⟩ = some (.int .i64 e) ∧ wj.cell? ⟨gb, 4, none⟩ = some (.int .i64 t) := hS_
  clear hS_ hp_ hg_ hb_ h33 h36
  refine norm_ (a' := ?_) ?_ ?_
  rotate_left
  · simp only [putAll, Act.put, List.setIfInBounds_toArray, List.set_cons_zero, List.set_cons_succ]
    rfl
  refine last_ (i := 14) (N := none) q15_7fff rfl rfl t_8e (by decide) (fun K hK => ?_)
  refine step_storeAt (g := gp) (t := 77) (off := 0) (old := #[.int .i64 0, .slice none 0 0, .slice none 0 0, .int .i64 0, .int .i64 0]) (new := #[.int .i64 ed, Value.slice A33 items.length c33, Value.slice A36 mm.length c36, .int .i64 e, .int .i64 t]) (u := .agg #[.int .i64 ed, Value.slice A33 items.length c33, Value.slice A36 mm.length c36, .int .i64 e, .int .i64 t]) (seg := [.int .i64 ed, Value.slice A33 items.length c33, Value.slice A36 mm.length c36, .int .i64 e, .int .i64 t]) (by rfl) rfl rfl (by rfl) (by rfl) rfl t_8e t_88 BPj.out (by simp) rfl ?_
  intro wk hb2 hg2 hs2
  have HJk := Aside0.mk (JAv.mk hb2 (Kd.R_grown1 HIj.out rfl hg2 (fun e => by obtain ⟨cc, h1⟩ := Kd.R_typed HIj.out gp e.symm; exact blk_ne BPj.out h1 (by decide) rfl)) (Kd.R_grown1 HPj.out rfl hg2 (fun e => by obtain ⟨cc, h1⟩ := Kd.R_typed HPj.out gp e.symm; exact blk_ne BPj.out h1 (by decide) rfl)))
  have HBk := Aside0.mk (Below.grown HBj.out hg2 HBj.out.size (fun q hq => by injection hq with hq; subst hq; exact GPj.out))
  clear hb2 hg2 hs2
  refine hK.out _ _ ?_
  clear hK K
  refine done_ t_8e ?_
  (have HGE := Aside0.mk (show ge < wS.heap.size from blk_lt BE.out); have HGR := Aside0.mk (show gr < wS.heap.size from blk_lt BR.out); replace BE := Aside0.mk ((HBk.out.block _ HGE.out).trans BE.out); replace BR := Aside0.mk ((HBk.out.block _ HGR.out).trans BR.out); obtain ⟨z0, z1, z2, z3, z4, z5, z6, z7, z8⟩ := cells9D BE.out; have BW5 := BW; replace BW := Aside0.mk (below_then BW.out BW.out.size HBk.out))
  cases hk : (ek == 1) with
  | true =>
    cases her : (era == 0) with
    | false =>
      go_wp2_with (first | ((go_at_call 86; (with_reducible refine (HA.out wS.heap.size gp _ _ _ GPj.out HBk.out.size HJk.out).mono ?_); rintro e' wA ⟨rfl, hp⟩; have HPO := Aside0.mk hp; clear hp); have HPB := Aside0.mk (HPO.out.1 her); replace BR := Aside0.mk ((HPB.out.block _ (blk_lt BR.out)).trans BR.out); replace BW := Aside0.mk (below_then BW.out BW.out.size HPB.out)) | ((with_reducible refine gate_store (T := 77) rfl ?_); refine ev_store (g := gr) (t := 77) (old := #[.int .i64 0, .slice none 0 0, .slice none 0 0, .int .i64 0, .int .i64 0]) (cells := #[.int .i64 0, .slice none 0 0, .slice none 0 0, .int .i64 0, .int .i64 0]) rfl rfl ?hx ?hy BR.out rfl t_8e t_88 ?_; (case hx => first | rfl | (go_simp; done) | (go_simp; rfl)); (case hy => first | rfl | (go_simp; done) | (go_simp; rfl)); intro wF hb2 hg2 hs2; have HG2 := Aside0.mk hg2; have BWF := Aside0.mk (Below.grown BW.out hg2 BW.out.size (fun q hq => by injection hq with hq; subst hq; exact GR.out)); replace BR := Aside0.mk hb2; clear hb2 hg2 hs2))
      (refine bodyPost_ret (results_ct rfl _ _ gr 77 #[.int .i64 0, .slice none 0 0, .slice none 0 0, .int .i64 0, .int .i64 0] (0, 0) _ rfl BR.out Try.underlying77 rfl t_8e) rfl ?_)
      exact K1.out hk her _ _ ⟨_, _, rfl, Kd.R_nil _ _ _ _ _, Kd.R_nil _ _ _ _ _, BWF.out⟩
    | true =>
      obtain rfl : era = 0 := by simpa using her
      clear her
      go_wp2_with (first | ((go_at_call 86; (with_reducible refine (HA.out wS.heap.size gp _ _ _ GPj.out HBk.out.size HJk.out).mono ?_); rintro e' wA ⟨rfl, hp⟩; have HPO := Aside0.mk hp; clear hp); obtain ⟨v1', v2', hJ, hB⟩ := HPO.out.2 rfl; obtain ⟨Aa, ca, rfl, _, _⟩ := Kd.R_reads hJ.hi; obtain ⟨Ab, cb, rfl, _, _⟩ := Kd.R_reads hJ.hp; have HJF := Aside0.mk hJ; obtain ⟨p0, p1, p2, p3, p4⟩ := cells5D hJ.hs; replace BR := Aside0.mk ((hB.block _ HGR.out).trans BR.out); replace BW := Aside0.mk (BW.out.trans (hB.mono BW5.out.size)); clear HPO hJ hB) | ((with_reducible refine gate_store (T := 77) rfl ?_); refine ev_store (g := gr) (t := 77) (old := #[.int .i64 0, .slice none 0 0, .slice none 0 0, .int .i64 0, .int .i64 0]) (cells := #[.int .i64 ed, .slice Aa items2.length ca, .slice Ab mm2.length cb, .int .i64 e2, .int .i64 t2]) rfl rfl ?hx ?hy BR.out rfl t_8e t_88 ?_; (case hx => first | rfl | (go_simp; done) | (go_simp; rfl)); (case hy => first | rfl | (go_simp; done) | (go_simp; rfl)); intro wF hb2 hg2 hs2; have HG2 := Aside0.mk hg2; have BWF := Aside0.mk (Below.grown BW.out hg2 BW.out.size (fun q hq => by injection hq with hq; subst hq; exact GR.out)); replace BR := Aside0.mk hb2; clear hb2 hg2 hs2))
      (refine bodyPost_ret (results_ct rfl _ _ gr 77 #[.int .i64 ed, .slice Aa items2.length ca, .slice Ab mm2.length cb, .int .i64 e2, .int .i64 t2] (0, 0) _ rfl BR.out Try.underlying77 rfl t_8e) rfl ?_)
      exact K2.out hk rfl _ _ (⟨_, _, rfl, Kd.R_lower (Kd.R_grown1 HJF.out.hi rfl HG2.out (fun e => by have h1 := Kd.R_base HJF.out.hi gr e.symm; have h2 := HGR.out; omega)) BW5.out.size, Kd.R_lower (Kd.R_grown1 HJF.out.hp rfl HG2.out (fun e => by have h1 := Kd.R_base HJF.out.hp gr e.symm; have h2 := HGR.out; omega)) BW5.out.size, BWF.out⟩)
  | false =>
    obtain ⟨p0, p1, p2, p3, p4⟩ := cells5D HJk.out.hs
    cases bf with
    | false =>
      go_wp2_with (first | (go_at_call 87; (with_reducible refine (HF.out _ _ _ HJk.out.hi).mono ?_); rintro e' wA ⟨rfl, hb'⟩; replace HJk := Aside0.mk (HJk.out.below hb'); replace BR := kb hb' BR; replace BE := kb hb' BE; replace HBk := Aside0.mk (below_then HBk.out HBk.out.size hb'); replace BW := Aside0.mk (below_then BW.out BW.out.size hb'); clear p0 p1 p2 p3 p4 z0 z1 z2 z3 z4 z5 z6 z7 z8; obtain ⟨p0, p1, p2, p3, p4⟩ := cells5D HJk.out.hs; obtain ⟨z0, z1, z2, z3, z4, z5, z6, z7, z8⟩ := cells9D BE.out; clear hb') | ((with_reducible refine gate_store (T := 77) rfl ?_); refine ev_store (g := gr) (t := 77) (old := #[.int .i64 0, .slice none 0 0, .slice none 0 0, .int .i64 0, .int .i64 0]) (cells := #[.int .i64 0, .slice none 0 0, .slice none 0 0, .int .i64 0, .int .i64 0]) rfl rfl ?hx ?hy BR.out rfl t_8e t_88 ?_; (case hx => first | rfl | (go_simp; done) | (go_simp; rfl)); (case hy => first | rfl | (go_simp; done) | (go_simp; rfl)); intro wF hb2 hg2 hs2; have HG2 := Aside0.mk hg2; have BWF := Aside0.mk (Below.grown BW.out hg2 BW.out.size (fun q hq => by injection hq with hq; subst hq; exact GR.out)); replace BR := Aside0.mk hb2; clear hb2 hg2 hs2))
      (refine bodyPost_ret (results_ct rfl _ _ gr 77 #[.int .i64 0, .slice none 0 0, .slice none 0 0, .int .i64 0, .int .i64 0] (0, 0) _ rfl BR.out Try.underlying77 rfl t_8e) rfl ?_)
      exact K3.out hk (by simp) _ _ ⟨_, _, rfl, Kd.R_nil _ _ _ _ _, Kd.R_nil _ _ _ _ _, BWF.out⟩
    | true =>
      have hlt := HLT0.out rfl
      clear p0 p1 p2 p3 p4
      (have hlt' : kf < items.length := hlt; have hx := R99_open HJk.out.hi; rcases hx with ⟨_, h0⟩ | ⟨gI, cap, cur, hv, _⟩; (subst h0; exact absurd hlt (by simp)); injection hv with hv1 _ hv2; subst hv1; subst hv2; replace HJk := Aside0.mk HJk.out.at_; obtain ⟨p0, p1, p2, p3, p4⟩ := cells5D HJk.out.hs; have hq : (kf < items.length) = True := eq_true hlt'; have HLT := Aside0.mk hlt'; clear hlt hlt')
      have HGI := Aside0.mk (show wS.heap.size ≤ gI from Kd.R_base HJk.out.hi gI rfl)
      cases her : (erc == 0) with
      | false =>
        go_wp2_with (first | (go_at_call 87; (with_reducible refine (HF.out _ _ _ HJk.out.hi).mono ?_); rintro e' wA ⟨rfl, hb'⟩; replace HJk := Aside0.mk (HJk.out.below hb'); replace BR := kb hb' BR; replace BE := kb hb' BE; replace HBk := Aside0.mk (below_then HBk.out HBk.out.size hb'); replace BW := Aside0.mk (below_then BW.out BW.out.size hb'); clear p0 p1 p2 p3 p4 z0 z1 z2 z3 z4 z5 z6 z7 z8; obtain ⟨p0, p1, p2, p3, p4⟩ := cells5D HJk.out.hs; obtain ⟨z0, z1, z2, z3, z4, z5, z6, z7, z8⟩ := cells9D BE.out; clear hb') | ((go_at_call 88; (with_reducible refine (HCh.out wS.heap.size gp gI _ _ _ _ GPj.out HBk.out.size HLT.out HJk.out hk).mono ?_); rintro e' wB ⟨rfl, hp⟩; have HPO := Aside0.mk hp; clear hp); have HPB := Aside0.mk (HPO.out.1 her); replace BR := Aside0.mk ((HPB.out.block _ (blk_lt BR.out)).trans BR.out); replace BW := Aside0.mk (below_then BW.out BW.out.size HPB.out)) | ((with_reducible refine gate_store (T := 77) rfl ?_); refine ev_store (g := gr) (t := 77) (old := #[.int .i64 0, .slice none 0 0, .slice none 0 0, .int .i64 0, .int .i64 0]) (cells := #[.int .i64 0, .slice none 0 0, .slice none 0 0, .int .i64 0, .int .i64 0]) rfl rfl ?hx ?hy BR.out rfl t_8e t_88 ?_; (case hx => first | rfl | (go_simp; done) | (go_simp; rfl)); (case hy => first | rfl | (go_simp; done) | (go_simp; rfl)); intro wF hb2 hg2 hs2; have HG2 := Aside0.mk hg2; have BWF := Aside0.mk (Below.grown BW.out hg2 BW.out.size (fun q hq => by injection hq with hq; subst hq; exact GR.out)); replace BR := Aside0.mk hb2; clear hb2 hg2 hs2))
        (refine bodyPost_ret (results_ct rfl _ _ gr 77 #[.int .i64 0, .slice none 0 0, .slice none 0 0, .int .i64 0, .int .i64 0] (0, 0) _ rfl BR.out Try.underlying77 rfl t_8e) rfl ?_)
        exact K4.out hk (by simp) her _ _ ⟨_, _, rfl, Kd.R_nil _ _ _ _ _, Kd.R_nil _ _ _ _ _, BWF.out⟩
      | true =>
        obtain rfl : erc = 0 := by simpa using her
        clear her
        go_wp2_with (first | (go_at_call 87; (with_reducible refine (HF.out _ _ _ HJk.out.hi).mono ?_); rintro e' wA ⟨rfl, hb'⟩; replace HJk := Aside0.mk (HJk.out.below hb'); replace BR := kb hb' BR; replace BE := kb hb' BE; replace HBk := Aside0.mk (below_then HBk.out HBk.out.size hb'); replace BW := Aside0.mk (below_then BW.out BW.out.size hb'); clear p0 p1 p2 p3 p4 z0 z1 z2 z3 z4 z5 z6 z7 z8; obtain ⟨p0, p1, p2, p3, p4⟩ := cells5D HJk.out.hs; obtain ⟨z0, z1, z2, z3, z4, z5, z6, z7, z8⟩ := cells9D BE.out; clear hb') | ((go_at_call 88; (with_reducible refine (HCh.out wS.heap.size gp gI _ _ _ _ GPj.out HBk.out.size HLT.out HJk.out hk).mono ?_); rintro e' wB ⟨rfl, hp⟩; have HPO := Aside0.mk hp; clear hp); obtain ⟨v2', hJ, hB⟩ := HPO.out.2 rfl; obtain ⟨Ab, cb, rfl, _, _⟩ := Kd.R_reads hJ.hp; have HJF := Aside0.mk hJ; clear p0 p1 p2 p3 p4 z0 z1 z2 z3 z4 z5 z6 z7 z8; obtain ⟨p0, p1, p2, p3, p4⟩ := cells5D hJ.hs; replace BR := Aside0.mk ((hB.block _ HGR.out).trans BR.out); replace BE := Aside0.mk ((hB.block _ HGE.out).trans BE.out); replace BW := Aside0.mk (BW.out.trans (hB.mono BW5.out.size)); obtain ⟨z0, z1, z2, z3, z4, z5, z6, z7, z8⟩ := cells9D BE.out; clear HPO hJ hB) | ((with_reducible refine gate_ (.store 3 (.tmp 78) (.tmp 76)) rfl ?_); refine ev_storeR k99 (x' := ⟨x.f0, x.f1, ed, x.f3, x.f4, x.f5⟩) (c := pcsI x) (k := kf) (j := 6) (seg := [.int .i64 ed]) (u := .int .i64 ed) rfl rfl rfl ?hx rfl ?hy rfl t_8e t_88 HJF.out.hi HLT.out rfl (elemI HJF.out.hi kf HLT.out HX.out) t_82 (fun w0 => k99_mkM w0 _ _ ⟨x.f0, x.f1, ed, x.f3, x.f4, x.f5⟩) ?_; (case hx => first | rfl | (go_simp; done) | (go_simp; rfl)); (case hy => first | rfl | (go_simp; done) | (go_simp; rfl)); intro wq hi2 hg2 hs2; replace HJF := Aside0.mk (HJF.out.item hg2 hi2); replace BR := Aside0.mk (blk_grown BR.out hg2 (fun e => by have h1 : gr = gI := by { injection e }; have h2 := HGI.out; have h3 := HGR.out; omega)); replace BW := Aside0.mk (Below.grown BW.out hg2 BW.out.size (fun q hq => by injection hq with hq; subst hq; exact Nat.le_trans BW5.out.size HGI.out)); clear p0 p1 p2 p3 p4; obtain ⟨p0, p1, p2, p3, p4⟩ := cells5D HJF.out.hs; clear hi2 hg2 hs2) | ((with_reducible refine gate_store (T := 77) rfl ?_); refine ev_store (g := gr) (t := 77) (old := #[.int .i64 0, .slice none 0 0, .slice none 0 0, .int .i64 0, .int .i64 0]) (cells := #[.int .i64 ed, .slice (some ⟨gI, 0, none⟩) items.length c33, .slice Ab mm3.length cb, .int .i64 e3, .int .i64 t3]) rfl rfl ?hx ?hy BR.out rfl t_8e t_88 ?_; (case hx => first | rfl | (go_simp; done) | (go_simp; rfl)); (case hy => first | rfl | (go_simp; done) | (go_simp; rfl)); intro wF hb2 hg2 hs2; have HG2 := Aside0.mk hg2; have BWF := Aside0.mk (Below.grown BW.out hg2 BW.out.size (fun q hq => by injection hq with hq; subst hq; exact GR.out)); replace BR := Aside0.mk hb2; clear hb2 hg2 hs2))
        (refine bodyPost_ret (results_ct rfl _ _ gr 77 #[.int .i64 ed, .slice (some ⟨gI, 0, none⟩) items.length c33, .slice Ab mm3.length cb, .int .i64 e3, .int .i64 t3] (0, 0) _ rfl BR.out Try.underlying77 rfl t_8e) rfl ?_)
        exact K5.out hk (by simp) (by simp) _ _ (⟨_, _, rfl, Kd.R_lower (Kd.R_grown1 HJF.out.hi rfl HG2.out (fun e => by have h1 := Kd.R_base HJF.out.hi gr e.symm; have h2 := HGR.out; omega)) BW5.out.size, Kd.R_lower (Kd.R_grown1 HJF.out.hp rfl HG2.out (fun e => by have h1 := Kd.R_base HJF.out.hp gr e.symm; have h2 := HGR.out; omega)) BW5.out.size, BWF.out⟩)
end Go.Proofs.Ytndbchcfjajgbaa.XP
