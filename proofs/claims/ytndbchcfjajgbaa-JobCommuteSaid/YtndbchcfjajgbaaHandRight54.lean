/- job.Right, walked: is a shop right. -/
import Derived.Test.YtndbchcfjajgbaaXB
import Derived.Test.YtndbchcfjajgbaaPureJobB
import Derived.Test.YtndbchcfjajgbaaHandInsI
import Derived.Test.YtndbchcfjajgbaaXE
import Derived.Lib.QuietBelow
import Derived.BigQuiet
import Derived.Test.YtndbchcfjajgbaaXP9
import Derived.Test.YtndbchcfjajgbaaXP8
namespace Go.Proofs.Ytndbchcfjajgbaa.XP
open Go.Proofs.Ytndbchcfjajgbaa.XB Go.Proofs.Ytndbchcfjajgbaa.XQ
open Go Go.Sort Go.RowKit Go.Proofs Go.Proofs.YtndbchcfjajgbaaW.PrintWords Go.Proofs.YtndbchcfjajgbaaW.PrintLast Go.Proofs.Ytndbchcfjajgbaa.XH Go.Proofs.Ytndbchcfjajgbaa.XE Go.Proofs.Ytndbchcfjajgbaa.XW
open Go.BigFrame
set_option linter.unusedVariables false
set_option linter.unusedSimpArgs false
def lessI (p : Option S99) (x : S99) : Bool := match p with | none => true | some q => Op.bytesLess q.f0.f0.toList x.f0.f0.toList
/-- What stands behind bef (its last one p) is right. -/
def itemsGo (t : Int) : List S99 → Option S99 → List S99 → Bool
  | _, _, [] => true
  | bef, p, x :: r => rightJ x t && (lessI p x && (!(x.f1 == 1 && bef.any (isTaken x.f0.f1)) && itemsGo t (bef ++ [x]) (some x) r))
def rightS (d : Int) (l : List S99) (m : List S24) (e t : Int) : Bool := dayB d && (decide (l.length ≤ 60) && (decide (0 ≤ e) && (decide (0 ≤ t) && (validB m && itemsGo d [] none l))))
theorem cells13 {w : World} {g : Nat} {c0 c1 c2 c3 c4 c5 c6 c7 c8 c9 c10 c11 c12 : Value} (h : w.heap[g]? = some (.cells #[c0, c1, c2, c3, c4, c5, c6, c7, c8, c9, c10, c11, c12] 99 (0, 0))) :
    w.cell? ⟨g, 0, none⟩ = some c0 ∧ w.cell? ⟨g, 1, none⟩ = some c1 ∧ w.cell? ⟨g, 2, none⟩ = some c2 ∧ w.cell? ⟨g, 3, none⟩ = some c3 ∧ w.cell? ⟨g, 4, none⟩ = some c4 ∧ w.cell? ⟨g, 5, none⟩ = some c5 ∧ w.cell? ⟨g, 6, none⟩ = some c6 ∧ w.cell? ⟨g, 7, none⟩ = some c7 ∧ w.cell? ⟨g, 8, none⟩ = some c8 ∧ w.cell? ⟨g, 9, none⟩ = some c9 ∧ w.cell? ⟨g, 10, none⟩ = some c10 ∧ w.cell? ⟨g, 11, none⟩ = some c11 ∧ w.cell? ⟨g, 12, none⟩ = some c12 :=
  ⟨(blk_cell h 0).trans rfl, (blk_cell h 1).trans rfl, (blk_cell h 2).trans rfl, (blk_cell h 3).trans rfl, (blk_cell h 4).trans rfl, (blk_cell h 5).trans rfl, (blk_cell h 6).trans rfl, (blk_cell h 7).trans rfl, (blk_cell h 8).trans rfl, (blk_cell h 9).trans rfl, (blk_cell h 10).trans rfl, (blk_cell h 11).trans rfl, (blk_cell h 12).trans rfl⟩
theorem cells5 {w : World} {g : Nat} {c0 c1 c2 c3 c4 : Value} (h : w.heap[g]? = some (.cells #[c0, c1, c2, c3, c4] 77 (0, 0))) :
    w.cell? ⟨g, 0, none⟩ = some c0 ∧ w.cell? ⟨g, 1, none⟩ = some c1 ∧ w.cell? ⟨g, 2, none⟩ = some c2 ∧ w.cell? ⟨g, 3, none⟩ = some c3 ∧ w.cell? ⟨g, 4, none⟩ = some c4 :=
  ⟨(blk_cell h 0).trans rfl, (blk_cell h 1).trans rfl, (blk_cell h 2).trans rfl, (blk_cell h 3).trans rfl, (blk_cell h 4).trans rfl⟩
set_option maxHeartbeats 4000000 in
set_option maxRecDepth 100000 in
theorem right43_bad (A1 A2 : Option Addr) (n c1 m c2 : Nat) (d e t : Int) (w : World) (bd bv : Bool) (HD : Aside0 (∀ w1 : World, Calls Try.prog 92 #[.int .i64 d] w1 fun e' w' => e' = .returned (.bool bd) ∧ Below w1.heap.size w1 w')) (HV : Aside0 (∀ w1 : World, Below w.heap.size w w1 → Calls Try.prog 21 #[.slice A2 m c2] w1 fun e' w' => e' = .returned (.bool bv) ∧ Below w1.heap.size w1 w')) (hc : bd = false ∨ (bd = true ∧ (60 < (n : Int) ∨ ((n : Int) ≤ 60 ∧ (e < 0 ∨ (0 ≤ e ∧ (t < 0 ∨ (0 ≤ t ∧ bv = false))))))) ) :
    Calls Try.prog 43 #[.agg #[.int .i64 d, .slice A1 n c1, .slice A2 m c2, .int .i64 e, .int .i64 t]] w fun e' w' => e' = .returned (.bool false) ∧ Below w.heap.size w w' := by
  rcases hc with rfl | ⟨rfl, h1 | ⟨h1, h2 | ⟨h2, h3 | ⟨h3, rfl⟩⟩⟩⟩
  case' inr.inl => have e1 : decide (60 < (n : Int)) = true := decide_eq_true h1
  case' inr.inr.inl => have e1 : decide (60 < (n : Int)) = false := decide_eq_false (by omega); have e2 : decide (e < 0) = true := decide_eq_true h2
  case' inr.inr.inr.inl => have e1 : decide (60 < (n : Int)) = false := decide_eq_false (by omega); have e2 : decide (e < 0) = false := decide_eq_false (by omega); have e3 : decide (t < 0) = true := decide_eq_true h3
  case' inr.inr.inr.inr => have e1 : decide (60 < (n : Int)) = false := decide_eq_false (by omega); have e2 : decide (e < 0) = false := decide_eq_false (by omega); have e3 : decide (t < 0) = false := decide_eq_false (by omega)
  all_goals (try clear h1); (try clear h2); (try clear h3); (go_enter Try.func43, Try.ntmps43; (go_wp2_with (first | ((with_reducible refine gate_dst (N := 1) rfl ?_); refine bx_ (N := 1) (cs := #[.int .i64 d, .slice A1 n c1, .slice A2 m c2, .int .i64 e, .int .i64 t]) (t := 77) ?_; intro gs hgs w1 hbox hb1; have BW := Aside0.mk hb1; have BS := Aside0.mk hbox; clear hgs hbox hb1; obtain ⟨s0, s1, s2, s3, s4⟩ := cells5 BS.out) | (go_at_call 92; (with_reducible refine (HD.out _).mono ?_); rintro e' w' ⟨rfl, hb'⟩; (replace BW := Aside0.mk (below_then BW.out BW.out.size hb'); replace BS := kb hb' BS; clear hb' s0 s1 s2 s3 s4; (obtain ⟨s0, s1, s2, s3, s4⟩ := cells5 BS.out))) | (go_at_call 21; (with_reducible refine (HV.out _ BW.out).mono ?_); rintro e' w' ⟨rfl, hb'⟩; (replace BW := Aside0.mk (below_then BW.out BW.out.size hb'); replace BS := kb hb' BS; clear hb' s0 s1 s2 s3 s4; (obtain ⟨s0, s1, s2, s3, s4⟩ := cells5 BS.out)))))); go_ret; exact ⟨rfl, BW.out⟩
theorem take_succ99 (l : List S99) (i : Nat) (h : i < l.length) : l.take (i + 1) = l.take i ++ [rd_T99 l (i : Int)] := by
  rw [List.take_succ_eq_append_getElem h]
  unfold rd_T99
  simp [List.getD_eq_getElem?_getD, h]
theorem drop99 (l : List S99) (i : Nat) (h : i < l.length) : l.drop i = rd_T99 l (i : Int) :: l.drop (i + 1) := by
  rw [List.drop_eq_getElem_cons h]
  unfold rd_T99
  simp [List.getD_eq_getElem?_getD, h]
set_option maxHeartbeats 8000000 in
set_option maxRecDepth 100000 in
theorem right43_go (A1 A2 : Option Addr) (n c1 m c2 : Nat) (d e t : Int) (w : World) (bd bv : Bool) (HD : Aside0 (∀ w1 : World, Calls Try.prog 92 #[.int .i64 d] w1 fun e' w' => e' = .returned (.bool bd) ∧ Below w1.heap.size w1 w')) (HV : Aside0 (∀ w1 : World, Below w.heap.size w w1 → Calls Try.prog 21 #[.slice A2 m c2] w1 fun e' w' => e' = .returned (.bool bv) ∧ Below w1.heap.size w1 w')) (l : List S99) (hln : n = l.length) (hC : Kd.C k99 w A1 l.length l) (hc : l.length ≤ c1) (h1 : n ≤ 60) (hbd : bd = true) (h2 : 0 ≤ e) (h3 : 0 ≤ t) (hbv : bv = true) :
    Calls Try.prog 43 #[.agg #[.int .i64 d, .slice A1 n c1, .slice A2 m c2, .int .i64 e, .int .i64 t]] w fun e' w' => e' = .returned (.bool (itemsGo d [] none l)) ∧ Below w.heap.size w w' := by
  subst hbd hbv
  have e1 : decide (60 < (n : Int)) = false := decide_eq_false (by omega)
  have e2 : decide (e < 0) = false := decide_eq_false (by omega)
  have e3 : decide (t < 0) = false := decide_eq_false (by omega)
  have HTK0 := Aside0.mk (show ∀ (i : Nat), i ≤ n → ∀ (s : ByteArray) (w1 : World), Below w.heap.size w w1 → Calls Try.prog 94 #[.slice A1 i c1, .string s] w1 fun e' w' => e' = .returned (.bool ((l.take i).any (isTaken s))) ∧ Below w1.heap.size w1 w' from fun i hi s w1 hb => by
    have hC1 := Kd.C_take (Kd.C_below hC hb) (m := i) (by omega)
    have hlen : (l.take i).length = i := by rw [List.length_take]; omega
    have := job_taken.calls A1 c1 (l.take i) s _ w1 hC1 (by omega) rfl
    rw [hlen] at this
    exact this)
  have HRT0 := Aside0.mk (fun (x : S99) (w1 : World) => job_right.calls 6 x.f0.f0 x.f0.f1 x.f0.f2 x.f0.f3 x.f0.f4 x.f1 x.f2 x.f3 x.f4 x.f5.f0 x.f5.f1 x.f5.f2 x.f5.f3 d _ w1 (right54_eq 0 x d))
  have hcT0 := Aside0.mk (show ∀ (i : Nat), i ≤ n → ∀ W : World, (Instr.slice 75 (.slice A1 n c1) none (some (.int .i64 (i : Int))) none).run Try.prog W = .ok (.slice A1 i c1) W from fun i hi => by
    obtain ⟨i0, hi0, _⟩ := Option.map_eq_some_iff.1 info99
    have := cut_to (P := Try.prog) 75 99 .i64 Try.underlying75 hi0 A1 n c1 (i : Int) (by omega) (by omega) (by omega)
    simpa using this)
  rw [← hln] at hC
  have HC := Aside0.mk hC
  have HTS := Aside0.mk (show ∀ i, i < n → l.take (i + 1) = l.take i ++ [rd_T99 l (i : Int)] from fun i hi => take_succ99 l i (by omega))
  have HDR := Aside0.mk (show ∀ i, i < n → l.drop i = rd_T99 l (i : Int) :: l.drop (i + 1) from fun i hi => drop99 l i (by omega))
  have HDL := Aside0.mk (show l.drop n = [] by rw [hln]; exact List.drop_length)
  obtain ⟨V, hV⟩ : ∃ V, V = itemsGo d [] none l := ⟨_, rfl⟩
  rw [← hV]
  have HV0 := Aside0.mk hV
  clear hV hln hC hc h2 h3
  (go_enter Try.func43, Try.ntmps43; (go_wp2_with (first | ((with_reducible refine gate_dst (N := 1) rfl ?_); refine bx_ (N := 1) (cs := #[.int .i64 d, .slice A1 n c1, .slice A2 m c2, .int .i64 e, .int .i64 t]) (t := 77) ?_; intro gs hgs w1 hbox hb1; have BW := Aside0.mk hb1; have BS := Aside0.mk hbox; clear hgs hbox hb1; obtain ⟨s0, s1, s2, s3, s4⟩ := cells5 BS.out) | (go_at_call 92; (with_reducible refine (HD.out _).mono ?_); rintro e' w' ⟨rfl, hb'⟩; (replace BW := Aside0.mk (below_then BW.out BW.out.size hb'); replace BS := kb hb' BS; clear hb' s0 s1 s2 s3 s4; (obtain ⟨s0, s1, s2, s3, s4⟩ := cells5 BS.out))) | (go_at_call 21; (with_reducible refine (HV.out _ BW.out).mono ?_); rintro e' w' ⟨rfl, hb'⟩; (replace BW := Aside0.mk (below_then BW.out BW.out.size hb'); replace BS := kb hb' BS; clear hb' s0 s1 s2 s3 s4; (obtain ⟨s0, s1, s2, s3, s4⟩ := cells5 BS.out))))))
  have BS1 := Aside0.mk BS.out
  have BW1 := Aside0.mk BW.out
  clear s0 s1 s2 s3 s4 BS BW
  go_loopg [34] n (fun gg v34 wr => ∃ (i : Nat) (p : Option S99), i ≤ n ∧ n - i ≤ gg ∧ v34 = .int .i64 i ∧ Aside0 (V = itemsGo d (l.take i) p (l.drop i)) ∧ Aside0 (p = if i = 0 then none else some (rd_T99 l ((i - 1 : Nat) : Int))) ∧ Aside0 (Below w.heap.size w wr) ∧ Aside0 (wr.heap[gs]? = some (.cells #[.int .i64 d, .slice A1 n c1, .slice A2 m c2, .int .i64 e, .int .i64 t] 77 (0, 0))))
  case atStart => exact ⟨0, none, Nat.zero_le _, by omega, rfl, ⟨HV0.out⟩, ⟨rfl⟩, BW1, BS1⟩
  case round =>
    clear BS1 BW1 HV0
    obtain ⟨i, p, hi, hgg, rfl, HVI, HP, HB, BS1⟩ := hrel
    by_cases hlt : i < n
    · have hltz : (i : Int) < (n : Int) := by omega
      have p0 : (0 : Int) ≤ (i : Int) := by omega
      obtain ⟨x, hx⟩ : ∃ x, x = rd_T99 l i := ⟨_, rfl⟩
      obtain ⟨ad, q1, hx0, hx1, hx2, hx3, hx4, hx5, hx6, hx7, hx8, hx9, hx10, hx11, hx12⟩ := at_T99 HC.out (i : Int) p0 hltz
      cases q1
      simp only [Int.toNat_natCast] at hx0 hx1 hx2 hx3 hx4 hx5 hx6 hx7 hx8 hx9 hx10 hx11 hx12
      rw [← hx] at hx0 hx1 hx2 hx3 hx4 hx5 hx6 hx7 hx8 hx9 hx10 hx11 hx12
      have HX := Aside0.mk (fun (w1 : World) (hb : Below w.heap.size w w1) => And.intro ((hb.cell (World.block_lt_of_cell? w _ hx0)).trans hx0) (CellsFrom.cons ((hb.cell (World.block_lt_of_cell? w _ hx1)).trans hx1) (CellsFrom.cons ((hb.cell (World.block_lt_of_cell? w _ hx2)).trans hx2) (CellsFrom.cons ((hb.cell (World.block_lt_of_cell? w _ hx3)).trans hx3) (CellsFrom.cons ((hb.cell (World.block_lt_of_cell? w _ hx4)).trans hx4) (CellsFrom.cons ((hb.cell (World.block_lt_of_cell? w _ hx5)).trans hx5) (CellsFrom.cons ((hb.cell (World.block_lt_of_cell? w _ hx6)).trans hx6) (CellsFrom.cons ((hb.cell (World.block_lt_of_cell? w _ hx7)).trans hx7) (CellsFrom.cons ((hb.cell (World.block_lt_of_cell? w _ hx8)).trans hx8) (CellsFrom.cons ((hb.cell (World.block_lt_of_cell? w _ hx9)).trans hx9) (CellsFrom.cons ((hb.cell (World.block_lt_of_cell? w _ hx10)).trans hx10) (CellsFrom.cons ((hb.cell (World.block_lt_of_cell? w _ hx11)).trans hx11) (CellsFrom.cons ((hb.cell (World.block_lt_of_cell? w _ hx12)).trans hx12) CellsFrom.nil)))))))))))))
      have hVI := HVI.out
      rw [HDR.out i hlt, ← hx] at hVI
      simp only [itemsGo] at hVI
      have hts := HTS.out i hlt
      rw [← hx] at hts
      rw [← hts] at hVI
      have HTK := Aside0.mk (HTK0.out i (by omega) x.f0.f1)
      have HRT := Aside0.mk (HRT0.out x)
      have hcT := hcT0.out i (by omega)
      have HXX := Aside0.mk hx
      obtain ⟨br, hbr⟩ : ∃ br, br = rightJ x d := ⟨_, rfl⟩
      obtain ⟨bt, hbt⟩ : ∃ bt, bt = (l.take i).any (isTaken x.f0.f1) := ⟨_, rfl⟩
      rw [← hbr] at HRT hVI
      rw [← hbt] at HTK hVI
      clear HVI hx hbr hbt hts hx0 hx1 hx2 hx3 hx4 hx5 hx6 hx7 hx8 hx9 hx10 hx11 hx12
      have HVI := Aside0.mk hVI
      clear hVI
      (go_wp2_with (first | ((with_reducible refine gate_dst (N := 4) rfl ?_); refine bx_ (N := 4) (cs := #[.string (⟨#[]⟩ : ByteArray), .string (⟨#[]⟩ : ByteArray), .string (⟨#[]⟩ : ByteArray), .int .i64 0, .int .i64 0, .int .i64 0, .int .i64 0, .int .i64 0, .int .i64 0, .string (⟨#[]⟩ : ByteArray), .string (⟨#[]⟩ : ByteArray), .int .i64 0, .int .i64 0]) (t := 99) ?_; intro ga hga w4 hbox hb1; have GA := Aside0.mk ((by rw [hga]; exact HB.out.size) : w.heap.size ≤ ga); have NA := Aside0.mk (show gs ≠ ga by have := blk_lt BS1.out; omega); have HB4 := Aside0.mk (below_then HB.out HB.out.size hb1); have BS4 := Aside0.mk ((hb1.block _ (blk_lt BS1.out)).trans BS1.out); have BA := Aside0.mk hbox; clear hga hbox hb1) | ((with_reducible refine gate_load (T := 99) rfl ?_); refine ev_load 12 rfl rfl Try.underlying99 rfl t_8e ?hx (HX.out _ HB.out).1 (HX.out _ HB.out).2 ?_; (case hx => first | rfl | (go_simp; done) | (go_simp; rfl))) | ((with_reducible refine gate_store (T := 99) rfl ?_); refine ev_store (g := ga) (t := 99) (old := #[.string (⟨#[]⟩ : ByteArray), .string (⟨#[]⟩ : ByteArray), .string (⟨#[]⟩ : ByteArray), .int .i64 0, .int .i64 0, .int .i64 0, .int .i64 0, .int .i64 0, .int .i64 0, .string (⟨#[]⟩ : ByteArray), .string (⟨#[]⟩ : ByteArray), .int .i64 0, .int .i64 0]) (cells := #[.string x.f0.f0, .string x.f0.f1, .string x.f0.f2, .int .i64 x.f0.f3, .int .i64 x.f0.f4, .int .i64 x.f1, .int .i64 x.f2, .int .i64 x.f3, .int .i64 x.f4, .string x.f5.f0, .string x.f5.f1, .int .i64 x.f5.f2, .int .i64 x.f5.f3]) rfl rfl ?hx ?hy BA.out rfl t_8e t_88 ?_; (case hx => first | rfl | (go_simp; done) | (go_simp; rfl)); (case hy => first | rfl | (go_simp; done) | (go_simp; rfl)); intro w5 hb2 hg2 hs2; have HB5 := Aside0.mk (Below.grown HB4.out hg2 HB4.out.size (fun k hk => by injection hk with hk; subst hk; exact GA.out)); have BS5 := Aside0.mk (blk_grown BS4.out hg2 (fun e => NA.out t_8d)); have BA5 := Aside0.mk hb2; clear hb2 hg2 hs2)))
      cases br with
      | false =>
        have hVI := HVI.out
        simp only [Bool.false_and] at hVI
        subst hVI
        (obtain ⟨a0, a1, a2, a3, a4, a5, a6, a7, a8, a9, a10, a11, a12⟩ := cells13 BA5.out; obtain ⟨s0, s1, s2, s3, s4⟩ := cells5 BS5.out; have m0 := cell_regrown s0; have m1 := cell_regrown s1; have b0 := cell_regrown a0; have b1 := cell_regrown a1; have b2 := cell_regrown a2; have b3 := cell_regrown a3; have b4 := cell_regrown a4; have b5 := cell_regrown a5; have b6 := cell_regrown a6; have b7 := cell_regrown a7; have b8 := cell_regrown a8; have b9 := cell_regrown a9; have b10 := cell_regrown a10; have b11 := cell_regrown a11; have b12 := cell_regrown a12; skip; have cR := fun x os => Calls.regrown_of (HRT.out (grow (redrawn w5 x) os)); have cT := fun x os => Calls.regrown_of (HTK.out _ (below_then HB5.out HB5.out.size (below_regrown w5 x os))); (try simp only [Act.put, List.setIfInBounds_toArray, List.set_cons_zero, List.set_cons_succ]); refine wp_region_quiet_below t_8e t_8e ?_; (repeat (go_big_quiet_step (first | exact cR _ _ | exact cT _ _))); refine wpQuiet_nil ?_; intro _ hw'; obtain ⟨⟨dq, osq⟩, hw''⟩ := hw'; subst hw''; have hb' := below_regrown w5 dq osq; clear cR cT m0 m1 s0 s1 s2 s3 s4 a0 a1 a2 a3 a4 a5 a6 a7 a8 a9 a10 a11 a12 b0 b1 b2 b3 b4 b5 b6 b7 b8 b9 b10 b11 b12; generalize grow (redrawn w5 dq) osq = w6 at hb' ⊢; have HB6 := Aside0.mk (below_then HB5.out HB5.out.size hb'); have BS6 := kb hb' BS5; clear hb')
        go_wp2
        go_ret
        exact ⟨rfl, HB6.out⟩
      | true =>
        obtain ⟨bo, hbo⟩ : ∃ bo, bo = (x.f1 == 1) := ⟨_, rfl⟩
        have ho := hbo.symm
        clear hbo
        by_cases h0 : i = 0
        · have g0 : decide ((0 : Int) < (i : Int)) = false := decide_eq_false (by omega)
          have g1 : decide (0 < i) = false := decide_eq_false (by omega)
          have g2 : decide (i = 0) = true := decide_eq_true h0
          have hp := HP.out
          rw [if_pos h0] at hp
          subst hp
          clear HP h0
          have HOO := Aside0.mk ho
          cases bo <;> cases bt
          all_goals (obtain ⟨a0, a1, a2, a3, a4, a5, a6, a7, a8, a9, a10, a11, a12⟩ := cells13 BA5.out; obtain ⟨s0, s1, s2, s3, s4⟩ := cells5 BS5.out; have m0 := cell_regrown s0; have m1 := cell_regrown s1; have b0 := cell_regrown a0; have b1 := cell_regrown a1; have b2 := cell_regrown a2; have b3 := cell_regrown a3; have b4 := cell_regrown a4; have b5 := cell_regrown a5; have b6 := cell_regrown a6; have b7 := cell_regrown a7; have b8 := cell_regrown a8; have b9 := cell_regrown a9; have b10 := cell_regrown a10; have b11 := cell_regrown a11; have b12 := cell_regrown a12; skip; have cR := fun x os => Calls.regrown_of (HRT.out (grow (redrawn w5 x) os)); have cT := fun x os => Calls.regrown_of (HTK.out _ (below_then HB5.out HB5.out.size (below_regrown w5 x os))); (try simp only [Act.put, List.setIfInBounds_toArray, List.set_cons_zero, List.set_cons_succ]); refine wp_region_quiet_below t_8e t_8e ?_; (repeat (go_big_quiet_step (first | exact cR _ _ | exact cT _ _))); refine wpQuiet_nil ?_; intro _ hw'; obtain ⟨⟨dq, osq⟩, hw''⟩ := hw'; subst hw''; have hb' := below_regrown w5 dq osq; clear cR cT m0 m1 s0 s1 s2 s3 s4 a0 a1 a2 a3 a4 a5 a6 a7 a8 a9 a10 a11 a12 b0 b1 b2 b3 b4 b5 b6 b7 b8 b9 b10 b11 b12; generalize grow (redrawn w5 dq) osq = w6 at hb' ⊢; have HB6 := Aside0.mk (below_then HB5.out HB5.out.size hb'); have BS6 := kb hb' BS5; clear hb')
          all_goals go_wp2
          all_goals have hVI := HVI.out
          all_goals rw [HOO.out] at hVI
          all_goals simp only [lessI, Bool.true_and, Bool.false_and, Bool.not_false, Bool.and_self, Bool.not_true, Bool.and_false] at hVI
          all_goals first | (subst hVI; go_ret; exact ⟨rfl, HB6.out⟩) | (have HVN := Aside0.mk hVI; clear hVI; go_roundg (n - (i + 1)); (case measure => omega); (case rel => exact ⟨i + 1, some x, by omega, by omega, by go_num, HVN, ⟨by rw [if_neg (by omega), HXX.out]; rfl⟩, HB6, BS6⟩))
        · obtain ⟨j, rfl⟩ : ∃ j, i = j + 1 := ⟨i - 1, by omega⟩
          have g0 : decide ((0 : Int) < ((j + 1 : Nat) : Int)) = true := decide_eq_true (by omega)
          have hw : IntKind.i64.wrap (((j + 1 : Nat) : Int) - 1) = (j : Int) := by rw [IntKind.wrap_i64]; omega
          have hw2 : IntKind.i64.wrap ((j : Int) + 1 - 1) = (j : Int) := by rw [IntKind.wrap_i64]; omega
          have hw3 : IntKind.i64.wrap (j : Int) = (j : Int) := by rw [IntKind.wrap_i64]; omega
          have hcT2 : ∀ W : World, (Instr.slice 75 (.slice (some ad) n c1) none (some (.int .i64 ((j : Int) + 1))) none).run Try.prog W = .ok (.slice (some ad) (j + 1) c1) W := by simpa using hcT
          have q0 : (0 : Int) ≤ (j : Int) := by omega
          have q1 : (j : Int) < (n : Int) := by omega
          obtain ⟨y, hy⟩ : ∃ y, y = rd_T99 l j := ⟨_, rfl⟩
          obtain ⟨ad2, e4, hy0, _⟩ := at_T99 HC.out (j : Int) q0 q1
          obtain rfl : ad = ad2 := by injection e4
          simp only [Int.toNat_natCast] at hy0
          rw [← hy] at hy0
          have HY := Aside0.mk (fun (w1 : World) (hb : Below w.heap.size w w1) => (hb.cell (World.block_lt_of_cell? w _ hy0)).trans hy0)
          have hp := HP.out
          rw [if_neg (by omega), show ((j + 1 - 1 : Nat) : Int) = (j : Int) by omega, ← hy] at hp
          subst hp
          clear HP h0 hy hy0 e4
          obtain ⟨bl, hbl⟩ : ∃ bl, bl = Op.bytesLess y.f0.f0.toList x.f0.f0.toList := ⟨_, rfl⟩
          have hl := hbl.symm
          clear hbl
          have HOO := Aside0.mk ho
          have HLL := Aside0.mk hl
          cases bl with
          | false =>
            (obtain ⟨a0, a1, a2, a3, a4, a5, a6, a7, a8, a9, a10, a11, a12⟩ := cells13 BA5.out; obtain ⟨s0, s1, s2, s3, s4⟩ := cells5 BS5.out; have m0 := cell_regrown s0; have m1 := cell_regrown s1; have b0 := cell_regrown a0; have b1 := cell_regrown a1; have b2 := cell_regrown a2; have b3 := cell_regrown a3; have b4 := cell_regrown a4; have b5 := cell_regrown a5; have b6 := cell_regrown a6; have b7 := cell_regrown a7; have b8 := cell_regrown a8; have b9 := cell_regrown a9; have b10 := cell_regrown a10; have b11 := cell_regrown a11; have b12 := cell_regrown a12; have b13 := cell_regrown (HY.out _ HB5.out); have cR := fun x os => Calls.regrown_of (HRT.out (grow (redrawn w5 x) os)); have cT := fun x os => Calls.regrown_of (HTK.out _ (below_then HB5.out HB5.out.size (below_regrown w5 x os))); (try simp only [Act.put, List.setIfInBounds_toArray, List.set_cons_zero, List.set_cons_succ]); refine wp_region_quiet_below t_8e t_8e ?_; (repeat (go_big_quiet_step (first | exact cR _ _ | exact cT _ _))); refine wpQuiet_nil ?_; intro _ hw'; obtain ⟨⟨dq, osq⟩, hw''⟩ := hw'; subst hw''; have hb' := below_regrown w5 dq osq; clear cR cT m0 m1 s0 s1 s2 s3 s4 a0 a1 a2 a3 a4 a5 a6 a7 a8 a9 a10 a11 a12 b0 b1 b2 b3 b4 b5 b6 b7 b8 b9 b10 b11 b12; generalize grow (redrawn w5 dq) osq = w6 at hb' ⊢; have HB6 := Aside0.mk (below_then HB5.out HB5.out.size hb'); have BS6 := kb hb' BS5; clear hb')
            go_wp2
            have hVI := HVI.out
            simp only [lessI] at hVI
            rw [HLL.out] at hVI
            simp only [Bool.false_and, Bool.true_and] at hVI
            subst hVI
            go_ret
            exact ⟨rfl, HB6.out⟩
          | true =>
            cases bo <;> cases bt
            all_goals (obtain ⟨a0, a1, a2, a3, a4, a5, a6, a7, a8, a9, a10, a11, a12⟩ := cells13 BA5.out; obtain ⟨s0, s1, s2, s3, s4⟩ := cells5 BS5.out; have m0 := cell_regrown s0; have m1 := cell_regrown s1; have b0 := cell_regrown a0; have b1 := cell_regrown a1; have b2 := cell_regrown a2; have b3 := cell_regrown a3; have b4 := cell_regrown a4; have b5 := cell_regrown a5; have b6 := cell_regrown a6; have b7 := cell_regrown a7; have b8 := cell_regrown a8; have b9 := cell_regrown a9; have b10 := cell_regrown a10; have b11 := cell_regrown a11; have b12 := cell_regrown a12; have b13 := cell_regrown (HY.out _ HB5.out); have cR := fun x os => Calls.regrown_of (HRT.out (grow (redrawn w5 x) os)); have cT := fun x os => Calls.regrown_of (HTK.out _ (below_then HB5.out HB5.out.size (below_regrown w5 x os))); (try simp only [Act.put, List.setIfInBounds_toArray, List.set_cons_zero, List.set_cons_succ]); refine wp_region_quiet_below t_8e t_8e ?_; (repeat (go_big_quiet_step (first | exact cR _ _ | exact cT _ _))); refine wpQuiet_nil ?_; intro _ hw'; obtain ⟨⟨dq, osq⟩, hw''⟩ := hw'; subst hw''; have hb' := below_regrown w5 dq osq; clear cR cT m0 m1 s0 s1 s2 s3 s4 a0 a1 a2 a3 a4 a5 a6 a7 a8 a9 a10 a11 a12 b0 b1 b2 b3 b4 b5 b6 b7 b8 b9 b10 b11 b12; generalize grow (redrawn w5 dq) osq = w6 at hb' ⊢; have HB6 := Aside0.mk (below_then HB5.out HB5.out.size hb'); have BS6 := kb hb' BS5; clear hb')
            all_goals go_wp2
            all_goals have hVI := HVI.out
            all_goals simp only [lessI] at hVI
            all_goals rw [HLL.out, HOO.out] at hVI
            all_goals simp only [Bool.true_and, Bool.false_and, Bool.not_false, Bool.and_self, Bool.not_true, Bool.and_false] at hVI
            all_goals first | (subst hVI; go_ret; exact ⟨rfl, HB6.out⟩) | (have HVN := Aside0.mk hVI; clear hVI; go_roundg (n - ((j + 1) + 1)); (case measure => omega); (case rel => exact ⟨(j + 1) + 1, some x, by omega, by omega, by go_num, HVN, ⟨by rw [if_neg (by omega), HXX.out]; rfl⟩, HB6, BS6⟩))
    · have hltz : ¬ (i : Int) < (n : Int) := by omega
      obtain rfl : i = n := by omega
      have hf := HVI.out
      rw [HDL.out] at hf
      simp only [itemsGo] at hf
      subst hf
      go_wp2
      go_ret
      exact ⟨rfl, HB.out⟩
def job_Right.f (a0_0 : Int) (l0_1 : List (S99)) (l0_2 : List (S24)) (a0_3 : Int) (a0_4 : Int) : Option (Bool) := if l0_2.length ≤ 1000 then some (rightS a0_0 l0_1 l0_2 a0_3 a0_4) else none
theorem job_Right.calls (a0_0 : Int) (A0_1 : Option Addr) (c0_1 : Nat) (l0_1 : List (S99)) (A0_2 : Option Addr) (c0_2 : Nat) (l0_2 : List (S24)) (a0_3 : Int) (a0_4 : Int) (r : Bool) (w : World) (hr0_1 : Kd.C k99 w A0_1 l0_1.length l0_1) (hc0_1 : l0_1.length ≤ c0_1) (hr0_2 : Kd.C k24 w A0_2 l0_2.length l0_2) (hc0_2 : l0_2.length ≤ c0_2) (h : job_Right.f a0_0 l0_1 l0_2 a0_3 a0_4 = some r) :
    Calls Try.prog 43 #[.agg #[.int .i64 a0_0, .slice A0_1 l0_1.length c0_1, .slice A0_2 l0_2.length c0_2, .int .i64 a0_3, .int .i64 a0_4]] w fun e w' => e = .returned (.bool r) ∧ Below w.heap.size w w' := by
  unfold job_Right.f at h
  have hm : l0_2.length ≤ 1000 := by
    rcases Nat.lt_or_ge 1000 l0_2.length with hc | hc
    · rw [if_neg (by omega)] at h; cases h
    · exact hc
  rw [if_pos hm] at h
  injection h with h
  subst h
  have HD := Aside0.mk (fun (w1 : World) => (job_day.calls a0_0 _ w1 (day_eq a0_0)).mono (fun e w' hh => And.intro hh.1 hh.2.below))
  have HV := Aside0.mk (fun (w1 : World) (hb : Below w.heap.size w w1) => parcel_Valid.calls (l0_2.length + 1) A0_2 c0_2 l0_2 (validB l0_2) w1 (Kd.C_below hr0_2 hb) hc0_2 (valid_eq l0_2 hm))
  unfold rightS
  cases h1 : dayB a0_0 with
  | false => exact right43_bad A0_1 A0_2 _ c0_1 _ c0_2 a0_0 a0_3 a0_4 w _ _ HD HV (.inl h1)
  | true =>
  by_cases h2 : l0_1.length ≤ 60
  case neg =>
    rw [decide_eq_false h2]
    exact right43_bad A0_1 A0_2 _ c0_1 _ c0_2 a0_0 a0_3 a0_4 w _ _ HD HV (.inr ⟨h1, .inl (by omega)⟩)
  case pos =>
  rw [decide_eq_true h2]
  by_cases h3 : 0 ≤ a0_3
  case neg =>
    rw [decide_eq_false h3]
    exact right43_bad A0_1 A0_2 _ c0_1 _ c0_2 a0_0 a0_3 a0_4 w _ _ HD HV (.inr ⟨h1, .inr ⟨by omega, .inl (by omega)⟩⟩)
  case pos =>
  rw [decide_eq_true h3]
  by_cases h4 : 0 ≤ a0_4
  case neg =>
    rw [decide_eq_false h4]
    exact right43_bad A0_1 A0_2 _ c0_1 _ c0_2 a0_0 a0_3 a0_4 w _ _ HD HV (.inr ⟨h1, .inr ⟨by omega, .inr ⟨by omega, .inl (by omega)⟩⟩⟩)
  case pos =>
  rw [decide_eq_true h4]
  cases h5 : validB l0_2 with
  | false => exact right43_bad A0_1 A0_2 _ c0_1 _ c0_2 a0_0 a0_3 a0_4 w _ _ HD HV (.inr ⟨h1, .inr ⟨by omega, .inr ⟨by omega, .inr ⟨by omega, h5⟩⟩⟩⟩)
  | true => exact right43_go A0_1 A0_2 _ c0_1 _ c0_2 a0_0 a0_3 a0_4 w _ _ HD HV l0_1 rfl hr0_1 hc0_1 h2 h1 h3 h4 h5
end Go.Proofs.Ytndbchcfjajgbaa.XP
