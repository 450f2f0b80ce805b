/- tier.Prefix, walked. -/
import Derived.Test.YtncemdpmooakgaaHandPreW
namespace Go.Proofs.Ytncemdpmooakgaa.XK
open Go Go.RowKit Go.Proofs Go.Proofs.YtncemdpmooakgaaW.PrintWords Go.Proofs.YtncemdpmooakgaaW.PrintLast Go.Proofs.Ytncemdpmooakgaa.XW Go.Proofs.Ytncemdpmooakgaa.XT Go.Proofs.Ytncemdpmooakgaa.XE
set_option linter.unusedVariables false
set_option linter.unusedSimpArgs false
def small51 (t : S51) : Bool := decide (t.f3.length ≤ 1000) && decide (t.f4.f3.length ≤ 1000)
def tier_Prefix.f (a0_0 : ByteArray) (a0_1 : Int) (a0_2 : Bool) (l0_3 : List (S51)) (a1 : Int) : Option (ByteArray × Int × Bool × (List (S51)) × Int) :=
  if a1 < 0 then some ((⟨#[]⟩ : ByteArray), 0, false, [], 2) else if a1 > (l0_3.length : Int) then some ((⟨#[]⟩ : ByteArray), 0, false, [], 2) else if l0_3.length ≤ 1000 ∧ l0_3.all small51 = true then some (a0_0, a0_1, a0_2, l0_3.take a1.toNat, 0) else none
set_option maxHeartbeats 4000000 in
set_option maxRecDepth 100000 in
theorem prefix_err (a0_0 : ByteArray) (a0_1 : Int) (a0_2 : Bool) (A0_3 : Option Addr) (c0_3 n : Nat) (a1 : Int) (w : World) (h : a1 < 0 ∨ (n : Int) < a1) :
    Calls Try.prog 29 #[.agg #[.string a0_0, .int .i64 a0_1, .bool a0_2, .slice A0_3 n c0_3], .int .i64 a1] w fun e w' => e = .returned (.tuple #[.agg #[.string (⟨#[]⟩ : ByteArray), .int .i64 0, .bool false, .slice none 0 0], .int .i64 2]) ∧ Below w.heap.size w w' := by
  by_cases h1 : a1 < 0
  · have b1 : decide (a1 < 0) = true := decide_eq_true h1
    clear h h1
    go_enter Try.func29, Try.ntmps29
    go_wp2_with (first | ((with_reducible refine gate_dst (N := 2) rfl ?_); refine box_event ?hg (N := 2) ?hd (cs := #[.string a0_0, .int .i64 a0_1, .bool a0_2, .slice A0_3 n c0_3]) (t := 36) ?hr ?_; (case hd => rfl); (case hg => rfl); (case hr => first | (go_simp; done) | (go_simp; rfl)); intro gd hgd w1 hbox hb1; have BW := Aside0.mk hb1; have BD := Aside0.mk hbox; have GD := Aside0.mk (Nat.le_of_eq hgd.symm); have z3 := (blk_cell BD.out 3).trans rfl; clear hgd hb1 hbox) | ((with_reducible refine gate_dst (N := 4) rfl ?_); refine box_event ?hg (N := 4) ?hd (cs := #[.string (⟨#[]⟩ : ByteArray), .int .i64 0, .bool false, .slice none 0 0]) (t := 36) ?hr ?_; (case hd => rfl); (case hg => rfl); (case hr => first | (go_simp; done) | (go_simp; rfl)); intro gr hgr w2 hbox hb1; have NE := Aside0.mk (show gd ≠ gr by have := blk_lt BD.out; omega); replace BD := Aside0.mk ((hb1.block gd (blk_lt BD.out)).trans BD.out); have GR := Aside0.mk (show w.heap.size ≤ gr by rw [hgr]; exact BW.out.size); replace BW := Aside0.mk (below_then BW.out BW.out.size hb1); have BR := Aside0.mk hbox; replace z3 := (blk_cell BD.out 3).trans rfl; clear hgr hb1 hbox) | ((with_reducible refine gate_ (.store 36 (.tmp 4) (.tmp 16)) rfl ?_); refine ev_store (g := gr) (t := 36) (old := #[.string (⟨#[]⟩ : ByteArray), .int .i64 0, .bool false, .slice none 0 0]) (cells := #[.string (⟨#[]⟩ : ByteArray), .int .i64 0, .bool false, .slice none 0 0]) rfl rfl rfl rfl BR.out rfl (by kernel_rfl) (by simp [Value.oneCell']) ?_; intro w5 hb2 hg2 hs2; have HG5 := Aside0.mk hg2; replace BW := Aside0.mk (Below.grown BW.out hg2 BW.out.size (fun k hk => by injection hk with hk; subst hk; exact GR.out)); replace BR := Aside0.mk hb2; clear hb2 hg2 hs2))
    refine bodyPost_ret (results_ct rfl _ _ gr 36 #[.string (⟨#[]⟩ : ByteArray), .int .i64 0, .bool false, .slice none 0 0] (0, 0) _ rfl BR.out Try.underlying36 rfl (by kernel_rfl)) rfl ?_
    exact ⟨rfl, BW.out⟩
  · have b1 : decide (a1 < 0) = false := decide_eq_false h1
    have b2 : decide ((n : Int) < a1) = true := decide_eq_true (by omega)
    clear h h1
    go_enter Try.func29, Try.ntmps29
    go_wp2_with (first | ((with_reducible refine gate_dst (N := 2) rfl ?_); refine box_event ?hg (N := 2) ?hd (cs := #[.string a0_0, .int .i64 a0_1, .bool a0_2, .slice A0_3 n c0_3]) (t := 36) ?hr ?_; (case hd => rfl); (case hg => rfl); (case hr => first | (go_simp; done) | (go_simp; rfl)); intro gd hgd w1 hbox hb1; have BW := Aside0.mk hb1; have BD := Aside0.mk hbox; have GD := Aside0.mk (Nat.le_of_eq hgd.symm); have z3 := (blk_cell BD.out 3).trans rfl; clear hgd hb1 hbox) | ((with_reducible refine gate_dst (N := 4) rfl ?_); refine box_event ?hg (N := 4) ?hd (cs := #[.string (⟨#[]⟩ : ByteArray), .int .i64 0, .bool false, .slice none 0 0]) (t := 36) ?hr ?_; (case hd => rfl); (case hg => rfl); (case hr => first | (go_simp; done) | (go_simp; rfl)); intro gr hgr w2 hbox hb1; have NE := Aside0.mk (show gd ≠ gr by have := blk_lt BD.out; omega); replace BD := Aside0.mk ((hb1.block gd (blk_lt BD.out)).trans BD.out); have GR := Aside0.mk (show w.heap.size ≤ gr by rw [hgr]; exact BW.out.size); replace BW := Aside0.mk (below_then BW.out BW.out.size hb1); have BR := Aside0.mk hbox; replace z3 := (blk_cell BD.out 3).trans rfl; clear hgr hb1 hbox) | ((with_reducible refine gate_ (.store 36 (.tmp 4) (.tmp 16)) rfl ?_); refine ev_store (g := gr) (t := 36) (old := #[.string (⟨#[]⟩ : ByteArray), .int .i64 0, .bool false, .slice none 0 0]) (cells := #[.string (⟨#[]⟩ : ByteArray), .int .i64 0, .bool false, .slice none 0 0]) rfl rfl rfl rfl BR.out rfl (by kernel_rfl) (by simp [Value.oneCell']) ?_; intro w5 hb2 hg2 hs2; have HG5 := Aside0.mk hg2; replace BW := Aside0.mk (Below.grown BW.out hg2 BW.out.size (fun k hk => by injection hk with hk; subst hk; exact GR.out)); replace BR := Aside0.mk hb2; clear hb2 hg2 hs2))
    refine bodyPost_ret (results_ct rfl _ _ gr 36 #[.string (⟨#[]⟩ : ByteArray), .int .i64 0, .bool false, .slice none 0 0] (0, 0) _ rfl BR.out Try.underlying36 rfl (by kernel_rfl)) rfl ?_
    exact ⟨rfl, BW.out⟩
set_option maxHeartbeats 8000000 in
set_option maxRecDepth 100000 in
theorem prefix_ok (a0_0 : ByteArray) (a0_1 : Int) (a0_2 : Bool) (A0_3 : Option Addr) (c0_3 n : Nat) (l0_3 : List S51) (m : Nat) (hn : n = l0_3.length) (hm : m ≤ n) (hsm : l0_3.all small51 = true) (hbig : n ≤ 1000) (hc : n ≤ c0_3) (P : Nat → Prop) (w : World) (hr : Kd.F k51 w P A0_3 n l0_3) :
    Calls Try.prog 29 #[.agg #[.string a0_0, .int .i64 a0_1, .bool a0_2, .slice A0_3 n c0_3], .int .i64 (m : Int)] w fun e w' => ∃ v3_ : Value, e = .returned (.tuple #[.agg #[.string a0_0, .int .i64 a0_1, .bool a0_2, v3_], .int .i64 0]) ∧ Kd.V k51 51 w' w.heap.size (fun k_ => (P k_ ∨ w.heap.size ≤ k_)) v3_ (l0_3.take m) ∧ Below w.heap.size w w' := by
  have b1 : decide ((m : Int) < 0) = false := decide_eq_false (by omega)
  have b2 : decide ((n : Int) < (m : Int)) = false := decide_eq_false (by omega)
  have HM := Aside0.mk (show (l0_3.take m).length = m by rw [List.length_take]; omega)
  have HF := Aside0.mk (show Kd.F k51 w (fun k => P k ∧ k < w.heap.size) A0_3 m (l0_3.take m) by
    have h1 := hr
    rw [hn] at h1
    have h2 := Kd.F_bound (Kd.F_take h1 (m := m) (by omega))
    rw [HM.out] at h2
    exact h2)
  have H62 := Aside0.mk (fun (w2 : World) (hb : Below w.heap.size w w2) (hF : Kd.F k51 w2 (fun k => P k ∧ k < w.heap.size) A0_3 m (l0_3.take m)) => clone62 A0_3 c0_3 (l0_3.take m) m HM.out.symm w2 (Kd.F_now hF) (by omega) (fun k => P k ∧ k < w.heap.size) hF)
  have HSM := Aside0.mk (show ∀ i, i < m → ((l0_3.take m).getD i z51).f3.length ≤ 1000 ∧ ((l0_3.take m).getD i z51).f4.f3.length ≤ 1000 from fun i hi => by
    have h1 : (l0_3.take m).getD i z51 ∈ l0_3.take m := by rw [List.getD_eq_getElem?_getD, List.getElem?_eq_getElem (by rw [HM.out]; exact hi)]; exact List.getElem_mem _
    have h2 := List.all_eq_true.1 hsm _ (List.mem_of_mem_take h1)
    simpa [small51] using h2)
  have p0 : (0 : Int) ≤ (m : Int) := by omega
  have p1 : (m : Int) ≤ (n : Int) := by omega
  have p2 : (m : Int) ≤ (c0_3 : Int) := by omega
  have p3 : m ≤ c0_3 := by omega
  obtain ⟨xs, hxs⟩ : ∃ xs, xs = l0_3.take m := ⟨_, rfl⟩
  rw [← hxs] at HM HSM HF H62 ⊢
  clear hn hsm hr hxs
  go_enter Try.func29, Try.ntmps29
  go_wp2_with (first | ((with_reducible refine gate_dst (N := 2) rfl ?_); refine box_event ?hg (N := 2) ?hd (cs := #[.string a0_0, .int .i64 a0_1, .bool a0_2, .slice A0_3 n c0_3]) (t := 36) ?hr ?_; (case hd => rfl); (case hg => rfl); (case hr => first | (go_simp; done) | (go_simp; rfl)); intro gd hgd w1 hbox hb1; have BW := Aside0.mk hb1; have BD := Aside0.mk hbox; have GD := Aside0.mk (Nat.le_of_eq hgd.symm); have z3 := (blk_cell BD.out 3).trans rfl; clear hgd hb1 hbox) | ((with_reducible refine gate_dst (N := 4) rfl ?_); refine box_event ?hg (N := 4) ?hd (cs := #[.string (⟨#[]⟩ : ByteArray), .int .i64 0, .bool false, .slice none 0 0]) (t := 36) ?hr ?_; (case hd => rfl); (case hg => rfl); (case hr => first | (go_simp; done) | (go_simp; rfl)); intro gr hgr w2 hbox hb1; have NE := Aside0.mk (show gd ≠ gr by have := blk_lt BD.out; omega); replace BD := Aside0.mk ((hb1.block gd (blk_lt BD.out)).trans BD.out); have GR := Aside0.mk (show w.heap.size ≤ gr by rw [hgr]; exact BW.out.size); replace BW := Aside0.mk (below_then BW.out BW.out.size hb1); have BR := Aside0.mk hbox; replace z3 := (blk_cell BD.out 3).trans rfl; clear hgr hb1 hbox) | (go_at_call 62; refine (H62.out _ BW.out (show Kd.F k51 _ (fun k => P k ∧ k < w.heap.size) A0_3 m xs from Kd.F_below HF.out BW.out)).mono ?_; rintro e w3 ⟨v1, rfl, hN, hb3⟩; obtain ⟨A1, c1, e⟩ := Kd.N_slice hN; rw [HM.out] at e; subst e; have HN := Aside0.mk (Kd.N_lower (Kd.N_mono hN (fun k hk => show (k ≠ gd ∧ k ≠ gr) ∧ (P k ∨ w.heap.size ≤ k) from by have h1 := blk_lt BD.out; have h2 := blk_lt BR.out; have h3 := GD.out; have h4 := GR.out; have h5 := BW.out.size; rcases hk with hk | hk; exact ⟨⟨by omega, by omega⟩, Or.inl hk.1⟩; exact ⟨⟨by omega, by omega⟩, Or.inr (by omega)⟩)) BW.out.size); replace BD := Aside0.mk ((hb3.block gd (blk_lt BD.out)).trans BD.out); replace BR := Aside0.mk ((hb3.block gr (blk_lt BR.out)).trans BR.out); replace BW := Aside0.mk (below_then BW.out BW.out.size hb3); clear hN hb3 z3) | ((with_reducible refine gate_store (T := 34) rfl ?_); refine ev_storeAt (g := gd) (t := 36) (off := 3) (old := #[.string a0_0, .int .i64 a0_1, .bool a0_2, .slice A0_3 n c0_3]) (new := #[.string a0_0, .int .i64 a0_1, .bool a0_2, .slice A1 m c1]) (u := .slice A1 m c1) (seg := [.slice A1 m c1]) rfl rfl rfl rfl rfl rfl (by kernel_rfl) (by simp [Value.oneCell']) BD.out (by simp) rfl ?_; intro w4 hb2 hg2 hs2; replace HN := Aside0.mk (Kd.N_grown HN.out hg2 (fun k hk e => hk.1.1 (by injection e))); replace BR := Aside0.mk (blk_grown BR.out hg2 (fun e => by injection e with e; have := NE.out; omega)); replace BW := Aside0.mk (Below.grown BW.out hg2 BW.out.size (fun k hk => by injection hk with hk; subst hk; exact GD.out)); replace BD := Aside0.mk hb2; have z3 := (blk_cell BD.out 3).trans rfl; clear hb2 hg2 hs2))
  clear H62 HF
  obtain ⟨g, hA1⟩ : ∃ g, A1 = some ⟨g, 0, none⟩ ∨ m = 0 := by
    rcases Nat.eq_zero_or_pos m with h | h
    · exact ⟨0, Or.inr h⟩
    · obtain ⟨ad, e, _⟩ := (Kd.V_reads' (base := 0) (Kd.N_V HN.out)).2.2.2.2 (by rw [HM.out]; exact h)
      subst e
      obtain ⟨_, rows, _, hR, _⟩ := HN.out
      obtain ⟨g, rfl⟩ := Kd.R_head hR
      exact ⟨g, Or.inl rfl⟩
  have HA1 := Aside0.mk hA1
  clear hA1
  go_loopg [6, 26] m (fun gg _ v26 wr => ∃ i : Nat, i ≤ m ∧ m - i ≤ gg ∧ v26 = .int .i64 i ∧ Aside0 (Kd.N k51 51 wr w.heap.size (fun k => (k ≠ gd ∧ k ≠ gr) ∧ (P k ∨ w.heap.size ≤ k)) (.slice A1 m c1) xs) ∧ Aside0 (Below w.heap.size w wr) ∧ Aside0 (wr.heap[gd]? = some (.cells #[.string a0_0, .int .i64 a0_1, .bool a0_2, .slice A1 m c1] 36 (0, 0))) ∧ Aside0 (wr.heap[gr]? = some (.cells #[.string (⟨#[]⟩ : ByteArray), .int .i64 0, .bool false, .slice none 0 0] 36 (0, 0))))
  case atStart => exact ⟨0, Nat.zero_le _, by omega, rfl, HN, BW, BD, BR⟩
  case round =>
    obtain ⟨i, hi, hgg, rfl, HNp0, HBp0, HDp0, HGp0⟩ := hrel
    clear HN BW BD BR z3
    by_cases hlt : i < m
    · have hltz : (i : Int) < (m : Int) := by omega
      have hd := decide_eq_true hltz
      have q0 : (0 : Int) ≤ (i : Int) := by omega
      obtain ⟨cap, hcap⟩ : ∃ cap, cap = c1 := ⟨_, rfl⟩
      rw [← hcap] at HNp0 HDp0
      obtain rfl : A1 = some ⟨g, 0, none⟩ := by rcases HA1.out with h | h; exact h; omega
      have hix : i < xs.length := by have := HM.out; omega
      obtain ⟨x, hx⟩ : ∃ x, x = xs.getD i z51 := ⟨_, rfl⟩
      have HSE := Aside0.mk (show xs.set i x = xs by rw [hx, List.getD_eq_getElem?_getD, List.getElem?_eq_getElem hix]; exact List.set_getElem_self hix)
      have HX := Aside0.mk hx
      have hsx := HSM.out i hlt
      rw [← hx] at hsx
      obtain ⟨cp, hcl, hfk, hcc, hfz⟩ := N_elem HNp0.out z51 i hlt hix
      rw [← hx] at hfk
      clear hx
      obtain ⟨A3, a3, B3, b3, e3, C3, _, _⟩ := FK_slices hfk
      have HCLp := Aside0.mk (clone63 A3 a3 x.f3 x.f3.length rfl wr.drew C3 hsx.1)
      have HFKp := Aside0.mk hfk
      have HCL_p := Aside0.mk hcl
      have HCCp := Aside0.mk (show ∀ q u, cp[q]? = some u → wr.drew.cell? ⟨g, i * 46 + q, none⟩ = some u from hcc)
      have HEp := Aside0.mk e3
      have HLTp := Aside0.mk (show gd < wr.heap.size ∧ gr < wr.heap.size ∧ g < wr.heap.size from ⟨blk_lt HDp0.out, blk_lt HGp0.out, Kd.N_lt HNp0.out g rfl⟩)
      have HGE := Aside0.mk (show w.heap.size ≤ g from Kd.N_base HNp0.out g rfl)
      have HGD := Aside0.mk (show g ≠ gd ∧ g ≠ gr from (HNp0.out.1 g rfl).1)
      clear hcl hfk hcc hfz e3 C3
      go_wp2
      refine start_ (n := 13) (S := fun w' => w'.cell? ⟨gd, 3, none⟩ = some (.slice (some ⟨g, 0, none⟩) m cap) ∧ w'.cell? ⟨g, i * 46 + 3, none⟩ = some (.slice A3 x.f3.length a3)) (ds := [12]) #[false, false, false, false, false, false, false, false, false, false, false, false, false] (by kernel_rfl) rfl rfl ⟨(blk_cell (w := wr.drew) HDp0.out 3).trans rfl, HCCp.out 3 _ HEp.out⟩ (fun hHeld => ?_)
      refine pure_ (i := 0) (N := some 29) (v := ?_) (a' := ?_) #[true, false, false, false, false, false, false, false, false, false, false, false, false] rfl rfl (by kernel_rfl) (fun _ _ _ h => h) (Or.inl ⟨by rfl, ?_⟩) ?_ ?_
      rotate_left
      · intro w'
        go_simp
        with_reducible rfl
      rotate_left
      · simp only [Act.put, List.setIfInBounds_toArray, List.set_cons_zero, List.set_cons_succ, i64_w, i32_w]
        rfl
      refine pure_ (i := 2) (N := some 31) (v := ?_) (a' := ?_) #[true, false, true, false, false, false, false, false, false, false, false, false, false] rfl rfl (by kernel_rfl) (fun _ _ _ h => h) (Or.inl ⟨by rfl, ?_⟩) ?_ ?_
      rotate_left
      · intro w'
        go_simp
        with_reducible rfl
      rotate_left
      · simp only [Act.put, List.setIfInBounds_toArray, List.set_cons_zero, List.set_cons_succ, i64_w, i32_w]
        rfl
      refine pure_ (i := 3) (N := some 32) (v := ?_) (a' := ?_) #[true, false, true, true, false, false, false, false, false, false, false, false, false] rfl rfl (by kernel_rfl) (fun _ _ _ h => h) (Or.inl ⟨by rfl, ?_⟩) ?_ ?_
      rotate_left
      · intro w'
        go_simp
        with_reducible rfl
      rotate_left
      · simp only [Act.put, List.setIfInBounds_toArray, List.set_cons_zero, List.set_cons_succ, i64_w, i32_w]
        rfl
      refine pure_ (i := 5) (N := some 34) (v := ?_) (a' := ?_) #[true, false, true, true, false, true, false, false, false, false, false, false, false] rfl rfl (by kernel_rfl) (fun _ _ _ h => h) (Or.inl ⟨by rfl, ?_⟩) ?_ ?_
      rotate_left
      · intro w'
        go_simp
        with_reducible rfl
      rotate_left
      · simp only [Act.put, List.setIfInBounds_toArray, List.set_cons_zero, List.set_cons_succ, i64_w, i32_w]
        rfl
      refine take_ (i := 1) (N := some 30) (v := ?_) (a' := ?_) #[true, true, true, true, false, true, false, false, false, false, false, false, false] rfl rfl (by kernel_rfl) (fun _ _ _ h => h) (Or.inl ⟨by rfl, ?_⟩) hHeld ?_ ?_
      rotate_left
      · rintro w' ⟨s0, s1⟩
        go_simp
        with_reducible rfl
      rotate_left
      · simp only [Act.put, List.setIfInBounds_toArray, List.set_cons_zero, List.set_cons_succ, i64_w, i32_w]
        rfl
      refine take_ (i := 4) (N := some 33) (v := ?_) (a' := ?_) #[true, true, true, true, true, true, false, false, false, false, false, false, false] rfl rfl (by kernel_rfl) (fun _ _ _ h => h) (Or.inl ⟨by rfl, ?_⟩) hHeld ?_ ?_
      rotate_left
      · rintro w' ⟨s0, s1⟩
        go_simp
        with_reducible rfl
      rotate_left
      · simp only [Act.put, List.setIfInBounds_toArray, List.set_cons_zero, List.set_cons_succ, i64_w, i32_w]
        rfl
      refine pure_ (i := 6) (N := some 35) (v := ?_) (a' := ?_) #[true, true, true, true, true, true, true, false, false, false, false, false, false] rfl rfl (by kernel_rfl) (fun _ _ _ h => h) (Or.inl ⟨by rfl, ?_⟩) ?_ ?_
      rotate_left
      · intro w'
        go_simp
        with_reducible rfl
      rotate_left
      · simp only [Act.put, List.setIfInBounds_toArray, List.set_cons_zero, List.set_cons_succ, i64_w, i32_w]
        rfl
      refine pure_ (i := 7) (N := some 36) (v := ?_) (a' := ?_) #[true, true, true, true, true, true, true, true, false, false, false, false, false] rfl rfl (by kernel_rfl) (fun _ _ _ h => h) (Or.inl ⟨by rfl, ?_⟩) ?_ ?_
      rotate_left
      · intro w'
        go_simp
        with_reducible rfl
      rotate_left
      · simp only [Act.put, List.setIfInBounds_toArray, List.set_cons_zero, List.set_cons_succ, i64_w, i32_w]
        rfl
      refine take_ (i := 8) (N := some 37) (v := ?_) (a' := ?_) #[true, true, true, true, true, true, true, true, true, false, false, false, false] rfl rfl (by kernel_rfl) (fun _ _ _ h => h) (Or.inl ⟨by rfl, ?_⟩) hHeld ?_ ?_
      rotate_left
      · rintro w' ⟨s0, s1⟩
        go_simp
        with_reducible rfl
      rotate_left
      · simp only [Act.put, List.setIfInBounds_toArray, List.set_cons_zero, List.set_cons_succ, i64_w, i32_w]
        rfl
      refine one_ (i := 9) (N := some 38) #[true, true, true, true, true, true, true, true, true, true, false, false, false] rfl rfl (by kernel_rfl) (by decide) (fun K hK => ?_)
      refine goes_ Try.func63 (by kernel_rfl) rfl #[.slice A3 x.f3.length a3] (by rfl) rfl rfl (by simp only [List.map_toArray, List.map_cons, List.map_nil]; rfl) ?_
      with_reducible refine (HCLp.out).mono ?_
      rintro e1 wkp ⟨v1_, rfl, hR, hb'⟩
      refine ⟨_, rfl, ?_⟩
      obtain ⟨Zp, dp, rfl⟩ := Kd.R_slice hR
      have HNp := Aside0.mk (Kd.N_below (Kd.N_drew HNp0.out) hb')
      have HKp := Aside0.mk (Kd.FK_step HFKp.out (fun k _ hlt => hb'.block k hlt))
      have HCp := Aside0.mk (fun q u hu => (hb'.cell (World.block_lt_of_cell? _ _ (HCCp.out q u hu))).trans (HCCp.out q u hu))
      have HRp := Aside0.mk (show Kd.F (Kd.int .i64) wkp (fun k => ((k ≠ gd ∧ k ≠ gr) ∧ (P k ∨ w.heap.size ≤ k)) ∧ k ≠ g) Zp x.f3.length x.f3 from Kd.F_mono (Kd.R_F hR) (fun k hk => by have h1 : wr.heap.size ≤ k := hk; have h2 := HLTp.out; have h3 := HBp0.out.size; exact ⟨⟨⟨by omega, by omega⟩, Or.inr (by omega)⟩, by omega⟩))
      have HLNp := Aside0.mk (Kd.R_reads' hR).2.1
      have HBp := Aside0.mk (below_then (below_drew HBp0.out) (below_drew HBp0.out).size hb')
      have HDp := Aside0.mk ((hb'.block gd (blk_lt HDp0.out)).trans HDp0.out)
      have HGp := Aside0.mk ((hb'.block gr (blk_lt HGp0.out)).trans HGp0.out)
      refine hK.out _ _ ⟨(blk_cell HDp.out 3).trans rfl, HCp.out 3 _ HEp.out⟩ (fun hHeld => ?_)
      clear hK K
      refine norm_ (a' := ?_) ?_ ?_
      rotate_left
      · show Act.put _ (some 38) _ = _
        simp only [Act.put, List.setIfInBounds_toArray, List.set_cons_zero, List.set_cons_succ, i64_w, i32_w]
        rfl
      refine pure_ (i := 10) (N := some 39) (v := ?_) (a' := ?_) #[true, true, true, true, true, true, true, true, true, true, true, false, false] rfl rfl (by kernel_rfl) (fun _ _ _ h => h) (Or.inl ⟨by rfl, ?_⟩) ?_ ?_
      rotate_left
      · intro w'
        go_simp
        with_reducible rfl
      rotate_left
      · simp only [Act.put, List.setIfInBounds_toArray, List.set_cons_zero, List.set_cons_succ, i64_w, i32_w]
        rfl
      refine pure_ (i := 11) (N := some 40) (v := ?_) (a' := ?_) #[true, true, true, true, true, true, true, true, true, true, true, true, false] rfl rfl (by kernel_rfl) (fun _ _ _ h => h) (Or.inl ⟨by rfl, ?_⟩) ?_ ?_
      rotate_left
      · intro w'
        go_simp
        with_reducible rfl
      rotate_left
      · simp only [Act.put, List.setIfInBounds_toArray, List.set_cons_zero, List.set_cons_succ, i64_w, i32_w]
        rfl
      refine last_ (i := 12) (N := none) #[true, true, true, true, true, true, true, true, true, true, true, true, true] rfl rfl (by kernel_rfl) (by decide) (fun K hK => ?_)
      refine step_storeN k51 (g := g) (k := i) (j := 3) (xs := xs) (x' := x) (u := .slice Zp x.f3.length dp) (seg := [.slice Zp x.f3.length dp]) (c := cp) (okp := fun k => ((k ≠ gd ∧ k ≠ gr) ∧ (P k ∨ w.heap.size ≤ k)) ∧ k ≠ g) (by rfl) rfl rfl (by rfl) rfl (by rfl) rfl (by kernel_rfl) (by simp [Value.oneCell']) HNp.out hlt HCL_p.out HCp.out (by exact (show 3 + 1 ≤ 46 by omega)) (FK_set3 HKp.out HLNp.out HRp.out) (fun k hk => hk) ?_
      intro wlp hn2 hg2 hs2
      rw [HSE.out] at hn2
      have HNp1 := Aside0.mk hn2
      have HBp1 := Aside0.mk (Below.grown HBp.out hg2 HBp.out.size (fun k hk => by injection hk with hk; subst hk; exact HGE.out))
      have HDp1 := Aside0.mk (blk_grown HDp.out hg2 (fun e => by injection e with e; have := HGD.out; omega))
      have HGp1 := Aside0.mk (blk_grown HGp.out hg2 (fun e => by injection e with e; have := HGD.out; omega))
      have HSZp1 := Aside0.mk (show wkp.heap.size ≤ wlp.heap.size from Nat.le_of_eq hs2.symm)
      clear hn2 hg2 hs2
      refine hK.out _ _ ?_
      clear hK K
      refine done_ (by kernel_rfl) ?_
      obtain ⟨cq, hcl, hfk, hcc, hfz⟩ := N_elem HNp1.out z51 i hlt hix
      rw [← HX.out] at hfk
      obtain ⟨_, _, A4, a4, _, _, e4, C4⟩ := FK_slices hfk
      have HCLq := Aside0.mk (clone64 A4 a4 x.f4.f3 x.f4.f3.length rfl wlp.drew C4 hsx.2)
      have HFKq := Aside0.mk hfk
      have HCL_q := Aside0.mk hcl
      have HCCq := Aside0.mk (show ∀ q u, cq[q]? = some u → wlp.drew.cell? ⟨g, i * 46 + q, none⟩ = some u from hcc)
      have HEq := Aside0.mk e4
      have HNq0 := HNp1
      have HBq0 := HBp1
      have HDq0 := HDp1
      have HGq0 := HGp1
      have HLTq := Aside0.mk (show gd < wlp.heap.size ∧ gr < wlp.heap.size ∧ g < wlp.heap.size from ⟨blk_lt HDq0.out, blk_lt HGq0.out, Kd.N_lt HNq0.out g rfl⟩)
      clear hcl hfk hcc hfz e4 C4 HCLp HFKp HCL_p HCCp HEp HLTp HNp0 HBp0 HDp0 HGp0 HNp HBp HDp HGp HKp HCp HRp HLNp HSZp1 HNp1 HBp1 HDp1 HGp1
      go_wp2
      refine start_ (n := 15) (S := fun w' => w'.cell? ⟨gd, 3, none⟩ = some (.slice (some ⟨g, 0, none⟩) m cap) ∧ w'.cell? ⟨g, i * 46 + 45, none⟩ = some (.slice A4 x.f4.f3.length a4)) (ds := [14]) #[false, false, false, false, false, false, false, false, false, false, false, false, false, false, false] (by kernel_rfl) rfl rfl ⟨(blk_cell (w := wlp.drew) HDq0.out 3).trans rfl, HCCq.out 45 _ HEq.out⟩ (fun hHeld => ?_)
      refine pure_ (i := 0) (N := some 41) (v := ?_) (a' := ?_) #[true, false, false, false, false, false, false, false, false, false, false, false, false, false, false] rfl rfl (by kernel_rfl) (fun _ _ _ h => h) (Or.inl ⟨by rfl, ?_⟩) ?_ ?_
      rotate_left
      · intro w'
        go_simp
        with_reducible rfl
      rotate_left
      · simp only [Act.put, List.setIfInBounds_toArray, List.set_cons_zero, List.set_cons_succ, i64_w, i32_w]
        rfl
      refine pure_ (i := 2) (N := some 43) (v := ?_) (a' := ?_) #[true, false, true, false, false, false, false, false, false, false, false, false, false, false, false] rfl rfl (by kernel_rfl) (fun _ _ _ h => h) (Or.inl ⟨by rfl, ?_⟩) ?_ ?_
      rotate_left
      · intro w'
        go_simp
        with_reducible rfl
      rotate_left
      · simp only [Act.put, List.setIfInBounds_toArray, List.set_cons_zero, List.set_cons_succ, i64_w, i32_w]
        rfl
      refine pure_ (i := 3) (N := some 44) (v := ?_) (a' := ?_) #[true, false, true, true, false, false, false, false, false, false, false, false, false, false, false] rfl rfl (by kernel_rfl) (fun _ _ _ h => h) (Or.inl ⟨by rfl, ?_⟩) ?_ ?_
      rotate_left
      · intro w'
        go_simp
        with_reducible rfl
      rotate_left
      · simp only [Act.put, List.setIfInBounds_toArray, List.set_cons_zero, List.set_cons_succ, i64_w, i32_w]
        rfl
      refine pure_ (i := 5) (N := some 46) (v := ?_) (a' := ?_) #[true, false, true, true, false, true, false, false, false, false, false, false, false, false, false] rfl rfl (by kernel_rfl) (fun _ _ _ h => h) (Or.inl ⟨by rfl, ?_⟩) ?_ ?_
      rotate_left
      · intro w'
        go_simp
        with_reducible rfl
      rotate_left
      · simp only [Act.put, List.setIfInBounds_toArray, List.set_cons_zero, List.set_cons_succ, i64_w, i32_w]
        rfl
      refine take_ (i := 1) (N := some 42) (v := ?_) (a' := ?_) #[true, true, true, true, false, true, false, false, false, false, false, false, false, false, false] rfl rfl (by kernel_rfl) (fun _ _ _ h => h) (Or.inl ⟨by rfl, ?_⟩) hHeld ?_ ?_
      rotate_left
      · rintro w' ⟨s0, s1⟩
        go_simp
        with_reducible rfl
      rotate_left
      · simp only [Act.put, List.setIfInBounds_toArray, List.set_cons_zero, List.set_cons_succ, i64_w, i32_w]
        rfl
      refine take_ (i := 4) (N := some 45) (v := ?_) (a' := ?_) #[true, true, true, true, true, true, false, false, false, false, false, false, false, false, false] rfl rfl (by kernel_rfl) (fun _ _ _ h => h) (Or.inl ⟨by rfl, ?_⟩) hHeld ?_ ?_
      rotate_left
      · rintro w' ⟨s0, s1⟩
        go_simp
        with_reducible rfl
      rotate_left
      · simp only [Act.put, List.setIfInBounds_toArray, List.set_cons_zero, List.set_cons_succ, i64_w, i32_w]
        rfl
      refine pure_ (i := 6) (N := some 47) (v := ?_) (a' := ?_) #[true, true, true, true, true, true, true, false, false, false, false, false, false, false, false] rfl rfl (by kernel_rfl) (fun _ _ _ h => h) (Or.inl ⟨by rfl, ?_⟩) ?_ ?_
      rotate_left
      · intro w'
        go_simp
        with_reducible rfl
      rotate_left
      · simp only [Act.put, List.setIfInBounds_toArray, List.set_cons_zero, List.set_cons_succ, i64_w, i32_w]
        rfl
      refine pure_ (i := 7) (N := some 48) (v := ?_) (a' := ?_) #[true, true, true, true, true, true, true, true, false, false, false, false, false, false, false] rfl rfl (by kernel_rfl) (fun _ _ _ h => h) (Or.inl ⟨by rfl, ?_⟩) ?_ ?_
      rotate_left
      · intro w'
        go_simp
        with_reducible rfl
      rotate_left
      · simp only [Act.put, List.setIfInBounds_toArray, List.set_cons_zero, List.set_cons_succ, i64_w, i32_w]
        rfl
      refine pure_ (i := 8) (N := some 49) (v := ?_) (a' := ?_) #[true, true, true, true, true, true, true, true, true, false, false, false, false, false, false] rfl rfl (by kernel_rfl) (fun _ _ _ h => h) (Or.inl ⟨by rfl, ?_⟩) ?_ ?_
      rotate_left
      · intro w'
        go_simp
        with_reducible rfl
      rotate_left
      · simp only [Act.put, List.setIfInBounds_toArray, List.set_cons_zero, List.set_cons_succ, i64_w, i32_w]
        rfl
      refine take_ (i := 9) (N := some 50) (v := ?_) (a' := ?_) #[true, true, true, true, true, true, true, true, true, true, false, false, false, false, false] rfl rfl (by kernel_rfl) (fun _ _ _ h => h) (Or.inl ⟨by rfl, ?_⟩) hHeld ?_ ?_
      rotate_left
      · rintro w' ⟨s0, s1⟩
        go_simp
        with_reducible rfl
      rotate_left
      · simp only [Act.put, List.setIfInBounds_toArray, List.set_cons_zero, List.set_cons_succ, i64_w, i32_w]
        rfl
      refine one_ (i := 10) (N := some 51) #[true, true, true, true, true, true, true, true, true, true, true, false, false, false, false] rfl rfl (by kernel_rfl) (by decide) (fun K hK => ?_)
      refine goes_ Try.func64 (by kernel_rfl) rfl #[.slice A4 x.f4.f3.length a4] (by rfl) rfl rfl (by simp only [List.map_toArray, List.map_cons, List.map_nil]; rfl) ?_
      with_reducible refine (HCLq.out).mono ?_
      rintro e1 wkq ⟨v1_, rfl, hR, hb'⟩
      refine ⟨_, rfl, ?_⟩
      obtain ⟨Zq, dq, rfl⟩ := Kd.R_slice hR
      have HNq := Aside0.mk (Kd.N_below (Kd.N_drew HNq0.out) hb')
      have HKq := Aside0.mk (Kd.FK_step HFKq.out (fun k _ hlt => hb'.block k hlt))
      have HCq := Aside0.mk (fun q u hu => (hb'.cell (World.block_lt_of_cell? _ _ (HCCq.out q u hu))).trans (HCCq.out q u hu))
      have HRq := Aside0.mk (show Kd.F k64 wkq (fun k => ((k ≠ gd ∧ k ≠ gr) ∧ (P k ∨ w.heap.size ≤ k)) ∧ k ≠ g) Zq x.f4.f3.length x.f4.f3 from Kd.F_mono (Kd.R_F hR) (fun k hk => by have h1 : wlp.heap.size ≤ k := hk; have h2 := HLTq.out; have h3 := HBq0.out.size; exact ⟨⟨⟨by omega, by omega⟩, Or.inr (by omega)⟩, by omega⟩))
      have HLNq := Aside0.mk (Kd.R_reads' hR).2.1
      have HBq := Aside0.mk (below_then (below_drew HBq0.out) (below_drew HBq0.out).size hb')
      have HDq := Aside0.mk ((hb'.block gd (blk_lt HDq0.out)).trans HDq0.out)
      have HGq := Aside0.mk ((hb'.block gr (blk_lt HGq0.out)).trans HGq0.out)
      refine hK.out _ _ ⟨(blk_cell HDq.out 3).trans rfl, HCq.out 45 _ HEq.out⟩ (fun hHeld => ?_)
      clear hK K
      refine norm_ (a' := ?_) ?_ ?_
      rotate_left
      · show Act.put _ (some 51) _ = _
        simp only [Act.put, List.setIfInBounds_toArray, List.set_cons_zero, List.set_cons_succ, i64_w, i32_w]
        rfl
      refine pure_ (i := 11) (N := some 52) (v := ?_) (a' := ?_) #[true, true, true, true, true, true, true, true, true, true, true, true, false, false, false] rfl rfl (by kernel_rfl) (fun _ _ _ h => h) (Or.inl ⟨by rfl, ?_⟩) ?_ ?_
      rotate_left
      · intro w'
        go_simp
        with_reducible rfl
      rotate_left
      · simp only [Act.put, List.setIfInBounds_toArray, List.set_cons_zero, List.set_cons_succ, i64_w, i32_w]
        rfl
      refine pure_ (i := 12) (N := some 53) (v := ?_) (a' := ?_) #[true, true, true, true, true, true, true, true, true, true, true, true, true, false, false] rfl rfl (by kernel_rfl) (fun _ _ _ h => h) (Or.inl ⟨by rfl, ?_⟩) ?_ ?_
      rotate_left
      · intro w'
        go_simp
        with_reducible rfl
      rotate_left
      · simp only [Act.put, List.setIfInBounds_toArray, List.set_cons_zero, List.set_cons_succ, i64_w, i32_w]
        rfl
      refine pure_ (i := 13) (N := some 54) (v := ?_) (a' := ?_) #[true, true, true, true, true, true, true, true, true, true, true, true, true, true, false] rfl rfl (by kernel_rfl) (fun _ _ _ h => h) (Or.inl ⟨by rfl, ?_⟩) ?_ ?_
      rotate_left
      · intro w'
        go_simp
        with_reducible rfl
      rotate_left
      · simp only [Act.put, List.setIfInBounds_toArray, List.set_cons_zero, List.set_cons_succ, i64_w, i32_w]
        rfl
      refine last_ (i := 14) (N := none) #[true, true, true, true, true, true, true, true, true, true, true, true, true, true, true] rfl rfl (by kernel_rfl) (by decide) (fun K hK => ?_)
      refine step_storeN k51 (g := g) (k := i) (j := 45) (xs := xs) (x' := x) (u := .slice Zq x.f4.f3.length dq) (seg := [.slice Zq x.f4.f3.length dq]) (c := cq) (okp := fun k => ((k ≠ gd ∧ k ≠ gr) ∧ (P k ∨ w.heap.size ≤ k)) ∧ k ≠ g) (by rfl) rfl rfl (by rfl) rfl (by rfl) rfl (by kernel_rfl) (by simp [Value.oneCell']) HNq.out hlt HCL_q.out HCq.out (by exact (show 45 + 1 ≤ 46 by omega)) (FK_set45 HKq.out HLNq.out HRq.out) (fun k hk => hk) ?_
      intro wlq hn2 hg2 hs2
      rw [HSE.out] at hn2
      have HNq1 := Aside0.mk hn2
      have HBq1 := Aside0.mk (Below.grown HBq.out hg2 HBq.out.size (fun k hk => by injection hk with hk; subst hk; exact HGE.out))
      have HDq1 := Aside0.mk (blk_grown HDq.out hg2 (fun e => by injection e with e; have := HGD.out; omega))
      have HGq1 := Aside0.mk (blk_grown HGq.out hg2 (fun e => by injection e with e; have := HGD.out; omega))
      have HSZq1 := Aside0.mk (show wkq.heap.size ≤ wlq.heap.size from Nat.le_of_eq hs2.symm)
      clear hn2 hg2 hs2
      refine hK.out _ _ ?_
      clear hK K
      refine done_ (by kernel_rfl) ?_
      go_wp2
      subst hcap
      go_roundg (m - (i + 1))
      case measure => omega
      case rel => exact ⟨i + 1, by omega, by omega, by go_num, HNq1, HBq1, HDq1, HGq1⟩
    · obtain rfl : i = m := by omega
      have hd : decide ((i : Int) < (i : Int)) = false := decide_eq_false (by omega)
      have BW := HBp0
      have BR := HGp0
      have z0 := (blk_cell HDp0.out 0).trans rfl
      have z1 := (blk_cell HDp0.out 1).trans rfl
      have z2 := (blk_cell HDp0.out 2).trans rfl
      have z3 := (blk_cell HDp0.out 3).trans rfl
      go_wp2_with (first | ((with_reducible refine gate_ (.store 36 (.tmp 4) (.tmp 56)) rfl ?_); refine ev_store (g := gr) (t := 36) (old := #[.string (⟨#[]⟩ : ByteArray), .int .i64 0, .bool false, .slice none 0 0]) (cells := #[.string a0_0, .int .i64 a0_1, .bool a0_2, .slice A1 i c1]) rfl rfl rfl rfl BR.out rfl (by kernel_rfl) (by simp [Value.oneCell']) ?_; intro w5 hb2 hg2 hs2; have HG5 := Aside0.mk hg2; replace BW := Aside0.mk (Below.grown BW.out hg2 BW.out.size (fun k hk => by injection hk with hk; subst hk; exact GR.out)); replace BR := Aside0.mk hb2; clear hb2 hg2 hs2))
      refine bodyPost_ret (results_ct rfl _ _ gr 36 #[.string a0_0, .int .i64 a0_1, .bool a0_2, .slice A1 i c1] (0, 0) _ rfl BR.out Try.underlying36 rfl (by kernel_rfl)) rfl ?_
      exact ⟨_, rfl, Kd.V_mono (Kd.N_V (Kd.N_grown HNp0.out HG5.out (fun k hk e => hk.1.2 (by injection e)))) (fun _ hk => hk.2), BW.out⟩
theorem tier_Prefix.calls (a0_0 : ByteArray) (a0_1 : Int) (a0_2 : Bool) (P0_3_ : Nat → Prop) (A0_3 : Option Addr) (c0_3 : Nat) (l0_3 : List (S51)) (a1 : Int) (r1 : ByteArray) (r2 : Int) (r3 : Bool) (r4 : List (S51)) (r5 : Int) (w : World) (hs0_3 : Kd.V k51 51 w w.heap.size (fun k_ => P0_3_ k_) (.slice A0_3 l0_3.length c0_3) l0_3) (h : tier_Prefix.f a0_0 a0_1 a0_2 l0_3 a1 = some (r1, r2, r3, r4, r5)) :
    Calls Try.prog 29 #[.agg #[.string a0_0, .int .i64 a0_1, .bool a0_2, .slice A0_3 l0_3.length c0_3], .int .i64 a1] w fun e w' => ∃ v3_ : Value, e = .returned (.tuple #[.agg #[.string r1, .int .i64 r2, .bool r3, v3_], .int .i64 r5]) ∧ Kd.V k51 51 w' w.heap.size (fun k_ => (P0_3_ k_ ∨ w.heap.size ≤ k_)) v3_ r4 ∧ Below w.heap.size w w' := by
  unfold tier_Prefix.f at h
  by_cases h1 : a1 < 0
  · rw [if_pos h1] at h
    simp only [Option.some.injEq, Prod.mk.injEq] at h
    obtain ⟨rfl, rfl, rfl, rfl, rfl⟩ := h
    refine (prefix_err a0_0 a0_1 a0_2 A0_3 c0_3 l0_3.length a1 w (Or.inl h1)).mono ?_
    rintro e w' ⟨rfl, hb⟩
    exact ⟨_, rfl, Kd.V_nil _ _ _ _ _, hb⟩
  · rw [if_neg h1] at h
    by_cases h2 : a1 > (l0_3.length : Int)
    · rw [if_pos h2] at h
      simp only [Option.some.injEq, Prod.mk.injEq] at h
      obtain ⟨rfl, rfl, rfl, rfl, rfl⟩ := h
      refine (prefix_err a0_0 a0_1 a0_2 A0_3 c0_3 l0_3.length a1 w (Or.inr h2)).mono ?_
      rintro e w' ⟨rfl, hb⟩
      exact ⟨_, rfl, Kd.V_nil _ _ _ _ _, hb⟩
    · rw [if_neg h2] at h
      by_cases h3 : l0_3.length ≤ 1000 ∧ l0_3.all small51 = true
      · rw [if_pos h3] at h
        simp only [Option.some.injEq, Prod.mk.injEq] at h
        obtain ⟨rfl, rfl, rfl, rfl, rfl⟩ := h
        obtain ⟨m, rfl⟩ : ∃ m : Nat, a1 = (m : Int) := ⟨a1.toNat, by omega⟩
        rw [Int.toNat_natCast]
        exact prefix_ok a0_0 a0_1 a0_2 A0_3 c0_3 l0_3.length l0_3 m rfl (by omega) h3.2 h3.1 (Kd.V_at hs0_3).2.1 P0_3_ w (Kd.V_at hs0_3).2.2
      · rw [if_neg h3] at h; cases h
end Go.Proofs.Ytncemdpmooakgaa.XK
