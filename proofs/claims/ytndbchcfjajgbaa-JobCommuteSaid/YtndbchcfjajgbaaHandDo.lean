/- parcel.Do, walked. -/
import Derived.Test.YtndbchcfjajgbaaXB
import Derived.Test.YtndbchcfjajgbaaHandIns
import Derived.Test.YtndbchcfjajgbaaHandBs
import Derived.Lib.SliceRun
namespace Go.Proofs.Ytndbchcfjajgbaa.XP
open Go.Proofs.Ytndbchcfjajgbaa.XB Go.Proofs.Ytndbchcfjajgbaa.XQ
open Go.RowKit Go.Proofs Go.Proofs.YtndbchcfjajgbaaW.PrintWords Go.Proofs.YtndbchcfjajgbaaW.PrintLast Go.Proofs.Ytndbchcfjajgbaa.XH
set_option linter.unusedVariables false
set_option linter.unusedSimpArgs false
set_option maxHeartbeats 4000000 in
set_option maxRecDepth 100000 in
theorem clone61 (A : Option Addr) (c : Nat) (xs : List S24) (w : World) (hr : Kd.C k24 w A xs.length xs) (hc : xs.length ≤ c) (hn : xs.length ≤ 1000) :
    Calls Try.prog 61 #[.slice A xs.length c] w fun e w' => ∃ v', e = .returned v' ∧ Kd.R k24 24 w' w.heap.size (fun _ => True) v' xs ∧ Below w.heap.size w w' := by
  obtain ⟨n, hnn⟩ : ∃ n, n = xs.length := ⟨_, rfl⟩
  rw [← hnn] at hr hc hn ⊢
  cases A with
  | none =>
    have h0 : n = 0 := by
      rcases Nat.eq_zero_or_pos n with h | h
      · exact h
      · obtain ⟨ad, e, _⟩ := hr.2.2 h; cases e
    subst h0
    have hx : xs = [] := List.eq_nil_of_length_eq_zero hnn.symm
    subst hx
    clear hr hnn
    have heq : ∀ w : World, (binOp .eql 22 (.slice none 0 c) (.slice none 0 0)).run Try.prog w = .ok (.bool true) w := fun w => Lib.run_eql_slice_nil w 22 24 none 0 c 0 0 Try.underlying22
    go_enter Try.func61, Try.ntmps61
    go_wp2_with (simp only [heq])
    go_ret
    exact ⟨_, rfl, Kd.R_nil _ _ _ _ _, by repeat (first | exact Below.refl _ _ | apply below_alloc | apply pw_below_drewN | apply below_drew1)⟩
  | some ad =>
    have HR := Aside0.mk hr
    have HN := Aside0.mk hnn
    clear hr hnn
    have heq : ∀ w : World, (binOp .eql 22 (.slice (some ad) n c) (.slice none 0 0)).run Try.prog w = .ok (.bool false) w := fun w => Lib.run_eql_slice_nil w 22 24 (some ad) n c 0 0 Try.underlying22
    go_enter Try.func61, Try.ntmps61
    go_wp2_with (first | (simp only [heq]) | ((with_reducible refine gate_dst (N := 5) rfl ?_); refine Kd.R_lit k24 (w0 := w) w.heap.size 24 rfl (N := 5) rfl (xs := ([] : List S24)) (inner := []) (ok := fun _ => True) (okp := fun _ => False) ?hr (by exact Reps.none _ _) (fun _ hk => hk.elim) trivial (Below.refl _ _) (Nat.le_refl _) (by simp) ?_; (case hr => first | (go_simp; done) | (go_simp; rfl)); intro v1 w1 hR hb _ _; have HR1 := Aside0.mk hR; have HB1 := Aside0.mk hb; clear hR hb) | (at_builtin; refine Kd.R_append_rows k24 (w0 := w) w.heap.size rfl (.tmp 5) (.tmp 6) 22 24 z24v 48 rfl Try.underlying22 info24 rfl (by decide) (by omega) _ [] xs (some ad) n c (fun _ => True) (fun _ => False) rfl rfl HR1.out (Kd.C_below HR.out HB1.out) (fun x cs hx => by rw [k24_open hx]; exact k24_mkM _ _ _ x) (fun _ hk => hk.elim) (fun k hk => trivial) HB1.out HB1.out.size (by simp; omega) ?_; intro v2 w2 ho2 hb2 _ _))
    go_ret
    exact ⟨v2, rfl, ho2, hb2⟩
theorem ins101 (p : S24) (xs : List S24) (w : World) (base vb i : Nat) (v : Value) (hvb : w.heap[vb]? = some (.cells (pcs p).toArray 24 (0, 0))) (HO : Kd.R k24 24 w base (fun k => k ≠ vb) v xs) (hbase : base ≤ w.heap.size) (hi : i ≤ xs.length) (hn : xs.length ≤ 1000) :
    Calls Try.prog 101 #[v, .int .i64 (i : Nat), .slice (some ⟨vb, 0, none⟩) 1 1] w fun e w' => ∃ v', e = .returned v' ∧ Kd.R k24 24 w' base (fun _ => True) v' (xs.take i ++ p :: xs.drop i) ∧ Below base w w' ∧ w.grownBy w' v.ownBlock := by
  rcases Nat.lt_or_ge i xs.length with h | h
  · rcases R24_open HO with ⟨_, hx⟩ | ⟨g, cap, cur, rfl, hb, hok, hg, hc, hm, hs, ht⟩
    · subst hx; simp at h
    · have hg1 := blk_lt hg
      rcases Nat.lt_or_ge cap (xs.length + 1) with hr | hr
      · refine (ins_grow p xs w g cap vb i cur hvb hg h hn hc hr hs ht).mono ?_
        rintro e w' ⟨cur', gc, rfl, hB, hg', h1, h2, h3, h4⟩
        have hl : xs.length + 1 = (xs.take i ++ p :: xs.drop i).length := by simp only [List.length_append, List.length_take, List.length_cons, List.length_drop]; omega
        exact ⟨_, rfl, R24_mk hl hbase trivial hg' (by rw [← hl]; exact h1) h2 h3 (by rw [← hl]; exact h4), hB.mono hbase, ⟨hB.os, hB.tape, hB.output, hB.size, fun k hk _ => hB.block k hk⟩⟩
      · refine (ins_shift p xs w g cap vb i cur hvb hg (fun e => hok e.symm) h hn hr hm hs ht).mono ?_
        rintro e w' ⟨cur', rfl, rfl, h3, h4⟩
        have hl : xs.length + 1 = (xs.take i ++ p :: xs.drop i).length := by simp only [List.length_append, List.length_take, List.length_cons, List.length_drop]; omega
        exact ⟨_, rfl, R24_mk hl hb trivial (setRow_heap w.drew g _ _ 24 _ (by exact hg)) (by rw [← hl]; exact hr) hm h3 (by rw [← hl]; exact h4), (below_drew (Below.refl base w)).trans ⟨rfl, rfl, rfl, t_89, fun k hk => setRow_other w.drew g k _ (by omega)⟩, ⟨rfl, rfl, rfl, t_89, fun k hk hne => setRow_other w.drew g k _ (fun e => hne (by rw [e]; rfl))⟩⟩
  · obtain rfl : i = xs.length := by omega
    rw [List.take_of_length_le (Nat.le_refl _), List.drop_of_length_le (Nat.le_refl _)]
    exact ins_end p xs w base vb v hvb HO hbase hn
/-- put's answer. -/
def putR (p : S24) (xs : List S24) (i0 : Nat) : List S24 × Int := if (decide (i0 < xs.length) && cmpB (rd_T24 xs i0).f0 p.f0 == 0) = true then ([], 6) else if xs.length ≥ 100 then ([], 3) else (xs.take i0 ++ p :: xs.drop i0, 0)
set_option maxHeartbeats 4000000 in
set_option maxRecDepth 100000 in
theorem put62 (p : S24) (xs : List S24) (w : World) (base : Nat) (v : Value) (HO : Kd.R k24 24 w base (fun _ => True) v xs) (hbase : base ≤ w.heap.size) (hn : xs.length ≤ 1000) (i0 : Nat) (h0 : i0 ≤ xs.length)
    (h1 : ∀ k : Nat, k < i0 → cmpB (rd_T24 xs k).f0 p.f0 < 0) (h2 : ∀ k : Nat, i0 ≤ k → k < xs.length → ¬ cmpB (rd_T24 xs k).f0 p.f0 < 0) :
    Calls Try.prog 62 #[v, .agg #[.string p.f0, .string p.f1, .int .i64 p.f2, .int .i64 p.f3]] w fun e w' => ∃ v', e = .returned (.tuple #[v', .int .i64 (putR p xs i0).2]) ∧ Kd.R k24 24 w' base (fun _ => True) v' (putR p xs i0).1 ∧ Below base w w' ∧ w.grownBy w' v.ownBlock := by
  obtain ⟨A, c, rfl, hc, hC⟩ := Kd.R_reads HO
  have HF := Aside0.mk (fun (w1 : World) (hb : Below w.heap.size w w1) => find63 p.f0 A c xs w1 (Kd.C_below hC hb) hn i0 h0 h1 h2)
  have HI := Aside0.mk (fun (w1 : World) (vb : Nat) (hvb : w1.heap[vb]? = some (.cells (pcs p).toArray 24 (0, 0))) (hR : Kd.R k24 24 w1 base (fun k => k ≠ vb) (.slice A xs.length c) xs) (hb : base ≤ w1.heap.size) => ins101 p xs w1 base vb i0 _ hvb hR hb h0 hn)
  have HO' := Aside0.mk HO
  have HB := Aside0.mk hbase
  unfold putR
  obtain ⟨b, hb⟩ : ∃ b, b = (decide (i0 < xs.length) && cmpB (rd_T24 xs i0).f0 p.f0 == 0) := ⟨_, rfl⟩
  rw [← hb] at HF ⊢
  obtain ⟨n, hnn⟩ : ∃ n, n = xs.length := ⟨_, rfl⟩
  rw [← hnn] at HF HI HO' ⊢
  clear HO hbase hn h0 h1 h2 hb hC hnn
  cases b with
  | true =>
    rw [if_pos rfl]
    go_enter Try.func62, Try.ntmps62
    go_wp2_with (first | ((with_reducible refine gate_dst (N := 3) rfl ?_); refine bx_ (N := 3) (cs := (pcs p).toArray) (t := 24) ?_; intro gb hgb w1 hbox hb1; have BW0 := Aside0.mk hb1; have k0 := (blk_cell hbox 0).trans (show (pcs p).toArray[0]? = some (.string p.f0) from rfl); clear hgb hbox hb1) | (go_at_call 63; refine (HF.out _ BW0.out).mono ?_; rintro e w' ⟨rfl, hb'⟩; have BW1 := Aside0.mk (below_then BW0.out BW0.out.size hb'); clear hb'))
    go_ret2
    exact ⟨_, rfl, Kd.R_nil _ _ _ _ _, BW1.out.mono HB.out, ⟨BW1.out.os, BW1.out.tape, BW1.out.output, BW1.out.size, fun k hk _ => BW1.out.block k hk⟩⟩
  | false =>
    rw [if_neg (by decide)]
    by_cases h100 : n ≥ 100
    · rw [if_pos h100]
      have h1b : decide (100 ≤ (n : Int)) = true := decide_eq_true (by omega)
      go_enter Try.func62, Try.ntmps62
      go_wp2_with (first | ((with_reducible refine gate_dst (N := 3) rfl ?_); refine bx_ (N := 3) (cs := (pcs p).toArray) (t := 24) ?_; intro gb hgb w1 hbox hb1; have BW0 := Aside0.mk hb1; have k0 := (blk_cell hbox 0).trans (show (pcs p).toArray[0]? = some (.string p.f0) from rfl); clear hgb hbox hb1) | (go_at_call 63; refine (HF.out _ BW0.out).mono ?_; rintro e w' ⟨rfl, hb'⟩; have BW1 := Aside0.mk (below_then BW0.out BW0.out.size hb'); clear hb'))
      go_ret2
      exact ⟨_, rfl, Kd.R_nil _ _ _ _ _, BW1.out.mono HB.out, ⟨BW1.out.os, BW1.out.tape, BW1.out.output, BW1.out.size, fun k hk _ => BW1.out.block k hk⟩⟩
    · rw [if_neg h100]
      have h1b : decide (100 ≤ (n : Int)) = false := decide_eq_false (by omega)
      go_enter Try.func62, Try.ntmps62
      go_wp2_with (first | ((with_reducible refine gate_dst (N := 3) rfl ?_); refine bx_ (N := 3) (cs := (pcs p).toArray) (t := 24) ?_; intro gb hgb w1 hbox hb1; have BW0 := Aside0.mk hb1; have BK := Aside0.mk hbox; have k0 := (blk_cell hbox 0).trans (show (pcs p).toArray[0]? = some (.string p.f0) from rfl); clear hgb hbox hb1) | (go_at_call 63; refine (HF.out _ BW0.out).mono ?_; rintro e w' ⟨rfl, hb'⟩; have BW1 := Aside0.mk (below_then BW0.out BW0.out.size hb'); have BK1 := (hb'.block _ (blk_lt BK.out)).trans BK.out; have y0 := (blk_cell BK1 0).trans (show (pcs p).toArray[0]? = some (.string p.f0) from rfl); have y1 := (blk_cell BK1 1).trans (show (pcs p).toArray[1]? = some (.string p.f1) from rfl); have y2 := (blk_cell BK1 2).trans (show (pcs p).toArray[2]? = some (.int .i64 p.f2) from rfl); have y3 := (blk_cell BK1 3).trans (show (pcs p).toArray[3]? = some (.int .i64 p.f3) from rfl); clear hb' BK1) | (go_at_call 101; refine (HI.out _ _ (blk_new _ _) (Kd.R_alloc (Kd.R_mono (Kd.R_elderB (Kd.R_below HO'.out BW1.out) _ (Nat.le_refl _)) (fun k hk => hk.2)) _) (Nat.le_trans HB.out (Nat.le_trans BW1.out.size (below_alloc (Below.refl _ _) _).size))).mono ?_; rintro e w'' ⟨v', rfl, hR, hB2, hG2⟩; have HBA := below_alloc BW1.out (.cells (pcs p).toArray 24 (0, 0)); have HFIN := Aside0.mk (⟨hR, (Below.mono HBA HB.out).trans hB2, ⟨hG2.os.trans HBA.os, hG2.tape.trans HBA.tape, hG2.output.trans HBA.output, Nat.le_trans HBA.size hG2.size, fun k hk hne => (hG2.block k (Nat.lt_of_lt_of_le hk HBA.size) hne).trans (HBA.block k hk)⟩⟩ : Kd.R k24 24 w'' base (fun _ => True) v' (List.take i0 xs ++ p :: List.drop i0 xs) ∧ Below base w w'' ∧ w.grownBy w'' (Value.slice A n c).ownBlock); clear hR hB2 hG2 HBA))
      go_ret2
      exact ⟨_, rfl, HFIN.out.1, HFIN.out.2.1, HFIN.out.2.2⟩
set_option maxHeartbeats 4000000 in
set_option maxRecDepth 100000 in
theorem leave64 (xs : List S24) (w : World) (base g cap k : Nat) (ca : Array Value) (HO : Kd.R k24 24 w base (fun _ => True) (.slice (some ⟨g, 0, none⟩) xs.length cap) xs) (hbase : base ≤ w.heap.size) (hk : k < xs.length) (hn : xs.length ≤ 1000) :
    Calls Try.prog 64 #[.slice (some ⟨g, 0, none⟩) xs.length cap, .int .i64 k, .agg ca] w fun e w' => ∃ v', e = .returned (.tuple #[v', .int .i64 0]) ∧ Kd.R k24 24 w' base (fun _ => True) v' (xs.eraseIdx k) ∧ Below base w w' := by
  have HD := Aside0.mk (fun (w1 : World) (hb : Below w.heap.size w w1) => del105 xs w1 base g cap k (fun _ => True) (Kd.R_below HO hb) (Nat.le_trans hbase hb.size) hk hn)
  have HB := Aside0.mk hbase
  obtain ⟨n, hnn⟩ : ∃ n, n = xs.length := ⟨_, rfl⟩
  rw [← hnn] at HD hk hn ⊢
  clear HO hbase hnn
  have hw1 : IntKind.i64.wrap ((k : Int) + 1) = (k : Int) + 1 := by rw [IntKind.wrap_i64]; omega
  go_enter Try.func64, Try.ntmps64
  go_wp2_with (first | ((with_reducible refine gate_dst (N := 5) rfl ?_); refine bx_ (N := 5) (cs := ca) (t := 34) ?_; intro gb hgb w1 hbox hb1; have BW0 := Aside0.mk hb1; clear hgb hbox hb1) | (go_at_call 105; refine (HD.out _ BW0.out).mono ?_; rintro e w' ⟨rfl, hR, hb'⟩; have HFIN := Aside0.mk (⟨hR, (Below.mono BW0.out HB.out).trans hb'⟩ : Kd.R k24 24 w' base (fun _ => True) (.slice (some ⟨g, 0, none⟩) (n - 1) cap) (xs.eraseIdx k) ∧ Below base w w'); clear hR hb'))
  go_ret2
  exact ⟨_, rfl, HFIN.out.1, HFIN.out.2⟩
/-- lose's answer: the weight of the piece at k is x less. -/
def loseR (xs : List S24) (k : Nat) (x : Int) : List S24 × Int := if x < 1 ∨ x ≥ (rd_T24 xs k).f2 then ([], 2) else (xs.set k ⟨(rd_T24 xs k).f0, (rd_T24 xs k).f1, (rd_T24 xs k).f2 - x, (rd_T24 xs k).f3⟩, 0)
theorem elem24 {W : World} {base g n cap : Nat} {ok : Nat → Prop} {xs : List S24} (h : Kd.R k24 24 W base ok (.slice (some ⟨g, 0, none⟩) n cap) xs) (k : Nat) (hk : k < n) :
    W.cell? ⟨g, k * 4, none⟩ = some (.string (rd_T24 xs k).f0) ∧ W.cell? ⟨g, k * 4 + 1, none⟩ = some (.string (rd_T24 xs k).f1) ∧ W.cell? ⟨g, k * 4 + 2, none⟩ = some (.int .i64 (rd_T24 xs k).f2) ∧ W.cell? ⟨g, k * 4 + 3, none⟩ = some (.int .i64 (rd_T24 xs k).f3) ∧ ∀ j, W.frozen? ⟨g, k * 4 + j, none⟩ = false := by
  obtain ⟨c, _, hM, hc, hf⟩ := Kd.R_elem h z24 (k : Int) (by omega) (by omega)
  have hq := k24_openM hM
  subst hq
  simp only [Int.toNat_natCast, show k24.sz = 4 from rfl] at hc hf
  exact ⟨hc 0 _ rfl, hc 1 _ rfl, hc 2 _ rfl, hc 3 _ rfl, hf⟩
theorem set24_2 {W : World} {base g n cap : Nat} {xs : List S24} (h : Kd.R k24 24 W base (fun _ => True) (.slice (some ⟨g, 0, none⟩) n cap) xs) (k : Nat) (hk : k < n) (z : Int) :
    Kd.R k24 24 (W.setCell ⟨g, k * 4 + 2, none⟩ (.int .i64 z)) base (fun _ => True) (.slice (some ⟨g, 0, none⟩) n cap) (xs.set k ⟨(rd_T24 xs k).f0, (rd_T24 xs k).f1, z, (rd_T24 xs k).f3⟩) := by
  obtain ⟨c, hcl, hM, hc, hf⟩ := Kd.R_elem h z24 (k : Int) (by omega) (by omega)
  have hq := k24_openM hM
  subst hq
  have := (Kd.R_seg (okp := fun _ => False) h (k : Int) (by omega) (by omega) (seg := [.int .i64 z]) (j := 2) hcl hc (by show 2 + 1 ≤ 4; omega) (x' := ⟨(rd_T24 xs k).f0, (rd_T24 xs k).f1, z, (rd_T24 xs k).f3⟩) (k24_mkM _ _ _ _) (fun _ h => h.elim)).1
  simpa [World.setCells, show k24.sz = 4 from rfl] using this
theorem set24_3 {W : World} {base g n cap : Nat} {xs : List S24} (h : Kd.R k24 24 W base (fun _ => True) (.slice (some ⟨g, 0, none⟩) n cap) xs) (k : Nat) (hk : k < n) (z : Int) :
    Kd.R k24 24 (W.setCell ⟨g, k * 4 + 3, none⟩ (.int .i64 z)) base (fun _ => True) (.slice (some ⟨g, 0, none⟩) n cap) (xs.set k ⟨(rd_T24 xs k).f0, (rd_T24 xs k).f1, (rd_T24 xs k).f2, z⟩) := by
  obtain ⟨c, hcl, hM, hc, hf⟩ := Kd.R_elem h z24 (k : Int) (by omega) (by omega)
  have hq := k24_openM hM
  subst hq
  have := (Kd.R_seg (okp := fun _ => False) h (k : Int) (by omega) (by omega) (seg := [.int .i64 z]) (j := 3) hcl hc (by show 3 + 1 ≤ 4; omega) (x' := ⟨(rd_T24 xs k).f0, (rd_T24 xs k).f1, (rd_T24 xs k).f2, z⟩) (k24_mkM _ _ _ _) (fun _ h => h.elim)).1
  simpa [World.setCells, show k24.sz = 4 from rfl] using this
theorem set24_23 {W : World} {base g n cap : Nat} {xs : List S24} (h : Kd.R k24 24 W base (fun _ => True) (.slice (some ⟨g, 0, none⟩) n cap) xs) (k : Nat) (hk : k < n) (q : S24) (hq : q = rd_T24 xs k) (y z : Int) :
    Kd.R k24 24 ((W.setCell ⟨g, k * 4 + 2, none⟩ (.int .i64 y)).setCell ⟨g, k * 4 + 3, none⟩ (.int .i64 z)) base (fun _ => True) (.slice (some ⟨g, 0, none⟩) n cap) (xs.set k ⟨q.f0, q.f1, y, z⟩) := by
  subst hq
  have hl : n = xs.length := (Kd.R_reads' h).1
  have h1 := set24_3 (set24_2 h k hk y) k hk z
  have hr : rd_T24 (xs.set k ⟨(rd_T24 xs k).f0, (rd_T24 xs k).f1, y, (rd_T24 xs k).f3⟩) k = ⟨(rd_T24 xs k).f0, (rd_T24 xs k).f1, y, (rd_T24 xs k).f3⟩ := by
    show (xs.set k _).getD (Int.toNat (k : Int)) z24 = _
    rw [Int.toNat_natCast, List.getD_eq_getElem?_getD, List.getElem?_set_self (by omega)]
    rfl
  rw [hr, List.set_set] at h1
  exact h1
set_option maxHeartbeats 4000000 in
set_option maxRecDepth 100000 in
theorem lose67 (xs : List S24) (w : World) (base g cap k : Nat) (ca : Array Value) (x : Int) (hX : ca[7]? = some (.int .i64 x)) (HO : Kd.R k24 24 w base (fun _ => True) (.slice (some ⟨g, 0, none⟩) xs.length cap) xs) (hbase : base ≤ w.heap.size) (hk : k < xs.length) (hn : xs.length ≤ 1000) (hv : (rd_T24 xs k).f2 ≤ 1000000) :
    Calls Try.prog 67 #[.slice (some ⟨g, 0, none⟩) xs.length cap, .int .i64 k, .agg ca] w fun e w' => ∃ v', e = .returned (.tuple #[v', .int .i64 (loseR xs k x).2]) ∧ Kd.R k24 24 w' base (fun _ => True) v' (loseR xs k x).1 ∧ Below base w w' := by
  have hgb : base ≤ g := Kd.R_base HO g rfl
  have HE := fun (w1 : World) (hb : Below w.heap.size w w1) => at_T24 (Kd.C_below (Kd.R_reads' HO).2.2 hb) (k : Int) (by omega) (by omega)
  have HO' := Aside0.mk (fun (w1 : World) (hb : Below w.heap.size w w1) => Kd.R_below HO hb)
  have HB := Aside0.mk hbase
  have HX := Aside0.mk hX
  have HG := Aside0.mk hgb
  have hgl : g < w.heap.size := Kd.R_lt HO g rfl
  have HGL := Aside0.mk hgl
  unfold loseR
  obtain ⟨y, hy⟩ : ∃ y, y = rd_T24 xs k := ⟨_, rfl⟩
  rw [← hy] at hv HE ⊢
  have HE := Aside0.mk HE
  have HY := Aside0.mk hy
  obtain ⟨n, hnn⟩ : ∃ n, n = xs.length := ⟨_, rfl⟩
  rw [← hnn] at HO' hk hn ⊢
  have HN := Aside0.mk hnn
  clear HO hbase hX hgb hy hnn hgl
  have hk0 : (0 : Int) ≤ (k : Int) := by omega
  have hkn : (k : Int) < (n : Int) := by omega
  by_cases h1 : x < 1
  · rw [if_pos (.inl h1)]
    have h1b : decide (x < 1) = true := decide_eq_true h1
    go_enter Try.func67, Try.ntmps67
    go_wp2_with (first | ((with_reducible refine gate_dst (N := 5) rfl ?_); refine bx_ (N := 5) (cs := ca) (t := 34) ?_; intro gb hgb w1 hbox hb1; have BW0 := Aside0.mk hb1; have k0 := (blk_cell hbox 7).trans HX.out; clear hgb hbox hb1))
    go_quiet (fail)
    go_wp2
    go_ret2
    exact ⟨_, rfl, Kd.R_nil _ _ _ _ _, Below.mono (pw_below_drewN BW0.out _) HB.out⟩
  · have h1b : decide (x < 1) = false := decide_eq_false h1
    by_cases h2 : x ≥ y.f2
    · rw [if_pos (.inr h2)]
      have h2b : decide (y.f2 ≤ x) = true := decide_eq_true h2
      go_enter Try.func67, Try.ntmps67
      go_wp2_with (first | ((with_reducible refine gate_dst (N := 5) rfl ?_); refine bx_ (N := 5) (cs := ca) (t := 34) ?_; intro gb hgb w1 hbox hb1; have BW0 := Aside0.mk hb1; have k0 := (blk_cell hbox 7).trans HX.out; obtain ⟨y0, y1, y2, y3, yf⟩ := elem24 (HO'.out _ hb1) k hk; rw [← HY.out] at y0 y1 y2 y3; clear hgb hbox hb1))
      go_quiet (fail)
      go_wp2
      go_ret2
      exact ⟨_, rfl, Kd.R_nil _ _ _ _ _, Below.mono (pw_below_drewN BW0.out _) HB.out⟩
    · rw [if_neg (fun h => h.elim h1 h2)]
      have h2b : decide (y.f2 ≤ x) = false := decide_eq_false h2
      have hw1 : IntKind.i64.wrap (y.f2 - x) = y.f2 - x := by rw [IntKind.wrap_i64]; omega
      go_enter Try.func67, Try.ntmps67
      go_wp2_with (first | ((with_reducible refine gate_dst (N := 5) rfl ?_); refine bx_ (N := 5) (cs := ca) (t := 34) ?_; intro gb hgb w1 hbox hb1; have BW0 := Aside0.mk hb1; have k0 := (blk_cell hbox 7).trans HX.out; obtain ⟨y0, y1, y2, y3, yf⟩ := elem24 (HO'.out _ hb1) k hk; rw [← HY.out] at y0 y1 y2 y3; clear hgb hbox hb1))
      go_quiet (fail)
      go_wp2
      go_region
      go_wp2
      go_ret2
      refine ⟨_, rfl, ?_, ?_⟩
      · have := set24_2 (Kd.R_drew (Kd.R_drewN (HO'.out _ BW0.out) nq)) k hk (y.f2 - x)
        rw [← HY.out] at this
        exact this
      · exact Below.setCell (below_drew (Below.mono (pw_below_drewN BW0.out nq) HB.out)) HG.out _
end Go.Proofs.Ytndbchcfjajgbaa.XP
