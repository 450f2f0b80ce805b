/- parcel.run, walked, over whatever function it is handed; parcel.Of. -/
import Derived.Test.YtndbchcfjajgbaaHandDoF
import Derived.Test.YtndbchcfjajgbaaXE
namespace Go.Proofs.Ytndbchcfjajgbaa.XP
open Go.RowKit Go.Proofs Go.Proofs.YtndbchcfjajgbaaW.PrintWords Go.Proofs.YtndbchcfjajgbaaW.PrintLast Go.Proofs.Ytndbchcfjajgbaa.XH Go.Proofs.Ytndbchcfjajgbaa.XE Go.Proofs.Ytndbchcfjajgbaa.XW
set_option linter.unusedVariables false
set_option linter.unusedSimpArgs false
def doX (l : List S24) (x : S34) : List S24 × Int := doR l x.f0 x.f1.f0 x.f1.f1 x.f1.f2 x.f1.f3 x.f2 x.f3 x.f4 x.f5
/-- The parcel of the rest of a book. -/
def ofR : List S34 → Int → List S24 → List S24 × Int × Int
  | [], i, l => (l, i, 0)
  | x :: r, i, l => if (doX l x).2 = 0 then ofR r (i + 1) (doX l x).1 else ([], i, (doX l x).2)
def runR (book : List S34) : List S24 × Int × Int := if book.length > 200 then ([], 0, 3) else ofR book 0 []
theorem putR_len (p : S24) (l : List S24) (i : Nat) : (putR p l i).1.length ≤ 100 := by
  unfold putR
  split
  · simp
  · split
    · simp
    · simp only [List.length_append, List.length_take, List.length_cons, List.length_drop]; omega
theorem doR_len (l : List S24) (a : Int) (b c : ByteArray) (d e : Int) (f g : ByteArray) (h i : Int) : (doR l a b c d e f g h i).1.length ≤ 100 := by
  unfold doR
  split
  · rename_i hv
    have hl := ((validB_iff l).1 hv).2.2
    split
    · split
      · exact putR_len _ _ _
      · split
        · split
          · simp only [List.length_eraseIdx]; split <;> omega
          · split
            · unfold splitR
              split
              · simp
              · split
                · simp
                · exact putR_len _ _ _
            · split
              · unfold joinR
                split
                · split
                  · simp
                  · split
                    · simp
                    · simp only [List.length_eraseIdx, List.length_set]; split <;> omega
                · simp
              · unfold loseR
                split
                · simp
                · simp only [List.length_set]; exact hl
        · simp
    · simp
  · simp
theorem doX_calls (A : Option Addr) (c : Nat) (l : List S24) (x : S34) (w : World) (hr : Kd.C k24 w A l.length l) (hc : l.length ≤ c) (hn : l.length ≤ 1000) :
    Calls Try.prog 18 #[.slice A l.length c, .agg #[.int .i64 x.f0, .string x.f1.f0, .string x.f1.f1, .int .i64 x.f1.f2, .int .i64 x.f1.f3, .string x.f2, .string x.f3, .int .i64 x.f4, .int .i64 x.f5]] w fun e w' => ∃ v' : Value, e = .returned (.tuple #[v', .int .i64 (doX l x).2]) ∧ Kd.R k24 24 w' w.heap.size (fun _ => True) v' (doX l x).1 ∧ Below w.heap.size w w' :=
  parcel_Do.calls A c l _ _ _ _ _ _ _ _ _ _ _ w hr hc (by unfold parcel_Do.f; rw [if_pos hn]; rfl)
theorem C34_grown {w w1 : World} {A : Option Addr} {n : Nat} {xs : List S34} {row : Option Nat} (h : Kd.C k34 w A n xs) (hg : w.grownBy w1 row) (hA : 0 < n → ∀ k, row = some k → ∀ ad, A = some ad → k ≠ ad.block) : Kd.C k34 w1 A n xs := by
  obtain ⟨h1, h2, h3⟩ := h
  refine ⟨h1, h2, fun hn => ?_⟩
  obtain ⟨ad, rfl, h⟩ := h3 hn
  refine ⟨ad, rfl, fun j p hp => ?_⟩
  obtain ⟨cs, q1, q2, q3⟩ := h j p hp
  have := k34_open q2
  subst this
  refine ⟨_, q1, k34_mk _ _, fun k u hu => ?_⟩
  have hc := q3 k u hu
  exact hg.cell hc (fun e => hA hn _ e.symm ad rfl (by rw [add_block]))
/-- What a function that run is handed does: it takes what it knows one entry on; nothing else that stood is turned, its row aside. -/
def EachK (g : Nat) (lb : Array Value) (row : Option Nat) (Inv : List S34 → List S24 → World → Prop) : Prop :=
  ∀ (W : World) (A : Option Addr) (c : Nat) (l : List S24) (x : S34) (r : List S34), Inv (x :: r) l W → (doX l x).2 = 0 → Kd.C k24 W A l.length l → l.length ≤ c → l.length ≤ 1000 →
    Calls Try.prog g (#[.slice A l.length c, .agg #[.int .i64 x.f0, .string x.f1.f0, .string x.f1.f1, .int .i64 x.f1.f2, .int .i64 x.f1.f3, .string x.f2, .string x.f3, .int .i64 x.f4, .int .i64 x.f5]] ++ lb) W fun e W' => e = .returned (.tuple #[]) ∧ Inv r (doX l x).1 W' ∧ W.grownBy W' row
def KeepK (row : Option Nat) (Inv : List S34 → List S24 → World → Prop) : Prop :=
  ∀ (r : List S34) (l : List S24) (W W' : World), Inv r l W → Below W.heap.size W W' → Inv r l W'
set_option maxHeartbeats 4000000 in
set_option maxRecDepth 100000 in
theorem run75 (g : Nat) (lb : Array Value) (eg : ∀ args w, (callFunc g args).run Try.prog w = .ok (.enter g args) w) (row : Option Nat) (Inv : List S34 → List S24 → World → Prop) (hE : EachK g lb row Inv) (hK : KeepK row Inv) (A : Option Addr) (c : Nat) (book : List S34) (w : World)
    (hr : Kd.C k34 w A book.length book) (hc : book.length ≤ c) (hrow : ∀ k, row = some k → k < w.heap.size) (hA : 0 < book.length → ∀ k, row = some k → ∀ ad, A = some ad → k ≠ ad.block) (h0 : Inv book [] w) :
    Calls Try.prog 75 #[.slice A book.length c, .func (.func g) #[] lb] w fun e w' => ∃ v' : Value, e = .returned (.tuple #[v', .int .i64 (runR book).2.1, .int .i64 (runR book).2.2]) ∧ Kd.R k24 24 w' w.heap.size (fun _ => True) v' (runR book).1 ∧ w.grownBy w' row ∧ ((runR book).2.2 = 0 → Inv [] (runR book).1 w') := by
  have hbig : book.length ≤ 9223372036854775807 := hr.2.1
  have HE := Aside0.mk hE
  have HKP := Aside0.mk hK
  have HRW := Aside0.mk hrow
  have HAA := Aside0.mk hA
  have HI0 := Aside0.mk h0
  have HR0 := Aside0.mk hr
  clear hE hK hrow hA h0 hr hc
  unfold runR
  by_cases h200 : book.length > 200
  · rw [if_pos h200]
    have h200b : decide (200 < (book.length : Int)) = true := decide_eq_true (by omega)
    obtain ⟨n, hn⟩ : ∃ n, n = book.length := ⟨_, rfl⟩
    rw [← hn] at h200b ⊢
    clear hn
    go_enter Try.func75, Try.ntmps75
    go_wp2
    go_ret3
    exact ⟨_, rfl, Kd.R_nil _ _ _ _ _, grown_refl _ _, fun h => by simp at h⟩
  rw [if_neg h200]
  have h200b : decide (200 < (book.length : Int)) = false := decide_eq_false (by omega)
  obtain ⟨R, hR⟩ : ∃ R, R = ofR book 0 [] := ⟨_, rfl⟩
  rw [← hR]
  have HRR := Aside0.mk hR
  clear hR
  have HN := Aside0.mk (show ∀ k : Nat, k < book.length → book.drop k = rd_T34 book k :: book.drop (k + 1) from fun k hk => by
    rw [List.drop_eq_getElem_cons hk]
    congr 1
    unfold rd_T34; simp [List.getD_eq_getElem?_getD, hk])
  have HDL := Aside0.mk (show book.drop book.length = [] from List.drop_length)
  obtain ⟨n, hn⟩ : ∃ n, n = book.length := ⟨_, rfl⟩
  rw [← hn] at HR0 hbig h200b h200 HN HDL HAA ⊢
  clear hn
  go_enter Try.func75, Try.ntmps75
  go_wp2
  go_loopg [4, 16] n (fun gg v4 v16 wr => ∃ (i : Nat) (l : List S24), i ≤ n ∧ n - i ≤ gg ∧ v16 = .int .i64 i ∧ Aside0 (R = ofR (book.drop i) i l) ∧ Aside0 (l.length ≤ 1000) ∧ Aside0 (Kd.R k24 24 wr w.heap.size (fun _ => True) v4 l) ∧ Aside0 (w.grownBy wr row) ∧ Aside0 (Inv (book.drop i) l wr))
  case atStart => exact ⟨0, [], Nat.zero_le _, by omega, rfl, ⟨HRR.out⟩, ⟨by simp⟩, ⟨Kd.R_nil _ _ _ _ _⟩, ⟨grown_refl _ _⟩, ⟨HI0.out⟩⟩
  case round =>
    obtain ⟨i, l, hi, hgg, rfl, HRR, HLL, HO, GR, HI⟩ := hrel
    by_cases hlt : i < n
    · have hltz : (i : Int) < (n : Int) := by omega
      have p0 : (0 : Int) ≤ (i : Int) := by omega
      have HSZ := Aside0.mk GR.out.size
      obtain ⟨Al, cl, rfl, hcl, hCl⟩ := Kd.R_reads HO.out
      have HL2 := Aside0.mk (show l.length ≤ cl from hcl)
      have HC := Aside0.mk hCl
      clear hcl hCl
      obtain ⟨x, hx⟩ : ∃ x, x = rd_T34 book i := ⟨_, rfl⟩
      have hRb : Kd.C k34 wr A n book := by
        exact C34_grown HR0.out GR.out HAA.out
      obtain ⟨ad, e1, hx0, hx1, hx2, hx3, hx4, hx5, hx6, hx7, hx8⟩ := at_T34 hRb (i : Int) p0 hltz
      cases e1
      simp only [Int.toNat_natCast] at hx0 hx1 hx2 hx3 hx4 hx5 hx6 hx7 hx8
      rw [← hx] at hx0 hx1 hx2 hx3 hx4 hx5 hx6 hx7 hx8
      have HX0 := Aside0.mk hx0
      have HXC := Aside0.mk (CellsFrom.cons hx1 (CellsFrom.cons hx2 (CellsFrom.cons hx3 (CellsFrom.cons hx4 (CellsFrom.cons hx5 (CellsFrom.cons hx6 (CellsFrom.cons hx7 (CellsFrom.cons hx8 CellsFrom.nil))))))))
      have HIX := HI.out
      have HRX := HRR.out
      rw [HN.out i hlt, ← hx] at HIX HRX
      clear hx0 hx1 hx2 hx3 hx4 hx5 hx6 hx7 hx8 hRb hx HI HRR
      simp only [ofR] at HRX
      have HI := Aside0.mk HIX
      have HD := Aside0.mk (fun (w1 : World) (hC : Kd.C k24 w1 Al l.length l) => doX_calls Al cl l x w1 hC HL2.out HLL.out)
      have HEE := Aside0.mk (fun (w1 : World) (hI : Inv (x :: book.drop (i + 1)) l w1) (h2 : (doX l x).2 = 0) (hC : Kd.C k24 w1 Al l.length l) => HE.out w1 Al cl l x _ hI h2 hC HL2.out HLL.out)
      have HLN := Aside0.mk (show (doX l x).1.length ≤ 1000 from Nat.le_trans (doR_len _ _ _ _ _ _ _ _ _ _) (by omega))
      obtain ⟨D, hD⟩ : ∃ D, D = doX l x := ⟨_, rfl⟩
      rw [← hD] at HD HEE HLN HRX
      clear hD HIX
      obtain ⟨nl, ne⟩ := D
      simp only at HD HEE HLN HRX
      by_cases hne : ne = 0
      · subst hne
        rw [if_pos rfl] at HRX
        have HRR := Aside0.mk HRX
        clear HRX
        go_wp2_with (first | (with_reducible refine gate_load (T := 34) rfl ?_; refine ev_load 8 rfl rfl Try.underlying34 rfl (by kernel_rfl) ?hx HX0.out HXC.out ?_; (case hx => first | rfl | (go_simp; done) | (go_simp; rfl))) | ((with_reducible refine gate_dst (N := 8) rfl ?_); refine box_event ?hg (N := 8) ?hd (cs := #[.int .i64 0, .string (⟨#[]⟩ : ByteArray), .string (⟨#[]⟩ : ByteArray), .int .i64 0, .int .i64 0, .string (⟨#[]⟩ : ByteArray), .string (⟨#[]⟩ : ByteArray), .int .i64 0, .int .i64 0]) (t := 34) ?hr ?_; (case hd => rfl); (case hg => rfl); (case hr => first | (go_simp; done) | (go_simp; rfl)); intro gb hgb w1 hbox hb1; have GB := Aside0.mk (Nat.le_of_eq hgb.symm); have BW := Aside0.mk hb1; have BK := Aside0.mk hbox; clear hgb hbox hb1) | ((with_reducible refine gate_store (T := 34) rfl ?_); refine ev_store (g := gb) (t := 34) (old := #[.int .i64 0, .string (⟨#[]⟩ : ByteArray), .string (⟨#[]⟩ : ByteArray), .int .i64 0, .int .i64 0, .string (⟨#[]⟩ : ByteArray), .string (⟨#[]⟩ : ByteArray), .int .i64 0, .int .i64 0]) (cells := #[.int .i64 x.f0, .string x.f1.f0, .string x.f1.f1, .int .i64 x.f1.f2, .int .i64 x.f1.f3, .string x.f2, .string x.f3, .int .i64 x.f4, .int .i64 x.f5]) rfl rfl ?hx ?hy BK.out rfl (by kernel_rfl) (by simp [Value.oneCell']) ?_; (case hx => first | rfl | (go_simp; done) | (go_simp; rfl)); (case hy => first | rfl | (go_simp; done) | (go_simp; rfl)); intro w2 hb2 hg2 hs2; replace BW := Aside0.mk (Below.grown BW.out hg2 BW.out.size (fun k hk => by injection hk with hk; subst hk; exact GB.out)); replace BK := Aside0.mk hb2; clear hb2 hg2 hs2) | ((with_reducible refine gate_load (T := 34) rfl ?_); refine ev_row (g := gb) (t := 34) (cs := #[.int .i64 x.f0, .string x.f1.f0, .string x.f1.f1, .int .i64 x.f1.f2, .int .i64 x.f1.f3, .string x.f2, .string x.f3, .int .i64 x.f4, .int .i64 x.f5]) rfl rfl ?hx BK.out Try.underlying34 rfl (by kernel_rfl) ?_; (case hx => first | rfl | (go_simp; done) | (go_simp; rfl))) | (go_at_call 18; refine (HD.out _ (Kd.C_below HC.out BW.out)).mono ?_; rintro e w3 ⟨v9, rfl, hR, hb3⟩; have HN2 := Aside0.mk (Kd.R_lower hR (Nat.le_trans HSZ.out BW.out.size)); replace BK := Aside0.mk ((hb3.block _ (blk_lt BK.out)).trans BK.out); replace BW := Aside0.mk (BW.out.trans (hb3.mono BW.out.size)); clear hR hb3) | (go_at_fn g; refine (HEE.out _ (HKP.out _ _ _ _ HI.out BW.out) (by first | trivial | rfl) (Kd.C_below HC.out BW.out)).mono ?_; rintro e w4 ⟨rfl, hI, hg4⟩; replace HN2 := Aside0.mk (Kd.R_mono (ok' := fun _ => True) (Kd.R_grown (Kd.R_bound HN2.out) hg4 (fun k hk e => by have := HRW.out k e.symm; have := hk.2.1; omega)) (fun _ _ => trivial)); replace GR := Aside0.mk (grown_then (grown_below GR.out BW.out) hg4 (fun k hk => .inr hk.symm)); replace HI := Aside0.mk hI; clear hI hg4))
        go_roundg (n - (i + 1))
        case measure => omega
        case rel => exact ⟨i + 1, nl, by omega, by omega, by go_num, ⟨by rw [HRR.out]; rfl⟩, HLN, HN2, GR, HI⟩
      · rw [if_neg hne] at HRX
        have HRR := Aside0.mk HRX
        clear HRX HEE
        have hneb : (ne == 0) = false := beq_eq_false_iff_ne.2 hne
        have hnec : (ne != 0) = true := bne_iff_ne.2 hne
        go_wp2_with (first | (with_reducible refine gate_load (T := 34) rfl ?_; refine ev_load 8 rfl rfl Try.underlying34 rfl (by kernel_rfl) ?hx HX0.out HXC.out ?_; (case hx => first | rfl | (go_simp; done) | (go_simp; rfl))) | ((with_reducible refine gate_dst (N := 8) rfl ?_); refine box_event ?hg (N := 8) ?hd (cs := #[.int .i64 0, .string (⟨#[]⟩ : ByteArray), .string (⟨#[]⟩ : ByteArray), .int .i64 0, .int .i64 0, .string (⟨#[]⟩ : ByteArray), .string (⟨#[]⟩ : ByteArray), .int .i64 0, .int .i64 0]) (t := 34) ?hr ?_; (case hd => rfl); (case hg => rfl); (case hr => first | (go_simp; done) | (go_simp; rfl)); intro gb hgb w1 hbox hb1; have GB := Aside0.mk (Nat.le_of_eq hgb.symm); have BW := Aside0.mk hb1; have BK := Aside0.mk hbox; clear hgb hbox hb1) | ((with_reducible refine gate_store (T := 34) rfl ?_); refine ev_store (g := gb) (t := 34) (old := #[.int .i64 0, .string (⟨#[]⟩ : ByteArray), .string (⟨#[]⟩ : ByteArray), .int .i64 0, .int .i64 0, .string (⟨#[]⟩ : ByteArray), .string (⟨#[]⟩ : ByteArray), .int .i64 0, .int .i64 0]) (cells := #[.int .i64 x.f0, .string x.f1.f0, .string x.f1.f1, .int .i64 x.f1.f2, .int .i64 x.f1.f3, .string x.f2, .string x.f3, .int .i64 x.f4, .int .i64 x.f5]) rfl rfl ?hx ?hy BK.out rfl (by kernel_rfl) (by simp [Value.oneCell']) ?_; (case hx => first | rfl | (go_simp; done) | (go_simp; rfl)); (case hy => first | rfl | (go_simp; done) | (go_simp; rfl)); intro w2 hb2 hg2 hs2; replace BW := Aside0.mk (Below.grown BW.out hg2 BW.out.size (fun k hk => by injection hk with hk; subst hk; exact GB.out)); replace BK := Aside0.mk hb2; clear hb2 hg2 hs2) | ((with_reducible refine gate_load (T := 34) rfl ?_); refine ev_row (g := gb) (t := 34) (cs := #[.int .i64 x.f0, .string x.f1.f0, .string x.f1.f1, .int .i64 x.f1.f2, .int .i64 x.f1.f3, .string x.f2, .string x.f3, .int .i64 x.f4, .int .i64 x.f5]) rfl rfl ?hx BK.out Try.underlying34 rfl (by kernel_rfl) ?_; (case hx => first | rfl | (go_simp; done) | (go_simp; rfl))) | (go_at_call 18; refine (HD.out _ (Kd.C_below HC.out BW.out)).mono ?_; rintro e w3 ⟨v9, rfl, hR, hb3⟩; have HN2 := Aside0.mk (Kd.R_lower hR (Nat.le_trans HSZ.out BW.out.size)); replace BK := Aside0.mk ((hb3.block _ (blk_lt BK.out)).trans BK.out); replace BW := Aside0.mk (BW.out.trans (hb3.mono BW.out.size)); clear hR hb3))
        go_ret3
        rw [HRR.out]
        exact ⟨_, rfl, Kd.R_nil _ _ _ _ _, grown_below GR.out BW.out, fun h => absurd h hne⟩
    · have hltz : ¬ (i : Int) < (n : Int) := by omega
      obtain rfl : i = n := by omega
      rw [HDL.out] at HRR HI
      have HF := Aside0.mk (show R = (l, (i : Int), 0) from HRR.out)
      clear HRR
      go_wp2
      go_ret3
      rw [HF.out]
      exact ⟨_, rfl, HO.out, GR.out, fun _ => HI.out⟩
set_option maxHeartbeats 4000000 in
theorem of77 (v : Value) (ca : Array Value) (w : World) : Calls Try.prog 77 #[v, .agg ca] w fun e w' => e = .returned (.tuple #[]) ∧ Below w.heap.size w w' := by
  go_enter Try.func77, Try.ntmps77
  go_wp2_with ((with_reducible refine gate_dst (N := 3) rfl ?_); refine box_event ?hg (N := 3) ?hd (cs := ca) (t := 34) ?hr ?_; (case hd => rfl); (case hg => rfl); (case hr => first | (go_simp; done) | (go_simp; rfl)); intro gb hgb w1 hbox hb1; have BW := Aside0.mk hb1; clear hgb hbox hb1)
  go_end0
  exact ⟨rfl, BW.out⟩
def parcel_Of.f (l0 : List (S34)) : Option ((List (S24)) × Int × Int) := some (runR l0)
set_option maxHeartbeats 4000000 in
theorem parcel_Of.calls (A0 : Option Addr) (c0 : Nat) (l0 : List (S34)) (r1 : List (S24)) (r2 : Int) (r3 : Int) (w : World) (hr0 : Kd.C k34 w A0 l0.length l0) (hc0 : l0.length ≤ c0) (h : parcel_Of.f l0 = some (r1, r2, r3)) :
    Calls Try.prog 24 #[.slice A0 l0.length c0] w fun e w' => ∃ v0_ : Value, e = .returned (.tuple #[v0_, .int .i64 r2, .int .i64 r3]) ∧ Kd.R k24 24 w' w.heap.size (fun _ => True) v0_ r1 ∧ Below w.heap.size w w' := by
  have H := Aside0.mk (run75 77 #[] (enters_of Try.func77 (by kernel_rfl) rfl) none (fun _ _ _ => True) (fun W A c l x r _ _ _ _ _ => (of77 _ _ W).mono (fun e W' hh => ⟨hh.1, trivial, grown_of_below hh.2⟩)) (fun _ _ _ _ _ _ => trivial) A0 c0 l0 w hr0 hc0 (fun k hk => by cases hk) (fun _ k hk => by cases hk) trivial)
  injection h with h
  rw [h] at H
  clear h hr0 hc0
  obtain ⟨n, hn⟩ : ∃ n, n = l0.length := ⟨_, rfl⟩
  rw [← hn] at H ⊢
  clear hn
  go_enter Try.func24, Try.ntmps24
  go_wp2_with (go_at_call 75; refine H.out.mono ?_; rintro e w' ⟨v', rfl, hR, hG, _⟩; have HFIN := Aside0.mk (And.intro hR hG); clear hR hG)
  go_ret3
  exact ⟨_, rfl, HFIN.out.1, ⟨HFIN.out.2.os, HFIN.out.2.tape, HFIN.out.2.output, HFIN.out.2.size, fun k hk => HFIN.out.2.block k hk (by simp)⟩⟩
end Go.Proofs.Ytndbchcfjajgbaa.XP
