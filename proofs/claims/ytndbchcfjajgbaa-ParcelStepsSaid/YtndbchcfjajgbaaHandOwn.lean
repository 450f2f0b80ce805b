/- culetlaw53.Own, walked: entries of the reference as the program's. -/
import Derived.Test.YtndbchcfjajgbaaXP0
import Derived.Test.YtndbchcfjajgbaaXH
import Derived.Test.YtndbchcfjajgbaaXE
namespace Go.Proofs.Ytndbchcfjajgbaa.XP
open Go.RowKit Go.Proofs Go.Proofs.YtndbchcfjajgbaaW.PrintWords Go.Proofs.YtndbchcfjajgbaaW.PrintLast Go.Proofs.Ytndbchcfjajgbaa.XH Go.Proofs.Ytndbchcfjajgbaa.XE Go.Proofs.Ytndbchcfjajgbaa.XW
set_option linter.unusedVariables false
set_option linter.unusedSimpArgs false
def conv (x : S26) : S34 := ⟨x.f0, ⟨x.f1.f0, x.f1.f1, x.f1.f2, x.f1.f3⟩, x.f2, x.f3, x.f4, x.f5⟩
def culetlaw53_Own.f (l0 : List (S26)) : Option (List (S34)) := if l0.length ≤ 1000 then some (l0.map conv) else none
set_option maxHeartbeats 4000000 in
set_option maxRecDepth 100000 in
theorem culetlaw53_Own.calls (A0 : Option Addr) (c0 : Nat) (l0 : List (S26)) (r : List (S34)) (w : World) (hr0 : Kd.C k26 w A0 l0.length l0) (hc0 : l0.length ≤ c0) (h : culetlaw53_Own.f l0 = some r) :
    Calls Try.prog 23 #[.slice A0 l0.length c0] w fun e w' => ∃ v0_ : Value, e = .returned (v0_) ∧ Kd.R k34 34 w' w.heap.size (fun _ => True) v0_ r ∧ Below w.heap.size w w' := by
  unfold culetlaw53_Own.f at h
  have hn0 : l0.length ≤ 1000 := by
    rcases Nat.lt_or_ge 1000 l0.length with hc | hc
    · rw [if_neg (by omega)] at h; cases h
    · exact hc
  rw [if_pos hn0] at h
  injection h with h
  have HRR := Aside0.mk h
  have HR0 := Aside0.mk hr0
  have HT := Aside0.mk (show ∀ k : Nat, k < l0.length → (l0.take k).map conv ++ [conv (rd_T26 l0 k)] = (l0.take (k + 1)).map conv from fun k hk => by
    rw [List.take_succ_eq_append_getElem hk, List.map_append]
    congr 1
    unfold rd_T26; simp [List.getD_eq_getElem?_getD, hk])
  have HTE := Aside0.mk (show (l0.take l0.length).map conv = l0.map conv by rw [List.take_length])
  have HLT := Aside0.mk (show ∀ k : Nat, k < l0.length → ((l0.take k).map conv).length = k from fun k hk => by simp; omega)
  obtain ⟨n, hn⟩ : ∃ n, n = l0.length := ⟨_, rfl⟩
  rw [← hn] at HR0 HT HTE HLT hn0 ⊢
  have HN0 := Aside0.mk hn0
  clear hn h hr0 hc0
  go_enter Try.func23, Try.ntmps23
  go_wp2
  go_loopg [3, 8] n (fun gg v3 v8 wr => ∃ (i : Nat), i ≤ n ∧ n - i ≤ gg ∧ v8 = .int .i64 i ∧ Aside0 (Kd.R k34 34 wr w.heap.size (fun _ => True) v3 ((l0.take i).map conv)) ∧ Aside0 (Below w.heap.size w wr))
  case atStart => exact ⟨0, Nat.zero_le _, by omega, rfl, ⟨Kd.R_nil _ _ _ _ _⟩, ⟨Below.refl _ _⟩⟩
  case round =>
    obtain ⟨i, hi, hgg, rfl, HO, HB⟩ := hrel
    by_cases hlt : i < n
    · have hltz : (i : Int) < (n : Int) := by omega
      have p0 : (0 : Int) ≤ (i : Int) := by omega
      obtain ⟨x, hx⟩ : ∃ x, x = rd_T26 l0 i := ⟨_, rfl⟩
      obtain ⟨ad, e1, hx0, hx1, hx2, hx3, hx4, hx5, hx6, hx7, hx8⟩ := at_T26 (Kd.C_below HR0.out HB.out) (i : Int) p0 hltz
      cases e1
      simp only [Int.toNat_natCast] at hx0 hx1 hx2 hx3 hx4 hx5 hx6 hx7 hx8
      rw [← hx] at hx0 hx1 hx2 hx3 hx4 hx5 hx6 hx7 hx8
      have HX0 := Aside0.mk hx0
      have HXC := Aside0.mk (CellsFrom.cons hx1 (CellsFrom.cons hx2 (CellsFrom.cons hx3 (CellsFrom.cons hx4 (CellsFrom.cons hx5 (CellsFrom.cons hx6 (CellsFrom.cons hx7 (CellsFrom.cons hx8 CellsFrom.nil))))))))
      have HTT := HT.out i hlt
      rw [← hx] at HTT
      obtain ⟨l, hl⟩ : ∃ l, l = (l0.take i).map conv := ⟨_, rfl⟩
      have HLL := Aside0.mk (show l.length ≤ 1000 by rw [hl, HLT.out i hlt]; omega)
      rw [← hl] at HO HTT
      have HTT := Aside0.mk HTT
      clear hx0 hx1 hx2 hx3 hx4 hx5 hx6 hx7 hx8 hx hl
      obtain ⟨v3, hv3⟩ : ∃ v3, v3 = u3 := ⟨_, rfl⟩
      subst hv3
      go_wp2_with (first | (with_reducible refine gate_load (T := 26) rfl ?_; refine ev_load 8 rfl rfl Try.underlying26 rfl (by kernel_rfl) ?hx HX0.out HXC.out ?_; (case hx => first | rfl | (go_simp; done) | (go_simp; rfl))) | ((with_reducible refine gate_dst (N := 5) rfl ?_); refine box_event ?hg (N := 5) ?hd (cs := #[.int .i64 0, .string (⟨#[]⟩ : ByteArray), .string (⟨#[]⟩ : ByteArray), .int .i64 0, .int .i64 0, .string (⟨#[]⟩ : ByteArray), .string (⟨#[]⟩ : ByteArray), .int .i64 0, .int .i64 0]) (t := 26) ?hr ?_; (case hd => rfl); (case hg => rfl); (case hr => first | (go_simp; done) | (go_simp; rfl)); intro gb hgb w1 hbox hb1; have GB := Aside0.mk (Nat.le_of_eq hgb.symm); have BW := Aside0.mk hb1; have BK := Aside0.mk hbox; clear hgb hbox hb1) | ((with_reducible refine gate_store (T := 26) rfl ?_); refine ev_store (g := gb) (t := 26) (old := #[.int .i64 0, .string (⟨#[]⟩ : ByteArray), .string (⟨#[]⟩ : ByteArray), .int .i64 0, .int .i64 0, .string (⟨#[]⟩ : ByteArray), .string (⟨#[]⟩ : ByteArray), .int .i64 0, .int .i64 0]) (cells := #[.int .i64 x.f0, .string x.f1.f0, .string x.f1.f1, .int .i64 x.f1.f2, .int .i64 x.f1.f3, .string x.f2, .string x.f3, .int .i64 x.f4, .int .i64 x.f5]) rfl rfl ?hx ?hy BK.out rfl (by kernel_rfl) (by simp [Value.oneCell']) ?_; (case hx => first | rfl | (go_simp; done) | (go_simp; rfl)); (case hy => first | rfl | (go_simp; done) | (go_simp; rfl)); intro w2 hb2 hg2 hs2; replace BW := Aside0.mk (Below.grown BW.out hg2 BW.out.size (fun k hk => by injection hk with hk; subst hk; exact GB.out)); replace BK := Aside0.mk hb2; have HO2 := Aside0.mk (Kd.R_below HO.out BW.out); have HB2 := Aside0.mk (below_then HB.out HB.out.size BW.out); clear hb2 hg2 hs2) | ((with_reducible refine gate_load (T := 26) rfl ?_); refine ev_row (g := gb) (t := 26) (cs := #[.int .i64 x.f0, .string x.f1.f0, .string x.f1.f1, .int .i64 x.f1.f2, .int .i64 x.f1.f3, .string x.f2, .string x.f3, .int .i64 x.f4, .int .i64 x.f5]) rfl rfl ?hx BK.out Try.underlying26 rfl (by kernel_rfl) ?_; (case hx => first | rfl | (go_simp; done) | (go_simp; rfl))) | ((with_reducible refine gate_builtin (b := .append) (xs := #[.tmp 12, .tmp 14]) rfl ?_); at_builtin; refine Kd.R_append k34 (w0 := w) w.heap.size rfl (.tmp 12) (.tmp 14) 42 34 (.agg #[(.int .i64 0), (.string ⟨#[]⟩), (.string ⟨#[]⟩), (.int .i64 0), (.int .i64 0), (.string ⟨#[]⟩), (.string ⟨#[]⟩), (.int .i64 0), (.int .i64 0)]) 104 rfl Try.underlying42 info34 rfl (by decide) (by omega) v3 l (conv x) [.int .i64 x.f0, .string x.f1.f0, .string x.f1.f1, .int .i64 x.f1.f2, .int .i64 x.f1.f3, .string x.f2, .string x.f3, .int .i64 x.f4, .int .i64 x.f5] (fun _ => True) (fun _ => False) rfl (by first | (go_simp; done) | (go_simp; rfl)) (k34_mkM _ _ _ (conv x)) (fun _ hk => hk.elim) (fun _ _ => trivial) HO2.out HB2.out HB2.out.size (by have := HLL.out; have := HN0.out; omega) ?_; intro v4 w4 ho hb hg hat; have HO4 := Aside0.mk ho; have HB4 := Aside0.mk hb; clear ho hb hg hat))
      go_roundg (n - (i + 1))
      case measure => omega
      case rel => exact ⟨i + 1, by omega, by omega, by go_num, ⟨by rw [← HTT.out]; exact HO4.out⟩, HB4⟩
    · have hltz : ¬ (i : Int) < (n : Int) := by omega
      obtain rfl : i = n := by omega
      go_wp2
      go_ret
      have HF := HO.out
      rw [HTE.out, HRR.out] at HF
      exact ⟨_, rfl, HF, HB.out⟩
end Go.Proofs.Ytndbchcfjajgbaa.XP
