/- Two texts, laid into one by mkclaim.py. -/
import Derived.Test.YtndbchcfjajgbaaXB
import Derived.Test.YtndbchcfjajgbaaHandTaken
import Derived.Test.YtndbchcfjajgbaaHandFind
import Derived.Test.YtndbchcfjajgbaaHandInsI
import Derived.Test.YtndbchcfjajgbaaXE
import Derived.Lib.SliceRun
import Derived.Test.YtndbchcfjajgbaaHandDo
import Derived.Test.YtndbchcfjajgbaaHandValid
section
/- job.Find, walked: the first item with an identifier; slices.Clone at items. -/
namespace Go.Proofs.Ytndbchcfjajgbaa.XP
open Go.Proofs.Ytndbchcfjajgbaa.XB Go.Proofs.Ytndbchcfjajgbaa.XQ
open Go.RowKit Go.Proofs Go.Proofs.YtndbchcfjajgbaaW.PrintWords Go.Proofs.YtndbchcfjajgbaaW.PrintLast Go.Proofs.Ytndbchcfjajgbaa.XH Go.Proofs.Ytndbchcfjajgbaa.XE Go.Proofs.Ytndbchcfjajgbaa.XW
set_option linter.unusedVariables false
set_option linter.unusedSimpArgs false
set_option maxHeartbeats 4000000 in
set_option maxRecDepth 100000 in
theorem clone85 (A : Option Addr) (c : Nat) (xs : List S99) (w : World) (hr : Kd.C k99 w A xs.length xs) (hc : xs.length ≤ c) (hn : xs.length ≤ 1000) :
    Calls Try.prog 85 #[.slice A xs.length c] w fun e w' => ∃ v', e = .returned v' ∧ Kd.R k99 99 w' w.heap.size (fun _ => True) v' xs ∧ Below w.heap.size w w' := by
  obtain ⟨n, hnn⟩ : ∃ n, n = xs.length := ⟨_, rfl⟩
  rw [← hnn] at hr hc hn ⊢
  cases A with
  | none =>
    have h0 : n = 0 := by
      rcases Nat.eq_zero_or_pos n with h | h
      · exact h
      · obtain ⟨ad, e, _⟩ := hr.2.2 h; cases e
    subst h0
    have hx : xs = [] := List.eq_nil_of_length_eq_zero hnn.symm
    subst hx
    clear hr hnn
    have heq : ∀ w : World, (binOp .eql 75 (.slice none 0 c) (.slice none 0 0)).run Try.prog w = .ok (.bool true) w := fun w => Lib.run_eql_slice_nil w 75 99 none 0 c 0 0 Try.underlying75
    go_enter Try.func85, Try.ntmps85
    go_wp2_with (simp only [heq])
    go_ret
    exact ⟨_, rfl, Kd.R_nil _ _ _ _ _, by repeat (first | exact Below.refl _ _ | apply below_alloc | apply pw_below_drewN | apply below_drew1)⟩
  | some ad =>
    have HR := Aside0.mk hr
    have HN := Aside0.mk hnn
    clear hr hnn
    have heq : ∀ w : World, (binOp .eql 75 (.slice (some ad) n c) (.slice none 0 0)).run Try.prog w = .ok (.bool false) w := fun w => Lib.run_eql_slice_nil w 75 99 (some ad) n c 0 0 Try.underlying75
    go_enter Try.func85, Try.ntmps85
    go_wp2_with (first | (simp only [heq]) | ((with_reducible refine gate_dst (N := 5) rfl ?_); refine Kd.R_lit k99 (w0 := w) w.heap.size 99 rfl (N := 5) rfl (xs := ([] : List S99)) (inner := []) (ok := fun _ => True) (okp := fun _ => False) ?hr (by exact Reps.none _ _) (fun _ hk => hk.elim) trivial (Below.refl _ _) (Nat.le_refl _) (by simp) ?_; (case hr => first | (go_simp; done) | (go_simp; rfl)); intro v1 w1 hR hb _ _; have HR1 := Aside0.mk hR; have HB1 := Aside0.mk hb; clear hR hb) | (at_builtin; refine Kd.R_append_rows k99 (w0 := w) w.heap.size rfl (.tmp 5) (.tmp 6) 75 99 z99v 144 rfl Try.underlying75 info99 rfl (by decide) (by omega) _ [] xs (some ad) n c (fun _ => True) (fun _ => False) rfl rfl HR1.out (Kd.C_below HR.out HB1.out) (fun x cs hx => by rw [k99_open hx]; exact k99_mkM _ _ _ x) (fun _ hk => hk.elim) (fun k hk => trivial) HB1.out HB1.out.size (by simp; omega) ?_; intro v2 w2 ho2 hb2 _ _))
    go_ret
    exact ⟨v2, rfl, ho2, hb2⟩
end Go.Proofs.Ytndbchcfjajgbaa.XP
end
section
/- job.Begin, walked. -/
namespace Go.Proofs.Ytndbchcfjajgbaa.XP
open Go.Proofs.Ytndbchcfjajgbaa.XB Go.Proofs.Ytndbchcfjajgbaa.XQ
open Go Go.RowKit Go.Proofs Go.Proofs.YtndbchcfjajgbaaW.PrintWords Go.Proofs.YtndbchcfjajgbaaW.PrintLast Go.Proofs.Ytndbchcfjajgbaa.XH Go.Proofs.Ytndbchcfjajgbaa.XE Go.Proofs.Ytndbchcfjajgbaa.XW
set_option linter.unusedVariables false
set_option linter.unusedSimpArgs false
def beginR (l : List S24) : Int × List S99 × List S24 × Int × Int × Int := if validB l = true then (0, [], l, 0, 0, 0) else (0, [], [], 0, 0, 1)
def job_Begin.f (l0 : List (S24)) : Option (Int × (List (S99)) × (List (S24)) × Int × Int × Int) := if l0.length ≤ 1000 then some (beginR l0) else none
theorem R24_one {w : World} {base : Nat} {ok : Nat → Prop} {v : Value} {xs : List S24} (h : Kd.R k24 24 w base ok v xs) : v.oneCell' = true := by
  rcases R24_open h with ⟨rfl, _⟩ | ⟨g, cap, cur, rfl, _⟩ <;> rfl
set_option maxHeartbeats 4000000 in
set_option maxRecDepth 100000 in
theorem job_Begin.calls (A0 : Option Addr) (c0 : Nat) (l0 : List (S24)) (r1 : Int) (r2 : List (S99)) (r3 : List (S24)) (r4 : Int) (r5 : Int) (r6 : Int) (w : World) (hr0 : Kd.C k24 w A0 l0.length l0) (hc0 : l0.length ≤ c0) (h : job_Begin.f l0 = some (r1, r2, r3, r4, r5, r6)) :
    Calls Try.prog 54 #[.slice A0 l0.length c0] w fun e w' => ∃ v1_ v2_ : Value, e = .returned (.tuple #[.agg #[.int .i64 r1, v1_, v2_, .int .i64 r4, .int .i64 r5], .int .i64 r6]) ∧ Kd.R k99 99 w' w.heap.size (fun _ => True) v1_ r2 ∧ Kd.R k24 24 w' w.heap.size (fun _ => True) v2_ r3 ∧ Below w.heap.size w w' := by
  unfold job_Begin.f at h
  have hn : l0.length ≤ 1000 := by
    rcases Nat.lt_or_ge 1000 l0.length with hc | hc
    · rw [if_neg (by omega)] at h; cases h
    · exact hc
  rw [if_pos hn] at h
  injection h with h
  unfold beginR at h
  have HV := Aside0.mk (fun (w1 : World) (hb : Below w.heap.size w w1) => parcel_Valid.calls (l0.length + 1) A0 c0 l0 (validB l0) w1 (Kd.C_below hr0 hb) hc0 (valid_eq l0 hn))
  have HC := Aside0.mk (fun (w1 : World) (hb : Below w.heap.size w w1) => clone61 A0 c0 l0 w1 (Kd.C_below hr0 hb) hc0 hn)
  have HO1 := Aside0.mk (fun (w1 : World) (v : Value) (hR : Kd.R k24 24 w1 w.heap.size (fun _ => True) v l0) => R24_one hR)
  obtain ⟨n, hnn⟩ : ∃ n, n = l0.length := ⟨_, rfl⟩
  rw [← hnn] at HV HC ⊢
  clear hr0 hc0 hnn hn
  obtain ⟨bv, hbv⟩ : ∃ bv, bv = validB l0 := ⟨_, rfl⟩
  rw [← hbv] at HV h
  clear hbv
  cases bv with
  | false =>
    rw [if_neg (by decide)] at h
    cases h
    go_enter Try.func54, Try.ntmps54
    go_wp2_with (first | ((with_reducible refine gate_dst (N := 2) rfl ?_); refine bx_ (N := 2) (cs := #[.int .i64 0, .slice none 0 0, .slice none 0 0, .int .i64 0, .int .i64 0]) (t := 77) ?_; intro gr hgr w1 hbox hb1; have GR := Aside0.mk (Nat.le_of_eq hgr.symm); have BW := Aside0.mk hb1; have BR := Aside0.mk hbox; clear hgr hbox hb1) | (go_at_call 21; (with_reducible refine (HV.out _ BW.out).mono ?_); rintro e' w' ⟨rfl, hb'⟩; replace BW := Aside0.mk (below_then BW.out BW.out.size hb'); replace BR := kb hb' BR; clear hb') | ((with_reducible refine gate_store (T := 77) rfl ?_); refine ev_store (g := gr) (t := 77) (old := #[.int .i64 0, .slice none 0 0, .slice none 0 0, .int .i64 0, .int .i64 0]) (cells := #[.int .i64 0, .slice none 0 0, .slice none 0 0, .int .i64 0, .int .i64 0]) rfl rfl ?hx ?hy BR.out rfl t_8e t_88 ?_; (case hx => first | rfl | (go_simp; done) | (go_simp; rfl)); (case hy => first | rfl | (go_simp; done) | (go_simp; rfl)); intro w5 hb2 hg2 hs2; have HG := Aside0.mk hg2; replace BW := Aside0.mk (Below.grown BW.out hg2 BW.out.size (fun k hk => by injection hk with hk; subst hk; exact GR.out)); replace BR := Aside0.mk hb2; clear hb2 hg2 hs2))
    refine bodyPost_ret (results_ct rfl _ _ gr 77 #[.int .i64 0, .slice none 0 0, .slice none 0 0, .int .i64 0, .int .i64 0] (0, 0) _ rfl BR.out Try.underlying77 rfl t_8e) rfl ?_
    exact ⟨_, _, rfl, Kd.R_nil _ _ _ _ _, Kd.R_nil _ _ _ _ _, BW.out⟩
  | true =>
    rw [if_pos rfl] at h
    cases h
    go_enter Try.func54, Try.ntmps54
    go_wp2_with (first | ((with_reducible refine gate_dst (N := 2) rfl ?_); refine bx_ (N := 2) (cs := #[.int .i64 0, .slice none 0 0, .slice none 0 0, .int .i64 0, .int .i64 0]) (t := 77) ?_; intro gr hgr w1 hbox hb1; have GR := Aside0.mk (Nat.le_of_eq hgr.symm); have BW := Aside0.mk hb1; have BR := Aside0.mk hbox; clear hgr hbox hb1) | (go_at_call 21; (with_reducible refine (HV.out _ BW.out).mono ?_); rintro e' w' ⟨rfl, hb'⟩; replace BW := Aside0.mk (below_then BW.out BW.out.size hb'); replace BR := kb hb' BR; clear hb') | (go_at_call 61; (with_reducible refine (HC.out _ BW.out).mono ?_); rintro e' w' ⟨v1, rfl, hR, hb'⟩; obtain ⟨A1, c1, rfl, _, _⟩ := Kd.R_reads hR; have HO := Aside0.mk (Kd.R_lower hR BW.out.size); have HNE := Aside0.mk (show (Value.slice A1 l0.length c1).ownBlock ≠ some gr from fun e => by have h1 := Kd.R_base hR gr e; have h2 := blk_lt BR.out; omega); replace BW := Aside0.mk (below_then BW.out BW.out.size hb'); replace BR := kb hb' BR; clear hb' hR) | ((with_reducible refine gate_store (T := 77) rfl ?_); refine ev_store (g := gr) (t := 77) (old := #[.int .i64 0, .slice none 0 0, .slice none 0 0, .int .i64 0, .int .i64 0]) (cells := #[.int .i64 0, .slice none 0 0, .slice A1 l0.length c1, .int .i64 0, .int .i64 0]) rfl rfl ?hx ?hy BR.out rfl t_8e t_88 ?_; (case hx => first | rfl | (go_simp; done) | (go_simp; rfl)); (case hy => first | rfl | (go_simp; done) | (go_simp; rfl)); intro w5 hb2 hg2 hs2; have HG := Aside0.mk hg2; replace BW := Aside0.mk (Below.grown BW.out hg2 BW.out.size (fun k hk => by injection hk with hk; subst hk; exact GR.out)); replace BR := Aside0.mk hb2; clear hb2 hg2 hs2))
    refine bodyPost_ret (results_ct rfl _ _ gr 77 #[.int .i64 0, .slice none 0 0, .slice A1 l0.length c1, .int .i64 0, .int .i64 0] (0, 0) _ rfl BR.out Try.underlying77 rfl t_8e) rfl ?_
    exact ⟨_, _, rfl, Kd.R_nil _ _ _ _ _, Kd.R_grown1 HO.out rfl HG.out HNE.out.symm, BW.out⟩
end Go.Proofs.Ytndbchcfjajgbaa.XP
end
