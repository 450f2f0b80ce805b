/- slices.Clone, walked. (Printed by mkclone.py.) -/
import Derived.Test.YtncemdpmooakgaaXT
import Derived.Test.YtncemdpmooakgaaXH
import Derived.Lib.SliceRun
import Derived.Lib.Walk
namespace Go.Proofs.Ytncemdpmooakgaa.XK
open Go Go.RowKit Go.Proofs Go.Proofs.YtncemdpmooakgaaW.PrintWords Go.Proofs.YtncemdpmooakgaaW.PrintLast Go.Proofs.Ytncemdpmooakgaa.XW Go.Proofs.Ytncemdpmooakgaa.XT
set_option linter.unusedVariables false
set_option linter.unusedSimpArgs false
theorem info64' : (Try.prog.info? 64).map (fun i => (i.zero, i.size, i.bytes)) = some (some (.agg #[(.string ⟨#[]⟩), (.int .i64 0)]), 2, 24) := by kernel_rfl
set_option maxHeartbeats 4000000 in
set_option maxRecDepth 100000 in
theorem clone62 (A : Option Addr) (c : Nat) (xs : List S51) (n : Nat) (hnn : n = xs.length) (w : World) (hr : Kd.C k51 w A n xs) (hn : n ≤ 1000) (okr : Nat → Prop) (hF : Kd.F k51 w okr A n xs) :
    Calls Try.prog 62 #[.slice A n c] w fun e w' => ∃ v', e = .returned v' ∧ Kd.N k51 51 w' w.heap.size (fun k => okr k ∨ w.heap.size ≤ k) v' xs ∧ Below w.heap.size w w' := by
  cases A with
  | none =>
    have h0 : n = 0 := by
      rcases Nat.eq_zero_or_pos n with h | h
      · exact h
      · obtain ⟨ad, e, _⟩ := hr.2.2 h; cases e
    subst h0
    have hx : xs = [] := List.eq_nil_of_length_eq_zero hnn.symm
    subst hx
    clear hr hnn
    have heq : ∀ w : World, (binOp .eql 34 (.slice none 0 c) (.slice none 0 0)).run Try.prog w = .ok (.bool true) w := fun w => Lib.run_eql_slice_nil w 34 51 none 0 c 0 0 Try.underlying34
    go_enter Try.func62, Try.ntmps62
    go_wp2_with (simp only [heq])
    go_ret
    exact ⟨_, rfl, Kd.N_nil _ _ _ _ _, by repeat (first | exact Below.refl _ _ | apply below_alloc | apply pw_below_drewN | apply below_drew1)⟩
  | some ad =>
    have HR := Aside0.mk hr
    have HF := Aside0.mk hF
    have HN := Aside0.mk hnn
    clear hr hnn hF
    have heq : ∀ w : World, (binOp .eql 34 (.slice (some ad) n c) (.slice none 0 0)).run Try.prog w = .ok (.bool false) w := fun w => Lib.run_eql_slice_nil w 34 51 (some ad) n c 0 0 Try.underlying34
    go_enter Try.func62, Try.ntmps62
    go_wp2_with (first | (simp only [heq]) | ((with_reducible refine gate_dst (N := 5) rfl ?_); refine Kd.N_lit k51 (w0 := w) w.heap.size 51 rfl (N' := 5) rfl (xs := ([] : List S51)) (inner := []) (ok := fun k => okr k ∨ w.heap.size ≤ k) (okp := fun _ => False) ?hr (by exact Reps.none _ _) (fun _ hk => hk.elim) (Or.inr (Nat.le_refl _)) (Below.refl _ _) (Nat.le_refl _) (by simp) ?_; (case hr => first | (go_simp; done) | (go_simp; rfl)); intro v1 w1 hR hb _ hat; have HR1 := Aside0.mk hR; have HB1 := Aside0.mk hb; have HAT := Aside0.mk hat; clear hR hb hat) | (at_builtin; refine Kd.N_append_rows k51 (w0 := w) w.heap.size rfl (.tmp 5) (.tmp 6) 34 51 (.agg #[(.string ⟨#[]⟩), (.int .i64 0), (.int .i64 0), (.slice none 0 0), (.int .i64 0), (.bool false), (.string ⟨#[]⟩), (.bool false), (.string ⟨#[]⟩), (.bool false), (.string ⟨#[]⟩), (.bool false), (.string ⟨#[]⟩), (.bool false), (.string ⟨#[]⟩), (.bool false), (.string ⟨#[]⟩), (.bool false), (.string ⟨#[]⟩), (.bool false), (.string ⟨#[]⟩), (.bool false), (.string ⟨#[]⟩), (.bool false), (.string ⟨#[]⟩), (.bool false), (.string ⟨#[]⟩), (.bool false), (.string ⟨#[]⟩), (.bool false), (.string ⟨#[]⟩), (.bool false), (.string ⟨#[]⟩), (.bool false), (.string ⟨#[]⟩), (.bool false), (.string ⟨#[]⟩), (.bool false), (.string ⟨#[]⟩), (.bool false), (.string ⟨#[]⟩), (.bool false), (.string ⟨#[]⟩), (.bool false), (.string ⟨#[]⟩), (.slice none 0 0)]) 568 rfl Try.underlying34 info51 rfl (by decide) (by omega) v1 [] xs (some ad) n c (fun k => okr k ∨ w.heap.size ≤ k) (fun k => okr k ∧ k < w.heap.size) rfl rfl HR1.out (Kd.F_below (Kd.F_bound HF.out) HB1.out) (fun k hk => ⟨Or.inl hk.1, fun e => by obtain ⟨b, hb1, hb2⟩ := HAT.out; have e := e.trans hb1; injection e with e; have := hk.2; omega⟩) (fun k hk => Or.inr (Nat.le_trans HB1.out.size hk)) HB1.out HB1.out.size (by simp; omega) ?_; intro v2 w2 ho2 hb2 _ _))
    go_ret
    exact ⟨v2, rfl, ho2, hb2⟩
set_option maxHeartbeats 4000000 in
set_option maxRecDepth 100000 in
theorem clone63 (A : Option Addr) (c : Nat) (xs : List Int) (n : Nat) (hnn : n = xs.length) (w : World) (hr : Kd.C (Kd.int .i64) w A n xs) (hn : n ≤ 1000) :
    Calls Try.prog 63 #[.slice A n c] w fun e w' => ∃ v', e = .returned v' ∧ Kd.R (Kd.int .i64) 3 w' w.heap.size (fun k => w.heap.size ≤ k) v' xs ∧ Below w.heap.size w w' := by
  cases A with
  | none =>
    have h0 : n = 0 := by
      rcases Nat.eq_zero_or_pos n with h | h
      · exact h
      · obtain ⟨ad, e, _⟩ := hr.2.2 h; cases e
    subst h0
    have hx : xs = [] := List.eq_nil_of_length_eq_zero hnn.symm
    subst hx
    clear hr hnn
    have heq : ∀ w : World, (binOp .eql 24 (.slice none 0 c) (.slice none 0 0)).run Try.prog w = .ok (.bool true) w := fun w => Lib.run_eql_slice_nil w 24 3 none 0 c 0 0 Try.underlying24
    go_enter Try.func63, Try.ntmps63
    go_wp2_with (simp only [heq])
    go_ret
    exact ⟨_, rfl, Kd.R_nil _ _ _ _ _, by repeat (first | exact Below.refl _ _ | apply below_alloc | apply pw_below_drewN | apply below_drew1)⟩
  | some ad =>
    have HR := Aside0.mk hr
    skip
    have HN := Aside0.mk hnn
    clear hr hnn
    have heq : ∀ w : World, (binOp .eql 24 (.slice (some ad) n c) (.slice none 0 0)).run Try.prog w = .ok (.bool false) w := fun w => Lib.run_eql_slice_nil w 24 3 (some ad) n c 0 0 Try.underlying24
    go_enter Try.func63, Try.ntmps63
    go_wp2_with (first | (simp only [heq]) | ((with_reducible refine gate_dst (N := 5) rfl ?_); refine Kd.R_lit (Kd.int .i64) (w0 := w) w.heap.size 3 rfl (N := 5) rfl (xs := ([] : List Int)) (inner := []) (ok := fun _ => True) (okp := fun _ => False) ?hr (by exact Reps.none _ _) (fun _ hk => hk.elim) trivial (Below.refl _ _) (Nat.le_refl _) (by simp) ?_; (case hr => first | (go_simp; done) | (go_simp; rfl)); intro v1 w1 hR hb _ hat; have HR1 := Aside0.mk hR; have HB1 := Aside0.mk hb; have HAT := Aside0.mk hat; clear hR hb hat) | (at_builtin; refine Kd.R_append_rows (Kd.int .i64) (w0 := w) w.heap.size rfl (.tmp 5) (.tmp 6) 24 3 (.int .i64 0) 8 rfl Try.underlying24 info3 rfl (by decide) (by omega) _ [] xs (some ad) n c (fun _ => True) (fun _ => False) rfl rfl HR1.out (Kd.C_below HR.out HB1.out) (fun x cs hx => hx) (fun _ hk => hk.elim) (fun k hk => trivial) HB1.out HB1.out.size (by simp; omega) ?_; intro v2 w2 ho2 hb2 _ _))
    go_ret
    exact ⟨v2, rfl, Kd.R_reok rfl ho2 (Kd.R_base ho2), hb2⟩
set_option maxHeartbeats 4000000 in
set_option maxRecDepth 100000 in
theorem clone64 (A : Option Addr) (c : Nat) (xs : List S64) (n : Nat) (hnn : n = xs.length) (w : World) (hr : Kd.C k64 w A n xs) (hn : n ≤ 1000) :
    Calls Try.prog 64 #[.slice A n c] w fun e w' => ∃ v', e = .returned v' ∧ Kd.R k64 64 w' w.heap.size (fun k => w.heap.size ≤ k) v' xs ∧ Below w.heap.size w w' := by
  cases A with
  | none =>
    have h0 : n = 0 := by
      rcases Nat.eq_zero_or_pos n with h | h
      · exact h
      · obtain ⟨ad, e, _⟩ := hr.2.2 h; cases e
    subst h0
    have hx : xs = [] := List.eq_nil_of_length_eq_zero hnn.symm
    subst hx
    clear hr hnn
    have heq : ∀ w : World, (binOp .eql 47 (.slice none 0 c) (.slice none 0 0)).run Try.prog w = .ok (.bool true) w := fun w => Lib.run_eql_slice_nil w 47 64 none 0 c 0 0 Try.underlying47
    go_enter Try.func64, Try.ntmps64
    go_wp2_with (simp only [heq])
    go_ret
    exact ⟨_, rfl, Kd.R_nil _ _ _ _ _, by repeat (first | exact Below.refl _ _ | apply below_alloc | apply pw_below_drewN | apply below_drew1)⟩
  | some ad =>
    have HR := Aside0.mk hr
    skip
    have HN := Aside0.mk hnn
    clear hr hnn
    have heq : ∀ w : World, (binOp .eql 47 (.slice (some ad) n c) (.slice none 0 0)).run Try.prog w = .ok (.bool false) w := fun w => Lib.run_eql_slice_nil w 47 64 (some ad) n c 0 0 Try.underlying47
    go_enter Try.func64, Try.ntmps64
    go_wp2_with (first | (simp only [heq]) | ((with_reducible refine gate_dst (N := 5) rfl ?_); refine Kd.R_lit k64 (w0 := w) w.heap.size 64 rfl (N := 5) rfl (xs := ([] : List S64)) (inner := []) (ok := fun _ => True) (okp := fun _ => False) ?hr (by exact Reps.none _ _) (fun _ hk => hk.elim) trivial (Below.refl _ _) (Nat.le_refl _) (by simp) ?_; (case hr => first | (go_simp; done) | (go_simp; rfl)); intro v1 w1 hR hb _ hat; have HR1 := Aside0.mk hR; have HB1 := Aside0.mk hb; have HAT := Aside0.mk hat; clear hR hb hat) | (at_builtin; refine Kd.R_append_rows k64 (w0 := w) w.heap.size rfl (.tmp 5) (.tmp 6) 47 64 (.agg #[(.string ⟨#[]⟩), (.int .i64 0)]) 24 rfl Try.underlying47 info64' rfl (by decide) (by omega) _ [] xs (some ad) n c (fun _ => True) (fun _ => False) rfl rfl HR1.out (Kd.C_below HR.out HB1.out) (fun x cs hx => by rw [k64_open hx]; exact k64_mkM _ _ _ x) (fun _ hk => hk.elim) (fun k hk => trivial) HB1.out HB1.out.size (by simp; omega) ?_; intro v2 w2 ho2 hb2 _ _))
    go_ret
    exact ⟨v2, rfl, Kd.R_reok rfl ho2 (Kd.R_base ho2), hb2⟩
end Go.Proofs.Ytncemdpmooakgaa.XK
