/- culetref14.SameFix, walked for two fixes that are equal but for where their rows lie: the cells kept as opaque arrays. -/
import Derived.Test.YtncemdpmooakgaaXT
namespace Go.Proofs.Ytncemdpmooakgaa.XK
open Go Go.RowKit Go.Proofs Go.Proofs.YtncemdpmooakgaaW.PrintWords Go.Proofs.YtncemdpmooakgaaW.PrintLast Go.Proofs.Ytncemdpmooakgaa.XW Go.Proofs.Ytncemdpmooakgaa.XT
set_option linter.unusedVariables false
set_option linter.unusedSimpArgs false
/-- Two aggregates of one type that '!=' finds equal. -/
def EqAgg (t : TypeId) (x y : Array Value) : Prop := ∀ w : World, (binOp .neq t (.agg x) (.agg y)).run Try.prog w = .ok (.bool false) w
theorem eqAgg_of {t : TypeId} {x y : Array Value} {m : Nat} (hm : m ≤ 20) (h : ∀ d w, (Op.equalIn (d + m) t (.agg x) (.agg y)).run Try.prog w = .ok true w) : EqAgg t x y := by
  intro w
  have e : (Op.equal t (.agg x) (.agg y)).run Try.prog w = .ok true w := by
    have := h (Op.maxDepth - m) w
    rw [show Op.maxDepth - m + m = Op.maxDepth from Nat.sub_add_cancel (Nat.le_trans hm (by decide))] at this
    exact this
  simp only [binOp, Sem.run_bind, e, Result.andThen_ok, Sem.run_pure, Bool.not_true]
set_option maxHeartbeats 4000000 in
set_option maxRecDepth 100000 in
theorem sameFix_ (ca cb dc pc : Array Value) (k : Int) (A B : Option Addr) (c1 c2 n : Nat) (l : List S64) (w : World)
    (ha0 : ca[0]? = some (.int .i64 k)) (hb0 : cb[0]? = some (.int .i64 k)) (ha41 : ca[41]? = some (.slice A n c1)) (hb41 : cb[41]? = some (.slice B n c2))
    (hda : dc = ca.extract 1 (1 + 10)) (hdb : dc = cb.extract 1 (1 + 10)) (hpa : pc = ca.extract 11 (11 + 30)) (hpb : pc = cb.extract 11 (11 + 30)) (hsd : dc.size = 10) (hsp : pc.size = 30)
    (he44 : EqAgg 44 dc dc) (he46 : EqAgg 46 pc pc) (hA : Kd.C k64 w A n l) (hB : Kd.C k64 w B n l) :
    Calls Try.prog 91 #[.agg ca, .agg cb] w fun e w' => e = .returned (.bool true) ∧ Below w.heap.size w w' := by
  have HA0 := Aside0.mk ha0
  have HB0 := Aside0.mk hb0
  have HA41 := Aside0.mk ha41
  have HB41 := Aside0.mk hb41
  have HDA := Aside0.mk hda
  have HDB := Aside0.mk hdb
  have HPA := Aside0.mk hpa
  have HPB := Aside0.mk hpb
  have HSD := Aside0.mk hsd
  have HSP := Aside0.mk hsp
  have hbig : n ≤ 9223372036854775807 := hA.2.1
  have HA := Aside0.mk hA
  have HB := Aside0.mk hB
  have e44 : ∀ w : World, (binOp .neq 44 (.agg dc) (.agg dc)).run Try.prog w = .ok (.bool false) w := he44
  have e46 : ∀ w : World, (binOp .neq 46 (.agg pc) (.agg pc)).run Try.prog w = .ok (.bool false) w := he46
  have hnn : (k != k) = false := by simp
  have hll : ((n : Int) != (n : Int)) = false := by simp
  clear ha0 hb0 ha41 hb41 hda hdb hpa hpb hsd hsp hA hB he44 he46
  go_enter Try.func91, Try.ntmps91
  go_wp2_with (first
    | ((with_reducible refine gate_dst (N := 2) rfl ?_); refine box_event ?hg (N := 2) ?hd (cs := ca) (t := 49) ?hr ?_; (case hd => rfl); (case hg => rfl); (case hr => first | (go_simp; done) | (go_simp; rfl)); intro ga hga w1 hbox hb1; have BW := Aside0.mk hb1; have BA := Aside0.mk hbox; have GA := Aside0.mk hga; clear hga hb1 hbox)
    | ((with_reducible refine gate_dst (N := 3) rfl ?_); refine box_event ?hg (N := 3) ?hd (cs := cb) (t := 49) ?hr ?_; (case hd => rfl); (case hg => rfl); (case hr => first | (go_simp; done) | (go_simp; rfl)); intro gb hgb w2 hbox hb1; replace BA := Aside0.mk ((hb1.block ga (blk_lt BA.out)).trans BA.out); replace BW := Aside0.mk (below_then BW.out BW.out.size hb1); have BB := Aside0.mk hbox; have za0 := (blk_cell BA.out 0).trans HA0.out; have zb0 := (blk_cell BB.out 0).trans HB0.out; have za41 := (blk_cell BA.out 41).trans HA41.out; have zb41 := (blk_cell BB.out 41).trans HB41.out; clear hgb hb1 hbox)
    | ((with_reducible refine gate_load (T := 44) rfl ?_); (try refine gate_guard (by rfl) ?_); refine ev_cells 44 _ 10 dc rfl rfl Try.underlying44 rfl (by kernel_rfl) HSD.out rfl ?hc ?_; (case hc => first | exact part_cells 1 10 BA.out HDA.out | exact part_cells 1 10 BB.out HDB.out))
    | ((with_reducible refine gate_load (T := 46) rfl ?_); (try refine gate_guard (by rfl) ?_); refine ev_cells 46 _ 30 pc rfl rfl Try.underlying46 rfl (by kernel_rfl) HSP.out rfl ?hc ?_; (case hc => first | exact part_cells 11 30 BA.out HPA.out | exact part_cells 11 30 BB.out HPB.out))
    | (simp only [e44]) | (simp only [e46]) | (simp only [hnn]) | (simp only [hll]))
  go_loopg [5] n (fun gg v5 wr => ∃ i : Nat, i ≤ n ∧ n - i ≤ gg ∧ v5 = .int .i64 i ∧ Aside0 (Below w2.heap.size w2 wr))
  case atStart => exact ⟨0, Nat.zero_le _, by omega, rfl, ⟨Below.refl _ _⟩⟩
  case round =>
    obtain ⟨i, hi, hgg, rfl, HR⟩ := hrel
    have p0 : (0 : Int) ≤ (i : Int) := by omega
    have ya41 : wr.cell? ⟨ga, 41, none⟩ = some (.slice A n c1) := (blk_cell ((HR.out.block ga (blk_lt BA.out)).trans BA.out) 41).trans HA41.out
    have yb41 : wr.cell? ⟨gb, 41, none⟩ = some (.slice B n c2) := (blk_cell ((HR.out.block gb (blk_lt BB.out)).trans BB.out) 41).trans HB41.out
    by_cases hlt : i < n
    · have hltz : (i : Int) < (n : Int) := by omega
      have hd := decide_eq_true hltz
      obtain ⟨x, hx⟩ : ∃ x, x = rd_T64 l i := ⟨_, rfl⟩
      have hbw := below_then BW.out BW.out.size HR.out
      obtain ⟨ad, e1, hx0, hx1⟩ := at_T64 (Kd.C_below HA.out hbw) (i : Int) p0 hltz
      obtain ⟨bd, e2, hy0, hy1⟩ := at_T64 (Kd.C_below HB.out hbw) (i : Int) p0 hltz
      cases e1; cases e2
      simp only [Int.toNat_natCast] at hx0 hx1 hy0 hy1
      rw [← hx] at hx0 hx1 hy0 hy1
      clear hx hbw
      have e64 : ∀ w : World, (binOp .neq 64 (.agg #[.string x.f0, .int .i64 x.f1]) (.agg #[.string x.f0, .int .i64 x.f1])).run Try.prog w = .ok (.bool false) w := eqAgg_of (m := 2) (by decide) (fun d w => by rw [eqA64]; simp)
      go_wp2
      go_quiet (first | (simp only [e64]))
      go_wp2
      go_roundg (n - (i + 1))
      case measure => omega
      case rel => exact ⟨i + 1, by omega, by omega, by go_num, ⟨pw_below_drewN HR.out _⟩⟩
    · obtain rfl : i = n := by omega
      have hd : decide ((i : Int) < (i : Int)) = false := decide_eq_false (by omega)
      go_wp2
      go_ret
      exact ⟨rfl, below_then BW.out BW.out.size HR.out⟩
set_option maxHeartbeats 4000000 in
set_option maxRecDepth 100000 in
theorem sameTier_ (ca cb fa fb : Array Value) (s : ByteArray) (h v : Int) (A B : Option Addr) (c1 c2 n : Nat) (l : List Int) (w : World)
    (ha0 : ca[0]? = some (.string s)) (hb0 : cb[0]? = some (.string s)) (ha1 : ca[1]? = some (.int .i64 h)) (hb1 : cb[1]? = some (.int .i64 h)) (ha2 : ca[2]? = some (.int .i64 v)) (hb2 : cb[2]? = some (.int .i64 v))
    (ha3 : ca[3]? = some (.slice A n c1)) (hb3 : cb[3]? = some (.slice B n c2)) (hfa : fa = ca.extract 4 (4 + 42)) (hfb : fb = cb.extract 4 (4 + 42)) (hsa : fa.size = 42) (hsb : fb.size = 42)
    (hF : ∀ w1 : World, Below w.heap.size w w1 → Calls Try.prog 91 #[.agg fa, .agg fb] w1 fun e w' => e = .returned (.bool true) ∧ Below w1.heap.size w1 w')
    (hA : Kd.C (Kd.int .i64) w A n l) (hB : Kd.C (Kd.int .i64) w B n l) :
    Calls Try.prog 65 #[.agg ca, .agg cb] w fun e w' => e = .returned (.bool true) ∧ Below w.heap.size w w' := by
  have HA0 := Aside0.mk ha0
  have HB0 := Aside0.mk hb0
  have HA1 := Aside0.mk ha1
  have HB1 := Aside0.mk hb1
  have HA2 := Aside0.mk ha2
  have HB2 := Aside0.mk hb2
  have HA3 := Aside0.mk ha3
  have HB3 := Aside0.mk hb3
  have HFA := Aside0.mk hfa
  have HFB := Aside0.mk hfb
  have HSA := Aside0.mk hsa
  have HSB := Aside0.mk hsb
  have HF := Aside0.mk hF
  have hbig : n ≤ 9223372036854775807 := hA.2.1
  have HA := Aside0.mk hA
  have HB := Aside0.mk hB
  have hh1 : (h != h) = false := by simp
  have hv1 : (v != v) = false := by simp
  have hs1 : (s.toList == s.toList) = true := by simp
  have hll : ((n : Int) != (n : Int)) = false := by simp
  clear ha0 hb0 ha1 hb1 ha2 hb2 ha3 hb3 hfa hfb hsa hsb hF hA hB
  go_enter Try.func65, Try.ntmps65
  go_wp2_with (first
    | ((with_reducible refine gate_dst (N := 2) rfl ?_); refine box_event ?hg (N := 2) ?hd (cs := ca) (t := 51) ?hr ?_; (case hd => rfl); (case hg => rfl); (case hr => first | (go_simp; done) | (go_simp; rfl)); intro ga hga w1 hbox hb1; have BW := Aside0.mk hb1; have BA := Aside0.mk hbox; have GA := Aside0.mk hga; clear hga hb1 hbox)
    | ((with_reducible refine gate_dst (N := 3) rfl ?_); refine box_event ?hg (N := 3) ?hd (cs := cb) (t := 51) ?hr ?_; (case hd => rfl); (case hg => rfl); (case hr => first | (go_simp; done) | (go_simp; rfl)); intro gb hgb w2 hbox hb1; replace BA := Aside0.mk ((hb1.block ga (blk_lt BA.out)).trans BA.out); replace BW := Aside0.mk (below_then BW.out BW.out.size hb1); have BB := Aside0.mk hbox; have za0 := (blk_cell BA.out 0).trans HA0.out; have zb0 := (blk_cell BB.out 0).trans HB0.out; have za1 := (blk_cell BA.out 1).trans HA1.out; have zb1 := (blk_cell BB.out 1).trans HB1.out; have za2 := (blk_cell BA.out 2).trans HA2.out; have zb2 := (blk_cell BB.out 2).trans HB2.out; have za3 := (blk_cell BA.out 3).trans HA3.out; have zb3 := (blk_cell BB.out 3).trans HB3.out; clear hgb hb1 hbox)
    | ((with_reducible refine gate_load (T := 49) rfl ?_); (try refine gate_guard (by rfl) ?_); first | (refine ev_cells 49 _ 42 fa rfl rfl Try.underlying49 rfl (by kernel_rfl) HSA.out rfl (part_cells 4 42 BA.out HFA.out) ?_) | (refine ev_cells 49 _ 42 fb rfl rfl Try.underlying49 rfl (by kernel_rfl) HSB.out rfl (part_cells 4 42 BB.out HFB.out) ?_))
    | (go_at_call 91; refine (HF.out _ BW.out).mono ?_; rintro e w3 ⟨rfl, hb3⟩; replace BA := Aside0.mk ((hb3.block ga (blk_lt BA.out)).trans BA.out); replace BB := Aside0.mk ((hb3.block gb (blk_lt BB.out)).trans BB.out); replace BW := Aside0.mk (below_then BW.out BW.out.size hb3); clear hb3 za0 zb0 za1 zb1 za2 zb2 za3 zb3)
    | (simp only [hs1, Bool.not_true]) | (simp only [hh1]) | (simp only [hv1]) | (simp only [hll]))
  go_loopg [5] n (fun gg v5 wr => ∃ i : Nat, i ≤ n ∧ n - i ≤ gg ∧ v5 = .int .i64 i ∧ Aside0 (Below w3.heap.size w3 wr))
  case atStart => exact ⟨0, Nat.zero_le _, by omega, rfl, ⟨Below.refl _ _⟩⟩
  case round =>
    obtain ⟨i, hi, hgg, rfl, HR⟩ := hrel
    have p0 : (0 : Int) ≤ (i : Int) := by omega
    have ya3 : wr.cell? ⟨ga, 3, none⟩ = some (.slice A n c1) := (blk_cell ((HR.out.block ga (blk_lt BA.out)).trans BA.out) 3).trans HA3.out
    have yb3 : wr.cell? ⟨gb, 3, none⟩ = some (.slice B n c2) := (blk_cell ((HR.out.block gb (blk_lt BB.out)).trans BB.out) 3).trans HB3.out
    by_cases hlt : i < n
    · have hltz : (i : Int) < (n : Int) := by omega
      have hd := decide_eq_true hltz
      obtain ⟨x, hx⟩ : ∃ x, x = l.getD i 0 := ⟨_, rfl⟩
      have hbw := below_then BW.out BW.out.size HR.out
      obtain ⟨ad, c, e1, hcl, hK, hcell⟩ := Kd.C_get (Kd.C_below HA.out hbw) (0 : Int) (i : Int) p0 hltz
      obtain ⟨bd, c', e2, hcl', hK', hcell'⟩ := Kd.C_get (Kd.C_below HB.out hbw) (0 : Int) (i : Int) p0 hltz
      obtain rfl : c = [.int .i64 (l.getD i 0)] := hK
      obtain rfl : c' = [.int .i64 (l.getD i 0)] := hK'
      cases e1; cases e2
      have hx0 := hcell 0 _ rfl
      have hy0 := hcell' 0 _ rfl
      rw [← hx] at hx0 hy0
      rw [show (Kd.int .i64).sz = 1 from rfl, Nat.add_zero, Nat.mul_one, Int.toNat_natCast] at hx0 hy0
      clear hx hbw hcell hcell' hcl hcl'
      have hxx : (x != x) = false := by simp
      go_wp2
      go_quiet (first | (simp only [hxx]))
      go_wp2
      go_roundg (n - (i + 1))
      case measure => omega
      case rel => exact ⟨i + 1, by omega, by omega, by go_num, ⟨pw_below_drewN HR.out _⟩⟩
    · obtain rfl : i = n := by omega
      have hd : decide ((i : Int) < (i : Int)) = false := decide_eq_false (by omega)
      go_wp2
      go_ret
      exact ⟨rfl, below_then BW.out BW.out.size HR.out⟩
theorem num_eq {w : World} {y : S44} {c : List Value} (h : k44.K w y c) : EqAgg 44 c.toArray c.toArray := by
  obtain rfl := k44_open h
  exact eqAgg_of (m := 4) (by decide) (fun d w => by refine (eqA44 d w _ _ _ _ _ _ _ _ _ _ _ _ _ _ _ _ _ _ _ _).trans ?_; simp only [beq_self_eq_true, Bool.and_self])
theorem vec_eq {w : World} {y : S46} {c : List Value} (h : k46.K w y c) : EqAgg 46 c.toArray c.toArray := by
  obtain rfl := k46_open h
  exact eqAgg_of (m := 5) (by decide) (fun d w => by refine (eqA46 d w _ _ _ _ _ _ _ _ _ _ _ _ _ _ _ _ _ _ _ _ _ _ _ _ _ _ _ _ _ _ _ _ _ _ _ _ _ _ _ _ _ _ _ _ _ _ _ _ _ _ _ _ _ _ _ _ _ _ _ _).trans ?_; simp only [beq_self_eq_true, Bool.and_self])
theorem ext_of (a b c : List Value) (i n : Nat) (hi : a.length = i) (hn : b.length = n) : b.toArray = (a ++ (b ++ c)).toArray.extract i (i + n) := by
  subst hi; subst hn
  apply Array.ext'
  simp
theorem at_last (a b : List Value) (v : Value) (i : Nat) (h : a.length + b.length = i) : (a ++ (b ++ [v])).toArray[i]? = some v := by
  subst h
  rw [← List.append_assoc, ← List.length_append]
  simp
/-- Two fixes that read the same. -/
theorem fixEq {w : World} {x : S49} {ca cb : Array Value} (hK : k49.K w x ca.toList) (hK' : k49.K w x cb.toList) (w1 : World) (hb : Below w.heap.size w w1) :
    Calls Try.prog 91 #[.agg ca, .agg cb] w1 fun e w' => e = .returned (.bool true) ∧ Below w1.heap.size w1 w' := by
  obtain ⟨_, _, e, rfl, ⟨d1, _, rfl, s1, ⟨p1, _, rfl, s11, ⟨A, c, rfl, l41, g41⟩⟩⟩⟩ := hK
  obtain ⟨_, _, e', rfl, ⟨d2, _, rfl, t1, ⟨p2, _, rfl, t11, ⟨B, b, rfl, m41, h41⟩⟩⟩⟩ := hK'
  obtain rfl : d2 = d1 := (k44_open t1).trans (k44_open s1).symm
  obtain rfl : p2 = p1 := (k46_open t11).trans (k46_open s11).symm
  have e10 : d2.length = 10 := by rw [k44_open s1]; rfl
  have e30 : p2.length = 30 := by rw [k46_open s11]; rfl
  have n1 := num_eq s1
  have n2 := vec_eq s11
  have ea := congrArg List.toArray e
  have eb := congrArg List.toArray e'
  simp only [Array.toArray_toList] at ea eb
  clear e e' s1 s11 t1 t11
  subst ea; subst eb
  refine sameFix_ _ _ d2.toArray p2.toArray x.f0 A B c b x.f3.length x.f3 w1 rfl rfl ?_ ?_ (ext_of [_] d2 _ 1 10 rfl e10) (ext_of [_] d2 _ 1 10 rfl e10) ?_ ?_ (by simpa using e10) (by simpa using e30) n1 n2 (Kd.C_below g41 hb) (Kd.C_below h41 hb)
  · have := at_last ([.int .i64 x.f0] ++ d2) p2 (.slice A x.f3.length c) 41 (by simp [e10, e30])
    rw [List.append_assoc] at this
    exact this
  · have := at_last ([.int .i64 x.f0] ++ d2) p2 (.slice B x.f3.length b) 41 (by simp [e10, e30])
    rw [List.append_assoc] at this
    exact this
  · have := ext_of ([.int .i64 x.f0] ++ d2) p2 [.slice A x.f3.length c] 11 30 (by simp [e10]) e30
    rw [List.append_assoc] at this
    exact this
  · have := ext_of ([.int .i64 x.f0] ++ d2) p2 [.slice B x.f3.length b] 11 30 (by simp [e10]) e30
    rw [List.append_assoc] at this
    exact this
/-- Two tiers that read the same. -/
theorem tierEq {w : World} {x : S51} {ca cb : Array Value} (hK : k51.K w x ca.toList) (hK' : k51.K w x cb.toList) (w1 : World) (hb : Below w.heap.size w w1) :
    Calls Try.prog 65 #[.agg ca, .agg cb] w1 fun e w' => e = .returned (.bool true) ∧ Below w1.heap.size w1 w' := by
  obtain ⟨_, _, e, rfl, ⟨_, _, rfl, rfl, ⟨_, _, rfl, rfl, ⟨_, fa, rfl, ⟨A, c, rfl, l3, g3⟩, s4⟩⟩⟩⟩ := hK
  obtain ⟨_, _, e', rfl, ⟨_, _, rfl, rfl, ⟨_, _, rfl, rfl, ⟨_, fb, rfl, ⟨B, b, rfl, m3, h3⟩, t4⟩⟩⟩⟩ := hK'
  have ea := congrArg List.toArray e
  have eb := congrArg List.toArray e'
  simp only [Array.toArray_toList] at ea eb
  clear e e'
  subst ea; subst eb
  have l1 : fa.length = 42 := k49.K_len s4
  have l2 : fb.length = 42 := k49.K_len t4
  have ha := ext_of [.string x.f0, .int .i64 x.f1, .int .i64 x.f2, .slice A x.f3.length c] fa [] 4 42 rfl l1
  have hb' := ext_of [.string x.f0, .int .i64 x.f1, .int .i64 x.f2, .slice B x.f3.length b] fb [] 4 42 rfl l2
  rw [List.append_nil] at ha hb'
  exact sameTier_ _ _ fa.toArray fb.toArray x.f0 x.f1 x.f2 A B c b x.f3.length x.f3 w1 rfl rfl rfl rfl rfl rfl rfl rfl ha hb' (by simpa using l1) (by simpa using l2)
    (fun w2 hb2 => fixEq (w := w) (x := x.f4) (by simpa using s4) (by simpa using t4) w2 (below_then hb hb.size hb2)) (Kd.C_below g3 hb) (Kd.C_below h3 hb)
end Go.Proofs.Ytncemdpmooakgaa.XK
