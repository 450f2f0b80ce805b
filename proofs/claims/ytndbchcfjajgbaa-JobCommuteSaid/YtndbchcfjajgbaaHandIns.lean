/- slices.Insert and slices.Delete at pieces (four cells), walked. -/
import Derived.Test.YtndbchcfjajgbaaXB
import Derived.Test.YtndbchcfjajgbaaXP0
import Derived.Test.YtndbchcfjajgbaaXH
import Derived.Lib.Overlaps
import Derived.Lib.AppendZerosOnto
import Derived.Laws.Externs
import Derived.Laws.CopyRow
import Derived.Laws.IdiomCopy
namespace Go.Proofs.Ytndbchcfjajgbaa.XP
open Go.Proofs.Ytndbchcfjajgbaa.XB Go.Proofs.Ytndbchcfjajgbaa.XQ
open Go.RowKit Go.Proofs Go.Proofs.YtndbchcfjajgbaaW.PrintWords Go.Proofs.YtndbchcfjajgbaaW.PrintLast Go.Proofs.Ytndbchcfjajgbaa.XH
set_option linter.unusedVariables false
set_option linter.unusedSimpArgs false
/-- copy at elements of k cells. -/
theorem run_copy_rowk (P : Program) (k : Nat) (w : World) (dT sT ty elem : TypeId) (g o dLen dCap : Nat) (a : Addr) (sLen sCap : Nat) (cur : Array Value) (t : TypeId) (cs : List Value)
    (hu : P.underlying dT = some (.slice elem)) (hs : (P.info? elem).map (·.size) = some k)
    (hg : w.heap[g]? = some (.cells cur t (0, 0))) (hn : cs.length = Nat.min sLen dLen * k)
    (hsrc : ∀ j v, cs[j]? = some v → w.cell? (a.add j) = some v) (hfit : o + cs.length ≤ cur.size) (h1 : ∀ v ∈ cs, v.oneCell' = true) :
    (Builtin.copy_ #[dT, sT] ty #[.slice (some ⟨g, o, none⟩) dLen dCap, .slice (some a) sLen sCap]).run P w =
      .ok (goInt (Nat.min sLen dLen : Nat)) (w.setRow g (cur.toList.take o ++ cs ++ cur.toList.drop (o + cs.length)).toArray) := by
  have hl := run_loadCells_list (P := P) w a cs hsrc
  have hst := run_storeCells_at P g o t cs 0 cur w hg (by simpa using hfit) h1
  rw [hn] at hl
  cases hq : P.info? elem with
  | none => simp [hq] at hs
  | some i =>
    have hi : i.size = k := by simpa [hq] using hs
    have hl' : (Builtin.firstCells k (Nat.min sLen dLen) (.slice (some a) sLen sCap)).run P w = .ok cs.toArray w := hl
    subst hi
    simp only [Nat.add_zero] at hst
    simp [Builtin.copy_, run_underlying hu, Builtin.lenOf, sizeOf, typeInfo, hq, hl', hst]
def pcs (x : S24) : List Value := [.string x.f0, .string x.f1, .int .i64 x.f2, .int .i64 x.f3]
def cells4 (l : List S24) : List Value := l.flatMap pcs
theorem pcs_len (x : S24) : (pcs x).length = 4 := rfl
theorem cells4_len : ∀ l : List S24, (cells4 l).length = l.length * 4
  | [] => rfl
  | x :: l => by simp only [cells4, List.flatMap_cons, List.length_append, pcs_len, List.length_cons]; have := cells4_len l; simp only [cells4] at this; omega
theorem cells4_app (l m : List S24) : cells4 (l ++ m) = cells4 l ++ cells4 m := by simp [cells4]
theorem cells4_cons (x : S24) (l : List S24) : cells4 (x :: l) = pcs x ++ cells4 l := by simp [cells4]
theorem cells4_take (l : List S24) (k : Nat) (hk : k ≤ l.length) : (cells4 l).take (k * 4) = cells4 (l.take k) := by
  conv => lhs; rw [← List.take_append_drop k l, cells4_app]
  rw [List.take_append_of_le_length t_80, List.take_of_length_le t_80]
theorem cells4_drop (l : List S24) (k : Nat) (hk : k ≤ l.length) : (cells4 l).drop (k * 4) = cells4 (l.drop k) := by
  conv => lhs; rw [← List.take_append_drop k l, cells4_app]
  rw [List.drop_append_of_le_length t_80, List.drop_of_length_le t_80]
  rfl
theorem cells4_one (l : List S24) : ∀ v ∈ cells4 l, v.oneCell' = true := by
  intro v hv
  simp only [cells4, List.mem_flatMap, pcs, List.mem_cons, List.not_mem_nil, or_false] at hv
  obtain ⟨x, _, rfl | rfl | rfl | rfl⟩ := hv <;> rfl
theorem reps_cells {R : S24 → List Value → Prop} (hR : ∀ x cs, R x cs → cs = pcs x) : ∀ (xs : List S24) (cs : List Value), Reps R 4 xs cs → cs = cells4 xs
  | [], cs, h => by have := h.1; simp at this; subst this; rfl
  | x :: xs, cs, h => by
    have h0 := hR _ _ (h.2 0 x rfl)
    simp only [Nat.zero_mul, List.drop_zero] at h0
    have h1 := reps_cells hR xs (cs.drop 4) ⟨by rw [List.length_drop, h.1, List.length_cons]; omega, fun j p hp => by
      have := h.2 (j + 1) p (by simpa using hp)
      rwa [show (j + 1) * 4 = 4 + j * 4 by omega, ← List.drop_drop] at this⟩
    rw [cells4_cons, ← h0, ← h1, List.take_append_drop]
theorem cells_reps {R : S24 → List Value → Prop} (hR : ∀ x, R x (pcs x)) (xs : List S24) : Reps R 4 xs (cells4 xs) := by
  refine ⟨cells4_len xs, fun j p hp => ?_⟩
  obtain ⟨hj, rfl⟩ := List.getElem?_eq_some_iff.1 hp
  rw [cells4_drop _ _ (by omega), List.drop_eq_getElem_cons hj, cells4_cons, List.take_append_of_le_length (by rw [pcs_len]; omega), List.take_of_length_le (by rw [pcs_len]; omega)]
  exact hR _
theorem R24_open {w : World} {base : Nat} {ok : Nat → Prop} {v : Value} {xs : List S24} (h : Kd.R k24 24 w base ok v xs) :
    (v = .slice none 0 0 ∧ xs = []) ∨ ∃ g cap cur, v = .slice (some ⟨g, 0, none⟩) xs.length cap ∧ base ≤ g ∧ ok g ∧ w.heap[g]? = some (.cells cur 24 (0, 0)) ∧ xs.length ≤ cap ∧ cap ≤ maxLen ∧ cur.size = cap * 4 ∧ cur.toList.take (xs.length * 4) = cells4 xs := by
  obtain ⟨h0, inner, ho, hr⟩ := h
  have hi : inner = cells4 xs := reps_cells (fun x cs hM => by have := k24_openM hM; rw [this]; rfl) xs inner hr
  subst hi
  rcases ho.2 with ⟨rfl, hn⟩ | ⟨g, cap, cur, rfl, hb, hg, hc, hm, hs, ht⟩
  · exact .inl ⟨rfl, List.eq_nil_of_length_eq_zero hn⟩
  · exact .inr ⟨g, cap, cur, rfl, hb, h0 g (by simp [Value.ownBlock]), hg, hc, hm, hs, ht⟩
theorem R24_mk {w : World} {base : Nat} {ok : Nat → Prop} {xs : List S24} {g cap : Nat} {cur : Array Value} {n : Nat} (hn : n = xs.length) (hb : base ≤ g) (hok : ok g) (hg : w.heap[g]? = some (.cells cur 24 (0, 0))) (hc : xs.length ≤ cap) (hm : cap ≤ maxLen) (hs : cur.size = cap * 4) (ht : cur.toList.take (xs.length * 4) = cells4 xs) :
    Kd.R k24 24 w base ok (.slice (some ⟨g, 0, none⟩) n cap) xs := by
  subst hn
  refine ⟨fun k hk => ?_, cells4 xs, ⟨cells4_len xs, .inr ⟨g, cap, cur, rfl, hb, hg, hc, hm, hs, ht⟩⟩, cells_reps (fun x => k24_mkM w base _ x) xs⟩
  obtain rfl : g = k := by simpa [Value.ownBlock] using hk
  exact hok
def z24v : Value := .agg #[(.string ⟨#[]⟩), (.string ⟨#[]⟩), (.int .i64 0), (.int .i64 0)]
theorem one_reads {w : World} {vb : Nat} {p : S24} (h : w.heap[vb]? = some (.cells (pcs p).toArray 24 (0, 0))) : ReadsRow (fun x cs => cs = pcs x) 4 w (some ⟨vb, 0, none⟩) 1 [p] :=
  ⟨rfl, by omega, fun _ => ⟨_, rfl, fun j q hq => by
    cases j with
    | succ j => simp at hq
    | zero =>
      simp at hq
      subst hq
      refine ⟨pcs p, rfl, rfl, fun i u hu => ?_⟩
      rw [Nat.zero_mul, Nat.zero_add, show (⟨vb, 0, none⟩ : Addr).add i = ⟨vb, i, none⟩ by unfold Addr.add; split <;> simp_all, blk_cell h]
      simpa using hu⟩⟩
set_option maxHeartbeats 8000000 in
set_option maxRecDepth 100000 in
theorem ins_end (p : S24) (xs : List S24) (w : World) (base vb : Nat) (v : Value) (hvb : w.heap[vb]? = some (.cells (pcs p).toArray 24 (0, 0))) (HO : Kd.R k24 24 w base (fun k => k ≠ vb) v xs) (hbase : base ≤ w.heap.size) (hn : xs.length ≤ 1000) :
    Calls Try.prog 101 #[v, .int .i64 (xs.length : Nat), .slice (some ⟨vb, 0, none⟩) 1 1] w fun e w' => ∃ v', e = .returned v' ∧ Kd.R k24 24 w' base (fun _ => True) v' (xs ++ [p]) ∧ Below base w w' ∧ w.grownBy w' v.ownBlock := by
  have HO' := Aside0.mk HO
  have HV := Aside0.mk (one_reads hvb)
  have HL := Aside0.mk (blk_lt hvb)
  have HB := Aside0.mk hbase
  obtain ⟨A, c, rfl, hc, _⟩ := Kd.R_reads HO
  have hnil : A = none → xs.length = 0 ∧ c = 0 := fun h => by
    rcases R24_open HO with ⟨he, hx⟩ | ⟨g, cap, cur, he, _⟩
    · injection he with _ _ h3; subst hx; exact ⟨rfl, h3⟩
    · injection he with h1; rw [h] at h1; cases h1
  obtain ⟨n, hnn⟩ : ∃ n, n = xs.length := ⟨_, rfl⟩
  rw [← hnn] at HO' hn hc hnil ⊢
  have HN := Aside0.mk hnn
  clear HO hvb hbase hnn
  cases A with
  | none =>
    obtain ⟨h1, h2⟩ := hnil rfl
    subst h1
    subst h2
    clear hnil hn hc
    go_enter Try.func101, Try.ntmps101
    go_wp2_with (at_builtin; refine Kd.R_append_rows k24 (Rr := fun x cs => cs = pcs x) (w0 := w) base rfl (.tmp 23) (.tmp 24) 22 24 z24v 48 rfl Try.underlying22 info24 rfl (by decide) (by omega) _ xs [p] (some ⟨vb, 0, none⟩) 1 1 (fun k => k ≠ vb) (fun _ => False) rfl rfl HO'.out HV.out (fun x cs hx => by subst hx; exact k24_mkM _ _ _ x) (fun _ hk => hk.elim) (fun k hk => by have := HL.out; omega) (Below.refl _ _) HB.out (by rw [← HN.out]; omega) ?_; intro v1 w1 ho1 hb1 hgr _)
    go_ret
    exact ⟨v1, rfl, Kd.R_mono ho1 (fun _ _ => trivial), hb1, hgr⟩
  | some ad =>
    clear hnil
    obtain ⟨ab, ao, asp⟩ := ad
    go_enter Try.func101, Try.ntmps101
    go_wp2_with (at_builtin; refine Kd.R_append_rows k24 (Rr := fun x cs => cs = pcs x) (w0 := w) base rfl (.tmp 23) (.tmp 24) 22 24 z24v 48 rfl Try.underlying22 info24 rfl (by decide) (by omega) _ xs [p] (some ⟨vb, 0, none⟩) 1 1 (fun k => k ≠ vb) (fun _ => False) rfl rfl HO'.out HV.out (fun x cs hx => by subst hx; exact k24_mkM _ _ _ x) (fun _ hk => hk.elim) (fun k hk => by have := HL.out; omega) (Below.refl _ _) HB.out (by rw [← HN.out]; omega) ?_; intro v1 w1 ho1 hb1 hgr _)
    all_goals (go_ret; exact ⟨v1, rfl, Kd.R_mono ho1 (fun _ _ => trivial), hb1, hgr⟩)
theorem step_copy_runI {P : Program} {ops : Array Oper} {o : Oper} {a : Act} {w : World} {K : Act → World → Prop} {Q : Exit → Act → World → Prop} {E : Prop}
    (hg : o.guard = none) (d x : Operand) (dT sT : TypeId) (hop : o.op = Op.call { callee := Callee.builtin Builtin.copy, args := #[d, x], argTypes := #[dT, sT] })
    (v u : Value) (hd : a.eval d = v) (hx : a.eval x = u) {v' : Value} {w' : World} (hr : (Builtin.copy_ #[dT, sT] o.type #[v, u]).run P w = .ok v' w') (hK : K (a.put o.dst v') w') :
    if Region.wanted o (yielded ops a.tmps) = true then Oper.wp P o a w K Q else E := by
  have hw : Region.wanted o (yielded ops a.tmps) = true := by simp [Region.wanted, hg]
  rw [if_pos hw]
  unfold Oper.wp
  simp [execOp, hop, resolve, invoke, builtin, hd, hx, hr, Result.andThen]
  exact hK
theorem copy24 (w : World) (ty : TypeId) (g o dLen dCap so sg sLen sCap : Nat) (cur : Array Value) (cs : List Value) (hg : w.heap[g]? = some (.cells cur 24 (0, 0))) (hn : cs.length = Nat.min sLen dLen * 4)
    (src : Array Value) (hsg : w.heap[sg]? = some (.cells src 24 (0, 0))) (hsrc : ∀ j v, cs[j]? = some v → src[so + j]? = some v) (hfit : o + cs.length ≤ cur.size) (h1 : ∀ v ∈ cs, v.oneCell' = true) :
    (Builtin.copy_ #[22, 22] ty #[.slice (some ⟨g, o, none⟩) dLen dCap, .slice (some ⟨sg, so, none⟩) sLen sCap]).run Try.prog w =
      .ok (goInt (Nat.min sLen dLen : Nat)) (w.setRow g (cur.toList.take o ++ cs ++ cur.toList.drop (o + cs.length)).toArray) :=
  run_copy_rowk Try.prog 4 w 22 22 ty 24 g o dLen dCap ⟨sg, so, none⟩ sLen sCap cur 24 cs Try.underlying22 t_8e hg hn
    (fun j v hj => by rw [show (⟨sg, so, none⟩ : Addr).add j = ⟨sg, so + j, none⟩ by unfold Addr.add; split <;> simp_all, blk_cell hsg]; exact hsrc j v hj) hfit h1
set_option maxHeartbeats 8000000 in
set_option maxRecDepth 100000 in
theorem ins_shift (p : S24) (xs : List S24) (w : World) (g cap vb i : Nat) (cur : Array Value) (hvb : w.heap[vb]? = some (.cells (pcs p).toArray 24 (0, 0))) (hg : w.heap[g]? = some (.cells cur 24 (0, 0))) (hne : vb ≠ g)
    (hi : i < xs.length) (hn : xs.length ≤ 1000) (hroom : xs.length + 1 ≤ cap) (hm : cap ≤ maxLen) (hs : cur.size = cap * 4) (ht : cur.toList.take (xs.length * 4) = cells4 xs) :
    Calls Try.prog 101 #[.slice (some ⟨g, 0, none⟩) xs.length cap, .int .i64 i, .slice (some ⟨vb, 0, none⟩) 1 1] w fun e w' => ∃ cur', e = .returned (.slice (some ⟨g, 0, none⟩) (xs.length + 1) cap) ∧ w' = w.drew.setRow g cur' ∧ cur'.size = cap * 4 ∧ cur'.toList.take ((xs.length + 1) * 4) = cells4 (xs.take i ++ p :: xs.drop i) := by
  have hm' : cap ≤ 9223372036854775807 := by unfold maxLen at hm; exact hm
  have hov : ∀ o lb cb, (callFunc 121 #[.slice (some ⟨vb, 0, none⟩) 1 1, .slice (some ⟨g, o, none⟩) lb cb]).run Try.prog w = .ok (.value (.bool false)) w := fun o lb cb => by
    rw [run_callFunc_extern Try.func121 t_8e t_8e t_8e (e := Extern.SlicesOverlaps.overlaps #[22, 22] #[4]) t_8e,
      Lib.run_overlaps_apart w 22 4 24 Try.underlying22 4 Try.sizeOf24 ⟨vb, 0, none⟩ ⟨g, o, none⟩ 1 1 lb cb hne 24 24 4 (cap * 4) (by simp [World.shape?, hvb, pcs]) (by simp [World.shape?, hg, hs]) (by omega) (blk_frozen hvb _) (blk_frozen hvb _)]
    rfl
  have mixed : Try.prog.follows Departure.mixedOrders = true := by kernel_rfl
  obtain ⟨n, hnn⟩ : ∃ n, n = xs.length := ⟨_, rfl⟩
  rw [← hnn] at hi hn hroom ⊢
  have hcl : (cells4 (xs.drop i)).length = (n - i) * 4 := by rw [cells4_len, List.length_drop, hnn]
  have hcut : cells4 (xs.drop i) = (cells4 xs).drop (i * 4) := (cells4_drop xs i (by omega)).symm
  obtain ⟨S1, hS1⟩ : ∃ S1, S1 = cur.toList.take ((i + 1) * 4) ++ cells4 (xs.drop i) ++ cur.toList.drop ((i + 1) * 4 + (cells4 (xs.drop i)).length) := ⟨_, rfl⟩
  have hS1l : S1.length = cap * 4 := by rw [hS1]; simp only [List.length_append, List.length_take, List.length_drop, Array.length_toList, hcl, hs]; omega
  have hcp1 : ∀ ty, (Builtin.copy_ #[22, 22] ty #[.slice (some ⟨g, (i + 1) * 4, none⟩) (n - i) (cap - (i + 1)), .slice (some ⟨g, i * 4, none⟩) (n + 1 - i) (cap - i)]).run Try.prog w.drew = .ok (goInt (Nat.min (n + 1 - i) (n - i) : Nat)) (w.drew.setRow g S1.toArray) := fun ty => by
    rw [hS1]
    refine copy24 w.drew ty g ((i + 1) * 4) (n - i) _ (i * 4) g (n + 1 - i) _ cur (cells4 (xs.drop i)) (by exact hg) ?_ cur (by exact hg) (fun j v hj => ?_) ?_ (cells4_one _)
    · rw [hcl]; congr 1; simp only [Nat.min_def]; split <;> omega
    · have hjl : j < (n - i) * 4 := by rw [← hcl]; exact (List.getElem?_eq_some_iff.1 hj).1
      rw [hcut, ← ht, List.getElem?_drop, List.getElem?_take_of_lt (by omega)] at hj
      simpa using hj
    · rw [hcl, hs]; omega
  obtain ⟨S2, hS2⟩ : ∃ S2, S2 = S1.take (i * 4) ++ pcs p ++ S1.drop (i * 4 + (pcs p).length) := ⟨_, rfl⟩
  obtain ⟨W1, hW1⟩ : ∃ W1, W1 = w.drew.setRow g S1.toArray := ⟨_, rfl⟩
  have hg1 : W1.heap[g]? = some (.cells S1.toArray 24 (0, 0)) := by rw [hW1]; exact setRow_heap w.drew g _ _ 24 _ (by exact hg)
  have hv1 : W1.heap[vb]? = some (.cells (pcs p).toArray 24 (0, 0)) := by rw [hW1]; exact (setRow_other w.drew g vb _ hne).trans hvb
  have hcp2 : ∀ ty, (Builtin.copy_ #[22, 22] ty #[.slice (some ⟨g, i * 4, none⟩) (n + 1 - i) (cap - i), .slice (some ⟨vb, 0, none⟩) 1 1]).run Try.prog W1 = .ok (goInt (Nat.min 1 (n + 1 - i) : Nat)) (W1.setRow g S2.toArray) := fun ty => by
    rw [hS2]
    refine copy24 W1 ty g (i * 4) (n + 1 - i) _ 0 vb 1 _ S1.toArray (pcs p) hg1 ?_ (pcs p).toArray hv1 (fun j v hj => ?_) ?_ (fun v hv => cells4_one [p] v (by simpa [cells4] using hv))
    · rw [pcs_len]; simp only [Nat.min_def]; split <;> omega
    · simpa using hj
    · simp only [pcs_len, List.size_toArray, hS1l]; omega
  have hfin : S2.take ((n + 1) * 4) = cells4 (xs.take i ++ p :: xs.drop i) := by
    have h1 : S1.take (i * 4) = cells4 (xs.take i) := by
      rw [hS1, List.append_assoc, List.take_append_of_le_length t_70, List.take_take, Nat.min_eq_left (by omega), ← cells4_take xs i (by omega), ← ht, List.take_take, Nat.min_eq_left (by omega)]
    have h2 : (S1.drop (i * 4 + 4)).take ((n - i) * 4) = cells4 (xs.drop i) := by
      rw [hS1, show i * 4 + 4 = (i + 1) * 4 by omega, List.append_assoc, List.drop_append_of_le_length t_70, List.drop_of_length_le t_70, List.nil_append, List.take_append_of_le_length (by omega), List.take_of_length_le (by omega)]
    have hl1 : (S1.take (i * 4)).length = i * 4 := by rw [List.length_take, hS1l]; omega
    rw [hS2, pcs_len, List.take_append, List.take_of_length_le (by simp only [List.length_append, hl1, pcs_len]; omega), show (n + 1) * 4 - (S1.take (i * 4) ++ pcs p).length = (n - i) * 4 by simp only [List.length_append, hl1, pcs_len]; omega, h2, h1, cells4_app, cells4_cons, List.append_assoc]
  have hS2l : S2.length = cap * 4 := by rw [hS2]; simp only [List.length_append, List.length_take, List.length_drop, pcs_len, hS1l]; omega
  have HF := Aside0.mk hfin
  have HSL := Aside0.mk hS2l
  have HW : Aside0 (W1.setRow g S2.toArray = w.drew.setRow g S2.toArray) := ⟨by rw [hW1, setRow_setRow]⟩
  rw [← hW1] at hcp1
  clear hg hvb ht hnn hcl hcut hS1 hS1l hS2 hW1 hg1 hv1 hfin hS2l
  have hw1 : IntKind.i64.wrap ((i : Int) + 1) = (i : Int) + 1 := by rw [IntKind.wrap_i64]; omega
  have hb1 : (0 : Int) ≤ (i : Int) + 1 := by omega
  have hin : i ≤ n := by omega
  have htn : ((i : Int) + 1).toNat = i + 1 := by omega
  have hb2 : ¬ (cap = i + 1) := by omega
  have hb3 : (i : Int) ≤ (n : Int) + 1 := by omega
  have hb4 : ¬ (cap = i) := by omega
  go_enter Try.func101, Try.ntmps101
  go_wp2_with (simp only [hov])
  go_region_law_o (refine step_copy_runI rfl _ _ 22 22 rfl _ _ t_86 t_86 (hcp1 _) ?_)
  go_wp2_with (at_builtin; refine wpList_copy_runI _ rfl _ _ 22 22 rfl _ _ rfl rfl (hcp2 _) ?_)
  go_ret
  exact ⟨S2.toArray, rfl, HW.out, by simpa using HSL.out, by simpa using HF.out⟩
set_option maxHeartbeats 8000000 in
set_option maxRecDepth 100000 in
theorem ins_grow (p : S24) (xs : List S24) (w : World) (g cap vb i : Nat) (cur : Array Value) (hvb : w.heap[vb]? = some (.cells (pcs p).toArray 24 (0, 0))) (hg : w.heap[g]? = some (.cells cur 24 (0, 0)))
    (hi : i < xs.length) (hn : xs.length ≤ 1000) (hc : xs.length ≤ cap) (hroom : cap < xs.length + 1) (hs : cur.size = cap * 4) (ht : cur.toList.take (xs.length * 4) = cells4 xs) :
    Calls Try.prog 101 #[.slice (some ⟨g, 0, none⟩) xs.length cap, .int .i64 i, .slice (some ⟨vb, 0, none⟩) 1 1] w fun e w' => ∃ cur' gc, e = .returned (.slice (some ⟨w.heap.size, 0, none⟩) (xs.length + 1) gc) ∧ Below w.heap.size w w' ∧ w'.heap[w.heap.size]? = some (.cells cur' 24 (0, 0)) ∧ xs.length + 1 ≤ gc ∧ gc ≤ maxLen ∧ cur'.size = gc * 4 ∧ cur'.toList.take ((xs.length + 1) * 4) = cells4 (xs.take i ++ p :: xs.drop i) := by
  have mixed : Try.prog.follows Departure.mixedOrders = true := by kernel_rfl
  obtain ⟨n, hnn⟩ : ∃ n, n = xs.length := ⟨_, rfl⟩
  rw [← hnn] at hi hn hroom hc ⊢
  obtain rfl : cap = n := by omega
  have hcl : (cells4 (xs.drop i)).length = (cap - i) * 4 := by rw [cells4_len, List.length_drop, hnn]
  have hcut : cells4 (xs.drop i) = (cells4 xs).drop (i * 4) := (cells4_drop xs i (by omega)).symm
  have hold : cells4 (xs.take i) = (cells4 xs).take (i * 4) := (cells4_take xs i (by omega)).symm
  have hol : (cells4 (xs.take i)).length = i * 4 := by rw [cells4_len, List.length_take]; omega
  obtain ⟨ii, hii, hz, hsz, hbz⟩ : ∃ ii, Try.prog.info? 24 = some ii ∧ ii.zero = some z24v ∧ ii.size = 4 ∧ ii.bytes = 48 := by
    have h := info24
    cases hq : Try.prog.info? 24 with
    | none => rw [hq] at h; simp at h
    | some ii => rw [hq] at h; simp only [Option.map_some, Option.some.injEq, Prod.mk.injEq] at h; exact ⟨ii, rfl, h.1, h.2.1, h.2.2⟩
  obtain ⟨gc, hgc⟩ : ∃ gc, gc = grownCap w (i + (cap + 1 - i)) cap 24 := ⟨_, rfl⟩
  have hgc1 : cap + 1 ≤ gc := by rw [hgc]; exact Nat.le_trans (by omega) (grownCap_ge w _ cap 24)
  have hgc2 : gc ≤ maxLen := by rw [hgc]; exact grownCap_le_maxLen w _ cap 24 (by unfold maxLen; omega)
  obtain ⟨h, hh⟩ : ∃ h, h = w.heap.size := ⟨_, rfl⟩
  obtain ⟨N0, hN0⟩ : ∃ N0 : Array Value, N0 = (cells4 (xs.take i)).toArray ++ Builtin.zeroCells z24v.cells (cap + 1 - i) ++ Builtin.zeroCells z24v.cells (gc - (i + (cap + 1 - i))) := ⟨_, rfl⟩
  have hN0l : N0.toList.length = gc * 4 := by
    rw [hN0]; simp only [Array.toList_append, List.length_append, Array.length_toList, hol, size_zeroCells, show z24v.cells.size = 4 from rfl]; omega
  have hN0t : N0.toList.take (i * 4) = cells4 (xs.take i) := by
    rw [hN0]; simp only [Array.toList_append, List.append_assoc]; rw [List.take_append_of_le_length (by omega), List.take_of_length_le (by omega)]
  obtain ⟨W0, hW0⟩ : ∃ W0, W0 = w.drew.alloc (.cells N0 24 (0, 0)) := ⟨_, rfl⟩
  have hrun : ∀ ty, (Builtin.append_ #[22, 3] ty #[.slice (some ⟨g, 0, none⟩) i cap, .int .i64 ((cap : Int) + 1 - (i : Int))]).run Try.prog w = .ok (.slice (some ⟨h, 0, none⟩) (cap + 1) gc) W0 := fun ty => by
    have hk : ((cap : Int) + 1 - (i : Int)) = ((cap + 1 - i : Nat) : Int) := by omega
    have := Lib.run_append_grow_zeros (P := Try.prog) w 22 3 ty 24 ii z24v .i64 .i64 Try.underlying22 Try.underlying3 hii hz (some ⟨g, 0, none⟩) i cap (cells4 (xs.take i))
      (run_firstCells_some (w := w.drew) ii.size i ⟨g, 0, none⟩ i cap (cells4 (xs.take i)) (by rw [hol, hsz]) (fun j v hj => by
        rw [show (⟨g, 0, none⟩ : Addr).add j = ⟨g, 0 + j, none⟩ by unfold Addr.add; split <;> simp_all, blk_cell (w := w.drew) (by exact hg), Nat.zero_add]
        have hjl : j < i * 4 := by rw [← hol]; exact (List.getElem?_eq_some_iff.1 hj).1
        rw [hold, ← ht, List.getElem?_take_of_lt hjl, List.getElem?_take_of_lt (by omega)] at hj
        simpa using hj))
      (cap + 1 - i) (by omega) (by omega) (by omega) (by omega) (by rw [hbz]; omega) (by rw [hbz]; exact growslice_fits (by omega) (by omega))
    rw [hk, this, ← hgc, hW0, hN0, hh, show i + (cap + 1 - i) = cap + 1 by omega]
  have hg0 : W0.heap[g]? = some (.cells cur 24 (0, 0)) := by
    rw [hW0]; exact blk_alloc (by exact hg) _
  have hv0 : W0.heap[vb]? = some (.cells (pcs p).toArray 24 (0, 0)) := by
    rw [hW0]; exact blk_alloc (by exact hvb) _
  have hh0 : W0.heap[h]? = some (.cells N0 24 (0, 0)) := by rw [hW0, hh]; exact blk_new _ _
  have hB0 : Below w.heap.size w W0 := by rw [hW0]; exact below_alloc (below_drew (Below.refl _ _)) _
  have hgh : g ≠ h := by have := blk_lt hg; omega
  have hvh : vb ≠ h := by have := blk_lt hvb; omega
  obtain ⟨N1, hN1⟩ : ∃ N1, N1 = N0.toList.take (i * 4) ++ pcs p ++ N0.toList.drop (i * 4 + (pcs p).length) := ⟨_, rfl⟩
  have hN1l : N1.length = gc * 4 := by rw [hN1]; simp only [List.length_append, List.length_take, List.length_drop, pcs_len, hN0l]; omega
  obtain ⟨W1, hW1⟩ : ∃ W1, W1 = W0.setRow h N1.toArray := ⟨_, rfl⟩
  have hcp1 : ∀ ty, (Builtin.copy_ #[22, 22] ty #[.slice (some ⟨h, i * 4, none⟩) (cap + 1 - i) (gc - i), .slice (some ⟨vb, 0, none⟩) 1 1]).run Try.prog W0 = .ok (goInt (Nat.min 1 (cap + 1 - i) : Nat)) W1 := fun ty => by
    rw [hW1, hN1]
    refine copy24 W0 ty h (i * 4) (cap + 1 - i) _ 0 vb 1 _ N0 (pcs p) hh0 ?_ (pcs p).toArray hv0 (fun j v hj => ?_) ?_ (fun v hv => cells4_one [p] v (by simpa [cells4] using hv))
    · rw [pcs_len]; simp only [Nat.min_def]; split <;> omega
    · simpa using hj
    · have : N0.size = gc * 4 := by simpa using hN0l
      rw [this, pcs_len]; omega
  have hh1 : W1.heap[h]? = some (.cells N1.toArray 24 (0, 0)) := by rw [hW1]; exact setRow_heap W0 h _ _ 24 _ hh0
  have hg1 : W1.heap[g]? = some (.cells cur 24 (0, 0)) := by rw [hW1]; exact (setRow_other W0 h g _ hgh).trans hg0
  have hB1 : Below w.heap.size w W1 := by rw [hW1]; exact hB0.trans ⟨rfl, rfl, rfl, t_89, fun k hk => setRow_other W0 h k _ (by omega)⟩
  obtain ⟨N2, hN2⟩ : ∃ N2, N2 = N1.take ((i + 1) * 4) ++ cells4 (xs.drop i) ++ N1.drop ((i + 1) * 4 + (cells4 (xs.drop i)).length) := ⟨_, rfl⟩
  have hN2l : N2.length = gc * 4 := by rw [hN2]; simp only [List.length_append, List.length_take, List.length_drop, hcl, hN1l]; omega
  obtain ⟨W2, hW2⟩ : ∃ W2, W2 = W1.drew.setRow h N2.toArray := ⟨_, rfl⟩
  have hcp2 : ∀ ty, (Builtin.copy_ #[22, 22] ty #[.slice (some ⟨h, (i + 1) * 4, none⟩) (cap - i) (gc - (i + 1)), .slice (some ⟨g, i * 4, none⟩) (cap - i) (cap - i)]).run Try.prog W1.drew = .ok (goInt (Nat.min (cap - i) (cap - i) : Nat)) W2 := fun ty => by
    rw [hW2, hN2]
    refine copy24 W1.drew ty h ((i + 1) * 4) (cap - i) _ (i * 4) g (cap - i) _ N1.toArray (cells4 (xs.drop i)) (by exact hh1) ?_ cur (by exact hg1) (fun j v hj => ?_) ?_ (cells4_one _)
    · rw [hcl]; congr 1; simp only [Nat.min_def]; split <;> omega
    · have hjl : j < (cap - i) * 4 := by rw [← hcl]; exact (List.getElem?_eq_some_iff.1 hj).1
      rw [hcut, ← ht, List.getElem?_drop, List.getElem?_take_of_lt (by omega)] at hj
      simpa using hj
    · rw [hcl]; simp only [List.size_toArray, hN1l]; omega
  have hh2 : W2.heap[h]? = some (.cells N2.toArray 24 (0, 0)) := by rw [hW2]; exact setRow_heap W1.drew h _ _ 24 _ (by exact hh1)
  have hB2 : Below w.heap.size w W2 := by rw [hW2]; exact (below_drew hB1).trans ⟨rfl, rfl, rfl, t_89, fun k hk => setRow_other W1.drew h k _ (by omega)⟩
  have hfin : N2.take ((cap + 1) * 4) = cells4 (xs.take i ++ p :: xs.drop i) := by
    have h1 : N1.take ((i + 1) * 4) = cells4 (xs.take i) ++ pcs p := by
      rw [hN1, hN0t, List.take_append_of_le_length (by simp only [List.length_append, hol, pcs_len]; omega), List.take_of_length_le (by simp only [List.length_append, hol, pcs_len]; omega)]
    rw [hN2, h1, List.take_append_of_le_length (by simp only [List.length_append, hol, pcs_len, hcl]; omega), List.take_of_length_le (by simp only [List.length_append, hol, pcs_len, hcl]; omega), cells4_app, cells4_cons, List.append_assoc]
  rw [← hh] at hB2 ⊢
  have HFIN := Aside0.mk (⟨hB2, hh2, hgc1, hgc2, by simpa using hN2l, by simpa using hfin⟩ : Below h w W2 ∧ W2.heap[h]? = some (.cells N2.toArray 24 (0, 0)) ∧ cap + 1 ≤ gc ∧ gc ≤ maxLen ∧ N2.toArray.size = gc * 4 ∧ N2.toArray.toList.take ((cap + 1) * 4) = cells4 (xs.take i ++ p :: xs.drop i))
  have HN := Aside0.mk hnn
  clear hvb hg hs ht hcl hcut hold hol hii hz hsz hbz hgc hN0 hN0l hN0t hW0 hg0 hv0 hh0 hB0 hgh hvh hN1 hN1l hW1 hh1 hg1 hB1 hN2 hN2l hW2 hh2 hB2 hfin hnn hh
  unfold maxLen at hgc2
  have hw1 : IntKind.i64.wrap ((i : Int) + 1) = (i : Int) + 1 := by rw [IntKind.wrap_i64]; omega
  have hb1 : (0 : Int) ≤ (i : Int) + 1 := by omega
  have hin : i ≤ cap := by omega
  have htn : ((i : Int) + 1).toNat = i + 1 := by omega
  have hb2 : ¬ (gc = i + 1) := by omega
  have hb3 : (i : Int) ≤ (cap : Int) + 1 := by omega
  have hb4 : ¬ (cap = i) := by omega
  have hb5 : ¬ (gc = i) := by omega
  go_enter Try.func101, Try.ntmps101
  go_wp2_with (at_builtin; first | (refine Lib.wpList_append_run _ rfl _ _ _ _ rfl _ _ rfl rfl _ _ (hrun _) ?_) | (refine wpList_copy_runI _ rfl _ _ 22 22 rfl _ _ rfl rfl (hcp1 _) ?_))
  go_region_law_o (refine step_copy_runI rfl _ _ 22 22 rfl _ _ t_86 t_86 (hcp2 _) ?_)
  go_wp2
  go_ret
  exact ⟨N2.toArray, gc, rfl, HFIN.out.1, HFIN.out.2.1, HFIN.out.2.2.1, HFIN.out.2.2.2.1, HFIN.out.2.2.2.2.1, HFIN.out.2.2.2.2.2⟩
def zeroCells24 : List Value := [(.string ⟨#[]⟩), (.string ⟨#[]⟩), (.int .i64 0), (.int .i64 0)]
theorem clear24 (w : World) (base g cap m : Nat) (ok : Nat → Prop) (xs : List S24) (HO : Kd.R k24 24 w base ok (.slice (some ⟨g, 0, none⟩) m cap) xs) (hm : m < cap) (hbase : base ≤ g) :
    ∃ w2, (∀ ty c, (Builtin.clear_ #[22] ty #[.slice (some ⟨g, m * 4, none⟩) 1 c]).run Try.prog w = .ok (.tuple #[]) w2) ∧ Kd.R k24 24 w2 base ok (.slice (some ⟨g, 0, none⟩) m cap) xs ∧ Below base w w2 := by
  rcases R24_open HO with ⟨he, _⟩ | ⟨g', cap', cur, he, hb, hok, hg, hc, hmx, hs, ht⟩
  · injection he with h1; cases h1
  · injection he with h1 h2 h3
    injection h1 with h1
    injection h1 with h1
    subst h1 h2 h3
    have hz : (zeroCells24 : List Value).length = 4 := rfl
    refine ⟨w.setRow g (cur.toList.take (xs.length * 4 + 0) ++ zeroCells24 ++ cur.toList.drop (xs.length * 4 + 0 + zeroCells24.length)).toArray, fun ty c => ?_, ?_, ?_⟩
    · have hst := run_storeCells_at Try.prog g (xs.length * 4) 24 zeroCells24 0 cur w hg (by rw [hz, hs]; omega) (by intro x hx; simp [zeroCells24] at hx; rcases hx with rfl | rfl <;> rfl)
      have hzv : ∀ w, (zeroValue 24).run Try.prog w = .ok z24v w := Try.zeroValue24
      have hzc : (Builtin.zeroCells z24v.cells 1).toList = zeroCells24 := by first | kernel_rfl | (simp [Builtin.zeroCells, z24v, zeroCells24]; done)
      simp only [Nat.add_zero] at hst
      simp [Builtin.clear_, run_underlying Try.underlying22, hzv, hzc, hst]
    · refine R24_mk rfl hb hok (setRow_heap w g _ _ 24 _ hg) hc hmx ?_ ?_
      · simp only [List.size_toArray, List.length_append, List.length_take, List.length_drop, Array.length_toList, hz, hs]; omega
      · simp only [Nat.add_zero, List.append_assoc]
        rw [List.take_append_of_le_length t_70, List.take_take, Nat.min_self, ht]
    · exact (Below.refl base w).trans ⟨rfl, rfl, rfl, t_89, fun k hk => setRow_other w g k _ (by omega)⟩
theorem step_append_runI {P : Program} {ops : Array Oper} {o : Oper} {a : Act} {w : World} {K : Act → World → Prop} {Q : Exit → Act → World → Prop} {E : Prop}
    (hg : o.guard = none) (d x : Operand) (dT sT : TypeId) (hop : o.op = Op.call { callee := Callee.builtin Builtin.append, args := #[d, x], argTypes := #[dT, sT] })
    (v u : Value) (hd : a.eval d = v) (hx : a.eval x = u) {v' : Value} {w' : World} (hr : (Builtin.append_ #[dT, sT] o.type #[v, u]).run P w = .ok v' w') (hK : K (a.put o.dst v') w') :
    if Region.wanted o (yielded ops a.tmps) = true then Oper.wp P o a w K Q else E := by
  have hw : Region.wanted o (yielded ops a.tmps) = true := by simp [Region.wanted, hg]
  rw [if_pos hw]
  unfold Oper.wp
  simp [execOp, hop, resolve, invoke, builtin, hd, hx, hr, Result.andThen]
  exact hK
set_option maxHeartbeats 8000000 in
set_option maxRecDepth 100000 in
theorem del105 (xs : List S24) (w : World) (base g cap i : Nat) (ok : Nat → Prop) (HO : Kd.R k24 24 w base ok (.slice (some ⟨g, 0, none⟩) xs.length cap) xs) (hbase : base ≤ w.heap.size) (hi : i < xs.length) (hn : xs.length ≤ 1000) :
    Calls Try.prog 105 #[.slice (some ⟨g, 0, none⟩) xs.length cap, .int .i64 i, .int .i64 ((i : Int) + 1)] w fun e w' => e = .returned (.slice (some ⟨g, 0, none⟩) (xs.length - 1) cap) ∧ Kd.R k24 24 w' base ok (.slice (some ⟨g, 0, none⟩) (xs.length - 1) cap) (xs.eraseIdx i) ∧ Below base w w' := by
  have mixed : Try.prog.follows Departure.mixedOrders = true := by kernel_rfl
  have hcap : xs.length ≤ cap := (Kd.R_reads' HO).2.1
  have hcm : cap ≤ 9223372036854775807 := by
    rcases R24_open HO with ⟨he, _⟩ | ⟨g', cap', cur, he, _, _, _, _, hm, _⟩
    · injection he with h1; cases h1
    · injection he with h1 h2 h3; subst h3; unfold maxLen at hm; exact hm
  have hgb : base ≤ g := Kd.R_base HO g rfl
  have hel : (xs.eraseIdx i).length = xs.length - 1 := by rw [List.length_eraseIdx, if_pos hi]
  obtain ⟨ii, hii, hsz⟩ : ∃ ii, Try.prog.info? 24 = some ii ∧ ii.size = k24.sz := by
    have h := info24
    cases hq : Try.prog.info? 24 with
    | none => rw [hq] at h; simp at h
    | some ii => rw [hq] at h; simp only [Option.map_some, Option.some.injEq, Prod.mk.injEq] at h; exact ⟨ii, rfl, h.2.1⟩
  obtain ⟨n, hnn⟩ : ∃ n, n = xs.length := ⟨_, rfl⟩
  rw [← hnn] at HO hi hn hcap hel ⊢
  have hw1 : IntKind.i64.wrap ((i : Int) + 1) = (i : Int) + 1 := by rw [IntKind.wrap_i64]; omega
  have hb1 : (0 : Int) ≤ (i : Int) + 1 := by omega
  have htn : ((i : Int) + 1).toNat = i + 1 := by omega
  have hne1 : ¬ ((i : Int) = (i : Int) + 1) := by omega
  have hb3 : (i : Int) + 1 ≤ (n : Int) := by omega
  have hin : i ≤ n := by omega
  have hb6 : ¬ (n = i) := by omega
  have hb7 : ¬ (cap = n - 1) := by omega
  have hb8 : (i : Int) ≤ (cap : Int) := by omega
  have hb9 : i ≤ cap := by omega
  by_cases hci : cap = i + 1
  · have hcn : n = i + 1 := by omega
    subst hcn
    obtain ⟨w1, hrun, hR, hgr⟩ := Kd.R_delete_run (P := Try.prog) k24 base 22 22 24 ii Try.underlying22 hii hsz (Kd.R_drew HO) hi (A := some ⟨g, 0, none⟩) (by rw [if_pos hci]) 0
    obtain ⟨w2, hclr, hR2, hB2⟩ := clear24 w1 base g cap (i + 1 - 1) ok (xs.eraseIdx i) hR (by omega) hgb
    subst hci
    have HFIN := Aside0.mk (⟨hR2, (Below.grown (below_drew (Below.refl base w)) hgr hbase (fun k hk => by injection hk with hk; subst hk; exact hgb)).trans hB2⟩ : Kd.R k24 24 w2 base ok (.slice (some ⟨g, 0, none⟩) (i + 1 - 1) (i + 1)) (xs.eraseIdx i) ∧ Below base w w2)
    clear HO hR hgr hR2 hB2 hii hsz hbase hgb hel hnn hb7
    simp only [Nat.add_sub_cancel, Nat.sub_self] at hrun hclr HFIN ⊢
    have hb10 : (i : Int) ≤ (i : Int) + 1 := by omega
    have hb11 : i ≤ i + 1 := by omega
    have hb12 : ¬ ((i : Int) + 1 < (i : Int)) := by omega
    go_enter Try.func105, Try.ntmps105
    go_wp2
    go_region_law_o (refine step_append_runI rfl _ _ 22 22 rfl _ _ t_86 t_86 hrun ?_)
    go_wp2_with (simp only [hclr])
    go_ret
    exact ⟨rfl, HFIN.out.1, HFIN.out.2⟩
  · have hci2 : ¬ (i + 1 = cap) := fun h => hci h.symm
    obtain ⟨w1, hrun, hR, hgr⟩ := Kd.R_delete_run (P := Try.prog) k24 base 22 22 24 ii Try.underlying22 hii hsz (Kd.R_drew HO) hi (A := some ⟨g, (i + 1) * 4, none⟩) (by rw [if_neg hci]; simp [Addr.add, show k24.sz = 4 from rfl]) (cap - (i + 1))
    obtain ⟨w2, hclr, hR2, hB2⟩ := clear24 w1 base g cap (n - 1) ok (xs.eraseIdx i) hR (by omega) hgb
    replace hclr : ∀ ty c, (Builtin.clear_ #[22] ty #[.slice (some ⟨g, (n - 1) * 4, none⟩) (n - (n - 1)) c]).run Try.prog w1 = .ok (.tuple #[]) w2 := by rw [show n - (n - 1) = 1 by omega]; exact hclr
    have HFIN := Aside0.mk (⟨hR2, (Below.grown (below_drew (Below.refl base w)) hgr hbase (fun k hk => by injection hk with hk; subst hk; exact hgb)).trans hB2⟩ : Kd.R k24 24 w2 base ok (.slice (some ⟨g, 0, none⟩) (n - 1) cap) (xs.eraseIdx i) ∧ Below base w w2)
    clear HO hR hgr hR2 hB2 hii hsz hbase hgb hel hnn
    go_enter Try.func105, Try.ntmps105
    go_wp2
    go_region_law_o (refine step_append_runI rfl _ _ 22 22 rfl _ _ t_86 t_86 hrun ?_)
    go_wp2_with (simp only [hclr])
    go_ret
    exact ⟨rfl, HFIN.out.1, HFIN.out.2⟩
end Go.Proofs.Ytndbchcfjajgbaa.XP
