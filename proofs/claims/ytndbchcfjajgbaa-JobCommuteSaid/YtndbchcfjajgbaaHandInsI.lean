/- slices.Insert at items (13 cells), walked. (Turned out of HandIns by mkinsI.py.) -/
import Derived.Test.YtndbchcfjajgbaaXB
import Derived.Test.YtndbchcfjajgbaaHandIns
namespace Go.Proofs.Ytndbchcfjajgbaa.XP
open Go.Proofs.Ytndbchcfjajgbaa.XB Go.Proofs.Ytndbchcfjajgbaa.XQ
open Go.RowKit Go.Proofs Go.Proofs.YtndbchcfjajgbaaW.PrintWords Go.Proofs.YtndbchcfjajgbaaW.PrintLast Go.Proofs.Ytndbchcfjajgbaa.XH
set_option linter.unusedVariables false
set_option linter.unusedSimpArgs false
def pcsI (x : S99) : List Value := [.string x.f0.f0, .string x.f0.f1, .string x.f0.f2, .int .i64 x.f0.f3, .int .i64 x.f0.f4, .int .i64 x.f1, .int .i64 x.f2, .int .i64 x.f3, .int .i64 x.f4, .string x.f5.f0, .string x.f5.f1, .int .i64 x.f5.f2, .int .i64 x.f5.f3]
def cellsI (l : List S99) : List Value := l.flatMap pcsI
theorem pcsI_len (x : S99) : (pcsI x).length = 13 := rfl
theorem cellsI_len : ∀ l : List S99, (cellsI l).length = l.length * 13
  | [] => rfl
  | x :: l => by simp only [cellsI, List.flatMap_cons, List.length_append, pcsI_len, List.length_cons]; have := cellsI_len l; simp only [cellsI] at this; omega
theorem cellsI_app (l m : List S99) : cellsI (l ++ m) = cellsI l ++ cellsI m := by simp [cellsI]
theorem cellsI_cons (x : S99) (l : List S99) : cellsI (x :: l) = pcsI x ++ cellsI l := by simp [cellsI]
theorem cellsI_take (l : List S99) (k : Nat) (hk : k ≤ l.length) : (cellsI l).take (k * 13) = cellsI (l.take k) := by
  conv => lhs; rw [← List.take_append_drop k l, cellsI_app]
  rw [List.take_append_of_le_length t_81, List.take_of_length_le t_81]
theorem cellsI_drop (l : List S99) (k : Nat) (hk : k ≤ l.length) : (cellsI l).drop (k * 13) = cellsI (l.drop k) := by
  conv => lhs; rw [← List.take_append_drop k l, cellsI_app]
  rw [List.drop_append_of_le_length t_81, List.drop_of_length_le t_81]
  rfl
theorem cellsI_one (l : List S99) : ∀ v ∈ cellsI l, v.oneCell' = true := by
  intro v hv
  simp only [cellsI, List.mem_flatMap, pcsI, List.mem_cons, List.not_mem_nil, or_false] at hv
  obtain ⟨x, _, rfl | rfl | rfl | rfl | rfl | rfl | rfl | rfl | rfl | rfl | rfl | rfl | rfl⟩ := hv <;> rfl
theorem reps_cellsI {R : S99 → List Value → Prop} (hR : ∀ x cs, R x cs → cs = pcsI x) : ∀ (xs : List S99) (cs : List Value), Reps R 13 xs cs → cs = cellsI xs
  | [], cs, h => by have := h.1; simp at this; subst this; rfl
  | x :: xs, cs, h => by
    have h0 := hR _ _ (h.2 0 x rfl)
    simp only [Nat.zero_mul, List.drop_zero] at h0
    have h1 := reps_cellsI hR xs (cs.drop 13) ⟨by rw [List.length_drop, h.1, List.length_cons]; omega, fun j p hp => by
      have := h.2 (j + 1) p (by simpa using hp)
      rwa [show (j + 1) * 13 = 13 + j * 13 by omega, ← List.drop_drop] at this⟩
    rw [cellsI_cons, ← h0, ← h1, List.take_append_drop]
theorem cells_repsI {R : S99 → List Value → Prop} (hR : ∀ x, R x (pcsI x)) (xs : List S99) : Reps R 13 xs (cellsI xs) := by
  refine ⟨cellsI_len xs, fun j p hp => ?_⟩
  obtain ⟨hj, rfl⟩ := List.getElem?_eq_some_iff.1 hp
  rw [cellsI_drop _ _ (by omega), List.drop_eq_getElem_cons hj, cellsI_cons, List.take_append_of_le_length (by rw [pcsI_len]; omega), List.take_of_length_le (by rw [pcsI_len]; omega)]
  exact hR _
theorem R99_open {w : World} {base : Nat} {ok : Nat → Prop} {v : Value} {xs : List S99} (h : Kd.R k99 99 w base ok v xs) :
    (v = .slice none 0 0 ∧ xs = []) ∨ ∃ g cap cur, v = .slice (some ⟨g, 0, none⟩) xs.length cap ∧ base ≤ g ∧ ok g ∧ w.heap[g]? = some (.cells cur 99 (0, 0)) ∧ xs.length ≤ cap ∧ cap ≤ maxLen ∧ cur.size = cap * 13 ∧ cur.toList.take (xs.length * 13) = cellsI xs := by
  obtain ⟨h0, inner, ho, hr⟩ := h
  have hi : inner = cellsI xs := reps_cellsI (fun x cs hM => by have := k99_openM hM; rw [this]; rfl) xs inner hr
  subst hi
  rcases ho.2 with ⟨rfl, hn⟩ | ⟨g, cap, cur, rfl, hb, hg, hc, hm, hs, ht⟩
  · exact .inl ⟨rfl, List.eq_nil_of_length_eq_zero hn⟩
  · exact .inr ⟨g, cap, cur, rfl, hb, h0 g (by simp [Value.ownBlock]), hg, hc, hm, hs, ht⟩
theorem R99_mk {w : World} {base : Nat} {ok : Nat → Prop} {xs : List S99} {g cap : Nat} {cur : Array Value} {n : Nat} (hn : n = xs.length) (hb : base ≤ g) (hok : ok g) (hg : w.heap[g]? = some (.cells cur 99 (0, 0))) (hc : xs.length ≤ cap) (hm : cap ≤ maxLen) (hs : cur.size = cap * 13) (ht : cur.toList.take (xs.length * 13) = cellsI xs) :
    Kd.R k99 99 w base ok (.slice (some ⟨g, 0, none⟩) n cap) xs := by
  subst hn
  refine ⟨fun k hk => ?_, cellsI xs, ⟨cellsI_len xs, .inr ⟨g, cap, cur, rfl, hb, hg, hc, hm, hs, ht⟩⟩, cells_repsI (fun x => k99_mkM w base _ x) xs⟩
  obtain rfl : g = k := by simpa [Value.ownBlock] using hk
  exact hok
def z99v : Value := .agg #[(.string ⟨#[]⟩), (.string ⟨#[]⟩), (.string ⟨#[]⟩), (.int .i64 0), (.int .i64 0), (.int .i64 0), (.int .i64 0), (.int .i64 0), (.int .i64 0), (.string ⟨#[]⟩), (.string ⟨#[]⟩), (.int .i64 0), (.int .i64 0)]
theorem one_readsI {w : World} {vb : Nat} {p : S99} (h : w.heap[vb]? = some (.cells (pcsI p).toArray 99 (0, 0))) : ReadsRow (fun x cs => cs = pcsI x) 13 w (some ⟨vb, 0, none⟩) 1 [p] :=
  ⟨rfl, by omega, fun _ => ⟨_, rfl, fun j q hq => by
    cases j with
    | succ j => simp at hq
    | zero =>
      simp at hq
      subst hq
      refine ⟨pcsI p, rfl, rfl, fun i u hu => ?_⟩
      rw [Nat.zero_mul, Nat.zero_add, show (⟨vb, 0, none⟩ : Addr).add i = ⟨vb, i, none⟩ by unfold Addr.add; split <;> simp_all, blk_cell h]
      simpa using hu⟩⟩
set_option maxHeartbeats 8000000 in
set_option maxRecDepth 100000 in
theorem ins_endI (p : S99) (xs : List S99) (w : World) (base vb : Nat) (v : Value) (hvb : w.heap[vb]? = some (.cells (pcsI p).toArray 99 (0, 0))) (HO : Kd.R k99 99 w base (fun k => k ≠ vb) v xs) (hbase : base ≤ w.heap.size) (hn : xs.length ≤ 1000) :
    Calls Try.prog 111 #[v, .int .i64 (xs.length : Nat), .slice (some ⟨vb, 0, none⟩) 1 1] w fun e w' => ∃ v', e = .returned v' ∧ Kd.R k99 99 w' base (fun _ => True) v' (xs ++ [p]) ∧ Below base w w' ∧ w.grownBy w' v.ownBlock := by
  have HO' := Aside0.mk HO
  have HV := Aside0.mk (one_readsI hvb)
  have HL := Aside0.mk (blk_lt hvb)
  have HB := Aside0.mk hbase
  obtain ⟨A, c, rfl, hc, _⟩ := Kd.R_reads HO
  have hnil : A = none → xs.length = 0 ∧ c = 0 := fun h => by
    rcases R99_open HO with ⟨he, hx⟩ | ⟨g, cap, cur, he, _⟩
    · injection he with _ _ h3; subst hx; exact ⟨rfl, h3⟩
    · injection he with h1; rw [h] at h1; cases h1
  obtain ⟨n, hnn⟩ : ∃ n, n = xs.length := ⟨_, rfl⟩
  rw [← hnn] at HO' hn hc hnil ⊢
  have HN := Aside0.mk hnn
  clear HO hvb hbase hnn
  cases A with
  | none =>
    obtain ⟨h1, h2⟩ := hnil rfl
    subst h1
    subst h2
    clear hnil hn hc
    go_enter Try.func111, Try.ntmps111
    go_wp2_with (at_builtin; refine Kd.R_append_rows k99 (Rr := fun x cs => cs = pcsI x) (w0 := w) base rfl (.tmp 23) (.tmp 24) 75 99 z99v 144 rfl Try.underlying75 info99 rfl (by decide) (by omega) _ xs [p] (some ⟨vb, 0, none⟩) 1 1 (fun k => k ≠ vb) (fun _ => False) rfl rfl HO'.out HV.out (fun x cs hx => by subst hx; exact k99_mkM _ _ _ x) (fun _ hk => hk.elim) (fun k hk => by have := HL.out; omega) (Below.refl _ _) HB.out (by rw [← HN.out]; omega) ?_; intro v1 w1 ho1 hb1 hgr _)
    go_ret
    exact ⟨v1, rfl, Kd.R_mono ho1 (fun _ _ => trivial), hb1, hgr⟩
  | some ad =>
    clear hnil
    obtain ⟨ab, ao, asp⟩ := ad
    go_enter Try.func111, Try.ntmps111
    go_wp2_with (at_builtin; refine Kd.R_append_rows k99 (Rr := fun x cs => cs = pcsI x) (w0 := w) base rfl (.tmp 23) (.tmp 24) 75 99 z99v 144 rfl Try.underlying75 info99 rfl (by decide) (by omega) _ xs [p] (some ⟨vb, 0, none⟩) 1 1 (fun k => k ≠ vb) (fun _ => False) rfl rfl HO'.out HV.out (fun x cs hx => by subst hx; exact k99_mkM _ _ _ x) (fun _ hk => hk.elim) (fun k hk => by have := HL.out; omega) (Below.refl _ _) HB.out (by rw [← HN.out]; omega) ?_; intro v1 w1 ho1 hb1 hgr _)
    all_goals (go_ret; exact ⟨v1, rfl, Kd.R_mono ho1 (fun _ _ => trivial), hb1, hgr⟩)
theorem copy99 (w : World) (ty : TypeId) (g o dLen dCap so sg sLen sCap : Nat) (cur : Array Value) (cs : List Value) (hg : w.heap[g]? = some (.cells cur 99 (0, 0))) (hn : cs.length = Nat.min sLen dLen * 13)
    (src : Array Value) (hsg : w.heap[sg]? = some (.cells src 99 (0, 0))) (hsrc : ∀ j v, cs[j]? = some v → src[so + j]? = some v) (hfit : o + cs.length ≤ cur.size) (h1 : ∀ v ∈ cs, v.oneCell' = true) :
    (Builtin.copy_ #[75, 75] ty #[.slice (some ⟨g, o, none⟩) dLen dCap, .slice (some ⟨sg, so, none⟩) sLen sCap]).run Try.prog w =
      .ok (goInt (Nat.min sLen dLen : Nat)) (w.setRow g (cur.toList.take o ++ cs ++ cur.toList.drop (o + cs.length)).toArray) :=
  run_copy_rowk Try.prog 13 w 75 75 ty 99 g o dLen dCap ⟨sg, so, none⟩ sLen sCap cur 99 cs Try.underlying75 t_8e hg hn
    (fun j v hj => by rw [show (⟨sg, so, none⟩ : Addr).add j = ⟨sg, so + j, none⟩ by unfold Addr.add; split <;> simp_all, blk_cell hsg]; exact hsrc j v hj) hfit h1
set_option maxHeartbeats 8000000 in
set_option maxRecDepth 100000 in
theorem ins_shiftI (p : S99) (xs : List S99) (w : World) (g cap vb i : Nat) (cur : Array Value) (hvb : w.heap[vb]? = some (.cells (pcsI p).toArray 99 (0, 0))) (hg : w.heap[g]? = some (.cells cur 99 (0, 0))) (hne : vb ≠ g)
    (hi : i < xs.length) (hn : xs.length ≤ 1000) (hroom : xs.length + 1 ≤ cap) (hm : cap ≤ maxLen) (hs : cur.size = cap * 13) (ht : cur.toList.take (xs.length * 13) = cellsI xs) :
    Calls Try.prog 111 #[.slice (some ⟨g, 0, none⟩) xs.length cap, .int .i64 i, .slice (some ⟨vb, 0, none⟩) 1 1] w fun e w' => ∃ cur', e = .returned (.slice (some ⟨g, 0, none⟩) (xs.length + 1) cap) ∧ w' = w.drew.setRow g cur' ∧ cur'.size = cap * 13 ∧ cur'.toList.take ((xs.length + 1) * 13) = cellsI (xs.take i ++ p :: xs.drop i) := by
  have hm' : cap ≤ 9223372036854775807 := by unfold maxLen at hm; exact hm
  have hov : ∀ o lb cb, (callFunc 130 #[.slice (some ⟨vb, 0, none⟩) 1 1, .slice (some ⟨g, o, none⟩) lb cb]).run Try.prog w = .ok (.value (.bool false)) w := fun o lb cb => by
    rw [run_callFunc_extern Try.func130 t_8e t_8e t_8e (e := Extern.SlicesOverlaps.overlaps #[75, 75] #[4]) t_8e,
      Lib.run_overlaps_apart w 75 4 99 Try.underlying75 13 Try.sizeOf99 ⟨vb, 0, none⟩ ⟨g, o, none⟩ 1 1 lb cb hne 99 99 13 (cap * 13) (by simp [World.shape?, hvb, pcsI]) (by simp [World.shape?, hg, hs]) (by omega) (blk_frozen hvb _) (blk_frozen hvb _)]
    rfl
  have mixed : Try.prog.follows Departure.mixedOrders = true := by kernel_rfl
  obtain ⟨n, hnn⟩ : ∃ n, n = xs.length := ⟨_, rfl⟩
  rw [← hnn] at hi hn hroom ⊢
  have hcl : (cellsI (xs.drop i)).length = (n - i) * 13 := by rw [cellsI_len, List.length_drop, hnn]
  have hcut : cellsI (xs.drop i) = (cellsI xs).drop (i * 13) := (cellsI_drop xs i (by omega)).symm
  obtain ⟨S1, hS1⟩ : ∃ S1, S1 = cur.toList.take ((i + 1) * 13) ++ cellsI (xs.drop i) ++ cur.toList.drop ((i + 1) * 13 + (cellsI (xs.drop i)).length) := ⟨_, rfl⟩
  have hS1l : S1.length = cap * 13 := by rw [hS1]; simp only [List.length_append, List.length_take, List.length_drop, Array.length_toList, hcl, hs]; omega
  have hcp1 : ∀ ty, (Builtin.copy_ #[75, 75] ty #[.slice (some ⟨g, (i + 1) * 13, none⟩) (n - i) (cap - (i + 1)), .slice (some ⟨g, i * 13, none⟩) (n + 1 - i) (cap - i)]).run Try.prog w.drew = .ok (goInt (Nat.min (n + 1 - i) (n - i) : Nat)) (w.drew.setRow g S1.toArray) := fun ty => by
    rw [hS1]
    refine copy99 w.drew ty g ((i + 1) * 13) (n - i) _ (i * 13) g (n + 1 - i) _ cur (cellsI (xs.drop i)) (by exact hg) ?_ cur (by exact hg) (fun j v hj => ?_) ?_ (cellsI_one _)
    · rw [hcl]; congr 1; simp only [Nat.min_def]; split <;> omega
    · have hjl : j < (n - i) * 13 := by rw [← hcl]; exact (List.getElem?_eq_some_iff.1 hj).1
      rw [hcut, ← ht, List.getElem?_drop, List.getElem?_take_of_lt (by omega)] at hj
      simpa using hj
    · rw [hcl, hs]; omega
  obtain ⟨S2, hS2⟩ : ∃ S2, S2 = S1.take (i * 13) ++ pcsI p ++ S1.drop (i * 13 + (pcsI p).length) := ⟨_, rfl⟩
  obtain ⟨W1, hW1⟩ : ∃ W1, W1 = w.drew.setRow g S1.toArray := ⟨_, rfl⟩
  have hg1 : W1.heap[g]? = some (.cells S1.toArray 99 (0, 0)) := by rw [hW1]; exact setRow_heap w.drew g _ _ 99 _ (by exact hg)
  have hv1 : W1.heap[vb]? = some (.cells (pcsI p).toArray 99 (0, 0)) := by rw [hW1]; exact (setRow_other w.drew g vb _ hne).trans hvb
  have hcp2 : ∀ ty, (Builtin.copy_ #[75, 75] ty #[.slice (some ⟨g, i * 13, none⟩) (n + 1 - i) (cap - i), .slice (some ⟨vb, 0, none⟩) 1 1]).run Try.prog W1 = .ok (goInt (Nat.min 1 (n + 1 - i) : Nat)) (W1.setRow g S2.toArray) := fun ty => by
    rw [hS2]
    refine copy99 W1 ty g (i * 13) (n + 1 - i) _ 0 vb 1 _ S1.toArray (pcsI p) hg1 ?_ (pcsI p).toArray hv1 (fun j v hj => ?_) ?_ (fun v hv => cellsI_one [p] v (by simpa [cellsI] using hv))
    · rw [pcsI_len]; simp only [Nat.min_def]; split <;> omega
    · simpa using hj
    · simp only [pcsI_len, List.size_toArray, hS1l]; omega
  have hfin : S2.take ((n + 1) * 13) = cellsI (xs.take i ++ p :: xs.drop i) := by
    have h1 : S1.take (i * 13) = cellsI (xs.take i) := by
      rw [hS1, List.append_assoc, List.take_append_of_le_length t_70, List.take_take, Nat.min_eq_left (by omega), ← cellsI_take xs i (by omega), ← ht, List.take_take, Nat.min_eq_left (by omega)]
    have h2 : (S1.drop (i * 13 + 13)).take ((n - i) * 13) = cellsI (xs.drop i) := by
      rw [hS1, show i * 13 + 13 = (i + 1) * 13 by omega, List.append_assoc, List.drop_append_of_le_length t_70, List.drop_of_length_le t_70, List.nil_append, List.take_append_of_le_length (by omega), List.take_of_length_le (by omega)]
    have hl1 : (S1.take (i * 13)).length = i * 13 := by rw [List.length_take, hS1l]; omega
    rw [hS2, pcsI_len, List.take_append, List.take_of_length_le (by simp only [List.length_append, hl1, pcsI_len]; omega), show (n + 1) * 13 - (S1.take (i * 13) ++ pcsI p).length = (n - i) * 13 by simp only [List.length_append, hl1, pcsI_len]; omega, h2, h1, cellsI_app, cellsI_cons, List.append_assoc]
  have hS2l : S2.length = cap * 13 := by rw [hS2]; simp only [List.length_append, List.length_take, List.length_drop, pcsI_len, hS1l]; omega
  have HF := Aside0.mk hfin
  have HSL := Aside0.mk hS2l
  have HW : Aside0 (W1.setRow g S2.toArray = w.drew.setRow g S2.toArray) := ⟨by rw [hW1, setRow_setRow]⟩
  rw [← hW1] at hcp1
  clear hg hvb ht hnn hcl hcut hS1 hS1l hS2 hW1 hg1 hv1 hfin hS2l
  have hw1 : IntKind.i64.wrap ((i : Int) + 1) = (i : Int) + 1 := by rw [IntKind.wrap_i64]; omega
  have hb1 : (0 : Int) ≤ (i : Int) + 1 := by omega
  have hin : i ≤ n := by omega
  have htn : ((i : Int) + 1).toNat = i + 1 := by omega
  have hb2 : ¬ (cap = i + 1) := by omega
  have hb3 : (i : Int) ≤ (n : Int) + 1 := by omega
  have hb4 : ¬ (cap = i) := by omega
  go_enter Try.func111, Try.ntmps111
  go_wp2_with (simp only [hov])
  go_region_law_o (refine step_copy_runI rfl _ _ 75 75 rfl _ _ t_86 t_86 (hcp1 _) ?_)
  go_wp2_with (at_builtin; refine wpList_copy_runI _ rfl _ _ 75 75 rfl _ _ rfl rfl (hcp2 _) ?_)
  go_ret
  exact ⟨S2.toArray, rfl, HW.out, by simpa using HSL.out, by simpa using HF.out⟩
set_option maxHeartbeats 8000000 in
set_option maxRecDepth 100000 in
theorem ins_growI (p : S99) (xs : List S99) (w : World) (g cap vb i : Nat) (cur : Array Value) (hvb : w.heap[vb]? = some (.cells (pcsI p).toArray 99 (0, 0))) (hg : w.heap[g]? = some (.cells cur 99 (0, 0)))
    (hi : i < xs.length) (hn : xs.length ≤ 1000) (hc : xs.length ≤ cap) (hroom : cap < xs.length + 1) (hs : cur.size = cap * 13) (ht : cur.toList.take (xs.length * 13) = cellsI xs) :
    Calls Try.prog 111 #[.slice (some ⟨g, 0, none⟩) xs.length cap, .int .i64 i, .slice (some ⟨vb, 0, none⟩) 1 1] w fun e w' => ∃ cur' gc, e = .returned (.slice (some ⟨w.heap.size, 0, none⟩) (xs.length + 1) gc) ∧ Below w.heap.size w w' ∧ w'.heap[w.heap.size]? = some (.cells cur' 99 (0, 0)) ∧ xs.length + 1 ≤ gc ∧ gc ≤ maxLen ∧ cur'.size = gc * 13 ∧ cur'.toList.take ((xs.length + 1) * 13) = cellsI (xs.take i ++ p :: xs.drop i) := by
  have mixed : Try.prog.follows Departure.mixedOrders = true := by kernel_rfl
  obtain ⟨n, hnn⟩ : ∃ n, n = xs.length := ⟨_, rfl⟩
  rw [← hnn] at hi hn hroom hc ⊢
  obtain rfl : cap = n := by omega
  have hcl : (cellsI (xs.drop i)).length = (cap - i) * 13 := by rw [cellsI_len, List.length_drop, hnn]
  have hcut : cellsI (xs.drop i) = (cellsI xs).drop (i * 13) := (cellsI_drop xs i (by omega)).symm
  have hold : cellsI (xs.take i) = (cellsI xs).take (i * 13) := (cellsI_take xs i (by omega)).symm
  have hol : (cellsI (xs.take i)).length = i * 13 := by rw [cellsI_len, List.length_take]; omega
  obtain ⟨ii, hii, hz, hsz, hbz⟩ : ∃ ii, Try.prog.info? 99 = some ii ∧ ii.zero = some z99v ∧ ii.size = 13 ∧ ii.bytes = 144 := by
    have h := info99
    cases hq : Try.prog.info? 99 with
    | none => rw [hq] at h; simp at h
    | some ii => rw [hq] at h; simp only [Option.map_some, Option.some.injEq, Prod.mk.injEq] at h; exact ⟨ii, rfl, h.1, h.2.1, h.2.2⟩
  obtain ⟨gc, hgc⟩ : ∃ gc, gc = grownCap w (i + (cap + 1 - i)) cap 99 := ⟨_, rfl⟩
  have hgc1 : cap + 1 ≤ gc := by rw [hgc]; exact Nat.le_trans (by omega) (grownCap_ge w _ cap 99)
  have hgc2 : gc ≤ maxLen := by rw [hgc]; exact grownCap_le_maxLen w _ cap 99 (by unfold maxLen; omega)
  obtain ⟨h, hh⟩ : ∃ h, h = w.heap.size := ⟨_, rfl⟩
  obtain ⟨N0, hN0⟩ : ∃ N0 : Array Value, N0 = (cellsI (xs.take i)).toArray ++ Builtin.zeroCells z99v.cells (cap + 1 - i) ++ Builtin.zeroCells z99v.cells (gc - (i + (cap + 1 - i))) := ⟨_, rfl⟩
  have hN0l : N0.toList.length = gc * 13 := by
    rw [hN0]; simp only [Array.toList_append, List.length_append, Array.length_toList, hol, size_zeroCells, show z99v.cells.size = 13 from rfl]; omega
  have hN0t : N0.toList.take (i * 13) = cellsI (xs.take i) := by
    rw [hN0]; simp only [Array.toList_append, List.append_assoc]; rw [List.take_append_of_le_length (by omega), List.take_of_length_le (by omega)]
  obtain ⟨W0, hW0⟩ : ∃ W0, W0 = w.drew.alloc (.cells N0 99 (0, 0)) := ⟨_, rfl⟩
  have hrun : ∀ ty, (Builtin.append_ #[75, 3] ty #[.slice (some ⟨g, 0, none⟩) i cap, .int .i64 ((cap : Int) + 1 - (i : Int))]).run Try.prog w = .ok (.slice (some ⟨h, 0, none⟩) (cap + 1) gc) W0 := fun ty => by
    have hk : ((cap : Int) + 1 - (i : Int)) = ((cap + 1 - i : Nat) : Int) := by omega
    have := Lib.run_append_grow_zeros (P := Try.prog) w 75 3 ty 99 ii z99v .i64 .i64 Try.underlying75 Try.underlying3 hii hz (some ⟨g, 0, none⟩) i cap (cellsI (xs.take i))
      (run_firstCells_some (w := w.drew) ii.size i ⟨g, 0, none⟩ i cap (cellsI (xs.take i)) (by rw [hol, hsz]) (fun j v hj => by
        rw [show (⟨g, 0, none⟩ : Addr).add j = ⟨g, 0 + j, none⟩ by unfold Addr.add; split <;> simp_all, blk_cell (w := w.drew) (by exact hg), Nat.zero_add]
        have hjl : j < i * 13 := by rw [← hol]; exact (List.getElem?_eq_some_iff.1 hj).1
        rw [hold, ← ht, List.getElem?_take_of_lt hjl, List.getElem?_take_of_lt (by omega)] at hj
        simpa using hj))
      (cap + 1 - i) (by omega) (by omega) (by omega) (by omega) (by rw [hbz]; omega) (by rw [hbz]; exact growslice_fits (by omega) (by omega))
    rw [hk, this, ← hgc, hW0, hN0, hh, show i + (cap + 1 - i) = cap + 1 by omega]
  have hg0 : W0.heap[g]? = some (.cells cur 99 (0, 0)) := by
    rw [hW0]; exact blk_alloc (by exact hg) _
  have hv0 : W0.heap[vb]? = some (.cells (pcsI p).toArray 99 (0, 0)) := by
    rw [hW0]; exact blk_alloc (by exact hvb) _
  have hh0 : W0.heap[h]? = some (.cells N0 99 (0, 0)) := by rw [hW0, hh]; exact blk_new _ _
  have hB0 : Below w.heap.size w W0 := by rw [hW0]; exact below_alloc (below_drew (Below.refl _ _)) _
  have hgh : g ≠ h := by have := blk_lt hg; omega
  have hvh : vb ≠ h := by have := blk_lt hvb; omega
  obtain ⟨N1, hN1⟩ : ∃ N1, N1 = N0.toList.take (i * 13) ++ pcsI p ++ N0.toList.drop (i * 13 + (pcsI p).length) := ⟨_, rfl⟩
  have hN1l : N1.length = gc * 13 := by rw [hN1]; simp only [List.length_append, List.length_take, List.length_drop, pcsI_len, hN0l]; omega
  obtain ⟨W1, hW1⟩ : ∃ W1, W1 = W0.setRow h N1.toArray := ⟨_, rfl⟩
  have hcp1 : ∀ ty, (Builtin.copy_ #[75, 75] ty #[.slice (some ⟨h, i * 13, none⟩) (cap + 1 - i) (gc - i), .slice (some ⟨vb, 0, none⟩) 1 1]).run Try.prog W0 = .ok (goInt (Nat.min 1 (cap + 1 - i) : Nat)) W1 := fun ty => by
    rw [hW1, hN1]
    refine copy99 W0 ty h (i * 13) (cap + 1 - i) _ 0 vb 1 _ N0 (pcsI p) hh0 ?_ (pcsI p).toArray hv0 (fun j v hj => ?_) ?_ (fun v hv => cellsI_one [p] v (by simpa [cellsI] using hv))
    · rw [pcsI_len]; simp only [Nat.min_def]; split <;> omega
    · simpa using hj
    · have : N0.size = gc * 13 := by simpa using hN0l
      rw [this, pcsI_len]; omega
  have hh1 : W1.heap[h]? = some (.cells N1.toArray 99 (0, 0)) := by rw [hW1]; exact setRow_heap W0 h _ _ 99 _ hh0
  have hg1 : W1.heap[g]? = some (.cells cur 99 (0, 0)) := by rw [hW1]; exact (setRow_other W0 h g _ hgh).trans hg0
  have hB1 : Below w.heap.size w W1 := by rw [hW1]; exact hB0.trans ⟨rfl, rfl, rfl, t_89, fun k hk => setRow_other W0 h k _ (by omega)⟩
  obtain ⟨N2, hN2⟩ : ∃ N2, N2 = N1.take ((i + 1) * 13) ++ cellsI (xs.drop i) ++ N1.drop ((i + 1) * 13 + (cellsI (xs.drop i)).length) := ⟨_, rfl⟩
  have hN2l : N2.length = gc * 13 := by rw [hN2]; simp only [List.length_append, List.length_take, List.length_drop, hcl, hN1l]; omega
  obtain ⟨W2, hW2⟩ : ∃ W2, W2 = W1.drew.setRow h N2.toArray := ⟨_, rfl⟩
  have hcp2 : ∀ ty, (Builtin.copy_ #[75, 75] ty #[.slice (some ⟨h, (i + 1) * 13, none⟩) (cap - i) (gc - (i + 1)), .slice (some ⟨g, i * 13, none⟩) (cap - i) (cap - i)]).run Try.prog W1.drew = .ok (goInt (Nat.min (cap - i) (cap - i) : Nat)) W2 := fun ty => by
    rw [hW2, hN2]
    refine copy99 W1.drew ty h ((i + 1) * 13) (cap - i) _ (i * 13) g (cap - i) _ N1.toArray (cellsI (xs.drop i)) (by exact hh1) ?_ cur (by exact hg1) (fun j v hj => ?_) ?_ (cellsI_one _)
    · rw [hcl]; congr 1; simp only [Nat.min_def]; split <;> omega
    · have hjl : j < (cap - i) * 13 := by rw [← hcl]; exact (List.getElem?_eq_some_iff.1 hj).1
      rw [hcut, ← ht, List.getElem?_drop, List.getElem?_take_of_lt (by omega)] at hj
      simpa using hj
    · rw [hcl]; simp only [List.size_toArray, hN1l]; omega
  have hh2 : W2.heap[h]? = some (.cells N2.toArray 99 (0, 0)) := by rw [hW2]; exact setRow_heap W1.drew h _ _ 99 _ (by exact hh1)
  have hB2 : Below w.heap.size w W2 := by rw [hW2]; exact (below_drew hB1).trans ⟨rfl, rfl, rfl, t_89, fun k hk => setRow_other W1.drew h k _ (by omega)⟩
  have hfin : N2.take ((cap + 1) * 13) = cellsI (xs.take i ++ p :: xs.drop i) := by
    have h1 : N1.take ((i + 1) * 13) = cellsI (xs.take i) ++ pcsI p := by
      rw [hN1, hN0t, List.take_append_of_le_length (by simp only [List.length_append, hol, pcsI_len]; omega), List.take_of_length_le (by simp only [List.length_append, hol, pcsI_len]; omega)]
    rw [hN2, h1, List.take_append_of_le_length (by simp only [List.length_append, hol, pcsI_len, hcl]; omega), List.take_of_length_le (by simp only [List.length_append, hol, pcsI_len, hcl]; omega), cellsI_app, cellsI_cons, List.append_assoc]
  rw [← hh] at hB2 ⊢
  have HFIN := Aside0.mk (⟨hB2, hh2, hgc1, hgc2, by simpa using hN2l, by simpa using hfin⟩ : Below h w W2 ∧ W2.heap[h]? = some (.cells N2.toArray 99 (0, 0)) ∧ cap + 1 ≤ gc ∧ gc ≤ maxLen ∧ N2.toArray.size = gc * 13 ∧ N2.toArray.toList.take ((cap + 1) * 13) = cellsI (xs.take i ++ p :: xs.drop i))
  have HN := Aside0.mk hnn
  clear hvb hg hs ht hcl hcut hold hol hii hz hsz hbz hgc hN0 hN0l hN0t hW0 hg0 hv0 hh0 hB0 hgh hvh hN1 hN1l hW1 hh1 hg1 hB1 hN2 hN2l hW2 hh2 hB2 hfin hnn hh
  unfold maxLen at hgc2
  have hw1 : IntKind.i64.wrap ((i : Int) + 1) = (i : Int) + 1 := by rw [IntKind.wrap_i64]; omega
  have hb1 : (0 : Int) ≤ (i : Int) + 1 := by omega
  have hin : i ≤ cap := by omega
  have htn : ((i : Int) + 1).toNat = i + 1 := by omega
  have hb2 : ¬ (gc = i + 1) := by omega
  have hb3 : (i : Int) ≤ (cap : Int) + 1 := by omega
  have hb4 : ¬ (cap = i) := by omega
  have hb5 : ¬ (gc = i) := by omega
  go_enter Try.func111, Try.ntmps111
  go_wp2_with (at_builtin; first | (refine Lib.wpList_append_run _ rfl _ _ _ _ rfl _ _ rfl rfl _ _ (hrun _) ?_) | (refine wpList_copy_runI _ rfl _ _ 75 75 rfl _ _ rfl rfl (hcp1 _) ?_))
  go_region_law_o (refine step_copy_runI rfl _ _ 75 75 rfl _ _ t_86 t_86 (hcp2 _) ?_)
  go_wp2
  go_ret
  exact ⟨N2.toArray, gc, rfl, HFIN.out.1, HFIN.out.2.1, HFIN.out.2.2.1, HFIN.out.2.2.2.1, HFIN.out.2.2.2.2.1, HFIN.out.2.2.2.2.2⟩
theorem insI (p : S99) (xs : List S99) (w : World) (base vb i : Nat) (v : Value) (hvb : w.heap[vb]? = some (.cells (pcsI p).toArray 99 (0, 0))) (HO : Kd.R k99 99 w base (fun k => k ≠ vb) v xs) (hbase : base ≤ w.heap.size) (hi : i ≤ xs.length) (hn : xs.length ≤ 1000) :
    Calls Try.prog 111 #[v, .int .i64 (i : Nat), .slice (some ⟨vb, 0, none⟩) 1 1] w fun e w' => ∃ v', e = .returned v' ∧ Kd.R k99 99 w' base (fun _ => True) v' (xs.take i ++ p :: xs.drop i) ∧ Below base w w' ∧ w.grownBy w' v.ownBlock := by
  rcases Nat.lt_or_ge i xs.length with h | h
  · rcases R99_open HO with ⟨_, hx⟩ | ⟨g, cap, cur, rfl, hb, hok, hg, hc, hm, hs, ht⟩
    · subst hx; simp at h
    · have hg1 := blk_lt hg
      rcases Nat.lt_or_ge cap (xs.length + 1) with hr | hr
      · refine (ins_growI p xs w g cap vb i cur hvb hg h hn hc hr hs ht).mono ?_
        rintro e w' ⟨cur', gc, rfl, hB, hg', h1, h2, h3, h4⟩
        have hl : xs.length + 1 = (xs.take i ++ p :: xs.drop i).length := by simp only [List.length_append, List.length_take, List.length_cons, List.length_drop]; omega
        exact ⟨_, rfl, R99_mk hl hbase trivial hg' (by rw [← hl]; exact h1) h2 h3 (by rw [← hl]; exact h4), hB.mono hbase, ⟨hB.os, hB.tape, hB.output, hB.size, fun k hk _ => hB.block k hk⟩⟩
      · refine (ins_shiftI p xs w g cap vb i cur hvb hg (fun e => hok e.symm) h hn hr hm hs ht).mono ?_
        rintro e w' ⟨cur', rfl, rfl, h3, h4⟩
        have hl : xs.length + 1 = (xs.take i ++ p :: xs.drop i).length := by simp only [List.length_append, List.length_take, List.length_cons, List.length_drop]; omega
        exact ⟨_, rfl, R99_mk hl hb trivial (setRow_heap w.drew g _ _ 99 _ (by exact hg)) (by rw [← hl]; exact hr) hm h3 (by rw [← hl]; exact h4), (below_drew (Below.refl base w)).trans ⟨rfl, rfl, rfl, t_89, fun k hk => setRow_other w.drew g k _ (by omega)⟩, ⟨rfl, rfl, rfl, t_89, fun k hk hne => setRow_other w.drew g k _ (fun e => hne (by rw [e]; rfl))⟩⟩
  · obtain rfl : i = xs.length := by omega
    rw [List.take_of_length_le (Nat.le_refl _), List.drop_of_length_le (Nat.le_refl _)]
    exact ins_endI p xs w base vb v hvb HO hbase hn
end Go.Proofs.Ytndbchcfjajgbaa.XP
