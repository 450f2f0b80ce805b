/- A loop over a function, told by the list of what the function yields. -/
import Derived.Test.YtbgdfikfldkjbaaAI12
namespace Go.Proofs.Ytbgdfikfldkjbaa.AI
set_option linter.unnecessarySimpa false
open Go
set_option linter.unusedVariables false
set_option linter.unusedSimpArgs false
/-- A stretch of a run, from one yield to the next: new blocks; those that are in cs may lie anew, holding what they held. -/
structure Stp (cs : List Nat) (A B : World) : Prop where
  os : B.os = A.os
  tape : B.tape = A.tape
  output : B.output = A.output
  size : A.heap.size ≤ B.heap.size
  block : ∀ k, k < A.heap.size → k ∉ cs → B.heap[k]? = A.heap[k]?
theorem Stp.refl (cs : List Nat) (A : World) : Stp cs A A := ⟨rfl, rfl, rfl, Nat.le_refl _, fun _ _ _ => rfl⟩
/-- What a function that is ranged over yields, whatever the rounds do (they keep what Inv says). -/
def Yields (P : Program) (gf : FuncId) (lb : Array Value) (xs : List (List Value)) (cs : List Nat) (Inv : World → Prop) : Prop :=
  ∀ (l : Nat) (J : Nat → World → Prop) (Jx : World → Prop) (W : World),
    (∀ i A B, J i A → Stp cs A B → Inv B → J i B) → (∀ A B, Jx A → Stp cs A B → Inv B → Jx B) → (∀ i A, J i A → Inv A) → (∀ A, Jx A → Inv A) →
    (∀ i x A, xs[i]? = some x → J i A → ∀ m, YieldAt Fence.wide m P l x.toArray A fun e B => (e = .returned (.bool true) ∧ J (i + 1) B) ∨ (e = .returned (.bool false) ∧ Jx B)) →
    J 0 W → CallsIn Fence.wide 9 P gf (#[.func (.yield l) #[] #[]] ++ lb) W fun e B => (∃ v, e = .returned v) ∧ (J xs.length B ∨ Jx B)
def setPs : List V → List Tmp → List U → List V
  | T, p :: ps, x :: xs => setPs (upd T p (.u x)) ps xs
  | T, _, _ => T
def Ex.code : Ex → Code
  | .normal => .skip
  | .exit id => .exit id
  | .ret => .ret
/-- Rounds, one after the other. -/
inductive RF (P : Program) (ps : Array Tmp) (asg body : Code) (T : List V) (n0 : Nat) : List (List U) → Heap → Ex → Heap → List Foot → Prop
  | nil (H : Heap) : RF P ps asg body T n0 [] H .normal H []
  | go {x : List U} {r : List (List U)} {H : Heap} {T1 : List V} {H1 : Heap} {l1 : List Foot} {T2 : List V} {H2 : Heap} {l2 : List Foot} {ids : List Nat} {Tn : List V} {Hn : Heap} {ex : Ex} {H' : Heap} {l : List Foot}
      (h1 : CodeTo P asg (setPs T ps.toList x) H .normal T1 H1 l1) (h2 : CodeTo P body T1 H1 .normal T2 H2 l2) (hn : Norm n0 ids T2 H2 Tn Hn) (h : RF P ps asg body T n0 r Hn ex H' l) : RF P ps asg body T n0 (x :: r) H ex H' (l ++ (l2 ++ l1))
  | out {x : List U} {r : List (List U)} {H : Heap} {T1 : List V} {H1 : Heap} {l1 : List Foot} {ex : Ex} {T2 : List V} {H2 : Heap} {l2 : List Foot} {ids : List Nat} {Tn : List V} {Hn : Heap}
      (h1 : CodeTo P asg (setPs T ps.toList x) H .normal T1 H1 l1) (h2 : CodeTo P body T1 H1 ex T2 H2 l2) (he : ex ≠ .normal) (hn : Norm n0 ids T2 H2 Tn Hn) : RF P ps asg body T n0 (x :: r) H ex Hn (l2 ++ l1)
/-- What is yielded names no block. -/
def ItemsOk (T : List V) (H : Heap) (x : List U) : Prop := ∀ u ∈ x, idsU u = [] ∧ ∀ W S, ScT W S T → ScH W S H → u.sc W S
theorem U.den_ids {W : World} {S : Nat → Prop} {u : U} (h : idsU u = []) (hs : u.sc W S) (ρ ρ' : Ren) : u.den ρ = u.den ρ' :=
  (U.den_congr (S := fun _ => False) (fun b hb => hb.elim) (U.sc_ids hs h)).symm
theorem setPs_len : ∀ (ps : List Tmp) (xs : List U) (T : List V), (setPs T ps xs).length = T.length
  | [], xs, T => rfl
  | p :: ps, [], T => rfl
  | p :: ps, x :: xs, T => by rw [setPs, setPs_len ps xs, upd_eq, List.length_set]
theorem setPs_sc {W : World} {S : Nat → Prop} : ∀ (ps : List Tmp) (xs : List U) (T : List V), ScT W S T → (∀ u ∈ xs, u.sc W S) → ScT W S (setPs T ps xs)
  | [], xs, T, h, hx => h
  | p :: ps, [], T, h, hx => h
  | p :: ps, x :: xs, T, h, hx => by
    refine setPs_sc ps xs _ (fun v hv => ?_) (fun u hu => hx u (List.mem_cons_of_mem _ hu))
    rw [upd_eq] at hv
    rcases List.mem_or_eq_of_mem_set hv with hv | rfl
    · exact h v hv
    · exact hx x (List.mem_cons_self ..)
theorem setPs_tr {ρ : Ren} : ∀ (ps : List Tmp) (xs : List U) (T : List V) (t : Array Value), TR ρ T { tmps := t, defers := [] } → TR ρ (setPs T ps xs) { tmps := (ps.zip (xs.map (U.den ρ))).foldl (fun t (p, v) => t.setIfInBounds p v) t, defers := [] }
  | [], xs, T, t, h => by cases xs <;> exact h
  | p :: ps, [], T, t, h => h
  | p :: ps, x :: xs, T, t, h => by
    refine setPs_tr ps xs _ _ ⟨by rw [upd_eq]; simpa using h.len, fun q v hv hne => ?_⟩
    rw [upd_eq, nth_eq, List.getElem?_set] at hv
    have hl := h.len
    simp only at hl
    rw [Array.getElem?_setIfInBounds]
    split at hv
    · rename_i hq
      subst hq
      split at hv
      · rename_i hlt
        injection hv with hv
        subst hv
        simp [hl, hlt, V.den]
      · cases hv
    · rename_i hq
      rw [if_neg hq]
      exact h.val q v (by rw [nth_eq]; exact hv) hne
/-- What is no variable lies still. -/
theorem real_cells {W : World} {ρ : Ren} {w : World} {b : Nat} {B : Blk} (h : Real W ρ w b B) (hu : B.used) {o : Obj} (ho : w.heap[(ρ b).r]? = some o) : o.isCells = true := by
  cases B with
  | cells cs =>
    obtain ⟨_, rest, e, hw⟩ := h
    rw [hw] at ho; cases ho; rfl
  | row e sz n get flat =>
    rcases h with h | ⟨_, _, _, _, cur, hw, _⟩
    · exact absurd h hu
    · rw [hw] at ho; cases ho; rfl
theorem keepObj {W : World} {ρ1 ρ2 : Ren} {H1 H2 : Heap} {A B : World} (hr : HR ρ1 W H1 A) (hf : Fr H1 ρ1 H2 ρ2 A B) {k : Nat} {o : Obj} (hk : A.heap[k]? = some o) (ho : o.isCells = false) : B.heap[k]? = some o := by
  rw [hf.keep k (Array.getElem?_eq_some_iff.1 hk).1 fun b x hb hu e => ?_]
  · exact hk
  · have := real_cells (hr.real b x hb) hu (o := o) (by rw [e]; exact hk)
    rw [ho] at this
    cases this
theorem HR.grow {W : World} {ρ : Ren} {S : Nat → Prop} {H : Heap} {A B : World} (h : HR ρ W H A) (hs : ScH W S H) (hsz : A.heap.size ≤ B.heap.size) (hb : ∀ k, k < A.heap.size → (∀ b x, blk H b = some x → x.used → (ρ b).r ≠ k) ∨ B.heap[k]? = A.heap[k]?) (hl : ∀ k, k < W.heap.size → B.heap[k]? = A.heap[k]?) (hu : ∀ b x, blk H b = some x → x.used → B.heap[(ρ b).r]? = A.heap[(ρ b).r]?) : HR ρ W H B :=
  ⟨fun r hr => (hl r hr).trans (h.low r hr), Nat.le_trans h.big hsz, fun b x hx => (h.real b x hx).keep (hs b x hx) (fun _ _ => rfl) rfl (hu b x hx), h.inj⟩
/-- The machine's world turned where no variable of ours lies. -/
theorem put_HR {W : World} {ρ : Ren} {S : Nat → Prop} {H : Heap} {A : World} (h : HR ρ W H A) (hs : ScH W S H) {k : Nat} {o o' : Obj} (hk : A.heap[k]? = some o) (ho : o.isCells = false) (hW : W.heap.size ≤ k) : HR ρ W H (A.putObj k o') := by
  have hg := grownBy_putObj' A k o'
  refine ⟨fun r hr => ?_, Nat.le_trans h.big hg.size, fun b x hx => (h.real b x hx).keep (hs b x hx) (fun _ _ => rfl) rfl fun hu => hg.block _ ((h.real b x hx).lt hu).2 fun e => ?_, h.inj⟩
  · rw [hg.block r (by have := h.big; omega) (fun e => by cases e; omega)]
    exact h.low r hr
  · cases e
    have := real_cells (h.real b x hx) hu hk
    rw [ho] at this
    cases this
theorem put_Fr {H H' : Heap} {ρ ρ' : Ren} {w A : World} (h : Fr H ρ H' ρ' w A) {k : Nat} {o' : Obj} (hk : w.heap.size ≤ k) : Fr H ρ H' ρ' w (A.putObj k o') := by
  have hg := grownBy_putObj' A k o'
  refine ⟨hg.os.trans h.os, hg.tape.trans h.tape, hg.output.trans h.output, Nat.le_trans h.size hg.size, fun r hr hn => ?_, h.fresh, h.ren⟩
  rw [hg.block r (Nat.lt_of_lt_of_le hr h.size) (fun e => by cases e; omega)]
  exact h.keep r hr hn
theorem below_HR {W : World} {ρ : Ren} {S : Nat → Prop} {H : Heap} {A B : World} (h : HR ρ W H A) (hs : ScH W S H) (hb : RowKit.Below A.heap.size A B) : HR ρ W H B :=
  ⟨fun r hr => by rw [hb.block r (Nat.lt_of_lt_of_le hr h.big)]; exact h.low r hr, Nat.le_trans h.big hb.size, fun b x hx => (h.real b x hx).keep (hs b x hx) (fun _ _ => rfl) rfl fun hu => hb.block _ ((h.real b x hx).lt hu).2, h.inj⟩
theorem below_Fr {H H' : Heap} {ρ ρ' : Ren} {w A B : World} (h : Fr H ρ H' ρ' w A) (hb : RowKit.Below A.heap.size A B) : Fr H ρ H' ρ' w B :=
  ⟨hb.os.trans h.os, hb.tape.trans h.tape, hb.output.trans h.output, Nat.le_trans h.size hb.size, fun r hr hn => by rw [hb.block r (Nat.lt_of_lt_of_le hr h.size)]; exact h.keep r hr hn, h.fresh, h.ren⟩
theorem Shape.weaken {T T' : List V} {H H' : Heap} {l m : List Foot} (h : Shape T H T' H' l) (hs : ∀ f ∈ l, f ∈ m) : Shape T H T' H' m := ⟨h.gr.weaken hs, h.sc⟩
section
variable {P : Program} {ps : Array Tmp} {asg body : Code} {T : List V} {H : Heap}
/-- Where a round begins. -/
theorem round_shape {Tc : List V} {Hc : Heap} {lc : List Foot} {x : List U} (hx : ItemsOk T H x) (s : Shape T H Tc Hc lc) : Shape T H (setPs T ps.toList x) Hc lc :=
  ⟨s.gr, fun W S hT hH hlt => ⟨setPs_sc _ _ _ (ScT_mono hT (fun b => .inl)) (fun u hu => U.sc_mono (fun b => .inl) ((hx u hu).2 W S hT hH)), (s.sc W S hT hH hlt).2⟩⟩
theorem rf_shape (hc : ∀ b cs, blk H b = some (.cells cs) → ∀ x ∈ cs, ∀ i ∈ idsC x, i < H.length) {xs : List (List U)} {Hc : Heap} {ex : Ex} {H' : Heap} {l : List Foot} (h : RF P ps asg body T H.length xs Hc ex H' l) : (∀ x ∈ xs, ItemsOk T H x) → ∀ (Tc : List V) (lc : List Foot), Shape T H Tc Hc lc → ∃ Tn, Shape T H Tn H' (l ++ lc) := by
  induction h with
  | nil Hc => intro hx Tc lc s; exact ⟨Tc, s⟩
  | go h1 h2 hn _ ih =>
    intro hx Tc lc s
    have s0 := round_shape (ps := ps) (hx _ (List.mem_cons_self ..)) s
    have s2 := (s0.trans h1.toShape).trans h2.toShape
    obtain ⟨Tn, g⟩ := ih (fun y hy => hx y (List.mem_cons_of_mem _ hy)) _ _ (hn.shape rfl hc s2)
    exact ⟨Tn, by rw [List.append_assoc, List.append_assoc]; exact g⟩
  | out h1 h2 he hn =>
    intro hx Tc lc s
    have s0 := round_shape (ps := ps) (hx _ (List.mem_cons_self ..)) s
    have s2 := (s0.trans h1.toShape).trans h2.toShape
    exact ⟨_, by rw [List.append_assoc]; exact hn.shape rfl hc s2⟩
/-- What the function that is ranged over may rely on: what came in, and what it has captured. -/
def CapInv (W : World) (ρ : Ren) (H : Heap) (caps : List (Nat × Nat)) (A : World) : Prop := (∀ r, r < W.heap.size → A.heap[r]? = W.heap[r]?) ∧ W.heap.size ≤ A.heap.size ∧ ∀ p ∈ caps, ∀ B, blk H p.1 = some B → Real W ρ A p.1 B
theorem range_told {g : Operand} {gf : FuncId} {caps : List (Nat × Nat)} (hg : ev T g = some (.u (.c (.fn gf [] caps)))) (hen : ∀ args w, (callFunc gf args).run P w = .ok (.enter gf args) w) (hfl : plainC asg = true ∧ plainC body = true)
    {xs : List (List U)} (hxs : ∀ x ∈ xs, ItemsOk T H x) (hps : ∀ x ∈ xs, x.length = ps.size) (hc : ∀ b cs, blk H b = some (.cells cs) → ∀ x ∈ cs, ∀ i ∈ idsC x, i < H.length) (hTl : ∀ v ∈ T, ∀ i ∈ idsV v, i < H.length)
    (hcs : ∀ p ∈ caps, ∃ cs, blk H p.1 = some (.cells cs))
    (hit : ∀ (W : World) (S : Nat → Prop) (ρ : Ren) (a : Act) (w : World), St W S ρ T H a w → Yields P gf (caps.map (pv ρ)).toArray (xs.map (·.map (U.den ρ))) (caps.map fun p => (ρ p.1).r) (CapInv W ρ H caps))
    {ex : Ex} {H' : Heap} {l : List Foot} (hr : RF P ps asg body T H.length xs H ex H' l) (hcap : ∀ p ∈ caps, ¬ touch l p.1) : CodeTo P (.rangeFunc g ps asg body) T H ex T H' l := by
  obtain ⟨Tz, sz⟩ := rf_shape hc hr hxs T [] (Shape.refl T H)
  rw [List.append_nil] at sz
  have sh : Shape T H T H' l := ⟨sz.gr, fun W S hT hH hlt => ⟨ScT_mono hT (fun b => .inl), (sz.sc W S hT hH hlt).2⟩⟩
  refine { sh with run := fun ro n hro W S ρ a w hs Q hQ => ?_ }
  rcases hro with rfl | hro
  case inr => cases hro
  suffices hgoal : (Code.rangeFunc g ps asg body).wpIn Fence.wide 10 P Q a w from wpIn_wide.2 (wpIn_wide.1 hgoal)
  refine wpIn_rangeFunc fun fn hfn => ?_
  obtain ⟨rc, hrc⟩ : ∃ rc : LoopState → Option Code → Loop, rc = fun st pe => { state := st, pending := pe, fn, tmps := a.tmps, params := ps, assign := asg, body, defers := w.heap.size } := ⟨_, rfl⟩
  obtain ⟨W1, hW1⟩ : ∃ W1, (w.alloc (.deferred (some []))).alloc (.loop (rc .ready none)) = W1 := ⟨_, rfl⟩
  have hL1 : W1.heap[w.heap.size + 1]? = some (.loop (rc .ready none)) := by
    rw [← hW1]; have := World.alloc_heap_new (w.alloc (.deferred (some []))) (.loop (rc .ready none)); rwa [World.size_alloc] at this
  have hb1 : RowKit.Below w.heap.size w W1 := by
    rw [← hW1]; exact ((RowKit.Below.refl _ w).alloc (Nat.le_refl _) _).alloc (by simp) _
  have hK1 : W1.heap[w.heap.size]? = some (.deferred (some [])) := by
    rw [← hW1]; exact (RowKit.Below.heap_alloc _ _ _ (by simp)).trans (World.alloc_heap_new w _)
  have hfn0 : a.eval g = .func (.func gf) #[] (caps.map (pv ρ)).toArray := by rw [ev_den hg hs.tr]; rfl
  obtain ⟨a0, ha0⟩ : ∃ a0 : Act, a0 = { tmps := a.tmps, defers := [] } := ⟨_, rfl⟩
  have hbase := hs.hr.big
  -- what holds between two rounds
  obtain ⟨J, hJ⟩ : ∃ J : Nat → World → Prop, J = fun i A => ∃ (Hc : Heap) (Tc : List V) (lc lr : List Foot) (ρc : Ren), RF P ps asg body T H.length (xs.drop i) Hc ex H' lr ∧ Shape T H Tc Hc lc ∧ (∀ f ∈ lr, f ∈ l) ∧ (∀ f ∈ lc, f ∈ l) ∧ HR ρc W Hc A ∧ Fr H ρ Hc ρc w A ∧ A.heap[w.heap.size + 1]? = some (.loop (rc .ready none)) ∧ A.heap[w.heap.size]? = some (.deferred (some [])) := ⟨_, rfl⟩
  obtain ⟨Jx, hJx⟩ : ∃ Jx : World → Prop, Jx = fun A => ∃ ρc : Ren, ex ≠ .normal ∧ HR ρc W H' A ∧ Fr H ρ H' ρc w A ∧ A.heap[w.heap.size + 1]? = some (.loop (rc .done (some ex.code))) ∧ A.heap[w.heap.size]? = some (.deferred (some [])) := ⟨_, rfl⟩
  have scc : ∀ {Tc : List V} {Hc : Heap} {lc : List Foot}, Shape T H Tc Hc lc → ScH W (ext S H Hc) Hc := fun s => (s.sc W S hs.st hs.sh hs.lt).2
  refine ⟨w.heap.size + 1, [{ target := .collected w.heap.size, args := #[] }], W1, { target := .fn (.func gf) (caps.map (pv ρ)).toArray, args := #[.func (.yield (w.heap.size + 1)) #[] #[]] }, W1, gf,
    #[.func (.yield (w.heap.size + 1)) #[] #[]] ++ (caps.map (pv ρ)).toArray, W1, ?_, ?_, (fun _ _ => trivial), ?_, (fun e => by cases e), ?_⟩
  · rw [← hW1, hrc]; exact run_enterLoop_outer _ _ _ _ _
  · simp only [resolve, hfn0]
    simp [go_sem]
  · simp [invoke, go_sem, hen]
  have caps_ok : ∀ (A : World) (Hc : Heap) (Tc : List V) (lc : List Foot) (ρc : Ren), Shape T H Tc Hc lc → (∀ f ∈ lc, f ∈ l) → HR ρc W Hc A → Fr H ρ Hc ρc w A → CapInv W ρ H caps A := by
    intro A Hc Tc lc ρc j2 j4 j5 j6
    refine ⟨j5.low, j5.big, fun p hp B hB => ?_⟩
    have hB' := j2.gr.keep _ _ hB (fun t => hcap p hp (by obtain ⟨f, hf, e⟩ := t; exact ⟨f, j4 f hf, e⟩))
    exact (j5.real _ _ hB').keep (ρ' := ρ) (w' := A) (S := S) (hs.sh _ _ hB) (fun c hcS => (j6.ren c (hs.lt c hcS)).symm) (j6.ren _ (blk_lt hB)).symm (fun _ => rfl)
  have move : ∀ (A B : World) (Hc : Heap) (Tc : List V) (lc : List Foot) (ρc : Ren), Shape T H Tc Hc lc → (∀ f ∈ lc, f ∈ l) → HR ρc W Hc A → Fr H ρ Hc ρc w A → Stp (caps.map fun p => (ρ p.1).r) A B → CapInv W ρ H caps B →
      HR ρc W Hc B ∧ Fr H ρ Hc ρc w B ∧ (∀ (k : Nat) (o : Obj), A.heap[k]? = some o → o.isCells = false → B.heap[k]? = some o) ∧ True := by
    intro A B Hc Tc lc ρc j2 j4 j5 j6 hb hv
    have hmem : ∀ k, k ∈ (caps.map fun p => (ρ p.1).r) → ∃ p ∈ caps, ∃ cs, blk H p.1 = some (.cells cs) ∧ blk Hc p.1 = some (.cells cs) ∧ (ρc p.1).r = k ∧ ρc p.1 = ρ p.1 := by
      intro k hk
      obtain ⟨p, hp, rfl⟩ := List.mem_map.1 hk
      obtain ⟨cs, hB⟩ := hcs p hp
      have hB' := j2.gr.keep _ _ hB (fun t => hcap p hp (by obtain ⟨f, hf, e⟩ := t; exact ⟨f, j4 f hf, e⟩))
      have e := j6.ren _ (blk_lt hB)
      exact ⟨p, hp, cs, hB, hB', by rw [e], e⟩
    refine ⟨⟨hv.1, hv.2.1, fun b x hx => ?_, j5.inj⟩, ⟨hb.os.trans j6.os, hb.tape.trans j6.tape, hb.output.trans j6.output, Nat.le_trans j6.size hb.size, fun r hr1 hr2 => ?_, j6.fresh, j6.ren⟩, fun k o hk ho => ?_, trivial⟩
    · by_cases hin : x.used ∧ (ρc b).r ∈ (caps.map fun p => (ρ p.1).r)
      · obtain ⟨p, hp, cs, hB, hB', e1, e2⟩ := hmem _ hin.2
        have hbp : p.1 = b := j5.inj _ _ _ _ hB' hx trivial hin.1 e1
        rw [← hbp] at hx ⊢
        rw [hB'] at hx
        cases hx
        exact (hv.2.2 p hp _ hB).keep (ρ' := ρc) (w' := B) (S := S) (hs.sh _ _ hB) (fun c hcS => j6.ren c (hs.lt c hcS)) e2 (fun _ => rfl)
      · exact (j5.real b x hx).keep (scc j2 b x hx) (fun _ _ => rfl) rfl fun hu => hb.block _ ((j5.real b x hx).lt hu).2 (fun hm => hin ⟨hu, hm⟩)
    · rw [hb.block r (Nat.lt_of_lt_of_le hr1 j6.size) fun hm => ?_]
      · exact j6.keep r hr1 hr2
      · obtain ⟨p, hp, cs, hB, hB', e1, e2⟩ := hmem _ hm
        exact hr2 _ _ hB trivial (by rw [← e2, e1])
    · rw [hb.block k (Array.getElem?_eq_some_iff.1 hk).1 fun hm => ?_]
      · exact hk
      · obtain ⟨p, hp, cs, hB, hB', e1, e2⟩ := hmem _ hm
        have := real_cells (j5.real _ _ hB') trivial (o := o) (by rw [e1]; exact hk)
        rw [ho] at this
        cases this
  refine CallsIn.mono (hit W S ρ a w hs (w.heap.size + 1) J Jx W1 ?_ ?_ ?_ ?_ ?_ ?_) ?_
  · intro i A B hj hb hv
    rw [hJ] at hj ⊢
    obtain ⟨Hc, Tc, lc, lr, ρc, j1, j2, j3, j4, j5, j6, j7, j8⟩ := hj
    obtain ⟨h1, h2, h3, h4⟩ := move A B Hc Tc lc ρc j2 j4 j5 j6 hb hv
    exact ⟨Hc, Tc, lc, lr, ρc, j1, j2, j3, j4, h1, h2, (h3 _ _ j7 rfl), (h3 _ _ j8 rfl)⟩
  · intro A B hj hb hv
    rw [hJx] at hj ⊢
    obtain ⟨ρc, j1, j5, j6, j7, j8⟩ := hj
    obtain ⟨h1, h2, h3, h4⟩ := move A B H' T l ρc sh (fun f hf => hf) j5 j6 hb hv
    exact ⟨ρc, j1, h1, h2, h3 _ _ j7 rfl, h3 _ _ j8 rfl⟩
  · intro i A hj
    rw [hJ] at hj
    obtain ⟨Hc, Tc, lc, lr, ρc, j1, j2, j3, j4, j5, j6, j7, j8⟩ := hj
    exact caps_ok A Hc Tc lc ρc j2 j4 j5 j6
  · intro A hj
    rw [hJx] at hj
    obtain ⟨ρc, j1, j5, j6, j7, j8⟩ := hj
    exact caps_ok A H' T l ρc sh (fun f hf => hf) j5 j6
  · intro i xv A hxi hj m
    rw [hJ] at hj
    obtain ⟨Hc, Tc, lc, lr, ρc, j1, j2, j3, j4, j5, j6, j7, j8⟩ := hj
    obtain ⟨x, hx, rfl⟩ : ∃ x, xs[i]? = some x ∧ x.map (U.den ρ) = xv := by rw [List.getElem?_map, Option.map_eq_some_iff] at hxi; exact hxi
    have hxm := List.mem_of_getElem? hx
    have hdrop : xs.drop i = x :: xs.drop (i + 1) := List.drop_eq_getElem?_toList_append.trans (by rw [hx]; rfl)
    rw [hdrop] at j1
    have hden : x.map (U.den ρ) = x.map (U.den ρc) := List.map_congr_left fun u hu => U.den_ids (hxs x hxm u hu).1 ((hxs x hxm u hu).2 W S hs.st hs.sh) ρ ρc
    rw [hden]
    have hlt : w.heap.size + 1 < A.heap.size := (Array.getElem?_eq_some_iff.1 j7).1
    have hy := run_yield (P := P) (args := (x.map (U.den ρc)).toArray) j7 (by rw [hrc]; simpa using hps x hxm)
    rw [hrc] at hy
    refine ⟨fn, _, asg, body, hy, roundIn_of_wpIn hfn ?_⟩
    clear hy
    have s0 := round_shape (ps := ps) (hxs x hxm) j2
    have hTR : TR ρc (setPs T ps.toList x) { tmps := (ps.zip (x.map (U.den ρc)).toArray).foldl (fun t (p, v) => t.setIfInBounds p v) a.tmps, defers := [] } := by
      have h1 : TR ρc T { tmps := a.tmps, defers := [] } := by
        have := TR_congr (a := a) (fun b hb => j6.ren b (hs.lt b hb)) hs.st hs.tr
        exact ⟨this.len, this.val⟩
      have h2 := setPs_tr (ρ := ρc) ps.toList x T a.tmps h1
      have e : (ps.zip (x.map (U.den ρc)).toArray) = (ps.toList.zip (x.map (U.den ρc))).toArray := by apply Array.ext'; simp
      rw [e, List.foldl_toArray]
      exact h2
    obtain ⟨ax, hax⟩ : ∃ ax : Act, ax = { tmps := (ps.zip (x.map (U.den ρc)).toArray).foldl (fun t (p, v) => t.setIfInBounds p v) a.tmps, defers := [] } := ⟨_, rfl⟩
    have hTR' : TR ρc (setPs T ps.toList x) ax := by rw [hax]; exact hTR
    have hsame : ({ tmps := (ps.zip (x.map (U.den ρc)).toArray).foldl (fun t (p, v) => t.setIfInBounds p v) a.tmps, defers := [] } : Act) = ax := hax.symm
    have e0 : En W ρ ρc (setPs T ps.toList x) H Hc a0 ax w A := ⟨.same (by rw [hax, ha0]), hTR', j5, j6⟩
    have hs0 : St W S ρ T H a0 w := ⟨by rw [ha0]; exact ⟨hs.tr.len, hs.tr.val⟩, hs.hr, hs.st, hs.sh, hs.lt⟩
    show Code.wpIn (fen (some (w.heap.size + 1))) m P asg _ _ A
    rw [hsame]
    -- the round, whatever comes behind it
    have round : ∀ (ex1 : Ex) (T1 T2 : List V) (H1 H2 : Heap) (l1 l2 : List Foot) (R : Ending → World → Prop), CodeTo P asg (setPs T ps.toList x) Hc .normal T1 H1 l1 → CodeTo P body T1 H1 ex1 T2 H2 l2 →
        (∀ (ρ2 : Ren) (a2 : Act) (A2 : World), En W ρ ρ2 T2 H H2 a0 a2 w A2 → A2.heap[w.heap.size + 1]? = some (.loop (rc .busy none)) → A2.heap[w.heap.size]? = some (.deferred (some [])) → roundPost P (w.heap.size + 1) R ex1.den a2 A2) →
        asg.wpIn (fen (some (w.heap.size + 1))) m P (Exit.then (fun a₁ w₁ => ∃ w₂, (Instr.beginRound (w.heap.size + 1)).run P w₁ = .ok () w₂ ∧ body.wpIn (fen (some (w.heap.size + 1))) m P (roundPost P (w.heap.size + 1) R) a₁ w₂) (fun _ _ _ => False)) ax A := by
      intro ex1 T1 T2 H1 H2 l1 l2 R c1 c2 hR
      have s1 := s0.trans c1.toShape
      refine c1.run (some (w.heap.size + 1)) m (.inr hfl.1) W _ ρc ax A (e0.st hs0 s0) _ fun ρ1 a1 A1 en1 => ?_
      have e1 := En.trans s0.gr c1.gr e0 en1
      have k7 := keepObj j5 en1.fr j7 rfl
      have k8 := keepObj j5 en1.fr j8 rfl
      refine ⟨A1.putObj (w.heap.size + 1) (.loop (rc .busy none)), ?_, ?_⟩
      · have := run_beginRound (P := P) k7 (by rw [hrc]); rw [hrc] at this ⊢; exact this
      have hr1 := put_HR (o' := .loop (rc .busy none)) e1.hr (scc s1) k7 rfl (by omega)
      have hf1 := put_Fr (k := w.heap.size + 1) (o' := .loop (rc .busy none)) e1.fr (by omega)
      have k7' : (A1.putObj (w.heap.size + 1) (.loop (rc .busy none))).heap[w.heap.size + 1]? = some (.loop (rc .busy none)) := World.putObj_heap_same (Array.getElem?_eq_some_iff.1 k7).1
      have k8' : (A1.putObj (w.heap.size + 1) (.loop (rc .busy none))).heap[w.heap.size]? = some (.deferred (some [])) := (World.putObj_heap_other (by omega)).trans k8
      have e1' : En W ρ ρ1 T1 H H1 a0 a0 w (A1.putObj (w.heap.size + 1) (.loop (rc .busy none))) → True := fun _ => trivial
      obtain ⟨b1, hb1⟩ : ∃ b1 : Act, b1 = { tmps := a1.tmps, defers := [] } := ⟨_, rfl⟩
      have st1 : St W (ext S H H1) ρ1 T1 H1 a1 (A1.putObj (w.heap.size + 1) (.loop (rc .busy none))) := by
        have := s1.sc W S hs.st hs.sh hs.lt
        exact ⟨e1.tr, hr1, this.1, this.2, ext_lt s1.gr.len hs.lt⟩
      refine c2.run (some (w.heap.size + 1)) m (.inr hfl.2) W _ ρ1 a1 _ st1 _ fun ρ2 a2 A2 en2 => ?_
      refine hR ρ2 { tmps := a2.tmps, defers := [] } A2 ⟨.same (by rw [ha0]), ⟨en2.tr.len, en2.tr.val⟩, en2.hr, hf1.trans s1.gr c2.gr en2.fr⟩ (keepObj hr1 en2.fr k7' rfl) (keepObj hr1 en2.fr k8' rfl) |> fun h => ?_
      cases ex1 <;> exact h
    have fin : ∀ (jump : Option Code) (A2 : World), A2.heap[w.heap.size + 1]? = some (.loop (rc .busy none)) → (Instr.endRound (w.heap.size + 1) jump).run P A2 = .ok (.bool jump.isNone) (A2.putObj (w.heap.size + 1) (.loop (rc (if jump.isNone then .ready else .done) jump))) := fun jump A2 hk => by
      have := run_endRound (P := P) jump hk
      rw [hrc] at this ⊢
      exact this
    cases j1 with
    | go h1 h2 hn h =>
      have s2 := (s0.trans h1.toShape).trans h2.toShape
      refine round .normal _ _ _ _ _ _ _ h1 h2 fun ρ2 a2 A2 e2 k7 k8 => ?_
      refine ⟨_, _, fin none A2 k7, .inl ⟨rfl, ?_⟩⟩
      have e3 := hn.en rfl s2 hs0 e2
      have s3 := hn.shape rfl hc s2
      rw [hJ]
      refine ⟨_, _, _, _, _, h, s3, fun f hf => j3 f (List.mem_append_left _ hf), fun f hf => ?_, put_HR e3.hr (scc s3) k7 rfl (by omega), put_Fr e3.fr (by omega), World.putObj_heap_same (Array.getElem?_eq_some_iff.1 k7).1, (World.putObj_heap_other (by omega)).trans k8⟩
      rcases List.mem_append.1 hf with hf | hf
      · exact j3 f (List.mem_append_right _ (List.mem_append_left _ hf))
      · rcases List.mem_append.1 hf with hf | hf
        · exact j3 f (List.mem_append_right _ (List.mem_append_right _ hf))
        · exact j4 f hf
    | out h1 h2 he hn =>
      have s2 := (s0.trans h1.toShape).trans h2.toShape
      refine round ex _ _ _ _ _ _ _ h1 h2 fun ρ2 a2 A2 e2 k7 k8 => ?_
      have e3 := hn.en rfl s2 hs0 e2
      have hf := fin (some ex.code) A2 k7
      have hjx : Jx (A2.putObj (w.heap.size + 1) (.loop (rc (if (some ex.code).isNone then .ready else .done) (some ex.code)))) := by
        rw [hJx]
        exact ⟨_, he, put_HR e3.hr (scc (hn.shape rfl hc s2)) k7 rfl (by omega), put_Fr e3.fr (by omega), World.putObj_heap_same (Array.getElem?_eq_some_iff.1 k7).1, (World.putObj_heap_other (by omega)).trans k8⟩
      cases ex with
      | normal => exact absurd rfl he
      | exit id => exact ⟨_, _, hf, .inr ⟨rfl, hjx⟩⟩
      | ret => exact ⟨_, _, hf, .inr ⟨rfl, hjx⟩⟩
  · rw [hJ]
    exact ⟨H, T, [], l, ρ, hr, Shape.refl T H, (fun f hf => hf), (fun f hf => by cases hf), below_HR hs.hr hs.sh (hb1), below_Fr (Fr.refl H ρ w) hb1, hL1, hK1⟩
  · rintro e B ⟨⟨v, rfl⟩, hj | hj⟩
    · rw [hJ] at hj
      obtain ⟨Hc, Tc, lc, lr, ρc, j1, j2, j3, j4, j5, j6, j7, j8⟩ := hj
      rw [List.length_map, List.drop_length] at j1
      cases j1
      refine ⟨none, _, by have := run_endLoop (P := P) j7 (by rw [hrc]; simp); rw [hrc] at this; exact this, ?_⟩
      refine hQ ρc _ _ ⟨⟨[coll w.heap.size], rfl, [w.heap.size], rfl, by simp, fun D hD => ?_⟩, ?_, put_HR j5 (scc sh) j7 rfl (by omega), put_Fr j6 (by omega)⟩
      · rw [List.mem_singleton.1 hD]
        exact ⟨Nat.le_refl _, (World.putObj_heap_other (by omega)).trans j8⟩
      · have := TR_congr (a := a) (fun b hb => j6.ren b (hs.lt b hb)) hs.st hs.tr
        exact ⟨this.len, this.val⟩
    · rw [hJx] at hj
      obtain ⟨ρc, j1, j5, j6, j7, j8⟩ := hj
      refine ⟨some ex.code, _, by have := run_endLoop (P := P) j7 (by rw [hrc]; simp); rw [hrc] at this; exact this, ?_⟩
      have hq : ∀ a' : Act, a'.defers = coll w.heap.size :: a.defers → a'.tmps = a.tmps → Q ex.den a' (B.putObj (w.heap.size + 1) (.loop { rc .done (some ex.code) with state := .exhausted })) := by
        intro a' h1 h2
        refine hQ ρc _ _ ⟨⟨[coll w.heap.size], h1, [w.heap.size], rfl, by simp, fun D hD => ?_⟩, ?_, put_HR j5 (scc sh) j7 rfl (by omega), put_Fr j6 (by omega)⟩
        · rw [List.mem_singleton.1 hD]
          exact ⟨Nat.le_refl _, (World.putObj_heap_other (by omega)).trans j8⟩
        · have := TR_congr (a := a) (fun b hb => j6.ren b (hs.lt b hb)) hs.st hs.tr
          exact ⟨by rw [h2]; exact this.len, by rw [h2]; exact this.val⟩
      have hq' := hq { a with defers := coll w.heap.size :: a.defers } rfl rfl
      rw [hrc] at hq'
      cases ex with
      | normal => exact absurd rfl j1
      | exit id => exact wpIn_exit hq'
      | ret => exact wpIn_ret hq'
end
/-! Rounds, read. -/
def asgOf : Code → Code
  | .rangeFunc _ _ a _ => a
  | _ => .skip
def bodyOf : Code → Code
  | .rangeFunc _ _ _ b => b
  | _ => .skip
def rangeOf (fn : Func) (i : Nat) : Code := ((ranges (fn.body.getD .skip))[i]?).getD .skip
/-- Temporaries by number; the others are not known. -/
def TT (n : Nat) (l : List (Nat × V)) : List V := (List.range n).map fun i => (look l i).getD .any
def roundA {α : Type} (P : Program) (call : CallT α) (fuel : Nat) (lvs : List (Nat × LV)) (asg body : Code) (n0 : Nat) (T : List V) (H : Heap) (L : List Foot) (k : Ex → Heap → List Foot → Option α) : Option α :=
  codeA P call fuel lvs asg T H L fun ex T H L => match ex with
    | .normal => codeA P call fuel lvs body T H L fun ex T H L => normA n0 [] T H fun _ H => k ex H L
    | _ => none
theorem codeTo_of {P : Program} (hm : P.follows .mixedOrders = true) {call : CallT (Ex × List V × Heap × List Foot)} (hc : CallOk P call) {fuel : Nat} {lvs : List (Nat × LV)} {c : Code} (hlo : LoopsOk P c lvs) {T : List V} {H : Heap} {ex : Ex} {T' : List V} {H' : Heap} {l : List Foot}
    (h : codeA P call fuel lvs c T H [] (fun ex T H L => some (ex, T, H, L)) = some (ex, T', H', l)) : CodeTo P c T H ex T' H' l := by
  obtain ⟨ex', T2, H2, l2, h1, ct⟩ := codeA_sound hm hc fuel lvs c hlo T H [] _ _ h
  rw [List.append_nil] at h1
  cases h1
  exact ct
theorem rf_step {P : Program} (hm : P.follows .mixedOrders = true) {call : CallT (Ex × Heap × List Foot)} (hc : CallOk P call) {fuel : Nat} {lvs : List (Nat × LV)} {ps : Array Tmp} {asg body : Code} (ha : LoopsOk P asg lvs) (hb : LoopsOk P body lvs) {T : List V} {n0 : Nat} {x : List U} {r : List (List U)} {H : Heap} {ex : Ex} {Hn : Heap} {lx : List Foot}
    (h : roundA P call fuel lvs asg body n0 (setPs T ps.toList x) H [] (fun ex H L => some (ex, H, L)) = some (ex, Hn, lx)) : (ex ≠ .normal → RF P ps asg body T n0 (x :: r) H ex Hn lx) ∧ (ex = .normal → ∀ ex' H' l, RF P ps asg body T n0 r Hn ex' H' l → RF P ps asg body T n0 (x :: r) H ex' H' (l ++ lx)) := by
  obtain ⟨ex1, T1, H1, l1, h1, c1⟩ := codeA_sound hm hc fuel lvs asg ha _ _ _ _ _ h
  cases ex1 with
  | normal =>
    simp only at h1
    obtain ⟨ex2, T2, H2, l2, h2, c2⟩ := codeA_sound hm hc fuel lvs body hb _ _ _ _ _ h1
    obtain ⟨ids, T3, H3, h3, hn⟩ := normA_spec h2
    cases h3
    rw [List.append_nil]
    refine ⟨fun he => .out c1 c2 he hn, fun he ex' H' l hr => ?_⟩
    subst he
    exact .go c1 c2 hn hr
  | exit id => cases h1
  | ret => cases h1
end Go.Proofs.Ytbgdfikfldkjbaa.AI
