/- Functions that are ranged over, read: what they yield, as a list. -/
import Derived.Test.YtbgdfikfldkjbaaAR
namespace Go.Proofs.Ytbgdfikfldkjbaa.AI
set_option linter.unnecessarySimpa false
open Go
set_option linter.unusedVariables false
set_option linter.unusedSimpArgs false
/-- What is yielded, and what comes after either answer. -/
inductive YT where
  | leaf
  | yield (l : Nat) (x : List U) (t f : YT)
def treeOf (l : Nat) : List (List U) → YT
  | [] => .leaf
  | x :: r => .yield l x (treeOf l r) .leaf
def yieldO (l : Nat) (x : List U) : Option YT → Option YT → Option YT
  | some t, some f => some (.yield l x t f)
  | _, _ => none
def usOf : List V → Option (List U)
  | [] => some []
  | .u x :: r => (usOf r).map (x :: ·)
  | _ => none
/-- A call of yield. -/
def yieldOp (T : List V) (o : Oper) : Option (Nat × List U) :=
  match o.op, o.guard with
  | .call ⟨.value f, args, _⟩, none => match ev T f, evs T args.toList with
    | some (.u (.c (.yld l))), some vs => (usOf vs).map fun us => (l, us)
    | _, _ => none
  | _, _ => none
/-- Values that name blocks of the call's own are struck. -/
def strike (c0 : Nat) (v : V) : V := cond ((idsV v).all fun b => Nat.blt b c0) v .any
def clean (c0 : Nat) (L : List Foot) : Bool := L.all fun f => Nat.ble c0 f.b
abbrev KY := Ex → List V → Heap → List Foot → Option YT
def regY (P : Program) (call : CallT YT) (c0 : Nat) (ops : Array Oper) : List Oper → List V → Heap → List Foot → (List V → Heap → List Foot → Option YT) → Option YT
  | [], T, H, L, k => k T H L
  | o :: r, T, H, L, k => match yieldOp T o with
    | some (l, x) => cond (clean c0 L) (yieldO l x (regY P call c0 ops r (putT (T.map (strike c0)) o.dst (.u (.c (.bool true)))) (H.take c0) [] k) (regY P call c0 ops r (putT (T.map (strike c0)) o.dst (.u (.c (.bool false)))) (H.take c0) [] k)) none
    | none => wantA ops T o (fun T => stepA P call T H o fun v H' l => regY P call c0 ops r (putT T o.dst v) H' (l ++ L) k) (fun T => regY P call c0 ops r (putT T o.dst undefV) H L k)
def settleY (c0 : Nat) (lv : List Nat) (T : List V) (H : Heap) (L : List Foot) (k : List V → Heap → Option YT) : Option YT := cond (clean c0 L) (k ((keepL lv 0 T).map (strike c0)) (H.take c0)) none
def loopY (c0 : Nat) (lv : List Nat) (body : List V → Heap → List Foot → KY → Option YT) : Nat → List V → Heap → KY → Option YT
  | 0, _, _, _ => none
  | n + 1, T, H, k => body T H [] fun ex T H L => match ex with
    | .normal => settleY c0 lv T H L fun T H => loopY c0 lv body n T H k
    | e => k e T H L
def codeY (P : Program) (call : CallT YT) (fuel : Nat) (lvs : List (Nat × List Nat)) (c0 : Nat) : Code → List V → Heap → List Foot → KY → Option YT
  | .skip, T, H, L, k => k .normal T H L
  | .label _, T, H, L, k => k .normal T H L
  | .ret, T, H, L, k => k .ret T H L
  | .exit id, T, H, L, k => k (.exit id) T H L
  | .region _ ops draw, T, H, L, k => cond draw (regD P call ops T H L fun T H L => k .normal T H L) (regY P call c0 ops ops.toList T H L fun T H L => k .normal T H L)
  | .seq a b, T, H, L, k => codeY P call fuel lvs c0 a T H L fun ex T H L => match ex with
    | .normal => codeY P call fuel lvs c0 b T H L k
    | e => k e T H L
  | .cond c a b, T, H, L, k => match ev T c with
    | some (.u (.c (.bool β))) => cond β (codeY P call fuel lvs c0 a (know T c true) H L k) (codeY P call fuel lvs c0 b (know T c false) H L k)
    | _ => none
  | .block id b, T, H, L, k => codeY P call fuel lvs c0 b T H L fun ex T H L => match ex with
    | .exit i => cond (i == id) (k .normal T H L) (k (.exit i) T H L)
    | e => k e T H L
  | .loop b, T, H, L, k => match (keyOf b).bind (look lvs) with
    | some lv => settleY c0 lv T H L fun T H => loopY c0 lv (codeY P call fuel lvs c0 b) fuel T H k
    | none => none
  | _, _, _, _, _ => none
def endY (c0 : Nat) : KY := fun ex _ _ L => match ex with
  | .exit _ => none
  | _ => cond (clean c0 L) (some .leaf) none
/-- What lies in the captured blocks. -/
def CapOk (W : World) (ρ : Ren) (H0 : Heap) (A : World) : Prop := (∀ r, r < W.heap.size → A.heap[r]? = W.heap[r]?) ∧ W.heap.size ≤ A.heap.size ∧ ∀ b B, blk H0 b = some B → Real W ρ A b B
section
variable {P : Program} {call : CallT YT} {c0 : Nat} {W : World} {ρ0 : Ren} {H0 : Heap} {l0 : Nat} {xs : List (List U)} {J : Nat → World → Prop} {Jx : World → Prop}
/-- Where the reading stands: A0 is the world in which the last round ended. -/
structure IS (W : World) (ρ0 : Ren) (H0 : Heap) (c0 : Nat) (A0 : World) (T : List V) (H : Heap) (L : List Foot) (ρ : Ren) (a : Act) (A : World) : Prop where
  dl : a.defers = []
  tr : TR ρ T a
  hr : HR ρ W H A
  st : ScT W (fun b => b < H.length) T
  sh : ScH W (fun b => b < H.length) H
  len : c0 ≤ H.length
  ren : ∀ b, b < c0 → ρ b = ρ0 b
  on : clean c0 L = true → Stp ((List.range c0).map fun b => (ρ0 b).r) A0 A ∧ (∀ b B, c0 ≤ b → blk H b = some B → B.used → A0.heap.size ≤ (ρ b).r) ∧ ∀ b, b < c0 → blk H b = blk H0 b
def JJ (J : Nat → World → Prop) (Jx : World → Prop) (i : Nat) (stop : Bool) (A : World) : Prop := cond stop (Jx A) (J i A)
/-- What is still to come. -/
def RY (l0 : Nat) (xs : List (List U)) (r : YT) (i : Nat) (stop : Bool) : Prop := cond stop (r = .leaf) (i ≤ xs.length ∧ r = treeOf l0 (xs.drop i))
theorem clean_append {c0 : Nat} {l L : List Foot} (h : clean c0 (l ++ L) = true) : clean c0 l = true ∧ clean c0 L = true := by
  unfold clean at *
  rw [List.all_append, Bool.and_eq_true] at h
  exact h
theorem clean_touch {c0 : Nat} {l : List Foot} (h : clean c0 l = true) {b : Nat} (hb : b < c0) : ¬ touch l b := by
  rintro ⟨f, hf, e⟩
  have := List.all_eq_true.1 h f hf
  rw [Nat.ble_eq] at this
  omega
/-- A step, or more, of the text's own. -/
theorem IS.step {A0 : World} {T T' : List V} {H H' : Heap} {L l : List Foot} {ρ ρ' : Ren} {a a' : Act} {A A' : World} (h : IS W ρ0 H0 c0 A0 T H L ρ a A) (g : Gr H H' l) (hd : a'.defers = []) (ht : TR ρ' T' a') (hr : HR ρ' W H' A') (hf : Fr H ρ H' ρ' A A')
    (hs : ScT W (ext (fun b => b < H.length) H H') T' ∧ ScH W (ext (fun b => b < H.length) H H') H') : IS W ρ0 H0 c0 A0 T' H' (l ++ L) ρ' a' A' := by
  have hm : ∀ b, ext (fun b => b < H.length) H H' b → b < H'.length := fun b hb => hb.elim (fun hb => Nat.lt_of_lt_of_le hb g.len) (fun hb => hb.2)
  refine ⟨hd, ht, hr, ScT_mono hs.1 hm, scH_mono hs.2 hm, Nat.le_trans h.len g.len, fun b hb => (hf.ren b (Nat.lt_of_lt_of_le hb h.len)).trans (h.ren b hb), fun hc => ?_⟩
  obtain ⟨hcl, hcL⟩ := clean_append hc
  obtain ⟨s, fr, ol⟩ := h.on hcL
  have low : ∀ b, b < c0 → ∀ B, blk H b = some B → blk H' b = some B := fun b hb B hB => g.keep b B hB (clean_touch hcl hb)
  have where_ : ∀ b B, blk H b = some B → B.used → A0.heap.size ≤ (ρ b).r ∨ (ρ b).r ∈ (List.range c0).map fun b => (ρ0 b).r := fun b B hB hu => by
    by_cases hb : b < c0
    · exact .inr (by rw [h.ren b hb]; exact List.mem_map.2 ⟨b, List.mem_range.2 hb, rfl⟩)
    · exact .inl (fr b B (by omega) hB hu)
  refine ⟨⟨hf.os.trans s.os, hf.tape.trans s.tape, hf.output.trans s.output, Nat.le_trans s.size hf.size, fun k hk hn => ?_⟩, fun b B hb hB hu => ?_, fun b hb => ?_⟩
  · rw [hf.keep k (Nat.lt_of_lt_of_le hk s.size) fun b B hB hu e => ?_]
    · exact s.block k hk hn
    · rcases where_ b B hB hu with h1 | h1
      · omega
      · rw [e] at h1; exact hn h1
  · by_cases hlt : b < H.length
    · rw [hf.ren b hlt]
      cases hB0 : blk H b with
      | none => rw [g.dead b hlt hB0] at hB; cases hB
      | some B0 => exact fr b B0 hb hB0 (g.used b B0 B hB0 hB hu)
    · rcases hf.fresh b B (by omega) hB hu with h1 | ⟨c, D, h1, h2, h3, h4⟩
      · exact Nat.le_trans s.size h1
      · rw [h4]
        by_cases hc' : c < c0
        · rw [low c hc' D h1] at h3; cases h3
        · exact fr c D (by omega) h1 h2
  · rw [← ol b hb]
    cases hB : blk H b with
    | none => exact g.dead b (Nat.lt_of_lt_of_le hb h.len) hB
    | some B => exact low b hb B hB
theorem C_sc_lt {W : World} {S S2 : Nat → Prop} {x : C} (h : x.sc W S) (hi : ∀ i ∈ idsC x, S2 i) : x.sc W S2 := by
  have := renC_sc (f := fun b => b) (S2 := S2) hi h
  rwa [renC_id fun _ _ => rfl] at this
theorem U_sc_lt {W : World} {S S2 : Nat → Prop} {x : U} (h : x.sc W S) (hi : ∀ i ∈ idsU x, S2 i) : x.sc W S2 := by
  cases x with
  | c x => exact C_sc_lt h hi
  | a cs => exact fun x hx => C_sc_lt (h x hx) fun i hi' => hi i (List.mem_flatMap.2 ⟨x, hx, hi'⟩)
theorem V_sc_lt {W : World} {S S2 : Nat → Prop} {x : V} (h : x.sc W S) (hi : ∀ i ∈ idsV x, S2 i) : x.sc W S2 := by
  cases x with
  | u x => exact U_sc_lt h hi
  | t xs => exact fun x hx => U_sc_lt (h x hx) fun i hi' => hi i (List.mem_flatMap.2 ⟨x, hx, hi'⟩)
  | any => exact trivial
theorem blk_took {H : Heap} {c0 b : Nat} {B : Blk} (h : blk (H.take c0) b = some B) : b < c0 ∧ blk H b = some B := by
  rw [blk_eq, List.getElem?_take] at h
  split at h
  · rename_i hb; exact ⟨hb, blk_eq.2 h⟩
  · cases h
theorem sc_strike {c0 : Nat} {T : List V} {S : Nat → Prop} (h : ScT W S T) : ScT W (fun b => b < c0) (T.map (strike c0)) := by
  intro v hv
  obtain ⟨u, hu, rfl⟩ := List.mem_map.1 hv
  unfold strike
  cases hc : (idsV u).all fun b => Nat.blt b c0
  · exact trivial
  · rw [cond_true]
    have hu' := h u hu
    have hi : ∀ i ∈ idsV u, i < c0 := fun i hi => by have := List.all_eq_true.1 hc i hi; rwa [Nat.blt_eq] at this
    exact V_sc_lt hu' hi
theorem tr_strike {c0 : Nat} {T : List V} {ρ : Ren} {a : Act} (h : TR ρ T a) : TR ρ (T.map (strike c0)) a := by
  refine ⟨by rw [List.length_map]; exact h.len, fun t v hv hne => ?_⟩
  rw [nth_eq, List.getElem?_map, Option.map_eq_some_iff] at hv
  obtain ⟨u, hu, rfl⟩ := hv
  unfold strike at hne ⊢
  cases hc : (idsV u).all fun b => Nat.blt b c0
  · rw [hc] at hne; exact absurd rfl hne
  · rw [hc, cond_true] at hne; rw [cond_true]; exact h.val t u (by rw [nth_eq]; exact hu) hne
theorem tr_keep {lv : List Nat} {T : List V} {ρ : Ren} {a : Act} (h : TR ρ T a) : TR ρ (keepL lv 0 T) a := by
  refine ⟨by rw [keepL_len]; exact h.len, fun t v hv hne => ?_⟩
  rw [nth_eq, keepL_get, Option.map_eq_some_iff] at hv
  obtain ⟨u, hu, e⟩ := hv
  cases hc : lv.any (Nat.beq (0 + t))
  · rw [hc] at e; exact absurd e.symm hne
  · rw [hc, cond_true] at e; subst e; exact h.val t u (by rw [nth_eq]; exact hu) hne
theorem sc_keep {lv : List Nat} {T : List V} {S : Nat → Prop} (h : ScT W S T) : ScT W S (keepL lv 0 T) := by
  intro v hv
  obtain ⟨t, ht⟩ := List.getElem?_of_mem hv
  rw [keepL_get, Option.map_eq_some_iff] at ht
  obtain ⟨u, hu, rfl⟩ := ht
  cases lv.any (Nat.beq (0 + t))
  · exact trivial
  · exact h u (List.mem_of_getElem? hu)
/-- Only what was captured is kept. -/
theorem IS.settle (hlen : H0.length = c0) (hcl : ∀ b B, blk H0 b = some B → ∃ m, idsB B = some m ∧ ∀ i ∈ m, i < c0) {A0 : World} {T : List V} {H : Heap} {L : List Foot} {ρ : Ren} {a : Act} {A : World} (h : IS W ρ0 H0 c0 A0 T H L ρ a A) (hc : clean c0 L = true) (T' : List V) (ht : TR ρ T' a) (hs : ScT W (fun b => b < c0) T') : IS W ρ0 H0 c0 A0 T' (H.take c0) [] ρ a A := by
  obtain ⟨s, fr, ol⟩ := h.on hc
  have hl : (H.take c0).length = c0 := by rw [List.length_take]; have := h.len; omega
  refine ⟨h.dl, ht, ⟨h.hr.low, h.hr.big, fun b B hB => h.hr.real b B (blk_took hB).2, fun b b' B B' hB hB' => h.hr.inj b b' B B' (blk_took hB).2 (blk_took hB').2⟩, by rw [hl]; exact hs, fun b B hB => ?_, by rw [hl]; exact Nat.le_refl _, h.ren, fun _ => ⟨s, fun b B hb hB => by have := (blk_took hB).1; omega, fun b hb => ?_⟩⟩
  · obtain ⟨hb, hB⟩ := blk_took hB
    have hB0 : blk H0 b = some B := by rw [← ol b hb]; exact hB
    obtain ⟨m, hm, hi⟩ := hcl b B hB0
    have := h.sh b B hB
    rw [hl]
    cases B with
    | cells cs =>
      simp only [idsB, Option.some.injEq] at hm
      subst hm
      exact fun x hx => C_sc_lt (this x hx) fun i hi' => hi i (List.mem_flatMap.2 ⟨x, hx, hi'⟩)
    | row e sz n get fl =>
      cases fl with
      | false => simp [idsB] at hm
      | true => exact ⟨fun i hi' => ⟨(this.1 i hi').1, fun x hx => C.sc_mono (fun b hb => hb.elim) (this.2 rfl i hi' x hx)⟩, this.2⟩
  · rw [← ol b hb]
    unfold blk
    rw [nth_eq, nth_eq, List.getElem?_take, if_pos hb]
theorem IS.cap (hlen : H0.length = c0) (hcl : ∀ b B, blk H0 b = some B → ∃ m, idsB B = some m ∧ ∀ i ∈ m, i < c0) {A0 : World} {T : List V} {H : Heap} {L : List Foot} {ρ : Ren} {a : Act} {A : World} (h : IS W ρ0 H0 c0 A0 T H L ρ a A) (hc : clean c0 L = true) : CapOk W ρ0 H0 A := by
  obtain ⟨s, fr, ol⟩ := h.on hc
  refine ⟨h.hr.low, h.hr.big, fun b B hB => ?_⟩
  have hb : b < c0 := by rw [← hlen]; exact blk_lt hB
  have hB' : blk H b = some B := by rw [ol b hb]; exact hB
  have hl : (H.take c0).length = c0 := by rw [List.length_take]; have := h.len; omega
  obtain ⟨m, hm, hi⟩ := hcl b B hB
  have hsc : B.sc W (fun b => b < c0) := by
    have := h.sh b B hB'
    cases B with
    | cells cs =>
      simp only [idsB, Option.some.injEq] at hm
      subst hm
      exact fun x hx => C_sc_lt (this x hx) fun i hi' => hi i (List.mem_flatMap.2 ⟨x, hx, hi'⟩)
    | row e sz n get fl =>
      cases fl with
      | false => simp [idsB] at hm
      | true => exact ⟨fun i hi' => ⟨(this.1 i hi').1, fun x hx => C.sc_mono (fun b hb => hb.elim) (this.2 rfl i hi' x hx)⟩, this.2⟩
  exact (h.hr.real b B hB').keep (ρ' := ρ0) hsc (fun c hc => (h.ren c hc).symm) (h.ren b hb).symm (fun _ => rfl)
/-- Behind a yield. -/
theorem IS.after (hlen : H0.length = c0) {A0 : World} {T : List V} {H : Heap} {L : List Foot} {ρ : Ren} {a : Act} {A A1 : World} (h : IS W ρ0 H0 c0 A0 T H L ρ a A) (hcl : ∀ b B, blk H0 b = some B → ∃ m, idsB B = some m ∧ ∀ i ∈ m, i < c0) (hc : clean c0 L = true) (hcap : CapOk W ρ0 H0 A1) : IS W ρ0 H0 c0 A1 (T.map (strike c0)) (H.take c0) [] ρ a A1 := by
  have g := h.settle hlen hcl hc (T.map (strike c0)) (tr_strike h.tr) (sc_strike h.st)
  have hl : (H.take c0).length = c0 := by rw [List.length_take]; have := h.len; omega
  obtain ⟨s, fr, ol⟩ := g.on rfl
  refine ⟨g.dl, g.tr, ⟨hcap.1, hcap.2.1, fun b B hB => ?_, g.hr.inj⟩, g.st, g.sh, g.len, g.ren, fun _ => ⟨Stp.refl _ _, fun b B hb hB => by have := (blk_took hB).1; omega, ol⟩⟩
  have hb := (blk_took hB).1
  have hB0 : blk H0 b = some B := by rw [← ol b hb]; exact hB
  exact (hcap.2.2 b B hB0).keep (ρ' := ρ) (g.sh b B hB) (fun c hc => h.ren c (by rw [hl] at hc; exact hc)) (h.ren b hb) (fun _ => rfl)
structure Env (P : Program) (W : World) (ρ0 : Ren) (H0 : Heap) (c0 l0 : Nat) (xs : List (List U)) (J : Nat → World → Prop) (Jx : World → Prop) : Prop where
  hm : P.follows .mixedOrders = true
  hlen : H0.length = c0
  hcl : ∀ b B, blk H0 b = some B → ∃ m, idsB B = some m ∧ ∀ i ∈ m, i < c0
  ids : ∀ x ∈ xs, ∀ u ∈ x, idsU u = []
  ab : ∀ i A B, J i A → Stp ((List.range c0).map fun b => (ρ0 b).r) A B → CapOk W ρ0 H0 B → J i B
  abx : ∀ A B, Jx A → Stp ((List.range c0).map fun b => (ρ0 b).r) A B → CapOk W ρ0 H0 B → Jx B
  cap : ∀ i A, J i A → CapOk W ρ0 H0 A
  capx : ∀ A, Jx A → CapOk W ρ0 H0 A
  y : ∀ i x A, xs[i]? = some x → J i A → ∀ m, YieldAt Fence.wide m P l0 (x.map (U.den ρ0)).toArray A fun e B => (e = .returned (.bool true) ∧ J (i + 1) B) ∨ (e = .returned (.bool false) ∧ Jx B)
theorem usOf_eq : ∀ {vs : List V} {x : List U}, usOf vs = some x → vs = x.map .u
  | [], x, h => by cases h; rfl
  | v :: r, x, h => by
    unfold usOf at h
    split at h
    · rename_i e; cases e
    · rename_i y r' e
      cases e
      rw [Option.map_eq_some_iff] at h
      obtain ⟨z, hz, rfl⟩ := h
      rw [usOf_eq hz]; rfl
    · cases h
theorem RY.step {xs : List (List U)} {l : Nat} {x : List U} {t f : YT} {i : Nat} {stop : Bool} (h : RY l0 xs (.yield l x t f) i stop) : stop = false ∧ l = l0 ∧ xs[i]? = some x ∧ RY l0 xs t (i + 1) false ∧ RY l0 xs f (i + 1) true := by
  cases stop with
  | true => cases h
  | false =>
    obtain ⟨h1, h2⟩ := h
    cases hd : xs.drop i with
    | nil => rw [hd] at h2; cases h2
    | cons y r =>
      rw [hd] at h2
      cases h2
      have hlt : i < xs.length := by
        have := congrArg List.length hd
        rw [List.length_drop, List.length_cons] at this; omega
      have e := List.drop_eq_getElem_cons hlt
      rw [e] at hd
      injection hd with h3 h4
      exact ⟨rfl, rfl, by rw [List.getElem?_eq_getElem hlt, h3], ⟨hlt, by rw [h4]⟩, rfl⟩
/-- Where the text goes on, and what is still to come. -/
def PostY (W : World) (ρ0 : Ren) (H0 : Heap) (c0 l0 : Nat) (xs : List (List U)) (J : Nat → World → Prop) (Jx : World → Prop) (T : List V) (H : Heap) (L : List Foot) (r : YT) (a : Act) (A : World) : Prop :=
  ∃ (A0 : World) (i : Nat) (stop : Bool) (ρ : Ren), IS W ρ0 H0 c0 A0 T H L ρ a A ∧ JJ J Jx i stop A0 ∧ RY l0 xs r i stop
theorem regY_sound (E : Env P W ρ0 H0 c0 l0 xs J Jx) (hc : CallOk P call) {n : Nat} {ops : Array Oper} {k : List V → Heap → List Foot → Option YT} : ∀ (os : List Oper) (T : List V) (H : Heap) (L : List Foot) (r : YT), regY P call c0 ops os T H L k = some r →
    ∀ (a : Act) (A : World), PostY W ρ0 H0 c0 l0 xs J Jx T H L r a A → ∀ Q : Exit → Act → World → Prop, (∀ T' H' L' r' a' A', k T' H' L' = some r' → PostY W ρ0 H0 c0 l0 xs J Jx T' H' L' r' a' A' → Q .normal a' A') → wpListIn Fence.wide n P ops Q os a A
  | [], T, H, L, r, h, a, A, hp, Q, hQ => hQ T H L r a A h hp
  | o :: os, T, H, L, r, h, a, A, hp, Q, hQ => by
    unfold regY at h
    split at h
    · rename_i l x hyo
      cases hcl : clean c0 L
      · rw [hcl] at h; cases h
      rw [hcl, cond_true] at h
      unfold yieldO at h
      split at h
      case h_2 => cases h
      rename_i t f ht hf
      cases h
      obtain ⟨A0, i, stop, ρ, hs, hj, hry⟩ := hp
      obtain ⟨hst, hl, hx, h1, h2⟩ := hry.step
      rw [hst] at hj
      unfold yieldOp at hyo
      split at hyo
      case h_2 => cases hyo
      rename_i y args tys ho hg
      split at hyo
      case h_2 => cases hyo
      rename_i l' vs hfv hav
      rw [Option.map_eq_some_iff] at hyo
      obtain ⟨us, hus, e⟩ := hyo
      cases e
      have hvs := usOf_eq hus
      subst hvs
      have hstp := (hs.on hcl).1
      have hja : J i A := E.ab i A0 A hj hstp (hs.cap E.hlen E.hcl hcl)
      obtain ⟨fn, tmps, asg, body, hrun, hround⟩ := E.y i x A hx hja (n - 1)
      have hden : x.map (U.den ρ0) = x.map (U.den ρ) := List.map_congr_left fun u hu => by
        have hsc : (V.u u).sc W (fun b => b < H.length) := evs_sc hav hs.st (.u u) (List.mem_map_of_mem hu)
        exact U.den_ids (E.ids x (List.mem_of_getElem? hx) u hu) hsc ρ0 ρ
      have e1 : args.map a.eval = (x.map (U.den ρ)).toArray := by
        have := evs_den hav hs.tr
        apply Array.ext'
        rw [Array.toList_map, this, List.map_map]
        rfl
      have e2 : a.eval y = .func (.yield l0) #[] #[] := by rw [← hl]; exact ev_den hfv hs.tr
      rw [hden] at hrun
      have hex : (execOp a.eval o).run P A = .ok (.round l0 fn tmps asg body) A := by
        simp only [execOp, ho, resolve, e1, e2, Deferred.ofValue, Sem.run_bind, Sem.run_pure, Result.andThen_ok, invoke]
        simpa using hrun
      refine wpListIn_step fun K hK => ?_
      have hw : Region.wanted o (yielded ops a.tmps) = true := by unfold Region.wanted; rw [hg]
      rw [if_pos hw]
      refine ⟨fun _ _ => trivial, ?_⟩
      rw [show o.semAt Fence.wide.round a.eval = execOp a.eval o from Oper.semAt_none _ _, hex]
      refine ⟨(fun e => by cases e), hround.mono ?_⟩
      have next : ∀ (b : Bool) (t' : YT) (stop' : Bool) (B : World), regY P call c0 ops os (putT (T.map (strike c0)) o.dst (.u (.c (.bool b)))) (H.take c0) [] k = some t' → RY l0 xs t' (i + 1) stop' → JJ J Jx (i + 1) stop' B → CapOk W ρ0 H0 B → K (a.put o.dst (.bool b)) B := by
        intro b t' stop' B hk hr' hj' hcap'
        refine hK _ _ (regY_sound E hc os _ _ _ _ hk _ _ ⟨B, i + 1, stop', ρ, ?_, hj', hr'⟩ Q hQ)
        have g := hs.after E.hlen E.hcl hcl hcap'
        exact ⟨by rw [put_defers]; exact g.dl, TR_put g.tr _ (.u (.c (.bool b))), g.hr, ScT_put (v := .u (.c (.bool b))) g.st (AOk.bool b : AOk W (.bool b)) _, g.sh, g.len, g.ren, g.on⟩
      rintro e B (⟨rfl, hj'⟩ | ⟨rfl, hj'⟩)
      · exact next true _ false B ht h1 hj' (E.cap _ _ hj')
      · exact next false _ true B hf h2 hj' (E.capx _ hj')
    · obtain ⟨A0, i, stop, ρ, hs, hj, hry⟩ := hp
      rcases wantA_spec h with ⟨hw, h⟩ | ⟨hw, h⟩
      · obtain ⟨v, H1, l1, h1, hst⟩ := stepA_sound hc h
        refine wpListIn_step fun K hK => ?_
        rw [wants_spec hs.tr hw, if_pos rfl]
        refine opIn (ro := none) (.inl rfl) ?_
        refine hst.run W _ ρ a A hs.st hs.sh (fun b hb => hb) hs.tr hs.hr a K Q fun ρ1 A1 hr1 hf1 => hK _ _ ?_
        obtain ⟨g1, g2⟩ := hst.sc W _ hs.st hs.sh (fun b hb => hb)
        refine regY_sound E hc os _ _ _ _ h1 _ _ ⟨A0, i, stop, ρ1, hs.step hst.gr (by rw [put_defers]; exact hs.dl) (TR_put (TR_congr (fun b hb => hf1.ren b hb) hs.st hs.tr) _ _) hr1 hf1 ⟨ScT_put (ScT_mono hs.st (fun b => .inl)) g1 _, g2⟩, hj, hry⟩ Q hQ
      · refine wpListIn_step fun K hK => ?_
        rw [wants_spec hs.tr hw]
        simp only [Bool.false_eq_true, if_false]
        refine ⟨fun _ _ => trivial, hK _ _ (regY_sound E hc os _ _ _ _ h _ _ ⟨A0, i, stop, ρ, ⟨by rw [put_defers]; exact hs.dl, TR_put hs.tr _ undefV, hs.hr, ScT_put hs.st (undefV_sc _ _) _, hs.sh, hs.len, hs.ren, hs.on⟩, hj, hry⟩ Q hQ)⟩
theorem codeY_sound (E : Env P W ρ0 H0 c0 l0 xs J Jx) (hc : CallOk P call) {n fuel : Nat} {lvs : List (Nat × List Nat)} : ∀ (c : Code) (T : List V) (H : Heap) (L : List Foot) (k : KY) (r : YT), codeY P call fuel lvs c0 c T H L k = some r →
    ∀ (a : Act) (A : World), PostY W ρ0 H0 c0 l0 xs J Jx T H L r a A → ∀ Q : Exit → Act → World → Prop, (∀ ex T' H' L' r' a' A', k ex T' H' L' = some r' → PostY W ρ0 H0 c0 l0 xs J Jx T' H' L' r' a' A' → Q ex.den a' A') → c.wpIn Fence.wide n P Q a A := by
  intro c
  induction c with
  | skip => intro T H L k r h a A hp Q hQ; exact wpIn_skip (hQ .normal _ _ _ _ _ _ h hp)
  | label l => intro T H L k r h a A hp Q hQ; exact wpIn_label (hQ .normal _ _ _ _ _ _ h hp)
  | ret => intro T H L k r h a A hp Q hQ; exact wpIn_ret (hQ .ret _ _ _ _ _ _ h hp)
  | exit id => intro T H L k r h a A hp Q hQ; exact wpIn_exit (hQ (.exit id) _ _ _ _ _ _ h hp)
  | region id ops draw =>
    intro T H L k r h a A hp Q hQ
    cases draw with
    | false => exact wpIn_region_list (regY_sound E hc _ _ _ _ _ (show regY P call c0 ops ops.toList T H L (fun T H L => k .normal T H L) = some r from h) a A hp Q fun T' H' L' r' a' A' h1 h2 => hQ .normal T' H' L' r' a' A' h1 h2)
    | true =>
      obtain ⟨A0, i, stop, ρ, hs, hj, hry⟩ := hp
      obtain ⟨T', H', l, h1, h2, h3⟩ := regD_sound E.hm hc (show regD P call ops T H L (fun T H L => k .normal T H L) = some r from h) id
      refine h3 none n (.inl rfl) W _ ρ a A ⟨hs.tr, hs.hr, hs.st, hs.sh, fun b hb => hb⟩ Q fun ρ' a' A' en hd => hQ .normal T' H' _ r a' A' h1 ⟨A0, i, stop, ρ', hs.step h2.gr (by rw [hd]; exact hs.dl) en.tr en.hr en.fr (h2.sc W _ hs.st hs.sh (fun b hb => hb)), hj, hry⟩
  | seq x y ihx ihy =>
    intro T H L k r h a A hp Q hQ
    refine wpIn_seq (ihx T H L _ r (show codeY P call fuel lvs c0 x T H L (fun ex T H L => match ex with
      | .normal => codeY P call fuel lvs c0 y T H L k
      | e => k e T H L) = some r from h) a A hp _ fun ex T' H' L' r' a' A' h1 h2 => ?_)
    cases ex with
    | normal => exact ihy T' H' L' k r' h1 a' A' h2 Q hQ
    | exit id => exact hQ (.exit id) _ _ _ _ _ _ h1 h2
    | ret => exact hQ .ret _ _ _ _ _ _ h1 h2
  | cond c x y ihx ihy =>
    intro T H L k r h a A hp Q hQ
    simp only [codeY] at h
    split at h
    · rename_i β hβ
      obtain ⟨A0, i, stop, ρ, hs, hj, hry⟩ := hp
      cases β with
      | true =>
        rw [cond_true, know_self hβ] at h
        exact wpIn_cond_true (ev_den hβ hs.tr) (ihx T H L k r h a A ⟨A0, i, stop, ρ, hs, hj, hry⟩ Q hQ)
      | false =>
        rw [cond_false, know_self hβ] at h
        exact wpIn_cond_false (ev_den hβ hs.tr) (ihy T H L k r h a A ⟨A0, i, stop, ρ, hs, hj, hry⟩ Q hQ)
    · cases h
  | block id b ih =>
    intro T H L k r h a A hp Q hQ
    refine wpIn_block (ih T H L _ r (show codeY P call fuel lvs c0 b T H L (fun ex T H L => match ex with
      | .exit i => cond (i == id) (k .normal T H L) (k (.exit i) T H L)
      | e => k e T H L) = some r from h) a A hp _ fun ex T' H' L' r' a' A' h1 h2 => ?_)
    cases ex with
    | normal => exact hQ .normal _ _ _ _ _ _ h1 h2
    | ret => exact hQ .ret _ _ _ _ _ _ h1 h2
    | exit i =>
      simp only at h1
      show Exit.inBlock id Q (.exit i) a' A'
      cases hi : (i == id) with
      | true =>
        rw [hi, cond_true] at h1
        have hi' : i = id := by simpa using hi
        simp only [Exit.inBlock, hi', if_true]
        exact hQ .normal _ _ _ _ _ _ h1 h2
      | false =>
        rw [hi, cond_false] at h1
        have hi' : ¬ i = id := by simpa using hi
        simp only [Exit.inBlock, hi', if_false]
        exact hQ (.exit i) _ _ _ _ _ _ h1 h2
  | loop b ih =>
    intro T H L k r h a A hp Q hQ
    simp only [codeY] at h
    split at h
    case h_2 => cases h
    rename_i lv hlv
    have settle : ∀ (T : List V) (H : Heap) (L : List Foot) (r : YT) (a : Act) (A : World) (k' : List V → Heap → Option YT), settleY c0 lv T H L k' = some r → PostY W ρ0 H0 c0 l0 xs J Jx T H L r a A → ∃ T' H', k' T' H' = some r ∧ PostY W ρ0 H0 c0 l0 xs J Jx T' H' [] r a A := by
      intro T H L r a A k' h hp
      unfold settleY at h
      cases hcl : clean c0 L
      · rw [hcl] at h; cases h
      rw [hcl, cond_true] at h
      obtain ⟨A0, i, stop, ρ, hs, hj, hry⟩ := hp
      exact ⟨_, _, h, A0, i, stop, ρ, hs.settle E.hlen E.hcl hcl _ (tr_strike (tr_keep hs.tr)) (sc_strike (sc_keep hs.st)), hj, hry⟩
    obtain ⟨T1, H1, h1, hp1⟩ := settle _ _ _ _ _ _ _ h hp
    refine wpIn_loop_rounds fuel ?_
    have key : ∀ (m : Nat) (T : List V) (H : Heap) (r : YT) (a : Act) (A : World), loopY c0 lv (codeY P call fuel lvs c0 b) m T H k = some r → PostY W ρ0 H0 c0 l0 xs J Jx T H [] r a A → Code.roundsIn Fence.wide n P b Q m a A := by
      intro m
      induction m with
      | zero => intro T H r a A h; cases h
      | succ m ihm =>
        intro T H r a A h hp
        rw [roundsIn_succ]
        refine ih T H [] _ r (show codeY P call fuel lvs c0 b T H [] (fun ex T H L => match ex with
          | .normal => settleY c0 lv T H L fun T H => loopY c0 lv (codeY P call fuel lvs c0 b) m T H k
          | e => k e T H L) = some r from h) a A hp _ fun ex T' H' L' r' a' A' h1 h2 => ?_
        cases ex with
        | normal =>
          obtain ⟨T2, H2, h3, h4⟩ := settle _ _ _ _ _ _ _ h1 h2
          exact ihm T2 H2 r' a' A' h3 h4
        | exit id => exact hQ (.exit id) _ _ _ _ _ _ h1 h2
        | ret => exact hQ .ret _ _ _ _ _ _ h1 h2
    exact key fuel T1 H1 r a A h1 hp1
  | rangeFunc => intro T H L k r h; cases h
  | scope => intro T H L k r h; cases h
  | goto => intro T H L k r h; cases h
  | refuse => intro T H L k r h; cases h
end
/-- A function that is ranged over, told by its reading. -/
theorem yields_of {P : Program} (hm : P.follows .mixedOrders = true) {call : CallT YT} (hc : CallOk P call) {fuel : Nat} {lvs : List (Nat × List Nat)} {gf : FuncId} {fn : Func} {c : Code} (hf : P.funcs[gf]? = some fn) (hb : fn.body = some c) (hres : fn.results = #[])
    {H0 : Heap} {xs : List (List U)} (hids : ∀ x ∈ xs, ∀ u ∈ x, idsU u = []) (hcl : ∀ b B, blk H0 b = some B → ∃ m, idsB B = some m ∧ ∀ i ∈ m, i < H0.length) {ps : List (Nat × Nat)} (hps : ∀ p ∈ ps, p.1 < H0.length)
    (h : ∀ l, codeY P call fuel lvs H0.length c (.u (.c (.yld l)) :: ps.map ptrV ++ undefs (fn.ntmps - (1 + ps.length))) H0 [] (endY H0.length) = some (treeOf l xs))
    {W : World} {ρ0 : Ren} (hinj : ∀ b b' B B', blk H0 b = some B → blk H0 b' = some B' → B.used → B'.used → (ρ0 b).r = (ρ0 b').r → b = b') (hsc : ScH W (fun b => b < H0.length) H0) :
    Yields P gf (ps.map (pv ρ0)).toArray (xs.map (·.map (U.den ρ0))) ((List.range H0.length).map fun b => (ρ0 b).r) (CapOk W ρ0 H0) := by
  intro l J Jx A ab abx cap capx hy h0
  have E : Env P W ρ0 H0 H0.length l xs J Jx := ⟨hm, rfl, hcl, hids, ab, abx, cap, capx, fun i x A hx hj m => hy i (x.map (U.den ρ0)) A (by rw [List.getElem?_map, hx]; rfl) hj m⟩
  refine callsIn_of_wp (F := Fence.wide) hf hb trivial ?_
  have hcap := cap 0 A h0
  refine codeY_sound E hc c _ _ _ _ _ (h l) _ A ⟨A, 0, false, ρ0, ⟨rfl, ?_, ⟨hcap.1, hcap.2.1, hcap.2.2, hinj⟩, ?_, hsc, Nat.le_refl _, (fun _ _ => rfl), fun _ => ⟨Stp.refl _ _, fun b B hb hB => by have := blk_lt hB; omega, fun _ _ => rfl⟩⟩, h0, Nat.zero_le _, rfl⟩ _ ?_
  · have e : (#[.func (.yield l) #[] #[]] ++ (ps.map (pv ρ0)).toArray ++ Array.replicate (fn.ntmps - (#[Value.func (.yield l) #[] #[]] ++ (ps.map (pv ρ0)).toArray).size) undef) = ((.u (.c (.yld l)) :: ps.map ptrV ++ undefs (fn.ntmps - (1 + ps.length))).map (V.den ρ0)).toArray := by
      rw [List.cons_append, List.map_cons, List.map_append, undefs_den, List.map_map]
      apply Array.ext'
      simp [V.den, U.den, C.den, ptrV, pv, Function.comp_def, Nat.add_comm]
    refine ⟨by simp only [e]; simp, fun t v hv _ => ?_⟩
    simp only [e]
    rw [nth_eq] at hv
    simp only [List.getElem?_toArray, List.getElem?_map, hv, Option.map_some]
  · intro v hv
    rcases List.mem_append.1 hv with hv | hv
    · rcases List.mem_cons.1 hv with rfl | hv
      · exact AOk.yld l
      · obtain ⟨p, hp, rfl⟩ := List.mem_map.1 hv
        exact hps p hp
    · exact undefs_sc W _ _ v hv
  · intro ex T' H' L' r' a' A' h1 h2
    have hr : ∀ w : World, (results fn a'.tmps).run P w = .ok (.tuple #[]) w := fun w => by
      exact results_none hres _ _ _
    obtain ⟨A0, i, stop, ρ, hs, hj, hry⟩ := h2
    have fin : r' = .leaf → clean H0.length L' = true → ∃ v, (results fn a'.tmps).run P A' = .ok v A' ∧ ((∃ v', Ending.returned v = .returned v') ∧ (J (xs.map (·.map (U.den ρ0))).length A' ∨ Jx A')) := by
      intro e hcl'
      refine ⟨_, hr A', ⟨_, rfl⟩, ?_⟩
      have hstp := (hs.on hcl').1
      have hcp := hs.cap rfl hcl hcl'
      subst e
      cases stop with
      | true => exact .inr (abx A0 A' hj hstp hcp)
      | false =>
        obtain ⟨h3, h4⟩ := hry
        have : xs.drop i = [] := by
          cases hd : xs.drop i with
          | nil => rfl
          | cons y r => rw [hd] at h4; cases h4
        have hi : i = xs.length := by
          have := congrArg List.length this
          rw [List.length_drop] at this
          simp at this
          omega
        rw [List.length_map, ← hi]
        exact .inl (ab i A0 A' hj hstp hcp)
    cases ex with
    | exit id => cases h1
    | normal =>
      simp only [endY] at h1
      cases hcl' : clean H0.length L'
      · rw [hcl'] at h1; cases h1
      · rw [hcl'] at h1; cases h1
        exact ⟨hs.dl, fin rfl hcl'⟩
    | ret =>
      simp only [endY] at h1
      cases hcl' : clean H0.length L'
      · rw [hcl'] at h1; cases h1
      · rw [hcl'] at h1; cases h1
        exact ⟨hs.dl, fin rfl hcl'⟩
end Go.Proofs.Ytbgdfikfldkjbaa.AI
