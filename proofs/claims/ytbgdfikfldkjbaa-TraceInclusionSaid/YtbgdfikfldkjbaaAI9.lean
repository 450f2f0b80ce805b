/- Statements whose order is open: every order comes to the same. -/
import Derived.Test.YtbgdfikfldkjbaaAI8
namespace Go.Proofs.Ytbgdfikfldkjbaa.AI
set_option linter.unnecessarySimpa false
open Go
set_option linter.unusedVariables false
set_option linter.unusedSimpArgs false
def dn (D : Array Bool) (p : Nat) : Bool := D.getD p false
def dst (ops : Array Oper) (p : Nat) : Option Tmp := (ops[p]?).bind (·.dst)
/-- The temporaries when the operations of D have come up. -/
def TD (ops : Array Oper) (τ : Tr) (D : Array Bool) : Nat → List V
  | 0 => τ.Ts 0
  | p + 1 => if dn D p = true then putT (TD ops τ D p) (dst ops p) (τ.vs p) else TD ops τ D p
/-- The blocks when the operations of D have come up. -/
def HD (M : List Nat) (τ : Tr) (D : Array Bool) : Nat → Nat → Option Blk
  | 0, b => blk (τ.Hs 0) b
  | p + 1, b => if dn D p = true then
      (if (τ.Hs p).length ≤ b then (if b < (τ.Hs (p + 1)).length then blk (τ.Hs (p + 1)) b else HD M τ D p b)
       else if τ.cl p = .eff ∧ masked M p (τ.recs p) b = false then blk (τ.Hs (p + 1)) b else HD M τ D p b)
    else HD M τ D p b
/-- What is known of a region's walk and of the operations that have come up. -/
structure Ctx (P : Program) (ops : Array Oper) (M : List Nat) (τ : Tr) (D : Array Bool) : Prop where
  hM : M = ancGo ops.toList []
  back : backOk ops.toList 0 = true
  pairs : allPairs ops M ops.toList 0 = true
  ran : Ran P ops M τ ops.size
  size : D.size = ops.size
  closed : ∀ p, dn D p = true → ∀ o, ops[p]? = some o → ∀ e ∈ o.after.toList, Region.binds .any e = true → dn D e.on = true
section
variable {P : Program} {ops : Array Oper} {M : List Nat} {τ : Tr} {D : Array Bool}
theorem dn_lt (h : Ctx P ops M τ D) {p : Nat} (hp : dn D p = true) : p < ops.size := by
  rcases Nat.lt_or_ge p ops.size with h1 | h1
  · exact h1
  · unfold dn at hp
    rw [← h.size] at h1
    simp [Array.getElem?_eq_none h1] at hp
theorem anc_lt (h : Ctx P ops M τ D) {i j : Nat} (hi : i < ops.size) (ha : anc M j i = true) : j < i := by
  rw [h.hM] at ha
  induction i using Nat.strongRecOn with
  | _ i ih =>
    obtain ⟨o, ho, e, he, hb, hlt, hor⟩ := anc_edge h.back ha hi
    rcases hor with rfl | hor
    · exact hlt
    · exact Nat.lt_trans (ih e.on hlt (by omega) hor) hlt
/-- An operation's ancestors have come up where all that it waits for has. -/
theorem anc_ready (h : Ctx P ops M τ D) {i j : Nat} (hi : i < ops.size) (hr : ∀ o, ops[i]? = some o → ∀ e ∈ o.after.toList, Region.binds .any e = true → dn D e.on = true) (ha : anc M j i = true) : dn D j = true := by
  rw [h.hM] at ha
  induction i using Nat.strongRecOn with
  | _ i ih =>
    obtain ⟨o, ho, e, he, hb, hlt, hor⟩ := anc_edge h.back ha hi
    have hd := hr o ho e he hb
    rcases hor with rfl | hor
    · exact hd
    · exact ih e.on hlt (by omega) (h.closed e.on hd) hor
theorem anc_done (h : Ctx P ops M τ D) {i j : Nat} (hd : dn D i = true) (ha : anc M j i = true) : dn D j = true :=
  anc_ready h (dn_lt h hd) (h.closed i hd) ha
theorem TD_len (n : Nat) : (TD ops τ D n).length = (τ.Ts 0).length := by
  induction n with
  | zero => rfl
  | succ p ih =>
    simp only [TD]
    split
    · rw [← ih]; cases dst ops p with
      | none => rfl
      | some d => simp [putT, upd_eq]
    · exact ih
theorem Ts_len (h : Ran P ops M τ ops.size) {n : Nat} (hn : n ≤ ops.size) : (τ.Ts n).length = (τ.Ts 0).length := by
  induction n with
  | zero => rfl
  | succ p ih =>
    obtain ⟨o, ho, h1, _⟩ := h p (by omega)
    rw [h1, ← ih (by omega)]
    cases o.dst with
    | none => rfl
    | some d => simp [putT, upd_eq]
theorem nth_put {T T' : List V} (hl : T'.length = T.length) {d : Option Tmp} {v : V} {t : Nat} (h : d ≠ some t → nth T' t = nth T t) : nth (putT T' d v) t = nth (putT T d v) t := by
  cases d with
  | none => exact h (by simp)
  | some d =>
    simp only [putT, upd_eq, nth_eq, List.getElem?_set]
    by_cases e : d = t
    · subst e; simp [hl]
    · rw [if_neg e, if_neg e, ← nth_eq, ← nth_eq]; exact h (by simpa using e)
theorem nth_put_other {T : List V} {d : Option Tmp} {v : V} {t : Nat} (h : d ≠ some t) : nth (putT T d v) t = nth T t := by
  cases d with
  | none => rfl
  | some d =>
    have e : d ≠ t := by simpa using h
    simp only [putT, upd_eq, nth_eq, List.getElem?_set]
    rw [if_neg e]
/-- What an operation reads of the temporaries is what it reads in the text's order. -/
theorem TD_agree (h : Ctx P ops M τ D) {i : Nat} {o : Oper} (ho : ops[i]? = some o) (hn : dn D i = false) (hr : ∀ j, anc M j i = true → dn D j = true) {t : Nat} (ht : t ∈ o.looksAt ops) : nth (TD ops τ D ops.size) t = nth (τ.Ts i) t := by
  have hi : i < ops.size := (Array.getElem?_eq_some_iff.1 ho).1
  have k1 : ∀ p, p ≤ i → nth (TD ops τ D p) t = nth (τ.Ts p) t := by
    intro p hp
    induction p with
    | zero => rfl
    | succ p ih =>
      obtain ⟨op, hop, h1, _⟩ := h.ran p (by omega)
      have ih := ih (by omega)
      simp only [TD]
      rw [h1]
      have hd : dst ops p = op.dst := by unfold dst; rw [hop]; rfl
      split
      · rw [hd]; exact nth_put ((TD_len p).trans (Ts_len h.ran (by omega)).symm) (fun _ => ih)
      · rename_i hnd
        rw [ih, nth_put_other]
        intro e
        rcases pairs_spec h.pairs (show p < i by omega) hop ho with ha | ha
        · exact hnd (hr p ha)
        · exact (Oper.apart_spec ha).1 t e ht
  have k2 : ∀ p, i ≤ p → p ≤ ops.size → nth (TD ops τ D p) t = nth (TD ops τ D i) t := by
    intro p hp hps
    induction p with
    | zero => have : i = 0 := by omega
              subst this; rfl
    | succ p ih =>
      by_cases e : i = p + 1
      · subst e; rfl
      have ih := ih (by omega) (by omega)
      simp only [TD]
      split
      · rename_i hd
        have hne : i ≠ p := fun e => by rw [e, hd] at hn; cases hn
        obtain ⟨op, hop, _, _⟩ := h.ran p (by omega)
        have hdst : dst ops p = op.dst := by unfold dst; rw [hop]; rfl
        rw [hdst, nth_put_other, ih]
        intro e
        rcases pairs_spec h.pairs (show i < p by omega) ho hop with ha | ha
        · rw [anc_done h hd ha] at hn; cases hn
        · exact (Oper.apart_spec ha).2.2 t e ht
      · exact ih
  rw [k2 ops.size (by omega) (Nat.le_refl _), k1 i (Nat.le_refl _)]
theorem agree_TD (h : Ctx P ops M τ D) {i : Nat} {o : Oper} (ho : ops[i]? = some o) (hn : dn D i = false) (hr : ∀ j, anc M j i = true → dn D j = true) : Agree o (τ.Ts i) (TD ops τ D ops.size) ∧ wants ops (TD ops τ D ops.size) o = wants ops (τ.Ts i) o := by
  refine ⟨fun x hx => ?_, ?_⟩
  · cases x with
    | tmp t => show (nth _ t).bind real = (nth _ t).bind real; rw [TD_agree h ho hn hr (List.mem_append_left _ (List.mem_filterMap.2 ⟨.tmp t, hx, rfl⟩))]
    | const c => rfl
    | global g => rfl
    | func f => rfl
  · unfold wants
    cases hg : o.guard with
    | none => rfl
    | some gw =>
      obtain ⟨j, want⟩ := gw
      simp only
      cases hd : (nth ops.toList j).bind (·.dst) with
      | none => rfl
      | some d =>
        simp only
        rw [TD_agree h ho hn hr (t := d) (List.mem_append_right _ (by
          rw [hg]
          rw [nth_eq] at hd
          have e : ops.toList[j]? = ops[j]? := by simp
          rw [e] at hd
          simp [hd]))]
theorem dn_set (hs : D.size = ops.size) {i p : Nat} (hi : i < ops.size) : dn (D.setIfInBounds i true) p = if p = i then true else dn D p := by
  unfold dn
  by_cases e : p = i
  · subst e; rw [if_pos rfl]; simp [hs, hi]
  · rw [if_neg e]; exact getD_set_ne false (fun h => e h.symm)
theorem putT_comm {T : List V} {d e : Option Tmp} {v u : V} (h : ∀ t, d = some t → e ≠ some t) : putT (putT T d v) e u = putT (putT T e u) d v := by
  cases d with
  | none => rfl
  | some d =>
    cases e with
    | none => rfl
    | some e =>
      have hne : d ≠ e := fun he => h d rfl (by rw [he])
      simp only [putT, upd_eq]
      exact (List.set_comm v u hne)
theorem TD_put (h : Ctx P ops M τ D) {i : Nat} {o : Oper} (ho : ops[i]? = some o) (hn : dn D i = false) : TD ops τ (D.setIfInBounds i true) ops.size = putT (TD ops τ D ops.size) o.dst (τ.vs i) := by
  have hi : i < ops.size := (Array.getElem?_eq_some_iff.1 ho).1
  have hdi : dst ops i = o.dst := by unfold dst; rw [ho]; rfl
  have k1 : ∀ p, p ≤ i → TD ops τ (D.setIfInBounds i true) p = TD ops τ D p := by
    intro p hp
    induction p with
    | zero => rfl
    | succ p ih =>
      have e : dn (D.setIfInBounds i true) p = dn D p := by rw [dn_set h.size hi, if_neg (by omega)]
      simp only [TD]
      rw [e, ih (by omega)]
  have k2 : ∀ p, i < p → p ≤ ops.size → TD ops τ (D.setIfInBounds i true) p = putT (TD ops τ D p) o.dst (τ.vs i) := by
    intro p hp hps
    induction p with
    | zero => omega
    | succ p ih =>
      simp only [TD]
      rw [dn_set h.size hi]
      by_cases e : p = i
      · subst e
        rw [if_pos rfl, if_pos rfl, k1 p (Nat.le_refl _), hdi, hn]
        simp
      · rw [if_neg e, ih (by omega) (by omega)]
        split
        · rename_i hd
          obtain ⟨op, hop, _, _⟩ := h.ran p (by omega)
          have hdst : dst ops p = op.dst := by unfold dst; rw [hop]; rfl
          rw [hdst]
          refine putT_comm fun t e1 e2 => ?_
          rcases pairs_spec h.pairs (show i < p by omega) ho hop with ha | ha
          · rw [anc_done h hd ha] at hn; cases hn
          · exact (Oper.apart_spec ha).2.1 t e1 e2
        · rfl
  exact k2 ops.size hi (Nat.le_refl _)
theorem TD_all (h : Ran P ops M τ ops.size) (hd : ∀ p, p < ops.size → dn D p = true) {n : Nat} (hn : n ≤ ops.size) : TD ops τ D n = τ.Ts n := by
  induction n with
  | zero => rfl
  | succ p ih =>
    obtain ⟨o, ho, h1, _⟩ := h p (by omega)
    simp only [TD]
    rw [if_pos (hd p (by omega)), ih (by omega), h1]
    unfold dst
    rw [ho]
    rfl
/-! The blocks. -/
theorem Hs_gr (h : Ran P ops M τ ops.size) {p : Nat} (hp : p < ops.size) : Gr (τ.Hs p) (τ.Hs (p + 1)) (efl (τ.cl p) (τ.ft p)) := by
  obtain ⟨o, ho, _, hs⟩ := h p hp
  exact step_gr hs
theorem Hs_len (h : Ran P ops M τ ops.size) {p q : Nat} (hpq : p ≤ q) (hq : q ≤ ops.size) : (τ.Hs p).length ≤ (τ.Hs q).length := by
  induction q with
  | zero => have : p = 0 := by omega
            subst this; exact Nat.le_refl _
  | succ q ih =>
    by_cases e : p = q + 1
    · subst e; exact Nat.le_refl _
    · exact Nat.le_trans (ih (by omega) (by omega)) (Hs_gr h (by omega)).len
theorem gr_same {H H' : Heap} (g : Gr H H' []) {b : Nat} (hb : b < H.length) : blk H' b = blk H b := by
  cases h : blk H b with
  | none => exact g.dead b hb h
  | some B => exact g.keep b B h (fun ⟨f, hf, _⟩ => by cases hf)
/-- A step that writes nothing of this block. -/
theorem Hs_same (h : Ran P ops M τ ops.size) {p b : Nat} (hp : p < ops.size) (hb : b < (τ.Hs p).length) (hne : τ.cl p ≠ .eff ∨ masked M p (τ.recs p) b = true) : blk (τ.Hs (p + 1)) b = blk (τ.Hs p) b := by
  rcases hne with hne | hm
  · have g := Hs_gr h hp
    have e : efl (τ.cl p) (τ.ft p) = [] := by cases hc : τ.cl p <;> simp_all [efl]
    rw [e] at g
    exact gr_same g hb
  · by_cases hc : τ.cl p = .eff
    · obtain ⟨o, ho, _, hs⟩ := h p hp
      revert hs hc
      generalize hcl : τ.cl p = c
      generalize hft : τ.ft p = f
      generalize hv : τ.vs p = v
      generalize hH : τ.Hs (p + 1) = H'
      intro hc hs
      cases hs with
      | eff v Hm l hw hkn hns hs hk =>
        have hl : (τ.Hs p).length ≤ Hm.length := by have := (hs _ (Agree.refl o _)).gr.len; rw [maskGo_len] at this; exact this
        rw [blk_unm hl, if_pos ⟨hb, hm⟩]
      | skip | pure | load | alloc => cases hc
    · have g := Hs_gr h hp
      have e : efl (τ.cl p) (τ.ft p) = [] := by cases hc : τ.cl p <;> simp_all [efl]
      rw [e] at g
      exact gr_same g hb
/-- The checks at an operation that writes. -/
theorem eff_chk (h : Ran P ops M τ ops.size) {q p : Nat} (hqp : q < p) (hp : p < ops.size) (hc : τ.cl p = .eff) : anc M q p = true ∨ (τ.cl q ≠ .eff ∧ (τ.cl q = .load → ∀ f ∈ τ.ft q, ∀ g ∈ τ.ft p, disj g f = true)) := by
  obtain ⟨o, ho, _, hs⟩ := h p hp
  revert hs hc
  generalize hcl : τ.cl p = c
  generalize hft : τ.ft p = f
  generalize hv : τ.vs p = v
  generalize hH : τ.Hs (p + 1) = H'
  intro hc hs
  cases hs with
  | eff v Hm l hw hkn hns hs hk =>
    have := List.all_eq_true.1 hk (τ.rc q) (mem_recs.2 ⟨q, hqp, rfl⟩)
    rw [Bool.or_eq_true] at this
    rcases this with h1 | h1
    · exact .inl h1
    · refine .inr ⟨fun e => ?_, fun e f hf g hg => ?_⟩
      · simp [Tr.rc, e] at h1
      · simp only [Tr.rc, e] at h1
        exact List.all_eq_true.1 (List.all_eq_true.1 h1 f hf) g hg
  | skip | pure | load | alloc => cases hc
theorem load_chk (h : Ran P ops M τ ops.size) {q p : Nat} (hqp : q < p) (hp : p < ops.size) (hc : τ.cl p = .load) {f : Foot} (hf : f ∈ τ.ft p) : anc M q p = true ∨ (¬ ((τ.Hs q).length ≤ f.b ∧ f.b < (τ.Hs (q + 1)).length) ∧ (τ.cl q = .eff → ∀ g ∈ τ.ft q, disj g f = true)) := by
  obtain ⟨o, ho, _, hs⟩ := h p hp
  revert hs hc hf
  generalize hcl : τ.cl p = c
  generalize hft : τ.ft p = f'
  generalize hv : τ.vs p = v
  generalize hH : τ.Hs (p + 1) = H'
  intro hc hf hs
  cases hs with
  | load u fs t x q2 hw ho hx hl hk =>
    have := List.all_eq_true.1 hk (τ.rc q) (mem_recs.2 ⟨q, hqp, rfl⟩)
    rw [Bool.or_eq_true] at this
    rcases this with h1 | h1
    · exact .inl h1
    · have h1 := List.all_eq_true.1 h1 f hf
      rw [Bool.and_eq_true, Bool.or_eq_true] at h1
      refine .inr ⟨fun hh => ?_, fun e g hg => ?_⟩
      · have h2 := h1.1
        simp [inN, Tr.rc, hh] at h2
      · rcases h1.2 with h2 | h2
        · simp [Tr.rc, e, isEff] at h2
        · exact List.all_eq_true.1 h2 g hg
  | skip | pure | eff | alloc => cases hc
theorem masked_spec {p b : Nat} : masked M p (τ.recs p) b = true ↔ ∃ q, q < p ∧ anc M q p = false ∧ (τ.Hs q).length ≤ b ∧ b < (τ.Hs (q + 1)).length := by
  unfold masked
  rw [List.any_eq_true]
  constructor
  · rintro ⟨x, hx, h⟩
    obtain ⟨q, hq, rfl⟩ := mem_recs.1 hx
    simp only [Tr.rc, inN, Bool.and_eq_true, Bool.not_eq_true', decide_eq_true_eq] at h
    exact ⟨q, hq, h.1, of_decide_eq_true h.2.1, of_decide_eq_true h.2.2⟩
  · rintro ⟨q, hq, h1, h2, h3⟩
    exact ⟨τ.rc q, mem_recs.2 ⟨q, hq, rfl⟩, by simp [Tr.rc, inN, h1, h2, h3]⟩
theorem HD_eff (h : Ctx P ops M τ D) {i b : Nat} (hi : i < ops.size) (hc : τ.cl i = .eff) (hn : dn D i = false) (hr : ∀ j, anc M j i = true → dn D j = true) (hb : b < (τ.Hs i).length) (hm : masked M i (τ.recs i) b = false) : HD M τ D ops.size b = blk (τ.Hs i) b := by
  have hm' : ∀ q, q < i → (τ.Hs q).length ≤ b → b < (τ.Hs (q + 1)).length → anc M q i = true := by
    intro q hq h1 h2
    cases ha : anc M q i with
    | true => rfl
    | false => rw [masked_spec.2 ⟨q, hq, ha, h1, h2⟩] at hm; cases hm
  have k1 : ∀ p, p ≤ i → b < (τ.Hs p).length → HD M τ D p b = blk (τ.Hs p) b := by
    intro p hp hbp
    induction p with
    | zero => rfl
    | succ p ih =>
      simp only [HD]
      by_cases hl : (τ.Hs p).length ≤ b
      · rw [if_pos (hr p (hm' p (by omega) hl hbp)), if_pos hl, if_pos hbp]
      · have ih := ih (by omega) (by omega)
        split
        · try rw [if_neg hl]
          split
          · rfl
          · rename_i hne
            rw [ih, Hs_same h.ran (by omega) (by omega)]
            by_cases hc : τ.cl p = .eff
            · refine .inr ?_
              cases hmm : masked M p (τ.recs p) b with
              | true => rfl
              | false => exact absurd ⟨hc, hmm⟩ hne
            · exact .inl hc
        · rename_i hnd
          rw [ih, Hs_same h.ran (by omega) (by omega)]
          rcases eff_chk h.ran (show p < i by omega) hi hc with ha | ha
          · exact absurd (hr p ha) hnd
          · exact .inl ha.1
  have k2 : ∀ p, i ≤ p → p ≤ ops.size → HD M τ D p b = HD M τ D i b := by
    intro p hp hps
    induction p with
    | zero => have : i = 0 := by omega
              subst this; rfl
    | succ p ih =>
      by_cases e : i = p + 1
      · subst e; rfl
      have ih := ih (by omega) (by omega)
      simp only [HD]
      split
      · rename_i hd
        have hne : i ≠ p := fun e => by rw [e, hd] at hn; cases hn
        have hl := Hs_len h.ran (show i ≤ p by omega) (by omega)
        rw [if_neg (by omega)]
        split
        · rename_i hce
          rcases eff_chk h.ran (show i < p by omega) (by omega) hce.1 with ha | ha
          · rw [anc_done h hd ha] at hn; cases hn
          · exact absurd hc ha.1
        · exact ih
      · exact ih
  rw [k2 ops.size (by omega) (Nat.le_refl _), k1 i (Nat.le_refl _) hb]
theorem not_cov {l : List Foot} {b o n : Nat} (h : ∀ g ∈ l, disj g (.c b o n) = true) {j : Nat} (h1 : o ≤ j) (h2 : j < o + n) : ¬ cov l b j := by
  rintro ⟨g, hg, hc⟩
  have := h g hg
  cases g with
  | c b' o' n' =>
    obtain ⟨e1, e2, e3⟩ := hc
    simp [disj, e1] at this
    omega
  | r b' =>
    have e1 : b' = b := hc
    simp [disj, Foot.b, e1] at this
theorem not_touch {l : List Foot} {b : Nat} (h : ∀ g ∈ l, disj g (.r b) = true) : ¬ touch l b := by
  rintro ⟨g, hg, hc⟩
  have := h g hg
  cases g with
  | c b' o' n' =>
    have e1 : b' = b := hc
    simp [disj, Foot.b, e1] at this
  | r b' =>
    have e1 : b' = b := hc
    simp [disj, Foot.b, e1] at this
/-- A step that does not write this place: forth. -/
theorem step_fwd (h : Ran P ops M τ ops.size) {p : Nat} {f : Foot} (hp : p < ops.size) (hd : τ.cl p = .eff → ∀ g ∈ τ.ft p, disj g f = true) : SameAt f (blk (τ.Hs (p + 1)) f.b) (blk (τ.Hs p) f.b) := by
  have g := Hs_gr h hp
  cases f with
  | c b o n =>
    intro cs hcs
    obtain ⟨cs', h1, h2, h3⟩ := g.cells b cs hcs
    refine ⟨cs', h1, fun j a c => h3 j ?_⟩
    cases hc : τ.cl p with
    | eff => exact not_cov (hd hc) a c
    | _ => rintro ⟨g, hg, _⟩; cases hg
  | r b =>
    intro e sz n get fl hb
    have : ¬ touch (efl (τ.cl p) (τ.ft p)) b := by
      cases hc : τ.cl p with
      | eff => exact not_touch (hd hc)
      | _ => rintro ⟨g, hg, _⟩; cases hg
    have h1 := g.keep b _ hb this
    show blk (τ.Hs (p + 1)) b = blk (τ.Hs p) b
    rw [h1]
    exact hb.symm
/-- The place holds what is read there. -/
def Holds : Foot → Option Blk → Prop
  | .c _ _ _, x => ∃ cs, x = some (.cells cs)
  | .r _, x => ∃ e sz n get fl, x = some (.row e sz n get fl)
theorem same_back {f : Foot} {x y : Option Blk} (h : SameAt f x y) (hy : Holds f y) : SameAt f y x := by
  cases f with
  | c b o n =>
    intro cs hx
    obtain ⟨c0, e0⟩ := hy
    obtain ⟨c1, h1, h2⟩ := h c0 e0
    rw [hx] at h1
    cases h1
    exact ⟨c0, e0, fun j a b => (h2 j a b).symm⟩
  | r b =>
    intro e sz n get fl hx
    obtain ⟨e', sz', n', get', fl', e0⟩ := hy
    exact (h e' sz' n' get' fl' e0).symm
theorem same_holds {f : Foot} {x y : Option Blk} (h : SameAt f x y) (hy : Holds f y) : Holds f x := by
  cases f with
  | c b o n =>
    obtain ⟨c0, e0⟩ := hy
    obtain ⟨c1, h1, _⟩ := h c0 e0
    exact ⟨c1, h1⟩
  | r b =>
    obtain ⟨e', sz', n', get', fl', e0⟩ := hy
    exact ⟨e', sz', n', get', fl', (h e' sz' n' get' fl' e0).trans e0⟩
theorem gr_holds {H H' : Heap} {l : List Foot} (g : Gr H H' l) {f : Foot} {b : Nat} (hb : b < H.length) (hh : Holds f (blk H' b)) : Holds f (blk H b) := by
  cases h0 : blk H b with
  | none =>
    rw [g.dead b hb h0] at hh
    cases f with
    | c b' o n => obtain ⟨cs, e⟩ := hh; cases e
    | r b' => obtain ⟨_, _, _, _, _, e⟩ := hh; cases e
  | some B =>
    cases f with
    | c b' o n =>
      obtain ⟨cs, e⟩ := hh
      have := g.kind b B _ h0 e
      cases B with
      | cells cs' => exact ⟨cs', rfl⟩
      | row => cases this
    | r b' =>
      obtain ⟨e1, sz, n, get, fl, e⟩ := hh
      have := g.kind b B _ h0 e
      cases B with
      | cells cs' => cases this
      | row e2 sz2 n2 get2 fl2 => exact ⟨e2, sz2, n2, get2, fl2, rfl⟩
theorem HD_load (h : Ctx P ops M τ D) {i : Nat} (hi : i < ops.size) (hc : τ.cl i = .load) {f : Foot} (hf : f ∈ τ.ft i) (hn : dn D i = false) (hr : ∀ j, anc M j i = true → dn D j = true) (hb : f.b < (τ.Hs i).length) (hh : Holds f (blk (τ.Hs i) f.b)) : SameAt f (HD M τ D ops.size f.b) (blk (τ.Hs i) f.b) := by
  -- what the text's blocks hold there, from the block's birth to i
  have k0 : ∀ p, p ≤ i → f.b < (τ.Hs p).length → (∀ q, p ≤ q → q < i → τ.cl q = .eff → dn D q = false → ∀ g ∈ τ.ft q, disj g f = true) → True := fun _ _ _ _ => trivial
  have k1 : ∀ p, p ≤ i → f.b < (τ.Hs p).length → SameAt f (HD M τ D p f.b) (blk (τ.Hs p) f.b) ∧ ∀ q, p ≤ q → q ≤ i → True := by
    intro p hp hbp
    refine ⟨?_, fun _ _ _ => trivial⟩
    induction p with
    | zero => exact SameAt.refl _ _
    | succ p ih =>
      simp only [HD]
      by_cases hl : (τ.Hs p).length ≤ f.b
      · rcases load_chk h.ran (show p < i by omega) hi hc hf with ha | ha
        · rw [if_pos (hr p ha), if_pos hl, if_pos hbp]; exact SameAt.refl _ _
        · exact absurd ⟨hl, hbp⟩ ha.1
      · have ih := ih (by omega) (by omega)
        split
        · try rw [if_neg hl]
          split
          · exact SameAt.refl _ _
          · rename_i hne
            rw [Hs_same h.ran (by omega) (by omega)]
            · exact ih
            · by_cases hc : τ.cl p = .eff
              · refine .inr ?_
                cases hmm : masked M p (τ.recs p) f.b with
                | true => rfl
                | false => exact absurd ⟨hc, hmm⟩ hne
              · exact .inl hc
        · rename_i hnd
          rcases load_chk h.ran (show p < i by omega) hi hc hf with ha | ha
          · exact absurd (hr p ha) hnd
          · -- p does not write there: what stands there after p stood there before
            refine ih.trans ?_
            have hfw := step_fwd h.ran (show p < ops.size by omega) ha.2
            -- does the place hold what is read, before p?
            have hold : Holds f (blk (τ.Hs p) f.b) ∨ ¬ Holds f (blk (τ.Hs p) f.b) := Classical.em _
            rcases hold with hold | hold
            · exact same_back hfw hold
            · exfalso
              -- then it never holds it: but at i it does
              have never : ∀ q, p ≤ q → q ≤ i → ¬ Holds f (blk (τ.Hs q) f.b) := by
                intro q hq1 hq2
                induction q with
                | zero => have : p = 0 := by omega
                          subst this; exact hold
                | succ q ihq =>
                  by_cases e : p = q + 1
                  · subst e; exact hold
                  · intro hq
                    refine ihq (by omega) (by omega) ?_
                    have g := Hs_gr h.ran (show q < ops.size by omega)
                    have hbq : f.b < (τ.Hs q).length := Nat.lt_of_lt_of_le (by omega) (Hs_len h.ran (show p ≤ q by omega) (by omega))
                    exact gr_holds g hbq hq
              exact never i (by omega) (Nat.le_refl _) hh
  have k2 : ∀ p, i ≤ p → p ≤ ops.size → SameAt f (HD M τ D p f.b) (HD M τ D i f.b) := by
    intro p hp hps
    induction p with
    | zero => have : i = 0 := by omega
              subst this; exact SameAt.refl _ _
    | succ p ih =>
      by_cases e : i = p + 1
      · subst e; exact SameAt.refl _ _
      have ih := ih (by omega) (by omega)
      simp only [HD]
      split
      · rename_i hd
        have hne : i ≠ p := fun e => by rw [e, hd] at hn; cases hn
        have hl := Hs_len h.ran (show i ≤ p by omega) (by omega)
        rw [if_neg (by omega)]
        split
        · rename_i hce
          have hdj : ∀ q, i ≤ q → q ≤ p → τ.cl q = .eff → ∀ g ∈ τ.ft q, disj g f = true := by
            intro q hq1 hq2 hqe g hg
            have hqi : i ≠ q := fun e => by rw [← e, hc] at hqe; cases hqe
            have hdq : dn D q = true := by
              by_cases e : q = p
              · rw [e]; exact hd
              · rcases eff_chk h.ran (show q < p by omega) (by omega) hce.1 with ha | ha
                · exact anc_done h hd ha
                · exact absurd hqe ha.1
            rcases eff_chk h.ran (show i < q by omega) (by omega) hqe with ha | ha
            · rw [anc_done h hdq ha] at hn; cases hn
            · exact ha.2 hc f hf g hg
          have k3 : ∀ q, i ≤ q → q ≤ p + 1 → SameAt f (blk (τ.Hs q) f.b) (blk (τ.Hs i) f.b) := by
            intro q hq1 hq2
            induction q with
            | zero => have : i = 0 := by omega
                      subst this; exact SameAt.refl _ _
            | succ q ihq =>
              by_cases e : i = q + 1
              · subst e; exact SameAt.refl _ _
              · exact (step_fwd h.ran (by omega) (hdj q (by omega) (by omega))).trans (ihq (by omega) (by omega))
          exact (k3 (p + 1) (by omega) (Nat.le_refl _)).trans (same_back (k1 i (Nat.le_refl _) hb).1 hh)
        · exact ih
      · exact ih
  exact (k2 ops.size (by omega) (Nat.le_refl _)).trans (k1 i (Nat.le_refl _) hb).1
end
end Go.Proofs.Ytbgdfikfldkjbaa.AI
