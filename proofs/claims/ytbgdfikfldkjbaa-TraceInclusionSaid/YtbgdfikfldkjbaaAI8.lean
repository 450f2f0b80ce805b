/- Statements whose order is open: the walk in the text's order, told as a trace. -/
import Derived.Test.YtbgdfikfldkjbaaAI6
namespace Go.Proofs.Ytbgdfikfldkjbaa.AI
set_option linter.unnecessarySimpa false
open Go
set_option linter.unusedVariables false
set_option linter.unusedSimpArgs false
structure Tr where
  Ts : Nat → List V
  Hs : Nat → Heap
  vs : Nat → V
  cl : Nat → Cls
  ft : Nat → List Foot
def Tr.rc (τ : Tr) (q : Nat) : Rec := ⟨q, (τ.Hs q).length, (τ.Hs (q + 1)).length, τ.cl q, τ.ft q⟩
def Tr.recs (τ : Tr) : Nat → List Rec
  | 0 => []
  | q + 1 => τ.rc q :: τ.recs q
theorem mem_recs {τ : Tr} {x : Rec} : ∀ {i : Nat}, x ∈ τ.recs i ↔ ∃ q, q < i ∧ x = τ.rc q
  | 0 => by simp [Tr.recs]
  | i + 1 => by
    simp only [Tr.recs, List.mem_cons, mem_recs (i := i)]
    constructor
    · rintro (h | ⟨q, h1, h2⟩)
      · exact ⟨i, by omega, h⟩
      · exact ⟨q, by omega, h2⟩
    · rintro ⟨q, h1, h2⟩
      by_cases e : q = i
      · subst e; exact .inl h2
      · exact .inr ⟨q, by omega, h2⟩
theorem recs_congr {τ τ' : Tr} : ∀ {i : Nat}, (∀ q, q ≤ i → τ'.Hs q = τ.Hs q) → (∀ q, q < i → τ'.cl q = τ.cl q ∧ τ'.ft q = τ.ft q) → τ'.recs i = τ.recs i
  | 0, _, _ => rfl
  | i + 1, h1, h2 => by
    simp only [Tr.recs]
    rw [recs_congr (i := i) (fun q hq => h1 q (by omega)) (fun q hq => h2 q (by omega))]
    unfold Tr.rc
    rw [h1 i (by omega), h1 (i + 1) (by omega), (h2 i (by omega)).1, (h2 i (by omega)).2]
inductive Step (P : Program) (ops : Array Oper) (M : List Nat) (p : Nat) (o : Oper) (T : List V) (H : Heap) (rs : List Rec) : V → Heap → Cls → List Foot → Prop
  | skip (hw : wants ops T o = some false) : Step P ops M p o T H rs undefV H .pure []
  | pure (v : V) (hw : wants ops T o = some true) (hn : v ≠ .any) (hp : ∀ T', Agree o T T' → Pure P T' o v) : Step P ops M p o T H rs v H .pure []
  | load (u : U) (fs : List Foot) (t : TypeId) (x : Operand) (q : C) (hw : wants ops T o = some true) (ho : o.op = .load t x) (hx : ev T x = some (.u (.c q))) (hl : loadP P H t q = some (u, fs)) (hk : loadOk M p fs rs = true) : Step P ops M p o T H rs (.u u) H .load fs
  | alloc (cs : List C) (ak : AK) (hw : wants ops T o = some true) (ha : allocD P T o = some (cs, ak)) : Step P ops M p o T H rs (ak.val H.length) (H ++ [some (ak.blk cs)]) .alloc []
  | eff (v : V) (Hm : Heap) (l : List Foot) (hw : wants ops T o = some true) (hkn : knows T o = true) (hns : ∀ cs b, o.op ≠ .select cs b) (hs : ∀ T', Agree o T T' → StepTo P T' o (maskGo (masked M p rs) 0 H) v Hm l) (hk : effOk M p l rs = true) : Step P ops M p o T H rs v (unmGo (masked M p rs) 0 Hm H) .eff l
def Ran (P : Program) (ops : Array Oper) (M : List Nat) (τ : Tr) (n : Nat) : Prop :=
  ∀ p, p < n → ∃ o, ops[p]? = some o ∧ τ.Ts (p + 1) = putT (τ.Ts p) o.dst (τ.vs p) ∧ Step P ops M p o (τ.Ts p) (τ.Hs p) (τ.recs p) (τ.vs p) (τ.Hs (p + 1)) (τ.cl p) (τ.ft p)
def Tr.then (τ : Tr) (i : Nat) (T : List V) (H : Heap) (v : V) (c : Cls) (f : List Foot) : Tr :=
  ⟨fun q => if q = i + 1 then T else τ.Ts q, fun q => if q = i + 1 then H else τ.Hs q, fun q => if q = i then v else τ.vs q, fun q => if q = i then c else τ.cl q, fun q => if q = i then f else τ.ft q⟩
theorem ran_then {P : Program} {ops : Array Oper} {M : List Nat} {τ : Tr} {i : Nat} (h : Ran P ops M τ i) {o : Oper} (ho : ops[i]? = some o) {v : V} {H : Heap} {c : Cls} {f : List Foot}
    (hs : Step P ops M i o (τ.Ts i) (τ.Hs i) (τ.recs i) v H c f) : Ran P ops M (τ.then i (putT (τ.Ts i) o.dst v) H v c f) (i + 1) ∧ (τ.then i (putT (τ.Ts i) o.dst v) H v c f).recs (i + 1) = ⟨i, (τ.Hs i).length, H.length, c, f⟩ :: τ.recs i := by
  have hr : ∀ p, p ≤ i → (τ.then i (putT (τ.Ts i) o.dst v) H v c f).recs p = τ.recs p := fun p hp =>
    recs_congr (fun q hq => by simp only [Tr.then]; rw [if_neg (by omega)]) (fun q hq => by simp only [Tr.then]; rw [if_neg (by omega), if_neg (by omega)]; exact ⟨rfl, rfl⟩)
  refine ⟨fun p hp => ?_, ?_⟩
  · by_cases e : p = i
    · subst e
      refine ⟨o, ho, ?_, ?_⟩
      · simp only [Tr.then, if_true]; rw [if_neg (by omega)]
      · rw [hr p (Nat.le_refl _)]
        simp only [Tr.then, if_true]
        rw [if_neg (by omega), if_neg (by omega)]
        exact hs
    · obtain ⟨o', ho', h1, h2⟩ := h p (by omega)
      refine ⟨o', ho', ?_, ?_⟩
      · simp only [Tr.then]; rw [if_neg (by omega), if_neg (by omega), if_neg (by omega)]; exact h1
      · rw [hr p (by omega)]
        simp only [Tr.then]
        rw [if_neg (by omega), if_neg (by omega), if_neg (by omega), if_neg (by omega), if_neg (by omega), if_neg (by omega)]
        exact h2
  · simp only [Tr.recs]
    rw [hr i (Nat.le_refl _)]
    unfold Tr.rc
    simp only [Tr.then, if_true]
    rw [if_neg (by omega)]
/-! What a step leaves of the blocks. -/
def efl (c : Cls) (f : List Foot) : List Foot := match c with
  | .eff => f
  | _ => []
theorem blk_mask {m : Nat → Bool} {H : Heap} {b : Nat} : blk (maskGo m 0 H) b = if m b = true then none else blk H b := by
  unfold blk
  rw [nth_eq, nth_eq, maskGo_get, Nat.zero_add]
  cases hm : m b
  · simp
  · cases H[b]? <;> simp
theorem blk_unm {m : Nat → Bool} {X H : Heap} {b : Nat} (h : H.length ≤ X.length) : blk (unmGo m 0 X H) b = if b < H.length ∧ m b = true then blk H b else blk X b := by
  unfold blk
  rw [nth_eq, nth_eq, nth_eq, unmGo_get m X H 0 b h, Nat.zero_add]
  by_cases hc : b < H.length ∧ m b = true
  · rw [if_pos hc, if_pos hc]
  · rw [if_neg hc, if_neg hc]
section
variable {P : Program} {ops : Array Oper} {M : List Nat} {p : Nat} {o : Oper} {T : List V} {H : Heap} {rs : List Rec} {v : V} {H' : Heap} {c : Cls} {f : List Foot}
theorem step_gr (h : Step P ops M p o T H rs v H' c f) : Gr H H' (efl c f) := by
  cases h with
  | skip hw => exact Gr.refl H
  | pure v hw hn hp => exact Gr.refl H
  | load u f t x q hw ho hx hl hk => exact Gr.refl H
  | alloc cs ak hw ha => exact gr_push H _
  | eff v Hm l hw hkn hns hs hk =>
    have g := (hs T (Agree.refl o T)).gr
    have hl : H.length ≤ Hm.length := by have := g.len; rw [maskGo_len] at this; exact this
    have hin : ∀ b B, blk H b = some B → masked M p rs b = false → blk (maskGo (masked M p rs) 0 H) b = some B := fun b B hb hm => by rw [blk_mask, if_neg (by simp [hm])]; exact hb
    have hout : ∀ b B, blk H b = some B → masked M p rs b = true → blk (unmGo (masked M p rs) 0 Hm H) b = some B := fun b B hb hm => by rw [blk_unm hl, if_pos ⟨blk_lt hb, hm⟩]; exact hb
    have hund : ∀ b, masked M p rs b = false → blk (unmGo (masked M p rs) 0 Hm H) b = blk Hm b := fun b hm => by rw [blk_unm hl, if_neg (fun h => by rw [hm] at h; cases h.2)]
    refine ⟨by rw [unmGo_len _ _ _ _ hl]; exact hl, fun b hb hn => ?_, fun b B hb ht => ?_, fun b cs hb => ?_, fun b B B' hb hb' hu => ?_, fun b B B' hb hb' => ?_⟩
    · rw [blk_unm hl]
      split
      · exact hn
      · exact g.dead b (by rw [maskGo_len]; exact hb) (by rw [blk_mask, hn]; split <;> rfl)
    · cases hm : masked M p rs b with
      | true => exact hout b B hb hm
      | false => rw [hund b hm]; exact g.keep b B (hin b B hb hm) ht
    · cases hm : masked M p rs b with
      | true => exact ⟨cs, hout b _ hb hm, rfl, fun _ _ => rfl⟩
      | false => rw [hund b hm]; exact g.cells b cs (hin b _ hb hm)
    · cases hm : masked M p rs b with
      | true => rw [hout b B hb hm] at hb'; cases hb'; exact hu
      | false => rw [hund b hm] at hb'; exact g.used b B B' (hin b B hb hm) hb' hu
    · cases hm : masked M p rs b with
      | true => rw [hout b B hb hm] at hb'; cases hb'; rfl
      | false => rw [hund b hm] at hb'; exact g.kind b B B' (hin b B hb hm) hb'
theorem step_shape (h : Step P ops M p o T H rs v H' c f) : Shape T H (putT T o.dst v) H' (efl c f) := by
  refine ⟨step_gr h, fun W S hT hH hlt => ?_⟩
  have hT' := ScT_mono hT (S' := ext S H H') (fun b => .inl)
  have hH' := scH_mono hH (S' := ext S H H') (fun b => .inl)
  cases h with
  | skip hw => exact ⟨ScT_put hT' (undefV_sc _ _) _, hH'⟩
  | pure v hw hn hp => exact ⟨ScT_put hT' (V.sc_mono (fun b => .inl) ((hp T (Agree.refl o T)).1 W S hT)) _, hH'⟩
  | load u f t x q hw ho hx hl hk => exact ⟨ScT_put hT' (V.sc_mono (x := .u u) (fun b => .inl) (show U.sc W S u from loadP_sc hl hH (ev_sc hx hT))) _, hH'⟩
  | alloc cs ak hw ha =>
    obtain ⟨hs, hfit, _⟩ := allocD_run ha
    refine ⟨ScT_put hT' ?_ _, fun b B hb => ?_⟩
    · cases ak with
      | ptr => exact .inr ⟨Nat.le_refl _, by simp⟩
      | slice e sz n => exact .inr ⟨Nat.le_refl _, by simp⟩
    · rcases blk_push hb with ⟨_, hb⟩ | ⟨_, rfl⟩
      · exact hH' b B hb
      · exact Blk.sc_mono (fun b => .inl) (blk_sc hfit (hs W S hT))
  | eff v Hm l hw hkn hns hs hk =>
    have st := hs T (Agree.refl o T)
    have hl : H.length ≤ Hm.length := by have := st.gr.len; rw [maskGo_len] at this; exact this
    have hm : ScH W S (maskGo (masked M p rs) 0 H) := fun b B hb => by
      rw [blk_mask] at hb
      split at hb
      · cases hb
      · exact hH b B hb
    obtain ⟨g1, g2⟩ := st.sc W S hT hm (by rw [maskGo_len]; exact hlt)
    have he : ∀ b, ext S (maskGo (masked M p rs) 0 H) Hm b → ext S H (unmGo (masked M p rs) 0 Hm H) b := fun b hb => by
      unfold ext at hb ⊢
      rw [maskGo_len] at hb
      rw [unmGo_len _ _ _ _ hl]
      exact hb
    refine ⟨ScT_put hT' (V.sc_mono he g1) _, fun b B hb => ?_⟩
    rw [blk_unm hl] at hb
    split at hb
    · exact hH' b B hb
    · exact Blk.sc_mono he (g2 b B hb)
end
theorem effA_nosel {α : Type} {P : Program} {call : CallT α} {T : List V} {H : Heap} {o : Oper} {k : V → Heap → List Foot → Option α} {r : α} (h : effA P call T H o k = some r) : ∀ cs b, o.op ≠ .select cs b := by
  intro cs b e
  unfold effA at h
  rw [e] at h
  cases h
/-- The walk, told as a trace. -/
theorem regDGo_trace {α : Type} {P : Program} {call : CallT α} (hc : CallOk P call) {ops : Array Oper} {M : List Nat} {k : List V → Heap → List Foot → Option α} {r : α} : ∀ (os : List Oper) (i : Nat) (τ0 : Tr) (L : List Foot),
    (∀ j, os[j]? = ops[i + j]?) → Ran P ops M τ0 i → regDGo P call ops M os i (τ0.Ts i) (τ0.Hs i) L (τ0.recs i) k = some r →
    ∃ τ l, τ.Ts 0 = τ0.Ts 0 ∧ τ.Hs 0 = τ0.Hs 0 ∧ Ran P ops M τ (i + os.length) ∧ k (τ.Ts (i + os.length)) (τ.Hs (i + os.length)) (l ++ L) = some r ∧ Shape (τ0.Ts i) (τ0.Hs i) (τ.Ts (i + os.length)) (τ.Hs (i + os.length)) l
  | [], i, τ0, L, hos, hr, h => ⟨τ0, [], rfl, rfl, hr, h, Shape.refl _ _⟩
  | o :: os, i, τ0, L, hos, hr, h => by
    have ho : ops[i]? = some o := by have := hos 0; simpa using this.symm
    have hos' : ∀ j, os[j]? = ops[i + 1 + j]? := fun j => by have := hos (j + 1); rw [show i + 1 + j = i + (j + 1) by omega]; simpa using this
    -- one step, and the rest
    have go : ∀ (v : V) (H : Heap) (c : Cls) (f : List Foot) (L' : List Foot), L' = efl c f ++ L → Step P ops M i o (τ0.Ts i) (τ0.Hs i) (τ0.recs i) v H c f →
        regDGo P call ops M os (i + 1) (putT (τ0.Ts i) o.dst v) H L' (⟨i, (τ0.Hs i).length, H.length, c, f⟩ :: τ0.recs i) k = some r →
        ∃ τ l, τ.Ts 0 = τ0.Ts 0 ∧ τ.Hs 0 = τ0.Hs 0 ∧ Ran P ops M τ (i + (o :: os).length) ∧ k (τ.Ts (i + (o :: os).length)) (τ.Hs (i + (o :: os).length)) (l ++ L) = some r ∧ Shape (τ0.Ts i) (τ0.Hs i) (τ.Ts (i + (o :: os).length)) (τ.Hs (i + (o :: os).length)) l := by
      intro v H c f L' hL' hs hgo
      obtain ⟨h1, h2⟩ := ran_then hr ho hs
      have e1 : (τ0.then i (putT (τ0.Ts i) o.dst v) H v c f).Ts (i + 1) = putT (τ0.Ts i) o.dst v := by simp [Tr.then]
      have e2 : (τ0.then i (putT (τ0.Ts i) o.dst v) H v c f).Hs (i + 1) = H := by simp [Tr.then]
      obtain ⟨τ, l, t0, t1, t2, t3, t4⟩ := regDGo_trace hc os (i + 1) (τ0.then i (putT (τ0.Ts i) o.dst v) H v c f) L' hos' h1 (by rw [e1, e2, h2]; exact hgo)
      have elen : i + (o :: os).length = i + 1 + os.length := by simp; omega
      rw [elen]
      rw [e1, e2] at t4
      refine ⟨τ, l ++ efl c f, t0.trans (by simp [Tr.then]), t1.trans (by simp [Tr.then]), t2, ?_, (step_shape hs).trans t4⟩
      rw [List.append_assoc, ← hL']; exact t3
    unfold regDGo at h
    rcases wantA_spec h with ⟨hw, h⟩ | ⟨hw, h⟩
    case inr => exact go _ _ _ _ _ rfl (.skip hw) h
    case inl =>
      split at h
      · obtain ⟨v, hk, hn, hp⟩ := pureA_some h
        exact go _ _ _ _ _ rfl (.pure v hw hn hp) hk
      · obtain ⟨t, x, q, u, fs, hop, hx, hl, hk⟩ := loadO_spec h
        cases hlk : loadOk M i fs (τ0.recs i)
        · rw [hlk] at hk; cases hk
        · rw [hlk] at hk
          exact go _ _ _ _ _ rfl (.load u fs t x q hw hop hx hl hlk) hk
      · split at h
        · rename_i cs ak ha
          refine go _ _ .alloc [] L rfl (.alloc cs ak hw ha) ?_
          rw [List.length_append]; exact h
        · cases h
      · cases hkn : knows (τ0.Ts i) o
        · rw [hkn] at h; cases h
        rw [hkn, cond_true] at h
        obtain ⟨v, Hm, l, hk, hs⟩ := effA_sound hc h
        cases hek : effOk M i l (τ0.recs i)
        · rw [hek] at hk; cases hk
        · rw [hek] at hk
          have hl : (τ0.Hs i).length ≤ Hm.length := by have := (hs _ (Agree.refl o _)).gr.len; rw [maskGo_len] at this; exact this
          refine go _ _ .eff l (l ++ L) rfl (.eff v Hm l hw hkn (effA_nosel h) hs hek) ?_
          rw [unmGo_len _ _ _ _ hl]; exact hk
/-! Which operations come ahead of which. -/
theorem maskOf_bit {acc : List Nat} {o : Oper} {j : Nat} (h : (maskOf acc o).testBit j = true) : ∃ e ∈ o.after.toList, Region.binds .any e = true ∧ (e.on = j ∨ ((nth acc e.on).getD 0).testBit j = true) := by
  unfold maskOf at h
  have key : ∀ (l : List Edge) (s : Nat), (l.foldl (fun s e => cond (Region.binds .any e) (s ||| 2 ^ e.on ||| (nth acc e.on).getD 0) s) s).testBit j = true → s.testBit j = true ∨ ∃ e ∈ l, Region.binds .any e = true ∧ (e.on = j ∨ ((nth acc e.on).getD 0).testBit j = true) := by
    intro l
    induction l with
    | nil => intro s h; exact .inl h
    | cons e l ih =>
      intro s h
      rw [List.foldl_cons] at h
      rcases ih _ h with h1 | ⟨e', he', h1⟩
      · cases hb : Region.binds .any e
        · rw [hb, cond_false] at h1; exact .inl h1
        · rw [hb, cond_true, Nat.testBit_or, Nat.testBit_or, Bool.or_eq_true, Bool.or_eq_true] at h1
          rcases h1 with (h1 | h1) | h1
          · exact .inl h1
          · rw [Nat.testBit_two_pow] at h1
            exact .inr ⟨e, List.mem_cons_self .., hb, .inl (by simpa using h1)⟩
          · exact .inr ⟨e, List.mem_cons_self .., hb, .inr h1⟩
      · exact .inr ⟨e', List.mem_cons_of_mem _ he', h1⟩
  rcases key _ _ h with h | h
  · simp at h
  · exact h
theorem ancGo_get : ∀ (os : List Oper) (acc : List Nat) (i : Nat), ∃ m, (i < acc.length → nth (ancGo os acc) i = nth acc i) ∧ (∀ o, os[i - acc.length]? = some o → acc.length ≤ i → nth (ancGo os acc) i = some (maskOf (m) o) ∧ ∀ j, j < i → nth m j = nth (ancGo os acc) j)
  | [], acc, i => ⟨[], fun h => rfl, fun o ho => by simp at ho⟩
  | x :: os, acc, i => by
    simp only [ancGo]
    obtain ⟨m, h1, h2⟩ := ancGo_get os (acc ++ [maskOf acc x]) i
    have hl : (acc ++ [maskOf acc x]).length = acc.length + 1 := by simp
    rw [hl] at h1 h2
    by_cases hi : i = acc.length
    · subst hi
      refine ⟨acc, fun h => absurd h (by omega), fun o ho _ => ?_⟩
      simp at ho
      subst ho
      refine ⟨by rw [h1 (by omega), nth_eq]; simp, fun j hj => ?_⟩
      obtain ⟨m', g1, _⟩ := ancGo_get os (acc ++ [maskOf acc x]) j
      rw [g1 (by rw [hl]; omega), nth_eq, nth_eq, List.getElem?_append_left hj]
    · refine ⟨m, fun h => ?_, fun o ho hle => ?_⟩
      · rw [h1 (by omega), nth_eq, nth_eq, List.getElem?_append_left h]
      · refine h2 o ?_ (by omega)
        rw [show i - acc.length = (i - (acc.length + 1)) + 1 by omega] at ho
        simpa using ho
theorem anc_edge {ops : Array Oper} {i j : Nat} (hb : backOk ops.toList 0 = true) (h : anc (ancGo ops.toList []) j i = true) (hi : i < ops.size) : ∃ o, ops[i]? = some o ∧ ∃ e ∈ o.after.toList, Region.binds .any e = true ∧ e.on < i ∧ (e.on = j ∨ anc (ancGo ops.toList []) j e.on = true) := by
  have hback : ∀ (l : List Oper) (k q : Nat) (o : Oper), backOk l k = true → l[q]? = some o → ∀ e ∈ o.after.toList, Region.binds .any e = true → e.on < k + q := by
    intro l
    induction l with
    | nil => intro k q o _ h; simp at h
    | cons x l ih =>
      intro k q o hb h e he hbi
      simp only [backOk, Bool.and_eq_true] at hb
      cases q with
      | zero =>
        simp at h
        subst h
        have := List.all_eq_true.1 hb.1 e he
        rw [hbi] at this
        simpa using this
      | succ q =>
        have := ih (k + 1) q o hb.2 (by simpa using h) e he hbi
        omega
  have ho : ops[i]? = some ops[i] := Array.getElem?_eq_getElem hi
  refine ⟨ops[i], ho, ?_⟩
  have ho' : ops.toList[i]? = some ops[i] := by simpa using ho
  obtain ⟨m, _, h2⟩ := ancGo_get ops.toList [] i
  obtain ⟨h3, h4⟩ := h2 ops[i] (by simpa using ho') (by simp)
  unfold anc at h
  rw [h3] at h
  obtain ⟨e, he, hbi, hor⟩ := maskOf_bit (by simpa using h)
  have hlt := hback ops.toList 0 i ops[i] hb ho' e he hbi
  refine ⟨e, he, hbi, by omega, hor.imp id fun h => ?_⟩
  rw [h4 e.on (by omega)] at h
  exact h
theorem pairs_spec {ops : Array Oper} {M : List Nat} (h : allPairs ops M ops.toList 0 = true) {i j : Nat} {x y : Oper} (hij : i < j) (hx : ops[i]? = some x) (hy : ops[j]? = some y) : anc M i j = true ∨ Oper.apart ops x y = true := by
  have k1 : ∀ (l : List Oper) (i k q : Nat) (x y : Oper), pairsOk ops M x i l k = true → l[q]? = some y → anc M i (k + q) = true ∨ Oper.apart ops x y = true := by
    intro l
    induction l with
    | nil => intro i k q x y _ h; simp at h
    | cons z l ih =>
      intro i k q x y hp h
      simp only [pairsOk, Bool.and_eq_true, Bool.or_eq_true] at hp
      cases q with
      | zero => simp at h; subst h; exact hp.1
      | succ q =>
        have := ih i (k + 1) q x y hp.2 (by simpa using h)
        rw [show k + (q + 1) = k + 1 + q by omega]
        exact this
  have k2 : ∀ (l : List Oper) (k p q : Nat) (x y : Oper), allPairs ops M l k = true → l[p]? = some x → l[p + 1 + q]? = some y → anc M (k + p) (k + p + 1 + q) = true ∨ Oper.apart ops x y = true := by
    intro l
    induction l with
    | nil => intro k p q x y _ h; simp at h
    | cons z l ih =>
      intro k p q x y hp hx hy
      simp only [allPairs, Bool.and_eq_true] at hp
      cases p with
      | zero =>
        simp at hx
        subst hx
        rw [show 0 + 1 + q = q + 1 by omega] at hy
        exact k1 l k (k + 1) q z y hp.1 (by simpa using hy)
      | succ p =>
        rw [show p + 1 + 1 + q = (p + 1 + q) + 1 by omega] at hy
        have := ih (k + 1) p q x y hp.2 (by simpa using hx) (by simpa using hy)
        rw [show k + (p + 1) = k + 1 + p by omega]
        exact this
  have := k2 ops.toList 0 i (j - i - 1) x y h (by simpa using hx) (by rw [show i + 1 + (j - i - 1) = j by omega]; simpa using hy)
  rw [show 0 + i = i by omega, show i + 1 + (j - i - 1) = j by omega] at this
  exact this
end Go.Proofs.Ytbgdfikfldkjbaa.AI
