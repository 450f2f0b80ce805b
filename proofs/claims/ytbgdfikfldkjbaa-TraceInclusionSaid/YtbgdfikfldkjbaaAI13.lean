/- Functions told with the places of what came in: what a function answers may name the memory of its arguments. -/
import Derived.Test.YtbgdfikfldkjbaaAI12
namespace Go.Proofs.Ytbgdfikfldkjbaa.AI
set_option linter.unnecessarySimpa false
open Go
set_option linter.unusedVariables false
set_option linter.unusedSimpArgs false
theorem U.sc_world {W w : World} (hlow : ∀ r, r < W.heap.size → w.heap[r]? = W.heap[r]?) (hbig : W.heap.size ≤ w.heap.size) {S : Nat → Prop} {x : U} (h : x.sc W S) : x.sc w S := by
  cases x with
  | c y => exact C.sc_world hlow hbig h
  | a ys => exact fun y hy => C.sc_world hlow hbig (h y hy)
theorem V.sc_world {W w : World} (hlow : ∀ r, r < W.heap.size → w.heap[r]? = W.heap[r]?) (hbig : W.heap.size ≤ w.heap.size) {S : Nat → Prop} {x : V} (h : x.sc W S) : x.sc w S := by
  cases x with
  | u y => exact U.sc_world hlow hbig h
  | t ys => exact fun y hy => U.sc_world hlow hbig (h y hy)
  | any => exact trivial
theorem calls_worldA {P : Program} {f : FuncId} {args : List V} {H Hn : Heap} {v : V} {l : List Foot} (hid : ∀ x ∈ args, idsV x = [] ∧ x ≠ .any) (hR0 : RunsTo P f args [] v Hn l) :
    RunsTo P f args H (renV (fun b => b + H.length) v) (H ++ Hn.map fun x => x.map (renS fun b => b + H.length)) [] := by
  have hsc : ∀ W, (∀ x ∈ args, x.sc W fun _ => False) → v.sc W (fun b => b < Hn.length) ∧ ScH W (fun b => b < Hn.length) Hn := fun W ha => by
    obtain ⟨s1, s2⟩ := hR0.sc W (fun _ => False) ha (fun b x hx => by rw [blk_nil] at hx; cases hx) (fun b hb => hb.elim)
    have hx : ∀ b, ext (fun _ => False) ([] : Heap) Hn b → b < Hn.length := fun b hb => hb.elim (fun h => h.elim) (fun h => h.2)
    exact ⟨V.sc_mono hx s1, scH_mono s2 hx⟩
  obtain ⟨n, hn⟩ : ∃ n, n = H.length := ⟨_, rfl⟩
  obtain ⟨H', hH'⟩ : ∃ H', H' = H ++ Hn.map fun x => x.map (renS fun b => b + H.length) := ⟨_, rfl⟩
  rw [← hH', ← hn]
  rw [← hn] at hH'
  have hlen : H'.length = n + Hn.length := by rw [hH']; simp [hn]
  have hlo : ∀ b, b < n → blk H' b = blk H b := fun b hb => by rw [hH']; exact blk_ext (List.getElem?_append_left (by omega))
  have hhi : ∀ b, n ≤ b → blk H' b = (blk Hn (b - n)).map (renS fun b => b + n) := fun b hb => by
    rw [hH']
    unfold blk
    rw [nth_eq, List.getElem?_append_right (by omega), ← hn, List.getElem?_map, nth_eq]
    cases Hn[b - n]? <;> simp
  have src : ∀ b B, blk H' b = some B → (b < n ∧ blk H b = some B) ∨ (n ≤ b ∧ ∃ A, blk Hn (b - n) = some A ∧ B = renS (fun b => b + n) A) := by
    intro b B hB
    by_cases hb : b < n
    · exact .inl ⟨hb, by rw [← hlo b hb]; exact hB⟩
    · rw [hhi b (by omega), Option.map_eq_some_iff] at hB
      obtain ⟨A, hA, rfl⟩ := hB
      exact .inr ⟨by omega, A, hA, rfl⟩
  refine ⟨by rw [hH']; exact gr_app H _, fun W S ha hH hlt => ?_, hR0.enter, renV_some hR0.some, fun W S ρ w ha hH hlt hr => ?_⟩
  · obtain ⟨s1, s2⟩ := hsc W fun x hx => V.sc_ids (ha x hx) (hid x hx).1
    have hx : ∀ b, b < Hn.length → ext S H H' (b + n) := fun b hb => .inr ⟨by omega, by rw [hlen]; omega⟩
    refine ⟨renV_sc (fun i hi => hx i (idsV_sc s1 i hi)) s1, fun b B hB => ?_⟩
    rcases src b B hB with ⟨_, hB⟩ | ⟨_, A, hA, rfl⟩
    · exact Blk.sc_mono (fun b => .inl) (hH b B hB)
    · have := s2 _ A hA
      cases A with
      | cells cs =>
        intro y hy
        obtain ⟨x, hx', rfl⟩ := List.mem_map.1 hy
        exact renC_sc (fun i hi => hx i (idsC_sc (this x hx') i hi)) (this x hx')
      | row e sz m get fl =>
        cases fl with
        | true => exact ⟨fun i hi' => ⟨(this.1 i hi').1, fun x hx => C.sc_mono (fun b hb => hb.elim) (this.2 rfl i hi' x hx)⟩, this.2⟩
        | false =>
          refine ⟨fun i hi' => ⟨?_, fun y hy => ?_⟩, fun h => by cases h⟩
          · simp only [cond_false, List.length_map]; exact (this.1 i hi').1
          · obtain ⟨x, hx', rfl⟩ := List.mem_map.1 hy
            have := (this.1 i hi').2 x hx'
            exact renC_sc (fun i hi => hx i (idsC_sc this i hi)) this
  · have a4 : ∀ x ∈ args, x.sc w (fun _ => False) := fun x hx => V.sc_world hr.low hr.big (V.sc_ids (ha x hx) (hid x hx).1)
    have hR := hR0
    have hrn : HR ρ w ([] : Heap) w := ⟨fun _ _ => rfl, Nat.le_refl _, (fun b x hx => by rw [blk_nil] at hx; cases hx), (fun b b' x x' hx => by rw [blk_nil] at hx; cases hx)⟩
    have hc := hR.run w (fun _ => False) ρ w a4 (fun b x hx => by rw [blk_nil] at hx; cases hx) (fun b hb => hb.elim) hrn
    refine hc.mono ?_
    rintro e w' ⟨ρ1, rfl, h1, h2⟩
    obtain ⟨ρ', hρ⟩ : ∃ ρ' : Ren, ρ' = fun b => if b < n then ρ b else ρ1 (b - n) := ⟨_, rfl⟩
    have hrlo : ∀ b, b < n → ρ' b = ρ b := fun b hb => by rw [hρ]; simp only; rw [if_pos hb]
    have hrhi : ∀ b, n ≤ b → ρ' b = ρ1 (b - n) := fun b hb => by rw [hρ]; simp only; rw [if_neg (by omega)]
    have hadd : ∀ i, ρ' (i + n) = ρ1 i := fun i => by rw [hrhi _ (by omega), Nat.add_sub_cancel]
    have hkeep : ∀ r, r < w.heap.size → w'.heap[r]? = w.heap[r]? := fun r hr1 => h1.low r hr1
    refine ⟨ρ', by rw [renV_den (ρ1 := ρ1) fun i _ => hadd i], ⟨fun r hr1 => ?_, Nat.le_trans hr.big h1.big, fun b B hB => ?_, fun b b' B B' hB hB' hu hu' he => ?_⟩, ⟨h2.os, h2.tape, h2.output, h2.size, fun r hr1 _ => hkeep r hr1, fun b B hb hB hu => ?_, fun b hb => hrlo b (by omega)⟩⟩
    · have := hr.big; rw [hkeep r (by omega)]; exact hr.low r hr1
    · rcases src b B hB with ⟨hb, hB⟩ | ⟨hb, A, hA, rfl⟩
      · exact (hr.real b B hB).keep (S := S) (hH b B hB) (fun c hc => hrlo c (by have := hlt c hc; omega)) (hrlo b hb) (fun hu => hkeep _ ((hr.real b B hB).lt hu).2)
      · have hreal := h1.real _ A hA
        have hsA := (hsc w a4).2 _ A hA
        cases A with
        | cells cs =>
          obtain ⟨g1, rest, ty, g2⟩ := hreal
          refine ⟨by rw [hrhi b hb]; exact Nat.le_trans hr.big g1, rest, ty, ?_⟩
          rw [hrhi b hb, g2, List.map_map]
          have : cs.map (C.den ρ' ∘ renC fun b => b + n) = cs.map (C.den ρ1) := List.map_congr_left fun x hx => renC_den fun i _ => hadd i
          rw [this]
        | row ty sz m get fl =>
          rcases hreal with hreal | ⟨g1, g2, g3, g4, cur, g5, g6, g7⟩
          · exact .inl hreal
          · cases fl with
            | true =>
              refine .inr ⟨by rw [hrhi b hb]; exact Nat.le_trans hr.big g1, by rw [hrhi b hb]; exact g2, by rw [hrhi b hb]; exact g3, g4, cur, by rw [hrhi b hb]; exact g5, by rw [hrhi b hb]; exact g6, fun i j x hi hx => ?_⟩
              rw [g7 i j x hi hx, C.den_congr (ρ' := ρ') (ρ := ρ1) (fun b hb => hb.elim) (hsA.2 rfl i hi x (List.mem_of_getElem? hx))]
            | false =>
              refine .inr ⟨by rw [hrhi b hb]; exact Nat.le_trans hr.big g1, by rw [hrhi b hb]; exact g2, by rw [hrhi b hb]; exact g3, fun i hi => by simp only [cond_false, List.length_map]; exact g4 i hi, cur, by rw [hrhi b hb]; exact g5, by rw [hrhi b hb]; exact g6, fun i j x hi hx => ?_⟩
              simp only [cond_false, List.getElem?_map, Option.map_eq_some_iff] at hx
              obtain ⟨y, hy, rfl⟩ := hx
              rw [g7 i j y hi hy, renC_den fun i _ => hadd i]
    · have hold : ∀ b B, blk H b = some B → B.used → (ρ b).r < w.heap.size := fun b B hB hu => ((hr.real b B hB).lt hu).2
      have hnew : ∀ b A, blk Hn b = some A → A.used → w.heap.size ≤ (ρ1 b).r := fun b A hA hu => ((h1.real b A hA).lt hu).1
      rcases src b B hB with ⟨hb, hB⟩ | ⟨hb, A, hA, rfl⟩ <;> rcases src b' B' hB' with ⟨hb', hB'⟩ | ⟨hb', A', hA', rfl⟩
      · rw [hrlo b hb, hrlo b' hb'] at he
        exact hr.inj b b' B B' hB hB' hu hu' he
      · rw [hrlo b hb, hrhi b' hb'] at he
        have := hold b B hB hu
        have := hnew _ A' hA' (renS_used.1 hu')
        omega
      · rw [hrhi b hb, hrlo b' hb'] at he
        have := hold b' B' hB' hu'
        have := hnew _ A hA (renS_used.1 hu)
        omega
      · rw [hrhi b hb, hrhi b' hb'] at he
        have := h1.inj _ _ A A' hA hA' (renS_used.1 hu) (renS_used.1 hu') he
        omega
    · rcases src b B hB with ⟨hb', hB⟩ | ⟨hb', A, hA, rfl⟩
      · omega
      · rw [hrhi b hb']
        exact .inl ((h1.real _ A hA).lt (renS_used.1 hu)).1
/-- A function that is told by what it answers, places and all; its arguments name no block of one's own. -/
structure ToldA (P : Program) (f : FuncId) (g : List V → Tree) : Prop where
  run : ∀ args v H, (∀ x ∈ args, idsV x = [] ∧ x ≠ .any) → (g args).val = some (v, H) → ∃ l, RunsTo P f args [] v H l
def plainV (x : V) : Bool := match x with
  | .any => false
  | x => none? (idsV x)
theorem plainV_iff {x : V} (h : plainV x = true) : idsV x = [] ∧ x ≠ .any := by
  cases x with
  | any => cases h
  | u y => exact ⟨none?_eq h, fun e => by cases e⟩
  | t ys => exact ⟨none?_eq h, fun e => by cases e⟩
def envA {α : Type} (P : Program) (oa orc : List (FuncId × (List V → Tree))) (fns : List (FuncId × Func × List (Nat × LV))) (fuel d : Nat) : CallT α := fun f args H k => match look oa f with
  | some g => cond (args.all plainV) ((g args).run H k) none
  | none => env P orc fns fuel d f args H k
def OrcOkA (P : Program) (oa : List (FuncId × (List V → Tree))) : Prop := ∀ p ∈ oa, ToldA P p.1 p.2
theorem orcA_nil {P : Program} : OrcOkA P [] := fun p hp => by cases hp
theorem orcA_cons {P : Program} {f : FuncId} {g : List V → Tree} {r : List (FuncId × (List V → Tree))} (h : ToldA P f g) (hr : OrcOkA P r) : OrcOkA P ((f, g) :: r) := fun p hp => by
  rcases List.mem_cons.1 hp with rfl | hp
  · exact h
  · exact hr p hp
theorem envA_ok {α : Type} {P : Program} (hm : P.follows .mixedOrders = true) {oa orc : List (FuncId × (List V → Tree))} (hoa : OrcOkA P oa) (ho : OrcOk P orc) {fns : List (FuncId × Func × List (Nat × LV))} (hf : FnsOk P fns) (fuel d : Nat) : CallOk (α := α) P (envA P oa orc fns fuel d) := fun f args H k r h ha => by
  unfold envA at h
  split at h
  · rename_i g hg
    cases hp : args.all plainV
    · rw [hp] at h; cases h
    rw [hp, cond_true] at h
    obtain ⟨v, Hn, h1, h2⟩ := tree_run h
    have hid : ∀ x ∈ args, idsV x = [] ∧ x ≠ .any := fun x hx => plainV_iff (List.all_eq_true.1 hp x hx)
    obtain ⟨l, hr⟩ := (hoa _ (look_mem hg)).run args v Hn hid h1
    exact ⟨_, _, [], h2, calls_worldA hid hr⟩
  · exact env_ok hm ho hf fuel d f args H k r h ha
/-- What a function's text answers, with functions told so. -/
def ansA (P : Program) (oa orc : List (FuncId × (List V → Tree))) (fns : List (FuncId × Func × List (Nat × LV))) (fuel d : Nat) (fn : Func) (lvs : List (Nat × LV)) (args : List V) : Option (V × Heap) :=
  runF P (envA P oa orc fns fuel d) fuel lvs fn args [] fun v H _ => tidyA v H fun v H => some (v, H)
theorem ansA_runs {P : Program} (hm : P.follows .mixedOrders = true) {oa orc : List (FuncId × (List V → Tree))} (hoa : OrcOkA P oa) (ho : OrcOk P orc) {fns : List (FuncId × Func × List (Nat × LV))} (hf : FnsOk P fns) {fuel d : Nat} {f : FuncId} {fn : Func} {lvs : List (Nat × LV)} (hk : FnOk P f fn) (hl : ∀ c, fn.body = some c → LoopsOk P c lvs) {args : List V} {v : V} {H : Heap} (h : ansA P oa orc fns fuel d fn lvs args = some (v, H)) : ∃ l, RunsTo P f args [] v H l := by
  obtain ⟨v', H', m, hk', hr⟩ := runF_sound hm (envA_ok hm hoa ho hf fuel d) hk.func hl hk.enter h
  obtain ⟨v2, H2, hk', hr⟩ := tidy_runs hr hk'
  cases hk'
  exact ⟨_, hr⟩
/-- What the text answers, the machine answers. -/
theorem ansA_calls {P : Program} (hm : P.follows .mixedOrders = true) {oa orc : List (FuncId × (List V → Tree))} (hoa : OrcOkA P oa) (ho : OrcOk P orc) {fns : List (FuncId × Func × List (Nat × LV))} (hf : FnsOk P fns) {fuel d : Nat} {f : FuncId} {fn : Func} {lvs : List (Nat × LV)} (hk : FnOk P f fn) (hl : ∀ c, fn.body = some c → LoopsOk P c lvs) {args : List V} {v : V} (h : ansA P oa orc fns fuel d fn lvs args = some (v, [])) (hi : ∀ x ∈ args, idsV x = [] ∧ x ≠ .any) (ρ : Ren) {w : World} (hs : ∀ x ∈ args, x.sc w fun _ => False) :
    Calls P f (args.map (V.den ρ)).toArray w fun e w' => e = .returned (v.den ρ) ∧ RowKit.Below w.heap.size w w' := by
  obtain ⟨m, hr⟩ := ansA_runs hm hoa ho hf hk hl h
  refine (start_of hr hs (fun x hx => (hi x hx).1) ρ (fun _ _ => rfl) (Nat.le_refl _)).mono ?_
  rintro e w' ⟨ρ', rfl, _, hb, _, hv, _⟩
  refine ⟨?_, hb⟩
  rw [V.den_congr (ρ' := ρ') (ρ := ρ) (S := fun b => b < ([] : Heap).length) (fun b hb => by simp at hb) hv]
/-- A function whose text answers what is said, at any arguments that name no block of one's own. -/
theorem toldA_of {P : Program} (hm : P.follows .mixedOrders = true) {oa orc : List (FuncId × (List V → Tree))} (hoa : OrcOkA P oa) (ho : OrcOk P orc) {fns : List (FuncId × Func × List (Nat × LV))} (hf : FnsOk P fns) {fuel d : Nat} {f : FuncId} {fn : Func} {lvs : List (Nat × LV)} (hk : FnOk P f fn) (hl : ∀ c, fn.body = some c → LoopsOk P c lvs) {g : List V → Tree}
    (h : ∀ args v H, (∀ x ∈ args, idsV x = [] ∧ x ≠ .any) → (g args).val = some (v, H) → ansA P oa orc fns fuel d fn lvs args = some (v, H)) : ToldA P f g :=
  ⟨fun args v H ha hg => ansA_runs hm hoa ho hf hk hl (h args v H ha hg)⟩
end Go.Proofs.Ytbgdfikfldkjbaa.AI
