/- Statements whose order is open: sound. -/
import Derived.Test.YtbgdfikfldkjbaaAI9
namespace Go.Proofs.Ytbgdfikfldkjbaa.AI
set_option linter.unnecessarySimpa false
open Go
set_option linter.unusedVariables false
set_option linter.unusedSimpArgs false
section
variable {P : Program} {ops : Array Oper} {M : List Nat} {τ : Tr} {D : Array Bool}
theorem HD_before (h : Ctx P ops M τ D) {i b : Nat} (hi : i < ops.size) : ∀ p, p ≤ i → HD M τ (D.setIfInBounds i true) p b = HD M τ D p b := by
  intro p hp
  induction p with
  | zero => rfl
  | succ p ih =>
    have e : dn (D.setIfInBounds i true) p = dn D p := by rw [dn_set h.size hi, if_neg (by omega)]
    simp only [HD]
    rw [e, ih (by omega)]
theorem HD_quiet (h : Ctx P ops M τ D) {i b : Nat} (hi : i < ops.size) (hn : dn D i = false) (hc : τ.cl i ≠ .eff) : HD M τ (D.setIfInBounds i true) ops.size b = if (τ.Hs i).length ≤ b ∧ b < (τ.Hs (i + 1)).length then blk (τ.Hs (i + 1)) b else HD M τ D ops.size b := by
  have k : ∀ p, i < p → p ≤ ops.size → HD M τ (D.setIfInBounds i true) p b = if (τ.Hs i).length ≤ b ∧ b < (τ.Hs (i + 1)).length then blk (τ.Hs (i + 1)) b else HD M τ D p b := by
    intro p hp hps
    induction p with
    | zero => omega
    | succ p ih =>
      by_cases e : p = i
      · subst e
        simp only [HD]
        rw [dn_set h.size hi, if_pos rfl, if_pos rfl, HD_before h hi p (Nat.le_refl _), hn]
        by_cases h1 : (τ.Hs p).length ≤ b
        · rw [if_pos h1]
          by_cases h2 : b < (τ.Hs (p + 1)).length
          · rw [if_pos h2, if_pos ⟨h1, h2⟩]
          · rw [if_neg h2, if_neg (fun hh => h2 hh.2)]; simp
        · rw [if_neg h1, if_neg (fun hh => hc hh.1), if_neg (fun hh => h1 hh.1)]; simp
      · have ih := ih (by omega) (by omega)
        have ed : dn (D.setIfInBounds i true) p = dn D p := by rw [dn_set h.size hi, if_neg e]
        simp only [HD]
        rw [ed]
        by_cases hd : dn D p = true
        · rw [if_pos hd, if_pos hd]
          by_cases hin : (τ.Hs i).length ≤ b ∧ b < (τ.Hs (i + 1)).length
          · have hl := Hs_len h.ran (show i + 1 ≤ p by omega) (by omega)
            rw [if_neg (by omega), if_pos hin]
            rw [if_pos hin] at ih
            rw [if_neg, ih]
            rintro ⟨_, hm⟩
            have ha : anc M i p = false := by
              cases ha : anc M i p with
              | false => rfl
              | true => rw [anc_done h hd ha] at hn; cases hn
            rw [masked_spec.2 ⟨i, by omega, ha, hin.1, hin.2⟩] at hm
            cases hm
          · rw [if_neg hin] at ih ⊢
            rw [ih]
        · rw [if_neg hd, if_neg hd]; exact ih
  exact k ops.size hi (Nat.le_refl _)
theorem HD_loud (h : Ctx P ops M τ D) {i b : Nat} (hi : i < ops.size) (hn : dn D i = false) (hc : τ.cl i = .eff) : HD M τ (D.setIfInBounds i true) ops.size b = if (b < (τ.Hs i).length ∧ masked M i (τ.recs i) b = false) ∨ ((τ.Hs i).length ≤ b ∧ b < (τ.Hs (i + 1)).length) then blk (τ.Hs (i + 1)) b else HD M τ D ops.size b := by
  have k : ∀ p, i < p → p ≤ ops.size → HD M τ (D.setIfInBounds i true) p b = if (b < (τ.Hs i).length ∧ masked M i (τ.recs i) b = false) ∨ ((τ.Hs i).length ≤ b ∧ b < (τ.Hs (i + 1)).length) then blk (τ.Hs (i + 1)) b else HD M τ D p b := by
    intro p hp hps
    induction p with
    | zero => omega
    | succ p ih =>
      by_cases e : p = i
      · subst e
        simp only [HD]
        rw [dn_set h.size hi, if_pos rfl, if_pos rfl, HD_before h hi p (Nat.le_refl _), hn]
        by_cases h1 : (τ.Hs p).length ≤ b
        · rw [if_pos h1]
          by_cases h2 : b < (τ.Hs (p + 1)).length
          · rw [if_pos h2, if_pos (.inr ⟨h1, h2⟩)]
          · rw [if_neg h2, if_neg (fun hh => by rcases hh with hh | hh <;> omega)]; simp
        · rw [if_neg h1]
          by_cases hm : masked M p (τ.recs p) b = false
          · rw [if_pos ⟨hc, hm⟩, if_pos (.inl ⟨by omega, hm⟩)]
          · rw [if_neg (fun hh => hm hh.2), if_neg (fun hh => by
              rcases hh with hh | hh
              · exact hm hh.2
              · omega)]
            simp
      · have ih := ih (by omega) (by omega)
        have ed : dn (D.setIfInBounds i true) p = dn D p := by rw [dn_set h.size hi, if_neg e]
        simp only [HD]
        rw [ed]
        by_cases hd : dn D p = true
        · rw [if_pos hd, if_pos hd]
          have hce : τ.cl p ≠ .eff := by
            intro hce
            rcases eff_chk h.ran (show i < p by omega) (by omega) hce with ha | ha
            · rw [anc_done h hd ha] at hn; cases hn
            · exact ha.1 hc
          have hl := Hs_len h.ran (show i + 1 ≤ p by omega) (by omega)
          have hl2 := Hs_len h.ran (show i ≤ i + 1 by omega) (by omega)
          by_cases hin : (b < (τ.Hs i).length ∧ masked M i (τ.recs i) b = false) ∨ ((τ.Hs i).length ≤ b ∧ b < (τ.Hs (i + 1)).length)
          · rw [if_pos hin] at ih ⊢
            rw [if_neg (by rcases hin with hin | hin <;> omega), if_neg (fun hh => hce hh.1), ih]
          · rw [if_neg hin] at ih ⊢
            rw [ih]
        · rw [if_neg hd, if_neg hd]; exact ih
  exact k ops.size hi (Nat.le_refl _)
theorem HD_lt (h : Ran P ops M τ ops.size) {b : Nat} {cs : Blk} : ∀ p, p ≤ ops.size → HD M τ D p b = some cs → b < (τ.Hs p).length := by
  intro p hp
  induction p with
  | zero => exact fun hh => blk_lt hh
  | succ p ih =>
    intro hh
    have hl := Hs_len h (show p ≤ p + 1 by omega) hp
    simp only [HD] at hh
    split at hh
    · split at hh
      · split at hh
        · assumption
        · exact Nat.lt_of_lt_of_le (ih (by omega) hh) hl
      · omega
    · exact Nat.lt_of_lt_of_le (ih (by omega) hh) hl
theorem HD_all (h : Ran P ops M τ ops.size) (hd : ∀ p, p < ops.size → dn D p = true) {b : Nat} : ∀ p, p ≤ ops.size → b < (τ.Hs p).length → HD M τ D p b = blk (τ.Hs p) b := by
  intro p hp
  induction p with
  | zero => exact fun _ => rfl
  | succ p ih =>
    intro hb
    simp only [HD]
    rw [if_pos (hd p (by omega))]
    by_cases hl : (τ.Hs p).length ≤ b
    · rw [if_pos hl, if_pos hb]
    · rw [if_neg hl]
      split
      · rfl
      · rename_i hne
        rw [ih (by omega) (by omega), Hs_same h (by omega) (by omega)]
        by_cases hc : τ.cl p = .eff
        · refine .inr ?_
          cases hmm : masked M p (τ.recs p) b with
          | true => rfl
          | false => exact absurd ⟨hc, hmm⟩ hne
        · exact .inl hc
/-- The blocks as a list. -/
def HL (ops : Array Oper) (M : List Nat) (τ : Tr) (D : Array Bool) : Heap := (List.range (τ.Hs ops.size).length).map (HD M τ D ops.size)
theorem blk_HL (h : Ran P ops M τ ops.size) {b : Nat} : blk (HL ops M τ D) b = HD M τ D ops.size b := by
  unfold blk HL
  rw [nth_eq, List.getElem?_map]
  by_cases hb : b < (τ.Hs ops.size).length
  · rw [List.getElem?_range hb]
    simp only [Option.map_some]
    cases HD M τ D ops.size b <;> rfl
  · rw [List.getElem?_eq_none (by simpa using hb)]
    cases hh : HD M τ D ops.size b with
    | none => rfl
    | some cs => exact absurd (HD_lt h _ (Nat.le_refl _) hh) hb
def born (S : Nat → Prop) (τ : Tr) (D : Array Bool) (b : Nat) : Prop := S b ∨ ∃ q, dn D q = true ∧ (τ.Hs q).length ≤ b ∧ b < (τ.Hs (q + 1)).length
theorem born_mono (h : Ctx P ops M τ D) {S : Nat → Prop} {i b : Nat} (hi : i < ops.size) (hb : born S τ D b) : born S τ (D.setIfInBounds i true) b := by
  rcases hb with hb | ⟨q, h1, h2⟩
  · exact .inl hb
  · refine .inr ⟨q, ?_, h2⟩
    rw [dn_set h.size hi]
    split
    · rfl
    · exact h1
theorem born_new (h : Ctx P ops M τ D) {S : Nat → Prop} (hS : ∀ b, S b → b < (τ.Hs 0).length) {i b : Nat} (hi : i < ops.size) (hn : dn D i = false) (hb : born S τ D b) : ¬ ((τ.Hs i).length ≤ b ∧ b < (τ.Hs (i + 1)).length) := by
  rintro ⟨h1, h2⟩
  rcases hb with hb | ⟨q, hq, h3, h4⟩
  · have := hS b hb
    have := Hs_len h.ran (Nat.zero_le i) (by omega)
    omega
  · have hql := dn_lt h hq
    have hne : q ≠ i := fun e => by rw [e, hn] at hq; cases hq
    by_cases hlt : q < i
    · have := Hs_len h.ran (show q + 1 ≤ i by omega) (by omega); omega
    · have := Hs_len h.ran (show i + 1 ≤ q by omega) (by omega); omega
/-- What is known of the machine when the operations of D have come up. -/
structure DS (P : Program) (ops : Array Oper) (M : List Nat) (τ : Tr) (W : World) (S : Nat → Prop) (ρ0 : Ren) (a0 : Act) (w0 : World) (D : Array Bool) (ρ : Ren) (a : Act) (w : World) : Prop where
  dl : a.defers = a0.defers
  tr : TR ρ (TD ops τ D ops.size) a
  hr : HR ρ W (HL ops M τ D) w
  st : ScT W (born S τ D) (TD ops τ D ops.size)
  sh : ScH W (born S τ D) (HL ops M τ D)
  os : w.os = w0.os
  tape : w.tape = w0.tape
  output : w.output = w0.output
  size : w0.heap.size ≤ w.heap.size
  keep : ∀ r, r < w0.heap.size → (∀ b B, blk (τ.Hs 0) b = some B → B.used → (ρ0 b).r ≠ r) → w.heap[r]? = w0.heap[r]?
  fresh : ∀ b B, (τ.Hs 0).length ≤ b → blk (HL ops M τ D) b = some B → B.used → w0.heap.size ≤ (ρ b).r ∨ ∃ c C, blk (τ.Hs 0) c = some C ∧ C.used ∧ blk (HL ops M τ D) c = none ∧ (ρ b).r = (ρ0 c).r
  ren : ∀ b, b < (τ.Hs 0).length → ρ b = ρ0 b
  old : ∀ b B, b < (τ.Hs 0).length → blk (HL ops M τ D) b = some B → B.used → ∃ B0, blk (τ.Hs 0) b = some B0 ∧ B0.used
variable {W : World} {S : Nat → Prop} {ρ0 ρ : Ren} {w0 w : World} {a0 a : Act}
/-- An operation that leaves memory as it is. -/
theorem DS_quiet (h : Ctx P ops M τ D) (hd : DS P ops M τ W S ρ0 a0 w0 D ρ a w) {i : Nat} {o : Oper} (ho : ops[i]? = some o) (hn : dn D i = false) (hc : τ.cl i ≠ .eff) (hl : (τ.Hs (i + 1)).length = (τ.Hs i).length) (hv : (τ.vs i).sc W (born S τ D)) :
    DS P ops M τ W S ρ0 a0 w0 (D.setIfInBounds i true) ρ (a.put o.dst ((τ.vs i).den ρ)) w := by
  have hi : i < ops.size := (Array.getElem?_eq_some_iff.1 ho).1
  have e : HL ops M τ (D.setIfInBounds i true) = HL ops M τ D := by
    unfold HL
    refine List.map_congr_left fun b _ => ?_
    rw [HD_quiet h hi hn hc, if_neg (by omega)]
  refine ⟨by rw [put_defers]; exact hd.dl, ?_, by rw [e]; exact hd.hr, ?_, by rw [e]; exact scH_mono hd.sh (fun b hb => born_mono h hi hb), hd.os, hd.tape, hd.output, hd.size, hd.keep, by rw [e]; exact hd.fresh, hd.ren, by rw [e]; exact hd.old⟩
  · rw [TD_put h ho hn]; exact TR_put hd.tr _ _
  · rw [TD_put h ho hn]
    exact ScT_put (ScT_mono hd.st (fun b hb => born_mono h hi hb)) (V.sc_mono (fun b hb => born_mono h hi hb) hv) _
/-- The text's own scope. -/
theorem text_sc (h : Ran P ops M τ ops.size) (h0 : ScT W (fun b => b < (τ.Hs 0).length) (τ.Ts 0)) (h1 : ScH W (fun b => b < (τ.Hs 0).length) (τ.Hs 0)) : ∀ p, p ≤ ops.size → ScT W (fun b => b < (τ.Hs p).length) (τ.Ts p) ∧ ScH W (fun b => b < (τ.Hs p).length) (τ.Hs p) := by
  intro p hp
  induction p with
  | zero => exact ⟨h0, h1⟩
  | succ p ih =>
    obtain ⟨g0, g1⟩ := ih (by omega)
    obtain ⟨o, ho, e, hs⟩ := h p (by omega)
    have sh := step_shape hs
    obtain ⟨k0, k1⟩ := sh.sc W _ g0 g1 (fun b hb => hb)
    have hl := Hs_len h (show p ≤ p + 1 by omega) hp
    have hm : ∀ b, ext (fun b => b < (τ.Hs p).length) (τ.Hs p) (τ.Hs (p + 1)) b → b < (τ.Hs (p + 1)).length := fun b hb => hb.elim (fun hb => by simp only at hb; omega) (fun hb => hb.2)
    rw [e]
    exact ⟨ScT_mono k0 hm, scH_mono k1 hm⟩
/-- A new block. -/
theorem DS_alloc (h : Ctx P ops M τ D) (hS : ∀ b, S b → b < (τ.Hs 0).length) (hd : DS P ops M τ W S ρ0 a0 w0 D ρ a w) {i : Nat} {o : Oper} (ho : ops[i]? = some o) (hn : dn D i = false) {cs : List C} {ak : AK} (hc : τ.cl i = .alloc) (hH : τ.Hs (i + 1) = τ.Hs i ++ [some (ak.blk cs)]) (hvs : τ.vs i = ak.val (τ.Hs i).length) (ha : allocD P (TD ops τ D ops.size) o = some (cs, ak)) :
    ∃ (ρ' : Ren) (w' : World), (execOp a.eval o).run P w = .ok (.value ((τ.vs i).den ρ')) w' ∧ DS P ops M τ W S ρ0 a0 w0 (D.setIfInBounds i true) ρ' (a.put o.dst ((τ.vs i).den ρ')) w' := by
  have hi : i < ops.size := (Array.getElem?_eq_some_iff.1 ho).1
  have hlen : (τ.Hs (i + 1)).length = (τ.Hs i).length + 1 := by rw [hH]; simp
  have h0i := Hs_len h.ran (Nat.zero_le i) (by omega)
  obtain ⟨hs, hfit, hrun⟩ := allocD_run ha
  obtain ⟨ρ', hρ⟩ : ∃ ρ' : Ren, ρ' = fun c => if c = (τ.Hs i).length then ⟨w.heap.size, ak.cap⟩ else ρ c := ⟨_, rfl⟩
  have hnew : ρ' (τ.Hs i).length = ⟨w.heap.size, ak.cap⟩ := by rw [hρ]; simp
  have hold : ∀ b, b ≠ (τ.Hs i).length → ρ' b = ρ b := fun b hb => by rw [hρ]; simp only; rw [if_neg hb]
  have hborn : ∀ b, born S τ D b → ρ' b = ρ b := fun b hb => hold b (fun e => born_new h hS hi hn hb (by omega))
  have ht' := TR_congr hborn hd.st hd.tr
  obtain ⟨e, he, hex⟩ := hrun (τ.Hs i).length ρ' a w ht' hnew
  have hblk : ∀ b x, blk (HL ops M τ (D.setIfInBounds i true)) b = some x → (b = (τ.Hs i).length ∧ x = ak.blk cs) ∨ (b ≠ (τ.Hs i).length ∧ blk (HL ops M τ D) b = some x) := by
    intro b x hx
    rw [blk_HL h.ran, HD_quiet h hi hn (by rw [hc]; exact fun e => by cases e)] at hx
    by_cases hb : b = (τ.Hs i).length
    · rw [if_pos (by omega), hH, hb] at hx
      refine .inl ⟨hb, ?_⟩
      rcases blk_push hx with ⟨hl, _⟩ | ⟨_, e⟩
      · omega
      · exact e
    · rw [if_neg (by omega)] at hx
      exact .inr ⟨hb, by rw [blk_HL h.ran]; exact hx⟩
  have hnone : ∀ b, b ≠ (τ.Hs i).length → blk (HL ops M τ D) b = none → blk (HL ops M τ (D.setIfInBounds i true)) b = none := by
    intro b hb hx
    cases hh : blk (HL ops M τ (D.setIfInBounds i true)) b with
    | none => rfl
    | some x =>
      rcases hblk b x hh with ⟨h1, _⟩ | ⟨_, h2⟩
      · exact absurd h1 hb
      · rw [hx] at h2; cases h2
  have hsz : ∀ b x, blk (HL ops M τ D) b = some x → x.used → (ρ b).r < w.heap.size := fun b x hx hu => ((hd.hr.real b x hx).lt hu).2
  have hallold : ∀ r, r < w.heap.size → (w.alloc (.cells (cs.map (C.den ρ')).toArray e (0, 0))).heap[r]? = w.heap[r]? := fun r hr => by
    simp only [World.alloc, Array.getElem?_push]; rw [if_neg (by omega)]
  have hallsz : w.heap.size ≤ (w.alloc (.cells (cs.map (C.den ρ')).toArray e (0, 0))).heap.size := by show _ ≤ (w.heap.push _).size; simp
  have hin : born S τ (D.setIfInBounds i true) (τ.Hs i).length := .inr ⟨i, by rw [dn_set h.size hi, if_pos rfl], Nat.le_refl _, by omega⟩
  refine ⟨ρ', w.alloc (.cells (cs.map (C.den ρ')).toArray e (0, 0)), by rw [hvs]; exact hex, ⟨by rw [put_defers]; exact hd.dl, ?_, ⟨fun r hr => ?_, Nat.le_trans hd.hr.big hallsz, fun b x hx => ?_, fun b b' x x' hx hx' hu hu' he => ?_⟩, ?_, fun b x hx => ?_, hd.os, hd.tape, hd.output, Nat.le_trans hd.size hallsz, fun r hr1 hr2 => ?_, fun b x hge hx hu => ?_, fun b hb => ?_, fun b x hb hx hu => ?_⟩⟩
  · rw [TD_put h ho hn]; exact TR_put ht' _ _
  · have := hd.hr.big; rw [hallold r (by omega), hd.hr.low r hr]
  · rcases hblk b x hx with ⟨rfl, rfl⟩ | ⟨hb, hx⟩
    · exact real_new hnew hfit he hd.hr.big
    · exact (hd.hr.real b x hx).keep (hd.sh b x hx) hborn (hold b hb) (fun hu => hallold _ (hsz b x hx hu))
  · rcases hblk b x hx with ⟨hb, hy⟩ | ⟨hb, hy⟩ <;> rcases hblk b' x' hx' with ⟨hb', hy'⟩ | ⟨hb', hy'⟩
    · rw [hb, hb']
    · rw [hb, hnew, hold b' hb'] at he; have := hsz b' x' hy' hu'; simp only at he; omega
    · rw [hb', hnew, hold b hb] at he; have := hsz b x hy hu; simp only at he; omega
    · rw [hold b hb, hold b' hb'] at he; exact hd.hr.inj b b' x x' hy hy' hu hu' he
  · rw [TD_put h ho hn]
    refine ScT_put (ScT_mono hd.st (fun b hb => born_mono h hi hb)) ?_ _
    rw [hvs]
    cases ak with
    | ptr => exact hin
    | slice e sz n => exact hin
  · rcases hblk b x hx with ⟨_, rfl⟩ | ⟨hb, hx⟩
    · exact Blk.sc_mono (fun b hb => born_mono h hi hb) (blk_sc hfit (hs W _ hd.st))
    · exact Blk.sc_mono (fun b hb => born_mono h hi hb) (hd.sh b x hx)
  · have := hd.size
    rw [← hd.keep r hr1 hr2]
    exact hallold r (by omega)
  · rcases hblk b x hx with ⟨rfl, _⟩ | ⟨hb, hx⟩
    · rw [hnew]; exact .inl hd.size
    · rw [hold b hb]
      rcases hd.fresh b x hge hx hu with g | ⟨c, Cc, g1, g2, g3, g4⟩
      · exact .inl g
      · exact .inr ⟨c, Cc, g1, g2, hnone c (by have := blk_lt g1; omega) g3, g4⟩
  · rw [hold b (by omega)]; exact hd.ren b hb
  · rcases hblk b x hx with ⟨rfl, _⟩ | ⟨_, hx⟩
    · omega
    · exact hd.old b x hb hx hu
/-- The operands alone. -/
def keepT (l : List Tmp) : Nat → List V → List V
  | _, [] => []
  | t, v :: r => (if t ∈ l then v else undefV) :: keepT l (t + 1) r
theorem keepT_get (l : List Tmp) : ∀ (T : List V) (b t : Nat), (keepT l b T)[t]? = (T[t]?).map fun v => if b + t ∈ l then v else undefV
  | [], b, t => by simp [keepT]
  | v :: r, b, 0 => by simp [keepT]
  | v :: r, b, t + 1 => by
    simp only [keepT, List.getElem?_cons_succ]
    rw [keepT_get l r (b + 1) t, show b + 1 + t = b + (t + 1) by omega]
theorem keepT_len (l : List Tmp) : ∀ (T : List V) (b : Nat), (keepT l b T).length = T.length
  | [], b => rfl
  | v :: r, b => by simp [keepT, keepT_len l r]
/-- A call, or a store. -/
theorem DS_eff (h : Ctx P ops M τ D) (hS : ∀ b, S b → b < (τ.Hs 0).length) (h0 : ScT W (fun b => b < (τ.Hs 0).length) (τ.Ts 0)) (h1 : ScH W (fun b => b < (τ.Hs 0).length) (τ.Hs 0)) (hd : DS P ops M τ W S ρ0 a0 w0 D ρ a w) {i : Nat} {o : Oper} (ho : ops[i]? = some o) (hn : dn D i = false) (hr : ∀ j, anc M j i = true → dn D j = true)
    {Hm : Heap} (hc : τ.cl i = .eff) (hkn : knows (τ.Ts i) o = true) (hns : ∀ cs b, o.op ≠ .select cs b) (hs : ∀ T', Agree o (τ.Ts i) T' → StepTo P T' o (maskGo (masked M i (τ.recs i)) 0 (τ.Hs i)) (τ.vs i) Hm (τ.ft i)) (hH : τ.Hs (i + 1) = unmGo (masked M i (τ.recs i)) 0 Hm (τ.Hs i))
    {K : Act → World → Prop} {Q : Exit → Act → World → Prop} (hK : ∀ ρ' w', DS P ops M τ W S ρ0 a0 w0 (D.setIfInBounds i true) ρ' (a.put o.dst ((τ.vs i).den ρ')) w' → K (a.put o.dst ((τ.vs i).den ρ')) w') : o.upon P a K Q ((execOp a.eval o).run P w) := by
  have hi : i < ops.size := (Array.getElem?_eq_some_iff.1 ho).1
  have h0i := Hs_len h.ran (Nat.zero_le i) (by omega)
  obtain ⟨hag, _⟩ := agree_TD h ho hn hr
  obtain ⟨mk, hmk⟩ : ∃ mk, mk = masked M i (τ.recs i) := ⟨_, rfl⟩
  obtain ⟨Hk, hHk⟩ : ∃ Hk, Hk = maskGo mk 0 (τ.Hs i) := ⟨_, rfl⟩
  rw [← hmk, ← hHk] at hs
  rw [← hmk] at hH
  have hkl : Hk.length = (τ.Hs i).length := by rw [hHk, maskGo_len]
  obtain ⟨Tm, hTm⟩ : ∃ Tm, Tm = keepT (o.looksAt ops) 0 (TD ops τ D ops.size) := ⟨_, rfl⟩
  have hgetm : ∀ t, t ∈ o.looksAt ops → nth Tm t = nth (TD ops τ D ops.size) t := by
    intro t ht
    rw [hTm, nth_eq, nth_eq, keepT_get]
    cases (TD ops τ D ops.size)[t]? with
    | none => rfl
    | some v => simp [ht]
  have hop : ∀ x ∈ o.op.operands.toList, ∀ t, x = .tmp t → t ∈ o.looksAt ops := fun x hx t e => by
    subst e; exact List.mem_append_left _ (List.mem_filterMap.2 ⟨.tmp t, hx, rfl⟩)
  have hagm : Agree o (τ.Ts i) Tm := by
    intro x hx
    cases x with
    | tmp t => show (nth _ t).bind real = (nth _ t).bind real; rw [hgetm t (hop _ hx t rfl), TD_agree h ho hn hr (hop _ hx t rfl)]
    | const c => rfl
    | global g => rfl
    | func f => rfl
  have st := hs Tm hagm
  obtain ⟨tx0, tx1⟩ := text_sc h.ran h0 h1 i (by omega)
  obtain ⟨S', hS'⟩ : ∃ S' : Nat → Prop, S' = fun b => born S τ D b ∧ b < (τ.Hs i).length := ⟨_, rfl⟩
  have hHD : ∀ b x, blk Hk b = some x → b < (τ.Hs i).length ∧ mk b = false ∧ blk (τ.Hs i) b = some x ∧ blk (HL ops M τ D) b = some x := by
    intro b x hx
    have hb : b < (τ.Hs i).length := by have := blk_lt hx; omega
    rw [hHk, blk_mask] at hx
    split at hx
    · cases hx
    · rename_i hm
      have hm' : mk b = false := by simpa using hm
      refine ⟨hb, hm', hx, ?_⟩
      rw [blk_HL h.ran, HD_eff h hi hc hn hr hb (by rw [← hmk]; exact hm')]
      exact hx
  have both : ∀ {x : C}, x.sc W (born S τ D) → x.sc W (fun b => b < (τ.Hs i).length) → x.sc W S' := by
    intro x g1 g2
    rw [hS']
    cases x <;> simp only [C.sc] at g1 g2 ⊢ <;> first | exact g1 | exact ⟨g1, g2⟩ | exact ⟨fun p hp => ⟨g1.1 p hp, g2.1 p hp⟩, fun p hp => ⟨g1.2 p hp, g2.2 p hp⟩⟩
  have bothU : ∀ {x : U}, x.sc W (born S τ D) → x.sc W (fun b => b < (τ.Hs i).length) → x.sc W S' := by
    intro x g1 g2
    cases x with
    | c y => exact both g1 g2
    | a ys => exact fun y hy => both (g1 y hy) (g2 y hy)
  have bothV : ∀ {x : V}, x.sc W (born S τ D) → x.sc W (fun b => b < (τ.Hs i).length) → x.sc W S' := by
    intro x g1 g2
    cases x with
    | u y => exact bothU g1 g2
    | t ys => exact fun y hy => bothU (g1 y hy) (g2 y hy)
    | any => exact trivial
  have bothB : ∀ {B : Blk}, B.sc W (born S τ D) → B.sc W (fun b => b < (τ.Hs i).length) → B.sc W S' := by
    intro B g1 g2
    cases B with
    | cells cs => exact fun y hy => both (g1 y hy) (g2 y hy)
    | row e sz n get fl => exact ⟨fun j hj => ⟨(g1.1 j hj).1, fun y hy => both ((g1.1 j hj).2 y hy) ((g2.1 j hj).2 y hy)⟩, g1.2⟩
  have hscT : ScT W S' Tm := by
    intro v hv
    obtain ⟨t, ht⟩ := List.getElem?_of_mem hv
    rw [hTm, keepT_get, Option.map_eq_some_iff] at ht
    obtain ⟨u, hu, he⟩ := ht
    simp only [Nat.zero_add] at he
    split at he
    · rename_i hin
      subst he
      refine bothV (hd.st u (List.mem_of_getElem? hu)) ?_
      have e := TD_agree h ho hn hr hin
      rw [nth_eq, hu, nth_eq] at e
      exact tx0 u (List.mem_of_getElem? e.symm)
    · subst he; exact undefV_sc _ _
  have hscH : ScH W S' Hk := by
    intro b x hx
    obtain ⟨g1, _, g2, g3⟩ := hHD b x hx
    exact bothB (hd.sh b x g3) (tx1 b x g2)
  have hlt : ∀ b, S' b → b < Hk.length := by
    intro b hb
    rw [hS'] at hb
    rw [hkl]
    exact hb.2
  have hHR : HR ρ W Hk w := ⟨hd.hr.low, hd.hr.big, fun b x hx => hd.hr.real b x (hHD b x hx).2.2.2, fun b b' x x' hx hx' hu hu' he => hd.hr.inj b b' x x' (hHD b x hx).2.2.2 (hHD b' x' hx').2.2.2 hu hu' he⟩
  obtain ⟨a', ha'⟩ : ∃ a' : Act, a' = { tmps := (Tm.map (V.den ρ)).toArray, defers := [] } := ⟨_, rfl⟩
  have htr' : TR ρ Tm a' := by
    rw [ha']
    exact ⟨by simp, fun t v hv _ => by rw [nth_eq] at hv; simp [hv]⟩
  have hex : (execOp a.eval o).run P w = (execOp a'.eval o).run P w ∨ ∃ x ∈ o.op.operands.toList, ∃ t, x = .tmp t ∧ nth Tm t = some .any := by
    by_cases hany : ∃ x ∈ o.op.operands.toList, ∃ t, x = .tmp t ∧ nth Tm t = some .any
    · exact .inr hany
    · refine .inl ?_
      rw [execOp_congr o hns fun x hx => ?_]
      cases x with
      | tmp t =>
        have hx' : Operand.tmp t ∈ o.op.operands.toList := by simpa using hx
        have hna : nth Tm t ≠ some .any := fun e => hany ⟨_, hx', t, rfl, e⟩
        have e3 : a.tmps[t]? = a'.tmps[t]? := by
          cases hn2 : nth Tm t with
          | none =>
            have e1 : a.tmps.size ≤ t := by
              rw [hd.tr.len]
              rw [hgetm t (hop _ hx' t rfl), nth_eq] at hn2
              simpa using hn2
            have e2 : a'.tmps.size ≤ t := by
              rw [htr'.len]
              rw [nth_eq] at hn2
              simpa using hn2
            rw [Array.getElem?_eq_none e1, Array.getElem?_eq_none e2]
          | some v =>
            have hv : v ≠ .any := fun e => hna (by rw [hn2, e])
            rw [htr'.val t v hn2 hv, hd.tr.val t v (by rw [← hgetm t (hop _ hx' t rfl)]; exact hn2) hv]
        simp [Act.eval, e3]
      | const c => rfl
      | global g => rfl
      | func f => rfl
  -- what is erased is not looked at
  have hex : (execOp a.eval o).run P w = (execOp a'.eval o).run P w := by
    rcases hex with hex | ⟨x, hx, t, rfl, hany⟩
    · exact hex
    · have hk := List.all_eq_true.1 hkn _ hx
      have e := hgetm t (hop _ hx t rfl)
      rw [hany, TD_agree h ho hn hr (hop _ hx t rfl)] at e
      unfold ev at hk
      simp only at hk
      rw [← e] at hk
      simp [real] at hk
  rw [hex]
  have hlm : (τ.Hs i).length ≤ Hm.length := by have := st.gr.len; omega
  have hlen : (τ.Hs (i + 1)).length = Hm.length := by rw [hH, unmGo_len _ _ _ _ hlm]
  refine st.run W S' ρ a' w hscT hscH hlt htr' hHR a K Q fun ρ1 w' hr1 hf1 => ?_
  obtain ⟨scv, scH⟩ := st.sc W S' hscT hscH hlt
  obtain ⟨ρ', hρ⟩ : ∃ ρ' : Ren, ρ' = fun c => if (τ.Hs i).length ≤ c ∧ c < Hm.length then ρ1 c else ρ c := ⟨_, rfl⟩
  have hin : ∀ b, (τ.Hs i).length ≤ b → b < Hm.length → ρ' b = ρ1 b := fun b g1 g2 => by rw [hρ]; simp only; rw [if_pos ⟨g1, g2⟩]
  have hout : ∀ b, ¬ ((τ.Hs i).length ≤ b ∧ b < Hm.length) → ρ' b = ρ b := fun b g => by rw [hρ]; simp only; rw [if_neg g]
  have h1old : ∀ b, b < (τ.Hs i).length → ρ1 b = ρ b := fun b hb => hf1.ren b (by omega)
  have hborn : ∀ b, born S τ D b → ρ' b = ρ b := fun b hb => hout b (fun g => born_new h hS hi hn hb (by rw [hlen]; exact g))
  have hext : ∀ b, ext S' Hk Hm b → ρ' b = ρ1 b := by
    intro b hb
    rcases hb with hb | ⟨g1, g2⟩
    · rw [hS'] at hb
      rw [hborn b hb.1, h1old b hb.2]
    · exact hin b (by omega) g2
  have hnewb : ∀ b, ext S' Hk Hm b → born S τ (D.setIfInBounds i true) b := by
    intro b hb
    rcases hb with hb | ⟨g1, g2⟩
    · rw [hS'] at hb; exact born_mono h hi hb.1
    · exact .inr ⟨i, by rw [dn_set h.size hi, if_pos rfl], by omega, by omega⟩
  have hHL : ∀ b, blk (HL ops M τ (D.setIfInBounds i true)) b = if (b < (τ.Hs i).length ∧ mk b = false) ∨ ((τ.Hs i).length ≤ b ∧ b < Hm.length) then blk Hm b else blk (HL ops M τ D) b := by
    intro b
    rw [blk_HL h.ran, HD_loud h hi hn hc, ← hmk, hlen]
    split
    · rename_i hcase
      rw [hH, blk_unm hlm, if_neg]
      rintro ⟨g1, g2⟩
      rcases hcase with g | g
      · rw [g.2] at g2; cases g2
      · omega
    · rw [blk_HL h.ran]
  have hblk : ∀ b x, blk (HL ops M τ (D.setIfInBounds i true)) b = some x → (blk Hm b = some x ∧ ((b < (τ.Hs i).length ∧ mk b = false) ∨ ((τ.Hs i).length ≤ b ∧ b < Hm.length))) ∨ (blk (HL ops M τ D) b = some x ∧ ¬ ((b < (τ.Hs i).length ∧ mk b = false) ∨ ((τ.Hs i).length ≤ b ∧ b < Hm.length))) := by
    intro b x hx
    rw [hHL] at hx
    split at hx
    · rename_i hcase; exact .inl ⟨hx, hcase⟩
    · rename_i hcase; exact .inr ⟨hx, hcase⟩
  have hsz : ∀ b x, blk (HL ops M τ D) b = some x → x.used → (ρ b).r < w.heap.size := fun b x hx hu => ((hd.hr.real b x hx).lt hu).2
  -- a block that the operation sees, there before it and after it
  have hold1 : ∀ b x, blk Hm b = some x → x.used → b < (τ.Hs i).length → ∃ y, blk Hk b = some y ∧ y.used := by
    intro b x hx hu hb
    cases hk : blk Hk b with
    | some y => exact ⟨y, rfl, st.gr.used b y x hk hx hu⟩
    | none => rw [st.gr.dead b (by omega) hk] at hx; cases hx
  have hoth : ∀ b x, blk (HL ops M τ D) b = some x → ¬ ((b < (τ.Hs i).length ∧ mk b = false) ∨ ((τ.Hs i).length ≤ b ∧ b < Hm.length)) → (x.used → w'.heap[(ρ b).r]? = w.heap[(ρ b).r]?) ∧ ρ' b = ρ b := by
    intro b x hx hnc
    refine ⟨fun hu => hf1.keep _ (hsz b x hx hu) (fun b' x' hb' hu' he => ?_), hout b (fun g => hnc (.inr g))⟩
    obtain ⟨g1, g2, g3, g4⟩ := hHD b' x' hb'
    have := hd.hr.inj b' b x' x g4 hx hu' hu he
    subst this
    exact hnc (.inl ⟨g1, g2⟩)
  have hin1 : ∀ b, ((b < (τ.Hs i).length ∧ mk b = false) ∨ ((τ.Hs i).length ≤ b ∧ b < Hm.length)) → ρ' b = ρ1 b := by
    intro b hcase
    rcases hcase with g | g
    · rw [hout b (fun hh => by omega), h1old b g.1]
    · exact hin b g.1 g.2
  -- where a block of the operation's lies: where an old one lay, or behind all
  have hwhere : ∀ b x, blk Hm b = some x → x.used → ((b < (τ.Hs i).length ∧ mk b = false) ∨ ((τ.Hs i).length ≤ b ∧ b < Hm.length)) → w.heap.size ≤ (ρ1 b).r ∨ ∃ c y, blk Hk c = some y ∧ y.used ∧ (ρ1 b).r = (ρ c).r ∧ (b < (τ.Hs i).length → c = b) ∧ ((τ.Hs i).length ≤ b → blk Hm c = none) := by
    intro b x hx hu hcase
    rcases hcase with g | g
    · obtain ⟨y, hk, hy⟩ := hold1 b x hx hu g.1
      exact .inr ⟨b, y, hk, hy, by rw [h1old b g.1], fun _ => rfl, fun hh => by omega⟩
    · rcases hf1.fresh b x (by omega) hx hu with g2 | ⟨c, y, e1, e2, e3, e4⟩
      · exact .inl g2
      · exact .inr ⟨c, y, e1, e2, e4, fun hh => by omega, fun _ => e3⟩
  have hdenv : (τ.vs i).den ρ1 = (τ.vs i).den ρ' := (V.den_congr hext scv).symm
  rw [hdenv]
  refine hK ρ' w' ⟨by rw [put_defers]; exact hd.dl, ?_, ⟨fun r hr2 => hr1.low r hr2, hr1.big, fun b x hx => ?_, fun b b' x x' hx hx' hu hu' he => ?_⟩, ?_, fun b x hx => ?_, hf1.os.trans hd.os, hf1.tape.trans hd.tape, hf1.output.trans hd.output, Nat.le_trans hd.size hf1.size, fun r hr1 hr2 => ?_, fun b x hge hx hu => ?_, fun b hb => ?_, fun b x hb hx hu => ?_⟩
  · rw [TD_put h ho hn]; exact TR_put (TR_congr hborn hd.st hd.tr) _ _
  · rcases hblk b x hx with ⟨hx, hcase⟩ | ⟨hx, hnc⟩
    · exact (hr1.real b x hx).keep (scH b x hx) hext (hin1 b hcase) (fun _ => rfl)
    · obtain ⟨g2, g3⟩ := hoth b x hx hnc
      exact (hd.hr.real b x hx).keep (hd.sh b x hx) hborn g3 g2
  · rcases hblk b x hx with ⟨hy, hcase⟩ | ⟨hy, hnc⟩ <;> rcases hblk b' x' hx' with ⟨hy', hcase'⟩ | ⟨hy', hnc'⟩
    · rw [hin1 b hcase, hin1 b' hcase'] at he
      exact hr1.inj b b' x x' hy hy' hu hu' he
    · rw [(hoth b' x' hy' hnc').2, hin1 b hcase] at he
      rcases hwhere b x hy hu hcase with g | ⟨c, y, e1, e2, e3, e4, e5⟩
      · have := hsz b' x' hy' hu'; omega
      · obtain ⟨q1, q2, q3, q4⟩ := hHD c y e1
        have := hd.hr.inj c b' y x' q4 hy' e2 hu' (by rw [← e3, he])
        subst this
        exact absurd (.inl ⟨q1, q2⟩) hnc'
    · rw [(hoth b x hy hnc).2, hin1 b' hcase'] at he
      rcases hwhere b' x' hy' hu' hcase' with g | ⟨c, y, e1, e2, e3, e4, e5⟩
      · have := hsz b x hy hu; omega
      · obtain ⟨q1, q2, q3, q4⟩ := hHD c y e1
        have := hd.hr.inj c b y x q4 hy e2 hu (by rw [← e3, ← he])
        subst this
        exact absurd (.inl ⟨q1, q2⟩) hnc
    · rw [(hoth b x hy hnc).2, (hoth b' x' hy' hnc').2] at he
      exact hd.hr.inj b b' x x' hy hy' hu hu' he
  · rw [TD_put h ho hn]
    exact ScT_put (ScT_mono hd.st (fun b hb => born_mono h hi hb)) (V.sc_mono hnewb scv) _
  · rcases hblk b x hx with ⟨hx, hcase⟩ | ⟨hx, hnc⟩
    · exact Blk.sc_mono hnewb (scH b x hx)
    · exact Blk.sc_mono (fun b hb => born_mono h hi hb) (hd.sh b x hx)
  · rw [← hd.keep r hr1 hr2]
    refine hf1.keep r (Nat.lt_of_lt_of_le hr1 hd.size) (fun b x hb hu he => ?_)
    obtain ⟨g1, g2, g3, g4⟩ := hHD b x hb
    by_cases hb0 : b < (τ.Hs 0).length
    · rw [hd.ren b hb0] at he
      obtain ⟨B0, q1, q2⟩ := hd.old b x hb0 g4 hu
      exact hr2 b B0 q1 q2 he
    · rcases hd.fresh b x (by omega) g4 hu with g | ⟨c, Cc, q1, q2, q3, q4⟩
      · omega
      · exact hr2 c Cc q1 q2 (by rw [← q4, he])
  · -- where it lies, by what was said before
    have before : ∀ c y, (τ.Hs 0).length ≤ c → blk (HL ops M τ D) c = some y → y.used → w0.heap.size ≤ (ρ c).r ∨ ∃ d Cd, blk (τ.Hs 0) d = some Cd ∧ Cd.used ∧ blk (HL ops M τ (D.setIfInBounds i true)) d = none ∧ (ρ c).r = (ρ0 d).r := by
      intro c y hc1 hy hyu
      rcases hd.fresh c y hc1 hy hyu with g | ⟨d, Cd, q1, q2, q3, q4⟩
      · exact .inl g
      · refine .inr ⟨d, Cd, q1, q2, ?_, q4⟩
        rw [hHL]
        have hd0 := blk_lt q1
        by_cases hcase : (d < (τ.Hs i).length ∧ mk d = false) ∨ ((τ.Hs i).length ≤ d ∧ d < Hm.length)
        · rw [if_pos hcase]
          rcases hcase with g | g
          · refine st.gr.dead d (by omega) ?_
            cases hk : blk Hk d with
            | none => rfl
            | some z => rw [(hHD d z hk).2.2.2] at q3; cases q3
          · omega
        · rw [if_neg hcase]; exact q3
    rcases hblk b x hx with ⟨hx, hcase⟩ | ⟨hx, hnc⟩
    · rw [hin1 b hcase]
      rcases hwhere b x hx hu hcase with g | ⟨c, y, e1, e2, e3, e4, e5⟩
      · exact .inl (Nat.le_trans hd.size g)
      · obtain ⟨q1, q2, q3, q4⟩ := hHD c y e1
        rw [e3]
        by_cases hc0 : (τ.Hs 0).length ≤ c
        · exact before c y hc0 q4 e2
        · -- an old block, taken over
          have hbi : (τ.Hs i).length ≤ b := by
            rcases Nat.lt_or_ge b (τ.Hs i).length with hh | hh
            · have := e4 hh; omega
            · exact hh
          obtain ⟨B0, r1, r2⟩ := hd.old c y (by omega) q4 e2
          refine .inr ⟨c, B0, r1, r2, ?_, by rw [hd.ren c (by omega)]⟩
          rw [hHL, if_pos (.inl ⟨q1, q2⟩)]
          exact e5 hbi
    · rw [(hoth b x hx hnc).2]; exact before b x hge hx hu
  · rw [hout b (fun hh => by omega)]; exact hd.ren b hb
  · rcases hblk b x hx with ⟨hx, hcase⟩ | ⟨hx, hnc⟩
    · obtain ⟨y, hk, hy⟩ := hold1 b x hx hu (by omega)
      exact hd.old b y hb (hHD b y hk).2.2.2 hy
    · exact hd.old b x hb hx hu
end
end Go.Proofs.Ytbgdfikfldkjbaa.AI
