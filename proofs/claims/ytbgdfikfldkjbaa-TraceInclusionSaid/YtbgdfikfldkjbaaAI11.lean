/- Code as the machine runs it: what the reading says is what comes. -/
import Derived.Test.YtbgdfikfldkjbaaAI10
namespace Go.Proofs.Ytbgdfikfldkjbaa.AI
set_option linter.unnecessarySimpa false
open Go
set_option linter.unusedVariables false
set_option linter.unusedSimpArgs false
theorem back_lt {ops : Array Oper} (hb : backOk ops.toList 0 = true) {i : Nat} {o : Oper} (ho : ops[i]? = some o) {e : Edge} (he : e ∈ o.after.toList) (hbi : Region.binds .any e = true) : e.on < i := by
  have hback : ∀ (l : List Oper) (k q : Nat) (o : Oper), backOk l k = true → l[q]? = some o → ∀ e ∈ o.after.toList, Region.binds .any e = true → e.on < k + q := by
    intro l
    induction l with
    | nil => intro k q o _ h; simp at h
    | cons x l ih =>
      intro k q o hb h e he hbi
      simp only [backOk, Bool.and_eq_true] at hb
      cases q with
      | zero =>
        simp at h
        subst h
        have := List.all_eq_true.1 hb.1 e he
        rw [hbi] at this
        simpa using this
      | succ q =>
        have := ih (k + 1) q o hb.2 (by simpa using h) e he hbi
        omega
  have := hback ops.toList 0 i o hb (by simpa using ho) e he hbi
  omega
def numDone (D : Array Bool) (n : Nat) : Nat := (List.range n).countP (dn D)
theorem numDone_set {ops : Array Oper} {D : Array Bool} (hs : D.size = ops.size) {i : Nat} (hi : i < ops.size) (hn : dn D i = false) : ∀ m, m ≤ ops.size → numDone (D.setIfInBounds i true) m = numDone D m + if i < m then 1 else 0 := by
  intro m hm
  induction m with
  | zero => simp [numDone]
  | succ m ih =>
    have ih := ih (by omega)
    unfold numDone at *
    rw [List.range_succ, List.countP_append, List.countP_append, ih]
    simp only [List.countP_singleton]
    rw [dn_set hs hi]
    by_cases e : m = i
    · subst e
      rw [if_pos rfl, hn]
      simp
    · rw [if_neg e]
      have e2 : (if i < m + 1 then 1 else 0 : Nat) = if i < m then 1 else 0 := by
        by_cases hl : i < m
        · rw [if_pos hl, if_pos (by omega)]
        · rw [if_neg hl, if_neg (by omega)]
      rw [e2]
      omega
theorem numDone_all {D : Array Bool} {n : Nat} (h : numDone D n = n) : ∀ p, p < n → dn D p = true := by
  have h' : (List.range n).countP (dn D) = (List.range n).length := by rw [List.length_range]; exact h
  rw [List.countP_eq_length] at h'
  exact fun p hp => h' p (List.mem_range.2 hp)
section
variable {P : Program} {ops : Array Oper} {M : List Nat} {τ : Tr} {W : World} {S : Nat → Prop} {ρ0 : Ren} {w0 : World} {a0 : Act}
theorem all_ready {D : Array Bool} (h : Ctx P ops M τ D) (hr : Region.ready .any ops D = []) : ∀ p, p < ops.size → dn D p = true := by
  intro p hp
  induction p using Nat.strongRecOn with
  | _ p ih =>
    cases hd : dn D p with
    | true => rfl
    | false =>
      have : p ∈ Region.ready .any ops D := by
        rw [mem_ready]
        refine ⟨?_, ops[p], Array.getElem?_eq_getElem hp, fun e he hb => ?_⟩
        · unfold dn at hd
          have hlt : p < D.size := by rw [h.size]; exact hp
          simp [hlt] at hd ⊢
          exact hd
        · exact ih e.on (back_lt h.back (Array.getElem?_eq_getElem hp) (by simpa using he) hb) (by
            have := back_lt h.back (Array.getElem?_eq_getElem hp) (e := e) (by simpa using he) hb
            omega)
      rw [hr] at this
      cases this
theorem step_wants {p : Nat} {o : Oper} {T : List V} {H : Heap} {rs : List Rec} {v : V} {H' : Heap} {c : Cls} {f : List Foot} (hs : Step P ops M p o T H rs v H' c f) : ∃ β, wants ops T o = some β := by
  cases hs with
  | skip hw => exact ⟨_, hw⟩
  | pure v hw => exact ⟨_, hw⟩
  | load u fs t x q hw => exact ⟨_, hw⟩
  | alloc cs ak hw => exact ⟨_, hw⟩
  | eff v Hm l hw => exact ⟨_, hw⟩
theorem any_sound {k : Ren → Act → World → Prop} (hS : ∀ b, S b → b < (τ.Hs 0).length) (h0 : ScT W (fun b => b < (τ.Hs 0).length) (τ.Ts 0)) (h1 : ScH W (fun b => b < (τ.Hs 0).length) (τ.Hs 0)) {Q : Exit → Act → World → Prop}
    {ro : Option Nat} {n : Nat} (hro : ro = none ∨ ops.toList.all noDefer = true) (hQ : ∀ D ρ a w, Ctx P ops M τ D → DS P ops M τ W S ρ0 a0 w0 D ρ a w → (∀ p, p < ops.size → dn D p = true) → Q .normal a w) :
    ∀ (fuel : Nat) (D : Array Bool) (ρ : Ren) (a : Act) (w : World), Ctx P ops M τ D → DS P ops M τ W S ρ0 a0 w0 D ρ a w → fuel + numDone D ops.size = ops.size → wpAnyIn (fen ro) n P .any ops Q fuel D a w
  | 0, D, ρ, a, w, h, hd, hf => by
    have hall := numDone_all (D := D) (n := ops.size) (by omega)
    refine ⟨?_, hQ D ρ a w h hd hall⟩
    rw [List.eq_nil_iff_forall_not_mem]
    intro i hi
    rw [mem_ready] at hi
    obtain ⟨g1, o, ho, _⟩ := hi
    have hlt := (Array.getElem?_eq_some_iff.1 ho).1
    have := hall i hlt
    unfold dn at this
    have hlt' : i < D.size := by rw [h.size]; exact hlt
    simp [hlt'] at this g1
    rw [this] at g1
    cases g1
  | fuel + 1, D, ρ, a, w, h, hd, hf => by
    refine ⟨fun hr => hQ D ρ a w h hd (all_ready h hr), fun i hir => ?_⟩
    rw [mem_ready] at hir
    obtain ⟨g1, o, ho, g2⟩ := hir
    have hi : i < ops.size := (Array.getElem?_eq_some_iff.1 ho).1
    have hlt : i < D.size := by rw [h.size]; exact hi
    have hn : dn D i = false := by
      unfold dn
      simp [hlt] at g1 ⊢
      exact g1
    have hedges : ∀ o', ops[i]? = some o' → ∀ e ∈ o'.after.toList, Region.binds .any e = true → dn D e.on = true := by
      intro o' ho' e he hb
      rw [ho] at ho'
      cases ho'
      exact g2 e (by simpa using he) hb
    have hr : ∀ j, anc M j i = true → dn D j = true := fun j hj => anc_ready h hi hedges hj
    have h' : Ctx P ops M τ (D.setIfInBounds i true) := by
      refine ⟨h.hM, h.back, h.pairs, h.ran, by simp [h.size], fun p hp o' ho' e he hb => ?_⟩
      rw [dn_set h.size hi] at hp ⊢
      split
      · rfl
      · by_cases e1 : p = i
        · subst e1; exact hedges o' ho' e he hb
        · rw [if_neg e1] at hp; exact h.closed p hp o' ho' e he hb
    have hf' : fuel + numDone (D.setIfInBounds i true) ops.size = ops.size := by
      rw [numDone_set h.size hi hn ops.size (Nat.le_refl _), if_pos hi]; omega
    have next : ∀ ρ' a' w', DS P ops M τ W S ρ0 a0 w0 (D.setIfInBounds i true) ρ' a' w' → wpAnyIn (fen ro) n P .any ops Q fuel (D.setIfInBounds i true) a' w' := fun ρ' a' w' hd' => any_sound (k := k) hS h0 h1 hro hQ fuel _ ρ' a' w' h' hd' hf'
    obtain ⟨hag, hwa⟩ := agree_TD h ho hn hr
    obtain ⟨o', ho', _, hs⟩ := h.ran i hi
    rw [ho] at ho'
    cases ho'
    unfold wpOpIn
    simp only [ho]
    have hnd : ro = none ∨ noDefer o = true := hro.imp id (fun e => List.all_eq_true.1 e o (List.mem_of_getElem? (by simpa using ho)))
    obtain ⟨β, hβ⟩ := step_wants hs
    rw [wants_spec hd.tr (hwa.trans hβ)]
    -- the kinds
    have hcases := hs
    revert hs
    generalize hcl : τ.cl i = c
    generalize hft : τ.ft i = f'
    generalize hv : τ.vs i = v
    generalize hH : τ.Hs (i + 1) = H'
    intro hs
    cases hs with
    | skip hw =>
      rw [hw] at hβ
      cases hβ
      simp only [Bool.false_eq_true, if_false]
      refine ⟨fun _ _ => trivial, ?_⟩
      have := DS_quiet h hd ho hn (by rw [hcl]; exact fun e => by cases e) (by rw [hH]) (by rw [hv]; exact undefV_sc _ _)
      rw [hv] at this
      exact next ρ _ _ this
    | pure v hw hnv hp =>
      rw [hw] at hβ
      cases hβ
      rw [if_pos rfl]
      refine opIn hnd ?_
      obtain ⟨p1, p2⟩ := hp _ hag
      have := DS_quiet h hd ho hn (by rw [hcl]; exact fun e => by cases e) (by rw [hH]) (by rw [hv]; exact p1 _ _ hd.st)
      rw [hv] at this
      unfold Oper.wp
      rw [p2 _ _ ρ a w hd.st hd.tr]
      exact next ρ _ _ this
    | load u f t x q hw hop hx hl hk =>
      rw [hw] at hβ
      cases hβ
      rw [if_pos rfl]
      refine opIn hnd ?_
      have hx' : ev (TD ops τ D ops.size) x = some (.u (.c q)) := (hag x (by simp [hop, Op.operands])).trans hx
      have hl' : loadP P (HL ops M τ D) t q = some (u, f') := loadP_congr hl fun g hg => by
        rw [blk_HL h.ran]
        obtain ⟨g1, g2⟩ := loadP_foot hl g hg
        exact HD_load h hi hcl (by rw [hft]; exact hg) hn hr g1 (by cases g <;> exact g2)
      have hqs : C.sc W (born S τ D) q := ev_sc hx' hd.st
      have := DS_quiet h hd ho hn (by rw [hcl]; exact fun e => by cases e) (by rw [hH]) (by rw [hv]; exact loadP_sc hl' hd.sh hqs)
      rw [hv] at this
      unfold Oper.wp
      obtain ⟨ad, k1, k2⟩ := loadP_run hl' hd.hr hqs
      have hrun : (execOp a.eval o).run P w = .ok (.value (u.den ρ)) w := by
        have ex : a.eval x = q.den ρ := ev_den hx' hd.tr
        simp only [execOp, hop, ex, k1, Instr.loadAt, Instr.sureAddr, Sem.run_bind, Sem.run_pure, Result.andThen_ok, k2]
      rw [hrun]
      exact next ρ _ _ this
    | alloc cs ak hw ha =>
      rw [hw] at hβ
      cases hβ
      rw [if_pos rfl]
      refine opIn hnd ?_
      obtain ⟨ρ', w', e1, e2⟩ := DS_alloc h hS hd ho hn hcl hH hv (by rw [allocD_congr hag]; exact ha)
      rw [hv] at e1 e2
      unfold Oper.wp
      rw [e1]
      exact next ρ' _ _ e2
    | eff v Hm l hw hkn hns hst hk =>
      rw [hw] at hβ
      cases hβ
      rw [if_pos rfl]
      refine opIn hnd ?_
      exact DS_eff h hS h0 h1 hd ho hn hr (Hm := Hm) hcl hkn hns (by rw [hv, hft]; exact hst) hH fun ρ' w' hd' => next ρ' _ _ hd'
end
theorem regD_sound {α : Type} {P : Program} (hm : P.follows .mixedOrders = true) {call : CallT α} (hc : CallOk P call) {ops : Array Oper} {T : List V} {H : Heap} {L : List Foot} {k : List V → Heap → List Foot → Option α} {r : α} (h : regD P call ops T H L k = some r) (id : Nat) :
    ∃ T' H' l, k T' H' (l ++ L) = some r ∧ Shape T H T' H' l ∧ ∀ (ro : Option Nat) (n : Nat), (ro = none ∨ ops.toList.all noDefer = true) → ∀ (W : World) (S : Nat → Prop) (ρ : Ren) (a : Act) (w : World), St W S ρ T H a w → ∀ Q : Exit → Act → World → Prop, (∀ ρ' a' w', En W ρ ρ' T' H H' a a' w w' → a'.defers = a.defers → Q .normal a' w') → (Code.region id ops true).wpIn (fen ro) n P Q a w := by
  unfold regD at h
  cases hck : (backOk ops.toList 0 && allPairs ops (ancGo ops.toList []) ops.toList 0)
  · rw [hck] at h; cases h
  rw [hck, cond_true] at h
  rw [Bool.and_eq_true] at hck
  obtain ⟨τ, l, t0, t1, t2, t3, t4⟩ := regDGo_trace hc ops.toList 0 ⟨fun _ => T, fun _ => H, fun _ => undefV, fun _ => .pure, fun _ => []⟩ L (fun j => by simp) (fun p hp => by omega) h
  simp only [Nat.zero_add, Array.length_toList] at t2 t3 t4
  simp only at t0 t1
  refine ⟨_, _, l, t3, t4, fun ro n hro W S ρ a w hs Q hQ => wpIn_region_any hm ?_⟩
  have hdn : ∀ p, dn (Array.replicate ops.size false) p = false := fun p => by
    unfold dn
    by_cases hp : p < ops.size
    · simp [hp]
    · simp [hp]
  have hctx : Ctx P ops (ancGo ops.toList []) τ (Array.replicate ops.size false) := ⟨rfl, hck.1, hck.2, t2, by simp, fun p hp => by rw [hdn] at hp; cases hp⟩
  have eT : ∀ n, TD ops τ (Array.replicate ops.size false) n = T := by
    intro n
    induction n with
    | zero => exact t0
    | succ n ih => simp only [TD]; rw [hdn]; simpa using ih
  have eH : ∀ n b, HD (ancGo ops.toList []) τ (Array.replicate ops.size false) n b = blk H b := by
    intro n b
    induction n with
    | zero => simp only [HD]; rw [t1]
    | succ n ih => simp only [HD]; rw [hdn]; simpa using ih
  have eL : ∀ b, blk (HL ops (ancGo ops.toList []) τ (Array.replicate ops.size false)) b = blk H b := fun b => by rw [blk_HL t2, eH]
  have hS : ∀ b, S b → b < (τ.Hs 0).length := by rw [t1]; exact hs.lt
  refine any_sound (τ := τ) (W := W) (S := S) (ρ0 := ρ) (a0 := a) (w0 := w) (k := fun _ _ _ => True) hS (by rw [t0, t1]; exact ScT_mono hs.st hs.lt) (by rw [t1]; exact scH_mono hs.sh hs.lt) hro ?_ ops.size _ ρ a _ hctx ?_ ?_
  · intro D ρ' a' w' hcx hd hall
    have e1 : TD ops τ D ops.size = τ.Ts ops.size := TD_all t2 hall (Nat.le_refl _)
    have e3 : ∀ b, b < (τ.Hs ops.size).length → blk (HL ops (ancGo ops.toList []) τ D) b = blk (τ.Hs ops.size) b := fun b hb => by
      rw [blk_HL t2, HD_all t2 hall _ (Nat.le_refl _) hb]
    have e2 : ∀ b cs, blk (τ.Hs ops.size) b = some cs → blk (HL ops (ancGo ops.toList []) τ D) b = some cs := fun b cs hb => by
      rw [e3 b (blk_lt hb)]; exact hb
    refine hQ ρ' a' w' ⟨.same hd.dl, by rw [← e1]; exact hd.tr, ⟨hd.hr.low, hd.hr.big, fun b cs hb => hd.hr.real b cs (e2 b cs hb), fun b b' cs cs' hb hb' hu hu' he => hd.hr.inj b b' cs cs' (e2 b cs hb) (e2 b' cs' hb') hu hu' he⟩, ⟨hd.os, hd.tape, hd.output, hd.size, fun r hr1 hr2 => hd.keep r hr1 (by rw [t1]; exact hr2), fun b cs hge hb hu => ?_, fun b hb => hd.ren b (by rw [t1]; exact hb)⟩⟩ hd.dl
    rcases hd.fresh b cs (by rw [t1]; exact hge) (e2 b cs hb) hu with g | ⟨c, Cc, g1, g2, g3, g4⟩
    · exact .inl g
    · rw [t1] at g1
      refine .inr ⟨c, Cc, g1, g2, ?_, g4⟩
      rw [← e3 c]
      · exact g3
      · have := blk_lt g1
        have hl := Hs_len t2 (Nat.zero_le ops.size) (Nat.le_refl _)
        rw [t1] at hl
        omega
  · refine ⟨rfl, by rw [eT]; exact hs.tr, ⟨hs.hr.low, hs.hr.big, fun b cs hb => hs.hr.real b cs (by rw [← eL]; exact hb), fun b b' cs cs' hb hb' hu hu' he => hs.hr.inj b b' cs cs' (by rw [← eL]; exact hb) (by rw [← eL]; exact hb') hu hu' he⟩, by rw [eT]; exact ScT_mono hs.st (fun b => .inl), fun b cs hb => Blk.sc_mono (fun b => .inl) (hs.sh b cs (by rw [← eL]; exact hb)), rfl, rfl, rfl, Nat.le_refl _, fun r _ _ => rfl, fun b cs hge hb hu => ?_, fun b _ => rfl, fun b B hb hB hu => ?_⟩
    · rw [eL] at hb
      rw [t1] at hge
      have := blk_lt hb
      omega
    · rw [eL] at hB
      rw [t1]
      exact ⟨B, hB, hu⟩
  · have : numDone (Array.replicate ops.size false) ops.size = 0 := by
      unfold numDone
      rw [List.countP_eq_zero]
      intro p _
      rw [hdn]
      simp
    omega
end Go.Proofs.Ytbgdfikfldkjbaa.AI
