/- Code, functions, calls: sound. -/
import Derived.Test.YtbgdfikfldkjbaaAI11b
import Derived.Shelf.Abstract
import Derived.RangeFuncLeaves
import Derived.Scope
import Derived.RangeFuncNested
namespace Go.Proofs.Ytbgdfikfldkjbaa.AI
set_option linter.unnecessarySimpa false
open Go
set_option linter.unusedVariables false
set_option linter.unusedSimpArgs false
theorem know_self {T : List V} {c : Operand} {b : Bool} (h : ev T c = some (.u (.c (.bool b)))) : know T c b = T := by
  cases c with
  | tmp t =>
    simp only [ev, Option.bind_eq_some_iff] at h
    obtain ⟨v, hv, hr⟩ := h
    obtain ⟨e, _⟩ := real_eq hr
    rw [e] at hv
    exact upd_self hv
  | _ => rfl
theorem CodeTo.done {P : Program} {c : Code} {T : List V} {H : Heap} {ex : Ex} (h : ∀ (F : Fence) (n : Nat) (a : Act) (w : World) (Q : Exit → Act → World → Prop), Q ex.den a w → c.wpIn F n P Q a w) : CodeTo P c T H ex T H [] :=
  { Shape.refl T H with run := fun ro n _ W S ρ a w hs Q hQ => h _ n a w Q (hQ ρ a w ⟨.same rfl, hs.tr, hs.hr, Fr.refl H ρ w⟩) }
/-- A loop that is told by what it comes to. -/
def LoopTold (P : Program) (b : Code) (g : List V → Heap → LTree) : Prop := ∀ T H ex T' H' l, (g T H).val = some (ex, T', H', l) → CodeTo P (.loop b) T H ex T' H' l
/-- A loop over a function, likewise. -/
def RangeTold (P : Program) (x : Code) (g : List V → Heap → LTree) : Prop := ∀ T H ex T' H' l, (g T H).val = some (ex, T', H', l) → CodeTo P x T H ex T' H' l
structure LoopsOk (P : Program) (c : Code) (lvs : List (Nat × LV)) : Prop where
  lo : ∀ b ∈ loops c, ∀ i v g, keyOf b = some i → look lvs i = some v → v.told = some g → LoopTold P b g
  ra : ∀ x ∈ ranges c, ∀ i v g, keyR x = some i → look lvs i = some v → v.told = some g → RangeTold P x g
theorem loopsOk_one {P : Program} {fn : Func} {b : Code} {key : Nat} {lv out : List Nat} {g : List V → Heap → LTree} (h1 : loops (fn.body.getD .skip) = [b]) (h2 : keyOf b = some key) (h3 : LoopTold P b g) (h4 : ranges (fn.body.getD .skip) = [] := by kernel_rfl) : ∀ c, fn.body = some c → LoopsOk P c [(key, ⟨lv, out, [], some g⟩)] := by
  intro c hc
  rw [hc] at h1 h4
  rw [show loops ((some c).getD .skip) = loops c from rfl] at h1
  rw [show ranges ((some c).getD .skip) = ranges c from rfl] at h4
  refine ⟨fun b' hb i v g' hk hv hg => ?_, fun x hx => by rw [h4] at hx; cases hx⟩
  rw [h1, List.mem_singleton] at hb
  subst hb
  rw [h2] at hk
  cases hk
  simp only [look, Nat.beq_refl, cond_true, Option.some.injEq] at hv
  subst hv
  cases hg
  exact h3
theorem untold {P : Program} {c : Code} {lvs : List (Nat × LV)} (h : ∀ p ∈ lvs, p.2.told = none) : LoopsOk P c lvs := by
  have key : ∀ i v g, look lvs i = some v → v.told = some g → False := fun i v g hv hg => by
    have : ∃ p ∈ lvs, p.2 = v := by
      clear h
      induction lvs with
      | nil => cases hv
      | cons q r ih =>
        obtain ⟨j, y⟩ := q
        simp only [look] at hv
        cases hb : Nat.beq j i
        · rw [hb] at hv
          obtain ⟨p, hp, e⟩ := ih hv
          exact ⟨p, List.mem_cons_of_mem _ hp, e⟩
        · rw [hb] at hv; cases hv; exact ⟨_, List.mem_cons_self .., rfl⟩
    obtain ⟨p, hp, rfl⟩ := this
    rw [h p hp] at hg
    cases hg
  exact ⟨fun b hb i v g hk hv hg => (key i v g hv hg).elim, fun x hx i v g hk hv hg => (key i v g hv hg).elim⟩
theorem ltree_run {α : Type} {L : List Foot} {k : KT α} {r : α} : ∀ {t : LTree}, t.run L k = some r → ∃ ex T H l, t.val = some (ex, T, H, l) ∧ k ex T H (l ++ L) = some r
  | .leaf ex T H l, h => ⟨ex, T, H, l, rfl, h⟩
  | .no, h => by cases h
  | .test b x y, h => by
    cases b with
    | true => exact ltree_run (t := x) h
    | false => exact ltree_run (t := y) h
theorem flat_and {ro : Option Nat} {p q : Bool} (h : ro = none ∨ (p && q) = true) : (ro = none ∨ p = true) ∧ (ro = none ∨ q = true) := by
  rcases h with h | h
  · exact ⟨.inl h, .inl h⟩
  · rw [Bool.and_eq_true] at h; exact ⟨.inr h.1, .inr h.2⟩
theorem codeA_sound {α : Type} {P : Program} (hm : P.follows .mixedOrders = true) {call : CallT α} (hc : CallOk P call) (fuel : Nat) (lvs : List (Nat × LV)) : ∀ (c : Code), LoopsOk P c lvs → ∀ (T : List V) (H : Heap) (L : List Foot) (k : KT α) (r : α), codeA P call fuel lvs c T H L k = some r →
    ∃ ex T' H' l, k ex T' H' (l ++ L) = some r ∧ CodeTo P c T H ex T' H' l := by
  intro c
  induction c with
  | skip => intro hlo T H L k r h; exact ⟨.normal, T, H, [], h, CodeTo.done fun _ _ a w Q hQ => wpIn_skip hQ⟩
  | label l => intro hlo T H L k r h; exact ⟨.normal, T, H, [], h, CodeTo.done fun _ _ a w Q hQ => wpIn_label hQ⟩
  | ret => intro hlo T H L k r h; exact ⟨.ret, T, H, [], h, CodeTo.done fun _ _ a w Q hQ => wpIn_ret hQ⟩
  | exit id => intro hlo T H L k r h; exact ⟨.exit id, T, H, [], h, CodeTo.done fun _ _ a w Q hQ => wpIn_exit hQ⟩
  | region id ops draw =>
    intro hlo T H L k r h
    cases draw with
    | true =>
      obtain ⟨T', H', l, h1, h2, h3⟩ := regD_sound hm hc (show regD P call ops T H L (fun T H L => k .normal T H L) = some r from h) id
      exact ⟨.normal, T', H', l, h1, { h2 with run := fun ro n hro W S ρ a w hs Q hQ => h3 ro n hro W S ρ a w hs Q fun ρ' a' w' e _ => hQ ρ' a' w' e }⟩
    | false =>
      obtain ⟨T', H', l, h1, h2, h3⟩ := regS_sound hc ops.toList T H L (show regS P call ops ops.toList T H L (fun T H L => k .normal T H L) = some r from h)
      exact ⟨.normal, T', H', l, h1, { h2 with run := fun ro n hro W S ρ a w hs Q hQ => wpIn_region_list (h3 ro n hro W S ρ a w hs Q hQ) }⟩
  | seq x y ihx ihy =>
    intro hlo T H L k r h
    replace ihx := ihx ⟨fun b hb => hlo.lo b (List.mem_append_left _ hb), fun b hb => hlo.ra b (List.mem_append_left _ hb)⟩
    replace ihy := ihy ⟨fun b hb => hlo.lo b (List.mem_append_right _ hb), fun b hb => hlo.ra b (List.mem_append_right _ hb)⟩
    obtain ⟨ex, T1, H1, l1, h1, c1⟩ := ihx T H L _ r (show codeA P call fuel lvs x T H L (fun ex T H L => match ex with
      | .normal => codeA P call fuel lvs y T H L k
      | e => k e T H L) = some r from h)
    cases ex with
    | normal =>
      obtain ⟨ex, T2, H2, l2, h2, c2⟩ := ihy T1 H1 (l1 ++ L) k r h1
      refine ⟨ex, T2, H2, l2 ++ l1, by rw [List.append_assoc]; exact h2, { c1.toShape.trans c2.toShape with run := fun ro n hro W S ρ a w hs Q hQ => wpIn_seq ?_ }⟩
      have hro' := flat_and hro
      refine c1.run ro n hro'.1 W S ρ a w hs _ fun ρ1 a1 w1 e1 => ?_
      exact c2.run ro n hro'.2 W _ ρ1 a1 w1 (En.st hs c1.toShape e1) Q fun ρ2 a2 w2 e2 => hQ ρ2 a2 w2 (En.trans c1.gr c2.gr e1 e2)
    | exit id => exact ⟨.exit id, T1, H1, l1, h1, { c1.toShape with run := fun ro n hro W S ρ a w hs Q hQ => wpIn_seq (c1.run ro n (flat_and hro).1 W S ρ a w hs _ fun ρ1 a1 w1 e1 => hQ ρ1 a1 w1 e1) }⟩
    | ret => exact ⟨.ret, T1, H1, l1, h1, { c1.toShape with run := fun ro n hro W S ρ a w hs Q hQ => wpIn_seq (c1.run ro n (flat_and hro).1 W S ρ a w hs _ fun ρ1 a1 w1 e1 => hQ ρ1 a1 w1 e1) }⟩
  | cond c x y ihx ihy =>
    intro hlo T H L k r h
    replace ihx := ihx ⟨fun b hb => hlo.lo b (List.mem_append_left _ hb), fun b hb => hlo.ra b (List.mem_append_left _ hb)⟩
    replace ihy := ihy ⟨fun b hb => hlo.lo b (List.mem_append_right _ hb), fun b hb => hlo.ra b (List.mem_append_right _ hb)⟩
    simp only [codeA] at h
    split at h
    · rename_i β hβ
      cases β with
      | true =>
        rw [cond_true, know_self hβ] at h
        obtain ⟨ex, T1, H1, l1, h1, c1⟩ := ihx T H L k r h
        exact ⟨ex, T1, H1, l1, h1, { c1.toShape with run := fun ro n hro W S ρ a w hs Q hQ => wpIn_cond_true (ev_den hβ hs.tr) (c1.run ro n (flat_and hro).1 W S ρ a w hs Q hQ) }⟩
      | false =>
        rw [cond_false, know_self hβ] at h
        obtain ⟨ex, T1, H1, l1, h1, c1⟩ := ihy T H L k r h
        exact ⟨ex, T1, H1, l1, h1, { c1.toShape with run := fun ro n hro W S ρ a w hs Q hQ => wpIn_cond_false (ev_den hβ hs.tr) (c1.run ro n (flat_and hro).2 W S ρ a w hs Q hQ) }⟩
    · cases h
  | block id b ih =>
    intro hlo T H L k r h
    replace ih := ih ⟨hlo.lo, hlo.ra⟩
    obtain ⟨ex, T1, H1, l1, h1, c1⟩ := ih T H L _ r (show codeA P call fuel lvs b T H L (fun ex T H L => match ex with
      | .exit i => cond (i == id) (k .normal T H L) (k (.exit i) T H L)
      | e => k e T H L) = some r from h)
    cases ex with
    | normal => exact ⟨.normal, T1, H1, l1, h1, { c1.toShape with run := fun ro n hro W S ρ a w hs Q hQ => wpIn_block (c1.run ro n hro W S ρ a w hs _ fun ρ1 a1 w1 e1 => hQ ρ1 a1 w1 e1) }⟩
    | ret => exact ⟨.ret, T1, H1, l1, h1, { c1.toShape with run := fun ro n hro W S ρ a w hs Q hQ => wpIn_block (c1.run ro n hro W S ρ a w hs _ fun ρ1 a1 w1 e1 => hQ ρ1 a1 w1 e1) }⟩
    | exit i =>
      simp only at h1
      cases hi : (i == id) with
      | true =>
        rw [hi, cond_true] at h1
        have hi' : i = id := by simpa using hi
        exact ⟨.normal, T1, H1, l1, h1, { c1.toShape with run := fun ro n hro W S ρ a w hs Q hQ => wpIn_block (c1.run ro n hro W S ρ a w hs _ fun ρ1 a1 w1 e1 => by
          show Exit.inBlock id Q (.exit i) a1 w1
          simp only [Exit.inBlock, hi', if_true]
          exact hQ ρ1 a1 w1 e1) }⟩
      | false =>
        rw [hi, cond_false] at h1
        have hi' : ¬ i = id := by simpa using hi
        exact ⟨.exit i, T1, H1, l1, h1, { c1.toShape with run := fun ro n hro W S ρ a w hs Q hQ => wpIn_block (c1.run ro n hro W S ρ a w hs _ fun ρ1 a1 w1 e1 => by
          show Exit.inBlock id Q (.exit i) a1 w1
          simp only [Exit.inBlock, hi', if_false]
          exact hQ ρ1 a1 w1 e1) }⟩
  | loop b ih =>
    intro hlo T H L k r h
    replace ih := ih ⟨fun b' hb => hlo.lo b' (List.mem_cons_of_mem _ hb), hlo.ra⟩
    simp only [codeA] at h
    split at h
    · -- with a head
      rename_i v hv
      obtain ⟨srow, erow⟩ := rowsA_spec v.rows T H
      obtain ⟨Te, hTe⟩ : ∃ Te, Te = (rowsA v.rows T H).1 := ⟨_, rfl⟩
      obtain ⟨He, hHe⟩ : ∃ He, He = (rowsA v.rows T H).2 := ⟨_, rfl⟩
      rw [← hTe, ← hHe] at h srow erow
      split at h
      case h_2 => cases h
      rename_i h0 hh0
      cases hck : h0.all fun b => Nat.blt b He.length
      · rw [hck] at h; cases h
      rw [hck, cond_true] at h
      have hc0 : ∀ b cs, blk He b = some (.cells cs) → ∀ x ∈ cs, ∀ i ∈ idsC x, i < He.length := by
        intro b cs hb x hx i hi
        obtain ⟨m, h1, h2⟩ := idsH_spec hh0 _ (blk_mem hb)
        simp only [idsB, Option.some.injEq] at h1
        subst h1
        have := List.all_eq_true.1 hck i (h2 i (List.mem_flatMap.2 ⟨x, hx, hi⟩))
        simpa [Nat.blt_eq] using this
      have key : ∀ (n : Nat) (T1 : List V) (H1 : Heap) (l1 L : List Foot), Shape Te He T1 H1 l1 → loopA He.length v.lv v.out (codeA P call fuel lvs b) n T1 H1 (l1 ++ L) k = some r →
          ∃ ex T' H' l, k ex T' H' (l ++ L) = some r ∧ Shape Te He T' H' l ∧ ∀ (ro : Option Nat) (m : Nat), (ro = none ∨ plainC b = true) → ∀ (W : World) (S : Nat → Prop) (ρ0 ρ1 : Ren) (a0 a : Act) (w0 w : World), St W S ρ0 Te He a0 w0 → En W ρ0 ρ1 T1 He H1 a0 a w0 w → ∀ Q : Exit → Act → World → Prop, (∀ ρ' a' w', En W ρ0 ρ' T' He H' a0 a' w0 w' → Q ex.den a' w') → Code.roundsIn (fen ro) m P b Q n a w := by
        intro n
        induction n with
        | zero => intro T1 H1 l1 L s1 h; cases h
        | succ n ihn =>
          intro T1 H1 l1 L s1 h
          obtain ⟨ex, T2, H2, l2, h2, c2⟩ := ih T1 H1 (l1 ++ L) _ r (show codeA P call fuel lvs b T1 H1 (l1 ++ L) (fun ex T H L => match ex with
            | .normal => normA He.length v.lv T H fun T H => loopA He.length v.lv v.out (codeA P call fuel lvs b) n T H L k
            | e => normA He.length v.out T H fun T H => k e T H L) = some r from h)
          rw [← List.append_assoc] at h2
          have s2 := s1.trans c2.toShape
          have step : ∀ (ro : Option Nat) (m : Nat), (ro = none ∨ plainC b = true) → ∀ (W : World) (S : Nat → Prop) (ρ0 ρ1 : Ren) (a0 a : Act) (w0 w : World), St W S ρ0 Te He a0 w0 → En W ρ0 ρ1 T1 He H1 a0 a w0 w → ∀ Q : Exit → Act → World → Prop, (∀ ρ' a' w', En W ρ0 ρ' T2 He H2 a0 a' w0 w' → Q ex.den a' w') → b.wpIn (fen ro) m P Q a w := by
            intro ro m hro W S ρ0 ρ1 a0 a w0 w hs e1 Q hQ
            exact c2.run ro m hro W _ ρ1 a w (En.st hs s1 e1) Q fun ρ2 a2 w2 e2 => hQ ρ2 a2 w2 (En.trans s1.gr c2.gr e1 e2)
          cases ex with
          | normal =>
            obtain ⟨ids, T3, H3, h3, hn⟩ := normA_spec h2
            have s3 := hn.shape rfl hc0 s2
            obtain ⟨ex, T', H', l, g1, g2, g3⟩ := ihn T3 H3 (l2 ++ l1) L s3 h3
            refine ⟨ex, T', H', l, g1, g2, fun ro m hro W S ρ0 ρ1 a0 a w0 w hs e1 Q hQ => ?_⟩
            rw [roundsIn_succ]
            refine step ro m hro W S ρ0 ρ1 a0 a w0 w hs e1 _ fun ρ2 a2 w2 e2 => ?_
            exact g3 ro m hro W S ρ0 _ a0 a2 w0 w2 hs (hn.en rfl s2 hs e2) Q hQ
          | exit id =>
            obtain ⟨ids, T3, H3, h3, hn⟩ := normA_spec h2
            exact ⟨.exit id, T3, H3, l2 ++ l1, h3, hn.shape rfl hc0 s2, fun ro m hro W S ρ0 ρ1 a0 a w0 w hs e1 Q hQ => by rw [roundsIn_succ]; exact step ro m hro W S ρ0 ρ1 a0 a w0 w hs e1 _ fun ρ2 a2 w2 e2 => hQ _ a2 w2 (hn.en rfl s2 hs e2)⟩
          | ret =>
            obtain ⟨ids, T3, H3, h3, hn⟩ := normA_spec h2
            exact ⟨.ret, T3, H3, l2 ++ l1, h3, hn.shape rfl hc0 s2, fun ro m hro W S ρ0 ρ1 a0 a w0 w hs e1 Q hQ => by rw [roundsIn_succ]; exact step ro m hro W S ρ0 ρ1 a0 a w0 w hs e1 _ fun ρ2 a2 w2 e2 => hQ _ a2 w2 (hn.en rfl s2 hs e2)⟩
      obtain ⟨ids, T3, H3, h3, hn⟩ := normA_spec h
      have s3 := hn.shape rfl hc0 (Shape.refl Te He)
      have fin : ∀ (W : World) (S : Nat → Prop) (ρ : Ren) (a : Act) (w : World), St W S ρ T H a w → St W (ext S H He) ρ Te He a w ∧ En W ρ (ren2 He.length ids ρ) T3 He H3 a a w w := by
        intro W S ρ a w hs
        have st0 := En.st hs srow (erow W S ρ a w hs)
        exact ⟨st0, hn.en rfl (Shape.refl Te He) st0 ⟨.same rfl, st0.tr, st0.hr, Fr.refl He ρ w⟩⟩
      split at h3
      · obtain ⟨ex, T', H', l, g1, g2, g3⟩ := key fuel T3 H3 [] L s3 h3
        have sh : Shape T H T' H' l := by have := srow.trans g2; simpa using this
        refine ⟨ex, T', H', l, g1, { sh with run := fun ro m hro W S ρ a w hs Q hQ => wpIn_loop_rounds fuel ?_ }⟩
        obtain ⟨st0, en0⟩ := fin W S ρ a w hs
        refine g3 ro m hro W _ ρ _ a a w w st0 en0 Q fun ρ' a' w' e => hQ ρ' a' w' ?_
        exact En.trans srow.gr g2.gr (erow W S ρ a w hs) e
      · rename_i g hg
        obtain ⟨i, hk, hv⟩ := Option.bind_eq_some_iff.1 hv
        obtain ⟨ex, T', H', l, g1, g2⟩ := ltree_run h3
        have ct := hlo.lo b (List.mem_cons_self ..) i v g hk hv hg T3 H3 ex T' H' l g1
        have s4 := s3.trans ct.toShape
        have sh : Shape T H T' H' l := by have := srow.trans s4; simpa using this
        refine ⟨ex, T', H', l, g2, { sh with run := fun ro m hro W S ρ a w hs Q hQ => ?_ }⟩
        obtain ⟨st0, en0⟩ := fin W S ρ a w hs
        refine ct.run ro m hro W _ _ a w (En.st st0 s3 en0) Q fun ρ' a' w' e => hQ ρ' a' w' ?_
        have e2 := En.trans s3.gr ct.gr en0 e
        exact En.trans srow.gr s4.gr (erow W S ρ a w hs) e2
    · have key : ∀ (n : Nat) (T : List V) (H : Heap) (L : List Foot), loopP (codeA P call fuel lvs b) n T H L k = some r → ∃ ex T' H' l, k ex T' H' (l ++ L) = some r ∧ Shape T H T' H' l ∧ ∀ (ro : Option Nat) (m : Nat), (ro = none ∨ plainC b = true) → ∀ (W : World) (S : Nat → Prop) (ρ : Ren) (a : Act) (w : World), St W S ρ T H a w → ∀ Q : Exit → Act → World → Prop, (∀ ρ' a' w', En W ρ ρ' T' H H' a a' w w' → Q ex.den a' w') → Code.roundsIn (fen ro) m P b Q n a w := by
        intro n
        induction n with
        | zero => intro T H L h; cases h
        | succ n ihn =>
          intro T H L h
          obtain ⟨ex, T1, H1, l1, h1, c1⟩ := ih T H L _ r (show codeA P call fuel lvs b T H L (fun ex T H L => match ex with
            | .normal => loopP (codeA P call fuel lvs b) n T H L k
            | e => k e T H L) = some r from h)
          cases ex with
          | normal =>
            obtain ⟨ex, T2, H2, l2, h2, s2, r2⟩ := ihn T1 H1 (l1 ++ L) h1
            refine ⟨ex, T2, H2, l2 ++ l1, by rw [List.append_assoc]; exact h2, c1.toShape.trans s2, fun ro m hro W S ρ a w hs Q hQ => ?_⟩
            rw [roundsIn_succ]
            refine c1.run ro m hro W S ρ a w hs _ fun ρ1 a1 w1 e1 => ?_
            exact r2 ro m hro W _ ρ1 a1 w1 (En.st hs c1.toShape e1) Q fun ρ2 a2 w2 e2 => hQ ρ2 a2 w2 (En.trans c1.gr s2.gr e1 e2)
          | exit id => exact ⟨.exit id, T1, H1, l1, h1, c1.toShape, fun ro m hro W S ρ a w hs Q hQ => by rw [roundsIn_succ]; exact c1.run ro m hro W S ρ a w hs _ fun ρ1 a1 w1 e1 => hQ ρ1 a1 w1 e1⟩
          | ret => exact ⟨.ret, T1, H1, l1, h1, c1.toShape, fun ro m hro W S ρ a w hs Q hQ => by rw [roundsIn_succ]; exact c1.run ro m hro W S ρ a w hs _ fun ρ1 a1 w1 e1 => hQ ρ1 a1 w1 e1⟩
      obtain ⟨ex, T', H', l, h1, h2, h3⟩ := key fuel T H L h
      exact ⟨ex, T', H', l, h1, { h2 with run := fun ro m hro W S ρ a w hs Q hQ => wpIn_loop_rounds fuel (h3 ro m hro W S ρ a w hs Q hQ) }⟩
  | rangeFunc gg ps asg b iha ihb =>
    intro hlo T H L k r h
    simp only [codeA] at h
    split at h
    case h_2 => cases h
    rename_i v hv
    split at h
    case h_2 => cases h
    rename_i h0 hh0
    cases hck : h0.all fun b => Nat.blt b H.length
    · rw [hck] at h; cases h
    rw [hck, cond_true] at h
    have hc0 : ∀ b cs, blk H b = some (.cells cs) → ∀ x ∈ cs, ∀ i ∈ idsC x, i < H.length := by
      intro b cs hb x hx i hi
      obtain ⟨m, h1, h2⟩ := idsH_spec hh0 _ (blk_mem hb)
      simp only [idsB, Option.some.injEq] at h1
      subst h1
      have := List.all_eq_true.1 hck i (h2 i (List.mem_flatMap.2 ⟨x, hx, hi⟩))
      simpa [Nat.blt_eq] using this
    obtain ⟨ids, T3, H3, h3, hn⟩ := normA_spec h
    have s3 := hn.shape rfl hc0 (Shape.refl T H)
    split at h3
    case h_2 => cases h3
    rename_i g hg
    obtain ⟨i, hk, hv⟩ := Option.bind_eq_some_iff.1 hv
    obtain ⟨ex, T', H', l, g1, g2⟩ := ltree_run h3
    have ct := hlo.ra _ (List.mem_singleton.2 rfl) i v g hk hv hg T3 H3 ex T' H' l g1
    have sh : Shape T H T' H' l := by have := s3.trans ct.toShape; simpa using this
    refine ⟨ex, T', H', l, g2, { sh with run := fun ro m hro W S ρ a w hs Q hQ => ?_ }⟩
    have en0 : En W ρ (ren2 H.length ids ρ) T3 H H3 a a w w := hn.en rfl (Shape.refl T H) hs ⟨.same rfl, hs.tr, hs.hr, Fr.refl H ρ w⟩
    exact ct.run ro m hro W _ _ a w (En.st hs s3 en0) Q fun ρ' a' w' e => hQ ρ' a' w' (En.trans s3.gr ct.gr en0 e)
  | scope b ih =>
    intro hlo T H L k r h
    obtain ⟨ex, T1, H1, l1, h1, c1⟩ := ih ⟨hlo.lo, hlo.ra⟩ T H L k r h
    refine ⟨ex, T1, H1, l1, h1, { c1.toShape with run := fun ro n hro W S ρ a w hs Q hQ => ?_ }⟩
    rcases hro with rfl | hro
    case inr => cases hro
    refine wpIn_wide.2 (wp_scope_straight (wpIn_wide.1 (c1.run none n (.inl rfl) W S ρ a w hs _ fun ρ1 a1 w1 e1 => ?_)))
    have := hQ ρ1 a1 w1 e1
    cases ex <;> exact this
  | goto => intro hlo T H L k r h; cases h
  | refuse => intro hlo T H L k r h; cases h
/-! Results. -/
theorem resA_spec {α : Type} {P : Program} {T : List V} {H : Heap} {r : α} : ∀ (rs : List ResultVar) (k : List U → Option α), resA P T H rs k = some r →
    ∃ xs, k xs = some r ∧ (∀ W S, ScT W S T → ScH W S H → ∀ x ∈ xs, x.sc W S) ∧ ∀ W S ρ a w, ScT W S T → TR ρ T a → HR ρ W H w → (rs.mapM fun (r : ResultVar) => (match r with
      | .tmp t => pure (a.tmps.getD t undef)
      | .cell p t => do loadVar t (← asAddr (a.tmps.getD p undef)) : Sem Value)).run P w = .ok (xs.map (U.den ρ)) w
  | [], k, h => ⟨[], h, (fun W S _ _ x hx => by cases hx), (fun W S ρ a w _ _ _ => rfl)⟩
  | .tmp t :: r, k, h => by
    simp only [resA] at h
    split at h
    · rename_i x hx
      obtain ⟨xs, hk, g1, g2⟩ := resA_spec r _ h
      have hx' := hx
      rw [nth_eq] at hx
      refine ⟨x :: xs, hk, fun W S hT hH z hz => ?_, fun W S ρ a w hT ht hr => ?_⟩
      · rcases List.mem_cons.1 hz with rfl | hz
        · exact hT _ (List.mem_of_getElem? hx)
        · exact g1 W S hT hH z hz
      · have e : a.tmps[t]? = some (x.den ρ) := ht.val t _ hx' (fun e => by cases e)
        have e' : a.tmps.getD t undef = x.den ρ := by simp [e]
        rw [List.mapM_cons]
        simp only [Sem.run_bind, Sem.run_pure, Result.andThen_ok, g2 W S ρ a w hT ht hr, e', List.map_cons]
    · cases h
  | .cell p t :: r, k, h => by
    simp only [resA] at h
    split at h
    · rename_i q hx
      obtain ⟨x, fs, hl, h⟩ := loadA_spec h
      obtain ⟨xs, hk, g1, g2⟩ := resA_spec r _ h
      have hx' := hx
      rw [nth_eq] at hx
      have hq : ∀ W S, ScT W S T → C.sc W S q := fun W S hT => hT _ (List.mem_of_getElem? hx)
      refine ⟨x :: xs, hk, fun W S hT hH z hz => ?_, fun W S ρ a w hT ht hr => ?_⟩
      · rcases List.mem_cons.1 hz with rfl | hz
        · exact loadP_sc hl hH (hq W S hT)
        · exact g1 W S hT hH z hz
      · obtain ⟨ad, h1, h2⟩ := loadP_run hl hr (hq W S hT)
        have e : a.tmps[p]? = some (.pointer (some ad)) := by rw [ht.val p _ hx' (fun e => by cases e)]; simp only [V.den, U.den, h1]
        have e' : a.tmps.getD p undef = .pointer (some ad) := by simp [e]
        have hcell : (do loadVar t (← asAddr (a.tmps.getD p undef)) : Sem Value).run P w = .ok (x.den ρ) w := by
          rw [e']; simp only [asAddr, Sem.run_bind, Sem.run_pure, Result.andThen_ok]; exact h2
        rw [List.mapM_cons, Sem.run_bind]
        refine (congrArg (fun r => Result.andThen r _) hcell).trans ?_
        simp only [Result.andThen_ok, Sem.run_bind, g2 W S ρ a w hT ht hr, Sem.run_pure, List.map_cons]
    · cases h
theorem results_run {P : Program} {fn : Func} {xs : List U} {ρ : Ren} {a : Act} {w : World} (hm : (fn.results.toList.mapM fun (r : ResultVar) => (match r with
      | .tmp t => pure (a.tmps.getD t undef)
      | .cell p t => do loadVar t (← asAddr (a.tmps.getD p undef)) : Sem Value)).run P w = .ok (xs.map (U.den ρ)) w) : (results fn a.tmps).run P w = .ok ((resV xs).den ρ) w := by
  unfold results
  rw [Array.mapM_eq_mapM_toList]
  rw [Sem.run_bind]
  have e : ((List.toArray <$> (fn.results.toList.mapM fun (r : ResultVar) => (match r with
      | .tmp t => pure (a.tmps.getD t undef)
      | .cell p t => do loadVar t (← asAddr (a.tmps.getD p undef)) : Sem Value)) : Sem (Array Value))).run P w = .ok (xs.map (U.den ρ)).toArray w := by
    show Sem.run P ((fn.results.toList.mapM _) >>= fun x => pure x.toArray) w = _
    rw [Sem.run_bind, hm]
    rfl
  refine (congrArg (fun r => Result.andThen r _) e).trans ?_
  simp only [Result.andThen_ok]
  cases xs with
  | nil => rfl
  | cons x r =>
    cases r with
    | nil => rfl
    | cons y r => simp [resV, V.den]
theorem resV_some (xs : List U) : resV xs ≠ .any := by
  cases xs with
  | nil => exact fun e => by cases e
  | cons x r => cases r <;> exact fun e => by cases e
theorem resV_sc {W : World} {S : Nat → Prop} {xs : List U} (h : ∀ x ∈ xs, x.sc W S) : (resV xs).sc W S := by
  cases xs with
  | nil => exact fun x hx => by cases hx
  | cons x r =>
    cases r with
    | nil => exact h x (List.mem_cons_self ..)
    | cons y r => exact h
theorem undefs_den (ρ : Ren) : ∀ n, (undefs n).map (V.den ρ) = List.replicate n undef
  | 0 => rfl
  | n + 1 => by rw [undefs, List.map_cons, undefs_den ρ n, List.replicate_succ]; rfl
theorem undefs_sc (W : World) (S : Nat → Prop) : ∀ n, ∀ v ∈ undefs n, v.sc W S
  | 0, v, hv => by cases hv
  | n + 1, v, hv => by
    rcases List.mem_cons.1 hv with rfl | hv
    · exact undefV_sc W S
    · exact undefs_sc W S n v hv
/-- Marks shut, one by one: what else lies there lies there still. -/
structure Shut (Ds : List Nat) (w w' : World) : Prop where
  os : w'.os = w.os
  tape : w'.tape = w.tape
  output : w'.output = w.output
  size : w.heap.size ≤ w'.heap.size
  block : ∀ k, k < w.heap.size → k ∉ Ds → w'.heap[k]? = w.heap[k]?
theorem leaves_marks {P : Program} {fn : Func} {tmps : Array Value} {R : Ending → World → Prop} : ∀ (Ds : List Nat) (w : World), Ds.Nodup → (∀ D ∈ Ds, w.heap[D]? = some (.deferred (some []))) → (∀ w', Shut Ds w w' → ∃ v, (results fn tmps).run P w' = .ok v w' ∧ R (.returned v) w') → LeavesInM Fence.wide 0 P fn tmps R (Ds.map coll) .returning w
  | [], w, _, _, h => h w ⟨rfl, rfl, rfl, Nat.le_refl _, fun _ _ _ => rfl⟩
  | D :: Ds, w, hn, hd, h => by
    have hg := grownBy_putObj' w D (.deferred none)
    have hn' := List.nodup_cons.1 hn
    refine ⟨(fun e => by cases e), .inl ⟨D, _, rfl, run_takeDeferred (hd D (List.mem_cons_self ..)), ?_⟩⟩
    have hD : D < w.heap.size := (Array.getElem?_eq_some_iff.1 (hd D (List.mem_cons_self ..))).1
    refine leaves_marks Ds _ hn'.2 (fun D' hD' => ?_) fun w' hs => ?_
    · have h1 := hd D' (List.mem_cons_of_mem _ hD')
      rw [hg.block D' (Array.getElem?_eq_some_iff.1 h1).1 (fun e => by cases e; exact hn'.1 hD')]
      exact h1
    · refine h w' ⟨hs.os.trans hg.os, hs.tape.trans hg.tape, hs.output.trans hg.output, Nat.le_trans hg.size hs.size, fun k hk hnot => ?_⟩
      rw [hs.block k (Nat.lt_of_lt_of_le hk hg.size) (fun hm => hnot (List.mem_cons_of_mem _ hm))]
      exact hg.block k hk (fun e => by cases e; exact hnot (List.mem_cons_self ..))
theorem runF_sound {α : Type} {P : Program} (hm : P.follows .mixedOrders = true) {call : CallT α} (hc : CallOk P call) {fuel : Nat} {lvs : List (Nat × LV)} {f : FuncId} {fn : Func} (hf : P.funcs[f]? = some fn) (hlo : ∀ c, fn.body = some c → LoopsOk P c lvs) (hen : ∀ args w, (callFunc f args).run P w = .ok (.enter f args) w) {args : List V} {H : Heap} {k : V → Heap → List Foot → Option α} {r : α} (h : runF P call fuel lvs fn args H k = some r) :
    ∃ v H' l, k v H' l = some r ∧ RunsTo P f args H v H' l := by
  unfold runF at h
  split at h
  · cases h
  rename_i c hb
  obtain ⟨ex, T', H', l, h1, ct⟩ := codeA_sound hm hc fuel lvs c (hlo c hb) _ _ _ _ r h
  have fin : ex ≠ .normal → ex ≠ .ret → False := by
    intro e1 e2
    cases ex with
    | normal => exact e1 rfl
    | ret => exact e2 rfl
    | exit id => simp at h1
  have h2 : resA P T' H' fn.results.toList (fun xs => k (resV xs) H' (l ++ [])) = some r := by
    cases ex with
    | normal => exact h1
    | ret => exact h1
    | exit id => simp at h1
  obtain ⟨xs, hk, gsc, grun⟩ := resA_spec _ _ h2
  rw [List.append_nil] at hk
  have hscT : ∀ (W : World) (S : Nat → Prop), (∀ x ∈ args, x.sc W S) → ScT W S (args ++ undefs (fn.ntmps - args.length)) := fun W S ha v hv => by
    rcases List.mem_append.1 hv with hv | hv
    · exact ha v hv
    · exact undefs_sc W S _ v hv
  refine ⟨resV xs, H', l, hk, ct.gr, fun W S ha hH hlt => ?_, hen, resV_some xs, fun W S ρ w ha hH hlt hr => ?_⟩
  · obtain ⟨g1, g2⟩ := ct.sc W S (hscT W S ha) hH hlt
    exact ⟨resV_sc (gsc W _ g1 g2), g2⟩
  · refine callsIn_wide.1 (callsIn_of_wp_marks (F := Fence.wide) (n := 0) hf hb trivial ?_)
    have hst : St W S ρ (args ++ undefs (fn.ntmps - args.length)) H { tmps := (args.map (V.den ρ)).toArray ++ Array.replicate (fn.ntmps - (args.map (V.den ρ)).toArray.size) undef, defers := [] } w := by
      refine ⟨?_, hr, hscT W S ha, hH, hlt⟩
      have e : ((args.map (V.den ρ)).toArray ++ Array.replicate (fn.ntmps - (args.map (V.den ρ)).toArray.size) undef) = ((args ++ undefs (fn.ntmps - args.length)).map (V.den ρ)).toArray := by
        rw [List.map_append, undefs_den]
        apply Array.ext'
        simp
      refine ⟨by simp only [e]; simp, fun t v hv _ => ?_⟩
      simp only [e]
      rw [nth_eq] at hv
      simp only [List.getElem?_toArray, List.getElem?_map, hv, Option.map_some]
    refine ct.run none 0 (.inl rfl) W S ρ _ w hst _ fun ρ' a' w' en => ?_
    obtain ⟨ds, e1, Ds, rfl, nd, lv⟩ := en.dl
    rw [List.append_nil] at e1
    have hout : LeavesInM Fence.wide 0 P fn a'.tmps (fun e w' => ∃ ρ', e = .returned ((resV xs).den ρ') ∧ HR ρ' W H' w' ∧ Fr H ρ H' ρ' w w') a'.defers .returning w' := by
      rw [e1]
      refine leaves_marks Ds w' nd (fun D hD => (lv D hD).2) fun w2 hs => ?_
      have hbl : ∀ b B, blk H' b = some B → B.used → w2.heap[(ρ' b).r]? = w'.heap[(ρ' b).r]? := fun b B hB hu => hs.block _ ((en.hr.real b B hB).lt hu).2 (fun hm => real_mark (en.hr.real b B hB) hu (lv _ hm).2)
      have hr2 : HR ρ' W H' w2 := ⟨fun r hr1 => by
          rw [hs.block r (Nat.lt_of_lt_of_le hr1 en.hr.big) (fun hm => by have := (lv _ hm).1; have := hr.big; omega)]
          exact en.hr.low r hr1, Nat.le_trans en.hr.big hs.size, fun b B hB => (en.hr.real b B hB).keep ((ct.sc W S (hscT W S ha) hH hlt).2 b B hB) (fun _ _ => rfl) rfl (hbl b B hB), en.hr.inj⟩
      have hres := results_run (fn := fn) (grun W _ ρ' a' w2 (ct.sc W S (hscT W S ha) hH hlt).1 en.tr hr2)
      refine ⟨_, hres, ρ', rfl, hr2, hs.os.trans en.fr.os, hs.tape.trans en.fr.tape, hs.output.trans en.fr.output, Nat.le_trans en.fr.size hs.size, fun r hr1 hr3 => ?_, en.fr.fresh, en.fr.ren⟩
      rw [hs.block r (Nat.lt_of_lt_of_le hr1 en.fr.size) (fun hm => by have := (lv _ hm).1; omega)]
      exact en.fr.keep r hr1 hr3
    cases ex with
    | normal => exact hout
    | ret => exact hout
    | exit id => exact (fin (fun e => by cases e) (fun e => by cases e)).elim
/-! The calls' table. -/
theorem C.sc_ids {W : World} {S S' : Nat → Prop} {x : C} (h : x.sc W S) (hi : idsC x = []) : x.sc W S' := by
  cases x with
  | ptr b o => simp [idsC] at hi
  | rp b sz i o => simp [idsC] at hi
  | row b sz st n nl => simp [idsC] at hi
  | fn f p q =>
    simp only [idsC, List.append_eq_nil_iff, List.map_eq_nil_iff] at hi
    rw [hi.1, hi.2]
    exact ⟨(fun p hp => by cases hp), (fun p hp => by cases hp)⟩
  | _ => exact h
theorem U.sc_ids {W : World} {S S' : Nat → Prop} {x : U} (h : x.sc W S) (hi : idsU x = []) : x.sc W S' := by
  cases x with
  | c y => exact C.sc_ids h hi
  | a ys => exact fun y hy => C.sc_ids (h y hy) (List.flatMap_eq_nil_iff.1 hi y hy)
theorem V.sc_ids {W : World} {S S' : Nat → Prop} {x : V} (h : x.sc W S) (hi : idsV x = []) : x.sc W S' := by
  cases x with
  | u y => exact U.sc_ids h hi
  | t ys => exact fun y hy => U.sc_ids (h y hy) (List.flatMap_eq_nil_iff.1 hi y hy)
  | any => exact trivial
theorem add_block (a : Addr) (n : Nat) : (a.add n).block = a.block := by
  unfold Addr.add
  split <;> rfl
theorem AOk.mono {W w : World} (hlow : ∀ r, r < W.heap.size → w.heap[r]? = W.heap[r]?) (hbig : W.heap.size ≤ w.heap.size) {x : C} (h : AOk W x) : AOk w x := by
  have hcell : ∀ a : Addr, a.block < W.heap.size → w.cell? a = W.cell? a := fun a ha => by unfold World.cell?; rw [hlow _ ha]
  induction h with
  | bool b => exact .bool b
  | int k n => exact .int k n
  | str s => exact .str s
  | nilp => exact .nilp
  | nilf => exact .nilf
  | nils => exact .nils
  | yld l => exact .yld l
  | fn f => exact .fn f
  | «as» ad sz n cap get hl hn hcap hok hc ih =>
    refine .as ad sz n cap get hl hn hcap ih fun i j x a hi hx ha => ?_
    obtain ⟨h1, h2⟩ := hc i j x a hi hx ha
    refine ⟨by omega, ?_⟩
    rw [hcell _ (by rw [add_block]; exact h1)]
    exact h2
  | ap ad cs hok hc ih =>
    refine .ap ad cs ih fun j x hx => ?_
    obtain ⟨h1, h2⟩ := hc j x hx
    refine ⟨by omega, ?_⟩
    rw [hcell _ (by rw [add_block]; exact h1)]
    exact h2
theorem C.sc_world {W w : World} (hlow : ∀ r, r < W.heap.size → w.heap[r]? = W.heap[r]?) (hbig : W.heap.size ≤ w.heap.size) {S : Nat → Prop} {x : C} (h : x.sc W S) : x.sc w S := by
  cases x <;> simp only [C.sc] at h ⊢ <;> first | exact h | exact AOk.mono hlow hbig h
theorem renU_id {f : Nat → Nat} {x : U} (h : idsU x = []) : renU f x = x := by
  cases x with
  | c y => simp only [renU]; rw [renC_id fun i hi => by rw [show idsC y = [] from h] at hi; cases hi]
  | a ys =>
    simp only [renU]
    congr 1
    conv => rhs; rw [← List.map_id ys]
    exact List.map_congr_left fun y hy => renC_id fun i hi => by rw [List.flatMap_eq_nil_iff.1 h y hy] at hi; cases hi
theorem renV_id {f : Nat → Nat} {x : V} (h : idsV x = []) : renV f x = x := by
  cases x with
  | u y => simp only [renV]; rw [renU_id h]
  | t ys =>
    simp only [renV]
    congr 1
    conv => rhs; rw [← List.map_id ys]
    exact List.map_congr_left fun y hy => renU_id (List.flatMap_eq_nil_iff.1 h y hy)
  | any => rfl
theorem none?_eq {α : Type} {l : List α} (h : none? l = true) : l = [] := by
  cases l with
  | nil => rfl
  | cons => cases h
/-! What a told function sees. -/
def SeenC (H : Heap) (x y : C) : Prop := ∀ (W : World) (S : Nat → Prop) (ρ : Ren) (w : World), x.sc W S → ScH W S H → HR ρ W H w → ∃ x', bareC x' = y ∧ idsC x' = [] ∧ (∀ ρ', x'.den ρ' = x.den ρ) ∧ x'.sc w (fun _ => False)
theorem viewC_spec {α : Type} {H : Heap} {x : C} {k : C → Option α} {r : α} (h : viewC H x k = some r) : ∃ y, k y = some r ∧ SeenC H x y := by
  have plain : ∀ x : C, idsC x = [] → (∀ ρ ρ', x.den ρ' = x.den ρ) → SeenC H x (bareC x) := fun x hi hd W S ρ w hs hS hr => ⟨x, rfl, hi, fun ρ' => hd ρ ρ', C.sc_ids (C.sc_world hr.low hr.big hs) hi⟩
  unfold viewC at h
  split at h
  · rename_i b sz st n nl
    split at h
    · rename_i e sz' n' get fl hb
      cases hc : (Nat.beq sz sz' && fl)
      · rw [hc] at h; cases h
      rw [hc, cond_true] at h
      rw [Bool.and_eq_true] at hc
      obtain ⟨hz, hfl⟩ := hc
      have hz := Nat.eq_of_beq_eq_true hz
      subst hz
      subst hfl
      cases hd : decide (st + n ≤ n')
      · rw [hd] at h; cases h
      rw [hd, cond_true] at h
      have hle : st + n ≤ n' := of_decide_eq_true hd
      refine ⟨_, h, fun W S ρ w hs hS hr => ?_⟩
      have hbs := hS b _ hb
      have hreal := hr.real b _ hb
      refine ⟨.as (cond (nl && n == 0) none (some ⟨(ρ b).r, st * sz, none⟩)) sz n (cond (nl && n == 0) 0 ((ρ b).k - st)) fun i => get (st + i), rfl, rfl, fun ρ' => rfl, ?_⟩
      refine AOk.as _ _ _ _ _ (fun i hi => (hbs.1 (st + i) (by omega)).1) (fun hn => ?_) ?_ (fun i j x hi hx => ?_) (fun i j x a hi hx ha => ?_)
      · cases hc : (nl && n == 0)
        · rw [hc] at hn; cases hn
        · rw [Bool.and_eq_true] at hc; exact eq_of_beq hc.2
      · cases hc : (nl && n == 0)
        · rw [cond_false]
          rcases hreal with hn | ⟨_, h2, _⟩
          · have : n = 0 := by omega
            omega
          · omega
        · rw [Bool.and_eq_true] at hc
          rw [cond_true, eq_of_beq hc.2]
          exact Nat.le_refl _
      · have := hbs.2 rfl (st + i) (by omega) x (List.mem_of_getElem? hx)
        refine AOk.mono hr.low hr.big ?_
        cases x <;> simp only [C.sc] at this <;> first | exact this | exact this.elim | skip
        rename_i f p q
        have hp : p = [] := by
          cases p with
          | nil => rfl
          | cons a l => exact (this.1 a (List.mem_cons_self ..)).elim
        have hq : q = [] := by
          cases q with
          | nil => rfl
          | cons a l => exact (this.2 a (List.mem_cons_self ..)).elim
        subst hp
        subst hq
        exact .fn f
      · rcases hreal with hn | ⟨h1, h2, h3, h4, cur, h5, h6, h7⟩
        · omega
        · cases hc : (nl && n == 0)
          · rw [hc, cond_false] at ha
            cases ha
            refine ⟨(Array.getElem?_eq_some_iff.1 h5).1, ?_⟩
            have := h7 (st + i) j x (by omega) hx
            have hadd : Addr.add ⟨(ρ b).r, st * sz, none⟩ (i * sz + j) = ⟨(ρ b).r, (st + i) * sz + j, none⟩ := by
              rw [show (st + i) * sz + j = st * sz + (i * sz + j) by rw [Nat.add_mul]; omega]
              unfold Addr.add
              split
              · rename_i h0; rw [h0]; rfl
              · rfl
            rw [hadd]
            unfold World.cell?
            simp only [h5]
            simp only [Option.isSome, Bool.false_eq_true, if_false]
            rw [this, C.den_congr (W := W) (S := fun _ => False) (fun b hb => hb.elim) (hbs.2 rfl (st + i) (by omega) x (List.mem_of_getElem? hx))]
          · rw [hc, cond_true] at ha; cases ha
    · cases h
  · cases h
  · cases h
  · rename_i f p q
    cases hc : (none? p && none? q)
    · rw [hc] at h; cases h
    rw [hc, cond_true] at h
    rw [Bool.and_eq_true] at hc
    have hp := none?_eq hc.1
    have hq := none?_eq hc.2
    subst hp
    subst hq
    exact ⟨_, h, plain (.fn f [] []) rfl (fun _ _ => rfl)⟩
  · rename_i h1 h2 h3 h4
    refine ⟨_, h, ?_⟩
    cases x with
    | row b sz st n nl => exact absurd rfl (h1 _ _ _ _ _)
    | ptr b o => exact absurd rfl (h2 _ _)
    | rp b sz i o => exact absurd rfl (h3 _ _ _ _)
    | fn f p q => exact absurd rfl (h4 _ _ _)
    | _ => exact plain _ rfl (fun _ _ => rfl)
def SeenCs (H : Heap) (xs ys : List C) : Prop := ∀ (W : World) (S : Nat → Prop) (ρ : Ren) (w : World), (∀ x ∈ xs, x.sc W S) → ScH W S H → HR ρ W H w → ∃ xs' : List C, xs'.map bareC = ys ∧ (∀ x ∈ xs', idsC x = []) ∧ (∀ ρ', xs'.map (C.den ρ') = xs.map (C.den ρ)) ∧ ∀ x ∈ xs', x.sc w (fun _ => False)
theorem viewCs_spec {α : Type} {H : Heap} {r : α} : ∀ {xs : List C} {k : List C → Option α}, viewCs H xs k = some r → ∃ ys, k ys = some r ∧ SeenCs H xs ys
  | [], k, h => ⟨[], h, fun W S ρ w hs hS hr => ⟨[], rfl, (fun x hx => by cases hx), (fun ρ' => rfl), (fun x hx => by cases hx)⟩⟩
  | x :: xs, k, h => by
    simp only [viewCs] at h
    obtain ⟨y, h, s1⟩ := viewC_spec h
    obtain ⟨ys, h, s2⟩ := viewCs_spec h
    refine ⟨y :: ys, h, fun W S ρ w hs hS hr => ?_⟩
    obtain ⟨x', a1, a2, a3, a4⟩ := s1 W S ρ w (hs x (List.mem_cons_self ..)) hS hr
    obtain ⟨xs', b1, b2, b3, b4⟩ := s2 W S ρ w (fun z hz => hs z (List.mem_cons_of_mem _ hz)) hS hr
    refine ⟨x' :: xs', by rw [List.map_cons, a1, b1], fun z hz => ?_, fun ρ' => by rw [List.map_cons, List.map_cons, a3, b3], fun z hz => ?_⟩
    · rcases List.mem_cons.1 hz with rfl | hz
      · exact a2
      · exact b2 z hz
    · rcases List.mem_cons.1 hz with rfl | hz
      · exact a4
      · exact b4 z hz
def SeenU (H : Heap) (x y : U) : Prop := ∀ (W : World) (S : Nat → Prop) (ρ : Ren) (w : World), x.sc W S → ScH W S H → HR ρ W H w → ∃ x', bareU x' = y ∧ idsU x' = [] ∧ (∀ ρ', x'.den ρ' = x.den ρ) ∧ x'.sc w (fun _ => False)
theorem viewU_spec {α : Type} {H : Heap} {x : U} {k : U → Option α} {r : α} (h : viewU H x k = some r) : ∃ y, k y = some r ∧ SeenU H x y := by
  cases x with
  | c x =>
    obtain ⟨y, h, s⟩ := viewC_spec (show viewC H x (fun y => k (.c y)) = some r from h)
    refine ⟨_, h, fun W S ρ w hs hS hr => ?_⟩
    obtain ⟨x', a1, a2, a3, a4⟩ := s W S ρ w hs hS hr
    exact ⟨.c x', by rw [bareU, a1], a2, a3, a4⟩
  | a xs =>
    obtain ⟨ys, h, s⟩ := viewCs_spec (show viewCs H xs (fun ys => k (.a ys)) = some r from h)
    refine ⟨_, h, fun W S ρ w hs hS hr => ?_⟩
    obtain ⟨xs', a1, a2, a3, a4⟩ := s W S ρ w hs hS hr
    exact ⟨.a xs', by rw [bareU, a1], List.flatMap_eq_nil_iff.2 a2, fun ρ' => by simp only [U.den]; rw [a3], a4⟩
def SeenV (H : Heap) (x y : V) : Prop := ∀ (W : World) (S : Nat → Prop) (ρ : Ren) (w : World), x.sc W S → ScH W S H → HR ρ W H w → ∃ x', bareV x' = y ∧ idsV x' = [] ∧ x' ≠ .any ∧ (∀ ρ', x'.den ρ' = x.den ρ) ∧ x'.sc w (fun _ => False)
theorem viewV_spec {α : Type} {H : Heap} {x : V} {k : V → Option α} {r : α} (h : viewV H x k = some r) : ∃ y, k y = some r ∧ SeenV H x y := by
  cases x with
  | u x =>
    obtain ⟨y, h, s⟩ := viewU_spec (show viewU H x (fun y => k (.u y)) = some r from h)
    refine ⟨_, h, fun W S ρ w hs hS hr => ?_⟩
    obtain ⟨x', a1, a2, a3, a4⟩ := s W S ρ w hs hS hr
    exact ⟨.u x', by rw [bareV, a1], a2, (fun e => by cases e), a3, a4⟩
  | t xs => cases h
  | any => cases h
def SeenVs (H : Heap) (xs ys : List V) : Prop := ∀ (W : World) (S : Nat → Prop) (ρ : Ren) (w : World), (∀ x ∈ xs, x.sc W S) → ScH W S H → HR ρ W H w → ∃ xs' : List V, xs'.map bareV = ys ∧ (∀ x ∈ xs', idsV x = [] ∧ x ≠ .any) ∧ (∀ ρ', xs'.map (V.den ρ') = xs.map (V.den ρ)) ∧ ∀ x ∈ xs', x.sc w (fun _ => False)
theorem viewVs_spec {α : Type} {H : Heap} {r : α} : ∀ {xs : List V} {k : List V → Option α}, viewVs H xs k = some r → ∃ ys, k ys = some r ∧ SeenVs H xs ys
  | [], k, h => ⟨[], h, fun W S ρ w hs hS hr => ⟨[], rfl, (fun x hx => by cases hx), (fun ρ' => rfl), (fun x hx => by cases hx)⟩⟩
  | x :: xs, k, h => by
    simp only [viewVs] at h
    obtain ⟨y, h, s1⟩ := viewV_spec h
    obtain ⟨ys, h, s2⟩ := viewVs_spec h
    refine ⟨y :: ys, h, fun W S ρ w hs hS hr => ?_⟩
    obtain ⟨x', a1, a2, a2', a3, a4⟩ := s1 W S ρ w (hs x (List.mem_cons_self ..)) hS hr
    obtain ⟨xs', b1, b2, b3, b4⟩ := s2 W S ρ w (fun z hz => hs z (List.mem_cons_of_mem _ hz)) hS hr
    refine ⟨x' :: xs', by rw [List.map_cons, a1, b1], fun z hz => ?_, fun ρ' => by rw [List.map_cons, List.map_cons, a3, b3], fun z hz => ?_⟩
    · rcases List.mem_cons.1 hz with rfl | hz
      · exact ⟨a2, a2'⟩
      · exact b2 z hz
    · rcases List.mem_cons.1 hz with rfl | hz
      · exact a4
      · exact b4 z hz
theorem tree_run {α : Type} {H : Heap} {k : V → Heap → List Foot → Option α} {r : α} : ∀ {t : Tree}, t.run H k = some r → ∃ v Hn, t.val = some (v, Hn) ∧ k (renV (fun b => b + H.length) v) (H ++ Hn.map fun x => x.map (renS fun b => b + H.length)) [] = some r
  | .leaf v, h => by
    simp only [Tree.run] at h
    cases hc : none? (idsV v)
    · rw [hc] at h; cases h
    rw [hc, cond_true] at h
    refine ⟨v, [], rfl, ?_⟩
    rw [renV_id (none?_eq hc), List.map_nil, List.append_nil]
    exact h
  | .own v Hn, h => ⟨v, Hn, rfl, h⟩
  | .no, h => by cases h
  | .test b x y, h => by
    cases b with
    | true => exact tree_run (t := x) h
    | false => exact tree_run (t := y) h
/-- A function that is told by what it answers. -/
structure Told (P : Program) (f : FuncId) (g : List V → Tree) : Prop where
  isv : ∀ args v H, (g args).val = some (v, H) → v ≠ .any
  sc : ∀ args v H, (g args).val = some (v, H) → ∀ W, v.sc W (fun b => b < H.length) ∧ ScH W (fun b => b < H.length) H
  enter : ∀ args w, (callFunc f args).run P w = .ok (.enter f args) w
  run : ∀ args v H, (∀ x ∈ args, idsV x = [] ∧ x ≠ .any) → (g (args.map bareV)).val = some (v, H) → ∃ l, RunsTo P f args [] v H l
theorem blk_nil {b : Nat} : blk ([] : Heap) b = none := rfl
theorem gr_app (H X : Heap) : Gr H (H ++ X) [] := by
  have e : ∀ b, b < H.length → blk (H ++ X) b = blk H b := fun b hb => blk_ext (List.getElem?_append_left hb)
  refine ⟨by simp, fun b hb hn => by rw [e b hb]; exact hn, fun b B hb _ => by rw [e b (blk_lt hb)]; exact hb, fun b cs hb => ⟨cs, by rw [e b (blk_lt hb)]; exact hb, rfl, fun _ _ => rfl⟩, fun b B B' hb hb' hu => ?_, fun b B B' hb hb' => ?_⟩
  · rw [e b (blk_lt hb), hb] at hb'
    cases hb'
    exact hu
  · rw [e b (blk_lt hb), hb] at hb'
    cases hb'
    rfl
theorem renS_used {f : Nat → Nat} {B : Blk} : (renS f B).used ↔ B.used := by cases B <;> exact Iff.rfl
theorem renV_some {f : Nat → Nat} {v : V} (h : v ≠ .any) : renV f v ≠ .any := by
  cases v with
  | any => exact absurd rfl h
  | u x => exact fun e => by cases e
  | t xs => exact fun e => by cases e
theorem calls_world {P : Program} {f : FuncId} {args : List V} {H Hn : Heap} {v : V} {ys : List V} {l : List Foot} (hsn : SeenVs H args ys)
    (hsc : ∀ W, v.sc W (fun b => b < Hn.length) ∧ ScH W (fun b => b < Hn.length) Hn) (hen : ∀ args w, (callFunc f args).run P w = .ok (.enter f args) w) (hv : v ≠ .any)
    (hrun : ∀ args', args'.map bareV = ys → (∀ x ∈ args', idsV x = [] ∧ x ≠ .any) → ∃ l, RunsTo P f args' [] v Hn l) :
    RunsTo P f args H (renV (fun b => b + H.length) v) (H ++ Hn.map fun x => x.map (renS fun b => b + H.length)) [] := by
  obtain ⟨n, hn⟩ : ∃ n, n = H.length := ⟨_, rfl⟩
  obtain ⟨H', hH'⟩ : ∃ H', H' = H ++ Hn.map fun x => x.map (renS fun b => b + H.length) := ⟨_, rfl⟩
  rw [← hH', ← hn]
  rw [← hn] at hH'
  have hlen : H'.length = n + Hn.length := by rw [hH']; simp [hn]
  have hlo : ∀ b, b < n → blk H' b = blk H b := fun b hb => by rw [hH']; exact blk_ext (List.getElem?_append_left (by omega))
  have hhi : ∀ b, n ≤ b → blk H' b = (blk Hn (b - n)).map (renS fun b => b + n) := fun b hb => by
    rw [hH']
    unfold blk
    rw [nth_eq, List.getElem?_append_right (by omega), ← hn, List.getElem?_map, nth_eq]
    cases Hn[b - n]? <;> simp
  have src : ∀ b B, blk H' b = some B → (b < n ∧ blk H b = some B) ∨ (n ≤ b ∧ ∃ A, blk Hn (b - n) = some A ∧ B = renS (fun b => b + n) A) := by
    intro b B hB
    by_cases hb : b < n
    · exact .inl ⟨hb, by rw [← hlo b hb]; exact hB⟩
    · rw [hhi b (by omega), Option.map_eq_some_iff] at hB
      obtain ⟨A, hA, rfl⟩ := hB
      exact .inr ⟨by omega, A, hA, rfl⟩
  refine ⟨by rw [hH']; exact gr_app H _, fun W S ha hH hlt => ?_, hen, renV_some hv, fun W S ρ w ha hH hlt hr => ?_⟩
  · obtain ⟨s1, s2⟩ := hsc W
    have hx : ∀ b, b < Hn.length → ext S H H' (b + n) := fun b hb => .inr ⟨by omega, by rw [hlen]; omega⟩
    refine ⟨renV_sc (fun i hi => hx i (idsV_sc s1 i hi)) s1, fun b B hB => ?_⟩
    rcases src b B hB with ⟨_, hB⟩ | ⟨_, A, hA, rfl⟩
    · exact Blk.sc_mono (fun b => .inl) (hH b B hB)
    · have := s2 _ A hA
      cases A with
      | cells cs =>
        intro y hy
        obtain ⟨x, hx', rfl⟩ := List.mem_map.1 hy
        exact renC_sc (fun i hi => hx i (idsC_sc (this x hx') i hi)) (this x hx')
      | row e sz m get fl =>
        cases fl with
        | true => exact ⟨fun i hi' => ⟨(this.1 i hi').1, fun x hx => C.sc_mono (fun b hb => hb.elim) (this.2 rfl i hi' x hx)⟩, this.2⟩
        | false =>
          refine ⟨fun i hi' => ⟨?_, fun y hy => ?_⟩, fun h => by cases h⟩
          · simp only [cond_false, List.length_map]; exact (this.1 i hi').1
          · obtain ⟨x, hx', rfl⟩ := List.mem_map.1 hy
            have := (this.1 i hi').2 x hx'
            exact renC_sc (fun i hi => hx i (idsC_sc this i hi)) this
  · obtain ⟨args', a1, a2, a3, a4⟩ := hsn W S ρ w ha hH hr
    obtain ⟨l, hR⟩ := hrun args' a1 a2
    have hrn : HR ρ w ([] : Heap) w := ⟨fun _ _ => rfl, Nat.le_refl _, (fun b x hx => by rw [blk_nil] at hx; cases hx), (fun b b' x x' hx => by rw [blk_nil] at hx; cases hx)⟩
    have hc := hR.run w (fun _ => False) ρ w a4 (fun b x hx => by rw [blk_nil] at hx; cases hx) (fun b hb => hb.elim) hrn
    rw [a3] at hc
    refine hc.mono ?_
    rintro e w' ⟨ρ1, rfl, h1, h2⟩
    obtain ⟨ρ', hρ⟩ : ∃ ρ' : Ren, ρ' = fun b => if b < n then ρ b else ρ1 (b - n) := ⟨_, rfl⟩
    have hrlo : ∀ b, b < n → ρ' b = ρ b := fun b hb => by rw [hρ]; simp only; rw [if_pos hb]
    have hrhi : ∀ b, n ≤ b → ρ' b = ρ1 (b - n) := fun b hb => by rw [hρ]; simp only; rw [if_neg (by omega)]
    have hadd : ∀ i, ρ' (i + n) = ρ1 i := fun i => by rw [hrhi _ (by omega), Nat.add_sub_cancel]
    have hkeep : ∀ r, r < w.heap.size → w'.heap[r]? = w.heap[r]? := fun r hr1 => h1.low r hr1
    refine ⟨ρ', by rw [renV_den (ρ1 := ρ1) fun i _ => hadd i], ⟨fun r hr1 => ?_, Nat.le_trans hr.big h1.big, fun b B hB => ?_, fun b b' B B' hB hB' hu hu' he => ?_⟩, ⟨h2.os, h2.tape, h2.output, h2.size, fun r hr1 _ => hkeep r hr1, fun b B hb hB hu => ?_, fun b hb => hrlo b (by omega)⟩⟩
    · have := hr.big; rw [hkeep r (by omega)]; exact hr.low r hr1
    · rcases src b B hB with ⟨hb, hB⟩ | ⟨hb, A, hA, rfl⟩
      · exact (hr.real b B hB).keep (S := S) (hH b B hB) (fun c hc => hrlo c (by have := hlt c hc; omega)) (hrlo b hb) (fun hu => hkeep _ ((hr.real b B hB).lt hu).2)
      · have hreal := h1.real _ A hA
        have hsA := (hsc w).2 _ A hA
        cases A with
        | cells cs =>
          obtain ⟨g1, rest, ty, g2⟩ := hreal
          refine ⟨by rw [hrhi b hb]; exact Nat.le_trans hr.big g1, rest, ty, ?_⟩
          rw [hrhi b hb, g2, List.map_map]
          have : cs.map (C.den ρ' ∘ renC fun b => b + n) = cs.map (C.den ρ1) := List.map_congr_left fun x hx => renC_den fun i _ => hadd i
          rw [this]
        | row ty sz m get fl =>
          rcases hreal with hreal | ⟨g1, g2, g3, g4, cur, g5, g6, g7⟩
          · exact .inl hreal
          · cases fl with
            | true =>
              refine .inr ⟨by rw [hrhi b hb]; exact Nat.le_trans hr.big g1, by rw [hrhi b hb]; exact g2, by rw [hrhi b hb]; exact g3, g4, cur, by rw [hrhi b hb]; exact g5, by rw [hrhi b hb]; exact g6, fun i j x hi hx => ?_⟩
              rw [g7 i j x hi hx, C.den_congr (ρ' := ρ') (ρ := ρ1) (fun b hb => hb.elim) (hsA.2 rfl i hi x (List.mem_of_getElem? hx))]
            | false =>
              refine .inr ⟨by rw [hrhi b hb]; exact Nat.le_trans hr.big g1, by rw [hrhi b hb]; exact g2, by rw [hrhi b hb]; exact g3, fun i hi => by simp only [cond_false, List.length_map]; exact g4 i hi, cur, by rw [hrhi b hb]; exact g5, by rw [hrhi b hb]; exact g6, fun i j x hi hx => ?_⟩
              simp only [cond_false, List.getElem?_map, Option.map_eq_some_iff] at hx
              obtain ⟨y, hy, rfl⟩ := hx
              rw [g7 i j y hi hy, renC_den fun i _ => hadd i]
    · have hold : ∀ b B, blk H b = some B → B.used → (ρ b).r < w.heap.size := fun b B hB hu => ((hr.real b B hB).lt hu).2
      have hnew : ∀ b A, blk Hn b = some A → A.used → w.heap.size ≤ (ρ1 b).r := fun b A hA hu => ((h1.real b A hA).lt hu).1
      rcases src b B hB with ⟨hb, hB⟩ | ⟨hb, A, hA, rfl⟩ <;> rcases src b' B' hB' with ⟨hb', hB'⟩ | ⟨hb', A', hA', rfl⟩
      · rw [hrlo b hb, hrlo b' hb'] at he
        exact hr.inj b b' B B' hB hB' hu hu' he
      · rw [hrlo b hb, hrhi b' hb'] at he
        have := hold b B hB hu
        have := hnew _ A' hA' (renS_used.1 hu')
        omega
      · rw [hrhi b hb, hrlo b' hb'] at he
        have := hold b' B' hB' hu'
        have := hnew _ A hA (renS_used.1 hu)
        omega
      · rw [hrhi b hb, hrhi b' hb'] at he
        have := h1.inj _ _ A A' hA hA' (renS_used.1 hu) (renS_used.1 hu') he
        omega
    · rcases src b B hB with ⟨hb', hB⟩ | ⟨hb', A, hA, rfl⟩
      · omega
      · rw [hrhi b hb']
        exact .inl ((h1.real _ A hA).lt (renS_used.1 hu)).1
theorem told_sound {α : Type} {P : Program} {f : FuncId} {g : List V → Tree} (h : Told P f g) {args : List V} {H : Heap} {k : V → Heap → List Foot → Option α} {r : α} (hv : viewVs H args (fun ys => (g ys).run H k) = some r) : ∃ v H' l, k v H' l = some r ∧ RunsTo P f args H v H' l := by
  obtain ⟨ys, hy, hs⟩ := viewVs_spec hv
  obtain ⟨v, Hn, h1, h2⟩ := tree_run hy
  exact ⟨_, _, [], h2, calls_world (l := []) hs (h.sc _ v Hn h1) h.enter (h.isv _ v Hn h1) fun args' e1 e2 => h.run args' v Hn e2 (by rw [e1]; exact h1)⟩
def OrcOk (P : Program) (orc : List (FuncId × (List V → Tree))) : Prop := ∀ p ∈ orc, Told P p.1 p.2
structure FnOk (P : Program) (f : FuncId) (fn : Func) : Prop where
  func : P.funcs[f]? = some fn
  enter : ∀ args w, (callFunc f args).run P w = .ok (.enter f args) w
def FnsOk (P : Program) (fns : List (FuncId × Func × List (Nat × LV))) : Prop := ∀ p ∈ fns, FnOk P p.1 p.2.1 ∧ ∀ c, p.2.1.body = some c → LoopsOk P c p.2.2
theorem look_mem {α : Type} {l : List (Nat × α)} {n : Nat} {x : α} (h : look l n = some x) : (n, x) ∈ l := by
  induction l with
  | nil => cases h
  | cons p r ih =>
    obtain ⟨i, y⟩ := p
    simp only [look] at h
    cases hb : Nat.beq i n
    · rw [hb] at h; exact List.mem_cons_of_mem _ (ih h)
    · rw [hb] at h
      have : i = n := Nat.eq_of_beq_eq_true hb
      subst this
      cases h
      exact List.mem_cons_self ..
theorem env_ok {α : Type} {P : Program} (hm : P.follows .mixedOrders = true) {orc : List (FuncId × (List V → Tree))} (ho : OrcOk P orc) {fns : List (FuncId × Func × List (Nat × LV))} (hf : FnsOk P fns) (fuel : Nat) : ∀ d, CallOk (α := α) P (env P orc fns fuel d)
  | 0 => fun f args H k r h _ => by cases h
  | d + 1 => fun f args H k r h ha => by
    simp only [env] at h
    split at h
    · rename_i g hg
      exact told_sound (ho _ (look_mem hg)) h
    · split at h
      · rename_i fn hfn
        have := hf _ (look_mem hfn)
        exact runF_sound hm (env_ok hm ho hf fuel d) this.1.func this.2 this.1.enter h
      · cases h
/-! A loop, told. -/
theorem Gr.weaken {H H' : Heap} {l m : List Foot} (h : Gr H H' l) (hs : ∀ f ∈ l, f ∈ m) : Gr H H' m :=
  ⟨h.len, h.dead, fun b B hb ht => h.keep b B hb (fun t => ht (by obtain ⟨f, hf, e⟩ := t; exact ⟨f, hs f hf, e⟩)), fun b cs hb => by
    obtain ⟨cs', h1, h2, h3⟩ := h.cells b cs hb
    exact ⟨cs', h1, h2, fun j hj => h3 j (fun t => hj (by obtain ⟨f, hf, e⟩ := t; exact ⟨f, hs f hf, e⟩))⟩, h.used, h.kind⟩
theorem loop_told {P : Program} (hm : P.follows .mixedOrders = true) {b : Code} {g : List V → Heap → LTree}
    (h : ∀ T H ex T' H' l, (g T H).val = some (ex, T', H', l) → ∃ (call : CallT (Ex × List V × Heap × List Foot)) (fuel : Nat) (lvs : List (Nat × LV)) (l0 : List Foot), CallOk P call ∧ LoopsOk P (.loop b) lvs ∧ (∀ f ∈ l0, f ∈ l) ∧ codeA P call fuel lvs (.loop b) T H [] (fun ex T H L => some (ex, T, H, L)) = some (ex, T', H', l0)) : LoopTold P b g := by
  intro T H ex T' H' l hg
  obtain ⟨call, fuel, lvs, l0, hc, hlo, hsub, hcode⟩ := h T H ex T' H' l hg
  obtain ⟨ex', T2, H2, l2, h1, ct⟩ := codeA_sound hm hc fuel lvs (.loop b) hlo T H [] _ _ hcode
  rw [List.append_nil] at h1
  cases h1
  exact { gr := ct.gr.weaken hsub, sc := ct.sc, run := ct.run }
/-! From outside. -/
/-- A run that begins with no blocks of its own. -/
theorem start_of {P : Program} {f : FuncId} {args : List V} {v : V} {H' : Heap} {l : List Foot} (h : RunsTo P f args [] v H' l) {W : World} {S : Nat → Prop} (ha : ∀ x ∈ args, x.sc W S) (hi : ∀ x ∈ args, idsV x = []) (ρ : Ren) {w : World} (hlow : ∀ r, r < W.heap.size → w.heap[r]? = W.heap[r]?) (hbig : W.heap.size ≤ w.heap.size) :
    Calls P f (args.map (V.den ρ)).toArray w fun e w' => ∃ ρ', e = .returned (v.den ρ') ∧ HR ρ' W H' w' ∧ RowKit.Below w.heap.size w w' ∧ (∀ b B, blk H' b = some B → B.used → w.heap.size ≤ (ρ' b).r) ∧ v.sc W (fun b => b < H'.length) ∧ ScH W (fun b => b < H'.length) H' := by
  have hb0 : ∀ b x, blk ([] : Heap) b = some x → False := fun b x hx => by have := blk_lt hx; simp at this
  have hn : ScH W (fun _ => False) ([] : Heap) := fun b x hx => (hb0 b x hx).elim
  have ha' : ∀ x ∈ args, x.sc W (fun _ => False) := fun x hx => V.sc_ids (ha x hx) (hi x hx)
  obtain ⟨s1, s2⟩ := h.sc W (fun _ => False) ha' hn (fun b hb => hb.elim)
  have hx : ∀ b, ext (fun _ => False) ([] : Heap) H' b → b < H'.length := fun b hb => hb.elim (fun h => h.elim) (fun h => h.2)
  refine (h.run W (fun _ => False) ρ w ha' hn (fun b hb => hb.elim) ⟨hlow, hbig, fun b x hx => (hb0 b x hx).elim, fun b b' x x' hx => (hb0 b x hx).elim⟩).mono ?_
  rintro e w' ⟨ρ', rfl, h1, h2⟩
  refine ⟨ρ', rfl, h1, ⟨h2.os, h2.tape, h2.output, h2.size, fun r hr1 => h2.keep r hr1 (fun b x hx => (hb0 b x hx).elim)⟩, fun b B hB hu => ?_, V.sc_mono hx s1, scH_mono s2 hx⟩
  rcases h2.fresh b B (Nat.zero_le _) hB hu with g | ⟨c, D, g1, _⟩
  · exact g
  · exact (hb0 c D g1).elim
/-- What is kept of a result. -/
theorem tidy_runs {P : Program} {f : FuncId} {args : List V} {v : V} {H : Heap} {l : List Foot} (hR : RunsTo P f args [] v H l) {α : Type} {k : V → Heap → Option α} {r : α} (h : tidyA v H k = some r) : ∃ v' H', k v' H' = some r ∧ RunsTo P f args [] v' H' l := by
  unfold tidyA at h
  obtain ⟨ids, T', H', h, hn⟩ := normA_spec h
  obtain ⟨v', hT', hk, hne⟩ : ∃ v', T' = [v'] ∧ k v' H' = some r ∧ v' ≠ .any := by
    split at h
    · exact ⟨_, rfl, h, fun e => by cases e⟩
    · exact ⟨_, rfl, h, fun e => by cases e⟩
    · cases h
  subst hT'
  have hv : v' = renV (ren 0 ids) v ∧ ∀ i ∈ idsV v, i < 0 ∨ i ∈ ids := by
    rcases hn.tmp 0 v' rfl with e | ⟨u, h1, h2, h3⟩
    · exact absurd e hne
    · cases h1; exact ⟨h2, h3⟩
  have sh : Shape args [] [v] H l := ⟨hR.gr, fun W S hT hH hlt => by
    obtain ⟨g1, g2⟩ := hR.sc W S hT hH hlt
    exact ⟨fun x hx => by rw [List.mem_singleton.1 hx]; exact g1, g2⟩⟩
  have sh' := hn.shape (T0 := args) (H0 := []) rfl (fun b cs hb => by rw [blk_nil] at hb; cases hb) sh
  refine ⟨v', H', hk, sh'.gr, fun W S ha hH hlt => ?_, hR.enter, hne, fun W S ρ w ha hH hlt hr => ?_⟩
  · obtain ⟨g1, g2⟩ := sh'.sc W S ha hH hlt
    exact ⟨g1 v' (List.mem_singleton.2 rfl), g2⟩
  · refine (hR.run W S ρ w ha hH hlt hr).mono ?_
    rintro e w' ⟨ρ1, rfl, h1, h2⟩
    have en := hn.en (T0 := args) (H0 := []) (a := { tmps := #[v.den ρ1], defers := [] }) (a0 := { tmps := (args.map (V.den ρ)).toArray, defers := [] }) rfl sh (W := W) (S := S) (ρ0 := ρ) (ρ := ρ1) (w0 := w) (w := w')
      ⟨⟨by simp, fun t v hv _ => by rw [nth_eq] at hv; simp [hv]⟩, hr, ha, hH, hlt⟩
      ⟨.same rfl, ⟨rfl, fun t u hu _ => by
        rw [nth_eq] at hu
        cases t with
        | zero => cases hu; rfl
        | succ t => cases hu⟩, h1, h2⟩
    refine ⟨ren2 0 ids ρ1, ?_, en.hr, en.fr⟩
    rw [hv.1, renV_den (ρ1 := ρ1) fun i hi => ren2_ren hn.ge ρ1 (hv.2 i hi)]
/-- What the text answers is told. -/
theorem told_of {P : Program} (hm : P.follows .mixedOrders = true) {orc : List (FuncId × (List V → Tree))} (ho : OrcOk P orc) {fns : List (FuncId × Func × List (Nat × LV))} (hf : FnsOk P fns) {fuel d : Nat} {f : FuncId} {g : List V → Tree} (hen : ∀ args w, (callFunc f args).run P w = .ok (.enter f args) w)
    (hsv : ∀ args v H, (g args).val = some (v, H) → v ≠ .any) (hsc : ∀ args v H, (g args).val = some (v, H) → ∀ W, v.sc W (fun b => b < H.length) ∧ ScH W (fun b => b < H.length) H)
    (h : ∀ args v H, (∀ x ∈ args, idsV x = [] ∧ x ≠ .any) → (g (args.map bareV)).val = some (v, H) → ans P orc fns fuel d f args = some (v, H)) : Told P f g := by
  refine ⟨hsv, hsc, hen, fun args v H ha hg => ?_⟩
  obtain ⟨v', H', l, hk, hr⟩ := env_ok hm ho hf fuel d f args [] _ (v, H) (h args v H ha hg) (fun x hx => (ha x hx).2)
  obtain ⟨v2, H2, hk, hr⟩ := tidy_runs hr hk
  cases hk
  exact ⟨l, hr⟩
end Go.Proofs.Ytbgdfikfldkjbaa.AI
