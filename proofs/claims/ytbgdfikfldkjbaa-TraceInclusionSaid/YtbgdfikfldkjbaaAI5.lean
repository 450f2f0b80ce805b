/- Statements that keep the text's order; code. -/
import Derived.Test.YtbgdfikfldkjbaaAI4
import Derived.LoopN
import Derived.LoopNIn
import Derived.OrdersIn
import Derived.TacticsIn
namespace Go.Proofs.Ytbgdfikfldkjbaa.AI
set_option linter.unnecessarySimpa false
open Go
set_option linter.unusedVariables false
set_option linter.unusedSimpArgs false
def putT (T : List V) (d : Option Tmp) (v : V) : List V :=
  match d with
  | some d => upd T d v
  | none => T
theorem putT_len (T : List V) (d : Option Tmp) (v : V) : (putT T d v).length = T.length := by
  cases d with
  | none => rfl
  | some d => simp [putT, upd_eq]
theorem TR_put {ρ : Ren} {T : List V} {a : Act} (h : TR ρ T a) (d : Option Tmp) (v : V) : TR ρ (putT T d v) (a.put d (v.den ρ)) := by
  cases d with
  | none => exact h
  | some d =>
    refine ⟨by rw [putT_len]; simp [Act.put, h.len], fun t u hu hne => ?_⟩
    simp only [putT, upd_eq, nth_eq, List.getElem?_set] at hu
    simp only [Act.put]
    by_cases e : d = t
    · subst e
      rw [if_pos rfl] at hu
      split at hu
      · rename_i hlt
        cases hu
        have : d < a.tmps.size := by rw [h.len]; exact hlt
        simp [this]
      · cases hu
    · rw [if_neg e] at hu
      rw [Array.getElem?_setIfInBounds_ne e]
      exact h.val t u (by rw [nth_eq]; exact hu) hne
theorem ScT_put {W : World} {S : Nat → Prop} {T : List V} (h : ScT W S T) {v : V} (hv : v.sc W S) (d : Option Tmp) : ScT W S (putT T d v) := by
  cases d with
  | none => exact h
  | some d =>
    intro x hx
    simp only [putT, upd_eq] at hx
    rcases List.mem_or_eq_of_mem_set hx with h1 | h1
    · exact h x h1
    · rw [h1]; exact hv
theorem put_defers (a : Act) (d : Option Tmp) (v : Value) : (a.put d v).defers = a.defers := by cases d <;> rfl
/-- Whether a guarded operation comes up: yes, no; the guard's outcome is written down in T. -/
def wantA {α : Type} (ops : Array Oper) (T : List V) (o : Oper) (yes no : List V → Option α) : Option α :=
  match o.guard with
  | none => yes T
  | some (j, want) => match (nth ops.toList j).bind (·.dst) with
    | none => no T
    | some d => match nth T d with
      | some (.u (.c (.bool β))) => cond β (cond want (yes (upd T d (.u (.c (.bool true))))) (no (upd T d (.u (.c (.bool true)))))) (cond want (no (upd T d (.u (.c (.bool false))))) (yes (upd T d (.u (.c (.bool false))))))
      | some .any => none
      | _ => no T
theorem upd_self {α : Type} : ∀ {T : List α} {d : Nat} {v : α}, nth T d = some v → upd T d v = T
  | [], d, v, h => by cases h
  | x :: r, 0, v, h => by injection h with h; subst h; rfl
  | x :: r, n + 1, v, h => by simp only [upd]; rw [upd_self (T := r) h]
/-- Is it wanted, by what T says. -/
def wants (ops : Array Oper) (T : List V) (o : Oper) : Option Bool :=
  match o.guard with
  | none => some true
  | some (j, want) => match (nth ops.toList j).bind (·.dst) with
    | none => some false
    | some d => match nth T d with
      | some (.u (.c (.bool β))) => some (β == want)
      | some .any => none
      | _ => some false
theorem wantA_spec {α : Type} {ops : Array Oper} {T : List V} {o : Oper} {yes no : List V → Option α} {r : α} (h : wantA ops T o yes no = some r) : (wants ops T o = some true ∧ yes T = some r) ∨ (wants ops T o = some false ∧ no T = some r) := by
  unfold wantA at h
  unfold wants
  cases hg : o.guard with
  | none => rw [hg] at h; exact .inl ⟨rfl, h⟩
  | some g =>
    obtain ⟨j, want⟩ := g
    rw [hg] at h
    simp only at h ⊢
    cases hd : (nth ops.toList j).bind (·.dst) with
    | none => rw [hd] at h; exact .inr ⟨rfl, h⟩
    | some d =>
      rw [hd] at h
      simp only at h ⊢
      split at h
      · rename_i β hβ
        cases β <;> rw [upd_self hβ] at h <;> cases want <;> first | exact .inl ⟨rfl, h⟩ | exact .inr ⟨rfl, h⟩
      · cases h
      · rename_i h1 h2
        exact .inr ⟨rfl, h⟩
theorem wants_spec {ops : Array Oper} {T : List V} {o : Oper} {ρ : Ren} {a : Act} {b : Bool} (ht : TR ρ T a) (h : wants ops T o = some b) : Region.wanted o (yielded ops a.tmps) = b := by
  unfold Region.wanted
  unfold wants at h
  cases hg : o.guard with
  | none => rw [hg] at h; cases h; rfl
  | some g =>
    obtain ⟨j, want⟩ := g
    rw [hg] at h
    simp only at h ⊢
    unfold yielded
    rw [nth_eq] at h
    have e : ops.toList[j]? = ops[j]? := by simp
    rw [e] at h
    cases hd : (ops[j]?).bind (·.dst) with
    | none => rw [hd] at h; cases h; try simp
    | some d =>
      rw [hd] at h
      simp only [Option.bind_some] at h ⊢
      cases hn : nth T d with
      | none =>
        rw [hn] at h
        injection h with h
        subst h
        have hd2 : a.tmps[d]? = none := by
          rw [nth_eq] at hn
          have : T.length ≤ d := by simpa using hn
          exact Array.getElem?_eq_none (by rw [ht.len]; exact this)
        rw [hd2]
        simp
      | some v =>
        rw [hn] at h
        have key : v ≠ .any → a.tmps[d]? = some (v.den ρ) := ht.val d v hn
        cases v with
        | any => cases h
        | t xs => rw [key (fun e => by cases e)]; cases h; try simp [V.den]
        | u x =>
          rw [key (fun e => by cases e)]
          cases x with
          | a cs => cases h; try simp [V.den, U.den]
          | c y => cases y <;> cases h <;> try simp [V.den, U.den, C.den]
/-- The marks of loops over functions, among a call's deferred calls. -/
def coll (D : Nat) : Deferred := { target := .collected D, args := #[] }
def Marks (ds : List Deferred) (lo : Nat) (w : World) : Prop := ∃ Ds : List Nat, ds = Ds.map coll ∧ Ds.Nodup ∧ ∀ D ∈ Ds, lo ≤ D ∧ w.heap[D]? = some (.deferred (some []))
/-- What came to the deferred calls. -/
def DL (a a' : Act) (w w' : World) : Prop := ∃ ds, a'.defers = ds ++ a.defers ∧ Marks ds w.heap.size w'
theorem DL.same {a a' : Act} {w w' : World} (h : a'.defers = a.defers) : DL a a' w w' := ⟨[], h, [], rfl, List.nodup_nil, fun D hD => by cases hD⟩
theorem real_mark {W : World} {ρ : Ren} {w : World} {b : Nat} {B : Blk} (h : Real W ρ w b B) (hu : B.used) {x : Option (List Deferred)} : w.heap[(ρ b).r]? ≠ some (.deferred x) := by
  cases B with
  | cells cs =>
    obtain ⟨_, rest, e, hw⟩ := h
    rw [hw]; exact fun e => by cases e
  | row e sz n get flat =>
    rcases h with h | ⟨_, _, _, _, cur, hw, _⟩
    · exact absurd h hu
    · rw [hw]; exact fun e => by cases e
theorem DL.trans {W : World} {ρ2 ρ3 : Ren} {H2 H3 : Heap} {a1 a2 a3 : Act} {w1 w2 w3 : World} (h : DL a1 a2 w1 w2) (g : DL a2 a3 w2 w3) (hr : HR ρ2 W H2 w2) (hsz : w1.heap.size ≤ w2.heap.size) (hf : Fr H2 ρ2 H3 ρ3 w2 w3) : DL a1 a3 w1 w3 := by
  obtain ⟨ds1, e1, Ds1, rfl, n1, l1⟩ := h
  obtain ⟨ds2, e2, Ds2, rfl, n2, l2⟩ := g
  have hlt : ∀ D ∈ Ds1, D < w2.heap.size := fun D hD => (Array.getElem?_eq_some_iff.1 (l1 D hD).2).1
  refine ⟨Ds2.map coll ++ Ds1.map coll, by rw [e2, e1, List.append_assoc], Ds2 ++ Ds1, by simp, ?_, fun D hD => ?_⟩
  · rw [List.nodup_append]
    exact ⟨n2, n1, fun x hx y hy e => by have := (l2 x hx).1; have := hlt y hy; omega⟩
  · rcases List.mem_append.1 hD with hD | hD
    · exact ⟨Nat.le_trans hsz (l2 D hD).1, (l2 D hD).2⟩
    · refine ⟨(l1 D hD).1, ?_⟩
      rw [hf.keep D (hlt D hD) fun b B hb hu e => ?_]
      · exact (l1 D hD).2
      · have := real_mark (hr.real b B hb) hu (x := some [])
        rw [e] at this
        exact this (l1 D hD).2
/-- The fence that lets all by; ro: the round that the code stands in. -/
def fen (ro : Option Nat) : Fence := { Fence.wide with round := ro }
theorem fen_none : fen none = Fence.wide := rfl
def noDefer (o : Oper) : Bool :=
  match o.op with
  | .defer _ => false
  | _ => true
theorem noDefer_ne {o : Oper} (h : noDefer o = true) : ∀ c, o.op ≠ .defer c := by
  intro c e
  unfold noDefer at h
  rw [e] at h
  cases h
/-- An operation that is carried out in a round is carried out as elsewhere. -/
theorem opIn {ro : Option Nat} {n : Nat} {P : Program} {o : Oper} {a : Act} {w : World} {K : Act → World → Prop} {Q : Exit → Act → World → Prop} (hd : ro = none ∨ noDefer o = true) (h : o.wp P a w K Q) : o.wpIn (fen ro) n P a w K Q := by
  refine ⟨fun _ _ => trivial, ?_⟩
  have e : o.semAt (fen ro).round a.eval = execOp a.eval o := by
    rcases hd with rfl | hd
    · exact Oper.semAt_none _ _
    · exact Oper.semAt_eq _ _ _ (noDefer_ne hd)
  rw [e]
  unfold Oper.wp at h
  generalize (execOp a.eval o).run P w = r at h ⊢
  cases r with
  | ok x w' =>
    cases x with
    | enter f args => exact ⟨(fun e => by cases e), callsIn_wide.2 (show Calls P f args w' _ from h)⟩
    | row r args =>
      refine ⟨(fun e => by cases e), fun c cs _ => ?_⟩
      obtain ⟨v, w'', h1, h2⟩ := (show Rows P r args w' _ from h) c cs
      exact ⟨v, w'', h1, stepsIn_wide.2 h2⟩
    | _ => first | exact h | exact h.elim
  | halt x w' => cases x <;> first | exact h | exact h.elim
/-- What holds where code begins. -/
structure St (W : World) (S : Nat → Prop) (ρ : Ren) (T : List V) (H : Heap) (a : Act) (w : World) : Prop where
  tr : TR ρ T a
  hr : HR ρ W H w
  st : ScT W S T
  sh : ScH W S H
  lt : ∀ b, S b → b < H.length
inductive Ex where
  | normal | exit (id : Nat) | ret
def Ex.den : Ex → Exit
  | .normal => .normal
  | .exit id => .exit id
  | .ret => .ret
/-- What holds where code ends. -/
structure En (W : World) (ρ ρ' : Ren) (T' : List V) (H H' : Heap) (a a' : Act) (w w' : World) : Prop where
  dl : DL a a' w w'
  tr : TR ρ' T' a'
  hr : HR ρ' W H' w'
  fr : Fr H ρ H' ρ' w w'
structure Shape (T : List V) (H : Heap) (T' : List V) (H' : Heap) (l : List Foot) : Prop where
  gr : Gr H H' l
  sc : ∀ (W : World) (S : Nat → Prop), ScT W S T → ScH W S H → (∀ b, S b → b < H.length) → ScT W (ext S H H') T' ∧ ScH W (ext S H H') H'
/-- Code that holds neither a loop over a function nor a deferred call: it may stand in a round. -/
def plainC : Code → Bool
  | .region _ ops _ => ops.toList.all noDefer
  | .seq a b => plainC a && plainC b
  | .cond _ a b => plainC a && plainC b
  | .block _ b => plainC b
  | .loop b => plainC b
  | .rangeFunc _ _ _ _ => false
  | .scope _ => false
  | _ => true
structure CodeTo (P : Program) (c : Code) (T : List V) (H : Heap) (ex : Ex) (T' : List V) (H' : Heap) (l : List Foot) : Prop extends Shape T H T' H' l where
  run : ∀ (ro : Option Nat) (n : Nat), (ro = none ∨ plainC c = true) → ∀ (W : World) (S : Nat → Prop) (ρ : Ren) (a : Act) (w : World), St W S ρ T H a w → ∀ Q : Exit → Act → World → Prop, (∀ ρ' a' w', En W ρ ρ' T' H H' a a' w w' → Q ex.den a' w') → c.wpIn (fen ro) n P Q a w
theorem ScT_mono {W : World} {S S' : Nat → Prop} {T : List V} (h : ScT W S T) (hm : ∀ b, S b → S' b) : ScT W S' T := fun v hv => V.sc_mono hm (h v hv)
theorem ext_lt {S : Nat → Prop} {H H' : Heap} (hl : H.length ≤ H'.length) (hlt : ∀ b, S b → b < H.length) : ∀ b, ext S H H' b → b < H'.length := fun b h => h.elim (fun h => Nat.lt_of_lt_of_le (hlt b h) hl) (fun h => h.2)
theorem Shape.refl (T : List V) (H : Heap) : Shape T H T H [] := ⟨Gr.refl H, fun W S hT hH _ => ⟨ScT_mono hT (fun b => .inl), scH_mono hH (fun b => .inl)⟩⟩
theorem Shape.trans {T1 T2 T3 : List V} {H1 H2 H3 : Heap} {l m : List Foot} (h : Shape T1 H1 T2 H2 l) (g : Shape T2 H2 T3 H3 m) : Shape T1 H1 T3 H3 (m ++ l) := by
  refine ⟨h.gr.trans g.gr, fun W S hT hH hlt => ?_⟩
  obtain ⟨h1, h2⟩ := h.sc W S hT hH hlt
  obtain ⟨g1, g2⟩ := g.sc W _ h1 h2 (ext_lt h.gr.len hlt)
  exact ⟨ScT_mono g1 (ext_trans h.gr.len g.gr.len), scH_mono g2 (ext_trans h.gr.len g.gr.len)⟩
theorem En.st {W : World} {S : Nat → Prop} {ρ ρ' : Ren} {T T' : List V} {H H' : Heap} {l : List Foot} {a a' : Act} {w w' : World} (h : St W S ρ T H a w) (hs : Shape T H T' H' l) (he : En W ρ ρ' T' H H' a a' w w') : St W (ext S H H') ρ' T' H' a' w' :=
  have h1 := hs.sc W S h.st h.sh h.lt
  ⟨he.tr, he.hr, h1.1, h1.2, ext_lt hs.gr.len h.lt⟩
theorem En.trans {W : World} {ρ1 ρ2 ρ3 : Ren} {T2 T3 : List V} {H1 H2 H3 : Heap} {l m : List Foot} {a1 a2 a3 : Act} {w1 w2 w3 : World} (g1 : Gr H1 H2 l) (g2 : Gr H2 H3 m) (h : En W ρ1 ρ2 T2 H1 H2 a1 a2 w1 w2) (g : En W ρ2 ρ3 T3 H2 H3 a2 a3 w2 w3) : En W ρ1 ρ3 T3 H1 H3 a1 a3 w1 w3 :=
  ⟨h.dl.trans g.dl h.hr h.fr.size g.fr, g.tr, g.hr, h.fr.trans g1 g2 g.fr⟩
/-! A region in the text's order. -/
def regS {α : Type} (P : Program) (call : CallT α) (ops : Array Oper) : List Oper → List V → Heap → List Foot → (List V → Heap → List Foot → Option α) → Option α
  | [], T, H, L, k => k T H L
  | o :: r, T, H, L, k => wantA ops T o (fun T => stepA P call T H o fun v H' l => regS P call ops r (putT T o.dst v) H' (l ++ L) k) (fun T => regS P call ops r (putT T o.dst undefV) H L k)
theorem regS_sound {α : Type} {P : Program} {call : CallT α} (hc : CallOk P call) {ops : Array Oper} {k : List V → Heap → List Foot → Option α} {r : α} : ∀ (os : List Oper) (T : List V) (H : Heap) (L : List Foot), regS P call ops os T H L k = some r →
    ∃ T' H' l, k T' H' (l ++ L) = some r ∧ Shape T H T' H' l ∧ ∀ (ro : Option Nat) (n : Nat), (ro = none ∨ os.all noDefer = true) → ∀ (W : World) (S : Nat → Prop) (ρ : Ren) (a : Act) (w : World), St W S ρ T H a w → ∀ Q : Exit → Act → World → Prop, (∀ ρ' a' w', En W ρ ρ' T' H H' a a' w w' → Q .normal a' w') → wpListIn (fen ro) n P ops Q os a w
  | [], T, H, L, h => ⟨T, H, [], h, Shape.refl T H, fun ro n _ W S ρ a w hs Q hQ => hQ ρ a w ⟨.same rfl, hs.tr, hs.hr, Fr.refl H ρ w⟩⟩
  | o :: os, T, H, L, h => by
    unfold regS at h
    rcases wantA_spec h with ⟨hw, h⟩ | ⟨hw, h⟩
    · obtain ⟨v, H1, l1, h1, hst⟩ := stepA_sound hc h
      obtain ⟨T', H', l, hk, hsh, hrun⟩ := regS_sound hc os _ _ _ h1
      have hsh1 : Shape T H (putT T o.dst v) H1 l1 := ⟨hst.gr, fun W S hT hH hlt => by
        obtain ⟨g1, g2⟩ := hst.sc W S hT hH hlt
        exact ⟨ScT_put (ScT_mono hT (fun b => .inl)) g1 _, g2⟩⟩
      refine ⟨T', H', l ++ l1, by rw [List.append_assoc]; exact hk, hsh1.trans hsh, fun ro n hro W S ρ a w hs Q hQ => ?_⟩
      have hro' : ro = none ∨ (noDefer o = true ∧ os.all noDefer = true) := hro.imp id (fun e => by simpa using e)
      refine wpListIn_step fun K hK => ?_
      rw [wants_spec hs.tr hw, if_pos rfl]
      refine opIn (hro'.imp id And.left) ?_
      refine hst.run W S ρ a w hs.st hs.sh hs.lt hs.tr hs.hr a K Q fun ρ1 w1 hr1 hf1 => hK _ _ ?_
      have en1 : En W ρ ρ1 (putT T o.dst v) H H1 a (a.put o.dst (v.den ρ1)) w w1 := ⟨.same (put_defers _ _ _), TR_put (TR_congr (fun b hb => hf1.ren b (hs.lt b hb)) hs.st hs.tr) _ _, hr1, hf1⟩
      exact hrun ro n (hro'.imp id And.right) W _ ρ1 _ w1 (en1.st hs hsh1) Q fun ρ' a' w' en => hQ ρ' a' w' (en1.trans hst.gr hsh.gr en)
    · obtain ⟨T', H', l, hk, hsh, hrun⟩ := regS_sound hc os _ _ _ h
      have hsh1 : Shape T H (putT T o.dst undefV) H [] := ⟨Gr.refl H, fun W S hT hH hlt => ⟨ScT_put (ScT_mono hT (fun b => .inl)) (undefV_sc _ _) _, scH_mono hH (fun b => .inl)⟩⟩
      refine ⟨T', H', l ++ [], by simpa using hk, hsh1.trans hsh, fun ro n hro W S ρ a w hs Q hQ => ?_⟩
      have hro' : ro = none ∨ (noDefer o = true ∧ os.all noDefer = true) := hro.imp id (fun e => by simpa using e)
      refine wpListIn_step fun K hK => ?_
      rw [wants_spec hs.tr hw]
      simp only [Bool.false_eq_true, if_false]
      refine ⟨fun _ _ => trivial, hK _ _ ?_⟩
      have en1 : En W ρ ρ (putT T o.dst undefV) H H a (a.put o.dst undef) w w := ⟨.same (put_defers _ _ _), TR_put hs.tr _ undefV, hs.hr, Fr.refl H ρ w⟩
      exact hrun ro n (hro'.imp id And.right) W _ ρ _ w (en1.st hs hsh1) Q fun ρ' a' w' en => hQ ρ' a' w' (en1.trans (Gr.refl H) hsh.gr en)
end Go.Proofs.Ytbgdfikfldkjbaa.AI
