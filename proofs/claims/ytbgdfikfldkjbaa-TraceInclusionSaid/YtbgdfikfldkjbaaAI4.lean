/- One operation. -/
import Derived.Test.YtbgdfikfldkjbaaAI3b
namespace Go.Proofs.Ytbgdfikfldkjbaa.AI
set_option linter.unnecessarySimpa false
open Go
set_option linter.unusedVariables false
set_option linter.unusedSimpArgs false
abbrev CallT (α : Type) := FuncId → List V → Heap → (V → Heap → List Foot → Option α) → Option α
def undefV : V := .t []
theorem undefV_den (ρ : Ren) : undefV.den ρ = undef := rfl
theorem undefV_sc (W : World) (S : Nat → Prop) : undefV.sc W S := fun x hx => by cases hx
def ptrV (p : Nat × Nat) : V := .u (.c (.ptr p.1 p.2))
/-- What is asked of a call. -/
structure RunsTo (P : Program) (f : FuncId) (args : List V) (H : Heap) (v : V) (H' : Heap) (l : List Foot) : Prop where
  gr : Gr H H' l
  sc : ∀ (W : World) (S : Nat → Prop), (∀ x ∈ args, x.sc W S) → ScH W S H → (∀ b, S b → b < H.length) → v.sc W (ext S H H') ∧ ScH W (ext S H H') H'
  enter : ∀ args w, (callFunc f args).run P w = .ok (.enter f args) w
  some : v ≠ .any
  run : ∀ (W : World) (S : Nat → Prop) (ρ : Ren) (w : World), (∀ x ∈ args, x.sc W S) → ScH W S H → (∀ b, S b → b < H.length) → HR ρ W H w →
    Calls P f (args.map (V.den ρ)).toArray w fun e w' => ∃ ρ', e = .returned (v.den ρ') ∧ HR ρ' W H' w' ∧ Fr H ρ H' ρ' w w'
def CallOk {α : Type} (P : Program) (call : CallT α) : Prop :=
  ∀ f args H k r, call f args H k = some r → (∀ x ∈ args, x ≠ .any) → ∃ v H' l, k v H' l = some r ∧ RunsTo P f args H v H' l
/-! Loads, with a continuation. -/
def loadA {α : Type} (P : Program) (H : Heap) (t : TypeId) (p : C) (k : U → List Foot → Option α) : Option α :=
  match p with
  | .rp b sz i o => match blk H b with
    | some (.row _ sz' n get _) => if sz' = sz then cond (decide (i < n)) (match takeU P t (get i) o with
      | some x => k x.1 [.r b]
      | none => none) none else none
    | _ => none
  | p => match loadP P H t p with
    | some (u, fs) => k u fs
    | none => none
theorem loadA_spec {α : Type} {P : Program} {H : Heap} {t : TypeId} {p : C} {k : U → List Foot → Option α} {r : α} (h : loadA P H t p k = some r) : ∃ u fs, loadP P H t p = some (u, fs) ∧ k u fs = some r := by
  unfold loadA at h
  split at h
  · rename_i b sz i o
    split at h
    · rename_i e sz' n get fl hb
      split at h
      · rename_i hs
        cases hc : decide (i < n) with
        | false => rw [hc] at h; cases h
        | true =>
          rw [hc, cond_true] at h
          split at h
          · rename_i x hx
            refine ⟨x.1, [.r b], ?_, h⟩
            simp only [loadP, hb]
            rw [if_pos ⟨hs, of_decide_eq_true hc⟩, hx]
            rfl
          · cases h
      · cases h
    · cases h
  · split at h
    · rename_i u fs hl; exact ⟨u, fs, hl, h⟩
    · cases h
def callA {α : Type} (call : CallT α) (T : List V) (H : Heap) (f : Operand) (args : List Operand) (k : V → Heap → List Foot → Option α) : Option α :=
  match ev T f, evs T args with
  | some (.u (.c (.fn g first caps))), some vs => call g (first.map ptrV ++ vs ++ caps.map ptrV) H k
  | _, _ => none
def storeA {α : Type} (P : Program) (T : List V) (H : Heap) (t : TypeId) (x y : Operand) (k : V → Heap → List Foot → Option α) : Option α :=
  match ev T x, ev T y with
  | some (.u (.c (.ptr b o))), some (.u u) => match blk H b with
    | some (.cells cs) => if szOf P t = some u.cells.length ∧ o + u.cells.length ≤ cs.length then k undefV (upd H b (some (.cells (setRange cs o u.cells)))) [.c b o u.cells.length] else none
    | _ => none
  | some (.u (.c (.rp b sz i o))), some (.u u) => match blk H b with
    | some (.row e sz' n get fl) => if szOf P t = some u.cells.length ∧ sz' = sz ∧ o + u.cells.length ≤ sz then
        cond (decide (i < n)) (k undefV (upd H b (some (.row e sz n (rowSet get i o u.cells) (fl && u.cells.all C.flat)))) [.r b]) none else none
    | _ => none
  | _, _ => none
/-- The elements that are appended. -/
def srcA {α : Type} (H : Heap) (sz : Nat) (x : C) (k : Nat → (Nat → List C) → Bool → Option α) : Option α :=
  match x with
  | .row b sz2 st n2 _ => match blk H b with
    | some (.row _ sz' N get fl) => if sz2 = sz ∧ sz' = sz then cond (decide (st + n2 ≤ N)) (match n2 with
      | 1 => k 1 (fun _ => get st) fl
      | n2 => k n2 (fun i => get (st + i)) fl) none else none
    | _ => none
  | .as _ sz2 n2 _ get => if sz2 = sz then k n2 get false else none
  | _ => none
def bndA (n bytes : Nat) : Bool := decide (n * bytes ≤ 140737488355328) && decide (n ≤ 140737488355328)
def appA {α : Type} (P : Program) (T : List V) (H : Heap) (t : TypeId) (s x : Operand) (k : V → Heap → List Foot → Option α) : Option α :=
  match ev T s, ev T x, P.underlying t with
  | some (.u (.c sv)), some (.u (.c xv)), some (.slice e) => match szOf P e, zeroC P e, P.info? e with
    | some (m + 1), some zc, some i => if zc.length = m + 1 then srcA H (m + 1) xv fun n2 get2 fl2 => cond (decide (0 < n2)) (match sv with
        | .nils => cond (bndA n2 i.bytes) (k (.u (.c (.row H.length (m + 1) 0 n2 true))) (H ++ [some (.row e (m + 1) n2 get2 fl2)]) []) none
        | .row b sz st n nl => match blk H b with
          | some (.row e' sz' N get fl) => if e' = e ∧ sz' = m + 1 ∧ sz = m + 1 ∧ st = 0 then
              cond (nl || decide (0 < n)) (cond (decide (n ≤ N)) (cond (bndA (n + n2) i.bytes) (k (.u (.c (.row H.length (m + 1) 0 (n + n2) true))) (upd H b none ++ [some (.row e (m + 1) (n + n2) (rowApp get n get2) (fl && fl2))]) [.r b]) none) none) none else none
          | _ => none
        | _ => none) none else none
    | _, _, _ => none
  | _, _, _ => none
inductive Cls where
  | pure | load | alloc | eff
  deriving DecidableEq
def clsOf : Op → Cls
  | .load _ _ => .load
  | .alloc _ => .alloc
  | .box _ _ => .alloc
  | .buildSlice _ _ _ => .alloc
  | .store _ _ _ => .eff
  | .call ⟨.value _, _, _⟩ => .eff
  | .call ⟨.builtin .append, _, _⟩ => .eff
  | _ => .pure
def effA {α : Type} (P : Program) (call : CallT α) (T : List V) (H : Heap) (o : Oper) (k : V → Heap → List Foot → Option α) : Option α :=
  match o.op with
  | .store t x y => storeA P T H t x y k
  | .call ⟨.value f, args, _⟩ => callA call T H f args.toList k
  | .call ⟨.builtin .append, args, ts⟩ => match args.toList, ts.toList with
    | [s, x], [t, t'] => if t = t' then appA P T H t s x k else none
    | _, _ => none
  | _ => none
def loadO {α : Type} (P : Program) (T : List V) (H : Heap) (o : Oper) (k : U → List Foot → Option α) : Option α :=
  match o.op with
  | .load t x => match ev T x with
    | some (.u (.c p)) => loadA P H t p k
    | _ => none
  | _ => none
def stepA {α : Type} (P : Program) (call : CallT α) (T : List V) (H : Heap) (o : Oper) (k : V → Heap → List Foot → Option α) : Option α :=
  match clsOf o.op with
  | .load => loadO P T H o fun u _ => k (.u u) H []
  | .alloc => match allocD P T o with
    | some (cs, ak) => k (ak.val H.length) (H ++ [some (ak.blk cs)]) []
    | none => none
  | .eff => effA P call T H o k
  | .pure => pureA P T o fun v => k v H []
/-! What an operation does to the machine. -/
structure StepTo (P : Program) (T : List V) (o : Oper) (H : Heap) (v : V) (H' : Heap) (l : List Foot) : Prop where
  gr : Gr H H' l
  sc : ∀ (W : World) (S : Nat → Prop), ScT W S T → ScH W S H → (∀ b, S b → b < H.length) → v.sc W (ext S H H') ∧ ScH W (ext S H H') H'
  some : v ≠ .any
  run : ∀ (W : World) (S : Nat → Prop) (ρ : Ren) (a : Act) (w : World), ScT W S T → ScH W S H → (∀ b, S b → b < H.length) → TR ρ T a → HR ρ W H w →
    ∀ (a0 : Act) (K : Act → World → Prop) (Q : Exit → Act → World → Prop), (∀ ρ' w', HR ρ' W H' w' → Fr H ρ H' ρ' w w' → K (a0.put o.dst (v.den ρ')) w') → o.upon P a0 K Q ((execOp a.eval o).run P w)
theorem scH_mono {W : World} {S S' : Nat → Prop} {H : Heap} (h : ScH W S H) (hm : ∀ b, S b → S' b) : ScH W S' H := fun b B hb => Blk.sc_mono hm (h b B hb)
theorem pure_step {P : Program} {T : List V} {o : Oper} {v : V} {H : Heap} (h : Pure P T o v) (hn : v ≠ .any) : StepTo P T o H v H [] := by
  refine ⟨Gr.refl H, fun W S hT hH _ => ⟨V.sc_mono (fun b => .inl) (h.1 W S hT), scH_mono hH (fun b => .inl)⟩, hn, fun W S ρ a w hT hH hlt ht hr a0 K Q hK => ?_⟩
  rw [h.2 W S ρ a w hT ht]
  exact hK ρ w hr (Fr.refl H ρ w)
theorem TR_congr {W : World} {ρ ρ' : Ren} {S : Nat → Prop} {T : List V} {a : Act} (h : ∀ b, S b → ρ' b = ρ b) (hT : ScT W S T) (ht : TR ρ T a) : TR ρ' T a :=
  ⟨ht.len, fun t v hv hne => by rw [ht.val t v hv hne, V.den_congr h (hT v (by rw [nth_eq] at hv; exact List.mem_of_getElem? hv))]⟩
theorem args_den (ρ : Ren) (l : List (Nat × Nat)) : (l.map ptrV).map (V.den ρ) = l.map (pv ρ) := by
  rw [List.map_map]; rfl
theorem ev_some {T : List V} {x : Operand} {v : V} (h : ev T x = some v) : v ≠ .any := by
  cases x with
  | tmp t =>
    simp only [ev, Option.bind_eq_some_iff] at h
    obtain ⟨u, hu, hr⟩ := h
    obtain ⟨rfl, hne⟩ := real_eq hr
    exact hne
  | const c =>
    simp only [ev] at h
    unfold ofValue at h
    split at h
    · rw [Option.map_eq_some_iff] at h
      obtain ⟨l, _, rfl⟩ := h
      intro e; cases e
    · rw [Option.map_eq_some_iff] at h
      obtain ⟨l, _, rfl⟩ := h
      intro e; cases e
  | global g => cases h
  | func f => injection h with h; subst h; intro e; cases e
theorem evs_some {T : List V} : ∀ {l : List Operand} {vs : List V}, evs T l = some vs → ∀ v ∈ vs, v ≠ .any
  | [], vs, h, v, hv => by injection h with h; subst h; cases hv
  | x :: r, vs, h, v, hv => by
    unfold evs at h
    split at h
    · rename_i u us hu hus
      injection h with h; subst h
      rcases List.mem_cons.1 hv with rfl | hv
      · exact ev_some hu
      · exact evs_some hus v hv
    · cases h
theorem srcA_spec {α : Type} {H : Heap} {sz : Nat} {x : C} {k : Nat → (Nat → List C) → Bool → Option α} {r : α} (h : srcA H sz x k = some r) : ∃ n2 get2 fl2, k n2 get2 fl2 = some r ∧ Src H x sz n2 get2 fl2 := by
  unfold srcA at h
  split at h
  · rename_i b sz2 st n2 nl
    split at h
    · rename_i e sz' N get fl hb
      split at h
      · rename_i hs
        obtain ⟨rfl, rfl⟩ := hs
        cases hc : decide (st + n2 ≤ N) with
        | false => rw [hc] at h; cases h
        | true =>
          rw [hc, cond_true] at h
          have hs := src_row (nl := nl) hb (of_decide_eq_true hc)
          split at h
          · refine ⟨1, _, fl, h, ?_⟩
            have e1 : ∀ i, i < 1 → st + i = st := fun i hi => by omega
            refine ⟨fun W S ρ w hr hx i hi => ?_, fun W S hS hx => ⟨fun i hi => ?_, fun hf i hi => ?_⟩, fun W S ρ w hr hx h0 => ?_⟩
            · have := hs.lens W S ρ w hr hx i hi; rw [e1 i hi] at this; exact this
            · have := (hs.sc W S hS hx).1 i hi; simp only [e1 i hi] at this; exact this
            · have := (hs.sc W S hS hx).2 hf i hi; simp only [e1 i hi] at this; exact this
            · obtain ⟨ad, c, g1, g2⟩ := hs.run W S ρ w hr hx h0
              refine ⟨ad, c, g1, fun i j y hi hy => ?_⟩
              exact g2 i j y hi (by simp only [e1 i hi]; exact hy)
          · exact ⟨_, _, fl, h, hs⟩
      · cases h
    · cases h
  · rename_i ad sz2 n2 cap get
    split at h
    · rename_i hs
      subst hs
      exact ⟨_, _, _, h, src_as⟩
    · cases h
  · cases h
/-- An append, done. -/
theorem app_step {P : Program} {T' : List V} {o : Oper} {s x : Operand} {t e : TypeId} {H H' : Heap} {sv xv : C} {sz n n2 : Nat} {get2 : Nat → List C} {fl2 : Bool} {l : List Foot} {i : TypeInfo} {zc : List C} (ho : o.op = .call ⟨.builtin .append, #[s, x], #[t, t]⟩) (hs : ev T' s = some (.u (.c sv))) (hx : ev T' x = some (.u (.c xv))) (hu : P.underlying t = some (.slice e)) (hsz : szOf P e = some sz) (hsz0 : 0 < sz) (hz : zeroC P e = some zc) (hzl : zc.length = sz) (hi : P.info? e = some i)
    (hsrc : Src H xv sz n2 get2 fl2) (h0 : 0 < n2) (hb : bndA (n + n2) i.bytes = true) (happ : AppTo H e sz n2 get2 fl2 sv n H' l) : StepTo P T' o H (.u (.c (.row H.length sz 0 (n + n2) true))) H' l := by
  have hlen := app_len happ
  have hisz : i.size = sz := by unfold szOf at hsz; rw [hi] at hsz; simpa using hsz
  unfold bndA at hb
  rw [Bool.and_eq_true, decide_eq_true_eq, decide_eq_true_eq] at hb
  refine ⟨app_gr happ, fun W S hT hH hlt => ⟨?_, scH_mono (app_sc happ hsrc hH (ev_sc hx hT)) (fun b => .inl)⟩, (fun e => by cases e), fun W S ρ a w hT hH hlt ht hr a0 K Q hK => ?_⟩
  · show ext S H H' H.length
    exact .inr ⟨Nat.le_refl _, by omega⟩
  · obtain ⟨ρ', w', hrun, h1, h2⟩ := app_run (ty := o.type) happ hsrc h0 hu hi hisz hsz0 ⟨zc, hz, hzl⟩ hb.1 hb.2 hr hH (ev_sc hx hT) hlt
    have hex : (execOp a.eval o).run P w = .ok (.value ((V.u (.c (.row H.length sz 0 (n + n2) true))).den ρ')) w' := by
      have es : a.eval s = sv.den ρ := ev_den hs ht
      have ex : a.eval x = xv.den ρ := ev_den hx ht
      simp only [execOp, ho, resolve, invoke, builtin, Sem.run_bind, Sem.run_pure, Result.andThen_ok, List.map_toArray, List.map_cons, List.map_nil, es, ex, hrun]
      rfl
    rw [hex]
    exact hK ρ' w' h1 h2
theorem effA_sound {α : Type} {P : Program} {call : CallT α} (hc : CallOk P call) {T : List V} {H : Heap} {o : Oper} {k : V → Heap → List Foot → Option α} {r : α} (h : effA P call T H o k = some r) :
    ∃ v H' l, k v H' l = some r ∧ ∀ T', Agree o T T' → StepTo P T' o H v H' l := by
  unfold effA at h
  split at h
  · rename_i t x y ho
    have store : ∀ (p : C) (u : U) (H' : Heap) (f : Foot), ev T x = some (.u (.c p)) → ev T y = some (.u u) → szOf P t = some u.cells.length → StoreTo H u.cells p H' f → ∀ T', Agree o T T' → StepTo P T' o H undefV H' [f] := by
      intro p u H' f hx hy hz hst T' hT'
      unfold Agree at hT'
      simp only [ho, Op.operands] at hT'
      replace hx := (hT' x (by simp)).trans hx
      replace hy := (hT' y (by simp)).trans hy
      refine ⟨store_gr hst, fun W S hT hH _ => ⟨undefV_sc _ _, ?_⟩, (fun e => by cases e), fun W S ρ a w hT hH hlt ht hr a0 K Q hK => ?_⟩
      · refine scH_mono (store_sc hst hH ?_) (fun b => .inl)
        have := ev_sc hy hT
        cases u with
        | c y => intro z hz; simp only [U.cells, List.mem_singleton] at hz; subst hz; exact this
        | a ys => exact this
      · obtain ⟨w', ad, hp, hrun, hr', hf⟩ := store_run hst hz hr
        have hrun' : (execOp a.eval o).run P w = .ok .skip w' := by
          have ex : a.eval x = p.den ρ := ev_den hx ht
          have ey : a.eval y = u.den ρ := ev_den hy ht
          simp only [execOp, ho, ex, ey, hp, Instr.storeAt, Instr.sureAddr, Sem.run_bind, Sem.run_pure, Result.andThen_ok, hrun]
        rw [hrun']
        exact hK ρ w' hr' hf
    unfold storeA at h
    split at h
    · rename_i b q u hx hy
      split at h
      · rename_i cs hb
        split at h
        · rename_i hz
          rw [upd_eq] at h
          exact ⟨_, _, _, h, store _ _ _ _ hx hy hz.1 (.c b q cs hb hz.2)⟩
        · cases h
      · cases h
    · rename_i b sz i q u hx hy
      split at h
      · rename_i e sz' n get fl hb
        split at h
        · rename_i hz
          obtain ⟨hz1, rfl, hz3⟩ := hz
          cases hc' : decide (i < n) with
          | false => rw [hc'] at h; cases h
          | true =>
            rw [hc', cond_true, upd_eq] at h
            exact ⟨_, _, _, h, store _ _ _ _ hx hy hz1 (.r b sz' i q e n get fl hb (of_decide_eq_true hc') hz3)⟩
        · cases h
      · cases h
    · cases h
  · rename_i f args ts ho
    unfold callA at h
    split at h
    · rename_i g first caps vs hf hvs
      have hany : ∀ x ∈ first.map ptrV ++ vs ++ caps.map ptrV, x ≠ .any := by
        intro x hx
        rw [List.mem_append, List.mem_append] at hx
        rcases hx with (hx | hx) | hx
        · rw [List.mem_map] at hx; obtain ⟨p, hp, rfl⟩ := hx; intro e; cases e
        · exact evs_some hvs x hx
        · rw [List.mem_map] at hx; obtain ⟨p, hp, rfl⟩ := hx; intro e; cases e
      obtain ⟨v, H', l, hk, hrt⟩ := hc _ _ _ _ _ h hany
      refine ⟨v, H', l, hk, fun T' hT' => ?_⟩
      unfold Agree at hT'
      simp only [ho, Op.operands] at hT'
      replace hf := (hT' f (by simp [Call.operands])).trans hf
      replace hvs := (evs_congr (fun x hx => hT' x (by simp [Call.operands]; exact .inr (by simpa using hx)))).trans hvs
      have hargs : ∀ (W : World) (S : Nat → Prop), ScT W S T' → ∀ x ∈ first.map ptrV ++ vs ++ caps.map ptrV, x.sc W S := by
        intro W S hT x hx
        have hfs : (∀ p ∈ first, S p.1) ∧ ∀ p ∈ caps, S p.1 := ev_sc hf hT
        rw [List.mem_append, List.mem_append] at hx
        rcases hx with (hx | hx) | hx
        · rw [List.mem_map] at hx; obtain ⟨p, hp, rfl⟩ := hx; exact hfs.1 p hp
        · exact evs_sc hvs hT x hx
        · rw [List.mem_map] at hx; obtain ⟨p, hp, rfl⟩ := hx; exact hfs.2 p hp
      refine ⟨hrt.gr, fun W S hT hH hlt => hrt.sc W S (hargs W S hT) hH hlt, hrt.some, fun W S ρ a w hT hH hlt ht hr a0 K Q hK => ?_⟩
      have e1 : args.map a.eval = (vs.map (V.den ρ)).toArray := by
        apply Array.ext'; simpa using evs_den hvs ht
      have hfe : a.eval f = .func (.func g) (first.map (pv ρ)).toArray (caps.map (pv ρ)).toArray := ev_den hf ht
      have hargs' : (first.map (pv ρ)).toArray ++ (vs.map (V.den ρ)).toArray ++ (caps.map (pv ρ)).toArray = ((first.map ptrV ++ vs ++ caps.map ptrV).map (V.den ρ)).toArray := by
        rw [List.map_append, List.map_append, args_den, args_den]; simp
      have hrun : (execOp a.eval o).run P w = .ok (.enter g ((first.map ptrV ++ vs ++ caps.map ptrV).map (V.den ρ)).toArray) w := by
        simp only [execOp, ho, resolve, e1, hfe, Deferred.ofValue, Sem.run_bind, Sem.run_pure, Result.andThen_ok, invoke]
        rw [hargs']
        exact hrt.enter _ w
      rw [hrun]
      refine (hrt.run W S ρ w (hargs W S hT) hH hlt hr).mono ?_
      rintro e w' ⟨ρ', rfl, h1, h2⟩
      exact hK ρ' w' h1 h2
    · cases h
  · rename_i args ts ho
    split at h
    · rename_i s x t t' hargs hts
      split at h
      · rename_i htt
        subst htt
        have ha : args = #[s, x] := by apply Array.ext'; simpa using hargs
        have hts' : ts = #[t, t] := by apply Array.ext'; simpa using hts
        subst ha
        subst hts'
        unfold appA at h
        split at h
        · rename_i sv xv e hs hx hu
          split at h
          · rename_i m zc i hsz hz hi
            split at h
            · rename_i hzl
              obtain ⟨n2, get2, fl2, hnew, hsrc⟩ := srcA_spec h
              clear h
              have h := hnew
              clear hnew
              cases h0 : decide (0 < n2) with
              | false => rw [h0] at h; cases h
              | true =>
                rw [h0, cond_true] at h
                have h0' := of_decide_eq_true h0
                have key : ∀ (n : Nat) (H' : Heap) (l : List Foot), bndA (n + n2) i.bytes = true → AppTo H e (m + 1) n2 get2 fl2 sv n H' l → ∀ T', Agree o T T' → StepTo P T' o H (.u (.c (.row H.length (m + 1) 0 (n + n2) true))) H' l := by
                  intro n H' l hb happ T' hT'
                  unfold Agree at hT'
                  simp only [ho, Op.operands, Call.operands] at hT'
                  exact app_step ho ((hT' s (by simp)).trans hs) ((hT' x (by simp)).trans hx) hu hsz (by omega) hz hzl hi hsrc h0' hb happ
                split at h
                · cases hb : bndA n2 i.bytes with
                  | false => rw [hb] at h; cases h
                  | true =>
                    rw [hb, cond_true] at h
                    have := key 0 _ _ (by rw [Nat.zero_add]; exact hb) .nil
                    rw [Nat.zero_add] at this
                    exact ⟨_, _, _, h, this⟩
                · rename_i b sz st n nl
                  split at h
                  · rename_i e' sz' N get fl hblk
                    split at h
                    · rename_i hq
                      obtain ⟨rfl, rfl, rfl, rfl⟩ := hq
                      cases h1 : (nl || decide (0 < n)) with
                      | false => rw [h1] at h; cases h
                      | true =>
                        rw [h1, cond_true] at h
                        cases h2 : decide (n ≤ N) with
                        | false => rw [h2] at h; cases h
                        | true =>
                          rw [h2, cond_true] at h
                          cases hb : bndA (n + n2) i.bytes with
                          | false => rw [hb] at h; cases h
                          | true =>
                            rw [hb, cond_true, upd_eq] at h
                            refine ⟨_, _, _, h, key n _ _ hb (.row b n N nl get fl hblk (of_decide_eq_true h2) fun hn0 => ?_)⟩
                            subst hn0
                            simpa using h1
                    · cases h
                  · cases h
                · cases h
            · cases h
          · cases h
        · cases h
      · cases h
    · cases h
  · cases h
theorem Agree.refl (o : Oper) (T : List V) : Agree o T T := fun _ _ => rfl
theorem pureD_some {P : Program} {T : List V} {o : Oper} {v : V} (h : pureD P T o = some v) : v ≠ .any := by
  have hg : ∀ {v}, gen P T o = some v → v ≠ .any := by
    intro v h
    unfold gen at h
    split at h
    · split at h
      · unfold ofValue at h
        split at h <;> (rw [Option.map_eq_some_iff] at h; obtain ⟨l, _, rfl⟩ := h; intro e; cases e)
      · cases h
    · cases h
  unfold pureD at h
  split at h
  all_goals first
    | exact ev_some h
    | exact hg h
    | (split at h <;> first | exact hg h | (cases h; intro e; cases e) | (rw [Option.map_eq_some_iff] at h; obtain ⟨l, _, rfl⟩ := h; intro e; cases e) | cases h | (split at h <;> first | (cases h; intro e; cases e) | cases h))
    | cases h
theorem pureA_some {α : Type} {P : Program} {T : List V} {o : Oper} {k : V → Option α} {r : α} (h : pureA P T o k = some r) : ∃ v, k v = some r ∧ v ≠ .any ∧ ∀ T', Agree o T T' → Pure P T' o v := by
  have := pureA_pure (k := fun v => match v with
    | .any => none
    | v => k v) (P := P) (T := T) (o := o) (r := r)
  have h2 : pureA P T o (fun v => match v with
    | .any => none
    | v => k v) = some r := by
    unfold pureA at h ⊢
    split
    · rename_i ho
      simp only [ho] at h
      split
      · rename_i β p q hc hx hy
        simp only [hc, hx, hy] at h
        cases β
        · simp only [cond_false] at h ⊢
          cases q with
          | any => exact absurd rfl (ev_some hy)
          | _ => exact h
        · simp only [cond_true] at h ⊢
          cases p with
          | any => exact absurd rfl (ev_some hx)
          | _ => exact h
      · rename_i hn
        split at h
        · rename_i β p q hc hx hy; exact absurd hy (hn β p q hc hx)
        · exact h
    · rename_i ho; simp only [ho] at h; exact h
    · rename_i ho; simp only [ho] at h; exact h
    · rename_i ho; simp only [ho] at h; exact h
    · rename_i ho; simp only [ho] at h; exact h
    · rename_i ho; simp only [ho] at h; exact h
    · rename_i ho; simp only [ho] at h; exact h
    · rename_i n1 n2 n3 n4 n5 n6 n7
      split at h
      · rename_i ho; exact absurd ho (n1 _ _ _)
      · rename_i ho; exact absurd ho (n2 _ _ _)
      · rename_i ho; exact absurd ho (n3 _ _ _ _)
      · rename_i ho; exact absurd ho (n4 _ _ _ _)
      · rename_i ho; exact absurd ho (n5 _ _ _ _)
      · rename_i ho; exact absurd ho (n6 _ _ _ _)
      · rename_i ho; exact absurd ho (n7 _ _ _ _)
      · split at h
        · rename_i v hv
          simp only [hv]
          cases v with
          | any => exact absurd rfl (pureD_some hv)
          | _ => exact h
        · cases h
  obtain ⟨v, hv, hp⟩ := this h2
  cases v with
  | any => cases hv
  | u x => exact ⟨_, hv, (fun e => by cases e), hp⟩
  | t xs => exact ⟨_, hv, (fun e => by cases e), hp⟩
theorem load_step {P : Program} {T' : List V} {o : Oper} {t : TypeId} {x : Operand} {p : C} {u : U} {fs : List Foot} {H : Heap} (ho : o.op = .load t x) (hx : ev T' x = some (.u (.c p))) (hl : loadP P H t p = some (u, fs)) : StepTo P T' o H (.u u) H [] := by
  refine ⟨Gr.refl H, fun W S hT hH _ => ⟨U.sc_mono (fun b => .inl) (loadP_sc hl hH (ev_sc hx hT)), scH_mono hH (fun b => .inl)⟩, (fun e => by cases e), fun W S ρ a w hT hH hlt ht hr a0 K Q hK => ?_⟩
  obtain ⟨ad, h1, h2⟩ := loadP_run hl hr (ev_sc hx hT)
  have hrun : (execOp a.eval o).run P w = .ok (.value (u.den ρ)) w := by
    have ex : a.eval x = p.den ρ := ev_den hx ht
    simp only [execOp, ho, ex, h1, Instr.loadAt, Instr.sureAddr, Sem.run_bind, Sem.run_pure, Result.andThen_ok, h2]
  rw [hrun]
  exact hK ρ w hr (Fr.refl H ρ w)
theorem loadO_spec {α : Type} {P : Program} {T : List V} {H : Heap} {o : Oper} {k : U → List Foot → Option α} {r : α} (h : loadO P T H o k = some r) : ∃ t x p u fs, o.op = .load t x ∧ ev T x = some (.u (.c p)) ∧ loadP P H t p = some (u, fs) ∧ k u fs = some r := by
  unfold loadO at h
  split at h
  · rename_i t x ho
    split at h
    · rename_i p hp
      obtain ⟨u, fs, h1, h2⟩ := loadA_spec h
      exact ⟨t, x, p, u, fs, ho, hp, h1, h2⟩
    · cases h
  · cases h
theorem stepA_sound {α : Type} {P : Program} {call : CallT α} (hc : CallOk P call) {T : List V} {H : Heap} {o : Oper} {k : V → Heap → List Foot → Option α} {r : α} (h : stepA P call T H o k = some r) :
    ∃ v H' l, k v H' l = some r ∧ StepTo P T o H v H' l := by
  unfold stepA at h
  split at h
  · obtain ⟨t, x, p, u, fs, ho, hx, hl, hk⟩ := loadO_spec h
    exact ⟨_, _, _, hk, load_step ho hx hl⟩
  · split at h
    · rename_i cs ak hal
      obtain ⟨hs, hfit, hrun⟩ := allocD_run hal
      have hlen : (H ++ [some (ak.blk cs)]).length = H.length + 1 := by simp
      have hin : ∀ S : Nat → Prop, ext S H (H ++ [some (ak.blk cs)]) H.length := fun S => .inr ⟨Nat.le_refl _, by rw [hlen]; omega⟩
      refine ⟨_, _, _, h, gr_push H _, fun W S hT hH hlt => ⟨?_, fun b B hb => ?_⟩, ?_, fun W S ρ a w hT hH hlt ht hr a0 K Q hK => ?_⟩
      · cases ak with
        | ptr => exact hin S
        | slice e sz n => exact hin S
      · rcases blk_push hb with ⟨_, hb⟩ | ⟨_, rfl⟩
        · exact Blk.sc_mono (fun b => .inl) (hH b B hb)
        · exact Blk.sc_mono (fun b => .inl) (blk_sc hfit (hs W S hT))
      · cases ak <;> (intro e; cases e)
      · obtain ⟨ρ', hρ⟩ : ∃ ρ' : Ren, ρ' = fun c => if c = H.length then ⟨w.heap.size, ak.cap⟩ else ρ c := ⟨_, rfl⟩
        have hnew : ρ' H.length = ⟨w.heap.size, ak.cap⟩ := by rw [hρ]; simp
        have hre : ∀ b, b < H.length → ρ' b = ρ b := fun b hb => by rw [hρ]; simp only; rw [if_neg (by omega)]
        obtain ⟨e, he, hex⟩ := hrun H.length ρ' a w (TR_congr (fun b hb => hre b (hlt b hb)) hT ht) hnew
        obtain ⟨g1, g2⟩ := hr.push hH hlt (hs W S hT) hfit he hre hnew
        rw [hex]
        exact hK ρ' _ g1 g2
    · cases h
  · obtain ⟨v, H', l, hk, hs⟩ := effA_sound hc h
    exact ⟨v, H', l, hk, hs T (Agree.refl o T)⟩
  · obtain ⟨v, hk, hn, hp⟩ := pureA_some h
    exact ⟨v, H, [], hk, pure_step (hp T (Agree.refl o T)) hn⟩
end Go.Proofs.Ytbgdfikfldkjbaa.AI
