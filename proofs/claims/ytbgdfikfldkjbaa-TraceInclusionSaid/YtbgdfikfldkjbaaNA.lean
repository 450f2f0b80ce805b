/- Functions over plain numbers and slices of rows of numbers, told by shape. -/
import Derived.Test.YtbgdfikfldkjbaaNF
namespace Go.Proofs.Ytbgdfikfldkjbaa.AI
set_option linter.unnecessarySimpa false
open Go
set_option linter.unusedVariables false
set_option linter.unusedSimpArgs false
/-- For all numbers below n. -/
def allN (p : Nat → Bool) : Nat → Bool
  | 0 => true
  | n + 1 => allN p n && p n
theorem allN_iff {p : Nat → Bool} : ∀ {n : Nat}, allN p n = true ↔ ∀ i, i < n → p i = true
  | 0 => by simp [allN]
  | n + 1 => by
    rw [allN, Bool.and_eq_true, allN_iff]
    constructor
    · rintro ⟨h1, h2⟩ i hi
      by_cases e : i = n
      · subst e; exact h2
      · exact h1 i (by omega)
    · exact fun h => ⟨fun i hi => h i (by omega), h n (by omega)⟩
/-- k numbers. -/
def isInts : Nat → List C → Bool
  | 0, [] => true
  | k + 1, .int .i64 _ :: r => isInts k r
  | _, _ => false
def numC : C → Int
  | .int _ n => n
  | _ => 0
def numOf (g : Nat → List C) (j m : Nat) : Int := match nth (g j) m with
  | some c => numC c
  | none => 0
/-- Rows of k numbers. -/
def arrC (k : Nat) (v : Nat → Nat → Int) (j : Nat) : List C := (List.range k).map fun m => .int .i64 (v j m)
theorem isInts_eq : ∀ {k : Nat} {l : List C}, isInts k l = true → l = (List.range k).map fun m => .int .i64 (match nth l m with
    | some c => numC c
    | none => 0)
  | 0, [], h => rfl
  | 0, c :: r, h => by simp [isInts] at h
  | k + 1, [], h => by simp [isInts] at h
  | k + 1, c :: r, h => by
    unfold isInts at h
    split at h
    · rename_i e1 e2; cases e1
    · rename_i k' n r' e1 e2
      cases e1
      cases e2
      rw [List.range_succ_eq_map, List.map_cons, List.map_map]
      have := isInts_eq h
      conv => lhs; rw [this]
      rfl
    · cases h
inductive D where
  | i (n : Int)
  | s (k n : Nat) (v : Nat → Nat → Int)
  | f (g : FuncId)
inductive A where
  | o (d : D)
  | a (ds : List D)
def cellT (c : C) (F : D → Tree) : Tree := match c with
  | .int .i64 n => F (.i n)
  | .as _ k n _ g => .test (allN (fun j => isInts k (g j)) n) (F (.s k n (numOf g))) .no
  | .fn g [] [] => F (.f g)
  | _ => .no
def cellsT : List C → (List D → Tree) → Tree
  | [], F => F []
  | c :: r, F => cellT c fun d => cellsT r fun ds => F (d :: ds)
def argT (v : V) (F : A → Tree) : Tree := match v with
  | .u (.c c) => cellT c fun d => F (.o d)
  | .u (.a cs) => cellsT cs fun ds => F (.a ds)
  | _ => .no
def argsT : List V → (List A → Tree) → Tree
  | [], F => F []
  | v :: r, F => argT v fun a => argsT r fun l => F (a :: l)
/-- A cell as it is said, somewhere. -/
inductive RealC : D → C → Prop
  | i (n : Int) : RealC (.i n) (.int .i64 n)
  | s (k n : Nat) (v : Nat → Nat → Int) (ad : Option Addr) (cap : Nat) : RealC (.s k n v) (.as ad k n cap (arrC k v))
  | f (g : FuncId) : RealC (.f g) (.fn g [] [])
inductive RealCs : List D → List C → Prop
  | nil : RealCs [] []
  | cons {d : D} {c : C} {ds : List D} {cs : List C} (h : RealC d c) (r : RealCs ds cs) : RealCs (d :: ds) (c :: cs)
inductive RealA : A → V → Prop
  | o {d : D} {c : C} (h : RealC d c) : RealA (.o d) (.u (.c c))
  | a {ds : List D} {cs : List C} (h : RealCs ds cs) : RealA (.a ds) (.u (.a cs))
inductive RealAs : List A → List V → Prop
  | nil : RealAs [] []
  | cons {a : A} {v : V} {l : List A} {r : List V} (h : RealA a v) (t : RealAs l r) : RealAs (a :: l) (v :: r)
/-- x' says of memory what x says. -/
def Like (x x' : C) : Prop := (∀ ρ, x'.den ρ = x.den ρ) ∧ (∀ W S, x.sc W S → x'.sc W S) ∧ idsC x' = []
theorem cellT_val {x c : C} (hb : bareC x = c) {F : D → Tree} {y : V × Heap} (h : (cellT c F).val = some y) : ∃ d x', (F d).val = some y ∧ RealC d x' ∧ Like x x' := by
  subst hb
  unfold cellT at h
  split at h
  · rename_i n e
    have := bareC_inv e rfl
    subst this
    exact ⟨_, _, h, .i n, (fun _ => rfl), (fun _ _ h => h), rfl⟩
  · rename_i ad0 k n cap0 g e
    simp only [Tree.val] at h
    cases hc : allN (fun j => isInts k (g j)) n
    · rw [hc] at h; cases h
    rw [hc, cond_true] at h
    cases x with
    | «as» ad sz m cap g' =>
      simp only [bareC] at e
      injection e with e1 e2 e3 e4 e5
      subst e2
      subst e3
      subst e5
      have hg : ∀ j, j < m → g' j = arrC sz (numOf g') j := fun j hj => isInts_eq (allN_iff.1 hc j hj)
      refine ⟨_, .as ad sz m cap (arrC sz (numOf g')), h, .s sz m _ ad cap, (fun _ => rfl), (fun W S hs => ?_), rfl⟩
      cases hs with
      | «as» _ _ _ _ _ hl hn hcap hok hcc =>
        exact AOk.as ad sz m cap _ (fun i hi => by rw [← hg i hi]; exact hl i hi) hn hcap (fun i j x hi hx => hok i j x hi (by rw [hg i hi]; exact hx)) (fun i j x a hi hx ha => hcc i j x a hi (by rw [hg i hi]; exact hx) ha)
    | _ => simp [bareC] at e
  · rename_i g e
    have := bareC_inv e rfl
    subst this
    exact ⟨_, _, h, .f g, (fun _ => rfl), (fun _ _ h => h), rfl⟩
  · cases h
theorem cellsT_val : ∀ {xs : List C} {F : List D → Tree} {y : V × Heap}, (cellsT (xs.map bareC) F).val = some y → ∃ ds xs', (F ds).val = some y ∧ RealCs ds xs' ∧ (∀ ρ, xs'.map (C.den ρ) = xs.map (C.den ρ)) ∧ (∀ W S, (∀ x ∈ xs, x.sc W S) → ∀ x ∈ xs', x.sc W S) ∧ ∀ x ∈ xs', idsC x = []
  | [], F, y, h => ⟨[], [], h, .nil, (fun _ => rfl), (fun _ _ _ x hx => by cases hx), (fun x hx => by cases hx)⟩
  | x :: xs, F, y, h => by
    obtain ⟨d, x', h, r1, l1, l2, l3⟩ := cellT_val rfl (show (cellT (bareC x) fun d => cellsT (xs.map bareC) fun ds => F (d :: ds)).val = some y from h)
    obtain ⟨ds, xs', h, r2, m1, m2, m3⟩ := cellsT_val h
    refine ⟨d :: ds, x' :: xs', h, .cons r1 r2, fun ρ => by rw [List.map_cons, List.map_cons, l1, m1], fun W S hs z hz => ?_, fun z hz => ?_⟩
    · rcases List.mem_cons.1 hz with rfl | hz
      · exact l2 W S (hs x (List.mem_cons_self ..))
      · exact m2 W S (fun w hw => hs w (List.mem_cons_of_mem _ hw)) z hz
    · rcases List.mem_cons.1 hz with rfl | hz
      · exact l3
      · exact m3 z hz
theorem argT_val {x : V} {F : A → Tree} {y : V × Heap} (h : (argT (bareV x) F).val = some y) : ∃ a x', (F a).val = some y ∧ RealA a x' ∧ (∀ ρ, x'.den ρ = x.den ρ) ∧ (∀ W S, x.sc W S → x'.sc W S) ∧ idsV x' = [] ∧ x' ≠ .any := by
  cases x with
  | u x =>
    cases x with
    | c x =>
      obtain ⟨d, x', h, r, l1, l2, l3⟩ := cellT_val rfl (show (cellT (bareC x) fun d => F (.o d)).val = some y from h)
      exact ⟨_, .u (.c x'), h, .o r, l1, l2, l3, (fun e => by cases e)⟩
    | a xs =>
      obtain ⟨ds, xs', h, r, l1, l2, l3⟩ := cellsT_val (show (cellsT (xs.map bareC) fun ds => F (.a ds)).val = some y from h)
      exact ⟨_, .u (.a xs'), h, .a r, (fun ρ => by simp only [V.den, U.den]; rw [l1]), l2, List.flatMap_eq_nil_iff.2 l3, (fun e => by cases e)⟩
  | t xs => cases h
  | any => cases h
theorem argsT_val : ∀ {xs : List V} {F : List A → Tree} {y : V × Heap}, (argsT (xs.map bareV) F).val = some y → ∃ l xs', (F l).val = some y ∧ RealAs l xs' ∧ (∀ ρ, xs'.map (V.den ρ) = xs.map (V.den ρ)) ∧ (∀ W S, (∀ x ∈ xs, x.sc W S) → ∀ x ∈ xs', x.sc W S) ∧ ∀ x ∈ xs', idsV x = [] ∧ x ≠ .any
  | [], F, y, h => ⟨[], [], h, .nil, (fun _ => rfl), (fun _ _ _ x hx => by cases hx), (fun x hx => by cases hx)⟩
  | x :: xs, F, y, h => by
    obtain ⟨a, x', h, r1, l1, l2, l3⟩ := argT_val (show (argT (bareV x) fun a => argsT (xs.map bareV) fun l => F (a :: l)).val = some y from h)
    obtain ⟨l, xs', h, r2, m1, m2, m3⟩ := argsT_val h
    refine ⟨a :: l, x' :: xs', h, .cons r1 r2, fun ρ => by rw [List.map_cons, List.map_cons, l1, m1], fun W S hs z hz => ?_, fun z hz => ?_⟩
    · rcases List.mem_cons.1 hz with rfl | hz
      · exact l2 W S (hs x (List.mem_cons_self ..))
      · exact m2 W S (fun w hw => hs w (List.mem_cons_of_mem _ hw)) z hz
    · rcases List.mem_cons.1 hz with rfl | hz
      · exact l3
      · exact m3 z hz
theorem runs_like {P : Program} {f : FuncId} {args args' : List V} {H : Heap} {v : V} {H' : Heap} {l : List Foot} (h : RunsTo P f args' H v H' l) (hd : ∀ ρ, args'.map (V.den ρ) = args.map (V.den ρ)) (hs : ∀ W S, (∀ x ∈ args, x.sc W S) → ∀ x ∈ args', x.sc W S) : RunsTo P f args H v H' l :=
  ⟨h.gr, fun W S ha => h.sc W S (hs W S ha), h.enter, h.some, fun W S ρ w ha hH hlt hr => by rw [← hd ρ]; exact h.run W S ρ w (hs W S ha) hH hlt hr⟩
/-- A function over numbers, slices of rows of numbers, functions. -/
theorem told_args {P : Program} (hm : P.follows .mixedOrders = true) {orc : List (FuncId × (List V → Tree))} (ho : OrcOk P orc) {fns : List (FuncId × Func × List (Nat × LV))} (hf : FnsOk P fns) {fuel d : Nat} {f : FuncId} {F : List A → Tree} (hen : ∀ args w, (callFunc f args).run P w = .ok (.enter f args) w)
    (hsv : ∀ args v H, (argsT args F).val = some (v, H) → v ≠ .any ∧ ∀ W, v.sc W (fun b => b < H.length) ∧ ScH W (fun b => b < H.length) H)
    (h : ∀ l x, (F l).val = some x → ∀ args, RealAs l args → ans P orc fns fuel d f args = some x) : Told P f (fun args => argsT args F) := by
  refine ⟨fun args v H e => (hsv args v H e).1, fun args v H e => (hsv args v H e).2, hen, fun args v H ha hg => ?_⟩
  obtain ⟨l, args', h1, h2, h3, h4, h5⟩ := argsT_val hg
  obtain ⟨v', H', m, hk, hr⟩ := env_ok hm ho hf fuel d f args' [] _ (v, H) (h l (v, H) h1 args' h2) (fun x hx => (h5 x hx).2)
  obtain ⟨v2, H2, hk, hr⟩ := tidy_runs hr hk
  cases hk
  exact ⟨m, runs_like hr h3 h4⟩
/-- A told function, called from a walk by hand: what the kit's tactics want. -/
theorem told_calls {P : Program} {f : FuncId} {g : List V → Tree} (h : Told P f g) {args : List V} {v : V} (hi : ∀ x ∈ args, idsV x = [] ∧ x ≠ .any) (hg : (g (args.map bareV)).val = some (v, [])) (ρ : Ren) {w : World} (hs : ∀ x ∈ args, x.sc w fun _ => False) :
    Calls P f (args.map (V.den ρ)).toArray w fun e w' => e = .returned (v.den ρ) ∧ RowKit.Below w.heap.size w w' := by
  obtain ⟨l, hr⟩ := h.run args v [] hi hg
  refine (start_of hr hs (fun x hx => (hi x hx).1) ρ (fun _ _ => rfl) (Nat.le_refl _)).mono ?_
  rintro e w' ⟨ρ', rfl, _, hb, _, hv, _⟩
  refine ⟨?_, hb⟩
  rw [V.den_congr (ρ' := ρ') (ρ := ρ) (S := fun b => b < ([] : Heap).length) (fun b hb => by simp at hb) hv]
end Go.Proofs.Ytbgdfikfldkjbaa.AI
