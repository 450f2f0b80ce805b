/- A reading of Go's code as a function: values and memory, told apart from the machine's. -/
import Derived.Laws.Entries
import Derived.Laws.StructEq
import Derived.Laws.Small
import Derived.Laws.Rows
import Derived.Laws.Tables
import Derived.Laws.CopyRow
import Derived.Orders
import Derived.Below
import Derived.KernelRfl
import Derived.Tactics
namespace Go.Proofs.Ytbgdfikfldkjbaa.AI
set_option linter.unnecessarySimpa false
open Go
set_option linter.unusedVariables false
set_option linter.unusedSimpArgs false
/-! Values. A block of memory is known by a number; where it lies is a renaming's to say. Memory that came in is known by what stands in it. -/
inductive C where
  | bool (b : Bool) | int (k : IntKind) (n : Int) | str (s : ByteArray)
  | nilp | nilf | nils | yld (l : Nat)
  | ptr (b o : Nat)
  | rp (b sz i o : Nat)
  | row (b sz st n : Nat) (nl : Bool)
  | as (ad : Option Addr) (sz n cap : Nat) (get : Nat → List C)
  | ap (ad : Addr) (cs : List C)
  | fn (f : FuncId) (first caps : List (Nat × Nat))
inductive U where
  | c (x : C) | a (cs : List C)
inductive V where
  | u (x : U) | t (xs : List U) | any
/-- Where a block lies: the machine's block; the capacity, in elements. -/
structure RI where
  r : Nat
  k : Nat
abbrev Ren := Nat → RI
def ri0 : RI := ⟨0, 0⟩
def pv (ρ : Ren) (p : Nat × Nat) : Value := .pointer (some ⟨(ρ p.1).r, p.2, none⟩)
def C.den (ρ : Ren) : C → Value
  | .bool b => .bool b
  | .int k n => .int k n
  | .str s => .string s
  | .nilp => .pointer none
  | .nilf => .nilFunc
  | .nils => .slice none 0 0
  | .yld l => .func (.yield l) #[] #[]
  | .ptr b o => .pointer (some ⟨(ρ b).r, o, none⟩)
  | .rp b sz i o => .pointer (some ⟨(ρ b).r, i * sz + o, none⟩)
  | .row b sz st n nl => .slice (cond (nl && n == 0) none (some ⟨(ρ b).r, st * sz, none⟩)) n (cond (nl && n == 0) 0 ((ρ b).k - st))
  | .as ad _ n cap _ => .slice ad n cap
  | .ap ad _ => .pointer (some ad)
  | .fn f first caps => .func (.func f) (first.map (pv ρ)).toArray (caps.map (pv ρ)).toArray
def U.den (ρ : Ren) : U → Value
  | .c x => x.den ρ
  | .a cs => .agg (cs.map (C.den ρ)).toArray
def V.den (ρ : Ren) : V → Value
  | .u x => x.den ρ
  | .t xs => .tuple (xs.map (U.den ρ)).toArray
  | .any => undef
/-- The cells of a value of one variable. -/
def U.cells : U → List C
  | .c x => [x]
  | .a cs => cs
/-- Memory that came in holds what is said of it. -/
inductive AOk (W : World) : C → Prop
  | bool (b : Bool) : AOk W (.bool b)
  | int (k : IntKind) (n : Int) : AOk W (.int k n)
  | str (s : ByteArray) : AOk W (.str s)
  | nilp : AOk W .nilp
  | nilf : AOk W .nilf
  | nils : AOk W .nils
  | yld (l : Nat) : AOk W (.yld l)
  | fn (f : FuncId) : AOk W (.fn f [] [])
  | as (ad : Option Addr) (sz n cap : Nat) (get : Nat → List C) (hl : ∀ i, i < n → (get i).length = sz) (hn : ad = none → n = 0) (hcap : n ≤ cap)
      (hok : ∀ (i j : Nat) (x : C), i < n → (get i)[j]? = some x → AOk W x) (hc : ∀ (i j : Nat) (x : C) (a : Addr), i < n → (get i)[j]? = some x → ad = some a → a.block < W.heap.size ∧ W.cell? (a.add (i * sz + j)) = some (x.den fun _ => ri0)) : AOk W (.as ad sz n cap get)
  | ap (ad : Addr) (cs : List C) (hok : ∀ (j : Nat) (x : C), cs[j]? = some x → AOk W x) (hc : ∀ (j : Nat) (x : C), cs[j]? = some x → ad.block < W.heap.size ∧ W.cell? (ad.add j) = some (x.den fun _ => ri0)) : AOk W (.ap ad cs)
/-- Which blocks a value names. -/
def C.sc (W : World) (S : Nat → Prop) : C → Prop
  | .ptr b _ => S b
  | .rp b _ _ _ => S b
  | .row b _ _ _ _ => S b
  | .fn _ first caps => (∀ p ∈ first, S p.1) ∧ ∀ p ∈ caps, S p.1
  | x => AOk W x
def U.sc (W : World) (S : Nat → Prop) : U → Prop
  | .c x => x.sc W S
  | .a cs => ∀ x ∈ cs, x.sc W S
def V.sc (W : World) (S : Nat → Prop) : V → Prop
  | .u x => x.sc W S
  | .t xs => ∀ x ∈ xs, x.sc W S
  | .any => True
theorem AOk.sc {W : World} {x : C} (h : AOk W x) (S : Nat → Prop) : x.sc W S := by
  cases h <;> first | exact .bool _ | exact .int _ _ | exact .str _ | exact .nilp | exact .nilf | exact .nils | exact .yld _ | (exact ⟨(fun p hp => by cases hp), (fun p hp => by cases hp)⟩) | (exact AOk.as _ _ _ _ _ ‹_› ‹_› ‹_› ‹_› ‹_›) | (exact AOk.ap _ _ ‹_› ‹_›)
theorem AOk.den {W : World} {x : C} (h : AOk W x) (ρ ρ' : Ren) : x.den ρ = x.den ρ' := by cases h <;> rfl
theorem C.sc_mono {W : World} {S S' : Nat → Prop} (h : ∀ b, S b → S' b) {x : C} (hx : x.sc W S) : x.sc W S' := by
  cases x <;> simp only [C.sc] at hx ⊢ <;> first | exact hx | exact h _ hx | exact ⟨fun p hp => h _ (hx.1 p hp), fun p hp => h _ (hx.2 p hp)⟩
theorem U.sc_mono {W : World} {S S' : Nat → Prop} (h : ∀ b, S b → S' b) {x : U} (hx : x.sc W S) : x.sc W S' := by
  cases x with
  | c x => exact C.sc_mono h hx
  | a cs => exact fun x hm => C.sc_mono h (hx x hm)
theorem V.sc_mono {W : World} {S S' : Nat → Prop} (h : ∀ b, S b → S' b) {x : V} (hx : x.sc W S) : x.sc W S' := by
  cases x with
  | u x => exact U.sc_mono h hx
  | t xs => exact fun x hm => U.sc_mono h (hx x hm)
  | any => exact trivial
theorem pv_congr {ρ ρ' : Ren} {S : Nat → Prop} (h : ∀ b, S b → ρ' b = ρ b) {l : List (Nat × Nat)} (hl : ∀ p ∈ l, S p.1) : l.map (pv ρ') = l.map (pv ρ) :=
  List.map_congr_left fun p hp => by unfold pv; rw [h _ (hl p hp)]
theorem C.den_congr {W : World} {ρ ρ' : Ren} {S : Nat → Prop} (h : ∀ b, S b → ρ' b = ρ b) {x : C} (hx : x.sc W S) : x.den ρ' = x.den ρ := by
  cases x <;> simp only [C.sc] at hx <;> simp only [C.den]
  · rw [h _ hx]
  · rw [h _ hx]
  · rw [h _ hx]
  · rw [pv_congr h hx.1, pv_congr h hx.2]
theorem U.den_congr {W : World} {ρ ρ' : Ren} {S : Nat → Prop} (h : ∀ b, S b → ρ' b = ρ b) {x : U} (hx : x.sc W S) : x.den ρ' = x.den ρ := by
  cases x with
  | c x => exact C.den_congr h hx
  | a cs => simp only [U.den]; rw [List.map_congr_left (fun x hm => C.den_congr h (hx x hm))]
theorem V.den_congr {W : World} {ρ ρ' : Ren} {S : Nat → Prop} (h : ∀ b, S b → ρ' b = ρ b) {x : V} (hx : x.sc W S) : x.den ρ' = x.den ρ := by
  cases x with
  | u x => exact U.den_congr h hx
  | t xs => simp only [V.den]; rw [List.map_congr_left (fun x hm => U.den_congr h (hx x hm))]
  | any => rfl
theorem C.den_one (ρ : Ren) (x : C) : (x.den ρ).oneCell' = true := by
  cases x <;> rfl
theorem C.den_cells (ρ : Ren) (x : C) : (x.den ρ).cells = #[x.den ρ] := by
  cases x <;> rfl
theorem U.den_cells (ρ : Ren) (x : U) : (x.den ρ).cells = (x.cells.map (C.den ρ)).toArray := by
  cases x with
  | c x => exact C.den_cells ρ x
  | a cs => rfl
/-! Constants. -/
def ofVal : Value → Option C
  | .bool b => some (.bool b)
  | .int k n => some (.int k n)
  | .string s => some (.str s)
  | .pointer none => some .nilp
  | .slice none 0 0 => some .nils
  | .nilFunc => some .nilf
  | _ => none
def ofVals : List Value → Option (List C)
  | [] => some []
  | v :: r => match ofVal v, ofVals r with
    | some x, some xs => some (x :: xs)
    | _, _ => none
def ofValue : Value → Option V
  | .agg cs => (ofVals cs.toList).map fun l => .u (.a l)
  | v => (ofVal v).map fun x => .u (.c x)
theorem ofVal_den {v : Value} {x : C} (h : ofVal v = some x) (ρ : Ren) (W : World) (S : Nat → Prop) : x.den ρ = v ∧ x.sc W S := by
  unfold ofVal at h
  split at h <;> first | (cases h; exact ⟨rfl, by first | exact AOk.bool _ | exact AOk.int _ _ | exact AOk.str _ | exact AOk.nilp | exact AOk.nilf | exact AOk.nils⟩) | cases h
theorem ofVals_den {l : List Value} {xs : List C} (h : ofVals l = some xs) (ρ : Ren) (W : World) (S : Nat → Prop) : xs.map (C.den ρ) = l ∧ ∀ x ∈ xs, x.sc W S := by
  induction l generalizing xs with
  | nil => injection h with h; subst h; exact ⟨rfl, fun x hx => by cases hx⟩
  | cons v r ih =>
    unfold ofVals at h
    split at h
    · rename_i x ys hx hy
      injection h with h; subst h
      obtain ⟨h1, h2⟩ := ofVal_den hx ρ W S
      obtain ⟨h3, h4⟩ := ih hy
      refine ⟨by simp [h1, h3], fun z hz => ?_⟩
      rcases List.mem_cons.1 hz with rfl | hz
      · exact h2
      · exact h4 z hz
    · cases h
theorem ofValue_den {v : Value} {x : V} (h : ofValue v = some x) (ρ : Ren) (W : World) (S : Nat → Prop) : x.den ρ = v ∧ x.sc W S := by
  unfold ofValue at h
  split at h
  · rename_i cs
    rw [Option.map_eq_some_iff] at h
    obtain ⟨l, hl, rfl⟩ := h
    obtain ⟨h1, h2⟩ := ofVals_den hl ρ W S
    exact ⟨by simp [V.den, U.den, h1], h2⟩
  · rw [Option.map_eq_some_iff] at h
    obtain ⟨y, hy, rfl⟩ := h
    exact ofVal_den hy ρ W S
/-! Lists, read by place. -/
def nth {α : Type} : List α → Nat → Option α
  | [], _ => none
  | x :: _, 0 => some x
  | _ :: r, n + 1 => nth r n
theorem nth_eq {α : Type} : ∀ (l : List α) (n : Nat), nth l n = l[n]?
  | [], n => by simp [nth]
  | x :: r, 0 => rfl
  | x :: r, n + 1 => by simp [nth, nth_eq r n]
def upd {α : Type} : List α → Nat → α → List α
  | [], _, _ => []
  | _ :: r, 0, v => v :: r
  | x :: r, n + 1, v => x :: upd r n v
theorem upd_eq {α : Type} : ∀ (l : List α) (n : Nat) (v : α), upd l n v = l.set n v
  | [], n, v => rfl
  | x :: r, 0, v => rfl
  | x :: r, n + 1, v => by simp [upd, upd_eq r n v]
/-! Operands. -/
def real : V → Option V
  | .any => none
  | v => some v
theorem real_eq {v u : V} (h : real v = some u) : v = u ∧ v ≠ .any := by
  cases v with
  | u x => exact ⟨by injection h, fun e => by cases e⟩
  | t xs => exact ⟨by injection h, fun e => by cases e⟩
  | any => cases h
def ev (T : List V) : Operand → Option V
  | .tmp t => (nth T t).bind real
  | .const v => ofValue v
  | .func f => some (.u (.c (.fn f [] [])))
  | .global _ => none
/-- The machine's temporaries are those of T, where T says something. -/
structure TR (ρ : Ren) (T : List V) (a : Act) : Prop where
  len : a.tmps.size = T.length
  val : ∀ t v, nth T t = some v → v ≠ .any → a.tmps[t]? = some (v.den ρ)
theorem ev_den {T : List V} {x : Operand} {v : V} {ρ : Ren} {a : Act} (h : ev T x = some v) (ht : TR ρ T a) : a.eval x = v.den ρ := by
  cases x with
  | tmp t =>
    simp only [ev, Option.bind_eq_some_iff] at h
    obtain ⟨u, hu, hr⟩ := h
    obtain ⟨rfl, hne⟩ := real_eq hr
    have h1 := ht.val t u hu hne
    simp [Act.eval, h1]
  | const c => exact ((ofValue_den h ρ default (fun _ => True)).1).symm
  | global g => cases h
  | func f => injection h with h; subst h; rfl
def ScT (W : World) (S : Nat → Prop) (T : List V) : Prop := ∀ v ∈ T, v.sc W S
theorem ev_sc {T : List V} {x : Operand} {v : V} {W : World} {S : Nat → Prop} (h : ev T x = some v) (hT : ScT W S T) : v.sc W S := by
  cases x with
  | tmp t =>
    simp only [ev, Option.bind_eq_some_iff] at h
    obtain ⟨u, hu, hr⟩ := h
    obtain ⟨rfl, _⟩ := real_eq hr
    rw [nth_eq] at hu
    exact hT u (List.mem_of_getElem? hu)
  | const c => exact (ofValue_den h (fun _ => ri0) W S).2
  | global g => cases h
  | func f => injection h with h; subst h; exact ⟨(fun p hp => by cases hp), (fun p hp => by cases hp)⟩
def evs (T : List V) : List Operand → Option (List V)
  | [] => some []
  | x :: r => match ev T x, evs T r with
    | some v, some vs => some (v :: vs)
    | _, _ => none
theorem evs_den {T : List V} {l : List Operand} {vs : List V} {ρ : Ren} {a : Act} (h : evs T l = some vs) (ht : TR ρ T a) : l.map a.eval = vs.map (V.den ρ) := by
  induction l generalizing vs with
  | nil => injection h with h; subst h; rfl
  | cons x r ih =>
    unfold evs at h
    split at h
    · rename_i v ws hv hw
      injection h with h; subst h
      simp [ev_den hv ht, ih hw]
    · cases h
theorem evs_sc {T : List V} {l : List Operand} {vs : List V} {W : World} {S : Nat → Prop} (h : evs T l = some vs) (hT : ScT W S T) : ∀ v ∈ vs, v.sc W S := by
  induction l generalizing vs with
  | nil => injection h with h; subst h; intro v hv; cases hv
  | cons x r ih =>
    unfold evs at h
    split at h
    · rename_i v ws hv hw
      injection h with h; subst h
      intro z hz
      rcases List.mem_cons.1 hz with rfl | hz
      · exact ev_sc hv hT
      · exact ih hw z hz
    · cases h
/-! Pure pieces of the machine, run as they are. -/
def pureSem {α : Type} (P : Program) : Sem α → Option α
  | .pure a => some a
  | .program k => pureSem P (k P)
  | _ => none
theorem pureSem_run {α : Type} {P : Program} {s : Sem α} {x : α} (h : pureSem P s = some x) (w : World) : s.run P w = .ok x w := by
  induction s with
  | pure a => injection h with h; subst h; rfl
  | program k ih => exact ih P h
  | _ => cases h
def V.lit : V → Option Value
  | .u (.c (.bool b)) => some (.bool b)
  | .u (.c (.int k n)) => some (.int k n)
  | .u (.c (.str s)) => some (.string s)
  | _ => none
theorem V.lit_den {v : V} {x : Value} (h : v.lit = some x) (ρ : Ren) : v.den ρ = x := by
  unfold V.lit at h
  split at h <;> first | (cases h; rfl) | cases h
def evl (T : List V) (x : Operand) : Value := ((ev T x).bind V.lit).getD undef
def allLit (T : List V) : List Operand → Bool
  | [] => true
  | x :: r => ((ev T x).bind V.lit).isSome && allLit T r
theorem allLit_eval {T : List V} {l : List Operand} (h : allLit T l = true) {ρ : Ren} {a : Act} (ht : TR ρ T a) : ∀ x ∈ l, a.eval x = evl T x := by
  induction l with
  | nil => intro x hx; cases hx
  | cons y r ih =>
    simp only [allLit, Bool.and_eq_true] at h
    intro x hx
    rcases List.mem_cons.1 hx with rfl | hx
    · obtain ⟨v, hv⟩ := Option.isSome_iff_exists.1 h.1
      unfold evl
      rw [hv]
      rw [Option.bind_eq_some_iff] at hv
      obtain ⟨u, hu, hl⟩ := hv
      rw [ev_den hu ht, V.lit_den hl]
      rfl
    · exact ih h.2 x hx
end Go.Proofs.Ytbgdfikfldkjbaa.AI
