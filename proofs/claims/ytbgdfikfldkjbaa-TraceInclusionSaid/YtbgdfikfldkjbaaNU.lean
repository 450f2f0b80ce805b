/- Intervals: what the arithmetic of layer 27 answers, on plain numbers. -/
import Derived.Test.YtbgdfikfldkjbaaAI12
import Derived.IntWalk
namespace Go.Proofs.Ytbgdfikfldkjbaa.AI
set_option linter.unnecessarySimpa false
open Go
set_option linter.unusedVariables false
set_option linter.unusedSimpArgs false
def ci (n : Int) : C := .int .i64 n
def ui (n : Int) : U := .c (ci n)
def iv (a b : Int) : V := .u (.a [.int .i64 a, .int .i64 b])
/-- An interval is valid. -/
def vI (a b : Int) : Bool := decide (-1073741824 ≤ a) && (decide (a ≤ b) && decide (b ≤ 1073741824))
theorem vI_iff {a b : Int} : vI a b = true ↔ -1073741824 ≤ a ∧ a ≤ b ∧ b ≤ 1073741824 := by simp [vI]
def okT (a b : Int) : Tree := .leaf (.t [.a [.int .i64 a, .int .i64 b], .c (.int .i64 0)])
def badT (e : Int) : Tree := .leaf (.t [.a [.int .i64 0, .int .i64 0], .c (.int .i64 e)])
/-- Within the bounds, or ErrLimit. -/
def inR (a b : Int) : Bool := decide (-1073741824 ≤ a) && decide (b ≤ 1073741824)
def mkT (a b : Int) : Tree := .test (inR a b) (okT a b) (badT 3)
def two (f : Int → Int → Int → Int → Tree) : List V → Tree
  | [.u (.a [.int .i64 a, .int .i64 b]), .u (.a [.int .i64 c, .int .i64 d])] => .test (vI a b && vI c d) (f a b c d) (badT 1)
  | _ => .no
def one (f : Int → Int → Tree) : List V → Tree
  | [.u (.a [.int .i64 a, .int .i64 b])] => .test (vI a b) (f a b) (badT 1)
  | _ => .no
def addT := two fun a b c d => mkT (a + c) (b + d)
def subT := two fun a b c d => mkT (a - d) (b - c)
/-- Quotients, rounded down and up. -/
def dnq (a b : Int) : Int := a / b
def upq (a b : Int) : Int := -((-a) / b)
def min4 (a b c d : Int) : Int := min (min (min a b) c) d
def max4 (a b c d : Int) : Int := max (max (max a b) c) d
def mulL (a b c d : Int) : Int := dnq (min4 (a * c) (a * d) (b * c) (b * d)) 16777216
def mulH (a b c d : Int) : Int := upq (max4 (a * c) (a * d) (b * c) (b * d)) 16777216
def mulT := two fun a b c d => mkT (mulL a b c d) (mulH a b c d)
def negT := one fun a b => okT (-b) (-a)
def sqL (a b : Int) : Int := if a ≤ 0 ∧ 0 ≤ b then 0 else dnq (min (a * a) (b * b)) 16777216
def sqH (a b : Int) : Int := upq (max (a * a) (b * b)) 16777216
def sqT := one fun a b => mkT (sqL a b) (sqH a b)
def divL (a b c d : Int) : Int := min (dnq (a * 16777216) c) (dnq (a * 16777216) d)
def divH (a b c d : Int) : Int := max (upq (b * 16777216) c) (upq (b * 16777216) d)
def divT := two fun a b c d => .test (decide (c ≤ 0) && decide (0 ≤ d)) (badT 10) (.test (decide (d < 0)) (mkT (divL (-b) (-a) (-d) (-c)) (divH (-b) (-a) (-d) (-c))) (mkT (divL a b c d) (divH a b c d)))
def sgn (a b : Int) : Int := if vI a b = true then (if 0 < a then 1 else if b < 0 then -1 else 0) else 0
def signT : List V → Tree
  | [.u (.a [.int .i64 a, .int .i64 b])] => .leaf (.u (.c (.int .i64 (sgn a b))))
  | _ => .no
def insI (a b c d : Int) : Bool := (vI a b && vI c d) && (decide (c ≤ a) && decide (b ≤ d))
def insT : List V → Tree
  | [.u (.a [.int .i64 a, .int .i64 b]), .u (.a [.int .i64 c, .int .i64 d])] => .leaf (.u (.c (.bool (insI a b c d))))
  | _ => .no
def validT : List V → Tree
  | [.u (.a [.int .i64 a, .int .i64 b])] => .leaf (.u (.c (.bool (vI a b))))
  | _ => .no
/-! What is needed to tell a function. -/
/-- Arguments without places are themselves. -/
def bareC? : C → Bool
  | .as _ _ _ _ _ => false
  | .ap _ _ => false
  | _ => true
def bareU? : U → Bool
  | .c x => bareC? x
  | .a cs => cs.all bareC?
def bareV? : V → Bool
  | .u x => bareU? x
  | .t xs => xs.all bareU?
  | .any => true
theorem bareC_inv {x y : C} (h : bareC x = y) (hy : bareC? y = true) : x = y := by
  cases x <;> simp only [bareC] at h <;> subst h <;> first | rfl | cases hy
theorem bareCs_inv : ∀ {xs ys : List C}, xs.map bareC = ys → ys.all bareC? = true → xs = ys
  | [], ys, h, _ => h
  | x :: xs, [], h, _ => by cases h
  | x :: xs, y :: ys, h, hy => by
    injection h with h1 h2
    rw [List.all_cons, Bool.and_eq_true] at hy
    rw [bareC_inv h1 hy.1, bareCs_inv h2 hy.2]
theorem bareU_inv {x y : U} (h : bareU x = y) (hy : bareU? y = true) : x = y := by
  cases x with
  | c x =>
    cases y with
    | c y => injection h with h; rw [bareC_inv h hy]
    | a ys => cases h
  | a xs =>
    cases y with
    | c y => cases h
    | a ys => injection h with h; rw [bareCs_inv h hy]
theorem bareUs_inv : ∀ {xs ys : List U}, xs.map bareU = ys → ys.all bareU? = true → xs = ys
  | [], ys, h, _ => h
  | x :: xs, [], h, _ => by cases h
  | x :: xs, y :: ys, h, hy => by
    injection h with h1 h2
    rw [List.all_cons, Bool.and_eq_true] at hy
    rw [bareU_inv h1 hy.1, bareUs_inv h2 hy.2]
theorem bareV_inv {x y : V} (h : bareV x = y) (hy : bareV? y = true) : x = y := by
  cases x with
  | u x =>
    cases y with
    | u y => injection h with h; rw [bareU_inv h hy]
    | t ys => cases h
    | any => cases h
  | t xs =>
    cases y with
    | u y => cases h
    | t ys => injection h with h; rw [bareUs_inv h hy]
    | any => cases h
  | any => exact h
theorem bareVs_inv : ∀ {xs ys : List V}, xs.map bareV = ys → ys.all bareV? = true → xs = ys
  | [], ys, h, _ => h
  | x :: xs, [], h, _ => by cases h
  | x :: xs, y :: ys, h, hy => by
    injection h with h1 h2
    rw [List.all_cons, Bool.and_eq_true] at hy
    rw [bareV_inv h1 hy.1, bareVs_inv h2 hy.2]
/-- Plain answers: numbers, truths. -/
def flatC : C → Bool
  | .bool _ => true
  | .int _ _ => true
  | .str _ => true
  | _ => false
def flatU : U → Bool
  | .c x => flatC x
  | .a cs => cs.all flatC
def flatV : V → Bool
  | .u x => flatU x
  | .t xs => xs.all flatU
  | .any => false
theorem flatC_sc {x : C} (h : flatC x = true) (W : World) (S : Nat → Prop) : x.sc W S := by
  cases x with
  | bool b => exact AOk.bool b
  | int k n => exact AOk.int k n
  | str s => exact AOk.str s
  | _ => cases h
theorem flatU_sc {x : U} (h : flatU x = true) (W : World) (S : Nat → Prop) : x.sc W S := by
  cases x with
  | c y => exact flatC_sc h W S
  | a ys => exact fun y hy => flatC_sc (List.all_eq_true.1 h y hy) W S
theorem flatV_sc {x : V} (h : flatV x = true) (W : World) (S : Nat → Prop) : x.sc W S := by
  cases x with
  | u y => exact flatU_sc h W S
  | t ys => exact fun y hy => flatU_sc (List.all_eq_true.1 h y hy) W S
  | any => cases h
/-- A tree whose leaves are plain. -/
def Tree.flat : Tree → Bool
  | .leaf v => flatV v
  | .own _ _ => false
  | .no => true
  | .test _ x y => x.flat && y.flat
theorem flat_val : ∀ {t : Tree}, t.flat = true → ∀ {v H}, t.val = some (v, H) → flatV v = true ∧ H = []
  | .leaf v, h, v', H, hv => by cases hv; exact ⟨h, rfl⟩
  | .own _ _, h, _, _, _ => by cases h
  | .no, h, _, _, hv => by cases hv
  | .test b x y, h, v', H, hv => by
    simp only [Tree.flat, Bool.and_eq_true] at h
    cases b with
    | true => exact flat_val (t := x) h.1 hv
    | false => exact flat_val (t := y) h.2 hv
/-- A function over plain arguments, with plain answers. -/
theorem told_flat {P : Program} (hm : P.follows .mixedOrders = true) {orc : List (FuncId × (List V → Tree))} (ho : OrcOk P orc) {fns : List (FuncId × Func × List (Nat × LV))} (hf : FnsOk P fns) {fuel d : Nat} {f : FuncId} {g : List V → Tree} (hen : ∀ args w, (callFunc f args).run P w = .ok (.enter f args) w)
    (hg : ∀ args, (g args).flat = true) (hb : ∀ args x, (g args).val = some x → args.all bareV? = true)
    (h : ∀ args x, (g args).val = some x → ans P orc fns fuel d f args = some x) : Told P f g := by
  refine told_of (fuel := fuel) (d := d) hm ho hf hen (fun args v H hv => ?_) (fun args v H hv W => ?_) fun args v H ha hv => ?_
  · have := (flat_val (hg args) hv).1
    rintro rfl
    cases this
  · obtain ⟨h1, rfl⟩ := flat_val (hg args) hv
    exact ⟨flatV_sc h1 _ _, fun b B hB => by rw [blk_nil] at hB; cases hB⟩
  · rw [← bareVs_inv rfl (hb _ _ hv)] at hv
    exact h _ _ hv
/-! The shapes. -/
theorem two_val {f : Int → Int → Int → Int → Tree} {args : List V} {x : V × Heap} (h : (two f args).val = some x) : ∃ a b c d, args = [iv a b, iv c d] := by
  unfold two at h
  split at h
  · exact ⟨_, _, _, _, rfl⟩
  · cases h
theorem one_val {f : Int → Int → Tree} {args : List V} {x : V × Heap} (h : (one f args).val = some x) : ∃ a b, args = [iv a b] := by
  unfold one at h
  split at h
  · exact ⟨_, _, rfl⟩
  · cases h
theorem two_flat {f : Int → Int → Int → Int → Tree} (h : ∀ a b c d, (f a b c d).flat = true) (args : List V) : (two f args).flat = true := by
  unfold two
  split
  · simp only [Tree.flat, h]; rfl
  · rfl
theorem one_flat {f : Int → Int → Tree} (h : ∀ a b, (f a b).flat = true) (args : List V) : (one f args).flat = true := by
  unfold one
  split
  · simp only [Tree.flat, h]; rfl
  · rfl
/-! Numbers. -/
def w64 (n : Int) : Int := IntKind.i64.wrap n
theorem w64_in {n : Int} (h : -9223372036854775808 ≤ n) (h' : n ≤ 9223372036854775807) : w64 n = n := Go.IntWalk.i64_in n ⟨h, h'⟩
/-- A product of numbers of bounded size. -/
theorem prod_le {a b : Int} {M N : Nat} (ha : -(M : Int) ≤ a ∧ a ≤ M) (hb : -(N : Int) ≤ b ∧ b ≤ N) : -((M * N : Nat) : Int) ≤ a * b ∧ a * b ≤ ((M * N : Nat) : Int) := by
  have h1 : a.natAbs ≤ M := by omega
  have h2 : b.natAbs ≤ N := by omega
  have h3 : (a * b).natAbs ≤ M * N := by rw [Int.natAbs_mul]; exact Nat.mul_le_mul h1 h2
  omega
theorem prod30 {a b : Int} (ha : -1073741824 ≤ a ∧ a ≤ 1073741824) (hb : -1073741824 ≤ b ∧ b ≤ 1073741824) : -1152921504606846976 ≤ a * b ∧ a * b ≤ 1152921504606846976 := by
  have := prod_le (a := a) (b := b) (M := 1073741824) (N := 1073741824) (by omega) (by omega)
  omega
theorem tdiv_pos {a b : Int} (hb : 0 < b) : a.tdiv b = if a % b ≠ 0 ∧ a < 0 then a / b + 1 else a / b := by
  rw [Int.tdiv_eq_ediv]
  by_cases h0 : 0 ≤ a
  · rw [if_pos (.inl h0), if_neg (by omega)]; omega
  · by_cases hd : b ∣ a
    · rw [if_pos (.inr hd), if_neg (fun h => h.1 (Int.emod_eq_zero_of_dvd hd))]; omega
    · rw [if_neg (by rintro (h | h) <;> contradiction), if_pos ⟨fun h => hd (Int.dvd_of_emod_eq_zero h), by omega⟩, Int.sign_eq_one_of_pos hb]
theorem tmod_pos {a b : Int} (hb : 0 < b) : a.tmod b = 0 ↔ a % b = 0 := by
  rw [← Int.dvd_iff_tmod_eq_zero, ← Int.dvd_iff_emod_eq_zero]
end Go.Proofs.Ytbgdfikfldkjbaa.AI
