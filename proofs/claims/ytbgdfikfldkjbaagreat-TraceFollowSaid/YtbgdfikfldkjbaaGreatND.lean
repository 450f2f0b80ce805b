/- Boxes: layer 28 and its reference, told. -/
import Derived.Test.YtbgdfikfldkjbaaGreatNF
namespace Go.Proofs.YtbgdfikfldkjbaaGreat.AI
set_option linter.unnecessarySimpa false
open Go
set_option linter.unusedVariables false
set_option linter.unusedSimpArgs false
def bxV (a : Bx) : V := .u (bxU a)
def ivV (x : Iv) : V := .u (ivU x)
def OI (x : Iv) : R := some (.t [ivU x, ui 0], [])
def OB (a : Bx) : R := some (.t [bxU a, ui 0], [])
def BI (e : Nat) : R := some (.t [ivU iv0, eC e], [])
def BB (e : Nat) : R := some (.t [bxU bx0, eC e], [])
def okK (e : Er Iv) (k : Iv → R) (b : Nat → R) : R := bif okE e then k (getE iv0 e) else b (erE e)
def okB (e : Er Bx) (k : Bx → R) (b : Nat → R) : R := bif okE e then k (getE bx0 e) else b (erE e)
def bindE {α β : Type} (e : Er α) (k : α → Er β) : Er β := match e with
  | .ok x => k x
  | .error e => .error e
theorem resT_val (e : Er Iv) : (resT e).val = okK e OI BI := rfl
theorem resB_val (e : Er Bx) : (resB e).val = okB e OB BB := rfl
theorem okK_bind {e : Er Iv} {k : Iv → Er Iv} {f : Iv → R} {b : Nat → R} : okK (bindE e k) f b = okK e (fun x => okK (k x) f b) b := by cases e <;> rfl
theorem okB_bind {e : Er Iv} {k : Iv → Er Bx} {f : Bx → R} {b : Nat → R} : okB (bindE e k) f b = okK e (fun x => okB (k x) f b) b := by cases e <;> rfl
/-- A step of the reference's calculation: the first error is kept. -/
def kept (st : Option Nat) (e : Er Iv) (k : Iv → Option Nat → R) : R := okK e (fun x => k x st) fun er => k iv0 (match st with
  | none => some er
  | some s => some s)
theorem kept_skip {s : Nat} {e : Er Iv} {k : Iv → Option Nat → R} {B : R} (h : ∀ x, k x (some s) = B) : kept (some s) e k = B := by
  unfold kept okK
  cases okE e
  · exact h _
  · exact h _
theorem kept_none {e : Er Iv} {k : Iv → Option Nat → R} {f : Iv → R} {b : Nat → R} (h1 : ∀ x, k x none = f x) (h2 : ∀ er x, k x (some er) = b er) : kept none e k = okK e f b := by
  unfold kept okK
  cases okE e
  · exact h2 _ _
  · exact h1 _
def dotE (a b : Bx) : Er Iv := bif a.v && b.v then bindE (mulE a.x b.x) fun x => bindE (mulE a.y b.y) fun y => bindE (mulE a.z b.z) fun z => bindE (addE x y) fun s => addE s z else .error 0
def mapE (op : Iv → Iv → Er Iv) (a b : Bx) : Er Bx := bif a.v && b.v then bindE (op a.x b.x) fun x => bindE (op a.y b.y) fun y => bindE (op a.z b.z) fun z => .ok ⟨x, y, z⟩ else .error 0
def scaleE (a : Bx) (k : Iv) : Er Bx := bif a.v && k.v then bindE (mulE a.x k) fun x => bindE (mulE a.y k) fun y => bindE (mulE a.z k) fun z => .ok ⟨x, y, z⟩ else .error 0
abbrev addB := mapE addE
abbrev subB := mapE subE
def P6 (F : Bx → Tree) : List Int → Tree
  | [a, b, c, d, e, f] => F ⟨⟨a, b⟩, ⟨c, d⟩, ⟨e, f⟩⟩
  | _ => .no
def P66 (F : Bx → Bx → Tree) : List Int → Tree
  | [a, b, c, d, e, f, a', b', c', d', e', f'] => F ⟨⟨a, b⟩, ⟨c, d⟩, ⟨e, f⟩⟩ ⟨⟨a', b'⟩, ⟨c', d'⟩, ⟨e', f'⟩⟩
  | _ => .no
def P62 (F : Bx → Iv → Tree) : List Int → Tree
  | [a, b, c, d, e, f, a', b'] => F ⟨⟨a, b⟩, ⟨c, d⟩, ⟨e, f⟩⟩ ⟨a', b'⟩
  | _ => .no
abbrev s6 (F : Bx → Tree) := shT [some 6] (P6 F)
abbrev s66 (F : Bx → Bx → Tree) := shT [some 6, some 6] (P66 F)
abbrev s62 (F : Bx → Iv → Tree) := shT [some 6, some 2] (P62 F)
theorem P6_some {F : Bx → Tree} {l : List Int} {x : V × Heap} (h : (P6 F l).val = some x) : ∃ a : Bx, enc [some 6] l = [bxV a] ∧ (F a).val = some x := by
  unfold P6 at h
  split at h
  · exact ⟨_, rfl, h⟩
  · cases h
theorem P66_some {F : Bx → Bx → Tree} {l : List Int} {x : V × Heap} (h : (P66 F l).val = some x) : ∃ a b : Bx, enc [some 6, some 6] l = [bxV a, bxV b] ∧ (F a b).val = some x := by
  unfold P66 at h
  split at h
  · exact ⟨_, _, rfl, h⟩
  · cases h
theorem P62_some {F : Bx → Iv → Tree} {l : List Int} {x : V × Heap} (h : (P62 F l).val = some x) : ∃ (a : Bx) (b : Iv), enc [some 6, some 2] l = [bxV a, ivV b] ∧ (F a b).val = some x := by
  unfold P62 at h
  split at h
  · exact ⟨_, _, rfl, h⟩
  · cases h
theorem P6_flat {F : Bx → Tree} (h : ∀ a, (F a).flat = true) (l : List Int) : (P6 F l).flat = true := by
  unfold P6
  split
  · exact h _
  · rfl
theorem P66_flat {F : Bx → Bx → Tree} (h : ∀ a b, (F a b).flat = true) (l : List Int) : (P66 F l).flat = true := by
  unfold P66
  split
  · exact h _ _
  · rfl
theorem P62_flat {F : Bx → Iv → Tree} (h : ∀ a b, (F a b).flat = true) (l : List Int) : (P62 F l).flat = true := by
  unfold P62
  split
  · exact h _ _
  · rfl
def truT (b : Bool) : Tree := .leaf (.u (.c (.bool b)))
/-- Validity, by shape. -/
def F1v : List Int → Tree
  | [a, b] => truT (vI a b)
  | _ => .no
abbrev s1v := shT [some 2] F1v
theorem s1v_of {f : FuncId} (h : Told Tryz.prog f validT) : Told Tryz.prog f s1v := told_congr h fun args x hv => by
  obtain ⟨l, rfl, hl⟩ := shT_val hv
  unfold F1v at hl
  split at hl
  · exact hl
  · cases hl
theorem E29 : Told Tryz.prog 22 s1v := s1v_of told29
theorem E30 : Told Tryz.prog 28 s1v := s1v_of told30
abbrev s6v := s6 fun a => truT a.v
theorem k49 : FnOk Tryz.prog 39 Tryz.f39 := fk Tryz.func39 (by kernel_rfl) rfl
theorem a49 (a : Bx) : ans Tryz.prog [(22, s1v)] [(39, Tryz.f39, [])] 9 3 39 [bxV a] = bif a.x.v then bif a.y.v then tru a.z.v else tru false else tru false := by kernel_rfl
theorem E49 : Told Tryz.prog 39 s6v := told_sh (fuel := 9) (d := 3) (fns := [(39, Tryz.f39, [])]) mixed (orc_cons E29 orc_nil) (fns_cons k49 fns_nil) k49.enter (P6_flat fun _ => rfl) fun l x h => by
  obtain ⟨a, e, hx⟩ := P6_some h
  rw [e, a49, ← hx]
  show _ = tru a.v
  unfold Bx.v
  cases a.x.v <;> cases a.y.v <;> rfl
theorem k20 : FnOk Tryz.prog 43 Tryz.f43 := fk Tryz.func43 (by kernel_rfl) rfl
theorem a20 (a : Bx) : ans Tryz.prog [(28, s1v)] [(43, Tryz.f43, [])] 9 3 43 [bxV a] = bif a.x.v then bif a.y.v then tru a.z.v else tru false else tru false := by kernel_rfl
theorem E20 : Told Tryz.prog 43 s6v := told_sh (fuel := 9) (d := 3) (fns := [(43, Tryz.f43, [])]) mixed (orc_cons E30 orc_nil) (fns_cons k20 fns_nil) k20.enter (P6_flat fun _ => rfl) fun l x h => by
  obtain ⟨a, e, hx⟩ := P6_some h
  rw [e, a20, ← hx]
  show _ = tru a.v
  unfold Bx.v
  cases a.x.v <;> cases a.y.v <;> rfl
/-! Scalar products. -/
theorem k53 : FnOk Tryz.prog 55 Tryz.f55 := fk Tryz.func55 (by kernel_rfl) rfl
theorem k77 : FnOk Tryz.prog 102 Tryz.f102 := fk Tryz.func102 (by kernel_rfl) rfl
theorem k78 : FnOk Tryz.prog 105 Tryz.f105 := fk Tryz.func105 (by kernel_rfl) rfl
theorem k79 : FnOk Tryz.prog 104 Tryz.f104 := fk Tryz.func104 (by kernel_rfl) rfl
theorem k98 : FnOk Tryz.prog 118 Tryz.f118 := fk Tryz.func118 (by kernel_rfl) rfl
theorem k101 : FnOk Tryz.prog 119 Tryz.f119 := fk Tryz.func119 (by kernel_rfl) rfl
theorem k102 : FnOk Tryz.prog 127 Tryz.f127 := fk Tryz.func127 (by kernel_rfl) rfl
theorem k84 : FnOk Tryz.prog 103 Tryz.f103 := fk Tryz.func103 (by kernel_rfl) rfl
noncomputable def fnsD (f : FuncId) (fn : Func) : List (FuncId × Func × List (Nat × LV)) := [(f, fn, []), (102, Tryz.f102, []), (105, Tryz.f105, []), (104, Tryz.f104, []), (118, Tryz.f118, []), (119, Tryz.f119, []), (127, Tryz.f127, []), (103, Tryz.f103, [])]
theorem fnsD_ok {f : FuncId} {fn : Func} (h : FnOk Tryz.prog f fn) : FnsOk Tryz.prog (fnsD f fn) := fns_cons h (fns_cons k77 (fns_cons k78 (fns_cons k79 (fns_cons k98 (fns_cons k101 (fns_cons k102 (fns_cons k84 fns_nil)))))))
/-- The operations, as they may be: nothing is known of them. -/
def orcD (add sub mul : Iv → Iv → Er Iv) : List (FuncId × (List V → Tree)) := [(22, s1v), (39, s6v), (62, sh2 add), (73, sh2 sub), (58, sh2 mul)]
theorem orcD_ok : OrcOk Tryz.prog (orcD addE subE mulE) := orc_cons E29 (orc_cons E49 (orc_cons E74 (orc_cons E54 (orc_cons E69 orc_nil))))
def two6 (a b : Bool) (x y : R) : R := bif !a then y else bif !b then y else x
theorem two6_eq (a b : Bool) (x y : R) : two6 a b x y = bif a && b then x else y := by cases a <;> cases b <;> rfl
theorem a53 (add sub mul : Iv → Iv → Er Iv) (a b : Bx) : ans Tryz.prog (orcD add sub mul) (fnsD 55 Tryz.f55) 9 6 55 [bxV a, bxV b] = two6 a.v b.v (okK (mul a.x b.x) (fun x => okK (mul a.y b.y) (fun y => okK (mul a.z b.z) (fun z => okK (add x y) (fun s => okK (add s z) OI BI) BI) BI) BI) BI) (BI 0) := by kernel_rfl
theorem E53 : Told Tryz.prog 55 (s66 fun a b => resT (dotE a b)) := told_sh (fuel := 9) (d := 6) (fns := fnsD 55 Tryz.f55) mixed orcD_ok (fnsD_ok k53) k53.enter (P66_flat fun _ _ => rfl) fun l x h => by
  obtain ⟨a, b, e, hx⟩ := P66_some h
  rw [e, a53, ← hx, resT_val, two6_eq]
  unfold dotE
  cases a.v && b.v
  · rfl
  · simp only [cond_true, okK_bind]
/-! Scaling, sums, differences. -/
theorem k61 : FnOk Tryz.prog 52 Tryz.f52 := fk Tryz.func52 (by kernel_rfl) rfl
theorem k62 : FnOk Tryz.prog 53 Tryz.f53 := fk Tryz.func53 (by kernel_rfl) rfl
theorem k97 : FnOk Tryz.prog 108 Tryz.f108 := fk Tryz.func108 (by kernel_rfl) rfl
def map3 (p q r : Er Iv) : R := okK p (fun x => okK q (fun y => okK r (fun z => OB ⟨x, y, z⟩) BB) BB) BB
theorem a61 (add sub mul : Iv → Iv → Er Iv) (a : Bx) (k : Iv) : ans Tryz.prog (orcD add sub mul) (fnsD 52 Tryz.f52) 9 6 52 [bxV a, ivV k] = two6 a.v k.v (map3 (mul a.x k) (mul a.y k) (mul a.z k)) (BB 0) := by kernel_rfl
theorem a62 (add sub mul : Iv → Iv → Er Iv) (a b : Bx) : ans Tryz.prog (orcD add sub mul) (fnsD 53 Tryz.f53) 9 6 53 [bxV a, bxV b] = two6 a.v b.v (map3 (add a.x b.x) (add a.y b.y) (add a.z b.z)) (BB 0) := by kernel_rfl
theorem a97 (add sub mul : Iv → Iv → Er Iv) (a b : Bx) : ans Tryz.prog (orcD add sub mul) (fnsD 108 Tryz.f108) 9 6 108 [bxV a, bxV b] = two6 a.v b.v (map3 (sub a.x b.x) (sub a.y b.y) (sub a.z b.z)) (BB 0) := by kernel_rfl
theorem map3_eq (p q r : Er Iv) : map3 p q r = okB (bindE p fun x => bindE q fun y => bindE r fun z => .ok ⟨x, y, z⟩) OB BB := by
  unfold map3
  simp only [okB_bind]
  rfl
theorem E61 : Told Tryz.prog 52 (s62 fun a k => resB (scaleE a k)) := told_sh (fuel := 9) (d := 6) (fns := fnsD 52 Tryz.f52) mixed orcD_ok (fnsD_ok k61) k61.enter (P62_flat fun _ _ => rfl) fun l x h => by
  obtain ⟨a, b, e, hx⟩ := P62_some h
  rw [e, a61, ← hx, resB_val, two6_eq]
  unfold scaleE
  cases a.v && b.v
  · rfl
  · rw [map3_eq]; rfl
theorem E62 : Told Tryz.prog 53 (s66 fun a k => resB (addB a k)) := told_sh (fuel := 9) (d := 6) (fns := fnsD 53 Tryz.f53) mixed orcD_ok (fnsD_ok k62) k62.enter (P66_flat fun _ _ => rfl) fun l x h => by
  obtain ⟨a, b, e, hx⟩ := P66_some h
  rw [e, a62, ← hx, resB_val, two6_eq]
  unfold addB mapE
  cases a.v && b.v
  · rfl
  · rw [map3_eq]; rfl
theorem E97 : Told Tryz.prog 108 (s66 fun a k => resB (subB a k)) := told_sh (fuel := 9) (d := 6) (fns := fnsD 108 Tryz.f108) mixed orcD_ok (fnsD_ok k97) k97.enter (P66_flat fun _ _ => rfl) fun l x h => by
  obtain ⟨a, b, e, hx⟩ := P66_some h
  rw [e, a97, ← hx, resB_val, two6_eq]
  unfold subB mapE
  cases a.v && b.v
  · rfl
  · rw [map3_eq]; rfl
/-! The reference's. -/
theorem k14 : FnOk Tryz.prog 65 Tryz.f65 := fk Tryz.func65 (by kernel_rfl) rfl
theorem k12 : FnOk Tryz.prog 63 Tryz.f63 := fk Tryz.func63 (by kernel_rfl) rfl
theorem k13 : FnOk Tryz.prog 64 Tryz.f64 := fk Tryz.func64 (by kernel_rfl) rfl
theorem k31 : FnOk Tryz.prog 98 Tryz.f98 := fk Tryz.func98 (by kernel_rfl) rfl
theorem k32 : FnOk Tryz.prog 109 Tryz.f109 := fk Tryz.func109 (by kernel_rfl) rfl
theorem k33 : FnOk Tryz.prog 110 Tryz.f110 := fk Tryz.func110 (by kernel_rfl) rfl
theorem k34 : FnOk Tryz.prog 111 Tryz.f111 := fk Tryz.func111 (by kernel_rfl) rfl
theorem k56 : FnOk Tryz.prog 115 Tryz.f115 := fk Tryz.func115 (by kernel_rfl) rfl
noncomputable def fnsC (f : FuncId) (fn : Func) : List (FuncId × Func × List (Nat × LV)) := [(f, fn, []), (98, Tryz.f98, []), (109, Tryz.f109, []), (110, Tryz.f110, []), (111, Tryz.f111, []), (115, Tryz.f115, [])]
theorem fnsC_ok {f : FuncId} {fn : Func} (h : FnOk Tryz.prog f fn) : FnsOk Tryz.prog (fnsC f fn) := fns_cons h (fns_cons k31 (fns_cons k32 (fns_cons k33 (fns_cons k34 (fns_cons k56 fns_nil)))))
def orcC (add mul : Iv → Iv → Er Iv) : List (FuncId × (List V → Tree)) := [(28, s1v), (43, s6v), (70, sh2 add), (68, sh2 mul)]
theorem orcC_ok : OrcOk Tryz.prog (orcC addE mulE) := orc_cons E30 (orc_cons E20 (orc_cons E58 (orc_cons E57 orc_nil)))
def endI (x : Iv) : Option Nat → R
  | none => OI x
  | some e => BI e
def endB (x : Bx) : Option Nat → R
  | none => OB x
  | some e => BB e
theorem a14 (add mul : Iv → Iv → Er Iv) (a b : Bx) : ans Tryz.prog (orcC add mul) (fnsC 65 Tryz.f65) 9 6 65 [bxV a, bxV b] = two6 a.v b.v (kept none (mul a.x b.x) fun x s => kept s (mul a.y b.y) fun y s => kept s (mul a.z b.z) fun z s => kept s (add x y) fun t s => kept s (add t z) fun u s => endI u s) (BI 0) := by kernel_rfl
theorem a12 (add mul : Iv → Iv → Er Iv) (a : Bx) (b : Iv) : ans Tryz.prog (orcC add mul) (fnsC 63 Tryz.f63) 9 6 63 [bxV a, ivV b] = two6 a.v b.v (kept none (mul a.x b) fun x s => kept s (mul a.y b) fun y s => kept s (mul a.z b) fun z s => endB ⟨x, y, z⟩ s) (BB 0) := by kernel_rfl
theorem a13 (add mul : Iv → Iv → Er Iv) (a b : Bx) : ans Tryz.prog (orcC add mul) (fnsC 64 Tryz.f64) 9 6 64 [bxV a, bxV b] = two6 a.v b.v (kept none (add a.x b.x) fun x s => kept s (add a.y b.y) fun y s => kept s (add a.z b.z) fun z s => endB ⟨x, y, z⟩ s) (BB 0) := by kernel_rfl
theorem kept3 (p q r : Er Iv) : (kept none p fun x s => kept s q fun y s => kept s r fun z s => endB ⟨x, y, z⟩ s) = okB (bindE p fun x => bindE q fun y => bindE r fun z => .ok ⟨x, y, z⟩) OB BB := by
  rw [← map3_eq]
  unfold map3
  exact kept_none (fun x => kept_none (fun y => kept_none (fun z => rfl) fun er z => rfl) fun er y => kept_skip fun z => rfl) fun er x => kept_skip fun y => kept_skip fun z => rfl
theorem E14 : Told Tryz.prog 65 (s66 fun a b => resT (dotE a b)) := told_sh (fuel := 9) (d := 6) (fns := fnsC 65 Tryz.f65) mixed orcC_ok (fnsC_ok k14) k14.enter (P66_flat fun _ _ => rfl) fun l x h => by
  obtain ⟨a, b, e, hx⟩ := P66_some h
  rw [e, a14, ← hx, resT_val, two6_eq]
  unfold dotE
  cases a.v && b.v
  · rfl
  · simp only [cond_true, okK_bind]
    exact kept_none (fun x => kept_none (fun y => kept_none (fun z => kept_none (fun t => kept_none (fun u => rfl) fun er u => rfl) fun er t => kept_skip fun u => rfl) fun er z => kept_skip fun t => kept_skip fun u => rfl) fun er y => kept_skip fun z => kept_skip fun t => kept_skip fun u => rfl) fun er x => kept_skip fun y => kept_skip fun z => kept_skip fun t => kept_skip fun u => rfl
theorem E12 : Told Tryz.prog 63 (s62 fun a b => resB (scaleE a b)) := told_sh (fuel := 9) (d := 6) (fns := fnsC 63 Tryz.f63) mixed orcC_ok (fnsC_ok k12) k12.enter (P62_flat fun _ _ => rfl) fun l x h => by
  obtain ⟨a, b, e, hx⟩ := P62_some h
  rw [e, a12, ← hx, resB_val, two6_eq]
  unfold scaleE
  cases a.v && b.v
  · rfl
  · rw [kept3]; rfl
theorem E13 : Told Tryz.prog 64 (s66 fun a b => resB (addB a b)) := told_sh (fuel := 9) (d := 6) (fns := fnsC 64 Tryz.f64) mixed orcC_ok (fnsC_ok k13) k13.enter (P66_flat fun _ _ => rfl) fun l x h => by
  obtain ⟨a, b, e, hx⟩ := P66_some h
  rw [e, a13, ← hx, resB_val, two6_eq]
  unfold addB mapE
  cases a.v && b.v
  · rfl
  · rw [kept3]; rfl
/-! Contained. -/
def F2i : List Int → Tree
  | [a, b, c, d] => truT (insI a b c d)
  | _ => .no
abbrev s2i := shT [some 2, some 2] F2i
theorem s2i_of {f : FuncId} (h : Told Tryz.prog f insT) : Told Tryz.prog f s2i := told_congr h fun args x hv => by
  obtain ⟨l, rfl, hl⟩ := shT_val hv
  unfold F2i at hl
  split at hl
  · exact hl
  · cases hl
def Iv.ins (x y : Iv) : Bool := insI x.lo x.hi y.lo y.hi
def Bx.ins (a b : Bx) : Bool := a.x.ins b.x && (a.y.ins b.y && a.z.ins b.z)
end Go.Proofs.YtbgdfikfldkjbaaGreat.AI
