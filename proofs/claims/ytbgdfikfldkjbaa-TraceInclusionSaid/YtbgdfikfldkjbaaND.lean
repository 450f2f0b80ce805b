/- Boxes: layer 28 and its reference, told. -/
import Derived.Test.YtbgdfikfldkjbaaNF
namespace Go.Proofs.Ytbgdfikfldkjbaa.AI
set_option linter.unnecessarySimpa false
open Go
set_option linter.unusedVariables false
set_option linter.unusedSimpArgs false
def bxV (a : Bx) : V := .u (bxU a)
def ivV (x : Iv) : V := .u (ivU x)
def OI (x : Iv) : R := some (.t [ivU x, ui 0], [])
def OB (a : Bx) : R := some (.t [bxU a, ui 0], [])
def BI (e : Nat) : R := some (.t [ivU iv0, eC e], [])
def BB (e : Nat) : R := some (.t [bxU bx0, eC e], [])
def okK (e : Er Iv) (k : Iv → R) (b : Nat → R) : R := bif okE e then k (getE iv0 e) else b (erE e)
def okB (e : Er Bx) (k : Bx → R) (b : Nat → R) : R := bif okE e then k (getE bx0 e) else b (erE e)
def bindE {α β : Type} (e : Er α) (k : α → Er β) : Er β := match e with
  | .ok x => k x
  | .error e => .error e
theorem resT_val (e : Er Iv) : (resT e).val = okK e OI BI := rfl
theorem resB_val (e : Er Bx) : (resB e).val = okB e OB BB := rfl
theorem okK_bind {e : Er Iv} {k : Iv → Er Iv} {f : Iv → R} {b : Nat → R} : okK (bindE e k) f b = okK e (fun x => okK (k x) f b) b := by cases e <;> rfl
theorem okB_bind {e : Er Iv} {k : Iv → Er Bx} {f : Bx → R} {b : Nat → R} : okB (bindE e k) f b = okK e (fun x => okB (k x) f b) b := by cases e <;> rfl
/-- A step of the reference's calculation: the first error is kept. -/
def kept (st : Option Nat) (e : Er Iv) (k : Iv → Option Nat → R) : R := okK e (fun x => k x st) fun er => k iv0 (match st with
  | none => some er
  | some s => some s)
theorem kept_skip {s : Nat} {e : Er Iv} {k : Iv → Option Nat → R} {B : R} (h : ∀ x, k x (some s) = B) : kept (some s) e k = B := by
  unfold kept okK
  cases okE e
  · exact h _
  · exact h _
theorem kept_none {e : Er Iv} {k : Iv → Option Nat → R} {f : Iv → R} {b : Nat → R} (h1 : ∀ x, k x none = f x) (h2 : ∀ er x, k x (some er) = b er) : kept none e k = okK e f b := by
  unfold kept okK
  cases okE e
  · exact h2 _ _
  · exact h1 _
def dotE (a b : Bx) : Er Iv := bif a.v && b.v then bindE (mulE a.x b.x) fun x => bindE (mulE a.y b.y) fun y => bindE (mulE a.z b.z) fun z => bindE (addE x y) fun s => addE s z else .error 0
def mapE (op : Iv → Iv → Er Iv) (a b : Bx) : Er Bx := bif a.v && b.v then bindE (op a.x b.x) fun x => bindE (op a.y b.y) fun y => bindE (op a.z b.z) fun z => .ok ⟨x, y, z⟩ else .error 0
def scaleE (a : Bx) (k : Iv) : Er Bx := bif a.v && k.v then bindE (mulE a.x k) fun x => bindE (mulE a.y k) fun y => bindE (mulE a.z k) fun z => .ok ⟨x, y, z⟩ else .error 0
abbrev addB := mapE addE
abbrev subB := mapE subE
def P6 (F : Bx → Tree) : List Int → Tree
  | [a, b, c, d, e, f] => F ⟨⟨a, b⟩, ⟨c, d⟩, ⟨e, f⟩⟩
  | _ => .no
def P66 (F : Bx → Bx → Tree) : List Int → Tree
  | [a, b, c, d, e, f, a', b', c', d', e', f'] => F ⟨⟨a, b⟩, ⟨c, d⟩, ⟨e, f⟩⟩ ⟨⟨a', b'⟩, ⟨c', d'⟩, ⟨e', f'⟩⟩
  | _ => .no
def P62 (F : Bx → Iv → Tree) : List Int → Tree
  | [a, b, c, d, e, f, a', b'] => F ⟨⟨a, b⟩, ⟨c, d⟩, ⟨e, f⟩⟩ ⟨a', b'⟩
  | _ => .no
abbrev s6 (F : Bx → Tree) := shT [some 6] (P6 F)
abbrev s66 (F : Bx → Bx → Tree) := shT [some 6, some 6] (P66 F)
abbrev s62 (F : Bx → Iv → Tree) := shT [some 6, some 2] (P62 F)
theorem P6_some {F : Bx → Tree} {l : List Int} {x : V × Heap} (h : (P6 F l).val = some x) : ∃ a : Bx, enc [some 6] l = [bxV a] ∧ (F a).val = some x := by
  unfold P6 at h
  split at h
  · exact ⟨_, rfl, h⟩
  · cases h
theorem P66_some {F : Bx → Bx → Tree} {l : List Int} {x : V × Heap} (h : (P66 F l).val = some x) : ∃ a b : Bx, enc [some 6, some 6] l = [bxV a, bxV b] ∧ (F a b).val = some x := by
  unfold P66 at h
  split at h
  · exact ⟨_, _, rfl, h⟩
  · cases h
theorem P62_some {F : Bx → Iv → Tree} {l : List Int} {x : V × Heap} (h : (P62 F l).val = some x) : ∃ (a : Bx) (b : Iv), enc [some 6, some 2] l = [bxV a, ivV b] ∧ (F a b).val = some x := by
  unfold P62 at h
  split at h
  · exact ⟨_, _, rfl, h⟩
  · cases h
theorem P6_flat {F : Bx → Tree} (h : ∀ a, (F a).flat = true) (l : List Int) : (P6 F l).flat = true := by
  unfold P6
  split
  · exact h _
  · rfl
theorem P66_flat {F : Bx → Bx → Tree} (h : ∀ a b, (F a b).flat = true) (l : List Int) : (P66 F l).flat = true := by
  unfold P66
  split
  · exact h _ _
  · rfl
theorem P62_flat {F : Bx → Iv → Tree} (h : ∀ a b, (F a b).flat = true) (l : List Int) : (P62 F l).flat = true := by
  unfold P62
  split
  · exact h _ _
  · rfl
def truT (b : Bool) : Tree := .leaf (.u (.c (.bool b)))
/-- Validity, by shape. -/
def F1v : List Int → Tree
  | [a, b] => truT (vI a b)
  | _ => .no
abbrev s1v := shT [some 2] F1v
theorem s1v_of {f : FuncId} (h : Told Try.prog f validT) : Told Try.prog f s1v := told_congr h fun args x hv => by
  obtain ⟨l, rfl, hl⟩ := shT_val hv
  unfold F1v at hl
  split at hl
  · exact hl
  · cases hl
theorem E29 : Told Try.prog 29 s1v := s1v_of told29
theorem E30 : Told Try.prog 30 s1v := s1v_of told30
abbrev s6v := s6 fun a => truT a.v
theorem k49 : FnOk Try.prog 49 Try.f49 := fk Try.func49 (by kernel_rfl) rfl
theorem a49 (a : Bx) : ans Try.prog [(29, s1v)] [(49, Try.f49, [])] 9 3 49 [bxV a] = bif a.x.v then bif a.y.v then tru a.z.v else tru false else tru false := by kernel_rfl
theorem E49 : Told Try.prog 49 s6v := told_sh (fuel := 9) (d := 3) (fns := [(49, Try.f49, [])]) mixed (orc_cons E29 orc_nil) (fns_cons k49 fns_nil) k49.enter (P6_flat fun _ => rfl) fun l x h => by
  obtain ⟨a, e, hx⟩ := P6_some h
  rw [e, a49, ← hx]
  show _ = tru a.v
  unfold Bx.v
  cases a.x.v <;> cases a.y.v <;> rfl
theorem k20 : FnOk Try.prog 20 Try.f20 := fk Try.func20 (by kernel_rfl) rfl
theorem a20 (a : Bx) : ans Try.prog [(30, s1v)] [(20, Try.f20, [])] 9 3 20 [bxV a] = bif a.x.v then bif a.y.v then tru a.z.v else tru false else tru false := by kernel_rfl
theorem E20 : Told Try.prog 20 s6v := told_sh (fuel := 9) (d := 3) (fns := [(20, Try.f20, [])]) mixed (orc_cons E30 orc_nil) (fns_cons k20 fns_nil) k20.enter (P6_flat fun _ => rfl) fun l x h => by
  obtain ⟨a, e, hx⟩ := P6_some h
  rw [e, a20, ← hx]
  show _ = tru a.v
  unfold Bx.v
  cases a.x.v <;> cases a.y.v <;> rfl
/-! Scalar products. -/
theorem k53 : FnOk Try.prog 53 Try.f53 := fk Try.func53 (by kernel_rfl) rfl
theorem k77 : FnOk Try.prog 77 Try.f77 := fk Try.func77 (by kernel_rfl) rfl
theorem k78 : FnOk Try.prog 78 Try.f78 := fk Try.func78 (by kernel_rfl) rfl
theorem k79 : FnOk Try.prog 79 Try.f79 := fk Try.func79 (by kernel_rfl) rfl
theorem k98 : FnOk Try.prog 98 Try.f98 := fk Try.func98 (by kernel_rfl) rfl
theorem k101 : FnOk Try.prog 101 Try.f101 := fk Try.func101 (by kernel_rfl) rfl
theorem k102 : FnOk Try.prog 102 Try.f102 := fk Try.func102 (by kernel_rfl) rfl
theorem k84 : FnOk Try.prog 84 Try.f84 := fk Try.func84 (by kernel_rfl) rfl
noncomputable def fnsD (f : FuncId) (fn : Func) : List (FuncId × Func × List (Nat × LV)) := [(f, fn, []), (77, Try.f77, []), (78, Try.f78, []), (79, Try.f79, []), (98, Try.f98, []), (101, Try.f101, []), (102, Try.f102, []), (84, Try.f84, [])]
theorem fnsD_ok {f : FuncId} {fn : Func} (h : FnOk Try.prog f fn) : FnsOk Try.prog (fnsD f fn) := fns_cons h (fns_cons k77 (fns_cons k78 (fns_cons k79 (fns_cons k98 (fns_cons k101 (fns_cons k102 (fns_cons k84 fns_nil)))))))
/-- The operations, as they may be: nothing is known of them. -/
def orcD (add sub mul : Iv → Iv → Er Iv) : List (FuncId × (List V → Tree)) := [(29, s1v), (49, s6v), (74, sh2 add), (54, sh2 sub), (69, sh2 mul)]
theorem orcD_ok : OrcOk Try.prog (orcD addE subE mulE) := orc_cons E29 (orc_cons E49 (orc_cons E74 (orc_cons E54 (orc_cons E69 orc_nil))))
def two6 (a b : Bool) (x y : R) : R := bif !a then y else bif !b then y else x
theorem two6_eq (a b : Bool) (x y : R) : two6 a b x y = bif a && b then x else y := by cases a <;> cases b <;> rfl
theorem a53 (add sub mul : Iv → Iv → Er Iv) (a b : Bx) : ans Try.prog (orcD add sub mul) (fnsD 53 Try.f53) 9 6 53 [bxV a, bxV b] = two6 a.v b.v (okK (mul a.x b.x) (fun x => okK (mul a.y b.y) (fun y => okK (mul a.z b.z) (fun z => okK (add x y) (fun s => okK (add s z) OI BI) BI) BI) BI) BI) (BI 0) := by kernel_rfl
theorem E53 : Told Try.prog 53 (s66 fun a b => resT (dotE a b)) := told_sh (fuel := 9) (d := 6) (fns := fnsD 53 Try.f53) mixed orcD_ok (fnsD_ok k53) k53.enter (P66_flat fun _ _ => rfl) fun l x h => by
  obtain ⟨a, b, e, hx⟩ := P66_some h
  rw [e, a53, ← hx, resT_val, two6_eq]
  unfold dotE
  cases a.v && b.v
  · rfl
  · simp only [cond_true, okK_bind]
/-! Scaling, sums, differences. -/
theorem k61 : FnOk Try.prog 61 Try.f61 := fk Try.func61 (by kernel_rfl) rfl
theorem k62 : FnOk Try.prog 62 Try.f62 := fk Try.func62 (by kernel_rfl) rfl
theorem k97 : FnOk Try.prog 97 Try.f97 := fk Try.func97 (by kernel_rfl) rfl
def map3 (p q r : Er Iv) : R := okK p (fun x => okK q (fun y => okK r (fun z => OB ⟨x, y, z⟩) BB) BB) BB
theorem a61 (add sub mul : Iv → Iv → Er Iv) (a : Bx) (k : Iv) : ans Try.prog (orcD add sub mul) (fnsD 61 Try.f61) 9 6 61 [bxV a, ivV k] = two6 a.v k.v (map3 (mul a.x k) (mul a.y k) (mul a.z k)) (BB 0) := by kernel_rfl
theorem a62 (add sub mul : Iv → Iv → Er Iv) (a b : Bx) : ans Try.prog (orcD add sub mul) (fnsD 62 Try.f62) 9 6 62 [bxV a, bxV b] = two6 a.v b.v (map3 (add a.x b.x) (add a.y b.y) (add a.z b.z)) (BB 0) := by kernel_rfl
theorem a97 (add sub mul : Iv → Iv → Er Iv) (a b : Bx) : ans Try.prog (orcD add sub mul) (fnsD 97 Try.f97) 9 6 97 [bxV a, bxV b] = two6 a.v b.v (map3 (sub a.x b.x) (sub a.y b.y) (sub a.z b.z)) (BB 0) := by kernel_rfl
theorem map3_eq (p q r : Er Iv) : map3 p q r = okB (bindE p fun x => bindE q fun y => bindE r fun z => .ok ⟨x, y, z⟩) OB BB := by
  unfold map3
  simp only [okB_bind]
  rfl
theorem E61 : Told Try.prog 61 (s62 fun a k => resB (scaleE a k)) := told_sh (fuel := 9) (d := 6) (fns := fnsD 61 Try.f61) mixed orcD_ok (fnsD_ok k61) k61.enter (P62_flat fun _ _ => rfl) fun l x h => by
  obtain ⟨a, b, e, hx⟩ := P62_some h
  rw [e, a61, ← hx, resB_val, two6_eq]
  unfold scaleE
  cases a.v && b.v
  · rfl
  · rw [map3_eq]; rfl
theorem E62 : Told Try.prog 62 (s66 fun a k => resB (addB a k)) := told_sh (fuel := 9) (d := 6) (fns := fnsD 62 Try.f62) mixed orcD_ok (fnsD_ok k62) k62.enter (P66_flat fun _ _ => rfl) fun l x h => by
  obtain ⟨a, b, e, hx⟩ := P66_some h
  rw [e, a62, ← hx, resB_val, two6_eq]
  unfold addB mapE
  cases a.v && b.v
  · rfl
  · rw [map3_eq]; rfl
theorem E97 : Told Try.prog 97 (s66 fun a k => resB (subB a k)) := told_sh (fuel := 9) (d := 6) (fns := fnsD 97 Try.f97) mixed orcD_ok (fnsD_ok k97) k97.enter (P66_flat fun _ _ => rfl) fun l x h => by
  obtain ⟨a, b, e, hx⟩ := P66_some h
  rw [e, a97, ← hx, resB_val, two6_eq]
  unfold subB mapE
  cases a.v && b.v
  · rfl
  · rw [map3_eq]; rfl
/-! The reference's. -/
theorem k14 : FnOk Try.prog 14 Try.f14 := fk Try.func14 (by kernel_rfl) rfl
theorem k12 : FnOk Try.prog 12 Try.f12 := fk Try.func12 (by kernel_rfl) rfl
theorem k13 : FnOk Try.prog 13 Try.f13 := fk Try.func13 (by kernel_rfl) rfl
theorem k31 : FnOk Try.prog 31 Try.f31 := fk Try.func31 (by kernel_rfl) rfl
theorem k32 : FnOk Try.prog 32 Try.f32 := fk Try.func32 (by kernel_rfl) rfl
theorem k33 : FnOk Try.prog 33 Try.f33 := fk Try.func33 (by kernel_rfl) rfl
theorem k34 : FnOk Try.prog 34 Try.f34 := fk Try.func34 (by kernel_rfl) rfl
theorem k56 : FnOk Try.prog 56 Try.f56 := fk Try.func56 (by kernel_rfl) rfl
noncomputable def fnsC (f : FuncId) (fn : Func) : List (FuncId × Func × List (Nat × LV)) := [(f, fn, []), (31, Try.f31, []), (32, Try.f32, []), (33, Try.f33, []), (34, Try.f34, []), (56, Try.f56, [])]
theorem fnsC_ok {f : FuncId} {fn : Func} (h : FnOk Try.prog f fn) : FnsOk Try.prog (fnsC f fn) := fns_cons h (fns_cons k31 (fns_cons k32 (fns_cons k33 (fns_cons k34 (fns_cons k56 fns_nil)))))
def orcC (add mul : Iv → Iv → Er Iv) : List (FuncId × (List V → Tree)) := [(30, s1v), (20, s6v), (58, sh2 add), (57, sh2 mul)]
theorem orcC_ok : OrcOk Try.prog (orcC addE mulE) := orc_cons E30 (orc_cons E20 (orc_cons E58 (orc_cons E57 orc_nil)))
def endI (x : Iv) : Option Nat → R
  | none => OI x
  | some e => BI e
def endB (x : Bx) : Option Nat → R
  | none => OB x
  | some e => BB e
theorem a14 (add mul : Iv → Iv → Er Iv) (a b : Bx) : ans Try.prog (orcC add mul) (fnsC 14 Try.f14) 9 6 14 [bxV a, bxV b] = two6 a.v b.v (kept none (mul a.x b.x) fun x s => kept s (mul a.y b.y) fun y s => kept s (mul a.z b.z) fun z s => kept s (add x y) fun t s => kept s (add t z) fun u s => endI u s) (BI 0) := by kernel_rfl
theorem a12 (add mul : Iv → Iv → Er Iv) (a : Bx) (b : Iv) : ans Try.prog (orcC add mul) (fnsC 12 Try.f12) 9 6 12 [bxV a, ivV b] = two6 a.v b.v (kept none (mul a.x b) fun x s => kept s (mul a.y b) fun y s => kept s (mul a.z b) fun z s => endB ⟨x, y, z⟩ s) (BB 0) := by kernel_rfl
theorem a13 (add mul : Iv → Iv → Er Iv) (a b : Bx) : ans Try.prog (orcC add mul) (fnsC 13 Try.f13) 9 6 13 [bxV a, bxV b] = two6 a.v b.v (kept none (add a.x b.x) fun x s => kept s (add a.y b.y) fun y s => kept s (add a.z b.z) fun z s => endB ⟨x, y, z⟩ s) (BB 0) := by kernel_rfl
theorem kept3 (p q r : Er Iv) : (kept none p fun x s => kept s q fun y s => kept s r fun z s => endB ⟨x, y, z⟩ s) = okB (bindE p fun x => bindE q fun y => bindE r fun z => .ok ⟨x, y, z⟩) OB BB := by
  rw [← map3_eq]
  unfold map3
  exact kept_none (fun x => kept_none (fun y => kept_none (fun z => rfl) fun er z => rfl) fun er y => kept_skip fun z => rfl) fun er x => kept_skip fun y => kept_skip fun z => rfl
theorem E14 : Told Try.prog 14 (s66 fun a b => resT (dotE a b)) := told_sh (fuel := 9) (d := 6) (fns := fnsC 14 Try.f14) mixed orcC_ok (fnsC_ok k14) k14.enter (P66_flat fun _ _ => rfl) fun l x h => by
  obtain ⟨a, b, e, hx⟩ := P66_some h
  rw [e, a14, ← hx, resT_val, two6_eq]
  unfold dotE
  cases a.v && b.v
  · rfl
  · simp only [cond_true, okK_bind]
    exact kept_none (fun x => kept_none (fun y => kept_none (fun z => kept_none (fun t => kept_none (fun u => rfl) fun er u => rfl) fun er t => kept_skip fun u => rfl) fun er z => kept_skip fun t => kept_skip fun u => rfl) fun er y => kept_skip fun z => kept_skip fun t => kept_skip fun u => rfl) fun er x => kept_skip fun y => kept_skip fun z => kept_skip fun t => kept_skip fun u => rfl
theorem E12 : Told Try.prog 12 (s62 fun a b => resB (scaleE a b)) := told_sh (fuel := 9) (d := 6) (fns := fnsC 12 Try.f12) mixed orcC_ok (fnsC_ok k12) k12.enter (P62_flat fun _ _ => rfl) fun l x h => by
  obtain ⟨a, b, e, hx⟩ := P62_some h
  rw [e, a12, ← hx, resB_val, two6_eq]
  unfold scaleE
  cases a.v && b.v
  · rfl
  · rw [kept3]; rfl
theorem E13 : Told Try.prog 13 (s66 fun a b => resB (addB a b)) := told_sh (fuel := 9) (d := 6) (fns := fnsC 13 Try.f13) mixed orcC_ok (fnsC_ok k13) k13.enter (P66_flat fun _ _ => rfl) fun l x h => by
  obtain ⟨a, b, e, hx⟩ := P66_some h
  rw [e, a13, ← hx, resB_val, two6_eq]
  unfold addB mapE
  cases a.v && b.v
  · rfl
  · rw [kept3]; rfl
/-! Contained. -/
def F2i : List Int → Tree
  | [a, b, c, d] => truT (insI a b c d)
  | _ => .no
abbrev s2i := shT [some 2, some 2] F2i
theorem s2i_of {f : FuncId} (h : Told Try.prog f insT) : Told Try.prog f s2i := told_congr h fun args x hv => by
  obtain ⟨l, rfl, hl⟩ := shT_val hv
  unfold F2i at hl
  split at hl
  · exact hl
  · cases hl
theorem E37 : Told Try.prog 37 s2i := s2i_of told37
theorem E40 : Told Try.prog 40 s2i := s2i_of told40
def Iv.ins (x y : Iv) : Bool := insI x.lo x.hi y.lo y.hi
def Bx.ins (a b : Bx) : Bool := a.x.ins b.x && (a.y.ins b.y && a.z.ins b.z)
theorem k36 : FnOk Try.prog 36 Try.f36 := fk Try.func36 (by kernel_rfl) rfl
theorem k39 : FnOk Try.prog 39 Try.f39 := fk Try.func39 (by kernel_rfl) rfl
theorem a36 (a b : Bx) : ans Try.prog [(37, s2i)] [(36, Try.f36, [])] 9 3 36 [bxV a, bxV b] = bif a.x.ins b.x then bif a.y.ins b.y then tru (a.z.ins b.z) else tru false else tru false := by kernel_rfl
theorem a39 (a b : Bx) : ans Try.prog [(40, s2i)] [(39, Try.f39, [])] 9 3 39 [bxV a, bxV b] = bif a.x.ins b.x then bif a.y.ins b.y then tru (a.z.ins b.z) else tru false else tru false := by kernel_rfl
theorem E36 : Told Try.prog 36 (s66 fun a b => truT (a.ins b)) := told_sh (fuel := 9) (d := 3) (fns := [(36, Try.f36, [])]) mixed (orc_cons E37 orc_nil) (fns_cons k36 fns_nil) k36.enter (P66_flat fun _ _ => rfl) fun l x h => by
  obtain ⟨a, b, e, hx⟩ := P66_some h
  rw [e, a36, ← hx]
  show _ = tru (a.ins b)
  unfold Bx.ins
  cases a.x.ins b.x <;> cases a.y.ins b.y <;> rfl
theorem E39 : Told Try.prog 39 (s66 fun a b => truT (a.ins b)) := told_sh (fuel := 9) (d := 3) (fns := [(39, Try.f39, [])]) mixed (orc_cons E40 orc_nil) (fns_cons k39 fns_nil) k39.enter (P66_flat fun _ _ => rfl) fun l x h => by
  obtain ⟨a, b, e, hx⟩ := P66_some h
  rw [e, a39, ← hx]
  show _ = tru (a.ins b)
  unfold Bx.ins
  cases a.x.ins b.x <;> cases a.y.ins b.y <;> rfl
end Go.Proofs.Ytbgdfikfldkjbaa.AI
