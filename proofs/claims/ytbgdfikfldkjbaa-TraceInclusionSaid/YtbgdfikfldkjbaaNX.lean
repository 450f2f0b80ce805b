/- Refraction: layer 29, told. -/
import Derived.Test.YtbgdfikfldkjbaaND
namespace Go.Proofs.Ytbgdfikfldkjbaa.AI
set_option linter.unnecessarySimpa false
open Go
set_option linter.unusedVariables false
set_option linter.unusedSimpArgs false
def one1 : Iv := ⟨16777216, 16777216⟩
def radE (c r : Iv) : Er Iv := bif c.v && r.v then bindE (sqE r) fun sq => bindE (sqE c) fun c2 => bindE (subE one1 c2) fun s => bindE (mulE sq s) fun p => subE one1 p else .error 0
theorem k64 : FnOk Try.prog 64 Try.f64 := fk Try.func64 (by kernel_rfl) rfl
theorem k73 : FnOk Try.prog 73 Try.f73 := fk Try.func73 (by kernel_rfl) rfl
theorem k85 : FnOk Try.prog 85 Try.f85 := fk Try.func85 (by kernel_rfl) rfl
theorem k87 : FnOk Try.prog 87 Try.f87 := fk Try.func87 (by kernel_rfl) rfl
theorem k71 : FnOk Try.prog 71 Try.f71 := fk Try.func71 (by kernel_rfl) rfl
theorem k72 : FnOk Try.prog 72 Try.f72 := fk Try.func72 (by kernel_rfl) rfl
theorem k91 : FnOk Try.prog 91 Try.f91 := fk Try.func91 (by kernel_rfl) rfl
theorem k63 : FnOk Try.prog 63 Try.f63 := fk Try.func63 (by kernel_rfl) rfl
theorem k88 : FnOk Try.prog 88 Try.f88 := fk Try.func88 (by kernel_rfl) rfl
noncomputable def fnsX (f : FuncId) (fn : Func) : List (FuncId × Func × List (Nat × LV)) := [(f, fn, []), (73, Try.f73, []), (85, Try.f85, []), (87, Try.f87, []), (71, Try.f71, []), (72, Try.f72, []), (91, Try.f91, []), (63, Try.f63, []), (88, Try.f88, [])]
theorem fnsX_ok {f : FuncId} {fn : Func} (h : FnOk Try.prog f fn) : FnsOk Try.prog (fnsX f fn) := fns_cons h (fns_cons k73 (fns_cons k85 (fns_cons k87 (fns_cons k71 (fns_cons k72 (fns_cons k91 (fns_cons k63 (fns_cons k88 fns_nil))))))))
def F1s (g : Iv → Int) : List Int → Tree
  | [a, b] => .leaf (.u (ui (g ⟨a, b⟩)))
  | _ => .no
abbrev s1s (g : Iv → Int) := shT [some 2] (F1s g)
def Iv.sgn (x : Iv) : Int := AI.sgn x.lo x.hi
theorem E70 : Told Try.prog 70 (s1s Iv.sgn) := told_congr told70 fun args x hv => by
  obtain ⟨l, rfl, hl⟩ := shT_val hv
  unfold F1s at hl
  split at hl
  · exact hl
  · cases hl
structure Ops where
  add : Iv → Iv → Er Iv
  sub : Iv → Iv → Er Iv
  mul : Iv → Iv → Er Iv
  div : Iv → Iv → Er Iv
  neg : Iv → Er Iv
  sq : Iv → Er Iv
  sqrt : Iv → Er Iv
  sgn : Iv → Int
  dot : Bx → Bx → Er Iv
  scale : Bx → Iv → Er Bx
  addB : Bx → Bx → Er Bx
  subB : Bx → Bx → Er Bx
def orcX (o : Ops) : List (FuncId × (List V → Tree)) := [(29, s1v), (49, s6v), (74, sh2 o.add), (54, sh2 o.sub), (69, sh2 o.mul), (111, sh2 o.div), (90, sh1 o.neg), (86, sh1 o.sq), (89, sh1 o.sqrt), (70, s1s o.sgn), (53, s66 fun a b => resT (o.dot a b)), (61, s62 fun a b => resB (o.scale a b)), (62, s66 fun a b => resB (o.addB a b)), (97, s66 fun a b => resB (o.subB a b))]
def opsE : Ops := ⟨addE, subE, mulE, divE, negE, sqE, sqrtE, Iv.sgn, dotE, scaleE, addB, subB⟩
theorem orcX_ok : OrcOk Try.prog (orcX opsE) := orc_cons E29 (orc_cons E49 (orc_cons E74 (orc_cons E54 (orc_cons E69 (orc_cons E111 (orc_cons E90 (orc_cons E86 (orc_cons E89 (orc_cons E70 (orc_cons E53 (orc_cons E61 (orc_cons E62 (orc_cons E97 orc_nil)))))))))))))
theorem a64 (o : Ops) (a b : Iv) : ans Try.prog (orcX o) (fnsX 64 Try.f64) 9 6 64 [ivV a, ivV b] = two6 a.v b.v (okK (o.sq b) (fun sq => okK (o.sq a) (fun c2 => okK (o.sub one1 c2) (fun s => okK (o.mul sq s) (fun p => okK (o.sub one1 p) OI BI) BI) BI) BI) BI) (BI 0) := by kernel_rfl
theorem F2_some {op : Iv → Iv → Er Iv} {l : List Int} {x : V × Heap} (h : (F2 op l).val = some x) : ∃ a b : Iv, enc [some 2, some 2] l = [ivV a, ivV b] ∧ (resT (op a b)).val = some x := by
  unfold F2 at h
  split at h
  · exact ⟨⟨_, _⟩, ⟨_, _⟩, rfl, h⟩
  · cases h
theorem F1_some {op : Iv → Er Iv} {l : List Int} {x : V × Heap} (h : (F1 op l).val = some x) : ∃ a : Iv, enc [some 2] l = [ivV a] ∧ (resT (op a)).val = some x := by
  unfold F1 at h
  split at h
  · exact ⟨⟨_, _⟩, rfl, h⟩
  · cases h
theorem F2_flat {op : Iv → Iv → Er Iv} (l : List Int) : (F2 op l).flat = true := by unfold F2; split <;> rfl
theorem F1_flat {op : Iv → Er Iv} (l : List Int) : (F1 op l).flat = true := by unfold F1; split <;> rfl
theorem E64 : Told Try.prog 64 (sh2 radE) := told_sh (fuel := 9) (d := 6) (fns := fnsX 64 Try.f64) mixed orcX_ok (fnsX_ok k64) k64.enter F2_flat fun l x h => by
  obtain ⟨a, b, e, hx⟩ := F2_some h
  rw [e, a64, ← hx, resT_val, two6_eq]
  unfold radE
  cases a.v && b.v
  · rfl
  · simp only [cond_true, okK_bind]
    rfl
/-- What light does. -/
def decI (g : Int) (v : Bool) : Int := bif !v then 0 else bif decide (g = -1) then 1 else bif decide (g = 1) then 2 else 3
theorem k65 : FnOk Try.prog 65 Try.f65 := fk Try.func65 (by kernel_rfl) rfl
theorem a65 (o : Ops) (a : Iv) : ans Try.prog (orcX o) (fnsX 65 Try.f65) 9 6 65 [ivV a] = bif !a.v then some (.u (ui 0), []) else bif decide (o.sgn a = -1) then some (.u (ui 1), []) else bif decide (o.sgn a = 1) then some (.u (ui 2), []) else some (.u (ui 3), []) := by kernel_rfl
def Iv.kind (a : Iv) : Int := decI a.sgn a.v
theorem F1s_some {g : Iv → Int} {l : List Int} {x : V × Heap} (h : (F1s g l).val = some x) : ∃ a : Iv, enc [some 2] l = [ivV a] ∧ x = (.u (ui (g a)), []) := by
  unfold F1s at h
  split at h
  · cases h; exact ⟨⟨_, _⟩, rfl, rfl⟩
  · cases h
theorem F1s_flat {g : Iv → Int} (l : List Int) : (F1s g l).flat = true := by unfold F1s; split <;> rfl
theorem E65 : Told Try.prog 65 (s1s Iv.kind) := told_sh (fuel := 9) (d := 6) (fns := fnsX 65 Try.f65) mixed orcX_ok (fnsX_ok k65) k65.enter F1s_flat fun l x h => by
  obtain ⟨a, e, rfl⟩ := F1s_some h
  rw [e, a65]
  show (bif !a.v then _ else bif decide (a.sgn = -1) then _ else bif decide (a.sgn = 1) then _ else _) = some (V.u (ui (decI a.sgn a.v)), [])
  unfold decI
  cases a.v
  · rfl
  · cases decide (a.sgn = -1)
    · cases decide (a.sgn = 1) <;> rfl
    · rfl
/-! What a ray does at a facet. -/
def ON (n : Int) : R := some (.t [ui n, ui 0], [])
def BN (e : Nat) : R := some (.t [ui 0, eC e], [])
def okN (e : Er Int) (k : Int → R) (b : Nat → R) : R := bif okE e then k (getE 0 e) else b (erE e)
def resN (e : Er Int) : Tree := .test (okE e) (.leaf (.t [ui (getE 0 e), ui 0])) (.leaf (.t [ui 0, eC (erE e)]))
theorem resN_val (e : Er Int) : (resN e).val = okN e ON BN := rfl
theorem okN_bind {e : Er Iv} {k : Iv → Er Int} {f : Int → R} {b : Nat → R} : okN (bindE e k) f b = okK e (fun x => okN (k x) f b) b := by cases e <;> rfl
def P662 (F : Bx → Bx → Iv → Tree) : List Int → Tree
  | [a, b, c, d, e, f, a', b', c', d', e', f', p, q] => F ⟨⟨a, b⟩, ⟨c, d⟩, ⟨e, f⟩⟩ ⟨⟨a', b'⟩, ⟨c', d'⟩, ⟨e', f'⟩⟩ ⟨p, q⟩
  | _ => .no
abbrev s662 (F : Bx → Bx → Iv → Tree) := shT [some 6, some 6, some 2] (P662 F)
theorem P662_some {F : Bx → Bx → Iv → Tree} {l : List Int} {x : V × Heap} (h : (P662 F l).val = some x) : ∃ (a b : Bx) (c : Iv), enc [some 6, some 6, some 2] l = [bxV a, bxV b, ivV c] ∧ (F a b c).val = some x := by
  unfold P662 at h
  split at h
  · exact ⟨_, _, _, rfl, h⟩
  · cases h
theorem P662_flat {F : Bx → Bx → Iv → Tree} (h : ∀ a b c, (F a b c).flat = true) (l : List Int) : (P662 F l).flat = true := by
  unfold P662
  split
  · exact h _ _ _
  · rfl
def hitsE (d n : Bx) (r : Iv) : Er Int := bif (d.v && n.v) && r.v then bindE (dotE d n) fun x => bindE (radE x r) fun q => .ok q.kind else .error 0
def val3 (d n : Bx) (r : Iv) (x y : R) : R := bif d.v then bif n.v then bif !r.v then y else x else y else y
theorem val3_eq (d n : Bx) (r : Iv) (x y : R) : val3 d n r x y = bif (d.v && n.v) && r.v then x else y := by unfold val3; cases d.v <;> cases n.v <;> cases r.v <;> rfl
def orcH (o : Ops) (rad : Iv → Iv → Er Iv) (kind : Iv → Int) : List (FuncId × (List V → Tree)) := (64, sh2 rad) :: (65, s1s kind) :: orcX o
theorem orcH_ok : OrcOk Try.prog (orcH opsE radE Iv.kind) := orc_cons E64 (orc_cons E65 orcX_ok)
theorem k43 : FnOk Try.prog 43 Try.f43 := fk Try.func43 (by kernel_rfl) rfl
theorem a43 (o : Ops) (rad : Iv → Iv → Er Iv) (kind : Iv → Int) (d n : Bx) (r : Iv) : ans Try.prog (orcH o rad kind) (fnsX 43 Try.f43) 9 6 43 [bxV d, bxV n, ivV r] = val3 d n r (okK (o.dot d n) (fun x => okK (rad x r) (fun q => ON (kind q)) BN) BN) (BN 0) := by kernel_rfl
theorem E43 : Told Try.prog 43 (s662 fun d n r => resN (hitsE d n r)) := told_sh (fuel := 9) (d := 6) (fns := fnsX 43 Try.f43) mixed orcH_ok (fnsX_ok k43) k43.enter (P662_flat fun _ _ _ => rfl) fun l x h => by
  obtain ⟨d, n, r, e, hx⟩ := P662_some h
  rw [e, a43, ← hx, resN_val, val3_eq]
  unfold hitsE
  cases (d.v && n.v) && r.v
  · rfl
  · simp only [cond_true, okN_bind]
    rfl
/-! Reflected. -/
def reflE (d n : Bx) : Er Bx := bindE (dotE d n) fun x => bindE (addE x x) fun k => bindE (scaleE n k) fun s => subB d s
theorem okB_bindB {e : Er Bx} {k : Bx → Er Bx} {f : Bx → R} {b : Nat → R} : okB (bindE e k) f b = okB e (fun x => okB (k x) f b) b := by cases e <;> rfl
theorem k45 : FnOk Try.prog 45 Try.f45 := fk Try.func45 (by kernel_rfl) rfl
theorem a45 (o : Ops) (d n : Bx) : ans Try.prog (orcX o) (fnsX 45 Try.f45) 9 6 45 [bxV d, bxV n] = okK (o.dot d n) (fun x => okK (o.add x x) (fun k => okB (o.scale n k) (fun s => okB (o.subB d s) OB BB) BB) BB) BB := by kernel_rfl
theorem E45 : Told Try.prog 45 (s66 fun d n => resB (reflE d n)) := told_sh (fuel := 9) (d := 6) (fns := fnsX 45 Try.f45) mixed orcX_ok (fnsX_ok k45) k45.enter (P66_flat fun _ _ => rfl) fun l x h => by
  obtain ⟨d, n, e, hx⟩ := P66_some h
  rw [e, a45, ← hx, resB_val]
  unfold reflE
  simp only [okB_bind, okB_bindB]
  rfl
/-! Refracted. -/
structure Rf where
  out : Bx
  before : Iv
  after : Iv
def rf0 : Rf := ⟨bx0, iv0, iv0⟩
def OF (r : Rf) : R := some (.t [bxU r.out, ivU r.before, ivU r.after, ui 0], [])
def BF (e : Nat) : R := some (.t [bxU bx0, ivU iv0, ivU iv0, eC e], [])
def okF (e : Er Rf) (k : Rf → R) (b : Nat → R) : R := bif okE e then k (getE rf0 e) else b (erE e)
def resF (e : Er Rf) : Tree := .test (okE e) (.leaf (.t [bxU (getE rf0 e).out, ivU (getE rf0 e).before, ivU (getE rf0 e).after, ui 0])) (.leaf (.t [bxU bx0, ivU iv0, ivU iv0, eC (erE e)]))
theorem resF_val (e : Er Rf) : (resF e).val = okF e OF BF := rfl
theorem okF_bind {e : Er Iv} {k : Iv → Er Rf} {f : Rf → R} {b : Nat → R} : okF (bindE e k) f b = okK e (fun x => okF (k x) f b) b := by cases e <;> rfl
theorem okF_bindB {e : Er Bx} {k : Bx → Er Rf} {f : Rf → R} {b : Nat → R} : okF (bindE e k) f b = okB e (fun x => okF (k x) f b) b := by cases e <;> rfl
def refrE (d n : Bx) (r : Iv) : Er Rf := bif (d.v && n.v) && r.v then bindE (dotE d n) fun c => bif decide (c.sgn = 0) then .error 8 else bindE (radE c r) fun q => bif decide (q.lo < 0) then .error 14 else
    bindE (sqrtE q) fun t => bindE (bif decide (c.sgn < 0) then negE t else .ok t) fun af => bindE (scaleE d r) fun al => bindE (mulE r c) fun m => bindE (subE af m) fun k => bindE (scaleE n k) fun s => bindE (addB al s) fun out => .ok ⟨out, c, af⟩
  else .error 0
theorem k66 : FnOk Try.prog 66 Try.f66 := fk Try.func66 (by kernel_rfl) rfl
def refK (o : Ops) (d n : Bx) (r c af : Iv) : R := okB (o.scale d r) (fun al => okK (o.mul r c) (fun m => okK (o.sub af m) (fun k => okB (o.scale n k) (fun s => okB (o.addB al s) (fun out => OF ⟨out, c, af⟩) BF) BF) BF) BF) BF
theorem a66 (o : Ops) (rad : Iv → Iv → Er Iv) (kind : Iv → Int) (d n : Bx) (r : Iv) : ans Try.prog (orcH o rad kind) (fnsX 66 Try.f66) 9 6 66 [bxV d, bxV n, ivV r] = val3 d n r (okK (o.dot d n) (fun c => bif decide (o.sgn c = 0) then BF 8 else okK (rad c r) (fun q => bif decide (q.lo < 0) then BF 14 else okK (o.sqrt q) (fun t => bif decide (o.sgn c < 0) then okK (o.neg t) (fun af => refK o d n r c af) BF else refK o d n r c t) (fun e => bif decide (o.sgn c < 0) then BF e else BF e)) BF) BF) (BF 0) := by kernel_rfl
theorem refK_eq (d n : Bx) (r c af : Iv) : refK opsE d n r c af = okF (bindE (scaleE d r) fun al => bindE (mulE r c) fun m => bindE (subE af m) fun k => bindE (scaleE n k) fun s => bindE (addB al s) fun out => .ok ⟨out, c, af⟩) OF BF := by
  unfold refK
  simp only [okF_bind, okF_bindB]
  rfl
theorem E66 : Told Try.prog 66 (s662 fun d n r => resF (refrE d n r)) := told_sh (fuel := 9) (d := 6) (fns := fnsX 66 Try.f66) mixed orcH_ok (fnsX_ok k66) k66.enter (P662_flat fun _ _ _ => rfl) fun l x h => by
  obtain ⟨d, n, r, e, hx⟩ := P662_some h
  rw [e, a66, ← hx, resF_val, val3_eq]
  unfold refrE
  cases (d.v && n.v) && r.v
  · rfl
  · simp only [cond_true, okF_bind, refK_eq]
    show okK (dotE d n) _ _ = okK (dotE d n) _ _
    cases dotE d n with
    | error e => rfl
    | ok c =>
      show (bif decide (c.sgn = 0) then _ else okK (radE c r) _ _) = okF (bif decide (c.sgn = 0) then _ else bindE (radE c r) _) _ _
      cases decide (c.sgn = 0)
      · rw [cond_false, cond_false, okF_bind]
        cases radE c r with
        | error e => rfl
        | ok q =>
          show (bif decide (q.lo < 0) then _ else okK (sqrtE q) _ _) = okF (bif decide (q.lo < 0) then _ else bindE (sqrtE q) _) _ _
          cases decide (q.lo < 0)
          · rw [cond_false, cond_false, okF_bind]
            cases sqrtE q with
            | error e =>
              show (bif decide (c.sgn < 0) then BF e else BF e) = BF e
              cases decide (c.sgn < 0) <;> rfl
            | ok t =>
              show (bif decide (c.sgn < 0) then okK (negE t) _ _ else _) = okF (bindE (bif decide (c.sgn < 0) then negE t else .ok t) _) _ _
              cases decide (c.sgn < 0)
              · simp only [cond_false]; rfl
              · simp only [cond_true, okF_bind]
          · rfl
      · rfl
end Go.Proofs.Ytbgdfikfldkjbaa.AI
