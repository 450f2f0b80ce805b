/- Partial reflection: layer 30, told; light and moves of layer 31. -/
import Derived.Test.YtbgdfikfldkjbaaNX
namespace Go.Proofs.Ytbgdfikfldkjbaa.AI
set_option linter.unnecessarySimpa false
open Go
set_option linter.unusedVariables false
set_option linter.unusedSimpArgs false
def cutN (n : Int) : Int := mxI 0 (mnI 16777216 n)
def Iv.cut (x : Iv) : Iv := ⟨cutN x.lo, cutN x.hi⟩
theorem k105 : FnOk Try.prog 105 Try.f105 := fk Try.func105 (by kernel_rfl) rfl
theorem k107 : FnOk Try.prog 107 Try.f107 := fk Try.func107 (by kernel_rfl) rfl
def F1c (g : Iv → Iv) : List Int → Tree
  | [a, b] => .leaf (.u (ivU (g ⟨a, b⟩)))
  | _ => .no
abbrev s1c (g : Iv → Iv) := shT [some 2] (F1c g)
theorem F1c_some {g : Iv → Iv} {l : List Int} {x : V × Heap} (h : (F1c g l).val = some x) : ∃ a : Iv, enc [some 2] l = [ivV a] ∧ x = (.u (ivU (g a)), []) := by
  unfold F1c at h
  split at h
  · cases h; exact ⟨⟨_, _⟩, rfl, rfl⟩
  · cases h
theorem F1c_flat {g : Iv → Iv} (l : List Int) : (F1c g l).flat = true := by unfold F1c; split <;> rfl
theorem a105 (a : Iv) : ans Try.prog [] [(105, Try.f105, []), (107, Try.f107, [])] 9 6 105 [ivV a] = some (.u (ivU a.cut), []) := by kernel_rfl
theorem E105 : Told Try.prog 105 (s1c Iv.cut) := told_sh (fuel := 9) (d := 6) (fns := [(105, Try.f105, []), (107, Try.f107, [])]) mixed orc_nil (fns_cons k105 (fns_cons k107 fns_nil)) k105.enter F1c_flat fun l x h => by
  obtain ⟨a, e, rfl⟩ := F1c_some h
  rw [e, a105]
theorem k109 : FnOk Try.prog 109 Try.f109 := fk Try.func109 (by kernel_rfl) rfl
def shareE (p q : Iv) : Er Iv := bindE (subE p q) fun d => bindE (addE p q) fun s => bindE (divE d s) fun x => bindE (sqE x) fun y => .ok y.cut
theorem a109 (o : Ops) (cut : Iv → Iv) (p q : Iv) : ans Try.prog ((105, s1c cut) :: orcX o) [(109, Try.f109, [])] 9 6 109 [ivV p, ivV q] = okK (o.sub p q) (fun d => okK (o.add p q) (fun s => okK (o.div d s) (fun x => okK (o.sq x) (fun y => OI (cut y)) BI) BI) BI) BI := by kernel_rfl
theorem E109 : Told Try.prog 109 (sh2 shareE) := told_sh (fuel := 9) (d := 6) (fns := [(109, Try.f109, [])]) mixed (orc_cons E105 orcX_ok) (fns_cons k109 fns_nil) k109.enter F2_flat fun l x h => by
  obtain ⟨a, b, e, hx⟩ := F2_some h
  rw [e, a109, ← hx, resT_val]
  unfold shareE
  simp only [okK_bind]
  rfl
structure Sf where
  before : Iv
  after : Iv
  fr : Iv
  to : Iv
def sfC (s : Sf) : List C := [.int .i64 s.before.lo, .int .i64 s.before.hi, .int .i64 s.after.lo, .int .i64 s.after.hi, .int .i64 s.fr.lo, .int .i64 s.fr.hi, .int .i64 s.to.lo, .int .i64 s.to.hi]
def sfV (s : Sf) : V := .u (.a (sfC s))
def Iv.within (x : Iv) (a b : Int) : Bool := x.v && (decide (a ≤ x.lo) && decide (x.hi ≤ b))
def Sf.v (s : Sf) : Bool := s.before.within 0 16777216 && (s.after.within 0 16777216 && (s.fr.within 16777216 67108864 && s.to.within 16777216 67108864))
def P8 (F : Sf → Tree) : List Int → Tree
  | [a, b, c, d, e, f, g, h] => F ⟨⟨a, b⟩, ⟨c, d⟩, ⟨e, f⟩, ⟨g, h⟩⟩
  | _ => .no
abbrev s8 (F : Sf → Tree) := shT [some 8] (P8 F)
theorem P8_some {F : Sf → Tree} {l : List Int} {x : V × Heap} (h : (P8 F l).val = some x) : ∃ s : Sf, enc [some 8] l = [sfV s] ∧ (F s).val = some x := by
  unfold P8 at h
  split at h
  · exact ⟨⟨⟨_, _⟩, ⟨_, _⟩, ⟨_, _⟩, ⟨_, _⟩⟩, rfl, h⟩
  · cases h
theorem P8_flat {F : Sf → Tree} (h : ∀ a, (F a).flat = true) (l : List Int) : (P8 F l).flat = true := by
  unfold P8
  split
  · exact h _
  · rfl
theorem k108 : FnOk Try.prog 108 Try.f108 := fk Try.func108 (by kernel_rfl) rfl
theorem k110 : FnOk Try.prog 110 Try.f110 := fk Try.func110 (by kernel_rfl) rfl
def wi (x : Iv) (a b : Int) (y n : R) : R := bif x.v then bif decide (a ≤ x.lo) then bif decide (x.hi ≤ b) then y else n else n else n
theorem wi_eq (x : Iv) (a b : Int) (y n : R) : wi x a b y n = bif x.within a b then y else n := by unfold wi Iv.within; cases x.v <;> cases decide (a ≤ x.lo) <;> rfl
def wl (x : Iv) (a b : Int) : R := bif x.v then bif decide (a ≤ x.lo) then tru (decide (x.hi ≤ b)) else tru false else tru false
theorem a108 (s : Sf) : ans Try.prog [(29, s1v)] [(108, Try.f108, []), (110, Try.f110, [])] 9 6 108 [sfV s] = wi s.before 0 16777216 (wi s.after 0 16777216 (wi s.fr 16777216 67108864 (wl s.to 16777216 67108864) (tru false)) (tru false)) (tru false) := by kernel_rfl
theorem wl_eq (x : Iv) (a b : Int) : wl x a b = tru (x.within a b) := by unfold wl Iv.within; cases x.v <;> cases decide (a ≤ x.lo) <;> rfl
theorem E108 : Told Try.prog 108 (s8 fun s => truT s.v) := told_sh (fuel := 9) (d := 6) (fns := [(108, Try.f108, []), (110, Try.f110, [])]) mixed (orc_cons E29 orc_nil) (fns_cons k108 (fns_cons k110 fns_nil)) k108.enter (P8_flat fun _ => rfl) fun l x h => by
  obtain ⟨s, e, hx⟩ := P8_some h
  rw [e, a108, ← hx]
  show _ = tru s.v
  simp only [wi_eq, wl_eq]
  unfold Sf.v
  cases s.before.within 0 16777216 <;> cases s.after.within 0 16777216 <;> cases s.fr.within 16777216 67108864 <;> rfl
def polE (s : Sf) (f g : Iv) : Er Iv := bif s.v then bindE (mulE s.fr f) fun p => bindE (mulE s.to g) fun q => shareE p q else .error 0
def P822 (F : Sf → Iv → Iv → Tree) : List Int → Tree
  | [a, b, c, d, e, f, g, h, p, q, r, t] => F ⟨⟨a, b⟩, ⟨c, d⟩, ⟨e, f⟩, ⟨g, h⟩⟩ ⟨p, q⟩ ⟨r, t⟩
  | _ => .no
abbrev s822 (F : Sf → Iv → Iv → Tree) := shT [some 8, some 2, some 2] (P822 F)
theorem P822_some {F : Sf → Iv → Iv → Tree} {l : List Int} {x : V × Heap} (h : (P822 F l).val = some x) : ∃ (s : Sf) (p q : Iv), enc [some 8, some 2, some 2] l = [sfV s, ivV p, ivV q] ∧ (F s p q).val = some x := by
  unfold P822 at h
  split at h
  · exact ⟨⟨⟨_, _⟩, ⟨_, _⟩, ⟨_, _⟩, ⟨_, _⟩⟩, ⟨_, _⟩, ⟨_, _⟩, rfl, h⟩
  · cases h
theorem P822_flat {F : Sf → Iv → Iv → Tree} (h : ∀ a b c, (F a b c).flat = true) (l : List Int) : (P822 F l).flat = true := by
  unfold P822
  split
  · exact h _ _ _
  · rfl
def orcS (o : Ops) (share : Iv → Iv → Er Iv) (cut : Iv → Iv) : List (FuncId × (List V → Tree)) := (109, sh2 share) :: (108, s8 fun s => truT s.v) :: (105, s1c cut) :: orcX o
theorem orcS_ok : OrcOk Try.prog (orcS opsE shareE Iv.cut) := orc_cons E109 (orc_cons E108 (orc_cons E105 orcX_ok))
theorem k106 : FnOk Try.prog 106 Try.f106 := fk Try.func106 (by kernel_rfl) rfl
theorem a106 (o : Ops) (share : Iv → Iv → Er Iv) (cut : Iv → Iv) (s : Sf) (f g : Iv) : ans Try.prog (orcS o share cut) [(106, Try.f106, [])] 9 6 106 [sfV s, ivV f, ivV g] = bif !s.v then BI 0 else okK (o.mul s.fr f) (fun p => okK (o.mul s.to g) (fun q => okK (share p q) OI BI) BI) BI := by kernel_rfl
theorem E106 : Told Try.prog 106 (s822 fun s f g => resT (polE s f g)) := told_sh (fuel := 9) (d := 6) (fns := [(106, Try.f106, [])]) mixed orcS_ok (fns_cons k106 fns_nil) k106.enter (P822_flat fun _ _ _ => rfl) fun l x h => by
  obtain ⟨s, f, g, e, hx⟩ := P822_some h
  rw [e, a106, ← hx, resT_val]
  unfold polE
  cases s.v
  · rfl
  · simp only [cond_true, okK_bind]
    rfl
def half1 : Iv := ⟨8388608, 8388608⟩
def reflectE (s : Sf) : Er Iv := bindE (polE s s.before s.after) fun a => bindE (polE s s.after s.before) fun b => bindE (addE a b) fun t => bindE (mulE t half1) fun x => .ok x.cut
def transE (s : Sf) : Er Iv := bindE (reflectE s) fun r => subE one1 r
theorem k100 : FnOk Try.prog 100 Try.f100 := fk Try.func100 (by kernel_rfl) rfl
theorem k103 : FnOk Try.prog 103 Try.f103 := fk Try.func103 (by kernel_rfl) rfl
theorem k104 : FnOk Try.prog 104 Try.f104 := fk Try.func104 (by kernel_rfl) rfl
theorem k93 : FnOk Try.prog 93 Try.f93 := fk Try.func93 (by kernel_rfl) rfl
theorem a93 (o : Ops) (share : Iv → Iv → Er Iv) (cut : Iv → Iv) (pol : Sf → Iv → Iv → Er Iv) (s : Sf) : ans Try.prog ((106, s822 fun s f g => resT (pol s f g)) :: orcS o share cut) [(93, Try.f93, []), (100, Try.f100, []), (103, Try.f103, []), (104, Try.f104, [])] 9 6 93 [sfV s] =
    okK (pol s s.before s.after) (fun a => okK (pol s s.after s.before) (fun b => okK (o.add a b) (fun t => okK (o.mul t half1) (fun x => okK (o.sub one1 (cut x)) OI BI) BI) BI) BI) BI := by kernel_rfl
theorem E93 : Told Try.prog 93 (s8 fun s => resT (transE s)) := told_sh (fuel := 9) (d := 6) (fns := [(93, Try.f93, []), (100, Try.f100, []), (103, Try.f103, []), (104, Try.f104, [])]) mixed (orc_cons E106 orcS_ok) (fns_cons k93 (fns_cons k100 (fns_cons k103 (fns_cons k104 fns_nil)))) k93.enter (P8_flat fun _ => rfl) fun l x h => by
  obtain ⟨s, e, hx⟩ := P8_some h
  rw [e, a93, ← hx, resT_val]
  unfold transE reflectE
  simp only [okK_bind]
  rfl
/-! Layer 31: the light that passes; the next point. -/
def cosI (x : Iv) : Iv := bif decide (x.lo < 0) then ⟨cutN (W (0 - x.hi)), cutN (W (0 - x.lo))⟩ else x.cut
def lightE (before after fr to : Iv) : Er Iv := transE ⟨cosI before, cosI after, fr, to⟩
def P2222 (F : Iv → Iv → Iv → Iv → Tree) : List Int → Tree
  | [a, b, c, d, e, f, g, h] => F ⟨a, b⟩ ⟨c, d⟩ ⟨e, f⟩ ⟨g, h⟩
  | _ => .no
abbrev s2222 (F : Iv → Iv → Iv → Iv → Tree) := shT [some 2, some 2, some 2, some 2] (P2222 F)
theorem P2222_some {F : Iv → Iv → Iv → Iv → Tree} {l : List Int} {x : V × Heap} (h : (P2222 F l).val = some x) : ∃ p q r s : Iv, enc [some 2, some 2, some 2, some 2] l = [ivV p, ivV q, ivV r, ivV s] ∧ (F p q r s).val = some x := by
  unfold P2222 at h
  split at h
  · exact ⟨⟨_, _⟩, ⟨_, _⟩, ⟨_, _⟩, ⟨_, _⟩, rfl, h⟩
  · cases h
theorem P2222_flat {F : Iv → Iv → Iv → Iv → Tree} (h : ∀ a b c d, (F a b c d).flat = true) (l : List Int) : (P2222 F l).flat = true := by
  unfold P2222
  split
  · exact h _ _ _ _
  · rfl
theorem k67 : FnOk Try.prog 67 Try.f67 := fk Try.func67 (by kernel_rfl) rfl
theorem k92 : FnOk Try.prog 92 Try.f92 := fk Try.func92 (by kernel_rfl) rfl
theorem a67 (tr : Sf → Er Iv) (p q r s : Iv) : ans Try.prog [(93, s8 fun s => resT (tr s))] [(67, Try.f67, []), (92, Try.f92, [])] 9 6 67 [ivV p, ivV q, ivV r, ivV s] =
    bif decide (p.lo < 0) then bif decide (q.lo < 0) then okK (tr ⟨⟨cutN (W (0 - p.hi)), cutN (W (0 - p.lo))⟩, ⟨cutN (W (0 - q.hi)), cutN (W (0 - q.lo))⟩, r, s⟩) OI BI else okK (tr ⟨⟨cutN (W (0 - p.hi)), cutN (W (0 - p.lo))⟩, q.cut, r, s⟩) OI BI
    else bif decide (q.lo < 0) then okK (tr ⟨p.cut, ⟨cutN (W (0 - q.hi)), cutN (W (0 - q.lo))⟩, r, s⟩) OI BI else okK (tr ⟨p.cut, q.cut, r, s⟩) OI BI := by kernel_rfl
theorem E67 : Told Try.prog 67 (s2222 fun p q r s => resT (lightE p q r s)) := told_sh (fuel := 9) (d := 6) (fns := [(67, Try.f67, []), (92, Try.f92, [])]) mixed (orc_cons E93 orc_nil) (fns_cons k67 (fns_cons k92 fns_nil)) k67.enter (P2222_flat fun _ _ _ _ => rfl) fun l x h => by
  obtain ⟨p, q, r, s, e, hx⟩ := P2222_some h
  rw [e, a67, ← hx, resT_val]
  unfold lightE cosI
  cases decide (p.lo < 0) <;> cases decide (q.lo < 0) <;> rfl
structure Ray where
  pt : Bx
  dir : Bx
def rayC (r : Ray) : List C := bxC r.pt ++ bxC r.dir
def rayV (r : Ray) : V := .u (.a (rayC r))
def moveE (r : Ray) (k : Iv) : Er Bx := bindE (scaleE r.dir k) fun w => addB r.pt w
def P122 (F : Ray → Iv → Tree) : List Int → Tree
  | [a, b, c, d, e, f, a', b', c', d', e', f', p, q] => F ⟨⟨⟨a, b⟩, ⟨c, d⟩, ⟨e, f⟩⟩, ⟨⟨a', b'⟩, ⟨c', d'⟩, ⟨e', f'⟩⟩⟩ ⟨p, q⟩
  | _ => .no
abbrev s122 (F : Ray → Iv → Tree) := shT [some 12, some 2] (P122 F)
theorem P122_some {F : Ray → Iv → Tree} {l : List Int} {x : V × Heap} (h : (P122 F l).val = some x) : ∃ (r : Ray) (k : Iv), enc [some 12, some 2] l = [rayV r, ivV k] ∧ (F r k).val = some x := by
  unfold P122 at h
  split at h
  · exact ⟨⟨⟨⟨_, _⟩, ⟨_, _⟩, ⟨_, _⟩⟩, ⟨⟨_, _⟩, ⟨_, _⟩, ⟨_, _⟩⟩⟩, ⟨_, _⟩, rfl, h⟩
  · cases h
theorem P122_flat {F : Ray → Iv → Tree} (h : ∀ a b, (F a b).flat = true) (l : List Int) : (P122 F l).flat = true := by
  unfold P122
  split
  · exact h _ _
  · rfl
theorem k42 : FnOk Try.prog 42 Try.f42 := fk Try.func42 (by kernel_rfl) rfl
theorem a42 (o : Ops) (r : Ray) (k : Iv) : ans Try.prog (orcX o) [(42, Try.f42, [])] 9 6 42 [rayV r, ivV k] = okB (o.scale r.dir k) (fun w => okB (o.addB r.pt w) OB BB) BB := by kernel_rfl
theorem E42 : Told Try.prog 42 (s122 fun r k => resB (moveE r k)) := told_sh (fuel := 9) (d := 6) (fns := [(42, Try.f42, [])]) mixed orcX_ok (fns_cons k42 fns_nil) k42.enter (P122_flat fun _ _ => rfl) fun l x h => by
  obtain ⟨r, k, e, hx⟩ := P122_some h
  rw [e, a42, ← hx, resB_val]
  unfold moveE
  simp only [okB_bindB]
  rfl
end Go.Proofs.Ytbgdfikfldkjbaa.AI
