/- Layers 28 and 29's reference, told. -/
import Derived.Test.YtbgdfikfldkjbaaGreatGB
namespace Go.Proofs.YtbgdfikfldkjbaaGreat.AI
set_option linter.unnecessarySimpa false
open Go
set_option linter.unusedVariables false
set_option linter.unusedSimpArgs false
theorem gk71 : FnOk Tryz.prog 71 Tryz.f71 := fk Tryz.func71 (by kernel_rfl) rfl
theorem gk66 : FnOk Tryz.prog 66 Tryz.f66 := fk Tryz.func66 (by kernel_rfl) rfl
theorem gk67 : FnOk Tryz.prog 67 Tryz.f67 := fk Tryz.func67 (by kernel_rfl) rfl
theorem gk30 : FnOk Tryz.prog 30 Tryz.f30 := fk Tryz.func30 (by kernel_rfl) rfl
theorem gk32 : FnOk Tryz.prog 32 Tryz.f32 := fk Tryz.func32 (by kernel_rfl) rfl
theorem gk50 : FnOk Tryz.prog 50 Tryz.f50 := fk Tryz.func50 (by kernel_rfl) rfl
theorem gk20 : FnOk Tryz.prog 20 Tryz.f20 := fk Tryz.func20 (by kernel_rfl) rfl
theorem gk95 : FnOk Tryz.prog 95 Tryz.f95 := fk Tryz.func95 (by kernel_rfl) rfl
theorem gk96 : FnOk Tryz.prog 96 Tryz.f96 := fk Tryz.func96 (by kernel_rfl) rfl
theorem gk97 : FnOk Tryz.prog 97 Tryz.f97 := fk Tryz.func97 (by kernel_rfl) rfl
theorem gk98 : FnOk Tryz.prog 98 Tryz.f98 := fk Tryz.func98 (by kernel_rfl) rfl
theorem gk109 : FnOk Tryz.prog 109 Tryz.f109 := fk Tryz.func109 (by kernel_rfl) rfl
theorem gk110 : FnOk Tryz.prog 110 Tryz.f110 := fk Tryz.func110 (by kernel_rfl) rfl
theorem gk112 : FnOk Tryz.prog 112 Tryz.f112 := fk Tryz.func112 (by kernel_rfl) rfl
theorem gk115 : FnOk Tryz.prog 115 Tryz.f115 := fk Tryz.func115 (by kernel_rfl) rfl
theorem gk135 : FnOk Tryz.prog 135 Tryz.f135 := fk Tryz.func135 (by kernel_rfl) rfl
noncomputable def fnsR (f : FuncId) (fn : Func) : List (FuncId × Func × List (Nat × LV)) := [(f, fn, []), (20, Tryz.f20, []), (95, Tryz.f95, []), (96, Tryz.f96, []), (97, Tryz.f97, []), (98, Tryz.f98, []), (109, Tryz.f109, []), (110, Tryz.f110, []), (112, Tryz.f112, []), (115, Tryz.f115, []), (135, Tryz.f135, [])]
theorem fnsR_ok {f : FuncId} {fn : Func} (h : FnOk Tryz.prog f fn) : FnsOk Tryz.prog (fnsR f fn) := fns_cons h (fns_cons gk20 (fns_cons gk95 (fns_cons gk96 (fns_cons gk97 (fns_cons gk98 (fns_cons gk109 (fns_cons gk110 (fns_cons gk112 (fns_cons gk115 (fns_cons gk135 fns_nil))))))))))
def orc27 (o : Ops) : List (FuncId × (List V → Tree)) := [(28, s1v), (43, s6v), (70, sh2 o.add), (75, sh2 o.sub), (68, sh2 o.mul), (49, sh2 o.div), (99, sh1 o.neg), (120, sh1 o.sq), (116, sh1 o.sqrt), (69, s1s o.sgn)]
theorem orc27_ok : OrcOk Tryz.prog (orc27 opsE) := orc_cons E30 (orc_cons E20 (orc_cons E58 (orc_cons H75 (orc_cons E57 (orc_cons H49 (orc_cons H99 (orc_cons H120 (orc_cons H116 (orc_cons H69 orc_nil)))))))))
theorem gq71 (o : Ops) (a b : Bx) : ans Tryz.prog (orc27 o) (fnsR 71 Tryz.f71) 9 6 71 [bxV a, bxV b] = two6 a.v b.v (kept none (o.sub a.x b.x) fun x s => kept s (o.sub a.y b.y) fun y s => kept s (o.sub a.z b.z) fun z s => endB ⟨x, y, z⟩ s) (BB 0) := by kernel_rfl
theorem H71 : Told Tryz.prog 71 (s66 fun a b => resB (subB a b)) := told_sh (fuel := 9) (d := 6) (fns := fnsR 71 Tryz.f71) mixed orc27_ok (fnsR_ok gk71) gk71.enter (P66_flat fun _ _ => rfl) fun l x h => by
  obtain ⟨a, b, e, hx⟩ := P66_some h
  rw [e, gq71, ← hx, resB_val, two6_eq]
  unfold subB mapE
  cases a.v && b.v
  · rfl
  · rw [kept3]; rfl
theorem gq66 (o : Ops) (a b : Iv) : ans Tryz.prog (orc27 o) (fnsR 66 Tryz.f66) 9 6 66 [ivV a, ivV b] = two6 a.v b.v (kept none (o.sq b) fun sq s => kept s (o.sq a) fun c2 s => kept s (o.sub one1 c2) fun t s => kept s (o.mul sq t) fun p s => kept s (o.sub one1 p) fun q s => endI q s) (BI 0) := by kernel_rfl
theorem H66 : Told Tryz.prog 66 (sh2 radE) := told_sh (fuel := 9) (d := 6) (fns := fnsR 66 Tryz.f66) mixed orc27_ok (fnsR_ok gk66) gk66.enter F2_flat fun l x h => by
  obtain ⟨a, b, e, hx⟩ := F2_some h
  rw [e, gq66, ← hx, resT_val, two6_eq]
  unfold radE
  cases a.v && b.v
  · rfl
  · simp only [cond_true, okK_bind]
    exact kept_none (fun x => kept_none (fun y => kept_none (fun z => kept_none (fun t => kept_none (fun u => rfl) fun er u => rfl) fun er t => kept_skip fun u => rfl) fun er z => kept_skip fun t => kept_skip fun u => rfl) fun er y => kept_skip fun z => kept_skip fun t => kept_skip fun u => rfl) fun er x => kept_skip fun y => kept_skip fun z => kept_skip fun t => kept_skip fun u => rfl
theorem gq67 (o : Ops) (a : Iv) : ans Tryz.prog (orc27 o) (fnsR 67 Tryz.f67) 9 6 67 [ivV a] = bif !a.v then some (.u (ui 0), []) else bif decide (o.sgn a = -1) then some (.u (ui 1), []) else bif decide (o.sgn a = 1) then some (.u (ui 2), []) else some (.u (ui 3), []) := by kernel_rfl
theorem H67 : Told Tryz.prog 67 (s1s Iv.kind) := told_sh (fuel := 9) (d := 6) (fns := fnsR 67 Tryz.f67) mixed orc27_ok (fnsR_ok gk67) gk67.enter F1s_flat fun l x h => by
  obtain ⟨a, e, rfl⟩ := F1s_some h
  rw [e, gq67]
  unfold Iv.kind decI
  show _ = some (V.u (ui (bif !a.v then 0 else bif decide (a.sgn = -1) then 1 else bif decide (a.sgn = 1) then 2 else 3)), ([] : Heap))
  show (bif !a.v then _ else bif decide (a.sgn = -1) then _ else bif decide (a.sgn = 1) then _ else _) = _
  cases a.v
  · rfl
  · cases decide (a.sgn = -1)
    · cases decide (a.sgn = 1) <;> rfl
    · rfl
def orc29 (o : Ops) (rad : Iv → Iv → Er Iv) (kind : Iv → Int) : List (FuncId × (List V → Tree)) := (66, sh2 rad) :: (67, s1s kind) :: (65, s66 fun a b => resT (o.dot a b)) :: (63, s62 fun a b => resB (o.scale a b)) :: (64, s66 fun a b => resB (o.addB a b)) :: (71, s66 fun a b => resB (o.subB a b)) :: orc27 o
theorem orc29_ok : OrcOk Tryz.prog (orc29 opsE radE Iv.kind) := orc_cons H66 (orc_cons H67 (orc_cons E14 (orc_cons E12 (orc_cons E13 (orc_cons H71 orc27_ok)))))
theorem gq30 (o : Ops) (rad : Iv → Iv → Er Iv) (kind : Iv → Int) (d n : Bx) (r : Iv) : ans Tryz.prog (orc29 o rad kind) (fnsR 30 Tryz.f30) 9 6 30 [bxV d, bxV n, ivV r] = bif !r.v then BN 0 else okK (o.dot d n) (fun x => okK (rad x r) (fun q => ON (kind q)) BN) BN := by kernel_rfl
theorem dot_bad {d n : Bx} (h : (d.v && n.v) = false) : dotE d n = .error 0 := by unfold dotE; rw [h]; rfl
theorem H30 : Told Tryz.prog 30 (s662 fun d n r => resN (hitsE d n r)) := told_sh (fuel := 9) (d := 6) (fns := fnsR 30 Tryz.f30) mixed orc29_ok (fnsR_ok gk30) gk30.enter (P662_flat fun _ _ _ => rfl) fun l x h => by
  obtain ⟨d, n, r, e, hx⟩ := P662_some h
  rw [e, gq30, ← hx, resN_val]
  unfold hitsE
  cases hr : r.v
  · rw [Bool.and_false]; rfl
  · cases hdn : d.v && n.v
    · rw [show opsE.dot d n = .error 0 from dot_bad hdn]; rfl
    · simp only [Bool.and_self, Bool.not_true, cond_false, cond_true, okN_bind]
      rfl
theorem gq32 (o : Ops) (rad : Iv → Iv → Er Iv) (kind : Iv → Int) (d n : Bx) : ans Tryz.prog (orc29 o rad kind) (fnsR 32 Tryz.f32) 9 6 32 [bxV d, bxV n] = okK (o.dot d n) (fun x => okK (o.add x x) (fun k => okB (o.scale n k) (fun s => okB (o.subB d s) OB BB) BB) BB) BB := by kernel_rfl
theorem H32 : Told Tryz.prog 32 (s66 fun d n => resB (reflE d n)) := told_sh (fuel := 9) (d := 6) (fns := fnsR 32 Tryz.f32) mixed orc29_ok (fnsR_ok gk32) gk32.enter (P66_flat fun _ _ => rfl) fun l x h => by
  obtain ⟨d, n, e, hx⟩ := P66_some h
  rw [e, gq32, ← hx, resB_val]
  unfold reflE
  simp only [okB_bind, okB_bindB]
  rfl
def afK (s : Option Nat) (X : R) : R := match s with
  | none => X
  | some e => BF e
def refG (o : Ops) (d n : Bx) (r c af : Iv) : R := okB (o.scale d r) (fun al => kept none (o.mul r c) fun m s => kept s (o.sub af m) fun k s => afK s (okB (o.scale n k) (fun s' => okB (o.addB al s') (fun out => OF ⟨out, c, af⟩) BF) BF)) BF
theorem gq50 (o : Ops) (rad : Iv → Iv → Er Iv) (kind : Iv → Int) (d n : Bx) (r : Iv) : ans Tryz.prog (orc29 o rad kind) (fnsR 50 Tryz.f50) 9 6 50 [bxV d, bxV n, ivV r] = bif !r.v then BF 0 else okK (o.dot d n) (fun c => bif decide (o.sgn c = 0) then BF 8 else okK (rad c r) (fun q => bif decide (q.lo < 0) then BF 14 else
    kept none (o.sqrt q) fun t s => bif decide (o.sgn c < 0) then kept s (o.neg t) fun af s => afK s (refG o d n r c af) else afK s (refG o d n r c t)) BF) BF := by kernel_rfl
theorem refG_eq (d n : Bx) (r c af : Iv) : refG opsE d n r c af = okF (bindE (scaleE d r) fun al => bindE (mulE r c) fun m => bindE (subE af m) fun k => bindE (scaleE n k) fun s => bindE (addB al s) fun out => .ok ⟨out, c, af⟩) OF BF := by
  unfold refG
  simp only [okF_bind, okF_bindB]
  show okB (scaleE d r) _ _ = okB (scaleE d r) _ _
  unfold okB
  cases okE (scaleE d r)
  · rfl
  simp only [cond_true]
  exact kept_none (fun m => kept_none (fun k => rfl) fun er k => rfl) fun er m => kept_skip fun k => rfl
theorem H50 : Told Tryz.prog 50 (s662 fun d n r => resF (refrE d n r)) := told_sh (fuel := 9) (d := 6) (fns := fnsR 50 Tryz.f50) mixed orc29_ok (fnsR_ok gk50) gk50.enter (P662_flat fun _ _ _ => rfl) fun l x h => by
  obtain ⟨d, n, r, e, hx⟩ := P662_some h
  rw [e, gq50, ← hx, resF_val]
  unfold refrE
  cases hr : r.v
  · rw [Bool.and_false]; rfl
  · cases hdn : d.v && n.v
    · rw [show opsE.dot d n = .error 0 from dot_bad hdn]; rfl
    · simp only [Bool.and_self, Bool.not_true, cond_false, cond_true, okF_bind]
      show okK (dotE d n) _ _ = okK (dotE d n) _ _
      unfold okK
      cases okE (dotE d n)
      · rfl
      simp only [cond_true]
      generalize getE iv0 (dotE d n) = c
      show (bif decide (c.sgn = 0) then BF 8 else _) = _
      cases decide (c.sgn = 0)
      · simp only [cond_false, okF_bind]
        unfold okK
        cases okE (radE c r)
        · rfl
        simp only [cond_true]
        generalize getE iv0 (radE c r) = q
        cases decide (q.lo < 0)
        · simp only [cond_false, okF_bind]
          show (kept none (sqrtE q) fun t s => bif decide (c.sgn < 0) then kept s (negE t) fun af s => afK s (refG opsE d n r c af) else afK s (refG opsE d n r c t)) = _
          cases decide (c.sgn < 0)
          · simp only [cond_false]
            exact kept_none (fun t => (refG_eq d n r c t).trans (by simp only [okF_bind, okF_bindB]; rfl)) fun er t => rfl
          · simp only [cond_true]
            exact kept_none (fun t => (kept_none (fun af => (refG_eq d n r c af).trans (by simp only [okF_bind, okF_bindB])) fun er af => rfl)) fun er t => kept_skip fun af => rfl
        · rfl
      · rfl
end Go.Proofs.YtbgdfikfldkjbaaGreat.AI
