/- Two texts, laid into one by mkclaim.py. -/
import Derived.Test.YtbgdfikfldkjbaaNFX
import Derived.Test.YtbgdfikfldkjbaaTI0
import Derived.Test.YtbgdfikfldkjbaaTI4
section
/- The statement TraceInside, read. -/
namespace Go.Proofs.Ytbgdfikfldkjbaa.AI
set_option linter.unnecessarySimpa false
open Go
set_option linter.unusedVariables false
set_option linter.unusedSimpArgs false
noncomputable def orc5 (w : Pth → Pth → Bool) : List (FuncId × (List V → Tree)) := [(8, T8), (17, fun args => argsT args (F17 w)), (18, fun args => argsT args (F17 w))]
noncomputable def fns5 : List (FuncId × Func × List (Nat × LV)) := [(5, Try.f5, []), (19, Try.f19, [])]
/-- A path, read from an argument slice. -/
def Pth.num (p : Pth) : Pth := ⟨p.kd, p.n, numOf (arrC 1 p.v), p.o, p.g⟩
theorem a5 (w : Pth → Pth → Bool) (p q : Pth) (ad ad' : Option Addr) (cap cap' : Nat) : ans Try.prog (orc5 w) fns5 9 3 5 [.u (.a (pathC p ad cap)), .u (.a (pathC q ad' cap'))] =
    bif decide (30 < (p.n : Int)) then tru true else bif decide (30 < (q.n : Int)) then tru true else
    bif allN (fun j => isInts 1 (arrC 1 p.v j)) p.n then bif allN (fun j => isInts 1 (arrC 1 q.v j)) q.n then bif decide (p.n ≤ 200) && decide (q.n ≤ 200) then
    bif allN (fun j => isInts 1 (arrC 1 p.v j)) p.n then bif allN (fun j => isInts 1 (arrC 1 q.v j)) q.n then bif decide (p.n ≤ 200) && decide (q.n ≤ 200) then
    tru (decide (w p.num q.num = w p.num q.num)) else none else none else none else none else none else none := by kernel_rfl
theorem in_true (w : Pth → Pth → Bool) (p q : Pth) (ad ad' : Option Addr) (cap cap' : Nat) : ans Try.prog (orc5 w) fns5 9 3 5 [.u (.a (pathC p ad cap)), .u (.a (pathC q ad' cap'))] = tru true := by
  have i1 := allN_iff.2 fun j (_ : j < p.n) => isInts_arr 1 p.v j
  have i2 := allN_iff.2 fun j (_ : j < q.n) => isInts_arr 1 q.v j
  rw [a5, i1, i2]
  by_cases h1 : p.n ≤ 30
  · by_cases h2 : q.n ≤ 30
    · rw [decide_eq_false (show ¬ 30 < (p.n : Int) by omega), decide_eq_false (show ¬ 30 < (q.n : Int) by omega), decide_eq_true (show p.n ≤ 200 by omega), decide_eq_true (show q.n ≤ 200 by omega), decide_eq_true rfl]
      rfl
    · rw [decide_eq_true (show 30 < (q.n : Int) by omega)]
      cases decide (30 < (p.n : Int)) <;> rfl
  · rw [decide_eq_true (show 30 < (p.n : Int) by omega)]
    rfl
theorem k5 : FnOk Try.prog 5 Try.f5 := fk Try.func5 (by kernel_rfl) rfl
theorem k19 : FnOk Try.prog 19 Try.f19 := fk Try.func19 (by kernel_rfl) rfl
theorem fns5_ok : FnsOk Try.prog fns5 := fns_cons k5 (fns_cons k19 fns_nil)
theorem orc5_ok : OrcOk Try.prog (orc5 insW) := orc_cons E8 (orc_cons E17 (orc_cons E18 orc_nil))
theorem in_calls (p q : Pth) (ad ad' : Option Addr) (cap cap' : Nat) (w : World) (h1 : AOk w (.as ad 1 p.n cap (arrC 1 p.v))) (h2 : AOk w (.as ad' 1 q.n cap' (arrC 1 q.v))) :
    Calls Try.prog 5 (([.u (.a (pathC p ad cap)), .u (.a (pathC q ad' cap'))] : List V).map (V.den fun _ => ri0)).toArray w fun e w' => e = .returned (.bool true) ∧ RowKit.Below w.heap.size w w' := by
  refine ans_calls mixed orc5_ok fns5_ok (in_true insW p q ad ad' cap cap') (fun y hy => ?_) _ (fun y hy => ?_)
  · simp only [List.mem_cons, List.not_mem_nil, or_false] at hy
    rcases hy with rfl | rfl
    · exact ⟨rfl, fun e => by cases e⟩
    · exact ⟨rfl, fun e => by cases e⟩
  · simp only [List.mem_cons, List.not_mem_nil, or_false] at hy
    rcases hy with rfl | rfl
    · intro z hz
      simp only [pathC, List.mem_cons, List.not_mem_nil, or_false] at hz
      rcases hz with rfl | rfl | rfl | rfl | rfl | rfl | rfl | rfl | rfl | rfl
      all_goals first | exact h1 | exact AOk.int _ _
    · intro z hz
      simp only [pathC, List.mem_cons, List.not_mem_nil, or_false] at hz
      rcases hz with rfl | rfl | rfl | rfl | rfl | rfl | rfl | rfl | rfl | rfl
      all_goals first | exact h2 | exact AOk.int _ _
end Go.Proofs.Ytbgdfikfldkjbaa.AI
end
section
/- TraceInclusion, the plain law: the path of a part lies inside the path of the whole. -/
namespace Go.Proofs.Ytbgdfikfldkjbaa.AI
set_option linter.unnecessarySimpa false
open Go
set_option linter.unusedVariables false
set_option linter.unusedSimpArgs false
def U32 (k : Int) : Prop := 0 ≤ k ∧ k ≤ 4294967295
structure ParOk (p : Par) : Prop where
  k0 : U32 p.k0
  k1 : U32 p.k1
  k2 : U32 p.k2
  k3 : U32 p.k3
  k4 : U32 p.k4
  k5 : U32 p.k5
  l0 : U32 p.l0
  l1 : U32 p.l1
  l2 : U32 p.l2
  l3 : U32 p.l3
  l4 : U32 p.l4
  l5 : U32 p.l5
theorem wiN_in {x : Iv} (hx : x.v = true) {k l : Int} (hk : U32 k) (hl : U32 l) (K : Iv → R) : ∃ y, IvIn y x ∧ wiN x k l K = K y := by
  have a := ivv hx
  have wi : ∀ n : Int, -9000000000 ≤ n → n ≤ 9000000000 → W n = n := fun n h1 h2 => by unfold W; exact wr (by omega) (by omega)
  have e0 : W (W (x.hi - x.lo) + 1) = x.hi - x.lo + 1 := by rw [wi (x.hi - x.lo) (by omega) (by omega), wi _ (by omega) (by omega)]
  obtain ⟨n, hn⟩ : ∃ n, n = x.hi - x.lo + 1 := ⟨_, rfl⟩
  have hk1 := Int.tmod_nonneg n hk.1
  have hk2 := Int.tmod_lt_of_pos k (show 0 < n by omega)
  have hl1 := Int.tmod_nonneg n hl.1
  have hl2 := Int.tmod_lt_of_pos l (show 0 < n by omega)
  have e1 : W k = k := wi k (by have := hk.1; omega) (by have := hk.2; omega)
  have e2 : W l = l := wi l (by have := hl.1; omega) (by have := hl.2; omega)
  refine ⟨⟨min (x.lo + Int.tmod k n) (x.lo + Int.tmod l n), max (x.lo + Int.tmod k n) (x.lo + Int.tmod l n)⟩, ⟨?_, ?_, ?_⟩, ?_⟩
  · simp only [Iv.v, vI_iff]; omega
  · show x.lo ≤ min _ _; omega
  · show max _ _ ≤ x.hi; omega
  · unfold wiN
    rw [e0, e1, e2, ← hn, decide_eq_false (show ¬ n = 0 by omega), wi (x.lo + Int.tmod k n) (by omega) (by omega), wi (x.lo + Int.tmod l n) (by omega) (by omega), mnI_eq, mxI_eq]
    rfl
theorem parX_in {a : Bx} (ha : a.v = true) {k0 k1 k2 k3 k4 k5 : Int} (h0 : U32 k0) (h1 : U32 k1) (h2 : U32 k2) (h3 : U32 k3) (h4 : U32 k4) (h5 : U32 k5) (K : Bx → R) : ∃ b, BxIn b a ∧ parX a k0 k1 k2 k3 k4 k5 K = K b := by
  simp only [Bx.v, Bool.and_eq_true] at ha
  unfold parX
  obtain ⟨x, hx, e⟩ := wiN_in ha.1 h0 h1 fun x => wiN a.y k2 k3 fun y => wiN a.z k4 k5 fun z => K ⟨x, y, z⟩
  obtain ⟨y, hy, e'⟩ := wiN_in ha.2.1 h2 h3 fun y => wiN a.z k4 k5 fun z => K ⟨x, y, z⟩
  obtain ⟨z, hz, e''⟩ := wiN_in ha.2.2 h4 h5 fun z => K ⟨x, y, z⟩
  exact ⟨⟨x, y, z⟩, ⟨hx, hy, hz⟩, e.trans (e'.trans e'')⟩
/-- Follow, of any valid ray. -/
noncomputable def follow1 (n m : Nat) (v u : Nat → Nat → Int) (x : Iv) (r : Ray) (k : Int) : Er Pth := bif !validB n m v u x then .error 0 else bif decide (k < 0) then .error 1 else bif decide (20 < k) then .error 1 else .ok (goE n m v u x one1 k.toNat r)
theorem follow_one {n m : Nat} {v u : Nat → Nat → Int} {x : Iv} {r : Ray} (hp : r.pt.v = true) (hd : r.dir.v = true) (k : Int) : followE n m v u x r one1 k = follow1 n m v u x r k := by
  unfold followE follow1
  rw [hp, hd, one1_v]
  rfl
/-- What is asked of a path of the part, and one of the whole. -/
def RelP (s e : Er Pth) : Prop := (∃ k, s = .error k ∧ e = .error k) ∨ ∃ p P, s = .ok p ∧ e = .ok P ∧ p.n ≤ 200 ∧ P.n ≤ 200 ∧ insW p.row P.row = true
theorem rel_follow (n m : Nat) (v u : Nat → Nat → Int) (x : Iv) {r R : Ray} (h : RayIn r R) (hp : R.pt.v = true) (hd : R.dir.v = true) (k : Int) : RelP (followE n m v u x r one1 k) (followE n m v u x R one1 k) := by
  rw [follow_one h.pt.v h.dir.v, follow_one hp hd]
  unfold follow1
  cases hv : validB n m v u x
  · exact .inl ⟨0, rfl, rfl⟩
  cases h1 : decide (k < 0)
  · cases h2 : decide (20 < k)
    · simp only [decide_eq_false_iff_not] at h1 h2
      have x1 : Ext 0 (fun _ _ => 0) k.toNat (goE n m v u x one1 k.toNat r) := go_ext foE (leaveF foE) n m v u x one1 k.toNat r 0 _
      have x2 : Ext 0 (fun _ _ => 0) k.toNat (goE n m v u x one1 k.toNat R) := go_ext foE (leaveF foE) n m v u x one1 k.toNat R 0 _
      have l1 := x1.le
      have l2 := x2.le
      exact .inr ⟨_, _, rfl, rfl, by omega, by omega, ins_pin (go_incl n m v u x one1 hv one1_v k.toNat r R 0 _ h) (goE_end n m v u x one1 (by decide) one1_v k.toNat R)⟩
    · exact .inl ⟨1, rfl, rfl⟩
  · exact .inl ⟨1, rfl, rfl⟩
theorem tail_rel {s e : Er Pth} (h : RelP s e) (n m : Nat) (v u : Nat → Nat → Int) : pre22 n m v u (bif okE s then pre22 n m v u (tailO insW insW (getE p0 s) e) else pre22 n m v u (tailN (erE s) e)) = tru true := by
  simp only [pre22_in]
  rcases h with ⟨k, rfl, rfl⟩ | ⟨p, P, rfl, rfl, h1, h2, h3⟩
  · show tailN k (.error k) = tru true
    show (bif decide (Int.ofNat (k + 1) = Int.ofNat (k + 1)) then tru true else tru false) = tru true
    rw [decide_eq_true rfl]
    rfl
  · show (two7 p P (bif insW p.row P.row then two7 p P (tru (insW p.row P.row)) else tru false)) = tru true
    rw [two7_in _ _ _ h1 h2, two7_in _ _ _ h1 h2, h3]
    rfl
theorem law6_gen (fo : FoF) (bv : Bx → Bool) (hb : ∀ b, bv b = b.v) (n m : Nat) (v u : Nat → Nat → Int) (x : Iv) (r : Ray) (p : Par) (hp : ParOk p)
    (hf : ∀ s, RayIn s r → r.pt.v = true → r.dir.v = true → RelP (fo n m (numOf (arrC 6 v)) (numOf (arrC 2 u)) x s one1 p.most) (fo n m (numOf (arrC 6 v)) (numOf (arrC 2 u)) x r one1 p.most)) : law6 fo bv insW insW n m v u x r p = tru true := by
  unfold law6
  rw [hb, hb]
  cases h1 : r.pt.v
  · rfl
  cases h2 : r.dir.v
  · rfl
  simp only [Bool.not_true, cond_false]
  obtain ⟨a, ha, e1⟩ := parX_in h1 hp.k0 hp.k1 hp.k2 hp.k3 hp.k4 hp.k5 fun a => parX r.dir p.l0 p.l1 p.l2 p.l3 p.l4 p.l5 fun d =>
    pre22 n m v u (bif okE (fo n m (numOf (arrC 6 v)) (numOf (arrC 2 u)) x ⟨a, d⟩ one1 p.most) then pre22 n m v u (tailO insW insW (getE p0 (fo n m (numOf (arrC 6 v)) (numOf (arrC 2 u)) x ⟨a, d⟩ one1 p.most)) (fo n m (numOf (arrC 6 v)) (numOf (arrC 2 u)) x r one1 p.most))
      else pre22 n m v u (tailN (erE (fo n m (numOf (arrC 6 v)) (numOf (arrC 2 u)) x ⟨a, d⟩ one1 p.most)) (fo n m (numOf (arrC 6 v)) (numOf (arrC 2 u)) x r one1 p.most)))
  rw [e1]
  obtain ⟨d, hd, e2⟩ := parX_in h2 hp.l0 hp.l1 hp.l2 hp.l3 hp.l4 hp.l5 fun d =>
    pre22 n m v u (bif okE (fo n m (numOf (arrC 6 v)) (numOf (arrC 2 u)) x ⟨a, d⟩ one1 p.most) then pre22 n m v u (tailO insW insW (getE p0 (fo n m (numOf (arrC 6 v)) (numOf (arrC 2 u)) x ⟨a, d⟩ one1 p.most)) (fo n m (numOf (arrC 6 v)) (numOf (arrC 2 u)) x r one1 p.most))
      else pre22 n m v u (tailN (erE (fo n m (numOf (arrC 6 v)) (numOf (arrC 2 u)) x ⟨a, d⟩ one1 p.most)) (fo n m (numOf (arrC 6 v)) (numOf (arrC 2 u)) x r one1 p.most)))
  rw [e2]
  exact tail_rel (hf ⟨a, d⟩ ⟨ha, hd⟩ h1 h2) n m v u
theorem law6_true (n m : Nat) (v u : Nat → Nat → Int) (x : Iv) (r : Ray) (p : Par) (hp : ParOk p) : law6 followE Bx.v insW insW n m v u x r p = tru true :=
  law6_gen followE Bx.v (fun _ => rfl) n m v u x r p hp fun s hs h1 h2 => rel_follow n m _ _ x hs h1 h2 _
theorem preT_in' {n m : Nat} {v u : Nat → Nat → Int} {X : R} (hn : n * 48 ≤ 140737488351232) : preT n m v u X = X := by
  unfold preT
  rw [allN_iff.2 fun j (_ : j < n) => isInts_arr 6 v j, allN_iff.2 fun j (_ : j < m) => isInts_arr 2 u j, decide_eq_true hn]
  rfl
theorem k6_ : FnOk Try.prog 6 Try.f6 := fk Try.func6 (by kernel_rfl) rfl
theorem k21_ : FnOk Try.prog 21 Try.f21 := fk Try.func21 (by kernel_rfl) rfl
theorem k23_ : FnOk Try.prog 23 Try.f23 := fk Try.func23 (by kernel_rfl) rfl
theorem k41_ : FnOk Try.prog 41 Try.f41 := fk Try.func41 (by kernel_rfl) rfl
theorem fns6_ok : FnsOk Try.prog fns6 := fns_cons k9 (fns_cons k19_ (fns_cons k21_ (fns_cons k23_ (fns_cons k41_ fns_nil))))
theorem orc6_ok : OrcOk Try.prog (orc6 followE Bx.v insW insW) := orc_cons E8 (orc_cons E20 (orc_cons E22 (orc_cons E17 (orc_cons E18 orc_nil))))
theorem par_sc (p : Par) (W : World) (S : Nat → Prop) : (parV p).sc W S := by
  intro z hz
  simp only [parC, List.mem_cons, List.not_mem_nil, or_false] at hz
  rcases hz with rfl | rfl | rfl | rfl | rfl | rfl | rfl | rfl | rfl | rfl | rfl | rfl | rfl
  all_goals exact AOk.int _ _
theorem incl_calls (ad ad' : Option Addr) (n m cap cap' : Nat) (v u : Nat → Nat → Int) (x : Iv) (r : Ray) (p : Par) (hp : ParOk p) (hn : n * 48 ≤ 140737488351232) (w : World) (h1 : AOk w (.as ad 6 n cap (arrC 6 v))) (h2 : AOk w (.as ad' 2 m cap' (arrC 2 u))) :
    Calls Try.prog 6 (([.u (.a (bodyA ad ad' n m cap cap' v u x)), rayV r, parV p] : List V).map (V.den fun _ => ri0)).toArray w fun e w' => e = .returned (.bool true) ∧ RowKit.Below w.heap.size w w' := by
  have hgen : ∀ (th : ThF) (fo : FoF) (bv : Bx → Bool) (w w' : PathF), law6 fo bv w w' n m v u x r p = tru true → ansA Try.prog [(10, T7g th)] (orc6 fo bv w w') fns6 9 3 Try.f6 [] [.u (.a (bodyA ad ad' n m cap cap' v u x)), rayV r, parV p] = tru true := fun th fo bv w w' hl => by
    cases n with
    | zero =>
      refine (t60 th fo bv w w' ad ad' m cap cap' v u x r p 9).trans ?_
      rw [preT_in' hn, hl]
      cases decide ((m : Int) ≤ 20) <;> rfl
    | succ c =>
      refine (t6 th fo bv w w' ad ad' c m cap cap' v u x r p 9).trans ?_
      rw [preT_in' hn, hl]
      cases decide (((c + 1 : Nat) : Int) ≤ 20)
      · rfl
      · cases decide ((m : Int) ≤ 20) <;> rfl
  have h := hgen thF followE Bx.v insW insW (law6_true n m v u x r p hp)
  refine ansA_calls mixed (orcA_cons E7A orcA_nil) orc6_ok fns6_ok k6_ (fun _ _ => loops_nil) h (fun y hy => ?_) _ (fun y hy => ?_)
  · simp only [List.mem_cons, List.not_mem_nil, or_false] at hy
    rcases hy with rfl | rfl | rfl
    · exact ⟨rfl, fun e => by cases e⟩
    · exact ⟨rfl, fun e => by cases e⟩
    · exact ⟨rfl, fun e => by cases e⟩
  · simp only [List.mem_cons, List.not_mem_nil, or_false] at hy
    rcases hy with rfl | rfl | rfl
    · intro z hz
      simp only [bodyA, List.mem_cons, List.not_mem_nil, or_false] at hz
      rcases hz with rfl | rfl | rfl | rfl
      · exact h1
      · exact h2
      · exact AOk.int _ _
      · exact AOk.int _ _
    · exact rayC_sc r w _
    · exact par_sc p w _
end Go.Proofs.Ytbgdfikfldkjbaa.AI
end
