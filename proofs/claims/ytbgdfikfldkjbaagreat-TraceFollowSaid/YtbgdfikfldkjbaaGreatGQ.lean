/- Two texts, laid into one by mkclaim.py. -/
import Derived.Test.YtbgdfikfldkjbaaGreatGM
import Derived.Test.YtbgdfikfldkjbaaGreatGK
section
/- The statement TraceFollow, read; what it answers. -/
namespace Go.Proofs.YtbgdfikfldkjbaaGreat.AI
set_option linter.unnecessarySimpa false
open Go
set_option linter.unusedVariables false
set_option linter.unusedSimpArgs false
/-- A told function, its answers said in other words. -/
theorem told_vals {P : Program} {f : FuncId} {g g' : List V → Tree} (h : Told P f g) (hv : ∀ args v' H, (g' args).val = some (v', H) → ∃ v, (g args).val = some (v, H) ∧ (∀ ρ, v'.den ρ = v.den ρ) ∧ (∀ W S, v.sc W S → v'.sc W S) ∧ v' ≠ .any) : Told P f g' :=
  ⟨fun args v H e => by obtain ⟨v0, _, _, _, hn⟩ := hv _ _ _ e; exact hn, fun args v H e W => by
    obtain ⟨v0, e0, _, hs, _⟩ := hv _ _ _ e
    have := h.sc args v0 H e0 W
    exact ⟨hs _ _ this.1, this.2⟩, h.enter, fun args v H ha e => by
    obtain ⟨v0, e0, hd, hs, hn⟩ := hv _ _ _ e
    obtain ⟨l, hr⟩ := h.run args v0 H ha e0
    exact ⟨l, runs_val hr hd hs hn⟩⟩
def pathZ : List C := [ci 0, .as none 1 0 0 (arrC 1 zz), ci 0, ci 0, ci 0, ci 0, ci 0, ci 0, ci 0, ci 0]
def errZ (e : Nat) : V := .t [.a pathZ, eC e]
def resZ (e : Er Pth) : Tree := .test (okE e) (.own (pathV (getE p0 e)) (pathH (getE p0 e))) (.leaf (errZ (erE e)))
def F22z (fo : FoF) : List A → Tree
  | [.a [.s k n v, .s k' m u, .i a, .i b], .a [.i a1, .i b1, .i a2, .i b2, .i a3, .i b3, .i c1, .i d1, .i c2, .i d2, .i c3, .i d3], .a [.i g, .i h], .o (.i i)] =>
    .test (Nat.beq k 6 && Nat.beq k' 2) (resZ (fo n m v u ⟨a, b⟩ ⟨⟨⟨a1, b1⟩, ⟨a2, b2⟩, ⟨a3, b3⟩⟩, ⟨⟨c1, d1⟩, ⟨c2, d2⟩, ⟨c3, d3⟩⟩⟩ ⟨g, h⟩ i)) .no
  | _ => .no
theorem zz1_ok (W : World) (S : Nat → Prop) : C.sc W S (.as none 1 0 0 (arrC 1 zz)) := AOk.as _ _ _ _ _ (fun i hi => absurd hi (Nat.not_lt_zero i)) (fun _ => rfl) (Nat.le_refl _) (fun i j x hi => absurd hi (Nat.not_lt_zero i)) (fun i j x a hi => absurd hi (Nat.not_lt_zero i))
/-- What is told of the arguments, one for one. -/
theorem args_rel {F F' : List A → Tree} {Q : V × Heap → V × Heap → Prop} (h : ∀ l y, (F' l).val = some y → ∃ x, (F l).val = some x ∧ Q x y) : ∀ args y, (argsT args F').val = some y → ∃ x, (argsT args F).val = some x ∧ Q x y := by
  have cell : ∀ (c : C) (G G' : D → Tree), (∀ d y, (G' d).val = some y → ∃ x, (G d).val = some x ∧ Q x y) → ∀ y, (cellT c G').val = some y → ∃ x, (cellT c G).val = some x ∧ Q x y := by
    intro c G G' hg y hy
    cases c with
    | «as» ad k n cap g =>
      simp only [cellT, Tree.val] at hy ⊢
      cases hc : allN (fun j => isInts k (g j)) n
      · rw [hc] at hy; cases hy
      · rw [hc] at hy
        exact hg _ _ hy
    | int k n =>
      cases k <;> simp only [cellT] at hy ⊢ <;> first | exact hg _ _ hy | cases hy
    | fn f p q =>
      cases p <;> cases q <;> simp only [cellT] at hy ⊢ <;> first | exact hg _ _ hy | cases hy
    | _ => cases hy
  have cells : ∀ (cs : List C) (G G' : List D → Tree), (∀ d y, (G' d).val = some y → ∃ x, (G d).val = some x ∧ Q x y) → ∀ y, (cellsT cs G').val = some y → ∃ x, (cellsT cs G).val = some x ∧ Q x y := by
    intro cs
    induction cs with
    | nil => exact fun G G' hg y hy => hg _ _ hy
    | cons c r ih => exact fun G G' hg y hy => cell c _ _ (fun d y hy => ih _ _ (fun ds y hy => hg _ _ hy) y hy) y hy
  have arg : ∀ (v : V) (G G' : A → Tree), (∀ d y, (G' d).val = some y → ∃ x, (G d).val = some x ∧ Q x y) → ∀ y, (argT v G').val = some y → ∃ x, (argT v G).val = some x ∧ Q x y := by
    intro v G G' hg y hy
    cases v with
    | u x =>
      cases x with
      | c x => exact cell x _ _ (fun d y hy => hg _ _ hy) y hy
      | a cs => exact cells cs _ _ (fun d y hy => hg _ _ hy) y hy
    | t xs => cases hy
    | any => cases hy
  intro args
  induction args generalizing F F' with
  | nil => exact fun y hy => h _ _ hy
  | cons v r ih => exact fun y hy => arg v _ _ (fun a y hy => ih (fun l y hy => h _ _ hy) y hy) y hy
theorem told_z {f : FuncId} {fo : FoF} (h : Told Tryz.prog f (fun args => argsT args (F22 fo))) : Told Tryz.prog f (fun args => argsT args (F22z fo)) := told_vals h fun args v' H hv => by
  have key := args_rel (F := F22 fo) (F' := F22z fo) (Q := fun x y => x.2 = y.2 ∧ (∀ ρ, y.1.den ρ = x.1.den ρ) ∧ (∀ W S, x.1.sc W S → y.1.sc W S) ∧ y.1 ≠ .any) (fun l y hy => by
    unfold F22z at hy
    split at hy
    · rename_i k n v k' m u a b a1 b1 a2 b2 a3 b3 c1 d1 c2 d2 c3 d3 g hh i
      simp only [Tree.val] at hy
      cases hc : (Nat.beq k 6 && Nat.beq k' 2)
      · rw [hc] at hy; cases hy
      rw [hc, cond_true] at hy
      simp only [F22, Tree.val, hc, cond_true]
      unfold resZ at hy
      unfold resP
      simp only [Tree.val] at hy ⊢
      cases he : okE (fo n m v u ⟨a, b⟩ ⟨⟨⟨a1, b1⟩, ⟨a2, b2⟩, ⟨a3, b3⟩⟩, ⟨⟨c1, d1⟩, ⟨c2, d2⟩, ⟨c3, d3⟩⟩⟩ ⟨g, hh⟩ i)
      · rw [he, cond_false] at hy
        cases hy
        refine ⟨_, rfl, rfl, fun ρ => rfl, fun W S hs => ?_, fun e => by cases e⟩
        intro w hw
        simp only [List.mem_cons, List.not_mem_nil, or_false] at hw
        rcases hw with rfl | rfl
        · intro c hc'
          simp only [pathZ, List.mem_cons, List.not_mem_nil, or_false] at hc'
          rcases hc' with rfl | rfl | rfl | rfl | rfl | rfl | rfl | rfl | rfl | rfl
          all_goals first | exact AOk.int _ _ | exact zz1_ok W S
        · exact AOk.int _ _
      · rw [he, cond_true] at hy
        cases hy
        exact ⟨_, rfl, rfl, fun ρ => rfl, fun W S hs => hs, fun e => by cases e⟩
    · cases hy)
  obtain ⟨⟨v, H0⟩, e, e1, e2, e3, e4⟩ := key args (v', H) hv
  have e1 : H0 = H := e1
  subst e1
  exact ⟨v, e, e2, e3, e4⟩
noncomputable def orcW3 (fo fg : FoF) (sm : Pth → Pth → Bool) : List (FuncId × (List V → Tree)) := [(5, T8), (8, fun args => argsT args (F22z fo)), (9, fun args => argsT args (F22z fg)), (11, fun args => argsT args (F17 sm))]
noncomputable def fnsW3 : List (FuncId × Func × List (Nat × LV)) := [(6, Tryz.f6, []), (10, Tryz.f10, []), (12, Tryz.f12, [])]
/-- A path, read from an own slice; the path of an error. -/
def Pth.rowP (p : Pth) : Pth := ⟨p.kd, p.n, numOf fun j => arrC 1 p.v (0 + j), p.o, p.g⟩
def pz : Pth := ⟨0, 0, numOf (arrC 1 zz), bx0, iv0⟩
def vwP (a : Option Pth) (X : R) : R := match a with
  | some p => bif decide (0 + p.n ≤ p.n) then X else none
  | none => X
def ckP (a : Option Pth) (X : R) : R := match a with
  | some p => bif allN (fun j => isInts 1 (arrC 1 p.v (0 + j))) p.n then X else none
  | none => bif allN (fun j => isInts 1 (arrC 1 zz j)) 0 then X else none
def nnP (a : Option Pth) : Nat := match a with
  | some p => p.n
  | none => 0
def rwP (a : Option Pth) : Pth := match a with
  | some p => p.rowP
  | none => pz
def same3 (sm : Pth → Pth → Bool) (a b : Option Pth) (e f : Int) : R := vwP a (vwP b (ckP a (ckP b (bif decide (nnP a ≤ 200) && decide (nnP b ≤ 200) then bif sm (rwP a) (rwP b) then tru (decide (e = f)) else tru false else none))))
def pthK (e : Er Pth) (k : Option Pth → Int → R) : R := bif okE e then k (some (getE p0 e)) 0 else k none (Int.ofNat (erE e + 1))
def ltC (g : Iv) (k : Int) : List C := [ci g.lo, ci g.hi, ci k]
def ltV (g : Iv) (k : Int) : V := .u (.a (ltC g k))
def lawW3 (th : ThF) (fo fg : FoF) (sm : Pth → Pth → Bool) (c m : Nat) (v u : Nat → Nat → Int) (x : Iv) (r : Ray) (lg : Iv) (lk : Int) : R :=
  preT (c + 1) m v u (bif decide (((c + 1 : Nat) : Int) ≤ 20) then bif !decide ((m : Int) ≤ 20) then tru true else
    pre22 (c + 1) m v u (pthK (fo (c + 1) m (numOf (arrC 6 v)) (numOf (arrC 2 u)) x r lg lk) fun a e => preT (c + 1) m v u (viewT th c m v u (pthK (fg (c + 1) m (rowV th v c) (depV u) x r lg lk) fun b f => same3 sm a b e f))) else tru true)
def lawW30 (fo fg : FoF) (sm : Pth → Pth → Bool) (m : Nat) (v u : Nat → Nat → Int) (x : Iv) (r : Ray) (lg : Iv) (lk : Int) : R :=
  preT 0 m v u (bif !decide ((m : Int) ≤ 20) then tru true else
    pre22 0 m v u (pthK (fo 0 m (numOf (arrC 6 v)) (numOf (arrC 2 u)) x r lg lk) fun a e => preT 0 m v u (viewZ m u (pthK (fg 0 m (numOf (arrC 6 zz)) (depV u) x r lg lk) fun b f => same3 sm a b e f))))
theorem t3 (th : ThF) (fo fg : FoF) (sm : Pth → Pth → Bool) (ad ad' : Option Addr) (c m cap cap' : Nat) (v u : Nat → Nat → Int) (x : Iv) (r : Ray) (lg : Iv) (lk : Int) (F : Nat) :
    ansA Tryz.prog [(7, T7g th)] (orcW3 fo fg sm) fnsW3 F 3 Tryz.f3 [] [.u (.a (bodyA ad ad' (c + 1) m cap cap' v u x)), rayV r, ltV lg lk] = lawW3 th fo fg sm c m v u x r lg lk := by kernel_rfl
theorem t30 (th : ThF) (fo fg : FoF) (sm : Pth → Pth → Bool) (ad ad' : Option Addr) (m cap cap' : Nat) (v u : Nat → Nat → Int) (x : Iv) (r : Ray) (lg : Iv) (lk : Int) (F : Nat) :
    ansA Tryz.prog [(7, T7g th)] (orcW3 fo fg sm) fnsW3 F 3 Tryz.f3 [] [.u (.a (bodyA ad ad' 0 m cap cap' v u x)), rayV r, ltV lg lk] = lawW30 fo fg sm m v u x r lg lk := by kernel_rfl
end Go.Proofs.YtbgdfikfldkjbaaGreat.AI
end
section
/- TraceFollow: what its text answers. -/
namespace Go.Proofs.YtbgdfikfldkjbaaGreat.AI
set_option linter.unnecessarySimpa false
open Go
set_option linter.unusedVariables false
set_option linter.unusedSimpArgs false
theorem roundP_len (c : Nat) (f : Nat → Nat → Int) (last : Bool) (h : Er (Int × Iv)) (p : Er Bx) (k : Er Int) (d : Er Bx) (l : Lv) (X : Pth) : (roundP c f last h p k d l X).n ≤ c + 1 ∨ (last = false ∧ roundP c f last h p k d l X = X) := by
  unfold roundP
  cases okE h
  · exact .inl (Nat.le_succ c)
  cases okE p
  · exact .inl (Nat.le_refl _)
  cases okE k
  · exact .inl (Nat.le_refl _)
  cases decide (getE 0 k = 3)
  · cases decide (getE 0 k = 2)
    · cases last
      · cases okE d
        · exact .inl (Nat.le_refl _)
        · exact .inr ⟨rfl, rfl⟩
      · exact .inl (Nat.le_refl _)
    · cases l.ok
      · exact .inl (Nat.le_refl _)
      · exact .inl (Nat.le_refl _)
  · exact .inl (Nat.le_refl _)
theorem go_len (o : Fo) (lv : LvF) (n m : Nat) (v u : Nat → Nat → Int) (x g : Iv) : ∀ (k : Nat) (r : Ray) (c : Nat) (f : Nat → Nat → Int), (foGo o lv n m v u x g k r c f).n ≤ c + k + 1
  | 0, r, c, f => by
    rw [go_zero]
    unfold rdP
    rcases roundP_len c f true (o.hit n m v u x r) (mvT o r (o.hit n m v u x r)) (o.kind r.dir (bxOf v (getE (0, iv0) (o.hit n m v u x r)).1.toNat) x) (o.refl r.dir (bxOf v (getE (0, iv0) (o.hit n m v u x r)).1.toNat)) (lv v x ⟨getE bx0 (mvT o r (o.hit n m v u x r)), r.dir⟩ (getE (0, iv0) (o.hit n m v u x r)).1.toNat g) (unkP 0 f) with h | ⟨h, _⟩
    · omega
    · cases h
  | k + 1, r, c, f => by
    rw [go_succ]
    have ih := go_len o lv n m v u x g k (nxR o n m v u x r) (c + 1) (putN f c (getE (0, iv0) (o.hit n m v u x r)).1)
    unfold rdP
    rcases roundP_len c f false (o.hit n m v u x r) (mvT o r (o.hit n m v u x r)) (o.kind r.dir (bxOf v (getE (0, iv0) (o.hit n m v u x r)).1.toNat) x) (o.refl r.dir (bxOf v (getE (0, iv0) (o.hit n m v u x r)).1.toNat)) (lv v x ⟨getE bx0 (mvT o r (o.hit n m v u x r)), r.dir⟩ (getE (0, iv0) (o.hit n m v u x r)).1.toNat g) (foGo o lv n m v u x g k (nxR o n m v u x r) (c + 1) (putN f c (getE (0, iv0) (o.hit n m v u x r)).1)) with h | ⟨_, h⟩
    · omega
    · rw [h]; omega
theorem leave_congr {v v' : Nat → Nat → Int} {i : Nat} (h : bxOf v i = bxOf v' i) (x : Iv) (r : Ray) (g : Iv) : leaveF foE v x r i g = leaveF foE v' x r i g := by
  unfold leaveF gainL litL refL
  rw [h]
theorem rd_congr {n m : Nat} {v v' u u' : Nat → Nat → Int} {x g : Iv} (h : SameB n m v v' u u') (last : Bool) (r : Ray) (c : Nat) (f : Nat → Nat → Int) (Y : Pth) : rdP foE (leaveF foE) n m v u x g last r c f Y = rdP foE (leaveF foE) n m v' u' x g last r c f Y := by
  unfold rdP
  have hh : foE.hit n m v u x r = foE.hit n m v' u' x r := hit_congr h
  rw [hh]
  cases hok : okE (foE.hit n m v' u' x r)
  · unfold roundP
    rw [hok]
    rfl
  · have hf := hit_face (show okE (hitE n m v' u' x r) = true from hok)
    have hb := h.bx (getE (0, iv0) (foE.hit n m v' u' x r)).1.toNat (by
      have h1 : 0 ≤ (getE (0, iv0) (foE.hit n m v' u' x r)).1 := hf.1
      have h2 : (getE (0, iv0) (foE.hit n m v' u' x r)).1 < n := hf.2
      omega)
    rw [hb, leave_congr hb]
theorem nx_congr {n m : Nat} {v v' u u' : Nat → Nat → Int} {x : Iv} (h : SameB n m v v' u u') (r : Ray) (hok : okE (hitE n m v' u' x r) = true) : nxR foE n m v u x r = nxR foE n m v' u' x r := by
  unfold nxR
  have hh : foE.hit n m v u x r = foE.hit n m v' u' x r := hit_congr h
  rw [hh]
  have hf := hit_face hok
  have hb := h.bx (getE (0, iv0) (foE.hit n m v' u' x r)).1.toNat (by
    have h1 : 0 ≤ (getE (0, iv0) (foE.hit n m v' u' x r)).1 := hf.1
    have h2 : (getE (0, iv0) (foE.hit n m v' u' x r)).1 < n := hf.2
    omega)
  rw [hb]
theorem rd_bad {o : Fo} {lv : LvF} {n m : Nat} {v u : Nat → Nat → Int} {x g : Iv} {last : Bool} {r : Ray} {c : Nat} {f : Nat → Nat → Int} {Y : Pth} (h : okE (o.hit n m v u x r) = false) : rdP o lv n m v u x g last r c f Y = unkP c f := by
  unfold rdP roundP
  rw [h]
  rfl
theorem go_congr {n m : Nat} {v v' u u' : Nat → Nat → Int} {x g : Iv} (h : SameB n m v v' u u') : ∀ (k : Nat) (r : Ray) (c : Nat) (f : Nat → Nat → Int), foGo foE (leaveF foE) n m v u x g k r c f = foGo foE (leaveF foE) n m v' u' x g k r c f
  | 0, r, c, f => by rw [go_zero, go_zero, rd_congr h]
  | k + 1, r, c, f => by
    rw [go_succ, go_succ, rd_congr h]
    have hh : foE.hit n m v u x r = foE.hit n m v' u' x r := hit_congr h
    rw [hh]
    cases hok : okE (hitE n m v' u' x r)
    · rw [rd_bad (show okE (foE.hit n m v' u' x r) = false from hok), rd_bad (show okE (foE.hit n m v' u' x r) = false from hok)]
    · rw [nx_congr h r hok, go_congr h k]
theorem follow_congr {n m : Nat} {v v' u u' : Nat → Nat → Int} {x g : Iv} {r : Ray} {k : Int} (h : SameB n m v v' u u') : followE n m v u x r g k = followE n m v' u' x r g k := by
  unfold followE goE
  rw [valid_congr h, go_congr h]
theorem allF_of {p : Nat → Bool} : ∀ (k i : Nat), (∀ j, i ≤ j → j < i + k → p j = true) → allF p i k = true
  | 0, i, _ => rfl
  | k + 1, i, h => by
    unfold allF
    rw [h i (Nat.le_refl _) (by omega), allF_of k (i + 1) fun j h1 h2 => h j (by omega) (by omega)]
    rfl
theorem eqF_of {v v' : Nat → Nat → Int} {j : Nat} (h : v j 0 = v' j 0) : eqF v v' j = true := decide_eq_true h
theorem eqI_self (x : Iv) : eqI x x = true := by unfold eqI; simp
theorem eqX_self (x : Bx) : eqX x x = true := by unfold eqX; rw [eqI_self, eqI_self, eqI_self]; rfl
theorem same_self (p : Pth) : sameW p p = true := by
  unfold sameW startB
  rw [decide_eq_true rfl, decide_eq_true rfl, decide_eq_true (Nat.le_refl _), allF_of (p := eqF p.v p.v) p.n 0 fun j _ hj => eqF_of rfl, eqX_self, eqI_self]
  rfl
theorem same3_self (a : Option Pth) (e : Int) (h : nnP a ≤ 200) : same3 sameW a a e e = tru true := by
  unfold same3
  rw [same_self, decide_eq_true h, decide_eq_true (show e = e from rfl)]
  cases a with
  | none =>
    simp only [vwP, ckP]
    rw [allN_iff.2 fun j (_ : j < 0) => isInts_arr 1 zz j]
    rfl
  | some p =>
    simp only [vwP, ckP]
    rw [decide_eq_true (show 0 + p.n ≤ p.n by omega), allN_iff.2 fun j (_ : j < p.n) => isInts_arr 1 p.v (0 + j)]
    rfl
theorem pth2 {e : Er Pth} (h : okE e = true → (getE p0 e).n ≤ 200) : (pthK e fun a x => pthK e fun b y => same3 sameW a b x y) = tru true := by
  unfold pthK
  cases he : okE e
  · exact same3_self none _ (Nat.zero_le _)
  · exact same3_self (some (getE p0 e)) _ (h he)
theorem follow_len {n m : Nat} {v u : Nat → Nat → Int} {x g : Iv} {r : Ray} {k : Int} (h : okE (followE n m v u x r g k) = true) : (getE p0 (followE n m v u x r g k)).n ≤ 200 := by
  unfold followE at *
  cases h1 : validB n m v u x
  · rw [h1] at h; cases h
  cases h2 : r.pt.v && r.dir.v
  · rw [h1, h2] at h; cases h
  cases h3 : g.v
  · rw [h1, h2, h3] at h; cases h
  cases h4 : decide (g.lo < 0)
  · cases h5 : decide (16777216 < g.hi)
    · cases h6 : decide (k < 0)
      · cases h7 : decide (20 < k)
        · simp only [decide_eq_false_iff_not] at h6 h7
          simp only [Bool.not_true, cond_false, getE]
          have := go_len foE (leaveF foE) n m v u x g k.toNat r 0 (fun _ _ => 0)
          show (goE n m v u x g k.toNat r).n ≤ 200
          unfold goE
          omega
        · rw [h1, h2, h3, h4, h5, h6, h7] at h; cases h
      · rw [h1, h2, h3, h4, h5, h6] at h; cases h
    · rw [h1, h2, h3, h4, h5] at h; cases h
  · rw [h1, h2, h3, h4] at h; cases h
theorem law3_true (c m : Nat) (v u : Nat → Nat → Int) (x : Iv) (r : Ray) (lg : Iv) (lk : Int) (hn : (c + 1) * 48 ≤ 140737488351232) : lawW3 thF followE followE sameW c m v u x r lg lk = tru true := by
  unfold lawW3
  rw [preT_in hn]
  have hb := same_row c m v u
  cases decide (((c + 1 : Nat) : Int) ≤ 20)
  · rfl
  cases decide ((m : Int) ≤ 20)
  · rfl
  simp only [cond_true, Bool.not_true, cond_false, pre22_in, preT_in hn, viewT_in]
  rw [follow_congr hb]
  exact pth2 follow_len
theorem law30_gen (fo : FoF) (m : Nat) (v u : Nat → Nat → Int) (x : Iv) (r : Ray) (lg : Iv) (lk : Int) (h : fo 0 m (numOf (arrC 6 zz)) (depV u) x r lg lk = fo 0 m (numOf (arrC 6 v)) (numOf (arrC 2 u)) x r lg lk)
    (hl : okE (fo 0 m (numOf (arrC 6 v)) (numOf (arrC 2 u)) x r lg lk) = true → (getE p0 (fo 0 m (numOf (arrC 6 v)) (numOf (arrC 2 u)) x r lg lk)).n ≤ 200) : lawW30 fo fo sameW m v u x r lg lk = tru true := by
  unfold lawW30
  have hn : 0 * 48 ≤ 140737488351232 := Nat.zero_mul 48 ▸ Nat.zero_le _
  rw [preT_in hn]
  cases decide ((m : Int) ≤ 20)
  · rfl
  simp only [Bool.not_true, cond_false, pre22_in, preT_in hn, viewZ_in]
  rw [h]
  exact pth2 hl
theorem law30_true (m : Nat) (v u : Nat → Nat → Int) (x : Iv) (r : Ray) (lg : Iv) (lk : Int) : lawW30 followE followE sameW m v u x r lg lk = tru true := law30_gen followE m v u x r lg lk (follow_congr (same_zz m v u)) follow_len
theorem gk3 : FnOk Tryz.prog 3 Tryz.f3 := fk Tryz.func3 (by kernel_rfl) rfl
theorem gk12 : FnOk Tryz.prog 12 Tryz.f12 := fk Tryz.func12 (by kernel_rfl) rfl
theorem orcW3_ok : OrcOk Tryz.prog (orcW3 followE followE sameW) := orc_cons E8 (orc_cons (told_z E22) (orc_cons (told_z H9) (orc_cons H11 orc_nil)))
theorem ltV_sc (g : Iv) (k : Int) (W : World) (S : Nat → Prop) : (ltV g k).sc W S := by
  intro z hz
  simp only [ltC, List.mem_cons, List.not_mem_nil, or_false] at hz
  rcases hz with rfl | rfl | rfl
  all_goals exact AOk.int _ _
theorem follow_calls (ad ad' : Option Addr) (n m cap cap' : Nat) (v u : Nat → Nat → Int) (x : Iv) (r : Ray) (lg : Iv) (lk : Int) (hn : n * 48 ≤ 140737488351232) (w : World) (h1 : AOk w (.as ad 6 n cap (arrC 6 v))) (h2 : AOk w (.as ad' 2 m cap' (arrC 2 u))) :
    Calls Tryz.prog 3 (([.u (.a (bodyA ad ad' n m cap cap' v u x)), rayV r, ltV lg lk] : List V).map (V.den fun _ => ri0)).toArray w fun e w' => e = .returned (.bool true) ∧ RowKit.Below w.heap.size w w' := by
  have h : ansA Tryz.prog [(7, T7g thF)] (orcW3 followE followE sameW) fnsW3 9 3 Tryz.f3 [] [.u (.a (bodyA ad ad' n m cap cap' v u x)), rayV r, ltV lg lk] = tru true := by
    cases n with
    | zero => exact (t30 thF followE followE sameW ad ad' m cap cap' v u x r lg lk 9).trans (law30_true m v u x r lg lk)
    | succ c => exact (t3 thF followE followE sameW ad ad' c m cap cap' v u x r lg lk 9).trans (law3_true c m v u x r lg lk hn)
  refine ansA_calls mixed (orcA_cons E7A orcA_nil) orcW3_ok (fns_cons gk6 (fns_cons gk10 (fns_cons gk12 fns_nil))) gk3 (fun _ _ => loops_nil) h (fun y hy => ?_) _ (fun y hy => ?_)
  · simp only [List.mem_cons, List.not_mem_nil, or_false] at hy
    rcases hy with rfl | rfl | rfl
    · exact ⟨rfl, fun e => by cases e⟩
    · exact ⟨rfl, fun e => by cases e⟩
    · exact ⟨rfl, fun e => by cases e⟩
  · simp only [List.mem_cons, List.not_mem_nil, or_false] at hy
    rcases hy with rfl | rfl | rfl
    · intro z hz
      simp only [bodyA, List.mem_cons, List.not_mem_nil, or_false] at hz
      rcases hz with rfl | rfl | rfl | rfl
      · exact h1
      · exact h2
      · exact AOk.int _ _
      · exact AOk.int _ _
    · exact rayC_sc r w _
    · exact ltV_sc lg lk w _
end Go.Proofs.YtbgdfikfldkjbaaGreat.AI
end
