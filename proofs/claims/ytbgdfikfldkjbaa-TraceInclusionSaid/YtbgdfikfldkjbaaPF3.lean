/- Two texts, laid into one by mkclaim.py. -/
import Derived.Test.YtbgdfikfldkjbaaPF1
section
/- trace.Follow, told: the path of the model. -/
namespace Go.Proofs.Ytbgdfikfldkjbaa.AI
set_option linter.unnecessarySimpa false
open Go
set_option linter.unusedVariables false
set_option linter.unusedSimpArgs false
theorem leave_arr (o : Fo) (v : Nat → Nat → Int) (x : Iv) (r : Ray) (i : Nat) (g : Iv) : leaveF o (numOf (arrC 6 v)) x r i g = leaveF o v x r i g := by
  unfold leaveF gainL litL refL
  rw [bx_arr']
theorem bind_get {α β : Type} {e : Er α} {k : α → Er β} (d : β) (h : okE (bindE e k) = true) : ∃ x, e = .ok x ∧ okE (k x) = true ∧ getE d (bindE e k) = getE d (k x) := by
  cases e with
  | ok x => exact ⟨x, rfl, h, rfl⟩
  | error n => cases h
theorem rad_v {c r : Iv} (h : okE (radE c r) = true) : (getE iv0 (radE c r)).v = true := by
  unfold radE at *
  cases hv : c.v && r.v
  · rw [hv] at h; cases h
  rw [hv, cond_true] at h
  rw [cond_true]
  obtain ⟨a, _, h, e⟩ := bind_get iv0 h
  rw [e]
  obtain ⟨b, _, h, e⟩ := bind_get iv0 h
  rw [e]
  obtain ⟨c, _, h, e⟩ := bind_get iv0 h
  rw [e]
  obtain ⟨d, _, h, e⟩ := bind_get iv0 h
  rw [e]
  exact sub_v h
theorem hits_kind {d n : Bx} {x : Iv} (h : okE (hitsE d n x) = true) : getE 0 (hitsE d n x) = 1 ∨ getE 0 (hitsE d n x) = 2 ∨ getE 0 (hitsE d n x) = 3 := by
  unfold hitsE at *
  cases hv : (d.v && n.v) && x.v
  · rw [hv] at h; cases h
  rw [hv, cond_true] at h
  rw [cond_true]
  obtain ⟨a, _, h, e⟩ := bind_get 0 h
  rw [e]
  obtain ⟨b, hb, h, e⟩ := bind_get 0 h
  rw [e]
  have hbv : b.v = true := by
    have h' : okE (radE a x) = true := by rw [hb]; rfl
    have := rad_v h'
    rw [hb] at this
    exact this
  show Iv.kind b = 1 ∨ Iv.kind b = 2 ∨ Iv.kind b = 3
  unfold Iv.kind decI
  rw [hbv]
  cases decide (b.sgn = -1)
  · cases decide (b.sgn = 1)
    · exact .inr (.inr rfl)
    · exact .inr (.inl rfl)
  · exact .inl rfl
theorem hit_face {n m : Nat} {v u : Nat → Nat → Int} {x : Iv} {r : Ray} (h : okE (hitE n m v u x r) = true) : 0 ≤ (getE (0, iv0) (hitE n m v u x r)).1 ∧ (getE (0, iv0) (hitE n m v u x r)).1 < n := by
  obtain ⟨_, _, _, i, t, hi, _, e⟩ := hit_ok3 h
  rw [e]
  have ht : t.face = (i : Int) := by rw [hi.eq]; unfold tgN; cases decide (0 < (getE iv0 (cosE v r i)).lo) <;> rfl
  have := hi.lt
  show 0 ≤ t.face ∧ t.face < n
  omega
theorem foE_ok (n m : Nat) (v u : Nat → Nat → Int) (x : Iv) : FoOk foE (leaveF foE) n m v u x :=
  ⟨fun r => hitE_arr n m v u x r, fun r h => hit_face h, fun d b h => hits_kind h, fun r i g => leave_arr foE v x r i g⟩
/-- The path of a ray. -/
noncomputable def goE (n m : Nat) (v u : Nat → Nat → Int) (x g : Iv) (k : Nat) (r : Ray) : Pth := foGo foE (leaveF foE) n m v u x g k r 0 (fun _ _ => 0)
noncomputable def followE (n m : Nat) (v u : Nat → Nat → Int) (x : Iv) (r : Ray) (g : Iv) (most : Int) : Er Pth :=
  bif !validB n m v u x then .error 0 else bif !(r.pt.v && r.dir.v) then .error 0 else bif !g.v then .error 0 else bif decide (g.lo < 0) then .error 0 else bif decide (16777216 < g.hi) then .error 0 else
  bif decide (most < 0) then .error 1 else bif decide (20 < most) then .error 1 else .ok (goE n m v u x g most.toNat r)
def pathV (p : Pth) : V := .t [.a ([ci p.kd, .row 0 1 0 p.n true] ++ bxC p.o ++ [ci p.g.lo, ci p.g.hi]), ui 0]
def pathH (p : Pth) : Heap := [some (.row 3 1 p.n (arrC 1 p.v) true)]
def errP (e : Nat) : V := .t [.a path0, eC e]
def p0 : Pth := ⟨0, 0, fun _ _ => 0, bx0, iv0⟩
def resP (e : Er Pth) : Tree := .test (okE e) (.own (pathV (getE p0 e)) (pathH (getE p0 e))) (.leaf (errP (erE e)))
abbrev FoF := Nat → Nat → (Nat → Nat → Int) → (Nat → Nat → Int) → Iv → Ray → Iv → Int → Er Pth
def F22 (fo : FoF) : List A → Tree
  | [.a [.s k n v, .s k' m u, .i a, .i b], .a [.i a1, .i b1, .i a2, .i b2, .i a3, .i b3, .i c1, .i d1, .i c2, .i d2, .i c3, .i d3], .a [.i g, .i h], .o (.i i)] =>
    .test (Nat.beq k 6 && Nat.beq k' 2) (resP (fo n m v u ⟨a, b⟩ ⟨⟨⟨a1, b1⟩, ⟨a2, b2⟩, ⟨a3, b3⟩⟩, ⟨⟨c1, d1⟩, ⟨c2, d2⟩, ⟨c3, d3⟩⟩⟩ ⟨g, h⟩ i)) .no
  | _ => .no
theorem F22_val {fo : FoF} {l : List A} {x : V × Heap} (h : (F22 fo l).val = some x) : ∃ n m v u y r g i, l = [.a (bodyD n m v u y), .a (rayD r), .a (ivD g), .o (.i i)] ∧ (resP (fo n m v u y r g i)).val = some x := by
  unfold F22 at h
  split at h
  · rename_i k n v k' m u a b a1 b1 a2 b2 a3 b3 c1 d1 c2 d2 c3 d3 g hh i
    simp only [Tree.val] at h
    cases hc : (Nat.beq k 6 && Nat.beq k' 2)
    · rw [hc] at h; cases h
    rw [hc, cond_true] at h
    simp only [Bool.and_eq_true] at hc
    have hk := Nat.eq_of_beq_eq_true hc.1
    have hf := Nat.eq_of_beq_eq_true hc.2
    subst hk
    subst hf
    exact ⟨n, m, v, u, ⟨a, b⟩, ⟨⟨⟨a1, b1⟩, ⟨a2, b2⟩, ⟨a3, b3⟩⟩, ⟨⟨c1, d1⟩, ⟨c2, d2⟩, ⟨c3, d3⟩⟩⟩, ⟨g, hh⟩, i, rfl, h⟩
  · cases h
theorem err_sc (e : Nat) (W : World) (S : Nat → Prop) : (errP e).sc W S := by
  intro u hu
  simp only [List.mem_cons, List.not_mem_nil, or_false] at hu
  rcases hu with rfl | rfl
  · intro c hc
    simp only [path0, List.mem_cons, List.not_mem_nil, or_false] at hc
    rcases hc with rfl | rfl | rfl | rfl | rfl | rfl | rfl | rfl | rfl | rfl
    all_goals first | exact AOk.int _ _ | exact AOk.nils
  · exact AOk.int _ _
theorem path_sc (p : Pth) (W : World) (S : Nat → Prop) (h0 : S 0) : (pathV p).sc W S := by
  intro u hu
  simp only [List.mem_cons, List.not_mem_nil, or_false] at hu
  rcases hu with rfl | rfl
  · intro c hc
    simp only [bxC, List.mem_cons, List.mem_append, List.not_mem_nil, or_false, false_or] at hc
    rcases hc with ((rfl | rfl) | (rfl | rfl | rfl | rfl | rfl | rfl)) | (rfl | rfl)
    all_goals first | exact AOk.int _ _ | exact h0
  · exact AOk.int _ _
theorem pathH_sc (p : Pth) (W : World) (S : Nat → Prop) : ScH W S (pathH p) := by
  intro b B hb
  have hall : ∀ (T : Nat → Prop) i, ∀ x ∈ arrC 1 p.v i, x.sc W T := fun T i x hx => by
    simp only [arrC, List.mem_map] at hx
    obtain ⟨_, _, rfl⟩ := hx
    exact AOk.int _ _
  cases b with
  | zero =>
    cases hb
    exact ⟨fun i _ => ⟨rfl, hall S i⟩, fun _ i _ => hall _ i⟩
  | succ b =>
    unfold blk pathH at hb
    rw [nth_eq] at hb
    simp at hb
theorem resP_sc {e : Er Pth} {x : V × Heap} (h : (resP e).val = some x) : x.1 ≠ .any ∧ ∀ W, x.1.sc W (fun b => b < x.2.length) ∧ ScH W (fun b => b < x.2.length) x.2 := by
  unfold resP at h
  simp only [Tree.val] at h
  cases he : okE e
  · rw [he] at h
    cases h
    exact ⟨fun e => (by cases e), fun W => ⟨err_sc _ _ _, fun b B hB => by rw [blk_nil] at hB; cases hB⟩⟩
  · rw [he] at h
    cases h
    exact ⟨fun e => (by cases e), fun W => ⟨path_sc _ _ _ (by show 0 < 1; omega), pathH_sc _ _ _⟩⟩
theorem k22' : FnOk Try.prog 22 Try.f22 := fk Try.func22 (by kernel_rfl) rfl
theorem ok22 : ∀ c, Try.f22.body = some c → LoopsOk Try.prog c lv22 := fun c _ => untold fun p hp => by rw [lv22, List.mem_singleton] at hp; rw [hp]
theorem orc22_ok : OrcOk Try.prog (orc22 foE (leaveF foE)) := orc_cons E11 (orc_cons E26 (orc_cons E27 (orc_cons E29 (orc_cons E42 (orc_cons E43 (orc_cons E44 (orc_cons E45 orc_nil)))))))
theorem follow_ans (ad ad' : Option Addr) (n m cap cap' : Nat) (v u : Nat → Nat → Int) (x g : Iv) (r : Ray) (most : Int) : ans Try.prog (orc22 foE (leaveF foE)) fns22 1000 3 22 [.u (.a (bodyA ad ad' n m cap cap' v u x)), rayV r, ivV g, .u (ui most)] = (resP (followE n m v u x r g most)).val := by
  refine (entry22 foE (leaveF foE) ad ad' n m cap cap' v u x g r most 1000).trans ?_
  rw [pre22_in]
  unfold followE
  rw [show foE.val n m (numOf (arrC 6 v)) (numOf (arrC 2 u)) x = validB n m v u x from valid_arr n m v u x, show foE.ray r = (r.pt.v && r.dir.v) from rfl, show foE.iv g = g.v from rfl]
  cases validB n m v u x
  · rfl
  cases r.pt.v && r.dir.v
  · rfl
  cases g.v
  · rfl
  cases decide (g.lo < 0)
  · cases decide (16777216 < g.hi)
    · cases h1 : decide (most < 0)
      · cases h2 : decide (20 < most)
        · simp only [decide_eq_false_iff_not] at h1 h2
          simp only [Bool.not_true, cond_false]
          rw [run22a foE (leaveF foE) ad ad' n m cap cap' v u x g (foE_ok n m v u x) most 1000 (by omega) (by omega) (Nat.le_refl _) r _ _]
          rfl
        · rfl
      · rfl
    · rfl
  · rfl
theorem E22 : Told Try.prog 22 (fun args => argsT args (F22 followE)) := by
  refine told_args (fuel := 1000) (d := 3) (orc := orc22 foE (leaveF foE)) (fns := fns22) mixed orc22_ok (fns_loops k22' ok22 fns_nil) k22'.enter (args_all (Pd := fun x => x.1 ≠ .any ∧ ∀ W, x.1.sc W (fun b => b < x.2.length) ∧ ScH W (fun b => b < x.2.length) x.2) fun l x h => ?_) fun l x h args ha => ?_
  · obtain ⟨n, m, v, u, y, r, g, i, _, h⟩ := F22_val h
    exact resP_sc h
  · obtain ⟨n, m, v, u, y, r, g, i, rfl, h⟩ := F22_val h
    obtain ⟨y1, y2, y3, y4, rfl, r1, r2, r3, r4⟩ := realF4 ha
    obtain ⟨ad, ad', cap, cap', e1⟩ := realF_body r1
    rw [e1, realF_ray r2, realF_iv r3, realA_i r4, follow_ans]
    exact h
end Go.Proofs.Ytbgdfikfldkjbaa.AI
end
section
/- The reference's Same, told. -/
namespace Go.Proofs.Ytbgdfikfldkjbaa.AI
set_option linter.unnecessarySimpa false
open Go
set_option linter.unusedVariables false
set_option linter.unusedSimpArgs false
def eqI (x y : Iv) : Bool := decide (x.lo = y.lo) && (decide (x.hi = y.hi) && true)
def eqX (a b : Bx) : Bool := eqI a.x b.x && (eqI a.y b.y && (eqI a.z b.z && true))
theorem a24 (eq : EqF) (ib : Bx → Bx → Bool) (ic : Iv → Iv → Bool) (p q : Pth) (ad ad' : Option Addr) (cap cap' : Nat) : ans Try.prog (orc18 eq ib ic) [(24, Try.f24, [])] 9 3 24 [.u (.a (pathC p ad cap)), .u (.a (pathC q ad' cap'))] =
    bif decide (p.kd = q.kd) then bif decide ((p.n : Int) = q.n) then bif allN (fun j => isInts 1 (arrC 1 p.v j)) p.n then bif allN (fun j => isInts 1 (arrC 1 q.v j)) q.n then bif decide (p.n ≤ 200) then
      bif eq p.n q.n (numOf (arrC 1 p.v)) (numOf (arrC 1 q.v)) then bif eqX p.o q.o then tru (eqI p.g q.g) else tru false else tru false else none else none else none else tru false else tru false := by kernel_rfl
/-- Two paths alike. -/
def sameW (p q : Pth) : Bool := decide (p.kd = q.kd) && (decide (p.n = q.n) && (startB p.n q.n p.v q.v && (eqX p.o q.o && eqI p.g q.g)))
theorem k24 : FnOk Try.prog 24 Try.f24 := fk Try.func24 (by kernel_rfl) rfl
theorem E24 : Told Try.prog 24 (fun args => argsT args (F17 sameW)) := toldPath k24 (orc := orc18 startB Bx.ins Iv.ins) (orc_cons E38 (orc_cons E39 (orc_cons E40 orc_nil))) fun p q ad ad' cap cap' h1 h2 => by
  have i1 := allN_iff.2 fun j (_ : j < p.n) => isInts_arr 1 p.v j
  have i2 := allN_iff.2 fun j (_ : j < q.n) => isInts_arr 1 q.v j
  rw [a24, i1, i2, startB_arr, decide_eq_true h1]
  unfold sameW
  cases decide (p.kd = q.kd)
  · rfl
  by_cases e : p.n = q.n
  · rw [decide_eq_true (show (p.n : Int) = q.n by omega), decide_eq_true e]
    simp only [cond_true, Bool.true_and]
    exact and3 _ _ _
  · rw [decide_eq_false (show ¬ (p.n : Int) = q.n by omega), decide_eq_false e]; rfl
end Go.Proofs.Ytbgdfikfldkjbaa.AI
end
