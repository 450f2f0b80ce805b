/- Two texts, laid into one by mkclaim.py. -/
import Derived.Test.YtbgdfikfldkjbaaPS
section
/- TraceScale: the small functions, and a nil slice that is handed on. -/
namespace Go.Proofs.Ytbgdfikfldkjbaa.AI
set_option linter.unnecessarySimpa false
open Go
set_option linter.unusedVariables false
set_option linter.unusedSimpArgs false
/-- A nil slice of rows of two, as a slice without rows. -/
def fixC : C → C
  | .nils => .as none 2 0 0 fun _ => []
  | x => x
def fixL : List C → List C
  | [x, c, a, b] => [x, fixC c, a, b]
  | l => l
def fixV : V → V
  | .u (.a cs) => .u (.a (fixL cs))
  | v => v
def fix1 : List V → List V
  | v :: r => fixV v :: r
  | [] => []
theorem fixC_bare (c : C) : fixC (bareC c) = bareC (fixC c) := by cases c <;> rfl
theorem fixC_den (ρ : Ren) (c : C) : (fixC c).den ρ = c.den ρ := by cases c <;> rfl
theorem fixC_ids (c : C) : idsC (fixC c) = idsC c := by cases c <;> rfl
theorem fixC_sc {W : World} {S : Nat → Prop} {c : C} (h : c.sc W S) : (fixC c).sc W S := by
  cases c with
  | nils => exact AOk.as none 2 0 0 _ (fun i hi => by omega) (fun _ => rfl) (by omega) (fun i j x hi => by omega) (fun i j x a hi => by omega)
  | _ => exact h
theorem fixL_bare : ∀ cs : List C, fixL (cs.map bareC) = (fixL cs).map bareC
  | [] => rfl
  | [_] => rfl
  | [_, _] => rfl
  | [_, _, _] => rfl
  | [x, c, a, b] => by simp only [fixL, List.map_cons, List.map_nil, fixC_bare]
  | _ :: _ :: _ :: _ :: _ :: _ => rfl
theorem fixL_den (ρ : Ren) : ∀ cs : List C, (fixL cs).map (C.den ρ) = cs.map (C.den ρ)
  | [] => rfl
  | [_] => rfl
  | [_, _] => rfl
  | [_, _, _] => rfl
  | [x, c, a, b] => by simp only [fixL, List.map_cons, List.map_nil, fixC_den]
  | _ :: _ :: _ :: _ :: _ :: _ => rfl
theorem fixL_ids : ∀ cs : List C, (fixL cs).flatMap idsC = cs.flatMap idsC
  | [] => rfl
  | [_] => rfl
  | [_, _] => rfl
  | [_, _, _] => rfl
  | [x, c, a, b] => by simp only [fixL, List.flatMap_cons, List.flatMap_nil, fixC_ids]
  | _ :: _ :: _ :: _ :: _ :: _ => rfl
theorem fixL_sc {W : World} {S : Nat → Prop} : ∀ cs : List C, (∀ x ∈ cs, x.sc W S) → ∀ x ∈ fixL cs, x.sc W S
  | [], h => h
  | [_], h => h
  | [_, _], h => h
  | [_, _, _], h => h
  | [x, c, a, b], h => fun y hy => by
    simp only [fixL, List.mem_cons, List.not_mem_nil, or_false] at hy
    rcases hy with rfl | rfl | rfl | rfl
    · exact h _ (by simp)
    · exact fixC_sc (h _ (by simp))
    · exact h _ (by simp)
    · exact h _ (by simp)
  | _ :: _ :: _ :: _ :: _ :: _, h => h
theorem fixV_bare (v : V) : fixV (bareV v) = bareV (fixV v) := by
  rcases v with (x | cs) | xs | _
  · rfl
  · exact congrArg (fun l => V.u (.a l)) (fixL_bare cs)
  · rfl
  · rfl
theorem fixV_den (ρ : Ren) (v : V) : (fixV v).den ρ = v.den ρ := by
  rcases v with (x | cs) | xs | _
  · rfl
  · exact congrArg (fun l : List Value => Value.agg l.toArray) (fixL_den ρ cs)
  · rfl
  · rfl
theorem fixV_ids (v : V) : idsV (fixV v) = idsV v := by
  rcases v with (x | cs) | xs | _
  · rfl
  · exact fixL_ids cs
  · rfl
  · rfl
theorem fixV_some {v : V} (h : v ≠ .any) : fixV v ≠ .any := by
  rcases v with (x | cs) | xs | _
  · exact h
  · exact fun e => by cases e
  · exact h
  · exact h
theorem fixV_sc {W : World} {S : Nat → Prop} (v : V) (h : v.sc W S) : (fixV v).sc W S := by
  rcases v with (x | cs) | xs | _
  · exact h
  · exact fixL_sc cs h
  · exact h
  · exact h
theorem told_fix {P : Program} {f : FuncId} {g : List V → Tree} (h : Told P f g) : Told P f (fun args => g (fix1 args)) := by
  refine ⟨fun args v H e => h.isv _ v H e, fun args v H e => h.sc _ v H e, h.enter, fun args v H ha hg => ?_⟩
  cases args with
  | nil => exact h.run [] v H ha hg
  | cons a r =>
    obtain ⟨l, hr⟩ := h.run (fixV a :: r) v H (fun x hx => by
      rcases List.mem_cons.1 hx with rfl | hx
      · rw [fixV_ids]; exact ⟨(ha a (List.mem_cons_self ..)).1, fixV_some (ha a (List.mem_cons_self ..)).2⟩
      · exact ha x (List.mem_cons_of_mem _ hx)) (by rw [← hg]; simp only [List.map_cons, fix1, fixV_bare])
    refine ⟨l, runs_like hr (fun ρ => by simp only [List.map_cons, fixV_den]) fun W S hs x hx => ?_⟩
    rcases List.mem_cons.1 hx with rfl | hx
    · exact fixV_sc a (hs a (List.mem_cons_self ..))
    · exact hs x (List.mem_cons_of_mem _ hx)
/-! narrow, twice. -/
def narB (x : Iv) : Bool := decide (x.lo = x.hi) && (decide (x.lo ≤ 134217728) && decide (-134217728 ≤ x.lo))
def twI (x : Iv) : Iv := ⟨W (2 * x.lo), W (2 * x.hi)⟩
def F15 (nb : Iv → Bool) : List Int → Tree
  | [a, b] => truT (nb ⟨a, b⟩)
  | _ => .no
def F16 (tw : Iv → Iv) : List Int → Tree
  | [a, b] => .leaf (.u (ivU (tw ⟨a, b⟩)))
  | _ => .no
theorem k15 : FnOk Try.prog 15 Try.f15 := fk Try.func15 (by kernel_rfl) rfl
theorem k16 : FnOk Try.prog 16 Try.f16 := fk Try.func16 (by kernel_rfl) rfl
theorem a15 (a b : Int) : ans Try.prog [] [(15, Try.f15, [])] 9 3 15 [iv a b] = bif decide (a = b) then bif decide (a ≤ 134217728) then tru (decide (-134217728 ≤ a)) else tru false else tru false := by kernel_rfl
theorem a16 (a b : Int) : ans Try.prog [] [(16, Try.f16, [])] 9 3 16 [iv a b] = some (.u (ivU ⟨W (2 * a), W (2 * b)⟩), []) := by kernel_rfl
theorem E15 : Told Try.prog 15 (shT [some 2] (F15 narB)) := told_sh (fuel := 9) (d := 3) (fns := [(15, Try.f15, [])]) mixed orc_nil (fns_cons k15 fns_nil) k15.enter (fun l => by unfold F15; split <;> rfl) fun l x h => by
  unfold F15 at h
  split at h
  · rename_i a b
    cases h
    refine (a15 a b).trans ?_
    unfold narB
    cases decide (a = b) <;> cases decide (a ≤ 134217728) <;> rfl
  · cases h
theorem E16 : Told Try.prog 16 (shT [some 2] (F16 twI)) := told_sh (fuel := 9) (d := 3) (fns := [(16, Try.f16, [])]) mixed orc_nil (fns_cons k16 fns_nil) k16.enter (fun l => by unfold F16; split <;> rfl) fun l x h => by
  unfold F16 at h
  split at h
  · rename_i a b
    cases h
    exact a16 a b
  · cases h
end Go.Proofs.Ytbgdfikfldkjbaa.AI
end
section
/- slices.Equal and the reference's starts, told. -/
namespace Go.Proofs.Ytbgdfikfldkjbaa.AI
set_option linter.unnecessarySimpa false
open Go
set_option linter.unusedVariables false
set_option linter.unusedSimpArgs false
/-! What comes behind a loop in a block. -/
noncomputable def kblk {α : Type} (k : KT α) : KT α := fun ex T H L => match ex with
  | .exit i => cond (i == 0) (k .normal T H L) (k (.exit i) T H L)
  | e => k e T H L
noncomputable def kseq {α : Type} (call : CallT α) (F : Nat) (lvs : List (Nat × LV)) (c : Code) (k : KT α) : KT α := fun ex T H L => match ex with
  | .normal => codeA Try.prog call F lvs c T H L k
  | e => k e T H L
noncomputable def kfinA (fn : Func) : KT (V × Heap) := fun ex T H L => match ex with
  | .exit _ => none
  | _ => resA Try.prog T H fn.results.toList fun xs => tidyA (resV xs) H fun v H => some (v, H)
def sl1 (ad : Option Addr) (n cap : Nat) (v : Nat → Nat → Int) : V := .u (.c (.as ad 1 n cap (arrC 1 v)))
def eqF (v v' : Nat → Nat → Int) (j : Nat) : Bool := decide (v j 0 = v' j 0)
/-! slices.Equal. -/
noncomputable def all35 : Code := Try.f35.body.getD .skip
noncomputable def tail35 : Code := sndC (sndC (sndC all35))
noncomputable def body35 : Code := loopOf Try.f35 0
def lv35 : List (Nat × LV) := [(4, ⟨[0, 1, 12, 13], [4], [], none⟩)]
noncomputable abbrev env35 (F : Nat) : CallT (V × Heap) := env Try.prog [] [(35, Try.f35, lv35)] F 2
noncomputable abbrev loop35 (F fuel : Nat) (T : List V) (K : KT (V × Heap)) : R := loopA 0 [0, 1, 12, 13] [4] (codeA Try.prog (env35 F) F lv35 body35) fuel T [] [] K
def T35 (a b : V) (n i : Int) : List V := TT 26 [(0, a), (1, b), (12, .u (ui n)), (13, .u (ui i))]
noncomputable def K35 (F : Nat) : KT (V × Heap) := kblk (kseq (env35 F) F lv35 tail35 (kfinA Try.f35))
theorem entry35 (ad ad' : Option Addr) (n m cap cap' : Nat) (v v' : Nat → Nat → Int) (F : Nat) : ans Try.prog [] [(35, Try.f35, lv35)] F 3 35 [sl1 ad n cap v, sl1 ad' m cap' v'] =
    bif !decide ((n : Int) = m) then tru false else loop35 F F (T35 (sl1 ad n cap v) (sl1 ad' m cap' v') n 0) (K35 F) := by kernel_rfl
theorem step35 (ad ad' : Option Addr) (n m cap cap' : Nat) (v v' : Nat → Nat → Int) (i : Int) (F fuel : Nat) : loop35 F (fuel + 1) (T35 (sl1 ad n cap v) (sl1 ad' m cap' v') n i) (K35 F) =
    bif decide (i < n) then bif decide (0 ≤ i) && decide (i < n) then bif decide (0 ≤ i) && decide (i < m) then bif !decide (v i.toNat 0 = v' i.toNat 0) then tru false else loop35 F fuel (T35 (sl1 ad n cap v) (sl1 ad' m cap' v') n (W (i + 1))) (K35 F) else none else none else tru true := by kernel_rfl
theorem run35 (ad ad' : Option Addr) (n cap cap' : Nat) (v v' : Nat → Nat → Int) (hn : n < 4611686018427387904) (F : Nat) : ∀ (k i fuel : Nat), i + k = n → k < fuel → loop35 F fuel (T35 (sl1 ad n cap v) (sl1 ad' n cap' v') n i) (K35 F) = tru (allF (eqF v v') i k)
  | 0, i, fuel + 1, h, _ => by
    rw [step35, decide_eq_false (show ¬ (i : Int) < n by omega)]; rfl
  | k + 1, i, fuel + 1, h, hf => by
    rw [step35, decide_eq_true (show (i : Int) < n by omega), decide_eq_true (show (0 : Int) ≤ i by omega)]
    simp only [Bool.and_self, cond_true, Int.toNat_natCast]
    unfold allF
    cases hp : decide (v i 0 = v' i 0)
    · rw [show eqF v v' i = false from hp]; rfl
    · rw [show eqF v v' i = true from hp]
      rw [show W ((i : Int) + 1) = ((i + 1 : Nat) : Int) by unfold W; rw [wr (by omega) (by omega)]; omega]
      simp only [Bool.not_true, cond_false, Bool.true_and]
      exact run35 ad ad' n cap cap' v v' hn F k (i + 1) fuel (by omega) (by omega)
def eqB (n m : Nat) (v v' : Nat → Nat → Int) : Bool := decide (n = m) && allF (eqF v v') 0 n
theorem a35 (ad ad' : Option Addr) (n m cap cap' : Nat) (v v' : Nat → Nat → Int) (hn : n ≤ 200) : ans Try.prog [] [(35, Try.f35, lv35)] 300 3 35 [sl1 ad n cap v, sl1 ad' m cap' v'] = tru (eqB n m v v') := by
  rw [entry35]
  unfold eqB
  by_cases e : n = m
  · subst e
    rw [decide_eq_true (show ((n : Nat) : Int) = n from rfl), decide_eq_true (show n = n from rfl)]
    exact run35 ad ad' n cap cap' v v' (by omega) 300 n 0 300 (by omega) (by omega)
  · rw [decide_eq_false (show ¬ ((n : Nat) : Int) = m by omega), decide_eq_false e]; rfl
theorem k35 : FnOk Try.prog 35 Try.f35 := fk Try.func35 (by kernel_rfl) rfl
def F35 (eq : Nat → Nat → (Nat → Nat → Int) → (Nat → Nat → Int) → Bool) : List A → Tree
  | [.o (.s k n v), .o (.s k' m v')] => .test ((Nat.beq k 1 && Nat.beq k' 1) && decide (n ≤ 200)) (truT (eq n m v v')) .no
  | _ => .no
theorem F35_val {eq : Nat → Nat → (Nat → Nat → Int) → (Nat → Nat → Int) → Bool} {l : List A} {x : V × Heap} (h : (F35 eq l).val = some x) : ∃ n m v v', l = [.o (.s 1 n v), .o (.s 1 m v')] ∧ n ≤ 200 ∧ x = (.u (.c (.bool (eq n m v v'))), []) := by
  unfold F35 at h
  split at h
  · rename_i k n v k' m v'
    simp only [Tree.val] at h
    cases hc : ((Nat.beq k 1 && Nat.beq k' 1) && decide (n ≤ 200))
    · rw [hc] at h; cases h
    rw [hc, cond_true] at h
    simp only [Bool.and_eq_true, decide_eq_true_eq] at hc
    have hk := Nat.eq_of_beq_eq_true hc.1.1
    have hf := Nat.eq_of_beq_eq_true hc.1.2
    subst hk
    subst hf
    cases h
    exact ⟨n, m, v, v', rfl, hc.2, rfl⟩
  · cases h
theorem real1 {n : Nat} {v : Nat → Nat → Int} {y : V} (h : RealA (.o (.s 1 n v)) y) : ∃ ad cap, y = sl1 ad n cap v := by
  cases h with
  | o h => cases h with
    | s _ _ _ ad cap => exact ⟨ad, cap, rfl⟩
theorem real2 {a b : A} {args : List V} (h : RealAs [a, b] args) : ∃ x y, args = [x, y] ∧ RealA a x ∧ RealA b y := by
  cases h with
  | cons h1 t => cases t with
    | cons h2 t => cases t; exact ⟨_, _, rfl, h1, h2⟩
theorem toldEq {f : FuncId} {fn : Func} {lv : List (Nat × LV)} {eq : Nat → Nat → (Nat → Nat → Int) → (Nat → Nat → Int) → Bool} (hk : FnOk Try.prog f fn) (hl : ∀ p ∈ lv, p.2.told = none)
    (ha : ∀ ad ad' n m cap cap' v v', n ≤ 200 → ans Try.prog [] [(f, fn, lv)] 300 3 f [sl1 ad n cap v, sl1 ad' m cap' v'] = tru (eq n m v v')) : Told Try.prog f (fun args => argsT args (F35 eq)) := by
  refine told_args (fuel := 300) (d := 3) (orc := []) (fns := [(f, fn, lv)]) mixed orc_nil (fns_loops hk (fun c _ => untold hl) fns_nil) hk.enter (args_flat fun l x h => ?_) fun l x h args ha' => ?_
  · obtain ⟨n, m, v, v', _, _, rfl⟩ := F35_val h; exact ⟨_, rfl, rfl⟩
  · obtain ⟨n, m, v, v', rfl, hn, rfl⟩ := F35_val h
    obtain ⟨y1, y2, rfl, r1, r2⟩ := real2 ha'
    obtain ⟨ad, cap, rfl⟩ := real1 r1
    obtain ⟨ad', cap', rfl⟩ := real1 r2
    exact ha ad ad' n m cap cap' v v' hn
theorem E35 : Told Try.prog 35 (fun args => argsT args (F35 eqB)) := toldEq k35 (fun p hp => by rw [lv35, List.mem_singleton] at hp; rw [hp]) a35
/-! starts: the second is how the first begins. -/
noncomputable def all38 : Code := Try.f38.body.getD .skip
noncomputable def tail38 : Code := sndC (sndC (sndC all38))
noncomputable def body38 : Code := loopOf Try.f38 0
def lv38 : List (Nat × LV) := [(4, ⟨[0, 1, 4, 5], [4], [], none⟩)]
noncomputable abbrev env38 (F : Nat) : CallT (V × Heap) := env Try.prog [] [(38, Try.f38, lv38)] F 2
noncomputable abbrev loop38 (F fuel : Nat) (T : List V) (K : KT (V × Heap)) : R := loopA 0 [0, 1, 4, 5] [4] (codeA Try.prog (env38 F) F lv38 body38) fuel T [] [] K
def T38 (a b : V) (i : Int) : List V := TT 26 [(0, a), (1, b), (4, .u (.c (.bool false))), (5, .u (ui i))]
noncomputable def K38 (F : Nat) : KT (V × Heap) := kblk (kseq (env38 F) F lv38 tail38 (kfinA Try.f38))
theorem entry38 (ad ad' : Option Addr) (n m cap cap' : Nat) (v v' : Nat → Nat → Int) (F : Nat) : ans Try.prog [] [(38, Try.f38, lv38)] F 3 38 [sl1 ad n cap v, sl1 ad' m cap' v'] =
    bif decide ((n : Int) < m) then tru false else loop38 F F (T38 (sl1 ad n cap v) (sl1 ad' m cap' v') 0) (K38 F) := by kernel_rfl
theorem step38 (ad ad' : Option Addr) (n m cap cap' : Nat) (v v' : Nat → Nat → Int) (i : Int) (F fuel : Nat) : loop38 F (fuel + 1) (T38 (sl1 ad n cap v) (sl1 ad' m cap' v') i) (K38 F) =
    bif decide (i < m) then bif decide (0 ≤ i) && decide (i < n) then bif decide (0 ≤ i) && decide (i < m) then bif !decide (v i.toNat 0 = v' i.toNat 0) then tru false else loop38 F fuel (T38 (sl1 ad n cap v) (sl1 ad' m cap' v') (W (i + 1))) (K38 F) else none else none else tru true := by kernel_rfl
theorem run38 (ad ad' : Option Addr) (n m cap cap' : Nat) (v v' : Nat → Nat → Int) (hn : n < 4611686018427387904) (hm : m ≤ n) (F : Nat) : ∀ (k i fuel : Nat), i + k = m → k < fuel → loop38 F fuel (T38 (sl1 ad n cap v) (sl1 ad' m cap' v') i) (K38 F) = tru (allF (eqF v v') i k)
  | 0, i, fuel + 1, h, _ => by
    rw [step38, decide_eq_false (show ¬ (i : Int) < m by omega)]; rfl
  | k + 1, i, fuel + 1, h, hf => by
    rw [step38, decide_eq_true (show (i : Int) < m by omega), decide_eq_true (show (i : Int) < n by omega), decide_eq_true (show (0 : Int) ≤ i by omega)]
    simp only [Bool.and_self, cond_true, Int.toNat_natCast]
    unfold allF
    cases hp : decide (v i 0 = v' i 0)
    · rw [show eqF v v' i = false from hp]; rfl
    · rw [show eqF v v' i = true from hp]
      rw [show W ((i : Int) + 1) = ((i + 1 : Nat) : Int) by unfold W; rw [wr (by omega) (by omega)]; omega]
      simp only [Bool.not_true, cond_false, Bool.true_and]
      exact run38 ad ad' n m cap cap' v v' hn hm F k (i + 1) fuel (by omega) (by omega)
def startB (n m : Nat) (v v' : Nat → Nat → Int) : Bool := decide (m ≤ n) && allF (eqF v v') 0 m
theorem a38 (ad ad' : Option Addr) (n m cap cap' : Nat) (v v' : Nat → Nat → Int) (hn : n ≤ 200) : ans Try.prog [] [(38, Try.f38, lv38)] 300 3 38 [sl1 ad n cap v, sl1 ad' m cap' v'] = tru (startB n m v v') := by
  rw [entry38]
  unfold startB
  by_cases e : m ≤ n
  · have h := run38 ad ad' n m cap cap' v v' (by omega) e 300 m 0 300 (by omega) (by omega)
    rw [decide_eq_false (show ¬ ((n : Nat) : Int) < m by omega), decide_eq_true e, cond_false, Bool.true_and]
    exact h
  · rw [decide_eq_true (show ((n : Nat) : Int) < m by omega), decide_eq_false e]; rfl
theorem k38 : FnOk Try.prog 38 Try.f38 := fk Try.func38 (by kernel_rfl) rfl
theorem E38 : Told Try.prog 38 (fun args => argsT args (F35 startB)) := toldEq k38 (fun p hp => by rw [lv38, List.mem_singleton] at hp; rw [hp]) a38
end Go.Proofs.Ytbgdfikfldkjbaa.AI
end
