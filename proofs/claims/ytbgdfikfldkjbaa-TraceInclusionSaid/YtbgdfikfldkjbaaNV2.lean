/- Two texts, laid into one by mkclaim.py. -/
import Derived.Test.YtbgdfikfldkjbaaNV
section
/- Valid bodies: slices.IndexFunc over intervals, told (from NV, by a program). -/
namespace Go.Proofs.Ytbgdfikfldkjbaa.AI
set_option linter.unnecessarySimpa false
open Go
set_option linter.unusedVariables false
set_option linter.unusedSimpArgs false
def F1n : List Int → Tree
  | [a, b] => truT !vI a b
  | _ => .no
noncomputable def body76 : Code := loopOf Try.f76 0
def lv76 : List (Nat × LV) := [(2, ⟨[0, 1, 7, 8], [4], [], none⟩)]
def orc51 : List (FuncId × (List V → Tree)) := [(51, shT [some 2] F1n)]
noncomputable abbrev round76 {α : Type} (F : Nat) : List V → Heap → List Foot → KT α → Option α := codeA Try.prog (env Try.prog orc51 [] 9 3) F lv76 body76
def T76 (s : C) (f : FuncId) (n i : Int) : List V := [.u (.c s), .u (.c (.fn f [] [])), .any, .any, .any, .any, .any, .u (ui n), .u (ui i), .any, .any, .any, .any, .any, .any, .any, .any, .any, .any]
def X76 : List V := [.any, .any, .any, .any, .any, .any, .any, .any, .any, .any, .any, .any, .any, .any, .any, .any, .any, .any, .any]
def Y76 (i : Int) : List V := [.any, .any, .any, .any, .u (ui i), .any, .any, .any, .any, .any, .any, .any, .any, .any, .any, .any, .any, .any, .any]
theorem k51 : FnOk Try.prog 51 Try.f51 := fk Try.func51 (by kernel_rfl) rfl
theorem a51 (a : Iv) : ans Try.prog [(29, s1v)] [(51, Try.f51, [])] 9 3 51 [ivV a] = tru !a.v := by kernel_rfl
theorem E51 : Told Try.prog 51 (shT [some 2] F1n) := told_sh (fuel := 9) (d := 3) (fns := [(51, Try.f51, [])]) mixed (orc_cons E29 orc_nil) (fns_cons k51 fns_nil) k51.enter (fun l => by unfold F1n; split <;> rfl) fun l x h => by
  unfold F1n at h
  split at h
  · rename_i a b
    have := a51 ⟨a, b⟩
    rw [← h]
    exact this
  · cases h
theorem step76 {α : Type} (ad : Option Addr) (n cap : Nat) (v : Nat → Nat → Int) (i : Int) (F fuel : Nat) (L : List Foot) (K : KT α) : loopA 0 [0, 1, 7, 8] [4] (round76 F) (fuel + 1) (T76 (.as ad 2 n cap (arrC 2 v)) 51 n i) [] L K =
    bif decide (i < n) then bif decide (0 ≤ i) && decide (i < n) then bif !(ivOf v i.toNat).v then K .ret (Y76 i) [] L
      else loopA 0 [0, 1, 7, 8] [4] (round76 F) fuel (T76 (.as ad 2 n cap (arrC 2 v)) 51 n (W (i + 1))) [] L K else none else K (.exit 0) X76 [] L := by kernel_rfl
theorem run76 {α : Type} (ad : Option Addr) (n cap : Nat) (v : Nat → Nat → Int) (hn : n < 4611686018427387904) (F : Nat) (L : List Foot) (K : KT α) : ∀ (k i fuel : Nat), i + k = n → k < fuel → loopA 0 [0, 1, 7, 8] [4] (round76 F) fuel (T76 (.as ad 2 n cap (arrC 2 v)) 51 n i) [] L K =
    bif allF (fun j => (ivOf v j).v) i k then K (.exit 0) X76 [] L else K .ret (Y76 (fstF (fun j => (ivOf v j).v) i k)) [] L
  | 0, i, fuel + 1, h, _ => by
    rw [step76, decide_eq_false (show ¬ (i : Int) < n by omega)]; rfl
  | k + 1, i, fuel + 1, h, hf => by
    rw [step76, decide_eq_true (show (i : Int) < n by omega), decide_eq_true (show (0 : Int) ≤ i by omega)]
    simp only [Bool.and_self, cond_true, Int.toNat_natCast]
    unfold allF fstF
    cases hp : (ivOf v i).v
    · rfl
    · rw [show W ((i : Int) + 1) = ((i + 1 : Nat) : Int) by unfold W; rw [wr (by omega) (by omega)]; omega]
      simp only [Bool.not_true, cond_false, Bool.true_and]
      exact run76 ad n cap v hn F L K k (i + 1) fuel (by omega) (by omega)
def c76 (k n f : Nat) (m i : Int) (g : Nat → List C) : Bool := (Nat.beq k 2 && Nat.beq f 51) && (decide (m = n) && (decide (i = 0) && (decide (n < 4611686018427387904) && allN (fun j => isInts 2 (g j)) n)))
def g76 : List V → Heap → LTree
  | [.u (.c (.as ad k n cap g)), .u (.c (.fn f [] [])), .any, .any, .any, .any, .any, .u (.c (.int .i64 m)), .u (.c (.int .i64 i)), .any, .any, .any, .any, .any, .any, .any, .any, .any, .any], [] =>
    .test (c76 k n f m i g) (.test (allF (fun j => (ivOf (numOf g) j).v) 0 n) (.leaf (.exit 0) X76 [] []) (.leaf .ret (Y76 (fstF (fun j => (ivOf (numOf g) j).v) 0 n)) [] [])) .no
  | _, _ => .no
theorem entry76 {α : Type} (ad : Option Addr) (n cap : Nat) (v : Nat → Nat → Int) (F : Nat) (L : List Foot) (k : KT α) : codeA Try.prog (env Try.prog orc51 [] 9 3) F lv76 (.loop body76) (T76 (.as ad 2 n cap (arrC 2 v)) 51 n 0) [] L k = loopA 0 [0, 1, 7, 8] [4] (round76 F) F (T76 (.as ad 2 n cap (arrC 2 v)) 51 n 0) [] L k := by kernel_rfl
theorem loop_bodies76 : loops (Try.f76.body.getD .skip) = [body76] := by kernel_rfl
theorem key76 : keyOf body76 = some 2 := by kernel_rfl
theorem like76 {ad : Option Addr} {n cap : Nat} {g : Nat → List C} {f : FuncId} {m i : Int} (h : allN (fun j => isInts 2 (g j)) n = true) : LikeT (T76 (.as ad 2 n cap g) f m i) (T76 (.as ad 2 n cap (arrC 2 (numOf g))) f m i) := by
  have hg : ∀ j, j < n → g j = arrC 2 (numOf g) j := fun j hj => isInts_eq (allN_iff.1 h j hj)
  refine ⟨rfl, fun t v' hv => ?_⟩
  cases t with
  | zero =>
    cases hv
    refine ⟨_, rfl, (fun _ => rfl), (fun _ e => by cases e), fun W S hs => ?_⟩
    cases (show AOk W (.as ad 2 n cap g) from hs) with
    | «as» _ _ _ _ _ hl hn hcap hok hcc =>
      exact AOk.as ad 2 n cap _ (fun i hi => by rw [← hg i hi]; exact hl i hi) hn hcap (fun i j x hi hx => hok i j x hi (by rw [hg i hi]; exact hx)) (fun i j x a hi hx ha => hcc i j x a hi (by rw [hg i hi]; exact hx) ha)
  | succ t => exact ⟨v', hv, (fun _ => rfl), (fun h => h), (fun _ _ h => h)⟩
theorem told_loop76 : LoopTold Try.prog body76 g76 := by
  intro T H ex T' H' l hg
  unfold g76 at hg
  split at hg
  · rename_i ad k n cap g f m i
    simp only [LTree.val] at hg
    cases hc : c76 k n f m i g
    · rw [hc] at hg; cases hg
    rw [hc, cond_true] at hg
    unfold c76 at hc
    simp only [Bool.and_eq_true, decide_eq_true_eq] at hc
    obtain ⟨⟨hk, hf⟩, rfl, rfl, hn, hall⟩ := hc
    have hk := Nat.eq_of_beq_eq_true hk
    have hf := Nat.eq_of_beq_eq_true hf
    subst hk
    subst hf
    refine codeTo_like ?_ (like76 (m := n) (i := 0) hall)
    have hrun := run76 ad n cap (numOf g) hn (n + 1) [] (fun ex T H L => some (ex, T, H, L)) n 0 (n + 1) (by omega) (by omega)
    have hent := entry76 ad n cap (numOf g) (n + 1) [] (fun ex T H L => some (ex, T, H, L))
    refine codeTo_of mixed (env_ok mixed (orc_cons E51 orc_nil) fns_nil 9 3) (fuel := n + 1) (lvs := lv76) (untold fun p hp => by rw [lv76, List.mem_singleton] at hp; rw [hp]) ?_
    refine hent.trans (hrun.trans ?_)
    cases ha : allF (fun j => (ivOf (numOf g) j).v) 0 n
    · rw [ha] at hg; cases hg; rfl
    · rw [ha] at hg; cases hg; rfl
  · cases hg
def lw76 : List (Nat × LV) := [(2, ⟨[0, 1, 7, 8], [4], [], some g76⟩)]
theorem k76 : FnOk Try.prog 76 Try.f76 := fk Try.func76 (by kernel_rfl) rfl
def F76 : List A → Tree
  | [.o (.s k n v), .o (.f f)] => .test ((Nat.beq k 2 && Nat.beq f 51) && decide (n < 4611686018427387904)) (.leaf (.u (ui (fstF (fun j => (ivOf v j).v) 0 n)))) .no
  | _ => .no
theorem a76 (ad : Option Addr) (n cap : Nat) (v : Nat → Nat → Int) : ans Try.prog orc51 [(76, Try.f76, lw76)] 9 3 76 [.u (.c (.as ad 2 n cap (arrC 2 v))), .u (.c (.fn 51 [] []))] =
    bif c76 2 n 51 n 0 (arrC 2 v) then bif allF (fun j => (ivOf (numOf (arrC 2 v)) j).v) 0 n then some (.u (ui (-1)), []) else some (.u (ui (fstF (fun j => (ivOf (numOf (arrC 2 v)) j).v) 0 n)), []) else none := by kernel_rfl
theorem F76_val {l : List A} {x : V × Heap} (h : (F76 l).val = some x) : ∃ n v, l = [.o (.s 2 n v), .o (.f 51)] ∧ n < 4611686018427387904 ∧ x = (.u (ui (fstF (fun j => (ivOf v j).v) 0 n)), []) := by
  unfold F76 at h
  split at h
  · rename_i k n v f
    simp only [Tree.val] at h
    cases hc : ((Nat.beq k 2 && Nat.beq f 51) && decide (n < 4611686018427387904))
    · rw [hc] at h; cases h
    rw [hc, cond_true] at h
    simp only [Bool.and_eq_true, decide_eq_true_eq] at hc
    have hk := Nat.eq_of_beq_eq_true hc.1.1
    have hf := Nat.eq_of_beq_eq_true hc.1.2
    subst hk
    subst hf
    cases h
    exact ⟨n, v, rfl, hc.2, rfl⟩
  · cases h
theorem E76 : Told Try.prog 76 (fun args => argsT args F76) := by
  refine told_args (fuel := 9) (d := 3) (orc := orc51) (fns := [(76, Try.f76, lw76)]) mixed (orc_cons E51 orc_nil) (fns_loops k76 (loopsOk_one loop_bodies76 key76 told_loop76) fns_nil) k76.enter (args_flat fun l x h => ?_) fun l x h args hr => ?_
  · obtain ⟨n, v, _, _, rfl⟩ := F76_val h; exact ⟨_, rfl, rfl⟩
  · obtain ⟨n, v, rfl, hn, rfl⟩ := F76_val h
    cases hr with
    | cons h1 t =>
      cases t with
      | cons h2 t =>
        cases t
        cases h1 with
        | o h1 =>
          cases h2 with
          | o h2 =>
            cases h2
            cases h1 with
            | s k n v ad cap =>
              rw [a76]
              have e : (fun j => (ivOf (numOf (arrC 2 v)) j).v) = fun j => (ivOf v j).v := by
                funext j
                unfold ivOf
                rw [num_arr (by omega), num_arr (by omega)]
              rw [e, show c76 2 n 51 n 0 (arrC 2 v) = true by
                unfold c76
                simp only [Bool.and_eq_true, decide_eq_true_eq]
                exact ⟨⟨rfl, rfl⟩, trivial, trivial, hn, allN_iff.2 fun j _ => isInts_arr 2 v j⟩]
              rw [cond_true]
              cases ha : allF (fun j => (ivOf v j).v) 0 n
              · rfl
              · rw [fst_all ha]; rfl
end Go.Proofs.Ytbgdfikfldkjbaa.AI
end
section
/- Bodies: trace.Valid, told. -/
namespace Go.Proofs.Ytbgdfikfldkjbaa.AI
set_option linter.unnecessarySimpa false
open Go
set_option linter.unusedVariables false
set_option linter.unusedSimpArgs false
def bodyV (ad ad' : Option Addr) (n m cap cap' : Nat) (v u : Nat → Nat → Int) (x : Iv) : V := .u (.a [.as ad 6 n cap (arrC 6 v), .as ad' 2 m cap' (arrC 2 u), .int .i64 x.lo, .int .i64 x.hi])
theorem k26 : FnOk Try.prog 26 Try.f26 := fk Try.func26 (by kernel_rfl) rfl
theorem k46 : FnOk Try.prog 46 Try.f46 := fk Try.func46 (by kernel_rfl) rfl
theorem k47 : FnOk Try.prog 47 Try.f47 := fk Try.func47 (by kernel_rfl) rfl
theorem k50 : FnOk Try.prog 50 Try.f50 := fk Try.func50 (by kernel_rfl) rfl
def pre75 (n : Nat) (v : Nat → Nat → Int) (X : R) : R := bif allN (fun j => isInts 6 (arrC 6 v j)) n then bif decide (n < 4611686018427387904) then X else none else none
def pre76 (n : Nat) (v : Nat → Nat → Int) (X : R) : R := bif allN (fun j => isInts 2 (arrC 2 v j)) n then bif decide (n < 4611686018427387904) then X else none else none
def orcB : List (FuncId × (List V → Tree)) := [(29, s1v), (75, fun args => argsT args F75), (76, fun args => argsT args F76)]
theorem orcB_ok : OrcOk Try.prog orcB := orc_cons E29 (orc_cons E75 (orc_cons E76 orc_nil))
theorem a26 (ad ad' : Option Addr) (n m cap cap' : Nat) (v u : Nat → Nat → Int) (x : Iv) : ans Try.prog orcB [(26, Try.f26, []), (46, Try.f46, []), (47, Try.f47, []), (50, Try.f50, [])] 9 5 26 [bodyV ad ad' n m cap cap' v u x] =
    bif decide (4 ≤ (n : Int)) then bif decide ((n : Int) ≤ 100) then bif decide ((m : Int) = n) then bif x.v then bif decide (16777216 ≤ x.lo) then bif decide (x.hi ≤ 67108864) then
      pre75 n v (bif !decide (0 ≤ fstF (fun j => (bxOf (numOf (arrC 6 v)) j).v) 0 n) then pre76 m u (tru !decide (0 ≤ fstF (fun j => (ivOf (numOf (arrC 2 u)) j).v) 0 m)) else tru false)
    else tru false else tru false else tru false else tru false else tru false else tru false := by kernel_rfl
/-- A body is valid. -/
def validB (n m : Nat) (v u : Nat → Nat → Int) (x : Iv) : Bool := (decide (4 ≤ n) && (decide (n ≤ 100) && (decide (m = n) && (x.v && (decide (16777216 ≤ x.lo) && decide (x.hi ≤ 67108864)))))) && (allF (fun j => (bxOf v j).v) 0 n && allF (fun j => (ivOf u j).v) 0 m)
theorem fst_some {p : Nat → Bool} : ∀ {k i : Nat}, allF p i k = false → 0 ≤ fstF p i k
  | 0, i, h => by cases h
  | k + 1, i, h => by
    unfold allF at h
    unfold fstF
    cases hp : p i
    · exact Int.natCast_nonneg i
    · rw [hp, Bool.true_and] at h
      exact fst_some h
theorem fst_dec (p : Nat → Bool) (k : Nat) : (!decide (0 ≤ fstF p 0 k)) = allF p 0 k := by
  cases h : allF p 0 k
  · rw [decide_eq_true (fst_some h)]; rfl
  · rw [fst_all h]; rfl
theorem bx_arr (v : Nat → Nat → Int) : (fun j => (bxOf (numOf (arrC 6 v)) j).v) = fun j => (bxOf v j).v := by
  funext j
  unfold bxOf
  rw [num_arr (by omega), num_arr (by omega), num_arr (by omega), num_arr (by omega), num_arr (by omega), num_arr (by omega)]
theorem iv_arr (v : Nat → Nat → Int) : (fun j => (ivOf (numOf (arrC 2 v)) j).v) = fun j => (ivOf v j).v := by
  funext j
  unfold ivOf
  rw [num_arr (by omega), num_arr (by omega)]
theorem pre75_in {n : Nat} (hn : n < 4611686018427387904) (v : Nat → Nat → Int) (X : R) : pre75 n v X = X := by
  unfold pre75
  rw [allN_iff.2 fun j _ => isInts_arr 6 v j, decide_eq_true hn]; rfl
theorem pre76_in {n : Nat} (hn : n < 4611686018427387904) (v : Nat → Nat → Int) (X : R) : pre76 n v X = X := by
  unfold pre76
  rw [allN_iff.2 fun j _ => isInts_arr 2 v j, decide_eq_true hn]; rfl
def F26 : List A → Tree
  | [.a [.s k n v, .s k' m u, .i a, .i b]] => .test (Nat.beq k 6 && Nat.beq k' 2) (truT (validB n m v u ⟨a, b⟩)) .no
  | _ => .no
theorem F26_val {l : List A} {x : V × Heap} (h : (F26 l).val = some x) : ∃ n m v u a b, l = [.a [.s 6 n v, .s 2 m u, .i a, .i b]] ∧ x = (.u (.c (.bool (validB n m v u ⟨a, b⟩))), []) := by
  unfold F26 at h
  split at h
  · rename_i k n v k' m u a b
    simp only [Tree.val] at h
    cases hc : (Nat.beq k 6 && Nat.beq k' 2)
    · rw [hc] at h; cases h
    rw [hc, cond_true] at h
    simp only [Bool.and_eq_true] at hc
    have hk := Nat.eq_of_beq_eq_true hc.1
    have hf := Nat.eq_of_beq_eq_true hc.2
    subst hk
    subst hf
    cases h
    exact ⟨n, m, v, u, a, b, rfl, rfl⟩
  · cases h
theorem valid_eq (n m : Nat) (v u : Nat → Nat → Int) (x : Iv) : (bif decide (4 ≤ (n : Int)) then bif decide ((n : Int) ≤ 100) then bif decide ((m : Int) = n) then bif x.v then bif decide (16777216 ≤ x.lo) then bif decide (x.hi ≤ 67108864) then
      pre75 n v (bif !decide (0 ≤ fstF (fun j => (bxOf (numOf (arrC 6 v)) j).v) 0 n) then pre76 m u (tru !decide (0 ≤ fstF (fun j => (ivOf (numOf (arrC 2 u)) j).v) 0 m)) else tru false)
    else tru false else tru false else tru false else tru false else tru false else tru false) = tru (validB n m v u x) := by
  rw [bx_arr, iv_arr, fst_dec, fst_dec]
  unfold validB
  by_cases h1 : 4 ≤ n
  · rw [decide_eq_true (show (4 : Int) ≤ (n : Int) by omega), decide_eq_true h1]
    by_cases h2 : n ≤ 100
    · rw [decide_eq_true (show (n : Int) ≤ 100 by omega), decide_eq_true h2]
      by_cases h3 : m = n
      · subst h3
        rw [decide_eq_true (show ((m : Int) = m) from rfl), decide_eq_true (show m = m from rfl), pre75_in (by omega), pre76_in (by omega)]
        cases x.v <;> cases decide (16777216 ≤ x.lo) <;> cases decide (x.hi ≤ 67108864) <;> cases allF (fun j => (bxOf v j).v) 0 m <;> rfl
      · rw [decide_eq_false (show ¬ (m : Int) = n by omega), decide_eq_false h3]; rfl
    · rw [decide_eq_false (show ¬ (n : Int) ≤ 100 by omega), decide_eq_false h2]; rfl
  · rw [decide_eq_false (show ¬ (4 : Int) ≤ (n : Int) by omega), decide_eq_false h1]; rfl
theorem E26 : Told Try.prog 26 (fun args => argsT args F26) := by
  refine told_args (fuel := 9) (d := 5) (orc := orcB) (fns := [(26, Try.f26, []), (46, Try.f46, []), (47, Try.f47, []), (50, Try.f50, [])]) mixed orcB_ok (fns_cons k26 (fns_cons k46 (fns_cons k47 (fns_cons k50 fns_nil)))) k26.enter (args_flat fun l x h => ?_) fun l x h args hr => ?_
  · obtain ⟨n, m, v, u, a, b, _, rfl⟩ := F26_val h; exact ⟨_, rfl, rfl⟩
  · obtain ⟨n, m, v, u, a, b, rfl, rfl⟩ := F26_val h
    cases hr with
    | cons h1 t =>
      cases t
      cases h1 with
      | a h1 =>
        cases h1 with
        | cons c1 h1 =>
          cases h1 with
          | cons c2 h1 =>
            cases h1 with
            | cons c3 h1 =>
              cases h1 with
              | cons c4 h1 =>
                cases h1
                cases c3
                cases c4
                cases c1 with
                | s k n v ad cap =>
                  cases c2 with
                  | s k' m u ad' cap' => exact (a26 ad ad' n m cap cap' v u ⟨a, b⟩).trans (valid_eq n m v u ⟨a, b⟩)
/-! Quotients rounded down, of layer 31. -/
theorem a55 (a b : Int) : ans Try.prog [] [(55, Try.f55, [])] 9 3 55 [.u (ui a), .u (ui b)] =
    (bif decide (b = 0) then none else bif decide (b = 0) then none else bif !decide (Int.tmod a b = 0) then bif decide (a < 0) then some (.u (ui (IntKind.i64.wrap (IntKind.i64.wrap (Int.tdiv a b) - 1))), []) else some (.u (ui (IntKind.i64.wrap (Int.tdiv a b))), []) else some (.u (ui (IntKind.i64.wrap (Int.tdiv a b))), [])) := by kernel_rfl
theorem k55 : FnOk Try.prog 55 Try.f55 := fk Try.func55 (by kernel_rfl) rfl
theorem told55 : Told Try.prog 55 (quoT dnq) := by
  refine told_flat (fuel := 9) (d := 3) (fns := [(55, Try.f55, [])]) mixed orc_nil (fns_cons k55 fns_nil) k55.enter quo_flat (fun args x h => ?_) fun args x h => ?_
  · obtain ⟨a, b, rfl, _⟩ := quo_val h; rfl
  · obtain ⟨a, b, rfl, hb, h1, h2, rfl⟩ := quo_val h
    rw [a55, decide_eq_false (show ¬ b = 0 by omega)]
    exact floor_eq hb h1 h2 fun n => some (.u (ui n), [])
/-! A ray is valid. -/
theorem k27 : FnOk Try.prog 27 Try.f27 := fk Try.func27 (by kernel_rfl) rfl
def P12 (F : Ray → Tree) : List Int → Tree
  | [a, b, c, d, e, f, a', b', c', d', e', f'] => F ⟨⟨⟨a, b⟩, ⟨c, d⟩, ⟨e, f⟩⟩, ⟨⟨a', b'⟩, ⟨c', d'⟩, ⟨e', f'⟩⟩⟩
  | _ => .no
theorem a27 (r : Ray) : ans Try.prog [(49, s6v)] [(27, Try.f27, [])] 9 3 27 [rayV r] = bif r.pt.v then tru r.dir.v else tru false := by kernel_rfl
theorem E27 : Told Try.prog 27 (shT [some 12] (P12 fun r => truT (r.pt.v && r.dir.v))) := told_sh (fuel := 9) (d := 3) (fns := [(27, Try.f27, [])]) mixed (orc_cons E49 orc_nil) (fns_cons k27 fns_nil) k27.enter (fun l => by unfold P12; split <;> rfl) fun l x h => by
  unfold P12 at h
  split at h
  · rename_i a b c d e f a' b' c' d' e' f'
    have := a27 ⟨⟨⟨a, b⟩, ⟨c, d⟩, ⟨e, f⟩⟩, ⟨⟨a', b'⟩, ⟨c', d'⟩, ⟨e', f'⟩⟩⟩
    rw [← h]
    refine Eq.trans this ?_
    show _ = tru (_ && _)
    cases (Bx.v ⟨⟨a, b⟩, ⟨c, d⟩, ⟨e, f⟩⟩) <;> rfl
  · cases h
end Go.Proofs.Ytbgdfikfldkjbaa.AI
end
