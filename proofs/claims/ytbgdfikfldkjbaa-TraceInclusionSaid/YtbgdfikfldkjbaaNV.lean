/- Valid bodies: slices.IndexFunc over boxes and intervals, told. -/
import Derived.Test.YtbgdfikfldkjbaaNS
import Derived.Test.YtbgdfikfldkjbaaNA
import Derived.Test.YtbgdfikfldkjbaaAR
namespace Go.Proofs.Ytbgdfikfldkjbaa.AI
set_option linter.unnecessarySimpa false
open Go
set_option linter.unusedVariables false
set_option linter.unusedSimpArgs false
/-- The first from i on that is not, or -1. -/
def fstF (p : Nat → Bool) : Nat → Nat → Int
  | _, 0 => -1
  | i, k + 1 => bif !p i then Int.ofNat i else fstF p (i + 1) k
def bxOf (v : Nat → Nat → Int) (j : Nat) : Bx := ⟨⟨v j 0, v j 1⟩, ⟨v j 2, v j 3⟩, ⟨v j 4, v j 5⟩⟩
def ivOf (v : Nat → Nat → Int) (j : Nat) : Iv := ⟨v j 0, v j 1⟩
noncomputable def body75 : Code := loopOf Try.f75 0
def lv75 : List (Nat × LV) := [(2, ⟨[0, 1, 7, 8], [4], [], none⟩)]
def orc48 : List (FuncId × (List V → Tree)) := [(48, s6 fun a => truT !a.v)]
noncomputable abbrev round75 {α : Type} (F : Nat) : List V → Heap → List Foot → KT α → Option α := codeA Try.prog (env Try.prog orc48 [] 9 3) F lv75 body75
def T75 (s : C) (f : FuncId) (n i : Int) : List V := [.u (.c s), .u (.c (.fn f [] [])), .any, .any, .any, .any, .any, .u (ui n), .u (ui i), .any, .any, .any, .any, .any, .any, .any, .any, .any, .any]
def X75 : List V := [.any, .any, .any, .any, .any, .any, .any, .any, .any, .any, .any, .any, .any, .any, .any, .any, .any, .any, .any]
def Y75 (i : Int) : List V := [.any, .any, .any, .any, .u (ui i), .any, .any, .any, .any, .any, .any, .any, .any, .any, .any, .any, .any, .any, .any]
theorem k48 : FnOk Try.prog 48 Try.f48 := fk Try.func48 (by kernel_rfl) rfl
theorem a48 (a : Bx) : ans Try.prog [(49, s6v)] [(48, Try.f48, [])] 9 3 48 [bxV a] = tru !a.v := by kernel_rfl
theorem E48 : Told Try.prog 48 (s6 fun a => truT !a.v) := told_sh (fuel := 9) (d := 3) (fns := [(48, Try.f48, [])]) mixed (orc_cons E49 orc_nil) (fns_cons k48 fns_nil) k48.enter (P6_flat fun _ => rfl) fun l x h => by
  obtain ⟨a, e, hx⟩ := P6_some h
  rw [e, a48, ← hx]; rfl
theorem step75 {α : Type} (ad : Option Addr) (n cap : Nat) (v : Nat → Nat → Int) (i : Int) (F fuel : Nat) (L : List Foot) (K : KT α) : loopA 0 [0, 1, 7, 8] [4] (round75 F) (fuel + 1) (T75 (.as ad 6 n cap (arrC 6 v)) 48 n i) [] L K =
    bif decide (i < n) then bif decide (0 ≤ i) && decide (i < n) then bif !(bxOf v i.toNat).v then K .ret (Y75 i) [] L
      else loopA 0 [0, 1, 7, 8] [4] (round75 F) fuel (T75 (.as ad 6 n cap (arrC 6 v)) 48 n (W (i + 1))) [] L K else none else K (.exit 0) X75 [] L := by kernel_rfl
/-- Temporaries that say the same. -/
structure LikeT (T T' : List V) : Prop where
  len : T'.length = T.length
  val : ∀ t v', nth T' t = some v' → ∃ v, nth T t = some v ∧ (∀ ρ, v'.den ρ = v.den ρ) ∧ (v' ≠ .any → v ≠ .any) ∧ ∀ W S, v.sc W S → v'.sc W S
theorem codeTo_like {P : Program} {c : Code} {T T' : List V} {H : Heap} {ex : Ex} {T2 : List V} {H2 : Heap} {l : List Foot} (h : CodeTo P c T' H ex T2 H2 l) (k : LikeT T T') : CodeTo P c T H ex T2 H2 l := by
  have hsc : ∀ W S, ScT W S T → ScT W S T' := fun W S hT v hv => by
    obtain ⟨t, ht⟩ := List.getElem?_of_mem hv
    obtain ⟨u, h1, _, _, h4⟩ := k.val t v (by rw [nth_eq]; exact ht)
    rw [nth_eq] at h1
    exact h4 W S (hT u (List.mem_of_getElem? h1))
  refine { gr := h.gr, sc := fun W S hT => h.sc W S (hsc W S hT), run := fun ro m hro W S ρ a w st Q hQ => h.run ro m hro W S ρ a w ⟨⟨by rw [k.len]; exact st.tr.len, fun t v hv hne => ?_⟩, st.hr, hsc W S st.st, st.sh, st.lt⟩ Q hQ }
  obtain ⟨u, h1, h2, h3, _⟩ := k.val t v hv
  rw [h2]
  exact st.tr.val t u h1 (h3 hne)
/-- All from i on, for k. -/
def allF (p : Nat → Bool) : Nat → Nat → Bool
  | _, 0 => true
  | i, k + 1 => p i && allF p (i + 1) k
theorem run75 {α : Type} (ad : Option Addr) (n cap : Nat) (v : Nat → Nat → Int) (hn : n < 4611686018427387904) (F : Nat) (L : List Foot) (K : KT α) : ∀ (k i fuel : Nat), i + k = n → k < fuel → loopA 0 [0, 1, 7, 8] [4] (round75 F) fuel (T75 (.as ad 6 n cap (arrC 6 v)) 48 n i) [] L K =
    bif allF (fun j => (bxOf v j).v) i k then K (.exit 0) X75 [] L else K .ret (Y75 (fstF (fun j => (bxOf v j).v) i k)) [] L
  | 0, i, fuel + 1, h, _ => by
    rw [step75, decide_eq_false (show ¬ (i : Int) < n by omega)]; rfl
  | k + 1, i, fuel + 1, h, hf => by
    rw [step75, decide_eq_true (show (i : Int) < n by omega), decide_eq_true (show (0 : Int) ≤ i by omega)]
    simp only [Bool.and_self, cond_true, Int.toNat_natCast]
    unfold allF fstF
    cases hp : (bxOf v i).v
    · rfl
    · rw [show W ((i : Int) + 1) = ((i + 1 : Nat) : Int) by unfold W; rw [wr (by omega) (by omega)]; omega]
      simp only [Bool.not_true, cond_false, Bool.true_and]
      exact run75 ad n cap v hn F L K k (i + 1) fuel (by omega) (by omega)
def c75 (k n f : Nat) (m i : Int) (g : Nat → List C) : Bool := (Nat.beq k 6 && Nat.beq f 48) && (decide (m = n) && (decide (i = 0) && (decide (n < 4611686018427387904) && allN (fun j => isInts 6 (g j)) n)))
def g75 : List V → Heap → LTree
  | [.u (.c (.as ad k n cap g)), .u (.c (.fn f [] [])), .any, .any, .any, .any, .any, .u (.c (.int .i64 m)), .u (.c (.int .i64 i)), .any, .any, .any, .any, .any, .any, .any, .any, .any, .any], [] =>
    .test (c75 k n f m i g) (.test (allF (fun j => (bxOf (numOf g) j).v) 0 n) (.leaf (.exit 0) X75 [] []) (.leaf .ret (Y75 (fstF (fun j => (bxOf (numOf g) j).v) 0 n)) [] [])) .no
  | _, _ => .no
theorem entry75 {α : Type} (ad : Option Addr) (n cap : Nat) (v : Nat → Nat → Int) (F : Nat) (L : List Foot) (k : KT α) : codeA Try.prog (env Try.prog orc48 [] 9 3) F lv75 (.loop body75) (T75 (.as ad 6 n cap (arrC 6 v)) 48 n 0) [] L k = loopA 0 [0, 1, 7, 8] [4] (round75 F) F (T75 (.as ad 6 n cap (arrC 6 v)) 48 n 0) [] L k := by kernel_rfl
theorem loop_bodies75 : loops (Try.f75.body.getD .skip) = [body75] := by kernel_rfl
theorem key75 : keyOf body75 = some 2 := by kernel_rfl
theorem like75 {ad : Option Addr} {n cap : Nat} {g : Nat → List C} {f : FuncId} {m i : Int} (h : allN (fun j => isInts 6 (g j)) n = true) : LikeT (T75 (.as ad 6 n cap g) f m i) (T75 (.as ad 6 n cap (arrC 6 (numOf g))) f m i) := by
  have hg : ∀ j, j < n → g j = arrC 6 (numOf g) j := fun j hj => isInts_eq (allN_iff.1 h j hj)
  refine ⟨rfl, fun t v' hv => ?_⟩
  cases t with
  | zero =>
    cases hv
    refine ⟨_, rfl, (fun _ => rfl), (fun _ e => by cases e), fun W S hs => ?_⟩
    cases (show AOk W (.as ad 6 n cap g) from hs) with
    | «as» _ _ _ _ _ hl hn hcap hok hcc =>
      exact AOk.as ad 6 n cap _ (fun i hi => by rw [← hg i hi]; exact hl i hi) hn hcap (fun i j x hi hx => hok i j x hi (by rw [hg i hi]; exact hx)) (fun i j x a hi hx ha => hcc i j x a hi (by rw [hg i hi]; exact hx) ha)
  | succ t => exact ⟨v', hv, (fun _ => rfl), (fun h => h), (fun _ _ h => h)⟩
theorem told_loop75 : LoopTold Try.prog body75 g75 := by
  intro T H ex T' H' l hg
  unfold g75 at hg
  split at hg
  · rename_i ad k n cap g f m i
    simp only [LTree.val] at hg
    cases hc : c75 k n f m i g
    · rw [hc] at hg; cases hg
    rw [hc, cond_true] at hg
    unfold c75 at hc
    simp only [Bool.and_eq_true, decide_eq_true_eq] at hc
    obtain ⟨⟨hk, hf⟩, rfl, rfl, hn, hall⟩ := hc
    have hk := Nat.eq_of_beq_eq_true hk
    have hf := Nat.eq_of_beq_eq_true hf
    subst hk
    subst hf
    refine codeTo_like ?_ (like75 (m := n) (i := 0) hall)
    have hrun := run75 ad n cap (numOf g) hn (n + 1) [] (fun ex T H L => some (ex, T, H, L)) n 0 (n + 1) (by omega) (by omega)
    have hent := entry75 ad n cap (numOf g) (n + 1) [] (fun ex T H L => some (ex, T, H, L))
    refine codeTo_of mixed (env_ok mixed (orc_cons E48 orc_nil) fns_nil 9 3) (fuel := n + 1) (lvs := lv75) (untold fun p hp => by rw [lv75, List.mem_singleton] at hp; rw [hp]) ?_
    refine hent.trans (hrun.trans ?_)
    cases ha : allF (fun j => (bxOf (numOf g) j).v) 0 n
    · rw [ha] at hg; cases hg; rfl
    · rw [ha] at hg; cases hg; rfl
  · cases hg
def lw75 : List (Nat × LV) := [(2, ⟨[0, 1, 7, 8], [4], [], some g75⟩)]
theorem k75 : FnOk Try.prog 75 Try.f75 := fk Try.func75 (by kernel_rfl) rfl
theorem isInts_arr (k : Nat) (v : Nat → Nat → Int) (j : Nat) : isInts k (arrC k v j) = true := by
  unfold arrC
  have key : ∀ (l : List Nat), isInts l.length (l.map fun m => C.int .i64 (v j m)) = true := by
    intro l
    induction l with
    | nil => rfl
    | cons a l ih => exact ih
  have := key (List.range k)
  rw [List.length_range] at this
  exact this
theorem num_arr {k : Nat} {v : Nat → Nat → Int} {j m : Nat} (h : m < k) : numOf (arrC k v) j m = v j m := by
  unfold numOf arrC
  rw [nth_eq, List.getElem?_map, List.getElem?_range h]
  rfl
def F75 : List A → Tree
  | [.o (.s k n v), .o (.f f)] => .test ((Nat.beq k 6 && Nat.beq f 48) && decide (n < 4611686018427387904)) (.leaf (.u (ui (fstF (fun j => (bxOf v j).v) 0 n)))) .no
  | _ => .no
theorem a75 (ad : Option Addr) (n cap : Nat) (v : Nat → Nat → Int) : ans Try.prog orc48 [(75, Try.f75, lw75)] 9 3 75 [.u (.c (.as ad 6 n cap (arrC 6 v))), .u (.c (.fn 48 [] []))] =
    bif c75 6 n 48 n 0 (arrC 6 v) then bif allF (fun j => (bxOf (numOf (arrC 6 v)) j).v) 0 n then some (.u (ui (-1)), []) else some (.u (ui (fstF (fun j => (bxOf (numOf (arrC 6 v)) j).v) 0 n)), []) else none := by kernel_rfl
theorem fst_all {p : Nat → Bool} : ∀ {k i : Nat}, allF p i k = true → fstF p i k = -1
  | 0, i, _ => rfl
  | k + 1, i, h => by
    unfold allF at h
    rw [Bool.and_eq_true] at h
    unfold fstF
    rw [h.1]
    exact fst_all h.2
theorem F75_val {l : List A} {x : V × Heap} (h : (F75 l).val = some x) : ∃ n v, l = [.o (.s 6 n v), .o (.f 48)] ∧ n < 4611686018427387904 ∧ x = (.u (ui (fstF (fun j => (bxOf v j).v) 0 n)), []) := by
  unfold F75 at h
  split at h
  · rename_i k n v f
    simp only [Tree.val] at h
    cases hc : ((Nat.beq k 6 && Nat.beq f 48) && decide (n < 4611686018427387904))
    · rw [hc] at h; cases h
    rw [hc, cond_true] at h
    simp only [Bool.and_eq_true, decide_eq_true_eq] at hc
    have hk := Nat.eq_of_beq_eq_true hc.1.1
    have hf := Nat.eq_of_beq_eq_true hc.1.2
    subst hk
    subst hf
    cases h
    exact ⟨n, v, rfl, hc.2, rfl⟩
  · cases h
theorem args_flat {F : List A → Tree} (h : ∀ l x, (F l).val = some x → ∃ y, flatV y = true ∧ x = (y, [])) : ∀ args v H, (argsT args F).val = some (v, H) → v ≠ .any ∧ ∀ W, v.sc W (fun b => b < H.length) ∧ ScH W (fun b => b < H.length) H := by
  have cell : ∀ (c : C) (G : D → Tree) (x : V × Heap), (cellT c G).val = some x → ∃ d, (G d).val = some x := by
    intro c G x h
    unfold cellT at h
    split at h
    · exact ⟨_, h⟩
    · rename_i ad k n cap g
      simp only [Tree.val] at h
      cases hc : allN (fun j => isInts k (g j)) n
      · rw [hc] at h; cases h
      · rw [hc] at h; exact ⟨_, h⟩
    · exact ⟨_, h⟩
    · cases h
  have cells : ∀ (cs : List C) (G : List D → Tree) (x : V × Heap), (cellsT cs G).val = some x → ∃ ds, (G ds).val = some x := by
    intro cs
    induction cs with
    | nil => exact fun G x h => ⟨_, h⟩
    | cons c r ih =>
      intro G x h
      obtain ⟨d, h⟩ := cell c _ x h
      obtain ⟨ds, h⟩ := ih _ x h
      exact ⟨_, h⟩
  have arg : ∀ (v : V) (G : A → Tree) (x : V × Heap), (argT v G).val = some x → ∃ a, (G a).val = some x := by
    intro v G x h
    unfold argT at h
    split at h
    · obtain ⟨d, h⟩ := cell _ _ x h; exact ⟨_, h⟩
    · obtain ⟨d, h⟩ := cells _ _ x h; exact ⟨_, h⟩
    · cases h
  have all : ∀ (vs : List V) (G : List A → Tree) (x : V × Heap), (argsT vs G).val = some x → ∃ l, (G l).val = some x := by
    intro vs
    induction vs with
    | nil => exact fun G x h => ⟨_, h⟩
    | cons v r ih =>
      intro G x h
      obtain ⟨a, h⟩ := arg v _ x h
      obtain ⟨l, h⟩ := ih _ x h
      exact ⟨_, h⟩
  intro args v H hv
  obtain ⟨l, hl⟩ := all args F _ hv
  obtain ⟨y, hy, e⟩ := h l _ hl
  cases e
  exact ⟨(fun e => by rw [e] at hy; cases hy), fun W => ⟨flatV_sc hy _ _, fun b B hB => by rw [blk_nil] at hB; cases hB⟩⟩
theorem E75 : Told Try.prog 75 (fun args => argsT args F75) := by
  refine told_args (fuel := 9) (d := 3) (orc := orc48) (fns := [(75, Try.f75, lw75)]) mixed (orc_cons E48 orc_nil) (fns_loops k75 (loopsOk_one loop_bodies75 key75 told_loop75) fns_nil) k75.enter (args_flat fun l x h => ?_) fun l x h args hr => ?_
  · obtain ⟨n, v, _, _, rfl⟩ := F75_val h; exact ⟨_, rfl, rfl⟩
  · obtain ⟨n, v, rfl, hn, rfl⟩ := F75_val h
    cases hr with
    | cons h1 t =>
      cases t with
      | cons h2 t =>
        cases t
        cases h1 with
        | o h1 =>
          cases h2 with
          | o h2 =>
            cases h2
            cases h1 with
            | s k n v ad cap =>
              rw [a75]
              have e : (fun j => (bxOf (numOf (arrC 6 v)) j).v) = fun j => (bxOf v j).v := by
                funext j
                unfold bxOf
                rw [num_arr (by omega), num_arr (by omega), num_arr (by omega), num_arr (by omega), num_arr (by omega), num_arr (by omega)]
              rw [e, show c75 6 n 48 n 0 (arrC 6 v) = true by
                unfold c75
                simp only [Bool.and_eq_true, decide_eq_true_eq]
                exact ⟨⟨rfl, rfl⟩, trivial, trivial, hn, allN_iff.2 fun j _ => isInts_arr 6 v j⟩]
              rw [cond_true]
              cases ha : allF (fun j => (bxOf v j).v) 0 n
              · rfl
              · rw [fst_all ha]; rfl
end Go.Proofs.Ytbgdfikfldkjbaa.AI
