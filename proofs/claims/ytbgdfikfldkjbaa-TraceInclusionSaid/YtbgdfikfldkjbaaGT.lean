/- culetlaw31.Theirs, told with the places of what came in. -/
import Derived.Test.YtbgdfikfldkjbaaNP
import Derived.Test.YtbgdfikfldkjbaaAI13
import Derived.Test.YtbgdfikfldkjbaaPW0
namespace Go.Proofs.Ytbgdfikfldkjbaa.AI
set_option linter.unnecessarySimpa false
open Go
set_option linter.unusedVariables false
set_option linter.unusedSimpArgs false
noncomputable abbrev envTh (F : Nat) : CallT (V × Heap) := envA Try.prog [] [] [] F 0
noncomputable abbrev loopTh (F fuel : Nat) (T : List V) (H : Heap) (L : List Foot) (K : KT (V × Heap)) : R := loopA 3 [1, 2, 3, 4] [1, 2, 3] (codeA Try.prog (envTh F) F lv10 body10) fuel T H L K
noncomputable def KTh (F : Nat) : KT (V × Heap) := kblk (kseq (envTh F) F lv10 tail10 (kfinA Try.f10))
def TTh (i : Int) : List V := TT 28 [(1, .u (.c (.ptr 0 0))), (2, .u (.c (.ptr 1 0))), (3, .u (.c (.ptr 2 0))), (4, .u (ui i))]
def TTho : List V := TT 28 [(1, .u (.c (.ptr 0 0))), (2, .u (.c (.ptr 1 0))), (3, .u (.c (.ptr 2 0)))]
def HTh (b out : List C) : Heap := [some (.cells b), some (.cells z10), some (.cells out)]
def rowTh (n : Nat) (f : Nat → Nat → Int) : Heap := [some (.row 41 6 n (arrC 6 f) true)]
theorem entryTh (ad ad' : Option Addr) (n m cap cap' : Nat) (v u : Nat → Nat → Int) (x : Iv) (F : Nat) : ansA Try.prog [] [] [] F 0 Try.f10 lv10 [.u (.a (bodyA ad ad' n m cap cap' v u x))] = loopTh F F (TTh 0) (HTh (bodyA ad ad' n m cap cap' v u x) (out10 .nils ad' m cap' u x)) [.c 2 0 4] (KTh F) := by kernel_rfl
theorem stepThN (ad ad' : Option Addr) (n m cap cap' : Nat) (v u : Nat → Nat → Int) (x : Iv) (i : Int) (F fuel : Nat) (L : List Foot) : loopTh F (fuel + 1) (TTh i) (HTh (bodyA ad ad' n m cap cap' v u x) (out10 .nils ad' m cap' u x)) L (KTh F) =
    bif decide (i < n) then bif decide (0 ≤ i) && decide (i < n) then loopTh F fuel (TTh (W (i + 1))) (HTh (bodyA ad ad' n m cap cap' v u x) (out10 (.row 3 6 0 1 true) ad' m cap' u x) ++ rowTh 1 (fun _ k => v i.toNat k)) ([.c 2 0 1] ++ L) (KTh F) else none
    else KTh F (.exit 0) TTho (HTh (bodyA ad ad' n m cap cap' v u x) (out10 .nils ad' m cap' u x)) L := by kernel_rfl
theorem stepThR (ad ad' : Option Addr) (n m cap cap' : Nat) (v u : Nat → Nat → Int) (x : Iv) (i : Int) (c : Nat) (f : Nat → Nat → Int) (F fuel : Nat) (L : List Foot) : loopTh F (fuel + 1) (TTh i) (HTh (bodyA ad ad' n m cap cap' v u x) (out10 (.row 3 6 0 (c + 1) true) ad' m cap' u x) ++ rowTh (c + 1) f) L (KTh F) =
    bif decide (i < n) then bif decide (0 ≤ i) && decide (i < n) then bif decide (c + 1 ≤ c + 1) then bif decide ((c + 1 + 1) * 48 ≤ 140737488355328) && decide (c + 1 + 1 ≤ 140737488355328) then
      loopTh F fuel (TTh (W (i + 1))) (HTh (bodyA ad ad' n m cap cap' v u x) (out10 (.row 3 6 0 (c + 2) true) ad' m cap' u x) ++ rowTh (c + 2) (fun j k => bif Nat.blt j (c + 1) then f j k else v i.toNat k)) ([.c 2 0 1, .r 3] ++ L) (KTh F) else none else none else none
    else KTh F (.exit 0) TTho (HTh (bodyA ad ad' n m cap cap' v u x) (out10 (.row 3 6 0 (c + 1) true) ad' m cap' u x) ++ rowTh (c + 1) f) L := by kernel_rfl
theorem finThN (b : List C) (ad' : Option Addr) (m cap' : Nat) (u : Nat → Nat → Int) (x : Iv) (F : Nat) (L : List Foot) : KTh F (.exit 0) TTho (HTh b (out10 .nils ad' m cap' u x)) L = some (.u (.a (out10 .nils ad' m cap' u x)), []) := by kernel_rfl
theorem finThR (b : List C) (ad' : Option Addr) (m cap' : Nat) (u : Nat → Nat → Int) (x : Iv) (c : Nat) (f : Nat → Nat → Int) (F : Nat) (L : List Foot) : KTh F (.exit 0) TTho (HTh b (out10 (.row 3 6 0 (c + 1) true) ad' m cap' u x) ++ rowTh (c + 1) f) L = some (.u (.a (out10 (.row 0 6 0 (c + 1) true) ad' m cap' u x)), rowTh (c + 1) f) := by kernel_rfl
/-- What has come: as it stands in the row. -/
def thF (v : Nat → Nat → Int) : Nat → Nat → Nat → Int
  | 0 => fun _ _ => 0
  | 1 => fun _ k => v 0 k
  | c + 2 => fun j k => bif Nat.blt j (c + 1) then thF v (c + 1) j k else v (c + 1) k
theorem thF_eq (v : Nat → Nat → Int) : ∀ (c j k : Nat), j < c → thF v c j k = v j k
  | 0, j, k, h => by omega
  | 1, j, k, h => by
    obtain rfl : j = 0 := by omega
    rfl
  | c + 2, j, k, h => by
    show (bif Nat.blt j (c + 1) then thF v (c + 1) j k else v (c + 1) k) = _
    by_cases hj : j < c + 1
    · rw [show Nat.blt j (c + 1) = true by rw [Nat.blt_eq]; exact hj, cond_true]
      exact thF_eq v (c + 1) j k hj
    · have : Nat.blt j (c + 1) = false := by
        cases hb : Nat.blt j (c + 1) with
        | false => rfl
        | true => rw [Nat.blt_eq] at hb; exact absurd hb hj
      rw [this, cond_false]
      obtain rfl : j = c + 1 := by omega
      rfl
theorem runThR (ad ad' : Option Addr) (n m cap cap' : Nat) (v u : Nat → Nat → Int) (x : Iv) (hn : n * 48 ≤ 140737488351232) (F : Nat) : ∀ (j c fuel : Nat) (L : List Foot), c + 1 + j = n → j < fuel →
    loopTh F fuel (TTh (c + 1 : Nat)) (HTh (bodyA ad ad' n m cap cap' v u x) (out10 (.row 3 6 0 (c + 1) true) ad' m cap' u x) ++ rowTh (c + 1) (thF v (c + 1))) L (KTh F) = some (.u (.a (out10 (.row 0 6 0 n true) ad' m cap' u x)), rowTh n (thF v n))
  | 0, c, fuel + 1, L, h, _ => by
    obtain rfl : c + 1 = n := by omega
    rw [stepThR, decide_eq_false (show ¬ (((c + 1 : Nat) : Int) < ((c + 1 : Nat) : Int)) by omega), cond_false, finThR]
  | j + 1, c, fuel + 1, L, h, hf => by
    have ih := runThR ad ad' n m cap cap' v u x hn F j (c + 1) fuel ([.c 2 0 1, .r 3] ++ L) (by omega) (by omega)
    rw [stepThR, decide_eq_true (show (((c + 1 : Nat) : Int) < (n : Int)) by omega), decide_eq_true (show ((0 : Int) ≤ ((c + 1 : Nat) : Int)) by omega), decide_eq_true (Nat.le_refl (c + 1)),
      decide_eq_true (show (c + 1 + 1) * 48 ≤ 140737488355328 by omega), decide_eq_true (show c + 1 + 1 ≤ 140737488355328 by omega)]
    simp only [Bool.and_self, cond_true]
    rw [show W (((c + 1 : Nat) : Int) + 1) = ((c + 1 + 1 : Nat) : Int) by unfold W; rw [wr (by omega) (by omega)]; omega]
    exact ih
theorem theirs_ans (ad ad' : Option Addr) (n m cap cap' : Nat) (v u : Nat → Nat → Int) (x : Iv) (hn : n * 48 ≤ 140737488351232) (F : Nat) (hF : n < F) : ansA Try.prog [] [] [] F 0 Try.f10 lv10 [.u (.a (bodyA ad ad' n m cap cap' v u x))] =
    bif Nat.beq n 0 then some (.u (.a (out10 .nils ad' m cap' u x)), []) else some (.u (.a (out10 (.row 0 6 0 n true) ad' m cap' u x)), rowTh n (thF v n)) := by
  obtain ⟨G, hG⟩ : ∃ G, F = G + 1 := ⟨F - 1, by omega⟩
  rw [entryTh]
  have hstep := stepThN ad ad' n m cap cap' v u x 0 F G [.c 2 0 4]
  rw [← hG] at hstep
  rw [hstep]
  cases n with
  | zero =>
    rw [decide_eq_false (show ¬ ((0 : Int) < ((0 : Nat) : Int)) by omega), cond_false, finThN]; rfl
  | succ n =>
    rw [decide_eq_true (show ((0 : Int) < ((n + 1 : Nat) : Int)) by omega), decide_eq_true (Int.le_refl 0)]
    simp only [Bool.and_self, cond_true]
    rw [show W ((0 : Int) + 1) = ((0 + 1 : Nat) : Int) by unfold W; rw [wr (by omega) (by omega)]; rfl]
    exact runThR ad ad' (n + 1) m cap cap' v u x hn F n 0 G _ (by omega) (by omega)
/-- A result that says the same. -/
theorem runs_val {P : Program} {f : FuncId} {args : List V} {H : Heap} {v v' : V} {H' : Heap} {l : List Foot} (h : RunsTo P f args H v H' l) (hd : ∀ ρ, v'.den ρ = v.den ρ) (hs : ∀ W S, v.sc W S → v'.sc W S) (hn : v' ≠ .any) : RunsTo P f args H v' H' l :=
  ⟨h.gr, fun W S ha hH hl => ⟨hs _ _ (h.sc W S ha hH hl).1, (h.sc W S ha hH hl).2⟩, h.enter, hn, fun W S ρ w ha hH hlt hr => (h.run W S ρ w ha hH hlt hr).mono fun e w' ⟨ρ', h1, h2⟩ => ⟨ρ', by rw [hd]; exact h1, h2⟩⟩
def zz : Nat → Nat → Int := fun _ _ => 0
theorem zz_ok (W : World) (S : Nat → Prop) : C.sc W S (.as none 6 0 0 (arrC 6 zz)) := AOk.as _ _ _ _ _ (fun i hi => absurd hi (Nat.not_lt_zero i)) (fun _ => rfl) (Nat.le_refl _) (fun i j x hi => absurd hi (Nat.not_lt_zero i)) (fun i j x a hi => absurd hi (Nat.not_lt_zero i))
/-- Theirs, of a body. -/
def T7g (th : (Nat → Nat → Int) → Nat → Nat → Nat → Int) : List V → Tree
  | [.u (.a [.as ad k n cap g, .as ad' k' m cap' g', .int .i64 a, .int .i64 b])] => .test ((Nat.beq k 6 && Nat.beq k' 2) && (allN (fun j => isInts 6 (g j)) n && (allN (fun j => isInts 2 (g' j)) m && decide (n * 48 ≤ 140737488351232))))
      (.test (Nat.beq n 0) (.leaf (.u (.a (out10 (.as none 6 0 0 (arrC 6 zz)) ad' m cap' (numOf g') ⟨a, b⟩)))) (.own (.u (.a (out10 (.row 0 6 0 n true) ad' m cap' (numOf g') ⟨a, b⟩))) (rowTh n (th (numOf g) n)))) .no
  | _ => .no
theorem gkT7 : FnOk Try.prog 10 Try.f10 := fk Try.func10 (by kernel_rfl) rfl
theorem ok10' : ∀ c, Try.f10.body = some c → LoopsOk Try.prog c lv10 := fun c _ => untold fun p hp => by rw [lv10, List.mem_singleton] at hp; rw [hp]
theorem as_like {k n cap : Nat} {ad : Option Addr} {g : Nat → List C} (h : allN (fun j => isInts k (g j)) n = true) {W : World} (hs : AOk W (.as ad k n cap g)) : AOk W (.as ad k n cap (arrC k (numOf g))) := by
  have hg : ∀ j, j < n → g j = arrC k (numOf g) j := fun j hj => isInts_eq (allN_iff.1 h j hj)
  cases hs with
  | «as» _ _ _ _ _ hl hn hcap hok hcc =>
    exact AOk.as ad k n cap _ (fun i hi => by rw [← hg i hi]; exact hl i hi) hn hcap (fun i j x hi hx => hok i j x hi (by rw [hg i hi]; exact hx)) (fun i j x a hi hx ha => hcc i j x a hi (by rw [hg i hi]; exact hx) ha)
theorem E7A : ToldA Try.prog 10 (T7g thF) := ⟨fun args v H ha hg => by
  unfold T7g at hg
  split at hg
  · rename_i ad k n cap g ad' k' m cap' g' a b
    simp only [Tree.val] at hg
    cases hc : ((Nat.beq k 6 && Nat.beq k' 2) && (allN (fun j => isInts 6 (g j)) n && (allN (fun j => isInts 2 (g' j)) m && decide (n * 48 ≤ 140737488351232))))
    · rw [hc] at hg; cases hg
    rw [hc, cond_true] at hg
    simp only [Bool.and_eq_true, decide_eq_true_eq] at hc
    obtain ⟨⟨hk, hk'⟩, h1, h2, hn⟩ := hc
    have hk := Nat.eq_of_beq_eq_true hk
    have hk' := Nat.eq_of_beq_eq_true hk'
    subst hk
    subst hk'
    have hrun : ∃ l, RunsTo Try.prog 10 [.u (.a (bodyA ad ad' n m cap cap' (numOf g) (numOf g') ⟨a, b⟩))] [] v H l := by
      have ht := theirs_ans ad ad' n m cap cap' (numOf g) (numOf g') ⟨a, b⟩ hn (n + 1) (by omega)
      cases hz : Nat.beq n 0
      · rw [hz, cond_false] at hg ht
        exact ansA_runs mixed orcA_nil orc_nil fns_nil gkT7 ok10' (ht.trans hg)
      · rw [hz, cond_true] at hg ht
        obtain ⟨l, hr⟩ := ansA_runs mixed orcA_nil orc_nil fns_nil gkT7 ok10' ht
        cases hg
        refine ⟨l, runs_val hr (fun ρ => rfl) (fun W S hs => ?_) (fun e => by cases e)⟩
        have hs : ∀ z ∈ out10 .nils ad' m cap' (numOf g') ⟨a, b⟩, z.sc W S := hs
        intro z hz'
        simp only [out10, List.mem_cons, List.not_mem_nil, or_false] at hz' hs
        rcases hz' with rfl | rfl | rfl | rfl
        · exact zz_ok W S
        · exact hs _ (.inr (.inl rfl))
        · exact AOk.int _ _
        · exact AOk.int _ _
    obtain ⟨l, hr⟩ := hrun
    refine ⟨l, runs_like hr (fun ρ => rfl) fun W S hs x hx => ?_⟩
    rw [List.mem_singleton] at hx
    subst hx
    have hb := hs _ (List.mem_singleton.2 rfl)
    have hb : ∀ z ∈ [C.as ad 6 n cap g, C.as ad' 2 m cap' g', C.int .i64 a, C.int .i64 b], z.sc W S := hb
    intro z hz
    simp only [bodyA, List.mem_cons, List.not_mem_nil, or_false] at hz
    rcases hz with rfl | rfl | rfl | rfl
    · exact as_like h1 (hb _ (List.mem_cons_self ..))
    · exact as_like h2 (hb _ (List.mem_cons_of_mem _ (List.mem_cons_self ..)))
    · exact AOk.int _ _
    · exact AOk.int _ _
  · cases hg⟩
end Go.Proofs.Ytbgdfikfldkjbaa.AI
