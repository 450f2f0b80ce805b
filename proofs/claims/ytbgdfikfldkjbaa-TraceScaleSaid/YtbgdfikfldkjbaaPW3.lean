/- TraceScale: what its text answers, at every input that is said. -/
import Derived.Test.YtbgdfikfldkjbaaPW2
namespace Go.Proofs.Ytbgdfikfldkjbaa.AI
set_option linter.unnecessarySimpa false
open Go
set_option linter.unusedVariables false
set_option linter.unusedSimpArgs false
theorem all4_eq : all4 = .seq (fstC all4) (.seq (fstC (sndC all4)) (.seq few4 run4)) := by kernel_rfl
theorem ans4 (hf : HF) (nb : Iv → Bool) (tw : Iv → Iv) (b : List C) (r : Ray) (F : Nat) : ans Try.prog (orc4 hf nb tw) fns4 F 6 4 [.u (.a b), rayV r] = code4 (orc4 hf nb tw) F all4 ([.u (.a b), rayV r] ++ undefs 126) [] [] kfin4 := by kernel_rfl
theorem scale_code (hf : HF) (nb : Iv → Bool) (tw : Iv → Iv) (ad ad' : Option Addr) (n m cap cap' : Nat) (v u : Nat → Nat → Int) (x : Iv) (r : Ray) (F : Nat) (hn : n * 48 ≤ 140737488351232) (hF : n < F) (hF' : m < F)
    (ha : nb r.pt.x = true → nb r.pt.y = true → nb r.pt.z = true → Ask hf nb tw n m v u x r) (hz : m = 0 → okE (hf n m (numOf (arrC 6 v)) (numOf (arrC 2 u)) x r) = true → False) : ans Try.prog (orc4 hf nb tw) fns4 F 6 4 [.u (.a (bodyA ad ad' n m cap cap' v u x)), rayV r] = tru true := by
  rw [ans4, all4_eq]
  refine (codeA_assoc (P := Try.prog) (call := env Try.prog (orc4 hf nb tw) fns4 F 5) (fuel := F) (lvs := lv4) (fstC all4) (fstC (sndC all4)) (.seq few4 run4) ([.u (.a (bodyA ad ad' n m cap cap' v u x)), rayV r] ++ undefs 126) [] [] kfin4).trans ?_
  have h1 := fun k : KT (V × Heap) => e4pre hf nb tw ad ad' n m cap cap' v u x r F k
  refine (show code4 (orc4 hf nb tw) F (.seq pre4 (.seq few4 run4)) _ [] [] kfin4 = _ from h1 _).trans ?_
  refine (show code4 (orc4 hf nb tw) F (.seq few4 run4) _ _ [] kfin4 = code4 (orc4 hf nb tw) F few4 _ _ [] (k4 (orc4 hf nb tw) F) from rfl).trans ?_
  refine (e4few _ ad ad' n m cap cap' v u x r F _).trans ?_
  refine (env10' hf nb tw (bodyA ad ad' n m cap cap' v u x) _ F _).trans ?_
  rw [all10_eq]
  refine (codeA_assoc _ _ _ _ _ _ _).trans ?_
  refine (codeA_assoc _ _ _ _ _ _ _).trans ?_
  have fin : ∀ Y : R, (m ≤ 20 → nb r.pt.x = true → nb r.pt.y = true → nb r.pt.z = true → Y = tru true) → (bif !decide ((m : Int) ≤ 20) then tru true else bif !nb r.pt.x then tru true else bif !nb r.pt.y then tru true else bif !nb r.pt.z then tru true else Y) = tru true := fun Y hY => by
    cases hm : decide ((m : Int) ≤ 20)
    · rfl
    cases h1 : nb r.pt.x
    · rfl
    cases h2 : nb r.pt.y
    · rfl
    cases h3 : nb r.pt.z
    · rfl
    exact hY (by have : (m : Int) ≤ 20 := by simpa using hm
                 omega) h1 h2 h3
  refine theirs_run (env Try.prog (orc4 hf nb tw) fns4 F 4) ad ad' n m cap cap' v u x r hn F hF _ (tru true) (fun _ L => ?_) (fun _ f L => ?_) []
  · refine (entry4n hf nb tw ad ad' n m cap cap' v u x r F L).trans ?_
    exact fin _ fun hm h1 h2 h3 => all4n hf nb tw ad ad' n m cap cap' v u x r hm F hF' (ha h1 h2 h3) hz _
  · refine (entry4r hf nb tw ad ad' n m cap cap' v u x r f F L).trans ?_
    cases hnn : decide ((n : Int) ≤ 20)
    · exact bft _ _
    · refine (btt _ _).trans ?_
      exact fin _ fun hm h1 h2 h3 => all4r hf nb tw ad ad' n m cap cap' v u x r f hm F hF' (ha h1 h2 h3) hz _
/-! The plain law, joined. -/
theorem narB_iff {x : Iv} : narB x = true ↔ x.lo = x.hi ∧ x.lo ≤ 134217728 ∧ -134217728 ≤ x.lo := by simp [narB, Bool.and_eq_true]
theorem tw_lo {x : Iv} (h : narB x = true) : (twI x).lo = 2 * x.lo := by
  rw [narB_iff] at h
  show W (2 * x.lo) = 2 * x.lo
  unfold W
  exact wr (by omega) (by omega)
theorem scale_ask {n m : Nat} {v u : Nat → Nat → Int} {x : Iv} {r : Ray} (h1 : narB r.pt.x = true) (h2 : narB r.pt.y = true) (h3 : narB r.pt.z = true) : Ask hitE narB twI n m v u x r := by
  intro g hg hok
  rw [hitE_arr] at hok ⊢
  rw [hitE_arr]
  unfold sc4
  cases hk : okE (hitE n m v g x (dblR twI r))
  · rfl
  obtain ⟨e1, e2, e3, e4⟩ := scale_same (n := n) (m := m) (v := v) (u := u) (u2 := g) (x := x) (r := r) (r2 := dblR twI r) (fun j hj => by
    obtain ⟨a, b, _⟩ := hg j hj
    rw [b, tw_lo a]
    rfl) rfl (tw_lo h1) (tw_lo h2) (tw_lo h3) hok hk
  rw [vI_iff] at e4
  have w1 : W (2 * (getE (0, iv0) (hitE n m v u x r)).2.hi) = 2 * (getE (0, iv0) (hitE n m v u x r)).2.hi := by unfold W; exact wr (by omega) (by omega)
  have w2 : W (2 * (getE (0, iv0) (hitE n m v u x r)).2.lo) = 2 * (getE (0, iv0) (hitE n m v u x r)).2.lo := by unfold W; exact wr (by omega) (by omega)
  rw [w1, w2, decide_eq_true e1, decide_eq_true e2, decide_eq_true e3]
  rfl
theorem scale_zero {n m : Nat} {v u : Nat → Nat → Int} {x : Iv} {r : Ray} (hm : m = 0) (h : okE (hitE n m (numOf (arrC 6 v)) (numOf (arrC 2 u)) x r) = true) : False := by
  rw [hitE_arr] at h
  obtain ⟨hv, _⟩ := hit_ok3 h
  simp only [validB, Bool.and_eq_true, decide_eq_true_eq] at hv
  omega
theorem k4_ : FnOk Try.prog 4 Try.f4 := fk Try.func4 (by kernel_rfl) rfl
theorem ok4 : ∀ c, Try.f4.body = some c → LoopsOk Try.prog c lv4 := fun c _ => untold fun p hp => by rw [lv4, List.mem_singleton] at hp; rw [hp]
theorem fns4_ok : FnsOk Try.prog fns4 := fns_loops k4_ ok4 (fns_cons k9 (fns_loops k10 ok10 fns_nil))
theorem orc4_ok : OrcOk Try.prog (orc4 hitE narB twI) := orc_cons E8 (orc_cons (told_fix E11) (orc_cons E15 (orc_cons E16 orc_nil)))
theorem scale_calls (ad ad' : Option Addr) (n m cap cap' : Nat) (v u : Nat → Nat → Int) (x : Iv) (r : Ray) (hn : n * 48 ≤ 140737488351232) (w : World) (h1 : AOk w (.as ad 6 n cap (arrC 6 v))) (h2 : AOk w (.as ad' 2 m cap' (arrC 2 u))) :
    Calls Try.prog 4 (([.u (.a (bodyA ad ad' n m cap cap' v u x)), rayV r] : List V).map (V.den fun _ => ri0)).toArray w fun e w' => e = .returned (.bool true) ∧ RowKit.Below w.heap.size w w' := by
  have h := scale_code hitE narB twI ad ad' n m cap cap' v u x r (n + m + 1) hn (by omega) (by omega) (fun a b c => scale_ask a b c) scale_zero
  refine ans_calls mixed orc4_ok fns4_ok h (fun y hy => ?_) _ (fun y hy => ?_)
  · simp only [List.mem_cons, List.not_mem_nil, or_false] at hy
    rcases hy with rfl | rfl
    · exact ⟨rfl, fun e => by cases e⟩
    · exact ⟨rfl, fun e => by cases e⟩
  · simp only [List.mem_cons, List.not_mem_nil, or_false] at hy
    rcases hy with rfl | rfl
    · intro z hz
      simp only [bodyA, List.mem_cons, List.not_mem_nil, or_false] at hz
      rcases hz with rfl | rfl | rfl | rfl
      · exact h1
      · exact h2
      · exact AOk.int _ _
      · exact AOk.int _ _
    · exact rayC_sc r w _
end Go.Proofs.Ytbgdfikfldkjbaa.AI
