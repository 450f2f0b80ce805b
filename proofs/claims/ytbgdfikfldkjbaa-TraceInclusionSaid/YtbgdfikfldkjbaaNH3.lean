/- Two texts, laid into one by mkclaim.py. -/
import Derived.Test.YtbgdfikfldkjbaaNH2
section
/- trace.Hit, told. -/
namespace Go.Proofs.Ytbgdfikfldkjbaa.AI
set_option linter.unnecessarySimpa false
open Go
set_option linter.unusedVariables false
set_option linter.unusedSimpArgs false
theorem pre_eq : Code.seq (.seq (.seq (fstC body11) (fstC (sndC body11))) (fstC (sndC (sndC body11)))) (fstC (sndC (sndC (sndC body11)))) = pre11 := by unfold pre11; rfl
theorem hit_pre (ad ad' : Option Addr) (n m cap cap' : Nat) (v u : Nat → Nat → Int) (x : Iv) (r : Ray) (F : Nat) : code11 F body11 ([bodyV ad ad' n m cap cap' v u x, rayV r] ++ undefs 101) [] [] kfin11 =
    bif allN (fun j => isInts 6 (arrC 6 v j)) n then bif allN (fun j => isInts 2 (arrC 2 u j)) m then
      bif !validB n m (numOf (arrC 6 v)) (numOf (arrC 2 u)) x then hitR 0 0 0 1 else bif !(r.pt.v && r.dir.v) then hitR 0 0 0 1 else
      code11 F tail5 (T5 (mkB ad ad' n m cap cap' v u x).c r (validB n m (numOf (arrC 6 v)) (numOf (arrC 2 u)) x) (r.pt.v && r.dir.v)) (H5 (mkB ad ad' n m cap cap' v u x).c r) [.c 6 0 1] kfin11
    else none else none := by
  generalize hT : ([bodyV ad ad' n m cap cap' v u x, rayV r] ++ undefs 101) = T0
  rw [body11_eq, assoc11, assoc11, assoc11, pre_eq, seq11, ← hT]
  exact e11 ad ad' n m cap cap' v u x r F (fun T H L => code11 F tail5 T H L kfin11)

def hitS' (s : HG) : Er (Int × Iv) :=
  bif !decide (s.e = 0) then .error (s.e.toNat - 1) else
  bif Nat.beq s.n 0 then .error 6 else bif decide (s.b < 0) then .error 19 else bif ambG s.f s.b.toNat 0 s.n then .error 19 else
  bif !vI (s.f s.b.toNat).least (s.f s.b.toNat).most then .error 2
  else .ok ((s.f s.b.toNat).face, ⟨(s.f s.b.toNat).least, (s.f s.b.toNat).most⟩)
theorem resH_err (e : Nat) : (resH (.error e)).val = hitR 0 0 0 (Int.ofNat (e + 1)) := rfl
theorem resH_ok (a b c : Int) : (resH (.ok (a, ⟨b, c⟩))).val = hitR a b c 0 := rfl
theorem hit_mid (B : BodyR) (r : Ray) (s : HG) (F : Nat) (hF : 100000 < F) (Tx : List V) (Hx : Heap) (L L1 : List Foot) (hb : s.b < Int.ofNat s.n) (hn : s.n ≤ 100000) (hpos : 0 ≤ s.e)
    (h5 : ∀ k : KT (V × Heap), code11 F (fstC tail5) Tx Hx L k = bif !decide (s.e = 0) then bif Nat.beq s.n 0 then k .ret T11 (HB B.c B.c r r 0 0 0 s.e .nils s.b) L1 else k .ret T11 (HR1 B B r r 0 0 0 s.e s.n s.f s.b) L1
      else bif Nat.beq s.n 0 then k .normal T11 (HB B.c B.c r r 0 0 0 0 .nils s.b) L1 else k .normal T11 (HR1 B B r r 0 0 0 0 s.n s.f s.b) L1) : code11 F tail5 Tx Hx L kfin11 = (resH (hitS' s)).val := by
  rw [tail5_eq]
  unfold hitS'
  cases he : decide (s.e = 0)
  · have hne : s.e ≠ 0 := by simpa using he
    rw [he] at h5
    simp only [Bool.not_false, cond_true] at h5 ⊢
    rw [resH_err, show Int.ofNat (s.e.toNat - 1 + 1) = s.e by simp only [Int.ofNat_eq_natCast]; omega]
    cases hz : Nat.beq s.n 0
    · rw [hz] at h5
      simp only [cond_false] at h5
      rw [seq_ret h5, ret_row]
    · rw [hz] at h5
      simp only [cond_true] at h5
      rw [seq_ret h5, ret_nil]
  · rw [he] at h5
    simp only [Bool.not_true, cond_false] at h5 ⊢
    cases hz : Nat.beq s.n 0
    · have hz' : s.n ≠ 0 := fun e => by rw [e] at hz; cases hz
      rw [hz] at h5
      simp only [cond_false] at h5 ⊢
      rw [seq_go h5, tail_eq B B r r s hb hn hz' F hF]
      unfold goHit
      rw [hz]
      simp only [cond_false]
      cases decide (s.b < 0)
      · cases ambG s.f s.b.toNat 0 s.n
        · cases vI (s.f s.b.toNat).least (s.f s.b.toNat).most
          · rfl
          · simp only [cond_false, Bool.not_true]; rw [resH_ok]
        · rfl
      · rfl
    · rw [hz] at h5
      simp only [cond_true] at h5 ⊢
      rw [seq_go h5, a12n']
      rfl

theorem hob_eq (ad ad' : Option Addr) (n m cap cap' : Nat) (v u : Nat → Nat → Int) (x : Iv) (r : Ray) : hitOf (mkB ad ad' n m cap cap' v u x) r = hitS v u r n := by
  unfold hitOf hitS mkB
  simp only
  rw [tgs_arr]
theorem hitE_eq (n m : Nat) (v u : Nat → Nat → Int) (x : Iv) (r : Ray) : hitE n m v u x r = bif !validB n m v u x then .error 0 else bif !(r.pt.v && r.dir.v) then .error 0 else hitS' (hitS v u r n) := by
  unfold hitE hitS'
  rfl
theorem ok6_mk {n m : Nat} (hn : n ≤ 100) (hm : m = n) (ad ad' : Option Addr) (cap cap' : Nat) (v u : Nat → Nat → Int) (x : Iv) : ok6 (mkB ad ad' n m cap cap' v u x) = true := by
  unfold ok6 mkB
  simp only
  rw [allN_iff.2 fun j (_ : j < n) => isInts_arr 6 v j, allN_iff.2 fun j (_ : j < m) => isInts_arr 2 u j, decide_eq_true (show n ≤ 100000 by omega), decide_eq_true (show n ≤ m by omega)]
  rfl

theorem e5ok (ad ad' : Option Addr) (n m cap cap' : Nat) (v u : Nat → Nat → Int) (x : Iv) (r : Ray) (F : Nat) (L : List Foot) (hn : n ≤ 100) (hm : m = n) (k : KT (V × Heap)) : code11 F (fstC tail5) (T5 (mkB ad ad' n m cap cap' v u x).c r true true) (H5 (mkB ad ad' n m cap cap' v u x).c r) L k =
    bif !decide ((hitS v u r n).e = 0) then bif Nat.beq (hitS v u r n).n 0 then k .ret T11 (HB (mkB ad ad' n m cap cap' v u x).c (mkB ad ad' n m cap cap' v u x).c r r 0 0 0 (hitS v u r n).e .nils (hitS v u r n).b) (L11 ++ L) else k .ret T11 (HR1 (mkB ad ad' n m cap cap' v u x) (mkB ad ad' n m cap cap' v u x) r r 0 0 0 (hitS v u r n).e (hitS v u r n).n (hitS v u r n).f (hitS v u r n).b) (L11 ++ L)
      else bif Nat.beq (hitS v u r n).n 0 then k .normal T11 (HB (mkB ad ad' n m cap cap' v u x).c (mkB ad ad' n m cap cap' v u x).c r r 0 0 0 0 .nils (hitS v u r n).b) (L11 ++ L) else k .normal T11 (HR1 (mkB ad ad' n m cap cap' v u x) (mkB ad ad' n m cap cap' v u x) r r 0 0 0 0 (hitS v u r n).n (hitS v u r n).f (hitS v u r n).b) (L11 ++ L) := by
  have h := e5 ad ad' n m cap cap' v u x r true true F L k
  rw [ok6_mk hn hm, cond_true, hob_eq] at h
  exact h

theorem hit_ok (ad ad' : Option Addr) (n m cap cap' : Nat) (v u : Nat → Nat → Int) (x : Iv) (r : Ray) (F : Nat) (hF : 100000 < F) (L : List Foot) (hn : n ≤ 100) (hm : m = n) : code11 F tail5 (T5 (mkB ad ad' n m cap cap' v u x).c r true true) (H5 (mkB ad ad' n m cap cap' v u x).c r) L kfin11 = (resH (hitS' (hitS v u r n))).val := by
  have inv := hitGo_inv (tgs v u r n 0) 0 (fun _ => ⟨0, 0, 0, false, 0⟩) (-1) (by omega) (by decide)
  have hlen := tgs_len v u r n 0
  exact hit_mid (mkB ad ad' n m cap cap' v u x) r (hitS v u r n) F hF _ _ _ _ inv.2.1 (Nat.le_trans inv.2.2 (by omega)) (hitGo_pos (tgs v u r n 0) 0 (fun _ => ⟨0, 0, 0, false, 0⟩) (-1) (tgs_pos v u r n 0)) (e5ok ad ad' n m cap cap' v u x r F L hn hm)
theorem hit_fin {A X : R} {e : Er (Int × Iv)} {i1 i2 vv rv : Bool} (h : A = bif i1 then bif i2 then bif !vv then hitR 0 0 0 1 else bif !rv then hitR 0 0 0 1 else X else none else none) (h1 : i1 = true) (h2 : i2 = true) (hX : vv = true → rv = true → X = (resH e).val) : A = (resH (bif !vv then .error 0 else bif !rv then .error 0 else e)).val := by
  rw [h, h1, h2]
  cases vv
  · rfl
  cases rv
  · rfl
  exact hX rfl rfl
theorem hit_eq (ad ad' : Option Addr) (n m cap cap' : Nat) (v u : Nat → Nat → Int) (x : Iv) (r : Ray) (F : Nat) (hF : 100000 < F) : code11 F body11 ([bodyV ad ad' n m cap cap' v u x, rayV r] ++ undefs 101) [] [] kfin11 = (resH (hitE n m v u x r)).val := by
  have h0 := hit_pre ad ad' n m cap cap' v u x r F
  have e := hitE_eq n m v u x r
  rw [e]
  rw [← valid_arr n m v u x]
  refine hit_fin h0 (allN_iff.2 fun j (_ : j < n) => isInts_arr 6 v j) (allN_iff.2 fun j (_ : j < m) => isInts_arr 2 u j) fun hv hr => ?_
  rw [hv, hr]
  rw [valid_arr] at hv
  have hnm : n ≤ 100 ∧ m = n := by
    unfold validB at hv
    simp only [Bool.and_eq_true, decide_eq_true_eq] at hv
    exact ⟨hv.1.2.1, hv.1.2.2.1⟩
  exact hit_ok ad ad' n m cap cap' v u x r F hF _ hnm.1 hnm.2

theorem k11 : FnOk Try.prog 11 Try.f11 := fk Try.func11 (by kernel_rfl) rfl
theorem k28 : FnOk Try.prog 28 Try.f28 := fk Try.func28 (by kernel_rfl) rfl
theorem loops11 : loops (Try.f11.body.getD .skip) = [body17] := by kernel_rfl
theorem ranges11 : ranges (Try.f11.body.getD .skip) = [range11] := by kernel_rfl
theorem key17 : keyOf body17 = some 17 := by kernel_rfl
theorem key6 : keyR range11 = some 6 := by kernel_rfl
theorem ok11 : ∀ c, Try.f11.body = some c → LoopsOk Try.prog c lv11 := by
  intro c hc
  have h1 := loops11
  have h2 := ranges11
  rw [hc] at h1 h2
  rw [show loops ((some c).getD .skip) = loops c from rfl] at h1
  rw [show ranges ((some c).getD .skip) = ranges c from rfl] at h2
  refine ⟨fun b hb i v g hk hv hg => ?_, fun x hx i v g hk hv hg => ?_⟩
  · rw [h1, List.mem_singleton] at hb
    subst hb
    rw [key17] at hk
    cases hk
    cases hv
    cases hg
  · rw [h2, List.mem_singleton] at hx
    subst hx
    rw [key6] at hk
    cases hk
    cases hv
    cases hg
    exact told6
theorem orcT11_ok : OrcOk Try.prog orcT11 := orc_cons E26 (orc_cons E27 (orc_cons E29 orc_nil))
def F11 : List A → Tree
  | [.a [.s k n v, .s k' m u, .i a, .i b], .a [.i a1, .i b1, .i a2, .i b2, .i a3, .i b3, .i c1, .i d1, .i c2, .i d2, .i c3, .i d3]] => .test (Nat.beq k 6 && Nat.beq k' 2) (resH (hitE n m v u ⟨a, b⟩ ⟨⟨⟨a1, b1⟩, ⟨a2, b2⟩, ⟨a3, b3⟩⟩, ⟨⟨c1, d1⟩, ⟨c2, d2⟩, ⟨c3, d3⟩⟩⟩)) .no
  | _ => .no
theorem F11_val {l : List A} {x : V × Heap} (h : (F11 l).val = some x) : ∃ n m v u a b a1 b1 a2 b2 a3 b3 c1 d1 c2 d2 c3 d3, l = [.a [.s 6 n v, .s 2 m u, .i a, .i b], .a [.i a1, .i b1, .i a2, .i b2, .i a3, .i b3, .i c1, .i d1, .i c2, .i d2, .i c3, .i d3]] ∧ (resH (hitE n m v u ⟨a, b⟩ ⟨⟨⟨a1, b1⟩, ⟨a2, b2⟩, ⟨a3, b3⟩⟩, ⟨⟨c1, d1⟩, ⟨c2, d2⟩, ⟨c3, d3⟩⟩⟩)).val = some x := by
  unfold F11 at h
  split at h
  · rename_i k n v k' m u a b a1 b1 a2 b2 a3 b3 c1 d1 c2 d2 c3 d3
    simp only [Tree.val] at h
    cases hc : (Nat.beq k 6 && Nat.beq k' 2)
    · rw [hc] at h; cases h
    rw [hc, cond_true] at h
    simp only [Bool.and_eq_true] at hc
    have hk := Nat.eq_of_beq_eq_true hc.1
    have hf := Nat.eq_of_beq_eq_true hc.2
    subst hk
    subst hf
    exact ⟨n, m, v, u, a, b, a1, b1, a2, b2, a3, b3, c1, d1, c2, d2, c3, d3, rfl, h⟩
  · cases h
/-- Arguments in the shape of a body. -/
theorem real_body {n m : Nat} {v u : Nat → Nat → Int} {a b : Int} {x : V} (h : RealA (.a [.s 6 n v, .s 2 m u, .i a, .i b]) x) : ∃ ad ad' cap cap', x = bodyV ad ad' n m cap cap' v u ⟨a, b⟩ := by
  cases h with
  | a h =>
    cases h with
    | cons c1 h =>
      cases h with
      | cons c2 h =>
        cases h with
        | cons c3 h =>
          cases h with
          | cons c4 h =>
            cases h
            cases c3
            cases c4
            cases c1
            cases c2
            exact ⟨_, _, _, _, rfl⟩
theorem real_ints : ∀ {l : List Int} {cs : List C}, RealCs (l.map .i) cs → cs = l.map (.int .i64)
  | [], cs, h => by cases h; rfl
  | n :: l, cs, h => by
    cases h with
    | cons h1 h2 =>
      cases h1
      rw [real_ints h2]; rfl
theorem real_ray {a1 b1 a2 b2 a3 b3 c1 d1 c2 d2 c3 d3 : Int} {x : V} (h : RealA (.a [.i a1, .i b1, .i a2, .i b2, .i a3, .i b3, .i c1, .i d1, .i c2, .i d2, .i c3, .i d3]) x) : x = rayV ⟨⟨⟨a1, b1⟩, ⟨a2, b2⟩, ⟨a3, b3⟩⟩, ⟨⟨c1, d1⟩, ⟨c2, d2⟩, ⟨c3, d3⟩⟩⟩ := by
  cases h with
  | a h => rw [real_ints (l := [a1, b1, a2, b2, a3, b3, c1, d1, c2, d2, c3, d3]) h]; rfl
theorem resH_flat {e : Er (Int × Iv)} {x : V × Heap} (h : (resH e).val = some x) : ∃ y, flatV y = true ∧ x = (y, []) := by
  unfold resH at h
  simp only [Tree.val] at h
  cases he : okE e
  · rw [he] at h; cases h; exact ⟨_, rfl, rfl⟩
  · rw [he] at h; cases h; exact ⟨_, rfl, rfl⟩
theorem E11 : Told Try.prog 11 (fun args => argsT args F11) := by
  refine told_args (fuel := 100001) (d := 6) (orc := orcT11) (fns := [(11, Try.f11, lv11), (28, Try.f28, [])]) mixed orcT11_ok (fns_loops k11 ok11 (fns_cons k28 fns_nil)) k11.enter (args_flat fun l x h => ?_) fun l x h args hr => ?_
  · obtain ⟨n, m, v, u, a, b, a1, b1, a2, b2, a3, b3, c1, d1, c2, d2, c3, d3, _, h⟩ := F11_val h
    exact resH_flat h
  · obtain ⟨n, m, v, u, a, b, a1, b1, a2, b2, a3, b3, c1, d1, c2, d2, c3, d3, rfl, h'⟩ := F11_val h
    cases hr with
    | cons r1 t =>
      cases t with
      | cons r2 t =>
        cases t
        obtain ⟨ad, ad', cap, cap', rfl⟩ := real_body r1
        rw [real_ray r2]
        exact ((ans11 _ _ _).trans (hit_eq ad ad' n m cap cap' v u ⟨a, b⟩ _ 100001 (by omega))).trans h'
end Go.Proofs.Ytbgdfikfldkjbaa.AI
end
section
/- The example that every statement checks first. -/
namespace Go.Proofs.Ytbgdfikfldkjbaa.AI
set_option linter.unnecessarySimpa false
open Go
set_option linter.unusedVariables false
set_option linter.unusedSimpArgs false
noncomputable def orcK : List (FuncId × (List V → Tree)) := [(11, fun args => argsT args F11), (26, fun args => argsT args F26), (27, shT [some 12] (P12 fun r => truT (r.pt.v && r.dir.v))), (29, s1v), (42, s122 fun r k => resB (moveE r k)), (43, s662 fun d n r => resN (hitsE d n r)), (45, s66 fun d n => resB (reflE d n)), (66, s662 fun d n r => resF (refrE d n r)), (67, s2222 fun p q r s => resT (lightE p q r s)), (69, sh2 mulE), (70, s1s Iv.sgn)]
theorem orcK_ok : OrcOk Try.prog orcK := orc_cons E11 (orc_cons E26 (orc_cons E27 (orc_cons E29 (orc_cons E42 (orc_cons E43 (orc_cons E45 (orc_cons E66 (orc_cons E67 (orc_cons E69 (orc_cons E70 orc_nil))))))))))
noncomputable def fnsK : List (FuncId × Func × List (Nat × LV)) := [(8, Try.f8, []), (22, Try.f22, []), (23, Try.f23, []), (25, Try.f25, []), (44, Try.f44, []), (68, Try.f68, [])]
theorem a8 : ans Try.prog orcK fnsK 9 9 8 [] = some (.u (.c (.bool true)), []) := by kernel_rfl
end Go.Proofs.Ytbgdfikfldkjbaa.AI
end
