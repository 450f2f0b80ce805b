/- The reference's Valid and Hit, told. -/
import Derived.Test.YtbgdfikfldkjbaaGreatGF
namespace Go.Proofs.YtbgdfikfldkjbaaGreat.AI
set_option linter.unnecessarySimpa false
open Go
set_option linter.unusedVariables false
set_option linter.unusedSimpArgs false
/-! Hit. -/
noncomputable def allH14 : Code := Tryz.f14.body.getD .skip
noncomputable def bodyH1 : Code := loopOf Tryz.f14 0
noncomputable def bodyH2 : Code := loopOf Tryz.f14 1
def lvH14 : List (Nat × LV) := [(10, ⟨[4, 5, 6, 7, 9, 10], [4, 5, 6, 7, 9], [], none⟩), (17, ⟨[4, 5, 6, 7, 9, 11], [4, 5, 6, 7, 9], [], none⟩)]
noncomputable def orcH14 (val : Nat → Nat → (Nat → Nat → Int) → (Nat → Nat → Int) → Iv → Bool) (ray : Ray → Bool) (re : ReF) : List (FuncId × (List V → Tree)) := [(16, fun args => argsT args (F26g val)), (27, shT [some 12] (P12 fun r => truT (ray r))), (35, fun args => argsT args (F35r re))]
noncomputable def fnsH14 : List (FuncId × Func × List (Nat × LV)) := [(14, Tryz.f14, lvH14)]
noncomputable abbrev envH14 {α : Type} (val : Nat → Nat → (Nat → Nat → Int) → (Nat → Nat → Int) → Iv → Bool) (ray : Ray → Bool) (re : ReF) (F : Nat) : CallT α := env Tryz.prog (orcH14 val ray re) fnsH14 F 2
noncomputable abbrev loopH1 {α : Type} (call : CallT α) (F fuel : Nat) (T : List V) (H : Heap) (L : List Foot) (K : KT α) : Option α := loopA 4 [4, 5, 6, 7, 9, 10] [4, 5, 6, 7, 9] (codeA Tryz.prog call F lvH14 bodyH1) fuel T H L K
noncomputable abbrev loopH2 {α : Type} (call : CallT α) (F fuel : Nat) (T : List V) (H : Heap) (L : List Foot) (K : KT α) : Option α := loopA 4 [4, 5, 6, 7, 9, 11] [4, 5, 6, 7, 9] (codeA Tryz.prog call F lvH14 bodyH2) fuel T H L K
def TH1 (c : Nat) (b i : Int) : List V := TT 113 [(4, .u (ui 0)), (5, .u (.c (.ptr 2 0))), (6, .u (ui 0)), (7, .u (.c (.row 3 4 0 c true))), (9, .u (ui b)), (10, .u (ui i))]
def TH2 (c : Nat) (b i : Int) : List V := TT 113 [(4, .u (ui 0)), (5, .u (.c (.ptr 2 0))), (6, .u (ui 0)), (7, .u (.c (.row 3 4 0 c true))), (9, .u (ui b)), (11, .u (ui i))]
def THo (c : Nat) (b : Int) : List V := TT 113 [(4, .u (ui 0)), (5, .u (.c (.ptr 2 0))), (6, .u (ui 0)), (7, .u (.c (.row 3 4 0 c true))), (9, .u (ui b))]
def HH (ad ad' : Option Addr) (n m cap cap' : Nat) (v u : Nat → Nat → Int) (x : Iv) (r : Ray) (c : Nat) (f : Nat → Tg) : Heap := [some (.cells (bodyA ad ad' n m cap cap' v u x)), some (.cells (rayC r)), some (.cells [ci 0, ci 0]), some (.row 95 4 c (fun j => rcC (f j)) true)]
def idxG {α : Type} (b : Int) (n : Nat) (X : Option α) : Option α := bif decide (0 ≤ b) && decide (b < n) then bif decide (0 + b.toNat < n) then X else none else none
theorem stepH1 {α : Type} (call : CallT α) (ad ad' : Option Addr) (n m cap cap' : Nat) (v u : Nat → Nat → Int) (x : Iv) (r : Ray) (c : Nat) (f : Nat → Tg) (i best : Int) (F fuel : Nat) (L : List Foot) (K : KT α) :
    loopH1 call F (fuel + 1) (TH1 c best i) (HH ad ad' n m cap cap' v u x r c f) L K =
    bif decide (i < c) then idxG i c (bif (f (0 + i.toNat)).sure then bif decide (best < 0) then loopH1 call F fuel (TH1 c i (W (i + 1))) (HH ad ad' n m cap cap' v u x r c f) L K else
      idxG i c (idxG best c (bif decide ((f (0 + i.toNat)).most < (f (0 + best.toNat)).most) then loopH1 call F fuel (TH1 c i (W (i + 1))) (HH ad ad' n m cap cap' v u x r c f) L K else loopH1 call F fuel (TH1 c best (W (i + 1))) (HH ad ad' n m cap cap' v u x r c f) L K))
      else loopH1 call F fuel (TH1 c best (W (i + 1))) (HH ad ad' n m cap cap' v u x r c f) L K)
    else K (.exit 0) (THo c best) (HH ad ad' n m cap cap' v u x r c f) L := by kernel_rfl
noncomputable def tail7H : Code := sndC (sndC (sndC (sndC (sndC (sndC (sndC allH14))))))
noncomputable def tail9H : Code := sndC (sndC tail7H)
noncomputable def kblkN {α : Type} (j : Nat) (k : KT α) : KT α := fun ex T H L => match ex with
  | .exit i => cond (i == j) (k .normal T H L) (k (.exit i) T H L)
  | e => k e T H L
noncomputable def KH2 (call : CallT (V × Heap)) (F : Nat) : KT (V × Heap) := kblkN 2 (kseq call F lvH14 tail9H (kfinA Tryz.f14))
noncomputable def KH1 (call : CallT (V × Heap)) (F : Nat) : KT (V × Heap) := kblkN 0 (kseq call F lvH14 tail7H (kfinA Tryz.f14))
theorem stepH2 (call : CallT (V × Heap)) (ad ad' : Option Addr) (n m cap cap' : Nat) (v u : Nat → Nat → Int) (x : Iv) (r : Ray) (c : Nat) (f : Nat → Tg) (i best : Int) (F fuel : Nat) (L : List Foot) :
    loopH2 call F (fuel + 1) (TH2 c best i) (HH ad ad' n m cap cap' v u x r c f) L (KH2 call F) =
    bif decide (i < c) then bif !decide (i = best) then idxG i c (idxG best c (bif decide ((f (0 + i.toNat)).least ≤ (f (0 + best.toNat)).most) then hitR 0 0 0 20 else loopH2 call F fuel (TH2 c best (W (i + 1))) (HH ad ad' n m cap cap' v u x r c f) L (KH2 call F)))
      else loopH2 call F fuel (TH2 c best (W (i + 1))) (HH ad ad' n m cap cap' v u x r c f) L (KH2 call F)
    else KH2 call F (.exit 2) (THo c best) (HH ad ad' n m cap cap' v u x r c f) L := by kernel_rfl
theorem endH1 (call : CallT (V × Heap)) (ad ad' : Option Addr) (n m cap cap' : Nat) (v u : Nat → Nat → Int) (x : Iv) (r : Ray) (c : Nat) (f : Nat → Tg) (best : Int) (F : Nat) (L : List Foot) :
    KH1 call F (.exit 0) (THo c best) (HH ad ad' n m cap cap' v u x r c f) L = bif decide (best < 0) then hitR 0 0 0 20 else loopH2 call F F (TH2 c best 0) (HH ad ad' n m cap cap' v u x r c f) L (KH2 call F) := by kernel_rfl
theorem endH2 (call : CallT (V × Heap)) (ad ad' : Option Addr) (n m cap cap' : Nat) (v u : Nat → Nat → Int) (x : Iv) (r : Ray) (c : Nat) (f : Nat → Tg) (best : Int) (F : Nat) (L : List Foot) :
    KH2 call F (.exit 2) (THo c best) (HH ad ad' n m cap cap' v u x r c f) L = idxG best c (bif decide (1073741824 < (f (0 + best.toNat)).most) then hitR 0 0 0 3 else idxG best c (idxG best c (idxG best c (hitR (f (0 + best.toNat)).face (f (0 + best.toNat)).least (f (0 + best.toNat)).most 0)))) := by kernel_rfl
def preRe (n m : Nat) (e : Er (Nat × (Nat → Tg))) (X : R) : R := bif decide (n ≤ m) && decide (n ≤ 1000) then bif okE e then X else hitR 0 0 0 (Int.ofNat (erE e + 1)) else none
theorem entryH (val : Nat → Nat → (Nat → Nat → Int) → (Nat → Nat → Int) → Iv → Bool) (ray : Ray → Bool) (re : ReF) (ad ad' : Option Addr) (n m cap cap' : Nat) (v u : Nat → Nat → Int) (x : Iv) (r : Ray) (F : Nat) : ans Tryz.prog (orcH14 val ray re) fnsH14 F 3 14 [.u (.a (bodyA ad ad' n m cap cap' v u x)), rayV r] =
    pre22 n m v u (bif !val n m (numOf (arrC 6 v)) (numOf (arrC 2 u)) x then hitR 0 0 0 1 else bif !ray r then hitR 0 0 0 1 else
      pre22 n m v u (preRe n m (re n m (numOf (arrC 6 v)) (numOf (arrC 2 u)) r) (bif decide (((getE (0, fz) (re n m (numOf (arrC 6 v)) (numOf (arrC 2 u)) r)).1 : Int) = 0) then hitR 0 0 0 7 else
        loopH1 (envH14 val ray re F) F F (TH1 (getE (0, fz) (re n m (numOf (arrC 6 v)) (numOf (arrC 2 u)) r)).1 (-1) 0) (HH ad ad' n m cap cap' v u x r (getE (0, fz) (re n m (numOf (arrC 6 v)) (numOf (arrC 2 u)) r)).1 (getE (0, fz) (re n m (numOf (arrC 6 v)) (numOf (arrC 2 u)) r)).2) [] (KH1 (envH14 val ray re F) F)))) := by kernel_rfl
end Go.Proofs.YtbgdfikfldkjbaaGreat.AI
