/- parcel.Do, walked: the book's step. -/
import Derived.Test.YtndbchcfjajgbaaXB
import Derived.Test.YtndbchcfjajgbaaHandValid
import Derived.Test.YtndbchcfjajgbaaHandSplit
import Derived.Test.YtndbchcfjajgbaaHandKinds
namespace Go.Proofs.Ytndbchcfjajgbaa.XP
open Go.Proofs.Ytndbchcfjajgbaa.XB Go.Proofs.Ytndbchcfjajgbaa.XQ
open Go.RowKit Go.Proofs Go.Proofs.YtndbchcfjajgbaaW.PrintWords Go.Proofs.YtndbchcfjajgbaaW.PrintLast Go.Proofs.Ytndbchcfjajgbaa.XH
set_option linter.unusedVariables false
set_option linter.unusedSimpArgs false
/-- Is a name there, in a sorted list. -/
def hasB (l : List S24) (s : ByteArray) : Bool := decide (posB l s < l.length) && cmpB (rd_T24 l (posB l s)).f0 s == 0
/-- The parcel after an entry, and the error. -/
def doR (l : List S24) (a : Int) (b c : ByteArray) (d e : Int) (f g : ByteArray) (h i : Int) : List S24 × Int :=
  if validB l = true then
    (if shapedB a b c d e f g h i = true then
      (if a = 1 then putR ⟨b, c, d, e⟩ l (posB l b)
      else if hasB l f = true then
        (if a = 2 then (l.eraseIdx (posB l f), 0)
        else if a = 3 then splitR l (posB l f) (posB l g) g h i
        else if a = 4 then joinR l (posB l f) (posB l g) g
        else loseR l (posB l f) h)
      else ([], 7))
    else ([], 1))
  else ([], 1)
def parcel_Do.f (l0 : List (S24)) (a1_0 : Int) (a1_1 : ByteArray) (a1_2 : ByteArray) (a1_3 : Int) (a1_4 : Int) (a1_5 : ByteArray) (a1_6 : ByteArray) (a1_7 : Int) (a1_8 : Int) : Option ((List (S24)) × Int) :=
  if l0.length ≤ 1000 then some (doR l0 a1_0 a1_1 a1_2 a1_3 a1_4 a1_5 a1_6 a1_7 a1_8) else none
theorem cells9 {w : World} {g : Nat} {c0 c1 c2 c3 c4 c5 c6 c7 c8 : Value} (h : w.heap[g]? = some (.cells #[c0, c1, c2, c3, c4, c5, c6, c7, c8] 34 (0, 0))) :
    w.cell? ⟨g, 0, none⟩ = some c0 ∧ w.cell? ⟨g, 1, none⟩ = some c1 ∧ w.cell? ⟨g, 2, none⟩ = some c2 ∧ w.cell? ⟨g, 3, none⟩ = some c3 ∧ w.cell? ⟨g, 4, none⟩ = some c4 ∧ w.cell? ⟨g, 5, none⟩ = some c5 ∧ w.cell? ⟨g, 6, none⟩ = some c6 ∧ w.cell? ⟨g, 7, none⟩ = some c7 ∧ w.cell? ⟨g, 8, none⟩ = some c8 :=
  ⟨(blk_cell h 0).trans rfl, (blk_cell h 1).trans rfl, (blk_cell h 2).trans rfl, (blk_cell h 3).trans rfl, (blk_cell h 4).trans rfl, (blk_cell h 5).trans rfl, (blk_cell h 6).trans rfl, (blk_cell h 7).trans rfl, (blk_cell h 8).trans rfl⟩
set_option maxHeartbeats 4000000 in
set_option maxRecDepth 100000 in
theorem do_arg1 (A0 : Option Addr) (n c0 : Nat) (a : Int) (b c : ByteArray) (d e : Int) (f g : ByteArray) (h i : Int) (w : World) (bv : Bool) (hbv : bv = false) (HV : Aside0 (∀ w1 : World, Below w.heap.size w w1 → Calls Try.prog 21 #[.slice A0 n c0] w1 fun e w' => e = .returned (.bool bv) ∧ Below w1.heap.size w1 w')) :
    Calls Try.prog 18 #[.slice A0 n c0, .agg #[.int .i64 a, .string b, .string c, .int .i64 d, .int .i64 e, .string f, .string g, .int .i64 h, .int .i64 i]] w fun e w' => ∃ v' : Value, e = .returned (.tuple #[v', .int .i64 1]) ∧ Kd.R k24 24 w' w.heap.size (fun _ => True) v' [] ∧ Below w.heap.size w w' := by
  subst hbv
  go_enter Try.func18, Try.ntmps18
  go_wp2_with (first | ((with_reducible refine gate_dst (N := 3) rfl ?_); refine bx_ (N := 3) (cs := #[.int .i64 a, .string b, .string c, .int .i64 d, .int .i64 e, .string f, .string g, .int .i64 h, .int .i64 i]) (t := 34) ?_; intro gb hgb w1 hbox hb1; have BW := Aside0.mk hb1; have BK := Aside0.mk hbox; clear hgb hbox hb1) | (go_at_call 21; refine (HV.out _ BW.out).mono ?_; rintro e' w' ⟨rfl, hb'⟩; replace BW := Aside0.mk (below_then BW.out BW.out.size hb'); replace BK := kb hb' BK; obtain ⟨z0, z1, z2, z3, z4, z5, z6, z7, z8⟩ := cells9 BK.out; clear hb'))
  go_ret2
  exact ⟨_, rfl, Kd.R_nil _ _ _ _ _, BW.out⟩
set_option maxHeartbeats 4000000 in
set_option maxRecDepth 100000 in
theorem do_arg2 (A0 : Option Addr) (n c0 : Nat) (a : Int) (b c : ByteArray) (d e : Int) (f g : ByteArray) (h i : Int) (w : World) (bv bs : Bool) (hbv : bv = true) (hbs : bs = false) (HV : Aside0 (∀ w1 : World, Below w.heap.size w w1 → Calls Try.prog 21 #[.slice A0 n c0] w1 fun e w' => e = .returned (.bool bv) ∧ Below w1.heap.size w1 w')) (HS : Aside0 (∀ w1 : World, Calls Try.prog 60 #[.agg #[.int .i64 a, .string b, .string c, .int .i64 d, .int .i64 e, .string f, .string g, .int .i64 h, .int .i64 i]] w1 fun e w' => e = .returned (.bool bs) ∧ Below w1.heap.size w1 w')) :
    Calls Try.prog 18 #[.slice A0 n c0, .agg #[.int .i64 a, .string b, .string c, .int .i64 d, .int .i64 e, .string f, .string g, .int .i64 h, .int .i64 i]] w fun e w' => ∃ v' : Value, e = .returned (.tuple #[v', .int .i64 1]) ∧ Kd.R k24 24 w' w.heap.size (fun _ => True) v' [] ∧ Below w.heap.size w w' := by
  subst hbv hbs
  go_enter Try.func18, Try.ntmps18
  go_wp2_with (first | ((with_reducible refine gate_dst (N := 3) rfl ?_); refine bx_ (N := 3) (cs := #[.int .i64 a, .string b, .string c, .int .i64 d, .int .i64 e, .string f, .string g, .int .i64 h, .int .i64 i]) (t := 34) ?_; intro gb hgb w1 hbox hb1; have BW := Aside0.mk hb1; have BK := Aside0.mk hbox; clear hgb hbox hb1) | (go_at_call 21; refine (HV.out _ BW.out).mono ?_; rintro e' w' ⟨rfl, hb'⟩; replace BW := Aside0.mk (below_then BW.out BW.out.size hb'); replace BK := kb hb' BK; obtain ⟨z0, z1, z2, z3, z4, z5, z6, z7, z8⟩ := cells9 BK.out; clear hb') | (go_at_call 60; refine (HS.out _).mono ?_; rintro e' w' ⟨rfl, hb'⟩; replace BW := Aside0.mk (below_then BW.out BW.out.size hb'); replace BK := kb hb' BK; clear z0 z1 z2 z3 z4 z5 z6 z7 z8; clear hb'))
  go_ret2
  exact ⟨_, rfl, Kd.R_nil _ _ _ _ _, BW.out⟩
set_option maxHeartbeats 4000000 in
set_option maxRecDepth 100000 in
theorem do_in (A0 : Option Addr) (n c0 : Nat) (xs : List S24) (a : Int) (b c : ByteArray) (d e : Int) (f g : ByteArray) (h i : Int) (w : World) (bv bs : Bool) (hbv : bv = true) (hbs : bs = true) (hk : a = 1) (HV : Aside0 (∀ w1 : World, Below w.heap.size w w1 → Calls Try.prog 21 #[.slice A0 n c0] w1 fun e w' => e = .returned (.bool bv) ∧ Below w1.heap.size w1 w')) (HS : Aside0 (∀ w1 : World, Calls Try.prog 60 #[.agg #[.int .i64 a, .string b, .string c, .int .i64 d, .int .i64 e, .string f, .string g, .int .i64 h, .int .i64 i]] w1 fun e w' => e = .returned (.bool bs) ∧ Below w1.heap.size w1 w')) (HC : Aside0 (∀ w1 : World, Below w.heap.size w w1 → Calls Try.prog 61 #[.slice A0 n c0] w1 fun e w' => ∃ v', e = .returned v' ∧ Kd.R k24 24 w' w1.heap.size (fun _ => True) v' xs ∧ Below w1.heap.size w1 w'))
    (HP : Aside0 (∀ (w1 : World) (v : Value), Kd.R k24 24 w1 w.heap.size (fun _ => True) v xs → w.heap.size ≤ w1.heap.size → Calls Try.prog 62 #[v, .agg #[.string b, .string c, .int .i64 d, .int .i64 e]] w1 fun e' w' => ∃ v', e' = .returned (.tuple #[v', .int .i64 (putR ⟨b, c, d, e⟩ xs (posB xs b)).2]) ∧ Kd.R k24 24 w' w.heap.size (fun _ => True) v' (putR ⟨b, c, d, e⟩ xs (posB xs b)).1 ∧ Below w.heap.size w1 w')) :
    Calls Try.prog 18 #[.slice A0 n c0, .agg #[.int .i64 a, .string b, .string c, .int .i64 d, .int .i64 e, .string f, .string g, .int .i64 h, .int .i64 i]] w fun e' w' => ∃ v' : Value, e' = .returned (.tuple #[v', .int .i64 (putR ⟨b, c, d, e⟩ xs (posB xs b)).2]) ∧ Kd.R k24 24 w' w.heap.size (fun _ => True) v' (putR ⟨b, c, d, e⟩ xs (posB xs b)).1 ∧ Below w.heap.size w w' := by
  subst hbv hbs hk
  obtain ⟨r, hr⟩ : ∃ r, r = putR ⟨b, c, d, e⟩ xs (posB xs b) := ⟨_, rfl⟩
  rw [← hr] at HP ⊢
  clear hr
  go_enter Try.func18, Try.ntmps18
  go_wp2_with (first | ((with_reducible refine gate_dst (N := 3) rfl ?_); refine bx_ (N := 3) (cs := #[.int .i64 1, .string b, .string c, .int .i64 d, .int .i64 e, .string f, .string g, .int .i64 h, .int .i64 i]) (t := 34) ?_; intro gb hgb w1 hbox hb1; have BW := Aside0.mk hb1; have BK := Aside0.mk hbox; clear hgb hbox hb1) | (go_at_call 21; refine (HV.out _ BW.out).mono ?_; rintro e' w' ⟨rfl, hb'⟩; replace BW := Aside0.mk (below_then BW.out BW.out.size hb'); replace BK := kb hb' BK; obtain ⟨z0, z1, z2, z3, z4, z5, z6, z7, z8⟩ := cells9 BK.out; clear hb') | (go_at_call 60; refine (HS.out _).mono ?_; rintro e' w' ⟨rfl, hb'⟩; replace BW := Aside0.mk (below_then BW.out BW.out.size hb'); replace BK := kb hb' BK; clear z0 z1 z2 z3 z4 z5 z6 z7 z8; clear hb') | (go_at_call 61; refine (HC.out _ BW.out).mono ?_; rintro e' w' ⟨v', rfl, hR, hb'⟩; have HO := Aside0.mk (Kd.R_lower hR BW.out.size); replace BW := Aside0.mk (below_then BW.out BW.out.size hb'); replace BK := kb hb' BK; obtain ⟨z0, z1, z2, z3, z4, z5, z6, z7, z8⟩ := cells9 BK.out; clear hb' hR) | (go_at_call 62; refine (HP.out _ _ HO.out BW.out.size).mono ?_; rintro e' w' ⟨v2, rfl, hR, hb'⟩; have HFIN := Aside0.mk (And.intro hR (BW.out.trans hb')); clear hR hb'))
  go_ret2
  exact ⟨_, rfl, HFIN.out.1, HFIN.out.2⟩
set_option maxHeartbeats 4000000 in
set_option maxRecDepth 100000 in
theorem do_none (A0 : Option Addr) (n c0 : Nat) (xs : List S24) (a : Int) (b c : ByteArray) (d e : Int) (f g : ByteArray) (h i : Int) (w : World) (bv bs : Bool) (hbv : bv = true) (hbs : bs = true) (hk : (a == 1) = false) (k : Nat) (bh : Bool) (hbh : bh = false) (HV : Aside0 (∀ w1 : World, Below w.heap.size w w1 → Calls Try.prog 21 #[.slice A0 n c0] w1 fun e w' => e = .returned (.bool bv) ∧ Below w1.heap.size w1 w')) (HS : Aside0 (∀ w1 : World, Calls Try.prog 60 #[.agg #[.int .i64 a, .string b, .string c, .int .i64 d, .int .i64 e, .string f, .string g, .int .i64 h, .int .i64 i]] w1 fun e w' => e = .returned (.bool bs) ∧ Below w1.heap.size w1 w')) (HC : Aside0 (∀ w1 : World, Below w.heap.size w w1 → Calls Try.prog 61 #[.slice A0 n c0] w1 fun e w' => ∃ v', e = .returned v' ∧ Kd.R k24 24 w' w1.heap.size (fun _ => True) v' xs ∧ Below w1.heap.size w1 w'))
    (HF : Aside0 (∀ (A : Option Addr) (cp : Nat) (w1 : World), Kd.C k24 w1 A xs.length xs → Calls Try.prog 63 #[.slice A xs.length cp, .string f] w1 fun e' w' => e' = .returned (.tuple #[.int .i64 k, .bool bh]) ∧ Below w1.heap.size w1 w')) :
    Calls Try.prog 18 #[.slice A0 n c0, .agg #[.int .i64 a, .string b, .string c, .int .i64 d, .int .i64 e, .string f, .string g, .int .i64 h, .int .i64 i]] w fun e' w' => ∃ v' : Value, e' = .returned (.tuple #[v', .int .i64 7]) ∧ Kd.R k24 24 w' w.heap.size (fun _ => True) v' [] ∧ Below w.heap.size w w' := by
  subst hbv hbs hbh
  obtain ⟨m, hm⟩ : ∃ m, m = xs.length := ⟨_, rfl⟩
  have HM := Aside0.mk hm
  rw [← hm] at HF
  clear hm
  go_enter Try.func18, Try.ntmps18
  go_wp2_with (first | ((with_reducible refine gate_dst (N := 3) rfl ?_); refine bx_ (N := 3) (cs := #[.int .i64 a, .string b, .string c, .int .i64 d, .int .i64 e, .string f, .string g, .int .i64 h, .int .i64 i]) (t := 34) ?_; intro gb hgb w1 hbox hb1; have BW := Aside0.mk hb1; have BK := Aside0.mk hbox; clear hgb hbox hb1) | (go_at_call 21; refine (HV.out _ BW.out).mono ?_; rintro e' w' ⟨rfl, hb'⟩; replace BW := Aside0.mk (below_then BW.out BW.out.size hb'); replace BK := kb hb' BK; obtain ⟨z0, z1, z2, z3, z4, z5, z6, z7, z8⟩ := cells9 BK.out; clear hb') | (go_at_call 60; refine (HS.out _).mono ?_; rintro e' w' ⟨rfl, hb'⟩; replace BW := Aside0.mk (below_then BW.out BW.out.size hb'); replace BK := kb hb' BK; clear z0 z1 z2 z3 z4 z5 z6 z7 z8; clear hb') | (go_at_call 61; refine (HC.out _ BW.out).mono ?_; rintro e' w' ⟨v', rfl, hR, hb'⟩; obtain ⟨A1, c1, rfl, hl1, hC1⟩ := Kd.R_reads hR; rw [← HM.out] at hC1 hl1 ⊢; have HC1 := Aside0.mk hC1; replace BW := Aside0.mk (below_then BW.out BW.out.size hb'); replace BK := kb hb' BK; obtain ⟨z0, z1, z2, z3, z4, z5, z6, z7, z8⟩ := cells9 BK.out; clear hb' hR hl1 hC1) | (go_at_call 63; refine (HF.out _ _ _ HC1.out).mono ?_; rintro e' w' ⟨rfl, hb'⟩; replace BW := Aside0.mk (below_then BW.out BW.out.size hb'); clear hb' z0 z1 z2 z3 z4 z5 z6 z7 z8))
  go_ret2
  exact ⟨_, rfl, Kd.R_nil _ _ _ _ _, BW.out⟩
theorem R24_some {w : World} {base : Nat} {ok : Nat → Prop} {v : Value} {xs : List S24} (h : Kd.R k24 24 w base ok v xs) (hn : 0 < xs.length) : ∃ g cap, v = .slice (some ⟨g, 0, none⟩) xs.length cap := by
  rcases R24_open h with ⟨_, hx⟩ | ⟨g, cap, cur, he, _⟩
  · rw [hx] at hn; simp at hn
  · exact ⟨g, cap, he⟩
set_option maxHeartbeats 4000000 in
set_option maxRecDepth 100000 in
theorem do_k2 (A0 : Option Addr) (n c0 : Nat) (xs : List S24) (a : Int) (b c : ByteArray) (d e : Int) (f g : ByteArray) (h i : Int) (w : World) (bv bs : Bool) (hbv : bv = true) (hbs : bs = true) (hk : a = 2) (k : Nat) (bh : Bool) (hbh : bh = true) (hn0 : 0 < xs.length) (HV : Aside0 (∀ w1 : World, Below w.heap.size w w1 → Calls Try.prog 21 #[.slice A0 n c0] w1 fun e w' => e = .returned (.bool bv) ∧ Below w1.heap.size w1 w')) (HS : Aside0 (∀ w1 : World, Calls Try.prog 60 #[.agg #[.int .i64 a, .string b, .string c, .int .i64 d, .int .i64 e, .string f, .string g, .int .i64 h, .int .i64 i]] w1 fun e w' => e = .returned (.bool bs) ∧ Below w1.heap.size w1 w')) (HC : Aside0 (∀ w1 : World, Below w.heap.size w w1 → Calls Try.prog 61 #[.slice A0 n c0] w1 fun e w' => ∃ v', e = .returned v' ∧ Kd.R k24 24 w' w1.heap.size (fun _ => True) v' xs ∧ Below w1.heap.size w1 w'))
    (HF : Aside0 (∀ (A : Option Addr) (cp : Nat) (w1 : World), Kd.C k24 w1 A xs.length xs → Calls Try.prog 63 #[.slice A xs.length cp, .string f] w1 fun e' w' => e' = .returned (.tuple #[.int .i64 k, .bool bh]) ∧ Below w1.heap.size w1 w')) (R : List S24 × Int)
    (HP : Aside0 (∀ (w1 : World) (gq cap : Nat), Kd.R k24 24 w1 w.heap.size (fun _ => True) (.slice (some ⟨gq, 0, none⟩) xs.length cap) xs → w.heap.size ≤ w1.heap.size → Calls Try.prog 64 #[.slice (some ⟨gq, 0, none⟩) xs.length cap, .int .i64 k, .agg #[.int .i64 a, .string b, .string c, .int .i64 d, .int .i64 e, .string f, .string g, .int .i64 h, .int .i64 i]] w1 fun e' w' => ∃ v', e' = .returned (.tuple #[v', .int .i64 R.2]) ∧ Kd.R k24 24 w' w.heap.size (fun _ => True) v' R.1 ∧ Below w.heap.size w1 w')) :
    Calls Try.prog 18 #[.slice A0 n c0, .agg #[.int .i64 a, .string b, .string c, .int .i64 d, .int .i64 e, .string f, .string g, .int .i64 h, .int .i64 i]] w fun e' w' => ∃ v' : Value, e' = .returned (.tuple #[v', .int .i64 R.2]) ∧ Kd.R k24 24 w' w.heap.size (fun _ => True) v' R.1 ∧ Below w.heap.size w w' := by
  subst hbv hbs hbh hk
  have HS0 := Aside0.mk (fun (w1 : World) (v : Value) (hR : Kd.R k24 24 w1 w.heap.size (fun _ => True) v xs) => R24_some hR hn0)
  have HC0 := Aside0.mk (fun (w1 : World) (g cap : Nat) (hR : Kd.R k24 24 w1 w.heap.size (fun _ => True) (.slice (some ⟨g, 0, none⟩) xs.length cap) xs) => (Kd.R_reads' hR).2.2)
  obtain ⟨m, hm⟩ : ∃ m, m = xs.length := ⟨_, rfl⟩
  rw [← hm] at HF HP HS0 HC0
  clear hm hn0
  have hmm := @run_makeMap Try.prog
  go_enter Try.func18, Try.ntmps18
  go_wp2_with (first | ((with_reducible refine gate_dst (N := 3) rfl ?_); refine bx_ (N := 3) (cs := #[.int .i64 2, .string b, .string c, .int .i64 d, .int .i64 e, .string f, .string g, .int .i64 h, .int .i64 i]) (t := 34) ?_; intro gb hgb w1 hbox hb1; have BW := Aside0.mk hb1; have BK := Aside0.mk hbox; clear hgb hbox hb1) | (go_at_call 21; refine (HV.out _ BW.out).mono ?_; rintro e' w' ⟨rfl, hb'⟩; replace BW := Aside0.mk (below_then BW.out BW.out.size hb'); replace BK := kb hb' BK; obtain ⟨z0, z1, z2, z3, z4, z5, z6, z7, z8⟩ := cells9 BK.out; clear hb') | (go_at_call 60; refine (HS.out _).mono ?_; rintro e' w' ⟨rfl, hb'⟩; replace BW := Aside0.mk (below_then BW.out BW.out.size hb'); replace BK := kb hb' BK; clear z0 z1 z2 z3 z4 z5 z6 z7 z8; clear hb') | (go_at_call 61; refine (HC.out _ BW.out).mono ?_; rintro e' w' ⟨v', rfl, hR, hb'⟩; replace hR := Kd.R_lower hR BW.out.size; obtain ⟨gs, cp, rfl⟩ := HS0.out _ _ hR; have HO := Aside0.mk hR; replace BW := Aside0.mk (below_then BW.out BW.out.size hb'); replace BK := kb hb' BK; obtain ⟨z0, z1, z2, z3, z4, z5, z6, z7, z8⟩ := cells9 BK.out; clear hb' hR) | (go_at_call 63; refine (HF.out _ _ _ (HC0.out _ _ _ HO.out)).mono ?_; rintro e' w' ⟨rfl, hb'⟩; clear z0 z1 z2 z3 z4 z5 z6 z7 z8; replace HO := Aside0.mk (Kd.R_below HO.out hb'); replace BW := Aside0.mk (below_then BW.out BW.out.size hb'); replace BK := kb hb' BK; obtain ⟨W1, W2, W3, W4, m1, m2, m3, m4, hbk, l2, l3, l4, l5⟩ := kinds_run w'; replace HO := Aside0.mk (Kd.R_below HO.out hbk); replace BK := Aside0.mk ((hbk.block _ (blk_lt BK.out)).trans BK.out); replace BW := Aside0.mk (below_then BW.out BW.out.size hbk); obtain ⟨z0, z1, z2, z3, z4, z5, z6, z7, z8⟩ := cells9 BK.out; clear hb' hbk) | (go_at_call 64; refine (HP.out _ _ _ HO.out BW.out.size).mono ?_; rintro e' w'' ⟨v2, rfl, hR, hb'⟩; have HFIN := Aside0.mk (And.intro hR (BW.out.trans hb')); clear hR hb'))
  go_ret2
  exact ⟨_, rfl, HFIN.out.1, HFIN.out.2⟩
set_option maxHeartbeats 4000000 in
set_option maxRecDepth 100000 in
theorem do_k3 (A0 : Option Addr) (n c0 : Nat) (xs : List S24) (a : Int) (b c : ByteArray) (d e : Int) (f g : ByteArray) (h i : Int) (w : World) (bv bs : Bool) (hbv : bv = true) (hbs : bs = true) (hk : a = 3) (k : Nat) (bh : Bool) (hbh : bh = true) (hn0 : 0 < xs.length) (HV : Aside0 (∀ w1 : World, Below w.heap.size w w1 → Calls Try.prog 21 #[.slice A0 n c0] w1 fun e w' => e = .returned (.bool bv) ∧ Below w1.heap.size w1 w')) (HS : Aside0 (∀ w1 : World, Calls Try.prog 60 #[.agg #[.int .i64 a, .string b, .string c, .int .i64 d, .int .i64 e, .string f, .string g, .int .i64 h, .int .i64 i]] w1 fun e w' => e = .returned (.bool bs) ∧ Below w1.heap.size w1 w')) (HC : Aside0 (∀ w1 : World, Below w.heap.size w w1 → Calls Try.prog 61 #[.slice A0 n c0] w1 fun e w' => ∃ v', e = .returned v' ∧ Kd.R k24 24 w' w1.heap.size (fun _ => True) v' xs ∧ Below w1.heap.size w1 w'))
    (HF : Aside0 (∀ (A : Option Addr) (cp : Nat) (w1 : World), Kd.C k24 w1 A xs.length xs → Calls Try.prog 63 #[.slice A xs.length cp, .string f] w1 fun e' w' => e' = .returned (.tuple #[.int .i64 k, .bool bh]) ∧ Below w1.heap.size w1 w')) (R : List S24 × Int)
    (HP : Aside0 (∀ (w1 : World) (gq cap : Nat), Kd.R k24 24 w1 w.heap.size (fun _ => True) (.slice (some ⟨gq, 0, none⟩) xs.length cap) xs → w.heap.size ≤ w1.heap.size → Calls Try.prog 65 #[.slice (some ⟨gq, 0, none⟩) xs.length cap, .int .i64 k, .agg #[.int .i64 a, .string b, .string c, .int .i64 d, .int .i64 e, .string f, .string g, .int .i64 h, .int .i64 i]] w1 fun e' w' => ∃ v', e' = .returned (.tuple #[v', .int .i64 R.2]) ∧ Kd.R k24 24 w' w.heap.size (fun _ => True) v' R.1 ∧ Below w.heap.size w1 w')) :
    Calls Try.prog 18 #[.slice A0 n c0, .agg #[.int .i64 a, .string b, .string c, .int .i64 d, .int .i64 e, .string f, .string g, .int .i64 h, .int .i64 i]] w fun e' w' => ∃ v' : Value, e' = .returned (.tuple #[v', .int .i64 R.2]) ∧ Kd.R k24 24 w' w.heap.size (fun _ => True) v' R.1 ∧ Below w.heap.size w w' := by
  subst hbv hbs hbh hk
  have HS0 := Aside0.mk (fun (w1 : World) (v : Value) (hR : Kd.R k24 24 w1 w.heap.size (fun _ => True) v xs) => R24_some hR hn0)
  have HC0 := Aside0.mk (fun (w1 : World) (g cap : Nat) (hR : Kd.R k24 24 w1 w.heap.size (fun _ => True) (.slice (some ⟨g, 0, none⟩) xs.length cap) xs) => (Kd.R_reads' hR).2.2)
  obtain ⟨m, hm⟩ : ∃ m, m = xs.length := ⟨_, rfl⟩
  rw [← hm] at HF HP HS0 HC0
  clear hm hn0
  have hmm := @run_makeMap Try.prog
  go_enter Try.func18, Try.ntmps18
  go_wp2_with (first | ((with_reducible refine gate_dst (N := 3) rfl ?_); refine bx_ (N := 3) (cs := #[.int .i64 3, .string b, .string c, .int .i64 d, .int .i64 e, .string f, .string g, .int .i64 h, .int .i64 i]) (t := 34) ?_; intro gb hgb w1 hbox hb1; have BW := Aside0.mk hb1; have BK := Aside0.mk hbox; clear hgb hbox hb1) | (go_at_call 21; refine (HV.out _ BW.out).mono ?_; rintro e' w' ⟨rfl, hb'⟩; replace BW := Aside0.mk (below_then BW.out BW.out.size hb'); replace BK := kb hb' BK; obtain ⟨z0, z1, z2, z3, z4, z5, z6, z7, z8⟩ := cells9 BK.out; clear hb') | (go_at_call 60; refine (HS.out _).mono ?_; rintro e' w' ⟨rfl, hb'⟩; replace BW := Aside0.mk (below_then BW.out BW.out.size hb'); replace BK := kb hb' BK; clear z0 z1 z2 z3 z4 z5 z6 z7 z8; clear hb') | (go_at_call 61; refine (HC.out _ BW.out).mono ?_; rintro e' w' ⟨v', rfl, hR, hb'⟩; replace hR := Kd.R_lower hR BW.out.size; obtain ⟨gs, cp, rfl⟩ := HS0.out _ _ hR; have HO := Aside0.mk hR; replace BW := Aside0.mk (below_then BW.out BW.out.size hb'); replace BK := kb hb' BK; obtain ⟨z0, z1, z2, z3, z4, z5, z6, z7, z8⟩ := cells9 BK.out; clear hb' hR) | (go_at_call 63; refine (HF.out _ _ _ (HC0.out _ _ _ HO.out)).mono ?_; rintro e' w' ⟨rfl, hb'⟩; clear z0 z1 z2 z3 z4 z5 z6 z7 z8; replace HO := Aside0.mk (Kd.R_below HO.out hb'); replace BW := Aside0.mk (below_then BW.out BW.out.size hb'); replace BK := kb hb' BK; obtain ⟨W1, W2, W3, W4, m1, m2, m3, m4, hbk, l2, l3, l4, l5⟩ := kinds_run w'; replace HO := Aside0.mk (Kd.R_below HO.out hbk); replace BK := Aside0.mk ((hbk.block _ (blk_lt BK.out)).trans BK.out); replace BW := Aside0.mk (below_then BW.out BW.out.size hbk); obtain ⟨z0, z1, z2, z3, z4, z5, z6, z7, z8⟩ := cells9 BK.out; clear hb' hbk) | (go_at_call 65; refine (HP.out _ _ _ HO.out BW.out.size).mono ?_; rintro e' w'' ⟨v2, rfl, hR, hb'⟩; have HFIN := Aside0.mk (And.intro hR (BW.out.trans hb')); clear hR hb'))
  go_ret2
  exact ⟨_, rfl, HFIN.out.1, HFIN.out.2⟩
set_option maxHeartbeats 4000000 in
set_option maxRecDepth 100000 in
theorem do_k4 (A0 : Option Addr) (n c0 : Nat) (xs : List S24) (a : Int) (b c : ByteArray) (d e : Int) (f g : ByteArray) (h i : Int) (w : World) (bv bs : Bool) (hbv : bv = true) (hbs : bs = true) (hk : a = 4) (k : Nat) (bh : Bool) (hbh : bh = true) (hn0 : 0 < xs.length) (HV : Aside0 (∀ w1 : World, Below w.heap.size w w1 → Calls Try.prog 21 #[.slice A0 n c0] w1 fun e w' => e = .returned (.bool bv) ∧ Below w1.heap.size w1 w')) (HS : Aside0 (∀ w1 : World, Calls Try.prog 60 #[.agg #[.int .i64 a, .string b, .string c, .int .i64 d, .int .i64 e, .string f, .string g, .int .i64 h, .int .i64 i]] w1 fun e w' => e = .returned (.bool bs) ∧ Below w1.heap.size w1 w')) (HC : Aside0 (∀ w1 : World, Below w.heap.size w w1 → Calls Try.prog 61 #[.slice A0 n c0] w1 fun e w' => ∃ v', e = .returned v' ∧ Kd.R k24 24 w' w1.heap.size (fun _ => True) v' xs ∧ Below w1.heap.size w1 w'))
    (HF : Aside0 (∀ (A : Option Addr) (cp : Nat) (w1 : World), Kd.C k24 w1 A xs.length xs → Calls Try.prog 63 #[.slice A xs.length cp, .string f] w1 fun e' w' => e' = .returned (.tuple #[.int .i64 k, .bool bh]) ∧ Below w1.heap.size w1 w')) (R : List S24 × Int)
    (HP : Aside0 (∀ (w1 : World) (gq cap : Nat), Kd.R k24 24 w1 w.heap.size (fun _ => True) (.slice (some ⟨gq, 0, none⟩) xs.length cap) xs → w.heap.size ≤ w1.heap.size → Calls Try.prog 66 #[.slice (some ⟨gq, 0, none⟩) xs.length cap, .int .i64 k, .agg #[.int .i64 a, .string b, .string c, .int .i64 d, .int .i64 e, .string f, .string g, .int .i64 h, .int .i64 i]] w1 fun e' w' => ∃ v', e' = .returned (.tuple #[v', .int .i64 R.2]) ∧ Kd.R k24 24 w' w.heap.size (fun _ => True) v' R.1 ∧ Below w.heap.size w1 w')) :
    Calls Try.prog 18 #[.slice A0 n c0, .agg #[.int .i64 a, .string b, .string c, .int .i64 d, .int .i64 e, .string f, .string g, .int .i64 h, .int .i64 i]] w fun e' w' => ∃ v' : Value, e' = .returned (.tuple #[v', .int .i64 R.2]) ∧ Kd.R k24 24 w' w.heap.size (fun _ => True) v' R.1 ∧ Below w.heap.size w w' := by
  subst hbv hbs hbh hk
  have HS0 := Aside0.mk (fun (w1 : World) (v : Value) (hR : Kd.R k24 24 w1 w.heap.size (fun _ => True) v xs) => R24_some hR hn0)
  have HC0 := Aside0.mk (fun (w1 : World) (g cap : Nat) (hR : Kd.R k24 24 w1 w.heap.size (fun _ => True) (.slice (some ⟨g, 0, none⟩) xs.length cap) xs) => (Kd.R_reads' hR).2.2)
  obtain ⟨m, hm⟩ : ∃ m, m = xs.length := ⟨_, rfl⟩
  rw [← hm] at HF HP HS0 HC0
  clear hm hn0
  have hmm := @run_makeMap Try.prog
  go_enter Try.func18, Try.ntmps18
  go_wp2_with (first | ((with_reducible refine gate_dst (N := 3) rfl ?_); refine bx_ (N := 3) (cs := #[.int .i64 4, .string b, .string c, .int .i64 d, .int .i64 e, .string f, .string g, .int .i64 h, .int .i64 i]) (t := 34) ?_; intro gb hgb w1 hbox hb1; have BW := Aside0.mk hb1; have BK := Aside0.mk hbox; clear hgb hbox hb1) | (go_at_call 21; refine (HV.out _ BW.out).mono ?_; rintro e' w' ⟨rfl, hb'⟩; replace BW := Aside0.mk (below_then BW.out BW.out.size hb'); replace BK := kb hb' BK; obtain ⟨z0, z1, z2, z3, z4, z5, z6, z7, z8⟩ := cells9 BK.out; clear hb') | (go_at_call 60; refine (HS.out _).mono ?_; rintro e' w' ⟨rfl, hb'⟩; replace BW := Aside0.mk (below_then BW.out BW.out.size hb'); replace BK := kb hb' BK; clear z0 z1 z2 z3 z4 z5 z6 z7 z8; clear hb') | (go_at_call 61; refine (HC.out _ BW.out).mono ?_; rintro e' w' ⟨v', rfl, hR, hb'⟩; replace hR := Kd.R_lower hR BW.out.size; obtain ⟨gs, cp, rfl⟩ := HS0.out _ _ hR; have HO := Aside0.mk hR; replace BW := Aside0.mk (below_then BW.out BW.out.size hb'); replace BK := kb hb' BK; obtain ⟨z0, z1, z2, z3, z4, z5, z6, z7, z8⟩ := cells9 BK.out; clear hb' hR) | (go_at_call 63; refine (HF.out _ _ _ (HC0.out _ _ _ HO.out)).mono ?_; rintro e' w' ⟨rfl, hb'⟩; clear z0 z1 z2 z3 z4 z5 z6 z7 z8; replace HO := Aside0.mk (Kd.R_below HO.out hb'); replace BW := Aside0.mk (below_then BW.out BW.out.size hb'); replace BK := kb hb' BK; obtain ⟨W1, W2, W3, W4, m1, m2, m3, m4, hbk, l2, l3, l4, l5⟩ := kinds_run w'; replace HO := Aside0.mk (Kd.R_below HO.out hbk); replace BK := Aside0.mk ((hbk.block _ (blk_lt BK.out)).trans BK.out); replace BW := Aside0.mk (below_then BW.out BW.out.size hbk); obtain ⟨z0, z1, z2, z3, z4, z5, z6, z7, z8⟩ := cells9 BK.out; clear hb' hbk) | (go_at_call 66; refine (HP.out _ _ _ HO.out BW.out.size).mono ?_; rintro e' w'' ⟨v2, rfl, hR, hb'⟩; have HFIN := Aside0.mk (And.intro hR (BW.out.trans hb')); clear hR hb'))
  go_ret2
  exact ⟨_, rfl, HFIN.out.1, HFIN.out.2⟩
set_option maxHeartbeats 4000000 in
set_option maxRecDepth 100000 in
theorem do_k5 (A0 : Option Addr) (n c0 : Nat) (xs : List S24) (a : Int) (b c : ByteArray) (d e : Int) (f g : ByteArray) (h i : Int) (w : World) (bv bs : Bool) (hbv : bv = true) (hbs : bs = true) (hk : a = 5) (k : Nat) (bh : Bool) (hbh : bh = true) (hn0 : 0 < xs.length) (HV : Aside0 (∀ w1 : World, Below w.heap.size w w1 → Calls Try.prog 21 #[.slice A0 n c0] w1 fun e w' => e = .returned (.bool bv) ∧ Below w1.heap.size w1 w')) (HS : Aside0 (∀ w1 : World, Calls Try.prog 60 #[.agg #[.int .i64 a, .string b, .string c, .int .i64 d, .int .i64 e, .string f, .string g, .int .i64 h, .int .i64 i]] w1 fun e w' => e = .returned (.bool bs) ∧ Below w1.heap.size w1 w')) (HC : Aside0 (∀ w1 : World, Below w.heap.size w w1 → Calls Try.prog 61 #[.slice A0 n c0] w1 fun e w' => ∃ v', e = .returned v' ∧ Kd.R k24 24 w' w1.heap.size (fun _ => True) v' xs ∧ Below w1.heap.size w1 w'))
    (HF : Aside0 (∀ (A : Option Addr) (cp : Nat) (w1 : World), Kd.C k24 w1 A xs.length xs → Calls Try.prog 63 #[.slice A xs.length cp, .string f] w1 fun e' w' => e' = .returned (.tuple #[.int .i64 k, .bool bh]) ∧ Below w1.heap.size w1 w')) (R : List S24 × Int)
    (HP : Aside0 (∀ (w1 : World) (gq cap : Nat), Kd.R k24 24 w1 w.heap.size (fun _ => True) (.slice (some ⟨gq, 0, none⟩) xs.length cap) xs → w.heap.size ≤ w1.heap.size → Calls Try.prog 67 #[.slice (some ⟨gq, 0, none⟩) xs.length cap, .int .i64 k, .agg #[.int .i64 a, .string b, .string c, .int .i64 d, .int .i64 e, .string f, .string g, .int .i64 h, .int .i64 i]] w1 fun e' w' => ∃ v', e' = .returned (.tuple #[v', .int .i64 R.2]) ∧ Kd.R k24 24 w' w.heap.size (fun _ => True) v' R.1 ∧ Below w.heap.size w1 w')) :
    Calls Try.prog 18 #[.slice A0 n c0, .agg #[.int .i64 a, .string b, .string c, .int .i64 d, .int .i64 e, .string f, .string g, .int .i64 h, .int .i64 i]] w fun e' w' => ∃ v' : Value, e' = .returned (.tuple #[v', .int .i64 R.2]) ∧ Kd.R k24 24 w' w.heap.size (fun _ => True) v' R.1 ∧ Below w.heap.size w w' := by
  subst hbv hbs hbh hk
  have HS0 := Aside0.mk (fun (w1 : World) (v : Value) (hR : Kd.R k24 24 w1 w.heap.size (fun _ => True) v xs) => R24_some hR hn0)
  have HC0 := Aside0.mk (fun (w1 : World) (g cap : Nat) (hR : Kd.R k24 24 w1 w.heap.size (fun _ => True) (.slice (some ⟨g, 0, none⟩) xs.length cap) xs) => (Kd.R_reads' hR).2.2)
  obtain ⟨m, hm⟩ : ∃ m, m = xs.length := ⟨_, rfl⟩
  rw [← hm] at HF HP HS0 HC0
  clear hm hn0
  have hmm := @run_makeMap Try.prog
  go_enter Try.func18, Try.ntmps18
  go_wp2_with (first | ((with_reducible refine gate_dst (N := 3) rfl ?_); refine bx_ (N := 3) (cs := #[.int .i64 5, .string b, .string c, .int .i64 d, .int .i64 e, .string f, .string g, .int .i64 h, .int .i64 i]) (t := 34) ?_; intro gb hgb w1 hbox hb1; have BW := Aside0.mk hb1; have BK := Aside0.mk hbox; clear hgb hbox hb1) | (go_at_call 21; refine (HV.out _ BW.out).mono ?_; rintro e' w' ⟨rfl, hb'⟩; replace BW := Aside0.mk (below_then BW.out BW.out.size hb'); replace BK := kb hb' BK; obtain ⟨z0, z1, z2, z3, z4, z5, z6, z7, z8⟩ := cells9 BK.out; clear hb') | (go_at_call 60; refine (HS.out _).mono ?_; rintro e' w' ⟨rfl, hb'⟩; replace BW := Aside0.mk (below_then BW.out BW.out.size hb'); replace BK := kb hb' BK; clear z0 z1 z2 z3 z4 z5 z6 z7 z8; clear hb') | (go_at_call 61; refine (HC.out _ BW.out).mono ?_; rintro e' w' ⟨v', rfl, hR, hb'⟩; replace hR := Kd.R_lower hR BW.out.size; obtain ⟨gs, cp, rfl⟩ := HS0.out _ _ hR; have HO := Aside0.mk hR; replace BW := Aside0.mk (below_then BW.out BW.out.size hb'); replace BK := kb hb' BK; obtain ⟨z0, z1, z2, z3, z4, z5, z6, z7, z8⟩ := cells9 BK.out; clear hb' hR) | (go_at_call 63; refine (HF.out _ _ _ (HC0.out _ _ _ HO.out)).mono ?_; rintro e' w' ⟨rfl, hb'⟩; clear z0 z1 z2 z3 z4 z5 z6 z7 z8; replace HO := Aside0.mk (Kd.R_below HO.out hb'); replace BW := Aside0.mk (below_then BW.out BW.out.size hb'); replace BK := kb hb' BK; obtain ⟨W1, W2, W3, W4, m1, m2, m3, m4, hbk, l2, l3, l4, l5⟩ := kinds_run w'; replace HO := Aside0.mk (Kd.R_below HO.out hbk); replace BK := Aside0.mk ((hbk.block _ (blk_lt BK.out)).trans BK.out); replace BW := Aside0.mk (below_then BW.out BW.out.size hbk); obtain ⟨z0, z1, z2, z3, z4, z5, z6, z7, z8⟩ := cells9 BK.out; clear hb' hbk) | (go_at_call 67; refine (HP.out _ _ _ HO.out BW.out.size).mono ?_; rintro e' w'' ⟨v2, rfl, hR, hb'⟩; have HFIN := Aside0.mk (And.intro hR (BW.out.trans hb')); clear hR hb'))
  go_ret2
  exact ⟨_, rfl, HFIN.out.1, HFIN.out.2⟩
theorem put62' (p : S24) (xs : List S24) (w : World) (base : Nat) (v : Value) (HO : Kd.R k24 24 w base (fun _ => True) v xs) (hbase : base ≤ w.heap.size) (hn : xs.length ≤ 1000) (hs : Sorted xs) :
    Calls Try.prog 62 #[v, .agg #[.string p.f0, .string p.f1, .int .i64 p.f2, .int .i64 p.f3]] w fun e w' => ∃ v', e = .returned (.tuple #[v', .int .i64 (putR p xs (posB xs p.f0)).2]) ∧ Kd.R k24 24 w' base (fun _ => True) v' (putR p xs (posB xs p.f0)).1 ∧ Below base w w' :=
  (put62 p xs w base v HO hbase hn (posB xs p.f0) (posB_le _ _) (posB_lt _ _) (posB_ge _ _ hs)).mono (fun e w' ⟨v', h1, h2, h3, _⟩ => ⟨v', h1, h2, h3⟩)
theorem parcel_Do.calls (A0 : Option Addr) (c0 : Nat) (l0 : List (S24)) (a1_0 : Int) (a1_1 : ByteArray) (a1_2 : ByteArray) (a1_3 : Int) (a1_4 : Int) (a1_5 : ByteArray) (a1_6 : ByteArray) (a1_7 : Int) (a1_8 : Int) (r1 : List (S24)) (r2 : Int) (w : World) (hr0 : Kd.C k24 w A0 l0.length l0) (hc0 : l0.length ≤ c0) (h : parcel_Do.f l0 a1_0 a1_1 a1_2 a1_3 a1_4 a1_5 a1_6 a1_7 a1_8 = some (r1, r2)) :
    Calls Try.prog 18 #[.slice A0 l0.length c0, .agg #[.int .i64 a1_0, .string a1_1, .string a1_2, .int .i64 a1_3, .int .i64 a1_4, .string a1_5, .string a1_6, .int .i64 a1_7, .int .i64 a1_8]] w fun e w' => ∃ v0_ : Value, e = .returned (.tuple #[v0_, .int .i64 r2]) ∧ Kd.R k24 24 w' w.heap.size (fun _ => True) v0_ r1 ∧ Below w.heap.size w w' := by
  unfold parcel_Do.f at h
  have hn : l0.length ≤ 1000 := by
    rcases Nat.lt_or_ge 1000 l0.length with hc | hc
    · rw [if_neg (by omega)] at h; cases h
    · exact hc
  rw [if_pos hn] at h
  have HV := Aside0.mk (fun (w1 : World) (hb : Below w.heap.size w w1) => parcel_Valid.calls (l0.length + 1) A0 c0 l0 (validB l0) w1 (Kd.C_below hr0 hb) hc0 (valid_eq l0 hn))
  have HS := Aside0.mk (fun (w1 : World) => parcel_shaped.calls a1_0 a1_1 a1_2 a1_3 a1_4 a1_5 a1_6 a1_7 a1_8 _ w1 (shaped_eq a1_0 a1_1 a1_2 a1_3 a1_4 a1_5 a1_6 a1_7 a1_8))
  have HC := Aside0.mk (fun (w1 : World) (hb : Below w.heap.size w w1) => clone61 A0 c0 l0 w1 (Kd.C_below hr0 hb) hc0 hn)
  unfold doR at h
  by_cases hv : validB l0 = true
  · rw [if_pos hv] at h
    by_cases hs : shapedB a1_0 a1_1 a1_2 a1_3 a1_4 a1_5 a1_6 a1_7 a1_8 = true
    · rw [if_pos hs] at h
      obtain ⟨hright, hsorted, h100⟩ := (validB_iff l0).1 hv
      by_cases k1 : a1_0 = 1
      · rw [if_pos k1] at h
        have HP := Aside0.mk (fun (w1 : World) (v : Value) (hR : Kd.R k24 24 w1 w.heap.size (fun _ => True) v l0) (hb : w.heap.size ≤ w1.heap.size) => put62' ⟨a1_1, a1_2, a1_3, a1_4⟩ l0 w1 w.heap.size v hR hb hn hsorted)
        have := do_in A0 l0.length c0 l0 a1_0 a1_1 a1_2 a1_3 a1_4 a1_5 a1_6 a1_7 a1_8 w _ _ hv hs k1 HV HS HC HP
        injection h with h
        rw [h] at this
        exact this
      · rw [if_neg k1] at h
        have HF := Aside0.mk (fun (A : Option Addr) (cp : Nat) (w1 : World) (hC : Kd.C k24 w1 A l0.length l0) => find63 a1_5 A cp l0 w1 hC hn (posB l0 a1_5) (posB_le _ _) (posB_lt _ _) (posB_ge _ _ hsorted))
        by_cases hh : hasB l0 a1_5 = true
        · rw [if_pos hh] at h
          have hlt : posB l0 a1_5 < l0.length := by
            unfold hasB at hh
            rw [Bool.and_eq_true] at hh
            exact of_decide_eq_true hh.1
          have hbd : ∀ i : Nat, i < l0.length → 1 ≤ (rd_T24 l0 i).f2 ∧ (rd_T24 l0 i).f2 ≤ 1000000 ∧ 1 ≤ (rd_T24 l0 i).f3 ∧ (rd_T24 l0 i).f3 ≤ 1000 := fun i hi => by
            rw [rd24 l0 i hi]
            obtain ⟨_, _, h1, h2, h3, h4⟩ := rightB_bounds (hright _ (List.getElem_mem hi))
            exact ⟨h1, h2, h3, h4⟩
          by_cases k2 : a1_0 = 2
          · rw [if_pos k2] at h
            have := do_k2 A0 l0.length c0 l0 a1_0 a1_1 a1_2 a1_3 a1_4 a1_5 a1_6 a1_7 a1_8 w _ _ hv hs k2 (posB l0 a1_5) _ hh (by omega) HV HS HC HF ((l0.eraseIdx (posB l0 a1_5), 0) : List S24 × Int) (Aside0.mk (fun w1 g cap hR hb => leave64 l0 w1 w.heap.size g cap (posB l0 a1_5) _ hR hb hlt hn))
            injection h with h
            rw [h] at this
            exact this
          · rw [if_neg k2] at h
            by_cases k3 : a1_0 = 3
            · rw [if_pos k3] at h
              have := do_k3 A0 l0.length c0 l0 a1_0 a1_1 a1_2 a1_3 a1_4 a1_5 a1_6 a1_7 a1_8 w _ _ hv hs k3 (posB l0 a1_5) _ hh (by omega) HV HS HC HF (splitR l0 (posB l0 a1_5) (posB l0 a1_6) a1_6 a1_7 a1_8) ⟨fun w1 g cap hR hb => split65 l0 w1 w.heap.size g cap (posB l0 a1_5) (posB l0 a1_6) _ a1_6 a1_7 a1_8 rfl rfl rfl hR hb hlt hn (hbd _ hlt).2.1 (hbd _ hlt).2.2.2 (posB_le _ _) (posB_lt _ _) (posB_ge _ _ hsorted)⟩
              injection h with h
              rw [h] at this
              exact this
            · rw [if_neg k3] at h
              by_cases k4 : a1_0 = 4
              · rw [if_pos k4] at h
                have := do_k4 A0 l0.length c0 l0 a1_0 a1_1 a1_2 a1_3 a1_4 a1_5 a1_6 a1_7 a1_8 w _ _ hv hs k4 (posB l0 a1_5) _ hh (by omega) HV HS HC HF (joinR l0 (posB l0 a1_5) (posB l0 a1_6) a1_6) ⟨fun w1 g cap hR hb => join66 l0 w1 w.heap.size g cap (posB l0 a1_5) (posB l0 a1_6) _ a1_6 rfl hR hb hlt hn hbd (posB_le _ _) (posB_lt _ _) (posB_ge _ _ hsorted)⟩
                injection h with h
                rw [h] at this
                exact this
              · rw [if_neg k4] at h
                have k5 : a1_0 = 5 := by rcases shaped_kind hs with h | h | h | h | h <;> omega
                have := do_k5 A0 l0.length c0 l0 a1_0 a1_1 a1_2 a1_3 a1_4 a1_5 a1_6 a1_7 a1_8 w _ _ hv hs k5 (posB l0 a1_5) _ hh (by omega) HV HS HC HF (loseR l0 (posB l0 a1_5) a1_7) ⟨fun w1 g cap hR hb => lose67 l0 w1 w.heap.size g cap (posB l0 a1_5) _ a1_7 rfl hR hb hlt hn (hbd _ hlt).2.1⟩
                injection h with h
                rw [h] at this
                exact this
        · rw [if_neg hh] at h
          injection h with h
          injection h with h1 h2
          subst h1 h2
          exact do_none A0 l0.length c0 l0 a1_0 a1_1 a1_2 a1_3 a1_4 a1_5 a1_6 a1_7 a1_8 w _ _ hv hs (beq_eq_false_iff_ne.2 k1) (posB l0 a1_5) _ (Bool.eq_false_iff.2 hh) HV HS HC HF
    · rw [if_neg hs] at h
      injection h with h
      injection h with h1 h2
      subst h1 h2
      exact do_arg2 A0 l0.length c0 a1_0 a1_1 a1_2 a1_3 a1_4 a1_5 a1_6 a1_7 a1_8 w _ _ hv (Bool.eq_false_iff.2 hs) HV HS
  · rw [if_neg hv] at h
    injection h with h
    injection h with h1 h2
    subst h1 h2
    exact do_arg1 A0 l0.length c0 a1_0 a1_1 a1_2 a1_3 a1_4 a1_5 a1_6 a1_7 a1_8 w _ (Bool.eq_false_iff.2 hv) HV
end Go.Proofs.Ytndbchcfjajgbaa.XP
