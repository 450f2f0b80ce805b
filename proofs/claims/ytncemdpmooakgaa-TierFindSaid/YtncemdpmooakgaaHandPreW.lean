/- Words for tier.Prefix: an element of a row whose elements lead to what is shared; one cell of it is written. -/
import Derived.Test.YtncemdpmooakgaaHandClone
import Derived.Test.YtncemdpmooakgaaXE
namespace Go.Proofs.Ytncemdpmooakgaa.XK
open Go Go.RowKit Go.Proofs Go.Proofs.YtncemdpmooakgaaW.PrintWords Go.Proofs.YtncemdpmooakgaaW.PrintLast Go.Proofs.Ytncemdpmooakgaa.XW Go.Proofs.Ytncemdpmooakgaa.XT Go.Proofs.Ytncemdpmooakgaa.XE
set_option linter.unusedVariables false
set_option linter.unusedSimpArgs false
theorem N_elem {α : Type} {d : Kd α} {e base g n cap : Nat} {ok : Nat → Prop} {W : World} {xs : List α} (h : Kd.N d e W base ok (.slice (some ⟨g, 0, none⟩) n cap) xs) (z : α) (i : Nat) (hi : i < n) (hx : i < xs.length) :
    ∃ c : List Value, c.length = d.sz ∧ Kd.FK d W (fun k => ok k ∧ k ≠ g) (xs.getD i z) c ∧ (∀ j u, c[j]? = some u → W.cell? ⟨g, i * d.sz + j, none⟩ = some u) ∧ ∀ j, W.frozen? ⟨g, i * d.sz + j, none⟩ = false := by
  obtain ⟨h0, rows, hl, hR, hf⟩ := h
  obtain ⟨c, hcl, hM, hcc, hfr⟩ := Kd.R_elem hR [] (i : Int) (by omega) (by omega)
  rw [Int.toNat_natCast] at hM hcc hfr
  have e1 : xs[i]? = some (xs.getD i z) := by rw [List.getD_eq_getElem?_getD, List.getElem?_eq_getElem hx]; rfl
  have e2 : rows[i]? = some c := by
    have h2 : c = rows.getD i [] := hM.1
    rw [h2, List.getD_eq_getElem?_getD, List.getElem?_eq_getElem (by omega)]; rfl
  refine ⟨c, hcl, Kd.FK_mono (hf i _ c e1 e2) (fun k hk => ⟨hk.1, fun e => hk.2 (by rw [e]; rfl)⟩), hcc, hfr⟩
section
variable {P : Program} {o : Oper} {w : World}
theorem step_storeN {α : Type} (d : Kd α) {ops : Array Oper} {a : Act} {K : Act → World → Prop} {Q : Exit → Act → World → Prop} {ty : TypeId} {x y : Operand} (hw : Region.wanted o (yielded ops a.tmps) = true) (hN : o.dst = none) (ho : o.op = .store ty x y)
    {base e g n cap k j off : Nat} {xs : List α} {x' : α} {u : Value} {seg c : List Value} {ok okp : Nat → Prop} (hx : a.eval x = .pointer (some ⟨g, off, none⟩)) (hoff : off = k * d.sz + j) (hy : a.eval y = u) (hu : u.cells.toList = seg) (ht : (P.info? ty).map (·.size) = some seg.length)
    (h1 : ∀ q ∈ seg, q.oneCell' = true) (HO : Kd.N d e w base ok (.slice (some ⟨g, 0, none⟩) n cap) xs) (hk : k < n) (hcl : c.length = d.sz) (hcc : ∀ j u, c[j]? = some u → w.cell? ⟨g, k * d.sz + j, none⟩ = some u)
    (hj : j + seg.length ≤ d.sz) (hM : Kd.FK d w okp x' (c.take j ++ seg ++ c.drop (j + seg.length))) (hokp : ∀ k, okp k → ok k ∧ k ≠ g)
    (hK : ∀ w1, Kd.N d e w1 base ok (.slice (some ⟨g, 0, none⟩) n cap) (xs.set k x') → w.grownBy w1 (some g) → w1.heap.size = w.heap.size → K a w1) : if Region.wanted o (yielded ops a.tmps) = true then Oper.wp P o a w K Q else K (a.put none undef) w := by
  obtain ⟨h0, rows, hl, hR, hf⟩ := HO
  have hraw := Kd.FK_raw hM
  refine step_storeR (Kd.raw d.sz) hw hN ho (x' := c.take j ++ seg ++ c.drop (j + seg.length)) hx hoff hy hu ht h1 (Kd.raw_any hR) hk hcl hcc hj (fun w0 => ⟨rfl, hraw.2.1, hraw.2.2⟩) ?_
  intro w1 hr hg hs
  refine hK w1 ?_ hg hs
  have := Kd.N_written (i := (k : Int)) h0 hl hf (by rw [Int.toNat_natCast]; exact hr) hg hM hokp
  rwa [Int.toNat_natCast] at this
end
theorem FK_set3 {W : World} {ok : Nat → Prop} {x : S51} {c : List Value} {A : Option Addr} {cc : Nat} (h : Kd.FK k51 W ok x c) (hl : x.f3.length ≤ cc) (hF : Kd.F (Kd.int .i64) W ok A x.f3.length x.f3) :
    Kd.FK k51 W ok x (c.take 3 ++ [.slice A x.f3.length cc] ++ c.drop (3 + 1)) := by
  intro W' hW
  obtain ⟨_, _, rfl, rfl, ⟨_, _, rfl, rfl, ⟨_, _, rfl, rfl, ⟨_, fl, rfl, ⟨A0, c0, rfl, l0, g0⟩, s4⟩⟩⟩⟩ := h W' hW
  have e : ∀ (a b c d v : Value), ([a] ++ ([b] ++ ([c] ++ ([d] ++ fl)))).take 3 ++ [v] ++ ([a] ++ ([b] ++ ([c] ++ ([d] ++ fl)))).drop (3 + 1) = [a] ++ ([b] ++ ([c] ++ ([v] ++ fl))) := fun _ _ _ _ _ => rfl
  rw [e]
  exact ⟨_, _, rfl, rfl, ⟨_, _, rfl, rfl, ⟨_, _, rfl, rfl, ⟨_, fl, rfl, ⟨A, cc, rfl, hl, hF W' hW⟩, s4⟩⟩⟩⟩
theorem FK_set45 {W : World} {ok : Nat → Prop} {x : S51} {c : List Value} {A : Option Addr} {cc : Nat} (h : Kd.FK k51 W ok x c) (hl : x.f4.f3.length ≤ cc) (hF : Kd.F k64 W ok A x.f4.f3.length x.f4.f3) :
    Kd.FK k51 W ok x (c.take 45 ++ [.slice A x.f4.f3.length cc] ++ c.drop (45 + 1)) := by
  intro W' hW
  obtain ⟨_, _, rfl, rfl, ⟨_, _, rfl, rfl, ⟨_, _, rfl, rfl, ⟨_, _, rfl, ⟨A0, c0, rfl, l0, g0⟩, ⟨_, _, rfl, rfl, ⟨dl, _, rfl, s1, ⟨pl, _, rfl, s11, ⟨B0, b0, rfl, m0, g1⟩⟩⟩⟩⟩⟩⟩⟩ := h W' hW
  have e10 : dl.length = 10 := k44.K_len s1
  have e30 : pl.length = 30 := k46.K_len s11
  have e : ∀ (a b c d k s v : Value), ([a] ++ ([b] ++ ([c] ++ ([d] ++ ([k] ++ (dl ++ (pl ++ [s]))))))).take 45 ++ [v] ++ ([a] ++ ([b] ++ ([c] ++ ([d] ++ ([k] ++ (dl ++ (pl ++ [s]))))))).drop (45 + 1) = [a] ++ ([b] ++ ([c] ++ ([d] ++ ([k] ++ (dl ++ (pl ++ [v])))))) := by
    intro a b c d k s v
    have e1 : [a] ++ ([b] ++ ([c] ++ ([d] ++ ([k] ++ (dl ++ (pl ++ [s])))))) = ([a, b, c, d, k] ++ dl ++ pl) ++ [s] := by simp
    rw [e1, List.take_append_of_le_length (by simp [e10, e30]), List.take_of_length_le (by simp [e10, e30]), List.drop_of_length_le (by simp [e10, e30])]
    simp
  rw [e]
  exact ⟨_, _, rfl, rfl, ⟨_, _, rfl, rfl, ⟨_, _, rfl, rfl, ⟨_, _, rfl, ⟨A0, c0, rfl, l0, g0⟩, ⟨_, _, rfl, rfl, ⟨dl, _, rfl, s1, ⟨pl, _, rfl, s11, ⟨A, cc, rfl, hl, hF W' hW⟩⟩⟩⟩⟩⟩⟩⟩
/-- What of an element's cells the copying reads. -/
theorem FK_slices {W : World} {ok : Nat → Prop} {x : S51} {c : List Value} (h : Kd.FK k51 W ok x c) : ∃ (A : Option Addr) (a : Nat) (B : Option Addr) (b : Nat), c[3]? = some (.slice A x.f3.length a) ∧ (Kd.int .i64).C W A x.f3.length x.f3 ∧ c[45]? = some (.slice B x.f4.f3.length b) ∧ k64.C W B x.f4.f3.length x.f4.f3 := by
  obtain ⟨_, _, rfl, rfl, ⟨_, _, rfl, rfl, ⟨_, _, rfl, rfl, ⟨_, _, rfl, ⟨A0, c0, rfl, l0, g0⟩, ⟨_, _, rfl, rfl, ⟨dl, _, rfl, s1, ⟨pl, _, rfl, s11, ⟨B0, b0, rfl, m0, g1⟩⟩⟩⟩⟩⟩⟩⟩ := Kd.FK_now h
  have e10 : dl.length = 10 := k44.K_len s1
  have e30 : pl.length = 30 := k46.K_len s11
  refine ⟨A0, c0, B0, b0, rfl, g0, ?_, g1⟩
  have e1 : ∀ (a b c d k s : Value), ([a] ++ ([b] ++ ([c] ++ ([d] ++ ([k] ++ (dl ++ (pl ++ [s])))))))[45]? = some s := by
    intro a b c d k s
    have e1 : [a] ++ ([b] ++ ([c] ++ ([d] ++ ([k] ++ (dl ++ (pl ++ [s])))))) = ([a, b, c, d, k] ++ dl ++ pl) ++ [s] := by simp
    rw [e1, List.getElem?_append_right (by simp [e10, e30])]
    simp [e10, e30]
  exact e1 _ _ _ _ _ _
end Go.Proofs.Ytncemdpmooakgaa.XK
