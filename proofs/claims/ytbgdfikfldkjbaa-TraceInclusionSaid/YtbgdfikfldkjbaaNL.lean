/- Two texts, laid into one by mkclaim.py. -/
import Derived.Test.YtbgdfikfldkjbaaNA
import Derived.Laws.Rows
import Derived.ChangeArms
import Derived.SizedLaws
import Derived.DataElems
import Derived.Test.YtbgdfikfldkjbaaPT
import Derived.WalkKit
import Derived.ProofKit
import Derived.OpenShut
import Derived.ChangeOld
import Derived.Below
section
/- From an argument as data to a value of the reading. -/
namespace Go.Proofs.Ytbgdfikfldkjbaa.AI
set_option linter.unnecessarySimpa false
open Go
set_option linter.unusedVariables false
set_option linter.unusedSimpArgs false
theorem cells_got : ∀ {w : World} {a : Addr} {n : Nat} {cs : List Value}, w.cells? 0 a n = some cs → cs.length = n ∧ ∀ (i : Nat) (u : Value), cs[i]? = some u → w.cell? (a.add i) = some u := by
  intro w a n cs h
  unfold World.cells? at h
  rw [if_pos (Nat.zero_le _)] at h
  have key : ∀ (l : List Nat) (cs : List Value), l.mapM (fun i => w.cell? (a.add i)) = some cs → cs.length = l.length ∧ ∀ (i j : Nat) (u : Value), l[i]? = some j → cs[i]? = some u → w.cell? (a.add j) = some u := by
    intro l
    induction l with
    | nil => intro cs h; simp at h; subst h; simp
    | cons j l ih =>
      intro cs h
      rw [List.mapM_cons] at h
      simp only [bind, Option.bind_eq_some_iff, pure, Option.some.injEq] at h
      obtain ⟨v, hv, vs, hvs, rfl⟩ := h
      obtain ⟨h1, h2⟩ := ih vs hvs
      refine ⟨by simp [h1], fun i j' u hi hu => ?_⟩
      cases i with
      | zero => simp at hi hu; subst hi; subst hu; exact hv
      | succ i => simp at hi hu; exact h2 i j' u hi hu
  obtain ⟨h1, h2⟩ := key _ _ h
  rw [List.length_range] at h1
  refine ⟨h1, fun i u hu => h2 i i u ?_ hu⟩
  have hi : i < cs.length := (List.getElem?_eq_some_iff.1 hu).1
  exact List.getElem?_range (by omega)
theorem cell_lt {w : World} {a : Addr} {v : Value} (h : w.cell? a = some v) : a.block < w.heap.size := by
  unfold World.cell? at h
  cases ho : w.heap[a.block]? with
  | none => simp [ho] at h
  | some o => exact (Array.getElem?_eq_some_iff.1 ho).1
/-- Whatever reads as data of the type has k numbers for its cells. -/
def OpensN (P : Program) (t : TypeId) (k : Nat) : Prop :=
  ∀ {H : Type} (enc : TypeId × Value → H) (w : World) (spare : Nat → Bool) (held : Bool) (fuel : Nat) (cs : List Value) (x : DataW H × List MemPlace),
    DataW.trod enc P w 0 spare held fuel t cs = some x → ∃ l : List Int, l.length = k ∧ cs = l.map (.int .i64)
theorem opensN_int {P : Program} {t : TypeId} (ht : P.underlying t = some (.int .i64)) : OpensN P t 1 := by
  intro H enc w spare held fuel cs x h
  obtain ⟨n, rfl, _, _⟩ := DataW.trod_int ht h
  exact ⟨[n], rfl, rfl⟩
def contig (P : Program) : Nat → List Field → Option Nat
  | o, [] => some o
  | o, f :: r => if f.offset = o then contig P (o + P.cellsOf f.type) r else none
theorem ints_fields {P : Program} {cs : List Value} : ∀ (L : List Field) (o e : Nat), contig P o L = some e → (∀ f ∈ L, ∃ l : List Int, l.length = P.cellsOf f.type ∧ (cs.drop f.offset).take (P.cellsOf f.type) = l.map (.int .i64)) → cs.length = e → ∃ l : List Int, cs.drop o = l.map (.int .i64)
  | [], o, e, h, _, hl => by
    cases h
    exact ⟨[], by rw [List.drop_eq_nil_of_le (by omega)]; rfl⟩
  | f :: r, o, e, h, hf, hl => by
    unfold contig at h
    split at h
    · rename_i ho
      obtain ⟨l1, h1, h2⟩ := hf f (List.mem_cons_self ..)
      obtain ⟨l2, h3⟩ := ints_fields r (o + P.cellsOf f.type) e h (fun g hg => hf g (List.mem_cons_of_mem _ hg)) hl
      refine ⟨l1 ++ l2, ?_⟩
      rw [List.map_append, ← h2, ← h3, ho, ← List.drop_drop, List.take_append_drop]
    · cases h
theorem opensN_struct {P : Program} {t : TypeId} {fs : Array Field} {k : Nat} (ht : P.underlying t = some (.struct fs)) (hk : P.cellsOf t = k) (hc : contig P 0 fs.toList = some k) (hf : ∀ f ∈ fs.toList, OpensN P f.type (P.cellsOf f.type)) : OpensN P t k := by
  intro H enc w spare held fuel cs x h
  obtain ⟨xs, n, _, _, hl, hlen, hg⟩ := DataW.trod_struct ht h
  obtain ⟨l, e⟩ := ints_fields (P := P) (cs := cs) fs.toList 0 k hc (fun f hm => by
    obtain ⟨i, hi⟩ := List.getElem?_of_mem hm
    have hi' : fs[i]? = some f := by simpa using hi
    have h1 := hg i f hi'
    rw [List.getElem?_eq_getElem (show i < xs.length by have := (Array.getElem?_eq_some_iff.1 hi').1; omega)] at h1
    obtain ⟨l, h2, h3⟩ := hf f hm enc w spare held n _ _ h1
    exact ⟨l, h2, h3⟩) (by rw [hl, hk])
  rw [List.drop_zero] at e
  refine ⟨l, ?_, e⟩
  have := congrArg List.length e
  rw [List.length_map, hl, hk] at this
  exact this.symm
/-- A slice of rows of numbers. -/
theorem opens_as {P : Program} {t e : TypeId} {k : Nat} (ht : P.underlying t = some (.slice e)) (hc : P.cellsOf e = k) (he : OpensN P e k) {H : Type} {enc : TypeId × Value → H} {w : World} {spare : Nat → Bool} {held : Bool} {fuel : Nat} {cs : List Value} {x : DataW H × List MemPlace}
    (h : DataW.trod enc P w 0 spare held fuel t cs = some x) : ∃ (ad : Option Addr) (n cap : Nat) (v : Nat → Nat → Int), cs = [.slice ad n cap] ∧ AI.AOk w (.as ad k n cap (arrC k v)) ∧ (n = 0 ∨ ∃ sp, (n + sp) * P.bytesOf e ∈ x.1.weights P t) := by
  rcases DataW.trod_slice ht h with ⟨rfl, _⟩ | ⟨a, len, cap, elems, rest, n, _, rfl, hx, _, hlc, hm, hlen, hel, _⟩
  · exact ⟨none, 0, 0, fun _ _ => 0, rfl, .as _ _ _ _ _ (fun i hi => absurd hi (Nat.not_lt_zero i)) (fun _ => rfl) (Nat.le_refl _) (fun i j x hi => absurd hi (Nat.not_lt_zero i)) (fun i j x a hi => absurd hi (Nat.not_lt_zero i)), .inl rfl⟩
  · have hone : ∀ i, ∃ l : List Int, i < len → l.length = k ∧ w.cells? 0 (a.add (i * k)) k = some (l.map (.int .i64)) := by
      intro i
      by_cases hi : i < len
      · have h1 := hel i hi
        rw [List.getElem?_eq_getElem (show i < elems.length by omega), Option.bind_eq_some_iff] at h1
        obtain ⟨c, hc1, hc2⟩ := h1
        obtain ⟨l, hl1, hl2⟩ := he enc w spare held n c _ hc2
        subst hl2
        rw [hc] at hc1
        exact ⟨l, fun _ => ⟨hl1, hc1⟩⟩
      · exact ⟨[], fun h => absurd h hi⟩
    obtain ⟨L, hL⟩ : ∃ L : Nat → List Int, ∀ i, i < len → (L i).length = k ∧ w.cells? 0 (a.add (i * k)) k = some ((L i).map (.int .i64)) := ⟨fun i => Classical.choose (hone i), fun i => Classical.choose_spec (hone i)⟩
    refine ⟨some a, len, cap, fun i j => (L i).getD j 0, rfl, .as _ _ _ _ _ (fun i hi => by simp [arrC]) (fun e => by cases e) hlc (fun i j x hi hx => ?_) (fun i j x a' hi hx ha => ?_), .inr ⟨rest.length, ?_⟩⟩
    · simp only [arrC, List.getElem?_map, Option.map_eq_some_iff] at hx
      obtain ⟨q, _, rfl⟩ := hx
      exact .int _ _
    · simp only [arrC, List.getElem?_map, Option.map_eq_some_iff] at hx
      obtain ⟨q, hq, rfl⟩ := hx
      have hjk : j < k := by have := (List.getElem?_eq_some_iff.1 hq).1; simpa using this
      rw [List.getElem?_range hjk] at hq
      injection hq with hq
      subst hq
      injection ha with ha
      subst ha
      obtain ⟨h1, h2⟩ := hL i hi
      have h3 := (cells_got h2).2 j (.int .i64 ((L i).getD j 0)) (by
        rw [List.getElem?_map, List.getElem?_eq_getElem (by omega)]
        simp [List.getD_eq_getElem?_getD, List.getElem?_eq_getElem (show j < (L i).length by omega)])
      rw [Addr.add_add] at h3
      have h4 := cell_lt h3
      rw [add_block'] at h4
      exact ⟨h4, h3⟩
    · rw [hx]
      simp only [DataW.weights, ht, List.length_map]
      rw [hlen]
      exact List.mem_cons_self ..
end Go.Proofs.Ytbgdfikfldkjbaa.AI
end
section
/- A body and a ray, as data. -/
namespace Go.Proofs.Ytbgdfikfldkjbaa.AI
set_option linter.unnecessarySimpa false
open Go Go.ChangeShapes Go.WideShapes Go.ChangeAt Go.RowKit
set_option linter.unusedSimpArgs false
theorem o3 : OpensN Try.prog 3 (Try.prog.cellsOf 3) := by
  rw [show Try.prog.cellsOf 3 = 1 by kernel_rfl]
  exact opensN_int Try.underlying3
theorem o25 : OpensN Try.prog 25 2 := opensN_struct Try.underlying25 (by kernel_rfl) (by kernel_rfl) fun f hf => by
  simp only [List.mem_cons, List.not_mem_nil, or_false] at hf
  rcases hf with rfl | rfl
  · exact o3
  · exact o3
theorem o25' : OpensN Try.prog 25 (Try.prog.cellsOf 25) := by
  rw [show Try.prog.cellsOf 25 = 2 by kernel_rfl]
  exact o25
theorem o29 : OpensN Try.prog 29 6 := opensN_struct Try.underlying29 (by kernel_rfl) (by kernel_rfl) fun f hf => by
  simp only [List.mem_cons, List.not_mem_nil, or_false] at hf
  rcases hf with rfl | rfl | rfl
  · exact o25'
  · exact o25'
  · exact o25'
theorem o29' : OpensN Try.prog 29 (Try.prog.cellsOf 29) := by
  rw [show Try.prog.cellsOf 29 = 6 by kernel_rfl]
  exact o29
theorem o31 : OpensN Try.prog 31 12 := opensN_struct Try.underlying31 (by kernel_rfl) (by kernel_rfl) fun f hf => by
  simp only [List.mem_cons, List.not_mem_nil, or_false] at hf
  rcases hf with rfl | rfl
  · exact o29'
  · exact o29'
/-- A ray, as data. -/
theorem o31_ray {l : List Int} (h : l.length = 12) : ∃ r : Ray, l.map (.int .i64) = (rayC r).map (C.den fun _ => ri0) := by
  match l, h with
  | [a, b, c, d, e, f, a', b', c', d', e', f'], _ => exact ⟨⟨⟨⟨a, b⟩, ⟨c, d⟩, ⟨e, f⟩⟩, ⟨⟨a', b'⟩, ⟨c', d'⟩, ⟨e', f'⟩⟩⟩, rfl⟩
theorem drop_take1 {α : Type} {l : List α} {i : Nat} {x : α} (h : (l.drop i).take 1 = [x]) : l[i]? = some x := by
  have := congrArg (·[0]?) h
  simpa [List.getElem?_take, List.getElem?_drop] using this
set_option maxRecDepth 100000 in
/-- A body, as data. -/
theorem o27 {H : Type} {enc : TypeId × Value → H} {w : World} {spare : Nat → Bool} {held : Bool} {fuel : Nat} {cs : List Value} {x : DataW H × List MemPlace} (h : DataW.trod enc Try.prog w 0 spare held fuel 27 cs = some x) :
    ∃ (ad ad' : Option Addr) (n m cap cap' : Nat) (v u : Nat → Nat → Int) (y : Iv), cs = (bodyA ad ad' n m cap cap' v u y).map (C.den fun _ => ri0) ∧ AI.AOk w (.as ad 6 n cap (arrC 6 v)) ∧ AI.AOk w (.as ad' 2 m cap' (arrC 2 u)) ∧ (n = 0 ∨ ∃ sp, (n + sp) * 48 ∈ x.1.weights Try.prog 27) := by
  obtain ⟨xs, k, _, hx, hl, hlen, hg⟩ := DataW.trod_struct Try.underlying27 h
  have hl4 : cs.length = 4 := by rw [hl]; kernel_rfl
  have hn3 : xs.length = 3 := by rw [hlen]; rfl
  obtain ⟨x0, x1, x2, rfl⟩ : ∃ x0 x1 x2, xs = [x0, x1, x2] := by
    match xs, hn3 with
    | [a, b, c], _ => exact ⟨a, b, c, rfl⟩
  obtain ⟨c0, c1, c2, c3, rfl⟩ : ∃ c0 c1 c2 c3, cs = [c0, c1, c2, c3] := by
    match cs, hl4 with
    | [a, b, c, d], _ => exact ⟨a, b, c, d, rfl⟩
  have g0 := hg 0 _ rfl
  have g1 := hg 1 _ rfl
  have g2 := hg 2 _ rfl
  simp only [show Try.prog.cellsOf 22 = 1 by kernel_rfl, show Try.prog.cellsOf 23 = 1 by kernel_rfl, show Try.prog.cellsOf 25 = 2 by kernel_rfl, List.drop_zero, List.take_succ_cons, List.take_zero, List.drop_succ_cons, List.getElem?_cons_zero, List.getElem?_cons_succ] at g0 g1 g2
  obtain ⟨ad, n, cap, v, e0, a0, w0⟩ := opens_as Try.underlying22 (by kernel_rfl) o29 g0
  obtain ⟨ad', m, cap', u, e1, a1, _⟩ := opens_as Try.underlying23 (by kernel_rfl) o25 g1
  obtain ⟨l, h2, e2⟩ := o25 enc w spare held k _ _ g2
  obtain ⟨lo, hi, rfl⟩ : ∃ lo hi, l = [lo, hi] := by
    match l, h2 with
    | [a, b], _ => exact ⟨a, b, rfl⟩
  injection e0 with e0
  injection e1 with e1
  simp only [List.map_cons, List.map_nil] at e2
  injection e2 with e2 e3
  injection e3 with e3
  subst e0 e1 e2 e3
  refine ⟨ad, ad', n, m, cap, cap', v, u, ⟨lo, hi⟩, rfl, a0, a1, ?_⟩
  rcases w0 with w0 | ⟨sp, w0⟩
  · exact .inl w0
  · refine .inr ⟨sp, ?_⟩
    rw [show Try.prog.bytesOf 29 = 48 by kernel_rfl] at w0
    rw [hx]
    simp only [DataW.weights, Try.underlying27, List.map_cons, List.map_nil, DataW.weightsEach, List.mem_append]
    exact .inl w0
end Go.Proofs.Ytbgdfikfldkjbaa.AI
end
