/- Memory: new blocks, stores, appends. -/
import Derived.Test.YtbgdfikfldkjbaaAI3
namespace Go.Proofs.Ytbgdfikfldkjbaa.AI
set_option linter.unnecessarySimpa false
open Go
set_option linter.unusedVariables false
set_option linter.unusedSimpArgs false
/-! Cells that name no block. -/
def C.flat : C → Bool
  | .ptr _ _ => false
  | .rp _ _ _ _ => false
  | .row _ _ _ _ _ => false
  | .fn _ [] [] => true
  | .fn _ _ _ => false
  | _ => true
theorem C.flat_sc {x : C} (h : x.flat = true) {W : World} {S : Nat → Prop} (hx : x.sc W S) (S' : Nat → Prop) : x.sc W S' := by
  cases x with
  | ptr b o => cases h
  | rp b s i o => cases h
  | row b sz st n nl => cases h
  | fn f p q =>
    cases p with
    | cons _ _ => cases h
    | nil =>
      cases q with
      | cons _ _ => cases h
      | nil => exact ⟨(fun p hp => by cases hp), (fun p hp => by cases hp)⟩
  | _ => exact hx
/-! New blocks. -/
def getL (raw : List C) (sz i : Nat) : List C := (raw.drop (i * sz)).take sz
inductive AK where
  | ptr
  | slice (e : TypeId) (sz n : Nat)
def AK.val (b : Nat) : AK → V
  | .ptr => .u (.c (.ptr b 0))
  | .slice _ sz n => .u (.c (.row b sz 0 n false))
def AK.cap : AK → Nat
  | .ptr => 0
  | .slice _ _ n => n
def AK.blk (raw : List C) : AK → Blk
  | .ptr => .cells raw
  | .slice e sz n => .row e sz n (getL raw sz) (raw.all C.flat)
def allocD (P : Program) (T : List V) (o : Oper) : Option (List C × AK) :=
  match o.op with
  | .alloc e => (zeroC P e).map fun zc => (zc, .ptr)
  | .box e x => match ev T x with
    | some (.u u) => some (u.cells, .ptr)
    | _ => none
  | .buildSlice t len ps => match P.underlying t, evUs T ps.toList with
    | some (.slice e), some us => match szOf P e, zeroC P e with
      | some (m + 1), some zc => if zc.length == m + 1 && decide (0 < len ∧ len * (m + 1) ≤ 16777216) then
          (fillL (fun i => some (i * (m + 1), m + 1)) ((List.range (len * (m + 1))).map fun i => zc.getD (i % zc.length) .nilp) us).map fun cs => (cs, .slice e (m + 1) len)
        else none
      | _, _ => none
    | _, _ => none
  | _ => none
theorem fillL_len {place : Nat → Option (Nat × Nat)} : ∀ (ps : List (Nat × U)) (cs out : List C), fillL place cs ps = some out → out.length = cs.length
  | [], cs, out, h => by injection h with h; subst h; rfl
  | (i, u) :: r, cs, out, h => by
    unfold fillL at h
    split at h
    · split at h
      · rename_i hc
        rw [Bool.and_eq_true, beq_iff_eq, decide_eq_true_eq] at hc
        rw [fillL_len r _ _ h, setRange_len (by omega)]
      · cases h
    · cases h
/-- A new block's size fits its kind. -/
def AK.fits (raw : List C) : AK → Prop
  | .ptr => True
  | .slice _ sz n => raw.length = n * sz ∧ n ≤ maxLen ∧ 0 < n
def AK.elem (e : TypeId) : AK → Prop
  | .ptr => True
  | .slice e' _ _ => e' = e
theorem zeros_den {ρ : Ren} (zc : List C) (n : Nat) (hz : zc.length ≠ 0) : ((Array.range n).map fun x => ((zc.map (C.den ρ)).toArray)[x % ((zc.map (C.den ρ)).toArray).size]!) = (((List.range n).map fun i => zc.getD (i % zc.length) .nilp).map (C.den ρ)).toArray := by
  apply Array.ext'
  simp only [Array.toList_map, Array.toList_range, List.map_map]
  apply List.map_congr_left
  intro i hi
  have hlt : i % zc.length < zc.length := Nat.mod_lt _ (by omega)
  simp [List.getD, hlt]
theorem allocD_run {P : Program} {T : List V} {o : Oper} {cs : List C} {ak : AK} (h : allocD P T o = some (cs, ak)) :
    (∀ (W : World) (S : Nat → Prop), ScT W S T → ∀ x ∈ cs, x.sc W S) ∧ ak.fits cs ∧ ∀ (b : Nat) (ρ : Ren) (a : Act) (w : World), TR ρ T a → ρ b = ⟨w.heap.size, ak.cap⟩ → ∃ e : TypeId, ak.elem e ∧ (execOp a.eval o).run P w = .ok (.value ((ak.val b).den ρ)) (w.alloc (.cells (cs.map (C.den ρ)).toArray e (0, 0))) := by
  unfold allocD at h
  split at h
  · rename_i e ho
    rw [Option.map_eq_some_iff] at h
    obtain ⟨zc, hz, he⟩ := h
    cases he
    refine ⟨fun W S _ => zeroC_sc hz W S, trivial, fun b ρ a w ht hb => ?_⟩
    obtain ⟨z, hz1, hz2⟩ := zeroC_run hz ρ w
    refine ⟨e, trivial, ?_⟩
    simp [execOp, ho, Instr.alloc, hz1, newVar, newRow, hz2, AK.val, V.den, U.den, C.den, hb]
  · rename_i e x ho
    split at h
    · rename_i u hx
      cases h
      refine ⟨fun W S hS => ?_, trivial, fun b ρ a w ht hb => ⟨e, trivial, ?_⟩⟩
      · have := ev_sc hx hS
        cases u with
        | c y => intro z hz; simp only [U.cells, List.mem_singleton] at hz; subst hz; exact this
        | a ys => exact this
      · simp [execOp, ho, Instr.box, ev_den hx ht, newVar, newRow, V.den, U.den_cells, AK.val, hb]
        simp [U.den, C.den, hb]
    · cases h
  · rename_i t len ps ho
    split at h
    · rename_i e us hu hus
      split at h
      · rename_i m zc hm hz
        split at h
        · rename_i hc
          rw [Bool.and_eq_true, beq_iff_eq, decide_eq_true_eq] at hc
          rw [Option.map_eq_some_iff] at h
          obtain ⟨out, hout, he⟩ := h
          cases he
          have hle : len ≤ len * (m + 1) := Nat.le_mul_of_pos_right _ (by omega)
          refine ⟨fun W S hS => fillL_sc us _ _ hout (fun x hx => ?_) (evUs_sc hus hS), ⟨by rw [fillL_len _ _ _ hout]; simp, by unfold maxLen; omega, hc.2.1⟩, fun b ρ a w ht hb => ⟨e, rfl, ?_⟩⟩
          · rw [List.mem_map] at hx
            obtain ⟨i, hi, rfl⟩ := hx
            have hlt : i % zc.length < zc.length := Nat.mod_lt _ (by omega)
            simp only [List.getD, List.getElem?_eq_getElem hlt, Option.getD_some]
            exact zeroC_sc hz W S _ (List.getElem_mem hlt)
          · obtain ⟨z, hz1, hz2⟩ := zeroC_run hz ρ w
            have hf := fill_den (ρ := ρ) us _ _ hout
            rw [← zeros_den zc _ (by omega)] at hf
            have e1 : (ps.map fun (i, x) => (i, a.eval x)).toList = us.map fun p => (p.1, p.2.den ρ) := by
              rw [← evUs_den hus ht]; simp
            have h0 : ¬ len * (m + 1) = 0 := fun h0 => by rcases Nat.mul_eq_zero.1 h0 with h | h <;> omega
            have h1 : ¬ len * (m + 1) > 2 ^ 24 := by have := hc.2.2; omega
            simp only [execOp, ho, Instr.buildSlice, Sem.run_bind, run_underlying hu, Result.andThen_ok, sizeOf_run hm, Nat.succ_eq_add_one]
            rw [if_neg h1]
            simp only [Sem.run_pure, Result.andThen_ok, Sem.run_bind, Sem.run_ite]
            rw [if_neg h0]
            simp only [hz1, Result.andThen_ok, e1, hz2, hf]
            simp [newRow, AK.val, V.den, U.den, C.den, hb, AK.cap]
        · cases h
      · cases h
    · cases h
  · cases h
theorem blk_push {H : Heap} {X : Blk} {b : Nat} {B : Blk} (hx : blk (H ++ [some X]) b = some B) : (b < H.length ∧ blk H b = some B) ∨ (b = H.length ∧ B = X) := by
  have hlt2 := blk_lt hx
  simp at hlt2
  rw [blk_eq] at hx
  by_cases hl : b < H.length
  · rw [List.getElem?_append_left hl] at hx; exact .inl ⟨hl, blk_eq.2 hx⟩
  · have : b = H.length := by omega
    subst this
    simp at hx
    exact .inr ⟨rfl, hx.symm⟩
theorem gr_push (H : Heap) (X : Blk) : Gr H (H ++ [some X]) [] := by
  have e : ∀ b, b < H.length → blk (H ++ [some X]) b = blk H b := fun b hb => blk_ext (List.getElem?_append_left hb)
  refine ⟨by simp, fun b hb hn => by rw [e b hb]; exact hn, fun b B hb _ => by rw [e b (blk_lt hb)]; exact hb, fun b cs hb => ⟨cs, by rw [e b (blk_lt hb)]; exact hb, rfl, fun _ _ => rfl⟩, fun b B B' hb hb' hu => ?_, fun b B B' hb hb' => ?_⟩
  · rw [e b (blk_lt hb), hb] at hb'
    cases hb'
    exact hu
  · rw [e b (blk_lt hb), hb] at hb'
    cases hb'
    rfl
/-- A new block, laid behind all that there is. -/
theorem real_new {W : World} {ρ : Ren} {w : World} {b : Nat} {raw : List C} {ak : AK} {e : TypeId} (hb : ρ b = ⟨w.heap.size, ak.cap⟩) (hf : ak.fits raw) (he : ak.elem e) (hbig : W.heap.size ≤ w.heap.size) :
    Real W ρ (w.alloc (.cells (raw.map (C.den ρ)).toArray e (0, 0))) b (ak.blk raw) := by
  have hat : (w.alloc (.cells (raw.map (C.den ρ)).toArray e (0, 0))).heap[w.heap.size]? = some (.cells (raw.map (C.den ρ)).toArray e (0, 0)) := by
    simp only [World.alloc, Array.getElem?_push, if_true]
  cases ak with
  | ptr => exact ⟨by rw [hb]; exact hbig, [], e, by rw [hb, List.append_nil]; exact hat⟩
  | slice e' sz n =>
    obtain ⟨h1, h2, h3⟩ := hf
    have he' : e' = e := he
    subst he'
    have hlen : ∀ i, i < n → i * sz + sz ≤ raw.length := by
      intro i hi
      rw [h1, ← Nat.succ_mul]
      exact Nat.mul_le_mul_right _ hi
    refine .inr ⟨by rw [hb]; exact hbig, by rw [hb]; exact Nat.le_refl _, by rw [hb]; exact h2, fun i hi => ?_, _, by rw [hb]; exact hat, by rw [hb]; simp [h1, AK.cap], fun i j x hi hx => ?_⟩
    · have := hlen i hi
      simp [getL]
      omega
    · have := hlen i hi
      unfold getL at hx
      rw [List.getElem?_take] at hx
      split at hx
      · rw [List.getElem?_drop] at hx
        simp [hx]
      · cases hx
theorem blk_sc {W : World} {S : Nat → Prop} {raw : List C} {ak : AK} (hf : ak.fits raw) (h : ∀ x ∈ raw, x.sc W S) : (ak.blk raw).sc W S := by
  cases ak with
  | ptr => exact h
  | slice e sz n =>
    have hm : ∀ i, ∀ x ∈ getL raw sz i, x ∈ raw := fun i x hx => List.mem_of_mem_drop (List.mem_of_mem_take hx)
    refine ⟨fun i hi => ⟨?_, fun x hx => h x (hm i x hx)⟩, fun hf i _ x hx => C.flat_sc (List.all_eq_true.1 hf x (hm i x hx)) (h x (hm i x hx)) _⟩
    have h1 := hf.1
    have : (i + 1) * sz ≤ n * sz := Nat.mul_le_mul_right _ hi
    rw [Nat.succ_mul] at this
    simp [getL]
    omega
theorem used_new {raw : List C} {ak : AK} (hf : ak.fits raw) : (ak.blk raw).used := by
  cases ak with
  | ptr => exact trivial
  | slice e sz n => have := hf.2.2; show n ≠ 0; omega
theorem HR.push {ρ : Ren} {W : World} {H : Heap} {w : World} {S : Nat → Prop} (h : HR ρ W H w) (hS : ScH W S H) (hlt : ∀ b, S b → b < H.length) {raw : List C} {ak : AK} (hcs : ∀ x ∈ raw, x.sc W S) (hf : ak.fits raw) {e : TypeId} (he : ak.elem e) {ρ' : Ren} (hre : ∀ b, b < H.length → ρ' b = ρ b) (hnew : ρ' H.length = ⟨w.heap.size, ak.cap⟩) :
    HR ρ' W (H ++ [some (ak.blk raw)]) (w.alloc (.cells (raw.map (C.den ρ')).toArray e (0, 0))) ∧ Fr H ρ (H ++ [some (ak.blk raw)]) ρ' w (w.alloc (.cells (raw.map (C.den ρ')).toArray e (0, 0))) := by
  have hold : ∀ r, r < w.heap.size → (w.alloc (.cells (raw.map (C.den ρ')).toArray e (0, 0))).heap[r]? = w.heap[r]? := fun r hr => by
    simp only [World.alloc, Array.getElem?_push]; rw [if_neg (by omega)]
  have hsz : w.heap.size ≤ (w.alloc (.cells (raw.map (C.den ρ')).toArray e (0, 0))).heap.size := by show _ ≤ (w.heap.push _).size; simp
  refine ⟨⟨fun r hr => ?_, Nat.le_trans h.big hsz, fun b B hb => ?_, fun b b' B B' hb hb' hu hu' he => ?_⟩, ⟨rfl, rfl, rfl, hsz, fun r hr _ => hold r hr, fun b B hge hb hu => ?_, hre⟩⟩
  · have := h.big; rw [hold r (by omega), h.low r hr]
  · rcases blk_push hb with ⟨hl, hb⟩ | ⟨rfl, rfl⟩
    · exact (h.real b B hb).keep (hS b B hb) (fun c hc => hre c (hlt c hc)) (hre b hl) (fun hu => hold _ ((h.real b B hb).lt hu).2)
    · exact real_new hnew hf he h.big
  · rcases blk_push hb with ⟨hl, hy⟩ | ⟨hl, hy⟩ <;> rcases blk_push hb' with ⟨hl', hy'⟩ | ⟨hl', hy'⟩
    · rw [hre b hl, hre b' hl'] at he; exact h.inj b b' B B' hy hy' hu hu' he
    · rw [hre b hl, hl', hnew] at he; have := ((h.real b B hy).lt hu).2; simp only at he; omega
    · rw [hre b' hl', hl, hnew] at he; have := ((h.real b' B' hy').lt hu').2; simp only at he; omega
    · rw [hl, hl']
  · rcases blk_push hb with ⟨hl, _⟩ | ⟨rfl, _⟩
    · omega
    · rw [hnew]; exact .inl (Nat.le_refl _)
/-! Stores. -/
/-- One of two cells of a kind, the kind seen. -/
def mergeC (β : Bool) (x y : C) : C :=
  match x, y with
  | .int k a, .int k' b => if k = k' then .int k (cond β a b) else cond β x y
  | .bool a, .bool b => .bool (cond β a b)
  | .str a, .str b => .str (cond β a b)
  | x, y => cond β x y
theorem mergeC_true (x y : C) : mergeC true x y = x := by
  unfold mergeC
  split <;> try rfl
  split <;> rfl
theorem mergeC_false (x y : C) : mergeC false x y = y := by
  unfold mergeC
  split <;> try rfl
  split
  · rename_i hk; subst hk; rfl
  · rfl
def mergeL (β : Bool) : List C → List C → List C
  | x :: r, y :: s => mergeC β x y :: mergeL β r s
  | _, _ => []
theorem mergeL_true : ∀ (x y : List C), x.length = y.length → mergeL true x y = x
  | [], [], _ => rfl
  | x :: r, y :: s, h => by simp only [mergeL, mergeC_true]; rw [mergeL_true r s (by simpa using h)]
  | [], _ :: _, h => by simp at h
  | _ :: _, [], h => by simp at h
theorem mergeL_false : ∀ (x y : List C), x.length = y.length → mergeL false x y = y
  | [], [], _ => rfl
  | x :: r, y :: s, h => by simp only [mergeL, mergeC_false]; rw [mergeL_false r s (by simpa using h)]
  | [], _ :: _, h => by simp at h
  | _ :: _, [], h => by simp at h
def rowSet (get : Nat → List C) (i o : Nat) (xs : List C) : Nat → List C := fun j => mergeL (Nat.beq j i) (setRange (get j) o xs) (get j)
/-- A store of cells at a place: the blocks then, and what is written. -/
inductive StoreTo (H : Heap) (xs : List C) : C → Heap → Foot → Prop
  | c (b o : Nat) (cs : List C) (hb : blk H b = some (.cells cs)) (hl : o + xs.length ≤ cs.length) : StoreTo H xs (.ptr b o) (H.set b (some (.cells (setRange cs o xs)))) (.c b o xs.length)
  | r (b sz i o : Nat) (e : TypeId) (n : Nat) (get : Nat → List C) (fl : Bool) (hb : blk H b = some (.row e sz n get fl)) (hi : i < n) (hl : o + xs.length ≤ sz) : StoreTo H xs (.rp b sz i o) (H.set b (some (.row e sz n (rowSet get i o xs) (fl && xs.all C.flat)))) (.r b)
theorem blk_set {H : Heap} {b c : Nat} {x : Option Blk} (hb : b < H.length) : blk (H.set b x) c = if c = b then x else blk H c := by
  unfold blk
  rw [nth_eq, nth_eq, List.getElem?_set]
  by_cases h : b = c
  · subst h; simp [hb]
  · rw [if_neg h, if_neg (fun e => h e.symm)]
theorem store_gr {H H' : Heap} {p : C} {xs : List C} {f : Foot} (h : StoreTo H xs p H' f) : Gr H H' [f] := by
  cases h with
  | c b o cs hb hl =>
    have hlt := blk_lt hb
    refine ⟨by simp, fun c hc hn => ?_, fun c B hc ht => ?_, fun c ds hc => ?_, fun c B B' hc hc' hu => ?_, fun c B B' hc hc' => ?_⟩
    · rw [blk_set hlt]
      by_cases e : c = b
      · subst e; rw [hb] at hn; cases hn
      · rw [if_neg e]; exact hn
    · have e : c ≠ b := fun e => ht ⟨_, List.mem_singleton.2 rfl, e.symm⟩
      rw [blk_set hlt, if_neg e]; exact hc
    · rw [blk_set hlt]
      by_cases e : c = b
      · subst e
        rw [hb] at hc; cases hc
        refine ⟨_, if_pos rfl, setRange_len hl, fun j hj => ?_⟩
        rw [setRange_get hl, if_neg]
        rintro ⟨h1, h2⟩
        exact hj ⟨_, List.mem_singleton.2 rfl, rfl, h1, h2⟩
      · exact ⟨ds, by rw [if_neg e]; exact hc, rfl, fun _ _ => rfl⟩
    · rw [blk_set hlt] at hc'
      by_cases e : c = b
      · subst e; rw [hb] at hc; cases hc; trivial
      · rw [if_neg e, hc] at hc'; cases hc'; exact hu
    · rw [blk_set hlt] at hc'
      by_cases e : c = b
      · subst e; rw [hb] at hc; cases hc; rw [if_pos rfl] at hc'; cases hc'; rfl
      · rw [if_neg e, hc] at hc'; cases hc'; rfl
  | r b sz i o e n get fl hb hi hl =>
    have hlt := blk_lt hb
    refine ⟨by simp, fun c hc hn => ?_, fun c B hc ht => ?_, fun c ds hc => ?_, fun c B B' hc hc' hu => ?_, fun c B B' hc hc' => ?_⟩
    · rw [blk_set hlt]
      by_cases e : c = b
      · subst e; rw [hb] at hn; cases hn
      · rw [if_neg e]; exact hn
    · have e : c ≠ b := fun e => ht ⟨_, List.mem_singleton.2 rfl, e.symm⟩
      rw [blk_set hlt, if_neg e]; exact hc
    · rw [blk_set hlt]
      by_cases e : c = b
      · subst e; rw [hb] at hc; cases hc
      · exact ⟨ds, by rw [if_neg e]; exact hc, rfl, fun _ _ => rfl⟩
    · rw [blk_set hlt] at hc'
      by_cases e : c = b
      · subst e; rw [hb] at hc; cases hc; rw [if_pos rfl] at hc'; cases hc'; exact hu
      · rw [if_neg e, hc] at hc'; cases hc'; exact hu
    · rw [blk_set hlt] at hc'
      by_cases e : c = b
      · subst e; rw [hb] at hc; cases hc; rw [if_pos rfl] at hc'; cases hc'; rfl
      · rw [if_neg e, hc] at hc'; cases hc'; rfl
theorem mem_mergeL {β : Bool} {x y : List C} (h : x.length = y.length) {c : C} (hc : c ∈ mergeL β x y) : c ∈ x ∨ c ∈ y := by
  cases β with
  | true => rw [mergeL_true x y h] at hc; exact .inl hc
  | false => rw [mergeL_false x y h] at hc; exact .inr hc
theorem store_sc {H H' : Heap} {p : C} {xs : List C} {f : Foot} (h : StoreTo H xs p H' f) {W : World} {S : Nat → Prop} (hs : ScH W S H) (hx : ∀ x ∈ xs, x.sc W S) : ScH W S H' := by
  cases h with
  | c b o cs hb hl =>
    intro c B hc
    rw [blk_set (blk_lt hb)] at hc
    by_cases e : c = b
    · rw [if_pos e] at hc
      cases hc
      intro y hy
      rcases mem_setRange hy with h | h
      · exact hs b _ hb y h
      · exact hx y h
    · rw [if_neg e] at hc; exact hs c B hc
  | r b sz i o e n get fl hb hi hl =>
    intro c B hc
    rw [blk_set (blk_lt hb)] at hc
    by_cases ec : c = b
    · rw [if_pos ec] at hc
      cases hc
      have hB := hs b _ hb
      have hl2 : ∀ j, j < n → (setRange (get j) o xs).length = (get j).length := fun j hj => setRange_len (by rw [(hB.1 j hj).1]; exact hl)
      refine ⟨fun j hj => ⟨?_, fun y hy => ?_⟩, fun hf j hj y hy => ?_⟩
      · have hlj := (hB.1 j hj).1
        unfold rowSet
        cases Nat.beq j i
        · rw [mergeL_false _ _ (hl2 j hj), hlj]
        · rw [mergeL_true _ _ (hl2 j hj), hl2 j hj, hlj]
      · rcases mem_mergeL (hl2 j hj) hy with h | h
        · rcases mem_setRange h with h | h
          · exact (hB.1 j hj).2 y h
          · exact hx y h
        · exact (hB.1 j hj).2 y h
      · rw [Bool.and_eq_true] at hf
        rcases mem_mergeL (hl2 j hj) hy with h | h
        · rcases mem_setRange h with h | h
          · exact hB.2 hf.1 j hj y h
          · exact C.flat_sc (List.all_eq_true.1 hf.2 y h) (hx y h) _
        · exact hB.2 hf.1 j hj y h
    · rw [if_neg ec] at hc; exact hs c B hc
theorem HR.lens {ρ : Ren} {W : World} {H : Heap} {w : World} (h : HR ρ W H w) : ∀ b e sz n get fl, blk H b = some (.row e sz n get fl) → ∀ i, i < n → (get i).length = sz := by
  intro b e sz n get fl hb i hi
  rcases h.real b _ hb with hn | ⟨_, _, _, h4, _⟩
  · omega
  · exact h4 i hi
theorem store_run {P : Program} {H H' : Heap} {t : TypeId} {p : C} {u : U} {f : Foot} (h : StoreTo H u.cells p H' f) (hz : szOf P t = some u.cells.length) {ρ : Ren} {W : World} {w : World} (hr : HR ρ W H w) :
    ∃ w' a, p.den ρ = .pointer (some a) ∧ (storeVar t a (u.den ρ)).run P w = .ok () w' ∧ HR ρ W H' w' ∧ Fr H ρ H' ρ w w' := by
  have hgr := store_gr h
  have hsz : (u.den ρ).cells.size = u.cells.length := by rw [U.den_cells]; simp
  have h1c : ∀ v ∈ u.cells.map (C.den ρ), v.oneCell' = true := fun v hv => by
    rw [List.mem_map] at hv
    obtain ⟨x, _, rfl⟩ := hv
    exact C.den_one ρ x
  -- the machine's row, and the store into it
  have main : ∀ (b off : Nat) (B B' : Blk) (cur : Array Value) (e : TypeId), blk H b = some B → H' = H.set b (some B') → B.used → B'.used → w.heap[(ρ b).r]? = some (.cells cur e (0, 0)) → off + u.cells.length ≤ cur.size → p.den ρ = .pointer (some ⟨(ρ b).r, off, none⟩) →
      Real W ρ (w.setRow (ρ b).r (cur.toList.take off ++ u.cells.map (C.den ρ) ++ cur.toList.drop (off + u.cells.length)).toArray) b B' →
      ∃ w' a, p.den ρ = .pointer (some a) ∧ (storeVar t a (u.den ρ)).run P w = .ok () w' ∧ HR ρ W H' w' ∧ Fr H ρ H' ρ w w' := by
    intro b off B B' cur e hb hH' hu hu' hw hl hp hreal
    have hst := run_storeCells_at P (ρ b).r off e (u.cells.map (C.den ρ)) 0 cur w hw (by simpa using hl) h1c
    simp only [Nat.add_zero, List.length_map] at hst
    have hlt := blk_lt hb
    have hrl := (hr.real b B hb).lt hu
    have hne : ∀ c D, blk H c = some D → D.used → c ≠ b → (ρ c).r ≠ (ρ b).r := fun c D hc hD hcb e => hcb (hr.inj c b D B hc hb hD hu e)
    refine ⟨w.setRow (ρ b).r (cur.toList.take off ++ u.cells.map (C.den ρ) ++ cur.toList.drop (off + u.cells.length)).toArray, ⟨(ρ b).r, off, none⟩, hp, ?_, ⟨fun r hr1 => ?_, by simpa using hr.big, fun c D hc => ?_, fun c c' D D' hc hc' hD hD' he => ?_⟩, ⟨rfl, rfl, rfl, by simp, fun r hr1 hr2 => ?_, fun c D hge hc _ => ?_, fun _ _ => rfl⟩⟩
    · simp only [storeVar, Sem.run_bind, sizeOf_run hz, Result.andThen_ok, hsz]
      simp only [ne_eq, not_true_eq_false, if_false, U.den_cells, Sem.run_pure, Result.andThen_ok]
      exact hst
    · rw [setRow_other _ _ _ _ (by omega), hr.low r hr1]
    · rw [hH', blk_set hlt] at hc
      by_cases ec : c = b
      · rw [if_pos ec] at hc
        cases hc
        rw [ec]; exact hreal
      · rw [if_neg ec] at hc
        have hR := hr.real c D hc
        by_cases hD : D.used
        · cases D with
          | cells cs =>
            obtain ⟨g1, rest, t', g2⟩ := hR
            exact ⟨g1, rest, t', by rw [setRow_other _ _ _ _ (hne c _ hc hD ec)]; exact g2⟩
          | row e2 sz n get fl =>
            rcases hR with g | ⟨g1, g2, g3, g4, cur2, g5, g6, g7⟩
            · exact .inl g
            · exact .inr ⟨g1, g2, g3, g4, cur2, by rw [setRow_other _ _ _ _ (hne c _ hc hD ec)]; exact g5, g6, g7⟩
        · cases D with
          | cells cs => exact absurd trivial hD
          | row e2 sz n get fl => exact .inl (by simpa [Blk.used] using hD)
    · rw [hH', blk_set hlt] at hc hc'
      have g1 : ∃ d, blk H c = some d ∧ d.used := by
        by_cases ec : c = b
        · subst ec; exact ⟨B, hb, hu⟩
        · rw [if_neg ec] at hc; exact ⟨D, hc, hD⟩
      have g2 : ∃ d, blk H c' = some d ∧ d.used := by
        by_cases ec : c' = b
        · subst ec; exact ⟨B, hb, hu⟩
        · rw [if_neg ec] at hc'; exact ⟨D', hc', hD'⟩
      obtain ⟨d1, g1, u1⟩ := g1
      obtain ⟨d2, g2, u2⟩ := g2
      exact hr.inj c c' d1 d2 g1 g2 u1 u2 he
    · exact setRow_other _ _ _ _ (fun eq => hr2 b B hb hu (by omega))
    · have := blk_lt hc
      rw [hH'] at this
      simp at this
      omega
  cases h with
  | c b o cs hb hl =>
    obtain ⟨hbase, rest, e, hw⟩ := hr.real b _ hb
    refine main b o _ _ _ e hb rfl trivial trivial hw (by simp; omega) rfl ⟨hbase, rest, e, ?_⟩
    have e1 : (List.take o (List.map (C.den ρ) cs ++ rest).toArray.toList ++ u.cells.map (C.den ρ) ++ List.drop (o + u.cells.length) (List.map (C.den ρ) cs ++ rest).toArray.toList) = (setRange cs o u.cells).map (C.den ρ) ++ rest := by
      unfold setRange
      simp only [List.map_append, List.map_take, List.map_drop]
      rw [List.take_append_of_le_length (by simp; omega), List.drop_append_of_le_length (by simp; omega)]
      simp
    rw [e1]
    exact setRow_heap w _ _ _ _ _ hw
  | r b sz i o e n get fl hb hi hl =>
    rcases hr.real b _ hb with hn | ⟨h1, h2, h3, h4, cur, h5, h6, h7⟩
    · omega
    have hfit : i * sz + sz ≤ cur.size := by
      rw [h6, ← Nat.succ_mul]
      exact Nat.mul_le_mul_right _ (by omega)
    refine main b (i * sz + o) _ _ cur e hb rfl (by show n ≠ 0; omega) (by show n ≠ 0; omega) h5 (by omega) rfl (.inr ⟨h1, h2, h3, fun j hj => ?_, _, setRow_heap w _ _ _ _ _ h5, ?_, fun j q x hj hx => ?_⟩)
    · have hlj := h4 j hj
      have hl2 : (setRange (get j) o u.cells).length = (get j).length := setRange_len (by omega)
      unfold rowSet
      cases Nat.beq j i
      · rw [mergeL_false _ _ hl2, hlj]
      · rw [mergeL_true _ _ hl2, hl2, hlj]
    · simp
      omega
    · have hlj := h4 j hj
      have hl2 : (setRange (get j) o u.cells).length = (get j).length := setRange_len (by omega)
      have hq : q < sz := by
        have hlen : (rowSet get i o u.cells j).length = sz := by
          unfold rowSet
          cases Nat.beq j i
          · rw [mergeL_false _ _ hl2, hlj]
          · rw [mergeL_true _ _ hl2, hl2, hlj]
        have := (List.getElem?_eq_some_iff.1 hx).1
        omega
      -- the cells of the new row
      have cell : ∀ k, (cur.toList.take (i * sz + o) ++ u.cells.map (C.den ρ) ++ cur.toList.drop (i * sz + o + u.cells.length))[k]? = if i * sz + o ≤ k ∧ k < i * sz + o + u.cells.length then (u.cells.map (C.den ρ))[k - (i * sz + o)]? else cur[k]? := by
        intro k
        rw [List.append_assoc, List.getElem?_append, List.getElem?_append]
        simp only [List.length_take, Array.length_toList, List.length_map, List.getElem?_take, List.getElem?_drop, Array.getElem?_toList]
        have hm : min (i * sz + o) cur.size = i * sz + o := by omega
        rw [hm]
        by_cases c1 : k < i * sz + o
        · rw [if_pos c1, if_pos c1, if_neg (by omega)]
        · rw [if_neg c1]
          by_cases c2 : k < i * sz + o + u.cells.length
          · rw [if_pos (by omega), if_pos (by omega)]
          · rw [if_neg (by omega), if_neg (by omega)]
            congr 1
            omega
      have key : (cur.toList.take (i * sz + o) ++ u.cells.map (C.den ρ) ++ cur.toList.drop (i * sz + o + u.cells.length))[j * sz + q]? = some (x.den ρ) := by
        rw [cell]
        by_cases hji : j = i
        · subst hji
          unfold rowSet at hx
          rw [show Nat.beq j j = true from Nat.beq_refl j, mergeL_true _ _ hl2, setRange_get (by omega)] at hx
          split at hx
          · rename_i hc
            rw [if_pos (by omega), show j * sz + q - (j * sz + o) = q - o by omega, List.getElem?_map, hx]
            rfl
          · rename_i hc
            rw [if_neg (by omega)]
            exact h7 j q x hj hx
        · unfold rowSet at hx
          have hb0 : Nat.beq j i = false := by
            cases hbq : Nat.beq j i with
            | false => rfl
            | true => exact absurd (Nat.eq_of_beq_eq_true hbq) hji
          rw [hb0, mergeL_false _ _ hl2] at hx
          rw [if_neg]
          · exact h7 j q x hj hx
          · rintro ⟨c1, c2⟩
            rcases Nat.lt_or_ge j i with hlt | hge
            · have : (j + 1) * sz ≤ i * sz := Nat.mul_le_mul_right _ hlt
              rw [Nat.succ_mul] at this
              omega
            · have : (i + 1) * sz ≤ j * sz := Nat.mul_le_mul_right _ (by omega)
              rw [Nat.succ_mul] at this
              omega
      simpa using key
/-! Appends. -/
def rowApp (get : Nat → List C) (n : Nat) (get2 : Nat → List C) : Nat → List C := fun j => cond (Nat.beq (get j).length (get2 (j - n)).length) (mergeL (Nat.blt j n) (get j) (get2 (j - n))) (cond (Nat.blt j n) (get j) (get2 (j - n)))
/-- The elements' cells, one behind the other. -/
def cellsOf (ρ : Ren) (get : Nat → List C) : Nat → List Value
  | 0 => []
  | n + 1 => cellsOf ρ get n ++ (get n).map (C.den ρ)
theorem cellsOf_len {ρ : Ren} {get : Nat → List C} {sz : Nat} : ∀ {n : Nat}, (∀ i, i < n → (get i).length = sz) → (cellsOf ρ get n).length = n * sz
  | 0, _ => by simp [cellsOf]
  | n + 1, h => by
    simp only [cellsOf, List.length_append, List.length_map]
    rw [cellsOf_len (n := n) (fun i hi => h i (by omega)), h n (by omega), Nat.succ_mul]
theorem cellsOf_get {ρ : Ren} {get : Nat → List C} {sz : Nat} : ∀ {n : Nat}, (∀ i, i < n → (get i).length = sz) → ∀ (k : Nat) (v : Value), (cellsOf ρ get n)[k]? = some v ↔ ∃ i j x, i < n ∧ k = i * sz + j ∧ (get i)[j]? = some x ∧ x.den ρ = v
  | 0, _, k, v => by simp [cellsOf]
  | n + 1, h, k, v => by
    have hl := cellsOf_len (ρ := ρ) (n := n) (fun i hi => h i (by omega))
    have ih := cellsOf_get (ρ := ρ) (n := n) (fun i hi => h i (by omega)) k v
    simp only [cellsOf]
    rw [List.getElem?_append]
    by_cases hk : k < n * sz
    · rw [if_pos (by omega), ih]
      constructor
      · rintro ⟨i, j, x, h1, h2, h3, h4⟩; exact ⟨i, j, x, by omega, h2, h3, h4⟩
      · rintro ⟨i, j, x, h1, h2, h3, h4⟩
        refine ⟨i, j, x, ?_, h2, h3, h4⟩
        rcases Nat.lt_or_ge i n with hh | hh
        · exact hh
        · have : n * sz ≤ i * sz := Nat.mul_le_mul_right _ hh
          omega
    · rw [if_neg (by omega), hl, List.getElem?_map, Option.map_eq_some_iff]
      constructor
      · rintro ⟨x, h1, h2⟩; exact ⟨n, k - n * sz, x, by omega, by omega, h1, h2⟩
      · rintro ⟨i, j, x, h1, h2, h3, h4⟩
        have hj : j < sz := by have := (List.getElem?_eq_some_iff.1 h3).1; rw [h i h1] at this; exact this
        have hin : i = n := by
          rcases Nat.lt_or_ge i n with hh | hh
          · have : (i + 1) * sz ≤ n * sz := Nat.mul_le_mul_right _ hh
            rw [Nat.succ_mul] at this
            omega
          · omega
        subst hin
        exact ⟨x, by rw [h2, Nat.add_sub_cancel_left]; exact h3, h4⟩
theorem cellsOf_one {ρ : Ren} {get : Nat → List C} : ∀ n, ∀ v ∈ cellsOf ρ get n, v.oneCell' = true
  | 0, v, h => by cases h
  | n + 1, v, h => by
    simp only [cellsOf, List.mem_append] at h
    rcases h with h | h
    · exact cellsOf_one n v h
    · rw [List.mem_map] at h
      obtain ⟨x, _, rfl⟩ := h
      exact C.den_one ρ x
/-- What is appended: elements that can be read. -/
structure Src (H : Heap) (x : C) (sz n2 : Nat) (get2 : Nat → List C) (fl2 : Bool) : Prop where
  lens : ∀ (W : World) (S : Nat → Prop) (ρ : Ren) (w : World), HR ρ W H w → x.sc W S → ∀ i, i < n2 → (get2 i).length = sz
  sc : ∀ (W : World) (S : Nat → Prop), ScH W S H → x.sc W S → (∀ i, i < n2 → (get2 i).length = sz ∧ ∀ y ∈ get2 i, y.sc W S) ∧ (fl2 = true → ∀ i, i < n2 → ∀ y ∈ get2 i, y.sc W fun _ => False)
  run : ∀ (W : World) (S : Nat → Prop) (ρ : Ren) (w : World), HR ρ W H w → x.sc W S → 0 < n2 → ∃ ad c, x.den ρ = .slice (some ad) n2 c ∧ ∀ i j y, i < n2 → (get2 i)[j]? = some y → w.cell? (ad.add (i * sz + j)) = some (y.den ρ)
theorem src_row {H : Heap} {b sz st n2 n : Nat} {nl fl : Bool} {e : TypeId} {get : Nat → List C} (hb : blk H b = some (.row e sz n get fl)) (hn : st + n2 ≤ n) : Src H (.row b sz st n2 nl) sz n2 (fun i => get (st + i)) fl := by
  refine ⟨fun W S ρ w hr _ i hi => hr.lens b e sz n get fl hb (st + i) (by omega), fun W S hs _ => ⟨fun i hi => (hs b _ hb).1 _ (by omega), fun hf i hi => (hs b _ hb).2 hf _ (by omega)⟩, fun W S ρ w hr _ h0 => ?_⟩
  rcases hr.real b _ hb with hz | ⟨h1, h2, h3, h4, cur, h5, h6, h7⟩
  · omega
  refine ⟨⟨(ρ b).r, st * sz, none⟩, (ρ b).k - st, ?_, fun i j y hi hy => ?_⟩
  · have : (nl && n2 == 0) = false := by cases nl <;> simp; omega
    simp only [C.den, this, cond_false]
  · have := h7 (st + i) j y (by omega) hy
    rw [addr_add]
    rw [Nat.add_mul, Nat.add_assoc] at this
    simp only [World.cell?, h5, this]
    simp
theorem src_as {H : Heap} {ad : Option Addr} {sz n2 cap : Nat} {get : Nat → List C} : Src H (.as ad sz n2 cap get) sz n2 get false := by
  refine ⟨fun W S ρ w hr hx i hi => ?_, fun W S _ hx => ⟨fun i hi => ?_, fun hf => by cases hf⟩, fun W S ρ w hr hx h0 => ?_⟩
  · have hok : AOk W (.as ad sz n2 cap get) := hx
    cases hok with
    | as _ _ _ _ _ hl hn hcap hok hc => exact hl i hi
  · have hok : AOk W (.as ad sz n2 cap get) := hx
    cases hok with
    | as _ _ _ _ _ hl hn hcap hok hc =>
      refine ⟨hl i hi, fun y hy => ?_⟩
      obtain ⟨j, hj⟩ := List.getElem?_of_mem hy
      exact (hok i j y hi hj).sc S
  · have hok : AOk W (.as ad sz n2 cap get) := hx
    cases hok with
    | as _ _ _ _ _ hl hn hcap hok hc =>
      cases had : ad with
      | none => have := hn had; omega
      | some a0 =>
        refine ⟨a0, cap, rfl, fun i j y hi hy => ?_⟩
        obtain ⟨g1, g2⟩ := hc i j y a0 hi hy had
        rw [low_cell hr (by rw [add_block']; exact g1), g2, (hok i j y hi hy).den]
/-- An append that makes a row longer: the blocks then (the new row behind all others). -/
inductive AppTo (H : Heap) (e : TypeId) (sz n2 : Nat) (get2 : Nat → List C) (fl2 : Bool) : C → Nat → Heap → List Foot → Prop
  | nil : AppTo H e sz n2 get2 fl2 .nils 0 (H ++ [some (.row e sz n2 get2 fl2)]) []
  | row (b n N : Nat) (nl : Bool) (get : Nat → List C) (fl : Bool) (hb : blk H b = some (.row e sz N get fl)) (hn : n ≤ N) (hz : n = 0 → nl = true) : AppTo H e sz n2 get2 fl2 (.row b sz 0 n nl) n (H.set b none ++ [some (.row e sz (n + n2) (rowApp get n get2) (fl && fl2))]) [.r b]
theorem app_len {H : Heap} {e : TypeId} {sz n2 : Nat} {get2 : Nat → List C} {fl2 : Bool} {s : C} {n : Nat} {H' : Heap} {l : List Foot} (h : AppTo H e sz n2 get2 fl2 s n H' l) : H'.length = H.length + 1 := by
  cases h <;> simp
theorem app_blk {H : Heap} {e : TypeId} {sz n2 : Nat} {get2 : Nat → List C} {fl2 : Bool} {s : C} {n : Nat} {H' : Heap} {l : List Foot} (h : AppTo H e sz n2 get2 fl2 s n H' l) : ∀ c D, blk H' c = some D → (c < H.length ∧ blk H c = some D ∧ ¬ touch l c) ∨ (c = H.length ∧ ∃ get fl, D = .row e sz (n + n2) get fl) := by
  cases h with
  | nil =>
    intro c D hc
    rcases blk_push hc with ⟨h1, h2⟩ | ⟨h1, h2⟩
    · exact .inl ⟨h1, h2, fun ⟨f, hf, _⟩ => by cases hf⟩
    · exact .inr ⟨h1, get2, fl2, by rw [h2, Nat.zero_add]⟩
  | row b n N nl get fl hb hn hz =>
    intro c D hc
    rcases blk_push hc with ⟨h1, h2⟩ | ⟨h1, h2⟩
    · rw [blk_set (blk_lt hb)] at h2
      by_cases ec : c = b
      · rw [if_pos ec] at h2; cases h2
      · rw [if_neg ec] at h2
        exact .inl ⟨by simpa using h1, h2, fun ⟨f, hf, e⟩ => by rw [List.mem_singleton] at hf; subst hf; exact ec e.symm⟩
    · exact .inr ⟨by simpa using h1, _, _, h2⟩
theorem app_gr {H : Heap} {e : TypeId} {sz n2 : Nat} {get2 : Nat → List C} {fl2 : Bool} {s : C} {n : Nat} {H' : Heap} {l : List Foot} (h : AppTo H e sz n2 get2 fl2 s n H' l) : Gr H H' l := by
  cases h with
  | nil => exact gr_push H _
  | row b n N nl get fl hb hn hz =>
    have g : Gr H (H.set b none) [.r b] := by
      have hlt := blk_lt hb
      refine ⟨by simp, fun c hc hn => ?_, fun c B hc ht => ?_, fun c ds hc => ?_, fun c B B' hc hc' hu => ?_, fun c B B' hc hc' => ?_⟩
      · rw [blk_set hlt]; split
        · rfl
        · exact hn
      · have e : c ≠ b := fun e => ht ⟨_, List.mem_singleton.2 rfl, e.symm⟩
        rw [blk_set hlt, if_neg e]; exact hc
      · have e : c ≠ b := fun e => by subst e; rw [hb] at hc; cases hc
        exact ⟨ds, by rw [blk_set hlt, if_neg e]; exact hc, rfl, fun _ _ => rfl⟩
      · rw [blk_set hlt] at hc'
        split at hc'
        · cases hc'
        · rw [hc] at hc'; cases hc'; exact hu
      · rw [blk_set hlt] at hc'
        split at hc'
        · cases hc'
        · rw [hc] at hc'; cases hc'; rfl
    have := g.trans (gr_push (H.set b none) (.row e sz (n + n2) (rowApp get n get2) (fl && fl2)))
    simpa using this
theorem blt_true {j n : Nat} (h : j < n) : Nat.blt j n = true := by simp [Nat.blt]; omega
theorem blt_false {j n : Nat} (h : ¬ j < n) : Nat.blt j n = false := by
  cases hb : Nat.blt j n with
  | false => rfl
  | true => simp [Nat.blt] at hb; omega
theorem rowApp_get (get get2 : Nat → List C) (n j : Nat) : rowApp get n get2 j = if j < n then get j else get2 (j - n) := by
  unfold rowApp
  cases hl : Nat.beq (get j).length (get2 (j - n)).length with
  | true =>
    have hl' := Nat.eq_of_beq_eq_true hl
    rw [cond_true]
    by_cases hc : j < n
    · rw [blt_true hc, if_pos hc, mergeL_true _ _ hl']
    · rw [blt_false hc, if_neg hc, mergeL_false _ _ hl']
  | false =>
    rw [cond_false]
    by_cases hc : j < n
    · rw [blt_true hc, if_pos hc, cond_true]
    · rw [blt_false hc, if_neg hc, cond_false]
theorem app_sc {H : Heap} {e : TypeId} {sz n2 : Nat} {get2 : Nat → List C} {fl2 : Bool} {s x : C} {n : Nat} {H' : Heap} {l : List Foot} (h : AppTo H e sz n2 get2 fl2 s n H' l) (hx : Src H x sz n2 get2 fl2) {W : World} {S : Nat → Prop} (hs : ScH W S H) (hxs : x.sc W S) : ScH W S H' := by
  obtain ⟨g1, g2⟩ := hx.sc W S hs hxs
  cases h with
  | nil =>
    intro c D hc
    rcases blk_push hc with ⟨_, h2⟩ | ⟨_, h2⟩
    · exact hs c D h2
    · subst h2; exact ⟨g1, g2⟩
  | row b n N nl get fl hb hn hz =>
    intro c D hc
    rcases blk_push hc with ⟨_, h2⟩ | ⟨_, h2⟩
    · rw [blk_set (blk_lt hb)] at h2
      split at h2
      · cases h2
      · exact hs c D h2
    · subst h2
      have hB := hs b _ hb
      refine ⟨fun i hi => ?_, fun hf i hi y hy => ?_⟩
      · rw [rowApp_get]
        split
        · exact hB.1 i (by omega)
        · exact g1 (i - n) (by omega)
      · rw [Bool.and_eq_true] at hf
        rw [rowApp_get] at hy
        split at hy
        · exact hB.2 hf.1 i (by omega) y hy
        · exact g2 hf.2 (i - n) (by omega) y hy
/-- The new row lies at g: what follows. -/
theorem app_fin {H H' : Heap} {e : TypeId} {sz n2 n : Nat} {get2 get : Nat → List C} {fl2 : Bool} {s x : C} {l : List Foot} (h : AppTo H e sz n2 get2 fl2 s n H' l) (hx : Src H x sz n2 get2 fl2) {ρ : Ren} {W : World} {S : Nat → Prop} {w w' : World} (hr : HR ρ W H w) (hS : ScH W S H) (hxs : x.sc W S) (hlt : ∀ b, S b → b < H.length)
    (hget : ∀ fl g, blk H' H.length = some (.row e sz (n + n2) g fl) → ∀ j, g j = if j < n then get j else get2 (j - n)) (hlens : ∀ i, i < n → (get i).length = sz) (hscg : ∀ i, i < n → ∀ y ∈ get i, y.sc W S)
    {g cap : Nat} {cur : Array Value} (hos : w'.os = w.os) (htape : w'.tape = w.tape) (hout : w'.output = w.output) (hsize : w.heap.size ≤ w'.heap.size) (hoth : ∀ k, k < w.heap.size → k ≠ g → w'.heap[k]? = w.heap[k]?) (hplace : w.heap.size ≤ g ∨ ∃ b B, touch l b ∧ blk H b = some B ∧ B.used ∧ (ρ b).r = g)
    (hg : w'.heap[g]? = some (.cells cur e (0, 0))) (hW : W.heap.size ≤ g) (hnc : n + n2 ≤ cap) (hcm : cap ≤ maxLen) (hcs : cur.size = cap * sz) (hcells : ∀ (k : Nat) (v : Value), (cellsOf ρ get n ++ cellsOf ρ get2 n2)[k]? = some v → cur[k]? = some v) :
    ∃ ρ' : Ren, ρ' H.length = ⟨g, cap⟩ ∧ HR ρ' W H' w' ∧ Fr H ρ H' ρ' w w' := by
  have hl2 := hx.lens W S ρ w hr hxs
  have hsc2 := (hx.sc W S hS hxs).1
  obtain ⟨ρ', hρ⟩ : ∃ ρ' : Ren, ρ' = fun b => if b = H.length then ⟨g, cap⟩ else ρ b := ⟨_, rfl⟩
  have hnew : ρ' H.length = ⟨g, cap⟩ := by rw [hρ]; simp
  have hre : ∀ b, b < H.length → ρ' b = ρ b := fun b hb => by rw [hρ]; simp only; rw [if_neg (by omega)]
  have hlen' := app_len h
  -- a block that is left lies elsewhere
  have hne : ∀ c D, blk H c = some D → D.used → ¬ touch l c → (ρ c).r ≠ g := by
    intro c D hc hD ht he
    rcases hplace with hp | ⟨b, B, q1, q2, q3, q4⟩
    · have := ((hr.real c D hc).lt hD).2; omega
    · have := hr.inj c b D B hc q2 hD q3 (by rw [he, q4])
      subst this
      exact ht q1
  have hdead : ∀ b, touch l b → blk H' b = none := by
    intro b hb
    cases h with
    | nil => obtain ⟨f, hf, _⟩ := hb; cases hf
    | row b' n N nl get' fl hb' hn hz =>
      obtain ⟨f, hf, eb⟩ := hb
      rw [List.mem_singleton] at hf
      subst hf
      have eb : b' = b := eb
      subst eb
      have : (H.set b' none ++ [some (Blk.row e sz (n + n2) (rowApp get' n get2) (fl && fl2))])[b']? = some none := by
        rw [List.getElem?_append_left (by simpa using blk_lt hb')]
        simp [blk_lt hb']
      unfold blk
      rw [nth_eq, this]
      rfl
  refine ⟨ρ', hnew, ⟨fun r hr1 => ?_, Nat.le_trans hr.big hsize, fun c D hc => ?_, fun c c' D D' hc hc' hD hD' he => ?_⟩, ⟨hos, htape, hout, hsize, fun r hr1 hr2 => ?_, fun c D hge hc hD => ?_, hre⟩⟩
  · rw [hoth r (by have := hr.big; omega) (by omega), hr.low r hr1]
  · rcases app_blk h c D hc with ⟨q1, q2, q3⟩ | ⟨q1, get', fl, q2⟩
    · exact (hr.real c D q2).keep (hS c D q2) (fun b hb => hre b (hlt b hb)) (hre c q1) (fun hD => hoth _ ((hr.real c D q2).lt hD).2 (hne c D q2 hD q3))
    · subst q1
      subst q2
      have hg' := hget fl get' hc
      have hlen2 : ∀ i, i < n + n2 → (get' i).length = sz := fun i hi => by
        rw [hg' i]
        split
        · exact hlens i (by assumption)
        · exact hl2 (i - n) (by omega)
      refine .inr ⟨by rw [hnew]; exact hW, by rw [hnew]; exact hnc, by rw [hnew]; exact hcm, hlen2, cur, by rw [hnew]; exact hg, by rw [hnew]; exact hcs, fun i j y hi hy => ?_⟩
      have hl1 : (cellsOf ρ get n).length = n * sz := cellsOf_len hlens
      have hj : j < sz := by have := (List.getElem?_eq_some_iff.1 hy).1; rw [hlen2 i hi] at this; exact this
      refine hcells (i * sz + j) _ ?_
      rw [hg' i] at hy
      by_cases hin : i < n
      · rw [if_pos hin] at hy
        have h1 : (i + 1) * sz ≤ n * sz := Nat.mul_le_mul_right _ hin
        rw [Nat.succ_mul] at h1
        rw [List.getElem?_append_left (by omega)]
        have := (cellsOf_get (ρ := ρ) hlens (i * sz + j) (y.den ρ)).2 ⟨i, j, y, hin, rfl, hy, rfl⟩
        rw [this, C.den_congr (fun b hb => hre b (hlt b hb)) (hscg i hin y (List.mem_of_getElem? hy))]
      · rw [if_neg hin] at hy
        have h1 : n * sz ≤ i * sz := Nat.mul_le_mul_right _ (by omega)
        rw [List.getElem?_append_right (by omega), hl1]
        have := (cellsOf_get (ρ := ρ) hl2 ((i - n) * sz + j) (y.den ρ)).2 ⟨i - n, j, y, by omega, rfl, hy, rfl⟩
        rw [show i * sz + j - n * sz = (i - n) * sz + j by rw [Nat.sub_mul]; omega, this, C.den_congr (fun b hb => hre b (hlt b hb)) ((hsc2 (i - n) (by omega)).2 y (List.mem_of_getElem? hy))]
  · rcases app_blk h c D hc with ⟨q1, q2, q3⟩ | ⟨q1, _⟩ <;> rcases app_blk h c' D' hc' with ⟨r1, r2, r3⟩ | ⟨r1, _⟩
    · rw [hre c q1, hre c' r1] at he; exact hr.inj c c' D D' q2 r2 hD hD' he
    · rw [hre c q1, r1, hnew] at he; exact absurd he (hne c D q2 hD q3)
    · rw [hre c' r1, q1, hnew] at he; exact absurd he.symm (hne c' D' r2 hD' r3)
    · rw [q1, r1]
  · refine hoth r hr1 (fun e => ?_)
    rcases hplace with hp | ⟨b, B, q1, q2, q3, q4⟩
    · omega
    · exact hr2 b B q2 q3 (by omega)
  · rcases app_blk h c D hc with ⟨q1, _⟩ | ⟨q1, _⟩
    · omega
    · rw [q1, hnew]
      rcases hplace with hp | ⟨b, B, q1, q2, q3, q4⟩
      · exact .inl hp
      · exact .inr ⟨b, B, q2, q3, hdead b q1, q4.symm⟩
theorem app_run {P : Program} {H H' : Heap} {t ty e : TypeId} {sz n2 n : Nat} {get2 : Nat → List C} {fl2 : Bool} {s x : C} {l : List Foot} (h : AppTo H e sz n2 get2 fl2 s n H' l) (hx : Src H x sz n2 get2 fl2) (h0 : 0 < n2) (hu : P.underlying t = some (.slice e)) {i : TypeInfo} (hi : P.info? e = some i) (hsz : i.size = sz) (hsz0 : 0 < sz) (hzero : ∃ zc, zeroC P e = some zc ∧ zc.length = sz)
    (hb : (n + n2) * i.bytes ≤ 140737488355328) (hm : n + n2 ≤ 140737488355328) {ρ : Ren} {W : World} {S : Nat → Prop} {w : World} (hr : HR ρ W H w) (hS : ScH W S H) (hxs : x.sc W S) (hlt : ∀ b, S b → b < H.length) :
    ∃ ρ' w', (Builtin.append_ #[t, t] ty #[s.den ρ, x.den ρ]).run P w = .ok ((C.row H.length sz 0 (n + n2) true).den ρ') w' ∧ HR ρ' W H' w' ∧ Fr H ρ H' ρ' w w' := by
  subst hsz
  obtain ⟨ad, c, e1, e2⟩ := hx.run W S ρ w hr hxs h0
  have hl2 := hx.lens W S ρ w hr hxs
  obtain ⟨zc, hz1, hz2⟩ := hzero
  obtain ⟨z, hz3, hz4⟩ := zeroC_run hz1 ρ w
  have hzero' : i.zero = some z := by
    unfold zeroValue typeInfo at hz3
    simp [hi] at hz3
    cases hq : i.zero with
    | none => simp [hq] at hz3
    | some z' => simp [hq] at hz3; rw [hz3]
  have hzs : z.cells.size = i.size := by rw [hz4]; simp [hz2]
  have hnews : ∀ j u, (cellsOf ρ get2 n2)[j]? = some u → w.cell? (ad.add j) = some u := by
    intro j u hj
    obtain ⟨p, q, y, h1, h2, h3, h4⟩ := (cellsOf_get hl2 j u).1 hj
    rw [h2, e2 p q y h1 h3, h4]
  have hnl2 := cellsOf_len (ρ := ρ) hl2
  have hmax : n + n2 ≤ maxLen := by unfold maxLen; omega
  have hden : ∀ g cap, ∀ ρ' : Ren, ρ' H.length = ⟨g, cap⟩ → (C.row H.length i.size 0 (n + n2) true).den ρ' = .slice (some ⟨g, 0, none⟩) (n + n2) cap := by
    intro g cap ρ' hρ
    have : (true && n + n2 == 0) = false := by simp; omega
    simp only [C.den, this, cond_false, hρ, Nat.zero_mul, Nat.sub_zero]
  have halloc : ∀ o : Obj, w.heap.size ≤ (w.drew.alloc o).heap.size := fun o => by show _ ≤ (w.heap.push _).size; simp
  have hnewat : ∀ o : Obj, (w.drew.alloc o).heap[w.heap.size]? = some o := fun o => by
    show (w.heap.push o)[w.heap.size]? = _; simp
  have holdat : ∀ (o : Obj) k, k < w.heap.size → (w.drew.alloc o).heap[k]? = w.heap[k]? := fun o k hk => by
    show (w.heap.push o)[k]? = _; rw [Array.getElem?_push, if_neg (by omega)]
  have hget : ∀ (get : Nat → List C), (∀ fl g, blk H' H.length = some (.row e i.size (n + n2) g fl) → ∀ j, g j = if j < n then get j else get2 (j - n)) → True := fun _ _ => trivial
  -- from a nil slice
  have fresh0 : n = 0 → s.den ρ = .slice none 0 0 → (∀ fl g, blk H' H.length = some (.row e i.size (n + n2) g fl) → ∀ j, g j = if j < n then [] else get2 (j - n)) → ∃ ρ' w', (Builtin.append_ #[t, t] ty #[s.den ρ, x.den ρ]).run P w = .ok ((C.row H.length i.size 0 (n + n2) true).den ρ') w' ∧ HR ρ' W H' w' ∧ Fr H ρ H' ρ' w w' := by
    intro hn0 hs hg0
    subst hn0
    have hrun := run_append_nil (P := P) w t ty e i z hu hi hzero' ad n2 c (cellsOf ρ get2 n2) hnl2 hnews h0 (by omega) (by simp only [Nat.zero_add] at hb; omega)
    obtain ⟨ρ', h1, h2, h3⟩ := app_fin (w' := w.drew.alloc (.cells ((cellsOf ρ get2 n2).toArray ++ Builtin.zeroCells z.cells (grownCap w n2 0 e - n2)) e)) (get := fun _ => []) (g := w.heap.size) (cap := grownCap w n2 0 e) h hx hr hS hxs hlt hg0 (fun i hi => absurd hi (by omega)) (fun i hi => absurd hi (by omega)) rfl rfl rfl (halloc _) (fun k hk _ => holdat _ k hk) (.inl (Nat.le_refl _)) (hnewat _) hr.big (by have := grownCap_ge w n2 0 e; omega) (grownCap_le_maxLen w n2 0 e (by omega)) (by
      have := grownCap_ge w n2 0 e
      simp only [Array.size_append, List.size_toArray, size_zeroCells, hzs, hnl2, ← Nat.add_mul]
      congr 1
      omega) (fun k v hk => by
      simp only [cellsOf, List.nil_append] at hk
      rw [Array.getElem?_append_left (by have := (List.getElem?_eq_some_iff.1 hk).1; simpa using this)]
      simpa using hk)
    refine ⟨ρ', _, ?_, h2, h3⟩
    rw [hs, e1, hrun, hden _ _ _ h1, Nat.zero_add]
  cases h with
  | nil =>
    refine fresh0 rfl rfl fun fl g hg j => ?_
    rcases blk_push hg with ⟨h1, _⟩ | ⟨_, h2⟩
    · omega
    · have hgg : g = get2 := (Blk.row.inj h2).2.2.2.1
      rw [hgg, if_neg (by omega)]
      rfl
  | row b n N nl get fl hb' hn hz =>
    have hgetN : ∀ fl' g, blk (H.set b none ++ [some (Blk.row e i.size (n + n2) (rowApp get n get2) (fl && fl2))]) H.length = some (.row e i.size (n + n2) g fl') → ∀ j, g j = if j < n then get j else get2 (j - n) := by
      intro fl' g hg j
      rcases blk_push hg with ⟨h1, _⟩ | ⟨_, h2⟩
      · simp at h1
      · cases h2
        exact rowApp_get get get2 n j
    by_cases hn0 : n = 0
    · refine fresh0 hn0 ?_ fun fl' g hg j => ?_
      · rw [hn0, hz hn0]; rfl
      · rw [hgetN fl' g hg j, if_neg (by omega), if_neg (by omega)]
    · have hlens : ∀ i', i' < n → (get i').length = i.size := fun i' hi' => hr.lens b e i.size N get fl hb' i' (by omega)
      have hscg : ∀ i', i' < n → ∀ y ∈ get i', y.sc W S := fun i' hi' => ((hS b _ hb').1 i' (by omega)).2
      rcases hr.real b _ hb' with hN | ⟨q1, q2, q3, q4, cur, q5, q6, q7⟩
      · omega
      have hnl : (nl && n == 0) = false := by cases nl <;> simp; omega
      have hsden : (C.row b i.size 0 n nl).den ρ = .slice (some ⟨(ρ b).r, 0, none⟩) n (ρ b).k := by
        simp only [C.den, hnl, cond_false, Nat.zero_mul, Nat.sub_zero]
      have holds : ∀ (k : Nat) (v : Value), (cellsOf ρ get n)[k]? = some v → cur[k]? = some v := by
        intro k v hk
        obtain ⟨p, q, y, r1, r2, r3, r4⟩ := (cellsOf_get hlens k v).1 hk
        rw [r2, ← r4]
        exact q7 p q y (by omega) r3
      have hol := cellsOf_len (ρ := ρ) hlens
      have hused : (Blk.row e i.size N get fl).used := by show N ≠ 0; omega
      rw [hsden, e1]
      by_cases hroom : n + n2 ≤ (ρ b).k
      · have hfit : n * i.size + (cellsOf ρ get2 n2).length ≤ cur.size := by rw [hnl2, q6, ← Nat.add_mul]; exact Nat.mul_le_mul_right _ hroom
        have hrun := run_append_room (P := P) w t ty e i hu hi (ρ b).r n (ρ b).k cur q5 ad n2 c (cellsOf ρ get2 n2) hnl2 hnews (cellsOf_one n2) hroom hfit
        obtain ⟨ρ', h1, h2, h3⟩ := app_fin (w' := w.setRow (ρ b).r (cur.toList.take (n * i.size) ++ cellsOf ρ get2 n2 ++ cur.toList.drop (n * i.size + (cellsOf ρ get2 n2).length)).toArray) (get := get) (g := (ρ b).r) (cap := (ρ b).k) (.row b n N nl get fl hb' hn hz) hx hr hS hxs hlt hgetN hlens hscg rfl rfl rfl (by simp) (fun k hk hkg => setRow_other _ _ _ _ hkg) (.inr ⟨b, _, ⟨_, List.mem_singleton.2 rfl, rfl⟩, hb', hused, rfl⟩) (setRow_heap w _ _ _ _ _ q5) q1 hroom q3 (by
            simp only [List.size_toArray, List.length_append, List.length_take, List.length_drop, Array.length_toList]
            omega) (fun k v hk => by
            rw [List.getElem?_append] at hk
            simp only [List.getElem?_toArray]
            rw [List.append_assoc, List.getElem?_append]
            simp only [List.length_take, Array.length_toList, List.getElem?_take]
            have hm' : min (n * i.size) cur.size = n * i.size := by omega
            rw [hm']
            by_cases hc : k < n * i.size
            · rw [if_pos hc, if_pos hc]
              rw [if_pos (by omega)] at hk
              have := holds k v hk
              simpa using this
            · rw [if_neg hc]
              rw [if_neg (by omega), hol] at hk
              rw [List.getElem?_append_left (by have := (List.getElem?_eq_some_iff.1 hk).1; exact this)]
              exact hk)
        exact ⟨ρ', _, by rw [hrun, hden _ _ _ h1], h2, h3⟩
      · have hcellsw : ∀ j v, (cellsOf ρ get n)[j]? = some v → w.cell? ((⟨(ρ b).r, 0, none⟩ : Addr).add j) = some v := by
          intro j v hj
          have := holds j v hj
          rw [addr_add]
          simp only [World.cell?, q5, Nat.zero_add]
          simpa using this
        have hrun := run_append_grow (P := P) w t ty e i z hu hi hzero' ⟨(ρ b).r, 0, none⟩ n (ρ b).k (cellsOf ρ get n) hol hcellsw ad n2 c (cellsOf ρ get2 n2) hnl2 hnews (by omega) (by omega) (growslice_fits (by omega) hb)
        obtain ⟨ρ', h1, h2, h3⟩ := app_fin (w' := w.drew.alloc (.cells ((cellsOf ρ get n).toArray ++ (cellsOf ρ get2 n2).toArray ++ Builtin.zeroCells z.cells (grownCap w (n + n2) (ρ b).k e - (n + n2))) e)) (get := get) (g := w.heap.size) (cap := grownCap w (n + n2) (ρ b).k e) (.row b n N nl get fl hb' hn hz) hx hr hS hxs hlt hgetN hlens hscg rfl rfl rfl (halloc _) (fun k hk _ => holdat _ k hk) (.inl (Nat.le_refl _)) (hnewat _) hr.big (grownCap_ge w _ _ e) (grownCap_le_maxLen w _ _ e hmax) (by
            have := grownCap_ge w (n + n2) (ρ b).k e
            simp only [Array.size_append, List.size_toArray, size_zeroCells, hzs, hnl2, hol, ← Nat.add_mul]
            congr 1
            omega) (fun k v hk => by
            rw [Array.getElem?_append_left (by have := (List.getElem?_eq_some_iff.1 hk).1; simpa using this)]
            simpa using hk)
        exact ⟨ρ', _, by rw [hrun, hden _ _ _ h1], h2, h3⟩
end Go.Proofs.Ytbgdfikfldkjbaa.AI
