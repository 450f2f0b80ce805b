/- The step of the reference, in lists: it is the program's. Plain lists. -/
import Derived.Test.YtndbchcfjajgbaaPureDo
namespace Go.Proofs.Ytndbchcfjajgbaa.XP
open Go Go.RowKit
set_option linter.unusedVariables false
set_option linter.unusedSimpArgs false
def withoutL (l : List S24) (s : ByteArray) : List S24 := l.filter fun y => decide (y.f0 ≠ s)
def putW (l : List S24) (x : S24) : List S24 := insP (withoutL l x.f0) x
theorem without_get (s t : ByteArray) : ∀ l : List S24, getK S24.f0 (withoutL l s) t = if s = t then none else getK S24.f0 l t
  | [] => by unfold withoutL; rw [List.filter_nil, getK_nil]; split <;> rfl
  | y :: l => by
    have ih := without_get s t l
    unfold withoutL at ih ⊢
    rw [List.filter_cons, getK_cons]
    by_cases h : y.f0 = s
    · rw [if_neg (by simp [h]), ih]
      by_cases h2 : s = t
      · rw [if_pos h2, if_pos h2]
      · rw [if_neg h2, if_neg h2, if_neg (show ¬ S24.f0 y = t from fun e => h2 (h.symm.trans e))]
    · rw [if_pos (by simp [h]), getK_cons, ih]
      by_cases h2 : s = t
      · rw [if_pos h2, if_pos h2, if_neg (show ¬ S24.f0 y = t from fun e => h (e.trans h2.symm))]
      · rw [if_neg h2, if_neg h2]
theorem without_sorted {l : List S24} (hs : Sorted l) (s : ByteArray) : Sorted (withoutL l s) := List.Pairwise.filter _ hs
theorem putW_rises {l : List S24} (hs : Sorted l) (x : S24) : Sorted (putW l x) ∧ ∀ t, getK S24.f0 (putW l x) t = if x.f0 = t then some x else getK S24.f0 l t := by
  obtain ⟨h1, h2⟩ := ins_rises (without_sorted hs x.f0) x (by rw [without_get, if_pos rfl])
  refine ⟨h1, fun t => ?_⟩
  show getK S24.f0 (insP (withoutL l x.f0) x) t = _
  rw [h2 t, without_get]
  by_cases h : x.f0 = t
  · rw [if_pos h, if_pos h]
  · rw [if_neg h, if_neg h, if_neg h]
theorem putW_eq {l : List S24} (hs : Sorted l) (x : S24) {m : List S24} (hm : Sorted m) (h : ∀ t, getK S24.f0 m t = if x.f0 = t then some x else getK S24.f0 l t) : putW l x = m :=
  rises_ext (putW_rises hs x).1 hm fun t => by rw [(putW_rises hs x).2 t, h t]
def boundW (l : List S24) : List S24 × Int := if l.length > 100 then ([], 3) else (l, 0)
def doW (l : List S24) (a : Int) (b c : ByteArray) (d e : Int) (f g : ByteArray) (h i : Int) : List S24 × Int :=
  if validB l = true then
    (if shapedB a b c d e f g h i = true then
      (if a = 1 then (if (getK S24.f0 l b).isSome = true then ([], 6) else boundW (putW l ⟨b, c, d, e⟩))
      else match getK S24.f0 l f with
        | none => ([], 7)
        | some p =>
          if a = 2 then (withoutL l f, 0)
          else if a = 5 then (if h < 1 ∨ h ≥ p.f2 then ([], 2) else (putW l ⟨p.f0, p.f1, p.f2 - h, p.f3⟩, 0))
          else if a = 3 then (if (getK S24.f0 l g).isSome = true then ([], 6) else if h < 1 ∨ h ≥ p.f2 ∨ i < 1 ∨ i ≥ p.f3 then ([], 2) else boundW (putW (putW l ⟨p.f0, p.f1, p.f2 - h, p.f3 - i⟩) ⟨g, p.f1, h, i⟩))
          else match getK S24.f0 l g with
            | none => ([], 7)
            | some q => if f = g ∨ ¬ p.f1 = q.f1 then ([], 9) else if q.f2 + p.f2 > 1000000 ∨ q.f3 + p.f3 > 1000 then ([], 2) else (putW (withoutL l f) (sumP q p), 0))
    else ([], 1))
  else ([], 1)
theorem bound_ins {l : List S24} (hs : Sorted l) (x : S24) (hx : getK S24.f0 l x.f0 = none) : boundW (putW l x) = if l.length ≥ 100 then ([], 3) else (insP l x, 0) := by
  obtain ⟨h1, h2⟩ := ins_rises hs x hx
  rw [putW_eq hs x h1 h2]
  unfold boundW
  rw [len_ins]
  by_cases h : l.length ≥ 100
  · rw [if_pos h, if_pos (by omega)]
  · rw [if_neg h, if_neg (by omega)]
theorem put_set {l : List S24} (hs : Sorted l) {f : ByteArray} {p : S24} (hp : getK S24.f0 l f = some p) (q : S24) (hq : q.f0 = p.f0) : putW l q = l.set (posK S24.f0 f l) q :=
  putW_eq hs q (sorted_set hs hp q hq) fun t => by rw [get_set hs hp q hq t, hq, (getK_some hp).2]
theorem doW_eq (l : List S24) (a : Int) (b c : ByteArray) (d e : Int) (f g : ByteArray) (h i : Int) : doR l a b c d e f g h i = doW l a b c d e f g h i := by
  unfold doR doW
  cases hv : validB l
  · rfl
  · rw [if_pos rfl, if_pos rfl]
    have hs := ((validB_iff l).1 hv).2.1
    cases hsh : shapedB a b c d e f g h i
    · rfl
    · rw [if_pos rfl, if_pos rfl]
      by_cases h1 : a = 1
      · rw [if_pos h1, if_pos h1]
        have hq := putR_eq hs ⟨b, c, d, e⟩
        refine hq.trans ?_
        show (if (getK S24.f0 l b).isSome = true then _ else _) = _
        by_cases hh : (getK S24.f0 l b).isSome = true
        · rw [if_pos hh, if_pos hh]
        · rw [if_neg hh, if_neg hh]
          exact (bound_ins hs ⟨b, c, d, e⟩ (by simpa using hh)).symm
      · rw [if_neg h1, if_neg h1, hasB_eq hs]
        cases hp : getK S24.f0 l f with
        | none => rfl
        | some p =>
          have hpf := (getK_some hp).2
          simp only [Option.isSome_some, if_true]
          by_cases h2 : a = 2
          · rw [if_pos h2, if_pos h2, posB_posK]
            obtain ⟨e1, e2⟩ := rises_erase hs hp
            rw [show withoutL l f = l.eraseIdx (posK S24.f0 f l) from rises_ext (without_sorted hs f) e1 fun t => by rw [without_get, e2 t]]
          · rw [if_neg h2, if_neg h2]
            by_cases h5 : a = 5
            · rw [if_neg (by omega), if_neg (by omega), if_pos h5, loseR_eq hs hp, put_set hs hp ⟨p.f0, p.f1, p.f2 - h, p.f3⟩ rfl]
            · rw [if_neg h5]
              by_cases h3 : a = 3
              · rw [if_pos h3, if_pos h3, splitR_eq hs hp]
                by_cases hh : (getK S24.f0 l g).isSome = true
                · rw [if_pos hh, if_pos hh]
                · rw [if_neg hh, if_neg hh]
                  by_cases hb : h < 1 ∨ h ≥ p.f2 ∨ i < 1 ∨ i ≥ p.f3
                  · rw [if_pos hb, if_pos hb]
                  · rw [if_neg hb, if_neg hb, put_set hs hp ⟨p.f0, p.f1, p.f2 - h, p.f3 - i⟩ rfl]
                    have hfg : ¬ f = g := fun e => by rw [← e, hp] at hh; exact hh rfl
                    have hb2 := bound_ins (sorted_set hs hp ⟨p.f0, p.f1, p.f2 - h, p.f3 - i⟩ rfl) ⟨g, p.f1, h, i⟩ (by
                      rw [get_set hs hp ⟨p.f0, p.f1, p.f2 - h, p.f3 - i⟩ rfl]
                      show (if f = g then _ else getK S24.f0 l g) = none
                      rw [if_neg hfg]; simpa using hh)
                    rw [hb2, List.length_set]
              · have h4 : a = 4 := by have := shaped_kind hsh; omega
                rw [if_neg h3, if_neg h3, if_pos h4, joinR_eq hs hp]
                cases hq : getK S24.f0 l g with
                | none => rfl
                | some q =>
                  have hqg := (getK_some hq).2
                  show (if _ then _ else if _ then _ else _) = (if _ then _ else if _ then _ else _)
                  by_cases hc : f = g ∨ ¬ p.f1 = q.f1
                  · rw [if_pos hc, if_pos hc]
                  · rw [if_neg hc, if_neg hc]
                    by_cases hb : q.f2 + p.f2 > 1000000 ∨ q.f3 + p.f3 > 1000
                    · rw [if_pos hb, if_pos hb]
                    · rw [if_neg hb, if_neg hb]
                      have hfg : ¬ f = g := fun e => hc (.inl e)
                      have hgf : ¬ g = f := fun e => hfg e.symm
                      have hm := sorted_set hs hq (sumP q p) rfl
                      have hgm : ∀ t, getK S24.f0 (l.set (posK S24.f0 g l) (sumP q p)) t = if g = t then some (sumP q p) else getK S24.f0 l t := fun t => get_set hs hq (sumP q p) rfl t
                      have hpm : getK S24.f0 (l.set (posK S24.f0 g l) (sumP q p)) f = some p := by rw [hgm f, if_neg hgf, hp]
                      have hpos : posK S24.f0 f (l.set (posK S24.f0 g l) (sumP q p)) = posK S24.f0 f l := posK_set f l _ q (sumP q p) (posK_at hs hq) rfl
                      obtain ⟨e1, e2⟩ := rises_erase hm hpm
                      rw [hpos] at e1 e2
                      rw [putW_eq (without_sorted hs f) (sumP q p) e1 fun t => by
                        rw [e2 t, hgm t, without_get, show (sumP q p).f0 = g from hqg]
                        by_cases t1 : f = t
                        · rw [if_pos t1, if_pos t1, if_neg (fun e => hfg (t1.trans e.symm))]
                        · rw [if_neg t1, if_neg t1]]
end Go.Proofs.Ytndbchcfjajgbaa.XP
