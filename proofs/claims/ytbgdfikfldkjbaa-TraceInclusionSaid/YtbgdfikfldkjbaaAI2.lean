/- Operations that only compute: their answers. -/
import Derived.Test.YtbgdfikfldkjbaaAI1
namespace Go.Proofs.Ytbgdfikfldkjbaa.AI
set_option linter.unnecessarySimpa false
open Go
set_option linter.unusedVariables false
set_option linter.unusedSimpArgs false
/-! Equality. -/
def nilEq (d : Option TypeDesc) (x y : C) : Option Bool :=
  match d, x, y with
  | some (.pointer _), .nilp, .nilp => some true
  | some (.pointer _), .nilp, .ptr _ _ => some false
  | some (.pointer _), .ptr _ _, .nilp => some false
  | some (.pointer _), .rp _ _ _ _, .nilp => some false
  | some (.pointer _), .ap _ _, .nilp => some false
  | some (.slice _), .nils, .nils => some true
  | some (.slice _), .nils, .as ad _ _ _ _ => some ad.isNone
  | some (.slice _), .as ad _ _ _ _, .nils => some ad.isNone
  | some (.func _ _ _), .nilf, .nilf => some true
  | some (.func _ _ _), .nilf, .fn _ _ _ => some false
  | some (.func _ _ _), .fn _ _ _, .nilf => some false
  | _, _, _ => none
theorem nilEq_run {P : Program} {t : TypeId} {x y : C} {r : Bool} (h : nilEq (P.underlying t) x y = some r) (ρ : Ren) (d : Nat) (w : World) : (Op.equalIn (d + 1) t (x.den ρ) (y.den ρ)).run P w = .ok r w := by
  unfold nilEq at h
  split at h <;> first
    | (cases h; rename_i hu; simp [Op.equalIn, run_underlying hu, C.den]; done)
    | (cases h; rename_i ad _ _ _ _ hu; cases ad <;> simp [Op.equalIn, run_underlying hu, C.den]; done)
    | cases h
def eqFs (P : Program) (rec : TypeId → U → U → Option Bool) (xs ys : List C) : List Field → Option Bool
  | [] => some true
  | f :: r => if f.name == "_" then none else
    match partU P f.type xs f.offset, partU P f.type ys f.offset with
    | some x, some y => match rec f.type x y, eqFs P rec xs ys r with
      | some p, some q => some (p && q)
      | _, _ => none
    | _, _ => none
def eqC (P : Program) : Nat → TypeId → U → U → Option Bool
  | 0, _, _, _ => none
  | n + 1, t, x, y =>
    match P.underlying t, x, y with
    | some .bool, .c (.bool a), .c (.bool b) => some (a == b)
    | some (.int _), .c (.int k a), .c (.int k' b) => if k = k' then some (a == b) else none
    | some .string, .c (.str a), .c (.str b) => some (a == b)
    | some (.struct fs), .a xs, .a ys => if P.stoodInHeld t then none else eqFs P (eqC P n) xs ys fs.toList
    | _, _, _ => none
theorem eqFs_run {P : Program} {d : Nat} {rec : TypeId → U → U → Option Bool} {ρ : Ren} (hr : ∀ t x y r w, rec t x y = some r → (Op.equalIn d t (x.den ρ) (y.den ρ)).run P w = .ok r w) {xs ys : List C} :
    ∀ (fs : List Field) (r : Bool) (w : World), eqFs P rec xs ys fs = some r → (Op.eqFields d (xs.map (C.den ρ)).toArray (ys.map (C.den ρ)).toArray fs).run P w = .ok r w
  | [], r, w, h => by injection h with h; subst h; rfl
  | f :: fs, r, w, h => by
    unfold eqFs at h
    split at h
    · cases h
    · rename_i hn
      split at h
      · rename_i x y hx hy
        split at h
        · rename_i p q hp hq
          injection h with h; subst h
          have ih := eqFs_run hr fs q w hq
          have hn' : f.name ≠ "_" := by simpa using hn
          simp only [Op.eqFields, if_pos hn', Sem.run_bind, part_run hx, part_run hy, Result.andThen_ok, hr _ _ _ _ w hp]
          cases p
          · simp
          · simpa using ih
        · cases h
      · cases h
theorem eqC_run {P : Program} {ρ : Ren} : ∀ (n d : Nat) (t : TypeId) (x y : U) (r : Bool) (w : World), n ≤ d → eqC P n t x y = some r → (Op.equalIn d t (x.den ρ) (y.den ρ)).run P w = .ok r w
  | 0, d, t, x, y, r, w, _, h => by cases h
  | n + 1, d, t, x, y, r, w, hd, h => by
    obtain ⟨d, rfl⟩ : ∃ k, d = k + 1 := ⟨d - 1, by omega⟩
    unfold eqC at h
    split at h
    · rename_i hu; cases h; simp [Op.equalIn, run_underlying hu, U.den, C.den]
    · rename_i hu
      split at h
      · rename_i hk; cases h; subst hk; simp [Op.equalIn, run_underlying hu, U.den, C.den]
      · cases h
    · rename_i hu; cases h; simp [Op.equalIn, run_underlying hu, U.den, C.den]
    · rename_i fs xs ys hu
      split at h
      · cases h
      · rename_i hp
        have hf : P.fieldsOf t = fs := by unfold Program.fieldsOf; rw [hu]
        have := run_equalIn_struct (P := P) w d t (xs.map (C.den ρ)).toArray (ys.map (C.den ρ)).toArray (by rw [hf]; exact hu) (by simpa using hp)
        simp only [U.den, this, hf]
        exact eqFs_run (fun t x y r w hr => eqC_run n d t x y r w (by omega) hr) fs.toList r w h
    · cases h
/-- '==' where a side is an aggregate, or nil. -/
def eqU (P : Program) (t : TypeId) (x y : U) : Option Bool :=
  match x, y with
  | .a _, .a _ => if P.eqGuardType P.depth t then none else eqC P 50 t x y
  | .c x, .c y => nilEq (P.underlying t) x y
  | _, _ => none
def notInt : Value → Bool
  | .int _ _ | .float _ _ | .complex _ _ _ | .string _ => false
  | _ => true
theorem binOp_eql {t : TypeId} {x y : Value} (hx : notInt x = true) : binOp .eql t x y = (do pure (.bool (← Op.equal t x y))) := by
  cases x <;> first | (simp [notInt] at hx; done) | (cases y <;> rfl)
theorem binOp_neq {t : TypeId} {x y : Value} (hx : notInt x = true) : binOp .neq t x y = (do pure (.bool (!(← Op.equal t x y)))) := by
  cases x <;> first | (simp [notInt] at hx; done) | (cases y <;> rfl)
theorem nilEq_not {d : Option TypeDesc} {x y : C} {r : Bool} (h : nilEq d x y = some r) (ρ : Ren) : notInt (x.den ρ) = true := by
  unfold nilEq at h
  split at h <;> first | rfl | cases h
theorem nilEq_guard {d : Option TypeDesc} {x y : C} {r : Bool} (h : nilEq d x y = some r) (ρ : Ren) (op : BinOp) (t : TypeId) (p q : Operand) (P : Program) (w : World) : (eqGuard op t p q (x.den ρ) (y.den ρ)).run P w = .ok () w := by
  unfold nilEq at h
  unfold eqGuard
  split at h <;> first | (simp only [C.den]; split <;> simp; done) | cases h
theorem eqU_run {P : Program} {t : TypeId} {x y : U} {r : Bool} (h : eqU P t x y = some r) (ρ : Ren) (w : World) : notInt (x.den ρ) = true ∧ (Op.equal t (x.den ρ) (y.den ρ)).run P w = .ok r w ∧ ∀ op p q, (eqGuard op t p q (x.den ρ) (y.den ρ)).run P w = .ok () w := by
  unfold eqU at h
  split at h
  · rename_i xs ys
    split at h
    · cases h
    · rename_i hg
      refine ⟨rfl, eqC_run 50 10000 t _ _ r w (by decide) h, fun op p q => ?_⟩
      unfold eqGuard
      have hg' : P.eqGuardType P.depth t = false := by simpa using hg
      simp only [U.den]
      split
      all_goals simp
      all_goals (intro hh; rw [hg'] at hh; cases hh)
  · rename_i x y
    refine ⟨nilEq_not h ρ, nilEq_run h ρ 9999 w, fun op p q => nilEq_guard h ρ op t p q P w⟩
  · cases h
/-! What only computes. -/
def ptrs (T : List V) : List Operand → Option (List (Nat × Nat))
  | [] => some []
  | x :: r => match ev T x, ptrs T r with
    | some (.u (.c (.ptr b o))), some ps => some ((b, o) :: ps)
    | _, _ => none
theorem ptrs_den {T : List V} {l : List Operand} {ps : List (Nat × Nat)} {ρ : Ren} {a : Act} (h : ptrs T l = some ps) (ht : TR ρ T a) : l.map a.eval = ps.map (pv ρ) := by
  induction l generalizing ps with
  | nil => injection h with h; subst h; rfl
  | cons x r ih =>
    unfold ptrs at h
    split at h
    · rename_i b o ws hv hw
      injection h with h; subst h
      simp only [List.map_cons, ev_den hv ht, ih hw]
      rfl
    · cases h
theorem ptrs_sc {T : List V} {l : List Operand} {ps : List (Nat × Nat)} {W : World} {S : Nat → Prop} (h : ptrs T l = some ps) (hT : ScT W S T) : ∀ p ∈ ps, S p.1 := by
  induction l generalizing ps with
  | nil => injection h with h; subst h; intro v hv; cases hv
  | cons x r ih =>
    unfold ptrs at h
    split at h
    · rename_i b o ws hv hw
      injection h with h; subst h
      intro z hz
      rcases List.mem_cons.1 hz with rfl | hz
      · exact ev_sc hv hT
      · exact ih hw z hz
    · cases h
def gen (P : Program) (T : List V) (o : Oper) : Option V :=
  if allLit T o.op.operands.toList then
    match pureSem P (execOp (evl T) o) with
    | some (.value v) => ofValue v
    | _ => none
  else none
/-- What an operation that only computes answers, and how it is shown. -/
def Pure (P : Program) (T : List V) (o : Oper) (v : V) : Prop :=
  (∀ (W : World) (S : Nat → Prop), ScT W S T → v.sc W S) ∧ ∀ (W : World) (S : Nat → Prop) ρ a w, ScT W S T → TR ρ T a → (execOp a.eval o).run P w = .ok (.value (v.den ρ)) w
theorem gen_pure {P : Program} {T : List V} {o : Oper} {v : V} (h : gen P T o = some v) (hs : ∀ cs b, o.op ≠ .select cs b) : Pure P T o v := by
  unfold gen at h
  split at h
  · rename_i hl
    split at h
    · rename_i x hx
      refine ⟨fun W S _ => (ofValue_den h (fun _ => ri0) W S).2, fun W S ρ a w hS ht => ?_⟩
      rw [execOp_congr (ρ' := evl T) o hs (fun y hy => allLit_eval hl ht y (by simpa using hy)), pureSem_run hx w, (ofValue_den h ρ default (fun _ => True)).1]
    · cases h
  · cases h
def eqlD (P : Program) (T : List V) (t : TypeId) (x y : Operand) : Option Bool :=
  match ev T x, ev T y with
  | some (.u p), some (.u q) => eqU P t p q
  | _, _ => none
def pureD (P : Program) (T : List V) (o : Oper) : Option V :=
  match o.op with
  | .move x => ev T x
  | .assign x => ev T x
  | .extract x i => match ev T x with
    | some (.t xs) => (nth xs i).map .u
    | _ => none
  | .nilCheck x => match ev T x with
    | some (.u (.c (.ptr b o))) => some (.u (.c (.ptr b o)))
    | some (.u (.c (.rp b s i o))) => some (.u (.c (.rp b s i o)))
    | some (.u (.c (.ap ad cs))) => some (.u (.c (.ap ad cs)))
    | some (.u (.c (.fn f p q))) => some (.u (.c (.fn f p q)))
    | _ => none
  | .fieldAddr s x f => match ev T x, fieldOf P s f with
    | some (.u (.c (.ptr b o))), some fd => match szOf P fd.type with
      | some (_ + 1) => some (.u (.c (.ptr b (o + fd.offset))))
      | _ => none
    | some (.u (.c (.rp b s i o))), some fd => match szOf P fd.type with
      | some (_ + 1) => some (.u (.c (.rp b s i (o + fd.offset))))
      | _ => none
    | some (.u (.c (.ap ad cs))), some fd => match szOf P fd.type with
      | some (_ + 1) => some (.u (.c (.ap (ad.add fd.offset) (cs.drop fd.offset))))
      | _ => none
    | _, _ => none
  | .field s x f => match ev T x, fieldOf P s f with
    | some (.u (.a cs)), some fd => (partU P fd.type cs fd.offset).map .u
    | _, _ => none
  | .build t ps => match evUs T ps.toList with
    | some us => (buildU P t us).map .u
    | none => none
  | .makeFunc (.func f) first caps => match ptrs T first.toList, ptrs T caps.toList with
    | some p, some q => some (.u (.c (.fn f p q)))
    | _, _ => none
  | .binOp .eql t x y _ => if allLit T [x, y] then gen P T o else (eqlD P T t x y).map fun r => .u (.c (.bool r))
  | .binOp .neq t x y _ => if allLit T [x, y] then gen P T o else (eqlD P T t x y).map fun r => .u (.c (.bool !r))
  | .binOp _ _ _ _ _ => gen P T o
  | .unOp _ _ _ => gen P T o
  | .convert _ _ _ => gen P T o
  | .index _ _ _ => gen P T o
  | .slice _ _ _ _ _ => gen P T o
  | .call ⟨.builtin .len, args, ts⟩ => match evs T args.toList, (ts[0]?).bind P.underlying with
    | some [.u (.c (.as _ _ n _ _))], some (.slice _) => some (.u (.c (.int .i64 n)))
    | some [.u (.c (.row _ _ _ n _))], some (.slice _) => some (.u (.c (.int .i64 n)))
    | some [.u (.c .nils)], some (.slice _) => some (.u (.c (.int .i64 0)))
    | _, _ => gen P T o
  | .call ⟨.builtin .min, _, _⟩ => gen P T o
  | .call ⟨.builtin .max, _, _⟩ => gen P T o
  | _ => none
theorem add_add' (a : Addr) (m n : Nat) : (a.add m).add n = a.add (m + n) := by
  unfold Addr.add
  by_cases hm : m = 0 <;> by_cases hn : n = 0 <;> simp [hm, hn, Nat.add_assoc]
theorem add_block' (a : Addr) (n : Nat) : (a.add n).block = a.block := by unfold Addr.add; split <;> rfl
theorem addr_add (r o n : Nat) : (⟨r, o, none⟩ : Addr).add n = ⟨r, o + n, none⟩ := by unfold Addr.add; split <;> simp_all
theorem pureD_pure {P : Program} {T : List V} {o : Oper} {v : V} (h : pureD P T o = some v) : Pure P T o v := by
  unfold pureD at h
  split at h
  · rename_i x ho
    exact ⟨fun W S hS => ev_sc h hS, fun W S ρ a w hS ht => by simp [execOp, ho, ev_den h ht]⟩
  · rename_i x ho
    exact ⟨fun W S hS => ev_sc h hS, fun W S ρ a w hS ht => by simp [execOp, ho, ev_den h ht]⟩
  · rename_i x i ho
    split at h
    · rename_i xs hx
      rw [Option.map_eq_some_iff] at h
      obtain ⟨u, hu, rfl⟩ := h
      rw [nth_eq] at hu
      refine ⟨fun W S hS => ev_sc hx hS u (List.mem_of_getElem? hu), fun W S ρ a w hS ht => ?_⟩
      simp [execOp, ho, ev_den hx ht, V.den, Instr.extract, hu]
    · cases h
  · rename_i x ho
    split at h
    · rename_i b q hx
      cases h
      exact ⟨fun W S hS => ev_sc hx hS, fun W S ρ a w hS ht => by simp [execOp, ho, ev_den hx ht, V.den, U.den, C.den]⟩
    · rename_i b s i q hx
      cases h
      exact ⟨fun W S hS => ev_sc hx hS, fun W S ρ a w hS ht => by simp [execOp, ho, ev_den hx ht, V.den, U.den, C.den]⟩
    · rename_i ad cs hx
      cases h
      exact ⟨fun W S hS => ev_sc hx hS, fun W S ρ a w hS ht => by simp [execOp, ho, ev_den hx ht, V.den, U.den, C.den]⟩
    · rename_i f p q hx
      cases h
      exact ⟨fun W S hS => ev_sc hx hS, fun W S ρ a w hS ht => by simp [execOp, ho, ev_den hx ht, V.den, U.den, C.den]⟩
    · cases h
  · rename_i s x f ho
    split at h
    · rename_i b q fd hx hf
      split at h
      · rename_i n hn
        cases h
        obtain ⟨fs, hu, hfd⟩ := fieldOf_spec hf
        refine ⟨fun W S hS => (ev_sc hx hS : S b), fun W S ρ a w hS ht => ?_⟩
        simp only [execOp, ho, ev_den hx ht, V.den, U.den, C.den, Instr.fieldAt, Sem.run_bind, run_underlying hu, Result.andThen_ok, hfd, Instr.sureAddr, Sem.run_pure, fieldPlace, sizeOf_run hn]
        simp [addr_add]
      · cases h
    · rename_i b s i q fd hx hf
      split at h
      · rename_i n hn
        cases h
        obtain ⟨fs, hu, hfd⟩ := fieldOf_spec hf
        refine ⟨fun W S hS => (ev_sc hx hS : S b), fun W S ρ a w hS ht => ?_⟩
        simp only [execOp, ho, ev_den hx ht, V.den, U.den, C.den, Instr.fieldAt, Sem.run_bind, run_underlying hu, Result.andThen_ok, hfd, Instr.sureAddr, Sem.run_pure, fieldPlace, sizeOf_run hn]
        simp [addr_add, Nat.add_assoc]
      · cases h
    · rename_i ad cs fd hx hf
      split at h
      · rename_i n hn
        cases h
        obtain ⟨fs, hu, hfd⟩ := fieldOf_spec hf
        refine ⟨fun W S hS => ?_, fun W S ρ a w hS ht => ?_⟩
        · have hok : AOk W (.ap ad cs) := ev_sc hx hS
          cases hok with
          | ap _ _ hok hc =>
            refine AOk.ap _ _ (fun j x hj => hok (fd.offset + j) x (by rw [List.getElem?_drop] at hj; exact hj)) (fun j x hj => ?_)
            rw [List.getElem?_drop] at hj
            obtain ⟨g1, g2⟩ := hc _ _ hj
            rw [add_add']
            exact ⟨by rw [add_block']; exact g1, g2⟩
        · simp only [execOp, ho, ev_den hx ht, V.den, U.den, C.den, Instr.fieldAt, Sem.run_bind, run_underlying hu, Result.andThen_ok, hfd, Instr.sureAddr, Sem.run_pure, fieldPlace, sizeOf_run hn]
          simp
      · cases h
    · cases h
  · rename_i s x f ho
    split at h
    · rename_i cs fd hx hf
      rw [Option.map_eq_some_iff] at h
      obtain ⟨u, hu, rfl⟩ := h
      obtain ⟨fs, hus, hfd⟩ := fieldOf_spec hf
      refine ⟨fun W S hS => partU_sc hu (ev_sc hx hS), fun W S ρ a w hS ht => ?_⟩
      simp only [execOp, ho, ev_den hx ht, V.den, U.den, Instr.field, Sem.run_bind, run_underlying hus, Result.andThen_ok, hfd, asAgg, Sem.run_pure, part_run hu]
    · cases h
  · rename_i t ps ho
    split at h
    · rename_i us hus
      rw [Option.map_eq_some_iff] at h
      obtain ⟨u, hu, rfl⟩ := h
      refine ⟨fun W S hS => buildU_sc hu (evUs_sc hus hS), fun W S ρ a w hS ht => ?_⟩
      have e : (ps.map fun (i, x) => (i, a.eval x)) = (us.map fun p => (p.1, p.2.den ρ)).toArray := by
        rw [← evUs_den hus ht]; apply Array.ext'; simp
      simp only [execOp, ho, e, Sem.run_bind, build_run hu, Result.andThen_ok, Sem.run_pure, V.den]
    · cases h
  · rename_i f first caps ho
    split at h
    · rename_i p q hp hq
      cases h
      refine ⟨fun W S hS => ⟨ptrs_sc hp hS, ptrs_sc hq hS⟩, fun W S ρ a w hS ht => ?_⟩
      have e1 : first.map a.eval = (p.map (pv ρ)).toArray := by rw [← ptrs_den hp ht]; apply Array.ext'; simp
      have e2 : caps.map a.eval = (q.map (pv ρ)).toArray := by rw [← ptrs_den hq ht]; apply Array.ext'; simp
      simp [execOp, ho, e1, e2, Instr.makeFunc, V.den, U.den, C.den]
    · cases h
  · rename_i t x y yt ho
    split at h
    · exact gen_pure h (by simp [ho])
    · rw [Option.map_eq_some_iff] at h
      obtain ⟨r, hr, rfl⟩ := h
      unfold eqlD at hr
      split at hr
      · rename_i p q hp hq
        refine ⟨fun W S _ => AOk.bool _, fun W S ρ a w hS ht => ?_⟩
        obtain ⟨h1, h2, h3⟩ := eqU_run hr ρ w
        simp only [execOp, ho, ev_den hp ht, ev_den hq ht, V.den, Sem.run_bind, h3, Result.andThen_ok, binOp_eql h1, h2, Sem.run_pure]
        rfl
      · cases hr
  · rename_i t x y yt ho
    split at h
    · exact gen_pure h (by simp [ho])
    · rw [Option.map_eq_some_iff] at h
      obtain ⟨r, hr, rfl⟩ := h
      unfold eqlD at hr
      split at hr
      · rename_i p q hp hq
        refine ⟨fun W S _ => AOk.bool _, fun W S ρ a w hS ht => ?_⟩
        obtain ⟨h1, h2, h3⟩ := eqU_run hr ρ w
        simp only [execOp, ho, ev_den hp ht, ev_den hq ht, V.den, Sem.run_bind, h3, Result.andThen_ok, binOp_neq h1, h2, Sem.run_pure]
        rfl
      · cases hr
  · rename_i ho; exact gen_pure h (by simp [ho])
  · rename_i ho; exact gen_pure h (by simp [ho])
  · rename_i ho; exact gen_pure h (by simp [ho])
  · rename_i ho; exact gen_pure h (by simp [ho])
  · rename_i ho; exact gen_pure h (by simp [ho])
  · rename_i args ts ho
    split at h
    · rename_i ad sz n cap get e hx hu
      cases h
      refine ⟨fun W S _ => AOk.int _ _, fun W S ρ a w hS ht => ?_⟩
      rw [Option.bind_eq_some_iff] at hu
      obtain ⟨t, ht0, hu⟩ := hu
      have e1 : args.map a.eval = #[.slice ad n cap] := by
        have := evs_den hx ht
        apply Array.ext'; simpa [V.den, U.den, C.den] using this
      simp [execOp, ho, resolve, e1, invoke, builtin, Builtin.len_, ht0, run_underlying hu, goInt, V.den, U.den, C.den]
    · rename_i b sz st n nl e hx hu
      cases h
      refine ⟨fun W S _ => AOk.int _ _, fun W S ρ a w hS ht => ?_⟩
      rw [Option.bind_eq_some_iff] at hu
      obtain ⟨t, ht0, hu⟩ := hu
      have e1 : args.map a.eval = #[.slice (cond (nl && n == 0) none (some ⟨(ρ b).r, st * sz, none⟩)) n (cond (nl && n == 0) 0 ((ρ b).k - st))] := by
        have := evs_den hx ht
        apply Array.ext'; simpa [V.den, U.den, C.den] using this
      simp [execOp, ho, resolve, e1, invoke, builtin, Builtin.len_, ht0, run_underlying hu, goInt, V.den, U.den, C.den]
    · rename_i e hx hu
      cases h
      refine ⟨fun W S _ => AOk.int _ _, fun W S ρ a w hS ht => ?_⟩
      rw [Option.bind_eq_some_iff] at hu
      obtain ⟨t, ht0, hu⟩ := hu
      have e1 : args.map a.eval = #[.slice none 0 0] := by
        have := evs_den hx ht
        apply Array.ext'; simpa [V.den, U.den, C.den] using this
      simp [execOp, ho, resolve, e1, invoke, builtin, Builtin.len_, ht0, run_underlying hu, goInt, V.den, U.den, C.den]
    · exact gen_pure h (by simp [ho])
  · rename_i ho; exact gen_pure h (by simp [ho])
  · rename_i ho; exact gen_pure h (by simp [ho])
  · cases h
/-- T' says the same of the operands. -/
def Agree (o : Oper) (T T' : List V) : Prop := ∀ x ∈ o.op.operands.toList, ev T' x = ev T x
/-! An operation goes by its operands alone. -/
section
variable {P : Program} {T T' : List V}
theorem evs_congr {l : List Operand} (h : ∀ x ∈ l, ev T' x = ev T x) : evs T' l = evs T l := by
  induction l with
  | nil => rfl
  | cons x r ih => unfold evs; rw [h x (List.mem_cons_self ..), ih (fun y hy => h y (List.mem_cons_of_mem _ hy))]
theorem evUs_congr {l : List (Nat × Operand)} (h : ∀ p ∈ l, ev T' p.2 = ev T p.2) : evUs T' l = evUs T l := by
  induction l with
  | nil => rfl
  | cons p r ih => obtain ⟨i, x⟩ := p; unfold evUs; rw [h (i, x) (List.mem_cons_self ..), ih (fun y hy => h y (List.mem_cons_of_mem _ hy))]
theorem ptrs_congr {l : List Operand} (h : ∀ x ∈ l, ev T' x = ev T x) : ptrs T' l = ptrs T l := by
  induction l with
  | nil => rfl
  | cons x r ih => unfold ptrs; rw [h x (List.mem_cons_self ..), ih (fun y hy => h y (List.mem_cons_of_mem _ hy))]
theorem allLit_congr {l : List Operand} (h : ∀ x ∈ l, ev T' x = ev T x) : allLit T' l = allLit T l := by
  induction l with
  | nil => rfl
  | cons x r ih => unfold allLit; rw [h x (List.mem_cons_self ..), ih (fun y hy => h y (List.mem_cons_of_mem _ hy))]
theorem gen_congr {o : Oper} (hs : ∀ cs b, o.op ≠ .select cs b) (h : ∀ x ∈ o.op.operands.toList, ev T' x = ev T x) : gen P T' o = gen P T o := by
  unfold gen
  rw [allLit_congr h, execOp_congr (ρ := evl T') (ρ' := evl T) o hs (fun x hx => by unfold evl; rw [h x (by simpa using hx)])]
theorem pureD_congr {o : Oper} (h : ∀ x ∈ o.op.operands.toList, ev T' x = ev T x) : pureD P T' o = pureD P T o := by
  have hg := fun hs => gen_congr (P := P) (o := o) hs h
  unfold pureD
  split <;> rename_i ho <;> simp only [ho, Op.operands] at h
  all_goals first
    | (rw [hg (by simp [ho])]; done)
    | (rw [h _ (by simp)]; done)
    | (rw [evUs_congr (fun p hp => h p.2 (by simp; exact ⟨p.1, by simpa using hp⟩))]; done)
    | (rw [ptrs_congr (fun x hx => h x (by simp; exact .inl (by simpa using hx))), ptrs_congr (fun x hx => h x (by simp; exact .inr (by simpa using hx)))]; done)
    | (unfold eqlD; rw [hg (by simp [ho]), allLit_congr (fun x hx => h x (by simpa using hx)), h _ (by simp), h _ (by simp)]; done)
    | (rw [hg (by simp [ho]), evs_congr (fun x hx => h x (by simp [Call.operands]; simpa using hx))]; done)
    | rfl
end
/-- A bound of a slice expression. -/
def bndOf (T : List V) : Option Operand → Option (Option Int)
  | none => some none
  | some x => match ev T x with
    | some (.u (.c (.int _ n))) => some (some n)
    | _ => none
/-- A part of a slice that came in. -/
def subC (ad : Option Addr) (sz cap : Nat) (get : Nat → List C) (l h : Nat) : C := .as (if cap = l then ad else ad.map (·.add (l * sz))) sz (h - l) (cap - l) (fun i => get (i + l))
theorem bnd_congr {T T' : List V} {x : Option Operand} (h : ∀ y ∈ x.toList, ev T' y = ev T y) : bndOf T' x = bndOf T x := by
  cases x with
  | none => rfl
  | some x => simp only [bndOf, h x (by simp)]
theorem sub_ok {W : World} {ad : Option Addr} {sz n cap : Nat} {get : Nat → List C} (h : AOk W (.as ad sz n cap get)) {l h' : Nat} (h1 : l ≤ h') (h2 : h' ≤ n) : AOk W (subC ad sz cap get l h') := by
  cases h with
  | «as» _ _ _ _ _ hl hn hcap hok hc =>
    refine AOk.as _ _ _ _ _ (fun i hi => hl _ (by omega)) (fun e => ?_) (by omega) (fun i j x hi hx => hok _ j x (by omega) hx) (fun i j x a hi hx ha => ?_)
    · by_cases hcl : cap = l
      · omega
      · rw [if_neg hcl, Option.map_eq_none_iff] at e
        have := hn e; omega
    · by_cases hcl : cap = l
      · omega
      · rw [if_neg hcl, Option.map_eq_some_iff] at ha
        obtain ⟨a0, h0, rfl⟩ := ha
        obtain ⟨g1, g2⟩ := hc (i + l) j x a0 (by omega) hx h0
        rw [add_block', add_add', show l * sz + (i * sz + j) = (i + l) * sz + j by rw [Nat.add_mul]; omega]
        exact ⟨g1, g2⟩
theorem bound_run {P : Program} {k : IntKind} {i : Int} {y : Nat} {code : BoundsCode} {w : World} (h0 : 0 ≤ i) (h1 : i ≤ y) : (Instr.sliceBound (.int k i) y code).run P w = .ok i.toNat w := by
  simp [Instr.sliceBound, asIntOf, h0, h1]
theorem sub_run {P : Program} {T : List V} {t e : TypeId} {x : Operand} {lo hi : Option Operand} {l h : Option Int} {ad : Option Addr} {sz n cap : Nat} {get : Nat → List C} {ρ : Ren} {a : Act} {w : World} (ht : TR ρ T a) (hx : ev T x = some (.u (.c (.as ad sz n cap get)))) (hu : P.underlying t = some (.slice e)) (hz : szOf P e = some sz) (hl : bndOf T lo = some l) (hh : bndOf T hi = some h) (hn : n ≤ cap) (h0 : 0 ≤ l.getD 0) (h1 : l.getD 0 ≤ h.getD n) (h2 : h.getD n ≤ n) :
    (Instr.sliceAt t (a.eval x) (lo.map a.eval) (hi.map a.eval) none).run P w = .ok ((subC ad sz cap get (l.getD 0).toNat (h.getD n).toNat).den ρ) w := by
  have ex : a.eval x = .slice ad n cap := ev_den hx ht
  have key : ∀ {x : Option Operand} {l : Option Int}, bndOf T x = some l → (x = none ∧ l = none) ∨ ∃ (y : Operand) (k : IntKind) (m : Int), x = some y ∧ l = some m ∧ a.eval y = .int k m := by
    intro x l hl
    cases x with
    | none => cases hl; exact .inl ⟨rfl, rfl⟩
    | some y =>
      simp only [bndOf] at hl
      split at hl
      · rename_i k m hy
        cases hl
        exact .inr ⟨y, k, m, rfl, rfl, ev_den hy ht⟩
      · cases hl
  have hs := sizeOf_run hz w
  rcases key hl with ⟨rfl, rfl⟩ | ⟨y, k, m, rfl, rfl, ey⟩ <;> rcases key hh with ⟨rfl, rfl⟩ | ⟨y', k', m', rfl, rfl, ey'⟩
  · simp [Instr.sliceAt, Instr.slice, Instr.sliceBounds, run_underlying hu, ex, hs, subC, C.den]
  · simp only [Option.getD_some, Option.getD_none] at h0 h1 h2
    simp [Instr.sliceAt, Instr.slice, Instr.sliceBounds, run_underlying hu, ex, hs, subC, C.den, ey', bound_run (P := P) (k := k') (i := m') (y := cap) (w := w) (by omega) (by omega)]
  · simp only [Option.getD_some, Option.getD_none] at h0 h1 h2
    simp [Instr.sliceAt, Instr.slice, Instr.sliceBounds, run_underlying hu, ex, hs, subC, C.den, ey, bound_run (P := P) (k := k) (i := m) (y := n) (w := w) (by omega) (by omega)]
  · simp only [Option.getD_some, Option.getD_none] at h0 h1 h2
    simp [Instr.sliceAt, Instr.slice, Instr.sliceBounds, run_underlying hu, ex, hs, subC, C.den, ey, ey', bound_run (P := P) (k := k') (i := m') (y := cap) (w := w) (by omega) (by omega), bound_run (P := P) (k := k) (i := m) (y := m'.toNat) (w := w) (by omega) (by omega)]
/-- The same, with a continuation: here ways part. -/
def pureA {α : Type} (P : Program) (T : List V) (o : Oper) (k : V → Option α) : Option α :=
  match o.op with
  | .pick c x y => match ev T c, ev T x, ev T y with
    | some (.u (.c (.bool β))), some p, some q => cond β (k p) (k q)
    | _, _, _ => none
  | .indexAddr t x i => match ev T x, ev T i, P.underlying t with
    | some (.u (.c (.row b sz st n _))), some (.u (.c (.int _ j))), some (.slice e) => if szOf P e = some sz then
        cond (decide (0 ≤ j) && decide (j < n)) (k (.u (.c (.rp b sz (st + j.toNat) 0)))) none else none
    | some (.u (.c (.as ad sz n _ get))), some (.u (.c (.int _ j))), some (.slice e) => if szOf P e = some sz then
        cond (decide (0 ≤ j) && decide (j < n)) (k (.u (.c (.ap ((ad.getD default).add (j.toNat * sz)) (get j.toNat))))) none else none
    | some (.u (.c (.ptr b q))), some (.u (.c (.int _ j))), some (.array n e) => match szOf P e with
      | some s => cond (decide (0 ≤ j) && decide (j < n)) (k (.u (.c (.ptr b (q + j.toNat * s))))) none
      | none => none
    | some (.u (.c (.rp b sz i q))), some (.u (.c (.int _ j))), some (.array n e) => match szOf P e with
      | some s => cond (decide (0 ≤ j) && decide (j < n)) (k (.u (.c (.rp b sz i (q + j.toNat * s))))) none
      | none => none
    | _, _, _ => none
  | .slice t x lo hi none => match bndOf T lo, bndOf T hi, ev T x, P.underlying t with
    | some l, some h, some (.u (.c (.as ad sz n cap get))), some (.slice e) => if szOf P e = some sz then
        cond (decide (0 ≤ l.getD 0) && (decide (l.getD 0 ≤ h.getD n) && decide (h.getD n ≤ n))) (k (.u (.c (subC ad sz cap get (l.getD 0).toNat (h.getD n).toNat)))) none else none
    | _, _, _, _ => none
  | .binOp .quo _ x y _ => match ev T x, ev T y with
    | some (.u (.c (.int k1 p))), some (.u (.c (.int k2 q))) => if k1 = k2 then cond (q == 0) none (k (.u (.c (.int k1 (k1.wrap (p.tdiv q)))))) else none
    | _, _ => none
  | .binOp .rem _ x y _ => match ev T x, ev T y with
    | some (.u (.c (.int k1 p))), some (.u (.c (.int k2 q))) => if k1 = k2 then cond (q == 0) none (k (.u (.c (.int k1 (p.tmod q))))) else none
    | _, _ => none
  | .binOp .shl _ x y _ => match ev T x, ev T y with
    | some (.u (.c (.int k1 p))), some (.u (.c (.int _ q))) => cond (decide (q < 0)) none (k (.u (.c (.int k1 (k1.wrap (p * 2 ^ (min q.toNat k1.bits)))))))
    | _, _ => none
  | .binOp .shr _ x y _ => match ev T x, ev T y with
    | some (.u (.c (.int k1 p))), some (.u (.c (.int _ q))) => cond (decide (q < 0)) none (k (.u (.c (.int k1 (p.fdiv (2 ^ (min q.toNat k1.bits)))))))
    | _, _ => none
  | _ => match pureD P T o with
    | some v => k v
    | none => none
theorem pureA_pure {α : Type} {P : Program} {T : List V} {o : Oper} {k : V → Option α} {r : α} (h : pureA P T o k = some r) : ∃ v, k v = some r ∧ ∀ T', Agree o T T' → Pure P T' o v := by
  unfold pureA at h
  split at h
  · rename_i c x y ho
    split at h
    · rename_i β p q hc hx hy
      have key : ∀ T', Agree o T T' → ev T' c = some (.u (.c (.bool β))) ∧ ev T' x = some p ∧ ev T' y = some q := fun T' hT => by
        unfold Agree at hT
        simp only [ho, Op.operands] at hT
        exact ⟨(hT c (by simp)).trans hc, (hT x (by simp)).trans hx, (hT y (by simp)).trans hy⟩
      cases β
      · refine ⟨q, h, fun T' hT => ?_⟩
        obtain ⟨hc, hx, hy⟩ := key T' hT
        exact ⟨fun W S hS => ev_sc hy hS, fun W S ρ a w hS ht => by simp [execOp, ho, ev_den hc ht, ev_den hy ht, V.den, U.den, C.den, asBool]⟩
      · refine ⟨p, h, fun T' hT => ?_⟩
        obtain ⟨hc, hx, hy⟩ := key T' hT
        exact ⟨fun W S hS => ev_sc hx hS, fun W S ρ a w hS ht => by simp [execOp, ho, ev_den hc ht, ev_den hx ht, V.den, U.den, C.den, asBool]⟩
    · cases h
  · rename_i t x i ho
    have key : ∀ T' p q, Agree o T T' → ev T x = some p → ev T i = some q → ev T' x = some p ∧ ev T' i = some q := fun T' p q hT hx hi => by
      unfold Agree at hT
      simp only [ho, Op.operands] at hT
      exact ⟨(hT x (by simp)).trans hx, (hT i (by simp)).trans hi⟩
    split at h
    · rename_i b sz st n nl k1 j e hx hi hu
      split at h
      · rename_i hs
        cases hc : (decide (0 ≤ j) && decide (j < (n : Int)))
        · rw [hc] at h; cases h
        · rw [hc] at h
          simp only [Bool.and_eq_true, decide_eq_true_eq] at hc
          refine ⟨_, h, fun T' hT => ?_⟩
          obtain ⟨hx, hi⟩ := key T' _ _ hT hx hi
          refine ⟨fun W S hS => (ev_sc hx hS : S b), fun W S ρ a w hS ht => ?_⟩
          have hn0 : (nl && n == 0) = false := by
            cases nl <;> simp
            omega
          simp only [execOp, ho, ev_den hx ht, ev_den hi ht, V.den, U.den, C.den, Instr.indexAt, Sem.run_bind, asIntOf, Sem.run_pure, Result.andThen_ok, run_underlying hu, hn0, cond_false]
          simp [hc, sizeOf_run hs, addr_add, Nat.add_mul]
      · cases h
    · rename_i ad sz n cap get k1 j e hx hi hu
      split at h
      · rename_i hs
        cases hc : (decide (0 ≤ j) && decide (j < (n : Int)))
        · rw [hc] at h; cases h
        · rw [hc] at h
          simp only [Bool.and_eq_true, decide_eq_true_eq] at hc
          refine ⟨_, h, fun T' hT => ?_⟩
          obtain ⟨hx, hi⟩ := key T' _ _ hT hx hi
          have hjn : j.toNat < n := by omega
          refine ⟨fun W S hS => ?_, fun W S ρ a w hS ht => ?_⟩
          · have hok : AOk W (.as ad sz n cap get) := ev_sc hx hS
            cases hok with
            | as _ _ _ _ _ hl hn hcap hok hc =>
              cases had : ad with
              | none => have := hn had; omega
              | some a0 =>
                refine AOk.ap _ _ (fun q x hq => hok _ _ _ hjn hq) (fun q x hq => ?_)
                obtain ⟨g1, g2⟩ := hc _ _ _ a0 hjn hq had
                simp only [Option.getD_some]
                rw [add_add']
                exact ⟨by rw [add_block']; exact g1, g2⟩
          · have hok : AOk W (.as ad sz n cap get) := ev_sc hx hS
            cases hok with
            | as _ _ _ _ _ hl hn hcap hok hc2 =>
              cases had : ad with
              | none => have := hn had; omega
              | some a0 =>
                simp only [execOp, ho, ev_den hx ht, ev_den hi ht, V.den, U.den, C.den, Instr.indexAt, Sem.run_bind, asIntOf, Sem.run_pure, Result.andThen_ok, run_underlying hu, had]
                simp [hc, sizeOf_run hs]
      · cases h
    · rename_i b q k1 j n e hx hi hu
      split at h
      · rename_i s hs
        cases hc : (decide (0 ≤ j) && decide (j < (n : Int)))
        · rw [hc] at h; cases h
        · rw [hc] at h
          simp only [Bool.and_eq_true, decide_eq_true_eq] at hc
          refine ⟨_, h, fun T' hT => ?_⟩
          obtain ⟨hx, hi⟩ := key T' _ _ hT hx hi
          refine ⟨fun W S hS => (ev_sc hx hS : S b), fun W S ρ a w hS ht => ?_⟩
          simp only [execOp, ho, ev_den hx ht, ev_den hi ht, V.den, U.den, C.den, Instr.indexAt, Sem.run_bind, asIntOf, Sem.run_pure, Result.andThen_ok, run_underlying hu, Instr.sureAddr]
          simp [hc, sizeOf_run hs, addr_add]
      · cases h
    · rename_i b sz i q k1 j n e hx hi hu
      split at h
      · rename_i s hs
        cases hc : (decide (0 ≤ j) && decide (j < (n : Int)))
        · rw [hc] at h; cases h
        · rw [hc] at h
          simp only [Bool.and_eq_true, decide_eq_true_eq] at hc
          refine ⟨_, h, fun T' hT => ?_⟩
          obtain ⟨hx, hi⟩ := key T' _ _ hT hx hi
          refine ⟨fun W S hS => (ev_sc hx hS : S b), fun W S ρ a w hS ht => ?_⟩
          simp only [execOp, ho, ev_den hx ht, ev_den hi ht, V.den, U.den, C.den, Instr.indexAt, Sem.run_bind, asIntOf, Sem.run_pure, Result.andThen_ok, run_underlying hu, Instr.sureAddr]
          simp [hc, sizeOf_run hs, addr_add, Nat.add_assoc]
      · cases h
    · cases h
  · rename_i t x lo hi ho
    split at h
    · rename_i l hh ad sz n cap get e hl hhi hx hu
      split at h
      · rename_i hz
        cases hc : (decide (0 ≤ l.getD 0) && (decide (l.getD 0 ≤ hh.getD n) && decide (hh.getD n ≤ n)))
        · rw [hc] at h; cases h
        · rw [hc] at h
          simp only [Bool.and_eq_true, decide_eq_true_eq] at hc
          refine ⟨_, h, fun T' hT => ?_⟩
          unfold Agree at hT
          simp only [ho, Op.operands] at hT
          replace hx := (hT x (by simp)).trans hx
          replace hl := (bnd_congr (fun y hy => hT y (by simp at hy ⊢; simp [hy]))).trans hl
          replace hhi := (bnd_congr (fun y hy => hT y (by simp at hy ⊢; simp [hy]))).trans hhi
          have hcap : ∀ W S, ScT W S T' → n ≤ cap := fun W S hS => by
            have hok : AOk W (.as ad sz n cap get) := ev_sc hx hS
            cases hok with
            | «as» _ _ _ _ _ _ _ hcap _ _ => exact hcap
          refine ⟨fun W S hS => ?_, fun W S ρ a w hS ht => ?_⟩
          · exact (sub_ok (n := n) (l := (l.getD 0).toNat) (h' := (hh.getD n).toNat) (ev_sc hx hS : AOk W (.as ad sz n cap get)) (by omega) (by omega) : AOk W _)
          · have := sub_run (w := w) ht hx hu hz hl hhi (hcap W S hS) hc.1 hc.2.1 hc.2.2
            simp only [execOp, ho, Option.map_none, Sem.run_bind, this, Result.andThen_ok, Sem.run_pure, V.den, U.den]
      · cases h
    · cases h
  · rename_i t x y yt ho
    split at h
    · rename_i k1 p k2 q hx hy
      split at h
      · rename_i hk
        subst hk
        cases hq : (q == 0)
        · rw [hq] at h
          have hq' : q ≠ 0 := by simpa using hq
          refine ⟨_, h, fun T' hT => ⟨fun W S _ => AOk.int _ _, fun W S ρ a w hS ht => ?_⟩⟩
          unfold Agree at hT
          simp only [ho, Op.operands] at hT
          replace hx := (hT x (by simp)).trans hx
          replace hy := (hT y (by simp)).trans hy
          simp [execOp, ho, ev_den hx ht, ev_den hy ht, V.den, U.den, C.den, eqGuard, binOp, Op.intDiv, hq']
        · rw [hq] at h; cases h
      · cases h
    · cases h
  · rename_i t x y yt ho
    split at h
    · rename_i k1 p k2 q hx hy
      split at h
      · rename_i hk
        subst hk
        cases hq : (q == 0)
        · rw [hq] at h
          have hq' : q ≠ 0 := by simpa using hq
          refine ⟨_, h, fun T' hT => ⟨fun W S _ => AOk.int _ _, fun W S ρ a w hS ht => ?_⟩⟩
          unfold Agree at hT
          simp only [ho, Op.operands] at hT
          replace hx := (hT x (by simp)).trans hx
          replace hy := (hT y (by simp)).trans hy
          simp [execOp, ho, ev_den hx ht, ev_den hy ht, V.den, U.den, C.den, eqGuard, binOp, Op.intDiv, hq']
        · rw [hq] at h; cases h
      · cases h
    · cases h
  · rename_i t x y yt ho
    split at h
    · rename_i k1 p k2 q hx hy
      cases hq : decide (q < 0)
      · rw [hq] at h
        have hq' : ¬ q < 0 := by simpa using hq
        refine ⟨_, h, fun T' hT => ⟨fun W S _ => AOk.int _ _, fun W S ρ a w hS ht => ?_⟩⟩
        unfold Agree at hT
        simp only [ho, Op.operands] at hT
        replace hx := (hT x (by simp)).trans hx
        replace hy := (hT y (by simp)).trans hy
        simp [execOp, ho, ev_den hx ht, ev_den hy ht, V.den, U.den, C.den, eqGuard, binOp, Op.shift, hq']
      · rw [hq] at h; cases h
    · cases h
  · rename_i t x y yt ho
    split at h
    · rename_i k1 p k2 q hx hy
      cases hq : decide (q < 0)
      · rw [hq] at h
        have hq' : ¬ q < 0 := by simpa using hq
        refine ⟨_, h, fun T' hT => ⟨fun W S _ => AOk.int _ _, fun W S ρ a w hS ht => ?_⟩⟩
        unfold Agree at hT
        simp only [ho, Op.operands] at hT
        replace hx := (hT x (by simp)).trans hx
        replace hy := (hT y (by simp)).trans hy
        simp [execOp, ho, ev_den hx ht, ev_den hy ht, V.den, U.den, C.den, eqGuard, binOp, Op.shift, hq']
      · rw [hq] at h; cases h
    · cases h
  · split at h
    · rename_i v hv
      exact ⟨v, h, fun T' hT => pureD_pure (by rw [pureD_congr hT]; exact hv)⟩
    · cases h
end Go.Proofs.Ytbgdfikfldkjbaa.AI
