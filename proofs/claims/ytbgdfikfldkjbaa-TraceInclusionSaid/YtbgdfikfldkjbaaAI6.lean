/- Two texts, laid into one by mkclaim.py. -/
import Derived.Test.YtbgdfikfldkjbaaAI5
section
/- Statements whose order is open: what is checked, and the walk in the text's order. -/
namespace Go.Proofs.Ytbgdfikfldkjbaa.AI
set_option linter.unnecessarySimpa false
open Go
set_option linter.unusedVariables false
set_option linter.unusedSimpArgs false
section
variable {P : Program} {T T' : List V}
theorem allocD_congr {o : Oper} (h : ∀ x ∈ o.op.operands.toList, ev T' x = ev T x) : allocD P T' o = allocD P T o := by
  unfold allocD
  split
  · rfl
  · rename_i ho; simp only [ho, Op.operands] at h; rw [h _ (by simp)]
  · rename_i ho; simp only [ho, Op.operands] at h; rw [evUs_congr (fun p hp => h p.2 (by simp; exact ⟨p.1, by simpa using hp⟩))]
  · rfl
end
/-! What is checked. -/
structure Rec where
  i : Nat
  lo : Nat
  hi : Nat
  cls : Cls
  ft : List Foot
def maskOf (acc : List Nat) (o : Oper) : Nat := o.after.toList.foldl (fun s e => cond (Region.binds .any e) (s ||| 2 ^ e.on ||| (nth acc e.on).getD 0) s) 0
def ancGo : List Oper → List Nat → List Nat
  | [], acc => acc
  | o :: r, acc => ancGo r (acc ++ [maskOf acc o])
def anc (M : List Nat) (j i : Nat) : Bool := ((nth M i).getD 0).testBit j
def backOk : List Oper → Nat → Bool
  | [], _ => true
  | o :: r, i => (o.after.toList.all fun e => !Region.binds .any e || decide (e.on < i)) && backOk r (i + 1)
def pairsOk (ops : Array Oper) (M : List Nat) (x : Oper) (i : Nat) : List Oper → Nat → Bool
  | [], _ => true
  | y :: r, j => (anc M i j || Oper.apart ops x y) && pairsOk ops M x i r (j + 1)
def allPairs (ops : Array Oper) (M : List Nat) : List Oper → Nat → Bool
  | [], _ => true
  | x :: r, i => pairsOk ops M x i r (i + 1) && allPairs ops M r (i + 1)
def disj (f g : Foot) : Bool :=
  match f, g with
  | .c b o n, .c b' o' n' => !Nat.beq b b' || decide (o + n ≤ o') || decide (o' + n' ≤ o)
  | f, g => !Nat.beq f.b g.b
def inN (q : Rec) (b : Nat) : Bool := decide (q.lo ≤ b) && decide (b < q.hi)
def isEff : Cls → Bool
  | .eff => true
  | _ => false
def loadOk (M : List Nat) (i : Nat) (fs : List Foot) (rs : List Rec) : Bool :=
  rs.all fun q => anc M q.i i || fs.all fun f => !inN q f.b && (!isEff q.cls || q.ft.all fun g => disj g f)
def effOk (M : List Nat) (i : Nat) (l : List Foot) (rs : List Rec) : Bool :=
  rs.all fun q => anc M q.i i || (match q.cls with
    | .eff => false
    | .load => q.ft.all fun f => l.all fun g => disj g f
    | _ => true)
def masked (M : List Nat) (i : Nat) (rs : List Rec) (b : Nat) : Bool := rs.any fun q => !anc M q.i i && inN q b
def maskGo (m : Nat → Bool) : Nat → Heap → Heap
  | _, [] => []
  | b, x :: r => (cond (m b) none x) :: maskGo m (b + 1) r
def unmGo (m : Nat → Bool) : Nat → Heap → Heap → Heap
  | b, x :: r, h :: t => (cond (m b) h x) :: unmGo m (b + 1) r t
  | _, X, [] => X
  | _, [], _ => []
theorem maskGo_get (m : Nat → Bool) : ∀ (H : Heap) (b j : Nat), (maskGo m b H)[j]? = (H[j]?).map fun x => cond (m (b + j)) none x
  | [], b, j => by simp [maskGo]
  | x :: r, b, 0 => by simp [maskGo]
  | x :: r, b, j + 1 => by
    simp only [maskGo, List.getElem?_cons_succ]
    rw [maskGo_get m r (b + 1) j, show b + 1 + j = b + (j + 1) by omega]
theorem maskGo_len (m : Nat → Bool) : ∀ (H : Heap) (b : Nat), (maskGo m b H).length = H.length
  | [], b => rfl
  | x :: r, b => by simp [maskGo, maskGo_len m r]
theorem unmGo_get (m : Nat → Bool) : ∀ (X H : Heap) (b j : Nat), H.length ≤ X.length → (unmGo m b X H)[j]? = if j < H.length ∧ m (b + j) = true then H[j]? else X[j]?
  | [], [], b, j, h => by simp [unmGo]
  | [], x :: r, b, j, h => by simp at h
  | x :: r, [], b, j, h => by simp [unmGo]
  | x :: r, y :: t, b, 0, h => by
    simp only [unmGo, List.getElem?_cons_zero, List.length_cons, Nat.add_zero]
    cases hm : m b <;> simp
  | x :: r, y :: t, b, j + 1, h => by
    simp only [unmGo, List.getElem?_cons_succ]
    rw [unmGo_get m r t (b + 1) j (by simp at h; omega), show b + 1 + j = b + (j + 1) by omega]
    simp
theorem unmGo_len (m : Nat → Bool) : ∀ (X H : Heap) (b : Nat), H.length ≤ X.length → (unmGo m b X H).length = X.length
  | [], [], b, h => rfl
  | [], x :: r, b, h => by simp at h
  | x :: r, [], b, h => rfl
  | x :: r, y :: t, b, h => by simp [unmGo, unmGo_len m r t (b + 1) (by simp at h; omega)]
/-- All that an operation looks at is known. -/
def knows (T : List V) (o : Oper) : Bool := o.op.operands.toList.all fun x => match ev T x with
  | some _ => true
  | none => false
/-- A region whose order is open, in the text's order, with the checks that say: every order comes to the same. -/
def regDGo {α : Type} (P : Program) (call : CallT α) (ops : Array Oper) (M : List Nat) : List Oper → Nat → List V → Heap → List Foot → List Rec → (List V → Heap → List Foot → Option α) → Option α
  | [], _, T, H, L, _, k => k T H L
  | o :: r, i, T, H, L, rs, k => wantA ops T o
      (fun T => match clsOf o.op with
        | .pure => pureA P T o fun v => regDGo P call ops M r (i + 1) (putT T o.dst v) H L (⟨i, H.length, H.length, .pure, []⟩ :: rs) k
        | .load => loadO P T H o fun u fs => cond (loadOk M i fs rs) (regDGo P call ops M r (i + 1) (putT T o.dst (.u u)) H L (⟨i, H.length, H.length, .load, fs⟩ :: rs) k) none
        | .alloc => match allocD P T o with
          | some (cs, ak) => regDGo P call ops M r (i + 1) (putT T o.dst (ak.val H.length)) (H ++ [some (ak.blk cs)]) L (⟨i, H.length, H.length + 1, .alloc, []⟩ :: rs) k
          | none => none
        | .eff => cond (knows T o) (effA P call T (maskGo (masked M i rs) 0 H) o fun v Hm l => cond (effOk M i l rs)
            (regDGo P call ops M r (i + 1) (putT T o.dst v) (unmGo (masked M i rs) 0 Hm H) (l ++ L) (⟨i, H.length, Hm.length, .eff, l⟩ :: rs) k) none) none)
      (fun T => regDGo P call ops M r (i + 1) (putT T o.dst undefV) H L (⟨i, H.length, H.length, .pure, []⟩ :: rs) k)
def regD {α : Type} (P : Program) (call : CallT α) (ops : Array Oper) (T : List V) (H : Heap) (L : List Foot) (k : List V → Heap → List Foot → Option α) : Option α :=
  cond (backOk ops.toList 0 && allPairs ops (ancGo ops.toList []) ops.toList 0) (regDGo P call ops (ancGo ops.toList []) ops.toList 0 T H L [] k) none
end Go.Proofs.Ytbgdfikfldkjbaa.AI
end
section
/- Code, functions, calls. -/
namespace Go.Proofs.Ytbgdfikfldkjbaa.AI
set_option linter.unnecessarySimpa false
open Go
set_option linter.unusedVariables false
set_option linter.unusedSimpArgs false
abbrev KT (α : Type) := Ex → List V → Heap → List Foot → Option α
/-! A loop's head: what is kept of the temporaries, blocks numbered anew. -/
def keepL (lv : List Nat) : Nat → List V → List V
  | _, [] => []
  | t, v :: r => (cond (lv.any (Nat.beq t)) v .any) :: keepL lv (t + 1) r
def idsC : C → List Nat
  | .ptr b _ => [b]
  | .rp b _ _ _ => [b]
  | .row b _ _ _ _ => [b]
  | .fn _ p q => p.map (·.1) ++ q.map (·.1)
  | _ => []
def idsU : U → List Nat
  | .c x => idsC x
  | .a cs => cs.flatMap idsC
def idsV : V → List Nat
  | .u x => idsU x
  | .t xs => xs.flatMap idsU
  | .any => []
/-- The blocks from n0 on that are named, each once, in their order. -/
def addIds (n0 : Nat) : List Nat → List Nat → List Nat
  | acc, [] => acc
  | acc, b :: r => addIds n0 (cond (Nat.blt b n0 || acc.any (Nat.beq b)) acc (acc ++ [b])) r
def place : List Nat → Nat → Nat → Nat
  | [], _, b => b
  | x :: r, i, b => cond (Nat.beq x b) i (place r (i + 1) b)
/-- The new number. -/
def ren (n0 : Nat) (ids : List Nat) (b : Nat) : Nat := cond (Nat.blt b n0) b (place ids n0 b)
def renC (f : Nat → Nat) : C → C
  | .ptr b o => .ptr (f b) o
  | .rp b sz i o => .rp (f b) sz i o
  | .row b sz st n nl => .row (f b) sz st n nl
  | .fn g p q => .fn g (p.map fun x => (f x.1, x.2)) (q.map fun x => (f x.1, x.2))
  | x => x
def renU (f : Nat → Nat) : U → U
  | .c x => .c (renC f x)
  | .a cs => .a (cs.map (renC f))
def renV (f : Nat → Nat) : V → V
  | .u x => .u (renU f x)
  | .t xs => .t (xs.map (renU f))
  | .any => .any
def idsB : Blk → Option (List Nat)
  | .cells cs => some (cs.flatMap idsC)
  | .row _ _ _ _ fl => cond fl (some []) none
def renB (f : Nat → Nat) : Blk → Blk
  | .cells cs => .cells (cs.map (renC f))
  | B => B
/-- Blocks named by blocks: closed at once, or not. -/
def idsH : List (Option Blk) → Option (List Nat)
  | [] => some []
  | none :: r => idsH r
  | some B :: r => match idsB B, idsH r with
    | some a, some b => some (a ++ b)
    | _, _ => none
/-- At a loop's head (n0: how many blocks there were when the loop was come to): temporaries that are not in lv are struck; blocks from n0 on that are not named are struck, the others numbered anew. -/
def normA {α : Type} (n0 : Nat) (lv : List Nat) (T : List V) (H : Heap) (k : List V → Heap → Option α) : Option α :=
  match idsH (H.take n0) with
  | none => none
  | some h0 =>
    (fun T1 => (fun ids1 => match idsH (ids1.map fun b => blk H b) with
      | none => none
      | some more => (fun ids => match idsH (ids.map fun b => blk H b) with
        | none => none
        | some last => cond (last.all fun b => Nat.blt b n0 || ids.any (Nat.beq b))
            (k (T1.map (renV (ren n0 ids))) ((H.take n0).map (fun x => x.map (renB (ren n0 ids))) ++ ids.map fun b => (blk H b).map (renB (ren n0 ids)))) none) (addIds n0 ids1 more)) (addIds n0 [] (T1.flatMap idsV ++ h0))) (keepL lv 0 T)
/-- A nil slice in a temporary that a loop appends to becomes a row without elements. -/
def rowsA : List (Nat × TypeId × Nat × List C) → List V → Heap → List V × Heap
  | [], T, H => (T, H)
  | (t, e, sz, z) :: r, T, H => match nth T t with
    | some (.u (.c .nils)) => rowsA r (upd T t (.u (.c (.row H.length sz 0 0 true)))) (H ++ [some (.row e sz 0 (fun _ => z) true)])
    | _ => rowsA r T H
/-- What a loop comes to. -/
inductive LTree where
  | leaf (ex : Ex) (T : List V) (H : Heap) (l : List Foot)
  | no
  | test (b : Bool) (x y : LTree)
def LTree.run {α : Type} (L : List Foot) (k : KT α) : LTree → Option α
  | .leaf ex T H l => k ex T H (l ++ L)
  | .no => none
  | .test b x y => cond b (x.run L k) (y.run L k)
def LTree.val : LTree → Option (Ex × List V × Heap × List Foot)
  | .leaf ex T H l => some (ex, T, H, l)
  | .no => none
  | .test b x y => cond b x.val y.val
/-- What is said of a loop: the temporaries that live at its head; those that live behind it; those that grow; what it comes to, if that is told. -/
structure LV where
  lv : List Nat
  out : List Nat
  rows : List (Nat × TypeId × Nat × List C)
  told : Option (List V → Heap → LTree)
def loopA {α : Type} (n0 : Nat) (lv out : List Nat) (body : List V → Heap → List Foot → KT α → Option α) : Nat → List V → Heap → List Foot → KT α → Option α
  | 0, _, _, _, _ => none
  | n + 1, T, H, L, k => body T H L fun ex T H L => match ex with
    | .normal => normA n0 lv T H fun T H => loopA n0 lv out body n T H L k
    | e => normA n0 out T H fun T H => k e T H L
/-- A loop that is left as it is. -/
def loopP {α : Type} (body : List V → Heap → List Foot → KT α → Option α) : Nat → List V → Heap → List Foot → KT α → Option α
  | 0, _, _, _, _ => none
  | n + 1, T, H, L, k => body T H L fun ex T H L => match ex with
    | .normal => loopP body n T H L k
    | e => k e T H L
/-- The first region's number: a loop's name. -/
def keyOf : Code → Option Nat
  | .region id _ _ => some id
  | .seq a b => match keyOf a with
    | some i => some i
    | none => keyOf b
  | .block _ b => keyOf b
  | .loop b => keyOf b
  | .scope b => keyOf b
  | .cond _ a b => match keyOf a with
    | some i => some i
    | none => keyOf b
  | _ => none
def look {α : Type} : List (Nat × α) → Nat → Option α
  | [], _ => none
  | (i, x) :: r, n => cond (Nat.beq i n) (some x) (look r n)
/-- The temporary of a test, written down as known. -/
def know (T : List V) (c : Operand) (b : Bool) : List V :=
  match c with
  | .tmp t => upd T t (.u (.c (.bool b)))
  | _ => T
def codeA {α : Type} (P : Program) (call : CallT α) (fuel : Nat) (lvs : List (Nat × LV)) : Code → List V → Heap → List Foot → KT α → Option α
  | .skip, T, H, L, k => k .normal T H L
  | .label _, T, H, L, k => k .normal T H L
  | .ret, T, H, L, k => k .ret T H L
  | .exit id, T, H, L, k => k (.exit id) T H L
  | .region _ ops draw, T, H, L, k => cond draw (regD P call ops T H L fun T H L => k .normal T H L) (regS P call ops ops.toList T H L fun T H L => k .normal T H L)
  | .seq a b, T, H, L, k => codeA P call fuel lvs a T H L fun ex T H L => match ex with
    | .normal => codeA P call fuel lvs b T H L k
    | e => k e T H L
  | .cond c a b, T, H, L, k => match ev T c with
    | some (.u (.c (.bool β))) => cond β (codeA P call fuel lvs a (know T c true) H L k) (codeA P call fuel lvs b (know T c false) H L k)
    | _ => none
  | .block id b, T, H, L, k => codeA P call fuel lvs b T H L fun ex T H L => match ex with
    | .exit i => cond (i == id) (k .normal T H L) (k (.exit i) T H L)
    | e => k e T H L
  | .loop b, T, H, L, k => match (keyOf b).bind (look lvs) with
    | some v => (fun TH => match idsH TH.2 with
      | some h0 => cond (h0.all fun b => Nat.blt b TH.2.length) (normA TH.2.length v.lv TH.1 TH.2 fun T H => match v.told with
        | none => loopA TH.2.length v.lv v.out (codeA P call fuel lvs b) fuel T H L k
        | some g => (g T H).run L k) none
      | none => none) (rowsA v.rows T H)
    | none => loopP (codeA P call fuel lvs b) fuel T H L k
  | .rangeFunc _ _ asg _, T, H, L, k => match (keyOf asg).bind (look lvs) with
    | some v => match idsH H with
      | some h0 => cond (h0.all fun b => Nat.blt b H.length) (normA H.length v.lv T H fun T H => match v.told with
        | some g => (g T H).run L k
        | none => none) none
      | none => none
    | none => none
  | .scope b, T, H, L, k => codeA P call fuel lvs b T H L k
  | _, _, _, _, _ => none
/-- The loops' bodies. -/
def loops : Code → List Code
  | .seq a b => loops a ++ loops b
  | .cond _ a b => loops a ++ loops b
  | .block _ b => loops b
  | .loop b => b :: loops b
  | .scope b => loops b
  | _ => []
/-- The loops over functions. -/
def ranges : Code → List Code
  | .seq a b => ranges a ++ ranges b
  | .cond _ a b => ranges a ++ ranges b
  | .block _ b => ranges b
  | .loop b => ranges b
  | .scope b => ranges b
  | .rangeFunc g ps a b => [.rangeFunc g ps a b]
  | _ => []
def keyR : Code → Option Nat
  | .rangeFunc _ _ a _ => keyOf a
  | _ => none
def resA {α : Type} (P : Program) (T : List V) (H : Heap) : List ResultVar → (List U → Option α) → Option α
  | [], k => k []
  | .tmp t :: r, k => match nth T t with
    | some (.u x) => resA P T H r fun xs => k (x :: xs)
    | _ => none
  | .cell p t :: r, k => match nth T p with
    | some (.u (.c q)) => loadA P H t q fun x _ => resA P T H r fun xs => k (x :: xs)
    | _ => none
def resV : List U → V
  | [x] => .u x
  | xs => .t xs
def undefs : Nat → List V
  | 0 => []
  | n + 1 => undefV :: undefs n
def runF {α : Type} (P : Program) (call : CallT α) (fuel : Nat) (lvs : List (Nat × LV)) (fn : Func) (args : List V) (H : Heap) (k : V → Heap → List Foot → Option α) : Option α :=
  match fn.body with
  | none => none
  | some c => codeA P call fuel lvs c (args ++ undefs (fn.ntmps - args.length)) H [] fun ex T H L => match ex with
    | .exit _ => none
    | _ => resA P T H fn.results.toList fun xs => k (resV xs) H L
/-! Functions that are told by what they answer. -/
/-- What a function answers: a tree of tests; own: blocks of its own, numbered from 0. -/
inductive Tree where
  | leaf (v : V)
  | own (v : V) (H : Heap)
  | no
  | test (b : Bool) (x y : Tree)
/-- Blocks numbered anew. -/
def renS (f : Nat → Nat) : Blk → Blk
  | .cells cs => .cells (cs.map (renC f))
  | .row e sz n get fl => .row e sz n (cond fl get fun i => (get i).map (renC f)) fl
def none? {α : Type} : List α → Bool
  | [] => true
  | _ => false
def Tree.run {α : Type} (H : Heap) (k : V → Heap → List Foot → Option α) : Tree → Option α
  | .leaf v => cond (none? (idsV v)) (k v H []) none
  | .own v Hn => (fun n => k (renV (fun b => b + n) v) (H ++ Hn.map fun x => x.map (renS fun b => b + n)) []) H.length
  | .no => none
  | .test b x y => cond b (x.run H k) (y.run H k)
def Tree.val : Tree → Option (V × Heap)
  | .leaf v => some (v, [])
  | .own v H => some (v, H)
  | .no => none
  | .test b x y => cond b x.val y.val
/-- Arguments without the places where they lie. -/
def bareC : C → C
  | .as _ sz n _ get => .as none sz n 0 get
  | .ap _ cs => .ap ⟨0, 0, none⟩ cs
  | x => x
def bareU : U → U
  | .c x => .c (bareC x)
  | .a cs => .a (cs.map bareC)
def bareV : V → V
  | .u x => .u (bareU x)
  | .t xs => .t (xs.map bareU)
  | .any => .any
/-- What a told function sees of an argument: own rows as argument slices. -/
def viewC {α : Type} (H : Heap) (x : C) (k : C → Option α) : Option α :=
  match x with
  | .row b sz st n _ => match blk H b with
    | some (.row _ sz' n' get fl) => cond (Nat.beq sz sz' && fl) (cond (decide (st + n ≤ n')) (k (.as none sz n 0 fun i => get (st + i))) none) none
    | _ => none
  | .ptr _ _ => none
  | .rp _ _ _ _ => none
  | .fn f p q => cond (none? p && none? q) (k (.fn f p q)) none
  | x => k (bareC x)
def viewCs {α : Type} (H : Heap) : List C → (List C → Option α) → Option α
  | [], k => k []
  | x :: r, k => viewC H x fun y => viewCs H r fun ys => k (y :: ys)
def viewU {α : Type} (H : Heap) (x : U) (k : U → Option α) : Option α :=
  match x with
  | .c x => viewC H x fun y => k (.c y)
  | .a cs => viewCs H cs fun ys => k (.a ys)
def viewV {α : Type} (H : Heap) (x : V) (k : V → Option α) : Option α :=
  match x with
  | .u x => viewU H x fun y => k (.u y)
  | _ => none
def viewVs {α : Type} (H : Heap) : List V → (List V → Option α) → Option α
  | [], k => k []
  | x :: r, k => viewV H x fun y => viewVs H r fun ys => k (y :: ys)
/-- orc: functions told by what they answer; fns: functions that are walked, with what is said of their loops. -/
def env {α : Type} (P : Program) (orc : List (FuncId × (List V → Tree))) (fns : List (FuncId × Func × List (Nat × LV))) (fuel : Nat) : Nat → CallT α
  | 0 => fun _ _ _ _ => none
  | d + 1 => fun f args H k => match look orc f with
    | some g => viewVs H args fun ys => (g ys).run H k
    | none => match look fns f with
      | some fn => runF P (env P orc fns fuel d) fuel fn.2 fn.1 args H k
      | none => none
/-- What is kept of a result: the value, the blocks that it names. -/
def tidyA {α : Type} (v : V) (H : Heap) (k : V → Heap → Option α) : Option α := normA 0 [0] [v] H fun T H => match T with
  | [.u x] => k (.u x) H
  | [.t xs] => k (.t xs) H
  | _ => none
/-- A function's answer, by its text. -/
def ans (P : Program) (orc : List (FuncId × (List V → Tree))) (fns : List (FuncId × Func × List (Nat × LV))) (fuel d : Nat) (f : FuncId) (args : List V) : Option (V × Heap) :=
  env P orc fns fuel d f args [] fun v H _ => tidyA v H fun v H => some (v, H)
end Go.Proofs.Ytbgdfikfldkjbaa.AI
end
