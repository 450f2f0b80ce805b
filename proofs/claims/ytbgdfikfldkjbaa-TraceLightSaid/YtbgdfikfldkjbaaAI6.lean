/- Statements whose order is open: what is checked, and the walk in the text's order. -/
import Derived.Test.YtbgdfikfldkjbaaAI5
namespace Go.Proofs.Ytbgdfikfldkjbaa.AI
set_option linter.unnecessarySimpa false
open Go
set_option linter.unusedVariables false
set_option linter.unusedSimpArgs false
section
variable {P : Program} {T T' : List V}
theorem allocD_congr {o : Oper} (h : ∀ x ∈ o.op.operands.toList, ev T' x = ev T x) : allocD P T' o = allocD P T o := by
  unfold allocD
  split
  · rfl
  · rename_i ho; simp only [ho, Op.operands] at h; rw [h _ (by simp)]
  · rename_i ho; simp only [ho, Op.operands] at h; rw [evUs_congr (fun p hp => h p.2 (by simp; exact ⟨p.1, by simpa using hp⟩))]
  · rfl
end
/-! What is checked. -/
structure Rec where
  i : Nat
  lo : Nat
  hi : Nat
  cls : Cls
  ft : List Foot
def maskOf (acc : List Nat) (o : Oper) : Nat := o.after.toList.foldl (fun s e => cond (Region.binds .any e) (s ||| 2 ^ e.on ||| (nth acc e.on).getD 0) s) 0
def ancGo : List Oper → List Nat → List Nat
  | [], acc => acc
  | o :: r, acc => ancGo r (acc ++ [maskOf acc o])
def anc (M : List Nat) (j i : Nat) : Bool := ((nth M i).getD 0).testBit j
def backOk : List Oper → Nat → Bool
  | [], _ => true
  | o :: r, i => (o.after.toList.all fun e => !Region.binds .any e || decide (e.on < i)) && backOk r (i + 1)
def pairsOk (ops : Array Oper) (M : List Nat) (x : Oper) (i : Nat) : List Oper → Nat → Bool
  | [], _ => true
  | y :: r, j => (anc M i j || Oper.apart ops x y) && pairsOk ops M x i r (j + 1)
def allPairs (ops : Array Oper) (M : List Nat) : List Oper → Nat → Bool
  | [], _ => true
  | x :: r, i => pairsOk ops M x i r (i + 1) && allPairs ops M r (i + 1)
def disj (f g : Foot) : Bool :=
  match f, g with
  | .c b o n, .c b' o' n' => !Nat.beq b b' || decide (o + n ≤ o') || decide (o' + n' ≤ o)
  | f, g => !Nat.beq f.b g.b
def inN (q : Rec) (b : Nat) : Bool := decide (q.lo ≤ b) && decide (b < q.hi)
def isEff : Cls → Bool
  | .eff => true
  | _ => false
def loadOk (M : List Nat) (i : Nat) (fs : List Foot) (rs : List Rec) : Bool :=
  rs.all fun q => anc M q.i i || fs.all fun f => !inN q f.b && (!isEff q.cls || q.ft.all fun g => disj g f)
def effOk (M : List Nat) (i : Nat) (l : List Foot) (rs : List Rec) : Bool :=
  rs.all fun q => anc M q.i i || (match q.cls with
    | .eff => false
    | .load => q.ft.all fun f => l.all fun g => disj g f
    | _ => true)
def masked (M : List Nat) (i : Nat) (rs : List Rec) (b : Nat) : Bool := rs.any fun q => !anc M q.i i && inN q b
def maskGo (m : Nat → Bool) : Nat → Heap → Heap
  | _, [] => []
  | b, x :: r => (cond (m b) none x) :: maskGo m (b + 1) r
def unmGo (m : Nat → Bool) : Nat → Heap → Heap → Heap
  | b, x :: r, h :: t => (cond (m b) h x) :: unmGo m (b + 1) r t
  | _, X, [] => X
  | _, [], _ => []
theorem maskGo_get (m : Nat → Bool) : ∀ (H : Heap) (b j : Nat), (maskGo m b H)[j]? = (H[j]?).map fun x => cond (m (b + j)) none x
  | [], b, j => by simp [maskGo]
  | x :: r, b, 0 => by simp [maskGo]
  | x :: r, b, j + 1 => by
    simp only [maskGo, List.getElem?_cons_succ]
    rw [maskGo_get m r (b + 1) j, show b + 1 + j = b + (j + 1) by omega]
theorem maskGo_len (m : Nat → Bool) : ∀ (H : Heap) (b : Nat), (maskGo m b H).length = H.length
  | [], b => rfl
  | x :: r, b => by simp [maskGo, maskGo_len m r]
theorem unmGo_get (m : Nat → Bool) : ∀ (X H : Heap) (b j : Nat), H.length ≤ X.length → (unmGo m b X H)[j]? = if j < H.length ∧ m (b + j) = true then H[j]? else X[j]?
  | [], [], b, j, h => by simp [unmGo]
  | [], x :: r, b, j, h => by simp at h
  | x :: r, [], b, j, h => by simp [unmGo]
  | x :: r, y :: t, b, 0, h => by
    simp only [unmGo, List.getElem?_cons_zero, List.length_cons, Nat.add_zero]
    cases hm : m b <;> simp
  | x :: r, y :: t, b, j + 1, h => by
    simp only [unmGo, List.getElem?_cons_succ]
    rw [unmGo_get m r t (b + 1) j (by simp at h; omega), show b + 1 + j = b + (j + 1) by omega]
    simp
theorem unmGo_len (m : Nat → Bool) : ∀ (X H : Heap) (b : Nat), H.length ≤ X.length → (unmGo m b X H).length = X.length
  | [], [], b, h => rfl
  | [], x :: r, b, h => by simp at h
  | x :: r, [], b, h => rfl
  | x :: r, y :: t, b, h => by simp [unmGo, unmGo_len m r t (b + 1) (by simp at h; omega)]
/-- All that an operation looks at is known. -/
def knows (T : List V) (o : Oper) : Bool := o.op.operands.toList.all fun x => match ev T x with
  | some _ => true
  | none => false
/-- A region whose order is open, in the text's order, with the checks that say: every order comes to the same. -/
def regDGo {α : Type} (P : Program) (call : CallT α) (ops : Array Oper) (M : List Nat) : List Oper → Nat → List V → Heap → List Foot → List Rec → (List V → Heap → List Foot → Option α) → Option α
  | [], _, T, H, L, _, k => k T H L
  | o :: r, i, T, H, L, rs, k => wantA ops T o
      (fun T => match clsOf o.op with
        | .pure => pureA P T o fun v => regDGo P call ops M r (i + 1) (putT T o.dst v) H L (⟨i, H.length, H.length, .pure, []⟩ :: rs) k
        | .load => loadO P T H o fun u fs => cond (loadOk M i fs rs) (regDGo P call ops M r (i + 1) (putT T o.dst (.u u)) H L (⟨i, H.length, H.length, .load, fs⟩ :: rs) k) none
        | .alloc => match allocD P T o with
          | some (cs, ak) => regDGo P call ops M r (i + 1) (putT T o.dst (ak.val H.length)) (H ++ [some (ak.blk cs)]) L (⟨i, H.length, H.length + 1, .alloc, []⟩ :: rs) k
          | none => none
        | .eff => cond (knows T o) (effA P call T (maskGo (masked M i rs) 0 H) o fun v Hm l => cond (effOk M i l rs)
            (regDGo P call ops M r (i + 1) (putT T o.dst v) (unmGo (masked M i rs) 0 Hm H) (l ++ L) (⟨i, H.length, Hm.length, .eff, l⟩ :: rs) k) none) none)
      (fun T => regDGo P call ops M r (i + 1) (putT T o.dst undefV) H L (⟨i, H.length, H.length, .pure, []⟩ :: rs) k)
def regD {α : Type} (P : Program) (call : CallT α) (ops : Array Oper) (T : List V) (H : Heap) (L : List Foot) (k : List V → Heap → List Foot → Option α) : Option α :=
  cond (backOk ops.toList 0 && allPairs ops (ancGo ops.toList []) ops.toList 0) (regDGo P call ops (ancGo ops.toList []) ops.toList 0 T H L [] k) none
end Go.Proofs.Ytbgdfikfldkjbaa.AI
