-- printed by xprint.py
import Derived.Test.YtncemdpmooakgaaProg
import Derived.Below
import Derived.Deep.Draws
import Derived.Deep.AppendLies
import Derived.Maps.AppendAt
import Derived.OwnWalk
import Derived.Laws.BytesArg
import Derived.Laws.MakeOwn
import Derived.Laws.OwnMore
import Derived.Deep.OwnRows
import Derived.Tactics
import Derived.Lib.ConvBytes
import Derived.Laws.Slices
import Derived.WalkKit
import Derived.KernelRfl
import Derived.RowKit3
import Derived.Deep.LoopGhost
import Derived.Deep.QuietTactic
import Derived.BigQuiet
import Derived.WideLaws
import Derived.Deep.DeepCutAuto
import Derived.Deep.CutBlock
import Derived.Deep.RegionHeld3
import Derived.Laws.Rows
import Derived.Lib.AppendStr
import Derived.ArgAppend
import Derived.Laws.IdiomCopy
import Derived.OrdersHeld
import Derived.Laws.BitsLemmas
import Derived.RowKit
import Derived.Laws.Cover1
import Derived.Test.YtncemdpmooakgaaWAll
import Derived.Test.YtncemdpmooakgaaXW
namespace Go.Proofs.Ytncemdpmooakgaa.XK
open Go.Proofs.Ytncemdpmooakgaa.XW
open Go.RowKit Go.Proofs.YtncemdpmooakgaaW.PrintWords Go.Proofs.YtncemdpmooakgaaW.PrintLast Go.Proofs.YtncemdpmooakgaaW.PrintMore
attribute [local go_sem] max2_int min2_int max_two min_two max_three min_three max_four min_four   -- for this text's walks alone
set_option linter.unusedVariables false
set_option linter.unusedSimpArgs false



def errW : Option Int → Value
  | none => .nilIface
  | some c => .iface 0 (.int .i64 c)
theorem errW_none : errW none = .nilIface := rfl
theorem errW_some (c : Int) : errW (some c) = .iface 0 (.int .i64 c) := rfl

theorem info3 : (Try.prog.info? 3).map (fun i => (i.zero, i.size, i.bytes)) = some (some (.int .i64 0), 1, 8) := by kernel_rfl
theorem info51 : (Try.prog.info? 51).map (fun i => (i.zero, i.size, i.bytes)) = some (some (.agg #[(.string ⟨#[]⟩), (.int .i64 0), (.int .i64 0), (.slice none 0 0), (.int .i64 0), (.bool false), (.string ⟨#[]⟩), (.bool false), (.string ⟨#[]⟩), (.bool false), (.string ⟨#[]⟩), (.bool false), (.string ⟨#[]⟩), (.bool false), (.string ⟨#[]⟩), (.bool false), (.string ⟨#[]⟩), (.bool false), (.string ⟨#[]⟩), (.bool false), (.string ⟨#[]⟩), (.bool false), (.string ⟨#[]⟩), (.bool false), (.string ⟨#[]⟩), (.bool false), (.string ⟨#[]⟩), (.bool false), (.string ⟨#[]⟩), (.bool false), (.string ⟨#[]⟩), (.bool false), (.string ⟨#[]⟩), (.bool false), (.string ⟨#[]⟩), (.bool false), (.string ⟨#[]⟩), (.bool false), (.string ⟨#[]⟩), (.bool false), (.string ⟨#[]⟩), (.bool false), (.string ⟨#[]⟩), (.bool false), (.string ⟨#[]⟩), (.slice none 0 0)]), 46, 568) := by kernel_rfl
-- the values' own types
/-! #### struct type 64 -/
structure S64 where
  f0 : ByteArray
  f1 : Int
def z64 : S64 := ⟨(⟨#[]⟩ : ByteArray), (0 : Int)⟩
def k64 : Kd S64 := Kd.iso (Kd.pair Kd.string (Kd.int .i64)) (fun x : S64 => (x.f0, x.f1))
theorem k64_heap : Kd.Heap k64 := Kd.heap_iso _ (Kd.heap_pair Kd.heap_string (Kd.heap_int .i64))
theorem k64_open {w : World} {x : S64} {cs : List Value} (h : k64.K w x cs) : cs = [.string x.f0, .int .i64 x.f1] := by
  obtain ⟨_, _, rfl, rfl, rfl⟩ := h
  exact rfl
theorem k64_mkM (w : World) (base : Nat) (ok : Nat → Prop) (x : S64)  : k64.M w base ok x [.string x.f0, .int .i64 x.f1] := ⟨[.string x.f0], [.int .i64 x.f1], rfl, rfl, rfl⟩
def rd_T64 (xs : List S64) (i : Int) : S64 := xs.getD i.toNat z64
theorem at_T64 {w : World} {A : Option Addr} {n : Nat} {xs : List S64} (h : Kd.C k64 w A n xs) (i : Int) (h0 : 0 ≤ i) (h1 : i < n) : ∃ ad , A = some ad ∧ w.cell? (ad.add (i.toNat * 2)) = some (.string (rd_T64 xs i).f0) ∧ w.cell? ⟨(ad.add (i.toNat * 2)).block, (ad.add (i.toNat * 2)).off + 1, none⟩ = some (.int .i64 (rd_T64 xs i).f1) := by
  obtain ⟨ad, c, e, _, hK, hc0⟩ := Kd.C_get h z64 i h0 h1
  have hc : ∀ j u, c[j]? = some u → w.cell? (ad.add (i.toNat * 2 + j)) = some u := hc0
  obtain rfl := k64_open hK
  exact ⟨ad, e, hc 0 _ rfl, by rw [← add_field _ _ 1 (by omega)]; exact hc 1 _ rfl⟩

/-! #### struct type 41 -/
structure S41 where
  f0 : Bool
  f1 : ByteArray
def z41 : S41 := ⟨false, (⟨#[]⟩ : ByteArray)⟩
def k41 : Kd S41 := Kd.iso (Kd.pair Kd.bool Kd.string) (fun x : S41 => (x.f0, x.f1))
theorem k41_heap : Kd.Heap k41 := Kd.heap_iso _ (Kd.heap_pair Kd.heap_bool Kd.heap_string)
theorem k41_open {w : World} {x : S41} {cs : List Value} (h : k41.K w x cs) : cs = [.bool x.f0, .string x.f1] := by
  obtain ⟨_, _, rfl, rfl, rfl⟩ := h
  exact rfl
theorem k41_mk (w : World) (x : S41)  : k41.K w x [.bool x.f0, .string x.f1] := ⟨[.bool x.f0], [.string x.f1], rfl, rfl, rfl⟩
/-! #### struct type 42 -/
structure S42 where
  f0 : S41
  f1 : S41
  f2 : S41
  f3 : S41
def z42 : S42 := ⟨z41, z41, z41, z41⟩
def k42 : Kd S42 := Kd.iso (Kd.pair k41 (Kd.pair k41 (Kd.pair k41 k41))) (fun x : S42 => (x.f0, x.f1, x.f2, x.f3))
theorem k42_heap : Kd.Heap k42 := Kd.heap_iso _ (Kd.heap_pair k41_heap (Kd.heap_pair k41_heap (Kd.heap_pair k41_heap k41_heap)))
theorem k42_open {w : World} {x : S42} {cs : List Value} (h : k42.K w x cs) : cs = [.bool x.f0.f0, .string x.f0.f1, .bool x.f1.f0, .string x.f1.f1, .bool x.f2.f0, .string x.f2.f1, .bool x.f3.f0, .string x.f3.f1] := by
  obtain ⟨_, _, rfl, s0, ⟨_, _, rfl, s2, ⟨_, _, rfl, s4, s6⟩⟩⟩ := h
  obtain rfl := k41_open s0
  obtain rfl := k41_open s2
  obtain rfl := k41_open s4
  obtain rfl := k41_open s6
  exact rfl
theorem k42_mk (w : World) (x : S42)  : k42.K w x [.bool x.f0.f0, .string x.f0.f1, .bool x.f1.f0, .string x.f1.f1, .bool x.f2.f0, .string x.f2.f1, .bool x.f3.f0, .string x.f3.f1] := ⟨[.bool x.f0.f0, .string x.f0.f1], [.bool x.f1.f0, .string x.f1.f1, .bool x.f2.f0, .string x.f2.f1, .bool x.f3.f0, .string x.f3.f1], rfl, (k41_mk w x.f0 ), ⟨[.bool x.f1.f0, .string x.f1.f1], [.bool x.f2.f0, .string x.f2.f1, .bool x.f3.f0, .string x.f3.f1], rfl, (k41_mk w x.f1 ), ⟨[.bool x.f2.f0, .string x.f2.f1], [.bool x.f3.f0, .string x.f3.f1], rfl, (k41_mk w x.f2 ), (k41_mk w x.f3 )⟩⟩⟩
/-! #### struct type 44 -/
structure S44 where
  f0 : S42
  f1 : S41
def z44 : S44 := ⟨z42, z41⟩
def k44 : Kd S44 := Kd.iso (Kd.pair k42 k41) (fun x : S44 => (x.f0, x.f1))
theorem k44_heap : Kd.Heap k44 := Kd.heap_iso _ (Kd.heap_pair k42_heap k41_heap)
theorem k44_open {w : World} {x : S44} {cs : List Value} (h : k44.K w x cs) : cs = [.bool x.f0.f0.f0, .string x.f0.f0.f1, .bool x.f0.f1.f0, .string x.f0.f1.f1, .bool x.f0.f2.f0, .string x.f0.f2.f1, .bool x.f0.f3.f0, .string x.f0.f3.f1, .bool x.f1.f0, .string x.f1.f1] := by
  obtain ⟨_, _, rfl, s0, s8⟩ := h
  obtain rfl := k42_open s0
  obtain rfl := k41_open s8
  exact rfl
theorem k44_mk (w : World) (x : S44)  : k44.K w x [.bool x.f0.f0.f0, .string x.f0.f0.f1, .bool x.f0.f1.f0, .string x.f0.f1.f1, .bool x.f0.f2.f0, .string x.f0.f2.f1, .bool x.f0.f3.f0, .string x.f0.f3.f1, .bool x.f1.f0, .string x.f1.f1] := ⟨[.bool x.f0.f0.f0, .string x.f0.f0.f1, .bool x.f0.f1.f0, .string x.f0.f1.f1, .bool x.f0.f2.f0, .string x.f0.f2.f1, .bool x.f0.f3.f0, .string x.f0.f3.f1], [.bool x.f1.f0, .string x.f1.f1], rfl, (k42_mk w x.f0 ), (k41_mk w x.f1 )⟩
/-! #### struct type 46 -/
structure S46 where
  f0 : S44
  f1 : S44
  f2 : S44
def z46 : S46 := ⟨z44, z44, z44⟩
def k46 : Kd S46 := Kd.iso (Kd.pair k44 (Kd.pair k44 k44)) (fun x : S46 => (x.f0, x.f1, x.f2))
theorem k46_heap : Kd.Heap k46 := Kd.heap_iso _ (Kd.heap_pair k44_heap (Kd.heap_pair k44_heap k44_heap))
theorem k46_open {w : World} {x : S46} {cs : List Value} (h : k46.K w x cs) : cs = [.bool x.f0.f0.f0.f0, .string x.f0.f0.f0.f1, .bool x.f0.f0.f1.f0, .string x.f0.f0.f1.f1, .bool x.f0.f0.f2.f0, .string x.f0.f0.f2.f1, .bool x.f0.f0.f3.f0, .string x.f0.f0.f3.f1, .bool x.f0.f1.f0, .string x.f0.f1.f1, .bool x.f1.f0.f0.f0, .string x.f1.f0.f0.f1, .bool x.f1.f0.f1.f0, .string x.f1.f0.f1.f1, .bool x.f1.f0.f2.f0, .string x.f1.f0.f2.f1, .bool x.f1.f0.f3.f0, .string x.f1.f0.f3.f1, .bool x.f1.f1.f0, .string x.f1.f1.f1, .bool x.f2.f0.f0.f0, .string x.f2.f0.f0.f1, .bool x.f2.f0.f1.f0, .string x.f2.f0.f1.f1, .bool x.f2.f0.f2.f0, .string x.f2.f0.f2.f1, .bool x.f2.f0.f3.f0, .string x.f2.f0.f3.f1, .bool x.f2.f1.f0, .string x.f2.f1.f1] := by
  obtain ⟨_, _, rfl, s0, ⟨_, _, rfl, s10, s20⟩⟩ := h
  obtain rfl := k44_open s0
  obtain rfl := k44_open s10
  obtain rfl := k44_open s20
  exact rfl
/-! #### struct type 49 -/
structure S49 where
  f0 : Int
  f1 : S44
  f2 : S46
  f3 : (List S64)
def z49 : S49 := ⟨(0 : Int), z44, z46, ([] : List S64)⟩
def k49 : Kd S49 := Kd.iso (Kd.pair (Kd.int .i64) (Kd.pair k44 (Kd.pair k46 (Kd.slice 64 k64)))) (fun x : S49 => (x.f0, x.f1, x.f2, x.f3))
theorem k49_heap : Kd.Heap k49 := Kd.heap_iso _ (Kd.heap_pair (Kd.heap_int .i64) (Kd.heap_pair k44_heap (Kd.heap_pair k46_heap (Kd.heap_slice 64 k64_heap))))
theorem k49_open {w : World} {x : S49} {cs : List Value} (h : k49.K w x cs) : ∃ A41 c41, cs = [.int .i64 x.f0, .bool x.f1.f0.f0.f0, .string x.f1.f0.f0.f1, .bool x.f1.f0.f1.f0, .string x.f1.f0.f1.f1, .bool x.f1.f0.f2.f0, .string x.f1.f0.f2.f1, .bool x.f1.f0.f3.f0, .string x.f1.f0.f3.f1, .bool x.f1.f1.f0, .string x.f1.f1.f1, .bool x.f2.f0.f0.f0.f0, .string x.f2.f0.f0.f0.f1, .bool x.f2.f0.f0.f1.f0, .string x.f2.f0.f0.f1.f1, .bool x.f2.f0.f0.f2.f0, .string x.f2.f0.f0.f2.f1, .bool x.f2.f0.f0.f3.f0, .string x.f2.f0.f0.f3.f1, .bool x.f2.f0.f1.f0, .string x.f2.f0.f1.f1, .bool x.f2.f1.f0.f0.f0, .string x.f2.f1.f0.f0.f1, .bool x.f2.f1.f0.f1.f0, .string x.f2.f1.f0.f1.f1, .bool x.f2.f1.f0.f2.f0, .string x.f2.f1.f0.f2.f1, .bool x.f2.f1.f0.f3.f0, .string x.f2.f1.f0.f3.f1, .bool x.f2.f1.f1.f0, .string x.f2.f1.f1.f1, .bool x.f2.f2.f0.f0.f0, .string x.f2.f2.f0.f0.f1, .bool x.f2.f2.f0.f1.f0, .string x.f2.f2.f0.f1.f1, .bool x.f2.f2.f0.f2.f0, .string x.f2.f2.f0.f2.f1, .bool x.f2.f2.f0.f3.f0, .string x.f2.f2.f0.f3.f1, .bool x.f2.f2.f1.f0, .string x.f2.f2.f1.f1, .slice A41 x.f3.length c41] ∧ x.f3.length ≤ c41 ∧ k64.C w A41 x.f3.length x.f3 := by
  obtain ⟨_, _, rfl, rfl, ⟨_, _, rfl, s1, ⟨_, _, rfl, s11, ⟨A41, c41, rfl, l41, g41⟩⟩⟩⟩ := h
  obtain rfl := k44_open s1
  obtain rfl := k46_open s11
  exact ⟨A41, c41, rfl, l41, g41⟩
/-! #### struct type 51 -/
structure S51 where
  f0 : ByteArray
  f1 : Int
  f2 : Int
  f3 : (List Int)
  f4 : S49
def z51 : S51 := ⟨(⟨#[]⟩ : ByteArray), (0 : Int), (0 : Int), ([] : List Int), z49⟩
def k51 : Kd S51 := Kd.iso (Kd.pair Kd.string (Kd.pair (Kd.int .i64) (Kd.pair (Kd.int .i64) (Kd.pair (Kd.slice 3 (Kd.int .i64)) k49)))) (fun x : S51 => (x.f0, x.f1, x.f2, x.f3, x.f4))
theorem k51_heap : Kd.Heap k51 := Kd.heap_iso _ (Kd.heap_pair Kd.heap_string (Kd.heap_pair (Kd.heap_int .i64) (Kd.heap_pair (Kd.heap_int .i64) (Kd.heap_pair (Kd.heap_slice 3 (Kd.heap_int .i64)) k49_heap))))
/-! #### struct type 36 -/
structure S36 where
  f0 : ByteArray
  f1 : Int
  f2 : Bool
  f3 : (List S51)
def k36 : Kd S36 := Kd.iso (Kd.pair Kd.string (Kd.pair (Kd.int .i64) (Kd.pair Kd.bool (Kd.slice 51 k51)))) (fun x : S36 => (x.f0, x.f1, x.f2, x.f3))
theorem k36_open {w : World} {x : S36} {cs : List Value} (h : k36.K w x cs) : ∃ A3 c3, cs = [.string x.f0, .int .i64 x.f1, .bool x.f2, .slice A3 x.f3.length c3] ∧ x.f3.length ≤ c3 ∧ k51.C w A3 x.f3.length x.f3 := by
  obtain ⟨_, _, rfl, rfl, ⟨_, _, rfl, rfl, ⟨_, _, rfl, rfl, ⟨A3, c3, rfl, l3, g3⟩⟩⟩⟩ := h
  exact ⟨A3, c3, rfl, l3, g3⟩
/-! #### struct type 71 -/
structure S71 where
  f0 : Int
  f1 : Int
  f2 : Int
def z71 : S71 := ⟨(0 : Int), (0 : Int), (0 : Int)⟩
def k71 : Kd S71 := Kd.iso (Kd.pair (Kd.int .i64) (Kd.pair (Kd.int .i64) (Kd.int .i64))) (fun x : S71 => (x.f0, x.f1, x.f2))
theorem k71_open {w : World} {x : S71} {cs : List Value} (h : k71.K w x cs) : cs = [.int .i64 x.f0, .int .i64 x.f1, .int .i64 x.f2] := by
  obtain ⟨_, _, rfl, rfl, ⟨_, _, rfl, rfl, rfl⟩⟩ := h
  exact rfl
theorem k71_mk (w : World) (x : S71)  : k71.K w x [.int .i64 x.f0, .int .i64 x.f1, .int .i64 x.f2] := ⟨[.int .i64 x.f0], [.int .i64 x.f1, .int .i64 x.f2], rfl, rfl, ⟨[.int .i64 x.f1], [.int .i64 x.f2], rfl, rfl, rfl⟩⟩
/-! #### struct type 73 -/
structure S73 where
  f0 : ByteArray
  f1 : S71
  f2 : S44
def z73 : S73 := ⟨(⟨#[]⟩ : ByteArray), z71, z44⟩
def k73 : Kd S73 := Kd.iso (Kd.pair Kd.string (Kd.pair k71 k44)) (fun x : S73 => (x.f0, x.f1, x.f2))
theorem k73_open {w : World} {x : S73} {cs : List Value} (h : k73.K w x cs) : cs = [.string x.f0, .int .i64 x.f1.f0, .int .i64 x.f1.f1, .int .i64 x.f1.f2, .bool x.f2.f0.f0.f0, .string x.f2.f0.f0.f1, .bool x.f2.f0.f1.f0, .string x.f2.f0.f1.f1, .bool x.f2.f0.f2.f0, .string x.f2.f0.f2.f1, .bool x.f2.f0.f3.f0, .string x.f2.f0.f3.f1, .bool x.f2.f1.f0, .string x.f2.f1.f1] := by
  obtain ⟨_, _, rfl, rfl, ⟨_, _, rfl, s1, s4⟩⟩ := h
  obtain rfl := k71_open s1
  obtain rfl := k44_open s4
  exact rfl
theorem k73_mk (w : World) (x : S73)  : k73.K w x [.string x.f0, .int .i64 x.f1.f0, .int .i64 x.f1.f1, .int .i64 x.f1.f2, .bool x.f2.f0.f0.f0, .string x.f2.f0.f0.f1, .bool x.f2.f0.f1.f0, .string x.f2.f0.f1.f1, .bool x.f2.f0.f2.f0, .string x.f2.f0.f2.f1, .bool x.f2.f0.f3.f0, .string x.f2.f0.f3.f1, .bool x.f2.f1.f0, .string x.f2.f1.f1] := ⟨[.string x.f0], [.int .i64 x.f1.f0, .int .i64 x.f1.f1, .int .i64 x.f1.f2, .bool x.f2.f0.f0.f0, .string x.f2.f0.f0.f1, .bool x.f2.f0.f1.f0, .string x.f2.f0.f1.f1, .bool x.f2.f0.f2.f0, .string x.f2.f0.f2.f1, .bool x.f2.f0.f3.f0, .string x.f2.f0.f3.f1, .bool x.f2.f1.f0, .string x.f2.f1.f1], rfl, rfl, ⟨[.int .i64 x.f1.f0, .int .i64 x.f1.f1, .int .i64 x.f1.f2], [.bool x.f2.f0.f0.f0, .string x.f2.f0.f0.f1, .bool x.f2.f0.f1.f0, .string x.f2.f0.f1.f1, .bool x.f2.f0.f2.f0, .string x.f2.f0.f2.f1, .bool x.f2.f0.f3.f0, .string x.f2.f0.f3.f1, .bool x.f2.f1.f0, .string x.f2.f1.f1], rfl, (k71_mk w x.f1 ), (k44_mk w x.f2 )⟩⟩
def rd_T73 (xs : List S73) (i : Int) : S73 := xs.getD i.toNat z73
theorem at_T73 {w : World} {A : Option Addr} {n : Nat} {xs : List S73} (h : Kd.C k73 w A n xs) (i : Int) (h0 : 0 ≤ i) (h1 : i < n) : ∃ ad , A = some ad ∧ w.cell? (ad.add (i.toNat * 14)) = some (.string (rd_T73 xs i).f0) ∧ w.cell? ⟨(ad.add (i.toNat * 14)).block, (ad.add (i.toNat * 14)).off + 1, none⟩ = some (.int .i64 (rd_T73 xs i).f1.f0) ∧ w.cell? ⟨(ad.add (i.toNat * 14)).block, (ad.add (i.toNat * 14)).off + 2, none⟩ = some (.int .i64 (rd_T73 xs i).f1.f1) ∧ w.cell? ⟨(ad.add (i.toNat * 14)).block, (ad.add (i.toNat * 14)).off + 3, none⟩ = some (.int .i64 (rd_T73 xs i).f1.f2) ∧ w.cell? ⟨(ad.add (i.toNat * 14)).block, (ad.add (i.toNat * 14)).off + 4, none⟩ = some (.bool (rd_T73 xs i).f2.f0.f0.f0) ∧ w.cell? ⟨(ad.add (i.toNat * 14)).block, (ad.add (i.toNat * 14)).off + 5, none⟩ = some (.string (rd_T73 xs i).f2.f0.f0.f1) ∧ w.cell? ⟨(ad.add (i.toNat * 14)).block, (ad.add (i.toNat * 14)).off + 6, none⟩ = some (.bool (rd_T73 xs i).f2.f0.f1.f0) ∧ w.cell? ⟨(ad.add (i.toNat * 14)).block, (ad.add (i.toNat * 14)).off + 7, none⟩ = some (.string (rd_T73 xs i).f2.f0.f1.f1) ∧ w.cell? ⟨(ad.add (i.toNat * 14)).block, (ad.add (i.toNat * 14)).off + 8, none⟩ = some (.bool (rd_T73 xs i).f2.f0.f2.f0) ∧ w.cell? ⟨(ad.add (i.toNat * 14)).block, (ad.add (i.toNat * 14)).off + 9, none⟩ = some (.string (rd_T73 xs i).f2.f0.f2.f1) ∧ w.cell? ⟨(ad.add (i.toNat * 14)).block, (ad.add (i.toNat * 14)).off + 10, none⟩ = some (.bool (rd_T73 xs i).f2.f0.f3.f0) ∧ w.cell? ⟨(ad.add (i.toNat * 14)).block, (ad.add (i.toNat * 14)).off + 11, none⟩ = some (.string (rd_T73 xs i).f2.f0.f3.f1) ∧ w.cell? ⟨(ad.add (i.toNat * 14)).block, (ad.add (i.toNat * 14)).off + 12, none⟩ = some (.bool (rd_T73 xs i).f2.f1.f0) ∧ w.cell? ⟨(ad.add (i.toNat * 14)).block, (ad.add (i.toNat * 14)).off + 13, none⟩ = some (.string (rd_T73 xs i).f2.f1.f1) := by
  obtain ⟨ad, c, e, _, hK, hc0⟩ := Kd.C_get h z73 i h0 h1
  have hc : ∀ j u, c[j]? = some u → w.cell? (ad.add (i.toNat * 14 + j)) = some u := hc0
  obtain rfl := k73_open hK
  exact ⟨ad, e, hc 0 _ rfl, by rw [← add_field _ _ 1 (by omega)]; exact hc 1 _ rfl, by rw [← add_field _ _ 2 (by omega)]; exact hc 2 _ rfl, by rw [← add_field _ _ 3 (by omega)]; exact hc 3 _ rfl, by rw [← add_field _ _ 4 (by omega)]; exact hc 4 _ rfl, by rw [← add_field _ _ 5 (by omega)]; exact hc 5 _ rfl, by rw [← add_field _ _ 6 (by omega)]; exact hc 6 _ rfl, by rw [← add_field _ _ 7 (by omega)]; exact hc 7 _ rfl, by rw [← add_field _ _ 8 (by omega)]; exact hc 8 _ rfl, by rw [← add_field _ _ 9 (by omega)]; exact hc 9 _ rfl, by rw [← add_field _ _ 10 (by omega)]; exact hc 10 _ rfl, by rw [← add_field _ _ 11 (by omega)]; exact hc 11 _ rfl, by rw [← add_field _ _ 12 (by omega)]; exact hc 12 _ rfl, by rw [← add_field _ _ 13 (by omega)]; exact hc 13 _ rfl⟩

/-! #### struct type 66 -/
structure S66 where
  f0 : S36
  f1 : Int
def k66 : Kd S66 := Kd.iso (Kd.pair k36 (Kd.int .i64)) (fun x : S66 => (x.f0, x.f1))
theorem k66_open {w : World} {x : S66} {cs : List Value} (h : k66.K w x cs) : ∃ A3 c3, cs = [.string x.f0.f0, .int .i64 x.f0.f1, .bool x.f0.f2, .slice A3 x.f0.f3.length c3, .int .i64 x.f1] ∧ x.f0.f3.length ≤ c3 ∧ k51.C w A3 x.f0.f3.length x.f0.f3 := by
  obtain ⟨_, _, rfl, s0, rfl⟩ := h
  obtain ⟨A3, c3, rfl, l3, g3⟩ := k36_open s0
  exact ⟨A3, c3, rfl, l3, g3⟩
def V71 (x : S71) : Prop := (fun n_ => (Lit.int .i64 n_).wf = true) x.f0 ∧ (fun n_ => (Lit.int .i64 n_).wf = true) x.f1 ∧ (fun n_ => (Lit.int .i64 n_).wf = true) x.f2
theorem o71 : Opens Try.prog k71 71 V71 := opens_imp (opens_struct (g := (fun y => (⟨y.1, y.2.1, y.2.2⟩ : S71))) Try.underlying71 (by kernel_rfl) (fun _ => rfl) (opensL_cons (by kernel_rfl) (opens_int Try.underlying3) (opensL_cons (by kernel_rfl) (opens_int Try.underlying3) (opensL_one (by kernel_rfl) (opens_int Try.underlying3))))) (fun _ h => h)
def V41 (x : S41) : Prop := (fun _ => True) x.f0 ∧ (fun s_ : ByteArray => s_.size ≤ 9223372036854775807) x.f1
theorem o41 : Opens Try.prog k41 41 V41 := opens_imp (opens_struct (g := (fun y => (⟨y.1, y.2⟩ : S41))) Try.underlying41 (by kernel_rfl) (fun _ => rfl) (opensL_cons (by kernel_rfl) (opens_bool Try.underlying4) (opensL_one (by kernel_rfl) (opens_string Try.underlying9)))) (fun _ h => h)
def V42 (x : S42) : Prop := V41 x.f0 ∧ V41 x.f1 ∧ V41 x.f2 ∧ V41 x.f3
theorem o42 : Opens Try.prog k42 42 V42 := opens_imp (opens_array (c := 2) (g := (fun y => (⟨y.1, y.2.1, y.2.2.1, y.2.2.2⟩ : S42))) Try.underlying42 (by kernel_rfl) (by kernel_rfl) (fun _ => rfl) (opensL_cons (by kernel_rfl) o41 (opensL_cons (by kernel_rfl) o41 (opensL_cons (by kernel_rfl) o41 (opensL_one (by kernel_rfl) o41))))) (fun _ h => h)
def V44 (x : S44) : Prop := V42 x.f0 ∧ V41 x.f1
theorem o44 : Opens Try.prog k44 44 V44 := opens_imp (opens_struct (g := (fun y => (⟨y.1, y.2⟩ : S44))) Try.underlying44 (by kernel_rfl) (fun _ => rfl) (opensL_cons (by kernel_rfl) o42 (opensL_one (by kernel_rfl) o41))) (fun _ h => h)
def V73 (x : S73) : Prop := (fun s_ : ByteArray => s_.size ≤ 9223372036854775807) x.f0 ∧ V71 x.f1 ∧ V44 x.f2
theorem o73 : Opens Try.prog k73 73 V73 := opens_imp (opens_struct (g := (fun y => (⟨y.1, y.2.1, y.2.2⟩ : S73))) Try.underlying73 (by kernel_rfl) (fun _ => rfl) (opensL_cons (by kernel_rfl) (opens_string Try.underlying9) (opensL_cons (by kernel_rfl) o71 (opensL_one (by kernel_rfl) o44)))) (fun _ h => h)
def V64 (x : S64) : Prop := (fun s_ : ByteArray => s_.size ≤ 9223372036854775807) x.f0 ∧ (fun n_ => (Lit.int .i64 n_).wf = true) x.f1
theorem o64 : Opens Try.prog k64 64 V64 := opens_imp (opens_struct (g := (fun y => (⟨y.1, y.2⟩ : S64))) Try.underlying64 (by kernel_rfl) (fun _ => rfl) (opensL_cons (by kernel_rfl) (opens_string Try.underlying9) (opensL_one (by kernel_rfl) (opens_int Try.underlying3)))) (fun _ h => h)
def V46 (x : S46) : Prop := V44 x.f0 ∧ V44 x.f1 ∧ V44 x.f2
theorem o46 : Opens Try.prog k46 46 V46 := opens_imp (opens_struct (g := (fun y => (⟨y.1, y.2.1, y.2.2⟩ : S46))) Try.underlying46 (by kernel_rfl) (fun _ => rfl) (opensL_cons (by kernel_rfl) o44 (opensL_cons (by kernel_rfl) o44 (opensL_one (by kernel_rfl) o44)))) (fun _ h => h)
def V49 (x : S49) : Prop := (fun n_ => (Lit.int .i64 n_).wf = true) x.f0 ∧ V44 x.f1 ∧ V46 x.f2 ∧ (AllV V64) x.f3
theorem o49 : Opens Try.prog k49 49 V49 := opens_imp (opens_struct (g := (fun y => (⟨y.1, y.2.1, y.2.2.1, y.2.2.2⟩ : S49))) Try.underlying49 (by kernel_rfl) (fun _ => rfl) (opensL_cons (by kernel_rfl) (opens_int Try.underlying3) (opensL_cons (by kernel_rfl) o44 (opensL_cons (by kernel_rfl) o46 (opensL_one (by kernel_rfl) (opens_slice Try.underlying47 (by kernel_rfl) o64)))))) (fun _ h => h)
def V51 (x : S51) : Prop := (fun s_ : ByteArray => s_.size ≤ 9223372036854775807) x.f0 ∧ (fun n_ => (Lit.int .i64 n_).wf = true) x.f1 ∧ (fun n_ => (Lit.int .i64 n_).wf = true) x.f2 ∧ (AllV (fun n_ => (Lit.int .i64 n_).wf = true)) x.f3 ∧ V49 x.f4
theorem o51 : Opens Try.prog k51 51 V51 := opens_imp (opens_struct (g := (fun y => (⟨y.1, y.2.1, y.2.2.1, y.2.2.2.1, y.2.2.2.2⟩ : S51))) Try.underlying51 (by kernel_rfl) (fun _ => rfl) (opensL_cons (by kernel_rfl) (opens_string Try.underlying9) (opensL_cons (by kernel_rfl) (opens_int Try.underlying3) (opensL_cons (by kernel_rfl) (opens_int Try.underlying3) (opensL_cons (by kernel_rfl) (opens_slice Try.underlying24 (by kernel_rfl) (opens_int Try.underlying3)) (opensL_one (by kernel_rfl) o49)))))) (fun _ h => h)
def V36 (x : S36) : Prop := (fun s_ : ByteArray => s_.size ≤ 9223372036854775807) x.f0 ∧ (fun n_ => (Lit.int .i64 n_).wf = true) x.f1 ∧ (fun _ => True) x.f2 ∧ (AllV V51) x.f3
theorem o36 : Opens Try.prog k36 36 V36 := opens_imp (opens_struct (g := (fun y => (⟨y.1, y.2.1, y.2.2.1, y.2.2.2⟩ : S36))) Try.underlying36 (by kernel_rfl) (fun _ => rfl) (opensL_cons (by kernel_rfl) (opens_string Try.underlying9) (opensL_cons (by kernel_rfl) (opens_int Try.underlying3) (opensL_cons (by kernel_rfl) (opens_bool Try.underlying4) (opensL_one (by kernel_rfl) (opens_slice Try.underlying34 (by kernel_rfl) o51)))))) (fun _ h => h)
def V66 (x : S66) : Prop := V36 x.f0 ∧ (fun n_ => (Lit.int .i64 n_).wf = true) x.f1
theorem o66 : Opens Try.prog k66 66 V66 := opens_imp (opens_struct (g := (fun y => (⟨y.1, y.2⟩ : S66))) Try.underlying66 (by kernel_rfl) (fun _ => rfl) (opensL_cons (by kernel_rfl) o36 (opensL_one (by kernel_rfl) (opens_int Try.underlying3)))) (fun _ h => h)
theorem sqc4 {w : World} {g : Nat} {t : TypeId} {c0 c1 c2 c3 : Value} (h : w.heap[g]? = some (.cells #[c0, c1, c2, c3] t (0, 0))) : w.cell? ⟨g, 0, none⟩ = some c0 ∧ w.cell? ⟨g, 1, none⟩ = some c1 ∧ w.cell? ⟨g, 2, none⟩ = some c2 ∧ w.cell? ⟨g, 3, none⟩ = some c3 := ⟨(blk_cell h 0).trans rfl, (blk_cell h 1).trans rfl, (blk_cell h 2).trans rfl, (blk_cell h 3).trans rfl⟩
theorem frozen4 {w : World} {g : Nat} {t : TypeId} {c0 c1 c2 c3 : Value} (h : w.heap[g]? = some (.cells #[c0, c1, c2, c3] t (0, 0))) : w.frozen? ⟨g, 0, none⟩ = false ∧ w.frozen? ⟨g, 1, none⟩ = false ∧ w.frozen? ⟨g, 2, none⟩ = false ∧ w.frozen? ⟨g, 3, none⟩ = false := ⟨blk_frozen h 0, blk_frozen h 1, blk_frozen h 2, blk_frozen h 3⟩
theorem sqc5 {w : World} {g : Nat} {t : TypeId} {c0 c1 c2 c3 c4 : Value} (h : w.heap[g]? = some (.cells #[c0, c1, c2, c3, c4] t (0, 0))) : w.cell? ⟨g, 0, none⟩ = some c0 ∧ w.cell? ⟨g, 1, none⟩ = some c1 ∧ w.cell? ⟨g, 2, none⟩ = some c2 ∧ w.cell? ⟨g, 3, none⟩ = some c3 ∧ w.cell? ⟨g, 4, none⟩ = some c4 := ⟨(blk_cell h 0).trans rfl, (blk_cell h 1).trans rfl, (blk_cell h 2).trans rfl, (blk_cell h 3).trans rfl, (blk_cell h 4).trans rfl⟩
theorem frozen5 {w : World} {g : Nat} {t : TypeId} {c0 c1 c2 c3 c4 : Value} (h : w.heap[g]? = some (.cells #[c0, c1, c2, c3, c4] t (0, 0))) : w.frozen? ⟨g, 0, none⟩ = false ∧ w.frozen? ⟨g, 1, none⟩ = false ∧ w.frozen? ⟨g, 2, none⟩ = false ∧ w.frozen? ⟨g, 3, none⟩ = false ∧ w.frozen? ⟨g, 4, none⟩ = false := ⟨blk_frozen h 0, blk_frozen h 1, blk_frozen h 2, blk_frozen h 3, blk_frozen h 4⟩
theorem sqc10 {w : World} {g : Nat} {t : TypeId} {c0 c1 c2 c3 c4 c5 c6 c7 c8 c9 : Value} (h : w.heap[g]? = some (.cells #[c0, c1, c2, c3, c4, c5, c6, c7, c8, c9] t (0, 0))) : w.cell? ⟨g, 0, none⟩ = some c0 ∧ w.cell? ⟨g, 1, none⟩ = some c1 ∧ w.cell? ⟨g, 2, none⟩ = some c2 ∧ w.cell? ⟨g, 3, none⟩ = some c3 ∧ w.cell? ⟨g, 4, none⟩ = some c4 ∧ w.cell? ⟨g, 5, none⟩ = some c5 ∧ w.cell? ⟨g, 6, none⟩ = some c6 ∧ w.cell? ⟨g, 7, none⟩ = some c7 ∧ w.cell? ⟨g, 8, none⟩ = some c8 ∧ w.cell? ⟨g, 9, none⟩ = some c9 := ⟨(blk_cell h 0).trans rfl, (blk_cell h 1).trans rfl, (blk_cell h 2).trans rfl, (blk_cell h 3).trans rfl, (blk_cell h 4).trans rfl, (blk_cell h 5).trans rfl, (blk_cell h 6).trans rfl, (blk_cell h 7).trans rfl, (blk_cell h 8).trans rfl, (blk_cell h 9).trans rfl⟩
theorem frozen10 {w : World} {g : Nat} {t : TypeId} {c0 c1 c2 c3 c4 c5 c6 c7 c8 c9 : Value} (h : w.heap[g]? = some (.cells #[c0, c1, c2, c3, c4, c5, c6, c7, c8, c9] t (0, 0))) : w.frozen? ⟨g, 0, none⟩ = false ∧ w.frozen? ⟨g, 1, none⟩ = false ∧ w.frozen? ⟨g, 2, none⟩ = false ∧ w.frozen? ⟨g, 3, none⟩ = false ∧ w.frozen? ⟨g, 4, none⟩ = false ∧ w.frozen? ⟨g, 5, none⟩ = false ∧ w.frozen? ⟨g, 6, none⟩ = false ∧ w.frozen? ⟨g, 7, none⟩ = false ∧ w.frozen? ⟨g, 8, none⟩ = false ∧ w.frozen? ⟨g, 9, none⟩ = false := ⟨blk_frozen h 0, blk_frozen h 1, blk_frozen h 2, blk_frozen h 3, blk_frozen h 4, blk_frozen h 5, blk_frozen h 6, blk_frozen h 7, blk_frozen h 8, blk_frozen h 9⟩
theorem sqc14 {w : World} {g : Nat} {t : TypeId} {c0 c1 c2 c3 c4 c5 c6 c7 c8 c9 c10 c11 c12 c13 : Value} (h : w.heap[g]? = some (.cells #[c0, c1, c2, c3, c4, c5, c6, c7, c8, c9, c10, c11, c12, c13] t (0, 0))) : w.cell? ⟨g, 0, none⟩ = some c0 ∧ w.cell? ⟨g, 1, none⟩ = some c1 ∧ w.cell? ⟨g, 2, none⟩ = some c2 ∧ w.cell? ⟨g, 3, none⟩ = some c3 ∧ w.cell? ⟨g, 4, none⟩ = some c4 ∧ w.cell? ⟨g, 5, none⟩ = some c5 ∧ w.cell? ⟨g, 6, none⟩ = some c6 ∧ w.cell? ⟨g, 7, none⟩ = some c7 ∧ w.cell? ⟨g, 8, none⟩ = some c8 ∧ w.cell? ⟨g, 9, none⟩ = some c9 ∧ w.cell? ⟨g, 10, none⟩ = some c10 ∧ w.cell? ⟨g, 11, none⟩ = some c11 ∧ w.cell? ⟨g, 12, none⟩ = some c12 ∧ w.cell? ⟨g, 13, none⟩ = some c13 := ⟨(blk_cell h 0).trans rfl, (blk_cell h 1).trans rfl, (blk_cell h 2).trans rfl, (blk_cell h 3).trans rfl, (blk_cell h 4).trans rfl, (blk_cell h 5).trans rfl, (blk_cell h 6).trans rfl, (blk_cell h 7).trans rfl, (blk_cell h 8).trans rfl, (blk_cell h 9).trans rfl, (blk_cell h 10).trans rfl, (blk_cell h 11).trans rfl, (blk_cell h 12).trans rfl, (blk_cell h 13).trans rfl⟩
theorem frozen14 {w : World} {g : Nat} {t : TypeId} {c0 c1 c2 c3 c4 c5 c6 c7 c8 c9 c10 c11 c12 c13 : Value} (h : w.heap[g]? = some (.cells #[c0, c1, c2, c3, c4, c5, c6, c7, c8, c9, c10, c11, c12, c13] t (0, 0))) : w.frozen? ⟨g, 0, none⟩ = false ∧ w.frozen? ⟨g, 1, none⟩ = false ∧ w.frozen? ⟨g, 2, none⟩ = false ∧ w.frozen? ⟨g, 3, none⟩ = false ∧ w.frozen? ⟨g, 4, none⟩ = false ∧ w.frozen? ⟨g, 5, none⟩ = false ∧ w.frozen? ⟨g, 6, none⟩ = false ∧ w.frozen? ⟨g, 7, none⟩ = false ∧ w.frozen? ⟨g, 8, none⟩ = false ∧ w.frozen? ⟨g, 9, none⟩ = false ∧ w.frozen? ⟨g, 10, none⟩ = false ∧ w.frozen? ⟨g, 11, none⟩ = false ∧ w.frozen? ⟨g, 12, none⟩ = false ∧ w.frozen? ⟨g, 13, none⟩ = false := ⟨blk_frozen h 0, blk_frozen h 1, blk_frozen h 2, blk_frozen h 3, blk_frozen h 4, blk_frozen h 5, blk_frozen h 6, blk_frozen h 7, blk_frozen h 8, blk_frozen h 9, blk_frozen h 10, blk_frozen h 11, blk_frozen h 12, blk_frozen h 13⟩
theorem sqc42 {w : World} {g : Nat} {t : TypeId} {c0 c1 c2 c3 c4 c5 c6 c7 c8 c9 c10 c11 c12 c13 c14 c15 c16 c17 c18 c19 c20 c21 c22 c23 c24 c25 c26 c27 c28 c29 c30 c31 c32 c33 c34 c35 c36 c37 c38 c39 c40 c41 : Value} (h : w.heap[g]? = some (.cells #[c0, c1, c2, c3, c4, c5, c6, c7, c8, c9, c10, c11, c12, c13, c14, c15, c16, c17, c18, c19, c20, c21, c22, c23, c24, c25, c26, c27, c28, c29, c30, c31, c32, c33, c34, c35, c36, c37, c38, c39, c40, c41] t (0, 0))) : w.cell? ⟨g, 0, none⟩ = some c0 ∧ w.cell? ⟨g, 1, none⟩ = some c1 ∧ w.cell? ⟨g, 2, none⟩ = some c2 ∧ w.cell? ⟨g, 3, none⟩ = some c3 ∧ w.cell? ⟨g, 4, none⟩ = some c4 ∧ w.cell? ⟨g, 5, none⟩ = some c5 ∧ w.cell? ⟨g, 6, none⟩ = some c6 ∧ w.cell? ⟨g, 7, none⟩ = some c7 ∧ w.cell? ⟨g, 8, none⟩ = some c8 ∧ w.cell? ⟨g, 9, none⟩ = some c9 ∧ w.cell? ⟨g, 10, none⟩ = some c10 ∧ w.cell? ⟨g, 11, none⟩ = some c11 ∧ w.cell? ⟨g, 12, none⟩ = some c12 ∧ w.cell? ⟨g, 13, none⟩ = some c13 ∧ w.cell? ⟨g, 14, none⟩ = some c14 ∧ w.cell? ⟨g, 15, none⟩ = some c15 ∧ w.cell? ⟨g, 16, none⟩ = some c16 ∧ w.cell? ⟨g, 17, none⟩ = some c17 ∧ w.cell? ⟨g, 18, none⟩ = some c18 ∧ w.cell? ⟨g, 19, none⟩ = some c19 ∧ w.cell? ⟨g, 20, none⟩ = some c20 ∧ w.cell? ⟨g, 21, none⟩ = some c21 ∧ w.cell? ⟨g, 22, none⟩ = some c22 ∧ w.cell? ⟨g, 23, none⟩ = some c23 ∧ w.cell? ⟨g, 24, none⟩ = some c24 ∧ w.cell? ⟨g, 25, none⟩ = some c25 ∧ w.cell? ⟨g, 26, none⟩ = some c26 ∧ w.cell? ⟨g, 27, none⟩ = some c27 ∧ w.cell? ⟨g, 28, none⟩ = some c28 ∧ w.cell? ⟨g, 29, none⟩ = some c29 ∧ w.cell? ⟨g, 30, none⟩ = some c30 ∧ w.cell? ⟨g, 31, none⟩ = some c31 ∧ w.cell? ⟨g, 32, none⟩ = some c32 ∧ w.cell? ⟨g, 33, none⟩ = some c33 ∧ w.cell? ⟨g, 34, none⟩ = some c34 ∧ w.cell? ⟨g, 35, none⟩ = some c35 ∧ w.cell? ⟨g, 36, none⟩ = some c36 ∧ w.cell? ⟨g, 37, none⟩ = some c37 ∧ w.cell? ⟨g, 38, none⟩ = some c38 ∧ w.cell? ⟨g, 39, none⟩ = some c39 ∧ w.cell? ⟨g, 40, none⟩ = some c40 ∧ w.cell? ⟨g, 41, none⟩ = some c41 := ⟨(blk_cell h 0).trans rfl, (blk_cell h 1).trans rfl, (blk_cell h 2).trans rfl, (blk_cell h 3).trans rfl, (blk_cell h 4).trans rfl, (blk_cell h 5).trans rfl, (blk_cell h 6).trans rfl, (blk_cell h 7).trans rfl, (blk_cell h 8).trans rfl, (blk_cell h 9).trans rfl, (blk_cell h 10).trans rfl, (blk_cell h 11).trans rfl, (blk_cell h 12).trans rfl, (blk_cell h 13).trans rfl, (blk_cell h 14).trans rfl, (blk_cell h 15).trans rfl, (blk_cell h 16).trans rfl, (blk_cell h 17).trans rfl, (blk_cell h 18).trans rfl, (blk_cell h 19).trans rfl, (blk_cell h 20).trans rfl, (blk_cell h 21).trans rfl, (blk_cell h 22).trans rfl, (blk_cell h 23).trans rfl, (blk_cell h 24).trans rfl, (blk_cell h 25).trans rfl, (blk_cell h 26).trans rfl, (blk_cell h 27).trans rfl, (blk_cell h 28).trans rfl, (blk_cell h 29).trans rfl, (blk_cell h 30).trans rfl, (blk_cell h 31).trans rfl, (blk_cell h 32).trans rfl, (blk_cell h 33).trans rfl, (blk_cell h 34).trans rfl, (blk_cell h 35).trans rfl, (blk_cell h 36).trans rfl, (blk_cell h 37).trans rfl, (blk_cell h 38).trans rfl, (blk_cell h 39).trans rfl, (blk_cell h 40).trans rfl, (blk_cell h 41).trans rfl⟩
theorem frozen42 {w : World} {g : Nat} {t : TypeId} {c0 c1 c2 c3 c4 c5 c6 c7 c8 c9 c10 c11 c12 c13 c14 c15 c16 c17 c18 c19 c20 c21 c22 c23 c24 c25 c26 c27 c28 c29 c30 c31 c32 c33 c34 c35 c36 c37 c38 c39 c40 c41 : Value} (h : w.heap[g]? = some (.cells #[c0, c1, c2, c3, c4, c5, c6, c7, c8, c9, c10, c11, c12, c13, c14, c15, c16, c17, c18, c19, c20, c21, c22, c23, c24, c25, c26, c27, c28, c29, c30, c31, c32, c33, c34, c35, c36, c37, c38, c39, c40, c41] t (0, 0))) : w.frozen? ⟨g, 0, none⟩ = false ∧ w.frozen? ⟨g, 1, none⟩ = false ∧ w.frozen? ⟨g, 2, none⟩ = false ∧ w.frozen? ⟨g, 3, none⟩ = false ∧ w.frozen? ⟨g, 4, none⟩ = false ∧ w.frozen? ⟨g, 5, none⟩ = false ∧ w.frozen? ⟨g, 6, none⟩ = false ∧ w.frozen? ⟨g, 7, none⟩ = false ∧ w.frozen? ⟨g, 8, none⟩ = false ∧ w.frozen? ⟨g, 9, none⟩ = false ∧ w.frozen? ⟨g, 10, none⟩ = false ∧ w.frozen? ⟨g, 11, none⟩ = false ∧ w.frozen? ⟨g, 12, none⟩ = false ∧ w.frozen? ⟨g, 13, none⟩ = false ∧ w.frozen? ⟨g, 14, none⟩ = false ∧ w.frozen? ⟨g, 15, none⟩ = false ∧ w.frozen? ⟨g, 16, none⟩ = false ∧ w.frozen? ⟨g, 17, none⟩ = false ∧ w.frozen? ⟨g, 18, none⟩ = false ∧ w.frozen? ⟨g, 19, none⟩ = false ∧ w.frozen? ⟨g, 20, none⟩ = false ∧ w.frozen? ⟨g, 21, none⟩ = false ∧ w.frozen? ⟨g, 22, none⟩ = false ∧ w.frozen? ⟨g, 23, none⟩ = false ∧ w.frozen? ⟨g, 24, none⟩ = false ∧ w.frozen? ⟨g, 25, none⟩ = false ∧ w.frozen? ⟨g, 26, none⟩ = false ∧ w.frozen? ⟨g, 27, none⟩ = false ∧ w.frozen? ⟨g, 28, none⟩ = false ∧ w.frozen? ⟨g, 29, none⟩ = false ∧ w.frozen? ⟨g, 30, none⟩ = false ∧ w.frozen? ⟨g, 31, none⟩ = false ∧ w.frozen? ⟨g, 32, none⟩ = false ∧ w.frozen? ⟨g, 33, none⟩ = false ∧ w.frozen? ⟨g, 34, none⟩ = false ∧ w.frozen? ⟨g, 35, none⟩ = false ∧ w.frozen? ⟨g, 36, none⟩ = false ∧ w.frozen? ⟨g, 37, none⟩ = false ∧ w.frozen? ⟨g, 38, none⟩ = false ∧ w.frozen? ⟨g, 39, none⟩ = false ∧ w.frozen? ⟨g, 40, none⟩ = false ∧ w.frozen? ⟨g, 41, none⟩ = false := ⟨blk_frozen h 0, blk_frozen h 1, blk_frozen h 2, blk_frozen h 3, blk_frozen h 4, blk_frozen h 5, blk_frozen h 6, blk_frozen h 7, blk_frozen h 8, blk_frozen h 9, blk_frozen h 10, blk_frozen h 11, blk_frozen h 12, blk_frozen h 13, blk_frozen h 14, blk_frozen h 15, blk_frozen h 16, blk_frozen h 17, blk_frozen h 18, blk_frozen h 19, blk_frozen h 20, blk_frozen h 21, blk_frozen h 22, blk_frozen h 23, blk_frozen h 24, blk_frozen h 25, blk_frozen h 26, blk_frozen h 27, blk_frozen h 28, blk_frozen h 29, blk_frozen h 30, blk_frozen h 31, blk_frozen h 32, blk_frozen h 33, blk_frozen h 34, blk_frozen h 35, blk_frozen h 36, blk_frozen h 37, blk_frozen h 38, blk_frozen h 39, blk_frozen h 40, blk_frozen h 41⟩
set_option maxRecDepth 100000 in
theorem put4 {w : World} {g : Nat} {t : TypeId} {c0 c1 c2 c3 v0 v1 v2 v3 : Value} (h : w.heap[g]? = some (.cells #[c0, c1, c2, c3] t (0, 0))) : ((((w.setCell ⟨g, 0, none⟩ v0).setCell ⟨g, 1, none⟩ v1).setCell ⟨g, 2, none⟩ v2).setCell ⟨g, 3, none⟩ v3).heap[g]? = some (.cells #[v0, v1, v2, v3] t (0, 0)) := (blk_put (cs := #[v0, v1, v2, c3]) (blk_put (cs := #[v0, v1, c2, c3]) (blk_put (cs := #[v0, c1, c2, c3]) (blk_put (cs := #[c0, c1, c2, c3]) h 0 v0 rfl) 1 v1 rfl) 2 v2 rfl) 3 v3 rfl)
set_option maxRecDepth 100000 in
theorem put14 {w : World} {g : Nat} {t : TypeId} {c0 c1 c2 c3 c4 c5 c6 c7 c8 c9 c10 c11 c12 c13 v0 v1 v2 v3 v4 v5 v6 v7 v8 v9 v10 v11 v12 v13 : Value} (h : w.heap[g]? = some (.cells #[c0, c1, c2, c3, c4, c5, c6, c7, c8, c9, c10, c11, c12, c13] t (0, 0))) : ((((((((((((((w.setCell ⟨g, 0, none⟩ v0).setCell ⟨g, 1, none⟩ v1).setCell ⟨g, 2, none⟩ v2).setCell ⟨g, 3, none⟩ v3).setCell ⟨g, 4, none⟩ v4).setCell ⟨g, 5, none⟩ v5).setCell ⟨g, 6, none⟩ v6).setCell ⟨g, 7, none⟩ v7).setCell ⟨g, 8, none⟩ v8).setCell ⟨g, 9, none⟩ v9).setCell ⟨g, 10, none⟩ v10).setCell ⟨g, 11, none⟩ v11).setCell ⟨g, 12, none⟩ v12).setCell ⟨g, 13, none⟩ v13).heap[g]? = some (.cells #[v0, v1, v2, v3, v4, v5, v6, v7, v8, v9, v10, v11, v12, v13] t (0, 0)) := (blk_put (cs := #[v0, v1, v2, v3, v4, v5, v6, v7, v8, v9, v10, v11, v12, c13]) (blk_put (cs := #[v0, v1, v2, v3, v4, v5, v6, v7, v8, v9, v10, v11, c12, c13]) (blk_put (cs := #[v0, v1, v2, v3, v4, v5, v6, v7, v8, v9, v10, c11, c12, c13]) (blk_put (cs := #[v0, v1, v2, v3, v4, v5, v6, v7, v8, v9, c10, c11, c12, c13]) (blk_put (cs := #[v0, v1, v2, v3, v4, v5, v6, v7, v8, c9, c10, c11, c12, c13]) (blk_put (cs := #[v0, v1, v2, v3, v4, v5, v6, v7, c8, c9, c10, c11, c12, c13]) (blk_put (cs := #[v0, v1, v2, v3, v4, v5, v6, c7, c8, c9, c10, c11, c12, c13]) (blk_put (cs := #[v0, v1, v2, v3, v4, v5, c6, c7, c8, c9, c10, c11, c12, c13]) (blk_put (cs := #[v0, v1, v2, v3, v4, c5, c6, c7, c8, c9, c10, c11, c12, c13]) (blk_put (cs := #[v0, v1, v2, v3, c4, c5, c6, c7, c8, c9, c10, c11, c12, c13]) (blk_put (cs := #[v0, v1, v2, c3, c4, c5, c6, c7, c8, c9, c10, c11, c12, c13]) (blk_put (cs := #[v0, v1, c2, c3, c4, c5, c6, c7, c8, c9, c10, c11, c12, c13]) (blk_put (cs := #[v0, c1, c2, c3, c4, c5, c6, c7, c8, c9, c10, c11, c12, c13]) (blk_put (cs := #[c0, c1, c2, c3, c4, c5, c6, c7, c8, c9, c10, c11, c12, c13]) h 0 v0 rfl) 1 v1 rfl) 2 v2 rfl) 3 v3 rfl) 4 v4 rfl) 5 v5 rfl) 6 v6 rfl) 7 v7 rfl) 8 v8 rfl) 9 v9 rfl) 10 v10 rfl) 11 v11 rfl) 12 v12 rfl) 13 v13 rfl)
end Go.Proofs.Ytncemdpmooakgaa.XK
