-- printed by xprint.py
import Derived.Test.YtndbchcfjajgbaaXB
import Derived.Test.YtndbchcfjajgbaaProg
import Derived.Below
import Derived.Deep.Draws
import Derived.Deep.AppendLies
import Derived.Maps.AppendAt
import Derived.OwnWalk
import Derived.Laws.BytesArg
import Derived.Laws.MakeOwn
import Derived.Laws.OwnMore
import Derived.Deep.OwnRows
import Derived.Tactics
import Derived.Lib.ConvBytes
import Derived.Laws.Slices
import Derived.WalkKit
import Derived.KernelRfl
import Derived.RowKit3
import Derived.Deep.LoopGhost
import Derived.Deep.QuietTactic
import Derived.BigQuiet
import Derived.WideLaws
import Derived.Deep.DeepCutAuto
import Derived.Deep.CutBlock
import Derived.Deep.RegionHeld3
import Derived.Laws.Rows
import Derived.Lib.AppendStr
import Derived.ArgAppend
import Derived.Laws.IdiomCopy
import Derived.OrdersHeld
import Derived.Laws.BitsLemmas
import Derived.RowKit
import Derived.Laws.Cover1
import Derived.Test.YtndbchcfjajgbaaWAll
import Derived.Test.YtndbchcfjajgbaaXW
namespace Go.Proofs.Ytndbchcfjajgbaa.XP
open Go.Proofs.Ytndbchcfjajgbaa.XB Go.Proofs.Ytndbchcfjajgbaa.XQ
open Go.Proofs.Ytndbchcfjajgbaa.XW
open Go.RowKit Go.Proofs.YtndbchcfjajgbaaW.PrintWords Go.Proofs.YtndbchcfjajgbaaW.PrintLast Go.Proofs.YtndbchcfjajgbaaW.PrintMore
attribute [local go_sem] max2_int min2_int max_two min_two max_three min_three max_four min_four   -- for this text's walks alone
set_option linter.unusedVariables false
set_option linter.unusedSimpArgs false



def errW : Option Int → Value
  | none => .nilIface
  | some c => .iface 0 (.int .i64 c)
theorem errW_none : errW none = .nilIface := rfl
theorem errW_some (c : Int) : errW (some c) = .iface 0 (.int .i64 c) := rfl

theorem info24 : (Try.prog.info? 24).map (fun i => (i.zero, i.size, i.bytes)) = some (some (.agg #[(.string ⟨#[]⟩), (.string ⟨#[]⟩), (.int .i64 0), (.int .i64 0)]), 4, 48) := by kernel_rfl
theorem info99 : (Try.prog.info? 99).map (fun i => (i.zero, i.size, i.bytes)) = some (some (.agg #[(.string ⟨#[]⟩), (.string ⟨#[]⟩), (.string ⟨#[]⟩), (.int .i64 0), (.int .i64 0), (.int .i64 0), (.int .i64 0), (.int .i64 0), (.int .i64 0), (.string ⟨#[]⟩), (.string ⟨#[]⟩), (.int .i64 0), (.int .i64 0)]), 13, 144) := by kernel_rfl
-- the values' own types
/-! #### struct type 24 -/
structure S24 where
  f0 : ByteArray
  f1 : ByteArray
  f2 : Int
  f3 : Int
def z24 : S24 := ⟨(⟨#[]⟩ : ByteArray), (⟨#[]⟩ : ByteArray), (0 : Int), (0 : Int)⟩
def k24 : Kd S24 := Kd.iso (Kd.pair Kd.string (Kd.pair Kd.string (Kd.pair (Kd.int .i64) (Kd.int .i64)))) (fun x : S24 => (x.f0, x.f1, x.f2, x.f3))
theorem k24_heap : Kd.Heap k24 := Kd.heap_iso _ (Kd.heap_pair Kd.heap_string (Kd.heap_pair Kd.heap_string (Kd.heap_pair (Kd.heap_int .i64) (Kd.heap_int .i64))))
theorem k24_open {w : World} {x : S24} {cs : List Value} (h : k24.K w x cs) : cs = [.string x.f0, .string x.f1, .int .i64 x.f2, .int .i64 x.f3] := by
  obtain ⟨_, _, rfl, rfl, ⟨_, _, rfl, rfl, ⟨_, _, rfl, rfl, rfl⟩⟩⟩ := h
  exact rfl
theorem k24_openM {w : World} {base : Nat} {ok : Nat → Prop} {x : S24} {cs : List Value} (h : k24.M w base ok x cs) : cs = [.string x.f0, .string x.f1, .int .i64 x.f2, .int .i64 x.f3] := by
  obtain ⟨_, _, rfl, rfl, ⟨_, _, rfl, rfl, ⟨_, _, rfl, rfl, rfl⟩⟩⟩ := h
  exact rfl
theorem k24_mk (w : World) (x : S24)  : k24.K w x [.string x.f0, .string x.f1, .int .i64 x.f2, .int .i64 x.f3] := ⟨[.string x.f0], [.string x.f1, .int .i64 x.f2, .int .i64 x.f3], rfl, rfl, ⟨[.string x.f1], [.int .i64 x.f2, .int .i64 x.f3], rfl, rfl, ⟨[.int .i64 x.f2], [.int .i64 x.f3], rfl, rfl, rfl⟩⟩⟩
theorem k24_mkM (w : World) (base : Nat) (ok : Nat → Prop) (x : S24)  : k24.M w base ok x [.string x.f0, .string x.f1, .int .i64 x.f2, .int .i64 x.f3] := ⟨[.string x.f0], [.string x.f1, .int .i64 x.f2, .int .i64 x.f3], rfl, rfl, ⟨[.string x.f1], [.int .i64 x.f2, .int .i64 x.f3], rfl, rfl, ⟨[.int .i64 x.f2], [.int .i64 x.f3], rfl, rfl, rfl⟩⟩⟩
def rd_T24 (xs : List S24) (i : Int) : S24 := xs.getD i.toNat z24
theorem at_T24 {w : World} {A : Option Addr} {n : Nat} {xs : List S24} (h : Kd.C k24 w A n xs) (i : Int) (h0 : 0 ≤ i) (h1 : i < n) : ∃ ad , A = some ad ∧ w.cell? (ad.add (i.toNat * 4)) = some (.string (rd_T24 xs i).f0) ∧ w.cell? ⟨(ad.add (i.toNat * 4)).block, (ad.add (i.toNat * 4)).off + 1, none⟩ = some (.string (rd_T24 xs i).f1) ∧ w.cell? ⟨(ad.add (i.toNat * 4)).block, (ad.add (i.toNat * 4)).off + 2, none⟩ = some (.int .i64 (rd_T24 xs i).f2) ∧ w.cell? ⟨(ad.add (i.toNat * 4)).block, (ad.add (i.toNat * 4)).off + 3, none⟩ = some (.int .i64 (rd_T24 xs i).f3) := by
  obtain ⟨ad, c, e, _, hK, hc0⟩ := Kd.C_get h z24 i h0 h1
  have hc : ∀ j u, c[j]? = some u → w.cell? (ad.add (i.toNat * 4 + j)) = some u := hc0
  obtain rfl := k24_open hK
  exact ⟨ad, e, hc 0 _ rfl, t_75, t_76, t_77⟩

/-! #### struct type 81 -/
structure S81 where
  f0 : ByteArray
  f1 : ByteArray
  f2 : ByteArray
  f3 : Int
  f4 : Int
def z81 : S81 := ⟨(⟨#[]⟩ : ByteArray), (⟨#[]⟩ : ByteArray), (⟨#[]⟩ : ByteArray), (0 : Int), (0 : Int)⟩
def k81 : Kd S81 := Kd.iso (Kd.pair Kd.string (Kd.pair Kd.string (Kd.pair Kd.string (Kd.pair (Kd.int .i64) (Kd.int .i64))))) (fun x : S81 => (x.f0, x.f1, x.f2, x.f3, x.f4))
theorem k81_open {w : World} {x : S81} {cs : List Value} (h : k81.K w x cs) : cs = [.string x.f0, .string x.f1, .string x.f2, .int .i64 x.f3, .int .i64 x.f4] := by
  obtain ⟨_, _, rfl, rfl, ⟨_, _, rfl, rfl, ⟨_, _, rfl, rfl, ⟨_, _, rfl, rfl, rfl⟩⟩⟩⟩ := h
  exact rfl
theorem k81_openM {w : World} {base : Nat} {ok : Nat → Prop} {x : S81} {cs : List Value} (h : k81.M w base ok x cs) : cs = [.string x.f0, .string x.f1, .string x.f2, .int .i64 x.f3, .int .i64 x.f4] := by
  obtain ⟨_, _, rfl, rfl, ⟨_, _, rfl, rfl, ⟨_, _, rfl, rfl, ⟨_, _, rfl, rfl, rfl⟩⟩⟩⟩ := h
  exact rfl
theorem k81_mk (w : World) (x : S81)  : k81.K w x [.string x.f0, .string x.f1, .string x.f2, .int .i64 x.f3, .int .i64 x.f4] := ⟨[.string x.f0], [.string x.f1, .string x.f2, .int .i64 x.f3, .int .i64 x.f4], rfl, rfl, ⟨[.string x.f1], [.string x.f2, .int .i64 x.f3, .int .i64 x.f4], rfl, rfl, ⟨[.string x.f2], [.int .i64 x.f3, .int .i64 x.f4], rfl, rfl, ⟨[.int .i64 x.f3], [.int .i64 x.f4], rfl, rfl, rfl⟩⟩⟩⟩
theorem k81_mkM (w : World) (base : Nat) (ok : Nat → Prop) (x : S81)  : k81.M w base ok x [.string x.f0, .string x.f1, .string x.f2, .int .i64 x.f3, .int .i64 x.f4] := ⟨[.string x.f0], [.string x.f1, .string x.f2, .int .i64 x.f3, .int .i64 x.f4], rfl, rfl, ⟨[.string x.f1], [.string x.f2, .int .i64 x.f3, .int .i64 x.f4], rfl, rfl, ⟨[.string x.f2], [.int .i64 x.f3, .int .i64 x.f4], rfl, rfl, ⟨[.int .i64 x.f3], [.int .i64 x.f4], rfl, rfl, rfl⟩⟩⟩⟩
/-! #### struct type 99 -/
structure S99 where
  f0 : S81
  f1 : Int
  f2 : Int
  f3 : Int
  f4 : Int
  f5 : S24
def z99 : S99 := ⟨z81, (0 : Int), (0 : Int), (0 : Int), (0 : Int), z24⟩
def k99 : Kd S99 := Kd.iso (Kd.pair k81 (Kd.pair (Kd.int .i64) (Kd.pair (Kd.int .i64) (Kd.pair (Kd.int .i64) (Kd.pair (Kd.int .i64) k24))))) (fun x : S99 => (x.f0, x.f1, x.f2, x.f3, x.f4, x.f5))
theorem k99_open {w : World} {x : S99} {cs : List Value} (h : k99.K w x cs) : cs = [.string x.f0.f0, .string x.f0.f1, .string x.f0.f2, .int .i64 x.f0.f3, .int .i64 x.f0.f4, .int .i64 x.f1, .int .i64 x.f2, .int .i64 x.f3, .int .i64 x.f4, .string x.f5.f0, .string x.f5.f1, .int .i64 x.f5.f2, .int .i64 x.f5.f3] := by
  obtain ⟨_, _, rfl, s0, ⟨_, _, rfl, rfl, ⟨_, _, rfl, rfl, ⟨_, _, rfl, rfl, ⟨_, _, rfl, rfl, s9⟩⟩⟩⟩⟩ := h
  obtain rfl := k81_open s0
  obtain rfl := k24_open s9
  exact rfl
theorem k99_openM {w : World} {base : Nat} {ok : Nat → Prop} {x : S99} {cs : List Value} (h : k99.M w base ok x cs) : cs = [.string x.f0.f0, .string x.f0.f1, .string x.f0.f2, .int .i64 x.f0.f3, .int .i64 x.f0.f4, .int .i64 x.f1, .int .i64 x.f2, .int .i64 x.f3, .int .i64 x.f4, .string x.f5.f0, .string x.f5.f1, .int .i64 x.f5.f2, .int .i64 x.f5.f3] := by
  obtain ⟨_, _, rfl, s0, ⟨_, _, rfl, rfl, ⟨_, _, rfl, rfl, ⟨_, _, rfl, rfl, ⟨_, _, rfl, rfl, s9⟩⟩⟩⟩⟩ := h
  obtain rfl := k81_openM s0
  obtain rfl := k24_openM s9
  exact rfl
theorem k99_mk (w : World) (x : S99)  : k99.K w x [.string x.f0.f0, .string x.f0.f1, .string x.f0.f2, .int .i64 x.f0.f3, .int .i64 x.f0.f4, .int .i64 x.f1, .int .i64 x.f2, .int .i64 x.f3, .int .i64 x.f4, .string x.f5.f0, .string x.f5.f1, .int .i64 x.f5.f2, .int .i64 x.f5.f3] := ⟨[.string x.f0.f0, .string x.f0.f1, .string x.f0.f2, .int .i64 x.f0.f3, .int .i64 x.f0.f4], [.int .i64 x.f1, .int .i64 x.f2, .int .i64 x.f3, .int .i64 x.f4, .string x.f5.f0, .string x.f5.f1, .int .i64 x.f5.f2, .int .i64 x.f5.f3], rfl, (k81_mk w x.f0 ), ⟨[.int .i64 x.f1], [.int .i64 x.f2, .int .i64 x.f3, .int .i64 x.f4, .string x.f5.f0, .string x.f5.f1, .int .i64 x.f5.f2, .int .i64 x.f5.f3], rfl, rfl, ⟨[.int .i64 x.f2], [.int .i64 x.f3, .int .i64 x.f4, .string x.f5.f0, .string x.f5.f1, .int .i64 x.f5.f2, .int .i64 x.f5.f3], rfl, rfl, ⟨[.int .i64 x.f3], [.int .i64 x.f4, .string x.f5.f0, .string x.f5.f1, .int .i64 x.f5.f2, .int .i64 x.f5.f3], rfl, rfl, ⟨[.int .i64 x.f4], [.string x.f5.f0, .string x.f5.f1, .int .i64 x.f5.f2, .int .i64 x.f5.f3], rfl, rfl, (k24_mk w x.f5 )⟩⟩⟩⟩⟩
theorem k99_mkM (w : World) (base : Nat) (ok : Nat → Prop) (x : S99)  : k99.M w base ok x [.string x.f0.f0, .string x.f0.f1, .string x.f0.f2, .int .i64 x.f0.f3, .int .i64 x.f0.f4, .int .i64 x.f1, .int .i64 x.f2, .int .i64 x.f3, .int .i64 x.f4, .string x.f5.f0, .string x.f5.f1, .int .i64 x.f5.f2, .int .i64 x.f5.f3] := ⟨[.string x.f0.f0, .string x.f0.f1, .string x.f0.f2, .int .i64 x.f0.f3, .int .i64 x.f0.f4], [.int .i64 x.f1, .int .i64 x.f2, .int .i64 x.f3, .int .i64 x.f4, .string x.f5.f0, .string x.f5.f1, .int .i64 x.f5.f2, .int .i64 x.f5.f3], rfl, (k81_mkM w base ok x.f0 ), ⟨[.int .i64 x.f1], [.int .i64 x.f2, .int .i64 x.f3, .int .i64 x.f4, .string x.f5.f0, .string x.f5.f1, .int .i64 x.f5.f2, .int .i64 x.f5.f3], rfl, rfl, ⟨[.int .i64 x.f2], [.int .i64 x.f3, .int .i64 x.f4, .string x.f5.f0, .string x.f5.f1, .int .i64 x.f5.f2, .int .i64 x.f5.f3], rfl, rfl, ⟨[.int .i64 x.f3], [.int .i64 x.f4, .string x.f5.f0, .string x.f5.f1, .int .i64 x.f5.f2, .int .i64 x.f5.f3], rfl, rfl, ⟨[.int .i64 x.f4], [.string x.f5.f0, .string x.f5.f1, .int .i64 x.f5.f2, .int .i64 x.f5.f3], rfl, rfl, (k24_mkM w base ok x.f5 )⟩⟩⟩⟩⟩
def rd_T99 (xs : List S99) (i : Int) : S99 := xs.getD i.toNat z99
theorem at_T99 {w : World} {A : Option Addr} {n : Nat} {xs : List S99} (h : Kd.C k99 w A n xs) (i : Int) (h0 : 0 ≤ i) (h1 : i < n) : ∃ ad , A = some ad ∧ w.cell? (ad.add (i.toNat * 13)) = some (.string (rd_T99 xs i).f0.f0) ∧ w.cell? ⟨(ad.add (i.toNat * 13)).block, (ad.add (i.toNat * 13)).off + 1, none⟩ = some (.string (rd_T99 xs i).f0.f1) ∧ w.cell? ⟨(ad.add (i.toNat * 13)).block, (ad.add (i.toNat * 13)).off + 2, none⟩ = some (.string (rd_T99 xs i).f0.f2) ∧ w.cell? ⟨(ad.add (i.toNat * 13)).block, (ad.add (i.toNat * 13)).off + 3, none⟩ = some (.int .i64 (rd_T99 xs i).f0.f3) ∧ w.cell? ⟨(ad.add (i.toNat * 13)).block, (ad.add (i.toNat * 13)).off + 4, none⟩ = some (.int .i64 (rd_T99 xs i).f0.f4) ∧ w.cell? ⟨(ad.add (i.toNat * 13)).block, (ad.add (i.toNat * 13)).off + 5, none⟩ = some (.int .i64 (rd_T99 xs i).f1) ∧ w.cell? ⟨(ad.add (i.toNat * 13)).block, (ad.add (i.toNat * 13)).off + 6, none⟩ = some (.int .i64 (rd_T99 xs i).f2) ∧ w.cell? ⟨(ad.add (i.toNat * 13)).block, (ad.add (i.toNat * 13)).off + 7, none⟩ = some (.int .i64 (rd_T99 xs i).f3) ∧ w.cell? ⟨(ad.add (i.toNat * 13)).block, (ad.add (i.toNat * 13)).off + 8, none⟩ = some (.int .i64 (rd_T99 xs i).f4) ∧ w.cell? ⟨(ad.add (i.toNat * 13)).block, (ad.add (i.toNat * 13)).off + 9, none⟩ = some (.string (rd_T99 xs i).f5.f0) ∧ w.cell? ⟨(ad.add (i.toNat * 13)).block, (ad.add (i.toNat * 13)).off + 10, none⟩ = some (.string (rd_T99 xs i).f5.f1) ∧ w.cell? ⟨(ad.add (i.toNat * 13)).block, (ad.add (i.toNat * 13)).off + 11, none⟩ = some (.int .i64 (rd_T99 xs i).f5.f2) ∧ w.cell? ⟨(ad.add (i.toNat * 13)).block, (ad.add (i.toNat * 13)).off + 12, none⟩ = some (.int .i64 (rd_T99 xs i).f5.f3) := by
  obtain ⟨ad, c, e, _, hK, hc0⟩ := Kd.C_get h z99 i h0 h1
  have hc : ∀ j u, c[j]? = some u → w.cell? (ad.add (i.toNat * 13 + j)) = some u := hc0
  obtain rfl := k99_open hK
  exact ⟨ad, e, hc 0 _ rfl, t_75, t_76, t_77, t_78, t_79, t_7a, t_7b, t_7c, by rw [← add_field _ _ 9 (by omega)]; exact hc 9 _ rfl, by rw [← add_field _ _ 10 (by omega)]; exact hc 10 _ rfl, by rw [← add_field _ _ 11 (by omega)]; exact hc 11 _ rfl, by rw [← add_field _ _ 12 (by omega)]; exact hc 12 _ rfl⟩

/-! #### struct type 77 -/
structure S77 where
  f0 : Int
  f1 : (List S99)
  f2 : (List S24)
  f3 : Int
  f4 : Int
/-! #### struct type 34 -/
structure S34 where
  f0 : Int
  f1 : S24
  f2 : ByteArray
  f3 : ByteArray
  f4 : Int
  f5 : Int
/-! #### struct type 83 -/
structure S83 where
  f0 : Int
  f1 : Int
  f2 : S81
  f3 : ByteArray
  f4 : Int
def z83 : S83 := ⟨(0 : Int), (0 : Int), z81, (⟨#[]⟩ : ByteArray), (0 : Int)⟩
def k83 : Kd S83 := Kd.iso (Kd.pair (Kd.int .i64) (Kd.pair (Kd.int .i64) (Kd.pair k81 (Kd.pair Kd.string (Kd.int .i64))))) (fun x : S83 => (x.f0, x.f1, x.f2, x.f3, x.f4))
theorem k83_open {w : World} {x : S83} {cs : List Value} (h : k83.K w x cs) : cs = [.int .i64 x.f0, .int .i64 x.f1, .string x.f2.f0, .string x.f2.f1, .string x.f2.f2, .int .i64 x.f2.f3, .int .i64 x.f2.f4, .string x.f3, .int .i64 x.f4] := by
  obtain ⟨_, _, rfl, rfl, ⟨_, _, rfl, rfl, ⟨_, _, rfl, s2, ⟨_, _, rfl, rfl, rfl⟩⟩⟩⟩ := h
  obtain rfl := k81_open s2
  exact rfl
theorem k83_mkM (w : World) (base : Nat) (ok : Nat → Prop) (x : S83)  : k83.M w base ok x [.int .i64 x.f0, .int .i64 x.f1, .string x.f2.f0, .string x.f2.f1, .string x.f2.f2, .int .i64 x.f2.f3, .int .i64 x.f2.f4, .string x.f3, .int .i64 x.f4] := ⟨[.int .i64 x.f0], [.int .i64 x.f1, .string x.f2.f0, .string x.f2.f1, .string x.f2.f2, .int .i64 x.f2.f3, .int .i64 x.f2.f4, .string x.f3, .int .i64 x.f4], rfl, rfl, ⟨[.int .i64 x.f1], [.string x.f2.f0, .string x.f2.f1, .string x.f2.f2, .int .i64 x.f2.f3, .int .i64 x.f2.f4, .string x.f3, .int .i64 x.f4], rfl, rfl, ⟨[.string x.f2.f0, .string x.f2.f1, .string x.f2.f2, .int .i64 x.f2.f3, .int .i64 x.f2.f4], [.string x.f3, .int .i64 x.f4], rfl, (k81_mkM w base ok x.f2 ), ⟨[.string x.f3], [.int .i64 x.f4], rfl, rfl, rfl⟩⟩⟩⟩
def rd_T83 (xs : List S83) (i : Int) : S83 := xs.getD i.toNat z83
theorem at_T83 {w : World} {A : Option Addr} {n : Nat} {xs : List S83} (h : Kd.C k83 w A n xs) (i : Int) (h0 : 0 ≤ i) (h1 : i < n) : ∃ ad , A = some ad ∧ w.cell? (ad.add (i.toNat * 9)) = some (.int .i64 (rd_T83 xs i).f0) ∧ w.cell? ⟨(ad.add (i.toNat * 9)).block, (ad.add (i.toNat * 9)).off + 1, none⟩ = some (.int .i64 (rd_T83 xs i).f1) ∧ w.cell? ⟨(ad.add (i.toNat * 9)).block, (ad.add (i.toNat * 9)).off + 2, none⟩ = some (.string (rd_T83 xs i).f2.f0) ∧ w.cell? ⟨(ad.add (i.toNat * 9)).block, (ad.add (i.toNat * 9)).off + 3, none⟩ = some (.string (rd_T83 xs i).f2.f1) ∧ w.cell? ⟨(ad.add (i.toNat * 9)).block, (ad.add (i.toNat * 9)).off + 4, none⟩ = some (.string (rd_T83 xs i).f2.f2) ∧ w.cell? ⟨(ad.add (i.toNat * 9)).block, (ad.add (i.toNat * 9)).off + 5, none⟩ = some (.int .i64 (rd_T83 xs i).f2.f3) ∧ w.cell? ⟨(ad.add (i.toNat * 9)).block, (ad.add (i.toNat * 9)).off + 6, none⟩ = some (.int .i64 (rd_T83 xs i).f2.f4) ∧ w.cell? ⟨(ad.add (i.toNat * 9)).block, (ad.add (i.toNat * 9)).off + 7, none⟩ = some (.string (rd_T83 xs i).f3) ∧ w.cell? ⟨(ad.add (i.toNat * 9)).block, (ad.add (i.toNat * 9)).off + 8, none⟩ = some (.int .i64 (rd_T83 xs i).f4) := by
  obtain ⟨ad, c, e, _, hK, hc0⟩ := Kd.C_get h z83 i h0 h1
  have hc : ∀ j u, c[j]? = some u → w.cell? (ad.add (i.toNat * 9 + j)) = some u := hc0
  obtain rfl := k83_open hK
  exact ⟨ad, e, hc 0 _ rfl, t_75, t_76, t_77, t_78, t_79, t_7a, t_7b, t_7c⟩

/-! #### struct type 69 -/
structure S69 where
  f0 : ByteArray
  f1 : ByteArray
  f2 : ByteArray
  f3 : Int
  f4 : Int
def z69 : S69 := ⟨(⟨#[]⟩ : ByteArray), (⟨#[]⟩ : ByteArray), (⟨#[]⟩ : ByteArray), (0 : Int), (0 : Int)⟩
def k69 : Kd S69 := Kd.iso (Kd.pair Kd.string (Kd.pair Kd.string (Kd.pair Kd.string (Kd.pair (Kd.int .i64) (Kd.int .i64))))) (fun x : S69 => (x.f0, x.f1, x.f2, x.f3, x.f4))
theorem k69_open {w : World} {x : S69} {cs : List Value} (h : k69.K w x cs) : cs = [.string x.f0, .string x.f1, .string x.f2, .int .i64 x.f3, .int .i64 x.f4] := by
  obtain ⟨_, _, rfl, rfl, ⟨_, _, rfl, rfl, ⟨_, _, rfl, rfl, ⟨_, _, rfl, rfl, rfl⟩⟩⟩⟩ := h
  exact rfl
theorem k69_mkM (w : World) (base : Nat) (ok : Nat → Prop) (x : S69)  : k69.M w base ok x [.string x.f0, .string x.f1, .string x.f2, .int .i64 x.f3, .int .i64 x.f4] := ⟨[.string x.f0], [.string x.f1, .string x.f2, .int .i64 x.f3, .int .i64 x.f4], rfl, rfl, ⟨[.string x.f1], [.string x.f2, .int .i64 x.f3, .int .i64 x.f4], rfl, rfl, ⟨[.string x.f2], [.int .i64 x.f3, .int .i64 x.f4], rfl, rfl, ⟨[.int .i64 x.f3], [.int .i64 x.f4], rfl, rfl, rfl⟩⟩⟩⟩
/-! #### struct type 107 -/
structure S107 where
  f0 : S69
  f1 : Int
  f2 : Int
  f3 : Int
  f4 : Int
  f5 : S24
def z107 : S107 := ⟨z69, (0 : Int), (0 : Int), (0 : Int), (0 : Int), z24⟩
def k107 : Kd S107 := Kd.iso (Kd.pair k69 (Kd.pair (Kd.int .i64) (Kd.pair (Kd.int .i64) (Kd.pair (Kd.int .i64) (Kd.pair (Kd.int .i64) k24))))) (fun x : S107 => (x.f0, x.f1, x.f2, x.f3, x.f4, x.f5))
theorem k107_open {w : World} {x : S107} {cs : List Value} (h : k107.K w x cs) : cs = [.string x.f0.f0, .string x.f0.f1, .string x.f0.f2, .int .i64 x.f0.f3, .int .i64 x.f0.f4, .int .i64 x.f1, .int .i64 x.f2, .int .i64 x.f3, .int .i64 x.f4, .string x.f5.f0, .string x.f5.f1, .int .i64 x.f5.f2, .int .i64 x.f5.f3] := by
  obtain ⟨_, _, rfl, s0, ⟨_, _, rfl, rfl, ⟨_, _, rfl, rfl, ⟨_, _, rfl, rfl, ⟨_, _, rfl, rfl, s9⟩⟩⟩⟩⟩ := h
  obtain rfl := k69_open s0
  obtain rfl := k24_open s9
  exact rfl
def rd_T107 (xs : List S107) (i : Int) : S107 := xs.getD i.toNat z107
theorem at_T107 {w : World} {A : Option Addr} {n : Nat} {xs : List S107} (h : Kd.C k107 w A n xs) (i : Int) (h0 : 0 ≤ i) (h1 : i < n) : ∃ ad , A = some ad ∧ w.cell? (ad.add (i.toNat * 13)) = some (.string (rd_T107 xs i).f0.f0) ∧ w.cell? ⟨(ad.add (i.toNat * 13)).block, (ad.add (i.toNat * 13)).off + 1, none⟩ = some (.string (rd_T107 xs i).f0.f1) ∧ w.cell? ⟨(ad.add (i.toNat * 13)).block, (ad.add (i.toNat * 13)).off + 2, none⟩ = some (.string (rd_T107 xs i).f0.f2) ∧ w.cell? ⟨(ad.add (i.toNat * 13)).block, (ad.add (i.toNat * 13)).off + 3, none⟩ = some (.int .i64 (rd_T107 xs i).f0.f3) ∧ w.cell? ⟨(ad.add (i.toNat * 13)).block, (ad.add (i.toNat * 13)).off + 4, none⟩ = some (.int .i64 (rd_T107 xs i).f0.f4) ∧ w.cell? ⟨(ad.add (i.toNat * 13)).block, (ad.add (i.toNat * 13)).off + 5, none⟩ = some (.int .i64 (rd_T107 xs i).f1) ∧ w.cell? ⟨(ad.add (i.toNat * 13)).block, (ad.add (i.toNat * 13)).off + 6, none⟩ = some (.int .i64 (rd_T107 xs i).f2) ∧ w.cell? ⟨(ad.add (i.toNat * 13)).block, (ad.add (i.toNat * 13)).off + 7, none⟩ = some (.int .i64 (rd_T107 xs i).f3) ∧ w.cell? ⟨(ad.add (i.toNat * 13)).block, (ad.add (i.toNat * 13)).off + 8, none⟩ = some (.int .i64 (rd_T107 xs i).f4) ∧ w.cell? ⟨(ad.add (i.toNat * 13)).block, (ad.add (i.toNat * 13)).off + 9, none⟩ = some (.string (rd_T107 xs i).f5.f0) ∧ w.cell? ⟨(ad.add (i.toNat * 13)).block, (ad.add (i.toNat * 13)).off + 10, none⟩ = some (.string (rd_T107 xs i).f5.f1) ∧ w.cell? ⟨(ad.add (i.toNat * 13)).block, (ad.add (i.toNat * 13)).off + 11, none⟩ = some (.int .i64 (rd_T107 xs i).f5.f2) ∧ w.cell? ⟨(ad.add (i.toNat * 13)).block, (ad.add (i.toNat * 13)).off + 12, none⟩ = some (.int .i64 (rd_T107 xs i).f5.f3) := by
  obtain ⟨ad, c, e, _, hK, hc0⟩ := Kd.C_get h z107 i h0 h1
  have hc : ∀ j u, c[j]? = some u → w.cell? (ad.add (i.toNat * 13 + j)) = some u := hc0
  obtain rfl := k107_open hK
  exact ⟨ad, e, hc 0 _ rfl, t_75, t_76, t_77, t_78, t_79, t_7a, t_7b, t_7c, by rw [← add_field _ _ 9 (by omega)]; exact hc 9 _ rfl, by rw [← add_field _ _ 10 (by omega)]; exact hc 10 _ rfl, by rw [← add_field _ _ 11 (by omega)]; exact hc 11 _ rfl, by rw [← add_field _ _ 12 (by omega)]; exact hc 12 _ rfl⟩

/-! #### struct type 71 -/
structure S71 where
  f0 : Int
  f1 : Int
  f2 : S69
  f3 : ByteArray
  f4 : Int
def z71 : S71 := ⟨(0 : Int), (0 : Int), z69, (⟨#[]⟩ : ByteArray), (0 : Int)⟩
def k71 : Kd S71 := Kd.iso (Kd.pair (Kd.int .i64) (Kd.pair (Kd.int .i64) (Kd.pair k69 (Kd.pair Kd.string (Kd.int .i64))))) (fun x : S71 => (x.f0, x.f1, x.f2, x.f3, x.f4))
theorem k71_open {w : World} {x : S71} {cs : List Value} (h : k71.K w x cs) : cs = [.int .i64 x.f0, .int .i64 x.f1, .string x.f2.f0, .string x.f2.f1, .string x.f2.f2, .int .i64 x.f2.f3, .int .i64 x.f2.f4, .string x.f3, .int .i64 x.f4] := by
  obtain ⟨_, _, rfl, rfl, ⟨_, _, rfl, rfl, ⟨_, _, rfl, s2, ⟨_, _, rfl, rfl, rfl⟩⟩⟩⟩ := h
  obtain rfl := k69_open s2
  exact rfl
theorem k71_mkM (w : World) (base : Nat) (ok : Nat → Prop) (x : S71)  : k71.M w base ok x [.int .i64 x.f0, .int .i64 x.f1, .string x.f2.f0, .string x.f2.f1, .string x.f2.f2, .int .i64 x.f2.f3, .int .i64 x.f2.f4, .string x.f3, .int .i64 x.f4] := ⟨[.int .i64 x.f0], [.int .i64 x.f1, .string x.f2.f0, .string x.f2.f1, .string x.f2.f2, .int .i64 x.f2.f3, .int .i64 x.f2.f4, .string x.f3, .int .i64 x.f4], rfl, rfl, ⟨[.int .i64 x.f1], [.string x.f2.f0, .string x.f2.f1, .string x.f2.f2, .int .i64 x.f2.f3, .int .i64 x.f2.f4, .string x.f3, .int .i64 x.f4], rfl, rfl, ⟨[.string x.f2.f0, .string x.f2.f1, .string x.f2.f2, .int .i64 x.f2.f3, .int .i64 x.f2.f4], [.string x.f3, .int .i64 x.f4], rfl, (k69_mkM w base ok x.f2 ), ⟨[.string x.f3], [.int .i64 x.f4], rfl, rfl, rfl⟩⟩⟩⟩
def rd_T71 (xs : List S71) (i : Int) : S71 := xs.getD i.toNat z71
theorem at_T71 {w : World} {A : Option Addr} {n : Nat} {xs : List S71} (h : Kd.C k71 w A n xs) (i : Int) (h0 : 0 ≤ i) (h1 : i < n) : ∃ ad , A = some ad ∧ w.cell? (ad.add (i.toNat * 9)) = some (.int .i64 (rd_T71 xs i).f0) ∧ w.cell? ⟨(ad.add (i.toNat * 9)).block, (ad.add (i.toNat * 9)).off + 1, none⟩ = some (.int .i64 (rd_T71 xs i).f1) ∧ w.cell? ⟨(ad.add (i.toNat * 9)).block, (ad.add (i.toNat * 9)).off + 2, none⟩ = some (.string (rd_T71 xs i).f2.f0) ∧ w.cell? ⟨(ad.add (i.toNat * 9)).block, (ad.add (i.toNat * 9)).off + 3, none⟩ = some (.string (rd_T71 xs i).f2.f1) ∧ w.cell? ⟨(ad.add (i.toNat * 9)).block, (ad.add (i.toNat * 9)).off + 4, none⟩ = some (.string (rd_T71 xs i).f2.f2) ∧ w.cell? ⟨(ad.add (i.toNat * 9)).block, (ad.add (i.toNat * 9)).off + 5, none⟩ = some (.int .i64 (rd_T71 xs i).f2.f3) ∧ w.cell? ⟨(ad.add (i.toNat * 9)).block, (ad.add (i.toNat * 9)).off + 6, none⟩ = some (.int .i64 (rd_T71 xs i).f2.f4) ∧ w.cell? ⟨(ad.add (i.toNat * 9)).block, (ad.add (i.toNat * 9)).off + 7, none⟩ = some (.string (rd_T71 xs i).f3) ∧ w.cell? ⟨(ad.add (i.toNat * 9)).block, (ad.add (i.toNat * 9)).off + 8, none⟩ = some (.int .i64 (rd_T71 xs i).f4) := by
  obtain ⟨ad, c, e, _, hK, hc0⟩ := Kd.C_get h z71 i h0 h1
  have hc : ∀ j u, c[j]? = some u → w.cell? (ad.add (i.toNat * 9 + j)) = some u := hc0
  obtain rfl := k71_open hK
  exact ⟨ad, e, hc 0 _ rfl, t_75, t_76, t_77, t_78, t_79, t_7a, t_7b, t_7c⟩

/-! #### struct type 67 -/
structure S67 where
  f0 : Int
  f1 : (List S107)
  f2 : (List S24)
  f3 : Int
  f4 : Int
def k67 : Kd S67 := Kd.iso (Kd.pair (Kd.int .i64) (Kd.pair (Kd.slice 107 k107) (Kd.pair (Kd.slice 24 k24) (Kd.pair (Kd.int .i64) (Kd.int .i64))))) (fun x : S67 => (x.f0, x.f1, x.f2, x.f3, x.f4))
theorem k67_open {w : World} {x : S67} {cs : List Value} (h : k67.K w x cs) : ∃ A1 c1 A2 c2, cs = [.int .i64 x.f0, .slice A1 x.f1.length c1, .slice A2 x.f2.length c2, .int .i64 x.f3, .int .i64 x.f4] ∧ x.f1.length ≤ c1 ∧ k107.C w A1 x.f1.length x.f1 ∧ x.f2.length ≤ c2 ∧ k24.C w A2 x.f2.length x.f2 := by
  obtain ⟨_, _, rfl, rfl, ⟨_, _, rfl, ⟨A1, c1, rfl, l1, g1⟩, ⟨_, _, rfl, ⟨A2, c2, rfl, l2, g2⟩, ⟨_, _, rfl, rfl, rfl⟩⟩⟩⟩ := h
  exact ⟨A1, c1, A2, c2, rfl, l1, g1, l2, g2⟩
def V69 (x : S69) : Prop := (fun s_ : ByteArray => s_.size ≤ 9223372036854775807) x.f0 ∧ (fun s_ : ByteArray => s_.size ≤ 9223372036854775807) x.f1 ∧ (fun s_ : ByteArray => s_.size ≤ 9223372036854775807) x.f2 ∧ (fun n_ => (Lit.int .i64 n_).wf = true) x.f3 ∧ (fun n_ => (Lit.int .i64 n_).wf = true) x.f4
theorem o69 : Opens Try.prog k69 69 V69 := opens_imp (opens_struct (g := (fun y => (⟨y.1, y.2.1, y.2.2.1, y.2.2.2.1, y.2.2.2.2⟩ : S69))) Try.underlying69 t_8e (fun _ => rfl) (opensL_cons t_8e (opens_string Try.underlying9) (opensL_cons t_8e (opens_string Try.underlying9) (opensL_cons t_8e (opens_string Try.underlying9) (opensL_cons t_8e (opens_int Try.underlying3) (opensL_one t_8e (opens_int Try.underlying3))))))) (fun _ h => h)
def V24 (x : S24) : Prop := (fun s_ : ByteArray => s_.size ≤ 9223372036854775807) x.f0 ∧ (fun s_ : ByteArray => s_.size ≤ 9223372036854775807) x.f1 ∧ (fun n_ => (Lit.int .i64 n_).wf = true) x.f2 ∧ (fun n_ => (Lit.int .i64 n_).wf = true) x.f3
theorem o24 : Opens Try.prog k24 24 V24 := opens_imp (opens_struct (g := (fun y => (⟨y.1, y.2.1, y.2.2.1, y.2.2.2⟩ : S24))) Try.underlying24 t_8e (fun _ => rfl) (opensL_cons t_8e (opens_string Try.underlying9) (opensL_cons t_8e (opens_string Try.underlying9) (opensL_cons t_8e (opens_int Try.underlying3) (opensL_one t_8e (opens_int Try.underlying3)))))) (fun _ h => h)
def V107 (x : S107) : Prop := V69 x.f0 ∧ (fun n_ => (Lit.int .i64 n_).wf = true) x.f1 ∧ (fun n_ => (Lit.int .i64 n_).wf = true) x.f2 ∧ (fun n_ => (Lit.int .i64 n_).wf = true) x.f3 ∧ (fun n_ => (Lit.int .i64 n_).wf = true) x.f4 ∧ V24 x.f5
theorem o107 : Opens Try.prog k107 107 V107 := opens_imp (opens_struct (g := (fun y => (⟨y.1, y.2.1, y.2.2.1, y.2.2.2.1, y.2.2.2.2.1, y.2.2.2.2.2⟩ : S107))) Try.underlying107 t_8e (fun _ => rfl) (opensL_cons t_8e o69 (opensL_cons t_8e (opens_int Try.underlying3) (opensL_cons t_8e (opens_int Try.underlying3) (opensL_cons t_8e (opens_int Try.underlying3) (opensL_cons t_8e (opens_int Try.underlying3) (opensL_one t_8e o24))))))) (fun _ h => h)
def V67 (x : S67) : Prop := (fun n_ => (Lit.int .i64 n_).wf = true) x.f0 ∧ (AllV V107) x.f1 ∧ (AllV V24) x.f2 ∧ (fun n_ => (Lit.int .i64 n_).wf = true) x.f3 ∧ (fun n_ => (Lit.int .i64 n_).wf = true) x.f4
theorem o67 : Opens Try.prog k67 67 V67 := opens_imp (opens_struct (g := (fun y => (⟨y.1, y.2.1, y.2.2.1, y.2.2.2.1, y.2.2.2.2⟩ : S67))) Try.underlying67 t_8e (fun _ => rfl) (opensL_cons t_8e (opens_int Try.underlying3) (opensL_cons t_8e (opens_slice Try.underlying65 t_8e o107) (opensL_cons t_8e (opens_slice Try.underlying22 t_8e o24) (opensL_cons t_8e (opens_int Try.underlying3) (opensL_one t_8e (opens_int Try.underlying3))))))) (fun _ h => h)
def V71 (x : S71) : Prop := (fun n_ => (Lit.int .i64 n_).wf = true) x.f0 ∧ (fun n_ => (Lit.int .i64 n_).wf = true) x.f1 ∧ V69 x.f2 ∧ (fun s_ : ByteArray => s_.size ≤ 9223372036854775807) x.f3 ∧ (fun n_ => (Lit.int .i64 n_).wf = true) x.f4
theorem o71 : Opens Try.prog k71 71 V71 := opens_imp (opens_struct (g := (fun y => (⟨y.1, y.2.1, y.2.2.1, y.2.2.2.1, y.2.2.2.2⟩ : S71))) Try.underlying71 t_8e (fun _ => rfl) (opensL_cons t_8e (opens_int Try.underlying3) (opensL_cons t_8e (opens_int Try.underlying3) (opensL_cons t_8e o69 (opensL_cons t_8e (opens_string Try.underlying9) (opensL_one t_8e (opens_int Try.underlying3))))))) (fun _ h => h)
abbrev q18_0 : Array Bool := #[false, false, false, false, false, false, false, false, false, false, false, false, false, false, false, false, false, false]
abbrev q18_1 : Array Bool := #[true, false, false, false, false, false, false, false, false, false, false, false, false, false, false, false, false, false]
abbrev q18_1f : Array Bool := #[true, true, true, true, true, false, false, false, false, false, false, false, false, false, false, false, false, false]
abbrev q18_1ff : Array Bool := #[true, true, true, true, true, true, true, true, true, false, false, false, false, false, false, false, false, false]
abbrev q18_1fff : Array Bool := #[true, true, true, true, true, true, true, true, true, true, true, true, true, false, false, false, false, false]
abbrev q18_1ffff : Array Bool := #[true, true, true, true, true, true, true, true, true, true, true, true, true, true, true, true, true, false]
abbrev q18_2fff : Array Bool := #[true, true, true, true, true, true, true, true, true, true, true, true, false, true, false, false, false, false]
abbrev q18_3 : Array Bool := #[true, true, false, false, false, false, false, false, false, false, false, false, false, false, false, false, false, false]
abbrev q18_3f : Array Bool := #[true, true, true, true, true, true, false, false, false, false, false, false, false, false, false, false, false, false]
abbrev q18_3ff : Array Bool := #[true, true, true, true, true, true, true, true, true, true, false, false, false, false, false, false, false, false]
abbrev q18_3fff : Array Bool := #[true, true, true, true, true, true, true, true, true, true, true, true, true, true, false, false, false, false]
abbrev q18_3ffff : Array Bool := #[true, true, true, true, true, true, true, true, true, true, true, true, true, true, true, true, true, true]
abbrev q18_7 : Array Bool := #[true, true, true, false, false, false, false, false, false, false, false, false, false, false, false, false, false, false]
abbrev q18_7f : Array Bool := #[true, true, true, true, true, true, true, false, false, false, false, false, false, false, false, false, false, false]
abbrev q18_7ff : Array Bool := #[true, true, true, true, true, true, true, true, true, true, true, false, false, false, false, false, false, false]
abbrev q18_7fff : Array Bool := #[true, true, true, true, true, true, true, true, true, true, true, true, true, true, true, false, false, false]
abbrev q18_f : Array Bool := #[true, true, true, true, false, false, false, false, false, false, false, false, false, false, false, false, false, false]
abbrev q18_ff : Array Bool := #[true, true, true, true, true, true, true, true, false, false, false, false, false, false, false, false, false, false]
abbrev q18_fff : Array Bool := #[true, true, true, true, true, true, true, true, true, true, true, true, false, false, false, false, false, false]
abbrev q18_ffff : Array Bool := #[true, true, true, true, true, true, true, true, true, true, true, true, true, true, true, true, false, false]
theorem sqc4 {w : World} {g : Nat} {t : TypeId} {c0 c1 c2 c3 : Value} (h : w.heap[g]? = some (.cells #[c0, c1, c2, c3] t (0, 0))) : w.cell? ⟨g, 0, none⟩ = some c0 ∧ w.cell? ⟨g, 1, none⟩ = some c1 ∧ w.cell? ⟨g, 2, none⟩ = some c2 ∧ w.cell? ⟨g, 3, none⟩ = some c3 := ⟨(blk_cell h 0).trans rfl, (blk_cell h 1).trans rfl, (blk_cell h 2).trans rfl, (blk_cell h 3).trans rfl⟩
theorem frozen4 {w : World} {g : Nat} {t : TypeId} {c0 c1 c2 c3 : Value} (h : w.heap[g]? = some (.cells #[c0, c1, c2, c3] t (0, 0))) : w.frozen? ⟨g, 0, none⟩ = false ∧ w.frozen? ⟨g, 1, none⟩ = false ∧ w.frozen? ⟨g, 2, none⟩ = false ∧ w.frozen? ⟨g, 3, none⟩ = false := ⟨blk_frozen h 0, blk_frozen h 1, blk_frozen h 2, blk_frozen h 3⟩
theorem sqc5 {w : World} {g : Nat} {t : TypeId} {c0 c1 c2 c3 c4 : Value} (h : w.heap[g]? = some (.cells #[c0, c1, c2, c3, c4] t (0, 0))) : w.cell? ⟨g, 0, none⟩ = some c0 ∧ w.cell? ⟨g, 1, none⟩ = some c1 ∧ w.cell? ⟨g, 2, none⟩ = some c2 ∧ w.cell? ⟨g, 3, none⟩ = some c3 ∧ w.cell? ⟨g, 4, none⟩ = some c4 := ⟨(blk_cell h 0).trans rfl, (blk_cell h 1).trans rfl, (blk_cell h 2).trans rfl, (blk_cell h 3).trans rfl, (blk_cell h 4).trans rfl⟩
theorem frozen5 {w : World} {g : Nat} {t : TypeId} {c0 c1 c2 c3 c4 : Value} (h : w.heap[g]? = some (.cells #[c0, c1, c2, c3, c4] t (0, 0))) : w.frozen? ⟨g, 0, none⟩ = false ∧ w.frozen? ⟨g, 1, none⟩ = false ∧ w.frozen? ⟨g, 2, none⟩ = false ∧ w.frozen? ⟨g, 3, none⟩ = false ∧ w.frozen? ⟨g, 4, none⟩ = false := ⟨blk_frozen h 0, blk_frozen h 1, blk_frozen h 2, blk_frozen h 3, blk_frozen h 4⟩
theorem sqc9 {w : World} {g : Nat} {t : TypeId} {c0 c1 c2 c3 c4 c5 c6 c7 c8 : Value} (h : w.heap[g]? = some (.cells #[c0, c1, c2, c3, c4, c5, c6, c7, c8] t (0, 0))) : w.cell? ⟨g, 0, none⟩ = some c0 ∧ w.cell? ⟨g, 1, none⟩ = some c1 ∧ w.cell? ⟨g, 2, none⟩ = some c2 ∧ w.cell? ⟨g, 3, none⟩ = some c3 ∧ w.cell? ⟨g, 4, none⟩ = some c4 ∧ w.cell? ⟨g, 5, none⟩ = some c5 ∧ w.cell? ⟨g, 6, none⟩ = some c6 ∧ w.cell? ⟨g, 7, none⟩ = some c7 ∧ w.cell? ⟨g, 8, none⟩ = some c8 := ⟨(blk_cell h 0).trans rfl, (blk_cell h 1).trans rfl, (blk_cell h 2).trans rfl, (blk_cell h 3).trans rfl, (blk_cell h 4).trans rfl, (blk_cell h 5).trans rfl, (blk_cell h 6).trans rfl, (blk_cell h 7).trans rfl, (blk_cell h 8).trans rfl⟩
theorem frozen9 {w : World} {g : Nat} {t : TypeId} {c0 c1 c2 c3 c4 c5 c6 c7 c8 : Value} (h : w.heap[g]? = some (.cells #[c0, c1, c2, c3, c4, c5, c6, c7, c8] t (0, 0))) : w.frozen? ⟨g, 0, none⟩ = false ∧ w.frozen? ⟨g, 1, none⟩ = false ∧ w.frozen? ⟨g, 2, none⟩ = false ∧ w.frozen? ⟨g, 3, none⟩ = false ∧ w.frozen? ⟨g, 4, none⟩ = false ∧ w.frozen? ⟨g, 5, none⟩ = false ∧ w.frozen? ⟨g, 6, none⟩ = false ∧ w.frozen? ⟨g, 7, none⟩ = false ∧ w.frozen? ⟨g, 8, none⟩ = false := ⟨blk_frozen h 0, blk_frozen h 1, blk_frozen h 2, blk_frozen h 3, blk_frozen h 4, blk_frozen h 5, blk_frozen h 6, blk_frozen h 7, blk_frozen h 8⟩
theorem sqc13 {w : World} {g : Nat} {t : TypeId} {c0 c1 c2 c3 c4 c5 c6 c7 c8 c9 c10 c11 c12 : Value} (h : w.heap[g]? = some (.cells #[c0, c1, c2, c3, c4, c5, c6, c7, c8, c9, c10, c11, c12] t (0, 0))) : w.cell? ⟨g, 0, none⟩ = some c0 ∧ w.cell? ⟨g, 1, none⟩ = some c1 ∧ w.cell? ⟨g, 2, none⟩ = some c2 ∧ w.cell? ⟨g, 3, none⟩ = some c3 ∧ w.cell? ⟨g, 4, none⟩ = some c4 ∧ w.cell? ⟨g, 5, none⟩ = some c5 ∧ w.cell? ⟨g, 6, none⟩ = some c6 ∧ w.cell? ⟨g, 7, none⟩ = some c7 ∧ w.cell? ⟨g, 8, none⟩ = some c8 ∧ w.cell? ⟨g, 9, none⟩ = some c9 ∧ w.cell? ⟨g, 10, none⟩ = some c10 ∧ w.cell? ⟨g, 11, none⟩ = some c11 ∧ w.cell? ⟨g, 12, none⟩ = some c12 := ⟨(blk_cell h 0).trans rfl, (blk_cell h 1).trans rfl, (blk_cell h 2).trans rfl, (blk_cell h 3).trans rfl, (blk_cell h 4).trans rfl, (blk_cell h 5).trans rfl, (blk_cell h 6).trans rfl, (blk_cell h 7).trans rfl, (blk_cell h 8).trans rfl, (blk_cell h 9).trans rfl, (blk_cell h 10).trans rfl, (blk_cell h 11).trans rfl, (blk_cell h 12).trans rfl⟩
theorem frozen13 {w : World} {g : Nat} {t : TypeId} {c0 c1 c2 c3 c4 c5 c6 c7 c8 c9 c10 c11 c12 : Value} (h : w.heap[g]? = some (.cells #[c0, c1, c2, c3, c4, c5, c6, c7, c8, c9, c10, c11, c12] t (0, 0))) : w.frozen? ⟨g, 0, none⟩ = false ∧ w.frozen? ⟨g, 1, none⟩ = false ∧ w.frozen? ⟨g, 2, none⟩ = false ∧ w.frozen? ⟨g, 3, none⟩ = false ∧ w.frozen? ⟨g, 4, none⟩ = false ∧ w.frozen? ⟨g, 5, none⟩ = false ∧ w.frozen? ⟨g, 6, none⟩ = false ∧ w.frozen? ⟨g, 7, none⟩ = false ∧ w.frozen? ⟨g, 8, none⟩ = false ∧ w.frozen? ⟨g, 9, none⟩ = false ∧ w.frozen? ⟨g, 10, none⟩ = false ∧ w.frozen? ⟨g, 11, none⟩ = false ∧ w.frozen? ⟨g, 12, none⟩ = false := ⟨blk_frozen h 0, blk_frozen h 1, blk_frozen h 2, blk_frozen h 3, blk_frozen h 4, blk_frozen h 5, blk_frozen h 6, blk_frozen h 7, blk_frozen h 8, blk_frozen h 9, blk_frozen h 10, blk_frozen h 11, blk_frozen h 12⟩
set_option maxRecDepth 100000 in
theorem put4 {w : World} {g : Nat} {t : TypeId} {c0 c1 c2 c3 v0 v1 v2 v3 : Value} (h : w.heap[g]? = some (.cells #[c0, c1, c2, c3] t (0, 0))) : ((((w.setCell ⟨g, 0, none⟩ v0).setCell ⟨g, 1, none⟩ v1).setCell ⟨g, 2, none⟩ v2).setCell ⟨g, 3, none⟩ v3).heap[g]? = some (.cells #[v0, v1, v2, v3] t (0, 0)) := (blk_put (cs := #[v0, v1, v2, c3]) (blk_put (cs := #[v0, v1, c2, c3]) (blk_put (cs := #[v0, c1, c2, c3]) (blk_put (cs := #[c0, c1, c2, c3]) h 0 v0 rfl) 1 v1 rfl) 2 v2 rfl) 3 v3 rfl)
set_option maxRecDepth 100000 in
theorem put5 {w : World} {g : Nat} {t : TypeId} {c0 c1 c2 c3 c4 v0 v1 v2 v3 v4 : Value} (h : w.heap[g]? = some (.cells #[c0, c1, c2, c3, c4] t (0, 0))) : (((((w.setCell ⟨g, 0, none⟩ v0).setCell ⟨g, 1, none⟩ v1).setCell ⟨g, 2, none⟩ v2).setCell ⟨g, 3, none⟩ v3).setCell ⟨g, 4, none⟩ v4).heap[g]? = some (.cells #[v0, v1, v2, v3, v4] t (0, 0)) := (blk_put (cs := #[v0, v1, v2, v3, c4]) (blk_put (cs := #[v0, v1, v2, c3, c4]) (blk_put (cs := #[v0, v1, c2, c3, c4]) (blk_put (cs := #[v0, c1, c2, c3, c4]) (blk_put (cs := #[c0, c1, c2, c3, c4]) h 0 v0 rfl) 1 v1 rfl) 2 v2 rfl) 3 v3 rfl) 4 v4 rfl)
set_option maxRecDepth 100000 in
theorem put9 {w : World} {g : Nat} {t : TypeId} {c0 c1 c2 c3 c4 c5 c6 c7 c8 v0 v1 v2 v3 v4 v5 v6 v7 v8 : Value} (h : w.heap[g]? = some (.cells #[c0, c1, c2, c3, c4, c5, c6, c7, c8] t (0, 0))) : (((((((((w.setCell ⟨g, 0, none⟩ v0).setCell ⟨g, 1, none⟩ v1).setCell ⟨g, 2, none⟩ v2).setCell ⟨g, 3, none⟩ v3).setCell ⟨g, 4, none⟩ v4).setCell ⟨g, 5, none⟩ v5).setCell ⟨g, 6, none⟩ v6).setCell ⟨g, 7, none⟩ v7).setCell ⟨g, 8, none⟩ v8).heap[g]? = some (.cells #[v0, v1, v2, v3, v4, v5, v6, v7, v8] t (0, 0)) := (blk_put (cs := #[v0, v1, v2, v3, v4, v5, v6, v7, c8]) (blk_put (cs := #[v0, v1, v2, v3, v4, v5, v6, c7, c8]) (blk_put (cs := #[v0, v1, v2, v3, v4, v5, c6, c7, c8]) (blk_put (cs := #[v0, v1, v2, v3, v4, c5, c6, c7, c8]) (blk_put (cs := #[v0, v1, v2, v3, c4, c5, c6, c7, c8]) (blk_put (cs := #[v0, v1, v2, c3, c4, c5, c6, c7, c8]) (blk_put (cs := #[v0, v1, c2, c3, c4, c5, c6, c7, c8]) (blk_put (cs := #[v0, c1, c2, c3, c4, c5, c6, c7, c8]) (blk_put (cs := #[c0, c1, c2, c3, c4, c5, c6, c7, c8]) h 0 v0 rfl) 1 v1 rfl) 2 v2 rfl) 3 v3 rfl) 4 v4 rfl) 5 v5 rfl) 6 v6 rfl) 7 v7 rfl) 8 v8 rfl)
set_option maxRecDepth 100000 in
theorem put13 {w : World} {g : Nat} {t : TypeId} {c0 c1 c2 c3 c4 c5 c6 c7 c8 c9 c10 c11 c12 v0 v1 v2 v3 v4 v5 v6 v7 v8 v9 v10 v11 v12 : Value} (h : w.heap[g]? = some (.cells #[c0, c1, c2, c3, c4, c5, c6, c7, c8, c9, c10, c11, c12] t (0, 0))) : (((((((((((((w.setCell ⟨g, 0, none⟩ v0).setCell ⟨g, 1, none⟩ v1).setCell ⟨g, 2, none⟩ v2).setCell ⟨g, 3, none⟩ v3).setCell ⟨g, 4, none⟩ v4).setCell ⟨g, 5, none⟩ v5).setCell ⟨g, 6, none⟩ v6).setCell ⟨g, 7, none⟩ v7).setCell ⟨g, 8, none⟩ v8).setCell ⟨g, 9, none⟩ v9).setCell ⟨g, 10, none⟩ v10).setCell ⟨g, 11, none⟩ v11).setCell ⟨g, 12, none⟩ v12).heap[g]? = some (.cells #[v0, v1, v2, v3, v4, v5, v6, v7, v8, v9, v10, v11, v12] t (0, 0)) := (blk_put (cs := #[v0, v1, v2, v3, v4, v5, v6, v7, v8, v9, v10, v11, c12]) (blk_put (cs := #[v0, v1, v2, v3, v4, v5, v6, v7, v8, v9, v10, c11, c12]) (blk_put (cs := #[v0, v1, v2, v3, v4, v5, v6, v7, v8, v9, c10, c11, c12]) (blk_put (cs := #[v0, v1, v2, v3, v4, v5, v6, v7, v8, c9, c10, c11, c12]) (blk_put (cs := #[v0, v1, v2, v3, v4, v5, v6, v7, c8, c9, c10, c11, c12]) (blk_put (cs := #[v0, v1, v2, v3, v4, v5, v6, c7, c8, c9, c10, c11, c12]) (blk_put (cs := #[v0, v1, v2, v3, v4, v5, c6, c7, c8, c9, c10, c11, c12]) (blk_put (cs := #[v0, v1, v2, v3, v4, c5, c6, c7, c8, c9, c10, c11, c12]) (blk_put (cs := #[v0, v1, v2, v3, c4, c5, c6, c7, c8, c9, c10, c11, c12]) (blk_put (cs := #[v0, v1, v2, c3, c4, c5, c6, c7, c8, c9, c10, c11, c12]) (blk_put (cs := #[v0, v1, c2, c3, c4, c5, c6, c7, c8, c9, c10, c11, c12]) (blk_put (cs := #[v0, c1, c2, c3, c4, c5, c6, c7, c8, c9, c10, c11, c12]) (blk_put (cs := #[c0, c1, c2, c3, c4, c5, c6, c7, c8, c9, c10, c11, c12]) h 0 v0 rfl) 1 v1 rfl) 2 v2 rfl) 3 v3 rfl) 4 v4 rfl) 5 v5 rfl) 6 v6 rfl) 7 v7 rfl) 8 v8 rfl) 9 v9 rfl) 10 v10 rfl) 11 v11 rfl) 12 v12 rfl)
end Go.Proofs.Ytndbchcfjajgbaa.XP
