/- '==' of api.Num, api.Vec, api.Ref: printed by xprint.py, kept. -/
import Derived.Test.YtncemdpmooakgaaXK0
namespace Go.Proofs.Ytncemdpmooakgaa.XK
open Go.Proofs.Ytncemdpmooakgaa.XW
open Go.RowKit Go.Proofs.YtncemdpmooakgaaW.PrintWords Go.Proofs.YtncemdpmooakgaaW.PrintLast Go.Proofs.YtncemdpmooakgaaW.PrintMore
attribute [local go_sem] max2_int min2_int max_two min_two max_three min_three max_four min_four   -- for this text's walks alone
set_option linter.unusedVariables false
set_option linter.unusedSimpArgs false

theorem eqA41 (d : Nat) (w : World) (x0 y0 : Bool) (x1 y1 : ByteArray) :
    (Op.equalIn (d + 2) 41 (.agg #[.bool x0, .string x1]) (.agg #[.bool y0, .string y1])).run Try.prog w = .ok (x0 == y0 && (x1.toList == y1.toList)) w := by
  refine eqA_of Try.underlying41 (by kernel_rfl) ?_
  refine eqf_cons (by rfl) (by go_simp; rfl) (by go_simp; rfl) (by go_simp) ?_
  exact eqf_last (by rfl) (by go_simp; rfl) (by go_simp; rfl) (by go_simp)
theorem eqA42 (d : Nat) (w : World) (x0 y0 : Bool) (x1 y1 : ByteArray) (x2 y2 : Bool) (x3 y3 : ByteArray) (x4 y4 : Bool) (x5 y5 : ByteArray) (x6 y6 : Bool) (x7 y7 : ByteArray) :
    (Op.equalIn (d + 3) 42 (.agg #[.bool x0, .string x1, .bool x2, .string x3, .bool x4, .string x5, .bool x6, .string x7]) (.agg #[.bool y0, .string y1, .bool y2, .string y3, .bool y4, .string y5, .bool y6, .string y7])).run Try.prog w = .ok ((x0 == y0 && (x1.toList == y1.toList)) && ((x2 == y2 && (x3.toList == y3.toList)) && ((x4 == y4 && (x5.toList == y5.toList)) && ((x6 == y6 && (x7.toList == y7.toList)))))) w := by
  refine eqArr_of (c := 2) Try.underlying42 (by kernel_rfl) (by kernel_rfl) ?_
  rw [show List.range 4 = [0, 1, 2, 3] from rfl]
  refine eqi_cons (by go_simp) (by go_simp) (eqA41 (d + 0) w _ _ _ _) ?_
  refine eqi_cons (by go_simp) (by go_simp) (eqA41 (d + 0) w _ _ _ _) ?_
  refine eqi_cons (by go_simp) (by go_simp) (eqA41 (d + 0) w _ _ _ _) ?_
  exact eqi_last (by go_simp) (by go_simp) (eqA41 (d + 0) w _ _ _ _)
theorem eqA44 (d : Nat) (w : World) (x0 y0 : Bool) (x1 y1 : ByteArray) (x2 y2 : Bool) (x3 y3 : ByteArray) (x4 y4 : Bool) (x5 y5 : ByteArray) (x6 y6 : Bool) (x7 y7 : ByteArray) (x8 y8 : Bool) (x9 y9 : ByteArray) :
    (Op.equalIn (d + 4) 44 (.agg #[.bool x0, .string x1, .bool x2, .string x3, .bool x4, .string x5, .bool x6, .string x7, .bool x8, .string x9]) (.agg #[.bool y0, .string y1, .bool y2, .string y3, .bool y4, .string y5, .bool y6, .string y7, .bool y8, .string y9])).run Try.prog w = .ok (((x0 == y0 && (x1.toList == y1.toList)) && ((x2 == y2 && (x3.toList == y3.toList)) && ((x4 == y4 && (x5.toList == y5.toList)) && ((x6 == y6 && (x7.toList == y7.toList)))))) && ((x8 == y8 && (x9.toList == y9.toList)))) w := by
  refine eqA_of Try.underlying44 (by kernel_rfl) ?_
  refine eqf_cons (by rfl) (by go_simp) (by go_simp) (eqA42 (d + 0) w _ _ _ _ _ _ _ _ _ _ _ _ _ _ _ _) ?_
  exact eqf_last (by rfl) (by go_simp) (by go_simp) (eqA41 (d + 1) w _ _ _ _)

theorem eqA46 (d : Nat) (w : World) (x0 y0 : Bool) (x1 y1 : ByteArray) (x2 y2 : Bool) (x3 y3 : ByteArray) (x4 y4 : Bool) (x5 y5 : ByteArray) (x6 y6 : Bool) (x7 y7 : ByteArray) (x8 y8 : Bool) (x9 y9 : ByteArray) (x10 y10 : Bool) (x11 y11 : ByteArray) (x12 y12 : Bool) (x13 y13 : ByteArray) (x14 y14 : Bool) (x15 y15 : ByteArray) (x16 y16 : Bool) (x17 y17 : ByteArray) (x18 y18 : Bool) (x19 y19 : ByteArray) (x20 y20 : Bool) (x21 y21 : ByteArray) (x22 y22 : Bool) (x23 y23 : ByteArray) (x24 y24 : Bool) (x25 y25 : ByteArray) (x26 y26 : Bool) (x27 y27 : ByteArray) (x28 y28 : Bool) (x29 y29 : ByteArray) :
    (Op.equalIn (d + 5) 46 (.agg #[.bool x0, .string x1, .bool x2, .string x3, .bool x4, .string x5, .bool x6, .string x7, .bool x8, .string x9, .bool x10, .string x11, .bool x12, .string x13, .bool x14, .string x15, .bool x16, .string x17, .bool x18, .string x19, .bool x20, .string x21, .bool x22, .string x23, .bool x24, .string x25, .bool x26, .string x27, .bool x28, .string x29]) (.agg #[.bool y0, .string y1, .bool y2, .string y3, .bool y4, .string y5, .bool y6, .string y7, .bool y8, .string y9, .bool y10, .string y11, .bool y12, .string y13, .bool y14, .string y15, .bool y16, .string y17, .bool y18, .string y19, .bool y20, .string y21, .bool y22, .string y23, .bool y24, .string y25, .bool y26, .string y27, .bool y28, .string y29])).run Try.prog w = .ok ((((x0 == y0 && (x1.toList == y1.toList)) && ((x2 == y2 && (x3.toList == y3.toList)) && ((x4 == y4 && (x5.toList == y5.toList)) && ((x6 == y6 && (x7.toList == y7.toList)))))) && ((x8 == y8 && (x9.toList == y9.toList)))) && ((((x10 == y10 && (x11.toList == y11.toList)) && ((x12 == y12 && (x13.toList == y13.toList)) && ((x14 == y14 && (x15.toList == y15.toList)) && ((x16 == y16 && (x17.toList == y17.toList)))))) && ((x18 == y18 && (x19.toList == y19.toList)))) && ((((x20 == y20 && (x21.toList == y21.toList)) && ((x22 == y22 && (x23.toList == y23.toList)) && ((x24 == y24 && (x25.toList == y25.toList)) && ((x26 == y26 && (x27.toList == y27.toList)))))) && ((x28 == y28 && (x29.toList == y29.toList))))))) w := by
  refine eqA_of Try.underlying46 (by kernel_rfl) ?_
  refine eqf_cons (by rfl) (by go_simp) (by go_simp) (eqA44 (d + 0) w _ _ _ _ _ _ _ _ _ _ _ _ _ _ _ _ _ _ _ _) ?_
  refine eqf_cons (by rfl) (by go_simp) (by go_simp) (eqA44 (d + 0) w _ _ _ _ _ _ _ _ _ _ _ _ _ _ _ _ _ _ _ _) ?_
  exact eqf_last (by rfl) (by go_simp) (by go_simp) (eqA44 (d + 0) w _ _ _ _ _ _ _ _ _ _ _ _ _ _ _ _ _ _ _ _)

theorem eqA64 (d : Nat) (w : World) (x0 y0 : ByteArray) (x1 y1 : Int) :
    (Op.equalIn (d + 2) 64 (.agg #[.string x0, .int .i64 x1]) (.agg #[.string y0, .int .i64 y1])).run Try.prog w = .ok (x0.toList == y0.toList && (x1 == y1)) w := by
  refine eqA_of Try.underlying64 (by kernel_rfl) ?_
  refine eqf_cons (by rfl) (by go_simp; rfl) (by go_simp; rfl) (by go_simp) ?_
  exact eqf_last (by rfl) (by go_simp; rfl) (by go_simp; rfl) (by go_simp)
end Go.Proofs.Ytncemdpmooakgaa.XK
