-- printed by xprint.py
import Derived.Test.YtndbchcfjajgbaaXB
import Derived.Test.YtndbchcfjajgbaaXP0
import Derived.Test.YtndbchcfjajgbaaXP1
import Derived.Test.YtndbchcfjajgbaaXP3
namespace Go.Proofs.Ytndbchcfjajgbaa.XP
open Go.Proofs.Ytndbchcfjajgbaa.XB Go.Proofs.Ytndbchcfjajgbaa.XQ
open Go.Proofs.Ytndbchcfjajgbaa.XW
open Go.RowKit Go.Proofs.YtndbchcfjajgbaaW.PrintWords Go.Proofs.YtndbchcfjajgbaaW.PrintLast Go.Proofs.YtndbchcfjajgbaaW.PrintMore
attribute [local go_sem] max2_int min2_int max_two min_two max_three min_three max_four min_four   -- for this text's walks alone
set_option linter.unusedVariables false
set_option linter.unusedSimpArgs false

theorem eqA99 (d : Nat) (w : World) (x0 y0 : ByteArray) (x1 y1 : ByteArray) (x2 y2 : ByteArray) (x3 y3 : Int) (x4 y4 : Int) (x5 y5 : Int) (x6 y6 : Int) (x7 y7 : Int) (x8 y8 : Int) (x9 y9 : ByteArray) (x10 y10 : ByteArray) (x11 y11 : Int) (x12 y12 : Int) :
    (Op.equalIn (d + 3) 99 (.agg #[.string x0, .string x1, .string x2, .int .i64 x3, .int .i64 x4, .int .i64 x5, .int .i64 x6, .int .i64 x7, .int .i64 x8, .string x9, .string x10, .int .i64 x11, .int .i64 x12]) (.agg #[.string y0, .string y1, .string y2, .int .i64 y3, .int .i64 y4, .int .i64 y5, .int .i64 y6, .int .i64 y7, .int .i64 y8, .string y9, .string y10, .int .i64 y11, .int .i64 y12])).run Try.prog w = .ok ((x0.toList == y0.toList && (x1.toList == y1.toList && (x2.toList == y2.toList && (x3 == y3 && (x4 == y4))))) && (x5 == y5 && (x6 == y6 && (x7 == y7 && (x8 == y8 && ((x9.toList == y9.toList && (x10.toList == y10.toList && (x11 == y11 && (x12 == y12)))))))))) w := by
  refine eqA_of Try.underlying99 t_8e ?_
  refine eqf_cons (by rfl) (by go_simp) (by go_simp) (eqA81 (d + 0) w _ _ _ _ _ _ _ _ _ _) ?_
  refine eqf_cons (by rfl) t_8c t_8c (by go_simp) ?_
  refine eqf_cons (by rfl) t_8c t_8c (by go_simp) ?_
  refine eqf_cons (by rfl) t_8c t_8c (by go_simp) ?_
  refine eqf_cons (by rfl) t_8c t_8c (by go_simp) ?_
  exact eqf_last (by rfl) (by go_simp) (by go_simp) (eqA24 (d + 0) w _ _ _ _ _ _ _ _)
end Go.Proofs.Ytndbchcfjajgbaa.XP
