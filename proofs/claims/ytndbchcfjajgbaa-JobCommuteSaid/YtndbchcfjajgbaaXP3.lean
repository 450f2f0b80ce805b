-- printed by xprint.py
import Derived.Test.YtndbchcfjajgbaaXB
import Derived.Test.YtndbchcfjajgbaaXP0
namespace Go.Proofs.Ytndbchcfjajgbaa.XP
open Go.Proofs.Ytndbchcfjajgbaa.XB Go.Proofs.Ytndbchcfjajgbaa.XQ
open Go.Proofs.Ytndbchcfjajgbaa.XW
open Go.RowKit Go.Proofs.YtndbchcfjajgbaaW.PrintWords Go.Proofs.YtndbchcfjajgbaaW.PrintLast Go.Proofs.YtndbchcfjajgbaaW.PrintMore
attribute [local go_sem] max2_int min2_int max_two min_two max_three min_three max_four min_four   -- for this text's walks alone
set_option linter.unusedVariables false
set_option linter.unusedSimpArgs false

theorem eqA81 (d : Nat) (w : World) (x0 y0 : ByteArray) (x1 y1 : ByteArray) (x2 y2 : ByteArray) (x3 y3 : Int) (x4 y4 : Int) :
    (Op.equalIn (d + 2) 81 (.agg #[.string x0, .string x1, .string x2, .int .i64 x3, .int .i64 x4]) (.agg #[.string y0, .string y1, .string y2, .int .i64 y3, .int .i64 y4])).run Try.prog w = .ok (x0.toList == y0.toList && (x1.toList == y1.toList && (x2.toList == y2.toList && (x3 == y3 && (x4 == y4))))) w := by
  refine eqA_of Try.underlying81 t_8e ?_
  refine eqf_cons (by rfl) t_8c t_8c (by go_simp) ?_
  refine eqf_cons (by rfl) t_8c t_8c (by go_simp) ?_
  refine eqf_cons (by rfl) t_8c t_8c (by go_simp) ?_
  refine eqf_cons (by rfl) t_8c t_8c (by go_simp) ?_
  exact eqf_last (by rfl) t_8c t_8c (by go_simp)
end Go.Proofs.Ytndbchcfjajgbaa.XP
