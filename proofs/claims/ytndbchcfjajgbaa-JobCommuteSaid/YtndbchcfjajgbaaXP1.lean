/- Two texts, laid into one by mkclaim.py. -/
import Derived.Test.YtndbchcfjajgbaaXB
import Derived.Test.YtndbchcfjajgbaaXP0
section
-- printed by xprint.py
namespace Go.Proofs.Ytndbchcfjajgbaa.XP
open Go.Proofs.Ytndbchcfjajgbaa.XB Go.Proofs.Ytndbchcfjajgbaa.XQ
open Go.Proofs.Ytndbchcfjajgbaa.XW
open Go.RowKit Go.Proofs.YtndbchcfjajgbaaW.PrintWords Go.Proofs.YtndbchcfjajgbaaW.PrintLast Go.Proofs.YtndbchcfjajgbaaW.PrintMore
attribute [local go_sem] max2_int min2_int max_two min_two max_three min_three max_four min_four   -- for this text's walks alone
set_option linter.unusedVariables false
set_option linter.unusedSimpArgs false

theorem eqA24 (d : Nat) (w : World) (x0 y0 : ByteArray) (x1 y1 : ByteArray) (x2 y2 : Int) (x3 y3 : Int) :
    (Op.equalIn (d + 2) 24 (.agg #[.string x0, .string x1, .int .i64 x2, .int .i64 x3]) (.agg #[.string y0, .string y1, .int .i64 y2, .int .i64 y3])).run Try.prog w = .ok (x0.toList == y0.toList && (x1.toList == y1.toList && (x2 == y2 && (x3 == y3)))) w := by
  refine eqA_of Try.underlying24 t_8e ?_
  refine eqf_cons (by rfl) t_8c t_8c (by go_simp) ?_
  refine eqf_cons (by rfl) t_8c t_8c (by go_simp) ?_
  refine eqf_cons (by rfl) t_8c t_8c (by go_simp) ?_
  exact eqf_last (by rfl) t_8c t_8c (by go_simp)
end Go.Proofs.Ytndbchcfjajgbaa.XP
end
section
-- printed by xprint.py
namespace Go.Proofs.Ytndbchcfjajgbaa.XP
open Go.Proofs.Ytndbchcfjajgbaa.XB Go.Proofs.Ytndbchcfjajgbaa.XQ
open Go.Proofs.Ytndbchcfjajgbaa.XW
open Go.RowKit Go.Proofs.YtndbchcfjajgbaaW.PrintWords Go.Proofs.YtndbchcfjajgbaaW.PrintLast Go.Proofs.YtndbchcfjajgbaaW.PrintMore
attribute [local go_sem] max2_int min2_int max_two min_two max_three min_three max_four min_four   -- for this text's walks alone
set_option linter.unusedVariables false
set_option linter.unusedSimpArgs false

theorem eqA34 (d : Nat) (w : World) (x0 y0 : Int) (x1 y1 : ByteArray) (x2 y2 : ByteArray) (x3 y3 : Int) (x4 y4 : Int) (x5 y5 : ByteArray) (x6 y6 : ByteArray) (x7 y7 : Int) (x8 y8 : Int) :
    (Op.equalIn (d + 3) 34 (.agg #[.int .i64 x0, .string x1, .string x2, .int .i64 x3, .int .i64 x4, .string x5, .string x6, .int .i64 x7, .int .i64 x8]) (.agg #[.int .i64 y0, .string y1, .string y2, .int .i64 y3, .int .i64 y4, .string y5, .string y6, .int .i64 y7, .int .i64 y8])).run Try.prog w = .ok (x0 == y0 && ((x1.toList == y1.toList && (x2.toList == y2.toList && (x3 == y3 && (x4 == y4)))) && (x5.toList == y5.toList && (x6.toList == y6.toList && (x7 == y7 && (x8 == y8)))))) w := by
  refine eqA_of Try.underlying34 t_8e ?_
  refine eqf_cons (by rfl) t_8c t_8c (by go_simp) ?_
  refine eqf_cons (by rfl) (by go_simp) (by go_simp) (eqA24 (d + 0) w _ _ _ _ _ _ _ _) ?_
  refine eqf_cons (by rfl) t_8c t_8c (by go_simp) ?_
  refine eqf_cons (by rfl) t_8c t_8c (by go_simp) ?_
  refine eqf_cons (by rfl) t_8c t_8c (by go_simp) ?_
  exact eqf_last (by rfl) t_8c t_8c (by go_simp)
end Go.Proofs.Ytndbchcfjajgbaa.XP
end
