/- The example that every statement checks first. -/
import Derived.Test.YtbgdfikfldkjbaaNH3
namespace Go.Proofs.Ytbgdfikfldkjbaa.AI
set_option linter.unnecessarySimpa false
open Go
set_option linter.unusedVariables false
set_option linter.unusedSimpArgs false
noncomputable def orcK : List (FuncId × (List V → Tree)) := [(11, fun args => argsT args F11), (26, fun args => argsT args F26), (27, shT [some 12] (P12 fun r => truT (r.pt.v && r.dir.v))), (29, s1v), (42, s122 fun r k => resB (moveE r k)), (43, s662 fun d n r => resN (hitsE d n r)), (45, s66 fun d n => resB (reflE d n)), (66, s662 fun d n r => resF (refrE d n r)), (67, s2222 fun p q r s => resT (lightE p q r s)), (69, sh2 mulE), (70, s1s Iv.sgn)]
theorem orcK_ok : OrcOk Try.prog orcK := orc_cons E11 (orc_cons E26 (orc_cons E27 (orc_cons E29 (orc_cons E42 (orc_cons E43 (orc_cons E45 (orc_cons E66 (orc_cons E67 (orc_cons E69 (orc_cons E70 orc_nil))))))))))
noncomputable def fnsK : List (FuncId × Func × List (Nat × LV)) := [(8, Try.f8, []), (22, Try.f22, []), (23, Try.f23, []), (25, Try.f25, []), (44, Try.f44, []), (68, Try.f68, [])]
theorem a8 : ans Try.prog orcK fnsK 9 9 8 [] = some (.u (.c (.bool true)), []) := by kernel_rfl
end Go.Proofs.Ytbgdfikfldkjbaa.AI
