/- Typed forms of the functions that these statements reach, proved equal to what the model runs, and laws over them. -/
import Derived.Test.YteejfnagilnkjaaS10
import Derived.Test.YteejfnagilnkjaaAr3
namespace Go.Proofs.Yteejfnagilnkjaa
open Go.Rf
set_option linter.unusedVariables false
set_option linter.unusedSimpArgs false
theorem awake_true : law10_awake = some ((true, ()), (), ()) := by kernel_rfl
theorem law10_ConfLimits.law : law10_ConfLimits = some ((true, ()), (), ()) := by kernel_rfl

end Go.Proofs.Yteejfnagilnkjaa
