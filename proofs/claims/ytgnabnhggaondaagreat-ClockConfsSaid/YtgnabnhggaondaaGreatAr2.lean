/- Typed forms of the functions that these statements reach, proved equal to what the model runs, and laws over them. -/
import Derived.Test.YtgnabnhggaondaaGreatAr
namespace Go.Rf
theorem ilt_true {a b : Int} (h : a < b) : ilt a b = true := decide_eq_true h
theorem ilt_false {a b : Int} (h : ¬ a < b) : ilt a b = false := decide_eq_false h
theorem ieq_self (a : Int) : ieq a a = true := by simp [ieq]
theorem ine_self (a : Int) : ine a a = false := by simp [ine]
end Go.Rf
