/- Typed forms of the functions that these statements reach, proved equal to what the model runs, and laws over them. -/
import Derived.Test.YtgnabnhggaondaaGreatRfD
import Derived.Laws.BitsLemmas
namespace Go.Rf
theorem oelim_some {α ρ : Type} (x : α) (f : ρ) (k : α → ρ) : oelim (some x) f k = k x := by simp only [oelim]
end Go.Rf
