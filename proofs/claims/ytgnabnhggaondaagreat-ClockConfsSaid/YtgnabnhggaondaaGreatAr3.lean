/- Typed forms of the functions that these statements reach, proved equal to what the model runs, and laws over them. -/
import Derived.Test.YtgnabnhggaondaaGreatAr2
namespace Go.Rf
end Go.Rf
