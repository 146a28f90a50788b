/- Typed forms of the functions that these statements reach, proved equal to what the model runs, and laws over them. -/
import Derived.Test.YtgnabnhggaondaaGreatRfD
import Derived.Laws.BitsLemmas
namespace Go.Rf
theorem Q7C (n:Int):IntKind.i64.wrap n=(n+9223372036854775808) % 18446744073709551616 - 9223372036854775808:=IntKind.wrap_i64 n
theorem Q1i {a b:Int} (h: -9223372036854775808<=a+b/\a+b < 9223372036854775808):Q4 .i64 a b=a+b:=by simp only [Q4,Q7C];omega
theorem Q4V {a b:Int} (h: -9223372036854775808<=a - b/\a - b < 9223372036854775808):Q1s .i64 a b=a - b:=by simp only [Q1s,Q7C];omega
theorem Q8W {a b:Int} (h: -9223372036854775808<=a*b/\a*b < 9223372036854775808):Q3n .i64 a b=a*b:=by simp only [Q3n,Q7C];omega
theorem Q12 {α ρ:Type} (x:α) (f:ρ) (k:α->ρ):Q0 (some x) f k=k x:=by simp only [Q0]
end Go.Rf
