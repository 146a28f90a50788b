/- Typed forms of the functions that these statements reach, proved equal to what the model runs, and laws over them. -/
import Derived.Test.YtgnabnhggaondaaGreatRfD
import Derived.Laws.BitsLemmas
namespace Go.Rf
theorem Q7B (n:Int):IntKind.i64.wrap n=(n+9223372036854775808) % 18446744073709551616 - 9223372036854775808:=IntKind.wrap_i64 n
theorem Q1i {a b:Int} (h: -9223372036854775808<=a+b/\a+b < 9223372036854775808):Q4 .i64 a b=a+b:=by simp only [Q4,Q7B];omega
theorem Q4Y {a b:Int} (h: -9223372036854775808<=a - b/\a - b < 9223372036854775808):Q1s .i64 a b=a - b:=by simp only [Q1s,Q7B];omega
theorem Q9i {a b:Int} (h: -9223372036854775808<=a*b/\a*b < 9223372036854775808):Q3l .i64 a b=a*b:=by simp only [Q3l,Q7B];omega
theorem Q12 {α ρ:Type} (x:α) (f:ρ) (k:α->ρ):Q0 (some x) f k=k x:=by simp only [Q0]
end Go.Rf
