/- Typed forms of the functions that these statements reach, proved equal to what the model runs, and laws over them. -/
import Derived.Test.YtbfinmemoemakaaGreatRfD
import Derived.Laws.BitsLemmas
namespace Go.Rf
theorem Q9z (n:Int):IntKind.i64.wrap n=(n+9223372036854775808) % 18446744073709551616 - 9223372036854775808:=IntKind.wrap_i64 n
theorem Q5U {a b:Int} (h: -9223372036854775808<=a+b/\a+b < 9223372036854775808):Q2 .i64 a b=a+b:=by simp only [Q2,Q9z];omega
theorem QaJ {a b:Int} (h: -9223372036854775808<=a - b/\a - b < 9223372036854775808):Q1e .i64 a b=a - b:=by simp only [Q1e,Q9z];omega
theorem Q7M {a b:Int} (h: -9223372036854775808<=a*b/\a*b < 9223372036854775808):Q2A .i64 a b=a*b:=by simp only [Q2A,Q9z];omega
theorem Q3T {α ρ:Type} (x:α) (f:ρ) (k:α->ρ):Q0 (some x) f k=k x:=by simp only [Q0]
end Go.Rf
