/- Typed forms of the functions that these statements reach, proved equal to what the model runs, and laws over them. -/
import Derived.Test.YtgnabnhggaondabGreatRfD
import Derived.Laws.BitsLemmas
namespace Go.Rf
theorem Q90 (n:Int):IntKind.i64.wrap n=(n+9223372036854775808) % 18446744073709551616 - 9223372036854775808:=IntKind.wrap_i64 n
theorem Q1g {a b:Int} (h: -9223372036854775808<=a+b/\a+b < 9223372036854775808):Q4 .i64 a b=a+b:=by simp only [Q4,Q90];omega
theorem Q5g {a b:Int} (h: -9223372036854775808<=a - b/\a - b < 9223372036854775808):Q1K .i64 a b=a - b:=by simp only [Q1K,Q90];omega
theorem Q9h {a b:Int} (h: -9223372036854775808<=a*b/\a*b < 9223372036854775808):Q3u .i64 a b=a*b:=by simp only [Q3u,Q90];omega
theorem Qq {α ρ:Type} (x:α) (f:ρ) (k:α->ρ):Q0 (some x) f k=k x:=by simp only [Q0]
end Go.Rf
