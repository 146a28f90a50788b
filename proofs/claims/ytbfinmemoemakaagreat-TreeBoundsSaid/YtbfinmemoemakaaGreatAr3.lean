/- Typed forms of the functions that these statements reach, proved equal to what the model runs, and laws over them. -/
import Derived.Test.YtbfinmemoemakaaGreatAr2
namespace Go.Rf
theorem Qal {α β:Type} {step:α->Option (α⊕β)} (St:Nat->α) {b:β}:∀(n m:Nat),n < m->(∀i,i < n->step (St i)=some (.inl (St (i+1))))->step (St n)=some (.inr b)->Z8 m step (St 0)=some b:=by
 intro n
 induction n generalizing St with
 |zero=>
  intro m hm _ h0
  cases m with
  |zero=>omega
  |succ m=>unfold Z8;rw [h0]
 |succ n ih=>
  intro m hm hs h0
  cases m with
  |zero=>omega
  |succ m=>
   unfold Z8
   rw [hs 0 (by omega)]
   exact ih (λi=>St (i+1)) m (by omega) (λi hi=>hs (i+1) (by omega)) h0
theorem Q8Q {a b:Nat}:ilt (a:Int) (b:Int)=decide (a < b):=by unfold ilt;simp
theorem Q7R {a n:Nat}:inR (a:Int) n=decide (a < n):=by unfold inR;simp
theorem iinc {i:Nat} (h:i < 4611686018427387904):Q2 .i64 (i:Int) 1=((i+1:Nat):Int):=by rw [Q5U (by omega)];omega
theorem Qae {α:Type} {l:List α} {i:Nat} {d:α} (h:i < l.length):l.getD i d=l[i]:=by simp [List.getD,h]
theorem Q6d {n b:Nat} (h:n*b<=140737488355328):room n b=true:=Nat.ble_eq_true_of_le h
end Go.Rf
