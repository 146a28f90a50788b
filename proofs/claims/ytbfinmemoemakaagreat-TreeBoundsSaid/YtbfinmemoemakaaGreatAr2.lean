/- Typed forms of the functions that these statements reach, proved equal to what the model runs, and laws over them. -/
import Derived.Test.YtbfinmemoemakaaGreatAr
namespace Go.Rf
theorem Q9R {a b:Int} (h:a < b):ilt a b=true:=decide_eq_true h
theorem Q9H {a b:Int} (h:¬a < b):ilt a b=false:=decide_eq_false h
theorem Q7g {a b:Int} (h:a<=b):ile a b=true:=decide_eq_true h
theorem Q9Q {a b:Int} (h:¬a=b):ine a b=true:=by simp [ine,h]
theorem Q9T (a:Int):ine a a=false:=by simp [ine]
theorem Q98 (v n:Int) (hn:0 < n):(v.tmod n < 0->v.tmod n+n=v % n)/\(¬v.tmod n < 0->v.tmod n=v % n):=by
 have h2:=Int.emod_nonneg v (Int.ne_of_gt hn)
 have h3:=Int.emod_lt_of_pos v hn
 have h4:v.tmod n=if 0<=v\/v % n=0 then v % n else v % n - n:=by
  rw [Int.tmod_eq_emod]
  by_cases h0:0<=v
  ·simp [h0]
  ·by_cases hd:n∣v
   ·have:=Int.emod_eq_zero_of_dvd hd
    simp [h0,hd,this]
   ·have:v % n≠0:=λh=>hd (Int.dvd_of_emod_eq_zero h)
    simp [h0,hd,this]
    omega
 split at h4 <;> constructor <;> intro h <;> omega
end Go.Rf
