/- Typed forms of the functions that these statements reach, proved equal to what the model runs, and laws over them. -/
import Derived.Test.YtgnabnhggaondabGreatS
import Derived.Test.YtgnabnhggaondabGreatAr3
import Derived.KernelRfl
namespace Go.Proofs.YtgnabnhggaondabGreat
open Go.Rf
set_option linter.unusedVariables false
set_option linter.unusedSimpArgs false
set_option maxRecDepth 100000
def Q5x (x lo hi:Int):Option (Bool×Unit):=bif ilt x lo then some (true,()) else some (ilt hi x,())
def inB (x lo hi:Int):Bool:=decide (lo<=x) && decide (x<=hi)
theorem Qbq (x lo hi:Int):Q5x x lo hi=some (!inB x lo hi,()):=by
 unfold Q5x inB
 by_cases h1:x < lo
 ·rw [Q78 h1];simp [show ¬lo<=x by omega]
 ·rw [Q4J h1]
  by_cases h2:hi < x
  ·rw [Q78 h2];simp [show ¬x<=hi by omega]
  ·rw [Q4J h2];simp [show lo<=x by omega,show x<=hi by omega]
theorem Qdk {x lo hi:Int}:inB x lo hi=true↔lo<=x/\x<=hi:=by simp [inB]
def Q8V (q:Qy):Bool:=inB q.Q1M 0 255 && inB q.Q1r 0 255 && inB q.Q1B 0 65535
theorem Q8B (q:Qy):Q2k q=some ((Q8V q,()),(),()):=by
 unfold Q2k Q2k.gen Q8V inB ile
 cases decide (0<=q.Q1M) <;> cases decide (q.Q1M<=255) <;> cases decide (0<=q.Q1r) <;> cases decide (q.Q1r<=255) <;> cases decide (0<=q.Q1B) <;> rfl
noncomputable def Qbw (c:Q8):Option (((Int)×Unit)×(Unit)×(Unit)):=
 (Q0 (Q5x c.Qv 1 8) none λr=>(bif r.1 then some ((15,()),(),()) else (Q0 (Q5x c.Q1v 0 127) none λr=>(bif r.1 then some ((15,()),(),()) else (Q0 (Q5x c.Q17 0 255) none λr=>(bif r.1 then some ((15,()),(),()) else (Q0 (Q5x c.Q18 0 255) none λr=>(bif r.1 then some ((15,()),(),()) else (Q0 (Q5x c.Q3z (-3) 4) none λr=>(bif r.1 then some ((15,()),(),()) else (Q0 (Q5x c.Q2G (-3) 4) none λr=>(bif r.1 then some ((15,()),(),()) else (Q0 (Q5x c.Q2E (-3) 4) none λr=>(bif r.1 then some ((15,()),(),()) else (Q0 (Q5x c.Q3b 2 10) none λr=>(bif r.1 then some ((15,()),(),()) else (Q0 (Q5x c.Q3M 1 15) none λr=>(bif r.1 then some ((15,()),(),()) else (Q0 (Q5x c.fKp 0 2000) none λr=>(bif r.1 then some ((15,()),(),()) else (Q0 (Q5x c.fKi 0 2000) none λr=>(bif r.1 then some ((15,()),(),()) else (Q0 (Q5x c.Q55 0 1000000000) none λr=>(bif r.1 then some ((15,()),(),()) else (Q0 (Q5x c.Q1b.Q37 (-32768) 32767) none λr=>(bif r.1 then some ((15,()),(),()) else (Q0 (Q5x c.Q1b.Q1W 0 63) none λr=>(bif r.1 then some ((15,()),(),()) else (Q0 (Q5x c.Q1b.Q1N 0 255) none λr=>(bif r.1 then some ((15,()),(),()) else (Q0 (bif ieq c.QF 0 then some (true,()) else (bif ieq c.QF 18446744073709551615 then some (true,()) else (Q0 (Q2k c.Qu) none λr15=>some (!r15.1.1,())))) none λr16=>(bif r16.1 then some ((15,()),(),()) else (Q0 (bif c.Q25 then (bif ilt 1 c.Qv then some (true,()) else some (ine c.Qu.Q1M 255,())) else some (false,())) none λr17=>(bif r17.1 then some ((15,()),(),()) else some ((0,()),(),())))))))))))))))))))))))))))))))))))
theorem QdE (c:Q8):K59 c=Qbw c:=by kernel_rfl
def Q9P (c:Q8):Bool:=inB c.Qv 1 8 && inB c.Q1v 0 127 && inB c.Q17 0 255 && inB c.Q18 0 255 && inB c.Q3z (-3) 4 && inB c.Q2G (-3) 4 && inB c.Q2E (-3) 4 && inB c.Q3b 2 10 && inB c.Q3M 1 15 && inB c.fKp 0 2000 && inB c.fKi 0 2000 && inB c.Q55 0 1000000000 && inB c.Q1b.Q37 (-32768) 32767 && inB c.Q1b.Q1W 0 63 && inB c.Q1b.Q1N 0 255
def okC (c:Q8):Bool:=Q9P c && Q8V c.Qu && c.QF !=0 && c.QF !=18446744073709551615 && (!c.Q25||(c.Qv==1 && c.Qu.Q1M==255))
theorem Q9E (c:Q8):K59 c=some ((if okC c then 0 else 15,()),(),()):=by
 rw [QdE]
 unfold Qbw okC Q9P
 simp only [Qbq,Qq,Q8B]
 cases h0:inB c.Qv 1 8
 ·simp
 simp only [Bool.not_true,cond_false,Bool.true_and,Bool.and_true]
 cases h1:inB c.Q1v 0 127
 ·simp
 simp only [Bool.not_true,cond_false,Bool.true_and,Bool.and_true]
 cases h2:inB c.Q17 0 255
 ·simp
 simp only [Bool.not_true,cond_false,Bool.true_and,Bool.and_true]
 cases h3:inB c.Q18 0 255
 ·simp
 simp only [Bool.not_true,cond_false,Bool.true_and,Bool.and_true]
 cases h4:inB c.Q3z (-3) 4
 ·simp
 simp only [Bool.not_true,cond_false,Bool.true_and,Bool.and_true]
 cases h5:inB c.Q2G (-3) 4
 ·simp
 simp only [Bool.not_true,cond_false,Bool.true_and,Bool.and_true]
 cases h6:inB c.Q2E (-3) 4
 ·simp
 simp only [Bool.not_true,cond_false,Bool.true_and,Bool.and_true]
 cases h7:inB c.Q3b 2 10
 ·simp
 simp only [Bool.not_true,cond_false,Bool.true_and,Bool.and_true]
 cases h8:inB c.Q3M 1 15
 ·simp
 simp only [Bool.not_true,cond_false,Bool.true_and,Bool.and_true]
 cases h9:inB c.fKp 0 2000
 ·simp
 simp only [Bool.not_true,cond_false,Bool.true_and,Bool.and_true]
 cases h10:inB c.fKi 0 2000
 ·simp
 simp only [Bool.not_true,cond_false,Bool.true_and,Bool.and_true]
 cases h11:inB c.Q55 0 1000000000
 ·simp
 simp only [Bool.not_true,cond_false,Bool.true_and,Bool.and_true]
 cases h12:inB c.Q1b.Q37 (-32768) 32767
 ·simp
 simp only [Bool.not_true,cond_false,Bool.true_and,Bool.and_true]
 cases h13:inB c.Q1b.Q1W 0 63
 ·simp
 simp only [Bool.not_true,cond_false,Bool.true_and,Bool.and_true]
 cases h14:inB c.Q1b.Q1N 0 255
 ·simp
 simp only [Bool.not_true,cond_false,Bool.true_and,Bool.and_true]
 cases hq:Q8V c.Qu
 ·by_cases e1:c.QF=0
  ·simp [ieq,e1,Qq]
  ·by_cases e2:c.QF=18446744073709551615
   ·simp [ieq,e2,Qq]
   ·simp [ieq,e1,e2,Qq]
 by_cases e1:c.QF=0
 ·simp [ieq,e1,Qq]
 by_cases e2:c.QF=18446744073709551615
 ·simp [ieq,e2,Qq]
 have hp:=Qdk.1 h0
 have f1:(c.QF==0)=false:=by simpa using e1
 have f2:(c.QF==18446744073709551615)=false:=by simpa using e2
 cases hs:c.Q25
 ·simp [ieq,f1,f2,e1,e2,Qq]
 by_cases e3:c.Qv=1
 ·by_cases e4:c.Qu.Q1M=255
  ·simp [ieq,ine,ilt,f1,f2,e1,e2,e3,e4,Qq]
  ·have f4:(c.Qu.Q1M==255)=false:=by simpa using e4
   have g4:(c.Qu.Q1M !=255)=true:=by simpa using e4
   simp [ieq,ine,ilt,f1,f2,e1,e2,e3,e4,f4,g4,Qq]
 ·have:ilt 1 c.Qv=true:=Q78 (by omega)
  simp [ieq,f1,f2,e1,e2,e3,this,Qq]
def Tot {α:Type} (x:Option α) (Q:α->Prop):Prop:=∃a,x=some a/\Q a
theorem Q2 {α:Type} {a:α} {Q:α->Prop} (h:Q a):Tot (some a) Q:=⟨a,rfl,h⟩
theorem Q7M {α:Type} {x:Option α} {P Q:α->Prop} (h:Tot x P) (hq:∀a,P a->Q a):Tot x Q:=let ⟨a,h1,h2⟩:=h;⟨a,h1,hq a h2⟩
theorem Q3 {α β:Type} {x:Option α} {k:α->Option β} {Q:β->Prop} (P:α->Prop) (h:Tot x P) (hk:∀a,P a->Tot (k a) Q):Tot (Q0 x none k) Q:=by
 obtain ⟨a,rfl,h2⟩:=h
 exact hk a h2
theorem Qa {α:Type} {b:Bool} {x y:Option α} {Q:α->Prop} (h:b=true->Tot x Q) (h2:b=false->Tot y Q):Tot (bif b then x else y) Q:=by
 cases b with
 |true=>exact h rfl
 |false=>exact h2 rfl
theorem QR {α:Type} {b:Bool} {x:Option α} {Q:α->Prop} (hb:b=true) (h:Tot x Q):Tot (bif b then x else none) Q:=by subst hb;exact h
theorem Q2l {α β γ:Type} {x:α⊕β} {f:α->Option γ} {g:β->Option γ} {Q:γ->Prop} (h:∀a,x= .inl a->Tot (f a) Q) (h2:∀b,x= .inr b->Tot (g b) Q):Tot (Q3S x f g) Q:=by
 cases x with
 |inl a=>exact h a rfl
 |inr b=>exact h2 b rfl
theorem Q22 {α β:Type} {step:α->Option (α⊕β)} (I:α->Prop) (m:α->Nat) {Q:β->Prop} (h:∀a,I a->Tot (step a) (λr=>match r with| .inl a'=>I a'/\m a' < m a| .inr b=>Q b)):∀(N:Nat) (a:α),I a->m a < N->Tot (Z8 N step a) Q
 |0,a,_,hm=>absurd hm (Nat.not_lt_zero _)
 |N+1,a,ha,hm=>by
  obtain ⟨r,hs,hr⟩:=h a ha
  unfold Z8
  rw [hs]
  cases r with
  |inl a'=>exact Q22 I m h N a' hr.1 (by have:=hr.2;omega)
  |inr b=>exact ⟨b,rfl,hr⟩
class End {α:Type} (x:Option α):Prop where
 out:Tot x (λ_=>True)
theorem Q2m {a b:Int} (h:ilt a b=true):a < b:=by unfold ilt at h;simpa using h
theorem Q3s {a b:Int} (h:ilt a b=false):¬a < b:=by unfold ilt at h;simpa using h
theorem Q54 {a b:Int} (h:ile a b=true):a<=b:=by unfold ile at h;simpa using h
theorem QcM {a b:Int} (h:ile a b=false):¬a<=b:=by unfold ile at h;simpa using h
theorem Q33 {a b:Int} {c:Nat} (h0:0<=a) (h1:a<=b) (h2:b<=(c:Int)):le3 a b c=true:=by
 unfold le3
 rw [Q53 h0,Q53 h1,Q53 h2];rfl
abbrev Q4m (b:List UInt8):Prop:=b.length<=1000000000000
theorem Qam (b:List UInt8) (at' n:Int) (hb:Q4m b):Tot (Q3c b at' n) (λr=>r.1.1=false->0<=n/\0<=at'/\at'+n<=(b.length:Int)):=by
 unfold Q3c Q3c.gen
 refine Qa (λh1=>Q2 (λh=>by cases h)) (λh1=>Qa (λh2=>Q2 (λh=>by cases h)) (λh2=>Qa (λh3=>Q2 (λh=>by cases h)) (λh3=>Q2 (λh=>?_))))
 have h1:=Q3s h1
 have h2:=Q3s h2
 have h3:=Q3s h3
 have h4:=Q3s h
 unfold ofN at h3 h4
 rw [Q5g (by omega)] at h4
 omega
theorem QbY (b:List UInt8) (hb:Q4m b) (h8:b.length<=1000):Tot (Q1i b) (λr=>True):=by
 unfold Q1i Q1i.gen
 refine Q3 (λ_=>True) ?_ (λr _=>Q2 trivial)
 unfold Q1i.F0
 refine Q22 (λa=>a.1.2.1=b/\a.1.2.2.1=(b.length:Int)/\0<=a.1.2.2.2.1) (λa=>((b.length:Int) - a.1.2.2.2.1).toNat) (λa ⟨h1,h2,h3⟩=>?_) _ _ ⟨rfl,rfl,Int.le_refl 0⟩ (by simp only [];omega)
 unfold Q1i.QO
 refine Qa (λh=>?_) (λh=>Q2 trivial)
 have h:=Q2m h
 refine QR ?_ (Q2 ?_)
 ·rw [h1]
  unfold inR
  simp;omega
 ·simp only []
  rw [Q1g (by omega)]
  exact ⟨⟨h1,h2,by omega⟩,by omega⟩
theorem QaT {b:List UInt8} {at' n:Int} (h0:0<=at') (h1:0<=n) (h2:at'+n<=(b.length:Int)) (hb:Q4m b):le3 at' (Q4 .i64 at' n) b.length=true/\(List.drop (Int.toNat at') (List.take (Int.toNat (Q4 .i64 at' n)) b)).length=n.toNat:=by
 have e:Q4 .i64 at' n=at'+n:=Q1g (by omega)
 rw [e]
 refine ⟨Q33 h0 (by omega) h2,?_⟩
 rw [List.length_drop,List.length_take]
 omega
theorem Q4E (b:List UInt8) (at' n:Int) (hb:Q4m b):Tot (Q1p b at' n) (λr=>True):=by
 unfold Q1p Q1p.gen
 refine Q3 (λr=>r.1=false->1<=n/\n<=7/\0<=at'/\at'+n<=(b.length:Int)) ?_ (λr hr=>Qa (λ_=>Q2 trivial) (λh=>?_))
 ·refine Qa (λ_=>Q2 λh=>by cases h) (λh1=>Qa (λ_=>Q2 λh=>by cases h) (λh2=>Q3 _ (Qam b at' n hb) (λr hr=>Q2 λh=>?_)))
  have:=hr h
  have h1:=Q3s h1
  have h2:=Q3s h2
  omega
 ·obtain ⟨h1,h2,h3,h4⟩:=hr h
  obtain ⟨h5,h6⟩:=QaT h3 (by omega) h4 hb
  refine QR h5 (Q3 _ (QbY _ (by unfold Q4m;omega) (by omega)) (λ_ _=>Q2 trivial))
theorem Q8i (b:List UInt8) (at' n:Int) (hb:Q4m b):Tot (Q2t b at' n) (λr=>True):=by
 unfold Q2t Q2t.gen
 refine Q3 (λr=>r.1=false->1<=n/\n<=8/\0<=at'/\at'+n<=(b.length:Int)) ?_ (λr hr=>Qa (λ_=>Q2 trivial) (λh=>?_))
 ·refine Qa (λ_=>Q2 λh=>by cases h) (λh1=>Qa (λ_=>Q2 λh=>by cases h) (λh2=>Q3 _ (Qam b at' n hb) (λr hr=>Q2 λh=>?_)))
  have:=hr h
  have h1:=Q3s h1
  have h2:=Q3s h2
  omega
 ·obtain ⟨h1,h2,h3,h4⟩:=hr h
  obtain ⟨h5,h6⟩:=QaT h3 (by omega) h4 hb
  have e:ile 0 (Q1K .i64 64 (Q3u .i64 8 n))=true:=by
   rw [Q9h (by omega),Q5g (by omega)]
   exact Q53 (by omega)
  exact QR h5 (Q3 _ (QbY _ (by unfold Q4m;omega) (by omega)) (λ_ _=>QR e (QR e (Q2 trivial))))
theorem Q7Y (b:List UInt8) (at':Int) (hb:Q4m b):Tot (Q2c b at') (λr=>True):=by
 unfold Q2c Q2c.gen
 exact Q3 _ (Q8i b at' 8 hb) (λ_ _=>Q2 trivial)
theorem QbO (b:List UInt8) (v n:Int) (hb:b.length<=100000000):Tot (QG b v n) (λr=>r.1.1.length<=b.length+8/\b.length<=r.1.1.length):=by
 have hcut:0<=Z4 true 0 (Z4 false n 8)/\Z4 true 0 (Z4 false n 8)<=8:=by
  simp only [Z4,cond_true,cond_false,Q9s,imax]
  split <;> split <;> omega
 unfold QG QG.gen
 generalize Z4 true 0 (Z4 false n 8)=k at hcut
 have hle:le3 (ofN 0) (ofN b.length) b.length=true:=Q33 (by unfold ofN;omega) (by unfold ofN;omega) (by unfold ofN;omega)
 rw [hle,Q52]
 simp only [cond_true]
 have hdt:List.drop (Int.toNat (ofN 0)) (List.take (Int.toNat (ofN b.length)) b)=b:=by
  unfold ofN
  simp
 rw [hdt]
 refine Qa (λh=>?_) (λ_=>Q2 ⟨Nat.le_add_right _ _,Nat.le_refl _⟩)
 have h:=Q2m h
 have e1:Q1K .i64 k 1=k - 1:=Q5g (by omega)
 have e2:Q3u .i64 8 (k - 1)=8*(k - 1):=Q9h (by omega)
 rw [e1,e2]
 refine QR (Q53 (by omega)) (QR (Q2W (by simp only [List.length_cons];show (b.length+((Qn UInt8).length+1))*1<=_;simp only [Qn,List.length_nil];omega)) (Q3 (λr=>r.1.1.length<=b.length+8/\b.length<=r.1.1.length) ?_ (λr hr=>Q2 hr)))
 unfold QG.F0
 refine Q22 (λa=>0<=a.1.2.2.1/\a.1.2.2.1<=7/\(a.1.1.length:Int)+a.1.2.2.1<=b.length+8/\b.length<=a.1.1.length) (λa=>a.1.2.2.1.toNat) (λa ⟨h1,h2,h3,h4⟩=>?_) _ _ ⟨by simp only [];omega,by simp only [];omega,by simp only [List.length_append,List.length_cons,Qn,List.length_nil];omega,by simp only [List.length_append];omega⟩ (by simp only [];omega)
 unfold QG.QO
 refine Qa (λh=>?_) (λ_=>Q2 ⟨by simp only [];omega,h4⟩)
 have h:=Q2m h
 have e1:Q1K .i64 a.1.2.2.1 1=a.1.2.2.1 - 1:=Q5g (by omega)
 have e2:Q3u .i64 8 (a.1.2.2.1 - 1)=8*(a.1.2.2.1 - 1):=Q9h (by omega)
 rw [e1,e2]
 refine QR (Q53 (by omega)) (QR (Q2W (by simp only [List.length_cons,Qn,List.length_nil];omega)) (Q2 ?_))
 refine ⟨⟨by simp only [];omega,by simp only [];omega,by simp only [List.length_append,List.length_cons,Qn,List.length_nil];omega,by simp only [List.length_append];omega⟩,by simp only [];omega⟩
instance {α:Type} (a:α):End (some a):=⟨Q2 trivial⟩
instance {α:Type} (b:Bool) (x y:Option α) [End x] [End y]:End (bif b then x else y):=⟨Qa (λ_=>End.out) (λ_=>End.out)⟩
instance {α β:Type} (x:Option α) (k:α->Option β) [h:End x] [h2:∀a,End (k a)]:End (Q0 x none k):=⟨Q3 _ h.out λa _=>(h2 a).out⟩
instance {α β γ:Type} (x:α⊕β) (f:α->Option γ) (g:β->Option γ) [h:∀a,End (f a)] [h2:∀a,End (g a)]:End (Q3S x f g):=⟨Q2l (λa _=>(h a).out) (λa _=>(h2 a).out)⟩
theorem ee {α:Type} {x:Option α} [h:End x]:Tot x (λ_=>True):=h.out
instance (clock:Int):End (K60 clock):=by unfold K60 K60.gen;infer_instance
instance (q:Qy):End (Q2k q):=by unfold Q2k Q2k.gen;infer_instance
instance (c:Q8):End (K59 c):=⟨by
 unfold K59 K59.gen
 repeat' first
  |exact Q2 trivial
  |refine Qa (λ_=>?_) (λ_=>?_)
  |refine Q2l (λ_ _=>?_) (λ_ _=>?_)
  |refine Q3 _ (ee (x:=Q2k _)) (λ_ _=>?_)
  |exact ee
  |refine Q3 (λ_=>True) ?_ (λ_ _=>?_)⟩
instance (c:Q8):End (Q1E c):=by unfold Q1E Q1E.gen;infer_instance
instance (kp:Int) (ki:Int) (step:Int) (g5:Fm Qp):End (Q3i kp ki step g5):=by unfold Q3i Q3i.gen;infer_instance
instance (n:Int) (g9:Fm Qh):End (Q3o n g9):=by unfold Q3o Q3o.gen;infer_instance
instance (n:Int) (h0:Q1):End (K38 n h0):=by unfold K38 K38.gen;infer_instance
instance (own:Int) (port:Int) (window:Int) (g6:Fm Qb):End (K69 own port window g6):=by unfold K69 K69.gen;infer_instance
instance (g10:Fm QB):End (Q3j g10):=by unfold Q3j Q3j.gen;infer_instance
instance (self:Qf) (domain:Int) (g7:Fm Qg):End (K68 self domain g7):=by unfold K68 K68.gen;infer_instance
instance (self:Qf) (domain:Int) (g8:Fm Qc):End (Q3l self domain g8):=by unfold Q3l Q3l.gen;infer_instance
instance (state:Int):End (Q1T state):=by unfold Q1T Q1T.gen;infer_instance
instance (state:Int):End (Q2q state):=by unfold Q2q Q2q.gen;infer_instance
instance (state:Int) (event:Int) (slaveOnly:Bool):End (Q20 state event slaveOnly):=⟨by
 unfold Q20 Q20.gen
 repeat' first
  |exact Q2 trivial
  |refine Qa (λ_=>?_) (λ_=>?_)
  |refine Q2l (λ_ _=>?_) (λ_ _=>?_)
  |refine Q3 _ (ee (x:=Q2k _)) (λ_ _=>?_)
  |exact ee
  |refine Q3 (λ_=>True) ?_ (λ_ _=>?_)⟩
instance (n:Int) (h0:QT):End (Q23 n h0):=by unfold Q23 Q23.gen;infer_instance
instance (state:Int):End (Q1j state):=by unfold Q1j Q1j.gen;infer_instance
instance (at_1:Int) (now:Int) (h0:Qb):End (K76 at_1 now h0):=by unfold K76 K76.gen;infer_instance
instance (h0:QT):End (Q2O h0):=by unfold Q2O Q2O.gen;infer_instance
instance (h0:Qb):End (K72 h0):=by unfold K72 K72.gen;infer_instance
instance (h0:QT):End (Q2J h0):=by unfold Q2J Q2J.gen;infer_instance
instance (p:Nat) (h0:Q1):End (K28 p h0):=by unfold K28 K28.gen;infer_instance
instance (x_0:Int):End (K52 x_0):=by unfold K52 K52.gen;infer_instance
instance (x_0:Int) (y:Int):End (K49 x_0 y):=by unfold K49 K49.gen;infer_instance
instance (x_0:Int):End (K53 x_0):=by unfold K53 K53.gen;infer_instance
instance (x_0:Int) (y:Int):End (K50 x_0 y):=by unfold K50 K50.gen;infer_instance
instance (c:Q8):End (K57 c):=by unfold K57 K57.gen;infer_instance
instance (v:Qj) (t:Q1d):End (Q2K v t):=by unfold Q2K Q2K.gen;infer_instance
instance (state:Int) (decision:Int) (same:Bool) (slaveOnly:Bool):End (Q2x state decision same slaveOnly):=by unfold Q2x Q2x.gen;infer_instance
instance (h0:QB):End (Q28 h0):=by unfold Q28 Q28.gen;infer_instance
instance (h0:Qg):End (K64 h0):=by unfold K64 K64.gen;infer_instance
instance (h0:Qh):End (Q1Z h0):=by unfold Q1Z Q1Z.gen;infer_instance
instance (c:Q8) (p:QY) (port:Int) (seq:Int):End (Q4u c p port seq):=by unfold Q4u Q4u.gen;infer_instance
instance (typ:Int):End (K82 typ):=by unfold K82 K82.gen;infer_instance
instance (v:Int) (least:Int) (most:Int):End (K85 v least most):=by unfold K85 K85.gen;infer_instance
instance (p:Qf):End (K88 p):=by unfold K88 K88.gen;infer_instance
instance (m:Q9):End (K80 m):=⟨by
 unfold K80 K80.gen
 repeat' first
  |exact Q2 trivial
  |refine Qa (λ_=>?_) (λ_=>?_)
  |refine Q2l (λ_ _=>?_) (λ_ _=>?_)
  |refine Q3 _ (ee (x:=Q2k _)) (λ_ _=>?_)
  |exact ee
  |refine Q3 (λ_=>True) ?_ (λ_ _=>?_)⟩
instance (typ:Int):End (K6 typ):=by unfold K6 K6.gen;infer_instance
instance (typ:Int):End (K7 typ):=by unfold K7 K7.gen;infer_instance
instance (m:Q9):End (K5 m):=by unfold K5 K5.gen;infer_instance
instance (t:Int):End (Q1O t):=by unfold Q1O Q1O.gen;infer_instance
instance (v:Int) (least:Int) (most:Int):End (K4 v least most):=by unfold K4 K4.gen;infer_instance
instance (m:Q9):End (K0 m):=⟨by
 unfold K0 K0.gen
 repeat' first
  |exact Q2 trivial
  |refine Qa (λ_=>?_) (λ_=>?_)
  |refine Q2l (λ_ _=>?_) (λ_ _=>?_)
  |refine Q3 _ (ee (x:=Q2k _)) (λ_ _=>?_)
  |exact ee
  |refine Q3 (λ_=>True) ?_ (λ_ _=>?_)⟩
instance (v:Int) (least:Int) (most:Int):End (Q2F v least most):=by unfold Q2F Q2F.gen;infer_instance
instance (t:Qi):End (Q2U t):=by unfold Q2U Q2U.gen;infer_instance
instance (typ:Int):End (K84 typ):=by unfold K84 K84.gen;infer_instance
instance (seq:Int):End (Q4v seq):=by unfold Q4v Q4v.gen;infer_instance
instance (h0:Qc):End (Q26 h0):=by unfold Q26 Q26.gen;infer_instance
instance (seq:Int) (h0:Qc):End (Q3W seq h0):=by unfold Q3W Q3W.gen;infer_instance
instance (seq:Int) (a_2:Int) (h0:Qg):End (K65 seq a_2 h0):=by unfold K65 K65.gen;infer_instance
instance (b:List (UInt8)) (at_1:Int) (n:Int):End (Q3c b at_1 n):=by unfold Q3c Q3c.gen;infer_instance
instance (typ:Int):End (K2 typ):=by unfold K2 K2.gen;infer_instance
instance (n:Int) (h0:Q1):End (K33 n h0):=by unfold K33 K33.gen;infer_instance
instance (t:Qi):End (Q2u t):=by unfold Q2u Q2u.gen;infer_instance
instance (corr:Int):End (Q2n corr):=by unfold Q2n Q2n.gen;infer_instance
instance (m:Q9):End (Q3y m):=by unfold Q3y Q3y.gen;infer_instance
instance (a:Int) (b:Int):End (Q3m a b):=by unfold Q3m Q3m.gen;infer_instance
instance (sync:Q9) (follow:Q9) (at_3:Int) (h0:QB):End (Q2R sync follow at_3 h0):=by unfold Q2R Q2R.gen;infer_instance
instance (x_1:Q9) (at_2:Int) (h0:QB):End (Q2N x_1 at_2 h0):=by unfold Q2N Q2N.gen;infer_instance
instance (x_1:Q9) (h0:QB):End (Q3t x_1 h0):=by unfold Q3t Q3t.gen;infer_instance
instance (h0:Qp):End (Q2V h0):=by unfold Q2V Q2V.gen;infer_instance
instance (v:Int) (most:Int):End (Q4q v most):=by unfold Q4q Q4q.gen;infer_instance
instance (m:Q9) (self:Qf) (at_2:Int) (log:Int):End (K63 m self at_2 log):=by unfold K63 K63.gen;infer_instance
instance (m:Q9) (h0:Qg):End (K66 m h0):=by unfold K66 K66.gen;infer_instance
instance (a:Int) (b:Int):End (Q3N a b):=by unfold Q3N Q3N.gen;infer_instance
instance (x_0:Nat):End (Q4i x_0):=by unfold Q4i Q4i.gen;infer_instance
instance (m:Q9) (self:Qf) (at_2:Int):End (Q3V m self at_2):=by unfold Q3V Q3V.gen;infer_instance
instance (m:Q9) (typ:Int) (h0:Qc):End (Q3C m typ h0):=by unfold Q3C Q3C.gen;infer_instance
instance (m:Q9) (at_2:Int) (h0:Qc):End (Q34 m at_2 h0):=by unfold Q34 Q34.gen;infer_instance
instance (m:Q9) (h0:Qc):End (Q35 m h0):=by unfold Q35 Q35.gen;infer_instance
instance (id:Int):End (Q3d id):=by unfold Q3d Q3d.gen;infer_instance
instance (target:Qf) (port:Qf):End (K89 target port):=by unfold K89 K89.gen;infer_instance
instance (id:Int):End (Q4w id):=by unfold Q4w Q4w.gen;infer_instance
instance (id:Int):End (Q49 id):=by unfold Q49 Q49.gen;infer_instance
instance (id:Int):End (Q4p id):=by unfold Q4p Q4p.gen;infer_instance
instance (id:Int):End (Q40 id):=by unfold Q40 Q40.gen;infer_instance
instance (v:Int):End (Q4x v):=by unfold Q4x Q4x.gen;infer_instance
instance (seq:Int) (at_2:Int) (h0:Qg):End (K67 seq at_2 h0):=by unfold K67 K67.gen;infer_instance
instance (seq:Int) (at_2:Int) (h0:Qc):End (Q4s seq at_2 h0):=by unfold Q4s Q4s.gen;infer_instance
instance (m:Q9) (self:Qf) (at_2:Int):End (Q41 m self at_2):=by unfold Q41 Q41.gen;infer_instance
instance (clock:Int):End (Q4r clock):=by unfold Q4r Q4r.gen;infer_instance
instance (x_0:QD):End (Q1S x_0):=by unfold Q1S Q1S.gen;infer_instance
instance (h0:Q1):End (K8 h0):=by unfold K8 K8.gen;infer_instance
instance (v:Int) (from_1:Int) (to_2:Int):End (Q3f v from_1 to_2):=by unfold Q3f Q3f.gen;infer_instance
instance (q:Qy):End (Q3B q):=by unfold Q3B Q3B.gen;infer_instance
instance (c:Q8):End (Q2o c):=⟨by
 unfold Q2o Q2o.gen
 repeat' first
  |exact Q2 trivial
  |refine Qa (λ_=>?_) (λ_=>?_)
  |refine Q2l (λ_ _=>?_) (λ_ _=>?_)
  |refine Q3 _ (ee (x:=Q2k _)) (λ_ _=>?_)
  |exact ee
  |refine Q3 (λ_=>True) ?_ (λ_ _=>?_)⟩
instance (h0:Q1):End (K10 h0):=by unfold K10 K10.gen;infer_instance
instance (h0:Q1):End (K9 h0):=by unfold K9 K9.gen;infer_instance
instance (h0:Q1):End (K13 h0):=by unfold K13 K13.gen;infer_instance
instance (h0:Q1):End (K14 h0):=by unfold K14 K14.gen;infer_instance
instance (h0:Q1):End (K18 h0):=by unfold K18 K18.gen;infer_instance
theorem may_e (t:Int):Tot (Q1O t) (λ_=>True):=by
 unfold Q1O Q1O.gen
 repeat' first
  |exact Q2 trivial
  |refine Qa (λ_=>?_) (λ_=>?_)
  |refine Q3 (λ_=>True) ?_ (λ_ _=>?_)
theorem Qed (b:List UInt8) (a:Int) (hb:Q4m b):Tot (Q43 b a) (λ_=>True):=by
 unfold Q43 Q43.gen
 repeat' first
  |exact Q2 trivial
  |refine Qa (λ_=>?_) (λ_=>?_)
  |refine Q3 _ (Q4E _ _ _ hb) (λ_ _=>?_)
  |refine Q3 _ (may_e _) (λ_ _=>?_)
  |refine Q3 (λ_=>True) ?_ (λ_ _=>?_)
theorem Qa6 (b:List UInt8) (a:Int) (hb:Q4m b):Tot (K87 b a) (λ_=>True):=by
 unfold K87 K87.gen
 repeat' first
  |exact Q2 trivial
  |refine Qa (λ_=>?_) (λ_=>?_)
  |refine Q3 _ (Q4E _ _ _ hb) (λ_ _=>?_)
  |refine Q3 _ (Q7Y _ _ hb) (λ_ _=>?_)
  |refine Q3 (λ_=>True) ?_ (λ_ _=>?_)
theorem QbZ (b:List UInt8) (a:Int) (hb:Q4m b):Tot (Q3Y b a) (λ_=>True):=by
 unfold Q3Y Q3Y.gen
 repeat' first
  |exact Q2 trivial
  |refine Qa (λ_=>?_) (λ_=>?_)
  |refine Q3 _ (Q4E _ _ _ hb) (λ_ _=>?_)
  |refine Q3 (λ_=>True) ?_ (λ_ _=>?_)
theorem QdB (t:Int):Tot (K82 t) (λ_=>True):=by
 unfold K82 K82.gen
 repeat' first
  |exact Q2 trivial
  |refine Qa (λ_=>?_) (λ_=>?_)
  |refine Q3 (λ_=>True) ?_ (λ_ _=>?_)
theorem QcL (a b c:Int):Tot (K85 a b c) (λ_=>True):=by
 unfold K85 K85.gen
 repeat' first
  |exact Q2 trivial
  |refine Qa (λ_=>?_) (λ_=>?_)
  |refine Q3 (λ_=>True) ?_ (λ_ _=>?_)
theorem Q9p {k:Nat} {b:List UInt8} (h:ilt (ofN b.length) 34=false) (hk:k < 34):inR (k:Int) b.length=true:=by
 have:=Q3s h
 unfold ofN at this
 unfold inR
 simp;omega
theorem Q1C {i:Int} {n:Nat} (h0:0<=i) (h1:i < (n:Int)):inR i n=true:=by unfold inR;simp;omega
theorem Q77 (l:List Int) (hl:l.length<=1000):Tot (K51 l) (λr=>∀P:Int->Prop,P 0->(∀x∈l,P x)->P r.1.1):=by
 unfold K51 K51.gen
 refine Q3 (λr=>match r with| .inl b=>∀P:Int->Prop,P 0->(∀x∈l,P x)->P b.1.1| .inr b=>∀P:Int->Prop,P 0->(∀x∈l,P x)->P b.1.1) ?_ (λr hr=>Q2l (λb hb=>Q2 (by subst hb;exact hr)) (λb hb=>Q2 (by subst hb;exact hr)))
 unfold K51.F0
 refine Q22 (λa=>a.1.1=0/\a.1.2.1=l/\a.1.2.2.1=(l.length:Int)/\0<=a.1.2.2.2.1) (λa=>((l.length:Int) - a.1.2.2.2.1).toNat) (λa ⟨h1,h2,h3,h4⟩=>?_) _ _ ⟨rfl,rfl,rfl,Int.le_refl 0⟩ (by simp only [];omega)
 unfold K51.QO
 refine Qa (λh=>?_) (λh=>Q2 λP p0 _=>by show P a.1.1;rw [h1];exact p0)
 have h:=Q2m h
 rw [h2]
 refine QR (Q1C h4 (by omega)) (Qa (λ_=>Q2 λP _ hP=>?_) (λ_=>Q2 ?_))
 ·have hlt:a.1.2.2.2.1.toNat < l.length:=by omega
  show P (l.getD a.1.2.2.2.1.toNat 0)
  rw [Q9j hlt]
  exact hP _ (List.getElem_mem hlt)
 ·show (a.1.1=0/\l=l/\a.1.2.2.1=(l.length:Int)/\0<=Q4 .i64 a.1.2.2.2.1 1)/\((l.length:Int) - Q4 .i64 a.1.2.2.2.1 1).toNat < ((l.length:Int) - a.1.2.2.2.1).toNat
  rw [Q1g (by omega)]
  exact ⟨⟨h1,rfl,h3,by omega⟩,by omega⟩
abbrev Sgn (x:Int):Prop:= -1<=x/\x<=1
theorem Q7t (a b:Int):Tot (K49 a b) (λr=>Sgn r.1.1):=by
 unfold K49 K49.gen
 repeat' first
  |exact Q2 ⟨by decide,by decide⟩
  |refine Qa (λ_=>?_) (λ_=>?_)
  |refine Q3 _ ee (λ_ _=>?_)
  |refine Q3 (λ_=>True) ?_ (λ_ _=>?_)
  |exact Q2 trivial
theorem Qbv (a b:Int):Tot (K50 a b) (λr=>Sgn r.1.1):=by
 unfold K50 K50.gen
 repeat' first
  |exact Q2 ⟨by decide,by decide⟩
  |refine Qa (λ_=>?_) (λ_=>?_)
  |refine Q3 _ ee (λ_ _=>?_)
  |refine Q3 (λ_=>True) ?_ (λ_ _=>?_)
  |exact Q2 trivial
theorem Qel (a b:Qy):Tot (Q38 a b) (λr=>Sgn r.1.1):=by
 unfold Q38 Q38.gen
 refine Q3 _ (Q7t _ _) (λr0 h0=>Q3 _ (Q7t _ _) (λr1 h1=>Q3 _ (Q7t _ _) (λr2 h2=>Q3 _ (Q77 _ (by simp [Qn])) (λr3 h3=>Q2 ?_))))
 refine h3 Sgn ⟨by decide,by decide⟩ λx hx=>?_
 simp only [Qn,List.mem_cons,List.not_mem_nil,or_false] at hx
 rcases hx with rfl|rfl|rfl <;> assumption
theorem Qcb (a b:Qf):Tot (K86 a b) (λr=>Sgn r.1.1):=by
 unfold K86 K86.gen
 refine Qa (λ_=>Q2 ⟨by decide,by decide⟩) (λ_=>Q3 _ (Qbv _ _) (λr0 h0=>Q3 _ (Q7t _ _) (λr1 h1=>Q3 _ (Q77 _ (by simp [Qn])) (λr3 h3=>Q2 ?_))))
 refine h3 Sgn ⟨by decide,by decide⟩ λx hx=>?_
 simp only [Qn,List.mem_cons,List.not_mem_nil,or_false] at hx
 rcases hx with rfl|rfl <;> assumption
theorem Qdt (a b:Qj):Tot (K56 a b) (λ_=>True):=by
 unfold K56 K56.gen
 repeat' first
  |exact Q2 trivial
  |refine Qa (λ_=>?_) (λ_=>?_)
  |refine Q3 _ (Q7t _ _) (λ_ _=>?_)
  |refine Q3 _ (Qbv _ _) (λ_ _=>?_)
  |refine Q3 _ (Qel _ _) (λ_ _=>?_)
theorem Qeg (a:Qj):Tot (K58 a) (λ_=>True):=by
 unfold K58 K58.gen
 refine Q3 _ (Qcb _ _) (λr h=>QR ?_ (Q2 trivial))
 rw [Q1g (by have:=h.1;have:=h.2;omega)]
 exact Q1C (by have:=h.1;omega) (by have:=h.2;omega)
theorem Qac (a b:Qj):Tot (K55 a b) (λ_=>True):=by
 unfold K55 K55.gen
 repeat' first
  |exact Q2 trivial
  |refine Qa (λ_=>?_) (λ_=>?_)
  |refine Q3 _ (Qdt _ _) (λ_ _=>?_)
  |refine Q3 _ (Q7t _ _) (λ_ _=>?_)
  |refine Q3 _ (Qeg _) (λ_ _=>?_)
  |refine Q3 _ (Qcb _ _) (λ_ _=>?_)
  |refine Q3 _ (Q77 _ (by simp [Qn])) (λ_ _=>?_)
  |refine Q3 (λ_=>True) ?_ (λ_ _=>?_)
theorem QeD (l:List Qj) (hl:l.length<=1000):Tot (K54 l) (λr=>r.1.1 < (l.length:Int)):=by
 unfold K54 K54.gen
 refine Q3 (λr=>r.1.1 < (l.length:Int)) ?_ (λr hr=>Q2 hr)
 unfold K54.F0
 refine Q22 (λa=>a.1.1=l/\a.1.2.1 < (l.length:Int)/\a.1.2.2.1=l/\a.1.2.2.2.1=(l.length:Int)/\0<=a.1.2.2.2.2.1) (λa=>((l.length:Int) - a.1.2.2.2.2.1).toNat) (λa ⟨h1,h2,h3,h4,h5⟩=>?_) _ _ ⟨rfl,by show (-1:Int) < _;omega,rfl,rfl,Int.le_refl 0⟩ (by simp only [];omega)
 unfold K54.QO
 refine Qa (λh=>?_) (λ_=>Q2 h2)
 have h:=Q2m h
 rw [h1,h3]
 refine QR (Q1C h5 (by omega)) (Q3 (λ_=>True) ?_ (λr1 _=>Q3 (λb=>b.1.1=l/\b.1.2.1 < (l.length:Int)/\b.1.2.2=a.1.2.2) ?_ (λr2 hr2=>Q2 ?_)))
 ·refine Qa (λ_=>Q2 trivial) (λhn=>?_)
  have hn:=Q3s hn
  exact QR (Q1C (by omega) h2) (Q3 _ (Qac _ _) (λ_ _=>Q2 trivial))
 ·refine Qa (λ_=>Q2 ⟨rfl,by show a.1.2.2.2.2.1 < _;omega,by rw [←h3]⟩) (λ_=>Q2 ⟨h1,h2,rfl⟩)
 ·obtain ⟨g1,g2,g3⟩:=hr2
  show (r2.1.1=l/\r2.1.2.1 < (l.length:Int)/\r2.1.2.2.1=l/\r2.1.2.2.2.1=(l.length:Int)/\0<=Q4 .i64 r2.1.2.2.2.2.1 1)/\((l.length:Int) - Q4 .i64 r2.1.2.2.2.2.1 1).toNat < ((l.length:Int) - a.1.2.2.2.2.1).toNat
  rw [g3,Q1g (by omega)]
  exact ⟨⟨g1,g2,h3,h4,by omega⟩,by omega⟩
theorem QcC (d:Qj) (ls:Bool) (b p:Option Qj) (hr:Bool):Tot (K62 d ls b p hr) (λ_=>True):=by
 unfold K62 K62.gen
 cases b <;> cases p <;>
 repeat' first
  |exact Q2 trivial
  |refine Qa (λh=>?_) (λh=>?_)
  |refine Q2l (λ_ _=>?_) (λ_ _=>?_)
  |refine Q3 _ (Qac _ _) (λ_ _=>?_)
  |refine Q3 (λ_=>True) (Q2 trivial) (λ_ _=>?_)
  |(cases h;done)
  |refine Q3 (λ_=>True) ?_ (λ_ _=>?_)
theorem Qc8 (ps:List (Option Qj)) (hp:ps.length<=1000) (a:((List (Bool))×(Int)×(Option (Qj))×(List (Int))×(List (Option (Qj)))×(Int)×(Int)×Unit)×((Qj)×Unit)) (h0:a.1.2.2.2.1= []) (h1:a.1.2.2.2.2.1=ps) (h2:a.1.2.2.2.2.2.1=(ps.length:Int)) (h3:a.1.2.2.2.2.2.2.1=0):
  Tot (K61.F1 a) (λr=>r.1.2.1.length<=ps.length):=by
 unfold K61.F1
 refine Q22 (λa=>a.1.2.2.2.2.1=ps/\a.1.2.2.2.2.2.1=(ps.length:Int)/\0<=a.1.2.2.2.2.2.2.1/\a.1.2.2.2.2.2.2.1<=(ps.length:Int)/\(a.1.2.2.2.1.length:Int)=a.1.2.2.2.2.2.2.1) (λa=>((ps.length:Int) - a.1.2.2.2.2.2.2.1).toNat) (λa ⟨h1,h2,h3,h4,h5⟩=>?_) _ a ⟨h1,h2,by omega,by omega,by rw [h0,h3];rfl⟩ (by omega)
 unfold K61.Q2A
 refine Qa (λh=>?_) (λ_=>Q2 ?_)
 ·have h:=Q2m h
  rw [h1]
  refine QR (Q1C h3 (by omega)) (Q3 (λb=>∃x,b=((a.1.1,(a.1.2.1,(a.1.2.2.1,(a.1.2.2.2.1++x::Qn Int,a.1.2.2.2.2)))),a.2)) ?_ (λr hr=>Q2 ?_))
  ·have hroom:∀x:Int,room (a.1.2.2.2.1.length+(x::Qn Int).length) 8=true:=λx=>Q2W (by simp only [List.length_cons,Qn,List.length_nil];omega)
   refine Qa (λh'=>?_) (λh'=>?_)
   ·have h':=Q2m h'
    unfold ofN at h'
    exact QR (Q1C h3 h') (Q3 _ (QcC _ _ _ _ _) (λr _=>QR (hroom _) (Q2 ⟨_,rfl⟩)))
   ·exact Q3 _ (QcC _ _ _ _ _) (λr _=>QR (hroom _) (Q2 ⟨_,rfl⟩))
  ·obtain ⟨x,rfl⟩:=hr
   have e:Q4 .i64 a.1.2.2.2.2.2.2.1 1=a.1.2.2.2.2.2.2.1+1:=Q1g (by omega)
   simp only [e,List.length_append,List.length_cons,Qn,List.length_nil]
   exact ⟨⟨h1,h2,by omega,by omega,by omega⟩,by omega⟩
 ·show a.1.2.2.2.1.length<=ps.length
  omega
theorem Qe6 (ps:List (Option Qj)) (hp:ps.length<=1000) (a:((List (Bool))×(List (Option (Qj)))×(Int)×(Int)×(Option (Qj))×(List (Int))×Unit)×((Qj)×Unit)) (h0:a.1.2.2.2.2.2.1= []) (h1:a.1.2.1=ps) (h2:0<=a.1.2.2.2.1):
  Tot (K61.F0 a) (λr=>r.1.1.length<=ps.length):=by
 unfold K61.F0
 refine Q22 (λa=>a.1.2.1=ps/\a.1.2.2.2.2.2.1= []/\0<=a.1.2.2.2.1) (λa=>((ps.length:Int) - a.1.2.2.2.1).toNat) (λa ⟨h1,h2,h3⟩=>?_) _ a ⟨h1,h0,h2⟩ (by omega)
 unfold K61.QO
 rw [h1]
 refine Qa (λh=>?_) (λ_=>?_)
 ·have h:=Q2m h
  unfold ofN at h
  refine QR (Q1C h3 h) (Q3 (λ_=>True) ?_ (λr3 _=>Q3 (λb=>b.1.2.1=ps/\b.1.2.2.2.1=a.1.2.2.2.1/\b.1.2.2.2.2.2.1= []) ?_ (λr4 hr=>Q2 ?_)))
  ·cases hg:List.getD ps (Int.toNat a.1.2.2.2.1) none with
   |none=>exact Q2 trivial
   |some x=>
    simp only [Option.isSome_some,cond_true]
    cases hb:a.1.2.2.2.2.1 with
    |none=>exact Q2 trivial
    |some y=>exact Q3 _ (Qac _ _) (λ_ _=>Q2 trivial)
  ·exact Qa (λ_=>Q2 ⟨rfl,rfl,h2⟩) (λ_=>Q2 ⟨h1,rfl,h2⟩)
  ·obtain ⟨g1,g2,g3⟩:=hr
   show (r4.1.2.1=ps/\r4.1.2.2.2.2.2.1= []/\0<=Q4 .i64 r4.1.2.2.2.1 1)/\((ps.length:Int) - Q4 .i64 r4.1.2.2.2.1 1).toNat < ((ps.length:Int) - a.1.2.2.2.1).toNat
   rw [g2,Q1g (by omega)]
   exact ⟨⟨g1,g3,by omega⟩,by omega⟩
 ·exact Q3 _ (Qc8 ps hp _ h2 rfl rfl rfl) (λr hr=>Q2 hr)
theorem all_t (d:Qj) (ls:List Bool) (ps:List (Option Qj)) (hp:ps.length<=8):Tot (K61 d ls ps) (λr=>r.1.1.length<=ps.length):=by
 have hm:Z4 false (ofN ps.length) 8=(ps.length:Int):=by
  simp only [Z4,cond_false,Q9s,ofN]
  split <;> omega
 unfold K61 K61.gen
 rw [hm]
 have hd:List.drop (Int.toNat (ofN 0)) (List.take (Int.toNat (ps.length:Int)) ps)=ps:=by unfold ofN;simp
 rw [hd]
 refine QR (Q33 (by unfold ofN;omega) (by unfold ofN;omega) (Int.le_refl _)) (Qa (λh=>?_) (λ_=>?_))
 ·have h:=Q2m h
  unfold ofN at h
  refine QR (Q1C (Int.le_refl 0) h) (Q3 (λ_=>True) (Qa (λ_=>Q2 trivial) (λ_=>Q2 trivial)) (λr _=>Q3 (λb=>b.1.2.1=ps/\b.1.2.2.2.1=0/\b.1.2.2.2.2.2.1= []) (Qa (λ_=>Q2 ⟨rfl,rfl,rfl⟩) (λ_=>Q2 ⟨rfl,rfl,rfl⟩)) (λr1 ⟨g1,g2,g3⟩=>Q3 _ (Qe6 ps (by omega) _ g3 g1 ?_) (λr hr=>Q2 hr))))
  show 0<=Q4 .i64 r1.1.2.2.2.1 1
  rw [g2];decide
 ·exact Q3 _ (Qc8 ps (by omega) _ rfl rfl rfl rfl) (λr hr=>Q2 hr)
abbrev Q2H (t:Qb):Prop:=0<=t.fn/\t.fn<=5
theorem age_t (now:Int) (t:Qb) (h:Q2H t):Tot (K70 now t) (λr=>Q2H r.2.1.1):=by
 unfold K70 K70.gen
 refine Q3 (λr=>Q2H r.2.1) ?_ (λr hr=>Q2 hr)
 unfold K70.F0
 refine Q22 (λa=>Q2H a.2.1/\0<=a.1.2.1/\a.1.2.1<=a.2.1.fn) (λa=>(2*a.2.1.fn - a.1.2.1).toNat) (λa ⟨h1,h2,h3⟩=>?_) _ _ ⟨h,Int.le_refl 0,h.1⟩ (by have:=h.1;have:=h.2;simp only [];omega)
 unfold K70.QO
 obtain ⟨n0,n5⟩:=h1
 refine Qa (λhh=>?_) (λ_=>Q2 ⟨n0,n5⟩)
 have hh:=Q2m hh
 refine QR (Q1C h2 (by omega)) (Q3 _ ee (λr _=>Qa (λ_=>Q2 ?_) (λ_=>?_)))
 ·show (Q2H a.2.1/\0<=Q4 .i64 a.1.2.1 1/\Q4 .i64 a.1.2.1 1<=a.2.1.fn)/\(2*a.2.1.fn - Q4 .i64 a.1.2.1 1).toNat < (2*a.2.1.fn - a.1.2.1).toNat
  rw [Q1g (by omega)]
  exact ⟨⟨⟨n0,n5⟩,by omega,by omega⟩,by omega⟩
 ·have e1:Q4 .i64 a.1.2.1 1=a.1.2.1+1:=Q1g (by omega)
  have e2:Q1K .i64 a.2.1.fn 1=a.2.1.fn - 1:=Q5g (by omega)
  rw [e1,e2]
  refine QR (Q33 h2 h3 (by omega)) (QR (Q33 (by omega) (by omega) (by omega)) (QR (Q1C (by omega) (by omega)) (Q2 ?_)))
  refine ⟨⟨⟨by show 0<=a.2.1.fn - 1;omega,by show a.2.1.fn - 1<=5;omega⟩,h2,by show a.1.2.1<=a.2.1.fn - 1;omega⟩,?_⟩
  show (2*(a.2.1.fn - 1) - a.1.2.1).toNat < (2*a.2.1.fn - a.1.2.1).toNat
  omega
theorem QbT (t:Qb) (h:Q2H t):Tot (K75 t) (λr=>r.1.1.length<=5):=by
 unfold K75 K75.gen
 obtain ⟨h0,h1⟩:=h
 refine QR (Q33 (by unfold ofN;omega) (by unfold ofN;omega) (by omega)) (QR (Q2W ?_) (Q2 ?_))
 ·simp only [Qn,List.length_nil,List.length_map,List.length_range,ofN]
  omega
 ·simp only [Qn,List.nil_append,List.length_map,List.length_range,ofN]
  omega
theorem QeK (now:Int) (t:Qb) (h:Q2H t):Tot (K74 now t) (λr=>r.1.1.length<=5):=by
 unfold K74 K74.gen
 obtain ⟨h0,h1⟩:=h
 refine QR (Q33 (by unfold ofN;omega) (by unfold ofN;omega) (by omega)) (Q3 (λr=>r.1.1.length<=5) ?_ (λr hr=>Q2 hr))
 unfold K74.F0
 have hn:Int.toNat t.fn - Int.toNat (ofN 0)=t.fn.toNat:=by unfold ofN;omega
 rw [hn]
 refine Q22 (λa=>(a.1.2.1.length:Int)<=a.1.2.2.2.2.1/\a.1.2.2.1.2=t.fn.toNat/\a.1.2.2.2.1=(t.fn.toNat:Int)/\0<=a.1.2.2.2.2.1/\a.1.2.2.2.2.1<=t.fn) (λa=>(t.fn - a.1.2.2.2.2.1).toNat) (λa ⟨g1,g2,g3,g4,g5⟩=>?_) _ _ ⟨Int.le_refl 0,rfl,rfl,Int.le_refl 0,h0⟩ (by simp only [];omega)
 unfold K74.QO
 refine Qa (λhh=>?_) (λ_=>Q2 (by show a.1.2.1.length<=5;omega))
 have hh:=Q2m hh
 refine Q3 (λb=>b.1=a.1) (QR (Q1C g4 (by omega)) (Q2 rfl)) (λr0 e0=>Q3 (λ_=>True) (Qa (λ_=>Q3 _ ee (λ_ _=>Q2 trivial)) (λ_=>Q2 trivial)) (λr2 _=>Q3 (λb=>b.1.2.1.length<=a.1.2.1.length+1/\b.1.2.2=a.1.2.2) ?_ (λr3 hr=>Q2 ?_)))
 ·refine Qa (λ_=>QR (Q2W ?_) (Q2 ?_)) (λ_=>Q2 ?_)
  ·rw [e0];simp only [List.length_cons,Qn,List.length_nil];omega
  ·rw [e0];simp [Qn]
  ·rw [e0];exact ⟨by omega,rfl⟩
 ·obtain ⟨k1,k2⟩:=hr
  show ((r3.1.2.1.length:Int)<=Q4 .i64 r3.1.2.2.2.2.1 1/\r3.1.2.2.1.2=t.fn.toNat/\r3.1.2.2.2.1=(t.fn.toNat:Int)/\0<=Q4 .i64 r3.1.2.2.2.2.1 1/\Q4 .i64 r3.1.2.2.2.2.1 1<=t.fn)/\(t.fn - Q4 .i64 r3.1.2.2.2.2.1 1).toNat < (t.fn - a.1.2.2.2.2.1).toNat
  rw [k2,Q1g (by omega)]
  exact ⟨⟨by omega,g2,g3,by omega,by omega⟩,by omega⟩
theorem Qdg (now:Int) (t:Qb) (h:Q2H t):Tot (K71 now t) (λ_=>True):=by
 unfold K71 K71.gen
 refine Q3 _ (QeK now t h) (λr0 h0=>Q3 (λb=>b.1.1=r0.1.1/\b.1.2.1.length<=r0.1.1.length) ?_ (λr1 ⟨h1,h2⟩=>Q3 _ (QeD _ (by omega)) (λr2 hr2=>Qa (λ_=>Q2 trivial) (λhn=>?_))))
 ·unfold K71.F0
  refine Q22 (λa=>a.1.1=r0.1.1/\(a.1.2.1.length:Int)=a.1.2.2.2.2.1/\a.1.2.2.1=r0.1.1/\a.1.2.2.2.1=(r0.1.1.length:Int)/\0<=a.1.2.2.2.2.1/\a.1.2.2.2.2.1<=(r0.1.1.length:Int)) (λa=>((r0.1.1.length:Int) - a.1.2.2.2.2.1).toNat) (λa ⟨g1,g2,g3,g4,g5,g6⟩=>?_) _ _ ⟨rfl,rfl,rfl,rfl,Int.le_refl 0,by simp only [];omega⟩ (by simp only [];omega)
  unfold K71.QO
  refine Qa (λhh=>?_) (λ_=>Q2 ⟨g1,by show a.1.2.1.length<=_;omega⟩)
  have hh:=Q2m hh
  rw [g3]
  refine Q3 (λb=>b.1=a.1) (QR (Q1C g5 (by omega)) (Q2 rfl)) (λr2 e0=>QR (Q2W ?_) (Q2 ?_))
  ·rw [e0];simp only [List.length_cons,Qn,List.length_nil];omega
  ·show (r2.1.1=r0.1.1/\((r2.1.2.1++r2.2.2.2.1.Q3r::Qn Qj).length:Int)=Q4 .i64 r2.1.2.2.2.2.1 1/\r2.1.2.2.1=r0.1.1/\r2.1.2.2.2.1=(r0.1.1.length:Int)/\0<=Q4 .i64 r2.1.2.2.2.2.1 1/\Q4 .i64 r2.1.2.2.2.2.1 1<=(r0.1.1.length:Int))/\((r0.1.1.length:Int) - Q4 .i64 r2.1.2.2.2.2.1 1).toNat < ((r0.1.1.length:Int) - a.1.2.2.2.2.1).toNat
   rw [e0,Q1g (by omega)]
   simp only [List.length_append,List.length_cons,Qn,List.length_nil]
   exact ⟨⟨g1,by omega,g3,g4,by omega,by omega⟩,by omega⟩
 ·have hn:=Q3s hn
  rw [h1]
  exact QR (Q1C (by omega) (by omega)) (Q2 trivial)
theorem Qef (m:Q9) (now:Int) (t:Qb) (h:Q2H t):Tot (K73 m now t) (λr=>Q2H r.2.1.1):=by
 unfold K73 K73.gen
 refine Q3 (λb=>match b with| .inl x=>Q2H x.2.1| .inr x=>Q2H x.2.1) ?_ (λr2 hr2=>Q2l (λr3 e=>?_) (λr3 e=>Q2 (by subst e;exact hr2)))
 ·refine Qa (λ_=>Q2 h) (λ_=>Q3 (λ_=>True) (Qa (λ_=>Q2 trivial) (λ_=>Q2 trivial)) (λ_ _=>Qa (λ_=>Q2 h) (λ_=>Q3 (λ_=>True) (Qa (λ_=>Q2 trivial) (λ_=>Qa (λ_=>Q2 trivial) (λ_=>Q2 trivial))) (λ_ _=>Qa (λ_=>Q2 h) (λ_=>Q2 h)))))
 subst e
 have hr2:Q2H r3.2.1:=hr2
 refine Q3 (λb=>Q2H b.2.1/\0<=b.1.2.1/\b.1.2.1<=b.2.1.fn) ?_ (λr4 ⟨⟨h0,h1⟩,h2,h3⟩=>Q3 (λb=>match b with| .inl x=>Q2H x.2.1/\0<=x.1.2.1/\x.1.2.1 < 5| .inr x=>Q2H x.2.1) ?_ (λr7 hr7=>Q2l (λr8 e=>?_) (λr8 e=>Q2 (by subst e;exact hr7))))
 ·unfold K73.F0
  refine Q22 (λa=>Q2H a.2.1/\0<=a.1.2.1/\a.1.2.1<=a.2.1.fn) (λa=>(a.2.1.fn - a.1.2.1).toNat) (λa ⟨⟨h0,h1⟩,h2,h3⟩=>?_) _ _ ⟨hr2,Int.le_refl 0,hr2.1⟩ (by have:=hr2.2;simp only [];omega)
  unfold K73.QO
  refine Q3 (λb=>b.1=true->a.1.2.1 < a.2.1.fn) (Qa (λhh=>QR (Q1C h2 (by have:=Q2m hh;omega)) (Q2 λ_=>Q2m hh)) (λ_=>Q2 λhh=>by cases hh)) (λr0 hr0=>Qa (λhh=>Q2 ?_) (λ_=>Q2 ⟨⟨h0,h1⟩,h2,h3⟩))
  have:=hr0 hh
  show (Q2H a.2.1/\0<=Q4 .i64 a.1.2.1 1/\Q4 .i64 a.1.2.1 1<=a.2.1.fn)/\(a.2.1.fn - Q4 .i64 a.1.2.1 1).toNat < (a.2.1.fn - a.1.2.1).toNat
  rw [Q1g (by omega)]
  exact ⟨⟨⟨h0,h1⟩,by omega,by omega⟩,by omega⟩
 ·refine Qa (λhh=>?_) (λhh=>Qa (λ_=>Q2 ⟨h0,h1⟩) (λh5=>Q2 ?_))
  ·have hh:=Q2m hh
   refine Q3 (λb=>Q2H b.2.1/\b.1.2.1=r4.1.2.1) (QR (Q1C h2 (by omega)) (Q2 ⟨⟨h0,h1⟩,rfl⟩)) (λr5 ⟨k1,k2⟩=>Q3 (λ_=>True) (Qa (λ_=>Q2 trivial) (λ_=>Q2 trivial)) (λr6 _=>Qa (λ_=>Q2 k1) (λ_=>Q2 ⟨k1,by show 0<=r5.1.2.1;omega,by show r5.1.2.1 < 5;omega⟩)))
  ·have hh:=Q3s hh
   have h5:r4.2.1.fn≠5:=by
    intro e
    rw [e] at h5
    cases h5
   refine ⟨⟨?_,?_⟩,h2,by show r4.1.2.1 < 5;omega⟩
   ·show 0<=Q4 .i64 r4.2.1.fn 1
    rw [Q1g (by omega)];omega
   ·show Q4 .i64 r4.2.1.fn 1<=5
    rw [Q1g (by omega)];omega
 ·subst e
  obtain ⟨k1,k2,k3⟩:Q2H r8.2.1/\0<=r8.1.2.1/\r8.1.2.1 < 5:=hr7
  exact Q3 (λb=>Q2H b.2.1) (QR (Q1C k2 k3) (Q2 k1)) (λr9 h9=>Q2 h9)
abbrev Q6s (f:Qh):Prop:=0<=f.fn/\f.fn<=f.Q4W/\1<=f.Q4W/\f.Q4W<=15
theorem QeA (a:((Int)×(Int)×(Int)×(Nat×Nat)×(Int)×(Int)×Unit)×((Qh)×(Fm Int)×Unit)) (h0:0<=a.1.1) (h1:a.1.1 < 15) (h2:a.2.2.1.1=15) (h3:a.1.2.2.1=0):
  Tot (Q10.F1 a) (λb=>b.1.1=a.1.1/\0<=b.1.2.2.1/\b.1.2.2.1<=a.1.1/\b.1.2.2.2=a.1.2.2.2/\b.2.1=a.2.1/\b.2.2.1.1=15):=by
 unfold Q10.F1
 refine Q22 (λx=>x.1.1=a.1.1/\0<=x.1.2.2.1/\x.1.2.2.1<=a.1.1/\x.1.2.2.2=a.1.2.2.2/\x.2.1=a.2.1/\x.2.2.1.1=15) (λx=>(a.1.1 - x.1.2.2.1).toNat) (λx ⟨g1,g2,g3,g4,g5,g6⟩=>?_) _ a ⟨rfl,by omega,by omega,rfl,rfl,h2⟩ (by omega)
 unfold Q10.Q2A
 refine Q3 (λb=>b.1=true->x.1.2.2.1 < a.1.1) (Qa (λhh=>?_) (λ_=>Q2 λhh=>by cases hh)) (λr0 hr0=>Qa (λhh=>Q2 ?_) (λ_=>Q2 ⟨g1,g2,g3,g4,g5,g6⟩))
 ·have hh:=Q2m hh
  rw [Q1C (n:=15) g2 (by omega),g6,Q1C (n:=15) g2 (by omega)]
  exact Q2 λ_=>by omega
 ·have:=hr0 hh
  show (x.1.1=a.1.1/\0<=Q4 .i64 x.1.2.2.1 1/\Q4 .i64 x.1.2.2.1 1<=a.1.1/\x.1.2.2.2=a.1.2.2.2/\x.2.1=a.2.1/\x.2.2.1.1=15)/\(a.1.1 - Q4 .i64 x.1.2.2.1 1).toNat < (a.1.1 - x.1.2.2.1).toNat
  rw [Q1g (by omega)]
  exact ⟨⟨g1,by omega,by omega,g4,g5,g6⟩,by omega⟩
theorem med_t (f:Qh) (h0:0<=f.fn) (h1:f.fn<=15):Tot (Q10 f) (λ_=>True):=by
 unfold Q10 Q10.gen
 refine Qa (λ_=>Q2 trivial) (λhne=>?_)
 have hn0:f.fn≠0:=λe=>by rw [e] at hne;cases hne
 have hn:Int.toNat f.fn - Int.toNat (ofN 0)=f.fn.toNat:=by unfold ofN;omega
 rw [hn]
 refine QR (Q33 (by unfold ofN;omega) (by unfold ofN;omega) (by omega)) (Q3 (λb=>b.2.1=f/\b.2.2.1.1=15) ?_ (λr ⟨e1,e2⟩=>?_))
 ·unfold Q10.F0
  refine Q22 (λa=>a.1.1.2=f.fn.toNat/\a.1.2.1=(f.fn.toNat:Int)/\0<=a.1.2.2.1/\a.2.1=f/\a.2.2.1.1=15) (λa=>(f.fn - a.1.2.2.1).toNat) (λa ⟨g1,g2,g3,g4,g5⟩=>?_) _ _ ⟨rfl,rfl,Int.le_refl 0,rfl,rfl⟩ (by simp only [];omega)
  unfold Q10.QO
  refine Qa (λhh=>?_) (λ_=>Q2 ⟨g4,g5⟩)
  have hh:=Q2m hh
  refine QR (Q1C g3 (by omega)) (Q3 _ (QeA _ (by show 0<=a.1.2.2.1;exact g3) (by show a.1.2.2.1 < 15;omega) g5 rfl) (λr0 ⟨k1,k2,k3,k4,k5,k6⟩=>?_))
  have k1:r0.1.1=a.1.2.2.1:=k1
  have k3:r0.1.2.2.1<=a.1.2.2.1:=k3
  have k4:r0.1.2.2.2=a.1:=k4
  have k5:r0.2.1=a.2.1:=k5
  have e1:Q4 .i64 r0.1.2.2.1 1=r0.1.2.2.1+1:=Q1g (by omega)
  have e2:Q4 .i64 r0.1.1 1=r0.1.1+1:=Q1g (by omega)
  rw [e1,e2,k6,Q33 (c:=15) (show 0<=r0.1.2.2.1+1 by omega) (show r0.1.2.2.1+1<=r0.1.1+1 by omega) (by omega),Q33 (c:=15) k2 (show r0.1.2.2.1<=r0.1.1 by omega) (by omega),Q1C (n:=15) k2 (by omega)]
  simp only [cond_true]
  refine Q2 ?_
  show (r0.1.2.2.2.1.2=f.fn.toNat/\r0.1.2.2.2.2.1=(f.fn.toNat:Int)/\0<=Q4 .i64 r0.1.2.2.2.2.2.1 1/\r0.2.1=f/\(15:Nat)=15)/\(f.fn - Q4 .i64 r0.1.2.2.2.2.2.1 1).toNat < (f.fn - a.1.2.2.1).toNat
  rw [k4,Q1g (by omega)]
  exact ⟨⟨g1,g2,by omega,by rw [k5];exact g4,rfl⟩,by omega⟩
 ·rw [e1,e2]
  have e3:Q1K .i64 f.fn 1=f.fn - 1:=Q5g (by omega)
  have e4:Q59 .i64 (f.fn - 1) 2=(f.fn - 1) / 2:=by
   unfold Q59
   rw [Int.tdiv_eq_ediv_of_nonneg (by omega),Q90]
   omega
  rw [e3,e4,Q1C (n:=15) (show 0<=(f.fn - 1) / 2 by omega) (by omega)]
  exact Q2 trivial
theorem put_t (v:Int) (f:Qh) (h:Q6s f):Tot (Q3F v f) (λr=>Q6s r.2.1.1):=by
 obtain ⟨h0,h1,h2,h3⟩:=h
 unfold Q3F Q3F.gen
 refine Q3 (λb=>0<=b.2.1.fn/\b.2.1.fn < f.Q4W/\b.2.1.Q4W=f.Q4W) (Qa (λhe=>?_) (λhe=>Q2 ?_)) (λr ⟨g0,g1,g2⟩=>QR (Q1C g0 (by omega)) ?_)
 ·have he:f.fn=f.Q4W:=by unfold ieq at he;simpa using he
  have e3:Q1K .i64 f.fn 1=f.fn - 1:=Q5g (by omega)
  refine QR (Q33 (by decide) (by omega) (by omega)) (Q2 ⟨?_,?_,rfl⟩)
  ·show 0<=Q1K .i64 f.fn 1;rw [e3];omega
  ·show Q1K .i64 f.fn 1 < _;rw [e3];omega
 ·have he:f.fn≠f.Q4W:=λe=>by rw [e] at he;unfold ieq at he;simp at he
  exact ⟨h0,by show f.fn < _;omega,rfl⟩
 ·have e1:Q4 .i64 r.2.1.fn 1=r.2.1.fn+1:=Q1g (by omega)
  rw [e1]
  refine Q3 _ (med_t _ (by show 0<=r.2.1.fn+1;omega) (by show r.2.1.fn+1<=15;omega)) (λr1 _=>Q2 ⟨by show 0<=r.2.1.fn+1;omega,by show r.2.1.fn+1<=r.2.1.Q4W;omega,by show 1<=r.2.1.Q4W;omega,by show r.2.1.Q4W<=15;omega⟩)
def byteI (e:Int):UInt8:=UInt8.ofNat (IntKind.u8.wrap e).toNat
def be (v:Int):Nat->List UInt8
 |0=>[]
 |k+1=>byteI (Q5Y .i64 v (8*(k:Int)))::be v k
theorem wrap64 (e:Int):IntKind.u64.wrap e=e % 18446744073709551616:=by
 simp only [IntKind.wrap,IntKind.signed,IntKind.bits,Bool.false_and,Bool.false_eq_true,if_false];rfl
theorem Qct (a b:Nat) (h:b < 256):(a*256)|||b=a*256+b:=by
 have:=Nat.shiftLeft_add_eq_or_of_lt (i:=8) (b:=b) h a
 rw [Nat.shiftLeft_eq] at this
 exact this.symm
def Q5q:Int->List UInt8->Int
 |a,[]=>a
 |a,x::r=>Q5q (a*256+(x.toNat:Int)) r
theorem Q9e:∀(L:List UInt8) (a:Int),0<=a->a*256^L.length<=Q5q a L/\Q5q a L < (a+1)*256^L.length
 | [],a,h=>by simp [Q5q];omega
 |x::r,a,h=>by
  have hx:(x.toNat:Int) < 256:=by have:=x.toNat_lt;omega
  have h0:(0:Int)<=(x.toNat:Int):=by omega
  obtain ⟨h1,h2⟩:=Q9e r (a*256+(x.toNat:Int)) (by omega)
  rw [Q5q,List.length_cons,Int.pow_succ]
  have hp:(0:Int) < 256^r.length:=Int.pow_pos (by decide)
  generalize (256:Int)^r.length=m at*
  generalize (x.toNat:Int)=y at*
  generalize Q5q (a*256+y) r=z at*
  have e1:a*(m*256)<=(a*256+y)*m:=by
   have:(a*256+y)*m=a*(m*256)+y*m:=by grind
   have:0<=y*m:=Int.mul_nonneg h0 (by omega)
   omega
  have e2:(a*256+y+1)*m<=(a+1)*(m*256):=by
   have:(a+1)*(m*256) - (a*256+y+1)*m=(255 - y)*m:=by grind
   have:0<=(255 - y)*m:=Int.mul_nonneg (by omega) (by omega)
   omega
  omega
theorem QbS (v x:Int) (hv:0<=v) (hv2:v < 72057594037927936) (hx:0<=x) (hx2:x < 256):ior .u64 (Q8U .u64 v 8) (IntKind.u64.wrap x)=v*256+x:=by
 have e1:Q8U .u64 v 8=v*256:=by
  show IntKind.u64.wrap (v*2^8)=_
  rw [wrap64];omega
 have e2:IntKind.u64.wrap x=x:=by rw [wrap64];omega
 rw [e1,e2]
 unfold ior
 obtain ⟨a,rfl⟩:∃a:Nat,v=(a:Int):=⟨v.toNat,by omega⟩
 obtain ⟨b,rfl⟩:∃b:Nat,x=(b:Int):=⟨x.toNat,by omega⟩
 have f1:(BitVec.ofInt 64 ((a:Int)*256)).toNat=a*256:=by rw [BitVec.toNat_ofInt];omega
 have f2:(BitVec.ofInt 64 (b:Int)).toNat=b:=by rw [BitVec.toNat_ofInt];omega
 have:(BitVec.ofInt IntKind.u64.bits ((a:Int)*256)|||BitVec.ofInt IntKind.u64.bits (b:Int)).toNat=a*256+b:=by
  show (BitVec.ofInt 64 ((a:Int)*256)|||BitVec.ofInt 64 (b:Int)).toNat=_
  rw [BitVec.toNat_or,f1,f2,Qct a b (by omega)]
 rw [this,wrap64];omega
theorem Q9D:∀(L R:List UInt8) (a:Int),Q5q a (L++R)=Q5q (Q5q a L) R
 | [],_,_=>rfl
 |x::L,R,a=>by rw [List.cons_append,Q5q,Q5q,Q9D L R]
theorem Qbo (L:List UInt8) (h:L.length<=8):Q1i L=some ((Q5q 0 L,()),(),()):=by
 unfold Q1i Q1i.gen Q1i.F0
 simp only []
 have hl:=QcT (step:=Q1i.QO) (λi=>((Q5q 0 (L.take i),L,ofN L.length,(i:Int),()),())) (b:=((Q5q 0 L,()),())) L.length (1000000+L.length) (by omega) (λi hi=>?_) ?_
 ·have hl:Z8 (1000000+L.length) Q1i.QO ((0,L,ofN L.length,0,()),())=some ((Q5q 0 L,()),()):=hl
  rw [hl];rfl
 ·unfold Q1i.QO
  have hr:=Q9e (L.take i) 0 (by omega)
  have hlen:(L.take i).length=i:=by rw [List.length_take];omega
  have hp:(256:Int)^i<=256^7:=by exact_mod_cast Nat.pow_le_pow_right (show 0 < 256 by decide) (show i<=7 by omega)
  rw [hlen] at hr
  have hx:=(L[i]).toNat_lt
  have hg:L.getD i 0=L[i]:=Q9j hi
  simp only [Qaz,QdF,hi,decide_true,cond_true,Int.toNat_natCast,iinc (show i < 4611686018427387904 by omega)]
  have ht:L.take (i+1)=L.take i++ [L[i]]:=by rw [List.take_add_one,List.getElem?_eq_getElem hi];rfl
  rw [show List.getD L i (0:D UC.u8)=L[i] from hg,QbS _ _ (by omega) (by omega) (show (0:Int)<=((L[i].toNat:Nat):Int) by omega) (show ((L[i].toNat:Nat):Int) < 256 by omega),ht,Q9D]
  rfl
 ·unfold Q1i.QO
  simp only [Qaz,Nat.lt_irrefl,decide_false,cond_false,List.take_length]
abbrev bs (l:List UInt8):ByteArray:=ByteArray.mk l.toArray
theorem Q9A (l:List UInt8):(bs l).data.toList=l:=by show l.toArray.toList=l;simp
theorem Qc7 (s:ByteArray):bs s.data.toList=s:=by cases s;simp [bs]
theorem QeG {s t:ByteArray} (h:s.data.toList=t.data.toList):s=t:=by rw [←Qc7 s,←Qc7 t,h]
theorem Q6X (l:List UInt8):(bs l).size=l.length:=by show l.toArray.size=_;simp
theorem QbX (a b:List UInt8):bs a++bs b=bs (a++b):=by
 apply QeG
 rw [ByteArray.data_append,Array.toList_append,Q9A,Q9A,Q9A]
theorem QbE {v a b:Int} (h0:a<=v) (h1:v<=b):K4 v a b=some ((true,()),(),()):=by
 unfold K4 K4.gen
 rw [Q53 h0,Q53 h1];rfl
theorem hin_b (v a b:Int):Tot (K85 v a b) (λr=>r.1.1=true->a<=v/\v<=b):=by
 unfold K85 K85.gen
 exact Qa (λh=>Q2 λh2=>⟨Q54 h,Q54 h2⟩) (λ_=>Q2 λh=>by cases h)
theorem Qei (b:List UInt8) (hb:Q4m b):Tot (K81 b) (λr=>r.1.2.2.1=0->34<=b.length/\b.length<=400):=by
 unfold K81 K81.gen
 refine Qa (λ_=>Q2 (λh=>by cases h)) (λh34=>?_)
 have i0:inR 0 b.length=true:=Q9p (k:=0) h34 (by decide)
 have i1:inR 1 b.length=true:=Q9p (k:=1) h34 (by decide)
 have i4:inR 4 b.length=true:=Q9p (k:=4) h34 (by decide)
 have h34':=Q3s h34
 unfold ofN at h34'
 refine Q3 _ (Q4E _ _ _ hb) (λr0 _=>Q3 (λr=>r.1=false->r0.1.1<=400) ?_ (λr3 h3=>Qa (λ_=>Q2 (λh=>by cases h)) (λh3f=>Qa (λ_=>Q2 (λh=>by cases h)) (λha=>Qa (λ_=>Q2 (λh=>by cases h)) (λhb'=>QR i0 (QR i4 ?_))))))
 ·refine QR i0 (Q3 _ (QdB _) (λ_ _=>Qa (λ_=>Q2 λh=>by cases h) (λ_=>QR i1 (Qa (λ_=>Q2 λh=>by cases h) (λ_=>Q3 _ (hin_b _ _ _) (λr2 h2=>Q2 λh=>(h2 ?_).2))))))
  cases hx:r2.1.1 with
  |true=>rfl
  |false=>rw [hx] at h;cases h
 ·have h400:=h3 h3f
  have ha:=Q3s hb'
  unfold ofN at ha
  have:b.length<=400:=by omega
  refine Q3 _ (Q4E _ _ _ hb) (λ_ _=>Q3 _ (Q8i _ _ _ hb) (λ_ _=>Q3 _ (Qa6 _ _ hb) (λ_ _=>Q3 _ (Q4E _ _ _ hb) (λ_ _=>Q3 _ (Q8i _ _ _ hb) (λ_ _=>Q2 λ_=>⟨by omega,this⟩)))))
theorem bl_e (t:Int):Tot (K2 t) (λr=>0<=r.1.1/\r.1.1<=30/\(t=13->r.1.1=14)):=by
 unfold K2 K2.gen
 refine Q3 (λ(r:(Int×Bool×Unit)×Unit)=>r.1.1=t/\(t=13->r.1.2.1=false)) ?_ (λr0 ⟨h0,h1⟩=>Q3 (λr=>match r with| .inl _=>t≠13| .inr x=>0<=x.1.1/\x.1.1<=30/\(t=13->x.1.1=14)) ?_ (λr2 h2=>Q2l (λa e=>Q2 ?_) (λa e=>Q2 ?_)))
 ·refine Qa (λ_=>Q2 ⟨rfl,λe=>by subst e;rfl⟩) (λ_=>Qa (λ_=>Q2 ⟨rfl,λe=>by subst e;rfl⟩) (λ_=>Qa (λ_=>Q2 ⟨rfl,λe=>by subst e;rfl⟩) (λ_=>Q2 ⟨rfl,λe=>by subst e;rfl⟩)))
 ·refine Qa (λh=>Q2 ⟨by decide,by decide,λe=>by rw [h1 e] at h;cases h⟩) (λ_=>Q3 (λ(r:(Int×Bool×Unit)×Unit)=>r.1.1=t/\(t=13->r.1.2.1=false)) ?_ (λr1 ⟨k0,k1⟩=>?_))
  ·rw [h0]
   refine Qa (λ_=>Q2 ⟨rfl,λe=>by subst e;rfl⟩) (λ_=>Qa (λ_=>Q2 ⟨rfl,λe=>by subst e;rfl⟩) (λ_=>Qa (λ_=>Q2 ⟨rfl,λe=>by subst e;rfl⟩) (λ_=>Q2 ⟨rfl,λe=>by subst e;rfl⟩)))
  ·refine Qa (λh=>Q2 ⟨by decide,by decide,λe=>by rw [k1 e] at h;cases h⟩) (λ_=>Qa (λh=>Q2 ⟨by decide,by decide,λe=>by rw [k0,e] at h;cases h⟩) (λ_=>Qa (λh=>Q2 ⟨by decide,by decide,λe=>rfl⟩) (λh=>Q2 λe=>by rw [k0,e] at h;cases h)))
 ·subst e
  exact ⟨by decide,by decide,λe=>absurd e h2⟩
 ·subst e
  exact h2
theorem bst_t (t:Int):Tot (K6 t) (λr=>r.1.1=true->t≠13):=by
 unfold K6 K6.gen
 exact Qa (λ_=>Q2 λh=>by unfold ine at h;simpa using h) (λ_=>Q2 λh=>by cases h)
theorem QcB (t:Int):Tot (K7 t) (λr=>True):=(ee (x:=K7 t))
theorem Qew (m:Q9) (b:List UInt8) (hb:b.length<=400):Tot (K1 m b 34) (λr=>True):=by
 have hs:Q4m b:=by unfold Q4m;omega
 have hl:ofN b.length=(b.length:Int):=rfl
 unfold K1 K1.gen
 refine Q3 _ (bl_e _) (λr0 ⟨n0,n1,n13⟩=>Q3 (λr=>r.1=false->34+r0.1.1<=(b.length:Int)) ?_ (λr1 h1=>Qa (λ_=>Q2 trivial) (λh1f=>?_)))
 ·refine Qa (λ_=>Q2 λh=>by cases h) (λ_=>Qa (λ_=>Q2 λh=>by cases h) (λh2=>Q2 λh3=>?_))
  have h2:=Q3s h2
  have h3:=Q3s h3
  rw [hl] at h2 h3
  rw [Q5g (by omega)] at h3
  omega
 have hlen:=h1 h1f
 have e1:Q4 .i64 34 10=44:=rfl
 have e2:Q4 .i64 44 10=54:=rfl
 rw [e1,e2]
 refine Q3 (λr=>r.1=false->m.fType≠13) ?_ (λr3 h3=>?_)
 ·refine Qa (λ_=>Q2 λh=>by cases h) (λ_=>Q3 _ (bst_t _) (λr2 h2=>Q2 λh=>h2 ?_))
  cases hx:r2.1.1 with
  |true=>rfl
  |false=>rw [hx] at h;cases h
 refine Qa (λ_=>?_) (λh3f=>?_)
 ·refine Q3 _ (QcB _) (λr4 _=>Q3 (λr=>r.1.1=b/\(r.1.2.1=44\/r.1.2.1=34)/\r.2.1.fType=m.fType) ?_ (λr6 ⟨g1,g2,g3⟩=>?_))
  ·exact Qa (λ_=>Q3 _ (Qa6 _ _ hs) (λ_ _=>Q2 ⟨rfl,.inl rfl,rfl⟩)) (λ_=>Q2 ⟨rfl,.inr rfl,rfl⟩)
  refine Q3 (λ_=>True) (Qa (λ_=>?_) (λ_=>Qa (λh13=>?_) (λ_=>Q2 trivial))) (λ_ _=>Q2 trivial)
  ·rw [g1]
   exact Q3 _ (Q8i _ _ _ hs) (λ_ _=>Q3 _ (Q4E _ _ _ hs) (λ_ _=>Q3 _ (QbZ _ _ hs) (λ_ _=>Q3 _ (Q4E _ _ _ hs) (λ_ _=>Q3 _ (Q7Y _ _ hs) (λ_ _=>Q3 _ (Q4E _ _ _ hs) (λ_ _=>Q3 _ (Q4E _ _ _ hs) (λ_ _=>Q2 trivial)))))))
  ·have h13:m.fType=13:=by rw [g3] at h13;unfold ieq at h13;simpa using h13
   have:=n13 h13
   rw [g1]
   rcases g2 with g2|g2
   ·rw [g2]
    exact QR (Q1C (by decide) (by omega)) (QR (Q1C (by decide) (by show (45:Int) < _;omega)) (QR (Q1C (by decide) (by show (46:Int) < _;omega)) (Q2 trivial)))
   ·rw [g2]
    exact QR (Q1C (by decide) (by omega)) (QR (Q1C (by decide) (by show (35:Int) < _;omega)) (QR (Q1C (by decide) (by show (36:Int) < _;omega)) (Q2 trivial)))
 ·have hne:=h3 h3f
  refine Q3 _ (Qed _ _ hs) (λr15 _=>Qa (λ_=>Q2 trivial) (λ_=>Q3 _ (QcB _) (λr16 _=>Q3 (λr=>r.1.1=b/\r.2.1.fType=m.fType) ?_ (λr6 ⟨g1,g3⟩=>?_))))
  ·exact Qa (λ_=>Q3 _ (Qa6 _ _ hs) (λ_ _=>Q2 ⟨rfl,rfl⟩)) (λ_=>Q2 ⟨rfl,rfl⟩)
  refine Q3 (λ_=>True) (Qa (λ_=>?_) (λ_=>Qa (λh13=>?_) (λ_=>Q2 trivial))) (λ_ _=>Q2 trivial)
  ·rw [g1]
   exact Q3 _ (Q8i _ _ _ hs) (λ_ _=>Q3 _ (Q4E _ _ _ hs) (λ_ _=>Q3 _ (QbZ _ _ hs) (λ_ _=>Q3 _ (Q4E _ _ _ hs) (λ_ _=>Q3 _ (Q7Y _ _ hs) (λ_ _=>Q3 _ (Q4E _ _ _ hs) (λ_ _=>Q3 _ (Q4E _ _ _ hs) (λ_ _=>Q2 trivial)))))))
  ·exact absurd (by rw [g3] at h13;unfold ieq at h13;simpa using h13) hne
theorem Qe3 (b:List UInt8) (at' n:Int) (hb:b.length<=400):Tot (Q1p b at' n) (λr=>0<=r.1.1):=by
 have hs:Q4m b:=by unfold Q4m;omega
 unfold Q1p Q1p.gen
 refine Q3 (λr=>r.1=false->1<=n/\n<=7/\0<=at'/\at'+n<=(b.length:Int)) ?_ (λr hr=>Qa (λ_=>Q2 (Int.le_refl 0)) (λh=>?_))
 ·refine Qa (λ_=>Q2 λh=>by cases h) (λh1=>Qa (λ_=>Q2 λh=>by cases h) (λh2=>Q3 _ (Qam b at' n hs) (λr hr=>Q2 λh=>?_)))
  have:=hr h
  have h1:=Q3s h1
  have h2:=Q3s h2
  omega
 ·obtain ⟨h1,h2,h3,h4⟩:=hr h
  obtain ⟨h5,h6⟩:=QaT h3 (by omega) h4 hs
  refine QR h5 (Q3 (λr=>0<=r.1.1/\r.1.1 < 72057594037927936) ⟨_,Qbo _ (by omega),?_⟩ (λr hr=>Q2 ?_))
  ·have:=Q9e (List.drop (Int.toNat at') (List.take (Int.toNat (Q4 .i64 at' n)) b)) 0 (Int.le_refl 0)
   rw [h6] at this
   refine ⟨by have:=this.1;simpa using this,Int.lt_of_lt_of_le this.2 ?_⟩
   have h7:n.toNat<=7:=by omega
   have hp:(256:Nat)^n.toNat<=256^7:=Nat.pow_le_pow_right (by decide) h7
   have hq:(256:Int)^n.toNat<=256^7:=by exact_mod_cast hp
   simp only [Int.zero_add,Int.one_mul]
   omega
  ·show 0<=IntKind.i64.wrap r.1.1
   rw [Q90]
   have:=hr.1
   have:=hr.2
   omega
abbrev Q5C (l:List Qi):Prop:=l.length<=8/\∀t∈l,t.Q2y.size<=400
theorem Qey (b:List UInt8) (at':Int) (hb:b.length<=400):Tot (Q1s b at') (λr=>Q5C r.1.1):=by
 have hl:ofN b.length=(b.length:Int):=rfl
 unfold Q1s Q1s.gen
 refine Q3 (λr=>r.1=false->0<=at'/\at'<=(b.length:Int)) (Qa (λ_=>Q2 λh=>by cases h) (λh0=>Q2 λh=>?_)) (λr0 h0=>Qa (λ_=>Q2 ⟨Nat.zero_le _,λ_ h=>by cases h⟩) (λh0f=>Q3 (λr=>Q5C r.1.1) ?_ (λr1 h1=>Qa (λ_=>Q2 ⟨Nat.zero_le _,λ_ h=>by cases h⟩) (λ_=>Q2 h1))))
 ·have h0:=Q3s h0
  have h:=Q3s h
  rw [hl] at h
  omega
 obtain ⟨a0,a1⟩:=h0 h0f
 unfold Q1s.F1
 refine Q22 (λa=>a.1.1=b/\0<=a.1.2.1/\a.1.2.1<=(b.length:Int)/\Q5C a.1.2.2.1/\a.1.2.2.2.1=0) (λa=>((b.length:Int) - a.1.2.1).toNat) (λa ⟨g1,g2,g3,g4,g5⟩=>?_) _ _ ⟨rfl,a0,a1,⟨Nat.zero_le _,λ_ h=>by cases h⟩,rfl⟩ (by simp only [];omega)
 unfold Q1s.Q2A
 rw [g1]
 refine Qa (λhlt=>?_) (λ_=>Q2 g4)
 have hlt:=Q2m hlt
 rw [hl] at hlt
 refine Q3 _ (Qe3 b _ _ hb) (λr0 hv=>Q3 (λr=>r.1.1=b/\r.1.2.1=a.1.2.1/\r.1.2.2.1=a.1.2.2.1/\r.1.2.2.2.2.1=r0.1.1/\(r.1.2.2.2.1=0->r0.1.1+4+a.1.2.1<=(b.length:Int)/\a.1.2.2.1.length<=7)) ?_ (λr2 ⟨k1,k2,k3,k4,k5⟩=>Qa (λ_=>Q2 (by show Q5C r2.1.2.2.1;rw [k3];exact g4)) (λhz=>?_)))
 ·refine Qa (λ_=>Q2 ⟨by first|rfl|exact g1,rfl,rfl,rfl,λh=>by cases h⟩) (λhne=>Q3 (λr=>r.1=false->r0.1.1+4+a.1.2.1<=(b.length:Int)) (Qa (λ_=>Q2 λh=>by cases h) (λ_=>Q2 λh=>?_)) (λr1 h1=>Qa (λ_=>Q2 ⟨by first|rfl|exact g1,rfl,rfl,rfl,λh=>by cases h⟩) (λh1f=>Qa (λ_=>Q2 ⟨by first|rfl|exact g1,rfl,rfl,rfl,λh=>by cases h⟩) (λ_=>Q2 ⟨by first|rfl|exact g1,rfl,rfl,rfl,λ_=>⟨h1 h1f,?_⟩⟩))))
  ·have h:=Q3s h
   rw [hl,show Q1K .i64 (b.length:Int) a.1.2.1=b.length - a.1.2.1 from Q5g (by omega),Q5g (by omega)] at h
   omega
  ·have h8:¬((a.1.2.2.1.length:Int)=8):=λe=>by unfold ieq ofN at hne;rw [e] at hne;simp at hne
   have:=g4.1
   omega
 have hz:r2.1.2.2.2.1=0:=by unfold ine at hz;simpa using hz
 obtain ⟨m1,m2⟩:=k5 hz
 rw [k1,k2,k3,k4]
 have e1:Q4 .i64 a.1.2.1 4=a.1.2.1+4:=Q1g (by omega)
 have e2:Q4 .i64 (a.1.2.1+4) r0.1.1=a.1.2.1+4+r0.1.1:=Q1g (by omega)
 have e3:Q4 .i64 4 r0.1.1=4+r0.1.1:=Q1g (by omega)
 have e4:Q4 .i64 a.1.2.1 (4+r0.1.1)=a.1.2.1+(4+r0.1.1):=Q1g (by omega)
 rw [e1,e2,e3,e4]
 refine Q3 _ (Q4E b _ _ (by unfold Q4m;omega)) (λr3 _=>QR (Q33 (by omega) (by omega) (by omega)) (QR (Q2W ?_) (Q2 ⟨⟨rfl,?_,?_,⟨?_,λt ht=>?_⟩,?_⟩,?_⟩)))
 ·simp only [List.length_cons,Qn,List.length_nil];omega
 ·show 0<=a.1.2.1+(4+r0.1.1);omega
 ·show a.1.2.1+(4+r0.1.1)<=(b.length:Int);omega
 ·simp only [List.length_append,List.length_cons,Qn,List.length_nil];omega
 ·rcases List.mem_append.1 ht with ht|ht
  ·exact g4.2 t ht
  ·simp only [Qn,List.mem_cons,List.not_mem_nil,or_false] at ht
   subst ht
   show (ByteArray.mk (List.toArray _)).size<=400
   show (List.toArray _).size<=400
   simp only [List.size_toArray,List.length_drop,List.length_take]
   omega
 ·exact hz
 ·show ((b.length:Int) - (a.1.2.1+(4+r0.1.1))).toNat < ((b.length:Int) - a.1.2.1).toNat;omega
abbrev Q4N (b:ByteArray):Prop:=b.size<=1000000
theorem Q8N (b:ByteArray):b.data.toList.length=b.size:=by show b.data.toList.length=b.data.size;simp
theorem QdX (b:ByteArray) (hb:Q4N b):Tot (K77 b) (λr=>Q5C r.1.2.1):=by
 have hs:Q4m b.data.toList:=by unfold Q4m;rw [Q8N];unfold Q4N at hb;omega
 have nil:Q5C (Qn Qi):=⟨Nat.zero_le _,λ_ h=>by cases h⟩
 unfold K77 K77.gen
 refine Q3 _ (Qei _ hs) (λr0 h0=>Qa (λ_=>Q2 nil) (λhz=>?_))
 obtain ⟨h1,h2⟩:=h0 (by unfold ine at hz;simpa using hz)
 exact Q3 _ (Qew _ _ h2) (λr1 _=>Qa (λ_=>Q2 nil) (λ_=>Q3 _ (Qey _ _ h2) (λr2 hr2=>Qa (λ_=>Q2 nil) (λ_=>Q2 hr2))))
theorem Qec (b:ByteArray) (d:Int) (hb:Q4N b):Tot (K78 b d) (λr=>Q5C r.1.2.1):=by
 unfold K78 K78.gen
 exact Q3 _ (QdX b hb) (λr0 h0=>Q3 (λ_=>True) (Qa (λ_=>Q2 trivial) (λ_=>Q2 trivial)) (λr1 _=>Qa (λ_=>Q2 ⟨Nat.zero_le _,λ_ h=>by cases h⟩) (λ_=>Q2 h0)))
theorem Q7b {α:Type} {l:List α} {i:Nat} {d:α} (h:i < l.length):l.getD i d∈l:=by rw [Q9j h];exact List.getElem_mem h
theorem Qc2 (l:List Qi) (typ:Int) (hl:Q5C l):Tot (Q1f l typ) (λr=>r.1.1.Q2y.size<=400):=by
 have hz:(Qi.mk 0 (ByteArray.mk (List.toArray (Qn UInt8)))).Q2y.size<=400:=by decide
 unfold Q1f Q1f.gen
 refine Q3 (λr=>match r with| .inl _=>True| .inr x=>x.2.1.Q2y.size<=400) ?_ (λr0 h0=>Q2l (λa e=>Q2 hz) (λa e=>Q2 (by subst e;exact h0)))
 unfold Q1f.F0
 refine Q22 (λa=>a.1.2.1=l/\a.1.2.2.1=(l.length:Int)/\0<=a.1.2.2.2.1) (λa=>((l.length:Int) - a.1.2.2.2.1).toNat) (λa ⟨h1,h2,h3⟩=>?_) _ _ ⟨rfl,rfl,Int.le_refl 0⟩ (by have:=hl.1;simp only [];omega)
 unfold Q1f.QO
 refine Qa (λh=>?_) (λ_=>Q2 trivial)
 have h:=Q2m h
 have hl1:=hl.1
 rw [h1]
 refine QR (Q1C h3 (by omega)) (Qa (λ_=>Q2 ?_) (λ_=>Q2 ?_))
 ·exact hl.2 _ (Q7b (by omega))
 ·show (l=l/\a.1.2.2.1=(l.length:Int)/\0<=Q4 .i64 a.1.2.2.2.1 1)/\((l.length:Int) - Q4 .i64 a.1.2.2.2.1 1).toNat < ((l.length:Int) - a.1.2.2.2.1).toNat
  rw [Q1g (by omega)]
  exact ⟨⟨rfl,h2,by omega⟩,by omega⟩
theorem Qcy (t:Qi) (ht:t.Q2y.size<=400):Tot (Q1x t) (λr=>r.1.1.length<=60):=by
 unfold Q1x Q1x.gen
 refine Q3 (λ_=>True) (Qa (λ_=>Q2 trivial) (λ_=>Q3 _ ee (λ_ _=>Q2 trivial))) (λr1 _=>Qa (λ_=>Q2 (Nat.zero_le _)) (λ_=>Q3 (λr=>r.1.1.length<=60) ?_ (λr hr=>Q2 hr)))
 unfold Q1x.F0
 refine Q22 (λa=>a.2.1=t/\(a.1.1.length:Int)*8=a.1.2.1/\a.1.2.1<=408) (λa=>(408 - a.1.2.1).toNat) (λa ⟨h1,h2,h3⟩=>?_) _ _ ⟨rfl,rfl,by show (0:Int)<=408;decide⟩ (by simp only [Qn,List.length_nil];omega)
 unfold Q1x.QO
 rw [h1]
 refine Qa (λh=>?_) (λ_=>Q2 (by show a.1.1.length<=60;omega))
 have h:=Q2m h
 unfold ofN at h
 refine Q3 _ (Q7Y _ _ (by unfold Q4m;rw [Q8N];omega)) (λr0 _=>QR (Q2W (by simp only [List.length_cons,Qn,List.length_nil];omega)) (Q2 ?_))
 rw [Q1g (by omega)]
 refine ⟨⟨h1,?_,?_⟩,?_⟩
 ·show ((a.1.1++r0.1.1::Qn Int).length:Int)*8=a.1.2.1+8
  simp only [List.length_append,List.length_cons,Qn,List.length_nil];omega
 ·show a.1.2.1+8<=408;omega
 ·show (408 - (a.1.2.1+8)).toNat < (408 - a.1.2.1).toNat;omega
theorem QeB (s:List Int) (v:Int) (hs:s.length<=100000):Tot (Q42 s v) (λ_=>True):=by
 unfold Q42 Q42.gen
 refine Q3 (λ_=>True) ?_ (λ_ _=>Q2 trivial)
 unfold Q1A Q1A.gen
 refine Q3 (λ_=>True) ?_ (λr0 h0=>Q2l (λa e=>Q2 trivial) (λa e=>Q2 trivial))
 unfold Q1A.F0
 refine Q22 (λa=>a.1.1=s/\a.1.2.2.1=(s.length:Int)/\0<=a.1.2.2.2.1) (λa=>((s.length:Int) - a.1.2.2.2.1).toNat) (λa ⟨h1,h2,h3⟩=>?_) _ _ ⟨rfl,rfl,Int.le_refl 0⟩ (by simp only [];omega)
 unfold Q1A.QO
 refine Qa (λh=>?_) (λ_=>Q2 trivial)
 have h:=Q2m h
 rw [h1]
 refine QR (Q1C h3 (by omega)) (Qa (λ_=>Q2 trivial) (λ_=>Q2 ?_))
 show (s=s/\a.1.2.2.1=(s.length:Int)/\0<=Q4 .i64 a.1.2.2.2.1 1)/\((s.length:Int) - Q4 .i64 a.1.2.2.2.1 1).toNat < ((s.length:Int) - a.1.2.2.2.1).toNat
 rw [Q1g (by omega)]
 exact ⟨⟨rfl,h2,by omega⟩,by omega⟩
theorem Qbu (log:Int): -3<=Z4 true (-3:Int) (Z4 false log 4)/\Z4 true (-3:Int) (Z4 false log 4)<=4:=by
 simp only [Z4,cond_true,cond_false,Q9s,imax]
 split <;> split <;> omega
theorem QbV (n log:Int):Tot (Q3k n log) (λ_=>True):=by
 obtain ⟨h0,h1⟩:=Qbu log
 unfold Q3k Q3k.gen
 generalize Z4 true (-3:Int) (Z4 false log 4)=c at h0 h1
 refine Qa (λ_=>Q2 trivial) (λa=>Qa (λ_=>Q2 trivial) (λb=>Qa (λ_=>Q2 trivial) (λd=>QR (Q53 ?_) (Q2 trivial))))
 have a:¬c= -3:=λe=>by rw [e,Q52] at a;cases a
 have b:¬c= -2:=λe=>by rw [e,Q52] at b;cases b
 have d:¬c= -1:=λe=>by rw [e,Q52] at d;cases d
 omega
theorem QaA (log:Int):Tot (Q2T log) (λr=>1<=r.1.1/\r.1.1<=128):=by
 obtain ⟨h0,h1⟩:=Qbu log
 unfold Q2T Q2T.gen
 refine Q3 (λr=>1<=r.1.1/\r.1.1<=128) ?_ (λr hr=>Q2 hr)
 unfold Q3k Q3k.gen
 generalize Z4 true (-3:Int) (Z4 false log 4)=c at h0 h1
 have:c= -3\/c= -2\/c= -1\/c=0\/c=1\/c=2\/c=3\/c=4:=by omega
 rcases this with rfl|rfl|rfl|rfl|rfl|rfl|rfl|rfl
 ·exact ⟨((1,()),(),()),by kernel_rfl,by decide,by decide⟩
 ·exact ⟨((2,()),(),()),by kernel_rfl,by decide,by decide⟩
 ·exact ⟨((4,()),(),()),by kernel_rfl,by decide,by decide⟩
 ·exact ⟨((8,()),(),()),by kernel_rfl,by decide,by decide⟩
 ·exact ⟨((16,()),(),()),by kernel_rfl,by decide,by decide⟩
 ·exact ⟨((32,()),(),()),by kernel_rfl,by decide,by decide⟩
 ·exact ⟨((64,()),(),()),by kernel_rfl,by decide,by decide⟩
 ·exact ⟨((128,()),(),()),by kernel_rfl,by decide,by decide⟩
theorem QdK (log:Int):Tot (Q3e log) (λ_=>True):=by
 unfold Q3e Q3e.gen
 exact Q3 _ (QbV _ _) (λ_ _=>Q2 trivial)
theorem Q2e {b:List UInt8} {k:Nat} (v n:Int) (hb:b.length<=k) (hk:k<=10000000):Tot (QG b v n) (λr=>r.1.1.length<=k+8):=Q7M (QbO b v n (by omega)) λr hr=>by have:=hr.1;omega
theorem Q7R {b:List UInt8} {k:Nat} (v:Int) (hb:b.length<=k) (hk:k<=10000000):Tot (Q1U b v) (λr=>r.1.1.length<=k+8):=by
 unfold Q1U Q1U.gen
 exact Q3 _ (Q2e _ _ hb hk) (λr hr=>Q2 hr)
theorem Q89 {b:List UInt8} {k:Nat} (p:Qf) (hb:b.length<=k) (hk:k<=1000000):Tot (K90 b p) (λr=>r.1.1.length<=k+16):=by
 unfold K90 K90.gen
 exact Q3 _ (Q7R _ hb (by omega)) (λr hr=>Q3 _ (Q2e _ _ hr (by omega)) (λr hr=>Q2 hr))
theorem Qc1 {b:List UInt8} {k:Nat} (q:Qy) (hb:b.length<=k) (hk:k<=1000000):Tot (Q2Y b q) (λr=>r.1.1.length<=k+24):=by
 unfold Q2Y Q2Y.gen
 exact Q3 _ (Q2e _ _ hb (by omega)) (λr hr=>Q3 _ (Q2e _ _ hr (by omega)) (λr hr=>Q3 _ (Q2e _ _ hr (by omega)) (λr hr=>Q2 hr)))
theorem QbJ {b:List UInt8} {k:Nat} (t:Int) (hb:b.length<=k) (hk:k<=1000000):Tot (Q2M b t) (λr=>r.1.1.length<=k+16):=by
 unfold Q2M Q2M.gen
 exact Q3 _ ee (λr0 _=>Q3 (λr=>r.1.1=b) (Qa (λ_=>Q2 rfl) (λ_=>Q2 rfl)) (λr1 h1=>Q3 _ (Q2e _ _ (by rw [h1];exact hb) (by omega)) (λr hr=>Q3 _ (Q2e _ _ hr (by omega)) (λr hr=>Q2 hr))))
theorem Q9g (b:List UInt8) (h:b.length<=1000000):(bif le3 (ofN (0:Nat)) (ofN (List.length b)) (List.length b) then ieq (ofN (List.length b)) (ofN (List.length b)) else false)=true:=by
 rw [Q33 (by unfold ofN;omega) (by unfold ofN;omega) (by unfold ofN;omega),Q52];rfl
theorem Qa3 (b:List UInt8):List.drop (Int.toNat (ofN (0:Nat))) (List.take (Int.toNat (ofN (List.length b))) b)=b:=by unfold ofN;simp
theorem Qbx (b:List UInt8) (m:Q9) (hb:b.length<=1000):Tot (K3 b m) (λr=>r.1.1.length<=1200):=by
 unfold K3 K3.gen
 rw [Q9g b (by omega),Qa3]
 refine Q3 _ ee (λr0 _=>Qa (λ_=>Q2 (by show b.length<=1200;omega)) (λ_=>QR rfl (Q3 _ ee (λr1 _=>Q3 (λr=>r.1.1.length<=1016) ?_ (λr3 h3=>Q3 _ ee (λr4 _=>Q3 (λr=>r.1.1.length<=1032) ?_ (λr6 h6=>Q3 (λr=>r.1.1.length<=1200) ?_ (λr h=>Q2 h))))))))
 ·exact Qa (λ_=>Q3 _ (QbJ _ hb (by omega)) (λr hr=>Q2 hr)) (λ_=>Q2 (by show b.length<=1016;omega))
 ·exact Qa (λ_=>Q3 _ (Q89 _ h3 (by omega)) (λr hr=>Q2 hr)) (λ_=>Q2 (by show r3.1.1.length<=1032;omega))
 ·refine Qa (λ_=>Q3 _ (Q89 _ h6 (by omega)) (λr hr=>Q2 (by show r.1.1.length<=1200;omega))) (λ_=>Qa (λ_=>?_) (λ_=>Qa (λ_=>?_) (λ_=>Q2 (by show r6.1.1.length<=1200;omega))))
  ·exact Q3 _ (Q2e _ _ h6 (by omega)) (λr hr=>Q3 _ (Q2e _ _ hr (by omega)) (λr hr=>Q3 _ (Q2e _ _ hr (by omega)) (λr hr=>Q3 _ (Qc1 _ hr (by omega)) (λr hr=>Q3 _ (Q2e _ _ hr (by omega)) (λr hr=>Q3 _ (Q7R _ hr (by omega)) (λr hr=>Q3 _ (Q2e _ _ hr (by omega)) (λr hr=>Q3 _ (Q2e _ _ hr (by omega)) (λr hr=>Q2 (by show r.1.1.length<=1200;omega)))))))))
  ·exact Q3 _ (Q2e _ _ h6 (by omega)) (λr hr=>Q3 _ (Q2e _ _ hr (by omega)) (λr hr=>Q3 _ (Q2e _ _ hr (by omega)) (λr hr=>Q3 _ (Q2e _ _ hr (by omega)) (λr hr=>Q2 (by show r.1.1.length<=1200;omega)))))
theorem Qe2 (t:Qi):Tot (Q2U t) (λr=>r.1.1=true->t.Q2y.size<=400):=by
 unfold Q2U Q2U.gen
 refine Q3 _ ee (λr0 _=>Qa (λ_=>Qa (λ_=>Q2 λh=>?_) (λ_=>Q2 λh=>by cases h)) (λ_=>Q2 λh=>by cases h))
 have:=Q54 h
 unfold ofN at this
 omega
theorem QbH (b:List UInt8) (l:List Qi) (hb:b.length<=10000):Tot (Q1y b l) (λr=>r.1.1.length<=20000):=by
 unfold Q1y Q1y.gen
 rw [Q9g b (by omega),Qa3]
 refine Qa (λ_=>Q2 (by show b.length<=20000;omega)) (λh8=>QR rfl (Q3 (λr=>match r with| .inl x=>x.1.1.length<=20000| .inr x=>x.1.1.length<=20000) ?_ (λr0 h0=>Q2l (λa e=>Q2 (by subst e;exact h0)) (λa e=>Q2 (by subst e;exact h0)))))
 have h8:=Q3s h8
 unfold ofN at h8
 unfold Q1y.F0
 refine Q22 (λa=>a.1.1=b/\a.1.2.2.1=l/\a.1.2.2.2.1=(l.length:Int)/\0<=a.1.2.2.2.2.1/\(a.1.2.1.length:Int)<=10000+416*a.1.2.2.2.2.1/\a.1.2.2.2.2.1<=(l.length:Int)) (λa=>((l.length:Int) - a.1.2.2.2.2.1).toNat) (λa ⟨h1,h2,h3,h4,h5,h6⟩=>?_) _ _ ⟨rfl,rfl,rfl,Int.le_refl 0,by simp only [];omega,by simp only [];omega⟩ (by simp only [];omega)
 unfold Q1y.QO
 rw [h1,h2]
 refine Qa (λh=>?_) (λ_=>Q2 (by show a.1.2.1.length<=20000;omega))
 have h:=Q2m h
 refine QR (Q1C h4 (by omega)) (Q3 _ (Qe2 _) (λr0 hr0=>Qa (λ_=>Q2 (by show b.length<=20000;omega)) (λhc=>?_)))
 have hd:(List.getD l (Int.toNat a.1.2.2.2.2.1) Qi.zero).Q2y.size<=400:=hr0 (by cases hx:r0.1.1 with|true=>rfl|false=>rw [hx] at hc;cases hc)
 refine Q3 _ (Q2e _ _ (Nat.le_refl _) (by omega)) (λr1 g1=>Q3 _ (Q2e _ _ g1 (by omega)) (λr2 g2=>QR (Q2W (by rw [Q8N];omega)) (Q2 ?_)))
 rw [Q1g (by omega)]
 refine ⟨⟨rfl,rfl,h3,?_,?_,?_⟩,?_⟩
 ·show 0<=a.1.2.2.2.2.1+1;omega
 ·show ((r2.1.1++(List.getD l (Int.toNat a.1.2.2.2.2.1) Qi.zero).Q2y.data.toList).length:Int)<=10000+416*(a.1.2.2.2.2.1+1)
  rw [List.length_append,Q8N];omega
 ·show a.1.2.2.2.2.1+1<=(l.length:Int);omega
 ·show ((l.length:Int) - (a.1.2.2.2.2.1+1)).toNat < ((l.length:Int) - a.1.2.2.2.2.1).toNat;omega
theorem Qea (m:Q9) (n:Int):Tot (K83 m n) (λr=>r.1.1.length<=200):=by
 unfold K83 K83.gen
 refine Q3 (λ_=>True) (Q3 _ ee (λr0 _=>Qa (λ_=>Q2 trivial) (λ_=>Q3 _ (QcL _ _ _) (λ_ _=>Q2 trivial)))) (λr2 _=>Qa (λ_=>Q2 (Nat.zero_le _)) (λ_=>?_))
 have hb:(UInt8.ofNat (Int.toNat (IntKind.wrap IntKind.u8 m.fType))::UInt8.ofNat (Int.toNat 18)::Qn UInt8).length<=2:=Nat.le_refl _
 exact Q3 _ (Q2e _ _ hb (by omega)) (λr hr=>Q3 _ (Q2e _ _ hr (by omega)) (λr hr=>Q3 _ (Q2e _ _ hr (by omega)) (λr hr=>Q3 _ (Q2e _ _ hr (by omega)) (λr hr=>Q3 _ (Q2e _ _ hr (by omega)) (λr hr=>Q3 _ (Q2e _ _ hr (by omega)) (λr hr=>Q3 _ (Q89 _ hr (by omega)) (λr hr=>Q3 _ (Q2e _ _ hr (by omega)) (λr hr=>Q3 _ ee (λr11 _=>Q3 _ (Q2e _ _ hr (by omega)) (λr hr=>Q3 _ (Q2e _ _ hr (by omega)) (λr hr=>Q2 (by show r.1.1.length<=200;omega))))))))))))
theorem Qeq (m:Q9) (l:List Qi):Tot (K79 m l) (λ_=>True):=by
 unfold K79 K79.gen
 refine Q3 _ (Qbx _ _ (by decide)) (λr0 h0=>Qa (λ_=>Q2 trivial) (λ_=>Q3 _ (QbH _ _ (by omega)) (λr1 h1=>Qa (λ_=>Q2 trivial) (λ_=>Q3 _ (Qea _ _) (λr2 h2=>Qa (λ_=>Q2 trivial) (λ_=>QR ?_ (Q2 trivial)))))))
 apply Nat.ble_eq_true_of_le
 have e1:ByteArray.size (ByteArray.mk (List.toArray r2.1.1))=r2.1.1.length:=Q6X _
 have e2:ByteArray.size (ByteArray.mk (List.toArray r1.1.1))=r1.1.1.length:=Q6X _
 rw [e1,e2]
 omega
theorem QdQ (l:List Int):Tot (Q1q l) (λ_=>True):=by
 unfold Q1q Q1q.gen
 refine Qa (λ_=>Q2 trivial) (λh16=>Q3 (λ_=>True) ?_ (λ_ _=>Q2 trivial))
 have h16:=Q3s h16
 unfold ofN at h16
 unfold Q1q.F0
 refine Q22 (λa=>a.1.2.1=l/\a.1.2.2.1=(l.length:Int)/\0<=a.1.2.2.2.1/\(a.1.1.length:Int)<=8*a.1.2.2.2.1) (λa=>((l.length:Int) - a.1.2.2.2.1).toNat) (λa ⟨h1,h2,h3,h4⟩=>?_) _ _ ⟨rfl,rfl,Int.le_refl 0,Int.le_refl 0⟩ (by simp only [];omega)
 unfold Q1q.QO
 rw [h1]
 refine Qa (λh=>?_) (λ_=>Q2 trivial)
 have h:=Q2m h
 refine QR (Q1C h3 (by omega)) (Q3 _ (Q7R _ (Nat.le_refl _) (by omega)) (λr0 hr0=>Q2 ?_))
 rw [Q1g (by omega)]
 refine ⟨⟨rfl,h2,?_,?_⟩,?_⟩
 ·show 0<=a.1.2.2.2.1+1;omega
 ·show (r0.1.1.length:Int)<=8*(a.1.2.2.2.1+1);omega
 ·show ((l.length:Int) - (a.1.2.2.2.1+1)).toNat < ((l.length:Int) - a.1.2.2.2.1).toNat;omega
structure Q3G (c:Q8):Prop where
 out:K59 c=some ((0,()),(),())
theorem Qcx (t:Qi):Tot (Q2u t) (λr=>r.1.1=true->t.fType=1->2<=t.Q2y.size):=by
 by_cases ht:t.fType=1
 ·unfold Q2u Q2u.gen
  rw [ht]
  refine Q3 (λr=>match r with| .inl _=>False| .inr x=>x.1.1=true->2<=t.Q2y.size) ?_ (λr1 h1=>Q2l (λa e=>by subst e;exact h1.elim) (λa e=>Q2 (by subst e;exact λh _=>h1 h)))
  exact Q2 λh=>by have:=Q54 h;unfold ofN at this;omega
 ·exact Q7M ((ee (x:=Q2u t))) λ_ _ _ e=>absurd e ht
theorem QdI (t:Qi) (ht:t.Q2y.size<=400):Tot (Q2L t) (λr=>r.1.2.1.size<=400):=by
 unfold Q2L Q2L.gen
 refine Q3 (λr=>r.1=false->2<=t.Q2y.size) (Qa (λ_=>Q2 λh=>by cases h) (λhn=>Q3 _ (Qcx _) (λr0 h0=>Q2 λh=>?_))) (λr1 h1=>Qa (λ_=>Q2 (by show ByteArray.size (ByteArray.mk (List.toArray (Qn UInt8)))<=400;decide)) (λhf=>Q3 _ (Q4E _ _ _ (by unfold Q4m;rw [Q8N];omega)) (λr2 _=>QR (Q33 (by decide) (by have:=h1 hf;unfold ofN;omega) (by unfold ofN;omega)) (Q2 ?_))))
 ·refine h0 (by cases hx:r0.1.1 with|true=>rfl|false=>rw [hx] at h;cases h) ?_
  unfold ine at hn
  simpa using hn
 ·show (ByteArray.extract t.Q2y (Int.toNat 2) (Int.toNat (ofN (ByteArray.size t.Q2y)))).size<=400
  rw [ByteArray.size_extract]
  unfold ofN
  omega
theorem Qc3 (l:List Bool) (hl:l.length<=8):Tot (Q1l l) (λ_=>True):=by
 unfold Q1l Q1l.gen
 refine Q3 (λ_=>True) ?_ (λ_ _=>Q2 trivial)
 unfold Q1l.F0
 refine Q22 (λa=>a.1.2.1=l/\a.1.2.2.1=(l.length:Int)/\0<=a.1.2.2.2.1) (λa=>((l.length:Int) - a.1.2.2.2.1).toNat) (λa ⟨h1,h2,h3⟩=>?_) _ _ ⟨rfl,rfl,Int.le_refl 0⟩ (by simp only [];omega)
 unfold Q1l.QO
 rw [h1]
 refine Qa (λh=>?_) (λ_=>Q2 trivial)
 have h:=Q2m h
 refine QR (Q1C h3 (by omega)) (Q3 (λr=>r.1.2=a.1.2) (Qa (λ_=>QR (Q53 h3) (Q2 rfl)) (λ_=>Q2 rfl)) (λr hr=>Q2 ?_))
 rw [hr,Q1g (by omega)]
 refine ⟨⟨h1,h2,?_⟩,?_⟩
 ·show 0<=a.1.2.2.2.1+1;omega
 ·show ((l.length:Int) - (a.1.2.2.2.1+1)).toNat < ((l.length:Int) - a.1.2.2.2.1).toNat;omega
theorem Q9Q {b:List UInt8} {k:Nat} (v:Int) (hb:b.length<=k) (hk:k<=1000000):Tot (Q2Z b v) (λr=>r.1.1.length<=k+8):=by
 unfold Q2Z Q2Z.gen
 exact Q3 _ (Q2e _ _ hb (by omega)) (λr hr=>Q2 hr)
theorem Q8W:(Qn UInt8).length<=0:=Nat.le_refl 0
theorem Qdm (c:Q8) (id:Int):Tot (Q3H c id) (λr=>r.1.1.length<=400):=by
 unfold Q3H Q3H.gen
 refine Q3 (λr=>match r with| .inl _=>True| .inr x=>x.1.1.length<=400) ?_ (λr1 h1=>Q2l (λa e=>Q3 _ (Q9Q _ Q8W (by omega)) (λr hr=>Q3 _ (Q9Q _ hr (by omega)) (λr hr=>Q2 (by show r.1.1.length<=400;omega)))) (λa e=>Q2 (by subst e;exact h1)))
 repeat' first
  |exact Q2 trivial
  |exact Q2 (Nat.zero_le 400)
  |refine Qa (λ_=>?_) (λ_=>?_)
  |refine Q3 _ (Qc3 _ (by simp [Qn])) (λ_ _=>?_)
theorem QdU (v:Q1w) (id:Int):Tot (Q3U v id) (λr=>r.1.1.length<=400):=by
 unfold Q3U Q3U.gen
 have fin:∀{k:Nat} {x:List UInt8},x.length<=k->k<=400->x.length<=400:=λh h2=>Nat.le_trans h h2
 repeat' first
  |with_reducible refine Qa (λ_=>?_) (λ_=>?_)
  |with_reducible refine Q3 _ (Qc3 _ (by simp [Qn])) (λ_ _=>?_)
  |with_reducible refine Q3 _ ee (λ_ _=>?_)
  |with_reducible refine Q3 _ (Qdm _ _) (λr hr=>?_)
  |with_reducible refine Q3 _ (Q9Q _ Q8W (by omega)) (λr hr=>?_)
  |with_reducible refine Q3 _ (Q2e _ _ Q8W (by omega)) (λr hr=>?_)
  |with_reducible refine Q3 _ (Q89 _ Q8W (by omega)) (λr hr=>?_)
  |with_reducible refine Q3 _ (QbJ _ Q8W (by omega)) (λr hr=>?_)
  |with_reducible refine Q3 _ (Q9Q _ (by assumption) (by omega)) (λr hr=>?_)
  |with_reducible refine Q3 _ (Q2e _ _ (by assumption) (by omega)) (λr hr=>?_)
  |with_reducible refine Q3 _ (Q7R _ (by assumption) (by omega)) (λr hr=>?_)
  |with_reducible refine Q3 _ (Q89 _ (by assumption) (by omega)) (λr hr=>?_)
  |with_reducible refine Q3 _ (Qc1 _ (by assumption) (by omega)) (λr hr=>?_)
  |refine Q2 (fin (by assumption) (by omega))
structure Q2D (c d:Q8):Prop where
 clock:d.QF=c.QF
 Q3R:d.Qv=c.Qv
theorem Q2D.rfl' (c:Q8):Q2D c c:=⟨rfl,rfl⟩
theorem set_t (c:Q8) (id:Int) (b:ByteArray) (hb:b.size=2):Tot (Q4d c id b) (λr=>Q2D c r.1.1):=by
 unfold Q4d Q4d.gen
 refine QR (Q1C (Int.le_refl 0) (by omega)) (QR (Q1C (Int.le_refl 0) (by omega)) (Q3 (λr=>Q2D c r.2.1) ?_ (λr hr=>Q2 hr)))
 repeat' first
  |exact Q2 ⟨rfl,rfl⟩
  |refine Qa (λ_=>?_) (λ_=>?_)
theorem Qd6 (id:Int):Tot (Q40 id) (λr=>r.1.1=2\/id=0\/id=8205\/id=8206):=by
 unfold Q40 Q40.gen
 refine Q3 (λr=>r.1.1=true->id=0\/id=8205\/id=8206) ?_ (λr hr=>Qa (λh=>Q2 (.inr (hr h))) (λ_=>Q2 (.inl rfl)))
 exact Qa (λh=>Q2 λ_=>.inl (Q8t.1 h)) (λ_=>Qa (λh=>Q2 λ_=>.inr (.inl (Q8t.1 h))) (λ_=>Q2 λh=>.inr (.inr (Q8t.1 h))))
theorem cmd_t (id:Int):Tot (Q49 id) (λr=>r.1.1=false->id≠8205/\id≠8206):=by
 unfold Q49 Q49.gen
 refine Qa (λ_=>Q2 λh=>by cases h) (λ_=>Qa (λ_=>Q2 λh=>by cases h) (λ_=>Qa (λ_=>Q2 λh=>by cases h) (λh1=>Q2 λh2=>⟨?_,?_⟩)))
 ·intro e;rw [e,Q52] at h1;cases h1
 ·intro e
  have h2:ieq id 8206=false:=h2
  rw [e,Q52] at h2;cases h2
theorem Qe1 (v:Q1w) (a id:Int) (d:ByteArray) (hc:Q3G v.QS) (hd:d.size<=400):Tot (Q3w v a id d) (λr=>r.1.1.size<=400/\Q3G r.1.2.1/\Q2D v.QS r.1.2.1/\(a=3->r.1.2.1=v.QS)):=by
 have hn:ByteArray.size (ByteArray.mk (List.toArray (Qn UInt8)))<=400:=by decide
 have hS:=Q2D.rfl' v.QS
 unfold Q3w Q3w.gen
 refine Q3 _ ee (λr0 _=>Q3 (λr=>match r with| .inl x=>Q3G x.2.1.QS/\Q2D v.QS x.2.1.QS/\a≠3| .inr x=>x.1.1.size<=400/\Q3G x.2.1/\Q2D v.QS x.2.1/\(a=3->x.2.1=v.QS)) ?_ (λr14 h14=>Q2l (λx e=>?_) (λx e=>Q2 (by subst e;exact h14))))
 ·refine Qa (λ_=>Q2 ⟨hn,hc,hS,λ_=>rfl⟩) (λ_=>Q3 (λ_=>True) ?_ (λr1 _=>Qa (λ_=>Q2 ⟨hn,hc,hS,λ_=>rfl⟩) (λ_=>Q3 (λ_=>True) ?_ (λr3 _=>?_))))
  ·exact Qa (λ_=>Qa (λ_=>Q2 trivial) (λ_=>Q2 trivial)) (λ_=>Q2 trivial)
  ·exact Qa (λ_=>Q3 _ ee (λ_ _=>Q2 trivial)) (λ_=>Q2 trivial)
  refine Q3 (λr=>r.1.1=a/\r.1.2.1=id/\r.1.2.2.1=d/\r.2.1=v/\(r.1.2.2.2.1=false->a≠3->id=0\/(id≠8205/\id≠8206))) ?_ (λr6 ⟨g1,g2,g3,g4,g5⟩=>?_)
  ·refine Qa (λh=>Q2 ⟨rfl,rfl,rfl,rfl,λh2=>by rw [show r3.1=false from h2] at h;cases h⟩) (λ_=>Q3 (λr=>r.1=false->a≠3->id=0\/(id≠8205/\id≠8206)) (Qa (λ_=>Q3 _ (cmd_t _) (λr4 h4=>Qa (λ_=>Q2 λh _=>.inl ?_) (λh=>Q2 λ_ _=>.inr (h4 h)))) (λh=>Q2 λ_ h3=>?_)) (λr5 h5=>Q2 ⟨rfl,rfl,rfl,rfl,h5⟩))
   ·unfold ine at h;simpa using h
   ·unfold ine at h;exact absurd (by simpa using h) h3
  rw [g1,g2,g3,g4]
  refine Qa (λ_=>Q2 ⟨hn,hc,hS,λ_=>rfl⟩) (λh6=>Q3 (λ_=>True) (Qa (λ_=>Q3 _ ee (λ_ _=>Q2 trivial)) (λ_=>Q2 trivial)) (λr8 _=>Qa (λ_=>Q2 ⟨hn,hc,hS,λ_=>rfl⟩) (λ_=>Q3 (λr=>r.1=false->a≠0->d.size=2\/id=0\/id=8205\/id=8206) ?_ (λr10 h10=>Qa (λ_=>Q2 ⟨hn,hc,hS,λ_=>rfl⟩) (λh10f=>Qa (λ_=>Q2 ⟨hd,hc,hS,λ_=>rfl⟩) (λhn3=>?_))))))
  ·refine Qa (λ_=>Q3 _ (Qd6 _) (λr9 h9=>Q2 λh _=>?_)) (λh=>Q2 λ_ h0=>?_)
   ·have h:ofN d.size=r9.1.1:=by unfold ine at h;simpa using h
    unfold ofN at h
    omega
   ·unfold ine at h;exact absurd (by simpa using h) h0
  have ha3:a≠3:=λe=>by rw [e,Q52] at hn3;cases hn3
  refine Q3 (λr=>r.1=true->a=1/\id≠0) (Qa (λh=>Q2 λh2=>⟨Q8t.1 h,Qax.1 h2⟩) (λ_=>Q2 λh=>by cases h)) (λr11 h11=>Qa (λh=>?_) (λ_=>Q2 ⟨by show Q3G r6.2.1.QS;rw [g4];exact hc,by show Q2D v.QS r6.2.1.QS;rw [g4];exact hS,ha3⟩))
  obtain ⟨ha,hi⟩:=h11 h
  have h2:d.size=2:=by
   have:=h10 h10f (by omega)
   have:=g5 h6 ha3
   omega
  refine Q3 _ (set_t _ _ _ h2) (λr12 h12=>Q3 (λr=>K59 r12.1.1=some r) ?_ (λr13 h13=>Qa (λ_=>Q2 ⟨hn,hc,hS,λ_=>rfl⟩) (λhz=>Q2 ⟨?_,h12,ha3⟩)))
  ·obtain ⟨x,hx,_⟩:=(ee (x:=K59 r12.1.1))
   exact ⟨x,hx,hx⟩
  ·have:r13.1.1=0:=by unfold ine at hz;simpa using hz
   obtain ⟨⟨z,u⟩,w,w'⟩:=r13
   have this:z=0:=this
   subst this
   exact ⟨h13⟩
 ·subst e
  exact Q3 _ (QdU _ _) (λr16 h16=>Q2 ⟨by show ByteArray.size (ByteArray.mk (List.toArray r16.1.1))<=400;rw [show ByteArray.size (ByteArray.mk (List.toArray r16.1.1))=r16.1.1.length from Q6X _];exact h16,h14.1,h14.2.1,λh=>absurd h h14.2.2⟩)
theorem Qdd (e id:Int):Tot (Q3T e id) (λ_=>True):=by
 unfold Q3T Q3T.gen
 exact Q3 (λ_=>True) (Q3 _ ee (λ_ _=>Qa (λ_=>Q2 trivial) (λ_=>Q3 _ ee (λ_ _=>Q2 trivial)))) (λr2 _=>Qa (λ_=>Q2 trivial) (λ_=>Q3 _ (Q2e _ _ Q8W (by omega)) (λr hr=>Q3 _ (Q2e _ _ hr (by omega)) (λr hr=>Q3 _ (Q2e _ _ hr (by omega)) (λr hr=>Q2 trivial)))))
theorem Qe4 (id:Int) (d:ByteArray) (hd:d.size<=400):Tot (Q3I id d) (λ_=>True):=by
 unfold Q3I Q3I.gen
 refine Q3 (λ_=>True) (Q3 _ ee (λ_ _=>Qa (λ_=>Q2 trivial) (λ_=>Q2 trivial))) (λr1 _=>Qa (λ_=>Q2 trivial) (λ_=>Q3 _ (Q2e _ _ Q8W (by omega)) (λr2 hr2=>?_)))
 have hl:(r2.1.1++d.data.toList).length<=1000:=by rw [List.length_append,Q8N];omega
 refine QR (Q2W (by rw [Q8N];omega)) (Q3 (λ_=>True) (Qa (λ_=>?_) (λ_=>Q2 trivial)) (λr3 _=>Qa (λ_=>Q2 trivial) (λ_=>Q2 trivial)))
 rw [Q9g _ (by omega),Qa3]
 exact QR rfl (QR (Q2W (by simp only [List.length_cons,Qn,List.length_nil];omega)) (Q2 trivial))
section
open Ieee
theorem Q8M {a:Nat} (j:Nat) (h:0 < a):(a <<< j).log2=a.log2+j:=by
 have h0:a≠0:=by omega
 have h1:a <<< j≠0:=by rw [Nat.shiftLeft_eq];exact Nat.mul_ne_zero h0 (Nat.ne_of_gt (Nat.two_pow_pos j))
 rw [Nat.log2_eq_iff h1]
 have h2:=(Nat.log2_eq_iff (k:=a.log2) h0).1 rfl
 rw [Nat.shiftLeft_eq]
 constructor
 ·rw [Nat.pow_add];exact Nat.mul_le_mul_right _ h2.1
 ·rw [show a.log2+j+1=(a.log2+1)+j by omega,Nat.pow_add]
  exact Nat.mul_lt_mul_of_pos_right h2.2 (Nat.two_pow_pos j)
theorem Q8a (w:Toward) (neg:Bool) (hw:w= .even\/w= .zero) (n d:Nat):Toward.cut w neg (n <<< d) d=n:=by
 have hgap:0 < 1 <<< min d ((n <<< d).log2+2):=by rw [Nat.shiftLeft_eq,Nat.one_mul];exact Nat.two_pow_pos _
 unfold Toward.cut
 rcases Nat.eq_zero_or_pos n with h0|h0
 ·subst h0
  simp only [Nat.zero_shiftLeft,Nat.zero_div,Nat.zero_mod]
  rcases hw with rfl|rfl <;> simp <;> omega
 ·have hm:min d ((n <<< d).log2+2)=d:=by rw [Q8M d h0];omega
  rw [hm]
  have e1:n <<< d / 1 <<< d=n:=by rw [Nat.shiftLeft_eq,Nat.shiftLeft_eq,Nat.one_mul];exact Nat.mul_div_cancel _ (Nat.two_pow_pos d)
  have e2:n <<< d % 1 <<< d=0:=by rw [Nat.shiftLeft_eq,Nat.shiftLeft_eq,Nat.one_mul];exact Nat.mul_mod_left _ _
  simp only [e1,e2]
  rw [hm] at hgap
  rcases hw with rfl|rfl <;> simp <;> omega
theorem cut_0 (w:Toward) (neg:Bool) (hw:w= .even\/w= .zero) (n:Nat):Toward.cut w neg n 0=n:=by
 have:=Q8a w neg hw n 0
 rwa [Nat.shiftLeft_zero] at this
def Q5W (a:Nat):Nat:=(a.log2+1022)*2^52+a <<< (52 - a.log2)
theorem Q7A {a:Nat} (h:0 < a) (hb:a < 2^53):a.log2<=52:=by
 have:=(Nat.log2_lt (by omega:a≠0)).2 hb
 omega
theorem Qby {a:Nat} (h:0 < a) (hb:a < 2^53):2^52<=a <<< (52 - a.log2)/\a <<< (52 - a.log2) < 2^53:=by
 have h1:=Q7A h hb
 have h2:=Q8M (52 - a.log2) h
 have h3:a <<< (52 - a.log2)≠0:=by rw [Nat.shiftLeft_eq];exact Nat.mul_ne_zero (by omega) (Nat.ne_of_gt (Nat.two_pow_pos _))
 have h4:=(Nat.log2_eq_iff h3 (k:=52)).1 (by rw [h2];omega)
 exact ⟨h4.1,h4.2⟩
theorem Q81 (neg:Bool) (a j:Nat) (ha:0 < a) (hb:a < 2^53):double.nearest neg (a <<< j) (-(j:Int))=double.word neg (Q5W a):=by
 have h1:=Q7A ha hb
 have h2:=Qby ha hb
 have h0:a <<< j≠0:=by rw [Nat.shiftLeft_eq];exact Nat.mul_ne_zero (by omega) (Nat.ne_of_gt (Nat.two_pow_pos j))
 unfold Format.nearest
 rw [if_neg h0,Q8M j ha]
 have hl:double.leastPlace= -1074:=by decide
 have hf:double.fractionBits=52:=rfl
 rw [hl,hf]
 have e1:max (-(j:Int)+((a.log2+j:Nat):Int) - ((52:Nat):Int)) (-1074)=(a.log2:Int) - 52:=by omega
 simp only [e1]
 have e2:((a.log2:Int) - 52 - -1074).toNat=a.log2+1022:=by omega
 rw [e2]
 have e3:Toward.even.cut neg (a <<< j <<< (-(j:Int) - ((a.log2:Int) - 52)).toNat) ((a.log2:Int) - 52 - -(j:Int)).toNat=a <<< (52 - a.log2):=by
  by_cases hj:j<=52 - a.log2
  ·rw [show (-(j:Int) - ((a.log2:Int) - 52)).toNat=52 - a.log2 - j by omega,show ((a.log2:Int) - 52 - -(j:Int)).toNat=0 by omega,cut_0 _ _ (.inl rfl),←Nat.shiftLeft_add]
   congr 1;omega
  ·rw [show (-(j:Int) - ((a.log2:Int) - 52)).toNat=0 by omega,Nat.shiftLeft_zero]
   have:a <<< j=(a <<< (52 - a.log2)) <<< ((a.log2:Int) - 52 - -(j:Int)).toNat:=by rw [←Nat.shiftLeft_add];congr 1;omega
   rw [this]
   exact Q8a _ _ (.inl rfl) _ _
 rw [e3]
 have hbn:double.binade=2^52:=rfl
 have hir:double.infRung=2047*2^52:=rfl
 rw [hbn,hir,Nat.min_eq_left]
 ·unfold Q5W;exact rfl
 ·obtain ⟨_,h3⟩:=h2
  clear e3 e2 e1
  generalize a <<< (52 - a.log2)=k at*
  generalize a.log2=l at*
  clear h0 hl hf hbn hir
  omega
theorem Qd5 {a:Nat} (ha:0 < a) (hb:a < 2^53):Q5W a < 2^63/\Q5W a / 2^52=a.log2+1023/\Q5W a % 2^52+2^52=a <<< (52 - a.log2):=by
 have h1:=Q7A ha hb
 obtain ⟨h2,h3⟩:=Qby ha hb
 unfold Q5W
 generalize a <<< (52 - a.log2)=k at*
 generalize a.log2=l at*
 refine ⟨?_,?_,?_⟩ <;> omega
theorem QbK (neg:Bool) (a:Nat) (ha:0 < a) (hb:a < 2^53):double.read (double.word neg (Q5W a))= .number neg (a <<< (52 - a.log2)) ((a.log2:Int) - 52):=by
 obtain ⟨h1,h2,h3⟩:=Qd5 ha hb
 have h4:=Q7A ha hb
 unfold Format.read
 have hs:double.signWeight=2^63:=rfl
 have hbn:double.binade=2^52:=rfl
 have hir:double.infRung=2047*2^52:=rfl
 have hl:double.leastPlace= -1074:=by decide
 have hn:double.word neg (Q5W a) / double.signWeight % 2=neg.toNat/\double.word neg (Q5W a) % double.signWeight=Q5W a:=by
  unfold Format.word
  rw [hs]
  cases neg <;> simp <;> omega
 simp only [hn.1,hn.2,hbn,hir,hl]
 generalize Q5W a=r at*
 rw [if_neg (by omega),if_pos (by omega),h2]
 congr 1
 ·cases neg <;> rfl
 ·omega
 ·omega
def fW (n:Int):Nat:=floatOfInt .f64 n
theorem Q7w:fW 0=0:=by decide
theorem QcP {n:Int} (h:n≠0) (hb:n.natAbs < 2^53):fW n=double.word (decide (n < 0)) (Q5W n.natAbs):=by
 have:=Q81 (decide (n < 0)) n.natAbs 0 (by omega) hb
 rw [Nat.shiftLeft_zero] at this
 exact this
theorem Q5M {n:Int} (hb:n.natAbs < 2^53):∃(k:Nat),double.read (fW n)= .number (decide (n < 0)) (n.natAbs <<< k) (-(k:Int))/\k<=1074:=by
 by_cases h:n=0
 ·subst h
  exact ⟨1074,by rw [Q7w];decide,by omega⟩
 ·have h1:=Q7A (a:=n.natAbs) (by omega) hb
  refine ⟨52 - n.natAbs.log2,?_,by omega⟩
  rw [QcP h hb,QbK _ _ (by omega) hb]
  congr 1
  omega
theorem Q6I (n:Int) (k u:Nat):signed (decide (n < 0)) (n.natAbs <<< k) u=n*2^(k+u):=by
 unfold signed
 rw [←Nat.shiftLeft_add,Nat.shiftLeft_eq]
 have h2:((2^(k+u):Nat):Int)=2^(k+u):=by simp
 by_cases h:n < 0
 ·rw [if_pos (by simpa using h)]
  rw [Int.natCast_mul,h2,show ((n.natAbs:Nat):Int)= -n by omega,Int.neg_mul,Int.neg_neg]
 ·rw [if_neg (by simpa using h)]
  rw [Int.natCast_mul,h2,show ((n.natAbs:Nat):Int)=n by omega]
theorem Q8v (n:Int) (k:Nat) (h:n≠0) (hb:n.natAbs < 2^53):double.write (.number (decide (n < 0)) (n.natAbs <<< k) (-(k:Int)))=fW n:=by
 rw [QcP h hb]
 exact Q81 _ _ _ (by omega) hb
theorem Qe0 {x y:Int} (hx:x.natAbs < 2^53) (hy:y.natAbs < 2^53) (hs:(x+y).natAbs < 2^53):floatBits .add .f64 (fW x) (fW y)=some (fW (x+y)):=by
 obtain ⟨i,hi,hi'⟩:=Q5M hx
 obtain ⟨j,hj,hj'⟩:=Q5M hy
 show double.add (fW x) (fW y)=_
 unfold Format.add
 rw [hi,hj]
 unfold Datum.sum
 simp only [Option.map_some]
 rw [Q6I,Q6I]
 have hk:min (-(i:Int)) (-(j:Int))= -((max i j:Nat):Int):=by omega
 rw [hk,show i+(-(i:Int) - -((max i j:Nat):Int)).toNat=max i j by omega,show j+(-(j:Int) - -((max i j:Nat):Int)).toNat=max i j by omega,←Int.add_mul]
 have hp:(0:Int) < 2^(max i j):=Int.pow_pos (by decide)
 by_cases h0:x+y=0
 ·rw [h0,Int.zero_mul,if_pos rfl]
  have:(decide (x < 0) && decide (y < 0))=false:=by
   by_cases hx0:x < 0
   ·have:¬y < 0:=by omega
    simp [this]
   ·simp [hx0]
  rw [this,Q7w]
  unfold Format.write Format.nearest Format.word
  simp
 ·have h1:(x+y)*2^(max i j)≠0:=Int.mul_ne_zero h0 (Int.ne_of_gt hp)
  rw [if_neg h1]
  have h2:decide ((x+y)*2^(max i j) < 0)=decide (x+y < 0):=by
   by_cases hn:x+y < 0
   ·have:=Int.mul_neg_of_neg_of_pos hn hp
    simp [hn,this]
   ·have:=Int.mul_nonneg (show 0<=x+y by omega) (Int.le_of_lt hp)
    simp [hn];omega
  have h3:((x+y)*2^(max i j)).natAbs=(x+y).natAbs <<< (max i j):=by
   rw [Int.natAbs_mul,Nat.shiftLeft_eq,Int.natAbs_pow];rfl
  rw [h2,h3,Q8v _ _ h0 hs]
theorem QaC {x:Int} (hx:x.natAbs < 2^53):floatBits .mul .f64 (fW x) (fW 1)=some (fW x):=by
 obtain ⟨i,hi,hi'⟩:=Q5M hx
 have h1:double.read (fW 1)= .number false (1 <<< 52) (-52):=by decide
 show double.mul (fW x) (fW 1)=_
 unfold Format.mul
 rw [hi,h1]
 unfold Datum.product
 simp only [Option.map_some]
 have e:x.natAbs <<< i*1 <<< 52=x.natAbs <<< (i+52):=by
  rw [Nat.shiftLeft_eq,Nat.shiftLeft_eq,Nat.shiftLeft_eq,Nat.one_mul,Nat.mul_assoc,←Nat.pow_add]
 rw [e,show (-(i:Int)+ -52)= -((i+52:Nat):Int) by omega]
 by_cases h0:x=0
 ·subst h0
  rw [Q7w]
  unfold Format.write Format.nearest Format.word
  simp
 ·rw [show (decide (x < 0)^^false)=decide (x < 0) by simp,Q8v _ _ h0 hx]
theorem QeJ {x y:Int} (hx:x.natAbs < 2^53) (hy:y.natAbs < 2^53):∃r,floatBits .sub .f64 (fW x) (fW y)=some r:=by
 obtain ⟨i,hi,hi'⟩:=Q5M hx
 obtain ⟨j,hj,hj'⟩:=Q5M hy
 have:∃r,double.sub (fW x) (fW y)=some r:=by
  unfold Format.sub
  rw [hi,hj]
  exact ⟨_,rfl⟩
 exact this
theorem Q80 {x y:Int} (hx:x.natAbs < 2^53) (hy:y.natAbs < 2^53):(FloatKind.f64.format).order (fW x) (fW y)=some (compare x y):=by
 obtain ⟨i,hi,hi'⟩:=Q5M hx
 obtain ⟨j,hj,hj'⟩:=Q5M hy
 show double.order (fW x) (fW y)=_
 unfold Format.order
 rw [hi,hj]
 unfold Datum.order
 simp only []
 rw [Q6I,Q6I]
 have hk:min (-(i:Int)) (-(j:Int))= -((max i j:Nat):Int):=by omega
 rw [hk,show i+(-(i:Int) - -((max i j:Nat):Int)).toNat=max i j by omega,show j+(-(j:Int) - -((max i j:Nat):Int)).toNat=max i j by omega]
 have hp:(0:Int) < 2^(max i j):=Int.pow_pos (by decide)
 generalize (2:Int)^(max i j)=p at*
 congr 1
 rcases Int.lt_trichotomy x y with h|h|h
 ·rw [Int.compare_eq_lt.2 h,Int.compare_eq_lt.2 (Int.mul_lt_mul_of_pos_right h hp)]
 ·subst h
  rw [Int.compare_eq_eq.2 rfl,Int.compare_eq_eq.2 rfl]
 ·rw [Int.compare_eq_gt.2 h,Int.compare_eq_gt.2 (Int.mul_lt_mul_of_pos_right h hp)]
theorem Q8y {x:Int} (hx:x.natAbs < 2^53):(double.read (fW x)).integral .zero= .number (decide (x < 0)) x.natAbs 0:=by
 obtain ⟨i,hi,hi'⟩:=Q5M hx
 rw [hi]
 unfold Datum.integral
 simp only []
 rw [show (-(i:Int)).toNat=0 by omega,Nat.shiftLeft_zero,show (- -(i:Int)).toNat=i by omega,Q8a _ _ (.inr rfl)]
theorem Qcm {x:Int} (hx:x.natAbs < 2^53):floatToIntVal .f64 (fW x) .i64=some x:=by
 unfold floatToIntVal FloatKind.decode
 show (match ((double.read (fW x)).toInt .zero) with
 |some n=>if IntKind.i64.min<=n/\n<=IntKind.i64.max then some n else none
 |none=>none)=_
 unfold Datum.toInt
 rw [Q8y hx]
 simp only []
 have:=Q6I x 0 0
 rw [Nat.shiftLeft_zero] at this
 rw [this]
 have h1:IntKind.i64.min= -9223372036854775808:=by decide
 have h2:IntKind.i64.max=9223372036854775807:=by decide
 rw [h1,h2,if_pos (by constructor <;> omega)]
 simp
theorem Qcu {x:Int} (hx:x.natAbs < 2^53):Z2h (fW x)=some (fW x):=by
 have h:=Q8y hx
 obtain ⟨i,hi,hi'⟩:=Q5M hx
 unfold Z2h FloatKind.decode
 show (match double.read (fW x) with
 | .nan _ _=>none
 |d=>some (FloatKind.f64.encode (d.integral .zero)))=_
 rw [hi] at h ⊢
 simp only [h]
 rfl
end
theorem QdN:(4607182418800017408:Nat)=fW 1:=by decide
theorem fW_lo:(14063734437023318016:Nat)=fW (-4000000000000000):=by decide
theorem fW_hi:(4840362400168542208:Nat)=fW 4000000000000000:=by decide
theorem sg_0:Q4i 0=some ((false,()),(),()):=by kernel_rfl
theorem Qb5 {x:Int} (h:x.natAbs < 2^53):Q4y (fW x)=some ((fW x,()),(),()):=by
 unfold Q4y Q4y.gen
 rw [Qcu h]
 rfl
theorem Q93 {x:Int} (h0: -4000000000000000<=x) (h1:x<=4000000000000000):Q3X (fW x)=some ((true,()),(),()):=by
 have hb:x.natAbs < 2^53:=by omega
 unfold Q3X Q3X.gen
 rw [fW_lo,fW_hi,Q80 hb (by decide),Q80 hb (by decide),Qb5 hb]
 simp only [Qq]
 rw [Q80 hb hb]
 have e1:(some (compare x (-4000000000000000))==some Ordering.gt||some (compare x (-4000000000000000))==some Ordering.eq)=true:=by
  rcases Int.lt_trichotomy x (-4000000000000000) with h|h|h
  ·omega
  ·rw [Int.compare_eq_eq.2 h];rfl
  ·rw [Int.compare_eq_gt.2 h];rfl
 have e2:(some (compare x 4000000000000000)==some Ordering.lt||some (compare x 4000000000000000)==some Ordering.eq)=true:=by
  rcases Int.lt_trichotomy x 4000000000000000 with h|h|h
  ·rw [Int.compare_eq_lt.2 h];rfl
  ·rw [Int.compare_eq_eq.2 h];rfl
  ·omega
 have e3:(some (compare x x)==some Ordering.eq)=true:=by rw [Int.compare_eq_eq.2 rfl];rfl
 rw [e1,e2,e3]
 simp only [cond_true]
 rw [show (0:Nat)=fW 0 from Q7w.symm,Q80 hb (by decide)]
 by_cases hx:x=0
 ·subst hx
  rw [Int.compare_eq_eq.2 rfl,Q7w,sg_0]
  rfl
 ·have:(some (compare x 0) !=some Ordering.eq)=true:=by
   rcases Int.lt_trichotomy x 0 with h|h|h
   ·rw [Int.compare_eq_lt.2 h];rfl
   ·omega
   ·rw [Int.compare_eq_gt.2 h];rfl
  rw [this]
  rfl
theorem Qao {a b:Int} (a0: -4000000000000000<=a) (a1:a<=4000000000000000) (b0: -4000000000000000<=b) (b1:b<=4000000000000000):Q3N a b=some (((fW a,fW b),(true,())),(),()):=by
 unfold Q3N Q3N.gen
 rw [Q4J (show ¬a < -4000000000000000 by omega),Q4J (show ¬4000000000000000 < a by omega),Q4J (show ¬b < -4000000000000000 by omega),Q4J (show ¬4000000000000000 < b by omega)]
 rfl
theorem Q9q {a b:Int} (a0: -4000000000000000<=a) (a1:a<=4000000000000000) (b0: -4000000000000000<=b) (b1:b<=4000000000000000):Q3O (fW a,fW b)=some ((Q5Y .i64 (a+b) 1,(true,())),(),()):=by
 have ha:a.natAbs < 2^53:=by omega
 have hb:b.natAbs < 2^53:=by omega
 have hab:(a+b).natAbs < 2^53:=by omega
 obtain ⟨r,hr⟩:=QeJ ha hb
 have hm:cMulBits (fW a) (fW b) (fW 1) (fW 1)=some (r,fW (a+b)):=by
  unfold cMulBits
  rw [QaC ha,QaC hb]
  simp only [Option.bind_some]
  rw [hr,Qe0 ha hb hab]
  rfl
 unfold Q3O Q3O.gen Q44 Q44.gen Q46 Q46.gen
 simp only []
 rw [Q93 a0 a1,Q93 b0 b1]
 simp only [Qq,cond_true,Bool.not_true,cond_false]
 rw [QdN,hm]
 simp only [Qq]
 rw [Qcm hab]
 rfl
theorem pof_t (a b:Int):Tot (Q3N a b) (λr=>r.1.2.1=true->Tot (Q3O r.1.1) (λ_=>True)):=by
 by_cases h:(-4000000000000000<=a/\a<=4000000000000000)/\(-4000000000000000<=b/\b<=4000000000000000)
 ·obtain ⟨⟨a0,a1⟩,b0,b1⟩:=h
  exact ⟨_,Qao a0 a1 b0 b1,λ_=>⟨_,Q9q a0 a1 b0 b1,trivial⟩⟩
 ·unfold Q3N Q3N.gen
  refine Q3 (λr=>r.1=true) ?_ (λr hr=>Qa (λ_=>Q2 λh=>by cases h) (λhf=>by rw [hr] at hf;cases hf))
  refine Qa (λ_=>Q2 rfl) (λh1=>Qa (λ_=>Q2 rfl) (λh2=>Qa (λ_=>Q2 rfl) (λh3=>Q2 ?_)))
  have h1:=Q3s h1
  have h2:=Q3s h2
  have h3:=Q3s h3
  exact Q78 (by omega)
theorem opc (i:Int):Z4 true 1 (Z4 false i 16000000000)≠0:=by
 simp only [Z4,cond_true,cond_false,Q9s,imax]
 split <;> split <;> omega
theorem QcV (o i:Int) (s:Qp):Tot (Q2s o i s) (λ_=>True):=by
 unfold Q2s Q2s.gen
 have hne:ine (Z4 true 1 (Z4 false i 16000000000)) 0=true:=Q7T (opc i)
 repeat' first
  |with_reducible refine QR hne ?_
  |with_reducible refine Qa (λ_=>?_) (λ_=>?_)
  |with_reducible refine Q3 _ ee (λ_ _=>?_)
  |with_reducible refine Q3 (λ_=>True) ?_ (λ_ _=>?_)
  |with_reducible exact Q2 trivial
theorem Q7u {n:Int} (K:Q1) (h1:1<=n) (h8:n<=8):K40 n K=some (((n - 1).toNat,()),(),()):=by
 unfold K40 K40.gen
 rw [Q5g (by omega),Q1C (n:=8) (by omega) (by omega)]
 rfl
theorem Q7x (n:Int) (K:Q1):Tot (K33 n K) (λr=>r.1.1=false->1<=n/\n<=K.Qo.Qv):=by
 unfold K33 K33.gen
 exact Qa (λ_=>Q2 λh=>by cases h) (λh1=>Q2 λh=>⟨by have:=Q3s h1;omega,by have:=Q3s h;omega⟩)
theorem Q30 {c:Q8} (h:Q3G c):1<=c.Qv/\c.Qv<=8/\1<=c.Q3M/\c.Q3M<=15:=by
 have h:=h.out
 rw [Q9E] at h
 have hk:okC c=true:=by
  cases hx:okC c with
  |true=>rfl
  |false=>rw [hx] at h;cases h
 unfold okC Q9P inB at hk
 simp only [Bool.and_eq_true,decide_eq_true_eq] at hk
 omega
theorem Q9u (n:Int) (K:Q1) (h:Q3G K.Qo):Tot (K16 n K) (λr=>(1<=n/\n<=K.Qo.Qv->r.1.1=(K.Qe (n - 1).toNat).Q1u)/\(r.1.1≠0->1<=n/\n<=K.Qo.Qv)):=by
 obtain ⟨_,p8,_⟩:=Q30 h
 unfold K16 K16.gen
 obtain ⟨r,hr,hp⟩:=Q7x n K
 rw [hr,Qq]
 refine Qa (λht=>Q2 ⟨λhn=>?_,λh=>absurd rfl h⟩) (λhf=>?_)
 ·unfold K33 K33.gen at hr
  rw [Q4J (by omega)] at hr
  simp only [cond_false,Option.some.injEq] at hr
  rw [←hr] at ht
  have:=Q2m ht
  omega
 ·obtain ⟨h1,h2⟩:=hp hf
  rw [Q7u K h1 (by omega),Qq]
  exact Q2 ⟨λ_=>rfl,λ_=>⟨h1,h2⟩⟩
theorem Qds (i:Int) (tg:Qf) (all:Bool) (K:Q1) (hc:Q3G K.Qo) (hi:1<=i/\i<=K.Qo.Qv):Tot (K32 i tg all K) (λr=>r.1.1.length<=8/\∀n∈r.1.1,1<=n/\n<=K.Qo.Qv):=by
 obtain ⟨p1,p8,_⟩:=Q30 hc
 unfold K32 K32.gen
 refine Q3 (λr=>r.1.1=i/\r.2.1=K/\r.1.2.2.1.length<=8/\∀n∈r.1.2.2.1,1<=n/\n<=K.Qo.Qv) ?_ (λr0 ⟨g1,g2,g3,g4⟩=>Q3 (λr=>r.1=false->r0.1.2.2.1≠ []) (Qa (λ_=>Q2 λh=>by cases h) (λ_=>Q2 λh e=>?_)) (λr1 h1=>Qa (λ_=>Q2 ⟨g3,g4⟩) (λhf=>Q3 _ ee (λr2 _=>Q3 _ ee (λr3 _=>Qa (λ_=>Q2 ⟨by show (r0.1.1::Qn Int).length<=8;simp [Qn],λn hn=>?_⟩) (λ_=>?_))))))
 ·unfold K32.F0
  refine Q22 (λa=>a.1.1=i/\a.2.1=K/\1<=a.1.2.2.2.1/\(a.1.2.2.1.length:Int) < a.1.2.2.2.1/\a.1.2.2.2.1<=K.Qo.Qv+1/\∀n∈a.1.2.2.1,1<=n/\n<=K.Qo.Qv) (λa=>(K.Qo.Qv+1 - a.1.2.2.2.1).toNat) (λa ⟨k1,k2,k3,k4,k5,k6⟩=>?_) _ _ ⟨rfl,rfl,Int.le_refl 1,by show (0:Int) < 1;decide,by show 1<=K.Qo.Qv+1;omega,λn hn=>by cases hn⟩ (by simp only [];omega)
  unfold K32.QO
  rw [k2]
  refine Qa (λh=>?_) (λ_=>Q2 ⟨k1,k2,by show a.1.2.2.1.length<=8;omega,k6⟩)
  have h:=Q54 h
  refine Q3 _ ee (λr0 _=>Q3 _ ee (λr1 _=>Q3 (λr=>r.1.1=i/\r.2.1=K/\r.1.2.2.2.1=a.1.2.2.2.1/\r.1.2.2.1.length<=a.1.2.2.1.length+1/\∀n∈r.1.2.2.1,1<=n/\n<=K.Qo.Qv) ?_ (λr2 ⟨m1,m2,m3,m4,m5⟩=>Q2 ?_)))
  ·refine Qa (λ_=>QR (Q2W (by simp only [List.length_cons,Qn,List.length_nil];omega)) (Q2 ⟨k1,k2,rfl,by simp only [List.length_append,List.length_cons,Qn,List.length_nil];omega,λn hn=>?_⟩)) (λ_=>Q2 ⟨k1,k2,rfl,by show a.1.2.2.1.length<=a.1.2.2.1.length+1;omega,k6⟩)
   rcases List.mem_append.1 hn with hn|hn
   ·exact k6 n hn
   ·simp only [Qn,List.mem_cons,List.not_mem_nil,or_false] at hn
    subst hn
    omega
  ·rw [m3,Q1g (by omega)]
   refine ⟨⟨m1,m2,?_,?_,?_,m5⟩,?_⟩
   ·show 1<=a.1.2.2.2.1+1;omega
   ·show (r2.1.2.2.1.length:Int) < a.1.2.2.2.1+1;omega
   ·show a.1.2.2.2.1+1<=K.Qo.Qv+1;omega
   ·show (K.Qo.Qv+1 - (a.1.2.2.2.1+1)).toNat < (K.Qo.Qv+1 - a.1.2.2.2.1).toNat;omega
 ·rw [e] at h;cases h
 ·simp only [Qn,List.mem_cons,List.not_mem_nil,or_false] at hn
  subst hn
  rw [g1];exact hi
 ·have hne:=h1 hf
  have hpos:1<=r0.1.2.2.1.length:=by cases hx:r0.1.2.2.1 with|nil=>exact absurd hx hne|cons a l=>simp
  refine QR (Q33 (by unfold ofN;omega) (by unfold ofN;omega) (by omega)) (Q2 ⟨?_,λn hn=>g4 n ?_⟩)
  ·simp only [ofN,List.length_drop,List.length_take];omega
  ·exact List.mem_of_mem_take (List.mem_of_mem_drop hn)
def Tw {α β:Type} (x:Option α) (y:Option β) (Q:α->β->Prop):Prop:=∃a b,x=some a/\y=some b/\Q a b
theorem Q6 {α β:Type} {a:α} {b:β} {Q:α->β->Prop} (h:Q a b):Tw (some a) (some b) Q:=⟨a,b,rfl,rfl,h⟩
theorem Qdu {α β:Type} {x:Option α} {y:Option β} {P Q:α->β->Prop} (h:Tw x y P) (hq:∀a b,P a b->Q a b):Tw x y Q:=let ⟨a,b,h1,h2,h3⟩:=h;⟨a,b,h1,h2,hq a b h3⟩
theorem Qav {α:Type} {x:Option α} {Q:α->Prop} (h:Tot x Q):Tw x x (λa b=>a=b/\Q b):=let ⟨a,h1,h2⟩:=h;⟨a,a,h1,h1,rfl,h2⟩
theorem QN {α α' β β':Type} {x:Option α} {y:Option α'} {k:α->Option β} {l:α'->Option β'} {Q:β->β'->Prop} (P:α->α'->Prop) (h:Tw x y P) (hk:∀a b,P a b->Tw (k a) (l b) Q):Tw (Q0 x none k) (Q0 y none l) Q:=by
 obtain ⟨a,b,rfl,rfl,h3⟩:=h
 exact hk a b h3
theorem Qs {α β β':Type} {x:Option α} {k:α->Option β} {l:α->Option β'} {Q:β->β'->Prop} {P:α->Prop} (h:Tot x P) (hk:∀a,P a->Tw (k a) (l a) Q):Tw (Q0 x none k) (Q0 x none l) Q:=by
 obtain ⟨a,rfl,h3⟩:=h
 exact hk a h3
theorem Qx {α β:Type} {b:Bool} {x x':Option α} {y y':Option β} {Q:α->β->Prop} (h:b=true->Tw x y Q) (h2:b=false->Tw x' y' Q):Tw (bif b then x else x') (bif b then y else y') Q:=by
 cases b with
 |true=>exact h rfl
 |false=>exact h2 rfl
theorem Q2z {α β:Type} {b:Bool} {x:Option α} {y:Option β} {Q:α->β->Prop} (hb:b=true) (h:Tw x y Q):Tw (bif b then x else none) (bif b then y else none) Q:=by subst hb;exact h
theorem Q4z {α β α' β':Type} {step:α->Option (α⊕β)} {step':α'->Option (α'⊕β')} (I:α->α'->Prop) (m:α'->Nat) {Q:β->β'->Prop}
  (h:∀a a',I a a'->Tw (step a) (step' a') (λr r'=>match r,r' with| .inl b,.inl b'=>I b b'/\m b' < m a'| .inr b,.inr b'=>Q b b'|_,_=>False)):
  ∀(N:Nat) (a:α) (a':α'),I a a'->m a' < N->Tw (Z8 N step a) (Z8 N step' a') Q
 |0,a,a',_,hm=>absurd hm (Nat.not_lt_zero _)
 |N+1,a,a',ha,hm=>by
  obtain ⟨r,r',hs,hs',hr⟩:=h a a' ha
  unfold Z8
  rw [hs,hs']
  cases r with
  |inl b=>
   cases r' with
   |inl b'=>exact Q4z I m h N b b' hr.1 (by have:=hr.2;omega)
   |inr b'=>exact hr.elim
  |inr b=>
   cases r' with
   |inl b'=>exact hr.elim
   |inr b'=>exact ⟨b,b',rfl,rfl,hr⟩
structure Rn (α:Type) where
 ρ:Nat->Nat
 L:Nat->Prop
 b1:Fm α
 b2:Fm α
 inj:∀x y,L x->L y->ρ x=ρ y->x=y
 fresh:∀i,L (b2.1+i)/\ρ (b2.1+i)=b1.1+i
 old:∀x,L x->x < b2.1->ρ x < b1.1
structure FR {α:Type} (c:Rn α) (Inv:α->Prop) (g1 g2:Fm α):Prop where
 size:∃d,g1.1=c.b1.1+d/\g2.1=c.b2.1+d
 get:∀x,c.L x->x < g2.1->g1.2 (c.ρ x)=g2.2 x/\Inv (g2.2 x)
 fr1:∀q,q < c.b1.1->(∀x,c.L x->c.ρ x≠q)->g1.2 q=c.b1.2 q
 fr2:∀q,q < c.b2.1->¬c.L q->g2.2 q=c.b2.2 q
theorem FR.set {α:Type} {c:Rn α} {Inv:α->Prop} {g1 g2:Fm α} (h:FR c Inv g1 g2) {x:Nat} (hx:c.L x) {v:α} (hv:Inv v):FR c Inv (g1.1,Qr g1.2 (c.ρ x) v) (g2.1,Qr g2.2 x v):=by
 refine ⟨h.size,λy hy hl=>?_,λq hq hn=>?_,λq hq hn=>?_⟩
 ·show Qr g1.2 (c.ρ x) v (c.ρ y)=Qr g2.2 x v y/\Inv (Qr g2.2 x v y)
  unfold Qr
  by_cases e:y=x
  ·subst e;rw [if_pos rfl,if_pos rfl];exact ⟨rfl,hv⟩
  ·rw [if_neg (λe'=>e (c.inj _ _ hy hx e')),if_neg e];exact h.get y hy hl
 ·show Qr g1.2 (c.ρ x) v q=_
  unfold Qr
  rw [if_neg (λe=>hn x hx e.symm)];exact h.fr1 q hq hn
 ·show Qr g2.2 x v q=_
  unfold Qr
  rw [if_neg (λ(e:q=x)=>hn (by rw [e];exact hx))];exact h.fr2 q hq hn
theorem FR.fresh {α:Type} {c:Rn α} {Inv:α->Prop} {g1 g2:Fm α} (h:FR c Inv g1 g2):c.L g2.1/\c.ρ g2.1=g1.1:=by
 obtain ⟨d,h1,h2⟩:=h.size
 rw [h1,h2];exact c.fresh d
theorem FR.new {α:Type} {c:Rn α} {Inv:α->Prop} {g1 g2:Fm α} (h:FR c Inv g1 g2) {v:α} (hv:Inv v):FR c Inv (g1.1+1,Qr g1.2 g1.1 v) (g2.1+1,Qr g2.2 g2.1 v):=by
 obtain ⟨hl,hr⟩:=h.fresh
 obtain ⟨d,h1,h2⟩:=h.size
 refine ⟨⟨d+1,by show g1.1+1=_;omega,by show g2.1+1=_;omega⟩,λy hy hlt=>?_,λq hq hn=>?_,λq hq hn=>?_⟩
 ·show Qr g1.2 g1.1 v (c.ρ y)=Qr g2.2 g2.1 v y/\Inv (Qr g2.2 g2.1 v y)
  have hlt:y < g2.1+1:=hlt
  unfold Qr
  by_cases e:y=g2.1
  ·subst e;rw [if_pos hr,if_pos rfl];exact ⟨rfl,hv⟩
  ·rw [if_neg (λe'=>e (c.inj _ _ hy hl (e'.trans hr.symm))),if_neg e];exact h.get y hy (by omega)
 ·show Qr g1.2 g1.1 v q=_
  unfold Qr
  rw [if_neg (by omega)];exact h.fr1 q hq hn
 ·show Qr g2.2 g2.1 v q=_
  unfold Qr
  rw [if_neg (by omega)];exact h.fr2 q hq hn
structure Cx where
 s:Rn Qp
 t:Rn Qb
 d:Rn Qg
 e:Rn Qc
 f:Rn Qh
 m:Rn QB
 p:Rn (List (Qf×List Int))
noncomputable def Q3A (c:Cx) (x:Q5):Q5:=
 ⟨x.Q1u,x.Q4O.map c.t.ρ,x.Q5K.map c.p.ρ,x.Q4j,x.Q5n,x.Q4Y,x.fsync,x.Q79,x.Q6h,x.Q8d,x.Q65,x.Q6q.map c.m.ρ,x.Q48.map c.d.ρ,x.Q6U.map c.e.ρ,x.Q7f,x.Q3g,x.Q2C,x.Q4Z⟩
structure Dl where
 f:Int->Int
 d:Int
def D0:Dl:=⟨id,0⟩
noncomputable def QM (c:Cx) (δ:Dl) (K:Q1):Q1:=
 ⟨K.Qo,λi=>Q3A c (K.Qe i),K.Q5s,K.Q2d,K.Q6K.map c.s.ρ,K.Q6W.map c.f.ρ,K.Q5d,K.Q48,δ.f K.Q2h,K.Q2j⟩
def Pt {α:Type} (r:Rn α) (n:Nat) (x:Option Nat):Prop:=∃i,x=some i/\r.L i/\i < n
theorem Pt.mono {α:Type} {r:Rn α} {n m:Nat} {x:Option Nat} (h:Pt r n x) (hn:n<=m):Pt r m x:=let ⟨i,h1,h2,h3⟩:=h;⟨i,h1,h2,Nat.lt_of_lt_of_le h3 hn⟩
structure Sz where
 s:Nat
 t:Nat
 d:Nat
 e:Nat
 f:Nat
 m:Nat
 p:Nat
structure SOk (c:Cx) (n:Sz) (x:Q5):Prop where
 t:Pt c.t n.t x.Q4O
 p:Pt c.p n.p x.Q5K
 m:Pt c.m n.m x.Q6q
 d:Pt c.d n.d x.Q48
 e:Pt c.e n.e x.Q6U
structure NoP (x:Q5):Prop where
 t:x.Q4O=none
 p:x.Q5K=none
 m:x.Q6q=none
 d:x.Q48=none
 e:x.Q6U=none
def SOq (c:Cx) (n:Sz) (q:Prop) (x:Q5):Prop:=SOk c n x\/(¬q/\NoP x)
structure KOk (c:Cx) (n:Sz) (K:Q1):Prop where
 Q11:Q3G K.Qo
 s:Pt c.s n.s K.Q6K
 f:Pt c.f n.f K.Q6W
 all:∀i:Nat,SOq c n ((i:Int) < K.Qo.Qv) (K.Qe i)
theorem KOk.side {c:Cx} {n:Sz} {K:Q1} (h:KOk c n K) (i:Nat) (hi:(i:Int) < K.Qo.Qv):SOk c n (K.Qe i):=(h.all i).elim id λh=>absurd hi h.1
theorem SOk.mono {c:Cx} {n:Sz} {x:Q5} (h:SOk c n x) {k:Nat} (hk:n.p<=k):SOk c { n with p:=k} x:=⟨h.t,h.p.mono hk,h.m,h.d,h.e⟩
theorem SOq.mono {c:Cx} {n:Sz} {q:Prop} {x:Q5} (h:SOq c n q x) {k:Nat} (hk:n.p<=k):SOq c { n with p:=k} q x:=h.imp (λh=>h.mono hk) id
theorem Q8S {α β:Type} {r:β->α} {f1:Nat->α} {f2:Nat->β} {i:Nat} {y1:α} {y2:β} (hf:∀j,f1 j=r (f2 j)) (hy:y1=r y2):∀j,Qr f1 i y1 j=r (Qr f2 i y2 j):=λj=>by
 unfold Qr
 by_cases h:j=i
 ·rw [if_pos h,if_pos h,hy]
 ·rw [if_neg h,if_neg h,hf]
theorem Q5H {c:Cx} {δ:Dl} {A B:Q1} (h1:A.Qo=B.Qo) (h2:∀i,A.Qe i=Q3A c (B.Qe i)) (h3:A.Q5s=B.Q5s) (h4:A.Q2d=B.Q2d) (h5:A.Q6K=B.Q6K.map c.s.ρ) (h6:A.Q6W=B.Q6W.map c.f.ρ) (h7:A.Q5d=B.Q5d) (h8:A.Q48=B.Q48) (h9:A.Q2h=δ.f B.Q2h) (h10:A.Q2j=B.Q2j):A=QM c δ B:=by
 obtain ⟨a1,a2,a3,a4,a5,a6,a7,a8,a9,a10⟩:=A
 simp only [] at h1 h2 h3 h4 h5 h6 h7 h8 h9 h10
 subst h1 h3 h4 h5 h6 h7 h8 h9 h10
 have:a2=λi=>Q3A c (B.Qe i):=funext h2
 subst this
 rfl
theorem Q7F {c:Cx} {δ:Dl} {K:Q1} {p:Nat} {y1 y2:Q5} (h:y1=Q3A c y2):(QM c δ K).QU (Qr (QM c δ K).Qe p y1)=QM c δ (K.QU (Qr K.Qe p y2)):=
 Q5H rfl (Q8S (λ_=>rfl) h) rfl rfl rfl rfl rfl rfl rfl rfl
structure KR (c:Cx) (δ:Dl) (n:Sz) (K0:Q8×Nat) (A B:Q1):Prop where
 eq:A=QM c δ B
 ok:KOk c n B
 Q11:B.Qo=K0.1
 outs:B.Q2j.length<=K0.2
 dr:B.Q2h=δ.d
theorem KR.more {c:Cx} {δ:Dl} {n:Sz} {cf:Q8} {m m':Nat} {A B:Q1} (h:KR c δ n (cf,m) A B) (hm:m<=m'):KR c δ n (cf,m') A B:=⟨h.eq,h.ok,h.Q11,Nat.le_trans h.outs hm,h.dr⟩
theorem KR.QcN {c:Cx} {δ:Dl} {n:Sz} {K0:Q8×Nat} {B:Q1} {i:Nat} {y1 y2:Q5} (h:KR c δ n K0 (QM c δ B) B) (hy:y1=Q3A c y2) (hs:∀q,SOq c n q (B.Qe i)->SOq c n q y2):KR c δ n K0 ((QM c δ B).QU (Qr (QM c δ B).Qe i y1)) (B.QU (Qr B.Qe i y2)):=by
 refine ⟨Q7F hy,⟨h.ok.Q11,h.ok.s,h.ok.f,λj=>?_⟩,h.Q11,h.outs,h.dr⟩
 show SOq c n _ (Qr B.Qe i y2 j)
 unfold Qr
 by_cases e:j=i
 ·subst e;rw [if_pos rfl];exact hs _ (h.ok.all j)
 ·rw [if_neg e];exact h.ok.all j
theorem KR.port {c:Cx} {δ:Dl} {n:Sz} {K0:Q8×Nat} {B:Q1} {i:Nat} {y1 y2:Q5} (h:KR c δ n K0 (QM c δ B) B) (hy:y1=Q3A c y2) (hs:SOk c n (B.Qe i)->SOk c n y2) (hn:NoP (B.Qe i)->NoP y2:=by exact λs=>⟨s.t,s.p,s.m,s.d,s.e⟩):KR c δ n K0 ((QM c δ B).QU (Qr (QM c δ B).Qe i y1)) (B.QU (Qr B.Qe i y2)):=
 h.QcN hy λ_ h=>h.imp hs λh=>⟨h.1,hn h.2⟩
theorem KR.Qb3 {c:Cx} {δ:Dl} {n:Sz} {K0:Q8×Nat} {B:Q1} {i:Nat} {y1 y2:Q5} (h:KR c δ n K0 (QM c δ B) B) (hy:y1=Q3A c y2) (hs:SOk c n y2):KR c δ n K0 ((QM c δ B).QU (Qr (QM c δ B).Qe i y1)) (B.QU (Qr B.Qe i y2)):=
 h.QcN hy λ_ _=>.inl hs
theorem KR.portp {c:Cx} {δ:Dl} {n:Sz} {k:Nat} {K0:Q8×Nat} {B:Q1} {i:Nat} {y1 y2:Q5} (h:KR c δ n K0 (QM c δ B) B) (hk:n.p<=k) (hy:y1=Q3A c y2) (hs:SOk c { n with p:=k} y2):KR c δ { n with p:=k} K0 ((QM c δ B).QU (Qr (QM c δ B).Qe i y1)) (B.QU (Qr B.Qe i y2)):=by
 refine ⟨Q7F hy,⟨h.ok.Q11,h.ok.s,h.ok.f,λj=>?_⟩,h.Q11,h.outs,h.dr⟩
 show SOq c _ _ (Qr B.Qe i y2 j)
 unfold Qr
 by_cases e:j=i
 ·subst e;rw [if_pos rfl];exact .inl hs
 ·rw [if_neg e];exact (h.ok.all j).mono hk
theorem SOk.Q32 {c:Cx} {n:Sz} {x y:Q5} (h:SOk c n x) (e1:y.Q4O=x.Q4O:=by rfl) (e2:y.Q5K=x.Q5K:=by rfl) (e3:y.Q6q=x.Q6q:=by rfl) (e4:y.Q48=x.Q48:=by rfl) (e5:y.Q6U=x.Q6U:=by rfl):SOk c n y:=by
 obtain ⟨a1,a2,a3,a4,a5⟩:=h
 exact ⟨by rw [e1];exact a1,by rw [e2];exact a2,by rw [e3];exact a3,by rw [e4];exact a4,by rw [e5];exact a5⟩
def Q3P (l:List (Qf×List Int)):Prop:=∀x∈l,x.2.length<=60
theorem Q3P.nil:Q3P []:=λ_ h=>by cases h
theorem Q70 {X Y α β:Type} {c:Cx} {δ:Dl} {K0:Q8×Nat} (RY:Y->Y->Prop) (nz:Y->Sz) {x y:Option (X×Q1×Y)} {k:X×Q1×Y->Option α} {l:X×Q1×Y->Option β} {Q:α->β->Prop}
  (h:Tw x y (λa b=>a.1=b.1/\KR c δ (nz b.2.2) K0 a.2.1 b.2.1/\RY a.2.2 b.2.2))
  (hk:∀(q:X) (B:Q1) (ya yb:Y),KR c δ (nz yb) K0 (QM c δ B) B->RY ya yb->Tw (k (q,QM c δ B,ya)) (l (q,B,yb)) Q):Tw (Q0 x none k) (Q0 y none l) Q:=by
 obtain ⟨⟨q,A,ya⟩,⟨q',B,yb⟩,rfl,rfl,e,hK,hY⟩:=h
 have e:q=q':=e
 have hK:KR c δ (nz yb) K0 A B:=hK
 subst e
 have:=hK.eq
 subst this
 exact hk q B ya yb hK hY
theorem Q5I {X Y α β:Type} {c:Cx} {δ:Dl} {K0:Q8×Nat} (P:X->Prop) (RY:Y->Y->Prop) (nz:Y->Sz) {x y:Option (X×(Q1×Y)×Unit)} {k:X×(Q1×Y)×Unit->Option α} {l:X×(Q1×Y)×Unit->Option β} {Q:α->β->Prop}
  (h:Tw x y (λa b=>(a.1=b.1/\P b.1)/\KR c δ (nz b.2.1.2) K0 a.2.1.1 b.2.1.1/\RY a.2.1.2 b.2.1.2))
  (hk:∀(q:X) (B:Q1) (ya yb:Y),P q->KR c δ (nz yb) K0 (QM c δ B) B->RY ya yb->Tw (k (q,(QM c δ B,ya),())) (l (q,(B,yb),())) Q):Tw (Q0 x none k) (Q0 y none l) Q:=by
 obtain ⟨⟨q,⟨A,ya⟩,u⟩,⟨q',⟨B,yb⟩,u'⟩,rfl,rfl,⟨e,hp⟩,hK,hY⟩:=h
 have e:q=q':=e
 have hK:KR c δ (nz yb) K0 A B:=hK
 subst e
 have:=hK.eq
 subst this
 exact hk q B ya yb hp hK hY
abbrev RU (_ _:Unit):Prop:=True
theorem Q1o {X Y α β:Type} {c:Cx} {δ:Dl} {K0:Q8×Nat} (P:X->Prop) (RY:Y->Y->Prop) (nz:Y->Sz) {x y:Option (X×Q1×Y)} {k:X×Q1×Y->Option α} {l:X×Q1×Y->Option β} {Q:α->β->Prop}
  (h:Tw x y (λa b=>(a.1=b.1/\P b.1)/\KR c δ (nz b.2.2) K0 a.2.1 b.2.1/\RY a.2.2 b.2.2))
  (hk:∀(q:X) (B:Q1) (ya yb:Y),P q->KR c δ (nz yb) K0 (QM c δ B) B->RY ya yb->Tw (k (q,QM c δ B,ya)) (l (q,B,yb)) Q):Tw (Q0 x none k) (Q0 y none l) Q:=by
 obtain ⟨⟨q,A,ya⟩,⟨q',B,yb⟩,rfl,rfl,⟨e,hp⟩,hK,hY⟩:=h
 have e:q=q':=e
 have hK:KR c δ (nz yb) K0 A B:=hK
 subst e
 have:=hK.eq
 subst this
 exact hk q B ya yb hp hK hY
theorem Q2P {α β β':Type} {x x':Option α} {k:α->Option β} {l:α->Option β'} {Q:β->β'->Prop} {P:α->Prop} (e:x=x') (h:Tot x' P) (hk:∀a,P a->Tw (k a) (l a) Q):Tw (Q0 x none k) (Q0 x' none l) Q:=by
 subst e
 exact Qs h hk
abbrev nU (n:Sz):Unit->Sz:=λ_=>n
theorem Q9x {c:Cx} {δ:Dl} {n:Sz} {K0:Q8×Nat} {K:Q1} (p:Nat) (h:KR c δ n K0 (QM c δ K) K):Tw (K28 p (QM c δ K)) (K28 p K) (λa b=>(a.1=b.1/\True)/\KR c δ (nU n b.2.1.2) K0 a.2.1.1 b.2.1.1/\RU a.2.1.2 b.2.1.2):=by
 unfold K28 K28.gen
 refine Q70 RU (nU n) (Qs ee (λ_ _=>Q6 ⟨rfl,h.port rfl λs=>s.Q32,trivial⟩)) (λq B _ _ h _=>?_)
 refine Q70 RU (nU n) (Qs ee (λ_ _=>Q6 ⟨rfl,h.port rfl λs=>s.Q32,trivial⟩)) (λq B _ _ h _=>?_)
 refine Q70 RU (nU n) (Qx (λ_=>Qs ee (λ_ _=>Q6 ⟨rfl,h.port rfl λs=>s.Q32,trivial⟩)) (λ_=>Q6 ⟨rfl,h,trivial⟩)) (λq B _ _ h _=>?_)
 refine Q70 RU (nU n) (Qs ee (λ_ _=>Q6 ⟨rfl,h.port rfl λs=>s.Q32,trivial⟩)) (λq B _ _ h _=>?_)
 exact Qs ee (λ_ _=>Q6 ⟨⟨rfl,trivial⟩,h.port rfl λs=>s.Q32,trivial⟩)
theorem Q9O {c:Cx} {δ:Dl} (K:Q1):K19 (QM c δ K)=K19 K:=rfl
theorem Q9c {c:Cx} {δ:Dl} (K:Q1):K36 (QM c δ K)=K36 K:=rfl
theorem Q8o (K:Q1):Tot (K19 K) (λr=>1<=r.1.1/\r.1.1<=128):=by
 unfold K19 K19.gen
 exact Q3 _ (QaA _) (λr hr=>Q2 hr)
theorem Q8X (K:Q1):Tot (K36 K) (λ_=>True):=by
 unfold K36 K36.gen
 exact Q3 _ (Q8o _) (λr hr=>Q2 trivial)
theorem Qcq {c:Cx} {δ:Dl} {n:Sz} {K0:Q8×Nat} {K:Q1} (p:Nat) (pa:QY) (h:KR c δ n K0 (QM c δ K) K):Tw (K22 p pa (QM c δ K)) (K22 p pa K) (λa b=>(a.1=b.1/\True)/\KR c δ (nU n b.2.1.2) K0 a.2.1.1 b.2.1.1/\RU a.2.1.2 b.2.1.2):=by
 unfold K22 K22.gen
 rw [Q9O]
 refine Qx (λ_=>?_) (λ_=>Qx (λ_=>?_) (λ_=>Qx (λ_=>?_) (λ_=>?_)))
 ·refine Q70 RU (nU n) (Q5I (λ_=>True) RU (nU n) (Q9x p h) (λq B _ _ _ h _=>Q6 ⟨rfl,h,trivial⟩)) (λq B _ _ h _=>Q6 ⟨⟨rfl,trivial⟩,h,trivial⟩)
 ·exact Q70 RU (nU n) (Qs (Q8o _) (λ_ _=>Qs ee (λ_ _=>Q6 ⟨rfl,h.port rfl λs=>s.Q32,trivial⟩))) (λq B _ _ h _=>Q6 ⟨⟨rfl,trivial⟩,h,trivial⟩)
 ·refine Q70 RU (nU n) (Qx (λ_=>Qs ee (λ_ _=>Q6 ⟨rfl,h.port rfl λs=>s.Q32,trivial⟩)) (λ_=>Q6 ⟨rfl,h,trivial⟩)) (λq B _ _ h _=>?_)
  rw [Q9c]
  exact Qs (Q8X _) (λ_ _=>Qs ee (λ_ _=>Q6 ⟨⟨rfl,trivial⟩,h.port rfl λs=>s.Q32,trivial⟩))
 ·refine Q70 RU (nU n) (Qx (λ_=>Q6 ⟨rfl,h,trivial⟩) (λ_=>Q6 ⟨rfl,h,trivial⟩)) (λq B _ _ h _=>?_)
  refine Qx (λ_=>?_) (λ_=>Q6 ⟨⟨rfl,trivial⟩,h,trivial⟩)
  rw [Q9c]
  exact Qs (Q8X _) (λ_ _=>Qs ee (λ_ _=>Q6 ⟨⟨rfl,trivial⟩,h.port rfl λs=>s.Q32,trivial⟩))
abbrev Q6Z:=(Fm Qb)×(Nat×(Nat->List (Qf×List Int)))×Unit
abbrev RA (c:Cx) (a b:Q6Z):Prop:=FR c.t Q2H a.1 b.1/\FR c.p Q3P a.2.1 b.2.1
abbrev nA (n:Sz) (b:Q6Z):Sz:={ n with t:=b.1.1,p:=b.2.1.1}
structure SR (c:Cx) (n:Sz) (A B:Q5):Prop where
 eq:A=Q3A c B
 ok:SOk c n B
theorem Q2I {α β β':Type} {c:Rn α} {Inv:α->Prop} {g1 g2:Fm α} (h:FR c Inv g1 g2) {x1 x2:Option Nat} (hp:Pt c g2.1 x2) (hx:x1=x2.map c.ρ) {k:Nat->Option β} {l:Nat->Option β'} {Q:β->β'->Prop}
  (hk:∀i,c.L i->i < g2.1->g1.2 (c.ρ i)=g2.2 i->Inv (g2.2 i)->Tw (k (c.ρ i)) (l i) Q):Tw (Q0 x1 none k) (Q0 x2 none l) Q:=by
 obtain ⟨i,rfl,hl,hlt⟩:=hp
 subst hx
 obtain ⟨e,hi⟩:=h.get i hl hlt
 exact hk i hl hlt e hi
theorem Qd0 (t:Qb):Tot (K72 t) (λr=>Q2H r.2.1.1):=by
 unfold K72 K72.gen
 exact Q2 ⟨Int.le_refl 0,by show (0:Int)<=5;decide⟩
abbrev PA (c:Cx) (n:Sz) (x:Q5) (yb:Q6Z) (a b:Unit×(Q5×Q6Z)×Unit):Prop:=SR c (nA n b.2.1.2) a.2.1.1 b.2.1.1/\RA c a.2.1.2 b.2.1.2/\b.2.1.2.1.1=yb.1.1/\yb.2.1.1<=b.2.1.2.2.1.1/\b.2.1.1.Q1u=x.Q1u
theorem Qal {c:Cx} {n:Sz} {x:Q5} {ya yb:Q6Z} (hs:SOk c (nA n yb) x) (hY:RA c ya yb):Tw (K46 (Q3A c x) ya.1 ya.2.1) (K46 x yb.1 yb.2.1) (PA c n x yb):=by
 obtain ⟨⟨G,g⟩,⟨P,p⟩,_⟩:=ya
 obtain ⟨⟨G',g'⟩,⟨P',p'⟩,_⟩:=yb
 obtain ⟨h6,h12⟩:=hY
 unfold K46 K46.gen
 refine QN (λa b=>a.2.1=Q3A c x/\b.2.1=x/\FR c.t Q2H a.2.2.1 b.2.2.1/\b.2.2.1.1=G'/\a.2.2.2.1=(P,p)/\b.2.2.2.1=(P',p')) (Q2I h6 hs.t rfl (λi hl hlt e hi=>?_)) (λa b ⟨e1,e2,k6,e3,e4,e5⟩=>?_)
 ·have e:g (c.t.ρ i)=g' i:=e
  dsimp only
  rw [e]
  exact Qs (Qd0 _) (λr hr=>Q6 ⟨rfl,rfl,h6.set hl hr,rfl,rfl,rfl⟩)
 rw [e1,e2,e4,e5]
 obtain ⟨fl,fr⟩:=h12.fresh
 have fr:c.p.ρ P'=P:=fr
 refine Q6 ⟨⟨?_,?_⟩,⟨k6,h12.new Q3P.nil⟩,e3,Nat.le_succ _,rfl⟩
 ·show Q5.Q5N (Q3A c x) (some P)=Q3A c (Q5.Q5N x (some P'))
  rw [←fr];rfl
 ·refine ⟨?_,⟨P',rfl,fl,Nat.lt_succ_self _⟩,hs.m,hs.d,hs.e⟩
  show Pt c.t b.2.2.1.1 x.Q4O
  rw [e3];exact hs.t
def Qba (k a:Qf):Bool:=bif ieq k.QF a.QF then (bif ieq k.QW a.QW then true else false) else false
theorem Qbz (k a:Qf) (v:List Int) (r:List (Qf×List Int)): @Z1Y U Tryz.prog 49 .Qw .Q1R k ((a,v)::r)=(bif Qba k a then some (some v) else @Z1Y U Tryz.prog 49 .Qw .Q1R k r):=by kernel_rfl
theorem Qca (k a : Qf) (v x : List Int) (r : List (Qf × List Int)) : @Z25 U Tryz.prog 49 .Qw .Q1R k v ((a, x) :: r) = (bif Qba k a then some ((k, v) :: r) else (match @Z25 U Tryz.prog 49 .Qw .Q1R k v r with
      |some l=>some ((a,x)::l)
      |none=>none)):=by kernel_rfl
theorem Qa8 (k:Qf):∀(l:List (Qf×List Int)),Q3P l->Tot (@Z1Y U Tryz.prog 49 .Qw .Q1R k l) (λr=>(Option.getD r (Qn Int)).length<=60)
 | [],_=>Q2 (Nat.zero_le _)
 |(a,v)::r,h=>by
  refine cast (congrArg (λz=>Tot z _) (Qbz k a v r).symm) ?_
  cases Qba k a with
  |true=>exact Q2 (h (a,v) (List.mem_cons_self ..))
  |false=>exact Qa8 k r λx hx=>h x (List.mem_cons_of_mem _ hx)
theorem Qa7 (k:Qf) (v:List Int) (hv:v.length<=60):∀(l:List (Qf×List Int)),Q3P l->Tot (@Z25 U Tryz.prog 49 .Qw .Q1R k v l) Q3P
 | [],_=>Q2 λx hx=>by
  have:x=(k,v):=by cases hx with|head=>rfl|tail _ h=>cases h
  subst this;exact hv
 |(a,x)::r,h=>by
  refine cast (congrArg (λz=>Tot z Q3P) (Qca k a v x r).symm) ?_
  cases Qba k a with
  |true=>
   refine Q2 λy hy=>?_
   cases hy with
   |head=>exact hv
   |tail _ hy=>exact h y (List.mem_cons_of_mem _ hy)
  |false=>
   obtain ⟨l,hl,hp⟩:=Qa7 k v hv r λx hx=>h x (List.mem_cons_of_mem _ hx)
   refine cast (congrArg (λz=>Tot (match z with|some l=>some ((a,x)::l)|none=>none) Q3P) hl.symm) ?_
   refine Q2 λy hy=>?_
   cases hy with
   |head=>exact h (a,x) (List.mem_cons_self ..)
   |tail _ hy=>exact hp y hy
theorem age_w {c:Cx} {n:Sz} {x:Q5} {ya yb:Q6Z} (now:Int) (hs:SOk c (nA n yb) x) (hY:RA c ya yb):Tw (K45 now (Q3A c x) ya.1 ya.2.1) (K45 now x yb.1 yb.2.1) (PA c n x yb):=by
 obtain ⟨⟨G,g⟩,⟨P,p⟩,_⟩:=ya
 obtain ⟨⟨G',g'⟩,⟨P',p'⟩,_⟩:=yb
 obtain ⟨h6,h12⟩:=hY
 unfold K45 K45.gen
 refine QN (λa b=>a.2.1=Q3A c x/\b.2.1=x/\FR c.t Q2H a.2.2.1 b.2.2.1/\b.2.2.1.1=G'/\a.2.2.2.1=(P,p)/\b.2.2.2.1=(P',p')) (Q2I h6 hs.t rfl (λi hl hlt e hi=>?_)) (λa b ⟨e1,e2,k6,e3,e4,e5⟩=>?_)
 ·have e:g (c.t.ρ i)=g' i:=e
  dsimp only
  rw [e]
  exact Qs (age_t _ _ hi) (λr hr=>Q6 ⟨rfl,rfl,h6.set hl hr,rfl,rfl,rfl⟩)
 rw [e1,e2,e4,e5]
 refine Q2I k6 (by rw [e3];exact hs.t) rfl (λi hl hlt e hi=>?_)
 dsimp only
 rw [e]
 refine Qs (QbT _ hi) (λr4 hr4=>?_)
 obtain ⟨fl,fr⟩:=h12.fresh
 have fr:c.p.ρ P'=P:=fr
 have fl:c.p.L P':=fl
 refine QN (λa' b'=>a'.1.1=some P/\b'.1.1=some P'/\a'.2.1=Q3A c x/\b'.2.1=x/\FR c.t Q2H a'.2.2.1 b'.2.2.1/\b'.2.2.1.1=G'/\FR c.p Q3P a'.2.2.2.1 b'.2.2.2.1/\b'.2.2.2.1.1=P'+1) ?_ (λa' b' ⟨m1,m2,m3,m4,m5,m6,m7,m8⟩=>?_)
 ·unfold K45.F0
  refine Q4z (λa' b'=>a'.1=(some P,b'.1.2)/\b'.1.1=some P'/\b'.1.2.1=r4.1.1/\b'.1.2.2.1=(r4.1.1.length:Int)/\0<=b'.1.2.2.2.1/\a'.2.1=Q3A c x/\b'.2.1=x/\FR c.t Q2H a'.2.2.1 b'.2.2.1/\b'.2.2.1.1=G'/\FR c.p Q3P a'.2.2.2.1 b'.2.2.2.1/\b'.2.2.2.1.1=P'+1) (λb'=>((r4.1.1.length:Int) - b'.1.2.2.2.1).toNat) (λa' b' ⟨n0,n1,n2,n3,n4,n5,n6,n7,n8,n9,n10⟩=>?_) _ _ _ ⟨rfl,rfl,rfl,rfl,Int.le_refl 0,rfl,rfl,k6,e3,h12.new Q3P.nil,rfl⟩ (by simp only [];omega)
  unfold K45.QO
  rw [n0,n5]
  dsimp only
  rw [n2]
  refine Qx (λhh=>?_) (λ_=>Q6 ⟨rfl,n1,n5,n6,n7,n8,n9,n10⟩)
  have hh:=Q2m hh
  rw [n3] at hh
  refine QN (λu v=>u.1=(some P,b'.1.2)/\v.1=b'.1/\u.2.1=Q3A c x/\v.2.1=x/\u.2.2.1=v.2.2.1/\u.2.2.2=a'.2.2/\v.2.2.2=b'.2.2) (Q2z (Q1C n4 (by omega)) (Q6 ⟨rfl,rfl,rfl,n6,rfl,rfl,rfl⟩)) (λu v ⟨q1,q2,q3,q4,q5,q6,q7⟩=>?_)
  rw [q1,q2,q3,q4,q5,q6,q7]
  dsimp only
  refine QN (λs w=>s.1=(some P,b'.1.2)/\w.1=b'.1/\s.2.1=Q3A c x/\w.2.1=x/\FR c.t Q2H s.2.2.1 w.2.2.1/\w.2.2.1.1=G'/\FR c.p Q3P s.2.2.2.1 w.2.2.2.1/\w.2.2.2.1.1=P'+1) ?_ (λs w ⟨z1,z2,z3,z4,z5,z6,z7,z8⟩=>?_)
  ·refine QN (λs w=>s=w/\(Option.getD w (Qn Int)).length<=60) (Q2I n9 ((hs.p.mono (show P'<=_ by rw [n10];exact Nat.le_succ _)):Pt c.p b'.2.2.2.1.1 x.Q5K) rfl (λj jl jlt je ji=>?_)) (λs w ⟨w1,w2⟩=>?_)
   ·rw [je]
    exact Qav (Qa8 _ _ ji)
   ·rw [w1,n1]
    refine QN (λs w=>s.1=P/\w.1=P'/\s.2=w.2/\Q3P w.2) ?_ (λs w ⟨v1,v2,v3,v4⟩=>Q6 ⟨rfl,rfl,rfl,rfl,n7,n8,?_,?_⟩)
    ·rw [Qq,Qq]
     have:=n9.get P' fl (by omega)
     rw [fr] at this
     rw [this.1]
     exact Qs (Qa7 _ _ w2 _ this.2) (λr hr=>Q6 ⟨rfl,rfl,rfl,hr⟩)
    ·rw [v1,v2,v3,←fr]
     exact n9.set fl v4
    ·exact n10
  ·rw [z1,z2]
   dsimp only
   rw [Q1g (by omega)]
   refine Q6 ⟨⟨rfl,n1,n2,n3,?_,z3,z4,z5,z6,z7,z8⟩,?_⟩
   ·show 0<=b'.1.2.2.2.1+1;omega
   ·show ((r4.1.1.length:Int) - (b'.1.2.2.2.1+1)).toNat < ((r4.1.1.length:Int) - b'.1.2.2.2.1).toNat;omega
 ·rw [m1,m2,m3,m4]
  refine Q6 ⟨⟨?_,?_⟩,⟨m5,m7⟩,m6,by show P'<=b'.2.2.2.1.1;omega,rfl⟩
  ·show Q5.Q5N (Q3A c x) (some P)=Q3A c (Q5.Q5N x (some P'))
   rw [←fr];rfl
  ·refine ⟨?_,⟨P',rfl,fl,by show P' < b'.2.2.2.1.1;omega⟩,hs.m,hs.d,hs.e⟩
   show Pt c.t b'.2.2.1.1 x.Q4O
   rw [m6];exact hs.t
theorem nA_eq {n:Sz} {a b:Q6Z} (e:b.1.1=a.1.1):nA n b={ nA n a with p:=b.2.1.1}:=by unfold nA;rw [e]
theorem KR.Qb2 {c:Cx} {δ:Dl} {n:Sz} {K0:Q8×Nat} {B:Q1} {i:Nat} {ya yb:Q6Z} {y1 y2:Q5} (h:KR c δ (nA n ya) K0 (QM c δ B) B) (e:yb.1.1=ya.1.1) (hk:ya.2.1.1<=yb.2.1.1) (hs:SR c (nA n yb) y1 y2):KR c δ (nA n yb) K0 ((QM c δ B).QU (Qr (QM c δ B).Qe i y1)) (B.QU (Qr B.Qe i y2)):=by
 have hs':=hs.ok
 rw [nA_eq e] at hs' ⊢
 exact h.portp hk hs.eq hs'
theorem QdJ {c:Cx} {δ:Dl} {n:Sz} {K0:Q8×Nat} {K:Q1} {ya yb:Q6Z} (p:Nat) (hp:(p:Int) < K0.1.Qv) (h:KR c δ (nA n yb) K0 (QM c δ K) K) (hY:RA c ya yb):Tw (K25 p (QM c δ K) ya.1 ya.2.1) (K25 p K yb.1 yb.2.1) (λa b=>(a.1=b.1/\True)/\KR c δ (nA n b.2.1.2) K0 a.2.1.1 b.2.1.1/\RA c a.2.1.2 b.2.1.2):=by
 have sd:∀{B:Q1} {yb:Q6Z},KR c δ (nA n yb) K0 (QM c δ B) B->SOk c (nA n yb) (B.Qe p):=λh=>h.ok.side p (by rw [h.Q11];exact hp)
 unfold K25 K25.gen
 refine Qx (λ_=>?_) (λ_=>?_)
 ·refine Q70 (RA c) (nA n) (Qs ee (λ_ _=>Q6 ⟨rfl,h.port rfl λs=>s.Q32,hY⟩)) (λq B ya yb h hY=>?_)
  refine Q70 (RA c) (nA n) (Q2P (Q9c _) (Q8X _) (λ_ _=>Qs ee (λ_ _=>Q6 ⟨rfl,h.port rfl λs=>s.Q32,hY⟩))) (λq B ya yb h hY=>?_)
  refine Q70 (RA c) (nA n) (Qx (λ_=>Qs ee (λ_ _=>Q6 ⟨rfl,h.port rfl λs=>s.Q32,hY⟩)) (λ_=>Q6 ⟨rfl,h,hY⟩)) (λq B ya yb h hY=>Q6 ⟨⟨rfl,trivial⟩,h,hY⟩)
 refine Qs ee (λ_ _=>?_)
 refine Q1o (λq=>q.1=p) (RA c) (nA n) (Qx (λ_=>QN _ (age_w _ (sd h) hY) (λa b ⟨hS,hY',e6,e12,_⟩=>Q6 ⟨⟨rfl,rfl⟩,h.Qb2 e6 e12 hS,hY'⟩)) (λ_=>Q6 ⟨⟨rfl,rfl⟩,h,hY⟩)) (λq B ya yb hq h hY=>?_)
 refine Q1o (λq=>q.1=p) (RA c) (nA n) (Qs ee (λ_ _=>Qx (λ_=>Qs ee (λ_ _=>Q6 ⟨⟨rfl,hq⟩,h.port rfl λs=>s.Q32,hY⟩)) (λ_=>Q6 ⟨⟨rfl,hq⟩,h,hY⟩))) (λq B ya yb hq h hY=>?_)
 refine Q1o (λq=>q.1=p) (RA c) (nA n) (Qx (λ_=>?_) (λ_=>Q6 ⟨⟨rfl,hq⟩,h,hY⟩)) (λq B ya yb hq h hY=>?_)
 ·refine Qs ee (λ_ _=>?_)
  refine Q1o (λq=>q.1=p) (RA c) (nA n) (Qx (λ_=>Qs ee (λ_ _=>Q6 ⟨⟨rfl,hq⟩,⟨rfl,⟨h.ok.Q11,h.ok.s,h.ok.f,h.ok.all⟩,h.Q11,h.outs,h.dr⟩,hY⟩)) (λ_=>Q6 ⟨⟨rfl,hq⟩,h,hY⟩)) (λq B ya yb hq h hY=>?_)
  refine Q1o (λq=>q.1=p) (RA c) (nA n) (QN _ (Qal (by rw [hq];exact sd h) hY) (λa b ⟨hS,hY',e6,e12,_⟩=>Q6 ⟨⟨rfl,hq⟩,h.Qb2 e6 e12 hS,hY'⟩)) (λq B ya yb hq h hY=>?_)
  refine Q1o (λq=>q.1=p) (RA c) (nA n) (Qs ee (λ_ _=>Q6 ⟨⟨rfl,hq⟩,h.port rfl λs=>s.Q32,hY⟩)) (λq B ya yb hq h hY=>?_)
  refine Qx (λ_=>?_) (λ_=>?_)
  ·exact Q5I (λ_=>True) RU (nU (nA n yb)) (Q9x _ h) (λq' B _ _ _ h _=>Q6 ⟨⟨rfl,hq⟩,h,hY⟩)
  ·exact Q2P (Q9c _) (Q8X _) (λ_ _=>Qs ee (λ_ _=>Q6 ⟨⟨rfl,hq⟩,h.port rfl λs=>s.Q32,hY⟩))
 ·refine Q1o (λq=>q.1=p) (RA c) (nA n) (Qx (λ_=>Qs ee (λ_ _=>Q6 ⟨⟨rfl,hq⟩,h.port rfl λs=>s.Q32,hY⟩)) (λ_=>Q6 ⟨⟨rfl,hq⟩,h,hY⟩)) (λq B ya yb hq h hY=>?_)
  refine Qx (λ_=>?_) (λ_=>Q6 ⟨⟨rfl,trivial⟩,h,hY⟩)
  refine Q1o (λq=>q.1=p) (RA c) (nA n) (Qs ee (λ_ _=>Q6 ⟨⟨rfl,hq⟩,h.port rfl λs=>s.Q32,hY⟩)) (λq B ya yb hq h hY=>?_)
  exact Q5I (λ_=>True) RU (nU (nA n yb)) (Q9x _ h) (λq' B _ _ _ h _=>Q6 ⟨⟨rfl,trivial⟩,h,hY⟩)
theorem QaF {c:Cx} {n:Sz} {x:Q5} {g7 g7':Fm Qg} {g10 g10':Fm QB} (ask:Bool) (hs:SOk c n x) (e7:n.d=g7'.1) (e10:n.m=g10'.1) (h7:FR c.d (λ_=>True) g7 g7') (h10:FR c.m (λ_=>True) g10 g10'):
  Tw (K47 ask (Q3A c x) g7 g10) (K47 ask x g7' g10') (λa b=>SR c n a.2.1.1 b.2.1.1/\FR c.d (λ_=>True) a.2.1.2.1 b.2.1.2.1/\FR c.m (λ_=>True) a.2.1.2.2.1 b.2.1.2.2.1/\b.2.1.2.1.1=g7'.1/\b.2.1.2.2.1.1=g10'.1/\b.2.1.1.Q1u=x.Q1u):=by
 unfold K47 K47.gen
 refine QN (λa b=>a.1.1=ask/\b.1.1=ask/\a.2.1=Q3A c x/\b.2.1=x/\a.2.2.1=g7/\b.2.2.1=g7'/\FR c.m (λ_=>True) a.2.2.2.1 b.2.2.2.1/\b.2.2.2.1.1=g10'.1) (Q2I h10 (by rw [←e10];exact hs.m) rfl (λi hl hlt e hi=>?_)) (λa b ⟨a1,a2,a3,a4,a5,a6,k10,z10⟩=>?_)
 ·rw [e]
  exact Qs ee (λr hr=>Q6 ⟨rfl,rfl,rfl,rfl,rfl,rfl,h10.set hl trivial,rfl⟩)
 refine QN (λa b=>a.1.1=ask/\b.1.1=ask/\a.2.1=Q3A c x/\b.2.1=x/\FR c.d (λ_=>True) a.2.2.1 b.2.2.1/\b.2.2.1.1=g7'.1/\FR c.m (λ_=>True) a.2.2.2.1 b.2.2.2.1/\b.2.2.2.1.1=g10'.1) ?_ (λa b ⟨a1,a2,a3,a4,k7,z7,k10,z10⟩=>?_)
 ·rw [a3,a4,a5,a6]
  refine Q2I h7 (by rw [←e7];exact hs.d) rfl (λi hl hlt e hi=>?_)
  rw [e]
  exact Qs ee (λr hr=>Q6 ⟨a1,a2,rfl,rfl,h7.set hl trivial,rfl,k10,z10⟩)
 rw [a1,a2,a3,a4]
 exact Qs ee (λ_ _=>Qs ee (λ_ _=>Qs ee (λ_ _=>Qs ee (λ_ _=>Qx (λ_=>Qs ee (λ_ _=>Q6 ⟨⟨rfl,hs.Q32⟩,k7,k10,z7,z10,rfl⟩)) (λ_=>Q6 ⟨⟨rfl,hs.Q32⟩,k7,k10,z7,z10,rfl⟩)))))
abbrev YD:=(Fm Qb)×(Fm Qg)×(Fm Qh)×(Fm QB)×Unit
abbrev RD (c:Cx) (a b:YD):Prop:=FR c.t Q2H a.1 b.1/\FR c.d (λ_=>True) a.2.1 b.2.1/\FR c.f Q6s a.2.2.1 b.2.2.1/\FR c.m (λ_=>True) a.2.2.2.1 b.2.2.2.1
abbrev nD' (n:Sz) (b:YD):Sz:={ n with t:=b.1.1,d:=b.2.1.1,f:=b.2.2.1.1,m:=b.2.2.2.1.1}
abbrev YD1:=QY×YD
abbrev RD1 (c:Cx) (a b:YD1):Prop:=a.1=b.1/\RD c a.2 b.2
abbrev nD1 (n:Sz) (b:YD1):Sz:=nD' n b.2
abbrev Bests:=Nat×Fm Qd
theorem inR8 {i:Int} {n:Nat} (h0:0<=i) (h:i < 8) (hn:n=8):(bif inR i 8 then inR i n else false)=true:=by
 subst hn
 rw [Q1C h0 (by omega)];rfl
theorem dF0_w {c:Cx} {δ:Dl} {n:Sz} {K0:Q8×Nat} {K:Q1} {ya yb:YD} (m:Nat) (hm:(m:Int)<=K0.1.Qv) (hm8:m<=8) (h:KR c δ (nD' n yb) K0 (QM c δ K) K) (hY:RD c ya yb) (bs0:Nat->Qd) (vs0:Nat->Option Qj) (ls0:Nat->Bool):
  Tw (K26.F0 (((0,m),(m:Int),0,()),QM c δ K,(8,0,bs0),(8,vs0),(8,ls0),ya)) (K26.F0 (((0,m),(m:Int),0,()),K,(8,0,bs0),(8,vs0),(8,ls0),yb))
   (λa b=>a.1=((0,m),())/\b.1=((0,m),())/\a.2.1=QM c δ K/\b.2.1=K/\a.2.2.1=b.2.2.1/\b.2.2.1.1=8/\a.2.2.2.1=b.2.2.2.1/\b.2.2.2.1.1=8/\a.2.2.2.2.1=b.2.2.2.2.1/\b.2.2.2.2.1.1=8/\RD c a.2.2.2.2.2 b.2.2.2.2.2/\nD' n b.2.2.2.2.2=nD' n yb):=by
 unfold K26.F0
 refine Q4z (λa b=>a.1=b.1/\b.1.1=(0,m)/\b.1.2.1=(m:Int)/\0<=b.1.2.2.1/\a.2.1=QM c δ K/\b.2.1=K/\a.2.2.1=b.2.2.1/\b.2.2.1.1=8/\(b.2.2.1.2.1:Int)<=b.1.2.2.1/\a.2.2.2.1=b.2.2.2.1/\b.2.2.2.1.1=8/\a.2.2.2.2.1=b.2.2.2.2.1/\b.2.2.2.2.1.1=8/\RD c a.2.2.2.2.2 b.2.2.2.2.2/\nD' n b.2.2.2.2.2=nD' n yb) (λb=>((m:Int) - b.1.2.2.1).toNat) (λa b ⟨e1,e2,e3,e4,e5,e6,e7,e8,e9,e10,e11,e12,e13,hY,e14⟩=>?_) _ _ _ ⟨rfl,rfl,rfl,Int.le_refl 0,rfl,rfl,rfl,rfl,Int.le_refl 0,rfl,rfl,rfl,rfl,hY,rfl⟩ (by simp only [];omega)
 unfold K26.QO
 obtain ⟨⟨am,an,ai,_⟩,aK,ab,av,al,ag⟩:=a
 obtain ⟨⟨bm,bn,bi,_⟩,bK,⟨b8,bz,bf⟩,⟨v8,vf⟩,⟨l8,lf⟩,bg⟩:=b
 dsimp only at e1 e2 e3 e4 e5 e6 e7 e8 e9 e10 e11 e12 e13 hY e14
 cases e1
 subst e2 e3 e5 e6 e7 e8 e10 e11 e12 e13
 dsimp only
 refine Qx (λhh=>?_) (λ_=>Q6 ⟨rfl,rfl,rfl,rfl,rfl,rfl,rfl,rfl,rfl,rfl,hY,e14⟩)
 have hh:=Q2m hh
 have hK:KR c δ (nD' n bg) K0 (QM c δ bK) bK:=by rw [e14];exact h
 have einc:Q4 .i64 ai 1=ai+1:=Q1g (by omega)
 refine Q2z (Q1C e4 hh) (Qs ee (λr0 _=>Qx (λ_=>?_) (λ_=>?_)))
 ·rw [einc]
  refine Q6 ⟨⟨rfl,rfl,rfl,?_,rfl,rfl,rfl,rfl,?_,rfl,rfl,rfl,rfl,hY,e14⟩,?_⟩
  ·show 0<=ai+1;omega
  ·show (bz:Int)<=ai+1;omega
  ·show ((m:Int) - (ai+1)).toNat < ((m:Int) - ai).toNat;omega
 have hsd:SOk c (nD' n bg) (bK.Qe (0+Int.toNat ai)):=hK.ok.side _ (by rw [hK.Q11];omega)
 refine QN (λa b=>a.1=b.1/\b.1.1=(0,m)/\b.1.2.1=ai/\b.1.2.2.1=0+Int.toNat ai/\b.1.2.2.2.2.1=(m:Int)/\b.1.2.2.2.2.2.1=ai/\a.2.1=QM c δ bK/\b.2.1=bK/\a.2.2.1=(8,bz,bf)/\b.2.2.1=(8,bz,bf)/\a.2.2.2.1=(8,vf)/\b.2.2.2.1=(8,vf)/\a.2.2.2.2.1=(8,lf)/\b.2.2.2.2.1=(8,lf)/\a.2.2.2.2.2.1=b.2.2.2.2.2.1/\a.2.2.2.2.2.2=ag/\b.2.2.2.2.2.2=bg) (Q2I hY.1 hsd.t rfl (λi hl hlt e hi=>?_)) (λs w ⟨z1,z2,z3,z4,z5,z6,z7,z8,z9,z10,z11,z12,z13,z14,z15,z16,z17⟩=>?_)
 ·rw [e]
  exact Qs (Qdg _ _ hi) (λr _=>Q6 ⟨rfl,rfl,rfl,rfl,rfl,rfl,rfl,rfl,rfl,rfl,rfl,rfl,rfl,rfl,rfl,rfl,rfl⟩)
 obtain ⟨s1,sK,sb,sv,sl,sr,sg⟩:=s
 obtain ⟨⟨wm,wi,wp,wo,wn,wj,_⟩,wK,wb,wv,wl,wr,wg⟩:=w
 dsimp only at z1 z2 z3 z4 z5 z6 z7 z8 z9 z10 z11 z12 z13 z14 z15 z16 z17
 subst z1 z2 z3 z4 z5 z6 z7 z8 z9 z10 z11 z12 z13 z14 z15 z16 z17
 dsimp only
 have i8:∀{k:Nat},k=8->(bif inR wj 8 then inR wj k else false)=true:=λhk=>inR8 e4 (by omega) hk
 rw [i8 rfl]
 refine QN (λa b=>a.1=b.1/\b.1.1=(0,m)/\b.1.2.1=wj/\b.1.2.2.2.1=(m:Int)/\b.1.2.2.2.2.1=wj/\a.2.1=QM c δ wK/\b.2.1=wK/\a.2.2.1=b.2.2.1/\b.2.2.1.1=8/\b.2.2.1.2.1=bz/\a.2.2.2.1=b.2.2.2.1/\b.2.2.2.1.1=8/\a.2.2.2.2.1=b.2.2.2.2.1/\b.2.2.2.2.1.1=8/\a.2.2.2.2.2=sg/\b.2.2.2.2.2=wg) (Q2z rfl (Q2z (Nat.ble_eq_true_of_le (by omega)) (Q2z rfl (Q6 ⟨rfl,rfl,rfl,rfl,rfl,rfl,rfl,rfl,rfl,rfl,rfl,rfl,rfl,rfl,rfl,rfl⟩)))) (λs' w' ⟨y1,y2,y3,y4,y5,y6,y7,y8,y9,y9',y10,y11,y12,y13,y14,y15⟩=>?_)
 obtain ⟨s1',sK',sb',sv',sl',sg'⟩:=s'
 obtain ⟨⟨wm',wj',wo',wn',wj',_⟩,wK',⟨wb8,wbz,wbf⟩,⟨wv8,wvf⟩,⟨wl8,wlf⟩,wg'⟩:=w'
 dsimp only at y1 y2 y3 y4 y5 y6 y7 y8 y9 y9' y10 y11 y12 y13 y14 y15
 subst y1 y2 y3 y4 y5 y6 y7 y8 y9 y9' y10 y11 y12 y13 y14 y15
 dsimp only
 rw [i8 rfl]
 refine QN (λa b=>a.1=b.1/\b.1.1=(0,m)/\b.1.2.1=(m:Int)/\b.1.2.2.1=wj'/\a.2.1=QM c δ wK'/\b.2.1=wK'/\a.2.2.1=b.2.2.1/\b.2.2.1.1=8/\(b.2.2.1.2.1:Int)<=wj'+1/\a.2.2.2.1=b.2.2.2.1/\b.2.2.2.1.1=8/\a.2.2.2.2.1=b.2.2.2.2.1/\b.2.2.2.2.1.1=8/\a.2.2.2.2.2=sg'/\b.2.2.2.2.2=wg') (Qx (λ_=>Q2z rfl (Q2z rfl (Q6 ⟨rfl,rfl,rfl,rfl,rfl,rfl,rfl,rfl,?_,rfl,rfl,rfl,rfl,rfl,rfl⟩))) (λ_=>Q6 ⟨rfl,rfl,rfl,rfl,rfl,rfl,rfl,rfl,?_,rfl,rfl,rfl,rfl,rfl,rfl⟩)) (λs w ⟨x1,x2,x3,x4,x5,x6,x7,x8,x9,x10,x11,x12,x13,x14,x15⟩=>Q6 ⟨⟨?_,x2,x3,?_,x5,x6,x7,x8,?_,x10,x11,x12,x13,by rw [x14,x15];exact hY,by rw [x15];exact e14⟩,?_⟩)
 ·show ((Nat.max wbz (Int.toNat wj'+1):Nat):Int)<=wj'+1
  have:Nat.max wbz (Int.toNat wj'+1)<=Int.toNat wj'+1:=Nat.max_le.2 ⟨by omega,Nat.le_refl _⟩
  omega
 ·show (wbz:Int)<=wj'+1;omega
 ·show (s.1.1,s.1.2.1,Q4 .i64 s.1.2.2.1 1,())=(w.1.1,w.1.2.1,Q4 .i64 w.1.2.2.1 1,())
  rw [x1]
 ·show 0<=Q4 .i64 w.1.2.2.1 1
  rw [x4,einc];omega
 ·show (w.2.2.1.2.1:Int)<=Q4 .i64 w.1.2.2.1 1
  rw [x4,einc];exact x9
 ·show ((m:Int) - Q4 .i64 w.1.2.2.1 1).toNat < ((m:Int) - wj').toNat
  rw [x4,einc];omega
theorem dF1_w {c:Cx} {δ:Dl} {K:Q1} {ya yb:YD} (q:Nat×Nat) (l:List Int) (hl:l.length<=8) (bt:Bests) (hb:bt.1=8) (pa:QY):
  Tw (K26.F1 ((q,l,l,ofN l.length,0,()),QM c δ K,bt,pa,ya)) (K26.F1 ((q,l,l,ofN l.length,0,()),K,bt,pa,yb))
   (λa b=>a.1=b.1/\b.1=(q,l,())/\a.2.1=QM c δ K/\b.2.1=K/\a.2.2.1=b.2.2.1/\a.2.2.2=ya/\b.2.2.2=yb):=by
 unfold K26.F1
 refine Q4z (λa b=>a.1=b.1/\b.1.1=q/\b.1.2.1=l/\b.1.2.2.1=l/\b.1.2.2.2.1=(l.length:Int)/\0<=b.1.2.2.2.2.1/\a.2.1=QM c δ K/\b.2.1=K/\a.2.2.1=bt/\b.2.2.1=bt/\a.2.2.2.1=b.2.2.2.1/\a.2.2.2.2=ya/\b.2.2.2.2=yb) (λb=>((l.length:Int) - b.1.2.2.2.2.1).toNat) (λa b ⟨e1,e2,e3,e4,e5,e6,e7,e8,e9,e10,e11,e12,e13⟩=>?_) _ _ _ ⟨rfl,rfl,rfl,rfl,rfl,Int.le_refl 0,rfl,rfl,rfl,rfl,rfl,rfl,rfl⟩ (by simp only [];omega)
 unfold K26.Q2A
 obtain ⟨a1,aK,ab,ap,ay⟩:=a
 obtain ⟨⟨bq,bl,bl2,bn,bi,_⟩,bK,bb,bp,by'⟩:=b
 dsimp only at e1 e2 e3 e4 e5 e6 e7 e8 e9 e10 e11 e12 e13
 subst e1 e2 e3 e5 e7 e8 e9 e10 e11 e12 e13
 subst e4
 dsimp only
 refine Qx (λhh=>?_) (λ_=>Q6 ⟨rfl,rfl,rfl,rfl,rfl,rfl,rfl⟩)
 have hh:=Q2m hh
 have einc:Q4 .i64 bi 1=bi+1:=Q1g (by omega)
 refine Q2z (Q1C e6 hh) (QN (λa b=>∃p,a=(((bq,bl2,bl2,(bl2.length:Int),bi,()),QM c δ bK,bb,p,ay):(_×_))/\b=(((bq,bl2,bl2,(bl2.length:Int),bi,()),bK,bb,p,by'):(_×_))) (Qx (λ_=>?_) (λ_=>Q6 ⟨_,rfl,rfl⟩)) (λs w ⟨p,x1,x2⟩=>?_))
 ·rw [inR8 e6 (by omega) hb]
  exact Q2z rfl (Q2z rfl (Qs ee (λ_ _=>Q6 ⟨_,rfl,rfl⟩)))
 ·subst x1 x2
  dsimp only
  rw [einc]
  refine Q6 ⟨⟨rfl,rfl,rfl,rfl,rfl,?_,rfl,rfl,rfl,rfl,rfl,rfl,rfl⟩,?_⟩
  ·show 0<=bi+1;omega
  ·show ((bl2.length:Int) - (bi+1)).toNat < ((bl2.length:Int) - bi).toNat;omega
theorem nD_eq {n:Sz} {a b:YD} (e1:b.1.1=a.1.1) (e2:b.2.1.1=a.2.1.1) (e3:b.2.2.1.1=a.2.2.1.1) (e4:b.2.2.2.1.1=a.2.2.2.1.1):nD' n b=nD' n a:=by unfold nD';rw [e1,e2,e3,e4]
theorem dF2_w {c:Cx} {δ:Dl} {n:Sz} {K0:Q8×Nat} {K:Q1} {ya yb:YD} (m:Nat) (hm:(m:Int)<=K0.1.Qv) (l:List Int) (hl:l.length<=m) (hm8:m<=8) (same:Bool) (pa:QY) (h:KR c δ (nD' n yb) K0 (QM c δ K) K) (hY:RD c ya yb):
  Tw (K26.F2 (((0,m),same,l,ofN l.length,0,()),QM c δ K,pa,ya)) (K26.F2 (((0,m),same,l,ofN l.length,0,()),K,pa,yb))
   (λa b=>(a.1=b.1/\True)/\KR c δ (nD1 n b.2.2) K0 a.2.1 b.2.1/\RD1 c a.2.2 b.2.2):=by
 unfold K26.F2
 refine Q4z (λa b=>a.1=b.1/\b.1.1=(0,m)/\b.1.2.2.1=l/\b.1.2.2.2.1=(l.length:Int)/\0<=b.1.2.2.2.2.1/\KR c δ (nD1 n b.2.2) K0 a.2.1 b.2.1/\RD1 c a.2.2 b.2.2) (λb=>((l.length:Int) - b.1.2.2.2.2.1).toNat) (λa b ⟨e1,e2,e3,e4,e5,hK,hD⟩=>?_) _ _ _ ⟨rfl,rfl,rfl,rfl,Int.le_refl 0,h,rfl,hY⟩ (by simp only [];omega)
 unfold K26.Q7O
 obtain ⟨a1,aK,ay⟩:=a
 obtain ⟨⟨bq,bs,bl,bn,bi,_⟩,bK,by'⟩:=b
 dsimp only at e1 e2 e3 e4 e5 hK hD
 have e6:=hK.eq
 subst e1 e2 e3 e4 e6
 dsimp only
 refine Qx (λhh=>?_) (λ_=>Q6 ⟨⟨rfl,trivial⟩,hK,hD⟩)
 have hh:=Q2m hh
 have einc:Q4 .i64 bi 1=bi+1:=Q1g (by omega)
 refine Q2z (Q1C e5 hh) (Q2z (Q1C e5 (by omega)) (Qs ee (λr0 _=>Qx (λ_=>?_) (λ_=>?_))))
 ·rw [einc]
  refine Q6 ⟨⟨rfl,rfl,rfl,rfl,?_,hK,hD⟩,?_⟩
  ·show 0<=bi+1;omega
  ·show ((bl.length:Int) - (bi+1)).toNat < ((bl.length:Int) - bi).toNat;omega
 have hlt:((0+bi.toNat:Nat):Int) < K0.1.Qv:=by omega
 refine Q1o (λq=>q.1=(0,m)/\q.2.2.2.1=0+bi.toNat/\q.2.2.2.2.2.1=bl/\q.2.2.2.2.2.2.1=(bl.length:Int)/\q.2.2.2.2.2.2.2.1=bi) (RD1 c) (nD1 n) (Qs ee (λ_ _=>Q6 ⟨⟨rfl,rfl,rfl,rfl,rfl,rfl⟩,hK.port rfl λs=>s.Q32,hD⟩)) (λq B ya yb ⟨q1,q2,q3,q4,q5⟩ hK hD=>?_)
 refine QN (λa b=>a=b) (Qx (λ_=>Q6 rfl) (λ_=>Qx (λ_=>Qx (λ_=>Q6 rfl) (λ_=>Q6 rfl)) (λ_=>Q6 rfl))) (λr3 r3' e=>?_)
 subst e
 refine Q1o (λq=>q.1=(0,m)/\q.2.2.1=bl/\q.2.2.2.1=(bl.length:Int)/\q.2.2.2.2.1=bi) (RD1 c) (nD1 n) (Qx (λ_=>?_) (λ_=>Q6 ⟨⟨rfl,q1,q3,q4,q5⟩,hK,hD⟩)) (λq B ya yb ⟨q1,q2,q3,q4⟩ hK hD=>?_)
 ·refine Q1o (c:=c) (δ:=δ) (K0:=K0) (λq=>q.1=(0,m)/\q.2.2.2.1=bl/\q.2.2.2.2.1=(bl.length:Int)/\q.2.2.2.2.2.1=bi) (RD1 c) (nD1 n) (QN _ (QaF (n:=nD1 n yb) _ (hK.ok.side _ (by rw [hK.Q11];show ((q.2.2.2.1:Nat):Int) < _;rw [q2];exact hlt)) rfl rfl hD.2.2.1 hD.2.2.2.2) (λa b ⟨hS,k7,k10,z7,z10,_⟩=>Q6 ⟨⟨rfl,q1,q3,q4,q5⟩,?_,⟨hD.1,hD.2.1,k7,hD.2.2.2.1,k10⟩⟩)) (λq B ya yb ⟨q1,q2,q3,q4⟩ hK hD=>?_)
  ·have e:nD1 n (yb.1,yb.2.1,b.2.1.2.1,yb.2.2.2.1,b.2.1.2.2)=nD1 n yb:=nD_eq rfl z7 rfl z10
   show KR c δ (nD1 n (yb.1,yb.2.1,b.2.1.2.1,yb.2.2.2.1,b.2.1.2.2)) _ _ _
   rw [e]
   exact hK.Qb3 hS.eq hS.ok
  ·have hp:ya.1=yb.1:=hD.1
   dsimp only
   rw [hp]
   exact Q5I (λ_=>True) RU (nU (nD1 n yb)) (Qcq _ _ hK) (λq' B _ _ _ h _=>Q6 ⟨⟨rfl,q1,q2,q3,q4⟩,h,⟨hp,hD.2⟩⟩)
 ·refine Q6 ⟨⟨rfl,q1,q2,q3,?_,hK,hD⟩,?_⟩
  ·show 0<=Q4 .i64 q.2.2.2.2.1 1
   rw [q4,einc];omega
  ·show ((bl.length:Int) - Q4 .i64 q.2.2.2.2.1 1).toNat < ((bl.length:Int) - bi).toNat
   rw [q4,einc];omega
theorem Q7z (f:Qh) (h:Q6s f):Tot (Q1Z f) (λr=>Q6s r.2.1.1):=by
 unfold Q1Z Q1Z.gen
 exact Q2 ⟨Int.le_refl 0,by show 0<=f.Q4W;have:=h.2.2.1;omega,h.2.2.1,h.2.2.2⟩
theorem Qcn {c:Cx} {δ:Dl} {n:Sz} {K0:Q8×Nat} {K:Q1} {ya yb:YD} (h:KR c δ (nD' n yb) K0 (QM c δ K) K) (hY:RD c ya yb):
  Tw (K26 (QM c δ K) ya.1 ya.2.1 ya.2.2.1 ya.2.2.2.1) (K26 K yb.1 yb.2.1 yb.2.2.1 yb.2.2.2.1) (λa b=>(a.1=b.1/\True)/\KR c δ (nD' n b.2.1.2) K0 a.2.1.1 b.2.1.1/\RD c a.2.1.2 b.2.1.2):=by
 obtain ⟨p1,p8,_⟩:=Q30 h.ok.Q11
 have hc:=h.Q11
 unfold K26 K26.gen
 obtain ⟨m,hm⟩:∃m:Nat,K.Qo.Qv=(m:Int):=⟨K.Qo.Qv.toNat,by omega⟩
 have em:Int.toNat K.Qo.Qv - Int.toNat (ofN 0)=m:=by unfold ofN;omega
 rw [show (QM c δ K).Qo=K.Qo from rfl,em]
 refine Q2z (Q33 (by decide) (by unfold ofN;omega) (by omega)) ?_
 refine QN _ (dF0_w m (by rw [←hc,hm];exact Int.le_refl _) (by omega) h hY _ _ _) (λa b ⟨e1,e2,e3,e4,e5,e6,e7,e8,e9,e10,hD,e11⟩=>?_)
 obtain ⟨a1,aK,ab,av,al,ay⟩:=a
 obtain ⟨b1,bK,bb,⟨bv,bvf⟩,⟨bl,blf⟩,by'⟩:=b
 dsimp only at e1 e2 e3 e4 e5 e6 e7 e8 e9 e10 hD e11
 subst e1 e2 e3 e4 e5 e7 e8 e9 e10
 dsimp only
 have hK:KR c δ (nD' n by') K0 (QM c δ bK) bK:=by rw [e11];exact h
 have l8:∀{k:Nat},k=8->(bif le3 0 (ofN m) 8 then le3 0 (ofN m) k else false)=true:=λhk=>by
  subst hk
  rw [Q33 (Int.le_refl 0) (by unfold ofN;omega) (by unfold ofN;omega)];rfl
 rw [l8 rfl]
 have e0:Int.toNat (ofN m)=m:=rfl
 rw [e0]
 refine Qs ee (λr1 _=>Q2z rfl (Q2z rfl (Qs (all_t _ _ _ (by simp only [List.length_map,List.length_range];omega)) (λr2 hr2=>?_))))
 simp only [List.length_map,List.length_range] at hr2
 refine QN (λa b=>∃pa,a=((((0,m),r2.1.1,()),QM c δ bK,ab,pa,ay):_×_)/\b=((((0,m),r2.1.1,()),bK,ab,pa,by'):_×_)) (Qs ee (λ_ _=>Q6 ⟨_,rfl,rfl⟩)) (λa b ⟨pa,x1,x2⟩=>?_)
 subst x1 x2
 dsimp only
 refine QN _ (dF1_w _ _ (by omega) ab e6 pa) (λa b ⟨y1,y2,y3,y4,y5,y6,y7⟩=>?_)
 obtain ⟨a1,aK,ap,ay2⟩:=a
 obtain ⟨b1,bK2,bp,by2⟩:=b
 dsimp only at y1 y2 y3 y4 y5 y6 y7
 subst y1 y2 y3 y4 y5 y6 y7
 dsimp only
 refine Q1o (λ_=>True) (RD1 c) (nD1 n) (dF2_w m (by rw [←hc,hm];exact Int.le_refl _) _ hr2 (by omega) _ _ hK hD) (λq B ya yb _ hK hD=>?_)
 refine Q1o (λ_=>True) (RD1 c) (nD1 n) (Qx (λ_=>?_) (λ_=>Q6 ⟨⟨rfl,trivial⟩,hK,hD⟩)) (λq B ya yb _ hK hD=>?_)
 ·refine Q1o (λ_=>True) (RD1 c) (nD1 n) (Q2I hD.2.2.2.1 hK.ok.f rfl (λi hl hlt e hi=>?_)) (λq B ya yb _ hK hD=>Q6 ⟨⟨rfl,trivial⟩,⟨rfl,⟨hK.ok.Q11,hK.ok.s,hK.ok.f,hK.ok.all⟩,hK.Q11,hK.outs,hK.dr⟩,hD⟩)
  rw [e]
  exact Qs (Q7z _ hi) (λr hr=>Q6 ⟨⟨rfl,trivial⟩,hK,⟨hD.1,hD.2.1,hD.2.2.1,hD.2.2.2.1.set hl hr,hD.2.2.2.2⟩⟩)
 ·have hp:ya.1=yb.1:=hD.1
  refine Q6 ⟨⟨rfl,trivial⟩,⟨?_,⟨hK.ok.Q11,hK.ok.s,hK.ok.f,hK.ok.all⟩,hK.Q11,hK.outs,hK.dr⟩,hD.2⟩
  show Q1.Q4l (QM c δ B) ya.1=QM c δ (Q1.Q4l B yb.1)
  rw [hp];rfl
theorem Q6S {c:Cx} {δ:Dl} {n:Sz} {cf:Q8} {m:Nat} {K:Q1} (i:Int) (x:Q9) (l:List Qi) (w:Bool) (hm:m<=1000000) (h:KR c δ n (cf,m) (QM c δ K) K):Tw (K34 i x l w (QM c δ K)) (K34 i x l w K) (λa b=>(a.1=b.1/\True)/\KR c δ (nU n b.2.1.2) (cf,m+1) a.2.1.1 b.2.1.1/\RU a.2.1.2 b.2.1.2):=by
 have ho:K.Q2j.length<=m:=h.outs
 unfold K34 K34.gen
 refine Qs (Qeq _ _) (λr0 _=>Qx (λ_=>?_) (λ_=>Q6 ⟨⟨rfl,trivial⟩,h.more (Nat.le_succ _),trivial⟩))
 refine Q2z (Q2W (by show (K.Q2j.length+_)*64<=_;simp only [List.length_cons,Qn,List.length_nil];omega)) (Q6 ⟨⟨rfl,trivial⟩,⟨rfl,⟨h.ok.Q11,h.ok.s,h.ok.f,h.ok.all⟩,h.Q11,?_,h.dr⟩,trivial⟩)
 show (K.Q2j++_).length<=m+1
 simp only [List.length_append,List.length_cons,Qn,List.length_nil];omega
theorem Q6n {c:Cx} {δ:Dl} (n:Int) (K:Q1):K40 n (QM c δ K)=K40 n K:=rfl
theorem Q6H {c:Cx} {δ:Dl} (n:Int) (K:Q1):K38 n (QM c δ K)=K38 n K:=rfl
theorem Q6m {n:Int} (K:Q1) (h1:1<=n) (h8:n<=8):Tot (K40 n K) (λr=>r.1.1=(n - 1).toNat):=⟨_,Q7u K h1 h8,rfl⟩
theorem QdV {c:Cx} {δ:Dl} {n:Sz} {cf:Q8×Nat} {K:Q1} {g12 g12':Nat×(Nat->List (Qf×List Int))} (h:KR c δ n cf (QM c δ K) K) (hn:n.p=g12'.1) (h12:FR c.p Q3P g12 g12'):Tw (K35 (QM c δ K) g12) (K35 K g12') (λa b=>a=b):=by
 obtain ⟨p1,p8,_⟩:=Q30 h.ok.Q11
 unfold K35 K35.gen
 obtain ⟨m,hm⟩:∃m:Nat,K.Qo.Qv=(m:Int):=⟨K.Qo.Qv.toNat,by omega⟩
 have em:Int.toNat K.Qo.Qv - Int.toNat (ofN 0)=m:=by unfold ofN;omega
 rw [show (QM c δ K).Qo=K.Qo from rfl,em]
 refine Qx (λ_=>Q6 rfl) (λ_=>Q2z (Q33 (by decide) (by unfold ofN;omega) (by omega)) (QN (λa b=>a.1=b.1/\b.1.1.length<=60/\a.2.1=QM c δ K/\b.2.1=K) ?_ (λa b ⟨e1,e2,e3,e4⟩=>?_)))
 ·unfold K35.F1
  refine Q4z (λa b=>a.1=b.1/\b.1.1= []/\b.1.2.1=(m:Int)/\0<=b.1.2.2.1/\a.2.1=QM c δ K/\b.2.1=K/\a.2.2.1=g12/\b.2.2.1=g12') (λb=>((m:Int) - b.1.2.2.1).toNat) (λa b ⟨e1,e2,e3,e4,e5,e6,e7,e8⟩=>?_) _ _ _ ⟨rfl,rfl,rfl,Int.le_refl 0,rfl,rfl,rfl,rfl⟩ (by simp only [];omega)
  unfold K35.Q2A
  obtain ⟨a1,aK,ag,_⟩:=a
  obtain ⟨⟨bl,bm,bi,_⟩,bK,bg,_⟩:=b
  dsimp only at e1 e2 e3 e4 e5 e6 e7 e8
  subst e1 e2 e3 e5 e6 e7 e8
  dsimp only
  refine Qx (λhh=>?_) (λ_=>Q6 ⟨rfl,Nat.zero_le _,rfl,rfl⟩)
  have hh:=Q2m hh
  refine Q2z (Q1C (n:=8) e4 (by omega)) (QN (λa b=>a=b/\(Option.getD b (Qn Int)).length<=60) (Q2I h12 (by rw [←hn];exact (h.ok.side _ (by omega)).p) rfl (λi hl hlt e hi=>?_)) (λr r' ⟨e,hr⟩=>?_))
  ·rw [e]
   exact Qav (Qa8 _ _ hi)
  ·subst e
   have hr:List.length (Option.getD r (Qn Int):List Int)<=60:=hr
   refine Qx (λ_=>Q2z (Q2W (by show (0+List.length (Option.getD r (Qn Int):List Int))*8<=140737488355328;omega)) (Q6 ⟨rfl,hr,rfl,rfl⟩)) (λ_=>?_)
   ·rw [Q1g (by omega)]
    refine Q6 ⟨⟨rfl,rfl,rfl,?_,rfl,rfl,rfl,rfl⟩,?_⟩
    ·show 0<=bi+1;omega
    ·show ((m:Int) - (bi+1)).toNat < ((m:Int) - bi).toNat;omega
 ·rw [e1,e3,e4]
  refine QN (λa b=>a.1=b.1/\a.2.2.1=b.2.2.1) (Q2z (Q2W (by simp only [List.length_cons,Qn,List.length_nil];omega)) (Qs (QdQ _) (λr _=>Q6 ⟨rfl,rfl⟩))) (λa b ⟨x1,x2⟩=>?_)
  rw [x1,x2]
  exact Qx (λ_=>Q6 rfl) (λ_=>Q6 rfl)
abbrev Y78:=(Fm Qg)×(Fm Qc)×(Nat×(Nat->List (Qf×List Int)))×Unit
abbrev RS (c:Cx) (a b:Y78):Prop:=FR c.d (λ_=>True) a.1 b.1/\FR c.e (λ_=>True) a.2.1 b.2.1/\FR c.p Q3P a.2.2.1 b.2.2.1
abbrev nS (n:Sz) (b:Y78):Sz:={ n with d:=b.1.1,e:=b.2.1.1,p:=b.2.2.1.1}
abbrev RS1 (c:Cx) (a b:Q9×Y78):Prop:=a.1=b.1/\RS c a.2 b.2
abbrev nS1 (n:Sz) (b:Q9×Y78):Sz:=nS n b.2
theorem req_w {c:Cx} {n:Sz} {x:Q5} {g7 g7':Fm Qg} {g8 g8':Fm Qc} (pe:Bool) (hs:SOk c n x) (e7:n.d=g7'.1) (e8:n.e=g8'.1) (h7:FR c.d (λ_=>True) g7 g7') (h8:FR c.e (λ_=>True) g8 g8'):
  Tw (K48 pe (Q3A c x) g7 g8) (K48 pe x g7' g8') (λa b=>a.1=b.1/\SR c n a.2.1.1 b.2.1.1/\FR c.d (λ_=>True) a.2.1.2.1 b.2.1.2.1/\FR c.e (λ_=>True) a.2.1.2.2.1 b.2.1.2.2.1/\b.2.1.2.1.1=g7'.1/\b.2.1.2.2.1.1=g8'.1):=by
 unfold K48 K48.gen
 refine Qx (λ_=>?_) (λ_=>?_)
 ·refine QN (λa b=>a.2.1=Q3A c x/\b.2.1=x/\a.2.2.1=b.2.2.1/\FR c.d (λ_=>True) a.2.2.2.1 b.2.2.2.1/\FR c.e (λ_=>True) a.2.2.2.2.1 b.2.2.2.2.1/\b.2.2.2.1.1=g7'.1/\b.2.2.2.2.1.1=g8'.1) (Q2I h8 (by rw [←e8];exact hs.e) rfl (λi hl hlt e hi=>?_)) (λa b ⟨z1,z2,z3,z4,z5,z6,z7⟩=>?_)
  ·rw [e]
   exact Qs ee (λr hr=>Q6 ⟨rfl,rfl,rfl,h7,h8.set hl trivial,rfl,rfl⟩)
  ·rw [z1,z2,z3]
   exact Q6 ⟨rfl,⟨rfl,hs⟩,z4,z5,z6,z7⟩
 ·refine Q2I h7 (by rw [←e7];exact hs.d) rfl (λi hl hlt e hi=>?_)
  rw [e]
  exact Qs ee (λr hr=>Q6 ⟨rfl,⟨rfl,hs⟩,h7.set hl trivial,h8,rfl,rfl⟩)
theorem Qay (l:Int):Tot (Q2T l) (λ_=>True):=Q7M (QaA l) λ_ _=>trivial
theorem nS_eq {n:Sz} {a b:Y78} (e1:b.1.1=a.1.1) (e2:b.2.1.1=a.2.1.1) (e3:b.2.2.1.1=a.2.2.1.1):nS n b=nS n a:=by unfold nS;rw [e1,e2,e3]
theorem QdC {c:Cx} {δ:Dl} {n:Sz} {cf:Q8} {m:Nat} {K:Q1} {ya yb:Y78} (i now:Int) (h1:1<=i) (hi:i<=cf.Qv) (hm:m<=100000) (h:KR c δ (nS n yb) (cf,m) (QM c δ K) K) (hY:RS c ya yb):
  Tw (K41 i now (QM c δ K) ya.1 ya.2.1 ya.2.2.1) (K41 i now K yb.1 yb.2.1 yb.2.2.1) (λa b=>(a.1=b.1/\True)/\KR c δ (nS n b.2.1.2) (cf,m+3) a.2.1.1 b.2.1.1/\RS c a.2.1.2 b.2.1.2):=by
 obtain ⟨p1,p8,_⟩:=Q30 h.ok.Q11
 have hc:K.Qo=cf:=h.Q11
 rw [hc] at p1 p8
 have hlt:(((i - 1).toNat:Nat):Int) < cf.Qv:=by omega
 unfold K41 K41.gen
 refine Q2P (Q6n _ _) (Q6m K h1 (by omega)) (λr0 e0=>?_)
 rw [e0]
 refine Q1o (λq=>q.2.2.1=(i - 1).toNat) (RS c) (nS n) (Qx (λ_=>Qs ee (λ_ _=>Q6 ⟨⟨rfl,rfl⟩,h.port rfl λs=>s.Q32,hY⟩)) (λ_=>Q6 ⟨⟨rfl,rfl⟩,h,hY⟩)) (λq B ya yb hq h hY=>?_)
 refine Q1o (c:=c) (δ:=δ) (K0:=(cf,m+1)) (λq=>q.2.2.1=(i - 1).toNat) (RS c) (nS n) (Qx (λ_=>?_) (λ_=>Q6 ⟨⟨rfl,hq⟩,h.more (Nat.le_succ _),hY⟩)) (λq B ya yb hq h hY=>?_)
 ·refine Q1o (c:=c) (δ:=δ) (K0:=(cf,m+1)) (λq=>q.2.2.1=(i - 1).toNat) (RS c) (nS n) (Qs ee (λr3 _=>QN _ (QdV h rfl hY.2.2) (λr4 r4' e=>?_))) (λq B ya yb hq h hY=>?_)
  ·subst e
   exact Q5I (λ_=>True) RU (nU (nS n yb)) (Q6S _ _ _ _ (by omega) h) (λq' B _ _ _ h _=>Q6 ⟨⟨rfl,hq⟩,h,hY⟩)
  refine Q1o (c:=c) (δ:=δ) (K0:=(cf,m+1)) (λq=>q.2.2.1=(i - 1).toNat) (RS c) (nS n) (Qs ee (λ_ _=>Q6 ⟨⟨rfl,hq⟩,h.port rfl λs=>s.Q32,hY⟩)) (λq B ya yb hq h hY=>?_)
  exact Q2P (Q9O _) (Q8o _) (λ_ _=>Qs ee (λ_ _=>Q6 ⟨⟨rfl,hq⟩,h.port rfl λs=>s.Q32,hY⟩))
 refine Q1o (λq=>q.2.2.1=(i - 1).toNat) (RS c) (nS n) (Qx (λ_=>Qs ee (λ_ _=>Q6 ⟨⟨rfl,hq⟩,h.port rfl λs=>s.Q32,hY⟩)) (λ_=>Q6 ⟨⟨rfl,hq⟩,h,hY⟩)) (λq B ya yb hq h hY=>?_)
 refine Q1o (c:=c) (δ:=δ) (K0:=(cf,m+2)) (λq=>q.2.1=(i - 1).toNat) (RS c) (nS n) (Qx (λ_=>?_) (λ_=>Q6 ⟨⟨rfl,hq⟩,h.more (Nat.le_succ _),hY⟩)) (λq B ya yb hq h hY=>?_)
 ·refine Q1o (c:=c) (δ:=δ) (K0:=(cf,m+1)) (λq=>q.2.2.1=(i - 1).toNat) (RS1 c) (nS1 n) (Q2P (Q6H _ _) ee (λr _=>Q6 ⟨⟨rfl,hq⟩,h,⟨rfl,hY⟩⟩)) (λq B ya yb hq h hY=>?_)
  have e1:ya.1=yb.1:=hY.1
  refine Q1o (c:=c) (δ:=δ) (K0:=(cf,m+1)) (λq=>q.2.1=(i - 1).toNat) (RS1 c) (nS1 n) (Qx (λ_=>Q6 ⟨⟨rfl,hq⟩,h,⟨by dsimp only;rw [e1],hY.2⟩⟩) (λ_=>Q6 ⟨⟨rfl,hq⟩,h,⟨by dsimp only;rw [e1],hY.2⟩⟩)) (λq B ya yb hq h hY=>?_)
  have e1:ya.1=yb.1:=hY.1
  refine Q1o (c:=c) (δ:=δ) (K0:=(cf,m+2)) (λq=>q.2.1=(i - 1).toNat) (RS c) (nS n) ?_ (λq B ya yb hq h hY=>?_)
  ·dsimp only
   rw [e1]
   exact Q5I (λ_=>True) RU (nU (nS1 n yb)) (Q6S _ _ _ _ (by omega) h) (λq' B _ _ _ h _=>Q6 ⟨⟨rfl,hq⟩,h,hY.2⟩)
  refine Q1o (c:=c) (δ:=δ) (K0:=(cf,m+2)) (λq=>q.2.1=(i - 1).toNat) (RS c) (nS n) (Qs ee (λ_ _=>Q6 ⟨⟨rfl,hq⟩,h.port rfl λs=>s.Q32,hY⟩)) (λq B ya yb hq h hY=>?_)
  exact Qs (Qay _) (λ_ _=>Qs ee (λ_ _=>Q6 ⟨⟨rfl,hq⟩,h.port rfl λs=>s.Q32,hY⟩))
 refine Qs ee (λr24 _=>?_)
 refine Q1o (λq=>q.2.1=(i - 1).toNat) (RS c) (nS n) (Qx (λ_=>Qs ee (λ_ _=>Q6 ⟨⟨rfl,hq⟩,h,hY⟩)) (λ_=>Q6 ⟨⟨rfl,hq⟩,h,hY⟩)) (λq B ya yb hq h hY=>?_)
 refine Q1o (λq=>q.2.1=(i - 1).toNat) (RS c) (nS n) (Qx (λ_=>Qs ee (λ_ _=>Q6 ⟨⟨rfl,hq⟩,h.port rfl λs=>s.Q32,hY⟩)) (λ_=>Q6 ⟨⟨rfl,hq⟩,h,hY⟩)) (λq B ya yb hq h hY=>?_)
 refine Qx (λ_=>?_) (λ_=>Q6 ⟨⟨rfl,trivial⟩,h.more (Nat.le_succ _),hY⟩)
 refine Q1o (c:=c) (δ:=δ) (K0:=(cf,m+2)) (λq=>q.2.1=(i - 1).toNat) (RS1 c) (nS1 n) (QN _ (req_w (n:=nS n yb) _ (h.ok.side _ (by rw [h.Q11];show ((q.2.1:Nat):Int) < _;rw [hq];exact hlt)) rfl rfl hY.1 hY.2.1) (λa b ⟨x1,hS,k7,k8,z7,z8⟩=>Q6 ⟨⟨rfl,hq⟩,?_,⟨?_,k7,k8,hY.2.2⟩⟩)) (λq B ya yb hq h hY=>?_)
 ·have e:nS n (b.2.1.2.1,b.2.1.2.2.1,yb.2.2)=nS n yb:=nS_eq z7 z8 rfl
  show KR c δ (nS n (b.2.1.2.1,b.2.1.2.2.1,yb.2.2)) _ _ _
  rw [e]
  exact h.Qb3 hS.eq hS.ok
 ·show a.1.1=b.1.1
  rw [x1]
 have e1:ya.1=yb.1:=hY.1
 refine Q1o (c:=c) (δ:=δ) (K0:=(cf,m+3)) (λq=>q.1=(i - 1).toNat) (RS c) (nS n) ?_ (λq B ya yb hq h hY=>?_)
 ·dsimp only
  rw [e1]
  exact Q5I (λ_=>True) RU (nU (nS1 n yb)) (Q6S _ _ _ _ (by omega) h) (λq' B _ _ _ h _=>Q6 ⟨⟨rfl,hq⟩,h,hY.2⟩)
 refine Q1o (c:=c) (δ:=δ) (K0:=(cf,m+3)) (λq=>q.1=(i - 1).toNat) (RS c) (nS n) (Qs ee (λ_ _=>Q6 ⟨⟨rfl,hq⟩,h.port rfl λs=>s.Q32,hY⟩)) (λq B ya yb hq h hY=>?_)
 exact Qs (Qay _) (λ_ _=>Qs ee (λ_ _=>Q6 ⟨⟨rfl,trivial⟩,h.port rfl λs=>s.Q32,hY⟩))
abbrev YT:=(Fm Qb)×(Fm Qg)×(Fm Qc)×(Fm Qh)×(Fm QB)×(Nat×(Nat->List (Qf×List Int)))×Unit
structure RT (c:Cx) (a b:YT):Prop where
 t:FR c.t Q2H a.1 b.1
 d:FR c.d (λ_=>True) a.2.1 b.2.1
 e:FR c.e (λ_=>True) a.2.2.1 b.2.2.1
 f:FR c.f Q6s a.2.2.2.1 b.2.2.2.1
 m:FR c.m (λ_=>True) a.2.2.2.2.1 b.2.2.2.2.1
 p:FR c.p Q3P a.2.2.2.2.2.1 b.2.2.2.2.2.1
abbrev nT (s:Nat) (b:YT):Sz:=⟨s,b.1.1,b.2.1.1,b.2.2.1.1,b.2.2.2.1.1,b.2.2.2.2.1.1,b.2.2.2.2.2.1.1⟩
theorem Qcj {c:Cx} {δ:Dl} {s:Nat} {cf:Q8} {m:Nat} {K:Q1} {ya yb:YT} (now:Int) (p8:cf.Qv<=8) (h:KR c δ (nT s yb) (cf,m) (QM c δ K) K) (hY:RT c ya yb):
  Tw (K42.F0 ((now,1,()),QM c δ K,ya)) (K42.F0 ((now,1,()),K,yb)) (λa b=>(a.1=b.1/\True)/\KR c δ (nT s b.2.2) (cf,m) a.2.1 b.2.1/\RT c a.2.2 b.2.2):=by
 unfold K42.F0
 refine Q4z (λa b=>a.1=b.1/\1<=b.1.2.1/\KR c δ (nT s b.2.2) (cf,m) a.2.1 b.2.1/\RT c a.2.2 b.2.2) (λb=>(cf.Qv+1 - b.1.2.1).toNat) (λa b ⟨e1,e2,hK,hR⟩=>?_) _ _ _ ⟨rfl,Int.le_refl 1,h,hY⟩ (by simp only [];omega)
 unfold K42.QO
 obtain ⟨a1,aK,ay⟩:=a
 obtain ⟨⟨bn,bi,_⟩,bK,by'⟩:=b
 dsimp only at e1 e2 hK hR
 have e6:=hK.eq
 subst e1 e6
 dsimp only
 refine Qx (λhh=>?_) (λ_=>Q6 ⟨⟨rfl,trivial⟩,hK,hR⟩)
 have hh:=Q54 hh
 rw [show (QM c δ bK).Qo=bK.Qo from rfl,hK.Q11] at hh
 have hh:bi<=cf.Qv:=hh
 refine Q1o (c:=c) (δ:=δ) (K0:=(cf,m)) (λq=>q=(bn,bi,())) (RT c) (nT s) (Q2P (Q6n _ _) (Q6m bK e2 (by omega)) (λr0 e0=>?_)) (λq B ya yb hq hK hR=>?_)
 ·rw [e0]
  exact Q5I (λ_=>True) (RA c) (nA (nT s by')) (QdJ (K0:=(cf,m)) (ya:=(ay.1,ay.2.2.2.2.2.1,())) (yb:=(by'.1,by'.2.2.2.2.2.1,())) (bi - 1).toNat (by show (((bi - 1).toNat:Nat):Int) < cf.Qv;omega) hK ⟨hR.t,hR.p⟩) (λq' B ya2 yb2 _ h2 hA=>Q6 ⟨⟨rfl,rfl⟩,h2,⟨hA.1,hR.d,hR.e,hR.f,hR.m,hA.2⟩⟩)
 ·subst hq
  dsimp only
  rw [Q1g (by omega)]
  refine Q6 ⟨⟨rfl,?_,hK,hR⟩,?_⟩
  ·show 1<=bi+1;omega
  ·show (cf.Qv+1 - (bi+1)).toNat < (cf.Qv+1 - bi).toNat;omega
theorem Qcg {c:Cx} {δ:Dl} {s:Nat} {cf:Q8} {m:Nat} {K:Q1} {ya yb:YT} (now:Int) (p8:cf.Qv<=8) (hm:m<=1000) (h:KR c δ (nT s yb) (cf,m) (QM c δ K) K) (hY:RT c ya yb):
  Tw (K42.F1 ((now,1,()),QM c δ K,ya)) (K42.F1 ((now,1,()),K,yb)) (λa b=>(a.1=b.1/\True)/\KR c δ (nT s b.2.2) (cf,m+24) a.2.1 b.2.1/\RT c a.2.2 b.2.2):=by
 have p1:1<=cf.Qv+1:=by
  have:=(Q30 h.ok.Q11).1
  have hc:K.Qo=cf:=h.Q11
  rw [hc] at this
  omega
 unfold K42.F1
 refine Q4z (λa b=>a.1=b.1/\1<=b.1.2.1/\b.1.2.1<=cf.Qv+1/\KR c δ (nT s b.2.2) (cf,m+3*(b.1.2.1 - 1).toNat) a.2.1 b.2.1/\RT c a.2.2 b.2.2) (λb=>(cf.Qv+1 - b.1.2.1).toNat) (λa b ⟨e1,e2,e3,hK,hR⟩=>?_) _ _ _ ⟨rfl,Int.le_refl 1,p1,h.more (Nat.le_add_right _ _),hY⟩ (by simp only [];omega)
 ·unfold K42.Q2A
  obtain ⟨a1,aK,ay⟩:=a
  obtain ⟨⟨bn,bi,_⟩,bK,by'⟩:=b
  dsimp only at e1 e2 e3 hK hR
  have e6:=hK.eq
  subst e1 e6
  dsimp only
  have hc:bK.Qo=cf:=hK.Q11
  refine Qx (λhh=>?_) (λhh=>Q6 ⟨⟨rfl,trivial⟩,hK.more (by omega),hR⟩)
  have hh:=Q54 hh
  rw [show (QM c δ bK).Qo=bK.Qo from rfl,hc] at hh
  refine Q1o (c:=c) (δ:=δ) (K0:=(cf,m+3*(bi - 1).toNat+3)) (λq=>q=(bn,bi,())) (RT c) (nT s) ?_ (λq B ya yb hq hK hR=>?_)
  ·exact Q5I (λ_=>True) (RS c) (nS (nT s by')) (QdC (ya:=(ay.2.1,ay.2.2.1,ay.2.2.2.2.2.1,())) (yb:=(by'.2.1,by'.2.2.1,by'.2.2.2.2.2.1,())) _ _ e2 hh (by omega) hK ⟨hR.d,hR.e,hR.p⟩) (λq' B ya2 yb2 _ h2 hA=>Q6 ⟨⟨rfl,rfl⟩,h2,⟨hR.t,hA.1,hA.2.1,hR.f,hR.m,hA.2.2⟩⟩)
  ·subst hq
   dsimp only
   rw [Q1g (by omega)]
   refine Q6 ⟨⟨rfl,?_,?_,hK.more ?_,hR⟩,?_⟩
   ·show 1<=bi+1;omega
   ·show bi+1<=cf.Qv+1;omega
   ·show m+3*(bi - 1).toNat+3<=m+3*(bi+1 - 1).toNat;omega
   ·show (cf.Qv+1 - (bi+1)).toNat < (cf.Qv+1 - bi).toNat;omega
theorem Qeb {c:Cx} {δ:Dl} {s:Nat} {cf:Q8} {m:Nat} {K:Q1} {ya yb:YT} (now:Int) (hm:m<=1000) (h:KR c δ (nT s yb) (cf,m) (QM c δ K) K) (hY:RT c ya yb):
  Tw (K42 now (QM c δ K) ya.1 ya.2.1 ya.2.2.1 ya.2.2.2.1 ya.2.2.2.2.1 ya.2.2.2.2.2.1) (K42 now K yb.1 yb.2.1 yb.2.2.1 yb.2.2.2.1 yb.2.2.2.2.1 yb.2.2.2.2.2.1) (λa b=>(a.1=b.1/\True)/\KR c δ (nT s b.2.1.2) (cf,m+24) a.2.1.1 b.2.1.1/\RT c a.2.1.2 b.2.1.2):=by
 have p8:cf.Qv<=8:=by
  have:=(Q30 h.ok.Q11).2.1
  have hc:K.Qo=cf:=h.Q11
  rw [hc] at this
  exact this
 unfold K42 K42.gen
 refine Q1o (c:=c) (δ:=δ) (K0:=(cf,m)) (λ_=>True) (RT c) (nT s) (Qcj (K:=Q1.Q9b K (Z4 false (Q4 .i64 K.Q5s 1) 1099511627776)) now p8 ⟨rfl,⟨h.ok.Q11,h.ok.s,h.ok.f,h.ok.all⟩,h.Q11,h.outs,h.dr⟩ hY) (λq B ya yb _ h hY=>?_)
 refine Q2P (Q9O _) (Q8o _) (λr1 hr1=>Q2z (Q7T (by omega)) ?_)
 refine Q1o (c:=c) (δ:=δ) (K0:=(cf,m)) (λ_=>True) (RT c) (nT s) (Qx (λ_=>?_) (λ_=>Q6 ⟨⟨rfl,trivial⟩,h,hY⟩)) (λq B ya yb _ h hY=>?_)
 ·exact Q5I (λ_=>True) (RD c) (nD' (nT s yb)) (Qcn (ya:=(ya.1,ya.2.1,ya.2.2.2.1,ya.2.2.2.2.1,())) (yb:=(yb.1,yb.2.1,yb.2.2.2.1,yb.2.2.2.2.1,())) h ⟨hY.t,hY.d,hY.f,hY.m⟩) (λq' B ya2 yb2 _ h2 hA=>Q6 ⟨⟨rfl,trivial⟩,h2,⟨hA.1,hA.2.1,hY.e,hA.2.2.1,hA.2.2.2,hY.p⟩⟩)
 ·exact Q1o (c:=c) (δ:=δ) (K0:=(cf,m+24)) (λ_=>True) (RT c) (nT s) (Qcg _ p8 hm h hY) (λq B ya yb _ h hY=>Q6 ⟨⟨rfl,trivial⟩,h,hY⟩)
theorem QcW {c:Cx} {δ:Dl} {n:Sz} {K0:Q8×Nat} {K:Q1} {ya yb:Q6Z} (p:Nat) (m:Q9) (l:List Qi) (hl:Q5C l) (hp:(p:Int) < K0.1.Qv) (h:KR c δ (nA n yb) K0 (QM c δ K) K) (hY:RA c ya yb):Tw (K30 p m l (QM c δ K) ya.1 ya.2.1) (K30 p m l K yb.1 yb.2.1) (λa b=>(a.1=b.1/\True)/\KR c δ (nA n b.2.1.2) K0 a.2.1.1 b.2.1.1/\RA c a.2.1.2 b.2.1.2):=by
 unfold K30 K30.gen
 refine Q1o (c:=c) (δ:=δ) (K0:=K0) (λq=>q.1=p) (λa b=>a.1=b.1/\a.2.1=b.2.1/\b.2.1.Q2y.size<=400/\RA c a.2.2 b.2.2) (λb=>nA n b.2.2) (Qs (Qc2 _ _ hl) (λr hr=>Q6 ⟨⟨rfl,rfl⟩,h,⟨rfl,rfl,hr,hY⟩⟩)) (λq B ya yb hq h ⟨e1,e2,hs,hY⟩=>?_)
 dsimp only
 rw [e1,e2,hq]
 refine Qs (Qcy _ hs) (λr2 hr2=>?_)
 refine Q1o (c:=c) (δ:=δ) (K0:=K0) (λq=>q.1=p/\q.2.1.length<=60) (λa b=>a.1=b.1/\RA c a.2 b.2) (λb=>nA n b.2) (Qs (QeB _ _ (by omega)) (λr3 _=>Qx (λ_=>Q6 ⟨⟨rfl,rfl,hr2⟩,h,⟨rfl,hY⟩⟩) (λ_=>Q2I hY.1 (h.ok.side _ (by rw [h.Q11];exact hp)).t rfl (λi hl hlt e hi=>?_)))) (λq B ya yb ⟨hq,hq2⟩ h ⟨e1,hY⟩=>?_)
 ·rw [e]
  exact Qs (Qef _ _ _ hi) (λr hr=>Q6 ⟨⟨rfl,rfl,hr2⟩,h,⟨rfl,hY.1.set hl hr,hY.2⟩⟩)
 refine Qx (λ_=>Q6 ⟨⟨rfl,trivial⟩,h,hY⟩) (λ_=>?_)
 refine Q1o (c:=c) (δ:=δ) (K0:=K0) (λq=>q.1=p) (RA c) (nA n) ?_ (λq B ya yb hq h hY=>?_)
 ·dsimp only
  rw [hq,e1]
  refine QN (λs w=>s.1=c.p.ρ w.1/\c.p.L w.1/\w.1 < yb.2.2.1.1/\s.2=w.2/\Q3P w.2) (Q2I hY.2 (h.ok.side _ (by rw [h.Q11];exact hp)).p rfl (λi hl hlt e hi=>?_)) (λs w ⟨v1,v2,v3,v4,v5⟩=>?_)
  ·rw [e]
   exact Qs (Qa7 _ _ hq2 _ hi) (λr hr=>Q6 ⟨rfl,hl,hlt,rfl,hr⟩)
  ·rw [v1,v4]
   exact Q6 ⟨⟨rfl,rfl⟩,h,⟨hY.1,hY.2.set v2 v5⟩⟩
 refine Qs ee (λr11 _=>?_)
 exact Q1o (c:=c) (δ:=δ) (K0:=K0) (λ_=>True) (RA c) (nA n) (Qx (λ_=>Q2P (Q9c _) (Q8X _) (λ_ _=>Qs ee (λ_ _=>Q6 ⟨⟨rfl,trivial⟩,h.port rfl λs=>s.Q32,hY⟩))) (λ_=>Q6 ⟨⟨rfl,trivial⟩,h,hY⟩)) (λq B ya yb _ h hY=>Q6 ⟨⟨rfl,trivial⟩,h,hY⟩)
abbrev YX:=(Fm Qp)×(Fm Qg)×(Fm Qc)×(Fm Qh)×(Fm QB)×Unit
structure RX (c:Cx) (a b:YX):Prop where
 s:FR c.s (λ_=>True) a.1 b.1
 d:FR c.d (λ_=>True) a.2.1 b.2.1
 e:FR c.e (λ_=>True) a.2.2.1 b.2.2.1
 f:FR c.f Q6s a.2.2.2.1 b.2.2.2.1
 m:FR c.m (λ_=>True) a.2.2.2.2.1 b.2.2.2.2.1
abbrev nX (n:Sz) (b:YX):Sz:={ n with s:=b.1.1,d:=b.2.1.1,e:=b.2.2.1.1,f:=b.2.2.2.1.1,m:=b.2.2.2.2.1.1}
theorem Qdj {c:Cx} {δ:Dl} {n:Sz} {K0:Q8×Nat} {K:Q1} {ya yb:YX} (p:Nat) (m:Nat) (hm:(m:Int)<=K0.1.Qv) (hm8:m<=8) (h:KR c δ (nX n yb) K0 (QM c δ K) K) (hY:RX c ya yb):
  Tw (K37.F0 ((p,ofN m,0,()),QM c δ K,ya)) (K37.F0 ((p,ofN m,0,()),K,yb)) (λa b=>(a.1=b.1/\b.1.1=p)/\KR c δ (nX n b.2.2) K0 a.2.1 b.2.1/\RX c a.2.2 b.2.2):=by
 unfold K37.F0
 refine Q4z (λa b=>a.1=b.1/\b.1.1=p/\b.1.2.1=(m:Int)/\0<=b.1.2.2.1/\KR c δ (nX n b.2.2) K0 a.2.1 b.2.1/\RX c a.2.2 b.2.2) (λb=>((m:Int) - b.1.2.2.1).toNat) (λa b ⟨e1,e2,e3,e4,hK,hR⟩=>?_) _ _ _ ⟨rfl,rfl,rfl,Int.le_refl 0,h,hY⟩ (by simp only [];omega)
 unfold K37.QO
 obtain ⟨a1,aK,ay⟩:=a
 obtain ⟨⟨bp,bm,bi,_⟩,bK,by'⟩:=b
 dsimp only at e1 e2 e3 e4 hK hR
 have e6:=hK.eq
 subst e1 e2 e3 e6
 dsimp only
 refine Qx (λhh=>?_) (λ_=>Q6 ⟨⟨rfl,rfl⟩,hK,hR⟩)
 have hh:=Q2m hh
 have sd:∀{B:Q1} {yb:YX},KR c δ (nX n yb) K0 (QM c δ B) B->SOk c (nX n yb) (B.Qe bi.toNat):=λh=>h.ok.side _ (by rw [h.Q11];omega)
 refine Q2z (Q1C (n:=8) e4 (by omega)) ?_
 refine Q1o (c:=c) (δ:=δ) (K0:=K0) (λq=>q.1=bp/\q.2.1=bi.toNat/\q.2.2=((m:Int),bi,())) (RX c) (nX n) (Q2I hR.m (sd hK).m rfl (λi hl hlt e hi=>?_)) (λq B ya yb ⟨q1,q2,q3⟩ hK hR=>?_)
 ·rw [e]
  exact Qs ee (λr _=>Q6 ⟨⟨rfl,rfl,rfl,rfl⟩,hK,⟨hR.s,hR.d,hR.e,hR.f,hR.m.set hl trivial⟩⟩)
 refine Q1o (c:=c) (δ:=δ) (K0:=K0) (λq=>q.1=bp/\q.2.1=bi.toNat/\q.2.2=((m:Int),bi,())) (RX c) (nX n) (Q2I hR.d (by rw [q2];exact (sd hK).d) rfl (λi hl hlt e hi=>?_)) (λq B ya yb ⟨q1,q2,q3⟩ hK hR=>?_)
 ·rw [e]
  exact Qs ee (λr _=>Q6 ⟨⟨rfl,q1,q2,q3⟩,hK,⟨hR.s,hR.d.set hl trivial,hR.e,hR.f,hR.m⟩⟩)
 refine Q1o (c:=c) (δ:=δ) (K0:=K0) (λq=>q.1=bp/\q.2.1=bi.toNat/\q.2.2=((m:Int),bi,())) (RX c) (nX n) (Q2I hR.e (by rw [q2];exact (sd hK).e) rfl (λi hl hlt e hi=>?_)) (λq B ya yb ⟨q1,q2,q3⟩ hK hR=>?_)
 ·rw [e]
  exact Qs ee (λr _=>Q6 ⟨⟨rfl,q1,q2,q3⟩,hK,⟨hR.s,hR.d,hR.e.set hl trivial,hR.f,hR.m⟩⟩)
 dsimp only
 rw [q1,q3]
 dsimp only
 rw [Q1g (by omega)]
 refine Q6 ⟨⟨rfl,rfl,rfl,?_,hK.port rfl λs=>s.Q32,hR⟩,?_⟩
 ·show 0<=bi+1;omega
 ·show ((m:Int) - (bi+1)).toNat < ((m:Int) - bi).toNat;omega
theorem Qci {c:Cx} {δ:Dl} {n:Sz} {cf:Q8} {m:Nat} {K:Q1} {ya yb:YX} (p:Nat) (o:Int) (hm:m<=1000) (h:KR c δ (nX n yb) (cf,m) (QM c δ K) K) (hY:RX c ya yb):
  Tw (K37 p o (QM c δ K) ya.1 ya.2.1 ya.2.2.1 ya.2.2.2.1 ya.2.2.2.2.1) (K37 p o K yb.1 yb.2.1 yb.2.2.1 yb.2.2.2.1 yb.2.2.2.2.1) (λa b=>(a.1=b.1/\True)/\KR c δ (nX n b.2.1.2) (cf,m+1) a.2.1.1 b.2.1.1/\RX c a.2.1.2 b.2.1.2):=by
 obtain ⟨p1,p8,_⟩:=Q30 h.ok.Q11
 have hc:K.Qo=cf:=h.Q11
 rw [hc] at p1 p8
 have hroom:∀{B:Q1} {x:QJ},B.Q2j.length<=m->room (B.Q2j.length+(x::Qn QJ).length) 64=true:=λhB=>Q2W (by simp only [List.length_cons,Qn,List.length_nil];omega)
 have hlen:∀{B:Q1} {x:QJ},B.Q2j.length<=m->(B.Q2j++x::Qn QJ).length<=m+1:=λhB=>by simp only [List.length_append,List.length_cons,Qn,List.length_nil];omega
 unfold K37 K37.gen
 refine Q2I hY.s h.ok.s rfl (λi hl hlt e hi=>?_)
 rw [e]
 refine Qs ee (λr1 _=>?_)
 refine Q1o (c:=c) (δ:=δ) (K0:=(cf,m)) (λ_=>True) (RX c) (nX n) (Q2I hY.s h.ok.s rfl (λi hl hlt e hi=>Qs (QdK _) (λr3 _=>?_))) (λq B ya yb _ h hY=>?_)
 ·rw [e]
  exact Qs (QcV _ _ _) (λr _=>Q6 ⟨⟨rfl,trivial⟩,⟨rfl,⟨h.ok.Q11,h.ok.s,h.ok.f,h.ok.all⟩,h.Q11,h.outs,h.dr⟩,⟨hY.s.set hl trivial,hY.d,hY.e,hY.f,hY.m⟩⟩)
 refine Q1o (c:=c) (δ:=δ) (K0:=(cf,m+1)) (λ_=>True) (RX c) (nX n) (Qx (λ_=>?_) (λ_=>Qx (λ_=>Q2z (hroom h.outs) (Q6 ⟨⟨rfl,trivial⟩,⟨rfl,⟨h.ok.Q11,h.ok.s,h.ok.f,h.ok.all⟩,h.Q11,hlen h.outs,h.dr⟩,hY⟩)) (λ_=>Q6 ⟨⟨rfl,trivial⟩,h.more (Nat.le_succ _),hY⟩))) (λq B ya yb _ h hY=>?_)
 ·refine Q1o (c:=c) (δ:=δ) (K0:=(cf,m+1)) (λ_=>True) (RX c) (nX n) (Q2z (hroom h.outs) (Q6 ⟨⟨rfl,trivial⟩,⟨rfl,⟨h.ok.Q11,h.ok.s,h.ok.f,h.ok.all⟩,h.Q11,hlen h.outs,h.dr⟩,hY⟩)) (λq B ya yb _ h hY=>?_)
  refine Q1o (c:=c) (δ:=δ) (K0:=(cf,m+1)) (λ_=>True) (RX c) (nX n) (Q2I hY.f h.ok.f rfl (λi hl hlt e hi=>?_)) (λq B ya yb _ h hY=>?_)
  ·rw [e]
   exact Qs (Q7z _ hi) (λr hr=>Q6 ⟨⟨rfl,trivial⟩,h,⟨hY.s,hY.d,hY.e,hY.f.set hl hr,hY.m⟩⟩)
  have hcB:B.Qo=cf:=h.Q11
  obtain ⟨k,hk⟩:∃k:Nat,cf.Qv=(k:Int):=⟨cf.Qv.toNat,by omega⟩
  have ek:Int.toNat B.Qo.Qv - Int.toNat (ofN 0)=k:=by rw [hcB];unfold ofN;omega
  dsimp only
  rw [show (QM c δ B).Qo=B.Qo from rfl,ek]
  refine Q2z (Q33 (by decide) (by rw [hcB];unfold ofN;omega) (by rw [hcB];omega)) ?_
  exact Q1o (c:=c) (δ:=δ) (K0:=(cf,m+1)) (λ_=>True) (RX c) (nX n) (Qdu (Qdj (K:=Q1.Q6Q B (Q16.mk 0 false)) q.1 k (by show (k:Int)<=cf.Qv;omega) (by omega) ⟨rfl,⟨h.ok.Q11,h.ok.s,h.ok.f,h.ok.all⟩,h.Q11,h.outs,h.dr⟩ hY) (λa b hab=>⟨⟨hab.1.1,trivial⟩,hab.2⟩)) (λq B ya yb _ h hY=>Q6 ⟨⟨rfl,trivial⟩,h,hY⟩)
 ·exact Qs ee (λr _=>Q6 ⟨⟨rfl,trivial⟩,h.port rfl λs=>s.Q32,hY⟩)
abbrev RM {Y:Type} (R:Y->Y->Prop) (a b:Q9×Y):Prop:=a.1=b.1/\R a.2 b.2
abbrev nM {Y:Type} (z:Y->Sz) (b:Q9×Y):Sz:=z b.2
theorem Qbm {c:Cx} {δ:Dl} {n:Sz} {cf:Q8} {m:Nat} {K:Q1} {ya yb:YX} (p:Nat) (x:Q9) (now:Int) (hm:m<=1000) (hp:(p:Int) < cf.Qv) (h:KR c δ (nX n yb) (cf,m) (QM c δ K) K) (hY:RX c ya yb):
  Tw (K27 p x now (QM c δ K) ya.1 ya.2.1 ya.2.2.1 ya.2.2.2.1 ya.2.2.2.2.1) (K27 p x now K yb.1 yb.2.1 yb.2.2.1 yb.2.2.2.1 yb.2.2.2.2.1) (λa b=>(a.1=b.1/\True)/\KR c δ (nX n b.2.1.2) (cf,m+1) a.2.1.1 b.2.1.1/\RX c a.2.1.2 b.2.1.2):=by
 unfold K27 K27.gen
 refine Q1o (c:=c) (δ:=δ) (K0:=(cf,m)) (λq=>q.1=p) (RM (RX c)) (nM (nX n)) (Q2I hY.m (h.ok.side _ (by rw [h.Q11];exact hp)).m rfl (λi hl hlt e hi=>?_)) (λq B ya yb hq h ⟨ex,hY⟩=>?_)
 ·rw [e]
  exact Qs ee (λr _=>Q6 ⟨⟨rfl,rfl⟩,h,⟨rfl,hY.s,hY.d,hY.e,hY.f,hY.m.set hl trivial⟩⟩)
 dsimp only
 rw [ex]
 refine Q1o (c:=c) (δ:=δ) (K0:=(cf,m)) (λq=>q.1=p) (RX c) (nX n) (Qx (λ_=>Q2I hY.m (h.ok.side _ (by rw [h.Q11,hq];exact hp)).m rfl (λi hl hlt e hi=>?_)) (λ_=>Q6 ⟨⟨rfl,hq⟩,h,hY⟩)) (λq B ya yb hq h hY=>?_)
 ·rw [e]
  exact Qs ee (λr _=>Q6 ⟨⟨rfl,hq⟩,h,⟨hY.s,hY.d,hY.e,hY.f,hY.m.set hl trivial⟩⟩)
 refine Qx (λ_=>Q6 ⟨⟨rfl,trivial⟩,h.more (Nat.le_succ _),hY⟩) (λ_=>?_)
 refine Q1o (c:=c) (δ:=δ) (K0:=(cf,m)) (λq=>q.1=p) (λ(a b:Q16×YX)=>a.1=b.1/\RX c a.2 b.2) (λb=>nX n b.2) (Qx (λ_=>Q6 ⟨⟨rfl,hq⟩,h.port rfl λs=>s.Q32,⟨?_,hY⟩⟩) (λ_=>Q6 ⟨⟨rfl,hq⟩,h.port rfl λs=>s.Q32,⟨rfl,hY⟩⟩)) (λq B ya yb hq h ⟨ex,hY⟩=>?_)
 ·show (Qr (QM c δ B).Qe q.1 _ q.1).Q3g=(Qr B.Qe q.1 _ q.1).Q3g
  unfold Qr
  rw [if_pos rfl,if_pos rfl];rfl
 dsimp only
 rw [ex]
 refine Qx (λ_=>?_) (λ_=>Q6 ⟨⟨rfl,trivial⟩,h.more (Nat.le_succ _),hY⟩)
 exact Q5I (λ_=>True) (RX c) (nX n) (Qci _ _ hm h hY) (λq' B ya2 yb2 _ h2 hA=>Q6 ⟨⟨rfl,trivial⟩,h2,hA⟩)
abbrev Y79:=(Fm Qg)×(Fm Qh)×Unit
abbrev RB (c:Cx) (a b:Y79):Prop:=FR c.d (λ_=>True) a.1 b.1/\FR c.f Q6s a.2.1 b.2.1
abbrev nB (n:Sz) (b:Y79):Sz:={ n with d:=b.1.1,f:=b.2.1.1}
theorem QeC {c:Cx} {δ:Dl} {n:Sz} {K0:Q8×Nat} {K:Q1} {ya yb:Y79} (p:Nat) (x:Q9) (hp:(p:Int) < K0.1.Qv) (h:KR c δ (nB n yb) K0 (QM c δ K) K) (hY:RB c ya yb):
  Tw (K21 p x (QM c δ K) ya.1 ya.2.1) (K21 p x K yb.1 yb.2.1) (λa b=>(a.1=b.1/\True)/\KR c δ (nB n b.2.1.2) K0 a.2.1.1 b.2.1.1/\RB c a.2.1.2 b.2.1.2):=by
 unfold K21 K21.gen
 refine Q1o (c:=c) (δ:=δ) (K0:=K0) (λ_=>True) (RB c) (nB n) (Q2I hY.1 (h.ok.side _ (by rw [h.Q11];exact hp)).d rfl (λi hl hlt e hi=>?_)) (λq B ya yb _ h hY=>?_)
 ·rw [e]
  exact Qs ee (λr _=>Q6 ⟨⟨rfl,trivial⟩,h,⟨hY.1.set hl trivial,hY.2⟩⟩)
 refine QN (λa b=>a=b) (Qx (λ_=>Q6 rfl) (λ_=>Q6 rfl)) (λr3 r3' e=>?_)
 subst e
 refine Qx (λ_=>Q6 ⟨⟨rfl,trivial⟩,h,hY⟩) (λ_=>Qs (pof_t _ _) (λr4 h4=>Qx (λ_=>Q6 ⟨⟨rfl,trivial⟩,h,hY⟩) (λhf=>Qs (h4 ?_) (λr5 _=>Q2I hY.2 h.ok.f rfl (λi hl hlt e hi=>?_)))))
 ·cases hx:r4.1.2.1 with
  |true=>rfl
  |false=>rw [hx] at hf;cases hf
 ·rw [e]
  exact Qs (put_t _ _ hi) (λr hr=>Q6 ⟨⟨rfl,trivial⟩,⟨rfl,⟨h.ok.Q11,h.ok.s,h.ok.f,h.ok.all⟩,h.Q11,h.outs,h.dr⟩,⟨hY.1,hY.2.set hl hr⟩⟩)
abbrev Y8:=(Fm Qc)×Unit
abbrev R8 (c:Cx) (a b:Y8):Prop:=FR c.e (λ_=>True) a.1 b.1
abbrev n8 (n:Sz) (b:Y8):Sz:={ n with e:=b.1.1}
theorem Qcv {c:Cx} {δ:Dl} {n:Sz} {cf:Q8} {m:Nat} {K:Q1} {ya yb:Y8} (i:Int) (x:Q9) (now:Int) (hm:m<=1000) (h1:1<=i) (hi:i<=cf.Qv) (h:KR c δ (n8 n yb) (cf,m) (QM c δ K) K) (hY:R8 c ya yb):
  Tw (K24 i x now (QM c δ K) ya.1) (K24 i x now K yb.1) (λa b=>(a.1=b.1/\True)/\KR c δ (n8 n b.2.1.2) (cf,m+1) a.2.1.1 b.2.1.1/\R8 c a.2.1.2 b.2.1.2):=by
 obtain ⟨p1,p8,_⟩:=Q30 h.ok.Q11
 have hc:K.Qo=cf:=h.Q11
 rw [hc] at p1 p8
 have hlt:(((i - 1).toNat:Nat):Int) < cf.Qv:=by omega
 unfold K24 K24.gen
 refine Q2P (Q6n _ _) (Q6m K h1 (by omega)) (λr0 e0=>?_)
 rw [e0]
 refine Qx (λ_=>?_) (λ_=>Qx (λ_=>?_) (λ_=>Qx (λ_=>?_) (λ_=>Q6 ⟨⟨rfl,trivial⟩,h.more (Nat.le_succ _),hY⟩)))
 ·refine Q1o (c:=c) (δ:=δ) (K0:=(cf,m)) (λ_=>True) (RM (RM (R8 c))) (nM (nM (n8 n))) (Q2P (Q6H _ _) ee (λr1 _=>Qs ee (λr2 _=>Q6 ⟨⟨rfl,trivial⟩,h,⟨rfl,rfl,hY⟩⟩))) (λq B ya yb _ h ⟨e1,e2,hY⟩=>?_)
  dsimp only
  rw [e1,e2]
  refine Qx (λ_=>?_) (λ_=>Q6 ⟨⟨rfl,trivial⟩,h.more (Nat.le_succ _),hY⟩)
  refine Q1o (c:=c) (δ:=δ) (K0:=(cf,m+1)) (λ_=>True) (RM (R8 c)) (nM (n8 n)) (Q5I (λ_=>True) RU (nU (nM (nM (n8 n)) yb)) (Q6S _ _ _ _ (by omega) h) (λq' B _ _ _ h _=>Q6 ⟨⟨rfl,trivial⟩,h,⟨rfl,hY⟩⟩)) (λq B ya yb _ h ⟨e1,hY⟩=>?_)
  dsimp only
  rw [e1]
  refine Q6 ⟨⟨rfl,trivial⟩,⟨?_,⟨h.ok.Q11,h.ok.s,h.ok.f,λj=>?_⟩,h.Q11,h.outs,h.dr⟩,hY⟩
  ·refine Q5H rfl (Q8S (Q8S (λ_=>rfl) rfl) ?_) rfl rfl rfl rfl rfl rfl rfl rfl
   unfold Qr
   rw [if_pos rfl,if_pos rfl];rfl
  ·show SOq c _ _ (Qr (Qr B.Qe q.1 _) q.1 _ j)
   have hs:=h.ok.all j
   unfold Qr
   by_cases e:j=q.1
   ·subst e
    rw [if_pos rfl,if_pos rfl]
    exact hs.imp (λs=>s.Q32) λh=>⟨h.1,h.2.t,h.2.p,h.2.m,h.2.d,h.2.e⟩
   ·rw [if_neg e,if_neg e]
    exact hs
 ·refine Q2I hY (h.ok.side _ (by rw [h.Q11];exact hlt)).e rfl (λi hl hlt e hi=>?_)
  rw [e]
  exact Qs ee (λr _=>Q6 ⟨⟨rfl,trivial⟩,h.more (Nat.le_succ _),hY.set hl trivial⟩)
 ·refine Q1o (c:=c) (δ:=δ) (K0:=(cf,m)) (λ_=>True) (R8 c) (n8 n) (Q2I hY (h.ok.side _ (by rw [h.Q11];exact hlt)).e rfl (λi hl hlt e hi=>?_)) (λq B ya yb _ h hY=>Qx (λ_=>Q6 ⟨⟨rfl,trivial⟩,(h.more (Nat.le_succ _)).port rfl λs=>s.Q32,hY⟩) (λ_=>Q6 ⟨⟨rfl,trivial⟩,h.more (Nat.le_succ _),hY⟩))
  rw [e]
  exact Qs ee (λr _=>Q6 ⟨⟨rfl,trivial⟩,h,hY.set hl trivial⟩)
abbrev Y77:=(Fm Qg)×(Fm Qc)×Unit
abbrev R77 (c:Cx) (a b:Y77):Prop:=FR c.d (λ_=>True) a.1 b.1/\FR c.e (λ_=>True) a.2.1 b.2.1
abbrev n77 (n:Sz) (b:Y77):Sz:={ n with d:=b.1.1,e:=b.2.1.1}
theorem Qeu {c:Cx} {δ:Dl} {n:Sz} {cf:Q8} {m:Nat} {K:Q1} {ya yb:Y77} (i typ seq now:Int) (hm:m<=1000) (h1:1<=i) (hi:i<=cf.Qv) (h:KR c δ (n77 n yb) (cf,m) (QM c δ K) K) (hY:R77 c ya yb):
  Tw (K39 i typ seq now (QM c δ K) ya.1 ya.2.1) (K39 i typ seq now K yb.1 yb.2.1) (λa b=>(a.1=b.1/\True)/\KR c δ (n77 n b.2.1.2) (cf,m+1) a.2.1.1 b.2.1.1/\R77 c a.2.1.2 b.2.1.2):=by
 obtain ⟨p1,p8,_⟩:=Q30 h.ok.Q11
 have hc:K.Qo=cf:=h.Q11
 rw [hc] at p1 p8
 have hlt:(((i - 1).toNat:Nat):Int) < cf.Qv:=by omega
 have no:∀{a b:Unit×(Q1×Y77)×Unit},a=((),(QM c δ K,ya),())->b=((),(K,yb),())->(a.1=b.1/\True)/\KR c δ (n77 n b.2.1.2) (cf,m+1) a.2.1.1 b.2.1.1/\R77 c a.2.1.2 b.2.1.2:=λe1 e2=>by subst e1 e2;exact ⟨⟨rfl,trivial⟩,h.more (Nat.le_succ _),hY⟩
 unfold K39 K39.gen
 refine Q2P (Q6n _ _) (Q6m K h1 (by omega)) (λr0 e0=>?_)
 rw [e0]
 refine Qx (λ_=>?_) (λ_=>Qx (λ_=>?_) (λ_=>Qx (λ_=>?_) (λ_=>Qx (λ_=>?_) (λ_=>Q6 (no rfl rfl)))))
 ·refine QN (λa b=>a=b) (Qx (λ_=>Q6 rfl) (λ_=>Q6 rfl)) (λr1 r1' e=>?_)
  subst e
  exact Qx (λ_=>Q2P (Q6H _ _) ee (λr2 _=>Q5I (λ_=>True) RU (nU (n77 n yb)) (Q6S _ _ _ _ (by omega) h) (λq' B _ _ _ h _=>Q6 ⟨⟨rfl,trivial⟩,h,hY⟩))) (λ_=>Q6 (no rfl rfl))
 ·refine Q2I hY.1 (h.ok.side _ (by rw [h.Q11];exact hlt)).d rfl (λi hl hlt e hi=>?_)
  rw [e]
  exact Qs ee (λr _=>Q6 ⟨⟨rfl,trivial⟩,h.more (Nat.le_succ _),⟨hY.1.set hl trivial,hY.2⟩⟩)
 ·refine Q2I hY.2 (h.ok.side _ (by rw [h.Q11];exact hlt)).e rfl (λi hl hlt e hi=>?_)
  rw [e]
  exact Qs ee (λr _=>Q6 ⟨⟨rfl,trivial⟩,h.more (Nat.le_succ _),⟨hY.1,hY.2.set hl trivial⟩⟩)
 ·refine QN (λa b=>a=b) (Qx (λ_=>Q6 rfl) (λ_=>Q6 rfl)) (λr1 r1' e=>?_)
  subst e
  refine Qx (λ_=>?_) (λ_=>Q6 (no rfl rfl))
  refine Q1o (c:=c) (δ:=δ) (K0:=(cf,m)) (λ_=>True) (RM (R77 c)) (nM (n77 n)) (Q2P (Q6H _ _) ee (λr9 _=>Qs ee (λr10 _=>Q6 ⟨⟨rfl,trivial⟩,h,⟨rfl,hY⟩⟩))) (λq B ya yb _ h ⟨e1,hY⟩=>?_)
  dsimp only
  rw [e1]
  exact Q5I (λ_=>True) RU (nU (nM (n77 n) yb)) (Q6S _ _ _ _ (by omega) h) (λq' B _ _ _ h _=>Q6 ⟨⟨rfl,trivial⟩,h,hY⟩)
abbrev YU:=(Fm Qb)×(Fm Qg)×(Fm Qc)×(Fm QB)×(Nat×(Nat->List (Qf×List Int)))×Unit
structure RU' (c:Cx) (a b:YU):Prop where
 t:FR c.t Q2H a.1 b.1
 d:FR c.d (λ_=>True) a.2.1 b.2.1
 e:FR c.e (λ_=>True) a.2.2.1 b.2.2.1
 m:FR c.m (λ_=>True) a.2.2.2.1 b.2.2.2.1
 p:FR c.p Q3P a.2.2.2.2.1 b.2.2.2.2.1
abbrev nU' (n:Sz) (b:YU):Sz:={ n with t:=b.1.1,d:=b.2.1.1,e:=b.2.2.1.1,m:=b.2.2.2.1.1,p:=b.2.2.2.2.1.1}
theorem Qae {c:Cx} {δ:Dl} (n:Int) (K:Q1):K33 n (QM c δ K)=K33 n K:=rfl
theorem Qbr {c:Cx} {δ:Dl} {n:Sz} {K0:Q8×Nat} {K:Q1} {ya yb:YU} (i ev:Int) (h:KR c δ (nU' n yb) K0 (QM c δ K) K) (hY:RU' c ya yb):
  Tw (K43 i ev (QM c δ K) ya.1 ya.2.1 ya.2.2.1 ya.2.2.2.1 ya.2.2.2.2.1) (K43 i ev K yb.1 yb.2.1 yb.2.2.1 yb.2.2.2.1 yb.2.2.2.2.1) (λa b=>(a.1=b.1/\True)/\KR c δ (nU' n b.2.1.2) K0 a.2.1.1 b.2.1.1/\RU' c a.2.1.2 b.2.1.2):=by
 obtain ⟨p1,p8,_⟩:=Q30 h.ok.Q11
 have hc:K.Qo=K0.1:=h.Q11
 unfold K43 K43.gen
 refine Q2P (Qae _ _) (Q7x _ _) (λr0 h0=>Qx (λ_=>Q6 ⟨⟨rfl,trivial⟩,h,hY⟩) (λhf=>?_))
 obtain ⟨i1,i2⟩:=h0 hf
 have hlt:(((i - 1).toNat:Nat):Int) < K0.1.Qv:=by rw [←hc];omega
 refine Q2P (Q6n _ _) (Q6m K i1 (by omega)) (λr1 e1=>?_)
 rw [e1]
 refine Q1o (c:=c) (δ:=δ) (K0:=K0) (λq=>q.1=(i - 1).toNat) (RU' c) (nU' n) (Qs ee (λ_ _=>Q6 ⟨⟨rfl,rfl⟩,h.port rfl λs=>s.Q32,hY⟩)) (λq B ya yb hq h hY=>?_)
 refine Qx (λ_=>Q6 ⟨⟨rfl,trivial⟩,h,hY⟩) (λ_=>?_)
 refine Q1o (c:=c) (δ:=δ) (K0:=K0) (λq=>q.1=(i - 1).toNat) (RU' c) (nU' n) ?_ (λq B ya yb hq h hY=>?_)
 ·refine QN _ (Qal (ya:=(ya.1,ya.2.2.2.2.1,())) (yb:=(yb.1,yb.2.2.2.2.1,())) (n:=nU' n yb) (h.ok.side _ (by rw [h.Q11];show ((q.1:Nat):Int) < _;rw [hq];exact hlt)) ⟨hY.t,hY.p⟩) (λa b ⟨hS,hY',e6,e12,_⟩=>Q6 ⟨⟨rfl,hq⟩,?_,⟨hY'.1,hY.d,hY.e,hY.m,hY'.2⟩⟩)
  exact h.Qb2 (n:=nU' n yb) (ya:=(yb.1,yb.2.2.2.2.1,())) e6 e12 hS
 refine Q1o (c:=c) (δ:=δ) (K0:=K0) (λq=>q.1=(i - 1).toNat) (RU' c) (nU' n) ?_ (λq B ya yb hq h hY=>?_)
 ·refine QN _ (QaF (n:=nU' n yb) _ (h.ok.side _ (by rw [h.Q11];show ((q.1:Nat):Int) < _;rw [hq];exact hlt)) rfl rfl hY.d hY.m) (λa b ⟨hS,k7,k10,z7,z10,_⟩=>Q6 ⟨⟨rfl,hq⟩,?_,⟨hY.t,k7,hY.e,k10,hY.p⟩⟩)
  have e:nU' n (yb.1,b.2.1.2.1,yb.2.2.1,b.2.1.2.2.1,yb.2.2.2.2)=nU' n yb:=by
   unfold nU'
   dsimp only
   rw [z7,z10]
  show KR c δ (nU' n (yb.1,b.2.1.2.1,yb.2.2.1,b.2.1.2.2.1,yb.2.2.2.2)) _ _ _
  rw [e]
  exact h.Qb3 hS.eq hS.ok
 refine Q1o (c:=c) (δ:=δ) (K0:=K0) (λq=>q.1=(i - 1).toNat) (RU' c) (nU' n) (Q2I hY.e (h.ok.side _ (by rw [h.Q11];show ((q.1:Nat):Int) < _;rw [hq];exact hlt)).e rfl (λi hl hlt e hi=>?_)) (λq B ya yb hq h hY=>?_)
 ·rw [e]
  exact Qs ee (λr _=>Q6 ⟨⟨rfl,hq⟩,h,⟨hY.t,hY.d,hY.e.set hl trivial,hY.m,hY.p⟩⟩)
 refine Qs ee (λr11 _=>Qx (λ_=>Qs ee (λr12 _=>?_)) (λ_=>Q6 ⟨⟨rfl,trivial⟩,h.port rfl λs=>s.Q32,hY⟩))
 have h2:=h.port (i:=q.1) (y1:=Q5.Q5f ((QM c δ B).Qe q.1) (Q16.mk 0 false)) (y2:=Q5.Q5f (B.Qe q.1) (Q16.mk 0 false)) rfl λs=>s.Q32
 refine Q6 ⟨⟨rfl,trivial⟩,⟨?_,⟨h2.ok.Q11,h2.ok.s,h2.ok.f,h2.ok.all⟩,h2.Q11,h2.outs,h2.dr⟩,hY⟩
 show Q1.Q4l (Q1.QU (QM c δ B) _) r12.1.1=QM c δ (Q1.Q4l (Q1.QU B _) r12.1.1)
 rw [show ∀(A C:Q1) (v:QY),A=QM c δ C->Q1.Q4l A v=QM c δ (Q1.Q4l C v) from λA C v e=>by rw [e];rfl]
 exact h2.eq
abbrev PN {α:Type} (c:Rn α) (Inv:α->Prop) (g':Fm α) (a b:(Option Nat×Unit)×((Fm α)×Unit)×Unit):Prop:=a.1.1=b.1.1.map c.ρ/\Pt c b.2.1.1.1 b.1.1/\g'.1<=b.2.1.1.1/\FR c Inv a.2.1.1 b.2.1.1
theorem Q8u {α:Type} {c:Rn α} {Inv:α->Prop} {g g':Fm α} (h:FR c Inv g g') {v:α} (hv:Inv v):
  Tw (some (((some g.1,()),((g.1+1,Qr g.2 g.1 v),()),()):(Option Nat×Unit)×((Fm α)×Unit)×Unit)) (some (((some g'.1,()),((g'.1+1,Qr g'.2 g'.1 v),()),()):(Option Nat×Unit)×((Fm α)×Unit)×Unit)) (PN c Inv g'):=by
 obtain ⟨hl,hr⟩:=h.fresh
 exact Q6 ⟨by show some g.1=some (c.ρ g'.1);rw [hr],⟨g'.1,rfl,hl,Nat.lt_succ_self _⟩,Nat.le_succ _,h.new hv⟩
theorem QeE {c:Rn Qb} {g g':Fm Qb} (h:FR c Q2H g g') (o p w:Int):Tw (K69 o p w g) (K69 o p w g') (PN c Q2H g'):=by
 unfold K69 K69.gen
 exact Q8u h ⟨Int.le_refl 0,by show (0:Int)<=5;decide⟩
theorem Qer {c:Rn QB} {g g':Fm QB} (h:FR c (λ_=>True) g g'):Tw (Q3j g) (Q3j g') (PN c (λ_=>True) g'):=by
 unfold Q3j Q3j.gen
 exact Q8u h trivial
theorem QeM {c:Rn Qg} {g g':Fm Qg} (h:FR c (λ_=>True) g g') (s:Qf) (d:Int):Tw (K68 s d g) (K68 s d g') (PN c (λ_=>True) g'):=by
 unfold K68 K68.gen
 exact Q8u h trivial
theorem QdS {c:Rn Qc} {g g':Fm Qc} (h:FR c (λ_=>True) g g') (s:Qf) (d:Int):Tw (Q3l s d g) (Q3l s d g') (PN c (λ_=>True) g'):=by
 unfold Q3l Q3l.gen
 exact Q8u h trivial
theorem Qex {c:Rn Qp} {g g':Fm Qp} (h:FR c (λ_=>True) g g') (a b d:Int):Tw (Q3i a b d g) (Q3i a b d g') (PN c (λ_=>True) g'):=by
 unfold Q3i Q3i.gen
 exact Q8u h trivial
theorem Qeo {c:Rn Qh} {g g':Fm Qh} (h:FR c Q6s g g') (n:Int):Tw (Q3o n g) (Q3o n g') (PN c Q6s g'):=by
 have hc:1<=Z4 true 1 (Z4 false n 15)/\Z4 true 1 (Z4 false n 15)<=15:=by
  simp only [Z4,cond_true,cond_false,Q9s,imax]
  split <;> split <;> omega
 unfold Q3o Q3o.gen
 exact Q8u h ⟨Int.le_refl 0,Int.le_trans (show (0:Int)<=1 by decide) hc.1,hc.1,hc.2⟩
structure SzLe (a b:Sz):Prop where
 s:a.s<=b.s
 t:a.t<=b.t
 d:a.d<=b.d
 e:a.e<=b.e
 f:a.f<=b.f
 m:a.m<=b.m
 p:a.p<=b.p
theorem SOq.le {c:Cx} {n k:Sz} {q:Prop} {x:Q5} (h:SOq c n q x) (hk:SzLe n k):SOq c k q x:=h.imp (λh=>⟨h.t.mono hk.t,h.p.mono hk.p,h.m.mono hk.m,h.d.mono hk.d,h.e.mono hk.e⟩) λh=>h
abbrev YF:=(Fm Qp)×YT
structure RF (c:Cx) (a b:YF):Prop where
 s:FR c.s (λ_=>True) a.1 b.1
 r:RT c a.2 b.2
abbrev nF (b:YF):Sz:=nT b.1.1 b.2
structure Qa5 (c:Cx) (n:Sz) (j:Int) (cf:Q8) (m:Nat) (A B:Q1):Prop where
 eq:A=QM c D0 B
 Q11:B.Qo=cf
 s:Pt c.s n.s B.Q6K
 f:Pt c.f n.f B.Q6W
 side:∀i:Nat,SOq c n ((i:Int) < j) (B.Qe i)
 outs:B.Q2j.length<=m
 Qb7:B.Q2h=0
theorem Qcw {c:Cx} {cf:Q8} {m:Nat} {K:Q1} {ya yb:YF} (hcf:Q3G cf) (h:Qa5 c (nF yb) 0 cf m (QM c D0 K) K) (hY:RF c ya yb):
  Tw (K23.F0 ((1,()),QM c D0 K,cf,ya)) (K23.F0 ((1,()),K,cf,yb)) (λa b=>(a.1=b.1/\True)/\KR c D0 (nF b.2.2) (cf,m) a.2.1 b.2.1/\RF c a.2.2 b.2.2/\b.2.1.Q2h=0):=by
 obtain ⟨p1,p8,_⟩:=Q30 hcf
 unfold K23.F0
 refine Q4z (λa b=>a.1=b.1/\1<=b.1.1/\b.1.1<=cf.Qv+1/\Qa5 c (nF b.2.2.2) (b.1.1 - 1) cf m a.2.1 b.2.1/\a.2.2.1=cf/\b.2.2.1=cf/\RF c a.2.2.2 b.2.2.2) (λb=>(cf.Qv+1 - b.1.1).toNat) (λa b ⟨e1,e2,e3,hK,e4,e5,hR⟩=>?_) _ _ _ ⟨rfl,Int.le_refl 1,by show 1<=cf.Qv+1;omega,h,rfl,rfl,hY⟩ (by simp only [];omega)
 unfold K23.QO
 obtain ⟨a1,aK,ac,ay⟩:=a
 obtain ⟨⟨bi,_⟩,bK,bc,by'⟩:=b
 dsimp only at e1 e2 e3 hK e4 e5 hR
 have e6:=hK.eq
 subst e1 e4 e5 e6
 dsimp only
 refine Qx (λhh=>?_) (λhh=>?_)
 ·have hh:=Q54 hh
  refine QN (λa b=>a.1=(bi,())/\b.1=(bi,())/\a.2.1=QM c D0 bK/\b.2.1=bK/\a.2.2.1=bc/\b.2.2.1=bc/\a.2.2.2.1=b.2.2.2.1/\a.2.2.2.2=ay/\b.2.2.2.2=by') (Q2P (Q6H _ _) ee (λr0 _=>Q6 ⟨rfl,rfl,rfl,rfl,rfl,rfl,rfl,rfl,rfl⟩)) (λa b ⟨z1,z2,z3,z4,z5,z6,z7,z8,z9⟩=>?_)
  rw [z1,z2,z3,z4,z5,z6,z7,z8,z9]
  refine QN (λa b=>a.1=(bi,())/\b.1=(bi,())/\Qa5 c (nF b.2.2.2) bi bc m a.2.1 b.2.1/\a.2.2.1=bc/\b.2.2.1=bc/\RF c a.2.2.2 b.2.2.2) ?_ (λa b ⟨x1,x2,x3,x4,x5,x6⟩=>?_)
  ·refine Q2P (Q6n _ _) (Q6m bK e2 (by omega)) (λr2 e2'=>?_)
   rw [e2']
   refine Q2P (Q9O _) (Q8o _) (λr3 _=>?_)
   refine QN _ (QeE hR.r.t _ _ _) (λt1 t2 ⟨t3,t4,t5,t6⟩=>?_)
   refine QN _ (Qer hR.r.m) (λm1 m2 ⟨m3,m4,m5,m6⟩=>?_)
   refine QN _ (QeM hR.r.d _ _) (λd1 d2 ⟨d3,d4,d5,d6⟩=>?_)
   refine QN _ (QdS hR.r.e _ _) (λq1 q2 ⟨q3,q4,q5,q6⟩=>?_)
   obtain ⟨fl,fr⟩:=hR.r.p.fresh
   have hle:SzLe (nF by') (nF (by'.1,t2.2.1.1,d2.2.1.1,q2.2.1.1,by'.2.2.2.2.1,m2.2.1.1,(by'.2.2.2.2.2.2.1.1+1,Qr by'.2.2.2.2.2.2.1.2 by'.2.2.2.2.2.2.1.1 []),())):=⟨Nat.le_refl _,t5,d5,q5,Nat.le_refl _,m5,Nat.le_succ _⟩
   refine Q6 ⟨rfl,rfl,⟨?_,hK.Q11,hK.s.mono hle.s,hK.f.mono hle.f,λj=>?_,hK.outs,hK.Qb7⟩,rfl,rfl,⟨hR.s,⟨t6,d6,q6,hR.r.f,m6,hR.r.p.new Q3P.nil⟩⟩⟩
   ·refine Q7F ?_
    unfold Q3A
    rw [t3,m3,d3,q3,←fr]
    rfl
   ·show SOq c _ _ (Qr bK.Qe (bi - 1).toNat _ j)
    unfold Qr
    by_cases ej:j=(bi - 1).toNat
    ·rw [if_pos ej]
     exact .inl ⟨t4,⟨_,rfl,fl,Nat.lt_succ_self _⟩,m4,d4,q4⟩
    ·rw [if_neg ej]
     exact ((hK.side j).le hle).imp (λh=>h) λh=>⟨by omega,h.2⟩
  ·rw [x1,x2]
   dsimp only
   rw [Q1g (by omega)]
   refine Q6 ⟨⟨rfl,?_,?_,?_,x4,x5,x6⟩,?_⟩
   ·show 1<=bi+1;omega
   ·show bi+1<=bc.Qv+1;omega
   ·show Qa5 c (nF b.2.2.2) (bi+1 - 1) bc m a.2.1 b.2.1
    rw [show bi+1 - 1=bi by omega];exact x3
   ·show (bc.Qv+1 - (bi+1)).toNat < (bc.Qv+1 - bi).toNat;omega
 ·have hh:=QcM hh
  refine Q6 ⟨⟨rfl,trivial⟩,⟨rfl,⟨by rw [hK.Q11];exact hcf,hK.s,hK.f,λi=>(hK.side i).imp (λh=>h) λh=>⟨?_,h.2⟩⟩,hK.Q11,hK.outs,hK.Qb7⟩,hR,hK.Qb7⟩
  have hn:=h.1
  show ¬(i:Int) < bK.Qo.Qv
  rw [hK.Q11]
  omega
theorem Q7E {c:Cx} {cf:Q8} {m:Nat} {A B:Q1} {ya yb:YF} (hcf:Q3G cf) (ho:A.Q2j=B.Q2j) (hm:B.Q2j.length<=m) (hY:RF c ya yb):
  Tw (K23 cf A ya.1 ya.2.1 ya.2.2.1 ya.2.2.2.1 ya.2.2.2.2.1 ya.2.2.2.2.2.1 ya.2.2.2.2.2.2.1) (K23 cf B yb.1 yb.2.1 yb.2.2.1 yb.2.2.2.1 yb.2.2.2.2.1 yb.2.2.2.2.2.1 yb.2.2.2.2.2.2.1) (λa b=>(a.1=b.1/\b.2.1.1.Q2h=0)/\KR c D0 (nF b.2.1.2) (cf,m) a.2.1.1 b.2.1.1/\RF c a.2.1.2 b.2.1.2):=by
 have zer:∀l:List Q5,(∀x∈l,x=Q5.zero)->∀j,l.getD j Q5.zero=Q5.zero:=λl hl j=>by
  by_cases h:j < l.length
  ·exact hl _ (Q7b h)
  ·exact Qcr h
 have z8:∀x∈(Q5.zero::Q5.zero::Q5.zero::Q5.zero::Q5.zero::Q5.zero::Q5.zero::Q5.zero::Qn Q5),x=Q5.zero:=λx hx=>by
  simp only [Qn,List.mem_cons,List.not_mem_nil,or_false,or_self] at hx
  exact hx
 have hzn:∀j,NoP (List.getD (Q5.zero::Q5.zero::Q5.zero::Q5.zero::Q5.zero::Q5.zero::Q5.zero::Q5.zero::Qn Q5) j Q5.zero):=λj=>by
  rw [zer _ z8 j]
  exact ⟨rfl,rfl,rfl,rfl,rfl⟩
 unfold K23 K23.gen
 refine QN (λa b=>Qa5 c (nF b.2.2.2) 0 cf m a.2.1 b.2.1/\a.2.2.1=cf/\b.2.2.1=cf/\RF c a.2.2.2 b.2.2.2) (Qs ee (λr0 _=>QN _ (Qex hY.s _ _ _) (λs1 s2 ⟨s3,s4,s5,s6⟩=>QN _ (Qeo hY.r.f _) (λf1 f2 ⟨f3,f4,f5,f6⟩=>Q6 ⟨⟨?_,rfl,s4,f4,λi=>.inr ⟨by omega,hzn i⟩,hm,rfl⟩,rfl,rfl,⟨s6,hY.r.t,hY.r.d,hY.r.e,f6,hY.r.m,hY.r.p⟩⟩)))) (λa b ⟨hK,e1,e2,hR⟩=>?_)
 ·have hz:∀j,List.getD (Q5.zero::Q5.zero::Q5.zero::Q5.zero::Q5.zero::Q5.zero::Q5.zero::Q5.zero::Qn Q5) j Q5.zero=Q3A c (List.getD (Q5.zero::Q5.zero::Q5.zero::Q5.zero::Q5.zero::Q5.zero::Q5.zero::Q5.zero::Qn Q5) j Q5.zero):=λj=>by
   rw [zer _ z8 j]
   rfl
  exact Q5H rfl hz rfl rfl s3 f3 rfl rfl rfl ho
 ·obtain ⟨au,aK,ac,ay⟩:=a
  obtain ⟨bu,bK,bc,by'⟩:=b
  dsimp only at hK e1 e2 hR
  have e3:=hK.eq
  subst e1 e2 e3
  exact QN _ (Qcw hcf hK hR) (λa b ⟨z1,z2,z3,z4⟩=>Q6 ⟨⟨rfl,z4⟩,z2,z3⟩)
theorem KR.setc {c:Cx} {δ:Dl} {n:Sz} {cf cf':Q8} {m:Nat} {K:Q1} (h:KR c δ n (cf,m) (QM c δ K) K) (hc:Q3G cf') (hs:Q2D cf cf'):KR c δ n (cf',m) (Q1.Q85 (QM c δ K) cf') (Q1.Q85 K cf'):=by
 refine ⟨rfl,⟨hc,h.ok.s,h.ok.f,λi=>(h.ok.all i).imp (λh=>h) λh2=>⟨?_,h2.2⟩⟩,rfl,h.outs,h.dr⟩
 have h3:=h2.1
 have hc:K.Qo=cf:=h.Q11
 show ¬(i:Int) < cf'.Qv
 rw [hs.Q3R,←hc]
 exact h3
theorem Qcl {c:Cx} {δ:Dl} {n:Sz} {cf:Q8} {m:Nat} {K:Q1} (i j:Int) (x:Q9) (id:Int) (d:ByteArray) (now:Int) (hm:m<=1000) (hd:d.size<=400) (h1:1<=j) (hj:j<=cf.Qv) (h:KR c δ n (cf,m) (QM c δ K) K):
  Tw (K20 i j x id d now (QM c δ K)) (K20 i j x id d now K) (λa b=>a.1=b.1/\∃cf',Q3G cf'/\Q2D cf cf'/\KR c δ n (cf',m+1) a.2.1.1 b.2.1.1):=by
 obtain ⟨p1,p8,_⟩:=Q30 h.ok.Q11
 have hc:K.Qo=cf:=h.Q11
 rw [hc] at p1 p8
 have hck:Q3G cf:=by rw [←hc];exact h.ok.Q11
 unfold K20 K20.gen
 refine Q2P (Q6n _ _) (Q6m K h1 (by omega)) (λr0 e0=>?_)
 rw [e0]
 refine Q1o (c:=c) (δ:=δ) (K0:=(cf,m)) (λq=>q.2.2.1.size<=400) (λa b=>a=b/\Q3G b.2.1/\Q2D cf b.2.1) (λ_=>n) (Qs (Qe1 _ _ _ _ (by show Q3G K.Qo;exact h.ok.Q11) hd) (λr1 ⟨r2,r3,r4,_⟩=>Q6 ⟨⟨rfl,r2⟩,h,⟨rfl,r3,by have r4:Q2D K.Qo r1.1.2.1:=r4;rw [hc] at r4;exact r4⟩⟩)) (λq B ya yb hq h ⟨e,hk,hs⟩=>?_)
 subst e
 refine Q1o (c:=c) (δ:=δ) (K0:=(cf,m)) (λq=>q.2.2.1.size<=400) (λa b=>a=b/\Q3G b.2.1/\Q2D cf b.2.1) (λ_=>n) (Q2P (Q6H _ _) ee (λr3 _=>Q6 ⟨⟨rfl,hq⟩,h,⟨rfl,hk,hs⟩⟩)) (λq B ya yb hq h ⟨e,hk,hs⟩=>?_)
 subst e
 refine Q1o (c:=c) (δ:=δ) (K0:=(cf,m)) (λq=>q.2.2.1.size<=400) (λa b=>a=b/\Q3G b.2.1/\Q2D cf b.2.1) (λ_=>n) (Qs (Qdd _ _) (λr5 _=>Q6 ⟨⟨rfl,hq⟩,h,⟨rfl,hk,hs⟩⟩)) (λq B ya yb hq h ⟨e,hk,hs⟩=>?_)
 subst e
 refine QN (λa b=>a.1=b.1/\a.2.2=b.2.2/\∃cf',Q3G cf'/\Q2D cf cf'/\KR c δ n (cf',m) a.2.1 b.2.1) (Qx (λ_=>?_) (λ_=>Q6 ⟨rfl,rfl,cf,hck,Q2D.rfl' _,h⟩)) (λa b ⟨e1,e2,cf',hk',hs',h'⟩=>?_)
 ·refine QN (λa b=>a.1=b.1/\a.2.2=b.2.2/\∃cf',Q3G cf'/\Q2D cf cf'/\KR c δ n (cf',m) a.2.1 b.2.1) (Qs (Qe4 _ _ hq) (λr7 _=>Q6 ⟨rfl,rfl,_,hk,hs,h.setc hk hs⟩)) (λa b ⟨e1,e2,z⟩=>?_)
  rw [e1,e2]
  exact Qx (λ_=>Q6 ⟨rfl,rfl,z⟩) (λ_=>Q6 ⟨rfl,rfl,z⟩)
 ·have e3:=h'.eq
  rw [e3] at h'
  rw [e1,e2,e3]
  refine QN (λa b=>a.1=b.1/\KR c δ n (cf',m+1) a.2.1 b.2.1) (Q5I (λ_=>True) RU (nU n) (Q6S _ _ _ _ (by omega) h') (λq' B _ _ _ h2 _=>Q6 ⟨rfl,h2⟩)) (λa b ⟨z1,z2⟩=>?_)
  rw [z1]
  exact Q6 ⟨rfl,cf',hk',hs',z2⟩
theorem Qdc {c:Cx} {δ:Dl} {cf:Q8} {m:Nat} {K:Q1} {ya yb:YF} (i:Int) (l:List Qi) (now id:Int) (d:ByteArray) (x z:Q9) (hm:m<=1000) (h:KR c δ (nF yb) (cf,m) (QM c δ K) K) (hY:RF c ya yb):
  Tw (K31.F0 ((i,l,now,id,d,1,()),QM c δ K,x,z,ya)) (K31.F0 ((i,l,now,id,d,1,()),K,x,z,yb)) (λa b=>(a.1=b.1/\b.1=(i,now,id,d,()))/\KR c δ (nF b.2.2.2) (cf,m+8) a.2.1 b.2.1/\(a.2.2.1=x/\b.2.2.1=x/\RF c a.2.2.2 b.2.2.2)):=by
 obtain ⟨p1,p8,_⟩:=Q30 h.ok.Q11
 have hc:K.Qo=cf:=h.Q11
 rw [hc] at p1 p8
 unfold K31.F0
 refine Q4z (λa b=>a.1=b.1/\b.1=(i,l,now,id,d,b.1.2.2.2.2.2.1,())/\1<=b.1.2.2.2.2.2.1/\b.1.2.2.2.2.2.1<=cf.Qv+1/\KR c δ (nF b.2.2.2.2) (cf,m+(b.1.2.2.2.2.2.1 - 1).toNat) a.2.1 b.2.1/\a.2.2.1=x/\b.2.2.1=x/\a.2.2.2.1=z/\b.2.2.2.1=z/\RF c a.2.2.2.2 b.2.2.2.2) (λb=>(cf.Qv+1 - b.1.2.2.2.2.2.1).toNat) (λa b ⟨e1,e2,e3,e4,hK,e5,e6,e7,e8,hR⟩=>?_) _ _ _ ⟨rfl,rfl,Int.le_refl 1,by show 1<=cf.Qv+1;omega,h.more (Nat.le_add_right _ _),rfl,rfl,rfl,rfl,hY⟩ (by simp only [];omega)
 unfold K31.QO
 obtain ⟨a1,aK,ax,az,ay⟩:=a
 obtain ⟨⟨bi,bl,bn,bid,bd,bk,_⟩,bK,bx,bz,by'⟩:=b
 dsimp only at e1 e2 e3 e4 hK e5 e6 e7 e8 hR
 have e9:=hK.eq
 subst e1 e5 e6 e7 e8 e9
 cases e2
 dsimp only
 have hc:bK.Qo=cf:=hK.Q11
 refine Qx (λhh=>?_) (λhh=>Q6 ⟨⟨rfl,rfl⟩,hK.more (by omega),rfl,rfl,hR⟩)
 have hh:=Q54 hh
 rw [show (QM c δ bK).Qo=bK.Qo from rfl,hc] at hh
 refine QN (λa b=>a=b) (Qx (λ_=>?_) (λ_=>Q6 rfl)) (λr2 r2' e=>?_)
 ·exact Q2P (show K16 bk (QM c δ bK)=K16 bk bK from rfl) (Q9u _ _ hK.ok.Q11) (λr0 _=>Qs ee (λr1 _=>Q6 rfl))
 subst e
 refine Q1o (c:=c) (δ:=δ) (K0:=(cf,m+(bk - 1).toNat+1)) (λq=>q=(i,l,now,id,d,bk,())) (λ(a b:Q9×Q9×YF)=>a.1=bx/\b.1=bx/\a.2.1=bz/\b.2.1=bz/\RF c a.2.2 b.2.2) (λb=>nF b.2.2) (Qx (λ_=>Q5I (λ_=>True) RU (nU (nF by')) (Q6S _ _ _ _ (by omega) hK) (λq' B _ _ _ h2 _=>Q6 ⟨⟨rfl,rfl⟩,h2,rfl,rfl,rfl,rfl,hR⟩)) (λ_=>Q6 ⟨⟨rfl,rfl⟩,hK.more (Nat.le_succ _),rfl,rfl,rfl,rfl,hR⟩)) (λq B ya yb hq hK ⟨f1,f2,f3,f4,hR⟩=>?_)
 subst hq
 dsimp only
 rw [Q1g (by omega)]
 refine Q6 ⟨⟨rfl,rfl,?_,?_,hK.more ?_,f1,f2,f3,f4,hR⟩,?_⟩
 ·show 1<=bk+1;omega
 ·show bk+1<=cf.Qv+1;omega
 ·show m+(bk - 1).toNat+1<=m+(bk+1 - 1).toNat;omega
 ·show (cf.Qv+1 - (bk+1)).toNat < (cf.Qv+1 - bk).toNat;omega
def MK (c:Cx) (δ:Dl) (cf:Q8) (m:Nat) (x:Q9) (a b:Q1×Q9×YF):Prop:=∃cf',Q2D cf cf'/\KR c δ (nF b.2.2) (cf',m) a.1 b.1/\a.2.1=x/\b.2.1=x/\RF c a.2.2 b.2.2
theorem Qau {c:Cx} {δ:Dl} {cf:Q8} {m:Nat} {x:Q9} {Z:Type} {q:Z} {B:Q1} {ya yb:Q9×YF} (j ev:Int) (h:MK c δ cf m x (QM c δ B,ya) (B,yb)) (P:Z->Prop) (hq:P q)
  {k:Unit×(Q1×YU)×Unit->Q1×Q9×YF} {k':Unit×(Q1×YU)×Unit->Q1×Q9×YF}
  (hk:∀a,k a=(a.2.1.1,ya.1,ya.2.1,a.2.1.2.1,a.2.1.2.2.1,a.2.1.2.2.2.1,ya.2.2.2.2.2.1,a.2.1.2.2.2.2)) (hk':∀a,k' a=(a.2.1.1,yb.1,yb.2.1,a.2.1.2.1,a.2.1.2.2.1,a.2.1.2.2.2.1,yb.2.2.2.2.2.1,a.2.1.2.2.2.2)):
  Tw (Q0 (K43 j ev (QM c δ B) ya.2.2.1 ya.2.2.2.1 ya.2.2.2.2.1 ya.2.2.2.2.2.2.1 ya.2.2.2.2.2.2.2.1) none λr=>some (q,k r)) (Q0 (K43 j ev B yb.2.2.1 yb.2.2.2.1 yb.2.2.2.2.1 yb.2.2.2.2.2.2.1 yb.2.2.2.2.2.2.2.1) none λr=>some (q,k' r)) (λa b=>(a.1=b.1/\P b.1)/\MK c δ cf m x a.2 b.2):=by
 obtain ⟨cf',hs,hK,e1,e2,hR⟩:=h
 refine QN _ (Qbr (n:=nF yb.2) (ya:=(ya.2.2.1,ya.2.2.2.1,ya.2.2.2.2.1,ya.2.2.2.2.2.2.1,ya.2.2.2.2.2.2.2.1,())) (yb:=(yb.2.2.1,yb.2.2.2.1,yb.2.2.2.2.1,yb.2.2.2.2.2.2.1,yb.2.2.2.2.2.2.2.1,())) j ev hK ⟨hR.r.t,hR.r.d,hR.r.e,hR.r.m,hR.r.p⟩) (λa b ⟨_,hK,hY⟩=>?_)
 refine Q6 ⟨⟨rfl,hq⟩,cf',hs,?_,?_,?_,?_⟩
 ·rw [hk,hk'];exact hK
 ·rw [hk];exact e1
 ·rw [hk'];exact e2
 ·rw [hk,hk'];exact ⟨hR.s,⟨hY.t,hY.d,hY.e,hR.r.f,hY.m,hY.p⟩⟩
theorem Qdh {c:Cx} {δ:Dl} {cf:Q8} {m:Nat} {K:Q1} {ya yb:YF} (i now id:Int) (d:ByteArray) (x:Q9) (l:List Int) (hd:d.size<=400) (hl:l.length<=8) (hl2:∀n∈l,1<=n/\n<=cf.Qv) (hm:m<=900) (h:KR c δ (nF yb) (cf,m) (QM c δ K) K) (hY:RF c ya yb):
  Tw (K31.F1 ((i,now,id,d,false,l,ofN l.length,0,()),QM c δ K,x,ya)) (K31.F1 ((i,now,id,d,false,l,ofN l.length,0,()),K,x,yb)) (λa b=>a.1=b.1/\∃cf',Q2D cf cf'/\KR c δ (nF b.2.2) (cf',m+8) a.2.1 b.2.1/\RF c a.2.2 b.2.2):=by
 unfold K31.F1
 refine Q4z (λa b=>a.1=b.1/\b.1=(i,now,id,d,b.1.2.2.2.2.1,l,(l.length:Int),b.1.2.2.2.2.2.2.2.1,())/\0<=b.1.2.2.2.2.2.2.2.1/\b.1.2.2.2.2.2.2.2.1<=(l.length:Int)/\MK c δ cf (m+b.1.2.2.2.2.2.2.2.1.toNat) x a.2 b.2) (λb=>((l.length:Int) - b.1.2.2.2.2.2.2.2.1).toNat) (λa b ⟨e1,e2,e3,e4,hM⟩=>?_) _ _ _ ⟨rfl,rfl,Int.le_refl 0,by show (0:Int)<=l.length;omega,cf,Q2D.rfl' _,h,rfl,rfl,hY⟩ (by simp only [];omega)
 unfold K31.Q2A
 obtain ⟨a1,aK,ax,ay⟩:=a
 obtain ⟨⟨bi,bn,bid,bd,ba,bl,bk,bj,_⟩,bK,bx,by'⟩:=b
 dsimp only at e1 e2 e3 e4 hM
 obtain ⟨cf',hs,hK,e5,e6,hR⟩:=hM
 dsimp only at hK e5 e6 hR
 have e9:=hK.eq
 subst e1 e5 e6 e9
 cases e2
 dsimp only
 refine Qx (λhh=>?_) (λhh=>Q6 ⟨rfl,cf',hs,hK.more (by omega),hR⟩)
 have hh:=Q2m hh
 have hmem:l.getD bj.toNat 0∈l:=Q7b (by omega)
 obtain ⟨j1,j2⟩:=hl2 _ hmem
 refine Q2z (Q1C e3 hh) ?_
 refine QN (λa b=>(a.1=b.1/\(b.1.1=i/\b.1.2.1=now/\b.1.2.2.1=id/\b.1.2.2.2.1=d/\b.1.2.2.2.2.2.2=(l,(l.length:Int),bj,b.1.2.2.2.2.2.2.2.2.2.1,())))/\MK c δ cf (m+bj.toNat+1) bx a.2 b.2) ?_ (λa b ⟨⟨z1,z2,z3,z4,z5,z6⟩,hM⟩=>?_)
 ·refine QN _ (Qcl i _ bx id d now (by omega) hd j1 (by rw [hs.Q3R];exact j2) hK) (λa b ⟨y1,cf2,y2,y3,y4⟩=>?_)
  have hs2:Q2D cf cf2:=⟨y3.clock.trans hs.clock,y3.Q3R.trans hs.Q3R⟩
  rw [y1]
  exact Qx (λ_=>Q6 ⟨⟨rfl,rfl,rfl,rfl,rfl,rfl⟩,cf2,hs2,y4,rfl,rfl,hR⟩) (λ_=>Q6 ⟨⟨rfl,rfl,rfl,rfl,rfl,rfl⟩,cf2,hs2,y4,rfl,rfl,hR⟩)
 obtain ⟨a1,aK,ax,ay⟩:=a
 obtain ⟨⟨bi,bn,bid,bd,ba,bt,bl,bk,bj',bb,_⟩,bK,bx',by'⟩:=b
 dsimp only at z1 z2 z3 z4 z5 z6 hM
 obtain ⟨cf',hs,hK,e5,e6,hR⟩:=hM
 dsimp only at hK e5 e6 hR
 have e9:=hK.eq
 subst z1 z2 z3 z4 z5 e5 e6 e9
 cases z6
 dsimp only
 have hM:MK c δ cf (m+bj.toNat+1) bx' (QM c δ bK,bx',ay) (bK,bx',by'):=⟨cf',hs,hK,rfl,rfl,hR⟩
 refine QN (λa b=>(a.1=b.1/\(b.1.1=bi/\b.1.2.1=bn/\b.1.2.2.1=bid/\b.1.2.2.2.1=bd/\b.1.2.2.2.2.2=(l,(l.length:Int),bj,())))/\MK c δ cf (m+bj.toNat+1) bx' a.2 b.2) (Qx (λ_=>?_) (λ_=>Q6 ⟨⟨rfl,rfl,rfl,rfl,rfl,rfl⟩,hM⟩)) (λa b ⟨⟨z1,z2,z3,z4,z5,z6⟩,hM⟩=>?_)
 ·refine QN (λa b=>a=b) (Qx (λ_=>Q6 rfl) (λ_=>Q6 rfl)) (λr2 r2' e=>?_)
  subst e
  refine Qx (λ_=>?_) (λ_=>Qx (λ_=>?_) (λ_=>Q6 ⟨⟨rfl,rfl,rfl,rfl,rfl,rfl⟩,hM⟩))
  ·exact Qau (Z:=Int×Int×Int×ByteArray×Bool×List Int×Int×Int×Unit) _ _ hM (λq=>q.1=bi/\q.2.1=bn/\q.2.2.1=bid/\q.2.2.2.1=bd/\q.2.2.2.2.2=(l,(l.length:Int),bj,())) ⟨rfl,rfl,rfl,rfl,rfl⟩ (λ_=>rfl) (λ_=>rfl)
  ·exact Qau (Z:=Int×Int×Int×ByteArray×Bool×List Int×Int×Int×Unit) _ _ hM (λq=>q.1=bi/\q.2.1=bn/\q.2.2.1=bid/\q.2.2.2.1=bd/\q.2.2.2.2.2=(l,(l.length:Int),bj,())) ⟨rfl,rfl,rfl,rfl,rfl⟩ (λ_=>rfl) (λ_=>rfl)
 ·rw [z1]
  obtain ⟨⟨b1,b2,b3,b4,b5,b6⟩,bK⟩:=b
  dsimp only at z2 z3 z4 z5 z6 hM
  subst z2 z3 z4 z5 z6
  dsimp only
  rw [Q1g (by omega)]
  refine Q6 ⟨⟨rfl,rfl,?_,?_,?_⟩,?_⟩
  ·show 0<=bj+1;omega
  ·show bj+1<=(l.length:Int);omega
  ·obtain ⟨cf',hs,hK,e5,e6,hR⟩:=hM
   exact ⟨cf',hs,hK.more (by show m+bj.toNat+1<=m+(bj+1).toNat;omega),e5,e6,hR⟩
  ·show ((l.length:Int) - (bj+1)).toNat < ((l.length:Int) - bj).toNat;omega
structure DN (δ δ':Dl):Prop where
 f:δ'.f=δ.f\/δ'.f=id
 d:δ'.d=δ.d\/δ'.d=Q4 .i64 δ.d 1\/δ'.d=0
theorem DN.refl (δ:Dl):DN δ δ:=⟨.inl rfl,.inl rfl⟩
theorem DN.zero (δ:Dl):DN δ D0:=⟨.inr rfl,.inr (.inr rfl)⟩
theorem DN.one (δ:Dl):DN δ ⟨δ.f,Q4 .i64 δ.d 1⟩:=⟨.inl rfl,.inr (.inl rfl)⟩
def PF (c:Cx) (δ:Dl) (cf:Q8) (m:Nat) (A B:Q1) (ya yb:YF):Prop:=∃δ' cf',DN δ δ'/\Q2D cf cf'/\KR c δ' (nF yb) (cf',m) A B/\RF c ya yb
theorem PF.of {c:Cx} {δ:Dl} {cf:Q8} {m m':Nat} {A B:Q1} {ya yb:YF} (h:KR c δ (nF yb) (cf,m) A B) (hY:RF c ya yb) (hm:m<=m'):PF c δ cf m' A B ya yb:=⟨δ,cf,DN.refl δ,Q2D.rfl' _,h.more hm,hY⟩
theorem PF.same {c:Cx} {δ:Dl} {cf cf':Q8} {m m':Nat} {A B:Q1} {ya yb:YF} (hs:Q2D cf cf') (h:KR c δ (nF yb) (cf',m) A B) (hY:RF c ya yb) (hm:m<=m'):PF c δ cf m' A B ya yb:=⟨δ,cf',DN.refl δ,hs,h.more hm,hY⟩
theorem Qak {α β:Type} {step:α->Option (α⊕β)} (φ:α->α) (ψ:β->β) (h:∀a,step (φ a)=(step a).map (Sum.map φ ψ)):∀(N:Nat) (a:α),Z8 N step (φ a)=(Z8 N step a).map ψ
 |0,a=>rfl
 |N+1,a=>by
  unfold Z8
  rw [h]
  cases step a with
  |none=>rfl
  |some r=>
   cases r with
   |inl b=>exact Qak φ ψ h N b
   |inr b=>rfl
theorem Qde {c:Cx} {δ:Dl} (i:Int) (tg:Qf) (all:Bool) (K:Q1):K32 i tg all (QM c δ K)=K32 i tg all K:=by
 unfold K32 K32.gen
 have hs:=λN=>Qak (step:=K32.QO K38 K89) (λs=>(s.1,QM c δ s.2.1,s.2.2)) (λs=>(s.1,QM c δ s.2.1,s.2.2)) (λa=>by
  obtain ⟨⟨i,al,l,n,_⟩,K,t,_⟩:=a
  unfold K32.QO
  dsimp only
  rw [Q6H,show (QM c δ K).Qo=K.Qo from rfl]
  cases ile n K.Qo.Qv with
  |false=>rfl
  |true=>
   cases K38 n K with
   |none=>rfl
   |some r0=>
    simp only [Qq,cond_true]
    cases K89 t r0.1.1 with
    |none=>rfl
    |some r1=>
     simp only [Qq]
     cases r1.1.1 with
     |false=>rfl
     |true=>
      simp only [cond_true]
      cases room (l.length+(n::Qn Int).length) 8 <;> rfl) N ((i,all,Qn Int,1,()),K,tg,())
 unfold K32.F0
 dsimp only at hs ⊢
 rw [hs]
 cases Z8 _ (K32.QO K38 K89) ((i,all,Qn Int,1,()),K,tg,()) with
 |none=>rfl
 |some r=>rfl
theorem Qck {c:Cx} {δ:Dl} {cf:Q8} {m:Nat} {K:Q1} {ya yb:YF} (i:Int) (x:Q9) (l:List Qi) (now:Int) (hl:Q5C l) (h1:1<=i) (hi:i<=cf.Qv) (hm:m<=500) (h:KR c δ (nF yb) (cf,m) (QM c δ K) K) (hY:RF c ya yb):
  Tw (K31 i x l now (QM c δ K) ya.1 ya.2.1 ya.2.2.1 ya.2.2.2.1 ya.2.2.2.2.1 ya.2.2.2.2.2.1 ya.2.2.2.2.2.2.1) (K31 i x l now K yb.1 yb.2.1 yb.2.2.1 yb.2.2.2.1 yb.2.2.2.2.1 yb.2.2.2.2.2.1 yb.2.2.2.2.2.2.1) (λa b=>a.1=b.1/\PF c δ cf (m+16) a.2.1.1 b.2.1.1 a.2.1.2 b.2.1.2):=by
 unfold K31 K31.gen
 refine Q1o (c:=c) (δ:=δ) (K0:=(cf,m)) (λq=>q=(i,l,now,())) (λ(a b:Q9×Qi×YF)=>a.1=x/\b.1=x/\a.2.1=b.2.1/\b.2.1.Q2y.size<=400/\RF c a.2.2 b.2.2) (λb=>nF b.2.2) (Qs (Qc2 _ _ hl) (λr hr=>Q6 ⟨⟨rfl,rfl⟩,h,rfl,rfl,rfl,hr,hY⟩)) (λq B ya yb hq h ⟨e1,e2,e3,hz,hY⟩=>?_)
 subst hq
 dsimp only
 rw [e1,e2,e3]
 refine Qs (QdI _ hz) (λr2 hr2=>Qx (λ_=>Q6 ⟨rfl,PF.of h hY (Nat.le_add_right _ _)⟩) (λ_=>?_))
 refine QN (λa b=>a=b) (Qx (λ_=>Q6 rfl) (λ_=>Q6 rfl)) (λr3 r3' e=>?_)
 subst e
 refine Q1o (c:=c) (δ:=δ) (K0:=(cf,m+8)) (λq=>q=(i,now,r2.1.1,r2.1.2.1,())) (λ(a b:Q9×YF)=>a.1=x/\b.1=x/\RF c a.2 b.2) (λb=>nF b.2) (Qx (λ_=>QN _ (Qdc (ya:=ya.2.2) (yb:=yb.2.2) i l now r2.1.1 r2.1.2.1 x _ (by omega) h hY) (λa b hab=>Q6 hab)) (λ_=>Q6 ⟨⟨rfl,rfl⟩,h.more (Nat.le_add_right _ _),rfl,rfl,hY⟩)) (λq B ya yb hq h ⟨e1,e2,hY⟩=>?_)
 subst hq
 dsimp only
 rw [e1,e2]
 have hc:B.Qo=cf:=h.Q11
 refine QN (λa b=>a=b) (Qx (λ_=>Qx (λ_=>Q6 rfl) (λ_=>Q6 rfl)) (λ_=>Q6 rfl)) (λr6 r6' e=>?_)
 subst e
 refine Qx (λ_=>Q6 ⟨rfl,PF.of h hY (by omega)⟩) (λ_=>Qs ee (λr7 _=>?_))
 refine Q2P (Qde i x.Q2i r7.1.1 B) (Qds i x.Q2i r7.1.1 B h.ok.Q11 (by rw [hc];exact ⟨h1,hi⟩)) (λr8 ⟨h8,h8'⟩=>?_)
 rw [hc] at h8'
 obtain ⟨a1,ay⟩:=ya
 obtain ⟨b1,by'⟩:=yb
 dsimp only at e1 e2
 subst e1 e2
 refine QN _ (Qdh i now r2.1.1 r2.1.2.1 _ r8.1.1 hr2 h8 h8' (by omega) h hY) (λa b ⟨e1,cf',hs,hK,hR⟩=>?_)
 rw [e1]
 refine Qx (λ_=>?_) (λ_=>Q6 ⟨rfl,PF.same hs hK hR (by omega)⟩)
 have e4:=hK.eq
 have hcb:b.2.1.Qo=cf':=hK.Q11
 rw [e4]
 refine QN _ (Q7E (ya:=a.2.2) (yb:=b.2.2) (m:=m+16) (A:=QM c δ b.2.1) (B:=b.2.1) hK.ok.Q11 rfl (Nat.le_trans hK.outs (by show m+8+8<=m+16;omega)) hR) (λa' b' ⟨_,hK',hR'⟩=>Q6 ⟨rfl,D0,cf',DN.zero δ,hs,by rw [←hcb];exact hK',hR'⟩)
def Dr (δ:Dl):Prop:=∀x,δ.f (Q4 .i64 x 1)=Q4 .i64 (δ.f x) 1
abbrev D1 (δ:Dl):Dl:=⟨δ.f,Q4 .i64 δ.d 1⟩
theorem KR.drop {c:Cx} {δ:Dl} {n:Sz} {K0:Q8×Nat} {K:Q1} (hδ:Dr δ) (h:KR c δ n K0 (QM c δ K) K):KR c (D1 δ) n K0 (Q1.Q4b (QM c δ K) (Q4 .i64 (QM c δ K).Q2h 1)) (Q1.Q4b K (Q4 .i64 K.Q2h 1)):=
 ⟨Q5H rfl (λ_=>rfl) rfl rfl rfl rfl rfl rfl (hδ _).symm rfl,⟨h.ok.Q11,h.ok.s,h.ok.f,h.ok.all⟩,h.Q11,h.outs,by show Q4 .i64 K.Q2h 1=Q4 .i64 δ.d 1;rw [h.dr]⟩
theorem PF.drop {c:Cx} {δ:Dl} {cf:Q8} {m m':Nat} {K:Q1} {ya yb:YF} (hδ:Dr δ) (h:KR c δ (nF yb) (cf,m) (QM c δ K) K) (hY:RF c ya yb) (hm:m<=m'):PF c δ cf m' (Q1.Q4b (QM c δ K) (Q4 .i64 (QM c δ K).Q2h 1)) (Q1.Q4b K (Q4 .i64 K.Q2h 1)) ya yb:=⟨D1 δ,cf,DN.one δ,Q2D.rfl' _,(h.drop hδ).more hm,hY⟩
abbrev YFm:=Q9×YF
def PS (c:Cx) (δ:Dl) (cf:Q8) (m:Nat) (a b:(Unit×Q1×YF)⊕(Unit×Q1×YF)):Prop:=
 match a,b with
 | .inl x,.inl y=>PF c δ cf m x.2.1 y.2.1 x.2.2 y.2.2
 | .inr x,.inr y=>KR c δ (nF y.2.2) (cf,m) x.2.1 y.2.1/\RF c x.2.2 y.2.2
 |_,_=>False
theorem Qcf {α α' β β' γ γ':Type} {x:α⊕β} {y:α'⊕β'} {f:α->Option γ} {g:β->Option γ} {f':α'->Option γ'} {g':β'->Option γ'} {Q:γ->γ'->Prop} {P:α⊕β->α'⊕β'->Prop} (h:P x y) (h1:∀a a',P (.inl a) (.inl a')->Tw (f a) (f' a') Q) (h2:∀b b',P (.inr b) (.inr b')->Tw (g b) (g' b') Q) (h3:∀a b,¬P (.inl a) (.inr b)) (h4:∀a b,¬P (.inr b) (.inl a)):Tw (Q3S x f g) (Q3S y f' g') Q:=by
 cases x with
 |inl a=>
  cases y with
  |inl a'=>exact h1 a a' h
  |inr b'=>exact (h3 _ _ h).elim
 |inr b=>
  cases y with
  |inl a'=>exact (h4 _ _ h).elim
  |inr b'=>exact h2 b b' h
theorem Qdo {c:Cx} {δ:Dl} {cf:Q8} {m:Nat} {K:Q1} {ya yb:YF} (hδ:Dr δ) (i:Int) (b:ByteArray) (now:Int) (hb:Q4N b) (hm:m<=100) (h:KR c δ (nF yb) (cf,m) (QM c δ K) K) (hY:RF c ya yb):
  Tw (K29 i b now (QM c δ K) ya.1 ya.2.1 ya.2.2.1 ya.2.2.2.1 ya.2.2.2.2.1 ya.2.2.2.2.2.1 ya.2.2.2.2.2.2.1) (K29 i b now K yb.1 yb.2.1 yb.2.2.1 yb.2.2.2.1 yb.2.2.2.2.1 yb.2.2.2.2.2.1 yb.2.2.2.2.2.2.1) (λa b=>a.1=b.1/\PF c δ cf (m+16) a.2.1.1 b.2.1.1 a.2.1.2 b.2.1.2):=by
 unfold K29 K29.gen
 refine Q1o (c:=c) (δ:=δ) (K0:=(cf,m)) (λq=>q.1=i/\q.2.1=now/\Q5C q.2.2.1) (RM (RF c)) (nM nF) (Qs (Qec b _ hb) (λr hr=>Q6 ⟨⟨rfl,rfl,rfl,hr⟩,h,⟨rfl,hY⟩⟩)) (λq B ya yb ⟨q1,q2,q3⟩ h ⟨e1,hY⟩=>?_)
 obtain ⟨xa,ya⟩:=ya
 obtain ⟨xb,yb⟩:=yb
 have e1:xa=xb:=e1
 subst e1
 have hc:B.Qo=cf:=h.Q11
 obtain ⟨p1,p8,_⟩:=Q30 h.ok.Q11
 rw [hc] at p1 p8
 dsimp only
 rw [q1,q2]
 refine QN (λa b=>a=b/\(b.1=false->1<=i/\i<=cf.Qv)) (Q2P (Qae _ _) (Q7x _ _) (λr2 h2=>Qx (λ_=>Q6 ⟨rfl,λh=>by cases h⟩) (λhf=>?_))) (λr3 r3' ⟨e,h3⟩=>?_)
 ·obtain ⟨i1,i2⟩:=h2 hf
  rw [hc] at i2
  exact Qx (λ_=>Q6 ⟨rfl,λh=>by cases h⟩) (λ_=>Q6 ⟨rfl,λ_=>⟨i1,i2⟩⟩)
 subst e
 refine Qx (λ_=>Q6 ⟨rfl,PF.drop hδ h hY (Nat.le_add_right _ _)⟩) (λhf=>?_)
 obtain ⟨i1,i2⟩:=h3 hf
 have hlt:(((i - 1).toNat:Nat):Int) < cf.Qv:=by omega
 refine Q2P (Q6n _ _) (Q6m B i1 (by omega)) (λr4 e4=>?_)
 rw [e4]
 refine Qs ee (λr5 _=>Qx (λ_=>Q6 ⟨rfl,PF.drop hδ h hY (Nat.le_add_right _ _)⟩) (λ_=>?_))
 refine QN (PS c δ cf (m+16)) (Qx (λ_=>?_) (λ_=>?_)) (λr22 r22' hP=>Qcf (P:=PS c δ cf (m+16)) hP (λa a' h=>Q6 ⟨rfl,h⟩) (λa a' h=>?_) (λ_ _ h=>h) (λ_ _ h=>h))
 ·refine QN _ (QcW (n:=nF yb) (ya:=(ya.2.1,ya.2.2.2.2.2.2.1,())) (yb:=(yb.2.1,yb.2.2.2.2.2.2.1,())) _ _ _ q3 hlt h ⟨hY.r.t,hY.r.p⟩) (λa b ⟨⟨e,_⟩,hK,hA⟩=>?_)
  rw [e]
  have hR:RF c (ya.1,a.2.1.2.1,ya.2.2.1,ya.2.2.2.1,ya.2.2.2.2.1,ya.2.2.2.2.2.1,a.2.1.2.2) (yb.1,b.2.1.2.1,yb.2.2.1,yb.2.2.2.1,yb.2.2.2.2.1,yb.2.2.2.2.2.1,b.2.1.2.2):=⟨hY.s,⟨hA.1,hY.r.d,hY.r.e,hY.r.f,hY.r.m,hA.2⟩⟩
  exact Qx (λ_=>Q6 ⟨hK.more (Nat.le_add_right _ _),hR⟩) (λ_=>Q6 (PF.of hK hR (Nat.le_add_right _ _)))
 ·refine Q1o (c:=c) (δ:=δ) (K0:=(cf,m)) (λq'=>q'.1=i/\q'.2.1=now/\q'.2.2.1=(i - 1).toNat/\q'.2.2.2.1=q.2.2.1) (λ(a b:YFm)=>a.1=b.1/\RF c a.2 b.2) (λb=>nF b.2) (Qx (λ_=>Q6 ⟨⟨rfl,rfl,rfl,rfl,rfl⟩,h,⟨rfl,hY⟩⟩) (λ_=>Q6 ⟨⟨rfl,rfl,rfl,rfl,rfl⟩,h,⟨rfl,hY⟩⟩)) (λq' B ya yb ⟨q1,q2,q4,q5⟩ h ⟨e1,hY⟩=>?_)
  obtain ⟨xa,ya⟩:=ya
  obtain ⟨xb,yb⟩:=yb
  have e1:xa=xb:=e1
  subst e1
  dsimp only
  have no:PF c δ cf (m+16) (QM c δ B) B ya yb:=PF.of h hY (Nat.le_add_right _ _)
  refine Qx (λ_=>?_) (λ_=>Qx (λ_=>?_) (λ_=>Qx (λ_=>?_) (λ_=>?_)))
  ·refine QN (λa b=>a=b) (Qs ee (λr8 _=>Qx (λ_=>Q6 rfl) (λ_=>Q6 rfl))) (λr9 r9' e=>?_)
   subst e
   refine Qx (λ_=>?_) (λ_=>Q6 no)
   exact QN _ (Qbm (n:=nF yb) (ya:=(ya.1,ya.2.2.1,ya.2.2.2.1,ya.2.2.2.2.1,ya.2.2.2.2.2.1,())) (yb:=(yb.1,yb.2.2.1,yb.2.2.2.1,yb.2.2.2.2.1,yb.2.2.2.2.2.1,())) _ _ _ (by omega) (by rw [q4];exact hlt) h ⟨hY.s,hY.r.d,hY.r.e,hY.r.f,hY.r.m⟩) (λa b ⟨_,hK,hX⟩=>Q6 (PF.of (cf:=cf) (m:=m+1) (ya:=(a.2.1.2.1,ya.2.1,a.2.1.2.2.1,a.2.1.2.2.2.1,a.2.1.2.2.2.2.1,a.2.1.2.2.2.2.2.1,ya.2.2.2.2.2.2)) (yb:=(b.2.1.2.1,yb.2.1,b.2.1.2.2.1,b.2.1.2.2.2.1,b.2.1.2.2.2.2.1,b.2.1.2.2.2.2.2.1,yb.2.2.2.2.2.2)) hK ⟨hX.s,⟨hY.r.t,hX.d,hX.e,hX.f,hX.m,hY.r.p⟩⟩ (by omega)))
  ·refine QN (λa b=>a=b) (Qx (λ_=>Q6 rfl) (λ_=>Q6 rfl)) (λr9 r9' e=>?_)
   subst e
   refine Qx (λ_=>?_) (λ_=>Q6 no)
   refine Q1o (c:=c) (δ:=δ) (K0:=(cf,m)) (λ_=>True) (λ(a b:YFm)=>a.1=b.1/\RF c a.2 b.2) (λb=>nF b.2) (Q2P (Q6H _ _) ee (λr12 _=>Qs ee (λr13 _=>Q6 ⟨⟨rfl,trivial⟩,h,⟨rfl,hY⟩⟩))) (λq B ya yb _ h ⟨e1,hY⟩=>?_)
   obtain ⟨xa,ya⟩:=ya
   obtain ⟨xb,yb⟩:=yb
   have e1:xa=xb:=e1
   subst e1
   dsimp only
   exact Qx (λ_=>Q5I (λ_=>True) RU (nU (nF yb)) (Q6S _ _ _ _ (by omega) h) (λq' B _ _ _ h2 _=>Q6 (PF.of h2 hY (by omega)))) (λ_=>Q6 (PF.of h hY (by omega)))
  ·refine QN (λa b=>a=b) (Qs ee (λr8 _=>Qx (λ_=>Qx (λ_=>Q6 rfl) (λ_=>Q6 rfl)) (λ_=>Q6 rfl))) (λr9 r9' e=>?_)
   subst e
   refine Qx (λ_=>?_) (λ_=>Q6 no)
   exact QN _ (QeC (K0:=(cf,m)) (n:=nF yb) (ya:=(ya.2.2.1,ya.2.2.2.2.1,())) (yb:=(yb.2.2.1,yb.2.2.2.2.1,())) _ _ (by rw [q4];exact hlt) h ⟨hY.r.d,hY.r.f⟩) (λa b ⟨_,hK,hX⟩=>Q6 (PF.of (cf:=cf) (m:=m) (ya:=(ya.1,ya.2.1,a.2.1.2.1,ya.2.2.2.1,a.2.1.2.2.1,ya.2.2.2.2.2)) (yb:=(yb.1,yb.2.1,b.2.1.2.1,yb.2.2.2.1,b.2.1.2.2.1,yb.2.2.2.2.2)) hK ⟨hY.s,⟨hY.r.t,hX.1,hY.r.e,hX.2,hY.r.m,hY.r.p⟩⟩ (by omega)))
  ·refine Q1o (c:=c) (δ:=δ) (K0:=(cf,m)) (λq''=>q''.1=i/\q''.2.1=now/\q''.2.2.1=q.2.2.1) (λ(a b:YFm)=>a.1=b.1/\RF c a.2 b.2) (λb=>nF b.2) (Qx (λ_=>Q6 ⟨⟨rfl,q1,q2,q5⟩,h,⟨rfl,hY⟩⟩) (λ_=>Qx (λ_=>Q6 ⟨⟨rfl,q1,q2,q5⟩,h,⟨rfl,hY⟩⟩) (λ_=>Q6 ⟨⟨rfl,q1,q2,q5⟩,h,⟨rfl,hY⟩⟩))) (λq'' B ya yb ⟨q1,q2,q5⟩ h ⟨e1,hY⟩=>?_)
   obtain ⟨xa,ya⟩:=ya
   obtain ⟨xb,yb⟩:=yb
   have e1:xa=xb:=e1
   subst e1
   dsimp only
   have no:PF c δ cf (m+16) (QM c δ B) B ya yb:=PF.of h hY (Nat.le_add_right _ _)
   refine Qx (λ_=>Qx (λ_=>?_) (λ_=>Q6 no)) (λ_=>Qx (λ_=>?_) (λ_=>Q6 no))
   ·exact QN _ (Qcv (n:=nF yb) (ya:=(ya.2.2.2.1,())) (yb:=(yb.2.2.2.1,())) _ _ _ (by omega) (by rw [q1];exact i1) (by rw [q1];exact i2) h hY.r.e) (λa b ⟨_,hK,hX⟩=>Q6 (PF.of (cf:=cf) (m:=m+1) (ya:=(ya.1,ya.2.1,ya.2.2.1,a.2.1.2.1,ya.2.2.2.2)) (yb:=(yb.1,yb.2.1,yb.2.2.1,b.2.1.2.1,yb.2.2.2.2)) hK ⟨hY.s,⟨hY.r.t,hY.r.d,hX,hY.r.f,hY.r.m,hY.r.p⟩⟩ (by omega)))
   ·exact QN _ (Qck _ _ _ _ (by rw [q5];exact q3) (by rw [q1];exact i1) (by rw [q1];exact i2) (by omega) h hY) (λa b ⟨_,hP⟩=>Q6 hP)
 ·obtain ⟨hK,hR⟩:=h
  have e:=hK.eq
  rw [e] at hK
  refine Q6 ⟨rfl,?_⟩
  rw [e]
  exact PF.drop hδ hK hR (Nat.le_refl _)
theorem outs0 {c:Cx} {δ:Dl} {n:Sz} {K0:Q8×Nat} {K:Q1} (h:KR c δ n K0 (QM c δ K) K):KR c δ n (K0.1,0) (QM c δ (Q1.Q13 K [])) (Q1.Q13 K []):=⟨rfl,⟨h.ok.Q11,h.ok.s,h.ok.f,h.ok.all⟩,h.Q11,Nat.le_refl 0,h.dr⟩
abbrev QaR (c:Cx) (δ:Dl) (cf:Q8) (a b:(List QJ×Unit)×(Q1×YF)×Unit):Prop:=a.1=b.1/\b.1.1=b.2.1.1.Q2j/\PF c δ cf 24 a.2.1.1 b.2.1.1 a.2.1.2 b.2.1.2
theorem Q7B {c:Cx} {δ:Dl} {cf:Q8} {m:Nat} {x y:Option (Unit×Q1×YF)} (hm:m<=24) (h:Tw x y (λa b=>PF c δ cf m a.2.1 b.2.1 a.2.2 b.2.2)):Tw (Q0 x none λr=>some ((r.2.1.Q2j,()),(r.2,()))) (Q0 y none λr=>some ((r.2.1.Q2j,()),(r.2,()))) (QaR c δ cf):=by
 obtain ⟨a,b,rfl,rfl,δ',cf',hd,hs,hK,hR⟩:=h
 exact Q6 ⟨by rw [show a.2.1=QM c δ' b.2.1 from hK.eq];rfl,rfl,δ',cf',hd,hs,hK.more hm,hR⟩
theorem Q9r (cf:Q8):Tot (K59 cf) (λr=>r.1.1=0->Q3G cf):=by
 obtain ⟨x,hx,_⟩:=(ee (x:=K59 cf))
 refine ⟨x,hx,λh=>⟨?_⟩⟩
 obtain ⟨⟨z,u⟩,w,w'⟩:=x
 have h:z=0:=h
 subst h
 exact hx
theorem QdT {c:Cx} {δ:Dl} {cf:Q8} {m:Nat} {K:Q1} {ya yb:YF} (hδ:Dr δ) (e:Qz) (he:Q4N e.Q3h) (h:KR c δ (nF yb) (cf,m) (QM c δ K) K) (hY:RF c ya yb):
  Tw (K17 e (QM c δ K) ya.1 ya.2.1 ya.2.2.1 ya.2.2.2.1 ya.2.2.2.2.1 ya.2.2.2.2.2.1 ya.2.2.2.2.2.2.1) (K17 e K yb.1 yb.2.1 yb.2.2.1 yb.2.2.2.1 yb.2.2.2.2.1 yb.2.2.2.2.2.1 yb.2.2.2.2.2.2.1) (QaR c δ cf):=by
 have h0:=outs0 h
 have hc:K.Qo=cf:=h.Q11
 have hck:Q3G cf:=by rw [←hc];exact h.ok.Q11
 have drop:PF c δ cf 24 (Q1.Q13 (Q1.Q4b (QM c δ K) (Q4 .i64 (QM c δ K).Q2h 1)) []) (Q1.Q13 (Q1.Q4b K (Q4 .i64 K.Q2h 1)) []) ya yb:=
  ⟨D1 δ,cf,DN.one δ,Q2D.rfl' _,⟨Q5H rfl (λ_=>rfl) rfl rfl rfl rfl rfl rfl (hδ _).symm rfl,⟨h.ok.Q11,h.ok.s,h.ok.f,h.ok.all⟩,h.Q11,Nat.zero_le 24,by show Q4 .i64 K.Q2h 1=Q4 .i64 δ.d 1;rw [h.dr]⟩,hY⟩
 have turn:∀ev,Tw (Q0 (K43 e.QW ev (Q1.Q13 (QM c δ K) (Qn QJ)) ya.2.1 ya.2.2.1 ya.2.2.2.1 ya.2.2.2.2.2.1 ya.2.2.2.2.2.2.1) none λr=>some ((),(r.2.1.1,(ya.1,(r.2.1.2.1,(r.2.1.2.2.1,(r.2.1.2.2.2.1,(ya.2.2.2.2.1,r.2.1.2.2.2.2))))))))
   (Q0 (K43 e.QW ev (Q1.Q13 K (Qn QJ)) yb.2.1 yb.2.2.1 yb.2.2.2.1 yb.2.2.2.2.2.1 yb.2.2.2.2.2.2.1) none λr=>some ((),(r.2.1.1,(yb.1,(r.2.1.2.1,(r.2.1.2.2.1,(r.2.1.2.2.2.1,(yb.2.2.2.2.1,r.2.1.2.2.2.2)))))))) (λa b=>PF c δ cf 0 a.2.1 b.2.1 a.2.2 b.2.2):=λev=>by
  refine QN _ (Qbr (n:=nF yb) (ya:=(ya.2.1,ya.2.2.1,ya.2.2.2.1,ya.2.2.2.2.2.1,ya.2.2.2.2.2.2.1,())) (yb:=(yb.2.1,yb.2.2.1,yb.2.2.2.1,yb.2.2.2.2.2.1,yb.2.2.2.2.2.2.1,())) e.QW ev h0 ⟨hY.r.t,hY.r.d,hY.r.e,hY.r.m,hY.r.p⟩) (λa b ⟨_,hK,hX⟩=>?_)
  exact Q6 (PF.of (m:=0) (cf:=cf) (ya:=(ya.1,a.2.1.2.1,a.2.1.2.2.1,a.2.1.2.2.2.1,ya.2.2.2.2.1,a.2.1.2.2.2.2)) (yb:=(yb.1,b.2.1.2.1,b.2.1.2.2.1,b.2.1.2.2.2.1,yb.2.2.2.2.1,b.2.1.2.2.2.2)) hK ⟨hY.s,⟨hX.t,hX.d,hX.e,hY.r.f,hX.m,hX.p⟩⟩ (Nat.le_refl 0))
 have beg:∀cf',Q3G cf'->Q2D cf cf'->Tw (Q0 (Q0 (K23 cf' (Q1.Q13 (QM c δ K) (Qn QJ)) ya.1 ya.2.1 ya.2.2.1 ya.2.2.2.1 ya.2.2.2.2.1 ya.2.2.2.2.2.1 ya.2.2.2.2.2.2.1) none λr=>some ((),r.2.1)) none λr=>some ((r.2.1.Q2j,()),(r.2,())))
   (Q0 (Q0 (K23 cf' (Q1.Q13 K (Qn QJ)) yb.1 yb.2.1 yb.2.2.1 yb.2.2.2.1 yb.2.2.2.2.1 yb.2.2.2.2.2.1 yb.2.2.2.2.2.2.1) none λr=>some ((),r.2.1)) none λr=>some ((r.2.1.Q2j,()),(r.2,()))) (QaR c δ cf):=λcf' hk hs=>by
  refine Q7B (m:=0) (Nat.zero_le 24) (QN _ (Q7E (m:=0) (A:=Q1.Q13 (QM c δ K) (Qn QJ)) (B:=Q1.Q13 K (Qn QJ)) hk rfl (Nat.le_refl 0) hY) (λa b ⟨_,hK,hR⟩=>Q6 ⟨D0,cf',DN.zero δ,hs,hK,hR⟩))
 unfold K17 K17.gen
 refine Qx (λ_=>?_) (λ_=>Qx (λ_=>?_) (λ_=>Qx (λ_=>?_) (λ_=>Qx (λ_=>?_) (λ_=>Qx (λ_=>?_) (λ_=>Qx (λ_=>?_) (λ_=>Qx (λ_=>?_) (λ_=>?_)))))))
 ·have ht:=Qeb (ya:=ya.2) (yb:=yb.2) (s:=yb.1.1) (Z4 true 0 (Z4 false e.Q6O 4000000000000000)) (Nat.zero_le _) h0 hY.r
  refine Q7B (m:=24) (Nat.le_refl 24) (QN _ ht (λa b ⟨_,hK,hR⟩=>?_))
  exact Q6 (PF.of (cf:=cf) (m:=0+24) (ya:=(ya.1,a.2.1.2)) (yb:=(yb.1,b.2.1.2)) hK ⟨hY.s,hR⟩ (Nat.le_refl 24))
 ·have ht:=Qdo hδ e.QW e.Q3h (Z4 true 0 (Z4 false e.Q6O 4000000000000000)) he (Nat.zero_le _) h0 hY
  exact Q7B (m:=0+16) (by decide) (QN _ ht (λa b ⟨_,hP⟩=>Q6 hP))
 ·refine Q2P (show K33 e.QW (Q1.Q13 (QM c δ K) (Qn QJ))=K33 e.QW (Q1.Q13 K (Qn QJ)) from rfl) (Q7x _ _) (λr4 h4=>?_)
  refine Q7B (m:=1) (by decide) (Qx (λhf=>?_) (λ_=>Q6 (PF.of (m:=0) (cf:=cf) h0 hY (by decide))))
  have hf:r4.1.1=false:=by cases hx:r4.1.1 with|false=>rfl|true=>rw [hx] at hf;cases hf
  obtain ⟨i1,i2⟩:=h4 hf
  have i2:e.QW<=K.Qo.Qv:=i2
  rw [hc] at i2
  have ht:=Qeu (n:=nF yb) (ya:=(ya.2.2.1,ya.2.2.2.1,())) (yb:=(yb.2.2.1,yb.2.2.2.1,())) e.QW e.fType e.Q36 (Z4 true 0 (Z4 false e.Q6O 4000000000000000)) (Nat.zero_le _) i1 i2 h0 ⟨hY.r.d,hY.r.e⟩
  refine QN _ ht (λa b ⟨_,hK,hX⟩=>?_)
  exact Q6 (PF.of (cf:=cf) (m:=0+1) (ya:=(ya.1,ya.2.1,a.2.1.2.1,a.2.1.2.2.1,ya.2.2.2.2)) (yb:=(yb.1,yb.2.1,b.2.1.2.1,b.2.1.2.2.1,yb.2.2.2.2)) hK ⟨hY.s,⟨hY.r.t,hX.1,hX.2,hY.r.f,hY.r.m,hY.r.p⟩⟩ (Nat.le_refl 1))
 ·refine QN (λa b=>a=b/\(b.1=false->Q3G K.Qo)) (Q2P (show K59 (QM c δ K).Qo=K59 K.Qo from rfl) (Q9r _) (λr7 h7=>Qx (λ_=>Q6 ⟨rfl,λh=>by cases h⟩) (λhz=>?_))) (λr8 r8' ⟨e8,h8⟩=>?_)
  ·have hk:=h7 (by unfold ine at hz;simpa using hz)
   exact Qx (λ_=>Q6 ⟨rfl,λ_=>hk⟩) (λ_=>Q6 ⟨rfl,λ_=>hk⟩)
  subst e8
  refine Qx (λ_=>Q6 ⟨rfl,rfl,drop⟩) (λhf=>?_)
  have:=beg K.Qo (h8 hf) (by rw [hc];exact Q2D.rfl' _)
  exact this
 ·refine QN (λa b=>a=b/\(b.1=false->Q3G e.QS/\Q2D cf e.QS)) (Qs (Q9r _) (λr7 h7=>Qx (λ_=>Q6 ⟨rfl,λh=>by cases h⟩) (λhz=>?_))) (λr8 r8' ⟨e8,h8⟩=>?_)
  ·have hk:=h7 (by unfold ine at hz;simpa using hz)
   refine Qx (λ_=>Q6 ⟨rfl,λh=>by cases h⟩) (λh1=>Q6 ⟨rfl,λh2=>⟨hk,?_,?_⟩⟩)
   ·have h1:ine e.QS.QF K.Qo.QF=false:=h1
    have:e.QS.QF=K.Qo.QF:=by unfold ine at h1;simpa using h1
    rw [this,hc]
   ·have h2:ine e.QS.Qv K.Qo.Qv=false:=h2
    have:e.QS.Qv=K.Qo.Qv:=by unfold ine at h2;simpa using h2
    rw [this,hc]
  subst e8
  refine Qx (λ_=>Q6 ⟨rfl,rfl,drop⟩) (λhf=>?_)
  obtain ⟨k1,k2⟩:=h8 hf
  exact beg e.QS k1 k2
 ·exact Q7B (m:=0) (by decide) (turn 2)
 ·exact Q7B (m:=0) (by decide) (turn 3)
 ·exact Q6 ⟨rfl,rfl,PF.of (m:=0) (cf:=cf) h0 hY (Nat.zero_le 24)⟩
theorem Q6l (v n:Int) (hn:0 < n) (hn2:n<=4611686018427387904):K93 v n=some ((v % n,()),(),()):=by
 have h1:ine n 0=true:=Q7T (by omega)
 have h2:=Int.emod_nonneg v (Int.ne_of_gt hn)
 have h3:=Int.emod_lt_of_pos v hn
 obtain ⟨h4,h5⟩:=QaN v n hn
 unfold K93 K93.gen
 rw [h1]
 simp only [cond_true,Qq]
 by_cases hc:v.tmod n < 0
 ·have e:Q4 .i64 (Q5Q v n) n=v % n:=by
   have:=h4 hc
   rw [Q1g] <;> simp only [Q5Q] <;> omega
  rw [show ilt (Q5Q v n) 0=true from Q78 hc,e];simp only [cond_true,Qq]
 ·rw [show ilt (Q5Q v n) 0=false from Q4J hc,show Q5Q v n=v % n from h5 hc];simp only [cond_false,Qq]
theorem Q5i (i:Nat) (n:Int) (l:List Int) (h0:0 < n) (hn:n<=1000):Tot (K92 (i:Int) n l) (λr=>r.1.1 < n):=by
 unfold K92 K92.gen
 refine Qa (λh=>?_) (λ_=>Q2 (by show (-1:Int) < n;omega))
 have h:=Q2m h
 unfold ofN at h
 refine QR (Q1C (by omega) h) (Q3 (λr=>r.1.1 < n) ⟨_,Q6l _ _ h0 (by omega),Int.emod_lt_of_pos _ h0⟩ (λr hr=>Q2 hr))
theorem QbC (id:Int) (l:List Int):Tot (K91 id l) (λ_=>True):=by
 unfold K91 K91.gen
 refine Q3 (λ_=>True) ⟨_,Q6l _ _ (by decide) (by decide),trivial⟩ (λ_ _=>?_)
 refine Q3 _ ee (λ_ _=>?_)
 refine Q3 _ (Q5i 0 4 _ (by decide) (by decide)) (λ_ _=>Q3 (λ_=>True) (Qa (λ_=>Q2 trivial) (λ_=>Q2 trivial)) (λ_ _=>?_))
 refine Q3 _ (Q5i 1 4 _ (by decide) (by decide)) (λ_ _=>Q3 (λ_=>True) (Qa (λ_=>Q2 trivial) (λ_=>Q2 trivial)) (λ_ _=>?_))
 refine Q3 _ (Q5i 2 3 _ (by decide) (by decide)) (λ_ hr=>Q3 (λ_=>True) (Qa (λh=>QR (Q1C (Q54 h) hr) (Q2 trivial)) (λ_=>Q2 trivial)) (λ_ _=>?_))
 refine Q3 _ (Q5i 3 4 _ (by decide) (by decide)) (λ_ _=>Q3 (λ_=>True) (Qa (λ_=>Q2 trivial) (λ_=>Q2 trivial)) (λ_ _=>?_))
 refine Q3 _ (Q5i 4 4 _ (by decide) (by decide)) (λ_ _=>Q3 (λ_=>True) (Qa (λ_=>Q2 trivial) (λ_=>Q2 trivial)) (λ_ _=>?_))
 refine Q3 _ (Q5i 5 4 _ (by decide) (by decide)) (λ_ _=>Q3 (λ_=>True) (Qa (λ_=>Q2 trivial) (λ_=>Q2 trivial)) (λ_ _=>?_))
 refine Q3 _ (Q5i 6 4 _ (by decide) (by decide)) (λ_ _=>Q3 (λ_=>True) (Qa (λ_=>Q2 trivial) (λ_=>Q2 trivial)) (λ_ _=>?_))
 refine Q3 _ (Q5i 7 16 _ (by decide) (by decide)) (λ_ _=>Q3 (λ_=>True) (Qa (λ_=>Q2 trivial) (λ_=>Q2 trivial)) (λ_ _=>?_))
 refine Q3 _ (Q5i 8 5 _ (by decide) (by decide)) (λ_ hr=>Q3 (λ_=>True) (Qa (λh=>QR (Q1C (Q54 h) hr) (Q2 trivial)) (λ_=>Q2 trivial)) (λ_ _=>?_))
 refine Q3 _ (Q5i 9 6 _ (by decide) (by decide)) (λ_ _=>Q3 (λ_=>True) (Qa (λ_=>Q2 trivial) (λ_=>Q2 trivial)) (λ_ _=>?_))
 exact Q3 _ (Q5i 10 15 _ (by decide) (by decide)) (λ_ _=>Q3 (λ_=>True) (Qa (λ_=>Q2 trivial) (λ_=>Q2 trivial)) (λ_ _=>Q2 trivial))
theorem Qat (x:QD):Tot (Q1S x) (λr=>r.1.1=true->x.fE.Q3h.size<=600):=by
 unfold Q1S Q1S.gen
 refine Qa (λh=>Q2 λ_=>?_) (λ_=>Q2 λh=>by cases h)
 have:=Q54 h
 unfold ofN at this
 omega
theorem Q5G {b:List UInt8} {k:Nat} (v n:Int) (hb:1<=b.length/\b.length<=k) (hk:k<=10000000):Tot (QG b v n) (λr=>1<=r.1.1.length/\r.1.1.length<=k+8):=Q7M (QbO b v n (by omega)) λr hr=>by have:=hr.1;have:=hr.2;omega
theorem QdZ {b:List UInt8} {k:Nat} (p:Qf) (hb:1<=b.length/\b.length<=k) (hk:k<=1000000):Tot (K90 b p) (λr=>1<=r.1.1.length/\r.1.1.length<=k+16):=by
 unfold K90 K90.gen Q1U Q1U.gen
 exact Q3 (λr=>1<=r.1.1.length/\r.1.1.length<=k+8) (Q3 _ (Q5G _ _ hb (by omega)) (λr hr=>Q2 hr)) (λr hr=>Q3 _ (Q5G _ _ hr (by omega)) (λr hr=>Q2 hr))
theorem QeL (m:Q9) (n:Int):Tot (K83 m n) (λr=>r.1.1.length<=200/\(r.1.2.1=true->1<=r.1.1.length)):=by
 unfold K83 K83.gen
 refine Q3 (λ_=>True) (Q3 _ ee (λr0 _=>Qa (λ_=>Q2 trivial) (λ_=>Q3 _ (QcL _ _ _) (λ_ _=>Q2 trivial)))) (λr2 _=>Qa (λ_=>Q2 ⟨Nat.zero_le _,λh=>by cases h⟩) (λ_=>?_))
 have hb:1<=(UInt8.ofNat (Int.toNat (IntKind.wrap IntKind.u8 m.fType))::UInt8.ofNat (Int.toNat 18)::Qn UInt8).length/\(UInt8.ofNat (Int.toNat (IntKind.wrap IntKind.u8 m.fType))::UInt8.ofNat (Int.toNat 18)::Qn UInt8).length<=2:=⟨Nat.le_add_left _ _,Nat.le_refl _⟩
 exact Q3 _ (Q5G _ _ hb (by omega)) (λr hr=>Q3 _ (Q5G _ _ hr (by omega)) (λr hr=>Q3 _ (Q5G _ _ hr (by omega)) (λr hr=>Q3 _ (Q5G _ _ hr (by omega)) (λr hr=>Q3 _ (Q5G _ _ hr (by omega)) (λr hr=>Q3 _ (Q5G _ _ hr (by omega)) (λr hr=>Q3 _ (QdZ _ hr (by omega)) (λr hr=>Q3 _ (Q5G _ _ hr (by omega)) (λr hr=>Q3 _ ee (λr11 _=>Q3 _ (Q5G _ _ hr (by omega)) (λr hr=>Q3 _ (Q5G _ _ hr (by omega)) (λr hr=>Q2 ⟨by show r.1.1.length<=200;omega,λ_=>hr.1⟩)))))))))))
theorem QdO (m:Q9) (l:List Qi):Tot (K79 m l) (λr=>r.1.1.size<=30000/\(r.1.2.1=true->1<=r.1.1.size)):=by
 have hn:ByteArray.size (ByteArray.mk (List.toArray (Qn UInt8)))<=30000:=by decide
 have no:∀{x:Bool},x=false->ByteArray.size (ByteArray.mk (List.toArray (Qn UInt8)))<=30000/\(x=true->1<=ByteArray.size (ByteArray.mk (List.toArray (Qn UInt8)))):=λh=>⟨hn,λh2=>by rw [h] at h2;cases h2⟩
 unfold K79 K79.gen
 refine Q3 _ (Qbx _ _ (by decide)) (λr0 h0=>Qa (λ_=>Q2 (no rfl)) (λ_=>Q3 _ (QbH _ _ (by omega)) (λr1 h1=>Qa (λ_=>Q2 (no rfl)) (λ_=>Q3 _ (QeL _ _) (λr2 ⟨h2,h3⟩=>Qa (λ_=>Q2 (no rfl)) (λhf=>QR ?_ (Q2 ?_)))))))
 ·apply Nat.ble_eq_true_of_le
  have e1:ByteArray.size (ByteArray.mk (List.toArray r2.1.1))=r2.1.1.length:=Q6X _
  have e2:ByteArray.size (ByteArray.mk (List.toArray r1.1.1))=r1.1.1.length:=Q6X _
  rw [e1,e2]
  omega
 ·have hp:=h3 (by cases hx:r2.1.2.1 with|true=>rfl|false=>rw [hx] at hf;cases hf)
  show (bs r2.1.1++bs r1.1.1).size<=30000/\(true=true->1<=(bs r2.1.1++bs r1.1.1).size)
  rw [QbX,Q6X,List.length_append]
  exact ⟨by omega,λ_=>by omega⟩
abbrev Q6T (l:List Qz):Prop:=l.length<=41/\∀e∈l,Q4N e.Q3h
theorem Q6T.one {e:Qz} (h:Q4N e.Q3h):Q6T (e::Qn Qz):=⟨by show 1<=41;decide,λx hx=>by
 simp only [Qn,List.mem_cons,List.not_mem_nil,or_false] at hx
 subst hx;exact h⟩
theorem Qad (x:QD) (hx:x.fE.Q3h.size<=600):Tot (K98 x) (λr=>Q6T r.1.1):=by
 have hb:Q4N x.fE.Q3h:=by unfold Q4N;omega
 unfold K98 K98.gen
 refine Q3 (λ_=>True) ⟨_,Q6l _ _ (by decide) (by decide),trivial⟩ (λr0 _=>Qa (λ_=>?_) (λ_=>Qa (λ_=>?_) (λ_=>Qa (λ_=>Q2 (Q6T.one hb)) (λ_=>Q2 (Q6T.one hb)))))
 ·refine Q3 (λr=>Q6T r.1.1) ?_ (λr hr=>Q2 hr)
  have hp:K93 x.fN 40=some ((x.fN % 40,()),(),()):=Q6l _ _ (by decide) (by decide)
  have h0:0<=x.fN % 40:=Int.emod_nonneg _ (by decide)
  have h1:x.fN % 40 < 40:=Int.emod_lt_of_pos _ (by decide)
  unfold K98.F0
  refine Q22 (λa=>a.2.1=x/\0<=a.1.2.1/\(a.1.1.length:Int)=a.1.2.1/\a.1.2.1<=x.fN % 40+1/\∀e∈a.1.1,Q4N e.Q3h) (λa=>(41 - a.1.2.1).toNat) (λa ⟨g1,g2,g3,g4,g5⟩=>?_) _ _ ⟨rfl,Int.le_refl 0,rfl,by show 0<=x.fN % 40+1;omega,λe he=>by cases he⟩ (by simp only [];omega)
  unfold K98.QO
  rw [g1,hp,Qq]
  refine Qa (λh=>?_) (λ_=>Q2 ⟨by show a.1.1.length<=41;omega,g5⟩)
  have h:=Q54 h
  have h:a.1.2.1<=x.fN % 40:=h
  refine QR (Q2W (by simp only [List.length_cons,Qn,List.length_nil];omega)) (Q2 ?_)
  rw [Q1g (by omega)]
  refine ⟨⟨g1,?_,?_,?_,λe he=>?_⟩,?_⟩
  ·show 0<=a.1.2.1+1;omega
  ·show ((a.1.1++_::Qn Qz).length:Int)=a.1.2.1+1
   simp only [List.length_append,List.length_cons,Qn,List.length_nil];omega
  ·show a.1.2.1+1<=x.fN % 40+1;omega
  ·rcases List.mem_append.1 he with he|he
   ·exact g5 e he
   ·simp only [Qn,List.mem_cons,List.not_mem_nil,or_false] at he
    subst he;exact hb
  ·show (41 - (a.1.2.1+1)).toNat < (41 - a.1.2.1).toNat;omega
 ·refine Q3 _ (QdO _ _) (λr2 ⟨h2,hpos⟩=>Q3 (λr=>r.1=true->r2.1.2.1=true) (Qa (λh=>Q2 λ_=>h) (λ_=>Q2 λh=>by cases h)) (λr3 h3=>Q3 (λr=>Q4N r.1.1/\r.2.1.Q3h=x.fE.Q3h) ?_ (λr5 ⟨h5,h6⟩=>Q3 (λr=>Q4N r.2.1.Q3h) (Qa (λ_=>Q2 h5) (λ_=>Q2 (by show Q4N r5.2.1.Q3h;rw [h6];exact hb))) (λr6 hr6=>Q2 (Q6T.one hr6)))))
  refine Qa (λh=>?_) (λ_=>Q2 ⟨by show r2.1.1.size<=1000000;omega,rfl⟩)
  have hs:=hpos (h3 h)
  have h0:0<=x.fAt % ofN r2.1.1.size:=Int.emod_nonneg _ (by unfold ofN;omega)
  have h1:x.fAt % ofN r2.1.1.size < ofN r2.1.1.size:=Int.emod_lt_of_pos _ (by unfold ofN;omega)
  refine Q3 (λr=>0<=r.1.1/\r.1.1 < (r2.1.1.size:Int)) ⟨_,Q6l _ _ (by unfold ofN;omega) (by unfold ofN;omega),h0,h1⟩ (λr4 ⟨g0,g1⟩=>QR (Q1C g0 g1) (QR (Q1C g0 g1) (Q2 ⟨?_,rfl⟩)))
  show (List.toArray (List.map _ (List.range r2.1.1.size))).size<=1000000
  rw [List.size_toArray,List.length_map,List.length_range]
  omega
abbrev St:=(Fm Q1)×YF
structure Live (c:Cx) (δ:Dl) (k1 k2:Nat) (cf:Q8) (A B:St):Prop where
 k:KR c δ (nF B.2) (cf,0) (Q1.Q13 (A.1.2 k1) []) (Q1.Q13 (B.1.2 k2) [])
 y:RF c A.2 B.2
noncomputable def Q6C (e:Qz) (k:Nat) (A:St):Option ((List QJ×Unit)×(Q1×YF)×Unit):=K17 e (A.1.2 k) A.2.1 A.2.2.1 A.2.2.2.1 A.2.2.2.2.1 A.2.2.2.2.2.1 A.2.2.2.2.2.2.1 A.2.2.2.2.2.2.2.1
def Q4R (A:St) (k:Nat) (r:Q1×YF):St:=((A.1.1,Qr A.1.2 k r.1),r.2)
theorem Q5b {α:Type} (f:Nat->α) (i:Nat) (x:α):Qr f i x i=x:=if_pos rfl
theorem Q5c {α:Type} (f:Nat->α) {i j:Nat} (x:α) (h:j≠i):Qr f i x j=f j:=if_neg h
theorem Q9B {c:Cx} {δ:Dl} {k1 k2:Nat} {cf:Q8} {A B:St} (hδ:Dr δ) (e:Qz) (he:Q4N e.Q3h) (h:Live c δ k1 k2 cf A B):
  ∃o K1 Y1 K2 Y2 δ' cf',Q6C e k1 A=some ((o,()),(K1,Y1),())/\Q6C e k2 B=some ((o,()),(K2,Y2),())/\DN δ δ'/\Q2D cf cf'/\Live c δ' k1 k2 cf' (Q4R A k1 (K1,Y1)) (Q4R B k2 (K2,Y2))/\o=K2.Q2j/\o.length<=24:=by
 obtain ⟨hk,hy⟩:=h
 have e1:=hk.eq
 rw [e1] at hk
 obtain ⟨⟨⟨o,u⟩,⟨K1,Y1⟩,u2⟩,⟨⟨o',u'⟩,⟨K2,Y2⟩,u2'⟩,h1,h2,h3,h4,δ',cf',h5,h6,h7,h8⟩:=QdT hδ e he hk hy
 have h3:o=o':=congrArg (·.1) h3
 subst h3
 have h4:o=K2.Q2j:=h4
 have h7:KR c δ' (nF Y2) (cf',24) K1 K2:=h7
 refine ⟨o,K1,Y1,K2,Y2,δ',cf',?_,h2,h5,h6,⟨?_,h8⟩,h4,by rw [h4];exact h7.outs⟩
 ·rw [←e1] at h1;exact h1
 ·show KR c δ' (nF Y2) (cf',0) (Q1.Q13 (Qr A.1.2 k1 K1 k1) []) (Q1.Q13 (Qr B.1.2 k2 K2 k2) [])
  rw [Q5b,Q5b]
  refine ⟨?_,⟨h7.ok.Q11,h7.ok.s,h7.ok.f,h7.ok.all⟩,h7.Q11,Nat.le_refl 0,h7.dr⟩
  rw [show K1=QM c δ' K2 from h7.eq];rfl
structure Kept (k:Nat) (A0 A:St):Prop where
 n:A.1.1=A0.1.1
 f:∀q,q≠k->A.1.2 q=A0.1.2 q
theorem Kept.put {k:Nat} {A0 A:St} (h:Kept k A0 A) (r:Q1×YF):Kept k A0 (Q4R A k r):=⟨h.n,λq hq=>by
 show Qr A.1.2 k r.1 q=_
 rw [Q5c _ _ hq];exact h.f q hq⟩
theorem DN.bound {δ δ':Dl} (h:DN δ δ') {n:Int} (h0:0<=δ.d) (h1:δ.d<=n) (hn:n<=1000000):0<=δ'.d/\δ'.d<=n+1:=by
 rcases h.d with e|e|e
 ·rw [e];omega
 ·rw [e,Q1g (by omega)];omega
 ·rw [e];omega
theorem DN.fid {δ δ':Dl} (h:DN δ δ') (hf:δ.f=id):δ'.f=id:=by
 rcases h.f with e|e
 ·rw [e];exact hf
 ·exact e
theorem Dr.fid {δ:Dl} (h:δ.f=id):Dr δ:=λx=>by rw [h];rfl
abbrev PNew (c:Cx) (cf:Q8) (A B:St) (a b:(Option Nat×Int×Unit)×St×Unit):Prop:=a.1.2=b.1.2/\((b.1.2.1≠0/\¬Q3G cf/\a.1.1=none/\b.1.1=none/\a.2.1=A/\b.2.1=B)\/
 (b.1.2.1=0/\a.1.1=some A.1.1/\b.1.1=some B.1.1/\Kept A.1.1 ((A.1.1+1,A.1.2),A.2) a.2.1/\Kept B.1.1 ((B.1.1+1,B.1.2),B.2) b.2.1/\Live c D0 A.1.1 B.1.1 cf a.2.1 b.2.1))
theorem QeH {c:Cx} {A B:St} (cf:Q8) (hY:RF c A.2 B.2):Tw (K44 cf A.1 A.2.1 A.2.2.1 A.2.2.2.1 A.2.2.2.2.1 A.2.2.2.2.2.1 A.2.2.2.2.2.2.1 A.2.2.2.2.2.2.2.1) (K44 cf B.1 B.2.1 B.2.2.1 B.2.2.2.1 B.2.2.2.2.1 B.2.2.2.2.2.1 B.2.2.2.2.2.2.1 B.2.2.2.2.2.2.2.1) (PNew c cf A B):=by
 unfold K44 K44.gen
 obtain ⟨r0,h0,h1⟩:=Q9r cf
 rw [h0,Qq,Qq]
 refine Qx (λhz=>Q6 ⟨rfl,.inl ⟨Qax.1 hz,λhk=>?_,rfl,rfl,rfl,rfl⟩⟩) (λhz=>?_)
 ·have:=hk.out
  rw [h0] at this
  cases this
  cases hz
 ·have hk:=h1 (by unfold ine at hz;simpa using hz)
  rw [Q5b,Q5b]
  refine QN _ (Q7E (m:=0) hk rfl (Nat.le_refl 0) hY) (λa b ⟨_,hK,hR⟩=>Q6 ⟨rfl,.inr ⟨rfl,rfl,rfl,⟨rfl,λq hq=>?_⟩,⟨rfl,λq hq=>?_⟩,⟨?_,hR⟩⟩⟩)
  ·show Qr (Qr A.1.2 A.1.1 _) A.1.1 _ q=A.1.2 q
   rw [Q5c _ _ hq,Q5c _ _ hq]
  ·show Qr (Qr B.1.2 B.1.1 _) B.1.1 _ q=B.1.2 q
   rw [Q5c _ _ hq,Q5c _ _ hq]
  ·show KR c D0 _ (cf,0) (Q1.Q13 (Qr (Qr A.1.2 A.1.1 _) A.1.1 _ A.1.1) []) (Q1.Q13 (Qr (Qr B.1.2 B.1.1 _) B.1.1 _ B.1.1) [])
   rw [Q5b,Q5b]
   refine ⟨?_,⟨hK.ok.Q11,hK.ok.s,hK.ok.f,hK.ok.all⟩,hK.Q11,Nat.le_refl 0,hK.dr⟩
   rw [show a.2.1.1=QM c D0 b.2.1.1 from hK.eq];rfl
theorem Qcp {c:Cx} {δ:Dl} {k1 k2:Nat} {cf:Q8} {A B A0 B0:St} (s:List QD) (mo i:Int) (l:List Qz) (hl:Q6T l) (D:Int) (hD:D<=100000) (hf:δ.f=id) (d0:0<=δ.d) (d1:δ.d<=D) (h:Live c δ k1 k2 cf A B) (hA:Kept k1 A0 A) (hB:Kept k2 B0 B):
  Tw (K99.F1 ((s,mo,some k1,i,l,0,()),A)) (K99.F1 ((s,mo,some k2,i,l,0,()),B)) (λa b=>a.1=(s,mo,some k1,i,())/\b.1=(s,mo,some k2,i,())/\∃δ' cf',δ'.f=id/\0<=δ'.d/\δ'.d<=D+41/\Q2D cf cf'/\Live c δ' k1 k2 cf' a.2 b.2/\Kept k1 A0 a.2/\Kept k2 B0 b.2):=by
 unfold K99.F1
 refine Q4z (λa b=>∃j:Int,a.1=(s,mo,some k1,i,l,j,())/\b.1=(s,mo,some k2,i,l,j,())/\0<=j/\j<=(l.length:Int)/\∃δ' cf',δ'.f=id/\0<=δ'.d/\δ'.d<=D+j/\Q2D cf cf'/\Live c δ' k1 k2 cf' a.2 b.2/\Kept k1 A0 a.2/\Kept k2 B0 b.2) (λb=>((l.length:Int) - b.1.2.2.2.2.2.1).toNat) (λa b ⟨j,e1,e2,j0,j1,δ',cf',f1,f2,f3,f4,hL,kA,kB⟩=>?_) _ _ _ ⟨0,rfl,rfl,Int.le_refl 0,by omega,δ,cf,hf,d0,by omega,Q2D.rfl' _,h,hA,hB⟩ (by have:=hl.1;simp only [];omega)
 unfold K99.Q2A
 have l41:=hl.1
 rw [e1,e2]
 dsimp only
 refine Qx (λhh=>?_) (λ_=>Q6 ⟨rfl,rfl,δ',cf',f1,f2,by omega,f4,hL,kA,kB⟩)
 have hh:=Q2m hh
 unfold ofN at hh
 have hmem:List.getD l (Int.toNat j) Qz.zero∈l:=Q7b (by omega)
 obtain ⟨o,K1,Y1,K2,Y2,δ2,cf2,s1,s2,s3,s4,s5,_⟩:=Q9B (Dr.fid f1) _ (hl.2 _ hmem) hL
 refine Q2z (Q1C j0 hh) ?_
 rw [Qq,Qq]
 unfold Q6C at s1 s2
 rw [s1,s2]
 simp only [Qq]
 rw [Q1g (by omega)]
 obtain ⟨b1,b2⟩:=s3.bound f2 f3 (by omega)
 refine Q6 ⟨⟨j+1,rfl,rfl,by omega,by omega,δ2,cf2,s3.fid f1,b1,by omega,⟨s4.clock.trans f4.clock,s4.Q3R.trans f4.Q3R⟩,s5,kA.put (K1,Y1),kB.put (K2,Y2)⟩,?_⟩
 show ((l.length:Int) - (j+1)).toNat < ((l.length:Int) - j).toNat
 omega
def PPl (c:Cx) (cf0:Q8->Prop) (most:Int) (A B:St) (a b:(Option Nat×Unit)×St×Unit):Prop:=
 (a.1.1=none/\b.1.1=none/\a.2.1=A/\b.2.1=B/\∀cf,cf0 cf->¬Q3G cf)\/
 (a.1.1=some A.1.1/\b.1.1=some B.1.1/\Kept A.1.1 ((A.1.1+1,A.1.2),A.2) a.2.1/\Kept B.1.1 ((B.1.1+1,B.1.2),B.2) b.2.1/\∃δ cf,δ.f=id/\0<=δ.d/\δ.d<=41*most/\Live c δ A.1.1 B.1.1 cf a.2.1 b.2.1)
theorem Qcs {c:Cx} {A B:St} (id':Int) (l:List Int) (s:List QD) (most:Int) (hm0:0<=most) (hm:most<=100) (hY:RF c A.2 B.2):
  Tw (K99 id' l s most A.1 A.2.1 A.2.2.1 A.2.2.2.1 A.2.2.2.2.1 A.2.2.2.2.2.1 A.2.2.2.2.2.2.1 A.2.2.2.2.2.2.2.1) (K99 id' l s most B.1 B.2.1 B.2.2.1 B.2.2.2.1 B.2.2.2.2.1 B.2.2.2.2.2.1 B.2.2.2.2.2.2.1 B.2.2.2.2.2.2.2.1) (PPl c (λcf=>∃r,K91 id' l=some r/\r.1.1=cf) most A B):=by
 unfold K99 K99.gen
 obtain ⟨r0,h0,_⟩:=QbC id' l
 rw [h0,Qq,Qq]
 refine QN _ (QeH r0.1.1 hY) (λa b ⟨e1,hN⟩=>?_)
 rw [e1]
 rcases hN with ⟨n1,n2,n3,n4,n5,n6⟩|⟨n1,n2,n3,kA,kB,hL⟩
 ·rw [Q7T n1]
  refine Q6 (.inl ⟨rfl,rfl,n5,n6,λcf ⟨r,hr,e⟩=>?_⟩)
  cases hr
  rw [←e];exact n2
 ·rw [QbM n1,n2,n3]
  simp only [cond_false]
  refine QN (λa' b'=>a'.1.1=some A.1.1/\b'.1.1=some B.1.1/\Kept A.1.1 ((A.1.1+1,A.1.2),A.2) a'.2/\Kept B.1.1 ((B.1.1+1,B.1.2),B.2) b'.2/\∃δ cf,δ.f=id/\0<=δ.d/\δ.d<=41*most/\Live c δ A.1.1 B.1.1 cf a'.2 b'.2) ?_ (λa' b' h=>Q6 (.inr h))
  unfold K99.F0
  refine Q4z (λx y=>∃i:Int,x.1=(s,most,some A.1.1,i,())/\y.1=(s,most,some B.1.1,i,())/\0<=i/\i<=most/\∃δ cf,δ.f=id/\0<=δ.d/\δ.d<=41*i/\Live c δ A.1.1 B.1.1 cf x.2 y.2/\Kept A.1.1 ((A.1.1+1,A.1.2),A.2) x.2/\Kept B.1.1 ((B.1.1+1,B.1.2),B.2) y.2) (λy=>(most - y.1.2.2.2.1).toNat) (λx y ⟨i,e1,e2,i0,i1,δ,cf,f1,f2,f3,hL,kA,kB⟩=>?_) _ _ _ ⟨0,rfl,rfl,Int.le_refl 0,hm0,D0,r0.1.1,rfl,Int.le_refl 0,Int.le_refl 0,hL,kA,kB⟩ (by simp only [];omega)
  unfold K99.QO
  rw [e1,e2]
  dsimp only
  refine QN (λa b=>a=b/\(b.1=true->i < (s.length:Int)/\i < most)) (Qx (λh1=>Q6 ⟨rfl,λh2=>⟨by have:=Q2m h1;exact this,Q2m h2⟩⟩) (λ_=>Q6 ⟨rfl,λh=>by cases h⟩)) (λz z' ⟨ez,hz⟩=>?_)
  subst ez
  refine Qx (λhb=>?_) (λ_=>Q6 ⟨rfl,rfl,kA,kB,δ,cf,f1,f2,by omega,hL⟩)
  obtain ⟨z1,z2⟩:=hz hb
  have einc:Q4 .i64 i 1=i+1:=Q1g (by omega)
  refine Q2z (Q1C i0 z1) (Qs (Qat _) (λr1 hr1=>Qx (λ_=>?_) (λhs=>Q2z (Q1C i0 z1) (Qs (Qad _ (hr1 ?_)) (λr2 hr2=>QN _ (Qcp s most i r2.1.1 hr2 (41*i) (by omega) f1 f2 f3 hL kA kB) (λx' y' ⟨g1,g2,δ',cf',g3,g4,g5,g6,g7,g8,g9⟩=>?_))))))
  ·rw [einc]
   refine Q6 ⟨⟨i+1,rfl,rfl,by omega,by omega,δ,cf,f1,f2,by omega,hL,kA,kB⟩,?_⟩
   show (most - (i+1)).toNat < (most - i).toNat
   omega
  ·cases hx:r1.1.1 with|true=>rfl|false=>rw [hx] at hs;cases hs
  ·rw [g1,g2]
   dsimp only
   rw [einc]
   refine Q6 ⟨⟨i+1,rfl,rfl,by omega,by omega,δ',cf',g3,g4,by omega,g7,g8,g9⟩,?_⟩
   show (most - (i+1)).toNat < (most - i).toNat
   omega
structure Lnk {α:Type} (r:Rn α) (Inv:α->Prop) (g:Fm α):Prop where
 lt:∀x,r.L x->x < g.1->r.ρ x < g.1
 dis:∀x y,r.L x->r.L y->x < g.1->y < g.1->r.ρ x≠y
 get:∀x,r.L x->x < g.1->g.2 (r.ρ x)=g.2 x/\Inv (g.2 x)
theorem Qc0 {α:Type} {c:Rn α} {Inv:α->Prop} {g1 g2:Fm α} (h:FR c Inv g1 g2) (hb:c.b2=g1) (hd:∀x y,c.L x->c.L y->x < c.b2.1->y < c.b2.1->c.ρ x≠y) (ho:∀x,c.L x->x < c.b2.1->x < c.b1.1):Lnk c Inv g2:=by
 obtain ⟨d,s1,s2⟩:=h.size
 have e:c.b2.1=c.b1.1+d:=by rw [hb];exact s1
 have cas:∀x,c.L x->x < g2.1->(x < c.b2.1/\x < c.b1.1/\c.ρ x < c.b1.1)\/(c.b2.1<=x/\c.b1.1<=c.ρ x/\c.ρ x < c.b2.1):=λx hx hlt=>by
  by_cases hc:x < c.b2.1
  ·exact .inl ⟨hc,ho x hx hc,c.old x hx hc⟩
  ·have:=(c.fresh (x - c.b2.1)).2
   rw [show c.b2.1+(x - c.b2.1)=x by omega] at this
   exact .inr ⟨by omega,by omega,by omega⟩
 have lt2:∀x,c.L x->x < g2.1->c.ρ x < c.b2.1:=λx hx hlt=>by rcases cas x hx hlt with h|h <;> omega
 have dis:∀x y,c.L x->c.L y->x < g2.1->y < g2.1->c.ρ x≠y:=λx y hx hy hlx hly ee=>by
  rcases cas x hx hlx with h1|h1
  ·rcases cas y hy hly with h2|h2
   ·exact hd x y hx hy h1.1 h2.1 ee
   ·omega
  ·rcases cas y hy hly with h2|h2 <;> omega
 refine ⟨λx hx hlt=>?_,dis,λx hx hlt=>?_⟩
 ·have:=lt2 x hx hlt
  omega
 ·obtain ⟨g1',hi⟩:=h.get x hx hlt
  have hq:=lt2 x hx hlt
  refine ⟨?_,hi⟩
  rw [h.fr2 (c.ρ x) hq (λhL=>dis x (c.ρ x) hx hL hlt (by omega) rfl),hb]
  exact g1'
def Rn.two {α:Type} (g g1:Fm α):Rn α:=⟨λx=>g.1+(x - g1.1),λx=>g1.1<=x,g,g1,λx y hx hy h=>by omega,λi=>⟨Nat.le_add_right _ _,by omega⟩,λx h1 h2=>by omega⟩
theorem Q7a {α:Type} {Inv:α->Prop} (g g1:Fm α):FR (Rn.two g g1) Inv g g1:=⟨⟨0,rfl,rfl⟩,λx h1 h2=>absurd h1 (Nat.not_le.2 h2),λ_ _ _=>rfl,λ_ _ _=>rfl⟩
def Rn.part {α:Type} (r:Rn α) (g:Fm α) (q:Nat):Prop:=∃x,r.L x/\x < g.1/\r.ρ x=q
def Rn.on {α:Type} (P:Nat->Prop) (g:Fm α):Rn α:=⟨id,λx=>(P x/\x < g.1)\/g.1<=x,g,g,λ_ _ _ _ h=>h,λi=>⟨.inr (Nat.le_add_right _ _),rfl⟩,λx _ h=>h⟩
theorem Q7L {α:Type} {Inv:α->Prop} {P:Nat->Prop} {g:Fm α} (h:∀x,P x->x < g.1->Inv (g.2 x)):FR (Rn.on P g) Inv g g:=⟨⟨0,rfl,rfl⟩,λx hx hl=>⟨rfl,by
 rcases hx with hx|hx
 ·exact h x hx.1 hx.2
 ·have hx:g.1<=x:=hx
  exact absurd hl (Nat.not_lt.2 hx)⟩,λ_ _ _=>rfl,λ_ _ _=>rfl⟩
def Rn.re {α:Type} (r:Rn α) (g g1:Fm α) (h:∀x,r.L x->x < g.1->r.ρ x < g.1) (hle:g.1<=g1.1):Rn α where
 ρ:=λx=>if x < g1.1 then r.ρ x else g.1+(x - g1.1)
 L:=λx=>(r.L x/\x < g.1)\/g1.1<=x
 b1:=g
 b2:=g1
 inj:=λx y hx hy e=>by
  rcases hx with hx|hx
  ·have:=h x hx.1 hx.2
   rw [if_pos (by omega)] at e
   rcases hy with hy|hy
   ·rw [if_pos (by omega)] at e
    exact r.inj x y hx.1 hy.1 e
   ·rw [if_neg (by omega)] at e
    omega
  ·rw [if_neg (by omega)] at e
   rcases hy with hy|hy
   ·have:=h y hy.1 hy.2
    rw [if_pos (by omega)] at e
    omega
   ·rw [if_neg (by omega)] at e
    omega
 fresh:=λi=>⟨.inr (Nat.le_add_right _ _),by rw [if_neg (by omega)];omega⟩
 old:=λx hx hl=>by
  rw [if_pos hl]
  rcases hx with hx|hx
  ·exact h x hx.1 hx.2
  ·omega
theorem Q7X {α:Type} {r:Rn α} {Inv:α->Prop} {g g1:Fm α} (hl:Lnk r Inv g) (hle:g.1<=g1.1) (hf:∀q,q < g.1->¬r.part g q->g1.2 q=g.2 q):FR (r.re g g1 hl.lt hle) Inv g g1:=by
 refine ⟨⟨0,rfl,rfl⟩,λx hx hlt=>?_,λ_ _ _=>rfl,λ_ _ _=>rfl⟩
 rcases hx with hx|hx
 ·obtain ⟨e,hi⟩:=hl.get x hx.1 hx.2
  have e2:g1.2 x=g.2 x:=hf x hx.2 (λ⟨y,h1,h2,h3⟩=>hl.dis y x h1 hx.1 h2 hx.2 h3)
  show g.2 (if x < g1.1 then r.ρ x else g.1+(x - g1.1))=g1.2 x/\Inv (g1.2 x)
  rw [if_pos hlt,e,e2]
  exact ⟨rfl,hi⟩
 ·have hx:g1.1<=x:=hx
  omega
theorem Q7c {α:Type} {r:Rn α} {Inv:α->Prop} {g g1 g2:Fm α} (hl:Lnk r Inv g) (hle:g.1<=g1.1) (h:FR (r.re g g1 hl.lt hle) Inv g1 g2):Lnk (r.re g g1 hl.lt hle) Inv g2:=by
 refine Qc0 h rfl (λx y hx hy lx ly e=>?_) (λx hx lx=>?_)
 ·have lx:x < g1.1:=lx
  have ly:y < g1.1:=ly
  have e:(if x < g1.1 then r.ρ x else g.1+(x - g1.1))=y:=e
  rw [if_pos lx] at e
  rcases hx with hx|hx
  ·rcases hy with hy|hy
   ·exact hl.dis x y hx.1 hy.1 hx.2 hy.2 e
   ·have hy:g1.1<=y:=hy
    omega
  ·have hx:g1.1<=x:=hx
   omega
 ·rcases hx with hx|hx
  ·exact hx.2
  ·have lx:x < g1.1:=lx
   have hx:g1.1<=x:=hx
   omega
theorem Q6A {α:Type} {Inv:α->Prop} {g g1 g2:Fm α} (h:FR (Rn.two g g1) Inv g1 g2):Lnk (Rn.two g g1) Inv g2:=
 Qc0 h rfl (λx y hx _ lx _=>absurd hx (Nat.not_le.2 lx)) (λx hx lx=>absurd hx (Nat.not_le.2 lx))
structure Q5v (c:Cx) (Y:YF):Prop where
 s:Lnk c.s (λ_=>True) Y.1
 t:Lnk c.t Q2H Y.2.1
 d:Lnk c.d (λ_=>True) Y.2.2.1
 e:Lnk c.e (λ_=>True) Y.2.2.2.1
 f:Lnk c.f Q6s Y.2.2.2.2.1
 m:Lnk c.m (λ_=>True) Y.2.2.2.2.2.1
 p:Lnk c.p Q3P Y.2.2.2.2.2.2.1
structure Q6E (c:Cx) (δ:Dl) (k1 k2:Nat) (cf:Q8) (C:St):Prop where
 k:KR c δ (nF C.2) (cf,0) (Q1.Q13 (C.1.2 k1) []) (Q1.Q13 (C.1.2 k2) [])
 y:Q5v c C.2
def Cx.on (c:Cx) (Y:YF):Cx:=⟨Rn.on (c.s.part Y.1) Y.1,Rn.on (c.t.part Y.2.1) Y.2.1,Rn.on (c.d.part Y.2.2.1) Y.2.2.1,Rn.on (c.e.part Y.2.2.2.1) Y.2.2.2.1,Rn.on (c.f.part Y.2.2.2.2.1) Y.2.2.2.2.1,Rn.on (c.m.part Y.2.2.2.2.2.1) Y.2.2.2.2.2.1,Rn.on (c.p.part Y.2.2.2.2.2.2.1) Y.2.2.2.2.2.2.1⟩
theorem Q8P {α:Type} {r:Rn α} {Inv:α->Prop} {g:Fm α} (h:Lnk r Inv g):∀x,r.part g x->x < g.1->Inv (g.2 x):=λx ⟨y,h1,h2,h3⟩ _=>by
 obtain ⟨e,hi⟩:=h.get y h1 h2
 rw [←h3,e];exact hi
theorem on_RF {c:Cx} {Y:YF} (h:Q5v c Y):RF (c.on Y) Y Y:=⟨Q7L λ_ _ _=>trivial,⟨Q7L (Q8P h.t),Q7L λ_ _ _=>trivial,Q7L λ_ _ _=>trivial,Q7L (Q8P h.f),Q7L λ_ _ _=>trivial,Q7L (Q8P h.p)⟩⟩
theorem Q7S {α:Type} {r:Rn α} {Inv:α->Prop} {g:Fm α} (h:Lnk r Inv g) {x:Option Nat} (hp:Pt r g.1 x):Pt (Rn.on (r.part g) g) g.1 (x.map r.ρ):=by
 obtain ⟨i,rfl,hl,hlt⟩:=hp
 exact ⟨r.ρ i,rfl,.inl ⟨⟨i,hl,hlt,rfl⟩,h.lt i hl hlt⟩,h.lt i hl hlt⟩
theorem Qe8 {c:Cx} {δ:Dl} {Y:YF} {K:Q1} (h:Q5v c Y) (hk:KOk c (nF Y) K):KOk (c.on Y) (nF Y) (QM c δ K):=
 ⟨hk.Q11,Q7S h.s hk.s,Q7S h.f hk.f,λi=>(hk.all i).imp (λs=>⟨Q7S h.t s.t,Q7S h.p s.p,Q7S h.m s.m,Q7S h.d s.d,Q7S h.e s.e⟩) λs=>⟨s.1,by
  obtain ⟨t,p,m,d,e⟩:=s.2
  exact ⟨by show (K.Qe i).Q4O.map _=none;rw [t];rfl,by show (K.Qe i).Q5K.map _=none;rw [p];rfl,by show (K.Qe i).Q6q.map _=none;rw [m];rfl,by show (K.Qe i).Q48.map _=none;rw [d];rfl,by show (K.Qe i).Q6U.map _=none;rw [e];rfl⟩⟩⟩
theorem map_id' (x:Option Nat):x=x.map id:=by cases x <;> rfl
theorem Qe5 {c:Cx} {Y:YF} (d:Int) (K:Q1):K=QM (c.on Y) ⟨id,d⟩ K:=
 Q5H rfl (λi=>by
  show K.Qe i=⟨(K.Qe i).Q1u,(K.Qe i).Q4O.map id,(K.Qe i).Q5K.map id,_,_,_,_,_,_,_,_,(K.Qe i).Q6q.map id,(K.Qe i).Q48.map id,(K.Qe i).Q6U.map id,_,_,_,_⟩
  rw [←map_id',←map_id',←map_id',←map_id',←map_id']) rfl rfl (map_id' _) (map_id' _) rfl rfl rfl rfl
theorem FR.le {α:Type} {P:Nat->Prop} {Inv:α->Prop} {g a b:Fm α} (h:FR (Rn.on P g) Inv a b):g.1<=b.1:=by
 obtain ⟨d,_,h2⟩:=h.size
 have h2:b.1=g.1+d:=h2
 omega
theorem FR.fr {α:Type} {r:Rn α} {Inv:α->Prop} {g a b:Fm α} (h:FR (Rn.on (r.part g) g) Inv a b):∀q,q < g.1->¬r.part g q->b.2 q=g.2 q:=λq hq hp=>h.fr2 q hq (λhL=>by
 rcases hL with hL|hL
 ·exact hp hL.1
 ·have hL:g.1<=q:=hL
  omega)
structure Q8R (c:Cx) (Y Z:YF):Prop where
 s:Y.1.1<=Z.1.1
 t:Y.2.1.1<=Z.2.1.1
 d:Y.2.2.1.1<=Z.2.2.1.1
 e:Y.2.2.2.1.1<=Z.2.2.2.1.1
 f:Y.2.2.2.2.1.1<=Z.2.2.2.2.1.1
 m:Y.2.2.2.2.2.1.1<=Z.2.2.2.2.2.1.1
 p:Y.2.2.2.2.2.2.1.1<=Z.2.2.2.2.2.2.1.1
 fs:∀q,q < Y.1.1->¬c.s.part Y.1 q->Z.1.2 q=Y.1.2 q
 ft:∀q,q < Y.2.1.1->¬c.t.part Y.2.1 q->Z.2.1.2 q=Y.2.1.2 q
 fd:∀q,q < Y.2.2.1.1->¬c.d.part Y.2.2.1 q->Z.2.2.1.2 q=Y.2.2.1.2 q
 fe:∀q,q < Y.2.2.2.1.1->¬c.e.part Y.2.2.2.1 q->Z.2.2.2.1.2 q=Y.2.2.2.1.2 q
 ff:∀q,q < Y.2.2.2.2.1.1->¬c.f.part Y.2.2.2.2.1 q->Z.2.2.2.2.1.2 q=Y.2.2.2.2.1.2 q
 fm:∀q,q < Y.2.2.2.2.2.1.1->¬c.m.part Y.2.2.2.2.2.1 q->Z.2.2.2.2.2.1.2 q=Y.2.2.2.2.2.1.2 q
 fp:∀q,q < Y.2.2.2.2.2.2.1.1->¬c.p.part Y.2.2.2.2.2.2.1 q->Z.2.2.2.2.2.2.1.2 q=Y.2.2.2.2.2.2.1.2 q
theorem QcY {c:Cx} {Y A Z:YF} (h:RF (c.on Y) A Z):Q8R c Y Z:=⟨h.s.le,h.r.t.le,h.r.d.le,h.r.e.le,h.r.f.le,h.r.m.le,h.r.p.le,h.s.fr,h.r.t.fr,h.r.d.fr,h.r.e.fr,h.r.f.fr,h.r.m.fr,h.r.p.fr⟩
def Cx.re (c:Cx) (Y Z:YF) (h:Q5v c Y) (g:Q8R c Y Z):Cx:=⟨c.s.re Y.1 Z.1 h.s.lt g.s,c.t.re Y.2.1 Z.2.1 h.t.lt g.t,c.d.re Y.2.2.1 Z.2.2.1 h.d.lt g.d,c.e.re Y.2.2.2.1 Z.2.2.2.1 h.e.lt g.e,c.f.re Y.2.2.2.2.1 Z.2.2.2.2.1 h.f.lt g.f,c.m.re Y.2.2.2.2.2.1 Z.2.2.2.2.2.1 h.m.lt g.m,c.p.re Y.2.2.2.2.2.2.1 Z.2.2.2.2.2.2.1 h.p.lt g.p⟩
theorem re_RF {c:Cx} {Y Z:YF} (h:Q5v c Y) (g:Q8R c Y Z):RF (c.re Y Z h g) Y Z:=⟨Q7X h.s g.s g.fs,⟨Q7X h.t g.t g.ft,Q7X h.d g.d g.fd,Q7X h.e g.e g.fe,Q7X h.f g.f g.ff,Q7X h.m g.m g.fm,Q7X h.p g.p g.fp⟩⟩
theorem re_Lk {c:Cx} {Y Z W:YF} (h:Q5v c Y) (g:Q8R c Y Z) (hr:RF (c.re Y Z h g) Z W):Q5v (c.re Y Z h g) W:=⟨Q7c h.s g.s hr.s,Q7c h.t g.t hr.r.t,Q7c h.d g.d hr.r.d,Q7c h.e g.e hr.r.e,Q7c h.f g.f hr.r.f,Q7c h.m g.m hr.r.m,Q7c h.p g.p hr.r.p⟩
theorem Q5u {α:Type} {r:Rn α} {g g1:Fm α} (h:∀x,r.L x->x < g.1->r.ρ x < g.1) (hle:g.1<=g1.1) {x:Option Nat} (hp:Pt r g.1 x):Pt (r.re g g1 h hle) g1.1 x/\x.map (r.re g g1 h hle).ρ=x.map r.ρ:=by
 obtain ⟨i,rfl,hl,hlt⟩:=hp
 refine ⟨⟨i,rfl,.inl ⟨hl,hlt⟩,by omega⟩,?_⟩
 show some (if i < g1.1 then r.ρ i else _)=some (r.ρ i)
 rw [if_pos (by omega)]
theorem QdP {c:Cx} {Y Z:YF} {K:Q1} (h:Q5v c Y) (g:Q8R c Y Z) (hk:KOk c (nF Y) K):KOk (c.re Y Z h g) (nF Z) K:=
 ⟨hk.Q11,(Q5u h.s.lt g.s hk.s).1,(Q5u h.f.lt g.f hk.f).1,λi=>(hk.all i).imp (λs=>⟨(Q5u h.t.lt g.t s.t).1,(Q5u h.p.lt g.p s.p).1,(Q5u h.m.lt g.m s.m).1,(Q5u h.d.lt g.d s.d).1,(Q5u h.e.lt g.e s.e).1⟩) λs=>s⟩
theorem Qej {c:Cx} {δ:Dl} {Y Z:YF} {K:Q1} (h:Q5v c Y) (g:Q8R c Y Z) (hk:KOk c (nF Y) K):QM c δ K=QM (c.re Y Z h g) δ K:=by
 refine Q5H rfl (λi=>?_) rfl rfl (Q5u h.s.lt g.s hk.s).2.symm (Q5u h.f.lt g.f hk.f).2.symm rfl rfl rfl rfl
 show Q3A c (K.Qe i)=Q3A (c.re Y Z h g) (K.Qe i)
 unfold Q3A
 rcases hk.all i with s|⟨_,t,p,m,d,e⟩
 ·rw [←(Q5u (g1:=Z.2.1) h.t.lt g.t s.t).2,←(Q5u (g1:=Z.2.2.2.2.2.2.1) h.p.lt g.p s.p).2,←(Q5u (g1:=Z.2.2.2.2.2.1) h.m.lt g.m s.m).2,←(Q5u (g1:=Z.2.2.1) h.d.lt g.d s.d).2,←(Q5u (g1:=Z.2.2.2.1) h.e.lt g.e s.e).2]
  rfl
 ·rw [t,p,m,d,e];rfl
theorem QbN {c:Cx} {δ:Dl} {k1 k2:Nat} {cf:Q8} {C:St} (hne:k2≠k1) (hδ:Dr δ) (e:Qz) (he:Q4N e.Q3h) (h:Q6E c δ k1 k2 cf C):
  ∃o K1 Y1 K2 Y2 c' δ' cf',Q6C e k1 C=some ((o,()),(K1,Y1),())/\Q6C e k2 (Q4R C k1 (K1,Y1))=some ((o,()),(K2,Y2),())/\DN δ δ'/\Q2D cf cf'/\Q6E c' δ' k1 k2 cf' (Q4R (Q4R C k1 (K1,Y1)) k2 (K2,Y2))/\o.length<=24:=by
 obtain ⟨hk,hy⟩:=h
 have ek:=hk.eq
 have hK1:KOk (c.on C.2) (nF C.2) (Q1.Q13 (C.1.2 k1) []):=by rw [ek];exact Qe8 hy hk.ok
 have hc:(Q1.Q13 (C.1.2 k1) []).Qo=cf:=by rw [ek];exact hk.Q11
 have hL1:Live (c.on C.2) ⟨id,(C.1.2 k1).Q2h⟩ k1 k1 cf C C:=⟨⟨Qe5 _ _,hK1,hc,Nat.le_refl 0,rfl⟩,on_RF hy⟩
 obtain ⟨o,K1,Y1,K1',Y1',_,_,s1,s1',_,_,hL,_,ol⟩:=Q9B (Dr.fid rfl) e he hL1
 rw [s1] at s1'
 obtain ⟨⟨⟩⟩:=s1'
 have hg:Q8R c C.2 Y1:=QcY hL.y
 have hB:(Q4R C k1 (K1,Y1)).1.2 k2=C.1.2 k2:=Q5c _ _ hne
 have hL2:Live (c.re C.2 Y1 hy hg) δ k1 k2 cf C (Q4R C k1 (K1,Y1)):=by
  refine ⟨?_,re_RF hy hg⟩
  rw [hB]
  exact ⟨ek.trans (Qej hy hg hk.ok),QdP hy hg hk.ok,hk.Q11,hk.outs,hk.dr⟩
 obtain ⟨o2,K1',Y1',K2,Y2,δ',cf',s1',s2,h3,h4,h5,_,_⟩:=Q9B hδ e he hL2
 rw [s1] at s1'
 obtain ⟨⟨⟩⟩:=s1'
 refine ⟨o,K1,Y1,K2,Y2,c.re C.2 Y1 hy hg,δ',cf',s1,s2,h3,h4,⟨?_,re_Lk hy hg h5.y⟩,ol⟩
 have hk5:=h5.k
 have e1:(Q4R (Q4R C k1 (K1,Y1)) k2 (K2,Y2)).1.2 k1=(Q4R C k1 (K1,Y1)).1.2 k1:=Q5c _ _ (λh=>hne h.symm)
 rw [e1]
 exact hk5
theorem Q7V:K97.A=some ():=by kernel_rfl
theorem Qch (l:List QJ) (hl:l.length<=1000):Tot (K94 l l) (λr=>r.1.1=true):=by
 unfold K94 K94.gen
 rw [Q75]
 refine Q3 (λr=>match r with| .inl _=>True| .inr _=>False) ?_ (λr hr=>Q2l (λa e=>Q2 rfl) (λa e=>by subst e;exact hr.elim))
 unfold K94.F0
 refine Q22 (λa=>a.1.1=l/\a.1.2.1=l/\0<=a.1.2.2.1) (λa=>((l.length:Int) - a.1.2.2.1).toNat) (λa ⟨h1,h2,h3⟩=>?_) _ _ ⟨rfl,rfl,Int.le_refl 0⟩ (by simp only [];omega)
 unfold K94.QO
 rw [h1,h2]
 refine Qa (λh=>?_) (λ_=>Q2 trivial)
 have h:=Q2m h
 unfold ofN at h
 refine QR (Q1C h3 h) (QR (Q1C h3 h) ?_)
 have hs:∀b:ByteArray,Z42 b b=true:=λb=>by unfold Z42;simp
 simp only [Q52,beq_self_eq_true,hs,cond_true,Bool.not_true,cond_false]
 refine Q2 ?_
 rw [Q1g (by omega)]
 exact ⟨⟨rfl,rfl,by show 0<=a.1.2.2.1+1;omega⟩,by show ((l.length:Int) - (a.1.2.2.1+1)).toNat < ((l.length:Int) - a.1.2.2.1).toNat;omega⟩
def Cx.two (Y Z:YF):Cx:=⟨Rn.two Y.1 Z.1,Rn.two Y.2.1 Z.2.1,Rn.two Y.2.2.1 Z.2.2.1,Rn.two Y.2.2.2.1 Z.2.2.2.1,Rn.two Y.2.2.2.2.1 Z.2.2.2.2.1,Rn.two Y.2.2.2.2.2.1 Z.2.2.2.2.2.1,Rn.two Y.2.2.2.2.2.2.1 Z.2.2.2.2.2.2.1⟩
theorem Qai (Y Z:YF):RF (Cx.two Y Z) Y Z:=⟨Q7a _ _,Q7a _ _,Q7a _ _,Q7a _ _,Q7a _ _,Q7a _ _,Q7a _ _⟩
theorem two_Y {Y Z W:YF} (h:RF (Cx.two Y Z) Z W):Q5v (Cx.two Y Z) W:=⟨Q6A h.s,Q6A h.r.t,Q6A h.r.d,Q6A h.r.e,Q6A h.r.f,Q6A h.r.m,Q6A h.r.p⟩
abbrev E0:St:=((0,λ_=>U.dft .Q7),(0,λ_=>U.dft .Q1t),(0,λ_=>U.dft .QA),(0,λ_=>U.dft .Q14),(0,λ_=>U.dft .Q15),(0,λ_=>U.dft .Q19),(0,λ_=>U.dft .Q1k),(0,λ_=>[]),())
noncomputable def Rn.inv {α:Type} (r:Rn α) (g:Fm α) (h:∀x,r.L x->x < g.1->r.ρ x < g.1):Rn α:=
 open Classical in
 {ρ:=λq=>if h:r.part g q then h.choose else q
  L:=λq=>r.part g q\/g.1<=q
  b1:=g
  b2:=g
  inj:=λx y hx hy e=>by
   have sp:∀q (hq:r.part g q),r.L hq.choose/\hq.choose < g.1/\r.ρ hq.choose=q:=λq hq=>hq.choose_spec
   have np:∀q,g.1<=q->¬r.part g q:=λq hq ⟨z,z1,z2,z3⟩=>by have:=h z z1 z2;omega
   rcases hx with hx|hx
   ·rw [dif_pos hx] at e
    rcases hy with hy|hy
    ·rw [dif_pos hy] at e
     rw [←(sp x hx).2.2,←(sp y hy).2.2,e]
    ·rw [dif_neg (np y hy)] at e
     have:=(sp x hx).2.1
     omega
   ·rw [dif_neg (np x hx)] at e
    rcases hy with hy|hy
    ·rw [dif_pos hy] at e
     have:=(sp y hy).2.1
     omega
    ·rw [dif_neg (np y hy)] at e
     exact e
  fresh:=λi=>⟨.inr (Nat.le_add_right _ _),by
   rw [dif_neg (λ⟨z,z1,z2,z3⟩=>by have:=h z z1 z2;omega)]⟩
  old:=λx hx hl=>by
   rcases hx with hx|hx
   ·rw [dif_pos hx]
    exact hx.choose_spec.2.1
   ·omega}
theorem Q9a {α:Type} {r:Rn α} {g:Fm α} (h:∀x,r.L x->x < g.1->r.ρ x < g.1) {i:Nat} (hl:r.L i) (hlt:i < g.1):(r.inv g h).ρ (r.ρ i)=i:=by
 have hp:r.part g (r.ρ i):=⟨i,hl,hlt,rfl⟩
 unfold Rn.inv
 simp only [dif_pos hp]
 exact r.inj _ _ hp.choose_spec.1 hl hp.choose_spec.2.2
theorem Q6t {α:Type} {r:Rn α} {Inv:α->Prop} {g:Fm α} (hl:Lnk r Inv g):Lnk (r.inv g hl.lt) Inv g:=by
 have pt:∀x,(r.inv g hl.lt).L x->x < g.1->∃a,r.L a/\a < g.1/\r.ρ a=x:=λx hx hlt=>by
  rcases hx with hx|hx
  ·exact hx
  ·have hx:g.1<=x:=hx
   omega
 refine ⟨λx hx hlt=>?_,λx y hx hy hlx hly=>?_,λx hx hlt=>?_⟩
 ·obtain ⟨a,a1,a2,rfl⟩:=pt x hx hlt
  rw [Q9a hl.lt a1 a2];exact a2
 ·obtain ⟨a,a1,a2,rfl⟩:=pt x hx hlx
  obtain ⟨b,b1,b2,rfl⟩:=pt y hy hly
  rw [Q9a hl.lt a1 a2]
  exact λe=>hl.dis b a b1 a1 b2 a2 e.symm
 ·obtain ⟨a,a1,a2,rfl⟩:=pt x hx hlt
  obtain ⟨e,hi⟩:=hl.get a a1 a2
  rw [Q9a hl.lt a1 a2,e]
  exact ⟨rfl,hi⟩
noncomputable def Cx.inv (c:Cx) (Y:YF) (h:Q5v c Y):Cx:=⟨c.s.inv Y.1 h.s.lt,c.t.inv Y.2.1 h.t.lt,c.d.inv Y.2.2.1 h.d.lt,c.e.inv Y.2.2.2.1 h.e.lt,c.f.inv Y.2.2.2.2.1 h.f.lt,c.m.inv Y.2.2.2.2.2.1 h.m.lt,c.p.inv Y.2.2.2.2.2.2.1 h.p.lt⟩
theorem Q4V {α:Type} {r:Rn α} {Inv:α->Prop} {g:Fm α} (h:Lnk r Inv g) {x:Option Nat} (hp:Pt r g.1 x):Pt (r.inv g h.lt) g.1 (x.map r.ρ)/\x=(x.map r.ρ).map (r.inv g h.lt).ρ:=by
 obtain ⟨i,rfl,hl,hlt⟩:=hp
 refine ⟨⟨r.ρ i,rfl,.inl ⟨i,hl,hlt,rfl⟩,h.lt i hl hlt⟩,?_⟩
 show some i=some ((r.inv g h.lt).ρ (r.ρ i))
 rw [Q9a h.lt hl hlt]
theorem inv_K {c:Cx} {δ:Dl} {K1 K:Q1} {cf:Q8} {n:Nat} {Y:YF} (hf:δ.f=id) (hk:KR c δ (nF Y) (cf,n) K1 K) (hy:Q5v c Y):KR (c.inv Y hy) ⟨id,δ.d⟩ (nF Y) (cf,n) K K1:=by
 have e:=hk.eq
 have ho:=hk.ok
 have hdr:K.Q2h=δ.d:=hk.dr
 rw [e]
 refine ⟨Q5H rfl (λi=>?_) rfl rfl (Q4V hy.s ho.s).2 (Q4V hy.f ho.f).2 rfl rfl ?_ rfl,⟨ho.Q11,(Q4V hy.s ho.s).1,(Q4V hy.f ho.f).1,λi=>(ho.all i).imp (λs=>⟨(Q4V hy.t s.t).1,(Q4V hy.p s.p).1,(Q4V hy.m s.m).1,(Q4V hy.d s.d).1,(Q4V hy.e s.e).1⟩) λs=>⟨s.1,?_⟩⟩,hk.Q11,hk.outs,?_⟩
 ·show K.Qe i=Q3A _ (Q3A c (K.Qe i))
  rcases ho.all i with s|⟨_,t,p,m,d,e⟩
  ·have e1:=(Q4V hy.t s.t).2
   have e2:=(Q4V hy.p s.p).2
   have e3:=(Q4V hy.m s.m).2
   have e4:=(Q4V hy.d s.d).2
   have e5:=(Q4V hy.e s.e).2
   cases hx:K.Qe i
   rw [hx] at e1 e2 e3 e4 e5
   simp only [Q3A]
   congr 1
  ·cases hx:K.Qe i
   rw [hx] at t p m d e
   simp only [] at t p m d e
   subst t p m d e
   rfl
 ·show K.Q2h=id (δ.f K.Q2h)
  rw [hf];rfl
 ·obtain ⟨t,p,m,d,e⟩:=s.2
  exact ⟨by show (K.Qe i).Q4O.map _=none;rw [t];rfl,by show (K.Qe i).Q5K.map _=none;rw [p];rfl,by show (K.Qe i).Q6q.map _=none;rw [m];rfl,by show (K.Qe i).Q48.map _=none;rw [d];rfl,by show (K.Qe i).Q6U.map _=none;rw [e];rfl⟩
 ·show δ.f K.Q2h=δ.d
  rw [hf];exact hdr
theorem Q6E.swap {c:Cx} {δ:Dl} {k1 k2:Nat} {cf:Q8} {C:St} (hf:δ.f=id) (h:Q6E c δ k1 k2 cf C):Q6E (c.inv C.2 h.y) ⟨id,δ.d⟩ k2 k1 cf C:=
 ⟨inv_K hf h.k h.y,⟨Q6t h.y.s,Q6t h.y.t,Q6t h.y.d,Q6t h.y.e,Q6t h.y.f,Q6t h.y.m,Q6t h.y.p⟩⟩
def Fre (p:Int) (K:Q1) (g:Fm Qb):Prop:=∀j:Nat,(j:Int) < p->(K.Qe j).Q1u=1/\(K.Qe j).Q3g.fv=0/\∃t,(K.Qe j).Q4O=some t/\t < g.1/\(g.2 t).fn=0
theorem Qdi {cf:Q8} (K:Q1) (Y:YF) (hcf:Q3G cf):Tot (K23 cf K Y.1 Y.2.1 Y.2.2.1 Y.2.2.2.1 Y.2.2.2.2.1 Y.2.2.2.2.2.1 Y.2.2.2.2.2.2.1) (λr=>Fre cf.Qv r.2.1.1 r.2.1.2.2.1):=by
 obtain ⟨p1,p8,_⟩:=Q30 hcf
 unfold K23 K23.gen
 refine Q3 (λr=>r.2.2.1=cf) (Q3 _ ee (λr0 _=>Q3 (λ_=>True) ⟨_,rfl,trivial⟩ (λr1 _=>Q3 (λ_=>True) ⟨_,rfl,trivial⟩ (λr2 _=>Q2 rfl)))) (λr3 h3=>Q3 (λr=>Fre cf.Qv r.2.1 r.2.2.2.1) ?_ (λr4 h4=>Q2 h4))
 unfold K23.F0
 refine Q22 (λa=>1<=a.1.1/\a.1.1<=cf.Qv+1/\a.2.2.1=cf/\Fre (a.1.1 - 1) a.2.1 a.2.2.2.2.1) (λa=>(cf.Qv+1 - a.1.1).toNat) (λa ⟨e1,e2,e3,hF⟩=>?_) _ _ ⟨Int.le_refl 1,by show 1<=cf.Qv+1;omega,h3,λj hj=>by
  have hj:(j:Int) < 1 - 1:=hj
  omega⟩ (by simp only [];omega)
 unfold K23.QO
 obtain ⟨⟨i,u⟩,K,c,y⟩:=a
 dsimp only at e1 e2 e3 hF
 subst e3
 dsimp only
 refine Qa (λhh=>?_) (λhh=>?_)
 ·have hh:=Q54 hh
  refine Q3 (λr=>r.1=(i,())/\r.2.1=K/\r.2.2.1=c/\r.2.2.2.2=y) (Q3 _ ee (λr0 _=>Q2 ⟨rfl,rfl,rfl,rfl⟩)) (λr ⟨z1,z2,z3,z4⟩=>?_)
  rw [z1,z2,z3,z4]
  refine Q3 (λr=>r.1=(i,())/\r.2.2.1=c/\Fre i r.2.1 r.2.2.2.2.1) ?_ (λr ⟨x1,x2,x3⟩=>?_)
  ·refine Q3 _ (Q6m K e1 (by omega)) (λr2 e2'=>?_)
   rw [e2']
   refine Q3 _ (Q8o _) (λr3 _=>?_)
   refine Q3 (λr=>r.1.1=some y.2.1.1/\r.2.1.1.1=y.2.1.1+1/\∃T:Qb,T.fn=0/\r.2.1.1.2=Qr y.2.1.2 y.2.1.1 T) ⟨_,rfl,rfl,rfl,_,rfl,rfl⟩ (λt ⟨t1,t2,T,t3,t4⟩=>?_)
   refine Q3 (λ_=>True) ⟨_,rfl,trivial⟩ (λ_ _=>?_)
   refine Q3 (λ_=>True) ⟨_,rfl,trivial⟩ (λ_ _=>?_)
   refine Q3 (λ_=>True) ⟨_,rfl,trivial⟩ (λ_ _=>?_)
   refine Q2 ⟨rfl,rfl,λj hj=>?_⟩
   have hj:(j:Int) < i:=hj
   show (Qr K.Qe (i - 1).toNat _ j).Q1u=1/\(Qr K.Qe (i - 1).toNat _ j).Q3g.fv=0/\∃q,(Qr K.Qe (i - 1).toNat _ j).Q4O=some q/\q < t.2.1.1.1/\(t.2.1.1.2 q).fn=0
   unfold Qr
   by_cases ej:j=(i - 1).toNat
   ·rw [if_pos ej]
    refine ⟨rfl,rfl,y.2.1.1,t1,by rw [t2];exact Nat.lt_succ_self _,?_⟩
    rw [t4,Q5b];exact t3
   ·rw [if_neg ej]
    obtain ⟨f1,f2,q,f3,f4,f5⟩:=hF j (by omega)
    refine ⟨f1,f2,q,f3,by rw [t2];omega,?_⟩
    rw [t4,Q5c _ _ (by omega)];exact f5
  ·rw [x1]
   dsimp only
   rw [Q1g (by omega)]
   refine Q2 ⟨⟨?_,?_,x2,?_⟩,?_⟩
   ·show 1<=i+1;omega
   ·show i+1<=c.Qv+1;omega
   ·show Fre (i+1 - 1) r.2.1 r.2.2.2.2.1
    rw [show i+1 - 1=i by omega];exact x3
   ·show (c.Qv+1 - (i+1)).toNat < (c.Qv+1 - i).toNat;omega
 ·have hh:=QcM hh
  refine Q2 (λj hj=>hF j ?_)
  omega
abbrev evR:Qz:=Qz.mk 4 0 0 0 0 (ByteArray.mk (List.toArray (Qn UInt8))) (Q8.mk 0 0 0 0 0 (Qy.mk 0 0 0) false 0 0 0 0 false false 0 0 0 0 (Q1d.mk 0 0 0) false)
theorem stepR {cf:Q8} (k:Nat) (A:St) (hc:(A.1.2 k).Qo=cf) (hcf:Q3G cf) {r:Unit×(Q1×YF)×Unit} (hr:K23 cf (Q1.Q13 (A.1.2 k) []) A.2.1 A.2.2.1 A.2.2.2.1 A.2.2.2.2.1 A.2.2.2.2.2.1 A.2.2.2.2.2.2.1 A.2.2.2.2.2.2.2.1=some r):Q6C evR k A=some ((r.2.1.1.Q2j,()),r.2.1,()):=by
 unfold Q6C K17 K17.gen
 have e1:ieq 4 1=false:=rfl
 have e2:ieq 4 2=false:=rfl
 have e3:ieq 4 3=false:=rfl
 have e4:ieq 4 4=true:=rfl
 dsimp only
 rw [e1,e2,e3,e4]
 simp only [cond_false,cond_true]
 rw [hc,hcf.out]
 simp only [Qq,Q75,cond_false]
 have hr':K23 cf (Q1.Q13 (A.1.2 k) (Qn QJ)) A.2.1 A.2.2.1 A.2.2.2.1 A.2.2.2.2.1 A.2.2.2.2.2.1 A.2.2.2.2.2.2.1 A.2.2.2.2.2.2.2.1=some r:=hr
 rw [hr']
 rfl
theorem QbQ {c:Cx} {δ:Dl} {k:Nat} {cf:Q8} {A:St} (hlt:k < A.1.1) (hL:Live c δ k k cf A A):∃A1 r c',K44 cf A.1 A.2.1 A.2.2.1 A.2.2.2.1 A.2.2.2.2.1 A.2.2.2.2.2.1 A.2.2.2.2.2.2.1 A.2.2.2.2.2.2.2.1=some ((some A.1.1,0,()),A1,())/\A1.1.2 k=A.1.2 k/\Q6C evR k A1=some (([],()),r,())/\Q6E c' ⟨id,0⟩ k A.1.1 cf (Q4R A1 k r)/\Fre cf.Qv r.1 r.2.2.1:=by
 have hcf:Q3G cf:=by have:=hL.k.ok.Q11;rw [hL.k.Q11] at this;exact this
 have hc:(A.1.2 k).Qo=cf:=hL.k.Q11
 have hz0:ine 0 0=false:=rfl
 unfold K44 K44.gen
 rw [hcf.out,Qq,hz0]
 simp only [cond_false]
 rw [Q5b]
 generalize hF:Q1.mk _ _ _ _ _ _ _ _ _ _=F
 have ho:F.Q2j= []:=by rw [←hF]
 obtain ⟨rn,_,hn,_,_⟩:=Q7E (m:=0) (A:=F) (B:=F) hcf rfl (by rw [ho];exact Nat.le_refl 0) (Qai A.2 A.2)
 obtain ⟨rn',rk,hn',hk,⟨_,hdr⟩,hK,hR⟩:=Q7E (m:=0) (A:=F) (B:=Q1.Q13 (A.1.2 k) []) hcf ho (Nat.le_refl 0) (Qai A.2 rn.2.1.2)
 rw [hn] at hn'
 cases hn'
 obtain ⟨rk',hk',hFr⟩:=Qdi (Q1.Q13 (A.1.2 k) []) rn.2.1.2 hcf
 rw [hk] at hk'
 cases hk'
 rw [hn,Qq]
 have hne:k≠A.1.1:=by omega
 have ek:Qr (Qr A.1.2 A.1.1 F) A.1.1 rn.2.1.1 k=A.1.2 k:=by rw [Q5c _ _ hne,Q5c _ _ hne]
 have en:Qr (Qr A.1.2 A.1.1 F) A.1.1 rn.2.1.1 A.1.1=rn.2.1.1:=Q5b _ _ _
 have hout:rk.2.1.1.Q2j= []:=List.eq_nil_of_length_eq_zero (Nat.le_zero.1 hK.outs)
 have hs:=stepR k ((A.1.1+1,Qr (Qr A.1.2 A.1.1 F) A.1.1 rn.2.1.1),rn.2.1.2) (by show (Qr (Qr A.1.2 A.1.1 F) A.1.1 rn.2.1.1 k).Qo=cf;rw [ek];exact hc) hcf (r:=rk) (by show K23 cf (Q1.Q13 (Qr (Qr A.1.2 A.1.1 F) A.1.1 rn.2.1.1 k) []) _ _ _ _ _ _ _=_;rw [ek];exact hk)
 rw [hout] at hs
 refine ⟨_,rk.2.1,_,rfl,ek,hs,Q6E.swap (δ:=D0) rfl ⟨?_,two_Y hR⟩,hFr⟩
 have e1:(Q4R ((A.1.1+1,Qr (Qr A.1.2 A.1.1 F) A.1.1 rn.2.1.1),rn.2.1.2) k rk.2.1).1.2 k=rk.2.1.1:=Q5b _ _ _
 have e2:(Q4R ((A.1.1+1,Qr (Qr A.1.2 A.1.1 F) A.1.1 rn.2.1.1),rn.2.1.2) k rk.2.1).1.2 A.1.1=rn.2.1.1:=(Q5c _ _ (λh=>hne h.symm)).trans en
 rw [e1,e2]
 refine ⟨?_,⟨hK.ok.Q11,hK.ok.s,hK.ok.f,hK.ok.all⟩,hK.Q11,Nat.le_refl 0,hK.dr⟩
 rw [show rn.2.1.1=QM _ D0 rk.2.1.1 from hK.eq];rfl
theorem Qdp {c:Cx} {δ:Dl} (n:Int) (K:Q1):K16 n (QM c δ K)=K16 n K:=rfl
theorem Qek {c:Cx} {δ:Dl} (n:Int) (K:Q1):K15 n (QM c δ K)=K15 n K:=rfl
theorem Qaw {n:Int} {K:Q1} (h:1<=n/\n<=K.Qo.Qv):K33 n K=some ((false,()),(),()):=by
 unfold K33 K33.gen
 rw [Q4J (by omega),Q4J (by omega)]
 rfl
theorem QbR (n:Int) (K:Q1) (h:Q3G K.Qo):Tot (K15 n K) (λr=>1<=n/\n<=K.Qo.Qv->r.1.1=(K.Qe (n - 1).toNat).Q3g.fv):=by
 obtain ⟨_,p8,_⟩:=Q30 h
 unfold K15 K15.gen
 obtain ⟨r,hr,hp⟩:=Q7x n K
 rw [hr,Qq]
 refine Qa (λht=>Q2 λhn=>?_) (λhf=>?_)
 ·rw [Qaw hn] at hr
  cases hr
  cases ht
 ·obtain ⟨h1,h2⟩:=hp hf
  rw [Q7u K h1 (by omega),Qq]
  exact Q2 λ_=>rfl
theorem Q9C {c:Cx} {δ:Dl} {Y:YF} {K:Q1} (hy:Q5v c Y) (hk:KOk c (nF Y) K) (n:Int):K11 n (QM c δ K) Y.2.1=K11 n K Y.2.1/\Tot (K11 n K Y.2.1) (λ_=>True):=by
 obtain ⟨_,p8,_⟩:=Q30 hk.Q11
 unfold K11 K11.gen
 rw [Qae]
 obtain ⟨r,hr,hp⟩:=Q7x n K
 rw [hr,Qq,Qq]
 cases hb:r.1.1 with
 |true=>exact ⟨rfl,Q2 trivial⟩
 |false=>
  obtain ⟨h1,h2⟩:=hp hb
  rw [Q6n,Q7u K h1 (by omega),Qq,Qq]
  obtain ⟨t,e,hl,hlt⟩:=(hk.side (n - 1).toNat (by omega)).t
  obtain ⟨g1,g2⟩:=hy.t.get t hl hlt
  have e2:((QM c δ K).Qe (n - 1).toNat).Q4O=some (c.t.ρ t):=by
   show ((K.Qe (n - 1).toNat).Q4O).map c.t.ρ=_
   rw [e];rfl
  simp only [cond_false]
  rw [e,e2,Qq,Qq,g1]
  exact ⟨rfl,Q3 _ (QbT _ g2) (λ_ _=>Q2 trivial)⟩
theorem QbD {K:Q1} {g:Fm Qb} {n:Int} (h8:n<=8) (hn:1<=n/\n<=K.Qo.Qv) (hF:Fre K.Qo.Qv K g):Tot (K11 n K g) (λr=>r.1.1.length=0):=by
 unfold K11 K11.gen
 rw [Qaw hn,Qq,Q7u K hn.1 h8]
 simp only [cond_false,Qq]
 obtain ⟨_,_,t,e,_,h0⟩:=hF (n - 1).toNat (by omega)
 rw [e,Qq]
 unfold K75 K75.gen
 rw [h0]
 exact ⟨_,rfl,rfl⟩
theorem Qcc {c:Cx} {δ:Dl} {k n:Nat} {cf:Q8} {C:St} (h:Q6E c δ k n cf C):Tot (K96.F0 ((some k,some n,1,()),C.1,C.2.1,C.2.2.1,())) (λr=>match r with| .inl _=>True| .inr _=>False):=by
 have ek:=h.k.eq
 have hs:∀p,K16 p (C.1.2 k)=K16 p (C.1.2 n):=λp=>by
  have:K16 p (Q1.Q13 (C.1.2 k) [])=K16 p (Q1.Q13 (C.1.2 n) []):=by rw [ek,Qdp]
  exact this
 have hp:∀p,K15 p (C.1.2 k)=K15 p (C.1.2 n):=λp=>by
  have:K15 p (Q1.Q13 (C.1.2 k) [])=K15 p (Q1.Q13 (C.1.2 n) []):=by rw [ek,Qek]
  exact this
 have hf:∀p,K11 p (C.1.2 k) C.2.2.1=K11 p (C.1.2 n) C.2.2.1:=λp=>by
  have:K11 p (Q1.Q13 (C.1.2 k) []) C.2.2.1=K11 p (Q1.Q13 (C.1.2 n) []) C.2.2.1:=by rw [ek];exact (Q9C h.y h.k.ok p).1
  exact this
 unfold K96.F0
 refine Q22 (λa=>∃p:Int,a=((some k,some n,p,()),C.1,C.2.1,C.2.2.1,())/\1<=p/\p<=9) (λa=>(9 - a.1.2.2.1).toNat) (λa ⟨p,e1,p1,p9⟩=>?_) _ _ ⟨1,rfl,Int.le_refl 1,by decide⟩ (by simp only [];omega)
 subst e1
 unfold K96.QO
 dsimp only
 refine Qa (λhh=>?_) (λ_=>Q2 trivial)
 have hh:=Q54 hh
 obtain ⟨r1,h1,_⟩:=Q9u p (Q1.Q13 (C.1.2 n) []) h.k.ok.Q11
 have h1:K16 p (C.1.2 n)=some r1:=h1
 obtain ⟨r2,h2,_⟩:=QbR p (Q1.Q13 (C.1.2 n) []) h.k.ok.Q11
 have h2:K15 p (C.1.2 n)=some r2:=h2
 obtain ⟨r3,h3,_⟩:=(Q9C (δ:=δ) h.y h.k.ok p).2
 have h3:K11 p (C.1.2 n) C.2.2.1=some r3:=h3
 simp only [Qq,hs,hp,hf,h1,h2,h3,Q75,cond_false]
 rw [Q1g (by omega)]
 refine Q2 ⟨⟨p+1,rfl,by omega,by omega⟩,?_⟩
 show (9 - (p+1)).toNat < (9 - p).toNat
 omega
theorem QbB {c:Cx} {δ:Dl} {Y:YF} {K:Q1} (hy:Q5v c Y) (hk:KOk c (nF Y) K):K12 (QM c δ K) Y.1=K12 K Y.1/\Tot (K12 K Y.1) (λ_=>True):=by
 obtain ⟨t,e,hl,hlt⟩:=hk.s
 have e2:(QM c δ K).Q6K=some (c.s.ρ t):=by
  show (K.Q6K).map c.s.ρ=_
  rw [e];rfl
 obtain ⟨g1,_⟩:=hy.s.get t hl hlt
 unfold K12 K12.gen
 rw [e,e2,Qq,Qq,g1]
 exact ⟨rfl,⟨_,rfl,trivial⟩⟩
theorem Qdx {c:Cx} {δ:Dl} {k n:Nat} {cf:Q8} {C:St} (hid:δ.f=id) (h:Q6E c δ k n cf C):Tot (K96 (some k) (some n) C.1 C.2.1 C.2.2.1) (λr=>r.1.1=true):=by
 have ek:=h.k.eq
 have ec:(C.1.2 k).Qo=(C.1.2 n).Qo:=by have h:=congrArg Q1.Qo ek;exact h
 have ep:(C.1.2 k).Q2d=(C.1.2 n).Q2d:=by have h:=congrArg Q1.Q2d ek;exact h
 have eo:(C.1.2 k).Q5d=(C.1.2 n).Q5d:=by have h:=congrArg Q1.Q5d ek;exact h
 have ed:K9 (C.1.2 k)=K9 (C.1.2 n):=by
  have:K9 (Q1.Q13 (C.1.2 k) [])=K9 (Q1.Q13 (C.1.2 n) []):=by rw [ek];rfl
  exact this
 have et:K18 (C.1.2 k)=K18 (C.1.2 n):=by
  have:K18 (Q1.Q13 (C.1.2 k) [])=K18 (Q1.Q13 (C.1.2 n) []):=by rw [ek];rfl
  exact this
 have edr:(C.1.2 k).Q2h=(C.1.2 n).Q2h:=by
  have h2:(C.1.2 k).Q2h=δ.f (C.1.2 n).Q2h:=by have h:=congrArg Q1.Q2h ek;exact h
  rw [h2,hid];rfl
 have ef:K12 (C.1.2 k) C.2.1=K12 (C.1.2 n) C.2.1:=by
  have:K12 (Q1.Q13 (C.1.2 k) []) C.2.1=K12 (Q1.Q13 (C.1.2 n) []) C.2.1:=by rw [ek];exact (QbB h.y h.k.ok).1
  exact this
 obtain ⟨rf,hf,_⟩:=(QbB (δ:=δ) h.y h.k.ok).2
 have hf:K12 (C.1.2 n) C.2.1=some rf:=hf
 have c1:∀K,K8 K=some ((K.Qo,()),(),()):=λ_=>rfl
 have p1:∀K,K14 K=some ((K.Q2d,()),(),()):=λ_=>rfl
 have o1:∀K,K13 K=some ((K.Q5d,()),(),()):=λ_=>rfl
 have d1:∀K,K10 K=some ((K.Q2h,()),(),()):=λ_=>rfl
 obtain ⟨rd,hd,_⟩:Tot (K9 (C.1.2 n)) (λ_=>True):=⟨_,rfl,trivial⟩
 obtain ⟨rt,ht,_⟩:Tot (K18 (C.1.2 n)) (λ_=>True):=⟨_,rfl,trivial⟩
 unfold K96 K96.gen
 simp only [Qq,c1,p1,o1,d1,ec,ep,eo,ed,et,edr,ef,hf,hd,ht,Q52,Q75,cond_true,cond_false,beq_self_eq_true,Bool.not_true]
 refine Q3 _ (Qcc h) (λr hr=>Q2l (λa e=>Q2 rfl) (λa e=>by subst e;exact hr.elim))
theorem QaD (x lo hi:Int):Q3f x lo hi=some ((inB x lo hi,()),(),()):=by
 unfold Q3f Q3f.gen inB ile
 cases decide (lo<=x) <;> rfl
theorem Q9Y (q:Qy):Q3B q=some ((Q8V q,()),(),()):=by
 unfold Q3B Q3B.gen Q8V
 simp only [QaD,Qq]
 cases inB q.Q1M 0 255 <;> cases inB q.Q1r 0 255 <;> rfl
theorem Q9F (c:Q8):Q2o c=some ((if okC c then 0 else 15,()),(),()):=by
 unfold Q2o Q2o.gen okC Q9P
 simp only [QaD,Q9Y,Qq]
 cases h0:inB c.Qv 1 8
 ·simp [Qq,Zz]
 cases h1:inB c.Q1v 0 127
 ·simp [Qq,Zz]
 cases h2:inB c.Q17 0 255
 ·simp [Qq,Zz]
 cases h3:inB c.Q18 0 255
 ·simp [Qq,Zz]
 cases h4:inB c.Q3z (-3) 4
 ·simp [Qq,Zz]
 cases h5:inB c.Q2G (-3) 4
 ·simp [Qq,Zz]
 cases h6:inB c.Q2E (-3) 4
 ·simp [Qq,Zz]
 cases h7:inB c.Q3b 2 10
 ·simp [Qq,Zz]
 cases h8:inB c.Q3M 1 15
 ·simp [Qq,Zz]
 cases h9:inB c.fKp 0 2000
 ·simp [Qq,Zz]
 cases h10:inB c.fKi 0 2000
 ·simp [Qq,Zz]
 cases h11:inB c.Q55 0 1000000000
 ·simp [Qq,Zz]
 cases h12:inB c.Q1b.Q37 (-32768) 32767
 ·simp [Qq,Zz]
 cases h13:inB c.Q1b.Q1W 0 63
 ·simp [Qq,Zz]
 cases h14:inB c.Q1b.Q1N 0 255
 ·simp [Qq,Zz]
 cases hq:Q8V c.Qu
 ·simp [Qq,Zz]
 simp only [Qq,cond_true,Bool.not_true,cond_false]
 by_cases e1:c.QF=0
 ·simp [ieq,e1,Qq]
 by_cases e2:c.QF=18446744073709551615
 ·simp [ieq,e2,Qq]
 have f1:(c.QF==0)=false:=by simpa using e1
 have f2:(c.QF==18446744073709551615)=false:=by simpa using e2
 cases hs:c.Q25
 ·simp [ieq,f1,f2,e1,e2,Qq]
 by_cases e3:c.Qv=1
 ·by_cases e4:c.Qu.Q1M=255
  ·simp [ieq,ine,f1,f2,e1,e2,e3,e4,Qq]
  ·have g4:(c.Qu.Q1M !=255)=true:=by simpa using e4
   simp [ieq,ine,f1,f2,e1,e2,e3,e4,g4,Qq]
 ·have g3:(c.Qv !=1)=true:=by simpa using e3
  simp [ieq,ine,f1,f2,e1,e2,e3,g3,Qq]
def Alk (k n:Nat) (C:St):Prop:=∃c δ cf,δ.f=id/\Q6E c δ k n cf C
theorem Qee {k n:Nat} (hne:n≠k) {C:St} (h:Alk k n C) (s:List QD) (i:Int) (l:List Qz) (hl:Q6T l):
  Tot (K95.F2 ((s,some k,some n,i,l,0,()),C)) (λr=>match r with| .inl x=>x.1=(s,some k,some n,i,())/\Alk k n x.2| .inr _=>False):=by
 unfold K95.F2
 refine Q22 (λa=>∃j:Int,a.1=(s,some k,some n,i,l,j,())/\0<=j/\Alk k n a.2) (λa=>((l.length:Int) - a.1.2.2.2.2.2.1).toNat) (λa ⟨j,e1,j0,hA⟩=>?_) _ _ ⟨0,rfl,Int.le_refl 0,h⟩ (by have:=hl.1;simp only [];omega)
 have l41:=hl.1
 obtain ⟨a1,C⟩:=a
 dsimp only at e1
 subst e1
 unfold K95.Q7O
 dsimp only
 refine Qa (λhh=>?_) (λ_=>Q2 ⟨rfl,hA⟩)
 have hh:=Q2m hh
 unfold ofN at hh
 have hmem:List.getD l (Int.toNat j) Qz.zero∈l:=Q7b (by omega)
 have einc:Q4 .i64 j 1=j+1:=Q1g (by omega)
 have hin:=Q1C j0 hh
 have go:((l.length:Int) - (j+1)).toNat < ((l.length:Int) - j).toNat:=by omega
 obtain ⟨c,δ,cf,hf,hL⟩:=hA
 obtain ⟨o,K1,Y1,K2,Y2,c',δ',cf',s1,s2,h3,h4,h5,ol⟩:=QbN hne (Dr.fid hf) _ (hl.2 _ hmem) hL
 refine QR hin ?_
 rw [Qq]
 unfold Q6C at s1 s2
 rw [s1,Qq,Qq]
 refine QR hin ?_
 dsimp only
 obtain ⟨r7,g7,g8⟩:=Qch o (by omega)
 have s2':K17 (List.getD l (Int.toNat j) Qz.zero) (Qr C.1.2 k K1 n) Y1.1 Y1.2.1 Y1.2.2.1 Y1.2.2.2.1 Y1.2.2.2.2.1 Y1.2.2.2.2.2.1 Y1.2.2.2.2.2.2.1=some ((o,()),(K2,Y2),()):=s2
 rw [Qq,s2',Qq,Qq]
 dsimp only
 rw [g7,Qq,g8,einc]
 exact Q2 ⟨⟨j+1,rfl,by omega,c',δ',cf',h3.fid hf,h5⟩,go⟩
theorem Qep {k n:Nat} (hne:n≠k) {C:St} (h:Alk k n C) (s:List QD):
  Tot (K95.F1 ((s,some k,some n,0,()),C)) (λr=>match r with| .inl x=>x.1=(some k,some n,())/\Alk k n x.2| .inr x=>x.1=(true,())):=by
 unfold K95.F1
 refine Q22 (λa=>∃i:Int,a.1=(s,some k,some n,i,())/\0<=i/\i<=20/\Alk k n a.2) (λa=>(20 - a.1.2.2.2.1).toNat) (λa ⟨i,e1,i0,i1,hA⟩=>?_) _ _ ⟨0,rfl,Int.le_refl 0,by decide,h⟩ (by simp only [];omega)
 obtain ⟨a1,C⟩:=a
 dsimp only at e1
 subst e1
 unfold K95.Q2A
 dsimp only
 refine Q3 (λb=>b.1=true->i < (s.length:Int)/\i < 20) (Qa (λh1=>Q2 λh2=>⟨by have:=Q2m h1;exact this,Q2m h2⟩) (λ_=>Q2 λh=>by cases h)) (λz hz=>Qa (λhb=>?_) (λ_=>Q2 ⟨rfl,hA⟩))
 obtain ⟨z1,z2⟩:=hz hb
 have einc:Q4 .i64 i 1=i+1:=Q1g (by omega)
 refine QR (Q1C i0 z1) (Q3 _ (Qat _) (λr1 hr1=>Qa (λ_=>?_) (λhs=>QR (Q1C i0 z1) (Q3 _ (Qad _ (hr1 ?_)) (λr2 hr2=>Q3 _ (Qee hne hA s i r2.1.1 hr2) (λr4 h4=>Q2l (λx e=>?_) (λx e=>by subst e;exact h4.elim)))))))
 ·rw [Q7V,Qq]
  exact Q2 rfl
 ·cases hx:r1.1.1 with|true=>rfl|false=>rw [hx] at hs;cases hs
 ·subst e
  obtain ⟨g1,g2⟩:=h4
  rw [g1]
  dsimp only
  rw [einc]
  exact Q2 ⟨⟨i+1,rfl,by omega,by omega,g2⟩,by show (20 - (i+1)).toNat < (20 - i).toNat;omega⟩
theorem Qem {k n:Nat} {C:St} (hk:Q3G (C.1.2 k).Qo) (hF:Fre (C.1.2 k).Qo.Qv (C.1.2 k) C.2.2.1) (s:List QD):
  Tot (K95.F0 ((s,some k,some n,1,()),C)) (λr=>match r with| .inl x=>x=((s,some k,some n,()),C)| .inr _=>False):=by
 obtain ⟨p1,p8,_⟩:=Q30 hk
 unfold K95.F0
 refine Q22 (λa=>∃p:Int,a=((s,some k,some n,p,()),C)/\1<=p/\p<=9) (λa=>(9 - a.1.2.2.2.1).toNat) (λa ⟨p,e1,q1,q9⟩=>?_) _ _ ⟨1,rfl,Int.le_refl 1,by decide⟩ (by simp only [];omega)
 subst e1
 unfold K95.QO
 dsimp only
 have c1:∀K,K8 K=some ((K.Qo,()),(),()):=λ_=>rfl
 rw [Qq,c1,Qq,Qq]
 dsimp only
 refine Qa (λhh=>?_) (λ_=>Q2 rfl)
 have hh:=Q54 hh
 obtain ⟨f1,f2,_⟩:=hF (p - 1).toNat (by omega)
 obtain ⟨r1,h1,w1,_⟩:=Q9u p (C.1.2 k) hk
 obtain ⟨r2,h2,w2⟩:=QbR p (C.1.2 k) hk
 obtain ⟨r3,h3,w3⟩:=QbD (n:=p) (by omega) ⟨q1,hh⟩ hF
 have v1:r1.1.1=1:=(w1 ⟨q1,hh⟩).trans f1
 have v2:r2.1.1=0:=(w2 ⟨q1,hh⟩).trans f2
 have v3:ofN r3.1.1.length=0:=by rw [w3];rfl
 simp only [Qq,h1,h2,h3,v1,v2,v3,Q75,cond_false]
 rw [Q1g (by omega)]
 refine Q2 ⟨⟨p+1,rfl,by omega,by omega⟩,?_⟩
 show (9 - (p+1)).toNat < (9 - p).toNat
 omega
theorem K95.law:∀(id:Int) (Q11:List (Int)) (script:List (QD)) (more:List (QD)),(Lit.int .i64 id).wf=true->(Q11.length*8<=reachBytes/\∀y∈Q11,(Lit.int .i64 y).wf=true)->(script.length*472<=reachBytes/\∀y∈script,QD.Wf y)->(more.length*472<=reachBytes/\∀y∈more,QD.Wf y)->∃y,K95 id Q11 script more (0,λ_=>U.dft .Q7) (0,λ_=>U.dft .Q1t) (0,λ_=>U.dft .QA) (0,λ_=>U.dft .Q14) (0,λ_=>U.dft .Q15) (0,λ_=>U.dft .Q19) (0,λ_=>U.dft .Q1k) (0,λ_=>[])=some ((true,()),y,()):=by
 intro id' Q11 script more _ _ _ _
 have fin:∀{x:Option ((Bool×Unit)×St×Unit)},Tot x (λr=>r.1=(true,()))->∃y,x=some ((true,()),y,()):=λ⟨r,h1,h2⟩=>by
  obtain ⟨r1,y,_⟩:=r
  have h2:r1=(true,()):=h2
  subst h2
  exact ⟨y,h1⟩
 refine fin ?_
 unfold K95 K95.gen
 obtain ⟨r0,_,h0,h0',hP⟩:=Qcs (c:=Cx.two E0.2 E0.2) (A:=E0) (B:=E0) id' Q11 script 50 (by decide) (by decide) (Qai _ _)
 rw [h0] at h0'
 cases h0'
 have h0:K99 id' Q11 script 50 (0,λ_=>U.dft .Q7) (0,λ_=>U.dft .Q1t) (0,λ_=>U.dft .QA) (0,λ_=>U.dft .Q14) (0,λ_=>U.dft .Q15) (0,λ_=>U.dft .Q19) (0,λ_=>U.dft .Q1k) (0,λ_=>[])=some r0:=h0
 rw [h0,Qq]
 have n0:Option.isSome (none:Option Nat)=false:=rfl
 have n1:∀q:Nat,Option.isSome (some q)=true:=λ_=>rfl
 rcases hP with ⟨p1,_,_,_,p5⟩|⟨p1,_,kA,_,δ,cf,f1,f2,f3,hL⟩
 ·rw [p1,n0]
  simp only [Bool.not_false,cond_true]
  obtain ⟨rc,hc,_⟩:=QbC id' Q11
  rw [hc,Qq,Q9F,Qq]
  have hk:okC rc.1.1=false:=by
   cases hx:okC rc.1.1 with
   |false=>rfl
   |true=>exact absurd ⟨by rw [Q9E,hx];rfl⟩ (p5 rc.1.1 ⟨rc,hc,rfl⟩)
  rw [hk,Q7V]
  exact Q2 rfl
 ·have hlt:(0:Nat) < r0.2.1.1.1:=by rw [kA.n];exact Nat.succ_pos 0
  have hL:Live (Cx.two E0.2 E0.2) δ 0 0 cf r0.2.1 r0.2.1:=hL
  have hc:(r0.2.1.1.2 0).Qo=cf:=hL.k.Q11
  have hcf:Q3G cf:=by have:=hL.k.ok.Q11;rw [hL.k.Q11] at this;exact this
  obtain ⟨A1,r,c',g1,g2,g3,g4,g5⟩:=QbQ hlt hL
  have p1:r0.1.1=some 0:=p1
  have c1:∀K,K8 K=some ((K.Qo,()),(),()):=λ_=>rfl
  have z0:ine 0 0=false:=rfl
  have z1:ine (ofN ([]:List QJ).length) 0=false:=rfl
  unfold Q6C at g3
  rw [p1,n1]
  simp only [Bool.not_true,cond_false,Qq,c1,hc]
  rw [g1]
  simp only [Qq,z0,cond_false,n1,Bool.not_true]
  rw [g3]
  simp only [Qq,z1,cond_false]
  have e1:(Q4R A1 0 r).1.2 0=r.1:=Q5b A1.1.2 0 r.1
  have ec:((Q4R A1 0 r).1.2 0).Qo=cf:=by
   have h1:(Q4R A1 0 r).1.2 r0.2.1.1.1=(Q4R A1 0 r).1.2 r0.2.1.1.1:=rfl
   have h2:=congrArg Q1.Qo g4.k.eq
   have h3:((Q4R A1 0 r).1.2 0).Qo=((Q4R A1 0 r).1.2 r0.2.1.1.1).Qo:=h2
   exact h3.trans g4.k.Q11
  have hF0:=Qem (k:=0) (n:=r0.2.1.1.1) (C:=Q4R A1 0 r) (by rw [ec];exact hcf) (by rw [ec,e1];exact g5) more
  refine Q3 _ hF0 (λr13 h13=>Q2l (λx e=>?_) (λx e=>by subst e;exact h13.elim))
  subst e
  have h13:x=((more,some 0,some r0.2.1.1.1,()),Q4R A1 0 r):=h13
  subst h13
  dsimp only
  refine Q3 _ (Qep (by omega) ⟨_,_,_,rfl,g4⟩ more) (λr15 h15=>Q2l (λx e=>?_) (λx e=>by subst e;exact Q2 h15))
  subst e
  obtain ⟨w1,c2,δ2,cf2,w2,w3⟩:=h15
  rw [w1]
  dsimp only
  refine Q3 _ (Qdx w2 w3) (λr17 h17=>?_)
  rw [h17,Q7V]
  exact Q2 rfl
end Go.Proofs.YtgnabnhggaondabGreat
