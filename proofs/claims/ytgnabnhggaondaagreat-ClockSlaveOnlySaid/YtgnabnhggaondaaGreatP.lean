/- Typed forms of the functions that these statements reach, proved equal to what the model runs, and laws over them. -/
import Derived.Test.YtgnabnhggaondaaGreatS
import Derived.Test.YtgnabnhggaondaaGreatAr3
import Derived.KernelRfl
namespace Go.Proofs.YtgnabnhggaondaaGreat
open Go.Rf
set_option linter.unusedVariables false
set_option linter.unusedSimpArgs false
set_option maxRecDepth 100000
theorem some_bif {α:Type} {c:Bool} {x y:α}:(bif c then some x else some y)=some (bif c then x else y):=by cases c<;>rfl
def Q5h (x lo hi:Int):Option (Bool×Unit):=bif ilt x lo then some (true,()) else some (ilt hi x,())
def inB (x lo hi:Int):Bool:=decide (lo<=x) && decide (x<=hi)
theorem Qb2 (x lo hi:Int):Q5h x lo hi=some (!inB x lo hi,()):=by
 unfold Q5h inB
 by_cases h1:x < lo
 ·rw [Q6j h1];simp [show ¬lo<=x by omega]
 ·rw [Q52 h1]
  by_cases h2:hi < x
  ·rw [Q6j h2];simp [show ¬x<=hi by omega]
  ·rw [Q52 h2];simp [show lo<=x by omega,show x<=hi by omega]
theorem QcK {x lo hi:Int}:inB x lo hi=true↔lo<=x/\x<=hi:=by simp [inB]
def Qax (q:Qx):Bool:=inB q.Q1W 0 255 && inB q.Q1u 0 255 && inB q.Q1F 0 65535
theorem Q8B (q:Qx):Q2m q=some ((Qax q,()),(),()):=by
 unfold Q2m Q2m.gen Qax inB ile
 cases decide (0<=q.Q1W) <;> cases decide (q.Q1W<=255) <;> cases decide (0<=q.Q1u) <;> cases decide (q.Q1u<=255) <;> cases decide (0<=q.Q1F) <;> rfl
noncomputable def Qbc (c:Q9):Option (((Int)×Unit)×(Unit)×(Unit)):=
 (Q0 (Q5h c.QB 1 8) none λr=>(bif r.1 then some ((15,()),(),()) else (Q0 (Q5h c.Q1D 0 127) none λr=>(bif r.1 then some ((15,()),(),()) else (Q0 (Q5h c.Q16 0 255) none λr=>(bif r.1 then some ((15,()),(),()) else (Q0 (Q5h c.Q15 0 255) none λr=>(bif r.1 then some ((15,()),(),()) else (Q0 (Q5h c.Q46 (-3) 4) none λr=>(bif r.1 then some ((15,()),(),()) else (Q0 (Q5h c.Q3h (-3) 4) none λr=>(bif r.1 then some ((15,()),(),()) else (Q0 (Q5h c.Q3l (-3) 4) none λr=>(bif r.1 then some ((15,()),(),()) else (Q0 (Q5h c.Q3U 2 10) none λr=>(bif r.1 then some ((15,()),(),()) else (Q0 (Q5h c.Q4s 1 15) none λr=>(bif r.1 then some ((15,()),(),()) else (Q0 (Q5h c.fKp 0 2000) none λr=>(bif r.1 then some ((15,()),(),()) else (Q0 (Q5h c.fKi 0 2000) none λr=>(bif r.1 then some ((15,()),(),()) else (Q0 (Q5h c.Q5E 0 1000000000) none λr=>(bif r.1 then some ((15,()),(),()) else (Q0 (Q5h c.Q1e.Q3c (-32768) 32767) none λr=>(bif r.1 then some ((15,()),(),()) else (Q0 (Q5h c.Q1e.Q1X 0 63) none λr=>(bif r.1 then some ((15,()),(),()) else (Q0 (Q5h c.Q1e.Q1Q 0 255) none λr=>(bif r.1 then some ((15,()),(),()) else (Q0 (bif ieq c.QI 0 then some (true,()) else (bif ieq c.QI 18446744073709551615 then some (true,()) else (Q0 (Q2m c.Qv) none λr15=>some (!r15.1.1,())))) none λr16=>(bif r16.1 then some ((15,()),(),()) else (Q0 (bif c.Q2t then (bif ilt 1 c.QB then some (true,()) else some (ine c.Qv.Q1W 255,())) else some (false,())) none λr17=>(bif r17.1 then some ((15,()),(),()) else some ((0,()),(),())))))))))))))))))))))))))))))))))))
theorem Qd5 (c:Q9):K51 c=Qbc c:=by kernel_rfl
def QaG (c:Q9):Bool:=inB c.QB 1 8 && inB c.Q1D 0 127 && inB c.Q16 0 255 && inB c.Q15 0 255 && inB c.Q46 (-3) 4 && inB c.Q3h (-3) 4 && inB c.Q3l (-3) 4 && inB c.Q3U 2 10 && inB c.Q4s 1 15 && inB c.fKp 0 2000 && inB c.fKi 0 2000 && inB c.Q5E 0 1000000000 && inB c.Q1e.Q3c (-32768) 32767 && inB c.Q1e.Q1X 0 63 && inB c.Q1e.Q1Q 0 255
def okC (c:Q9):Bool:=QaG c && Qax c.Qv && c.QI !=0 && c.QI !=18446744073709551615 && (!c.Q2t||(c.QB==1 && c.Qv.Q1W==255))
theorem Qbl (c:Q9):K51 c=some ((if okC c then 0 else 15,()),(),()):=by
 rw [Qd5]
 unfold Qbc okC QaG
 simp only [Qb2,Q12,Q8B]
 cases h0:inB c.QB 1 8
 ·simp
 simp only [Bool.not_true,cond_false,Bool.true_and,Bool.and_true]
 cases h1:inB c.Q1D 0 127
 ·simp
 simp only [Bool.not_true,cond_false,Bool.true_and,Bool.and_true]
 cases h2:inB c.Q16 0 255
 ·simp
 simp only [Bool.not_true,cond_false,Bool.true_and,Bool.and_true]
 cases h3:inB c.Q15 0 255
 ·simp
 simp only [Bool.not_true,cond_false,Bool.true_and,Bool.and_true]
 cases h4:inB c.Q46 (-3) 4
 ·simp
 simp only [Bool.not_true,cond_false,Bool.true_and,Bool.and_true]
 cases h5:inB c.Q3h (-3) 4
 ·simp
 simp only [Bool.not_true,cond_false,Bool.true_and,Bool.and_true]
 cases h6:inB c.Q3l (-3) 4
 ·simp
 simp only [Bool.not_true,cond_false,Bool.true_and,Bool.and_true]
 cases h7:inB c.Q3U 2 10
 ·simp
 simp only [Bool.not_true,cond_false,Bool.true_and,Bool.and_true]
 cases h8:inB c.Q4s 1 15
 ·simp
 simp only [Bool.not_true,cond_false,Bool.true_and,Bool.and_true]
 cases h9:inB c.fKp 0 2000
 ·simp
 simp only [Bool.not_true,cond_false,Bool.true_and,Bool.and_true]
 cases h10:inB c.fKi 0 2000
 ·simp
 simp only [Bool.not_true,cond_false,Bool.true_and,Bool.and_true]
 cases h11:inB c.Q5E 0 1000000000
 ·simp
 simp only [Bool.not_true,cond_false,Bool.true_and,Bool.and_true]
 cases h12:inB c.Q1e.Q3c (-32768) 32767
 ·simp
 simp only [Bool.not_true,cond_false,Bool.true_and,Bool.and_true]
 cases h13:inB c.Q1e.Q1X 0 63
 ·simp
 simp only [Bool.not_true,cond_false,Bool.true_and,Bool.and_true]
 cases h14:inB c.Q1e.Q1Q 0 255
 ·simp
 simp only [Bool.not_true,cond_false,Bool.true_and,Bool.and_true]
 cases hq:Qax c.Qv
 ·by_cases e1:c.QI=0
  ·simp [ieq,e1,Q12]
  ·by_cases e2:c.QI=18446744073709551615
   ·simp [ieq,e2,Q12]
   ·simp [ieq,e1,e2,Q12]
 by_cases e1:c.QI=0
 ·simp [ieq,e1,Q12]
 by_cases e2:c.QI=18446744073709551615
 ·simp [ieq,e2,Q12]
 have hp:=QcK.1 h0
 have f1:(c.QI==0)=false:=by simpa using e1
 have f2:(c.QI==18446744073709551615)=false:=by simpa using e2
 cases hs:c.Q2t
 ·simp [ieq,f1,f2,e1,e2,Q12]
 by_cases e3:c.QB=1
 ·by_cases e4:c.Qv.Q1W=255
  ·simp [ieq,ine,ilt,f1,f2,e1,e2,e3,e4,Q12]
  ·have f4:(c.Qv.Q1W==255)=false:=by simpa using e4
   have g4:(c.Qv.Q1W !=255)=true:=by simpa using e4
   simp [ieq,ine,ilt,f1,f2,e1,e2,e3,e4,f4,g4,Q12]
 ·have:ilt 1 c.QB=true:=Q6j (by omega)
  simp [ieq,f1,f2,e1,e2,e3,this,Q12]
def Tot {α:Type} (x:Option α) (Q:α->Prop):Prop:=∃a,x=some a/\Q a
theorem Q2 {α:Type} {a:α} {Q:α->Prop} (h:Q a):Tot (some a) Q:=⟨a,rfl,h⟩
theorem Q7r {α:Type} {x:Option α} {P Q:α->Prop} (h:Tot x P) (hq:∀a,P a->Q a):Tot x Q:=let ⟨a,h1,h2⟩:=h;⟨a,h1,hq a h2⟩
theorem Q3 {α β:Type} {x:Option α} {k:α->Option β} {Q:β->Prop} (P:α->Prop) (h:Tot x P) (hk:∀a,P a->Tot (k a) Q):Tot (Q0 x none k) Q:=by
 obtain ⟨a,rfl,h2⟩:=h
 exact hk a h2
theorem Qa {α:Type} {b:Bool} {x y:Option α} {Q:α->Prop} (h:b=true->Tot x Q) (h2:b=false->Tot y Q):Tot (bif b then x else y) Q:=by
 cases b with
 |true=>exact h rfl
 |false=>exact h2 rfl
theorem QM {α:Type} {b:Bool} {x:Option α} {Q:α->Prop} (hb:b=true) (h:Tot x Q):Tot (bif b then x else none) Q:=by subst hb;exact h
theorem Q2v {α β γ:Type} {x:α⊕β} {f:α->Option γ} {g:β->Option γ} {Q:γ->Prop} (h:∀a,x= .inl a->Tot (f a) Q) (h2:∀b,x= .inr b->Tot (g b) Q):Tot (Q3V x f g) Q:=by
 cases x with
 |inl a=>exact h a rfl
 |inr b=>exact h2 b rfl
theorem Q2f {α β:Type} {step:α->Option (α⊕β)} (I:α->Prop) (m:α->Nat) {Q:β->Prop} (h:∀a,I a->Tot (step a) (λr=>match r with| .inl a'=>I a'/\m a' < m a| .inr b=>Q b)):∀(N:Nat) (a:α),I a->m a < N->Tot (Z8 N step a) Q
 |0,a,_,hm=>absurd hm (Nat.not_lt_zero _)
 |N+1,a,ha,hm=>by
  obtain ⟨r,hs,hr⟩:=h a ha
  unfold Z8
  rw [hs]
  cases r with
  |inl a'=>exact Q2f I m h N a' hr.1 (by have:=hr.2;omega)
  |inr b=>exact ⟨b,rfl,hr⟩
class End {α:Type} (x:Option α):Prop where
 out:Tot x (λ_=>True)
theorem Q2g {a b:Int} (h:ilt a b=true):a < b:=by unfold ilt at h;simpa using h
theorem Q36 {a b:Int} (h:ilt a b=false):¬a < b:=by unfold ilt at h;simpa using h
theorem Q5s {a b:Int} (h:ile a b=true):a<=b:=by unfold ile at h;simpa using h
theorem ile_f {a b:Int} (h:ile a b=false):¬a<=b:=by unfold ile at h;simpa using h
theorem Q2R {a b:Int} {c:Nat} (h0:0<=a) (h1:a<=b) (h2:b<=(c:Int)):le3 a b c=true:=by
 unfold le3
 rw [Q4P h0,Q4P h1,Q4P h2];rfl
abbrev Q47 (b:List UInt8):Prop:=b.length<=1000000000000
theorem Q9P (b:List UInt8) (at' n:Int) (hb:Q47 b):Tot (Q2a b at' n) (λr=>r.1.1=false->0<=n/\0<=at'/\at'+n<=(b.length:Int)):=by
 unfold Q2a Q2a.gen
 refine Qa (λh1=>Q2 (λh=>by cases h)) (λh1=>Qa (λh2=>Q2 (λh=>by cases h)) (λh2=>Qa (λh3=>Q2 (λh=>by cases h)) (λh3=>Q2 (λh=>?_))))
 have h1:=Q36 h1
 have h2:=Q36 h2
 have h3:=Q36 h3
 have h4:=Q36 h
 unfold ofN at h3 h4
 rw [Q4V (by omega)] at h4
 omega
theorem QbG (b:List UInt8) (hb:Q47 b) (h8:b.length<=1000):Tot (QD b) (λr=>True):=by
 unfold QD QD.gen
 refine Q3 (λ_=>True) ?_ (λr _=>Q2 trivial)
 unfold QD.F0
 refine Q2f (λa=>a.1.2.1=b/\a.1.2.2.1=(b.length:Int)/\0<=a.1.2.2.2.1) (λa=>((b.length:Int) - a.1.2.2.2.1).toNat) (λa ⟨h1,h2,h3⟩=>?_) _ _ ⟨rfl,rfl,Int.le_refl 0⟩ (by simp only [];omega)
 unfold QD.QU
 refine Qa (λh=>?_) (λh=>Q2 trivial)
 have h:=Q2g h
 refine QM ?_ (Q2 ?_)
 ·rw [h1]
  unfold inR
  simp;omega
 ·simp only []
  rw [Q1i (by omega)]
  exact ⟨⟨h1,h2,by omega⟩,by omega⟩
theorem Qaz {b:List UInt8} {at' n:Int} (h0:0<=at') (h1:0<=n) (h2:at'+n<=(b.length:Int)) (hb:Q47 b):le3 at' (Q4 .i64 at' n) b.length=true/\(List.drop (Int.toNat at') (List.take (Int.toNat (Q4 .i64 at' n)) b)).length=n.toNat:=by
 have e:Q4 .i64 at' n=at'+n:=Q1i (by omega)
 rw [e]
 refine ⟨Q2R h0 (by omega) h2,?_⟩
 rw [List.length_drop,List.length_take]
 omega
theorem Q4t (b:List UInt8) (at' n:Int) (hb:Q47 b):Tot (Q41 b at' n) (λr=>True):=by
 unfold Q41 Q41.gen
 refine Q3 (λr=>r.1=false->1<=n/\n<=7/\0<=at'/\at'+n<=(b.length:Int)) ?_ (λr hr=>Qa (λ_=>Q2 trivial) (λh=>?_))
 ·refine Qa (λ_=>Q2 λh=>by cases h) (λh1=>Qa (λ_=>Q2 λh=>by cases h) (λh2=>Q3 _ (Q9P b at' n hb) (λr hr=>Q2 λh=>?_)))
  have:=hr h
  have h1:=Q36 h1
  have h2:=Q36 h2
  omega
 ·obtain ⟨h1,h2,h3,h4⟩:=hr h
  obtain ⟨h5,h6⟩:=Qaz h3 (by omega) h4 hb
  refine QM h5 (Q3 _ (QbG _ (by unfold Q47;omega) (by omega)) (λ_ _=>Q2 trivial))
theorem Q7M (b:List UInt8) (at' n:Int) (hb:Q47 b):Tot (Q1o b at' n) (λr=>True):=by
 unfold Q1o Q1o.gen
 refine Q3 (λr=>r.1=false->1<=n/\n<=8/\0<=at'/\at'+n<=(b.length:Int)) ?_ (λr hr=>Qa (λ_=>Q2 trivial) (λh=>?_))
 ·refine Qa (λ_=>Q2 λh=>by cases h) (λh1=>Qa (λ_=>Q2 λh=>by cases h) (λh2=>Q3 _ (Q9P b at' n hb) (λr hr=>Q2 λh=>?_)))
  have:=hr h
  have h1:=Q36 h1
  have h2:=Q36 h2
  omega
 ·obtain ⟨h1,h2,h3,h4⟩:=hr h
  obtain ⟨h5,h6⟩:=Qaz h3 (by omega) h4 hb
  have e:ile 0 (Q1s .i64 64 (Q3n .i64 8 n))=true:=by
   rw [Q8W (by omega),Q4V (by omega)]
   exact Q4P (by omega)
  exact QM h5 (Q3 _ (QbG _ (by unfold Q47;omega) (by omega)) (λ_ _=>QM e (QM e (Q2 trivial))))
theorem Q7v (b:List UInt8) (at':Int) (hb:Q47 b):Tot (Q3K b at') (λr=>True):=by
 unfold Q3K Q3K.gen
 exact Q3 _ (Q7M b at' 8 hb) (λ_ _=>Q2 trivial)
theorem QbM (b:List UInt8) (v n:Int) (hb:b.length<=100000000):Tot (Q3s b v n) (λr=>r.1.1.length<=b.length+8/\b.length<=r.1.1.length):=by
 have hcut:0<=Z4 true 0 (Z4 false n 8)/\Z4 true 0 (Z4 false n 8)<=8:=by
  simp only [Z4,cond_true,cond_false,Q9e,imax]
  split <;> split <;> omega
 unfold Q3s Q3s.gen
 generalize Z4 true 0 (Z4 false n 8)=k at hcut
 have hle:le3 (ofN 0) (ofN b.length) b.length=true:=Q2R (by unfold ofN;omega) (by unfold ofN;omega) (by unfold ofN;omega)
 rw [hle,Q4A]
 simp only [cond_true]
 have hdt:List.drop (Int.toNat (ofN 0)) (List.take (Int.toNat (ofN b.length)) b)=b:=by
  unfold ofN
  simp
 rw [hdt]
 refine Qa (λh=>?_) (λ_=>Q2 ⟨Nat.le_add_right _ _,Nat.le_refl _⟩)
 have h:=Q2g h
 have e1:Q1s .i64 k 1=k - 1:=Q4V (by omega)
 have e2:Q3n .i64 8 (k - 1)=8*(k - 1):=Q8W (by omega)
 rw [e1,e2]
 refine QM (Q4P (by omega)) (QM (Q2P (by simp only [List.length_cons];show (b.length+((Qm UInt8).length+1))*1<=_;simp only [Qm,List.length_nil];omega)) (Q3 (λr=>r.1.1.length<=b.length+8/\b.length<=r.1.1.length) ?_ (λr hr=>Q2 hr)))
 unfold Q3s.F0
 refine Q2f (λa=>0<=a.1.2.2.1/\a.1.2.2.1<=7/\(a.1.1.length:Int)+a.1.2.2.1<=b.length+8/\b.length<=a.1.1.length) (λa=>a.1.2.2.1.toNat) (λa ⟨h1,h2,h3,h4⟩=>?_) _ _ ⟨by simp only [];omega,by simp only [];omega,by simp only [List.length_append,List.length_cons,Qm,List.length_nil];omega,by simp only [List.length_append];omega⟩ (by simp only [];omega)
 unfold Q3s.QU
 refine Qa (λh=>?_) (λ_=>Q2 ⟨by simp only [];omega,h4⟩)
 have h:=Q2g h
 have e1:Q1s .i64 a.1.2.2.1 1=a.1.2.2.1 - 1:=Q4V (by omega)
 have e2:Q3n .i64 8 (a.1.2.2.1 - 1)=8*(a.1.2.2.1 - 1):=Q8W (by omega)
 rw [e1,e2]
 refine QM (Q4P (by omega)) (QM (Q2P (by simp only [List.length_cons,Qm,List.length_nil];omega)) (Q2 ?_))
 refine ⟨⟨by simp only [];omega,by simp only [];omega,by simp only [List.length_append,List.length_cons,Qm,List.length_nil];omega,by simp only [List.length_append];omega⟩,by simp only [];omega⟩
instance {α:Type} (a:α):End (some a):=⟨Q2 trivial⟩
instance {α:Type} (b:Bool) (x y:Option α) [End x] [End y]:End (bif b then x else y):=⟨Qa (λ_=>End.out) (λ_=>End.out)⟩
instance {α β:Type} (x:Option α) (k:α->Option β) [h:End x] [h2:∀a,End (k a)]:End (Q0 x none k):=⟨Q3 _ h.out λa _=>(h2 a).out⟩
instance {α β γ:Type} (x:α⊕β) (f:α->Option γ) (g:β->Option γ) [h:∀a,End (f a)] [h2:∀a,End (g a)]:End (Q3V x f g):=⟨Q2v (λa _=>(h a).out) (λa _=>(h2 a).out)⟩
theorem ee {α:Type} {x:Option α} [h:End x]:Tot x (λ_=>True):=h.out
instance (clock:Int):End (K52 clock):=by unfold K52 K52.gen;infer_instance
instance (q:Qx):End (Q2m q):=by unfold Q2m Q2m.gen;infer_instance
instance (c:Q9):End (K51 c):=⟨by
 unfold K51 K51.gen
 repeat' first
  |exact Q2 trivial
  |refine Qa (λ_=>?_) (λ_=>?_)
  |refine Q2v (λ_ _=>?_) (λ_ _=>?_)
  |refine Q3 _ (ee (x:=Q2m _)) (λ_ _=>?_)
  |exact ee
  |refine Q3 (λ_=>True) ?_ (λ_ _=>?_)⟩
instance (c:Q9):End (Q2G c):=by unfold Q2G Q2G.gen;infer_instance
instance (kp:Int) (ki:Int) (step:Int) (g5:Fm Qo):End (Q3o kp ki step g5):=by unfold Q3o Q3o.gen;infer_instance
instance (n:Int) (g9:Fm Qh):End (K95 n g9):=by unfold K95 K95.gen;infer_instance
instance (n:Int) (h0:Q1):End (K30 n h0):=by unfold K30 K30.gen;infer_instance
instance (own:Int) (port:Int) (window:Int) (g6:Fm Qe):End (K61 own port window g6):=by unfold K61 K61.gen;infer_instance
instance (g10:Fm Qz):End (Q2L g10):=by unfold Q2L Q2L.gen;infer_instance
instance (self:Qd) (domain:Int) (g7:Fm Qg):End (K60 self domain g7):=by unfold K60 K60.gen;infer_instance
instance (self:Qd) (domain:Int) (g8:Fm Qb):End (Q2X self domain g8):=by unfold Q2X Q2X.gen;infer_instance
instance (state:Int):End (Q3J state):=by unfold Q3J Q3J.gen;infer_instance
instance (state:Int):End (Q38 state):=by unfold Q38 Q38.gen;infer_instance
instance (state:Int) (event:Int) (slaveOnly:Bool):End (Q1h state event slaveOnly):=⟨by
 unfold Q1h Q1h.gen
 repeat' first
  |exact Q2 trivial
  |refine Qa (λ_=>?_) (λ_=>?_)
  |refine Q2v (λ_ _=>?_) (λ_ _=>?_)
  |refine Q3 _ (ee (x:=Q2m _)) (λ_ _=>?_)
  |exact ee
  |refine Q3 (λ_=>True) ?_ (λ_ _=>?_)⟩
instance (n:Int) (h0:QS):End (Q37 n h0):=by unfold Q37 Q37.gen;infer_instance
instance (state:Int):End (Q4c state):=by unfold Q4c Q4c.gen;infer_instance
instance (at_1:Int) (now:Int) (h0:Qe):End (K68 at_1 now h0):=by unfold K68 K68.gen;infer_instance
instance (h0:QS):End (Q2H h0):=by unfold Q2H Q2H.gen;infer_instance
instance (h0:Qe):End (K64 h0):=by unfold K64 K64.gen;infer_instance
instance (h0:QS):End (Q21 h0):=by unfold Q21 Q21.gen;infer_instance
instance (p:Nat) (h0:Q1):End (K20 p h0):=by unfold K20 K20.gen;infer_instance
instance (x_0:Int):End (K44 x_0):=by unfold K44 K44.gen;infer_instance
instance (x_0:Int) (y:Int):End (K41 x_0 y):=by unfold K41 K41.gen;infer_instance
instance (x_0:Int):End (K45 x_0):=by unfold K45 K45.gen;infer_instance
instance (x_0:Int) (y:Int):End (K42 x_0 y):=by unfold K42 K42.gen;infer_instance
instance (c:Q9):End (K49 c):=by unfold K49 K49.gen;infer_instance
instance (v:Qj) (t:Q1b):End (Q2C v t):=by unfold Q2C Q2C.gen;infer_instance
instance (state:Int) (decision:Int) (same:Bool) (slaveOnly:Bool):End (Q3q state decision same slaveOnly):=by unfold Q3q Q3q.gen;infer_instance
instance (h0:Qz):End (Q4g h0):=by unfold Q4g Q4g.gen;infer_instance
instance (h0:Qg):End (K56 h0):=by unfold K56 K56.gen;infer_instance
instance (h0:Qh):End (K92 h0):=by unfold K92 K92.gen;infer_instance
instance (c:Q9) (p:QX) (port:Int) (seq:Int):End (Q1E c p port seq):=by unfold Q1E Q1E.gen;infer_instance
instance (typ:Int):End (K74 typ):=by unfold K74 K74.gen;infer_instance
instance (v:Int) (least:Int) (most:Int):End (K77 v least most):=by unfold K77 K77.gen;infer_instance
instance (p:Qd):End (K80 p):=by unfold K80 K80.gen;infer_instance
instance (m:Q8):End (K72 m):=⟨by
 unfold K72 K72.gen
 repeat' first
  |exact Q2 trivial
  |refine Qa (λ_=>?_) (λ_=>?_)
  |refine Q2v (λ_ _=>?_) (λ_ _=>?_)
  |refine Q3 _ (ee (x:=Q2m _)) (λ_ _=>?_)
  |exact ee
  |refine Q3 (λ_=>True) ?_ (λ_ _=>?_)⟩
instance (typ:Int):End (K6 typ):=by unfold K6 K6.gen;infer_instance
instance (typ:Int):End (K7 typ):=by unfold K7 K7.gen;infer_instance
instance (m:Q8):End (K5 m):=by unfold K5 K5.gen;infer_instance
instance (t:Int):End (Q3E t):=by unfold Q3E Q3E.gen;infer_instance
instance (v:Int) (least:Int) (most:Int):End (K4 v least most):=by unfold K4 K4.gen;infer_instance
instance (m:Q8):End (K0 m):=⟨by
 unfold K0 K0.gen
 repeat' first
  |exact Q2 trivial
  |refine Qa (λ_=>?_) (λ_=>?_)
  |refine Q2v (λ_ _=>?_) (λ_ _=>?_)
  |refine Q3 _ (ee (x:=Q2m _)) (λ_ _=>?_)
  |exact ee
  |refine Q3 (λ_=>True) ?_ (λ_ _=>?_)⟩
instance (v:Int) (least:Int) (most:Int):End (Q1y v least most):=by unfold Q1y Q1y.gen;infer_instance
instance (t:Qi):End (Q2J t):=by unfold Q2J Q2J.gen;infer_instance
instance (typ:Int):End (K76 typ):=by unfold K76 K76.gen;infer_instance
instance (seq:Int):End (Q3e seq):=by unfold Q3e Q3e.gen;infer_instance
instance (h0:Qb):End (Q3T h0):=by unfold Q3T Q3T.gen;infer_instance
instance (seq:Int) (h0:Qb):End (Q3M seq h0):=by unfold Q3M Q3M.gen;infer_instance
instance (seq:Int) (a_2:Int) (h0:Qg):End (K57 seq a_2 h0):=by unfold K57 K57.gen;infer_instance
instance (b:List (UInt8)) (at_1:Int) (n:Int):End (Q2a b at_1 n):=by unfold Q2a Q2a.gen;infer_instance
instance (typ:Int):End (K2 typ):=by unfold K2 K2.gen;infer_instance
instance (n:Int) (h0:Q1):End (K25 n h0):=by unfold K25 K25.gen;infer_instance
instance (t:Qi):End (Q1q t):=by unfold Q1q Q1q.gen;infer_instance
instance (corr:Int):End (Q39 corr):=by unfold Q39 Q39.gen;infer_instance
instance (m:Q8):End (Q4m m):=by unfold Q4m Q4m.gen;infer_instance
instance (a:Int) (b:Int):End (Q1A a b):=by unfold Q1A Q1A.gen;infer_instance
instance (sync:Q8) (follow:Q8) (at_3:Int) (h0:Qz):End (Q2I sync follow at_3 h0):=by unfold Q2I Q2I.gen;infer_instance
instance (x_1:Q8) (at_2:Int) (h0:Qz):End (Q3m x_1 at_2 h0):=by unfold Q3m Q3m.gen;infer_instance
instance (x_1:Q8) (h0:Qz):End (Q25 x_1 h0):=by unfold Q25 Q25.gen;infer_instance
instance (h0:Qo):End (Q3b h0):=by unfold Q3b Q3b.gen;infer_instance
instance (v:Int) (most:Int):End (Q2l v most):=by unfold Q2l Q2l.gen;infer_instance
instance (m:Q8) (self:Qd) (at_2:Int) (log:Int):End (K55 m self at_2 log):=by unfold K55 K55.gen;infer_instance
instance (m:Q8) (h0:Qg):End (K58 m h0):=by unfold K58 K58.gen;infer_instance
instance (a:Int) (b:Int):End (Q2n a b):=by unfold Q2n Q2n.gen;infer_instance
instance (x_0:Nat):End (K90 x_0):=by unfold K90 K90.gen;infer_instance
instance (m:Q8) (self:Qd) (at_2:Int):End (Q3B m self at_2):=by unfold Q3B Q3B.gen;infer_instance
instance (m:Q8) (typ:Int) (h0:Qb):End (Q2W m typ h0):=by unfold Q2W Q2W.gen;infer_instance
instance (m:Q8) (at_2:Int) (h0:Qb):End (Q3I m at_2 h0):=by unfold Q3I Q3I.gen;infer_instance
instance (m:Q8) (h0:Qb):End (Q3S m h0):=by unfold Q3S Q3S.gen;infer_instance
instance (id:Int):End (K98 id):=by unfold K98 K98.gen;infer_instance
instance (target:Qd) (port:Qd):End (K81 target port):=by unfold K81 K81.gen;infer_instance
instance (id:Int):End (K97 id):=by unfold K97 K97.gen;infer_instance
instance (id:Int):End (Q3k id):=by unfold Q3k Q3k.gen;infer_instance
instance (id:Int):End (Q4k id):=by unfold Q4k Q4k.gen;infer_instance
instance (id:Int):End (Q4n id):=by unfold Q4n Q4n.gen;infer_instance
instance (v:Int):End (Q1m v):=by unfold Q1m Q1m.gen;infer_instance
instance (seq:Int) (at_2:Int) (h0:Qg):End (K59 seq at_2 h0):=by unfold K59 K59.gen;infer_instance
instance (seq:Int) (at_2:Int) (h0:Qb):End (Q22 seq at_2 h0):=by unfold Q22 Q22.gen;infer_instance
instance (m:Q8) (self:Qd) (at_2:Int):End (Q3P m self at_2):=by unfold Q3P Q3P.gen;infer_instance
instance (clock:Int):End (Q2S clock):=by unfold Q2S Q2S.gen;infer_instance
instance (x_0:QF):End (K89 x_0):=by unfold K89 K89.gen;infer_instance
instance (h0:Q1):End (K8 h0):=by unfold K8 K8.gen;infer_instance
instance (v:Int) (from_1:Int) (to_2:Int):End (Q2Z v from_1 to_2):=by unfold Q2Z Q2Z.gen;infer_instance
instance (q:Qx):End (Q3G q):=by unfold Q3G Q3G.gen;infer_instance
instance (c:Q9):End (Q2i c):=⟨by
 unfold Q2i Q2i.gen
 repeat' first
  |exact Q2 trivial
  |refine Qa (λ_=>?_) (λ_=>?_)
  |refine Q2v (λ_ _=>?_) (λ_ _=>?_)
  |refine Q3 _ (ee (x:=Q2m _)) (λ_ _=>?_)
  |exact ee
  |refine Q3 (λ_=>True) ?_ (λ_ _=>?_)⟩
theorem may_e (t:Int):Tot (Q3E t) (λ_=>True):=by
 unfold Q3E Q3E.gen
 repeat' first
  |exact Q2 trivial
  |refine Qa (λ_=>?_) (λ_=>?_)
  |refine Q3 (λ_=>True) ?_ (λ_ _=>?_)
theorem Qee (b:List UInt8) (a:Int) (hb:Q47 b):Tot (Q2h b a) (λ_=>True):=by
 unfold Q2h Q2h.gen
 repeat' first
  |exact Q2 trivial
  |refine Qa (λ_=>?_) (λ_=>?_)
  |refine Q3 _ (Q4t _ _ _ hb) (λ_ _=>?_)
  |refine Q3 _ (may_e _) (λ_ _=>?_)
  |refine Q3 (λ_=>True) ?_ (λ_ _=>?_)
theorem Q9D (b:List UInt8) (a:Int) (hb:Q47 b):Tot (K79 b a) (λ_=>True):=by
 unfold K79 K79.gen
 repeat' first
  |exact Q2 trivial
  |refine Qa (λ_=>?_) (λ_=>?_)
  |refine Q3 _ (Q4t _ _ _ hb) (λ_ _=>?_)
  |refine Q3 _ (Q7v _ _ hb) (λ_ _=>?_)
  |refine Q3 (λ_=>True) ?_ (λ_ _=>?_)
theorem Qby (b:List UInt8) (a:Int) (hb:Q47 b):Tot (Q1O b a) (λ_=>True):=by
 unfold Q1O Q1O.gen
 repeat' first
  |exact Q2 trivial
  |refine Qa (λ_=>?_) (λ_=>?_)
  |refine Q3 _ (Q4t _ _ _ hb) (λ_ _=>?_)
  |refine Q3 (λ_=>True) ?_ (λ_ _=>?_)
theorem QcD (t:Int):Tot (K74 t) (λ_=>True):=by
 unfold K74 K74.gen
 repeat' first
  |exact Q2 trivial
  |refine Qa (λ_=>?_) (λ_=>?_)
  |refine Q3 (λ_=>True) ?_ (λ_ _=>?_)
theorem Qcl (a b c:Int):Tot (K77 a b c) (λ_=>True):=by
 unfold K77 K77.gen
 repeat' first
  |exact Q2 trivial
  |refine Qa (λ_=>?_) (λ_=>?_)
  |refine Q3 (λ_=>True) ?_ (λ_ _=>?_)
theorem Q9g {k:Nat} {b:List UInt8} (h:ilt (ofN b.length) 34=false) (hk:k < 34):inR (k:Int) b.length=true:=by
 have:=Q36 h
 unfold ofN at this
 unfold inR
 simp;omega
theorem Q1B {i:Int} {n:Nat} (h0:0<=i) (h1:i < (n:Int)):inR i n=true:=by unfold inR;simp;omega
theorem Q6K (l:List Int) (hl:l.length<=1000):Tot (K43 l) (λr=>∀P:Int->Prop,P 0->(∀x∈l,P x)->P r.1.1):=by
 unfold K43 K43.gen
 refine Q3 (λr=>match r with| .inl b=>∀P:Int->Prop,P 0->(∀x∈l,P x)->P b.1.1| .inr b=>∀P:Int->Prop,P 0->(∀x∈l,P x)->P b.1.1) ?_ (λr hr=>Q2v (λb hb=>Q2 (by subst hb;exact hr)) (λb hb=>Q2 (by subst hb;exact hr)))
 unfold K43.F0
 refine Q2f (λa=>a.1.1=0/\a.1.2.1=l/\a.1.2.2.1=(l.length:Int)/\0<=a.1.2.2.2.1) (λa=>((l.length:Int) - a.1.2.2.2.1).toNat) (λa ⟨h1,h2,h3,h4⟩=>?_) _ _ ⟨rfl,rfl,rfl,Int.le_refl 0⟩ (by simp only [];omega)
 unfold K43.QU
 refine Qa (λh=>?_) (λh=>Q2 λP p0 _=>by show P a.1.1;rw [h1];exact p0)
 have h:=Q2g h
 rw [h2]
 refine QM (Q1B h4 (by omega)) (Qa (λ_=>Q2 λP _ hP=>?_) (λ_=>Q2 ?_))
 ·have hlt:a.1.2.2.2.1.toNat < l.length:=by omega
  show P (l.getD a.1.2.2.2.1.toNat 0)
  rw [Q8Z hlt]
  exact hP _ (List.getElem_mem hlt)
 ·show (a.1.1=0/\l=l/\a.1.2.2.1=(l.length:Int)/\0<=Q4 .i64 a.1.2.2.2.1 1)/\((l.length:Int) - Q4 .i64 a.1.2.2.2.1 1).toNat < ((l.length:Int) - a.1.2.2.2.1).toNat
  rw [Q1i (by omega)]
  exact ⟨⟨h1,rfl,h3,by omega⟩,by omega⟩
abbrev Sgn (x:Int):Prop:= -1<=x/\x<=1
theorem Q7l (a b:Int):Tot (K41 a b) (λr=>Sgn r.1.1):=by
 unfold K41 K41.gen
 repeat' first
  |exact Q2 ⟨by decide,by decide⟩
  |refine Qa (λ_=>?_) (λ_=>?_)
  |refine Q3 _ ee (λ_ _=>?_)
  |refine Q3 (λ_=>True) ?_ (λ_ _=>?_)
  |exact Q2 trivial
theorem Qbv (a b:Int):Tot (K42 a b) (λr=>Sgn r.1.1):=by
 unfold K42 K42.gen
 repeat' first
  |exact Q2 ⟨by decide,by decide⟩
  |refine Qa (λ_=>?_) (λ_=>?_)
  |refine Q3 _ ee (λ_ _=>?_)
  |refine Q3 (λ_=>True) ?_ (λ_ _=>?_)
  |exact Q2 trivial
theorem Qe5 (a b:Qx):Tot (Q2r a b) (λr=>Sgn r.1.1):=by
 unfold Q2r Q2r.gen
 refine Q3 _ (Q7l _ _) (λr0 h0=>Q3 _ (Q7l _ _) (λr1 h1=>Q3 _ (Q7l _ _) (λr2 h2=>Q3 _ (Q6K _ (by simp [Qm])) (λr3 h3=>Q2 ?_))))
 refine h3 Sgn ⟨by decide,by decide⟩ λx hx=>?_
 simp only [Qm,List.mem_cons,List.not_mem_nil,or_false] at hx
 rcases hx with rfl|rfl|rfl <;> assumption
theorem QbF (a b:Qd):Tot (K78 a b) (λr=>Sgn r.1.1):=by
 unfold K78 K78.gen
 refine Qa (λ_=>Q2 ⟨by decide,by decide⟩) (λ_=>Q3 _ (Qbv _ _) (λr0 h0=>Q3 _ (Q7l _ _) (λr1 h1=>Q3 _ (Q6K _ (by simp [Qm])) (λr3 h3=>Q2 ?_))))
 refine h3 Sgn ⟨by decide,by decide⟩ λx hx=>?_
 simp only [Qm,List.mem_cons,List.not_mem_nil,or_false] at hx
 rcases hx with rfl|rfl <;> assumption
theorem QcL (a b:Qj):Tot (K48 a b) (λ_=>True):=by
 unfold K48 K48.gen
 repeat' first
  |exact Q2 trivial
  |refine Qa (λ_=>?_) (λ_=>?_)
  |refine Q3 _ (Q7l _ _) (λ_ _=>?_)
  |refine Q3 _ (Qbv _ _) (λ_ _=>?_)
  |refine Q3 _ (Qe5 _ _) (λ_ _=>?_)
theorem QdM (a:Qj):Tot (K50 a) (λ_=>True):=by
 unfold K50 K50.gen
 refine Q3 _ (QbF _ _) (λr h=>QM ?_ (Q2 trivial))
 rw [Q1i (by have:=h.1;have:=h.2;omega)]
 exact Q1B (by have:=h.1;omega) (by have:=h.2;omega)
theorem Q9R (a b:Qj):Tot (K47 a b) (λ_=>True):=by
 unfold K47 K47.gen
 repeat' first
  |exact Q2 trivial
  |refine Qa (λ_=>?_) (λ_=>?_)
  |refine Q3 _ (QcL _ _) (λ_ _=>?_)
  |refine Q3 _ (Q7l _ _) (λ_ _=>?_)
  |refine Q3 _ (QdM _) (λ_ _=>?_)
  |refine Q3 _ (QbF _ _) (λ_ _=>?_)
  |refine Q3 _ (Q6K _ (by simp [Qm])) (λ_ _=>?_)
  |refine Q3 (λ_=>True) ?_ (λ_ _=>?_)
theorem Qe6 (l:List Qj) (hl:l.length<=1000):Tot (K46 l) (λr=>r.1.1 < (l.length:Int)):=by
 unfold K46 K46.gen
 refine Q3 (λr=>r.1.1 < (l.length:Int)) ?_ (λr hr=>Q2 hr)
 unfold K46.F0
 refine Q2f (λa=>a.1.1=l/\a.1.2.1 < (l.length:Int)/\a.1.2.2.1=l/\a.1.2.2.2.1=(l.length:Int)/\0<=a.1.2.2.2.2.1) (λa=>((l.length:Int) - a.1.2.2.2.2.1).toNat) (λa ⟨h1,h2,h3,h4,h5⟩=>?_) _ _ ⟨rfl,by show (-1:Int) < _;omega,rfl,rfl,Int.le_refl 0⟩ (by simp only [];omega)
 unfold K46.QU
 refine Qa (λh=>?_) (λ_=>Q2 h2)
 have h:=Q2g h
 rw [h1,h3]
 refine QM (Q1B h5 (by omega)) (Q3 (λ_=>True) ?_ (λr1 _=>Q3 (λb=>b.1.1=l/\b.1.2.1 < (l.length:Int)/\b.1.2.2=a.1.2.2) ?_ (λr2 hr2=>Q2 ?_)))
 ·refine Qa (λ_=>Q2 trivial) (λhn=>?_)
  have hn:=Q36 hn
  exact QM (Q1B (by omega) h2) (Q3 _ (Q9R _ _) (λ_ _=>Q2 trivial))
 ·refine Qa (λ_=>Q2 ⟨rfl,by show a.1.2.2.2.2.1 < _;omega,by rw [←h3]⟩) (λ_=>Q2 ⟨h1,h2,rfl⟩)
 ·obtain ⟨g1,g2,g3⟩:=hr2
  show (r2.1.1=l/\r2.1.2.1 < (l.length:Int)/\r2.1.2.2.1=l/\r2.1.2.2.2.1=(l.length:Int)/\0<=Q4 .i64 r2.1.2.2.2.2.1 1)/\((l.length:Int) - Q4 .i64 r2.1.2.2.2.2.1 1).toNat < ((l.length:Int) - a.1.2.2.2.2.1).toNat
  rw [g3,Q1i (by omega)]
  exact ⟨⟨g1,g2,h3,h4,by omega⟩,by omega⟩
theorem Qcp (d:Qj) (ls:Bool) (b p:Option Qj) (hr:Bool):Tot (K54 d ls b p hr) (λ_=>True):=by
 unfold K54 K54.gen
 cases b <;> cases p <;>
 repeat' first
  |exact Q2 trivial
  |refine Qa (λh=>?_) (λh=>?_)
  |refine Q2v (λ_ _=>?_) (λ_ _=>?_)
  |refine Q3 _ (Q9R _ _) (λ_ _=>?_)
  |refine Q3 (λ_=>True) (Q2 trivial) (λ_ _=>?_)
  |(cases h;done)
  |refine Q3 (λ_=>True) ?_ (λ_ _=>?_)
theorem Qbu (ps:List (Option Qj)) (hp:ps.length<=1000) (a:((List (Bool))×(Int)×(Option (Qj))×(List (Int))×(List (Option (Qj)))×(Int)×(Int)×Unit)×((Qj)×Unit)) (h0:a.1.2.2.2.1= []) (h1:a.1.2.2.2.2.1=ps) (h2:a.1.2.2.2.2.2.1=(ps.length:Int)) (h3:a.1.2.2.2.2.2.2.1=0):
  Tot (K53.F1 a) (λr=>r.1.2.1.length<=ps.length):=by
 unfold K53.F1
 refine Q2f (λa=>a.1.2.2.2.2.1=ps/\a.1.2.2.2.2.2.1=(ps.length:Int)/\0<=a.1.2.2.2.2.2.2.1/\a.1.2.2.2.2.2.2.1<=(ps.length:Int)/\(a.1.2.2.2.1.length:Int)=a.1.2.2.2.2.2.2.1) (λa=>((ps.length:Int) - a.1.2.2.2.2.2.2.1).toNat) (λa ⟨h1,h2,h3,h4,h5⟩=>?_) _ a ⟨h1,h2,by omega,by omega,by rw [h0,h3];rfl⟩ (by omega)
 unfold K53.Q2x
 refine Qa (λh=>?_) (λ_=>Q2 ?_)
 ·have h:=Q2g h
  rw [h1]
  refine QM (Q1B h3 (by omega)) (Q3 (λb=>∃x,b=((a.1.1,(a.1.2.1,(a.1.2.2.1,(a.1.2.2.2.1++x::Qm Int,a.1.2.2.2.2)))),a.2)) ?_ (λr hr=>Q2 ?_))
  ·have hroom:∀x:Int,room (a.1.2.2.2.1.length+(x::Qm Int).length) 8=true:=λx=>Q2P (by simp only [List.length_cons,Qm,List.length_nil];omega)
   refine Qa (λh'=>?_) (λh'=>?_)
   ·have h':=Q2g h'
    unfold ofN at h'
    exact QM (Q1B h3 h') (Q3 _ (Qcp _ _ _ _ _) (λr _=>QM (hroom _) (Q2 ⟨_,rfl⟩)))
   ·exact Q3 _ (Qcp _ _ _ _ _) (λr _=>QM (hroom _) (Q2 ⟨_,rfl⟩))
  ·obtain ⟨x,rfl⟩:=hr
   have e:Q4 .i64 a.1.2.2.2.2.2.2.1 1=a.1.2.2.2.2.2.2.1+1:=Q1i (by omega)
   simp only [e,List.length_append,List.length_cons,Qm,List.length_nil]
   exact ⟨⟨h1,h2,by omega,by omega,by omega⟩,by omega⟩
 ·show a.1.2.2.2.1.length<=ps.length
  omega
theorem Qdv (ps:List (Option Qj)) (hp:ps.length<=1000) (a:((List (Bool))×(List (Option (Qj)))×(Int)×(Int)×(Option (Qj))×(List (Int))×Unit)×((Qj)×Unit)) (h0:a.1.2.2.2.2.2.1= []) (h1:a.1.2.1=ps) (h2:0<=a.1.2.2.2.1):
  Tot (K53.F0 a) (λr=>r.1.1.length<=ps.length):=by
 unfold K53.F0
 refine Q2f (λa=>a.1.2.1=ps/\a.1.2.2.2.2.2.1= []/\0<=a.1.2.2.2.1) (λa=>((ps.length:Int) - a.1.2.2.2.1).toNat) (λa ⟨h1,h2,h3⟩=>?_) _ a ⟨h1,h0,h2⟩ (by omega)
 unfold K53.QU
 rw [h1]
 refine Qa (λh=>?_) (λ_=>?_)
 ·have h:=Q2g h
  unfold ofN at h
  refine QM (Q1B h3 h) (Q3 (λ_=>True) ?_ (λr3 _=>Q3 (λb=>b.1.2.1=ps/\b.1.2.2.2.1=a.1.2.2.2.1/\b.1.2.2.2.2.2.1= []) ?_ (λr4 hr=>Q2 ?_)))
  ·cases hg:List.getD ps (Int.toNat a.1.2.2.2.1) none with
   |none=>exact Q2 trivial
   |some x=>
    simp only [Option.isSome_some,cond_true]
    cases hb:a.1.2.2.2.2.1 with
    |none=>exact Q2 trivial
    |some y=>exact Q3 _ (Q9R _ _) (λ_ _=>Q2 trivial)
  ·exact Qa (λ_=>Q2 ⟨rfl,rfl,h2⟩) (λ_=>Q2 ⟨h1,rfl,h2⟩)
  ·obtain ⟨g1,g2,g3⟩:=hr
   show (r4.1.2.1=ps/\r4.1.2.2.2.2.2.1= []/\0<=Q4 .i64 r4.1.2.2.2.1 1)/\((ps.length:Int) - Q4 .i64 r4.1.2.2.2.1 1).toNat < ((ps.length:Int) - a.1.2.2.2.1).toNat
   rw [g2,Q1i (by omega)]
   exact ⟨⟨g1,g3,by omega⟩,by omega⟩
 ·exact Q3 _ (Qbu ps hp _ h2 rfl rfl rfl) (λr hr=>Q2 hr)
theorem all_t (d:Qj) (ls:List Bool) (ps:List (Option Qj)) (hp:ps.length<=8):Tot (K53 d ls ps) (λr=>r.1.1.length<=ps.length):=by
 have hm:Z4 false (ofN ps.length) 8=(ps.length:Int):=by
  simp only [Z4,cond_false,Q9e,ofN]
  split <;> omega
 unfold K53 K53.gen
 rw [hm]
 have hd:List.drop (Int.toNat (ofN 0)) (List.take (Int.toNat (ps.length:Int)) ps)=ps:=by unfold ofN;simp
 rw [hd]
 refine QM (Q2R (by unfold ofN;omega) (by unfold ofN;omega) (Int.le_refl _)) (Qa (λh=>?_) (λ_=>?_))
 ·have h:=Q2g h
  unfold ofN at h
  refine QM (Q1B (Int.le_refl 0) h) (Q3 (λ_=>True) (Qa (λ_=>Q2 trivial) (λ_=>Q2 trivial)) (λr _=>Q3 (λb=>b.1.2.1=ps/\b.1.2.2.2.1=0/\b.1.2.2.2.2.2.1= []) (Qa (λ_=>Q2 ⟨rfl,rfl,rfl⟩) (λ_=>Q2 ⟨rfl,rfl,rfl⟩)) (λr1 ⟨g1,g2,g3⟩=>Q3 _ (Qdv ps (by omega) _ g3 g1 ?_) (λr hr=>Q2 hr))))
  show 0<=Q4 .i64 r1.1.2.2.2.1 1
  rw [g2];decide
 ·exact Q3 _ (Qbu ps (by omega) _ rfl rfl rfl rfl) (λr hr=>Q2 hr)
abbrev Q2D (t:Qe):Prop:=0<=t.fn/\t.fn<=5
theorem age_t (now:Int) (t:Qe) (h:Q2D t):Tot (K62 now t) (λr=>Q2D r.2.1.1):=by
 unfold K62 K62.gen
 refine Q3 (λr=>Q2D r.2.1) ?_ (λr hr=>Q2 hr)
 unfold K62.F0
 refine Q2f (λa=>Q2D a.2.1/\0<=a.1.2.1/\a.1.2.1<=a.2.1.fn) (λa=>(2*a.2.1.fn - a.1.2.1).toNat) (λa ⟨h1,h2,h3⟩=>?_) _ _ ⟨h,Int.le_refl 0,h.1⟩ (by have:=h.1;have:=h.2;simp only [];omega)
 unfold K62.QU
 obtain ⟨n0,n5⟩:=h1
 refine Qa (λhh=>?_) (λ_=>Q2 ⟨n0,n5⟩)
 have hh:=Q2g hh
 refine QM (Q1B h2 (by omega)) (Q3 _ ee (λr _=>Qa (λ_=>Q2 ?_) (λ_=>?_)))
 ·show (Q2D a.2.1/\0<=Q4 .i64 a.1.2.1 1/\Q4 .i64 a.1.2.1 1<=a.2.1.fn)/\(2*a.2.1.fn - Q4 .i64 a.1.2.1 1).toNat < (2*a.2.1.fn - a.1.2.1).toNat
  rw [Q1i (by omega)]
  exact ⟨⟨⟨n0,n5⟩,by omega,by omega⟩,by omega⟩
 ·have e1:Q4 .i64 a.1.2.1 1=a.1.2.1+1:=Q1i (by omega)
  have e2:Q1s .i64 a.2.1.fn 1=a.2.1.fn - 1:=Q4V (by omega)
  rw [e1,e2]
  refine QM (Q2R h2 h3 (by omega)) (QM (Q2R (by omega) (by omega) (by omega)) (QM (Q1B (by omega) (by omega)) (Q2 ?_)))
  refine ⟨⟨⟨by show 0<=a.2.1.fn - 1;omega,by show a.2.1.fn - 1<=5;omega⟩,h2,by show a.1.2.1<=a.2.1.fn - 1;omega⟩,?_⟩
  show (2*(a.2.1.fn - 1) - a.1.2.1).toNat < (2*a.2.1.fn - a.1.2.1).toNat
  omega
theorem Qej (t:Qe) (h:Q2D t):Tot (K67 t) (λr=>r.1.1.length<=5):=by
 unfold K67 K67.gen
 obtain ⟨h0,h1⟩:=h
 refine QM (Q2R (by unfold ofN;omega) (by unfold ofN;omega) (by omega)) (QM (Q2P ?_) (Q2 ?_))
 ·simp only [Qm,List.length_nil,List.length_map,List.length_range,ofN]
  omega
 ·simp only [Qm,List.nil_append,List.length_map,List.length_range,ofN]
  omega
theorem QdQ (now:Int) (t:Qe) (h:Q2D t):Tot (K66 now t) (λr=>r.1.1.length<=5):=by
 unfold K66 K66.gen
 obtain ⟨h0,h1⟩:=h
 refine QM (Q2R (by unfold ofN;omega) (by unfold ofN;omega) (by omega)) (Q3 (λr=>r.1.1.length<=5) ?_ (λr hr=>Q2 hr))
 unfold K66.F0
 have hn:Int.toNat t.fn - Int.toNat (ofN 0)=t.fn.toNat:=by unfold ofN;omega
 rw [hn]
 refine Q2f (λa=>(a.1.2.1.length:Int)<=a.1.2.2.2.2.1/\a.1.2.2.1.2=t.fn.toNat/\a.1.2.2.2.1=(t.fn.toNat:Int)/\0<=a.1.2.2.2.2.1/\a.1.2.2.2.2.1<=t.fn) (λa=>(t.fn - a.1.2.2.2.2.1).toNat) (λa ⟨g1,g2,g3,g4,g5⟩=>?_) _ _ ⟨Int.le_refl 0,rfl,rfl,Int.le_refl 0,h0⟩ (by simp only [];omega)
 unfold K66.QU
 refine Qa (λhh=>?_) (λ_=>Q2 (by show a.1.2.1.length<=5;omega))
 have hh:=Q2g hh
 refine Q3 (λb=>b.1=a.1) (QM (Q1B g4 (by omega)) (Q2 rfl)) (λr0 e0=>Q3 (λ_=>True) (Qa (λ_=>Q3 _ ee (λ_ _=>Q2 trivial)) (λ_=>Q2 trivial)) (λr2 _=>Q3 (λb=>b.1.2.1.length<=a.1.2.1.length+1/\b.1.2.2=a.1.2.2) ?_ (λr3 hr=>Q2 ?_)))
 ·refine Qa (λ_=>QM (Q2P ?_) (Q2 ?_)) (λ_=>Q2 ?_)
  ·rw [e0];simp only [List.length_cons,Qm,List.length_nil];omega
  ·rw [e0];simp [Qm]
  ·rw [e0];exact ⟨by omega,rfl⟩
 ·obtain ⟨k1,k2⟩:=hr
  show ((r3.1.2.1.length:Int)<=Q4 .i64 r3.1.2.2.2.2.1 1/\r3.1.2.2.1.2=t.fn.toNat/\r3.1.2.2.2.1=(t.fn.toNat:Int)/\0<=Q4 .i64 r3.1.2.2.2.2.1 1/\Q4 .i64 r3.1.2.2.2.2.1 1<=t.fn)/\(t.fn - Q4 .i64 r3.1.2.2.2.2.1 1).toNat < (t.fn - a.1.2.2.2.2.1).toNat
  rw [k2,Q1i (by omega)]
  exact ⟨⟨by omega,g2,g3,by omega,by omega⟩,by omega⟩
theorem Qcx (now:Int) (t:Qe) (h:Q2D t):Tot (K63 now t) (λ_=>True):=by
 unfold K63 K63.gen
 refine Q3 _ (QdQ now t h) (λr0 h0=>Q3 (λb=>b.1.1=r0.1.1/\b.1.2.1.length<=r0.1.1.length) ?_ (λr1 ⟨h1,h2⟩=>Q3 _ (Qe6 _ (by omega)) (λr2 hr2=>Qa (λ_=>Q2 trivial) (λhn=>?_))))
 ·unfold K63.F0
  refine Q2f (λa=>a.1.1=r0.1.1/\(a.1.2.1.length:Int)=a.1.2.2.2.2.1/\a.1.2.2.1=r0.1.1/\a.1.2.2.2.1=(r0.1.1.length:Int)/\0<=a.1.2.2.2.2.1/\a.1.2.2.2.2.1<=(r0.1.1.length:Int)) (λa=>((r0.1.1.length:Int) - a.1.2.2.2.2.1).toNat) (λa ⟨g1,g2,g3,g4,g5,g6⟩=>?_) _ _ ⟨rfl,rfl,rfl,rfl,Int.le_refl 0,by simp only [];omega⟩ (by simp only [];omega)
  unfold K63.QU
  refine Qa (λhh=>?_) (λ_=>Q2 ⟨g1,by show a.1.2.1.length<=_;omega⟩)
  have hh:=Q2g hh
  rw [g3]
  refine Q3 (λb=>b.1=a.1) (QM (Q1B g5 (by omega)) (Q2 rfl)) (λr2 e0=>QM (Q2P ?_) (Q2 ?_))
  ·rw [e0];simp only [List.length_cons,Qm,List.length_nil];omega
  ·show (r2.1.1=r0.1.1/\((r2.1.2.1++r2.2.2.2.1.Q3g::Qm Qj).length:Int)=Q4 .i64 r2.1.2.2.2.2.1 1/\r2.1.2.2.1=r0.1.1/\r2.1.2.2.2.1=(r0.1.1.length:Int)/\0<=Q4 .i64 r2.1.2.2.2.2.1 1/\Q4 .i64 r2.1.2.2.2.2.1 1<=(r0.1.1.length:Int))/\((r0.1.1.length:Int) - Q4 .i64 r2.1.2.2.2.2.1 1).toNat < ((r0.1.1.length:Int) - a.1.2.2.2.2.1).toNat
   rw [e0,Q1i (by omega)]
   simp only [List.length_append,List.length_cons,Qm,List.length_nil]
   exact ⟨⟨g1,by omega,g3,g4,by omega,by omega⟩,by omega⟩
 ·have hn:=Q36 hn
  rw [h1]
  exact QM (Q1B (by omega) (by omega)) (Q2 trivial)
theorem Qeh (m:Q8) (now:Int) (t:Qe) (h:Q2D t):Tot (K65 m now t) (λr=>Q2D r.2.1.1):=by
 unfold K65 K65.gen
 refine Q3 (λb=>match b with| .inl x=>Q2D x.2.1| .inr x=>Q2D x.2.1) ?_ (λr2 hr2=>Q2v (λr3 e=>?_) (λr3 e=>Q2 (by subst e;exact hr2)))
 ·refine Qa (λ_=>Q2 h) (λ_=>Q3 (λ_=>True) (Qa (λ_=>Q2 trivial) (λ_=>Q2 trivial)) (λ_ _=>Qa (λ_=>Q2 h) (λ_=>Q3 (λ_=>True) (Qa (λ_=>Q2 trivial) (λ_=>Qa (λ_=>Q2 trivial) (λ_=>Q2 trivial))) (λ_ _=>Qa (λ_=>Q2 h) (λ_=>Q2 h)))))
 subst e
 have hr2:Q2D r3.2.1:=hr2
 refine Q3 (λb=>Q2D b.2.1/\0<=b.1.2.1/\b.1.2.1<=b.2.1.fn) ?_ (λr4 ⟨⟨h0,h1⟩,h2,h3⟩=>Q3 (λb=>match b with| .inl x=>Q2D x.2.1/\0<=x.1.2.1/\x.1.2.1 < 5| .inr x=>Q2D x.2.1) ?_ (λr7 hr7=>Q2v (λr8 e=>?_) (λr8 e=>Q2 (by subst e;exact hr7))))
 ·unfold K65.F0
  refine Q2f (λa=>Q2D a.2.1/\0<=a.1.2.1/\a.1.2.1<=a.2.1.fn) (λa=>(a.2.1.fn - a.1.2.1).toNat) (λa ⟨⟨h0,h1⟩,h2,h3⟩=>?_) _ _ ⟨hr2,Int.le_refl 0,hr2.1⟩ (by have:=hr2.2;simp only [];omega)
  unfold K65.QU
  refine Q3 (λb=>b.1=true->a.1.2.1 < a.2.1.fn) (Qa (λhh=>QM (Q1B h2 (by have:=Q2g hh;omega)) (Q2 λ_=>Q2g hh)) (λ_=>Q2 λhh=>by cases hh)) (λr0 hr0=>Qa (λhh=>Q2 ?_) (λ_=>Q2 ⟨⟨h0,h1⟩,h2,h3⟩))
  have:=hr0 hh
  show (Q2D a.2.1/\0<=Q4 .i64 a.1.2.1 1/\Q4 .i64 a.1.2.1 1<=a.2.1.fn)/\(a.2.1.fn - Q4 .i64 a.1.2.1 1).toNat < (a.2.1.fn - a.1.2.1).toNat
  rw [Q1i (by omega)]
  exact ⟨⟨⟨h0,h1⟩,by omega,by omega⟩,by omega⟩
 ·refine Qa (λhh=>?_) (λhh=>Qa (λ_=>Q2 ⟨h0,h1⟩) (λh5=>Q2 ?_))
  ·have hh:=Q2g hh
   refine Q3 (λb=>Q2D b.2.1/\b.1.2.1=r4.1.2.1) (QM (Q1B h2 (by omega)) (Q2 ⟨⟨h0,h1⟩,rfl⟩)) (λr5 ⟨k1,k2⟩=>Q3 (λ_=>True) (Qa (λ_=>Q2 trivial) (λ_=>Q2 trivial)) (λr6 _=>Qa (λ_=>Q2 k1) (λ_=>Q2 ⟨k1,by show 0<=r5.1.2.1;omega,by show r5.1.2.1 < 5;omega⟩)))
  ·have hh:=Q36 hh
   have h5:r4.2.1.fn≠5:=by
    intro e
    rw [e] at h5
    cases h5
   refine ⟨⟨?_,?_⟩,h2,by show r4.1.2.1 < 5;omega⟩
   ·show 0<=Q4 .i64 r4.2.1.fn 1
    rw [Q1i (by omega)];omega
   ·show Q4 .i64 r4.2.1.fn 1<=5
    rw [Q1i (by omega)];omega
 ·subst e
  obtain ⟨k1,k2,k3⟩:Q2D r8.2.1/\0<=r8.1.2.1/\r8.1.2.1 < 5:=hr7
  exact Q3 (λb=>Q2D b.2.1) (QM (Q1B k2 k3) (Q2 k1)) (λr9 h9=>Q2 h9)
abbrev Q5X (f:Qh):Prop:=0<=f.fn/\f.fn<=f.Q4O/\1<=f.Q4O/\f.Q4O<=15
theorem Qeg (a:((Int)×(Int)×(Int)×(Nat×Nat)×(Int)×(Int)×Unit)×((Qh)×(Fm Int)×Unit)) (h0:0<=a.1.1) (h1:a.1.1 < 15) (h2:a.2.2.1.1=15) (h3:a.1.2.2.1=0):
  Tot (K93.F1 a) (λb=>b.1.1=a.1.1/\0<=b.1.2.2.1/\b.1.2.2.1<=a.1.1/\b.1.2.2.2=a.1.2.2.2/\b.2.1=a.2.1/\b.2.2.1.1=15):=by
 unfold K93.F1
 refine Q2f (λx=>x.1.1=a.1.1/\0<=x.1.2.2.1/\x.1.2.2.1<=a.1.1/\x.1.2.2.2=a.1.2.2.2/\x.2.1=a.2.1/\x.2.2.1.1=15) (λx=>(a.1.1 - x.1.2.2.1).toNat) (λx ⟨g1,g2,g3,g4,g5,g6⟩=>?_) _ a ⟨rfl,by omega,by omega,rfl,rfl,h2⟩ (by omega)
 unfold K93.Q2x
 refine Q3 (λb=>b.1=true->x.1.2.2.1 < a.1.1) (Qa (λhh=>?_) (λ_=>Q2 λhh=>by cases hh)) (λr0 hr0=>Qa (λhh=>Q2 ?_) (λ_=>Q2 ⟨g1,g2,g3,g4,g5,g6⟩))
 ·have hh:=Q2g hh
  rw [Q1B (n:=15) g2 (by omega),g6,Q1B (n:=15) g2 (by omega)]
  exact Q2 λ_=>by omega
 ·have:=hr0 hh
  show (x.1.1=a.1.1/\0<=Q4 .i64 x.1.2.2.1 1/\Q4 .i64 x.1.2.2.1 1<=a.1.1/\x.1.2.2.2=a.1.2.2.2/\x.2.1=a.2.1/\x.2.2.1.1=15)/\(a.1.1 - Q4 .i64 x.1.2.2.1 1).toNat < (a.1.1 - x.1.2.2.1).toNat
  rw [Q1i (by omega)]
  exact ⟨⟨g1,by omega,by omega,g4,g5,g6⟩,by omega⟩
theorem med_t (f:Qh) (h0:0<=f.fn) (h1:f.fn<=15):Tot (K93 f) (λ_=>True):=by
 unfold K93 K93.gen
 refine Qa (λ_=>Q2 trivial) (λhne=>?_)
 have hn0:f.fn≠0:=λe=>by rw [e] at hne;cases hne
 have hn:Int.toNat f.fn - Int.toNat (ofN 0)=f.fn.toNat:=by unfold ofN;omega
 rw [hn]
 refine QM (Q2R (by unfold ofN;omega) (by unfold ofN;omega) (by omega)) (Q3 (λb=>b.2.1=f/\b.2.2.1.1=15) ?_ (λr ⟨e1,e2⟩=>?_))
 ·unfold K93.F0
  refine Q2f (λa=>a.1.1.2=f.fn.toNat/\a.1.2.1=(f.fn.toNat:Int)/\0<=a.1.2.2.1/\a.2.1=f/\a.2.2.1.1=15) (λa=>(f.fn - a.1.2.2.1).toNat) (λa ⟨g1,g2,g3,g4,g5⟩=>?_) _ _ ⟨rfl,rfl,Int.le_refl 0,rfl,rfl⟩ (by simp only [];omega)
  unfold K93.QU
  refine Qa (λhh=>?_) (λ_=>Q2 ⟨g4,g5⟩)
  have hh:=Q2g hh
  refine QM (Q1B g3 (by omega)) (Q3 _ (Qeg _ (by show 0<=a.1.2.2.1;exact g3) (by show a.1.2.2.1 < 15;omega) g5 rfl) (λr0 ⟨k1,k2,k3,k4,k5,k6⟩=>?_))
  have k1:r0.1.1=a.1.2.2.1:=k1
  have k3:r0.1.2.2.1<=a.1.2.2.1:=k3
  have k4:r0.1.2.2.2=a.1:=k4
  have k5:r0.2.1=a.2.1:=k5
  have e1:Q4 .i64 r0.1.2.2.1 1=r0.1.2.2.1+1:=Q1i (by omega)
  have e2:Q4 .i64 r0.1.1 1=r0.1.1+1:=Q1i (by omega)
  rw [e1,e2,k6,Q2R (c:=15) (show 0<=r0.1.2.2.1+1 by omega) (show r0.1.2.2.1+1<=r0.1.1+1 by omega) (by omega),Q2R (c:=15) k2 (show r0.1.2.2.1<=r0.1.1 by omega) (by omega),Q1B (n:=15) k2 (by omega)]
  simp only [cond_true]
  refine Q2 ?_
  show (r0.1.2.2.2.1.2=f.fn.toNat/\r0.1.2.2.2.2.1=(f.fn.toNat:Int)/\0<=Q4 .i64 r0.1.2.2.2.2.2.1 1/\r0.2.1=f/\(15:Nat)=15)/\(f.fn - Q4 .i64 r0.1.2.2.2.2.2.1 1).toNat < (f.fn - a.1.2.2.1).toNat
  rw [k4,Q1i (by omega)]
  exact ⟨⟨g1,g2,by omega,by rw [k5];exact g4,rfl⟩,by omega⟩
 ·rw [e1,e2]
  have e3:Q1s .i64 f.fn 1=f.fn - 1:=Q4V (by omega)
  have e4:Q51 .i64 (f.fn - 1) 2=(f.fn - 1) / 2:=by
   unfold Q51
   rw [Int.tdiv_eq_ediv_of_nonneg (by omega),Q7C]
   omega
  rw [e3,e4,Q1B (n:=15) (show 0<=(f.fn - 1) / 2 by omega) (by omega)]
  exact Q2 trivial
theorem put_t (v:Int) (f:Qh) (h:Q5X f):Tot (K94 v f) (λr=>Q5X r.2.1.1):=by
 obtain ⟨h0,h1,h2,h3⟩:=h
 unfold K94 K94.gen
 refine Q3 (λb=>0<=b.2.1.fn/\b.2.1.fn < f.Q4O/\b.2.1.Q4O=f.Q4O) (Qa (λhe=>?_) (λhe=>Q2 ?_)) (λr ⟨g0,g1,g2⟩=>QM (Q1B g0 (by omega)) ?_)
 ·have he:f.fn=f.Q4O:=by unfold ieq at he;simpa using he
  have e3:Q1s .i64 f.fn 1=f.fn - 1:=Q4V (by omega)
  refine QM (Q2R (by decide) (by omega) (by omega)) (Q2 ⟨?_,?_,rfl⟩)
  ·show 0<=Q1s .i64 f.fn 1;rw [e3];omega
  ·show Q1s .i64 f.fn 1 < _;rw [e3];omega
 ·have he:f.fn≠f.Q4O:=λe=>by rw [e] at he;unfold ieq at he;simp at he
  exact ⟨h0,by show f.fn < _;omega,rfl⟩
 ·have e1:Q4 .i64 r.2.1.fn 1=r.2.1.fn+1:=Q1i (by omega)
  rw [e1]
  refine Q3 _ (med_t _ (by show 0<=r.2.1.fn+1;omega) (by show r.2.1.fn+1<=15;omega)) (λr1 _=>Q2 ⟨by show 0<=r.2.1.fn+1;omega,by show r.2.1.fn+1<=r.2.1.Q4O;omega,by show 1<=r.2.1.Q4O;omega,by show r.2.1.Q4O<=15;omega⟩)
def byteI (e:Int):UInt8:=UInt8.ofNat (IntKind.u8.wrap e).toNat
def be (v:Int):Nat->List UInt8
 |0=>[]
 |k+1=>byteI (Q5I .i64 v (8*(k:Int)))::be v k
theorem wrap64 (e:Int):IntKind.u64.wrap e=e % 18446744073709551616:=by
 simp only [IntKind.wrap,IntKind.signed,IntKind.bits,Bool.false_and,Bool.false_eq_true,if_false];rfl
theorem Qc1 (a b:Nat) (h:b < 256):(a*256)|||b=a*256+b:=by
 have:=Nat.shiftLeft_add_eq_or_of_lt (i:=8) (b:=b) h a
 rw [Nat.shiftLeft_eq] at this
 exact this.symm
def Q59:Int->List UInt8->Int
 |a,[]=>a
 |a,x::r=>Q59 (a*256+(x.toNat:Int)) r
theorem Q96:∀(L:List UInt8) (a:Int),0<=a->a*256^L.length<=Q59 a L/\Q59 a L < (a+1)*256^L.length
 | [],a,h=>by simp [Q59];omega
 |x::r,a,h=>by
  have hx:(x.toNat:Int) < 256:=by have:=x.toNat_lt;omega
  have h0:(0:Int)<=(x.toNat:Int):=by omega
  obtain ⟨h1,h2⟩:=Q96 r (a*256+(x.toNat:Int)) (by omega)
  rw [Q59,List.length_cons,Int.pow_succ]
  have hp:(0:Int) < 256^r.length:=Int.pow_pos (by decide)
  generalize (256:Int)^r.length=m at*
  generalize (x.toNat:Int)=y at*
  generalize Q59 (a*256+y) r=z at*
  have e1:a*(m*256)<=(a*256+y)*m:=by
   have:(a*256+y)*m=a*(m*256)+y*m:=by grind
   have:0<=y*m:=Int.mul_nonneg h0 (by omega)
   omega
  have e2:(a*256+y+1)*m<=(a+1)*(m*256):=by
   have:(a+1)*(m*256) - (a*256+y+1)*m=(255 - y)*m:=by grind
   have:0<=(255 - y)*m:=Int.mul_nonneg (by omega) (by omega)
   omega
  omega
theorem QbB (v x:Int) (hv:0<=v) (hv2:v < 72057594037927936) (hx:0<=x) (hx2:x < 256):ior .u64 (Q8v .u64 v 8) (IntKind.u64.wrap x)=v*256+x:=by
 have e1:Q8v .u64 v 8=v*256:=by
  show IntKind.u64.wrap (v*2^8)=_
  rw [wrap64];omega
 have e2:IntKind.u64.wrap x=x:=by rw [wrap64];omega
 rw [e1,e2]
 unfold ior
 obtain ⟨a,rfl⟩:∃a:Nat,v=(a:Int):=⟨v.toNat,by omega⟩
 obtain ⟨b,rfl⟩:∃b:Nat,x=(b:Int):=⟨x.toNat,by omega⟩
 have f1:(BitVec.ofInt 64 ((a:Int)*256)).toNat=a*256:=by rw [BitVec.toNat_ofInt];omega
 have f2:(BitVec.ofInt 64 (b:Int)).toNat=b:=by rw [BitVec.toNat_ofInt];omega
 have:(BitVec.ofInt IntKind.u64.bits ((a:Int)*256)|||BitVec.ofInt IntKind.u64.bits (b:Int)).toNat=a*256+b:=by
  show (BitVec.ofInt 64 ((a:Int)*256)|||BitVec.ofInt 64 (b:Int)).toNat=_
  rw [BitVec.toNat_or,f1,f2,Qc1 a b (by omega)]
 rw [this,wrap64];omega
theorem Q9k:∀(L R:List UInt8) (a:Int),Q59 a (L++R)=Q59 (Q59 a L) R
 | [],_,_=>rfl
 |x::L,R,a=>by rw [List.cons_append,Q59,Q59,Q9k L R]
theorem Qbi (L:List UInt8) (h:L.length<=8):QD L=some ((Q59 0 L,()),(),()):=by
 unfold QD QD.gen QD.F0
 simp only []
 have hl:=QcA (step:=QD.QU) (λi=>((Q59 0 (L.take i),L,ofN L.length,(i:Int),()),())) (b:=((Q59 0 L,()),())) L.length (1000000+L.length) (by omega) (λi hi=>?_) ?_
 ·have hl:Z8 (1000000+L.length) QD.QU ((0,L,ofN L.length,0,()),())=some ((Q59 0 L,()),()):=hl
  rw [hl];rfl
 ·unfold QD.QU
  have hr:=Q96 (L.take i) 0 (by omega)
  have hlen:(L.take i).length=i:=by rw [List.length_take];omega
  have hp:(256:Int)^i<=256^7:=by exact_mod_cast Nat.pow_le_pow_right (show 0 < 256 by decide) (show i<=7 by omega)
  rw [hlen] at hr
  have hx:=(L[i]).toNat_lt
  have hg:L.getD i 0=L[i]:=Q8Z hi
  simp only [Qa7,QcC,hi,decide_true,cond_true,Int.toNat_natCast,iinc (show i < 4611686018427387904 by omega)]
  have ht:L.take (i+1)=L.take i++ [L[i]]:=by rw [List.take_add_one,List.getElem?_eq_getElem hi];rfl
  rw [show List.getD L i (0:D UC.u8)=L[i] from hg,QbB _ _ (by omega) (by omega) (show (0:Int)<=((L[i].toNat:Nat):Int) by omega) (show ((L[i].toNat:Nat):Int) < 256 by omega),ht,Q9k]
  rfl
 ·unfold QD.QU
  simp only [Qa7,Nat.lt_irrefl,decide_false,cond_false,List.take_length]
abbrev bs (l:List UInt8):ByteArray:=ByteArray.mk l.toArray
theorem Q99 (l:List UInt8):(bs l).data.toList=l:=by show l.toArray.toList=l;simp
theorem Qb8 (s:ByteArray):bs s.data.toList=s:=by cases s;simp [bs]
theorem Qds {s t:ByteArray} (h:s.data.toList=t.data.toList):s=t:=by rw [←Qb8 s,←Qb8 t,h]
theorem Q6J (l:List UInt8):(bs l).size=l.length:=by show l.toArray.size=_;simp
theorem Qbd (a b:List UInt8):bs a++bs b=bs (a++b):=by
 apply Qds
 rw [ByteArray.data_append,Array.toList_append,Q99,Q99,Q99]
theorem Qb5 {v a b:Int} (h0:a<=v) (h1:v<=b):K4 v a b=some ((true,()),(),()):=by
 unfold K4 K4.gen
 rw [Q4P h0,Q4P h1];rfl
theorem hin_b (v a b:Int):Tot (K77 v a b) (λr=>r.1.1=true->a<=v/\v<=b):=by
 unfold K77 K77.gen
 exact Qa (λh=>Q2 λh2=>⟨Q5s h,Q5s h2⟩) (λ_=>Q2 λh=>by cases h)
theorem Qe3 (b:List UInt8) (hb:Q47 b):Tot (K73 b) (λr=>r.1.2.2.1=0->34<=b.length/\b.length<=400):=by
 unfold K73 K73.gen
 refine Qa (λ_=>Q2 (λh=>by cases h)) (λh34=>?_)
 have i0:inR 0 b.length=true:=Q9g (k:=0) h34 (by decide)
 have i1:inR 1 b.length=true:=Q9g (k:=1) h34 (by decide)
 have i4:inR 4 b.length=true:=Q9g (k:=4) h34 (by decide)
 have h34':=Q36 h34
 unfold ofN at h34'
 refine Q3 _ (Q4t _ _ _ hb) (λr0 _=>Q3 (λr=>r.1=false->r0.1.1<=400) ?_ (λr3 h3=>Qa (λ_=>Q2 (λh=>by cases h)) (λh3f=>Qa (λ_=>Q2 (λh=>by cases h)) (λha=>Qa (λ_=>Q2 (λh=>by cases h)) (λhb'=>QM i0 (QM i4 ?_))))))
 ·refine QM i0 (Q3 _ (QcD _) (λ_ _=>Qa (λ_=>Q2 λh=>by cases h) (λ_=>QM i1 (Qa (λ_=>Q2 λh=>by cases h) (λ_=>Q3 _ (hin_b _ _ _) (λr2 h2=>Q2 λh=>(h2 ?_).2))))))
  cases hx:r2.1.1 with
  |true=>rfl
  |false=>rw [hx] at h;cases h
 ·have h400:=h3 h3f
  have ha:=Q36 hb'
  unfold ofN at ha
  have:b.length<=400:=by omega
  refine Q3 _ (Q4t _ _ _ hb) (λ_ _=>Q3 _ (Q7M _ _ _ hb) (λ_ _=>Q3 _ (Q9D _ _ hb) (λ_ _=>Q3 _ (Q4t _ _ _ hb) (λ_ _=>Q3 _ (Q7M _ _ _ hb) (λ_ _=>Q2 λ_=>⟨by omega,this⟩)))))
theorem bl_e (t:Int):Tot (K2 t) (λr=>0<=r.1.1/\r.1.1<=30/\(t=13->r.1.1=14)):=by
 unfold K2 K2.gen
 refine Q3 (λ(r:(Int×Bool×Unit)×Unit)=>r.1.1=t/\(t=13->r.1.2.1=false)) ?_ (λr0 ⟨h0,h1⟩=>Q3 (λr=>match r with| .inl _=>t≠13| .inr x=>0<=x.1.1/\x.1.1<=30/\(t=13->x.1.1=14)) ?_ (λr2 h2=>Q2v (λa e=>Q2 ?_) (λa e=>Q2 ?_)))
 ·refine Qa (λ_=>Q2 ⟨rfl,λe=>by subst e;rfl⟩) (λ_=>Qa (λ_=>Q2 ⟨rfl,λe=>by subst e;rfl⟩) (λ_=>Qa (λ_=>Q2 ⟨rfl,λe=>by subst e;rfl⟩) (λ_=>Q2 ⟨rfl,λe=>by subst e;rfl⟩)))
 ·refine Qa (λh=>Q2 ⟨by decide,by decide,λe=>by rw [h1 e] at h;cases h⟩) (λ_=>Q3 (λ(r:(Int×Bool×Unit)×Unit)=>r.1.1=t/\(t=13->r.1.2.1=false)) ?_ (λr1 ⟨k0,k1⟩=>?_))
  ·rw [h0]
   refine Qa (λ_=>Q2 ⟨rfl,λe=>by subst e;rfl⟩) (λ_=>Qa (λ_=>Q2 ⟨rfl,λe=>by subst e;rfl⟩) (λ_=>Qa (λ_=>Q2 ⟨rfl,λe=>by subst e;rfl⟩) (λ_=>Q2 ⟨rfl,λe=>by subst e;rfl⟩)))
  ·refine Qa (λh=>Q2 ⟨by decide,by decide,λe=>by rw [k1 e] at h;cases h⟩) (λ_=>Qa (λh=>Q2 ⟨by decide,by decide,λe=>by rw [k0,e] at h;cases h⟩) (λ_=>Qa (λh=>Q2 ⟨by decide,by decide,λe=>rfl⟩) (λh=>Q2 λe=>by rw [k0,e] at h;cases h)))
 ·subst e
  exact ⟨by decide,by decide,λe=>absurd e h2⟩
 ·subst e
  exact h2
theorem bst_t (t:Int):Tot (K6 t) (λr=>r.1.1=true->t≠13):=by
 unfold K6 K6.gen
 exact Qa (λ_=>Q2 λh=>by unfold ine at h;simpa using h) (λ_=>Q2 λh=>by cases h)
theorem Qcd (t:Int):Tot (K7 t) (λr=>True):=(ee (x:=K7 t))
theorem Qdp (m:Q8) (b:List UInt8) (hb:b.length<=400):Tot (K1 m b 34) (λr=>True):=by
 have hs:Q47 b:=by unfold Q47;omega
 have hl:ofN b.length=(b.length:Int):=rfl
 unfold K1 K1.gen
 refine Q3 _ (bl_e _) (λr0 ⟨n0,n1,n13⟩=>Q3 (λr=>r.1=false->34+r0.1.1<=(b.length:Int)) ?_ (λr1 h1=>Qa (λ_=>Q2 trivial) (λh1f=>?_)))
 ·refine Qa (λ_=>Q2 λh=>by cases h) (λ_=>Qa (λ_=>Q2 λh=>by cases h) (λh2=>Q2 λh3=>?_))
  have h2:=Q36 h2
  have h3:=Q36 h3
  rw [hl] at h2 h3
  rw [Q4V (by omega)] at h3
  omega
 have hlen:=h1 h1f
 have e1:Q4 .i64 34 10=44:=rfl
 have e2:Q4 .i64 44 10=54:=rfl
 rw [e1,e2]
 refine Q3 (λr=>r.1=false->m.fType≠13) ?_ (λr3 h3=>?_)
 ·refine Qa (λ_=>Q2 λh=>by cases h) (λ_=>Q3 _ (bst_t _) (λr2 h2=>Q2 λh=>h2 ?_))
  cases hx:r2.1.1 with
  |true=>rfl
  |false=>rw [hx] at h;cases h
 refine Qa (λ_=>?_) (λh3f=>?_)
 ·refine Q3 _ (Qcd _) (λr4 _=>Q3 (λr=>r.1.1=b/\(r.1.2.1=44\/r.1.2.1=34)/\r.2.1.fType=m.fType) ?_ (λr6 ⟨g1,g2,g3⟩=>?_))
  ·exact Qa (λ_=>Q3 _ (Q9D _ _ hs) (λ_ _=>Q2 ⟨rfl,.inl rfl,rfl⟩)) (λ_=>Q2 ⟨rfl,.inr rfl,rfl⟩)
  refine Q3 (λ_=>True) (Qa (λ_=>?_) (λ_=>Qa (λh13=>?_) (λ_=>Q2 trivial))) (λ_ _=>Q2 trivial)
  ·rw [g1]
   exact Q3 _ (Q7M _ _ _ hs) (λ_ _=>Q3 _ (Q4t _ _ _ hs) (λ_ _=>Q3 _ (Qby _ _ hs) (λ_ _=>Q3 _ (Q4t _ _ _ hs) (λ_ _=>Q3 _ (Q7v _ _ hs) (λ_ _=>Q3 _ (Q4t _ _ _ hs) (λ_ _=>Q3 _ (Q4t _ _ _ hs) (λ_ _=>Q2 trivial)))))))
  ·have h13:m.fType=13:=by rw [g3] at h13;unfold ieq at h13;simpa using h13
   have:=n13 h13
   rw [g1]
   rcases g2 with g2|g2
   ·rw [g2]
    exact QM (Q1B (by decide) (by omega)) (QM (Q1B (by decide) (by show (45:Int) < _;omega)) (QM (Q1B (by decide) (by show (46:Int) < _;omega)) (Q2 trivial)))
   ·rw [g2]
    exact QM (Q1B (by decide) (by omega)) (QM (Q1B (by decide) (by show (35:Int) < _;omega)) (QM (Q1B (by decide) (by show (36:Int) < _;omega)) (Q2 trivial)))
 ·have hne:=h3 h3f
  refine Q3 _ (Qee _ _ hs) (λr15 _=>Qa (λ_=>Q2 trivial) (λ_=>Q3 _ (Qcd _) (λr16 _=>Q3 (λr=>r.1.1=b/\r.2.1.fType=m.fType) ?_ (λr6 ⟨g1,g3⟩=>?_))))
  ·exact Qa (λ_=>Q3 _ (Q9D _ _ hs) (λ_ _=>Q2 ⟨rfl,rfl⟩)) (λ_=>Q2 ⟨rfl,rfl⟩)
  refine Q3 (λ_=>True) (Qa (λ_=>?_) (λ_=>Qa (λh13=>?_) (λ_=>Q2 trivial))) (λ_ _=>Q2 trivial)
  ·rw [g1]
   exact Q3 _ (Q7M _ _ _ hs) (λ_ _=>Q3 _ (Q4t _ _ _ hs) (λ_ _=>Q3 _ (Qby _ _ hs) (λ_ _=>Q3 _ (Q4t _ _ _ hs) (λ_ _=>Q3 _ (Q7v _ _ hs) (λ_ _=>Q3 _ (Q4t _ _ _ hs) (λ_ _=>Q3 _ (Q4t _ _ _ hs) (λ_ _=>Q2 trivial)))))))
  ·exact absurd (by rw [g3] at h13;unfold ieq at h13;simpa using h13) hne
theorem Qen (b:List UInt8) (at' n:Int) (hb:b.length<=400):Tot (Q41 b at' n) (λr=>0<=r.1.1):=by
 have hs:Q47 b:=by unfold Q47;omega
 unfold Q41 Q41.gen
 refine Q3 (λr=>r.1=false->1<=n/\n<=7/\0<=at'/\at'+n<=(b.length:Int)) ?_ (λr hr=>Qa (λ_=>Q2 (Int.le_refl 0)) (λh=>?_))
 ·refine Qa (λ_=>Q2 λh=>by cases h) (λh1=>Qa (λ_=>Q2 λh=>by cases h) (λh2=>Q3 _ (Q9P b at' n hs) (λr hr=>Q2 λh=>?_)))
  have:=hr h
  have h1:=Q36 h1
  have h2:=Q36 h2
  omega
 ·obtain ⟨h1,h2,h3,h4⟩:=hr h
  obtain ⟨h5,h6⟩:=Qaz h3 (by omega) h4 hs
  refine QM h5 (Q3 (λr=>0<=r.1.1/\r.1.1 < 72057594037927936) ⟨_,Qbi _ (by omega),?_⟩ (λr hr=>Q2 ?_))
  ·have:=Q96 (List.drop (Int.toNat at') (List.take (Int.toNat (Q4 .i64 at' n)) b)) 0 (Int.le_refl 0)
   rw [h6] at this
   refine ⟨by have:=this.1;simpa using this,Int.lt_of_lt_of_le this.2 ?_⟩
   have h7:n.toNat<=7:=by omega
   have hp:(256:Nat)^n.toNat<=256^7:=Nat.pow_le_pow_right (by decide) h7
   have hq:(256:Int)^n.toNat<=256^7:=by exact_mod_cast hp
   simp only [Int.zero_add,Int.one_mul]
   omega
  ·show 0<=IntKind.i64.wrap r.1.1
   rw [Q7C]
   have:=hr.1
   have:=hr.2
   omega
abbrev Q5n (l:List Qi):Prop:=l.length<=8/\∀t∈l,t.Q2s.size<=400
theorem Qed (b:List UInt8) (at':Int) (hb:b.length<=400):Tot (Q1c b at') (λr=>Q5n r.1.1):=by
 have hl:ofN b.length=(b.length:Int):=rfl
 unfold Q1c Q1c.gen
 refine Q3 (λr=>r.1=false->0<=at'/\at'<=(b.length:Int)) (Qa (λ_=>Q2 λh=>by cases h) (λh0=>Q2 λh=>?_)) (λr0 h0=>Qa (λ_=>Q2 ⟨Nat.zero_le _,λ_ h=>by cases h⟩) (λh0f=>Q3 (λr=>Q5n r.1.1) ?_ (λr1 h1=>Qa (λ_=>Q2 ⟨Nat.zero_le _,λ_ h=>by cases h⟩) (λ_=>Q2 h1))))
 ·have h0:=Q36 h0
  have h:=Q36 h
  rw [hl] at h
  omega
 obtain ⟨a0,a1⟩:=h0 h0f
 unfold Q1c.F1
 refine Q2f (λa=>a.1.1=b/\0<=a.1.2.1/\a.1.2.1<=(b.length:Int)/\Q5n a.1.2.2.1/\a.1.2.2.2.1=0) (λa=>((b.length:Int) - a.1.2.1).toNat) (λa ⟨g1,g2,g3,g4,g5⟩=>?_) _ _ ⟨rfl,a0,a1,⟨Nat.zero_le _,λ_ h=>by cases h⟩,rfl⟩ (by simp only [];omega)
 unfold Q1c.Q2x
 rw [g1]
 refine Qa (λhlt=>?_) (λ_=>Q2 g4)
 have hlt:=Q2g hlt
 rw [hl] at hlt
 refine Q3 _ (Qen b _ _ hb) (λr0 hv=>Q3 (λr=>r.1.1=b/\r.1.2.1=a.1.2.1/\r.1.2.2.1=a.1.2.2.1/\r.1.2.2.2.2.1=r0.1.1/\(r.1.2.2.2.1=0->r0.1.1+4+a.1.2.1<=(b.length:Int)/\a.1.2.2.1.length<=7)) ?_ (λr2 ⟨k1,k2,k3,k4,k5⟩=>Qa (λ_=>Q2 (by show Q5n r2.1.2.2.1;rw [k3];exact g4)) (λhz=>?_)))
 ·refine Qa (λ_=>Q2 ⟨by first|rfl|exact g1,rfl,rfl,rfl,λh=>by cases h⟩) (λhne=>Q3 (λr=>r.1=false->r0.1.1+4+a.1.2.1<=(b.length:Int)) (Qa (λ_=>Q2 λh=>by cases h) (λ_=>Q2 λh=>?_)) (λr1 h1=>Qa (λ_=>Q2 ⟨by first|rfl|exact g1,rfl,rfl,rfl,λh=>by cases h⟩) (λh1f=>Qa (λ_=>Q2 ⟨by first|rfl|exact g1,rfl,rfl,rfl,λh=>by cases h⟩) (λ_=>Q2 ⟨by first|rfl|exact g1,rfl,rfl,rfl,λ_=>⟨h1 h1f,?_⟩⟩))))
  ·have h:=Q36 h
   rw [hl,show Q1s .i64 (b.length:Int) a.1.2.1=b.length - a.1.2.1 from Q4V (by omega),Q4V (by omega)] at h
   omega
  ·have h8:¬((a.1.2.2.1.length:Int)=8):=λe=>by unfold ieq ofN at hne;rw [e] at hne;simp at hne
   have:=g4.1
   omega
 have hz:r2.1.2.2.2.1=0:=by unfold ine at hz;simpa using hz
 obtain ⟨m1,m2⟩:=k5 hz
 rw [k1,k2,k3,k4]
 have e1:Q4 .i64 a.1.2.1 4=a.1.2.1+4:=Q1i (by omega)
 have e2:Q4 .i64 (a.1.2.1+4) r0.1.1=a.1.2.1+4+r0.1.1:=Q1i (by omega)
 have e3:Q4 .i64 4 r0.1.1=4+r0.1.1:=Q1i (by omega)
 have e4:Q4 .i64 a.1.2.1 (4+r0.1.1)=a.1.2.1+(4+r0.1.1):=Q1i (by omega)
 rw [e1,e2,e3,e4]
 refine Q3 _ (Q4t b _ _ (by unfold Q47;omega)) (λr3 _=>QM (Q2R (by omega) (by omega) (by omega)) (QM (Q2P ?_) (Q2 ⟨⟨rfl,?_,?_,⟨?_,λt ht=>?_⟩,?_⟩,?_⟩)))
 ·simp only [List.length_cons,Qm,List.length_nil];omega
 ·show 0<=a.1.2.1+(4+r0.1.1);omega
 ·show a.1.2.1+(4+r0.1.1)<=(b.length:Int);omega
 ·simp only [List.length_append,List.length_cons,Qm,List.length_nil];omega
 ·rcases List.mem_append.1 ht with ht|ht
  ·exact g4.2 t ht
  ·simp only [Qm,List.mem_cons,List.not_mem_nil,or_false] at ht
   subst ht
   show (ByteArray.mk (List.toArray _)).size<=400
   show (List.toArray _).size<=400
   simp only [List.size_toArray,List.length_drop,List.length_take]
   omega
 ·exact hz
 ·show ((b.length:Int) - (a.1.2.1+(4+r0.1.1))).toNat < ((b.length:Int) - a.1.2.1).toNat;omega
abbrev Q4d (b:ByteArray):Prop:=b.size<=1000000
theorem Q8y (b:ByteArray):b.data.toList.length=b.size:=by show b.data.toList.length=b.data.size;simp
theorem Qbf (b:ByteArray) (hb:Q4d b):Tot (K69 b) (λr=>Q5n r.1.2.1):=by
 have hs:Q47 b.data.toList:=by unfold Q47;rw [Q8y];unfold Q4d at hb;omega
 have nil:Q5n (Qm Qi):=⟨Nat.zero_le _,λ_ h=>by cases h⟩
 unfold K69 K69.gen
 refine Q3 _ (Qe3 _ hs) (λr0 h0=>Qa (λ_=>Q2 nil) (λhz=>?_))
 obtain ⟨h1,h2⟩:=h0 (by unfold ine at hz;simpa using hz)
 exact Q3 _ (Qdp _ _ h2) (λr1 _=>Qa (λ_=>Q2 nil) (λ_=>Q3 _ (Qed _ _ h2) (λr2 hr2=>Qa (λ_=>Q2 nil) (λ_=>Q2 hr2))))
theorem Qe0 (b:ByteArray) (d:Int) (hb:Q4d b):Tot (K70 b d) (λr=>Q5n r.1.2.1):=by
 unfold K70 K70.gen
 exact Q3 _ (Qbf b hb) (λr0 h0=>Q3 (λ_=>True) (Qa (λ_=>Q2 trivial) (λ_=>Q2 trivial)) (λr1 _=>Qa (λ_=>Q2 ⟨Nat.zero_le _,λ_ h=>by cases h⟩) (λ_=>Q2 h0)))
theorem Q6T {α:Type} {l:List α} {i:Nat} {d:α} (h:i < l.length):l.getD i d∈l:=by rw [Q8Z h];exact List.getElem_mem h
theorem Qbn (l:List Qi) (typ:Int) (hl:Q5n l):Tot (Q3L l typ) (λr=>r.1.1.Q2s.size<=400):=by
 have hz:(Qi.mk 0 (ByteArray.mk (List.toArray (Qm UInt8)))).Q2s.size<=400:=by decide
 unfold Q3L Q3L.gen
 refine Q3 (λr=>match r with| .inl _=>True| .inr x=>x.2.1.Q2s.size<=400) ?_ (λr0 h0=>Q2v (λa e=>Q2 hz) (λa e=>Q2 (by subst e;exact h0)))
 unfold Q3L.F0
 refine Q2f (λa=>a.1.2.1=l/\a.1.2.2.1=(l.length:Int)/\0<=a.1.2.2.2.1) (λa=>((l.length:Int) - a.1.2.2.2.1).toNat) (λa ⟨h1,h2,h3⟩=>?_) _ _ ⟨rfl,rfl,Int.le_refl 0⟩ (by have:=hl.1;simp only [];omega)
 unfold Q3L.QU
 refine Qa (λh=>?_) (λ_=>Q2 trivial)
 have h:=Q2g h
 have hl1:=hl.1
 rw [h1]
 refine QM (Q1B h3 (by omega)) (Qa (λ_=>Q2 ?_) (λ_=>Q2 ?_))
 ·exact hl.2 _ (Q6T (by omega))
 ·show (l=l/\a.1.2.2.1=(l.length:Int)/\0<=Q4 .i64 a.1.2.2.2.1 1)/\((l.length:Int) - Q4 .i64 a.1.2.2.2.1 1).toNat < ((l.length:Int) - a.1.2.2.2.1).toNat
  rw [Q1i (by omega)]
  exact ⟨⟨rfl,h2,by omega⟩,by omega⟩
theorem Qc8 (t:Qi) (ht:t.Q2s.size<=400):Tot (Q1p t) (λr=>r.1.1.length<=60):=by
 unfold Q1p Q1p.gen
 refine Q3 (λ_=>True) (Qa (λ_=>Q2 trivial) (λ_=>Q3 _ ee (λ_ _=>Q2 trivial))) (λr1 _=>Qa (λ_=>Q2 (Nat.zero_le _)) (λ_=>Q3 (λr=>r.1.1.length<=60) ?_ (λr hr=>Q2 hr)))
 unfold Q1p.F0
 refine Q2f (λa=>a.2.1=t/\(a.1.1.length:Int)*8=a.1.2.1/\a.1.2.1<=408) (λa=>(408 - a.1.2.1).toNat) (λa ⟨h1,h2,h3⟩=>?_) _ _ ⟨rfl,rfl,by show (0:Int)<=408;decide⟩ (by simp only [Qm,List.length_nil];omega)
 unfold Q1p.QU
 rw [h1]
 refine Qa (λh=>?_) (λ_=>Q2 (by show a.1.1.length<=60;omega))
 have h:=Q2g h
 unfold ofN at h
 refine Q3 _ (Q7v _ _ (by unfold Q47;rw [Q8y];omega)) (λr0 _=>QM (Q2P (by simp only [List.length_cons,Qm,List.length_nil];omega)) (Q2 ?_))
 rw [Q1i (by omega)]
 refine ⟨⟨h1,?_,?_⟩,?_⟩
 ·show ((a.1.1++r0.1.1::Qm Int).length:Int)*8=a.1.2.1+8
  simp only [List.length_append,List.length_cons,Qm,List.length_nil];omega
 ·show a.1.2.1+8<=408;omega
 ·show (408 - (a.1.2.1+8)).toNat < (408 - a.1.2.1).toNat;omega
theorem QdK (s:List Int) (v:Int) (hs:s.length<=100000):Tot (Q4e s v) (λ_=>True):=by
 unfold Q4e Q4e.gen
 refine Q3 (λ_=>True) ?_ (λ_ _=>Q2 trivial)
 unfold Q3N Q3N.gen
 refine Q3 (λ_=>True) ?_ (λr0 h0=>Q2v (λa e=>Q2 trivial) (λa e=>Q2 trivial))
 unfold Q3N.F0
 refine Q2f (λa=>a.1.1=s/\a.1.2.2.1=(s.length:Int)/\0<=a.1.2.2.2.1) (λa=>((s.length:Int) - a.1.2.2.2.1).toNat) (λa ⟨h1,h2,h3⟩=>?_) _ _ ⟨rfl,rfl,Int.le_refl 0⟩ (by simp only [];omega)
 unfold Q3N.QU
 refine Qa (λh=>?_) (λ_=>Q2 trivial)
 have h:=Q2g h
 rw [h1]
 refine QM (Q1B h3 (by omega)) (Qa (λ_=>Q2 trivial) (λ_=>Q2 ?_))
 show (s=s/\a.1.2.2.1=(s.length:Int)/\0<=Q4 .i64 a.1.2.2.2.1 1)/\((s.length:Int) - Q4 .i64 a.1.2.2.2.1 1).toNat < ((s.length:Int) - a.1.2.2.2.1).toNat
 rw [Q1i (by omega)]
 exact ⟨⟨rfl,h2,by omega⟩,by omega⟩
theorem Qbr (log:Int): -3<=Z4 true (-3:Int) (Z4 false log 4)/\Z4 true (-3:Int) (Z4 false log 4)<=4:=by
 simp only [Z4,cond_true,cond_false,Q9e,imax]
 split <;> split <;> omega
theorem QbA (n log:Int):Tot (Q2N n log) (λ_=>True):=by
 obtain ⟨h0,h1⟩:=Qbr log
 unfold Q2N Q2N.gen
 generalize Z4 true (-3:Int) (Z4 false log 4)=c at h0 h1
 refine Qa (λ_=>Q2 trivial) (λa=>Qa (λ_=>Q2 trivial) (λb=>Qa (λ_=>Q2 trivial) (λd=>QM (Q4P ?_) (Q2 trivial))))
 have a:¬c= -3:=λe=>by rw [e,Q4A] at a;cases a
 have b:¬c= -2:=λe=>by rw [e,Q4A] at b;cases b
 have d:¬c= -1:=λe=>by rw [e,Q4A] at d;cases d
 omega
theorem Qa6 (log:Int):Tot (Q2K log) (λr=>1<=r.1.1/\r.1.1<=128):=by
 obtain ⟨h0,h1⟩:=Qbr log
 unfold Q2K Q2K.gen
 refine Q3 (λr=>1<=r.1.1/\r.1.1<=128) ?_ (λr hr=>Q2 hr)
 unfold Q2N Q2N.gen
 generalize Z4 true (-3:Int) (Z4 false log 4)=c at h0 h1
 have:c= -3\/c= -2\/c= -1\/c=0\/c=1\/c=2\/c=3\/c=4:=by omega
 rcases this with rfl|rfl|rfl|rfl|rfl|rfl|rfl|rfl
 ·exact ⟨((1,()),(),()),by kernel_rfl,by decide,by decide⟩
 ·exact ⟨((2,()),(),()),by kernel_rfl,by decide,by decide⟩
 ·exact ⟨((4,()),(),()),by kernel_rfl,by decide,by decide⟩
 ·exact ⟨((8,()),(),()),by kernel_rfl,by decide,by decide⟩
 ·exact ⟨((16,()),(),()),by kernel_rfl,by decide,by decide⟩
 ·exact ⟨((32,()),(),()),by kernel_rfl,by decide,by decide⟩
 ·exact ⟨((64,()),(),()),by kernel_rfl,by decide,by decide⟩
 ·exact ⟨((128,()),(),()),by kernel_rfl,by decide,by decide⟩
theorem Qd4 (log:Int):Tot (Q1M log) (λ_=>True):=by
 unfold Q1M Q1M.gen
 exact Q3 _ (QbA _ _) (λ_ _=>Q2 trivial)
theorem Q2c {b:List UInt8} {k:Nat} (v n:Int) (hb:b.length<=k) (hk:k<=10000000):Tot (Q3s b v n) (λr=>r.1.1.length<=k+8):=Q7r (QbM b v n (by omega)) λr hr=>by have:=hr.1;omega
theorem Q7w {b:List UInt8} {k:Nat} (v:Int) (hb:b.length<=k) (hk:k<=10000000):Tot (Q3Q b v) (λr=>r.1.1.length<=k+8):=by
 unfold Q3Q Q3Q.gen
 exact Q3 _ (Q2c _ _ hb hk) (λr hr=>Q2 hr)
theorem Q7N {b:List UInt8} {k:Nat} (p:Qd) (hb:b.length<=k) (hk:k<=1000000):Tot (K82 b p) (λr=>r.1.1.length<=k+16):=by
 unfold K82 K82.gen
 exact Q3 _ (Q7w _ hb (by omega)) (λr hr=>Q3 _ (Q2c _ _ hr (by omega)) (λr hr=>Q2 hr))
theorem Qbg {b:List UInt8} {k:Nat} (q:Qx) (hb:b.length<=k) (hk:k<=1000000):Tot (Q1Z b q) (λr=>r.1.1.length<=k+24):=by
 unfold Q1Z Q1Z.gen
 exact Q3 _ (Q2c _ _ hb (by omega)) (λr hr=>Q3 _ (Q2c _ _ hr (by omega)) (λr hr=>Q3 _ (Q2c _ _ hr (by omega)) (λr hr=>Q2 hr)))
theorem Qbt {b:List UInt8} {k:Nat} (t:Int) (hb:b.length<=k) (hk:k<=1000000):Tot (Q32 b t) (λr=>r.1.1.length<=k+16):=by
 unfold Q32 Q32.gen
 exact Q3 _ ee (λr0 _=>Q3 (λr=>r.1.1=b) (Qa (λ_=>Q2 rfl) (λ_=>Q2 rfl)) (λr1 h1=>Q3 _ (Q2c _ _ (by rw [h1];exact hb) (by omega)) (λr hr=>Q3 _ (Q2c _ _ hr (by omega)) (λr hr=>Q2 hr))))
theorem Q9c (b:List UInt8) (h:b.length<=1000000):(bif le3 (ofN (0:Nat)) (ofN (List.length b)) (List.length b) then ieq (ofN (List.length b)) (ofN (List.length b)) else false)=true:=by
 rw [Q2R (by unfold ofN;omega) (by unfold ofN;omega) (by unfold ofN;omega),Q4A];rfl
theorem Q9N (b:List UInt8):List.drop (Int.toNat (ofN (0:Nat))) (List.take (Int.toNat (ofN (List.length b))) b)=b:=by unfold ofN;simp
theorem QbP (b:List UInt8) (m:Q8) (hb:b.length<=1000):Tot (K3 b m) (λr=>r.1.1.length<=1200):=by
 unfold K3 K3.gen
 rw [Q9c b (by omega),Q9N]
 refine Q3 _ ee (λr0 _=>Qa (λ_=>Q2 (by show b.length<=1200;omega)) (λ_=>QM rfl (Q3 _ ee (λr1 _=>Q3 (λr=>r.1.1.length<=1016) ?_ (λr3 h3=>Q3 _ ee (λr4 _=>Q3 (λr=>r.1.1.length<=1032) ?_ (λr6 h6=>Q3 (λr=>r.1.1.length<=1200) ?_ (λr h=>Q2 h))))))))
 ·exact Qa (λ_=>Q3 _ (Qbt _ hb (by omega)) (λr hr=>Q2 hr)) (λ_=>Q2 (by show b.length<=1016;omega))
 ·exact Qa (λ_=>Q3 _ (Q7N _ h3 (by omega)) (λr hr=>Q2 hr)) (λ_=>Q2 (by show r3.1.1.length<=1032;omega))
 ·refine Qa (λ_=>Q3 _ (Q7N _ h6 (by omega)) (λr hr=>Q2 (by show r.1.1.length<=1200;omega))) (λ_=>Qa (λ_=>?_) (λ_=>Qa (λ_=>?_) (λ_=>Q2 (by show r6.1.1.length<=1200;omega))))
  ·exact Q3 _ (Q2c _ _ h6 (by omega)) (λr hr=>Q3 _ (Q2c _ _ hr (by omega)) (λr hr=>Q3 _ (Q2c _ _ hr (by omega)) (λr hr=>Q3 _ (Qbg _ hr (by omega)) (λr hr=>Q3 _ (Q2c _ _ hr (by omega)) (λr hr=>Q3 _ (Q7w _ hr (by omega)) (λr hr=>Q3 _ (Q2c _ _ hr (by omega)) (λr hr=>Q3 _ (Q2c _ _ hr (by omega)) (λr hr=>Q2 (by show r.1.1.length<=1200;omega)))))))))
  ·exact Q3 _ (Q2c _ _ h6 (by omega)) (λr hr=>Q3 _ (Q2c _ _ hr (by omega)) (λr hr=>Q3 _ (Q2c _ _ hr (by omega)) (λr hr=>Q3 _ (Q2c _ _ hr (by omega)) (λr hr=>Q2 (by show r.1.1.length<=1200;omega)))))
theorem QdZ (t:Qi):Tot (Q2J t) (λr=>r.1.1=true->t.Q2s.size<=400):=by
 unfold Q2J Q2J.gen
 refine Q3 _ ee (λr0 _=>Qa (λ_=>Qa (λ_=>Q2 λh=>?_) (λ_=>Q2 λh=>by cases h)) (λ_=>Q2 λh=>by cases h))
 have:=Q5s h
 unfold ofN at this
 omega
theorem QbR (b:List UInt8) (l:List Qi) (hb:b.length<=10000):Tot (Q1v b l) (λr=>r.1.1.length<=20000):=by
 unfold Q1v Q1v.gen
 rw [Q9c b (by omega),Q9N]
 refine Qa (λ_=>Q2 (by show b.length<=20000;omega)) (λh8=>QM rfl (Q3 (λr=>match r with| .inl x=>x.1.1.length<=20000| .inr x=>x.1.1.length<=20000) ?_ (λr0 h0=>Q2v (λa e=>Q2 (by subst e;exact h0)) (λa e=>Q2 (by subst e;exact h0)))))
 have h8:=Q36 h8
 unfold ofN at h8
 unfold Q1v.F0
 refine Q2f (λa=>a.1.1=b/\a.1.2.2.1=l/\a.1.2.2.2.1=(l.length:Int)/\0<=a.1.2.2.2.2.1/\(a.1.2.1.length:Int)<=10000+416*a.1.2.2.2.2.1/\a.1.2.2.2.2.1<=(l.length:Int)) (λa=>((l.length:Int) - a.1.2.2.2.2.1).toNat) (λa ⟨h1,h2,h3,h4,h5,h6⟩=>?_) _ _ ⟨rfl,rfl,rfl,Int.le_refl 0,by simp only [];omega,by simp only [];omega⟩ (by simp only [];omega)
 unfold Q1v.QU
 rw [h1,h2]
 refine Qa (λh=>?_) (λ_=>Q2 (by show a.1.2.1.length<=20000;omega))
 have h:=Q2g h
 refine QM (Q1B h4 (by omega)) (Q3 _ (QdZ _) (λr0 hr0=>Qa (λ_=>Q2 (by show b.length<=20000;omega)) (λhc=>?_)))
 have hd:(List.getD l (Int.toNat a.1.2.2.2.2.1) Qi.zero).Q2s.size<=400:=hr0 (by cases hx:r0.1.1 with|true=>rfl|false=>rw [hx] at hc;cases hc)
 refine Q3 _ (Q2c _ _ (Nat.le_refl _) (by omega)) (λr1 g1=>Q3 _ (Q2c _ _ g1 (by omega)) (λr2 g2=>QM (Q2P (by rw [Q8y];omega)) (Q2 ?_)))
 rw [Q1i (by omega)]
 refine ⟨⟨rfl,rfl,h3,?_,?_,?_⟩,?_⟩
 ·show 0<=a.1.2.2.2.2.1+1;omega
 ·show ((r2.1.1++(List.getD l (Int.toNat a.1.2.2.2.2.1) Qi.zero).Q2s.data.toList).length:Int)<=10000+416*(a.1.2.2.2.2.1+1)
  rw [List.length_append,Q8y];omega
 ·show a.1.2.2.2.2.1+1<=(l.length:Int);omega
 ·show ((l.length:Int) - (a.1.2.2.2.2.1+1)).toNat < ((l.length:Int) - a.1.2.2.2.2.1).toNat;omega
theorem Qel (m:Q8) (n:Int):Tot (K75 m n) (λr=>r.1.1.length<=200):=by
 unfold K75 K75.gen
 refine Q3 (λ_=>True) (Q3 _ ee (λr0 _=>Qa (λ_=>Q2 trivial) (λ_=>Q3 _ (Qcl _ _ _) (λ_ _=>Q2 trivial)))) (λr2 _=>Qa (λ_=>Q2 (Nat.zero_le _)) (λ_=>?_))
 have hb:(UInt8.ofNat (Int.toNat (IntKind.wrap IntKind.u8 m.fType))::UInt8.ofNat (Int.toNat 18)::Qm UInt8).length<=2:=Nat.le_refl _
 exact Q3 _ (Q2c _ _ hb (by omega)) (λr hr=>Q3 _ (Q2c _ _ hr (by omega)) (λr hr=>Q3 _ (Q2c _ _ hr (by omega)) (λr hr=>Q3 _ (Q2c _ _ hr (by omega)) (λr hr=>Q3 _ (Q2c _ _ hr (by omega)) (λr hr=>Q3 _ (Q2c _ _ hr (by omega)) (λr hr=>Q3 _ (Q7N _ hr (by omega)) (λr hr=>Q3 _ (Q2c _ _ hr (by omega)) (λr hr=>Q3 _ ee (λr11 _=>Q3 _ (Q2c _ _ hr (by omega)) (λr hr=>Q3 _ (Q2c _ _ hr (by omega)) (λr hr=>Q2 (by show r.1.1.length<=200;omega))))))))))))
theorem QdS (m:Q8) (l:List Qi):Tot (K71 m l) (λ_=>True):=by
 unfold K71 K71.gen
 refine Q3 _ (QbP _ _ (by decide)) (λr0 h0=>Qa (λ_=>Q2 trivial) (λ_=>Q3 _ (QbR _ _ (by omega)) (λr1 h1=>Qa (λ_=>Q2 trivial) (λ_=>Q3 _ (Qel _ _) (λr2 h2=>Qa (λ_=>Q2 trivial) (λ_=>QM ?_ (Q2 trivial)))))))
 apply Nat.ble_eq_true_of_le
 have e1:ByteArray.size (ByteArray.mk (List.toArray r2.1.1))=r2.1.1.length:=Q6J _
 have e2:ByteArray.size (ByteArray.mk (List.toArray r1.1.1))=r1.1.1.length:=Q6J _
 rw [e1,e2]
 omega
theorem Qe1 (l:List Int):Tot (Q2F l) (λ_=>True):=by
 unfold Q2F Q2F.gen
 refine Qa (λ_=>Q2 trivial) (λh16=>Q3 (λ_=>True) ?_ (λ_ _=>Q2 trivial))
 have h16:=Q36 h16
 unfold ofN at h16
 unfold Q2F.F0
 refine Q2f (λa=>a.1.2.1=l/\a.1.2.2.1=(l.length:Int)/\0<=a.1.2.2.2.1/\(a.1.1.length:Int)<=8*a.1.2.2.2.1) (λa=>((l.length:Int) - a.1.2.2.2.1).toNat) (λa ⟨h1,h2,h3,h4⟩=>?_) _ _ ⟨rfl,rfl,Int.le_refl 0,Int.le_refl 0⟩ (by simp only [];omega)
 unfold Q2F.QU
 rw [h1]
 refine Qa (λh=>?_) (λ_=>Q2 trivial)
 have h:=Q2g h
 refine QM (Q1B h3 (by omega)) (Q3 _ (Q7w _ (Nat.le_refl _) (by omega)) (λr0 hr0=>Q2 ?_))
 rw [Q1i (by omega)]
 refine ⟨⟨rfl,h2,?_,?_⟩,?_⟩
 ·show 0<=a.1.2.2.2.1+1;omega
 ·show (r0.1.1.length:Int)<=8*(a.1.2.2.2.1+1);omega
 ·show ((l.length:Int) - (a.1.2.2.2.1+1)).toNat < ((l.length:Int) - a.1.2.2.2.1).toNat;omega
structure Q40 (c:Q9):Prop where
 out:K51 c=some ((0,()),(),())
theorem QbW (t:Qi):Tot (Q1q t) (λr=>r.1.1=true->t.fType=1->2<=t.Q2s.size):=by
 by_cases ht:t.fType=1
 ·unfold Q1q Q1q.gen
  rw [ht]
  refine Q3 (λr=>match r with| .inl _=>False| .inr x=>x.1.1=true->2<=t.Q2s.size) ?_ (λr1 h1=>Q2v (λa e=>by subst e;exact h1.elim) (λa e=>Q2 (by subst e;exact λh _=>h1 h)))
  exact Q2 λh=>by have:=Q5s h;unfold ofN at this;omega
 ·exact Q7r ((ee (x:=Q1q t))) λ_ _ _ e=>absurd e ht
theorem Qd2 (t:Qi) (ht:t.Q2s.size<=400):Tot (Q3t t) (λr=>r.1.2.1.size<=400):=by
 unfold Q3t Q3t.gen
 refine Q3 (λr=>r.1=false->2<=t.Q2s.size) (Qa (λ_=>Q2 λh=>by cases h) (λhn=>Q3 _ (QbW _) (λr0 h0=>Q2 λh=>?_))) (λr1 h1=>Qa (λ_=>Q2 (by show ByteArray.size (ByteArray.mk (List.toArray (Qm UInt8)))<=400;decide)) (λhf=>Q3 _ (Q4t _ _ _ (by unfold Q47;rw [Q8y];omega)) (λr2 _=>QM (Q2R (by decide) (by have:=h1 hf;unfold ofN;omega) (by unfold ofN;omega)) (Q2 ?_))))
 ·refine h0 (by cases hx:r0.1.1 with|true=>rfl|false=>rw [hx] at h;cases h) ?_
  unfold ine at hn
  simpa using hn
 ·show (ByteArray.extract t.Q2s (Int.toNat 2) (Int.toNat (ofN (ByteArray.size t.Q2s)))).size<=400
  rw [ByteArray.size_extract]
  unfold ofN
  omega
theorem QbI (l:List Bool) (hl:l.length<=8):Tot (K99 l) (λ_=>True):=by
 unfold K99 K99.gen
 refine Q3 (λ_=>True) ?_ (λ_ _=>Q2 trivial)
 unfold K99.F0
 refine Q2f (λa=>a.1.2.1=l/\a.1.2.2.1=(l.length:Int)/\0<=a.1.2.2.2.1) (λa=>((l.length:Int) - a.1.2.2.2.1).toNat) (λa ⟨h1,h2,h3⟩=>?_) _ _ ⟨rfl,rfl,Int.le_refl 0⟩ (by simp only [];omega)
 unfold K99.QU
 rw [h1]
 refine Qa (λh=>?_) (λ_=>Q2 trivial)
 have h:=Q2g h
 refine QM (Q1B h3 (by omega)) (Q3 (λr=>r.1.2=a.1.2) (Qa (λ_=>QM (Q4P h3) (Q2 rfl)) (λ_=>Q2 rfl)) (λr hr=>Q2 ?_))
 rw [hr,Q1i (by omega)]
 refine ⟨⟨h1,h2,?_⟩,?_⟩
 ·show 0<=a.1.2.2.2.1+1;omega
 ·show ((l.length:Int) - (a.1.2.2.2.1+1)).toNat < ((l.length:Int) - a.1.2.2.2.1).toNat;omega
theorem Q9q {b:List UInt8} {k:Nat} (v:Int) (hb:b.length<=k) (hk:k<=1000000):Tot (Q34 b v) (λr=>r.1.1.length<=k+8):=by
 unfold Q34 Q34.gen
 exact Q3 _ (Q2c _ _ hb (by omega)) (λr hr=>Q2 hr)
theorem Q8u:(Qm UInt8).length<=0:=Nat.le_refl 0
theorem Qd8 (c:Q9) (id:Int):Tot (Q2V c id) (λr=>r.1.1.length<=400):=by
 unfold Q2V Q2V.gen
 refine Q3 (λr=>match r with| .inl _=>True| .inr x=>x.1.1.length<=400) ?_ (λr1 h1=>Q2v (λa e=>Q3 _ (Q9q _ Q8u (by omega)) (λr hr=>Q3 _ (Q9q _ hr (by omega)) (λr hr=>Q2 (by show r.1.1.length<=400;omega)))) (λa e=>Q2 (by subst e;exact h1)))
 repeat' first
  |exact Q2 trivial
  |exact Q2 (Nat.zero_le 400)
  |refine Qa (λ_=>?_) (λ_=>?_)
  |refine Q3 _ (QbI _ (by simp [Qm])) (λ_ _=>?_)
theorem QdB (v:Q1t) (id:Int):Tot (Q4l v id) (λr=>r.1.1.length<=400):=by
 unfold Q4l Q4l.gen
 have fin:∀{k:Nat} {x:List UInt8},x.length<=k->k<=400->x.length<=400:=λh h2=>Nat.le_trans h h2
 repeat' first
  |with_reducible refine Qa (λ_=>?_) (λ_=>?_)
  |with_reducible refine Q3 _ (QbI _ (by simp [Qm])) (λ_ _=>?_)
  |with_reducible refine Q3 _ ee (λ_ _=>?_)
  |with_reducible refine Q3 _ (Qd8 _ _) (λr hr=>?_)
  |with_reducible refine Q3 _ (Q9q _ Q8u (by omega)) (λr hr=>?_)
  |with_reducible refine Q3 _ (Q2c _ _ Q8u (by omega)) (λr hr=>?_)
  |with_reducible refine Q3 _ (Q7N _ Q8u (by omega)) (λr hr=>?_)
  |with_reducible refine Q3 _ (Qbt _ Q8u (by omega)) (λr hr=>?_)
  |with_reducible refine Q3 _ (Q9q _ (by assumption) (by omega)) (λr hr=>?_)
  |with_reducible refine Q3 _ (Q2c _ _ (by assumption) (by omega)) (λr hr=>?_)
  |with_reducible refine Q3 _ (Q7w _ (by assumption) (by omega)) (λr hr=>?_)
  |with_reducible refine Q3 _ (Q7N _ (by assumption) (by omega)) (λr hr=>?_)
  |with_reducible refine Q3 _ (Qbg _ (by assumption) (by omega)) (λr hr=>?_)
  |refine Q2 (fin (by assumption) (by omega))
structure Q2w (c d:Q9):Prop where
 clock:d.QI=c.QI
 Q3D:d.QB=c.QB
theorem Q2w.rfl' (c:Q9):Q2w c c:=⟨rfl,rfl⟩
theorem set_t (c:Q9) (id:Int) (b:ByteArray) (hb:b.size=2):Tot (Q3W c id b) (λr=>Q2w c r.1.1):=by
 unfold Q3W Q3W.gen
 refine QM (Q1B (Int.le_refl 0) (by omega)) (QM (Q1B (Int.le_refl 0) (by omega)) (Q3 (λr=>Q2w c r.2.1) ?_ (λr hr=>Q2 hr)))
 repeat' first
  |exact Q2 ⟨rfl,rfl⟩
  |refine Qa (λ_=>?_) (λ_=>?_)
theorem Qcw (id:Int):Tot (Q4n id) (λr=>r.1.1=2\/id=0\/id=8205\/id=8206):=by
 unfold Q4n Q4n.gen
 refine Q3 (λr=>r.1.1=true->id=0\/id=8205\/id=8206) ?_ (λr hr=>Qa (λh=>Q2 (.inr (hr h))) (λ_=>Q2 (.inl rfl)))
 exact Qa (λh=>Q2 λ_=>.inl (Q87.1 h)) (λ_=>Qa (λh=>Q2 λ_=>.inr (.inl (Q87.1 h))) (λ_=>Q2 λh=>.inr (.inr (Q87.1 h))))
theorem cmd_t (id:Int):Tot (Q3k id) (λr=>r.1.1=false->id≠8205/\id≠8206):=by
 unfold Q3k Q3k.gen
 refine Qa (λ_=>Q2 λh=>by cases h) (λ_=>Qa (λ_=>Q2 λh=>by cases h) (λ_=>Qa (λ_=>Q2 λh=>by cases h) (λh1=>Q2 λh2=>⟨?_,?_⟩)))
 ·intro e;rw [e,Q4A] at h1;cases h1
 ·intro e
  have h2:ieq id 8206=false:=h2
  rw [e,Q4A] at h2;cases h2
theorem QdU (v:Q1t) (a id:Int) (d:ByteArray) (hc:Q40 v.QQ) (hd:d.size<=400):Tot (K96 v a id d) (λr=>r.1.1.size<=400/\Q40 r.1.2.1/\Q2w v.QQ r.1.2.1/\(a=3->r.1.2.1=v.QQ)):=by
 have hn:ByteArray.size (ByteArray.mk (List.toArray (Qm UInt8)))<=400:=by decide
 have hS:=Q2w.rfl' v.QQ
 unfold K96 K96.gen
 refine Q3 _ ee (λr0 _=>Q3 (λr=>match r with| .inl x=>Q40 x.2.1.QQ/\Q2w v.QQ x.2.1.QQ/\a≠3| .inr x=>x.1.1.size<=400/\Q40 x.2.1/\Q2w v.QQ x.2.1/\(a=3->x.2.1=v.QQ)) ?_ (λr14 h14=>Q2v (λx e=>?_) (λx e=>Q2 (by subst e;exact h14))))
 ·refine Qa (λ_=>Q2 ⟨hn,hc,hS,λ_=>rfl⟩) (λ_=>Q3 (λ_=>True) ?_ (λr1 _=>Qa (λ_=>Q2 ⟨hn,hc,hS,λ_=>rfl⟩) (λ_=>Q3 (λ_=>True) ?_ (λr3 _=>?_))))
  ·exact Qa (λ_=>Qa (λ_=>Q2 trivial) (λ_=>Q2 trivial)) (λ_=>Q2 trivial)
  ·exact Qa (λ_=>Q3 _ ee (λ_ _=>Q2 trivial)) (λ_=>Q2 trivial)
  refine Q3 (λr=>r.1.1=a/\r.1.2.1=id/\r.1.2.2.1=d/\r.2.1=v/\(r.1.2.2.2.1=false->a≠3->id=0\/(id≠8205/\id≠8206))) ?_ (λr6 ⟨g1,g2,g3,g4,g5⟩=>?_)
  ·refine Qa (λh=>Q2 ⟨rfl,rfl,rfl,rfl,λh2=>by rw [show r3.1=false from h2] at h;cases h⟩) (λ_=>Q3 (λr=>r.1=false->a≠3->id=0\/(id≠8205/\id≠8206)) (Qa (λ_=>Q3 _ (cmd_t _) (λr4 h4=>Qa (λ_=>Q2 λh _=>.inl ?_) (λh=>Q2 λ_ _=>.inr (h4 h)))) (λh=>Q2 λ_ h3=>?_)) (λr5 h5=>Q2 ⟨rfl,rfl,rfl,rfl,h5⟩))
   ·unfold ine at h;simpa using h
   ·unfold ine at h;exact absurd (by simpa using h) h3
  rw [g1,g2,g3,g4]
  refine Qa (λ_=>Q2 ⟨hn,hc,hS,λ_=>rfl⟩) (λh6=>Q3 (λ_=>True) (Qa (λ_=>Q3 _ ee (λ_ _=>Q2 trivial)) (λ_=>Q2 trivial)) (λr8 _=>Qa (λ_=>Q2 ⟨hn,hc,hS,λ_=>rfl⟩) (λ_=>Q3 (λr=>r.1=false->a≠0->d.size=2\/id=0\/id=8205\/id=8206) ?_ (λr10 h10=>Qa (λ_=>Q2 ⟨hn,hc,hS,λ_=>rfl⟩) (λh10f=>Qa (λ_=>Q2 ⟨hd,hc,hS,λ_=>rfl⟩) (λhn3=>?_))))))
  ·refine Qa (λ_=>Q3 _ (Qcw _) (λr9 h9=>Q2 λh _=>?_)) (λh=>Q2 λ_ h0=>?_)
   ·have h:ofN d.size=r9.1.1:=by unfold ine at h;simpa using h
    unfold ofN at h
    omega
   ·unfold ine at h;exact absurd (by simpa using h) h0
  have ha3:a≠3:=λe=>by rw [e,Q4A] at hn3;cases hn3
  refine Q3 (λr=>r.1=true->a=1/\id≠0) (Qa (λh=>Q2 λh2=>⟨Q87.1 h,Qa9.1 h2⟩) (λ_=>Q2 λh=>by cases h)) (λr11 h11=>Qa (λh=>?_) (λ_=>Q2 ⟨by show Q40 r6.2.1.QQ;rw [g4];exact hc,by show Q2w v.QQ r6.2.1.QQ;rw [g4];exact hS,ha3⟩))
  obtain ⟨ha,hi⟩:=h11 h
  have h2:d.size=2:=by
   have:=h10 h10f (by omega)
   have:=g5 h6 ha3
   omega
  refine Q3 _ (set_t _ _ _ h2) (λr12 h12=>Q3 (λr=>K51 r12.1.1=some r) ?_ (λr13 h13=>Qa (λ_=>Q2 ⟨hn,hc,hS,λ_=>rfl⟩) (λhz=>Q2 ⟨?_,h12,ha3⟩)))
  ·obtain ⟨x,hx,_⟩:=(ee (x:=K51 r12.1.1))
   exact ⟨x,hx,hx⟩
  ·have:r13.1.1=0:=by unfold ine at hz;simpa using hz
   obtain ⟨⟨z,u⟩,w,w'⟩:=r13
   have this:z=0:=this
   subst this
   exact ⟨h13⟩
 ·subst e
  exact Q3 _ (QdB _ _) (λr16 h16=>Q2 ⟨by show ByteArray.size (ByteArray.mk (List.toArray r16.1.1))<=400;rw [show ByteArray.size (ByteArray.mk (List.toArray r16.1.1))=r16.1.1.length from Q6J _];exact h16,h14.1,h14.2.1,λh=>absurd h h14.2.2⟩)
theorem Qdi (e id:Int):Tot (Q2O e id) (λ_=>True):=by
 unfold Q2O Q2O.gen
 exact Q3 (λ_=>True) (Q3 _ ee (λ_ _=>Qa (λ_=>Q2 trivial) (λ_=>Q3 _ ee (λ_ _=>Q2 trivial)))) (λr2 _=>Qa (λ_=>Q2 trivial) (λ_=>Q3 _ (Q2c _ _ Q8u (by omega)) (λr hr=>Q3 _ (Q2c _ _ hr (by omega)) (λr hr=>Q3 _ (Q2c _ _ hr (by omega)) (λr hr=>Q2 trivial)))))
theorem QdH (id:Int) (d:ByteArray) (hd:d.size<=400):Tot (Q2k id d) (λ_=>True):=by
 unfold Q2k Q2k.gen
 refine Q3 (λ_=>True) (Q3 _ ee (λ_ _=>Qa (λ_=>Q2 trivial) (λ_=>Q2 trivial))) (λr1 _=>Qa (λ_=>Q2 trivial) (λ_=>Q3 _ (Q2c _ _ Q8u (by omega)) (λr2 hr2=>?_)))
 have hl:(r2.1.1++d.data.toList).length<=1000:=by rw [List.length_append,Q8y];omega
 refine QM (Q2P (by rw [Q8y];omega)) (Q3 (λ_=>True) (Qa (λ_=>?_) (λ_=>Q2 trivial)) (λr3 _=>Qa (λ_=>Q2 trivial) (λ_=>Q2 trivial)))
 rw [Q9c _ (by omega),Q9N]
 exact QM rfl (QM (Q2P (by simp only [List.length_cons,Qm,List.length_nil];omega)) (Q2 trivial))
section
open Ieee
theorem Q8D {a:Nat} (j:Nat) (h:0 < a):(a <<< j).log2=a.log2+j:=by
 have h0:a≠0:=by omega
 have h1:a <<< j≠0:=by rw [Nat.shiftLeft_eq];exact Nat.mul_ne_zero h0 (Nat.ne_of_gt (Nat.two_pow_pos j))
 rw [Nat.log2_eq_iff h1]
 have h2:=(Nat.log2_eq_iff (k:=a.log2) h0).1 rfl
 rw [Nat.shiftLeft_eq]
 constructor
 ·rw [Nat.pow_add];exact Nat.mul_le_mul_right _ h2.1
 ·rw [show a.log2+j+1=(a.log2+1)+j by omega,Nat.pow_add]
  exact Nat.mul_lt_mul_of_pos_right h2.2 (Nat.two_pow_pos j)
theorem Q7W (w:Toward) (neg:Bool) (hw:w= .even\/w= .zero) (n d:Nat):Toward.cut w neg (n <<< d) d=n:=by
 have hgap:0 < 1 <<< min d ((n <<< d).log2+2):=by rw [Nat.shiftLeft_eq,Nat.one_mul];exact Nat.two_pow_pos _
 unfold Toward.cut
 rcases Nat.eq_zero_or_pos n with h0|h0
 ·subst h0
  simp only [Nat.zero_shiftLeft,Nat.zero_div,Nat.zero_mod]
  rcases hw with rfl|rfl <;> simp <;> omega
 ·have hm:min d ((n <<< d).log2+2)=d:=by rw [Q8D d h0];omega
  rw [hm]
  have e1:n <<< d / 1 <<< d=n:=by rw [Nat.shiftLeft_eq,Nat.shiftLeft_eq,Nat.one_mul];exact Nat.mul_div_cancel _ (Nat.two_pow_pos d)
  have e2:n <<< d % 1 <<< d=0:=by rw [Nat.shiftLeft_eq,Nat.shiftLeft_eq,Nat.one_mul];exact Nat.mul_mod_left _ _
  simp only [e1,e2]
  rw [hm] at hgap
  rcases hw with rfl|rfl <;> simp <;> omega
theorem cut_0 (w:Toward) (neg:Bool) (hw:w= .even\/w= .zero) (n:Nat):Toward.cut w neg n 0=n:=by
 have:=Q7W w neg hw n 0
 rwa [Nat.shiftLeft_zero] at this
def Q5F (a:Nat):Nat:=(a.log2+1022)*2^52+a <<< (52 - a.log2)
theorem Q7k {a:Nat} (h:0 < a) (hb:a < 2^53):a.log2<=52:=by
 have:=(Nat.log2_lt (by omega:a≠0)).2 hb
 omega
theorem QbJ {a:Nat} (h:0 < a) (hb:a < 2^53):2^52<=a <<< (52 - a.log2)/\a <<< (52 - a.log2) < 2^53:=by
 have h1:=Q7k h hb
 have h2:=Q8D (52 - a.log2) h
 have h3:a <<< (52 - a.log2)≠0:=by rw [Nat.shiftLeft_eq];exact Nat.mul_ne_zero (by omega) (Nat.ne_of_gt (Nat.two_pow_pos _))
 have h4:=(Nat.log2_eq_iff h3 (k:=52)).1 (by rw [h2];omega)
 exact ⟨h4.1,h4.2⟩
theorem Q7K (neg:Bool) (a j:Nat) (ha:0 < a) (hb:a < 2^53):double.nearest neg (a <<< j) (-(j:Int))=double.word neg (Q5F a):=by
 have h1:=Q7k ha hb
 have h2:=QbJ ha hb
 have h0:a <<< j≠0:=by rw [Nat.shiftLeft_eq];exact Nat.mul_ne_zero (by omega) (Nat.ne_of_gt (Nat.two_pow_pos j))
 unfold Format.nearest
 rw [if_neg h0,Q8D j ha]
 have hl:double.leastPlace= -1074:=by decide
 have hf:double.fractionBits=52:=rfl
 rw [hl,hf]
 have e1:max (-(j:Int)+((a.log2+j:Nat):Int) - ((52:Nat):Int)) (-1074)=(a.log2:Int) - 52:=by omega
 simp only [e1]
 have e2:((a.log2:Int) - 52 - -1074).toNat=a.log2+1022:=by omega
 rw [e2]
 have e3:Toward.even.cut neg (a <<< j <<< (-(j:Int) - ((a.log2:Int) - 52)).toNat) ((a.log2:Int) - 52 - -(j:Int)).toNat=a <<< (52 - a.log2):=by
  by_cases hj:j<=52 - a.log2
  ·rw [show (-(j:Int) - ((a.log2:Int) - 52)).toNat=52 - a.log2 - j by omega,show ((a.log2:Int) - 52 - -(j:Int)).toNat=0 by omega,cut_0 _ _ (.inl rfl),←Nat.shiftLeft_add]
   congr 1;omega
  ·rw [show (-(j:Int) - ((a.log2:Int) - 52)).toNat=0 by omega,Nat.shiftLeft_zero]
   have:a <<< j=(a <<< (52 - a.log2)) <<< ((a.log2:Int) - 52 - -(j:Int)).toNat:=by rw [←Nat.shiftLeft_add];congr 1;omega
   rw [this]
   exact Q7W _ _ (.inl rfl) _ _
 rw [e3]
 have hbn:double.binade=2^52:=rfl
 have hir:double.infRung=2047*2^52:=rfl
 rw [hbn,hir,Nat.min_eq_left]
 ·unfold Q5F;exact rfl
 ·obtain ⟨_,h3⟩:=h2
  clear e3 e2 e1
  generalize a <<< (52 - a.log2)=k at*
  generalize a.log2=l at*
  clear h0 hl hf hbn hir
  omega
theorem QcN {a:Nat} (ha:0 < a) (hb:a < 2^53):Q5F a < 2^63/\Q5F a / 2^52=a.log2+1023/\Q5F a % 2^52+2^52=a <<< (52 - a.log2):=by
 have h1:=Q7k ha hb
 obtain ⟨h2,h3⟩:=QbJ ha hb
 unfold Q5F
 generalize a <<< (52 - a.log2)=k at*
 generalize a.log2=l at*
 refine ⟨?_,?_,?_⟩ <;> omega
theorem Qbq (neg:Bool) (a:Nat) (ha:0 < a) (hb:a < 2^53):double.read (double.word neg (Q5F a))= .number neg (a <<< (52 - a.log2)) ((a.log2:Int) - 52):=by
 obtain ⟨h1,h2,h3⟩:=QcN ha hb
 have h4:=Q7k ha hb
 unfold Format.read
 have hs:double.signWeight=2^63:=rfl
 have hbn:double.binade=2^52:=rfl
 have hir:double.infRung=2047*2^52:=rfl
 have hl:double.leastPlace= -1074:=by decide
 have hn:double.word neg (Q5F a) / double.signWeight % 2=neg.toNat/\double.word neg (Q5F a) % double.signWeight=Q5F a:=by
  unfold Format.word
  rw [hs]
  cases neg <;> simp <;> omega
 simp only [hn.1,hn.2,hbn,hir,hl]
 generalize Q5F a=r at*
 rw [if_neg (by omega),if_pos (by omega),h2]
 congr 1
 ·cases neg <;> rfl
 ·omega
 ·omega
def fW (n:Int):Nat:=floatOfInt .f64 n
theorem Q7m:fW 0=0:=by decide
theorem Qcq {n:Int} (h:n≠0) (hb:n.natAbs < 2^53):fW n=double.word (decide (n < 0)) (Q5F n.natAbs):=by
 have:=Q7K (decide (n < 0)) n.natAbs 0 (by omega) hb
 rw [Nat.shiftLeft_zero] at this
 exact this
theorem Q5r {n:Int} (hb:n.natAbs < 2^53):∃(k:Nat),double.read (fW n)= .number (decide (n < 0)) (n.natAbs <<< k) (-(k:Int))/\k<=1074:=by
 by_cases h:n=0
 ·subst h
  exact ⟨1074,by rw [Q7m];decide,by omega⟩
 ·have h1:=Q7k (a:=n.natAbs) (by omega) hb
  refine ⟨52 - n.natAbs.log2,?_,by omega⟩
  rw [Qcq h hb,Qbq _ _ (by omega) hb]
  congr 1
  omega
theorem Q6q (n:Int) (k u:Nat):signed (decide (n < 0)) (n.natAbs <<< k) u=n*2^(k+u):=by
 unfold signed
 rw [←Nat.shiftLeft_add,Nat.shiftLeft_eq]
 have h2:((2^(k+u):Nat):Int)=2^(k+u):=by simp
 by_cases h:n < 0
 ·rw [if_pos (by simpa using h)]
  rw [Int.natCast_mul,h2,show ((n.natAbs:Nat):Int)= -n by omega,Int.neg_mul,Int.neg_neg]
 ·rw [if_neg (by simpa using h)]
  rw [Int.natCast_mul,h2,show ((n.natAbs:Nat):Int)=n by omega]
theorem Q8f (n:Int) (k:Nat) (h:n≠0) (hb:n.natAbs < 2^53):double.write (.number (decide (n < 0)) (n.natAbs <<< k) (-(k:Int)))=fW n:=by
 rw [Qcq h hb]
 exact Q7K _ _ _ (by omega) hb
theorem Qe9 {x y:Int} (hx:x.natAbs < 2^53) (hy:y.natAbs < 2^53) (hs:(x+y).natAbs < 2^53):floatBits .add .f64 (fW x) (fW y)=some (fW (x+y)):=by
 obtain ⟨i,hi,hi'⟩:=Q5r hx
 obtain ⟨j,hj,hj'⟩:=Q5r hy
 show double.add (fW x) (fW y)=_
 unfold Format.add
 rw [hi,hj]
 unfold Datum.sum
 simp only [Option.map_some]
 rw [Q6q,Q6q]
 have hk:min (-(i:Int)) (-(j:Int))= -((max i j:Nat):Int):=by omega
 rw [hk,show i+(-(i:Int) - -((max i j:Nat):Int)).toNat=max i j by omega,show j+(-(j:Int) - -((max i j:Nat):Int)).toNat=max i j by omega,←Int.add_mul]
 have hp:(0:Int) < 2^(max i j):=Int.pow_pos (by decide)
 by_cases h0:x+y=0
 ·rw [h0,Int.zero_mul,if_pos rfl]
  have:(decide (x < 0) && decide (y < 0))=false:=by
   by_cases hx0:x < 0
   ·have:¬y < 0:=by omega
    simp [this]
   ·simp [hx0]
  rw [this,Q7m]
  unfold Format.write Format.nearest Format.word
  simp
 ·have h1:(x+y)*2^(max i j)≠0:=Int.mul_ne_zero h0 (Int.ne_of_gt hp)
  rw [if_neg h1]
  have h2:decide ((x+y)*2^(max i j) < 0)=decide (x+y < 0):=by
   by_cases hn:x+y < 0
   ·have:=Int.mul_neg_of_neg_of_pos hn hp
    simp [hn,this]
   ·have:=Int.mul_nonneg (show 0<=x+y by omega) (Int.le_of_lt hp)
    simp [hn];omega
  have h3:((x+y)*2^(max i j)).natAbs=(x+y).natAbs <<< (max i j):=by
   rw [Int.natAbs_mul,Nat.shiftLeft_eq,Int.natAbs_pow];rfl
  rw [h2,h3,Q8f _ _ h0 hs]
theorem Qa4 {x:Int} (hx:x.natAbs < 2^53):floatBits .mul .f64 (fW x) (fW 1)=some (fW x):=by
 obtain ⟨i,hi,hi'⟩:=Q5r hx
 have h1:double.read (fW 1)= .number false (1 <<< 52) (-52):=by decide
 show double.mul (fW x) (fW 1)=_
 unfold Format.mul
 rw [hi,h1]
 unfold Datum.product
 simp only [Option.map_some]
 have e:x.natAbs <<< i*1 <<< 52=x.natAbs <<< (i+52):=by
  rw [Nat.shiftLeft_eq,Nat.shiftLeft_eq,Nat.shiftLeft_eq,Nat.one_mul,Nat.mul_assoc,←Nat.pow_add]
 rw [e,show (-(i:Int)+ -52)= -((i+52:Nat):Int) by omega]
 by_cases h0:x=0
 ·subst h0
  rw [Q7m]
  unfold Format.write Format.nearest Format.word
  simp
 ·rw [show (decide (x < 0)^^false)=decide (x < 0) by simp,Q8f _ _ h0 hx]
theorem Qe4 {x y:Int} (hx:x.natAbs < 2^53) (hy:y.natAbs < 2^53):∃r,floatBits .sub .f64 (fW x) (fW y)=some r:=by
 obtain ⟨i,hi,hi'⟩:=Q5r hx
 obtain ⟨j,hj,hj'⟩:=Q5r hy
 have:∃r,double.sub (fW x) (fW y)=some r:=by
  unfold Format.sub
  rw [hi,hj]
  exact ⟨_,rfl⟩
 exact this
theorem Q7E {x y:Int} (hx:x.natAbs < 2^53) (hy:y.natAbs < 2^53):(FloatKind.f64.format).order (fW x) (fW y)=some (compare x y):=by
 obtain ⟨i,hi,hi'⟩:=Q5r hx
 obtain ⟨j,hj,hj'⟩:=Q5r hy
 show double.order (fW x) (fW y)=_
 unfold Format.order
 rw [hi,hj]
 unfold Datum.order
 simp only []
 rw [Q6q,Q6q]
 have hk:min (-(i:Int)) (-(j:Int))= -((max i j:Nat):Int):=by omega
 rw [hk,show i+(-(i:Int) - -((max i j:Nat):Int)).toNat=max i j by omega,show j+(-(j:Int) - -((max i j:Nat):Int)).toNat=max i j by omega]
 have hp:(0:Int) < 2^(max i j):=Int.pow_pos (by decide)
 generalize (2:Int)^(max i j)=p at*
 congr 1
 rcases Int.lt_trichotomy x y with h|h|h
 ·rw [Int.compare_eq_lt.2 h,Int.compare_eq_lt.2 (Int.mul_lt_mul_of_pos_right h hp)]
 ·subst h
  rw [Int.compare_eq_eq.2 rfl,Int.compare_eq_eq.2 rfl]
 ·rw [Int.compare_eq_gt.2 h,Int.compare_eq_gt.2 (Int.mul_lt_mul_of_pos_right h hp)]
theorem Q8h {x:Int} (hx:x.natAbs < 2^53):(double.read (fW x)).integral .zero= .number (decide (x < 0)) x.natAbs 0:=by
 obtain ⟨i,hi,hi'⟩:=Q5r hx
 rw [hi]
 unfold Datum.integral
 simp only []
 rw [show (-(i:Int)).toNat=0 by omega,Nat.shiftLeft_zero,show (- -(i:Int)).toNat=i by omega,Q7W _ _ (.inr rfl)]
theorem Qca {x:Int} (hx:x.natAbs < 2^53):floatToIntVal .f64 (fW x) .i64=some x:=by
 unfold floatToIntVal FloatKind.decode
 show (match ((double.read (fW x)).toInt .zero) with
 |some n=>if IntKind.i64.min<=n/\n<=IntKind.i64.max then some n else none
 |none=>none)=_
 unfold Datum.toInt
 rw [Q8h hx]
 simp only []
 have:=Q6q x 0 0
 rw [Nat.shiftLeft_zero] at this
 rw [this]
 have h1:IntKind.i64.min= -9223372036854775808:=by decide
 have h2:IntKind.i64.max=9223372036854775807:=by decide
 rw [h1,h2,if_pos (by constructor <;> omega)]
 simp
theorem Qc5 {x:Int} (hx:x.natAbs < 2^53):Z2k (fW x)=some (fW x):=by
 have h:=Q8h hx
 obtain ⟨i,hi,hi'⟩:=Q5r hx
 unfold Z2k FloatKind.decode
 show (match double.read (fW x) with
 | .nan _ _=>none
 |d=>some (FloatKind.f64.encode (d.integral .zero)))=_
 rw [hi] at h ⊢
 simp only [h]
 rfl
end
theorem Qea:(4607182418800017408:Nat)=fW 1:=by decide
theorem fW_lo:(14063734437023318016:Nat)=fW (-4000000000000000):=by decide
theorem fW_hi:(4840362400168542208:Nat)=fW 4000000000000000:=by decide
theorem sg_0:K90 0=some ((false,()),(),()):=by kernel_rfl
theorem Qap {x:Int} (h:x.natAbs < 2^53):K91 (fW x)=some ((fW x,()),(),()):=by
 unfold K91 K91.gen
 rw [Qc5 h]
 rfl
theorem Q8P {x:Int} (h0: -4000000000000000<=x) (h1:x<=4000000000000000):Q3y (fW x)=some ((true,()),(),()):=by
 have hb:x.natAbs < 2^53:=by omega
 unfold Q3y Q3y.gen
 rw [fW_lo,fW_hi,Q7E hb (by decide),Q7E hb (by decide),Qap hb]
 simp only [Q12]
 rw [Q7E hb hb]
 have e1:(some (compare x (-4000000000000000))==some Ordering.gt||some (compare x (-4000000000000000))==some Ordering.eq)=true:=by
  rcases Int.lt_trichotomy x (-4000000000000000) with h|h|h
  ·omega
  ·rw [Int.compare_eq_eq.2 h];rfl
  ·rw [Int.compare_eq_gt.2 h];rfl
 have e2:(some (compare x 4000000000000000)==some Ordering.lt||some (compare x 4000000000000000)==some Ordering.eq)=true:=by
  rcases Int.lt_trichotomy x 4000000000000000 with h|h|h
  ·rw [Int.compare_eq_lt.2 h];rfl
  ·rw [Int.compare_eq_eq.2 h];rfl
  ·omega
 have e3:(some (compare x x)==some Ordering.eq)=true:=by rw [Int.compare_eq_eq.2 rfl];rfl
 rw [e1,e2,e3]
 simp only [cond_true]
 rw [show (0:Nat)=fW 0 from Q7m.symm,Q7E hb (by decide)]
 by_cases hx:x=0
 ·subst hx
  rw [Int.compare_eq_eq.2 rfl,Q7m,sg_0]
  rfl
 ·have:(some (compare x 0) !=some Ordering.eq)=true:=by
   rcases Int.lt_trichotomy x 0 with h|h|h
   ·rw [Int.compare_eq_lt.2 h];rfl
   ·omega
   ·rw [Int.compare_eq_gt.2 h];rfl
  rw [this]
  rfl
theorem Qa0 {a b:Int} (a0: -4000000000000000<=a) (a1:a<=4000000000000000) (b0: -4000000000000000<=b) (b1:b<=4000000000000000):Q2n a b=some (((fW a,fW b),(true,())),(),()):=by
 unfold Q2n Q2n.gen
 rw [Q52 (show ¬a < -4000000000000000 by omega),Q52 (show ¬4000000000000000 < a by omega),Q52 (show ¬b < -4000000000000000 by omega),Q52 (show ¬4000000000000000 < b by omega)]
 rfl
theorem Q8X {a b:Int} (a0: -4000000000000000<=a) (a1:a<=4000000000000000) (b0: -4000000000000000<=b) (b1:b<=4000000000000000):Q1S (fW a,fW b)=some ((Q5I .i64 (a+b) 1,(true,())),(),()):=by
 have ha:a.natAbs < 2^53:=by omega
 have hb:b.natAbs < 2^53:=by omega
 have hab:(a+b).natAbs < 2^53:=by omega
 obtain ⟨r,hr⟩:=Qe4 ha hb
 have hm:cMulBits (fW a) (fW b) (fW 1) (fW 1)=some (r,fW (a+b)):=by
  unfold cMulBits
  rw [Qa4 ha,Qa4 hb]
  simp only [Option.bind_some]
  rw [hr,Qe9 ha hb hab]
  rfl
 unfold Q1S Q1S.gen Q33 Q33.gen Q1f Q1f.gen
 simp only []
 rw [Q8P a0 a1,Q8P b0 b1]
 simp only [Q12,cond_true,Bool.not_true,cond_false]
 rw [Qea,hm]
 simp only [Q12]
 rw [Qca hab]
 rfl
theorem pof_t (a b:Int):Tot (Q2n a b) (λr=>r.1.2.1=true->Tot (Q1S r.1.1) (λ_=>True)):=by
 by_cases h:(-4000000000000000<=a/\a<=4000000000000000)/\(-4000000000000000<=b/\b<=4000000000000000)
 ·obtain ⟨⟨a0,a1⟩,b0,b1⟩:=h
  exact ⟨_,Qa0 a0 a1 b0 b1,λ_=>⟨_,Q8X a0 a1 b0 b1,trivial⟩⟩
 ·unfold Q2n Q2n.gen
  refine Q3 (λr=>r.1=true) ?_ (λr hr=>Qa (λ_=>Q2 λh=>by cases h) (λhf=>by rw [hr] at hf;cases hf))
  refine Qa (λ_=>Q2 rfl) (λh1=>Qa (λ_=>Q2 rfl) (λh2=>Qa (λ_=>Q2 rfl) (λh3=>Q2 ?_)))
  have h1:=Q36 h1
  have h2:=Q36 h2
  have h3:=Q36 h3
  exact Q6j (by omega)
theorem opc (i:Int):Z4 true 1 (Z4 false i 16000000000)≠0:=by
 simp only [Z4,cond_true,cond_false,Q9e,imax]
 split <;> split <;> omega
theorem QcE (o i:Int) (s:Qo):Tot (Q3A o i s) (λ_=>True):=by
 unfold Q3A Q3A.gen
 have hne:ine (Z4 true 1 (Z4 false i 16000000000)) 0=true:=Q6M (opc i)
 repeat' first
  |with_reducible refine QM hne ?_
  |with_reducible refine Qa (λ_=>?_) (λ_=>?_)
  |with_reducible refine Q3 _ ee (λ_ _=>?_)
  |with_reducible refine Q3 (λ_=>True) ?_ (λ_ _=>?_)
  |with_reducible exact Q2 trivial
theorem Qae {n:Int} (K:Q1) (h1:1<=n) (h8:n<=8):K32 n K=some (((n - 1).toNat,()),(),()):=by
 unfold K32 K32.gen
 rw [Q4V (by omega),Q1B (n:=8) (by omega) (by omega)]
 rfl
theorem Q7S (n:Int) (K:Q1):Tot (K25 n K) (λr=>r.1.1=false->1<=n/\n<=K.Qs.QB):=by
 unfold K25 K25.gen
 exact Qa (λ_=>Q2 λh=>by cases h) (λh1=>Q2 λh=>⟨by have:=Q36 h1;omega,by have:=Q36 h;omega⟩)
theorem Q3F {c:Q9} (h:Q40 c):1<=c.QB/\c.QB<=8/\1<=c.Q4s/\c.Q4s<=15:=by
 have h:=h.out
 rw [Qbl] at h
 have hk:okC c=true:=by
  cases hx:okC c with
  |true=>rfl
  |false=>rw [hx] at h;cases h
 unfold okC QaG inB at hk
 simp only [Bool.and_eq_true,decide_eq_true_eq] at hk
 omega
theorem Qab (n:Int) (K:Q1) (h:Q40 K.Qs):Tot (K9 n K) (λr=>(1<=n/\n<=K.Qs.QB->r.1.1=(K.Qf (n - 1).toNat).Q1w)/\(r.1.1≠0->1<=n/\n<=K.Qs.QB)):=by
 obtain ⟨_,p8,_⟩:=Q3F h
 unfold K9 K9.gen
 obtain ⟨r,hr,hp⟩:=Q7S n K
 rw [hr,Q12]
 refine Qa (λht=>Q2 ⟨λhn=>?_,λh=>absurd rfl h⟩) (λhf=>?_)
 ·unfold K25 K25.gen at hr
  rw [Q52 (by omega)] at hr
  simp only [cond_false,Option.some.injEq] at hr
  rw [←hr] at ht
  have:=Q2g ht
  omega
 ·obtain ⟨h1,h2⟩:=hp hf
  rw [Qae K h1 (by omega),Q12]
  exact Q2 ⟨λ_=>rfl,λ_=>⟨h1,h2⟩⟩
theorem QcT (i:Int) (tg:Qd) (all:Bool) (K:Q1) (hc:Q40 K.Qs) (hi:1<=i/\i<=K.Qs.QB):Tot (K24 i tg all K) (λr=>r.1.1.length<=8/\∀n∈r.1.1,1<=n/\n<=K.Qs.QB):=by
 obtain ⟨p1,p8,_⟩:=Q3F hc
 unfold K24 K24.gen
 refine Q3 (λr=>r.1.1=i/\r.2.1=K/\r.1.2.2.1.length<=8/\∀n∈r.1.2.2.1,1<=n/\n<=K.Qs.QB) ?_ (λr0 ⟨g1,g2,g3,g4⟩=>Q3 (λr=>r.1=false->r0.1.2.2.1≠ []) (Qa (λ_=>Q2 λh=>by cases h) (λ_=>Q2 λh e=>?_)) (λr1 h1=>Qa (λ_=>Q2 ⟨g3,g4⟩) (λhf=>Q3 _ ee (λr2 _=>Q3 _ ee (λr3 _=>Qa (λ_=>Q2 ⟨by show (r0.1.1::Qm Int).length<=8;simp [Qm],λn hn=>?_⟩) (λ_=>?_))))))
 ·unfold K24.F0
  refine Q2f (λa=>a.1.1=i/\a.2.1=K/\1<=a.1.2.2.2.1/\(a.1.2.2.1.length:Int) < a.1.2.2.2.1/\a.1.2.2.2.1<=K.Qs.QB+1/\∀n∈a.1.2.2.1,1<=n/\n<=K.Qs.QB) (λa=>(K.Qs.QB+1 - a.1.2.2.2.1).toNat) (λa ⟨k1,k2,k3,k4,k5,k6⟩=>?_) _ _ ⟨rfl,rfl,Int.le_refl 1,by show (0:Int) < 1;decide,by show 1<=K.Qs.QB+1;omega,λn hn=>by cases hn⟩ (by simp only [];omega)
  unfold K24.QU
  rw [k2]
  refine Qa (λh=>?_) (λ_=>Q2 ⟨k1,k2,by show a.1.2.2.1.length<=8;omega,k6⟩)
  have h:=Q5s h
  refine Q3 _ ee (λr0 _=>Q3 _ ee (λr1 _=>Q3 (λr=>r.1.1=i/\r.2.1=K/\r.1.2.2.2.1=a.1.2.2.2.1/\r.1.2.2.1.length<=a.1.2.2.1.length+1/\∀n∈r.1.2.2.1,1<=n/\n<=K.Qs.QB) ?_ (λr2 ⟨m1,m2,m3,m4,m5⟩=>Q2 ?_)))
  ·refine Qa (λ_=>QM (Q2P (by simp only [List.length_cons,Qm,List.length_nil];omega)) (Q2 ⟨k1,k2,rfl,by simp only [List.length_append,List.length_cons,Qm,List.length_nil];omega,λn hn=>?_⟩)) (λ_=>Q2 ⟨k1,k2,rfl,by show a.1.2.2.1.length<=a.1.2.2.1.length+1;omega,k6⟩)
   rcases List.mem_append.1 hn with hn|hn
   ·exact k6 n hn
   ·simp only [Qm,List.mem_cons,List.not_mem_nil,or_false] at hn
    subst hn
    omega
  ·rw [m3,Q1i (by omega)]
   refine ⟨⟨m1,m2,?_,?_,?_,m5⟩,?_⟩
   ·show 1<=a.1.2.2.2.1+1;omega
   ·show (r2.1.2.2.1.length:Int) < a.1.2.2.2.1+1;omega
   ·show a.1.2.2.2.1+1<=K.Qs.QB+1;omega
   ·show (K.Qs.QB+1 - (a.1.2.2.2.1+1)).toNat < (K.Qs.QB+1 - a.1.2.2.2.1).toNat;omega
 ·rw [e] at h;cases h
 ·simp only [Qm,List.mem_cons,List.not_mem_nil,or_false] at hn
  subst hn
  rw [g1];exact hi
 ·have hne:=h1 hf
  have hpos:1<=r0.1.2.2.1.length:=by cases hx:r0.1.2.2.1 with|nil=>exact absurd hx hne|cons a l=>simp
  refine QM (Q2R (by unfold ofN;omega) (by unfold ofN;omega) (by omega)) (Q2 ⟨?_,λn hn=>g4 n ?_⟩)
  ·simp only [ofN,List.length_drop,List.length_take];omega
  ·exact List.mem_of_mem_take (List.mem_of_mem_drop hn)
def Tw {α β:Type} (x:Option α) (y:Option β) (Q:α->β->Prop):Prop:=∃a b,x=some a/\y=some b/\Q a b
theorem Q6 {α β:Type} {a:α} {b:β} {Q:α->β->Prop} (h:Q a b):Tw (some a) (some b) Q:=⟨a,b,rfl,rfl,h⟩
theorem QcF {α β:Type} {x:Option α} {y:Option β} {P Q:α->β->Prop} (h:Tw x y P) (hq:∀a b,P a b->Q a b):Tw x y Q:=let ⟨a,b,h1,h2,h3⟩:=h;⟨a,b,h1,h2,hq a b h3⟩
theorem Qa5 {α:Type} {x:Option α} {Q:α->Prop} (h:Tot x Q):Tw x x (λa b=>a=b/\Q b):=let ⟨a,h1,h2⟩:=h;⟨a,a,h1,h1,rfl,h2⟩
theorem QL {α α' β β':Type} {x:Option α} {y:Option α'} {k:α->Option β} {l:α'->Option β'} {Q:β->β'->Prop} (P:α->α'->Prop) (h:Tw x y P) (hk:∀a b,P a b->Tw (k a) (l b) Q):Tw (Q0 x none k) (Q0 y none l) Q:=by
 obtain ⟨a,b,rfl,rfl,h3⟩:=h
 exact hk a b h3
theorem Qp {α β β':Type} {x:Option α} {k:α->Option β} {l:α->Option β'} {Q:β->β'->Prop} {P:α->Prop} (h:Tot x P) (hk:∀a,P a->Tw (k a) (l a) Q):Tw (Q0 x none k) (Q0 x none l) Q:=by
 obtain ⟨a,rfl,h3⟩:=h
 exact hk a h3
theorem Qu {α β:Type} {b:Bool} {x x':Option α} {y y':Option β} {Q:α->β->Prop} (h:b=true->Tw x y Q) (h2:b=false->Tw x' y' Q):Tw (bif b then x else x') (bif b then y else y') Q:=by
 cases b with
 |true=>exact h rfl
 |false=>exact h2 rfl
theorem Q2A {α β:Type} {b:Bool} {x:Option α} {y:Option β} {Q:α->β->Prop} (hb:b=true) (h:Tw x y Q):Tw (bif b then x else none) (bif b then y else none) Q:=by subst hb;exact h
theorem Q4p {α β α' β':Type} {step:α->Option (α⊕β)} {step':α'->Option (α'⊕β')} (I:α->α'->Prop) (m:α'->Nat) {Q:β->β'->Prop}
  (h:∀a a',I a a'->Tw (step a) (step' a') (λr r'=>match r,r' with| .inl b,.inl b'=>I b b'/\m b' < m a'| .inr b,.inr b'=>Q b b'|_,_=>False)):
  ∀(N:Nat) (a:α) (a':α'),I a a'->m a' < N->Tw (Z8 N step a) (Z8 N step' a') Q
 |0,a,a',_,hm=>absurd hm (Nat.not_lt_zero _)
 |N+1,a,a',ha,hm=>by
  obtain ⟨r,r',hs,hs',hr⟩:=h a a' ha
  unfold Z8
  rw [hs,hs']
  cases r with
  |inl b=>
   cases r' with
   |inl b'=>exact Q4p I m h N b b' hr.1 (by have:=hr.2;omega)
   |inr b'=>exact hr.elim
  |inr b=>
   cases r' with
   |inl b'=>exact hr.elim
   |inr b'=>exact ⟨b,b',rfl,rfl,hr⟩
structure Rn (α:Type) where
 ρ:Nat->Nat
 L:Nat->Prop
 b1:Fm α
 b2:Fm α
 inj:∀x y,L x->L y->ρ x=ρ y->x=y
 fresh:∀i,L (b2.1+i)/\ρ (b2.1+i)=b1.1+i
 old:∀x,L x->x < b2.1->ρ x < b1.1
structure FR {α:Type} (c:Rn α) (Inv:α->Prop) (g1 g2:Fm α):Prop where
 size:∃d,g1.1=c.b1.1+d/\g2.1=c.b2.1+d
 get:∀x,c.L x->x < g2.1->g1.2 (c.ρ x)=g2.2 x/\Inv (g2.2 x)
 fr1:∀q,q < c.b1.1->(∀x,c.L x->c.ρ x≠q)->g1.2 q=c.b1.2 q
 fr2:∀q,q < c.b2.1->¬c.L q->g2.2 q=c.b2.2 q
theorem FR.set {α:Type} {c:Rn α} {Inv:α->Prop} {g1 g2:Fm α} (h:FR c Inv g1 g2) {x:Nat} (hx:c.L x) {v:α} (hv:Inv v):FR c Inv (g1.1,Qr g1.2 (c.ρ x) v) (g2.1,Qr g2.2 x v):=by
 refine ⟨h.size,λy hy hl=>?_,λq hq hn=>?_,λq hq hn=>?_⟩
 ·show Qr g1.2 (c.ρ x) v (c.ρ y)=Qr g2.2 x v y/\Inv (Qr g2.2 x v y)
  unfold Qr
  by_cases e:y=x
  ·subst e;rw [if_pos rfl,if_pos rfl];exact ⟨rfl,hv⟩
  ·rw [if_neg (λe'=>e (c.inj _ _ hy hx e')),if_neg e];exact h.get y hy hl
 ·show Qr g1.2 (c.ρ x) v q=_
  unfold Qr
  rw [if_neg (λe=>hn x hx e.symm)];exact h.fr1 q hq hn
 ·show Qr g2.2 x v q=_
  unfold Qr
  rw [if_neg (λ(e:q=x)=>hn (by rw [e];exact hx))];exact h.fr2 q hq hn
theorem FR.fresh {α:Type} {c:Rn α} {Inv:α->Prop} {g1 g2:Fm α} (h:FR c Inv g1 g2):c.L g2.1/\c.ρ g2.1=g1.1:=by
 obtain ⟨d,h1,h2⟩:=h.size
 rw [h1,h2];exact c.fresh d
theorem FR.new {α:Type} {c:Rn α} {Inv:α->Prop} {g1 g2:Fm α} (h:FR c Inv g1 g2) {v:α} (hv:Inv v):FR c Inv (g1.1+1,Qr g1.2 g1.1 v) (g2.1+1,Qr g2.2 g2.1 v):=by
 obtain ⟨hl,hr⟩:=h.fresh
 obtain ⟨d,h1,h2⟩:=h.size
 refine ⟨⟨d+1,by show g1.1+1=_;omega,by show g2.1+1=_;omega⟩,λy hy hlt=>?_,λq hq hn=>?_,λq hq hn=>?_⟩
 ·show Qr g1.2 g1.1 v (c.ρ y)=Qr g2.2 g2.1 v y/\Inv (Qr g2.2 g2.1 v y)
  have hlt:y < g2.1+1:=hlt
  unfold Qr
  by_cases e:y=g2.1
  ·subst e;rw [if_pos hr,if_pos rfl];exact ⟨rfl,hv⟩
  ·rw [if_neg (λe'=>e (c.inj _ _ hy hl (e'.trans hr.symm))),if_neg e];exact h.get y hy (by omega)
 ·show Qr g1.2 g1.1 v q=_
  unfold Qr
  rw [if_neg (by omega)];exact h.fr1 q hq hn
 ·show Qr g2.2 g2.1 v q=_
  unfold Qr
  rw [if_neg (by omega)];exact h.fr2 q hq hn
structure Cx where
 s:Rn Qo
 t:Rn Qe
 d:Rn Qg
 e:Rn Qb
 f:Rn Qh
 m:Rn Qz
 p:Rn (List (Qd×List Int))
noncomputable def Q3H (c:Cx) (x:Q5):Q5:=
 ⟨x.Q1w,x.Q5A.map c.t.ρ,x.Q5B.map c.p.ρ,x.Q45,x.Q54,x.Q4J,x.fsync,x.Q6R,x.Q6a,x.Q7Z,x.Q5S,x.Q6t.map c.m.ρ,x.Q4h.map c.d.ρ,x.Q74.map c.e.ρ,x.Q6Y,x.Q4a,x.Q2y,x.Q4L⟩
structure Dl where
 f:Int->Int
 d:Int
def D0:Dl:=⟨id,0⟩
noncomputable def QN (c:Cx) (δ:Dl) (K:Q1):Q1:=
 ⟨K.Qs,λi=>Q3H c (K.Qf i),K.Q5k,K.Q2b,K.Q7i.map c.s.ρ,K.Q6I.map c.f.ρ,K.Q4W,K.Q4h,δ.f K.Q1k,K.Q2p⟩
def Pt {α:Type} (r:Rn α) (n:Nat) (x:Option Nat):Prop:=∃i,x=some i/\r.L i/\i < n
theorem Pt.mono {α:Type} {r:Rn α} {n m:Nat} {x:Option Nat} (h:Pt r n x) (hn:n<=m):Pt r m x:=let ⟨i,h1,h2,h3⟩:=h;⟨i,h1,h2,Nat.lt_of_lt_of_le h3 hn⟩
structure Sz where
 s:Nat
 t:Nat
 d:Nat
 e:Nat
 f:Nat
 m:Nat
 p:Nat
structure SOk (c:Cx) (n:Sz) (x:Q5):Prop where
 t:Pt c.t n.t x.Q5A
 p:Pt c.p n.p x.Q5B
 m:Pt c.m n.m x.Q6t
 d:Pt c.d n.d x.Q4h
 e:Pt c.e n.e x.Q74
structure NoP (x:Q5):Prop where
 t:x.Q5A=none
 p:x.Q5B=none
 m:x.Q6t=none
 d:x.Q4h=none
 e:x.Q74=none
def SOq (c:Cx) (n:Sz) (q:Prop) (x:Q5):Prop:=SOk c n x\/(¬q/\NoP x)
structure KOk (c:Cx) (n:Sz) (K:Q1):Prop where
 Q14:Q40 K.Qs
 s:Pt c.s n.s K.Q7i
 f:Pt c.f n.f K.Q6I
 all:∀i:Nat,SOq c n ((i:Int) < K.Qs.QB) (K.Qf i)
theorem KOk.side {c:Cx} {n:Sz} {K:Q1} (h:KOk c n K) (i:Nat) (hi:(i:Int) < K.Qs.QB):SOk c n (K.Qf i):=(h.all i).elim id λh=>absurd hi h.1
theorem SOk.mono {c:Cx} {n:Sz} {x:Q5} (h:SOk c n x) {k:Nat} (hk:n.p<=k):SOk c { n with p:=k} x:=⟨h.t,h.p.mono hk,h.m,h.d,h.e⟩
theorem SOq.mono {c:Cx} {n:Sz} {q:Prop} {x:Q5} (h:SOq c n q x) {k:Nat} (hk:n.p<=k):SOq c { n with p:=k} q x:=h.imp (λh=>h.mono hk) id
theorem Q8p {α β:Type} {r:β->α} {f1:Nat->α} {f2:Nat->β} {i:Nat} {y1:α} {y2:β} (hf:∀j,f1 j=r (f2 j)) (hy:y1=r y2):∀j,Qr f1 i y1 j=r (Qr f2 i y2 j):=λj=>by
 unfold Qr
 by_cases h:j=i
 ·rw [if_pos h,if_pos h,hy]
 ·rw [if_neg h,if_neg h,hf]
theorem Q5H {c:Cx} {δ:Dl} {A B:Q1} (h1:A.Qs=B.Qs) (h2:∀i,A.Qf i=Q3H c (B.Qf i)) (h3:A.Q5k=B.Q5k) (h4:A.Q2b=B.Q2b) (h5:A.Q7i=B.Q7i.map c.s.ρ) (h6:A.Q6I=B.Q6I.map c.f.ρ) (h7:A.Q4W=B.Q4W) (h8:A.Q4h=B.Q4h) (h9:A.Q1k=δ.f B.Q1k) (h10:A.Q2p=B.Q2p):A=QN c δ B:=by
 obtain ⟨a1,a2,a3,a4,a5,a6,a7,a8,a9,a10⟩:=A
 simp only [] at h1 h2 h3 h4 h5 h6 h7 h8 h9 h10
 subst h1 h3 h4 h5 h6 h7 h8 h9 h10
 have:a2=λi=>Q3H c (B.Qf i):=funext h2
 subst this
 rfl
theorem Q7B {c:Cx} {δ:Dl} {K:Q1} {p:Nat} {y1 y2:Q5} (h:y1=Q3H c y2):(QN c δ K).QT (Qr (QN c δ K).Qf p y1)=QN c δ (K.QT (Qr K.Qf p y2)):=
 Q5H rfl (Q8p (λ_=>rfl) h) rfl rfl rfl rfl rfl rfl rfl rfl
structure KR (c:Cx) (δ:Dl) (n:Sz) (K0:Q9×Nat) (A B:Q1):Prop where
 eq:A=QN c δ B
 ok:KOk c n B
 Q14:B.Qs=K0.1
 outs:B.Q2p.length<=K0.2
 dr:B.Q1k=δ.d
theorem KR.more {c:Cx} {δ:Dl} {n:Sz} {cf:Q9} {m m':Nat} {A B:Q1} (h:KR c δ n (cf,m) A B) (hm:m<=m'):KR c δ n (cf,m') A B:=⟨h.eq,h.ok,h.Q14,Nat.le_trans h.outs hm,h.dr⟩
theorem KR.Qch {c:Cx} {δ:Dl} {n:Sz} {K0:Q9×Nat} {B:Q1} {i:Nat} {y1 y2:Q5} (h:KR c δ n K0 (QN c δ B) B) (hy:y1=Q3H c y2) (hs:∀q,SOq c n q (B.Qf i)->SOq c n q y2):KR c δ n K0 ((QN c δ B).QT (Qr (QN c δ B).Qf i y1)) (B.QT (Qr B.Qf i y2)):=by
 refine ⟨Q7B hy,⟨h.ok.Q14,h.ok.s,h.ok.f,λj=>?_⟩,h.Q14,h.outs,h.dr⟩
 show SOq c n _ (Qr B.Qf i y2 j)
 unfold Qr
 by_cases e:j=i
 ·subst e;rw [if_pos rfl];exact hs _ (h.ok.all j)
 ·rw [if_neg e];exact h.ok.all j
theorem KR.port {c:Cx} {δ:Dl} {n:Sz} {K0:Q9×Nat} {B:Q1} {i:Nat} {y1 y2:Q5} (h:KR c δ n K0 (QN c δ B) B) (hy:y1=Q3H c y2) (hs:SOk c n (B.Qf i)->SOk c n y2) (hn:NoP (B.Qf i)->NoP y2:=by exact λs=>⟨s.t,s.p,s.m,s.d,s.e⟩):KR c δ n K0 ((QN c δ B).QT (Qr (QN c δ B).Qf i y1)) (B.QT (Qr B.Qf i y2)):=
 h.Qch hy λ_ h=>h.imp hs λh=>⟨h.1,hn h.2⟩
theorem KR.QaA {c:Cx} {δ:Dl} {n:Sz} {K0:Q9×Nat} {B:Q1} {i:Nat} {y1 y2:Q5} (h:KR c δ n K0 (QN c δ B) B) (hy:y1=Q3H c y2) (hs:SOk c n y2):KR c δ n K0 ((QN c δ B).QT (Qr (QN c δ B).Qf i y1)) (B.QT (Qr B.Qf i y2)):=
 h.Qch hy λ_ _=>.inl hs
theorem KR.portp {c:Cx} {δ:Dl} {n:Sz} {k:Nat} {K0:Q9×Nat} {B:Q1} {i:Nat} {y1 y2:Q5} (h:KR c δ n K0 (QN c δ B) B) (hk:n.p<=k) (hy:y1=Q3H c y2) (hs:SOk c { n with p:=k} y2):KR c δ { n with p:=k} K0 ((QN c δ B).QT (Qr (QN c δ B).Qf i y1)) (B.QT (Qr B.Qf i y2)):=by
 refine ⟨Q7B hy,⟨h.ok.Q14,h.ok.s,h.ok.f,λj=>?_⟩,h.Q14,h.outs,h.dr⟩
 show SOq c _ _ (Qr B.Qf i y2 j)
 unfold Qr
 by_cases e:j=i
 ·subst e;rw [if_pos rfl];exact .inl hs
 ·rw [if_neg e];exact (h.ok.all j).mono hk
theorem SOk.Q2Q {c:Cx} {n:Sz} {x y:Q5} (h:SOk c n x) (e1:y.Q5A=x.Q5A:=by rfl) (e2:y.Q5B=x.Q5B:=by rfl) (e3:y.Q6t=x.Q6t:=by rfl) (e4:y.Q4h=x.Q4h:=by rfl) (e5:y.Q74=x.Q74:=by rfl):SOk c n y:=by
 obtain ⟨a1,a2,a3,a4,a5⟩:=h
 exact ⟨by rw [e1];exact a1,by rw [e2];exact a2,by rw [e3];exact a3,by rw [e4];exact a4,by rw [e5];exact a5⟩
def Q3z (l:List (Qd×List Int)):Prop:=∀x∈l,x.2.length<=60
theorem Q3z.nil:Q3z []:=λ_ h=>by cases h
theorem Q6P {X Y α β:Type} {c:Cx} {δ:Dl} {K0:Q9×Nat} (RY:Y->Y->Prop) (nz:Y->Sz) {x y:Option (X×Q1×Y)} {k:X×Q1×Y->Option α} {l:X×Q1×Y->Option β} {Q:α->β->Prop}
  (h:Tw x y (λa b=>a.1=b.1/\KR c δ (nz b.2.2) K0 a.2.1 b.2.1/\RY a.2.2 b.2.2))
  (hk:∀(q:X) (B:Q1) (ya yb:Y),KR c δ (nz yb) K0 (QN c δ B) B->RY ya yb->Tw (k (q,QN c δ B,ya)) (l (q,B,yb)) Q):Tw (Q0 x none k) (Q0 y none l) Q:=by
 obtain ⟨⟨q,A,ya⟩,⟨q',B,yb⟩,rfl,rfl,e,hK,hY⟩:=h
 have e:q=q':=e
 have hK:KR c δ (nz yb) K0 A B:=hK
 subst e
 have:=hK.eq
 subst this
 exact hk q B ya yb hK hY
theorem Q5i {X Y α β:Type} {c:Cx} {δ:Dl} {K0:Q9×Nat} (P:X->Prop) (RY:Y->Y->Prop) (nz:Y->Sz) {x y:Option (X×(Q1×Y)×Unit)} {k:X×(Q1×Y)×Unit->Option α} {l:X×(Q1×Y)×Unit->Option β} {Q:α->β->Prop}
  (h:Tw x y (λa b=>(a.1=b.1/\P b.1)/\KR c δ (nz b.2.1.2) K0 a.2.1.1 b.2.1.1/\RY a.2.1.2 b.2.1.2))
  (hk:∀(q:X) (B:Q1) (ya yb:Y),P q->KR c δ (nz yb) K0 (QN c δ B) B->RY ya yb->Tw (k (q,(QN c δ B,ya),())) (l (q,(B,yb),())) Q):Tw (Q0 x none k) (Q0 y none l) Q:=by
 obtain ⟨⟨q,⟨A,ya⟩,u⟩,⟨q',⟨B,yb⟩,u'⟩,rfl,rfl,⟨e,hp⟩,hK,hY⟩:=h
 have e:q=q':=e
 have hK:KR c δ (nz yb) K0 A B:=hK
 subst e
 have:=hK.eq
 subst this
 exact hk q B ya yb hp hK hY
abbrev RU (_ _:Unit):Prop:=True
theorem Q1n {X Y α β:Type} {c:Cx} {δ:Dl} {K0:Q9×Nat} (P:X->Prop) (RY:Y->Y->Prop) (nz:Y->Sz) {x y:Option (X×Q1×Y)} {k:X×Q1×Y->Option α} {l:X×Q1×Y->Option β} {Q:α->β->Prop}
  (h:Tw x y (λa b=>(a.1=b.1/\P b.1)/\KR c δ (nz b.2.2) K0 a.2.1 b.2.1/\RY a.2.2 b.2.2))
  (hk:∀(q:X) (B:Q1) (ya yb:Y),P q->KR c δ (nz yb) K0 (QN c δ B) B->RY ya yb->Tw (k (q,QN c δ B,ya)) (l (q,B,yb)) Q):Tw (Q0 x none k) (Q0 y none l) Q:=by
 obtain ⟨⟨q,A,ya⟩,⟨q',B,yb⟩,rfl,rfl,⟨e,hp⟩,hK,hY⟩:=h
 have e:q=q':=e
 have hK:KR c δ (nz yb) K0 A B:=hK
 subst e
 have:=hK.eq
 subst this
 exact hk q B ya yb hp hK hY
theorem Q2M {α β β':Type} {x x':Option α} {k:α->Option β} {l:α->Option β'} {Q:β->β'->Prop} {P:α->Prop} (e:x=x') (h:Tot x' P) (hk:∀a,P a->Tw (k a) (l a) Q):Tw (Q0 x none k) (Q0 x' none l) Q:=by
 subst e
 exact Qp h hk
abbrev nU (n:Sz):Unit->Sz:=λ_=>n
theorem Q9a {c:Cx} {δ:Dl} {n:Sz} {K0:Q9×Nat} {K:Q1} (p:Nat) (h:KR c δ n K0 (QN c δ K) K):Tw (K20 p (QN c δ K)) (K20 p K) (λa b=>(a.1=b.1/\True)/\KR c δ (nU n b.2.1.2) K0 a.2.1.1 b.2.1.1/\RU a.2.1.2 b.2.1.2):=by
 unfold K20 K20.gen
 refine Q6P RU (nU n) (Qp ee (λ_ _=>Q6 ⟨rfl,h.port rfl λs=>s.Q2Q,trivial⟩)) (λq B _ _ h _=>?_)
 refine Q6P RU (nU n) (Qp ee (λ_ _=>Q6 ⟨rfl,h.port rfl λs=>s.Q2Q,trivial⟩)) (λq B _ _ h _=>?_)
 refine Q6P RU (nU n) (Qu (λ_=>Qp ee (λ_ _=>Q6 ⟨rfl,h.port rfl λs=>s.Q2Q,trivial⟩)) (λ_=>Q6 ⟨rfl,h,trivial⟩)) (λq B _ _ h _=>?_)
 refine Q6P RU (nU n) (Qp ee (λ_ _=>Q6 ⟨rfl,h.port rfl λs=>s.Q2Q,trivial⟩)) (λq B _ _ h _=>?_)
 exact Qp ee (λ_ _=>Q6 ⟨⟨rfl,trivial⟩,h.port rfl λs=>s.Q2Q,trivial⟩)
theorem Q9y {c:Cx} {δ:Dl} (K:Q1):K11 (QN c δ K)=K11 K:=rfl
theorem Q8G {c:Cx} {δ:Dl} (K:Q1):K28 (QN c δ K)=K28 K:=rfl
theorem Q8S (K:Q1):Tot (K11 K) (λr=>1<=r.1.1/\r.1.1<=128):=by
 unfold K11 K11.gen
 exact Q3 _ (Qa6 _) (λr hr=>Q2 hr)
theorem Q8F (K:Q1):Tot (K28 K) (λ_=>True):=by
 unfold K28 K28.gen
 exact Q3 _ (Q8S _) (λr hr=>Q2 trivial)
theorem QbS {c:Cx} {δ:Dl} {n:Sz} {K0:Q9×Nat} {K:Q1} (p:Nat) (pa:QX) (h:KR c δ n K0 (QN c δ K) K):Tw (K14 p pa (QN c δ K)) (K14 p pa K) (λa b=>(a.1=b.1/\True)/\KR c δ (nU n b.2.1.2) K0 a.2.1.1 b.2.1.1/\RU a.2.1.2 b.2.1.2):=by
 unfold K14 K14.gen
 rw [Q9y]
 refine Qu (λ_=>?_) (λ_=>Qu (λ_=>?_) (λ_=>Qu (λ_=>?_) (λ_=>?_)))
 ·refine Q6P RU (nU n) (Q5i (λ_=>True) RU (nU n) (Q9a p h) (λq B _ _ _ h _=>Q6 ⟨rfl,h,trivial⟩)) (λq B _ _ h _=>Q6 ⟨⟨rfl,trivial⟩,h,trivial⟩)
 ·exact Q6P RU (nU n) (Qp (Q8S _) (λ_ _=>Qp ee (λ_ _=>Q6 ⟨rfl,h.port rfl λs=>s.Q2Q,trivial⟩))) (λq B _ _ h _=>Q6 ⟨⟨rfl,trivial⟩,h,trivial⟩)
 ·refine Q6P RU (nU n) (Qu (λ_=>Qp ee (λ_ _=>Q6 ⟨rfl,h.port rfl λs=>s.Q2Q,trivial⟩)) (λ_=>Q6 ⟨rfl,h,trivial⟩)) (λq B _ _ h _=>?_)
  rw [Q8G]
  exact Qp (Q8F _) (λ_ _=>Qp ee (λ_ _=>Q6 ⟨⟨rfl,trivial⟩,h.port rfl λs=>s.Q2Q,trivial⟩))
 ·refine Q6P RU (nU n) (Qu (λ_=>Q6 ⟨rfl,h,trivial⟩) (λ_=>Q6 ⟨rfl,h,trivial⟩)) (λq B _ _ h _=>?_)
  refine Qu (λ_=>?_) (λ_=>Q6 ⟨⟨rfl,trivial⟩,h,trivial⟩)
  rw [Q8G]
  exact Qp (Q8F _) (λ_ _=>Qp ee (λ_ _=>Q6 ⟨⟨rfl,trivial⟩,h.port rfl λs=>s.Q2Q,trivial⟩))
abbrev Q6W:=(Fm Qe)×(Nat×(Nat->List (Qd×List Int)))×Unit
abbrev RA (c:Cx) (a b:Q6W):Prop:=FR c.t Q2D a.1 b.1/\FR c.p Q3z a.2.1 b.2.1
abbrev nA (n:Sz) (b:Q6W):Sz:={ n with t:=b.1.1,p:=b.2.1.1}
structure SR (c:Cx) (n:Sz) (A B:Q5):Prop where
 eq:A=Q3H c B
 ok:SOk c n B
theorem Q2E {α β β':Type} {c:Rn α} {Inv:α->Prop} {g1 g2:Fm α} (h:FR c Inv g1 g2) {x1 x2:Option Nat} (hp:Pt c g2.1 x2) (hx:x1=x2.map c.ρ) {k:Nat->Option β} {l:Nat->Option β'} {Q:β->β'->Prop}
  (hk:∀i,c.L i->i < g2.1->g1.2 (c.ρ i)=g2.2 i->Inv (g2.2 i)->Tw (k (c.ρ i)) (l i) Q):Tw (Q0 x1 none k) (Q0 x2 none l) Q:=by
 obtain ⟨i,rfl,hl,hlt⟩:=hp
 subst hx
 obtain ⟨e,hi⟩:=h.get i hl hlt
 exact hk i hl hlt e hi
theorem Qdn (t:Qe):Tot (K64 t) (λr=>Q2D r.2.1.1):=by
 unfold K64 K64.gen
 exact Q2 ⟨Int.le_refl 0,by show (0:Int)<=5;decide⟩
abbrev PA (c:Cx) (n:Sz) (x:Q5) (yb:Q6W) (a b:Unit×(Q5×Q6W)×Unit):Prop:=SR c (nA n b.2.1.2) a.2.1.1 b.2.1.1/\RA c a.2.1.2 b.2.1.2/\b.2.1.2.1.1=yb.1.1/\yb.2.1.1<=b.2.1.2.2.1.1/\b.2.1.1.Q1w=x.Q1w
theorem Q9J {c:Cx} {n:Sz} {x:Q5} {ya yb:Q6W} (hs:SOk c (nA n yb) x) (hY:RA c ya yb):Tw (K38 (Q3H c x) ya.1 ya.2.1) (K38 x yb.1 yb.2.1) (PA c n x yb):=by
 obtain ⟨⟨G,g⟩,⟨P,p⟩,_⟩:=ya
 obtain ⟨⟨G',g'⟩,⟨P',p'⟩,_⟩:=yb
 obtain ⟨h6,h12⟩:=hY
 unfold K38 K38.gen
 refine QL (λa b=>a.2.1=Q3H c x/\b.2.1=x/\FR c.t Q2D a.2.2.1 b.2.2.1/\b.2.2.1.1=G'/\a.2.2.2.1=(P,p)/\b.2.2.2.1=(P',p')) (Q2E h6 hs.t rfl (λi hl hlt e hi=>?_)) (λa b ⟨e1,e2,k6,e3,e4,e5⟩=>?_)
 ·have e:g (c.t.ρ i)=g' i:=e
  dsimp only
  rw [e]
  exact Qp (Qdn _) (λr hr=>Q6 ⟨rfl,rfl,h6.set hl hr,rfl,rfl,rfl⟩)
 rw [e1,e2,e4,e5]
 obtain ⟨fl,fr⟩:=h12.fresh
 have fr:c.p.ρ P'=P:=fr
 refine Q6 ⟨⟨?_,?_⟩,⟨k6,h12.new Q3z.nil⟩,e3,Nat.le_succ _,rfl⟩
 ·show Q5.Q5t (Q3H c x) (some P)=Q3H c (Q5.Q5t x (some P'))
  rw [←fr];rfl
 ·refine ⟨?_,⟨P',rfl,fl,Nat.lt_succ_self _⟩,hs.m,hs.d,hs.e⟩
  show Pt c.t b.2.2.1.1 x.Q5A
  rw [e3];exact hs.t
def QaK (k a:Qd):Bool:=bif ieq k.QI a.QI then (bif ieq k.QR a.QR then true else false) else false
theorem Qbs (k a:Qd) (v:List Int) (r:List (Qd×List Int)): @Z1W U Tryz.prog 31 .Qt .Q1P k ((a,v)::r)=(bif QaK k a then some (some v) else @Z1W U Tryz.prog 31 .Qt .Q1P k r):=by kernel_rfl
theorem QbQ (k a : Qd) (v x : List Int) (r : List (Qd × List Int)) : @Z25 U Tryz.prog 31 .Qt .Q1P k v ((a, x) :: r) = (bif QaK k a then some ((k, v) :: r) else (match @Z25 U Tryz.prog 31 .Qt .Q1P k v r with
      |some l=>some ((a,x)::l)
      |none=>none)):=by kernel_rfl
theorem Q9A (k:Qd):∀(l:List (Qd×List Int)),Q3z l->Tot (@Z1W U Tryz.prog 31 .Qt .Q1P k l) (λr=>(Option.getD r (Qm Int)).length<=60)
 | [],_=>Q2 (Nat.zero_le _)
 |(a,v)::r,h=>by
  refine cast (congrArg (λz=>Tot z _) (Qbs k a v r).symm) ?_
  cases QaK k a with
  |true=>exact Q2 (h (a,v) (List.mem_cons_self ..))
  |false=>exact Q9A k r λx hx=>h x (List.mem_cons_of_mem _ hx)
theorem Q9G (k:Qd) (v:List Int) (hv:v.length<=60):∀(l:List (Qd×List Int)),Q3z l->Tot (@Z25 U Tryz.prog 31 .Qt .Q1P k v l) Q3z
 | [],_=>Q2 λx hx=>by
  have:x=(k,v):=by cases hx with|head=>rfl|tail _ h=>cases h
  subst this;exact hv
 |(a,x)::r,h=>by
  refine cast (congrArg (λz=>Tot z Q3z) (QbQ k a v x r).symm) ?_
  cases QaK k a with
  |true=>
   refine Q2 λy hy=>?_
   cases hy with
   |head=>exact hv
   |tail _ hy=>exact h y (List.mem_cons_of_mem _ hy)
  |false=>
   obtain ⟨l,hl,hp⟩:=Q9G k v hv r λx hx=>h x (List.mem_cons_of_mem _ hx)
   refine cast (congrArg (λz=>Tot (match z with|some l=>some ((a,x)::l)|none=>none) Q3z) hl.symm) ?_
   refine Q2 λy hy=>?_
   cases hy with
   |head=>exact h (a,x) (List.mem_cons_self ..)
   |tail _ hy=>exact hp y hy
theorem age_w {c:Cx} {n:Sz} {x:Q5} {ya yb:Q6W} (now:Int) (hs:SOk c (nA n yb) x) (hY:RA c ya yb):Tw (K37 now (Q3H c x) ya.1 ya.2.1) (K37 now x yb.1 yb.2.1) (PA c n x yb):=by
 obtain ⟨⟨G,g⟩,⟨P,p⟩,_⟩:=ya
 obtain ⟨⟨G',g'⟩,⟨P',p'⟩,_⟩:=yb
 obtain ⟨h6,h12⟩:=hY
 unfold K37 K37.gen
 refine QL (λa b=>a.2.1=Q3H c x/\b.2.1=x/\FR c.t Q2D a.2.2.1 b.2.2.1/\b.2.2.1.1=G'/\a.2.2.2.1=(P,p)/\b.2.2.2.1=(P',p')) (Q2E h6 hs.t rfl (λi hl hlt e hi=>?_)) (λa b ⟨e1,e2,k6,e3,e4,e5⟩=>?_)
 ·have e:g (c.t.ρ i)=g' i:=e
  dsimp only
  rw [e]
  exact Qp (age_t _ _ hi) (λr hr=>Q6 ⟨rfl,rfl,h6.set hl hr,rfl,rfl,rfl⟩)
 rw [e1,e2,e4,e5]
 refine Q2E k6 (by rw [e3];exact hs.t) rfl (λi hl hlt e hi=>?_)
 dsimp only
 rw [e]
 refine Qp (Qej _ hi) (λr4 hr4=>?_)
 obtain ⟨fl,fr⟩:=h12.fresh
 have fr:c.p.ρ P'=P:=fr
 have fl:c.p.L P':=fl
 refine QL (λa' b'=>a'.1.1=some P/\b'.1.1=some P'/\a'.2.1=Q3H c x/\b'.2.1=x/\FR c.t Q2D a'.2.2.1 b'.2.2.1/\b'.2.2.1.1=G'/\FR c.p Q3z a'.2.2.2.1 b'.2.2.2.1/\b'.2.2.2.1.1=P'+1) ?_ (λa' b' ⟨m1,m2,m3,m4,m5,m6,m7,m8⟩=>?_)
 ·unfold K37.F0
  refine Q4p (λa' b'=>a'.1=(some P,b'.1.2)/\b'.1.1=some P'/\b'.1.2.1=r4.1.1/\b'.1.2.2.1=(r4.1.1.length:Int)/\0<=b'.1.2.2.2.1/\a'.2.1=Q3H c x/\b'.2.1=x/\FR c.t Q2D a'.2.2.1 b'.2.2.1/\b'.2.2.1.1=G'/\FR c.p Q3z a'.2.2.2.1 b'.2.2.2.1/\b'.2.2.2.1.1=P'+1) (λb'=>((r4.1.1.length:Int) - b'.1.2.2.2.1).toNat) (λa' b' ⟨n0,n1,n2,n3,n4,n5,n6,n7,n8,n9,n10⟩=>?_) _ _ _ ⟨rfl,rfl,rfl,rfl,Int.le_refl 0,rfl,rfl,k6,e3,h12.new Q3z.nil,rfl⟩ (by simp only [];omega)
  unfold K37.QU
  rw [n0,n5]
  dsimp only
  rw [n2]
  refine Qu (λhh=>?_) (λ_=>Q6 ⟨rfl,n1,n5,n6,n7,n8,n9,n10⟩)
  have hh:=Q2g hh
  rw [n3] at hh
  refine QL (λu v=>u.1=(some P,b'.1.2)/\v.1=b'.1/\u.2.1=Q3H c x/\v.2.1=x/\u.2.2.1=v.2.2.1/\u.2.2.2=a'.2.2/\v.2.2.2=b'.2.2) (Q2A (Q1B n4 (by omega)) (Q6 ⟨rfl,rfl,rfl,n6,rfl,rfl,rfl⟩)) (λu v ⟨q1,q2,q3,q4,q5,q6,q7⟩=>?_)
  rw [q1,q2,q3,q4,q5,q6,q7]
  dsimp only
  refine QL (λs w=>s.1=(some P,b'.1.2)/\w.1=b'.1/\s.2.1=Q3H c x/\w.2.1=x/\FR c.t Q2D s.2.2.1 w.2.2.1/\w.2.2.1.1=G'/\FR c.p Q3z s.2.2.2.1 w.2.2.2.1/\w.2.2.2.1.1=P'+1) ?_ (λs w ⟨z1,z2,z3,z4,z5,z6,z7,z8⟩=>?_)
  ·refine QL (λs w=>s=w/\(Option.getD w (Qm Int)).length<=60) (Q2E n9 ((hs.p.mono (show P'<=_ by rw [n10];exact Nat.le_succ _)):Pt c.p b'.2.2.2.1.1 x.Q5B) rfl (λj jl jlt je ji=>?_)) (λs w ⟨w1,w2⟩=>?_)
   ·rw [je]
    exact Qa5 (Q9A _ _ ji)
   ·rw [w1,n1]
    refine QL (λs w=>s.1=P/\w.1=P'/\s.2=w.2/\Q3z w.2) ?_ (λs w ⟨v1,v2,v3,v4⟩=>Q6 ⟨rfl,rfl,rfl,rfl,n7,n8,?_,?_⟩)
    ·rw [Q12,Q12]
     have:=n9.get P' fl (by omega)
     rw [fr] at this
     rw [this.1]
     exact Qp (Q9G _ _ w2 _ this.2) (λr hr=>Q6 ⟨rfl,rfl,rfl,hr⟩)
    ·rw [v1,v2,v3,←fr]
     exact n9.set fl v4
    ·exact n10
  ·rw [z1,z2]
   dsimp only
   rw [Q1i (by omega)]
   refine Q6 ⟨⟨rfl,n1,n2,n3,?_,z3,z4,z5,z6,z7,z8⟩,?_⟩
   ·show 0<=b'.1.2.2.2.1+1;omega
   ·show ((r4.1.1.length:Int) - (b'.1.2.2.2.1+1)).toNat < ((r4.1.1.length:Int) - b'.1.2.2.2.1).toNat;omega
 ·rw [m1,m2,m3,m4]
  refine Q6 ⟨⟨?_,?_⟩,⟨m5,m7⟩,m6,by show P'<=b'.2.2.2.1.1;omega,rfl⟩
  ·show Q5.Q5t (Q3H c x) (some P)=Q3H c (Q5.Q5t x (some P'))
   rw [←fr];rfl
  ·refine ⟨?_,⟨P',rfl,fl,by show P' < b'.2.2.2.1.1;omega⟩,hs.m,hs.d,hs.e⟩
   show Pt c.t b'.2.2.1.1 x.Q5A
   rw [m6];exact hs.t
theorem nA_eq {n:Sz} {a b:Q6W} (e:b.1.1=a.1.1):nA n b={ nA n a with p:=b.2.1.1}:=by unfold nA;rw [e]
theorem KR.QaY {c:Cx} {δ:Dl} {n:Sz} {K0:Q9×Nat} {B:Q1} {i:Nat} {ya yb:Q6W} {y1 y2:Q5} (h:KR c δ (nA n ya) K0 (QN c δ B) B) (e:yb.1.1=ya.1.1) (hk:ya.2.1.1<=yb.2.1.1) (hs:SR c (nA n yb) y1 y2):KR c δ (nA n yb) K0 ((QN c δ B).QT (Qr (QN c δ B).Qf i y1)) (B.QT (Qr B.Qf i y2)):=by
 have hs':=hs.ok
 rw [nA_eq e] at hs' ⊢
 exact h.portp hk hs.eq hs'
theorem Qd9 {c:Cx} {δ:Dl} {n:Sz} {K0:Q9×Nat} {K:Q1} {ya yb:Q6W} (p:Nat) (hp:(p:Int) < K0.1.QB) (h:KR c δ (nA n yb) K0 (QN c δ K) K) (hY:RA c ya yb):Tw (K17 p (QN c δ K) ya.1 ya.2.1) (K17 p K yb.1 yb.2.1) (λa b=>(a.1=b.1/\True)/\KR c δ (nA n b.2.1.2) K0 a.2.1.1 b.2.1.1/\RA c a.2.1.2 b.2.1.2):=by
 have sd:∀{B:Q1} {yb:Q6W},KR c δ (nA n yb) K0 (QN c δ B) B->SOk c (nA n yb) (B.Qf p):=λh=>h.ok.side p (by rw [h.Q14];exact hp)
 unfold K17 K17.gen
 refine Qu (λ_=>?_) (λ_=>?_)
 ·refine Q6P (RA c) (nA n) (Qp ee (λ_ _=>Q6 ⟨rfl,h.port rfl λs=>s.Q2Q,hY⟩)) (λq B ya yb h hY=>?_)
  refine Q6P (RA c) (nA n) (Q2M (Q8G _) (Q8F _) (λ_ _=>Qp ee (λ_ _=>Q6 ⟨rfl,h.port rfl λs=>s.Q2Q,hY⟩))) (λq B ya yb h hY=>?_)
  refine Q6P (RA c) (nA n) (Qu (λ_=>Qp ee (λ_ _=>Q6 ⟨rfl,h.port rfl λs=>s.Q2Q,hY⟩)) (λ_=>Q6 ⟨rfl,h,hY⟩)) (λq B ya yb h hY=>Q6 ⟨⟨rfl,trivial⟩,h,hY⟩)
 refine Qp ee (λ_ _=>?_)
 refine Q1n (λq=>q.1=p) (RA c) (nA n) (Qu (λ_=>QL _ (age_w _ (sd h) hY) (λa b ⟨hS,hY',e6,e12,_⟩=>Q6 ⟨⟨rfl,rfl⟩,h.QaY e6 e12 hS,hY'⟩)) (λ_=>Q6 ⟨⟨rfl,rfl⟩,h,hY⟩)) (λq B ya yb hq h hY=>?_)
 refine Q1n (λq=>q.1=p) (RA c) (nA n) (Qp ee (λ_ _=>Qu (λ_=>Qp ee (λ_ _=>Q6 ⟨⟨rfl,hq⟩,h.port rfl λs=>s.Q2Q,hY⟩)) (λ_=>Q6 ⟨⟨rfl,hq⟩,h,hY⟩))) (λq B ya yb hq h hY=>?_)
 refine Q1n (λq=>q.1=p) (RA c) (nA n) (Qu (λ_=>?_) (λ_=>Q6 ⟨⟨rfl,hq⟩,h,hY⟩)) (λq B ya yb hq h hY=>?_)
 ·refine Qp ee (λ_ _=>?_)
  refine Q1n (λq=>q.1=p) (RA c) (nA n) (Qu (λ_=>Qp ee (λ_ _=>Q6 ⟨⟨rfl,hq⟩,⟨rfl,⟨h.ok.Q14,h.ok.s,h.ok.f,h.ok.all⟩,h.Q14,h.outs,h.dr⟩,hY⟩)) (λ_=>Q6 ⟨⟨rfl,hq⟩,h,hY⟩)) (λq B ya yb hq h hY=>?_)
  refine Q1n (λq=>q.1=p) (RA c) (nA n) (QL _ (Q9J (by rw [hq];exact sd h) hY) (λa b ⟨hS,hY',e6,e12,_⟩=>Q6 ⟨⟨rfl,hq⟩,h.QaY e6 e12 hS,hY'⟩)) (λq B ya yb hq h hY=>?_)
  refine Q1n (λq=>q.1=p) (RA c) (nA n) (Qp ee (λ_ _=>Q6 ⟨⟨rfl,hq⟩,h.port rfl λs=>s.Q2Q,hY⟩)) (λq B ya yb hq h hY=>?_)
  refine Qu (λ_=>?_) (λ_=>?_)
  ·exact Q5i (λ_=>True) RU (nU (nA n yb)) (Q9a _ h) (λq' B _ _ _ h _=>Q6 ⟨⟨rfl,hq⟩,h,hY⟩)
  ·exact Q2M (Q8G _) (Q8F _) (λ_ _=>Qp ee (λ_ _=>Q6 ⟨⟨rfl,hq⟩,h.port rfl λs=>s.Q2Q,hY⟩))
 ·refine Q1n (λq=>q.1=p) (RA c) (nA n) (Qu (λ_=>Qp ee (λ_ _=>Q6 ⟨⟨rfl,hq⟩,h.port rfl λs=>s.Q2Q,hY⟩)) (λ_=>Q6 ⟨⟨rfl,hq⟩,h,hY⟩)) (λq B ya yb hq h hY=>?_)
  refine Qu (λ_=>?_) (λ_=>Q6 ⟨⟨rfl,trivial⟩,h,hY⟩)
  refine Q1n (λq=>q.1=p) (RA c) (nA n) (Qp ee (λ_ _=>Q6 ⟨⟨rfl,hq⟩,h.port rfl λs=>s.Q2Q,hY⟩)) (λq B ya yb hq h hY=>?_)
  exact Q5i (λ_=>True) RU (nU (nA n yb)) (Q9a _ h) (λq' B _ _ _ h _=>Q6 ⟨⟨rfl,trivial⟩,h,hY⟩)
theorem Qad {c:Cx} {n:Sz} {x:Q5} {g7 g7':Fm Qg} {g10 g10':Fm Qz} (ask:Bool) (hs:SOk c n x) (e7:n.d=g7'.1) (e10:n.m=g10'.1) (h7:FR c.d (λ_=>True) g7 g7') (h10:FR c.m (λ_=>True) g10 g10'):
  Tw (K39 ask (Q3H c x) g7 g10) (K39 ask x g7' g10') (λa b=>SR c n a.2.1.1 b.2.1.1/\FR c.d (λ_=>True) a.2.1.2.1 b.2.1.2.1/\FR c.m (λ_=>True) a.2.1.2.2.1 b.2.1.2.2.1/\b.2.1.2.1.1=g7'.1/\b.2.1.2.2.1.1=g10'.1/\b.2.1.1.Q1w=x.Q1w):=by
 unfold K39 K39.gen
 refine QL (λa b=>a.1.1=ask/\b.1.1=ask/\a.2.1=Q3H c x/\b.2.1=x/\a.2.2.1=g7/\b.2.2.1=g7'/\FR c.m (λ_=>True) a.2.2.2.1 b.2.2.2.1/\b.2.2.2.1.1=g10'.1) (Q2E h10 (by rw [←e10];exact hs.m) rfl (λi hl hlt e hi=>?_)) (λa b ⟨a1,a2,a3,a4,a5,a6,k10,z10⟩=>?_)
 ·rw [e]
  exact Qp ee (λr hr=>Q6 ⟨rfl,rfl,rfl,rfl,rfl,rfl,h10.set hl trivial,rfl⟩)
 refine QL (λa b=>a.1.1=ask/\b.1.1=ask/\a.2.1=Q3H c x/\b.2.1=x/\FR c.d (λ_=>True) a.2.2.1 b.2.2.1/\b.2.2.1.1=g7'.1/\FR c.m (λ_=>True) a.2.2.2.1 b.2.2.2.1/\b.2.2.2.1.1=g10'.1) ?_ (λa b ⟨a1,a2,a3,a4,k7,z7,k10,z10⟩=>?_)
 ·rw [a3,a4,a5,a6]
  refine Q2E h7 (by rw [←e7];exact hs.d) rfl (λi hl hlt e hi=>?_)
  rw [e]
  exact Qp ee (λr hr=>Q6 ⟨a1,a2,rfl,rfl,h7.set hl trivial,rfl,k10,z10⟩)
 rw [a1,a2,a3,a4]
 exact Qp ee (λ_ _=>Qp ee (λ_ _=>Qp ee (λ_ _=>Qp ee (λ_ _=>Qu (λ_=>Qp ee (λ_ _=>Q6 ⟨⟨rfl,hs.Q2Q⟩,k7,k10,z7,z10,rfl⟩)) (λ_=>Q6 ⟨⟨rfl,hs.Q2Q⟩,k7,k10,z7,z10,rfl⟩)))))
abbrev YD:=(Fm Qe)×(Fm Qg)×(Fm Qh)×(Fm Qz)×Unit
abbrev RD (c:Cx) (a b:YD):Prop:=FR c.t Q2D a.1 b.1/\FR c.d (λ_=>True) a.2.1 b.2.1/\FR c.f Q5X a.2.2.1 b.2.2.1/\FR c.m (λ_=>True) a.2.2.2.1 b.2.2.2.1
abbrev nD' (n:Sz) (b:YD):Sz:={ n with t:=b.1.1,d:=b.2.1.1,f:=b.2.2.1.1,m:=b.2.2.2.1.1}
abbrev YD1:=QX×YD
abbrev RD1 (c:Cx) (a b:YD1):Prop:=a.1=b.1/\RD c a.2 b.2
abbrev nD1 (n:Sz) (b:YD1):Sz:=nD' n b.2
abbrev Bests:=Nat×Fm Qc
theorem inR8 {i:Int} {n:Nat} (h0:0<=i) (h:i < 8) (hn:n=8):(bif inR i 8 then inR i n else false)=true:=by
 subst hn
 rw [Q1B h0 (by omega)];rfl
theorem dF0_w {c:Cx} {δ:Dl} {n:Sz} {K0:Q9×Nat} {K:Q1} {ya yb:YD} (m:Nat) (hm:(m:Int)<=K0.1.QB) (hm8:m<=8) (h:KR c δ (nD' n yb) K0 (QN c δ K) K) (hY:RD c ya yb) (bs0:Nat->Qc) (vs0:Nat->Option Qj) (ls0:Nat->Bool):
  Tw (K18.F0 (((0,m),(m:Int),0,()),QN c δ K,(8,0,bs0),(8,vs0),(8,ls0),ya)) (K18.F0 (((0,m),(m:Int),0,()),K,(8,0,bs0),(8,vs0),(8,ls0),yb))
   (λa b=>a.1=((0,m),())/\b.1=((0,m),())/\a.2.1=QN c δ K/\b.2.1=K/\a.2.2.1=b.2.2.1/\b.2.2.1.1=8/\a.2.2.2.1=b.2.2.2.1/\b.2.2.2.1.1=8/\a.2.2.2.2.1=b.2.2.2.2.1/\b.2.2.2.2.1.1=8/\RD c a.2.2.2.2.2 b.2.2.2.2.2/\nD' n b.2.2.2.2.2=nD' n yb):=by
 unfold K18.F0
 refine Q4p (λa b=>a.1=b.1/\b.1.1=(0,m)/\b.1.2.1=(m:Int)/\0<=b.1.2.2.1/\a.2.1=QN c δ K/\b.2.1=K/\a.2.2.1=b.2.2.1/\b.2.2.1.1=8/\(b.2.2.1.2.1:Int)<=b.1.2.2.1/\a.2.2.2.1=b.2.2.2.1/\b.2.2.2.1.1=8/\a.2.2.2.2.1=b.2.2.2.2.1/\b.2.2.2.2.1.1=8/\RD c a.2.2.2.2.2 b.2.2.2.2.2/\nD' n b.2.2.2.2.2=nD' n yb) (λb=>((m:Int) - b.1.2.2.1).toNat) (λa b ⟨e1,e2,e3,e4,e5,e6,e7,e8,e9,e10,e11,e12,e13,hY,e14⟩=>?_) _ _ _ ⟨rfl,rfl,rfl,Int.le_refl 0,rfl,rfl,rfl,rfl,Int.le_refl 0,rfl,rfl,rfl,rfl,hY,rfl⟩ (by simp only [];omega)
 unfold K18.QU
 obtain ⟨⟨am,an,ai,_⟩,aK,ab,av,al,ag⟩:=a
 obtain ⟨⟨bm,bn,bi,_⟩,bK,⟨b8,bz,bf⟩,⟨v8,vf⟩,⟨l8,lf⟩,bg⟩:=b
 dsimp only at e1 e2 e3 e4 e5 e6 e7 e8 e9 e10 e11 e12 e13 hY e14
 cases e1
 subst e2 e3 e5 e6 e7 e8 e10 e11 e12 e13
 dsimp only
 refine Qu (λhh=>?_) (λ_=>Q6 ⟨rfl,rfl,rfl,rfl,rfl,rfl,rfl,rfl,rfl,rfl,hY,e14⟩)
 have hh:=Q2g hh
 have hK:KR c δ (nD' n bg) K0 (QN c δ bK) bK:=by rw [e14];exact h
 have einc:Q4 .i64 ai 1=ai+1:=Q1i (by omega)
 refine Q2A (Q1B e4 hh) (Qp ee (λr0 _=>Qu (λ_=>?_) (λ_=>?_)))
 ·rw [einc]
  refine Q6 ⟨⟨rfl,rfl,rfl,?_,rfl,rfl,rfl,rfl,?_,rfl,rfl,rfl,rfl,hY,e14⟩,?_⟩
  ·show 0<=ai+1;omega
  ·show (bz:Int)<=ai+1;omega
  ·show ((m:Int) - (ai+1)).toNat < ((m:Int) - ai).toNat;omega
 have hsd:SOk c (nD' n bg) (bK.Qf (0+Int.toNat ai)):=hK.ok.side _ (by rw [hK.Q14];omega)
 refine QL (λa b=>a.1=b.1/\b.1.1=(0,m)/\b.1.2.1=ai/\b.1.2.2.1=0+Int.toNat ai/\b.1.2.2.2.2.1=(m:Int)/\b.1.2.2.2.2.2.1=ai/\a.2.1=QN c δ bK/\b.2.1=bK/\a.2.2.1=(8,bz,bf)/\b.2.2.1=(8,bz,bf)/\a.2.2.2.1=(8,vf)/\b.2.2.2.1=(8,vf)/\a.2.2.2.2.1=(8,lf)/\b.2.2.2.2.1=(8,lf)/\a.2.2.2.2.2.1=b.2.2.2.2.2.1/\a.2.2.2.2.2.2=ag/\b.2.2.2.2.2.2=bg) (Q2E hY.1 hsd.t rfl (λi hl hlt e hi=>?_)) (λs w ⟨z1,z2,z3,z4,z5,z6,z7,z8,z9,z10,z11,z12,z13,z14,z15,z16,z17⟩=>?_)
 ·rw [e]
  exact Qp (Qcx _ _ hi) (λr _=>Q6 ⟨rfl,rfl,rfl,rfl,rfl,rfl,rfl,rfl,rfl,rfl,rfl,rfl,rfl,rfl,rfl,rfl,rfl⟩)
 obtain ⟨s1,sK,sb,sv,sl,sr,sg⟩:=s
 obtain ⟨⟨wm,wi,wp,wo,wn,wj,_⟩,wK,wb,wv,wl,wr,wg⟩:=w
 dsimp only at z1 z2 z3 z4 z5 z6 z7 z8 z9 z10 z11 z12 z13 z14 z15 z16 z17
 subst z1 z2 z3 z4 z5 z6 z7 z8 z9 z10 z11 z12 z13 z14 z15 z16 z17
 dsimp only
 have i8:∀{k:Nat},k=8->(bif inR wj 8 then inR wj k else false)=true:=λhk=>inR8 e4 (by omega) hk
 rw [i8 rfl]
 refine QL (λa b=>a.1=b.1/\b.1.1=(0,m)/\b.1.2.1=wj/\b.1.2.2.2.1=(m:Int)/\b.1.2.2.2.2.1=wj/\a.2.1=QN c δ wK/\b.2.1=wK/\a.2.2.1=b.2.2.1/\b.2.2.1.1=8/\b.2.2.1.2.1=bz/\a.2.2.2.1=b.2.2.2.1/\b.2.2.2.1.1=8/\a.2.2.2.2.1=b.2.2.2.2.1/\b.2.2.2.2.1.1=8/\a.2.2.2.2.2=sg/\b.2.2.2.2.2=wg) (Q2A rfl (Q2A (Nat.ble_eq_true_of_le (by omega)) (Q2A rfl (Q6 ⟨rfl,rfl,rfl,rfl,rfl,rfl,rfl,rfl,rfl,rfl,rfl,rfl,rfl,rfl,rfl,rfl⟩)))) (λs' w' ⟨y1,y2,y3,y4,y5,y6,y7,y8,y9,y9',y10,y11,y12,y13,y14,y15⟩=>?_)
 obtain ⟨s1',sK',sb',sv',sl',sg'⟩:=s'
 obtain ⟨⟨wm',wj',wo',wn',wj',_⟩,wK',⟨wb8,wbz,wbf⟩,⟨wv8,wvf⟩,⟨wl8,wlf⟩,wg'⟩:=w'
 dsimp only at y1 y2 y3 y4 y5 y6 y7 y8 y9 y9' y10 y11 y12 y13 y14 y15
 subst y1 y2 y3 y4 y5 y6 y7 y8 y9 y9' y10 y11 y12 y13 y14 y15
 dsimp only
 rw [i8 rfl]
 refine QL (λa b=>a.1=b.1/\b.1.1=(0,m)/\b.1.2.1=(m:Int)/\b.1.2.2.1=wj'/\a.2.1=QN c δ wK'/\b.2.1=wK'/\a.2.2.1=b.2.2.1/\b.2.2.1.1=8/\(b.2.2.1.2.1:Int)<=wj'+1/\a.2.2.2.1=b.2.2.2.1/\b.2.2.2.1.1=8/\a.2.2.2.2.1=b.2.2.2.2.1/\b.2.2.2.2.1.1=8/\a.2.2.2.2.2=sg'/\b.2.2.2.2.2=wg') (Qu (λ_=>Q2A rfl (Q2A rfl (Q6 ⟨rfl,rfl,rfl,rfl,rfl,rfl,rfl,rfl,?_,rfl,rfl,rfl,rfl,rfl,rfl⟩))) (λ_=>Q6 ⟨rfl,rfl,rfl,rfl,rfl,rfl,rfl,rfl,?_,rfl,rfl,rfl,rfl,rfl,rfl⟩)) (λs w ⟨x1,x2,x3,x4,x5,x6,x7,x8,x9,x10,x11,x12,x13,x14,x15⟩=>Q6 ⟨⟨?_,x2,x3,?_,x5,x6,x7,x8,?_,x10,x11,x12,x13,by rw [x14,x15];exact hY,by rw [x15];exact e14⟩,?_⟩)
 ·show ((Nat.max wbz (Int.toNat wj'+1):Nat):Int)<=wj'+1
  have:Nat.max wbz (Int.toNat wj'+1)<=Int.toNat wj'+1:=Nat.max_le.2 ⟨by omega,Nat.le_refl _⟩
  omega
 ·show (wbz:Int)<=wj'+1;omega
 ·show (s.1.1,s.1.2.1,Q4 .i64 s.1.2.2.1 1,())=(w.1.1,w.1.2.1,Q4 .i64 w.1.2.2.1 1,())
  rw [x1]
 ·show 0<=Q4 .i64 w.1.2.2.1 1
  rw [x4,einc];omega
 ·show (w.2.2.1.2.1:Int)<=Q4 .i64 w.1.2.2.1 1
  rw [x4,einc];exact x9
 ·show ((m:Int) - Q4 .i64 w.1.2.2.1 1).toNat < ((m:Int) - wj').toNat
  rw [x4,einc];omega
theorem dF1_w {c:Cx} {δ:Dl} {K:Q1} {ya yb:YD} (q:Nat×Nat) (l:List Int) (hl:l.length<=8) (bt:Bests) (hb:bt.1=8) (pa:QX):
  Tw (K18.F1 ((q,l,l,ofN l.length,0,()),QN c δ K,bt,pa,ya)) (K18.F1 ((q,l,l,ofN l.length,0,()),K,bt,pa,yb))
   (λa b=>a.1=b.1/\b.1=(q,l,())/\a.2.1=QN c δ K/\b.2.1=K/\a.2.2.1=b.2.2.1/\a.2.2.2=ya/\b.2.2.2=yb):=by
 unfold K18.F1
 refine Q4p (λa b=>a.1=b.1/\b.1.1=q/\b.1.2.1=l/\b.1.2.2.1=l/\b.1.2.2.2.1=(l.length:Int)/\0<=b.1.2.2.2.2.1/\a.2.1=QN c δ K/\b.2.1=K/\a.2.2.1=bt/\b.2.2.1=bt/\a.2.2.2.1=b.2.2.2.1/\a.2.2.2.2=ya/\b.2.2.2.2=yb) (λb=>((l.length:Int) - b.1.2.2.2.2.1).toNat) (λa b ⟨e1,e2,e3,e4,e5,e6,e7,e8,e9,e10,e11,e12,e13⟩=>?_) _ _ _ ⟨rfl,rfl,rfl,rfl,rfl,Int.le_refl 0,rfl,rfl,rfl,rfl,rfl,rfl,rfl⟩ (by simp only [];omega)
 unfold K18.Q2x
 obtain ⟨a1,aK,ab,ap,ay⟩:=a
 obtain ⟨⟨bq,bl,bl2,bn,bi,_⟩,bK,bb,bp,by'⟩:=b
 dsimp only at e1 e2 e3 e4 e5 e6 e7 e8 e9 e10 e11 e12 e13
 subst e1 e2 e3 e5 e7 e8 e9 e10 e11 e12 e13
 subst e4
 dsimp only
 refine Qu (λhh=>?_) (λ_=>Q6 ⟨rfl,rfl,rfl,rfl,rfl,rfl,rfl⟩)
 have hh:=Q2g hh
 have einc:Q4 .i64 bi 1=bi+1:=Q1i (by omega)
 refine Q2A (Q1B e6 hh) (QL (λa b=>∃p,a=(((bq,bl2,bl2,(bl2.length:Int),bi,()),QN c δ bK,bb,p,ay):(_×_))/\b=(((bq,bl2,bl2,(bl2.length:Int),bi,()),bK,bb,p,by'):(_×_))) (Qu (λ_=>?_) (λ_=>Q6 ⟨_,rfl,rfl⟩)) (λs w ⟨p,x1,x2⟩=>?_))
 ·rw [inR8 e6 (by omega) hb]
  exact Q2A rfl (Q2A rfl (Qp ee (λ_ _=>Q6 ⟨_,rfl,rfl⟩)))
 ·subst x1 x2
  dsimp only
  rw [einc]
  refine Q6 ⟨⟨rfl,rfl,rfl,rfl,rfl,?_,rfl,rfl,rfl,rfl,rfl,rfl,rfl⟩,?_⟩
  ·show 0<=bi+1;omega
  ·show ((bl2.length:Int) - (bi+1)).toNat < ((bl2.length:Int) - bi).toNat;omega
theorem nD_eq {n:Sz} {a b:YD} (e1:b.1.1=a.1.1) (e2:b.2.1.1=a.2.1.1) (e3:b.2.2.1.1=a.2.2.1.1) (e4:b.2.2.2.1.1=a.2.2.2.1.1):nD' n b=nD' n a:=by unfold nD';rw [e1,e2,e3,e4]
theorem dF2_w {c:Cx} {δ:Dl} {n:Sz} {K0:Q9×Nat} {K:Q1} {ya yb:YD} (m:Nat) (hm:(m:Int)<=K0.1.QB) (l:List Int) (hl:l.length<=m) (hm8:m<=8) (same:Bool) (pa:QX) (h:KR c δ (nD' n yb) K0 (QN c δ K) K) (hY:RD c ya yb):
  Tw (K18.F2 (((0,m),same,l,ofN l.length,0,()),QN c δ K,pa,ya)) (K18.F2 (((0,m),same,l,ofN l.length,0,()),K,pa,yb))
   (λa b=>(a.1=b.1/\True)/\KR c δ (nD1 n b.2.2) K0 a.2.1 b.2.1/\RD1 c a.2.2 b.2.2):=by
 unfold K18.F2
 refine Q4p (λa b=>a.1=b.1/\b.1.1=(0,m)/\b.1.2.2.1=l/\b.1.2.2.2.1=(l.length:Int)/\0<=b.1.2.2.2.2.1/\KR c δ (nD1 n b.2.2) K0 a.2.1 b.2.1/\RD1 c a.2.2 b.2.2) (λb=>((l.length:Int) - b.1.2.2.2.2.1).toNat) (λa b ⟨e1,e2,e3,e4,e5,hK,hD⟩=>?_) _ _ _ ⟨rfl,rfl,rfl,rfl,Int.le_refl 0,h,rfl,hY⟩ (by simp only [];omega)
 unfold K18.Qak
 obtain ⟨a1,aK,ay⟩:=a
 obtain ⟨⟨bq,bs,bl,bn,bi,_⟩,bK,by'⟩:=b
 dsimp only at e1 e2 e3 e4 e5 hK hD
 have e6:=hK.eq
 subst e1 e2 e3 e4 e6
 dsimp only
 refine Qu (λhh=>?_) (λ_=>Q6 ⟨⟨rfl,trivial⟩,hK,hD⟩)
 have hh:=Q2g hh
 have einc:Q4 .i64 bi 1=bi+1:=Q1i (by omega)
 refine Q2A (Q1B e5 hh) (Q2A (Q1B e5 (by omega)) (Qp ee (λr0 _=>Qu (λ_=>?_) (λ_=>?_))))
 ·rw [einc]
  refine Q6 ⟨⟨rfl,rfl,rfl,rfl,?_,hK,hD⟩,?_⟩
  ·show 0<=bi+1;omega
  ·show ((bl.length:Int) - (bi+1)).toNat < ((bl.length:Int) - bi).toNat;omega
 have hlt:((0+bi.toNat:Nat):Int) < K0.1.QB:=by omega
 refine Q1n (λq=>q.1=(0,m)/\q.2.2.2.1=0+bi.toNat/\q.2.2.2.2.2.1=bl/\q.2.2.2.2.2.2.1=(bl.length:Int)/\q.2.2.2.2.2.2.2.1=bi) (RD1 c) (nD1 n) (Qp ee (λ_ _=>Q6 ⟨⟨rfl,rfl,rfl,rfl,rfl,rfl⟩,hK.port rfl λs=>s.Q2Q,hD⟩)) (λq B ya yb ⟨q1,q2,q3,q4,q5⟩ hK hD=>?_)
 refine QL (λa b=>a=b) (Qu (λ_=>Q6 rfl) (λ_=>Qu (λ_=>Qu (λ_=>Q6 rfl) (λ_=>Q6 rfl)) (λ_=>Q6 rfl))) (λr3 r3' e=>?_)
 subst e
 refine Q1n (λq=>q.1=(0,m)/\q.2.2.1=bl/\q.2.2.2.1=(bl.length:Int)/\q.2.2.2.2.1=bi) (RD1 c) (nD1 n) (Qu (λ_=>?_) (λ_=>Q6 ⟨⟨rfl,q1,q3,q4,q5⟩,hK,hD⟩)) (λq B ya yb ⟨q1,q2,q3,q4⟩ hK hD=>?_)
 ·refine Q1n (c:=c) (δ:=δ) (K0:=K0) (λq=>q.1=(0,m)/\q.2.2.2.1=bl/\q.2.2.2.2.1=(bl.length:Int)/\q.2.2.2.2.2.1=bi) (RD1 c) (nD1 n) (QL _ (Qad (n:=nD1 n yb) _ (hK.ok.side _ (by rw [hK.Q14];show ((q.2.2.2.1:Nat):Int) < _;rw [q2];exact hlt)) rfl rfl hD.2.2.1 hD.2.2.2.2) (λa b ⟨hS,k7,k10,z7,z10,_⟩=>Q6 ⟨⟨rfl,q1,q3,q4,q5⟩,?_,⟨hD.1,hD.2.1,k7,hD.2.2.2.1,k10⟩⟩)) (λq B ya yb ⟨q1,q2,q3,q4⟩ hK hD=>?_)
  ·have e:nD1 n (yb.1,yb.2.1,b.2.1.2.1,yb.2.2.2.1,b.2.1.2.2)=nD1 n yb:=nD_eq rfl z7 rfl z10
   show KR c δ (nD1 n (yb.1,yb.2.1,b.2.1.2.1,yb.2.2.2.1,b.2.1.2.2)) _ _ _
   rw [e]
   exact hK.QaA hS.eq hS.ok
  ·have hp:ya.1=yb.1:=hD.1
   dsimp only
   rw [hp]
   exact Q5i (λ_=>True) RU (nU (nD1 n yb)) (QbS _ _ hK) (λq' B _ _ _ h _=>Q6 ⟨⟨rfl,q1,q2,q3,q4⟩,h,⟨hp,hD.2⟩⟩)
 ·refine Q6 ⟨⟨rfl,q1,q2,q3,?_,hK,hD⟩,?_⟩
  ·show 0<=Q4 .i64 q.2.2.2.2.1 1
   rw [q4,einc];omega
  ·show ((bl.length:Int) - Q4 .i64 q.2.2.2.2.1 1).toNat < ((bl.length:Int) - bi).toNat
   rw [q4,einc];omega
theorem Q7o (f:Qh) (h:Q5X f):Tot (K92 f) (λr=>Q5X r.2.1.1):=by
 unfold K92 K92.gen
 exact Q2 ⟨Int.le_refl 0,by show 0<=f.Q4O;have:=h.2.2.1;omega,h.2.2.1,h.2.2.2⟩
theorem QbU {c:Cx} {δ:Dl} {n:Sz} {K0:Q9×Nat} {K:Q1} {ya yb:YD} (h:KR c δ (nD' n yb) K0 (QN c δ K) K) (hY:RD c ya yb):
  Tw (K18 (QN c δ K) ya.1 ya.2.1 ya.2.2.1 ya.2.2.2.1) (K18 K yb.1 yb.2.1 yb.2.2.1 yb.2.2.2.1) (λa b=>(a.1=b.1/\True)/\KR c δ (nD' n b.2.1.2) K0 a.2.1.1 b.2.1.1/\RD c a.2.1.2 b.2.1.2):=by
 obtain ⟨p1,p8,_⟩:=Q3F h.ok.Q14
 have hc:=h.Q14
 unfold K18 K18.gen
 obtain ⟨m,hm⟩:∃m:Nat,K.Qs.QB=(m:Int):=⟨K.Qs.QB.toNat,by omega⟩
 have em:Int.toNat K.Qs.QB - Int.toNat (ofN 0)=m:=by unfold ofN;omega
 rw [show (QN c δ K).Qs=K.Qs from rfl,em]
 refine Q2A (Q2R (by decide) (by unfold ofN;omega) (by omega)) ?_
 refine QL _ (dF0_w m (by rw [←hc,hm];exact Int.le_refl _) (by omega) h hY _ _ _) (λa b ⟨e1,e2,e3,e4,e5,e6,e7,e8,e9,e10,hD,e11⟩=>?_)
 obtain ⟨a1,aK,ab,av,al,ay⟩:=a
 obtain ⟨b1,bK,bb,⟨bv,bvf⟩,⟨bl,blf⟩,by'⟩:=b
 dsimp only at e1 e2 e3 e4 e5 e6 e7 e8 e9 e10 hD e11
 subst e1 e2 e3 e4 e5 e7 e8 e9 e10
 dsimp only
 have hK:KR c δ (nD' n by') K0 (QN c δ bK) bK:=by rw [e11];exact h
 have l8:∀{k:Nat},k=8->(bif le3 0 (ofN m) 8 then le3 0 (ofN m) k else false)=true:=λhk=>by
  subst hk
  rw [Q2R (Int.le_refl 0) (by unfold ofN;omega) (by unfold ofN;omega)];rfl
 rw [l8 rfl]
 have e0:Int.toNat (ofN m)=m:=rfl
 rw [e0]
 refine Qp ee (λr1 _=>Q2A rfl (Q2A rfl (Qp (all_t _ _ _ (by simp only [List.length_map,List.length_range];omega)) (λr2 hr2=>?_))))
 simp only [List.length_map,List.length_range] at hr2
 refine QL (λa b=>∃pa,a=((((0,m),r2.1.1,()),QN c δ bK,ab,pa,ay):_×_)/\b=((((0,m),r2.1.1,()),bK,ab,pa,by'):_×_)) (Qp ee (λ_ _=>Q6 ⟨_,rfl,rfl⟩)) (λa b ⟨pa,x1,x2⟩=>?_)
 subst x1 x2
 dsimp only
 refine QL _ (dF1_w _ _ (by omega) ab e6 pa) (λa b ⟨y1,y2,y3,y4,y5,y6,y7⟩=>?_)
 obtain ⟨a1,aK,ap,ay2⟩:=a
 obtain ⟨b1,bK2,bp,by2⟩:=b
 dsimp only at y1 y2 y3 y4 y5 y6 y7
 subst y1 y2 y3 y4 y5 y6 y7
 dsimp only
 refine Q1n (λ_=>True) (RD1 c) (nD1 n) (dF2_w m (by rw [←hc,hm];exact Int.le_refl _) _ hr2 (by omega) _ _ hK hD) (λq B ya yb _ hK hD=>?_)
 refine Q1n (λ_=>True) (RD1 c) (nD1 n) (Qu (λ_=>?_) (λ_=>Q6 ⟨⟨rfl,trivial⟩,hK,hD⟩)) (λq B ya yb _ hK hD=>?_)
 ·refine Q1n (λ_=>True) (RD1 c) (nD1 n) (Q2E hD.2.2.2.1 hK.ok.f rfl (λi hl hlt e hi=>?_)) (λq B ya yb _ hK hD=>Q6 ⟨⟨rfl,trivial⟩,⟨rfl,⟨hK.ok.Q14,hK.ok.s,hK.ok.f,hK.ok.all⟩,hK.Q14,hK.outs,hK.dr⟩,hD⟩)
  rw [e]
  exact Qp (Q7o _ hi) (λr hr=>Q6 ⟨⟨rfl,trivial⟩,hK,⟨hD.1,hD.2.1,hD.2.2.1,hD.2.2.2.1.set hl hr,hD.2.2.2.2⟩⟩)
 ·have hp:ya.1=yb.1:=hD.1
  refine Q6 ⟨⟨rfl,trivial⟩,⟨?_,⟨hK.ok.Q14,hK.ok.s,hK.ok.f,hK.ok.all⟩,hK.Q14,hK.outs,hK.dr⟩,hD.2⟩
  show Q1.Q48 (QN c δ B) ya.1=QN c δ (Q1.Q48 B yb.1)
  rw [hp];rfl
theorem Q6B {c:Cx} {δ:Dl} {n:Sz} {cf:Q9} {m:Nat} {K:Q1} (i:Int) (x:Q8) (l:List Qi) (w:Bool) (hm:m<=1000000) (h:KR c δ n (cf,m) (QN c δ K) K):Tw (K26 i x l w (QN c δ K)) (K26 i x l w K) (λa b=>(a.1=b.1/\True)/\KR c δ (nU n b.2.1.2) (cf,m+1) a.2.1.1 b.2.1.1/\RU a.2.1.2 b.2.1.2):=by
 have ho:K.Q2p.length<=m:=h.outs
 unfold K26 K26.gen
 refine Qp (QdS _ _) (λr0 _=>Qu (λ_=>?_) (λ_=>Q6 ⟨⟨rfl,trivial⟩,h.more (Nat.le_succ _),trivial⟩))
 refine Q2A (Q2P (by show (K.Q2p.length+_)*64<=_;simp only [List.length_cons,Qm,List.length_nil];omega)) (Q6 ⟨⟨rfl,trivial⟩,⟨rfl,⟨h.ok.Q14,h.ok.s,h.ok.f,h.ok.all⟩,h.Q14,?_,h.dr⟩,trivial⟩)
 show (K.Q2p++_).length<=m+1
 simp only [List.length_append,List.length_cons,Qm,List.length_nil];omega
theorem Q6s {c:Cx} {δ:Dl} (n:Int) (K:Q1):K32 n (QN c δ K)=K32 n K:=rfl
theorem Q6o {c:Cx} {δ:Dl} (n:Int) (K:Q1):K30 n (QN c δ K)=K30 n K:=rfl
theorem Q6r {n:Int} (K:Q1) (h1:1<=n) (h8:n<=8):Tot (K32 n K) (λr=>r.1.1=(n - 1).toNat):=⟨_,Qae K h1 h8,rfl⟩
theorem Qdt {c:Cx} {δ:Dl} {n:Sz} {cf:Q9×Nat} {K:Q1} {g12 g12':Nat×(Nat->List (Qd×List Int))} (h:KR c δ n cf (QN c δ K) K) (hn:n.p=g12'.1) (h12:FR c.p Q3z g12 g12'):Tw (K27 (QN c δ K) g12) (K27 K g12') (λa b=>a=b):=by
 obtain ⟨p1,p8,_⟩:=Q3F h.ok.Q14
 unfold K27 K27.gen
 obtain ⟨m,hm⟩:∃m:Nat,K.Qs.QB=(m:Int):=⟨K.Qs.QB.toNat,by omega⟩
 have em:Int.toNat K.Qs.QB - Int.toNat (ofN 0)=m:=by unfold ofN;omega
 rw [show (QN c δ K).Qs=K.Qs from rfl,em]
 refine Qu (λ_=>Q6 rfl) (λ_=>Q2A (Q2R (by decide) (by unfold ofN;omega) (by omega)) (QL (λa b=>a.1=b.1/\b.1.1.length<=60/\a.2.1=QN c δ K/\b.2.1=K) ?_ (λa b ⟨e1,e2,e3,e4⟩=>?_)))
 ·unfold K27.F1
  refine Q4p (λa b=>a.1=b.1/\b.1.1= []/\b.1.2.1=(m:Int)/\0<=b.1.2.2.1/\a.2.1=QN c δ K/\b.2.1=K/\a.2.2.1=g12/\b.2.2.1=g12') (λb=>((m:Int) - b.1.2.2.1).toNat) (λa b ⟨e1,e2,e3,e4,e5,e6,e7,e8⟩=>?_) _ _ _ ⟨rfl,rfl,rfl,Int.le_refl 0,rfl,rfl,rfl,rfl⟩ (by simp only [];omega)
  unfold K27.Q2x
  obtain ⟨a1,aK,ag,_⟩:=a
  obtain ⟨⟨bl,bm,bi,_⟩,bK,bg,_⟩:=b
  dsimp only at e1 e2 e3 e4 e5 e6 e7 e8
  subst e1 e2 e3 e5 e6 e7 e8
  dsimp only
  refine Qu (λhh=>?_) (λ_=>Q6 ⟨rfl,Nat.zero_le _,rfl,rfl⟩)
  have hh:=Q2g hh
  refine Q2A (Q1B (n:=8) e4 (by omega)) (QL (λa b=>a=b/\(Option.getD b (Qm Int)).length<=60) (Q2E h12 (by rw [←hn];exact (h.ok.side _ (by omega)).p) rfl (λi hl hlt e hi=>?_)) (λr r' ⟨e,hr⟩=>?_))
  ·rw [e]
   exact Qa5 (Q9A _ _ hi)
  ·subst e
   have hr:List.length (Option.getD r (Qm Int):List Int)<=60:=hr
   refine Qu (λ_=>Q2A (Q2P (by show (0+List.length (Option.getD r (Qm Int):List Int))*8<=140737488355328;omega)) (Q6 ⟨rfl,hr,rfl,rfl⟩)) (λ_=>?_)
   ·rw [Q1i (by omega)]
    refine Q6 ⟨⟨rfl,rfl,rfl,?_,rfl,rfl,rfl,rfl⟩,?_⟩
    ·show 0<=bi+1;omega
    ·show ((m:Int) - (bi+1)).toNat < ((m:Int) - bi).toNat;omega
 ·rw [e1,e3,e4]
  refine QL (λa b=>a.1=b.1/\a.2.2.1=b.2.2.1) (Q2A (Q2P (by simp only [List.length_cons,Qm,List.length_nil];omega)) (Qp (Qe1 _) (λr _=>Q6 ⟨rfl,rfl⟩))) (λa b ⟨x1,x2⟩=>?_)
  rw [x1,x2]
  exact Qu (λ_=>Q6 rfl) (λ_=>Q6 rfl)
abbrev Y78:=(Fm Qg)×(Fm Qb)×(Nat×(Nat->List (Qd×List Int)))×Unit
abbrev RS (c:Cx) (a b:Y78):Prop:=FR c.d (λ_=>True) a.1 b.1/\FR c.e (λ_=>True) a.2.1 b.2.1/\FR c.p Q3z a.2.2.1 b.2.2.1
abbrev nS (n:Sz) (b:Y78):Sz:={ n with d:=b.1.1,e:=b.2.1.1,p:=b.2.2.1.1}
abbrev RS1 (c:Cx) (a b:Q8×Y78):Prop:=a.1=b.1/\RS c a.2 b.2
abbrev nS1 (n:Sz) (b:Q8×Y78):Sz:=nS n b.2
theorem req_w {c:Cx} {n:Sz} {x:Q5} {g7 g7':Fm Qg} {g8 g8':Fm Qb} (pe:Bool) (hs:SOk c n x) (e7:n.d=g7'.1) (e8:n.e=g8'.1) (h7:FR c.d (λ_=>True) g7 g7') (h8:FR c.e (λ_=>True) g8 g8'):
  Tw (K40 pe (Q3H c x) g7 g8) (K40 pe x g7' g8') (λa b=>a.1=b.1/\SR c n a.2.1.1 b.2.1.1/\FR c.d (λ_=>True) a.2.1.2.1 b.2.1.2.1/\FR c.e (λ_=>True) a.2.1.2.2.1 b.2.1.2.2.1/\b.2.1.2.1.1=g7'.1/\b.2.1.2.2.1.1=g8'.1):=by
 unfold K40 K40.gen
 refine Qu (λ_=>?_) (λ_=>?_)
 ·refine QL (λa b=>a.2.1=Q3H c x/\b.2.1=x/\a.2.2.1=b.2.2.1/\FR c.d (λ_=>True) a.2.2.2.1 b.2.2.2.1/\FR c.e (λ_=>True) a.2.2.2.2.1 b.2.2.2.2.1/\b.2.2.2.1.1=g7'.1/\b.2.2.2.2.1.1=g8'.1) (Q2E h8 (by rw [←e8];exact hs.e) rfl (λi hl hlt e hi=>?_)) (λa b ⟨z1,z2,z3,z4,z5,z6,z7⟩=>?_)
  ·rw [e]
   exact Qp ee (λr hr=>Q6 ⟨rfl,rfl,rfl,h7,h8.set hl trivial,rfl,rfl⟩)
  ·rw [z1,z2,z3]
   exact Q6 ⟨rfl,⟨rfl,hs⟩,z4,z5,z6,z7⟩
 ·refine Q2E h7 (by rw [←e7];exact hs.d) rfl (λi hl hlt e hi=>?_)
  rw [e]
  exact Qp ee (λr hr=>Q6 ⟨rfl,⟨rfl,hs⟩,h7.set hl trivial,h8,rfl,rfl⟩)
theorem Qa8 (l:Int):Tot (Q2K l) (λ_=>True):=Q7r (Qa6 l) λ_ _=>trivial
theorem nS_eq {n:Sz} {a b:Y78} (e1:b.1.1=a.1.1) (e2:b.2.1.1=a.2.1.1) (e3:b.2.2.1.1=a.2.2.1.1):nS n b=nS n a:=by unfold nS;rw [e1,e2,e3]
theorem Qcz {c:Cx} {δ:Dl} {n:Sz} {cf:Q9} {m:Nat} {K:Q1} {ya yb:Y78} (i now:Int) (h1:1<=i) (hi:i<=cf.QB) (hm:m<=100000) (h:KR c δ (nS n yb) (cf,m) (QN c δ K) K) (hY:RS c ya yb):
  Tw (K33 i now (QN c δ K) ya.1 ya.2.1 ya.2.2.1) (K33 i now K yb.1 yb.2.1 yb.2.2.1) (λa b=>(a.1=b.1/\True)/\KR c δ (nS n b.2.1.2) (cf,m+3) a.2.1.1 b.2.1.1/\RS c a.2.1.2 b.2.1.2):=by
 obtain ⟨p1,p8,_⟩:=Q3F h.ok.Q14
 have hc:K.Qs=cf:=h.Q14
 rw [hc] at p1 p8
 have hlt:(((i - 1).toNat:Nat):Int) < cf.QB:=by omega
 unfold K33 K33.gen
 refine Q2M (Q6s _ _) (Q6r K h1 (by omega)) (λr0 e0=>?_)
 rw [e0]
 refine Q1n (λq=>q.2.2.1=(i - 1).toNat) (RS c) (nS n) (Qu (λ_=>Qp ee (λ_ _=>Q6 ⟨⟨rfl,rfl⟩,h.port rfl λs=>s.Q2Q,hY⟩)) (λ_=>Q6 ⟨⟨rfl,rfl⟩,h,hY⟩)) (λq B ya yb hq h hY=>?_)
 refine Q1n (c:=c) (δ:=δ) (K0:=(cf,m+1)) (λq=>q.2.2.1=(i - 1).toNat) (RS c) (nS n) (Qu (λ_=>?_) (λ_=>Q6 ⟨⟨rfl,hq⟩,h.more (Nat.le_succ _),hY⟩)) (λq B ya yb hq h hY=>?_)
 ·refine Q1n (c:=c) (δ:=δ) (K0:=(cf,m+1)) (λq=>q.2.2.1=(i - 1).toNat) (RS c) (nS n) (Qp ee (λr3 _=>QL _ (Qdt h rfl hY.2.2) (λr4 r4' e=>?_))) (λq B ya yb hq h hY=>?_)
  ·subst e
   exact Q5i (λ_=>True) RU (nU (nS n yb)) (Q6B _ _ _ _ (by omega) h) (λq' B _ _ _ h _=>Q6 ⟨⟨rfl,hq⟩,h,hY⟩)
  refine Q1n (c:=c) (δ:=δ) (K0:=(cf,m+1)) (λq=>q.2.2.1=(i - 1).toNat) (RS c) (nS n) (Qp ee (λ_ _=>Q6 ⟨⟨rfl,hq⟩,h.port rfl λs=>s.Q2Q,hY⟩)) (λq B ya yb hq h hY=>?_)
  exact Q2M (Q9y _) (Q8S _) (λ_ _=>Qp ee (λ_ _=>Q6 ⟨⟨rfl,hq⟩,h.port rfl λs=>s.Q2Q,hY⟩))
 refine Q1n (λq=>q.2.2.1=(i - 1).toNat) (RS c) (nS n) (Qu (λ_=>Qp ee (λ_ _=>Q6 ⟨⟨rfl,hq⟩,h.port rfl λs=>s.Q2Q,hY⟩)) (λ_=>Q6 ⟨⟨rfl,hq⟩,h,hY⟩)) (λq B ya yb hq h hY=>?_)
 refine Q1n (c:=c) (δ:=δ) (K0:=(cf,m+2)) (λq=>q.2.1=(i - 1).toNat) (RS c) (nS n) (Qu (λ_=>?_) (λ_=>Q6 ⟨⟨rfl,hq⟩,h.more (Nat.le_succ _),hY⟩)) (λq B ya yb hq h hY=>?_)
 ·refine Q1n (c:=c) (δ:=δ) (K0:=(cf,m+1)) (λq=>q.2.2.1=(i - 1).toNat) (RS1 c) (nS1 n) (Q2M (Q6o _ _) ee (λr _=>Q6 ⟨⟨rfl,hq⟩,h,⟨rfl,hY⟩⟩)) (λq B ya yb hq h hY=>?_)
  have e1:ya.1=yb.1:=hY.1
  refine Q1n (c:=c) (δ:=δ) (K0:=(cf,m+1)) (λq=>q.2.1=(i - 1).toNat) (RS1 c) (nS1 n) (Qu (λ_=>Q6 ⟨⟨rfl,hq⟩,h,⟨by dsimp only;rw [e1],hY.2⟩⟩) (λ_=>Q6 ⟨⟨rfl,hq⟩,h,⟨by dsimp only;rw [e1],hY.2⟩⟩)) (λq B ya yb hq h hY=>?_)
  have e1:ya.1=yb.1:=hY.1
  refine Q1n (c:=c) (δ:=δ) (K0:=(cf,m+2)) (λq=>q.2.1=(i - 1).toNat) (RS c) (nS n) ?_ (λq B ya yb hq h hY=>?_)
  ·dsimp only
   rw [e1]
   exact Q5i (λ_=>True) RU (nU (nS1 n yb)) (Q6B _ _ _ _ (by omega) h) (λq' B _ _ _ h _=>Q6 ⟨⟨rfl,hq⟩,h,hY.2⟩)
  refine Q1n (c:=c) (δ:=δ) (K0:=(cf,m+2)) (λq=>q.2.1=(i - 1).toNat) (RS c) (nS n) (Qp ee (λ_ _=>Q6 ⟨⟨rfl,hq⟩,h.port rfl λs=>s.Q2Q,hY⟩)) (λq B ya yb hq h hY=>?_)
  exact Qp (Qa8 _) (λ_ _=>Qp ee (λ_ _=>Q6 ⟨⟨rfl,hq⟩,h.port rfl λs=>s.Q2Q,hY⟩))
 refine Qp ee (λr24 _=>?_)
 refine Q1n (λq=>q.2.1=(i - 1).toNat) (RS c) (nS n) (Qu (λ_=>Qp ee (λ_ _=>Q6 ⟨⟨rfl,hq⟩,h,hY⟩)) (λ_=>Q6 ⟨⟨rfl,hq⟩,h,hY⟩)) (λq B ya yb hq h hY=>?_)
 refine Q1n (λq=>q.2.1=(i - 1).toNat) (RS c) (nS n) (Qu (λ_=>Qp ee (λ_ _=>Q6 ⟨⟨rfl,hq⟩,h.port rfl λs=>s.Q2Q,hY⟩)) (λ_=>Q6 ⟨⟨rfl,hq⟩,h,hY⟩)) (λq B ya yb hq h hY=>?_)
 refine Qu (λ_=>?_) (λ_=>Q6 ⟨⟨rfl,trivial⟩,h.more (Nat.le_succ _),hY⟩)
 refine Q1n (c:=c) (δ:=δ) (K0:=(cf,m+2)) (λq=>q.2.1=(i - 1).toNat) (RS1 c) (nS1 n) (QL _ (req_w (n:=nS n yb) _ (h.ok.side _ (by rw [h.Q14];show ((q.2.1:Nat):Int) < _;rw [hq];exact hlt)) rfl rfl hY.1 hY.2.1) (λa b ⟨x1,hS,k7,k8,z7,z8⟩=>Q6 ⟨⟨rfl,hq⟩,?_,⟨?_,k7,k8,hY.2.2⟩⟩)) (λq B ya yb hq h hY=>?_)
 ·have e:nS n (b.2.1.2.1,b.2.1.2.2.1,yb.2.2)=nS n yb:=nS_eq z7 z8 rfl
  show KR c δ (nS n (b.2.1.2.1,b.2.1.2.2.1,yb.2.2)) _ _ _
  rw [e]
  exact h.QaA hS.eq hS.ok
 ·show a.1.1=b.1.1
  rw [x1]
 have e1:ya.1=yb.1:=hY.1
 refine Q1n (c:=c) (δ:=δ) (K0:=(cf,m+3)) (λq=>q.1=(i - 1).toNat) (RS c) (nS n) ?_ (λq B ya yb hq h hY=>?_)
 ·dsimp only
  rw [e1]
  exact Q5i (λ_=>True) RU (nU (nS1 n yb)) (Q6B _ _ _ _ (by omega) h) (λq' B _ _ _ h _=>Q6 ⟨⟨rfl,hq⟩,h,hY.2⟩)
 refine Q1n (c:=c) (δ:=δ) (K0:=(cf,m+3)) (λq=>q.1=(i - 1).toNat) (RS c) (nS n) (Qp ee (λ_ _=>Q6 ⟨⟨rfl,hq⟩,h.port rfl λs=>s.Q2Q,hY⟩)) (λq B ya yb hq h hY=>?_)
 exact Qp (Qa8 _) (λ_ _=>Qp ee (λ_ _=>Q6 ⟨⟨rfl,trivial⟩,h.port rfl λs=>s.Q2Q,hY⟩))
abbrev YT:=(Fm Qe)×(Fm Qg)×(Fm Qb)×(Fm Qh)×(Fm Qz)×(Nat×(Nat->List (Qd×List Int)))×Unit
structure RT (c:Cx) (a b:YT):Prop where
 t:FR c.t Q2D a.1 b.1
 d:FR c.d (λ_=>True) a.2.1 b.2.1
 e:FR c.e (λ_=>True) a.2.2.1 b.2.2.1
 f:FR c.f Q5X a.2.2.2.1 b.2.2.2.1
 m:FR c.m (λ_=>True) a.2.2.2.2.1 b.2.2.2.2.1
 p:FR c.p Q3z a.2.2.2.2.2.1 b.2.2.2.2.2.1
abbrev nT (s:Nat) (b:YT):Sz:=⟨s,b.1.1,b.2.1.1,b.2.2.1.1,b.2.2.2.1.1,b.2.2.2.2.1.1,b.2.2.2.2.2.1.1⟩
theorem Qc3 {c:Cx} {δ:Dl} {s:Nat} {cf:Q9} {m:Nat} {K:Q1} {ya yb:YT} (now:Int) (p8:cf.QB<=8) (h:KR c δ (nT s yb) (cf,m) (QN c δ K) K) (hY:RT c ya yb):
  Tw (K34.F0 ((now,1,()),QN c δ K,ya)) (K34.F0 ((now,1,()),K,yb)) (λa b=>(a.1=b.1/\True)/\KR c δ (nT s b.2.2) (cf,m) a.2.1 b.2.1/\RT c a.2.2 b.2.2):=by
 unfold K34.F0
 refine Q4p (λa b=>a.1=b.1/\1<=b.1.2.1/\KR c δ (nT s b.2.2) (cf,m) a.2.1 b.2.1/\RT c a.2.2 b.2.2) (λb=>(cf.QB+1 - b.1.2.1).toNat) (λa b ⟨e1,e2,hK,hR⟩=>?_) _ _ _ ⟨rfl,Int.le_refl 1,h,hY⟩ (by simp only [];omega)
 unfold K34.QU
 obtain ⟨a1,aK,ay⟩:=a
 obtain ⟨⟨bn,bi,_⟩,bK,by'⟩:=b
 dsimp only at e1 e2 hK hR
 have e6:=hK.eq
 subst e1 e6
 dsimp only
 refine Qu (λhh=>?_) (λ_=>Q6 ⟨⟨rfl,trivial⟩,hK,hR⟩)
 have hh:=Q5s hh
 rw [show (QN c δ bK).Qs=bK.Qs from rfl,hK.Q14] at hh
 have hh:bi<=cf.QB:=hh
 refine Q1n (c:=c) (δ:=δ) (K0:=(cf,m)) (λq=>q=(bn,bi,())) (RT c) (nT s) (Q2M (Q6s _ _) (Q6r bK e2 (by omega)) (λr0 e0=>?_)) (λq B ya yb hq hK hR=>?_)
 ·rw [e0]
  exact Q5i (λ_=>True) (RA c) (nA (nT s by')) (Qd9 (K0:=(cf,m)) (ya:=(ay.1,ay.2.2.2.2.2.1,())) (yb:=(by'.1,by'.2.2.2.2.2.1,())) (bi - 1).toNat (by show (((bi - 1).toNat:Nat):Int) < cf.QB;omega) hK ⟨hR.t,hR.p⟩) (λq' B ya2 yb2 _ h2 hA=>Q6 ⟨⟨rfl,rfl⟩,h2,⟨hA.1,hR.d,hR.e,hR.f,hR.m,hA.2⟩⟩)
 ·subst hq
  dsimp only
  rw [Q1i (by omega)]
  refine Q6 ⟨⟨rfl,?_,hK,hR⟩,?_⟩
  ·show 1<=bi+1;omega
  ·show (cf.QB+1 - (bi+1)).toNat < (cf.QB+1 - bi).toNat;omega
theorem QbZ {c:Cx} {δ:Dl} {s:Nat} {cf:Q9} {m:Nat} {K:Q1} {ya yb:YT} (now:Int) (p8:cf.QB<=8) (hm:m<=1000) (h:KR c δ (nT s yb) (cf,m) (QN c δ K) K) (hY:RT c ya yb):
  Tw (K34.F1 ((now,1,()),QN c δ K,ya)) (K34.F1 ((now,1,()),K,yb)) (λa b=>(a.1=b.1/\True)/\KR c δ (nT s b.2.2) (cf,m+24) a.2.1 b.2.1/\RT c a.2.2 b.2.2):=by
 have p1:1<=cf.QB+1:=by
  have:=(Q3F h.ok.Q14).1
  have hc:K.Qs=cf:=h.Q14
  rw [hc] at this
  omega
 unfold K34.F1
 refine Q4p (λa b=>a.1=b.1/\1<=b.1.2.1/\b.1.2.1<=cf.QB+1/\KR c δ (nT s b.2.2) (cf,m+3*(b.1.2.1 - 1).toNat) a.2.1 b.2.1/\RT c a.2.2 b.2.2) (λb=>(cf.QB+1 - b.1.2.1).toNat) (λa b ⟨e1,e2,e3,hK,hR⟩=>?_) _ _ _ ⟨rfl,Int.le_refl 1,p1,h.more (Nat.le_add_right _ _),hY⟩ (by simp only [];omega)
 ·unfold K34.Q2x
  obtain ⟨a1,aK,ay⟩:=a
  obtain ⟨⟨bn,bi,_⟩,bK,by'⟩:=b
  dsimp only at e1 e2 e3 hK hR
  have e6:=hK.eq
  subst e1 e6
  dsimp only
  have hc:bK.Qs=cf:=hK.Q14
  refine Qu (λhh=>?_) (λhh=>Q6 ⟨⟨rfl,trivial⟩,hK.more (by omega),hR⟩)
  have hh:=Q5s hh
  rw [show (QN c δ bK).Qs=bK.Qs from rfl,hc] at hh
  refine Q1n (c:=c) (δ:=δ) (K0:=(cf,m+3*(bi - 1).toNat+3)) (λq=>q=(bn,bi,())) (RT c) (nT s) ?_ (λq B ya yb hq hK hR=>?_)
  ·exact Q5i (λ_=>True) (RS c) (nS (nT s by')) (Qcz (ya:=(ay.2.1,ay.2.2.1,ay.2.2.2.2.2.1,())) (yb:=(by'.2.1,by'.2.2.1,by'.2.2.2.2.2.1,())) _ _ e2 hh (by omega) hK ⟨hR.d,hR.e,hR.p⟩) (λq' B ya2 yb2 _ h2 hA=>Q6 ⟨⟨rfl,rfl⟩,h2,⟨hR.t,hA.1,hA.2.1,hR.f,hR.m,hA.2.2⟩⟩)
  ·subst hq
   dsimp only
   rw [Q1i (by omega)]
   refine Q6 ⟨⟨rfl,?_,?_,hK.more ?_,hR⟩,?_⟩
   ·show 1<=bi+1;omega
   ·show bi+1<=cf.QB+1;omega
   ·show m+3*(bi - 1).toNat+3<=m+3*(bi+1 - 1).toNat;omega
   ·show (cf.QB+1 - (bi+1)).toNat < (cf.QB+1 - bi).toNat;omega
theorem Qeo {c:Cx} {δ:Dl} {s:Nat} {cf:Q9} {m:Nat} {K:Q1} {ya yb:YT} (now:Int) (hm:m<=1000) (h:KR c δ (nT s yb) (cf,m) (QN c δ K) K) (hY:RT c ya yb):
  Tw (K34 now (QN c δ K) ya.1 ya.2.1 ya.2.2.1 ya.2.2.2.1 ya.2.2.2.2.1 ya.2.2.2.2.2.1) (K34 now K yb.1 yb.2.1 yb.2.2.1 yb.2.2.2.1 yb.2.2.2.2.1 yb.2.2.2.2.2.1) (λa b=>(a.1=b.1/\True)/\KR c δ (nT s b.2.1.2) (cf,m+24) a.2.1.1 b.2.1.1/\RT c a.2.1.2 b.2.1.2):=by
 have p8:cf.QB<=8:=by
  have:=(Q3F h.ok.Q14).2.1
  have hc:K.Qs=cf:=h.Q14
  rw [hc] at this
  exact this
 unfold K34 K34.gen
 refine Q1n (c:=c) (δ:=δ) (K0:=(cf,m)) (λ_=>True) (RT c) (nT s) (Qc3 (K:=Q1.Q8L K (Z4 false (Q4 .i64 K.Q5k 1) 1099511627776)) now p8 ⟨rfl,⟨h.ok.Q14,h.ok.s,h.ok.f,h.ok.all⟩,h.Q14,h.outs,h.dr⟩ hY) (λq B ya yb _ h hY=>?_)
 refine Q2M (Q9y _) (Q8S _) (λr1 hr1=>Q2A (Q6M (by omega)) ?_)
 refine Q1n (c:=c) (δ:=δ) (K0:=(cf,m)) (λ_=>True) (RT c) (nT s) (Qu (λ_=>?_) (λ_=>Q6 ⟨⟨rfl,trivial⟩,h,hY⟩)) (λq B ya yb _ h hY=>?_)
 ·exact Q5i (λ_=>True) (RD c) (nD' (nT s yb)) (QbU (ya:=(ya.1,ya.2.1,ya.2.2.2.1,ya.2.2.2.2.1,())) (yb:=(yb.1,yb.2.1,yb.2.2.2.1,yb.2.2.2.2.1,())) h ⟨hY.t,hY.d,hY.f,hY.m⟩) (λq' B ya2 yb2 _ h2 hA=>Q6 ⟨⟨rfl,trivial⟩,h2,⟨hA.1,hA.2.1,hY.e,hA.2.2.1,hA.2.2.2,hY.p⟩⟩)
 ·exact Q1n (c:=c) (δ:=δ) (K0:=(cf,m+24)) (λ_=>True) (RT c) (nT s) (QbZ _ p8 hm h hY) (λq B ya yb _ h hY=>Q6 ⟨⟨rfl,trivial⟩,h,hY⟩)
theorem QcR {c:Cx} {δ:Dl} {n:Sz} {K0:Q9×Nat} {K:Q1} {ya yb:Q6W} (p:Nat) (m:Q8) (l:List Qi) (hl:Q5n l) (hp:(p:Int) < K0.1.QB) (h:KR c δ (nA n yb) K0 (QN c δ K) K) (hY:RA c ya yb):Tw (K22 p m l (QN c δ K) ya.1 ya.2.1) (K22 p m l K yb.1 yb.2.1) (λa b=>(a.1=b.1/\True)/\KR c δ (nA n b.2.1.2) K0 a.2.1.1 b.2.1.1/\RA c a.2.1.2 b.2.1.2):=by
 unfold K22 K22.gen
 refine Q1n (c:=c) (δ:=δ) (K0:=K0) (λq=>q.1=p) (λa b=>a.1=b.1/\a.2.1=b.2.1/\b.2.1.Q2s.size<=400/\RA c a.2.2 b.2.2) (λb=>nA n b.2.2) (Qp (Qbn _ _ hl) (λr hr=>Q6 ⟨⟨rfl,rfl⟩,h,⟨rfl,rfl,hr,hY⟩⟩)) (λq B ya yb hq h ⟨e1,e2,hs,hY⟩=>?_)
 dsimp only
 rw [e1,e2,hq]
 refine Qp (Qc8 _ hs) (λr2 hr2=>?_)
 refine Q1n (c:=c) (δ:=δ) (K0:=K0) (λq=>q.1=p/\q.2.1.length<=60) (λa b=>a.1=b.1/\RA c a.2 b.2) (λb=>nA n b.2) (Qp (QdK _ _ (by omega)) (λr3 _=>Qu (λ_=>Q6 ⟨⟨rfl,rfl,hr2⟩,h,⟨rfl,hY⟩⟩) (λ_=>Q2E hY.1 (h.ok.side _ (by rw [h.Q14];exact hp)).t rfl (λi hl hlt e hi=>?_)))) (λq B ya yb ⟨hq,hq2⟩ h ⟨e1,hY⟩=>?_)
 ·rw [e]
  exact Qp (Qeh _ _ _ hi) (λr hr=>Q6 ⟨⟨rfl,rfl,hr2⟩,h,⟨rfl,hY.1.set hl hr,hY.2⟩⟩)
 refine Qu (λ_=>Q6 ⟨⟨rfl,trivial⟩,h,hY⟩) (λ_=>?_)
 refine Q1n (c:=c) (δ:=δ) (K0:=K0) (λq=>q.1=p) (RA c) (nA n) ?_ (λq B ya yb hq h hY=>?_)
 ·dsimp only
  rw [hq,e1]
  refine QL (λs w=>s.1=c.p.ρ w.1/\c.p.L w.1/\w.1 < yb.2.2.1.1/\s.2=w.2/\Q3z w.2) (Q2E hY.2 (h.ok.side _ (by rw [h.Q14];exact hp)).p rfl (λi hl hlt e hi=>?_)) (λs w ⟨v1,v2,v3,v4,v5⟩=>?_)
  ·rw [e]
   exact Qp (Q9G _ _ hq2 _ hi) (λr hr=>Q6 ⟨rfl,hl,hlt,rfl,hr⟩)
  ·rw [v1,v4]
   exact Q6 ⟨⟨rfl,rfl⟩,h,⟨hY.1,hY.2.set v2 v5⟩⟩
 refine Qp ee (λr11 _=>?_)
 exact Q1n (c:=c) (δ:=δ) (K0:=K0) (λ_=>True) (RA c) (nA n) (Qu (λ_=>Q2M (Q8G _) (Q8F _) (λ_ _=>Qp ee (λ_ _=>Q6 ⟨⟨rfl,trivial⟩,h.port rfl λs=>s.Q2Q,hY⟩))) (λ_=>Q6 ⟨⟨rfl,trivial⟩,h,hY⟩)) (λq B ya yb _ h hY=>Q6 ⟨⟨rfl,trivial⟩,h,hY⟩)
abbrev YX:=(Fm Qo)×(Fm Qg)×(Fm Qb)×(Fm Qh)×(Fm Qz)×Unit
structure RX (c:Cx) (a b:YX):Prop where
 s:FR c.s (λ_=>True) a.1 b.1
 d:FR c.d (λ_=>True) a.2.1 b.2.1
 e:FR c.e (λ_=>True) a.2.2.1 b.2.2.1
 f:FR c.f Q5X a.2.2.2.1 b.2.2.2.1
 m:FR c.m (λ_=>True) a.2.2.2.2.1 b.2.2.2.2.1
abbrev nX (n:Sz) (b:YX):Sz:={ n with s:=b.1.1,d:=b.2.1.1,e:=b.2.2.1.1,f:=b.2.2.2.1.1,m:=b.2.2.2.2.1.1}
theorem Qd1 {c:Cx} {δ:Dl} {n:Sz} {K0:Q9×Nat} {K:Q1} {ya yb:YX} (p:Nat) (m:Nat) (hm:(m:Int)<=K0.1.QB) (hm8:m<=8) (h:KR c δ (nX n yb) K0 (QN c δ K) K) (hY:RX c ya yb):
  Tw (K29.F0 ((p,ofN m,0,()),QN c δ K,ya)) (K29.F0 ((p,ofN m,0,()),K,yb)) (λa b=>(a.1=b.1/\b.1.1=p)/\KR c δ (nX n b.2.2) K0 a.2.1 b.2.1/\RX c a.2.2 b.2.2):=by
 unfold K29.F0
 refine Q4p (λa b=>a.1=b.1/\b.1.1=p/\b.1.2.1=(m:Int)/\0<=b.1.2.2.1/\KR c δ (nX n b.2.2) K0 a.2.1 b.2.1/\RX c a.2.2 b.2.2) (λb=>((m:Int) - b.1.2.2.1).toNat) (λa b ⟨e1,e2,e3,e4,hK,hR⟩=>?_) _ _ _ ⟨rfl,rfl,rfl,Int.le_refl 0,h,hY⟩ (by simp only [];omega)
 unfold K29.QU
 obtain ⟨a1,aK,ay⟩:=a
 obtain ⟨⟨bp,bm,bi,_⟩,bK,by'⟩:=b
 dsimp only at e1 e2 e3 e4 hK hR
 have e6:=hK.eq
 subst e1 e2 e3 e6
 dsimp only
 refine Qu (λhh=>?_) (λ_=>Q6 ⟨⟨rfl,rfl⟩,hK,hR⟩)
 have hh:=Q2g hh
 have sd:∀{B:Q1} {yb:YX},KR c δ (nX n yb) K0 (QN c δ B) B->SOk c (nX n yb) (B.Qf bi.toNat):=λh=>h.ok.side _ (by rw [h.Q14];omega)
 refine Q2A (Q1B (n:=8) e4 (by omega)) ?_
 refine Q1n (c:=c) (δ:=δ) (K0:=K0) (λq=>q.1=bp/\q.2.1=bi.toNat/\q.2.2=((m:Int),bi,())) (RX c) (nX n) (Q2E hR.m (sd hK).m rfl (λi hl hlt e hi=>?_)) (λq B ya yb ⟨q1,q2,q3⟩ hK hR=>?_)
 ·rw [e]
  exact Qp ee (λr _=>Q6 ⟨⟨rfl,rfl,rfl,rfl⟩,hK,⟨hR.s,hR.d,hR.e,hR.f,hR.m.set hl trivial⟩⟩)
 refine Q1n (c:=c) (δ:=δ) (K0:=K0) (λq=>q.1=bp/\q.2.1=bi.toNat/\q.2.2=((m:Int),bi,())) (RX c) (nX n) (Q2E hR.d (by rw [q2];exact (sd hK).d) rfl (λi hl hlt e hi=>?_)) (λq B ya yb ⟨q1,q2,q3⟩ hK hR=>?_)
 ·rw [e]
  exact Qp ee (λr _=>Q6 ⟨⟨rfl,q1,q2,q3⟩,hK,⟨hR.s,hR.d.set hl trivial,hR.e,hR.f,hR.m⟩⟩)
 refine Q1n (c:=c) (δ:=δ) (K0:=K0) (λq=>q.1=bp/\q.2.1=bi.toNat/\q.2.2=((m:Int),bi,())) (RX c) (nX n) (Q2E hR.e (by rw [q2];exact (sd hK).e) rfl (λi hl hlt e hi=>?_)) (λq B ya yb ⟨q1,q2,q3⟩ hK hR=>?_)
 ·rw [e]
  exact Qp ee (λr _=>Q6 ⟨⟨rfl,q1,q2,q3⟩,hK,⟨hR.s,hR.d,hR.e.set hl trivial,hR.f,hR.m⟩⟩)
 dsimp only
 rw [q1,q3]
 dsimp only
 rw [Q1i (by omega)]
 refine Q6 ⟨⟨rfl,rfl,rfl,?_,hK.port rfl λs=>s.Q2Q,hR⟩,?_⟩
 ·show 0<=bi+1;omega
 ·show ((m:Int) - (bi+1)).toNat < ((m:Int) - bi).toNat;omega
theorem Qcb {c:Cx} {δ:Dl} {n:Sz} {cf:Q9} {m:Nat} {K:Q1} {ya yb:YX} (p:Nat) (o:Int) (hm:m<=1000) (h:KR c δ (nX n yb) (cf,m) (QN c δ K) K) (hY:RX c ya yb):
  Tw (K29 p o (QN c δ K) ya.1 ya.2.1 ya.2.2.1 ya.2.2.2.1 ya.2.2.2.2.1) (K29 p o K yb.1 yb.2.1 yb.2.2.1 yb.2.2.2.1 yb.2.2.2.2.1) (λa b=>(a.1=b.1/\True)/\KR c δ (nX n b.2.1.2) (cf,m+1) a.2.1.1 b.2.1.1/\RX c a.2.1.2 b.2.1.2):=by
 obtain ⟨p1,p8,_⟩:=Q3F h.ok.Q14
 have hc:K.Qs=cf:=h.Q14
 rw [hc] at p1 p8
 have hroom:∀{B:Q1} {x:QJ},B.Q2p.length<=m->room (B.Q2p.length+(x::Qm QJ).length) 64=true:=λhB=>Q2P (by simp only [List.length_cons,Qm,List.length_nil];omega)
 have hlen:∀{B:Q1} {x:QJ},B.Q2p.length<=m->(B.Q2p++x::Qm QJ).length<=m+1:=λhB=>by simp only [List.length_append,List.length_cons,Qm,List.length_nil];omega
 unfold K29 K29.gen
 refine Q2E hY.s h.ok.s rfl (λi hl hlt e hi=>?_)
 rw [e]
 refine Qp ee (λr1 _=>?_)
 refine Q1n (c:=c) (δ:=δ) (K0:=(cf,m)) (λ_=>True) (RX c) (nX n) (Q2E hY.s h.ok.s rfl (λi hl hlt e hi=>Qp (Qd4 _) (λr3 _=>?_))) (λq B ya yb _ h hY=>?_)
 ·rw [e]
  exact Qp (QcE _ _ _) (λr _=>Q6 ⟨⟨rfl,trivial⟩,⟨rfl,⟨h.ok.Q14,h.ok.s,h.ok.f,h.ok.all⟩,h.Q14,h.outs,h.dr⟩,⟨hY.s.set hl trivial,hY.d,hY.e,hY.f,hY.m⟩⟩)
 refine Q1n (c:=c) (δ:=δ) (K0:=(cf,m+1)) (λ_=>True) (RX c) (nX n) (Qu (λ_=>?_) (λ_=>Qu (λ_=>Q2A (hroom h.outs) (Q6 ⟨⟨rfl,trivial⟩,⟨rfl,⟨h.ok.Q14,h.ok.s,h.ok.f,h.ok.all⟩,h.Q14,hlen h.outs,h.dr⟩,hY⟩)) (λ_=>Q6 ⟨⟨rfl,trivial⟩,h.more (Nat.le_succ _),hY⟩))) (λq B ya yb _ h hY=>?_)
 ·refine Q1n (c:=c) (δ:=δ) (K0:=(cf,m+1)) (λ_=>True) (RX c) (nX n) (Q2A (hroom h.outs) (Q6 ⟨⟨rfl,trivial⟩,⟨rfl,⟨h.ok.Q14,h.ok.s,h.ok.f,h.ok.all⟩,h.Q14,hlen h.outs,h.dr⟩,hY⟩)) (λq B ya yb _ h hY=>?_)
  refine Q1n (c:=c) (δ:=δ) (K0:=(cf,m+1)) (λ_=>True) (RX c) (nX n) (Q2E hY.f h.ok.f rfl (λi hl hlt e hi=>?_)) (λq B ya yb _ h hY=>?_)
  ·rw [e]
   exact Qp (Q7o _ hi) (λr hr=>Q6 ⟨⟨rfl,trivial⟩,h,⟨hY.s,hY.d,hY.e,hY.f.set hl hr,hY.m⟩⟩)
  have hcB:B.Qs=cf:=h.Q14
  obtain ⟨k,hk⟩:∃k:Nat,cf.QB=(k:Int):=⟨cf.QB.toNat,by omega⟩
  have ek:Int.toNat B.Qs.QB - Int.toNat (ofN 0)=k:=by rw [hcB];unfold ofN;omega
  dsimp only
  rw [show (QN c δ B).Qs=B.Qs from rfl,ek]
  refine Q2A (Q2R (by decide) (by rw [hcB];unfold ofN;omega) (by rw [hcB];omega)) ?_
  exact Q1n (c:=c) (δ:=δ) (K0:=(cf,m+1)) (λ_=>True) (RX c) (nX n) (QcF (Qd1 (K:=Q1.Q6A B (Q13.mk 0 false)) q.1 k (by show (k:Int)<=cf.QB;omega) (by omega) ⟨rfl,⟨h.ok.Q14,h.ok.s,h.ok.f,h.ok.all⟩,h.Q14,h.outs,h.dr⟩ hY) (λa b hab=>⟨⟨hab.1.1,trivial⟩,hab.2⟩)) (λq B ya yb _ h hY=>Q6 ⟨⟨rfl,trivial⟩,h,hY⟩)
 ·exact Qp ee (λr _=>Q6 ⟨⟨rfl,trivial⟩,h.port rfl λs=>s.Q2Q,hY⟩)
abbrev RM {Y:Type} (R:Y->Y->Prop) (a b:Q8×Y):Prop:=a.1=b.1/\R a.2 b.2
abbrev nM {Y:Type} (z:Y->Sz) (b:Q8×Y):Sz:=z b.2
theorem Qb1 {c:Cx} {δ:Dl} {n:Sz} {cf:Q9} {m:Nat} {K:Q1} {ya yb:YX} (p:Nat) (x:Q8) (now:Int) (hm:m<=1000) (hp:(p:Int) < cf.QB) (h:KR c δ (nX n yb) (cf,m) (QN c δ K) K) (hY:RX c ya yb):
  Tw (K19 p x now (QN c δ K) ya.1 ya.2.1 ya.2.2.1 ya.2.2.2.1 ya.2.2.2.2.1) (K19 p x now K yb.1 yb.2.1 yb.2.2.1 yb.2.2.2.1 yb.2.2.2.2.1) (λa b=>(a.1=b.1/\True)/\KR c δ (nX n b.2.1.2) (cf,m+1) a.2.1.1 b.2.1.1/\RX c a.2.1.2 b.2.1.2):=by
 unfold K19 K19.gen
 refine Q1n (c:=c) (δ:=δ) (K0:=(cf,m)) (λq=>q.1=p) (RM (RX c)) (nM (nX n)) (Q2E hY.m (h.ok.side _ (by rw [h.Q14];exact hp)).m rfl (λi hl hlt e hi=>?_)) (λq B ya yb hq h ⟨ex,hY⟩=>?_)
 ·rw [e]
  exact Qp ee (λr _=>Q6 ⟨⟨rfl,rfl⟩,h,⟨rfl,hY.s,hY.d,hY.e,hY.f,hY.m.set hl trivial⟩⟩)
 dsimp only
 rw [ex]
 refine Q1n (c:=c) (δ:=δ) (K0:=(cf,m)) (λq=>q.1=p) (RX c) (nX n) (Qu (λ_=>Q2E hY.m (h.ok.side _ (by rw [h.Q14,hq];exact hp)).m rfl (λi hl hlt e hi=>?_)) (λ_=>Q6 ⟨⟨rfl,hq⟩,h,hY⟩)) (λq B ya yb hq h hY=>?_)
 ·rw [e]
  exact Qp ee (λr _=>Q6 ⟨⟨rfl,hq⟩,h,⟨hY.s,hY.d,hY.e,hY.f,hY.m.set hl trivial⟩⟩)
 refine Qu (λ_=>Q6 ⟨⟨rfl,trivial⟩,h.more (Nat.le_succ _),hY⟩) (λ_=>?_)
 refine Q1n (c:=c) (δ:=δ) (K0:=(cf,m)) (λq=>q.1=p) (λ(a b:Q13×YX)=>a.1=b.1/\RX c a.2 b.2) (λb=>nX n b.2) (Qu (λ_=>Q6 ⟨⟨rfl,hq⟩,h.port rfl λs=>s.Q2Q,⟨?_,hY⟩⟩) (λ_=>Q6 ⟨⟨rfl,hq⟩,h.port rfl λs=>s.Q2Q,⟨rfl,hY⟩⟩)) (λq B ya yb hq h ⟨ex,hY⟩=>?_)
 ·show (Qr (QN c δ B).Qf q.1 _ q.1).Q4a=(Qr B.Qf q.1 _ q.1).Q4a
  unfold Qr
  rw [if_pos rfl,if_pos rfl];rfl
 dsimp only
 rw [ex]
 refine Qu (λ_=>?_) (λ_=>Q6 ⟨⟨rfl,trivial⟩,h.more (Nat.le_succ _),hY⟩)
 exact Q5i (λ_=>True) (RX c) (nX n) (Qcb _ _ hm h hY) (λq' B ya2 yb2 _ h2 hA=>Q6 ⟨⟨rfl,trivial⟩,h2,hA⟩)
abbrev Y79:=(Fm Qg)×(Fm Qh)×Unit
abbrev RB (c:Cx) (a b:Y79):Prop:=FR c.d (λ_=>True) a.1 b.1/\FR c.f Q5X a.2.1 b.2.1
abbrev nB (n:Sz) (b:Y79):Sz:={ n with d:=b.1.1,f:=b.2.1.1}
theorem Qec {c:Cx} {δ:Dl} {n:Sz} {K0:Q9×Nat} {K:Q1} {ya yb:Y79} (p:Nat) (x:Q8) (hp:(p:Int) < K0.1.QB) (h:KR c δ (nB n yb) K0 (QN c δ K) K) (hY:RB c ya yb):
  Tw (K13 p x (QN c δ K) ya.1 ya.2.1) (K13 p x K yb.1 yb.2.1) (λa b=>(a.1=b.1/\True)/\KR c δ (nB n b.2.1.2) K0 a.2.1.1 b.2.1.1/\RB c a.2.1.2 b.2.1.2):=by
 unfold K13 K13.gen
 refine Q1n (c:=c) (δ:=δ) (K0:=K0) (λ_=>True) (RB c) (nB n) (Q2E hY.1 (h.ok.side _ (by rw [h.Q14];exact hp)).d rfl (λi hl hlt e hi=>?_)) (λq B ya yb _ h hY=>?_)
 ·rw [e]
  exact Qp ee (λr _=>Q6 ⟨⟨rfl,trivial⟩,h,⟨hY.1.set hl trivial,hY.2⟩⟩)
 refine QL (λa b=>a=b) (Qu (λ_=>Q6 rfl) (λ_=>Q6 rfl)) (λr3 r3' e=>?_)
 subst e
 refine Qu (λ_=>Q6 ⟨⟨rfl,trivial⟩,h,hY⟩) (λ_=>Qp (pof_t _ _) (λr4 h4=>Qu (λ_=>Q6 ⟨⟨rfl,trivial⟩,h,hY⟩) (λhf=>Qp (h4 ?_) (λr5 _=>Q2E hY.2 h.ok.f rfl (λi hl hlt e hi=>?_)))))
 ·cases hx:r4.1.2.1 with
  |true=>rfl
  |false=>rw [hx] at hf;cases hf
 ·rw [e]
  exact Qp (put_t _ _ hi) (λr hr=>Q6 ⟨⟨rfl,trivial⟩,⟨rfl,⟨h.ok.Q14,h.ok.s,h.ok.f,h.ok.all⟩,h.Q14,h.outs,h.dr⟩,⟨hY.1,hY.2.set hl hr⟩⟩)
abbrev Y8:=(Fm Qb)×Unit
abbrev R8 (c:Cx) (a b:Y8):Prop:=FR c.e (λ_=>True) a.1 b.1
abbrev n8 (n:Sz) (b:Y8):Sz:={ n with e:=b.1.1}
theorem Qc9 {c:Cx} {δ:Dl} {n:Sz} {cf:Q9} {m:Nat} {K:Q1} {ya yb:Y8} (i:Int) (x:Q8) (now:Int) (hm:m<=1000) (h1:1<=i) (hi:i<=cf.QB) (h:KR c δ (n8 n yb) (cf,m) (QN c δ K) K) (hY:R8 c ya yb):
  Tw (K16 i x now (QN c δ K) ya.1) (K16 i x now K yb.1) (λa b=>(a.1=b.1/\True)/\KR c δ (n8 n b.2.1.2) (cf,m+1) a.2.1.1 b.2.1.1/\R8 c a.2.1.2 b.2.1.2):=by
 obtain ⟨p1,p8,_⟩:=Q3F h.ok.Q14
 have hc:K.Qs=cf:=h.Q14
 rw [hc] at p1 p8
 have hlt:(((i - 1).toNat:Nat):Int) < cf.QB:=by omega
 unfold K16 K16.gen
 refine Q2M (Q6s _ _) (Q6r K h1 (by omega)) (λr0 e0=>?_)
 rw [e0]
 refine Qu (λ_=>?_) (λ_=>Qu (λ_=>?_) (λ_=>Qu (λ_=>?_) (λ_=>Q6 ⟨⟨rfl,trivial⟩,h.more (Nat.le_succ _),hY⟩)))
 ·refine Q1n (c:=c) (δ:=δ) (K0:=(cf,m)) (λ_=>True) (RM (RM (R8 c))) (nM (nM (n8 n))) (Q2M (Q6o _ _) ee (λr1 _=>Qp ee (λr2 _=>Q6 ⟨⟨rfl,trivial⟩,h,⟨rfl,rfl,hY⟩⟩))) (λq B ya yb _ h ⟨e1,e2,hY⟩=>?_)
  dsimp only
  rw [e1,e2]
  refine Qu (λ_=>?_) (λ_=>Q6 ⟨⟨rfl,trivial⟩,h.more (Nat.le_succ _),hY⟩)
  refine Q1n (c:=c) (δ:=δ) (K0:=(cf,m+1)) (λ_=>True) (RM (R8 c)) (nM (n8 n)) (Q5i (λ_=>True) RU (nU (nM (nM (n8 n)) yb)) (Q6B _ _ _ _ (by omega) h) (λq' B _ _ _ h _=>Q6 ⟨⟨rfl,trivial⟩,h,⟨rfl,hY⟩⟩)) (λq B ya yb _ h ⟨e1,hY⟩=>?_)
  dsimp only
  rw [e1]
  refine Q6 ⟨⟨rfl,trivial⟩,⟨?_,⟨h.ok.Q14,h.ok.s,h.ok.f,λj=>?_⟩,h.Q14,h.outs,h.dr⟩,hY⟩
  ·refine Q5H rfl (Q8p (Q8p (λ_=>rfl) rfl) ?_) rfl rfl rfl rfl rfl rfl rfl rfl
   unfold Qr
   rw [if_pos rfl,if_pos rfl];rfl
  ·show SOq c _ _ (Qr (Qr B.Qf q.1 _) q.1 _ j)
   have hs:=h.ok.all j
   unfold Qr
   by_cases e:j=q.1
   ·subst e
    rw [if_pos rfl,if_pos rfl]
    exact hs.imp (λs=>s.Q2Q) λh=>⟨h.1,h.2.t,h.2.p,h.2.m,h.2.d,h.2.e⟩
   ·rw [if_neg e,if_neg e]
    exact hs
 ·refine Q2E hY (h.ok.side _ (by rw [h.Q14];exact hlt)).e rfl (λi hl hlt e hi=>?_)
  rw [e]
  exact Qp ee (λr _=>Q6 ⟨⟨rfl,trivial⟩,h.more (Nat.le_succ _),hY.set hl trivial⟩)
 ·refine Q1n (c:=c) (δ:=δ) (K0:=(cf,m)) (λ_=>True) (R8 c) (n8 n) (Q2E hY (h.ok.side _ (by rw [h.Q14];exact hlt)).e rfl (λi hl hlt e hi=>?_)) (λq B ya yb _ h hY=>Qu (λ_=>Q6 ⟨⟨rfl,trivial⟩,(h.more (Nat.le_succ _)).port rfl λs=>s.Q2Q,hY⟩) (λ_=>Q6 ⟨⟨rfl,trivial⟩,h.more (Nat.le_succ _),hY⟩))
  rw [e]
  exact Qp ee (λr _=>Q6 ⟨⟨rfl,trivial⟩,h,hY.set hl trivial⟩)
abbrev Y77:=(Fm Qg)×(Fm Qb)×Unit
abbrev R77 (c:Cx) (a b:Y77):Prop:=FR c.d (λ_=>True) a.1 b.1/\FR c.e (λ_=>True) a.2.1 b.2.1
abbrev n77 (n:Sz) (b:Y77):Sz:={ n with d:=b.1.1,e:=b.2.1.1}
theorem QdJ {c:Cx} {δ:Dl} {n:Sz} {cf:Q9} {m:Nat} {K:Q1} {ya yb:Y77} (i typ seq now:Int) (hm:m<=1000) (h1:1<=i) (hi:i<=cf.QB) (h:KR c δ (n77 n yb) (cf,m) (QN c δ K) K) (hY:R77 c ya yb):
  Tw (K31 i typ seq now (QN c δ K) ya.1 ya.2.1) (K31 i typ seq now K yb.1 yb.2.1) (λa b=>(a.1=b.1/\True)/\KR c δ (n77 n b.2.1.2) (cf,m+1) a.2.1.1 b.2.1.1/\R77 c a.2.1.2 b.2.1.2):=by
 obtain ⟨p1,p8,_⟩:=Q3F h.ok.Q14
 have hc:K.Qs=cf:=h.Q14
 rw [hc] at p1 p8
 have hlt:(((i - 1).toNat:Nat):Int) < cf.QB:=by omega
 have no:∀{a b:Unit×(Q1×Y77)×Unit},a=((),(QN c δ K,ya),())->b=((),(K,yb),())->(a.1=b.1/\True)/\KR c δ (n77 n b.2.1.2) (cf,m+1) a.2.1.1 b.2.1.1/\R77 c a.2.1.2 b.2.1.2:=λe1 e2=>by subst e1 e2;exact ⟨⟨rfl,trivial⟩,h.more (Nat.le_succ _),hY⟩
 unfold K31 K31.gen
 refine Q2M (Q6s _ _) (Q6r K h1 (by omega)) (λr0 e0=>?_)
 rw [e0]
 refine Qu (λ_=>?_) (λ_=>Qu (λ_=>?_) (λ_=>Qu (λ_=>?_) (λ_=>Qu (λ_=>?_) (λ_=>Q6 (no rfl rfl)))))
 ·refine QL (λa b=>a=b) (Qu (λ_=>Q6 rfl) (λ_=>Q6 rfl)) (λr1 r1' e=>?_)
  subst e
  exact Qu (λ_=>Q2M (Q6o _ _) ee (λr2 _=>Q5i (λ_=>True) RU (nU (n77 n yb)) (Q6B _ _ _ _ (by omega) h) (λq' B _ _ _ h _=>Q6 ⟨⟨rfl,trivial⟩,h,hY⟩))) (λ_=>Q6 (no rfl rfl))
 ·refine Q2E hY.1 (h.ok.side _ (by rw [h.Q14];exact hlt)).d rfl (λi hl hlt e hi=>?_)
  rw [e]
  exact Qp ee (λr _=>Q6 ⟨⟨rfl,trivial⟩,h.more (Nat.le_succ _),⟨hY.1.set hl trivial,hY.2⟩⟩)
 ·refine Q2E hY.2 (h.ok.side _ (by rw [h.Q14];exact hlt)).e rfl (λi hl hlt e hi=>?_)
  rw [e]
  exact Qp ee (λr _=>Q6 ⟨⟨rfl,trivial⟩,h.more (Nat.le_succ _),⟨hY.1,hY.2.set hl trivial⟩⟩)
 ·refine QL (λa b=>a=b) (Qu (λ_=>Q6 rfl) (λ_=>Q6 rfl)) (λr1 r1' e=>?_)
  subst e
  refine Qu (λ_=>?_) (λ_=>Q6 (no rfl rfl))
  refine Q1n (c:=c) (δ:=δ) (K0:=(cf,m)) (λ_=>True) (RM (R77 c)) (nM (n77 n)) (Q2M (Q6o _ _) ee (λr9 _=>Qp ee (λr10 _=>Q6 ⟨⟨rfl,trivial⟩,h,⟨rfl,hY⟩⟩))) (λq B ya yb _ h ⟨e1,hY⟩=>?_)
  dsimp only
  rw [e1]
  exact Q5i (λ_=>True) RU (nU (nM (n77 n) yb)) (Q6B _ _ _ _ (by omega) h) (λq' B _ _ _ h _=>Q6 ⟨⟨rfl,trivial⟩,h,hY⟩)
abbrev YU:=(Fm Qe)×(Fm Qg)×(Fm Qb)×(Fm Qz)×(Nat×(Nat->List (Qd×List Int)))×Unit
structure RU' (c:Cx) (a b:YU):Prop where
 t:FR c.t Q2D a.1 b.1
 d:FR c.d (λ_=>True) a.2.1 b.2.1
 e:FR c.e (λ_=>True) a.2.2.1 b.2.2.1
 m:FR c.m (λ_=>True) a.2.2.2.1 b.2.2.2.1
 p:FR c.p Q3z a.2.2.2.2.1 b.2.2.2.2.1
abbrev nU' (n:Sz) (b:YU):Sz:={ n with t:=b.1.1,d:=b.2.1.1,e:=b.2.2.1.1,m:=b.2.2.2.1.1,p:=b.2.2.2.2.1.1}
theorem Qbp {c:Cx} {δ:Dl} (n:Int) (K:Q1):K25 n (QN c δ K)=K25 n K:=rfl
theorem Qb4 {c:Cx} {δ:Dl} {n:Sz} {K0:Q9×Nat} {K:Q1} {ya yb:YU} (i ev:Int) (h:KR c δ (nU' n yb) K0 (QN c δ K) K) (hY:RU' c ya yb):
  Tw (K35 i ev (QN c δ K) ya.1 ya.2.1 ya.2.2.1 ya.2.2.2.1 ya.2.2.2.2.1) (K35 i ev K yb.1 yb.2.1 yb.2.2.1 yb.2.2.2.1 yb.2.2.2.2.1) (λa b=>(a.1=b.1/\True)/\KR c δ (nU' n b.2.1.2) K0 a.2.1.1 b.2.1.1/\RU' c a.2.1.2 b.2.1.2):=by
 obtain ⟨p1,p8,_⟩:=Q3F h.ok.Q14
 have hc:K.Qs=K0.1:=h.Q14
 unfold K35 K35.gen
 refine Q2M (Qbp _ _) (Q7S _ _) (λr0 h0=>Qu (λ_=>Q6 ⟨⟨rfl,trivial⟩,h,hY⟩) (λhf=>?_))
 obtain ⟨i1,i2⟩:=h0 hf
 have hlt:(((i - 1).toNat:Nat):Int) < K0.1.QB:=by rw [←hc];omega
 refine Q2M (Q6s _ _) (Q6r K i1 (by omega)) (λr1 e1=>?_)
 rw [e1]
 refine Q1n (c:=c) (δ:=δ) (K0:=K0) (λq=>q.1=(i - 1).toNat) (RU' c) (nU' n) (Qp ee (λ_ _=>Q6 ⟨⟨rfl,rfl⟩,h.port rfl λs=>s.Q2Q,hY⟩)) (λq B ya yb hq h hY=>?_)
 refine Qu (λ_=>Q6 ⟨⟨rfl,trivial⟩,h,hY⟩) (λ_=>?_)
 refine Q1n (c:=c) (δ:=δ) (K0:=K0) (λq=>q.1=(i - 1).toNat) (RU' c) (nU' n) ?_ (λq B ya yb hq h hY=>?_)
 ·refine QL _ (Q9J (ya:=(ya.1,ya.2.2.2.2.1,())) (yb:=(yb.1,yb.2.2.2.2.1,())) (n:=nU' n yb) (h.ok.side _ (by rw [h.Q14];show ((q.1:Nat):Int) < _;rw [hq];exact hlt)) ⟨hY.t,hY.p⟩) (λa b ⟨hS,hY',e6,e12,_⟩=>Q6 ⟨⟨rfl,hq⟩,?_,⟨hY'.1,hY.d,hY.e,hY.m,hY'.2⟩⟩)
  exact h.QaY (n:=nU' n yb) (ya:=(yb.1,yb.2.2.2.2.1,())) e6 e12 hS
 refine Q1n (c:=c) (δ:=δ) (K0:=K0) (λq=>q.1=(i - 1).toNat) (RU' c) (nU' n) ?_ (λq B ya yb hq h hY=>?_)
 ·refine QL _ (Qad (n:=nU' n yb) _ (h.ok.side _ (by rw [h.Q14];show ((q.1:Nat):Int) < _;rw [hq];exact hlt)) rfl rfl hY.d hY.m) (λa b ⟨hS,k7,k10,z7,z10,_⟩=>Q6 ⟨⟨rfl,hq⟩,?_,⟨hY.t,k7,hY.e,k10,hY.p⟩⟩)
  have e:nU' n (yb.1,b.2.1.2.1,yb.2.2.1,b.2.1.2.2.1,yb.2.2.2.2)=nU' n yb:=by
   unfold nU'
   dsimp only
   rw [z7,z10]
  show KR c δ (nU' n (yb.1,b.2.1.2.1,yb.2.2.1,b.2.1.2.2.1,yb.2.2.2.2)) _ _ _
  rw [e]
  exact h.QaA hS.eq hS.ok
 refine Q1n (c:=c) (δ:=δ) (K0:=K0) (λq=>q.1=(i - 1).toNat) (RU' c) (nU' n) (Q2E hY.e (h.ok.side _ (by rw [h.Q14];show ((q.1:Nat):Int) < _;rw [hq];exact hlt)).e rfl (λi hl hlt e hi=>?_)) (λq B ya yb hq h hY=>?_)
 ·rw [e]
  exact Qp ee (λr _=>Q6 ⟨⟨rfl,hq⟩,h,⟨hY.t,hY.d,hY.e.set hl trivial,hY.m,hY.p⟩⟩)
 refine Qp ee (λr11 _=>Qu (λ_=>Qp ee (λr12 _=>?_)) (λ_=>Q6 ⟨⟨rfl,trivial⟩,h.port rfl λs=>s.Q2Q,hY⟩))
 have h2:=h.port (i:=q.1) (y1:=Q5.Q4Z ((QN c δ B).Qf q.1) (Q13.mk 0 false)) (y2:=Q5.Q4Z (B.Qf q.1) (Q13.mk 0 false)) rfl λs=>s.Q2Q
 refine Q6 ⟨⟨rfl,trivial⟩,⟨?_,⟨h2.ok.Q14,h2.ok.s,h2.ok.f,h2.ok.all⟩,h2.Q14,h2.outs,h2.dr⟩,hY⟩
 show Q1.Q48 (Q1.QT (QN c δ B) _) r12.1.1=QN c δ (Q1.Q48 (Q1.QT B _) r12.1.1)
 rw [show ∀(A C:Q1) (v:QX),A=QN c δ C->Q1.Q48 A v=QN c δ (Q1.Q48 C v) from λA C v e=>by rw [e];rfl]
 exact h2.eq
abbrev PN {α:Type} (c:Rn α) (Inv:α->Prop) (g':Fm α) (a b:(Option Nat×Unit)×((Fm α)×Unit)×Unit):Prop:=a.1.1=b.1.1.map c.ρ/\Pt c b.2.1.1.1 b.1.1/\g'.1<=b.2.1.1.1/\FR c Inv a.2.1.1 b.2.1.1
theorem Q8a {α:Type} {c:Rn α} {Inv:α->Prop} {g g':Fm α} (h:FR c Inv g g') {v:α} (hv:Inv v):
  Tw (some (((some g.1,()),((g.1+1,Qr g.2 g.1 v),()),()):(Option Nat×Unit)×((Fm α)×Unit)×Unit)) (some (((some g'.1,()),((g'.1+1,Qr g'.2 g'.1 v),()),()):(Option Nat×Unit)×((Fm α)×Unit)×Unit)) (PN c Inv g'):=by
 obtain ⟨hl,hr⟩:=h.fresh
 exact Q6 ⟨by show some g.1=some (c.ρ g'.1);rw [hr],⟨g'.1,rfl,hl,Nat.lt_succ_self _⟩,Nat.le_succ _,h.new hv⟩
theorem QdF {c:Rn Qe} {g g':Fm Qe} (h:FR c Q2D g g') (o p w:Int):Tw (K61 o p w g) (K61 o p w g') (PN c Q2D g'):=by
 unfold K61 K61.gen
 exact Q8a h ⟨Int.le_refl 0,by show (0:Int)<=5;decide⟩
theorem Qe8 {c:Rn Qz} {g g':Fm Qz} (h:FR c (λ_=>True) g g'):Tw (Q2L g) (Q2L g') (PN c (λ_=>True) g'):=by
 unfold Q2L Q2L.gen
 exact Q8a h trivial
theorem Qef {c:Rn Qg} {g g':Fm Qg} (h:FR c (λ_=>True) g g') (s:Qd) (d:Int):Tw (K60 s d g) (K60 s d g') (PN c (λ_=>True) g'):=by
 unfold K60 K60.gen
 exact Q8a h trivial
theorem Qdu {c:Rn Qb} {g g':Fm Qb} (h:FR c (λ_=>True) g g') (s:Qd) (d:Int):Tw (Q2X s d g) (Q2X s d g') (PN c (λ_=>True) g'):=by
 unfold Q2X Q2X.gen
 exact Q8a h trivial
theorem Qem {c:Rn Qo} {g g':Fm Qo} (h:FR c (λ_=>True) g g') (a b d:Int):Tw (Q3o a b d g) (Q3o a b d g') (PN c (λ_=>True) g'):=by
 unfold Q3o Q3o.gen
 exact Q8a h trivial
theorem Qeb {c:Rn Qh} {g g':Fm Qh} (h:FR c Q5X g g') (n:Int):Tw (K95 n g) (K95 n g') (PN c Q5X g'):=by
 have hc:1<=Z4 true 1 (Z4 false n 15)/\Z4 true 1 (Z4 false n 15)<=15:=by
  simp only [Z4,cond_true,cond_false,Q9e,imax]
  split <;> split <;> omega
 unfold K95 K95.gen
 exact Q8a h ⟨Int.le_refl 0,Int.le_trans (show (0:Int)<=1 by decide) hc.1,hc.1,hc.2⟩
structure SzLe (a b:Sz):Prop where
 s:a.s<=b.s
 t:a.t<=b.t
 d:a.d<=b.d
 e:a.e<=b.e
 f:a.f<=b.f
 m:a.m<=b.m
 p:a.p<=b.p
theorem SOq.le {c:Cx} {n k:Sz} {q:Prop} {x:Q5} (h:SOq c n q x) (hk:SzLe n k):SOq c k q x:=h.imp (λh=>⟨h.t.mono hk.t,h.p.mono hk.p,h.m.mono hk.m,h.d.mono hk.d,h.e.mono hk.e⟩) λh=>h
abbrev YF:=(Fm Qo)×YT
structure RF (c:Cx) (a b:YF):Prop where
 s:FR c.s (λ_=>True) a.1 b.1
 r:RT c a.2 b.2
abbrev nF (b:YF):Sz:=nT b.1.1 b.2
structure Q9I (c:Cx) (n:Sz) (j:Int) (cf:Q9) (m:Nat) (A B:Q1):Prop where
 eq:A=QN c D0 B
 Q14:B.Qs=cf
 s:Pt c.s n.s B.Q7i
 f:Pt c.f n.f B.Q6I
 side:∀i:Nat,SOq c n ((i:Int) < j) (B.Qf i)
 outs:B.Q2p.length<=m
 QaL:B.Q1k=0
theorem QbY {c:Cx} {cf:Q9} {m:Nat} {K:Q1} {ya yb:YF} (hcf:Q40 cf) (h:Q9I c (nF yb) 0 cf m (QN c D0 K) K) (hY:RF c ya yb):
  Tw (K15.F0 ((1,()),QN c D0 K,cf,ya)) (K15.F0 ((1,()),K,cf,yb)) (λa b=>(a.1=b.1/\True)/\KR c D0 (nF b.2.2) (cf,m) a.2.1 b.2.1/\RF c a.2.2 b.2.2/\b.2.1.Q1k=0):=by
 obtain ⟨p1,p8,_⟩:=Q3F hcf
 unfold K15.F0
 refine Q4p (λa b=>a.1=b.1/\1<=b.1.1/\b.1.1<=cf.QB+1/\Q9I c (nF b.2.2.2) (b.1.1 - 1) cf m a.2.1 b.2.1/\a.2.2.1=cf/\b.2.2.1=cf/\RF c a.2.2.2 b.2.2.2) (λb=>(cf.QB+1 - b.1.1).toNat) (λa b ⟨e1,e2,e3,hK,e4,e5,hR⟩=>?_) _ _ _ ⟨rfl,Int.le_refl 1,by show 1<=cf.QB+1;omega,h,rfl,rfl,hY⟩ (by simp only [];omega)
 unfold K15.QU
 obtain ⟨a1,aK,ac,ay⟩:=a
 obtain ⟨⟨bi,_⟩,bK,bc,by'⟩:=b
 dsimp only at e1 e2 e3 hK e4 e5 hR
 have e6:=hK.eq
 subst e1 e4 e5 e6
 dsimp only
 refine Qu (λhh=>?_) (λhh=>?_)
 ·have hh:=Q5s hh
  refine QL (λa b=>a.1=(bi,())/\b.1=(bi,())/\a.2.1=QN c D0 bK/\b.2.1=bK/\a.2.2.1=bc/\b.2.2.1=bc/\a.2.2.2.1=b.2.2.2.1/\a.2.2.2.2=ay/\b.2.2.2.2=by') (Q2M (Q6o _ _) ee (λr0 _=>Q6 ⟨rfl,rfl,rfl,rfl,rfl,rfl,rfl,rfl,rfl⟩)) (λa b ⟨z1,z2,z3,z4,z5,z6,z7,z8,z9⟩=>?_)
  rw [z1,z2,z3,z4,z5,z6,z7,z8,z9]
  refine QL (λa b=>a.1=(bi,())/\b.1=(bi,())/\Q9I c (nF b.2.2.2) bi bc m a.2.1 b.2.1/\a.2.2.1=bc/\b.2.2.1=bc/\RF c a.2.2.2 b.2.2.2) ?_ (λa b ⟨x1,x2,x3,x4,x5,x6⟩=>?_)
  ·refine Q2M (Q6s _ _) (Q6r bK e2 (by omega)) (λr2 e2'=>?_)
   rw [e2']
   refine Q2M (Q9y _) (Q8S _) (λr3 _=>?_)
   refine QL _ (QdF hR.r.t _ _ _) (λt1 t2 ⟨t3,t4,t5,t6⟩=>?_)
   refine QL _ (Qe8 hR.r.m) (λm1 m2 ⟨m3,m4,m5,m6⟩=>?_)
   refine QL _ (Qef hR.r.d _ _) (λd1 d2 ⟨d3,d4,d5,d6⟩=>?_)
   refine QL _ (Qdu hR.r.e _ _) (λq1 q2 ⟨q3,q4,q5,q6⟩=>?_)
   obtain ⟨fl,fr⟩:=hR.r.p.fresh
   have hle:SzLe (nF by') (nF (by'.1,t2.2.1.1,d2.2.1.1,q2.2.1.1,by'.2.2.2.2.1,m2.2.1.1,(by'.2.2.2.2.2.2.1.1+1,Qr by'.2.2.2.2.2.2.1.2 by'.2.2.2.2.2.2.1.1 []),())):=⟨Nat.le_refl _,t5,d5,q5,Nat.le_refl _,m5,Nat.le_succ _⟩
   refine Q6 ⟨rfl,rfl,⟨?_,hK.Q14,hK.s.mono hle.s,hK.f.mono hle.f,λj=>?_,hK.outs,hK.QaL⟩,rfl,rfl,⟨hR.s,⟨t6,d6,q6,hR.r.f,m6,hR.r.p.new Q3z.nil⟩⟩⟩
   ·refine Q7B ?_
    unfold Q3H
    rw [t3,m3,d3,q3,←fr]
    rfl
   ·show SOq c _ _ (Qr bK.Qf (bi - 1).toNat _ j)
    unfold Qr
    by_cases ej:j=(bi - 1).toNat
    ·rw [if_pos ej]
     exact .inl ⟨t4,⟨_,rfl,fl,Nat.lt_succ_self _⟩,m4,d4,q4⟩
    ·rw [if_neg ej]
     exact ((hK.side j).le hle).imp (λh=>h) λh=>⟨by omega,h.2⟩
  ·rw [x1,x2]
   dsimp only
   rw [Q1i (by omega)]
   refine Q6 ⟨⟨rfl,?_,?_,?_,x4,x5,x6⟩,?_⟩
   ·show 1<=bi+1;omega
   ·show bi+1<=bc.QB+1;omega
   ·show Q9I c (nF b.2.2.2) (bi+1 - 1) bc m a.2.1 b.2.1
    rw [show bi+1 - 1=bi by omega];exact x3
   ·show (bc.QB+1 - (bi+1)).toNat < (bc.QB+1 - bi).toNat;omega
 ·have hh:=ile_f hh
  refine Q6 ⟨⟨rfl,trivial⟩,⟨rfl,⟨by rw [hK.Q14];exact hcf,hK.s,hK.f,λi=>(hK.side i).imp (λh=>h) λh=>⟨?_,h.2⟩⟩,hK.Q14,hK.outs,hK.QaL⟩,hR,hK.QaL⟩
  have hn:=h.1
  show ¬(i:Int) < bK.Qs.QB
  rw [hK.Q14]
  omega
theorem Q95 {c:Cx} {cf:Q9} {m:Nat} {A B:Q1} {ya yb:YF} (hcf:Q40 cf) (ho:A.Q2p=B.Q2p) (hm:B.Q2p.length<=m) (hY:RF c ya yb):
  Tw (K15 cf A ya.1 ya.2.1 ya.2.2.1 ya.2.2.2.1 ya.2.2.2.2.1 ya.2.2.2.2.2.1 ya.2.2.2.2.2.2.1) (K15 cf B yb.1 yb.2.1 yb.2.2.1 yb.2.2.2.1 yb.2.2.2.2.1 yb.2.2.2.2.2.1 yb.2.2.2.2.2.2.1) (λa b=>(a.1=b.1/\b.2.1.1.Q1k=0)/\KR c D0 (nF b.2.1.2) (cf,m) a.2.1.1 b.2.1.1/\RF c a.2.1.2 b.2.1.2):=by
 have zer:∀l:List Q5,(∀x∈l,x=Q5.zero)->∀j,l.getD j Q5.zero=Q5.zero:=λl hl j=>by
  by_cases h:j < l.length
  ·exact hl _ (Q6T h)
  ·exact Qc0 h
 have z8:∀x∈(Q5.zero::Q5.zero::Q5.zero::Q5.zero::Q5.zero::Q5.zero::Q5.zero::Q5.zero::Qm Q5),x=Q5.zero:=λx hx=>by
  simp only [Qm,List.mem_cons,List.not_mem_nil,or_false,or_self] at hx
  exact hx
 have hzn:∀j,NoP (List.getD (Q5.zero::Q5.zero::Q5.zero::Q5.zero::Q5.zero::Q5.zero::Q5.zero::Q5.zero::Qm Q5) j Q5.zero):=λj=>by
  rw [zer _ z8 j]
  exact ⟨rfl,rfl,rfl,rfl,rfl⟩
 unfold K15 K15.gen
 refine QL (λa b=>Q9I c (nF b.2.2.2) 0 cf m a.2.1 b.2.1/\a.2.2.1=cf/\b.2.2.1=cf/\RF c a.2.2.2 b.2.2.2) (Qp ee (λr0 _=>QL _ (Qem hY.s _ _ _) (λs1 s2 ⟨s3,s4,s5,s6⟩=>QL _ (Qeb hY.r.f _) (λf1 f2 ⟨f3,f4,f5,f6⟩=>Q6 ⟨⟨?_,rfl,s4,f4,λi=>.inr ⟨by omega,hzn i⟩,hm,rfl⟩,rfl,rfl,⟨s6,hY.r.t,hY.r.d,hY.r.e,f6,hY.r.m,hY.r.p⟩⟩)))) (λa b ⟨hK,e1,e2,hR⟩=>?_)
 ·have hz:∀j,List.getD (Q5.zero::Q5.zero::Q5.zero::Q5.zero::Q5.zero::Q5.zero::Q5.zero::Q5.zero::Qm Q5) j Q5.zero=Q3H c (List.getD (Q5.zero::Q5.zero::Q5.zero::Q5.zero::Q5.zero::Q5.zero::Q5.zero::Q5.zero::Qm Q5) j Q5.zero):=λj=>by
   rw [zer _ z8 j]
   rfl
  exact Q5H rfl hz rfl rfl s3 f3 rfl rfl rfl ho
 ·obtain ⟨au,aK,ac,ay⟩:=a
  obtain ⟨bu,bK,bc,by'⟩:=b
  dsimp only at hK e1 e2 hR
  have e3:=hK.eq
  subst e1 e2 e3
  exact QL _ (QbY hcf hK hR) (λa b ⟨z1,z2,z3,z4⟩=>Q6 ⟨⟨rfl,z4⟩,z2,z3⟩)
theorem KR.setc {c:Cx} {δ:Dl} {n:Sz} {cf cf':Q9} {m:Nat} {K:Q1} (h:KR c δ n (cf,m) (QN c δ K) K) (hc:Q40 cf') (hs:Q2w cf cf'):KR c δ n (cf',m) (Q1.Q7T (QN c δ K) cf') (Q1.Q7T K cf'):=by
 refine ⟨rfl,⟨hc,h.ok.s,h.ok.f,λi=>(h.ok.all i).imp (λh=>h) λh2=>⟨?_,h2.2⟩⟩,rfl,h.outs,h.dr⟩
 have h3:=h2.1
 have hc:K.Qs=cf:=h.Q14
 show ¬(i:Int) < cf'.QB
 rw [hs.Q3D,←hc]
 exact h3
theorem Qc7 {c:Cx} {δ:Dl} {n:Sz} {cf:Q9} {m:Nat} {K:Q1} (i j:Int) (x:Q8) (id:Int) (d:ByteArray) (now:Int) (hm:m<=1000) (hd:d.size<=400) (h1:1<=j) (hj:j<=cf.QB) (h:KR c δ n (cf,m) (QN c δ K) K):
  Tw (K12 i j x id d now (QN c δ K)) (K12 i j x id d now K) (λa b=>a.1=b.1/\∃cf',Q40 cf'/\Q2w cf cf'/\KR c δ n (cf',m+1) a.2.1.1 b.2.1.1):=by
 obtain ⟨p1,p8,_⟩:=Q3F h.ok.Q14
 have hc:K.Qs=cf:=h.Q14
 rw [hc] at p1 p8
 have hck:Q40 cf:=by rw [←hc];exact h.ok.Q14
 unfold K12 K12.gen
 refine Q2M (Q6s _ _) (Q6r K h1 (by omega)) (λr0 e0=>?_)
 rw [e0]
 refine Q1n (c:=c) (δ:=δ) (K0:=(cf,m)) (λq=>q.2.2.1.size<=400) (λa b=>a=b/\Q40 b.2.1/\Q2w cf b.2.1) (λ_=>n) (Qp (QdU _ _ _ _ (by show Q40 K.Qs;exact h.ok.Q14) hd) (λr1 ⟨r2,r3,r4,_⟩=>Q6 ⟨⟨rfl,r2⟩,h,⟨rfl,r3,by have r4:Q2w K.Qs r1.1.2.1:=r4;rw [hc] at r4;exact r4⟩⟩)) (λq B ya yb hq h ⟨e,hk,hs⟩=>?_)
 subst e
 refine Q1n (c:=c) (δ:=δ) (K0:=(cf,m)) (λq=>q.2.2.1.size<=400) (λa b=>a=b/\Q40 b.2.1/\Q2w cf b.2.1) (λ_=>n) (Q2M (Q6o _ _) ee (λr3 _=>Q6 ⟨⟨rfl,hq⟩,h,⟨rfl,hk,hs⟩⟩)) (λq B ya yb hq h ⟨e,hk,hs⟩=>?_)
 subst e
 refine Q1n (c:=c) (δ:=δ) (K0:=(cf,m)) (λq=>q.2.2.1.size<=400) (λa b=>a=b/\Q40 b.2.1/\Q2w cf b.2.1) (λ_=>n) (Qp (Qdi _ _) (λr5 _=>Q6 ⟨⟨rfl,hq⟩,h,⟨rfl,hk,hs⟩⟩)) (λq B ya yb hq h ⟨e,hk,hs⟩=>?_)
 subst e
 refine QL (λa b=>a.1=b.1/\a.2.2=b.2.2/\∃cf',Q40 cf'/\Q2w cf cf'/\KR c δ n (cf',m) a.2.1 b.2.1) (Qu (λ_=>?_) (λ_=>Q6 ⟨rfl,rfl,cf,hck,Q2w.rfl' _,h⟩)) (λa b ⟨e1,e2,cf',hk',hs',h'⟩=>?_)
 ·refine QL (λa b=>a.1=b.1/\a.2.2=b.2.2/\∃cf',Q40 cf'/\Q2w cf cf'/\KR c δ n (cf',m) a.2.1 b.2.1) (Qp (QdH _ _ hq) (λr7 _=>Q6 ⟨rfl,rfl,_,hk,hs,h.setc hk hs⟩)) (λa b ⟨e1,e2,z⟩=>?_)
  rw [e1,e2]
  exact Qu (λ_=>Q6 ⟨rfl,rfl,z⟩) (λ_=>Q6 ⟨rfl,rfl,z⟩)
 ·have e3:=h'.eq
  rw [e3] at h'
  rw [e1,e2,e3]
  refine QL (λa b=>a.1=b.1/\KR c δ n (cf',m+1) a.2.1 b.2.1) (Q5i (λ_=>True) RU (nU n) (Q6B _ _ _ _ (by omega) h') (λq' B _ _ _ h2 _=>Q6 ⟨rfl,h2⟩)) (λa b ⟨z1,z2⟩=>?_)
  rw [z1]
  exact Q6 ⟨rfl,cf',hk',hs',z2⟩
theorem QcP {c:Cx} {δ:Dl} {cf:Q9} {m:Nat} {K:Q1} {ya yb:YF} (i:Int) (l:List Qi) (now id:Int) (d:ByteArray) (x z:Q8) (hm:m<=1000) (h:KR c δ (nF yb) (cf,m) (QN c δ K) K) (hY:RF c ya yb):
  Tw (K23.F0 ((i,l,now,id,d,1,()),QN c δ K,x,z,ya)) (K23.F0 ((i,l,now,id,d,1,()),K,x,z,yb)) (λa b=>(a.1=b.1/\b.1=(i,now,id,d,()))/\KR c δ (nF b.2.2.2) (cf,m+8) a.2.1 b.2.1/\(a.2.2.1=x/\b.2.2.1=x/\RF c a.2.2.2 b.2.2.2)):=by
 obtain ⟨p1,p8,_⟩:=Q3F h.ok.Q14
 have hc:K.Qs=cf:=h.Q14
 rw [hc] at p1 p8
 unfold K23.F0
 refine Q4p (λa b=>a.1=b.1/\b.1=(i,l,now,id,d,b.1.2.2.2.2.2.1,())/\1<=b.1.2.2.2.2.2.1/\b.1.2.2.2.2.2.1<=cf.QB+1/\KR c δ (nF b.2.2.2.2) (cf,m+(b.1.2.2.2.2.2.1 - 1).toNat) a.2.1 b.2.1/\a.2.2.1=x/\b.2.2.1=x/\a.2.2.2.1=z/\b.2.2.2.1=z/\RF c a.2.2.2.2 b.2.2.2.2) (λb=>(cf.QB+1 - b.1.2.2.2.2.2.1).toNat) (λa b ⟨e1,e2,e3,e4,hK,e5,e6,e7,e8,hR⟩=>?_) _ _ _ ⟨rfl,rfl,Int.le_refl 1,by show 1<=cf.QB+1;omega,h.more (Nat.le_add_right _ _),rfl,rfl,rfl,rfl,hY⟩ (by simp only [];omega)
 unfold K23.QU
 obtain ⟨a1,aK,ax,az,ay⟩:=a
 obtain ⟨⟨bi,bl,bn,bid,bd,bk,_⟩,bK,bx,bz,by'⟩:=b
 dsimp only at e1 e2 e3 e4 hK e5 e6 e7 e8 hR
 have e9:=hK.eq
 subst e1 e5 e6 e7 e8 e9
 cases e2
 dsimp only
 have hc:bK.Qs=cf:=hK.Q14
 refine Qu (λhh=>?_) (λhh=>Q6 ⟨⟨rfl,rfl⟩,hK.more (by omega),rfl,rfl,hR⟩)
 have hh:=Q5s hh
 rw [show (QN c δ bK).Qs=bK.Qs from rfl,hc] at hh
 refine QL (λa b=>a=b) (Qu (λ_=>?_) (λ_=>Q6 rfl)) (λr2 r2' e=>?_)
 ·exact Q2M (show K9 bk (QN c δ bK)=K9 bk bK from rfl) (Qab _ _ hK.ok.Q14) (λr0 _=>Qp ee (λr1 _=>Q6 rfl))
 subst e
 refine Q1n (c:=c) (δ:=δ) (K0:=(cf,m+(bk - 1).toNat+1)) (λq=>q=(i,l,now,id,d,bk,())) (λ(a b:Q8×Q8×YF)=>a.1=bx/\b.1=bx/\a.2.1=bz/\b.2.1=bz/\RF c a.2.2 b.2.2) (λb=>nF b.2.2) (Qu (λ_=>Q5i (λ_=>True) RU (nU (nF by')) (Q6B _ _ _ _ (by omega) hK) (λq' B _ _ _ h2 _=>Q6 ⟨⟨rfl,rfl⟩,h2,rfl,rfl,rfl,rfl,hR⟩)) (λ_=>Q6 ⟨⟨rfl,rfl⟩,hK.more (Nat.le_succ _),rfl,rfl,rfl,rfl,hR⟩)) (λq B ya yb hq hK ⟨f1,f2,f3,f4,hR⟩=>?_)
 subst hq
 dsimp only
 rw [Q1i (by omega)]
 refine Q6 ⟨⟨rfl,rfl,?_,?_,hK.more ?_,f1,f2,f3,f4,hR⟩,?_⟩
 ·show 1<=bk+1;omega
 ·show bk+1<=cf.QB+1;omega
 ·show m+(bk - 1).toNat+1<=m+(bk+1 - 1).toNat;omega
 ·show (cf.QB+1 - (bk+1)).toNat < (cf.QB+1 - bk).toNat;omega
def MK (c:Cx) (δ:Dl) (cf:Q9) (m:Nat) (x:Q8) (a b:Q1×Q8×YF):Prop:=∃cf',Q2w cf cf'/\KR c δ (nF b.2.2) (cf',m) a.1 b.1/\a.2.1=x/\b.2.1=x/\RF c a.2.2 b.2.2
theorem Qac {c:Cx} {δ:Dl} {cf:Q9} {m:Nat} {x:Q8} {Z:Type} {q:Z} {B:Q1} {ya yb:Q8×YF} (j ev:Int) (h:MK c δ cf m x (QN c δ B,ya) (B,yb)) (P:Z->Prop) (hq:P q)
  {k:Unit×(Q1×YU)×Unit->Q1×Q8×YF} {k':Unit×(Q1×YU)×Unit->Q1×Q8×YF}
  (hk:∀a,k a=(a.2.1.1,ya.1,ya.2.1,a.2.1.2.1,a.2.1.2.2.1,a.2.1.2.2.2.1,ya.2.2.2.2.2.1,a.2.1.2.2.2.2)) (hk':∀a,k' a=(a.2.1.1,yb.1,yb.2.1,a.2.1.2.1,a.2.1.2.2.1,a.2.1.2.2.2.1,yb.2.2.2.2.2.1,a.2.1.2.2.2.2)):
  Tw (Q0 (K35 j ev (QN c δ B) ya.2.2.1 ya.2.2.2.1 ya.2.2.2.2.1 ya.2.2.2.2.2.2.1 ya.2.2.2.2.2.2.2.1) none λr=>some (q,k r)) (Q0 (K35 j ev B yb.2.2.1 yb.2.2.2.1 yb.2.2.2.2.1 yb.2.2.2.2.2.2.1 yb.2.2.2.2.2.2.2.1) none λr=>some (q,k' r)) (λa b=>(a.1=b.1/\P b.1)/\MK c δ cf m x a.2 b.2):=by
 obtain ⟨cf',hs,hK,e1,e2,hR⟩:=h
 refine QL _ (Qb4 (n:=nF yb.2) (ya:=(ya.2.2.1,ya.2.2.2.1,ya.2.2.2.2.1,ya.2.2.2.2.2.2.1,ya.2.2.2.2.2.2.2.1,())) (yb:=(yb.2.2.1,yb.2.2.2.1,yb.2.2.2.2.1,yb.2.2.2.2.2.2.1,yb.2.2.2.2.2.2.2.1,())) j ev hK ⟨hR.r.t,hR.r.d,hR.r.e,hR.r.m,hR.r.p⟩) (λa b ⟨_,hK,hY⟩=>?_)
 refine Q6 ⟨⟨rfl,hq⟩,cf',hs,?_,?_,?_,?_⟩
 ·rw [hk,hk'];exact hK
 ·rw [hk];exact e1
 ·rw [hk'];exact e2
 ·rw [hk,hk'];exact ⟨hR.s,⟨hY.t,hY.d,hY.e,hR.r.f,hY.m,hY.p⟩⟩
theorem QcO {c:Cx} {δ:Dl} {cf:Q9} {m:Nat} {K:Q1} {ya yb:YF} (i now id:Int) (d:ByteArray) (x:Q8) (l:List Int) (hd:d.size<=400) (hl:l.length<=8) (hl2:∀n∈l,1<=n/\n<=cf.QB) (hm:m<=900) (h:KR c δ (nF yb) (cf,m) (QN c δ K) K) (hY:RF c ya yb):
  Tw (K23.F1 ((i,now,id,d,false,l,ofN l.length,0,()),QN c δ K,x,ya)) (K23.F1 ((i,now,id,d,false,l,ofN l.length,0,()),K,x,yb)) (λa b=>a.1=b.1/\∃cf',Q2w cf cf'/\KR c δ (nF b.2.2) (cf',m+8) a.2.1 b.2.1/\RF c a.2.2 b.2.2):=by
 unfold K23.F1
 refine Q4p (λa b=>a.1=b.1/\b.1=(i,now,id,d,b.1.2.2.2.2.1,l,(l.length:Int),b.1.2.2.2.2.2.2.2.1,())/\0<=b.1.2.2.2.2.2.2.2.1/\b.1.2.2.2.2.2.2.2.1<=(l.length:Int)/\MK c δ cf (m+b.1.2.2.2.2.2.2.2.1.toNat) x a.2 b.2) (λb=>((l.length:Int) - b.1.2.2.2.2.2.2.2.1).toNat) (λa b ⟨e1,e2,e3,e4,hM⟩=>?_) _ _ _ ⟨rfl,rfl,Int.le_refl 0,by show (0:Int)<=l.length;omega,cf,Q2w.rfl' _,h,rfl,rfl,hY⟩ (by simp only [];omega)
 unfold K23.Q2x
 obtain ⟨a1,aK,ax,ay⟩:=a
 obtain ⟨⟨bi,bn,bid,bd,ba,bl,bk,bj,_⟩,bK,bx,by'⟩:=b
 dsimp only at e1 e2 e3 e4 hM
 obtain ⟨cf',hs,hK,e5,e6,hR⟩:=hM
 dsimp only at hK e5 e6 hR
 have e9:=hK.eq
 subst e1 e5 e6 e9
 cases e2
 dsimp only
 refine Qu (λhh=>?_) (λhh=>Q6 ⟨rfl,cf',hs,hK.more (by omega),hR⟩)
 have hh:=Q2g hh
 have hmem:l.getD bj.toNat 0∈l:=Q6T (by omega)
 obtain ⟨j1,j2⟩:=hl2 _ hmem
 refine Q2A (Q1B e3 hh) ?_
 refine QL (λa b=>(a.1=b.1/\(b.1.1=i/\b.1.2.1=now/\b.1.2.2.1=id/\b.1.2.2.2.1=d/\b.1.2.2.2.2.2.2=(l,(l.length:Int),bj,b.1.2.2.2.2.2.2.2.2.2.1,())))/\MK c δ cf (m+bj.toNat+1) bx a.2 b.2) ?_ (λa b ⟨⟨z1,z2,z3,z4,z5,z6⟩,hM⟩=>?_)
 ·refine QL _ (Qc7 i _ bx id d now (by omega) hd j1 (by rw [hs.Q3D];exact j2) hK) (λa b ⟨y1,cf2,y2,y3,y4⟩=>?_)
  have hs2:Q2w cf cf2:=⟨y3.clock.trans hs.clock,y3.Q3D.trans hs.Q3D⟩
  rw [y1]
  exact Qu (λ_=>Q6 ⟨⟨rfl,rfl,rfl,rfl,rfl,rfl⟩,cf2,hs2,y4,rfl,rfl,hR⟩) (λ_=>Q6 ⟨⟨rfl,rfl,rfl,rfl,rfl,rfl⟩,cf2,hs2,y4,rfl,rfl,hR⟩)
 obtain ⟨a1,aK,ax,ay⟩:=a
 obtain ⟨⟨bi,bn,bid,bd,ba,bt,bl,bk,bj',bb,_⟩,bK,bx',by'⟩:=b
 dsimp only at z1 z2 z3 z4 z5 z6 hM
 obtain ⟨cf',hs,hK,e5,e6,hR⟩:=hM
 dsimp only at hK e5 e6 hR
 have e9:=hK.eq
 subst z1 z2 z3 z4 z5 e5 e6 e9
 cases z6
 dsimp only
 have hM:MK c δ cf (m+bj.toNat+1) bx' (QN c δ bK,bx',ay) (bK,bx',by'):=⟨cf',hs,hK,rfl,rfl,hR⟩
 refine QL (λa b=>(a.1=b.1/\(b.1.1=bi/\b.1.2.1=bn/\b.1.2.2.1=bid/\b.1.2.2.2.1=bd/\b.1.2.2.2.2.2=(l,(l.length:Int),bj,())))/\MK c δ cf (m+bj.toNat+1) bx' a.2 b.2) (Qu (λ_=>?_) (λ_=>Q6 ⟨⟨rfl,rfl,rfl,rfl,rfl,rfl⟩,hM⟩)) (λa b ⟨⟨z1,z2,z3,z4,z5,z6⟩,hM⟩=>?_)
 ·refine QL (λa b=>a=b) (Qu (λ_=>Q6 rfl) (λ_=>Q6 rfl)) (λr2 r2' e=>?_)
  subst e
  refine Qu (λ_=>?_) (λ_=>Qu (λ_=>?_) (λ_=>Q6 ⟨⟨rfl,rfl,rfl,rfl,rfl,rfl⟩,hM⟩))
  ·exact Qac (Z:=Int×Int×Int×ByteArray×Bool×List Int×Int×Int×Unit) _ _ hM (λq=>q.1=bi/\q.2.1=bn/\q.2.2.1=bid/\q.2.2.2.1=bd/\q.2.2.2.2.2=(l,(l.length:Int),bj,())) ⟨rfl,rfl,rfl,rfl,rfl⟩ (λ_=>rfl) (λ_=>rfl)
  ·exact Qac (Z:=Int×Int×Int×ByteArray×Bool×List Int×Int×Int×Unit) _ _ hM (λq=>q.1=bi/\q.2.1=bn/\q.2.2.1=bid/\q.2.2.2.1=bd/\q.2.2.2.2.2=(l,(l.length:Int),bj,())) ⟨rfl,rfl,rfl,rfl,rfl⟩ (λ_=>rfl) (λ_=>rfl)
 ·rw [z1]
  obtain ⟨⟨b1,b2,b3,b4,b5,b6⟩,bK⟩:=b
  dsimp only at z2 z3 z4 z5 z6 hM
  subst z2 z3 z4 z5 z6
  dsimp only
  rw [Q1i (by omega)]
  refine Q6 ⟨⟨rfl,rfl,?_,?_,?_⟩,?_⟩
  ·show 0<=bj+1;omega
  ·show bj+1<=(l.length:Int);omega
  ·obtain ⟨cf',hs,hK,e5,e6,hR⟩:=hM
   exact ⟨cf',hs,hK.more (by show m+bj.toNat+1<=m+(bj+1).toNat;omega),e5,e6,hR⟩
  ·show ((l.length:Int) - (bj+1)).toNat < ((l.length:Int) - bj).toNat;omega
structure DN (δ δ':Dl):Prop where
 f:δ'.f=δ.f\/δ'.f=id
 d:δ'.d=δ.d\/δ'.d=Q4 .i64 δ.d 1\/δ'.d=0
theorem DN.refl (δ:Dl):DN δ δ:=⟨.inl rfl,.inl rfl⟩
theorem DN.zero (δ:Dl):DN δ D0:=⟨.inr rfl,.inr (.inr rfl)⟩
theorem DN.one (δ:Dl):DN δ ⟨δ.f,Q4 .i64 δ.d 1⟩:=⟨.inl rfl,.inr (.inl rfl)⟩
def PF (c:Cx) (δ:Dl) (cf:Q9) (m:Nat) (A B:Q1) (ya yb:YF):Prop:=∃δ' cf',DN δ δ'/\Q2w cf cf'/\KR c δ' (nF yb) (cf',m) A B/\RF c ya yb
theorem PF.of {c:Cx} {δ:Dl} {cf:Q9} {m m':Nat} {A B:Q1} {ya yb:YF} (h:KR c δ (nF yb) (cf,m) A B) (hY:RF c ya yb) (hm:m<=m'):PF c δ cf m' A B ya yb:=⟨δ,cf,DN.refl δ,Q2w.rfl' _,h.more hm,hY⟩
theorem PF.same {c:Cx} {δ:Dl} {cf cf':Q9} {m m':Nat} {A B:Q1} {ya yb:YF} (hs:Q2w cf cf') (h:KR c δ (nF yb) (cf',m) A B) (hY:RF c ya yb) (hm:m<=m'):PF c δ cf m' A B ya yb:=⟨δ,cf',DN.refl δ,hs,h.more hm,hY⟩
theorem Q9Q {α β:Type} {step:α->Option (α⊕β)} (φ:α->α) (ψ:β->β) (h:∀a,step (φ a)=(step a).map (Sum.map φ ψ)):∀(N:Nat) (a:α),Z8 N step (φ a)=(Z8 N step a).map ψ
 |0,a=>rfl
 |N+1,a=>by
  unfold Z8
  rw [h]
  cases step a with
  |none=>rfl
  |some r=>
   cases r with
   |inl b=>exact Q9Q φ ψ h N b
   |inr b=>rfl
theorem Qd6 {c:Cx} {δ:Dl} (i:Int) (tg:Qd) (all:Bool) (K:Q1):K24 i tg all (QN c δ K)=K24 i tg all K:=by
 unfold K24 K24.gen
 have hs:=λN=>Q9Q (step:=K24.QU K30 K81) (λs=>(s.1,QN c δ s.2.1,s.2.2)) (λs=>(s.1,QN c δ s.2.1,s.2.2)) (λa=>by
  obtain ⟨⟨i,al,l,n,_⟩,K,t,_⟩:=a
  unfold K24.QU
  dsimp only
  rw [Q6o,show (QN c δ K).Qs=K.Qs from rfl]
  cases ile n K.Qs.QB with
  |false=>rfl
  |true=>
   cases K30 n K with
   |none=>rfl
   |some r0=>
    simp only [Q12,cond_true]
    cases K81 t r0.1.1 with
    |none=>rfl
    |some r1=>
     simp only [Q12]
     cases r1.1.1 with
     |false=>rfl
     |true=>
      simp only [cond_true]
      cases room (l.length+(n::Qm Int).length) 8 <;> rfl) N ((i,all,Qm Int,1,()),K,tg,())
 unfold K24.F0
 dsimp only at hs ⊢
 rw [hs]
 cases Z8 _ (K24.QU K30 K81) ((i,all,Qm Int,1,()),K,tg,()) with
 |none=>rfl
 |some r=>rfl
theorem QbT {c:Cx} {δ:Dl} {cf:Q9} {m:Nat} {K:Q1} {ya yb:YF} (i:Int) (x:Q8) (l:List Qi) (now:Int) (hl:Q5n l) (h1:1<=i) (hi:i<=cf.QB) (hm:m<=500) (h:KR c δ (nF yb) (cf,m) (QN c δ K) K) (hY:RF c ya yb):
  Tw (K23 i x l now (QN c δ K) ya.1 ya.2.1 ya.2.2.1 ya.2.2.2.1 ya.2.2.2.2.1 ya.2.2.2.2.2.1 ya.2.2.2.2.2.2.1) (K23 i x l now K yb.1 yb.2.1 yb.2.2.1 yb.2.2.2.1 yb.2.2.2.2.1 yb.2.2.2.2.2.1 yb.2.2.2.2.2.2.1) (λa b=>a.1=b.1/\PF c δ cf (m+16) a.2.1.1 b.2.1.1 a.2.1.2 b.2.1.2):=by
 unfold K23 K23.gen
 refine Q1n (c:=c) (δ:=δ) (K0:=(cf,m)) (λq=>q=(i,l,now,())) (λ(a b:Q8×Qi×YF)=>a.1=x/\b.1=x/\a.2.1=b.2.1/\b.2.1.Q2s.size<=400/\RF c a.2.2 b.2.2) (λb=>nF b.2.2) (Qp (Qbn _ _ hl) (λr hr=>Q6 ⟨⟨rfl,rfl⟩,h,rfl,rfl,rfl,hr,hY⟩)) (λq B ya yb hq h ⟨e1,e2,e3,hz,hY⟩=>?_)
 subst hq
 dsimp only
 rw [e1,e2,e3]
 refine Qp (Qd2 _ hz) (λr2 hr2=>Qu (λ_=>Q6 ⟨rfl,PF.of h hY (Nat.le_add_right _ _)⟩) (λ_=>?_))
 refine QL (λa b=>a=b) (Qu (λ_=>Q6 rfl) (λ_=>Q6 rfl)) (λr3 r3' e=>?_)
 subst e
 refine Q1n (c:=c) (δ:=δ) (K0:=(cf,m+8)) (λq=>q=(i,now,r2.1.1,r2.1.2.1,())) (λ(a b:Q8×YF)=>a.1=x/\b.1=x/\RF c a.2 b.2) (λb=>nF b.2) (Qu (λ_=>QL _ (QcP (ya:=ya.2.2) (yb:=yb.2.2) i l now r2.1.1 r2.1.2.1 x _ (by omega) h hY) (λa b hab=>Q6 hab)) (λ_=>Q6 ⟨⟨rfl,rfl⟩,h.more (Nat.le_add_right _ _),rfl,rfl,hY⟩)) (λq B ya yb hq h ⟨e1,e2,hY⟩=>?_)
 subst hq
 dsimp only
 rw [e1,e2]
 have hc:B.Qs=cf:=h.Q14
 refine QL (λa b=>a=b) (Qu (λ_=>Qu (λ_=>Q6 rfl) (λ_=>Q6 rfl)) (λ_=>Q6 rfl)) (λr6 r6' e=>?_)
 subst e
 refine Qu (λ_=>Q6 ⟨rfl,PF.of h hY (by omega)⟩) (λ_=>Qp ee (λr7 _=>?_))
 refine Q2M (Qd6 i x.Q2e r7.1.1 B) (QcT i x.Q2e r7.1.1 B h.ok.Q14 (by rw [hc];exact ⟨h1,hi⟩)) (λr8 ⟨h8,h8'⟩=>?_)
 rw [hc] at h8'
 obtain ⟨a1,ay⟩:=ya
 obtain ⟨b1,by'⟩:=yb
 dsimp only at e1 e2
 subst e1 e2
 refine QL _ (QcO i now r2.1.1 r2.1.2.1 _ r8.1.1 hr2 h8 h8' (by omega) h hY) (λa b ⟨e1,cf',hs,hK,hR⟩=>?_)
 rw [e1]
 refine Qu (λ_=>?_) (λ_=>Q6 ⟨rfl,PF.same hs hK hR (by omega)⟩)
 have e4:=hK.eq
 have hcb:b.2.1.Qs=cf':=hK.Q14
 rw [e4]
 refine QL _ (Q95 (ya:=a.2.2) (yb:=b.2.2) (m:=m+16) (A:=QN c δ b.2.1) (B:=b.2.1) hK.ok.Q14 rfl (Nat.le_trans hK.outs (by show m+8+8<=m+16;omega)) hR) (λa' b' ⟨_,hK',hR'⟩=>Q6 ⟨rfl,D0,cf',DN.zero δ,hs,by rw [←hcb];exact hK',hR'⟩)
def Dr (δ:Dl):Prop:=∀x,δ.f (Q4 .i64 x 1)=Q4 .i64 (δ.f x) 1
abbrev D1 (δ:Dl):Dl:=⟨δ.f,Q4 .i64 δ.d 1⟩
theorem KR.drop {c:Cx} {δ:Dl} {n:Sz} {K0:Q9×Nat} {K:Q1} (hδ:Dr δ) (h:KR c δ n K0 (QN c δ K) K):KR c (D1 δ) n K0 (Q1.Q1Y (QN c δ K) (Q4 .i64 (QN c δ K).Q1k 1)) (Q1.Q1Y K (Q4 .i64 K.Q1k 1)):=
 ⟨Q5H rfl (λ_=>rfl) rfl rfl rfl rfl rfl rfl (hδ _).symm rfl,⟨h.ok.Q14,h.ok.s,h.ok.f,h.ok.all⟩,h.Q14,h.outs,by show Q4 .i64 K.Q1k 1=Q4 .i64 δ.d 1;rw [h.dr]⟩
theorem PF.drop {c:Cx} {δ:Dl} {cf:Q9} {m m':Nat} {K:Q1} {ya yb:YF} (hδ:Dr δ) (h:KR c δ (nF yb) (cf,m) (QN c δ K) K) (hY:RF c ya yb) (hm:m<=m'):PF c δ cf m' (Q1.Q1Y (QN c δ K) (Q4 .i64 (QN c δ K).Q1k 1)) (Q1.Q1Y K (Q4 .i64 K.Q1k 1)) ya yb:=⟨D1 δ,cf,DN.one δ,Q2w.rfl' _,(h.drop hδ).more hm,hY⟩
abbrev YFm:=Q8×YF
def PS (c:Cx) (δ:Dl) (cf:Q9) (m:Nat) (a b:(Unit×Q1×YF)⊕(Unit×Q1×YF)):Prop:=
 match a,b with
 | .inl x,.inl y=>PF c δ cf m x.2.1 y.2.1 x.2.2 y.2.2
 | .inr x,.inr y=>KR c δ (nF y.2.2) (cf,m) x.2.1 y.2.1/\RF c x.2.2 y.2.2
 |_,_=>False
theorem Qc4 {α α' β β' γ γ':Type} {x:α⊕β} {y:α'⊕β'} {f:α->Option γ} {g:β->Option γ} {f':α'->Option γ'} {g':β'->Option γ'} {Q:γ->γ'->Prop} {P:α⊕β->α'⊕β'->Prop} (h:P x y) (h1:∀a a',P (.inl a) (.inl a')->Tw (f a) (f' a') Q) (h2:∀b b',P (.inr b) (.inr b')->Tw (g b) (g' b') Q) (h3:∀a b,¬P (.inl a) (.inr b)) (h4:∀a b,¬P (.inr b) (.inl a)):Tw (Q3V x f g) (Q3V y f' g') Q:=by
 cases x with
 |inl a=>
  cases y with
  |inl a'=>exact h1 a a' h
  |inr b'=>exact (h3 _ _ h).elim
 |inr b=>
  cases y with
  |inl a'=>exact (h4 _ _ h).elim
  |inr b'=>exact h2 b b' h
theorem Qdh {c:Cx} {δ:Dl} {cf:Q9} {m:Nat} {K:Q1} {ya yb:YF} (hδ:Dr δ) (i:Int) (b:ByteArray) (now:Int) (hb:Q4d b) (hm:m<=100) (h:KR c δ (nF yb) (cf,m) (QN c δ K) K) (hY:RF c ya yb):
  Tw (K21 i b now (QN c δ K) ya.1 ya.2.1 ya.2.2.1 ya.2.2.2.1 ya.2.2.2.2.1 ya.2.2.2.2.2.1 ya.2.2.2.2.2.2.1) (K21 i b now K yb.1 yb.2.1 yb.2.2.1 yb.2.2.2.1 yb.2.2.2.2.1 yb.2.2.2.2.2.1 yb.2.2.2.2.2.2.1) (λa b=>a.1=b.1/\PF c δ cf (m+16) a.2.1.1 b.2.1.1 a.2.1.2 b.2.1.2):=by
 unfold K21 K21.gen
 refine Q1n (c:=c) (δ:=δ) (K0:=(cf,m)) (λq=>q.1=i/\q.2.1=now/\Q5n q.2.2.1) (RM (RF c)) (nM nF) (Qp (Qe0 b _ hb) (λr hr=>Q6 ⟨⟨rfl,rfl,rfl,hr⟩,h,⟨rfl,hY⟩⟩)) (λq B ya yb ⟨q1,q2,q3⟩ h ⟨e1,hY⟩=>?_)
 obtain ⟨xa,ya⟩:=ya
 obtain ⟨xb,yb⟩:=yb
 have e1:xa=xb:=e1
 subst e1
 have hc:B.Qs=cf:=h.Q14
 obtain ⟨p1,p8,_⟩:=Q3F h.ok.Q14
 rw [hc] at p1 p8
 dsimp only
 rw [q1,q2]
 refine QL (λa b=>a=b/\(b.1=false->1<=i/\i<=cf.QB)) (Q2M (Qbp _ _) (Q7S _ _) (λr2 h2=>Qu (λ_=>Q6 ⟨rfl,λh=>by cases h⟩) (λhf=>?_))) (λr3 r3' ⟨e,h3⟩=>?_)
 ·obtain ⟨i1,i2⟩:=h2 hf
  rw [hc] at i2
  exact Qu (λ_=>Q6 ⟨rfl,λh=>by cases h⟩) (λ_=>Q6 ⟨rfl,λ_=>⟨i1,i2⟩⟩)
 subst e
 refine Qu (λ_=>Q6 ⟨rfl,PF.drop hδ h hY (Nat.le_add_right _ _)⟩) (λhf=>?_)
 obtain ⟨i1,i2⟩:=h3 hf
 have hlt:(((i - 1).toNat:Nat):Int) < cf.QB:=by omega
 refine Q2M (Q6s _ _) (Q6r B i1 (by omega)) (λr4 e4=>?_)
 rw [e4]
 refine Qp ee (λr5 _=>Qu (λ_=>Q6 ⟨rfl,PF.drop hδ h hY (Nat.le_add_right _ _)⟩) (λ_=>?_))
 refine QL (PS c δ cf (m+16)) (Qu (λ_=>?_) (λ_=>?_)) (λr22 r22' hP=>Qc4 (P:=PS c δ cf (m+16)) hP (λa a' h=>Q6 ⟨rfl,h⟩) (λa a' h=>?_) (λ_ _ h=>h) (λ_ _ h=>h))
 ·refine QL _ (QcR (n:=nF yb) (ya:=(ya.2.1,ya.2.2.2.2.2.2.1,())) (yb:=(yb.2.1,yb.2.2.2.2.2.2.1,())) _ _ _ q3 hlt h ⟨hY.r.t,hY.r.p⟩) (λa b ⟨⟨e,_⟩,hK,hA⟩=>?_)
  rw [e]
  have hR:RF c (ya.1,a.2.1.2.1,ya.2.2.1,ya.2.2.2.1,ya.2.2.2.2.1,ya.2.2.2.2.2.1,a.2.1.2.2) (yb.1,b.2.1.2.1,yb.2.2.1,yb.2.2.2.1,yb.2.2.2.2.1,yb.2.2.2.2.2.1,b.2.1.2.2):=⟨hY.s,⟨hA.1,hY.r.d,hY.r.e,hY.r.f,hY.r.m,hA.2⟩⟩
  exact Qu (λ_=>Q6 ⟨hK.more (Nat.le_add_right _ _),hR⟩) (λ_=>Q6 (PF.of hK hR (Nat.le_add_right _ _)))
 ·refine Q1n (c:=c) (δ:=δ) (K0:=(cf,m)) (λq'=>q'.1=i/\q'.2.1=now/\q'.2.2.1=(i - 1).toNat/\q'.2.2.2.1=q.2.2.1) (λ(a b:YFm)=>a.1=b.1/\RF c a.2 b.2) (λb=>nF b.2) (Qu (λ_=>Q6 ⟨⟨rfl,rfl,rfl,rfl,rfl⟩,h,⟨rfl,hY⟩⟩) (λ_=>Q6 ⟨⟨rfl,rfl,rfl,rfl,rfl⟩,h,⟨rfl,hY⟩⟩)) (λq' B ya yb ⟨q1,q2,q4,q5⟩ h ⟨e1,hY⟩=>?_)
  obtain ⟨xa,ya⟩:=ya
  obtain ⟨xb,yb⟩:=yb
  have e1:xa=xb:=e1
  subst e1
  dsimp only
  have no:PF c δ cf (m+16) (QN c δ B) B ya yb:=PF.of h hY (Nat.le_add_right _ _)
  refine Qu (λ_=>?_) (λ_=>Qu (λ_=>?_) (λ_=>Qu (λ_=>?_) (λ_=>?_)))
  ·refine QL (λa b=>a=b) (Qp ee (λr8 _=>Qu (λ_=>Q6 rfl) (λ_=>Q6 rfl))) (λr9 r9' e=>?_)
   subst e
   refine Qu (λ_=>?_) (λ_=>Q6 no)
   exact QL _ (Qb1 (n:=nF yb) (ya:=(ya.1,ya.2.2.1,ya.2.2.2.1,ya.2.2.2.2.1,ya.2.2.2.2.2.1,())) (yb:=(yb.1,yb.2.2.1,yb.2.2.2.1,yb.2.2.2.2.1,yb.2.2.2.2.2.1,())) _ _ _ (by omega) (by rw [q4];exact hlt) h ⟨hY.s,hY.r.d,hY.r.e,hY.r.f,hY.r.m⟩) (λa b ⟨_,hK,hX⟩=>Q6 (PF.of (cf:=cf) (m:=m+1) (ya:=(a.2.1.2.1,ya.2.1,a.2.1.2.2.1,a.2.1.2.2.2.1,a.2.1.2.2.2.2.1,a.2.1.2.2.2.2.2.1,ya.2.2.2.2.2.2)) (yb:=(b.2.1.2.1,yb.2.1,b.2.1.2.2.1,b.2.1.2.2.2.1,b.2.1.2.2.2.2.1,b.2.1.2.2.2.2.2.1,yb.2.2.2.2.2.2)) hK ⟨hX.s,⟨hY.r.t,hX.d,hX.e,hX.f,hX.m,hY.r.p⟩⟩ (by omega)))
  ·refine QL (λa b=>a=b) (Qu (λ_=>Q6 rfl) (λ_=>Q6 rfl)) (λr9 r9' e=>?_)
   subst e
   refine Qu (λ_=>?_) (λ_=>Q6 no)
   refine Q1n (c:=c) (δ:=δ) (K0:=(cf,m)) (λ_=>True) (λ(a b:YFm)=>a.1=b.1/\RF c a.2 b.2) (λb=>nF b.2) (Q2M (Q6o _ _) ee (λr12 _=>Qp ee (λr13 _=>Q6 ⟨⟨rfl,trivial⟩,h,⟨rfl,hY⟩⟩))) (λq B ya yb _ h ⟨e1,hY⟩=>?_)
   obtain ⟨xa,ya⟩:=ya
   obtain ⟨xb,yb⟩:=yb
   have e1:xa=xb:=e1
   subst e1
   dsimp only
   exact Qu (λ_=>Q5i (λ_=>True) RU (nU (nF yb)) (Q6B _ _ _ _ (by omega) h) (λq' B _ _ _ h2 _=>Q6 (PF.of h2 hY (by omega)))) (λ_=>Q6 (PF.of h hY (by omega)))
  ·refine QL (λa b=>a=b) (Qp ee (λr8 _=>Qu (λ_=>Qu (λ_=>Q6 rfl) (λ_=>Q6 rfl)) (λ_=>Q6 rfl))) (λr9 r9' e=>?_)
   subst e
   refine Qu (λ_=>?_) (λ_=>Q6 no)
   exact QL _ (Qec (K0:=(cf,m)) (n:=nF yb) (ya:=(ya.2.2.1,ya.2.2.2.2.1,())) (yb:=(yb.2.2.1,yb.2.2.2.2.1,())) _ _ (by rw [q4];exact hlt) h ⟨hY.r.d,hY.r.f⟩) (λa b ⟨_,hK,hX⟩=>Q6 (PF.of (cf:=cf) (m:=m) (ya:=(ya.1,ya.2.1,a.2.1.2.1,ya.2.2.2.1,a.2.1.2.2.1,ya.2.2.2.2.2)) (yb:=(yb.1,yb.2.1,b.2.1.2.1,yb.2.2.2.1,b.2.1.2.2.1,yb.2.2.2.2.2)) hK ⟨hY.s,⟨hY.r.t,hX.1,hY.r.e,hX.2,hY.r.m,hY.r.p⟩⟩ (by omega)))
  ·refine Q1n (c:=c) (δ:=δ) (K0:=(cf,m)) (λq''=>q''.1=i/\q''.2.1=now/\q''.2.2.1=q.2.2.1) (λ(a b:YFm)=>a.1=b.1/\RF c a.2 b.2) (λb=>nF b.2) (Qu (λ_=>Q6 ⟨⟨rfl,q1,q2,q5⟩,h,⟨rfl,hY⟩⟩) (λ_=>Qu (λ_=>Q6 ⟨⟨rfl,q1,q2,q5⟩,h,⟨rfl,hY⟩⟩) (λ_=>Q6 ⟨⟨rfl,q1,q2,q5⟩,h,⟨rfl,hY⟩⟩))) (λq'' B ya yb ⟨q1,q2,q5⟩ h ⟨e1,hY⟩=>?_)
   obtain ⟨xa,ya⟩:=ya
   obtain ⟨xb,yb⟩:=yb
   have e1:xa=xb:=e1
   subst e1
   dsimp only
   have no:PF c δ cf (m+16) (QN c δ B) B ya yb:=PF.of h hY (Nat.le_add_right _ _)
   refine Qu (λ_=>Qu (λ_=>?_) (λ_=>Q6 no)) (λ_=>Qu (λ_=>?_) (λ_=>Q6 no))
   ·exact QL _ (Qc9 (n:=nF yb) (ya:=(ya.2.2.2.1,())) (yb:=(yb.2.2.2.1,())) _ _ _ (by omega) (by rw [q1];exact i1) (by rw [q1];exact i2) h hY.r.e) (λa b ⟨_,hK,hX⟩=>Q6 (PF.of (cf:=cf) (m:=m+1) (ya:=(ya.1,ya.2.1,ya.2.2.1,a.2.1.2.1,ya.2.2.2.2)) (yb:=(yb.1,yb.2.1,yb.2.2.1,b.2.1.2.1,yb.2.2.2.2)) hK ⟨hY.s,⟨hY.r.t,hY.r.d,hX,hY.r.f,hY.r.m,hY.r.p⟩⟩ (by omega)))
   ·exact QL _ (QbT _ _ _ _ (by rw [q5];exact q3) (by rw [q1];exact i1) (by rw [q1];exact i2) (by omega) h hY) (λa b ⟨_,hP⟩=>Q6 hP)
 ·obtain ⟨hK,hR⟩:=h
  have e:=hK.eq
  rw [e] at hK
  refine Q6 ⟨rfl,?_⟩
  rw [e]
  exact PF.drop hδ hK hR (Nat.le_refl _)
theorem outs0 {c:Cx} {δ:Dl} {n:Sz} {K0:Q9×Nat} {K:Q1} (h:KR c δ n K0 (QN c δ K) K):KR c δ n (K0.1,0) (QN c δ (Q1.Q17 K [])) (Q1.Q17 K []):=⟨rfl,⟨h.ok.Q14,h.ok.s,h.ok.f,h.ok.all⟩,h.Q14,Nat.le_refl 0,h.dr⟩
abbrev Qaw (c:Cx) (δ:Dl) (cf:Q9) (a b:(List QJ×Unit)×(Q1×YF)×Unit):Prop:=a.1=b.1/\b.1.1=b.2.1.1.Q2p/\PF c δ cf 24 a.2.1.1 b.2.1.1 a.2.1.2 b.2.1.2
theorem Q7f {c:Cx} {δ:Dl} {cf:Q9} {m:Nat} {x y:Option (Unit×Q1×YF)} (hm:m<=24) (h:Tw x y (λa b=>PF c δ cf m a.2.1 b.2.1 a.2.2 b.2.2)):Tw (Q0 x none λr=>some ((r.2.1.Q2p,()),(r.2,()))) (Q0 y none λr=>some ((r.2.1.Q2p,()),(r.2,()))) (Qaw c δ cf):=by
 obtain ⟨a,b,rfl,rfl,δ',cf',hd,hs,hK,hR⟩:=h
 exact Q6 ⟨by rw [show a.2.1=QN c δ' b.2.1 from hK.eq];rfl,rfl,δ',cf',hd,hs,hK.more hm,hR⟩
theorem Q9b (cf:Q9):Tot (K51 cf) (λr=>r.1.1=0->Q40 cf):=by
 obtain ⟨x,hx,_⟩:=(ee (x:=K51 cf))
 refine ⟨x,hx,λh=>⟨?_⟩⟩
 obtain ⟨⟨z,u⟩,w,w'⟩:=x
 have h:z=0:=h
 subst h
 exact hx
theorem Qep {c:Cx} {δ:Dl} {cf:Q9} {m:Nat} {K:Q1} {ya yb:YF} (hδ:Dr δ) (e:Qw) (he:Q4d e.Q35) (h:KR c δ (nF yb) (cf,m) (QN c δ K) K) (hY:RF c ya yb):
  Tw (K10 e (QN c δ K) ya.1 ya.2.1 ya.2.2.1 ya.2.2.2.1 ya.2.2.2.2.1 ya.2.2.2.2.2.1 ya.2.2.2.2.2.2.1) (K10 e K yb.1 yb.2.1 yb.2.2.1 yb.2.2.2.1 yb.2.2.2.2.1 yb.2.2.2.2.2.1 yb.2.2.2.2.2.2.1) (Qaw c δ cf):=by
 have h0:=outs0 h
 have hc:K.Qs=cf:=h.Q14
 have hck:Q40 cf:=by rw [←hc];exact h.ok.Q14
 have drop:PF c δ cf 24 (Q1.Q17 (Q1.Q1Y (QN c δ K) (Q4 .i64 (QN c δ K).Q1k 1)) []) (Q1.Q17 (Q1.Q1Y K (Q4 .i64 K.Q1k 1)) []) ya yb:=
  ⟨D1 δ,cf,DN.one δ,Q2w.rfl' _,⟨Q5H rfl (λ_=>rfl) rfl rfl rfl rfl rfl rfl (hδ _).symm rfl,⟨h.ok.Q14,h.ok.s,h.ok.f,h.ok.all⟩,h.Q14,Nat.zero_le 24,by show Q4 .i64 K.Q1k 1=Q4 .i64 δ.d 1;rw [h.dr]⟩,hY⟩
 have turn:∀ev,Tw (Q0 (K35 e.QR ev (Q1.Q17 (QN c δ K) (Qm QJ)) ya.2.1 ya.2.2.1 ya.2.2.2.1 ya.2.2.2.2.2.1 ya.2.2.2.2.2.2.1) none λr=>some ((),(r.2.1.1,(ya.1,(r.2.1.2.1,(r.2.1.2.2.1,(r.2.1.2.2.2.1,(ya.2.2.2.2.1,r.2.1.2.2.2.2))))))))
   (Q0 (K35 e.QR ev (Q1.Q17 K (Qm QJ)) yb.2.1 yb.2.2.1 yb.2.2.2.1 yb.2.2.2.2.2.1 yb.2.2.2.2.2.2.1) none λr=>some ((),(r.2.1.1,(yb.1,(r.2.1.2.1,(r.2.1.2.2.1,(r.2.1.2.2.2.1,(yb.2.2.2.2.1,r.2.1.2.2.2.2)))))))) (λa b=>PF c δ cf 0 a.2.1 b.2.1 a.2.2 b.2.2):=λev=>by
  refine QL _ (Qb4 (n:=nF yb) (ya:=(ya.2.1,ya.2.2.1,ya.2.2.2.1,ya.2.2.2.2.2.1,ya.2.2.2.2.2.2.1,())) (yb:=(yb.2.1,yb.2.2.1,yb.2.2.2.1,yb.2.2.2.2.2.1,yb.2.2.2.2.2.2.1,())) e.QR ev h0 ⟨hY.r.t,hY.r.d,hY.r.e,hY.r.m,hY.r.p⟩) (λa b ⟨_,hK,hX⟩=>?_)
  exact Q6 (PF.of (m:=0) (cf:=cf) (ya:=(ya.1,a.2.1.2.1,a.2.1.2.2.1,a.2.1.2.2.2.1,ya.2.2.2.2.1,a.2.1.2.2.2.2)) (yb:=(yb.1,b.2.1.2.1,b.2.1.2.2.1,b.2.1.2.2.2.1,yb.2.2.2.2.1,b.2.1.2.2.2.2)) hK ⟨hY.s,⟨hX.t,hX.d,hX.e,hY.r.f,hX.m,hX.p⟩⟩ (Nat.le_refl 0))
 have beg:∀cf',Q40 cf'->Q2w cf cf'->Tw (Q0 (Q0 (K15 cf' (Q1.Q17 (QN c δ K) (Qm QJ)) ya.1 ya.2.1 ya.2.2.1 ya.2.2.2.1 ya.2.2.2.2.1 ya.2.2.2.2.2.1 ya.2.2.2.2.2.2.1) none λr=>some ((),r.2.1)) none λr=>some ((r.2.1.Q2p,()),(r.2,())))
   (Q0 (Q0 (K15 cf' (Q1.Q17 K (Qm QJ)) yb.1 yb.2.1 yb.2.2.1 yb.2.2.2.1 yb.2.2.2.2.1 yb.2.2.2.2.2.1 yb.2.2.2.2.2.2.1) none λr=>some ((),r.2.1)) none λr=>some ((r.2.1.Q2p,()),(r.2,()))) (Qaw c δ cf):=λcf' hk hs=>by
  refine Q7f (m:=0) (Nat.zero_le 24) (QL _ (Q95 (m:=0) (A:=Q1.Q17 (QN c δ K) (Qm QJ)) (B:=Q1.Q17 K (Qm QJ)) hk rfl (Nat.le_refl 0) hY) (λa b ⟨_,hK,hR⟩=>Q6 ⟨D0,cf',DN.zero δ,hs,hK,hR⟩))
 unfold K10 K10.gen
 refine Qu (λ_=>?_) (λ_=>Qu (λ_=>?_) (λ_=>Qu (λ_=>?_) (λ_=>Qu (λ_=>?_) (λ_=>Qu (λ_=>?_) (λ_=>Qu (λ_=>?_) (λ_=>Qu (λ_=>?_) (λ_=>?_)))))))
 ·have ht:=Qeo (ya:=ya.2) (yb:=yb.2) (s:=yb.1.1) (Z4 true 0 (Z4 false e.Q6x 4000000000000000)) (Nat.zero_le _) h0 hY.r
  refine Q7f (m:=24) (Nat.le_refl 24) (QL _ ht (λa b ⟨_,hK,hR⟩=>?_))
  exact Q6 (PF.of (cf:=cf) (m:=0+24) (ya:=(ya.1,a.2.1.2)) (yb:=(yb.1,b.2.1.2)) hK ⟨hY.s,hR⟩ (Nat.le_refl 24))
 ·have ht:=Qdh hδ e.QR e.Q35 (Z4 true 0 (Z4 false e.Q6x 4000000000000000)) he (Nat.zero_le _) h0 hY
  exact Q7f (m:=0+16) (by decide) (QL _ ht (λa b ⟨_,hP⟩=>Q6 hP))
 ·refine Q2M (show K25 e.QR (Q1.Q17 (QN c δ K) (Qm QJ))=K25 e.QR (Q1.Q17 K (Qm QJ)) from rfl) (Q7S _ _) (λr4 h4=>?_)
  refine Q7f (m:=1) (by decide) (Qu (λhf=>?_) (λ_=>Q6 (PF.of (m:=0) (cf:=cf) h0 hY (by decide))))
  have hf:r4.1.1=false:=by cases hx:r4.1.1 with|false=>rfl|true=>rw [hx] at hf;cases hf
  obtain ⟨i1,i2⟩:=h4 hf
  have i2:e.QR<=K.Qs.QB:=i2
  rw [hc] at i2
  have ht:=QdJ (n:=nF yb) (ya:=(ya.2.2.1,ya.2.2.2.1,())) (yb:=(yb.2.2.1,yb.2.2.2.1,())) e.QR e.fType e.Q2Y (Z4 true 0 (Z4 false e.Q6x 4000000000000000)) (Nat.zero_le _) i1 i2 h0 ⟨hY.r.d,hY.r.e⟩
  refine QL _ ht (λa b ⟨_,hK,hX⟩=>?_)
  exact Q6 (PF.of (cf:=cf) (m:=0+1) (ya:=(ya.1,ya.2.1,a.2.1.2.1,a.2.1.2.2.1,ya.2.2.2.2)) (yb:=(yb.1,yb.2.1,b.2.1.2.1,b.2.1.2.2.1,yb.2.2.2.2)) hK ⟨hY.s,⟨hY.r.t,hX.1,hX.2,hY.r.f,hY.r.m,hY.r.p⟩⟩ (Nat.le_refl 1))
 ·refine QL (λa b=>a=b/\(b.1=false->Q40 K.Qs)) (Q2M (show K51 (QN c δ K).Qs=K51 K.Qs from rfl) (Q9b _) (λr7 h7=>Qu (λ_=>Q6 ⟨rfl,λh=>by cases h⟩) (λhz=>?_))) (λr8 r8' ⟨e8,h8⟩=>?_)
  ·have hk:=h7 (by unfold ine at hz;simpa using hz)
   exact Qu (λ_=>Q6 ⟨rfl,λ_=>hk⟩) (λ_=>Q6 ⟨rfl,λ_=>hk⟩)
  subst e8
  refine Qu (λ_=>Q6 ⟨rfl,rfl,drop⟩) (λhf=>?_)
  have:=beg K.Qs (h8 hf) (by rw [hc];exact Q2w.rfl' _)
  exact this
 ·refine QL (λa b=>a=b/\(b.1=false->Q40 e.QQ/\Q2w cf e.QQ)) (Qp (Q9b _) (λr7 h7=>Qu (λ_=>Q6 ⟨rfl,λh=>by cases h⟩) (λhz=>?_))) (λr8 r8' ⟨e8,h8⟩=>?_)
  ·have hk:=h7 (by unfold ine at hz;simpa using hz)
   refine Qu (λ_=>Q6 ⟨rfl,λh=>by cases h⟩) (λh1=>Q6 ⟨rfl,λh2=>⟨hk,?_,?_⟩⟩)
   ·have h1:ine e.QQ.QI K.Qs.QI=false:=h1
    have:e.QQ.QI=K.Qs.QI:=by unfold ine at h1;simpa using h1
    rw [this,hc]
   ·have h2:ine e.QQ.QB K.Qs.QB=false:=h2
    have:e.QQ.QB=K.Qs.QB:=by unfold ine at h2;simpa using h2
    rw [this,hc]
  subst e8
  refine Qu (λ_=>Q6 ⟨rfl,rfl,drop⟩) (λhf=>?_)
  obtain ⟨k1,k2⟩:=h8 hf
  exact beg e.QQ k1 k2
 ·exact Q7f (m:=0) (by decide) (turn 2)
 ·exact Q7f (m:=0) (by decide) (turn 3)
 ·exact Q6 ⟨rfl,rfl,PF.of (m:=0) (cf:=cf) h0 hY (Nat.zero_le 24)⟩
theorem Q6b (v n:Int) (hn:0 < n) (hn2:n<=4611686018427387904):K85 v n=some ((v % n,()),(),()):=by
 have h1:ine n 0=true:=Q6M (by omega)
 have h2:=Int.emod_nonneg v (Int.ne_of_gt hn)
 have h3:=Int.emod_lt_of_pos v hn
 obtain ⟨h4,h5⟩:=QaO v n hn
 unfold K85 K85.gen
 rw [h1]
 simp only [cond_true,Q12]
 by_cases hc:v.tmod n < 0
 ·have e:Q4 .i64 (Q5z v n) n=v % n:=by
   have:=h4 hc
   rw [Q1i] <;> simp only [Q5z] <;> omega
  rw [show ilt (Q5z v n) 0=true from Q6j hc,e];simp only [cond_true,Q12]
 ·rw [show ilt (Q5z v n) 0=false from Q52 hc,show Q5z v n=v % n from h5 hc];simp only [cond_false,Q12]
theorem Q4Y (i:Nat) (n:Int) (l:List Int) (h0:0 < n) (hn:n<=1000):Tot (K84 (i:Int) n l) (λr=>r.1.1 < n):=by
 unfold K84 K84.gen
 refine Qa (λh=>?_) (λ_=>Q2 (by show (-1:Int) < n;omega))
 have h:=Q2g h
 unfold ofN at h
 refine QM (Q1B (by omega) h) (Q3 (λr=>r.1.1 < n) ⟨_,Q6b _ _ h0 (by omega),Int.emod_lt_of_pos _ h0⟩ (λr hr=>Q2 hr))
theorem Qeq (id:Int) (l:List Int):Tot (K83 id l) (λ_=>True):=by
 unfold K83 K83.gen
 refine Q3 (λ_=>True) ⟨_,Q6b _ _ (by decide) (by decide),trivial⟩ (λ_ _=>?_)
 refine Q3 _ ee (λ_ _=>?_)
 refine Q3 _ (Q4Y 0 4 _ (by decide) (by decide)) (λ_ _=>Q3 (λ_=>True) (Qa (λ_=>Q2 trivial) (λ_=>Q2 trivial)) (λ_ _=>?_))
 refine Q3 _ (Q4Y 1 4 _ (by decide) (by decide)) (λ_ _=>Q3 (λ_=>True) (Qa (λ_=>Q2 trivial) (λ_=>Q2 trivial)) (λ_ _=>?_))
 refine Q3 _ (Q4Y 2 3 _ (by decide) (by decide)) (λ_ hr=>Q3 (λ_=>True) (Qa (λh=>QM (Q1B (Q5s h) hr) (Q2 trivial)) (λ_=>Q2 trivial)) (λ_ _=>?_))
 refine Q3 _ (Q4Y 3 4 _ (by decide) (by decide)) (λ_ _=>Q3 (λ_=>True) (Qa (λ_=>Q2 trivial) (λ_=>Q2 trivial)) (λ_ _=>?_))
 refine Q3 _ (Q4Y 4 4 _ (by decide) (by decide)) (λ_ _=>Q3 (λ_=>True) (Qa (λ_=>Q2 trivial) (λ_=>Q2 trivial)) (λ_ _=>?_))
 refine Q3 _ (Q4Y 5 4 _ (by decide) (by decide)) (λ_ _=>Q3 (λ_=>True) (Qa (λ_=>Q2 trivial) (λ_=>Q2 trivial)) (λ_ _=>?_))
 refine Q3 _ (Q4Y 6 4 _ (by decide) (by decide)) (λ_ _=>Q3 (λ_=>True) (Qa (λ_=>Q2 trivial) (λ_=>Q2 trivial)) (λ_ _=>?_))
 refine Q3 _ (Q4Y 7 16 _ (by decide) (by decide)) (λ_ _=>Q3 (λ_=>True) (Qa (λ_=>Q2 trivial) (λ_=>Q2 trivial)) (λ_ _=>?_))
 refine Q3 _ (Q4Y 8 5 _ (by decide) (by decide)) (λ_ hr=>Q3 (λ_=>True) (Qa (λh=>QM (Q1B (Q5s h) hr) (Q2 trivial)) (λ_=>Q2 trivial)) (λ_ _=>?_))
 refine Q3 _ (Q4Y 9 6 _ (by decide) (by decide)) (λ_ _=>Q3 (λ_=>True) (Qa (λ_=>Q2 trivial) (λ_=>Q2 trivial)) (λ_ _=>?_))
 exact Q3 _ (Q4Y 10 15 _ (by decide) (by decide)) (λ_ _=>Q3 (λ_=>True) (Qa (λ_=>Q2 trivial) (λ_=>Q2 trivial)) (λ_ _=>Q2 trivial))
theorem Qaf (x:QF):Tot (K89 x) (λr=>r.1.1=true->x.fE.Q35.size<=600):=by
 unfold K89 K89.gen
 refine Qa (λh=>Q2 λ_=>?_) (λ_=>Q2 λh=>by cases h)
 have:=Q5s h
 unfold ofN at this
 omega
theorem Q5m {b:List UInt8} {k:Nat} (v n:Int) (hb:1<=b.length/\b.length<=k) (hk:k<=10000000):Tot (Q3s b v n) (λr=>1<=r.1.1.length/\r.1.1.length<=k+8):=Q7r (QbM b v n (by omega)) λr hr=>by have:=hr.1;have:=hr.2;omega
theorem Qei {b:List UInt8} {k:Nat} (p:Qd) (hb:1<=b.length/\b.length<=k) (hk:k<=1000000):Tot (K82 b p) (λr=>1<=r.1.1.length/\r.1.1.length<=k+16):=by
 unfold K82 K82.gen Q3Q Q3Q.gen
 exact Q3 (λr=>1<=r.1.1.length/\r.1.1.length<=k+8) (Q3 _ (Q5m _ _ hb (by omega)) (λr hr=>Q2 hr)) (λr hr=>Q3 _ (Q5m _ _ hr (by omega)) (λr hr=>Q2 hr))
theorem QdW (m:Q8) (n:Int):Tot (K75 m n) (λr=>r.1.1.length<=200/\(r.1.2.1=true->1<=r.1.1.length)):=by
 unfold K75 K75.gen
 refine Q3 (λ_=>True) (Q3 _ ee (λr0 _=>Qa (λ_=>Q2 trivial) (λ_=>Q3 _ (Qcl _ _ _) (λ_ _=>Q2 trivial)))) (λr2 _=>Qa (λ_=>Q2 ⟨Nat.zero_le _,λh=>by cases h⟩) (λ_=>?_))
 have hb:1<=(UInt8.ofNat (Int.toNat (IntKind.wrap IntKind.u8 m.fType))::UInt8.ofNat (Int.toNat 18)::Qm UInt8).length/\(UInt8.ofNat (Int.toNat (IntKind.wrap IntKind.u8 m.fType))::UInt8.ofNat (Int.toNat 18)::Qm UInt8).length<=2:=⟨Nat.le_add_left _ _,Nat.le_refl _⟩
 exact Q3 _ (Q5m _ _ hb (by omega)) (λr hr=>Q3 _ (Q5m _ _ hr (by omega)) (λr hr=>Q3 _ (Q5m _ _ hr (by omega)) (λr hr=>Q3 _ (Q5m _ _ hr (by omega)) (λr hr=>Q3 _ (Q5m _ _ hr (by omega)) (λr hr=>Q3 _ (Q5m _ _ hr (by omega)) (λr hr=>Q3 _ (Qei _ hr (by omega)) (λr hr=>Q3 _ (Q5m _ _ hr (by omega)) (λr hr=>Q3 _ ee (λr11 _=>Q3 _ (Q5m _ _ hr (by omega)) (λr hr=>Q3 _ (Q5m _ _ hr (by omega)) (λr hr=>Q2 ⟨by show r.1.1.length<=200;omega,λ_=>hr.1⟩)))))))))))
theorem QdI (m:Q8) (l:List Qi):Tot (K71 m l) (λr=>r.1.1.size<=30000/\(r.1.2.1=true->1<=r.1.1.size)):=by
 have hn:ByteArray.size (ByteArray.mk (List.toArray (Qm UInt8)))<=30000:=by decide
 have no:∀{x:Bool},x=false->ByteArray.size (ByteArray.mk (List.toArray (Qm UInt8)))<=30000/\(x=true->1<=ByteArray.size (ByteArray.mk (List.toArray (Qm UInt8)))):=λh=>⟨hn,λh2=>by rw [h] at h2;cases h2⟩
 unfold K71 K71.gen
 refine Q3 _ (QbP _ _ (by decide)) (λr0 h0=>Qa (λ_=>Q2 (no rfl)) (λ_=>Q3 _ (QbR _ _ (by omega)) (λr1 h1=>Qa (λ_=>Q2 (no rfl)) (λ_=>Q3 _ (QdW _ _) (λr2 ⟨h2,h3⟩=>Qa (λ_=>Q2 (no rfl)) (λhf=>QM ?_ (Q2 ?_)))))))
 ·apply Nat.ble_eq_true_of_le
  have e1:ByteArray.size (ByteArray.mk (List.toArray r2.1.1))=r2.1.1.length:=Q6J _
  have e2:ByteArray.size (ByteArray.mk (List.toArray r1.1.1))=r1.1.1.length:=Q6J _
  rw [e1,e2]
  omega
 ·have hp:=h3 (by cases hx:r2.1.2.1 with|true=>rfl|false=>rw [hx] at hf;cases hf)
  show (bs r2.1.1++bs r1.1.1).size<=30000/\(true=true->1<=(bs r2.1.1++bs r1.1.1).size)
  rw [Qbd,Q6J,List.length_append]
  exact ⟨by omega,λ_=>by omega⟩
abbrev Q6E (l:List Qw):Prop:=l.length<=41/\∀e∈l,Q4d e.Q35
theorem Q6E.one {e:Qw} (h:Q4d e.Q35):Q6E (e::Qm Qw):=⟨by show 1<=41;decide,λx hx=>by
 simp only [Qm,List.mem_cons,List.not_mem_nil,or_false] at hx
 subst hx;exact h⟩
theorem Q9E (x:QF) (hx:x.fE.Q35.size<=600):Tot (K88 x) (λr=>Q6E r.1.1):=by
 have hb:Q4d x.fE.Q35:=by unfold Q4d;omega
 unfold K88 K88.gen
 refine Q3 (λ_=>True) ⟨_,Q6b _ _ (by decide) (by decide),trivial⟩ (λr0 _=>Qa (λ_=>?_) (λ_=>Qa (λ_=>?_) (λ_=>Qa (λ_=>Q2 (Q6E.one hb)) (λ_=>Q2 (Q6E.one hb)))))
 ·refine Q3 (λr=>Q6E r.1.1) ?_ (λr hr=>Q2 hr)
  have hp:K85 x.fN 40=some ((x.fN % 40,()),(),()):=Q6b _ _ (by decide) (by decide)
  have h0:0<=x.fN % 40:=Int.emod_nonneg _ (by decide)
  have h1:x.fN % 40 < 40:=Int.emod_lt_of_pos _ (by decide)
  unfold K88.F0
  refine Q2f (λa=>a.2.1=x/\0<=a.1.2.1/\(a.1.1.length:Int)=a.1.2.1/\a.1.2.1<=x.fN % 40+1/\∀e∈a.1.1,Q4d e.Q35) (λa=>(41 - a.1.2.1).toNat) (λa ⟨g1,g2,g3,g4,g5⟩=>?_) _ _ ⟨rfl,Int.le_refl 0,rfl,by show 0<=x.fN % 40+1;omega,λe he=>by cases he⟩ (by simp only [];omega)
  unfold K88.QU
  rw [g1,hp,Q12]
  refine Qa (λh=>?_) (λ_=>Q2 ⟨by show a.1.1.length<=41;omega,g5⟩)
  have h:=Q5s h
  have h:a.1.2.1<=x.fN % 40:=h
  refine QM (Q2P (by simp only [List.length_cons,Qm,List.length_nil];omega)) (Q2 ?_)
  rw [Q1i (by omega)]
  refine ⟨⟨g1,?_,?_,?_,λe he=>?_⟩,?_⟩
  ·show 0<=a.1.2.1+1;omega
  ·show ((a.1.1++_::Qm Qw).length:Int)=a.1.2.1+1
   simp only [List.length_append,List.length_cons,Qm,List.length_nil];omega
  ·show a.1.2.1+1<=x.fN % 40+1;omega
  ·rcases List.mem_append.1 he with he|he
   ·exact g5 e he
   ·simp only [Qm,List.mem_cons,List.not_mem_nil,or_false] at he
    subst he;exact hb
  ·show (41 - (a.1.2.1+1)).toNat < (41 - a.1.2.1).toNat;omega
 ·refine Q3 _ (QdI _ _) (λr2 ⟨h2,hpos⟩=>Q3 (λr=>r.1=true->r2.1.2.1=true) (Qa (λh=>Q2 λ_=>h) (λ_=>Q2 λh=>by cases h)) (λr3 h3=>Q3 (λr=>Q4d r.1.1/\r.2.1.Q35=x.fE.Q35) ?_ (λr5 ⟨h5,h6⟩=>Q3 (λr=>Q4d r.2.1.Q35) (Qa (λ_=>Q2 h5) (λ_=>Q2 (by show Q4d r5.2.1.Q35;rw [h6];exact hb))) (λr6 hr6=>Q2 (Q6E.one hr6)))))
  refine Qa (λh=>?_) (λ_=>Q2 ⟨by show r2.1.1.size<=1000000;omega,rfl⟩)
  have hs:=hpos (h3 h)
  have h0:0<=x.fAt % ofN r2.1.1.size:=Int.emod_nonneg _ (by unfold ofN;omega)
  have h1:x.fAt % ofN r2.1.1.size < ofN r2.1.1.size:=Int.emod_lt_of_pos _ (by unfold ofN;omega)
  refine Q3 (λr=>0<=r.1.1/\r.1.1 < (r2.1.1.size:Int)) ⟨_,Q6b _ _ (by unfold ofN;omega) (by unfold ofN;omega),h0,h1⟩ (λr4 ⟨g0,g1⟩=>QM (Q1B g0 g1) (QM (Q1B g0 g1) (Q2 ⟨?_,rfl⟩)))
  show (List.toArray (List.map _ (List.range r2.1.1.size))).size<=1000000
  rw [List.size_toArray,List.length_map,List.length_range]
  omega
abbrev St:=(Fm Q1)×YF
structure Live (c:Cx) (δ:Dl) (k1 k2:Nat) (cf:Q9) (A B:St):Prop where
 k:KR c δ (nF B.2) (cf,0) (Q1.Q17 (A.1.2 k1) []) (Q1.Q17 (B.1.2 k2) [])
 y:RF c A.2 B.2
noncomputable def Q6D (e:Qw) (k:Nat) (A:St):Option ((List QJ×Unit)×(Q1×YF)×Unit):=K10 e (A.1.2 k) A.2.1 A.2.2.1 A.2.2.2.1 A.2.2.2.2.1 A.2.2.2.2.2.1 A.2.2.2.2.2.2.1 A.2.2.2.2.2.2.2.1
def Q5J (A:St) (k:Nat) (r:Q1×YF):St:=((A.1.1,Qr A.1.2 k r.1),r.2)
theorem Q5P {α:Type} (f:Nat->α) (i:Nat) (x:α):Qr f i x i=x:=if_pos rfl
theorem Q5q {α:Type} (f:Nat->α) {i j:Nat} (x:α) (h:j≠i):Qr f i x j=f j:=if_neg h
theorem Q9i {c:Cx} {δ:Dl} {k1 k2:Nat} {cf:Q9} {A B:St} (hδ:Dr δ) (e:Qw) (he:Q4d e.Q35) (h:Live c δ k1 k2 cf A B):
  ∃o K1 Y1 K2 Y2 δ' cf',Q6D e k1 A=some ((o,()),(K1,Y1),())/\Q6D e k2 B=some ((o,()),(K2,Y2),())/\DN δ δ'/\Q2w cf cf'/\Live c δ' k1 k2 cf' (Q5J A k1 (K1,Y1)) (Q5J B k2 (K2,Y2))/\o=K2.Q2p/\o.length<=24:=by
 obtain ⟨hk,hy⟩:=h
 have e1:=hk.eq
 rw [e1] at hk
 obtain ⟨⟨⟨o,u⟩,⟨K1,Y1⟩,u2⟩,⟨⟨o',u'⟩,⟨K2,Y2⟩,u2'⟩,h1,h2,h3,h4,δ',cf',h5,h6,h7,h8⟩:=Qep hδ e he hk hy
 have h3:o=o':=congrArg (·.1) h3
 subst h3
 have h4:o=K2.Q2p:=h4
 have h7:KR c δ' (nF Y2) (cf',24) K1 K2:=h7
 refine ⟨o,K1,Y1,K2,Y2,δ',cf',?_,h2,h5,h6,⟨?_,h8⟩,h4,by rw [h4];exact h7.outs⟩
 ·rw [←e1] at h1;exact h1
 ·show KR c δ' (nF Y2) (cf',0) (Q1.Q17 (Qr A.1.2 k1 K1 k1) []) (Q1.Q17 (Qr B.1.2 k2 K2 k2) [])
  rw [Q5P,Q5P]
  refine ⟨?_,⟨h7.ok.Q14,h7.ok.s,h7.ok.f,h7.ok.all⟩,h7.Q14,Nat.le_refl 0,h7.dr⟩
  rw [show K1=QN c δ' K2 from h7.eq];rfl
structure Kept (k:Nat) (A0 A:St):Prop where
 n:A.1.1=A0.1.1
 f:∀q,q≠k->A.1.2 q=A0.1.2 q
theorem DN.fid {δ δ':Dl} (h:DN δ δ') (hf:δ.f=id):δ'.f=id:=by
 rcases h.f with e|e
 ·rw [e];exact hf
 ·exact e
theorem Dr.fid {δ:Dl} (h:δ.f=id):Dr δ:=λx=>by rw [h];rfl
abbrev PNew (c:Cx) (cf:Q9) (A B:St) (a b:(Option Nat×Int×Unit)×St×Unit):Prop:=a.1.2=b.1.2/\((b.1.2.1≠0/\¬Q40 cf/\a.1.1=none/\b.1.1=none/\a.2.1=A/\b.2.1=B)\/
 (b.1.2.1=0/\a.1.1=some A.1.1/\b.1.1=some B.1.1/\Kept A.1.1 ((A.1.1+1,A.1.2),A.2) a.2.1/\Kept B.1.1 ((B.1.1+1,B.1.2),B.2) b.2.1/\Live c D0 A.1.1 B.1.1 cf a.2.1 b.2.1))
theorem QdE {c:Cx} {A B:St} (cf:Q9) (hY:RF c A.2 B.2):Tw (K36 cf A.1 A.2.1 A.2.2.1 A.2.2.2.1 A.2.2.2.2.1 A.2.2.2.2.2.1 A.2.2.2.2.2.2.1 A.2.2.2.2.2.2.2.1) (K36 cf B.1 B.2.1 B.2.2.1 B.2.2.2.1 B.2.2.2.2.1 B.2.2.2.2.2.1 B.2.2.2.2.2.2.1 B.2.2.2.2.2.2.2.1) (PNew c cf A B):=by
 unfold K36 K36.gen
 obtain ⟨r0,h0,h1⟩:=Q9b cf
 rw [h0,Q12,Q12]
 refine Qu (λhz=>Q6 ⟨rfl,.inl ⟨Qa9.1 hz,λhk=>?_,rfl,rfl,rfl,rfl⟩⟩) (λhz=>?_)
 ·have:=hk.out
  rw [h0] at this
  cases this
  cases hz
 ·have hk:=h1 (by unfold ine at hz;simpa using hz)
  rw [Q5P,Q5P]
  refine QL _ (Q95 (m:=0) hk rfl (Nat.le_refl 0) hY) (λa b ⟨_,hK,hR⟩=>Q6 ⟨rfl,.inr ⟨rfl,rfl,rfl,⟨rfl,λq hq=>?_⟩,⟨rfl,λq hq=>?_⟩,⟨?_,hR⟩⟩⟩)
  ·show Qr (Qr A.1.2 A.1.1 _) A.1.1 _ q=A.1.2 q
   rw [Q5q _ _ hq,Q5q _ _ hq]
  ·show Qr (Qr B.1.2 B.1.1 _) B.1.1 _ q=B.1.2 q
   rw [Q5q _ _ hq,Q5q _ _ hq]
  ·show KR c D0 _ (cf,0) (Q1.Q17 (Qr (Qr A.1.2 A.1.1 _) A.1.1 _ A.1.1) []) (Q1.Q17 (Qr (Qr B.1.2 B.1.1 _) B.1.1 _ B.1.1) [])
   rw [Q5P,Q5P]
   refine ⟨?_,⟨hK.ok.Q14,hK.ok.s,hK.ok.f,hK.ok.all⟩,hK.Q14,Nat.le_refl 0,hK.dr⟩
   rw [show a.2.1.1=QN c D0 b.2.1.1 from hK.eq];rfl
def Rn.two {α:Type} (g g1:Fm α):Rn α:=⟨λx=>g.1+(x - g1.1),λx=>g1.1<=x,g,g1,λx y hx hy h=>by omega,λi=>⟨Nat.le_add_right _ _,by omega⟩,λx h1 h2=>by omega⟩
theorem Q6U {α:Type} {Inv:α->Prop} (g g1:Fm α):FR (Rn.two g g1) Inv g g1:=⟨⟨0,rfl,rfl⟩,λx h1 h2=>absurd h1 (Nat.not_le.2 h2),λ_ _ _=>rfl,λ_ _ _=>rfl⟩
theorem Q8T:K87.A=some ():=by kernel_rfl
def Cx.two (Y Z:YF):Cx:=⟨Rn.two Y.1 Z.1,Rn.two Y.2.1 Z.2.1,Rn.two Y.2.2.1 Z.2.2.1,Rn.two Y.2.2.2.1 Z.2.2.2.1,Rn.two Y.2.2.2.2.1 Z.2.2.2.2.1,Rn.two Y.2.2.2.2.2.1 Z.2.2.2.2.2.1,Rn.two Y.2.2.2.2.2.2.1 Z.2.2.2.2.2.2.1⟩
theorem QbN (Y Z:YF):RF (Cx.two Y Z) Y Z:=⟨Q6U _ _,Q6U _ _,Q6U _ _,Q6U _ _,Q6U _ _,Q6U _ _,Q6U _ _⟩
abbrev E0:St:=((0,λ_=>U.dft .Q7),(0,λ_=>U.dft .Q1x),(0,λ_=>U.dft .Qy),(0,λ_=>U.dft .Q10),(0,λ_=>U.dft .Q11),(0,λ_=>U.dft .Q18),(0,λ_=>U.dft .Q1j),(0,λ_=>[]),())
def Sat {α:Type} (x:Option α) (Q:α->Prop):Prop:=∀a,x=some a->Q a
theorem Qes {α:Type} {a:α} {Q:α->Prop} (h:Q a):Sat (some a) Q:=λb hb=>by cases hb;exact h
theorem Qew {α:Type} {Q:α->Prop}:Sat (none:Option α) Q:=λb hb=>by cases hb
theorem Qet {α:Type} {x:Option α}:Sat x (λ_=>True):=λ_ _=>trivial
theorem Qer {α β:Type} {x:Option α} {k:α->Option β} {Q:β->Prop} (P:α->Prop) (h:Sat x P) (hk:∀a,P a->Sat (k a) Q):Sat (Q0 x none k) Q:=by
 cases x with
 |none=>exact Qew
 |some a=>exact hk a (h a rfl)
theorem Qeu {α:Type} {b:Bool} {x y:Option α} {Q:α->Prop} (h:Sat x Q) (h2:Sat y Q):Sat (bif b then x else y) Q:=by
 cases b with
 |true=>exact h
 |false=>exact h2
theorem Qex {α β:Type} {step:α->Option (α⊕β)} (I:α->Prop) {Q:β->Prop} (h:∀a,I a->Sat (step a) (λr=>match r with| .inl a'=>I a'| .inr b=>Q b)):∀(N:Nat) (a:α),I a->Sat (Z8 N step a) Q
 |0,a,_=>λb hb=>by cases hb
 |N+1,a,ha=>λb hb=>by
  unfold Z8 at hb
  cases hs:step a with
  |none=>rw [hs] at hb;cases hb
  |some r=>
   rw [hs] at hb
   have hr:=h a ha r hs
   cases r with
   |inl a'=>exact Qex I h N a' hr b hb
   |inr b'=>cases hb;exact hr
theorem sat_bif' {α:Type} {b:Bool} {x y:Option α} {Q:α->Prop} (h:b=true->Sat x Q) (h2:b=false->Sat y Q):Sat (bif b then x else y) Q:=by
 cases b with
 |true=>exact h rfl
 |false=>exact h2 rfl
theorem QeF {α β γ:Type} {x:α⊕β} {f:α->Option γ} {g:β->Option γ} {Q:γ->Prop} (h:∀a,x= .inl a->Sat (f a) Q) (h2:∀b,x= .inr b->Sat (g b) Q):Sat (Q3V x f g) Q:=by
 cases x with
 |inl a=>exact h a rfl
 |inr b=>exact h2 b rfl
structure Ok5 (s:Int):Prop where
 n5:s≠5
 n6:s≠6
 n7:s≠7
structure OkO (o:QJ):Prop where
 t:o.Q4M=1->o.fType≠11/\o.fType≠0/\o.fType≠8/\o.fType≠9
structure Sd (x:Q5):Prop where
 st:Ok5 x.Q1w
 ask:x.Q4L=true->x.Q2y.fType=2
abbrev Sm (x y:Q5):Prop:=x.Q1w=y.Q1w/\x.Q4L=y.Q4L/\x.Q2y=y.Q2y
structure Slv (K:Q1):Prop where
 st:∀i,Sd (K.Qf i)
 out:∀o∈K.Q2p,OkO o
structure Qev (K:Q1):Prop where
 c:K.Qs.Q2t=true
 s:Slv K
theorem QeC {K:Q1} {p:Nat} {x:Q5} (h:Slv K) (e:Sd x):Slv (Q1.QT K (Qr K.Qf p x)):=⟨λi=>by
 show Sd (Qr K.Qf p x i)
 unfold Qr
 by_cases hi:i=p
 ·rw [if_pos hi];exact e
 ·rw [if_neg hi];exact h.st i,h.out⟩
theorem Qey {K:Q1} {p:Nat} {x:Q5} (h:Slv K) (e:Sm x (K.Qf p)):Slv (Q1.QT K (Qr K.Qf p x)):=QeC h ⟨by rw [e.1];exact (h.st p).st,by rw [e.2.1,e.2.2];exact (h.st p).ask⟩
theorem Qez {K:Q1} {p:Nat} {x:Q5} (h:Qev K) (e:Sm x (K.Qf p)):Qev (Q1.QT K (Qr K.Qf p x)):=⟨h.c,Qey h.s e⟩
theorem QeD {K:Q1} {p:Nat} {v:Int} (h:Slv K) (e:Ok5 v):Slv (Q1.QT K (Qr K.Qf p (Q5.Q3C (K.Qf p) v))):=QeC h ⟨e,(h.st p).ask⟩
theorem QeJ {K:Q1} {p:Nat} {v:Int} (h:Qev K) (e:Ok5 v):Qev (Q1.QT K (Qr K.Qf p (Q5.Q3C (K.Qf p) v))):=⟨h.c,QeD h.s e⟩
theorem QcI {s e:Int} {b:Bool} (h:Ok5 s) (he:b=true\/e≠4):Sat (Q1h s e b) (λr=>Ok5 r.1.1):=by
 unfold Q1h Q1h.gen
 refine Qer (λ_=>True) Qet (λr0 _=>Qer (λr=>match r with| .inl x=>Ok5 x.1.1| .inr x=>Ok5 x.1.1) ?_ (λr9 h9=>QeF (λx e=>by subst e;exact Qes h9) (λx e=>by subst e;exact Qes h9)))
 refine Qeu (Qes ⟨by decide,by decide,by decide⟩) ?_
 refine Qer (λ_=>True) Qet (λr1 _=>Qeu (Qes ⟨by decide,by decide,by decide⟩) ?_)
 refine Qer (λ_=>True) Qet (λr2 _=>?_)
 refine Qer (λr=>r.1.1=s/\r.1.2.1=e/\r.1.2.2.1=b) (Qeu (Qes ⟨rfl,rfl,rfl⟩) (Qer (λ_=>True) Qet (λr3 _=>Qes ⟨rfl,rfl,rfl⟩))) (λr4 ⟨g1,g2,g3⟩=>?_)
 refine Qeu (Qes ⟨by decide,by decide,by decide⟩) ?_
 rw [g1,g2,g3]
 refine Qer (λr=>r.1=true->e=4) (sat_bif' (λh4=>Qer (λ_=>True) Qet (λr5 _=>Qes λ_=>by unfold ieq at h4;simpa using h4)) (λ_=>Qes λh=>by cases h)) (λr6 g6=>?_)
 refine sat_bif' (λh6=>?_) (λ_=>?_)
 ·rcases he with he|he
  ·rw [he]
   exact Qes ⟨by decide,by decide,by decide⟩
  ·exact absurd (g6 h6) he
 ·have e5:ieq s 5=false:=Qba h.n5
  rw [e5]
  refine Qer (λr=>r.1=false) (Qeu (Qes rfl) (Qes rfl)) (λr7 h7=>?_)
  rw [h7]
  refine Qer (λ_=>True) Qet (λr8 _=>Qeu (Qes ⟨by decide,by decide,by decide⟩) (Qeu (Qes ⟨by decide,by decide,by decide⟩) (Qes h)))
theorem QeP {s d:Int} {m:Bool} (h:Ok5 s):Sat (Q3q s d m true) (λr=>Ok5 r.1.1):=by
 unfold Q3q Q3q.gen
 refine Qer (λ_=>True) Qet (λr1 _=>Qeu (Qes h) ?_)
 simp only [cond_true,Q12]
 refine sat_bif' (λ_=>Qes ⟨by decide,by decide,by decide⟩) (λh6=>?_)
 have h6:d=6:=by unfold ine at h6;simpa using h6
 subst h6
 have e4:ieq 6 4=false:=rfl
 have e5:ieq 6 5=false:=rfl
 have e3:ieq 6 3=false:=rfl
 have e6:ieq 6 6=true:=rfl
 rw [e4,e5,e3,e6]
 simp only [cond_false,cond_true]
 exact Qer (λ_=>True) Qet (λr4 _=>Qeu (Qes h) (Qes ⟨by decide,by decide,by decide⟩))
theorem out_ok' {n:Int} {m:Q8} {l:List Qi} {w:Bool} {K:Q1} (h:Slv K) (hm:m.fType≠11/\m.fType≠0/\m.fType≠8/\m.fType≠9):Sat (K26 n m l w K) (λr=>r.2.1.1.Qs=K.Qs/\Slv r.2.1.1):=by
 unfold K26 K26.gen
 refine Qer (λ_=>True) Qet (λr0 _=>Qeu (Qeu (Qes ⟨rfl,h.st,λo ho=>?_⟩) Qew) (Qes ⟨rfl,h⟩))
 have ho:o∈K.Q2p++QJ.mk 1 n 0 w m.fType m.Q2Y r0.1.1:: []:=ho
 rcases List.mem_append.1 ho with ho|ho
 ·exact h.out o ho
 ·rw [List.mem_singleton] at ho
  subst ho
  exact ⟨λ_=>hm⟩
theorem outT {n:Int} {m:Q8} {l:List Qi} {w:Bool} {K:Q1} (h:Qev K) (hm:m.fType≠11/\m.fType≠0/\m.fType≠8/\m.fType≠9):Sat (K26 n m l w K) (λr=>Qev r.2.1.1):=λr hr=>by
 obtain ⟨e1,e2⟩:=out_ok' h.s hm r hr
 exact ⟨by rw [e1];exact h.c,e2⟩
theorem QeR {p:Nat} {K:Q1} (h:Qev K):Sat (K20 p K) (λr=>Qev r.2.1.1):=by
 unfold K20 K20.gen
 repeat' first
  |exact Qew
  |(refine Qes ?_;exact Qez (by assumption) ⟨rfl,rfl,rfl⟩)
  |(refine Qes ?_;assumption)
  |refine Qeu ?_ ?_
  |refine Qer (λa=>Qev a.2.1) ?_ (λa ha=>?_)
  |refine Qer (λ_=>True) Qet (λa _=>?_)
theorem QeY {p:Nat} {q:QX} {K:Q1} (h:Qev K):Sat (K14 p q K) (λr=>Qev r.2.1.1):=by
 unfold K14 K14.gen
 repeat' first
  |exact Qew
  |(refine Qes ?_;exact Qez (by assumption) ⟨rfl,rfl,rfl⟩)
  |(refine Qes ?_;assumption)
  |refine Qeu ?_ ?_
  |refine Qer (λr=>Qev r.2.1.1) (QeR (by assumption)) (λa ha=>?_)
  |refine Qer (λa=>Qev a.2.1) ?_ (λa ha=>?_)
  |refine Qer (λ_=>True) Qet (λa _=>?_)
theorem QeL {K:Q1} {q:QX} (h:Qev K):Qev (Q1.Q48 K q):=⟨h.c,⟨h.s.st,h.s.out⟩⟩
theorem ageS (now:Int) (s:Q5) (g6:Fm Qe) (g12:Nat×(Nat->List (Qd×List Int))):Sat (K37 now s g6 g12) (λr=>Sm r.2.1.1 s):=by
 unfold K37 K37.gen
 refine Qer (λr=>Sm r.2.1 s) (Qer (λ_=>True) Qet (λ_ _=>Qer (λ_=>True) Qet (λ_ _=>Qes ⟨rfl,rfl,rfl⟩))) (λr2 h2=>Qer (λ_=>True) Qet (λr3 _=>Qer (λ_=>True) Qet (λr4 _=>Qer (λr=>Sm r.2.1 s) ?_ (λr5 h5=>Qes h5))))
 unfold K37.F0
 refine Qex (λa=>Sm a.2.1 s) (λa ha=>?_) _ _ h2
 unfold K37.QU
 repeat' first
  |exact Qew
  |exact Qes ha
  |(refine Qes ?_;assumption)
  |refine Qeu ?_ ?_
  |refine Qer (λa=>Sm a.2.1 s) ?_ (λa ha=>?_)
  |refine Qer (λ_=>True) Qet (λa _=>?_)
theorem QeN (s:Q5) (g6:Fm Qe) (g12:Nat×(Nat->List (Qd×List Int))):Sat (K38 s g6 g12) (λr=>Sm r.2.1.1 s):=by
 unfold K38 K38.gen
 exact Qer (λr=>Sm r.2.1 s) (Qer (λ_=>True) Qet (λ_ _=>Qer (λ_=>True) Qet (λ_ _=>Qes ⟨rfl,rfl,rfl⟩))) (λr2 h2=>Qes h2)
theorem QeS (b:Bool) (s:Q5) (g7:Fm Qg) (g10:Fm Qz):Sat (K39 b s g7 g10) (λr=>Sm r.2.1.1 s):=by
 unfold K39 K39.gen
 repeat' first
  |exact Qew
  |exact Qes ⟨rfl,rfl,rfl⟩
  |(refine Qes ?_;assumption)
  |refine Qeu ?_ ?_
  |refine Qer (λa=>Sm a.2.1 s) ?_ (λa ha=>?_)
  |refine Qer (λ_=>True) Qet (λa _=>?_)
theorem QeV (b:Bool) (s:Q5) (g7:Fm Qg) (g8:Fm Qb):Sat (K40 b s g7 g8) (λr=>(r.1.1.fType≠11/\r.1.1.fType≠0/\r.1.1.fType≠8/\r.1.1.fType≠9)/\Sm r.2.1.1 s):=by
 have hp:∀(q:Int) (x:Qb),Sat (Q3M q x) (λr=>r.1.1.fType=2):=λq x=>by
  unfold Q3M Q3M.gen
  exact Qer (λ_=>True) Qet (λ_ _=>Qes rfl)
 have hd:∀(q z:Int) (x:Qg),Sat (K57 q z x) (λr=>r.1.1.fType=1):=λq z x=>by
  unfold K57 K57.gen
  exact Qes rfl
 unfold K40 K40.gen
 refine Qeu ?_ ?_
 ·refine Qer (λr=>r.2.1=s/\r.2.2.1.fType=2) (Qer (λ_=>True) Qet (λr0 _=>Qer _ (hp _ _) (λr1 h1=>Qes ⟨rfl,h1⟩))) (λr2 ⟨h2,h3⟩=>Qes ⟨?_,?_⟩)
  ·show r2.2.2.1.fType≠11/\r2.2.2.1.fType≠0/\r2.2.2.1.fType≠8/\r2.2.2.1.fType≠9
   rw [h3];decide
  ·show Sm r2.2.1 s
   rw [h2];exact ⟨rfl,rfl,rfl⟩
 ·refine Qer (λ_=>True) Qet (λr0 _=>Qer _ (hd _ _ _) (λr1 h1=>Qes ⟨?_,rfl,rfl,rfl⟩))
  show r1.1.1.fType≠11/\r1.1.1.fType≠0/\r1.1.1.fType≠8/\r1.1.1.fType≠9
  rw [h1];decide
theorem Qfd {p:Nat} {K:Q1} {g6:Fm Qe} {g12:Nat×(Nat->List (Qd×List Int))} (h:Qev K):Sat (K17 p K g6 g12) (λr=>Qev r.2.1.1):=by
 unfold K17 K17.gen
 repeat' first
  |exact Qew
  |(refine Qes ?_;exact Qez (by assumption) ⟨rfl,rfl,rfl⟩)
  |(refine Qes ?_;assumption)
  |(refine Qes ?_;exact QeJ (by assumption) (by assumption))
  |(refine Qes ?_;exact Qez (by assumption) (by assumption))
  |(refine Qes ?_;exact QeL (by assumption))
  |refine Qeu ?_ ?_
  |refine Qer (λr=>Qev r.2.1.1) (QeR (by assumption)) (λa ha=>?_)
  |refine Qer (λr=>Ok5 r.1.1) (QcI ((Qev.s (by assumption)).st _).st (.inl (Qev.c (by assumption)))) (λa ha=>?_)
  |refine Qer _ (ageS _ _ _ _) (λa ha=>?_)
  |refine Qer _ (QeN _ _ _) (λa ha=>?_)
  |refine Qer (λa=>Qev a.2.1) ?_ (λa ha=>?_)
  |refine Qer (λ_=>True) Qet (λa _=>?_)
theorem Qf7 (a:_) (hc:Qev a.2.1):Sat (K18.F0 a) (λb=>Qev b.2.1):=by
 unfold K18.F0
 refine Qex (λa=>Qev a.2.1) (λa ha=>?_) _ a hc
 unfold K18.QU
 repeat' first
  |exact Qew
  |exact Qes ha
  |(refine Qes ?_;assumption)
  |refine Qeu ?_ ?_
  |refine Qer (λa=>Qev a.2.1) ?_ (λa ha=>?_)
  |refine Qer (λ_=>True) Qet (λa _=>?_)
theorem Qf4 (a:_) (hc:Qev a.2.1):Sat (K18.F1 a) (λb=>Qev b.2.1):=by
 unfold K18.F1
 refine Qex (λa=>Qev a.2.1) (λa ha=>?_) _ a hc
 unfold K18.Q2x
 repeat' first
  |exact Qew
  |exact Qes ha
  |(refine Qes ?_;assumption)
  |refine Qeu ?_ ?_
  |refine Qer (λa=>Qev a.2.1) ?_ (λa ha=>?_)
  |refine Qer (λ_=>True) Qet (λa _=>?_)
theorem QeT {s d:Int} {m b:Bool} (h:Ok5 s) (hb:b=true):Sat (Q3q s d m b) (λr=>Ok5 r.1.1):=by subst hb;exact QeP h
theorem Qf5 (a:_) (hc:Qev a.2.1):Sat (K18.F2 a) (λb=>Qev b.2.1):=by
 unfold K18.F2
 refine Qex (λa=>Qev a.2.1) (λa ha=>?_) _ a hc
 unfold K18.Qak
 repeat' first
  |exact Qew
  |exact Qes ha
  |(refine Qes ?_;assumption)
  |(refine Qes ?_;exact QeJ (by assumption) (by assumption))
  |(refine Qes ?_;exact Qez (by assumption) (by assumption))
  |refine Qeu ?_ ?_
  |refine Qer (λr=>Qev r.2.1.1) (QeY (by assumption)) (λa ha=>?_)
  |refine Qer (λr=>Ok5 r.1.1) (QeT ((Qev.s (by assumption)).st _).st (Qev.c (by assumption))) (λa ha=>?_)
  |refine Qer _ (QeS _ _ _ _) (λa ha=>?_)
  |refine Qer (λa=>Qev a.2.1) ?_ (λa ha=>?_)
  |refine Qer (λ_=>True) Qet (λa _=>?_)
theorem Qf1 {K:Q1} {q:Q13} (h:Qev K):Qev (Q1.Q6A K q):=⟨h.c,⟨h.s.st,h.s.out⟩⟩
theorem QeX {K:Q1} {g6:Fm Qe} {g7:Fm Qg} {g9:Fm Qh} {g10:Fm Qz} (h:Qev K):Sat (K18 K g6 g7 g9 g10) (λr=>Qev r.2.1.1):=by
 unfold K18 K18.gen
 repeat' first
  |exact Qew
  |(refine Qes ?_;assumption)
  |(refine Qes ?_;exact QeL (by assumption))
  |(refine Qes ?_;exact Qf1 (by assumption))
  |refine Qeu ?_ ?_
  |refine Qer (λb=>Qev b.2.1) (Qf7 _ (by assumption)) (λa ha=>?_)
  |refine Qer (λb=>Qev b.2.1) (Qf4 _ (by assumption)) (λa ha=>?_)
  |refine Qer (λb=>Qev b.2.1) (Qf5 _ (by assumption)) (λa ha=>?_)
  |refine Qer (λa=>Qev a.2.1) ?_ (λa ha=>?_)
  |refine Qer (λ_=>True) Qet (λa _=>?_)
abbrev Ty (m:Q8):Prop:=m.fType≠11/\m.fType≠0/\m.fType≠8/\m.fType≠9
theorem QeA {a b:Int} (h:ieq a b=true):a=b:=by unfold ieq at h;simpa using h
theorem Qf6 {n now:Int} {K:Q1} {g7:Fm Qg} {g8:Fm Qb} {g12:Nat×(Nat->List (Qd×List Int))} (h:Qev K):Sat (K33 n now K g7 g8 g12) (λr=>Qev r.2.1.1):=by
 unfold K33 K33.gen
 refine Qer (λ_=>True) Qet (λr0 _=>?_)
 refine Qer (λr=>Qev r.2.1/\r.1.2.2.2.1=false) (sat_bif' (λh6=>absurd (QeA h6) (h.s.st _).st.n6) (λ_=>Qes ⟨h,rfl⟩)) (λr2 ⟨h2,e2⟩=>?_)
 refine Qer (λr=>Qev r.2.1) (sat_bif' (λh=>by rw [e2] at h;cases h) (λ_=>Qes h2)) (λr11 h11=>?_)
 refine Qer (λr=>Qev r.2.1/\r.1.2.2.2.1=false) (sat_bif' (λh6=>absurd (QeA h6) (h11.s.st _).st.n6) (λ_=>Qes ⟨h11,rfl⟩)) (λr13 ⟨h13,e13⟩=>?_)
 refine Qer (λr=>Qev r.2.1) (sat_bif' (λh=>by rw [e13] at h;cases h) (λ_=>Qes h13)) (λr23 h23=>?_)
 refine Qer (λ_=>True) Qet (λr24 _=>?_)
 refine Qer (λr=>Qev r.2.1) (Qeu (Qer (λ_=>True) Qet (λ_ _=>Qes h23)) (Qes h23)) (λr26 h26=>?_)
 refine Qer (λr=>Qev r.2.1) (Qeu (Qer (λ_=>True) Qet (λ_ _=>Qes (Qez h26 ⟨rfl,rfl,rfl⟩))) (Qes h26)) (λr28 h28=>?_)
 refine Qeu ?_ (Qes h28)
 refine Qer (λr=>Qev r.2.1/\Ty r.2.2.1) (Qer _ (QeV _ _ _ _) (λr29 ⟨g1,g2⟩=>Qes ⟨Qez h28 g2,g1⟩)) (λr30 ⟨h30,t30⟩=>?_)
 refine Qer (λr=>Qev r.2.1) (Qer (λr=>Qev r.2.1.1) (outT h30 t30) (λr31 h31=>Qes h31)) (λr32 h32=>?_)
 refine Qer (λr=>Qev r.2.1) (Qer (λ_=>True) Qet (λ_ _=>Qes (Qez h32 ⟨rfl,rfl,rfl⟩))) (λr34 h34=>?_)
 exact Qer (λ_=>True) Qet (λr35 _=>Qer (λ_=>True) Qet (λr36 _=>Qes (Qez h34 ⟨rfl,rfl,rfl⟩)))
theorem tickT {now:Int} {K:Q1} {g6:Fm Qe} {g7:Fm Qg} {g8:Fm Qb} {g9:Fm Qh} {g10:Fm Qz} {g12:Nat×(Nat->List (Qd×List Int))} (h:Qev K):Sat (K34 now K g6 g7 g8 g9 g10 g12) (λr=>Qev r.2.1.1):=by
 have hF0:∀a:_,Qev a.2.1->Sat (K34.F0 a) (λb=>Qev b.2.1):=λa ha=>by
  unfold K34.F0
  refine Qex (λa=>Qev a.2.1) (λa ha=>?_) _ a ha
  unfold K34.QU
  exact Qeu (Qer (λr=>Qev r.2.1) (Qer (λ_=>True) Qet (λ_ _=>Qer (λr=>Qev r.2.1.1) (Qfd ha) (λr1 h1=>Qes h1))) (λr2 h2=>Qes h2)) (Qes ha)
 have hF1:∀a:_,Qev a.2.1->Sat (K34.F1 a) (λb=>Qev b.2.1):=λa ha=>by
  unfold K34.F1
  refine Qex (λa=>Qev a.2.1) (λa ha=>?_) _ a ha
  unfold K34.Q2x
  exact Qeu (Qer (λr=>Qev r.2.1) (Qer (λr=>Qev r.2.1.1) (Qf6 ha) (λr0 h0=>Qes h0)) (λr1 h1=>Qes h1)) (Qes ha)
 unfold K34 K34.gen
 refine Qer (λb=>Qev b.2.1) (hF0 _ ⟨h.c,⟨h.s.st,h.s.out⟩⟩) (λr0 h0=>Qer (λ_=>True) Qet (λr1 _=>Qeu ?_ Qew))
 exact Qer (λr=>Qev r.2.1) (Qeu (Qer (λr=>Qev r.2.1.1) (QeX h0) (λr2 h2=>Qes h2)) (Qes h0)) (λr3 h3=>Qer (λb=>Qev b.2.1) (hF1 _ h3) (λr4 h4=>Qes h4))
theorem QeQ {n:Int} {m:Q8} {l:List Qi} {w:Bool} {K:Q1} (h:Slv K) (hm:Ty m):Sat (K26 n m l w K) (λr=>Slv r.2.1.1):=λr hr=>(out_ok' h hm r hr).2
theorem Qfc {p:Nat} {m:Q8} {l:List Qi} {K:Q1} {g6:Fm Qe} {g12:Nat×(Nat->List (Qd×List Int))} (h:Slv K):Sat (K22 p m l K g6 g12) (λr=>Slv r.2.1.1):=by
 unfold K22 K22.gen
 repeat' first
  |exact Qew
  |(refine Qes ?_;exact Qey (by assumption) ⟨rfl,rfl,rfl⟩)
  |(refine Qes ?_;assumption)
  |refine Qeu ?_ ?_
  |refine Qer (λa=>Slv a.2.1) ?_ (λa ha=>?_)
  |refine Qer (λ_=>True) Qet (λa _=>?_)
theorem QeO {K:Q1} {o:QJ} (h:Slv K) (ho:o.Q4M≠1):Slv (Q1.Q17 K (K.Q2p++o::Qm QJ)):=⟨h.st,λx hx=>by
 have hx:x∈K.Q2p++ [o]:=hx
 rcases List.mem_append.1 hx with hx|hx
 ·exact h.out x hx
 ·rw [List.mem_singleton] at hx
  subst hx
  exact ⟨λe=>absurd e ho⟩⟩
theorem Qf2 {p:Nat} {o:Int} {K:Q1} {g5:Fm Qo} {g7:Fm Qg} {g8:Fm Qb} {g9:Fm Qh} {g10:Fm Qz} (h:Slv K):Sat (K29 p o K g5 g7 g8 g9 g10) (λr=>Slv r.2.1.1):=by
 have hF0:∀a:_,Slv a.2.1->Sat (K29.F0 a) (λb=>Slv b.2.1):=λa ha=>by
  unfold K29.F0
  refine Qex (λa=>Slv a.2.1) (λa ha=>?_) _ a ha
  unfold K29.QU
  repeat' first
   |exact Qew
   |exact Qes ha
   |(refine Qes ?_;exact Qey (by assumption) ⟨rfl,rfl,rfl⟩)
   |(refine Qes ?_;assumption)
   |refine Qeu ?_ ?_
   |refine Qer (λa=>Slv a.2.1) ?_ (λa ha=>?_)
   |refine Qer (λ_=>True) Qet (λa _=>?_)
 unfold K29 K29.gen
 refine Qer (λ_=>True) Qet (λ_ _=>Qer (λ_=>True) Qet (λr1 _=>?_))
 refine Qer (λr=>Slv r.2.1) (Qer (λ_=>True) Qet (λ_ _=>Qer (λ_=>True) Qet (λ_ _=>Qer (λ_=>True) Qet (λ_ _=>Qes ⟨h.st,h.out⟩)))) (λr5 h5=>?_)
 refine Qer (λr=>Slv r.2.1) ?_ (λr11 h11=>Qer (λr=>Ok5 r.1.1) (QcI (h11.st _).st (.inr (by decide))) (λr12 h12=>Qes (QeD h11 h12)))
 refine Qeu ?_ (Qeu (Qeu (Qes (QeO h5 (by show (3:Int)≠1;decide))) Qew) (Qes h5))
 refine Qer (λr=>Slv r.2.1) (Qeu (Qes (QeO h5 (by show (2:Int)≠1;decide))) Qew) (λr6 h6=>?_)
 refine Qer (λr=>Slv r.2.1) (Qer (λ_=>True) Qet (λ_ _=>Qer (λ_=>True) Qet (λ_ _=>Qes h6))) (λr9 h9=>?_)
 exact Qeu (Qer (λb=>Slv b.2.1) (hF0 _ ⟨h9.st,h9.out⟩) (λr10 h10=>Qes h10)) Qew
theorem QeU {p:Nat} {m:Q8} {now:Int} {K:Q1} {g5:Fm Qo} {g7:Fm Qg} {g8:Fm Qb} {g9:Fm Qh} {g10:Fm Qz} (h:Slv K):Sat (K19 p m now K g5 g7 g8 g9 g10) (λr=>Slv r.2.1.1):=by
 unfold K19 K19.gen
 repeat' first
  |exact Qew
  |(refine Qes ?_;exact Qey (by assumption) ⟨rfl,rfl,rfl⟩)
  |(refine Qes ?_;assumption)
  |refine Qeu ?_ ?_
  |refine Qer (λr=>Slv r.2.1.1) (Qf2 (by assumption)) (λa ha=>?_)
  |refine Qer (λa=>Slv a.2.1) ?_ (λa ha=>?_)
  |refine Qer (λ_=>True) Qet (λa _=>?_)
theorem QeW {K:Q1} {q:Q13} (h:Slv K):Slv (Q1.Q6A K q):=⟨h.st,h.out⟩
theorem backS {p:Nat} {m:Q8} {K:Q1} {g7:Fm Qg} {g9:Fm Qh} (h:Slv K):Sat (K13 p m K g7 g9) (λr=>Slv r.2.1.1):=by
 unfold K13 K13.gen
 repeat' first
  |exact Qew
  |(refine Qes ?_;assumption)
  |(refine Qes ?_;exact QeW (by assumption))
  |refine Qeu ?_ ?_
  |refine Qer (λa=>Slv a.2.1) ?_ (λa ha=>?_)
  |refine Qer (λ_=>True) Qet (λa _=>?_)
theorem QeZ {n:Int} {m:Q8} {now:Int} {K:Q1} {g8:Fm Qb} (h:Slv K):Sat (K16 n m now K g8) (λr=>Slv r.2.1.1):=by
 have ha:∀s t,Sat (Q3B m s t) (λr=>r.1.2.1=true->Ty r.1.1):=λs t=>by
  unfold Q3B Q3B.gen
  exact Qer (λ_=>True) Qet (λr1 _=>Qeu (Qes λh=>by cases h) (Qes λ_=>by show (3:Int)≠11/\(3:Int)≠0/\(3:Int)≠8/\(3:Int)≠9;decide))
 unfold K16 K16.gen
 refine Qer (λ_=>True) Qet (λr0 _=>sat_bif' (λhty=>?_) (λ_=>Qeu ?_ (Qeu ?_ (Qes h))))
 ·have hty:=QeA hty
  refine Qer (λr=>(Slv r.2.1/\r.2.2.1.fType=2)/\(r.1.2.2.1=true->Ty r.2.2.2.1)) (Qer (λ_=>True) Qet (λ_ _=>Qer _ (ha _ _) (λr2 h2=>Qes ⟨⟨h,hty⟩,h2⟩))) (λr3 ⟨⟨h3,y3⟩,t3⟩=>sat_bif' (λht=>?_) (λ_=>Qes h3))
  refine Qer (λr=>Slv r.2.1/\r.2.2.1.fType=2) (Qer (λr=>Slv r.2.1.1) (QeQ h3 (t3 ht)) (λr4 h4=>Qes ⟨h4,y3⟩)) (λr5 ⟨h5,y5⟩=>Qes ?_)
  have e:∀(f:Nat->Q5) (i:Nat) (x y:Q5),Qr (Qr f i x) i y=Qr f i y:=λf i x y=>by
   funext j
   unfold Qr
   by_cases hj:j=i
   ·rw [if_pos hj,if_pos hj]
   ·rw [if_neg hj,if_neg hj,if_neg hj]
  show Slv (Q1.QT _ (Qr (Qr _ _ _) _ _))
  rw [e,Q5P]
  exact QeC h5 ⟨(h5.st _).st,λ_=>y5⟩
 ·exact Qer (λ_=>True) Qet (λ_ _=>Qer (λ_=>True) Qet (λ_ _=>Qes h))
 ·refine Qer (λr=>Slv r.2.1) (Qer (λ_=>True) Qet (λ_ _=>Qer (λ_=>True) Qet (λ_ _=>Qes h))) (λr10 h10=>Qeu (Qes (Qey h10 ⟨rfl,rfl,rfl⟩)) (Qes h10))
theorem sentS {n ty sq now:Int} {K:Q1} {g7:Fm Qg} {g8:Fm Qb} (hn:0<=now/\now<=4000000000000000) (h:Slv K):Sat (K31 n ty sq now K g7 g8) (λr=>Slv r.2.1.1):=by
 have hp:∀(m:Q8) (s:Qd),m.fType=2->Sat (Q3P m s now) (λr=>Ty r.1.1):=λm s hm=>by
  unfold Q3P Q3P.gen Q3E Q3E.gen
  rw [hm,Q4P hn.1,Q4P hn.2]
  exact Qes (by show (10:Int)≠11/\(10:Int)≠0/\(10:Int)≠8/\(10:Int)≠9;decide)
 unfold K31 K31.gen
 refine Qer (λ_=>True) Qet (λr0 _=>Qeu ?_ (Qeu ?_ (Qeu ?_ (Qeu ?_ (Qes h)))))
 ·exact Qer (λr=>r.1=false) (sat_bif' (λh6=>absurd (QeA h6) (h.st _).st.n6) (λ_=>Qes rfl)) (λr1 h1=>sat_bif' (λht=>by rw [h1] at ht;cases ht) (λ_=>Qes h))
 ·exact Qer (λ_=>True) Qet (λ_ _=>Qer (λ_=>True) Qet (λ_ _=>Qes h))
 ·exact Qer (λ_=>True) Qet (λ_ _=>Qer (λ_=>True) Qet (λ_ _=>Qes h))
 ·refine Qer (λr=>r.1=true->(K.Qf r0.1.1).Q4L=true) (sat_bif' (λht=>Qes λ_=>ht) (λ_=>Qes λh=>by cases h)) (λr8 h8=>sat_bif' (λht=>?_) (λ_=>Qes h))
  exact Qer (λr=>Slv r.2.1/\Ty r.2.2.1) (Qer (λ_=>True) Qet (λ_ _=>Qer _ (hp _ _ ((h.st _).ask (h8 ht))) (λr10 h10=>Qes ⟨h,h10⟩))) (λr11 ⟨h11,t11⟩=>Qer (λr=>Slv r.2.1.1) (QeQ h11 t11) (λr12 h12=>Qes h12))
theorem QeE {cf:Q9} {K:Q1} {g5:Fm Qo} {g6:Fm Qe} {g7:Fm Qg} {g8:Fm Qb} {g9:Fm Qh} {g10:Fm Qz} {g12:Nat×(Nat->List (Qd×List Int))} (h:∀o∈K.Q2p,OkO o):Sat (K15 cf K g5 g6 g7 g8 g9 g10 g12) (λr=>Slv r.2.1.1):=by
 have zer:∀l:List Q5,(∀x∈l,x=Q5.zero)->∀j,l.getD j Q5.zero=Q5.zero:=λl hl j=>by
  by_cases h:j < l.length
  ·exact hl _ (Q6T h)
  ·exact Qc0 h
 have z8:∀x∈(Q5.zero::Q5.zero::Q5.zero::Q5.zero::Q5.zero::Q5.zero::Q5.zero::Q5.zero::Qm Q5),x=Q5.zero:=λx hx=>by
  simp only [Qm,List.mem_cons,List.not_mem_nil,or_false,or_self] at hx
  exact hx
 unfold K15 K15.gen
 refine Qer (λr=>Slv r.2.1) (Qer (λ_=>True) Qet (λ_ _=>Qer (λ_=>True) Qet (λ_ _=>Qer (λ_=>True) Qet (λ_ _=>Qes ⟨λi=>?_,h⟩)))) (λr3 h3=>Qer (λr=>Slv r.2.1) ?_ (λr4 h4=>Qes h4))
 ·show Sd (List.getD (Q5.zero::Q5.zero::Q5.zero::Q5.zero::Q5.zero::Q5.zero::Q5.zero::Q5.zero::Qm Q5) i Q5.zero)
  rw [zer _ z8 i]
  exact ⟨⟨by decide,by decide,by decide⟩,λh=>by cases h⟩
 ·unfold K15.F0
  refine Qex (λa=>Slv a.2.1) (λa ha=>?_) _ _ h3
  unfold K15.QU
  refine Qeu ?_ (Qes ha)
  refine Qer (λr=>Slv r.2.1) (Qer (λ_=>True) Qet (λ_ _=>Qes ha)) (λr1 h1=>Qer (λr=>Slv r.2.1) ?_ (λr8 h8=>Qes h8))
  refine Qer (λ_=>True) Qet (λ_ _=>Qer (λ_=>True) Qet (λ_ _=>Qer (λ_=>True) Qet (λ_ _=>Qer (λ_=>True) Qet (λ_ _=>Qer (λ_=>True) Qet (λ_ _=>Qer (λ_=>True) Qet (λ_ _=>Qes (QeC h1 ?_)))))))
  refine ⟨?_,λh=>by cases h⟩
  show Ok5 1
  exact ⟨by decide,by decide,by decide⟩
theorem QeH {n e:Int} {K:Q1} {g6:Fm Qe} {g7:Fm Qg} {g8:Fm Qb} {g10:Fm Qz} {g12:Nat×(Nat->List (Qd×List Int))} (he:e≠4) (h:Slv K):Sat (K35 n e K g6 g7 g8 g10 g12) (λr=>Slv r.2.1.1):=by
 unfold K35 K35.gen
 refine Qer (λ_=>True) Qet (λr0 _=>Qeu (Qes h) (Qer (λ_=>True) Qet (λr1 _=>?_)))
 refine Qer (λr=>Slv r.2.1) (Qer (λr=>Ok5 r.1.1) (QcI (h.st _).st (.inr he)) (λr2 h2=>Qes (QeD h h2))) (λr3 h3=>Qeu (Qes h3) ?_)
 refine Qer (λr=>Slv r.2.1) (Qer _ (QeN _ _ _) (λr4 h4=>Qes (Qey h3 h4))) (λr5 h5=>?_)
 refine Qer (λr=>Slv r.2.1) (Qer _ (QeS _ _ _ _) (λr6 h6=>Qes (Qey h5 h6))) (λr7 h7=>?_)
 refine Qer (λr=>Slv r.2.1) (Qer (λ_=>True) Qet (λ_ _=>Qer (λ_=>True) Qet (λ_ _=>Qes h7))) (λr10 h10=>?_)
 refine Qer (λ_=>True) Qet (λr11 _=>Qeu ?_ (Qes (Qey h10 ⟨rfl,rfl,rfl⟩)))
 exact Qer (λ_=>True) Qet (λr12 _=>Qes (by
  have h2:=Qey (K:=r10.2.1) (p:=r10.1.1) (x:=Q5.Q4Z (r10.2.1.Qf r10.1.1) (Q13.mk 0 false)) h10 ⟨rfl,rfl,rfl⟩
  exact ⟨h2.st,h2.out⟩))
theorem Qf0 {i n:Int} {m:Q8} {idn:Int} {d:ByteArray} {now:Int} {K:Q1} (h:Slv K):Sat (K12 i n m idn d now K) (λr=>Slv r.2.1.1):=by
 have ty:∀m:Q8,m.fType=13->Ty m:=λm e=>by unfold Ty;rw [e];decide
 unfold K12 K12.gen
 refine Qer (λ_=>True) Qet (λr0 _=>?_)
 refine Qer (λr=>Slv r.2.1) (Qer (λ_=>True) Qet (λr1 _=>Qes h)) (λr2 h2=>?_)
 refine Qer (λr=>Slv r.2.1/\r.2.2.2.2.1.fType=13) (Qer (λ_=>True) Qet (λr3 _=>Qes ⟨h2,rfl⟩)) (λr4 ⟨h4,t4⟩=>?_)
 refine Qer (λr=>Slv r.2.1/\r.2.2.2.2.1.fType=13) (Qer (λ_=>True) Qet (λr5 _=>Qes ⟨h4,t4⟩)) (λr6 ⟨h6,t6⟩=>?_)
 refine Qer (λr=>Slv r.2.1/\r.2.2.1.fType=13) (Qeu ?_ (Qes ⟨h6,t6⟩)) (λr9 ⟨h9,t9⟩=>?_)
 ·refine Qer (λr=>Slv r.2.1/\r.2.2.2.1.fType=13) (Qer (λ_=>True) Qet (λr7 _=>Qes ⟨⟨h6.st,h6.out⟩,t6⟩)) (λr8 ⟨h8,t8⟩=>Qeu (Qes ⟨h8,t8⟩) (Qes ⟨h8,t8⟩))
 ·exact Qer (λr=>Slv r.2.1) (Qer (λr=>Slv r.2.1.1) (QeQ h9 (ty _ t9)) (λr10 h10=>Qes h10)) (λr11 h11=>Qes h11)
theorem Qf3 {i:Int} {m:Q8} {l:List Qi} {now:Int} {K:Q1} {g5:Fm Qo} {g6:Fm Qe} {g7:Fm Qg} {g8:Fm Qb} {g9:Fm Qh} {g10:Fm Qz} {g12:Nat×(Nat->List (Qd×List Int))} (h:Slv K) (hm:m.fType=13):Sat (K23 i m l now K g5 g6 g7 g8 g9 g10 g12) (λr=>Slv r.2.1.1):=by
 have ty:∀m:Q8,m.fType=13->Ty m:=λm e=>by unfold Ty;rw [e];decide
 have hF0:∀a:_,Slv a.2.1->a.2.2.2.1.fType=13->Sat (K23.F0 a) (λb=>Slv b.2.1):=λa ha ht=>by
  unfold K23.F0
  refine Qex (λa=>Slv a.2.1/\a.2.2.2.1.fType=13) (λa ⟨ha,ht⟩=>?_) _ a ⟨ha,ht⟩
  unfold K23.QU
  exact Qeu (Qer (λ_=>True) Qet (λr2 _=>Qer (λr=>Slv r.2.1/\r.2.2.2.1.fType=13) (Qeu (Qer (λr=>Slv r.2.1.1) (QeQ ha (ty _ ht)) (λr3 h3=>Qes ⟨h3,ht⟩)) (Qes ⟨ha,ht⟩)) (λr4 h4=>Qes h4))) (Qes ha)
 have hF1:∀a:_,Slv a.2.1->Sat (K23.F1 a) (λb=>Slv b.2.1):=λa ha=>by
  unfold K23.F1
  refine Qex (λa=>Slv a.2.1) (λa ha=>?_) _ a ha
  unfold K23.Q2x
  refine Qeu (Qeu ?_ Qew) (Qes ha)
  refine Qer (λr=>Slv r.2.1) (Qer (λr=>Slv r.2.1.1) (Qf0 ha) (λr0 h0=>Qeu (Qes h0) (Qes h0))) (λr1 h1=>?_)
  refine Qer (λr=>Slv r.2.1) (Qeu ?_ (Qes h1)) (λr5 h5=>Qes h5)
  exact Qer (λ_=>True) Qet (λr2 _=>Qeu (Qer (λr=>Slv r.2.1.1) (QeH (by decide) h1) (λr3 h3=>Qes h3)) (Qeu (Qer (λr=>Slv r.2.1.1) (QeH (by decide) h1) (λr4 h4=>Qes h4)) (Qes h1)))
 unfold K23 K23.gen
 refine Qer (λr=>Slv r.2.1/\r.2.2.1.fType=13) (Qer (λ_=>True) Qet (λr0 _=>Qes ⟨h,hm⟩)) (λr1 ⟨h1,t1⟩=>Qer (λ_=>True) Qet (λr2 _=>Qeu (Qes h1) ?_))
 refine Qer (λ_=>True) Qet (λr3 _=>?_)
 refine Qer (λr=>Slv r.2.1) (Qeu (Qer (λb=>Slv b.2.1) (hF0 _ h1 t1) (λr4 h4=>Qes h4)) (Qes h1)) (λr5 h5=>?_)
 refine Qer (λ_=>True) Qet (λr6 _=>Qeu (Qes h5) ?_)
 refine Qer (λ_=>True) Qet (λr7 _=>Qer (λ_=>True) Qet (λr8 _=>Qer (λb=>Slv b.2.1) (hF1 _ h5) (λr9 h9=>Qeu ?_ (Qes h9))))
 exact Qer (λr=>Slv r.2.1.1) (QeE h9.out) (λr10 h10=>Qes h10)
theorem QeB {K:Q1} {d:Int} (h:Slv K):Slv (Q1.Q1Y K d):=⟨h.st,h.out⟩
theorem Qf8 {n:Int} {b:ByteArray} {now:Int} {K:Q1} {g5:Fm Qo} {g6:Fm Qe} {g7:Fm Qg} {g8:Fm Qb} {g9:Fm Qh} {g10:Fm Qz} {g12:Nat×(Nat->List (Qd×List Int))} (h:Slv K):Sat (K21 n b now K g5 g6 g7 g8 g9 g10 g12) (λr=>Slv r.2.1.1):=by
 unfold K21 K21.gen
 refine Qer (λr=>Slv r.2.1) (Qer (λ_=>True) Qet (λr0 _=>Qes h)) (λr1 h1=>?_)
 refine Qer (λ_=>True) Qet (λr3 _=>Qeu (Qes (QeB h1)) ?_)
 refine Qer (λ_=>True) Qet (λr4 _=>Qer (λ_=>True) Qet (λr5 _=>Qeu (Qes (QeB h1)) ?_))
 refine Qer (λr=>match r with| .inl x=>Slv x.2.1| .inr x=>Slv x.2.1) ?_ (λr22 h22=>QeF (λx e=>by subst e;exact Qes h22) (λx e=>by subst e;exact Qes (QeB h22)))
 refine Qeu (Qer (λr=>Slv r.2.1.1) (Qfc h1) (λr6 h6=>Qeu (Qes h6) (Qes h6))) ?_
 refine Qer (λr=>Slv r.2.1/\r.1.2.2.2.2.1=r.2.2.1.fType) (Qeu (Qes ⟨h1,rfl⟩) (Qes ⟨h1,rfl⟩)) (λr7 ⟨h7,t7⟩=>?_)
 refine Qeu (Qer (λ_=>True) Qet (λr9 _=>Qeu (Qer (λr=>Slv r.2.1.1) (QeU h7) (λr10 h10=>Qes h10)) (Qes h7))) ?_
 refine Qeu (Qer (λr=>r.1=false) (sat_bif' (λh6=>absurd (QeA h6) (h7.st _).st.n6) (λ_=>Qes rfl)) (λr11 h11=>sat_bif' (λht=>by rw [h11] at ht;cases ht) (λ_=>Qes h7))) ?_
 refine Qeu (Qer (λ_=>True) Qet (λr17 _=>Qeu (Qer (λr=>Slv r.2.1.1) (backS h7) (λr18 h18=>Qes h18)) (Qes h7))) ?_
 refine Qer (λr=>Slv r.2.1/\r.1.2.2.2.1=r.2.2.1.fType) (Qeu (Qes ⟨h7,t7⟩) (Qeu (Qes ⟨h7,t7⟩) (Qes ⟨h7,t7⟩))) (λr19 ⟨h19,t19⟩=>?_)
 refine Qeu (Qeu (Qer (λr=>Slv r.2.1.1) (QeZ h19) (λr20 h20=>Qes h20)) (Qes h19)) ?_
 exact sat_bif' (λht=>Qer (λr=>Slv r.2.1.1) (Qf3 h19 (t19.symm.trans (QeA ht))) (λr21 h21=>Qes h21)) (λ_=>Qes h19)
theorem Qfa {e:Qw} {K:Q1} {g5:Fm Qo} {g6:Fm Qe} {g7:Fm Qg} {g8:Fm Qb} {g9:Fm Qh} {g10:Fm Qz} {g12:Nat×(Nat->List (Qd×List Int))} (h:Qev K):Sat (K10 e K g5 g6 g7 g8 g9 g10 g12) (λr=>Slv r.2.1.1/\∀o∈r.1.1,OkO o):=by
 have h0:Qev (Q1.Q17 K (Qm QJ)):=⟨h.c,⟨h.s.st,λo ho=>absurd ho (List.not_mem_nil)⟩⟩
 have hd:∀d,Slv (Q1.Q17 (Q1.Q1Y K d) (Qm QJ)):=λd=>⟨h.s.st,λo ho=>absurd ho (List.not_mem_nil)⟩
 have hl:∀o∈Qm QJ,OkO o:=λo ho=>absurd ho (List.not_mem_nil)
 have hn:0<=Z4 true 0 (Z4 false e.Q6x 4000000000000000)/\Z4 true 0 (Z4 false e.Q6x 4000000000000000)<=4000000000000000:=by
  simp only [Z4,cond_true,cond_false,Q9e,imax]
  split <;> split <;> omega
 unfold K10 K10.gen
 refine Qeu ?_ (Qeu ?_ (Qeu ?_ (Qeu ?_ (Qeu ?_ (Qeu ?_ (Qeu ?_ ?_))))))
 ·exact Qer (λr=>Slv r.2.1) (Qer (λr=>Qev r.2.1.1) (tickT h0) (λr0 hr=>Qes hr.s)) (λr1 h1=>Qes ⟨h1,h1.out⟩)
 ·exact Qer (λr=>Slv r.2.1) (Qer (λr=>Slv r.2.1.1) (Qf8 h0.s) (λr0 hr=>Qes hr)) (λr1 h1=>Qes ⟨h1,h1.out⟩)
 ·exact Qer (λ_=>True) Qet (λr4 _=>Qer (λr=>Slv r.2.1) (Qeu (Qer (λr=>Slv r.2.1.1) (sentS hn h0.s) (λr5 hr=>Qes hr)) (Qes h0.s)) (λr6 h6=>Qes ⟨h6,h6.out⟩))
 ·exact Qer (λ_=>True) Qet (λr8 _=>Qeu (Qes ⟨hd _,hl⟩) (Qer (λr=>Slv r.2.1) (Qer (λr=>Slv r.2.1.1) (QeE h0.s.out) (λr9 hr=>Qes hr)) (λr10 h10=>Qes ⟨h10,h10.out⟩)))
 ·exact Qer (λ_=>True) Qet (λr8 _=>Qeu (Qes ⟨hd _,hl⟩) (Qer (λr=>Slv r.2.1) (Qer (λr=>Slv r.2.1.1) (QeE h0.s.out) (λr9 hr=>Qes hr)) (λr10 h10=>Qes ⟨h10,h10.out⟩)))
 ·exact Qer (λr=>Slv r.2.1) (Qer (λr=>Slv r.2.1.1) (QeH (by decide) h0.s) (λr15 hr=>Qes hr)) (λr16 h16=>Qes ⟨h16,h16.out⟩)
 ·exact Qer (λr=>Slv r.2.1) (Qer (λr=>Slv r.2.1.1) (QeH (by decide) h0.s) (λr17 hr=>Qes hr)) (λr18 h18=>Qes ⟨h18,h18.out⟩)
 ·exact Qes ⟨h0.s,hl⟩
theorem QeM (x lo hi:Int):Q2Z x lo hi=some ((inB x lo hi,()),(),()):=by
 unfold Q2Z Q2Z.gen inB ile
 cases decide (lo<=x) <;> rfl
theorem QeK (q:Qx):Q3G q=some ((Qax q,()),(),()):=by
 unfold Q3G Q3G.gen Qax
 simp only [QeM,Q12]
 cases inB q.Q1W 0 255 <;> cases inB q.Q1u 0 255 <;> rfl
theorem QeG (c:Q9):Q2i c=some ((if okC c then 0 else 15,()),(),()):=by
 unfold Q2i Q2i.gen okC QaG
 simp only [QeM,QeK,Q12]
 cases h0:inB c.QB 1 8
 ·simp [Q12,some_bif]
 cases h1:inB c.Q1D 0 127
 ·simp [Q12,some_bif]
 cases h2:inB c.Q16 0 255
 ·simp [Q12,some_bif]
 cases h3:inB c.Q15 0 255
 ·simp [Q12,some_bif]
 cases h4:inB c.Q46 (-3) 4
 ·simp [Q12,some_bif]
 cases h5:inB c.Q3h (-3) 4
 ·simp [Q12,some_bif]
 cases h6:inB c.Q3l (-3) 4
 ·simp [Q12,some_bif]
 cases h7:inB c.Q3U 2 10
 ·simp [Q12,some_bif]
 cases h8:inB c.Q4s 1 15
 ·simp [Q12,some_bif]
 cases h9:inB c.fKp 0 2000
 ·simp [Q12,some_bif]
 cases h10:inB c.fKi 0 2000
 ·simp [Q12,some_bif]
 cases h11:inB c.Q5E 0 1000000000
 ·simp [Q12,some_bif]
 cases h12:inB c.Q1e.Q3c (-32768) 32767
 ·simp [Q12,some_bif]
 cases h13:inB c.Q1e.Q1X 0 63
 ·simp [Q12,some_bif]
 cases h14:inB c.Q1e.Q1Q 0 255
 ·simp [Q12,some_bif]
 cases hq:Qax c.Qv
 ·simp [Q12,some_bif]
 simp only [Q12,cond_true,Bool.not_true,cond_false]
 by_cases e1:c.QI=0
 ·simp [ieq,e1,Q12]
 by_cases e2:c.QI=18446744073709551615
 ·simp [ieq,e2,Q12]
 have f1:(c.QI==0)=false:=by simpa using e1
 have f2:(c.QI==18446744073709551615)=false:=by simpa using e2
 cases hs:c.Q2t
 ·simp [ieq,f1,f2,e1,e2,Q12]
 by_cases e3:c.QB=1
 ·by_cases e4:c.Qv.Q1W=255
  ·simp [ieq,ine,f1,f2,e1,e2,e3,e4,Q12]
  ·have g4:(c.Qv.Q1W !=255)=true:=by simpa using e4
   simp [ieq,ine,f1,f2,e1,e2,e3,e4,g4,Q12]
 ·have g3:(c.QB !=1)=true:=by simpa using e3
  simp [ieq,ine,f1,f2,e1,e2,e3,g3,Q12]
structure Run (C:St):Prop where
 live:∃c δ cf,δ.f=id/\Live c δ 0 0 cf C C
 slv:Qev (C.1.2 0)
theorem Qfe {C:St} (s:List QF) (i:Int) (l:List Qw) (j:Int) (o:List QJ) (hlen:o.length<=24) (ho:∀x∈o,OkO x):
  Tot (K86.F2 ((s,some 0,i,l,j,o,0,()),C)) (λr=>match r with| .inl x=>x=((s,some 0,i,l,j,()),C)| .inr _=>False):=by
 unfold K86.F2
 refine Q2f (λa=>∃n:Int,a=((s,some 0,i,l,j,o,n,()),C)/\0<=n/\n<=24) (λa=>((o.length:Int) - a.1.2.2.2.2.2.2.1).toNat) (λa ⟨n,e1,n0,n1⟩=>?_) _ _ ⟨0,rfl,Int.le_refl 0,by decide⟩ (by simp only [];omega)
 subst e1
 unfold K86.Qak
 dsimp only
 refine Qa (λhh=>?_) (λ_=>Q2 rfl)
 have hh:=Q2g hh
 unfold ofN at hh
 have hmem:List.getD o (Int.toNat n) QJ.zero∈o:=Q6T (by omega)
 have hok:=(ho _ hmem).t
 have hin:=Q1B n0 hh
 have einc:Q4 .i64 n 1=n+1:=Q1i (by omega)
 have go:((o.length:Int) - (n+1)).toNat < ((o.length:Int) - n).toNat:=by omega
 refine Q3 (λr=>r.1=false) (QM hin (Qa (λhk=>?_) (λ_=>Q2 rfl))) (λr0 h0=>?_)
 ·obtain ⟨a1,a2,a3,a4⟩:=hok (QeA hk)
  rw [Qba a1,Qba a2,Qba a3,Qba a4,hin]
  exact Q2 rfl
 ·rw [h0,einc]
  exact Q2 ⟨⟨n+1,rfl,by omega,by omega⟩,go⟩
theorem Qfb {C:St} (h:Run C) (s:List QF) (i:Int) (l:List Qw) (hl:Q6E l):
  Tot (K86.F1 ((s,some 0,i,l,0,()),C)) (λr=>match r with| .inl x=>x.1=(s,some 0,i,())/\Run x.2| .inr x=>x.1=(true,())):=by
 unfold K86.F1
 refine Q2f (λa=>∃j:Int,a.1=(s,some 0,i,l,j,())/\0<=j/\Run a.2) (λa=>((l.length:Int) - a.1.2.2.2.2.1).toNat) (λa ⟨j,e1,j0,hA⟩=>?_) _ _ ⟨0,rfl,Int.le_refl 0,h⟩ (by have:=hl.1;simp only [];omega)
 have l41:=hl.1
 obtain ⟨a1,C⟩:=a
 dsimp only at e1
 subst e1
 unfold K86.Q2x
 dsimp only
 refine Qa (λhh=>?_) (λ_=>Q2 ⟨rfl,hA⟩)
 have hh:=Q2g hh
 unfold ofN at hh
 have hmem:List.getD l (Int.toNat j) Qw.zero∈l:=Q6T (by omega)
 have einc:Q4 .i64 j 1=j+1:=Q1i (by omega)
 have hin:=Q1B j0 hh
 have go:((l.length:Int) - (j+1)).toNat < ((l.length:Int) - j).toNat:=by omega
 refine QM hin (Qa (λ_=>?_) (λ_=>QM hin ?_))
 ·rw [einc]
  exact Q2 ⟨⟨j+1,rfl,by omega,hA⟩,go⟩
 obtain ⟨c,δ,cf,hf,hL⟩:=hA.live
 obtain ⟨o,K1,Y1,K2,Y2,δ',cf',s1,s2,h3,h4,h5,_,ol⟩:=Q9i (Dr.fid hf) _ (hl.2 _ hmem) hL
 rw [s1] at s2
 cases s2
 have hs:=s1
 unfold Q6D at s1
 obtain ⟨q1,q2⟩:=Qfa hA.slv _ s1
 rw [Q12,s1]
 have c1:∀K,K8 K=some ((K.Qs,()),(),()):=λ_=>rfl
 simp only [Q12,c1]
 have ek:Qr C.1.2 0 K1 0=K1:=Q5P _ _ _
 rw [ek]
 refine Qa (λ_=>?_) (λhso=>?_)
 ·rw [Q8T,Q12]
  exact Q2 rfl
 have hso:K1.Qs.Q2t=true:=by
  cases hx:K1.Qs.Q2t with
  |true=>rfl
  |false=>rw [hx] at hso;cases hso
 have hR:Run (Q5J C 0 (K1,Y1)):=⟨⟨c,δ',cf',h3.fid hf,h5⟩,by
  have e:(Q5J C 0 (K1,Y1)).1.2 0=K1:=ek
  rw [e]
  exact ⟨hso,q1⟩⟩
 refine Q3 _ (Qfe (C:=Q5J C 0 (K1,Y1)) s i l j o ol q2) (λr7 h7=>Q2v (λx e=>?_) (λx e=>by subst e;exact h7.elim))
 subst e
 have h7:x=((s,some 0,i,l,j,()),Q5J C 0 (K1,Y1)):=h7
 subst h7
 dsimp only
 have e0:(Q5J C 0 (K1,Y1)).1.2 0=K1:=ek
 rw [Q12,e0]
 have hcf:Q40 K1.Qs:=by have h:=h5.k.ok.Q14;rw [e0] at h;exact h
 obtain ⟨p1,p8,_⟩:=Q3F hcf
 obtain ⟨r,hr,w,_⟩:=Qab 1 K1 hcf
 have w:=w ⟨Int.le_refl 1,p1⟩
 have w5:=(q1.st 0).st
 rw [hr]
 simp only [Q12]
 have e5:r.1.1=(K1.Qf 0).Q1w:=w
 rw [e5,Qba w5.n6,Qba w5.n5,Qba w5.n7]
 simp only [cond_false,Q12]
 rw [einc]
 exact Q2 ⟨⟨j+1,rfl,by omega,hR⟩,go⟩
theorem Qf9 {C:St} (h:Run C) (s:List QF):
  Tot (K86.F0 ((s,some 0,0,()),C)) (λr=>match r with| .inl _=>True| .inr x=>x.1=(true,())):=by
 unfold K86.F0
 refine Q2f (λa=>∃i:Int,a.1=(s,some 0,i,())/\0<=i/\i<=50/\Run a.2) (λa=>(50 - a.1.2.2.1).toNat) (λa ⟨i,e1,i0,i1,hA⟩=>?_) _ _ ⟨0,rfl,Int.le_refl 0,by decide,h⟩ (by simp only [];omega)
 obtain ⟨a1,C⟩:=a
 dsimp only at e1
 subst e1
 unfold K86.QU
 dsimp only
 refine Q3 (λb=>b.1=true->i < (s.length:Int)/\i < 50) (Qa (λh1=>Q2 λh2=>⟨by have:=Q2g h1;exact this,Q2g h2⟩) (λ_=>Q2 λh=>by cases h)) (λz hz=>Qa (λhb=>?_) (λ_=>Q2 trivial))
 obtain ⟨z1,z2⟩:=hz hb
 have einc:Q4 .i64 i 1=i+1:=Q1i (by omega)
 refine QM (Q1B i0 z1) (Q3 _ (Qaf _) (λr1 hr1=>Qa (λ_=>?_) (λhs=>QM (Q1B i0 z1) (Q3 _ (Q9E _ (hr1 ?_)) (λr2 hr2=>Q3 _ (Qfb hA s i r2.1.1 hr2) (λr4 h4=>Q2v (λx e=>?_) (λx e=>by subst e;exact Q2 h4)))))))
 ·rw [Q8T,Q12]
  exact Q2 rfl
 ·cases hx:r1.1.1 with|true=>rfl|false=>rw [hx] at hs;cases hs
 ·subst e
  obtain ⟨g1,g2⟩:=h4
  rw [g1]
  dsimp only
  rw [einc]
  exact Q2 ⟨⟨i+1,rfl,by omega,by omega,g2⟩,by show (50 - (i+1)).toNat < (50 - i).toNat;omega⟩
theorem newS {cf:Q9} {A:St}:Sat (K36 cf A.1 A.2.1 A.2.2.1 A.2.2.2.1 A.2.2.2.2.1 A.2.2.2.2.2.1 A.2.2.2.2.2.2.1 A.2.2.2.2.2.2.2.1) (λr=>∀k,r.1.1=some k->Slv (r.2.1.1.2 k)):=by
 unfold K36 K36.gen
 refine Qer (λ_=>True) Qet (λr0 _=>Qeu (Qes (λk h=>by cases h)) ?_)
 rw [Q5P]
 exact Qer (λr=>Slv r.2.1.1) (QeE (λo ho=>absurd ho (List.not_mem_nil))) (λr1 h1=>Qes (λk hk=>by
  cases hk
  show Slv (Qr (Qr A.1.2 A.1.1 _) A.1.1 r1.2.1.1 A.1.1)
  rw [Q5P];exact h1))
theorem K86.law:∀(id:Int) (Q14:List (Int)) (script:List (QF)),(Lit.int .i64 id).wf=true->(Q14.length*8<=reachBytes/\∀y∈Q14,(Lit.int .i64 y).wf=true)->(script.length*472<=reachBytes/\∀y∈script,QF.Wf y)->∃y,K86 id Q14 script (0,λ_=>U.dft .Q7) (0,λ_=>U.dft .Q1x) (0,λ_=>U.dft .Qy) (0,λ_=>U.dft .Q10) (0,λ_=>U.dft .Q11) (0,λ_=>U.dft .Q18) (0,λ_=>U.dft .Q1j) (0,λ_=>[])=some ((true,()),y,()):=by
 intro id' Q14 script _ _ _
 have fin:∀{x:Option ((Bool×Unit)×St×Unit)},Tot x (λr=>r.1=(true,()))->∃y,x=some ((true,()),y,()):=λ⟨r,h1,h2⟩=>by
  obtain ⟨r1,y,_⟩:=r
  have h2:r1=(true,()):=h2
  subst h2
  exact ⟨y,h1⟩
 refine fin ?_
 unfold K86 K86.gen
 obtain ⟨rc,hc,_⟩:=Qeq id' Q14
 rw [hc,Q12]
 generalize hcf:Q9.Q7j (Q9.Q4D (Q9.Q8E rc.1.1 1) (Qx.Q8N rc.1.1.Qv 255)) true=cf
 have hso:cf.Q2t=true:=by rw [←hcf]
 rw [QeG,Q12]
 refine Qa (λ_=>?_) (λhz=>?_)
 ·rw [Q8T,Q12]
  exact Q2 rfl
 have hk:okC cf=true:=by
  cases hx:okC cf with
  |true=>rfl
  |false=>rw [hx] at hz;cases hz
 have hck:Q40 cf:=⟨by rw [Qbl,hk];rfl⟩
 obtain ⟨a,b,ha,hb,e1,hN⟩:=QdE (c:=Cx.two E0.2 E0.2) (A:=E0) (B:=E0) cf (QbN _ _)
 rw [ha] at hb
 cases hb
 rcases hN with ⟨_,n2,_⟩|⟨n1,n2,_,_,_,hL⟩
 ·exact absurd hck n2
 have ha':K36 cf (0,λ_=>U.dft .Q7) (0,λ_=>U.dft .Q1x) (0,λ_=>U.dft .Qy) (0,λ_=>U.dft .Q10) (0,λ_=>U.dft .Q11) (0,λ_=>U.dft .Q18) (0,λ_=>U.dft .Q1j) (0,λ_=>[])=some a:=ha
 rw [ha',Q12,n1]
 have z0:ine 0 0=false:=rfl
 rw [z0,n2]
 simp only [cond_false]
 have hslv:Qev (a.2.1.1.2 0):=by
  refine ⟨?_,newS (cf:=cf) (A:=E0) a ha 0 n2⟩
  have h2:(a.2.1.1.2 0).Qs=cf:=hL.k.Q14
  rw [h2];exact hso
 refine Q3 _ (Qf9 (C:=a.2.1) ⟨⟨_,_,_,rfl,hL⟩,hslv⟩ script) (λr4 h4=>Q2v (λx e=>?_) (λx e=>by subst e;exact Q2 h4))
 rw [Q8T,Q12]
 exact Q2 rfl
end Go.Proofs.YtgnabnhggaondaaGreat
