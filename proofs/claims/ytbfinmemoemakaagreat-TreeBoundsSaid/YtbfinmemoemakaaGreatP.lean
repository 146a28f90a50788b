/- Typed forms of the functions that these statements reach, proved equal to what the model runs, and laws over them. -/
import Derived.Test.YtbfinmemoemakaaGreatS
import Derived.Test.YtbfinmemoemakaaGreatAr3
import Derived.KernelRfl
namespace Go.Proofs.YtbfinmemoemakaaGreat
open Go.Rf
set_option linter.unusedVariables false
set_option linter.unusedSimpArgs false
set_option maxRecDepth 100000
def Tot {α:Type} (x:Option α) (Q:α->Prop):Prop:=∃a,x=some a/\Q a
theorem Q1Y {α:Type} {a:α} {Q:α->Prop} (h:Q a):Tot (some a) Q:=⟨a,rfl,h⟩
theorem Q1W {α β:Type} {x:Option α} {k:α->Option β} {Q:β->Prop} (P:α->Prop) (h:Tot x P) (hk:∀a,P a->Tot (k a) Q):Tot (Q0 x none k) Q:=by
 obtain ⟨a,rfl,h2⟩:=h
 exact hk a h2
theorem Q3Y {α:Type} {b:Bool} {x y:Option α} {Q:α->Prop} (h:b=true->Tot x Q) (h2:b=false->Tot y Q):Tot (bif b then x else y) Q:=by
 cases b with
 |true=>exact h rfl
 |false=>exact h2 rfl
theorem Q6q {α:Type} {b:Bool} {x:Option α} {Q:α->Prop} (hb:b=true) (h:Tot x Q):Tot (bif b then x else none) Q:=by subst hb;exact h
theorem Q8v {α β:Type} {step:α->Option (α⊕β)} (I:α->Prop) (m:α->Nat) {Q:β->Prop} (h:∀a,I a->Tot (step a) (λr=>match r with| .inl a'=>I a'/\m a' < m a| .inr b=>Q b)):∀(N:Nat) (a:α),I a->m a < N->Tot (Z8 N step a) Q
 |0,a,_,hm=>absurd hm (Nat.not_lt_zero _)
 |N+1,a,ha,hm=>by
  obtain ⟨r,hs,hr⟩:=h a ha
  unfold Z8
  rw [hs]
  cases r with
  |inl a'=>exact Q8v I m h N a' hr.1 (by have:=hr.2;omega)
  |inr b=>exact ⟨b,rfl,hr⟩
theorem Q8Y {a b:Int} (h:ilt a b=true):a < b:=by unfold ilt at h;simpa using h
theorem Q82 {a b:Int} (h:ile a b=true):a<=b:=by unfold ile at h;simpa using h
theorem Q7G (v n:Int) (hn:0 < n) (hn2:n<=4611686018427387904):K81 v n=some ((v % n,()),(),()):=by
 have h1:ine n 0=true:=Q9Q (by omega)
 have h2:=Int.emod_nonneg v (Int.ne_of_gt hn)
 have h3:=Int.emod_lt_of_pos v hn
 obtain ⟨h4,h5⟩:=Q98 v n hn
 unfold K81 K81.gen
 rw [h1]
 simp only [cond_true,Q3T]
 by_cases hc:v.tmod n < 0
 ·have e:Q2 .i64 (Q4K v n) n=v % n:=by
   have:=h4 hc
   rw [Q5U] <;> simp only [Q4K] <;> omega
  rw [show ilt (Q4K v n) 0=true from Q9R hc,e];simp only [cond_true,Q3T]
 ·rw [show ilt (Q4K v n) 0=false from Q9H hc,show Q4K v n=v % n from h5 hc];simp only [cond_false,Q3T]
abbrev OkB (c:Qb):Prop:=0<=c.Q22/\c.Q22<=1000/\ -3<=c.Q2j/\c.Q2j<=4
theorem Q4i (i:Nat) (n:Int) (l:List Int) (h0:0 < n) (hn:n<=1000):Tot (K79 (i:Int) n l) (λr=>r.1.1 < n):=by
 unfold K79 K79.gen
 refine Q3Y (λh=>?_) (λ_=>Q1Y (by show (-1:Int) < n;omega))
 have h:=Q8Y h
 unfold ofN at h
 refine Q6q (by rw [Q7R];exact decide_eq_true (by omega)) (Q1W (λr=>r.1.1 < n) ⟨_,Q7G _ _ h0 (by omega),Int.emod_lt_of_pos _ h0⟩ (λr hr=>Q1Y hr))
theorem Qa1 {n:Int} {m:Nat} (h:0<=n) (h2:n < (m:Int)):inR n m=true:=by
 unfold inR
 rw [Bool.and_eq_true];exact ⟨decide_eq_true h,decide_eq_true h2⟩
theorem Q9N (id:Int) (l:List Int):Tot (K78 id l) (λr=>OkB r.1.1):=by
 unfold K78 K78.gen
 refine Q1W (λ_=>True) ⟨_,Q7G _ _ (by decide) (by decide),trivial⟩ (λ_ _=>?_)
 refine Q1W (λr=>OkB r.1.1) (by unfold Q41 Q41.gen;exact Q1Y ⟨show (0:Int)<=3 by decide,show (3:Int)<=1000 by decide,show (-3:Int)<=1 by decide,show (1:Int)<=4 by decide⟩) (λ_ h=>?_)
 refine Q1W _ (Q4i 0 4 _ (by decide) (by decide)) (λ_ _=>Q1W (λr=>OkB r.2.2.1) (Q3Y (λ_=>Q1Y h) (λ_=>Q1Y h)) (λ_ h=>?_))
 refine Q1W _ (Q4i 1 4 _ (by decide) (by decide)) (λ_ _=>Q1W (λr=>OkB r.2.2.1) (Q3Y (λ_=>Q1Y h) (λ_=>Q1Y h)) (λ_ h=>?_))
 refine Q1W _ (Q4i 2 3 _ (by decide) (by decide)) (λ_ hr=>Q1W (λr=>OkB r.2.2.1) (Q3Y (λh0=>Q6q (Qa1 (Q82 h0) hr) (Q1Y h)) (λ_=>Q1Y h)) (λ_ h=>?_))
 refine Q1W _ (Q4i 3 4 _ (by decide) (by decide)) (λr hr=>Q1W (λr=>OkB r.2.2.1) (Q3Y (λh0=>Q1Y (by
  have h0:=Q82 h0
  have e:Q1e .i64 r.1.1 3=r.1.1 - 3:=QaJ (by omega)
  exact ⟨h.1,h.2.1,by show -3<=Q1e .i64 r.1.1 3;omega,by show Q1e .i64 r.1.1 3<=4;omega⟩)) (λ_=>Q1Y h)) (λ_ h=>?_))
 refine Q1W _ (Q4i 4 4 _ (by decide) (by decide)) (λ_ _=>Q1W (λr=>OkB r.2.2.1) (Q3Y (λ_=>Q1Y h) (λ_=>Q1Y h)) (λ_ h=>?_))
 refine Q1W _ (Q4i 5 4 _ (by decide) (by decide)) (λ_ _=>Q1W (λr=>OkB r.2.2.1) (Q3Y (λ_=>Q1Y h) (λ_=>Q1Y h)) (λ_ h=>?_))
 refine Q1W _ (Q4i 6 4 _ (by decide) (by decide)) (λr hr=>Q1W (λr=>OkB r.2.2.1) (Q3Y (λh0=>Q1Y (by
  have h0:=Q82 h0
  have e:Q2 .i64 2 r.1.1=2+r.1.1:=Q5U (by omega)
  exact ⟨by show 0<=Q2 .i64 2 r.1.1;omega,by show Q2 .i64 2 r.1.1<=1000;omega,h.2.2.1,h.2.2.2⟩)) (λ_=>Q1Y h)) (λ_ h=>?_))
 refine Q1W _ (Q4i 7 16 _ (by decide) (by decide)) (λ_ _=>Q1W (λr=>OkB r.2.2.1) (Q3Y (λ_=>Q1Y h) (λ_=>Q1Y h)) (λ_ h=>?_))
 refine Q1W _ (Q4i 8 5 _ (by decide) (by decide)) (λ_ hr=>Q1W (λr=>OkB r.2.2.1) (Q3Y (λh0=>Q6q (Qa1 (Q82 h0) hr) (Q1Y h)) (λ_=>Q1Y h)) (λ_ h=>?_))
 refine Q1W _ (Q4i 9 6 _ (by decide) (by decide)) (λ_ _=>Q1W (λr=>OkB r.2.2.1) (Q3Y (λ_=>Q1Y h) (λ_=>Q1Y h)) (λ_ h=>?_))
 exact Q1W _ (Q4i 10 15 _ (by decide) (by decide)) (λ_ _=>Q1W (λr=>OkB r.2.2.1) (Q3Y (λ_=>Q1Y h) (λ_=>Q1Y h)) (λ_ h=>Q1Y h))
def Q2M (f:Qb->Int) (a:Int) (l:List Qb):Int:=l.foldl (λa c=>max a (f c)) a
theorem Q7Z (f:Qb->Int):∀(l:List Qb) (a b:Int),Q2M f (max a b) l=max a (Q2M f b l)
 | [],a,b=>rfl
 |c::r,a,b=>by
  show Q2M f (max (max a b) (f c)) r=max a (Q2M f (max b (f c)) r)
  rw [←Q7Z f r a (max b (f c))]
  congr 1
  omega
theorem Q48 (f:Qb->Int) (c:Qb) (l:List Qb) (a:Int):Q2M f a (c::l)=max (f c) (Q2M f a l):=by
 show Q2M f (max a (f c)) l=_
 rw [show max a (f c)=max (f c) a by omega,Q7Z]
theorem Q6z (f:Qb->Int) (l:List Qb) (c:Qb) (a:Int):Q2M f a (l++ [c])=max (Q2M f a l) (f c):=by
 simp [Q2M,List.foldl_append]
theorem Q5W (f:Qb->Int) (a:Int):∀(l:List Qb),a<=Q2M f a l
 | []=>Int.le_refl _
 |c::r=>by rw [Q48];have:=Q5W f a r;omega
theorem Q7Q (f:Qb->Int) (a m:Int) (ha:a<=m):∀(l:List Qb),(∀c∈l,f c<=m)->Q2M f a l<=m
 | [],_=>ha
 |c::r,h=>by
  rw [Q48]
  have:=Q7Q f a m ha r (λx hx=>h x (List.mem_cons_of_mem _ hx))
  have:=h c (List.mem_cons_self ..)
  omega
theorem Qb9 (a b:Int):Z7 true a b=max a b:=by
 simp only [Z7,cond_true,imax]
 split <;> omega
def tkN (g:Int):Nat:=2^(g+3).toNat
theorem QaA {g:Int} (h0: -3<=g) (h1:g<=4):Q24 g=some ((((tkN g:Nat):Int),()),(),()):=by
 have h:g= -3\/g= -2\/g= -1\/g=0\/g=1\/g=2\/g=3\/g=4:=by omega
 rcases h with h|h|h|h|h|h|h|h <;> (rw [h];unfold Q24 Q24.gen Q3h Q3h.gen;rfl)
theorem Q7J (g:Int):1<=tkN g:=Nat.one_le_two_pow
theorem Q8j {g h:Int} (hh:g<=h):tkN g<=tkN h:=Nat.pow_le_pow_right (by decide) (by omega)
theorem Qam {g:Int} (h1:g<=4):tkN g<=128:=Nat.le_trans (Q8j h1) (by decide)
def bnd (l:List Qb):Int:=2*((l.length:Int)+1)*(Q2M (·.Q22) 0 l+8)*((tkN (Q2M (·.Q2j) (-3) l):Nat):Int)
theorem Q9L {a b c a' b' c':Int} (ha:0<=a) (hb:0<=b) (hc:0<=c) (h1:a<=a') (h2:b<=b') (h3:c<=c'):a*b*c<=a'*b'*c':=by
 have e1:a*b<=a'*b':=Int.mul_le_mul h1 h2 hb (by omega)
 exact Int.mul_le_mul e1 h3 hc (Int.mul_nonneg (by omega) (by omega))
theorem Q74 (l:List Qb) (hl:l.length<=12) (h:∀c∈l,OkB c):Q1h l=some ((bnd l,()),(),()):=by
 have hT0:=Q5W (·.Q22) 0 l
 have hT1:=Q7Q (·.Q22) 0 1000 (by decide) l (λc hc=>(h c hc).2.1)
 have hG0:=Q5W (·.Q2j) (-3) l
 have hG1:=Q7Q (·.Q2j) (-3) 4 (by decide) l (λc hc=>(h c hc).2.2.2)
 have hlp:Q1h.F0 ((l,0,-3,l,ofN l.length,0,()),())=some ((l,Q2M (·.Q22) 0 l,Q2M (·.Q2j) (-3) l,()),()):=by
  unfold Q1h.F0
  refine Qal (step:=Q1h.QW Q24) (λi=>((l,Q2M (·.Q22) 0 (l.take i),Q2M (·.Q2j) (-3) (l.take i),l,ofN l.length,(i:Int),()),())) (b:=((l,Q2M (·.Q22) 0 l,Q2M (·.Q2j) (-3) l,()),())) l.length _ (by show l.length < 1000000+_;omega) (λi hi=>?_) ?_
  ·unfold Q1h.QW
   have ht:l.take (i+1)=l.take i++ [l[i]]:=by rw [List.take_add_one,List.getElem?_eq_getElem hi];rfl
   have hgd:l.getD i Qb.zero=l[i]:=Qae hi
   simp only [ofN,Q8Q,Q7R,hi,decide_true,cond_true,Int.toNat_natCast,iinc (show i < 4611686018427387904 by omega),Qb9]
   rw [ht,Q6z,Q6z,hgd]
  ·unfold Q1h.QW
   simp only [ofN,Q8Q,Nat.lt_irrefl,decide_false,cond_false,List.take_length]
 unfold Q1h Q1h.gen
 rw [hlp]
 simp only [Q3T]
 rw [QaA hG0 hG1]
 simp only [Q3T]
 have hk:=Qam hG1
 have hp:=Q7J (Q2M (·.Q2j) (-3) l)
 have a1:Q2 .i64 (ofN l.length) 1=(l.length:Int)+1:=Q5U (by unfold ofN;omega)
 have a2:Q2A .i64 2 ((l.length:Int)+1)=2*((l.length:Int)+1):=Q7M (by omega)
 have a3:Q2 .i64 (Q2M (·.Q22) 0 l) 4=Q2M (·.Q22) 0 l+4:=Q5U (by omega)
 have a4:Q2 .i64 (Q2M (·.Q22) 0 l+4) 4=Q2M (·.Q22) 0 l+8:=by rw [Q5U (by omega)];omega
 have q1:2*((l.length:Int)+1)*(Q2M (·.Q22) 0 l+8)<=26*1008:=Int.mul_le_mul (by omega) (by omega) (by omega) (by omega)
 have q0:0<=2*((l.length:Int)+1)*(Q2M (·.Q22) 0 l+8):=Int.mul_nonneg (by omega) (by omega)
 have a5:Q2A .i64 (2*((l.length:Int)+1)) (Q2M (·.Q22) 0 l+8)=2*((l.length:Int)+1)*(Q2M (·.Q22) 0 l+8):=Q7M (by omega)
 have q2:2*((l.length:Int)+1)*(Q2M (·.Q22) 0 l+8)*((tkN (Q2M (·.Q2j) (-3) l):Nat):Int)<=26*1008*128:=Int.mul_le_mul q1 (by omega) (by omega) (by omega)
 have q3:0<=2*((l.length:Int)+1)*(Q2M (·.Q22) 0 l+8)*((tkN (Q2M (·.Q2j) (-3) l):Nat):Int):=Int.mul_nonneg q0 (by omega)
 rw [a1,a2,a3,a4,a5,Q7M (by omega)]
 rfl
theorem Qax:K83.A=some ():=by kernel_rfl
theorem Q8y {l:List Qb} {x:Qb} (h:∀c∈l,OkB c) (hx:OkB x):∀c∈l++ [x],OkB c:=λc hc=>by
 rcases List.mem_append.1 hc with hc|hc
 ·exact h c hc
 ·rw [List.mem_singleton] at hc;subst hc;exact hx
theorem Qao (l:List Qb) (h:l.length<=1000):K80 l=some ((l,()),(),(),()):=by
 unfold K80 K80.gen
 rw [Q6d (by simp;omega)]
 rfl
theorem QaU (l:List (List Int)) (more:List Int):∃c:List Qb,c.length<=10/\(∀x∈c,OkB x)/\K82.F0 ((l,more,QG Qb,0,()),())=some ((more,c,()),()):=by
 unfold K82.F0
 obtain ⟨r,h1,c,h2,h3,h4⟩:=Q8v (step:=K82.QW K78 K80 Q1h K83.A) (λa=>∃(i:Nat) (c:List Qb),i<=10/\c.length=i/\(∀x∈c,OkB x)/\a=((l,more,c,(i:Int),()),())) (λa=>20 - a.1.2.2.2.1.toNat)
  (Q:=λr=>∃c:List Qb,c.length<=10/\(∀x∈c,OkB x)/\r=((more,c,()),())) (by
   rintro a ⟨i,c,hi,hc,hok,rfl⟩
   unfold K82.QW
   simp only []
   refine Q1W (λr=>r.1=true->i < 10/\i < l.length) (Q3Y (λh=>Q1Y λh2=>?_) (λ_=>Q1Y λh=>by cases h)) (λr0 h0=>Q3Y (λhb=>?_) (λ_=>Q1Y ⟨c,by omega,hok,rfl⟩))
   ·have h:=Q8Y h
    have h2:=Q8Y h2
    unfold ofN at h
    exact ⟨by omega,by omega⟩
   ·obtain ⟨q1,q2⟩:=h0 hb
    refine Q6q (by rw [Q7R];exact decide_eq_true q2) (Q1W _ (Q9N _ _) (λr1 h1=>Q6q (Q6d (by simp only [List.length_cons,List.length_nil];omega)) (Q1Y ⟨⟨i+1,c++ [r1.1.1],by omega,by simp;omega,Q8y hok h1,?_⟩,?_⟩)))
    ·rw [iinc (show i < 4611686018427387904 by omega)]
    ·show 20 - (Q2 .i64 (i:Int) 1).toNat < 20 - (i:Int).toNat
     rw [iinc (show i < 4611686018427387904 by omega)]
     omega) (1000000+(l.length+more.length+(QG Qb).length)) ((l,more,QG Qb,0,()),()) ⟨0,[],by decide,rfl,λx hx=>by simp at hx,rfl⟩ (by show 20 - (0:Int).toNat < _;omega)
 exact ⟨c,h2,h3,by rw [h1,h4]⟩
theorem Q9U {l:List Qb} {x:Qb} (h:∀c∈l,OkB c) (hx:OkB x):bnd l<=bnd (x::l)/\bnd [x]<=bnd (x::l)/\bnd (x::l)=bnd (l++ [x])/\0<=bnd l:=by
 have t0:=Q5W (·.Q22) 0 l
 have g0:=Q5W (·.Q2j) (-3) l
 have k0:=Q7J (Q2M (·.Q2j) (-3) l)
 have k1:=Q7J (Q2M (·.Q2j) (-3) [x])
 refine ⟨?_,?_,?_,?_⟩
 ·refine Q9L (by omega) (by omega) (by omega) (by simp only [List.length_cons];omega) (by rw [Q48];omega) ?_
  have:=Q8j (show Q2M (·.Q2j) (-3) l<=Q2M (·.Q2j) (-3) (x::l) by rw [Q48];omega)
  omega
 ·have t1:=Q5W (·.Q22) 0 [x]
  refine Q9L (by omega) (by omega) (by omega) (by simp only [List.length_cons,List.length_nil];omega) (by rw [Q48,Q48];show max _ 0+8<=_;omega) ?_
  have:=Q8j (show Q2M (·.Q2j) (-3) [x]<=Q2M (·.Q2j) (-3) (x::l) by rw [Q48,Q48];show max _ (-3)<=_;omega)
  omega
 ·unfold bnd
  rw [Q48,Q48,Q6z,Q6z,Int.max_comm,Int.max_comm x.Q2j]
  simp
 ·exact Int.mul_nonneg (Int.mul_nonneg (by omega) (by omega)) (by omega)
theorem K82.law:∀(l:List (List Int)) (more:List Int),(l.length*24<=reachBytes/\∀y∈l,(y.length*8<=reachBytes/\∀yy∈y,(Lit.int .i64 yy).wf=true))->(more.length*8<=reachBytes/\∀y∈more,(Lit.int .i64 y).wf=true)->K82 l more=some ((true,()),(),()):=λl more _ _=>by
 obtain ⟨c,hc,hok,hl⟩:=QaU l more
 obtain ⟨⟨⟨x,u⟩,⟨⟩,⟨⟩⟩,hx,hxok⟩:=Q9N 99 more
 have hxok:OkB x:=hxok
 have b1:∀y∈x::c,OkB y:=λy hy=>by
  rcases List.mem_cons.1 hy with rfl|hy
  ·exact hxok
  ·exact hok y hy
 obtain ⟨m1,m2,m3,m4⟩:=Q9U hok hxok
 unfold K82 K82.gen
 rw [hl]
 simp only [Q3T]
 rw [Qao c (by omega)]
 simp only [Q3T]
 rw [Q74 c (by omega) hok,hx]
 simp only [Q3T]
 rw [Q6d (by simp only [List.length_cons,List.length_nil];omega)]
 simp only [cond_true]
 have e1:x::QG Qb++c=x::c:=rfl
 have e2:c++x::QG Qb=c++ [x]:=rfl
 have e3:x::QG Qb= [x]:=rfl
 rw [e1,e2,e3,Q74 (x::c) (by simp;omega) b1]
 simp only [Q3T]
 rw [Q6d (by simp only [List.length_cons,List.length_nil];omega)]
 simp only [cond_true]
 rw [Q74 (c++ [x]) (by simp;omega) (Q8y hok hxok),Q74 [x] (by simp) (λy hy=>by rw [List.mem_singleton] at hy;subst hy;exact hxok)]
 simp only [Q3T]
 rw [←m3,Q9T,Q7g m1,Q7g m2,Q7g m4,Qax]
 rfl
end Go.Proofs.YtbfinmemoemakaaGreat
