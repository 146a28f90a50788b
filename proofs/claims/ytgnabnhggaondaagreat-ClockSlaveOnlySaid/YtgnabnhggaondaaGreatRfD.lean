/- An evaluator of the model's code, and the proof that it is sound. Own work; no program in it. -/
import Derived.Test.YtgnabnhggaondaaGreatRfC
import Derived.OpenShut
import Derived.SizedLaws
import Derived.Below
import Derived.Test.YtgnabnhggaondaaGreatRfB
import Derived.Carry
import Derived.ChangeShapes
namespace Go.Rf
set_option linter.unusedVariables false
set_option linter.unusedSimpArgs false
variable {U : QY} {P : Program}
abbrev Ts (U:QY):List (Sh U.C)->Type
 | []=>Unit
 |s::r=>s.T U×Ts U r
inductive FK (C:Type) where
 |obj (u:C)
 |map (gk gv:Bool) (ku vu:C)
abbrev FK.T (U:QY):FK U.C->Type
 | .obj u=>Nat×(Nat->U.D u)
 | .map _ _ ku vu=>Nat×(Nat->List (U.D ku×U.D vu))
def FK.ent {U:QY}:(k:FK U.C)->k.T U->Ent U
 | .obj u,x=>.fam false u x.1 x.2
 | .map gk gv ku vu,x=>.Q3u gk gv ku vu x.1 x.2
def FK.view {U:QY} (e:Option (Ent U)):(k:FK U.C)->Option (k.T U)
 | .obj u=>match e with
  |some (.fam false v n f)=>match U.eq? v u with
   |some ⟨e⟩=>some (n,e▸f)
   |none=>none
  |_=>none
 | .map gk gv ku vu=>match e with
  |some (.Q3u gk' gv' ku' vu' n g)=>bif Z1I gk gk' && Z1I gv gv' then (match U.eq? ku' ku,U.eq? vu' vu with
   |some ⟨e⟩,some ⟨e'⟩=>some (n,e▸e'▸g)
   |_,_=>none) else none
  |_=>none
theorem FK.Qdc {U:QY} {e:Option (Ent U)} {k:FK U.C} {x:k.T U} (h:FK.view e k=some x):e=some (k.ent x):=by
 cases k with
 |obj u=>
  simp only [FK.view] at h
  split at h
  ·split at h
   ·rename_i e _;subst e;cases h;rfl
   ·cases h
  ·cases h
 |map gk gv ku vu=>
  simp only [FK.view] at h
  split at h
  ·rename_i gk' gv' ku' vu' n g
   cases hb:Z1I gk gk' && Z1I gv gv' with
   |false=>rw [hb] at h;cases h
   |true=>
    rw [hb] at h
    simp only [cond_true] at h
    rw [Bool.and_eq_true] at hb
    have e1:gk=gk':=by cases gk <;> cases gk' <;> first|rfl|(have:=hb.1;cases this)
    have e2:gv=gv':=by cases gv <;> cases gv' <;> first|rfl|(have:=hb.2;cases this)
    subst e1;subst e2
    split at h
    ·rename_i e3 e4 _ _
     subst e3
     subst e4
     cases h
     rfl
    ·cases h
  ·cases h
inductive NK (C:Type) where
 |obj (u:C)
 |row (u:C)
 | fam (f : Nat) (k : FK C)
 | tok
abbrev NK.T (U:QY):NK U.C->Type
 | .obj u=>U.D u
 | .row u=>Nat×(Nat->U.D u)
 | .fam _ k=>k.T U
 | .tok=>Unit
abbrev NK.isRow {C:Type}:NK C->Bool
 | .obj _=>false
 | .row _=>true
 | .fam _ _=>true
 | .tok=>true
def NK.ent {U:QY}:(k:NK U.C)->k.T U->Ent U
 | .obj u,x=>.obj (U.enc u x)
 | .row u,x=>.fam true u x.1 x.2
 | .fam _ k,x=>k.ent x
 | .tok,_=>.tok
abbrev HTs (U:QY):List (NK U.C)->Type
 | []=>Unit
 |u::r=>u.T U×HTs U r
structure Ref where
 s:Nat
 i:Nat
 off:Nat
 row:Bool
 ap : Option (Nat × Nat × Nat)
def ZL:(ss:List (Sh U.C))->Ts U ss->Nat->List (V U)
 | [],_,_=>[]
 |s::r,t,p=>Q5O s t.1 p::ZL r t.2 (bif s.Q5d then p+1 else p)
def Z1D (en:Nat->Nat):(ss:List (Sh U.C))->Ts U ss->Nat->List (V U)
 | [],_,_=>[]
 | .Q56 j off m n::r,t,p=>⟨false,[.Q1g (en j) off m n t.1 0]⟩::Z1D en r t.2 p
 |s::r,t,p=>Q5O s t.1 p::Z1D en r t.2 (bif s.Q5d then p+1 else p)
theorem Z80:∀(ss:List (Sh U.C)) (t:Ts U ss) (k:Nat),ZL ss t k=Z1D (λj=>U.nf+j) ss t k
 | [],_,_=>rfl
 |s::r,t,k=>by
  cases s <;> (unfold ZL Z1D;first|exact congrArg _ (Z80 r t.2 _)|rfl)
def Z1H:(ss:List (Sh U.C))->List (V U)->Option (Ts U ss)
 | [],[]=>some ()
 |s::r,x::xs=>match Q82 s x,Z1H r xs with
  |some t,some ts=>some (t,ts)
  |_,_=>none
 |_,_=>none
def Q6X:List (Sh U.C)->List (V U)->Option (List Ref)
 | [],[]=>some []
 |s::r,x::xs=>match s,x,Q6X r xs with
  | .ptr,⟨false,[.ptr a i off]⟩,some ps=>some (⟨a,i,off,false,none⟩::ps)
  | .ptr,⟨false,[.Q1g a off m n i k]⟩,some ps=>some (⟨a,i,k,false,some (off,m,n)⟩::ps)
  | .row _,⟨false,[.sl a i _]⟩,some ps=>bif Nat.beq i 0 then some (⟨a,0,0,true,none⟩::ps) else none
  | .own _,⟨false,[.isl (.own a) _ _]⟩,some ps=>some (⟨a,0,0,true,none⟩::ps)
  |s,_,some ps=>bif s.Q5d then none else some ps
  |_,_,_=>none
 |_,_=>none
def Z4P (h:Qq U) (s off:Nat):Option ((u:U.C)×Nat×(Nat->U.D u)×List U.S):=
 match get h s with
 |some (.obj cells)=>match cells[off]? with
  |some (.Q1l v n f)=>some ⟨v,n,f,cells⟩
  |_=>none
 |_=>none
def Q9r (h:Qq U) (s i k off m n:Nat) (u:U.C):Option (U.D u):=
 match Z4P h s off with
 |some ⟨v,n',f,_⟩=>bif Nat.beq m (U.size v) && Nat.beq n n' then
   match U.eq? v u with
   |some ⟨e⟩=>bif Nat.beq k 0 then some (e▸f i) else none
   |none=>match U.Q7e v u k with
    |some _=>U.dec u (QO k (U.size u) (U.enc v (f i)))
    |none=>none
   else none
 |none=>none
def QaV (h:Qq U) (s i k off:Nat) (u:U.C) (y:U.D u):Ent U:=
 match Z4P h s off with
 |some ⟨v,n',f,cells⟩=>match U.eq? v u with
  |some ⟨e⟩=>.obj (Zk off (.Q1l v n' (Qr f i (e▸y))) cells)
  |none=>match U.Q7e v u k with
   |some g=>.obj (Zk off (.Q1l v n' (Qr f i (g (f i) y))) cells)
   |none=>.dead
 |none=>.dead
def view (h:Qq U) (p:Ref):(k:NK U.C)->Option (k.T U)
 | .obj u=>bif p.row then none else match p.ap with
  |some (off,m,n)=>Q9r h p.s p.i p.off off m n u
  |none=>match get h p.s with
   |some (.fam _ v _ f)=>match U.eq? v u with
    |some ⟨e⟩=>bif Nat.beq p.off 0 then some (e▸f p.i) else none
    |none=>none
   |some (.obj cells)=>U.dec u (QO p.off (U.size u) cells)
   |_=>none
 | .row u=>bif p.row then match get h p.s with
  |some (.fam true v n f)=>match U.eq? v u with
   |some ⟨e⟩=>some (n,e▸f)
   |none=>none
  |_=>none else none
 | .fam g k=>bif p.row && Nat.beq p.s g then k.view (get h p.s) else none
 | .tok=>bif p.row then (match get h p.s with
  |some .tok=>some ()
  |_=>none) else none
def put (h:Qq U) (p:Ref):(k:NK U.C)->k.T U->Ent U
 | .obj u,y=>match p.ap with
  |some (off,_,_)=>QaV h p.s p.i p.off off u y
  |none=>match get h p.s with
   |some (.fam ct v n f)=>match U.eq? u v with
    |some ⟨e⟩=>.fam ct v n (Qr f p.i (e▸y))
    |none=>.dead
   |some (.obj cells)=>.obj (Q1C p.off (U.enc u y) cells)
   |_=>.dead
 | .row u,y=>.fam true u y.1 y.2
 | .fam _ k,y=>k.ent y
 | .tok,_=>.tok
def views:(us:List (NK U.C))->List Ref->Qq U->Option (HTs U us)
 | [],[],_=>some ()
 |u::us,p::ps,h=>match view h p u,views us ps h with
  |some x,some xs=>some (x,xs)
  |_,_=>none
 |_,_,_=>none
def Q6Q:(us:List (NK U.C))->List Ref->HTs U us->Qq U->List (Nat×Ent U)
 |u::us,p::ps,xs,h=>(p.s,put h p u xs.1)::Q6Q us ps xs.2 h
 |_,_,_,_=>[]
def Z4I:List Nat->(us:List (NK U.C))->HTs U us->List (Nat×Ent U)
 |t::ts,u::us,xs=>(t,u.ent xs.1)::Z4I ts us xs.2
 |_,_,_=>[]
def news:(us:List (NK U.C))->HTs U us->Nat->List (Nat×Ent U)
 | [],_,_=>[]
 |u::us,xs,k=>(k,u.ent xs.1)::news us xs.2 (k+1)
def Q3r:(us:List (NK U.C))->HTs U us->Nat->Option ((u:NK U.C)×u.T U)
 | [],_,_=>none
 |u::us,xs,0=>some ⟨u,xs.1⟩
 |u::us,xs,j+1=>Q3r us xs.2 j
theorem Z1u:∀(us:List (NK U.C)) (xs:HTs U us) (j:Nat),j < us.length->∃x,Q3r us xs j=some x/\us[j]? =some x.1
 | [],_,j,h=>by simp at h
 |u::us,xs,0,h=>⟨⟨u,xs.1⟩,rfl,rfl⟩
 |u::us,xs,j+1,h=>by
  obtain ⟨x,h1,h2⟩:=Z1u us xs.2 j (by simpa using h)
  exact ⟨x,h1,by simpa using h2⟩
theorem Z7X:∀(us:List (NK U.C)) (xs:HTs U us) (j:Nat) x,Q3r us xs j=some x->j < us.length/\us[j]? =some x.1
 | [],_,j,x,h=>by cases h
 |u::us,xs,0,x,h=>by cases h;exact ⟨by simp,rfl⟩
 |u::us,xs,j+1,x,h=>by
  obtain ⟨h1,h2⟩:=Z7X us xs.2 j x h
  exact ⟨by simp;exact h1,by simpa using h2⟩
theorem Z6I:∀(us:List (NK U.C)) (xs:HTs U us) (k s:Nat),get (news us xs k) s=if k<=s then (Q3r us xs (s - k)).map λx=>x.1.ent x.2 else none
 | [],_,k,s=>by simp [news,get,Q3r]
 |u::us,xs,k,s=>by
  unfold news
  rw [Z6,Z6I us xs.2 (k+1) s]
  by_cases e:k=s
  ·subst e;simp [Q3r]
  ·rw [if_neg e]
   by_cases hk:k+1<=s
   ·rw [if_pos hk,if_pos (by omega),show s - k=(s - (k+1))+1 by omega];rfl
   ·rw [if_neg hk,if_neg (by omega)]
theorem Z1P:∀(ts:List Nat) (us:List (NK U.C)) (xs:HTs U us) (s:Nat) e,get (Z4I ts us xs) s=some e->∃j x,ts[j]? =some s/\Q3r us xs j=some x/\e=x.1.ent x.2
 |t::ts,u::us,xs,s,e,hg=>by
  unfold Z4I at hg
  rw [Z6] at hg
  by_cases he:t=s
  ·rw [if_pos he] at hg;cases hg
   exact ⟨0,⟨u,xs.1⟩,by simp [he],rfl,rfl⟩
  ·rw [if_neg he] at hg
   obtain ⟨j,x,h1,h2,h3⟩:=Z1P ts us xs.2 s e hg
   exact ⟨j+1,x,by simpa using h1,h2,h3⟩
 | [],us,xs,s,e,hg=>by cases us <;> cases hg
 |t::ts,[],xs,s,e,hg=>by cases hg
theorem Z50:∀(ts:List Nat) (us:List (NK U.C)) (xs:HTs U us),ts.length=us.length->(Z4I ts us xs).map (·.1)=ts
 | [],[],xs,_=>rfl
 |t::ts,u::us,xs,hl=>by
  unfold Z4I
  rw [List.map_cons,Z50 ts us xs.2 (by simpa using hl)]
 | [],u::us,xs,hl=>by cases hl
 |t::ts,[],xs,hl=>by cases hl
theorem Z3P:∀(us:List (NK U.C)) (xs:HTs U us) (k s:Nat),s∈(news us xs k).map (·.1)↔k<=s/\s < k+us.length
 | [],_,k,s=>by simp [news] <;> omega
 |u::us,xs,k,s=>by
  unfold news
  rw [List.map_cons,List.mem_cons,Z3P us xs.2 (k+1) s,List.length_cons]
  omega
theorem Z3O:∀(us:List (NK U.C)) (ps:List Ref) (h:Qq U) (xs:HTs U us),views us ps h=some xs->ps.length=us.length/\∀j x,Q3r us xs j=some x->∃p,ps[j]? =some p/\view h p x.1=some x.2
 | [],[],h,xs,hv=>⟨rfl,λj x hj=>by cases hj⟩
 |u::us,p::ps,h,xs,hv=>by
  unfold views at hv
  split at hv
  ·rename_i x ys h1 h2
   cases hv
   obtain ⟨h3,h4⟩:=Z3O us ps h ys h2
   refine ⟨by simp [h3],λj y hj=>?_⟩
   cases j with
   |zero=>cases hj;exact ⟨p,rfl,h1⟩
   |succ j=>simpa using h4 j y hj
  ·cases hv
 | [],p::ps,h,xs,hv=>by cases hv
 |u::us,[],h,xs,hv=>by cases hv
theorem Z3T:∀(us:List (NK U.C)) (ps:List Ref) (xs:HTs U us) (h:Qq U),ps.length=us.length->(Q6Q us ps xs h).map (·.1)=ps.map (·.s)
 | [],[],xs,h,_=>rfl
 |u::us,p::ps,xs,h,hl=>by
  unfold Q6Q
  rw [List.map_cons,List.map_cons,Z3T us ps xs.2 h (by simpa using hl)]
 | [],p::ps,xs,h,hl=>by cases hl
 |u::us,[],xs,h,hl=>by cases hl
theorem Z7m:∀(us:List (NK U.C)) (ps:List Ref) (xs:HTs U us) (h:Qq U) (s:Nat) e,ps.length=us.length->get (Q6Q us ps xs h) s=some e->
  ∃j p x,ps[j]? =some p/\Q3r us xs j=some x/\p.s=s/\e=put h p x.1 x.2
 | [],[],xs,h,s,e,_,hg=>by cases hg
 |u::us,p::ps,xs,h,s,e,hl,hg=>by
  unfold Q6Q at hg
  rw [Z6] at hg
  by_cases he:p.s=s
  ·rw [if_pos he] at hg;cases hg
   exact ⟨0,p,⟨u,xs.1⟩,rfl,rfl,he,rfl⟩
  ·rw [if_neg he] at hg
   obtain ⟨j,p',x,h1,h2,h3,h4⟩:=Z7m us ps xs.2 h s e (by simpa using hl) hg
   exact ⟨j+1,p',x,by simpa using h1,h2,h3,h4⟩
 | [],p::ps,xs,h,s,e,hl,hg=>by cases hl
 |u::us,[],xs,h,s,e,hl,hg=>by cases hl
def Lof (c:Cx) (p:Ref):Nat->Option (Nat×Nat):=λi=>
 if p.row=true then c.L p.s i else if i=0 then (match p.ap with
  |some (off,m,_)=>(c.L p.s 0).map λq=>(q.1,q.2+off+(p.i*m+p.off))
  |none=>(c.L p.s p.i).map λq=>(q.1,q.2+p.off)) else none
theorem ZY (hU:U.Ok) (hP:U.Pure) {c d:Cx} (hI:Cx.LeI U c d) {w:World} {b o:Nat} {u:U.C} {x:U.D u} {G:Nat->Nat->Nat->Prop} (h:Pl U c w b o (U.enc u x) G):Pl U d w b o (U.enc u x) G:=
 h.pure hU hP hI (hP u x)
structure Q4I (U:QY) (c:Cx) (Φ:Nat->Nat->Nat->Prop) (h:Qq U) (w:World) (p:Ref) (k:NK U.C) (x:k.T U) (F:Nat->Nat->Prop):Prop where
 here:(get h p.s).isSome
 sub:∀b o,F b o->Φ p.s b o
 is_:∀(d:Cx) (s:Nat),Cx.LeI U c d->(∀i,d.L s i=Lof c p i)->Q1J d w s F (k.ent x)
 back:∀(c' d:Cx) (w':World) (s:Nat) (y:k.T U) (F2:Nat->Nat->Prop),c.Le c'->(p.row=false->(∀i,c'.L p.s i=c.L p.s i)/\∀i,d.L s i=Lof c p i)->(p.row=true->∀i,c'.L p.s i=d.L s i)->Cx.LeI U d c'->Q1J d w' s F2 (k.ent y)->
  Agr (λb o=>Φ p.s b o/\¬F b o) w w'->(∀b o,Φ p.s b o->¬F b o->¬F2 b o)->Q1J c' w' p.s (λb o=>(Φ p.s b o/\¬F b o)\/F2 b o) (put h p k y)
theorem Z8R {h:Qq U} {s off n:Nat} {v:U.C} {f:Nat->U.D v} {cells:List U.S} (ha:Z4P h s off=some ⟨v,n,f,cells⟩):get h s=some (.obj cells)/\cells[off]? =some (.Q1l v n f):=by
 unfold Z4P at ha
 split at ha
 ·rename_i cs he
  split at ha
  ·rename_i v' n' f' hc
   cases ha
   exact ⟨he,hc⟩
  ·cases ha
 ·cases ha
theorem Z5B (hU:U.Ok) (hP:U.Pure) {c:Cx} {Φ:Nat->Nat->Nat->Prop} {h:Qq U} {w:World} {s i k off m n b o:Nat} {u v:U.C} {x:U.D u} {f:Nat->U.D v} {cells:List U.S} (val:U.D u->U.D v) (hg:G U c Φ h w)
  (he:get h s=some (.obj cells)) (hc:cells[off]? =some (.Q1l v n f)) (hm:m=U.size v) (hi:i < n) (hq:c.L s 0=some (b,o)) (hks:k+U.size u<=U.size v)
  (hx:∀(j:Nat) z,(U.enc u x)[j]? =some z->∃y,(U.enc v (f i))[k+j]? =some y/\SLe U y z)
  (hval:∀y (j:Nat) z,(U.enc v (val y))[j]? =some z->∃q,(Q1C k (U.enc u y) (U.enc v (f i)))[j]? =some q/\SLe U q z)
  (hput:∀y,put h ⟨s,i,k,false,some (off,m,n)⟩ (.obj u) y= .obj (Zk off (.Q1l v n (Qr f i (val y))) cells)):
  ∃F,Q4I U c Φ h w ⟨s,i,k,false,some (off,m,n)⟩ (.obj u) x F:=by
 subst hm
 obtain ⟨b0,o0,Gk,h0,h1,h2,h3⟩:=hg.Q1U s _ he
 rw [hq] at h0;cases h0
 have hlt:=(List.getElem?_eq_some_iff.1 hc).1
 cases h2.own off _ hc with
 |cell hr _ _ _=>cases hr
 |Q1l Gn hk hd hF=>
 have hbase:i*U.size v+U.size v<=n*U.size v:=by
  have:(i+1)*U.size v<=n*U.size v:=Nat.mul_le_mul_right _ hi
  rwa [Nat.succ_mul] at this
 have hin:∀j,j < U.size u->i*U.size v+k+j < n*U.size v:=λj hj=>by omega
 have hLof:∀i',Lof c ⟨s,i,k,false,some (off,U.size v,n)⟩ i'=if i'=0 then some (b,o+off+(i*U.size v+k)) else none:=λi'=>by
  unfold Lof;simp [hq]
 have hGΦ:∀r b' o',r < n*U.size v->Gn r b' o'->Φ s b' o':=λr b' o' hr hf=>(h3 _ _).2 ⟨off,hlt,(hF _ _).2 ⟨r,hr,hf⟩⟩
 have hflat:∀j,j < U.size v->(flat v n f)[i*U.size v+j]? =(U.enc v (f i))[j]? :=λj hj=>Z1c hU v n f hi hj
 have hP0:Pl U c w b (o+off+(i*U.size v+k)) (U.enc u x) (λj=>Gn (i*U.size v+k+j)):=by
  refine ⟨λj z hz=>?_,λj1 j2 b' o' q1 q2 hne=>hd _ _ b' o' (hin j1 (by rwa [hU.QH] at q1)) (hin j2 (by rwa [hU.QH] at q2)) (by omega)⟩
  have hj:j < U.size u:=by have:=(List.getElem?_eq_some_iff.1 hz).1;rwa [hU.QH] at this
  obtain ⟨y,q1,q2⟩:=hx j z hz
  have:=hk (i*U.size v+(k+j)) y (by rw [hflat _ (by omega)];exact q1)
  rw [show o+off+(i*U.size v+k)+j=o+off+(i*U.size v+(k+j)) by omega,show i*U.size v+k+j=i*U.size v+(k+j) by omega]
  exact this.le q2
 refine ⟨λb' o'=>∃j,j < U.size u/\Gn (i*U.size v+k+j) b' o',⟨by simp [he],λb' o' ⟨j,hj,hf⟩=>hGΦ _ _ _ (hin j hj) hf,λd t hI hLd=>?_,λc' d w' t y F2 hcc hcd _ hI hE2 hA hdis=>?_⟩⟩
 ·refine ⟨b,o+off+(i*U.size v+k),_,by rw [hLd,hLof];rfl,λi' q hq'=>?_,ZY hU hP hI hP0,λb' o'=>by rw [hU.QH]⟩
  rw [hLd,hLof] at hq'
  by_cases e:i'=0
  ·exact e
  ·rw [if_neg e] at hq';cases hq'
 ·obtain ⟨hLc,hLd⟩:=hcd rfl
  obtain ⟨b2,o2,G2,p1,p2,p3,p4⟩:=hE2
  rw [hLd,hLof] at p1
  simp only [if_true,Option.some.injEq,Prod.mk.injEq] at p1
  obtain ⟨rfl,rfl⟩:=p1
  rw [hput]
  have p3:=ZY hU hP hI p3
  have hsl:(Zk off (S.Q1l v n (Qr f i (val y))) cells).length=cells.length:=by unfold Zk;exact Zo (by simp;omega)
  have hset:∀q,(Zk off (S.Q1l v n (Qr f i (val y))) cells)[q]? =if q=off then some (.Q1l v n (Qr f i (val y))) else cells[q]? :=λq=>by
   unfold Zk
   by_cases e:q=off
   ·subst e
    rw [if_pos rfl]
    have:=Zx (off:=q) (k:=0) (new:= [S.Q1l v n (Qr f i (val y))]) (l:=cells) (by simp;omega) (by simp)
    rw [Nat.add_zero] at this
    rw [this];rfl
   ·rw [if_neg e,Zp (by simp;omega) (by simp;omega)]
  let In:Nat->Prop:=λr=>i*U.size v+k<=r/\r < i*U.size v+k+U.size u
  have p4':∀j b' o',j < U.size u->G2 j b' o'->F2 b' o':=λj b' o' hj hf=>(p4 _ _).2 ⟨j,by rw [hU.QH];exact hj,hf⟩
  have hR:∀r b' o',r < n*U.size v->¬In r->Gn r b' o'->Φ s b' o'/\¬∃j,j < U.size u/\Gn (i*U.size v+k+j) b' o':=λr b' o' hr hn hf=>
   ⟨hGΦ r b' o' hr hf,λ⟨j,hj,hf'⟩=>hd r _ b' o' hr (hin j hj) (λe=>hn ⟨by omega,by omega⟩) hf hf'⟩
  have hRk:∀q b' o',q < cells.length->q≠off->Gk q b' o'->Φ s b' o'/\¬∃j,j < U.size u/\Gn (i*U.size v+k+j) b' o':=λq b' o' hq hne hf=>
   ⟨(h3 _ _).2 ⟨q,hq,hf⟩,λ⟨j,hj,hf'⟩=>h2.dis q off b' o' hq hlt hne hf ((hF _ _).2 ⟨_,hin j hj,hf'⟩)⟩
  let Gn':Nat->Nat->Nat->Prop:=λr b' o'=>(In r/\G2 (r - (i*U.size v+k)) b' o')\/(¬In r/\Gn r b' o')
  have hpos:∀{r},r < n*U.size v->0 < U.size v:=λ{r} hr=>by
   rcases Nat.eq_zero_or_pos (U.size v) with h9|h9
   ·rw [h9] at hr;omega
   ·exact h9
  have hdn:∀j1 j2 b' o',j1 < n*U.size v->j2 < n*U.size v->j1≠j2->Gn' j1 b' o'->¬Gn' j2 b' o':=λj1 j2 b' o' q1 q2 hne f1 f2=>by
   rcases f1 with ⟨a1,f1⟩|⟨a1,f1⟩
   ·rcases f2 with ⟨a2,f2⟩|⟨a2,f2⟩
    ·have a1:i*U.size v+k<=j1/\j1 < i*U.size v+k+U.size u:=a1
     have a2:i*U.size v+k<=j2/\j2 < i*U.size v+k+U.size u:=a2
     exact p3.dis _ _ b' o' (by rw [hU.QH];omega) (by rw [hU.QH];omega) (by omega) f1 f2
    ·have a1:i*U.size v+k<=j1/\j1 < i*U.size v+k+U.size u:=a1
     obtain ⟨r1,r2⟩:=hR j2 b' o' q2 a2 f2
     exact hdis _ _ r1 r2 (p4' _ _ _ (by omega) f1)
   ·rcases f2 with ⟨a2,f2⟩|⟨a2,f2⟩
    ·have a2:i*U.size v+k<=j2/\j2 < i*U.size v+k+U.size u:=a2
     obtain ⟨r1,r2⟩:=hR j1 b' o' q1 a1 f1
     exact hdis _ _ r1 r2 (p4' _ _ _ (by omega) f2)
    ·exact hd j1 j2 b' o' q1 q2 hne f1 f2
  refine ⟨b,o,λq b' o'=>(q=off/\∃r,r < n*U.size v/\Gn' r b' o')\/(q≠off/\Gk q b' o'),by rw [hLc];exact hq,λi' q hq'=>h1 i' q (by rw [←hLc];exact hq'),⟨λq z hz=>?_,λq1 q2 b' o' hq1 hq2 hne f1 f2=>?_⟩,λb' o'=>?_⟩
  ·rw [hset] at hz
   by_cases e:q=off
   ·subst e
    rw [if_pos rfl] at hz;cases hz
    refine Own.iff (F:=λb' o'=>∃r,r < n*U.size v/\Gn' r b' o') (.Q1l Gn' (λr z hz=>?_) hdn λ_ _=>Iff.rfl) λb' o'=>⟨λh=>.inl ⟨rfl,h⟩,λh=>h.elim (λh=>h.2) λh=>absurd rfl h.1⟩
    obtain ⟨i',j,hi',hj,rfl,hz'⟩:=Z2E hU v n _ hz
    have hrlt:=Z1d hi' hj
    by_cases ei:i'=i
    ·subst ei
     simp only [Qr,if_true] at hz'
     obtain ⟨q0,hq0,hle⟩:=hval y j z hz'
     have hlen1:k+(U.enc u y).length<=(U.enc v (f i')).length:=by rw [hU.QH,hU.QH];exact hks
     by_cases hj2:k<=j/\j < k+U.size u
     ·obtain ⟨j',rfl⟩:∃j',j=k+j':=⟨j - k,by omega⟩
      rw [Zx hlen1 (by rw [hU.QH];omega)] at hq0
      have:=(p3.own j' q0 hq0).le hle
      have e1:o+q+(i'*U.size v+k)+j'=o+q+(i'*U.size v+(k+j')):=by omega
      rw [e1] at this
      have hIn:In (i'*U.size v+(k+j')):=⟨by omega,by omega⟩
      refine this.iff λb' o'=>⟨λh=>.inl ⟨hIn,by rw [show i'*U.size v+(k+j') - (i'*U.size v+k)=j' by omega];exact h⟩,λh=>h.elim (λh=>by have:=h.2;rwa [show i'*U.size v+(k+j') - (i'*U.size v+k)=j' by omega] at this) λh=>absurd hIn h.1⟩
     ·rw [Zp hlen1 (by rw [hU.QH];omega)] at hq0
      have hn:¬In (i'*U.size v+j):=λh=>hj2 ⟨by have:=h.1;omega,by have:=h.2;omega⟩
      have:=hk (i'*U.size v+j) q0 (by rw [hflat _ hj];exact hq0)
      refine ((this.stays hU hcc (hA.sub λb' o' hf=>hR _ b' o' hrlt hn hf)).le hle).iff λb' o'=>⟨λh=>.inr ⟨hn,h⟩,λh=>h.elim (λh=>absurd h.1 hn) λh=>h.2⟩
    ·simp only [Qr,if_neg ei] at hz'
     have hn:¬In (i'*U.size v+j):=λh=>by
      have a1:i*U.size v+k<=i'*U.size v+j:=h.1
      have a2:i'*U.size v+j < i*U.size v+k+U.size u:=h.2
      have hps:=hpos hrlt
      have d1:(i'*U.size v+j) / U.size v=i':=by rw [Nat.add_comm,Nat.add_mul_div_right _ _ hps,Nat.div_eq_of_lt hj];omega
      have d2:(i'*U.size v+j) / U.size v=i:=by
       obtain ⟨j2,e2⟩:∃j2,i'*U.size v+j=i*U.size v+j2:=⟨i'*U.size v+j - i*U.size v,by omega⟩
       rw [e2,Nat.add_comm,Nat.add_mul_div_right _ _ hps,Nat.div_eq_of_lt (by omega)];omega
      exact ei (d1▸d2)
     have:=hk (i'*U.size v+j) z (by rw [Z1c hU v n f hi' hj];exact hz')
     refine (this.stays hU hcc (hA.sub λb' o' hf=>hR _ b' o' hrlt hn hf)).iff λb' o'=>⟨λh=>.inr ⟨hn,h⟩,λh=>h.elim (λh=>absurd h.1 hn) λh=>h.2⟩
   ·rw [if_neg e] at hz
    refine ((h2.own q z hz).stays hU hcc (hA.sub λb' o' hf=>hRk q b' o' (List.getElem?_eq_some_iff.1 hz).1 e hf)).iff λb' o'=>⟨λh=>.inr ⟨e,h⟩,λh=>h.elim (λh=>absurd h.1 e) λh=>h.2⟩
  ·rw [hsl] at hq1 hq2
   have mixed:∀q2,q2 < cells.length->q2≠off->(∃r,r < n*U.size v/\Gn' r b' o')->Gk q2 b' o'->False:=λq2 hq2 hne ⟨r,hr,hf⟩ f2=>by
    rcases hf with ⟨a1,hf⟩|⟨a1,hf⟩
    ·have a1:i*U.size v+k<=r/\r < i*U.size v+k+U.size u:=a1
     obtain ⟨r1,r2⟩:=hRk q2 b' o' hq2 hne f2
     exact hdis _ _ r1 r2 (p4' _ _ _ (by omega) hf)
    ·exact h2.dis off q2 b' o' hlt hq2 (λe=>hne e.symm) ((hF _ _).2 ⟨r,hr,hf⟩) f2
   rcases f1 with ⟨rfl,f1⟩|⟨e1,f1⟩
   ·rcases f2 with ⟨rfl,f2⟩|⟨e2,f2⟩
    ·exact hne rfl
    ·exact mixed q2 hq2 e2 f1 f2
   ·rcases f2 with ⟨rfl,f2⟩|⟨e2,f2⟩
    ·exact mixed q1 hq1 e1 f2 f1
    ·exact h2.dis q1 q2 b' o' hq1 hq2 hne f1 f2
  ·rw [hsl]
   constructor
   ·rintro (⟨q1,q2⟩|q1)
    ·obtain ⟨q,hq,hf⟩:=(h3 _ _).1 q1
     by_cases e:q=off
     ·subst e
      obtain ⟨r,hr,hf⟩:=(hF _ _).1 hf
      refine ⟨q,hlt,.inl ⟨rfl,r,hr,.inr ⟨λhI=>q2 ?_,hf⟩⟩⟩
      have hI:i*U.size v+k<=r/\r < i*U.size v+k+U.size u:=hI
      exact ⟨r - (i*U.size v+k),by omega,by rw [show i*U.size v+k+(r - (i*U.size v+k))=r by omega];exact hf⟩
     ·exact ⟨q,hq,.inr ⟨e,hf⟩⟩
    ·obtain ⟨j,hj,hf⟩:=(p4 _ _).1 q1
     rw [hU.QH] at hj
     exact ⟨off,hlt,.inl ⟨rfl,i*U.size v+k+j,hin j hj,.inl ⟨⟨by omega,by omega⟩,by rw [show i*U.size v+k+j - (i*U.size v+k)=j by omega];exact hf⟩⟩⟩
   ·rintro ⟨q,hq,⟨rfl,r,hr,hf⟩|⟨e,hf⟩⟩
    ·rcases hf with ⟨a1,hf⟩|⟨a1,hf⟩
     ·have a1:i*U.size v+k<=r/\r < i*U.size v+k+U.size u:=a1
      exact .inr (p4' _ _ _ (by omega) hf)
     ·exact .inl (hR r b' o' hr a1 hf)
    ·exact .inl (hRk q b' o' hq e hf)
theorem Z7J (hU:U.Ok) (hP:U.Pure) {c:Cx} {Φ:Nat->Nat->Nat->Prop} {h:Qq U} {w:World} {s i k off m n b o:Nat} {u:U.C} {x:U.D u} (hv:Q9r h s i k off m n u=some x) (hg:G U c Φ h w) (hi:i < n) (hq:c.L s 0=some (b,o)):
  ∃F,Q4I U c Φ h w ⟨s,i,k,false,some (off,m,n)⟩ (.obj u) x F:=by
 unfold Q9r at hv
 split at hv
 ·rename_i v n' f cells ha
  obtain ⟨he,hc⟩:=Z8R ha
  cases hb:Nat.beq m (U.size v) && Nat.beq n n' with
  |false=>simp [hb] at hv
  |true=>
   simp only [hb,cond_true] at hv
   rw [Bool.and_eq_true] at hb
   have hm:=QV hb.1
   have hn:=QV hb.2
   subst hn
   split at hv
   ·rename_i e heq
    subst e
    cases hk:Nat.beq k 0 with
    |false=>simp [hk] at hv
    |true=>
     have:=QV hk
     subst this
     simp [hk] at hv
     subst hv
     refine Z5B hU hP (λy=>y) hg he hc hm hi hq (by omega) (λj z hz=>⟨z,by rw [Nat.zero_add];exact hz,.refl z⟩) (λy j z hz=>⟨z,?_,.refl z⟩) λy=>?_
     ·have hj:=(List.getElem?_eq_some_iff.1 hz).1
      have:=Zx (off:=0) (k:=j) (new:=U.enc v y) (l:=U.enc v (f i)) (by rw [hU.QH,hU.QH];omega) hj
      rw [Nat.zero_add] at this
      rw [this];exact hz
     ·simp only [put,QaV,ha,heq]
   ·rename_i heq
    split at hv
    ·rename_i g hgf
     obtain ⟨q1,q2⟩:=hU.Q7e v u k g hgf
     refine Z5B hU hP (λy=>g (f i) y) hg he hc hm hi hq q2 (λj z hz=>?_) (λy j z hz=>?_) λy=>?_
     ·have hlen:=hU.Q4G _ _ _ hv
      have hj:j < U.size u:=by have:=(List.getElem?_eq_some_iff.1 hz).1;rwa [hU.QH] at this
      obtain ⟨z',r1,r2⟩:=hU.QE _ _ _ hv j (QO k (U.size u) (U.enc v (f i)))[j] (List.getElem?_eq_getElem (by omega))
      rw [hz] at r1;cases r1
      exact ⟨_,(Z10 (List.getElem?_eq_getElem (by omega))).2,r2⟩
     ·have hlen:=hU.Q4G _ _ _ (q1 (f i) y)
      have hj:j < U.size v:=by have:=(List.getElem?_eq_some_iff.1 hz).1;rwa [hU.QH] at this
      obtain ⟨z',r1,r2⟩:=hU.QE _ _ _ (q1 (f i) y) j _ (List.getElem?_eq_getElem (by omega))
      rw [hz] at r1;cases r1
      exact ⟨_,List.getElem?_eq_getElem (by omega),r2⟩
     ·simp only [put,QaV,ha,heq,hgf]
    ·cases hv
 ·cases hv
theorem Z42 (hU : U.Ok) (hP : U.Pure) {c : Cx} {Φ : Nat -> Nat -> Nat -> Prop} {h : Qq U} {w : World} {p : Ref} {k : NK U.C} {x : k.T U} (hv : view h p k = some x) (hg : G U c Φ h w) (hL : p.row = false -> match p.ap with
      |some (_,_,n)=>p.i < n/\∃q,c.L p.s 0=some q
      |none=>∃q,c.L p.s p.i=some q):
    ∃F,Q4I U c Φ h w p k x F:=by
  obtain ⟨s,i,off,row,ap⟩:=p
  cases k with
  |fam g u=>
    unfold view at hv
    cases hb:row && Nat.beq s g with
    |false=>simp [hb] at hv
    |true=>
      simp only [hb,cond_true] at hv
      rw [Bool.and_eq_true] at hb
      obtain ⟨rfl,_⟩:=hb
      have he:=FK.Qdc hv
      have hE:=hg.Q1U s _ he
      have move:∀{c d:Cx} {w:World} {s t:Nat} {F:Nat->Nat->Prop} {x:u.T U},Cx.LeI U c d->(∀i,d.L t i=c.L s i)->Q1J c w s F (u.ent x)->Q1J d w t F (u.ent x):=λ{c d w s t F x} hI hL hE=>by
        cases u with
        |obj u=>
          obtain ⟨A,G,h0,h1,h2,h3,h4,h5⟩:=hE
          exact ⟨A,G,λi hi=>by rw [hL];exact h0 i hi,λi x hx=>h1 i x (by rw [←hL];exact hx),λi hi=>ZY hU hP hI (h2 i hi),h3,h4,h5⟩
        |map gk gv ku vu=>
          obtain ⟨A,h0,h1,h2,h3,h4⟩:=hE
          refine ⟨A,λi hi=>by rw [hL];exact h0 i hi,λi x hx=>h1 i x (by rw [←hL];exact hx),λi hi=>?_,h3,h4⟩
          obtain ⟨es,cl,q1,q2⟩:=h2 i hi
          exact ⟨es,cl,q1,Q4X.pure hU hP hI q2⟩
      refine ⟨Φ s,⟨by simp [he],λ_ _ h=>h,λd t hI hLd=>move hI (λi=>by rw [hLd];rfl) hE,λc' d w' t y F2 hc _ hLc hI hE2 _ _=>?_⟩⟩
      have e:(λb o=>(Φ s b o/\¬Φ s b o)\/F2 b o)=F2:=by funext b o;exact propext ⟨λh=>h.elim (λh=>absurd h.1 h.2) id,.inr⟩
      show Q1J c' w' s (λb o=>(Φ s b o/\¬Φ s b o)\/F2 b o) _
      rw [e]
      exact move hI (hLc rfl) hE2
  |tok=>
    unfold view at hv
    cases row with
    |false=>simp at hv
    |true=>
      simp only [cond_true] at hv
      split at hv
      · rename_i he
        have hE:=hg.Q1U s _ he
        refine ⟨Φ s,⟨by simp [he],λ_ _ h=>h,λd t hI hLd=>?_,λc' d w' t y F2 hc _ hLc hI hE2 _ _=>?_⟩⟩
        · obtain ⟨b,o,e,h0,h1,h2,h3⟩:=hE
          have hLd:∀i,d.L t i=c.L s i:=λi=>by rw [hLd];rfl
          exact ⟨b,o,e,by rw [hLd];exact h0,by rw [hLd];exact h1,h2,h3⟩
        · obtain ⟨b,o,e,h0,h1,h2,h3⟩:=hE2
          have hLc:∀i,c'.L s i=d.L t i:=hLc rfl
          have e:(λb o=>(Φ s b o/\¬Φ s b o)\/F2 b o)=F2:=by funext b o;exact propext ⟨λh=>h.elim (λh=>absurd h.1 h.2) id,.inr⟩
          show Q1J c' w' s (λb o=>(Φ s b o/\¬Φ s b o)\/F2 b o) _
          rw [e]
          exact ⟨b,o,_,by rw [hLc];exact h0,by rw [hLc];exact h1,h2,h3⟩
      · cases hv
  |row u=>
    unfold view at hv
    cases row with
    |false=>simp at hv
    |true=>
      simp only [cond_true] at hv
      split at hv
      · rename_i v n f he
        split at hv
        · rename_i e heq
          subst e
          cases hv
          have hE:=hg.Q1U s _ he
          refine ⟨Φ s,⟨by simp [he],λ_ _ h=>h,λd t hI hLd=>?_,λc' d w' t y F2 hc _ hLc hI hE2 _ _=>?_⟩⟩
          · obtain ⟨A,G,h0,h1,h2,h3,h4,h5⟩:=hE
            have hLd:∀i,d.L t i=c.L s i:=λi=>by rw [hLd];rfl
            exact ⟨A,G,λi hi=>by rw [hLd];exact h0 i hi,λi x hx=>h1 i x (by rw [←hLd];exact hx),λi hi=>ZY hU hP hI (h2 i hi),h3,h4,h5⟩
          · obtain ⟨A,G,h0,h1,h2,h3,h4,h5⟩:=hE2
            have hLc:∀i,c'.L s i=d.L t i:=hLc rfl
            have e:(λb o=>(Φ s b o/\¬Φ s b o)\/F2 b o)=F2:=by funext b o;exact propext ⟨λh=>h.elim (λh=>absurd h.1 h.2) id,.inr⟩
            show Q1J c' w' s (λb o=>(Φ s b o/\¬Φ s b o)\/F2 b o) _
            rw [e]
            exact ⟨A,G,λi hi=>by rw [hLc];exact h0 i hi,λi x hx=>h1 i x (by rw [←hLc];exact hx),λi hi=>ZY hU hP hI (h2 i hi),h3,h4,h5⟩
        · cases hv
      · cases hv
  |obj u=>
    unfold view at hv
    cases row with
    |true=>simp at hv
    |false=>
      simp only [cond_false] at hv
      have hL:=hL rfl
      cases ap with
      |some a=>
        obtain ⟨off',m,n⟩:=a
        simp only at hL hv
        obtain ⟨hi,⟨b,o⟩,hq⟩:=hL
        exact Z7J hU hP hv hg hi hq
      |none=>
      obtain ⟨q,hq⟩:=hL
      obtain ⟨b,o⟩:=q
      simp only at hq hv
      have hLof:∀i',Lof c ⟨s,i,off,false,none⟩ i'=if i'=0 then some (b,o+off) else none:=λi'=>by
        unfold Lof;simp [hq]
      split at hv
      · rename_i ct v n f he
        split at hv
        · rename_i e heq
          subst e
          cases ho:Nat.beq off 0 with
          |false=>simp [ho] at hv
          |true=>
            have:=QV ho
            subst this
            simp [ho] at hv
            subst hv
            have hE:=hg.Q1U s _ he
            obtain ⟨A,G,h0,h1,h2,h3,h4,h5⟩:=hE
            have hi:=h1 i _ hq
            have e1:=h0 i hi
            rw [hq] at e1
            simp only [Option.some.injEq] at e1
            have hPi:=h2 i hi
            rw [←e1] at hPi
            refine ⟨λb' o'=>∃k,k < U.size v/\G i k b' o',⟨by simp [he],λb' o' ⟨k,hk,hf⟩=>(h4 _ _).2 ⟨i,k,hi,hk,hf⟩,λd t hI hLd=>?_,λc' d w' t y F2 hc hcd _ hI hE2 hA hdis=>?_⟩⟩
            · have hLd:∀i',d.L t i'=if i'=0 then some (b,o) else none:=λi'=>by rw [hLd,hLof];rfl
              refine ⟨b,o,G i,by rw [hLd];rfl,λi' x hx=>?_,ZY hU hP hI hPi,λb' o'=>by rw [hU.QH]⟩
              rw [hLd] at hx
              by_cases e:i'=0
              · exact e
              · rw [if_neg e] at hx;cases hx
            · obtain ⟨hLc,hLd⟩:=hcd rfl
              have hLd:∀i',d.L t i'=if i'=0 then some (b,o) else none:=λi'=>by rw [hLd,hLof];rfl
              obtain ⟨b2,o2,G2,p1,p2,p3,p4⟩:=hE2
              rw [hLd] at p1
              simp only [if_true,Option.some.injEq,Prod.mk.injEq] at p1
              obtain ⟨rfl,rfl⟩:=p1
              have hR:∀j k b' o',j < n->j≠i->k < U.size v->G j k b' o'->Φ s b' o'/\¬∃k,k < U.size v/\G i k b' o':=λj k b' o' hj hne hk hf=>
                ⟨(h4 _ _).2 ⟨j,k,hj,hk,hf⟩,λ⟨k',hk',hf'⟩=>h3 j i k k' b' o' hj hi hk hk' hne hf hf'⟩
              have hput:put h ⟨s,i,0,false,none⟩ (.obj v) y= .fam ct v n (Qr f i y):=by
                unfold put
                simp only [he,heq]
              rw [hput]
              refine ⟨A,λj k b' o'=>if j=i then G2 k b' o' else G j k b' o',λj hj=>by rw [hLc];exact h0 j hj,λj x hx=>h1 j x (by rw [←hLc];exact hx),λj hj=>?_,λj l k1 k2 b' o' hj hl hk1 hk2 hne f1 f2=>?_,λb' o'=>?_,h5⟩
              · by_cases e:j=i
                · subst e
                  simp only [Qr,if_true]
                  rw [←e1]
                  exact ZY hU hP hI p3
                · simp only [Qr,if_neg e]
                  refine (h2 j hj).stays hU hc λk hk=>hA.sub λb' o' hf=>hR j k b' o' hj e (by rw [←hU.QH v (f j)];exact hk) hf
              · dsimp only at f1 f2
                have p4':∀k b' o',k < U.size v->G2 k b' o'->F2 b' o':=λk b' o' hk hf=>(p4 _ _).2 ⟨k,by rw [hU.QH];exact hk,hf⟩
                by_cases e:j=i
                · subst e
                  rw [if_pos rfl] at f1
                  rw [if_neg (λe=>hne e.symm)] at f2
                  obtain ⟨q1,q2⟩:=hR l k2 b' o' hl (λe=>hne e.symm) hk2 f2
                  exact hdis _ _ q1 q2 (p4' _ _ _ hk1 f1)
                · rw [if_neg e] at f1
                  by_cases e2:l=i
                  · subst e2
                    rw [if_pos rfl] at f2
                    obtain ⟨q1,q2⟩:=hR j k1 b' o' hj e hk1 f1
                    exact hdis _ _ q1 q2 (p4' _ _ _ hk2 f2)
                  · rw [if_neg e2] at f2
                    exact h3 j l k1 k2 b' o' hj hl hk1 hk2 hne f1 f2
              · constructor
                · rintro (⟨q1,q2⟩|q1)
                  · obtain ⟨j,k,hj,hk,hf⟩:=(h4 _ _).1 q1
                    have:j≠i:=λe=>q2 ⟨k,hk,e▸hf⟩
                    exact ⟨j,k,hj,hk,by dsimp only;rw [if_neg this];exact hf⟩
                  · obtain ⟨k,hk,hf⟩:=(p4 _ _).1 q1
                    exact ⟨i,k,hi,by rw [←hU.QH v y];exact hk,by dsimp only;rw [if_pos rfl];exact hf⟩
                · rintro ⟨j,k,hj,hk,hf⟩
                  by_cases e:j=i
                  · rw [if_pos e] at hf
                    exact .inr ((p4 _ _).2 ⟨k,by rw [hU.QH];exact hk,hf⟩)
                  · rw [if_neg e] at hf
                    exact .inl (hR j k b' o' hj e hk hf)
        · cases hv
      · rename_i cells he
        have hE:=hg.Q1U s _ he
        obtain ⟨b',o',G,h0,h1,h2,h3⟩:=hE
        have hi:=h1 i _ hq
        subst hi
        rw [hq] at h0;cases h0
        have hlen:=hU.Q4G _ _ _ hv
        have hsub:=(h2.sub hlen).dec hU hv
        have hcl:∀k,k < U.size u->off+k < cells.length:=λk hk=>by
          have:(QO off (U.size u) cells)[k]? =Option.some (QO off (U.size u) cells)[k]:=List.getElem?_eq_getElem (by omega)
          exact (List.getElem?_eq_some_iff.1 (Z10 this).2).1
        refine ⟨λb' o'=>∃k,k < U.size u/\G (off+k) b' o',⟨by simp [he],λb' o' ⟨k,hk,hf⟩=>(h3 _ _).2 ⟨off+k,hcl k hk,hf⟩,λd t hI hLd=>?_,λc' d w' t y F2 hc hcd _ hI hE2 hA hdis=>?_⟩⟩
        · have hLd:∀i',d.L t i'=if i'=0 then Option.some (b,o+off) else none:=λi'=>by rw [hLd,hLof]
          refine ⟨b,o+off,_,by rw [hLd];rfl,λi' x hx=>?_,ZY hU hP hI hsub,λb' o'=>by rw [hU.QH]⟩
          rw [hLd] at hx
          by_cases e:i'=0
          · exact e
          · rw [if_neg e] at hx;cases hx
        · obtain ⟨hLc,hLd⟩:=hcd rfl
          have hLd:∀i',d.L t i'=if i'=0 then Option.some (b,o+off) else none:=λi'=>by rw [hLd,hLof]
          obtain ⟨b2,o2,G2,p1,p2,p3,p4⟩:=hE2
          rw [hLd] at p1
          simp only [if_true,Option.some.injEq,Prod.mk.injEq] at p1
          obtain ⟨rfl,rfl⟩:=p1
          have hput:put h ⟨s,0,off,false,none⟩ (.obj u) y= .obj (Q1C off (U.enc u y) cells):=by
            unfold put
            simp only [he]
          rw [hput]
          have hnl:(U.enc u y).length=U.size u:=hU.QH u y
          have hle:off+(U.enc u y).length<=cells.length\/U.size u=0:=by
            rcases Nat.eq_zero_or_pos (U.size u) with h6|h6
            · exact .inr h6
            · have:=hcl (U.size u - 1) (by omega);omega
          have hspl:∀k,(Q1C off (U.enc u y) cells)[k]? =if off<=k/\k < off+U.size u then (U.enc u y)[k - off]? else cells[k]? :=λk=>by
            rcases hle with hle|hle
            · by_cases hk:off<=k/\k < off+U.size u
              · rw [if_pos hk]
                obtain ⟨j,rfl⟩:∃j,k=off+j:=⟨k - off,by omega⟩
                rw [Zx hle (by omega)]
                congr 1;omega
              · rw [if_neg hk,Zp hle (by omega)]
            · have hz:U.enc u y= []:=List.eq_nil_of_length_eq_zero (by omega)
              rw [if_neg (by omega),hz]
              simp [Q1C]
          have hsl:(Q1C off (U.enc u y) cells).length=cells.length:=by
            rcases hle with hle|hle
            · exact Zo hle
            · have hz:U.enc u y= []:=List.eq_nil_of_length_eq_zero (by omega)
              rw [hz];simp [Q1C]
          have hR:∀k b' o',k < cells.length->¬(off<=k/\k < off+U.size u)->G k b' o'->Φ s b' o'/\¬∃k,k < U.size u/\G (off+k) b' o':=λk b' o' hk hne hf=>
            ⟨(h3 _ _).2 ⟨k,hk,hf⟩,λ⟨k',hk',hf'⟩=>h2.dis k (off+k') b' o' hk (hcl k' hk') (by omega) hf hf'⟩
          have p4':∀k b' o',k < U.size u->G2 k b' o'->F2 b' o':=λk b' o' hk hf=>(p4 _ _).2 ⟨k,by rw [hU.QH];exact hk,hf⟩
          refine ⟨b,o,λk b' o'=>if off<=k/\k < off+U.size u then G2 (k - off) b' o' else G k b' o',by rw [hLc];exact hq,λi x hx=>h1 i x (by rw [←hLc];exact hx),⟨λk z hk=>?_,λj k b' o' hj hk hne f1 f2=>?_⟩,λb' o'=>?_⟩
          · rw [hspl] at hk
            by_cases hkr:off<=k/\k < off+U.size u
            · rw [if_pos hkr] at hk
              simp only [if_pos hkr]
              have:=(ZY hU hP hI p3).own (k - off) z hk
              rwa [show o+off+(k - off)=o+k by omega] at this
            · rw [if_neg hkr] at hk
              simp only [if_neg hkr]
              exact (h2.own k z hk).stays hU hc (hA.sub λb' o' hf=>hR k b' o' (List.getElem?_eq_some_iff.1 hk).1 hkr hf)
          · rw [hsl] at hj hk
            by_cases hjr:off<=j/\j < off+U.size u
            · rw [if_pos hjr] at f1
              by_cases hkr:off<=k/\k < off+U.size u
              · rw [if_pos hkr] at f2
                exact p3.dis (j - off) (k - off) b' o' (by omega) (by omega) (by omega) f1 f2
              · rw [if_neg hkr] at f2
                obtain ⟨q1,q2⟩:=hR k b' o' hk hkr f2
                exact hdis _ _ q1 q2 (p4' _ _ _ (by omega) f1)
            · rw [if_neg hjr] at f1
              by_cases hkr:off<=k/\k < off+U.size u
              · rw [if_pos hkr] at f2
                obtain ⟨q1,q2⟩:=hR j b' o' hj hjr f1
                exact hdis _ _ q1 q2 (p4' _ _ _ (by omega) f2)
              · rw [if_neg hkr] at f2
                exact h2.dis j k b' o' hj hk hne f1 f2
          · rw [hsl]
            constructor
            · rintro (⟨q1,q2⟩|q1)
              · obtain ⟨k,hk,hf⟩:=(h3 _ _).1 q1
                have:¬(off<=k/\k < off+U.size u):=λhr=>q2 ⟨k - off,by omega,by rw [show off+(k - off)=k by omega];exact hf⟩
                exact ⟨k,hk,by dsimp only;rw [if_neg this];exact hf⟩
              · obtain ⟨k,hk,hf⟩:=(p4 _ _).1 q1
                rw [hU.QH] at hk
                exact ⟨off+k,hcl k hk,by dsimp only;rw [if_pos ⟨by omega,by omega⟩,show off+k - off=k by omega];exact hf⟩
            · rintro ⟨k,hk,hf⟩
              by_cases hkr:off<=k/\k < off+U.size u
              · rw [if_pos hkr] at hf
                exact .inr (p4' _ _ _ (by omega) hf)
              · rw [if_neg hkr] at hf
                exact .inl (hR k b' o' hk hkr hf)
      · cases hv
end Go.Rf
namespace Go.Rf
set_option linter.unusedVariables false
set_option linter.unusedSimpArgs false
variable {U : QY} {P : Program}
structure RVs (U:QY) (c:Cx) (xs:List (V U)) (vs:List Value):Prop where
 len:vs.length=xs.length
 at_:∀(k:Nat) x,xs[k]? =some x->∃v,vs[k]? =some v/\RV U c x v
theorem RVs.Q4u {c:Cx} {x:V U} {xs:List (V U)} {vs:List Value} (h:RVs U c (x::xs) vs):∃v vs',vs=v::vs'/\RV U c x v/\RVs U c xs vs':=by
 cases vs with
 |nil=>have:=h.len;simp at this
 |cons v vs=>
  obtain ⟨v',h1,h2⟩:=h.at_ 0 x rfl
  simp at h1;subst h1
  exact ⟨v,vs,rfl,h2,by have:=h.len;simpa using this,λk y hk=>by have:=h.at_ (k+1) y (by simpa using hk);simpa using this⟩
theorem RVs.cons {c:Cx} {x:V U} {v:Value} {xs:List (V U)} {vs:List Value} (h:RV U c x v) (hl:RVs U c xs vs):RVs U c (x::xs) (v::vs):=by
 refine ⟨by simp [hl.len],λk y hk=>?_⟩
 cases k with
 |zero=>simp at hk;subst hk;exact ⟨v,rfl,h⟩
 |succ k=>simp at hk;simpa using hl.at_ k y hk
def Q6Z (c d:Cx) (ps:List Ref) (k:Nat):Prop:=∀(j:Nat) (p:Ref),ps[j]? =some p->∀i,d.L (k+j) i=Lof c p i
theorem Q6Z.tail {c d:Cx} {p:Ref} {ps:List Ref} {k:Nat} (h:Q6Z c d (p::ps) k):Q6Z c d ps (k+1):=λj q hj i=>by
 have:=h (j+1) q (by simpa using hj) i
 rwa [Nat.add_assoc,Nat.add_comm 1 j]
def ZV (ps:List Ref):List (Sh U.C)->List (V U)->Bool
 | .Q56 j _ _ _::ss,x::xs=>(match x,ps[j]? with
  |⟨false,[.Q1g s _ _ _ _ _]⟩,some p=>Nat.beq p.s s && Nat.beq p.i 0 && Nat.beq p.off 0 && !p.row && p.ap.isNone
  |_,_=>false) && ZV ps ss xs
 |_::ss,_::xs=>ZV ps ss xs
 |_,_=>true
def Z1T:List (Sh U.C)->List Nat
 | []=>[]
 | .Q56 j _ _ _::r=>j::Z1T r
 |_::r=>Z1T r
theorem Z1g {s:Sh U.C} {ss:List (Sh U.C)} {j:Nat} (h:j∈Z1T ss):j∈Z1T (s::ss):=by
 cases s <;> first|exact h|exact List.mem_cons_of_mem _ h
def QaJ (c:Cx) (p:Ref):Prop:=match p.ap with
 |some (_,_,n)=>p.i < n/\∃q,c.L p.s 0=some q
 |none=>∃q,c.L p.s p.i=some q
theorem Z1r (hP:U.Pure) (hU:U.Ok) {c d:Cx} (hI:Cx.LeI U c d) {pa:List Ref} {en:Nat->Nat}:∀(ss:List (Sh U.C)) (xs:List (V U)) (t:Ts U ss) (ps:List Ref) (vs:List Value) (k:Nat),Z1H ss xs=some t->Q6X ss xs=some ps->ZV pa ss xs=true->(∀(j:Nat) (s:Nat),j∈Z1T ss->pa[j]? =some ⟨s,0,0,false,none⟩->∀q,c.L s 0=some q->d.L (en j) 0=some q)->
  RVs U c xs vs->Q6Z c d ps k->RVs U d (Z1D en ss t k) vs/\∀(j:Nat) (p:Ref),ps[j]? =some p->p.row=false->QaJ c p
 | [],[],t,ps,vs,k,hd,hp,hel,hpa,hr,hm=>by
  cases hp
  exact ⟨⟨by have:=hr.len;simpa [Z1D] using this,λk x hk=>by simp [Z1D] at hk⟩,λj p hj=>by simp at hj⟩
 |s::ss,x::xs,t,ps,vs,k,hd,hp,hel,hpa,hr,hm=>by
  unfold Z1H at hd
  split at hd
  ·rename_i t1 t2 h1 h2
   cases hd
   obtain ⟨v,vs',rfl,hr1,hr2⟩:=hr.Q4u
   unfold Q6X at hp
   split at hp
   ·rename_i a i off ps' hps _
    have hel2:ZV pa ss xs=true:=hel
    cases hp
    obtain ⟨b,o,hL,rfl⟩:∃b o,c.L a i=some (b,o)/\v= .pointer (some (Rf.at_ b (o+off))):=by
     cases (show R U c (.ptr a i off) v from hr1) with|ptr h0=>exact ⟨_,_,h0,rfl⟩
    obtain ⟨h3,h4⟩:=Z1r hP hU hI ss xs t2 ps' vs' (k+1) h2 hps hel2 (λj s hj=>hpa j s (Z1g hj)) hr2 hm.tail
    refine ⟨.cons ?_ h3,λj p hj hp=>?_⟩
    ·have:=hm 0 _ rfl 0
     show R U d (.ptr k 0 0) _
     refine .ptr (o:=o+off) ?_
     rw [Nat.add_zero] at this
     rw [this];simp [Lof,hL]
    ·cases j with
     |zero=>simp at hj;subst hj;exact ⟨_,hL⟩
     |succ j=>simp at hj;exact h4 j p hj hp
   ·rename_i a off m n i kk ps' hps _
    have hel2:ZV pa ss xs=true:=hel
    cases hp
    obtain ⟨b,o,hin,hL,rfl⟩:∃b o,i < n/\c.L a 0=some (b,o)/\v= .pointer (some (Rf.at_ b (o+off+(i*m+kk)))):=by
     cases (show R U c (.Q1g a off m n i kk) v from hr1) with|Q1g hi h0=>exact ⟨_,_,hi,h0,rfl⟩
    obtain ⟨h3,h4⟩:=Z1r hP hU hI ss xs t2 ps' vs' (k+1) h2 hps hel2 (λj s hj=>hpa j s (Z1g hj)) hr2 hm.tail
    refine ⟨.cons ?_ h3,λj p hj hp=>?_⟩
    ·have:=hm 0 _ rfl 0
     show R U d (.ptr k 0 0) _
     refine .ptr (o:=o+off+(i*m+kk)) ?_
     rw [Nat.add_zero] at this
     rw [this];simp [Lof,hL]
    ·cases j with
     |zero=>simp at hj;subst hj;exact ⟨hin,_,hL⟩
     |succ j=>simp at hj;exact h4 j p hj hp
   ·rename_i u a i n ps' hps _
    have hel2:ZV pa ss xs=true:=hel
    cases hb:Nat.beq i 0 with
    |false=>rw [hb] at hp;cases hp
    |true=>
     rw [hb] at hp
     have:=QV hb
     subst this
     cases hp
     obtain ⟨h3,h4⟩:=Z1r hP hU hI ss xs t2 ps' vs' (k+1) h2 hps hel2 (λj s hj=>hpa j s (Z1g hj)) hr2 hm.tail
     have hm0:∀i,d.L k i=c.L a i:=λi=>by
      have:=hm 0 _ rfl i
      rw [Nat.add_zero] at this
      rw [this];simp [Lof]
     refine ⟨.cons ?_ h3,λj p hj hp=>?_⟩
     ·have e1:t1=n:=by
       simp only [Q82,hb,cond_true,Option.some.injEq] at h1
       exact h1.symm
      subst e1
      show R U d (.sl k 0 t1) v
      cases (show R U c (.sl a 0 t1) v from hr1) with
      |sl hc ha hl=>exact .sl hc (λhn=>by rw [hm0];exact ha hn) (λj hj=>by rw [hm0];exact hl j hj)
     ·cases j with
      |zero=>simp at hj;subst hj;cases hp
      |succ j=>simp at hj;exact h4 j p hj hp
   ·rename_i u a v0 xs0 ps' hps _
    have hel2:ZV pa ss xs=true:=hel
    cases hp
    obtain ⟨h3,h4⟩:=Z1r hP hU hI ss xs t2 ps' vs' (k+1) h2 hps hel2 (λj s hj=>hpa j s (Z1g hj)) hr2 hm.tail
    have hm0:∀i,d.L k i=c.L a i:=λi=>by
     have:=hm 0 _ rfl i
     rw [Nat.add_zero] at this
     rw [this];simp [Lof]
    refine ⟨.cons ?_ h3,λj p hj hp=>?_⟩
    ·simp only [Q82] at h1
     split at h1
     ·rename_i e _
      subst e
      cases h1
      show R U d (.isl (.own k) v0 xs0) v
      cases (show R U c (.isl (.own a) v0 xs0) v from hr1) with
      | @isl _ _ _ aa cap b o g hc ht ha hi hrr=>
       refine .isl g hc ?_ ha (λi k' q1 q2=>hI.I _ _ _ (hi i k' q1 q2)) λi k' q1 q2=>?_
       ·obtain ⟨b',o',e',t1,t2,t3⟩:=ht
        exact ⟨b',o',e',by rw [hm0];exact t1,by rw [hm0];exact t2,t3⟩
       ·exact R.pure hP hU hI (hrr i k' q1 q2) (Z4n hU hP _ _ _ q2)
     ·cases h1
    ·cases j with
     |zero=>simp at hj;subst hj;cases hp
     |succ j=>simp at hj;exact h4 j p hj hp
   ·rename_i s0 x0 _ _ _ ps' hn1 hn2 hn3 hn4 hps _
    cases hs:s0.Q5d with
    |true=>rw [hs] at hp;cases hp
    |false=>
     rw [hs] at hp
     cases hp
     cases he:s0.Q63 with
     |false=>
      have hel2:ZV pa ss xs=true:=by cases s0 <;> first|exact hel|cases he
      obtain ⟨h3,h4⟩:=Z1r hP hU hI ss xs t2 _ vs' k h2 hps hel2 (λj s hj=>hpa j s (Z1g hj)) hr2 hm
      refine ⟨?_,h4⟩
      have h9:=Z62 (p:=k) hP hU hI h1 hs he hr1
      cases s0 <;> first|(cases hs;done)|(cases he;done)|exact .cons h9 h3
     |true=>
      cases s0 with
      |Q56 j off m n=>
       unfold ZV at hel
       rw [Bool.and_eq_true] at hel
       obtain ⟨hel1,hel2⟩:=hel
       obtain ⟨h3,h4⟩:=Z1r hP hU hI ss xs t2 _ vs' k h2 hps hel2 (λj s hj=>hpa j s (Z1g hj)) hr2 hm
       refine ⟨.cons ?_ h3,h4⟩
       split at hel1
       ·rename_i a' off' m' n' i' k' p hp
        simp only [Bool.and_eq_true] at hel1
        obtain ⟨⟨⟨⟨q1,q2⟩,q3⟩,q4⟩,q5⟩:=hel1
        simp only [Q82] at h1
        cases hb:Nat.beq off off' && Nat.beq m m' && Nat.beq n n' && Nat.beq k' 0 with
        |false=>simp [hb] at h1
        |true=>
         simp [hb] at h1
         subst h1
         simp only [Bool.and_eq_true] at hb
         obtain ⟨⟨⟨r1,r2⟩,r3⟩,r4⟩:=hb
         have r1:=QV r1
         have r2:=QV r2
         have r3:=QV r3
         have r4:=QV r4
         subst r1;subst r2;subst r3;subst r4
         obtain ⟨ps0,pi,po,pr,pap⟩:=p
         have e1:ps0=a':=QV q1
         have e2:pi=0:=QV q2
         have e3:po=0:=QV q3
         subst e1;subst e2;subst e3
         cases pr with
         |true=>cases q4
         |false=>
         cases pap with
         |some x=>cases q5
         |none=>
         show R U d (.Q1g (en j) off m n i' 0) v
         cases (show R U c (.Q1g ps0 off m n i' 0) v from hr1) with
         |Q1g hi h0=>
          exact .Q1g hi (hpa j _ (List.mem_cons_self ..) hp _ h0)
       ·cases hel1
      |_=>cases he
   ·cases hp
  ·cases hd
 | [],x::xs,t,ps,vs,k,hd,hp,hel,hpa,hr,hm=>by cases hd
 |s::ss,[],t,ps,vs,k,hd,hp,hel,hpa,hr,hm=>by cases hd
theorem Q6Z.elems {c d:Cx} {pa:List Ref} {k:Nat} (h:Q6Z c d pa k) (j s:Nat) (hj:pa[j]? =some ⟨s,0,0,false,none⟩) (q:Nat×Nat) (hq:c.L s 0=some q):d.L (k+j) 0=some q:=by
 rw [h j _ hj 0]
 simp [Lof,hq]
end Go.Rf
namespace Go.Rf
set_option linter.unusedVariables false
set_option linter.unusedSimpArgs false
variable {U : QY} {P : Program}
structure Sig (U:QY) where
 Q4j:List (Sh U.C)
 heap : List (NK U.C)
 ro : Nat := 0
 Q4i:List (Sh U.C)
 tup:Bool
 new : List (NK U.C)
abbrev Sig.F (g:Sig U):Type:=Ts U g.Q4j->HTs U g.heap->Option (Ts U g.Q4i×HTs U (g.heap.drop g.ro)×HTs U g.new)
def unA:List (A U)->Option (List (V U))
 | []=>some []
 | .v x::r=>match unA r with
  |some l=>some (x::l)
  |none=>none
 |_=>none
def Qco (tup:Bool) (vs:List (V U)):A U:=
 match tup,vs with
 |false,[v]=>.v v
 |_,vs=>.t vs
def Z4D (tup:Bool) (x:A U):Option (List (V U)):=
 match tup,x with
 |false,.v v=>some [v]
 |true,.t vs=>some vs
 |_,_=>none
def distinct:List Nat->Bool
 | []=>true
 |x::r=>!mem x r && distinct r
def ZC:List (NK U.C)->Nat->List Nat
 | [],_=>[]
 | .fam f _::r,k=>f::ZC r k
 | .obj _::r,k=>k::ZC r (k+1)
 | .row _::r,k=>k::ZC r (k+1)
 | .tok::r,k=>k::ZC r (k+1)
def Q4w:List (NK U.C)->Nat
 | []=>0
 | .fam _ _::r=>Q4w r
 | .obj _::r=>Q4w r+1
 | .row _::r=>Q4w r+1
 | .tok::r=>Q4w r+1
def ZR:List (NK U.C)->List Ref->Option (List Ref)
 | [],[]=>some []
 | .fam f _::r,ps=>match ZR r ps with
  |some l=>some (⟨f,0,0,true,none⟩::l)
  |none=>none
 | .obj _::r,p::ps=>match ZR r ps with
  |some l=>some (p::l)
  |none=>none
 | .row _::r,p::ps=>match ZR r ps with
  |some l=>some (p::l)
  |none=>none
 | .tok::r,p::ps=>match ZR r ps with
  |some l=>some (p::l)
  |none=>none
 |_,_=>none
def Z2i (n:Nat):List (NK U.C)->Bool
 | []=>true
 | .fam f _::r=>Nat.blt f n && Z2i n r
 |_::r=>Z2i n r
def Z1N:List Nat->List (NK U.C)->List Ref
 |s::ns,u::us=>⟨s,0,0,u.isRow,none⟩::Z1N ns us
 |_,_=>[]
def Sig.nms (g:Sig U):List Nat:=ZC g.heap U.nf
def Sig.base (g:Sig U):Nat:=U.nf+Q4w g.heap
def Sig.roN (g:Sig U):Nat:=bif Nat.beq g.ro 0 then 0 else g.base
def Sig.Q7O (g:Sig U):Bool:=distinct g.nms && Z2i U.nf g.heap && (Nat.beq g.ro 0||Nat.beq g.ro g.heap.length)
def Z1a:List (NK U.C)->Nat->List Ref
 | [],_=>[]
 | .fam _ _::r,k=>Z1a r k
 | .obj _::r,k=>⟨k,0,0,false,none⟩::Z1a r (k+1)
 | .row _::r,k=>⟨k,0,0,true,none⟩::Z1a r (k+1)
 | .tok::r,k=>⟨k,0,0,true,none⟩::Z1a r (k+1)
def Z6l (p:Option Ref):Bool:=match p with
 |some p=>Nat.beq p.i 0 && Nat.beq p.off 0 && !p.row && p.ap.isNone
 |none=>false
def Z2t (prs:List Ref):List (Sh U.C)->Bool
 | .Q56 j _ _ _::r=>Z6l prs[j]? && Z2t prs r
 |_::r=>Z2t prs r
 | []=>true
def Z4o (prs:List Ref) (j:Nat):Nat:=match prs[j]? with
 |some p=>p.s
 |none=>0
def Sig.start (g:Sig U) (xs:HTs U g.heap):Qq U:=Z4I g.nms g.heap xs
def Z31 (m:Nat) (ps:List Ref):Bool:=ps.all (λp=>Nat.ble m p.s && Nat.beq p.i 0 && Nat.beq p.off 0 && p.ap.isNone) && distinct (ps.map (·.s))
def Sig.Q6C (g:Sig U) (prs ps:List Ref) (h:Qq U) (nx:Nat) (r:Ts U g.Q4i×HTs U (g.heap.drop g.ro)×HTs U g.new):Out U:=
 { v:=Qco g.tup (Z1D (Z4o prs) g.Q4i r.1 nx),rd:=ps.map (·.s),w:=news g.new r.2.2 nx++Q6Q (g.heap.drop g.ro) (ps.drop g.ro) r.2.1 h,nw:=g.new.length}
def Sig.Q5R (g:Sig U) (F:g.F):Native U:=λas h nx=>
 match unA as with
 |some vs=>match Z1H g.Q4j vs,Q6X g.Q4j vs with
  |some a,some prs=>match ZR g.heap prs with
   |some ps=>match views g.heap ps h with
    |some xs=>bif distinct (ps.map (·.s)) && ZV prs g.Q4j vs && Nat.ble U.nf nx && Z2t prs g.Q4i then .opt _ (F a xs) (g.Q6C prs ps h nx) else .fail
    |none=>.fail
   |none=>.fail
  |_,_=>.fail
 |none=>.fail
def Z1i:List (NK U.C)->List Ref->List (Nat×U.C)
 | .obj u::us,p::ps=>bif Nat.blt p.s U.nf||U.plain u||p.ap.isSome|| !Nat.beq p.off 0|| !Nat.beq p.i 0 then Z1i us ps else (p.s,u)::Z1i us ps
 | .row _::us,_::ps=>Z1i us ps
 | .tok::us,_::ps=>Z1i us ps
 | .fam _ _::us,_::ps=>Z1i us ps
 |_,_=>[]
def Sig.Q70 (g:Sig U) (as:List (A U)):List (Nat×U.C):=
 match unA as with
 |some vs=>match Q6X g.Q4j vs with
  |some prs=>match ZR g.heap prs with
   |some ps=>Z1i g.heap ps
   |none=>[]
  |none=>[]
 |none=>[]
def Sig.Q89 (g:Sig U) (F:g.F):Native U:=λas h nx=>
 match Q4F (g.Q70 as) h with
 | []=>g.Q5R F as h nx
 |l=>(g.Q5R F as (Zr l h++h) nx).Qan (Zr l h) (Z4q l h)
def Z3z:List (Sh U.C)->List (V U)->Nat->Option (Nat×Nat×Option Nat)
 | .ptr::_,⟨false,[.ref f x]⟩::_,k=>some (k,f,x)
 |_::ss,_::xs,k=>Z3z ss xs (k+1)
 |_,_,_=>none
def Z15 (as:List (A U)) (k f i:Nat):List (A U):=as.set k (sc (.ptr f i 0))
def Sig.Q8I (g:Sig U) (as:List (A U)):List Ref:=
 match unA as with
 |some vs=>match Q6X g.Q4j vs with
  |some prs=>prs
  |none=>[]
 |none=>[]
def Sig.QaI (g:Sig U) (as:List (A U)):List Ref:=
 match ZR g.heap (g.Q8I as) with
 |some ps=>ps
 |none=>[]
def Sig.QaD (g:Sig U) (F:g.F) (as:List (A U)) (h:Qq U) (nx:Nat):Option (Ts U g.Q4i×HTs U (g.heap.drop g.ro)×HTs U g.new):=
 match unA as with
 |some vs=>match Z1H g.Q4j vs,Q6X g.Q4j vs with
  |some a,some prs=>match ZR g.heap prs with
   |some ps=>match views g.heap ps h with
    |some xs=>bif distinct (ps.map (·.s)) && ZV prs g.Q4j vs && Nat.ble U.nf nx && Z2t prs g.Q4i then F a xs else none
    |none=>none
   |none=>none
  |_,_=>none
 |none=>none
def Sig.native (g:Sig U) (F:g.F):Native U:=λas h nx=>
 match unA as with
 |some vs=>match Z3z g.Q4j vs 0 with
  |none=>g.Q89 F as h nx
  |some (k,f,x)=>match Z3z g.Q4j (vs.set k ⟨false,[.ptr f 0 0]⟩) 0 with
   |none=>.opt (Nat×(Ts U g.Q4i×HTs U (g.heap.drop g.ro)×HTs U g.new)) (match x with
     |some i=>(match g.QaD F (Z15 as k f i) h nx with
      |some r=>some (i,r)
      |none=>none)
     |none=>none) λq=>g.Q6C (g.Q8I (Z15 as k f q.1)) (g.QaI (Z15 as k f q.1)) h nx q.2
   |some (k2,f2,x2)=>.opt (Nat×Nat×(Ts U g.Q4i×HTs U (g.heap.drop g.ro)×HTs U g.new)) (match x with
     |some i=>(match x2 with
      |some i2=>(match g.QaD F (Z15 (Z15 as k f i) k2 f2 i2) h nx with
       |some r=>some (i,i2,r)
       |none=>none)
      |none=>none)
     |none=>none) λq=>g.Q6C (g.Q8I (Z15 (Z15 as k f q.1) k2 f2 q.2.1)) (g.QaI (Z15 (Z15 as k f q.1) k2 f2 q.2.1)) h nx q.2.2
 |none=>.fail
def Sig.Q9d (g:Sig U) (x:A U) (h:Qq U):Option (Ts U g.Q4i×HTs U (g.heap.drop g.ro)×HTs U g.new):=
 match Z4D g.tup x with
 |some vs=>match Z1H g.Q4i vs,Q6X g.Q4i vs,views (g.heap.drop g.ro) ((Z1N g.nms g.heap).drop g.ro) h with
  |some r,some ps,some y=>match views g.new ps h with
   |some z=>bif Z31 g.base ps && ZV (Z1a g.heap U.nf) g.Q4i vs then some (r,y,z) else none
   |none=>none
  |_,_,_=>none
 |none=>none
def Sig.ends (g:Sig U) (x:A U):List (Nat×U.C):=
 Z1i (g.heap.drop g.ro) ((Z1N g.nms g.heap).drop g.ro)++(match Z4D g.tup x with
  |some vs=>match Q6X g.Q4i vs with
   |some ps=>Z1i g.new ps
   |none=>[]
  |none=>[])
def Sig.fin (g:Sig U) (x:A U) (h:Qq U):Option (Ts U g.Q4i×HTs U (g.heap.drop g.ro)×HTs U g.new):=
 match Q4F (g.ends x) h with
 | []=>g.Q9d x h
 |l=>bif Q5x g.roN (Zr l h) then g.Q9d x (Zr l h++h) else none
def Sig.args (g:Sig U) (a:Ts U g.Q4j):List (A U):=(ZL g.Q4j a U.nf).map .v
theorem Z3n:∀(us:List (NK U.C)) (k:Nat),(ZC us k).length=us.length
 | [],_=>rfl
 | .fam f _::r,k=>by simp [ZC,Z3n r k]
 | .obj _::r,k=>by simp [ZC,Z3n r (k+1)]
 | .row _::r,k=>by simp [ZC,Z3n r (k+1)]
 | .tok::r,k=>by simp [ZC,Z3n r (k+1)]
theorem Z3t {n:Nat}:∀(us:List (NK U.C)) (k:Nat) (j s:Nat),Z2i n us=true->n<=k->(ZC us k)[j]? =some s->s < k+Q4w us
 | [],_,j,s,_,_,h=>by simp [ZC] at h
 | .fam f _::r,k,j,s,hf,hk,h=>by
  unfold Z2i at hf
  rw [Bool.and_eq_true] at hf
  cases j with
  |zero=>simp [ZC] at h;subst h;have:=Nat.le_of_ble_eq_true (show Nat.ble (f+1) n=true from hf.1);show f < k+Q4w r;omega
  |succ j=>exact Z3t r k j s hf.2 hk (by simpa [ZC] using h)
 | .obj _::r,k,j,s,hf,hk,h=>by
  cases j with
  |zero=>simp [ZC] at h;subst h;show k < k+(Q4w r+1);omega
  |succ j=>have:=Z3t r (k+1) j s hf (by omega) (by simpa [ZC] using h);show s < k+(Q4w r+1);omega
 | .row _::r,k,j,s,hf,hk,h=>by
  cases j with
  |zero=>simp [ZC] at h;subst h;show k < k+(Q4w r+1);omega
  |succ j=>have:=Z3t r (k+1) j s hf (by omega) (by simpa [ZC] using h);show s < k+(Q4w r+1);omega
 | .tok::r,k,j,s,hf,hk,h=>by
  cases j with
  |zero=>simp [ZC] at h;subst h;show k < k+(Q4w r+1);omega
  |succ j=>have:=Z3t r (k+1) j s hf (by omega) (by simpa [ZC] using h);show s < k+(Q4w r+1);omega
theorem Z3r {c d:Cx} {n:Nat}:∀(us:List (NK U.C)) (prs ps:List Ref) (k:Nat),Z2i n us=true->ZR us prs=some ps->Q6Z c d prs k->(∀f,f < n->∀i,d.L f i=c.L f i)->prs.length=Q4w us/\ps.length=us.length/\
  ∀(j:Nat) (p:Ref),ps[j]? =some p->∃s,(ZC us k)[j]? =some s/\(∀i,d.L s i=Lof c p i)/\((p∈prs/\k<=s)\/(∃f u,us[j]? =some (.fam f u)/\p=⟨f,0,0,true,none⟩/\s=f/\f < n))
 | [],[],ps,k,hf,h,hm,hn=>by cases h;exact ⟨rfl,rfl,λj p hj=>by simp at hj⟩
 | [],p::prs,ps,k,hf,h,hm,hn=>by cases h
 | .fam f u::r,prs,ps,k,hf,h,hm,hn=>by
  unfold Z2i at hf
  rw [Bool.and_eq_true] at hf
  have hlt:f < n:=Nat.le_of_ble_eq_true (show Nat.ble (f+1) n=true from hf.1)
  unfold ZR at h
  split at h
  ·rename_i l hl
   cases h
   obtain ⟨h1,h2,h3⟩:=Z3r r prs l k hf.2 hl hm hn
   refine ⟨h1,by simp [h2],λj p hj=>?_⟩
   cases j with
   |zero=>
    simp at hj;subst hj
    exact ⟨f,rfl,λi=>by rw [hn f hlt];simp [Lof],.inr ⟨f,u,rfl,rfl,rfl,hlt⟩⟩
   |succ j=>simpa [ZC] using h3 j p (by simpa using hj)
  ·cases h
 | .obj u::r,p::prs,ps,k,hf,h,hm,hn=>by
  unfold ZR at h
  split at h
  ·rename_i l hl
   cases h
   obtain ⟨h1,h2,h3⟩:=Z3r r prs l (k+1) hf hl hm.tail hn
   refine ⟨by simp [Q4w,h1],by simp [h2],λj q hj=>?_⟩
   cases j with
   |zero=>
    simp at hj;subst hj
    exact ⟨k,rfl,λi=>hm 0 p rfl i,.inl ⟨List.mem_cons_self ..,Nat.le_refl _⟩⟩
   |succ j=>
    obtain ⟨s,q1,q2,q3⟩:=h3 j q (by simpa using hj)
    exact ⟨s,by simpa [ZC] using q1,q2,q3.imp (λq=>⟨List.mem_cons_of_mem _ q.1,by omega⟩) (by simpa using ·)⟩
  ·cases h
 | .row u::r,p::prs,ps,k,hf,h,hm,hn=>by
  unfold ZR at h
  split at h
  ·rename_i l hl
   cases h
   obtain ⟨h1,h2,h3⟩:=Z3r r prs l (k+1) hf hl hm.tail hn
   refine ⟨by simp [Q4w,h1],by simp [h2],λj q hj=>?_⟩
   cases j with
   |zero=>
    simp at hj;subst hj
    exact ⟨k,rfl,λi=>hm 0 p rfl i,.inl ⟨List.mem_cons_self ..,Nat.le_refl _⟩⟩
   |succ j=>
    obtain ⟨s,q1,q2,q3⟩:=h3 j q (by simpa using hj)
    exact ⟨s,by simpa [ZC] using q1,q2,q3.imp (λq=>⟨List.mem_cons_of_mem _ q.1,by omega⟩) (by simpa using ·)⟩
  ·cases h
 | .tok::r,p::prs,ps,k,hf,h,hm,hn=>by
  unfold ZR at h
  split at h
  ·rename_i l hl
   cases h
   obtain ⟨h1,h2,h3⟩:=Z3r r prs l (k+1) hf hl hm.tail hn
   refine ⟨by simp [Q4w,h1],by simp [h2],λj q hj=>?_⟩
   cases j with
   |zero=>
    simp at hj;subst hj
    exact ⟨k,rfl,λi=>hm 0 p rfl i,.inl ⟨List.mem_cons_self ..,Nat.le_refl _⟩⟩
   |succ j=>
    obtain ⟨s,q1,q2,q3⟩:=h3 j q (by simpa using hj)
    exact ⟨s,by simpa [ZC] using q1,q2,q3.imp (λq=>⟨List.mem_cons_of_mem _ q.1,by omega⟩) (by simpa using ·)⟩
  ·cases h
 | .obj u::r,[],ps,k,hf,h,hm,hn=>by cases h
 | .row u::r,[],ps,k,hf,h,hm,hn=>by cases h
 | .tok::r,[],ps,k,hf,h,hm,hn=>by cases h
theorem Z2l:∀(us:List (NK U.C)) (k j:Nat) (p:Ref),(Z1a us k)[j]? =some p->p.s=k+j/\j < Q4w us
 | [],k,j,p,h=>by simp [Z1a] at h
 | .fam _ _::r,k,j,p,h=>Z2l r k j p h
 | .obj _::r,k,0,p,h=>by cases h;exact ⟨rfl,Nat.succ_pos _⟩
 | .row _::r,k,0,p,h=>by cases h;exact ⟨rfl,Nat.succ_pos _⟩
 | .tok::r,k,0,p,h=>by cases h;exact ⟨rfl,Nat.succ_pos _⟩
 | .obj _::r,k,j+1,p,h=>by
  obtain ⟨h1,h2⟩:=Z2l r (k+1) j p (by simpa [Z1a] using h)
  exact ⟨by omega,by show j+1 < Q4w r+1;omega⟩
 | .row _::r,k,j+1,p,h=>by
  obtain ⟨h1,h2⟩:=Z2l r (k+1) j p (by simpa [Z1a] using h)
  exact ⟨by omega,by show j+1 < Q4w r+1;omega⟩
 | .tok::r,k,j+1,p,h=>by
  obtain ⟨h1,h2⟩:=Z2l r (k+1) j p (by simpa [Z1a] using h)
  exact ⟨by omega,by show j+1 < Q4w r+1;omega⟩
theorem Z7c {prs:List Ref}:∀(ss:List (Sh U.C)) (j:Nat),Z2t prs ss=true->j∈Z1T ss->∃s,prs[j]? =some ⟨s,0,0,false,none⟩
 | [],j,h,hj=>by cases hj
 |s::r,j,h,hj=>by
  have rest:Z2t prs r=true->j∈Z1T r->∃s,prs[j]? =some ⟨s,0,0,false,none⟩:=λh1 h2=>Z7c r j h1 h2
  cases s with
  |Q56 j' off m n=>
   unfold Z2t at h
   rw [Bool.and_eq_true] at h
   rcases List.mem_cons.1 hj with rfl|hj
   ·unfold Z6l at h
    cases hp:prs[j]? with
    |none=>rw [hp] at h;cases h.1
    |some p=>
     rw [hp] at h
     obtain ⟨s,i,o,row,ap⟩:=p
     have h1:=h.1
     simp only [Bool.and_eq_true] at h1
     have e1:i=0:=QV h1.1.1.1
     have e2:o=0:=QV h1.1.1.2
     have e3:row=false:=by simpa using h1.1.2
     have e4:ap=none:=by cases ap with|none=>rfl|some x=>cases h1.2
     subst e1;subst e2;subst e3;subst e4
     exact ⟨s,rfl⟩
   ·exact rest h.2 hj
  |_=>exact rest h hj
theorem QbH:∀(ns:List Nat) (us:List (NK U.C)) (j:Nat) (p:Ref),(Z1N ns us)[j]? =some p->∃s k,ns[j]? =some s/\us[j]? =some k/\p=⟨s,0,0,k.isRow,none⟩
 |s::ns,u::us,0,p,h=>by cases h;exact ⟨s,u,rfl,rfl,rfl⟩
 |s::ns,u::us,j+1,p,h=>by simpa using QbH ns us j p (by simpa [Z1N] using h)
 | [],us,j,p,h=>by cases us <;> simp [Z1N] at h
 |s::ns,[],j,p,h=>by simp [Z1N] at h
theorem Z24:∀(l:List Nat),distinct l=true->∀(i j:Nat) x,l[i]? =some x->l[j]? =some x->i=j
 | [],_,i,j,x,hi,_=>by simp at hi
 |y::l,hd,i,j,x,hi,hj=>by
  unfold distinct at hd
  rw [Bool.and_eq_true] at hd
  have hn:y∉l:=λh=>by have:=Z2d.2 h;simp [this] at hd
  cases i with
  |zero=>cases j with
   |zero=>rfl
   |succ j=>simp at hi hj;subst hi;exact absurd (List.mem_of_getElem? hj) hn
  |succ i=>cases j with
   |zero=>simp at hi hj;subst hj;exact absurd (List.mem_of_getElem? hi) hn
   |succ j=>simp at hi hj;rw [Z24 l hd.2 i j x hi hj]
theorem Z7a:∀(as:List (A U)) (vs:List (V U)),unA as=some vs->as=vs.map .v
 | [],vs,h=>by cases h;rfl
 | .v x::r,vs,h=>by
  unfold unA at h
  split at h
  ·rename_i l hl;cases h;rw [Z7a r l hl];rfl
  ·cases h
 | .t x::r,vs,h=>by cases h
theorem Z8c {h h':Qq U} {p:Ref} (hp:get h p.s=get h' p.s) (u:NK U.C):view h p u=view h' p u:=by cases u <;> simp only [view,Q9r,Z4P,hp]
theorem Z8x {h h':Qq U} {p:Ref} (hp:get h p.s=get h' p.s) (u:NK U.C) (y:u.T U):put h p u y=put h' p u y:=by cases u <;> simp only [put,QaV,Z4P,hp]
theorem Z4T {h h':Qq U}:∀(us:List (NK U.C)) (ps:List Ref),(∀p∈ps,get h p.s=get h' p.s)->views us ps h=views us ps h'
 | [],[],_=>rfl
 |u::us,p::ps,hp=>by
  unfold views
  rw [Z8c (hp p (List.mem_cons_self ..)),Z4T us ps λp' h=>hp p' (List.mem_cons_of_mem _ h)]
 | [],p::ps,_=>rfl
 |u::us,[],_=>rfl
theorem Z5M {h h':Qq U}:∀(us:List (NK U.C)) (ps:List Ref) (ys:HTs U us),(∀p∈ps,get h p.s=get h' p.s)->Q6Q us ps ys h=Q6Q us ps ys h'
 | [],[],_,_=>rfl
 |u::us,p::ps,ys,hp=>by
  unfold Q6Q
  rw [Z8x (hp p (List.mem_cons_self ..)),Z5M us ps ys.2 λp' h=>hp p' (List.mem_cons_of_mem _ h)]
 | [],p::ps,_,_=>rfl
 |u::us,[],_,_=>rfl
theorem Z95 {c:Cx} {tup:Bool} {xs:List (V U)} {x:A U} {v:Value} (hu:Z4D tup x=some xs) (hr:RA U c x v):
  ∃vs,RVs U c xs vs/\∀{d:Cx} {ys:List (V U)},ys.length=xs.length->RVs U d ys vs->RA U d (Qco tup ys) v:=by
 unfold Z4D at hu
 split at hu
 ·rename_i y
  cases hu
  refine ⟨[v],.cons hr ⟨rfl,λk z hk=>by simp at hk⟩,λ{d ys} hl hy=>?_⟩
  match ys,hl with
  | [z],_=>
   obtain ⟨v',h1,h2⟩:=hy.at_ 0 z rfl
   simp at h1;subst h1
   exact h2
 ·rename_i zs
  cases hu
  obtain ⟨ws,rfl,h2,h3⟩:=hr
  refine ⟨ws.toList,⟨by simpa using h2,λk z hk=>by simpa using h3 k z hk⟩,λ{d ys} hl hy=>?_⟩
  show RA U d (.t ys) _
  exact ⟨ws,rfl,by have:=hy.len;simpa using this,λk z hk=>by simpa using hy.at_ k z hk⟩
 ·cases hu
theorem Z43 (en:Nat->Nat):∀(ss:List (Sh U.C)) (t:Ts U ss) (k:Nat),(Z1D en ss t k).length=ss.length
 | [],_,_=>rfl
 |s::ss,t,k=>by cases s <;> (unfold Z1D;simp [Z43 en ss])
theorem Z2T:∀(ss:List (Sh U.C)) (t:Ts U ss) (k:Nat),(ZL ss t k).length=ss.length
 | [],_,_=>rfl
 |s::ss,t,k=>by unfold ZL;simp [Z2T ss]
theorem Z4g:∀(ss:List (Sh U.C)) (xs:List (V U)) (t:Ts U ss),Z1H ss xs=some t->xs.length=ss.length
 | [],[],_,_=>rfl
 |s::ss,x::xs,t,h=>by
  unfold Z1H at h
  split at h
  ·rename_i t1 t2 h1 h2;simp [Z4g ss xs t2 h2]
  ·cases h
 | [],x::xs,t,h=>by cases h
 |s::ss,[],t,h=>by cases h
end Go.Rf
namespace Go.Rf
set_option linter.unusedVariables false
set_option linter.unusedSimpArgs false
variable {U : QY} {P : Program}
theorem Z6W {h:Qq U} {p:Ref} {k:NK U.C} {x:k.T U} (hv:view h p k=some x):p.row=k.isRow:=by
 cases k with
 |obj u=>
  unfold view at hv
  cases hr:p.row with
  |true=>rw [hr] at hv;cases hv
  |false=>rfl
 |row u=>
  unfold view at hv
  cases hr:p.row with
  |true=>rfl
  |false=>rw [hr] at hv;cases hv
 |tok=>
  unfold view at hv
  cases hr:p.row with
  |true=>rfl
  |false=>rw [hr] at hv;cases hv
 |fam f u=>
  unfold view at hv
  cases hr:p.row with
  |true=>rfl
  |false=>rw [hr] at hv;cases hv
theorem QaJ.lof {c:Cx} {p:Ref} (h:QaJ c p) (hr:p.row=false):∃q,Lof c p 0=some q:=by
 obtain ⟨s,i,off,row,ap⟩:=p
 simp only at hr
 subst hr
 cases ap with
 |none=>obtain ⟨q,hq⟩:=h;exact ⟨_,by simp [Lof];exact ⟨_,_,hq,rfl⟩⟩
 |some a=>obtain ⟨x,m,n⟩:=a;obtain ⟨_,q,hq⟩:=h;exact ⟨_,by simp [Lof];exact ⟨_,_,hq,rfl⟩⟩
theorem Z7T {c:Cx} {p:Ref} (hr:p.row=false) {i:Nat} (hi:i≠0):Lof c p i=none:=by
 unfold Lof;rw [hr];simp [hi]
theorem Z7r {g:Sig U} {x:A U} {h:Qq U} {r:Ts U g.Q4i×HTs U (g.heap.drop g.ro)×HTs U g.new} (hf:g.Q9d x h=some r):
  ∃vs ps,Z4D g.tup x=some vs/\Z1H g.Q4i vs=some r.1/\Q6X g.Q4i vs=some ps/\views (g.heap.drop g.ro) ((Z1N g.nms g.heap).drop g.ro) h=some r.2.1/\views g.new ps h=some r.2.2/\Z31 g.base ps=true/\ZV (Z1a g.heap U.nf) g.Q4i vs=true:=by
 unfold Sig.Q9d at hf
 split at hf
 ·rename_i rx hrx
  split at hf
  ·rename_i rt pr yt hdr hpr hvy
   split at hf
   ·rename_i zt hvz
    cases hfrs:Z31 g.base pr && ZV (Z1a g.heap U.nf) g.Q4i rx with
    |false=>rw [hfrs] at hf;cases hf
    |true=>
     rw [hfrs] at hf
     cases hf
     rw [Bool.and_eq_true] at hfrs
     exact ⟨rx,pr,hrx,hdr,hpr,hvy,hvz,hfrs.1,hfrs.2⟩
   ·cases hf
  ·cases hf
 ·cases hf
theorem Z9j (hU:U.Ok) {g:Sig U} {x:A U} {hh:Qq U} {r:Ts U g.Q4i×HTs U (g.heap.drop g.ro)×HTs U g.new} (hf:g.fin x hh=some r) {c0 c':Cx} {Φ0 Φ':Nat->Nat->Nat->Prop} {h0:Qq U} {nx:Nat} {w w':World} (hG:G U c' Φ' hh w') (hE:Ext U g.roN c0 Φ0 h0 nx w c' Φ' hh w'):
  ∃hh' Φ'',g.Q9d x hh'=some r/\G U c' Φ'' hh' w'/\Ext U g.roN c0 Φ0 h0 nx w c' Φ'' hh' w':=by
 unfold Sig.fin at hf
 split at hf
 ·exact ⟨hh,Φ',hf,hG,hE⟩
 ·rename_i l hne
  cases hw:Q5x g.roN (Zr (Q4F (g.ends x) hh) hh) with
  |false=>rw [hw] at hf;cases hf
  |true=>
   rw [hw] at hf
   obtain ⟨Φ'',h1⟩:=Z2u (nx:=nx) hU (Q4F (g.ends x) hh) hh Φ' hG
   exact ⟨_,Φ'',hf,h1.g,hE.step h1 hw (Nat.le_refl _)⟩
theorem Sig.ok0 (g:Sig U) (F:g.F) (hP:U.Pure) {Hn:Hints U} {L:Code->Prop} (hH:Q3Z U P Hn L) {f:Nat} {fn:Func} {code:Code} (hf:P.funcs[f]? =some fn) (hb:fn.body=some code)
  (hname:(fn.name== "runtime.NumGoroutine")=false) (hL:∀b,b∈Z3 code->L b) {gos:Nat} (hro:Hn.ro=g.roN) (hbase:Hn.base=g.base) (hgood:g.Q7O=true)
  (heq:∀a xs,Q7U P Hn fn gos none g.fin (g.args a) (g.start xs) g.base=F a xs) (hn:g.Q4j.length<=fn.ntmps):Zy U P f (g.Q5R F):=by
 have hU:=hH.u
 intro as h' nx out ho c Φ h w vs hg hag hfresh hRA
 rw [Z1h hf hname (by rw [hb];rfl)]
 show Calls P f vs w λe w'=>∃v,e= .returned v/\Q7t U c Φ h nx out w v w'
 unfold Sig.Q7O at hgood
 simp only [Bool.and_eq_true] at hgood
 obtain ⟨⟨hgd,hgf⟩,hgr⟩:=hgood
 have hgr:g.ro=0\/g.ro=g.heap.length:=by
  rw [Bool.or_eq_true] at hgr
  exact hgr.imp QV QV
 have hnl:g.nms.length=g.heap.length:=Z3n _ _
 have hninj:∀(i j s:Nat),g.nms[i]? =some s->g.nms[j]? =some s->i=j:=λi j s hi hj=>Z24 _ hgd i j s hi hj
 have hnlt:∀(j s:Nat),g.nms[j]? =some s->s < g.base:=λj s hj=>Z3t g.heap U.nf j s hgf (Nat.le_refl _) hj
 have hnfb:U.nf<=g.base:=Nat.le_add_right _ _
 have hroN:g.roN<=g.base:=by
  unfold Sig.roN
  cases Nat.beq g.ro 0 with
  |true=>exact Nat.zero_le _
  |false=>exact Nat.le_refl _
 have hroj:∀(j s:Nat),g.nms[j]? =some s->(g.ro<=j↔g.roN<=s):=λj s hj=>by
  have hjl:j < g.heap.length:=by rw [←hnl];exact (List.getElem?_eq_some_iff.1 hj).1
  unfold Sig.roN
  cases h0:Nat.beq g.ro 0 with
  |true=>have:=QV h0;simp [this]
  |false=>
   rcases hgr with h1|h1
   ·rw [h1] at h0;cases h0
   ·have:=hnlt j s hj
    simp only [cond_false]
    constructor <;> intro h2 <;> omega
 have hntot:∀j,j < g.heap.length->∃s,g.nms[j]? =some s:=λj hj=>⟨_,List.getElem?_eq_getElem (by rw [hnl];exact hj)⟩
 unfold Sig.Q5R at ho
 split at ho
 ·rename_i vxs hun
  split at ho
  ·rename_i a prs hdec hptr
   split at ho
   ·rename_i ps hrefs
    split at ho
    ·rename_i xs hvs
     cases hdist:distinct (ps.map (·.s)) && ZV prs g.Q4j vxs && Nat.ble U.nf nx && Z2t prs g.Q4i with
     |false=>rw [hdist] at ho;exact (Z1 ho).elim
     |true=>
      rw [hdist] at ho
      simp only [cond_true] at ho
      simp only [Bool.and_eq_true] at hdist
      obtain ⟨⟨⟨hdist,helem⟩,hnfx⟩,hreso⟩:=hdist
      have hnfx:=Nat.le_of_ble_eq_true hnfx
      cases hF:F a xs with
      |none=>rw [hF] at ho;cases ho
      |some r=>
      rw [hF] at ho
      have hout:out=g.Q6C prs ps h' nx r:=by simp [OpR.outs] at ho;exact ho.symm
      have hrd:out.rd=ps.map (·.s):=by rw [hout];rfl
      have hagp:∀p∈ps,get h p.s=get h' p.s:=λp hp=>hag p.s (.inl (by rw [hrd];exact List.mem_map.2 ⟨p,hp,rfl⟩))
      have hvs:views g.heap ps h=some xs:=by rw [Z4T _ _ hagp];exact hvs
      have hout:out=g.Q6C prs ps h nx r:=by
       rw [hout];unfold Sig.Q6C
       rw [Z5M _ _ _ λp hp=>(hagp p (List.mem_of_mem_drop hp)).symm]
      clear ho hag
      have hasv:=Z7a as vxs hun
      have hRV:RVs U c vxs vs.toList:=by
       refine ⟨by rw [hRA.len,hasv];simp,λk x hk=>?_⟩
       obtain ⟨v,h1,h2⟩:=hRA.at_ k (.v x) (by rw [hasv,List.getElem?_map,hk];rfl)
       exact ⟨v,h1,h2⟩
      obtain ⟨hplen,hview⟩:=Z3O _ _ _ _ hvs
      have hinj:=Z24 _ hdist
      have hinj':∀(i j:Nat) (p p':Ref),ps[i]? =some p->ps[j]? =some p'->p.s=p'.s->i=j:=λi j p p' hi hj e=>
       hinj i j p.s (by rw [List.getElem?_map,hi];rfl) (by rw [List.getElem?_map,hj,e];rfl)

      let c0:Cx:={ L:=λs i=>if s < U.nf then c.L s i else match prs[s - U.nf]? with|some p=>Lof c p i|none=>none,I:=c.I}
      have hc0F:∀f,f < U.nf->∀i,c0.L f i=c.L f i:=λf hf i=>by simp only [c0,if_pos hf]
      have hcc0:Cx.LeI U c c0:=⟨λ_ _ _ h=>h,λf i x hf hx=>by rw [hc0F f hf];exact hx⟩
      have hm0:Q6Z c c0 prs U.nf:=λj p hj i=>by
       simp only [c0]
       rw [if_neg (by omega),show U.nf+j - U.nf=j by omega,hj]
      obtain ⟨hprl,_,hnm⟩:=Z3r g.heap prs ps U.nf hgf hrefs hm0 hc0F
      have hnm:∀(j:Nat) (p:Ref) (s:Nat),ps[j]? =some p->g.nms[j]? =some s->(∀i,c0.L s i=Lof c p i)/\((p∈prs/\U.nf<=s)\/∃f u,g.heap[j]? =some (.fam f u)/\p=⟨f,0,0,true,none⟩/\s=f/\f < U.nf):=λj p s h1 h2=>by
       obtain ⟨s',h3,h4,h5⟩:=hnm j p h1
       have:g.nms[j]? =some s':=h3
       rw [h2] at this;cases this
       exact ⟨h4,h5⟩
      have hc0:∀(j:Nat) (p:Ref) (s:Nat),ps[j]? =some p->g.nms[j]? =some s->∀i,c0.L s i=Lof c p i:=λj p s h1 h2=>(hnm j p s h1 h2).1
      obtain ⟨hRV0,hpL0⟩:=Z1r (c:=c) (d:=c0) (en:=λj=>U.nf+j) hP hU hcc0 g.Q4j vxs a prs vs.toList U.nf hdec hptr helem (λj s _=>hm0.elems j s) hRV hm0
      rw [←Z80] at hRV0
      have hpslt:∀(j:Nat) (p:Ref),ps[j]? =some p->j < g.heap.length:=λj p h=>by rw [←hplen];exact (List.getElem?_eq_some_iff.1 h).1
      have hpL:∀(j:Nat) (p:Ref),ps[j]? =some p->p.row=false->QaJ c p:=λj p h1 h2=>by
       obtain ⟨s',h3⟩:=hntot j (hpslt j p h1)
       rcases (hnm j p s' h1 h3).2 with ⟨h5,_⟩|⟨f,u,_,h6,_⟩
       ·obtain ⟨j',hj'⟩:=List.getElem?_of_mem h5
        exact hpL0 j' p hj' h2
       ·rw [h6] at h2;cases h2
      have hpl:∀j,∃F0:Nat->Nat->Prop,∀x,Q3r g.heap xs j=some x->∃p,ps[j]? =some p/\view h p x.1=some x.2/\Q4I U c Φ h w p x.1 x.2 F0:=λj=>by
       cases hx:Q3r g.heap xs j with
       |none=>exact ⟨λ_ _=>False,λx h=>by cases h⟩
       |some x=>
        obtain ⟨p,h1,h2⟩:=hview j x hx
        obtain ⟨F0,h3⟩:=Z42 hU hP h2 hg (hpL j p h1)
        exact ⟨F0,λy hy=>by cases hy;exact ⟨p,h1,h2,h3⟩⟩
      let Φj:Nat->Nat->Nat->Prop:=λj=>(hpl j).choose
      have hΦj:∀j x,Q3r g.heap xs j=some x->∃p,ps[j]? =some p/\view h p x.1=some x.2/\Q4I U c Φ h w p x.1 x.2 (Φj j):=λj=>(hpl j).choose_spec
      let Φ0:Nat->Nat->Nat->Prop:=λs b o=>∃j,g.nms[j]? =some s/\Φj j b o
      have hΦ0:∀(j s:Nat),g.nms[j]? =some s->Φ0 s=Φj j:=λj s hs=>by
       funext b o
       refine propext ⟨λ⟨j',h1,h2⟩=>?_,λh=>⟨j,hs,h⟩⟩
       rw [hninj j j' s hs h1];exact h2
      have hin0:∀{s},(get (g.start xs) s).isSome->∃j x p,g.nms[j]? =some s/\Q3r g.heap xs j=some x/\ps[j]? =some p/\view h p x.1=some x.2/\Q4I U c Φ h w p x.1 x.2 (Φj j):=λ{s} hs=>by
       obtain ⟨e,he⟩:=Option.isSome_iff_exists.1 hs
       obtain ⟨j,x,h1,h2,_⟩:=Z1P _ _ _ _ _ he
       obtain ⟨p,h3,h4⟩:=hΦj j x h2
       exact ⟨j,x,p,h1,h2,h3,h4⟩
      have hsome0:∀(j s:Nat),g.nms[j]? =some s->(get (g.start xs) s).isSome:=λj s hs=>by
       refine Z1e ?_
       unfold Sig.start
       rw [Z50 _ _ _ hnl]
       exact List.mem_of_getElem? hs
      have hG0:G U c0 Φ0 (g.start xs) w:=by
       refine ⟨λs e he=>?_,λs s' b o hne h1 h2 h3 h4=>?_,hg.imm,λs b o h1 h2=>?_⟩
       ·obtain ⟨j,x,h1,h2,rfl⟩:=Z1P _ _ _ _ _ he
        obtain ⟨p,h3,_,h4⟩:=hΦj j x h2
        rw [hΦ0 j s h1]
        exact h4.is_ c0 s hcc0 (hc0 j p s h3 h1)
       ·obtain ⟨j,x,p,q1,q2,q3,_,q4⟩:=hin0 h1
        obtain ⟨j',x',p',r1,r2,r3,_,r4⟩:=hin0 h2
        rw [hΦ0 j s q1] at h3
        rw [hΦ0 j' s' r1] at h4
        exact hg.apart p.s p'.s b o (λe=>hne (by have:=hinj' j j' p p' q3 r3 e;subst this;rw [q1] at r1;cases r1;rfl)) q4.here r4.here (q4.sub _ _ h3) (r4.sub _ _ h4)
       ·obtain ⟨j,x,p,q1,q2,q3,_,q4⟩:=hin0 h1
        rw [hΦ0 j s q1] at h2
        exact hg.Q1a p.s b o q4.here (q4.sub _ _ h2)
      have hfr0:∀s,g.base<=s->get (g.start xs) s=none/\∀k,c0.L s k=none:=λs hs=>by
       refine ⟨?_,λk=>?_⟩
       ·cases he:get (g.start xs) s with
        |none=>rfl
        |some e=>
         obtain ⟨j,_,h1,_⟩:=Z1P _ _ _ _ _ he
         have:=hnlt j s h1;omega
       ·have hbs:U.nf+Q4w g.heap<=s:=hs
        have:prs[s - U.nf]? =none:=List.getElem?_eq_none (by omega)
        simp only [c0]
        rw [if_neg (by omega),this]
      have hargs:RAs U c0 (g.args a) vs.toList:=by
       refine ⟨by rw [hRV0.len];simp [Sig.args],λk x hk=>?_⟩
       unfold Sig.args at hk
       rw [List.getElem?_map] at hk
       cases hz:(ZL g.Q4j a U.nf)[k]? with
       |none=>rw [hz] at hk;cases hk
       |some z=>rw [hz] at hk;cases hk;exact hRV0.at_ k z hz
      have hcall:=Z7N (S:=λy=>y=some r) hH hf hb hL (λh=>by cases h) ((heq a xs).trans hF) (by simp [Sig.args,Z2T];exact hn) (by rw [hro];exact hroN) (Nat.le_of_eq hbase.symm) hG0 hfr0 hargs
      refine hcall.mono ?_
      rintro e w' ⟨v,rfl,x,hh0,c',Φ'0,hfin,hRx,hG'0,hE0⟩
      refine ⟨v,rfl,?_⟩
      rw [hro] at hE0
      obtain ⟨hh,Φ',hfin,hG',hE⟩:=Z9j hU hfin hG'0 hE0

      obtain ⟨rx,pr,hrx,hdr,hpr,hvy,hvz,hfrs,helr⟩:=Z7r hfin
      obtain ⟨rvs,hRVr,hback⟩:=Z95 hrx hRx
      unfold Z31 at hfrs
      rw [Bool.and_eq_true,List.all_eq_true] at hfrs
      have hprf:∀(j:Nat) (p:Ref),pr[j]? =some p->g.base<=p.s:=λj p hj=>by
       have:=hfrs.1 p (List.mem_of_getElem? hj)
       simp only [Bool.and_eq_true] at this
       exact Nat.le_of_ble_eq_true this.1.1.1
      have hprinj:∀(i j:Nat) (p p':Ref),pr[i]? =some p->pr[j]? =some p'->p.s=p'.s->i=j:=λi j p p' hi hj e=>
       Z24 _ hfrs.2 i j p.s (by rw [List.getElem?_map,hi];rfl) (by rw [List.getElem?_map,hj,e];rfl)
      obtain ⟨hzlen,hzview⟩:=Z3O _ _ _ _ hvz
      obtain ⟨hylen,hyview⟩:=Z3O _ _ _ _ hvy

      let c2:Cx:={ L:=λs i=>if nx<=s/\s < nx+g.new.length then (match pr[s - nx]? with|some p=>Lof c' p i|none=>none) else if s < U.nf then c'.L s i else c.L s i,I:=c'.I}
      have hnw:out.nw=g.new.length:=by rw [hout];rfl
      rw [hnw] at hfresh
      have hc2n:∀(j:Nat) (p:Ref),pr[j]? =some p->∀i,c2.L (nx+j) i=Lof c' p i:=λj p h1 i=>by
       have hj:j < g.new.length:=by rw [←hzlen];exact (List.getElem?_eq_some_iff.1 h1).1
       simp only [c2]
       rw [if_pos ⟨by omega,by omega⟩,show nx+j - nx=j by omega,h1]
      have hfnew:∀f,f < U.nf->¬(nx<=f/\f < nx+g.new.length):=λf hf hn=>by omega
      have hc2F:∀f,f < U.nf->∀i,c2.L f i=c'.L f i:=λf hf i=>by simp only [c2];rw [if_neg (hfnew f hf),if_pos hf]
      have hc'c2:Cx.LeI U c' c2:=⟨λ_ _ _ h=>h,λf i x hf hx=>by rw [hc2F f hf];exact hx⟩
      have hleI:∀b o v,c.I b o=some v->c'.I b o=some v:=hE.le.I
      have hle:c.Le c2:=⟨λs i q hq=>by
       simp only [c2]
       by_cases hs:nx<=s/\s < nx+g.new.length
       ·rw [(hfresh s hs.1 hs.2).2 i] at hq;cases hq
       ·rw [if_neg hs]
        by_cases hf:s < U.nf
        ·rw [if_pos hf];exact hE.le.L s i q (by rw [hc0F s hf];exact hq)
        ·rw [if_neg hf];exact hq,hleI⟩
      have hpa2:∀(j s:Nat),j∈Z1T g.Q4i->(Z1a g.heap U.nf)[j]? =some ⟨s,0,0,false,none⟩->∀q,c'.L s 0=some q->c2.L (Z4o prs j) 0=some q:=λj s hj hs q hq=>by
       obtain ⟨t,ht⟩:=Z7c _ _ hreso hj
       obtain ⟨h1,h2⟩:=Z2l _ _ _ _ hs
       simp only at h1
       subst h1
       have h3:Z4o prs j=t:=by simp [Z4o,ht]
       rw [h3]
       have h4:c'.L (U.nf+j) 0=c.L t 0:=by
        rw [hE.L (U.nf+j) 0 (by show U.nf+j < U.nf+Q4w g.heap;omega) (.inl (by omega)),hm0 j _ ht 0]
        simp [Lof]
       rw [h4] at hq
       exact hle.L _ _ _ hq
      obtain ⟨hRr,hprL⟩:=Z1r (c:=c') (d:=c2) (pa:=Z1a g.heap U.nf) (en:=Z4o prs) hP hU hc'c2 g.Q4i rx r.1 pr rvs nx hdr hpr helr hpa2 hRVr hc2n

      have hc2o:∀t,¬(nx<=t/\t < nx+g.new.length)->(∀j,g.ro<=j->g.nms[j]? =some t->U.nf<=t)->∀i,c2.L t i=c.L t i:=λt ht hnf i=>by
       by_cases hf:t < U.nf
       ·rw [hc2F t hf,hE.L t i (by omega) ?_,hc0F t hf]
        cases hgs:get (g.start xs) t with
        |none=>exact .inr (.inl rfl)
        |some e=>
         obtain ⟨j,_,_,h1,_⟩:=hin0 (s:=t) (by simp [hgs])
         refine .inr (.inr ?_)
         have h2:=hroj j t h1
         rcases Nat.lt_or_ge t g.roN with h3|h3
         ·exact h3
         ·have:=hnf j (h2.2 h3) h1;omega
       ·simp only [c2];rw [if_neg ht,if_neg hf]
      have hnotnew:∀t,(get h t).isSome->¬(nx<=t/\t < nx+g.new.length):=λt ht hn=>by rw [(hfresh t hn.1 hn.2).1] at ht;cases ht

      have hzp:∀i,∃Fz:Nat->Nat->Prop,∀z,Q3r g.new r.2.2 i=some z->∃p,pr[i]? =some p/\Q4I U c' Φ' hh w' p z.1 z.2 Fz:=λi=>by
       cases hz:Q3r g.new r.2.2 i with
       |none=>exact ⟨λ_ _=>False,λz h=>by cases h⟩
       |some z=>
        obtain ⟨p,h1,h2⟩:=hzview i z hz
        obtain ⟨Fz,h3⟩:=Z42 hU hP h2 hG' (hprL i p h1)
        exact ⟨Fz,λy hy=>by cases hy;exact ⟨p,h1,h3⟩⟩
      let Fz:Nat->Nat->Nat->Prop:=λi=>(hzp i).choose
      have hFz:∀i z,Q3r g.new r.2.2 i=some z->∃p,pr[i]? =some p/\Q4I U c' Φ' hh w' p z.1 z.2 (Fz i):=λi=>(hzp i).choose_spec
      let nm:Nat->Nat:=λj=>g.nms.getD j 0
      have hnmj:∀j,j < g.heap.length->g.nms[j]? =some (nm j):=λj hj=>by
       obtain ⟨s,hs⟩:=hntot j hj
       have:nm j=s:=by simp [nm,List.getD,hs]
       rw [this];exact hs

      have hLown:∀j p,ps[j]? =some p->U.nf<=nm j->∀i,c'.L (nm j) i=Lof c p i:=λj p h1 h2 i=>by
       have hs:=hnmj j (hpslt j p h1)
       rw [hE.L (nm j) i (hnlt j _ hs) (.inl h2)]
       exact hc0 j p _ h1 hs i
      have hkind:∀j p,ps[j]? =some p->p.row=false->U.nf<=nm j:=λj p h1 h2=>by
       rcases (hnm j p _ h1 (hnmj j (hpslt j p h1))).2 with h3|⟨f,u,_,h4,_⟩
       ·exact h3.2
       ·rw [h4] at h2;cases h2
      have hyp:∀j,∃Fy:Nat->Nat->Prop,∀y,Q3r (g.heap.drop g.ro) r.2.1 j=some y->g.heap[g.ro+j]? =some y.1/\Q4I U c' Φ' hh w' ⟨nm (g.ro+j),0,0,NK.isRow y.1,none⟩ y.1 y.2 Fy:=λj=>by
       cases hy:Q3r (g.heap.drop g.ro) r.2.1 j with
       |none=>exact ⟨λ_ _=>False,λz h=>by cases h⟩
       |some y=>
        obtain ⟨p0,h1,h2⟩:=hyview j y hy
        have h3:=(Z7X _ _ _ _ hy).2
        rw [List.getElem?_drop] at h3
        rw [List.getElem?_drop] at h1
        obtain ⟨s0,k0,o1,o2,rfl⟩:=QbH _ _ _ _ h1
        rw [h3] at o2;cases o2
        have hlt:=(List.getElem?_eq_some_iff.1 h3).1
        have o3:=hnmj (g.ro+j) hlt
        rw [o1] at o3;cases o3
        obtain ⟨x0,h5,h6⟩:=Z1u g.heap xs (g.ro+j) hlt
        obtain ⟨p,h7,h8,h9⟩:=hΦj _ _ h5
        rw [h3] at h6
        simp only [Option.some.injEq] at h6
        obtain ⟨Fy,h10⟩:=Z42 hU hP h2 hG' (λhr=>by
         simp only at hr ⊢
         have hpr:p.row=false:=by rw [Z6W h8,←h6];exact hr
         obtain ⟨q,hq⟩:=(hpL _ p h7 hpr).lof hpr
         rw [hLown _ p h7 (hkind _ p h7 hpr) 0]
         exact ⟨q,hq⟩)
        exact ⟨Fy,λz hz=>by cases hz;exact ⟨h3,h10⟩⟩
      let Fy:Nat->Nat->Nat->Prop:=λj=>(hyp j).choose
      have hFy:∀j y,Q3r (g.heap.drop g.ro) r.2.1 j=some y->g.heap[g.ro+j]? =some y.1/\Q4I U c' Φ' hh w' ⟨nm (g.ro+j),0,0,NK.isRow y.1,none⟩ y.1 y.2 (Fy j):=λj=>(hyp j).choose_spec

      have hrw:∀(j:Nat) (p:Ref),g.ro<=j->ps[j]? =some p->∃(k:NK U.C) (x:k.T U) (y:k.T U),Q3r (g.heap.drop g.ro) r.2.1 (j - g.ro)=some ⟨k,y⟩/\g.heap[j]? =some k/\view h p k=some x/\Q4I U c Φ h w p k x (Φj j)/\
        Q4I U c' Φ' hh w' ⟨nm j,0,0,NK.isRow k,none⟩ k y (Fy (j - g.ro)):=λj p hj hp=>by
       have hlt:j < g.heap.length:=hpslt j p hp
       obtain ⟨x,h1,h2⟩:=Z1u g.heap xs j hlt
       obtain ⟨p',h3,h4,h5⟩:=hΦj j x h1
       rw [hp] at h3;cases h3
       obtain ⟨y,h6,h7⟩:=Z1u (g.heap.drop g.ro) r.2.1 (j - g.ro) (by simp;omega)
       obtain ⟨h8,h9⟩:=hFy _ _ h6
       rw [show g.ro+(j - g.ro)=j by omega] at h8 h9
       rw [h2] at h8
       simp only [Option.some.injEq] at h8
       obtain ⟨k,x⟩:=x
       obtain ⟨k',y⟩:=y
       simp only at h8 h4 h5 h9 h2
       subst h8
       exact ⟨k,x,y,h6,h2,h4,h5,h9⟩
      have hznew:∀{i b o},i < g.new.length->Fz i b o->∃p,pr[i]? =some p/\(get hh p.s).isSome/\Φ' p.s b o:=λ{i b o} hi hf=>by
       obtain ⟨z,h1,_⟩:=Z1u g.new r.2.2 i hi
       obtain ⟨p,h2,h3⟩:=hFz i z h1
       exact ⟨p,h2,h3.here,h3.sub _ _ hf⟩
      have hynew:∀{j p b o},g.ro<=j->ps[j]? =some p->Fy (j - g.ro) b o->(get hh (nm j)).isSome/\Φ' (nm j) b o:=λ{j p b o} hj hp hf=>by
       obtain ⟨k,x,y,_,_,_,_,h5⟩:=hrw j p hj hp
       exact ⟨h5.here,h5.sub _ _ hf⟩

      let From:Nat->Nat->Prop:=λb o=>w.heap.size<=b\/∃s',g.roN<=s'/\(get (g.start xs) s').isSome/\Φ0 s' b o
      have hzfrom:∀{i b o},i < g.new.length->Fz i b o->From b o:=λ{i b o} hi hf=>by
       obtain ⟨p,h1,h2,h3⟩:=hznew hi hf
       exact hE.Q2q p.s b o (Nat.le_trans hroN (hprf _ _ h1)) h2 h3
      have hyfrom:∀{j p b o},g.ro<=j->ps[j]? =some p->Fy (j - g.ro) b o->From b o:=λ{j p b o} hj hp hf=>by
       obtain ⟨h1,h2⟩:=hynew hj hp hf
       exact hE.Q2q (nm j) b o ((hroj j _ (hnmj j (hpslt j p hp))).1 hj) h1 h2

      have hkeep:∀{t b o},(get h t).isSome->Φ t b o->(∀(j:Nat) (p:Ref),g.ro<=j->ps[j]? =some p->p.s=t->¬Φj j b o)->¬From b o:=λ{t b o} ht hf hno hfrom=>by
       rcases hfrom with h1|⟨s',h1,h2,h3⟩
       ·have:=hg.lt hU ht hf;omega
       ·obtain ⟨j,x,p,q1,_,h4,_,h5⟩:=hin0 h2
        rw [hΦ0 j s' q1] at h3
        by_cases e:p.s=t
        ·exact hno j p ((hroj j s' q1).2 h1) h4 e h3
        ·exact hg.apart p.s t b o e h5.here ht (h5.sub _ _ h3) hf
      have hagr:∀{t} {R:Nat->Nat->Prop},(get h t).isSome->(∀b o,R b o->Φ t b o/\∀(j:Nat) (p:Ref),g.ro<=j->ps[j]? =some p->p.s=t->¬Φj j b o)->Agr R w w':=λ{t R} ht hR=>
       hE.fr.agr (λb o hf=>hg.lt hU ht (hR b o hf).1) λb o hf hn=>hkeep ht (hR b o hf).1 (hR b o hf).2 (.inr hn)
      have hwn:∀s,s∈out.w.map (·.1)↔(nx<=s/\s < nx+g.new.length)\/∃(j:Nat) (p:Ref),g.ro<=j/\ps[j]? =some p/\p.s=s:=λs=>by
       rw [hout]
       simp only [Sig.Q6C,List.map_append,List.mem_append]
       rw [Z3P,Z3T _ _ _ _ (by simp [hplen])]
       refine or_congr Iff.rfl ⟨λhm=>?_,λ⟨j,p,h1,h2,h3⟩=>?_⟩
       ·obtain ⟨p,hp,rfl⟩:=List.mem_map.1 hm
        obtain ⟨j,hj⟩:=List.getElem?_of_mem hp
        rw [List.getElem?_drop] at hj
        exact ⟨g.ro+j,p,by omega,hj,rfl⟩
       ·refine List.mem_map.2 ⟨p,?_,h3⟩
        refine List.mem_of_getElem? (i:=j - g.ro) ?_
        rw [List.getElem?_drop,show g.ro+(j - g.ro)=j by omega];exact h2
      have hsomeps:∀(j:Nat) (p:Ref),ps[j]? =some p->(get h p.s).isSome:=λj p hj=>by
       have hlt:j < g.heap.length:=by rw [←hplen];exact (List.getElem?_eq_some_iff.1 hj).1
       obtain ⟨x,h1,_⟩:=Z1u g.heap xs j hlt
       obtain ⟨p',h2,_,h3⟩:=hΦj j x h1
       rw [hj] at h2;cases h2
       exact h3.here
      let Φ2:Nat->Nat->Nat->Prop:=λs b o=>if nx<=s/\s < nx+g.new.length then Fz (s - nx) b o else
       (Φ s b o/\∀(j:Nat) (p:Ref),g.ro<=j->ps[j]? =some p->p.s=s->¬Φj j b o)\/∃(j:Nat) (p:Ref),g.ro<=j/\ps[j]? =some p/\p.s=s/\Fy (j - g.ro) b o
      have hΦn:∀{s},nx<=s/\s < nx+g.new.length->Φ2 s=Fz (s - nx):=λ{s} hs=>by funext b o;simp only [Φ2,if_pos hs]
      have hΦo:∀{s},¬(nx<=s/\s < nx+g.new.length)->∀b o,Φ2 s b o↔((Φ s b o/\∀(j:Nat) (p:Ref),g.ro<=j->ps[j]? =some p->p.s=s->¬Φj j b o)\/∃(j:Nat) (p:Ref),g.ro<=j/\ps[j]? =some p/\p.s=s/\Fy (j - g.ro) b o):=
       λ{s} hs b o=>by simp only [Φ2,if_neg hs]
      have hcase:∀t,(get (out.w++h) t).isSome->¬(nx<=t/\t < nx+g.new.length)->(get h t).isSome:=λt ht hn=>by
       rw [Zf] at ht
       cases hg2:get out.w t with
       |none=>rw [hg2] at ht;exact ht
       |some e=>
        rcases (hwn t).1 (Z2G hg2) with h5|⟨j,p,_,h6,rfl⟩
        ·exact absurd h5 hn
        ·exact hsomeps j p h6
      refine ⟨c2,Φ2,hle,λs i hs hs2=>?_,?_,⟨λt e he=>?_,λt t' b o hne h1 h2 h3 h4=>?_,hG'.imm,λt b o h1 h2=>?_⟩,hE.fr.mono λb o hb hF=>?_,λs hs=>?_,λs b o hs hF=>?_,λs hs=>?_,λb o v hI=>?_⟩
      ·rw [hnw] at hs
       refine hc2o s hs (λj hj hjs=>?_) i
       rcases Nat.lt_or_ge s U.nf with h1|h1
       ·exfalso
        have hjl:j < g.heap.length:=by rw [←hnl];exact (List.getElem?_eq_some_iff.1 hjs).1
        have hp:ps[j]? =some ps[j]:=List.getElem?_eq_getElem (by rw [hplen];exact hjl)
        rcases (hnm j _ s hp hjs).2 with h2|⟨f,u,_,h3,h4,_⟩
        ·omega
        ·exact hs2 ⟨h1,(hwn s).2 (.inr ⟨j,_,hj,hp,by rw [h3];exact h4.symm⟩)⟩
       ·exact h1
      ·rw [hout]
       exact hback (by rw [Z43,Z4g _ _ _ hdr]) hRr
      ·-- the entries
       rw [hout] at he
       simp only [Sig.Q6C,List.append_assoc] at he
       rw [Zf] at he
       by_cases hnewt:nx<=t/\t < nx+g.new.length
       ·rw [Z6I,if_pos hnewt.1] at he
        obtain ⟨z,h1,h2⟩:=Z1u g.new r.2.2 (t - nx) (by omega)
        rw [h1] at he
        cases he
        rw [hΦn hnewt]
        obtain ⟨p,h3,h4⟩:=hFz _ _ h1
        refine h4.is_ c2 t hc'c2 λi=>?_
        have:=hc2n _ p h3 i
        rwa [show nx+(t - nx)=t by omega] at this
       ·have hnn:get (news g.new r.2.2 nx) t=none:=Ze λhm=>hnewt ((Z3P _ _ _ _).1 hm)
        rw [hnn] at he
        simp only at he
        rw [Zf] at he
        cases hpt:get (Q6Q (g.heap.drop g.ro) (ps.drop g.ro) r.2.1 h) t with
        |some e'=>
         rw [hpt] at he
         cases he
         obtain ⟨j,p,y,h1,h2,rfl,rfl⟩:=Z7m _ _ _ _ _ _ (by simp [hplen]) hpt
         rw [List.getElem?_drop] at h1
         obtain ⟨k,x,y',h3,h4,h5,h6,h7⟩:=hrw (g.ro+j) p (by omega) h1
         rw [show g.ro+j - g.ro=j by omega,h2] at h3
         cases h3
         have hR:∀b o,(Φ p.s b o/\¬Φj (g.ro+j) b o)->Φ p.s b o/\∀(j':Nat) (p':Ref),g.ro<=j'->ps[j']? =some p'->p'.s=p.s->¬Φj j' b o:=λb o ⟨q1,q2⟩=>
          ⟨q1,λj' p' _ q4 q5=>by rw [hinj' _ _ _ _ q4 h1 q5];exact q2⟩
         have hjl:=hpslt _ _ h1
         have hnj:=hnmj _ hjl

         have hstay:U.nf<=nm (g.ro+j)->∀i,c2.L p.s i=c.L p.s i:=λhn=>hc2o p.s hnewt λj' hj' hjs=>by
          rcases Nat.lt_or_ge p.s U.nf with h9|h9
          ·exfalso
           have hjl':j' < g.heap.length:=by rw [←hnl];exact (List.getElem?_eq_some_iff.1 hjs).1
           have hp':ps[j']? =some ps[j']:=List.getElem?_eq_getElem (by rw [hplen];exact hjl')
           rcases (hnm j' _ p.s hp' hjs).2 with q2|⟨f,u,q1,q3,q4,q5⟩
           ·omega
           ·have:=hinj' _ _ _ _ hp' h1 (by rw [q3];exact q4.symm)
            subst this
            have e9:=Option.some.inj (hnj.symm.trans hjs)
            omega
          ·exact h9
         have hlo:∀i,c'.L (nm (g.ro+j)) i=Lof c' ⟨nm (g.ro+j),0,0,NK.isRow k,none⟩ i:=λi=>by
          cases hr:NK.isRow k with
          |true=>simp [Lof]
          |false=>
           have hpr:p.row=false:=by rw [Z6W h5];exact hr
           by_cases hi:i=0
           ·subst hi
            obtain ⟨q,hq⟩:=(hpL _ p h1 hpr).lof hpr
            rw [←hLown _ p h1 (hkind _ p h1 hpr) 0] at hq
            simp [Lof,hq]
           ·rw [hLown _ p h1 (hkind _ p h1 hpr) i,Z7T hpr hi,Z7T rfl hi]
         have:=h6.back c2 c' w' (nm (g.ro+j)) y' (Fy (g.ro+j - g.ro)) hle (λhr=>⟨hstay (hkind _ p h1 hr),hLown _ p h1 (hkind _ p h1 hr)⟩) (λhr=>by
           rcases (hnm _ p _ h1 hnj).2 with q2|⟨f,u,q1,q3,q4,q5⟩
           ·intro i
            rw [hstay q2.2 i,hLown _ p h1 q2.2 i]
            simp [Lof,hr]
           ·intro i
            rw [q3,←q4]
            exact hc2F _ (by rw [q4];exact q5) i) hc'c2
          (h7.is_ c' (nm (g.ro+j)) (.refl c') hlo) (hagr (hsomeps _ _ h1) hR)
          λb o q1 q2 q3=>hkeep (hsomeps _ _ h1) q1 (hR b o ⟨q1,q2⟩).2 (hyfrom (by omega) h1 q3)
         refine this.iff λb o=>?_
         rw [hΦo hnewt]
         constructor
         ·rintro (q|q)
          ·exact .inl (hR b o q)
          ·exact .inr ⟨g.ro+j,p,by omega,h1,rfl,q⟩
         ·rintro (⟨q1,q2⟩|⟨j',p',q1,q2,q3,q4⟩)
          ·exact .inl ⟨q1,q2 _ p (by omega) h1 rfl⟩
          ·have:=hinj' _ _ _ _ q2 h1 q3
           subst this
           exact .inr q4
        |none=>
         rw [hpt] at he
         simp only at he
         have ht:(get h t).isSome:=by simp [he]
         have hno:∀(j:Nat) (p:Ref),g.ro<=j->ps[j]? =some p->p.s=t->False:=λj p h1 h2 h3=>by
          have:t∈(Q6Q (g.heap.drop g.ro) (ps.drop g.ro) r.2.1 h).map (·.1):=by
           rw [Z3T _ _ _ _ (by simp [hplen])]
           refine List.mem_map.2 ⟨p,List.mem_of_getElem? (i:=j - g.ro) ?_,h3⟩
           rw [List.getElem?_drop,show g.ro+(j - g.ro)=j by omega];exact h2
          have:=Z1e this
          rw [hpt] at this;cases this
         have hc2t:∀i,c2.L t i=c.L t i:=hc2o t hnewt λj hj hjs=>by
          rcases Nat.lt_or_ge t U.nf with h1|h1
          ·exfalso
           have hjl:j < g.heap.length:=by rw [←hnl];exact (List.getElem?_eq_some_iff.1 hjs).1
           have hp:ps[j]? =some ps[j]:=List.getElem?_eq_getElem (by rw [hplen];exact hjl)
           rcases (hnm j _ t hp hjs).2 with h2|⟨f,u,_,h3,h4,_⟩
           ·omega
           ·exact hno j _ hj hp (by rw [h3];exact h4.symm)
          ·exact h1
         refine ((hg.Q1U t e he).stays hU hle hc2t (hagr ht λb o hf=>⟨hf,λj p h1 h2 h3=>(hno j p h1 h2 h3).elim⟩)).iff λb o=>?_
         rw [hΦo hnewt]
         constructor
         ·intro q;exact .inl ⟨q,λj p h1 h2 h3=>(hno j p h1 h2 h3).elim⟩
         ·rintro (⟨q1,_⟩|⟨j,p,h1,h2,h3,_⟩)
          ·exact q1
          ·exact (hno j p h1 h2 h3).elim
      ·-- apart
       have mixed:∀{s s':Nat},(nx<=s/\s < nx+g.new.length)->¬(nx<=s'/\s' < nx+g.new.length)->(get h s').isSome->Φ2 s b o->Φ2 s' b o->False:=λ{s s'} q1 q2 q3 q4 q5=>by
        rw [hΦn q1] at q4
        rcases (hΦo q2 b o).1 q5 with ⟨q6,q7⟩|⟨j,p,q6,q7,_,q9⟩
        ·exact hkeep q3 q6 q7 (hzfrom (by omega) q4)
        ·obtain ⟨p1,r1,r2,r3⟩:=hznew (by omega) q4
         obtain ⟨r4,r5⟩:=hynew q6 q7 q9
         have:=hprf _ _ r1
         have:=hnlt j _ (hnmj j (hpslt _ _ q7))
         exact hG'.apart p1.s (nm j) b o (by omega) r2 r4 r3 r5
       by_cases ht:nx<=t/\t < nx+g.new.length
       ·by_cases ht':nx<=t'/\t' < nx+g.new.length
        ·rw [hΦn ht] at h3
         rw [hΦn ht'] at h4
         obtain ⟨p,h5,h6,h7⟩:=hznew (by omega) h3
         obtain ⟨p',h8,h9,h10⟩:=hznew (by omega) h4
         by_cases e:p.s=p'.s
         ·have:=hprinj _ _ _ _ h5 h8 e;omega
         ·exact hG'.apart p.s p'.s b o e h6 h9 h7 h10
        ·exact mixed ht ht' (hcase t' h2 ht') h3 h4
       ·by_cases ht':nx<=t'/\t' < nx+g.new.length
        ·exact mixed ht' ht (hcase t h1 ht) h4 h3
        ·rcases (hΦo ht b o).1 h3 with ⟨q1,q2⟩|⟨j,p,q1,q2,q3,q4⟩
         ·rcases (hΦo ht' b o).1 h4 with ⟨q5,_⟩|⟨j',p',q5,q6,_,q8⟩
          ·exact hg.apart t t' b o hne (hcase t h1 ht) (hcase t' h2 ht') q1 q5
          ·exact hkeep (hcase t h1 ht) q1 q2 (hyfrom q5 q6 q8)
         ·rcases (hΦo ht' b o).1 h4 with ⟨q5,q6⟩|⟨j',p',q5,q6,q7,q8⟩
          ·exact hkeep (hcase t' h2 ht') q5 q6 (hyfrom q1 q2 q4)
          ·obtain ⟨r1,r2⟩:=hynew q1 q2 q4
           obtain ⟨r3,r4⟩:=hynew q5 q6 q8
           refine hG'.apart (nm j) (nm j') b o (λe=>hne ?_) r1 r3 r2 r4
           have e:=hninj j j' (nm j) (hnmj j (hpslt _ _ q2)) (e▸hnmj j' (hpslt _ _ q6))
           subst e
           rw [q2] at q6;cases q6
           rw [←q3,←q7]
      ·-- what is never written again
       show c'.I b o=none
       by_cases ht:nx<=t/\t < nx+g.new.length
       ·rw [hΦn ht] at h2
        obtain ⟨p,h5,h6,h7⟩:=hznew (by omega) h2
        exact hG'.Q1a p.s b o h6 h7
       ·have hts:=hcase t h1 ht
        rcases (hΦo ht b o).1 h2 with ⟨q1,q2⟩|⟨j,p,q1,q2,q3,q4⟩
        ·cases hI:c'.I b o with
         |none=>rfl
         |some v=>
          exfalso
          rcases hE.Q3w b o v hI with h3|h3
          ·rw [show c0.I=c.I from rfl,hg.Q1a t b o hts q1] at h3;cases h3
          ·exact hkeep hts q1 q2 h3
        ·obtain ⟨r1,r2⟩:=hynew q1 q2 q4
         exact hG'.Q1a (nm j) b o r1 r2
      ·obtain ⟨s,h1,h2,h3⟩:=hF
       obtain ⟨j,x,p,q1,_,h4,_,h5⟩:=hin0 h2
       rw [hΦ0 j s q1] at h3
       exact ⟨p.s,(hwn p.s).2 (.inr ⟨j,p,(hroj j s q1).2 h1,h4,rfl⟩),h5.here,h5.sub _ _ h3⟩
      ·have h1:¬(nx<=s/\s < nx+g.new.length):=λhn=>hs ((hwn s).2 (.inl hn))
       funext b o
       refine propext ((hΦo h1 b o).trans ⟨?_,λq=>.inl ⟨q,λj p q1 q2 q3=>(hs ((hwn s).2 (.inr ⟨j,p,q1,q2,q3⟩))).elim⟩⟩)
       rintro (⟨q,_⟩|⟨j,p,q1,q2,q3,_⟩)
       ·exact q
       ·exact (hs ((hwn s).2 (.inr ⟨j,p,q1,q2,q3⟩))).elim
      ·have hfrom:From b o->w.heap.size<=b\/∃s',s'∈out.w.map (·.1)/\(get h s').isSome/\Φ s' b o:=λhf=>by
        rcases hf with h1|⟨s',h1,h2,h3⟩
        ·exact .inl h1
        ·obtain ⟨j,x,p,q1,_,h4,_,h5⟩:=hin0 h2
         rw [hΦ0 j s' q1] at h3
         exact .inr ⟨p.s,(hwn p.s).2 (.inr ⟨j,p,(hroj j s' q1).2 h1,h4,rfl⟩),h5.here,h5.sub _ _ h3⟩
       by_cases ht:nx<=s/\s < nx+g.new.length
       ·rw [hΦn ht] at hF;exact hfrom (hzfrom (by omega) hF)
       ·rcases (hΦo ht b o).1 hF with ⟨q1,_⟩|⟨j,p,q1,q2,_,q4⟩
        ·rcases (hwn s).1 hs with h5|⟨j,p,h5,h6,rfl⟩
         ·exact absurd h5 ht
         ·exact .inr ⟨p.s,hs,hsomeps j p h6,q1⟩
        ·exact hfrom (hyfrom q1 q2 q4)
      ·rw [hnw]
       rcases (hwn s).1 hs with h5|⟨j,p,h5,h6,rfl⟩
       ·exact .inl h5
       ·exact .inr (hsomeps j p h6)
      ·rcases hE.Q3w b o v hI with h3|h3|⟨s',h3,h4,h5⟩
       ·exact .inl h3
       ·exact .inr (.inl h3)
       ·obtain ⟨j,x,p,q1,_,h6,_,h7⟩:=hin0 h4
        rw [hΦ0 j s' q1] at h5
        exact .inr (.inr ⟨p.s,(hwn p.s).2 (.inr ⟨j,p,(hroj j s' q1).2 h3,h6,rfl⟩),h7.here,h7.sub _ _ h5⟩)
    ·exact (Z1 ho).elim
   ·exact (Z1 ho).elim
  ·exact (Z1 ho).elim
 ·exact (Z1 ho).elim
theorem Sig.Qcv (hU:U.Ok) {g:Sig U} {F:g.F} {f:Nat} (h0:Zy U P f (g.Q5R F)):Zy U P f (g.Q89 F):=by
 intro as h' nx out ho c Φ h w vs hg hag hfresh hRA
 unfold Sig.Q89 at ho
 split at ho
 ·exact h0 as h' nx out ho c Φ h w vs hg hag hfresh hRA
 ·rename_i l hne
  obtain ⟨o,h1,rfl⟩:=Z4d ho
  have hc:Zr (Q4F (g.Q70 as) h') h=Zr (Q4F (g.Q70 as) h') h':=Z5A _ h h' λx hx=>hag x (.inl (List.mem_append_left _ hx))
  obtain ⟨Φ1,h2⟩:=Z2u (nx:=nx) hU (Q4F (g.Q70 as) h') h Φ hg
  rw [hc] at h2
  have h4:=h0 as _ nx o h1 c Φ1 (Zr (Q4F (g.Q70 as) h') h'++h) w vs h2.g (λx hx=>by
   rw [Zf,Zf]
   cases hm:get (Zr (Q4F (g.Q70 as) h') h') x with
   |some e=>rfl
   |none=>
    refine hag x ?_
    rcases hx with hx|hx
    ·exact .inl (List.mem_append_right _ hx)
    ·exact .inr (by rw [List.map_append];exact List.mem_append_left _ hx)) (λs h5 h6=>by
   obtain ⟨h7,h8⟩:=hfresh s h5 h6
   refine ⟨?_,h8⟩
   rw [Zf]
   by_cases hm:s∈(Zr (Q4F (g.Q70 as) h') h').map (·.1)
   ·rcases h2.names s hm with ⟨h9,h10⟩|h9
    ·have h10:s < nx+0:=h10
     omega
    ·rw [h7] at h9;cases h9
   ·rw [Ze hm];exact h7) hRA
  refine h4.mono ?_
  rintro v w' ⟨c',Φ',h5⟩
  have:=h2.comp (rd:=Z4q (Q4F (g.Q70 as) h') h'++o.rd) h5
  simp only [Nat.zero_add] at this
  exact ⟨c',Φ',this⟩
theorem Qbo {g:Sig U} {F:g.F} {as:List (A U)} {h:Qq U} {nx:Nat} {r:Ts U g.Q4i×HTs U (g.heap.drop g.ro)×HTs U g.new} (ht:g.QaD F as h nx=some r):
  (g.Q5R F as h nx).outs=some (g.Q6C (g.Q8I as) (g.QaI as) h nx r):=by
 unfold Sig.QaD at ht
 unfold Sig.Q5R Sig.QaI Sig.Q8I
 cases hu:unA as with
 |none=>rw [hu] at ht;cases ht
 |some vs=>
  rw [hu] at ht
  simp only at ht ⊢
  cases hd:Z1H g.Q4j vs with
  |none=>rw [hd] at ht;cases ht
  |some a=>
   rw [hd] at ht
   cases hp:Q6X g.Q4j vs with
   |none=>rw [hp] at ht;cases ht
   |some prs=>
    rw [hp] at ht
    simp only at ht ⊢
    cases hr:ZR g.heap prs with
    |none=>rw [hr] at ht;cases ht
    |some ps=>
     rw [hr] at ht
     simp only at ht ⊢
     cases hv:views g.heap ps h with
     |none=>rw [hv] at ht;cases ht
     |some xs=>
      rw [hv] at ht
      simp only at ht ⊢
      cases hb:distinct (ps.map (·.s)) && ZV prs g.Q4j vs && Nat.ble U.nf nx && Z2t prs g.Q4i with
      |false=>rw [hb] at ht;cases ht
      |true=>
       rw [hb] at ht
       simp only [cond_true] at ht ⊢
       simp [OpR.outs,ht]
theorem Z4m:∀(ss:List (Sh U.C)) (vs:List (V U)) (k0 k f:Nat) (x:Option Nat),Z3z ss vs k0=some (k,f,x)->∃j,k=k0+j/\vs[j]? =some ⟨false,[.ref f x]⟩
 | [],vs,k0,k,f,x,h=>by cases vs <;> cases h
 |s::ss,[],k0,k,f,x,h=>by cases s <;> cases h
 |s::ss,v::vs,k0,k,f,x,h=>by
  have rest:Z3z ss vs (k0+1)=some (k,f,x)->∃j,k=k0+j/\(v::vs)[j]? =some ⟨false,[.ref f x]⟩:=λh=>by
   obtain ⟨j,h3,h4⟩:=Z4m ss vs (k0+1) k f x h
   exact ⟨j+1,by omega,by simpa using h4⟩
  unfold Z3z at h
  split at h
  ·rename_i h1 h2
   cases h
   cases h2
   exact ⟨0,rfl,rfl⟩
  ·rename_i h1 h2
   cases h1;cases h2
   exact rest h
  ·cases h
theorem RAs.set {c:Cx} {as:List (A U)} {vs:List Value} {k f i:Nat} (h:RAs U c as vs) (hk:as[k]? =some (sc (.ref f (some i)))):RAs U c (Z15 as k f i) vs:=by
 refine ⟨by simp [Z15,h.len],λj x hj=>?_⟩
 unfold Z15 at hj
 by_cases e:k=j
 ·subst e
  have hlt:=(List.getElem?_eq_some_iff.1 hk).1
  rw [List.getElem?_set_self hlt] at hj
  cases hj
  obtain ⟨v,h1,h2⟩:=h.at_ k _ hk
  refine ⟨v,h1,?_⟩
  cases (show R U c (.ref f (some i)) v from h2) with
  |Q65 hf h0=>exact R.ptr (off:=0) h0
 ·rw [List.getElem?_set_ne e] at hj
  exact h.at_ j x hj
theorem Sig.QcW {g:Sig U} {F:g.F} {f:Nat} (h0:Zy U P f (g.Q5R F)) (h1:Zy U P f (g.Q89 F)):Zy U P f (g.native F):=by
 intro as h' nx out ho c Φ h w vs hg hag hfresh hRA
 unfold Sig.native at ho
 split at ho
 ·rename_i vxs hu
  have hasv:=Z7a as vxs hu
  split at ho
  ·exact h1 as h' nx out ho c Φ h w vs hg hag hfresh hRA
  ·rename_i k fa x hr
   obtain ⟨j,e1,hj⟩:=Z4m _ _ _ _ _ _ hr
   have e1:k=j:=by omega
   subst e1
   have hk:as[k]? =some (sc (.ref fa x)):=by rw [hasv,List.getElem?_map,hj];rfl
   split at ho
   ·cases x with
    |none=>cases ho
    |some i=>
     simp only [OpR.outs,Option.map_eq_some_iff] at ho
     obtain ⟨q,ho,rfl⟩:=ho
     split at ho
     ·rename_i r ht
      cases ho
      exact h0 (Z15 as k fa i) h' nx _ (Qbo ht) c Φ h w vs hg hag hfresh (hRA.set hk)
     ·cases ho
   ·rename_i k2 f2 x2 hr2
    obtain ⟨j2,e2,hj2⟩:=Z4m _ _ _ _ _ _ hr2
    have e2:k2=j2:=by omega
    subst e2
    cases x with
    |none=>cases ho
    |some i=>
     cases x2 with
     |none=>cases ho
     |some i2=>
      simp only [OpR.outs,Option.map_eq_some_iff] at ho
      obtain ⟨q,ho,rfl⟩:=ho
      split at ho
      ·rename_i r ht
       cases ho
       have hne:k≠k2:=λe=>by
        subst e
        have hlt:k < vxs.length:=(List.getElem?_eq_some_iff.1 hj).1
        rw [List.getElem?_set_self hlt] at hj2
        cases hj2
       rw [List.getElem?_set_ne hne] at hj2
       have hk2:(Z15 as k fa i)[k2]? =some (sc (.ref f2 (some i2))):=by
        unfold Z15
        rw [List.getElem?_set_ne hne,hasv,List.getElem?_map,hj2];rfl
       exact h0 _ h' nx _ (Qbo ht) c Φ h w vs hg hag hfresh ((hRA.set hk).set hk2)
      ·cases ho
 ·exact (Z1 ho).elim
theorem Sig.ok (g:Sig U) (F:g.F) (hP:U.Pure) {Hn:Hints U} {L:Code->Prop} (hH:Q3Z U P Hn L) {f:Nat} {fn:Func} {code:Code} (hf:P.funcs[f]? =some fn) (hb:fn.body=some code)
  (hname:(fn.name== "runtime.NumGoroutine")=false) (hL:∀b,b∈Z3 code->L b) {gos:Nat} (hro:Hn.ro=g.roN) (hbase:Hn.base=g.base) (hgood:g.Q7O=true)
  (heq:∀a xs,Q7U P Hn fn gos none g.fin (g.args a) (g.start xs) g.base=F a xs) (hn:g.Q4j.length<=fn.ntmps):Zy U P f (g.native F):=
 Sig.QcW (Sig.ok0 g F hP hH hf hb hname hL hro hbase hgood heq hn) (Sig.Qcv hH.u (Sig.ok0 g F hP hH hf hb hname hL hro hbase hgood heq hn))
end Go.Rf
namespace Go.Rf
set_option linter.unusedVariables false
set_option linter.unusedSimpArgs false
variable {U : QY} {P : Program}
theorem Qdw {k:IntKind} {n:Int} (h:(Lit.int k n).wf=true):okV (.int k n)=true:=by
 cases k <;> first|rfl|exact Z4e (by have:=bounds_u8 h;omega)
inductive Q1T (U:QY) (P:Program):TypeId->List U.S->Prop
 |int {t:TypeId} {k:IntKind} {n:Int} (ht:P.underlying t=some (.int k)) (hw:(Lit.int k n).wf=true):Q1T U P t [.val (.int k n)]
 |bool {t:TypeId} {b:Bool} (ht:P.underlying t=some .bool):Q1T U P t [.val (.bool b)]
 |str {t:TypeId} {s:ByteArray} (ht:P.underlying t=some .string) (hs:s.size<=reachBytes):Q1T U P t [.val (.string s)]
 |sl {t e:TypeId} {u:U.C} {xs:List (U.D u)} (ht:P.underlying t=some (.slice e)) (hu:U.ofType e=some u) (hn:xs.length*P.bytesOf e<=reachBytes)
   (hx:∀x∈xs,Q1T U P e (U.enc u x)):Q1T U P t [.isl .none u xs]
 |struct {t:TypeId} {fs:Array Field} {l:List U.S} (ht:P.underlying t=some (.struct fs)) (hl:l.length=P.cellsOf t)
   (hf:∀f∈fs.toList,Q1T U P f.type ((l.drop f.offset).take (P.cellsOf f.type))):Q1T U P t l
theorem Q1T.toInt {t:TypeId} {k:IntKind} {l:List U.S} (h:Q1T U P t l) (ht:P.underlying t=some (.int k)):∃n,l= [.val (.int k n)]/\(Lit.int k n).wf=true:=by
 cases h with
 |int h1 hw=>rw [ht] at h1;cases h1;exact ⟨_,rfl,hw⟩
 |bool h1=>rw [ht] at h1;cases h1
 |str h1=>rw [ht] at h1;cases h1
 |sl h1=>rw [ht] at h1;cases h1
 |struct h1=>rw [ht] at h1;cases h1
theorem Q1T.toBool {t:TypeId} {l:List U.S} (h:Q1T U P t l) (ht:P.underlying t=some .bool):∃b,l= [.val (.bool b)]:=by
 cases h <;> simp_all
theorem Q1T.toStr {t:TypeId} {l:List U.S} (h:Q1T U P t l) (ht:P.underlying t=some .string):∃s,l= [.val (.string s)]/\s.size<=reachBytes:=by
 cases h <;> simp_all
theorem Q1T.Q9Y {t e:TypeId} {u:U.C} {l:List U.S} (h:Q1T U P t l) (ht:P.underlying t=some (.slice e)) (hu:U.ofType e=some u):∃xs:List (U.D u),l= [.isl .none u xs]/\xs.length*P.bytesOf e<=reachBytes/\∀x∈xs,Q1T U P e (U.enc u x):=by
 cases h with
 |sl ht' hu' hn hx=>
  rw [ht] at ht';cases ht'
  rw [hu] at hu';cases hu'
  exact ⟨_,rfl,hn,hx⟩
 |int h1=>rw [ht] at h1;cases h1
 |bool h1=>rw [ht] at h1;cases h1
 |str h1=>rw [ht] at h1;cases h1
 |struct h1=>rw [ht] at h1;cases h1
theorem Q1T.Q5l {t:TypeId} {fs:Array Field} {l:List U.S} (h:Q1T U P t l) (ht:P.underlying t=some (.struct fs)):l.length=P.cellsOf t/\∀f∈fs.toList,Q1T U P f.type ((l.drop f.offset).take (P.cellsOf f.type)):=by
 cases h with
 |struct h1 hl hf=>rw [ht] at h1;cases h1;exact ⟨hl,hf⟩
 |int h1=>rw [ht] at h1;cases h1
 |bool h1=>rw [ht] at h1;cases h1
 |str h1=>rw [ht] at h1;cases h1
 |sl h1=>rw [ht] at h1;cases h1
def Z1w (w:World):Cx:={ L:=λ_ _=>none,I:=λb o=>w.cell? (at_ b o)}
def Q7A (P:Program):List Field->Nat->Option Nat
 | [],o=>some o
 |f::r,o=>bif Nat.beq f.offset o then Q7A P r (o+P.cellsOf f.type) else none
def Z3k (U:QY) (P:Program) (dT:TypeId->Bool):Nat->TypeId->Bool
 |0,_=>false
 |d+1,t=>match P.underlying t with
  |some (.int _)=>true
  |some .bool=>true
  |some .string=>true
  |some (.slice e)=>(dT e && match U.ofType e with|some u=>Nat.beq (U.size u) (P.cellsOf e) && Nat.ble 1 (P.cellsOf e)|none=>false) && Z3k U P dT d e
  |some (.struct fs)=>(match Q7A P fs.toList 0 with|some n=>Nat.beq n (P.cellsOf t)|none=>false) && fs.toList.all λf=>Z3k U P dT d f.type
  |_=>false
def QaX (U:QY) (P:Program) (dT:TypeId->Bool):Prop:=∀e u l,dT e=true->U.ofType e=some u->Q1T U P e l->∃x,U.dec u l=some x/\Q1T U P e (U.enc u x)
theorem cells?_ok {w:World} {a:Addr} {n:Nat} {cs:List Value} (h:w.cells? 0 a n=some cs):cs.length=n/\∀i,i < n->w.cell? (a.add i)=cs[i]? :=by
 unfold World.cells? at h
 rw [if_pos (Nat.zero_le _)] at h
 refine ⟨by simpa using mapM_some_length h,λi hi=>mapM_some_get h i i (by simp [hi])⟩
theorem Z73:∀(fs:List Field) (o n:Nat),Q7A P fs o=some n->o<=n/\∀f∈fs,o<=f.offset/\f.offset+P.cellsOf f.type<=n
 | [],o,n,h=>by cases h;exact ⟨Nat.le_refl _,λf hf=>by cases hf⟩
 |f::r,o,n,h=>by
  unfold Q7A at h
  cases hb:Nat.beq f.offset o with
  |false=>rw [hb] at h;cases h
  |true=>
   rw [hb] at h
   have e:=QV hb
   obtain ⟨h1,h2⟩:=Z73 r _ n h
   refine ⟨by omega,λg hg=>?_⟩
   rcases List.mem_cons.1 hg with rfl|hg
   ·omega
   ·have:=h2 g hg;omega
theorem assemble {c:Cx} {cs:List Value}:∀(fs:List Field) (o n:Nat),Q7A P fs o=some n->n<=cs.length->
  (∀f∈fs,∃l,RL U c l ((cs.drop f.offset).take (P.cellsOf f.type))/\Q1T U P f.type l)->
  ∃l,RL U c l ((cs.drop o).take (n - o))/\∀f∈fs,Q1T U P f.type ((l.drop (f.offset - o)).take (P.cellsOf f.type))
 | [],o,n,h,hn,hf=>by
  cases h
  refine ⟨[],?_,λf hf=>by cases hf⟩
  simp;exact .nil
 |f::r,o,n,h,hn,hf=>by
  unfold Q7A at h
  cases hb:Nat.beq f.offset o with
  |false=>rw [hb] at h;cases h
  |true=>
   rw [hb] at h
   have e:=QV hb
   obtain ⟨h1,h2⟩:=Z73 r _ n h
   obtain ⟨lr,h3,h4⟩:=assemble r _ n h hn λg hg=>hf g (List.mem_cons_of_mem _ hg)
   obtain ⟨lf,h5,h6⟩:=hf f (List.mem_cons_self ..)
   have hlen:lf.length=P.cellsOf f.type:=by
    have:=h5.len
    simp at this
    omega
   refine ⟨lf++lr,?_,λg hg=>?_⟩
   ·have h7:=h5.append h3
    rw [e] at h7
    have:(cs.drop o).take (P.cellsOf f.type)++(cs.drop (o+P.cellsOf f.type)).take (n - (o+P.cellsOf f.type))=(cs.drop o).take (n - o):=by
     rw [←List.drop_drop,show n - o=P.cellsOf f.type+(n - (o+P.cellsOf f.type)) by omega,List.take_add]
    rwa [this] at h7
   ·rcases List.mem_cons.1 hg with rfl|hg
    ·rw [e,Nat.sub_self,List.drop_zero,List.take_append_of_le_length (by omega),List.take_of_length_le (by omega)];exact h6
    ·have h8:=(h2 g hg).1
     rw [List.drop_append,List.drop_eq_nil_of_le (by omega),List.nil_append,hlen,show g.offset - o - P.cellsOf f.type=g.offset - (o+P.cellsOf f.type) by omega]
     exact h4 g hg
theorem Z4Q {H:Type}:∀{e:TypeId} {ds:List (DataW H)} {d:DataW H},d∈ds->∀n∈d.weights P e,n∈DataW.weightsAll P e ds
 |e,[],d,h,n,hn=>by cases h
 |e,d0::ds,d,h,n,hn=>by
  simp only [DataW.weightsAll,List.mem_append]
  rcases List.mem_cons.1 h with rfl|h
  ·exact .inl hn
  ·exact .inr (Z4Q h n hn)
theorem Z65 {H:Type} {enc:TypeId×Value->H} {w:World} {spare:Nat->Bool} {held:Bool} (hU:U.Ok) {dT:TypeId->Bool} (hD:QaX U P dT):∀(fuel d:Nat) (t:TypeId) (cs:List Value) (x:DataW H×List MemPlace),
  DataW.trod enc P w 0 spare held fuel t cs=some x->Z3k U P dT d t=true->(∀n∈x.1.weights P t,n<=reachBytes)->∃l,RL U (Z1w w) l cs/\Q1T U P t l
 |0,d,t,cs,x,h,hp,hw=>by simp [DataW.trod] at h
 |fuel+1,0,t,cs,x,h,hp,hw=>by cases hp
 |fuel+1,d+1,t,cs,x,h,hp,hw=>by
  unfold Z3k at hp
  cases hu:P.underlying t with
  |none=>rw [hu] at hp;cases hp
  |some desc=>
   rw [hu] at hp
   cases desc <;> simp only at hp <;> try (cases hp;done)
   case int k=>
    unfold DataW.trod at h
    rw [hu] at h
    split at h <;> try (simp_all;done)
    rename_i k2 k' n heq
    simp only [Option.some.injEq,TypeDesc.int.injEq] at heq
    subst heq
    split at h
    ·rename_i hc
     obtain ⟨rfl,h1⟩:=hc
     exact ⟨[.val (.int k' n)],.cons (.val (Qdw h1)) .nil,.int hu h1⟩
    ·cases h
   case bool=>
    unfold DataW.trod at h
    rw [hu] at h
    split at h <;> simp_all
    rename_i b
    exact ⟨[.val (.bool b)],.cons (.val rfl) .nil,.bool hu⟩
   case string=>
    unfold DataW.trod at h
    rw [hu] at h
    split at h <;> simp_all
    rename_i s
    obtain ⟨h1,rfl⟩:=h
    refine ⟨[.val (.string s)],.cons (.val rfl) .nil,.str hu ?_⟩
    have:=hw s.data.toList.length (by simp [DataW.weights])
    simpa using this
   case slice e=>
    rw [Bool.and_eq_true,Bool.and_eq_true] at hp
    obtain ⟨⟨hpd,hp1⟩,hp2⟩:=hp
    cases hue:U.ofType e with
    |none=>rw [hue] at hp1;cases hp1
    |some u=>
     rw [hue] at hp1
     simp only [Bool.and_eq_true] at hp1
     have hsz:=QV hp1.1
     have hpos:=Nat.le_of_ble_eq_true hp1.2
     unfold DataW.trod at h
     rw [hu] at h
     split at h <;> try (simp_all;done)
     ·refine ⟨[.isl .none u []],.cons ?_ .nil,.sl hu hue (by simp) (λx hx=>by cases hx)⟩
      exact R.isl (xs:= []) (b:=0) (o:=0) (λ_ _=>undef) (Nat.le_refl _) trivial (λhh=>by simp at hh) (λi k hi=>by simp at hi) (λi k hi=>by simp at hi)
     ·rename_i a len cap heq
      simp only [Option.some.injEq,TypeDesc.slice.injEq] at heq
      subst heq
      simp only at h
      split at h
      ·rename_i hcond
       obtain ⟨hb,hlc,hcm⟩:=hcond
       simp only [Option.bind_eq_some_iff,Option.map_eq_some_iff] at h
       obtain ⟨elems,hel,rest,hrest,rfl⟩:=h
       have helen:elems.length=len:=by simpa using mapM_some_length hel
       have hwe:∀(i:Nat) y,elems[i]? =some y->∀n∈y.1.weights P e,n<=reachBytes:=λi y hy n hn=>by
        refine hw n ?_
        simp only [DataW.weights,hu,List.mem_cons,List.mem_append]
        exact .inr (.inl (Z4Q (List.mem_map.2 ⟨y,List.mem_of_getElem? hy,rfl⟩) n hn))
       have hone:∀i,i < len->∃(x:U.D u) (vs:List Value),Q1T U P e (U.enc u x)/\RL U (Z1w w) (U.enc u x) vs/\∀k,k < U.size u->w.cell? ((a.add (i*P.cellsOf e)).add k)=vs[k]? :=λi hi=>by
        have h1:=mapM_some_get hel i i (by simp [hi])
        have hy:elems[i]? =some elems[i]:=List.getElem?_eq_getElem (by omega)
        rw [hy,Option.bind_eq_some_iff] at h1
        obtain ⟨vs,h2,h3⟩:=h1
        obtain ⟨h4,h5⟩:=cells?_ok h2
        obtain ⟨l,h6,h7⟩:=Z65 hU hD fuel d e vs _ h3 hp2 (hwe i _ hy)
        obtain ⟨x,h8,h9⟩:=hD e u l hpd hue h7
        exact ⟨x,vs,h9,hU.Q5g u l x h8 _ _ h6,λk hk=>h5 k (by omega)⟩
       let pick:Nat->U.D u:=λi=>if hi:i < len then (hone i hi).choose else U.dft u
       let xs:List (U.D u):=(List.range len).map pick
       have hxl:xs.length=len:=by simp [xs]
       have hxi:∀i,i < len->xs.getD i (U.dft u)=pick i:=λi hi=>by simp [xs,List.getD,hi]
       have hpick:∀i (hi:i < len),∃vs:List Value,Q1T U P e (U.enc u (pick i))/\RL U (Z1w w) (U.enc u (pick i)) vs/\∀k,k < U.size u->w.cell? ((a.add (i*P.cellsOf e)).add k)=vs[k]? :=λi hi=>by
        simp only [pick,dif_pos hi];exact (hone i hi).choose_spec
       have haddr:0 < len->a=at_ a.block a.off:=λhpos'=>by
        obtain ⟨vs,h1,h2,h3⟩:=hpick 0 hpos'
        have h4:=h3 0 (by omega)
        have h5:0 < vs.length:=by rw [h2.len,hU.QH];omega
        rw [List.getElem?_eq_getElem h5] at h4
        have h6:w.cell? a=some vs[0]:=by simpa [Addr.add] using h4
        unfold World.cell? at h6
        split at h6
        ·split at h6
         ·cases h6
         ·rename_i hs
          obtain ⟨b,o,s⟩:=a
          cases s with
          |none=>rfl
          |some _=>simp at hs
        ·cases h6
       have hmain:R U (Z1w w) (.isl .none u xs) (.slice (some a) xs.length cap):=by
        refine R.isl (b:=a.block) (o:=a.off) (λi k=>(w.cell? (at_ a.block (a.off+(i*U.size u+k)))).getD undef) (by omega) trivial (λhh=>by rw [←haddr (by omega)]) (λi k hi hk=>?_) (λi k hi hk=>?_)
        ·rw [hxl] at hi
         obtain ⟨vs,h1,h2,h3⟩:=hpick i hi
         have h4:=h3 k hk
         have h5:k < vs.length:=by rw [h2.len,hU.QH];exact hk
         rw [List.getElem?_eq_getElem h5,haddr (by omega),Zv,Zv,←hsz,Nat.add_assoc] at h4
         show w.cell? _=_
         rw [h4];rfl
        ·rw [hxl] at hi
         obtain ⟨vs,h1,h2,h3⟩:=hpick i hi
         have h4:=h3 k hk
         have h5:k < vs.length:=by rw [h2.len,hU.QH];exact hk
         have h6:k < (U.enc u (pick i)).length:=by rw [hU.QH];exact hk
         rw [List.getElem?_eq_getElem h5,haddr (by omega),Zv,Zv,←hsz,Nat.add_assoc] at h4
         obtain ⟨v,h7,h8⟩:=h2.at_ k _ (List.getElem?_eq_getElem h6)
         rw [List.getElem?_eq_getElem h5] at h7
         simp only [Option.some.injEq] at h7
         subst h7
         rw [h4,hxi i hi,getD_of_getElem? (List.getElem?_eq_getElem h6)]
         exact h8
       rw [hxl] at hmain
       refine ⟨[.isl .none u xs],.cons hmain .nil,.sl hu hue ?_ λy hy=>?_⟩
       ·rw [hxl]
        have:=hw ((elems.length+rest.length)*P.bytesOf e) (by simp [DataW.weights,hu])
        rw [Nat.add_mul,helen] at this
        omega
       ·obtain ⟨i,hi⟩:=List.getElem?_of_mem hy
        have hlt:i < len:=by rw [←hxl];exact (List.getElem?_eq_some_iff.1 hi).1
        have:xs.getD i (U.dft u)=y:=getD_of_getElem? hi
        rw [hxi i hlt] at this
        obtain ⟨vs,h1,_⟩:=hpick i hlt
        rw [←this];exact h1
      ·cases h
   case struct fs=>
    rw [Bool.and_eq_true] at hp
    obtain ⟨hp1,hp2⟩:=hp
    obtain ⟨xs,n,hn,rfl,hlen,hxl,hf⟩:=DataW.trod_struct hu h
    simp only [Nat.add_right_cancel_iff] at hn
    subst hn
    rw [List.all_eq_true] at hp2
    cases htl:Q7A P fs.toList 0 with
    |none=>rw [htl] at hp1;cases hp1
    |some m=>
     rw [htl] at hp1
     have hm:=QV hp1
     subst hm
     obtain ⟨l,h1,h2⟩:=assemble (U:=U) (c:=Z1w w) (cs:=cs) fs.toList 0 (P.cellsOf t) htl (by omega) λf hfm=>by
      obtain ⟨i,hi⟩:=List.getElem?_of_mem hfm
      have hlt:=(List.getElem?_eq_some_iff.1 hi).1
      have h3:=hf i f (by rw [←Array.getElem?_toList];exact hi)
      have hlx:i < xs.length:=by rw [hxl];simpa using hlt
      have hy:xs[i]? =some xs[i]:=List.getElem?_eq_getElem hlx
      rw [hy] at h3
      refine Z65 hU hD fuel d f.type _ _ h3 (hp2 f hfm) λn hn=>hw n ?_
      simp only [DataW.weights,hu]
      exact DataW.weights_mem_each (j:=i) (t:=f.type) (d:=xs[i].1) (by rw [List.getElem?_map,hi];rfl) (by rw [List.getElem?_map,hy];rfl) n hn
     refine ⟨l,?_,.struct hu ?_ λf hfm=>by simpa using h2 f hfm⟩
     ·rw [List.drop_zero,Nat.sub_zero] at h1
      have:cs.take (P.cellsOf t)=cs:=List.take_of_length_le (by omega)
      rwa [this] at h1
     ·have:=h1.len
      simp at this;omega
end Go.Rf
namespace Go.Rf
set_option linter.unusedVariables false
set_option linter.unusedSimpArgs false
variable {U : QY} {P : Program}
def Z3D (U:QY) (P:Program) (dT:TypeId->Bool) (t:TypeId):Sh U.C->Bool
 | .int k=>match P.underlying t with|some (.int k')=>decide (k'=k)|_=>false
 | .bool=>match P.underlying t with|some .bool=>true|_=>false
 | .str=>match P.underlying t with|some .string=>true|_=>false
 | .isl u=>match P.underlying t with|some (.slice e)=>(match U.ofType e with|some v=>(U.eq? v u).isSome|none=>false)|_=>false
 | .data u=>match P.underlying t with|some (.struct _)=>(match U.ofType t with|some v=>dT t && (U.eq? v u).isSome|none=>false)|_=>false
 |_=>false
def Z7s (U:QY) (P:Program) (dT:TypeId->Bool) (d:Nat):List TypeId->List (Sh U.C)->Bool
 | [],[]=>true
 |t::ts,s::ss=>Z3D U P dT t s && Z3k U P dT d t && Z7s U P dT d ts ss
 |_,_=>false
def Fits (U:QY) (P:Program):List TypeId->(ss:List (Sh U.C))->Ts U ss->Prop
 |t::ts,s::ss,x=>Q1T U P t (Q5O s x.1 0).l/\Fits U P ts ss x.2
 | [],[],_=>True
 |_,_,_=>False
section
variable {H : Type} {enc : TypeId × Value -> H} {w : World} {spare : Nat -> Bool} {held : Bool}
theorem RL.Q85 {c:Cx} {y:U.S} {v:Value} (h:RL U c [y] v.cells.toList) (hv:v.oneCell'=true):R U c y v:=by
 rw [Z2K hv] at h
 obtain ⟨u,vs,h1,h2,_⟩:=h.Q4u
 simp only [List.cons.injEq] at h1
 rw [h1.1];exact h2
theorem Z8V (hU:U.Ok) {dT:TypeId->Bool} (hD:QaX U P dT) {d:Nat} {t:TypeId} {s:Sh U.C} {v:Value} {x:DataW H} {p:List MemPlace} {r:Reach} {base:Nat} (h:DataW.Trod enc P w 0 spare held t v x p) (hv:Value.okWide P w r base t v) (ho:Z3D U P dT t s=true)
  (hp:Z3k U P dT d t=true) (hw:∀n∈x.weights P t,n<=reachBytes):∃y:s.T U,RV U (Z1w w) (Q5O s y 0) v/\Q1T U P t (Q5O s y 0).l/\s.Q5d=false:=by
 obtain ⟨fuel,hf⟩:=h
 obtain ⟨l,h1,h2⟩:=Z65 hU hD fuel d t _ _ hf hp hw
 cases s with
 |int k=>
  simp only [Z3D] at ho
  split at ho
  ·rename_i k' ht
   have:=of_decide_eq_true ho
   subst this
   obtain ⟨n,rfl,_⟩:=h2.toInt ht
   obtain ⟨n',rfl⟩:=WideShapes.okWide_int ht hv
   exact ⟨n,h1.Q85 rfl,h2,rfl⟩
  ·cases ho
 |bool=>
  simp only [Z3D] at ho
  split at ho
  ·rename_i ht
   obtain ⟨n,rfl⟩:=h2.toBool ht
   obtain ⟨n',rfl⟩:=WideShapes.okWide_bool ht hv
   exact ⟨n,h1.Q85 rfl,h2,rfl⟩
  ·cases ho
 |str=>
  simp only [Z3D] at ho
  split at ho
  ·rename_i ht
   obtain ⟨n,rfl,_⟩:=h2.toStr ht
   obtain ⟨n',rfl⟩:=WideShapes.okWide_string ht hv
   exact ⟨n,h1.Q85 rfl,h2,rfl⟩
  ·cases ho
 |isl u=>
  simp only [Z3D] at ho
  split at ho
  ·rename_i e ht
   split at ho
   ·rename_i v' hu
    cases he:U.eq? v' u with
    |none=>rw [he] at ho;cases ho
    |some pl=>
     obtain ⟨e'⟩:=pl
     subst e'
     obtain ⟨xs,rfl,_⟩:=h2.Q9Y ht hu
     obtain ⟨a,len,cap,rfl⟩:=WideShapes.okWide_slice ht hv
     exact ⟨xs,h1.Q85 rfl,h2,rfl⟩
   ·cases ho
  ·cases ho
 |data u=>
  simp only [Z3D] at ho
  split at ho
  ·rename_i fs ht
   split at ho
   ·rename_i v' hu
    rw [Bool.and_eq_true] at ho
    obtain ⟨hd,ho⟩:=ho
    cases he:U.eq? v' u with
    |none=>rw [he] at ho;cases ho
    |some pl=>
     obtain ⟨e'⟩:=pl
     subst e'
     obtain ⟨cs,rfl,_⟩:=WideShapes.okWide_struct ht hv
     obtain ⟨y,h3,h4⟩:=hD t _ l hd hu h2
     exact ⟨y,⟨cs,rfl,hU.Q5g _ l y h3 _ _ h1⟩,h4,rfl⟩
   ·cases ho
  ·cases ho
 |ptr=>cases ho
 |Q3f u=>cases ho
 |Q3i u=>cases ho
 |row u=>cases ho
 |ref f=>cases ho
 |Q3O f=>cases ho
 |Q56 _ _ _ _=>cases ho
 |own u=>cases ho
 |flt=>cases ho
 |cpx=>cases ho
theorem Z6k (hU:U.Ok) {dT:TypeId->Bool} (hD:QaX U P dT) {d:Nat} {r:Reach} {base:Nat}:∀(ts:List TypeId) (ss:List (Sh U.C)) (vs:List Value) (ds:List (DataW H)) (ps:List MemPlace),DataW.TrodAll enc P w 0 spare held ts vs ds ps->
  (∀(j:Nat) t v,ts[j]? =some t->vs[j]? =some v->Value.okWide P w r base t v)->Z7s U P dT d ts ss=true->(∀n∈DataW.weightsEach P ts ds,n<=reachBytes)->
  ∃x:Ts U ss,RVs U (Z1w w) (ZL ss x 0) vs/\Fits U P ts ss x
 | [],[],vs,ds,ps,h,hv,ho,hw=>by
  obtain ⟨rfl,rfl,rfl⟩:=ChangeShapes.trodAll_nil h
  exact ⟨(),⟨rfl,λk x hk=>by simp [ZL] at hk⟩,trivial⟩
 |t::ts,s::ss,vs,ds,ps,h,hv,ho,hw=>by
  obtain ⟨v,vs',dd,ds',p,q,rfl,rfl,rfl,h1,h2⟩:=ChangeShapes.trodAll_cons h
  unfold Z7s at ho
  rw [Bool.and_eq_true,Bool.and_eq_true] at ho
  simp only [DataW.weightsEach,List.mem_append] at hw
  obtain ⟨y,h3,h4,h5⟩:=Z8V hU hD h1 (hv 0 t v rfl rfl) ho.1.1 ho.1.2 λn hn=>hw n (.inl hn)
  obtain ⟨x,h6,h7⟩:=Z6k hU hD ts ss vs' ds' q h2 (λj t v h8 h9=>hv (j+1) t v (by simpa using h8) (by simpa using h9)) ho.2 λn hn=>hw n (.inr hn)
  refine ⟨(y,x),?_,h4,h7⟩
  unfold ZL
  rw [h5]
  exact .cons h3 h6
 | [],s::ss,vs,ds,ps,h,hv,ho,hw=>by cases ho
 |t::ts,[],vs,ds,ps,h,hv,ho,hw=>by cases ho
def Zm (U:QY) (ps:List (Sh U.C)) (fs:List (NK U.C)):Sig U:={ Q4j:=ps,heap:=fs,Q4i:= [.bool],tup:=false,new:= []}
def NK.Q6G {C:Type}:NK C->Bool
 | .fam _ _=>true
 |_=>false
def Q66:(fs:List (NK U.C))->HTs U fs
 | []=>()
 | .fam _ (.obj u)::r=>((0,λ_=>U.dft u),Q66 r)
 | .fam _ (.map _ _ _ _)::r=>((0,λ_=>[]),Q66 r)
 | .obj u::r=>(U.dft u,Q66 r)
 | .row u::r=>((0,λ_=>U.dft u),Q66 r)
 | .tok::r=>((),Q66 r)
theorem Z59:∀(fs:List (NK U.C)) (j:Nat) x,fs.all NK.Q6G=true->Q3r fs (Q66 fs) j=some x->(∃f u,x=⟨.fam f (.obj u),(0,λ_=>U.dft u)⟩)\/∃f gk gv ku vu,x=⟨.fam f (.map gk gv ku vu),(0,λ_=>[])⟩
 | .fam f (.obj u)::r,0,x,hf,h=>by cases h;exact .inl ⟨f,u,rfl⟩
 | .fam f (.obj u)::r,j+1,x,hf,h=>Z59 r j x (by simpa [NK.Q6G] using hf) h
 | .fam f (.map gk gv ku vu)::r,0,x,hf,h=>by cases h;exact .inr ⟨f,gk,gv,ku,vu,rfl⟩
 | .fam f (.map gk gv ku vu)::r,j+1,x,hf,h=>Z59 r j x (by simpa [NK.Q6G] using hf) h
 | .obj u::r,j,x,hf,h=>by simp [NK.Q6G] at hf
 | .row u::r,j,x,hf,h=>by simp [NK.Q6G] at hf
 | .tok::r,j,x,hf,h=>by simp [NK.Q6G] at hf
 | [],j,x,hf,h=>by cases h
theorem Z98 {s:Sh U.C} (h:(!s.Q5d && !s.Q63)=true) (x:s.T U) (k k':Nat):Q5O s x k=Q5O s x k':=by
 cases s <;> first|rfl|cases h
theorem Z6v:∀(ss:List (Sh U.C)) (x:Ts U ss) (k k':Nat),ss.all (λs=>!s.Q5d && !s.Q63)=true->ZL ss x k=ZL ss x k'
 | [],_,_,_,_=>rfl
 |s::ss,x,k,k',h=>by
  simp only [List.all_cons,Bool.and_eq_true] at h
  have h1:=Z98 (U:=U) (s:=s) (by rw [Bool.and_eq_true];exact h.1) x.1 k k'
  have h2:s.Q5d=false:=by simpa using h.1.1
  unfold ZL
  rw [h1,h2]
  exact congrArg _ (Z6v ss x.2 k k' h.2)
theorem Z8N {z:V U} {b:Bool} (h:Q82 (Sh.bool:Sh U.C) z=some b):z=⟨false,[.val (.bool b)]⟩:=by
 obtain ⟨g,l⟩:=z
 cases g with
 |true=>cases h
 |false=>
  cases l with
  |nil=>cases h
  |cons y r=>
   cases r with
   |cons y' r=>cases y <;> first|(cases h;done)|(rename_i v;cases v <;> cases h)
   |nil=>cases y <;> first|(cases h;done)|(rename_i v;cases v <;> first|(cases h;done)|(cases h;rfl))
theorem Z9m {c:Cx} {y:A U} {vs:List (V U)} {v:Value} {b:Bool} (hu:Z4D false y=some vs) (hd:Z1H [(Sh.bool:Sh U.C)] vs=some (b,())) (hr:RA U c y v):v= .bool b:=by
 cases y with
 |t zs=>cases hu
 |v z=>
  cases hu
  unfold Z1H at hd
  split at hd
  ·rename_i t ts h4 h5
   cases hd
   have:=Z8N h4
   subst this
   exact R.Q1z (show R U c (.val (.bool b)) v from hr)
  ·cases hd
theorem QbL {ss:List (Sh U.C)} {fs:List (NK U.C)} {Hn:Hints U} {L:Code->Prop} (hH:Q3Z U P Hn L) {f:Nat} {fn:Func} {code:Code} (hf:P.funcs[f]? =some fn) (hb:fn.body=some code) (hL:∀b,b∈Z3 code->L b)
  {gos:Nat} {x:Ts U ss} {y0:HTs U fs} (heq:Q7U P Hn fn gos none (Zm U ss fs).fin ((Zm U ss fs).args x) ((Zm U ss fs).start (Q66 fs)) (Zm U ss fs).base=some ((true,()),y0,())) (hn:ss.length<=fn.ntmps) (hro:Hn.ro=0)
  (hbase:Hn.base=(Zm U ss fs).base) (hfs:fs.all NK.Q6G=true) (hgood:(Zm U ss fs).Q7O=true) (hss:ss.all (λs=>!s.Q5d && !s.Q63)=true)
  {args:Array Value} (hx:RVs U (Z1w w) (ZL ss x 0) args.toList):Calls P f args w λe w'=>e= .returned (.bool true)/\Fr (λ_ _=>False) w w':=by
 have hgf:Z2i U.nf fs=true:=by
  unfold Sig.Q7O at hgood
  simp only [Bool.and_eq_true] at hgood
  exact hgood.1.2
 have hG:G U (Z1w w) (λ_ _ _=>False) ((Zm U ss fs).start (Q66 fs)) w:=by
  refine ⟨λs e he=>?_,λ_ _ _ _ _ _ _ h _=>h.elim,λb o v hv=>hv,λ_ _ _ _ h=>h.elim⟩
  obtain ⟨j,z,h1,h2,rfl⟩:=Z1P _ _ _ _ _ he
  rcases Z59 _ _ _ hfs h2 with ⟨f,u,rfl⟩|⟨f,gk,gv,ku,vu,rfl⟩
  ·refine ⟨λ_=>(0,0),λ_ _ _ _=>False,λi hi=>absurd hi (Nat.not_lt_zero i),λi x hx=>?_,λi hi=>absurd hi (Nat.not_lt_zero i),λi j k l b o _ _ _ _ _ h=>False.elim h,λb o=>⟨λh=>h.elim,λ⟨_,_,_,_,h⟩=>h⟩,λh=>by cases h⟩
   cases hx
  ·refine ⟨λ_=>0,λi hi=>absurd hi (Nat.not_lt_zero i),λi x hx=>?_,λi hi=>absurd hi (Nat.not_lt_zero i),λi j hi=>absurd hi (Nat.not_lt_zero i),λb o=>⟨λh=>h.elim,λ⟨i,hi,_⟩=>absurd hi (Nat.not_lt_zero i)⟩⟩
   cases hx
 have hA:RAs U (Z1w w) ((Zm U ss fs).args x) args.toList:=by
  have hx:RVs U (Z1w w) (ZL ss x U.nf) args.toList:=by rw [Z6v ss x U.nf 0 hss];exact hx
  refine ⟨by rw [hx.len];simp [Sig.args,Zm],λk y hk=>?_⟩
  unfold Sig.args at hk
  rw [List.getElem?_map] at hk
  cases hz:(ZL ss x U.nf)[k]? with
  |none=>rw [show (ZL (Zm U ss fs).Q4j x U.nf)[k]? =none from hz] at hk;cases hk
  |some z=>rw [show (ZL (Zm U ss fs).Q4j x U.nf)[k]? =some z from hz] at hk;cases hk;exact hx.at_ k z hz
 have hfr:∀s,(Zm U ss fs).base<=s->get ((Zm U ss fs).start (Q66 fs)) s=none/\∀k,(Z1w w).L s k=none:=λs hs=>by
  refine ⟨?_,λ_=>rfl⟩
  cases he:get ((Zm U ss fs).start (Q66 fs)) s with
  |none=>rfl
  |some e=>
   obtain ⟨j,_,h1,_⟩:=Z1P _ _ _ _ _ he
   have:=Z3t fs U.nf j s hgf (Nat.le_refl _) h1
   have hs:U.nf+Q4w fs<=s:=hs
   omega
 refine (Z7N (S:=λy=>y=some ((true,()),y0,())) hH hf hb hL (λh=>by cases h) heq (by simp [Sig.args,Z2T,Zm];exact hn) (by rw [hro];exact Nat.zero_le _) (Nat.le_of_eq hbase.symm) hG hfr hA).mono ?_
 rintro e w' ⟨v,rfl,y,h',c',Φ',hfin,hR,hG',hE⟩
 refine ⟨?_,hE.fr.mono λb o _ ⟨s,_,_,h1⟩=>h1⟩
 have hfin:∃h'',(Zm U ss fs).Q9d y h''=some ((true,()),y0,()):=by
  unfold Sig.fin at hfin
  split at hfin
  ·exact ⟨_,hfin⟩
  ·cases hw:Q5x (Zm U ss fs).roN (Zr (Q4F ((Zm U ss fs).ends y) h') h') with
   |true=>rw [hw] at hfin;exact ⟨_,hfin⟩
   |false=>rw [hw] at hfin;cases hfin
 obtain ⟨h'',hfin⟩:=hfin
 obtain ⟨vs,ps,h1,h2,_⟩:=Z7r hfin
 rw [Z9m h1 h2 hR]
theorem Z9l {ss:List (Sh U.C)} {fs:List (NK U.C)} {Hn:Hints U} {L:Code->Prop} (hH:Q3Z U P Hn L) {f:Nat} {fn:Func} {code:Code} (hf:P.funcs[f]? =some fn) (hb:fn.body=some code) (hL:∀b,b∈Z3 code->L b)
  {gos:Nat} {x:Ts U ss} {y0:HTs U fs} (heq:Q7U P Hn fn gos none (Zm U ss fs).fin ((Zm U ss fs).args x) ((Zm U ss fs).start (Q66 fs)) (Zm U ss fs).base=some ((true,()),y0,())) (hn:ss.length<=fn.ntmps) (hro:Hn.ro=0)
  (hbase:Hn.base=(Zm U ss fs).base) (hfs:fs.all NK.Q6G=true) (hgood:(Zm U ss fs).Q7O=true) (hss:ss.all (λs=>!s.Q5d && !s.Q63)=true)
  {args:Array Value} (hx:RVs U (Z1w w) (ZL ss x 0) args.toList):Calls P f args w λe w'=>e= .returned (.bool true)/\RowKit.Below w.heap.size w w':=by
 refine (QbL hH hf hb hL heq hn hro hbase hfs hgood hss hx).mono λe w' ⟨he,hfr⟩=>⟨he,hfr.rest.1,hfr.rest.2.1,hfr.rest.2.2,hfr.size,λb hb=>hfr.obj b hb λo h=>h⟩
theorem G.frame (hU:U.Ok) {c:Cx} {Φ:Nat->Nat->Nat->Prop} {h:Qq U} {w w':World} (hg:G U c Φ h w) (hfr:Fr (λ_ _=>False) w w'):G U c Φ h w':=
 ⟨λs e he=>(hg.Q1U s e he).stays hU (.refl c) (λ_=>rfl) (hfr.agr (λb o hf=>hg.lt hU (by rw [he];rfl) hf) (λ_ _ _ h=>h)),hg.apart,
  λb o v hv=>(hfr.cell b o (Zi (hg.imm b o v hv)) (λh=>h)).trans (hg.imm b o v hv),hg.Q1a⟩
def Z5T (r:Option Unit):Native U:=λas _ _=>match as with
 | []=>.opt Unit r λ_=>{ v:=scv (.bool true)}
 |_=>.fail
theorem Z8S (hU:U.Ok) {fs:List (NK U.C)} {Hn:Hints U} {L:Code->Prop} (hH:Q3Z U P Hn L) {f:Nat} {fn:Func} {code:Code} (hf:P.funcs[f]? =some fn) (hb:fn.body=some code) (hname:(fn.name== "runtime.NumGoroutine")=false) (hL:∀b,b∈Z3 code->L b)
  {gos:Nat} {r:Option Unit} (heq:r.isSome=true->∃y0:HTs U fs,Q7U P Hn fn gos none (Zm U [] fs).fin ((Zm U [] fs).args ()) ((Zm U [] fs).start (Q66 fs)) (Zm U [] fs).base=some ((true,()),y0,())) (hro:Hn.ro=0)
  (hbase:Hn.base=(Zm U [] fs).base) (hfs:fs.all NK.Q6G=true) (hgood:(Zm U [] fs).Q7O=true):Zy U P f (Z5T r):=by
 intro as h' nx out ho c Φ h w vs hg hag hfresh hRA
 rw [Z1h hf hname (by rw [hb];rfl)]
 show Calls P f vs w λe w'=>∃v,e= .returned v/\Q7t U c Φ h nx out w v w'
 unfold Z5T at ho
 cases as with
 |cons a l=>exact (Z1 ho).elim
 |nil=>
  cases r with
  |none=>cases ho
  |some _=>
   have hout:out={ v:=scv (.bool true)}:=by simp [OpR.outs] at ho;exact ho.symm
   subst hout
   obtain ⟨y0,hq⟩:=heq rfl
   refine (QbL (x:=()) hH hf hb hL hq (Nat.zero_le _) hro hbase hfs hgood rfl ?_).mono λe w' ⟨he,hfr⟩=>⟨_,he,c,Φ,?_⟩
   ·refine ⟨by simpa [ZL] using hRA.len,λk x hk=>by simp [ZL] at hk⟩
   ·exact { le:= .refl c,L:=λ_ _ _ _=>rfl,val:=R.val rfl,g:=hg.frame hU hfr,fr:=hfr.mono λ_ _ _ h=>h.elim,Q2T:=λ_ _=>rfl,Q2q:=λs b o hs=>by simp at hs,names:=λs hs=>by simp at hs,Q3w:=λ_ _ _ h=>.inl h}
def Z5W {Y:Type}:Option ((Bool×Unit)×Y×Unit)->Option Unit
 |some ((true,()),_,())=>some ()
 |_=>none
theorem Z8d {Y:Type} {x:Option ((Bool×Unit)×Y×Unit)} (h:(Z5W x).isSome=true):∃y,x=some ((true,()),y,()):=by
 unfold Z5W at h
 split at h
 ·exact ⟨_,rfl⟩
 ·cases h
end
end Go.Rf
namespace Go.Rf
set_option linter.unusedVariables false
set_option linter.unusedSimpArgs false
def Z2C {C:Type} {D:C->Type} [DecidableEq C] (u:C):S C D->Option (List (D u))
 | .isl _ v xs=>if h:v=u then some (h▸xs) else none
 | .val (.slice none 0 0)=>some []
 |_=>none
def Q7X {C:Type} {D:C->Type} (k:IntKind):S C D->Option Int
 | .val (.int j n)=>if j=k then some n else none
 |_=>none
def Z41 {C:Type} {D:C->Type}:S C D->Option Bool
 | .val (.bool b)=>some b
 |_=>none
def Q93 {C:Type} {D:C->Type}:S C D->Option ByteArray
 | .val (.string b)=>some b
 |_=>none
variable {U : QY} {P : Program} {c : Cx}
theorem QcZ {k:IntKind} {x:U.S} {n:Int} {v:Value} (h:Q7X k x=some n) (hr:R U c x v):R U c (.val (.int k n)) v:=by
 unfold Q7X at h
 split at h
 ·split at h
  ·rename_i e;subst e;cases h;exact hr
  ·cases h
 ·cases h
theorem Z9h {x:U.S} {n:Bool} {v:Value} (h:Z41 x=some n) (hr:R U c x v):R U c (.val (.bool n)) v:=by
 unfold Z41 at h
 split at h
 ·cases h;exact hr
 ·cases h
theorem Qcy {x:U.S} {n:ByteArray} {v:Value} (h:Q93 x=some n) (hr:R U c x v):R U c (.val (.string n)) v:=by
 unfold Q93 at h
 split at h
 ·cases h;exact hr
 ·cases h
theorem Z9s {inst:DecidableEq U.C} {u:U.C} {x:U.S} {n:List (U.D u)} {v:Value} (h: @Z2C _ _ inst u x=some n) (hr:R U c x v):R U c (.isl .none u n) v:=by
 unfold Z2C at h
 split at h
 ·split at h
  ·rename_i e
   subst e
   cases h
   cases hr with
   |isl g hc ht ha hi hrr=>exact .isl g hc trivial ha hi hrr
  ·cases h
 ·cases h
  cases R.Q1z hr
  exact R.isl (xs:= []) (b:=0) (o:=0) (λ_ _=>undef) (Nat.le_refl _) trivial (λhh=>by simp at hh) (λi k hi=>by simp at hi) (λi k hi=>by simp at hi)
 ·cases h
def Z4G {C:Type} {D:C->Type} [DecidableEq C] (u:C):S C D->Option (Option (D u))
 | .Q3i v x=>if h:v=u then some (h▸x) else none
 | .Q3f v x 0=>if h:v=u then some (some (h▸x)) else none
 | .val (.pointer none)=>some none
 |_=>none
theorem Z99 {inst:DecidableEq U.C} {u:U.C} {x:U.S} {n:Option (U.D u)} {v:Value} (h: @Z4G _ _ inst u x=some n) (hr:R U c x v):R U c (.Q3i u n) v:=by
 unfold Z4G at h
 split at h
 ·split at h
  ·rename_i e
   subst e
   cases h
   exact hr
  ·cases h
 ·split at h
  ·rename_i e
   subst e
   cases h
   cases hr with
   |Q3f g hi hrr=>exact .Q5u g hi hrr
  ·cases h
 ·cases h
  cases R.Q1z hr
  exact .Q8j
 ·cases h
def Q94 {C:Type} {D:C->Type} (f n:Nat):S C D->Option (Option Nat)
 | .ref g x=>bif Nat.beq g f then some x else none
 | .ptr g i off=>bif Nat.beq g f && Nat.beq off 0 && Nat.blt f n then some (some i) else none
 | .val (.pointer none)=>some none
 |_=>none
theorem Qdf {f n:Nat} {x:U.S} {t:Option Nat} {v:Value} (hn:n<=U.nf) (h:Q94 f n x=some t) (hr:R U c x v):R U c (.ref f t) v:=by
 unfold Q94 at h
 split at h
 ·rename_i g y
  cases hb:Nat.beq g f with
  |false=>rw [hb] at h;cases h
  |true=>rw [hb] at h;cases h;rw [←QV hb];exact hr
 ·rename_i g i off
  cases hb:Nat.beq g f && Nat.beq off 0 && Nat.blt f n with
  |false=>rw [hb] at h;cases h
  |true=>
   rw [hb] at h;cases h
   simp only [Bool.and_eq_true] at hb
   have e1:=QV hb.1.1
   have e2:=QV hb.1.2
   subst e1;subst e2
   cases hr with
   |ptr h0=>exact .Q65 (Nat.lt_of_lt_of_le (Nat.le_of_ble_eq_true hb.2) hn) h0
 ·cases h
  cases R.Q1z hr
  exact .Q8k
 ·cases h
theorem Z8F {f n:Nat} {x:U.S} {t:Option Nat} (hn:n<=U.nf) (h:Q94 f n x=some t):SLe U x (.ref f t):=
 ⟨(by unfold Q94 at h;split at h <;> first|rfl|cases h),λc v hr=>Qdf hn h hr,λhc=>(by unfold Q94 at h;split at h <;> first|cases hc|cases h)⟩
def Z4M {C:Type} {D:C->Type} (f:Nat):S C D->Option (Option Nat)
 | .Q3O g x=>bif Nat.beq g f then some x else none
 | .val (.map none)=>some none
 |_=>none
theorem Z9n {f:Nat} {x:U.S} {t:Option Nat} {v:Value} (h:Z4M f x=some t) (hr:R U c x v):R U c (.Q3O f t) v:=by
 unfold Z4M at h
 split at h
 ·rename_i g y
  cases hb:Nat.beq g f with
  |false=>rw [hb] at h;cases h
  |true=>rw [hb] at h;cases h;rw [←QV hb];exact hr
 ·cases h
  cases R.Q1z hr
  exact .Q9j
 ·cases h
theorem Z87 {f:Nat} {x:U.S} {t:Option Nat} (h:Z4M f x=some t):SLe U x (.Q3O f t):=
 ⟨(by unfold Z4M at h;split at h <;> first|rfl|cases h),λc v hr=>Z9n h hr,λhc=>(by unfold Z4M at h;split at h <;> first|cases hc|cases h)⟩
inductive Lf (C:Type) where
 |int (k:IntKind)
 |bool
 |str
 |list (u:C)
 |box (u:C)
 |row (u:C)
 |Q2d (u:C)
 |Q1l (u:C) (n:Nat)
 |hole
 |ref (f n:Nat)
 |Q3O (f:Nat)
def Lf.okN {C:Type} (m:Nat):Lf C->Bool
 | .ref _ n=>Nat.ble n m
 |_=>true
abbrev Lf.T {C:Type} (D:C->Type):Lf C->Type
 | .int _=>Int
 | .bool=>Bool
 | .str=>ByteArray
 | .list u=>List (D u)
 | .box u=>Option (D u)
 | .row u=>List (D u)
 | .Q2d u=>List (D u)
 | .Q1l u _=>Nat->D u
 | .hole=>Unit
 | .ref _ _=>Option Nat
 | .Q3O _=>Option Nat
abbrev HL {C:Type} (D:C->Type):List (Lf C)->Type
 | []=>Unit
 |l::r=>l.T D×HL D r
def Lf.enc {C:Type} {D:C->Type}:(l:Lf C)->l.T D->S C D
 | .int k,n=>.val (.int k n)
 | .bool,b=>.val (.bool b)
 | .str,s=>.val (.string s)
 | .list u,xs=>.isl .none u xs
 | .box u,x=>.box u x
 | .row u,x=>.row u x
 | .Q2d u,x=>.Q2d u x
 | .Q1l u n,f=>.Q1l u n f
 | .hole,_=>.hole
 | .ref f _,x=>.ref f x
 | .Q3O f,x=>.Q3O f x
def dBox {C:Type} {D:C->Type} [DecidableEq C] (u:C):S C D->Option (Option (D u))
 | .box v x=>if h:v=u then some (h▸x) else none
 |_=>none
def dRow {C:Type} {D:C->Type} [DecidableEq C] (u:C):S C D->Option (List (D u))
 | .row v x=>if h:v=u then some (h▸x) else none
 |_=>none
def Qbz {C:Type} {D:C->Type} [DecidableEq C] (u:C):S C D->Option (List (D u))
 | .Q2d v x=>if h:v=u then some (h▸x) else none
 |_=>none
def Qci {C:Type} {D:C->Type} [DecidableEq C] (u:C) (n:Nat):S C D->Option (Nat->D u)
 | .Q1l v m x=>if h:v=u then (if m=n then some (h▸x) else none) else none
 |_=>none
def Qcm {C:Type} {D:C->Type}:S C D->Option Unit
 | .hole=>some ()
 |_=>none
def Lf.dec {C:Type} {D:C->Type} [DecidableEq C]:(l:Lf C)->S C D->Option (l.T D)
 | .int k,x=>Q7X k x
 | .bool,x=>Z41 x
 | .str,x=>Q93 x
 | .list u,x=>Z2C u x
 | .box u,x=>dBox u x
 | .row u,x=>dRow u x
 | .Q2d u,x=>Qbz u x
 | .Q1l u n,x=>Qci u n x
 | .hole,x=>Qcm x
 | .ref f n,x=>Q94 f n x
 | .Q3O f,x=>Z4M f x
def Qaq {C:Type} {D:C->Type}:(ls:List (Lf C))->HL D ls->List (S C D)
 | [],_=>[]
 |l::r,t=>l.enc t.1::Qaq r t.2
def Q3Y {C:Type} {D:C->Type} [DecidableEq C]:(ls:List (Lf C))->List (S C D)->Option (HL D ls)
 | [],[]=>some ()
 |l::r,x::xs=>match l.dec x,Q3Y r xs with
  |some t,some ts=>some (t,ts)
  |_,_=>none
 |_,_=>none
theorem Z4z {k:IntKind} {x:U.S} {n:Int} (h:Q7X k x=some n):SLe U x (.val (.int k n)):=
 ⟨(by unfold Q7X at h;split at h <;> first|rfl|cases h),λc v hr=>QcZ h hr,λhc=>(by unfold Q7X at h;split at h <;> first|cases hc|cases h)⟩
theorem Z5S {x:U.S} {n:Bool} (h:Z41 x=some n):SLe U x (.val (.bool n)):=
 ⟨(by unfold Z41 at h;split at h <;> first|rfl|cases h),λc v hr=>Z9h h hr,λhc=>(by unfold Z41 at h;split at h <;> first|cases hc|cases h)⟩
theorem Z8O {x:U.S} {n:ByteArray} (h:Q93 x=some n):SLe U x (.val (.string n)):=
 ⟨(by unfold Q93 at h;split at h <;> first|rfl|cases h),λc v hr=>Qcy h hr,λhc=>(by unfold Q93 at h;split at h <;> first|cases hc|cases h)⟩
theorem Z2v {inst:DecidableEq U.C} {u:U.C} {x:U.S} {n:List (U.D u)} (h: @Z2C _ _ inst u x=some n):SLe U x (.isl .none u n):=
 ⟨(by unfold Z2C at h;split at h <;> first|rfl|cases h),λc v hr=>Z9s h hr,λhc=>(by unfold Z2C at h;split at h <;> first|cases hc|cases h)⟩
theorem Z8j {inst:DecidableEq U.C} {u:U.C} {x:U.S} {n:Option (U.D u)} (h: @Z4G _ _ inst u x=some n):SLe U x (.Q3i u n):=
 ⟨(by unfold Z4G at h;split at h <;> first|rfl|cases h),λc v hr=>Z99 h hr,λhc=>(by unfold Z4G at h;split at h <;> first|cases hc|cases h)⟩
theorem Lf.QE {inst:DecidableEq U.C} {l:Lf U.C} {x:U.S} {t:l.T U.D} (hn:l.okN U.nf=true) (h: @Lf.dec _ _ inst l x=some t):SLe U x (l.enc t):=by
 cases l with
 |int k=>exact Z4z h
 |bool=>exact Z5S h
 |str=>exact Z8O h
 |list u=>exact Z2v h
 |box u=>
  simp only [Lf.dec] at h
  unfold dBox at h
  split at h
  ·split at h
   ·rename_i e;subst e;cases h;exact .refl _
   ·cases h
  ·cases h
 |row u=>
  simp only [Lf.dec] at h
  unfold dRow at h
  split at h
  ·split at h
   ·rename_i e;subst e;cases h;exact .refl _
   ·cases h
  ·cases h
 |Q2d u=>
  simp only [Lf.dec] at h
  unfold Qbz at h
  split at h
  ·split at h
   ·rename_i e;subst e;cases h;exact .refl _
   ·cases h
  ·cases h
 |Q1l u n=>
  simp only [Lf.dec] at h
  unfold Qci at h
  split at h
  ·split at h
   ·rename_i e
    subst e
    split at h
    ·rename_i e;subst e;cases h;exact .refl _
    ·cases h
   ·cases h
  ·cases h
 |hole=>
  simp only [Lf.dec] at h
  unfold Qcm at h
  split at h
  ·cases h;exact .refl _
  ·cases h
 |ref f n=>exact Z8F (Nat.le_of_ble_eq_true hn) h
 |Q3O f=>exact Z87 h
theorem Z6u {inst:DecidableEq U.C}:∀{ls:List (Lf U.C)} {l:List U.S} {t:HL U.D ls},ls.all (Lf.okN U.nf)=true-> @Q3Y _ _ inst ls l=some t->
  l.length=ls.length/\∀(k:Nat) y,l[k]? =some y->∃z,(Qaq ls t)[k]? =some z/\SLe U y z
 | [],[],t,hn,h=>⟨rfl,λk y hk=>by simp at hk⟩
 |f::r,x::xs,t,hn,h=>by
  simp only [List.all_cons,Bool.and_eq_true] at hn
  unfold Q3Y at h
  split at h
  ·rename_i t1 t2 h1 h2
   cases h
   obtain ⟨h3,h4⟩:=Z6u hn.2 h2
   refine ⟨by simp [h3],λk y hk=>?_⟩
   cases k with
   |zero=>simp at hk;subst hk;exact ⟨_,rfl,Lf.QE hn.1 h1⟩
   |succ k=>simp at hk;simpa [Qaq] using h4 k y hk
  ·cases h
 | [],x::xs,t,hn,h=>by cases h
 |f::r,[],t,hn,h=>by cases h
theorem Z1t {x z:U.S} (h:SLe U x z): [x].length=1/\∀(k:Nat) y,[x][k]? =some y->∃z',[z][k]? =some z'/\SLe U y z':=
 ⟨rfl,λk y hk=>by
  cases k with
  |zero=>simp at hk;subst hk;exact ⟨z,rfl,h⟩
  |succ k=>simp at hk⟩
theorem Zb {α:Type} (l:List α) (o s o':Nat) (h:o'=o+s):l.drop o=(l.drop o).take s++l.drop o':=by
 subst h
 rw [←List.drop_drop,List.take_append_drop]
theorem QcU {n:Int} (hb:0<=n/\n < 256):((UInt8.ofNat n.toNat).toNat:Int)=n:=by
 have h1:n.toNat < 256:=by omega
 rw [UInt8.toNat_ofNat_of_lt' (by simpa using h1)]
 omega
theorem QcM {n:Int} {v:Value} (hr:R U c (.val (.int .u8 n)) v):R U c (.val (.int .u8 ((UInt8.ofNat n.toNat).toNat:Int))) v:=by
 rw [QcU (Z6M hr.okV)];exact hr
theorem Z8A {n:Int} (hb:True):SLe U (.val (.int .u8 n)) (.val (.int .u8 ((UInt8.ofNat n.toNat).toNat:Int))):=
 ⟨rfl,λc v hr=>QcM hr,λh=>by cases h⟩
end Go.Rf
namespace Go.Rf
set_option linter.unusedVariables false
variable {U : QY} {P : Program}
def noΓ:Nat->Option (Native U):=λ_=>none
theorem Z2:ZK U P noΓ:=λf N h=>by cases h
def Qn (f:Nat) (N:Native U) (Γ:Nat->Option (Native U)):Nat->Option (Native U):=λn=>bif Nat.beq n f then some N else Γ n
theorem Z0 {f:Nat} {N:Native U} {Γ:Nat->Option (Native U)} (h:ZK U P Γ) (hN:Zy U P f N):ZK U P (Qn f N Γ):=by
 intro n M hM
 unfold Qn at hM
 cases hb:Nat.beq n f with
 |true=>rw [hb] at hM;cases hM;rw [QV hb];exact hN
 |false=>rw [hb] at hM;exact h n M hM
def Z17:Native U:=λ_ _ _=>.fail
theorem Zd {f:Nat}:Zy U P f Z17:=λas h nx out ho=>(Z1 ho).elim
theorem Z12 {Hn:Hints U} (hU:U.Ok) (hP:U.Pure) (hm:P.follows .mixedOrders=true) (hΓ:ZK U P Hn.Γ) {l:List Code} (hl:∀b N,.loop b∈l->Hn.loop (Zg b)=some N->ZF U P Hn.ro Hn.base b N)
  (hs:∀b lb rest N,.scope b∈l->findLabel b lb=some rest->Hn.label lb=some N->ZQ U P Hn.ro Hn.base b rest N) (hi:Q9z U P Hn.ro Hn.inl):Q3Z U P Hn (λc=>c∈l):=
 ⟨hU,hP,hm,hΓ,hl,hs,hi⟩
theorem Z2a {ro:Nat} {I:Nat->Option (Q7c U)} (h:∀f,I f=none):Q9z U P ro I:=λf N hN=>by rw [h] at hN;cases hN
def Z1Q (P:Program) (Hn:Hints U) (gos:Nat) (b:Code):Nat->Z2z U
 |0,ρ,st,fail,K=>fail
 |n+1,ρ,st,fail,K=>run P Hn gos ρ fail b st λe st=>match e with
  | .normal=>Z1Q P Hn gos b n ρ st fail K
  |e=>K e st
theorem Z2x {Hn:Hints U} {L:Code->Prop} (hH:Q3Z U P Hn L) {gos:Nat} {b:Code} (hL:∀b',b'∈Z3 b->L b'):∀(n:Nat),ZF U P Hn.ro Hn.base b (Z1Q P Hn gos b n)
 |0=>λρ S fail hf st K h=>(hf h).elim
 |n+1=>λρ S fail hf st K h B a w hro hA=>by
  refine Q5C.round (wp_mono (Z1B hH gos b hL ρ S fail hf st _ h B a w hro hA) λe a' w' ⟨st',h1,h2⟩=>?_)
  cases e with
  |normal=>exact Z2x hH hL n ρ S fail hf st' K h1 B a' w' hro h2
  |exit i=>exact ⟨st',h1,h2⟩
  |goto l=>exact ⟨st',h1,h2⟩
  |ret=>exact ⟨st',h1,h2⟩
  |panic ch=>exact ⟨st',h1,h2⟩
  |outgrown=>exact ⟨st',h1,h2⟩
section
variable {Hn : Hints U} {l : List Code}
theorem Z5:∀b N,Code.loop b∈([]:List Code)->Hn.loop (Zg b)=some N->ZF U P Hn.ro Hn.base b N:=λb N h=>by cases h
theorem Z7 {b0:Code} {N0:Z2z U} (h0:Hn.loop (Zg b0)=some N0) (hN:ZF U P Hn.ro Hn.base b0 N0) (hl:∀b N,Code.loop b∈l->Hn.loop (Zg b)=some N->ZF U P Hn.ro Hn.base b N):
  ∀b N,Code.loop b∈Code.loop b0::l->Hn.loop (Zg b)=some N->ZF U P Hn.ro Hn.base b N:=λb N h hb=>by
 rcases List.mem_cons.1 h with h|h
 ·cases h
  rw [h0] at hb;cases hb;exact hN
 ·exact hl b N h hb
theorem Zt {b0:Code} (hl:∀b N,Code.loop b∈l->Hn.loop (Zg b)=some N->ZF U P Hn.ro Hn.base b N):
  ∀b N,Code.loop b∈Code.scope b0::l->Hn.loop (Zg b)=some N->ZF U P Hn.ro Hn.base b N:=λb N h hb=>by
 rcases List.mem_cons.1 h with h|h
 ·cases h
 ·exact hl b N h hb
theorem Z7t (h:∀lb,Hn.label lb=none):∀b lb rest N,Code.scope b∈l->findLabel b lb=some rest->Hn.label lb=some N->ZQ U P Hn.ro Hn.base b rest N:=λb lb rest N _ _ hN=>by rw [h] at hN;cases hN
theorem Z20:∀b lb rest N,Code.scope b∈([]:List Code)->findLabel b lb=some rest->Hn.label lb=some N->ZQ U P Hn.ro Hn.base b rest N:=λb lb rest N h=>by cases h
theorem Z4U {b0:Code} (hl:∀b lb rest N,Code.scope b∈l->findLabel b lb=some rest->Hn.label lb=some N->ZQ U P Hn.ro Hn.base b rest N):
  ∀b lb rest N,Code.scope b∈Code.loop b0::l->findLabel b lb=some rest->Hn.label lb=some N->ZQ U P Hn.ro Hn.base b rest N:=λb lb rest N h=>by
 rcases List.mem_cons.1 h with h|h
 ·cases h
 ·exact hl b lb rest N h
theorem Z4V {b0:Code} (h0:∀lb rest N,findLabel b0 lb=some rest->Hn.label lb=some N->ZQ U P Hn.ro Hn.base b0 rest N) (hl:∀b lb rest N,Code.scope b∈l->findLabel b lb=some rest->Hn.label lb=some N->ZQ U P Hn.ro Hn.base b rest N):
  ∀b lb rest N,Code.scope b∈Code.scope b0::l->findLabel b lb=some rest->Hn.label lb=some N->ZQ U P Hn.ro Hn.base b rest N:=λb lb rest N h=>by
 rcases List.mem_cons.1 h with h|h
 ·cases h;exact h0 lb rest N
 ·exact hl b lb rest N h
theorem Z6y {b0 r0:Code} {l0:Nat} {N0:Z2z U} (hr:findLabel b0 l0=some r0) (h0:∀lb,Hn.label lb=bif Nat.beq lb l0 then some N0 else none) (hN:ZQ U P Hn.ro Hn.base b0 r0 N0):
  ∀lb rest N,findLabel b0 lb=some rest->Hn.label lb=some N->ZQ U P Hn.ro Hn.base b0 rest N:=λlb rest N h1 h2=>by
 rw [h0] at h2
 cases hb:Nat.beq lb l0 with
 |false=>rw [hb] at h2;cases h2
 |true=>
  rw [hb] at h2;cases h2
  have:=QV hb
  subst this
  rw [hr] at h1;cases h1;exact hN
end
end Go.Rf
namespace Go.Rf
set_option linter.unusedVariables false
open Go.ChangeShapes Go.RowKit
section
variable {H : Type} {enc : TypeId × Value -> H} {P : Program} {W W' : World}
abbrev Qm (α:Type):List α:= []
abbrev ofN (n:Nat):Int:=n
theorem Z5G:∀{ts:List TypeId} {vs:List Value} {ds:List (DataW H)} {ps:List MemPlace},DataW.TrodAll enc P W 0 (λ_=>true) true ts vs ds ps->∀x∈ps,x.block < W.heap.size
 | [],vs,ds,ps,h,x,hx=>by
  obtain ⟨rfl,rfl,rfl⟩:=trodAll_nil h
  cases hx
 |t::ts,vs,ds,ps,h,x,hx=>by
  obtain ⟨v,vs',d,ds',p,q,rfl,rfl,rfl,h1,h2⟩:=trodAll_cons h
  rcases List.mem_append.1 hx with hx|hx
  ·obtain ⟨m,hm⟩:=h1
   exact DataW.trod_lt m _ _ _ hm x hx
  ·exact Z5G h2 x hx
theorem Z49 (hl:laidOutB P=true) (bel:Below W.heap.size W W'):∀{ts:List TypeId} {vs:List Value} {ds:List (DataW H)} {ps:List MemPlace},(∀t∈ts,P.readableRec t=true/\t < P.types.size)->
  DataW.TrodAll enc P W 0 (λ_=>true) true ts vs ds ps->DataW.TrodAll enc P W' 0 (λb=>decide (b < W.heap.size)) true ts vs ds ps
 | [],vs,ds,ps,ht,h=>by
  obtain ⟨rfl,rfl,rfl⟩:=trodAll_nil h
  exact trodAll_mk0
 |t::ts,vs,ds,ps,ht,h=>by
  obtain ⟨v,vs',d,ds',p,q,rfl,rfl,rfl,h1,h2⟩:=trodAll_cons h
  refine trodAll_cons_mk ?_ (Z49 hl bel (λt ht'=>ht t (List.mem_cons_of_mem _ ht')) h2)
  obtain ⟨h3,h4⟩:=ht t (List.mem_cons_self ..)
  refine Below.trod hl h3 h4 h1 bel λx hx=>?_
  obtain ⟨m,hm⟩:=h1
  exact DataW.trod_lt m _ _ _ hm x hx
end
end Go.Rf
