/- An evaluator of the model's code, and the proof that it is sound. Own work; no program in it. -/
import Derived.Test.YtbfinmemoemakaaGreatRfC
import Derived.Scope
import Derived.OpenShut
import Derived.SizedLaws
import Derived.Below
import Derived.Test.YtbfinmemoemakaaGreatRfB
import Derived.Carry
import Derived.ChangeShapes
namespace Go.Rf
set_option linter.unusedVariables false
set_option linter.unusedSimpArgs false
variable {U : QV} {P : Program} {ro : Nat}
theorem Ext.trans {c0:Cx} {Φ0:Nat->Nat->Nat->Prop} {h0:Qr U} {nx0:Nat} {w0:World} {c:Cx} {Φ:Nat->Nat->Nat->Prop} {h:Qr U} {nx:Nat} {w:World} {c':Cx} {Φ':Nat->Nat->Nat->Prop} {h':Qr U} {w':World}
  (he:Ext U ro c0 Φ0 h0 nx0 w0 c Φ h w) (hs:Ext U ro c Φ h nx w c' Φ' h' w') (hn:nx0<=nx):Ext U ro c0 Φ0 h0 nx0 w0 c' Φ' h' w' where
 le:=he.le.trans hs.le
 L s i hsi hf:=(hs.L s i (by omega) (hf.imp id λh1=>h1.imp (λh1=>by
  cases h2:get h s with
  |none=>rfl
  |some e=>have:=he.old s hsi (by simp [h2]);rw [h1] at this;cases this) id)).trans (he.L s i hsi hf)
 old s hsi h1:=he.old s hsi (hs.old s (by omega) h1)
 fr:=he.fr.trans hs.fr λb o hb ⟨s,h1,h2,h3⟩=>by
  rcases he.Q2g s b o h1 h2 h3 with h4|h4
  ·exact absurd hb (Nat.not_lt.2 h4)
  ·exact h4
 Q2p s hsr:=by rw [hs.Q2p s hsr];exact he.Q2p s hsr
 Q2g s b o hsr h1 h2:=by
  rcases hs.Q2g s b o hsr h1 h2 with h3|⟨s',h3,h4,h5⟩
  ·exact .inl (Nat.le_trans he.fr.size h3)
  ·exact he.Q2g s' b o h3 h4 h5
 Q32 b o v hI:=by
  rcases hs.Q32 b o v hI with h1|h1|⟨s,h1,h2,h3⟩
  ·exact he.Q32 b o v h1
  ·exact .inr (.inl (Nat.le_trans he.fr.size h1))
  ·rcases he.Q2g s b o h1 h2 h3 with h4|h4
   ·exact .inr (.inl h4)
   ·exact .inr (.inr h4)
def Qb3 (U:QV) (P:Program) (ro:Nat) (f:Nat) (N:Q6m U):Prop:=
 ∀(ρ:Type) (S:ρ->Prop) (fail:ρ) (as:List (A U)) (h:Qr U) (nx:Nat) (K:A U->Qr U->Nat->ρ),¬S fail->S (N ρ fail as h nx K)->
  ∀(c:Cx) (Φ:Nat->Nat->Nat->Prop) (w:World) (vs:Array Value),G U c Φ h w->(∀s,nx<=s->get h s=none/\∀k,c.L s k=none)->RAs U c as vs.toList->
   (∃fn,P.funcs[f]? =some fn/\(fn.name== "runtime.NumGoroutine")=false/\fn.body.isNone=false)/\
   Calls P f vs w λe w'=>∃v,e= .returned v/\∃x h' nx' c' Φ',S (K x h' nx')/\nx<=nx'/\RA U c' x v/\G U c' Φ' h' w'/\(∀s,nx'<=s->get h' s=none/\∀k,c'.L s k=none)/\Ext U ro c Φ h nx w c' Φ' h' w'
def Q86 (U:QV) (P:Program) (ro:Nat) (I:Nat->Option (Q6m U)):Prop:=∀f N,I f=some N->Qb3 U P ro f N
theorem SOK.put {c:Cx} {Φ:Nat->Nat->Nat->Prop} {st:St U} {a:Act} {w:World} {dst:Option Tmp} {x:A U} {u:Value} {h':Qr U} {nx':Nat} {c':Cx} {Φ':Nat->Nat->Nat->Prop} {w':World} (hS:SOK U c Φ st a w) (hd:Z3d st.n dst=true) (hle:c.Le c')
  (hv:RA U c' x u) (hg:G U c' Φ' h' w') (hf:∀s,nx'<=s->get h' s=none/\∀k,c'.L s k=none):
  SOK U c' Φ' { n:=st.n,env:=Q8Z dst x st.env,h:=h',nx:=nx'} (a.put dst u) w':=by
 refine ⟨by cases dst <;> simp [Act.put,hS.size],by cases dst <;> simp [Act.put,hS.defers],λt v ht=>?_,hg,hf⟩
 unfold Q8Z at ht
 cases dst with
 |none=>exact (hS.env t v ht).mono hle
 |some d=>
  have hlt:d < a.tmps.size:=by
   have:=Nat.le_of_ble_eq_true (show Nat.ble (d+1) st.n=true from hd)
   rw [hS.size];exact this
  have ht:get ((d,x)::st.env) t=some v:=ht
  rw [Z9] at ht
  by_cases e:d=t
  ·subst e
   rw [if_pos rfl] at ht;cases ht
   rw [Z4d hlt];exact hv
  ·rw [if_neg e] at ht
   rw [Z52 e]
   exact (hS.env t v ht).mono hle
theorem QB.fresh {c:Cx} {Φ:Nat->Nat->Nat->Prop} {h:Qr U} {nx:Nat} {out:Out U} {w:World} {c':Cx} {Φ':Nat->Nat->Nat->Prop} {u:Value} {w':World} (hs:QB U c Φ h nx out w c' Φ' u w')
  (hf:∀s,nx<=s->get h s=none/\∀k,c.L s k=none):∀s,nx+out.nw<=s->get (out.w++h) s=none/\∀k,c'.L s k=none:=by
 intro s hle
 obtain ⟨h1,h2⟩:=hf s (by omega)
 refine ⟨?_,λk=>(hs.L s k (by omega) λhh=>by
  rcases hs.names s hh.2 with h3|h3
  ·omega
  ·rw [h1] at h3;cases h3).trans (h2 k)⟩
 rw [Zh]
 by_cases hm:s∈out.w.map (·.1)
 ·rcases hs.names s hm with h3|h3
  ·omega
  ·rw [h1] at h3;cases h3
 ·rw [Zg hm];exact h1
theorem Z9V {I:Nat->Option (Q6m U)} {c:Cx} {ρ:Operand->Option (A U)} {o:Oper} {N:Q6m U} {as:List (A U)} {a:Act} (h:Q9a I ρ o=some (N,as)) (hρ:∀x∈o.op.operands.toList,∀v,ρ x=some v->RA U c v (a.eval x)):
  ∃f vs,I f=some N/\RAs U c as vs.toList/\∀w,(∃fn,P.funcs[f]? =some fn/\(fn.name== "runtime.NumGoroutine")=false/\fn.body.isNone=false)->(execOp a.eval o).run P w= .ok (.enter f vs) w:=by
 obtain ⟨dst,op,type,pos,after,guard⟩:=o
 unfold Q9a at h
 split at h
 ·rename_i cl hop
  simp only at hop
  subst hop
  simp only [Op.operands] at hρ
  have args:∀l,ZF (cl.args.toList.map ρ)=some l->RAs U c l (cl.args.map a.eval).toList:=λl hl=>by
   have hargs:=Z3R _ _ hl
   refine ⟨by have:=congrArg List.length hargs;simpa using this,λk x hk=>?_⟩
   have h1:(cl.args.toList.map ρ)[k]? =some (some x):=by rw [hargs,List.getElem?_map,hk];rfl
   rw [List.getElem?_map] at h1
   cases hz:cl.args.toList[k]? with
   |none=>simp [hz] at h1
   |some z=>
    simp [hz] at h1
    refine ⟨a.eval z,?_,hρ z (by simp [Call.operands];simp [Array.mem_toList_iff.1 (List.mem_of_getElem? hz)]) _ h1⟩
    rw [Array.toList_map,List.getElem?_map,hz];rfl
  split at h
  ·rename_i f hc
   split at h
   ·rename_i N' l hN hl
    cases h
    refine ⟨f,_,hN,args _ hl,λw ⟨fn,h1,h2,h3⟩=>?_⟩
    show (do let d←resolve a.eval cl type;invoke d.target d.args:Sem Next).run P w=_
    rw [Z4L hc];exact Z1o h1 h2 h3 _
   ·cases h
  ·rename_i t hc
   split at h
   ·rename_i f hfn
    split at h
    ·rename_i N' l hN hl
     cases h
     refine ⟨f,_,hN,args _ hl,λw ⟨fn,h1,h2,h3⟩=>?_⟩
     show (do let d←resolve a.eval cl type;invoke d.target d.args:Sem Next).run P w=_
     have hres:(do let d←resolve a.eval cl type;invoke d.target d.args:Sem Next)=callFunc f (cl.args.map a.eval):=by
      cases hr:ρ (.tmp t) with
      |none=>rw [hr] at hfn;cases hfn
      |some v=>
       rw [hr] at hfn
       have hv:=hρ (.tmp t) (by simp [Call.operands,hc]) v hr
       unfold Q9g at hfn
       split at hfn
       ·rename_i f' x y he
        cases he
        simp only [Bool.cond_eq_ite,Bool.and_eq_true,Nat.beq_eq] at hfn
        split at hfn
        ·rename_i hz
         cases hfn
         have e:a.eval (.tmp t)= .func (.func f) x y:=R.val' (show R U c (.val (.func (.func f) x y)) _ from hv)
         exact Z5d hc (by rw [e,Array.eq_empty_of_size_eq_zero hz.1,Array.eq_empty_of_size_eq_zero hz.2])
        ·cases hfn
       ·cases hfn
     rw [hres];exact Z1o h1 h2 h3 _
    ·cases h
   ·split at h
    ·rename_i f ps hcl
     split at h
     ·rename_i N' l hN hl
      cases h
      have hr:=Z7m hcl
      obtain ⟨vs,hv,hps⟩:=Z5H (show R U c (.clo f ps) _ from hρ (.tmp t) (by simp [Call.operands,hc]) _ hr)
      refine ⟨f,cl.args.map a.eval++vs,hN,by rw [Array.toList_append];exact RAs.append (args _ hl) hps,λw ⟨fn,h1,h2,h3⟩=>?_⟩
      show (do let d←resolve a.eval cl type;invoke d.target d.args:Sem Next).run P w=_
      rw [Z59 hc hv];exact Z1o h1 h2 h3 _
     ·cases h
    ·cases h
  ·cases h
 ·cases h
theorem Z36 (hU:U.Ok) {Γ:Nat->Option (Native U)} (hΓ:ZM U P Γ) {I:Nat->Option (Q6m U)} (hI:Q86 U P ro I) {ρ:Type} {S:ρ->Prop} {fail:ρ} (hf:¬S fail) {ops:Array Oper} {Q:Exit->Act->World->Prop} {B:Q4A U} (hB:B.ro=ro) {K:St U->ρ}
  (hQ:∀st' a' w',S (K st')->B.At st' a' w'->Q .normal a' w'):∀(rest:List Oper) (j:Nat) (st:St U) (a:Act) (w:World),ops.toList.drop j=rest->S (Z28 P Γ I ro ops.toList fail rest j st K)->B.At st a w->wpOps P ops Q (List.range' j rest.length) a w
 | [],j,st,a,w,hd,h,hA=>hQ st a w h hA
 |o::rest,j,st,a,w,hd,h,hA=>by
  have hoL:ops.toList[j]? =some o:=by rw [←List.head?_drop,hd];rfl
  have ho:ops[j]? =some o:=by rw [←Array.getElem?_toList];exact hoL
  have hd':ops.toList.drop (j+1)=rest:=by rw [←List.tail_drop,hd];rfl
  obtain ⟨c,Φ,hn,hS,hE⟩:=hA
  rw [List.length_cons,List.range'_succ,wpOps_cons]
  unfold wpOp
  rw [ho]
  show (if Region.wanted o (yielded ops a.tmps)=true then Oper.wp P o a w (wpOps P ops Q (List.range' (j+1) rest.length)) Q\/Oper.asks P o a w/\LetsOut Q else wpOps P ops Q (List.range' (j+1) rest.length) (a.put o.dst undef) w)
  have hw:=Z6s (ops:=ops) (a:=a) (o:=o) (env:=st.env) λt _ v hv=>hS.env t v hv
  have hρ:∀x∈o.op.operands.toList,∀v,opd st.env x=some v->RA U c v (a.eval x):=λx hx v hv=>by
   cases x with
   |tmp t=>exact hS.env t v hv
   |const k=>exact Z3Y hv
   |func f=>cases hv;exact R.val rfl
   |global g=>cases hv
  unfold Z28 at h
  cases hds:Z3d st.n o.dst with
  |false=>rw [hds] at h;exact (hf h).elim
  |true=>
   rw [hds] at h
   simp only [Bool.not_true,cond_false] at h
   have go:∀out c' Φ' u w',Q4U ro out.w=true->QB U c Φ st.h st.nx out w c' Φ' u w'->B.At (st.apply o.dst out) (a.put o.dst u) w':=λout c' Φ' u w' hwr h1=>
    ⟨c',Φ',by simp only [St.apply];omega,by have:=hS.put (x:=out.v) (h':=out.w++st.h) (nx':=st.nx+out.nw) hds h1.le h1.val h1.g (h1.fresh hS.fresh);cases hdd:o.dst <;> rw [hdd] at this <;> exact this,hE.step h1 (by rw [hB];exact hwr) hn⟩
   cases hwt:want ops.toList st.env o with
   |bad=>rw [hwt] at h;exact (hf h).elim
   |no=>
    rw [hwt] at h
    simp only at h
    rw [if_neg (by rw [hw.2 hwt];simp)]
    exact Z36 hU hΓ hI hf hB hQ rest (j+1) _ _ _ hd' h (go { v:= .t []} c Φ undef w rfl (QB.pure hS.g RA.undef))
   |yes=>
    rw [hwt] at h
    simp only at h
    rw [if_pos (hw.1 hwt)]
    refine .inl ?_
    split at h
    ·rename_i N as hin
     obtain ⟨f,vs,h1,h2,h3⟩:=Z9V (P:=P) hin hρ
     obtain ⟨h4,h5⟩:=hI f N h1 ρ S fail as st.h st.nx _ hf h c Φ w vs hS.g hS.fresh h2
     have hD:Q2B P (λv w'=>∃x h' nx' c' Φ',S (Z28 P Γ I ro ops.toList fail rest (j+1) { n:=st.n,env:=Q8Z o.dst x st.env,h:=h',nx:=nx'} K)/\st.nx<=nx'/\RA U c' x v/\G U c' Φ' h' w'/\(∀s,nx'<=s->get h' s=none/\∀k,c'.L s k=none)/\Ext U ro c Φ st.h st.nx w c' Φ' h' w') ((execOp a.eval o).run P w):=by
      rw [h3 w h4];exact h5
     refine hD.wp λu w' ⟨x,h',nx',c',Φ',g1,g2,g3,g4,g5,g6⟩=>?_
     exact Z36 hU hΓ hI hf hB hQ rest (j+1) _ _ _ hd' g1 ⟨c',Φ',Nat.le_trans hn g2,hS.put hds g6.le g3 g4 g5,hE.trans (by rw [hB];exact g6) hn⟩
    ·obtain ⟨out,h1,h2⟩:=Q9G hf h
     cases hwr:Q4U ro out.w with
     |false=>rw [hwr] at h2;exact (hf h2).elim
     |true=>
      rw [hwr] at h2
      simp only [cond_true] at h2
      have h3:=Z8i (λ_ _ _ h=>h) h2
      have hD:=Z8f (nx:=st.nx) (h:=st.h) hU hΓ h1 (λ_ _=>rfl) hS.g (λs h4 _=>hS.fresh s h4) hρ
      exact hD.wp λu w' ⟨c',Φ',hSt⟩=>Z36 hU hΓ hI hf hB hQ rest (j+1) _ _ _ hd' h3 (go out c' Φ' u w' hwr hSt)
end Go.Rf
namespace Go.Rf
set_option linter.unusedVariables false
set_option linter.unusedSimpArgs false
variable {U : QV} {P : Program}
theorem Q4A.At.imp {B:Q4A U} {st st':St U} {a:Act} {w:World} (h:B.At st a w) (hi:Imp U st st'):B.At st' a w:=by
 obtain ⟨c,Φ,h1,h2,h3⟩:=h
 exact ⟨c,Φ,Nat.le_trans h1 hi.nx,hi.sok _ _ _ _ h2,h3.less hi.less⟩
def QK (B:Q4A U) {ρ:Type} (S:ρ->Prop) (K:Exit->St U->ρ):Exit->Act->World->Prop:=
 λe a w=>∃st,S (K e st)/\B.At st a w
def Q5a (P:Program) (b:Code) (Q:Exit->Act->World->Prop) (a:Act) (w:World):Prop:=
 ∀(fr:Frame) (k:List Item) (cs:List Frame),∃e a' w',Q e a' w'/\Arrives P (lone (fr.at a (.code b:: .inLoop b::k)) cs w) fr k cs e a' w'
theorem Q5a.wp {b:Code} {Q:Exit->Act->World->Prop} {a:Act} {w:World} (h:Q5a P b Q a w):(Code.loop b).wp P Q a w:=
 λfr k cs=>let ⟨e,a',w',q,r⟩:=h fr k cs;⟨e,a',w',q,.of_steps (.one step_loop) r⟩
theorem Q5a.round {c:Code} {Q:Exit->Act->World->Prop} {a:Act} {w:World} (h:c.wp P (Exit.then (Q5a P c Q) Q) a w):Q5a P c Q a w:=by
 intro b k cs
 obtain ⟨e,a₁,w₁,hq,harr⟩:=h b (.inLoop c::k) cs
 cases e with
 |normal=>
  obtain ⟨e₂,a₂,w₂,hq₂,harr₂⟩:=hq b k cs
  exact ⟨e₂,a₂,w₂,hq₂,.of_steps (Steps.trans harr (.one step_inLoop)) harr₂⟩
 |exit id=>exact ⟨_,a₁,w₁,hq,.pass (x:= .inLoop c) rfl (λ_ _=>.inl (by simp)) harr⟩
 |goto l=>exact ⟨_,a₁,w₁,hq,.pass (x:= .inLoop c) rfl (λ_ _=>.inl (by simp)) harr⟩
 |ret=>exact ⟨_,a₁,w₁,hq,.pass (x:= .inLoop c) rfl (λ_ _=>.inl (by simp)) harr⟩
 |panic ch=>exact ⟨_,a₁,w₁,hq,.pass (x:= .inLoop c) rfl (λ_ _=>.inl (by simp)) harr⟩
 |outgrown=>exact ⟨_,a₁,w₁,hq,.pass (x:= .inLoop c) rfl (λ_ _=>.inl (by simp)) harr⟩
def Q55 (P:Program) (c rest:Code) (Q:Exit->Act->World->Prop) (a:Act) (w:World):Prop:=
 ∀(fr:Frame) (k:List Item) (cs:List Frame),∃e a' w',Q e a' w'/\Arrives P (lone (fr.at a (.code rest:: .inScope c::k)) cs w) fr k cs e a' w'
def Z1F (P:Program) (c:Code) (Q:Exit->Act->World->Prop):Exit->Act->World->Prop
 | .goto l,a,w=>match findLabel c l with
  |some rest=>Q55 P c rest Q a w
  |none=>Q (.goto l) a w
 |e,a,w=>Q e a w
theorem Q55.of {c rest:Code} {Q:Exit->Act->World->Prop} {a:Act} {w:World} (h:rest.wp P (Z1F P c Q) a w):Q55 P c rest Q a w:=by
 intro b k cs
 obtain ⟨e,a₁,w₁,hq,harr⟩:=h b (.inScope c::k) cs
 cases e with
 |normal=>exact ⟨.normal,a₁,w₁,hq,Steps.trans harr (.one step_inScope)⟩
 |exit id=>exact ⟨.exit id,a₁,w₁,hq,λk' hk=>harr k' (by simp [exitTo,hk])⟩
 |goto l=>
  simp only [Z1F] at hq
  cases hl:findLabel c l with
  |none=>
   rw [hl] at hq
   exact ⟨.goto l,a₁,w₁,hq,λk' hk=>harr k' (by simp [gotoIn,hl,hk])⟩
  |some r=>
   rw [hl] at hq
   obtain ⟨e₂,a₂,w₂,hq₂,harr₂⟩:=hq b k cs
   exact ⟨e₂,a₂,w₂,hq₂,.of_steps (harr _ (by simp [gotoIn,hl])) harr₂⟩
 |ret=>exact ⟨_,a₁,w₁,hq,harr⟩
 |panic ch=>exact ⟨_,a₁,w₁,hq,harr⟩
 |outgrown=>exact ⟨_,a₁,w₁,hq,harr⟩
theorem Z7Y {c:Code} {Q:Exit->Act->World->Prop} {a:Act} {w:World} (h:c.wp P (Z1F P c Q) a w):(Code.scope c).wp P Q a w:=by
 intro b k cs
 obtain ⟨e,a',w',hq,harr⟩:=Q55.of h b k cs
 exact ⟨e,a',w',hq,.of_steps (.one step_scope) harr⟩
def ZA (U:QV) (P:Program) (ro base:Nat) (b:Code) (N:Z2E U):Prop:=
 ∀(ρ:Type) (S:ρ->Prop) (fail:ρ),¬S fail->∀(st:St U) (K:Exit->St U->ρ),S (N ρ st fail K)->
  ∀(B:Q4A U) (a:Act) (w:World),B.ro=ro/\B.nx<=base->B.At st a w->Q5a P b (QK B S K) a w
def ZR (U:QV) (P:Program) (ro base:Nat) (b rest:Code) (N:Z2E U):Prop:=
 ∀(ρ:Type) (S:ρ->Prop) (fail:ρ),¬S fail->∀(st:St U) (K:Exit->St U->ρ),S (N ρ st fail K)->
  ∀(B:Q4A U) (a:Act) (w:World),B.ro=ro/\B.nx<=base->B.At st a w->Q55 P b rest (QK B S K) a w
def Z3:Code->List Code
 | .seq a b=>Z3 a++Z3 b
 | .cond _ a b=>Z3 a++Z3 b
 | .block _ b=>Z3 b
 | .loop b=>.loop b::Z3 b
 | .scope b=>.scope b::Z3 b
 |_=>[]
theorem Z2x:∀(c:Code) (l:Nat) (r:Code),findLabel c l=some r->∀b,b∈Z3 r->b∈Z3 c
 | .seq x y,l,r,h,b,hb=>by
  unfold findLabel at h
  split at h
  ·rename_i rest hr
   cases h
   simp only [Z3,List.mem_append] at hb ⊢
   rcases hb with hb|hb
   ·exact .inl (Z2x x l rest hr b hb)
   ·exact .inr hb
  ·simp only [Z3,List.mem_append]
   exact .inr (Z2x y l r h b hb)
 | .label l',l,r,h,b,hb=>by
  unfold findLabel at h
  split at h
  ·cases h;simp [Z3] at hb
  ·cases h
 | .skip,l,r,h,b,hb=>by simp [findLabel] at h
 | .region ..,l,r,h,b,hb=>by simp [findLabel] at h
 | .cond ..,l,r,h,b,hb=>by simp [findLabel] at h
 | .block ..,l,r,h,b,hb=>by simp [findLabel] at h
 | .loop ..,l,r,h,b,hb=>by simp [findLabel] at h
 | .exit ..,l,r,h,b,hb=>by simp [findLabel] at h
 | .scope ..,l,r,h,b,hb=>by simp [findLabel] at h
 | .goto ..,l,r,h,b,hb=>by simp [findLabel] at h
 | .ret,l,r,h,b,hb=>by simp [findLabel] at h
 | .rangeFunc ..,l,r,h,b,hb=>by simp [findLabel] at h
 | .refuse ..,l,r,h,b,hb=>by simp [findLabel] at h
def Q7E (U:QV) (P:Program) (ro base:Nat) (L:Code->Prop) (run:(ρ:Type)->ρ->Code->St U->(Exit->St U->ρ)->ρ):Prop:=
 ∀(code:Code),(∀b,b∈Z3 code->L b)->∀(ρ:Type) (S:ρ->Prop) (fail:ρ),¬S fail->∀(st:St U) (K:Exit->St U->ρ),S (run ρ fail code st K)->
  ∀(B:Q4A U) (a:Act) (w:World),B.ro=ro/\B.nx<=base->B.At st a w->code.wp P (QK B S K) a w
structure Q3c (U:QV) (P:Program) (Hn:Hints U) (L:Code->Prop):Prop where
 u:U.Ok
 pure:U.Pure
 mixed:P.follows .mixedOrders=true
 Γ:ZM U P Hn.Γ
 loop:∀b N,L (.loop b)->Hn.loop (Zj b)=some N->ZA U P Hn.ro Hn.base b N
 label:∀b l rest N,L (.scope b)->findLabel b l=some rest->Hn.label l=some N->ZR U P Hn.ro Hn.base b rest N
 inl:Q86 U P Hn.ro Hn.inl
theorem Z9M {l:Live} {T:St U} {b:Bool} {x y:Option (St U)} (h:∃z,Z7k l b x y=some z/\Imp U z T):∃z,(bif b then x else y)=some z/\Imp U z T:=by
 obtain ⟨z,h1,h2⟩:=h
 unfold Z7k at h1
 split at h1
 ·rename_i x y
  have:=(Z5w h1).trans h2
  cases b
  ·exact ⟨y,rfl,this⟩
  ·exact ⟨x,rfl,this⟩
 ·cases h1
theorem Z3J (hU:U.Ok) (hP:U.Pure) {base:Nat×Nat} {l:Qt U} {ρ:Type} {S:ρ->Prop} {fail:ρ} (hf:¬S fail) {K:Exit->St U->ρ} {f:(ρ':Type)->ρ'->(Exit->St U->ρ')->ρ'} (h:S (Z50 base l ρ f fail K)) {code:Code} {B:Q4A U} (hB:B.ro=base.1/\B.nx<=base.2) {a:Act} {w:World}
  (hr:∀(ρ':Type) (S':ρ'->Prop) (fail':ρ') (K':Exit->St U->ρ'),¬S' fail'->S' (f ρ' fail' K')->code.wp P (QK B S' K') a w):code.wp P (QK B S K) a w:=by
 unfold Z50 at h
 cases hx:f (Option (ExT l)) none (Z1S base l) with
 |none=>rw [hx] at h;exact (hf h).elim
 |some x=>
  rw [hx] at h
  refine wp_mono (hr (Option (ExT l)) (λy=>y=some x) none (Z1S base l) (λh=>by cases h) hx) λe a' w' ⟨st',h1,h2⟩=>?_
  obtain ⟨st2,h3,h4⟩:=Z3L hU hP l e st' x h1 (K:=K)
  have h:S (Q7f l x K):=h
  rw [h3] at h
  exact ⟨st2,h,h4 B a' w' hB h2⟩
def QP (B:Q4A U) {ρ:Type} (S:ρ->Prop) (K:St U->ρ):Exit->Act->World->Prop:=
 λe a w=>e= .normal/\∃st,S (K st)/\B.At st a w
theorem Z7a (hU:U.Ok) (hP:U.Pure) {l:List (Nat×JV U.C)} {ops:List Oper} {ρ:Type} {S:ρ->Prop} {fail:ρ} (hf:¬S fail) {st:St U} {K:Exit->St U->ρ} {f:(ρ':Type)->ρ'->(St U->ρ')->ρ'} (h:S (Q1T l ops ρ f st fail K)) {code:Code} {B:Q4A U} {a:Act} {w:World}
  (hform:∀(ρ':Type) (fail':ρ') (K' K'':St U->ρ'),(∀st',Form ops st st'->K' st'=K'' st')->f ρ' fail' K'=f ρ' fail' K'')
  (hr:∀(ρ':Type) (S':ρ'->Prop) (fail':ρ') (K':St U->ρ'),¬S' fail'->S' (f ρ' fail' K')->code.wp P (QP B S' K') a w):code.wp P (QK B S K) a w:=by
 unfold Q1T at h
 have hsame:=hform (Option (JVs U l)) none (Z4v l st) (λst'=>open Classical in if Form ops st st' then Z4v l st st' else none) (λst' hF=>by rw [if_pos hF])
 rw [hsame] at h
 generalize hx:f (Option (JVs U l)) none _=y at h
 cases y with
 |none=>exact (hf h).elim
 |some x=>
  have h:S (K .normal { n:=st.n,env:=Zv l x++st.env.filter (λp=>!mem p.1 (ops.filterMap (·.dst))),h:=st.h,nx:=st.nx}):=h
  refine wp_mono (hr (Option (JVs U l)) (λy=>y=some x) none _ (λh=>by cases h) hx) λe a' w' ⟨he,st',h4,h5⟩=>?_
  subst he
  simp only at h4
  split at h4
  ·rename_i hF
   exact ⟨_,h,h5.imp (Z8X hU hP hF h4)⟩
  ·cases h4
theorem Form.more {ops ops':List Oper} {st st':St U} (h:Form ops st st') (hs:∀o,o∈ops->o∈ops'):Form ops' st st':=by
 obtain ⟨pe,ph,h1,h2,h3⟩:=h
 refine ⟨pe,ph,h1,λp hp=>?_,h3⟩
 obtain ⟨o,ho,hd⟩:=List.mem_filterMap.1 (h2 p hp)
 exact List.mem_filterMap.2 ⟨o,hs o ho,hd⟩
theorem Z6A {Γ:Nat->Option (Native U)} {ro:Nat} {st:St U} {ρ':Type} {fail':ρ'} {K' K'':St U->ρ'} {ops:List Oper}:∀(x:Code),(∀o,o∈opsOf x->o∈ops)->(∀st',Form ops st st'->K' st'=K'' st')->Q8k P Γ ro st x ρ' fail' K'=Q8k P Γ ro st x ρ' fail' K'':=by
 intro x hx hk
 cases x with
 |skip=>exact hk st ⟨[],[],rfl,λp hp=>(by cases hp),rfl⟩
 |region id o dr=>exact Z3i _ _ _ _ _ _ λst' hF=>hk st' (hF.more hx)
 |_=>rfl
theorem Z83 {Hn:Hints U} {L:Code->Prop} (hH:Q3c U P Hn L) {again:(ρ:Type)->ρ->Code->St U->(Exit->St U->ρ)->ρ} (ha:Q7E U P Hn.ro Hn.base L again):Q7E U P Hn.ro Hn.base L (Q4r P Hn again):=by
 intro code
 induction code with
 |skip=>
  intro hL ρ S fail hf st K h B a w hro hA
  exact wp_skip ⟨st,h,hA⟩
 |region id ops dr=>
  intro hL ρ S fail hf st K h B a w hro hA0
  have hA:=hA0
  obtain ⟨c,Φ,h1,h2,h3⟩:=hA
  rw [hro.1] at h3
  simp only [Q4r] at h
  cases hsq:Hn.seq id && !dr with
  |true=>
   rw [hsq] at h
   simp only [cond_true] at h
   have hdr:dr=false:=by
    rw [Bool.and_eq_true] at hsq
    simpa using hsq.2
   subst hdr
   have key:∀(ρ:Type) (S:ρ->Prop) (fail:ρ) (K:Exit->St U->ρ),¬S fail->S (Z28 P Hn.Γ Hn.inl Hn.ro ops.toList fail ops.toList 0 st (λst=>K .normal st))->(Code.region id ops false).wp P (QK B S K) a w:=λρ S fail K hf h=>by
    refine wp_region ?_
    have:=Z36 hH.u hH.Γ hH.inl hf (ops:=ops) (B:=B) hro.1 (Q:=QK B S K) (K:=λst=>K .normal st) (λst' a' w' h4 h5=>⟨st',h4,h5⟩) ops.toList 0 st a w rfl h hA0
    rw [List.range_eq_range']
    simpa using this
   split at h
   ·exact Z3J hH.u hH.pure hf h hro key
   ·exact key ρ S fail K hf h
  |false=>
  rw [hsq] at h
  simp only [cond_false] at h
  cases hm:Hn.meet id with
  |none=>
   rw [hm] at h
   simp only at h
   have key:∀(ρ:Type) (S:ρ->Prop) (fail:ρ) (K:Exit->St U->ρ),¬S fail->S (Z12 P Hn.Γ Hn.ro dr ops.toList (bif dr then Q3S ops.toList [] else []) (λb x y=>bif b then x else y) fail ops.toList 0 [] st (λst=>K .normal st))->(Code.region id ops dr).wp P (QK B S K) a w:=λρ S fail K hf h=>
    Z33 (J:=λb x y=>bif b then x else y) hH.u hH.Γ hH.mixed hf (λ_ _ _ h=>h) h h1 h2 h3 λst' c' Φ' a' w' h4 h5 h6 h7=>⟨st',h4,c',Φ',h5,h6,by rw [hro.1];exact h7⟩
   split at h
   ·exact Z3J hH.u hH.pure hf h hro key
   ·split at h
    ·rename_i l _
     exact Z7a hH.u hH.pure hf h (λρ' fail' K' K'' hk=>Z3i _ _ _ _ _ _ hk) (λρ' S' fail' K' hf' h'=>
      Z33 (J:=λb x y=>bif b then x else y) hH.u hH.Γ hH.mixed hf' (λ_ _ _ h=>h) h' h1 h2 h3 λst' c' Φ' a' w' h4 h5 h6 h7=>⟨rfl,st',h4,c',Φ',h5,h6,by rw [hro.1];exact h7⟩)
    ·exact key ρ S fail K hf h
  |some l=>
   rw [hm] at h
   simp only at h
   split at h
   ·rename_i T hT
    refine Z33 (S:=λr:Option (St U)=>∃z,r=some z/\Imp U z T) hH.u hH.Γ hH.mixed (λ⟨z,hz,_⟩=>by cases hz) (λb x y=>Z9M) ⟨T,hT,Imp.refl T⟩ h1 h2 h3
     λst' c' Φ' a' w' ⟨z,h4,h8⟩ h5 h6 h7=>⟨T,h,?_⟩
    cases h4
    exact Q4A.At.imp (B:=B) (st:=st') ⟨c',Φ',h5,h6,by rw [hro.1];exact h7⟩ ((Imp.only st' l).trans h8)
   ·exact (hf h).elim
 |seq x y ihx ihy=>
  intro hL ρ S fail hf st K h B a w hro hA
  simp only [Z3,List.mem_append] at hL
  refine wp_seq (wp_mono (ihx (λb hb=>hL b (.inl hb)) ρ S fail hf st _ h B a w hro hA) λe a' w' ⟨st',h1,h2⟩=>?_)
  cases e with
  |normal=>exact ihy (λb hb=>hL b (.inr hb)) ρ S fail hf st' K h1 B a' w' hro h2
  |exit i=>exact ⟨st',h1,h2⟩
  |goto l=>exact ⟨st',h1,h2⟩
  |ret=>exact ⟨st',h1,h2⟩
  |panic ch=>exact ⟨st',h1,h2⟩
  |outgrown=>exact ⟨st',h1,h2⟩
 |cond c x y ihx ihy=>
  intro hL ρ S fail hf st K h B a w hro hA
  simp only [Z3,List.mem_append] at hL
  simp only [Q4r] at h
  split at h
  ·rename_i t ht
   have hc:a.eval c= .bool t:=by
    obtain ⟨c',Φ',h1,h2,h3⟩:=hA
    cases c with
    |tmp k=>exact R.Q1z (show R U c' (.val (.bool t)) _ from h2.env k _ ht)
    |const v=>exact R.Q1z (show R U c' (.val (.bool t)) _ from Z3Y ht)
    |func f=>cases ht
    |global g=>cases ht
   refine wp_cond hc ?_
   split at h
   ·rename_i l hl
    split at h
    ·rename_i st1 st2 h1 h2
     split at h
     ·rename_i T hT
      have hi:=Z5w hT
      cases t
      ·refine wp_mono (ihy (λb hb=>hL b (.inr hb)) (Option (Exit×St U)) (λr=>r=some (.normal,st2)) none (λh=>by cases h) st _ h2 B a w hro hA) λe a' w' ⟨st',h3,h4⟩=>?_
       cases h3
       exact ⟨T,h,h4.imp hi⟩
      ·refine wp_mono (ihx (λb hb=>hL b (.inl hb)) (Option (Exit×St U)) (λr=>r=some (.normal,st1)) none (λh=>by cases h) st _ h1 B a w hro hA) λe a' w' ⟨st',h3,h4⟩=>?_
       cases h3
       exact ⟨T,h,h4.imp hi⟩
     ·exact (hf h).elim
    ·exact (hf h).elim
   ·have key:∀(ρ:Type) (S:ρ->Prop) (fail:ρ) (K:Exit->St U->ρ),¬S fail->S (bif t then Q4r P Hn again ρ fail x st K else Q4r P Hn again ρ fail y st K)->(bif t then x else y).wp P (QK B S K) a w:=λρ S fail K hf h=>by
     cases t
     ·exact ihy (λb hb=>hL b (.inr hb)) ρ S fail hf st K h B a w hro hA
     ·exact ihx (λb hb=>hL b (.inl hb)) ρ S fail hf st K h B a w hro hA
    have plain:∀(z:Code) (ρ':Type) (S':ρ'->Prop) (fail':ρ') (K':St U->ρ'),¬S' fail'->S' (Q8k P Hn.Γ Hn.ro st z ρ' fail' K')->z.wp P (QP B S' K') a w:=λz ρ' S' fail' K' hf' h'=>by
     cases z with
     |skip=>exact wp_skip ⟨rfl,st,h',hA⟩
     |region id ops dr=>
      obtain ⟨c',Φ',g1,g2,g3⟩:=hA
      rw [hro.1] at g3
      exact Z33 (J:=λb x y=>bif b then x else y) hH.u hH.Γ hH.mixed hf' (λ_ _ _ h=>h) h' g1 g2 g3 λst' c' Φ' a' w' h4 h5 h6 h7=>⟨rfl,st',h4,c',Φ',h5,h6,by rw [hro.1];exact h7⟩
     |_=>exact (hf' h').elim
    have goal:(bif t then x else y).wp P (QK B S K) a w:=by
     split at h
     ·exact Z3J hH.u hH.pure hf h hro key
     ·split at h
      ·refine Z7a hH.u hH.pure hf h (λρ' fail' K' K'' hk=>?_) (λρ' S' fail' K' hf' h'=>?_)
       ·rw [Z6A x (λo ho=>List.mem_append_left _ ho) hk,Z6A y (λo ho=>List.mem_append_right _ ho) hk]
       ·cases t
        ·exact plain y ρ' S' fail' K' hf' h'
        ·exact plain x ρ' S' fail' K' hf' h'
      ·exact key ρ S fail K hf h
    cases t
    ·exact goal
    ·exact goal
  ·exact (hf h).elim
 |block id b ih=>
  intro hL ρ S fail hf st K h B a w hro hA
  have key:∀(ρ:Type) (S:ρ->Prop) (fail:ρ) (K:Exit->St U->ρ),¬S fail->S (Q4r P Hn again ρ fail b st λe st=>match e with
   | .exit i=>bif Nat.beq i id then K .normal st else K (.exit i) st
   |e=>K e st)->(Code.block id b).wp P (QK B S K) a w:=by
   intro ρ S fail K hf h
   refine wp_block (wp_mono (ih hL ρ S fail hf st _ h B a w hro hA) λe a' w' ⟨st',h1,h2⟩=>?_)
   cases e with
   |exit i=>
    simp only [Exit.inBlock]
    simp only at h1
    cases hb:Nat.beq i id with
    |true=>rw [hb] at h1;rw [if_pos (QH hb)];exact ⟨st',h1,h2⟩
    |false=>
     rw [hb] at h1
     rw [if_neg (λe=>by subst e;simp at hb)]
     exact ⟨st',h1,h2⟩
   |normal=>exact ⟨st',h1,h2⟩
   |goto l=>exact ⟨st',h1,h2⟩
   |ret=>exact ⟨st',h1,h2⟩
   |panic ch=>exact ⟨st',h1,h2⟩
   |outgrown=>exact ⟨st',h1,h2⟩
  simp only [Q4r] at h
  split at h
  ·exact Z3J hH.u hH.pure hf h hro key
  ·exact key ρ S fail K hf h
 |loop b ih=>
  intro hL ρ S fail hf st K h B a w hro hA
  simp only [Q4r] at h
  split at h
  ·rename_i N hN
   exact (hH.loop b N (hL _ (by simp [Z3])) hN ρ S fail hf st K h B a w hro hA).wp
  ·exact (hf h).elim
 |exit i=>
  intro hL ρ S fail hf st K h B a w hro hA
  exact wp_exit ⟨st,h,hA⟩
 |scope b ih=>
  intro hL ρ S fail hf st K h B a w hro hA
  have hLb:∀x,x∈Z3 b->L x:=λx hx=>hL x (by simp only [Z3];exact List.mem_cons_of_mem _ hx)
  have key:∀(k l:Nat) (st:St U) (a:Act) (w:World),S (Z3m again b ρ fail K k l st)->B.At st a w->Z1F P b (QK B S K) (.goto l) a w:=by
   intro k
   induction k with
   |zero=>
    intro l st a w h hA
    unfold Z3m at h
    simp only [Z1F]
    split at h
    ·exact (hf h).elim
    ·rename_i hl
     rw [hl];exact ⟨st,h,hA⟩
   |succ k ihk=>
    intro l st a w h hA
    unfold Z3m at h
    simp only [Z1F]
    split at h
    ·rename_i rest hl
     rw [hl]
     refine Q55.of (wp_mono (ha rest (λx hx=>hLb x (Z2x b l rest hl x hx)) ρ S fail hf st _ h B a w hro hA) λe a'' w'' ⟨st'',h3,h4⟩=>?_)
     cases e with
     |goto l=>exact ihk l st'' a'' w'' h3 h4
     |normal=>exact ⟨st'',h3,h4⟩
     |exit i=>exact ⟨st'',h3,h4⟩
     |ret=>exact ⟨st'',h3,h4⟩
     |panic ch=>exact ⟨st'',h3,h4⟩
     |outgrown=>exact ⟨st'',h3,h4⟩
    ·rename_i hl
     rw [hl];exact ⟨st,h,hA⟩
  refine Z7Y (wp_mono (ih hLb ρ S fail hf st _ h B a w hro hA) λe a' w' ⟨st',h1,h2⟩=>?_)
  cases e with
  |goto l=>
   simp only at h1
   split at h1
   ·rename_i rest N hl hN
    simp only [Z1F]
    rw [hl]
    exact hH.label b l rest N (hL _ (by simp [Z3])) hl hN ρ S fail hf st' K h1 B a' w' hro h2
   ·exact key _ l st' a' w' h1 h2
  |normal=>exact ⟨st',h1,h2⟩
  |exit i=>exact ⟨st',h1,h2⟩
  |ret=>exact ⟨st',h1,h2⟩
  |panic ch=>exact ⟨st',h1,h2⟩
  |outgrown=>exact ⟨st',h1,h2⟩
 |label l=>
  intro hL ρ S fail hf st K h B a w hro hA
  exact wp_label ⟨st,h,hA⟩
 |goto l=>
  intro hL ρ S fail hf st K h B a w hro hA
  exact wp_goto ⟨st,h,hA⟩
 |ret=>
  intro hL ρ S fail hf st K h B a w hro hA
  exact wp_ret ⟨st,h,hA⟩
 |rangeFunc=>
  intro hL ρ S fail hf st K h B a w hro hA
  exact (hf h).elim
 |refuse=>
  intro hL ρ S fail hf st K h B a w hro hA
  exact (hf h).elim
theorem Z1b {Hn:Hints U} {L:Code->Prop} {run:(ρ:Type)->ρ->Code->St U->(Exit->St U->ρ)->ρ} (hU:U.Ok) (hP:U.Pure) (hR:Q7E U P Hn.ro Hn.base L run) {b:Code} (hL:∀b',b'∈Z3 b->L b')
  {p:Shape U} {l:Qt U} {F:p.T->Option (ExT l)} {rounds:p.T->Nat} {round:p.T->Option (p.T⊕ExT l)} (hF:∀x,F x=Z8 (rounds x) round x) (heq:∀x,run (Option (p.T⊕ExT l)) none b (p.enc x) (Zc (Hn.ro,Hn.base) p l)=round x):ZA U P Hn.ro Hn.base b (Z6 (Hn.ro,Hn.base) p l F):=by
 intro ρ S fail hf st K h B a w hro hA
 have main:∀(n:Nat) (x:p.T) (r:ExT l),Z8 n round x=some r->S (Q7f l r K)->∀(a:Act) (w:World),B.At (p.enc x) a w->Q5a P b (QK B S K) a w:=by
  intro n
  induction n with
  |zero=>intro x r h;cases h
  |succ n ih=>
   intro x r h hS a w hA
   unfold Z8 at h
   have body:∀y,round x=some y->b.wp P (QK B (λz=>z=some y) (Zc (Hn.ro,Hn.base) p l)) a w:=λy hy=>
    hR b hL (Option (p.T⊕ExT l)) (λz=>z=some y) none (λh=>by cases h) (p.enc x) (Zc (Hn.ro,Hn.base) p l) ((heq x).trans hy) B a w hro hA
   split at h
   ·rename_i x' hx
    refine Q5a.round (wp_mono (body _ hx) λe a' w' ⟨st',h1,h2⟩=>?_)
    unfold Zc at h1
    split at h1
    ·split at h1
     ·rename_i z hz
      cases h1
      exact ih _ r h hS a' w' (Shape.at hU hP hz hro h2)
     ·cases h1
    ·split at h1 <;> cases h1
   ·rename_i y hx
    cases h
    refine Q5a.round (wp_mono (body _ hx) λe a' w' ⟨st',h1,h2⟩=>?_)
    have other:∀e,(match Z1S (Hn.ro,Hn.base) l e st' with|some x=>some (Sum.inr x)|none=>none)=some (Sum.inr r:p.T⊕ExT l)->QK B S K e a' w':=λe h1=>by
     split at h1
     ·rename_i z hz
      cases h1
      obtain ⟨st2,h3,h4⟩:=Z3L hU hP l _ st' _ hz (K:=K)
      rw [h3] at hS
      exact ⟨st2,hS,h4 B a' w' hro h2⟩
     ·cases h1
    cases e with
    |normal=>
     unfold Zc at h1
     simp only at h1
     split at h1 <;> cases h1
    |exit i=>exact other _ h1
    |goto i=>exact other _ h1
    |ret=>exact other _ h1
    |panic ch=>exact other _ h1
    |outgrown=>exact other _ h1
   ·cases h
 unfold Z6 at h
 split at h
 ·rename_i x hx
  rw [hF] at h
  cases hr:Z8 (rounds x) round x with
  |none=>rw [hr] at h;exact (hf h).elim
  |some r=>
   rw [hr] at h
   exact main _ x r hr h a w (Shape.at hU hP hx hro hA)
 ·exact (hf h).elim
theorem Z4H {Hn:Hints U} {L:Code->Prop} {run:(ρ:Type)->ρ->Code->St U->(Exit->St U->ρ)->ρ} (hU:U.Ok) (hP:U.Pure) (hR:Q7E U P Hn.ro Hn.base L run) {b rest:Code} {lb:Nat} (hl:findLabel b lb=some rest) (hL:∀b',b'∈Z3 rest->L b')
  {p:Shape U} {l:Qt U} {F:p.T->Option (ExT l)} {rounds:p.T->Nat} {round:p.T->Option (p.T⊕ExT l)} (hF:∀x,F x=Z8 (rounds x) round x) (heq:∀x,run (Option (p.T⊕ExT l)) none rest (p.enc x) (Z2v (Hn.ro,Hn.base) lb p l)=round x):ZR U P Hn.ro Hn.base b rest (Z6 (Hn.ro,Hn.base) p l F):=by
 intro ρ S fail hf st K h B a w hro hA
 have main:∀(n:Nat) (x:p.T) (r:ExT l),Z8 n round x=some r->S (Q7f l r K)->∀(a:Act) (w:World),B.At (p.enc x) a w->Q55 P b rest (QK B S K) a w:=by
  intro n
  induction n with
  |zero=>intro x r h;cases h
  |succ n ih=>
   intro x r h hS a w hA
   unfold Z8 at h
   have body:∀y,round x=some y->rest.wp P (QK B (λz=>z=some y) (Z2v (Hn.ro,Hn.base) lb p l)) a w:=λy hy=>
    hR rest hL (Option (p.T⊕ExT l)) (λz=>z=some y) none (λh=>by cases h) (p.enc x) (Z2v (Hn.ro,Hn.base) lb p l) ((heq x).trans hy) B a w hro hA
   split at h
   ·rename_i x' hx
    refine Q55.of (wp_mono (body _ hx) λe a' w' ⟨st',h1,h2⟩=>?_)
    have no:∀e,(match Z1S (Hn.ro,Hn.base) l e st' with|some x=>some (Sum.inr x)|none=>none)=some (Sum.inl x':p.T⊕ExT l)->False:=λe h1=>by
     split at h1 <;> cases h1
    cases e with
    |goto i=>
     unfold Z2v at h1
     simp only at h1
     cases hb:Nat.beq i lb with
     |false=>rw [hb] at h1;cases h1
     |true=>
      rw [hb] at h1
      have:=QH hb
      subst this
      simp only [cond_true] at h1
      split at h1
      ·rename_i z hz
       cases h1
       simp only [Z1F,hl]
       exact ih _ r h hS a' w' (Shape.at hU hP hz hro h2)
      ·cases h1
    |exit i=>exact (no _ h1).elim
    |normal=>exact (no _ h1).elim
    |ret=>exact (no _ h1).elim
    |panic ch=>exact (no _ h1).elim
    |outgrown=>exact (no _ h1).elim
   ·rename_i y hx
    cases h
    refine Q55.of (wp_mono (body _ hx) λe a' w' ⟨st',h1,h2⟩=>?_)
    have other:∀e,(match Z1S (Hn.ro,Hn.base) l e st' with|some x=>some (Sum.inr x)|none=>none)=some (Sum.inr r:p.T⊕ExT l)->QK B S K e a' w':=λe h1=>by
     split at h1
     ·rename_i z hz
      cases h1
      obtain ⟨st2,h3,h4⟩:=Z3L hU hP l _ st' _ hz (K:=K)
      rw [h3] at hS
      exact ⟨st2,hS,h4 B a' w' hro h2⟩
     ·cases h1
    cases e with
    |goto i=>
     unfold Z2v at h1
     simp only at h1
     cases hb:Nat.beq i lb with
     |false=>rw [hb] at h1;cases h1
     |true=>
      rw [hb] at h1
      simp only [cond_true] at h1
      split at h1 <;> cases h1
    |exit i=>exact other _ h1
    |normal=>exact other _ h1
    |ret=>exact other _ h1
    |panic ch=>exact other _ h1
    |outgrown=>exact other _ h1
   ·cases h
 unfold Z6 at h
 split at h
 ·rename_i x hx
  rw [hF] at h
  cases hr:Z8 (rounds x) round x with
  |none=>rw [hr] at h;exact (hf h).elim
  |some r=>
   rw [hr] at h
   exact main _ x r hr h a w (Shape.at hU hP hx hro hA)
 ·exact (hf h).elim
theorem ZY {Hn:Hints U} {L:Code->Prop} (hH:Q3c U P Hn L):∀n,Q7E U P Hn.ro Hn.base L (run P Hn n)
 |0=>Z83 hH λcode hL ρ S fail hf st K h=>(hf h).elim
 |n+1=>Z83 hH (ZY hH n)
end Go.Rf
namespace Go.Rf
set_option linter.unusedVariables false
set_option linter.unusedSimpArgs false
variable {U : QV} {P : Program} {c : Cx} {Φ : Nat -> Nat -> Nat -> Prop} {h : Qr U} {nx : Nat} {w : World}
def Z4R (tmps:Array Value):ResultVar->Sem Value
 | .tmp t=>pure (tmps.getD t undef)
 | .cell a t=>do loadVar t (←asAddr (tmps.getD a undef))
theorem Z7X (hU:U.Ok) {st:St U} {a:Act} (hS:SOK U c Φ st a w) {r:ResultVar} {x:V U} (h:Z2l P st.env st.h r=some x):
  ∃v,(Z4R a.tmps r).run P w= .ok v w/\RV U c x v:=by
 unfold Z2l at h
 split at h
 ·rename_i t
  split at h
  ·rename_i x' hx
   cases h
   exact ⟨a.eval (.tmp t),rfl,hS.env t _ hx⟩
  ·cases h
 ·rename_i ad t
  split at h
  ·rename_i s i off g n he hg hn
   split at h
   ·rename_i l hl
    split at h
    ·rename_i x' hx
     cases h
     have hr:=hS.env ad _ he
     obtain ⟨b,o,hL,hp⟩:∃b o,c.L s i=some (b,o)/\a.eval (.tmp ad)= .pointer (some (at_ b (o+off))):=by
      generalize a.eval (.tmp ad)=q at hr ⊢
      cases (show R U c (.ptr s i off) q from hr) with|ptr h0=>exact ⟨_,_,h0,rfl⟩
     obtain ⟨vs,h1,h2,h3⟩:=Qa0 hU hl hS.g hL
     obtain ⟨u,h4,h5⟩:=Z1p (P:=P) hg hn h1 h2 h3 hx
     refine ⟨u,?_,h5⟩
     have e:a.tmps.getD ad undef= .pointer (some (at_ b (o+off))):=hp
     simp only [Z4R,e]
     simpa [asAddr] using h4
    ·cases h
   ·cases h
  ·cases h
theorem Z5e (hU:U.Ok) {st:St U} {a:Act} (hS:SOK U c Φ st a w):∀(rs:List ResultVar) (xs:List (V U)),ZF (rs.map (Z2l P st.env st.h))=some xs->
  ∃vs:List Value,(rs.mapM (Z4R a.tmps):Sem (List Value)).run P w= .ok vs w/\vs.length=xs.length/\∀(k:Nat) x,xs[k]? =some x->∃v,vs[k]? =some v/\RV U c x v
 | [],xs,h=>by simp [ZF] at h;subst h;exact ⟨[],rfl,rfl,λk x hk=>by simp at hk⟩
 |r::rs,xs,h=>by
  rw [List.map_cons] at h
  cases hr:Z2l P st.env st.h r with
  |none=>rw [hr] at h;cases h
  |some x=>
   rw [hr] at h
   unfold ZF at h
   split at h
   ·rename_i ys hy
    cases h
    obtain ⟨v,h1,h2⟩:=Z7X hU hS hr
    obtain ⟨vs,h3,h4,h5⟩:=Z5e hU hS rs ys hy
    refine ⟨v::vs,?_,by simp [h4],λk z hk=>?_⟩
    ·rw [List.mapM_cons]
     simp only [Sem.run_bind,h1,Result.andThen_ok,h3,Sem.run_pure]
    ·cases k with
     |zero=>simp at hk;subst hk;exact ⟨v,rfl,h2⟩
     |succ k=>simp at hk;simpa using h5 k z hk
   ·cases h
theorem Z8q (hU:U.Ok) {st:St U} {a:Act} (hS:SOK U c Φ st a w) {fn:Func} {x:A U} (h:Rf.results P fn st.env st.h=some x):
  ∃v,(Go.results fn a.tmps).run P w= .ok v w/\RA U c x v:=by
 unfold Rf.results at h
 have key:∀xs,ZF (fn.results.toList.map (Z2l P st.env st.h))=some xs->∃vs:List Value,(Go.results fn a.tmps).run P w= .ok (if h:vs.toArray.size=1 then vs.toArray[0] else .tuple vs.toArray) w/\vs.length=xs.length/\
   ∀(k:Nat) x,xs[k]? =some x->∃v,vs[k]? =some v/\RV U c x v:=by
  intro xs hx
  obtain ⟨vs,h1,h2,h3⟩:=Z5e hU hS _ xs hx
  refine ⟨vs,?_,h2,h3⟩
  show (do let vs←fn.results.mapM (Z4R a.tmps);pure (if h:vs.size=1 then vs[0] else .tuple vs):Sem Value).run P w=_
  rw [Array.mapM_eq_mapM_toList]
  simp only [Sem.run_bind,Sem.run_map,h1,Result.andThen_ok,Sem.run_pure]
 split at h
 ·rename_i y hy
  cases h
  obtain ⟨vs,h1,h2,h3⟩:=key _ hy
  match vs,h2 with
  | [v],_=>
   obtain ⟨v',h4,h5⟩:=h3 0 y rfl
   simp at h4;subst h4
   exact ⟨v,by simpa using h1,h5⟩
 ·rename_i l hne hy
  cases h
  obtain ⟨vs,h1,h2,h3⟩:=key _ hy
  have:¬vs.toArray.size=1:=by
   simp only [List.size_toArray]
   rw [h2]
   intro he
   match l,he with
   | [z],_=>exact hne z rfl
  rw [dif_neg this] at h1
  exact ⟨_,h1,vs.toArray,rfl,by simpa using h2,λk x hk=>by simpa using h3 k x hk⟩
 ·cases h
theorem Z8t {as:List (A U)}:∀(i t:Nat) (v:A U),get (Z60 i as) t=some v->∃k,t=i+k/\as[k]? =some v:=by
 induction as with
 |nil=>intro i t v h;cases h
 |cons x as ih=>
  intro i t v h
  unfold Z60 at h
  rw [Z9] at h
  by_cases e:i=t
  ·subst e;simp at h;subst h;exact ⟨0,rfl,rfl⟩
  ·rw [if_neg e] at h
   obtain ⟨k,h1,h2⟩:=ih _ _ _ h
   exact ⟨k+1,by omega,h2⟩
theorem Z81 {Hn:Hints U} {L:Code->Prop} (hH:Q3c U P Hn L) {f:Nat} {fn:Func} {code:Code} (hf:P.funcs[f]? =some fn) (hb:fn.body=some code) (hL:∀b,b∈Z3 code->L b)
    {gos:Nat} {args:List (A U)} {ρ:Type} {fail:ρ} {fin:A U->Qr U->ρ} {S:ρ->Prop} (hS:¬S fail) (h':S (Q6U P Hn fn gos fail fin args h nx)) (hn:args.length<=fn.ntmps) (hrn:Hn.ro<=nx) (hbn:nx<=Hn.base)
    {vs:Array Value} (hg:G U c Φ h w) (hfr:∀s,nx<=s->get h s=none/\∀k,c.L s k=none) (ha:RAs U c args vs.toList):
    Calls P f vs w λe w'=>∃v,e= .returned v/\∃x h' c' Φ',S (fin x h')/\RA U c' x v/\G U c' Φ' h' w'/\Ext U Hn.ro c Φ h nx w c' Φ' h' w':=by
  unfold Q6U at h'
  rw [hb] at h'
  simp only at h'
  have hsz:vs.size=args.length:=by have:=ha.len;simpa using this
  refine calls_of_wp hf hb (wp_mono (ZY hH gos code hL ρ S fail hS _ _ h' { c:=c,Φ:=Φ,h:=h,nx:=nx,ro:=Hn.ro,w:=w,new:=λs hs=>(hfr s hs).2,rw:=hrn} _ w ⟨rfl,hbn⟩ ⟨c,Φ,Nat.le_refl _,⟨?_,rfl,λt v hv=>?_,hg,hfr⟩,Ext.refl⟩) ?_)
  · simp [hsz];omega
  · obtain ⟨k,h1,h2⟩:=Z8t _ _ _ hv
    obtain ⟨u,h3,h4⟩:=ha.at_ k v h2
    simp at h3
    have hlt:k < vs.size:=(Array.getElem?_eq_some_iff.1 h3).1
    have:({ tmps:=vs++Array.replicate (fn.ntmps - vs.size) undef,defers:= []}:Act).eval (.tmp t)=u:=by
      rw [h1,Nat.zero_add]
      simp only [Act.eval]
      rw [Array.getD_eq_getD_getElem?,Array.getElem?_append_left hlt,h3];rfl
    rw [this];exact h4
  · have hend : ∀ (st : St U) (a : Act) (w' : World), S (match Rf.results P fn st.env st.h with | some v =>fin v st.h | none =>fail) -> Q4A.At { c := c, Φ := Φ, h := h, nx := nx, ro := Hn.ro, w := w, new := λs hs =>(hfr s hs).2, rw := hrn } st a w' ->
        a.defers= []/\∃v,(Go.results fn a.tmps).run P w'= .ok v w'/\∃v',(Ending.returned v)= .returned v'/\∃x h' c' Φ',S (fin x h')/\RA U c' x v'/\G U c' Φ' h' w'/\Ext U Hn.ro c Φ h nx w c' Φ' h' w':=by
      intro st a w' hs hA
      obtain ⟨c',Φ',h1,h2,h3⟩:=hA
      split at hs
      · rename_i x hx
        obtain ⟨v,h4,h5⟩:=Z8q hH.u h2 hx
        exact ⟨h2.defers,v,h4,v,rfl,x,st.h,c',Φ',hs,h5,h2.g,h3⟩
      · exact (hS hs).elim
    intro e a w' ⟨st,h1,h2⟩
    cases e with
    |normal=>exact hend st a w' h1 h2
    |ret=>exact hend st a w' h1 h2
    |exit i=>exact (hS h1).elim
    |goto l=>exact (hS h1).elim
    |panic ch=>exact (hS h1).elim
    |outgrown=>exact (hS h1).elim
end Go.Rf
namespace Go.Rf
set_option linter.unusedVariables false
set_option linter.unusedSimpArgs false
variable {U : QV} {P : Program}
abbrev Ts (U:QV):List (Sh U.C)->Type
 | []=>Unit
 |s::r=>s.T U×Ts U r
inductive FK (C:Type) where
 |obj (u:C)
 |map (gk gv:Bool) (ku vu:C)
 |rows (u:C)
abbrev FK.T (U:QV):FK U.C->Type
 | .obj u=>Nat×(Nat->U.D u)
 | .map _ _ ku vu=>Nat×(Nat->List (U.D ku×U.D vu))
 | .rows u=>Nat×(Nat->List (U.D u))
def FK.ent {U:QV}:(k:FK U.C)->k.T U->Ent U
 | .obj u,x=>.fam false u x.1 x.2
 | .map gk gv ku vu,x=>.Q20 gk gv ku vu x.1 x.2
 | .rows u,x=>.Q1a u x.1 x.2
def FK.view {U:QV} (e:Option (Ent U)):(k:FK U.C)->Option (k.T U)
 | .obj u=>match e with
  |some (.fam false v n f)=>match U.eq? v u with
   |some ⟨e⟩=>some (n,e▸f)
   |none=>none
  |_=>none
 | .map gk gv ku vu=>match e with
  |some (.Q20 gk' gv' ku' vu' n g)=>bif Z1T gk gk' && Z1T gv gv' then (match U.eq? ku' ku,U.eq? vu' vu with
   |some ⟨e⟩,some ⟨e'⟩=>some (n,e▸e'▸g)
   |_,_=>none) else none
  |_=>none
 | .rows u=>match e with
  |some (.Q1a v n g)=>match U.eq? v u with
   |some ⟨e⟩=>some (n,e▸g)
   |none=>none
  |_=>none
theorem FK.Qaa {U:QV} {e:Option (Ent U)} {k:FK U.C} {x:k.T U} (h:FK.view e k=some x):e=some (k.ent x):=by
 cases k with
 |obj u=>
  simp only [FK.view] at h
  split at h
  ·split at h
   ·rename_i e _;subst e;cases h;rfl
   ·cases h
  ·cases h
 |rows u=>
  simp only [FK.view] at h
  split at h
  ·split at h
   ·rename_i e _;subst e;cases h;rfl
   ·cases h
  ·cases h
 |map gk gv ku vu=>
  simp only [FK.view] at h
  split at h
  ·rename_i gk' gv' ku' vu' n g
   cases hb:Z1T gk gk' && Z1T gv gv' with
   |false=>rw [hb] at h;cases h
   |true=>
    rw [hb] at h
    simp only [cond_true] at h
    rw [Bool.and_eq_true] at hb
    have e1:gk=gk':=by cases gk <;> cases gk' <;> first|rfl|(have:=hb.1;cases this)
    have e2:gv=gv':=by cases gv <;> cases gv' <;> first|rfl|(have:=hb.2;cases this)
    subst e1;subst e2
    split at h
    ·rename_i e3 e4 _ _
     subst e3
     subst e4
     cases h
     rfl
    ·cases h
  ·cases h
inductive NK (C:Type) where
 |obj (u:C)
 |row (u:C)
 | fam (f : Nat) (k : FK C)
 | tok
abbrev NK.T (U:QV):NK U.C->Type
 | .obj u=>U.D u
 | .row u=>Nat×(Nat->U.D u)
 | .fam _ k=>k.T U
 | .tok=>Unit
abbrev NK.isRow {C:Type}:NK C->Bool
 | .obj _=>false
 | .row _=>true
 | .fam _ _=>true
 | .tok=>true
def NK.ent {U:QV}:(k:NK U.C)->k.T U->Ent U
 | .obj u,x=>.obj (U.enc u x)
 | .row u,x=>.fam true u x.1 x.2
 | .fam _ k,x=>k.ent x
 | .tok,_=>.tok
abbrev HTs (U:QV):List (NK U.C)->Type
 | []=>Unit
 |u::r=>u.T U×HTs U r
structure Ref where
 s:Nat
 i:Nat
 off:Nat
 row:Bool
 ap : Option (Nat × Nat × Nat)
def ZU:(ss:List (Sh U.C))->Ts U ss->Nat->List (V U)
 | [],_,_=>[]
 |s::r,t,p=>Q64 s t.1 p::ZU r t.2 (bif s.Q4S then p+1 else p)
def Z1P (en:Nat->Nat):(ss:List (Sh U.C))->Ts U ss->Nat->List (V U)
 | [],_,_=>[]
 | .Q4H j off m n::r,t,p=>⟨false,[.Q1q (en j) off m n t.1 0]⟩::Z1P en r t.2 p
 |s::r,t,p=>Q64 s t.1 p::Z1P en r t.2 (bif s.Q4S then p+1 else p)
theorem Z8a:∀(ss:List (Sh U.C)) (t:Ts U ss) (k:Nat),ZU ss t k=Z1P (λj=>U.nf+j) ss t k
 | [],_,_=>rfl
 |s::r,t,k=>by
  cases s <;> (unfold ZU Z1P;first|exact congrArg _ (Z8a r t.2 _)|rfl)
def Z1U:(ss:List (Sh U.C))->List (V U)->Option (Ts U ss)
 | [],[]=>some ()
 |s::r,x::xs=>match Q6Y s x,Z1U r xs with
  |some t,some ts=>some (t,ts)
  |_,_=>none
 |_,_=>none
def Q66:List (Sh U.C)->List (V U)->Option (List Ref)
 | [],[]=>some []
 |s::r,x::xs=>match s,x,Q66 r xs with
  | .ptr,⟨false,[.ptr a i off]⟩,some ps=>some (⟨a,i,off,false,none⟩::ps)
  | .ptr,⟨false,[.Q1q a off m n i k]⟩,some ps=>some (⟨a,i,k,false,some (off,m,n)⟩::ps)
  | .row _,⟨false,[.sl a i _]⟩,some ps=>bif Nat.beq i 0 then some (⟨a,0,0,true,none⟩::ps) else none
  | .own _,⟨false,[.isl (.own a) _ _]⟩,some ps=>some (⟨a,0,0,true,none⟩::ps)
  |s,_,some ps=>bif s.Q4S then none else some ps
  |_,_,_=>none
 |_,_=>none
def Z4P (h:Qr U) (s off:Nat):Option ((u:U.C)×Nat×(Nat->U.D u)×List U.S):=
 match get h s with
 |some (.obj cells)=>match cells[off]? with
  |some (.Q1n v n f)=>some ⟨v,n,f,cells⟩
  |_=>none
 |_=>none
def Q8d (h:Qr U) (s i k off m n:Nat) (u:U.C):Option (U.D u):=
 match Z4P h s off with
 |some ⟨v,n',f,_⟩=>bif Nat.beq m (U.size v) && Nat.beq n n' then
   match U.eq? v u with
   |some ⟨e⟩=>bif Nat.beq k 0 then some (e▸f i) else none
   |none=>match U.Q6p v u k with
    |some _=>U.dec u (QM k (U.size u) (U.enc v (f i)))
    |none=>none
   else none
 |none=>none
def Q9h (h:Qr U) (s i k off:Nat) (u:U.C) (y:U.D u):Ent U:=
 match Z4P h s off with
 |some ⟨v,n',f,cells⟩=>match U.eq? v u with
  |some ⟨e⟩=>.obj (Zn off (.Q1n v n' (QA f i (e▸y))) cells)
  |none=>match U.Q6p v u k with
   |some g=>.obj (Zn off (.Q1n v n' (QA f i (g (f i) y))) cells)
   |none=>.dead
 |none=>.dead
def view (h:Qr U) (p:Ref):(k:NK U.C)->Option (k.T U)
 | .obj u=>bif p.row then none else match p.ap with
  |some (off,m,n)=>Q8d h p.s p.i p.off off m n u
  |none=>match get h p.s with
   |some (.fam _ v _ f)=>match U.eq? v u with
    |some ⟨e⟩=>bif Nat.beq p.off 0 then some (e▸f p.i) else none
    |none=>none
   |some (.obj cells)=>U.dec u (QM p.off (U.size u) cells)
   |_=>none
 | .row u=>bif p.row then match get h p.s with
  |some (.fam true v n f)=>match U.eq? v u with
   |some ⟨e⟩=>some (n,e▸f)
   |none=>none
  |_=>none else none
 | .fam g k=>bif p.row && Nat.beq p.s g then k.view (get h p.s) else none
 | .tok=>bif p.row then (match get h p.s with
  |some .tok=>some ()
  |_=>none) else none
def put (h:Qr U) (p:Ref):(k:NK U.C)->k.T U->Ent U
 | .obj u,y=>match p.ap with
  |some (off,_,_)=>Q9h h p.s p.i p.off off u y
  |none=>match get h p.s with
   |some (.fam ct v n f)=>match U.eq? u v with
    |some ⟨e⟩=>.fam ct v n (QA f p.i (e▸y))
    |none=>.dead
   |some (.obj cells)=>.obj (Q1v p.off (U.enc u y) cells)
   |_=>.dead
 | .row u,y=>.fam true u y.1 y.2
 | .fam _ k,y=>k.ent y
 | .tok,_=>.tok
def views:(us:List (NK U.C))->List Ref->Qr U->Option (HTs U us)
 | [],[],_=>some ()
 |u::us,p::ps,h=>match view h p u,views us ps h with
  |some x,some xs=>some (x,xs)
  |_,_=>none
 |_,_,_=>none
def Q5Y:(us:List (NK U.C))->List Ref->HTs U us->Qr U->List (Nat×Ent U)
 |u::us,p::ps,xs,h=>(p.s,put h p u xs.1)::Q5Y us ps xs.2 h
 |_,_,_,_=>[]
def Z4V:List Nat->(us:List (NK U.C))->HTs U us->List (Nat×Ent U)
 |t::ts,u::us,xs=>(t,u.ent xs.1)::Z4V ts us xs.2
 |_,_,_=>[]
def news:(us:List (NK U.C))->HTs U us->Nat->List (Nat×Ent U)
 | [],_,_=>[]
 |u::us,xs,k=>(k,u.ent xs.1)::news us xs.2 (k+1)
def Q3f:(us:List (NK U.C))->HTs U us->Nat->Option ((u:NK U.C)×u.T U)
 | [],_,_=>none
 |u::us,xs,0=>some ⟨u,xs.1⟩
 |u::us,xs,j+1=>Q3f us xs.2 j
theorem Z1D:∀(us:List (NK U.C)) (xs:HTs U us) (j:Nat),j < us.length->∃x,Q3f us xs j=some x/\us[j]? =some x.1
 | [],_,j,h=>by simp at h
 |u::us,xs,0,h=>⟨⟨u,xs.1⟩,rfl,rfl⟩
 |u::us,xs,j+1,h=>by
  obtain ⟨x,h1,h2⟩:=Z1D us xs.2 j (by simpa using h)
  exact ⟨x,h1,by simpa using h2⟩
theorem Z8b:∀(us:List (NK U.C)) (xs:HTs U us) (j:Nat) x,Q3f us xs j=some x->j < us.length/\us[j]? =some x.1
 | [],_,j,x,h=>by cases h
 |u::us,xs,0,x,h=>by cases h;exact ⟨by simp,rfl⟩
 |u::us,xs,j+1,x,h=>by
  obtain ⟨h1,h2⟩:=Z8b us xs.2 j x h
  exact ⟨by simp;exact h1,by simpa using h2⟩
theorem Z6X:∀(us:List (NK U.C)) (xs:HTs U us) (k s:Nat),get (news us xs k) s=if k<=s then (Q3f us xs (s - k)).map λx=>x.1.ent x.2 else none
 | [],_,k,s=>by simp [news,get,Q3f]
 |u::us,xs,k,s=>by
  unfold news
  rw [Z9,Z6X us xs.2 (k+1) s]
  by_cases e:k=s
  ·subst e;simp [Q3f]
  ·rw [if_neg e]
   by_cases hk:k+1<=s
   ·rw [if_pos hk,if_pos (by omega),show s - k=(s - (k+1))+1 by omega];rfl
   ·rw [if_neg hk,if_neg (by omega)]
theorem Z23:∀(ts:List Nat) (us:List (NK U.C)) (xs:HTs U us) (s:Nat) e,get (Z4V ts us xs) s=some e->∃j x,ts[j]? =some s/\Q3f us xs j=some x/\e=x.1.ent x.2
 |t::ts,u::us,xs,s,e,hg=>by
  unfold Z4V at hg
  rw [Z9] at hg
  by_cases he:t=s
  ·rw [if_pos he] at hg;cases hg
   exact ⟨0,⟨u,xs.1⟩,by simp [he],rfl,rfl⟩
  ·rw [if_neg he] at hg
   obtain ⟨j,x,h1,h2,h3⟩:=Z23 ts us xs.2 s e hg
   exact ⟨j+1,x,by simpa using h1,h2,h3⟩
 | [],us,xs,s,e,hg=>by cases us <;> cases hg
 |t::ts,[],xs,s,e,hg=>by cases hg
theorem Z53:∀(ts:List Nat) (us:List (NK U.C)) (xs:HTs U us),ts.length=us.length->(Z4V ts us xs).map (·.1)=ts
 | [],[],xs,_=>rfl
 |t::ts,u::us,xs,hl=>by
  unfold Z4V
  rw [List.map_cons,Z53 ts us xs.2 (by simpa using hl)]
 | [],u::us,xs,hl=>by cases hl
 |t::ts,[],xs,hl=>by cases hl
theorem Z41:∀(us:List (NK U.C)) (xs:HTs U us) (k s:Nat),s∈(news us xs k).map (·.1)↔k<=s/\s < k+us.length
 | [],_,k,s=>by simp [news] <;> omega
 |u::us,xs,k,s=>by
  unfold news
  rw [List.map_cons,List.mem_cons,Z41 us xs.2 (k+1) s,List.length_cons]
  omega
theorem Z45:∀(us:List (NK U.C)) (ps:List Ref) (h:Qr U) (xs:HTs U us),views us ps h=some xs->ps.length=us.length/\∀j x,Q3f us xs j=some x->∃p,ps[j]? =some p/\view h p x.1=some x.2
 | [],[],h,xs,hv=>⟨rfl,λj x hj=>by cases hj⟩
 |u::us,p::ps,h,xs,hv=>by
  unfold views at hv
  split at hv
  ·rename_i x ys h1 h2
   cases hv
   obtain ⟨h3,h4⟩:=Z45 us ps h ys h2
   refine ⟨by simp [h3],λj y hj=>?_⟩
   cases j with
   |zero=>cases hj;exact ⟨p,rfl,h1⟩
   |succ j=>simpa using h4 j y hj
  ·cases hv
 | [],p::ps,h,xs,hv=>by cases hv
 |u::us,[],h,xs,hv=>by cases hv
theorem Z3U:∀(us:List (NK U.C)) (ps:List Ref) (xs:HTs U us) (h:Qr U),ps.length=us.length->(Q5Y us ps xs h).map (·.1)=ps.map (·.s)
 | [],[],xs,h,_=>rfl
 |u::us,p::ps,xs,h,hl=>by
  unfold Q5Y
  rw [List.map_cons,List.map_cons,Z3U us ps xs.2 h (by simpa using hl)]
 | [],p::ps,xs,h,hl=>by cases hl
 |u::us,[],xs,h,hl=>by cases hl
theorem Z7q:∀(us:List (NK U.C)) (ps:List Ref) (xs:HTs U us) (h:Qr U) (s:Nat) e,ps.length=us.length->get (Q5Y us ps xs h) s=some e->
  ∃j p x,ps[j]? =some p/\Q3f us xs j=some x/\p.s=s/\e=put h p x.1 x.2
 | [],[],xs,h,s,e,_,hg=>by cases hg
 |u::us,p::ps,xs,h,s,e,hl,hg=>by
  unfold Q5Y at hg
  rw [Z9] at hg
  by_cases he:p.s=s
  ·rw [if_pos he] at hg;cases hg
   exact ⟨0,p,⟨u,xs.1⟩,rfl,rfl,he,rfl⟩
  ·rw [if_neg he] at hg
   obtain ⟨j,p',x,h1,h2,h3,h4⟩:=Z7q us ps xs.2 h s e (by simpa using hl) hg
   exact ⟨j+1,p',x,by simpa using h1,h2,h3,h4⟩
 | [],p::ps,xs,h,s,e,hl,hg=>by cases hl
 |u::us,[],xs,h,s,e,hl,hg=>by cases hl
def Lof (c:Cx) (p:Ref):Nat->Option (Nat×Nat):=λi=>
 if p.row=true then c.L p.s i else if i=0 then (match p.ap with
  |some (off,m,_)=>(c.L p.s 0).map λq=>(q.1,q.2+off+(p.i*m+p.off))
  |none=>(c.L p.s p.i).map λq=>(q.1,q.2+p.off)) else none
theorem Z15 (hU:U.Ok) (hP:U.Pure) {c d:Cx} (hI:Cx.LeI U c d) {w:World} {b o:Nat} {u:U.C} {x:U.D u} {G:Nat->Nat->Nat->Prop} (h:Pl U c w b o (U.enc u x) G):Pl U d w b o (U.enc u x) G:=
 h.pure hU hP hI (hP u x)
structure Q4l (U:QV) (c:Cx) (Φ:Nat->Nat->Nat->Prop) (h:Qr U) (w:World) (p:Ref) (k:NK U.C) (x:k.T U) (F:Nat->Nat->Prop):Prop where
 here:(get h p.s).isSome
 sub:∀b o,F b o->Φ p.s b o
 is_:∀(d:Cx) (s:Nat),Cx.LeI U c d->(∀i,d.L s i=Lof c p i)->Q1s d w s F (k.ent x)
 back:∀(c' d:Cx) (w':World) (s:Nat) (y:k.T U) (F2:Nat->Nat->Prop),c.Le c'->(p.row=false->(∀i,c'.L p.s i=c.L p.s i)/\∀i,d.L s i=Lof c p i)->(p.row=true->∀i,c'.L p.s i=d.L s i)->Cx.LeI U d c'->Q1s d w' s F2 (k.ent y)->
  Agr (λb o=>Φ p.s b o/\¬F b o) w w'->(∀b o,Φ p.s b o->¬F b o->¬F2 b o)->Q1s c' w' p.s (λb o=>(Φ p.s b o/\¬F b o)\/F2 b o) (put h p k y)
theorem Z9i {h:Qr U} {s off n:Nat} {v:U.C} {f:Nat->U.D v} {cells:List U.S} (ha:Z4P h s off=some ⟨v,n,f,cells⟩):get h s=some (.obj cells)/\cells[off]? =some (.Q1n v n f):=by
 unfold Z4P at ha
 split at ha
 ·rename_i cs he
  split at ha
  ·rename_i v' n' f' hc
   cases ha
   exact ⟨he,hc⟩
  ·cases ha
 ·cases ha
theorem Z5X (hU:U.Ok) (hP:U.Pure) {c:Cx} {Φ:Nat->Nat->Nat->Prop} {h:Qr U} {w:World} {s i k off m n b o:Nat} {u v:U.C} {x:U.D u} {f:Nat->U.D v} {cells:List U.S} (val:U.D u->U.D v) (hg:G U c Φ h w)
  (he:get h s=some (.obj cells)) (hc:cells[off]? =some (.Q1n v n f)) (hm:m=U.size v) (hi:i < n) (hq:c.L s 0=some (b,o)) (hks:k+U.size u<=U.size v)
  (hx:∀(j:Nat) z,(U.enc u x)[j]? =some z->∃y,(U.enc v (f i))[k+j]? =some y/\SLe U y z)
  (hval:∀y (j:Nat) z,(U.enc v (val y))[j]? =some z->∃q,(Q1v k (U.enc u y) (U.enc v (f i)))[j]? =some q/\SLe U q z)
  (hput:∀y,put h ⟨s,i,k,false,some (off,m,n)⟩ (.obj u) y= .obj (Zn off (.Q1n v n (QA f i (val y))) cells)):
  ∃F,Q4l U c Φ h w ⟨s,i,k,false,some (off,m,n)⟩ (.obj u) x F:=by
 subst hm
 obtain ⟨b0,o0,Gk,h0,h1,h2,h3⟩:=hg.Q1M s _ he
 rw [hq] at h0;cases h0
 have hlt:=(List.getElem?_eq_some_iff.1 hc).1
 cases h2.own off _ hc with
 |cell hr _ _ _=>cases hr
 |Q1n Gn hk hd hF=>
 have hbase:i*U.size v+U.size v<=n*U.size v:=by
  have:(i+1)*U.size v<=n*U.size v:=Nat.mul_le_mul_right _ hi
  rwa [Nat.succ_mul] at this
 have hin:∀j,j < U.size u->i*U.size v+k+j < n*U.size v:=λj hj=>by omega
 have hLof:∀i',Lof c ⟨s,i,k,false,some (off,U.size v,n)⟩ i'=if i'=0 then some (b,o+off+(i*U.size v+k)) else none:=λi'=>by
  unfold Lof;simp [hq]
 have hGΦ:∀r b' o',r < n*U.size v->Gn r b' o'->Φ s b' o':=λr b' o' hr hf=>(h3 _ _).2 ⟨off,hlt,(hF _ _).2 ⟨r,hr,hf⟩⟩
 have hflat:∀j,j < U.size v->(flat v n f)[i*U.size v+j]? =(U.enc v (f i))[j]? :=λj hj=>Z1j hU v n f hi hj
 have hP0:Pl U c w b (o+off+(i*U.size v+k)) (U.enc u x) (λj=>Gn (i*U.size v+k+j)):=by
  refine ⟨λj z hz=>?_,λj1 j2 b' o' q1 q2 hne=>hd _ _ b' o' (hin j1 (by rwa [hU.QD] at q1)) (hin j2 (by rwa [hU.QD] at q2)) (by omega)⟩
  have hj:j < U.size u:=by have:=(List.getElem?_eq_some_iff.1 hz).1;rwa [hU.QD] at this
  obtain ⟨y,q1,q2⟩:=hx j z hz
  have:=hk (i*U.size v+(k+j)) y (by rw [hflat _ (by omega)];exact q1)
  rw [show o+off+(i*U.size v+k)+j=o+off+(i*U.size v+(k+j)) by omega,show i*U.size v+k+j=i*U.size v+(k+j) by omega]
  exact this.le q2
 refine ⟨λb' o'=>∃j,j < U.size u/\Gn (i*U.size v+k+j) b' o',⟨by simp [he],λb' o' ⟨j,hj,hf⟩=>hGΦ _ _ _ (hin j hj) hf,λd t hI hLd=>?_,λc' d w' t y F2 hcc hcd _ hI hE2 hA hdis=>?_⟩⟩
 ·refine ⟨b,o+off+(i*U.size v+k),_,by rw [hLd,hLof];rfl,λi' q hq'=>?_,Z15 hU hP hI hP0,λb' o'=>by rw [hU.QD]⟩
  rw [hLd,hLof] at hq'
  by_cases e:i'=0
  ·exact e
  ·rw [if_neg e] at hq';cases hq'
 ·obtain ⟨hLc,hLd⟩:=hcd rfl
  obtain ⟨b2,o2,G2,p1,p2,p3,p4⟩:=hE2
  rw [hLd,hLof] at p1
  simp only [if_true,Option.some.injEq,Prod.mk.injEq] at p1
  obtain ⟨rfl,rfl⟩:=p1
  rw [hput]
  have p3:=Z15 hU hP hI p3
  have hsl:(Zn off (S.Q1n v n (QA f i (val y))) cells).length=cells.length:=by unfold Zn;exact Zo (by simp;omega)
  have hset:∀q,(Zn off (S.Q1n v n (QA f i (val y))) cells)[q]? =if q=off then some (.Q1n v n (QA f i (val y))) else cells[q]? :=λq=>by
   unfold Zn
   by_cases e:q=off
   ·subst e
    rw [if_pos rfl]
    have:=Zw (off:=q) (k:=0) (new:= [S.Q1n v n (QA f i (val y))]) (l:=cells) (by simp;omega) (by simp)
    rw [Nat.add_zero] at this
    rw [this];rfl
   ·rw [if_neg e,Zp (by simp;omega) (by simp;omega)]
  let In:Nat->Prop:=λr=>i*U.size v+k<=r/\r < i*U.size v+k+U.size u
  have p4':∀j b' o',j < U.size u->G2 j b' o'->F2 b' o':=λj b' o' hj hf=>(p4 _ _).2 ⟨j,by rw [hU.QD];exact hj,hf⟩
  have hR:∀r b' o',r < n*U.size v->¬In r->Gn r b' o'->Φ s b' o'/\¬∃j,j < U.size u/\Gn (i*U.size v+k+j) b' o':=λr b' o' hr hn hf=>
   ⟨hGΦ r b' o' hr hf,λ⟨j,hj,hf'⟩=>hd r _ b' o' hr (hin j hj) (λe=>hn ⟨by omega,by omega⟩) hf hf'⟩
  have hRk:∀q b' o',q < cells.length->q≠off->Gk q b' o'->Φ s b' o'/\¬∃j,j < U.size u/\Gn (i*U.size v+k+j) b' o':=λq b' o' hq hne hf=>
   ⟨(h3 _ _).2 ⟨q,hq,hf⟩,λ⟨j,hj,hf'⟩=>h2.dis q off b' o' hq hlt hne hf ((hF _ _).2 ⟨_,hin j hj,hf'⟩)⟩
  let Gn':Nat->Nat->Nat->Prop:=λr b' o'=>(In r/\G2 (r - (i*U.size v+k)) b' o')\/(¬In r/\Gn r b' o')
  have hpos:∀{r},r < n*U.size v->0 < U.size v:=λ{r} hr=>by
   rcases Nat.eq_zero_or_pos (U.size v) with h9|h9
   ·rw [h9] at hr;omega
   ·exact h9
  have hdn:∀j1 j2 b' o',j1 < n*U.size v->j2 < n*U.size v->j1≠j2->Gn' j1 b' o'->¬Gn' j2 b' o':=λj1 j2 b' o' q1 q2 hne f1 f2=>by
   rcases f1 with ⟨a1,f1⟩|⟨a1,f1⟩
   ·rcases f2 with ⟨a2,f2⟩|⟨a2,f2⟩
    ·have a1:i*U.size v+k<=j1/\j1 < i*U.size v+k+U.size u:=a1
     have a2:i*U.size v+k<=j2/\j2 < i*U.size v+k+U.size u:=a2
     exact p3.dis _ _ b' o' (by rw [hU.QD];omega) (by rw [hU.QD];omega) (by omega) f1 f2
    ·have a1:i*U.size v+k<=j1/\j1 < i*U.size v+k+U.size u:=a1
     obtain ⟨r1,r2⟩:=hR j2 b' o' q2 a2 f2
     exact hdis _ _ r1 r2 (p4' _ _ _ (by omega) f1)
   ·rcases f2 with ⟨a2,f2⟩|⟨a2,f2⟩
    ·have a2:i*U.size v+k<=j2/\j2 < i*U.size v+k+U.size u:=a2
     obtain ⟨r1,r2⟩:=hR j1 b' o' q1 a1 f1
     exact hdis _ _ r1 r2 (p4' _ _ _ (by omega) f2)
    ·exact hd j1 j2 b' o' q1 q2 hne f1 f2
  refine ⟨b,o,λq b' o'=>(q=off/\∃r,r < n*U.size v/\Gn' r b' o')\/(q≠off/\Gk q b' o'),by rw [hLc];exact hq,λi' q hq'=>h1 i' q (by rw [←hLc];exact hq'),⟨λq z hz=>?_,λq1 q2 b' o' hq1 hq2 hne f1 f2=>?_⟩,λb' o'=>?_⟩
  ·rw [hset] at hz
   by_cases e:q=off
   ·subst e
    rw [if_pos rfl] at hz;cases hz
    refine Own.iff (F:=λb' o'=>∃r,r < n*U.size v/\Gn' r b' o') (.Q1n Gn' (λr z hz=>?_) hdn λ_ _=>Iff.rfl) λb' o'=>⟨λh=>.inl ⟨rfl,h⟩,λh=>h.elim (λh=>h.2) λh=>absurd rfl h.1⟩
    obtain ⟨i',j,hi',hj,rfl,hz'⟩:=Z2K hU v n _ hz
    have hrlt:=Z1k hi' hj
    by_cases ei:i'=i
    ·subst ei
     simp only [QA,if_true] at hz'
     obtain ⟨q0,hq0,hle⟩:=hval y j z hz'
     have hlen1:k+(U.enc u y).length<=(U.enc v (f i')).length:=by rw [hU.QD,hU.QD];exact hks
     by_cases hj2:k<=j/\j < k+U.size u
     ·obtain ⟨j',rfl⟩:∃j',j=k+j':=⟨j - k,by omega⟩
      rw [Zw hlen1 (by rw [hU.QD];omega)] at hq0
      have:=(p3.own j' q0 hq0).le hle
      have e1:o+q+(i'*U.size v+k)+j'=o+q+(i'*U.size v+(k+j')):=by omega
      rw [e1] at this
      have hIn:In (i'*U.size v+(k+j')):=⟨by omega,by omega⟩
      refine this.iff λb' o'=>⟨λh=>.inl ⟨hIn,by rw [show i'*U.size v+(k+j') - (i'*U.size v+k)=j' by omega];exact h⟩,λh=>h.elim (λh=>by have:=h.2;rwa [show i'*U.size v+(k+j') - (i'*U.size v+k)=j' by omega] at this) λh=>absurd hIn h.1⟩
     ·rw [Zp hlen1 (by rw [hU.QD];omega)] at hq0
      have hn:¬In (i'*U.size v+j):=λh=>hj2 ⟨by have:=h.1;omega,by have:=h.2;omega⟩
      have:=hk (i'*U.size v+j) q0 (by rw [hflat _ hj];exact hq0)
      refine ((this.stays hU hcc (hA.sub λb' o' hf=>hR _ b' o' hrlt hn hf)).le hle).iff λb' o'=>⟨λh=>.inr ⟨hn,h⟩,λh=>h.elim (λh=>absurd h.1 hn) λh=>h.2⟩
    ·simp only [QA,if_neg ei] at hz'
     have hn:¬In (i'*U.size v+j):=λh=>by
      have a1:i*U.size v+k<=i'*U.size v+j:=h.1
      have a2:i'*U.size v+j < i*U.size v+k+U.size u:=h.2
      have hps:=hpos hrlt
      have d1:(i'*U.size v+j) / U.size v=i':=by rw [Nat.add_comm,Nat.add_mul_div_right _ _ hps,Nat.div_eq_of_lt hj];omega
      have d2:(i'*U.size v+j) / U.size v=i:=by
       obtain ⟨j2,e2⟩:∃j2,i'*U.size v+j=i*U.size v+j2:=⟨i'*U.size v+j - i*U.size v,by omega⟩
       rw [e2,Nat.add_comm,Nat.add_mul_div_right _ _ hps,Nat.div_eq_of_lt (by omega)];omega
      exact ei (d1▸d2)
     have:=hk (i'*U.size v+j) z (by rw [Z1j hU v n f hi' hj];exact hz')
     refine (this.stays hU hcc (hA.sub λb' o' hf=>hR _ b' o' hrlt hn hf)).iff λb' o'=>⟨λh=>.inr ⟨hn,h⟩,λh=>h.elim (λh=>absurd h.1 hn) λh=>h.2⟩
   ·rw [if_neg e] at hz
    refine ((h2.own q z hz).stays hU hcc (hA.sub λb' o' hf=>hRk q b' o' (List.getElem?_eq_some_iff.1 hz).1 e hf)).iff λb' o'=>⟨λh=>.inr ⟨e,h⟩,λh=>h.elim (λh=>absurd h.1 e) λh=>h.2⟩
  ·rw [hsl] at hq1 hq2
   have mixed:∀q2,q2 < cells.length->q2≠off->(∃r,r < n*U.size v/\Gn' r b' o')->Gk q2 b' o'->False:=λq2 hq2 hne ⟨r,hr,hf⟩ f2=>by
    rcases hf with ⟨a1,hf⟩|⟨a1,hf⟩
    ·have a1:i*U.size v+k<=r/\r < i*U.size v+k+U.size u:=a1
     obtain ⟨r1,r2⟩:=hRk q2 b' o' hq2 hne f2
     exact hdis _ _ r1 r2 (p4' _ _ _ (by omega) hf)
    ·exact h2.dis off q2 b' o' hlt hq2 (λe=>hne e.symm) ((hF _ _).2 ⟨r,hr,hf⟩) f2
   rcases f1 with ⟨rfl,f1⟩|⟨e1,f1⟩
   ·rcases f2 with ⟨rfl,f2⟩|⟨e2,f2⟩
    ·exact hne rfl
    ·exact mixed q2 hq2 e2 f1 f2
   ·rcases f2 with ⟨rfl,f2⟩|⟨e2,f2⟩
    ·exact mixed q1 hq1 e1 f2 f1
    ·exact h2.dis q1 q2 b' o' hq1 hq2 hne f1 f2
  ·rw [hsl]
   constructor
   ·rintro (⟨q1,q2⟩|q1)
    ·obtain ⟨q,hq,hf⟩:=(h3 _ _).1 q1
     by_cases e:q=off
     ·subst e
      obtain ⟨r,hr,hf⟩:=(hF _ _).1 hf
      refine ⟨q,hlt,.inl ⟨rfl,r,hr,.inr ⟨λhI=>q2 ?_,hf⟩⟩⟩
      have hI:i*U.size v+k<=r/\r < i*U.size v+k+U.size u:=hI
      exact ⟨r - (i*U.size v+k),by omega,by rw [show i*U.size v+k+(r - (i*U.size v+k))=r by omega];exact hf⟩
     ·exact ⟨q,hq,.inr ⟨e,hf⟩⟩
    ·obtain ⟨j,hj,hf⟩:=(p4 _ _).1 q1
     rw [hU.QD] at hj
     exact ⟨off,hlt,.inl ⟨rfl,i*U.size v+k+j,hin j hj,.inl ⟨⟨by omega,by omega⟩,by rw [show i*U.size v+k+j - (i*U.size v+k)=j by omega];exact hf⟩⟩⟩
   ·rintro ⟨q,hq,⟨rfl,r,hr,hf⟩|⟨e,hf⟩⟩
    ·rcases hf with ⟨a1,hf⟩|⟨a1,hf⟩
     ·have a1:i*U.size v+k<=r/\r < i*U.size v+k+U.size u:=a1
      exact .inr (p4' _ _ _ (by omega) hf)
     ·exact .inl (hR r b' o' hr a1 hf)
    ·exact .inl (hRk q b' o' hq e hf)
theorem Z7L (hU:U.Ok) (hP:U.Pure) {c:Cx} {Φ:Nat->Nat->Nat->Prop} {h:Qr U} {w:World} {s i k off m n b o:Nat} {u:U.C} {x:U.D u} (hv:Q8d h s i k off m n u=some x) (hg:G U c Φ h w) (hi:i < n) (hq:c.L s 0=some (b,o)):
  ∃F,Q4l U c Φ h w ⟨s,i,k,false,some (off,m,n)⟩ (.obj u) x F:=by
 unfold Q8d at hv
 split at hv
 ·rename_i v n' f cells ha
  obtain ⟨he,hc⟩:=Z9i ha
  cases hb:Nat.beq m (U.size v) && Nat.beq n n' with
  |false=>simp [hb] at hv
  |true=>
   simp only [hb,cond_true] at hv
   rw [Bool.and_eq_true] at hb
   have hm:=QH hb.1
   have hn:=QH hb.2
   subst hn
   split at hv
   ·rename_i e heq
    subst e
    cases hk:Nat.beq k 0 with
    |false=>simp [hk] at hv
    |true=>
     have:=QH hk
     subst this
     simp [hk] at hv
     subst hv
     refine Z5X hU hP (λy=>y) hg he hc hm hi hq (by omega) (λj z hz=>⟨z,by rw [Nat.zero_add];exact hz,.refl z⟩) (λy j z hz=>⟨z,?_,.refl z⟩) λy=>?_
     ·have hj:=(List.getElem?_eq_some_iff.1 hz).1
      have:=Zw (off:=0) (k:=j) (new:=U.enc v y) (l:=U.enc v (f i)) (by rw [hU.QD,hU.QD];omega) hj
      rw [Nat.zero_add] at this
      rw [this];exact hz
     ·simp only [put,Q9h,ha,heq]
   ·rename_i heq
    split at hv
    ·rename_i g hgf
     obtain ⟨q1,q2⟩:=hU.Q6p v u k g hgf
     refine Z5X hU hP (λy=>g (f i) y) hg he hc hm hi hq q2 (λj z hz=>?_) (λy j z hz=>?_) λy=>?_
     ·have hlen:=hU.Q49 _ _ _ hv
      have hj:j < U.size u:=by have:=(List.getElem?_eq_some_iff.1 hz).1;rwa [hU.QD] at this
      obtain ⟨z',r1,r2⟩:=hU.Qz _ _ _ hv j (QM k (U.size u) (U.enc v (f i)))[j] (List.getElem?_eq_getElem (by omega))
      rw [hz] at r1;cases r1
      exact ⟨_,(ZW (List.getElem?_eq_getElem (by omega))).2,r2⟩
     ·have hlen:=hU.Q49 _ _ _ (q1 (f i) y)
      have hj:j < U.size v:=by have:=(List.getElem?_eq_some_iff.1 hz).1;rwa [hU.QD] at this
      obtain ⟨z',r1,r2⟩:=hU.Qz _ _ _ (q1 (f i) y) j _ (List.getElem?_eq_getElem (by omega))
      rw [hz] at r1;cases r1
      exact ⟨_,List.getElem?_eq_getElem (by omega),r2⟩
     ·simp only [put,Q9h,ha,heq,hgf]
    ·cases hv
 ·cases hv
theorem Z3M (hU : U.Ok) (hP : U.Pure) {c : Cx} {Φ : Nat -> Nat -> Nat -> Prop} {h : Qr U} {w : World} {p : Ref} {k : NK U.C} {x : k.T U} (hv : view h p k = some x) (hg : G U c Φ h w) (hL : p.row = false -> match p.ap with
      |some (_,_,n)=>p.i < n/\∃q,c.L p.s 0=some q
      |none=>∃q,c.L p.s p.i=some q):
    ∃F,Q4l U c Φ h w p k x F:=by
  obtain ⟨s,i,off,row,ap⟩:=p
  cases k with
  |fam g u=>
    unfold view at hv
    cases hb:row && Nat.beq s g with
    |false=>simp [hb] at hv
    |true=>
      simp only [hb,cond_true] at hv
      rw [Bool.and_eq_true] at hb
      obtain ⟨rfl,_⟩:=hb
      have he:=FK.Qaa hv
      have hE:=hg.Q1M s _ he
      have move:∀{c d:Cx} {w:World} {s t:Nat} {F:Nat->Nat->Prop} {x:u.T U},Cx.LeI U c d->(∀i,d.L t i=c.L s i)->Q1s c w s F (u.ent x)->Q1s d w t F (u.ent x):=λ{c d w s t F x} hI hL hE=>by
        cases u with
        |obj u=>
          obtain ⟨A,G,h0,h1,h2,h3,h4,h5⟩:=hE
          exact ⟨A,G,λi hi=>by rw [hL];exact h0 i hi,λi x hx=>h1 i x (by rw [←hL];exact hx),λi hi=>Z15 hU hP hI (h2 i hi),h3,h4,h5⟩
        |map gk gv ku vu=>
          obtain ⟨A,h0,h1,h2,h3,h4⟩:=hE
          refine ⟨A,λi hi=>by rw [hL];exact h0 i hi,λi x hx=>h1 i x (by rw [←hL];exact hx),λi hi=>?_,h3,h4⟩
          obtain ⟨es,cl,q1,q2⟩:=h2 i hi
          exact ⟨es,cl,q1,Q4w.pure hU hP hI q2⟩
        |rows u=>
          obtain ⟨A,E,h0,h1,h2,h3,h4,h5,h6,h7⟩:=hE
          refine ⟨A,E,λr hr=>by rw [hL,hL];exact h0 r hr,λi x hx=>h1 i x (by rw [←hL];exact hx),h2,λr i k y hr hi hx=>?_,h4,h5,h6,h7⟩
          obtain ⟨v,p1,p2⟩:=h3 r i k y hr hi hx
          have hpu:Z1I y=true:=by
            have:=hP u ((x.2 r).getD i (U.dft u))
            rw [List.all_eq_true] at this
            exact this _ (List.mem_of_getElem? hx)
          exact ⟨v,p1,R.pure hP hU hI p2 hpu⟩
      refine ⟨Φ s,⟨by simp [he],λ_ _ h=>h,λd t hI hLd=>move hI (λi=>by rw [hLd];rfl) hE,λc' d w' t y F2 hc _ hLc hI hE2 _ _=>?_⟩⟩
      have e:(λb o=>(Φ s b o/\¬Φ s b o)\/F2 b o)=F2:=by funext b o;exact propext ⟨λh=>h.elim (λh=>absurd h.1 h.2) id,.inr⟩
      show Q1s c' w' s (λb o=>(Φ s b o/\¬Φ s b o)\/F2 b o) _
      rw [e]
      exact move hI (hLc rfl) hE2
  |tok=>
    unfold view at hv
    cases row with
    |false=>simp at hv
    |true=>
      simp only [cond_true] at hv
      split at hv
      · rename_i he
        have hE:=hg.Q1M s _ he
        refine ⟨Φ s,⟨by simp [he],λ_ _ h=>h,λd t hI hLd=>?_,λc' d w' t y F2 hc _ hLc hI hE2 _ _=>?_⟩⟩
        · obtain ⟨b,o,e,h0,h1,h2,h3⟩:=hE
          have hLd:∀i,d.L t i=c.L s i:=λi=>by rw [hLd];rfl
          exact ⟨b,o,e,by rw [hLd];exact h0,by rw [hLd];exact h1,h2,h3⟩
        · obtain ⟨b,o,e,h0,h1,h2,h3⟩:=hE2
          have hLc:∀i,c'.L s i=d.L t i:=hLc rfl
          have e:(λb o=>(Φ s b o/\¬Φ s b o)\/F2 b o)=F2:=by funext b o;exact propext ⟨λh=>h.elim (λh=>absurd h.1 h.2) id,.inr⟩
          show Q1s c' w' s (λb o=>(Φ s b o/\¬Φ s b o)\/F2 b o) _
          rw [e]
          exact ⟨b,o,_,by rw [hLc];exact h0,by rw [hLc];exact h1,h2,h3⟩
      · cases hv
  |row u=>
    unfold view at hv
    cases row with
    |false=>simp at hv
    |true=>
      simp only [cond_true] at hv
      split at hv
      · rename_i v n f he
        split at hv
        · rename_i e heq
          subst e
          cases hv
          have hE:=hg.Q1M s _ he
          refine ⟨Φ s,⟨by simp [he],λ_ _ h=>h,λd t hI hLd=>?_,λc' d w' t y F2 hc _ hLc hI hE2 _ _=>?_⟩⟩
          · obtain ⟨A,G,h0,h1,h2,h3,h4,h5⟩:=hE
            have hLd:∀i,d.L t i=c.L s i:=λi=>by rw [hLd];rfl
            exact ⟨A,G,λi hi=>by rw [hLd];exact h0 i hi,λi x hx=>h1 i x (by rw [←hLd];exact hx),λi hi=>Z15 hU hP hI (h2 i hi),h3,h4,h5⟩
          · obtain ⟨A,G,h0,h1,h2,h3,h4,h5⟩:=hE2
            have hLc:∀i,c'.L s i=d.L t i:=hLc rfl
            have e:(λb o=>(Φ s b o/\¬Φ s b o)\/F2 b o)=F2:=by funext b o;exact propext ⟨λh=>h.elim (λh=>absurd h.1 h.2) id,.inr⟩
            show Q1s c' w' s (λb o=>(Φ s b o/\¬Φ s b o)\/F2 b o) _
            rw [e]
            exact ⟨A,G,λi hi=>by rw [hLc];exact h0 i hi,λi x hx=>h1 i x (by rw [←hLc];exact hx),λi hi=>Z15 hU hP hI (h2 i hi),h3,h4,h5⟩
        · cases hv
      · cases hv
  |obj u=>
    unfold view at hv
    cases row with
    |true=>simp at hv
    |false=>
      simp only [cond_false] at hv
      have hL:=hL rfl
      cases ap with
      |some a=>
        obtain ⟨off',m,n⟩:=a
        simp only at hL hv
        obtain ⟨hi,⟨b,o⟩,hq⟩:=hL
        exact Z7L hU hP hv hg hi hq
      |none=>
      obtain ⟨q,hq⟩:=hL
      obtain ⟨b,o⟩:=q
      simp only at hq hv
      have hLof:∀i',Lof c ⟨s,i,off,false,none⟩ i'=if i'=0 then some (b,o+off) else none:=λi'=>by
        unfold Lof;simp [hq]
      split at hv
      · rename_i ct v n f he
        split at hv
        · rename_i e heq
          subst e
          cases ho:Nat.beq off 0 with
          |false=>simp [ho] at hv
          |true=>
            have:=QH ho
            subst this
            simp [ho] at hv
            subst hv
            have hE:=hg.Q1M s _ he
            obtain ⟨A,G,h0,h1,h2,h3,h4,h5⟩:=hE
            have hi:=h1 i _ hq
            have e1:=h0 i hi
            rw [hq] at e1
            simp only [Option.some.injEq] at e1
            have hPi:=h2 i hi
            rw [←e1] at hPi
            refine ⟨λb' o'=>∃k,k < U.size v/\G i k b' o',⟨by simp [he],λb' o' ⟨k,hk,hf⟩=>(h4 _ _).2 ⟨i,k,hi,hk,hf⟩,λd t hI hLd=>?_,λc' d w' t y F2 hc hcd _ hI hE2 hA hdis=>?_⟩⟩
            · have hLd:∀i',d.L t i'=if i'=0 then some (b,o) else none:=λi'=>by rw [hLd,hLof];rfl
              refine ⟨b,o,G i,by rw [hLd];rfl,λi' x hx=>?_,Z15 hU hP hI hPi,λb' o'=>by rw [hU.QD]⟩
              rw [hLd] at hx
              by_cases e:i'=0
              · exact e
              · rw [if_neg e] at hx;cases hx
            · obtain ⟨hLc,hLd⟩:=hcd rfl
              have hLd:∀i',d.L t i'=if i'=0 then some (b,o) else none:=λi'=>by rw [hLd,hLof];rfl
              obtain ⟨b2,o2,G2,p1,p2,p3,p4⟩:=hE2
              rw [hLd] at p1
              simp only [if_true,Option.some.injEq,Prod.mk.injEq] at p1
              obtain ⟨rfl,rfl⟩:=p1
              have hR:∀j k b' o',j < n->j≠i->k < U.size v->G j k b' o'->Φ s b' o'/\¬∃k,k < U.size v/\G i k b' o':=λj k b' o' hj hne hk hf=>
                ⟨(h4 _ _).2 ⟨j,k,hj,hk,hf⟩,λ⟨k',hk',hf'⟩=>h3 j i k k' b' o' hj hi hk hk' hne hf hf'⟩
              have hput:put h ⟨s,i,0,false,none⟩ (.obj v) y= .fam ct v n (QA f i y):=by
                unfold put
                simp only [he,heq]
              rw [hput]
              refine ⟨A,λj k b' o'=>if j=i then G2 k b' o' else G j k b' o',λj hj=>by rw [hLc];exact h0 j hj,λj x hx=>h1 j x (by rw [←hLc];exact hx),λj hj=>?_,λj l k1 k2 b' o' hj hl hk1 hk2 hne f1 f2=>?_,λb' o'=>?_,h5⟩
              · by_cases e:j=i
                · subst e
                  simp only [QA,if_true]
                  rw [←e1]
                  exact Z15 hU hP hI p3
                · simp only [QA,if_neg e]
                  refine (h2 j hj).stays hU hc λk hk=>hA.sub λb' o' hf=>hR j k b' o' hj e (by rw [←hU.QD v (f j)];exact hk) hf
              · dsimp only at f1 f2
                have p4':∀k b' o',k < U.size v->G2 k b' o'->F2 b' o':=λk b' o' hk hf=>(p4 _ _).2 ⟨k,by rw [hU.QD];exact hk,hf⟩
                by_cases e:j=i
                · subst e
                  rw [if_pos rfl] at f1
                  rw [if_neg (λe=>hne e.symm)] at f2
                  obtain ⟨q1,q2⟩:=hR l k2 b' o' hl (λe=>hne e.symm) hk2 f2
                  exact hdis _ _ q1 q2 (p4' _ _ _ hk1 f1)
                · rw [if_neg e] at f1
                  by_cases e2:l=i
                  · subst e2
                    rw [if_pos rfl] at f2
                    obtain ⟨q1,q2⟩:=hR j k1 b' o' hj e hk1 f1
                    exact hdis _ _ q1 q2 (p4' _ _ _ hk2 f2)
                  · rw [if_neg e2] at f2
                    exact h3 j l k1 k2 b' o' hj hl hk1 hk2 hne f1 f2
              · constructor
                · rintro (⟨q1,q2⟩|q1)
                  · obtain ⟨j,k,hj,hk,hf⟩:=(h4 _ _).1 q1
                    have:j≠i:=λe=>q2 ⟨k,hk,e▸hf⟩
                    exact ⟨j,k,hj,hk,by dsimp only;rw [if_neg this];exact hf⟩
                  · obtain ⟨k,hk,hf⟩:=(p4 _ _).1 q1
                    exact ⟨i,k,hi,by rw [←hU.QD v y];exact hk,by dsimp only;rw [if_pos rfl];exact hf⟩
                · rintro ⟨j,k,hj,hk,hf⟩
                  by_cases e:j=i
                  · rw [if_pos e] at hf
                    exact .inr ((p4 _ _).2 ⟨k,by rw [hU.QD];exact hk,hf⟩)
                  · rw [if_neg e] at hf
                    exact .inl (hR j k b' o' hj e hk hf)
        · cases hv
      · rename_i cells he
        have hE:=hg.Q1M s _ he
        obtain ⟨b',o',G,h0,h1,h2,h3⟩:=hE
        have hi:=h1 i _ hq
        subst hi
        rw [hq] at h0;cases h0
        have hlen:=hU.Q49 _ _ _ hv
        have hsub:=(h2.sub hlen).dec hU hv
        have hcl:∀k,k < U.size u->off+k < cells.length:=λk hk=>by
          have:(QM off (U.size u) cells)[k]? =Option.some (QM off (U.size u) cells)[k]:=List.getElem?_eq_getElem (by omega)
          exact (List.getElem?_eq_some_iff.1 (ZW this).2).1
        refine ⟨λb' o'=>∃k,k < U.size u/\G (off+k) b' o',⟨by simp [he],λb' o' ⟨k,hk,hf⟩=>(h3 _ _).2 ⟨off+k,hcl k hk,hf⟩,λd t hI hLd=>?_,λc' d w' t y F2 hc hcd _ hI hE2 hA hdis=>?_⟩⟩
        · have hLd:∀i',d.L t i'=if i'=0 then Option.some (b,o+off) else none:=λi'=>by rw [hLd,hLof]
          refine ⟨b,o+off,_,by rw [hLd];rfl,λi' x hx=>?_,Z15 hU hP hI hsub,λb' o'=>by rw [hU.QD]⟩
          rw [hLd] at hx
          by_cases e:i'=0
          · exact e
          · rw [if_neg e] at hx;cases hx
        · obtain ⟨hLc,hLd⟩:=hcd rfl
          have hLd:∀i',d.L t i'=if i'=0 then Option.some (b,o+off) else none:=λi'=>by rw [hLd,hLof]
          obtain ⟨b2,o2,G2,p1,p2,p3,p4⟩:=hE2
          rw [hLd] at p1
          simp only [if_true,Option.some.injEq,Prod.mk.injEq] at p1
          obtain ⟨rfl,rfl⟩:=p1
          have hput:put h ⟨s,0,off,false,none⟩ (.obj u) y= .obj (Q1v off (U.enc u y) cells):=by
            unfold put
            simp only [he]
          rw [hput]
          have hnl:(U.enc u y).length=U.size u:=hU.QD u y
          have hle:off+(U.enc u y).length<=cells.length\/U.size u=0:=by
            rcases Nat.eq_zero_or_pos (U.size u) with h6|h6
            · exact .inr h6
            · have:=hcl (U.size u - 1) (by omega);omega
          have hspl:∀k,(Q1v off (U.enc u y) cells)[k]? =if off<=k/\k < off+U.size u then (U.enc u y)[k - off]? else cells[k]? :=λk=>by
            rcases hle with hle|hle
            · by_cases hk:off<=k/\k < off+U.size u
              · rw [if_pos hk]
                obtain ⟨j,rfl⟩:∃j,k=off+j:=⟨k - off,by omega⟩
                rw [Zw hle (by omega)]
                congr 1;omega
              · rw [if_neg hk,Zp hle (by omega)]
            · have hz:U.enc u y= []:=List.eq_nil_of_length_eq_zero (by omega)
              rw [if_neg (by omega),hz]
              simp [Q1v]
          have hsl:(Q1v off (U.enc u y) cells).length=cells.length:=by
            rcases hle with hle|hle
            · exact Zo hle
            · have hz:U.enc u y= []:=List.eq_nil_of_length_eq_zero (by omega)
              rw [hz];simp [Q1v]
          have hR:∀k b' o',k < cells.length->¬(off<=k/\k < off+U.size u)->G k b' o'->Φ s b' o'/\¬∃k,k < U.size u/\G (off+k) b' o':=λk b' o' hk hne hf=>
            ⟨(h3 _ _).2 ⟨k,hk,hf⟩,λ⟨k',hk',hf'⟩=>h2.dis k (off+k') b' o' hk (hcl k' hk') (by omega) hf hf'⟩
          have p4':∀k b' o',k < U.size u->G2 k b' o'->F2 b' o':=λk b' o' hk hf=>(p4 _ _).2 ⟨k,by rw [hU.QD];exact hk,hf⟩
          refine ⟨b,o,λk b' o'=>if off<=k/\k < off+U.size u then G2 (k - off) b' o' else G k b' o',by rw [hLc];exact hq,λi x hx=>h1 i x (by rw [←hLc];exact hx),⟨λk z hk=>?_,λj k b' o' hj hk hne f1 f2=>?_⟩,λb' o'=>?_⟩
          · rw [hspl] at hk
            by_cases hkr:off<=k/\k < off+U.size u
            · rw [if_pos hkr] at hk
              simp only [if_pos hkr]
              have:=(Z15 hU hP hI p3).own (k - off) z hk
              rwa [show o+off+(k - off)=o+k by omega] at this
            · rw [if_neg hkr] at hk
              simp only [if_neg hkr]
              exact (h2.own k z hk).stays hU hc (hA.sub λb' o' hf=>hR k b' o' (List.getElem?_eq_some_iff.1 hk).1 hkr hf)
          · rw [hsl] at hj hk
            by_cases hjr:off<=j/\j < off+U.size u
            · rw [if_pos hjr] at f1
              by_cases hkr:off<=k/\k < off+U.size u
              · rw [if_pos hkr] at f2
                exact p3.dis (j - off) (k - off) b' o' (by omega) (by omega) (by omega) f1 f2
              · rw [if_neg hkr] at f2
                obtain ⟨q1,q2⟩:=hR k b' o' hk hkr f2
                exact hdis _ _ q1 q2 (p4' _ _ _ (by omega) f1)
            · rw [if_neg hjr] at f1
              by_cases hkr:off<=k/\k < off+U.size u
              · rw [if_pos hkr] at f2
                obtain ⟨q1,q2⟩:=hR j b' o' hj hjr f1
                exact hdis _ _ q1 q2 (p4' _ _ _ (by omega) f2)
              · rw [if_neg hkr] at f2
                exact h2.dis j k b' o' hj hk hne f1 f2
          · rw [hsl]
            constructor
            · rintro (⟨q1,q2⟩|q1)
              · obtain ⟨k,hk,hf⟩:=(h3 _ _).1 q1
                have:¬(off<=k/\k < off+U.size u):=λhr=>q2 ⟨k - off,by omega,by rw [show off+(k - off)=k by omega];exact hf⟩
                exact ⟨k,hk,by dsimp only;rw [if_neg this];exact hf⟩
              · obtain ⟨k,hk,hf⟩:=(p4 _ _).1 q1
                rw [hU.QD] at hk
                exact ⟨off+k,hcl k hk,by dsimp only;rw [if_pos ⟨by omega,by omega⟩,show off+k - off=k by omega];exact hf⟩
            · rintro ⟨k,hk,hf⟩
              by_cases hkr:off<=k/\k < off+U.size u
              · rw [if_pos hkr] at hf
                exact .inr (p4' _ _ _ (by omega) hf)
              · rw [if_neg hkr] at hf
                exact .inl (hR k b' o' hk hkr hf)
      · cases hv
end Go.Rf
namespace Go.Rf
set_option linter.unusedVariables false
set_option linter.unusedSimpArgs false
variable {U : QV} {P : Program}
structure RVs (U:QV) (c:Cx) (xs:List (V U)) (vs:List Value):Prop where
 len:vs.length=xs.length
 at_:∀(k:Nat) x,xs[k]? =some x->∃v,vs[k]? =some v/\RV U c x v
theorem RVs.Q44 {c:Cx} {x:V U} {xs:List (V U)} {vs:List Value} (h:RVs U c (x::xs) vs):∃v vs',vs=v::vs'/\RV U c x v/\RVs U c xs vs':=by
 cases vs with
 |nil=>have:=h.len;simp at this
 |cons v vs=>
  obtain ⟨v',h1,h2⟩:=h.at_ 0 x rfl
  simp at h1;subst h1
  exact ⟨v,vs,rfl,h2,by have:=h.len;simpa using this,λk y hk=>by have:=h.at_ (k+1) y (by simpa using hk);simpa using this⟩
theorem RVs.cons {c:Cx} {x:V U} {v:Value} {xs:List (V U)} {vs:List Value} (h:RV U c x v) (hl:RVs U c xs vs):RVs U c (x::xs) (v::vs):=by
 refine ⟨by simp [hl.len],λk y hk=>?_⟩
 cases k with
 |zero=>simp at hk;subst hk;exact ⟨v,rfl,h⟩
 |succ k=>simp at hk;simpa using hl.at_ k y hk
def Q6e (c d:Cx) (ps:List Ref) (k:Nat):Prop:=∀(j:Nat) (p:Ref),ps[j]? =some p->∀i,d.L (k+j) i=Lof c p i
theorem Q6e.tail {c d:Cx} {p:Ref} {ps:List Ref} {k:Nat} (h:Q6e c d (p::ps) k):Q6e c d ps (k+1):=λj q hj i=>by
 have:=h (j+1) q (by simpa using hj) i
 rwa [Nat.add_assoc,Nat.add_comm 1 j]
def Z13 (ps:List Ref):List (Sh U.C)->List (V U)->Bool
 | .Q4H j _ _ _::ss,x::xs=>(match x,ps[j]? with
  |⟨false,[.Q1q s _ _ _ _ _]⟩,some p=>Nat.beq p.s s && Nat.beq p.i 0 && Nat.beq p.off 0 && !p.row && p.ap.isNone
  |_,_=>false) && Z13 ps ss xs
 |_::ss,_::xs=>Z13 ps ss xs
 |_,_=>true
def Z24:List (Sh U.C)->List Nat
 | []=>[]
 | .Q4H j _ _ _::r=>j::Z24 r
 |_::r=>Z24 r
theorem Z1q {s:Sh U.C} {ss:List (Sh U.C)} {j:Nat} (h:j∈Z24 ss):j∈Z24 (s::ss):=by
 cases s <;> first|exact h|exact List.mem_cons_of_mem _ h
def Q91 (c:Cx) (p:Ref):Prop:=match p.ap with
 |some (_,_,n)=>p.i < n/\∃q,c.L p.s 0=some q
 |none=>∃q,c.L p.s p.i=some q
theorem Z1H (hP:U.Pure) (hU:U.Ok) {c d:Cx} (hI:Cx.LeI U c d) {pa:List Ref} {en:Nat->Nat}:∀(ss:List (Sh U.C)) (xs:List (V U)) (t:Ts U ss) (ps:List Ref) (vs:List Value) (k:Nat),Z1U ss xs=some t->Q66 ss xs=some ps->Z13 pa ss xs=true->(∀(j:Nat) (s:Nat),j∈Z24 ss->pa[j]? =some ⟨s,0,0,false,none⟩->∀q,c.L s 0=some q->d.L (en j) 0=some q)->
  RVs U c xs vs->Q6e c d ps k->RVs U d (Z1P en ss t k) vs/\∀(j:Nat) (p:Ref),ps[j]? =some p->p.row=false->Q91 c p
 | [],[],t,ps,vs,k,hd,hp,hel,hpa,hr,hm=>by
  cases hp
  exact ⟨⟨by have:=hr.len;simpa [Z1P] using this,λk x hk=>by simp [Z1P] at hk⟩,λj p hj=>by simp at hj⟩
 |s::ss,x::xs,t,ps,vs,k,hd,hp,hel,hpa,hr,hm=>by
  unfold Z1U at hd
  split at hd
  ·rename_i t1 t2 h1 h2
   cases hd
   obtain ⟨v,vs',rfl,hr1,hr2⟩:=hr.Q44
   unfold Q66 at hp
   split at hp
   ·rename_i a i off ps' hps _
    have hel2:Z13 pa ss xs=true:=hel
    cases hp
    obtain ⟨b,o,hL,rfl⟩:∃b o,c.L a i=some (b,o)/\v= .pointer (some (Rf.at_ b (o+off))):=by
     cases (show R U c (.ptr a i off) v from hr1) with|ptr h0=>exact ⟨_,_,h0,rfl⟩
    obtain ⟨h3,h4⟩:=Z1H hP hU hI ss xs t2 ps' vs' (k+1) h2 hps hel2 (λj s hj=>hpa j s (Z1q hj)) hr2 hm.tail
    refine ⟨.cons ?_ h3,λj p hj hp=>?_⟩
    ·have:=hm 0 _ rfl 0
     show R U d (.ptr k 0 0) _
     refine .ptr (o:=o+off) ?_
     rw [Nat.add_zero] at this
     rw [this];simp [Lof,hL]
    ·cases j with
     |zero=>simp at hj;subst hj;exact ⟨_,hL⟩
     |succ j=>simp at hj;exact h4 j p hj hp
   ·rename_i a off m n i kk ps' hps _
    have hel2:Z13 pa ss xs=true:=hel
    cases hp
    obtain ⟨b,o,hin,hL,rfl⟩:∃b o,i < n/\c.L a 0=some (b,o)/\v= .pointer (some (Rf.at_ b (o+off+(i*m+kk)))):=by
     cases (show R U c (.Q1q a off m n i kk) v from hr1) with|Q1q hi h0=>exact ⟨_,_,hi,h0,rfl⟩
    obtain ⟨h3,h4⟩:=Z1H hP hU hI ss xs t2 ps' vs' (k+1) h2 hps hel2 (λj s hj=>hpa j s (Z1q hj)) hr2 hm.tail
    refine ⟨.cons ?_ h3,λj p hj hp=>?_⟩
    ·have:=hm 0 _ rfl 0
     show R U d (.ptr k 0 0) _
     refine .ptr (o:=o+off+(i*m+kk)) ?_
     rw [Nat.add_zero] at this
     rw [this];simp [Lof,hL]
    ·cases j with
     |zero=>simp at hj;subst hj;exact ⟨hin,_,hL⟩
     |succ j=>simp at hj;exact h4 j p hj hp
   ·rename_i u a i n ps' hps _
    have hel2:Z13 pa ss xs=true:=hel
    cases hb:Nat.beq i 0 with
    |false=>rw [hb] at hp;cases hp
    |true=>
     rw [hb] at hp
     have:=QH hb
     subst this
     cases hp
     obtain ⟨h3,h4⟩:=Z1H hP hU hI ss xs t2 ps' vs' (k+1) h2 hps hel2 (λj s hj=>hpa j s (Z1q hj)) hr2 hm.tail
     have hm0:∀i,d.L k i=c.L a i:=λi=>by
      have:=hm 0 _ rfl i
      rw [Nat.add_zero] at this
      rw [this];simp [Lof]
     refine ⟨.cons ?_ h3,λj p hj hp=>?_⟩
     ·have e1:t1=n:=by
       simp only [Q6Y,hb,cond_true,Option.some.injEq] at h1
       exact h1.symm
      subst e1
      show R U d (.sl k 0 t1) v
      cases (show R U c (.sl a 0 t1) v from hr1) with
      |sl hc ha hl=>exact .sl hc (λhn=>by rw [hm0];exact ha hn) (λj hj=>by rw [hm0];exact hl j hj)
     ·cases j with
      |zero=>simp at hj;subst hj;cases hp
      |succ j=>simp at hj;exact h4 j p hj hp
   ·rename_i u a v0 xs0 ps' hps _
    have hel2:Z13 pa ss xs=true:=hel
    cases hp
    obtain ⟨h3,h4⟩:=Z1H hP hU hI ss xs t2 ps' vs' (k+1) h2 hps hel2 (λj s hj=>hpa j s (Z1q hj)) hr2 hm.tail
    have hm0:∀i,d.L k i=c.L a i:=λi=>by
     have:=hm 0 _ rfl i
     rw [Nat.add_zero] at this
     rw [this];simp [Lof]
    refine ⟨.cons ?_ h3,λj p hj hp=>?_⟩
    ·simp only [Q6Y] at h1
     split at h1
     ·rename_i e _
      subst e
      cases h1
      show R U d (.isl (.own k) v0 xs0) v
      cases (show R U c (.isl (.own a) v0 xs0) v from hr1) with
      | @isl _ _ _ aa cap b o g hc ht ha hi hrr=>
       refine .isl g hc ?_ ha (λi k' q1 q2=>hI.I _ _ _ (hi i k' q1 q2)) λi k' q1 q2=>?_
       ·obtain ⟨b',o',e',t1,t2,t3⟩:=ht
        exact ⟨b',o',e',by rw [hm0];exact t1,by rw [hm0];exact t2,t3⟩
       ·exact R.pure hP hU hI (hrr i k' q1 q2) (Z4J hU hP _ _ _ q2)
     ·cases h1
    ·cases j with
     |zero=>simp at hj;subst hj;cases hp
     |succ j=>simp at hj;exact h4 j p hj hp
   ·rename_i s0 x0 _ _ _ ps' hn1 hn2 hn3 hn4 hps _
    cases hs:s0.Q4S with
    |true=>rw [hs] at hp;cases hp
    |false=>
     rw [hs] at hp
     cases hp
     cases he:s0.Q5w with
     |false=>
      have hel2:Z13 pa ss xs=true:=by cases s0 <;> first|exact hel|cases he
      obtain ⟨h3,h4⟩:=Z1H hP hU hI ss xs t2 _ vs' k h2 hps hel2 (λj s hj=>hpa j s (Z1q hj)) hr2 hm
      refine ⟨?_,h4⟩
      have h9:=Z6n (p:=k) hP hU hI h1 hs he hr1
      cases s0 <;> first|(cases hs;done)|(cases he;done)|exact .cons h9 h3
     |true=>
      cases s0 with
      |Q4H j off m n=>
       unfold Z13 at hel
       rw [Bool.and_eq_true] at hel
       obtain ⟨hel1,hel2⟩:=hel
       obtain ⟨h3,h4⟩:=Z1H hP hU hI ss xs t2 _ vs' k h2 hps hel2 (λj s hj=>hpa j s (Z1q hj)) hr2 hm
       refine ⟨.cons ?_ h3,h4⟩
       split at hel1
       ·rename_i a' off' m' n' i' k' p hp
        simp only [Bool.and_eq_true] at hel1
        obtain ⟨⟨⟨⟨q1,q2⟩,q3⟩,q4⟩,q5⟩:=hel1
        simp only [Q6Y] at h1
        cases hb:Nat.beq off off' && Nat.beq m m' && Nat.beq n n' && Nat.beq k' 0 with
        |false=>simp [hb] at h1
        |true=>
         simp [hb] at h1
         subst h1
         simp only [Bool.and_eq_true] at hb
         obtain ⟨⟨⟨r1,r2⟩,r3⟩,r4⟩:=hb
         have r1:=QH r1
         have r2:=QH r2
         have r3:=QH r3
         have r4:=QH r4
         subst r1;subst r2;subst r3;subst r4
         obtain ⟨ps0,pi,po,pr,pap⟩:=p
         have e1:ps0=a':=QH q1
         have e2:pi=0:=QH q2
         have e3:po=0:=QH q3
         subst e1;subst e2;subst e3
         cases pr with
         |true=>cases q4
         |false=>
         cases pap with
         |some x=>cases q5
         |none=>
         show R U d (.Q1q (en j) off m n i' 0) v
         cases (show R U c (.Q1q ps0 off m n i' 0) v from hr1) with
         |Q1q hi h0=>
          exact .Q1q hi (hpa j _ (List.mem_cons_self ..) hp _ h0)
       ·cases hel1
      |_=>cases he
   ·cases hp
  ·cases hd
 | [],x::xs,t,ps,vs,k,hd,hp,hel,hpa,hr,hm=>by cases hd
 |s::ss,[],t,ps,vs,k,hd,hp,hel,hpa,hr,hm=>by cases hd
theorem Q6e.elems {c d:Cx} {pa:List Ref} {k:Nat} (h:Q6e c d pa k) (j s:Nat) (hj:pa[j]? =some ⟨s,0,0,false,none⟩) (q:Nat×Nat) (hq:c.L s 0=some q):d.L (k+j) 0=some q:=by
 rw [h j _ hj 0]
 simp [Lof,hq]
end Go.Rf
namespace Go.Rf
set_option linter.unusedVariables false
set_option linter.unusedSimpArgs false
variable {U : QV} {P : Program}
structure Sig (U:QV) where
 Q3W:List (Sh U.C)
 heap : List (NK U.C)
 ro : Nat := 0
 Q3r:List (Sh U.C)
 tup:Bool
 new : List (NK U.C)
abbrev Sig.F (g:Sig U):Type:=Ts U g.Q3W->HTs U g.heap->Option (Ts U g.Q3r×HTs U (g.heap.drop g.ro)×HTs U g.new)
def unA:List (A U)->Option (List (V U))
 | []=>some []
 | .v x::r=>match unA r with
  |some l=>some (x::l)
  |none=>none
 |_=>none
def Q83 (tup:Bool) (vs:List (V U)):A U:=
 match tup,vs with
 |false,[v]=>.v v
 |_,vs=>.t vs
def Z38 (tup:Bool) (x:A U):Option (List (V U)):=
 match tup,x with
 |false,.v v=>some [v]
 |true,.t vs=>some vs
 |_,_=>none
def distinct:List Nat->Bool
 | []=>true
 |x::r=>!mem x r && distinct r
def ZH:List (NK U.C)->Nat->List Nat
 | [],_=>[]
 | .fam f _::r,k=>f::ZH r k
 | .obj _::r,k=>k::ZH r (k+1)
 | .row _::r,k=>k::ZH r (k+1)
 | .tok::r,k=>k::ZH r (k+1)
def Q46:List (NK U.C)->Nat
 | []=>0
 | .fam _ _::r=>Q46 r
 | .obj _::r=>Q46 r+1
 | .row _::r=>Q46 r+1
 | .tok::r=>Q46 r+1
def Z10:List (NK U.C)->List Ref->Option (List Ref)
 | [],[]=>some []
 | .fam f _::r,ps=>match Z10 r ps with
  |some l=>some (⟨f,0,0,true,none⟩::l)
  |none=>none
 | .obj _::r,p::ps=>match Z10 r ps with
  |some l=>some (p::l)
  |none=>none
 | .row _::r,p::ps=>match Z10 r ps with
  |some l=>some (p::l)
  |none=>none
 | .tok::r,p::ps=>match Z10 r ps with
  |some l=>some (p::l)
  |none=>none
 |_,_=>none
def Z2w (n:Nat):List (NK U.C)->Bool
 | []=>true
 | .fam f _::r=>Nat.blt f n && Z2w n r
 |_::r=>Z2w n r
def Z22:List Nat->List (NK U.C)->List Ref
 |s::ns,u::us=>⟨s,0,0,u.isRow,none⟩::Z22 ns us
 |_,_=>[]
def Sig.nms (g:Sig U):List Nat:=ZH g.heap U.nf
def Sig.base (g:Sig U):Nat:=U.nf+Q46 g.heap
def Sig.roN (g:Sig U):Nat:=bif Nat.beq g.ro 0 then 0 else g.base
def Sig.Q6X (g:Sig U):Bool:=distinct g.nms && Z2w U.nf g.heap && (Nat.beq g.ro 0||Nat.beq g.ro g.heap.length)
def Z1d:List (NK U.C)->Nat->List Ref
 | [],_=>[]
 | .fam _ _::r,k=>Z1d r k
 | .obj _::r,k=>⟨k,0,0,false,none⟩::Z1d r (k+1)
 | .row _::r,k=>⟨k,0,0,true,none⟩::Z1d r (k+1)
 | .tok::r,k=>⟨k,0,0,true,none⟩::Z1d r (k+1)
def Z6C (p:Option Ref):Bool:=match p with
 |some p=>Nat.beq p.i 0 && Nat.beq p.off 0 && !p.row && p.ap.isNone
 |none=>false
def Z2A (prs:List Ref):List (Sh U.C)->Bool
 | .Q4H j _ _ _::r=>Z6C prs[j]? && Z2A prs r
 |_::r=>Z2A prs r
 | []=>true
def Z4l (prs:List Ref) (j:Nat):Nat:=match prs[j]? with
 |some p=>p.s
 |none=>0
def Sig.start (g:Sig U) (xs:HTs U g.heap):Qr U:=Z4V g.nms g.heap xs
def Z3g (m:Nat) (ps:List Ref):Bool:=ps.all (λp=>Nat.ble m p.s && Nat.beq p.i 0 && Nat.beq p.off 0 && p.ap.isNone) && distinct (ps.map (·.s))
def Sig.Q5S (g:Sig U) (prs ps:List Ref) (h:Qr U) (nx:Nat) (r:Ts U g.Q3r×HTs U (g.heap.drop g.ro)×HTs U g.new):Out U:=
 { v:=Q83 g.tup (Z1P (Z4l prs) g.Q3r r.1 nx),rd:=ps.map (·.s),w:=news g.new r.2.2 nx++Q5Y (g.heap.drop g.ro) (ps.drop g.ro) r.2.1 h,nw:=g.new.length}
def Sig.Q4O (g:Sig U) (F:g.F):Native U:=λas h nx=>
 match unA as with
 |some vs=>match Z1U g.Q3W vs,Q66 g.Q3W vs with
  |some a,some prs=>match Z10 g.heap prs with
   |some ps=>match views g.heap ps h with
    |some xs=>bif distinct (ps.map (·.s)) && Z13 prs g.Q3W vs && Nat.ble U.nf nx && Z2A prs g.Q3r then .opt _ (F a xs) (g.Q5S prs ps h nx) else .fail
    |none=>.fail
   |none=>.fail
  |_,_=>.fail
 |none=>.fail
def Z1r:List (NK U.C)->List Ref->List (Nat×U.C)
 | .obj u::us,p::ps=>bif Nat.blt p.s U.nf||U.plain u||p.ap.isSome|| !Nat.beq p.off 0|| !Nat.beq p.i 0 then Z1r us ps else (p.s,u)::Z1r us ps
 | .row _::us,_::ps=>Z1r us ps
 | .tok::us,_::ps=>Z1r us ps
 | .fam _ _::us,_::ps=>Z1r us ps
 |_,_=>[]
def Sig.Q6b (g:Sig U) (as:List (A U)):List (Nat×U.C):=
 match unA as with
 |some vs=>match Q66 g.Q3W vs with
  |some prs=>match Z10 g.heap prs with
   |some ps=>Z1r g.heap ps
   |none=>[]
  |none=>[]
 |none=>[]
def Sig.Q5V (g:Sig U) (F:g.F):Native U:=λas h nx=>
 match Q4q (g.Q6b as) h with
 | []=>g.Q4O F as h nx
 |l=>(g.Q4O F as (ZC l h++h) nx).Q8U (ZC l h) (Z4p l h)
def Z3w:List (Sh U.C)->List (V U)->Nat->Option (Nat×Nat×Option Nat)
 | .ptr::_,⟨false,[.ref f x]⟩::_,k=>some (k,f,x)
 |_::ss,_::xs,k=>Z3w ss xs (k+1)
 |_,_,_=>none
def Z1a (as:List (A U)) (k f i:Nat):List (A U):=as.set k (sc (.ptr f i 0))
def Sig.Q7u (g:Sig U) (as:List (A U)):List Ref:=
 match unA as with
 |some vs=>match Q66 g.Q3W vs with
  |some prs=>prs
  |none=>[]
 |none=>[]
def Sig.Q9u (g:Sig U) (as:List (A U)):List Ref:=
 match Z10 g.heap (g.Q7u as) with
 |some ps=>ps
 |none=>[]
def Sig.Q9t (g:Sig U) (F:g.F) (as:List (A U)) (h:Qr U) (nx:Nat):Option (Ts U g.Q3r×HTs U (g.heap.drop g.ro)×HTs U g.new):=
 match unA as with
 |some vs=>match Z1U g.Q3W vs,Q66 g.Q3W vs with
  |some a,some prs=>match Z10 g.heap prs with
   |some ps=>match views g.heap ps h with
    |some xs=>bif distinct (ps.map (·.s)) && Z13 prs g.Q3W vs && Nat.ble U.nf nx && Z2A prs g.Q3r then F a xs else none
    |none=>none
   |none=>none
  |_,_=>none
 |none=>none
def Sig.native (g:Sig U) (F:g.F):Native U:=λas h nx=>
 match unA as with
 |some vs=>match Z3w g.Q3W vs 0 with
  |none=>g.Q5V F as h nx
  |some (k,f,x)=>match Z3w g.Q3W (vs.set k ⟨false,[.ptr f 0 0]⟩) 0 with
   |none=>.opt (Nat×(Ts U g.Q3r×HTs U (g.heap.drop g.ro)×HTs U g.new)) (match x with
     |some i=>(match g.Q9t F (Z1a as k f i) h nx with
      |some r=>some (i,r)
      |none=>none)
     |none=>none) λq=>g.Q5S (g.Q7u (Z1a as k f q.1)) (g.Q9u (Z1a as k f q.1)) h nx q.2
   |some (k2,f2,x2)=>.opt (Nat×Nat×(Ts U g.Q3r×HTs U (g.heap.drop g.ro)×HTs U g.new)) (match x with
     |some i=>(match x2 with
      |some i2=>(match g.Q9t F (Z1a (Z1a as k f i) k2 f2 i2) h nx with
       |some r=>some (i,i2,r)
       |none=>none)
      |none=>none)
     |none=>none) λq=>g.Q5S (g.Q7u (Z1a (Z1a as k f q.1) k2 f2 q.2.1)) (g.Q9u (Z1a (Z1a as k f q.1) k2 f2 q.2.1)) h nx q.2.2
 |none=>.fail
def Sig.Q7Y (g:Sig U) (x:A U) (h:Qr U):Option (Ts U g.Q3r×HTs U (g.heap.drop g.ro)×HTs U g.new):=
 match Z38 g.tup x with
 |some vs=>match Z1U g.Q3r vs,Q66 g.Q3r vs,views (g.heap.drop g.ro) ((Z22 g.nms g.heap).drop g.ro) h with
  |some r,some ps,some y=>match views g.new ps h with
   |some z=>bif Z3g g.base ps && Z13 (Z1d g.heap U.nf) g.Q3r vs then some (r,y,z) else none
   |none=>none
  |_,_,_=>none
 |none=>none
def Z2h:List (Sh U.C)->List (V U)->Nat->Option (Nat×Nat×Nat)
 | .ref f::ss,⟨false,[.ptr s i off]⟩::vs,k=>bif Nat.beq s f then Z2h ss vs (k+1) else bif Nat.beq i 0 && Nat.beq off 0 then some (k,f,s) else none
 |_::ss,_::vs,k=>Z2h ss vs (k+1)
 |_,_,_=>none
def Z68:List (NK U.C)->Nat->Option U.C
 | .fam f (.obj u)::r,g=>bif Nat.beq f g then some u else Z68 r g
 |_::r,g=>Z68 r g
 | [],_=>none
def Sig.QaO (g:Sig U) (x:A U):List (Nat×U.C):=
 match Z38 g.tup x with
 |some vs=>match Z2h g.Q3r vs 0 with
  |some (_,f,s)=>match Z68 g.heap f with
   |some u=>[(s,u)]
   |none=>[]
  |none=>[]
 |none=>[]
def Sig.Q8C (g:Sig U) (x:A U) (h:Qr U):Option (A U×List (Nat×Ent U)):=
 match Z38 g.tup x with
 |some vs=>match Z2h g.Q3r vs 0 with
  |some (k,f,s)=>match get h s,get h f with
   |some (.obj cells),some (.fam false v n gg)=>match U.dec v cells with
    |some y=>bif Nat.blt f U.nf && !Nat.beq s f then some (Q83 g.tup (vs.set k ⟨false,[.ptr f n 0]⟩),[(f,.fam false v (n+1) (QA gg n y)),(s,.dead)]) else none
    |none=>none
   |_,_=>none
  |none=>none
 |none=>none
def Sig.ends (g:Sig U) (x:A U):List (Nat×U.C):=
 Z1r (g.heap.drop g.ro) ((Z22 g.nms g.heap).drop g.ro)++(match Z38 g.tup x with
  |some vs=>match Q66 g.Q3r vs with
   |some ps=>Z1r g.new ps
   |none=>[]
  |none=>[])++g.QaO x
def Sig.Q9n (g:Sig U) (x:A U) (h:Qr U):Option (Ts U g.Q3r×HTs U (g.heap.drop g.ro)×HTs U g.new):=
 match g.Q8C x h with
 |some (x',es)=>bif Q4U g.roN es then g.Q7Y x' (es++h) else none
 |none=>g.Q7Y x h
def Sig.fin (g:Sig U) (x:A U) (h:Qr U):Option (Ts U g.Q3r×HTs U (g.heap.drop g.ro)×HTs U g.new):=
 match Q4q (g.ends x) h with
 | []=>g.Q9n x h
 |l=>bif Q4U g.roN (ZC l h) then g.Q9n x (ZC l h++h) else none
def Sig.args (g:Sig U) (a:Ts U g.Q3W):List (A U):=(ZU g.Q3W a U.nf).map .v
theorem Z3o:∀(us:List (NK U.C)) (k:Nat),(ZH us k).length=us.length
 | [],_=>rfl
 | .fam f _::r,k=>by simp [ZH,Z3o r k]
 | .obj _::r,k=>by simp [ZH,Z3o r (k+1)]
 | .row _::r,k=>by simp [ZH,Z3o r (k+1)]
 | .tok::r,k=>by simp [ZH,Z3o r (k+1)]
theorem Z3H {n:Nat}:∀(us:List (NK U.C)) (k:Nat) (j s:Nat),Z2w n us=true->n<=k->(ZH us k)[j]? =some s->s < k+Q46 us
 | [],_,j,s,_,_,h=>by simp [ZH] at h
 | .fam f _::r,k,j,s,hf,hk,h=>by
  unfold Z2w at hf
  rw [Bool.and_eq_true] at hf
  cases j with
  |zero=>simp [ZH] at h;subst h;have:=Nat.le_of_ble_eq_true (show Nat.ble (f+1) n=true from hf.1);show f < k+Q46 r;omega
  |succ j=>exact Z3H r k j s hf.2 hk (by simpa [ZH] using h)
 | .obj _::r,k,j,s,hf,hk,h=>by
  cases j with
  |zero=>simp [ZH] at h;subst h;show k < k+(Q46 r+1);omega
  |succ j=>have:=Z3H r (k+1) j s hf (by omega) (by simpa [ZH] using h);show s < k+(Q46 r+1);omega
 | .row _::r,k,j,s,hf,hk,h=>by
  cases j with
  |zero=>simp [ZH] at h;subst h;show k < k+(Q46 r+1);omega
  |succ j=>have:=Z3H r (k+1) j s hf (by omega) (by simpa [ZH] using h);show s < k+(Q46 r+1);omega
 | .tok::r,k,j,s,hf,hk,h=>by
  cases j with
  |zero=>simp [ZH] at h;subst h;show k < k+(Q46 r+1);omega
  |succ j=>have:=Z3H r (k+1) j s hf (by omega) (by simpa [ZH] using h);show s < k+(Q46 r+1);omega
theorem Z3F {c d:Cx} {n:Nat}:∀(us:List (NK U.C)) (prs ps:List Ref) (k:Nat),Z2w n us=true->Z10 us prs=some ps->Q6e c d prs k->(∀f,f < n->∀i,d.L f i=c.L f i)->prs.length=Q46 us/\ps.length=us.length/\
  ∀(j:Nat) (p:Ref),ps[j]? =some p->∃s,(ZH us k)[j]? =some s/\(∀i,d.L s i=Lof c p i)/\((p∈prs/\k<=s)\/(∃f u,us[j]? =some (.fam f u)/\p=⟨f,0,0,true,none⟩/\s=f/\f < n))
 | [],[],ps,k,hf,h,hm,hn=>by cases h;exact ⟨rfl,rfl,λj p hj=>by simp at hj⟩
 | [],p::prs,ps,k,hf,h,hm,hn=>by cases h
 | .fam f u::r,prs,ps,k,hf,h,hm,hn=>by
  unfold Z2w at hf
  rw [Bool.and_eq_true] at hf
  have hlt:f < n:=Nat.le_of_ble_eq_true (show Nat.ble (f+1) n=true from hf.1)
  unfold Z10 at h
  split at h
  ·rename_i l hl
   cases h
   obtain ⟨h1,h2,h3⟩:=Z3F r prs l k hf.2 hl hm hn
   refine ⟨h1,by simp [h2],λj p hj=>?_⟩
   cases j with
   |zero=>
    simp at hj;subst hj
    exact ⟨f,rfl,λi=>by rw [hn f hlt];simp [Lof],.inr ⟨f,u,rfl,rfl,rfl,hlt⟩⟩
   |succ j=>simpa [ZH] using h3 j p (by simpa using hj)
  ·cases h
 | .obj u::r,p::prs,ps,k,hf,h,hm,hn=>by
  unfold Z10 at h
  split at h
  ·rename_i l hl
   cases h
   obtain ⟨h1,h2,h3⟩:=Z3F r prs l (k+1) hf hl hm.tail hn
   refine ⟨by simp [Q46,h1],by simp [h2],λj q hj=>?_⟩
   cases j with
   |zero=>
    simp at hj;subst hj
    exact ⟨k,rfl,λi=>hm 0 p rfl i,.inl ⟨List.mem_cons_self ..,Nat.le_refl _⟩⟩
   |succ j=>
    obtain ⟨s,q1,q2,q3⟩:=h3 j q (by simpa using hj)
    exact ⟨s,by simpa [ZH] using q1,q2,q3.imp (λq=>⟨List.mem_cons_of_mem _ q.1,by omega⟩) (by simpa using ·)⟩
  ·cases h
 | .row u::r,p::prs,ps,k,hf,h,hm,hn=>by
  unfold Z10 at h
  split at h
  ·rename_i l hl
   cases h
   obtain ⟨h1,h2,h3⟩:=Z3F r prs l (k+1) hf hl hm.tail hn
   refine ⟨by simp [Q46,h1],by simp [h2],λj q hj=>?_⟩
   cases j with
   |zero=>
    simp at hj;subst hj
    exact ⟨k,rfl,λi=>hm 0 p rfl i,.inl ⟨List.mem_cons_self ..,Nat.le_refl _⟩⟩
   |succ j=>
    obtain ⟨s,q1,q2,q3⟩:=h3 j q (by simpa using hj)
    exact ⟨s,by simpa [ZH] using q1,q2,q3.imp (λq=>⟨List.mem_cons_of_mem _ q.1,by omega⟩) (by simpa using ·)⟩
  ·cases h
 | .tok::r,p::prs,ps,k,hf,h,hm,hn=>by
  unfold Z10 at h
  split at h
  ·rename_i l hl
   cases h
   obtain ⟨h1,h2,h3⟩:=Z3F r prs l (k+1) hf hl hm.tail hn
   refine ⟨by simp [Q46,h1],by simp [h2],λj q hj=>?_⟩
   cases j with
   |zero=>
    simp at hj;subst hj
    exact ⟨k,rfl,λi=>hm 0 p rfl i,.inl ⟨List.mem_cons_self ..,Nat.le_refl _⟩⟩
   |succ j=>
    obtain ⟨s,q1,q2,q3⟩:=h3 j q (by simpa using hj)
    exact ⟨s,by simpa [ZH] using q1,q2,q3.imp (λq=>⟨List.mem_cons_of_mem _ q.1,by omega⟩) (by simpa using ·)⟩
  ·cases h
 | .obj u::r,[],ps,k,hf,h,hm,hn=>by cases h
 | .row u::r,[],ps,k,hf,h,hm,hn=>by cases h
 | .tok::r,[],ps,k,hf,h,hm,hn=>by cases h
theorem Z2p:∀(us:List (NK U.C)) (k j:Nat) (p:Ref),(Z1d us k)[j]? =some p->p.s=k+j/\j < Q46 us
 | [],k,j,p,h=>by simp [Z1d] at h
 | .fam _ _::r,k,j,p,h=>Z2p r k j p h
 | .obj _::r,k,0,p,h=>by cases h;exact ⟨rfl,Nat.succ_pos _⟩
 | .row _::r,k,0,p,h=>by cases h;exact ⟨rfl,Nat.succ_pos _⟩
 | .tok::r,k,0,p,h=>by cases h;exact ⟨rfl,Nat.succ_pos _⟩
 | .obj _::r,k,j+1,p,h=>by
  obtain ⟨h1,h2⟩:=Z2p r (k+1) j p (by simpa [Z1d] using h)
  exact ⟨by omega,by show j+1 < Q46 r+1;omega⟩
 | .row _::r,k,j+1,p,h=>by
  obtain ⟨h1,h2⟩:=Z2p r (k+1) j p (by simpa [Z1d] using h)
  exact ⟨by omega,by show j+1 < Q46 r+1;omega⟩
 | .tok::r,k,j+1,p,h=>by
  obtain ⟨h1,h2⟩:=Z2p r (k+1) j p (by simpa [Z1d] using h)
  exact ⟨by omega,by show j+1 < Q46 r+1;omega⟩
theorem Z7x {prs:List Ref}:∀(ss:List (Sh U.C)) (j:Nat),Z2A prs ss=true->j∈Z24 ss->∃s,prs[j]? =some ⟨s,0,0,false,none⟩
 | [],j,h,hj=>by cases hj
 |s::r,j,h,hj=>by
  have rest:Z2A prs r=true->j∈Z24 r->∃s,prs[j]? =some ⟨s,0,0,false,none⟩:=λh1 h2=>Z7x r j h1 h2
  cases s with
  |Q4H j' off m n=>
   unfold Z2A at h
   rw [Bool.and_eq_true] at h
   rcases List.mem_cons.1 hj with rfl|hj
   ·unfold Z6C at h
    cases hp:prs[j]? with
    |none=>rw [hp] at h;cases h.1
    |some p=>
     rw [hp] at h
     obtain ⟨s,i,o,row,ap⟩:=p
     have h1:=h.1
     simp only [Bool.and_eq_true] at h1
     have e1:i=0:=QH h1.1.1.1
     have e2:o=0:=QH h1.1.1.2
     have e3:row=false:=by simpa using h1.1.2
     have e4:ap=none:=by cases ap with|none=>rfl|some x=>cases h1.2
     subst e1;subst e2;subst e3;subst e4
     exact ⟨s,rfl⟩
   ·exact rest h.2 hj
  |_=>exact rest h hj
theorem Q9J:∀(ns:List Nat) (us:List (NK U.C)) (j:Nat) (p:Ref),(Z22 ns us)[j]? =some p->∃s k,ns[j]? =some s/\us[j]? =some k/\p=⟨s,0,0,k.isRow,none⟩
 |s::ns,u::us,0,p,h=>by cases h;exact ⟨s,u,rfl,rfl,rfl⟩
 |s::ns,u::us,j+1,p,h=>by simpa using Q9J ns us j p (by simpa [Z22] using h)
 | [],us,j,p,h=>by cases us <;> simp [Z22] at h
 |s::ns,[],j,p,h=>by simp [Z22] at h
theorem Z2c:∀(l:List Nat),distinct l=true->∀(i j:Nat) x,l[i]? =some x->l[j]? =some x->i=j
 | [],_,i,j,x,hi,_=>by simp at hi
 |y::l,hd,i,j,x,hi,hj=>by
  unfold distinct at hd
  rw [Bool.and_eq_true] at hd
  have hn:y∉l:=λh=>by have:=Z2k.2 h;simp [this] at hd
  cases i with
  |zero=>cases j with
   |zero=>rfl
   |succ j=>simp at hi hj;subst hi;exact absurd (List.mem_of_getElem? hj) hn
  |succ i=>cases j with
   |zero=>simp at hi hj;subst hj;exact absurd (List.mem_of_getElem? hi) hn
   |succ j=>simp at hi hj;rw [Z2c l hd.2 i j x hi hj]
theorem Z7d:∀(as:List (A U)) (vs:List (V U)),unA as=some vs->as=vs.map .v
 | [],vs,h=>by cases h;rfl
 | .v x::r,vs,h=>by
  unfold unA at h
  split at h
  ·rename_i l hl;cases h;rw [Z7d r l hl];rfl
  ·cases h
 | .t x::r,vs,h=>by cases h
theorem Z8p {h h':Qr U} {p:Ref} (hp:get h p.s=get h' p.s) (u:NK U.C):view h p u=view h' p u:=by cases u <;> simp only [view,Q8d,Z4P,hp]
theorem Z9e {h h':Qr U} {p:Ref} (hp:get h p.s=get h' p.s) (u:NK U.C) (y:u.T U):put h p u y=put h' p u y:=by cases u <;> simp only [put,Q9h,Z4P,hp]
theorem Z54 {h h':Qr U}:∀(us:List (NK U.C)) (ps:List Ref),(∀p∈ps,get h p.s=get h' p.s)->views us ps h=views us ps h'
 | [],[],_=>rfl
 |u::us,p::ps,hp=>by
  unfold views
  rw [Z8p (hp p (List.mem_cons_self ..)),Z54 us ps λp' h=>hp p' (List.mem_cons_of_mem _ h)]
 | [],p::ps,_=>rfl
 |u::us,[],_=>rfl
theorem Z5Y {h h':Qr U}:∀(us:List (NK U.C)) (ps:List Ref) (ys:HTs U us),(∀p∈ps,get h p.s=get h' p.s)->Q5Y us ps ys h=Q5Y us ps ys h'
 | [],[],_,_=>rfl
 |u::us,p::ps,ys,hp=>by
  unfold Q5Y
  rw [Z9e (hp p (List.mem_cons_self ..)),Z5Y us ps ys.2 λp' h=>hp p' (List.mem_cons_of_mem _ h)]
 | [],p::ps,_,_=>rfl
 |u::us,[],_,_=>rfl
theorem Z7I {c:Cx} {tup:Bool} {xs:List (V U)} {x:A U} {v:Value} (hu:Z38 tup x=some xs) (hr:RA U c x v):
  ∃vs,RVs U c xs vs/\∀{d:Cx} {ys:List (V U)},ys.length=xs.length->RVs U d ys vs->RA U d (Q83 tup ys) v:=by
 unfold Z38 at hu
 split at hu
 ·rename_i y
  cases hu
  refine ⟨[v],.cons hr ⟨rfl,λk z hk=>by simp at hk⟩,λ{d ys} hl hy=>?_⟩
  match ys,hl with
  | [z],_=>
   obtain ⟨v',h1,h2⟩:=hy.at_ 0 z rfl
   simp at h1;subst h1
   exact h2
 ·rename_i zs
  cases hu
  obtain ⟨ws,rfl,h2,h3⟩:=hr
  refine ⟨ws.toList,⟨by simpa using h2,λk z hk=>by simpa using h3 k z hk⟩,λ{d ys} hl hy=>?_⟩
  show RA U d (.t ys) _
  exact ⟨ws,rfl,by have:=hy.len;simpa using this,λk z hk=>by simpa using hy.at_ k z hk⟩
 ·cases hu
theorem Z4e (en:Nat->Nat):∀(ss:List (Sh U.C)) (t:Ts U ss) (k:Nat),(Z1P en ss t k).length=ss.length
 | [],_,_=>rfl
 |s::ss,t,k=>by cases s <;> (unfold Z1P;simp [Z4e en ss])
theorem Z2W:∀(ss:List (Sh U.C)) (t:Ts U ss) (k:Nat),(ZU ss t k).length=ss.length
 | [],_,_=>rfl
 |s::ss,t,k=>by unfold ZU;simp [Z2W ss]
theorem Z4y:∀(ss:List (Sh U.C)) (xs:List (V U)) (t:Ts U ss),Z1U ss xs=some t->xs.length=ss.length
 | [],[],_,_=>rfl
 |s::ss,x::xs,t,h=>by
  unfold Z1U at h
  split at h
  ·rename_i t1 t2 h1 h2;simp [Z4y ss xs t2 h2]
  ·cases h
 | [],x::xs,t,h=>by cases h
 |s::ss,[],t,h=>by cases h
end Go.Rf
namespace Go.Rf
set_option linter.unusedVariables false
set_option linter.unusedSimpArgs false
variable {U : QV} {P : Program}
theorem Z6P {h:Qr U} {p:Ref} {k:NK U.C} {x:k.T U} (hv:view h p k=some x):p.row=k.isRow:=by
 cases k with
 |obj u=>
  unfold view at hv
  cases hr:p.row with
  |true=>rw [hr] at hv;cases hv
  |false=>rfl
 |row u=>
  unfold view at hv
  cases hr:p.row with
  |true=>rfl
  |false=>rw [hr] at hv;cases hv
 |tok=>
  unfold view at hv
  cases hr:p.row with
  |true=>rfl
  |false=>rw [hr] at hv;cases hv
 |fam f u=>
  unfold view at hv
  cases hr:p.row with
  |true=>rfl
  |false=>rw [hr] at hv;cases hv
theorem Q91.lof {c:Cx} {p:Ref} (h:Q91 c p) (hr:p.row=false):∃q,Lof c p 0=some q:=by
 obtain ⟨s,i,off,row,ap⟩:=p
 simp only at hr
 subst hr
 cases ap with
 |none=>obtain ⟨q,hq⟩:=h;exact ⟨_,by simp [Lof];exact ⟨_,_,hq,rfl⟩⟩
 |some a=>obtain ⟨x,m,n⟩:=a;obtain ⟨_,q,hq⟩:=h;exact ⟨_,by simp [Lof];exact ⟨_,_,hq,rfl⟩⟩
theorem Z8c {c:Cx} {p:Ref} (hr:p.row=false) {i:Nat} (hi:i≠0):Lof c p i=none:=by
 unfold Lof;rw [hr];simp [hi]
theorem Z6U {g:Sig U} {x:A U} {h:Qr U} {r:Ts U g.Q3r×HTs U (g.heap.drop g.ro)×HTs U g.new} (hf:g.Q7Y x h=some r):
  ∃vs ps,Z38 g.tup x=some vs/\Z1U g.Q3r vs=some r.1/\Q66 g.Q3r vs=some ps/\views (g.heap.drop g.ro) ((Z22 g.nms g.heap).drop g.ro) h=some r.2.1/\views g.new ps h=some r.2.2/\Z3g g.base ps=true/\Z13 (Z1d g.heap U.nf) g.Q3r vs=true:=by
 unfold Sig.Q7Y at hf
 split at hf
 ·rename_i rx hrx
  split at hf
  ·rename_i rt pr yt hdr hpr hvy
   split at hf
   ·rename_i zt hvz
    cases hfrs:Z3g g.base pr && Z13 (Z1d g.heap U.nf) g.Q3r rx with
    |false=>rw [hfrs] at hf;cases hf
    |true=>
     rw [hfrs] at hf
     cases hf
     rw [Bool.and_eq_true] at hfrs
     exact ⟨rx,pr,hrx,hdr,hpr,hvy,hvz,hfrs.1,hfrs.2⟩
   ·cases hf
  ·cases hf
 ·cases hf
theorem Z5T:∀(ss:List (Sh U.C)) (vs:List (V U)) (k0 k f s:Nat),Z2h ss vs k0=some (k,f,s)->∃j,k=k0+j/\vs[j]? =some ⟨false,[.ptr s 0 0]⟩
 | [],vs,k0,k,f,s,h=>by cases vs <;> cases h
 |x::ss,[],k0,k,f,s,h=>by cases x <;> cases h
 |x::ss,v::vs,k0,k,f,s,h=>by
  have rest:Z2h ss vs (k0+1)=some (k,f,s)->∃j,k=k0+j/\(v::vs)[j]? =some ⟨false,[.ptr s 0 0]⟩:=λh=>by
   obtain ⟨j,h1,h2⟩:=Z5T ss vs (k0+1) k f s h
   exact ⟨j+1,by omega,by simpa using h2⟩
  unfold Z2h at h
  split at h
  ·rename_i g1 ss1 s1 i off vs1 e1 e2
   cases e1;cases e2
   cases hb:Nat.beq s1 g1 with
   |true=>rw [hb] at h;exact rest h
   |false=>
    rw [hb] at h
    simp only [cond_false] at h
    cases hc:Nat.beq i 0 && Nat.beq off 0 with
    |false=>rw [hc] at h;cases h
    |true=>
     rw [hc] at h
     cases h
     simp only [Bool.and_eq_true] at hc
     have q1:=QH hc.1
     have q2:=QH hc.2
     subst q1;subst q2
     exact ⟨0,rfl,rfl⟩
  ·rename_i e1 e2
   cases e1;cases e2
   exact rest h
  ·cases h
theorem Z95 (hU:U.Ok) {g:Sig U} {x x':A U} {h:Qr U} {es:List (Nat×Ent U)} (hc:g.Q8C x h=some (x',es)) {c:Cx} {Φ:Nat->Nat->Nat->Prop} {nx:Nat} {w:World} {p:Value} (hG:G U c Φ h w) (hr:RA U c x p):
  ∃c' Φ',QB U c Φ h nx { v:=x',w:=es} w c' Φ' p w:=by
 unfold Sig.Q8C at hc
 split at hc
 ·rename_i vs hu
  split at hc
  ·rename_i k f s hn
   split at hc
   ·rename_i cells v n gg hs hf
    split at hc
    ·rename_i y hy
     cases hb:Nat.blt f U.nf && !Nat.beq s f with
     |false=>rw [hb] at hc;cases hc
     |true=>
      rw [hb] at hc
      cases hc
      simp only [Bool.and_eq_true] at hb
      have hF:f < U.nf:=Nat.le_of_ble_eq_true hb.1
      have hne:s≠f:=λe=>by rw [e] at hb;simp at hb
      obtain ⟨j,hj,hv⟩:=Z5T _ _ _ _ _ _ hn
      rw [Nat.zero_add] at hj
      subst hj
      obtain ⟨rvs,hR,hback⟩:=Z7I hu hr
      obtain ⟨pv,hpv,hpr⟩:=hR.at_ k _ hv
      cases (show R U c (.ptr s 0 0) pv from hpr) with
      | @ptr _ _ _ b o hL=>
      obtain ⟨b',o',Gc,e0,e1,e2,e3⟩:=hG.Q1M s _ hs
      rw [hL] at e0;cases e0
      obtain ⟨A,Gn,h0,h1,h2,h3,h4,h5⟩:=hG.Q1M f _ hf
      have hsomef:(get h f).isSome:=by rw [hf];rfl
      have hsomes:(get h s).isSome:=by rw [hs];rfl
      let c':Cx:={ L:=λt i=>if t=f/\i=n then some (b,o) else c.L t i,I:=c.I}
      have hcn:c.L f n=none:=by
       cases hx:c.L f n with
       |none=>rfl
       |some q=>have:=h1 n q hx;omega
      have hc:c.Le c':=⟨λt i q hq=>by
       by_cases e:t=f/\i=n
       ·obtain ⟨rfl,rfl⟩:=e;rw [hcn] at hq;cases hq
       ·simp [c',e,hq],λ_ _ _ h=>h⟩
      have hLo:∀t i,t≠f->c'.L t i=c.L t i:=λt i ht=>by simp [c',ht]
      have hyl:cells.length=U.size v:=hU.Q49 v cells y hy
      have hP:Pl U c' w b o (U.enc v y) Gc:=((e2.stays hU hc λ_ _=>.refl _ _).dec hU hy)
      have hsub:∀b' o',(∃k,k < U.size v/\Gc k b' o')->Φ s b' o':=λb' o' ⟨k,h1,h2⟩=>(e3 _ _).2 ⟨k,by omega,h2⟩
      let Fn:Nat->Nat->Prop:=λb' o'=>Φ f b' o'\/∃k,k < U.size v/\Gc k b' o'
      have hEf:Q1s c' w f Fn (.fam false v (n+1) (QA gg n y):Ent U):=by
       refine ⟨λi=>if i=n then (b,o) else A i,λi k b' o'=>if i=n then Gc k b' o' else Gn i k b' o',λi hi=>?_,λi q hq=>?_,λi hi=>?_,λi j k l b' o' hi hj hk hl hne' f1 f2=>?_,λb' o'=>?_,λhh=>by cases hh⟩
       ·by_cases e:i=n
        ·subst e;simp [c']
        ·simp only [if_neg e];rw [show c'.L f i=c.L f i by simp [c',e]];exact h0 i (by omega)
       ·by_cases e:i=n
        ·omega
        ·rw [show c'.L f i=c.L f i by simp [c',e]] at hq
         have:=h1 i q hq;omega
       ·by_cases e:i=n
        ·subst e
         simp only [if_pos rfl,QA]
         exact hP
        ·simp only [if_neg e,QA]
         exact (h2 i (by omega)).stays hU hc λ_ _=>.refl _ _
       ·dsimp only at f1 f2
        have hin:∀i k,i < n->k < U.size v->Gn i k b' o'->Φ f b' o':=λi k hi hk hf=>(h4 _ _).2 ⟨i,k,hi,hk,hf⟩
        by_cases e:i=n
        ·rw [if_pos e] at f1
         rw [if_neg (by omega)] at f2
         exact hG.apart s f b' o' hne hsomes hsomef (hsub _ _ ⟨k,hk,f1⟩) (hin j l (by omega) hl f2)
        ·rw [if_neg e] at f1
         by_cases e2:j=n
         ·rw [if_pos e2] at f2
          exact hG.apart s f b' o' hne hsomes hsomef (hsub _ _ ⟨l,hl,f2⟩) (hin i k (by omega) hk f1)
         ·rw [if_neg e2] at f2
          exact h3 i j k l b' o' (by omega) (by omega) hk hl hne' f1 f2
       ·constructor
        ·rintro (hf|⟨k,hk,hf⟩)
         ·obtain ⟨i,k,hi,hk,hf⟩:=(h4 _ _).1 hf
          exact ⟨i,k,by omega,hk,by dsimp only;rw [if_neg (by omega)];exact hf⟩
         ·exact ⟨n,k,by omega,hk,by dsimp only;rw [if_pos rfl];exact hf⟩
        ·rintro ⟨i,k,hi,hk,hf⟩
         by_cases e:i=n
         ·rw [if_pos e] at hf
          exact .inr ⟨k,hk,hf⟩
         ·rw [if_neg e] at hf
          exact .inl ((h4 _ _).2 ⟨i,k,by omega,hk,hf⟩)
      have hnef:∀{α:Type} {x y:α},(if s=f then x else y)=y:=λ{_ _ _}=>if_neg hne
      have hval:RA U c' (Q83 g.tup (vs.set k ⟨false,[.ptr f n 0]⟩)) p:=by
       refine hback (by simp) ⟨by rw [hR.len];simp,λj z hz=>?_⟩
       rw [List.getElem?_set] at hz
       by_cases e:k=j
       ·subst e
        have hlt:=(List.getElem?_eq_some_iff.1 hv).1
        rw [if_pos rfl,if_pos hlt] at hz
        cases hz
        exact ⟨_,hpv,R.ptr (off:=0) (by simp [c'])⟩
       ·rw [if_neg e] at hz
        obtain ⟨u,q1,q2⟩:=hR.at_ j z hz
        exact ⟨u,q1,q2.mono hc⟩
      have hst:∀t,(get h t).isSome->Agr (Φ t) w w:=λ_ _=>.refl _ _
      refine ⟨c',fup (fup Φ s λ_ _=>False) f Fn,{ le:=hc,L:=λt i _ h2=>hLo t i λe=>h2 ⟨e▸hF,by simp [e]⟩,val:=hval,g:= ?_,fr:= .refl _ _,Q2p:=λt ht=>?_,Q2g:=λt b' o' ht hf=>?_,names:=λt ht=>?_,Q32:=λ_ _ _ h=>.inl h}⟩
      ·have hg1:G U c (fup Φ s λ_ _=>False) ((s,.dead)::h) w:=hG.put hU (.refl c) (λ_ _ _=>rfl) (e:= .dead) (F:=λ_ _=>False) (λ_ _ h=>h) (λ_ _ _=>.refl _ _) (λ_ _ _ _ _ _ h=>h) hG.imm (λt b' o' _ h1 hf=>hG.Q15 t b' o' h1 hf) (λ_ _ h=>h.elim)
       have hφf:fup Φ s (λ_ _=>False) f=Φ f:=by simp [fup,Ne.symm hne]
       have hgf:get ((s,Ent.dead)::h) f=some (.fam false v n gg:Ent U):=by rw [Z9,if_neg hne];exact hf
       refine hg1.put hU hc hLo hEf (λ_ _ _=>.refl _ _) (λt b' o' ht h1 hf hF'=>?_) hG.imm (λt b' o' _ h1 hf=>hg1.Q15 t b' o' h1 hf) (λb' o' hF'=>?_)
       ·by_cases e:t=s
        ·rw [e] at hf;simp [fup] at hf
        ·have hf2:Φ t b' o':=by simpa [fup,e] using hf
         have h1':(get h t).isSome:=by rw [Z9,if_neg (Ne.symm e)] at h1;exact h1
         rcases hF' with q|q
         ·exact hG.apart t f b' o' ht h1' hsomef hf2 q
         ·exact hG.apart t s b' o' e h1' hsomes hf2 (hsub _ _ q)
       ·rcases hF' with q|q
        ·exact hG.Q15 f b' o' hsomef q
        ·exact hG.Q15 s b' o' hsomes (hsub _ _ q)
      ·simp at ht;simp [fup,ht]
      ·simp only [List.map_cons,List.map_nil,List.mem_cons,List.not_mem_nil,or_false] at ht
       rcases ht with rfl|rfl
       ·simp only [fup,if_true] at hf
        rcases hf with q|q
        ·exact .inr ⟨t,by simp,hsomef,q⟩
        ·exact .inr ⟨s,by simp,hsomes,hsub _ _ q⟩
       ·simp [fup,hne] at hf
      ·simp only [List.map_cons,List.map_nil,List.mem_cons,List.not_mem_nil,or_false] at ht
       rcases ht with rfl|rfl
       ·exact .inr hsomef
       ·exact .inr hsomes
    ·cases hc
   ·cases hc
  ·cases hc
 ·cases hc
theorem Z6q (hU:U.Ok) {g:Sig U} {x:A U} {hh:Qr U} {r:Ts U g.Q3r×HTs U (g.heap.drop g.ro)×HTs U g.new} (hf:g.Q9n x hh=some r) {c0 c':Cx} {Φ0 Φ':Nat->Nat->Nat->Prop} {h0:Qr U} {nx:Nat} {w w':World} {p:Value} (hr:RA U c' x p) (hG:G U c' Φ' hh w') (hE:Ext U g.roN c0 Φ0 h0 nx w c' Φ' hh w'):
  ∃x' hh' c'' Φ'',g.Q7Y x' hh'=some r/\RA U c'' x' p/\G U c'' Φ'' hh' w'/\Ext U g.roN c0 Φ0 h0 nx w c'' Φ'' hh' w':=by
 unfold Sig.Q9n at hf
 split at hf
 ·rename_i x' es hcm
  cases hw:Q4U g.roN es with
  |false=>rw [hw] at hf;cases hf
  |true=>
   rw [hw] at hf
   obtain ⟨c'',Φ'',h1⟩:=Z95 (nx:=nx) hU hcm hG hr
   exact ⟨x',_,c'',Φ'',hf,h1.val,h1.g,hE.step h1 hw (Nat.le_refl _)⟩
 ·exact ⟨x,hh,c',Φ',hf,hr,hG,hE⟩
theorem Z7F (hU:U.Ok) {g:Sig U} {x:A U} {hh:Qr U} {r:Ts U g.Q3r×HTs U (g.heap.drop g.ro)×HTs U g.new} (hf:g.fin x hh=some r) {c0 c':Cx} {Φ0 Φ':Nat->Nat->Nat->Prop} {h0:Qr U} {nx:Nat} {w w':World} {p:Value} (hr:RA U c' x p) (hG:G U c' Φ' hh w') (hE:Ext U g.roN c0 Φ0 h0 nx w c' Φ' hh w'):
  ∃x' hh' c'' Φ'',g.Q7Y x' hh'=some r/\RA U c'' x' p/\G U c'' Φ'' hh' w'/\Ext U g.roN c0 Φ0 h0 nx w c'' Φ'' hh' w':=by
 unfold Sig.fin at hf
 split at hf
 ·exact Z6q hU hf hr hG hE
 ·rename_i l hne
  cases hw:Q4U g.roN (ZC (Q4q (g.ends x) hh) hh) with
  |false=>rw [hw] at hf;cases hf
  |true=>
   rw [hw] at hf
   obtain ⟨Φ'',h1⟩:=Z2G (nx:=nx) hU (Q4q (g.ends x) hh) hh Φ' hG
   exact Z6q hU hf hr h1.g (hE.step h1 hw (Nat.le_refl _))
theorem Sig.ok0 (g:Sig U) (F:g.F) (hP:U.Pure) {Hn:Hints U} {L:Code->Prop} (hH:Q3c U P Hn L) {f:Nat} {fn:Func} {code:Code} (hf:P.funcs[f]? =some fn) (hb:fn.body=some code)
  (hname:(fn.name== "runtime.NumGoroutine")=false) (hL:∀b,b∈Z3 code->L b) {gos:Nat} (hro:Hn.ro=g.roN) (hbase:Hn.base=g.base) (hgood:g.Q6X=true)
  (heq:∀a xs,Q6U P Hn fn gos none g.fin (g.args a) (g.start xs) g.base=F a xs) (hn:g.Q3W.length<=fn.ntmps):Zi U P f (g.Q4O F):=by
 have hU:=hH.u
 intro as h' nx out ho c Φ h w vs hg hag hfresh hRA
 rw [Z1o hf hname (by rw [hb];rfl)]
 show Calls P f vs w λe w'=>∃v,e= .returned v/\Q5N U c Φ h nx out w v w'
 unfold Sig.Q6X at hgood
 simp only [Bool.and_eq_true] at hgood
 obtain ⟨⟨hgd,hgf⟩,hgr⟩:=hgood
 have hgr:g.ro=0\/g.ro=g.heap.length:=by
  rw [Bool.or_eq_true] at hgr
  exact hgr.imp QH QH
 have hnl:g.nms.length=g.heap.length:=Z3o _ _
 have hninj:∀(i j s:Nat),g.nms[i]? =some s->g.nms[j]? =some s->i=j:=λi j s hi hj=>Z2c _ hgd i j s hi hj
 have hnlt:∀(j s:Nat),g.nms[j]? =some s->s < g.base:=λj s hj=>Z3H g.heap U.nf j s hgf (Nat.le_refl _) hj
 have hnfb:U.nf<=g.base:=Nat.le_add_right _ _
 have hroN:g.roN<=g.base:=by
  unfold Sig.roN
  cases Nat.beq g.ro 0 with
  |true=>exact Nat.zero_le _
  |false=>exact Nat.le_refl _
 have hroj:∀(j s:Nat),g.nms[j]? =some s->(g.ro<=j↔g.roN<=s):=λj s hj=>by
  have hjl:j < g.heap.length:=by rw [←hnl];exact (List.getElem?_eq_some_iff.1 hj).1
  unfold Sig.roN
  cases h0:Nat.beq g.ro 0 with
  |true=>have:=QH h0;simp [this]
  |false=>
   rcases hgr with h1|h1
   ·rw [h1] at h0;cases h0
   ·have:=hnlt j s hj
    simp only [cond_false]
    constructor <;> intro h2 <;> omega
 have hntot:∀j,j < g.heap.length->∃s,g.nms[j]? =some s:=λj hj=>⟨_,List.getElem?_eq_getElem (by rw [hnl];exact hj)⟩
 unfold Sig.Q4O at ho
 split at ho
 ·rename_i vxs hun
  split at ho
  ·rename_i a prs hdec hptr
   split at ho
   ·rename_i ps hrefs
    split at ho
    ·rename_i xs hvs
     cases hdist:distinct (ps.map (·.s)) && Z13 prs g.Q3W vxs && Nat.ble U.nf nx && Z2A prs g.Q3r with
     |false=>rw [hdist] at ho;exact (Z1 ho).elim
     |true=>
      rw [hdist] at ho
      simp only [cond_true] at ho
      simp only [Bool.and_eq_true] at hdist
      obtain ⟨⟨⟨hdist,helem⟩,hnfx⟩,hreso⟩:=hdist
      have hnfx:=Nat.le_of_ble_eq_true hnfx
      cases hF:F a xs with
      |none=>rw [hF] at ho;cases ho
      |some r=>
      rw [hF] at ho
      have hout:out=g.Q5S prs ps h' nx r:=by simp [OpR.outs] at ho;exact ho.symm
      have hrd:out.rd=ps.map (·.s):=by rw [hout];rfl
      have hagp:∀p∈ps,get h p.s=get h' p.s:=λp hp=>hag p.s (.inl (by rw [hrd];exact List.mem_map.2 ⟨p,hp,rfl⟩))
      have hvs:views g.heap ps h=some xs:=by rw [Z54 _ _ hagp];exact hvs
      have hout:out=g.Q5S prs ps h nx r:=by
       rw [hout];unfold Sig.Q5S
       rw [Z5Y _ _ _ λp hp=>(hagp p (List.mem_of_mem_drop hp)).symm]
      clear ho hag
      have hasv:=Z7d as vxs hun
      have hRV:RVs U c vxs vs.toList:=by
       refine ⟨by rw [hRA.len,hasv];simp,λk x hk=>?_⟩
       obtain ⟨v,h1,h2⟩:=hRA.at_ k (.v x) (by rw [hasv,List.getElem?_map,hk];rfl)
       exact ⟨v,h1,h2⟩
      obtain ⟨hplen,hview⟩:=Z45 _ _ _ _ hvs
      have hinj:=Z2c _ hdist
      have hinj':∀(i j:Nat) (p p':Ref),ps[i]? =some p->ps[j]? =some p'->p.s=p'.s->i=j:=λi j p p' hi hj e=>
       hinj i j p.s (by rw [List.getElem?_map,hi];rfl) (by rw [List.getElem?_map,hj,e];rfl)

      let c0:Cx:={ L:=λs i=>if s < U.nf then c.L s i else match prs[s - U.nf]? with|some p=>Lof c p i|none=>none,I:=c.I}
      have hc0F:∀f,f < U.nf->∀i,c0.L f i=c.L f i:=λf hf i=>by simp only [c0,if_pos hf]
      have hcc0:Cx.LeI U c c0:=⟨λ_ _ _ h=>h,λf i x hf hx=>by rw [hc0F f hf];exact hx⟩
      have hm0:Q6e c c0 prs U.nf:=λj p hj i=>by
       simp only [c0]
       rw [if_neg (by omega),show U.nf+j - U.nf=j by omega,hj]
      obtain ⟨hprl,_,hnm⟩:=Z3F g.heap prs ps U.nf hgf hrefs hm0 hc0F
      have hnm:∀(j:Nat) (p:Ref) (s:Nat),ps[j]? =some p->g.nms[j]? =some s->(∀i,c0.L s i=Lof c p i)/\((p∈prs/\U.nf<=s)\/∃f u,g.heap[j]? =some (.fam f u)/\p=⟨f,0,0,true,none⟩/\s=f/\f < U.nf):=λj p s h1 h2=>by
       obtain ⟨s',h3,h4,h5⟩:=hnm j p h1
       have:g.nms[j]? =some s':=h3
       rw [h2] at this;cases this
       exact ⟨h4,h5⟩
      have hc0:∀(j:Nat) (p:Ref) (s:Nat),ps[j]? =some p->g.nms[j]? =some s->∀i,c0.L s i=Lof c p i:=λj p s h1 h2=>(hnm j p s h1 h2).1
      obtain ⟨hRV0,hpL0⟩:=Z1H (c:=c) (d:=c0) (en:=λj=>U.nf+j) hP hU hcc0 g.Q3W vxs a prs vs.toList U.nf hdec hptr helem (λj s _=>hm0.elems j s) hRV hm0
      rw [←Z8a] at hRV0
      have hpslt:∀(j:Nat) (p:Ref),ps[j]? =some p->j < g.heap.length:=λj p h=>by rw [←hplen];exact (List.getElem?_eq_some_iff.1 h).1
      have hpL:∀(j:Nat) (p:Ref),ps[j]? =some p->p.row=false->Q91 c p:=λj p h1 h2=>by
       obtain ⟨s',h3⟩:=hntot j (hpslt j p h1)
       rcases (hnm j p s' h1 h3).2 with ⟨h5,_⟩|⟨f,u,_,h6,_⟩
       ·obtain ⟨j',hj'⟩:=List.getElem?_of_mem h5
        exact hpL0 j' p hj' h2
       ·rw [h6] at h2;cases h2
      have hpl:∀j,∃F0:Nat->Nat->Prop,∀x,Q3f g.heap xs j=some x->∃p,ps[j]? =some p/\view h p x.1=some x.2/\Q4l U c Φ h w p x.1 x.2 F0:=λj=>by
       cases hx:Q3f g.heap xs j with
       |none=>exact ⟨λ_ _=>False,λx h=>by cases h⟩
       |some x=>
        obtain ⟨p,h1,h2⟩:=hview j x hx
        obtain ⟨F0,h3⟩:=Z3M hU hP h2 hg (hpL j p h1)
        exact ⟨F0,λy hy=>by cases hy;exact ⟨p,h1,h2,h3⟩⟩
      let Φj:Nat->Nat->Nat->Prop:=λj=>(hpl j).choose
      have hΦj:∀j x,Q3f g.heap xs j=some x->∃p,ps[j]? =some p/\view h p x.1=some x.2/\Q4l U c Φ h w p x.1 x.2 (Φj j):=λj=>(hpl j).choose_spec
      let Φ0:Nat->Nat->Nat->Prop:=λs b o=>∃j,g.nms[j]? =some s/\Φj j b o
      have hΦ0:∀(j s:Nat),g.nms[j]? =some s->Φ0 s=Φj j:=λj s hs=>by
       funext b o
       refine propext ⟨λ⟨j',h1,h2⟩=>?_,λh=>⟨j,hs,h⟩⟩
       rw [hninj j j' s hs h1];exact h2
      have hin0:∀{s},(get (g.start xs) s).isSome->∃j x p,g.nms[j]? =some s/\Q3f g.heap xs j=some x/\ps[j]? =some p/\view h p x.1=some x.2/\Q4l U c Φ h w p x.1 x.2 (Φj j):=λ{s} hs=>by
       obtain ⟨e,he⟩:=Option.isSome_iff_exists.1 hs
       obtain ⟨j,x,h1,h2,_⟩:=Z23 _ _ _ _ _ he
       obtain ⟨p,h3,h4⟩:=hΦj j x h2
       exact ⟨j,x,p,h1,h2,h3,h4⟩
      have hsome0:∀(j s:Nat),g.nms[j]? =some s->(get (g.start xs) s).isSome:=λj s hs=>by
       refine Z1n ?_
       unfold Sig.start
       rw [Z53 _ _ _ hnl]
       exact List.mem_of_getElem? hs
      have hG0:G U c0 Φ0 (g.start xs) w:=by
       refine ⟨λs e he=>?_,λs s' b o hne h1 h2 h3 h4=>?_,hg.imm,λs b o h1 h2=>?_⟩
       ·obtain ⟨j,x,h1,h2,rfl⟩:=Z23 _ _ _ _ _ he
        obtain ⟨p,h3,_,h4⟩:=hΦj j x h2
        rw [hΦ0 j s h1]
        exact h4.is_ c0 s hcc0 (hc0 j p s h3 h1)
       ·obtain ⟨j,x,p,q1,q2,q3,_,q4⟩:=hin0 h1
        obtain ⟨j',x',p',r1,r2,r3,_,r4⟩:=hin0 h2
        rw [hΦ0 j s q1] at h3
        rw [hΦ0 j' s' r1] at h4
        exact hg.apart p.s p'.s b o (λe=>hne (by have:=hinj' j j' p p' q3 r3 e;subst this;rw [q1] at r1;cases r1;rfl)) q4.here r4.here (q4.sub _ _ h3) (r4.sub _ _ h4)
       ·obtain ⟨j,x,p,q1,q2,q3,_,q4⟩:=hin0 h1
        rw [hΦ0 j s q1] at h2
        exact hg.Q15 p.s b o q4.here (q4.sub _ _ h2)
      have hfr0:∀s,g.base<=s->get (g.start xs) s=none/\∀k,c0.L s k=none:=λs hs=>by
       refine ⟨?_,λk=>?_⟩
       ·cases he:get (g.start xs) s with
        |none=>rfl
        |some e=>
         obtain ⟨j,_,h1,_⟩:=Z23 _ _ _ _ _ he
         have:=hnlt j s h1;omega
       ·have hbs:U.nf+Q46 g.heap<=s:=hs
        have:prs[s - U.nf]? =none:=List.getElem?_eq_none (by omega)
        simp only [c0]
        rw [if_neg (by omega),this]
      have hargs:RAs U c0 (g.args a) vs.toList:=by
       refine ⟨by rw [hRV0.len];simp [Sig.args],λk x hk=>?_⟩
       unfold Sig.args at hk
       rw [List.getElem?_map] at hk
       cases hz:(ZU g.Q3W a U.nf)[k]? with
       |none=>rw [hz] at hk;cases hk
       |some z=>rw [hz] at hk;cases hk;exact hRV0.at_ k z hz
      have hcall:=Z81 (S:=λy=>y=some r) hH hf hb hL (λh=>by cases h) ((heq a xs).trans hF) (by simp [Sig.args,Z2W];exact hn) (by rw [hro];exact hroN) (Nat.le_of_eq hbase.symm) hG0 hfr0 hargs
      refine hcall.mono ?_
      rintro e w' ⟨v,rfl,x,hh0,c',Φ'0,hfin,hRx,hG'0,hE0⟩
      refine ⟨v,rfl,?_⟩
      rw [hro] at hE0
      obtain ⟨x,hh,c',Φ',hfin,hRx,hG',hE⟩:=Z7F hU hfin hRx hG'0 hE0

      obtain ⟨rx,pr,hrx,hdr,hpr,hvy,hvz,hfrs,helr⟩:=Z6U hfin
      obtain ⟨rvs,hRVr,hback⟩:=Z7I hrx hRx
      unfold Z3g at hfrs
      rw [Bool.and_eq_true,List.all_eq_true] at hfrs
      have hprf:∀(j:Nat) (p:Ref),pr[j]? =some p->g.base<=p.s:=λj p hj=>by
       have:=hfrs.1 p (List.mem_of_getElem? hj)
       simp only [Bool.and_eq_true] at this
       exact Nat.le_of_ble_eq_true this.1.1.1
      have hprinj:∀(i j:Nat) (p p':Ref),pr[i]? =some p->pr[j]? =some p'->p.s=p'.s->i=j:=λi j p p' hi hj e=>
       Z2c _ hfrs.2 i j p.s (by rw [List.getElem?_map,hi];rfl) (by rw [List.getElem?_map,hj,e];rfl)
      obtain ⟨hzlen,hzview⟩:=Z45 _ _ _ _ hvz
      obtain ⟨hylen,hyview⟩:=Z45 _ _ _ _ hvy

      let c2:Cx:={ L:=λs i=>if nx<=s/\s < nx+g.new.length then (match pr[s - nx]? with|some p=>Lof c' p i|none=>none) else if s < U.nf then c'.L s i else c.L s i,I:=c'.I}
      have hnw:out.nw=g.new.length:=by rw [hout];rfl
      rw [hnw] at hfresh
      have hc2n:∀(j:Nat) (p:Ref),pr[j]? =some p->∀i,c2.L (nx+j) i=Lof c' p i:=λj p h1 i=>by
       have hj:j < g.new.length:=by rw [←hzlen];exact (List.getElem?_eq_some_iff.1 h1).1
       simp only [c2]
       rw [if_pos ⟨by omega,by omega⟩,show nx+j - nx=j by omega,h1]
      have hfnew:∀f,f < U.nf->¬(nx<=f/\f < nx+g.new.length):=λf hf hn=>by omega
      have hc2F:∀f,f < U.nf->∀i,c2.L f i=c'.L f i:=λf hf i=>by simp only [c2];rw [if_neg (hfnew f hf),if_pos hf]
      have hc'c2:Cx.LeI U c' c2:=⟨λ_ _ _ h=>h,λf i x hf hx=>by rw [hc2F f hf];exact hx⟩
      have hleI:∀b o v,c.I b o=some v->c'.I b o=some v:=hE.le.I
      have hle:c.Le c2:=⟨λs i q hq=>by
       simp only [c2]
       by_cases hs:nx<=s/\s < nx+g.new.length
       ·rw [(hfresh s hs.1 hs.2).2 i] at hq;cases hq
       ·rw [if_neg hs]
        by_cases hf:s < U.nf
        ·rw [if_pos hf];exact hE.le.L s i q (by rw [hc0F s hf];exact hq)
        ·rw [if_neg hf];exact hq,hleI⟩
      have hpa2:∀(j s:Nat),j∈Z24 g.Q3r->(Z1d g.heap U.nf)[j]? =some ⟨s,0,0,false,none⟩->∀q,c'.L s 0=some q->c2.L (Z4l prs j) 0=some q:=λj s hj hs q hq=>by
       obtain ⟨t,ht⟩:=Z7x _ _ hreso hj
       obtain ⟨h1,h2⟩:=Z2p _ _ _ _ hs
       simp only at h1
       subst h1
       have h3:Z4l prs j=t:=by simp [Z4l,ht]
       rw [h3]
       have h4:c'.L (U.nf+j) 0=c.L t 0:=by
        rw [hE.L (U.nf+j) 0 (by show U.nf+j < U.nf+Q46 g.heap;omega) (.inl (by omega)),hm0 j _ ht 0]
        simp [Lof]
       rw [h4] at hq
       exact hle.L _ _ _ hq
      obtain ⟨hRr,hprL⟩:=Z1H (c:=c') (d:=c2) (pa:=Z1d g.heap U.nf) (en:=Z4l prs) hP hU hc'c2 g.Q3r rx r.1 pr rvs nx hdr hpr helr hpa2 hRVr hc2n

      have hc2o:∀t,¬(nx<=t/\t < nx+g.new.length)->(∀j,g.ro<=j->g.nms[j]? =some t->U.nf<=t)->∀i,c2.L t i=c.L t i:=λt ht hnf i=>by
       by_cases hf:t < U.nf
       ·rw [hc2F t hf,hE.L t i (by omega) ?_,hc0F t hf]
        cases hgs:get (g.start xs) t with
        |none=>exact .inr (.inl rfl)
        |some e=>
         obtain ⟨j,_,_,h1,_⟩:=hin0 (s:=t) (by simp [hgs])
         refine .inr (.inr ?_)
         have h2:=hroj j t h1
         rcases Nat.lt_or_ge t g.roN with h3|h3
         ·exact h3
         ·have:=hnf j (h2.2 h3) h1;omega
       ·simp only [c2];rw [if_neg ht,if_neg hf]
      have hnotnew:∀t,(get h t).isSome->¬(nx<=t/\t < nx+g.new.length):=λt ht hn=>by rw [(hfresh t hn.1 hn.2).1] at ht;cases ht

      have hzp:∀i,∃Fz:Nat->Nat->Prop,∀z,Q3f g.new r.2.2 i=some z->∃p,pr[i]? =some p/\Q4l U c' Φ' hh w' p z.1 z.2 Fz:=λi=>by
       cases hz:Q3f g.new r.2.2 i with
       |none=>exact ⟨λ_ _=>False,λz h=>by cases h⟩
       |some z=>
        obtain ⟨p,h1,h2⟩:=hzview i z hz
        obtain ⟨Fz,h3⟩:=Z3M hU hP h2 hG' (hprL i p h1)
        exact ⟨Fz,λy hy=>by cases hy;exact ⟨p,h1,h3⟩⟩
      let Fz:Nat->Nat->Nat->Prop:=λi=>(hzp i).choose
      have hFz:∀i z,Q3f g.new r.2.2 i=some z->∃p,pr[i]? =some p/\Q4l U c' Φ' hh w' p z.1 z.2 (Fz i):=λi=>(hzp i).choose_spec
      let nm:Nat->Nat:=λj=>g.nms.getD j 0
      have hnmj:∀j,j < g.heap.length->g.nms[j]? =some (nm j):=λj hj=>by
       obtain ⟨s,hs⟩:=hntot j hj
       have:nm j=s:=by simp [nm,List.getD,hs]
       rw [this];exact hs

      have hLown:∀j p,ps[j]? =some p->U.nf<=nm j->∀i,c'.L (nm j) i=Lof c p i:=λj p h1 h2 i=>by
       have hs:=hnmj j (hpslt j p h1)
       rw [hE.L (nm j) i (hnlt j _ hs) (.inl h2)]
       exact hc0 j p _ h1 hs i
      have hkind:∀j p,ps[j]? =some p->p.row=false->U.nf<=nm j:=λj p h1 h2=>by
       rcases (hnm j p _ h1 (hnmj j (hpslt j p h1))).2 with h3|⟨f,u,_,h4,_⟩
       ·exact h3.2
       ·rw [h4] at h2;cases h2
      have hyp:∀j,∃Fy:Nat->Nat->Prop,∀y,Q3f (g.heap.drop g.ro) r.2.1 j=some y->g.heap[g.ro+j]? =some y.1/\Q4l U c' Φ' hh w' ⟨nm (g.ro+j),0,0,NK.isRow y.1,none⟩ y.1 y.2 Fy:=λj=>by
       cases hy:Q3f (g.heap.drop g.ro) r.2.1 j with
       |none=>exact ⟨λ_ _=>False,λz h=>by cases h⟩
       |some y=>
        obtain ⟨p0,h1,h2⟩:=hyview j y hy
        have h3:=(Z8b _ _ _ _ hy).2
        rw [List.getElem?_drop] at h3
        rw [List.getElem?_drop] at h1
        obtain ⟨s0,k0,o1,o2,rfl⟩:=Q9J _ _ _ _ h1
        rw [h3] at o2;cases o2
        have hlt:=(List.getElem?_eq_some_iff.1 h3).1
        have o3:=hnmj (g.ro+j) hlt
        rw [o1] at o3;cases o3
        obtain ⟨x0,h5,h6⟩:=Z1D g.heap xs (g.ro+j) hlt
        obtain ⟨p,h7,h8,h9⟩:=hΦj _ _ h5
        rw [h3] at h6
        simp only [Option.some.injEq] at h6
        obtain ⟨Fy,h10⟩:=Z3M hU hP h2 hG' (λhr=>by
         simp only at hr ⊢
         have hpr:p.row=false:=by rw [Z6P h8,←h6];exact hr
         obtain ⟨q,hq⟩:=(hpL _ p h7 hpr).lof hpr
         rw [hLown _ p h7 (hkind _ p h7 hpr) 0]
         exact ⟨q,hq⟩)
        exact ⟨Fy,λz hz=>by cases hz;exact ⟨h3,h10⟩⟩
      let Fy:Nat->Nat->Nat->Prop:=λj=>(hyp j).choose
      have hFy:∀j y,Q3f (g.heap.drop g.ro) r.2.1 j=some y->g.heap[g.ro+j]? =some y.1/\Q4l U c' Φ' hh w' ⟨nm (g.ro+j),0,0,NK.isRow y.1,none⟩ y.1 y.2 (Fy j):=λj=>(hyp j).choose_spec

      have hrw:∀(j:Nat) (p:Ref),g.ro<=j->ps[j]? =some p->∃(k:NK U.C) (x:k.T U) (y:k.T U),Q3f (g.heap.drop g.ro) r.2.1 (j - g.ro)=some ⟨k,y⟩/\g.heap[j]? =some k/\view h p k=some x/\Q4l U c Φ h w p k x (Φj j)/\
        Q4l U c' Φ' hh w' ⟨nm j,0,0,NK.isRow k,none⟩ k y (Fy (j - g.ro)):=λj p hj hp=>by
       have hlt:j < g.heap.length:=hpslt j p hp
       obtain ⟨x,h1,h2⟩:=Z1D g.heap xs j hlt
       obtain ⟨p',h3,h4,h5⟩:=hΦj j x h1
       rw [hp] at h3;cases h3
       obtain ⟨y,h6,h7⟩:=Z1D (g.heap.drop g.ro) r.2.1 (j - g.ro) (by simp;omega)
       obtain ⟨h8,h9⟩:=hFy _ _ h6
       rw [show g.ro+(j - g.ro)=j by omega] at h8 h9
       rw [h2] at h8
       simp only [Option.some.injEq] at h8
       obtain ⟨k,x⟩:=x
       obtain ⟨k',y⟩:=y
       simp only at h8 h4 h5 h9 h2
       subst h8
       exact ⟨k,x,y,h6,h2,h4,h5,h9⟩
      have hznew:∀{i b o},i < g.new.length->Fz i b o->∃p,pr[i]? =some p/\(get hh p.s).isSome/\Φ' p.s b o:=λ{i b o} hi hf=>by
       obtain ⟨z,h1,_⟩:=Z1D g.new r.2.2 i hi
       obtain ⟨p,h2,h3⟩:=hFz i z h1
       exact ⟨p,h2,h3.here,h3.sub _ _ hf⟩
      have hynew:∀{j p b o},g.ro<=j->ps[j]? =some p->Fy (j - g.ro) b o->(get hh (nm j)).isSome/\Φ' (nm j) b o:=λ{j p b o} hj hp hf=>by
       obtain ⟨k,x,y,_,_,_,_,h5⟩:=hrw j p hj hp
       exact ⟨h5.here,h5.sub _ _ hf⟩

      let From:Nat->Nat->Prop:=λb o=>w.heap.size<=b\/∃s',g.roN<=s'/\(get (g.start xs) s').isSome/\Φ0 s' b o
      have hzfrom:∀{i b o},i < g.new.length->Fz i b o->From b o:=λ{i b o} hi hf=>by
       obtain ⟨p,h1,h2,h3⟩:=hznew hi hf
       exact hE.Q2g p.s b o (Nat.le_trans hroN (hprf _ _ h1)) h2 h3
      have hyfrom:∀{j p b o},g.ro<=j->ps[j]? =some p->Fy (j - g.ro) b o->From b o:=λ{j p b o} hj hp hf=>by
       obtain ⟨h1,h2⟩:=hynew hj hp hf
       exact hE.Q2g (nm j) b o ((hroj j _ (hnmj j (hpslt j p hp))).1 hj) h1 h2

      have hkeep:∀{t b o},(get h t).isSome->Φ t b o->(∀(j:Nat) (p:Ref),g.ro<=j->ps[j]? =some p->p.s=t->¬Φj j b o)->¬From b o:=λ{t b o} ht hf hno hfrom=>by
       rcases hfrom with h1|⟨s',h1,h2,h3⟩
       ·have:=hg.lt hU ht hf;omega
       ·obtain ⟨j,x,p,q1,_,h4,_,h5⟩:=hin0 h2
        rw [hΦ0 j s' q1] at h3
        by_cases e:p.s=t
        ·exact hno j p ((hroj j s' q1).2 h1) h4 e h3
        ·exact hg.apart p.s t b o e h5.here ht (h5.sub _ _ h3) hf
      have hagr:∀{t} {R:Nat->Nat->Prop},(get h t).isSome->(∀b o,R b o->Φ t b o/\∀(j:Nat) (p:Ref),g.ro<=j->ps[j]? =some p->p.s=t->¬Φj j b o)->Agr R w w':=λ{t R} ht hR=>
       hE.fr.agr (λb o hf=>hg.lt hU ht (hR b o hf).1) λb o hf hn=>hkeep ht (hR b o hf).1 (hR b o hf).2 (.inr hn)
      have hwn:∀s,s∈out.w.map (·.1)↔(nx<=s/\s < nx+g.new.length)\/∃(j:Nat) (p:Ref),g.ro<=j/\ps[j]? =some p/\p.s=s:=λs=>by
       rw [hout]
       simp only [Sig.Q5S,List.map_append,List.mem_append]
       rw [Z41,Z3U _ _ _ _ (by simp [hplen])]
       refine or_congr Iff.rfl ⟨λhm=>?_,λ⟨j,p,h1,h2,h3⟩=>?_⟩
       ·obtain ⟨p,hp,rfl⟩:=List.mem_map.1 hm
        obtain ⟨j,hj⟩:=List.getElem?_of_mem hp
        rw [List.getElem?_drop] at hj
        exact ⟨g.ro+j,p,by omega,hj,rfl⟩
       ·refine List.mem_map.2 ⟨p,?_,h3⟩
        refine List.mem_of_getElem? (i:=j - g.ro) ?_
        rw [List.getElem?_drop,show g.ro+(j - g.ro)=j by omega];exact h2
      have hsomeps:∀(j:Nat) (p:Ref),ps[j]? =some p->(get h p.s).isSome:=λj p hj=>by
       have hlt:j < g.heap.length:=by rw [←hplen];exact (List.getElem?_eq_some_iff.1 hj).1
       obtain ⟨x,h1,_⟩:=Z1D g.heap xs j hlt
       obtain ⟨p',h2,_,h3⟩:=hΦj j x h1
       rw [hj] at h2;cases h2
       exact h3.here
      let Φ2:Nat->Nat->Nat->Prop:=λs b o=>if nx<=s/\s < nx+g.new.length then Fz (s - nx) b o else
       (Φ s b o/\∀(j:Nat) (p:Ref),g.ro<=j->ps[j]? =some p->p.s=s->¬Φj j b o)\/∃(j:Nat) (p:Ref),g.ro<=j/\ps[j]? =some p/\p.s=s/\Fy (j - g.ro) b o
      have hΦn:∀{s},nx<=s/\s < nx+g.new.length->Φ2 s=Fz (s - nx):=λ{s} hs=>by funext b o;simp only [Φ2,if_pos hs]
      have hΦo:∀{s},¬(nx<=s/\s < nx+g.new.length)->∀b o,Φ2 s b o↔((Φ s b o/\∀(j:Nat) (p:Ref),g.ro<=j->ps[j]? =some p->p.s=s->¬Φj j b o)\/∃(j:Nat) (p:Ref),g.ro<=j/\ps[j]? =some p/\p.s=s/\Fy (j - g.ro) b o):=
       λ{s} hs b o=>by simp only [Φ2,if_neg hs]
      have hcase:∀t,(get (out.w++h) t).isSome->¬(nx<=t/\t < nx+g.new.length)->(get h t).isSome:=λt ht hn=>by
       rw [Zh] at ht
       cases hg2:get out.w t with
       |none=>rw [hg2] at ht;exact ht
       |some e=>
        rcases (hwn t).1 (Z2L hg2) with h5|⟨j,p,_,h6,rfl⟩
        ·exact absurd h5 hn
        ·exact hsomeps j p h6
      refine ⟨c2,Φ2,hle,λs i hs hs2=>?_,?_,⟨λt e he=>?_,λt t' b o hne h1 h2 h3 h4=>?_,hG'.imm,λt b o h1 h2=>?_⟩,hE.fr.mono λb o hb hF=>?_,λs hs=>?_,λs b o hs hF=>?_,λs hs=>?_,λb o v hI=>?_⟩
      ·rw [hnw] at hs
       refine hc2o s hs (λj hj hjs=>?_) i
       rcases Nat.lt_or_ge s U.nf with h1|h1
       ·exfalso
        have hjl:j < g.heap.length:=by rw [←hnl];exact (List.getElem?_eq_some_iff.1 hjs).1
        have hp:ps[j]? =some ps[j]:=List.getElem?_eq_getElem (by rw [hplen];exact hjl)
        rcases (hnm j _ s hp hjs).2 with h2|⟨f,u,_,h3,h4,_⟩
        ·omega
        ·exact hs2 ⟨h1,(hwn s).2 (.inr ⟨j,_,hj,hp,by rw [h3];exact h4.symm⟩)⟩
       ·exact h1
      ·rw [hout]
       exact hback (by rw [Z4e,Z4y _ _ _ hdr]) hRr
      ·-- the entries
       rw [hout] at he
       simp only [Sig.Q5S,List.append_assoc] at he
       rw [Zh] at he
       by_cases hnewt:nx<=t/\t < nx+g.new.length
       ·rw [Z6X,if_pos hnewt.1] at he
        obtain ⟨z,h1,h2⟩:=Z1D g.new r.2.2 (t - nx) (by omega)
        rw [h1] at he
        cases he
        rw [hΦn hnewt]
        obtain ⟨p,h3,h4⟩:=hFz _ _ h1
        refine h4.is_ c2 t hc'c2 λi=>?_
        have:=hc2n _ p h3 i
        rwa [show nx+(t - nx)=t by omega] at this
       ·have hnn:get (news g.new r.2.2 nx) t=none:=Zg λhm=>hnewt ((Z41 _ _ _ _).1 hm)
        rw [hnn] at he
        simp only at he
        rw [Zh] at he
        cases hpt:get (Q5Y (g.heap.drop g.ro) (ps.drop g.ro) r.2.1 h) t with
        |some e'=>
         rw [hpt] at he
         cases he
         obtain ⟨j,p,y,h1,h2,rfl,rfl⟩:=Z7q _ _ _ _ _ _ (by simp [hplen]) hpt
         rw [List.getElem?_drop] at h1
         obtain ⟨k,x,y',h3,h4,h5,h6,h7⟩:=hrw (g.ro+j) p (by omega) h1
         rw [show g.ro+j - g.ro=j by omega,h2] at h3
         cases h3
         have hR:∀b o,(Φ p.s b o/\¬Φj (g.ro+j) b o)->Φ p.s b o/\∀(j':Nat) (p':Ref),g.ro<=j'->ps[j']? =some p'->p'.s=p.s->¬Φj j' b o:=λb o ⟨q1,q2⟩=>
          ⟨q1,λj' p' _ q4 q5=>by rw [hinj' _ _ _ _ q4 h1 q5];exact q2⟩
         have hjl:=hpslt _ _ h1
         have hnj:=hnmj _ hjl

         have hstay:U.nf<=nm (g.ro+j)->∀i,c2.L p.s i=c.L p.s i:=λhn=>hc2o p.s hnewt λj' hj' hjs=>by
          rcases Nat.lt_or_ge p.s U.nf with h9|h9
          ·exfalso
           have hjl':j' < g.heap.length:=by rw [←hnl];exact (List.getElem?_eq_some_iff.1 hjs).1
           have hp':ps[j']? =some ps[j']:=List.getElem?_eq_getElem (by rw [hplen];exact hjl')
           rcases (hnm j' _ p.s hp' hjs).2 with q2|⟨f,u,q1,q3,q4,q5⟩
           ·omega
           ·have:=hinj' _ _ _ _ hp' h1 (by rw [q3];exact q4.symm)
            subst this
            have e9:=Option.some.inj (hnj.symm.trans hjs)
            omega
          ·exact h9
         have hlo:∀i,c'.L (nm (g.ro+j)) i=Lof c' ⟨nm (g.ro+j),0,0,NK.isRow k,none⟩ i:=λi=>by
          cases hr:NK.isRow k with
          |true=>simp [Lof]
          |false=>
           have hpr:p.row=false:=by rw [Z6P h5];exact hr
           by_cases hi:i=0
           ·subst hi
            obtain ⟨q,hq⟩:=(hpL _ p h1 hpr).lof hpr
            rw [←hLown _ p h1 (hkind _ p h1 hpr) 0] at hq
            simp [Lof,hq]
           ·rw [hLown _ p h1 (hkind _ p h1 hpr) i,Z8c hpr hi,Z8c rfl hi]
         have:=h6.back c2 c' w' (nm (g.ro+j)) y' (Fy (g.ro+j - g.ro)) hle (λhr=>⟨hstay (hkind _ p h1 hr),hLown _ p h1 (hkind _ p h1 hr)⟩) (λhr=>by
           rcases (hnm _ p _ h1 hnj).2 with q2|⟨f,u,q1,q3,q4,q5⟩
           ·intro i
            rw [hstay q2.2 i,hLown _ p h1 q2.2 i]
            simp [Lof,hr]
           ·intro i
            rw [q3,←q4]
            exact hc2F _ (by rw [q4];exact q5) i) hc'c2
          (h7.is_ c' (nm (g.ro+j)) (.refl c') hlo) (hagr (hsomeps _ _ h1) hR)
          λb o q1 q2 q3=>hkeep (hsomeps _ _ h1) q1 (hR b o ⟨q1,q2⟩).2 (hyfrom (by omega) h1 q3)
         refine this.iff λb o=>?_
         rw [hΦo hnewt]
         constructor
         ·rintro (q|q)
          ·exact .inl (hR b o q)
          ·exact .inr ⟨g.ro+j,p,by omega,h1,rfl,q⟩
         ·rintro (⟨q1,q2⟩|⟨j',p',q1,q2,q3,q4⟩)
          ·exact .inl ⟨q1,q2 _ p (by omega) h1 rfl⟩
          ·have:=hinj' _ _ _ _ q2 h1 q3
           subst this
           exact .inr q4
        |none=>
         rw [hpt] at he
         simp only at he
         have ht:(get h t).isSome:=by simp [he]
         have hno:∀(j:Nat) (p:Ref),g.ro<=j->ps[j]? =some p->p.s=t->False:=λj p h1 h2 h3=>by
          have:t∈(Q5Y (g.heap.drop g.ro) (ps.drop g.ro) r.2.1 h).map (·.1):=by
           rw [Z3U _ _ _ _ (by simp [hplen])]
           refine List.mem_map.2 ⟨p,List.mem_of_getElem? (i:=j - g.ro) ?_,h3⟩
           rw [List.getElem?_drop,show g.ro+(j - g.ro)=j by omega];exact h2
          have:=Z1n this
          rw [hpt] at this;cases this
         have hc2t:∀i,c2.L t i=c.L t i:=hc2o t hnewt λj hj hjs=>by
          rcases Nat.lt_or_ge t U.nf with h1|h1
          ·exfalso
           have hjl:j < g.heap.length:=by rw [←hnl];exact (List.getElem?_eq_some_iff.1 hjs).1
           have hp:ps[j]? =some ps[j]:=List.getElem?_eq_getElem (by rw [hplen];exact hjl)
           rcases (hnm j _ t hp hjs).2 with h2|⟨f,u,_,h3,h4,_⟩
           ·omega
           ·exact hno j _ hj hp (by rw [h3];exact h4.symm)
          ·exact h1
         refine ((hg.Q1M t e he).stays hU hle hc2t (hagr ht λb o hf=>⟨hf,λj p h1 h2 h3=>(hno j p h1 h2 h3).elim⟩)).iff λb o=>?_
         rw [hΦo hnewt]
         constructor
         ·intro q;exact .inl ⟨q,λj p h1 h2 h3=>(hno j p h1 h2 h3).elim⟩
         ·rintro (⟨q1,_⟩|⟨j,p,h1,h2,h3,_⟩)
          ·exact q1
          ·exact (hno j p h1 h2 h3).elim
      ·-- apart
       have mixed:∀{s s':Nat},(nx<=s/\s < nx+g.new.length)->¬(nx<=s'/\s' < nx+g.new.length)->(get h s').isSome->Φ2 s b o->Φ2 s' b o->False:=λ{s s'} q1 q2 q3 q4 q5=>by
        rw [hΦn q1] at q4
        rcases (hΦo q2 b o).1 q5 with ⟨q6,q7⟩|⟨j,p,q6,q7,_,q9⟩
        ·exact hkeep q3 q6 q7 (hzfrom (by omega) q4)
        ·obtain ⟨p1,r1,r2,r3⟩:=hznew (by omega) q4
         obtain ⟨r4,r5⟩:=hynew q6 q7 q9
         have:=hprf _ _ r1
         have:=hnlt j _ (hnmj j (hpslt _ _ q7))
         exact hG'.apart p1.s (nm j) b o (by omega) r2 r4 r3 r5
       by_cases ht:nx<=t/\t < nx+g.new.length
       ·by_cases ht':nx<=t'/\t' < nx+g.new.length
        ·rw [hΦn ht] at h3
         rw [hΦn ht'] at h4
         obtain ⟨p,h5,h6,h7⟩:=hznew (by omega) h3
         obtain ⟨p',h8,h9,h10⟩:=hznew (by omega) h4
         by_cases e:p.s=p'.s
         ·have:=hprinj _ _ _ _ h5 h8 e;omega
         ·exact hG'.apart p.s p'.s b o e h6 h9 h7 h10
        ·exact mixed ht ht' (hcase t' h2 ht') h3 h4
       ·by_cases ht':nx<=t'/\t' < nx+g.new.length
        ·exact mixed ht' ht (hcase t h1 ht) h4 h3
        ·rcases (hΦo ht b o).1 h3 with ⟨q1,q2⟩|⟨j,p,q1,q2,q3,q4⟩
         ·rcases (hΦo ht' b o).1 h4 with ⟨q5,_⟩|⟨j',p',q5,q6,_,q8⟩
          ·exact hg.apart t t' b o hne (hcase t h1 ht) (hcase t' h2 ht') q1 q5
          ·exact hkeep (hcase t h1 ht) q1 q2 (hyfrom q5 q6 q8)
         ·rcases (hΦo ht' b o).1 h4 with ⟨q5,q6⟩|⟨j',p',q5,q6,q7,q8⟩
          ·exact hkeep (hcase t' h2 ht') q5 q6 (hyfrom q1 q2 q4)
          ·obtain ⟨r1,r2⟩:=hynew q1 q2 q4
           obtain ⟨r3,r4⟩:=hynew q5 q6 q8
           refine hG'.apart (nm j) (nm j') b o (λe=>hne ?_) r1 r3 r2 r4
           have e:=hninj j j' (nm j) (hnmj j (hpslt _ _ q2)) (e▸hnmj j' (hpslt _ _ q6))
           subst e
           rw [q2] at q6;cases q6
           rw [←q3,←q7]
      ·-- what is never written again
       show c'.I b o=none
       by_cases ht:nx<=t/\t < nx+g.new.length
       ·rw [hΦn ht] at h2
        obtain ⟨p,h5,h6,h7⟩:=hznew (by omega) h2
        exact hG'.Q15 p.s b o h6 h7
       ·have hts:=hcase t h1 ht
        rcases (hΦo ht b o).1 h2 with ⟨q1,q2⟩|⟨j,p,q1,q2,q3,q4⟩
        ·cases hI:c'.I b o with
         |none=>rfl
         |some v=>
          exfalso
          rcases hE.Q32 b o v hI with h3|h3
          ·rw [show c0.I=c.I from rfl,hg.Q15 t b o hts q1] at h3;cases h3
          ·exact hkeep hts q1 q2 h3
        ·obtain ⟨r1,r2⟩:=hynew q1 q2 q4
         exact hG'.Q15 (nm j) b o r1 r2
      ·obtain ⟨s,h1,h2,h3⟩:=hF
       obtain ⟨j,x,p,q1,_,h4,_,h5⟩:=hin0 h2
       rw [hΦ0 j s q1] at h3
       exact ⟨p.s,(hwn p.s).2 (.inr ⟨j,p,(hroj j s q1).2 h1,h4,rfl⟩),h5.here,h5.sub _ _ h3⟩
      ·have h1:¬(nx<=s/\s < nx+g.new.length):=λhn=>hs ((hwn s).2 (.inl hn))
       funext b o
       refine propext ((hΦo h1 b o).trans ⟨?_,λq=>.inl ⟨q,λj p q1 q2 q3=>(hs ((hwn s).2 (.inr ⟨j,p,q1,q2,q3⟩))).elim⟩⟩)
       rintro (⟨q,_⟩|⟨j,p,q1,q2,q3,_⟩)
       ·exact q
       ·exact (hs ((hwn s).2 (.inr ⟨j,p,q1,q2,q3⟩))).elim
      ·have hfrom:From b o->w.heap.size<=b\/∃s',s'∈out.w.map (·.1)/\(get h s').isSome/\Φ s' b o:=λhf=>by
        rcases hf with h1|⟨s',h1,h2,h3⟩
        ·exact .inl h1
        ·obtain ⟨j,x,p,q1,_,h4,_,h5⟩:=hin0 h2
         rw [hΦ0 j s' q1] at h3
         exact .inr ⟨p.s,(hwn p.s).2 (.inr ⟨j,p,(hroj j s' q1).2 h1,h4,rfl⟩),h5.here,h5.sub _ _ h3⟩
       by_cases ht:nx<=s/\s < nx+g.new.length
       ·rw [hΦn ht] at hF;exact hfrom (hzfrom (by omega) hF)
       ·rcases (hΦo ht b o).1 hF with ⟨q1,_⟩|⟨j,p,q1,q2,_,q4⟩
        ·rcases (hwn s).1 hs with h5|⟨j,p,h5,h6,rfl⟩
         ·exact absurd h5 ht
         ·exact .inr ⟨p.s,hs,hsomeps j p h6,q1⟩
        ·exact hfrom (hyfrom q1 q2 q4)
      ·rw [hnw]
       rcases (hwn s).1 hs with h5|⟨j,p,h5,h6,rfl⟩
       ·exact .inl h5
       ·exact .inr (hsomeps j p h6)
      ·rcases hE.Q32 b o v hI with h3|h3|⟨s',h3,h4,h5⟩
       ·exact .inl h3
       ·exact .inr (.inl h3)
       ·obtain ⟨j,x,p,q1,_,h6,_,h7⟩:=hin0 h4
        rw [hΦ0 j s' q1] at h5
        exact .inr (.inr ⟨p.s,(hwn p.s).2 (.inr ⟨j,p,(hroj j s' q1).2 h3,h6,rfl⟩),h7.here,h7.sub _ _ h5⟩)
    ·exact (Z1 ho).elim
   ·exact (Z1 ho).elim
  ·exact (Z1 ho).elim
 ·exact (Z1 ho).elim
theorem Sig.Qac (hU:U.Ok) {g:Sig U} {F:g.F} {f:Nat} (h0:Zi U P f (g.Q4O F)):Zi U P f (g.Q5V F):=by
 intro as h' nx out ho c Φ h w vs hg hag hfresh hRA
 unfold Sig.Q5V at ho
 split at ho
 ·exact h0 as h' nx out ho c Φ h w vs hg hag hfresh hRA
 ·rename_i l hne
  obtain ⟨o,h1,rfl⟩:=Z34 ho
  have hc:ZC (Q4q (g.Q6b as) h') h=ZC (Q4q (g.Q6b as) h') h':=Z5K _ h h' λx hx=>hag x (.inl (List.mem_append_left _ hx))
  obtain ⟨Φ1,h2⟩:=Z2G (nx:=nx) hU (Q4q (g.Q6b as) h') h Φ hg
  rw [hc] at h2
  have h4:=h0 as _ nx o h1 c Φ1 (ZC (Q4q (g.Q6b as) h') h'++h) w vs h2.g (λx hx=>by
   rw [Zh,Zh]
   cases hm:get (ZC (Q4q (g.Q6b as) h') h') x with
   |some e=>rfl
   |none=>
    refine hag x ?_
    rcases hx with hx|hx
    ·exact .inl (List.mem_append_right _ hx)
    ·exact .inr (by rw [List.map_append];exact List.mem_append_left _ hx)) (λs h5 h6=>by
   obtain ⟨h7,h8⟩:=hfresh s h5 h6
   refine ⟨?_,h8⟩
   rw [Zh]
   by_cases hm:s∈(ZC (Q4q (g.Q6b as) h') h').map (·.1)
   ·rcases h2.names s hm with ⟨h9,h10⟩|h9
    ·have h10:s < nx+0:=h10
     omega
    ·rw [h7] at h9;cases h9
   ·rw [Zg hm];exact h7) hRA
  refine h4.mono ?_
  rintro v w' ⟨c',Φ',h5⟩
  have:=h2.comp (rd:=Z4p (Q4q (g.Q6b as) h') h'++o.rd) h5
  simp only [Nat.zero_add] at this
  exact ⟨c',Φ',this⟩
theorem Q9K {g:Sig U} {F:g.F} {as:List (A U)} {h:Qr U} {nx:Nat} {r:Ts U g.Q3r×HTs U (g.heap.drop g.ro)×HTs U g.new} (ht:g.Q9t F as h nx=some r):
  (g.Q4O F as h nx).outs=some (g.Q5S (g.Q7u as) (g.Q9u as) h nx r):=by
 unfold Sig.Q9t at ht
 unfold Sig.Q4O Sig.Q9u Sig.Q7u
 cases hu:unA as with
 |none=>rw [hu] at ht;cases ht
 |some vs=>
  rw [hu] at ht
  simp only at ht ⊢
  cases hd:Z1U g.Q3W vs with
  |none=>rw [hd] at ht;cases ht
  |some a=>
   rw [hd] at ht
   cases hp:Q66 g.Q3W vs with
   |none=>rw [hp] at ht;cases ht
   |some prs=>
    rw [hp] at ht
    simp only at ht ⊢
    cases hr:Z10 g.heap prs with
    |none=>rw [hr] at ht;cases ht
    |some ps=>
     rw [hr] at ht
     simp only at ht ⊢
     cases hv:views g.heap ps h with
     |none=>rw [hv] at ht;cases ht
     |some xs=>
      rw [hv] at ht
      simp only at ht ⊢
      cases hb:distinct (ps.map (·.s)) && Z13 prs g.Q3W vs && Nat.ble U.nf nx && Z2A prs g.Q3r with
      |false=>rw [hb] at ht;cases ht
      |true=>
       rw [hb] at ht
       simp only [cond_true] at ht ⊢
       simp [OpR.outs,ht]
theorem Z4G:∀(ss:List (Sh U.C)) (vs:List (V U)) (k0 k f:Nat) (x:Option Nat),Z3w ss vs k0=some (k,f,x)->∃j,k=k0+j/\vs[j]? =some ⟨false,[.ref f x]⟩
 | [],vs,k0,k,f,x,h=>by cases vs <;> cases h
 |s::ss,[],k0,k,f,x,h=>by cases s <;> cases h
 |s::ss,v::vs,k0,k,f,x,h=>by
  have rest:Z3w ss vs (k0+1)=some (k,f,x)->∃j,k=k0+j/\(v::vs)[j]? =some ⟨false,[.ref f x]⟩:=λh=>by
   obtain ⟨j,h3,h4⟩:=Z4G ss vs (k0+1) k f x h
   exact ⟨j+1,by omega,by simpa using h4⟩
  unfold Z3w at h
  split at h
  ·rename_i h1 h2
   cases h
   cases h2
   exact ⟨0,rfl,rfl⟩
  ·rename_i h1 h2
   cases h1;cases h2
   exact rest h
  ·cases h
theorem RAs.set {c:Cx} {as:List (A U)} {vs:List Value} {k f i:Nat} (h:RAs U c as vs) (hk:as[k]? =some (sc (.ref f (some i)))):RAs U c (Z1a as k f i) vs:=by
 refine ⟨by simp [Z1a,h.len],λj x hj=>?_⟩
 unfold Z1a at hj
 by_cases e:k=j
 ·subst e
  have hlt:=(List.getElem?_eq_some_iff.1 hk).1
  rw [List.getElem?_set_self hlt] at hj
  cases hj
  obtain ⟨v,h1,h2⟩:=h.at_ k _ hk
  refine ⟨v,h1,?_⟩
  cases (show R U c (.ref f (some i)) v from h2) with
  |Q5c hf h0=>exact R.ptr (off:=0) h0
 ·rw [List.getElem?_set_ne e] at hj
  exact h.at_ j x hj
theorem Sig.Q8N {g:Sig U} {F:g.F} {f:Nat} (h0:Zi U P f (g.Q4O F)) (h1:Zi U P f (g.Q5V F)):Zi U P f (g.native F):=by
 intro as h' nx out ho c Φ h w vs hg hag hfresh hRA
 unfold Sig.native at ho
 split at ho
 ·rename_i vxs hu
  have hasv:=Z7d as vxs hu
  split at ho
  ·exact h1 as h' nx out ho c Φ h w vs hg hag hfresh hRA
  ·rename_i k fa x hr
   obtain ⟨j,e1,hj⟩:=Z4G _ _ _ _ _ _ hr
   have e1:k=j:=by omega
   subst e1
   have hk:as[k]? =some (sc (.ref fa x)):=by rw [hasv,List.getElem?_map,hj];rfl
   split at ho
   ·cases x with
    |none=>cases ho
    |some i=>
     simp only [OpR.outs,Option.map_eq_some_iff] at ho
     obtain ⟨q,ho,rfl⟩:=ho
     split at ho
     ·rename_i r ht
      cases ho
      exact h0 (Z1a as k fa i) h' nx _ (Q9K ht) c Φ h w vs hg hag hfresh (hRA.set hk)
     ·cases ho
   ·rename_i k2 f2 x2 hr2
    obtain ⟨j2,e2,hj2⟩:=Z4G _ _ _ _ _ _ hr2
    have e2:k2=j2:=by omega
    subst e2
    cases x with
    |none=>cases ho
    |some i=>
     cases x2 with
     |none=>cases ho
     |some i2=>
      simp only [OpR.outs,Option.map_eq_some_iff] at ho
      obtain ⟨q,ho,rfl⟩:=ho
      split at ho
      ·rename_i r ht
       cases ho
       have hne:k≠k2:=λe=>by
        subst e
        have hlt:k < vxs.length:=(List.getElem?_eq_some_iff.1 hj).1
        rw [List.getElem?_set_self hlt] at hj2
        cases hj2
       rw [List.getElem?_set_ne hne] at hj2
       have hk2:(Z1a as k fa i)[k2]? =some (sc (.ref f2 (some i2))):=by
        unfold Z1a
        rw [List.getElem?_set_ne hne,hasv,List.getElem?_map,hj2];rfl
       exact h0 _ h' nx _ (Q9K ht) c Φ h w vs hg hag hfresh ((hRA.set hk).set hk2)
      ·cases ho
 ·exact (Z1 ho).elim
theorem Sig.ok (g:Sig U) (F:g.F) (hP:U.Pure) {Hn:Hints U} {L:Code->Prop} (hH:Q3c U P Hn L) {f:Nat} {fn:Func} {code:Code} (hf:P.funcs[f]? =some fn) (hb:fn.body=some code)
  (hname:(fn.name== "runtime.NumGoroutine")=false) (hL:∀b,b∈Z3 code->L b) {gos:Nat} (hro:Hn.ro=g.roN) (hbase:Hn.base=g.base) (hgood:g.Q6X=true)
  (heq:∀a xs,Q6U P Hn fn gos none g.fin (g.args a) (g.start xs) g.base=F a xs) (hn:g.Q3W.length<=fn.ntmps):Zi U P f (g.native F):=
 Sig.Q8N (Sig.ok0 g F hP hH hf hb hname hL hro hbase hgood heq hn) (Sig.Qac hH.u (Sig.ok0 g F hP hH hf hb hname hL hro hbase hgood heq hn))
end Go.Rf
namespace Go.Rf
set_option linter.unusedVariables false
set_option linter.unusedSimpArgs false
variable {U : QV} {P : Program}
theorem QaR {k:IntKind} {n:Int} (h:(Lit.int k n).wf=true):okV (.int k n)=true:=by
 cases k <;> first|rfl|exact Z4j (by have:=bounds_u8 h;omega)
inductive Q2Q (U:QV) (P:Program):TypeId->List U.S->Prop
 |int {t:TypeId} {k:IntKind} {n:Int} (ht:P.underlying t=some (.int k)) (hw:(Lit.int k n).wf=true):Q2Q U P t [.val (.int k n)]
 |bool {t:TypeId} {b:Bool} (ht:P.underlying t=some .bool):Q2Q U P t [.val (.bool b)]
 |str {t:TypeId} {s:ByteArray} (ht:P.underlying t=some .string) (hs:s.size<=reachBytes):Q2Q U P t [.val (.string s)]
 |sl {t e:TypeId} {u:U.C} {xs:List (U.D u)} (ht:P.underlying t=some (.slice e)) (hu:U.ofType e=some u) (hn:xs.length*P.bytesOf e<=reachBytes)
   (hx:∀x∈xs,Q2Q U P e (U.enc u x)):Q2Q U P t [.isl .none u xs]
 |struct {t:TypeId} {fs:Array Field} {l:List U.S} (ht:P.underlying t=some (.struct fs)) (hl:l.length=P.cellsOf t)
   (hf:∀f∈fs.toList,Q2Q U P f.type ((l.drop f.offset).take (P.cellsOf f.type))):Q2Q U P t l
theorem Q2Q.toInt {t:TypeId} {k:IntKind} {l:List U.S} (h:Q2Q U P t l) (ht:P.underlying t=some (.int k)):∃n,l= [.val (.int k n)]/\(Lit.int k n).wf=true:=by
 cases h with
 |int h1 hw=>rw [ht] at h1;cases h1;exact ⟨_,rfl,hw⟩
 |bool h1=>rw [ht] at h1;cases h1
 |str h1=>rw [ht] at h1;cases h1
 |sl h1=>rw [ht] at h1;cases h1
 |struct h1=>rw [ht] at h1;cases h1
theorem Q2Q.toBool {t:TypeId} {l:List U.S} (h:Q2Q U P t l) (ht:P.underlying t=some .bool):∃b,l= [.val (.bool b)]:=by
 cases h <;> simp_all
theorem Q2Q.toStr {t:TypeId} {l:List U.S} (h:Q2Q U P t l) (ht:P.underlying t=some .string):∃s,l= [.val (.string s)]/\s.size<=reachBytes:=by
 cases h <;> simp_all
theorem Q2Q.Q8n {t e:TypeId} {u:U.C} {l:List U.S} (h:Q2Q U P t l) (ht:P.underlying t=some (.slice e)) (hu:U.ofType e=some u):∃xs:List (U.D u),l= [.isl .none u xs]/\xs.length*P.bytesOf e<=reachBytes/\∀x∈xs,Q2Q U P e (U.enc u x):=by
 cases h with
 |sl ht' hu' hn hx=>
  rw [ht] at ht';cases ht'
  rw [hu] at hu';cases hu'
  exact ⟨_,rfl,hn,hx⟩
 |int h1=>rw [ht] at h1;cases h1
 |bool h1=>rw [ht] at h1;cases h1
 |str h1=>rw [ht] at h1;cases h1
 |struct h1=>rw [ht] at h1;cases h1
def Z1M (w:World):Cx:={ L:=λ_ _=>none,I:=λb o=>w.cell? (at_ b o)}
def Q6A (P:Program):List Field->Nat->Option Nat
 | [],o=>some o
 |f::r,o=>bif Nat.beq f.offset o then Q6A P r (o+P.cellsOf f.type) else none
def Z3A (U:QV) (P:Program) (dT:TypeId->Bool):Nat->TypeId->Bool
 |0,_=>false
 |d+1,t=>match P.underlying t with
  |some (.int _)=>true
  |some .bool=>true
  |some .string=>true
  |some (.slice e)=>(dT e && match U.ofType e with|some u=>Nat.beq (U.size u) (P.cellsOf e) && Nat.ble 1 (P.cellsOf e)|none=>false) && Z3A U P dT d e
  |some (.struct fs)=>(match Q6A P fs.toList 0 with|some n=>Nat.beq n (P.cellsOf t)|none=>false) && fs.toList.all λf=>Z3A U P dT d f.type
  |_=>false
def Q9o (U:QV) (P:Program) (dT:TypeId->Bool):Prop:=∀e u l,dT e=true->U.ofType e=some u->Q2Q U P e l->∃x,U.dec u l=some x/\Q2Q U P e (U.enc u x)
theorem cells?_ok {w:World} {a:Addr} {n:Nat} {cs:List Value} (h:w.cells? 0 a n=some cs):cs.length=n/\∀i,i < n->w.cell? (a.add i)=cs[i]? :=by
 unfold World.cells? at h
 rw [if_pos (Nat.zero_le _)] at h
 refine ⟨by simpa using mapM_some_length h,λi hi=>mapM_some_get h i i (by simp [hi])⟩
theorem Z7y:∀(fs:List Field) (o n:Nat),Q6A P fs o=some n->o<=n/\∀f∈fs,o<=f.offset/\f.offset+P.cellsOf f.type<=n
 | [],o,n,h=>by cases h;exact ⟨Nat.le_refl _,λf hf=>by cases hf⟩
 |f::r,o,n,h=>by
  unfold Q6A at h
  cases hb:Nat.beq f.offset o with
  |false=>rw [hb] at h;cases h
  |true=>
   rw [hb] at h
   have e:=QH hb
   obtain ⟨h1,h2⟩:=Z7y r _ n h
   refine ⟨by omega,λg hg=>?_⟩
   rcases List.mem_cons.1 hg with rfl|hg
   ·omega
   ·have:=h2 g hg;omega
theorem assemble {c:Cx} {cs:List Value}:∀(fs:List Field) (o n:Nat),Q6A P fs o=some n->n<=cs.length->
  (∀f∈fs,∃l,RL U c l ((cs.drop f.offset).take (P.cellsOf f.type))/\Q2Q U P f.type l)->
  ∃l,RL U c l ((cs.drop o).take (n - o))/\∀f∈fs,Q2Q U P f.type ((l.drop (f.offset - o)).take (P.cellsOf f.type))
 | [],o,n,h,hn,hf=>by
  cases h
  refine ⟨[],?_,λf hf=>by cases hf⟩
  simp;exact .nil
 |f::r,o,n,h,hn,hf=>by
  unfold Q6A at h
  cases hb:Nat.beq f.offset o with
  |false=>rw [hb] at h;cases h
  |true=>
   rw [hb] at h
   have e:=QH hb
   obtain ⟨h1,h2⟩:=Z7y r _ n h
   obtain ⟨lr,h3,h4⟩:=assemble r _ n h hn λg hg=>hf g (List.mem_cons_of_mem _ hg)
   obtain ⟨lf,h5,h6⟩:=hf f (List.mem_cons_self ..)
   have hlen:lf.length=P.cellsOf f.type:=by
    have:=h5.len
    simp at this
    omega
   refine ⟨lf++lr,?_,λg hg=>?_⟩
   ·have h7:=h5.append h3
    rw [e] at h7
    have:(cs.drop o).take (P.cellsOf f.type)++(cs.drop (o+P.cellsOf f.type)).take (n - (o+P.cellsOf f.type))=(cs.drop o).take (n - o):=by
     rw [←List.drop_drop,show n - o=P.cellsOf f.type+(n - (o+P.cellsOf f.type)) by omega,List.take_add]
    rwa [this] at h7
   ·rcases List.mem_cons.1 hg with rfl|hg
    ·rw [e,Nat.sub_self,List.drop_zero,List.take_append_of_le_length (by omega),List.take_of_length_le (by omega)];exact h6
    ·have h8:=(h2 g hg).1
     rw [List.drop_append,List.drop_eq_nil_of_le (by omega),List.nil_append,hlen,show g.offset - o - P.cellsOf f.type=g.offset - (o+P.cellsOf f.type) by omega]
     exact h4 g hg
theorem Z57 {H:Type}:∀{e:TypeId} {ds:List (DataW H)} {d:DataW H},d∈ds->∀n∈d.weights P e,n∈DataW.weightsAll P e ds
 |e,[],d,h,n,hn=>by cases h
 |e,d0::ds,d,h,n,hn=>by
  simp only [DataW.weightsAll,List.mem_append]
  rcases List.mem_cons.1 h with rfl|h
  ·exact .inl hn
  ·exact .inr (Z57 h n hn)
theorem Z6f {H:Type} {enc:TypeId×Value->H} {w:World} {spare:Nat->Bool} {held:Bool} (hU:U.Ok) {dT:TypeId->Bool} (hD:Q9o U P dT):∀(fuel d:Nat) (t:TypeId) (cs:List Value) (x:DataW H×List MemPlace),
  DataW.trod enc P w 0 spare held fuel t cs=some x->Z3A U P dT d t=true->(∀n∈x.1.weights P t,n<=reachBytes)->∃l,RL U (Z1M w) l cs/\Q2Q U P t l
 |0,d,t,cs,x,h,hp,hw=>by simp [DataW.trod] at h
 |fuel+1,0,t,cs,x,h,hp,hw=>by cases hp
 |fuel+1,d+1,t,cs,x,h,hp,hw=>by
  unfold Z3A at hp
  cases hu:P.underlying t with
  |none=>rw [hu] at hp;cases hp
  |some desc=>
   rw [hu] at hp
   cases desc <;> simp only at hp <;> try (cases hp;done)
   case int k=>
    unfold DataW.trod at h
    rw [hu] at h
    split at h <;> try (simp_all;done)
    rename_i k2 k' n heq
    simp only [Option.some.injEq,TypeDesc.int.injEq] at heq
    subst heq
    split at h
    ·rename_i hc
     obtain ⟨rfl,h1⟩:=hc
     exact ⟨[.val (.int k' n)],.cons (.val (QaR h1)) .nil,.int hu h1⟩
    ·cases h
   case bool=>
    unfold DataW.trod at h
    rw [hu] at h
    split at h <;> simp_all
    rename_i b
    exact ⟨[.val (.bool b)],.cons (.val rfl) .nil,.bool hu⟩
   case string=>
    unfold DataW.trod at h
    rw [hu] at h
    split at h <;> simp_all
    rename_i s
    obtain ⟨h1,rfl⟩:=h
    refine ⟨[.val (.string s)],.cons (.val rfl) .nil,.str hu ?_⟩
    have:=hw s.data.toList.length (by simp [DataW.weights])
    simpa using this
   case slice e=>
    rw [Bool.and_eq_true,Bool.and_eq_true] at hp
    obtain ⟨⟨hpd,hp1⟩,hp2⟩:=hp
    cases hue:U.ofType e with
    |none=>rw [hue] at hp1;cases hp1
    |some u=>
     rw [hue] at hp1
     simp only [Bool.and_eq_true] at hp1
     have hsz:=QH hp1.1
     have hpos:=Nat.le_of_ble_eq_true hp1.2
     unfold DataW.trod at h
     rw [hu] at h
     split at h <;> try (simp_all;done)
     ·refine ⟨[.isl .none u []],.cons ?_ .nil,.sl hu hue (by simp) (λx hx=>by cases hx)⟩
      exact R.isl (xs:= []) (b:=0) (o:=0) (λ_ _=>undef) (Nat.le_refl _) trivial (λhh=>by simp at hh) (λi k hi=>by simp at hi) (λi k hi=>by simp at hi)
     ·rename_i a len cap heq
      simp only [Option.some.injEq,TypeDesc.slice.injEq] at heq
      subst heq
      simp only at h
      split at h
      ·rename_i hcond
       obtain ⟨hb,hlc,hcm⟩:=hcond
       simp only [Option.bind_eq_some_iff,Option.map_eq_some_iff] at h
       obtain ⟨elems,hel,rest,hrest,rfl⟩:=h
       have helen:elems.length=len:=by simpa using mapM_some_length hel
       have hwe:∀(i:Nat) y,elems[i]? =some y->∀n∈y.1.weights P e,n<=reachBytes:=λi y hy n hn=>by
        refine hw n ?_
        simp only [DataW.weights,hu,List.mem_cons,List.mem_append]
        exact .inr (.inl (Z57 (List.mem_map.2 ⟨y,List.mem_of_getElem? hy,rfl⟩) n hn))
       have hone:∀i,i < len->∃(x:U.D u) (vs:List Value),Q2Q U P e (U.enc u x)/\RL U (Z1M w) (U.enc u x) vs/\∀k,k < U.size u->w.cell? ((a.add (i*P.cellsOf e)).add k)=vs[k]? :=λi hi=>by
        have h1:=mapM_some_get hel i i (by simp [hi])
        have hy:elems[i]? =some elems[i]:=List.getElem?_eq_getElem (by omega)
        rw [hy,Option.bind_eq_some_iff] at h1
        obtain ⟨vs,h2,h3⟩:=h1
        obtain ⟨h4,h5⟩:=cells?_ok h2
        obtain ⟨l,h6,h7⟩:=Z6f hU hD fuel d e vs _ h3 hp2 (hwe i _ hy)
        obtain ⟨x,h8,h9⟩:=hD e u l hpd hue h7
        exact ⟨x,vs,h9,hU.Q4M u l x h8 _ _ h6,λk hk=>h5 k (by omega)⟩
       let pick:Nat->U.D u:=λi=>if hi:i < len then (hone i hi).choose else U.dft u
       let xs:List (U.D u):=(List.range len).map pick
       have hxl:xs.length=len:=by simp [xs]
       have hxi:∀i,i < len->xs.getD i (U.dft u)=pick i:=λi hi=>by simp [xs,List.getD,hi]
       have hpick:∀i (hi:i < len),∃vs:List Value,Q2Q U P e (U.enc u (pick i))/\RL U (Z1M w) (U.enc u (pick i)) vs/\∀k,k < U.size u->w.cell? ((a.add (i*P.cellsOf e)).add k)=vs[k]? :=λi hi=>by
        simp only [pick,dif_pos hi];exact (hone i hi).choose_spec
       have haddr:0 < len->a=at_ a.block a.off:=λhpos'=>by
        obtain ⟨vs,h1,h2,h3⟩:=hpick 0 hpos'
        have h4:=h3 0 (by omega)
        have h5:0 < vs.length:=by rw [h2.len,hU.QD];omega
        rw [List.getElem?_eq_getElem h5] at h4
        have h6:w.cell? a=some vs[0]:=by simpa [Addr.add] using h4
        unfold World.cell? at h6
        split at h6
        ·split at h6
         ·cases h6
         ·rename_i hs
          obtain ⟨b,o,s⟩:=a
          cases s with
          |none=>rfl
          |some _=>simp at hs
        ·cases h6
       have hmain:R U (Z1M w) (.isl .none u xs) (.slice (some a) xs.length cap):=by
        refine R.isl (b:=a.block) (o:=a.off) (λi k=>(w.cell? (at_ a.block (a.off+(i*U.size u+k)))).getD undef) (by omega) trivial (λhh=>by rw [←haddr (by omega)]) (λi k hi hk=>?_) (λi k hi hk=>?_)
        ·rw [hxl] at hi
         obtain ⟨vs,h1,h2,h3⟩:=hpick i hi
         have h4:=h3 k hk
         have h5:k < vs.length:=by rw [h2.len,hU.QD];exact hk
         rw [List.getElem?_eq_getElem h5,haddr (by omega),Zq,Zq,←hsz,Nat.add_assoc] at h4
         show w.cell? _=_
         rw [h4];rfl
        ·rw [hxl] at hi
         obtain ⟨vs,h1,h2,h3⟩:=hpick i hi
         have h4:=h3 k hk
         have h5:k < vs.length:=by rw [h2.len,hU.QD];exact hk
         have h6:k < (U.enc u (pick i)).length:=by rw [hU.QD];exact hk
         rw [List.getElem?_eq_getElem h5,haddr (by omega),Zq,Zq,←hsz,Nat.add_assoc] at h4
         obtain ⟨v,h7,h8⟩:=h2.at_ k _ (List.getElem?_eq_getElem h6)
         rw [List.getElem?_eq_getElem h5] at h7
         simp only [Option.some.injEq] at h7
         subst h7
         rw [h4,hxi i hi,getD_of_getElem? (List.getElem?_eq_getElem h6)]
         exact h8
       rw [hxl] at hmain
       refine ⟨[.isl .none u xs],.cons hmain .nil,.sl hu hue ?_ λy hy=>?_⟩
       ·rw [hxl]
        have:=hw ((elems.length+rest.length)*P.bytesOf e) (by simp [DataW.weights,hu])
        rw [Nat.add_mul,helen] at this
        omega
       ·obtain ⟨i,hi⟩:=List.getElem?_of_mem hy
        have hlt:i < len:=by rw [←hxl];exact (List.getElem?_eq_some_iff.1 hi).1
        have:xs.getD i (U.dft u)=y:=getD_of_getElem? hi
        rw [hxi i hlt] at this
        obtain ⟨vs,h1,_⟩:=hpick i hlt
        rw [←this];exact h1
      ·cases h
   case struct fs=>
    rw [Bool.and_eq_true] at hp
    obtain ⟨hp1,hp2⟩:=hp
    obtain ⟨xs,n,hn,rfl,hlen,hxl,hf⟩:=DataW.trod_struct hu h
    simp only [Nat.add_right_cancel_iff] at hn
    subst hn
    rw [List.all_eq_true] at hp2
    cases htl:Q6A P fs.toList 0 with
    |none=>rw [htl] at hp1;cases hp1
    |some m=>
     rw [htl] at hp1
     have hm:=QH hp1
     subst hm
     obtain ⟨l,h1,h2⟩:=assemble (U:=U) (c:=Z1M w) (cs:=cs) fs.toList 0 (P.cellsOf t) htl (by omega) λf hfm=>by
      obtain ⟨i,hi⟩:=List.getElem?_of_mem hfm
      have hlt:=(List.getElem?_eq_some_iff.1 hi).1
      have h3:=hf i f (by rw [←Array.getElem?_toList];exact hi)
      have hlx:i < xs.length:=by rw [hxl];simpa using hlt
      have hy:xs[i]? =some xs[i]:=List.getElem?_eq_getElem hlx
      rw [hy] at h3
      refine Z6f hU hD fuel d f.type _ _ h3 (hp2 f hfm) λn hn=>hw n ?_
      simp only [DataW.weights,hu]
      exact DataW.weights_mem_each (j:=i) (t:=f.type) (d:=xs[i].1) (by rw [List.getElem?_map,hi];rfl) (by rw [List.getElem?_map,hy];rfl) n hn
     refine ⟨l,?_,.struct hu ?_ λf hfm=>by simpa using h2 f hfm⟩
     ·rw [List.drop_zero,Nat.sub_zero] at h1
      have:cs.take (P.cellsOf t)=cs:=List.take_of_length_le (by omega)
      rwa [this] at h1
     ·have:=h1.len
      simp at this;omega
end Go.Rf
namespace Go.Rf
set_option linter.unusedVariables false
set_option linter.unusedSimpArgs false
variable {U : QV} {P : Program}
def Z42 (U:QV) (P:Program) (dT:TypeId->Bool) (t:TypeId):Sh U.C->Bool
 | .int k=>match P.underlying t with|some (.int k')=>decide (k'=k)|_=>false
 | .bool=>match P.underlying t with|some .bool=>true|_=>false
 | .str=>match P.underlying t with|some .string=>true|_=>false
 | .isl u=>match P.underlying t with|some (.slice e)=>(match U.ofType e with|some v=>(U.eq? v u).isSome|none=>false)|_=>false
 | .data u=>match P.underlying t with|some (.struct _)=>(match U.ofType t with|some v=>dT t && (U.eq? v u).isSome|none=>false)|_=>false
 |_=>false
def Z7E (U:QV) (P:Program) (dT:TypeId->Bool) (d:Nat):List TypeId->List (Sh U.C)->Bool
 | [],[]=>true
 |t::ts,s::ss=>Z42 U P dT t s && Z3A U P dT d t && Z7E U P dT d ts ss
 |_,_=>false
def Fits (U:QV) (P:Program):List TypeId->(ss:List (Sh U.C))->Ts U ss->Prop
 |t::ts,s::ss,x=>Q2Q U P t (Q64 s x.1 0).l/\Fits U P ts ss x.2
 | [],[],_=>True
 |_,_,_=>False
section
variable {H : Type} {enc : TypeId × Value -> H} {w : World} {spare : Nat -> Bool} {held : Bool}
theorem RL.Q76 {c:Cx} {y:U.S} {v:Value} (h:RL U c [y] v.cells.toList) (hv:v.oneCell'=true):R U c y v:=by
 rw [Z2O hv] at h
 obtain ⟨u,vs,h1,h2,_⟩:=h.Q44
 simp only [List.cons.injEq] at h1
 rw [h1.1];exact h2
theorem Z9u (hU:U.Ok) {dT:TypeId->Bool} (hD:Q9o U P dT) {d:Nat} {t:TypeId} {s:Sh U.C} {v:Value} {x:DataW H} {p:List MemPlace} {r:Reach} {base:Nat} (h:DataW.Trod enc P w 0 spare held t v x p) (hv:Value.okWide P w r base t v) (ho:Z42 U P dT t s=true)
  (hp:Z3A U P dT d t=true) (hw:∀n∈x.weights P t,n<=reachBytes):∃y:s.T U,RV U (Z1M w) (Q64 s y 0) v/\Q2Q U P t (Q64 s y 0).l/\s.Q4S=false:=by
 obtain ⟨fuel,hf⟩:=h
 obtain ⟨l,h1,h2⟩:=Z6f hU hD fuel d t _ _ hf hp hw
 cases s with
 |int k=>
  simp only [Z42] at ho
  split at ho
  ·rename_i k' ht
   have:=of_decide_eq_true ho
   subst this
   obtain ⟨n,rfl,_⟩:=h2.toInt ht
   obtain ⟨n',rfl⟩:=WideShapes.okWide_int ht hv
   exact ⟨n,h1.Q76 rfl,h2,rfl⟩
  ·cases ho
 |bool=>
  simp only [Z42] at ho
  split at ho
  ·rename_i ht
   obtain ⟨n,rfl⟩:=h2.toBool ht
   obtain ⟨n',rfl⟩:=WideShapes.okWide_bool ht hv
   exact ⟨n,h1.Q76 rfl,h2,rfl⟩
  ·cases ho
 |str=>
  simp only [Z42] at ho
  split at ho
  ·rename_i ht
   obtain ⟨n,rfl,_⟩:=h2.toStr ht
   obtain ⟨n',rfl⟩:=WideShapes.okWide_string ht hv
   exact ⟨n,h1.Q76 rfl,h2,rfl⟩
  ·cases ho
 |isl u=>
  simp only [Z42] at ho
  split at ho
  ·rename_i e ht
   split at ho
   ·rename_i v' hu
    cases he:U.eq? v' u with
    |none=>rw [he] at ho;cases ho
    |some pl=>
     obtain ⟨e'⟩:=pl
     subst e'
     obtain ⟨xs,rfl,_⟩:=h2.Q8n ht hu
     obtain ⟨a,len,cap,rfl⟩:=WideShapes.okWide_slice ht hv
     exact ⟨xs,h1.Q76 rfl,h2,rfl⟩
   ·cases ho
  ·cases ho
 |data u=>
  simp only [Z42] at ho
  split at ho
  ·rename_i fs ht
   split at ho
   ·rename_i v' hu
    rw [Bool.and_eq_true] at ho
    obtain ⟨hd,ho⟩:=ho
    cases he:U.eq? v' u with
    |none=>rw [he] at ho;cases ho
    |some pl=>
     obtain ⟨e'⟩:=pl
     subst e'
     obtain ⟨cs,rfl,_⟩:=WideShapes.okWide_struct ht hv
     obtain ⟨y,h3,h4⟩:=hD t _ l hd hu h2
     exact ⟨y,⟨cs,rfl,hU.Q4M _ l y h3 _ _ h1⟩,h4,rfl⟩
   ·cases ho
  ·cases ho
 |ptr=>cases ho
 |Q31 u=>cases ho
 |Q37 u=>cases ho
 |row u=>cases ho
 |ref f=>cases ho
 |Q3p f=>cases ho
 |Q4H _ _ _ _=>cases ho
 |own u=>cases ho
 |flt=>cases ho
 |cpx=>cases ho
theorem Z6u (hU:U.Ok) {dT:TypeId->Bool} (hD:Q9o U P dT) {d:Nat} {r:Reach} {base:Nat}:∀(ts:List TypeId) (ss:List (Sh U.C)) (vs:List Value) (ds:List (DataW H)) (ps:List MemPlace),DataW.TrodAll enc P w 0 spare held ts vs ds ps->
  (∀(j:Nat) t v,ts[j]? =some t->vs[j]? =some v->Value.okWide P w r base t v)->Z7E U P dT d ts ss=true->(∀n∈DataW.weightsEach P ts ds,n<=reachBytes)->
  ∃x:Ts U ss,RVs U (Z1M w) (ZU ss x 0) vs/\Fits U P ts ss x
 | [],[],vs,ds,ps,h,hv,ho,hw=>by
  obtain ⟨rfl,rfl,rfl⟩:=ChangeShapes.trodAll_nil h
  exact ⟨(),⟨rfl,λk x hk=>by simp [ZU] at hk⟩,trivial⟩
 |t::ts,s::ss,vs,ds,ps,h,hv,ho,hw=>by
  obtain ⟨v,vs',dd,ds',p,q,rfl,rfl,rfl,h1,h2⟩:=ChangeShapes.trodAll_cons h
  unfold Z7E at ho
  rw [Bool.and_eq_true,Bool.and_eq_true] at ho
  simp only [DataW.weightsEach,List.mem_append] at hw
  obtain ⟨y,h3,h4,h5⟩:=Z9u hU hD h1 (hv 0 t v rfl rfl) ho.1.1 ho.1.2 λn hn=>hw n (.inl hn)
  obtain ⟨x,h6,h7⟩:=Z6u hU hD ts ss vs' ds' q h2 (λj t v h8 h9=>hv (j+1) t v (by simpa using h8) (by simpa using h9)) ho.2 λn hn=>hw n (.inr hn)
  refine ⟨(y,x),?_,h4,h7⟩
  unfold ZU
  rw [h5]
  exact .cons h3 h6
 | [],s::ss,vs,ds,ps,h,hv,ho,hw=>by cases ho
 |t::ts,[],vs,ds,ps,h,hv,ho,hw=>by cases ho
def Zs (U:QV) (ps:List (Sh U.C)) (fs:List (NK U.C)):Sig U:={ Q3W:=ps,heap:=fs,Q3r:= [.bool],tup:=false,new:= []}
def NK.Q5G {C:Type}:NK C->Bool
 | .fam _ _=>true
 |_=>false
def Q5f:(fs:List (NK U.C))->HTs U fs
 | []=>()
 | .fam _ (.obj u)::r=>((0,λ_=>U.dft u),Q5f r)
 | .fam _ (.map _ _ _ _)::r=>((0,λ_=>[]),Q5f r)
 | .fam _ (.rows _)::r=>((0,λ_=>[]),Q5f r)
 | .obj u::r=>(U.dft u,Q5f r)
 | .row u::r=>((0,λ_=>U.dft u),Q5f r)
 | .tok::r=>((),Q5f r)
theorem Z49:∀(fs:List (NK U.C)) (j:Nat) x,fs.all NK.Q5G=true->Q3f fs (Q5f fs) j=some x->(∃f u,x=⟨.fam f (.obj u),(0,λ_=>U.dft u)⟩)\/(∃f gk gv ku vu,x=⟨.fam f (.map gk gv ku vu),(0,λ_=>[])⟩)\/∃f u,x=⟨.fam f (.rows u),(0,λ_=>[])⟩
 | .fam f (.obj u)::r,0,x,hf,h=>by cases h;exact .inl ⟨f,u,rfl⟩
 | .fam f (.obj u)::r,j+1,x,hf,h=>Z49 r j x (by simpa [NK.Q5G] using hf) h
 | .fam f (.map gk gv ku vu)::r,0,x,hf,h=>by cases h;exact .inr (.inl ⟨f,gk,gv,ku,vu,rfl⟩)
 | .fam f (.rows u)::r,0,x,hf,h=>by cases h;exact .inr (.inr ⟨f,u,rfl⟩)
 | .fam f (.rows u)::r,j+1,x,hf,h=>Z49 r j x (by simpa [NK.Q5G] using hf) h
 | .fam f (.map gk gv ku vu)::r,j+1,x,hf,h=>Z49 r j x (by simpa [NK.Q5G] using hf) h
 | .obj u::r,j,x,hf,h=>by simp [NK.Q5G] at hf
 | .row u::r,j,x,hf,h=>by simp [NK.Q5G] at hf
 | .tok::r,j,x,hf,h=>by simp [NK.Q5G] at hf
 | [],j,x,hf,h=>by cases h
theorem Z9q {s:Sh U.C} (h:(!s.Q4S && !s.Q5w)=true) (x:s.T U) (k k':Nat):Q64 s x k=Q64 s x k':=by
 cases s <;> first|rfl|cases h
theorem Z6I:∀(ss:List (Sh U.C)) (x:Ts U ss) (k k':Nat),ss.all (λs=>!s.Q4S && !s.Q5w)=true->ZU ss x k=ZU ss x k'
 | [],_,_,_,_=>rfl
 |s::ss,x,k,k',h=>by
  simp only [List.all_cons,Bool.and_eq_true] at h
  have h1:=Z9q (U:=U) (s:=s) (by rw [Bool.and_eq_true];exact h.1) x.1 k k'
  have h2:s.Q4S=false:=by simpa using h.1.1
  unfold ZU
  rw [h1,h2]
  exact congrArg _ (Z6I ss x.2 k k' h.2)
theorem Z8F {z:V U} {b:Bool} (h:Q6Y (Sh.bool:Sh U.C) z=some b):z=⟨false,[.val (.bool b)]⟩:=by
 obtain ⟨g,l⟩:=z
 cases g with
 |true=>cases h
 |false=>
  cases l with
  |nil=>cases h
  |cons y r=>
   cases r with
   |cons y' r=>cases y <;> first|(cases h;done)|(rename_i v;cases v <;> cases h)
   |nil=>cases y <;> first|(cases h;done)|(rename_i v;cases v <;> first|(cases h;done)|(cases h;rfl))
theorem Z9H {c:Cx} {y:A U} {vs:List (V U)} {v:Value} {b:Bool} (hu:Z38 false y=some vs) (hd:Z1U [(Sh.bool:Sh U.C)] vs=some (b,())) (hr:RA U c y v):v= .bool b:=by
 cases y with
 |t zs=>cases hu
 |v z=>
  cases hu
  unfold Z1U at hd
  split at hd
  ·rename_i t ts h4 h5
   cases hd
   have:=Z8F h4
   subst this
   exact R.Q1z (show R U c (.val (.bool b)) v from hr)
  ·cases hd
theorem Q9I {ss:List (Sh U.C)} {fs:List (NK U.C)} {Hn:Hints U} {L:Code->Prop} (hH:Q3c U P Hn L) {f:Nat} {fn:Func} {code:Code} (hf:P.funcs[f]? =some fn) (hb:fn.body=some code) (hL:∀b,b∈Z3 code->L b)
  {gos:Nat} {x:Ts U ss} {y0:HTs U fs} (heq:Q6U P Hn fn gos none (Zs U ss fs).fin ((Zs U ss fs).args x) ((Zs U ss fs).start (Q5f fs)) (Zs U ss fs).base=some ((true,()),y0,())) (hn:ss.length<=fn.ntmps) (hro:Hn.ro=0)
  (hbase:Hn.base=(Zs U ss fs).base) (hfs:fs.all NK.Q5G=true) (hgood:(Zs U ss fs).Q6X=true) (hss:ss.all (λs=>!s.Q4S && !s.Q5w)=true)
  {args:Array Value} (hx:RVs U (Z1M w) (ZU ss x 0) args.toList):Calls P f args w λe w'=>e= .returned (.bool true)/\Fr (λ_ _=>False) w w':=by
 have hgf:Z2w U.nf fs=true:=by
  unfold Sig.Q6X at hgood
  simp only [Bool.and_eq_true] at hgood
  exact hgood.1.2
 have hG:G U (Z1M w) (λ_ _ _=>False) ((Zs U ss fs).start (Q5f fs)) w:=by
  refine ⟨λs e he=>?_,λ_ _ _ _ _ _ _ h _=>h.elim,λb o v hv=>hv,λ_ _ _ _ h=>h.elim⟩
  obtain ⟨j,z,h1,h2,rfl⟩:=Z23 _ _ _ _ _ he
  rcases Z49 _ _ _ hfs h2 with ⟨f,u,rfl⟩|⟨f,gk,gv,ku,vu,rfl⟩|⟨f,u,rfl⟩
  ·refine ⟨λ_=>(0,0),λ_ _ _ _=>False,λi hi=>absurd hi (Nat.not_lt_zero i),λi x hx=>?_,λi hi=>absurd hi (Nat.not_lt_zero i),λi j k l b o _ _ _ _ _ h=>False.elim h,λb o=>⟨λh=>h.elim,λ⟨_,_,_,_,h⟩=>h⟩,λh=>by cases h⟩
   cases hx
  ·refine ⟨λ_=>0,λi hi=>absurd hi (Nat.not_lt_zero i),λi x hx=>?_,λi hi=>absurd hi (Nat.not_lt_zero i),λi j hi=>absurd hi (Nat.not_lt_zero i),λb o=>⟨λh=>h.elim,λ⟨i,hi,_⟩=>absurd hi (Nat.not_lt_zero i)⟩⟩
   cases hx
  ·refine ⟨λ_=>(0,0),λ_=>0,λi hi=>absurd hi (Nat.not_lt_zero i),λi x hx=>?_,λhi=>absurd hi (Nat.lt_irrefl _),λi _ _ _ hi=>absurd hi (Nat.not_lt_zero i),λi hi=>absurd hi (Nat.not_lt_zero i),λi _ hi=>absurd hi (Nat.not_lt_zero i),λi _ _ _ hi=>absurd hi (Nat.not_lt_zero i),λb o=>⟨λh=>h.elim,λ⟨i,hi,_⟩=>absurd hi (Nat.not_lt_zero i)⟩⟩
   cases hx
 have hA:RAs U (Z1M w) ((Zs U ss fs).args x) args.toList:=by
  have hx:RVs U (Z1M w) (ZU ss x U.nf) args.toList:=by rw [Z6I ss x U.nf 0 hss];exact hx
  refine ⟨by rw [hx.len];simp [Sig.args,Zs],λk y hk=>?_⟩
  unfold Sig.args at hk
  rw [List.getElem?_map] at hk
  cases hz:(ZU ss x U.nf)[k]? with
  |none=>rw [show (ZU (Zs U ss fs).Q3W x U.nf)[k]? =none from hz] at hk;cases hk
  |some z=>rw [show (ZU (Zs U ss fs).Q3W x U.nf)[k]? =some z from hz] at hk;cases hk;exact hx.at_ k z hz
 have hfr:∀s,(Zs U ss fs).base<=s->get ((Zs U ss fs).start (Q5f fs)) s=none/\∀k,(Z1M w).L s k=none:=λs hs=>by
  refine ⟨?_,λ_=>rfl⟩
  cases he:get ((Zs U ss fs).start (Q5f fs)) s with
  |none=>rfl
  |some e=>
   obtain ⟨j,_,h1,_⟩:=Z23 _ _ _ _ _ he
   have:=Z3H fs U.nf j s hgf (Nat.le_refl _) h1
   have hs:U.nf+Q46 fs<=s:=hs
   omega
 refine (Z81 (S:=λy=>y=some ((true,()),y0,())) hH hf hb hL (λh=>by cases h) heq (by simp [Sig.args,Z2W,Zs];exact hn) (by rw [hro];exact Nat.zero_le _) (Nat.le_of_eq hbase.symm) hG hfr hA).mono ?_
 rintro e w' ⟨v,rfl,y,h',c',Φ',hfin,hR,hG',hE⟩
 refine ⟨?_,hE.fr.mono λb o _ ⟨s,_,_,h1⟩=>h1⟩
 have hE2:=hE
 rw [show Hn.ro=(Zs U ss fs).roN from hro] at hE2
 obtain ⟨y,h'',c'',Φ'',hfin,hR,_,_⟩:=Z7F hH.u hfin hR hG' hE2
 obtain ⟨vs,ps,h1,h2,_⟩:=Z6U hfin
 rw [Z9H h1 h2 hR]
theorem Z9I {ss:List (Sh U.C)} {fs:List (NK U.C)} {Hn:Hints U} {L:Code->Prop} (hH:Q3c U P Hn L) {f:Nat} {fn:Func} {code:Code} (hf:P.funcs[f]? =some fn) (hb:fn.body=some code) (hL:∀b,b∈Z3 code->L b)
  {gos:Nat} {x:Ts U ss} {y0:HTs U fs} (heq:Q6U P Hn fn gos none (Zs U ss fs).fin ((Zs U ss fs).args x) ((Zs U ss fs).start (Q5f fs)) (Zs U ss fs).base=some ((true,()),y0,())) (hn:ss.length<=fn.ntmps) (hro:Hn.ro=0)
  (hbase:Hn.base=(Zs U ss fs).base) (hfs:fs.all NK.Q5G=true) (hgood:(Zs U ss fs).Q6X=true) (hss:ss.all (λs=>!s.Q4S && !s.Q5w)=true)
  {args:Array Value} (hx:RVs U (Z1M w) (ZU ss x 0) args.toList):Calls P f args w λe w'=>e= .returned (.bool true)/\RowKit.Below w.heap.size w w':=by
 refine (Q9I hH hf hb hL heq hn hro hbase hfs hgood hss hx).mono λe w' ⟨he,hfr⟩=>⟨he,hfr.rest.1,hfr.rest.2.1,hfr.rest.2.2,hfr.size,λb hb=>hfr.obj b hb λo h=>h⟩
theorem G.frame (hU:U.Ok) {c:Cx} {Φ:Nat->Nat->Nat->Prop} {h:Qr U} {w w':World} (hg:G U c Φ h w) (hfr:Fr (λ_ _=>False) w w'):G U c Φ h w':=
 ⟨λs e he=>(hg.Q1M s e he).stays hU (.refl c) (λ_=>rfl) (hfr.agr (λb o hf=>hg.lt hU (by rw [he];rfl) hf) (λ_ _ _ h=>h)),hg.apart,
  λb o v hv=>(hfr.cell b o (Zf (hg.imm b o v hv)) (λh=>h)).trans (hg.imm b o v hv),hg.Q15⟩
def Z5F (r:Option Unit):Native U:=λas _ _=>match as with
 | []=>.opt Unit r λ_=>{ v:=scv (.bool true)}
 |_=>.fail
theorem Z9w (hU:U.Ok) {fs:List (NK U.C)} {Hn:Hints U} {L:Code->Prop} (hH:Q3c U P Hn L) {f:Nat} {fn:Func} {code:Code} (hf:P.funcs[f]? =some fn) (hb:fn.body=some code) (hname:(fn.name== "runtime.NumGoroutine")=false) (hL:∀b,b∈Z3 code->L b)
  {gos:Nat} {r:Option Unit} (heq:r.isSome=true->∃y0:HTs U fs,Q6U P Hn fn gos none (Zs U [] fs).fin ((Zs U [] fs).args ()) ((Zs U [] fs).start (Q5f fs)) (Zs U [] fs).base=some ((true,()),y0,())) (hro:Hn.ro=0)
  (hbase:Hn.base=(Zs U [] fs).base) (hfs:fs.all NK.Q5G=true) (hgood:(Zs U [] fs).Q6X=true):Zi U P f (Z5F r):=by
 intro as h' nx out ho c Φ h w vs hg hag hfresh hRA
 rw [Z1o hf hname (by rw [hb];rfl)]
 show Calls P f vs w λe w'=>∃v,e= .returned v/\Q5N U c Φ h nx out w v w'
 unfold Z5F at ho
 cases as with
 |cons a l=>exact (Z1 ho).elim
 |nil=>
  cases r with
  |none=>cases ho
  |some _=>
   have hout:out={ v:=scv (.bool true)}:=by simp [OpR.outs] at ho;exact ho.symm
   subst hout
   obtain ⟨y0,hq⟩:=heq rfl
   refine (Q9I (x:=()) hH hf hb hL hq (Nat.zero_le _) hro hbase hfs hgood rfl ?_).mono λe w' ⟨he,hfr⟩=>⟨_,he,c,Φ,?_⟩
   ·refine ⟨by simpa [ZU] using hRA.len,λk x hk=>by simp [ZU] at hk⟩
   ·exact { le:= .refl c,L:=λ_ _ _ _=>rfl,val:=R.val rfl,g:=hg.frame hU hfr,fr:=hfr.mono λ_ _ _ h=>h.elim,Q2p:=λ_ _=>rfl,Q2g:=λs b o hs=>by simp at hs,names:=λs hs=>by simp at hs,Q32:=λ_ _ _ h=>.inl h}
def Z6l {Y:Type}:Option ((Bool×Unit)×Y×Unit)->Option Unit
 |some ((true,()),_,())=>some ()
 |_=>none
theorem Z8k {Y:Type} {x:Option ((Bool×Unit)×Y×Unit)} (h:(Z6l x).isSome=true):∃y,x=some ((true,()),y,()):=by
 unfold Z6l at h
 split at h
 ·exact ⟨_,rfl⟩
 ·cases h
end
end Go.Rf
namespace Go.Rf
set_option linter.unusedVariables false
set_option linter.unusedSimpArgs false
def Z2H {C:Type} {D:C->Type} [DecidableEq C] (u:C):S C D->Option (List (D u))
 | .isl _ v xs=>if h:v=u then some (h▸xs) else none
 | .val (.slice none 0 0)=>some []
 |_=>none
def Q6R {C:Type} {D:C->Type} (k:IntKind):S C D->Option Int
 | .val (.int j n)=>if j=k then some n else none
 |_=>none
def Z3K {C:Type} {D:C->Type}:S C D->Option Bool
 | .val (.bool b)=>some b
 |_=>none
def Q7V {C:Type} {D:C->Type}:S C D->Option ByteArray
 | .val (.string b)=>some b
 |_=>none
variable {U : QV} {P : Program} {c : Cx}
theorem Qah {k:IntKind} {x:U.S} {n:Int} {v:Value} (h:Q6R k x=some n) (hr:R U c x v):R U c (.val (.int k n)) v:=by
 unfold Q6R at h
 split at h
 ·split at h
  ·rename_i e;subst e;cases h;exact hr
  ·cases h
 ·cases h
theorem Z9o {x:U.S} {n:Bool} {v:Value} (h:Z3K x=some n) (hr:R U c x v):R U c (.val (.bool n)) v:=by
 unfold Z3K at h
 split at h
 ·cases h;exact hr
 ·cases h
theorem Qag {x:U.S} {n:ByteArray} {v:Value} (h:Q7V x=some n) (hr:R U c x v):R U c (.val (.string n)) v:=by
 unfold Q7V at h
 split at h
 ·cases h;exact hr
 ·cases h
theorem Z9C {inst:DecidableEq U.C} {u:U.C} {x:U.S} {n:List (U.D u)} {v:Value} (h: @Z2H _ _ inst u x=some n) (hr:R U c x v):R U c (.isl .none u n) v:=by
 unfold Z2H at h
 split at h
 ·split at h
  ·rename_i e
   subst e
   cases h
   cases hr with
   |isl g hc ht ha hi hrr=>exact .isl g hc trivial ha hi hrr
  ·cases h
 ·cases h
  cases R.Q1z hr
  exact R.isl (xs:= []) (b:=0) (o:=0) (λ_ _=>undef) (Nat.le_refl _) trivial (λhh=>by simp at hh) (λi k hi=>by simp at hi) (λi k hi=>by simp at hi)
 ·cases h
def Z4Q {C:Type} {D:C->Type} [DecidableEq C] (u:C):S C D->Option (Option (D u))
 | .Q37 v x=>if h:v=u then some (h▸x) else none
 | .Q31 v x 0=>if h:v=u then some (some (h▸x)) else none
 | .val (.pointer none)=>some none
 |_=>none
theorem Z9m {inst:DecidableEq U.C} {u:U.C} {x:U.S} {n:Option (U.D u)} {v:Value} (h: @Z4Q _ _ inst u x=some n) (hr:R U c x v):R U c (.Q37 u n) v:=by
 unfold Z4Q at h
 split at h
 ·split at h
  ·rename_i e
   subst e
   cases h
   exact hr
  ·cases h
 ·split at h
  ·rename_i e
   subst e
   cases h
   cases hr with
   |Q31 g hi hrr=>exact .Q56 g hi hrr
  ·cases h
 ·cases h
  cases R.Q1z hr
  exact .Q7r
 ·cases h
def Q7l {C:Type} {D:C->Type} (f n:Nat):S C D->Option (Option Nat)
 | .ref g x=>bif Nat.beq g f then some x else none
 | .ptr g i off=>bif Nat.beq g f && Nat.beq off 0 && Nat.blt f n then some (some i) else none
 | .val (.pointer none)=>some none
 |_=>none
theorem Qat {f n:Nat} {x:U.S} {t:Option Nat} {v:Value} (hn:n<=U.nf) (h:Q7l f n x=some t) (hr:R U c x v):R U c (.ref f t) v:=by
 unfold Q7l at h
 split at h
 ·rename_i g y
  cases hb:Nat.beq g f with
  |false=>rw [hb] at h;cases h
  |true=>rw [hb] at h;cases h;rw [←QH hb];exact hr
 ·rename_i g i off
  cases hb:Nat.beq g f && Nat.beq off 0 && Nat.blt f n with
  |false=>rw [hb] at h;cases h
  |true=>
   rw [hb] at h;cases h
   simp only [Bool.and_eq_true] at hb
   have e1:=QH hb.1.1
   have e2:=QH hb.1.2
   subst e1;subst e2
   cases hr with
   |ptr h0=>exact .Q5c (Nat.lt_of_lt_of_le (Nat.le_of_ble_eq_true hb.2) hn) h0
 ·cases h
  cases R.Q1z hr
  exact .Q7i
 ·cases h
theorem Z6D {f n:Nat} {x:U.S} {t:Option Nat} (hn:n<=U.nf) (h:Q7l f n x=some t):SLe U x (.ref f t):=
 ⟨(by unfold Q7l at h;split at h <;> first|rfl|cases h),λc v hr=>Qat hn h hr,λhc=>(by unfold Q7l at h;split at h <;> first|cases hc|cases h)⟩
def Z4S {C:Type} {D:C->Type} (f:Nat):S C D->Option (Option Nat)
 | .Q3p g x=>bif Nat.beq g f then some x else none
 | .val (.map none)=>some none
 |_=>none
theorem Z9r {f:Nat} {x:U.S} {t:Option Nat} {v:Value} (h:Z4S f x=some t) (hr:R U c x v):R U c (.Q3p f t) v:=by
 unfold Z4S at h
 split at h
 ·rename_i g y
  cases hb:Nat.beq g f with
  |false=>rw [hb] at h;cases h
  |true=>rw [hb] at h;cases h;rw [←QH hb];exact hr
 ·cases h
  cases R.Q1z hr
  exact .Q7X
 ·cases h
theorem Z8v {f:Nat} {x:U.S} {t:Option Nat} (h:Z4S f x=some t):SLe U x (.Q3p f t):=
 ⟨(by unfold Z4S at h;split at h <;> first|rfl|cases h),λc v hr=>Z9r h hr,λhc=>(by unfold Z4S at h;split at h <;> first|cases hc|cases h)⟩
def Z4Z {C:Type} {D:C->Type} (f m:Nat):S C D->Option (Nat×Nat)
 | .rsl own f' m' r b n=>bif own && Nat.beq f' f && Nat.beq m' m && Nat.beq b 0 then some (r,n) else none
 | .isl .full _ []=>some (0,0)
 | .val (.slice none 0 0)=>some (0,0)
 |_=>none
theorem Z9K {f m:Nat} {x:U.S} {t:Nat×Nat} {v:Value} (h:Z4Z f m x=some t) (hr:R U c x v):R U c (.rsl true f m t.1 0 t.2) v:=by
 unfold Z4Z at h
 split at h
 ·rename_i own f' m' r b n
  cases hb:own && Nat.beq f' f && Nat.beq m' m && Nat.beq b 0 with
  |false=>rw [hb] at h;cases h
  |true=>
   rw [hb] at h;cases h
   simp only [Bool.and_eq_true] at hb
   have e1:=QH hb.1.1.2
   have e2:=QH hb.1.2
   have e3:=QH hb.2
   subst e1;subst e2;subst e3
   rw [←hb.1.1.1];exact hr
 ·cases h
  cases hr with
  |isl g hc ht ha hi hr=>exact .rsl (b:=0) (o:=0) (Nat.zero_le _) (λhh=>absurd hh (Nat.lt_irrefl _)) λ_=>⟨λ_=>ht,λhh=>absurd hh (Nat.lt_irrefl _)⟩
 ·cases h
  cases R.Q1z hr
  exact .rsl (b:=0) (o:=0) (Nat.zero_le _) (λhh=>absurd hh (Nat.lt_irrefl _)) λ_=>⟨λ_=>rfl,λhh=>absurd hh (Nat.lt_irrefl _)⟩
 ·cases h
theorem Z8C {f m:Nat} {x:U.S} {t:Nat×Nat} (h:Z4Z f m x=some t):SLe U x (.rsl true f m t.1 0 t.2):=
 ⟨(by unfold Z4Z at h;split at h <;> first|rfl|cases h),λc v hr=>Z9K h hr,λhc=>(by unfold Z4Z at h;split at h <;> first|cases hc|cases h)⟩
inductive Lf (C:Type) where
 |int (k:IntKind)
 |bool
 |str
 |list (u:C)
 |box (u:C)
 |row (u:C)
 |Q2d (u:C)
 |Q1n (u:C) (n:Nat)
 |hole
 |ref (f n:Nat)
 |Q3p (f:Nat)
 |Q7P (f m:Nat)
def Lf.okN {C:Type} (m:Nat):Lf C->Bool
 | .ref _ n=>Nat.ble n m
 |_=>true
abbrev Lf.T {C:Type} (D:C->Type):Lf C->Type
 | .int _=>Int
 | .bool=>Bool
 | .str=>ByteArray
 | .list u=>List (D u)
 | .box u=>Option (D u)
 | .row u=>List (D u)
 | .Q2d u=>List (D u)
 | .Q1n u _=>Nat->D u
 | .hole=>Unit
 | .ref _ _=>Option Nat
 | .Q3p _=>Option Nat
 | .Q7P _ _=>Nat×Nat
abbrev HL {C:Type} (D:C->Type):List (Lf C)->Type
 | []=>Unit
 |l::r=>l.T D×HL D r
def Lf.enc {C:Type} {D:C->Type}:(l:Lf C)->l.T D->S C D
 | .int k,n=>.val (.int k n)
 | .bool,b=>.val (.bool b)
 | .str,s=>.val (.string s)
 | .list u,xs=>.isl .none u xs
 | .box u,x=>.box u x
 | .row u,x=>.row u x
 | .Q2d u,x=>.Q2d u x
 | .Q1n u n,f=>.Q1n u n f
 | .hole,_=>.hole
 | .ref f _,x=>.ref f x
 | .Q3p f,x=>.Q3p f x
 | .Q7P f m,x=>.rsl true f m x.1 0 x.2
def dBox {C:Type} {D:C->Type} [DecidableEq C] (u:C):S C D->Option (Option (D u))
 | .box v x=>if h:v=u then some (h▸x) else none
 |_=>none
def dRow {C:Type} {D:C->Type} [DecidableEq C] (u:C):S C D->Option (List (D u))
 | .row v x=>if h:v=u then some (h▸x) else none
 |_=>none
def Q9P {C:Type} {D:C->Type} [DecidableEq C] (u:C):S C D->Option (List (D u))
 | .Q2d v x=>if h:v=u then some (h▸x) else none
 |_=>none
def Qa9 {C:Type} {D:C->Type} [DecidableEq C] (u:C) (n:Nat):S C D->Option (Nat->D u)
 | .Q1n v m x=>if h:v=u then (if m=n then some (h▸x) else none) else none
 |_=>none
def Q9Z {C:Type} {D:C->Type}:S C D->Option Unit
 | .hole=>some ()
 |_=>none
def Lf.dec {C:Type} {D:C->Type} [DecidableEq C]:(l:Lf C)->S C D->Option (l.T D)
 | .int k,x=>Q6R k x
 | .bool,x=>Z3K x
 | .str,x=>Q7V x
 | .list u,x=>Z2H u x
 | .box u,x=>dBox u x
 | .row u,x=>dRow u x
 | .Q2d u,x=>Q9P u x
 | .Q1n u n,x=>Qa9 u n x
 | .hole,x=>Q9Z x
 | .ref f n,x=>Q7l f n x
 | .Q3p f,x=>Z4S f x
 | .Q7P f m,x=>Z4Z f m x
def Q8S {C:Type} {D:C->Type}:(ls:List (Lf C))->HL D ls->List (S C D)
 | [],_=>[]
 |l::r,t=>l.enc t.1::Q8S r t.2
def Q3a {C:Type} {D:C->Type} [DecidableEq C]:(ls:List (Lf C))->List (S C D)->Option (HL D ls)
 | [],[]=>some ()
 |l::r,x::xs=>match l.dec x,Q3a r xs with
  |some t,some ts=>some (t,ts)
  |_,_=>none
 |_,_=>none
theorem Z4r {k:IntKind} {x:U.S} {n:Int} (h:Q6R k x=some n):SLe U x (.val (.int k n)):=
 ⟨(by unfold Q6R at h;split at h <;> first|rfl|cases h),λc v hr=>Qah h hr,λhc=>(by unfold Q6R at h;split at h <;> first|cases hc|cases h)⟩
theorem Z5z {x:U.S} {n:Bool} (h:Z3K x=some n):SLe U x (.val (.bool n)):=
 ⟨(by unfold Z3K at h;split at h <;> first|rfl|cases h),λc v hr=>Z9o h hr,λhc=>(by unfold Z3K at h;split at h <;> first|cases hc|cases h)⟩
theorem Z8N {x:U.S} {n:ByteArray} (h:Q7V x=some n):SLe U x (.val (.string n)):=
 ⟨(by unfold Q7V at h;split at h <;> first|rfl|cases h),λc v hr=>Qag h hr,λhc=>(by unfold Q7V at h;split at h <;> first|cases hc|cases h)⟩
theorem Z2I {inst:DecidableEq U.C} {u:U.C} {x:U.S} {n:List (U.D u)} (h: @Z2H _ _ inst u x=some n):SLe U x (.isl .none u n):=
 ⟨(by unfold Z2H at h;split at h <;> first|rfl|cases h),λc v hr=>Z9C h hr,λhc=>(by unfold Z2H at h;split at h <;> first|cases hc|cases h)⟩
theorem Z8r {inst:DecidableEq U.C} {u:U.C} {x:U.S} {n:Option (U.D u)} (h: @Z4Q _ _ inst u x=some n):SLe U x (.Q37 u n):=
 ⟨(by unfold Z4Q at h;split at h <;> first|rfl|cases h),λc v hr=>Z9m h hr,λhc=>(by unfold Z4Q at h;split at h <;> first|cases hc|cases h)⟩
theorem Lf.Qz {inst:DecidableEq U.C} {l:Lf U.C} {x:U.S} {t:l.T U.D} (hn:l.okN U.nf=true) (h: @Lf.dec _ _ inst l x=some t):SLe U x (l.enc t):=by
 cases l with
 |int k=>exact Z4r h
 |bool=>exact Z5z h
 |str=>exact Z8N h
 |list u=>exact Z2I h
 |box u=>
  simp only [Lf.dec] at h
  unfold dBox at h
  split at h
  ·split at h
   ·rename_i e;subst e;cases h;exact .refl _
   ·cases h
  ·cases h
 |row u=>
  simp only [Lf.dec] at h
  unfold dRow at h
  split at h
  ·split at h
   ·rename_i e;subst e;cases h;exact .refl _
   ·cases h
  ·cases h
 |Q2d u=>
  simp only [Lf.dec] at h
  unfold Q9P at h
  split at h
  ·split at h
   ·rename_i e;subst e;cases h;exact .refl _
   ·cases h
  ·cases h
 |Q1n u n=>
  simp only [Lf.dec] at h
  unfold Qa9 at h
  split at h
  ·split at h
   ·rename_i e
    subst e
    split at h
    ·rename_i e;subst e;cases h;exact .refl _
    ·cases h
   ·cases h
  ·cases h
 |hole=>
  simp only [Lf.dec] at h
  unfold Q9Z at h
  split at h
  ·cases h;exact .refl _
  ·cases h
 |ref f n=>exact Z6D (Nat.le_of_ble_eq_true hn) h
 |Q3p f=>exact Z8v h
 |Q7P f m=>exact Z8C h
theorem Z6t {inst:DecidableEq U.C}:∀{ls:List (Lf U.C)} {l:List U.S} {t:HL U.D ls},ls.all (Lf.okN U.nf)=true-> @Q3a _ _ inst ls l=some t->
  l.length=ls.length/\∀(k:Nat) y,l[k]? =some y->∃z,(Q8S ls t)[k]? =some z/\SLe U y z
 | [],[],t,hn,h=>⟨rfl,λk y hk=>by simp at hk⟩
 |f::r,x::xs,t,hn,h=>by
  simp only [List.all_cons,Bool.and_eq_true] at hn
  unfold Q3a at h
  split at h
  ·rename_i t1 t2 h1 h2
   cases h
   obtain ⟨h3,h4⟩:=Z6t hn.2 h2
   refine ⟨by simp [h3],λk y hk=>?_⟩
   cases k with
   |zero=>simp at hk;subst hk;exact ⟨_,rfl,Lf.Qz hn.1 h1⟩
   |succ k=>simp at hk;simpa [Q8S] using h4 k y hk
  ·cases h
 | [],x::xs,t,hn,h=>by cases h
 |f::r,[],t,hn,h=>by cases h
theorem Z1v {x z:U.S} (h:SLe U x z): [x].length=1/\∀(k:Nat) y,[x][k]? =some y->∃z',[z][k]? =some z'/\SLe U y z':=
 ⟨rfl,λk y hk=>by
  cases k with
  |zero=>simp at hk;subst hk;exact ⟨z,rfl,h⟩
  |succ k=>simp at hk⟩
theorem Qan {n:Int} (hb:0<=n/\n < 256):((UInt8.ofNat n.toNat).toNat:Int)=n:=by
 have h1:n.toNat < 256:=by omega
 rw [UInt8.toNat_ofNat_of_lt' (by simpa using h1)]
 omega
theorem Qau {n:Int} {v:Value} (hr:R U c (.val (.int .u8 n)) v):R U c (.val (.int .u8 ((UInt8.ofNat n.toNat).toNat:Int))) v:=by
 rw [Qan (Z75 hr.okV)];exact hr
theorem Z91 {n:Int} (hb:True):SLe U (.val (.int .u8 n)) (.val (.int .u8 ((UInt8.ofNat n.toNat).toNat:Int))):=
 ⟨rfl,λc v hr=>Qau hr,λh=>by cases h⟩
end Go.Rf
namespace Go.Rf
set_option linter.unusedVariables false
variable {U : QV} {P : Program}
def noΓ:Nat->Option (Native U):=λ_=>none
theorem Z2:ZM U P noΓ:=λf N h=>by cases h
def Qp (f:Nat) (N:Native U) (Γ:Nat->Option (Native U)):Nat->Option (Native U):=λn=>bif Nat.beq n f then some N else Γ n
theorem Z0 {f:Nat} {N:Native U} {Γ:Nat->Option (Native U)} (h:ZM U P Γ) (hN:Zi U P f N):ZM U P (Qp f N Γ):=by
 intro n M hM
 unfold Qp at hM
 cases hb:Nat.beq n f with
 |true=>rw [hb] at hM;cases hM;rw [QH hb];exact hN
 |false=>rw [hb] at hM;exact h n M hM
def Z1e:Native U:=λ_ _ _=>.fail
theorem Zd {f:Nat}:Zi U P f Z1e:=λas h nx out ho=>(Z1 ho).elim
theorem Z7R {g:Sig U} {f:Nat}:Zi U P f (g.native λ_ _=>none):=by
 have h0:∀as (h:Qr U) nx out,(g.Q4O (λ_ _=>none) as h nx).outs=some out->False:=λas h nx out ho=>by
  unfold Sig.Q4O at ho
  split at ho
  ·split at ho
   ·split at ho
    ·split at ho
     ·rename_i xs _
      cases hd:(distinct (List.map (λx=>x.s) ‹List Ref›) && _ && Nat.ble U.nf nx && _) with
      |true=>rw [hd] at ho;cases ho
      |false=>rw [hd] at ho;cases ho
     ·exact Z1 ho
    ·exact Z1 ho
   ·exact Z1 ho
  ·exact Z1 ho
 have h1:Zi U P f (g.Q5V λ_ _=>none):=by
  intro as h' nx out ho
  unfold Sig.Q5V at ho
  split at ho
  ·exact (h0 _ _ _ _ ho).elim
  ·obtain ⟨o,h1,_⟩:=Z34 ho
   exact (h0 _ _ _ _ h1).elim
 exact Sig.Q8N (λas h nx out ho=>(h0 as h nx out ho).elim) h1
theorem ZB {Hn:Hints U} (hU:U.Ok) (hP:U.Pure) (hm:P.follows .mixedOrders=true) (hΓ:ZM U P Hn.Γ) {l:List Code} (hl:∀b N,.loop b∈l->Hn.loop (Zj b)=some N->ZA U P Hn.ro Hn.base b N)
  (hs:∀b lb rest N,.scope b∈l->findLabel b lb=some rest->Hn.label lb=some N->ZR U P Hn.ro Hn.base b rest N) (hi:Q86 U P Hn.ro Hn.inl):Q3c U P Hn (λc=>c∈l):=
 ⟨hU,hP,hm,hΓ,hl,hs,hi⟩
theorem Z1l {ro:Nat} {I:Nat->Option (Q6m U)} (h:∀f,I f=none):Q86 U P ro I:=λf N hN=>by rw [h] at hN;cases hN
def Z21 (P:Program) (Hn:Hints U) (gos:Nat) (b:Code):Nat->Z2E U
 |0,ρ,st,fail,K=>fail
 |n+1,ρ,st,fail,K=>run P Hn gos ρ fail b st λe st=>match e with
  | .normal=>Z21 P Hn gos b n ρ st fail K
  |e=>K e st
theorem Z2C {Hn:Hints U} {L:Code->Prop} (hH:Q3c U P Hn L) {gos:Nat} {b:Code} (hL:∀b',b'∈Z3 b->L b'):∀(n:Nat),ZA U P Hn.ro Hn.base b (Z21 P Hn gos b n)
 |0=>λρ S fail hf st K h=>(hf h).elim
 |n+1=>λρ S fail hf st K h B a w hro hA=>by
  refine Q5a.round (wp_mono (ZY hH gos b hL ρ S fail hf st _ h B a w hro hA) λe a' w' ⟨st',h1,h2⟩=>?_)
  cases e with
  |normal=>exact Z2C hH hL n ρ S fail hf st' K h1 B a' w' hro h2
  |exit i=>exact ⟨st',h1,h2⟩
  |goto l=>exact ⟨st',h1,h2⟩
  |ret=>exact ⟨st',h1,h2⟩
  |panic ch=>exact ⟨st',h1,h2⟩
  |outgrown=>exact ⟨st',h1,h2⟩
section
variable {Hn : Hints U} {l : List Code}
theorem Z5:∀b N,Code.loop b∈([]:List Code)->Hn.loop (Zj b)=some N->ZA U P Hn.ro Hn.base b N:=λb N h=>by cases h
theorem Z4 {b0:Code} {N0:Z2E U} (h0:Hn.loop (Zj b0)=some N0) (hN:ZA U P Hn.ro Hn.base b0 N0) (hl:∀b N,Code.loop b∈l->Hn.loop (Zj b)=some N->ZA U P Hn.ro Hn.base b N):
  ∀b N,Code.loop b∈Code.loop b0::l->Hn.loop (Zj b)=some N->ZA U P Hn.ro Hn.base b N:=λb N h hb=>by
 rcases List.mem_cons.1 h with h|h
 ·cases h
  rw [h0] at hb;cases hb;exact hN
 ·exact hl b N h hb
theorem Zt {b0:Code} (hl:∀b N,Code.loop b∈l->Hn.loop (Zj b)=some N->ZA U P Hn.ro Hn.base b N):
  ∀b N,Code.loop b∈Code.scope b0::l->Hn.loop (Zj b)=some N->ZA U P Hn.ro Hn.base b N:=λb N h hb=>by
 rcases List.mem_cons.1 h with h|h
 ·cases h
 ·exact hl b N h hb
theorem Z7Q (h:∀lb,Hn.label lb=none):∀b lb rest N,Code.scope b∈l->findLabel b lb=some rest->Hn.label lb=some N->ZR U P Hn.ro Hn.base b rest N:=λb lb rest N _ _ hN=>by rw [h] at hN;cases hN
theorem Z14:∀b lb rest N,Code.scope b∈([]:List Code)->findLabel b lb=some rest->Hn.label lb=some N->ZR U P Hn.ro Hn.base b rest N:=λb lb rest N h=>by cases h
theorem Z1A {b0:Code} (hl:∀b lb rest N,Code.scope b∈l->findLabel b lb=some rest->Hn.label lb=some N->ZR U P Hn.ro Hn.base b rest N):
  ∀b lb rest N,Code.scope b∈Code.loop b0::l->findLabel b lb=some rest->Hn.label lb=some N->ZR U P Hn.ro Hn.base b rest N:=λb lb rest N h=>by
 rcases List.mem_cons.1 h with h|h
 ·cases h
 ·exact hl b lb rest N h
theorem Z3k {b0:Code} (h0:∀lb rest N,findLabel b0 lb=some rest->Hn.label lb=some N->ZR U P Hn.ro Hn.base b0 rest N) (hl:∀b lb rest N,Code.scope b∈l->findLabel b lb=some rest->Hn.label lb=some N->ZR U P Hn.ro Hn.base b rest N):
  ∀b lb rest N,Code.scope b∈Code.scope b0::l->findLabel b lb=some rest->Hn.label lb=some N->ZR U P Hn.ro Hn.base b rest N:=λb lb rest N h=>by
 rcases List.mem_cons.1 h with h|h
 ·cases h;exact h0 lb rest N
 ·exact hl b lb rest N h
theorem Z4B {b0 r0:Code} {l0:Nat} {N0:Z2E U} (hr:findLabel b0 l0=some r0) (h0:∀lb,Hn.label lb=bif Nat.beq lb l0 then some N0 else none) (hN:ZR U P Hn.ro Hn.base b0 r0 N0):
  ∀lb rest N,findLabel b0 lb=some rest->Hn.label lb=some N->ZR U P Hn.ro Hn.base b0 rest N:=λlb rest N h1 h2=>by
 rw [h0] at h2
 cases hb:Nat.beq lb l0 with
 |false=>rw [hb] at h2;cases h2
 |true=>
  rw [hb] at h2;cases h2
  have:=QH hb
  subst this
  rw [hr] at h1;cases h1;exact hN
end
end Go.Rf
namespace Go.Rf
set_option linter.unusedVariables false
open Go.ChangeShapes Go.RowKit
section
variable {H : Type} {enc : TypeId × Value -> H} {P : Program} {W W' : World}
abbrev QG (α:Type):List α:= []
abbrev ofN (n:Nat):Int:=n
theorem Z5N:∀{ts:List TypeId} {vs:List Value} {ds:List (DataW H)} {ps:List MemPlace},DataW.TrodAll enc P W 0 (λ_=>true) true ts vs ds ps->∀x∈ps,x.block < W.heap.size
 | [],vs,ds,ps,h,x,hx=>by
  obtain ⟨rfl,rfl,rfl⟩:=trodAll_nil h
  cases hx
 |t::ts,vs,ds,ps,h,x,hx=>by
  obtain ⟨v,vs',d,ds',p,q,rfl,rfl,rfl,h1,h2⟩:=trodAll_cons h
  rcases List.mem_append.1 hx with hx|hx
  ·obtain ⟨m,hm⟩:=h1
   exact DataW.trod_lt m _ _ _ hm x hx
  ·exact Z5N h2 x hx
theorem Z4n (hl:laidOutB P=true) (bel:Below W.heap.size W W'):∀{ts:List TypeId} {vs:List Value} {ds:List (DataW H)} {ps:List MemPlace},(∀t∈ts,P.readableRec t=true/\t < P.types.size)->
  DataW.TrodAll enc P W 0 (λ_=>true) true ts vs ds ps->DataW.TrodAll enc P W' 0 (λb=>decide (b < W.heap.size)) true ts vs ds ps
 | [],vs,ds,ps,ht,h=>by
  obtain ⟨rfl,rfl,rfl⟩:=trodAll_nil h
  exact trodAll_mk0
 |t::ts,vs,ds,ps,ht,h=>by
  obtain ⟨v,vs',d,ds',p,q,rfl,rfl,rfl,h1,h2⟩:=trodAll_cons h
  refine trodAll_cons_mk ?_ (Z4n hl bel (λt ht'=>ht t (List.mem_cons_of_mem _ ht')) h2)
  obtain ⟨h3,h4⟩:=ht t (List.mem_cons_self ..)
  refine Below.trod hl h3 h4 h1 bel λx hx=>?_
  obtain ⟨m,hm⟩:=h1
  exact DataW.trod_lt m _ _ _ hm x hx
end
end Go.Rf
