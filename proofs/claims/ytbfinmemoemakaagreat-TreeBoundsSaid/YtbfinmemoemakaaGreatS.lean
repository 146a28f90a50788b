/- Typed forms of the functions that these statements reach, proved equal to what the model runs, and laws over them. -/
import Derived.Test.YtbfinmemoemakaaGreatSa
namespace Go.Proofs.YtbfinmemoemakaaGreat
open Go.Rf
set_option linter.unusedVariables false
set_option linter.unusedSimpArgs false
set_option maxRecDepth 100000
noncomputable section
def Q1H.sig:Sig U:=⟨[.isl .u64,.int .u64],[],0,[.int .i64],false,[]⟩
abbrev Q1H.T:Type:=(List (Int))->(Int)->Option ((Int×Unit)×Unit×Unit)
def Q1H.W (f:Q1H.T):Q1H.sig.F:=λa x=>f a.1 a.2.1
def Q1H.L0:Shape U:=⟨19,13,[(0,.val (.isl .u64)),(1,.val (.int .u64)),(7,vi_),(8,vi_)],[]⟩
def Q1H.X0:Qt U:= [(.exit 0,⟨19,13,[],[]⟩),
 (.ret,⟨19,13,[(4,vi_)],[]⟩)]
abbrev Q1H.l0T:Type:=(((List (Int))×Int×Int×Int×Unit)×Unit)->Option ((Unit×Unit)⊕((Int×Unit)×Unit))
def Q1H.C:Code:=match Tryz.f171.body with|some c=>c|none=>.skip
def Q1H.B0:Code:=match (Z3 Q1H.C).getD 0 .skip with| .loop b=>b| .scope b=>b|_=>.skip
def Q1H.H (l0:Q1H.l0T):Hints U:={ Γ:=noΓ,ro:=0,base:=13,loop:=jt_ [(2,(Z6 (0,13) Q1H.L0 Q1H.X0 l0))]}
def Q1H.QW (a:((List (Int))×Int×Int×Int×Unit)×Unit):Option ((((List (Int))×Int×Int×Int×Unit)×Unit)⊕((Unit×Unit)⊕((Int×Unit)×Unit))):=
 (bif ilt a.1.2.2.2.1 a.1.2.2.1 then (bif inR a.1.2.2.2.1 (List.length a.1.1) then (bif ieq a.1.2.1 (List.getD a.1.1 (Int.toNat a.1.2.2.2.1) (0:D UC.u64)) then some (.inr (.inr (a.1.2.2.2,()))) else some (.inl ((a.1.1,(a.1.2.1,(a.1.2.2.1,(Q2 .i64 a.1.2.2.2.1 1,())))),()))) else none) else some (.inr (.inl ((),()))))
def Q1H.F0:Q1H.l0T:=λa=>Z8 (1000000+(a.1.1.length)) (Q1H.QW) a
def Q1H.gen (l0:Q1H.l0T):Q1H.T:=λs v=>
 (Q0 (l0 ((s,v,ofN (List.length s),(0:Int),()),())) none λr0=>(Q3B r0 (λr1=>some (((-1:Int),()),((),()))) (λr1=>some (r1.1,((),())))))
def Q1H:Q1H.T:=Q1H.gen Q1H.F0
theorem Q1H.Q1O (l0:Q1H.l0T) (a:Q1H.L0.T):run Tryz.prog (Q1H.H l0) 6 (Option (Q1H.L0.T⊕ExT Q1H.X0)) none Q1H.B0 (Q1H.L0.enc a) (Zc (0,13) Q1H.L0 Q1H.X0)=Q1H.QW a:=by kernel_rfl
abbrev Q1H.h:=Q1H.H Q1H.F0
theorem Q1H.Q1D:LO_ Q1H.h Q1H.B0 (Z6 (0,13) Q1H.L0 Q1H.X0 Q1H.F0):=lk_ (hn_ Z2) (Q1H.Q1O Q1H.F0)
theorem Q1H.eq (l0:Q1H.l0T):EqA Q1H.sig (Q1H.H l0) Tryz.f171 6 (Q1H.W (Q1H.gen l0)):=by intro a x;kernel_rfl
theorem Q1H.loops:Z3 Q1H.C= [(.loop Q1H.B0)]:=by kernel_rfl
theorem Q1H.ok:NK_ 171 Q1H.sig (Q1H.W Q1H):=ok_ Tryz.func171 (Q1H.eq Q1H.F0) (hl_ Z2 (Z4 (by kernel_rfl) Q1H.Q1D Z5)) Q1H.loops
def Q3O.sig:Sig U:=⟨[.isl .u64,.int .u64],[],0,[.bool],false,[]⟩
abbrev Q3O.T:Type:=(List (Int))->(Int)->Option ((Bool×Unit)×Unit×Unit)
def Q3O.W (f:Q3O.T):Q3O.sig.F:=λa x=>f a.1 a.2.1
def Q3O.H (cK144:Q1H.T):Hints U:={ Γ:=(Qp 171 (Q1H.sig.native (Q1H.W cK144)) noΓ),ro:=0,base:=13}
def Q3O.gen (cK144:Q1H.T):Q3O.T:=λs v=>
 (Q0 (cK144 s v) none λr0=>some ((ile 0 r0.1.1,()),((),())))
def Q3O:Q3O.T:=Q3O.gen Q1H
theorem Q3O.eq (cK144:Q1H.T):EqA Q3O.sig (Q3O.H cK144) Tryz.f135 6 (Q3O.W (Q3O.gen cK144)):=by intro a x;kernel_rfl
theorem Q3O.ok:NK_ 135 Q3O.sig (Q3O.W Q3O):=ok_ Tryz.func135 (Q3O.eq Q1H) (hn_ (Z0 Z2 Q1H.ok))
def K61.sig:Sig U:=⟨[.ptr,.data .QJ,.int .i64],[.obj .Ql],0,[.int .i64],false,[]⟩
abbrev K61.T:Type:=(Qg)->(Int)->(Q5)->Option ((Int×Unit)×(Q5×Unit)×Unit)
def K61.W (f:K61.T):K61.sig.F:=λa x=>f a.2.1 a.2.2.1 x.1
def K61.L0:Shape U:=⟨143,15,[(0,.ptr 13 0 0),(2,vi_),(4,.ptr 14 0 0),(7,vi_)],[(13,.obj .Ql),(14,.obj .QJ)]⟩
def K61.X0:Qt U:= [(.exit 1,⟨143,15,[(0,.ptr 13 0 0),(2,vi_),(4,.ptr 14 0 0),(7,vi_)],[(13,.obj .Ql),(14,.obj .QJ)]⟩)]
abbrev K61.l0T:Type:=((Int×Int×Unit)×(Q5×Qg×Unit))->Option (((Int×Int×Unit)×(Q5×Qg×Unit)))
def K61.C:Code:=match Tryz.f136.body with|some c=>c|none=>.skip
def K61.B0:Code:=match (Z3 K61.C).getD 0 .skip with| .loop b=>b| .scope b=>b|_=>.skip
def K61.JR22:Qt U:= [(.normal,⟨143,14,[],[(13,.obj .Ql)]⟩)]
def K61.JR21:Qt U:= [(.normal,⟨143,15,[(0,.ptr 13 0 0),(7,vi_),(8,.ptr 14 0 0)],[(13,.obj .Ql),(14,.obj .QE)]⟩)]
def K61.Q5g:Qt U:= [(.normal,⟨143,16,[(0,.ptr 13 0 0),(2,vi_),(4,.ptr 14 0 0),(7,vi_),(8,.ptr 15 0 0)],[(13,.obj .Ql),(14,.obj .QJ),(15,.obj .QE)]⟩)]
def K61.JC13:Qt U:= [(.normal,⟨143,16,[(0,.ptr 13 0 0),(2,vi_),(4,.ptr 14 0 0),(7,vi_),(8,.ptr 15 0 0)],[(13,.obj .Ql),(14,.obj .QJ),(15,.obj .QE)]⟩),
 (.ret,⟨143,14,[(6,vi_)],[(13,.obj .Ql)]⟩)]
def K61.JC2:Qt U:= [(.normal,⟨143,15,[(0,.ptr 13 0 0),(2,vi_),(4,.ptr 14 0 0)],[(13,.obj .Ql),(14,.obj .QJ)]⟩),
 (.ret,⟨143,14,[(6,vi_)],[(13,.obj .Ql)]⟩)]
def K61.H (l0:K61.l0T):Hints U:={ Γ:=noΓ,ro:=0,base:=14,Q1T:=jt_ [(3,[(13,vb_)]),(5,[(20,vb_)]),(8,[(59,vb_)]),(14,[(95,vb_)])],Q2J:=jt_ [(10,K61.Q5g),(13,K61.Q5g),(19,K61.Q5g),(20,K61.Q5g),(21,K61.JR21),(22,K61.JR22)],Q29:=jt_ [(2,K61.JC2),(13,K61.JC13)],loop:=jt_ [(8,(Z6 (0,14) K61.L0 K61.X0 l0))]}
def K61.QW (a:(Int×Int×Unit)×(Q5×Qg×Unit)):Option (((Int×Int×Unit)×(Q5×Qg×Unit))⊕(((Int×Int×Unit)×(Q5×Qg×Unit)))):=
 (Q0 ((bif ilt a.1.2.1 a.2.1.fn then (bif inR a.1.2.1 5 then some (!bif ieq (a.2.1.fl (Int.toNat a.1.2.1)).Q3b.Q4m.QO a.2.2.1.Q25.QO then bif ieq (a.2.1.fl (Int.toNat a.1.2.1)).Q3b.Q4m.Q18 a.2.2.1.Q25.Q18 then true else false else false,()) else none) else some (false,()))) none λr0=>(bif r0.1 then some (.inl ((a.1.1,(Q2 .i64 a.1.2.1 1,())),a.2)) else some (.inr a)))
def K61.F0:K61.l0T:=λa=>Z8 (1000000) (K61.QW) a
def K61.gen (l0:K61.l0T):K61.T:=λm now h0=>
 (Q0 ((bif ine m.fType 11 then some (.inr (((5:Int),()),(h0,()))) else (Q0 ((bif ilt now 0 then some (true,()) else some (ilt 1099511627776 now,()))) none λr0=>(bif r0.1 then some (.inr (((1:Int),()),(h0,()))) else (Q0 ((bif ieq m.Q25.QO h0.Q8R.QO then some (true,()) else (bif ile 255 m.Q2o then some (true,()) else some (ine (Q50 .i64 m.Q2H 256) 0,())))) none λr1=>(bif r1.1 then some (.inr (((11:Int),()),(h0,()))) else some (.inl ((now,()),(h0,(m,())))))))))) none λr2=>(Q3B r2 (λr3=>(Q0 (l0 ((r3.1.1,(0:Int),()),r3.2)) none λr4=>(Q0 ((bif ilt r4.1.2.1 r4.2.1.fn then (Q0 ((bif inR r4.1.2.1 5 then some (r4.1,(r4.2.1,(r4.2.2.1,(r4.2.1.fl (Int.toNat r4.1.2.1),())))) else none)) none λr5=>(Q0 ((bif ilt (Q50 .i64 (Q1e .i64 r5.2.2.2.1.Q3w r5.2.2.1.Q3w) 65535) 32768 then some (true,()) else some (ilt r5.1.1 r5.2.2.2.1.Q8f,()))) none λr6=>(bif r6.1 then some (.inr (((9:Int),()),(r5.2.1,()))) else some (.inl (r5.1,(r5.2.1,(r5.2.2.1,(Qe.Q9c r5.2.2.2.1 r5.2.2.2.1.Q8f,())))))))) else (bif ieq r4.2.1.fn 5 then some (.inr (((7:Int),()),(r4.2.1,()))) else some (.inl (r4.1,(Q5.Q6P r4.2.1 (Q2 .i64 r4.2.1.fn 1),(r4.2.2.1,(Qe.mk z5_ z6_ 0 (-1) 0,())))))))) none λr7=>(Q3B r7 (λr8=>(Q0 ((bif inR r8.1.2.1 5 then some ((),(Q5.Q8A r8.2.1 (QA r8.2.1.fl (Int.toNat r8.1.2.1) (Qe.mk (Qv.mk r8.2.2.1.Q1y r8.2.2.1.QY r8.2.2.1.Q1C r8.2.2.1.Q3g r8.2.2.1.Q2o r8.2.2.1.Q25 r8.2.1.Q8R) (Q1u.mk r8.2.2.1.Q4e (Q50 .i64 r8.2.2.1.Q2H 63) r8.2.2.1.Q2F) r8.2.2.1.Q3w r8.2.2.2.1.Q6W r8.1.1)),())) else none)) none λr9=>some (((0:Int),()),(r9.2,())))) (λr8=>some (r8.1,(r8.2,()))))))) (λr3=>some (r3.1,(r3.2,())))))
def K61:K61.T:=K61.gen K61.F0
theorem K61.Q1O (l0:K61.l0T) (a:K61.L0.T):run Tryz.prog (K61.H l0) 6 (Option (K61.L0.T⊕ExT K61.X0)) none K61.B0 (K61.L0.enc a) (Zc (0,14) K61.L0 K61.X0)=K61.QW a:=by kernel_rfl
abbrev K61.h:=K61.H K61.F0
theorem K61.Q1D:LO_ K61.h K61.B0 (Z6 (0,14) K61.L0 K61.X0 K61.F0):=lk_ (hn_ Z2) (K61.Q1O K61.F0)
theorem K61.eq (l0:K61.l0T):EqA K61.sig (K61.H l0) Tryz.f136 6 (K61.W (K61.gen l0)):=by intro a x;kernel_rfl
theorem K61.loops:Z3 K61.C= [(.loop K61.B0)]:=by kernel_rfl
theorem K61.ok:NK_ 136 K61.sig (K61.W K61):=ok_ Tryz.func136 (K61.eq K61.F0) (hl_ Z2 (Z4 (by kernel_rfl) K61.Q1D Z5)) K61.loops
def K21.sig:Sig U:=⟨[.ptr,.Q4H 0 23 42 8,.data .QJ,.isl .Q1m],[.obj .Q4,Q4s,.fam 10 (.map true false .Qm .Q1o)],0,[.bool],false,[]⟩
abbrev K21.T:Type:=(Nat)->(Qg)->(List (QL))->(Q1)->(Fm Q5)->(Nat×(Nat->List (Q9×List (Int))))->Option ((Bool×Unit)×(Q1×Q6M)×Unit)
def K21.W (f:K21.T):K21.sig.F:=λa x=>f a.2.1 a.2.2.1 a.2.2.2.1 x.1 x.2.1 x.2.2.1
def K21.JR5:Qt U:= [(.normal,⟨61,14,[(0,.ptr 13 0 0),(1,.Q1q 13 23 42 8 0)],(13,.obj .Q4)::Q5y⟩)]
def K21.JR3:Qt U:= [(.normal,⟨61,15,[(0,.ptr 13 0 0),(1,.Q1q 13 23 42 8 0),(6,.ptr 14 0 0),(11,.val (.isl .u64)),(42,vb_)],(13,.obj .Q4)::(14,.obj .QJ)::Q5y⟩)]
def K21.JR1:Qt U:= [(.normal,⟨61,16,[(0,.ptr 13 0 0),(1,.Q1q 13 23 42 8 0),(6,.ptr 14 0 0),(9,.ptr 15 0 0)],(13,.obj .Q4)::(14,.obj .QJ)::(15,.obj .Q1m)::Q5y⟩)]
def K21.JC7:Qt U:= [(.normal,⟨61,14,[],(13,.obj .Q4)::Q5y⟩)]
def K21.H (cK157:Q1I.T) (cK161:Q1J.T) (cK143:Q3O.T) (cK61:K61.T) (cK125:Q2x.T) (cK25:K25.T) (cK153:Q2a.T):Hints U:={ Γ:=(Q2a.N cK153 (K25.N cK25 (Q2x.N cK125 (Qp 136 (K61.sig.native (K61.W cK61)) (Qp 135 (Q3O.sig.native (Q3O.W cK143)) (Qp 134 (Q1J.sig.native (Q1J.W cK161)) (Qp 133 (Q1I.sig.native (Q1I.W cK157)) noΓ))))))),ro:=0,base:=14,Q2J:=jt_ [(1,K21.JR1),(3,K21.JR3),(5,K21.JR5)],Q29:=jt_ [(7,K21.JC7)]}
def K21.gen (cK157:Q1I.T) (cK161:Q1J.T) (cK143:Q3O.T) (cK61:K61.T) (cK125:Q2x.T) (cK25:K25.T) (cK153:Q2a.T):K21.T:=λp m l h0 g2 g10=>
 (Q0 ((Q0 (cK157 l 8) none λr0=>some ((p,()),(h0,(m,(r0.1.1,(g2,(g10,())))))))) none λr1=>(Q0 (cK161 r1.2.2.2.1) none λr2=>(Q0 ((Q0 (cK143 r2.1.1 r1.2.1.Q1d.QO) none λr3=>(bif r3.1.1 then some ((r1.1.1,(r2.1.1,(true,()))),(r1.2.1,(r1.2.2.1,r1.2.2.2.2))) else (Q0 ((r1.2.1.Qu r1.1.1).2) none λr4=>(Q0 (cK61 r1.2.2.1 r1.2.1.Q61 (r1.2.2.2.2.1.2 r4)) none λr5=>some ((r1.1.1,(r2.1.1,(ine r5.1.1 0,()))),(r1.2.1,(r1.2.2.1,((r1.2.2.2.2.1.1,QA r1.2.2.2.2.1.2 r4 r5.2.1.1),r1.2.2.2.2.2))))))))) none λr6=>(bif r6.1.2.2.1 then some ((false,()),((r6.2.1,r6.2.2.2),())) else (Q0 ((Q0 ((Q0 ((r6.2.1.Qu r6.1.1).3) none λr7=>(Q0 ((@Z3x U Go.Proofs.Tryz.prog 82 UC.Qm UC.Q1o (r6.2.2.1.Q25) (r6.1.2.1) (r6.2.2.2.2.1.2 r7))) none λ(r8:List (Q9×List Int))=>some (r7,r8)))) none λ(r9:Nat×List (Q9×List Int))=>some ((r6.1.1,()),(r6.2.1,(r6.2.2.2.1,((r6.2.2.2.2.1.1,QA r6.2.2.2.2.1.2 r9.1 r9.2),())))))) none λr10=>(Q0 (cK125 (r10.2.1.Qu r10.1.1).Q1Z) none λr11=>(Q0 ((bif r11.1.1 then (Q0 (cK25 r10.2.1) none λr12=>(Q0 (cK153 r12.1.1 (r10.2.1.Qu r10.1.1).Q43) none λr13=>some ((),(Q1.Q1k r10.2.1 (QA r10.2.1.Qu r10.1.1 (Qc.Q3x (r10.2.1.Qu r10.1.1) r13.2.1.1)),r10.2.2)))) else some ((),r10.2))) none λr14=>some ((true,()),(r14.2,())))))))))
def K21:K21.T:=K21.gen Q1I Q1J Q3O K61 Q2x K25 Q2a
theorem K21.eq (cK157:Q1I.T) (cK161:Q1J.T) (cK143:Q3O.T) (cK61:K61.T) (cK125:Q2x.T) (cK25:K25.T) (cK153:Q2a.T):EqA K21.sig (K21.H cK157 cK161 cK143 cK61 cK125 cK25 cK153) Tryz.f102 6 (K21.W (K21.gen cK157 cK161 cK143 cK61 cK125 cK25 cK153)):=by intro a x;kernel_rfl
theorem K21.ok:NK_ 102 K21.sig (K21.W K21):=ok_ Tryz.func102 (K21.eq Q1I Q1J Q3O K61 Q2x K25 Q2a) (hn_ (Z0 (Z0 (Z0 (Z0 (Z0 (Z0 (Z0 Z2 Q1I.ok) Q1J.ok) Q3O.ok) K61.ok) Q2x.ok) K25.ok) Q2a.ok))
def Q2G.sig:Sig U:=⟨[.int .i64],[],0,[.int .i64],false,[]⟩
abbrev Q2G.T:Type:=(Int)->Option ((Int×Unit)×Unit×Unit)
def Q2G.W (f:Q2G.T):Q2G.sig.F:=λa x=>f a.1
abbrev Q2G.N (c:Q2G.T):=Qp 172 (Q2G.sig.native (Q2G.W c))
def Q2G.H:Hints U:={ Γ:=noΓ,ro:=0,base:=13}
def Q2G.gen:Q2G.T:=λcorr=>
 some ((Q5M .i64 corr 16,()),((),()))
def Q2G:Q2G.T:=Q2G.gen
theorem Q2G.ok:NK_ 172 Q2G.sig (Q2G.W Q2G):=ok_ (H:=Q2G.H) (n:=6) Tryz.func172 (by intro a x;kernel_rfl) (hn_ Z2)
def Q3o.sig:Sig U:=⟨[.data .QJ],[],0,[.data .Q45],false,[]⟩
abbrev Q3o.T:Type:=(Qg)->Option ((Q23×Unit)×Unit×Unit)
def Q3o.W (f:Q3o.T):Q3o.sig.F:=λa x=>f a.1
def Q3o.H:Hints U:={ Γ:=noΓ,ro:=0,base:=13}
def Q3o.gen:Q3o.T:=λm=>
 some ((Q23.mk m.Q25 m.Q3w,()),((),()))
def Q3o:Q3o.T:=Q3o.gen
theorem Q3o.ok:NK_ 173 Q3o.sig (Q3o.W Q3o):=ok_ (H:=Q3o.H) (n:=6) Tryz.func173 (by intro a x;kernel_rfl) (hn_ Z2)
def Q42.sig:Sig U:=⟨[.int .i64,.int .i64],[],0,[.int .i64],false,[]⟩
abbrev Q42.T:Type:=(Int)->(Int)->Option ((Int×Unit)×Unit×Unit)
def Q42.W (f:Q42.T):Q42.sig.F:=λa x=>f a.1 a.2.1
def Q42.JC2:Qt U:= [(.normal,⟨26,13,[(0,vi_),(1,vi_)],[]⟩),
 (.ret,⟨26,13,[(4,vi_)],[]⟩)]
def Q42.H:Hints U:={ Γ:=noΓ,ro:=0,base:=13,Q1T:=jt_ [(1,[(5,vb_)]),(3,[(14,vb_)])],Q29:=jt_ [(2,Q42.JC2)]}
def Q42.gen:Q42.T:=λa b=>
 (Q0 ((bif ilt 0 b then some (ilt (Q1e .i64 9223372036854775807 b) a,()) else some (false,()))) none λr0=>(Q0 ((bif r0.1 then some (.inr (((9223372036854775807:Int),()),())) else (Q0 ((bif ilt b 0 then some (ilt a (Q1e .i64 (-9223372036854775808) b),()) else some (false,()))) none λr1=>(bif r1.1 then some (.inr (((-9223372036854775808:Int),()),())) else some (.inl ((a,(b,())),())))))) none λr2=>(Q3B r2 (λr3=>some ((Q2 .i64 r3.1.1 r3.1.2.1,()),((),()))) (λr3=>some (r3.1,((),()))))))
def Q42:Q42.T:=Q42.gen
theorem Q42.ok:NK_ 184 Q42.sig (Q42.W Q42):=ok_ (H:=Q42.H) (n:=6) Tryz.func184 (by intro a x;kernel_rfl) (hn_ Z2)
def Q2S.sig:Sig U:=⟨[.ptr,.data .QJ,.data .QJ,.int .i64],[.obj .QS],0,[.int .i64,.bool],true,[]⟩
abbrev Q2S.T:Type:=(Qg)->(Qg)->(Int)->(Qh)->Option ((Int×Bool×Unit)×(Qh×Unit)×Unit)
def Q2S.W (f:Q2S.T):Q2S.sig.F:=λa x=>f a.2.1 a.2.2.1 a.2.2.2.1 x.1
def Q2S.JR1:Qt U:= [(.normal,⟨23,16,[(3,vi_),(5,.ptr 14 0 0),(6,.ptr 15 0 0)],[(13,.obj .QS),(14,.obj .QJ),(15,.obj .QJ)]⟩)]
def Q2S.H (cK132:Q2e.T) (cK145:Q42.T) (cK146:Q2G.T):Hints U:={ Γ:=(Q2G.N cK146 (Qp 184 (Q42.sig.native (Q42.W cK145)) (Q2e.N cK132 noΓ))),ro:=0,base:=14,Q2J:=jt_ [(1,Q2S.JR1)]}
def Q2S.gen (cK132:Q2e.T) (cK145:Q42.T) (cK146:Q2G.T):Q2S.T:=λsync follow at_3 h0=>
 (Q0 ((Q0 (cK132 h0) none λr0=>some ((at_3,()),(r0.2.1.1,(sync,(follow,())))))) none λr1=>(Q0 (cK145 r1.2.2.1.Q4L r1.2.2.2.1.Q4L) none λr2=>(Q0 (cK146 r2.1.1) none λr3=>some ((Q1e .i64 (Q1e .i64 r1.1.1 r1.2.2.2.1.Q4n) r3.1.1,(true,())),((r1.2.1,()),())))))
def Q2S:Q2S.T:=Q2S.gen Q2e Q42 Q2G
theorem Q2S.eq (cK132:Q2e.T) (cK145:Q42.T) (cK146:Q2G.T):EqA Q2S.sig (Q2S.H cK132 cK145 cK146) Tryz.f174 6 (Q2S.W (Q2S.gen cK132 cK145 cK146)):=by intro a x;kernel_rfl
theorem Q2S.ok:NK_ 174 Q2S.sig (Q2S.W Q2S):=ok_ Tryz.func174 (Q2S.eq Q2e Q42 Q2G) (hn_ (Z0 (Z0 (Z0 Z2 Q2e.ok) Q42.ok) Q2G.ok))
def Q2V.sig:Sig U:=⟨[.ptr,.data .QJ,.int .i64],[.obj .QS],0,[.int .i64,.bool],true,[]⟩
abbrev Q2V.T:Type:=(Qg)->(Int)->(Qh)->Option ((Int×Bool×Unit)×(Qh×Unit)×Unit)
def Q2V.W (f:Q2V.T):Q2V.sig.F:=λa x=>f a.2.1 a.2.2.1 x.1
def Q2V.C:Code:=match Tryz.f137.body with|some c=>c|none=>.skip
def Q2V.B0:Code:=match (Z3 Q2V.C).getD 0 .skip with| .loop b=>b| .scope b=>b|_=>.skip
def Q2V.JR7:Qt U:= [(.normal,⟨63,14,[(8,vi_),(9,vb_)],[(13,.obj .QS)]⟩)]
def Q2V.H (cK146:Q2G.T) (cK138:Q3o.T) (cK135:Q2S.T):Hints U:={ Γ:=(Qp 174 (Q2S.sig.native (Q2S.W cK135)) (Qp 173 (Q3o.sig.native (Q3o.W cK138)) (Q2G.N cK146 noΓ))),ro:=0,base:=14,Q1T:=jt_ [(5,[(38,vb_)])],Q2J:=jt_ [(6,Q2V.JR7),(7,Q2V.JR7)],gotos:=3,loop:=λb=>none}
def Q2V.gen (cK146:Q2G.T) (cK138:Q3o.T) (cK135:Q2S.T):Q2V.T:=λx_1 at_2 h0=>
 (bif ine x_1.fType 0 then some (((0:Int),(false,())),((h0,()),())) else (bif ieq (Q50 .i64 x_1.Q2H 512) 0 then (Q0 (cK146 x_1.Q4L) none λr0=>some ((Q1e .i64 (Q1e .i64 at_2 x_1.Q4n) r0.1.1,(true,())),((h0,()),()))) else (Q0 ((bif h0.Q5s then (Q0 (cK138 h0.Q2m) none λr1=>(Q0 (cK138 x_1) none λr2=>some (bif bif ieq r1.1.1.Q4P.QO r2.1.1.Q4P.QO then bif ieq r1.1.1.Q4P.Q18 r2.1.1.Q4P.Q18 then true else false else false then bif ieq r1.1.1.Q5p r2.1.1.Q5p then true else false else false,()))) else some (false,()))) none λr3=>(bif r3.1 then (Q0 ((Q0 (cK135 x_1 h0.Q2m at_2 h0) none λr4=>some (r4.1,r4.2.1))) none λr5=>some (r5.1,(r5.2,()))) else some (((0:Int),(false,())),((Qh.mk x_1 h0.Q2m at_2 true h0.Q5s,()),()))))))
def Q2V:Q2V.T:=Q2V.gen Q2G Q3o Q2S
theorem Q2V.eq (cK146:Q2G.T) (cK138:Q3o.T) (cK135:Q2S.T):EqA Q2V.sig (Q2V.H cK146 cK138 cK135) Tryz.f137 6 (Q2V.W (Q2V.gen cK146 cK138 cK135)):=by intro a x;kernel_rfl
theorem Q2V.loops:Z3 Q2V.C= [(.scope Q2V.B0)]:=by kernel_rfl
theorem Q2V.ok:NK_ 137 Q2V.sig (Q2V.W Q2V):=ok_ Tryz.func137 (Q2V.eq Q2G Q3o Q2S) (hl_ (Z0 (Z0 (Z0 Z2 Q2G.ok) Q3o.ok) Q2S.ok) (Zt Z5)) Q2V.loops
def Q3l.sig:Sig U:=⟨[.ptr,.data .QJ],[.obj .QS],0,[.int .i64,.bool],true,[]⟩
abbrev Q3l.T:Type:=(Qg)->(Qh)->Option ((Int×Bool×Unit)×(Qh×Unit)×Unit)
def Q3l.W (f:Q3l.T):Q3l.sig.F:=λa x=>f a.2.1 x.1
def Q3l.JR5:Qt U:= [(.normal,⟨45,14,[],[(13,.obj .QS)]⟩)]
def Q3l.JC2:Qt U:= [(.normal,⟨45,15,[(0,.ptr 13 0 0),(3,.ptr 14 0 0)],[(13,.obj .QS),(14,.obj .QJ)]⟩),
 (.ret,⟨45,14,[(4,vi_),(5,vb_)],[(13,.obj .QS)]⟩)]
def Q3l.H (cK138:Q3o.T) (cK135:Q2S.T):Hints U:={ Γ:=(Qp 174 (Q2S.sig.native (Q2S.W cK135)) (Qp 173 (Q3o.sig.native (Q3o.W cK138)) noΓ)),ro:=0,base:=14,Q1T:=jt_ [(3,[(10,vb_)])],Q2J:=jt_ [(5,Q3l.JR5)],Q29:=jt_ [(2,Q3l.JC2)]}
def Q3l.gen (cK138:Q3o.T) (cK135:Q2S.T):Q3l.T:=λx_1 h0=>
 (Q0 ((bif ine x_1.fType 8 then some (.inr (((0:Int),(false,())),(h0,()))) else (Q0 ((bif h0.Q8B then (Q0 (cK138 h0.fsync) none λr0=>(Q0 (cK138 x_1) none λr1=>some (bif bif ieq r0.1.1.Q4P.QO r1.1.1.Q4P.QO then bif ieq r0.1.1.Q4P.Q18 r1.1.1.Q4P.Q18 then true else false else false then bif ieq r0.1.1.Q5p r1.1.1.Q5p then true else false else false,()))) else some (false,()))) none λr2=>(bif r2.1 then (Q0 (cK135 h0.fsync x_1 h0.fat h0) none λr3=>some (.inr (r3.1,r3.2.1))) else some (.inl ((),(h0,(x_1,())))))))) none λr4=>(Q3B r4 (λr5=>some (((0:Int),(false,())),((Qh.Q7b (Qh.Q8J r5.2.1 r5.2.2.1) true,()),()))) (λr5=>some (r5.1,(r5.2,())))))
def Q3l:Q3l.T:=Q3l.gen Q3o Q2S
theorem Q3l.eq (cK138:Q3o.T) (cK135:Q2S.T):EqA Q3l.sig (Q3l.H cK138 cK135) Tryz.f138 6 (Q3l.W (Q3l.gen cK138 cK135)):=by intro a x;kernel_rfl
theorem Q3l.ok:NK_ 138 Q3l.sig (Q3l.W Q3l):=ok_ Tryz.func138 (Q3l.eq Q3o Q2S) (hn_ (Z0 (Z0 Z2 Q3o.ok) Q2S.ok))
def Q3F.sig:Sig U:=⟨[.ptr],[.obj .QR],1,[.int .i64],false,[]⟩
abbrev Q3F.T:Type:=(Qd)->Option ((Int×Unit)×Unit×Unit)
def Q3F.W (f:Q3F.T):Q3F.sig.F:=λa x=>f x.1
def Q3F.H:Hints U:={ Γ:=noΓ,ro:=14,base:=14}
def Q3F.gen:Q3F.T:=λh0=>
 some ((h0.Q4G,()),((),()))
def Q3F:Q3F.T:=Q3F.gen
theorem Q3F.ok:NK_ 175 Q3F.sig (Q3F.W Q3F):=ok_ (H:=Q3F.H) (n:=6) Tryz.func175 (by intro a x;kernel_rfl) (hn_ Z2)
def Q3e.sig:Sig U:=⟨[.int .i64],[],0,[.int .i64],false,[]⟩
abbrev Q3e.T:Type:=(Int)->Option ((Int×Unit)×Unit×Unit)
def Q3e.W (f:Q3e.T):Q3e.sig.F:=λa x=>f a.1
def Q3e.H (cK152:Q3h.T):Hints U:={ Γ:=(Qp 67 (Q3h.sig.native (Q3h.W cK152)) noΓ),ro:=0,base:=13}
def Q3e.gen (cK152:Q3h.T):Q3e.T:=λlog=>
 (Q0 (cK152 1000000000 log) none λr0=>some (r0.1,((),())))
def Q3e:Q3e.T:=Q3e.gen Q3h
theorem Q3e.eq (cK152:Q3h.T):EqA Q3e.sig (Q3e.H cK152) Tryz.f177 6 (Q3e.W (Q3e.gen cK152)):=by intro a x;kernel_rfl
theorem Q3e.ok:NK_ 177 Q3e.sig (Q3e.W Q3e):=ok_ Tryz.func177 (Q3e.eq Q3h) (hn_ (Z0 Z2 Q3h.ok))
def Q4b.sig:Sig U:=⟨[.int .i64,.int .i64],[],0,[.int .i64],false,[]⟩
abbrev Q4b.T:Type:=(Int)->(Int)->Option ((Int×Unit)×Unit×Unit)
def Q4b.W (f:Q4b.T):Q4b.sig.F:=λa x=>f a.1 a.2.1
def Q4b.H:Hints U:={ Γ:=noΓ,ro:=0,base:=13}
def Q4b.gen:Q4b.T:=λv most=>
 some ((Z7 true (IntKind.wrap .i64 ((0:Int) - most)) (Z7 false v most),()),((),()))
def Q4b:Q4b.T:=Q4b.gen
theorem Q4b.ok:NK_ 203 Q4b.sig (Q4b.W Q4b):=ok_ (H:=Q4b.H) (n:=6) Tryz.func203 (by intro a x;kernel_rfl) (hn_ Z2)
def Q2u.sig:Sig U:=⟨[.ptr,.int .i64,.int .i64],[.obj .QR],0,[.int .i64,.bool,.int .i64],true,[]⟩
abbrev Q2u.T:Type:=(Int)->(Int)->(Qd)->Option ((Int×Bool×Int×Unit)×(Qd×Unit)×Unit)
def Q2u.W (f:Q2u.T):Q2u.sig.F:=λa x=>f a.2.1 a.2.2.1 x.1
def Q2u.C:Code:=match Tryz.f176.body with|some c=>c|none=>.skip
def Q2u.B0:Code:=match (Z3 Q2u.C).getD 0 .skip with| .loop b=>b| .scope b=>b|_=>.skip
def Q2u.JC18:Qt U:= [(.normal,⟨141,14,[(0,.ptr 13 0 0)],[(13,.obj .QR)]⟩)]
def Q2u.JC16:Qt U:= [(.normal,⟨141,14,[(0,.ptr 13 0 0),(1,vi_)],[(13,.obj .QR)]⟩)]
def Q2u.H (cK142:Q4b.T):Hints U:={ Γ:=(Qp 203 (Q4b.sig.native (Q4b.W cK142)) noΓ),ro:=0,base:=14,Q1T:=jt_ [(4,[(45,vb_)]),(10,[(91,vb_)]),(15,[(114,vb_)]),(19,[(127,vb_)])],Q29:=jt_ [(16,Q2u.JC16),(18,Q2u.JC18)],gotos:=3,loop:=λb=>none}
def Q2u.gen (cK142:Q4b.T):Q2u.T:=λoffset interval h0=>
 (Q0 (cK142 offset 4000000000000000) none λr0=>(Q0 ((bif ieq h0.Q1Z 0 then some (true,()) else (bif ieq h0.Q8g 0 then some (true,()) else (bif ilt h0.Q8g r0.1.1 then some (true,()) else some (ilt r0.1.1 (IntKind.wrap .i64 ((0:Int) - h0.Q8g)),()))))) none λr1=>(bif r1.1 then some ((IntKind.wrap .i64 ((0:Int) - r0.1.1),(true,(h0.Q4G,()))),((Qd.Q5H (Qd.Q3v h0 1) 0,()),())) else (bif ine (Z7 true 1 (Z7 false interval 16000000000)) 0 then (Q0 (cK142 (Q4c .i64 (Q2A .i64 r0.1.1 1000000000) (Z7 true 1 (Z7 false interval 16000000000))) 512000000) none λr2=>(Q0 (cK142 (Q2 .i64 h0.Q8q (Q4c .i64 (Q2A .i64 h0.fki r2.1.1) 1000)) 512000) none λr3=>(Q0 ((bif ilt 512000 (Q1e .i64 (IntKind.wrap .i64 ((0:Int) - Q4c .i64 (Q2A .i64 h0.fkp r2.1.1) 1000)) r3.1.1) then some (true,()) else some (ilt (Q1e .i64 (IntKind.wrap .i64 ((0:Int) - Q4c .i64 (Q2A .i64 h0.fkp r2.1.1) 1000)) r3.1.1) (-512000),()))) none λr4=>(bif r4.1 then (Q0 (cK142 (Q1e .i64 (IntKind.wrap .i64 ((0:Int) - Q4c .i64 (Q2A .i64 h0.fkp r2.1.1) 1000)) r3.1.1) 512000) none λr5=>(Q0 ((bif ilt 100 r0.1.1 then some (true,()) else some (ilt r0.1.1 (-100),()))) none λr6=>(Q0 ((bif r6.1 then some (r0.1,(Qd.Q5H (Qd.Q5h h0 r5.1.1) 0,())) else some (r0.1,(Qd.Q5H (Qd.Q5h h0 r5.1.1) (Q2 .i64 h0.Q77 1),())))) none λr7=>(Q0 ((bif ile 3 r7.2.1.Q77 then some ((),(Qd.Q3v r7.2.1 2,())) else (Q0 ((bif ilt 1000 r7.1.1 then some (true,()) else some (ilt r7.1.1 (-1000),()))) none λr8=>(bif r8.1 then some ((),(Qd.Q3v r7.2.1 1,())) else some ((),r7.2))))) none λr9=>some (((0:Int),(false,(r9.2.1.Q4G,()))),(r9.2,())))))) else (Q0 ((bif ilt 100 r0.1.1 then some (true,()) else some (ilt r0.1.1 (-100),()))) none λr10=>(Q0 ((bif r10.1 then some (r0.1,(Qd.Q5H (Qd.Q7y (Qd.Q5h h0 (Q1e .i64 (IntKind.wrap .i64 ((0:Int) - Q4c .i64 (Q2A .i64 h0.fkp r2.1.1) 1000)) r3.1.1)) r3.1.1) 0,())) else some (r0.1,(Qd.Q5H (Qd.Q7y (Qd.Q5h h0 (Q1e .i64 (IntKind.wrap .i64 ((0:Int) - Q4c .i64 (Q2A .i64 h0.fkp r2.1.1) 1000)) r3.1.1)) r3.1.1) (Q2 .i64 h0.Q77 1),())))) none λr11=>(Q0 ((bif ile 3 r11.2.1.Q77 then some ((),(Qd.Q3v r11.2.1 2,())) else (Q0 ((bif ilt 1000 r11.1.1 then some (true,()) else some (ilt r11.1.1 (-1000),()))) none λr12=>(bif r12.1 then some ((),(Qd.Q3v r11.2.1 1,())) else some ((),r11.2))))) none λr13=>some (((0:Int),(false,(r13.2.1.Q4G,()))),(r13.2,()))))))))) else none))))
def Q2u:Q2u.T:=Q2u.gen Q4b
theorem Q2u.eq (cK142:Q4b.T):EqA Q2u.sig (Q2u.H cK142) Tryz.f176 6 (Q2u.W (Q2u.gen cK142)):=by intro a x;kernel_rfl
theorem Q2u.loops:Z3 Q2u.C= [(.scope Q2u.B0)]:=by kernel_rfl
theorem Q2u.ok:NK_ 176 Q2u.sig (Q2u.W Q2u):=ok_ Tryz.func176 (Q2u.eq Q4b) (hl_ (Z0 Z2 Q4b.ok) (Zt Z5)) Q2u.loops
def K26.sig:Sig U:=⟨[.ptr,.Q4H 0 23 42 8,.int .i64],[.obj .Q4,Q54,Q47,Q4u,Q4z,Q4y],0,[],true,[]⟩
abbrev K26.T:Type:=(Nat)->(Int)->(Q1)->(Fm Qd)->(Fm Q6)->(Fm Q7)->(Fm Q8)->(Fm Qh)->Option (Unit×(Q1×Q7k)×Unit)
def K26.W (f:K26.T):K26.sig.F:=λa x=>f a.2.1 a.2.2.1 x.1 x.2.1 x.2.2.1 x.2.2.2.1 x.2.2.2.2.1 x.2.2.2.2.2.1
def K26.L0:Shape U:=⟨125,14,[(0,.ptr 13 0 0),(1,.Q1q 13 23 42 8 0),(68,vi_),(69,vi_)],(13,.obj .Q4)::Q67⟩
def K26.X0:Qt U:= [(.exit 1,⟨125,14,[(0,.ptr 13 0 0),(1,.Q1q 13 23 42 8 0)],(13,.obj .Q4)::Q67⟩)]
abbrev K26.l0T:Type:=((Nat×Int×Int×Unit)×(Q1×Q7k))->Option (((Nat×Unit)×(Q1×Q7k)))
def K26.C:Code:=match Tryz.f139.body with|some c=>c|none=>.skip
def K26.B0:Code:=match (Z3 K26.C).getD 0 .skip with| .loop b=>b| .scope b=>b|_=>.skip
def K26.Q8z:Qt U:= [(.normal,⟨125,14,[(0,.ptr 13 0 0),(1,.Q1q 13 23 42 8 0),(68,vi_),(69,vi_)],(13,.obj .Q4)::Q67⟩)]
def K26.Q8s:Qt U:= [(.normal,⟨125,14,[(0,.ptr 13 0 0),(1,.Q1q 13 23 42 8 0),(11,.Q1q 13 23 42 8 0),(68,vi_),(69,vi_)],(13,.obj .Q4)::Q67⟩)]
def K26.JR6:Qt U:= [(.normal,⟨125,14,[(0,.ptr 13 0 0),(1,.Q1q 13 23 42 8 0)],(13,.obj .Q4)::Q67⟩)]
def K26.JR2:Qt U:= [(.normal,⟨125,14,[(0,.ptr 13 0 0),(1,.Q1q 13 23 42 8 0),(6,vi_),(7,vi_),(8,vb_),(9,vi_)],(13,.obj .Q4)::Q67⟩)]
def K26.JR0:Qt U:= [(.normal,⟨125,14,[(0,.ptr 13 0 0),(1,.Q1q 13 23 42 8 0),(2,vi_)],(13,.obj .Q4)::Q67⟩)]
def K26.H (cK140:Q3F.T) (cK149:Q3e.T) (cK141:Q2u.T) (cK92:K92.T) (cK132:Q2e.T) (cK52:K52.T) (cK117:Q2X.T) (cK126:Q2s.T) (l0:K26.l0T):Hints U:={ Γ:=(Qp 112 (Q2s.sig.native (Q2s.W cK126)) (Qp 115 (Q2X.sig.native (Q2X.W cK117)) (K52.N cK52 (Q2e.N cK132 (Qp 127 (K92.sig.native (K92.W cK92)) (Qp 176 (Q2u.sig.native (Q2u.W cK141)) (Qp 177 (Q3e.sig.native (Q3e.W cK149)) (Qp 175 (Q3F.sig.native (Q3F.W cK140)) noΓ)))))))),ro:=0,base:=14,Q2J:=jt_ [(0,K26.JR0),(2,K26.JR2),(4,K26.JR6),(5,K26.JR6),(6,K26.JR6),(11,K26.Q8s),(12,K26.Q8s),(13,K26.Q8s),(14,K26.Q8z)],Q29:=jt_ [(4,K26.JR6)],loop:=jt_ [(8,(Z6 (0,14) K26.L0 K26.X0 l0))]}
def K26.QW (cK140:Q3F.T) (cK149:Q3e.T) (cK141:Q2u.T) (cK92:K92.T) (cK132:Q2e.T) (cK52:K52.T) (cK117:Q2X.T) (cK126:Q2s.T) (a:(Nat×Int×Int×Unit)×(Q1×Q7k)):Option (((Nat×Int×Int×Unit)×(Q1×Q7k))⊕(((Nat×Unit)×(Q1×Q7k)))):=
 (bif ilt a.1.2.2.1 a.1.2.1 then (bif inR a.1.2.2.1 8 then (Q0 ((Q0 ((a.2.1.Qu (Int.toNat a.1.2.2.1)).12) none λr0=>(Q0 (cK132 (a.2.2.2.2.2.2.1.2 r0)) none λr1=>some ((a.1.1,(Int.toNat a.1.2.2.1,a.1.2)),(a.2.1,(a.2.2.1,(a.2.2.2.1,(a.2.2.2.2.1,(a.2.2.2.2.2.1,((a.2.2.2.2.2.2.1.1,QA a.2.2.2.2.2.2.1.2 r0 r1.2.1.1),())))))))))) none λr2=>(Q0 ((Q0 ((r2.2.1.Qu r2.1.2.1).13) none λr3=>(Q0 (cK52 (r2.2.2.2.1.2 r3)) none λr4=>some (r2.1,(r2.2.1,(r2.2.2.1,((r2.2.2.2.1.1,QA r2.2.2.2.1.2 r3 r4.2.1.1),r2.2.2.2.2))))))) none λr5=>(Q0 ((Q0 ((r5.2.1.Qu r5.1.2.1).14) none λr6=>(Q0 (cK117 (r5.2.2.2.2.1.2 r6)) none λr7=>some (r5.1,(r5.2.1,(r5.2.2.1,(r5.2.2.2.1,((r5.2.2.2.2.1.1,QA r5.2.2.2.2.1.2 r6 r7.2.1.1),r5.2.2.2.2.2)))))))) none λr8=>some (.inl ((r8.1.1,(r8.1.2.2.1,(Q2 .i64 r8.1.2.2.2.1 1,()))),(Q1.Q1k r8.2.1 (QA r8.2.1.Qu r8.1.2.1 (Qc.Q5i (r8.2.1.Qu r8.1.2.1) z4_)),r8.2.2)))))) else none) else some (.inr ((a.1.1,()),a.2)))
def K26.F0:K26.l0T:=λa=>Z8 (1000000) (K26.QW Q3F Q3e Q2u K92 Q2e K52 Q2X Q2s) a
def K26.gen (cK140:Q3F.T) (cK149:Q3e.T) (cK141:Q2u.T) (cK92:K92.T) (cK132:Q2e.T) (cK52:K52.T) (cK117:Q2X.T) (cK126:Q2s.T) (l0:K26.l0T):K26.T:=λp offset h0 g1 g3 g4 g5 g6=>
 (Q0 (h0.5) none λr0=>(Q0 (cK140 (g1.2 r0)) none λr1=>(Q0 ((Q0 (h0.5) none λr2=>(Q0 (cK149 h0.Q1d.Q4v) none λr3=>(Q0 (cK141 offset r3.1.1 (g1.2 r2)) none λr4=>some ((p,(r1.1.1,r4.1)),(Q1.Q8G h0 offset,((g1.1,QA g1.2 r2 r4.2.1.1),(g3,(g4,(g5,(g6,()))))))))))) none λr5=>(Q0 ((bif r5.1.2.2.2.1 then (Q0 ((bif room (List.length r5.2.1.Q4T+List.length (Q12.mk 2 0 r5.1.2.2.1 false 0 0 (ByteArray.mk (List.toArray (QG UInt8)))::QG Q12)) 64 then some ((r5.1.1,()),(Q1.Q3q r5.2.1 (r5.2.1.Q4T++Q12.mk 2 0 r5.1.2.2.1 false 0 0 (ByteArray.mk (List.toArray (QG UInt8)))::QG Q12),r5.2.2)) else none)) none λr6=>(Q0 ((Q0 (r6.2.1.6) none λr7=>(Q0 (cK92 (r6.2.2.2.2.2.1.2 r7)) none λr8=>some (r6.1,(r6.2.1,(r6.2.2.1,(r6.2.2.2.1,(r6.2.2.2.2.1,((r6.2.2.2.2.2.1.1,QA r6.2.2.2.2.2.1.2 r7 r8.2.1.1),r6.2.2.2.2.2.2))))))))) none λr9=>(bif le3 (ofN 0) r9.2.1.Q1d.Q2Z 8 then (Q0 (l0 ((r9.1.1,ofN (Int.toNat r9.2.1.Q1d.Q2Z - Int.toNat (ofN 0)),(0:Int),()),Q1.Q6J r9.2.1 z4_,r9.2.2)) none λr10=>some r10) else none))) else (bif ine r5.1.2.2.2.2.1 r5.1.2.1 then (bif room (List.length r5.2.1.Q4T+List.length (Q12.mk 3 0 r5.1.2.2.2.2.1 false 0 0 (ByteArray.mk (List.toArray (QG UInt8)))::QG Q12)) 64 then some ((r5.1.1,()),(Q1.Q3q r5.2.1 (r5.2.1.Q4T++Q12.mk 3 0 r5.1.2.2.2.2.1 false 0 0 (ByteArray.mk (List.toArray (QG UInt8)))::QG Q12),r5.2.2)) else none) else some ((r5.1.1,()),r5.2)))) none λr11=>(Q0 (cK126 (r11.2.1.Qu r11.1.1).Q1Z 6 r11.2.1.Q1d.Q3u) none λr12=>some ((),((Q1.Q1k r11.2.1 (QA r11.2.1.Qu r11.1.1 (Qc.Q3v (r11.2.1.Qu r11.1.1) r12.1.1)),r11.2.2),())))))))
def K26:K26.T:=K26.gen Q3F Q3e Q2u K92 Q2e K52 Q2X Q2s K26.F0
theorem K26.Q1O (cK140:Q3F.T) (cK149:Q3e.T) (cK141:Q2u.T) (cK92:K92.T) (cK132:Q2e.T) (cK52:K52.T) (cK117:Q2X.T) (cK126:Q2s.T) (l0:K26.l0T) (a:K26.L0.T):run Tryz.prog (K26.H cK140 cK149 cK141 cK92 cK132 cK52 cK117 cK126 l0) 6 (Option (K26.L0.T⊕ExT K26.X0)) none K26.B0 (K26.L0.enc a) (Zc (0,14) K26.L0 K26.X0)=K26.QW cK140 cK149 cK141 cK92 cK132 cK52 cK117 cK126 a:=by kernel_rfl
abbrev K26.h:=K26.H Q3F Q3e Q2u K92 Q2e K52 Q2X Q2s K26.F0
theorem K26.Q1D:LO_ K26.h K26.B0 (Z6 (0,14) K26.L0 K26.X0 K26.F0):=lk_ (hn_ (Z0 (Z0 (Z0 (Z0 (Z0 (Z0 (Z0 (Z0 Z2 Q3F.ok) Q3e.ok) Q2u.ok) K92.ok) Q2e.ok) K52.ok) Q2X.ok) Q2s.ok)) (K26.Q1O Q3F Q3e Q2u K92 Q2e K52 Q2X Q2s K26.F0)
theorem K26.eq (cK140:Q3F.T) (cK149:Q3e.T) (cK141:Q2u.T) (cK92:K92.T) (cK132:Q2e.T) (cK52:K52.T) (cK117:Q2X.T) (cK126:Q2s.T) (l0:K26.l0T):EqA K26.sig (K26.H cK140 cK149 cK141 cK92 cK132 cK52 cK117 cK126 l0) Tryz.f139 6 (K26.W (K26.gen cK140 cK149 cK141 cK92 cK132 cK52 cK117 cK126 l0)):=by intro a x;kernel_rfl
theorem K26.loops:Z3 K26.C= [(.loop K26.B0)]:=by kernel_rfl
theorem K26.ok:NK_ 139 K26.sig (K26.W K26):=ok_ Tryz.func139 (K26.eq Q3F Q3e Q2u K92 Q2e K52 Q2X Q2s K26.F0) (hl_ (Z0 (Z0 (Z0 (Z0 (Z0 (Z0 (Z0 (Z0 Z2 Q3F.ok) Q3e.ok) Q2u.ok) K92.ok) Q2e.ok) K52.ok) Q2X.ok) Q2s.ok) (Z4 (by kernel_rfl) K26.Q1D Z5)) K26.loops
def K18.sig:Sig U:=⟨[.ptr,.Q4H 0 23 42 8,.data .QJ,.int .i64],[.obj .Q4,Q54,Q47,Q4u,Q4z,Q4y],0,[],true,[]⟩
abbrev K18.T:Type:=(Nat)->(Qg)->(Int)->(Q1)->(Fm Qd)->(Fm Q6)->(Fm Q7)->(Fm Q8)->(Fm Qh)->Option (Unit×(Q1×Q7k)×Unit)
def K18.W (f:K18.T):K18.sig.F:=λa x=>f a.2.1 a.2.2.1 a.2.2.2.1 x.1 x.2.1 x.2.2.1 x.2.2.2.1 x.2.2.2.2.1 x.2.2.2.2.2.1
def K18.JR6:Qt U:= [(.normal,⟨62,15,[(0,.ptr 13 0 0),(1,.Q1q 13 23 42 8 0),(8,vi_),(10,.ptr 14 0 0)],(13,.obj .Q4)::(14,.obj .Q27)::Q67⟩)]
def K18.JR5:Qt U:= [(.normal,⟨62,14,[(0,.ptr 13 0 0),(1,.Q1q 13 23 42 8 0),(8,vi_)],(13,.obj .Q4)::Q67⟩)]
def K18.JR1:Qt U:= [(.normal,⟨62,15,[(0,.ptr 13 0 0),(1,.Q1q 13 23 42 8 0),(6,.ptr 14 0 0),(8,vi_),(9,vb_)],(13,.obj .Q4)::(14,.obj .QJ)::Q67⟩)]
def K18.JC3:Qt U:= [(.normal,⟨62,14,[(0,.ptr 13 0 0),(1,.Q1q 13 23 42 8 0),(8,vi_),(9,vb_)],(13,.obj .Q4)::Q67⟩)]
def K18.H (cK134:Q2V.T) (cK133:Q3l.T) (cK26:K26.T):Hints U:={ Γ:=(Qp 139 (K26.sig.native (K26.W cK26)) (Qp 138 (Q3l.sig.native (Q3l.W cK133)) (Qp 137 (Q2V.sig.native (Q2V.W cK134)) noΓ))),ro:=0,base:=14,Q2J:=jt_ [(1,K18.JR1),(5,K18.JR5),(6,K18.JR6)],Q29:=jt_ [(3,K18.JC3),(8,K18.JR6)]}
def K18.gen (cK134:Q2V.T) (cK133:Q3l.T) (cK26:K26.T):K18.T:=λp m now h0 g1 g3 g4 g5 g6=>
 (Q0 ((Q0 ((h0.Qu p).12) none λr0=>(Q0 (cK134 m now (g6.2 r0)) none λr1=>some ((p,r1.1),(h0,(m,(g1,(g3,(g4,(g5,((g6.1,QA g6.2 r0 r1.2.1.1),()))))))))))) none λr2=>(Q0 ((bif ieq r2.2.2.1.fType 8 then (Q0 ((r2.2.1.Qu r2.1.1).12) none λr3=>(Q0 (cK133 r2.2.2.1 (r2.2.2.2.2.2.2.2.1.2 r3)) none λr4=>some ((r2.1.1,r4.1),(r2.2.1,(r2.2.2.2.1,(r2.2.2.2.2.1,(r2.2.2.2.2.2.1,(r2.2.2.2.2.2.2.1,((r2.2.2.2.2.2.2.2.1.1,QA r2.2.2.2.2.2.2.2.1.2 r3 r4.2.1.1),()))))))))) else some (r2.1,(r2.2.1,r2.2.2.2)))) none λr5=>(bif !r5.1.2.2.1 then some ((),(r5.2,())) else (Q0 ((bif r5.2.1.Q1d.Q4J then some ((r5.1.1,(r5.1.2.1,())),(Q1.Q1k r5.2.1 (QA r5.2.1.Qu r5.1.1 (Qc.Q5i (r5.2.1.Qu r5.1.1) (Q1b.mk r5.1.2.1 true))),((QA r5.2.1.Qu r5.1.1 (Qc.Q5i (r5.2.1.Qu r5.1.1) (Q1b.mk r5.1.2.1 true)) r5.1.1).Q5n,r5.2.2))) else some ((r5.1.1,(r5.1.2.1,())),(Q1.Q1k r5.2.1 (QA r5.2.1.Qu r5.1.1 (Qc.Q5i (r5.2.1.Qu r5.1.1) (Q1b.mk r5.1.2.1 true))),(r5.2.1.Q6s,r5.2.2))))) none λr6=>(bif r6.2.2.1.fis then (Q0 (cK26 r6.1.1 (Q1e .i64 r6.1.2.1 r6.2.2.1.fv) r6.2.1 r6.2.2.2.1 r6.2.2.2.2.1 r6.2.2.2.2.2.1 r6.2.2.2.2.2.2.1 r6.2.2.2.2.2.2.2.1) none λr7=>some ((),r7.2)) else some ((),((r6.2.1,r6.2.2.2),())))))))
def K18:K18.T:=K18.gen Q2V Q3l K26
theorem K18.eq (cK134:Q2V.T) (cK133:Q3l.T) (cK26:K26.T):EqA K18.sig (K18.H cK134 cK133 cK26) Tryz.f103 6 (K18.W (K18.gen cK134 cK133 cK26)):=by intro a x;kernel_rfl
theorem K18.ok:NK_ 103 K18.sig (K18.W K18):=ok_ Tryz.func103 (K18.eq Q2V Q3l K26) (hn_ (Z0 (Z0 (Z0 Z2 Q2V.ok) Q3l.ok) K26.ok))
def K51.sig:Sig U:=⟨[.data .QJ,.data .Qm,.int .i64,.int .i64],[],0,[.data .QJ,.bool],true,[]⟩
abbrev K51.T:Type:=(Qg)->(Q9)->(Int)->(Int)->Option ((Qg×Bool×Unit)×Unit×Unit)
def K51.W (f:K51.T):K51.sig.F:=λa x=>f a.1 a.2.1 a.2.2.1 a.2.2.2.1
def K51.H (cK148:Q28.T):Hints U:={ Γ:=(Q28.N cK148 noΓ),ro:=0,base:=13,Q1T:=jt_ [(1,[(17,vb_)])]}
def K51.gen (cK148:Q28.T):K51.T:=λm self at_2 log=>
 (Q0 ((bif ine m.fType 1 then some (true,()) else (Q0 (cK148 at_2) none λr0=>some (!r0.1.1,())))) none λr1=>(bif r1.1 then some ((Qg.mk 0 0 0 0 z0_ 0 0 0 z0_ 0 0 z1_ 0 0 0 0 0 0 0,(false,())),((),())) else some ((Qg.mk 9 m.Q2i 0 m.Q4L self m.Q3w log at_2 m.Q25 0 0 z1_ 0 0 0 0 0 0 0,(true,())),((),()))))
def K51:K51.T:=K51.gen Q28
theorem K51.eq (cK148:Q28.T):EqA K51.sig (K51.H cK148) Tryz.f104 6 (K51.W (K51.gen cK148)):=by intro a x;kernel_rfl
theorem K51.ok:NK_ 104 K51.sig (K51.W K51):=ok_ Tryz.func104 (K51.eq Q28) (hn_ (Z0 Z2 Q28.ok))
def K54.sig:Sig U:=⟨[.ptr,.data .QJ],[.obj .Qy],0,[.int .i64,.bool],true,[]⟩
abbrev K54.T:Type:=(Qg)->(Q6)->Option ((Int×Bool×Unit)×(Q6×Unit)×Unit)
def K54.W (f:K54.T):K54.sig.F:=λa x=>f a.2.1 x.1
def K54.H (cK146:Q2G.T) (cK52:K52.T):Hints U:={ Γ:=(K52.N cK52 (Q2G.N cK146 noΓ)),ro:=0,base:=14,Q1T:=jt_ [(1,[(36,vb_)])]}
def K54.gen (cK146:Q2G.T) (cK52:K52.T):K54.T:=λm h0=>
 (Q0 ((bif ine m.fType 9 then some (true,()) else (bif !bif ieq m.Q36.QO h0.Q5F.QO then bif ieq m.Q36.Q18 h0.Q5F.Q18 then true else false else false then some (true,()) else (bif !h0.fr.Q5Q then some (true,()) else some (ine m.Q3w h0.fr.Q5p,()))))) none λr0=>(bif r0.1 then some (((0:Int),(false,())),((h0,()),())) else (Q0 (cK146 m.Q4L) none λr1=>(Q0 (cK52 h0) none λr2=>some ((Q1e .i64 (Q1e .i64 m.Q4n h0.fr.fat) r1.1.1,(true,())),r2.2)))))
def K54:K54.T:=K54.gen Q2G K52
theorem K54.eq (cK146:Q2G.T) (cK52:K52.T):EqA K54.sig (K54.H cK146 cK52) Tryz.f142 6 (K54.W (K54.gen cK146 cK52)):=by intro a x;kernel_rfl
theorem K54.ok:NK_ 142 K54.sig (K54.W K54):=ok_ Tryz.func142 (K54.eq Q2G K52) (hn_ (Z0 (Z0 Z2 Q2G.ok) K52.ok))
def Q4g.sig:Sig U:=⟨[.int .i64,.int .i64],[],0,[.cpx,.bool],true,[]⟩
abbrev Q4g.T:Type:=(Int)->(Int)->Option ((((Nat×Nat))×Bool×Unit)×Unit×Unit)
def Q4g.W (f:Q4g.T):Q4g.sig.F:=λa x=>f a.1 a.2.1
def Q4g.H:Hints U:={ Γ:=noΓ,ro:=0,base:=13,Q1T:=jt_ [(1,[(19,vb_)])]}
def Q4g.gen:Q4g.T:=λa b=>
 (Q0 ((bif ilt a (-4000000000000000) then some (true,()) else (bif ilt 4000000000000000 a then some (true,()) else (bif ilt b (-4000000000000000) then some (true,()) else some (ilt 4000000000000000 b,()))))) none λr0=>(bif r0.1 then some (((0,0),(false,())),((),())) else some (((Go.floatOfInt Go.FloatKind.f64 a,Go.floatOfInt Go.FloatKind.f64 b),(true,())),((),()))))
def Q4g:Q4g.T:=Q4g.gen
theorem Q4g.ok:NK_ 143 Q4g.sig (Q4g.W Q4g):=ok_ (H:=Q4g.H) (n:=6) Tryz.func143 (by intro a x;kernel_rfl) (hn_ Z2)
def K91.sig:Sig U:=⟨[.flt],[],0,[.flt],false,[]⟩
abbrev K91.T:Type:=(Nat)->Option ((Nat×Unit)×Unit×Unit)
def K91.W (f:K91.T):K91.sig.F:=λa x=>f a.1
def K91.H:Hints U:={ Γ:=(Qp 232 Z5i noΓ),ro:=0,base:=13}
def K91.gen:K91.T:=λx_0=>
 (Q0 ((Z4q (x_0))) none λr0=>some ((r0,()),((),())))
def K91:K91.T:=K91.gen
theorem K91.ok:NK_ 230 K91.sig (K91.W K91):=ok_ (H:=K91.H) (n:=6) Tryz.func230 (by intro a x;kernel_rfl) (hn_ (Z0 Z2 (Z7S Tryz.func232 rfl (by kernel_rfl) (by kernel_rfl) (by kernel_rfl))))
def K90.sig:Sig U:=⟨[.flt],[],0,[.bool],false,[]⟩
abbrev K90.T:Type:=(Nat)->Option ((Bool×Unit)×Unit×Unit)
def K90.W (f:K90.T):K90.sig.F:=λa x=>f a.1
def K90.H:Hints U:={ Γ:=(Qp 234 Z4a noΓ),ro:=0,base:=13}
def K90.gen:K90.T:=λx_0=>
 some ((ilt (IntKind.wrap .i64 (ofN x_0)) 0,()),((),()))
def K90:K90.T:=K90.gen
theorem K90.ok:NK_ 231 K90.sig (K90.W K90):=ok_ (H:=K90.H) (n:=6) Tryz.func231 (by intro a x;kernel_rfl) (hn_ (Z0 Z2 (Z6M Tryz.func234 rfl (by kernel_rfl) (by kernel_rfl) (by kernel_rfl))))
def Q3N.sig:Sig U:=⟨[.flt],[],0,[.bool],false,[]⟩
abbrev Q3N.T:Type:=(Nat)->Option ((Bool×Unit)×Unit×Unit)
def Q3N.W (f:Q3N.T):Q3N.sig.F:=λa x=>f a.1
def Q3N.H (cK91:K91.T) (cK90:K90.T):Hints U:={ Γ:=(Qp 231 (K90.sig.native (K90.W cK90)) (Qp 230 (K91.sig.native (K91.W cK91)) noΓ)),ro:=0,base:=13}
def Q3N.gen (cK91:K91.T) (cK90:K90.T):Q3N.T:=λf=>
 (bif Ieee.Format.order (Go.FloatKind.format Go.FloatKind.f64) f 14063734437023318016==some Ordering.gt||Ieee.Format.order (Go.FloatKind.format Go.FloatKind.f64) f 14063734437023318016==some Ordering.eq then (bif Ieee.Format.order (Go.FloatKind.format Go.FloatKind.f64) f 4840362400168542208==some Ordering.lt||Ieee.Format.order (Go.FloatKind.format Go.FloatKind.f64) f 4840362400168542208==some Ordering.eq then (Q0 (cK91 f) none λr0=>(bif Ieee.Format.order (Go.FloatKind.format Go.FloatKind.f64) f r0.1.1==some Ordering.eq then (bif Ieee.Format.order (Go.FloatKind.format Go.FloatKind.f64) f 0 !=some Ordering.eq then some ((true,()),((),())) else (Q0 (cK90 f) none λr1=>some ((!r1.1.1,()),((),())))) else some ((false,()),((),())))) else some ((false,()),((),()))) else some ((false,()),((),())))
def Q3N:Q3N.T:=Q3N.gen K91 K90
theorem Q3N.eq (cK91:K91.T) (cK90:K90.T):EqA Q3N.sig (Q3N.H cK91 cK90) Tryz.f225 6 (Q3N.W (Q3N.gen cK91 cK90)):=by intro a x;kernel_rfl
theorem Q3N.ok:NK_ 225 Q3N.sig (Q3N.W Q3N):=ok_ Tryz.func225 (Q3N.eq K91 K90) (hn_ (Z0 (Z0 Z2 K91.ok) K90.ok))
def Q3G.sig:Sig U:=⟨[.cpx],[],0,[.bool],false,[]⟩
abbrev Q3G.T:Type:=((Nat×Nat))->Option ((Bool×Unit)×Unit×Unit)
def Q3G.W (f:Q3G.T):Q3G.sig.F:=λa x=>f a.1
def Q3G.H (cK116:Q3N.T):Hints U:={ Γ:=(Qp 225 (Q3N.sig.native (Q3N.W cK116)) noΓ),ro:=0,base:=13}
def Q3G.gen (cK116:Q3N.T):Q3G.T:=λz=>
 (Q0 (cK116 z.1) none λr0=>(bif r0.1.1 then (Q0 (cK116 z.2) none λr1=>some (r1.1,((),()))) else some ((false,()),((),()))))
def Q3G:Q3G.T:=Q3G.gen Q3N
theorem Q3G.eq (cK116:Q3N.T):EqA Q3G.sig (Q3G.H cK116) Tryz.f212 6 (Q3G.W (Q3G.gen cK116)):=by intro a x;kernel_rfl
theorem Q3G.ok:NK_ 212 Q3G.sig (Q3G.W Q3G):=ok_ Tryz.func212 (Q3G.eq Q3N) (hn_ (Z0 Z2 Q3N.ok))
def Q3K.sig:Sig U:=⟨[.cpx],[],0,[.cpx,.bool],true,[]⟩
abbrev Q3K.T:Type:=((Nat×Nat))->Option ((((Nat×Nat))×Bool×Unit)×Unit×Unit)
def Q3K.W (f:Q3K.T):Q3K.sig.F:=λa x=>f a.1
def Q3K.H (cK115:Q3G.T):Hints U:={ Γ:=(Qp 212 (Q3G.sig.native (Q3G.W cK115)) noΓ),ro:=0,base:=13}
def Q3K.gen (cK115:Q3G.T):Q3K.T:=λz=>
 (Q0 (cK115 z) none λr0=>(bif !r0.1.1 then some (((0,0),(false,())),((),())) else (Q0 ((Go.cMulBits (z.1) (z.2) (4607182418800017408) (4607182418800017408))) none λr1=>some ((r1,(true,())),((),())))))
def Q3K:Q3K.T:=Q3K.gen Q3G
theorem Q3K.eq (cK115:Q3G.T):EqA Q3K.sig (Q3K.H cK115) Tryz.f181 6 (Q3K.W (Q3K.gen cK115)):=by intro a x;kernel_rfl
theorem Q3K.ok:NK_ 181 Q3K.sig (Q3K.W Q3K):=ok_ Tryz.func181 (Q3K.eq Q3G) (hn_ (Z0 Z2 Q3G.ok))
def Q3M.sig:Sig U:=⟨[.cpx],[],0,[.int .i64,.bool],true,[]⟩
abbrev Q3M.T:Type:=((Nat×Nat))->Option ((Int×Bool×Unit)×Unit×Unit)
def Q3M.W (f:Q3M.T):Q3M.sig.F:=λa x=>f a.1
def Q3M.H (cK114:Q3K.T):Hints U:={ Γ:=(Qp 181 (Q3K.sig.native (Q3K.W cK114)) noΓ),ro:=0,base:=13}
def Q3M.gen (cK114:Q3K.T):Q3M.T:=λz=>
 (Q0 (cK114 z) none λr0=>(Q0 ((Go.floatToIntVal Go.FloatKind.f64 (r0.1.1.2) .i64)) none λr1=>some ((Q5M .i64 r1 1,r0.1.2),((),()))))
def Q3M:Q3M.T:=Q3M.gen Q3K
theorem Q3M.eq (cK114:Q3K.T):EqA Q3M.sig (Q3M.H cK114) Tryz.f144 6 (Q3M.W (Q3M.gen cK114)):=by intro a x;kernel_rfl
theorem Q3M.ok:NK_ 144 Q3M.sig (Q3M.W Q3M):=ok_ Tryz.func144 (Q3M.eq Q3K) (hn_ (Z0 Z2 Q3K.ok))
def K93.sig:Sig U:=⟨[.ptr],[.obj .QC],1,[.int .i64,.bool],true,[]⟩
abbrev K93.T:Type:=(Q8)->Option ((Int×Bool×Unit)×Unit×Unit)
def K93.W (f:K93.T):K93.sig.F:=λa x=>f x.1
def K93.L0:Shape U:=⟨60,15,[(0,.ptr 13 0 0),(4,.ptr 14 0 0),(20,.asl 13 0 1 15),(21,vi_),(22,vi_)],[(13,.obj .QC),(14,.Qf true .int)]⟩
def K93.X0:Qt U:= [(.exit 0,⟨60,15,[(0,.ptr 13 0 0),(4,.ptr 14 0 0)],[(13,.obj .QC),(14,.Qf true .int)]⟩)]
abbrev K93.l0T:Type:=(((Nat×Nat)×Int×Int×Unit)×(Q8×(Fm Int)×Unit))->Option ((Unit×(Q8×(Fm Int)×Unit)))
def K93.L1:Shape U:=⟨60,15,[(0,.ptr 13 0 0),(4,.ptr 14 0 0),(5,vi_),(6,vi_),(7,vi_),(20,.asl 13 0 1 15),(21,vi_),(22,vi_)],[(13,.obj .QC),(14,.Qf true .int)]⟩
def K93.X1:Qt U:= [(.exit 2,⟨60,15,[(0,.ptr 13 0 0),(4,.ptr 14 0 0),(5,vi_),(6,vi_),(7,vi_),(20,.asl 13 0 1 15),(21,vi_),(22,vi_)],[(13,.obj .QC),(14,.Qf true .int)]⟩)]
abbrev K93.l1T:Type:=((Int×Int×Int×(Nat×Nat)×Int×Int×Unit)×(Q8×(Fm Int)×Unit))->Option (((Int×Int×Int×(Nat×Nat)×Int×Int×Unit)×(Q8×(Fm Int)×Unit)))
def K93.C:Code:=match Tryz.f182.body with|some c=>c|none=>.skip
def K93.B0:Code:=match (Z3 K93.C).getD 0 .skip with| .loop b=>b| .scope b=>b|_=>.skip
def K93.B1:Code:=match (Z3 K93.C).getD 1 .skip with| .loop b=>b| .scope b=>b|_=>.skip
def K93.H (l0:K93.l0T) (l1:K93.l1T):Hints U:={ Γ:=(Qp 3000000184 Z1e noΓ),ro:=14,base:=14,Q1T:=jt_ [(8,[(36,vb_)])],loop:=jt_ [(5,(Z6 (14,14) K93.L0 K93.X0 l0)),(8,(Z6 (14,14) K93.L1 K93.X1 l1))]}
def K93.Q2n (a:(Int×Int×Int×(Nat×Nat)×Int×Int×Unit)×(Q8×(Fm Int)×Unit)):Option (((Int×Int×Int×(Nat×Nat)×Int×Int×Unit)×(Q8×(Fm Int)×Unit))⊕(((Int×Int×Int×(Nat×Nat)×Int×Int×Unit)×(Q8×(Fm Int)×Unit)))):=
 (Q0 ((bif ilt a.1.2.2.1 a.1.1 then (bif bif inR a.1.2.2.1 15 then inR a.1.2.2.1 a.2.2.1.1 else false then some (ile (a.2.2.1.2 (Int.toNat a.1.2.2.1)) a.1.2.1,()) else none) else some (false,()))) none λr0=>(bif r0.1 then some (.inl ((a.1.1,(a.1.2.1,(Q2 .i64 a.1.2.2.1 1,a.1.2.2.2))),a.2)) else some (.inr a)))
def K93.F1:K93.l1T:=λa=>Z8 (1000000+(a.1.2.2.2.1.2)) (K93.Q2n) a
def K93.QW (l1:K93.l1T) (a:((Nat×Nat)×Int×Int×Unit)×(Q8×(Fm Int)×Unit)):Option ((((Nat×Nat)×Int×Int×Unit)×(Q8×(Fm Int)×Unit))⊕((Unit×(Q8×(Fm Int)×Unit)))):=
 (bif ilt a.1.2.2.1 a.1.2.1 then (bif inR a.1.2.2.1 a.1.1.2 then (Q0 (l1 ((a.1.2.2.1,a.2.1.fl (a.1.1.1+Int.toNat a.1.2.2.1),(0:Int),a.1),a.2)) none λr0=>(bif bif le3 (Q2 .i64 r0.1.2.2.1 1) (Q2 .i64 r0.1.1 1) 15 then le3 (Q2 .i64 r0.1.2.2.1 1) (Q2 .i64 r0.1.1 1) r0.2.2.1.1 else false then (bif bif le3 r0.1.2.2.1 r0.1.1 15 then le3 r0.1.2.2.1 r0.1.1 r0.2.2.1.1 else false then (bif bif inR r0.1.2.2.1 15 then inR r0.1.2.2.1 r0.2.2.1.1 else false then some (.inl ((r0.1.2.2.2.1,(r0.1.2.2.2.2.1,(Q2 .i64 r0.1.2.2.2.2.2.1 1,()))),(r0.2.1,((r0.2.2.1.1,QA (λ(i:Nat)=>bif Nat.ble (Int.toNat (Q2 .i64 r0.1.2.2.1 1)) i && Nat.blt i (Int.toNat (Q2 .i64 r0.1.2.2.1 1)+Nat.min (Int.toNat r0.1.1 - Int.toNat r0.1.2.2.1) (Int.toNat (Q2 .i64 r0.1.1 1) - Int.toNat (Q2 .i64 r0.1.2.2.1 1))) then r0.2.2.1.2 (Int.toNat r0.1.2.2.1+(i - Int.toNat (Q2 .i64 r0.1.2.2.1 1))) else r0.2.2.1.2 i) (Int.toNat r0.1.2.2.1) r0.1.2.1),())))) else none) else none) else none)) else none) else some (.inr ((),a.2)))
def K93.F0:K93.l0T:=λa=>Z8 (1000000+(a.1.1.2)) (K93.QW K93.F1) a
def K93.gen (l0:K93.l0T) (l1:K93.l1T):K93.T:=λh0=>
 (bif ieq h0.fn 0 then some (((0:Int),(false,())),((),())) else (bif le3 (ofN 0) h0.fn 15 then (Q0 (l0 (((Int.toNat (ofN 0),Int.toNat h0.fn - Int.toNat (ofN 0)),ofN (Int.toNat h0.fn - Int.toNat (ofN 0)),(0:Int),()),h0,(15,λ(j:Nat)=>List.getD ((0:Int)::(0:Int)::(0:Int)::(0:Int)::(0:Int)::(0:Int)::(0:Int)::(0:Int)::(0:Int)::(0:Int)::(0:Int)::(0:Int)::(0:Int)::(0:Int)::(0:Int)::QG Int) j (0:D UC.int)),())) none λr0=>(bif bif inR (Q4c .i64 (Q1e .i64 r0.2.1.fn 1) 2) 15 then inR (Q4c .i64 (Q1e .i64 r0.2.1.fn 1) 2) r0.2.2.1.1 else false then some ((r0.2.2.1.2 (Int.toNat (Q4c .i64 (Q1e .i64 r0.2.1.fn 1) 2)),(true,())),((),())) else none)) else none))
def K93:K93.T:=K93.gen K93.F0 K93.F1
theorem K93.seq1 (l0:K93.l0T) (l1:K93.l1T) (a:K93.L1.T):run Tryz.prog (K93.H l0 l1) 6 (Option (K93.L1.T⊕ExT K93.X1)) none K93.B1 (K93.L1.enc a) (Zc (14,14) K93.L1 K93.X1)=K93.Q2n a:=by kernel_rfl
abbrev K93.h:=K93.H K93.F0 K93.F1
theorem K93.Q3z:LO_ K93.h K93.B1 (Z6 (14,14) K93.L1 K93.X1 K93.F1):=lk_ (hn_ (Z0 Z2 Zd)) (K93.seq1 K93.F0 K93.F1)
theorem K93.Q1O (l0:K93.l0T) (l1:K93.l1T) (a:K93.L0.T):run Tryz.prog (K93.H l0 l1) 6 (Option (K93.L0.T⊕ExT K93.X0)) none K93.B0 (K93.L0.enc a) (Zc (14,14) K93.L0 K93.X0)=K93.QW l1 a:=by kernel_rfl
theorem K93.Q3V:Z3 K93.B0= [(.loop K93.B1)]:=by kernel_rfl
theorem K93.Q1D:ZA U Tryz.prog K93.h.ro K93.h.base K93.B0 (Z6 (14,14) K93.L0 K93.X0 K93.F0):=
 Z1b (Hn:=K93.h) Q3X Q2t (ZY (hq (Z0 Z2 Zd) (Z4 (by kernel_rfl) K93.Q3z Z5) (λ_=>rfl) (λ_=>rfl)) 6) (λb h=>by rw [K93.Q3V] at h;exact h) (λ_=>rfl) (K93.Q1O K93.F0 K93.F1)
theorem K93.eq (l0:K93.l0T) (l1:K93.l1T):EqA K93.sig (K93.H l0 l1) Tryz.f182 6 (K93.W (K93.gen l0 l1)):=by intro a x;kernel_rfl
theorem K93.loops:Z3 K93.C= [(.loop K93.B0),(.loop K93.B1)]:=by kernel_rfl
theorem K93.ok:NK_ 182 K93.sig (K93.W K93):=ok_ Tryz.func182 (K93.eq K93.F0 K93.F1) (hl_ (Z0 Z2 Zd) (Z4 (by kernel_rfl) K93.Q1D (Z4 (by kernel_rfl) K93.Q3z Z5))) K93.loops
def K94.sig:Sig U:=⟨[.ptr,.int .i64],[.obj .QC],0,[.int .i64],false,[]⟩
abbrev K94.T:Type:=(Int)->(Q8)->Option ((Int×Unit)×(Q8×Unit)×Unit)
def K94.W (f:K94.T):K94.sig.F:=λa x=>f a.2.1 x.1
def K94.JC2:Qt U:= [(.normal,⟨58,14,[(0,.ptr 13 0 0),(1,vi_)],[(13,.obj .QC)]⟩)]
def K94.H (cK93:K93.T):Hints U:={ Γ:=(Qp 182 (K93.sig.native (K93.W cK93)) noΓ),ro:=0,base:=14,Q29:=jt_ [(2,K94.JC2)]}
def K94.gen (cK93:K93.T):K94.T:=λv h0=>
 (Q0 ((bif ieq h0.fn h0.Q7H then (bif le3 1 h0.fn 15 then some ((v,()),(Q8.mk (λ(i:Nat)=>bif Nat.ble (Int.toNat (ofN 0)) i && Nat.blt i (Int.toNat (ofN 0)+Nat.min (Int.toNat h0.fn - Int.toNat 1) (Int.toNat (ofN 15) - Int.toNat (ofN 0))) then h0.fl (Int.toNat 1+(i - Int.toNat (ofN 0))) else h0.fl i) (Q1e .i64 h0.fn 1) h0.Q7H,())) else none) else some ((v,()),(h0,())))) none λr0=>(bif inR r0.2.1.fn 15 then (Q0 (cK93 (Q8.mk (QA r0.2.1.fl (Int.toNat r0.2.1.fn) r0.1.1) (Q2 .i64 r0.2.1.fn 1) r0.2.1.Q7H)) none λr1=>some ((r1.1.1,()),((Q8.mk (QA r0.2.1.fl (Int.toNat r0.2.1.fn) r0.1.1) (Q2 .i64 r0.2.1.fn 1) r0.2.1.Q7H,()),()))) else none))
def K94:K94.T:=K94.gen K93
theorem K94.eq (cK93:K93.T):EqA K94.sig (K94.H cK93) Tryz.f145 6 (K94.W (K94.gen cK93)):=by intro a x;kernel_rfl
theorem K94.ok:NK_ 145 K94.sig (K94.W K94):=ok_ Tryz.func145 (K94.eq K93) (hn_ (Z0 Z2 K93.ok))
def K13.sig:Sig U:=⟨[.ptr,.Q4H 0 23 42 8,.data .QJ],[.obj .Q4,Q47,Q4z],0,[],true,[]⟩
abbrev K13.T:Type:=(Nat)->(Qg)->(Q1)->(Fm Q6)->(Fm Q8)->Option (Unit×(Q1×(Fm Q6)×(Fm Q8)×Unit)×Unit)
def K13.W (f:K13.T):K13.sig.F:=λa x=>f a.2.1 a.2.2.1 x.1 x.2.1 x.2.2.1
def K13.JR1:Qt U:= [(.normal,⟨57,14,[(0,.ptr 13 0 0),(1,.Q1q 13 23 42 8 0),(6,vi_),(7,vb_)],[(13,.obj .Q4),(3,.Qf false .Qy),(5,.Qf false .QC)]⟩)]
def K13.H (cK54:K54.T) (cK113:Q4g.T) (cK112:Q3M.T) (cK94:K94.T):Hints U:={ Γ:=(Qp 145 (K94.sig.native (K94.W cK94)) (Qp 144 (Q3M.sig.native (Q3M.W cK112)) (Qp 143 (Q4g.sig.native (Q4g.W cK113)) (Qp 142 (K54.sig.native (K54.W cK54)) noΓ)))),ro:=0,base:=14,Q1T:=jt_ [(2,[(29,vb_)])],Q2J:=jt_ [(1,K13.JR1)]}
def K13.gen (cK54:K54.T) (cK113:Q4g.T) (cK112:Q3M.T) (cK94:K94.T):K13.T:=λp m h0 g3 g5=>
 (Q0 ((Q0 ((h0.Qu p).13) none λr0=>(Q0 (cK54 m (g3.2 r0)) none λr1=>some ((p,r1.1),(h0,((g3.1,QA g3.2 r0 r1.2.1.1),(g5,()))))))) none λr2=>(Q0 ((bif !r2.1.2.2.1 then some (true,()) else some (!(r2.2.1.Qu r2.1.1).Q6x.fis,()))) none λr3=>(bif r3.1 then some ((),(r2.2,())) else (Q0 (cK113 (r2.2.1.Qu r2.1.1).Q6x.fv r2.1.2.1) none λr4=>(bif !r4.1.2.1 then some ((),(r2.2,())) else (Q0 (cK112 r4.1.1) none λr5=>(Q0 (r2.2.1.6) none λr6=>(Q0 (cK94 r5.1.1 (r2.2.2.2.1.2 r6)) none λr7=>some ((),((Q1.Q6J r2.2.1 (Q1b.mk r7.1.1 true),(r2.2.2.1,((r2.2.2.2.1.1,QA r2.2.2.2.1.2 r6 r7.2.1.1),()))),()))))))))))
def K13:K13.T:=K13.gen K54 Q4g Q3M K94
theorem K13.eq (cK54:K54.T) (cK113:Q4g.T) (cK112:Q3M.T) (cK94:K94.T):EqA K13.sig (K13.H cK54 cK113 cK112 cK94) Tryz.f106 6 (K13.W (K13.gen cK54 cK113 cK112 cK94)):=by intro a x;kernel_rfl
theorem K13.ok:NK_ 106 K13.sig (K13.W K13):=ok_ Tryz.func106 (K13.eq K54 Q4g Q3M K94) (hn_ (Z0 (Z0 (Z0 (Z0 Z2 K54.ok) Q4g.ok) Q3M.ok) K94.ok))
def K20.sig:Sig U:=⟨[.ptr,.int .i64,.str,.int .i64],[.obj .Q4,Q54,Q4s,Q47,Q4u,Q4z,Q4y,.fam 10 (.map true false .Qm .Q1o)],0,[],true,[]⟩
abbrev K20.T:Type:=(Int)->(ByteArray)->(Int)->(Q1)->(Fm Qd)->(Fm Q5)->(Fm Q6)->(Fm Q7)->(Fm Q8)->(Fm Qh)->(Nat×(Nat->List (Q9×List (Int))))->Option (Unit×(Q1×Q6T)×Unit)
def K20.W (f:K20.T):K20.sig.F:=λa x=>f a.2.1 a.2.2.1 a.2.2.2.1 x.1 x.2.1 x.2.2.1 x.2.2.2.1 x.2.2.2.2.1 x.2.2.2.2.2.1 x.2.2.2.2.2.2.1 x.2.2.2.2.2.2.2.1
def K20.C:Code:=match Tryz.f93.body with|some c=>c|none=>.skip
def K20.B0:Code:=match (Z3 K20.C).getD 0 .skip with| .loop b=>b| .scope b=>b|_=>.skip
def K20.Q8z:Qt U:= [(.normal,⟨177,15,[(0,.ptr 13 0 0),(1,vi_),(12,.ptr 14 0 0),(13,vb_)],(13,.obj .Q4)::(14,.obj .QJ)::Q5B⟩)]
def K20.JR1:Qt U:= [(.normal,⟨177,15,[(0,.ptr 13 0 0),(1,vi_),(3,vi_),(9,.ptr 14 0 0),(10,.val (.isl .Q1m)),(11,vi_)],(13,.obj .Q4)::(14,.obj .QJ)::Q5B⟩)]
def K20.JC21:Qt U:= [(.normal,⟨177,15,[(0,.ptr 13 0 0),(1,vi_),(3,vi_),(9,.ptr 14 0 0),(10,.val (.isl .Q1m)),(53,vi_),(148,vb_)],(13,.obj .Q4)::(14,.obj .QJ)::Q5B⟩)]
def K20.JC9:Qt U:= [(.normal,⟨177,15,[(0,.ptr 13 0 0),(1,vi_),(3,vi_),(8,.Q1q 13 23 42 8 0),(9,.ptr 14 0 0),(10,.val (.isl .Q1m)),(53,vi_),(62,vb_)],(13,.obj .Q4)::(14,.obj .QJ)::Q5B⟩)]
def K20.JC7:Qt U:= [(.normal,⟨177,14,[],(13,.obj .Q4)::Q5B⟩),
 (.goto 0,⟨177,14,[(0,.ptr 13 0 0)],(13,.obj .Q4)::Q5B⟩)]
def K20.H (cK66:K66.T) (cK22:K22.T) (cK29:K29.T) (cK122:Q1N.T) (cK21:K21.T) (cK124:Q1S.T) (cK18:K18.T) (cK27:K27.T) (cK51:K51.T) (cK23:K23.T) (cK13:K13.T):Hints U:={ Γ:=(Qp 106 (K13.sig.native (K13.W cK13)) (K23.N cK23 (Qp 104 (K51.sig.native (K51.W cK51)) (K27.N cK27 (Qp 103 (K18.sig.native (K18.W cK18)) (Q1S.N cK124 (Qp 102 (K21.sig.native (K21.W cK21)) (Q1N.N cK122 (K29.N cK29 (K22.N cK22 (Qp 100 (K66.sig.native (K66.W cK66)) noΓ))))))))))),ro:=0,base:=14,Q1T:=jt_ [(2,[(42,vb_)]),(10,[(79,vb_)]),(13,[(99,vb_)]),(18,[(143,vb_)])],Q2J:=jt_ [(1,K20.JR1),(14,K20.Q8z)],Q29:=jt_ [(7,K20.JC7),(9,K20.JC9),(21,K20.JC21)],gotos:=3,loop:=λb=>none}
def K20.gen (cK66:K66.T) (cK22:K22.T) (cK29:K29.T) (cK122:Q1N.T) (cK21:K21.T) (cK124:Q1S.T) (cK18:K18.T) (cK27:K27.T) (cK51:K51.T) (cK23:K23.T) (cK13:K13.T):K20.T:=λn b now h0 g1 g2 g3 g4 g5 g6 g10=>
 (Q0 ((Q0 (cK66 b h0.Q1d.Q2i) none λr0=>some ((n,(now,r0.1.2)),(h0,(r0.1.1,(g1,(g2,(g3,(g4,(g5,(g6,(g10,())))))))))))) none λr1=>(Q0 ((Q0 (cK22 r1.1.1 r1.2.1) none λr2=>(bif r2.1.1 then some (true,()) else (bif ine r1.1.2.2.2.1 0 then some (true,()) else some (ieq r1.2.2.1.Q25.QO r1.2.1.Q1d.QO,()))))) none λr3=>(bif r3.1 then some ((),((Q1.Q5o r1.2.1 (Q2 .i64 r1.2.1.Q5Z 1),r1.2.2.2),())) else (Q0 (cK29 r1.1.1 r1.2.1) none λr4=>(Q0 (cK122 (r1.2.1.Qu r4.1.1).Q1Z) none λr5=>(bif !r5.1.1 then some ((),((Q1.Q5o r1.2.1 (Q2 .i64 r1.2.1.Q5Z 1),r1.2.2.2),())) else (Q0 ((bif ieq r1.2.2.1.fType 11 then (Q0 (cK21 r4.1.1 r1.2.2.1 r1.1.2.2.1 r1.2.1 r1.2.2.2.2.1 r1.2.2.2.2.2.2.2.2.2.1) none λr6=>(bif !r6.1.1 then some (.inr ((),(r6.2.1.1,(r1.2.2.2.1,(r6.2.1.2.1,(r1.2.2.2.2.2.1,(r1.2.2.2.2.2.2.1,(r1.2.2.2.2.2.2.2.1,(r1.2.2.2.2.2.2.2.2.1,r6.2.1.2.2))))))))) else some (.inl ((),(r6.2.1.1,(r1.2.2.2.1,(r6.2.1.2.1,(r1.2.2.2.2.2.1,(r1.2.2.2.2.2.2.1,(r1.2.2.2.2.2.2.2.1,(r1.2.2.2.2.2.2.2.2.1,r6.2.1.2.2))))))))))) else (Q0 ((bif ieq r1.2.2.1.fType 0 then some ((r1.1.1,(r1.1.2.1,(r4.1.1,(r1.1.2.2.1,(r1.2.2.1.fType,(ieq r1.2.2.1.fType 0,())))))),r1.2) else some ((r1.1.1,(r1.1.2.1,(r4.1.1,(r1.1.2.2.1,(r1.2.2.1.fType,(ieq r1.2.2.1.fType 8,())))))),r1.2))) none λr7=>(bif r7.1.2.2.2.2.2.1 then (Q0 ((Q0 (cK124 (r7.2.1.Qu r7.1.2.2.1).Q1Z) none λr8=>(bif r8.1.1 then some (bif ieq r7.2.2.1.Q25.QO r7.2.1.Q2I.Q18.QO then bif ieq r7.2.2.1.Q25.Q18 r7.2.1.Q2I.Q18.Q18 then true else false else false,()) else some (false,())))) none λr9=>(bif r9.1 then (Q0 (cK18 r7.1.2.2.1 r7.2.2.1 r7.1.2.1 r7.2.1 r7.2.2.2.1 r7.2.2.2.2.2.1 r7.2.2.2.2.2.2.1 r7.2.2.2.2.2.2.2.1 r7.2.2.2.2.2.2.2.2.1) none λr10=>some (.inl ((),(r10.2.1.1,(r10.2.1.2.1,(r7.2.2.2.2.1,(r10.2.1.2.2.1,(r10.2.1.2.2.2.1,(r10.2.1.2.2.2.2.1,(r10.2.1.2.2.2.2.2.1,r7.2.2.2.2.2.2.2.2.2)))))))))) else some (.inl ((),(r7.2.1,r7.2.2.2))))) else (bif ieq r7.1.2.2.2.2.1 1 then (Q0 ((bif ieq (r7.2.1.Qu r7.1.2.2.1).Q1Z 6 then some (!r7.2.1.Q1d.Q4J,()) else some (false,()))) none λr11=>(bif r11.1 then (Q0 ((Q0 (cK27 r7.1.1 r7.2.1) none λr12=>(Q0 (cK51 r7.2.2.1 r12.1.1 r7.1.2.1 r7.2.1.Q1d.Q4D) none λr13=>some ((r7.1.1,r13.1.2),(r7.2.1,(r13.1.1,r7.2.2.2)))))) none λr14=>(bif r14.1.2.1 then (Q0 (cK23 r14.1.1 r14.2.2.1 (QG QL) false r14.2.1) none λr15=>some (.inl ((),(r15.2.1.1,r14.2.2.2)))) else some (.inl ((),(r14.2.1,r14.2.2.2))))) else some (.inl ((),(r7.2.1,r7.2.2.2))))) else (bif ieq r7.1.2.2.2.2.1 9 then (Q0 ((Q0 (cK124 (r7.2.1.Qu r7.1.2.2.1).Q1Z) none λr16=>(bif r16.1.1 then (bif !r7.2.1.Q1d.Q4J then some (bif ieq r7.2.2.1.Q25.QO r7.2.1.Q2I.Q18.QO then bif ieq r7.2.2.1.Q25.Q18 r7.2.1.Q2I.Q18.Q18 then true else false else false,()) else some (false,())) else some (false,())))) none λr17=>(bif r17.1 then (Q0 (cK13 r7.1.2.2.1 r7.2.2.1 r7.2.1 r7.2.2.2.2.2.1 r7.2.2.2.2.2.2.2.1) none λr18=>some (.inl ((),(r18.2.1.1,(r7.2.2.2.1,(r7.2.2.2.2.1,(r18.2.1.2.1,(r7.2.2.2.2.2.2.1,(r18.2.1.2.2.1,r7.2.2.2.2.2.2.2.2))))))))) else some (.inl ((),(r7.2.1,r7.2.2.2))))) else (Q0 ((bif ieq r7.1.2.2.2.2.1 2 then some ((r7.1.1,(r7.1.2.1,(r7.1.2.2.2.1,(r7.1.2.2.2.2.1,(ieq r7.1.2.2.2.2.1 2,()))))),r7.2) else (bif ieq r7.1.2.2.2.2.1 3 then some ((r7.1.1,(r7.1.2.1,(r7.1.2.2.2.1,(r7.1.2.2.2.2.1,(ieq r7.1.2.2.2.2.1 3,()))))),r7.2) else some ((r7.1.1,(r7.1.2.1,(r7.1.2.2.2.1,(r7.1.2.2.2.2.1,(ieq r7.1.2.2.2.2.1 10,()))))),r7.2)))) none λr19=>(bif r19.1.2.2.2.2.1 then (bif r19.2.1.Q1d.Q4J then none else some (.inl ((),(r19.2.1,r19.2.2.2)))) else (bif ieq r19.1.2.2.2.1 13 then none else some (.inl ((),(r19.2.1,r19.2.2.2)))))))))))) none λr20=>(Q3B r20 (λr21=>some ((),(r21.2,()))) (λr21=>some ((),((Q1.Q5o r21.2.1 (Q2 .i64 r21.2.1.Q5Z 1),r21.2.2),())))))))))))
def K20:K20.T:=K20.gen K66 K22 K29 Q1N K21 Q1S K18 K27 K51 K23 K13
theorem K20.eq (cK66:K66.T) (cK22:K22.T) (cK29:K29.T) (cK122:Q1N.T) (cK21:K21.T) (cK124:Q1S.T) (cK18:K18.T) (cK27:K27.T) (cK51:K51.T) (cK23:K23.T) (cK13:K13.T):EqA K20.sig (K20.H cK66 cK22 cK29 cK122 cK21 cK124 cK18 cK27 cK51 cK23 cK13) Tryz.f93 6 (K20.W (K20.gen cK66 cK22 cK29 cK122 cK21 cK124 cK18 cK27 cK51 cK23 cK13)):=by intro a x;kernel_rfl
theorem K20.loops:Z3 K20.C= [(.scope K20.B0)]:=by kernel_rfl
theorem K20.ok:NK_ 93 K20.sig (K20.W K20):=ok_ Tryz.func93 (K20.eq K66 K22 K29 Q1N K21 Q1S K18 K27 K51 K23 K13) (hl_ (Z0 (Z0 (Z0 (Z0 (Z0 (Z0 (Z0 (Z0 (Z0 (Z0 (Z0 Z2 K66.ok) K22.ok) K29.ok) Q1N.ok) K21.ok) Q1S.ok) K18.ok) K27.ok) K51.ok) K23.ok) K13.ok) (Zt Z5)) K20.loops
def K55.sig:Sig U:=⟨[.ptr,.int .i64,.int .i64],[.obj .Qy],0,[.bool],false,[]⟩
abbrev K55.T:Type:=(Int)->(Int)->(Q6)->Option ((Bool×Unit)×(Q6×Unit)×Unit)
def K55.W (f:K55.T):K55.sig.F:=λa x=>f a.2.1 a.2.2.1 x.1
def K55.H:Hints U:={ Γ:=noΓ,ro:=0,base:=14}
def K55.gen:K55.T:=λseq at_2 h0=>
 (bif !bif ieq h0.fr.Q5p seq then bif ieq h0.fr.fat 0 then bif h0.fr.Q7j==true then bif h0.fr.Q5Q==false then true else false else false else false else false then some ((false,()),((h0,()),())) else some ((true,()),((Q6.Q8l h0 (Q10.Q6Z (Q10.Q6t h0.fr at_2) true),()),())))
def K55:K55.T:=K55.gen
theorem K55.ok:NK_ 109 K55.sig (K55.W K55):=ok_ (H:=K55.H) (n:=6) Tryz.func109 (by intro a x;kernel_rfl) (hn_ Z2)
def Q4h.sig:Sig U:=⟨[.ptr,.int .i64,.int .i64],[.obj .QF],0,[.bool],false,[]⟩
abbrev Q4h.T:Type:=(Int)->(Int)->(Q7)->Option ((Bool×Unit)×(Q7×Unit)×Unit)
def Q4h.W (f:Q4h.T):Q4h.sig.F:=λa x=>f a.2.1 a.2.2.1 x.1
def Q4h.H:Hints U:={ Γ:=noΓ,ro:=0,base:=14,Q1T:=jt_ [(1,[(25,vb_)])]}
def Q4h.gen:Q4h.T:=λseq at_2 h0=>
 (Q0 ((bif !h0.Q7j then some (true,()) else (bif h0.Q5Q then some (true,()) else some (ine seq h0.Q5p,())))) none λr0=>(bif r0.1 then some ((false,()),((h0,()),())) else some ((true,()),((Q7.Q6Z (Q7.Q6t h0 at_2) true,()),()))))
def Q4h:Q4h.T:=Q4h.gen
theorem Q4h.ok:NK_ 110 Q4h.sig (Q4h.W Q4h):=ok_ (H:=Q4h.H) (n:=6) Tryz.func110 (by intro a x;kernel_rfl) (hn_ Z2)
def Q3J.sig:Sig U:=⟨[.data .QJ,.data .Qm,.int .i64],[],0,[.data .QJ,.bool],true,[]⟩
abbrev Q3J.T:Type:=(Qg)->(Q9)->(Int)->Option ((Qg×Bool×Unit)×Unit×Unit)
def Q3J.W (f:Q3J.T):Q3J.sig.F:=λa x=>f a.1 a.2.1 a.2.2.1
def Q3J.H (cK148:Q28.T):Hints U:={ Γ:=(Q28.N cK148 noΓ),ro:=0,base:=13,Q1T:=jt_ [(1,[(15,vb_)])]}
def Q3J.gen (cK148:Q28.T):Q3J.T:=λm self at_2=>
 (Q0 ((bif ine m.fType 2 then some (true,()) else (Q0 (cK148 at_2) none λr0=>some (!r0.1.1,())))) none λr1=>(bif r1.1 then some ((Qg.mk 0 0 0 0 z0_ 0 0 0 z0_ 0 0 z1_ 0 0 0 0 0 0 0,(false,())),((),())) else some ((Qg.mk 10 m.Q2i 0 0 self m.Q3w 127 at_2 m.Q25 0 0 z1_ 0 0 0 0 0 0 0,(true,())),((),()))))
def Q3J:Q3J.T:=Q3J.gen Q28
theorem Q3J.eq (cK148:Q28.T):EqA Q3J.sig (Q3J.H cK148) Tryz.f111 6 (Q3J.W (Q3J.gen cK148)):=by intro a x;kernel_rfl
theorem Q3J.ok:NK_ 111 Q3J.sig (Q3J.W Q3J):=ok_ Tryz.func111 (Q3J.eq Q28) (hn_ (Z0 Z2 Q28.ok))
def K28.sig:Sig U:=⟨[.ptr,.int .i64,.int .i64,.int .i64,.int .i64],[.obj .Q4,Q47,Q4u],0,[],true,[]⟩
abbrev K28.T:Type:=(Int)->(Int)->(Int)->(Int)->(Q1)->(Fm Q6)->(Fm Q7)->Option (Unit×(Q1×(Fm Q6)×(Fm Q7)×Unit)×Unit)
def K28.W (f:K28.T):K28.sig.F:=λa x=>f a.2.1 a.2.2.1 a.2.2.2.1 a.2.2.2.2.1 x.1 x.2.1 x.2.2.1
def K28.Q7q:Qt U:= [(.normal,⟨100,15,[(0,.ptr 13 0 0),(1,vi_),(11,.ptr 14 0 0)],[(13,.obj .Q4),(14,.obj .QJ),(3,.Qf false .Qy),(4,.Qf false .QF)]⟩)]
def K28.H (cK29:K29.T) (cK27:K27.T) (cK23:K23.T) (cK55:K55.T) (cK119:Q4h.T) (cK120:Q3J.T):Hints U:={ Γ:=(Qp 111 (Q3J.sig.native (Q3J.W cK120)) (Qp 110 (Q4h.sig.native (Q4h.W cK119)) (Qp 109 (K55.sig.native (K55.W cK55)) (K23.N cK23 (K27.N cK27 (K29.N cK29 noΓ)))))),ro:=0,base:=14,Q1T:=jt_ [(3,[(31,vb_)]),(10,[(83,vb_)])],Q2J:=jt_ [(11,K28.Q7q)]}
def K28.gen (cK29:K29.T) (cK27:K27.T) (cK23:K23.T) (cK55:K55.T) (cK119:Q4h.T) (cK120:Q3J.T):K28.T:=λn typ seq now h0 g3 g4=>
 (Q0 (cK29 n h0) none λr0=>(bif ieq typ 0 then (Q0 ((bif ieq (h0.Qu r0.1.1).Q1Z 6 then some (!h0.Q1d.Q51,()) else some (false,()))) none λr1=>(bif r1.1 then (Q0 (cK27 n h0) none λr2=>(Q0 (cK23 n (Qg.mk 8 h0.Q1d.Q2i 0 0 r2.1.1 seq h0.Q1d.Q4v now z0_ 0 0 z1_ 0 0 0 0 0 0 0) (QG QL) false h0) none λr3=>some ((),((r3.2.1.1,(g3,(g4,()))),())))) else some ((),((h0,(g3,(g4,()))),())))) else (bif ieq typ 1 then (Q0 ((h0.Qu r0.1.1).13) none λr4=>(Q0 (cK55 seq now (g3.2 r4)) none λr5=>some ((),((h0,((g3.1,QA g3.2 r4 r5.2.1.1),(g4,()))),())))) else (bif ieq typ 2 then (Q0 ((h0.Qu r0.1.1).14) none λr6=>(Q0 (cK119 seq now (g4.2 r6)) none λr7=>some ((),((h0,(g3,((g4.1,QA g4.2 r6 r7.2.1.1),()))),())))) else (bif ieq typ 3 then (Q0 ((bif (h0.Qu r0.1.1).Q6c then some (ieq (h0.Qu r0.1.1).Q2E.Q3w seq,()) else some (false,()))) none λr8=>(bif r8.1 then (Q0 ((Q0 (cK27 n h0) none λr9=>(Q0 (cK120 (h0.Qu r0.1.1).Q2E r9.1.1 now) none λr10=>some ((n,()),(h0,(r10.1.1,(g3,(g4,())))))))) none λr11=>(Q0 (cK23 r11.1.1 r11.2.2.1 (QG QL) false r11.2.1) none λr12=>some ((),((r12.2.1.1,r11.2.2.2),())))) else some ((),((h0,(g3,(g4,()))),())))) else some ((),((h0,(g3,(g4,()))),())))))))
def K28:K28.T:=K28.gen K29 K27 K23 K55 Q4h Q3J
theorem K28.eq (cK29:K29.T) (cK27:K27.T) (cK23:K23.T) (cK55:K55.T) (cK119:Q4h.T) (cK120:Q3J.T):EqA K28.sig (K28.H cK29 cK27 cK23 cK55 cK119 cK120) Tryz.f94 6 (K28.W (K28.gen cK29 cK27 cK23 cK55 cK119 cK120)):=by intro a x;kernel_rfl
theorem K28.ok:NK_ 94 K28.sig (K28.W K28):=ok_ Tryz.func94 (K28.eq K29 K27 K23 K55 Q4h Q3J) (hn_ (Z0 (Z0 (Z0 (Z0 (Z0 (Z0 Z2 K29.ok) K27.ok) K23.ok) K55.ok) Q4h.ok) Q3J.ok))
def K11.sig:Sig U:=⟨[.ptr,.data .Q3k],[.obj .Q4,Q54,Q4s,Q47,Q4u,Q4z,Q4y,.fam 10 (.map true false .Qm .Q1o)],0,[.isl .Q2W],false,[]⟩
abbrev K11.T:Type:=(Q1Q)->(Q1)->(Fm Qd)->(Fm Q5)->(Fm Q6)->(Fm Q7)->(Fm Q8)->(Fm Qh)->(Nat×(Nat->List (Q9×List (Int))))->Option (((List (Q12))×Unit)×(Q1×Q6T)×Unit)
def K11.W (f:K11.T):K11.sig.F:=λa x=>f a.2.1 x.1 x.2.1 x.2.2.1 x.2.2.2.1 x.2.2.2.2.1 x.2.2.2.2.2.1 x.2.2.2.2.2.2.1 x.2.2.2.2.2.2.2.1
def K11.Q5g:Qt U:= [(.normal,⟨107,14,[(0,.ptr 13 0 0)],(13,.obj .Q4)::Q5B⟩)]
def K11.Q7U:Qt U:= [(.normal,⟨107,15,[(0,.ptr 13 0 0),(3,.ptr 14 0 0)],(13,.obj .Q4)::(14,.obj .Q3k)::Q5B⟩)]
def K11.H (cK31:K31.T) (cK20:K20.T) (cK22:K22.T) (cK28:K28.T) (cK47:K47.T) (cK15:K15.T):Hints U:={ Γ:=(Qp 49 (K15.sig.native (K15.W cK15)) (Qp 48 (K47.sig.native (K47.W cK47)) (Qp 94 (K28.sig.native (K28.W cK28)) (K22.N cK22 (Qp 93 (K20.sig.native (K20.W cK20)) (Qp 92 (K31.sig.native (K31.W cK31)) noΓ)))))),ro:=0,base:=14,Q1T:=jt_ [(16,[(83,vb_)])],Q2J:=jt_ [(1,K11.Q7U),(11,K11.Q5g),(12,K11.Q5g),(15,K11.Q7U),(17,K11.Q5g),(18,K11.Q5g),(19,K11.Q5g),(20,K11.Q5g)],Q29:=jt_ [(14,K11.Q5g)]}
def K11.gen (cK31:K31.T) (cK20:K20.T) (cK22:K22.T) (cK28:K28.T) (cK47:K47.T) (cK15:K15.T):K11.T:=λe h0 g1 g2 g3 g4 g5 g6 g10=>
 (bif ieq e.Q2C 1 then (Q0 ((Q0 (cK31 (Z7 true 0 (Z7 false e.Q8T 4000000000000000)) (Q1.Q3q h0 (QG Q12)) g2 g3 g4 g5 g6 g10) none λr0=>some ((),(r0.2.1.1,(g1,r0.2.1.2))))) none λr1=>some ((r1.2.1.Q4T,()),(r1.2,()))) else (bif ieq e.Q2C 2 then (Q0 ((Q0 (cK20 e.Q18 e.Q6a (Z7 true 0 (Z7 false e.Q8T 4000000000000000)) (Q1.Q3q h0 (QG Q12)) g1 g2 g3 g4 g5 g6 g10) none λr2=>some ((),r2.2.1))) none λr3=>some ((r3.2.1.Q4T,()),(r3.2,()))) else (bif ieq e.Q2C 3 then (Q0 (cK22 e.Q18 (Q1.Q3q h0 (QG Q12))) none λr4=>(Q0 ((bif !r4.1.1 then (Q0 (cK28 e.Q18 e.fType e.Q3w (Z7 true 0 (Z7 false e.Q8T 4000000000000000)) (Q1.Q3q h0 (QG Q12)) g3 g4) none λr5=>some ((),(r5.2.1.1,(g1,(g2,(r5.2.1.2.1,(r5.2.1.2.2.1,(g5,(g6,(g10,())))))))))) else some ((),(Q1.Q3q h0 (QG Q12),(g1,(g2,(g3,(g4,(g5,(g6,(g10,()))))))))))) none λr6=>some ((r6.2.1.Q4T,()),(r6.2,())))) else (bif ieq e.Q2C 4 then (Q0 ((Q0 (cK47 h0.Q1d) none λr7=>(bif ine r7.1.1 0 then some (true,()) else (bif ine h0.Q1d.QO h0.Q1d.QO then some (true,()) else some (ine h0.Q1d.Q2Z h0.Q1d.Q2Z,()))))) none λr8=>(bif r8.1 then some ((QG Q12,()),((Q1.Q3q (Q1.Q5o h0 (Q2 .i64 h0.Q5Z 1)) (QG Q12),(g1,(g2,(g3,(g4,(g5,(g6,(g10,())))))))),())) else (Q0 ((Q0 (cK15 h0.Q1d (Q1.Q3q h0 (QG Q12)) g1 g2 g3 g4 g5 g6 g10) none λr9=>some ((),r9.2.1))) none λr10=>some ((r10.2.1.Q4T,()),(r10.2,()))))) else (bif ieq e.Q2C 5 then (Q0 ((Q0 (cK47 e.Q1U) none λr11=>(bif ine r11.1.1 0 then some (true,()) else (bif ine e.Q1U.QO h0.Q1d.QO then some (true,()) else some (ine e.Q1U.Q2Z h0.Q1d.Q2Z,()))))) none λr12=>(bif r12.1 then some ((QG Q12,()),((Q1.Q3q (Q1.Q5o h0 (Q2 .i64 h0.Q5Z 1)) (QG Q12),(g1,(g2,(g3,(g4,(g5,(g6,(g10,())))))))),())) else (Q0 ((Q0 (cK15 e.Q1U (Q1.Q3q h0 (QG Q12)) g1 g2 g3 g4 g5 g6 g10) none λr13=>some ((),r13.2.1))) none λr14=>some ((r14.2.1.Q4T,()),(r14.2,()))))) else (bif ieq e.Q2C 6 then none else (bif ieq e.Q2C 7 then none else some ((QG Q12,()),((Q1.Q3q h0 (QG Q12),(g1,(g2,(g3,(g4,(g5,(g6,(g10,())))))))),())))))))))
def K11:K11.T:=K11.gen K31 K20 K22 K28 K47 K15
theorem K11.eq (cK31:K31.T) (cK20:K20.T) (cK22:K22.T) (cK28:K28.T) (cK47:K47.T) (cK15:K15.T):EqA K11.sig (K11.H cK31 cK20 cK22 cK28 cK47 cK15) Tryz.f83 6 (K11.W (K11.gen cK31 cK20 cK22 cK28 cK47 cK15)):=by intro a x;kernel_rfl
theorem K11.ok:NK_ 83 K11.sig (K11.W K11):=ok_ Tryz.func83 (K11.eq K31 K20 K22 K28 K47 K15) (hn_ (Z0 (Z0 (Z0 (Z0 (Z0 (Z0 Z2 K31.ok) K20.ok) K22.ok) K28.ok) K47.ok) K15.ok))
def Q33.sig:Sig U:=⟨[.ptr,.int .i64],[.obj .Q1g],0,[],true,[]⟩
abbrev Q33.T:Type:=(Int)->(Qw)->Option (Unit×(Qw×Unit)×Unit)
def Q33.W (f:Q33.T):Q33.sig.F:=λa x=>f a.2.1 x.1
def Q33.H (cK104:Q2f.T) (cK108:Q35.T):Hints U:={ Γ:=(Qp 96 (Q35.sig.native (Q35.W cK108)) (Q2f.N cK104 noΓ)),ro:=0,base:=14}
def Q33.gen (cK104:Q2f.T) (cK108:Q35.T):Q33.T:=λt h0=>
 (Q0 (cK104 t h0) none λr0=>(Q0 (cK108 t (Qw.Q6L h0 r0.1.1)) none λr1=>some ((),((Qw.Q6L (Qw.Q6t h0 r1.1.1) r0.1.1,()),()))))
def Q33:Q33.T:=Q33.gen Q2f Q35
theorem Q33.eq (cK104:Q2f.T) (cK108:Q35.T):EqA Q33.sig (Q33.H cK104 cK108) Tryz.f88 6 (Q33.W (Q33.gen cK104 cK108)):=by intro a x;kernel_rfl
theorem Q33.ok:NK_ 88 Q33.sig (Q33.W Q33):=ok_ Tryz.func88 (Q33.eq Q2f Q35) (hn_ (Z0 (Z0 Z2 Q2f.ok) Q35.ok))
def Q2N.sig:Sig U:=⟨[.ptr,.int .i64,.int .i64],[.obj .Q1g],0,[],true,[]⟩
abbrev Q2N.T:Type:=(Int)->(Int)->(Qw)->Option (Unit×(Qw×Unit)×Unit)
def Q2N.W (f:Q2N.T):Q2N.sig.F:=λa x=>f a.2.1 a.2.2.1 x.1
def Q2N.H (cK107:Q33.T) (cK109:Q2r.T) (cK111:Q2v.T):Hints U:={ Γ:=(Q2v.N cK111 (Q2r.N cK109 (Qp 88 (Q33.sig.native (Q33.W cK107)) noΓ))),ro:=0,base:=14}
def Q2N.gen (cK107:Q33.T) (cK109:Q2r.T) (cK111:Q2v.T):Q2N.T:=λt by_2 h0=>
 (Q0 (cK107 t h0) none λr0=>(Q0 (cK109 by_2 (-4000000000000000) 4000000000000000) none λr1=>(Q0 (cK111 (Q2 .i64 r0.2.1.1.Q72 r1.1.1)) none λr2=>some ((),((Qw.Q6L r0.2.1.1 r2.1.1,()),())))))
def Q2N:Q2N.T:=Q2N.gen Q33 Q2r Q2v
theorem Q2N.eq (cK107:Q33.T) (cK109:Q2r.T) (cK111:Q2v.T):EqA Q2N.sig (Q2N.H cK107 cK109 cK111) Tryz.f84 6 (Q2N.W (Q2N.gen cK107 cK109 cK111)):=by intro a x;kernel_rfl
theorem Q2N.ok:NK_ 84 Q2N.sig (Q2N.W Q2N):=ok_ Tryz.func84 (Q2N.eq Q33 Q2r Q2v) (hn_ (Z0 (Z0 (Z0 Z2 Q33.ok) Q2r.ok) Q2v.ok))
def Q2R.sig:Sig U:=⟨[.ptr,.int .i64,.int .i64],[.obj .Q1g],0,[],true,[]⟩
abbrev Q2R.T:Type:=(Int)->(Int)->(Qw)->Option (Unit×(Qw×Unit)×Unit)
def Q2R.W (f:Q2R.T):Q2R.sig.F:=λa x=>f a.2.1 a.2.2.1 x.1
def Q2R.H (cK107:Q33.T) (cK110:Q34.T):Hints U:={ Γ:=(Qp 51 (Q34.sig.native (Q34.W cK110)) (Qp 88 (Q33.sig.native (Q33.W cK107)) noΓ)),ro:=0,base:=14}
def Q2R.gen (cK107:Q33.T) (cK110:Q34.T):Q2R.T:=λt f h0=>
 (Q0 (cK107 t h0) none λr0=>(Q0 (cK110 f) none λr1=>some ((),((Qw.Q5h r0.2.1.1 r1.1.1,()),()))))
def Q2R:Q2R.T:=Q2R.gen Q33 Q34
theorem Q2R.eq (cK107:Q33.T) (cK110:Q34.T):EqA Q2R.sig (Q2R.H cK107 cK110) Tryz.f85 6 (Q2R.W (Q2R.gen cK107 cK110)):=by intro a x;kernel_rfl
theorem Q2R.ok:NK_ 85 Q2R.sig (Q2R.W Q2R):=ok_ Tryz.func85 (Q2R.eq Q33 Q34) (hn_ (Z0 (Z0 Z2 Q33.ok) Q34.ok))
def K86.sig:Sig U:=⟨[.ptr,.int .i64,.str],[.obj .Q13,.fam 12 (.rows .QQ)],0,[.int .i64],false,[]⟩
abbrev K86.T:Type:=(Int)->(ByteArray)->(Qn)->(Nat×(Nat->List Qj))->Option ((Int×Unit)×(Qn×(Nat×(Nat->List Qj))×Unit)×Unit)
def K86.W (f:K86.T):K86.sig.F:=λa x=>f a.2.1 a.2.2.1 x.1 x.2.1
def K86.H:Hints U:={ Γ:=noΓ,ro:=0,base:=14}
def K86.gen:K86.T:=λfrom_1 b h0 g12=>
 (bif ilt 400 (ofN (ByteArray.size b)) then some (((3:Int),()),((h0,(g12,())),())) else (bif ile 64 (ofN h0.fl.2) then some (((7:Int),()),((Qn.mk h0.fl (Q2 .i64 h0.Q8h 1),(g12,())),())) else (bif bif le3 (ofN 0) (ofN h0.fl.2) h0.fl.2 then ieq (ofN h0.fl.2) (ofN h0.fl.2) else false then (bif bif room (Int.toNat (ofN h0.fl.2) - Int.toNat (ofN 0)+List.length (Qj.mk from_1 b::QG Qj)) 24 then bif Nat.beq (Int.toNat (ofN h0.fl.2) - Int.toNat (ofN 0)) 0 then true else Nat.beq (Int.toNat (ofN h0.fl.2) - Int.toNat (ofN 0)) (List.length (g12.2 h0.fl.1)) else false then some (((0:Int),()),((Qn.mk (g12.1,Int.toNat (ofN h0.fl.2) - Int.toNat (ofN 0)+List.length (Qj.mk from_1 b::QG Qj)) h0.Q8h,((g12.1+1,QA (bif Nat.beq (Int.toNat (ofN h0.fl.2) - Int.toNat (ofN 0)) 0 then g12.2 else QA g12.2 h0.fl.1 (QG Qj)) g12.1 ((bif Nat.beq (Int.toNat (ofN h0.fl.2) - Int.toNat (ofN 0)) 0 then QG Qj else g12.2 h0.fl.1)++Qj.mk from_1 b::QG Qj)),())),())) else none) else none)))
def K86:K86.T:=K86.gen
theorem K86.ok:NK_ 65 K86.sig (K86.W K86):=ok_ (H:=K86.H) (n:=6) Tryz.func65 (by intro a x;kernel_rfl) (hn_ Z2)
def Q2c.sig:Sig U:=⟨[.ptr,.int .i64],[.obj .Qi,Q5z,.fam 11 (.rows .Qo)],0,[.int .i64],false,[]⟩
abbrev Q2c.T:Type:=(Int)->(Q3)->(Fm Qw)->(Nat×(Nat->List Qa))->Option ((Int×Unit)×(Q3×(Fm Qw)×(Nat×(Nat->List Qa))×Unit)×Unit)
def Q2c.W (f:Q2c.T):Q2c.sig.F:=λa x=>f a.2.1 x.1 x.2.1 x.2.2.1
def Q2c.H (cK104:Q2f.T):Hints U:={ Γ:=(Q2f.N cK104 noΓ),ro:=0,base:=14}
def Q2c.gen (cK104:Q2f.T):Q2c.T:=λi h0 g8 g11=>
 (bif inR i h0.Q1K.2 then (Q0 ((bif Nat.blt (0+Int.toNat i) (List.length (g11.2 h0.Q1K.1)) then (List.getD (g11.2 h0.Q1K.1) (0+Int.toNat i) Qa.zero).2 else none)) none λr0=>(Q0 (cK104 h0.Q7e (g8.2 r0)) none λr1=>(bif Nat.blt (0+Int.toNat i) (List.length (g11.2 h0.Q1K.1)) then (bif Nat.blt (0+Int.toNat i) (List.length (g11.2 h0.Q1K.1)) then some ((Q2 .i64 r1.1.1 (List.getD (g11.2 h0.Q1K.1) (0+Int.toNat i) Qa.zero).Q8E,()),((h0,(g8,((g11.1,QA g11.2 h0.Q1K.1 (List.set (g11.2 h0.Q1K.1) (0+Int.toNat i) (Qa.Q95 (List.getD (g11.2 h0.Q1K.1) (0+Int.toNat i) Qa.zero) 0))),()))),())) else none) else none))) else none)
def Q2c:Q2c.T:=Q2c.gen Q2f
theorem Q2c.eq (cK104:Q2f.T):EqA Q2c.sig (Q2c.H cK104) Tryz.f89 6 (Q2c.W (Q2c.gen cK104)):=by intro a x;kernel_rfl
theorem Q2c.ok:NK_ 89 Q2c.sig (Q2c.W Q2c):=ok_ Tryz.func89 (Q2c.eq Q2f) (hn_ (Z0 Z2 Q2f.ok))
def QN.sig:Sig U:=⟨[.ptr,.int .i64,.data .Q3k],[.obj .Qi,Q4Y,Q54,Q4s,Q47,Q4u,Q4z,Q4y,Q5z,Q65,.fam 10 (.map true false .Qm .Q1o),.fam 11 (.rows .Qo),.fam 12 (.rows .QQ)],0,[],true,[]⟩
abbrev QN.T:Type:=(Int)->(Q1Q)->(Q3)->(Fm Q1)->(Fm Qd)->(Fm Q5)->(Fm Q6)->(Fm Q7)->(Fm Q8)->(Fm Qh)->(Fm Qw)->(Fm Qn)->(Nat×(Nat->List (Q9×List (Int))))->(Nat×(Nat->List Qa))->(Nat×(Nat->List Qj))->Option (Unit×(Q3×(Fm Q1)×(Fm Qd)×(Fm Q5)×(Fm Q6)×(Fm Q7)×(Fm Q8)×(Fm Qh)×(Fm Qw)×(Fm Qn)×(Nat×(Nat->List (Q9×List (Int))))×(Nat×(Nat->List Qa))×(Nat×(Nat->List Qj))×Unit)×Unit)
def QN.W (f:QN.T):QN.sig.F:=λa x=>f a.2.1 a.2.2.1 x.1 x.2.1 x.2.2.1 x.2.2.2.1 x.2.2.2.2.1 x.2.2.2.2.2.1 x.2.2.2.2.2.2.1 x.2.2.2.2.2.2.2.1 x.2.2.2.2.2.2.2.2.1 x.2.2.2.2.2.2.2.2.2.1 x.2.2.2.2.2.2.2.2.2.2.1 x.2.2.2.2.2.2.2.2.2.2.2.1 x.2.2.2.2.2.2.2.2.2.2.2.2.1
abbrev QN.N (c:QN.T):=Qp 56 (QN.sig.native (QN.W c))
def Q1c.sig:Sig U:=⟨[.ptr,.int .i64,.data .Q2W],[.obj .Qi,Q4Y,Q54,Q4s,Q47,Q4u,Q4z,Q4y,Q5z,Q65,.fam 10 (.map true false .Qm .Q1o),.fam 11 (.rows .Qo),.fam 12 (.rows .QQ)],0,[],true,[]⟩
abbrev Q1c.T:Type:=(Int)->(Q12)->(Q3)->(Fm Q1)->(Fm Qd)->(Fm Q5)->(Fm Q6)->(Fm Q7)->(Fm Q8)->(Fm Qh)->(Fm Qw)->(Fm Qn)->(Nat×(Nat->List (Q9×List (Int))))->(Nat×(Nat->List Qa))->(Nat×(Nat->List Qj))->Option (Unit×(Q3×(Fm Q1)×(Fm Qd)×(Fm Q5)×(Fm Q6)×(Fm Q7)×(Fm Q8)×(Fm Qh)×(Fm Qw)×(Fm Qn)×(Nat×(Nat->List (Q9×List (Int))))×(Nat×(Nat->List Qa))×(Nat×(Nat->List Qj))×Unit)×Unit)
def Q1c.W (f:Q1c.T):Q1c.sig.F:=λa x=>f a.2.1 a.2.2.1 x.1 x.2.1 x.2.2.1 x.2.2.2.1 x.2.2.2.2.1 x.2.2.2.2.2.1 x.2.2.2.2.2.2.1 x.2.2.2.2.2.2.2.1 x.2.2.2.2.2.2.2.2.1 x.2.2.2.2.2.2.2.2.2.1 x.2.2.2.2.2.2.2.2.2.2.1 x.2.2.2.2.2.2.2.2.2.2.2.1 x.2.2.2.2.2.2.2.2.2.2.2.2.1
def Q1c.L1:Shape U:=⟨56,15,[(0,.ptr 13 0 0),(1,vi_),(5,.ptr 14 0 0),(11,.val (.isl .Q1j)),(12,vi_),(13,vi_)],[(13,.obj .Qi),(14,.obj .Q2W),(0,.Qf false .Q4),(1,.Qf false .QR),(2,.Qf false .Ql),(3,.Qf false .Qy),(4,.Qf false .QF),(5,.Qf false .QC),(6,.Qf false .QS),(8,.Qf false .Q1g),(9,.Qf false .Q13),(10,.Q20 true false .Qm .Q1o),(11,.Q1a .Qo),(12,.Q1a .QQ)]⟩
def Q1c.X1:Qt U:= [(.exit 0,⟨56,15,[(0,.ptr 13 0 0),(1,vi_),(5,.ptr 14 0 0)],[(13,.obj .Qi),(14,.obj .Q2W),(0,.Qf false .Q4),(1,.Qf false .QR),(2,.Qf false .Ql),(3,.Qf false .Qy),(4,.Qf false .QF),(5,.Qf false .QC),(6,.Qf false .QS),(8,.Qf false .Q1g),(9,.Qf false .Q13),(10,.Q20 true false .Qm .Q1o),(11,.Q1a .Qo),(12,.Q1a .QQ)]⟩)]
abbrev Q1c.l1T:Type:=((Int×(List (Qk))×Int×Int×Unit)×(Q3×Q12×(Fm Q1)×(Fm Qd)×(Fm Q5)×(Fm Q6)×(Fm Q7)×(Fm Q8)×(Fm Qh)×(Fm Qw)×(Fm Qn)×(Nat×(Nat->List (Q9×List (Int))))×(Nat×(Nat->List Qa))×(Nat×(Nat->List Qj))×Unit))->Option (((Int×Unit)×(Q3×Q12×(Fm Q1)×(Fm Qd)×(Fm Q5)×(Fm Q6)×(Fm Q7)×(Fm Q8)×(Fm Qh)×(Fm Qw)×(Fm Qn)×(Nat×(Nat->List (Q9×List (Int))))×(Nat×(Nat->List Qa))×(Nat×(Nat->List Qj))×Unit)))
def Q1c.C:Code:=match Tryz.f86.body with|some c=>c|none=>.skip
def Q1c.B0:Code:=match (Z3 Q1c.C).getD 0 .skip with| .loop b=>b| .scope b=>b|_=>.skip
def Q1c.B1:Code:=match (Z3 Q1c.C).getD 1 .skip with| .loop b=>b| .scope b=>b|_=>.skip
def Q1c.H (cK86:K86.T) (cK188:Q2c.T) (cK183:QN.T) (l1:Q1c.l1T):Hints U:={ Γ:=(QN.N cK183 (Qp 89 (Q2c.sig.native (Q2c.W cK188)) (Qp 65 (K86.sig.native (K86.W cK86)) noΓ))),ro:=0,base:=14,Q1T:=jt_ [(4,[(28,vb_)])],loop:=jt_ [(2,(Z6 (0,14) Q1c.L1 Q1c.X1 l1))]}
def Q1c.Q2n (cK86:K86.T) (cK188:Q2c.T) (cK183:QN.T) (a:(Int×(List (Qk))×Int×Int×Unit)×(Q3×Q12×(Fm Q1)×(Fm Qd)×(Fm Q5)×(Fm Q6)×(Fm Q7)×(Fm Q8)×(Fm Qh)×(Fm Qw)×(Fm Qn)×(Nat×(Nat->List (Q9×List (Int))))×(Nat×(Nat->List Qa))×(Nat×(Nat->List Qj))×Unit)):Option (((Int×(List (Qk))×Int×Int×Unit)×(Q3×Q12×(Fm Q1)×(Fm Qd)×(Fm Q5)×(Fm Q6)×(Fm Q7)×(Fm Q8)×(Fm Qh)×(Fm Qw)×(Fm Qn)×(Nat×(Nat->List (Q9×List (Int))))×(Nat×(Nat->List Qa))×(Nat×(Nat->List Qj))×Unit))⊕(((Int×Unit)×(Q3×Q12×(Fm Q1)×(Fm Qd)×(Fm Q5)×(Fm Q6)×(Fm Q7)×(Fm Q8)×(Fm Qh)×(Fm Qw)×(Fm Qn)×(Nat×(Nat->List (Q9×List (Int))))×(Nat×(Nat->List Qa))×(Nat×(Nat->List Qj))×Unit)))):=
 (bif ilt a.1.2.2.2.1 a.1.2.2.1 then (bif inR a.1.2.2.2.1 (List.length a.1.2.1) then (Q0 ((bif ieq (List.getD a.1.2.1 (Int.toNat a.1.2.2.2.1) Qk.zero).QO a.1.1 then some (ieq (List.getD a.1.2.1 (Int.toNat a.1.2.2.2.1) Qk.zero).Q18 a.2.2.1.Q18,()) else some (false,()))) none λr0=>(bif r0.1 then (bif inR (List.getD a.1.2.1 (Int.toNat a.1.2.2.2.1) Qk.zero).Q4o 8 then (Q0 (a.2.1.4 (Int.toNat (List.getD a.1.2.1 (Int.toNat a.1.2.2.2.1) Qk.zero).Q4o)) none λr1=>(Q0 (cK86 a.1.2.2.2.1 a.2.2.1.Q6a (a.2.2.2.2.2.2.2.2.2.2.2.1.2 r1) a.2.2.2.2.2.2.2.2.2.2.2.2.2.2.1) none λr2=>some (.inr ((a.1.1,()),(a.2.1,(a.2.2.1,(a.2.2.2.1,(a.2.2.2.2.1,(a.2.2.2.2.2.1,(a.2.2.2.2.2.2.1,(a.2.2.2.2.2.2.2.1,(a.2.2.2.2.2.2.2.2.1,(a.2.2.2.2.2.2.2.2.2.1,(a.2.2.2.2.2.2.2.2.2.2.1,((a.2.2.2.2.2.2.2.2.2.2.2.1.1,QA a.2.2.2.2.2.2.2.2.2.2.2.1.2 r1 r2.2.1.1),(a.2.2.2.2.2.2.2.2.2.2.2.2.1,(a.2.2.2.2.2.2.2.2.2.2.2.2.2.1,r2.2.1.2))))))))))))))))) else none) else some (.inl ((a.1.1,(a.1.2.1,(a.1.2.2.1,(Q2 .i64 a.1.2.2.2.1 1,())))),a.2)))) else none) else some (.inr ((a.1.1,()),a.2)))
def Q1c.F1 (r_:QN.T):Q1c.l1T:=λa=>Z8 (1000000+(a.1.2.1.length)) (Q1c.Q2n K86 Q2c r_) a
def Q1c.gen (cK86:K86.T) (cK188:Q2c.T) (cK183:QN.T) (l1:Q1c.l1T):Q1c.T:=λi out h0 g0 g1 g2 g3 g4 g5 g6 g8 g9 g10 g11 g12=>
 (Q0 (l1 ((i,h0.Q62,ofN (List.length h0.Q62),(0:Int),()),h0,out,g0,g1,g2,g3,g4,g5,g6,g8,g9,g10,g11,g12,())) none λr0=>(bif r0.2.2.1.Q9X then (Q0 (cK188 r0.1.1 r0.2.1 r0.2.2.2.2.2.2.2.2.2.2.1 r0.2.2.2.2.2.2.2.2.2.2.2.2.2.1) none λr1=>(Q0 (cK183 r0.1.1 (Q1Q.mk 3 r0.2.2.1.Q18 r1.1.1 r0.2.2.1.fType r0.2.2.1.Q3w (ByteArray.mk (List.toArray (QG UInt8))) z7_) r1.2.1.1 r0.2.2.2.1 r0.2.2.2.2.1 r0.2.2.2.2.2.1 r0.2.2.2.2.2.2.1 r0.2.2.2.2.2.2.2.1 r0.2.2.2.2.2.2.2.2.1 r0.2.2.2.2.2.2.2.2.2.1 r1.2.1.2.1 r0.2.2.2.2.2.2.2.2.2.2.2.1 r0.2.2.2.2.2.2.2.2.2.2.2.2.1 r1.2.1.2.2.1 r0.2.2.2.2.2.2.2.2.2.2.2.2.2.2.1) none λr2=>some ((),r2.2))) else some ((),((r0.2.1,r0.2.2.2),()))))
def Q1c.K (r_:QN.T):Q1c.T:=Q1c.gen K86 Q2c r_ (Q1c.F1 r_)
theorem Q1c.seq1 (cK86:K86.T) (cK188:Q2c.T) (cK183:QN.T) (l1:Q1c.l1T) (a:Q1c.L1.T):run Tryz.prog (Q1c.H cK86 cK188 cK183 l1) 6 (Option (Q1c.L1.T⊕ExT Q1c.X1)) none Q1c.B1 (Q1c.L1.enc a) (Zc (0,14) Q1c.L1 Q1c.X1)=Q1c.Q2n cK86 cK188 cK183 a:=by kernel_rfl
theorem Q1c.Q68:Z3 Q1c.B1=([]:List Code):=by kernel_rfl
theorem Q1c.Q3z (r_:QN.T) (hr_:Zi U Tryz.prog 56 (QN.sig.native (QN.W r_))):ZA U Tryz.prog (Q1c.H K86 Q2c r_ (Q1c.F1 r_)).ro (Q1c.H K86 Q2c r_ (Q1c.F1 r_)).base Q1c.B1 (Z6 (0,14) Q1c.L1 Q1c.X1 (Q1c.F1 r_)):=
 Z1b (Hn:=(Q1c.H K86 Q2c r_ (Q1c.F1 r_))) Q3X Q2t (ZY (hq (Z0 (Z0 (Z0 Z2 K86.ok) Q2c.ok) hr_) Z5 (λ_=>rfl) (λ_=>rfl)) 6) (λb h=>by rw [Q1c.Q68] at h;exact h) (λ_=>rfl) (Q1c.seq1 K86 Q2c r_ (Q1c.F1 r_))
theorem Q1c.eq (cK86:K86.T) (cK188:Q2c.T) (cK183:QN.T) (l1:Q1c.l1T):EqA Q1c.sig (Q1c.H cK86 cK188 cK183 l1) Tryz.f86 6 (Q1c.W (Q1c.gen cK86 cK188 cK183 l1)):=by intro a x;kernel_rfl
theorem Q1c.loops:Z3 Q1c.C= [(.scope Q1c.B0),(.loop Q1c.B1)]:=by kernel_rfl
theorem Q1c.hints (r_:QN.T) (hr_:Zi U Tryz.prog 56 (QN.sig.native (QN.W r_))):Q3c U Tryz.prog (Q1c.H K86 Q2c r_ (Q1c.F1 r_)) (λc=>c∈ [(.scope Q1c.B0),(.loop Q1c.B1)]):=(hq (Z0 (Z0 (Z0 Z2 K86.ok) Q2c.ok) hr_) (Zt (Z4 (by kernel_rfl) (Q1c.Q3z r_ hr_) Z5)) (λ_=>rfl) (λ_=>rfl))
theorem Q1c.okK (r_:QN.T) (hr_:Zi U Tryz.prog 56 (QN.sig.native (QN.W r_))):Zi U Tryz.prog 86 (Q1c.sig.native (Q1c.W (Q1c.K r_))):=
 Sig.ok Q1c.sig (Q1c.W (Q1c.gen K86 Q2c r_ (Q1c.F1 r_))) Q2t (Hn:=(Q1c.H K86 Q2c r_ (Q1c.F1 r_))) (code:=Q1c.C) (gos:=6) (Q1c.hints r_ hr_) Tryz.func86 (by kernel_rfl) (by kernel_rfl) (λb h=>by rw [Q1c.loops] at h;exact h) rfl rfl (by decide) (Q1c.eq K86 Q2c r_ (Q1c.F1 r_)) (by decide)
def QN.L0:Shape U:=⟨66,14,[(0,.ptr 13 0 0),(1,vi_),(17,.val (.isl .Q2W)),(18,vi_),(19,vi_)],[(13,.obj .Qi),(0,.Qf false .Q4),(1,.Qf false .QR),(2,.Qf false .Ql),(3,.Qf false .Qy),(4,.Qf false .QF),(5,.Qf false .QC),(6,.Qf false .QS),(8,.Qf false .Q1g),(9,.Qf false .Q13),(10,.Q20 true false .Qm .Q1o),(11,.Q1a .Qo),(12,.Q1a .QQ)]⟩
def QN.X0:Qt U:= [(.exit 0,⟨66,14,[],[(13,.obj .Qi),(0,.Qf false .Q4),(1,.Qf false .QR),(2,.Qf false .Ql),(3,.Qf false .Qy),(4,.Qf false .QF),(5,.Qf false .QC),(6,.Qf false .QS),(8,.Qf false .Q1g),(9,.Qf false .Q13),(10,.Q20 true false .Qm .Q1o),(11,.Q1a .Qo),(12,.Q1a .QQ)]⟩)]
abbrev QN.l0T:Type:=((Int×(List (Q12))×Int×Int×Unit)×(Q3×(Fm Q1)×(Fm Qd)×(Fm Q5)×(Fm Q6)×(Fm Q7)×(Fm Q8)×(Fm Qh)×(Fm Qw)×(Fm Qn)×(Nat×(Nat->List (Q9×List (Int))))×(Nat×(Nat->List Qa))×(Nat×(Nat->List Qj))×Unit))->Option ((Unit×(Q3×(Fm Q1)×(Fm Qd)×(Fm Q5)×(Fm Q6)×(Fm Q7)×(Fm Q8)×(Fm Qh)×(Fm Qw)×(Fm Qn)×(Nat×(Nat->List (Q9×List (Int))))×(Nat×(Nat->List Qa))×(Nat×(Nat->List Qj))×Unit)))
def QN.C:Code:=match Tryz.f56.body with|some c=>c|none=>.skip
def QN.B0:Code:=match (Z3 QN.C).getD 0 .skip with| .loop b=>b| .scope b=>b|_=>.skip
def QN.JC6:Qt U:= [(.normal,⟨66,14,[(0,.ptr 13 0 0),(1,vi_),(17,.val (.isl .Q2W)),(18,vi_),(19,vi_)],[(13,.obj .Qi),(0,.Qf false .Q4),(1,.Qf false .QR),(2,.Qf false .Ql),(3,.Qf false .Qy),(4,.Qf false .QF),(5,.Qf false .QC),(6,.Qf false .QS),(8,.Qf false .Q1g),(9,.Qf false .Q13),(10,.Q20 true false .Qm .Q1o),(11,.Q1a .Qo),(12,.Q1a .QQ)]⟩)]
def QN.H (cK11:K11.T) (cK106:Q2N.T) (cK105:Q2R.T) (cK187:Q1c.T) (l0:QN.l0T):Hints U:={ Γ:=(Qp 86 (Q1c.sig.native (Q1c.W cK187)) (Qp 85 (Q2R.sig.native (Q2R.W cK105)) (Qp 84 (Q2N.sig.native (Q2N.W cK106)) (Qp 83 (K11.sig.native (K11.W cK11)) noΓ)))),ro:=0,base:=14,Q29:=jt_ [(6,QN.JC6)],loop:=jt_ [(2,(Z6 (0,14) QN.L0 QN.X0 l0))]}
def QN.QW (cK11:K11.T) (cK106:Q2N.T) (cK105:Q2R.T) (cK187:Q1c.T) (a:(Int×(List (Q12))×Int×Int×Unit)×(Q3×(Fm Q1)×(Fm Qd)×(Fm Q5)×(Fm Q6)×(Fm Q7)×(Fm Q8)×(Fm Qh)×(Fm Qw)×(Fm Qn)×(Nat×(Nat->List (Q9×List (Int))))×(Nat×(Nat->List Qa))×(Nat×(Nat->List Qj))×Unit)):Option (((Int×(List (Q12))×Int×Int×Unit)×(Q3×(Fm Q1)×(Fm Qd)×(Fm Q5)×(Fm Q6)×(Fm Q7)×(Fm Q8)×(Fm Qh)×(Fm Qw)×(Fm Qn)×(Nat×(Nat->List (Q9×List (Int))))×(Nat×(Nat->List Qa))×(Nat×(Nat->List Qj))×Unit))⊕((Unit×(Q3×(Fm Q1)×(Fm Qd)×(Fm Q5)×(Fm Q6)×(Fm Q7)×(Fm Q8)×(Fm Qh)×(Fm Qw)×(Fm Qn)×(Nat×(Nat->List (Q9×List (Int))))×(Nat×(Nat->List Qa))×(Nat×(Nat->List Qj))×Unit)))):=
 (bif ilt a.1.2.2.2.1 a.1.2.2.1 then (bif inR a.1.2.2.2.1 (List.length a.1.2.1) then (Q0 ((bif ieq (List.getD a.1.2.1 (Int.toNat a.1.2.2.2.1) Q12.zero).Q2C 2 then (bif inR a.1.1 a.2.1.Q1K.2 then (Q0 ((bif Nat.blt (0+Int.toNat a.1.1) (List.length (a.2.2.2.2.2.2.2.2.2.2.2.2.1.2 a.2.1.Q1K.1)) then (List.getD (a.2.2.2.2.2.2.2.2.2.2.2.2.1.2 a.2.1.Q1K.1) (0+Int.toNat a.1.1) Qa.zero).2 else none)) none λr0=>(Q0 (cK106 a.2.1.Q7e (List.getD a.1.2.1 (Int.toNat a.1.2.2.2.1) Q12.zero).fN (a.2.2.2.2.2.2.2.2.2.1.2 r0)) none λr1=>some (a.1,(a.2.1,(a.2.2.1,(a.2.2.2.1,(a.2.2.2.2.1,(a.2.2.2.2.2.1,(a.2.2.2.2.2.2.1,(a.2.2.2.2.2.2.2.1,(a.2.2.2.2.2.2.2.2.1,((a.2.2.2.2.2.2.2.2.2.1.1,QA a.2.2.2.2.2.2.2.2.2.1.2 r0 r1.2.1.1),a.2.2.2.2.2.2.2.2.2.2)))))))))))) else none) else (bif ieq (List.getD a.1.2.1 (Int.toNat a.1.2.2.2.1) Q12.zero).Q2C 3 then (bif inR a.1.1 a.2.1.Q1K.2 then (Q0 ((bif Nat.blt (0+Int.toNat a.1.1) (List.length (a.2.2.2.2.2.2.2.2.2.2.2.2.1.2 a.2.1.Q1K.1)) then (List.getD (a.2.2.2.2.2.2.2.2.2.2.2.2.1.2 a.2.1.Q1K.1) (0+Int.toNat a.1.1) Qa.zero).2 else none)) none λr2=>(Q0 (cK105 a.2.1.Q7e (List.getD a.1.2.1 (Int.toNat a.1.2.2.2.1) Q12.zero).fN (a.2.2.2.2.2.2.2.2.2.1.2 r2)) none λr3=>some (a.1,(a.2.1,(a.2.2.1,(a.2.2.2.1,(a.2.2.2.2.1,(a.2.2.2.2.2.1,(a.2.2.2.2.2.2.1,(a.2.2.2.2.2.2.2.1,(a.2.2.2.2.2.2.2.2.1,((a.2.2.2.2.2.2.2.2.2.1.1,QA a.2.2.2.2.2.2.2.2.2.1.2 r2 r3.2.1.1),a.2.2.2.2.2.2.2.2.2.2)))))))))))) else none) else (bif ieq (List.getD a.1.2.1 (Int.toNat a.1.2.2.2.1) Q12.zero).Q2C 1 then (Q0 (cK187 a.1.1 (List.getD a.1.2.1 (Int.toNat a.1.2.2.2.1) Q12.zero) a.2.1 a.2.2.1 a.2.2.2.1 a.2.2.2.2.1 a.2.2.2.2.2.1 a.2.2.2.2.2.2.1 a.2.2.2.2.2.2.2.1 a.2.2.2.2.2.2.2.2.1 a.2.2.2.2.2.2.2.2.2.1 a.2.2.2.2.2.2.2.2.2.2.1 a.2.2.2.2.2.2.2.2.2.2.2.1 a.2.2.2.2.2.2.2.2.2.2.2.2.1 a.2.2.2.2.2.2.2.2.2.2.2.2.2.1) none λr4=>some (a.1,r4.2.1)) else some a)))) none λr5=>some (.inl ((r5.1.1,(r5.1.2.1,(r5.1.2.2.1,(Q2 .i64 r5.1.2.2.2.1 1,())))),r5.2))) else none) else some (.inr ((),a.2)))
def QN.F0 (r_:QN.T):QN.l0T:=λa=>Z8 (1000000+(a.1.2.1.length)) (QN.QW K11 Q2N Q2R (Q1c.K r_)) a
def QN.gen (cK11:K11.T) (cK106:Q2N.T) (cK105:Q2R.T) (cK187:Q1c.T) (l0:QN.l0T):QN.T:=λi e h0 g0 g1 g2 g3 g4 g5 g6 g8 g9 g10 g11 g12=>
 (bif inR i h0.Q1K.2 then (Q0 ((bif Nat.blt (0+Int.toNat i) (List.length (g11.2 h0.Q1K.1)) then (List.getD (g11.2 h0.Q1K.1) (0+Int.toNat i) Qa.zero).1 else none)) none λr0=>(Q0 (cK11 e (g0.2 r0) g1 g2 g3 g4 g5 g6 g10) none λr1=>(Q0 (l0 ((i,r1.1.1,ofN (List.length r1.1.1),(0:Int),()),h0,(g0.1,QA g0.2 r0 r1.2.1.1),r1.2.1.2.1,r1.2.1.2.2.1,r1.2.1.2.2.2.1,r1.2.1.2.2.2.2.1,r1.2.1.2.2.2.2.2.1,r1.2.1.2.2.2.2.2.2.1,g8,g9,r1.2.1.2.2.2.2.2.2.2.1,g11,g12,())) none λr2=>some ((),(r2.2,()))))) else none)
def QN.K (r_:QN.T):QN.T:=QN.gen K11 Q2N Q2R (Q1c.K r_) (QN.F0 r_)
def Q4p:Nat->QN.T
 |0=>λ_ _ _ _ _ _ _ _ _ _ _ _ _ _ _=>none
 |k+1=>QN.K (Q4p k)
def QN:QN.T:=Q4p 3
theorem QN.Q1O (cK11:K11.T) (cK106:Q2N.T) (cK105:Q2R.T) (cK187:Q1c.T) (l0:QN.l0T) (a:QN.L0.T):run Tryz.prog (QN.H cK11 cK106 cK105 cK187 l0) 6 (Option (QN.L0.T⊕ExT QN.X0)) none QN.B0 (QN.L0.enc a) (Zc (0,14) QN.L0 QN.X0)=QN.QW cK11 cK106 cK105 cK187 a:=by kernel_rfl
theorem QN.Q3V:Z3 QN.B0=([]:List Code):=by kernel_rfl
theorem QN.Q1D (r_:QN.T) (hr_:Zi U Tryz.prog 56 (QN.sig.native (QN.W r_))):ZA U Tryz.prog (QN.H K11 Q2N Q2R (Q1c.K r_) (QN.F0 r_)).ro (QN.H K11 Q2N Q2R (Q1c.K r_) (QN.F0 r_)).base QN.B0 (Z6 (0,14) QN.L0 QN.X0 (QN.F0 r_)):=
 Z1b (Hn:=(QN.H K11 Q2N Q2R (Q1c.K r_) (QN.F0 r_))) Q3X Q2t (ZY (hq (Z0 (Z0 (Z0 (Z0 Z2 K11.ok) Q2N.ok) Q2R.ok) (Q1c.okK r_ hr_)) Z5 (λ_=>rfl) (λ_=>rfl)) 6) (λb h=>by rw [QN.Q3V] at h;exact h) (λ_=>rfl) (QN.Q1O K11 Q2N Q2R (Q1c.K r_) (QN.F0 r_))
theorem QN.eq (cK11:K11.T) (cK106:Q2N.T) (cK105:Q2R.T) (cK187:Q1c.T) (l0:QN.l0T):EqA QN.sig (QN.H cK11 cK106 cK105 cK187 l0) Tryz.f56 6 (QN.W (QN.gen cK11 cK106 cK105 cK187 l0)):=by intro a x;kernel_rfl
theorem QN.loops:Z3 QN.C= [(.loop QN.B0)]:=by kernel_rfl
theorem QN.hints (r_:QN.T) (hr_:Zi U Tryz.prog 56 (QN.sig.native (QN.W r_))):Q3c U Tryz.prog (QN.H K11 Q2N Q2R (Q1c.K r_) (QN.F0 r_)) (λc=>c∈ [(.loop QN.B0)]):=(hq (Z0 (Z0 (Z0 (Z0 Z2 K11.ok) Q2N.ok) Q2R.ok) (Q1c.okK r_ hr_)) (Z4 (by kernel_rfl) (QN.Q1D r_ hr_) Z5) (λ_=>rfl) (λ_=>rfl))
theorem QN.okK (r_:QN.T) (hr_:Zi U Tryz.prog 56 (QN.sig.native (QN.W r_))):Zi U Tryz.prog 56 (QN.sig.native (QN.W (QN.K r_))):=
 Sig.ok QN.sig (QN.W (QN.gen K11 Q2N Q2R (Q1c.K r_) (QN.F0 r_))) Q2t (Hn:=(QN.H K11 Q2N Q2R (Q1c.K r_) (QN.F0 r_))) (code:=QN.C) (gos:=6) (QN.hints r_ hr_) Tryz.func56 (by kernel_rfl) (by kernel_rfl) (λb h=>by rw [QN.loops] at h;exact h) rfl rfl (by decide) (QN.eq K11 Q2N Q2R (Q1c.K r_) (QN.F0 r_)) (by decide)
theorem QN.okN:∀k,Zi U Tryz.prog 56 (QN.sig.native (QN.W (Q4p k)))
 |0=>Z7R
 |k+1=>QN.okK (Q4p k) (QN.okN k)
theorem QN.ok:Zi U Tryz.prog 56 (QN.sig.native (QN.W QN)):=QN.okN 3
def Q1R.sig:Sig U:=⟨[.ptr,.int .i64],[.obj .Qi,Q4Y,Q54,Q4s,Q47,Q4u,Q4z,Q4y,Q5z,Q65,.fam 10 (.map true false .Qm .Q1o),.fam 11 (.rows .Qo),.fam 12 (.rows .QQ)],0,[],true,[]⟩
abbrev Q1R.T:Type:=(Int)->(Q3)->(Fm Q1)->(Fm Qd)->(Fm Q5)->(Fm Q6)->(Fm Q7)->(Fm Q8)->(Fm Qh)->(Fm Qw)->(Fm Qn)->(Nat×(Nat->List (Q9×List (Int))))->(Nat×(Nat->List Qa))->(Nat×(Nat->List Qj))->Option (Unit×(Q3×(Fm Q1)×(Fm Qd)×(Fm Q5)×(Fm Q6)×(Fm Q7)×(Fm Q8)×(Fm Qh)×(Fm Qw)×(Fm Qn)×(Nat×(Nat->List (Q9×List (Int))))×(Nat×(Nat->List Qa))×(Nat×(Nat->List Qj))×Unit)×Unit)
def Q1R.W (f:Q1R.T):Q1R.sig.F:=λa x=>f a.2.1 x.1 x.2.1 x.2.2.1 x.2.2.2.1 x.2.2.2.2.1 x.2.2.2.2.2.1 x.2.2.2.2.2.2.1 x.2.2.2.2.2.2.2.1 x.2.2.2.2.2.2.2.2.1 x.2.2.2.2.2.2.2.2.2.1 x.2.2.2.2.2.2.2.2.2.2.1 x.2.2.2.2.2.2.2.2.2.2.2.1 x.2.2.2.2.2.2.2.2.2.2.2.2.1
def Q1R.H (cK180:Q3R.T) (cK183:QN.T):Hints U:={ Γ:=(QN.N cK183 (Qp 57 (Q3R.sig.native (Q3R.W cK180)) noΓ)),ro:=0,base:=14}
def Q1R.gen (cK180:Q3R.T) (cK183:QN.T):Q1R.T:=λi h0 g0 g1 g2 g3 g4 g5 g6 g8 g9 g10 g11 g12=>
 (Q0 (cK180 i h0 g8 g11) none λr0=>(Q0 (cK183 i (Q1Q.mk 1 0 r0.1.1 0 0 (ByteArray.mk (List.toArray (QG UInt8))) z7_) h0 g0 g1 g2 g3 g4 g5 g6 g8 g9 g10 g11 g12) none λr1=>some ((),r1.2)))
def Q1R:Q1R.T:=Q1R.gen Q3R QN
theorem Q1R.eq (cK180:Q3R.T) (cK183:QN.T):EqA Q1R.sig (Q1R.H cK180 cK183) Tryz.f37 6 (Q1R.W (Q1R.gen cK180 cK183)):=by intro a x;kernel_rfl
theorem Q1R.ok:NK_ 37 Q1R.sig (Q1R.W Q1R):=ok_ Tryz.func37 (Q1R.eq Q3R QN) (hn_ (Z0 (Z0 Z2 Q3R.ok) QN.ok))
def Q1V.sig:Sig U:=⟨[.ptr,.int .i64],[.obj .Qi],0,[],true,[]⟩
abbrev Q1V.T:Type:=(Int)->(Q3)->Option (Unit×(Q3×Unit)×Unit)
def Q1V.W (f:Q1V.T):Q1V.sig.F:=λa x=>f a.2.1 x.1
def Q1V.H:Hints U:={ Γ:=noΓ,ro:=0,base:=14}
def Q1V.gen:Q1V.T:=λn h0=>
 some ((),((Q3.Q9V h0 (Z7 false (Q2 .i64 h0.Q7e (Z7 true 0 (Z7 false n 1000000000000))) 4000000000000000),()),()))
def Q1V:Q1V.T:=Q1V.gen
theorem Q1V.ok:NK_ 41 Q1V.sig (Q1V.W Q1V):=ok_ (H:=Q1V.H) (n:=6) Tryz.func41 (by intro a x;kernel_rfl) (hn_ Z2)
def K84.sig:Sig U:=⟨[.ptr],[.obj .Q13,.fam 12 (.rows .QQ)],2,[.int .i64],false,[]⟩
abbrev K84.T:Type:=(Qn)->(Nat×(Nat->List Qj))->Option ((Int×Unit)×Unit×Unit)
def K84.W (f:K84.T):K84.sig.F:=λa x=>f x.1 x.2.1
def K84.H:Hints U:={ Γ:=noΓ,ro:=14,base:=14}
def K84.gen:K84.T:=λh0 g12=>
 some ((ofN h0.fl.2,()),((),()))
def K84:K84.T:=K84.gen
theorem K84.ok:NK_ 66 K84.sig (K84.W K84):=ok_ (H:=K84.H) (n:=6) Tryz.func66 (by intro a x;kernel_rfl) (hn_ Z2)
def K88.sig:Sig U:=⟨[.ptr,.int .i64],[.obj .Q13,.fam 12 (.rows .QQ)],2,[.bool],false,[]⟩
abbrev K88.T:Type:=(Int)->(Qn)->(Nat×(Nat->List Qj))->Option ((Bool×Unit)×Unit×Unit)
def K88.W (f:K88.T):K88.sig.F:=λa x=>f a.2.1 x.1 x.2.1
def K88.H:Hints U:={ Γ:=noΓ,ro:=14,base:=14}
def K88.gen:K88.T:=λi h0 g12=>
 (bif ilt i 0 then some ((true,()),((),())) else some ((ile (ofN h0.fl.2) i,()),((),())))
def K88:K88.T:=K88.gen
theorem K88.ok:NK_ 91 K88.sig (K88.W K88):=ok_ (H:=K88.H) (n:=6) Tryz.func91 (by intro a x;kernel_rfl) (hn_ Z2)
def K85.sig:Sig U:=⟨[.ptr,.int .i64],[.obj .Q13,.fam 12 (.rows .QQ)],2,[.int .i64,.str,.bool],true,[]⟩
abbrev K85.T:Type:=(Int)->(Qn)->(Nat×(Nat->List Qj))->Option ((Int×ByteArray×Bool×Unit)×Unit×Unit)
def K85.W (f:K85.T):K85.sig.F:=λa x=>f a.2.1 x.1 x.2.1
def K85.H (cK88:K88.T):Hints U:={ Γ:=(Qp 91 (K88.sig.native (K88.W cK88)) noΓ),ro:=14,base:=14}
def K85.gen (cK88:K88.T):K85.T:=λi h0 g12=>
 (Q0 (cK88 i h0 g12) none λr0=>(bif r0.1.1 then some (((0:Int),(ByteArray.mk (List.toArray (QG UInt8)),(false,()))),((),())) else (bif inR i h0.fl.2 then (bif Nat.blt (0+Int.toNat i) (List.length (g12.2 h0.fl.1)) then (bif inR i h0.fl.2 then (bif Nat.blt (0+Int.toNat i) (List.length (g12.2 h0.fl.1)) then some (((List.getD (g12.2 h0.fl.1) (0+Int.toNat i) Qj.zero).Qa3,((List.getD (g12.2 h0.fl.1) (0+Int.toNat i) Qj.zero).fb,(true,()))),((),())) else none) else none) else none) else none)))
def K85:K85.T:=K85.gen K88
theorem K85.eq (cK88:K88.T):EqA K85.sig (K85.H cK88) Tryz.f90 6 (K85.W (K85.gen cK88)):=by intro a x;kernel_rfl
theorem K85.ok:NK_ 90 K85.sig (K85.W K85):=ok_ Tryz.func90 (K85.eq K88) (hn_ (Z0 Z2 K88.ok))
def K87.sig:Sig U:=⟨[.ptr,.int .i64],[.obj .Q13,.fam 12 (.rows .QQ)],0,[.int .i64,.str,.bool],true,[]⟩
abbrev K87.T:Type:=(Int)->(Qn)->(Nat×(Nat->List Qj))->Option ((Int×ByteArray×Bool×Unit)×(Qn×(Nat×(Nat->List Qj))×Unit)×Unit)
def K87.W (f:K87.T):K87.sig.F:=λa x=>f a.2.1 x.1 x.2.1
def K87.JC3:Qt U:= [(.normal,⟨52,14,[(7,vi_),(8,.val (.str)),(9,vb_)],[(13,.obj .Q13),(12,.Q1a .QQ)]⟩)]
def K87.H (cK85:K85.T):Hints U:={ Γ:=(Qp 90 (K85.sig.native (K85.W cK85)) noΓ),ro:=0,base:=14,Q29:=jt_ [(3,K87.JC3)]}
def K87.gen (cK85:K85.T):K87.T:=λi h0 g12=>
 (Q0 (cK85 i h0 g12) none λr0=>(Q0 ((bif r0.1.2.2.1 then (bif bif ile 0 (Q1e .i64 (ofN h0.fl.2) 1) then bif ile (Q1e .i64 (ofN h0.fl.2) 1) 9223372036854775807 then room (Int.toNat (Q1e .i64 (ofN h0.fl.2) 1)) 24 else false else false then (bif le3 (ofN 0) i h0.fl.2 then (bif Nat.beq (List.length (List.take (Nat.min (Int.toNat i - Int.toNat (ofN 0)) (Int.toNat (Q1e .i64 (ofN h0.fl.2) 1))) (List.drop (0+Int.toNat (ofN 0)) (QA g12.2 g12.1 (List.replicate (Int.toNat (Q1e .i64 (ofN h0.fl.2) 1)) (Qj.mk 0 (ByteArray.mk (List.toArray (QG UInt8))))) h0.fl.1)))) (Nat.min (Int.toNat i - Int.toNat (ofN 0)) (Int.toNat (Q1e .i64 (ofN h0.fl.2) 1))) && Nat.ble (0+Nat.min (Int.toNat i - Int.toNat (ofN 0)) (Int.toNat (Q1e .i64 (ofN h0.fl.2) 1))) (List.length (QA g12.2 g12.1 (List.replicate (Int.toNat (Q1e .i64 (ofN h0.fl.2) 1)) (Qj.mk 0 (ByteArray.mk (List.toArray (QG UInt8))))) g12.1)) then (bif le3 i (ofN (Int.toNat (Q1e .i64 (ofN h0.fl.2) 1))) (Int.toNat (Q1e .i64 (ofN h0.fl.2) 1)) then (bif le3 (Q2 .i64 i 1) (ofN h0.fl.2) h0.fl.2 then (bif Nat.beq (List.length (List.take (Nat.min (Int.toNat (ofN h0.fl.2) - Int.toNat (Q2 .i64 i 1)) (Int.toNat (ofN (Int.toNat (Q1e .i64 (ofN h0.fl.2) 1))) - Int.toNat i)) (List.drop (0+Int.toNat (Q2 .i64 i 1)) (QA (QA g12.2 g12.1 (List.replicate (Int.toNat (Q1e .i64 (ofN h0.fl.2) 1)) (Qj.mk 0 (ByteArray.mk (List.toArray (QG UInt8)))))) g12.1 (Z1i (QA g12.2 g12.1 (List.replicate (Int.toNat (Q1e .i64 (ofN h0.fl.2) 1)) (Qj.mk 0 (ByteArray.mk (List.toArray (QG UInt8))))) g12.1) 0 (List.take (Nat.min (Int.toNat i - Int.toNat (ofN 0)) (Int.toNat (Q1e .i64 (ofN h0.fl.2) 1))) (List.drop (0+Int.toNat (ofN 0)) (QA g12.2 g12.1 (List.replicate (Int.toNat (Q1e .i64 (ofN h0.fl.2) 1)) (Qj.mk 0 (ByteArray.mk (List.toArray (QG UInt8))))) h0.fl.1)))) h0.fl.1)))) (Nat.min (Int.toNat (ofN h0.fl.2) - Int.toNat (Q2 .i64 i 1)) (Int.toNat (ofN (Int.toNat (Q1e .i64 (ofN h0.fl.2) 1))) - Int.toNat i)) && Nat.ble (0+Int.toNat i+Nat.min (Int.toNat (ofN h0.fl.2) - Int.toNat (Q2 .i64 i 1)) (Int.toNat (ofN (Int.toNat (Q1e .i64 (ofN h0.fl.2) 1))) - Int.toNat i)) (List.length (QA (QA g12.2 g12.1 (List.replicate (Int.toNat (Q1e .i64 (ofN h0.fl.2) 1)) (Qj.mk 0 (ByteArray.mk (List.toArray (QG UInt8)))))) g12.1 (Z1i (QA g12.2 g12.1 (List.replicate (Int.toNat (Q1e .i64 (ofN h0.fl.2) 1)) (Qj.mk 0 (ByteArray.mk (List.toArray (QG UInt8))))) g12.1) 0 (List.take (Nat.min (Int.toNat i - Int.toNat (ofN 0)) (Int.toNat (Q1e .i64 (ofN h0.fl.2) 1))) (List.drop (0+Int.toNat (ofN 0)) (QA g12.2 g12.1 (List.replicate (Int.toNat (Q1e .i64 (ofN h0.fl.2) 1)) (Qj.mk 0 (ByteArray.mk (List.toArray (QG UInt8))))) h0.fl.1)))) g12.1)) then some (r0.1,(Qn.mk (g12.1,Int.toNat (Q1e .i64 (ofN h0.fl.2) 1)) h0.Q8h,((g12.1+1,QA (QA (QA g12.2 g12.1 (List.replicate (Int.toNat (Q1e .i64 (ofN h0.fl.2) 1)) (Qj.mk 0 (ByteArray.mk (List.toArray (QG UInt8)))))) g12.1 (Z1i (QA g12.2 g12.1 (List.replicate (Int.toNat (Q1e .i64 (ofN h0.fl.2) 1)) (Qj.mk 0 (ByteArray.mk (List.toArray (QG UInt8))))) g12.1) 0 (List.take (Nat.min (Int.toNat i - Int.toNat (ofN 0)) (Int.toNat (Q1e .i64 (ofN h0.fl.2) 1))) (List.drop (0+Int.toNat (ofN 0)) (QA g12.2 g12.1 (List.replicate (Int.toNat (Q1e .i64 (ofN h0.fl.2) 1)) (Qj.mk 0 (ByteArray.mk (List.toArray (QG UInt8))))) h0.fl.1))))) g12.1 (Z1i (QA (QA g12.2 g12.1 (List.replicate (Int.toNat (Q1e .i64 (ofN h0.fl.2) 1)) (Qj.mk 0 (ByteArray.mk (List.toArray (QG UInt8)))))) g12.1 (Z1i (QA g12.2 g12.1 (List.replicate (Int.toNat (Q1e .i64 (ofN h0.fl.2) 1)) (Qj.mk 0 (ByteArray.mk (List.toArray (QG UInt8))))) g12.1) 0 (List.take (Nat.min (Int.toNat i - Int.toNat (ofN 0)) (Int.toNat (Q1e .i64 (ofN h0.fl.2) 1))) (List.drop (0+Int.toNat (ofN 0)) (QA g12.2 g12.1 (List.replicate (Int.toNat (Q1e .i64 (ofN h0.fl.2) 1)) (Qj.mk 0 (ByteArray.mk (List.toArray (QG UInt8))))) h0.fl.1)))) g12.1) (0+Int.toNat i) (List.take (Nat.min (Int.toNat (ofN h0.fl.2) - Int.toNat (Q2 .i64 i 1)) (Int.toNat (ofN (Int.toNat (Q1e .i64 (ofN h0.fl.2) 1))) - Int.toNat i)) (List.drop (0+Int.toNat (Q2 .i64 i 1)) (QA (QA g12.2 g12.1 (List.replicate (Int.toNat (Q1e .i64 (ofN h0.fl.2) 1)) (Qj.mk 0 (ByteArray.mk (List.toArray (QG UInt8)))))) g12.1 (Z1i (QA g12.2 g12.1 (List.replicate (Int.toNat (Q1e .i64 (ofN h0.fl.2) 1)) (Qj.mk 0 (ByteArray.mk (List.toArray (QG UInt8))))) g12.1) 0 (List.take (Nat.min (Int.toNat i - Int.toNat (ofN 0)) (Int.toNat (Q1e .i64 (ofN h0.fl.2) 1))) (List.drop (0+Int.toNat (ofN 0)) (QA g12.2 g12.1 (List.replicate (Int.toNat (Q1e .i64 (ofN h0.fl.2) 1)) (Qj.mk 0 (ByteArray.mk (List.toArray (QG UInt8))))) h0.fl.1)))) h0.fl.1))))),()))) else none) else none) else none) else none) else none) else none) else some (r0.1,(h0,(g12,()))))) none λr1=>some (r1.1,(r1.2,()))))
def K87:K87.T:=K87.gen K85
theorem K87.eq (cK85:K85.T):EqA K87.sig (K87.H cK85) Tryz.f61 6 (K87.W (K87.gen cK85)):=by intro a x;kernel_rfl
theorem K87.ok:NK_ 61 K87.sig (K87.W K87):=ok_ Tryz.func61 (K87.eq K85) (hn_ (Z0 Z2 K85.ok))
def Q1i.sig:Sig U:=⟨[.ptr,.int .i64,.int .i64],[.obj .Qi,Q4Y,Q54,Q4s,Q47,Q4u,Q4z,Q4y,Q5z,Q65,.fam 10 (.map true false .Qm .Q1o),.fam 11 (.rows .Qo),.fam 12 (.rows .QQ)],0,[.bool],false,[]⟩
abbrev Q1i.T:Type:=(Int)->(Int)->(Q3)->(Fm Q1)->(Fm Qd)->(Fm Q5)->(Fm Q6)->(Fm Q7)->(Fm Q8)->(Fm Qh)->(Fm Qw)->(Fm Qn)->(Nat×(Nat->List (Q9×List (Int))))->(Nat×(Nat->List Qa))->(Nat×(Nat->List Qj))->Option ((Bool×Unit)×(Q3×(Fm Q1)×(Fm Qd)×(Fm Q5)×(Fm Q6)×(Fm Q7)×(Fm Q8)×(Fm Qh)×(Fm Qw)×(Fm Qn)×(Nat×(Nat->List (Q9×List (Int))))×(Nat×(Nat->List Qa))×(Nat×(Nat->List Qj))×Unit)×Unit)
def Q1i.W (f:Q1i.T):Q1i.sig.F:=λa x=>f a.2.1 a.2.2.1 x.1 x.2.1 x.2.2.1 x.2.2.2.1 x.2.2.2.2.1 x.2.2.2.2.2.1 x.2.2.2.2.2.2.1 x.2.2.2.2.2.2.2.1 x.2.2.2.2.2.2.2.2.1 x.2.2.2.2.2.2.2.2.2.1 x.2.2.2.2.2.2.2.2.2.2.1 x.2.2.2.2.2.2.2.2.2.2.2.1 x.2.2.2.2.2.2.2.2.2.2.2.2.1
def Q1i.L0:Shape U:=⟨58,14,[(0,.ptr 13 0 0),(1,vi_),(7,vi_),(8,.val (.str)),(29,.val (.isl .Q1j)),(30,vi_),(31,vi_)],[(13,.obj .Qi),(0,.Qf false .Q4),(1,.Qf false .QR),(2,.Qf false .Ql),(3,.Qf false .Qy),(4,.Qf false .QF),(5,.Qf false .QC),(6,.Qf false .QS),(8,.Qf false .Q1g),(9,.Qf false .Q13),(10,.Q20 true false .Qm .Q1o),(11,.Q1a .Qo),(12,.Q1a .QQ)]⟩
def Q1i.X0:Qt U:= [(.exit 0,⟨58,14,[],[(13,.obj .Qi),(0,.Qf false .Q4),(1,.Qf false .QR),(2,.Qf false .Ql),(3,.Qf false .Qy),(4,.Qf false .QF),(5,.Qf false .QC),(6,.Qf false .QS),(8,.Qf false .Q1g),(9,.Qf false .Q13),(10,.Q20 true false .Qm .Q1o),(11,.Q1a .Qo),(12,.Q1a .QQ)]⟩)]
abbrev Q1i.l0T:Type:=((Int×Int×ByteArray×(List (Qk))×Int×Int×Unit)×(Q3×(Fm Q1)×(Fm Qd)×(Fm Q5)×(Fm Q6)×(Fm Q7)×(Fm Q8)×(Fm Qh)×(Fm Qw)×(Fm Qn)×(Nat×(Nat->List (Q9×List (Int))))×(Nat×(Nat->List Qa))×(Nat×(Nat->List Qj))×Unit))->Option ((Unit×(Q3×(Fm Q1)×(Fm Qd)×(Fm Q5)×(Fm Q6)×(Fm Q7)×(Fm Q8)×(Fm Qh)×(Fm Qw)×(Fm Qn)×(Nat×(Nat->List (Q9×List (Int))))×(Nat×(Nat->List Qa))×(Nat×(Nat->List Qj))×Unit)))
def Q1i.C:Code:=match Tryz.f60.body with|some c=>c|none=>.skip
def Q1i.B0:Code:=match (Z3 Q1i.C).getD 0 .skip with| .loop b=>b| .scope b=>b|_=>.skip
def Q1i.JC8:Qt U:= [(.normal,⟨58,14,[(0,.ptr 13 0 0),(1,vi_),(7,vi_),(8,.val (.str)),(29,.val (.isl .Q1j)),(30,vi_),(31,vi_)],[(13,.obj .Qi),(0,.Qf false .Q4),(1,.Qf false .QR),(2,.Qf false .Ql),(3,.Qf false .Qy),(4,.Qf false .QF),(5,.Qf false .QC),(6,.Qf false .QS),(8,.Qf false .Q1g),(9,.Qf false .Q13),(10,.Q20 true false .Qm .Q1o),(11,.Q1a .Qo),(12,.Q1a .QQ)]⟩)]
def Q1i.H (cK87:K87.T) (cK188:Q2c.T) (cK183:QN.T) (l0:Q1i.l0T):Hints U:={ Γ:=(QN.N cK183 (Qp 89 (Q2c.sig.native (Q2c.W cK188)) (Qp 61 (K87.sig.native (K87.W cK87)) noΓ))),ro:=0,base:=14,Q1T:=jt_ [(7,[(44,vb_)])],Q29:=jt_ [(8,Q1i.JC8)],loop:=jt_ [(5,(Z6 (0,14) Q1i.L0 Q1i.X0 l0))]}
def Q1i.QW (cK87:K87.T) (cK188:Q2c.T) (cK183:QN.T) (a:(Int×Int×ByteArray×(List (Qk))×Int×Int×Unit)×(Q3×(Fm Q1)×(Fm Qd)×(Fm Q5)×(Fm Q6)×(Fm Q7)×(Fm Q8)×(Fm Qh)×(Fm Qw)×(Fm Qn)×(Nat×(Nat->List (Q9×List (Int))))×(Nat×(Nat->List Qa))×(Nat×(Nat->List Qj))×Unit)):Option (((Int×Int×ByteArray×(List (Qk))×Int×Int×Unit)×(Q3×(Fm Q1)×(Fm Qd)×(Fm Q5)×(Fm Q6)×(Fm Q7)×(Fm Q8)×(Fm Qh)×(Fm Qw)×(Fm Qn)×(Nat×(Nat->List (Q9×List (Int))))×(Nat×(Nat->List Qa))×(Nat×(Nat->List Qj))×Unit))⊕((Unit×(Q3×(Fm Q1)×(Fm Qd)×(Fm Q5)×(Fm Q6)×(Fm Q7)×(Fm Q8)×(Fm Qh)×(Fm Qw)×(Fm Qn)×(Nat×(Nat->List (Q9×List (Int))))×(Nat×(Nat->List Qa))×(Nat×(Nat->List Qj))×Unit)))):=
 (bif ilt a.1.2.2.2.2.2.1 a.1.2.2.2.2.1 then (bif inR a.1.2.2.2.2.2.1 (List.length a.1.2.2.2.1) then (Q0 ((bif ieq (List.getD a.1.2.2.2.1 (Int.toNat a.1.2.2.2.2.2.1) Qk.zero).Q4o a.1.1 then some (ine a.1.2.2.2.2.2.1 a.1.2.1,()) else some (false,()))) none λr0=>(Q0 ((bif r0.1 then (Q0 (cK188 (List.getD a.1.2.2.2.1 (Int.toNat a.1.2.2.2.2.2.1) Qk.zero).QO a.2.1 a.2.2.2.2.2.2.2.2.2.1 a.2.2.2.2.2.2.2.2.2.2.2.2.1) none λr1=>(Q0 (cK183 (List.getD a.1.2.2.2.1 (Int.toNat a.1.2.2.2.2.2.1) Qk.zero).QO (Q1Q.mk 2 (List.getD a.1.2.2.2.1 (Int.toNat a.1.2.2.2.2.2.1) Qk.zero).Q18 r1.1.1 0 0 a.1.2.2.1 z7_) r1.2.1.1 a.2.2.1 a.2.2.2.1 a.2.2.2.2.1 a.2.2.2.2.2.1 a.2.2.2.2.2.2.1 a.2.2.2.2.2.2.2.1 a.2.2.2.2.2.2.2.2.1 r1.2.1.2.1 a.2.2.2.2.2.2.2.2.2.2.1 a.2.2.2.2.2.2.2.2.2.2.2.1 r1.2.1.2.2.1 a.2.2.2.2.2.2.2.2.2.2.2.2.2.1) none λr2=>some (a.1,r2.2.1))) else some a)) none λr3=>some (.inl ((r3.1.1,(r3.1.2.1,(r3.1.2.2.1,(r3.1.2.2.2.1,(r3.1.2.2.2.2.1,(Q2 .i64 r3.1.2.2.2.2.2.1 1,())))))),r3.2)))) else none) else some (.inr ((),a.2)))
def Q1i.F0:Q1i.l0T:=λa=>Z8 (1000000+(a.1.2.2.1.size+a.1.2.2.2.1.length)) (Q1i.QW K87 Q2c QN) a
def Q1i.gen (cK87:K87.T) (cK188:Q2c.T) (cK183:QN.T) (l0:Q1i.l0T):Q1i.T:=λl i h0 g0 g1 g2 g3 g4 g5 g6 g8 g9 g10 g11 g12=>
 (bif inR l 8 then (Q0 (h0.4 (Int.toNat l)) none λr0=>(Q0 (cK87 i (g9.2 r0) g12) none λr1=>(bif !r1.1.2.2.1 then some ((false,()),((h0,(g0,(g1,(g2,(g3,(g4,(g5,(g6,(g8,((g9.1,QA g9.2 r0 r1.2.1.1),(g10,(g11,r1.2.1.2)))))))))))),())) else (Q0 (l0 ((l,r1.1.1,r1.1.2.1,h0.Q62,ofN (List.length h0.Q62),(0:Int),()),h0,g0,g1,g2,g3,g4,g5,g6,g8,(g9.1,QA g9.2 r0 r1.2.1.1),g10,g11,r1.2.1.2)) none λr2=>some ((true,()),(r2.2,())))))) else none)
def Q1i:Q1i.T:=Q1i.gen K87 Q2c QN Q1i.F0
theorem Q1i.Q1O (cK87:K87.T) (cK188:Q2c.T) (cK183:QN.T) (l0:Q1i.l0T) (a:Q1i.L0.T):run Tryz.prog (Q1i.H cK87 cK188 cK183 l0) 6 (Option (Q1i.L0.T⊕ExT Q1i.X0)) none Q1i.B0 (Q1i.L0.enc a) (Zc (0,14) Q1i.L0 Q1i.X0)=Q1i.QW cK87 cK188 cK183 a:=by kernel_rfl
abbrev Q1i.h:=Q1i.H K87 Q2c QN Q1i.F0
theorem Q1i.Q1D:LO_ Q1i.h Q1i.B0 (Z6 (0,14) Q1i.L0 Q1i.X0 Q1i.F0):=lk_ (hn_ (Z0 (Z0 (Z0 Z2 K87.ok) Q2c.ok) QN.ok)) (Q1i.Q1O K87 Q2c QN Q1i.F0)
theorem Q1i.eq (cK87:K87.T) (cK188:Q2c.T) (cK183:QN.T) (l0:Q1i.l0T):EqA Q1i.sig (Q1i.H cK87 cK188 cK183 l0) Tryz.f60 6 (Q1i.W (Q1i.gen cK87 cK188 cK183 l0)):=by intro a x;kernel_rfl
theorem Q1i.loops:Z3 Q1i.C= [(.loop Q1i.B0)]:=by kernel_rfl
theorem Q1i.ok:NK_ 60 Q1i.sig (Q1i.W Q1i):=ok_ Tryz.func60 (Q1i.eq K87 Q2c QN Q1i.F0) (hl_ (Z0 (Z0 (Z0 Z2 K87.ok) Q2c.ok) QN.ok) (Z4 (by kernel_rfl) Q1i.Q1D Z5)) Q1i.loops
def Qq.sig:Sig U:=⟨[.ptr],[.obj .Qi,Q4Y,Q54,Q4s,Q47,Q4u,Q4z,Q4y,Q5z,Q65,.fam 10 (.map true false .Qm .Q1o),.fam 11 (.rows .Qo),.fam 12 (.rows .QQ)],0,[],true,[]⟩
abbrev Qq.T:Type:=(Q3)->(Fm Q1)->(Fm Qd)->(Fm Q5)->(Fm Q6)->(Fm Q7)->(Fm Q8)->(Fm Qh)->(Fm Qw)->(Fm Qn)->(Nat×(Nat->List (Q9×List (Int))))->(Nat×(Nat->List Qa))->(Nat×(Nat->List Qj))->Option (Unit×(Q3×(Fm Q1)×(Fm Qd)×(Fm Q5)×(Fm Q6)×(Fm Q7)×(Fm Q8)×(Fm Qh)×(Fm Qw)×(Fm Qn)×(Nat×(Nat->List (Q9×List (Int))))×(Nat×(Nat->List Qa))×(Nat×(Nat->List Qj))×Unit)×Unit)
def Qq.W (f:Qq.T):Qq.sig.F:=λa x=>f x.1 x.2.1 x.2.2.1 x.2.2.2.1 x.2.2.2.2.1 x.2.2.2.2.2.1 x.2.2.2.2.2.2.1 x.2.2.2.2.2.2.2.1 x.2.2.2.2.2.2.2.2.1 x.2.2.2.2.2.2.2.2.2.1 x.2.2.2.2.2.2.2.2.2.2.1 x.2.2.2.2.2.2.2.2.2.2.2.1 x.2.2.2.2.2.2.2.2.2.2.2.2.1
def Qq.L0:Shape U:=⟨38,14,[(0,.ptr 13 0 0),(10,vi_),(11,vi_)],[(13,.obj .Qi),(0,.Qf false .Q4),(1,.Qf false .QR),(2,.Qf false .Ql),(3,.Qf false .Qy),(4,.Qf false .QF),(5,.Qf false .QC),(6,.Qf false .QS),(8,.Qf false .Q1g),(9,.Qf false .Q13),(10,.Q20 true false .Qm .Q1o),(11,.Q1a .Qo),(12,.Q1a .QQ)]⟩
def Qq.X0:Qt U:= [(.exit 0,⟨38,14,[(0,.ptr 13 0 0)],[(13,.obj .Qi),(0,.Qf false .Q4),(1,.Qf false .QR),(2,.Qf false .Ql),(3,.Qf false .Qy),(4,.Qf false .QF),(5,.Qf false .QC),(6,.Qf false .QS),(8,.Qf false .Q1g),(9,.Qf false .Q13),(10,.Q20 true false .Qm .Q1o),(11,.Q1a .Qo),(12,.Q1a .QQ)]⟩)]
abbrev Qq.l0T:Type:=((Int×Int×Unit)×(Q3×(Fm Q1)×(Fm Qd)×(Fm Q5)×(Fm Q6)×(Fm Q7)×(Fm Q8)×(Fm Qh)×(Fm Qw)×(Fm Qn)×(Nat×(Nat->List (Q9×List (Int))))×(Nat×(Nat->List Qa))×(Nat×(Nat->List Qj))×Unit))->Option ((Unit×(Q3×(Fm Q1)×(Fm Qd)×(Fm Q5)×(Fm Q6)×(Fm Q7)×(Fm Q8)×(Fm Qh)×(Fm Qw)×(Fm Qn)×(Nat×(Nat->List (Q9×List (Int))))×(Nat×(Nat->List Qa))×(Nat×(Nat->List Qj))×Unit)))
def Qq.L1:Shape U:=⟨38,14,[(0,.ptr 13 0 0),(18,vi_)],[(13,.obj .Qi),(0,.Qf false .Q4),(1,.Qf false .QR),(2,.Qf false .Ql),(3,.Qf false .Qy),(4,.Qf false .QF),(5,.Qf false .QC),(6,.Qf false .QS),(8,.Qf false .Q1g),(9,.Qf false .Q13),(10,.Q20 true false .Qm .Q1o),(11,.Q1a .Qo),(12,.Q1a .QQ)]⟩
def Qq.X1:Qt U:= [(.exit 2,⟨38,14,[],[(13,.obj .Qi),(0,.Qf false .Q4),(1,.Qf false .QR),(2,.Qf false .Ql),(3,.Qf false .Qy),(4,.Qf false .QF),(5,.Qf false .QC),(6,.Qf false .QS),(8,.Qf false .Q1g),(9,.Qf false .Q13),(10,.Q20 true false .Qm .Q1o),(11,.Q1a .Qo),(12,.Q1a .QQ)]⟩)]
abbrev Qq.l1T:Type:=((Int×Unit)×(Q3×(Fm Q1)×(Fm Qd)×(Fm Q5)×(Fm Q6)×(Fm Q7)×(Fm Q8)×(Fm Qh)×(Fm Qw)×(Fm Qn)×(Nat×(Nat->List (Q9×List (Int))))×(Nat×(Nat->List Qa))×(Nat×(Nat->List Qj))×Unit))->Option ((Unit×(Q3×(Fm Q1)×(Fm Qd)×(Fm Q5)×(Fm Q6)×(Fm Q7)×(Fm Q8)×(Fm Qh)×(Fm Qw)×(Fm Qn)×(Nat×(Nat->List (Q9×List (Int))))×(Nat×(Nat->List Qa))×(Nat×(Nat->List Qj))×Unit)))
def Qq.L2:Shape U:=⟨38,14,[(0,.ptr 13 0 0),(18,vi_),(20,vi_)],[(13,.obj .Qi),(0,.Qf false .Q4),(1,.Qf false .QR),(2,.Qf false .Ql),(3,.Qf false .Qy),(4,.Qf false .QF),(5,.Qf false .QC),(6,.Qf false .QS),(8,.Qf false .Q1g),(9,.Qf false .Q13),(10,.Q20 true false .Qm .Q1o),(11,.Q1a .Qo),(12,.Q1a .QQ)]⟩
def Qq.X2:Qt U:= [(.exit 4,⟨38,14,[(0,.ptr 13 0 0),(18,vi_)],[(13,.obj .Qi),(0,.Qf false .Q4),(1,.Qf false .QR),(2,.Qf false .Ql),(3,.Qf false .Qy),(4,.Qf false .QF),(5,.Qf false .QC),(6,.Qf false .QS),(8,.Qf false .Q1g),(9,.Qf false .Q13),(10,.Q20 true false .Qm .Q1o),(11,.Q1a .Qo),(12,.Q1a .QQ)]⟩)]
abbrev Qq.l2T:Type:=((Int×Int×Unit)×(Q3×(Fm Q1)×(Fm Qd)×(Fm Q5)×(Fm Q6)×(Fm Q7)×(Fm Q8)×(Fm Qh)×(Fm Qw)×(Fm Qn)×(Nat×(Nat->List (Q9×List (Int))))×(Nat×(Nat->List Qa))×(Nat×(Nat->List Qj))×Unit))->Option (((Int×Unit)×(Q3×(Fm Q1)×(Fm Qd)×(Fm Q5)×(Fm Q6)×(Fm Q7)×(Fm Q8)×(Fm Qh)×(Fm Qw)×(Fm Qn)×(Nat×(Nat->List (Q9×List (Int))))×(Nat×(Nat->List Qa))×(Nat×(Nat->List Qj))×Unit)))
def Qq.L3:Shape U:=⟨38,14,[(0,.ptr 13 0 0),(3,vi_),(18,vi_),(20,vi_),(29,vi_),(30,vi_)],[(13,.obj .Qi),(0,.Qf false .Q4),(1,.Qf false .QR),(2,.Qf false .Ql),(3,.Qf false .Qy),(4,.Qf false .QF),(5,.Qf false .QC),(6,.Qf false .QS),(8,.Qf false .Q1g),(9,.Qf false .Q13),(10,.Q20 true false .Qm .Q1o),(11,.Q1a .Qo),(12,.Q1a .QQ)]⟩
def Qq.X3:Qt U:= [(.exit 6,⟨38,14,[(0,.ptr 13 0 0),(18,vi_),(20,vi_)],[(13,.obj .Qi),(0,.Qf false .Q4),(1,.Qf false .QR),(2,.Qf false .Ql),(3,.Qf false .Qy),(4,.Qf false .QF),(5,.Qf false .QC),(6,.Qf false .QS),(8,.Qf false .Q1g),(9,.Qf false .Q13),(10,.Q20 true false .Qm .Q1o),(11,.Q1a .Qo),(12,.Q1a .QQ)]⟩)]
abbrev Qq.l3T:Type:=((Int×Int×Int×Int×Int×Unit)×(Q3×(Fm Q1)×(Fm Qd)×(Fm Q5)×(Fm Q6)×(Fm Q7)×(Fm Q8)×(Fm Qh)×(Fm Qw)×(Fm Qn)×(Nat×(Nat->List (Q9×List (Int))))×(Nat×(Nat->List Qa))×(Nat×(Nat->List Qj))×Unit))->Option (((Int×Int×Unit)×(Q3×(Fm Q1)×(Fm Qd)×(Fm Q5)×(Fm Q6)×(Fm Q7)×(Fm Q8)×(Fm Qh)×(Fm Qw)×(Fm Qn)×(Nat×(Nat->List (Q9×List (Int))))×(Nat×(Nat->List Qa))×(Nat×(Nat->List Qj))×Unit)))
def Qq.C:Code:=match Tryz.f42.body with|some c=>c|none=>.skip
def Qq.B0:Code:=match (Z3 Qq.C).getD 0 .skip with| .loop b=>b| .scope b=>b|_=>.skip
def Qq.B1:Code:=match (Z3 Qq.C).getD 1 .skip with| .loop b=>b| .scope b=>b|_=>.skip
def Qq.B2:Code:=match (Z3 Qq.C).getD 2 .skip with| .loop b=>b| .scope b=>b|_=>.skip
def Qq.B3:Code:=match (Z3 Qq.C).getD 3 .skip with| .loop b=>b| .scope b=>b|_=>.skip
def Qq.H (cK185:Q1V.T) (cK189:Q1R.T) (cK84:K84.T) (cK182:Q1i.T) (l0:Qq.l0T) (l1:Qq.l1T) (l2:Qq.l2T) (l3:Qq.l3T):Hints U:={ Γ:=(Qp 60 (Q1i.sig.native (Q1i.W cK182)) (Qp 66 (K84.sig.native (K84.W cK84)) (Qp 37 (Q1R.sig.native (Q1R.W cK189)) (Qp 41 (Q1V.sig.native (Q1V.W cK185)) noΓ)))),ro:=0,base:=14,loop:=jt_ [(2,(Z6 (0,14) Qq.L0 Qq.X0 l0)),(7,(Z6 (0,14) Qq.L1 Qq.X1 l1)),(9,(Z6 (0,14) Qq.L2 Qq.X2 l2)),(12,(Z6 (0,14) Qq.L3 Qq.X3 l3))]}
def Qq.Q7D (cK185:Q1V.T) (cK189:Q1R.T) (cK84:K84.T) (cK182:Q1i.T) (a:(Int×Int×Int×Int×Int×Unit)×(Q3×(Fm Q1)×(Fm Qd)×(Fm Q5)×(Fm Q6)×(Fm Q7)×(Fm Q8)×(Fm Qh)×(Fm Qw)×(Fm Qn)×(Nat×(Nat->List (Q9×List (Int))))×(Nat×(Nat->List Qa))×(Nat×(Nat->List Qj))×Unit)):Option (((Int×Int×Int×Int×Int×Unit)×(Q3×(Fm Q1)×(Fm Qd)×(Fm Q5)×(Fm Q6)×(Fm Q7)×(Fm Q8)×(Fm Qh)×(Fm Qw)×(Fm Qn)×(Nat×(Nat->List (Q9×List (Int))))×(Nat×(Nat->List Qa))×(Nat×(Nat->List Qj))×Unit))⊕(((Int×Int×Unit)×(Q3×(Fm Q1)×(Fm Qd)×(Fm Q5)×(Fm Q6)×(Fm Q7)×(Fm Q8)×(Fm Qh)×(Fm Qw)×(Fm Qn)×(Nat×(Nat->List (Q9×List (Int))))×(Nat×(Nat->List Qa))×(Nat×(Nat->List Qj))×Unit)))):=
 (bif ilt a.1.2.2.2.2.1 a.1.2.2.2.1 then (Q0 (cK182 a.1.1 0 a.2.1 a.2.2.1 a.2.2.2.1 a.2.2.2.2.1 a.2.2.2.2.2.1 a.2.2.2.2.2.2.1 a.2.2.2.2.2.2.2.1 a.2.2.2.2.2.2.2.2.1 a.2.2.2.2.2.2.2.2.2.1 a.2.2.2.2.2.2.2.2.2.2.1 a.2.2.2.2.2.2.2.2.2.2.2.1 a.2.2.2.2.2.2.2.2.2.2.2.2.1 a.2.2.2.2.2.2.2.2.2.2.2.2.2.1) none λr0=>some (.inl ((a.1.1,(a.1.2.1,(a.1.2.2.1,(a.1.2.2.2.1,(Q2 .i64 a.1.2.2.2.2.1 1,()))))),r0.2.1))) else some (.inr ((a.1.2.1,(a.1.2.2.1,())),a.2)))
def Qq.F3:Qq.l3T:=λa=>Z8 (1000000) (Qq.Q7D Q1V Q1R K84 Q1i) a
def Qq.Q5x (cK185:Q1V.T) (cK189:Q1R.T) (cK84:K84.T) (cK182:Q1i.T) (l3:Qq.l3T) (a:(Int×Int×Unit)×(Q3×(Fm Q1)×(Fm Qd)×(Fm Q5)×(Fm Q6)×(Fm Q7)×(Fm Q8)×(Fm Qh)×(Fm Qw)×(Fm Qn)×(Nat×(Nat->List (Q9×List (Int))))×(Nat×(Nat->List Qa))×(Nat×(Nat->List Qj))×Unit)):Option (((Int×Int×Unit)×(Q3×(Fm Q1)×(Fm Qd)×(Fm Q5)×(Fm Q6)×(Fm Q7)×(Fm Q8)×(Fm Qh)×(Fm Qw)×(Fm Qn)×(Nat×(Nat->List (Q9×List (Int))))×(Nat×(Nat->List Qa))×(Nat×(Nat->List Qj))×Unit))⊕(((Int×Unit)×(Q3×(Fm Q1)×(Fm Qd)×(Fm Q5)×(Fm Q6)×(Fm Q7)×(Fm Q8)×(Fm Qh)×(Fm Qw)×(Fm Qn)×(Nat×(Nat->List (Q9×List (Int))))×(Nat×(Nat->List Qa))×(Nat×(Nat->List Qj))×Unit)))):=
 (bif ilt a.1.2.1 8 then (bif inR a.1.2.1 8 then (Q0 (a.2.1.4 (Int.toNat a.1.2.1)) none λr0=>(Q0 (cK84 (a.2.2.2.2.2.2.2.2.2.2.1.2 r0) a.2.2.2.2.2.2.2.2.2.2.2.2.2.1) none λr1=>(Q0 (l3 ((a.1.2.1,a.1.1,a.1.2.1,r1.1.1,(0:Int),()),a.2)) none λr2=>some (.inl ((r2.1.1,(Q2 .i64 r2.1.2.1 1,())),r2.2))))) else none) else some (.inr ((a.1.1,()),a.2)))
def Qq.F2:Qq.l2T:=λa=>Z8 (1000000) (Qq.Q5x Q1V Q1R K84 Q1i Qq.F3) a
def Qq.Q2n (cK185:Q1V.T) (cK189:Q1R.T) (cK84:K84.T) (cK182:Q1i.T) (l2:Qq.l2T) (l3:Qq.l3T) (a:(Int×Unit)×(Q3×(Fm Q1)×(Fm Qd)×(Fm Q5)×(Fm Q6)×(Fm Q7)×(Fm Q8)×(Fm Qh)×(Fm Qw)×(Fm Qn)×(Nat×(Nat->List (Q9×List (Int))))×(Nat×(Nat->List Qa))×(Nat×(Nat->List Qj))×Unit)):Option (((Int×Unit)×(Q3×(Fm Q1)×(Fm Qd)×(Fm Q5)×(Fm Q6)×(Fm Q7)×(Fm Q8)×(Fm Qh)×(Fm Qw)×(Fm Qn)×(Nat×(Nat->List (Q9×List (Int))))×(Nat×(Nat->List Qa))×(Nat×(Nat->List Qj))×Unit))⊕((Unit×(Q3×(Fm Q1)×(Fm Qd)×(Fm Q5)×(Fm Q6)×(Fm Q7)×(Fm Q8)×(Fm Qh)×(Fm Qw)×(Fm Qn)×(Nat×(Nat->List (Q9×List (Int))))×(Nat×(Nat->List Qa))×(Nat×(Nat->List Qj))×Unit)))):=
 (bif ilt a.1.1 4 then (Q0 (l2 ((a.1.1,(0:Int),()),a.2)) none λr0=>some (.inl ((Q2 .i64 r0.1.1 1,()),r0.2))) else some (.inr ((),a.2)))
def Qq.F1:Qq.l1T:=λa=>Z8 (1000000) (Qq.Q2n Q1V Q1R K84 Q1i Qq.F2 Qq.F3) a
def Qq.QW (cK185:Q1V.T) (cK189:Q1R.T) (cK84:K84.T) (cK182:Q1i.T) (a:(Int×Int×Unit)×(Q3×(Fm Q1)×(Fm Qd)×(Fm Q5)×(Fm Q6)×(Fm Q7)×(Fm Q8)×(Fm Qh)×(Fm Qw)×(Fm Qn)×(Nat×(Nat->List (Q9×List (Int))))×(Nat×(Nat->List Qa))×(Nat×(Nat->List Qj))×Unit)):Option (((Int×Int×Unit)×(Q3×(Fm Q1)×(Fm Qd)×(Fm Q5)×(Fm Q6)×(Fm Q7)×(Fm Q8)×(Fm Qh)×(Fm Qw)×(Fm Qn)×(Nat×(Nat->List (Q9×List (Int))))×(Nat×(Nat->List Qa))×(Nat×(Nat->List Qj))×Unit))⊕((Unit×(Q3×(Fm Q1)×(Fm Qd)×(Fm Q5)×(Fm Q6)×(Fm Q7)×(Fm Q8)×(Fm Qh)×(Fm Qw)×(Fm Qn)×(Nat×(Nat->List (Q9×List (Int))))×(Nat×(Nat->List Qa))×(Nat×(Nat->List Qj))×Unit)))):=
 (bif ilt a.1.2.1 a.1.1 then (Q0 (cK189 a.1.2.1 a.2.1 a.2.2.1 a.2.2.2.1 a.2.2.2.2.1 a.2.2.2.2.2.1 a.2.2.2.2.2.2.1 a.2.2.2.2.2.2.2.1 a.2.2.2.2.2.2.2.2.1 a.2.2.2.2.2.2.2.2.2.1 a.2.2.2.2.2.2.2.2.2.2.1 a.2.2.2.2.2.2.2.2.2.2.2.1 a.2.2.2.2.2.2.2.2.2.2.2.2.1 a.2.2.2.2.2.2.2.2.2.2.2.2.2.1) none λr0=>some (.inl ((a.1.1,(Q2 .i64 a.1.2.1 1,())),r0.2.1))) else some (.inr ((),a.2)))
def Qq.F0:Qq.l0T:=λa=>Z8 (1000000) (Qq.QW Q1V Q1R K84 Q1i) a
def Qq.gen (cK185:Q1V.T) (cK189:Q1R.T) (cK84:K84.T) (cK182:Q1i.T) (l0:Qq.l0T) (l1:Qq.l1T) (l2:Qq.l2T) (l3:Qq.l3T):Qq.T:=λh0 g0 g1 g2 g3 g4 g5 g6 g8 g9 g10 g11 g12=>
 (Q0 (cK185 125000000 h0) none λr0=>(Q0 (l0 ((ofN r0.2.1.1.Q1K.2,(0:Int),()),r0.2.1.1,g0,g1,g2,g3,g4,g5,g6,g8,g9,g10,g11,g12,())) none λr1=>(Q0 (l1 (((0:Int),()),r1.2)) none λr2=>some ((),(r2.2,())))))
def Qq:Qq.T:=Qq.gen Q1V Q1R K84 Q1i Qq.F0 Qq.F1 Qq.F2 Qq.F3
theorem Qq.seq3 (cK185:Q1V.T) (cK189:Q1R.T) (cK84:K84.T) (cK182:Q1i.T) (l0:Qq.l0T) (l1:Qq.l1T) (l2:Qq.l2T) (l3:Qq.l3T) (a:Qq.L3.T):run Tryz.prog (Qq.H cK185 cK189 cK84 cK182 l0 l1 l2 l3) 6 (Option (Qq.L3.T⊕ExT Qq.X3)) none Qq.B3 (Qq.L3.enc a) (Zc (0,14) Qq.L3 Qq.X3)=Qq.Q7D cK185 cK189 cK84 cK182 a:=by kernel_rfl
abbrev Qq.h:=Qq.H Q1V Q1R K84 Q1i Qq.F0 Qq.F1 Qq.F2 Qq.F3
theorem Qq.Q7S:LO_ Qq.h Qq.B3 (Z6 (0,14) Qq.L3 Qq.X3 Qq.F3):=lk_ (hn_ (Z0 (Z0 (Z0 (Z0 Z2 Q1V.ok) Q1R.ok) K84.ok) Q1i.ok)) (Qq.seq3 Q1V Q1R K84 Q1i Qq.F0 Qq.F1 Qq.F2 Qq.F3)
theorem Qq.Q7m (cK185:Q1V.T) (cK189:Q1R.T) (cK84:K84.T) (cK182:Q1i.T) (l0:Qq.l0T) (l1:Qq.l1T) (l2:Qq.l2T) (l3:Qq.l3T) (a:Qq.L2.T):run Tryz.prog (Qq.H cK185 cK189 cK84 cK182 l0 l1 l2 l3) 6 (Option (Qq.L2.T⊕ExT Qq.X2)) none Qq.B2 (Qq.L2.enc a) (Zc (0,14) Qq.L2 Qq.X2)=Qq.Q5x cK185 cK189 cK84 cK182 l3 a:=by kernel_rfl
theorem Qq.Q70:Z3 Qq.B2= [(.loop Qq.B3)]:=by kernel_rfl
theorem Qq.Q6I:ZA U Tryz.prog Qq.h.ro Qq.h.base Qq.B2 (Z6 (0,14) Qq.L2 Qq.X2 Qq.F2):=
 Z1b (Hn:=Qq.h) Q3X Q2t (ZY (hq (Z0 (Z0 (Z0 (Z0 Z2 Q1V.ok) Q1R.ok) K84.ok) Q1i.ok) (Z4 (by kernel_rfl) Qq.Q7S Z5) (λ_=>rfl) (λ_=>rfl)) 6) (λb h=>by rw [Qq.Q70] at h;exact h) (λ_=>rfl) (Qq.Q7m Q1V Q1R K84 Q1i Qq.F0 Qq.F1 Qq.F2 Qq.F3)
theorem Qq.seq1 (cK185:Q1V.T) (cK189:Q1R.T) (cK84:K84.T) (cK182:Q1i.T) (l0:Qq.l0T) (l1:Qq.l1T) (l2:Qq.l2T) (l3:Qq.l3T) (a:Qq.L1.T):run Tryz.prog (Qq.H cK185 cK189 cK84 cK182 l0 l1 l2 l3) 6 (Option (Qq.L1.T⊕ExT Qq.X1)) none Qq.B1 (Qq.L1.enc a) (Zc (0,14) Qq.L1 Qq.X1)=Qq.Q2n cK185 cK189 cK84 cK182 l2 l3 a:=by kernel_rfl
theorem Qq.Q68:Z3 Qq.B1= [(.loop Qq.B2),(.loop Qq.B3)]:=by kernel_rfl
theorem Qq.Q3z:ZA U Tryz.prog Qq.h.ro Qq.h.base Qq.B1 (Z6 (0,14) Qq.L1 Qq.X1 Qq.F1):=
 Z1b (Hn:=Qq.h) Q3X Q2t (ZY (hq (Z0 (Z0 (Z0 (Z0 Z2 Q1V.ok) Q1R.ok) K84.ok) Q1i.ok) (Z4 (by kernel_rfl) Qq.Q6I (Z4 (by kernel_rfl) Qq.Q7S Z5)) (λ_=>rfl) (λ_=>rfl)) 6) (λb h=>by rw [Qq.Q68] at h;exact h) (λ_=>rfl) (Qq.seq1 Q1V Q1R K84 Q1i Qq.F0 Qq.F1 Qq.F2 Qq.F3)
theorem Qq.Q1O (cK185:Q1V.T) (cK189:Q1R.T) (cK84:K84.T) (cK182:Q1i.T) (l0:Qq.l0T) (l1:Qq.l1T) (l2:Qq.l2T) (l3:Qq.l3T) (a:Qq.L0.T):run Tryz.prog (Qq.H cK185 cK189 cK84 cK182 l0 l1 l2 l3) 6 (Option (Qq.L0.T⊕ExT Qq.X0)) none Qq.B0 (Qq.L0.enc a) (Zc (0,14) Qq.L0 Qq.X0)=Qq.QW cK185 cK189 cK84 cK182 a:=by kernel_rfl
theorem Qq.Q1D:LO_ Qq.h Qq.B0 (Z6 (0,14) Qq.L0 Qq.X0 Qq.F0):=lk_ (hn_ (Z0 (Z0 (Z0 (Z0 Z2 Q1V.ok) Q1R.ok) K84.ok) Q1i.ok)) (Qq.Q1O Q1V Q1R K84 Q1i Qq.F0 Qq.F1 Qq.F2 Qq.F3)
theorem Qq.eq (cK185:Q1V.T) (cK189:Q1R.T) (cK84:K84.T) (cK182:Q1i.T) (l0:Qq.l0T) (l1:Qq.l1T) (l2:Qq.l2T) (l3:Qq.l3T):EqA Qq.sig (Qq.H cK185 cK189 cK84 cK182 l0 l1 l2 l3) Tryz.f42 6 (Qq.W (Qq.gen cK185 cK189 cK84 cK182 l0 l1 l2 l3)):=by intro a x;kernel_rfl
theorem Qq.loops:Z3 Qq.C= [(.loop Qq.B0),(.loop Qq.B1),(.loop Qq.B2),(.loop Qq.B3)]:=by kernel_rfl
theorem Qq.ok:NK_ 42 Qq.sig (Qq.W Qq):=ok_ Tryz.func42 (Qq.eq Q1V Q1R K84 Q1i Qq.F0 Qq.F1 Qq.F2 Qq.F3) (hl_ (Z0 (Z0 (Z0 (Z0 Z2 Q1V.ok) Q1R.ok) K84.ok) Q1i.ok) (Z4 (by kernel_rfl) Qq.Q1D (Z4 (by kernel_rfl) Qq.Q3z (Z4 (by kernel_rfl) Qq.Q6I (Z4 (by kernel_rfl) Qq.Q7S Z5))))) Qq.loops
def Q14.sig:Sig U:=⟨[.ptr,.data .Q4d],[.obj .Qi,Q4Y,Q54,Q4s,Q47,Q4u,Q4z,Q4y,Q5z,Q65,.fam 10 (.map true false .Qm .Q1o),.fam 11 (.rows .Qo),.fam 12 (.rows .QQ)],0,[.int .i64],false,[]⟩
abbrev Q14.T:Type:=(Q2D)->(Q3)->(Fm Q1)->(Fm Qd)->(Fm Q5)->(Fm Q6)->(Fm Q7)->(Fm Q8)->(Fm Qh)->(Fm Qw)->(Fm Qn)->(Nat×(Nat->List (Q9×List (Int))))->(Nat×(Nat->List Qa))->(Nat×(Nat->List Qj))->Option ((Int×Unit)×(Q3×(Fm Q1)×(Fm Qd)×(Fm Q5)×(Fm Q6)×(Fm Q7)×(Fm Q8)×(Fm Qh)×(Fm Qw)×(Fm Qn)×(Nat×(Nat->List (Q9×List (Int))))×(Nat×(Nat->List Qa))×(Nat×(Nat->List Qj))×Unit)×Unit)
def Q14.W (f:Q14.T):Q14.sig.F:=λa x=>f a.2.1 x.1 x.2.1 x.2.2.1 x.2.2.2.1 x.2.2.2.2.1 x.2.2.2.2.2.1 x.2.2.2.2.2.2.1 x.2.2.2.2.2.2.2.1 x.2.2.2.2.2.2.2.2.1 x.2.2.2.2.2.2.2.2.2.1 x.2.2.2.2.2.2.2.2.2.2.1 x.2.2.2.2.2.2.2.2.2.2.2.1 x.2.2.2.2.2.2.2.2.2.2.2.2.1
def Q14.L0:Shape U:=⟨74,14,[(0,.ptr 13 0 0),(35,vi_),(36,vi_)],[(13,.obj .Qi),(0,.Qf false .Q4),(1,.Qf false .QR),(2,.Qf false .Ql),(3,.Qf false .Qy),(4,.Qf false .QF),(5,.Qf false .QC),(6,.Qf false .QS),(8,.Qf false .Q1g),(9,.Qf false .Q13),(10,.Q20 true false .Qm .Q1o),(11,.Q1a .Qo),(12,.Q1a .QQ)]⟩
def Q14.X0:Qt U:= [(.exit 6,⟨74,14,[],[(13,.obj .Qi),(0,.Qf false .Q4),(1,.Qf false .QR),(2,.Qf false .Ql),(3,.Qf false .Qy),(4,.Qf false .QF),(5,.Qf false .QC),(6,.Qf false .QS),(8,.Qf false .Q1g),(9,.Qf false .Q13),(10,.Q20 true false .Qm .Q1o),(11,.Q1a .Qo),(12,.Q1a .QQ)]⟩)]
abbrev Q14.l0T:Type:=((Int×Int×Unit)×(Q3×(Fm Q1)×(Fm Qd)×(Fm Q5)×(Fm Q6)×(Fm Q7)×(Fm Q8)×(Fm Qh)×(Fm Qw)×(Fm Qn)×(Nat×(Nat->List (Q9×List (Int))))×(Nat×(Nat->List Qa))×(Nat×(Nat->List Qj))×Unit))->Option ((Unit×(Q3×(Fm Q1)×(Fm Qd)×(Fm Q5)×(Fm Q6)×(Fm Q7)×(Fm Q8)×(Fm Qh)×(Fm Qw)×(Fm Qn)×(Nat×(Nat->List (Q9×List (Int))))×(Nat×(Nat->List Qa))×(Nat×(Nat->List Qj))×Unit)))
def Q14.L1:Shape U:=⟨74,14,[(0,.ptr 13 0 0),(68,vi_),(69,vi_)],[(13,.obj .Qi),(0,.Qf false .Q4),(1,.Qf false .QR),(2,.Qf false .Ql),(3,.Qf false .Qy),(4,.Qf false .QF),(5,.Qf false .QC),(6,.Qf false .QS),(8,.Qf false .Q1g),(9,.Qf false .Q13),(10,.Q20 true false .Qm .Q1o),(11,.Q1a .Qo),(12,.Q1a .QQ)]⟩
def Q14.X1:Qt U:= [(.exit 8,⟨74,14,[],[(13,.obj .Qi),(0,.Qf false .Q4),(1,.Qf false .QR),(2,.Qf false .Ql),(3,.Qf false .Qy),(4,.Qf false .QF),(5,.Qf false .QC),(6,.Qf false .QS),(8,.Qf false .Q1g),(9,.Qf false .Q13),(10,.Q20 true false .Qm .Q1o),(11,.Q1a .Qo),(12,.Q1a .QQ)]⟩)]
abbrev Q14.l1T:Type:=((Int×Int×Unit)×(Q3×(Fm Q1)×(Fm Qd)×(Fm Q5)×(Fm Q6)×(Fm Q7)×(Fm Q8)×(Fm Qh)×(Fm Qw)×(Fm Qn)×(Nat×(Nat->List (Q9×List (Int))))×(Nat×(Nat->List Qa))×(Nat×(Nat->List Qj))×Unit))->Option ((Unit×(Q3×(Fm Q1)×(Fm Qd)×(Fm Q5)×(Fm Q6)×(Fm Q7)×(Fm Q8)×(Fm Qh)×(Fm Qw)×(Fm Qn)×(Nat×(Nat->List (Q9×List (Int))))×(Nat×(Nat->List Qa))×(Nat×(Nat->List Qj))×Unit)))
def Q14.C:Code:=match Tryz.f18.body with|some c=>c|none=>.skip
def Q14.B0:Code:=match (Z3 Q14.C).getD 0 .skip with| .loop b=>b| .scope b=>b|_=>.skip
def Q14.B1:Code:=match (Z3 Q14.C).getD 1 .skip with| .loop b=>b| .scope b=>b|_=>.skip
def Q14.Q7c:Qt U:= [(.normal,⟨74,15,[(0,.ptr 13 0 0),(3,.ptr 14 0 0),(7,vi_),(17,vb_)],[(13,.obj .Qi),(14,.obj .Q4d),(0,.Qf false .Q4),(1,.Qf false .QR),(2,.Qf false .Ql),(3,.Qf false .Qy),(4,.Qf false .QF),(5,.Qf false .QC),(6,.Qf false .QS),(8,.Qf false .Q1g),(9,.Qf false .Q13),(10,.Q20 true false .Qm .Q1o),(11,.Q1a .Qo),(12,.Q1a .QQ)]⟩)]
def Q14.JC4:Qt U:= [(.normal,⟨74,15,[(0,.ptr 13 0 0),(3,.ptr 14 0 0),(7,vi_),(10,vb_)],[(13,.obj .Qi),(14,.obj .Q4d),(0,.Qf false .Q4),(1,.Qf false .QR),(2,.Qf false .Ql),(3,.Qf false .Qy),(4,.Qf false .QF),(5,.Qf false .QC),(6,.Qf false .QS),(8,.Qf false .Q1g),(9,.Qf false .Q13),(10,.Q20 true false .Qm .Q1o),(11,.Q1a .Qo),(12,.Q1a .QQ)]⟩)]
def Q14.H (cK189:Q1R.T) (cK184:Q2h.T) (cK185:Q1V.T) (cK186:Qq.T) (l0:Q14.l0T) (l1:Q14.l1T):Hints U:={ Γ:=(Qp 42 (Qq.sig.native (Qq.W cK186)) (Qp 41 (Q1V.sig.native (Q1V.W cK185)) (Q2h.N cK184 (Qp 37 (Q1R.sig.native (Q1R.W cK189)) noΓ)))),ro:=0,base:=14,Q1T:=jt_ [(28,[(57,vb_)])],Q29:=jt_ [(4,Q14.JC4),(10,Q14.Q7c)],loop:=jt_ [(19,(Z6 (0,14) Q14.L0 Q14.X0 l0)),(34,(Z6 (0,14) Q14.L1 Q14.X1 l1))]}
def Q14.Q2n (cK189:Q1R.T) (cK184:Q2h.T) (cK185:Q1V.T) (cK186:Qq.T) (a:(Int×Int×Unit)×(Q3×(Fm Q1)×(Fm Qd)×(Fm Q5)×(Fm Q6)×(Fm Q7)×(Fm Q8)×(Fm Qh)×(Fm Qw)×(Fm Qn)×(Nat×(Nat->List (Q9×List (Int))))×(Nat×(Nat->List Qa))×(Nat×(Nat->List Qj))×Unit)):Option (((Int×Int×Unit)×(Q3×(Fm Q1)×(Fm Qd)×(Fm Q5)×(Fm Q6)×(Fm Q7)×(Fm Q8)×(Fm Qh)×(Fm Qw)×(Fm Qn)×(Nat×(Nat->List (Q9×List (Int))))×(Nat×(Nat->List Qa))×(Nat×(Nat->List Qj))×Unit))⊕((Unit×(Q3×(Fm Q1)×(Fm Qd)×(Fm Q5)×(Fm Q6)×(Fm Q7)×(Fm Q8)×(Fm Qh)×(Fm Qw)×(Fm Qn)×(Nat×(Nat->List (Q9×List (Int))))×(Nat×(Nat->List Qa))×(Nat×(Nat->List Qj))×Unit)))):=
 (bif ilt a.1.2.1 a.1.1 then (Q0 (cK186 a.2.1 a.2.2.1 a.2.2.2.1 a.2.2.2.2.1 a.2.2.2.2.2.1 a.2.2.2.2.2.2.1 a.2.2.2.2.2.2.2.1 a.2.2.2.2.2.2.2.2.1 a.2.2.2.2.2.2.2.2.2.1 a.2.2.2.2.2.2.2.2.2.2.1 a.2.2.2.2.2.2.2.2.2.2.2.1 a.2.2.2.2.2.2.2.2.2.2.2.2.1 a.2.2.2.2.2.2.2.2.2.2.2.2.2.1) none λr0=>some (.inl ((a.1.1,(Q2 .i64 a.1.2.1 1,())),r0.2.1))) else some (.inr ((),a.2)))
def Q14.F1:Q14.l1T:=λa=>Z8 (1000000) (Q14.Q2n Q1R Q2h Q1V Qq) a
def Q14.QW (cK189:Q1R.T) (cK184:Q2h.T) (cK185:Q1V.T) (cK186:Qq.T) (a:(Int×Int×Unit)×(Q3×(Fm Q1)×(Fm Qd)×(Fm Q5)×(Fm Q6)×(Fm Q7)×(Fm Q8)×(Fm Qh)×(Fm Qw)×(Fm Qn)×(Nat×(Nat->List (Q9×List (Int))))×(Nat×(Nat->List Qa))×(Nat×(Nat->List Qj))×Unit)):Option (((Int×Int×Unit)×(Q3×(Fm Q1)×(Fm Qd)×(Fm Q5)×(Fm Q6)×(Fm Q7)×(Fm Q8)×(Fm Qh)×(Fm Qw)×(Fm Qn)×(Nat×(Nat->List (Q9×List (Int))))×(Nat×(Nat->List Qa))×(Nat×(Nat->List Qj))×Unit))⊕((Unit×(Q3×(Fm Q1)×(Fm Qd)×(Fm Q5)×(Fm Q6)×(Fm Q7)×(Fm Q8)×(Fm Qh)×(Fm Qw)×(Fm Qn)×(Nat×(Nat->List (Q9×List (Int))))×(Nat×(Nat->List Qa))×(Nat×(Nat->List Qj))×Unit)))):=
 (bif ilt a.1.2.1 a.1.1 then (Q0 (cK189 a.1.2.1 a.2.1 a.2.2.1 a.2.2.2.1 a.2.2.2.2.1 a.2.2.2.2.2.1 a.2.2.2.2.2.2.1 a.2.2.2.2.2.2.2.1 a.2.2.2.2.2.2.2.2.1 a.2.2.2.2.2.2.2.2.2.1 a.2.2.2.2.2.2.2.2.2.2.1 a.2.2.2.2.2.2.2.2.2.2.2.1 a.2.2.2.2.2.2.2.2.2.2.2.2.1 a.2.2.2.2.2.2.2.2.2.2.2.2.2.1) none λr0=>some (.inl ((a.1.1,(Q2 .i64 a.1.2.1 1,())),r0.2.1))) else some (.inr ((),a.2)))
def Q14.F0:Q14.l0T:=λa=>Z8 (1000000) (Q14.QW Q1R Q2h Q1V Qq) a
def Q14.gen (cK189:Q1R.T) (cK184:Q2h.T) (cK185:Q1V.T) (cK186:Qq.T) (l0:Q14.l0T) (l1:Q14.l1T):Q14.T:=λo h0 g0 g1 g2 g3 g4 g5 g6 g8 g9 g10 g11 g12=>
 (bif ieq o.Q2C 1 then (bif ieq o.fA (-1) then (Q0 (l0 ((ofN h0.Q1K.2,(0:Int),()),h0,g0,g1,g2,g3,g4,g5,g6,g8,g9,g10,g11,g12,())) none λr0=>some (((0:Int),()),(r0.2,()))) else (Q0 (cK184 o.fA h0 g11) none λr1=>(bif r1.1.1 then some (((1:Int),()),((h0,(g0,(g1,(g2,(g3,(g4,(g5,(g6,(g8,(g9,(g10,(g11,(g12,()))))))))))))),())) else none))) else (Q0 ((bif ieq o.Q2C 7 then some ((o.Q2C,(ieq o.Q2C 7,())),(h0,(o,(g0,(g1,(g2,(g3,(g4,(g5,(g6,(g8,(g9,(g10,(g11,(g12,()))))))))))))))) else (bif ieq o.Q2C 8 then some ((o.Q2C,(ieq o.Q2C 8,())),(h0,(o,(g0,(g1,(g2,(g3,(g4,(g5,(g6,(g8,(g9,(g10,(g11,(g12,()))))))))))))))) else (bif ieq o.Q2C 9 then some ((o.Q2C,(ieq o.Q2C 9,())),(h0,(o,(g0,(g1,(g2,(g3,(g4,(g5,(g6,(g8,(g9,(g10,(g11,(g12,()))))))))))))))) else (bif ieq o.Q2C 10 then some ((o.Q2C,(ieq o.Q2C 10,())),(h0,(o,(g0,(g1,(g2,(g3,(g4,(g5,(g6,(g8,(g9,(g10,(g11,(g12,()))))))))))))))) else (bif ieq o.Q2C 11 then some ((o.Q2C,(ieq o.Q2C 11,())),(h0,(o,(g0,(g1,(g2,(g3,(g4,(g5,(g6,(g8,(g9,(g10,(g11,(g12,()))))))))))))))) else some ((o.Q2C,(ieq o.Q2C 12,())),(h0,(o,(g0,(g1,(g2,(g3,(g4,(g5,(g6,(g8,(g9,(g10,(g11,(g12,()))))))))))))))))))))) none λr2=>(bif r2.1.2.1 then (Q0 (cK184 r2.2.2.1.fA r2.2.1 r2.2.2.2.2.2.2.2.2.2.2.2.2.2.1) none λr3=>(bif r3.1.1 then some (((1:Int),()),((r2.2.1,r2.2.2.2),())) else none)) else (Q0 ((bif ieq r2.1.1 2 then some ((r2.1.1,(ieq r2.1.1 2,())),r2.2) else (bif ieq r2.1.1 3 then some ((r2.1.1,(ieq r2.1.1 3,())),r2.2) else (bif ieq r2.1.1 4 then some ((r2.1.1,(ieq r2.1.1 4,())),r2.2) else (bif ieq r2.1.1 5 then some ((r2.1.1,(ieq r2.1.1 5,())),r2.2) else (bif ieq r2.1.1 6 then some ((r2.1.1,(ieq r2.1.1 6,())),r2.2) else some ((r2.1.1,(ieq r2.1.1 14,())),r2.2))))))) none λr4=>(bif r4.1.2.1 then (Q0 ((bif ilt r4.2.2.1.fA 0 then some (true,()) else some (ile 8 r4.2.2.1.fA,()))) none λr5=>(bif r5.1 then some (((1:Int),()),((r4.2.1,r4.2.2.2),())) else none)) else (bif ieq r4.1.1 13 then (Q0 (cK185 r4.2.2.1.fN r4.2.1) none λr6=>some (((0:Int),()),((r6.2.1.1,r4.2.2.2),()))) else (bif ieq r4.1.1 15 then (Q0 (l1 ((Z7 true 0 (Z7 false r4.2.2.1.fA 5000),(0:Int),()),r4.2.1,r4.2.2.2)) none λr7=>some (((0:Int),()),(r7.2,()))) else some (((13:Int),()),((r4.2.1,r4.2.2.2),())))))))))
def Q14:Q14.T:=Q14.gen Q1R Q2h Q1V Qq Q14.F0 Q14.F1
theorem Q14.seq1 (cK189:Q1R.T) (cK184:Q2h.T) (cK185:Q1V.T) (cK186:Qq.T) (l0:Q14.l0T) (l1:Q14.l1T) (a:Q14.L1.T):run Tryz.prog (Q14.H cK189 cK184 cK185 cK186 l0 l1) 6 (Option (Q14.L1.T⊕ExT Q14.X1)) none Q14.B1 (Q14.L1.enc a) (Zc (0,14) Q14.L1 Q14.X1)=Q14.Q2n cK189 cK184 cK185 cK186 a:=by kernel_rfl
abbrev Q14.h:=Q14.H Q1R Q2h Q1V Qq Q14.F0 Q14.F1
theorem Q14.Q3z:LO_ Q14.h Q14.B1 (Z6 (0,14) Q14.L1 Q14.X1 Q14.F1):=lk_ (hn_ (Z0 (Z0 (Z0 (Z0 Z2 Q1R.ok) Q2h.ok) Q1V.ok) Qq.ok)) (Q14.seq1 Q1R Q2h Q1V Qq Q14.F0 Q14.F1)
theorem Q14.Q1O (cK189:Q1R.T) (cK184:Q2h.T) (cK185:Q1V.T) (cK186:Qq.T) (l0:Q14.l0T) (l1:Q14.l1T) (a:Q14.L0.T):run Tryz.prog (Q14.H cK189 cK184 cK185 cK186 l0 l1) 6 (Option (Q14.L0.T⊕ExT Q14.X0)) none Q14.B0 (Q14.L0.enc a) (Zc (0,14) Q14.L0 Q14.X0)=Q14.QW cK189 cK184 cK185 cK186 a:=by kernel_rfl
theorem Q14.Q1D:LO_ Q14.h Q14.B0 (Z6 (0,14) Q14.L0 Q14.X0 Q14.F0):=lk_ (hn_ (Z0 (Z0 (Z0 (Z0 Z2 Q1R.ok) Q2h.ok) Q1V.ok) Qq.ok)) (Q14.Q1O Q1R Q2h Q1V Qq Q14.F0 Q14.F1)
theorem Q14.eq (cK189:Q1R.T) (cK184:Q2h.T) (cK185:Q1V.T) (cK186:Qq.T) (l0:Q14.l0T) (l1:Q14.l1T):EqA Q14.sig (Q14.H cK189 cK184 cK185 cK186 l0 l1) Tryz.f18 6 (Q14.W (Q14.gen cK189 cK184 cK185 cK186 l0 l1)):=by intro a x;kernel_rfl
theorem Q14.loops:Z3 Q14.C= [(.loop Q14.B0),(.loop Q14.B1)]:=by kernel_rfl
theorem Q14.ok:NK_ 18 Q14.sig (Q14.W Q14):=ok_ Tryz.func18 (Q14.eq Q1R Q2h Q1V Qq Q14.F0 Q14.F1) (hl_ (Z0 (Z0 (Z0 (Z0 Z2 Q1R.ok) Q2h.ok) Q1V.ok) Qq.ok) (Z4 (by kernel_rfl) Q14.Q1D (Z4 (by kernel_rfl) Q14.Q3z Z5))) Q14.loops
def Q1E.sig:Sig U:=⟨[.ptr,.int .i64],[.obj .Qi,Q4Y,.fam 11 (.rows .Qo)],3,[.int .i64],false,[]⟩
abbrev Q1E.T:Type:=(Int)->(Q3)->(Fm Q1)->(Nat×(Nat->List Qa))->Option ((Int×Unit)×Unit×Unit)
def Q1E.W (f:Q1E.T):Q1E.sig.F:=λa x=>f a.2.1 x.1 x.2.1 x.2.2.1
def Q1E.L0:Shape U:=⟨26,14,[(0,.ptr 13 0 0),(1,vi_),(12,vi_)],[(13,.obj .Qi),(0,.Qf false .Q4),(11,.Q1a .Qo)]⟩
def Q1E.X0:Qt U:= [(.exit 0,⟨26,14,[],[(13,.obj .Qi),(0,.Qf false .Q4),(11,.Q1a .Qo)]⟩),
 (.ret,⟨26,14,[(4,vi_)],[(13,.obj .Qi),(0,.Qf false .Q4),(11,.Q1a .Qo)]⟩)]
abbrev Q1E.l0T:Type:=((Int×Int×Unit)×(Q3×(Fm Q1)×(Nat×(Nat->List Qa))×Unit))->Option ((Unit×(Q3×(Fm Q1)×(Nat×(Nat->List Qa))×Unit))⊕((Int×Unit)×(Q3×(Fm Q1)×(Nat×(Nat->List Qa))×Unit)))
def Q1E.C:Code:=match Tryz.f15.body with|some c=>c|none=>.skip
def Q1E.B0:Code:=match (Z3 Q1E.C).getD 0 .skip with| .loop b=>b| .scope b=>b|_=>.skip
def Q1E.H (cK171:QZ.T) (cK167:Q1l.T) (l0:Q1E.l0T):Hints U:={ Γ:=(Qp 34 (Q1l.sig.native (Q1l.W cK167)) (QZ.N cK171 noΓ)),ro:=14,base:=14,loop:=jt_ [(4,(Z6 (14,14) Q1E.L0 Q1E.X0 l0))]}
def Q1E.QW (cK171:QZ.T) (cK167:Q1l.T) (a:(Int×Int×Unit)×(Q3×(Fm Q1)×(Nat×(Nat->List Qa))×Unit)):Option (((Int×Int×Unit)×(Q3×(Fm Q1)×(Nat×(Nat->List Qa))×Unit))⊕((Unit×(Q3×(Fm Q1)×(Nat×(Nat->List Qa))×Unit))⊕((Int×Unit)×(Q3×(Fm Q1)×(Nat×(Nat->List Qa))×Unit)))):=
 (bif ilt a.1.2.1 8 then (Q0 (cK167 a.1.1 a.2.1 a.2.2.1 a.2.2.2.1) none λr0=>(bif !r0.1.2.1 then some (.inr (.inr (a.1.2,a.2))) else some (.inl ((r0.1.1,(Q2 .i64 a.1.2.1 1,())),a.2)))) else some (.inr (.inl ((),a.2))))
def Q1E.F0:Q1E.l0T:=λa=>Z8 (1000000) (Q1E.QW QZ Q1l) a
def Q1E.gen (cK171:QZ.T) (cK167:Q1l.T) (l0:Q1E.l0T):Q1E.T:=λi h0 g0 g11=>
 (Q0 (cK171 i h0 g11) none λr0=>(bif !Option.isSome r0.1.1 then some (((-1:Int),()),((),())) else (Q0 (l0 ((i,(0:Int),()),h0,g0,g11,())) none λr1=>(Q3B r1 (λr2=>some (((8:Int),()),((),()))) (λr2=>some (r2.1,((),())))))))
def Q1E:Q1E.T:=Q1E.gen QZ Q1l Q1E.F0
theorem Q1E.Q1O (cK171:QZ.T) (cK167:Q1l.T) (l0:Q1E.l0T) (a:Q1E.L0.T):run Tryz.prog (Q1E.H cK171 cK167 l0) 6 (Option (Q1E.L0.T⊕ExT Q1E.X0)) none Q1E.B0 (Q1E.L0.enc a) (Zc (14,14) Q1E.L0 Q1E.X0)=Q1E.QW cK171 cK167 a:=by kernel_rfl
abbrev Q1E.h:=Q1E.H QZ Q1l Q1E.F0
theorem Q1E.Q1D:LO_ Q1E.h Q1E.B0 (Z6 (14,14) Q1E.L0 Q1E.X0 Q1E.F0):=lk_ (hn_ (Z0 (Z0 Z2 QZ.ok) Q1l.ok)) (Q1E.Q1O QZ Q1l Q1E.F0)
theorem Q1E.eq (cK171:QZ.T) (cK167:Q1l.T) (l0:Q1E.l0T):EqA Q1E.sig (Q1E.H cK171 cK167 l0) Tryz.f15 6 (Q1E.W (Q1E.gen cK171 cK167 l0)):=by intro a x;kernel_rfl
theorem Q1E.loops:Z3 Q1E.C= [(.loop Q1E.B0)]:=by kernel_rfl
theorem Q1E.ok:NK_ 15 Q1E.sig (Q1E.W Q1E):=ok_ Tryz.func15 (Q1E.eq QZ Q1l Q1E.F0) (hl_ (Z0 (Z0 Z2 QZ.ok) Q1l.ok) (Z4 (by kernel_rfl) Q1E.Q1D Z5)) Q1E.loops
def K83.sig:Sig U:=⟨[],[Q4Y,Q54,Q4s,Q47,Q4u,Q4z,Q4y,Q9j,Q5z,Q65,.fam 10 (.map true false .Qm .Q1o),.fam 11 (.rows .Qo),.fam 12 (.rows .QQ)],0,[.bool],false,[]⟩
abbrev K83.T:Type:=(Fm Q1)->(Fm Qd)->(Fm Q5)->(Fm Q6)->(Fm Q7)->(Fm Q8)->(Fm Qh)->(Fm Q3)->(Fm Qw)->(Fm Qn)->(Nat×(Nat->List (Q9×List (Int))))->(Nat×(Nat->List Qa))->(Nat×(Nat->List Qj))->Option ((Bool×Unit)×((Fm Q1)×(Fm Qd)×(Fm Q5)×(Fm Q6)×(Fm Q7)×(Fm Q8)×(Fm Qh)×(Fm Q3)×(Fm Qw)×(Fm Qn)×(Nat×(Nat->List (Q9×List (Int))))×(Nat×(Nat->List Qa))×(Nat×(Nat->List Qj))×Unit)×Unit)
def K83.W (f:K83.T):K83.sig.F:=λa x=>f x.1 x.2.1 x.2.2.1 x.2.2.2.1 x.2.2.2.2.1 x.2.2.2.2.2.1 x.2.2.2.2.2.2.1 x.2.2.2.2.2.2.2.1 x.2.2.2.2.2.2.2.2.1 x.2.2.2.2.2.2.2.2.2.1 x.2.2.2.2.2.2.2.2.2.2.1 x.2.2.2.2.2.2.2.2.2.2.2.1 x.2.2.2.2.2.2.2.2.2.2.2.2.1
def K83.H (cK48:K48.T) (cK176:Q19.T) (cK164:Q1h.T) (cK170:Q17.T) (cK179:Q14.T) (cK169:Q1p.T) (cK166:Q1E.T):Hints U:={ Γ:=(Qp 15 (Q1E.sig.native (Q1E.W cK166)) (Qp 13 (Q1p.sig.native (Q1p.W cK169)) (Qp 18 (Q14.sig.native (Q14.W cK179)) (Qp 20 (Q17.sig.native (Q17.W cK170)) (Qp 19 (Q1h.sig.native (Q1h.W cK164)) (Qp 8 (Q19.sig.native (Q19.W cK176)) (Qp 27 (K48.sig.native (K48.W cK48)) noΓ))))))),ro:=0,base:=13,Q1T:=jt_ [(3,[(29,vb_)])]}
def K83.gen (cK48:K48.T) (cK176:Q19.T) (cK164:Q1h.T) (cK170:Q17.T) (cK179:Q14.T) (cK169:Q1p.T) (cK166:Q1E.T):K83.T:=λg0 g1 g2 g3 g4 g5 g6 g7 g8 g9 g10 g11 g12=>
 (Q0 (cK48 1) none λr0=>(Q0 (cK48 2) none λr1=>(Q0 (cK176 (r0.1.1::r1.1.1::QG Qb) (Qk.mk 0 1 0::Qk.mk 1 1 0::QG Qk) g0 g1 g2 g3 g4 g5 g6 g7 g8 g9 g10 g11) none λr2=>(Q0 ((bif ine r2.1.2.1 0 then some (true,()) else (bif !Option.isSome r2.1.1 then some (true,()) else (Q0 (cK164 (r0.1.1::r1.1.1::QG Qb)) none λr3=>(bif ine r3.1.1 1056 then some (true,()) else (Q0 ((Q0 (r2.1.1) none λr4=>(Q0 (cK170 (r2.2.1.2.2.2.2.2.2.2.1.2 r4) r2.2.1.1 r2.2.1.2.2.2.2.2.2.2.2.2.2.2.1) none λr5=>some (r4,r5)))) none λr6=>some r6.2.1)))))) none λr7=>(bif r7.1 then some ((false,()),((r2.2.1.1,(r2.2.1.2.1,(r2.2.1.2.2.1,(r2.2.1.2.2.2.1,(r2.2.1.2.2.2.2.1,(r2.2.1.2.2.2.2.2.1,(r2.2.1.2.2.2.2.2.2.1,(r2.2.1.2.2.2.2.2.2.2.1,(r2.2.1.2.2.2.2.2.2.2.2.1,(r2.2.1.2.2.2.2.2.2.2.2.2.1,(r2.2.1.2.2.2.2.2.2.2.2.2.2.1,(r2.2.1.2.2.2.2.2.2.2.2.2.2.2.1,(g12,()))))))))))))),())) else (Q0 ((Q0 (r2.1.1) none λr8=>(Q0 (cK179 (Q2D.mk 15 200 0 0 0 z7_ (ByteArray.mk (List.toArray (QG UInt8)))) (r2.2.1.2.2.2.2.2.2.2.1.2 r8) r2.2.1.1 r2.2.1.2.1 r2.2.1.2.2.1 r2.2.1.2.2.2.1 r2.2.1.2.2.2.2.1 r2.2.1.2.2.2.2.2.1 r2.2.1.2.2.2.2.2.2.1 r2.2.1.2.2.2.2.2.2.2.2.1 r2.2.1.2.2.2.2.2.2.2.2.2.1 r2.2.1.2.2.2.2.2.2.2.2.2.2.1 r2.2.1.2.2.2.2.2.2.2.2.2.2.2.1 g12) none λr9=>some (r8,r9)))) none λr10=>(Q0 ((Q0 (r2.1.1) none λr11=>(Q0 (cK170 (QA r2.2.1.2.2.2.2.2.2.2.1.2 r10.1 r10.2.2.1.1 r11) r10.2.2.1.2.1 r10.2.2.1.2.2.2.2.2.2.2.2.2.2.2.1) none λr12=>some (r11,r12)))) none λr13=>(bif r13.2.1.1 then (Q0 ((Q0 (r2.1.1) none λr14=>(Q0 (cK169 1 (QA r2.2.1.2.2.2.2.2.2.2.1.2 r10.1 r10.2.2.1.1 r14) r10.2.2.1.2.1 r10.2.2.1.2.2.2.2.2.2.2.2.2.2.2.1) none λr15=>some (r14,r15)))) none λr16=>(bif ieq r16.2.1.1 0 then (Q0 ((Q0 (r2.1.1) none λr17=>(Q0 (cK166 1 (QA r2.2.1.2.2.2.2.2.2.2.1.2 r10.1 r10.2.2.1.1 r17) r10.2.2.1.2.1 r10.2.2.1.2.2.2.2.2.2.2.2.2.2.2.1) none λr18=>some (r17,r18)))) none λr19=>some ((ieq r19.2.1.1 1,()),((r10.2.2.1.2.1,(r10.2.2.1.2.2.1,(r10.2.2.1.2.2.2.1,(r10.2.2.1.2.2.2.2.1,(r10.2.2.1.2.2.2.2.2.1,(r10.2.2.1.2.2.2.2.2.2.1,(r10.2.2.1.2.2.2.2.2.2.2.1,((r2.2.1.2.2.2.2.2.2.2.1.1,QA r2.2.1.2.2.2.2.2.2.2.1.2 r10.1 r10.2.2.1.1),r10.2.2.1.2.2.2.2.2.2.2.2)))))))),()))) else some ((false,()),((r10.2.2.1.2.1,(r10.2.2.1.2.2.1,(r10.2.2.1.2.2.2.1,(r10.2.2.1.2.2.2.2.1,(r10.2.2.1.2.2.2.2.2.1,(r10.2.2.1.2.2.2.2.2.2.1,(r10.2.2.1.2.2.2.2.2.2.2.1,((r2.2.1.2.2.2.2.2.2.2.1.1,QA r2.2.1.2.2.2.2.2.2.2.1.2 r10.1 r10.2.2.1.1),r10.2.2.1.2.2.2.2.2.2.2.2)))))))),())))) else some ((false,()),((r10.2.2.1.2.1,(r10.2.2.1.2.2.1,(r10.2.2.1.2.2.2.1,(r10.2.2.1.2.2.2.2.1,(r10.2.2.1.2.2.2.2.2.1,(r10.2.2.1.2.2.2.2.2.2.1,(r10.2.2.1.2.2.2.2.2.2.2.1,((r2.2.1.2.2.2.2.2.2.2.1.1,QA r2.2.1.2.2.2.2.2.2.2.1.2 r10.1 r10.2.2.1.1),r10.2.2.1.2.2.2.2.2.2.2.2)))))))),()))))))))))
def K83:K83.T:=K83.gen K48 Q19 Q1h Q17 Q14 Q1p Q1E
def K83.A:Option Unit:=Z6l (K83 (0,λ_=>U.dft .Q4) (0,λ_=>U.dft .QR) (0,λ_=>U.dft .Ql) (0,λ_=>U.dft .Qy) (0,λ_=>U.dft .QF) (0,λ_=>U.dft .QC) (0,λ_=>U.dft .QS) (0,λ_=>U.dft .Qi) (0,λ_=>U.dft .Q1g) (0,λ_=>U.dft .Q13) (0,λ_=>[]) (0,λ_=>[]) (0,λ_=>[]))
theorem K83.eq (cK48:K48.T) (cK176:Q19.T) (cK164:Q1h.T) (cK170:Q17.T) (cK179:Q14.T) (cK169:Q1p.T) (cK166:Q1E.T):EqA K83.sig (K83.H cK48 cK176 cK164 cK170 cK179 cK169 cK166) Tryz.f11 6 (K83.W (K83.gen cK48 cK176 cK164 cK170 cK179 cK169 cK166)):=by intro a x;kernel_rfl
abbrev K83.h:=K83.H K48 Q19 Q1h Q17 Q14 Q1p Q1E
theorem K83.hints:Q3c U Tryz.prog K83.h (λc=>c∈([]:List Code)):=(hq (Z0 (Z0 (Z0 (Z0 (Z0 (Z0 (Z0 Z2 K48.ok) Q19.ok) Q1h.ok) Q17.ok) Q14.ok) Q1p.ok) Q1E.ok) Z5 (λ_=>rfl) (λ_=>rfl))
theorem K83.okA:Zi U Tryz.prog 11 (Z5F K83.A):=
 Z9w Q3X (fs:= [Q4Y,Q54,Q4s,Q47,Q4u,Q4z,Q4y,Q9j,Q5z,Q65,.fam 10 (.map true false .Qm .Q1o),.fam 11 (.rows .Qo),.fam 12 (.rows .QQ)]) (gos:=6) K83.hints Tryz.func11 rfl (by kernel_rfl) (λb h=>h) (λh=>let ⟨y,hy⟩:=Z8k h;⟨y,(K83.eq K48 Q19 Q1h Q17 Q14 Q1p Q1E () (Q5f (U:=U) [Q4Y,Q54,Q4s,Q47,Q4u,Q4z,Q4y,Q9j,Q5z,Q65,.fam 10 (.map true false .Qm .Q1o),.fam 11 (.rows .Qo),.fam 12 (.rows .QQ)])).trans hy⟩) rfl rfl (by decide) (by decide)
def K82.sig:Sig U:=⟨[.isl .Q40,.isl .int],[],0,[.bool],false,[]⟩
abbrev K82.T:Type:=(List (List (Int)))->(List (Int))->Option ((Bool×Unit)×Unit×Unit)
def K82.W (f:K82.T):K82.sig.F:=λa x=>f a.1 a.2.1
def K82.L0:Shape U:=⟨66,14,[(0,.val (.isl .Q40)),(1,.val (.isl .int)),(5,.own .Q11 13),(6,vi_)],[(13,.tok)]⟩
def K82.X0:Qt U:= [(.exit 0,⟨66,14,[(1,.val (.isl .int)),(5,.own .Q11 13)],[(13,.tok)]⟩)]
abbrev K82.l0T:Type:=(((List (List (Int)))×(List (Int))×(List (Qb))×Int×Unit)×Unit)->Option ((((List (Int))×(List (Qb))×Unit)×Unit))
def K82.C:Code:=match Tryz.f6.body with|some c=>c|none=>.skip
def K82.B0:Code:=match (Z3 K82.C).getD 0 .skip with| .loop b=>b| .scope b=>b|_=>.skip
def K82.H (cK78:K78.T) (cK80:K80.T) (cK164:Q1h.T) (cK83:Option Unit) (l0:K82.l0T):Hints U:={ Γ:=(Qp 11 (Z5F cK83) (Qp 19 (Q1h.sig.native (Q1h.W cK164)) (Qp 9 (K80.sig.native (K80.W cK80)) (Qp 17 (K78.sig.native (K78.W cK78)) noΓ)))),ro:=0,base:=13,Q1T:=jt_ [(3,[(17,vb_)])],loop:=jt_ [(3,(Z6 (0,13) K82.L0 K82.X0 l0))]}
def K82.QW (cK78:K78.T) (cK80:K80.T) (cK164:Q1h.T) (cK83:Option Unit) (a:((List (List (Int)))×(List (Int))×(List (Qb))×Int×Unit)×Unit):Option ((((List (List (Int)))×(List (Int))×(List (Qb))×Int×Unit)×Unit)⊕((((List (Int))×(List (Qb))×Unit)×Unit))):=
 (Q0 ((bif ilt a.1.2.2.2.1 (ofN (List.length a.1.1)) then some (ilt a.1.2.2.2.1 10,()) else some (false,()))) none λr0=>(bif r0.1 then (bif inR a.1.2.2.2.1 (List.length a.1.1) then (Q0 (cK78 a.1.2.2.2.1 (List.getD a.1.1 (Int.toNat a.1.2.2.2.1) (QG Int))) none λr1=>(bif room (List.length a.1.2.2.1+List.length (r1.1.1::QG Qb)) 176 then some (.inl ((a.1.1,(a.1.2.1,(a.1.2.2.1++r1.1.1::QG Qb,(Q2 .i64 a.1.2.2.2.1 1,())))),())) else none)) else none) else some (.inr ((a.1.2.1,(a.1.2.2.1,())),()))))
def K82.F0:K82.l0T:=λa=>Z8 (1000000+(a.1.1.length+a.1.2.1.length+a.1.2.2.1.length)) (K82.QW K78 K80 Q1h K83.A) a
def K82.gen (cK78:K78.T) (cK80:K80.T) (cK164:Q1h.T) (cK83:Option Unit) (l0:K82.l0T):K82.T:=λl more=>
 (Q0 (l0 ((l,more,QG Qb,(0:Int),()),())) none λr0=>(Q0 (cK80 r0.1.2.1) none λr1=>(Q0 (cK164 r1.1.1) none λr2=>(Q0 (cK78 99 r0.1.1) none λr3=>(bif room (List.length (r3.1.1::QG Qb)+List.length r0.1.2.1) 176 then (Q0 (cK164 (r3.1.1::QG Qb++r0.1.2.1)) none λr4=>(Q0 (cK80 r0.1.2.1) none λr5=>(bif room (List.length r5.1.1+List.length (r3.1.1::QG Qb)) 176 then (Q0 (cK164 (r5.1.1++r3.1.1::QG Qb)) none λr6=>(bif ine r4.1.1 r6.1.1 then some ((false,()),((),())) else (Q0 (cK164 (r3.1.1::QG Qb++r0.1.2.1)) none λr7=>(bif ile r2.1.1 r7.1.1 then (Q0 (cK164 (r3.1.1::QG Qb)) none λr8=>(Q0 (cK164 (r3.1.1::QG Qb++r0.1.2.1)) none λr9=>(bif ile r8.1.1 r9.1.1 then (bif ile 0 r2.1.1 then (Q0 (cK83) none λr10=>some ((true,()),((),()))) else some ((false,()),((),()))) else some ((false,()),((),()))))) else some ((false,()),((),())))))) else none))) else none)))))
def K82:K82.T:=K82.gen K78 K80 Q1h K83.A K82.F0
theorem K82.Q1O (cK78:K78.T) (cK80:K80.T) (cK164:Q1h.T) (cK83:Option Unit) (l0:K82.l0T) (a:K82.L0.T):run Tryz.prog (K82.H cK78 cK80 cK164 cK83 l0) 6 (Option (K82.L0.T⊕ExT K82.X0)) none K82.B0 (K82.L0.enc a) (Zc (0,13) K82.L0 K82.X0)=K82.QW cK78 cK80 cK164 cK83 a:=by kernel_rfl
abbrev K82.h:=K82.H K78 K80 Q1h K83.A K82.F0
theorem K82.Q1D:LO_ K82.h K82.B0 (Z6 (0,13) K82.L0 K82.X0 K82.F0):=lk_ (hn_ (Z0 (Z0 (Z0 (Z0 Z2 K78.ok) K80.ok) Q1h.ok) K83.okA)) (K82.Q1O K78 K80 Q1h K83.A K82.F0)
theorem K82.eq (cK78:K78.T) (cK80:K80.T) (cK164:Q1h.T) (cK83:Option Unit) (l0:K82.l0T):EqA K82.sig (K82.H cK78 cK80 cK164 cK83 l0) Tryz.f6 6 (K82.W (K82.gen cK78 cK80 cK164 cK83 l0)):=by intro a x;kernel_rfl
theorem K82.loops:Z3 K82.C= [(.loop K82.B0)]:=by kernel_rfl
theorem K82.hints:Q3c U Tryz.prog K82.h (λc=>c∈ [(.loop K82.B0)]):=(hq (Z0 (Z0 (Z0 (Z0 Z2 K78.ok) K80.ok) Q1h.ok) K83.okA) (Z4 (by kernel_rfl) K82.Q1D Z5) (λ_=>rfl) (λ_=>rfl))
end
end Go.Proofs.YtbfinmemoemakaaGreat
