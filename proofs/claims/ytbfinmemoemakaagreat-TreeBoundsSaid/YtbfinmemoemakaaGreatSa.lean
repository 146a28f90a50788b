/- Typed forms of the functions that these statements reach, proved equal to what the model runs, and laws over them. -/
import Derived.Test.YtbfinmemoemakaaGreatT
namespace Go.Proofs.YtbfinmemoemakaaGreat
open Go.Rf
set_option linter.unusedVariables false
set_option linter.unusedSimpArgs false
set_option maxRecDepth 100000
noncomputable section
abbrev vi_:JV UC:= .val (.int .i64)
abbrev vb_:JV UC:= .val (.bool)
abbrev Q4Y:NK UC:= .fam 0 (.obj .Q4)
abbrev Q54:NK UC:= .fam 1 (.obj .QR)
abbrev Q4s:NK UC:= .fam 2 (.obj .Ql)
abbrev Q47:NK UC:= .fam 3 (.obj .Qy)
abbrev Q4u:NK UC:= .fam 4 (.obj .QF)
abbrev Q4z:NK UC:= .fam 5 (.obj .QC)
abbrev Q4y:NK UC:= .fam 6 (.obj .QS)
abbrev Q9j:NK UC:= .fam 7 (.obj .Qi)
abbrev Q5z:NK UC:= .fam 8 (.obj .Q1g)
abbrev Q65:NK UC:= .fam 9 (.obj .Q13)
abbrev EqA (s:Sig U) (H:Hints U) (f:Func) (n:Nat) (g:s.F):Prop:=∀(a:Ts U s.Q3W) (x:HTs U s.heap),Q6U Tryz.prog H f n none s.fin (s.args a) (s.start x) s.base=g a x
theorem hq {Hn:Hints U} (hΓ:ZM U Tryz.prog Hn.Γ) {l:List Code} (hl:∀b N,.loop b∈l->Hn.loop (Zj b)=some N->ZA U Tryz.prog Hn.ro Hn.base b N) (h1:∀lb,Hn.label lb=none) (h2:∀f,Hn.inl f=none):Q3c U Tryz.prog Hn (λc=>c∈l):=ZB Q3X Q2t mixed hΓ hl (Z7Q h1) (Z1l h2)
abbrev NK_ (k:Nat) (s:Sig U) (F:s.F):Prop:=Zi U Tryz.prog k (s.native F)
abbrev HO_ (H:Hints U) (l:List Code):Prop:=Q3c U Tryz.prog H (λc=>c∈l)
abbrev LO_ (H:Hints U) (b:Code) (N:Z2E U):Prop:=ZA U Tryz.prog H.ro H.base b N
theorem hl_ {H:Hints U} (hΓ:ZM U Tryz.prog H.Γ) {l:List Code} (hl:∀b N,.loop b∈l->H.loop (Zj b)=some N->LO_ H b N) (h1:∀lb,H.label lb=none:=by exact λ_=>rfl) (h2:∀f,H.inl f=none:=by exact λ_=>rfl):HO_ H l:=hq hΓ hl h1 h2
theorem hn_ {H:Hints U} (hΓ:ZM U Tryz.prog H.Γ) (h1:∀lb,H.label lb=none:=by exact λ_=>rfl) (h2:∀f,H.inl f=none:=by exact λ_=>rfl):HO_ H []:=hq hΓ Z5 h1 h2
def cd_ (f:Func):Code:=match f.body with|some c=>c|none=>.skip
def jt_ {α:Type _}:List (Nat×α)->Nat->Option α
 | [],_=>none
 |(k,v)::r,b=>bif Nat.beq b k then some v else jt_ r b
theorem ok_ {s:Sig U} {F:s.F} {H:Hints U} {k n:Nat} {f:Func} {l:List Code} (hf:Tryz.prog.funcs[k]? =some f) (he:EqA s H f n F) (hH:HO_ H l) (hl:Z3 (cd_ f)=l:=by kernel_rfl) (hb:f.body=some (cd_ f):=by kernel_rfl) (hn:(f.name== "runtime.NumGoroutine")=false:=by kernel_rfl) (h1:H.ro=s.roN:=by rfl) (h2:H.base=s.base:=by rfl) (h3:s.Q6X=true:=by decide) (h4:s.Q3W.length<=f.ntmps:=by decide):NK_ k s F:=Sig.ok s F Q2t hH hf hb hn (λb h=>by rw [hl] at h;exact h) h1 h2 h3 he h4
theorem lk_ {H:Hints U} {b:Code} {p:Shape U} {l:Qt U} {F:p.T->Option (ExT l)} {rounds:p.T->Nat} {round:p.T->Option (p.T⊕ExT l)} {n:Nat} (hH:HO_ H []) (hs:∀x,run Tryz.prog H n (Option (p.T⊕ExT l)) none b (p.enc x) (Zc (H.ro,H.base) p l)=round x) (hi:Z3 b= []:=by kernel_rfl) (hF:∀x,F x=Z8 (rounds x) round x:=by exact λ_=>rfl):LO_ H b (Z6 (H.ro,H.base) p l F):=Z1b Q3X Q2t (ZY hH n) (λb h=>by rw [hi] at h;exact h) hF hs
abbrev Fm (α:Type):=Nat×(Nat->α)
abbrev z0_:=Q9.mk (0:Int) (0:Int)
abbrev z1_:=QU.mk (0:Int) (0:Int) (0:Int)
abbrev z2_:=Qg.mk (0:Int) (0:Int) (0:Int) (0:Int) z0_ (0:Int) (0:Int) (0:Int) z0_ (0:Int) (0:Int) z1_ (0:Int) (0:Int) (0:Int) (0:Int) (0:Int) (0:Int) (0:Int)
abbrev z3_:=QT.mk (0:Int)
abbrev z4_:=Q1b.mk (0:Int) false
abbrev z5_:=Qv.mk (0:Int) z1_ (0:Int) (0:Int) (0:Int) z0_ z0_
abbrev z6_:=Q1u.mk (0:Int) (0:Int) (0:Int)
abbrev z7_:=Qb.mk (0:Int) (0:Int) (0:Int) (0:Int) (0:Int) z1_ false (0:Int) (0:Int) (0:Int) (0:Int) false false (0:Int) (0:Int) (0:Int) (0:Int) z6_ false
abbrev z8_:=(1:Int)::(0:Int)::(0:Int)::(0:Int)::(-3:Int)::(-3:Int)::(-3:Int)::(2:Int)::(1:Int)::(0:Int)::(0:Int)::(0:Int)::(-32768:Int)::(0:Int)::(0:Int)::QG Int
abbrev z9_:=(8:Int)::(127:Int)::(255:Int)::(255:Int)::(4:Int)::(4:Int)::(4:Int)::(10:Int)::(15:Int)::(2000:Int)::(2000:Int)::(1000000000:Int)::(32767:Int)::(63:Int)::(255:Int)::QG Int
abbrev Q3t (c:Qb):=c.Q2Z::c.Q2i::c.Q1y::c.Q1C::c.Q2j::c.Q4v::c.Q4D::c.Q22::c.Q5A::c.fKp::c.fKi::c.Q6B::c.Q2q.Q4e::c.Q2q.Q2H::c.Q2q.Q2F::QG Int
abbrev Q5y:List (Nat×JH UC):= [(2,.Qf false .Ql),(10,.Q20 true false .Qm .Q1o)]
abbrev Q5B:List (Nat×JH UC):= [(1,.Qf false .QR),(2,.Qf false .Ql),(3,.Qf false .Qy),(4,.Qf false .QF),(5,.Qf false .QC),(6,.Qf false .QS),(10,.Q20 true false .Qm .Q1o)]
abbrev Q67:List (Nat×JH UC):= [(1,.Qf false .QR),(3,.Qf false .Qy),(4,.Qf false .QF),(5,.Qf false .QC),(6,.Qf false .QS)]
abbrev Q5e:List (Nat×JH UC):= [(2,.Qf false .Ql),(3,.Qf false .Qy),(5,.Qf false .QC),(6,.Qf false .QS)]
abbrev Q6f:List (Nat×JH UC):= [(3,.Qf false .Qy),(4,.Qf false .QF),(10,.Q20 true false .Qm .Q1o)]
abbrev Q7s:List (Nat×JH UC):= [(2,.Qf false .Ql),(3,.Qf false .Qy),(4,.Qf false .QF),(5,.Qf false .QC),(6,.Qf false .QS),(10,.Q20 true false .Qm .Q1o)]
abbrev hT6_:List (Nat×JH UC):= [(3,.Qf false .Qy),(6,.Qf false .QS)]
abbrev Q60:Type:=(Fm Q5)×(Fm Q6)×(Fm Q8)×(Fm Qh)×Unit
abbrev Q69:Type:=(Fm Q5)×(Fm Q6)×(Fm Q7)×(Fm Q8)×(Fm Qh)×(Nat×(Nat->List (Q9×List (Int))))×Unit
abbrev Q6M:Type:=(Fm Q5)×(Nat×(Nat->List (Q9×List (Int))))×Unit
abbrev Q6T:Type:=(Fm Qd)×(Fm Q5)×(Fm Q6)×(Fm Q7)×(Fm Q8)×(Fm Qh)×(Nat×(Nat->List (Q9×List (Int))))×Unit
abbrev Q7k:Type:=(Fm Qd)×(Fm Q6)×(Fm Q7)×(Fm Q8)×(Fm Qh)×Unit
abbrev Q8o:Type:=(Fm Bool)×(Fm Q5)×(Fm Q6)×(Fm Q8)×(Fm Qh)×Unit
def K81.sig:Sig U:=⟨[.int .i64,.int .i64],[],0,[.int .i64],false,[]⟩
abbrev K81.T:Type:=(Int)->(Int)->Option ((Int×Unit)×Unit×Unit)
def K81.W (f:K81.T):K81.sig.F:=λa x=>f a.1 a.2.1
def K81.JC3:Qt U:= [(.normal,⟨15,13,[(5,vi_)],[]⟩)]
def K81.H:Hints U:={ Γ:=noΓ,ro:=0,base:=13,Q29:=jt_ [(3,K81.JC3)]}
def K81.gen:K81.T:=λv n=>
 (bif ine n 0 then (Q0 ((bif ilt (Q4K v n) 0 then some ((Q2 .i64 (Q4K v n) n,()),()) else some ((Q4K v n,()),()))) none λr0=>some (r0.1,((),()))) else none)
def K81:K81.T:=K81.gen
theorem K81.ok:NK_ 16 K81.sig (K81.W K81):=ok_ (H:=K81.H) (n:=6) Tryz.func16 (by intro a x;kernel_rfl) (hn_ Z2)
def Q41.sig:Sig U:=⟨[.int .u64],[],0,[.data .Q11],false,[]⟩
abbrev Q41.T:Type:=(Int)->Option ((Qb×Unit)×Unit×Unit)
def Q41.W (f:Q41.T):Q41.sig.F:=λa x=>f a.1
def Q41.H:Hints U:={ Γ:=noΓ,ro:=0,base:=13}
def Q41.gen:Q41.T:=λclock=>
 some ((Qb.mk clock 1 0 128 128 (QU.mk 248 254 65535) false 1 0 0 3 false false 5 700 300 20000 (Q1u.mk 37 8 160) false,()),((),()))
def Q41:Q41.T:=Q41.gen
theorem Q41.ok:NK_ 35 Q41.sig (Q41.W Q41):=ok_ (H:=Q41.H) (n:=6) Tryz.func35 (by intro a x;kernel_rfl) (hn_ Z2)
def K79.sig:Sig U:=⟨[.int .i64,.int .i64,.ptr],[.obj .Q40],1,[.int .i64],false,[]⟩
abbrev K79.T:Type:=(Int)->(Int)->(List (Int))->Option ((Int×Unit)×Unit×Unit)
def K79.W (f:K79.T):K79.sig.F:=λa x=>f a.1 a.2.1 x.1
def K79.H (cK81:K81.T):Hints U:={ Γ:=(Qp 16 (K81.sig.native (K81.W cK81)) noΓ),ro:=14,base:=14}
def K79.gen (cK81:K81.T):K79.T:=λi n h0=>
 (bif ilt i (ofN (List.length h0)) then (bif inR i (List.length h0) then (Q0 (cK81 (List.getD h0 (Int.toNat i) (0:D UC.int)) n) none λr0=>some (r0.1,((),()))) else none) else some (((-1:Int),()),((),())))
def K79:K79.T:=K79.gen K81
theorem K79.eq (cK81:K81.T):EqA K79.sig (K79.H cK81) Tryz.f36 6 (K79.W (K79.gen cK81)):=by intro a x;kernel_rfl
theorem K79.ok:NK_ 36 K79.sig (K79.W K79):=ok_ Tryz.func36 (K79.eq K81) (hn_ (Z0 Z2 K81.ok))
def K78.sig:Sig U:=⟨[.int .i64,.isl .int],[],0,[.data .Q11],false,[]⟩
abbrev K78.T:Type:=(Int)->(List (Int))->Option ((Qb×Unit)×Unit×Unit)
def K78.W (f:K78.T):K78.sig.F:=λa x=>f a.1 a.2.1
def K78.JC39:Qt U:= [(.normal,⟨115,15,[(4,.ptr 13 0 0),(5,.ptr 14 0 0)],[(13,.obj .Q11),(14,.obj .Q11)]⟩)]
def K78.Q6g:Qt U:= [(.normal,⟨115,16,[(4,.ptr 13 0 0),(5,.ptr 14 0 0),(6,.clo 36 [(15,0,0)])],[(13,.obj .Q11),(14,.obj .Q11),(15,.obj .Q40)]⟩)]
def K78.H (cK81:K81.T) (cK131:Q41.T) (cK79:K79.T):Hints U:={ Γ:=(Qp 36 (K79.sig.native (K79.W cK79)) (Qp 35 (Q41.sig.native (Q41.W cK131)) (Qp 16 (K81.sig.native (K81.W cK81)) noΓ))),ro:=0,base:=13,Q29:=jt_ [(5,K78.Q6g),(8,K78.Q6g),(11,K78.Q6g),(14,K78.Q6g),(17,K78.Q6g),(20,K78.Q6g),(23,K78.Q6g),(26,K78.Q6g),(31,K78.Q6g),(34,K78.Q6g),(39,K78.JC39)]}
def K78.gen (cK81:K81.T) (cK131:Q41.T) (cK79:K79.T):K78.T:=λid l=>
 (Q0 (cK81 id 1000) none λr0=>(Q0 (cK131 (IntKind.wrap .u64 (Q2 .i64 1 r0.1.1))) none λr1=>(Q0 (cK79 0 4 l) none λr2=>(Q0 ((bif ile 0 r2.1.1 then some ((),(Qb.mk 0 0 0 0 0 z1_ false 0 0 0 0 false false 0 0 0 0 z6_ false,(Qb.Q7A r1.1.1 (Q2 .i64 1 r2.1.1),(l,())))) else some ((),(Qb.mk 0 0 0 0 0 z1_ false 0 0 0 0 false false 0 0 0 0 z6_ false,(r1.1.1,(l,())))))) none λr3=>(Q0 (cK79 1 4 r3.2.2.2.1) none λr4=>(Q0 ((bif ile 0 r4.1.1 then some ((),(r3.2.1,(Qb.Q4C r3.2.2.1 (Q2 .i64 126 r4.1.1),r3.2.2.2))) else some ((),r3.2))) none λr5=>(Q0 (cK79 2 3 r5.2.2.2.1) none λr6=>(Q0 ((bif ile 0 r6.1.1 then (bif inR r6.1.1 3 then some ((),(r5.2.1,(Qb.Q4B r5.2.2.1 (QU.Q7C r5.2.2.1.QY (List.getD ((248:Int)::(6:Int)::(187:Int)::QG Int) (Int.toNat r6.1.1) 0)),r5.2.2.2))) else none) else some ((),r5.2))) none λr7=>(Q0 (cK79 3 4 r7.2.2.2.1) none λr8=>(Q0 ((bif ile 0 r8.1.1 then some ((),(r7.2.1,(Qb.Q8I r7.2.2.1 (Q1e .i64 r8.1.1 3),r7.2.2.2))) else some ((),r7.2))) none λr9=>(Q0 (cK79 4 4 r9.2.2.2.1) none λr10=>(Q0 ((bif ile 0 r10.1.1 then some ((),(r9.2.1,(Qb.Q8w r9.2.2.1 (Q1e .i64 r10.1.1 3),r9.2.2.2))) else some ((),r9.2))) none λr11=>(Q0 (cK79 5 4 r11.2.2.2.1) none λr12=>(Q0 ((bif ile 0 r12.1.1 then some ((),(r11.2.1,(Qb.Q80 r11.2.2.1 (Q1e .i64 r12.1.1 3),r11.2.2.2))) else some ((),r11.2))) none λr13=>(Q0 (cK79 6 4 r13.2.2.2.1) none λr14=>(Q0 ((bif ile 0 r14.1.1 then some ((),(r13.2.1,(Qb.Q8i r13.2.2.1 (Q2 .i64 2 r14.1.1),r13.2.2.2))) else some ((),r13.2))) none λr15=>(Q0 (cK79 7 16 r15.2.2.2.1) none λr16=>(Q0 ((bif ile 0 r16.1.1 then some ((),(r15.2.1,(Qb.Q9s (Qb.Q8r (Qb.Q9O r15.2.2.1 (ieq (Q50 .i64 r16.1.1 1) 1)) (ieq (Q50 .i64 r16.1.1 2) 2)) (ieq (Q50 .i64 r16.1.1 4) 4),r15.2.2.2))) else some ((),r15.2))) none λr17=>(Q0 (cK79 8 5 r17.2.2.2.1) none λr18=>(Q0 ((bif ile 0 r18.1.1 then (bif inR r18.1.1 5 then some ((),(r17.2.1,(Qb.Q9M r17.2.2.1 (List.getD ((20000:Int)::(0:Int)::(1:Int)::(1000000:Int)::(1000000000:Int)::QG Int) (Int.toNat r18.1.1) 0),r17.2.2.2))) else none) else some ((),r17.2))) none λr19=>(Q0 (cK79 9 6 r19.2.2.2.1) none λr20=>(Q0 ((bif ieq r20.1.1 5 then some ((),(r19.2.1,(Qb.Q7W (Qb.Q4B (Qb.Q7A r19.2.2.1 1) (QU.Q7C r19.2.2.1.QY 255)) true,r19.2.2.2))) else some ((),r19.2))) none λr21=>(Q0 (cK79 10 15 r21.2.2.2.1) none λr22=>(Q0 ((bif ile 0 r22.1.1 then some ((),(r21.2.1,(Qb.Q8K r21.2.2.1 (Q2 .i64 1 r22.1.1),()))) else some ((),(r21.2.1,(r21.2.2.1,()))))) none λr23=>some (r23.2.2,((),()))))))))))))))))))))))))))
def K78:K78.T:=K78.gen K81 Q41 K79
theorem K78.eq (cK81:K81.T) (cK131:Q41.T) (cK79:K79.T):EqA K78.sig (K78.H cK81 cK131 cK79) Tryz.f17 6 (K78.W (K78.gen cK81 cK131 cK79)):=by intro a x;kernel_rfl
theorem K78.ok:NK_ 17 K78.sig (K78.W K78):=ok_ Tryz.func17 (K78.eq K81 Q41 K79) (hn_ (Z0 (Z0 (Z0 Z2 K81.ok) Q41.ok) K79.ok))
def K80.sig:Sig U:=⟨[.isl .Q11],[],0,[.own .Q11],false,[.tok]⟩
abbrev K80.T:Type:=(List (Qb))->Option (((List (Qb))×Unit)×Unit×(Unit×Unit))
def K80.W (f:K80.T):K80.sig.F:=λa x=>f a.1
def K80.H:Hints U:={ Γ:=(Qp 6000000029 Z1e noΓ),ro:=0,base:=13}
def K80.gen:K80.T:=λl=>
 (bif room (List.length (QG Qb)+List.length l) 176 then some ((QG Qb++l,()),((),((),()))) else none)
def K80:K80.T:=K80.gen
theorem K80.ok:NK_ 9 K80.sig (K80.W K80):=ok_ (H:=K80.H) (n:=6) Tryz.func9 (by intro a x;kernel_rfl) (hn_ (Z0 Z2 Zd))
def Q3h.sig:Sig U:=⟨[.int .i64,.int .i64],[],0,[.int .i64],false,[]⟩
abbrev Q3h.T:Type:=(Int)->(Int)->Option ((Int×Unit)×Unit×Unit)
def Q3h.W (f:Q3h.T):Q3h.sig.F:=λa x=>f a.1 a.2.1
def Q3h.H:Hints U:={ Γ:=noΓ,ro:=0,base:=13}
def Q3h.gen:Q3h.T:=λn log=>
 (bif ieq (Z7 true (-3) (Z7 false log 4)) (-3) then some ((Q4c .i64 (Q4c .i64 (Q4c .i64 n 2) 2) 2,()),((),())) else (bif ieq (Z7 true (-3) (Z7 false log 4)) (-2) then some ((Q4c .i64 (Q4c .i64 n 2) 2,()),((),())) else (bif ieq (Z7 true (-3) (Z7 false log 4)) (-1) then some ((Q4c .i64 n 2,()),((),())) else (bif ile 0 (Z7 true (-3) (Z7 false log 4)) then some ((Q9d .i64 n (Z7 true (-3) (Z7 false log 4)),()),((),())) else none))))
def Q3h:Q3h.T:=Q3h.gen
theorem Q3h.ok:NK_ 67 Q3h.sig (Q3h.W Q3h):=ok_ (H:=Q3h.H) (n:=6) Tryz.func67 (by intro a x;kernel_rfl) (hn_ Z2)
def Q24.sig:Sig U:=⟨[.int .i64],[],0,[.int .i64],false,[]⟩
abbrev Q24.T:Type:=(Int)->Option ((Int×Unit)×Unit×Unit)
def Q24.W (f:Q24.T):Q24.sig.F:=λa x=>f a.1
abbrev Q24.N (c:Q24.T):=Qp 43 (Q24.sig.native (Q24.W c))
def Q24.H (cK152:Q3h.T):Hints U:={ Γ:=(Qp 67 (Q3h.sig.native (Q3h.W cK152)) noΓ),ro:=0,base:=13}
def Q24.gen (cK152:Q3h.T):Q24.T:=λlog=>
 (Q0 (cK152 8 log) none λr0=>some (r0.1,((),())))
def Q24:Q24.T:=Q24.gen Q3h
theorem Q24.eq (cK152:Q3h.T):EqA Q24.sig (Q24.H cK152) Tryz.f43 6 (Q24.W (Q24.gen cK152)):=by intro a x;kernel_rfl
theorem Q24.ok:NK_ 43 Q24.sig (Q24.W Q24):=ok_ Tryz.func43 (Q24.eq Q3h) (hn_ (Z0 Z2 Q3h.ok))
def Q1h.sig:Sig U:=⟨[.isl .Q11],[],0,[.int .i64],false,[]⟩
abbrev Q1h.T:Type:=(List (Qb))->Option ((Int×Unit)×Unit×Unit)
def Q1h.W (f:Q1h.T):Q1h.sig.F:=λa x=>f a.1
def Q1h.L0:Shape U:=⟨33,13,[(0,.val (.isl .Q11)),(3,vi_),(4,vi_),(7,.val (.isl .Q11)),(8,vi_),(9,vi_)],[]⟩
def Q1h.X0:Qt U:= [(.exit 0,⟨33,13,[(0,.val (.isl .Q11)),(3,vi_),(4,vi_)],[]⟩)]
abbrev Q1h.l0T:Type:=(((List (Qb))×Int×Int×(List (Qb))×Int×Int×Unit)×Unit)->Option ((((List (Qb))×Int×Int×Unit)×Unit))
def Q1h.C:Code:=match Tryz.f19.body with|some c=>c|none=>.skip
def Q1h.B0:Code:=match (Z3 Q1h.C).getD 0 .skip with| .loop b=>b| .scope b=>b|_=>.skip
def Q1h.H (cK151:Q24.T) (l0:Q1h.l0T):Hints U:={ Γ:=(Q24.N cK151 noΓ),ro:=0,base:=13,loop:=jt_ [(3,(Z6 (0,13) Q1h.L0 Q1h.X0 l0))]}
def Q1h.QW (cK151:Q24.T) (a:((List (Qb))×Int×Int×(List (Qb))×Int×Int×Unit)×Unit):Option ((((List (Qb))×Int×Int×(List (Qb))×Int×Int×Unit)×Unit)⊕((((List (Qb))×Int×Int×Unit)×Unit))):=
 (bif ilt a.1.2.2.2.2.2.1 a.1.2.2.2.2.1 then (bif inR a.1.2.2.2.2.2.1 (List.length a.1.2.2.2.1) then some (.inl ((a.1.1,(Z7 true a.1.2.1 (List.getD a.1.2.2.2.1 (Int.toNat a.1.2.2.2.2.2.1) Qb.zero).Q22,(Z7 true a.1.2.2.1 (List.getD a.1.2.2.2.1 (Int.toNat a.1.2.2.2.2.2.1) Qb.zero).Q2j,(a.1.2.2.2.1,(a.1.2.2.2.2.1,(Q2 .i64 a.1.2.2.2.2.2.1 1,())))))),())) else none) else some (.inr ((a.1.1,(a.1.2.1,(a.1.2.2.1,()))),())))
def Q1h.F0:Q1h.l0T:=λa=>Z8 (1000000+(a.1.1.length+a.1.2.2.2.1.length)) (Q1h.QW Q24) a
def Q1h.gen (cK151:Q24.T) (l0:Q1h.l0T):Q1h.T:=λconfs=>
 (Q0 (l0 ((confs,(0:Int),(-3:Int),confs,ofN (List.length confs),(0:Int),()),())) none λr0=>(Q0 (cK151 r0.1.2.2.1) none λr1=>some ((Q2A .i64 (Q2A .i64 (Q2A .i64 2 (Q2 .i64 (ofN (List.length r0.1.1)) 1)) (Q2 .i64 (Q2 .i64 r0.1.2.1 4) 4)) r1.1.1,()),((),()))))
def Q1h:Q1h.T:=Q1h.gen Q24 Q1h.F0
theorem Q1h.Q1O (cK151:Q24.T) (l0:Q1h.l0T) (a:Q1h.L0.T):run Tryz.prog (Q1h.H cK151 l0) 6 (Option (Q1h.L0.T⊕ExT Q1h.X0)) none Q1h.B0 (Q1h.L0.enc a) (Zc (0,13) Q1h.L0 Q1h.X0)=Q1h.QW cK151 a:=by kernel_rfl
abbrev Q1h.h:=Q1h.H Q24 Q1h.F0
theorem Q1h.Q1D:LO_ Q1h.h Q1h.B0 (Z6 (0,13) Q1h.L0 Q1h.X0 Q1h.F0):=lk_ (hn_ (Z0 Z2 Q24.ok)) (Q1h.Q1O Q24 Q1h.F0)
theorem Q1h.eq (cK151:Q24.T) (l0:Q1h.l0T):EqA Q1h.sig (Q1h.H cK151 l0) Tryz.f19 6 (Q1h.W (Q1h.gen cK151 l0)):=by intro a x;kernel_rfl
theorem Q1h.loops:Z3 Q1h.C= [(.loop Q1h.B0)]:=by kernel_rfl
theorem Q1h.ok:NK_ 19 Q1h.sig (Q1h.W Q1h):=ok_ Tryz.func19 (Q1h.eq Q24 Q1h.F0) (hl_ (Z0 Z2 Q24.ok) (Z4 (by kernel_rfl) Q1h.Q1D Z5)) Q1h.loops
def K48.sig:Sig U:=⟨[.int .u64],[],0,[.data .Q11],false,[]⟩
abbrev K48.T:Type:=(Int)->Option ((Qb×Unit)×Unit×Unit)
def K48.W (f:K48.T):K48.sig.F:=λa x=>f a.1
def K48.H:Hints U:={ Γ:=noΓ,ro:=0,base:=13}
def K48.gen:K48.T:=λclock=>
 some ((Qb.mk clock 1 0 128 128 (QU.mk 248 254 65535) false 1 0 0 3 false false 5 700 300 20000 (Q1u.mk 37 8 160) false,()),((),()))
def K48:K48.T:=K48.gen
theorem K48.ok:NK_ 27 K48.sig (K48.W K48):=ok_ (H:=K48.H) (n:=6) Tryz.func27 (by intro a x;kernel_rfl) (hn_ Z2)
def Qs.sig:Sig U:=⟨[.isl .Q11,.isl .Q1j],[],0,[.bool],false,[]⟩
abbrev Qs.T:Type:=(List (Qb))->(List (Qk))->Option ((Bool×Unit)×Unit×Unit)
def Qs.W (f:Qs.T):Qs.sig.F:=λa x=>f a.1 a.2.1
def Qs.L0:Shape U:=⟨120,13,[(0,.val (.isl .Q11)),(1,.val (.isl .Q1j)),(26,.val (.isl .Q11)),(27,vi_),(28,vi_)],[]⟩
def Qs.X0:Qt U:= [(.exit 0,⟨120,13,[(0,.val (.isl .Q11)),(1,.val (.isl .Q1j))],[]⟩),
 (.ret,⟨120,13,[(4,vb_)],[]⟩)]
abbrev Qs.l0T:Type:=(((List (Qb))×(List (Qk))×(List (Qb))×Int×Int×Unit)×Unit)->Option ((((List (Qb))×(List (Qk))×Unit)×Unit)⊕((Bool×Unit)×Unit))
def Qs.L1:Shape U:=⟨120,14,[(0,.val (.isl .Q11)),(1,.val (.isl .Q1j)),(6,.ptr 13 0 0),(26,.val (.isl .Q11)),(27,vi_),(28,vi_),(35,.val (.isl .Q11)),(36,vi_),(37,vi_)],[(13,.obj .Q11)]⟩
def Qs.X1:Qt U:= [(.exit 2,⟨120,13,[(0,.val (.isl .Q11)),(1,.val (.isl .Q1j)),(26,.val (.isl .Q11)),(27,vi_),(28,vi_)],[]⟩),
 (.ret,⟨120,13,[(4,vb_)],[]⟩)]
abbrev Qs.l1T:Type:=(((List (Qb))×(List (Qk))×(List (Qb))×Int×Int×(List (Qb))×Int×Int×Unit)×(Qb×Unit))->Option ((((List (Qb))×(List (Qk))×(List (Qb))×Int×Int×Unit)×Unit)⊕((Bool×Unit)×Unit))
def Qs.L2:Shape U:=⟨120,13,[(0,.val (.isl .Q11)),(1,.val (.isl .Q1j)),(48,.val (.isl .Q1j)),(49,vi_),(50,vi_)],[]⟩
def Qs.X2:Qt U:= [(.exit 4,⟨120,13,[],[]⟩),
 (.ret,⟨120,13,[(4,vb_)],[]⟩)]
abbrev Qs.l2T:Type:=(((List (Qb))×(List (Qk))×(List (Qk))×Int×Int×Unit)×Unit)->Option ((Unit×Unit)⊕((Bool×Unit)×Unit))
def Qs.L3:Shape U:=⟨120,14,[(0,.val (.isl .Q11)),(1,.val (.isl .Q1j)),(10,.ptr 13 0 0),(48,.val (.isl .Q1j)),(49,vi_),(50,vi_),(93,.val (.isl .Q1j)),(94,vi_),(95,vi_)],[(13,.obj .Q1j)]⟩
def Qs.X3:Qt U:= [(.exit 6,⟨120,13,[(0,.val (.isl .Q11)),(1,.val (.isl .Q1j)),(48,.val (.isl .Q1j)),(49,vi_),(50,vi_)],[]⟩),
 (.ret,⟨120,13,[(4,vb_)],[]⟩)]
abbrev Qs.l3T:Type:=(((List (Qb))×(List (Qk))×(List (Qk))×Int×Int×(List (Qk))×Int×Int×Unit)×(Qk×Unit))->Option ((((List (Qb))×(List (Qk))×(List (Qk))×Int×Int×Unit)×Unit)⊕((Bool×Unit)×Unit))
def Qs.C:Code:=match Tryz.f23.body with|some c=>c|none=>.skip
def Qs.B0:Code:=match (Z3 Qs.C).getD 0 .skip with| .loop b=>b| .scope b=>b|_=>.skip
def Qs.B1:Code:=match (Z3 Qs.C).getD 1 .skip with| .loop b=>b| .scope b=>b|_=>.skip
def Qs.B2:Code:=match (Z3 Qs.C).getD 2 .skip with| .loop b=>b| .scope b=>b|_=>.skip
def Qs.B3:Code:=match (Z3 Qs.C).getD 3 .skip with| .loop b=>b| .scope b=>b|_=>.skip
def Qs.H (l0:Qs.l0T) (l1:Qs.l1T) (l2:Qs.l2T) (l3:Qs.l3T):Hints U:={ Γ:=noΓ,ro:=0,base:=13,Q1T:=jt_ [(1,[(25,vb_)]),(16,[(90,vb_)]),(21,[(117,vb_)])],loop:=jt_ [(4,(Z6 (0,13) Qs.L0 Qs.X0 l0)),(7,(Z6 (0,13) Qs.L1 Qs.X1 l1)),(14,(Z6 (0,13) Qs.L2 Qs.X2 l2)),(19,(Z6 (0,13) Qs.L3 Qs.X3 l3))]}
def Qs.Q7D (a:((List (Qb))×(List (Qk))×(List (Qk))×Int×Int×(List (Qk))×Int×Int×Unit)×(Qk×Unit)):Option ((((List (Qb))×(List (Qk))×(List (Qk))×Int×Int×(List (Qk))×Int×Int×Unit)×(Qk×Unit))⊕((((List (Qb))×(List (Qk))×(List (Qk))×Int×Int×Unit)×Unit)⊕((Bool×Unit)×Unit))):=
 (bif ilt a.1.2.2.2.2.2.2.2.1 a.1.2.2.2.2.2.2.1 then (bif inR a.1.2.2.2.2.2.2.2.1 (List.length a.1.2.2.2.2.2.1) then (Q0 ((bif ieq a.2.1.QO (List.getD a.1.2.2.2.2.2.1 (Int.toNat a.1.2.2.2.2.2.2.2.1) Qk.zero).QO then (bif ieq a.2.1.Q18 (List.getD a.1.2.2.2.2.2.1 (Int.toNat a.1.2.2.2.2.2.2.2.1) Qk.zero).Q18 then some (true,()) else some (ieq a.2.1.Q4o (List.getD a.1.2.2.2.2.2.1 (Int.toNat a.1.2.2.2.2.2.2.2.1) Qk.zero).Q4o,())) else some (false,()))) none λr0=>(bif r0.1 then some (.inr (.inr ((false,()),()))) else some (.inl ((a.1.1,(a.1.2.1,(a.1.2.2.1,(a.1.2.2.2.1,(a.1.2.2.2.2.1,(a.1.2.2.2.2.2.1,(a.1.2.2.2.2.2.2.1,(Q2 .i64 a.1.2.2.2.2.2.2.2.1 1,())))))))),a.2)))) else none) else some (.inr (.inl ((a.1.1,(a.1.2.1,(a.1.2.2.1,(a.1.2.2.2.1,(a.1.2.2.2.2.1,()))))),()))))
def Qs.F3:Qs.l3T:=λa=>Z8 (1000000+(a.1.1.length+a.1.2.1.length+a.1.2.2.1.length+a.1.2.2.2.2.2.1.length)) (Qs.Q7D) a
def Qs.Q5x (l3:Qs.l3T) (a:((List (Qb))×(List (Qk))×(List (Qk))×Int×Int×Unit)×Unit):Option ((((List (Qb))×(List (Qk))×(List (Qk))×Int×Int×Unit)×Unit)⊕((Unit×Unit)⊕((Bool×Unit)×Unit))):=
 (bif ilt a.1.2.2.2.2.1 a.1.2.2.2.1 then (bif inR a.1.2.2.2.2.1 (List.length a.1.2.2.1) then (Q0 ((bif ilt (List.getD a.1.2.2.1 (Int.toNat a.1.2.2.2.2.1) Qk.zero).QO 0 then some (true,()) else (bif ile (ofN (List.length a.1.1)) (List.getD a.1.2.2.1 (Int.toNat a.1.2.2.2.2.1) Qk.zero).QO then some (true,()) else (bif ilt (List.getD a.1.2.2.1 (Int.toNat a.1.2.2.2.2.1) Qk.zero).Q4o 0 then some (true,()) else (bif ile 8 (List.getD a.1.2.2.1 (Int.toNat a.1.2.2.2.2.1) Qk.zero).Q4o then some (true,()) else (bif ilt (List.getD a.1.2.2.1 (Int.toNat a.1.2.2.2.2.1) Qk.zero).Q18 1 then some (true,()) else (bif inR (List.getD a.1.2.2.1 (Int.toNat a.1.2.2.2.2.1) Qk.zero).QO (List.length a.1.1) then some (ilt (List.getD a.1.1 (Int.toNat (List.getD a.1.2.2.1 (Int.toNat a.1.2.2.2.2.1) Qk.zero).QO) Qb.zero).Q2Z (List.getD a.1.2.2.1 (Int.toNat a.1.2.2.2.2.1) Qk.zero).Q18,()) else none))))))) none λr0=>(bif r0.1 then some (.inr (.inr ((false,()),()))) else (bif le3 (ofN 0) a.1.2.2.2.2.1 (List.length a.1.2.1) then (Q0 (l3 ((a.1.1,a.1.2.1,a.1.2.2.1,a.1.2.2.2.1,a.1.2.2.2.2.1,List.drop (Int.toNat (ofN 0)) (List.take (Int.toNat a.1.2.2.2.2.1) a.1.2.1),ofN (List.length (List.drop (Int.toNat (ofN 0)) (List.take (Int.toNat a.1.2.2.2.2.1) a.1.2.1))),(0:Int),()),List.getD a.1.2.2.1 (Int.toNat a.1.2.2.2.2.1) Qk.zero,())) none λr1=>(Q3B r1 (λr2=>some (.inl ((r2.1.1,(r2.1.2.1,(r2.1.2.2.1,(r2.1.2.2.2.1,(Q2 .i64 r2.1.2.2.2.2.1 1,()))))),()))) (λr2=>some (.inr (.inr r2))))) else none))) else none) else some (.inr (.inl ((),()))))
def Qs.F2:Qs.l2T:=λa=>Z8 (1000000+(a.1.1.length+a.1.2.1.length+a.1.2.2.1.length)) (Qs.Q5x Qs.F3) a
def Qs.Q2n (a:((List (Qb))×(List (Qk))×(List (Qb))×Int×Int×(List (Qb))×Int×Int×Unit)×(Qb×Unit)):Option ((((List (Qb))×(List (Qk))×(List (Qb))×Int×Int×(List (Qb))×Int×Int×Unit)×(Qb×Unit))⊕((((List (Qb))×(List (Qk))×(List (Qb))×Int×Int×Unit)×Unit)⊕((Bool×Unit)×Unit))):=
 (bif ilt a.1.2.2.2.2.2.2.2.1 a.1.2.2.2.2.2.2.1 then (bif inR a.1.2.2.2.2.2.2.2.1 (List.length a.1.2.2.2.2.2.1) then (bif ieq a.2.1.QO (List.getD a.1.2.2.2.2.2.1 (Int.toNat a.1.2.2.2.2.2.2.2.1) Qb.zero).QO then some (.inr (.inr ((false,()),()))) else some (.inl ((a.1.1,(a.1.2.1,(a.1.2.2.1,(a.1.2.2.2.1,(a.1.2.2.2.2.1,(a.1.2.2.2.2.2.1,(a.1.2.2.2.2.2.2.1,(Q2 .i64 a.1.2.2.2.2.2.2.2.1 1,())))))))),a.2))) else none) else some (.inr (.inl ((a.1.1,(a.1.2.1,(a.1.2.2.1,(a.1.2.2.2.1,(a.1.2.2.2.2.1,()))))),()))))
def Qs.F1:Qs.l1T:=λa=>Z8 (1000000+(a.1.1.length+a.1.2.1.length+a.1.2.2.1.length+a.1.2.2.2.2.2.1.length)) (Qs.Q2n) a
def Qs.QW (l1:Qs.l1T) (a:((List (Qb))×(List (Qk))×(List (Qb))×Int×Int×Unit)×Unit):Option ((((List (Qb))×(List (Qk))×(List (Qb))×Int×Int×Unit)×Unit)⊕((((List (Qb))×(List (Qk))×Unit)×Unit)⊕((Bool×Unit)×Unit))):=
 (bif ilt a.1.2.2.2.2.1 a.1.2.2.2.1 then (bif inR a.1.2.2.2.2.1 (List.length a.1.2.2.1) then (bif le3 (ofN 0) a.1.2.2.2.2.1 (List.length a.1.1) then (Q0 (l1 ((a.1.1,a.1.2.1,a.1.2.2.1,a.1.2.2.2.1,a.1.2.2.2.2.1,List.drop (Int.toNat (ofN 0)) (List.take (Int.toNat a.1.2.2.2.2.1) a.1.1),ofN (List.length (List.drop (Int.toNat (ofN 0)) (List.take (Int.toNat a.1.2.2.2.2.1) a.1.1))),(0:Int),()),List.getD a.1.2.2.1 (Int.toNat a.1.2.2.2.2.1) Qb.zero,())) none λr0=>(Q3B r0 (λr1=>some (.inl ((r1.1.1,(r1.1.2.1,(r1.1.2.2.1,(r1.1.2.2.2.1,(Q2 .i64 r1.1.2.2.2.2.1 1,()))))),()))) (λr1=>some (.inr (.inr r1))))) else none) else none) else some (.inr (.inl ((a.1.1,(a.1.2.1,())),()))))
def Qs.F0:Qs.l0T:=λa=>Z8 (1000000+(a.1.1.length+a.1.2.1.length+a.1.2.2.1.length)) (Qs.QW Qs.F1) a
def Qs.gen (l0:Qs.l0T) (l1:Qs.l1T) (l2:Qs.l2T) (l3:Qs.l3T):Qs.T:=λconfs plugs=>
 (Q0 ((bif ilt (ofN (List.length confs)) 1 then some (true,()) else (bif ilt 8 (ofN (List.length confs)) then some (true,()) else some (ilt 32 (ofN (List.length plugs)),())))) none λr0=>(bif r0.1 then some ((false,()),((),())) else (Q0 (l0 ((confs,plugs,confs,ofN (List.length confs),(0:Int),()),())) none λr1=>(Q3B r1 (λr2=>(Q0 (l2 ((r2.1.1,r2.1.2.1,r2.1.2.1,ofN (List.length r2.1.2.1),(0:Int),()),())) none λr3=>(Q3B r3 (λr4=>some ((true,()),((),()))) (λr4=>some (r4.1,((),())))))) (λr2=>some (r2.1,((),())))))))
def Qs:Qs.T:=Qs.gen Qs.F0 Qs.F1 Qs.F2 Qs.F3
theorem Qs.seq3 (l0:Qs.l0T) (l1:Qs.l1T) (l2:Qs.l2T) (l3:Qs.l3T) (a:Qs.L3.T):run Tryz.prog (Qs.H l0 l1 l2 l3) 6 (Option (Qs.L3.T⊕ExT Qs.X3)) none Qs.B3 (Qs.L3.enc a) (Zc (0,13) Qs.L3 Qs.X3)=Qs.Q7D a:=by kernel_rfl
abbrev Qs.h:=Qs.H Qs.F0 Qs.F1 Qs.F2 Qs.F3
theorem Qs.Q7S:LO_ Qs.h Qs.B3 (Z6 (0,13) Qs.L3 Qs.X3 Qs.F3):=lk_ (hn_ Z2) (Qs.seq3 Qs.F0 Qs.F1 Qs.F2 Qs.F3)
theorem Qs.Q7m (l0:Qs.l0T) (l1:Qs.l1T) (l2:Qs.l2T) (l3:Qs.l3T) (a:Qs.L2.T):run Tryz.prog (Qs.H l0 l1 l2 l3) 6 (Option (Qs.L2.T⊕ExT Qs.X2)) none Qs.B2 (Qs.L2.enc a) (Zc (0,13) Qs.L2 Qs.X2)=Qs.Q5x l3 a:=by kernel_rfl
theorem Qs.Q70:Z3 Qs.B2= [(.loop Qs.B3)]:=by kernel_rfl
theorem Qs.Q6I:ZA U Tryz.prog Qs.h.ro Qs.h.base Qs.B2 (Z6 (0,13) Qs.L2 Qs.X2 Qs.F2):=
 Z1b (Hn:=Qs.h) Q3X Q2t (ZY (hq Z2 (Z4 (by kernel_rfl) Qs.Q7S Z5) (λ_=>rfl) (λ_=>rfl)) 6) (λb h=>by rw [Qs.Q70] at h;exact h) (λ_=>rfl) (Qs.Q7m Qs.F0 Qs.F1 Qs.F2 Qs.F3)
theorem Qs.seq1 (l0:Qs.l0T) (l1:Qs.l1T) (l2:Qs.l2T) (l3:Qs.l3T) (a:Qs.L1.T):run Tryz.prog (Qs.H l0 l1 l2 l3) 6 (Option (Qs.L1.T⊕ExT Qs.X1)) none Qs.B1 (Qs.L1.enc a) (Zc (0,13) Qs.L1 Qs.X1)=Qs.Q2n a:=by kernel_rfl
theorem Qs.Q3z:LO_ Qs.h Qs.B1 (Z6 (0,13) Qs.L1 Qs.X1 Qs.F1):=lk_ (hn_ Z2) (Qs.seq1 Qs.F0 Qs.F1 Qs.F2 Qs.F3)
theorem Qs.Q1O (l0:Qs.l0T) (l1:Qs.l1T) (l2:Qs.l2T) (l3:Qs.l3T) (a:Qs.L0.T):run Tryz.prog (Qs.H l0 l1 l2 l3) 6 (Option (Qs.L0.T⊕ExT Qs.X0)) none Qs.B0 (Qs.L0.enc a) (Zc (0,13) Qs.L0 Qs.X0)=Qs.QW l1 a:=by kernel_rfl
theorem Qs.Q3V:Z3 Qs.B0= [(.loop Qs.B1)]:=by kernel_rfl
theorem Qs.Q1D:ZA U Tryz.prog Qs.h.ro Qs.h.base Qs.B0 (Z6 (0,13) Qs.L0 Qs.X0 Qs.F0):=
 Z1b (Hn:=Qs.h) Q3X Q2t (ZY (hq Z2 (Z4 (by kernel_rfl) Qs.Q3z Z5) (λ_=>rfl) (λ_=>rfl)) 6) (λb h=>by rw [Qs.Q3V] at h;exact h) (λ_=>rfl) (Qs.Q1O Qs.F0 Qs.F1 Qs.F2 Qs.F3)
theorem Qs.eq (l0:Qs.l0T) (l1:Qs.l1T) (l2:Qs.l2T) (l3:Qs.l3T):EqA Qs.sig (Qs.H l0 l1 l2 l3) Tryz.f23 6 (Qs.W (Qs.gen l0 l1 l2 l3)):=by intro a x;kernel_rfl
theorem Qs.loops:Z3 Qs.C= [(.loop Qs.B0),(.loop Qs.B1),(.loop Qs.B2),(.loop Qs.B3)]:=by kernel_rfl
theorem Qs.ok:NK_ 23 Qs.sig (Qs.W Qs):=ok_ Tryz.func23 (Qs.eq Qs.F0 Qs.F1 Qs.F2 Qs.F3) (hl_ Z2 (Z4 (by kernel_rfl) Qs.Q1D (Z4 (by kernel_rfl) Qs.Q3z (Z4 (by kernel_rfl) Qs.Q6I (Z4 (by kernel_rfl) Qs.Q7S Z5))))) Qs.loops
def Q2L.sig:Sig U:=⟨[.data .Q2y],[],0,[.bool],false,[]⟩
abbrev Q2L.T:Type:=(QU)->Option ((Bool×Unit)×Unit×Unit)
def Q2L.W (f:Q2L.T):Q2L.sig.F:=λa x=>f a.1
abbrev Q2L.N (c:Q2L.T):=Qp 69 (Q2L.sig.native (Q2L.W c))
def Q2L.H:Hints U:={ Γ:=noΓ,ro:=0,base:=13}
def Q2L.gen:Q2L.T:=λq=>
 (bif ile 0 q.Q2Y then (bif ile q.Q2Y 255 then (bif ile 0 q.Q2l then (bif ile q.Q2l 255 then (bif ile 0 q.Q2k then some ((ile q.Q2k 65535,()),((),())) else some ((false,()),((),()))) else some ((false,()),((),()))) else some ((false,()),((),()))) else some ((false,()),((),()))) else some ((false,()),((),())))
def Q2L:Q2L.T:=Q2L.gen
theorem Q2L.ok:NK_ 69 Q2L.sig (Q2L.W Q2L):=ok_ (H:=Q2L.H) (n:=6) Tryz.func69 (by intro a x;kernel_rfl) (hn_ Z2)
def K47.sig:Sig U:=⟨[.data .Q11],[],0,[.int .i64],false,[]⟩
abbrev K47.T:Type:=(Qb)->Option ((Int×Unit)×Unit×Unit)
def K47.W (f:K47.T):K47.sig.F:=λa x=>f a.1
def K47.C:Code:=match Tryz.f48.body with|some c=>c|none=>.skip
def K47.B0:Code:=match (Z3 K47.C).getD 0 .skip with| .loop b=>b| .scope b=>b|_=>.skip
def K47.U0 (cK129:Q2L.T):Hints U:={ Γ:=(Q2L.N cK129 noΓ),ro:=0,base:=13,Q1T:=jt_ [(4,[(68,vb_)]),(7,[(70,vb_)]),(9,[(85,vb_)])],loop:=λb=>none}
def K47.H (cK129:Q2L.T):Hints U:={ Γ:=(Q2L.N cK129 noΓ),ro:=0,base:=13,Q1T:=jt_ [(4,[(68,vb_)]),(7,[(70,vb_)]),(9,[(85,vb_)])],loop:=jt_ [(2,(Z21 Tryz.prog (K47.U0 cK129) 6 K47.B0 17))]}
def K47.gen (cK129:Q2L.T):K47.T:=λc=>
 (Q0 ((bif ilt (List.getD (Q3t c) (Int.toNat 0) 0) (List.getD z8_ (Int.toNat 0) 0) then some (true,()) else some (ilt (List.getD z9_ (Int.toNat 0) 0) (List.getD (Q3t c) (Int.toNat 0) 0),()))) none λr0=>(bif r0.1 then some (((15:Int),()),((),())) else (Q0 ((bif ilt (List.getD (Q3t c) (Int.toNat (Q2 .i64 0 1)) 0) (List.getD z8_ (Int.toNat (Q2 .i64 0 1)) 0) then some (true,()) else some (ilt (List.getD z9_ (Int.toNat (Q2 .i64 0 1)) 0) (List.getD (Q3t c) (Int.toNat (Q2 .i64 0 1)) 0),()))) none λr1=>(bif r1.1 then some (((15:Int),()),((),())) else (Q0 ((bif ilt (List.getD (Q3t c) (Int.toNat (Q2 .i64 (Q2 .i64 0 1) 1)) 0) (List.getD z8_ (Int.toNat (Q2 .i64 (Q2 .i64 0 1) 1)) 0) then some (true,()) else some (ilt (List.getD z9_ (Int.toNat (Q2 .i64 (Q2 .i64 0 1) 1)) 0) (List.getD (Q3t c) (Int.toNat (Q2 .i64 (Q2 .i64 0 1) 1)) 0),()))) none λr2=>(bif r2.1 then some (((15:Int),()),((),())) else (Q0 ((bif ilt (List.getD (Q3t c) (Int.toNat (Q2 .i64 (Q2 .i64 (Q2 .i64 0 1) 1) 1)) 0) (List.getD z8_ (Int.toNat (Q2 .i64 (Q2 .i64 (Q2 .i64 0 1) 1) 1)) 0) then some (true,()) else some (ilt (List.getD z9_ (Int.toNat (Q2 .i64 (Q2 .i64 (Q2 .i64 0 1) 1) 1)) 0) (List.getD (Q3t c) (Int.toNat (Q2 .i64 (Q2 .i64 (Q2 .i64 0 1) 1) 1)) 0),()))) none λr3=>(bif r3.1 then some (((15:Int),()),((),())) else (Q0 ((bif ilt (List.getD (Q3t c) (Int.toNat (Q2 .i64 (Q2 .i64 (Q2 .i64 (Q2 .i64 0 1) 1) 1) 1)) 0) (List.getD z8_ (Int.toNat (Q2 .i64 (Q2 .i64 (Q2 .i64 (Q2 .i64 0 1) 1) 1) 1)) 0) then some (true,()) else some (ilt (List.getD z9_ (Int.toNat (Q2 .i64 (Q2 .i64 (Q2 .i64 (Q2 .i64 0 1) 1) 1) 1)) 0) (List.getD (Q3t c) (Int.toNat (Q2 .i64 (Q2 .i64 (Q2 .i64 (Q2 .i64 0 1) 1) 1) 1)) 0),()))) none λr4=>(bif r4.1 then some (((15:Int),()),((),())) else (Q0 ((bif ilt (List.getD (Q3t c) (Int.toNat (Q2 .i64 (Q2 .i64 (Q2 .i64 (Q2 .i64 (Q2 .i64 0 1) 1) 1) 1) 1)) 0) (List.getD z8_ (Int.toNat (Q2 .i64 (Q2 .i64 (Q2 .i64 (Q2 .i64 (Q2 .i64 0 1) 1) 1) 1) 1)) 0) then some (true,()) else some (ilt (List.getD z9_ (Int.toNat (Q2 .i64 (Q2 .i64 (Q2 .i64 (Q2 .i64 (Q2 .i64 0 1) 1) 1) 1) 1)) 0) (List.getD (Q3t c) (Int.toNat (Q2 .i64 (Q2 .i64 (Q2 .i64 (Q2 .i64 (Q2 .i64 0 1) 1) 1) 1) 1)) 0),()))) none λr5=>(bif r5.1 then some (((15:Int),()),((),())) else (Q0 ((bif ilt (List.getD (Q3t c) (Int.toNat (Q2 .i64 (Q2 .i64 (Q2 .i64 (Q2 .i64 (Q2 .i64 (Q2 .i64 0 1) 1) 1) 1) 1) 1)) 0) (List.getD z8_ (Int.toNat (Q2 .i64 (Q2 .i64 (Q2 .i64 (Q2 .i64 (Q2 .i64 (Q2 .i64 0 1) 1) 1) 1) 1) 1)) 0) then some (true,()) else some (ilt (List.getD z9_ (Int.toNat (Q2 .i64 (Q2 .i64 (Q2 .i64 (Q2 .i64 (Q2 .i64 (Q2 .i64 0 1) 1) 1) 1) 1) 1)) 0) (List.getD (Q3t c) (Int.toNat (Q2 .i64 (Q2 .i64 (Q2 .i64 (Q2 .i64 (Q2 .i64 (Q2 .i64 0 1) 1) 1) 1) 1) 1)) 0),()))) none λr6=>(bif r6.1 then some (((15:Int),()),((),())) else (Q0 ((bif ilt (List.getD (Q3t c) (Int.toNat (Q2 .i64 (Q2 .i64 (Q2 .i64 (Q2 .i64 (Q2 .i64 (Q2 .i64 (Q2 .i64 0 1) 1) 1) 1) 1) 1) 1)) 0) (List.getD z8_ (Int.toNat (Q2 .i64 (Q2 .i64 (Q2 .i64 (Q2 .i64 (Q2 .i64 (Q2 .i64 (Q2 .i64 0 1) 1) 1) 1) 1) 1) 1)) 0) then some (true,()) else some (ilt (List.getD z9_ (Int.toNat (Q2 .i64 (Q2 .i64 (Q2 .i64 (Q2 .i64 (Q2 .i64 (Q2 .i64 (Q2 .i64 0 1) 1) 1) 1) 1) 1) 1)) 0) (List.getD (Q3t c) (Int.toNat (Q2 .i64 (Q2 .i64 (Q2 .i64 (Q2 .i64 (Q2 .i64 (Q2 .i64 (Q2 .i64 0 1) 1) 1) 1) 1) 1) 1)) 0),()))) none λr7=>(bif r7.1 then some (((15:Int),()),((),())) else (Q0 ((bif ilt (List.getD (Q3t c) (Int.toNat (Q2 .i64 (Q2 .i64 (Q2 .i64 (Q2 .i64 (Q2 .i64 (Q2 .i64 (Q2 .i64 (Q2 .i64 0 1) 1) 1) 1) 1) 1) 1) 1)) 0) (List.getD z8_ (Int.toNat (Q2 .i64 (Q2 .i64 (Q2 .i64 (Q2 .i64 (Q2 .i64 (Q2 .i64 (Q2 .i64 (Q2 .i64 0 1) 1) 1) 1) 1) 1) 1) 1)) 0) then some (true,()) else some (ilt (List.getD z9_ (Int.toNat (Q2 .i64 (Q2 .i64 (Q2 .i64 (Q2 .i64 (Q2 .i64 (Q2 .i64 (Q2 .i64 (Q2 .i64 0 1) 1) 1) 1) 1) 1) 1) 1)) 0) (List.getD (Q3t c) (Int.toNat (Q2 .i64 (Q2 .i64 (Q2 .i64 (Q2 .i64 (Q2 .i64 (Q2 .i64 (Q2 .i64 (Q2 .i64 0 1) 1) 1) 1) 1) 1) 1) 1)) 0),()))) none λr8=>(bif r8.1 then some (((15:Int),()),((),())) else (Q0 ((bif ilt (List.getD (Q3t c) (Int.toNat (Q2 .i64 (Q2 .i64 (Q2 .i64 (Q2 .i64 (Q2 .i64 (Q2 .i64 (Q2 .i64 (Q2 .i64 (Q2 .i64 0 1) 1) 1) 1) 1) 1) 1) 1) 1)) 0) (List.getD z8_ (Int.toNat (Q2 .i64 (Q2 .i64 (Q2 .i64 (Q2 .i64 (Q2 .i64 (Q2 .i64 (Q2 .i64 (Q2 .i64 (Q2 .i64 0 1) 1) 1) 1) 1) 1) 1) 1) 1)) 0) then some (true,()) else some (ilt (List.getD z9_ (Int.toNat (Q2 .i64 (Q2 .i64 (Q2 .i64 (Q2 .i64 (Q2 .i64 (Q2 .i64 (Q2 .i64 (Q2 .i64 (Q2 .i64 0 1) 1) 1) 1) 1) 1) 1) 1) 1)) 0) (List.getD (Q3t c) (Int.toNat (Q2 .i64 (Q2 .i64 (Q2 .i64 (Q2 .i64 (Q2 .i64 (Q2 .i64 (Q2 .i64 (Q2 .i64 (Q2 .i64 0 1) 1) 1) 1) 1) 1) 1) 1) 1)) 0),()))) none λr9=>(bif r9.1 then some (((15:Int),()),((),())) else (Q0 ((bif ilt (List.getD (Q3t c) (Int.toNat (Q2 .i64 (Q2 .i64 (Q2 .i64 (Q2 .i64 (Q2 .i64 (Q2 .i64 (Q2 .i64 (Q2 .i64 (Q2 .i64 (Q2 .i64 0 1) 1) 1) 1) 1) 1) 1) 1) 1) 1)) 0) (List.getD z8_ (Int.toNat (Q2 .i64 (Q2 .i64 (Q2 .i64 (Q2 .i64 (Q2 .i64 (Q2 .i64 (Q2 .i64 (Q2 .i64 (Q2 .i64 (Q2 .i64 0 1) 1) 1) 1) 1) 1) 1) 1) 1) 1)) 0) then some (true,()) else some (ilt (List.getD z9_ (Int.toNat (Q2 .i64 (Q2 .i64 (Q2 .i64 (Q2 .i64 (Q2 .i64 (Q2 .i64 (Q2 .i64 (Q2 .i64 (Q2 .i64 (Q2 .i64 0 1) 1) 1) 1) 1) 1) 1) 1) 1) 1)) 0) (List.getD (Q3t c) (Int.toNat (Q2 .i64 (Q2 .i64 (Q2 .i64 (Q2 .i64 (Q2 .i64 (Q2 .i64 (Q2 .i64 (Q2 .i64 (Q2 .i64 (Q2 .i64 0 1) 1) 1) 1) 1) 1) 1) 1) 1) 1)) 0),()))) none λr10=>(bif r10.1 then some (((15:Int),()),((),())) else (Q0 ((bif ilt (List.getD (Q3t c) (Int.toNat (Q2 .i64 (Q2 .i64 (Q2 .i64 (Q2 .i64 (Q2 .i64 (Q2 .i64 (Q2 .i64 (Q2 .i64 (Q2 .i64 (Q2 .i64 (Q2 .i64 0 1) 1) 1) 1) 1) 1) 1) 1) 1) 1) 1)) 0) (List.getD z8_ (Int.toNat (Q2 .i64 (Q2 .i64 (Q2 .i64 (Q2 .i64 (Q2 .i64 (Q2 .i64 (Q2 .i64 (Q2 .i64 (Q2 .i64 (Q2 .i64 (Q2 .i64 0 1) 1) 1) 1) 1) 1) 1) 1) 1) 1) 1)) 0) then some (true,()) else some (ilt (List.getD z9_ (Int.toNat (Q2 .i64 (Q2 .i64 (Q2 .i64 (Q2 .i64 (Q2 .i64 (Q2 .i64 (Q2 .i64 (Q2 .i64 (Q2 .i64 (Q2 .i64 (Q2 .i64 0 1) 1) 1) 1) 1) 1) 1) 1) 1) 1) 1)) 0) (List.getD (Q3t c) (Int.toNat (Q2 .i64 (Q2 .i64 (Q2 .i64 (Q2 .i64 (Q2 .i64 (Q2 .i64 (Q2 .i64 (Q2 .i64 (Q2 .i64 (Q2 .i64 (Q2 .i64 0 1) 1) 1) 1) 1) 1) 1) 1) 1) 1) 1)) 0),()))) none λr11=>(bif r11.1 then some (((15:Int),()),((),())) else (Q0 ((bif ilt (List.getD (Q3t c) (Int.toNat (Q2 .i64 (Q2 .i64 (Q2 .i64 (Q2 .i64 (Q2 .i64 (Q2 .i64 (Q2 .i64 (Q2 .i64 (Q2 .i64 (Q2 .i64 (Q2 .i64 (Q2 .i64 0 1) 1) 1) 1) 1) 1) 1) 1) 1) 1) 1) 1)) 0) (List.getD z8_ (Int.toNat (Q2 .i64 (Q2 .i64 (Q2 .i64 (Q2 .i64 (Q2 .i64 (Q2 .i64 (Q2 .i64 (Q2 .i64 (Q2 .i64 (Q2 .i64 (Q2 .i64 (Q2 .i64 0 1) 1) 1) 1) 1) 1) 1) 1) 1) 1) 1) 1)) 0) then some (true,()) else some (ilt (List.getD z9_ (Int.toNat (Q2 .i64 (Q2 .i64 (Q2 .i64 (Q2 .i64 (Q2 .i64 (Q2 .i64 (Q2 .i64 (Q2 .i64 (Q2 .i64 (Q2 .i64 (Q2 .i64 (Q2 .i64 0 1) 1) 1) 1) 1) 1) 1) 1) 1) 1) 1) 1)) 0) (List.getD (Q3t c) (Int.toNat (Q2 .i64 (Q2 .i64 (Q2 .i64 (Q2 .i64 (Q2 .i64 (Q2 .i64 (Q2 .i64 (Q2 .i64 (Q2 .i64 (Q2 .i64 (Q2 .i64 (Q2 .i64 0 1) 1) 1) 1) 1) 1) 1) 1) 1) 1) 1) 1)) 0),()))) none λr12=>(bif r12.1 then some (((15:Int),()),((),())) else (Q0 ((bif ilt (List.getD (Q3t c) (Int.toNat (Q2 .i64 (Q2 .i64 (Q2 .i64 (Q2 .i64 (Q2 .i64 (Q2 .i64 (Q2 .i64 (Q2 .i64 (Q2 .i64 (Q2 .i64 (Q2 .i64 (Q2 .i64 (Q2 .i64 0 1) 1) 1) 1) 1) 1) 1) 1) 1) 1) 1) 1) 1)) 0) (List.getD z8_ (Int.toNat (Q2 .i64 (Q2 .i64 (Q2 .i64 (Q2 .i64 (Q2 .i64 (Q2 .i64 (Q2 .i64 (Q2 .i64 (Q2 .i64 (Q2 .i64 (Q2 .i64 (Q2 .i64 (Q2 .i64 0 1) 1) 1) 1) 1) 1) 1) 1) 1) 1) 1) 1) 1)) 0) then some (true,()) else some (ilt (List.getD z9_ (Int.toNat (Q2 .i64 (Q2 .i64 (Q2 .i64 (Q2 .i64 (Q2 .i64 (Q2 .i64 (Q2 .i64 (Q2 .i64 (Q2 .i64 (Q2 .i64 (Q2 .i64 (Q2 .i64 (Q2 .i64 0 1) 1) 1) 1) 1) 1) 1) 1) 1) 1) 1) 1) 1)) 0) (List.getD (Q3t c) (Int.toNat (Q2 .i64 (Q2 .i64 (Q2 .i64 (Q2 .i64 (Q2 .i64 (Q2 .i64 (Q2 .i64 (Q2 .i64 (Q2 .i64 (Q2 .i64 (Q2 .i64 (Q2 .i64 (Q2 .i64 0 1) 1) 1) 1) 1) 1) 1) 1) 1) 1) 1) 1) 1)) 0),()))) none λr13=>(bif r13.1 then some (((15:Int),()),((),())) else (Q0 ((bif ilt (List.getD (Q3t c) (Int.toNat (Q2 .i64 (Q2 .i64 (Q2 .i64 (Q2 .i64 (Q2 .i64 (Q2 .i64 (Q2 .i64 (Q2 .i64 (Q2 .i64 (Q2 .i64 (Q2 .i64 (Q2 .i64 (Q2 .i64 (Q2 .i64 0 1) 1) 1) 1) 1) 1) 1) 1) 1) 1) 1) 1) 1) 1)) 0) (List.getD z8_ (Int.toNat (Q2 .i64 (Q2 .i64 (Q2 .i64 (Q2 .i64 (Q2 .i64 (Q2 .i64 (Q2 .i64 (Q2 .i64 (Q2 .i64 (Q2 .i64 (Q2 .i64 (Q2 .i64 (Q2 .i64 (Q2 .i64 0 1) 1) 1) 1) 1) 1) 1) 1) 1) 1) 1) 1) 1) 1)) 0) then some (true,()) else some (ilt (List.getD z9_ (Int.toNat (Q2 .i64 (Q2 .i64 (Q2 .i64 (Q2 .i64 (Q2 .i64 (Q2 .i64 (Q2 .i64 (Q2 .i64 (Q2 .i64 (Q2 .i64 (Q2 .i64 (Q2 .i64 (Q2 .i64 (Q2 .i64 0 1) 1) 1) 1) 1) 1) 1) 1) 1) 1) 1) 1) 1) 1)) 0) (List.getD (Q3t c) (Int.toNat (Q2 .i64 (Q2 .i64 (Q2 .i64 (Q2 .i64 (Q2 .i64 (Q2 .i64 (Q2 .i64 (Q2 .i64 (Q2 .i64 (Q2 .i64 (Q2 .i64 (Q2 .i64 (Q2 .i64 (Q2 .i64 0 1) 1) 1) 1) 1) 1) 1) 1) 1) 1) 1) 1) 1) 1)) 0),()))) none λr14=>(bif r14.1 then some (((15:Int),()),((),())) else (Q0 ((bif ieq c.QO 0 then some (true,()) else (bif ieq c.QO 18446744073709551615 then some (true,()) else (Q0 (cK129 c.QY) none λr15=>some (!r15.1.1,()))))) none λr16=>(bif r16.1 then some (((15:Int),()),((),())) else (Q0 ((bif c.Q3u then (bif ilt 1 c.Q2Z then some (true,()) else some (ine c.QY.Q2Y 255,())) else some (false,()))) none λr17=>(bif r17.1 then some (((15:Int),()),((),())) else some (((0:Int),()),((),()))))))))))))))))))))))))))))))))))))
def K47:K47.T:=K47.gen Q2L
theorem K47.Q3V:Z3 K47.B0= []:=by kernel_rfl
abbrev K47.h:=K47.H Q2L
theorem K47.Q1D:ZA U Tryz.prog K47.h.ro K47.h.base K47.B0 (Z21 Tryz.prog (K47.U0 Q2L) 6 K47.B0 17):=
 Z2C (Hn:=(K47.U0 Q2L)) (L:=λc=>c∈([]:List Code)) (hq (Z0 Z2 Q2L.ok) Z5 (λ_=>rfl) (λ_=>rfl)) (λb h=>by rw [K47.Q3V] at h;exact h) 17
theorem K47.eq (cK129:Q2L.T):EqA K47.sig (K47.H cK129) Tryz.f48 6 (K47.W (K47.gen cK129)):=by intro a x;kernel_rfl
theorem K47.loops:Z3 K47.C= [(.loop K47.B0)]:=by kernel_rfl
theorem K47.ok:NK_ 48 K47.sig (K47.W K47):=ok_ Tryz.func48 (K47.eq Q2L) (hl_ (Z0 Z2 Q2L.ok) (Z4 (by kernel_rfl) K47.Q1D Z5)) K47.loops
def Q1X.sig:Sig U:=⟨[.data .Q11],[],0,[.data .Q1x],false,[]⟩
abbrev Q1X.T:Type:=(Qb)->Option ((QX×Unit)×Unit×Unit)
def Q1X.W (f:Q1X.T):Q1X.sig.F:=λa x=>f a.1
abbrev Q1X.N (c:Q1X.T):=Qp 70 (Q1X.sig.native (Q1X.W c))
def Q1X.H:Hints U:={ Γ:=noΓ,ro:=0,base:=13}
def Q1X.gen:Q1X.T:=λc=>
 some ((QX.mk (Q9.mk c.QO 0) c.QO c.QY c.Q1y c.Q1C 0 c.Q2q,()),((),()))
def Q1X:Q1X.T:=Q1X.gen
theorem Q1X.ok:NK_ 70 Q1X.sig (Q1X.W Q1X):=ok_ (H:=Q1X.H) (n:=6) Tryz.func70 (by intro a x;kernel_rfl) (hn_ Z2)
def Q3A.sig:Sig U:=⟨[.int .i64,.int .i64,.int .i64],[Q54],0,[.ref 1],false,[]⟩
abbrev Q3A.T:Type:=(Int)->(Int)->(Int)->(Fm Qd)->Option (((Option Nat)×Unit)×((Fm Qd)×Unit)×Unit)
def Q3A.W (f:Q3A.T):Q3A.sig.F:=λa x=>f a.1 a.2.1 a.2.2.1 x.1
def Q3A.H:Hints U:={ Γ:=noΓ,ro:=0,base:=13}
def Q3A.gen:Q3A.T:=λkp ki step g1=>
 some ((some g1.1,()),(((g1.1+1,QA g1.2 g1.1 (Qd.mk (Z7 true 0 (Z7 false kp 2000)) (Z7 true 0 (Z7 false ki 2000)) (Z7 true 0 (Z7 false step 1000000000)) 0 0 0 0)),()),()))
def Q3A:Q3A.T:=Q3A.gen
theorem Q3A.ok:NK_ 71 Q3A.sig (Q3A.W Q3A):=ok_ (H:=Q3A.H) (n:=6) Tryz.func71 (by intro a x;kernel_rfl) (hn_ Z2)
def K95.sig:Sig U:=⟨[.int .i64],[Q4z],0,[.ref 5],false,[]⟩
abbrev K95.T:Type:=(Int)->(Fm Q8)->Option (((Option Nat)×Unit)×((Fm Q8)×Unit)×Unit)
def K95.W (f:K95.T):K95.sig.F:=λa x=>f a.1 x.1
def K95.H:Hints U:={ Γ:=noΓ,ro:=0,base:=13}
def K95.gen:K95.T:=λn g5=>
 some ((some g5.1,()),(((g5.1+1,QA g5.2 g5.1 (Q8.mk (λ(j:Nat)=>List.getD ((0:Int)::(0:Int)::(0:Int)::(0:Int)::(0:Int)::(0:Int)::(0:Int)::(0:Int)::(0:Int)::(0:Int)::(0:Int)::(0:Int)::(0:Int)::(0:Int)::(0:Int)::QG Int) j (0:D UC.int)) 0 (Z7 true 1 (Z7 false n 15)))),()),()))
def K95:K95.T:=K95.gen
theorem K95.ok:NK_ 72 K95.sig (K95.W K95):=ok_ (H:=K95.H) (n:=6) Tryz.func72 (by intro a x;kernel_rfl) (hn_ Z2)
def K27.sig:Sig U:=⟨[.ptr,.int .i64],[.obj .Q4],1,[.data .Qm],false,[]⟩
abbrev K27.T:Type:=(Int)->(Q1)->Option ((Q9×Unit)×Unit×Unit)
def K27.W (f:K27.T):K27.sig.F:=λa x=>f a.2.1 x.1
abbrev K27.N (c:K27.T):=Qp 73 (K27.sig.native (K27.W c))
def K27.H:Hints U:={ Γ:=(Qp 5000000021 Z1e noΓ),ro:=14,base:=14}
def K27.gen:K27.T:=λn h0=>
 some ((Q9.mk h0.Q1d.QO n,()),((),()))
def K27:K27.T:=K27.gen
theorem K27.ok:NK_ 73 K27.sig (K27.W K27):=ok_ (H:=K27.H) (n:=6) Tryz.func73 (by intro a x;kernel_rfl) (hn_ (Z0 Z2 Zd))
def K29.sig:Sig U:=⟨[.ptr,.int .i64],[.obj .Q4],1,[.Q4H 0 23 42 8],false,[]⟩
abbrev K29.T:Type:=(Int)->(Q1)->Option ((Nat×Unit)×Unit×Unit)
def K29.W (f:K29.T):K29.sig.F:=λa x=>f a.2.1 x.1
abbrev K29.N (c:K29.T):=Qp 47 (K29.sig.native (K29.W c))
def K29.H:Hints U:={ Γ:=(Qp 5000000021 Z1e noΓ),ro:=14,base:=14}
def K29.gen:K29.T:=λn h0=>
 (bif inR (Q1e .i64 n 1) 8 then some ((Int.toNat (Q1e .i64 n 1),()),((),())) else none)
def K29:K29.T:=K29.gen
theorem K29.ok:NK_ 47 K29.sig (K29.W K29):=ok_ (H:=K29.H) (n:=6) Tryz.func47 (by intro a x;kernel_rfl) (hn_ (Z0 Z2 Zd))
def K12.sig:Sig U:=⟨[.ptr],[.obj .Q4],1,[.int .i64],false,[]⟩
abbrev K12.T:Type:=(Q1)->Option ((Int×Unit)×Unit×Unit)
def K12.W (f:K12.T):K12.sig.F:=λa x=>f x.1
abbrev K12.N (c:K12.T):=Qp 75 (K12.sig.native (K12.W c))
def K12.H (cK151:Q24.T):Hints U:={ Γ:=(Q24.N cK151 (Qp 5000000021 Z1e noΓ)),ro:=14,base:=14}
def K12.gen (cK151:Q24.T):K12.T:=λh0=>
 (Q0 (cK151 h0.Q1d.Q2j) none λr0=>some (r0.1,((),())))
def K12:K12.T:=K12.gen Q24
theorem K12.eq (cK151:Q24.T):EqA K12.sig (K12.H cK151) Tryz.f75 6 (K12.W (K12.gen cK151)):=by intro a x;kernel_rfl
theorem K12.ok:NK_ 75 K12.sig (K12.W K12):=ok_ Tryz.func75 (K12.eq Q24) (hn_ (Z0 (Z0 Z2 Zd) Q24.ok))
def K57.sig:Sig U:=⟨[.int .u64,.int .i64,.int .i64],[Q4s],0,[.ref 2],false,[]⟩
abbrev K57.T:Type:=(Int)->(Int)->(Int)->(Fm Q5)->Option (((Option Nat)×Unit)×((Fm Q5)×Unit)×Unit)
def K57.W (f:K57.T):K57.sig.F:=λa x=>f a.1 a.2.1 a.2.2.1 x.1
def K57.H:Hints U:={ Γ:=noΓ,ro:=0,base:=13}
def K57.gen:K57.T:=λown port window g2=>
 some ((some g2.1,()),(((g2.1+1,QA g2.2 g2.1 (Q5.mk (Q9.mk own port) (Z7 true 1 (Z7 false window 1048576)) (λ(j:Nat)=>List.getD (Qe.mk z5_ z6_ 0 0 0::Qe.mk z5_ z6_ 0 0 0::Qe.mk z5_ z6_ 0 0 0::Qe.mk z5_ z6_ 0 0 0::Qe.mk z5_ z6_ 0 0 0::QG Qe) j Qe.zero) 0)),()),()))
def K57:K57.T:=K57.gen
theorem K57.ok:NK_ 74 K57.sig (K57.W K57):=ok_ (H:=K57.H) (n:=6) Tryz.func74 (by intro a x;kernel_rfl) (hn_ Z2)
def Q3D.sig:Sig U:=⟨[],[Q4y],0,[.ref 6],false,[]⟩
abbrev Q3D.T:Type:=(Fm Qh)->Option (((Option Nat)×Unit)×((Fm Qh)×Unit)×Unit)
def Q3D.W (f:Q3D.T):Q3D.sig.F:=λa x=>f x.1
def Q3D.H:Hints U:={ Γ:=noΓ,ro:=0,base:=13}
def Q3D.gen:Q3D.T:=λg6=>
 some ((some g6.1,()),(((g6.1+1,QA g6.2 g6.1 (Qh.mk z2_ z2_ 0 false false)),()),()))
def Q3D:Q3D.T:=Q3D.gen
theorem Q3D.ok:NK_ 76 Q3D.sig (Q3D.W Q3D):=ok_ (H:=Q3D.H) (n:=6) Tryz.func76 (by intro a x;kernel_rfl) (hn_ Z2)
def K56.sig:Sig U:=⟨[.data .Qm,.int .i64],[Q47],0,[.ref 3],false,[]⟩
abbrev K56.T:Type:=(Q9)->(Int)->(Fm Q6)->Option (((Option Nat)×Unit)×((Fm Q6)×Unit)×Unit)
def K56.W (f:K56.T):K56.sig.F:=λa x=>f a.1 a.2.1 x.1
def K56.H:Hints U:={ Γ:=noΓ,ro:=0,base:=13}
def K56.gen:K56.T:=λself domain g3=>
 some ((some g3.1,()),(((g3.1+1,QA g3.2 g3.1 (Q6.mk self domain (Q10.mk 0 0 false false))),()),()))
def K56:K56.T:=K56.gen
theorem K56.ok:NK_ 77 K56.sig (K56.W K56):=ok_ (H:=K56.H) (n:=6) Tryz.func77 (by intro a x;kernel_rfl) (hn_ Z2)
def Q3y.sig:Sig U:=⟨[.data .Qm,.int .i64],[Q4u],0,[.ref 4],false,[]⟩
abbrev Q3y.T:Type:=(Q9)->(Int)->(Fm Q7)->Option (((Option Nat)×Unit)×((Fm Q7)×Unit)×Unit)
def Q3y.W (f:Q3y.T):Q3y.sig.F:=λa x=>f a.1 a.2.1 x.1
def Q3y.H:Hints U:={ Γ:=noΓ,ro:=0,base:=13}
def Q3y.gen:Q3y.T:=λself domain g4=>
 some ((some g4.1,()),(((g4.1+1,QA g4.2 g4.1 (Q7.mk self domain 0 0 false false false false z2_ 0)),()),()))
def Q3y:Q3y.T:=Q3y.gen
theorem Q3y.ok:NK_ 78 Q3y.sig (Q3y.W Q3y):=ok_ (H:=Q3y.H) (n:=6) Tryz.func78 (by intro a x;kernel_rfl) (hn_ Z2)
def K15.sig:Sig U:=⟨[.ptr,.data .Q11],[.obj .Q4,Q54,Q4s,Q47,Q4u,Q4z,Q4y,.fam 10 (.map true false .Qm .Q1o)],0,[],true,[]⟩
abbrev K15.T:Type:=(Qb)->(Q1)->(Fm Qd)->(Fm Q5)->(Fm Q6)->(Fm Q7)->(Fm Q8)->(Fm Qh)->(Nat×(Nat->List (Q9×List (Int))))->Option (Unit×(Q1×Q6T)×Unit)
def K15.W (f:K15.T):K15.sig.F:=λa x=>f a.2.1 x.1 x.2.1 x.2.2.1 x.2.2.2.1 x.2.2.2.2.1 x.2.2.2.2.2.1 x.2.2.2.2.2.2.1 x.2.2.2.2.2.2.2.1
def K15.L0:Shape U:=⟨57,15,[(0,.ptr 13 0 0),(3,.ptr 14 0 0),(4,vi_)],(13,.obj .Q4)::(14,.obj .Q11)::Q5B⟩
def K15.X0:Qt U:= [(.exit 0,⟨57,14,[],(13,.obj .Q4)::Q5B⟩)]
abbrev K15.l0T:Type:=((Int×Unit)×(Q1×Qb×Q6T))->Option ((Unit×(Q1×Q6T)))
def K15.C:Code:=match Tryz.f49.body with|some c=>c|none=>.skip
def K15.B0:Code:=match (Z3 K15.C).getD 0 .skip with| .loop b=>b| .scope b=>b|_=>.skip
def K15.JR6:Qt U:= [(.normal,⟨57,15,[(0,.ptr 13 0 0),(3,.ptr 14 0 0),(4,vi_)],(13,.obj .Q4)::(14,.obj .Q11)::Q5B⟩)]
def K15.JR5:Qt U:= [(.normal,⟨57,16,[(0,.ptr 13 0 0),(3,.ptr 14 0 0),(4,vi_),(5,.ptr 15 0 0)],(13,.obj .Q4)::(14,.obj .Q11)::(15,.obj .Qm)::Q5B⟩)]
def K15.JR1:Qt U:= [(.normal,⟨57,15,[(0,.ptr 13 0 0),(3,.ptr 14 0 0)],(13,.obj .Q4)::(14,.obj .Q11)::Q5B⟩)]
def K15.H (cK174:Q1X.T) (cK139:Q3A.T) (cK95:K95.T) (cK27:K27.T) (cK29:K29.T) (cK12:K12.T) (cK57:K57.T) (cK136:Q3D.T) (cK56:K56.T) (cK121:Q3y.T) (l0:K15.l0T):Hints U:={ Γ:=(Qp 78 (Q3y.sig.native (Q3y.W cK121)) (Qp 77 (K56.sig.native (K56.W cK56)) (Qp 76 (Q3D.sig.native (Q3D.W cK136)) (Qp 74 (K57.sig.native (K57.W cK57)) (K12.N cK12 (K29.N cK29 (K27.N cK27 (Qp 72 (K95.sig.native (K95.W cK95)) (Qp 71 (Q3A.sig.native (Q3A.W cK139)) (Q1X.N cK174 noΓ)))))))))),ro:=0,base:=14,Q2J:=jt_ [(1,K15.JR1),(5,K15.JR5),(6,K15.JR6)],loop:=jt_ [(3,(Z6 (0,14) K15.L0 K15.X0 l0))]}
def K15.QW (cK174:Q1X.T) (cK139:Q3A.T) (cK95:K95.T) (cK27:K27.T) (cK29:K29.T) (cK12:K12.T) (cK57:K57.T) (cK136:Q3D.T) (cK56:K56.T) (cK121:Q3y.T) (a:(Int×Unit)×(Q1×Qb×Q6T)):Option (((Int×Unit)×(Q1×Qb×Q6T))⊕((Unit×(Q1×Q6T)))):=
 (bif ile a.1.1 a.2.2.1.Q2Z then (Q0 ((Q0 (cK27 a.1.1 a.2.1) none λr0=>some (a.1,(a.2.1,(a.2.2.1,(r0.1.1,a.2.2.2)))))) none λr1=>(Q0 ((Q0 (cK29 r1.1.1 r1.2.1) none λr2=>(Q0 (cK12 r1.2.1) none λr3=>(Q0 (cK57 r1.2.2.1.QO r1.1.1 (Q2A .i64 4 r3.1.1) r1.2.2.2.2.2.1) none λr4=>(Q0 (cK136 r1.2.2.2.2.2.2.2.2.2.1) none λr5=>(Q0 (cK56 r1.2.2.2.1 r1.2.2.1.Q2i r1.2.2.2.2.2.2.1) none λr6=>(Q0 (cK121 r1.2.2.2.1 r1.2.2.1.Q2i r1.2.2.2.2.2.2.2.1) none λr7=>some (r1.1,(Q1.Q1k r1.2.1 (QA r1.2.1.Qu r2.1.1 (Qc.mk 1 r4.1.1 (some r1.2.2.2.2.2.2.2.2.2.2.1.1) z3_ z3_ z3_ z3_ z3_ 0 0 0 r5.1.1 r6.1.1 r7.1.1 z4_ z4_ z2_ false)),(r1.2.2.1,(r1.2.2.2.2.1,(r4.2.1.1,(r6.2.1.1,(r7.2.1.1,(r1.2.2.2.2.2.2.2.2.1,(r5.2.1.1,((r1.2.2.2.2.2.2.2.2.2.2.1.1+1,QA r1.2.2.2.2.2.2.2.2.2.2.1.2 r1.2.2.2.2.2.2.2.2.2.2.1.1 (QG (D UC.Qm×D UC.Q1o))),()))))))))))))))))) none λr8=>some (.inl ((Q2 .i64 r8.1.1 1,()),r8.2)))) else some (.inr ((),(a.2.1,a.2.2.2))))
def K15.F0:K15.l0T:=λa=>Z8 (1000000) (K15.QW Q1X Q3A K95 K27 K29 K12 K57 Q3D K56 Q3y) a
def K15.gen (cK174:Q1X.T) (cK139:Q3A.T) (cK95:K95.T) (cK27:K27.T) (cK29:K29.T) (cK12:K12.T) (cK57:K57.T) (cK136:Q3D.T) (cK56:K56.T) (cK121:Q3y.T) (l0:K15.l0T):K15.T:=λc h0 g1 g2 g3 g4 g5 g6 g10=>
 (Q0 ((Q0 (cK174 c) none λr0=>(Q0 (cK139 c.fKp c.fKi c.Q6B g1) none λr1=>(Q0 (cK95 c.Q5A g5) none λr2=>some ((),(Q1.mk c (λ(j:Nat)=>List.getD (Qc.mk 0 none none z3_ z3_ z3_ z3_ z3_ 0 0 0 none none none z4_ z4_ z2_ false::Qc.mk 0 none none z3_ z3_ z3_ z3_ z3_ 0 0 0 none none none z4_ z4_ z2_ false::Qc.mk 0 none none z3_ z3_ z3_ z3_ z3_ 0 0 0 none none none z4_ z4_ z2_ false::Qc.mk 0 none none z3_ z3_ z3_ z3_ z3_ 0 0 0 none none none z4_ z4_ z2_ false::Qc.mk 0 none none z3_ z3_ z3_ z3_ z3_ 0 0 0 none none none z4_ z4_ z2_ false::Qc.mk 0 none none z3_ z3_ z3_ z3_ z3_ 0 0 0 none none none z4_ z4_ z2_ false::Qc.mk 0 none none z3_ z3_ z3_ z3_ z3_ 0 0 0 none none none z4_ z4_ z2_ false::Qc.mk 0 none none z3_ z3_ z3_ z3_ z3_ 0 0 0 none none none z4_ z4_ z2_ false::QG Qc) j Qc.zero) 0 r0.1.1 r1.1.1 r2.1.1 0 z4_ 0 h0.Q4T,(c,(r1.2.1.1,(g2,(g3,(g4,(r2.2.1.1,(g6,(g10,())))))))))))))) none λr3=>(Q0 (l0 (((1:Int),()),r3.2)) none λr4=>some ((),(r4.2,()))))
def K15:K15.T:=K15.gen Q1X Q3A K95 K27 K29 K12 K57 Q3D K56 Q3y K15.F0
theorem K15.Q1O (cK174:Q1X.T) (cK139:Q3A.T) (cK95:K95.T) (cK27:K27.T) (cK29:K29.T) (cK12:K12.T) (cK57:K57.T) (cK136:Q3D.T) (cK56:K56.T) (cK121:Q3y.T) (l0:K15.l0T) (a:K15.L0.T):run Tryz.prog (K15.H cK174 cK139 cK95 cK27 cK29 cK12 cK57 cK136 cK56 cK121 l0) 6 (Option (K15.L0.T⊕ExT K15.X0)) none K15.B0 (K15.L0.enc a) (Zc (0,14) K15.L0 K15.X0)=K15.QW cK174 cK139 cK95 cK27 cK29 cK12 cK57 cK136 cK56 cK121 a:=by kernel_rfl
abbrev K15.h:=K15.H Q1X Q3A K95 K27 K29 K12 K57 Q3D K56 Q3y K15.F0
theorem K15.Q1D:LO_ K15.h K15.B0 (Z6 (0,14) K15.L0 K15.X0 K15.F0):=lk_ (hn_ (Z0 (Z0 (Z0 (Z0 (Z0 (Z0 (Z0 (Z0 (Z0 (Z0 Z2 Q1X.ok) Q3A.ok) K95.ok) K27.ok) K29.ok) K12.ok) K57.ok) Q3D.ok) K56.ok) Q3y.ok)) (K15.Q1O Q1X Q3A K95 K27 K29 K12 K57 Q3D K56 Q3y K15.F0)
theorem K15.eq (cK174:Q1X.T) (cK139:Q3A.T) (cK95:K95.T) (cK27:K27.T) (cK29:K29.T) (cK12:K12.T) (cK57:K57.T) (cK136:Q3D.T) (cK56:K56.T) (cK121:Q3y.T) (l0:K15.l0T):EqA K15.sig (K15.H cK174 cK139 cK95 cK27 cK29 cK12 cK57 cK136 cK56 cK121 l0) Tryz.f49 6 (K15.W (K15.gen cK174 cK139 cK95 cK27 cK29 cK12 cK57 cK136 cK56 cK121 l0)):=by intro a x;kernel_rfl
theorem K15.loops:Z3 K15.C= [(.loop K15.B0)]:=by kernel_rfl
theorem K15.ok:NK_ 49 K15.sig (K15.W K15):=ok_ Tryz.func49 (K15.eq Q1X Q3A K95 K27 K29 K12 K57 Q3D K56 Q3y K15.F0) (hl_ (Z0 (Z0 (Z0 (Z0 (Z0 (Z0 (Z0 (Z0 (Z0 (Z0 Z2 Q1X.ok) Q3A.ok) K95.ok) K27.ok) K29.ok) K12.ok) K57.ok) Q3D.ok) K56.ok) Q3y.ok) (Z4 (by kernel_rfl) K15.Q1D Z5)) K15.loops
def K32.sig:Sig U:=⟨[.data .Q11],[Q4Y,Q54,Q4s,Q47,Q4u,Q4z,Q4y,.fam 10 (.map true false .Qm .Q1o)],0,[.ref 0,.int .i64],true,[]⟩
abbrev K32.T:Type:=(Qb)->(Fm Q1)->(Fm Qd)->(Fm Q5)->(Fm Q6)->(Fm Q7)->(Fm Q8)->(Fm Qh)->(Nat×(Nat->List (Q9×List (Int))))->Option (((Option Nat)×Int×Unit)×((Fm Q1)×(Fm Qd)×(Fm Q5)×(Fm Q6)×(Fm Q7)×(Fm Q8)×(Fm Qh)×(Nat×(Nat->List (Q9×List (Int))))×Unit)×Unit)
def K32.W (f:K32.T):K32.sig.F:=λa x=>f a.1 x.1 x.2.1 x.2.2.1 x.2.2.2.1 x.2.2.2.2.1 x.2.2.2.2.2.1 x.2.2.2.2.2.2.1 x.2.2.2.2.2.2.2.1
def K32.H (cK47:K47.T) (cK15:K15.T):Hints U:={ Γ:=(Qp 49 (K15.sig.native (K15.W cK15)) (Qp 48 (K47.sig.native (K47.W cK47)) noΓ)),ro:=0,base:=13}
def K32.gen (cK47:K47.T) (cK15:K15.T):K32.T:=λc g0 g1 g2 g3 g4 g5 g6 g10=>
 (Q0 (cK47 c) none λr0=>(bif ine r0.1.1 0 then some ((none,r0.1),((g0,(g1,(g2,(g3,(g4,(g5,(g6,(g10,())))))))),())) else (Q0 (cK15 c (QA g0.2 g0.1 (Q1.mk z7_ (λ(j:Nat)=>List.getD (Qc.mk 0 none none z3_ z3_ z3_ z3_ z3_ 0 0 0 none none none z4_ z4_ z2_ false::Qc.mk 0 none none z3_ z3_ z3_ z3_ z3_ 0 0 0 none none none z4_ z4_ z2_ false::Qc.mk 0 none none z3_ z3_ z3_ z3_ z3_ 0 0 0 none none none z4_ z4_ z2_ false::Qc.mk 0 none none z3_ z3_ z3_ z3_ z3_ 0 0 0 none none none z4_ z4_ z2_ false::Qc.mk 0 none none z3_ z3_ z3_ z3_ z3_ 0 0 0 none none none z4_ z4_ z2_ false::Qc.mk 0 none none z3_ z3_ z3_ z3_ z3_ 0 0 0 none none none z4_ z4_ z2_ false::Qc.mk 0 none none z3_ z3_ z3_ z3_ z3_ 0 0 0 none none none z4_ z4_ z2_ false::Qc.mk 0 none none z3_ z3_ z3_ z3_ z3_ 0 0 0 none none none z4_ z4_ z2_ false::QG Qc) j Qc.zero) 0 (QX.mk z0_ 0 z1_ 0 0 0 z6_) none none (0:Int) z4_ 0 (QG Q12)) g0.1) g1 g2 g3 g4 g5 g6 g10) none λr1=>some ((some g0.1,((0:Int),())),(((g0.1+1,QA (QA g0.2 g0.1 (Q1.mk z7_ (λ(j:Nat)=>List.getD (Qc.mk 0 none none z3_ z3_ z3_ z3_ z3_ 0 0 0 none none none z4_ z4_ z2_ false::Qc.mk 0 none none z3_ z3_ z3_ z3_ z3_ 0 0 0 none none none z4_ z4_ z2_ false::Qc.mk 0 none none z3_ z3_ z3_ z3_ z3_ 0 0 0 none none none z4_ z4_ z2_ false::Qc.mk 0 none none z3_ z3_ z3_ z3_ z3_ 0 0 0 none none none z4_ z4_ z2_ false::Qc.mk 0 none none z3_ z3_ z3_ z3_ z3_ 0 0 0 none none none z4_ z4_ z2_ false::Qc.mk 0 none none z3_ z3_ z3_ z3_ z3_ 0 0 0 none none none z4_ z4_ z2_ false::Qc.mk 0 none none z3_ z3_ z3_ z3_ z3_ 0 0 0 none none none z4_ z4_ z2_ false::Qc.mk 0 none none z3_ z3_ z3_ z3_ z3_ 0 0 0 none none none z4_ z4_ z2_ false::QG Qc) j Qc.zero) 0 (QX.mk z0_ 0 z1_ 0 0 0 z6_) none none (0:Int) z4_ 0 (QG Q12))) g0.1 r1.2.1.1),r1.2.1.2),())))))
def K32:K32.T:=K32.gen K47 K15
theorem K32.eq (cK47:K47.T) (cK15:K15.T):EqA K32.sig (K32.H cK47 cK15) Tryz.f24 6 (K32.W (K32.gen cK47 cK15)):=by intro a x;kernel_rfl
theorem K32.ok:NK_ 24 K32.sig (K32.W K32):=ok_ Tryz.func24 (K32.eq K47 K15) (hn_ (Z0 (Z0 Z2 K47.ok) K15.ok))
def Q2r.sig:Sig U:=⟨[.int .i64,.int .i64,.int .i64],[],0,[.int .i64],false,[]⟩
abbrev Q2r.T:Type:=(Int)->(Int)->(Int)->Option ((Int×Unit)×Unit×Unit)
def Q2r.W (f:Q2r.T):Q2r.sig.F:=λa x=>f a.1 a.2.1 a.2.2.1
abbrev Q2r.N (c:Q2r.T):=Qp 79 (Q2r.sig.native (Q2r.W c))
def Q2r.H:Hints U:={ Γ:=noΓ,ro:=0,base:=13}
def Q2r.gen:Q2r.T:=λv least most=>
 some ((Z7 true least (Z7 false v most),()),((),()))
def Q2r:Q2r.T:=Q2r.gen
theorem Q2r.ok:NK_ 79 Q2r.sig (Q2r.W Q2r):=ok_ (H:=Q2r.H) (n:=6) Tryz.func79 (by intro a x;kernel_rfl) (hn_ Z2)
def Q2v.sig:Sig U:=⟨[.int .i64],[],0,[.int .i64],false,[]⟩
abbrev Q2v.T:Type:=(Int)->Option ((Int×Unit)×Unit×Unit)
def Q2v.W (f:Q2v.T):Q2v.sig.F:=λa x=>f a.1
abbrev Q2v.N (c:Q2v.T):=Qp 50 (Q2v.sig.native (Q2v.W c))
def Q2v.H (cK109:Q2r.T):Hints U:={ Γ:=(Q2r.N cK109 noΓ),ro:=0,base:=13}
def Q2v.gen (cK109:Q2r.T):Q2v.T:=λv=>
 (Q0 (cK109 v 0 4000000000000000) none λr0=>some (r0.1,((),())))
def Q2v:Q2v.T:=Q2v.gen Q2r
theorem Q2v.eq (cK109:Q2r.T):EqA Q2v.sig (Q2v.H cK109) Tryz.f50 6 (Q2v.W (Q2v.gen cK109)):=by intro a x;kernel_rfl
theorem Q2v.ok:NK_ 50 Q2v.sig (Q2v.W Q2v):=ok_ Tryz.func50 (Q2v.eq Q2r) (hn_ (Z0 Z2 Q2r.ok))
def Q34.sig:Sig U:=⟨[.int .i64],[],0,[.int .i64],false,[]⟩
abbrev Q34.T:Type:=(Int)->Option ((Int×Unit)×Unit×Unit)
def Q34.W (f:Q34.T):Q34.sig.F:=λa x=>f a.1
def Q34.H (cK109:Q2r.T):Hints U:={ Γ:=(Q2r.N cK109 noΓ),ro:=0,base:=13}
def Q34.gen (cK109:Q2r.T):Q34.T:=λv=>
 (Q0 (cK109 v (-512000) 512000) none λr0=>some (r0.1,((),())))
def Q34:Q34.T:=Q34.gen Q2r
theorem Q34.eq (cK109:Q2r.T):EqA Q34.sig (Q34.H cK109) Tryz.f51 6 (Q34.W (Q34.gen cK109)):=by intro a x;kernel_rfl
theorem Q34.ok:NK_ 51 Q34.sig (Q34.W Q34):=ok_ Tryz.func51 (Q34.eq Q2r) (hn_ (Z0 Z2 Q2r.ok))
def Q2K.sig:Sig U:=⟨[.int .i64,.int .i64],[Q5z],0,[.ref 8],false,[]⟩
abbrev Q2K.T:Type:=(Int)->(Int)->(Fm Qw)->Option (((Option Nat)×Unit)×((Fm Qw)×Unit)×Unit)
def Q2K.W (f:Q2K.T):Q2K.sig.F:=λa x=>f a.1 a.2.1 x.1
def Q2K.H (cK111:Q2v.T) (cK110:Q34.T):Hints U:={ Γ:=(Qp 51 (Q34.sig.native (Q34.W cK110)) (Q2v.N cK111 noΓ)),ro:=0,base:=13}
def Q2K.gen (cK111:Q2v.T) (cK110:Q34.T):Q2K.T:=λlocal_0 r g8=>
 (Q0 (cK111 local_0) none λr0=>(Q0 (cK110 r) none λr1=>some ((some g8.1,()),(((g8.1+1,QA g8.2 g8.1 (Qw.mk 0 r0.1.1 r1.1.1 0)),()),()))))
def Q2K:Q2K.T:=Q2K.gen Q2v Q34
theorem Q2K.eq (cK111:Q2v.T) (cK110:Q34.T):EqA Q2K.sig (Q2K.H cK111 cK110) Tryz.f25 6 (Q2K.W (Q2K.gen cK111 cK110)):=by intro a x;kernel_rfl
theorem Q2K.ok:NK_ 25 Q2K.sig (Q2K.W Q2K):=ok_ Tryz.func25 (Q2K.eq Q2v Q34) (hn_ (Z0 (Z0 Z2 Q2v.ok) Q34.ok))
def K89.sig:Sig U:=⟨[],[Q65],0,[.ref 9],false,[]⟩
abbrev K89.T:Type:=(Fm Qn)->Option (((Option Nat)×Unit)×((Fm Qn)×Unit)×Unit)
def K89.W (f:K89.T):K89.sig.F:=λa x=>f x.1
def K89.H:Hints U:={ Γ:=noΓ,ro:=0,base:=13}
def K89.gen:K89.T:=λg9=>
 some ((some g9.1,()),(((g9.1+1,QA g9.2 g9.1 (Qn.mk (0,0) 0)),()),()))
def K89:K89.T:=K89.gen
theorem K89.ok:NK_ 26 K89.sig (K89.W K89):=ok_ (H:=K89.H) (n:=6) Tryz.func26 (by intro a x;kernel_rfl) (hn_ Z2)
def Q19.sig:Sig U:=⟨[.isl .Q11,.isl .Q1j],[Q4Y,Q54,Q4s,Q47,Q4u,Q4z,Q4y,Q9j,Q5z,Q65,.fam 10 (.map true false .Qm .Q1o),.fam 11 (.rows .Qo)],0,[.ref 7,.int .i64],true,[]⟩
abbrev Q19.T:Type:=(List (Qb))->(List (Qk))->(Fm Q1)->(Fm Qd)->(Fm Q5)->(Fm Q6)->(Fm Q7)->(Fm Q8)->(Fm Qh)->(Fm Q3)->(Fm Qw)->(Fm Qn)->(Nat×(Nat->List (Q9×List (Int))))->(Nat×(Nat->List Qa))->Option (((Option Nat)×Int×Unit)×((Fm Q1)×(Fm Qd)×(Fm Q5)×(Fm Q6)×(Fm Q7)×(Fm Q8)×(Fm Qh)×(Fm Q3)×(Fm Qw)×(Fm Qn)×(Nat×(Nat->List (Q9×List (Int))))×(Nat×(Nat->List Qa))×Unit)×Unit)
def Q19.W (f:Q19.T):Q19.sig.F:=λa x=>f a.1 a.2.1 x.1 x.2.1 x.2.2.1 x.2.2.2.1 x.2.2.2.2.1 x.2.2.2.2.2.1 x.2.2.2.2.2.2.1 x.2.2.2.2.2.2.2.1 x.2.2.2.2.2.2.2.2.1 x.2.2.2.2.2.2.2.2.2.1 x.2.2.2.2.2.2.2.2.2.2.1 x.2.2.2.2.2.2.2.2.2.2.2.1
def Q19.L0:Shape U:=⟨62,14,[(6,.ptr 13 0 0),(20,.val (.isl .Q11)),(21,vi_),(22,vi_)],[(13,.obj .Qi),(0,.Qf false .Q4),(1,.Qf false .QR),(2,.Qf false .Ql),(3,.Qf false .Qy),(4,.Qf false .QF),(5,.Qf false .QC),(6,.Qf false .QS),(7,.Qf false .Qi),(8,.Qf false .Q1g),(9,.Qf false .Q13),(10,.Q20 true false .Qm .Q1o),(11,.Q1a .Qo)]⟩
def Q19.X0:Qt U:= [(.exit 0,⟨62,14,[(6,.ptr 13 0 0)],[(13,.obj .Qi),(0,.Qf false .Q4),(1,.Qf false .QR),(2,.Qf false .Ql),(3,.Qf false .Qy),(4,.Qf false .QF),(5,.Qf false .QC),(6,.Qf false .QS),(7,.Qf false .Qi),(8,.Qf false .Q1g),(9,.Qf false .Q13),(10,.Q20 true false .Qm .Q1o),(11,.Q1a .Qo)]⟩),
 (.ret,⟨62,13,[(4,.Q6S),(5,vi_)],[(0,.Qf false .Q4),(1,.Qf false .QR),(2,.Qf false .Ql),(3,.Qf false .Qy),(4,.Qf false .QF),(5,.Qf false .QC),(6,.Qf false .QS),(7,.Qf false .Qi),(8,.Qf false .Q1g),(9,.Qf false .Q13),(10,.Q20 true false .Qm .Q1o),(11,.Q1a .Qo)]⟩)]
abbrev Q19.l0T:Type:=(((List (Qb))×Int×Int×Unit)×(Q3×(Fm Q1)×(Fm Qd)×(Fm Q5)×(Fm Q6)×(Fm Q7)×(Fm Q8)×(Fm Qh)×(Fm Q3)×(Fm Qw)×(Fm Qn)×(Nat×(Nat->List (Q9×List (Int))))×(Nat×(Nat->List Qa))×Unit))->Option ((Unit×(Q3×(Fm Q1)×(Fm Qd)×(Fm Q5)×(Fm Q6)×(Fm Q7)×(Fm Q8)×(Fm Qh)×(Fm Q3)×(Fm Qw)×(Fm Qn)×(Nat×(Nat->List (Q9×List (Int))))×(Nat×(Nat->List Qa))×Unit))⊕((Int×Unit)×((Fm Q1)×(Fm Qd)×(Fm Q5)×(Fm Q6)×(Fm Q7)×(Fm Q8)×(Fm Qh)×(Fm Q3)×(Fm Qw)×(Fm Qn)×(Nat×(Nat->List (Q9×List (Int))))×(Nat×(Nat->List Qa))×Unit)))
def Q19.L1:Shape U:=⟨62,14,[(6,.ptr 13 0 0),(51,vi_)],[(13,.obj .Qi),(0,.Qf false .Q4),(1,.Qf false .QR),(2,.Qf false .Ql),(3,.Qf false .Qy),(4,.Qf false .QF),(5,.Qf false .QC),(6,.Qf false .QS),(7,.Qf false .Qi),(8,.Qf false .Q1g),(9,.Qf false .Q13),(10,.Q20 true false .Qm .Q1o),(11,.Q1a .Qo)]⟩
def Q19.X1:Qt U:= [(.exit 2,⟨62,14,[(6,.ptr 13 0 0)],[(13,.obj .Qi),(0,.Qf false .Q4),(1,.Qf false .QR),(2,.Qf false .Ql),(3,.Qf false .Qy),(4,.Qf false .QF),(5,.Qf false .QC),(6,.Qf false .QS),(7,.Qf false .Qi),(8,.Qf false .Q1g),(9,.Qf false .Q13),(10,.Q20 true false .Qm .Q1o),(11,.Q1a .Qo)]⟩)]
abbrev Q19.l1T:Type:=((Int×Unit)×(Q3×(Fm Q1)×(Fm Qd)×(Fm Q5)×(Fm Q6)×(Fm Q7)×(Fm Q8)×(Fm Qh)×(Fm Q3)×(Fm Qw)×(Fm Qn)×(Nat×(Nat->List (Q9×List (Int))))×(Nat×(Nat->List Qa))×Unit))->Option ((Unit×(Q3×(Fm Q1)×(Fm Qd)×(Fm Q5)×(Fm Q6)×(Fm Q7)×(Fm Q8)×(Fm Qh)×(Fm Q3)×(Fm Qw)×(Fm Qn)×(Nat×(Nat->List (Q9×List (Int))))×(Nat×(Nat->List Qa))×Unit)))
def Q19.C:Code:=match Tryz.f8.body with|some c=>c|none=>.skip
def Q19.B0:Code:=match (Z3 Q19.C).getD 0 .skip with| .loop b=>b| .scope b=>b|_=>.skip
def Q19.B1:Code:=match (Z3 Q19.C).getD 1 .skip with| .loop b=>b| .scope b=>b|_=>.skip
def Q19.H (cK190:Qs.T) (cK32:K32.T) (cK103:Q2K.T) (cK89:K89.T) (l0:Q19.l0T) (l1:Q19.l1T):Hints U:={ Γ:=(Qp 26 (K89.sig.native (K89.W cK89)) (Qp 25 (Q2K.sig.native (Q2K.W cK103)) (Qp 24 (K32.sig.native (K32.W cK32)) (Qp 23 (Qs.sig.native (Qs.W cK190)) noΓ)))),ro:=0,base:=13,loop:=jt_ [(5,(Z6 (0,13) Q19.L0 Q19.X0 l0)),(13,(Z6 (0,13) Q19.L1 Q19.X1 l1))]}
def Q19.Q2n (cK190:Qs.T) (cK32:K32.T) (cK103:Q2K.T) (cK89:K89.T) (a:(Int×Unit)×(Q3×(Fm Q1)×(Fm Qd)×(Fm Q5)×(Fm Q6)×(Fm Q7)×(Fm Q8)×(Fm Qh)×(Fm Q3)×(Fm Qw)×(Fm Qn)×(Nat×(Nat->List (Q9×List (Int))))×(Nat×(Nat->List Qa))×Unit)):Option (((Int×Unit)×(Q3×(Fm Q1)×(Fm Qd)×(Fm Q5)×(Fm Q6)×(Fm Q7)×(Fm Q8)×(Fm Qh)×(Fm Q3)×(Fm Qw)×(Fm Qn)×(Nat×(Nat->List (Q9×List (Int))))×(Nat×(Nat->List Qa))×Unit))⊕((Unit×(Q3×(Fm Q1)×(Fm Qd)×(Fm Q5)×(Fm Q6)×(Fm Q7)×(Fm Q8)×(Fm Qh)×(Fm Q3)×(Fm Qw)×(Fm Qn)×(Nat×(Nat->List (Q9×List (Int))))×(Nat×(Nat->List Qa))×Unit)))):=
 (bif ilt a.1.1 8 then (Q0 (cK89 a.2.2.2.2.2.2.2.2.2.2.2.1) none λr0=>(bif inR a.1.1 8 then some (.inl ((Q2 .i64 a.1.1 1,()),(Q3.Q9m a.2.1 (QA a.2.1.Q8t (Int.toNat a.1.1) r0.1.1),(a.2.2.1,(a.2.2.2.1,(a.2.2.2.2.1,(a.2.2.2.2.2.1,(a.2.2.2.2.2.2.1,(a.2.2.2.2.2.2.2.1,(a.2.2.2.2.2.2.2.2.1,(a.2.2.2.2.2.2.2.2.2.1,(a.2.2.2.2.2.2.2.2.2.2.1,(r0.2.1.1,a.2.2.2.2.2.2.2.2.2.2.2.2))))))))))))) else none)) else some (.inr ((),a.2)))
def Q19.F1:Q19.l1T:=λa=>Z8 (1000000) (Q19.Q2n Qs K32 Q2K K89) a
def Q19.QW (cK190:Qs.T) (cK32:K32.T) (cK103:Q2K.T) (cK89:K89.T) (a:((List (Qb))×Int×Int×Unit)×(Q3×(Fm Q1)×(Fm Qd)×(Fm Q5)×(Fm Q6)×(Fm Q7)×(Fm Q8)×(Fm Qh)×(Fm Q3)×(Fm Qw)×(Fm Qn)×(Nat×(Nat->List (Q9×List (Int))))×(Nat×(Nat->List Qa))×Unit)):Option ((((List (Qb))×Int×Int×Unit)×(Q3×(Fm Q1)×(Fm Qd)×(Fm Q5)×(Fm Q6)×(Fm Q7)×(Fm Q8)×(Fm Qh)×(Fm Q3)×(Fm Qw)×(Fm Qn)×(Nat×(Nat->List (Q9×List (Int))))×(Nat×(Nat->List Qa))×Unit))⊕((Unit×(Q3×(Fm Q1)×(Fm Qd)×(Fm Q5)×(Fm Q6)×(Fm Q7)×(Fm Q8)×(Fm Qh)×(Fm Q3)×(Fm Qw)×(Fm Qn)×(Nat×(Nat->List (Q9×List (Int))))×(Nat×(Nat->List Qa))×Unit))⊕((Int×Unit)×((Fm Q1)×(Fm Qd)×(Fm Q5)×(Fm Q6)×(Fm Q7)×(Fm Q8)×(Fm Qh)×(Fm Q3)×(Fm Qw)×(Fm Qn)×(Nat×(Nat->List (Q9×List (Int))))×(Nat×(Nat->List Qa))×Unit)))):=
 (bif ilt a.1.2.2.1 a.1.2.1 then (bif inR a.1.2.2.1 (List.length a.1.1) then (Q0 (cK32 (List.getD a.1.1 (Int.toNat a.1.2.2.1) Qb.zero) a.2.2.1 a.2.2.2.1 a.2.2.2.2.1 a.2.2.2.2.2.1 a.2.2.2.2.2.2.1 a.2.2.2.2.2.2.2.1 a.2.2.2.2.2.2.2.2.1 a.2.2.2.2.2.2.2.2.2.2.2.2.1) none λr0=>(bif ine r0.1.2.1 0 then some (.inr (.inr (r0.1.2,(r0.2.1.1,(r0.2.1.2.1,(r0.2.1.2.2.1,(r0.2.1.2.2.2.1,(r0.2.1.2.2.2.2.1,(r0.2.1.2.2.2.2.2.1,(r0.2.1.2.2.2.2.2.2.1,(a.2.2.2.2.2.2.2.2.2.1,(a.2.2.2.2.2.2.2.2.2.2.1,(a.2.2.2.2.2.2.2.2.2.2.2.1,(r0.2.1.2.2.2.2.2.2.2.1,a.2.2.2.2.2.2.2.2.2.2.2.2.2)))))))))))))) else (Q0 (cK103 (Q2A .i64 (Q2 .i64 a.1.2.2.1 1) 1000000000000) 0 a.2.2.2.2.2.2.2.2.2.2.1) none λr1=>(bif bif room (a.2.1.Q1K.2+List.length (Qa.mk r0.1.1 r1.1.1 0::QG Qa)) 24 then bif Nat.beq a.2.1.Q1K.2 0 then true else Nat.beq a.2.1.Q1K.2 (List.length (a.2.2.2.2.2.2.2.2.2.2.2.2.2.1.2 a.2.1.Q1K.1)) else false then some (.inl ((a.1.1,(a.1.2.1,(Q2 .i64 a.1.2.2.1 1,()))),(Q3.Q8F a.2.1 (a.2.2.2.2.2.2.2.2.2.2.2.2.2.1.1,a.2.1.Q1K.2+List.length (Qa.mk r0.1.1 r1.1.1 0::QG Qa)),(r0.2.1.1,(r0.2.1.2.1,(r0.2.1.2.2.1,(r0.2.1.2.2.2.1,(r0.2.1.2.2.2.2.1,(r0.2.1.2.2.2.2.2.1,(r0.2.1.2.2.2.2.2.2.1,(a.2.2.2.2.2.2.2.2.2.1,(r1.2.1.1,(a.2.2.2.2.2.2.2.2.2.2.2.1,(r0.2.1.2.2.2.2.2.2.2.1,((a.2.2.2.2.2.2.2.2.2.2.2.2.2.1.1+1,QA (bif Nat.beq a.2.1.Q1K.2 0 then a.2.2.2.2.2.2.2.2.2.2.2.2.2.1.2 else QA a.2.2.2.2.2.2.2.2.2.2.2.2.2.1.2 a.2.1.Q1K.1 (QG Qa)) a.2.2.2.2.2.2.2.2.2.2.2.2.2.1.1 ((bif Nat.beq a.2.1.Q1K.2 0 then QG Qa else a.2.2.2.2.2.2.2.2.2.2.2.2.2.1.2 a.2.1.Q1K.1)++Qa.mk r0.1.1 r1.1.1 0::QG Qa)),()))))))))))))))) else none)))) else none) else some (.inr (.inl ((),a.2))))
def Q19.F0:Q19.l0T:=λa=>Z8 (1000000+(a.1.1.length)) (Q19.QW Qs K32 Q2K K89) a
def Q19.gen (cK190:Qs.T) (cK32:K32.T) (cK103:Q2K.T) (cK89:K89.T) (l0:Q19.l0T) (l1:Q19.l1T):Q19.T:=λconfs plugs g0 g1 g2 g3 g4 g5 g6 g7 g8 g9 g10 g11=>
 (Q0 (cK190 confs plugs) none λr0=>(bif !r0.1.1 then some ((none,((1:Int),())),((g0,(g1,(g2,(g3,(g4,(g5,(g6,(g7,(g8,(g9,(g10,(g11,())))))))))))),())) else (bif room (List.length (QG Qk)+List.length plugs) 24 then (Q0 (l0 ((confs,ofN (List.length confs),(0:Int),()),Q3.mk 0 (0,0) (QG Qk++plugs) λ(j:Nat)=>List.getD (none::none::none::none::none::none::none::none::QG (Option Nat)) j none,g0,g1,g2,g3,g4,g5,g6,g7,g8,g9,g10,g11,())) none λr1=>(Q3B r1 (λr2=>(Q0 (l1 (((0:Int),()),r2.2)) none λr3=>some ((some r3.2.2.2.2.2.2.2.2.2.1.1,((0:Int),())),((r3.2.2.1,(r3.2.2.2.1,(r3.2.2.2.2.1,(r3.2.2.2.2.2.1,(r3.2.2.2.2.2.2.1,(r3.2.2.2.2.2.2.2.1,(r3.2.2.2.2.2.2.2.2.1,((r3.2.2.2.2.2.2.2.2.2.1.1+1,QA r3.2.2.2.2.2.2.2.2.2.1.2 r3.2.2.2.2.2.2.2.2.2.1.1 r3.2.1),r3.2.2.2.2.2.2.2.2.2.2)))))))),())))) (λr2=>some ((none,r2.1),(r2.2,()))))) else none)))
def Q19:Q19.T:=Q19.gen Qs K32 Q2K K89 Q19.F0 Q19.F1
theorem Q19.seq1 (cK190:Qs.T) (cK32:K32.T) (cK103:Q2K.T) (cK89:K89.T) (l0:Q19.l0T) (l1:Q19.l1T) (a:Q19.L1.T):run Tryz.prog (Q19.H cK190 cK32 cK103 cK89 l0 l1) 6 (Option (Q19.L1.T⊕ExT Q19.X1)) none Q19.B1 (Q19.L1.enc a) (Zc (0,13) Q19.L1 Q19.X1)=Q19.Q2n cK190 cK32 cK103 cK89 a:=by kernel_rfl
abbrev Q19.h:=Q19.H Qs K32 Q2K K89 Q19.F0 Q19.F1
theorem Q19.Q3z:LO_ Q19.h Q19.B1 (Z6 (0,13) Q19.L1 Q19.X1 Q19.F1):=lk_ (hn_ (Z0 (Z0 (Z0 (Z0 Z2 Qs.ok) K32.ok) Q2K.ok) K89.ok)) (Q19.seq1 Qs K32 Q2K K89 Q19.F0 Q19.F1)
theorem Q19.Q1O (cK190:Qs.T) (cK32:K32.T) (cK103:Q2K.T) (cK89:K89.T) (l0:Q19.l0T) (l1:Q19.l1T) (a:Q19.L0.T):run Tryz.prog (Q19.H cK190 cK32 cK103 cK89 l0 l1) 6 (Option (Q19.L0.T⊕ExT Q19.X0)) none Q19.B0 (Q19.L0.enc a) (Zc (0,13) Q19.L0 Q19.X0)=Q19.QW cK190 cK32 cK103 cK89 a:=by kernel_rfl
theorem Q19.Q1D:LO_ Q19.h Q19.B0 (Z6 (0,13) Q19.L0 Q19.X0 Q19.F0):=lk_ (hn_ (Z0 (Z0 (Z0 (Z0 Z2 Qs.ok) K32.ok) Q2K.ok) K89.ok)) (Q19.Q1O Qs K32 Q2K K89 Q19.F0 Q19.F1)
theorem Q19.eq (cK190:Qs.T) (cK32:K32.T) (cK103:Q2K.T) (cK89:K89.T) (l0:Q19.l0T) (l1:Q19.l1T):EqA Q19.sig (Q19.H cK190 cK32 cK103 cK89 l0 l1) Tryz.f8 6 (Q19.W (Q19.gen cK190 cK32 cK103 cK89 l0 l1)):=by intro a x;kernel_rfl
theorem Q19.loops:Z3 Q19.C= [(.loop Q19.B0),(.loop Q19.B1)]:=by kernel_rfl
theorem Q19.ok:NK_ 8 Q19.sig (Q19.W Q19):=ok_ Tryz.func8 (Q19.eq Qs K32 Q2K K89 Q19.F0 Q19.F1) (hl_ (Z0 (Z0 (Z0 (Z0 Z2 Qs.ok) K32.ok) Q2K.ok) K89.ok) (Z4 (by kernel_rfl) Q19.Q1D (Z4 (by kernel_rfl) Q19.Q3z Z5))) Q19.loops
def Q1t.sig:Sig U:=⟨[.ptr],[.obj .Qi],1,[.isl .Q1j],false,[]⟩
abbrev Q1t.T:Type:=(Q3)->Option (((List (Qk))×Unit)×Unit×Unit)
def Q1t.W (f:Q1t.T):Q1t.sig.F:=λa x=>f x.1
abbrev Q1t.N (c:Q1t.T):=Qp 29 (Q1t.sig.native (Q1t.W c))
def Q1t.H:Hints U:={ Γ:=noΓ,ro:=14,base:=14}
def Q1t.gen:Q1t.T:=λh0=>
 (bif room (List.length (QG Qk)+List.length h0.Q62) 24 then some ((QG Qk++h0.Q62,()),((),())) else none)
def Q1t:Q1t.T:=Q1t.gen
theorem Q1t.ok:NK_ 29 Q1t.sig (Q1t.W Q1t):=ok_ (H:=Q1t.H) (n:=6) Tryz.func29 (by intro a x;kernel_rfl) (hn_ Z2)
def Q2h.sig:Sig U:=⟨[.ptr,.int .i64],[.obj .Qi,.fam 11 (.rows .Qo)],2,[.bool],false,[]⟩
abbrev Q2h.T:Type:=(Int)->(Q3)->(Nat×(Nat->List Qa))->Option ((Bool×Unit)×Unit×Unit)
def Q2h.W (f:Q2h.T):Q2h.sig.F:=λa x=>f a.2.1 x.1 x.2.1
abbrev Q2h.N (c:Q2h.T):=Qp 38 (Q2h.sig.native (Q2h.W c))
def Q2h.H:Hints U:={ Γ:=noΓ,ro:=14,base:=14}
def Q2h.gen:Q2h.T:=λi h0 g11=>
 (bif ilt i 0 then some ((true,()),((),())) else some ((ile (ofN h0.Q1K.2) i,()),((),())))
def Q2h:Q2h.T:=Q2h.gen
theorem Q2h.ok:NK_ 38 Q2h.sig (Q2h.W Q2h):=ok_ (H:=Q2h.H) (n:=6) Tryz.func38 (by intro a x;kernel_rfl) (hn_ Z2)
def Q3L.sig:Sig U:=⟨[.ptr,.int .i64],[.obj .Qi,.fam 11 (.rows .Qo)],2,[.ref 0,.bool],true,[]⟩
abbrev Q3L.T:Type:=(Int)->(Q3)->(Nat×(Nat->List Qa))->Option (((Option Nat)×Bool×Unit)×Unit×Unit)
def Q3L.W (f:Q3L.T):Q3L.sig.F:=λa x=>f a.2.1 x.1 x.2.1
def Q3L.H (cK184:Q2h.T):Hints U:={ Γ:=(Q2h.N cK184 noΓ),ro:=14,base:=14}
def Q3L.gen (cK184:Q2h.T):Q3L.T:=λi h0 g11=>
 (Q0 (cK184 i h0 g11) none λr0=>(bif r0.1.1 then some ((none,(false,())),((),())) else (bif inR i h0.Q1K.2 then (Q0 ((bif Nat.blt (0+Int.toNat i) (List.length (g11.2 h0.Q1K.1)) then (List.getD (g11.2 h0.Q1K.1) (0+Int.toNat i) Qa.zero).1 else none)) none λr1=>some ((some r1,(true,())),((),()))) else none)))
def Q3L:Q3L.T:=Q3L.gen Q2h
theorem Q3L.eq (cK184:Q2h.T):EqA Q3L.sig (Q3L.H cK184) Tryz.f21 6 (Q3L.W (Q3L.gen cK184)):=by intro a x;kernel_rfl
theorem Q3L.ok:NK_ 21 Q3L.sig (Q3L.W Q3L):=ok_ Tryz.func21 (Q3L.eq Q2h) (hn_ (Z0 Z2 Q2h.ok))
def QZ.sig:Sig U:=⟨[.ptr,.int .i64],[.obj .Qi,.fam 11 (.rows .Qo)],2,[.ref 0],false,[]⟩
abbrev QZ.T:Type:=(Int)->(Q3)->(Nat×(Nat->List Qa))->Option (((Option Nat)×Unit)×Unit×Unit)
def QZ.W (f:QZ.T):QZ.sig.F:=λa x=>f a.2.1 x.1 x.2.1
abbrev QZ.N (c:QZ.T):=Qp 28 (QZ.sig.native (QZ.W c))
def QZ.H (cK177:Q3L.T):Hints U:={ Γ:=(Qp 21 (Q3L.sig.native (Q3L.W cK177)) noΓ),ro:=14,base:=14}
def QZ.gen (cK177:Q3L.T):QZ.T:=λi h0 g11=>
 (Q0 (cK177 i h0 g11) none λr0=>some ((r0.1.1,()),((),())))
def QZ:QZ.T:=QZ.gen Q3L
theorem QZ.eq (cK177:Q3L.T):EqA QZ.sig (QZ.H cK177) Tryz.f28 6 (QZ.W (QZ.gen cK177)):=by intro a x;kernel_rfl
theorem QZ.ok:NK_ 28 QZ.sig (QZ.W QZ):=ok_ Tryz.func28 (QZ.eq Q3L) (hn_ (Z0 Z2 Q3L.ok))
def K22.sig:Sig U:=⟨[.ptr,.int .i64],[.obj .Q4],1,[.bool],false,[]⟩
abbrev K22.T:Type:=(Int)->(Q1)->Option ((Bool×Unit)×Unit×Unit)
def K22.W (f:K22.T):K22.sig.F:=λa x=>f a.2.1 x.1
abbrev K22.N (c:K22.T):=Qp 46 (K22.sig.native (K22.W c))
def K22.H:Hints U:={ Γ:=(Qp 5000000021 Z1e noΓ),ro:=14,base:=14}
def K22.gen:K22.T:=λn h0=>
 (bif ilt n 1 then some ((true,()),((),())) else some ((ilt h0.Q1d.Q2Z n,()),((),())))
def K22:K22.T:=K22.gen
theorem K22.ok:NK_ 46 K22.sig (K22.W K22):=ok_ (H:=K22.H) (n:=6) Tryz.func46 (by intro a x;kernel_rfl) (hn_ (Z0 Z2 Zd))
def K10.sig:Sig U:=⟨[.ptr,.int .i64],[.obj .Q4],1,[.int .i64],false,[]⟩
abbrev K10.T:Type:=(Int)->(Q1)->Option ((Int×Unit)×Unit×Unit)
def K10.W (f:K10.T):K10.sig.F:=λa x=>f a.2.1 x.1
abbrev K10.N (c:K10.T):=Qp 22 (K10.sig.native (K10.W c))
def K10.H (cK22:K22.T) (cK29:K29.T):Hints U:={ Γ:=(K29.N cK29 (K22.N cK22 (Qp 5000000021 Z1e noΓ))),ro:=14,base:=14}
def K10.gen (cK22:K22.T) (cK29:K29.T):K10.T:=λn h0=>
 (Q0 (cK22 n h0) none λr0=>(bif r0.1.1 then some (((0:Int),()),((),())) else (Q0 (cK29 n h0) none λr1=>some (((h0.Qu r1.1.1).Q1Z,()),((),())))))
def K10:K10.T:=K10.gen K22 K29
theorem K10.eq (cK22:K22.T) (cK29:K29.T):EqA K10.sig (K10.H cK22 cK29) Tryz.f22 6 (K10.W (K10.gen cK22 cK29)):=by intro a x;kernel_rfl
theorem K10.ok:NK_ 22 K10.sig (K10.W K10):=ok_ Tryz.func22 (K10.eq K22 K29) (hn_ (Z0 (Z0 (Z0 Z2 Zd) K22.ok) K29.ok))
def K8.sig:Sig U:=⟨[.ptr],[.obj .Q4],1,[.data .Q11],false,[]⟩
abbrev K8.T:Type:=(Q1)->Option ((Qb×Unit)×Unit×Unit)
def K8.W (f:K8.T):K8.sig.F:=λa x=>f x.1
abbrev K8.N (c:K8.T):=Qp 32 (K8.sig.native (K8.W c))
def K8.H:Hints U:={ Γ:=(Qp 5000000021 Z1e noΓ),ro:=14,base:=14}
def K8.gen:K8.T:=λh0=>
 some ((h0.Q1d,()),((),()))
def K8:K8.T:=K8.gen
theorem K8.ok:NK_ 32 K8.sig (K8.W K8):=ok_ (H:=K8.H) (n:=6) Tryz.func32 (by intro a x;kernel_rfl) (hn_ (Z0 Z2 Zd))
def Q1f.sig:Sig U:=⟨[.ptr,.int .i64],[.obj .Qi,Q4Y,.fam 11 (.rows .Qo)],3,[.isl .Qm],false,[]⟩
abbrev Q1f.T:Type:=(Int)->(Q3)->(Fm Q1)->(Nat×(Nat->List Qa))->Option (((List (Q9))×Unit)×Unit×Unit)
def Q1f.W (f:Q1f.T):Q1f.sig.F:=λa x=>f a.2.1 x.1 x.2.1 x.2.2.1
def Q1f.L0:Shape U:=⟨42,15,[(0,.ptr 13 0 0),(1,vi_),(5,.own .Qm 14),(10,.val (.isl .Q1j)),(11,vi_),(12,vi_)],[(13,.obj .Qi),(14,.tok),(0,.Qf false .Q4),(11,.Q1a .Qo)]⟩
def Q1f.X0:Qt U:= [(.exit 0,⟨42,15,[(5,.own .Qm 14)],[(13,.obj .Qi),(14,.tok),(0,.Qf false .Q4),(11,.Q1a .Qo)]⟩)]
abbrev Q1f.l0T:Type:=((Int×(List (Q9))×(List (Qk))×Int×Int×Unit)×(Q3×(Fm Q1)×(Nat×(Nat->List Qa))×Unit))->Option ((((List (Q9))×Unit)×(Q3×(Fm Q1)×(Nat×(Nat->List Qa))×Unit)))
def Q1f.C:Code:=match Tryz.f44.body with|some c=>c|none=>.skip
def Q1f.B0:Code:=match (Z3 Q1f.C).getD 0 .skip with| .loop b=>b| .scope b=>b|_=>.skip
def Q1f.JC7:Qt U:= [(.normal,⟨42,15,[(0,.ptr 13 0 0),(1,vi_),(5,.own .Qm 14),(10,.val (.isl .Q1j)),(11,vi_),(12,vi_)],[(13,.obj .Qi),(14,.tok),(0,.Qf false .Q4),(11,.Q1a .Qo)]⟩)]
def Q1f.H (cK181:Q1t.T) (cK171:QZ.T) (cK10:K10.T) (cK8:K8.T) (l0:Q1f.l0T):Hints U:={ Γ:=(K8.N cK8 (K10.N cK10 (QZ.N cK171 (Q1t.N cK181 noΓ)))),ro:=14,base:=14,Q1T:=jt_ [(6,[(30,vb_)])],Q29:=jt_ [(7,Q1f.JC7)],loop:=jt_ [(3,(Z6 (14,14) Q1f.L0 Q1f.X0 l0))]}
def Q1f.QW (cK181:Q1t.T) (cK171:QZ.T) (cK10:K10.T) (cK8:K8.T) (a:(Int×(List (Q9))×(List (Qk))×Int×Int×Unit)×(Q3×(Fm Q1)×(Nat×(Nat->List Qa))×Unit)):Option (((Int×(List (Q9))×(List (Qk))×Int×Int×Unit)×(Q3×(Fm Q1)×(Nat×(Nat->List Qa))×Unit))⊕((((List (Q9))×Unit)×(Q3×(Fm Q1)×(Nat×(Nat->List Qa))×Unit)))):=
 (bif ilt a.1.2.2.2.2.1 a.1.2.2.2.1 then (bif inR a.1.2.2.2.2.1 (List.length a.1.2.2.1) then (Q0 (cK171 (List.getD a.1.2.2.1 (Int.toNat a.1.2.2.2.2.1) Qk.zero).QO a.2.1 a.2.2.2.1) none λr0=>(Q0 ((bif ieq (List.getD a.1.2.2.1 (Int.toNat a.1.2.2.2.2.1) Qk.zero).Q4o a.1.1 then (Q0 ((Q0 (r0.1.1) none λr1=>(Q0 (cK10 (List.getD a.1.2.2.1 (Int.toNat a.1.2.2.2.2.1) Qk.zero).Q18 (a.2.2.1.2 r1)) none λr2=>some (r1,r2)))) none λr3=>some (ieq r3.2.1.1 6,())) else some (false,()))) none λr4=>(Q0 ((bif r4.1 then (Q0 ((Q0 (r0.1.1) none λr5=>(Q0 (cK8 (a.2.2.1.2 r5)) none λr6=>some (r5,r6)))) none λr7=>(bif room (List.length a.1.2.1+List.length (Q9.mk r7.2.1.1.QO (List.getD a.1.2.2.1 (Int.toNat a.1.2.2.2.2.1) Qk.zero).Q18::QG Q9)) 16 then some ((a.1.1,(a.1.2.1++Q9.mk r7.2.1.1.QO (List.getD a.1.2.2.1 (Int.toNat a.1.2.2.2.2.1) Qk.zero).Q18::QG Q9,a.1.2.2)),a.2) else none)) else some a)) none λr8=>some (.inl ((r8.1.1,(r8.1.2.1,(r8.1.2.2.1,(r8.1.2.2.2.1,(Q2 .i64 r8.1.2.2.2.2.1 1,()))))),r8.2))))) else none) else some (.inr ((a.1.2.1,()),a.2)))
def Q1f.F0:Q1f.l0T:=λa=>Z8 (1000000+(a.1.2.1.length+a.1.2.2.1.length)) (Q1f.QW Q1t QZ K10 K8) a
def Q1f.gen (cK181:Q1t.T) (cK171:QZ.T) (cK10:K10.T) (cK8:K8.T) (l0:Q1f.l0T):Q1f.T:=λlink h0 g0 g11=>
 (Q0 (cK181 h0) none λr0=>(Q0 (l0 ((link,QG Q9,r0.1.1,ofN (List.length r0.1.1),(0:Int),()),h0,g0,g11,())) none λr1=>some (r1.1,((),()))))
def Q1f:Q1f.T:=Q1f.gen Q1t QZ K10 K8 Q1f.F0
theorem Q1f.Q1O (cK181:Q1t.T) (cK171:QZ.T) (cK10:K10.T) (cK8:K8.T) (l0:Q1f.l0T) (a:Q1f.L0.T):run Tryz.prog (Q1f.H cK181 cK171 cK10 cK8 l0) 6 (Option (Q1f.L0.T⊕ExT Q1f.X0)) none Q1f.B0 (Q1f.L0.enc a) (Zc (14,14) Q1f.L0 Q1f.X0)=Q1f.QW cK181 cK171 cK10 cK8 a:=by kernel_rfl
abbrev Q1f.h:=Q1f.H Q1t QZ K10 K8 Q1f.F0
theorem Q1f.Q1D:LO_ Q1f.h Q1f.B0 (Z6 (14,14) Q1f.L0 Q1f.X0 Q1f.F0):=lk_ (hn_ (Z0 (Z0 (Z0 (Z0 Z2 Q1t.ok) QZ.ok) K10.ok) K8.ok)) (Q1f.Q1O Q1t QZ K10 K8 Q1f.F0)
theorem Q1f.eq (cK181:Q1t.T) (cK171:QZ.T) (cK10:K10.T) (cK8:K8.T) (l0:Q1f.l0T):EqA Q1f.sig (Q1f.H cK181 cK171 cK10 cK8 l0) Tryz.f44 6 (Q1f.W (Q1f.gen cK181 cK171 cK10 cK8 l0)):=by intro a x;kernel_rfl
theorem Q1f.loops:Z3 Q1f.C= [(.loop Q1f.B0)]:=by kernel_rfl
theorem Q1f.ok:NK_ 44 Q1f.sig (Q1f.W Q1f):=ok_ Tryz.func44 (Q1f.eq Q1t QZ K10 K8 Q1f.F0) (hl_ (Z0 (Z0 (Z0 (Z0 Z2 Q1t.ok) QZ.ok) K10.ok) K8.ok) (Z4 (by kernel_rfl) Q1f.Q1D Z5)) Q1f.loops
def Q1F.sig:Sig U:=⟨[.ptr],[.obj .Qi,.fam 11 (.rows .Qo)],2,[.int .i64],false,[]⟩
abbrev Q1F.T:Type:=(Q3)->(Nat×(Nat->List Qa))->Option ((Int×Unit)×Unit×Unit)
def Q1F.W (f:Q1F.T):Q1F.sig.F:=λa x=>f x.1 x.2.1
abbrev Q1F.N (c:Q1F.T):=Qp 30 (Q1F.sig.native (Q1F.W c))
def Q1F.H:Hints U:={ Γ:=noΓ,ro:=14,base:=14}
def Q1F.gen:Q1F.T:=λh0 g11=>
 some ((ofN h0.Q1K.2,()),((),()))
def Q1F:Q1F.T:=Q1F.gen
theorem Q1F.ok:NK_ 30 Q1F.sig (Q1F.W Q1F):=ok_ (H:=Q1F.H) (n:=6) Tryz.func30 (by intro a x;kernel_rfl) (hn_ Z2)
def Qx.sig:Sig U:=⟨[.ptr,.int .i64],[.obj .Qi,.fam 11 (.rows .Qo)],2,[.isl .int],false,[]⟩
abbrev Qx.T:Type:=(Int)->(Q3)->(Nat×(Nat->List Qa))->Option (((List (Int))×Unit)×Unit×Unit)
def Qx.W (f:Qx.T):Qx.sig.F:=λa x=>f a.2.1 x.1 x.2.1
def Qx.L0:Shape U:=⟨56,16,[(0,.ptr 13 0 0),(5,.ptr 14 0 0),(6,.ptr 15 0 0),(7,vb_)],[(13,.obj .Qi),(14,.Qf true .bool),(15,.Qf true .bool),(11,.Q1a .Qo)]⟩
def Qx.X0:Qt U:= [(.ret,⟨56,15,[(4,.own .int 14)],[(13,.obj .Qi),(14,.tok),(11,.Q1a .Qo)]⟩)]
abbrev Qx.l0T:Type:=((Bool×Unit)×(Q3×(Fm Bool)×(Fm Bool)×(Nat×(Nat->List Qa))×Unit))->Option ((((List (Int))×Unit)×(Q3×(Nat×(Nat->List Qa))×Unit)))
def Qx.L1:Shape U:=⟨56,16,[(0,.ptr 13 0 0),(5,.ptr 14 0 0),(6,.ptr 15 0 0),(7,vb_),(20,.val (.isl .Q1j)),(21,vi_),(22,vi_)],[(13,.obj .Qi),(14,.Qf true .bool),(15,.Qf true .bool),(11,.Q1a .Qo)]⟩
def Qx.X1:Qt U:= [(.exit 0,⟨56,16,[(0,.ptr 13 0 0),(5,.ptr 14 0 0),(6,.ptr 15 0 0),(7,vb_)],[(13,.obj .Qi),(14,.Qf true .bool),(15,.Qf true .bool),(11,.Q1a .Qo)]⟩)]
abbrev Qx.l1T:Type:=((Bool×(List (Qk))×Int×Int×Unit)×(Q3×(Fm Bool)×(Fm Bool)×(Nat×(Nat->List Qa))×Unit))->Option (((Bool×Unit)×(Q3×(Fm Bool)×(Fm Bool)×(Nat×(Nat->List Qa))×Unit)))
def Qx.L2:Shape U:=⟨56,16,[(5,.ptr 14 0 0),(10,.own .int 15),(43,vi_),(44,vi_)],[(13,.obj .Qi),(14,.Qf true .bool),(15,.tok),(11,.Q1a .Qo)]⟩
def Qx.X2:Qt U:= [(.exit 2,⟨56,15,[(10,.own .int 14)],[(13,.obj .Qi),(14,.tok),(11,.Q1a .Qo)]⟩)]
abbrev Qx.l2T:Type:=(((List (Int))×Int×Int×Unit)×(Q3×(Fm Bool)×(Nat×(Nat->List Qa))×Unit))->Option ((((List (Int))×Unit)×(Q3×(Nat×(Nat->List Qa))×Unit)))
def Qx.C:Code:=match Tryz.f12.body with|some c=>c|none=>.skip
def Qx.B0:Code:=match (Z3 Qx.C).getD 0 .skip with| .loop b=>b| .scope b=>b|_=>.skip
def Qx.B1:Code:=match (Z3 Qx.C).getD 1 .skip with| .loop b=>b| .scope b=>b|_=>.skip
def Qx.B2:Code:=match (Z3 Qx.C).getD 2 .skip with| .loop b=>b| .scope b=>b|_=>.skip
def Qx.R0:Code:=(findLabel Qx.B0 0).getD .skip
def Qx.JC20:Qt U:= [(.normal,⟨56,16,[(5,.ptr 14 0 0),(10,.own .int 15),(43,vi_),(44,vi_)],[(13,.obj .Qi),(14,.Qf true .bool),(15,.tok),(11,.Q1a .Qo)]⟩)]
def Qx.JC13:Qt U:= [(.normal,⟨56,16,[(0,.ptr 13 0 0),(5,.ptr 14 0 0),(6,.ptr 15 0 0),(7,vb_),(20,.val (.isl .Q1j)),(21,vi_),(22,vi_)],[(13,.obj .Qi),(14,.Qf true .bool),(15,.Qf true .bool),(11,.Q1a .Qo)]⟩)]
def Qx.H (cK171:QZ.T) (cK181:Q1t.T) (cK178:Q1F.T) (l0:Qx.l0T) (l1:Qx.l1T) (l2:Qx.l2T):Hints U:={ Γ:=(Q1F.N cK178 (Q1t.N cK181 (QZ.N cK171 (Qp 3000000097 Z1e noΓ)))),ro:=14,base:=14,Q29:=jt_ [(13,Qx.JC13),(20,Qx.JC20)],label:=λb=>bif Nat.beq b 0 then some (Z6 (14,14) Qx.L0 Qx.X0 l0) else none,gotos:=3,loop:=jt_ [(10,(Z6 (14,14) Qx.L1 Qx.X1 l1)),(17,(Z6 (14,14) Qx.L2 Qx.X2 l2))]}
def Qx.Q5x (cK171:QZ.T) (cK181:Q1t.T) (cK178:Q1F.T) (a:((List (Int))×Int×Int×Unit)×(Q3×(Fm Bool)×(Nat×(Nat->List Qa))×Unit)):Option ((((List (Int))×Int×Int×Unit)×(Q3×(Fm Bool)×(Nat×(Nat->List Qa))×Unit))⊕((((List (Int))×Unit)×(Q3×(Nat×(Nat->List Qa))×Unit)))):=
 (bif ilt a.1.2.2.1 a.1.2.1 then (bif bif inR a.1.2.2.1 8 then inR a.1.2.2.1 a.2.2.1.1 else false then (Q0 ((bif a.2.2.1.2 (Int.toNat a.1.2.2.1) then (bif room (List.length a.1.1+List.length (a.1.2.2.1::QG Int)) 8 then some ((a.1.1++a.1.2.2.1::QG Int,a.1.2),a.2) else none) else some a)) none λr0=>some (.inl ((r0.1.1,(r0.1.2.1,(Q2 .i64 r0.1.2.2.1 1,()))),r0.2))) else none) else some (.inr ((a.1.1,()),(a.2.1,a.2.2.2))))
def Qx.F2:Qx.l2T:=λa=>Z8 (1000000+(a.1.1.length)) (Qx.Q5x QZ Q1t Q1F) a
def Qx.Q2n (cK171:QZ.T) (cK181:Q1t.T) (cK178:Q1F.T) (a:(Bool×(List (Qk))×Int×Int×Unit)×(Q3×(Fm Bool)×(Fm Bool)×(Nat×(Nat->List Qa))×Unit)):Option (((Bool×(List (Qk))×Int×Int×Unit)×(Q3×(Fm Bool)×(Fm Bool)×(Nat×(Nat->List Qa))×Unit))⊕(((Bool×Unit)×(Q3×(Fm Bool)×(Fm Bool)×(Nat×(Nat->List Qa))×Unit)))):=
 (bif ilt a.1.2.2.2.1 a.1.2.2.1 then (bif inR a.1.2.2.2.1 (List.length a.1.2.1) then (bif bif inR (List.getD a.1.2.1 (Int.toNat a.1.2.2.2.1) Qk.zero).QO 8 then inR (List.getD a.1.2.1 (Int.toNat a.1.2.2.2.1) Qk.zero).QO a.2.2.1.1 else false then (bif bif inR (List.getD a.1.2.1 (Int.toNat a.1.2.2.2.1) Qk.zero).Q4o 8 then inR (List.getD a.1.2.1 (Int.toNat a.1.2.2.2.1) Qk.zero).Q4o a.2.2.2.1.1 else false then (Q0 ((bif !a.2.2.1.2 (Int.toNat (List.getD a.1.2.1 (Int.toNat a.1.2.2.2.1) Qk.zero).QO)==a.2.2.2.1.2 (Int.toNat (List.getD a.1.2.1 (Int.toNat a.1.2.2.2.1) Qk.zero).Q4o) then (bif bif inR (List.getD a.1.2.1 (Int.toNat a.1.2.2.2.1) Qk.zero).QO 8 then inR (List.getD a.1.2.1 (Int.toNat a.1.2.2.2.1) Qk.zero).QO a.2.2.1.1 else false then (bif bif inR (List.getD a.1.2.1 (Int.toNat a.1.2.2.2.1) Qk.zero).Q4o 8 then inR (List.getD a.1.2.1 (Int.toNat a.1.2.2.2.1) Qk.zero).Q4o a.2.2.2.1.1 else false then some ((true,a.1.2),(a.2.1,((a.2.2.1.1,QA a.2.2.1.2 (Int.toNat (List.getD a.1.2.1 (Int.toNat a.1.2.2.2.1) Qk.zero).QO) true),((a.2.2.2.1.1,QA a.2.2.2.1.2 (Int.toNat (List.getD a.1.2.1 (Int.toNat a.1.2.2.2.1) Qk.zero).Q4o) true),a.2.2.2.2)))) else none) else none) else some a)) none λr0=>some (.inl ((r0.1.1,(r0.1.2.1,(r0.1.2.2.1,(Q2 .i64 r0.1.2.2.2.1 1,())))),r0.2))) else none) else none) else none) else some (.inr ((a.1.1,()),a.2)))
def Qx.F1:Qx.l1T:=λa=>Z8 (1000000+(a.1.2.1.length)) (Qx.Q2n QZ Q1t Q1F) a
def Qx.QW (cK171:QZ.T) (cK181:Q1t.T) (cK178:Q1F.T) (l1:Qx.l1T) (l2:Qx.l2T) (a:(Bool×Unit)×(Q3×(Fm Bool)×(Fm Bool)×(Nat×(Nat->List Qa))×Unit)):Option (((Bool×Unit)×(Q3×(Fm Bool)×(Fm Bool)×(Nat×(Nat->List Qa))×Unit))⊕((((List (Int))×Unit)×(Q3×(Nat×(Nat->List Qa))×Unit)))):=
 (bif a.1.1 then (Q0 (cK181 a.2.1) none λr0=>(Q0 (l1 ((false,r0.1.1,ofN (List.length r0.1.1),(0:Int),()),a.2)) none λr1=>some (.inl r1))) else (Q0 (cK178 a.2.1 a.2.2.2.2.1) none λr2=>(Q0 (l2 ((QG Int,r2.1.1,(0:Int),()),a.2.1,a.2.2.1,a.2.2.2.2)) none λr3=>some (.inr r3))))
def Qx.F0:Qx.l0T:=λa=>Z8 (1000000) (Qx.QW QZ Q1t Q1F Qx.F1 Qx.F2) a
def Qx.gen (cK171:QZ.T) (cK181:Q1t.T) (cK178:Q1F.T) (l0:Qx.l0T) (l1:Qx.l1T) (l2:Qx.l2T):Qx.T:=λi h0 g11=>
 (Q0 (cK171 i h0 g11) none λr0=>(bif !Option.isSome r0.1.1 then some ((QG Int,()),((),())) else (bif bif inR i 8 then inR i 8 else false then (Q0 (cK181 h0) none λr1=>(Q0 (l1 ((false,r1.1.1,ofN (List.length r1.1.1),(0:Int),()),h0,(8,QA (λ(j:Nat)=>List.getD (false::false::false::false::false::false::false::false::QG Bool) j false) (Int.toNat i) true),(8,λ(j:Nat)=>List.getD (false::false::false::false::false::false::false::false::QG Bool) j false),g11,())) none λr2=>(Q0 (l0 r2) none λr3=>some (r3.1,((),()))))) else none)))
def Qx:Qx.T:=Qx.gen QZ Q1t Q1F Qx.F0 Qx.F1 Qx.F2
theorem Qx.Q7m (cK171:QZ.T) (cK181:Q1t.T) (cK178:Q1F.T) (l0:Qx.l0T) (l1:Qx.l1T) (l2:Qx.l2T) (a:Qx.L2.T):run Tryz.prog (Qx.H cK171 cK181 cK178 l0 l1 l2) 6 (Option (Qx.L2.T⊕ExT Qx.X2)) none Qx.B2 (Qx.L2.enc a) (Zc (14,14) Qx.L2 Qx.X2)=Qx.Q5x cK171 cK181 cK178 a:=by kernel_rfl
theorem Qx.Q70:Z3 Qx.B2=([]:List Code):=by kernel_rfl
abbrev Qx.h:=Qx.H QZ Q1t Q1F Qx.F0 Qx.F1 Qx.F2
theorem Qx.Q6I:ZA U Tryz.prog Qx.h.ro Qx.h.base Qx.B2 (Z6 (14,14) Qx.L2 Qx.X2 Qx.F2):=
 Z1b (Hn:=Qx.h) Q3X Q2t (ZY (ZB Q3X Q2t mixed (Z0 (Z0 (Z0 (Z0 Z2 Zd) QZ.ok) Q1t.ok) Q1F.ok) Z5 Z14 (Z1l λ_=>rfl)) 6) (λb h=>by rw [Qx.Q70] at h;exact h) (λ_=>rfl) (Qx.Q7m QZ Q1t Q1F Qx.F0 Qx.F1 Qx.F2)
theorem Qx.seq1 (cK171:QZ.T) (cK181:Q1t.T) (cK178:Q1F.T) (l0:Qx.l0T) (l1:Qx.l1T) (l2:Qx.l2T) (a:Qx.L1.T):run Tryz.prog (Qx.H cK171 cK181 cK178 l0 l1 l2) 6 (Option (Qx.L1.T⊕ExT Qx.X1)) none Qx.B1 (Qx.L1.enc a) (Zc (14,14) Qx.L1 Qx.X1)=Qx.Q2n cK171 cK181 cK178 a:=by kernel_rfl
theorem Qx.Q68:Z3 Qx.B1=([]:List Code):=by kernel_rfl
theorem Qx.Q3z:ZA U Tryz.prog Qx.h.ro Qx.h.base Qx.B1 (Z6 (14,14) Qx.L1 Qx.X1 Qx.F1):=
 Z1b (Hn:=Qx.h) Q3X Q2t (ZY (ZB Q3X Q2t mixed (Z0 (Z0 (Z0 (Z0 Z2 Zd) QZ.ok) Q1t.ok) Q1F.ok) Z5 Z14 (Z1l λ_=>rfl)) 6) (λb h=>by rw [Qx.Q68] at h;exact h) (λ_=>rfl) (Qx.seq1 QZ Q1t Q1F Qx.F0 Qx.F1 Qx.F2)
theorem Qx.Q1O (cK171:QZ.T) (cK181:Q1t.T) (cK178:Q1F.T) (l0:Qx.l0T) (l1:Qx.l1T) (l2:Qx.l2T) (a:Qx.L0.T):run Tryz.prog (Qx.H cK171 cK181 cK178 l0 l1 l2) 6 (Option (Qx.L0.T⊕ExT Qx.X0)) none Qx.R0 (Qx.L0.enc a) (Z2v (14,14) 0 Qx.L0 Qx.X0)=Qx.QW cK171 cK181 cK178 l1 l2 a:=by kernel_rfl
theorem Qx.Q3V:Z3 Qx.R0= [(.loop Qx.B1),(.loop Qx.B2)]:=by kernel_rfl
theorem Qx.Q1D:ZR U Tryz.prog Qx.h.ro Qx.h.base Qx.B0 Qx.R0 (Z6 (14,14) Qx.L0 Qx.X0 Qx.F0):=
 Z4H (Hn:=Qx.h) (lb:=0) Q3X Q2t (ZY (ZB Q3X Q2t mixed (Z0 (Z0 (Z0 (Z0 Z2 Zd) QZ.ok) Q1t.ok) Q1F.ok) (Z4 (by kernel_rfl) Qx.Q3z (Z4 (by kernel_rfl) Qx.Q6I Z5)) (Z1A (Z1A Z14)) (Z1l λ_=>rfl)) 6) (by kernel_rfl) (λb h=>by rw [Qx.Q3V] at h;exact h) (λ_=>rfl) (Qx.Q1O QZ Q1t Q1F Qx.F0 Qx.F1 Qx.F2)
theorem Qx.eq (cK171:QZ.T) (cK181:Q1t.T) (cK178:Q1F.T) (l0:Qx.l0T) (l1:Qx.l1T) (l2:Qx.l2T):EqA Qx.sig (Qx.H cK171 cK181 cK178 l0 l1 l2) Tryz.f12 6 (Qx.W (Qx.gen cK171 cK181 cK178 l0 l1 l2)):=by intro a x;kernel_rfl
theorem Qx.loops:Z3 Qx.C= [(.scope Qx.B0),(.loop Qx.B1),(.loop Qx.B2)]:=by kernel_rfl
theorem Qx.hints:Q3c U Tryz.prog Qx.h (λc=>c∈ [(.scope Qx.B0),(.loop Qx.B1),(.loop Qx.B2)]):=(ZB Q3X Q2t mixed (Z0 (Z0 (Z0 (Z0 Z2 Zd) QZ.ok) Q1t.ok) Q1F.ok) (Zt (Z4 (by kernel_rfl) Qx.Q3z (Z4 (by kernel_rfl) Qx.Q6I Z5))) (Z3k (Z4B (r0:=Qx.R0) (l0:=0) (by kernel_rfl) (λ_=>rfl) Qx.Q1D) (Z1A (Z1A Z14))) (Z1l λ_=>rfl))
theorem Qx.ok:Zi U Tryz.prog 12 (Qx.sig.native (Qx.W Qx)):=
 Sig.ok Qx.sig (Qx.W Qx) Q2t (Hn:=Qx.h) (code:=Qx.C) (gos:=6) Qx.hints Tryz.func12 (by kernel_rfl) (by kernel_rfl) (λb h=>by rw [Qx.loops] at h;exact h) rfl rfl (by decide) (Qx.eq QZ Q1t Q1F Qx.F0 Qx.F1 Qx.F2) (by decide)
def K45.sig:Sig U:=⟨[.data .Q11],[],0,[.data .Q16],false,[]⟩
abbrev K45.T:Type:=(Qb)->Option ((Qv×Unit)×Unit×Unit)
def K45.W (f:K45.T):K45.sig.F:=λa x=>f a.1
def K45.H:Hints U:={ Γ:=noΓ,ro:=0,base:=13}
def K45.gen:K45.T:=λc=>
 some ((Qv.mk c.Q1y c.QY c.Q1C c.QO 0 (Q9.mk c.QO 0) (Q9.mk c.QO 0),()),((),()))
def K45:K45.T:=K45.gen
theorem K45.ok:NK_ 31 K45.sig (K45.W K45):=ok_ (H:=K45.H) (n:=6) Tryz.func31 (by intro a x;kernel_rfl) (hn_ Z2)
def K40.sig:Sig U:=⟨[.int .i64],[],0,[.bool],false,[]⟩
abbrev K40.T:Type:=(Int)->Option ((Bool×Unit)×Unit×Unit)
def K40.W (f:K40.T):K40.sig.F:=λa x=>f a.1
def K40.H:Hints U:={ Γ:=noΓ,ro:=0,base:=13}
def K40.gen:K40.T:=λx_0=>
 some ((ine x_0 x_0,()),((),()))
def K40:K40.T:=K40.gen
theorem K40.ok:NK_ 80 K40.sig (K40.W K40):=ok_ (H:=K40.H) (n:=6) Tryz.func80 (by intro a x;kernel_rfl) (hn_ Z2)
def K37.sig:Sig U:=⟨[.int .i64,.int .i64],[],0,[.int .i64],false,[]⟩
abbrev K37.T:Type:=(Int)->(Int)->Option ((Int×Unit)×Unit×Unit)
def K37.W (f:K37.T):K37.sig.F:=λa x=>f a.1 a.2.1
abbrev K37.N (c:K37.T):=Qp 52 (K37.sig.native (K37.W c))
def K37.H (cK40:K40.T):Hints U:={ Γ:=(Qp 80 (K40.sig.native (K40.W cK40)) noΓ),ro:=0,base:=13}
def K37.gen (cK40:K40.T):K37.T:=λx_0 y=>
 (Q0 (cK40 x_0) none λr0=>(Q0 (cK40 y) none λr1=>(bif r0.1.1 then (bif r1.1.1 then some (((0:Int),()),((),())) else some (((-1:Int),()),((),()))) else (bif r1.1.1 then some (((1:Int),()),((),())) else (bif ilt x_0 y then some (((-1:Int),()),((),())) else (bif ilt y x_0 then some (((1:Int),()),((),())) else some (((0:Int),()),((),()))))))))
def K37:K37.T:=K37.gen K40
theorem K37.eq (cK40:K40.T):EqA K37.sig (K37.H cK40) Tryz.f52 6 (K37.W (K37.gen cK40)):=by intro a x;kernel_rfl
theorem K37.ok:NK_ 52 K37.sig (K37.W K37):=ok_ Tryz.func52 (K37.eq K40) (hn_ (Z0 Z2 K40.ok))
def K39.sig:Sig U:=⟨[.isl .int],[],0,[.int .i64],false,[]⟩
abbrev K39.T:Type:=(List (Int))->Option ((Int×Unit)×Unit×Unit)
def K39.W (f:K39.T):K39.sig.F:=λa x=>f a.1
abbrev K39.N (c:K39.T):=Qp 81 (K39.sig.native (K39.W c))
def K39.L0:Shape U:=⟨18,13,[(3,vi_),(6,.val (.isl .int)),(7,vi_),(8,vi_)],[]⟩
def K39.X0:Qt U:= [(.exit 0,⟨18,13,[(3,vi_)],[]⟩),
 (.ret,⟨18,13,[(2,vi_)],[]⟩)]
abbrev K39.l0T:Type:=((Int×(List (Int))×Int×Int×Unit)×Unit)->Option (((Int×Unit)×Unit)⊕((Int×Unit)×Unit))
def K39.C:Code:=match Tryz.f81.body with|some c=>c|none=>.skip
def K39.B0:Code:=match (Z3 K39.C).getD 0 .skip with| .loop b=>b| .scope b=>b|_=>.skip
def K39.H (l0:K39.l0T):Hints U:={ Γ:=noΓ,ro:=0,base:=13,loop:=jt_ [(3,(Z6 (0,13) K39.L0 K39.X0 l0))]}
def K39.QW (a:(Int×(List (Int))×Int×Int×Unit)×Unit):Option (((Int×(List (Int))×Int×Int×Unit)×Unit)⊕(((Int×Unit)×Unit)⊕((Int×Unit)×Unit))):=
 (bif ilt a.1.2.2.2.1 a.1.2.2.1 then (bif inR a.1.2.2.2.1 (List.length a.1.2.1) then (bif ine (List.getD a.1.2.1 (Int.toNat a.1.2.2.2.1) (0:D UC.int)) a.1.1 then some (.inr (.inr ((List.getD a.1.2.1 (Int.toNat a.1.2.2.2.1) (0:D UC.int),()),()))) else some (.inl ((a.1.1,(a.1.2.1,(a.1.2.2.1,(Q2 .i64 a.1.2.2.2.1 1,())))),()))) else none) else some (.inr (.inl ((a.1.1,()),()))))
def K39.F0:K39.l0T:=λa=>Z8 (1000000+(a.1.2.1.length)) (K39.QW) a
def K39.gen (l0:K39.l0T):K39.T:=λQ9v=>
 (Q0 (l0 (((0:Int),Q9v,ofN (List.length Q9v),(0:Int),()),())) none λr0=>(Q3B r0 (λr1=>some (r1.1,((),()))) (λr1=>some (r1.1,((),())))))
def K39:K39.T:=K39.gen K39.F0
theorem K39.Q1O (l0:K39.l0T) (a:K39.L0.T):run Tryz.prog (K39.H l0) 6 (Option (K39.L0.T⊕ExT K39.X0)) none K39.B0 (K39.L0.enc a) (Zc (0,13) K39.L0 K39.X0)=K39.QW a:=by kernel_rfl
abbrev K39.h:=K39.H K39.F0
theorem K39.Q1D:LO_ K39.h K39.B0 (Z6 (0,13) K39.L0 K39.X0 K39.F0):=lk_ (hn_ Z2) (K39.Q1O K39.F0)
theorem K39.eq (l0:K39.l0T):EqA K39.sig (K39.H l0) Tryz.f81 6 (K39.W (K39.gen l0)):=by intro a x;kernel_rfl
theorem K39.loops:Z3 K39.C= [(.loop K39.B0)]:=by kernel_rfl
theorem K39.ok:NK_ 81 K39.sig (K39.W K39):=ok_ Tryz.func81 (K39.eq K39.F0) (hl_ Z2 (Z4 (by kernel_rfl) K39.Q1D Z5)) K39.loops
def Q38.sig:Sig U:=⟨[.data .Q2y,.data .Q2y],[],0,[.int .i64],false,[]⟩
abbrev Q38.T:Type:=(QU)->(QU)->Option ((Int×Unit)×Unit×Unit)
def Q38.W (f:Q38.T):Q38.sig.F:=λa x=>f a.1 a.2.1
def Q38.H (cK37:K37.T) (cK39:K39.T):Hints U:={ Γ:=(K39.N cK39 (K37.N cK37 noΓ)),ro:=0,base:=13}
def Q38.gen (cK37:K37.T) (cK39:K39.T):Q38.T:=λa b=>
 (Q0 (cK37 a.Q2Y b.Q2Y) none λr0=>(Q0 (cK37 a.Q2l b.Q2l) none λr1=>(Q0 (cK37 a.Q2k b.Q2k) none λr2=>(Q0 (cK39 (r0.1.1::r1.1.1::r2.1.1::QG Int)) none λr3=>some (r3.1,((),()))))))
def Q38:Q38.T:=Q38.gen K37 K39
theorem Q38.eq (cK37:K37.T) (cK39:K39.T):EqA Q38.sig (Q38.H cK37 cK39) Tryz.f53 6 (Q38.W (Q38.gen cK37 cK39)):=by intro a x;kernel_rfl
theorem Q38.ok:NK_ 53 Q38.sig (Q38.W Q38):=ok_ Tryz.func53 (Q38.eq K37 K39) (hn_ (Z0 (Z0 Z2 K37.ok) K39.ok))
def K41.sig:Sig U:=⟨[.int .u64],[],0,[.bool],false,[]⟩
abbrev K41.T:Type:=(Int)->Option ((Bool×Unit)×Unit×Unit)
def K41.W (f:K41.T):K41.sig.F:=λa x=>f a.1
def K41.H:Hints U:={ Γ:=noΓ,ro:=0,base:=13}
def K41.gen:K41.T:=λx_0=>
 some ((ine x_0 x_0,()),((),()))
def K41:K41.T:=K41.gen
theorem K41.ok:NK_ 82 K41.sig (K41.W K41):=ok_ (H:=K41.H) (n:=6) Tryz.func82 (by intro a x;kernel_rfl) (hn_ Z2)
def K38.sig:Sig U:=⟨[.int .u64,.int .u64],[],0,[.int .i64],false,[]⟩
abbrev K38.T:Type:=(Int)->(Int)->Option ((Int×Unit)×Unit×Unit)
def K38.W (f:K38.T):K38.sig.F:=λa x=>f a.1 a.2.1
abbrev K38.N (c:K38.T):=Qp 54 (K38.sig.native (K38.W c))
def K38.H (cK41:K41.T):Hints U:={ Γ:=(Qp 82 (K41.sig.native (K41.W cK41)) noΓ),ro:=0,base:=13}
def K38.gen (cK41:K41.T):K38.T:=λx_0 y=>
 (Q0 (cK41 x_0) none λr0=>(Q0 (cK41 y) none λr1=>(bif r0.1.1 then (bif r1.1.1 then some (((0:Int),()),((),())) else some (((-1:Int),()),((),()))) else (bif r1.1.1 then some (((1:Int),()),((),())) else (bif ilt x_0 y then some (((-1:Int),()),((),())) else (bif ilt y x_0 then some (((1:Int),()),((),())) else some (((0:Int),()),((),()))))))))
def K38:K38.T:=K38.gen K41
theorem K38.eq (cK41:K41.T):EqA K38.sig (K38.H cK41) Tryz.f54 6 (K38.W (K38.gen cK41)):=by intro a x;kernel_rfl
theorem K38.ok:NK_ 54 K38.sig (K38.W K38):=ok_ Tryz.func54 (K38.eq K41) (hn_ (Z0 Z2 K41.ok))
def K44.sig:Sig U:=⟨[.data .Q16,.data .Q16],[],0,[.int .i64],false,[]⟩
abbrev K44.T:Type:=(Qv)->(Qv)->Option ((Int×Unit)×Unit×Unit)
def K44.W (f:K44.T):K44.sig.F:=λa x=>f a.1 a.2.1
def K44.C:Code:=match Tryz.f33.body with|some c=>c|none=>.skip
def K44.B0:Code:=match (Z3 K44.C).getD 0 .skip with| .loop b=>b| .scope b=>b|_=>.skip
def K44.U0 (cK37:K37.T) (cK127:Q38.T) (cK38:K38.T):Hints U:={ Γ:=(K38.N cK38 (Qp 53 (Q38.sig.native (Q38.W cK127)) (K37.N cK37 noΓ))),ro:=0,base:=13,loop:=λb=>none}
def K44.H (cK37:K37.T) (cK127:Q38.T) (cK38:K38.T):Hints U:={ Γ:=(K38.N cK38 (Qp 53 (Q38.sig.native (Q38.W cK127)) (K37.N cK37 noΓ))),ro:=0,base:=13,loop:=jt_ [(2,(Z21 Tryz.prog (K44.U0 cK37 cK127 cK38) 6 K44.B0 6))]}
def K44.gen (cK37:K37.T) (cK127:Q38.T) (cK38:K38.T):K44.T:=λa b=>
 (Q0 (cK37 a.Q1y b.Q1y) none λr0=>(Q0 (cK127 a.QY b.QY) none λr1=>(Q0 (cK37 a.Q1C b.Q1C) none λr2=>(Q0 (cK38 a.Q3g b.Q3g) none λr3=>(bif ine (List.getD (r0.1.1::r1.1.1::r2.1.1::r3.1.1::QG Int) (Int.toNat 0) 0) 0 then some ((List.getD (r0.1.1::r1.1.1::r2.1.1::r3.1.1::QG Int) (Int.toNat 0) 0,()),((),())) else (bif ine (List.getD (r0.1.1::r1.1.1::r2.1.1::r3.1.1::QG Int) (Int.toNat (Q2 .i64 0 1)) 0) 0 then some ((List.getD (r0.1.1::r1.1.1::r2.1.1::r3.1.1::QG Int) (Int.toNat (Q2 .i64 0 1)) 0,()),((),())) else (bif ine (List.getD (r0.1.1::r1.1.1::r2.1.1::r3.1.1::QG Int) (Int.toNat (Q2 .i64 (Q2 .i64 0 1) 1)) 0) 0 then some ((List.getD (r0.1.1::r1.1.1::r2.1.1::r3.1.1::QG Int) (Int.toNat (Q2 .i64 (Q2 .i64 0 1) 1)) 0,()),((),())) else (bif ine (List.getD (r0.1.1::r1.1.1::r2.1.1::r3.1.1::QG Int) (Int.toNat (Q2 .i64 (Q2 .i64 (Q2 .i64 0 1) 1) 1)) 0) 0 then some ((List.getD (r0.1.1::r1.1.1::r2.1.1::r3.1.1::QG Int) (Int.toNat (Q2 .i64 (Q2 .i64 (Q2 .i64 0 1) 1) 1)) 0,()),((),())) else some (((0:Int),()),((),()))))))))))
def K44:K44.T:=K44.gen K37 Q38 K38
theorem K44.Q3V:Z3 K44.B0= []:=by kernel_rfl
abbrev K44.h:=K44.H K37 Q38 K38
theorem K44.Q1D:ZA U Tryz.prog K44.h.ro K44.h.base K44.B0 (Z21 Tryz.prog (K44.U0 K37 Q38 K38) 6 K44.B0 6):=
 Z2C (Hn:=(K44.U0 K37 Q38 K38)) (L:=λc=>c∈([]:List Code)) (hq (Z0 (Z0 (Z0 Z2 K37.ok) Q38.ok) K38.ok) Z5 (λ_=>rfl) (λ_=>rfl)) (λb h=>by rw [K44.Q3V] at h;exact h) 6
theorem K44.eq (cK37:K37.T) (cK127:Q38.T) (cK38:K38.T):EqA K44.sig (K44.H cK37 cK127 cK38) Tryz.f33 6 (K44.W (K44.gen cK37 cK127 cK38)):=by intro a x;kernel_rfl
theorem K44.loops:Z3 K44.C= [(.loop K44.B0)]:=by kernel_rfl
theorem K44.ok:NK_ 33 K44.sig (K44.W K44):=ok_ Tryz.func33 (K44.eq K37 Q38 K38) (hl_ (Z0 (Z0 (Z0 Z2 K37.ok) Q38.ok) K38.ok) (Z4 (by kernel_rfl) K44.Q1D Z5)) K44.loops
def Q1p.sig:Sig U:=⟨[.ptr,.int .i64],[.obj .Qi,Q4Y,.fam 11 (.rows .Qo)],3,[.int .i64],false,[]⟩
abbrev Q1p.T:Type:=(Int)->(Q3)->(Fm Q1)->(Nat×(Nat->List Qa))->Option ((Int×Unit)×Unit×Unit)
def Q1p.W (f:Q1p.T):Q1p.sig.F:=λa x=>f a.2.1 x.1 x.2.1 x.2.2.1
def Q1p.L0:Shape U:=⟨35,15,[(0,.ptr 13 0 0),(5,vi_),(6,.ptr 14 0 0),(12,.val (.isl .int)),(13,vi_),(14,vi_)],[(13,.obj .Qi),(14,.obj .Q16),(0,.Qf false .Q4),(11,.Q1a .Qo)]⟩
def Q1p.X0:Qt U:= [(.exit 0,⟨35,14,[(5,vi_)],[(13,.obj .Qi),(0,.Qf false .Q4),(11,.Q1a .Qo)]⟩)]
abbrev Q1p.l0T:Type:=((Int×(List (Int))×Int×Int×Unit)×(Q3×Qv×(Fm Q1)×(Nat×(Nat->List Qa))×Unit))->Option (((Int×Unit)×(Q3×(Fm Q1)×(Nat×(Nat->List Qa))×Unit)))
def Q1p.C:Code:=match Tryz.f13.body with|some c=>c|none=>.skip
def Q1p.B0:Code:=match (Z3 Q1p.C).getD 0 .skip with| .loop b=>b| .scope b=>b|_=>.skip
def Q1p.JC8:Qt U:= [(.normal,⟨35,15,[(0,.ptr 13 0 0),(5,vi_),(6,.ptr 14 0 0),(12,.val (.isl .int)),(13,vi_),(14,vi_)],[(13,.obj .Qi),(14,.obj .Q16),(0,.Qf false .Q4),(11,.Q1a .Qo)]⟩)]
def Q1p.H (cK165:Qx.T) (cK171:QZ.T) (cK8:K8.T) (cK45:K45.T) (cK44:K44.T) (l0:Q1p.l0T):Hints U:={ Γ:=(Qp 33 (K44.sig.native (K44.W cK44)) (Qp 31 (K45.sig.native (K45.W cK45)) (K8.N cK8 (QZ.N cK171 (Qp 12 (Qx.sig.native (Qx.W cK165)) noΓ))))),ro:=14,base:=14,Q1T:=jt_ [(7,[(30,vb_)])],Q29:=jt_ [(8,Q1p.JC8)],loop:=jt_ [(4,(Z6 (14,14) Q1p.L0 Q1p.X0 l0))]}
def Q1p.QW (cK165:Qx.T) (cK171:QZ.T) (cK8:K8.T) (cK45:K45.T) (cK44:K44.T) (a:(Int×(List (Int))×Int×Int×Unit)×(Q3×Qv×(Fm Q1)×(Nat×(Nat->List Qa))×Unit)):Option (((Int×(List (Int))×Int×Int×Unit)×(Q3×Qv×(Fm Q1)×(Nat×(Nat->List Qa))×Unit))⊕(((Int×Unit)×(Q3×(Fm Q1)×(Nat×(Nat->List Qa))×Unit)))):=
 (bif ilt a.1.2.2.2.1 a.1.2.2.1 then (bif inR a.1.2.2.2.1 (List.length a.1.2.1) then (Q0 (cK171 (List.getD a.1.2.1 (Int.toNat a.1.2.2.2.1) (0:D UC.int)) a.2.1 a.2.2.2.2.1) none λr0=>(Q0 ((Q0 (r0.1.1) none λr1=>(Q0 (cK8 (a.2.2.2.1.2 r1)) none λr2=>some (r1,r2)))) none λr3=>(Q0 (cK45 r3.2.1.1) none λr4=>(Q0 ((bif ilt a.1.1 0 then some (true,()) else (Q0 (cK44 r4.1.1 a.2.2.1) none λr5=>some (ilt r5.1.1 0,())))) none λr6=>(Q0 ((bif r6.1 then some ((List.getD a.1.2.1 (Int.toNat a.1.2.2.2.1) (0:D UC.int),a.1.2),(a.2.1,(r4.1.1,a.2.2.2))) else some a)) none λr7=>some (.inl ((r7.1.1,(r7.1.2.1,(r7.1.2.2.1,(Q2 .i64 r7.1.2.2.2.1 1,())))),r7.2))))))) else none) else some (.inr ((a.1.1,()),(a.2.1,a.2.2.2))))
def Q1p.F0:Q1p.l0T:=λa=>Z8 (1000000+(a.1.2.1.length)) (Q1p.QW Qx QZ K8 K45 K44) a
def Q1p.gen (cK165:Qx.T) (cK171:QZ.T) (cK8:K8.T) (cK45:K45.T) (cK44:K44.T) (l0:Q1p.l0T):Q1p.T:=λi h0 g0 g11=>
 (Q0 (cK165 i h0 g11) none λr0=>(Q0 (l0 (((-1:Int),r0.1.1,ofN (List.length r0.1.1),(0:Int),()),h0,Qv.mk 0 z1_ 0 0 0 z0_ z0_,g0,g11,())) none λr1=>some (r1.1,((),()))))
def Q1p:Q1p.T:=Q1p.gen Qx QZ K8 K45 K44 Q1p.F0
theorem Q1p.Q1O (cK165:Qx.T) (cK171:QZ.T) (cK8:K8.T) (cK45:K45.T) (cK44:K44.T) (l0:Q1p.l0T) (a:Q1p.L0.T):run Tryz.prog (Q1p.H cK165 cK171 cK8 cK45 cK44 l0) 6 (Option (Q1p.L0.T⊕ExT Q1p.X0)) none Q1p.B0 (Q1p.L0.enc a) (Zc (14,14) Q1p.L0 Q1p.X0)=Q1p.QW cK165 cK171 cK8 cK45 cK44 a:=by kernel_rfl
abbrev Q1p.h:=Q1p.H Qx QZ K8 K45 K44 Q1p.F0
theorem Q1p.Q1D:LO_ Q1p.h Q1p.B0 (Z6 (14,14) Q1p.L0 Q1p.X0 Q1p.F0):=lk_ (hn_ (Z0 (Z0 (Z0 (Z0 (Z0 Z2 Qx.ok) QZ.ok) K8.ok) K45.ok) K44.ok)) (Q1p.Q1O Qx QZ K8 K45 K44 Q1p.F0)
theorem Q1p.eq (cK165:Qx.T) (cK171:QZ.T) (cK8:K8.T) (cK45:K45.T) (cK44:K44.T) (l0:Q1p.l0T):EqA Q1p.sig (Q1p.H cK165 cK171 cK8 cK45 cK44 l0) Tryz.f13 6 (Q1p.W (Q1p.gen cK165 cK171 cK8 cK45 cK44 l0)):=by intro a x;kernel_rfl
theorem Q1p.loops:Z3 Q1p.C= [(.loop Q1p.B0)]:=by kernel_rfl
theorem Q1p.ok:NK_ 13 Q1p.sig (Q1p.W Q1p):=ok_ Tryz.func13 (Q1p.eq Qx QZ K8 K45 K44 Q1p.F0) (hl_ (Z0 (Z0 (Z0 (Z0 (Z0 Z2 Qx.ok) QZ.ok) K8.ok) K45.ok) K44.ok) (Z4 (by kernel_rfl) Q1p.Q1D Z5)) Q1p.loops
def K9.sig:Sig U:=⟨[.ptr],[.obj .Q4],1,[.data .Q1x],false,[]⟩
abbrev K9.T:Type:=(Q1)->Option ((QX×Unit)×Unit×Unit)
def K9.W (f:K9.T):K9.sig.F:=λa x=>f x.1
def K9.H:Hints U:={ Γ:=(Qp 5000000021 Z1e noΓ),ro:=14,base:=14}
def K9.gen:K9.T:=λh0=>
 some ((h0.Q2I,()),((),()))
def K9:K9.T:=K9.gen
theorem K9.ok:NK_ 55 K9.sig (K9.W K9):=ok_ (H:=K9.H) (n:=6) Tryz.func55 (by intro a x;kernel_rfl) (hn_ (Z0 Z2 Zd))
def Q1S.sig:Sig U:=⟨[.int .i64],[],0,[.bool],false,[]⟩
abbrev Q1S.T:Type:=(Int)->Option ((Bool×Unit)×Unit×Unit)
def Q1S.W (f:Q1S.T):Q1S.sig.F:=λa x=>f a.1
abbrev Q1S.N (c:Q1S.T):=Qp 68 (Q1S.sig.native (Q1S.W c))
def Q1S.H:Hints U:={ Γ:=noΓ,ro:=0,base:=13}
def Q1S.gen:Q1S.T:=λstate=>
 (bif ieq state 8 then some ((true,()),((),())) else some ((ieq state 9,()),((),())))
def Q1S:Q1S.T:=Q1S.gen
theorem Q1S.ok:NK_ 68 Q1S.sig (Q1S.W Q1S):=ok_ (H:=Q1S.H) (n:=6) Tryz.func68 (by intro a x;kernel_rfl) (hn_ Z2)
def Q1l.sig:Sig U:=⟨[.ptr,.int .i64],[.obj .Qi,Q4Y,.fam 11 (.rows .Qo)],3,[.int .i64,.bool],true,[]⟩
abbrev Q1l.T:Type:=(Int)->(Q3)->(Fm Q1)->(Nat×(Nat->List Qa))->Option ((Int×Bool×Unit)×Unit×Unit)
def Q1l.W (f:Q1l.T):Q1l.sig.F:=λa x=>f a.2.1 x.1 x.2.1 x.2.2.1
def Q1l.L0:Shape U:=⟨51,14,[(0,.ptr 13 0 0),(1,vi_),(6,.val (.ref 0)),(16,vi_),(17,vi_)],[(13,.obj .Qi),(0,.Qf false .Q4),(11,.Q1a .Qo)]⟩
def Q1l.X0:Qt U:= [(.exit 0,⟨51,14,[],[(13,.obj .Qi),(0,.Qf false .Q4),(11,.Q1a .Qo)]⟩),
 (.ret,⟨51,14,[(4,vi_),(5,vb_)],[(13,.obj .Qi),(0,.Qf false .Q4),(11,.Q1a .Qo)]⟩)]
abbrev Q1l.l0T:Type:=((Int×(Option Nat)×Int×Int×Unit)×(Q3×(Fm Q1)×(Nat×(Nat->List Qa))×Unit))->Option ((Unit×(Q3×(Fm Q1)×(Nat×(Nat->List Qa))×Unit))⊕((Int×Bool×Unit)×(Q3×(Fm Q1)×(Nat×(Nat->List Qa))×Unit)))
def Q1l.C:Code:=match Tryz.f34.body with|some c=>c|none=>.skip
def Q1l.B0:Code:=match (Z3 Q1l.C).getD 0 .skip with| .loop b=>b| .scope b=>b|_=>.skip
def Q1l.H (cK171:QZ.T) (cK178:Q1F.T) (cK8:K8.T) (cK9:K9.T) (l0:Q1l.l0T):Hints U:={ Γ:=(Qp 55 (K9.sig.native (K9.W cK9)) (K8.N cK8 (Q1F.N cK178 (QZ.N cK171 noΓ)))),ro:=14,base:=14,Q1T:=jt_ [(8,[(48,vb_)])],loop:=jt_ [(5,(Z6 (14,14) Q1l.L0 Q1l.X0 l0))]}
def Q1l.QW (cK171:QZ.T) (cK178:Q1F.T) (cK8:K8.T) (cK9:K9.T) (a:(Int×(Option Nat)×Int×Int×Unit)×(Q3×(Fm Q1)×(Nat×(Nat->List Qa))×Unit)):Option (((Int×(Option Nat)×Int×Int×Unit)×(Q3×(Fm Q1)×(Nat×(Nat->List Qa))×Unit))⊕((Unit×(Q3×(Fm Q1)×(Nat×(Nat->List Qa))×Unit))⊕((Int×Bool×Unit)×(Q3×(Fm Q1)×(Nat×(Nat->List Qa))×Unit)))):=
 (bif ilt a.1.2.2.2.1 a.1.2.2.1 then (Q0 (cK171 a.1.2.2.2.1 a.2.1 a.2.2.2.1) none λr0=>(Q0 ((Q0 (r0.1.1) none λr1=>(Q0 (cK8 (a.2.2.1.2 r1)) none λr2=>some (r1,r2)))) none λr3=>(Q0 ((Q0 (a.1.2.1) none λr4=>(Q0 (cK9 (a.2.2.1.2 r4)) none λr5=>some (r4,r5)))) none λr6=>(Q0 ((bif ine a.1.2.2.2.1 a.1.1 then (bif ieq r3.2.1.1.QO r6.2.1.1.Q18.QO then (bif ile 1 r6.2.1.1.Q18.Q18 then some (ile r6.2.1.1.Q18.Q18 r3.2.1.1.Q2Z,()) else some (false,())) else some (false,())) else some (false,()))) none λr7=>(bif r7.1 then some (.inr (.inr ((a.1.2.2.2.1,(true,())),a.2))) else some (.inl ((a.1.1,(a.1.2.1,(a.1.2.2.1,(Q2 .i64 a.1.2.2.2.1 1,())))),a.2))))))) else some (.inr (.inl ((),a.2))))
def Q1l.F0:Q1l.l0T:=λa=>Z8 (1000000) (Q1l.QW QZ Q1F K8 K9) a
def Q1l.gen (cK171:QZ.T) (cK178:Q1F.T) (cK8:K8.T) (cK9:K9.T) (l0:Q1l.l0T):Q1l.T:=λi h0 g0 g11=>
 (Q0 (cK171 i h0 g11) none λr0=>(bif !Option.isSome r0.1.1 then some (((0:Int),(false,())),((),())) else (Q0 (cK178 h0 g11) none λr1=>(Q0 (l0 ((i,r0.1.1,r1.1.1,(0:Int),()),h0,g0,g11,())) none λr2=>(Q3B r2 (λr3=>some (((0:Int),(false,())),((),()))) (λr3=>some (r3.1,((),()))))))))
def Q1l:Q1l.T:=Q1l.gen QZ Q1F K8 K9 Q1l.F0
theorem Q1l.Q1O (cK171:QZ.T) (cK178:Q1F.T) (cK8:K8.T) (cK9:K9.T) (l0:Q1l.l0T) (a:Q1l.L0.T):run Tryz.prog (Q1l.H cK171 cK178 cK8 cK9 l0) 6 (Option (Q1l.L0.T⊕ExT Q1l.X0)) none Q1l.B0 (Q1l.L0.enc a) (Zc (14,14) Q1l.L0 Q1l.X0)=Q1l.QW cK171 cK178 cK8 cK9 a:=by kernel_rfl
abbrev Q1l.h:=Q1l.H QZ Q1F K8 K9 Q1l.F0
theorem Q1l.Q1D:LO_ Q1l.h Q1l.B0 (Z6 (14,14) Q1l.L0 Q1l.X0 Q1l.F0):=lk_ (hn_ (Z0 (Z0 (Z0 (Z0 Z2 QZ.ok) Q1F.ok) K8.ok) K9.ok)) (Q1l.Q1O QZ Q1F K8 K9 Q1l.F0)
theorem Q1l.eq (cK171:QZ.T) (cK178:Q1F.T) (cK8:K8.T) (cK9:K9.T) (l0:Q1l.l0T):EqA Q1l.sig (Q1l.H cK171 cK178 cK8 cK9 l0) Tryz.f34 6 (Q1l.W (Q1l.gen cK171 cK178 cK8 cK9 l0)):=by intro a x;kernel_rfl
theorem Q1l.loops:Z3 Q1l.C= [(.loop Q1l.B0)]:=by kernel_rfl
theorem Q1l.ok:NK_ 34 Q1l.sig (Q1l.W Q1l):=ok_ Tryz.func34 (Q1l.eq QZ Q1F K8 K9 Q1l.F0) (hl_ (Z0 (Z0 (Z0 (Z0 Z2 QZ.ok) Q1F.ok) K8.ok) K9.ok) (Z4 (by kernel_rfl) Q1l.Q1D Z5)) Q1l.loops
def Q1r.sig:Sig U:=⟨[.ptr,.int .i64],[.obj .Qi,Q4Y,.fam 11 (.rows .Qo)],3,[.bool],false,[]⟩
abbrev Q1r.T:Type:=(Int)->(Q3)->(Fm Q1)->(Nat×(Nat->List Qa))->Option ((Bool×Unit)×Unit×Unit)
def Q1r.W (f:Q1r.T):Q1r.sig.F:=λa x=>f a.2.1 x.1 x.2.1 x.2.2.1
def Q1r.L0:Shape U:=⟨95,15,[(0,.ptr 13 0 0),(1,vi_),(5,.val (.ref 0)),(6,vi_),(7,.ptr 14 0 0),(8,vi_),(9,vi_),(23,.val (.isl .Q1j)),(24,vi_),(25,vi_)],[(13,.obj .Qi),(14,.obj .Q1x),(0,.Qf false .Q4),(11,.Q1a .Qo)]⟩
def Q1r.X0:Qt U:= [(.exit 0,⟨95,15,[(0,.ptr 13 0 0),(1,vi_),(6,vi_),(7,.ptr 14 0 0),(8,vi_),(9,vi_)],[(13,.obj .Qi),(14,.obj .Q1x),(0,.Qf false .Q4),(11,.Q1a .Qo)]⟩)]
abbrev Q1r.l0T:Type:=((Int×(Option Nat)×Int×Int×Int×(List (Qk))×Int×Int×Unit)×(Q3×QX×(Fm Q1)×(Nat×(Nat->List Qa))×Unit))->Option (((Int×Int×Int×Int×Unit)×(Q3×QX×(Fm Q1)×(Nat×(Nat->List Qa))×Unit)))
def Q1r.C:Code:=match Tryz.f45.body with|some c=>c|none=>.skip
def Q1r.B0:Code:=match (Z3 Q1r.C).getD 0 .skip with| .loop b=>b| .scope b=>b|_=>.skip
def Q1r.Q8z:Qt U:= [(.normal,⟨95,14,[(4,vb_)],[(13,.obj .Qi),(0,.Qf false .Q4),(11,.Q1a .Qo)]⟩)]
def Q1r.JC8:Qt U:= [(.normal,⟨95,15,[(0,.ptr 13 0 0),(1,vi_),(5,.val (.ref 0)),(6,vi_),(7,.ptr 14 0 0),(8,vi_),(9,vi_),(23,.val (.isl .Q1j)),(24,vi_),(25,vi_)],[(13,.obj .Qi),(14,.obj .Q1x),(0,.Qf false .Q4),(11,.Q1a .Qo)]⟩)]
def Q1r.H (cK171:QZ.T) (cK169:Q1p.T) (cK9:K9.T) (cK181:Q1t.T) (cK10:K10.T) (cK124:Q1S.T) (cK8:K8.T) (cK167:Q1l.T) (cK168:Q1f.T) (l0:Q1r.l0T):Hints U:={ Γ:=(Qp 44 (Q1f.sig.native (Q1f.W cK168)) (Qp 34 (Q1l.sig.native (Q1l.W cK167)) (K8.N cK8 (Q1S.N cK124 (K10.N cK10 (Q1t.N cK181 (Qp 55 (K9.sig.native (K9.W cK9)) (Qp 13 (Q1p.sig.native (Q1p.W cK169)) (QZ.N cK171 noΓ))))))))),ro:=14,base:=14,Q1T:=jt_ [(7,[(39,vb_)])],Q2J:=jt_ [(14,Q1r.Q8z)],Q29:=jt_ [(8,Q1r.JC8)],loop:=jt_ [(5,(Z6 (14,14) Q1r.L0 Q1r.X0 l0))]}
def Q1r.QW (cK171:QZ.T) (cK169:Q1p.T) (cK9:K9.T) (cK181:Q1t.T) (cK10:K10.T) (cK124:Q1S.T) (cK8:K8.T) (cK167:Q1l.T) (cK168:Q1f.T) (a:(Int×(Option Nat)×Int×Int×Int×(List (Qk))×Int×Int×Unit)×(Q3×QX×(Fm Q1)×(Nat×(Nat->List Qa))×Unit)):Option (((Int×(Option Nat)×Int×Int×Int×(List (Qk))×Int×Int×Unit)×(Q3×QX×(Fm Q1)×(Nat×(Nat->List Qa))×Unit))⊕(((Int×Int×Int×Int×Unit)×(Q3×QX×(Fm Q1)×(Nat×(Nat->List Qa))×Unit)))):=
 (bif ilt a.1.2.2.2.2.2.2.2.1 a.1.2.2.2.2.2.2.1 then (bif inR a.1.2.2.2.2.2.2.2.1 (List.length a.1.2.2.2.2.2.1) then (Q0 ((bif ieq (List.getD a.1.2.2.2.2.2.1 (Int.toNat a.1.2.2.2.2.2.2.2.1) Qk.zero).QO a.1.1 then (Q0 ((Q0 (a.1.2.1) none λr0=>(Q0 (cK10 (List.getD a.1.2.2.2.2.2.1 (Int.toNat a.1.2.2.2.2.2.2.2.1) Qk.zero).Q18 (a.2.2.2.1.2 r0)) none λr1=>some (r0,r1)))) none λr2=>(Q0 (cK124 r2.2.1.1) none λr3=>some r3.1)) else some (false,()))) none λr4=>(Q0 ((bif r4.1 then some ((a.1.1,(a.1.2.1,(a.1.2.2.1,((List.getD a.1.2.2.2.2.2.1 (Int.toNat a.1.2.2.2.2.2.2.2.1) Qk.zero).Q4o,(Q2 .i64 a.1.2.2.2.2.1 1,a.1.2.2.2.2.2))))),a.2) else some a)) none λr5=>some (.inl ((r5.1.1,(r5.1.2.1,(r5.1.2.2.1,(r5.1.2.2.2.1,(r5.1.2.2.2.2.1,(r5.1.2.2.2.2.2.1,(r5.1.2.2.2.2.2.2.1,(Q2 .i64 r5.1.2.2.2.2.2.2.2.1 1,())))))))),r5.2)))) else none) else some (.inr ((a.1.1,(a.1.2.2.1,(a.1.2.2.2.1,(a.1.2.2.2.2.1,())))),a.2)))
def Q1r.F0:Q1r.l0T:=λa=>Z8 (1000000+(a.1.2.2.2.2.2.1.length)) (Q1r.QW QZ Q1p K9 Q1t K10 Q1S K8 Q1l Q1f) a
def Q1r.gen (cK171:QZ.T) (cK169:Q1p.T) (cK9:K9.T) (cK181:Q1t.T) (cK10:K10.T) (cK124:Q1S.T) (cK8:K8.T) (cK167:Q1l.T) (cK168:Q1f.T) (l0:Q1r.l0T):Q1r.T:=λi h0 g0 g11=>
 (Q0 (cK171 i h0 g11) none λr0=>(Q0 (cK169 i h0 g0 g11) none λr1=>(Q0 ((Q0 (r0.1.1) none λr2=>(Q0 (cK9 (g0.2 r2)) none λr3=>some (r2,r3)))) none λr4=>(Q0 (cK181 h0) none λr5=>(Q0 (l0 ((i,r0.1.1,r1.1.1,(0:Int),(0:Int),r5.1.1,ofN (List.length r5.1.1),(0:Int),()),h0,r4.2.1.1,g0,g11,())) none λr6=>(Q0 (cK171 r6.1.2.1 r6.2.1 r6.2.2.2.2.1) none λr7=>(Q0 ((Q0 (r7.1.1) none λr8=>(Q0 (cK8 (r6.2.2.2.1.2 r8)) none λr9=>some (r8,r9)))) none λr10=>(bif ine r6.2.2.1.Q3g r10.2.1.1.QO then some ((false,()),((),())) else (bif ieq r6.1.2.1 r6.1.1 then (Q0 ((bif ieq r6.1.2.2.2.1 0 then some ((ieq r6.2.2.1.Q2o 0,()),(r6.2.1,r6.2.2.2)) else some ((false,()),(r6.2.1,r6.2.2.2)))) none λr11=>some (r11.1,((),()))) else (Q0 (cK167 r6.1.1 r6.2.1 r6.2.2.2.1 r6.2.2.2.2.1) none λr12=>(bif ieq r6.1.2.2.2.1 1 then (bif r12.1.2.1 then (Q0 (cK168 r6.1.2.2.1 r6.2.1 r6.2.2.2.1 r6.2.2.2.2.1) none λr13=>(bif inR 0 (List.length r13.1.1) then (bif bif ieq (List.getD r13.1.1 (Int.toNat 0) Q9.zero).QO r6.2.2.1.Q18.QO then bif ieq (List.getD r13.1.1 (Int.toNat 0) Q9.zero).Q18 r6.2.2.1.Q18.Q18 then true else false else false then (Q0 (cK171 r12.1.1 r6.2.1 r6.2.2.2.2.1) none λr14=>(Q0 ((Q0 (r14.1.1) none λr15=>(Q0 (cK9 (r6.2.2.2.1.2 r15)) none λr16=>some (r15,r16)))) none λr17=>some ((ieq r6.2.2.1.Q2o (Q2 .i64 r17.2.1.1.Q2o 1),()),((),())))) else some ((false,()),((),()))) else none)) else some ((false,()),((),()))) else some ((false,()),((),())))))))))))))
def Q1r:Q1r.T:=Q1r.gen QZ Q1p K9 Q1t K10 Q1S K8 Q1l Q1f Q1r.F0
theorem Q1r.Q1O (cK171:QZ.T) (cK169:Q1p.T) (cK9:K9.T) (cK181:Q1t.T) (cK10:K10.T) (cK124:Q1S.T) (cK8:K8.T) (cK167:Q1l.T) (cK168:Q1f.T) (l0:Q1r.l0T) (a:Q1r.L0.T):run Tryz.prog (Q1r.H cK171 cK169 cK9 cK181 cK10 cK124 cK8 cK167 cK168 l0) 6 (Option (Q1r.L0.T⊕ExT Q1r.X0)) none Q1r.B0 (Q1r.L0.enc a) (Zc (14,14) Q1r.L0 Q1r.X0)=Q1r.QW cK171 cK169 cK9 cK181 cK10 cK124 cK8 cK167 cK168 a:=by kernel_rfl
abbrev Q1r.h:=Q1r.H QZ Q1p K9 Q1t K10 Q1S K8 Q1l Q1f Q1r.F0
theorem Q1r.Q1D:LO_ Q1r.h Q1r.B0 (Z6 (14,14) Q1r.L0 Q1r.X0 Q1r.F0):=lk_ (hn_ (Z0 (Z0 (Z0 (Z0 (Z0 (Z0 (Z0 (Z0 (Z0 Z2 QZ.ok) Q1p.ok) K9.ok) Q1t.ok) K10.ok) Q1S.ok) K8.ok) Q1l.ok) Q1f.ok)) (Q1r.Q1O QZ Q1p K9 Q1t K10 Q1S K8 Q1l Q1f Q1r.F0)
theorem Q1r.eq (cK171:QZ.T) (cK169:Q1p.T) (cK9:K9.T) (cK181:Q1t.T) (cK10:K10.T) (cK124:Q1S.T) (cK8:K8.T) (cK167:Q1l.T) (cK168:Q1f.T) (l0:Q1r.l0T):EqA Q1r.sig (Q1r.H cK171 cK169 cK9 cK181 cK10 cK124 cK8 cK167 cK168 l0) Tryz.f45 6 (Q1r.W (Q1r.gen cK171 cK169 cK9 cK181 cK10 cK124 cK8 cK167 cK168 l0)):=by intro a x;kernel_rfl
theorem Q1r.loops:Z3 Q1r.C= [(.loop Q1r.B0)]:=by kernel_rfl
theorem Q1r.ok:NK_ 45 Q1r.sig (Q1r.W Q1r):=ok_ Tryz.func45 (Q1r.eq QZ Q1p K9 Q1t K10 Q1S K8 Q1l Q1f Q1r.F0) (hl_ (Z0 (Z0 (Z0 (Z0 (Z0 (Z0 (Z0 (Z0 (Z0 Z2 QZ.ok) Q1p.ok) K9.ok) Q1t.ok) K10.ok) Q1S.ok) K8.ok) Q1l.ok) Q1f.ok) (Z4 (by kernel_rfl) Q1r.Q1D Z5)) Q1r.loops
def Q17.sig:Sig U:=⟨[.ptr],[.obj .Qi,Q4Y,.fam 11 (.rows .Qo)],3,[.bool],false,[]⟩
abbrev Q17.T:Type:=(Q3)->(Fm Q1)->(Nat×(Nat->List Qa))->Option ((Bool×Unit)×Unit×Unit)
def Q17.W (f:Q17.T):Q17.sig.F:=λa x=>f x.1 x.2.1 x.2.2.1
def Q17.L0:Shape U:=⟨42,14,[(0,.ptr 13 0 0),(7,.val (.isl .Q1j)),(8,vi_),(9,vi_)],[(13,.obj .Qi),(0,.Qf false .Q4),(11,.Q1a .Qo)]⟩
def Q17.X0:Qt U:= [(.exit 0,⟨42,14,[(0,.ptr 13 0 0)],[(13,.obj .Qi),(0,.Qf false .Q4),(11,.Q1a .Qo)]⟩),
 (.ret,⟨42,14,[(2,vb_)],[(13,.obj .Qi),(0,.Qf false .Q4),(11,.Q1a .Qo)]⟩)]
abbrev Q17.l0T:Type:=(((List (Qk))×Int×Int×Unit)×(Q3×(Fm Q1)×(Nat×(Nat->List Qa))×Unit))->Option ((Unit×(Q3×(Fm Q1)×(Nat×(Nat->List Qa))×Unit))⊕((Bool×Unit)×(Q3×(Fm Q1)×(Nat×(Nat->List Qa))×Unit)))
def Q17.L1:Shape U:=⟨42,14,[(0,.ptr 13 0 0),(33,vi_),(34,vi_)],[(13,.obj .Qi),(0,.Qf false .Q4),(11,.Q1a .Qo)]⟩
def Q17.X1:Qt U:= [(.exit 3,⟨42,14,[],[(13,.obj .Qi),(0,.Qf false .Q4),(11,.Q1a .Qo)]⟩),
 (.ret,⟨42,14,[(2,vb_)],[(13,.obj .Qi),(0,.Qf false .Q4),(11,.Q1a .Qo)]⟩)]
abbrev Q17.l1T:Type:=((Int×Int×Unit)×(Q3×(Fm Q1)×(Nat×(Nat->List Qa))×Unit))->Option ((Unit×(Q3×(Fm Q1)×(Nat×(Nat->List Qa))×Unit))⊕((Bool×Unit)×(Q3×(Fm Q1)×(Nat×(Nat->List Qa))×Unit)))
def Q17.C:Code:=match Tryz.f20.body with|some c=>c|none=>.skip
def Q17.B0:Code:=match (Z3 Q17.C).getD 0 .skip with| .loop b=>b| .scope b=>b|_=>.skip
def Q17.B1:Code:=match (Z3 Q17.C).getD 1 .skip with| .loop b=>b| .scope b=>b|_=>.skip
def Q17.JC7:Qt U:= [(.normal,⟨42,15,[(0,.ptr 13 0 0),(4,.ptr 14 0 0),(7,.val (.isl .Q1j)),(8,vi_),(9,vi_),(20,vb_)],[(13,.obj .Qi),(14,.obj .Q1j),(0,.Qf false .Q4),(11,.Q1a .Qo)]⟩)]
def Q17.H (cK181:Q1t.T) (cK171:QZ.T) (cK10:K10.T) (cK168:Q1f.T) (cK178:Q1F.T) (cK172:Q1r.T) (l0:Q17.l0T) (l1:Q17.l1T):Hints U:={ Γ:=(Qp 45 (Q1r.sig.native (Q1r.W cK172)) (Q1F.N cK178 (Qp 44 (Q1f.sig.native (Q1f.W cK168)) (K10.N cK10 (QZ.N cK171 (Q1t.N cK181 noΓ)))))),ro:=14,base:=14,Q29:=jt_ [(7,Q17.JC7)],loop:=jt_ [(2,(Z6 (14,14) Q17.L0 Q17.X0 l0)),(14,(Z6 (14,14) Q17.L1 Q17.X1 l1))]}
def Q17.Q2n (cK181:Q1t.T) (cK171:QZ.T) (cK10:K10.T) (cK168:Q1f.T) (cK178:Q1F.T) (cK172:Q1r.T) (a:(Int×Int×Unit)×(Q3×(Fm Q1)×(Nat×(Nat->List Qa))×Unit)):Option (((Int×Int×Unit)×(Q3×(Fm Q1)×(Nat×(Nat->List Qa))×Unit))⊕((Unit×(Q3×(Fm Q1)×(Nat×(Nat->List Qa))×Unit))⊕((Bool×Unit)×(Q3×(Fm Q1)×(Nat×(Nat->List Qa))×Unit)))):=
 (bif ilt a.1.2.1 a.1.1 then (Q0 (cK172 a.1.2.1 a.2.1 a.2.2.1 a.2.2.2.1) none λr0=>(bif !r0.1.1 then some (.inr (.inr ((false,()),a.2))) else some (.inl ((a.1.1,(Q2 .i64 a.1.2.1 1,())),a.2)))) else some (.inr (.inl ((),a.2))))
def Q17.F1:Q17.l1T:=λa=>Z8 (1000000) (Q17.Q2n Q1t QZ K10 Q1f Q1F Q1r) a
def Q17.QW (cK181:Q1t.T) (cK171:QZ.T) (cK10:K10.T) (cK168:Q1f.T) (cK178:Q1F.T) (cK172:Q1r.T) (a:((List (Qk))×Int×Int×Unit)×(Q3×(Fm Q1)×(Nat×(Nat->List Qa))×Unit)):Option ((((List (Qk))×Int×Int×Unit)×(Q3×(Fm Q1)×(Nat×(Nat->List Qa))×Unit))⊕((Unit×(Q3×(Fm Q1)×(Nat×(Nat->List Qa))×Unit))⊕((Bool×Unit)×(Q3×(Fm Q1)×(Nat×(Nat->List Qa))×Unit)))):=
 (bif ilt a.1.2.2.1 a.1.2.1 then (bif inR a.1.2.2.1 (List.length a.1.1) then (Q0 (cK171 (List.getD a.1.1 (Int.toNat a.1.2.2.1) Qk.zero).QO a.2.1 a.2.2.2.1) none λr0=>(Q0 ((Q0 (r0.1.1) none λr1=>(Q0 (cK10 (List.getD a.1.1 (Int.toNat a.1.2.2.1) Qk.zero).Q18 (a.2.2.1.2 r1)) none λr2=>some (r1,r2)))) none λr3=>(Q0 ((bif ieq r3.2.1.1 6 then some ((a.1.1,(a.1.2.1,(a.1.2.2.1,(ieq r3.2.1.1 6,())))),(a.2.1,(List.getD a.1.1 (Int.toNat a.1.2.2.1) Qk.zero,a.2.2))) else (bif ieq r3.2.1.1 7 then some ((a.1.1,(a.1.2.1,(a.1.2.2.1,(ieq r3.2.1.1 7,())))),(a.2.1,(List.getD a.1.1 (Int.toNat a.1.2.2.1) Qk.zero,a.2.2))) else (bif ieq r3.2.1.1 8 then some ((a.1.1,(a.1.2.1,(a.1.2.2.1,(ieq r3.2.1.1 8,())))),(a.2.1,(List.getD a.1.1 (Int.toNat a.1.2.2.1) Qk.zero,a.2.2))) else some ((a.1.1,(a.1.2.1,(a.1.2.2.1,(ieq r3.2.1.1 9,())))),(a.2.1,(List.getD a.1.1 (Int.toNat a.1.2.2.1) Qk.zero,a.2.2))))))) none λr4=>(bif r4.1.2.2.2.1 then (Q0 (cK168 r4.2.2.1.Q4o r4.2.1 r4.2.2.2.1 r4.2.2.2.2.1) none λr5=>(bif ine (ofN (List.length r5.1.1)) 1 then some (.inr (.inr ((false,()),(r4.2.1,r4.2.2.2)))) else some (.inl ((r4.1.1,(r4.1.2.1,(Q2 .i64 r4.1.2.2.1 1,()))),(r4.2.1,r4.2.2.2))))) else some (.inr (.inr ((false,()),(r4.2.1,r4.2.2.2)))))))) else none) else some (.inr (.inl ((),a.2))))
def Q17.F0:Q17.l0T:=λa=>Z8 (1000000+(a.1.1.length)) (Q17.QW Q1t QZ K10 Q1f Q1F Q1r) a
def Q17.gen (cK181:Q1t.T) (cK171:QZ.T) (cK10:K10.T) (cK168:Q1f.T) (cK178:Q1F.T) (cK172:Q1r.T) (l0:Q17.l0T) (l1:Q17.l1T):Q17.T:=λh0 g0 g11=>
 (Q0 (cK181 h0) none λr0=>(Q0 (l0 ((r0.1.1,ofN (List.length r0.1.1),(0:Int),()),h0,g0,g11,())) none λr1=>(Q3B r1 (λr2=>(Q0 (cK178 r2.2.1 r2.2.2.2.1) none λr3=>(Q0 (l1 ((r3.1.1,(0:Int),()),r2.2)) none λr4=>(Q3B r4 (λr5=>some ((true,()),((),()))) (λr5=>some (r5.1,((),()))))))) (λr2=>some (r2.1,((),()))))))
def Q17:Q17.T:=Q17.gen Q1t QZ K10 Q1f Q1F Q1r Q17.F0 Q17.F1
theorem Q17.seq1 (cK181:Q1t.T) (cK171:QZ.T) (cK10:K10.T) (cK168:Q1f.T) (cK178:Q1F.T) (cK172:Q1r.T) (l0:Q17.l0T) (l1:Q17.l1T) (a:Q17.L1.T):run Tryz.prog (Q17.H cK181 cK171 cK10 cK168 cK178 cK172 l0 l1) 6 (Option (Q17.L1.T⊕ExT Q17.X1)) none Q17.B1 (Q17.L1.enc a) (Zc (14,14) Q17.L1 Q17.X1)=Q17.Q2n cK181 cK171 cK10 cK168 cK178 cK172 a:=by kernel_rfl
abbrev Q17.h:=Q17.H Q1t QZ K10 Q1f Q1F Q1r Q17.F0 Q17.F1
theorem Q17.Q3z:LO_ Q17.h Q17.B1 (Z6 (14,14) Q17.L1 Q17.X1 Q17.F1):=lk_ (hn_ (Z0 (Z0 (Z0 (Z0 (Z0 (Z0 Z2 Q1t.ok) QZ.ok) K10.ok) Q1f.ok) Q1F.ok) Q1r.ok)) (Q17.seq1 Q1t QZ K10 Q1f Q1F Q1r Q17.F0 Q17.F1)
theorem Q17.Q1O (cK181:Q1t.T) (cK171:QZ.T) (cK10:K10.T) (cK168:Q1f.T) (cK178:Q1F.T) (cK172:Q1r.T) (l0:Q17.l0T) (l1:Q17.l1T) (a:Q17.L0.T):run Tryz.prog (Q17.H cK181 cK171 cK10 cK168 cK178 cK172 l0 l1) 6 (Option (Q17.L0.T⊕ExT Q17.X0)) none Q17.B0 (Q17.L0.enc a) (Zc (14,14) Q17.L0 Q17.X0)=Q17.QW cK181 cK171 cK10 cK168 cK178 cK172 a:=by kernel_rfl
theorem Q17.Q1D:LO_ Q17.h Q17.B0 (Z6 (14,14) Q17.L0 Q17.X0 Q17.F0):=lk_ (hn_ (Z0 (Z0 (Z0 (Z0 (Z0 (Z0 Z2 Q1t.ok) QZ.ok) K10.ok) Q1f.ok) Q1F.ok) Q1r.ok)) (Q17.Q1O Q1t QZ K10 Q1f Q1F Q1r Q17.F0 Q17.F1)
theorem Q17.eq (cK181:Q1t.T) (cK171:QZ.T) (cK10:K10.T) (cK168:Q1f.T) (cK178:Q1F.T) (cK172:Q1r.T) (l0:Q17.l0T) (l1:Q17.l1T):EqA Q17.sig (Q17.H cK181 cK171 cK10 cK168 cK178 cK172 l0 l1) Tryz.f20 6 (Q17.W (Q17.gen cK181 cK171 cK10 cK168 cK178 cK172 l0 l1)):=by intro a x;kernel_rfl
theorem Q17.loops:Z3 Q17.C= [(.loop Q17.B0),(.loop Q17.B1)]:=by kernel_rfl
theorem Q17.ok:NK_ 20 Q17.sig (Q17.W Q17):=ok_ Tryz.func20 (Q17.eq Q1t QZ K10 Q1f Q1F Q1r Q17.F0 Q17.F1) (hl_ (Z0 (Z0 (Z0 (Z0 (Z0 (Z0 Z2 Q1t.ok) QZ.ok) K10.ok) Q1f.ok) Q1F.ok) Q1r.ok) (Z4 (by kernel_rfl) Q17.Q1D (Z4 (by kernel_rfl) Q17.Q3z Z5))) Q17.loops
def Q35.sig:Sig U:=⟨[.ptr,.int .i64],[.obj .Q1g],1,[.int .i64],false,[]⟩
abbrev Q35.T:Type:=(Int)->(Qw)->Option ((Int×Unit)×Unit×Unit)
def Q35.W (f:Q35.T):Q35.sig.F:=λa x=>f a.2.1 x.1
def Q35.H (cK109:Q2r.T):Hints U:={ Γ:=(Q2r.N cK109 noΓ),ro:=14,base:=14}
def Q35.gen (cK109:Q2r.T):Q35.T:=λt h0=>
 (Q0 (cK109 t h0.fat 4000000000000000) none λr0=>some (r0.1,((),())))
def Q35:Q35.T:=Q35.gen Q2r
theorem Q35.eq (cK109:Q2r.T):EqA Q35.sig (Q35.H cK109) Tryz.f96 6 (Q35.W (Q35.gen cK109)):=by intro a x;kernel_rfl
theorem Q35.ok:NK_ 96 Q35.sig (Q35.W Q35):=ok_ Tryz.func96 (Q35.eq Q2r) (hn_ (Z0 Z2 Q2r.ok))
def Q2f.sig:Sig U:=⟨[.ptr,.int .i64],[.obj .Q1g],1,[.int .i64],false,[]⟩
abbrev Q2f.T:Type:=(Int)->(Qw)->Option ((Int×Unit)×Unit×Unit)
def Q2f.W (f:Q2f.T):Q2f.sig.F:=λa x=>f a.2.1 x.1
abbrev Q2f.N (c:Q2f.T):=Qp 87 (Q2f.sig.native (Q2f.W c))
def Q2f.C:Code:=match Tryz.f87.body with|some c=>c|none=>.skip
def Q2f.B0:Code:=match (Z3 Q2f.C).getD 0 .skip with| .loop b=>b| .scope b=>b|_=>.skip
def Q2f.H (cK108:Q35.T) (cK111:Q2v.T):Hints U:={ Γ:=(Q2v.N cK111 (Qp 96 (Q35.sig.native (Q35.W cK108)) noΓ)),ro:=14,base:=14,gotos:=3,loop:=λb=>none}
def Q2f.gen (cK108:Q35.T) (cK111:Q2v.T):Q2f.T:=λt h0=>
 (Q0 (cK108 t h0) none λr0=>(bif ile (Q2A .i64 (Q4c .i64 (Q2A .i64 (Q4K (Q1e .i64 r0.1.1 h0.fat) 1000000000) (Q2 .i64 h0.Q6H h0.Q4G)) 1000000000) 1000000000) (Q2A .i64 (Q4K (Q1e .i64 r0.1.1 h0.fat) 1000000000) (Q2 .i64 h0.Q6H h0.Q4G)) then (Q0 (cK111 (Q2 .i64 (Q2 .i64 (Q2 .i64 h0.Q72 (Q1e .i64 r0.1.1 h0.fat)) (Q2A .i64 (Q4c .i64 (Q1e .i64 r0.1.1 h0.fat) 1000000000) (Q2 .i64 h0.Q6H h0.Q4G))) (Q4c .i64 (Q2A .i64 (Q4K (Q1e .i64 r0.1.1 h0.fat) 1000000000) (Q2 .i64 h0.Q6H h0.Q4G)) 1000000000))) none λr1=>some (r1.1,((),()))) else (Q0 (cK111 (Q2 .i64 (Q2 .i64 (Q2 .i64 h0.Q72 (Q1e .i64 r0.1.1 h0.fat)) (Q2A .i64 (Q4c .i64 (Q1e .i64 r0.1.1 h0.fat) 1000000000) (Q2 .i64 h0.Q6H h0.Q4G))) (Q1e .i64 (Q4c .i64 (Q2A .i64 (Q4K (Q1e .i64 r0.1.1 h0.fat) 1000000000) (Q2 .i64 h0.Q6H h0.Q4G)) 1000000000) 1))) none λr2=>some (r2.1,((),())))))
def Q2f:Q2f.T:=Q2f.gen Q35 Q2v
theorem Q2f.eq (cK108:Q35.T) (cK111:Q2v.T):EqA Q2f.sig (Q2f.H cK108 cK111) Tryz.f87 6 (Q2f.W (Q2f.gen cK108 cK111)):=by intro a x;kernel_rfl
theorem Q2f.loops:Z3 Q2f.C= [(.scope Q2f.B0)]:=by kernel_rfl
theorem Q2f.ok:NK_ 87 Q2f.sig (Q2f.W Q2f):=ok_ Tryz.func87 (Q2f.eq Q35 Q2v) (hl_ (Z0 (Z0 Z2 Q35.ok) Q2v.ok) (Zt Z5)) Q2f.loops
def Q3R.sig:Sig U:=⟨[.ptr,.int .i64],[.obj .Qi,Q5z,.fam 11 (.rows .Qo)],3,[.int .i64],false,[]⟩
abbrev Q3R.T:Type:=(Int)->(Q3)->(Fm Qw)->(Nat×(Nat->List Qa))->Option ((Int×Unit)×Unit×Unit)
def Q3R.W (f:Q3R.T):Q3R.sig.F:=λa x=>f a.2.1 x.1 x.2.1 x.2.2.1
def Q3R.H (cK184:Q2h.T) (cK104:Q2f.T):Hints U:={ Γ:=(Q2f.N cK104 (Q2h.N cK184 noΓ)),ro:=14,base:=14}
def Q3R.gen (cK184:Q2h.T) (cK104:Q2f.T):Q3R.T:=λi h0 g8 g11=>
 (Q0 (cK184 i h0 g11) none λr0=>(bif r0.1.1 then some (((0:Int),()),((),())) else (bif inR i h0.Q1K.2 then (Q0 ((bif Nat.blt (0+Int.toNat i) (List.length (g11.2 h0.Q1K.1)) then (List.getD (g11.2 h0.Q1K.1) (0+Int.toNat i) Qa.zero).2 else none)) none λr1=>(Q0 (cK104 h0.Q7e (g8.2 r1)) none λr2=>some (r2.1,((),())))) else none)))
def Q3R:Q3R.T:=Q3R.gen Q2h Q2f
theorem Q3R.eq (cK184:Q2h.T) (cK104:Q2f.T):EqA Q3R.sig (Q3R.H cK184 cK104) Tryz.f57 6 (Q3R.W (Q3R.gen cK184 cK104)):=by intro a x;kernel_rfl
theorem Q3R.ok:NK_ 57 Q3R.sig (Q3R.W Q3R):=ok_ Tryz.func57 (Q3R.eq Q2h Q2f) (hn_ (Z0 (Z0 Z2 Q2h.ok) Q2f.ok))
def Q2x.sig:Sig U:=⟨[.int .i64],[],0,[.bool],false,[]⟩
abbrev Q2x.T:Type:=(Int)->Option ((Bool×Unit)×Unit×Unit)
def Q2x.W (f:Q2x.T):Q2x.sig.F:=λa x=>f a.1
abbrev Q2x.N (c:Q2x.T):=Qp 119 (Q2x.sig.native (Q2x.W c))
def Q2x.H (cK124:Q1S.T):Hints U:={ Γ:=(Q1S.N cK124 noΓ),ro:=0,base:=13}
def Q2x.gen (cK124:Q1S.T):Q2x.T:=λstate=>
 (bif ieq state 4 then some ((true,()),((),())) else (bif ieq state 7 then some ((true,()),((),())) else (Q0 (cK124 state) none λr0=>some (r0.1,((),())))))
def Q2x:Q2x.T:=Q2x.gen Q1S
theorem Q2x.eq (cK124:Q1S.T):EqA Q2x.sig (Q2x.H cK124) Tryz.f119 6 (Q2x.W (Q2x.gen cK124)):=by intro a x;kernel_rfl
theorem Q2x.ok:NK_ 119 Q2x.sig (Q2x.W Q2x):=ok_ Tryz.func119 (Q2x.eq Q1S) (hn_ (Z0 Z2 Q1S.ok))
def Q2s.sig:Sig U:=⟨[.int .i64,.int .i64,.bool],[],0,[.int .i64],false,[]⟩
abbrev Q2s.T:Type:=(Int)->(Int)->(Bool)->Option ((Int×Unit)×Unit×Unit)
def Q2s.W (f:Q2s.T):Q2s.sig.F:=λa x=>f a.1 a.2.1 a.2.2.1
def Q2s.JC6:Qt U:= [(.normal,⟨60,13,[(0,vi_),(1,vi_),(2,vb_),(21,vb_)],[]⟩)]
def Q2s.JC2:Qt U:= [(.normal,⟨60,13,[(0,vi_)],[]⟩),
 (.ret,⟨60,13,[(6,vi_)],[]⟩)]
def Q2s.H (cK125:Q2x.T):Hints U:={ Γ:=(Q2x.N cK125 noΓ),ro:=0,base:=13,Q1T:=jt_ [(1,[(7,vb_)]),(3,[(14,vb_)]),(5,[(21,vb_)]),(6,[(21,vb_)]),(8,[(34,vb_)]),(12,[(42,vb_)]),(14,[(49,vb_)])],Q29:=jt_ [(2,Q2s.JC2),(6,Q2s.JC6)]}
def Q2s.gen (cK125:Q2x.T):Q2s.T:=λstate event slaveOnly=>
 (Q0 ((bif ieq event 1 then some (ieq state 1,()) else some (false,()))) none λr0=>(Q0 ((bif r0.1 then some (.inr (((4:Int),()),())) else (Q0 ((bif ieq event 2 then some (ine state 3,()) else some (false,()))) none λr1=>(bif r1.1 then some (.inr (((2:Int),()),())) else (Q0 ((bif ieq event 3 then some (ieq state 2,()) else some (false,()))) none λr2=>(Q0 ((bif r2.1 then some ((state,(event,(slaveOnly,r2))),()) else (Q0 ((bif ieq event 8 then some (ieq state 3,()) else some (false,()))) none λr3=>some ((state,(event,(slaveOnly,r3))),())))) none λr4=>(bif r4.1.2.2.2.1 then some (.inr (((1:Int),()),())) else (Q0 ((bif ieq r4.1.2.1 4 then (Q0 (cK125 r4.1.1) none λr5=>some r5.1) else some (false,()))) none λr6=>(bif r6.1 then (bif r4.1.2.2.1 then some (.inr (((4:Int),()),())) else some (.inr (((6:Int),()),()))) else (Q0 ((bif ieq r4.1.2.1 5 then some (ieq r4.1.1 5,()) else some (false,()))) none λr7=>(bif r7.1 then some (.inr (((6:Int),()),())) else (Q0 ((bif ieq r4.1.2.1 6 then some (ieq r4.1.1 8,()) else some (false,()))) none λr8=>(bif r8.1 then some (.inr (((9:Int),()),())) else (bif ieq r4.1.2.1 7 then some (.inr (((3:Int),()),())) else some (.inl ((r4.1.1,()),())))))))))))))))) none λr9=>(Q3B r9 (λr10=>some (r10.1,((),()))) (λr10=>some (r10.1,((),()))))))
def Q2s:Q2s.T:=Q2s.gen Q2x
theorem Q2s.eq (cK125:Q2x.T):EqA Q2s.sig (Q2s.H cK125) Tryz.f112 6 (Q2s.W (Q2s.gen cK125)):=by intro a x;kernel_rfl
theorem Q2s.ok:NK_ 112 Q2s.sig (Q2s.W Q2s):=ok_ Tryz.func112 (Q2s.eq Q2x) (hn_ (Z0 Z2 Q2x.ok))
def K25.sig:Sig U:=⟨[.ptr],[.obj .Q4],1,[.int .i64],false,[]⟩
abbrev K25.T:Type:=(Q1)->Option ((Int×Unit)×Unit×Unit)
def K25.W (f:K25.T):K25.sig.F:=λa x=>f x.1
abbrev K25.N (c:K25.T):=Qp 117 (K25.sig.native (K25.W c))
def K25.H (cK12:K12.T):Hints U:={ Γ:=(K12.N cK12 (Qp 5000000021 Z1e noΓ)),ro:=14,base:=14}
def K25.gen (cK12:K12.T):K25.T:=λh0=>
 (Q0 (cK12 h0) none λr0=>some ((Q2A .i64 h0.Q1d.Q22 r0.1.1,()),((),())))
def K25:K25.T:=K25.gen K12
theorem K25.eq (cK12:K12.T):EqA K25.sig (K25.H cK12) Tryz.f117 6 (K25.W (K25.gen cK12)):=by intro a x;kernel_rfl
theorem K25.ok:NK_ 117 K25.sig (K25.W K25):=ok_ Tryz.func117 (K25.eq K12) (hn_ (Z0 (Z0 Z2 Zd) K12.ok))
def Q2a.sig:Sig U:=⟨[.ptr,.int .i64],[.obj .Q1L],0,[],true,[]⟩
abbrev Q2a.T:Type:=(Int)->(QT)->Option (Unit×(QT×Unit)×Unit)
def Q2a.W (f:Q2a.T):Q2a.sig.F:=λa x=>f a.2.1 x.1
abbrev Q2a.N (c:Q2a.T):=Qp 116 (Q2a.sig.native (Q2a.W c))
def Q2a.H:Hints U:={ Γ:=noΓ,ro:=0,base:=14}
def Q2a.gen:Q2a.T:=λn h0=>
 some ((),((QT.mk (Z7 true 1 (Z7 false n 1073741824)),()),()))
def Q2a:Q2a.T:=Q2a.gen
theorem Q2a.ok:NK_ 116 Q2a.sig (Q2a.W Q2a):=ok_ (H:=Q2a.H) (n:=6) Tryz.func116 (by intro a x;kernel_rfl) (hn_ Z2)
def Q1N.sig:Sig U:=⟨[.int .i64],[],0,[.bool],false,[]⟩
abbrev Q1N.T:Type:=(Int)->Option ((Bool×Unit)×Unit×Unit)
def Q1N.W (f:Q1N.T):Q1N.sig.F:=λa x=>f a.1
abbrev Q1N.N (c:Q1N.T):=Qp 101 (Q1N.sig.native (Q1N.W c))
def Q1N.H:Hints U:={ Γ:=noΓ,ro:=0,base:=13}
def Q1N.gen:Q1N.T:=λstate=>
 (bif ile 4 state then some ((ile state 9,()),((),())) else some ((false,()),((),())))
def Q1N:Q1N.T:=Q1N.gen
theorem Q1N.ok:NK_ 101 Q1N.sig (Q1N.W Q1N):=ok_ (H:=Q1N.H) (n:=6) Tryz.func101 (by intro a x;kernel_rfl) (hn_ Z2)
def K64.sig:Sig U:=⟨[.ptr,.int .i64,.int .i64],[.obj .Ql],1,[.bool],false,[]⟩
abbrev K64.T:Type:=(Int)->(Int)->(Q5)->Option ((Bool×Unit)×Unit×Unit)
def K64.W (f:K64.T):K64.sig.F:=λa x=>f a.2.1 a.2.2.1 x.1
def K64.H:Hints U:={ Γ:=noΓ,ro:=14,base:=14}
def K64.gen:K64.T:=λat_1 now h0=>
 (bif ile at_1 now then some ((ile h0.Q8M (Q1e .i64 now at_1),()),((),())) else some ((false,()),((),())))
def K64:K64.T:=K64.gen
theorem K64.ok:NK_ 190 K64.sig (K64.W K64):=ok_ (H:=K64.H) (n:=6) Tryz.func190 (by intro a x;kernel_rfl) (hn_ Z2)
def K58.sig:Sig U:=⟨[.ptr,.int .i64],[.obj .Ql],0,[],true,[]⟩
abbrev K58.T:Type:=(Int)->(Q5)->Option (Unit×(Q5×Unit)×Unit)
def K58.W (f:K58.T):K58.sig.F:=λa x=>f a.2.1 x.1
def K58.L0:Shape U:=⟨60,14,[(0,.ptr 13 0 0),(1,vi_),(4,vi_)],[(13,.obj .Ql)]⟩
def K58.X0:Qt U:= [(.exit 0,⟨60,14,[],[(13,.obj .Ql)]⟩)]
abbrev K58.l0T:Type:=((Int×Int×Unit)×(Q5×Unit))->Option ((Unit×(Q5×Unit)))
def K58.C:Code:=match Tryz.f157.body with|some c=>c|none=>.skip
def K58.B0:Code:=match (Z3 K58.C).getD 0 .skip with| .loop b=>b| .scope b=>b|_=>.skip
def K58.JR5:Qt U:= [(.normal,⟨60,14,[(0,.ptr 13 0 0),(1,vi_),(4,vi_)],[(13,.obj .Ql)]⟩)]
def K58.H (cK64:K64.T) (l0:K58.l0T):Hints U:={ Γ:=(Qp 190 (K64.sig.native (K64.W cK64)) noΓ),ro:=0,base:=14,Q2J:=jt_ [(5,K58.JR5)],loop:=jt_ [(1,(Z6 (0,14) K58.L0 K58.X0 l0))]}
def K58.QW (cK64:K64.T) (a:(Int×Int×Unit)×(Q5×Unit)):Option (((Int×Int×Unit)×(Q5×Unit))⊕((Unit×(Q5×Unit)))):=
 (bif ilt a.1.2.1 a.2.1.fn then (bif inR a.1.2.1 5 then (Q0 (cK64 (a.2.1.fl (Int.toNat a.1.2.1)).Q8f a.1.1 a.2.1) none λr0=>(bif !r0.1.1 then some (.inl ((a.1.1,(Q2 .i64 a.1.2.1 1,())),a.2)) else (bif le3 a.1.2.1 a.2.1.fn 5 then (bif le3 (Q2 .i64 a.1.2.1 1) a.2.1.fn 5 then (bif inR (Q1e .i64 a.2.1.fn 1) 5 then some (.inl (a.1,(Q5.Q6P (Q5.Q8A a.2.1 (QA (λ(i:Nat)=>bif Nat.ble (Int.toNat a.1.2.1) i && Nat.blt i (Int.toNat a.1.2.1+Nat.min (Int.toNat a.2.1.fn - Int.toNat (Q2 .i64 a.1.2.1 1)) (Int.toNat a.2.1.fn - Int.toNat a.1.2.1)) then a.2.1.fl (Int.toNat (Q2 .i64 a.1.2.1 1)+(i - Int.toNat a.1.2.1)) else a.2.1.fl i) (Int.toNat (Q1e .i64 a.2.1.fn 1)) (Qe.mk z5_ z6_ 0 0 0))) (Q1e .i64 a.2.1.fn 1),()))) else none) else none) else none))) else none) else some (.inr ((),a.2)))
def K58.F0:K58.l0T:=λa=>Z8 (1000000) (K58.QW K64) a
def K58.gen (cK64:K64.T) (l0:K58.l0T):K58.T:=λnow h0=>
 (Q0 (l0 ((now,(0:Int),()),h0,())) none λr0=>some ((),(r0.2,())))
def K58:K58.T:=K58.gen K64 K58.F0
theorem K58.Q1O (cK64:K64.T) (l0:K58.l0T) (a:K58.L0.T):run Tryz.prog (K58.H cK64 l0) 6 (Option (K58.L0.T⊕ExT K58.X0)) none K58.B0 (K58.L0.enc a) (Zc (0,14) K58.L0 K58.X0)=K58.QW cK64 a:=by kernel_rfl
abbrev K58.h:=K58.H K64 K58.F0
theorem K58.Q1D:LO_ K58.h K58.B0 (Z6 (0,14) K58.L0 K58.X0 K58.F0):=lk_ (hn_ (Z0 Z2 K64.ok)) (K58.Q1O K64 K58.F0)
theorem K58.eq (cK64:K64.T) (l0:K58.l0T):EqA K58.sig (K58.H cK64 l0) Tryz.f157 6 (K58.W (K58.gen cK64 l0)):=by intro a x;kernel_rfl
theorem K58.loops:Z3 K58.C= [(.loop K58.B0)]:=by kernel_rfl
theorem K58.ok:NK_ 157 K58.sig (K58.W K58):=ok_ Tryz.func157 (K58.eq K64 K58.F0) (hl_ (Z0 Z2 K64.ok) (Z4 (by kernel_rfl) K58.Q1D Z5)) K58.loops
def K63.sig:Sig U:=⟨[.ptr],[.obj .Ql],1,[.isl .QE],false,[]⟩
abbrev K63.T:Type:=(Q5)->Option (((List (Qe))×Unit)×Unit×Unit)
def K63.W (f:K63.T):K63.sig.F:=λa x=>f x.1
def K63.H:Hints U:={ Γ:=noΓ,ro:=14,base:=14}
def K63.gen:K63.T:=λh0=>
 (bif le3 (ofN 0) h0.fn 5 then (bif room (List.length (QG Qe)+List.length (List.map (λ(j:Nat)=>h0.fl (Int.toNat (ofN 0)+j)) (List.range (Int.toNat h0.fn - Int.toNat (ofN 0))))) 136 then some ((QG Qe++List.map (λ(j:Nat)=>h0.fl (Int.toNat (ofN 0)+j)) (List.range (Int.toNat h0.fn - Int.toNat (ofN 0))),()),((),())) else none) else none)
def K63:K63.T:=K63.gen
theorem K63.ok:NK_ 158 K63.sig (K63.W K63):=ok_ (H:=K63.H) (n:=6) Tryz.func158 (by intro a x;kernel_rfl) (hn_ Z2)
def K33.sig:Sig U:=⟨[.ptr,.int .i64],[.obj .QI,Q4s,.fam 10 (.map true false .Qm .Q1o)],0,[],true,[]⟩
abbrev K33.T:Type:=(Int)->(Qc)->(Fm Q5)->(Nat×(Nat->List (Q9×List (Int))))->Option (Unit×(Qc×Q6M)×Unit)
def K33.W (f:K33.T):K33.sig.F:=λa x=>f a.2.1 x.1 x.2.1 x.2.2.1
def K33.L0:Shape U:=⟨41,14,[(0,.ptr 13 0 0),(4,.val (.Q3p 10)),(18,.val (.isl .QE)),(19,vi_),(20,vi_)],(13,.obj .QI)::Q5y⟩
def K33.X0:Qt U:= [(.exit 0,⟨41,14,[(0,.ptr 13 0 0),(4,.val (.Q3p 10))],(13,.obj .QI)::Q5y⟩)]
abbrev K33.l0T:Type:=(((Option Nat)×(List (Qe))×Int×Int×Unit)×(Qc×Q6M))->Option ((((Option Nat)×Unit)×(Qc×Q6M)))
def K33.C:Code:=match Tryz.f118.body with|some c=>c|none=>.skip
def K33.B0:Code:=match (Z3 K33.C).getD 0 .skip with| .loop b=>b| .scope b=>b|_=>.skip
def K33.JR5:Qt U:= [(.normal,⟨41,14,[(0,.ptr 13 0 0),(4,.val (.Q3p 10)),(18,.val (.isl .QE)),(19,vi_),(20,vi_)],(13,.obj .QI)::Q5y⟩)]
def K33.JR4:Qt U:= [(.normal,⟨41,15,[(0,.ptr 13 0 0),(4,.val (.Q3p 10)),(6,.ptr 14 0 0),(18,.val (.isl .QE)),(19,vi_),(20,vi_)],(13,.obj .QI)::(14,.obj .QE)::Q5y⟩)]
def K33.JR0:Qt U:= [(.normal,⟨41,14,[(0,.ptr 13 0 0)],(13,.obj .QI)::Q5y⟩)]
def K33.H (cK58:K58.T) (cK63:K63.T) (l0:K33.l0T):Hints U:={ Γ:=(Qp 158 (K63.sig.native (K63.W cK63)) (Qp 157 (K58.sig.native (K58.W cK58)) noΓ)),ro:=0,base:=14,Q2J:=jt_ [(0,K33.JR0),(4,K33.JR4),(5,K33.JR5)],loop:=jt_ [(3,(Z6 (0,14) K33.L0 K33.X0 l0))]}
def K33.QW (cK58:K58.T) (cK63:K63.T) (a:((Option Nat)×(List (Qe))×Int×Int×Unit)×(Qc×Q6M)):Option ((((Option Nat)×(List (Qe))×Int×Int×Unit)×(Qc×Q6M))⊕((((Option Nat)×Unit)×(Qc×Q6M)))):=
 (bif ilt a.1.2.2.2.1 a.1.2.2.1 then (Q0 ((bif inR a.1.2.2.2.1 (List.length a.1.2.1) then some (a.1,(a.2.1,(List.getD a.1.2.1 (Int.toNat a.1.2.2.2.1) Qe.zero,a.2.2))) else none)) none λr0=>(Q0 ((Q0 ((Q0 (r0.2.1.3) none λr1=>((@Z3n U Go.Proofs.Tryz.prog 82 UC.Qm UC.Q1o (r0.2.2.1.Q3b.Q4m) (r0.2.2.2.2.1.2 r1)):Option (Option (List Int))))) none λ(r2:Option (List Int))=>(Q0 ((Q0 (r0.1.1) none λr3=>(Q0 ((@Z3x U Go.Proofs.Tryz.prog 82 UC.Qm UC.Q1o (r0.2.2.1.Q3b.Q4m) (Option.getD r2 (QG Int)) (r0.2.2.2.2.1.2 r3))) none λ(r4:List (Q9×List Int))=>some (r3,r4)))) none λ(r5:Nat×List (Q9×List Int))=>some (r0.1,(r0.2.1,(r0.2.2.2.1,((r0.2.2.2.2.1.1,QA r0.2.2.2.2.1.2 r5.1 r5.2),()))))))) none λr6=>some (.inl ((r6.1.1,(r6.1.2.1,(r6.1.2.2.1,(Q2 .i64 r6.1.2.2.2.1 1,())))),r6.2)))) else some (.inr ((a.1.1,()),a.2)))
def K33.F0:K33.l0T:=λa=>Z8 (1000000+(a.1.2.1.length)) (K33.QW K58 K63) a
def K33.gen (cK58:K58.T) (cK63:K63.T) (l0:K33.l0T):K33.T:=λnow h0 g2 g10=>
 (Q0 ((Q0 (h0.2) none λr0=>(Q0 (cK58 now (g2.2 r0)) none λr1=>some ((),(h0,((g2.1,QA g2.2 r0 r1.2.1.1),(g10,()))))))) none λr2=>(Q0 (r2.2.1.2) none λr3=>(Q0 (cK63 (r2.2.2.1.2 r3)) none λr4=>(Q0 (l0 ((some r2.2.2.2.1.1,r4.1.1,ofN (List.length r4.1.1),(0:Int),()),r2.2.1,r2.2.2.1,(r2.2.2.2.1.1+1,QA r2.2.2.2.1.2 r2.2.2.2.1.1 (QG (D UC.Qm×D UC.Q1o))),())) none λr5=>some ((),((Qc.Q7t r5.2.1 r5.1.1,r5.2.2),()))))))
def K33:K33.T:=K33.gen K58 K63 K33.F0
theorem K33.Q1O (cK58:K58.T) (cK63:K63.T) (l0:K33.l0T) (a:K33.L0.T):run Tryz.prog (K33.H cK58 cK63 l0) 6 (Option (K33.L0.T⊕ExT K33.X0)) none K33.B0 (K33.L0.enc a) (Zc (0,14) K33.L0 K33.X0)=K33.QW cK58 cK63 a:=by kernel_rfl
abbrev K33.h:=K33.H K58 K63 K33.F0
theorem K33.Q1D:LO_ K33.h K33.B0 (Z6 (0,14) K33.L0 K33.X0 K33.F0):=lk_ (hn_ (Z0 (Z0 Z2 K58.ok) K63.ok)) (K33.Q1O K58 K63 K33.F0)
theorem K33.eq (cK58:K58.T) (cK63:K63.T) (l0:K33.l0T):EqA K33.sig (K33.H cK58 cK63 l0) Tryz.f118 6 (K33.W (K33.gen cK58 cK63 l0)):=by intro a x;kernel_rfl
theorem K33.loops:Z3 K33.C= [(.loop K33.B0)]:=by kernel_rfl
theorem K33.ok:NK_ 118 K33.sig (K33.W K33):=ok_ Tryz.func118 (K33.eq K58 K63 K33.F0) (hl_ (Z0 (Z0 Z2 K58.ok) K63.ok) (Z4 (by kernel_rfl) K33.Q1D Z5)) K33.loops
def Q2T.sig:Sig U:=⟨[.ptr],[.obj .Q1L],0,[.bool],false,[]⟩
abbrev Q2T.T:Type:=(QT)->Option ((Bool×Unit)×(QT×Unit)×Unit)
def Q2T.W (f:Q2T.T):Q2T.sig.F:=λa x=>f x.1
def Q2T.C:Code:=match Tryz.f120.body with|some c=>c|none=>.skip
def Q2T.B0:Code:=match (Z3 Q2T.C).getD 0 .skip with| .loop b=>b| .scope b=>b|_=>.skip
def Q2T.H:Hints U:={ Γ:=noΓ,ro:=0,base:=14,gotos:=3,loop:=λb=>none}
def Q2T.gen:Q2T.T:=λh0=>
 (bif ieq h0.Q5T 0 then some ((false,()),((h0,()),())) else some ((ieq (Q1e .i64 h0.Q5T 1) 0,()),((QT.mk (Q1e .i64 h0.Q5T 1),()),())))
def Q2T:Q2T.T:=Q2T.gen
theorem Q2T.loops:Z3 Q2T.C= [(.scope Q2T.B0)]:=by kernel_rfl
theorem Q2T.ok:NK_ 120 Q2T.sig (Q2T.W Q2T):=ok_ (H:=Q2T.H) (n:=6) Tryz.func120 (by intro a x;kernel_rfl) (hl_ Z2 (Zt Z5)) Q2T.loops
def K60.sig:Sig U:=⟨[.ptr],[.obj .Ql],0,[],true,[]⟩
abbrev K60.T:Type:=(Q5)->Option (Unit×(Q5×Unit)×Unit)
def K60.W (f:K60.T):K60.sig.F:=λa x=>f x.1
def K60.H:Hints U:={ Γ:=noΓ,ro:=0,base:=14}
def K60.gen:K60.T:=λh0=>
 some ((),((Q5.Q6P (Q5.Q8A h0 λ(j:Nat)=>List.getD (Qe.mk z5_ z6_ 0 0 0::Qe.mk z5_ z6_ 0 0 0::Qe.mk z5_ z6_ 0 0 0::Qe.mk z5_ z6_ 0 0 0::Qe.mk z5_ z6_ 0 0 0::QG Qe) j Qe.zero) 0,()),()))
def K60:K60.T:=K60.gen
theorem K60.ok:NK_ 153 K60.sig (K60.W K60):=ok_ (H:=K60.H) (n:=6) Tryz.func153 (by intro a x;kernel_rfl) (hn_ Z2)
def K34.sig:Sig U:=⟨[.ptr],[.obj .QI,Q4s,.fam 10 (.map true false .Qm .Q1o)],0,[],true,[]⟩
abbrev K34.T:Type:=(Qc)->(Fm Q5)->(Nat×(Nat->List (Q9×List (Int))))->Option (Unit×(Qc×Q6M)×Unit)
def K34.W (f:K34.T):K34.sig.F:=λa x=>f x.1 x.2.1 x.2.2.1
def K34.JR0:Qt U:= [(.normal,⟨11,14,[(0,.ptr 13 0 0)],(13,.obj .QI)::Q5y⟩)]
def K34.H (cK60:K60.T):Hints U:={ Γ:=(Qp 153 (K60.sig.native (K60.W cK60)) noΓ),ro:=0,base:=14,Q2J:=jt_ [(0,K34.JR0)]}
def K34.gen (cK60:K60.T):K34.T:=λh0 g2 g10=>
 (Q0 ((Q0 (h0.2) none λr0=>(Q0 (cK60 (g2.2 r0)) none λr1=>some ((),(h0,((g2.1,QA g2.2 r0 r1.2.1.1),(g10,()))))))) none λr2=>some ((),((Qc.Q7t r2.2.1 (some r2.2.2.2.1.1),(r2.2.2.1,((r2.2.2.2.1.1+1,QA r2.2.2.2.1.2 r2.2.2.2.1.1 (QG (D UC.Qm×D UC.Q1o))),()))),())))
def K34:K34.T:=K34.gen K60
theorem K34.eq (cK60:K60.T):EqA K34.sig (K34.H cK60) Tryz.f113 6 (K34.W (K34.gen cK60)):=by intro a x;kernel_rfl
theorem K34.ok:NK_ 113 K34.sig (K34.W K34):=ok_ Tryz.func113 (K34.eq K60) (hn_ (Z0 Z2 K60.ok))
def Q2O.sig:Sig U:=⟨[.ptr],[.obj .Q1L],0,[],true,[]⟩
abbrev Q2O.T:Type:=(QT)->Option (Unit×(QT×Unit)×Unit)
def Q2O.W (f:Q2O.T):Q2O.sig.F:=λa x=>f x.1
abbrev Q2O.N (c:Q2O.T):=Qp 156 (Q2O.sig.native (Q2O.W c))
def Q2O.H:Hints U:={ Γ:=noΓ,ro:=0,base:=14}
def Q2O.gen:Q2O.T:=λh0=>
 some ((),((QT.mk 0,()),()))
def Q2O:Q2O.T:=Q2O.gen
theorem Q2O.ok:NK_ 156 Q2O.sig (Q2O.W Q2O):=ok_ (H:=Q2O.H) (n:=6) Tryz.func156 (by intro a x;kernel_rfl) (hn_ Z2)
def K19.sig:Sig U:=⟨[.ptr,.Q4H 0 23 42 8],[.obj .Q4],0,[],true,[]⟩
abbrev K19.T:Type:=(Nat)->(Q1)->Option (Unit×(Q1×Unit)×Unit)
def K19.W (f:K19.T):K19.sig.F:=λa x=>f a.2.1 x.1
def K19.JR4:Qt U:= [(.normal,⟨30,14,[(1,.Q1q 13 23 42 8 0)],[(13,.obj .Q4)]⟩)]
def K19.JR1:Qt U:= [(.normal,⟨30,14,[(0,.ptr 13 0 0),(1,.Q1q 13 23 42 8 0)],[(13,.obj .Q4)]⟩)]
def K19.H (cK154:Q2O.T) (cK153:Q2a.T):Hints U:={ Γ:=(Q2a.N cK153 (Q2O.N cK154 noΓ)),ro:=0,base:=14,Q2J:=jt_ [(0,K19.JR1),(1,K19.JR1),(4,K19.JR4)],Q29:=jt_ [(3,K19.JR4)]}
def K19.gen (cK154:Q2O.T) (cK153:Q2a.T):K19.T:=λp h0=>
 (Q0 ((Q0 (cK154 (h0.Qu p).Q43) none λr0=>some ((p,()),(Q1.Q1k h0 (QA h0.Qu p (Qc.Q3x (h0.Qu p) r0.2.1.1)),())))) none λr1=>(Q0 ((Q0 (cK154 (r1.2.1.Qu r1.1.1).Q4Z) none λr2=>some (r1.1,(Q1.Q1k r1.2.1 (QA r1.2.1.Qu r1.1.1 (Qc.Q4V (r1.2.1.Qu r1.1.1) r2.2.1.1)),())))) none λr3=>(Q0 ((bif !r3.2.1.Q1d.Q4J then (Q0 (cK154 (r3.2.1.Qu r3.1.1).Q6k) none λr4=>some (r3.1,(Q1.Q1k r3.2.1 (QA r3.2.1.Qu r3.1.1 (Qc.Q5C (r3.2.1.Qu r3.1.1) r4.2.1.1)),()))) else some r3)) none λr5=>(Q0 ((Q0 (cK153 1 (r5.2.1.Qu r5.1.1).Q4E) none λr6=>some (r5.1,(Q1.Q1k r5.2.1 (QA r5.2.1.Qu r5.1.1 (Qc.Q4N (r5.2.1.Qu r5.1.1) r6.2.1.1)),())))) none λr7=>(Q0 (cK153 1 (r7.2.1.Qu r7.1.1).fsync) none λr8=>some ((),((Q1.Q1k r7.2.1 (QA r7.2.1.Qu r7.1.1 (Qc.Q5I (r7.2.1.Qu r7.1.1) r8.2.1.1)),()),())))))))
def K19:K19.T:=K19.gen Q2O Q2a
theorem K19.eq (cK154:Q2O.T) (cK153:Q2a.T):EqA K19.sig (K19.H cK154 cK153) Tryz.f121 6 (K19.W (K19.gen cK154 cK153)):=by intro a x;kernel_rfl
theorem K19.ok:NK_ 121 K19.sig (K19.W K19):=ok_ Tryz.func121 (K19.eq Q2O Q2a) (hn_ (Z0 (Z0 Z2 Q2O.ok) Q2a.ok))
def K16.sig:Sig U:=⟨[.ptr,.Q4H 0 23 42 8],[.obj .Q4,Q4s,.fam 10 (.map true false .Qm .Q1o)],0,[],true,[]⟩
abbrev K16.T:Type:=(Nat)->(Q1)->(Fm Q5)->(Nat×(Nat->List (Q9×List (Int))))->Option (Unit×(Q1×Q6M)×Unit)
def K16.W (f:K16.T):K16.sig.F:=λa x=>f a.2.1 x.1 x.2.1 x.2.2.1
def K16.C:Code:=match Tryz.f97.body with|some c=>c|none=>.skip
def K16.B0:Code:=match (Z3 K16.C).getD 0 .skip with| .loop b=>b| .scope b=>b|_=>.skip
def K16.Q6j:Qt U:= [(.normal,⟨128,14,[(0,.ptr 13 0 0),(1,.Q1q 13 23 42 8 0)],(13,.obj .Q4)::Q5y⟩)]
def K16.Q7U:Qt U:= [(.normal,⟨128,14,[(0,.ptr 13 0 0),(1,.Q1q 13 23 42 8 0),(111,vb_)],(13,.obj .Q4)::Q5y⟩)]
def K16.JR7:Qt U:= [(.normal,⟨128,14,[(0,.ptr 13 0 0),(1,.Q1q 13 23 42 8 0),(58,vb_)],(13,.obj .Q4)::Q5y⟩)]
def K16.JC4:Qt U:= [(.normal,⟨128,14,[],(13,.obj .Q4)::Q5y⟩)]
def K16.H (cK126:Q2s.T) (cK25:K25.T) (cK153:Q2a.T) (cK122:Q1N.T) (cK33:K33.T) (cK125:Q2x.T) (cK155:Q2T.T) (cK124:Q1S.T) (cK174:Q1X.T) (cK34:K34.T) (cK19:K19.T):Hints U:={ Γ:=(Qp 121 (K19.sig.native (K19.W cK19)) (Qp 113 (K34.sig.native (K34.W cK34)) (Q1X.N cK174 (Q1S.N cK124 (Qp 120 (Q2T.sig.native (Q2T.W cK155)) (Q2x.N cK125 (Qp 118 (K33.sig.native (K33.W cK33)) (Q1N.N cK122 (Q2a.N cK153 (K25.N cK25 (Qp 112 (Q2s.sig.native (Q2s.W cK126)) noΓ))))))))))),ro:=0,base:=14,Q2J:=jt_ [(1,K16.Q6j),(2,K16.Q6j),(7,K16.JR7),(10,K16.Q6j),(11,K16.Q6j),(15,K16.Q7U),(16,K16.Q6j)],Q29:=jt_ [(4,K16.JC4),(6,K16.Q6j),(8,K16.Q6j),(9,K16.Q6j)],gotos:=3,loop:=λb=>none}
def K16.gen (cK126:Q2s.T) (cK25:K25.T) (cK153:Q2a.T) (cK122:Q1N.T) (cK33:K33.T) (cK125:Q2x.T) (cK155:Q2T.T) (cK124:Q1S.T) (cK174:Q1X.T) (cK34:K34.T) (cK19:K19.T):K16.T:=λp h0 g2 g10=>
 (bif ieq (h0.Qu p).Q1Z 1 then (Q0 ((Q0 (cK126 (h0.Qu p).Q1Z 1 h0.Q1d.Q3u) none λr0=>some ((p,()),(Q1.Q1k h0 (QA h0.Qu p (Qc.Q3v (h0.Qu p) r0.1.1)),(g2,(g10,())))))) none λr1=>(Q0 ((Q0 (cK25 r1.2.1) none λr2=>(Q0 (cK153 r2.1.1 (r1.2.1.Qu r1.1.1).Q43) none λr3=>some (r1.1,(Q1.Q1k r1.2.1 (QA r1.2.1.Qu r1.1.1 (Qc.Q3x (r1.2.1.Qu r1.1.1) r3.2.1.1)),r1.2.2))))) none λr4=>(Q0 ((bif r4.2.1.Q1d.Q4J then (Q0 (cK153 1 (r4.2.1.Qu r4.1.1).Q6k) none λr5=>some ((),(Q1.Q1k r4.2.1 (QA r4.2.1.Qu r4.1.1 (Qc.Q5C (r4.2.1.Qu r4.1.1) r5.2.1.1)),r4.2.2))) else some ((),r4.2))) none λr6=>some ((),(r6.2,()))))) else (Q0 (cK122 (h0.Qu p).Q1Z) none λr7=>(Q0 ((bif r7.1.1 then (Q0 (cK33 h0.Q61 (h0.Qu p) g2 g10) none λr8=>some ((p,()),(Q1.Q1k h0 (QA h0.Qu p r8.2.1.1),r8.2.1.2))) else some ((p,()),(h0,(g2,(g10,())))))) none λr9=>(Q0 ((Q0 (cK125 (r9.2.1.Qu r9.1.1).Q1Z) none λr10=>(bif r10.1.1 then (Q0 (cK155 (r9.2.1.Qu r9.1.1).Q43) none λr11=>some ((r9.1.1,r11.1),(Q1.Q1k r9.2.1 (QA r9.2.1.Qu r9.1.1 (Qc.Q3x (r9.2.1.Qu r9.1.1) r11.2.1.1)),r9.2.2))) else some ((r9.1.1,(false,())),r9.2)))) none λr12=>(Q0 ((bif r12.1.2.1 then (Q0 (cK124 (r12.2.1.Qu r12.1.1).Q1Z) none λr13=>(Q0 ((bif r13.1.1 then (Q0 (cK174 r12.2.1.Q1d) none λr14=>some ((r12.1.1,()),(Q1.Q79 r12.2.1 r14.1.1,r12.2.2))) else some ((r12.1.1,()),r12.2))) none λr15=>(Q0 ((Q0 (cK34 (r15.2.1.Qu r15.1.1) r15.2.2.1 r15.2.2.2.1) none λr16=>some (r15.1,(Q1.Q1k r15.2.1 (QA r15.2.1.Qu r15.1.1 r16.2.1.1),r16.2.1.2)))) none λr17=>(Q0 ((Q0 (cK126 (r17.2.1.Qu r17.1.1).Q1Z 4 r17.2.1.Q1d.Q3u) none λr18=>some (r17.1,(Q1.Q1k r17.2.1 (QA r17.2.1.Qu r17.1.1 (Qc.Q3v (r17.2.1.Qu r17.1.1) r18.1.1)),r17.2.2)))) none λr19=>(bif ieq (r19.2.1.Qu r19.1.1).Q1Z 6 then (Q0 (cK19 r19.1.1 r19.2.1) none λr20=>some (r19.1,(r20.2.1.1,r19.2.2))) else (Q0 (cK25 r19.2.1) none λr21=>(Q0 (cK153 r21.1.1 (r19.2.1.Qu r19.1.1).Q43) none λr22=>some (r19.1,(Q1.Q1k r19.2.1 (QA r19.2.1.Qu r19.1.1 (Qc.Q3x (r19.2.1.Qu r19.1.1) r22.2.1.1)),r19.2.2))))))))) else some ((r12.1.1,()),r12.2))) none λr23=>(Q0 ((bif ieq (r23.2.1.Qu r23.1.1).Q1Z 5 then (Q0 (cK155 (r23.2.1.Qu r23.1.1).Q4Z) none λr24=>some ((r23.1.1,r24.1),(Q1.Q1k r23.2.1 (QA r23.2.1.Qu r23.1.1 (Qc.Q4V (r23.2.1.Qu r23.1.1) r24.2.1.1)),r23.2.2))) else some ((r23.1.1,(false,())),r23.2))) none λr25=>(bif r25.1.2.1 then (Q0 ((Q0 (cK126 (r25.2.1.Qu r25.1.1).Q1Z 5 r25.2.1.Q1d.Q3u) none λr26=>some ((r25.1.1,()),(Q1.Q1k r25.2.1 (QA r25.2.1.Qu r25.1.1 (Qc.Q3v (r25.2.1.Qu r25.1.1) r26.1.1)),r25.2.2)))) none λr27=>(Q0 (cK19 r27.1.1 r27.2.1) none λr28=>some ((),((r28.2.1.1,r27.2.2),())))) else some ((),(r25.2,())))))))))
def K16:K16.T:=K16.gen Q2s K25 Q2a Q1N K33 Q2x Q2T Q1S Q1X K34 K19
theorem K16.eq (cK126:Q2s.T) (cK25:K25.T) (cK153:Q2a.T) (cK122:Q1N.T) (cK33:K33.T) (cK125:Q2x.T) (cK155:Q2T.T) (cK124:Q1S.T) (cK174:Q1X.T) (cK34:K34.T) (cK19:K19.T):EqA K16.sig (K16.H cK126 cK25 cK153 cK122 cK33 cK125 cK155 cK124 cK174 cK34 cK19) Tryz.f97 6 (K16.W (K16.gen cK126 cK25 cK153 cK122 cK33 cK125 cK155 cK124 cK174 cK34 cK19)):=by intro a x;kernel_rfl
theorem K16.loops:Z3 K16.C= [(.scope K16.B0)]:=by kernel_rfl
theorem K16.ok:NK_ 97 K16.sig (K16.W K16):=ok_ Tryz.func97 (K16.eq Q2s K25 Q2a Q1N K33 Q2x Q2T Q1S Q1X K34 K19) (hl_ (Z0 (Z0 (Z0 (Z0 (Z0 (Z0 (Z0 (Z0 (Z0 (Z0 (Z0 Z2 Q2s.ok) K25.ok) Q2a.ok) Q1N.ok) K33.ok) Q2x.ok) Q2T.ok) Q1S.ok) Q1X.ok) K34.ok) K19.ok) (Zt Z5)) K16.loops
def K62.sig:Sig U:=⟨[.ptr,.int .i64],[.obj .Ql],1,[.isl .QE],false,[]⟩
abbrev K62.T:Type:=(Int)->(Q5)->Option (((List (Qe))×Unit)×Unit×Unit)
def K62.W (f:K62.T):K62.sig.F:=λa x=>f a.2.1 x.1
def K62.L0:Shape U:=⟨38,15,[(0,.ptr 13 0 0),(1,vi_),(5,.own .QE 14),(15,.asl 13 3 17 5),(16,vi_),(17,vi_)],[(13,.obj .Ql),(14,.tok)]⟩
def K62.X0:Qt U:= [(.exit 0,⟨38,15,[(5,.own .QE 14)],[(13,.obj .Ql),(14,.tok)]⟩)]
abbrev K62.l0T:Type:=((Int×(List (Qe))×(Nat×Nat)×Int×Int×Unit)×(Q5×Unit))->Option ((((List (Qe))×Unit)×(Q5×Unit)))
def K62.C:Code:=match Tryz.f159.body with|some c=>c|none=>.skip
def K62.B0:Code:=match (Z3 K62.C).getD 0 .skip with| .loop b=>b| .scope b=>b|_=>.skip
def K62.JR4:Qt U:= [(.normal,⟨38,16,[(0,.ptr 13 0 0),(1,vi_),(5,.own .QE 14),(7,.ptr 15 0 0),(15,.asl 13 3 17 5),(16,vi_),(17,vi_)],[(13,.obj .Ql),(14,.tok),(15,.obj .QE)]⟩)]
def K62.JC6:Qt U:= [(.normal,⟨38,15,[(0,.ptr 13 0 0),(1,vi_),(5,.own .QE 14),(15,.asl 13 3 17 5),(16,vi_),(17,vi_)],[(13,.obj .Ql),(14,.tok)]⟩)]
def K62.H (cK64:K64.T) (l0:K62.l0T):Hints U:={ Γ:=(Qp 190 (K64.sig.native (K64.W cK64)) noΓ),ro:=14,base:=14,Q1T:=jt_ [(5,[(31,vb_)])],Q2J:=jt_ [(4,K62.JR4)],Q29:=jt_ [(6,K62.JC6)],loop:=jt_ [(3,(Z6 (14,14) K62.L0 K62.X0 l0))]}
def K62.QW (cK64:K64.T) (a:(Int×(List (Qe))×(Nat×Nat)×Int×Int×Unit)×(Q5×Unit)):Option (((Int×(List (Qe))×(Nat×Nat)×Int×Int×Unit)×(Q5×Unit))⊕((((List (Qe))×Unit)×(Q5×Unit)))):=
 (bif ilt a.1.2.2.2.2.1 a.1.2.2.2.1 then (Q0 ((bif inR a.1.2.2.2.2.1 a.1.2.2.1.2 then some (a.1,(a.2.1,(a.2.1.fl (a.1.2.2.1.1+Int.toNat a.1.2.2.2.2.1),()))) else none)) none λr0=>(Q0 ((bif ine r0.2.2.1.Q6W (-1) then (Q0 (cK64 r0.2.2.1.Q6W r0.1.1 r0.2.1) none λr1=>some (!r1.1.1,())) else some (false,()))) none λr2=>(Q0 ((bif r2.1 then (bif room (List.length r0.1.2.1+List.length (r0.2.2.1::QG Qe)) 136 then some ((r0.1.1,(r0.1.2.1++r0.2.2.1::QG Qe,r0.1.2.2)),(r0.2.1,())) else none) else some (r0.1,(r0.2.1,())))) none λr3=>some (.inl ((r3.1.1,(r3.1.2.1,(r3.1.2.2.1,(r3.1.2.2.2.1,(Q2 .i64 r3.1.2.2.2.2.1 1,()))))),r3.2))))) else some (.inr ((a.1.2.1,()),a.2)))
def K62.F0:K62.l0T:=λa=>Z8 (1000000+(a.1.2.1.length+a.1.2.2.1.2)) (K62.QW K64) a
def K62.gen (cK64:K64.T) (l0:K62.l0T):K62.T:=λnow h0=>
 (bif le3 (ofN 0) h0.fn 5 then (Q0 (l0 ((now,QG Qe,(Int.toNat (ofN 0),Int.toNat h0.fn - Int.toNat (ofN 0)),ofN (Int.toNat h0.fn - Int.toNat (ofN 0)),(0:Int),()),h0,())) none λr0=>some (r0.1,((),()))) else none)
def K62:K62.T:=K62.gen K64 K62.F0
theorem K62.Q1O (cK64:K64.T) (l0:K62.l0T) (a:K62.L0.T):run Tryz.prog (K62.H cK64 l0) 6 (Option (K62.L0.T⊕ExT K62.X0)) none K62.B0 (K62.L0.enc a) (Zc (14,14) K62.L0 K62.X0)=K62.QW cK64 a:=by kernel_rfl
abbrev K62.h:=K62.H K64 K62.F0
theorem K62.Q1D:LO_ K62.h K62.B0 (Z6 (14,14) K62.L0 K62.X0 K62.F0):=lk_ (hn_ (Z0 Z2 K64.ok)) (K62.Q1O K64 K62.F0)
theorem K62.eq (cK64:K64.T) (l0:K62.l0T):EqA K62.sig (K62.H cK64 l0) Tryz.f159 6 (K62.W (K62.gen cK64 l0)):=by intro a x;kernel_rfl
theorem K62.loops:Z3 K62.C= [(.loop K62.B0)]:=by kernel_rfl
theorem K62.ok:NK_ 159 K62.sig (K62.W K62):=ok_ Tryz.func159 (K62.eq K64 K62.F0) (hl_ (Z0 Z2 K64.ok) (Z4 (by kernel_rfl) K62.Q1D Z5)) K62.loops
def K74.sig:Sig U:=⟨[.data .Qm,.data .Qm],[],0,[.int .i64],false,[]⟩
abbrev K74.T:Type:=(Q9)->(Q9)->Option ((Int×Unit)×Unit×Unit)
def K74.W (f:K74.T):K74.sig.F:=λa x=>f a.1 a.2.1
def K74.H (cK38:K38.T) (cK37:K37.T) (cK39:K39.T):Hints U:={ Γ:=(K39.N cK39 (K37.N cK37 (K38.N cK38 noΓ))),ro:=0,base:=13}
def K74.gen (cK38:K38.T) (cK37:K37.T) (cK39:K39.T):K74.T:=λa b=>
 (bif bif ieq a.QO b.QO then bif ieq a.Q18 b.Q18 then true else false else false then some (((0:Int),()),((),())) else (Q0 (cK38 a.QO b.QO) none λr0=>(Q0 (cK37 a.Q18 b.Q18) none λr1=>(Q0 (cK39 (r0.1.1::r1.1.1::QG Int)) none λr2=>some (r2.1,((),()))))))
def K74:K74.T:=K74.gen K38 K37 K39
theorem K74.eq (cK38:K38.T) (cK37:K37.T) (cK39:K39.T):EqA K74.sig (K74.H cK38 cK37 cK39) Tryz.f192 6 (K74.W (K74.gen cK38 cK37 cK39)):=by intro a x;kernel_rfl
theorem K74.ok:NK_ 192 K74.sig (K74.W K74):=ok_ Tryz.func192 (K74.eq K38 K37 K39) (hn_ (Z0 (Z0 (Z0 Z2 K38.ok) K37.ok) K39.ok))
def K46.sig:Sig U:=⟨[.data .Q16],[],0,[.int .i64],false,[]⟩
abbrev K46.T:Type:=(Qv)->Option ((Int×Unit)×Unit×Unit)
def K46.W (f:K46.T):K46.sig.F:=λa x=>f a.1
def K46.H (cK74:K74.T):Hints U:={ Γ:=(Qp 192 (K74.sig.native (K74.W cK74)) noΓ),ro:=0,base:=13}
def K46.gen (cK74:K74.T):K46.T:=λa=>
 (Q0 (cK74 a.Q53 a.Q4m) none λr0=>(bif inR (Q2 .i64 r0.1.1 1) 3 then some ((List.getD ((2:Int)::(0:Int)::(1:Int)::QG Int) (Int.toNat (Q2 .i64 r0.1.1 1)) 0,()),((),())) else none))
def K46:K46.T:=K46.gen K74
theorem K46.eq (cK74:K74.T):EqA K46.sig (K46.H cK74) Tryz.f191 6 (K46.W (K46.gen cK74)):=by intro a x;kernel_rfl
theorem K46.ok:NK_ 191 K46.sig (K46.W K46):=ok_ Tryz.func191 (K46.eq K74) (hn_ (Z0 Z2 K74.ok))
def K43.sig:Sig U:=⟨[.data .Q16,.data .Q16],[],0,[.int .i64],false,[]⟩
abbrev K43.T:Type:=(Qv)->(Qv)->Option ((Int×Unit)×Unit×Unit)
def K43.W (f:K43.T):K43.sig.F:=λa x=>f a.1 a.2.1
abbrev K43.N (c:K43.T):=Qp 161 (K43.sig.native (K43.W c))
def K43.C:Code:=match Tryz.f161.body with|some c=>c|none=>.skip
def K43.B0:Code:=match (Z3 K43.C).getD 0 .skip with| .loop b=>b| .scope b=>b|_=>.skip
def K43.JC9:Qt U:= [(.normal,⟨60,13,[(5,vi_)],[]⟩)]
def K43.H (cK44:K44.T) (cK37:K37.T) (cK46:K46.T) (cK74:K74.T) (cK39:K39.T):Hints U:={ Γ:=(K39.N cK39 (Qp 192 (K74.sig.native (K74.W cK74)) (Qp 191 (K46.sig.native (K46.W cK46)) (K37.N cK37 (Qp 33 (K44.sig.native (K44.W cK44)) noΓ))))),ro:=0,base:=13,Q1T:=jt_ [(4,[(27,vb_)]),(6,[(39,vb_)])],Q29:=jt_ [(9,K43.JC9)],gotos:=3,loop:=λb=>none}
def K43.gen (cK44:K44.T) (cK37:K37.T) (cK46:K46.T) (cK74:K74.T) (cK39:K39.T):K43.T:=λa b=>
 (Q0 (cK44 a b) none λr0=>(bif ine (Q2A .i64 2 r0.1.1) 0 then some ((Q2A .i64 2 r0.1.1,()),((),())) else (Q0 (cK37 a.Q2o b.Q2o) none λr1=>(Q0 ((bif ilt 0 (Q2A .i64 2 r1.1.1) then some (ieq (Q1e .i64 a.Q2o 1) b.Q2o,()) else some (false,()))) none λr2=>(bif r2.1 then (Q0 (cK46 a) none λr3=>some (r3.1,((),()))) else (Q0 ((bif ilt (Q2A .i64 2 r1.1.1) 0 then some (ieq (Q1e .i64 b.Q2o 1) a.Q2o,()) else some (false,()))) none λr4=>(bif r4.1 then (Q0 (cK46 b) none λr5=>some ((IntKind.wrap .i64 ((0:Int) - r5.1.1),()),((),()))) else (Q0 ((bif ieq (Q2A .i64 2 r1.1.1) 0 then (Q0 (cK74 a.Q4m b.Q4m) none λr6=>(Q0 (cK37 a.Q53.Q18 b.Q53.Q18) none λr7=>(Q0 (cK39 (r6.1.1::r7.1.1::QG Int)) none λr8=>some (r8.1,())))) else some ((Q2A .i64 2 r1.1.1,()),()))) none λr9=>some (r9.1,((),()))))))))))
def K43:K43.T:=K43.gen K44 K37 K46 K74 K39
theorem K43.eq (cK44:K44.T) (cK37:K37.T) (cK46:K46.T) (cK74:K74.T) (cK39:K39.T):EqA K43.sig (K43.H cK44 cK37 cK46 cK74 cK39) Tryz.f161 6 (K43.W (K43.gen cK44 cK37 cK46 cK74 cK39)):=by intro a x;kernel_rfl
theorem K43.loops:Z3 K43.C= [(.scope K43.B0)]:=by kernel_rfl
theorem K43.ok:NK_ 161 K43.sig (K43.W K43):=ok_ Tryz.func161 (K43.eq K44 K37 K46 K74 K39) (hl_ (Z0 (Z0 (Z0 (Z0 (Z0 Z2 K44.ok) K37.ok) K46.ok) K74.ok) K39.ok) (Zt Z5)) K43.loops
def K42.sig:Sig U:=⟨[.isl .Q16],[],0,[.int .i64],false,[]⟩
abbrev K42.T:Type:=(List (Qv))->Option ((Int×Unit)×Unit×Unit)
def K42.W (f:K42.T):K42.sig.F:=λa x=>f a.1
def K42.L0:Shape U:=⟨27,13,[(0,.val (.isl .Q16)),(3,vi_),(6,.val (.isl .Q16)),(7,vi_),(8,vi_)],[]⟩
def K42.X0:Qt U:= [(.exit 0,⟨27,13,[(3,vi_)],[]⟩)]
abbrev K42.l0T:Type:=(((List (Qv))×Int×(List (Qv))×Int×Int×Unit)×Unit)->Option (((Int×Unit)×Unit))
def K42.C:Code:=match Tryz.f160.body with|some c=>c|none=>.skip
def K42.B0:Code:=match (Z3 K42.C).getD 0 .skip with| .loop b=>b| .scope b=>b|_=>.skip
def K42.JC6:Qt U:= [(.normal,⟨27,13,[(0,.val (.isl .Q16)),(3,vi_),(6,.val (.isl .Q16)),(7,vi_),(8,vi_)],[]⟩)]
def K42.H (cK43:K43.T) (l0:K42.l0T):Hints U:={ Γ:=(K43.N cK43 noΓ),ro:=0,base:=13,Q1T:=jt_ [(5,[(23,vb_)])],Q29:=jt_ [(6,K42.JC6)],loop:=jt_ [(3,(Z6 (0,13) K42.L0 K42.X0 l0))]}
def K42.QW (cK43:K43.T) (a:((List (Qv))×Int×(List (Qv))×Int×Int×Unit)×Unit):Option ((((List (Qv))×Int×(List (Qv))×Int×Int×Unit)×Unit)⊕(((Int×Unit)×Unit))):=
 (bif ilt a.1.2.2.2.2.1 a.1.2.2.2.1 then (bif inR a.1.2.2.2.2.1 (List.length a.1.2.2.1) then (Q0 ((bif ilt a.1.2.1 0 then some (true,()) else (bif inR a.1.2.1 (List.length a.1.1) then (Q0 (cK43 (List.getD a.1.1 (Int.toNat a.1.2.1) Qv.zero) (List.getD a.1.2.2.1 (Int.toNat a.1.2.2.2.2.1) Qv.zero)) none λr0=>some (ilt 0 r0.1.1,())) else none))) none λr1=>(Q0 ((bif r1.1 then some ((a.1.1,(a.1.2.2.2.2.1,a.1.2.2)),()) else some a)) none λr2=>some (.inl ((r2.1.1,(r2.1.2.1,(r2.1.2.2.1,(r2.1.2.2.2.1,(Q2 .i64 r2.1.2.2.2.2.1 1,()))))),())))) else none) else some (.inr ((a.1.2.1,()),())))
def K42.F0:K42.l0T:=λa=>Z8 (1000000+(a.1.1.length+a.1.2.2.1.length)) (K42.QW K43) a
def K42.gen (cK43:K43.T) (l0:K42.l0T):K42.T:=λl=>
 (Q0 (l0 ((l,(-1:Int),l,ofN (List.length l),(0:Int),()),())) none λr0=>some (r0.1,((),())))
def K42:K42.T:=K42.gen K43 K42.F0
theorem K42.Q1O (cK43:K43.T) (l0:K42.l0T) (a:K42.L0.T):run Tryz.prog (K42.H cK43 l0) 6 (Option (K42.L0.T⊕ExT K42.X0)) none K42.B0 (K42.L0.enc a) (Zc (0,13) K42.L0 K42.X0)=K42.QW cK43 a:=by kernel_rfl
abbrev K42.h:=K42.H K43 K42.F0
theorem K42.Q1D:LO_ K42.h K42.B0 (Z6 (0,13) K42.L0 K42.X0 K42.F0):=lk_ (hn_ (Z0 Z2 K43.ok)) (K42.Q1O K43 K42.F0)
theorem K42.eq (cK43:K43.T) (l0:K42.l0T):EqA K42.sig (K42.H cK43 l0) Tryz.f160 6 (K42.W (K42.gen cK43 l0)):=by intro a x;kernel_rfl
theorem K42.loops:Z3 K42.C= [(.loop K42.B0)]:=by kernel_rfl
theorem K42.ok:NK_ 160 K42.sig (K42.W K42):=ok_ Tryz.func160 (K42.eq K43 K42.F0) (hl_ (Z0 Z2 K43.ok) (Z4 (by kernel_rfl) K42.Q1D Z5)) K42.loops
def K59.sig:Sig U:=⟨[.ptr,.int .i64],[.obj .Ql],1,[.data .QE,.bool],true,[]⟩
abbrev K59.T:Type:=(Int)->(Q5)->Option ((Qe×Bool×Unit)×Unit×Unit)
def K59.W (f:K59.T):K59.sig.F:=λa x=>f a.2.1 x.1
def K59.L0:Shape U:=⟨35,16,[(4,.ptr 14 0 0),(6,.val (.isl .QE)),(7,.own .Q16 15),(14,.val (.isl .QE)),(15,vi_),(16,vi_)],[(13,.obj .Ql),(14,.obj .QE),(15,.tok)]⟩
def K59.X0:Qt U:= [(.exit 0,⟨35,16,[(4,.ptr 14 0 0),(6,.val (.isl .QE)),(7,.own .Q16 15)],[(13,.obj .Ql),(14,.obj .QE),(15,.tok)]⟩)]
abbrev K59.l0T:Type:=(((List (Qe))×(List (Qv))×(List (Qe))×Int×Int×Unit)×(Q5×Qe×Unit))->Option ((((List (Qe))×(List (Qv))×Unit)×(Q5×Qe×Unit)))
def K59.C:Code:=match Tryz.f122.body with|some c=>c|none=>.skip
def K59.B0:Code:=match (Z3 K59.C).getD 0 .skip with| .loop b=>b| .scope b=>b|_=>.skip
def K59.Q8p:Qt U:= [(.normal,⟨35,15,[(4,.ptr 14 0 0),(5,vb_)],[(13,.obj .Ql),(14,.obj .QE)]⟩)]
def K59.JR5:Qt U:= [(.normal,⟨35,17,[(4,.ptr 14 0 0),(6,.val (.isl .QE)),(7,.own .Q16 15),(9,.ptr 16 0 0),(14,.val (.isl .QE)),(15,vi_),(16,vi_)],[(13,.obj .Ql),(14,.obj .QE),(15,.tok),(16,.obj .QE)]⟩)]
def K59.H (cK62:K62.T) (cK42:K42.T) (l0:K59.l0T):Hints U:={ Γ:=(Qp 160 (K42.sig.native (K42.W cK42)) (Qp 159 (K62.sig.native (K62.W cK62)) noΓ)),ro:=14,base:=14,Q2J:=jt_ [(5,K59.JR5),(10,K59.Q8p)],loop:=jt_ [(4,(Z6 (14,14) K59.L0 K59.X0 l0))]}
def K59.QW (cK62:K62.T) (cK42:K42.T) (a:((List (Qe))×(List (Qv))×(List (Qe))×Int×Int×Unit)×(Q5×Qe×Unit)):Option ((((List (Qe))×(List (Qv))×(List (Qe))×Int×Int×Unit)×(Q5×Qe×Unit))⊕((((List (Qe))×(List (Qv))×Unit)×(Q5×Qe×Unit)))):=
 (bif ilt a.1.2.2.2.2.1 a.1.2.2.2.1 then (Q0 ((bif inR a.1.2.2.2.2.1 (List.length a.1.2.2.1) then some (a.1,(a.2.1,(a.2.2.1,(List.getD a.1.2.2.1 (Int.toNat a.1.2.2.2.2.1) Qe.zero,())))) else none)) none λr0=>(bif room (List.length r0.1.2.1+List.length (r0.2.2.2.1.Q3b::QG Qv)) 88 then some (.inl ((r0.1.1,(r0.1.2.1++r0.2.2.2.1.Q3b::QG Qv,(r0.1.2.2.1,(r0.1.2.2.2.1,(Q2 .i64 r0.1.2.2.2.2.1 1,()))))),(r0.2.1,(r0.2.2.1,())))) else none)) else some (.inr ((a.1.1,(a.1.2.1,())),a.2)))
def K59.F0:K59.l0T:=λa=>Z8 (1000000+(a.1.1.length+a.1.2.1.length+a.1.2.2.1.length)) (K59.QW K62 K42) a
def K59.gen (cK62:K62.T) (cK42:K42.T) (l0:K59.l0T):K59.T:=λnow h0=>
 (Q0 (cK62 now h0) none λr0=>(Q0 (l0 ((r0.1.1,QG Qv,r0.1.1,ofN (List.length r0.1.1),(0:Int),()),h0,Qe.mk z5_ z6_ 0 0 0,())) none λr1=>(Q0 (cK42 r1.1.2.1) none λr2=>(bif ilt r2.1.1 0 then some ((Qe.mk z5_ z6_ 0 0 0,(false,())),((),())) else (bif inR r2.1.1 (List.length r1.1.1) then some ((List.getD r1.1.1 (Int.toNat r2.1.1) Qe.zero,(true,())),((),())) else none)))))
def K59:K59.T:=K59.gen K62 K42 K59.F0
theorem K59.Q1O (cK62:K62.T) (cK42:K42.T) (l0:K59.l0T) (a:K59.L0.T):run Tryz.prog (K59.H cK62 cK42 l0) 6 (Option (K59.L0.T⊕ExT K59.X0)) none K59.B0 (K59.L0.enc a) (Zc (14,14) K59.L0 K59.X0)=K59.QW cK62 cK42 a:=by kernel_rfl
abbrev K59.h:=K59.H K62 K42 K59.F0
theorem K59.Q1D:LO_ K59.h K59.B0 (Z6 (14,14) K59.L0 K59.X0 K59.F0):=lk_ (hn_ (Z0 (Z0 Z2 K62.ok) K42.ok)) (K59.Q1O K62 K42 K59.F0)
theorem K59.eq (cK62:K62.T) (cK42:K42.T) (l0:K59.l0T):EqA K59.sig (K59.H cK62 cK42 l0) Tryz.f122 6 (K59.W (K59.gen cK62 cK42 l0)):=by intro a x;kernel_rfl
theorem K59.loops:Z3 K59.C= [(.loop K59.B0)]:=by kernel_rfl
theorem K59.ok:NK_ 122 K59.sig (K59.W K59):=ok_ Tryz.func122 (K59.eq K62 K42 K59.F0) (hl_ (Z0 (Z0 Z2 K62.ok) K42.ok) (Z4 (by kernel_rfl) K59.Q1D Z5)) K59.loops
def K50.sig:Sig U:=⟨[.data .Q16,.bool,.Q37 .Q16,.Q37 .Q16,.bool],[],0,[.int .i64],false,[]⟩
abbrev K50.T:Type:=(Qv)->(Bool)->(Option (Qv))->(Option (Qv))->(Bool)->Option ((Int×Unit)×Unit×Unit)
def K50.W (f:K50.T):K50.sig.F:=λa x=>f a.1 a.2.1 a.2.2.1 a.2.2.2.1 a.2.2.2.2.1
def K50.JC2:Qt U:= [(.normal,⟨58,13,[],[]⟩),
 (.ret,⟨58,13,[(10,vi_)],[]⟩)]
def K50.H (cK43:K43.T):Hints U:={ Γ:=(K43.N cK43 noΓ),ro:=0,base:=13,Q1T:=jt_ [(1,[(11,vb_)]),(4,[(31,vb_)]),(7,[(32,vb_)]),(11,[(45,vb_)])],Q29:=jt_ [(2,K50.JC2)]}
def K50.gen (cK43:K43.T):K50.T:=λd0 listening best port here=>
 (Q0 ((bif !Option.isSome port then some (listening,()) else some (false,()))) none λr0=>(Q0 ((bif r0.1 then some (.inr (((7:Int),()),())) else (bif ile d0.QY.Q2Y 127 then (Q0 ((bif !Option.isSome port then some (true,()) else (Q0 (port) none λr1=>(Q0 (cK43 d0 r1) none λr2=>some (ilt r2.1.1 0,()))))) none λr3=>(bif r3.1 then some (.inr (((1:Int),()),())) else some (.inr (((4:Int),()),())))) else (Q0 ((bif !Option.isSome best then some (true,()) else (Q0 (best) none λr4=>(Q0 (cK43 d0 r4) none λr5=>some (ilt r5.1.1 0,()))))) none λr6=>(bif r6.1 then some (.inr (((2:Int),()),())) else (bif here then some (.inr (((6:Int),()),())) else (Q0 ((bif Option.isSome port then (Q0 (best) none λr7=>(Q0 (port) none λr8=>(Q0 (cK43 r7 r8) none λr9=>some (ieq r9.1.1 (-1),())))) else some (false,()))) none λr10=>(bif r10.1 then some (.inr (((5:Int),()),())) else some (.inl ((),())))))))))) none λr11=>(Q3B r11 (λr12=>some (((3:Int),()),((),()))) (λr12=>some (r12.1,((),()))))))
def K50:K50.T:=K50.gen K43
theorem K50.eq (cK43:K43.T):EqA K50.sig (K50.H cK43) Tryz.f162 6 (K50.W (K50.gen cK43)):=by intro a x;kernel_rfl
theorem K50.ok:NK_ 162 K50.sig (K50.W K50):=ok_ Tryz.func162 (K50.eq K43) (hn_ (Z0 Z2 K43.ok))
def K49.sig:Sig U:=⟨[.data .Q16,.isl .bool,.isl .Q1P],[],0,[.isl .int,.int .i64],true,[]⟩
abbrev K49.T:Type:=(Qv)->(List (Bool))->(List (Option (Qv)))->Option (((List (Int))×Int×Unit)×Unit×Unit)
def K49.W (f:K49.T):K49.sig.F:=λa x=>f a.1 a.2.1 a.2.2.1
def K49.L0:Shape U:=⟨78,14,[(1,.val (.isl .bool)),(2,.val (.isl .Q1P)),(3,.ptr 13 0 0),(8,vi_),(9,vi_),(10,.val (.Q37 .Q16)),(11,.full .int)],[(13,.obj .Q16)]⟩
def K49.X0:Qt U:= [(.ret,⟨78,14,[(6,.own .int 13),(7,vi_)],[(13,.tok)]⟩)]
abbrev K49.l0T:Type:=(((List (Bool))×(List (Option (Qv)))×Int×Int×(Option (Qv))×(List (Int))×Unit)×(Qv×Unit))->Option ((((List (Int))×Int×Unit)×Unit))
def K49.L1:Shape U:=⟨78,15,[(1,.val (.isl .bool)),(3,.ptr 13 0 0),(8,vi_),(10,.val (.Q37 .Q16)),(11,.own .int 14),(48,.val (.isl .Q1P)),(49,vi_),(50,vi_)],[(13,.obj .Q16),(14,.tok)]⟩
def K49.X1:Qt U:= [(.exit 0,⟨78,14,[(8,vi_),(11,.own .int 13)],[(13,.tok)]⟩)]
abbrev K49.l1T:Type:=(((List (Bool))×Int×(Option (Qv))×(List (Int))×(List (Option (Qv)))×Int×Int×Unit)×(Qv×Unit))->Option (((Int×(List (Int))×Unit)×Unit))
def K49.C:Code:=match Tryz.f123.body with|some c=>c|none=>.skip
def K49.B0:Code:=match (Z3 K49.C).getD 0 .skip with| .loop b=>b| .scope b=>b|_=>.skip
def K49.B1:Code:=match (Z3 K49.C).getD 1 .skip with| .loop b=>b| .scope b=>b|_=>.skip
def K49.R0:Code:=(findLabel K49.B0 0).getD .skip
def K49.Q8s:Qt U:= [(.normal,⟨78,15,[(1,.val (.isl .bool)),(3,.ptr 13 0 0),(8,vi_),(10,.val (.Q37 .Q16)),(11,.own .int 14),(48,.val (.isl .Q1P)),(49,vi_),(50,vi_)],[(13,.obj .Q16),(14,.tok)]⟩)]
def K49.JC8:Qt U:= [(.normal,⟨78,14,[(1,.val (.isl .bool)),(2,.val (.isl .Q1P)),(3,.ptr 13 0 0),(8,vi_),(9,vi_),(10,.val (.Q37 .Q16)),(11,.full .int)],[(13,.obj .Q16)]⟩)]
def K49.H (cK43:K43.T) (cK50:K50.T) (l0:K49.l0T) (l1:K49.l1T):Hints U:={ Γ:=(Qp 162 (K50.sig.native (K50.W cK50)) (K43.N cK43 noΓ)),ro:=0,base:=13,Q1T:=jt_ [(7,[(43,vb_)])],Q2J:=jt_ [(13,K49.Q8s)],Q29:=jt_ [(8,K49.JC8)],label:=λb=>bif Nat.beq b 0 then some (Z6 (0,13) K49.L0 K49.X0 l0) else none,gotos:=3,loop:=jt_ [(11,(Z6 (0,13) K49.L1 K49.X1 l1))]}
def K49.Q2n (cK43:K43.T) (cK50:K50.T) (a:((List (Bool))×Int×(Option (Qv))×(List (Int))×(List (Option (Qv)))×Int×Int×Unit)×(Qv×Unit)):Option ((((List (Bool))×Int×(Option (Qv))×(List (Int))×(List (Option (Qv)))×Int×Int×Unit)×(Qv×Unit))⊕(((Int×(List (Int))×Unit)×Unit))):=
 (bif ilt a.1.2.2.2.2.2.2.1 a.1.2.2.2.2.2.1 then (bif inR a.1.2.2.2.2.2.2.1 (List.length a.1.2.2.2.2.1) then (Q0 ((bif ilt a.1.2.2.2.2.2.2.1 (ofN (List.length a.1.1)) then (bif inR a.1.2.2.2.2.2.2.1 (List.length a.1.1) then (Q0 (cK50 a.2.1 (List.getD a.1.1 (Int.toNat a.1.2.2.2.2.2.2.1) false) a.1.2.2.1 (List.getD a.1.2.2.2.2.1 (Int.toNat a.1.2.2.2.2.2.2.1) none) (ieq a.1.2.2.2.2.2.2.1 a.1.2.1)) none λr0=>(bif room (List.length a.1.2.2.2.1+List.length (r0.1.1::QG Int)) 8 then some ((a.1.1,(a.1.2.1,(a.1.2.2.1,(a.1.2.2.2.1++r0.1.1::QG Int,a.1.2.2.2.2)))),a.2) else none)) else none) else (Q0 (cK50 a.2.1 false a.1.2.2.1 (List.getD a.1.2.2.2.2.1 (Int.toNat a.1.2.2.2.2.2.2.1) none) (ieq a.1.2.2.2.2.2.2.1 a.1.2.1)) none λr1=>(bif room (List.length a.1.2.2.2.1+List.length (r1.1.1::QG Int)) 8 then some ((a.1.1,(a.1.2.1,(a.1.2.2.1,(a.1.2.2.2.1++r1.1.1::QG Int,a.1.2.2.2.2)))),a.2) else none)))) none λr2=>some (.inl ((r2.1.1,(r2.1.2.1,(r2.1.2.2.1,(r2.1.2.2.2.1,(r2.1.2.2.2.2.1,(r2.1.2.2.2.2.2.1,(Q2 .i64 r2.1.2.2.2.2.2.2.1 1,()))))))),r2.2))) else none) else some (.inr ((a.1.2.1,(a.1.2.2.2.1,())),())))
def K49.F1:K49.l1T:=λa=>Z8 (1000000+(a.1.1.length+a.1.2.2.2.1.length+a.1.2.2.2.2.1.length)) (K49.Q2n K43 K50) a
def K49.QW (cK43:K43.T) (cK50:K50.T) (l1:K49.l1T) (a:((List (Bool))×(List (Option (Qv)))×Int×Int×(Option (Qv))×(List (Int))×Unit)×(Qv×Unit)):Option ((((List (Bool))×(List (Option (Qv)))×Int×Int×(Option (Qv))×(List (Int))×Unit)×(Qv×Unit))⊕((((List (Int))×Int×Unit)×Unit))):=
 (bif ilt a.1.2.2.2.1 (ofN (List.length a.1.2.1)) then (bif inR a.1.2.2.2.1 (List.length a.1.2.1) then (Q0 ((bif Option.isSome (List.getD a.1.2.1 (Int.toNat a.1.2.2.2.1) none) then (bif !Option.isSome a.1.2.2.2.2.1 then some (true,()) else (Q0 (a.1.2.2.2.2.1) none λ(r0:Qv)=>(Q0 (List.getD a.1.2.1 (Int.toNat a.1.2.2.2.1) none) none λr1=>(Q0 (cK43 r0 r1) none λr2=>some (ilt 0 r2.1.1,()))))) else some (false,()))) none λr3=>(Q0 ((bif r3.1 then some ((a.1.1,(a.1.2.1,(a.1.2.2.2.1,(a.1.2.2.2.1,(List.getD a.1.2.1 (Int.toNat a.1.2.2.2.1) none,a.1.2.2.2.2.2))))),a.2) else some a)) none λr4=>some (.inl ((r4.1.1,(r4.1.2.1,(r4.1.2.2.1,(Q2 .i64 r4.1.2.2.2.1 1,r4.1.2.2.2.2)))),r4.2)))) else none) else (Q0 (l1 ((a.1.1,a.1.2.2.1,a.1.2.2.2.2.1,a.1.2.2.2.2.2.1,a.1.2.1,ofN (List.length a.1.2.1),(0:Int),()),a.2)) none λr5=>some (.inr ((r5.1.2.1,(r5.1.1,())),()))))
def K49.F0:K49.l0T:=λa=>Z8 (1000000+(a.1.1.length+a.1.2.1.length+a.1.2.2.2.2.2.1.length)) (K49.QW K43 K50 K49.F1) a
def K49.gen (cK43:K43.T) (cK50:K50.T) (l0:K49.l0T) (l1:K49.l1T):K49.T:=λd0 listening ports=>
 (bif le3 (ofN 0) (Z7 false (ofN (List.length ports)) 8) (List.length ports) then (bif ilt 0 (ofN (List.length (List.drop (Int.toNat (ofN 0)) (List.take (Int.toNat (Z7 false (ofN (List.length ports)) 8)) ports)))) then (bif inR 0 (List.length (List.drop (Int.toNat (ofN 0)) (List.take (Int.toNat (Z7 false (ofN (List.length ports)) 8)) ports))) then (Q0 ((bif Option.isSome (List.getD (List.drop (Int.toNat (ofN 0)) (List.take (Int.toNat (Z7 false (ofN (List.length ports)) 8)) ports)) (Int.toNat 0) none) then some (true,()) else some (false,()))) none λr0=>(Q0 ((bif r0.1 then some ((listening,(List.drop (Int.toNat (ofN 0)) (List.take (Int.toNat (Z7 false (ofN (List.length ports)) 8)) ports),((0:Int),((0:Int),(List.getD (List.drop (Int.toNat (ofN 0)) (List.take (Int.toNat (Z7 false (ofN (List.length ports)) 8)) ports)) (Int.toNat 0) none,(QG Int,())))))),(d0,())) else some ((listening,(List.drop (Int.toNat (ofN 0)) (List.take (Int.toNat (Z7 false (ofN (List.length ports)) 8)) ports),((-1:Int),((0:Int),(none,(QG Int,())))))),(d0,())))) none λr1=>(Q0 (l0 ((r1.1.1,r1.1.2.1,r1.1.2.2.1,Q2 .i64 r1.1.2.2.2.1 1,r1.1.2.2.2.2),r1.2)) none λr2=>some (r2.1,((),()))))) else none) else (Q0 (l1 ((listening,(-1:Int),none,QG Int,List.drop (Int.toNat (ofN 0)) (List.take (Int.toNat (Z7 false (ofN (List.length ports)) 8)) ports),ofN (List.length (List.drop (Int.toNat (ofN 0)) (List.take (Int.toNat (Z7 false (ofN (List.length ports)) 8)) ports))),(0:Int),()),d0,())) none λr3=>some ((r3.1.2.1,(r3.1.1,())),((),())))) else none)
def K49:K49.T:=K49.gen K43 K50 K49.F0 K49.F1
theorem K49.seq1 (cK43:K43.T) (cK50:K50.T) (l0:K49.l0T) (l1:K49.l1T) (a:K49.L1.T):run Tryz.prog (K49.H cK43 cK50 l0 l1) 6 (Option (K49.L1.T⊕ExT K49.X1)) none K49.B1 (K49.L1.enc a) (Zc (0,13) K49.L1 K49.X1)=K49.Q2n cK43 cK50 a:=by kernel_rfl
theorem K49.Q68:Z3 K49.B1=([]:List Code):=by kernel_rfl
abbrev K49.h:=K49.H K43 K50 K49.F0 K49.F1
theorem K49.Q3z:ZA U Tryz.prog K49.h.ro K49.h.base K49.B1 (Z6 (0,13) K49.L1 K49.X1 K49.F1):=
 Z1b (Hn:=K49.h) Q3X Q2t (ZY (ZB Q3X Q2t mixed (Z0 (Z0 Z2 K43.ok) K50.ok) Z5 Z14 (Z1l λ_=>rfl)) 6) (λb h=>by rw [K49.Q68] at h;exact h) (λ_=>rfl) (K49.seq1 K43 K50 K49.F0 K49.F1)
theorem K49.Q1O (cK43:K43.T) (cK50:K50.T) (l0:K49.l0T) (l1:K49.l1T) (a:K49.L0.T):run Tryz.prog (K49.H cK43 cK50 l0 l1) 6 (Option (K49.L0.T⊕ExT K49.X0)) none K49.R0 (K49.L0.enc a) (Z2v (0,13) 0 K49.L0 K49.X0)=K49.QW cK43 cK50 l1 a:=by kernel_rfl
theorem K49.Q3V:Z3 K49.R0= [(.loop K49.B1)]:=by kernel_rfl
theorem K49.Q1D:ZR U Tryz.prog K49.h.ro K49.h.base K49.B0 K49.R0 (Z6 (0,13) K49.L0 K49.X0 K49.F0):=
 Z4H (Hn:=K49.h) (lb:=0) Q3X Q2t (ZY (ZB Q3X Q2t mixed (Z0 (Z0 Z2 K43.ok) K50.ok) (Z4 (by kernel_rfl) K49.Q3z Z5) (Z1A Z14) (Z1l λ_=>rfl)) 6) (by kernel_rfl) (λb h=>by rw [K49.Q3V] at h;exact h) (λ_=>rfl) (K49.Q1O K43 K50 K49.F0 K49.F1)
theorem K49.eq (cK43:K43.T) (cK50:K50.T) (l0:K49.l0T) (l1:K49.l1T):EqA K49.sig (K49.H cK43 cK50 l0 l1) Tryz.f123 6 (K49.W (K49.gen cK43 cK50 l0 l1)):=by intro a x;kernel_rfl
theorem K49.loops:Z3 K49.C= [(.scope K49.B0),(.loop K49.B1)]:=by kernel_rfl
theorem K49.hints:Q3c U Tryz.prog K49.h (λc=>c∈ [(.scope K49.B0),(.loop K49.B1)]):=(ZB Q3X Q2t mixed (Z0 (Z0 Z2 K43.ok) K50.ok) (Zt (Z4 (by kernel_rfl) K49.Q3z Z5)) (Z3k (Z4B (r0:=K49.R0) (l0:=0) (by kernel_rfl) (λ_=>rfl) K49.Q1D) (Z1A Z14)) (Z1l λ_=>rfl))
theorem K49.ok:Zi U Tryz.prog 123 (K49.sig.native (K49.W K49)):=
 Sig.ok K49.sig (K49.W K49) Q2t (Hn:=K49.h) (code:=K49.C) (gos:=6) K49.hints Tryz.func123 (by kernel_rfl) (by kernel_rfl) (λb h=>by rw [K49.loops] at h;exact h) rfl rfl (by decide) (K49.eq K43 K50 K49.F0 K49.F1) (by decide)
def Q2P.sig:Sig U:=⟨[.data .Q16,.data .Q3U],[],0,[.data .Q1x],false,[]⟩
abbrev Q2P.T:Type:=(Qv)->(Q1u)->Option ((QX×Unit)×Unit×Unit)
def Q2P.W (f:Q2P.T):Q2P.sig.F:=λa x=>f a.1 a.2.1
def Q2P.H:Hints U:={ Γ:=noΓ,ro:=0,base:=13}
def Q2P.gen:Q2P.T:=λv t=>
 some ((QX.mk v.Q4m v.Q3g v.QY v.Q1y v.Q1C (Q2 .i64 v.Q2o 1) t,()),((),()))
def Q2P:Q2P.T:=Q2P.gen
theorem Q2P.ok:NK_ 124 Q2P.sig (Q2P.W Q2P):=ok_ (H:=Q2P.H) (n:=6) Tryz.func124 (by intro a x;kernel_rfl) (hn_ Z2)
def Q2z.sig:Sig U:=⟨[.int .i64,.int .i64,.bool,.bool],[],0,[.int .i64],false,[]⟩
abbrev Q2z.T:Type:=(Int)->(Int)->(Bool)->(Bool)->Option ((Int×Unit)×Unit×Unit)
def Q2z.W (f:Q2z.T):Q2z.sig.F:=λa x=>f a.1 a.2.1 a.2.2.1 a.2.2.2.1
def Q2z.H (cK122:Q1N.T) (cK124:Q1S.T):Hints U:={ Γ:=(Q1S.N cK124 (Q1N.N cK122 noΓ)),ro:=0,base:=13,Q1T:=jt_ [(1,[(19,vb_)]),(3,[(25,vb_)]),(14,[(42,vb_)])]}
def Q2z.gen (cK122:Q1N.T) (cK124:Q1S.T):Q2z.T:=λstate decision same slaveOnly=>
 (Q0 ((Q0 (cK122 state) none λr0=>(bif !r0.1.1 then some (true,()) else (bif ilt decision 1 then some (true,()) else some (ilt 6 decision,()))))) none λr1=>(bif r1.1 then some ((state,()),((),())) else (Q0 ((bif slaveOnly then some (ine decision 6,()) else some (false,()))) none λr2=>(bif r2.1 then some (((4:Int),()),((),())) else (bif ieq decision 4 then some (((7:Int),()),((),())) else (bif ieq decision 5 then some (((7:Int),()),((),())) else (bif ieq decision 3 then (bif ine state 6 then some (((5:Int),()),((),())) else some ((state,()),((),()))) else (bif ieq decision 6 then (Q0 ((bif same then (Q0 (cK124 state) none λr3=>some r3.1) else some (false,()))) none λr4=>(bif r4.1 then some ((state,()),((),())) else some (((8:Int),()),((),())))) else some (((6:Int),()),((),()))))))))))
def Q2z:Q2z.T:=Q2z.gen Q1N Q1S
theorem Q2z.eq (cK122:Q1N.T) (cK124:Q1S.T):EqA Q2z.sig (Q2z.H cK122 cK124) Tryz.f125 6 (Q2z.W (Q2z.gen cK122 cK124)):=by intro a x;kernel_rfl
theorem Q2z.ok:NK_ 125 Q2z.sig (Q2z.W Q2z):=ok_ Tryz.func125 (Q2z.eq Q1N Q1S) (hn_ (Z0 (Z0 Z2 Q1N.ok) Q1S.ok))
def Q2e.sig:Sig U:=⟨[.ptr],[.obj .QS],0,[],true,[]⟩
abbrev Q2e.T:Type:=(Qh)->Option (Unit×(Qh×Unit)×Unit)
def Q2e.W (f:Q2e.T):Q2e.sig.F:=λa x=>f x.1
abbrev Q2e.N (c:Q2e.T):=Qp 154 (Q2e.sig.native (Q2e.W c))
def Q2e.H:Hints U:={ Γ:=noΓ,ro:=0,base:=14}
def Q2e.gen:Q2e.T:=λh0=>
 some ((),((Qh.mk z2_ z2_ 0 false false,()),()))
def Q2e:Q2e.T:=Q2e.gen
theorem Q2e.ok:NK_ 154 Q2e.sig (Q2e.W Q2e):=ok_ (H:=Q2e.H) (n:=6) Tryz.func154 (by intro a x;kernel_rfl) (hn_ Z2)
def K52.sig:Sig U:=⟨[.ptr],[.obj .Qy],0,[],true,[]⟩
abbrev K52.T:Type:=(Q6)->Option (Unit×(Q6×Unit)×Unit)
def K52.W (f:K52.T):K52.sig.F:=λa x=>f x.1
abbrev K52.N (c:K52.T):=Qp 155 (K52.sig.native (K52.W c))
def K52.H:Hints U:={ Γ:=noΓ,ro:=0,base:=14}
def K52.gen:K52.T:=λh0=>
 some ((),((Q6.Q8l h0 (Q10.mk 0 0 false false),()),()))
def K52:K52.T:=K52.gen
theorem K52.ok:NK_ 155 K52.sig (K52.W K52):=ok_ (H:=K52.H) (n:=6) Tryz.func155 (by intro a x;kernel_rfl) (hn_ Z2)
def K35.sig:Sig U:=⟨[.ptr,.bool],[.obj .QI,Q47,Q4y],0,[],true,[]⟩
abbrev K35.T:Type:=(Bool)->(Qc)->(Fm Q6)->(Fm Qh)->Option (Unit×(Qc×(Fm Q6)×(Fm Qh)×Unit)×Unit)
def K35.W (f:K35.T):K35.sig.F:=λa x=>f a.2.1 x.1 x.2.1 x.2.2.1
def K35.C:Code:=match Tryz.f114.body with|some c=>c|none=>.skip
def K35.B0:Code:=match (Z3 K35.C).getD 0 .skip with| .loop b=>b| .scope b=>b|_=>.skip
def K35.JR2:Qt U:= [(.normal,⟨44,14,[(0,.ptr 13 0 0),(1,vb_)],(13,.obj .QI)::hT6_⟩)]
def K35.U0 (cK132:Q2e.T) (cK52:K52.T) (cK154:Q2O.T):Hints U:={ Γ:=(Q2O.N cK154 (K52.N cK52 (Q2e.N cK132 noΓ))),ro:=0,base:=14,Q2J:=jt_ [(0,K35.JR2),(1,K35.JR2),(2,K35.JR2)],loop:=λb=>none}
def K35.H (cK132:Q2e.T) (cK52:K52.T) (cK154:Q2O.T):Hints U:={ Γ:=(Q2O.N cK154 (K52.N cK52 (Q2e.N cK132 noΓ))),ro:=0,base:=14,Q2J:=jt_ [(0,K35.JR2),(1,K35.JR2),(2,K35.JR2)],loop:=jt_ [(4,(Z21 Tryz.prog (K35.U0 cK132 cK52 cK154) 6 K35.B0 6))]}
def K35.gen (cK132:Q2e.T) (cK52:K52.T) (cK154:Q2O.T):K35.T:=λask h0 g3 g6=>
 (Q0 ((Q0 (h0.12) none λr0=>(Q0 (cK132 (g6.2 r0)) none λr1=>some ((ask,()),(h0,(g3,((g6.1,QA g6.2 r0 r1.2.1.1),()))))))) none λr2=>(Q0 ((Q0 (r2.2.1.13) none λr3=>(Q0 (cK52 (r2.2.2.1.2 r3)) none λr4=>some (r2.1,(r2.2.1,((r2.2.2.1.1,QA r2.2.2.1.2 r3 r4.2.1.1),r2.2.2.2)))))) none λr5=>(Q0 (cK154 r5.2.1.Q43) none λr6=>(Q0 (cK154 r5.2.1.Q4Z) none λr7=>(Q0 (cK154 r5.2.1.Q4E) none λr8=>(Q0 (cK154 r5.2.1.fsync) none λr9=>(bif r5.1.1 then (Q0 (cK154 r5.2.1.Q6k) none λr10=>some ((),((Qc.Q5i (Qc.Q5C (Qc.Q5I (Qc.Q4N (Qc.Q4V (Qc.Q3x r5.2.1 r6.2.1.1) r7.2.1.1) r8.2.1.1) r9.2.1.1) r10.2.1.1) z4_,r5.2.2),()))) else some ((),((Qc.Q5i (Qc.Q5I (Qc.Q4N (Qc.Q4V (Qc.Q3x r5.2.1 r6.2.1.1) r7.2.1.1) r8.2.1.1) r9.2.1.1) z4_,r5.2.2),())))))))))
def K35:K35.T:=K35.gen Q2e K52 Q2O
theorem K35.Q3V:Z3 K35.B0= []:=by kernel_rfl
abbrev K35.h:=K35.H Q2e K52 Q2O
theorem K35.Q1D:ZA U Tryz.prog K35.h.ro K35.h.base K35.B0 (Z21 Tryz.prog (K35.U0 Q2e K52 Q2O) 6 K35.B0 6):=
 Z2C (Hn:=(K35.U0 Q2e K52 Q2O)) (L:=λc=>c∈([]:List Code)) (hq (Z0 (Z0 (Z0 Z2 Q2e.ok) K52.ok) Q2O.ok) Z5 (λ_=>rfl) (λ_=>rfl)) (λb h=>by rw [K35.Q3V] at h;exact h) 6
theorem K35.eq (cK132:Q2e.T) (cK52:K52.T) (cK154:Q2O.T):EqA K35.sig (K35.H cK132 cK52 cK154) Tryz.f114 6 (K35.W (K35.gen cK132 cK52 cK154)):=by intro a x;kernel_rfl
theorem K35.loops:Z3 K35.C= [(.loop K35.B0)]:=by kernel_rfl
theorem K35.ok:NK_ 114 K35.sig (K35.W K35):=ok_ Tryz.func114 (K35.eq Q2e K52 Q2O) (hl_ (Z0 (Z0 (Z0 Z2 Q2e.ok) K52.ok) Q2O.ok) (Z4 (by kernel_rfl) K35.Q1D Z5)) K35.loops
def K14.sig:Sig U:=⟨[.ptr,.Q4H 0 23 42 8,.data .Q1x],[.obj .Q4],0,[],true,[]⟩
abbrev K14.T:Type:=(Nat)->(QX)->(Q1)->Option (Unit×(Q1×Unit)×Unit)
def K14.W (f:K14.T):K14.sig.F:=λa x=>f a.2.1 a.2.2.1 x.1
def K14.JR8:Qt U:= [(.normal,⟨48,14,[],[(13,.obj .Q4)]⟩)]
def K14.Q7c:Qt U:= [(.normal,⟨48,14,[(0,.ptr 13 0 0),(1,.Q1q 13 23 42 8 0)],[(13,.obj .Q4)]⟩)]
def K14.JC6:Qt U:= [(.normal,⟨48,14,[(0,.ptr 13 0 0),(1,.Q1q 13 23 42 8 0),(16,vb_)],[(13,.obj .Q4)]⟩)]
def K14.H (cK19:K19.T) (cK12:K12.T) (cK153:Q2a.T) (cK25:K25.T):Hints U:={ Γ:=(K25.N cK25 (Q2a.N cK153 (K12.N cK12 (Qp 121 (K19.sig.native (K19.W cK19)) noΓ)))),ro:=0,base:=14,Q2J:=jt_ [(7,K14.JR8),(8,K14.JR8)],Q29:=jt_ [(6,K14.JC6),(10,K14.Q7c)]}
def K14.gen (cK19:K19.T) (cK12:K12.T) (cK153:Q2a.T) (cK25:K25.T):K14.T:=λp parent h0=>
 (bif ieq (h0.Qu p).Q1Z 6 then (Q0 ((Q0 (cK19 p h0) none λr0=>some ((),r0.2.1))) none λr1=>some ((),(r1.2,()))) else (bif ieq (h0.Qu p).Q1Z 5 then (Q0 ((Q0 (cK12 h0) none λr2=>(Q0 (cK153 (Q2A .i64 (Q2 .i64 parent.Q2o 1) r2.1.1) (h0.Qu p).Q4Z) none λr3=>some ((),(Q1.Q1k h0 (QA h0.Qu p (Qc.Q4V (h0.Qu p) r3.2.1.1)),()))))) none λr4=>some ((),(r4.2,()))) else (bif ieq (h0.Qu p).Q1Z 8 then (Q0 ((bif !h0.Q1d.Q4J then (Q0 (cK153 1 (h0.Qu p).Q6k) none λr5=>some ((p,()),(Q1.Q1k h0 (QA h0.Qu p (Qc.Q5C (h0.Qu p) r5.2.1.1)),()))) else some ((p,()),(h0,())))) none λr6=>(Q0 (cK25 r6.2.1) none λr7=>(Q0 (cK153 r7.1.1 (r6.2.1.Qu r6.1.1).Q43) none λr8=>some ((),((Q1.Q1k r6.2.1 (QA r6.2.1.Qu r6.1.1 (Qc.Q3x (r6.2.1.Qu r6.1.1) r8.2.1.1)),()),()))))) else (Q0 ((bif ieq (h0.Qu p).Q1Z 7 then some ((p,(ieq (h0.Qu p).Q1Z 7,())),(h0,())) else some ((p,(ieq (h0.Qu p).Q1Z 4,())),(h0,())))) none λr9=>(bif r9.1.2.1 then (Q0 (cK25 r9.2.1) none λr10=>(Q0 (cK153 r10.1.1 (r9.2.1.Qu r9.1.1).Q43) none λr11=>some ((),((Q1.Q1k r9.2.1 (QA r9.2.1.Qu r9.1.1 (Qc.Q3x (r9.2.1.Qu r9.1.1) r11.2.1.1)),()),())))) else some ((),(r9.2,())))))))
def K14:K14.T:=K14.gen K19 K12 Q2a K25
theorem K14.eq (cK19:K19.T) (cK12:K12.T) (cK153:Q2a.T) (cK25:K25.T):EqA K14.sig (K14.H cK19 cK12 cK153 cK25) Tryz.f126 6 (K14.W (K14.gen cK19 cK12 cK153 cK25)):=by intro a x;kernel_rfl
theorem K14.ok:NK_ 126 K14.sig (K14.W K14):=ok_ Tryz.func126 (K14.eq K19 K12 Q2a K25) (hn_ (Z0 (Z0 (Z0 (Z0 Z2 K19.ok) K12.ok) Q2a.ok) K25.ok))
def K92.sig:Sig U:=⟨[.ptr],[.obj .QC],0,[],true,[]⟩
abbrev K92.T:Type:=(Q8)->Option (Unit×(Q8×Unit)×Unit)
def K92.W (f:K92.T):K92.sig.F:=λa x=>f x.1
def K92.H:Hints U:={ Γ:=noΓ,ro:=0,base:=14}
def K92.gen:K92.T:=λh0=>
 some ((),((Q8.Q6P h0 0,()),()))
def K92:K92.T:=K92.gen
theorem K92.ok:NK_ 127 K92.sig (K92.W K92):=ok_ (H:=K92.H) (n:=6) Tryz.func127 (by intro a x;kernel_rfl) (hn_ Z2)
def K17.sig:Sig U:=⟨[.ptr],[.obj .Q4,Q4s,Q47,Q4z,Q4y],0,[],true,[]⟩
abbrev K17.T:Type:=(Q1)->(Fm Q5)->(Fm Q6)->(Fm Q8)->(Fm Qh)->Option (Unit×(Q1×Q60)×Unit)
def K17.W (f:K17.T):K17.sig.F:=λa x=>f x.1 x.2.1 x.2.2.1 x.2.2.2.1 x.2.2.2.2.1
def K17.L0:Shape U:=⟨200,17,[(0,.ptr 13 0 0),(2,.ptr 14 0 0),(3,.ptr 15 0 0),(4,.ptr 16 0 0),(5,.asl 13 23 42 8),(30,vi_),(31,vi_)],(13,.obj .Q4)::(14,.Q5O .QE)::(15,.Qf true .Q1P)::(16,.Qf true .bool)::Q5e⟩
def K17.X0:Qt U:= [(.exit 0,⟨200,17,[(0,.ptr 13 0 0),(2,.ptr 14 0 0),(3,.ptr 15 0 0),(4,.ptr 16 0 0),(5,.asl 13 23 42 8)],(13,.obj .Q4)::(14,.Q5O .QE)::(15,.Qf true .Q1P)::(16,.Qf true .bool)::Q5e⟩)]
abbrev K17.l0T:Type:=(((Nat×Nat)×Int×Int×Unit)×(Q1×(Nat×Nat×(Nat->Qe))×(Nat×(Nat->Option (Qv)))×Q8o))->Option ((((Nat×Nat)×Unit)×(Q1×(Nat×Nat×(Nat->Qe))×(Nat×(Nat->Option (Qv)))×Q8o)))
def K17.L1:Shape U:=⟨200,16,[(0,.ptr 13 0 0),(2,.ptr 14 0 0),(5,.asl 13 23 42 8),(10,.val (.isl .int)),(12,.ptr 15 0 0),(92,.val (.isl .int)),(93,vi_),(94,vi_)],(13,.obj .Q4)::(14,.Q5O .QE)::(15,.obj .Q1x)::Q5e⟩
def K17.X1:Qt U:= [(.exit 2,⟨200,15,[(0,.ptr 13 0 0),(5,.asl 13 23 42 8),(10,.val (.isl .int)),(12,.ptr 14 0 0)],(13,.obj .Q4)::(14,.obj .Q1x)::Q5e⟩)]
abbrev K17.l1T:Type:=(((Nat×Nat)×(List (Int))×(List (Int))×Int×Int×Unit)×(Q1×(Nat×Nat×(Nat->Qe))×QX×Q60))->Option ((((Nat×Nat)×(List (Int))×Unit)×(Q1×QX×Q60)))
def K17.L2:Shape U:=⟨200,15,[(0,.ptr 13 0 0),(5,.asl 13 23 42 8),(12,.ptr 14 0 0),(15,vb_),(119,.val (.isl .int)),(120,vi_),(121,vi_)],(13,.obj .Q4)::(14,.obj .Q1x)::Q5e⟩
def K17.X2:Qt U:= [(.exit 4,⟨200,15,[(0,.ptr 13 0 0),(12,.ptr 14 0 0),(15,vb_)],(13,.obj .Q4)::(14,.obj .Q1x)::Q5e⟩)]
abbrev K17.l2T:Type:=(((Nat×Nat)×Bool×(List (Int))×Int×Int×Unit)×(Q1×QX×Q60))->Option (((Bool×Unit)×(Q1×QX×Q60)))
def K17.C:Code:=match Tryz.f98.body with|some c=>c|none=>.skip
def K17.B0:Code:=match (Z3 K17.C).getD 0 .skip with| .loop b=>b| .scope b=>b|_=>.skip
def K17.B1:Code:=match (Z3 K17.C).getD 1 .skip with| .loop b=>b| .scope b=>b|_=>.skip
def K17.B2:Code:=match (Z3 K17.C).getD 2 .skip with| .loop b=>b| .scope b=>b|_=>.skip
def K17.JR35:Qt U:= [(.normal,⟨200,15,[(0,.ptr 13 0 0),(12,.ptr 14 0 0)],(13,.obj .Q4)::(14,.obj .Q1x)::Q5e⟩)]
def K17.JR31:Qt U:= [(.normal,⟨200,15,[(0,.ptr 13 0 0),(5,.asl 13 23 42 8),(12,.ptr 14 0 0),(15,vb_),(18,.Q1q 13 23 42 8 0),(119,.val (.isl .int)),(120,vi_),(121,vi_)],(13,.obj .Q4)::(14,.obj .Q1x)::Q5e⟩)]
def K17.JR29:Qt U:= [(.normal,⟨200,15,[(0,.ptr 13 0 0),(5,.asl 13 23 42 8),(12,.ptr 14 0 0),(15,vb_),(17,vi_),(18,.Q1q 13 23 42 8 0),(19,vi_),(119,.val (.isl .int)),(120,vi_),(121,vi_)],(13,.obj .Q4)::(14,.obj .Q1x)::Q5e⟩)]
def K17.Q7U:Qt U:= [(.normal,⟨200,16,[(0,.ptr 13 0 0),(2,.ptr 14 0 0),(5,.asl 13 23 42 8),(10,.val (.isl .int)),(12,.ptr 15 0 0)],(13,.obj .Q4)::(14,.Q5O .QE)::(15,.obj .Q1x)::Q5e⟩)]
def K17.Q8p:Qt U:= [(.normal,⟨200,17,[(0,.ptr 13 0 0),(2,.ptr 14 0 0),(3,.ptr 15 0 0),(4,.ptr 16 0 0),(5,.asl 13 23 42 8),(6,vi_),(9,vb_),(30,vi_),(31,vi_)],(13,.obj .Q4)::(14,.Q5O .QE)::(15,.Qf true .Q1P)::(16,.Qf true .bool)::Q5e⟩)]
def K17.JR9:Qt U:= [(.normal,⟨200,18,[(0,.ptr 13 0 0),(2,.ptr 14 0 0),(3,.ptr 15 0 0),(4,.ptr 16 0 0),(5,.asl 13 23 42 8),(6,vi_),(7,.Q1q 13 23 42 8 0),(8,.ptr 17 0 0),(9,vb_),(30,vi_),(31,vi_)],(13,.obj .Q4)::(14,.Q5O .QE)::(15,.Qf true .Q1P)::(16,.Qf true .bool)::(17,.obj .QE)::Q5e⟩)]
def K17.JC31:Qt U:= [(.normal,⟨200,15,[(0,.ptr 13 0 0),(5,.asl 13 23 42 8),(12,.ptr 14 0 0),(15,vb_),(119,.val (.isl .int)),(120,vi_),(121,vi_)],(13,.obj .Q4)::(14,.obj .Q1x)::Q5e⟩)]
def K17.JC20:Qt U:= [(.normal,⟨200,16,[(0,.ptr 13 0 0),(2,.ptr 14 0 0),(5,.asl 13 23 42 8),(10,.val (.isl .int)),(12,.ptr 15 0 0),(92,.val (.isl .int)),(93,vi_),(94,vi_)],(13,.obj .Q4)::(14,.Q5O .QE)::(15,.obj .Q1x)::Q5e⟩)]
def K17.JC12:Qt U:= [(.normal,⟨200,17,[(0,.ptr 13 0 0),(2,.ptr 14 0 0),(3,.ptr 15 0 0),(4,.ptr 16 0 0),(5,.asl 13 23 42 8),(30,vi_),(31,vi_)],(13,.obj .Q4)::(14,.Q5O .QE)::(15,.Qf true .Q1P)::(16,.Qf true .bool)::Q5e⟩)]
def K17.H (cK122:Q1N.T) (cK59:K59.T) (cK45:K45.T) (cK49:K49.T) (cK174:Q1X.T) (cK173:Q2P.T) (cK123:Q2z.T) (cK35:K35.T) (cK14:K14.T) (cK92:K92.T) (l0:K17.l0T) (l1:K17.l1T) (l2:K17.l2T):Hints U:={ Γ:=(Qp 127 (K92.sig.native (K92.W cK92)) (Qp 126 (K14.sig.native (K14.W cK14)) (Qp 114 (K35.sig.native (K35.W cK35)) (Qp 125 (Q2z.sig.native (Q2z.W cK123)) (Qp 124 (Q2P.sig.native (Q2P.W cK173)) (Q1X.N cK174 (Qp 123 (K49.sig.native (K49.W cK49)) (Qp 31 (K45.sig.native (K45.W cK45)) (Qp 122 (K59.sig.native (K59.W cK59)) (Q1N.N cK122 (Qp 3000000219 Z1e (Qp 4000000205 Z1e (Qp 3000000097 Z1e noΓ))))))))))))),ro:=0,base:=14,Q1T:=jt_ [(30,[(171,vb_)])],Q2J:=jt_ [(9,K17.JR9),(10,K17.Q8p),(15,K17.Q7U),(29,K17.JR29),(31,K17.JR31),(35,K17.JR35)],Q29:=jt_ [(12,K17.JC12),(20,K17.JC20),(31,K17.JC31),(35,K17.JR35)],loop:=jt_ [(5,(Z6 (0,14) K17.L0 K17.X0 l0)),(17,(Z6 (0,14) K17.L1 K17.X1 l1)),(24,(Z6 (0,14) K17.L2 K17.X2 l2))]}
def K17.Q5x (cK122:Q1N.T) (cK59:K59.T) (cK45:K45.T) (cK49:K49.T) (cK174:Q1X.T) (cK173:Q2P.T) (cK123:Q2z.T) (cK35:K35.T) (cK14:K14.T) (cK92:K92.T) (a:((Nat×Nat)×Bool×(List (Int))×Int×Int×Unit)×(Q1×QX×Q60)):Option ((((Nat×Nat)×Bool×(List (Int))×Int×Int×Unit)×(Q1×QX×Q60))⊕(((Bool×Unit)×(Q1×QX×Q60)))):=
 (bif ilt a.1.2.2.2.2.1 a.1.2.2.2.1 then (bif inR a.1.2.2.2.2.1 (List.length a.1.2.2.1) then (bif inR a.1.2.2.2.2.1 a.1.1.2 then (Q0 (cK122 (a.2.1.Qu (a.1.1.1+Int.toNat a.1.2.2.2.2.1)).Q1Z) none λr0=>(bif !r0.1.1 then some (.inl ((a.1.1,(a.1.2.1,(a.1.2.2.1,(a.1.2.2.2.1,(Q2 .i64 a.1.2.2.2.2.1 1,()))))),a.2)) else (Q0 ((Q0 (cK123 (a.2.1.Qu (a.1.1.1+Int.toNat a.1.2.2.2.2.1)).Q1Z (List.getD a.1.2.2.1 (Int.toNat a.1.2.2.2.2.1) (0:D UC.int)) a.1.2.1 a.2.1.Q1d.Q3u) none λr1=>some ((a.1.1,(a.1.2.1,(List.getD a.1.2.2.1 (Int.toNat a.1.2.2.2.2.1) (0:D UC.int),(a.1.1.1+Int.toNat a.1.2.2.2.2.1,((a.2.1.Qu (a.1.1.1+Int.toNat a.1.2.2.2.2.1)).Q1Z,a.1.2.2))))),(Q1.Q1k a.2.1 (QA a.2.1.Qu (a.1.1.1+Int.toNat a.1.2.2.2.2.1) (Qc.Q3v (a.2.1.Qu (a.1.1.1+Int.toNat a.1.2.2.2.2.1)) r1.1.1)),a.2.2)))) none λr2=>(Q0 ((bif ine (r2.2.1.Qu r2.1.2.2.2.1).Q1Z r2.1.2.2.2.2.1 then some (true,()) else (bif ieq (r2.2.1.Qu r2.1.2.2.2.1).Q1Z 8 then (bif ieq r2.1.2.2.1 6 then some (!r2.1.2.1,()) else some (false,())) else some (false,())))) none λr3=>(Q0 ((bif r3.1 then (Q0 ((Q0 (cK35 (!r2.2.1.Q1d.Q4J) (r2.2.1.Qu r2.1.2.2.2.1) r2.2.2.2.2.1 r2.2.2.2.2.2.2.1) none λr4=>some ((r2.1.1,(r2.1.2.1,(r2.1.2.2.2.1,r2.1.2.2.2.2.2))),(Q1.Q1k r2.2.1 (QA r2.2.1.Qu r2.1.2.2.2.1 r4.2.1.1),(r2.2.2.1,(r2.2.2.2.1,(r4.2.1.2.1,(r2.2.2.2.2.2.1,r4.2.1.2.2)))))))) none λr5=>(Q0 (cK14 r5.1.2.2.1 r5.2.2.1 r5.2.1) none λr6=>some ((r5.1.1,(r5.1.2.1,r5.1.2.2.2)),(r6.2.1.1,r5.2.2)))) else some ((r2.1.1,(r2.1.2.1,r2.1.2.2.2.2.2)),r2.2))) none λr7=>some (.inl ((r7.1.1,(r7.1.2.1,(r7.1.2.2.1,(r7.1.2.2.2.1,(Q2 .i64 r7.1.2.2.2.2.1 1,()))))),r7.2))))))) else none) else none) else some (.inr ((a.1.2.1,()),a.2)))
def K17.F2:K17.l2T:=λa=>Z8 (1000000+(a.1.1.2+a.1.2.2.1.length)) (K17.Q5x Q1N K59 K45 K49 Q1X Q2P Q2z K35 K14 K92) a
def K17.Q2n (cK122:Q1N.T) (cK59:K59.T) (cK45:K45.T) (cK49:K49.T) (cK174:Q1X.T) (cK173:Q2P.T) (cK123:Q2z.T) (cK35:K35.T) (cK14:K14.T) (cK92:K92.T) (a:((Nat×Nat)×(List (Int))×(List (Int))×Int×Int×Unit)×(Q1×(Nat×Nat×(Nat->Qe))×QX×Q60)):Option ((((Nat×Nat)×(List (Int))×(List (Int))×Int×Int×Unit)×(Q1×(Nat×Nat×(Nat->Qe))×QX×Q60))⊕((((Nat×Nat)×(List (Int))×Unit)×(Q1×QX×Q60)))):=
 (bif ilt a.1.2.2.2.2.1 a.1.2.2.2.1 then (bif inR a.1.2.2.2.2.1 (List.length a.1.2.2.1) then (Q0 ((bif ieq (List.getD a.1.2.2.1 (Int.toNat a.1.2.2.2.2.1) (0:D UC.int)) 6 then (bif bif inR a.1.2.2.2.2.1 8 then inR a.1.2.2.2.2.1 a.2.2.1.1 else false then (bif bif inR a.1.2.2.2.2.1 8 then inR a.1.2.2.2.2.1 a.2.2.1.1 else false then (Q0 (cK173 (a.2.2.1.2.2 (Int.toNat a.1.2.2.2.2.1)).Q3b (a.2.2.1.2.2 (Int.toNat a.1.2.2.2.2.1)).Q2q) none λr0=>some (a.1,(a.2.1,(a.2.2.1,(r0.1.1,a.2.2.2.2))))) else none) else none) else some a)) none λr1=>some (.inl ((r1.1.1,(r1.1.2.1,(r1.1.2.2.1,(r1.1.2.2.2.1,(Q2 .i64 r1.1.2.2.2.2.1 1,()))))),r1.2))) else none) else some (.inr ((a.1.1,(a.1.2.1,())),(a.2.1,a.2.2.2))))
def K17.F1:K17.l1T:=λa=>Z8 (1000000+(a.1.1.2+a.1.2.1.length+a.1.2.2.1.length)) (K17.Q2n Q1N K59 K45 K49 Q1X Q2P Q2z K35 K14 K92) a
def K17.QW (cK122:Q1N.T) (cK59:K59.T) (cK45:K45.T) (cK49:K49.T) (cK174:Q1X.T) (cK173:Q2P.T) (cK123:Q2z.T) (cK35:K35.T) (cK14:K14.T) (cK92:K92.T) (a:((Nat×Nat)×Int×Int×Unit)×(Q1×(Nat×Nat×(Nat->Qe))×(Nat×(Nat->Option (Qv)))×Q8o)):Option ((((Nat×Nat)×Int×Int×Unit)×(Q1×(Nat×Nat×(Nat->Qe))×(Nat×(Nat->Option (Qv)))×Q8o))⊕((((Nat×Nat)×Unit)×(Q1×(Nat×Nat×(Nat->Qe))×(Nat×(Nat->Option (Qv)))×Q8o)))):=
 (bif ilt a.1.2.2.1 a.1.2.1 then (bif inR a.1.2.2.1 a.1.1.2 then (Q0 (cK122 (a.2.1.Qu (a.1.1.1+Int.toNat a.1.2.2.1)).Q1Z) none λr0=>(bif !r0.1.1 then some (.inl ((a.1.1,(a.1.2.1,(Q2 .i64 a.1.2.2.1 1,()))),a.2)) else (Q0 ((Q0 ((a.2.1.Qu (a.1.1.1+Int.toNat a.1.2.2.1)).2) none λr1=>(Q0 (cK59 a.2.1.Q61 (a.2.2.2.2.2.1.2 r1)) none λr2=>some ((a.1.1,(a.1.2.2.1,(a.1.1.1+Int.toNat a.1.2.2.1,(r2.1.2.1,a.1.2)))),(a.2.1,(a.2.2.1,(a.2.2.2.1,(a.2.2.2.2.1,(r2.1.1,a.2.2.2.2.2))))))))) none λr3=>(Q0 ((bif bif inR r3.1.2.1 8 then inR r3.1.2.1 r3.2.2.1.1 else false then (bif Nat.ble r3.2.2.1.2.1 (Int.toNat r3.1.2.1) then (bif bif inR r3.1.2.1 8 then inR r3.1.2.1 r3.2.2.2.2.1.1 else false then some ((r3.1.1,(r3.1.2.1,r3.1.2.2.2)),(r3.2.1,((r3.2.2.1.1,(r3.2.2.1.2.1,QA r3.2.2.1.2.2 (Int.toNat r3.1.2.1) r3.2.2.2.2.2.1)),(r3.2.2.2.1,((r3.2.2.2.2.1.1,QA r3.2.2.2.2.1.2 (Int.toNat r3.1.2.1) (ieq (r3.2.1.Qu r3.1.2.2.1).Q1Z 4)),r3.2.2.2.2.2.2))))) else none) else none) else none)) none λr4=>(Q0 ((bif r4.1.2.2.1 then (bif bif inR r4.1.2.1 8 then inR r4.1.2.1 r4.2.2.1.1 else false then (bif bif inR r4.1.2.1 8 then inR r4.1.2.1 r4.2.2.2.1.1 else false then some ((r4.1.1,r4.1.2.2.2),(r4.2.1,((r4.2.2.1.1,(Nat.max r4.2.2.1.2.1 (Int.toNat r4.1.2.1+1),r4.2.2.1.2.2)),((r4.2.2.2.1.1,QA r4.2.2.2.1.2 (Int.toNat r4.1.2.1) (some (r4.2.2.1.2.2 (Int.toNat r4.1.2.1)).Q3b)),r4.2.2.2.2)))) else none) else none) else some ((r4.1.1,r4.1.2.2.2),r4.2))) none λr5=>some (.inl ((r5.1.1,(r5.1.2.1,(Q2 .i64 r5.1.2.2.1 1,()))),r5.2))))))) else none) else some (.inr ((a.1.1,()),a.2)))
def K17.F0:K17.l0T:=λa=>Z8 (1000000+(a.1.1.2)) (K17.QW Q1N K59 K45 K49 Q1X Q2P Q2z K35 K14 K92) a
def K17.gen (cK122:Q1N.T) (cK59:K59.T) (cK45:K45.T) (cK49:K49.T) (cK174:Q1X.T) (cK173:Q2P.T) (cK123:Q2z.T) (cK35:K35.T) (cK14:K14.T) (cK92:K92.T) (l0:K17.l0T) (l1:K17.l1T) (l2:K17.l2T):K17.T:=λh0 g2 g3 g5 g6=>
 (bif le3 (ofN 0) h0.Q1d.Q2Z 8 then (Q0 (l0 (((Int.toNat (ofN 0),Int.toNat h0.Q1d.Q2Z - Int.toNat (ofN 0)),ofN (Int.toNat h0.Q1d.Q2Z - Int.toNat (ofN 0)),(0:Int),()),h0,(8,0,λ(j:Nat)=>List.getD (Qe.mk z5_ z6_ 0 0 0::Qe.mk z5_ z6_ 0 0 0::Qe.mk z5_ z6_ 0 0 0::Qe.mk z5_ z6_ 0 0 0::Qe.mk z5_ z6_ 0 0 0::Qe.mk z5_ z6_ 0 0 0::Qe.mk z5_ z6_ 0 0 0::Qe.mk z5_ z6_ 0 0 0::QG Qe) j Qe.zero),(8,λ(j:Nat)=>List.getD (none::none::none::none::none::none::none::none::QG (Option Qv)) j none),(8,λ(j:Nat)=>List.getD (false::false::false::false::false::false::false::false::QG Bool) j false),g2,g3,g5,g6,())) none λr0=>(Q0 (cK45 r0.2.1.Q1d) none λr1=>(bif bif le3 0 (ofN r0.1.1.2) 8 then le3 0 (ofN r0.1.1.2) r0.2.2.2.2.1.1 else false then (bif bif le3 0 (ofN r0.1.1.2) 8 then le3 0 (ofN r0.1.1.2) r0.2.2.2.1.1 else false then (Q0 (cK49 r1.1.1 (List.map r0.2.2.2.2.1.2 (List.range (Int.toNat (ofN r0.1.1.2)))) (List.map r0.2.2.2.1.2 (List.range (Int.toNat (ofN r0.1.1.2))))) none λr2=>(Q0 ((Q0 (cK174 r0.2.1.Q1d) none λr3=>some ((r0.1.1,(r2.1.1,())),(r0.2.1,(r0.2.2.1,(r3.1.1,r0.2.2.2.2.2)))))) none λr4=>(Q0 (l1 ((r4.1.1,r4.1.2.1,r4.1.2.1,ofN (List.length r4.1.2.1),(0:Int),()),r4.2)) none λr5=>(Q0 (l2 ((r5.1.1,bif ieq r5.2.2.1.Q18.QO r5.2.1.Q2I.Q18.QO then bif ieq r5.2.2.1.Q18.Q18 r5.2.1.Q2I.Q18.Q18 then true else false else false,r5.1.2.1,ofN (List.length r5.1.2.1),(0:Int),()),r5.2)) none λr6=>(Q0 ((bif !r6.1.1 then (Q0 ((Q0 (r6.2.1.6) none λr7=>(Q0 (cK92 (r6.2.2.2.2.2.1.2 r7)) none λr8=>some ((),(r6.2.1,(r6.2.2.1,(r6.2.2.2.1,(r6.2.2.2.2.1,((r6.2.2.2.2.2.1.1,QA r6.2.2.2.2.2.1.2 r7 r8.2.1.1),r6.2.2.2.2.2.2))))))))) none λr9=>some ((),(Q1.Q6J r9.2.1 z4_,r9.2.2))) else some ((),r6.2))) none λr10=>some ((),((Q1.Q79 r10.2.1 r10.2.2.1,r10.2.2.2),()))))))) else none) else none))) else none)
def K17:K17.T:=K17.gen Q1N K59 K45 K49 Q1X Q2P Q2z K35 K14 K92 K17.F0 K17.F1 K17.F2
theorem K17.Q7m (cK122:Q1N.T) (cK59:K59.T) (cK45:K45.T) (cK49:K49.T) (cK174:Q1X.T) (cK173:Q2P.T) (cK123:Q2z.T) (cK35:K35.T) (cK14:K14.T) (cK92:K92.T) (l0:K17.l0T) (l1:K17.l1T) (l2:K17.l2T) (a:K17.L2.T):run Tryz.prog (K17.H cK122 cK59 cK45 cK49 cK174 cK173 cK123 cK35 cK14 cK92 l0 l1 l2) 6 (Option (K17.L2.T⊕ExT K17.X2)) none K17.B2 (K17.L2.enc a) (Zc (0,14) K17.L2 K17.X2)=K17.Q5x cK122 cK59 cK45 cK49 cK174 cK173 cK123 cK35 cK14 cK92 a:=by kernel_rfl
abbrev K17.h:=K17.H Q1N K59 K45 K49 Q1X Q2P Q2z K35 K14 K92 K17.F0 K17.F1 K17.F2
theorem K17.Q6I:LO_ K17.h K17.B2 (Z6 (0,14) K17.L2 K17.X2 K17.F2):=lk_ (hn_ (Z0 (Z0 (Z0 (Z0 (Z0 (Z0 (Z0 (Z0 (Z0 (Z0 (Z0 (Z0 (Z0 Z2 Zd) Zd) Zd) Q1N.ok) K59.ok) K45.ok) K49.ok) Q1X.ok) Q2P.ok) Q2z.ok) K35.ok) K14.ok) K92.ok)) (K17.Q7m Q1N K59 K45 K49 Q1X Q2P Q2z K35 K14 K92 K17.F0 K17.F1 K17.F2)
theorem K17.seq1 (cK122:Q1N.T) (cK59:K59.T) (cK45:K45.T) (cK49:K49.T) (cK174:Q1X.T) (cK173:Q2P.T) (cK123:Q2z.T) (cK35:K35.T) (cK14:K14.T) (cK92:K92.T) (l0:K17.l0T) (l1:K17.l1T) (l2:K17.l2T) (a:K17.L1.T):run Tryz.prog (K17.H cK122 cK59 cK45 cK49 cK174 cK173 cK123 cK35 cK14 cK92 l0 l1 l2) 6 (Option (K17.L1.T⊕ExT K17.X1)) none K17.B1 (K17.L1.enc a) (Zc (0,14) K17.L1 K17.X1)=K17.Q2n cK122 cK59 cK45 cK49 cK174 cK173 cK123 cK35 cK14 cK92 a:=by kernel_rfl
theorem K17.Q3z:LO_ K17.h K17.B1 (Z6 (0,14) K17.L1 K17.X1 K17.F1):=lk_ (hn_ (Z0 (Z0 (Z0 (Z0 (Z0 (Z0 (Z0 (Z0 (Z0 (Z0 (Z0 (Z0 (Z0 Z2 Zd) Zd) Zd) Q1N.ok) K59.ok) K45.ok) K49.ok) Q1X.ok) Q2P.ok) Q2z.ok) K35.ok) K14.ok) K92.ok)) (K17.seq1 Q1N K59 K45 K49 Q1X Q2P Q2z K35 K14 K92 K17.F0 K17.F1 K17.F2)
theorem K17.Q1O (cK122:Q1N.T) (cK59:K59.T) (cK45:K45.T) (cK49:K49.T) (cK174:Q1X.T) (cK173:Q2P.T) (cK123:Q2z.T) (cK35:K35.T) (cK14:K14.T) (cK92:K92.T) (l0:K17.l0T) (l1:K17.l1T) (l2:K17.l2T) (a:K17.L0.T):run Tryz.prog (K17.H cK122 cK59 cK45 cK49 cK174 cK173 cK123 cK35 cK14 cK92 l0 l1 l2) 6 (Option (K17.L0.T⊕ExT K17.X0)) none K17.B0 (K17.L0.enc a) (Zc (0,14) K17.L0 K17.X0)=K17.QW cK122 cK59 cK45 cK49 cK174 cK173 cK123 cK35 cK14 cK92 a:=by kernel_rfl
theorem K17.Q1D:LO_ K17.h K17.B0 (Z6 (0,14) K17.L0 K17.X0 K17.F0):=lk_ (hn_ (Z0 (Z0 (Z0 (Z0 (Z0 (Z0 (Z0 (Z0 (Z0 (Z0 (Z0 (Z0 (Z0 Z2 Zd) Zd) Zd) Q1N.ok) K59.ok) K45.ok) K49.ok) Q1X.ok) Q2P.ok) Q2z.ok) K35.ok) K14.ok) K92.ok)) (K17.Q1O Q1N K59 K45 K49 Q1X Q2P Q2z K35 K14 K92 K17.F0 K17.F1 K17.F2)
theorem K17.eq (cK122:Q1N.T) (cK59:K59.T) (cK45:K45.T) (cK49:K49.T) (cK174:Q1X.T) (cK173:Q2P.T) (cK123:Q2z.T) (cK35:K35.T) (cK14:K14.T) (cK92:K92.T) (l0:K17.l0T) (l1:K17.l1T) (l2:K17.l2T):EqA K17.sig (K17.H cK122 cK59 cK45 cK49 cK174 cK173 cK123 cK35 cK14 cK92 l0 l1 l2) Tryz.f98 6 (K17.W (K17.gen cK122 cK59 cK45 cK49 cK174 cK173 cK123 cK35 cK14 cK92 l0 l1 l2)):=by intro a x;kernel_rfl
theorem K17.loops:Z3 K17.C= [(.loop K17.B0),(.loop K17.B1),(.loop K17.B2)]:=by kernel_rfl
theorem K17.ok:NK_ 98 K17.sig (K17.W K17):=ok_ Tryz.func98 (K17.eq Q1N K59 K45 K49 Q1X Q2P Q2z K35 K14 K92 K17.F0 K17.F1 K17.F2) (hl_ (Z0 (Z0 (Z0 (Z0 (Z0 (Z0 (Z0 (Z0 (Z0 (Z0 (Z0 (Z0 (Z0 Z2 Zd) Zd) Zd) Q1N.ok) K59.ok) K45.ok) K49.ok) Q1X.ok) Q2P.ok) Q2z.ok) K35.ok) K14.ok) K92.ok) (Z4 (by kernel_rfl) K17.Q1D (Z4 (by kernel_rfl) K17.Q3z (Z4 (by kernel_rfl) K17.Q6I Z5)))) K17.loops
def Q4j.sig:Sig U:=⟨[.data .Q11,.data .Q1x,.int .i64,.int .i64],[],0,[.data .QJ],false,[]⟩
abbrev Q4j.T:Type:=(Qb)->(QX)->(Int)->(Int)->Option ((Qg×Unit)×Unit×Unit)
def Q4j.W (f:Q4j.T):Q4j.sig.F:=λa x=>f a.1 a.2.1 a.2.2.1 a.2.2.2.1
def Q4j.H:Hints U:={ Γ:=noΓ,ro:=0,base:=13}
def Q4j.gen:Q4j.T:=λc p port seq=>
 some ((Qg.mk 11 c.Q2i p.Q2q.Q2H 0 (Q9.mk c.QO port) seq c.Q2j 0 z0_ p.Q2q.Q4e p.Q1y p.QY p.Q1C p.Q3g p.Q2o p.Q2q.Q2F 0 0 0,()),((),()))
def Q4j:Q4j.T:=Q4j.gen
theorem Q4j.ok:NK_ 128 Q4j.sig (Q4j.W Q4j):=ok_ (H:=Q4j.H) (n:=6) Tryz.func128 (by intro a x;kernel_rfl) (hn_ Z2)
def K98.sig:Sig U:=⟨[.isl .u8,.int .i64,.int .i64],[],0,[.own .u8],false,[.tok]⟩
abbrev K98.T:Type:=(List (UInt8))->(Int)->(Int)->Option (((List (UInt8))×Unit)×Unit×(Unit×Unit))
def K98.W (f:K98.T):K98.sig.F:=λa x=>f a.1 a.2.1 a.2.2.1
abbrev K98.N (c:K98.T):=Qp 207 (K98.sig.native (K98.W c))
def K98.L0:Shape U:=⟨30,14,[(0,.own .u8 13),(1,vi_),(7,vi_)],[(13,.tok)]⟩
def K98.X0:Qt U:= [(.ret,⟨30,14,[(6,.own .u8 13)],[(13,.tok)]⟩)]
abbrev K98.l0T:Type:=(((List (UInt8))×Int×Int×Unit)×Unit)->Option ((((List (UInt8))×Unit)×Unit))
def K98.C:Code:=match Tryz.f207.body with|some c=>c|none=>.skip
def K98.B0:Code:=match (Z3 K98.C).getD 0 .skip with| .loop b=>b| .scope b=>b|_=>.skip
def K98.R0:Code:=(findLabel K98.B0 0).getD .skip
def K98.H (l0:K98.l0T):Hints U:={ Γ:=(Qp 6000000029 Z1e noΓ),ro:=0,base:=13,label:=λb=>bif Nat.beq b 0 then some (Z6 (0,13) K98.L0 K98.X0 l0) else none,gotos:=3,loop:=λb=>none}
def K98.QW (a:((List (UInt8))×Int×Int×Unit)×Unit):Option ((((List (UInt8))×Int×Int×Unit)×Unit)⊕((((List (UInt8))×Unit)×Unit))):=
 (bif ilt 0 a.1.2.2.1 then (bif ile 0 (Q2A .i64 8 (Q1e .i64 a.1.2.2.1 1)) then (bif room (List.length a.1.1+List.length (UInt8.ofNat (Int.toNat (IntKind.wrap .u8 (Q5M .i64 a.1.2.1 (Q2A .i64 8 (Q1e .i64 a.1.2.2.1 1)))))::QG UInt8)) 1 then some (.inl ((a.1.1++UInt8.ofNat (Int.toNat (IntKind.wrap .u8 (Q5M .i64 a.1.2.1 (Q2A .i64 8 (Q1e .i64 a.1.2.2.1 1)))))::QG UInt8,(a.1.2.1,(Q1e .i64 a.1.2.2.1 1,()))),())) else none) else none) else some (.inr ((a.1.1,()),())))
def K98.F0:K98.l0T:=λa=>Z8 (1000000+(a.1.1.length)) (K98.QW) a
def K98.gen (l0:K98.l0T):K98.T:=λb v n=>
 (bif bif le3 (ofN 0) (ofN (List.length b)) (List.length b) then ieq (ofN (List.length b)) (ofN (List.length b)) else false then (bif ilt 0 (Z7 true 0 (Z7 false n 8)) then (bif ile 0 (Q2A .i64 8 (Q1e .i64 (Z7 true 0 (Z7 false n 8)) 1)) then (bif room (List.length (List.drop (Int.toNat (ofN 0)) (List.take (Int.toNat (ofN (List.length b))) b))+List.length (UInt8.ofNat (Int.toNat (IntKind.wrap .u8 (Q5M .i64 v (Q2A .i64 8 (Q1e .i64 (Z7 true 0 (Z7 false n 8)) 1)))))::QG UInt8)) 1 then (Q0 (l0 ((List.drop (Int.toNat (ofN 0)) (List.take (Int.toNat (ofN (List.length b))) b)++UInt8.ofNat (Int.toNat (IntKind.wrap .u8 (Q5M .i64 v (Q2A .i64 8 (Q1e .i64 (Z7 true 0 (Z7 false n 8)) 1)))))::QG UInt8,v,Q1e .i64 (Z7 true 0 (Z7 false n 8)) 1,()),())) none λr0=>some (r0.1,((),((),())))) else none) else none) else some ((List.drop (Int.toNat (ofN 0)) (List.take (Int.toNat (ofN (List.length b))) b),()),((),((),())))) else none)
def K98:K98.T:=K98.gen K98.F0
theorem K98.Q1O (l0:K98.l0T) (a:K98.L0.T):run Tryz.prog (K98.H l0) 6 (Option (K98.L0.T⊕ExT K98.X0)) none K98.R0 (K98.L0.enc a) (Z2v (0,13) 0 K98.L0 K98.X0)=K98.QW a:=by kernel_rfl
theorem K98.Q3V:Z3 K98.R0=([]:List Code):=by kernel_rfl
abbrev K98.h:=K98.H K98.F0
theorem K98.Q1D:ZR U Tryz.prog K98.h.ro K98.h.base K98.B0 K98.R0 (Z6 (0,13) K98.L0 K98.X0 K98.F0):=
 Z4H (Hn:=K98.h) (lb:=0) Q3X Q2t (ZY (ZB Q3X Q2t mixed (Z0 Z2 Zd) Z5 Z14 (Z1l λ_=>rfl)) 6) (by kernel_rfl) (λb h=>by rw [K98.Q3V] at h;exact h) (λ_=>rfl) (K98.Q1O K98.F0)
theorem K98.eq (l0:K98.l0T):EqA K98.sig (K98.H l0) Tryz.f207 6 (K98.W (K98.gen l0)):=by intro a x;kernel_rfl
theorem K98.loops:Z3 K98.C= [(.scope K98.B0)]:=by kernel_rfl
theorem K98.hints:Q3c U Tryz.prog K98.h (λc=>c∈ [(.scope K98.B0)]):=(ZB Q3X Q2t mixed (Z0 Z2 Zd) (Zt Z5) (Z3k (Z4B (r0:=K98.R0) (l0:=0) (by kernel_rfl) (λ_=>rfl) K98.Q1D) Z14) (Z1l λ_=>rfl))
theorem K98.ok:Zi U Tryz.prog 207 (K98.sig.native (K98.W K98)):=
 Sig.ok K98.sig (K98.W K98) Q2t (Hn:=K98.h) (code:=K98.C) (gos:=6) K98.hints Tryz.func207 (by kernel_rfl) (by kernel_rfl) (λb h=>by rw [K98.loops] at h;exact h) rfl rfl (by decide) (K98.eq K98.F0) (by decide)
def K99.sig:Sig U:=⟨[.isl .u8,.int .u64],[],0,[.isl .u8],false,[]⟩
abbrev K99.T:Type:=(List (UInt8))->(Int)->Option (((List (UInt8))×Unit)×Unit×Unit)
def K99.W (f:K99.T):K99.sig.F:=λa x=>f a.1 a.2.1
abbrev K99.N (c:K99.T):=Qp 193 (K99.sig.native (K99.W c))
def K99.H (cK98:K98.T):Hints U:={ Γ:=(K98.N cK98 noΓ),ro:=0,base:=13}
def K99.gen (cK98:K98.T):K99.T:=λb v=>
 (Q0 (cK98 b (IntKind.wrap .i64 v) 8) none λr0=>some (r0.1,((),())))
def K99:K99.T:=K99.gen K98
theorem K99.eq (cK98:K98.T):EqA K99.sig (K99.H cK98) Tryz.f193 6 (K99.W (K99.gen cK98)):=by intro a x;kernel_rfl
theorem K99.ok:NK_ 193 K99.sig (K99.W K99):=ok_ Tryz.func193 (K99.eq K98) (hn_ (Z0 Z2 K98.ok))
def Q1A.sig:Sig U:=⟨[.isl .u64],[],0,[.data .Q1m,.bool],true,[]⟩
abbrev Q1A.T:Type:=(List (Int))->Option ((QL×Bool×Unit)×Unit×Unit)
def Q1A.W (f:Q1A.T):Q1A.sig.F:=λa x=>f a.1
def Q1A.L0:Shape U:=⟨24,14,[(2,.ptr 13 0 0),(4,.val (.isl .u8)),(11,.val (.isl .u64)),(12,vi_),(13,vi_)],[(13,.obj .Q1m)]⟩
def Q1A.X0:Qt U:= [(.exit 0,⟨24,14,[(2,.ptr 13 0 0),(4,.val (.isl .u8))],[(13,.obj .Q1m)]⟩)]
abbrev Q1A.l0T:Type:=(((List (UInt8))×(List (Int))×Int×Int×Unit)×(QL×Unit))->Option ((((List (UInt8))×Unit)×(QL×Unit)))
def Q1A.C:Code:=match Tryz.f163.body with|some c=>c|none=>.skip
def Q1A.B0:Code:=match (Z3 Q1A.C).getD 0 .skip with| .loop b=>b| .scope b=>b|_=>.skip
def Q1A.H (cK99:K99.T) (l0:Q1A.l0T):Hints U:={ Γ:=(K99.N cK99 noΓ),ro:=0,base:=13,loop:=jt_ [(5,(Z6 (0,13) Q1A.L0 Q1A.X0 l0))]}
def Q1A.QW (cK99:K99.T) (a:((List (UInt8))×(List (Int))×Int×Int×Unit)×(QL×Unit)):Option ((((List (UInt8))×(List (Int))×Int×Int×Unit)×(QL×Unit))⊕((((List (UInt8))×Unit)×(QL×Unit)))):=
 (bif ilt a.1.2.2.2.1 a.1.2.2.1 then (bif inR a.1.2.2.2.1 (List.length a.1.2.1) then (Q0 (cK99 a.1.1 (List.getD a.1.2.1 (Int.toNat a.1.2.2.2.1) (0:D UC.u64))) none λr0=>some (.inl ((r0.1.1,(a.1.2.1,(a.1.2.2.1,(Q2 .i64 a.1.2.2.2.1 1,())))),a.2))) else none) else some (.inr ((a.1.1,()),a.2)))
def Q1A.F0:Q1A.l0T:=λa=>Z8 (1000000+(a.1.1.length+a.1.2.1.length)) (Q1A.QW K99) a
def Q1A.gen (cK99:K99.T) (l0:Q1A.l0T):Q1A.T:=λl=>
 (bif ilt 16 (ofN (List.length l)) then some ((QL.mk 0 (ByteArray.mk (List.toArray (QG UInt8))),(false,())),((),())) else (Q0 (l0 ((QG UInt8,l,ofN (List.length l),(0:Int),()),QL.mk 0 (ByteArray.mk (List.toArray (QG UInt8))),())) none λr0=>some ((QL.mk 8 (ByteArray.mk (List.toArray r0.1.1)),(true,())),((),()))))
def Q1A:Q1A.T:=Q1A.gen K99 Q1A.F0
theorem Q1A.Q1O (cK99:K99.T) (l0:Q1A.l0T) (a:Q1A.L0.T):run Tryz.prog (Q1A.H cK99 l0) 6 (Option (Q1A.L0.T⊕ExT Q1A.X0)) none Q1A.B0 (Q1A.L0.enc a) (Zc (0,13) Q1A.L0 Q1A.X0)=Q1A.QW cK99 a:=by kernel_rfl
abbrev Q1A.h:=Q1A.H K99 Q1A.F0
theorem Q1A.Q1D:LO_ Q1A.h Q1A.B0 (Z6 (0,13) Q1A.L0 Q1A.X0 Q1A.F0):=lk_ (hn_ (Z0 Z2 K99.ok)) (Q1A.Q1O K99 Q1A.F0)
theorem Q1A.eq (cK99:K99.T) (l0:Q1A.l0T):EqA Q1A.sig (Q1A.H cK99 l0) Tryz.f163 6 (Q1A.W (Q1A.gen cK99 l0)):=by intro a x;kernel_rfl
theorem Q1A.loops:Z3 Q1A.C= [(.loop Q1A.B0)]:=by kernel_rfl
theorem Q1A.ok:NK_ 163 Q1A.sig (Q1A.W Q1A):=ok_ Tryz.func163 (Q1A.eq K99 Q1A.F0) (hl_ (Z0 Z2 K99.ok) (Z4 (by kernel_rfl) Q1A.Q1D Z5)) Q1A.loops
def K24.sig:Sig U:=⟨[.ptr],[.obj .Q4,.fam 10 (.map true false .Qm .Q1o)],2,[.isl .Q1m],false,[]⟩
abbrev K24.T:Type:=(Q1)->(Nat×(Nat->List (Q9×List (Int))))->Option (((List (QL))×Unit)×Unit×Unit)
def K24.W (f:K24.T):K24.sig.F:=λa x=>f x.1 x.2.1
def K24.L1:Shape U:=⟨65,14,[(0,.ptr 13 0 0),(3,.full .u64),(24,vi_),(25,vi_)],[(13,.obj .Q4),(10,.Q20 true false .Qm .Q1o)]⟩
def K24.X1:Qt U:= [(.exit 0,⟨65,15,[(0,.ptr 13 0 0),(3,.own .u64 14)],[(13,.obj .Q4),(14,.tok),(10,.Q20 true false .Qm .Q1o)]⟩)]
abbrev K24.l1T:Type:=(((List (Int))×Int×Int×Unit)×(Q1×(Nat×(Nat->List (Q9×List (Int))))×Unit))->Option ((((List (Int))×Unit)×(Q1×(Nat×(Nat->List (Q9×List (Int))))×Unit)))
def K24.C:Code:=match Tryz.f129.body with|some c=>c|none=>.skip
def K24.B0:Code:=match (Z3 K24.C).getD 0 .skip with| .loop b=>b| .scope b=>b|_=>.skip
def K24.B1:Code:=match (Z3 K24.C).getD 1 .skip with| .loop b=>b| .scope b=>b|_=>.skip
def K24.Q7q:Qt U:= [(.normal,⟨65,15,[(7,.ptr 14 0 0),(8,vb_)],[(13,.obj .Q4),(14,.obj .Q1m),(10,.Q20 true false .Qm .Q1o)]⟩)]
def K24.H (cK160:Q1A.T) (l1:K24.l1T):Hints U:={ Γ:=(Qp 163 (Q1A.sig.native (Q1A.W cK160)) (Qp 5000000021 Z1e noΓ)),ro:=14,base:=14,Q2J:=jt_ [(11,K24.Q7q)],loop:=jt_ [(5,(Z6 (14,14) K24.L1 K24.X1 l1))]}
def K24.Q2n (cK160:Q1A.T) (a:((List (Int))×Int×Int×Unit)×(Q1×(Nat×(Nat->List (Q9×List (Int))))×Unit)):Option ((((List (Int))×Int×Int×Unit)×(Q1×(Nat×(Nat->List (Q9×List (Int))))×Unit))⊕((((List (Int))×Unit)×(Q1×(Nat×(Nat->List (Q9×List (Int))))×Unit)))):=
 (bif ilt a.1.2.2.1 a.1.2.1 then (bif inR a.1.2.2.1 8 then (Q0 ((Q0 ((a.2.1.Qu (Int.toNat a.1.2.2.1)).3) none λr0=>((@Z3n U Go.Proofs.Tryz.prog 82 UC.Qm UC.Q1o (a.2.1.Q2I.Q18) (a.2.2.1.2 r0)):Option (Option (List Int))))) none λ(r1:Option (List Int))=>(bif Option.isSome r1 then (bif room (List.length a.1.1+List.length (Option.getD r1 (QG Int))) 8 then some (.inr ((a.1.1++Option.getD r1 (QG Int),()),a.2)) else none) else some (.inl ((a.1.1,(a.1.2.1,(Q2 .i64 a.1.2.2.1 1,()))),a.2)))) else none) else some (.inr ((a.1.1,()),a.2)))
def K24.F1:K24.l1T:=λa=>Z8 (1000000+(a.1.1.length)) (K24.Q2n Q1A) a
def K24.gen (cK160:Q1A.T) (l1:K24.l1T):K24.T:=λh0 g10=>
 (bif !h0.Q1d.Q6w then some ((QG QL,()),((),())) else (bif le3 (ofN 0) h0.Q1d.Q2Z 8 then (Q0 (l1 ((QG Int,ofN (Int.toNat h0.Q1d.Q2Z - Int.toNat (ofN 0)),(0:Int),()),h0,g10,())) none λr0=>(Q0 ((bif room (List.length r0.1.1+List.length (r0.2.1.Q1d.QO::QG Int)) 8 then (Q0 (cK160 (r0.1.1++r0.2.1.Q1d.QO::QG Int)) none λr1=>some (r1.1.2,(r0.2.1,(r1.1.1,r0.2.2)))) else none)) none λr2=>(bif !r2.1.1 then some ((QG QL,()),((),())) else some ((r2.2.2.1::QG QL,()),((),()))))) else none))
def K24:K24.T:=K24.gen Q1A K24.F1
theorem K24.seq1 (cK160:Q1A.T) (l1:K24.l1T) (a:K24.L1.T):run Tryz.prog (K24.H cK160 l1) 6 (Option (K24.L1.T⊕ExT K24.X1)) none K24.B1 (K24.L1.enc a) (Zc (14,14) K24.L1 K24.X1)=K24.Q2n cK160 a:=by kernel_rfl
abbrev K24.h:=K24.H Q1A K24.F1
theorem K24.Q3z:LO_ K24.h K24.B1 (Z6 (14,14) K24.L1 K24.X1 K24.F1):=lk_ (hn_ (Z0 (Z0 Z2 Zd) Q1A.ok)) (K24.seq1 Q1A K24.F1)
theorem K24.eq (cK160:Q1A.T) (l1:K24.l1T):EqA K24.sig (K24.H cK160 l1) Tryz.f129 6 (K24.W (K24.gen cK160 l1)):=by intro a x;kernel_rfl
theorem K24.loops:Z3 K24.C= [(.scope K24.B0),(.loop K24.B1)]:=by kernel_rfl
theorem K24.ok:NK_ 129 K24.sig (K24.W K24):=ok_ Tryz.func129 (K24.eq Q1A K24.F1) (hl_ (Z0 (Z0 Z2 Zd) Q1A.ok) (Zt (Z4 (by kernel_rfl) K24.Q3z Z5))) K24.loops
def K70.sig:Sig U:=⟨[.int .i64],[],0,[.bool],false,[]⟩
abbrev K70.T:Type:=(Int)->Option ((Bool×Unit)×Unit×Unit)
def K70.W (f:K70.T):K70.sig.F:=λa x=>f a.1
def K70.JC7:Qt U:= [(.normal,⟨16,13,[(9,vb_)],[]⟩)]
def K70.JC3:Qt U:= [(.normal,⟨16,13,[(3,vi_),(4,vb_)],[]⟩)]
def K70.H:Hints U:={ Γ:=noΓ,ro:=0,base:=13,Q29:=jt_ [(3,K70.JC3),(7,K70.JC7)]}
def K70.gen:K70.T:=λtyp=>
 (Q0 ((bif ieq typ 0 then some ((typ,(ieq typ 0,())),()) else (bif ieq typ 1 then some ((typ,(ieq typ 1,())),()) else (bif ieq typ 2 then some ((typ,(ieq typ 2,())),()) else some ((typ,(ieq typ 3,())),()))))) none λr0=>(bif r0.1.2.1 then some ((true,()),((),())) else (Q0 ((bif ieq r0.1.1 8 then some ((ieq r0.1.1 8,()),()) else (bif ieq r0.1.1 9 then some ((ieq r0.1.1 9,()),()) else (bif ieq r0.1.1 10 then some ((ieq r0.1.1 10,()),()) else (bif ieq r0.1.1 11 then some ((ieq r0.1.1 11,()),()) else (bif ieq r0.1.1 12 then some ((ieq r0.1.1 12,()),()) else some ((ieq r0.1.1 13,()),()))))))) none λr1=>(bif r1.1.1 then some ((true,()),((),())) else some ((false,()),((),()))))))
def K70:K70.T:=K70.gen
theorem K70.ok:NK_ 194 K70.sig (K70.W K70):=ok_ (H:=K70.H) (n:=6) Tryz.func194 (by intro a x;kernel_rfl) (hn_ Z2)
def K73.sig:Sig U:=⟨[.int .i64,.int .i64,.int .i64],[],0,[.bool],false,[]⟩
abbrev K73.T:Type:=(Int)->(Int)->(Int)->Option ((Bool×Unit)×Unit×Unit)
def K73.W (f:K73.T):K73.sig.F:=λa x=>f a.1 a.2.1 a.2.2.1
abbrev K73.N (c:K73.T):=Qp 195 (K73.sig.native (K73.W c))
def K73.H:Hints U:={ Γ:=noΓ,ro:=0,base:=13}
def K73.gen:K73.T:=λv least most=>
 (bif ile least v then some ((ile v most,()),((),())) else some ((false,()),((),())))
def K73:K73.T:=K73.gen
theorem K73.ok:NK_ 195 K73.sig (K73.W K73):=ok_ (H:=K73.H) (n:=6) Tryz.func195 (by intro a x;kernel_rfl) (hn_ Z2)
def K76.sig:Sig U:=⟨[.data .Qm],[],0,[.bool],false,[]⟩
abbrev K76.T:Type:=(Q9)->Option ((Bool×Unit)×Unit×Unit)
def K76.W (f:K76.T):K76.sig.F:=λa x=>f a.1
def K76.H:Hints U:={ Γ:=noΓ,ro:=0,base:=13}
def K76.gen:K76.T:=λp=>
 (bif ile 0 p.Q18 then some ((ile p.Q18 65535,()),((),())) else some ((false,()),((),())))
def K76:K76.T:=K76.gen
theorem K76.ok:NK_ 223 K76.sig (K76.W K76):=ok_ (H:=K76.H) (n:=6) Tryz.func223 (by intro a x;kernel_rfl) (hn_ Z2)
def K68.sig:Sig U:=⟨[.data .QJ],[],0,[.bool],false,[]⟩
abbrev K68.T:Type:=(Qg)->Option ((Bool×Unit)×Unit×Unit)
def K68.W (f:K68.T):K68.sig.F:=λa x=>f a.1
def K68.H (cK70:K70.T) (cK73:K73.T) (cK76:K76.T):Hints U:={ Γ:=(Qp 223 (K76.sig.native (K76.W cK76)) (K73.N cK73 (Qp 194 (K70.sig.native (K70.W cK70)) noΓ))),ro:=0,base:=13}
def K68.gen (cK70:K70.T) (cK73:K73.T) (cK76:K76.T):K68.T:=λm=>
 (Q0 (cK70 m.fType) none λr0=>(bif r0.1.1 then (Q0 (cK73 m.Q2i 0 255) none λr1=>(bif r1.1.1 then (Q0 (cK73 m.Q2H 0 65535) none λr2=>(bif r2.1.1 then (Q0 (cK76 m.Q25) none λr3=>(bif r3.1.1 then (Q0 (cK73 m.Q3w 0 65535) none λr4=>(bif r4.1.1 then (Q0 (cK73 m.Q63 (-128) 127) none λr5=>some (r5.1,((),()))) else some ((false,()),((),())))) else some ((false,()),((),())))) else some ((false,()),((),())))) else some ((false,()),((),())))) else some ((false,()),((),()))))
def K68:K68.T:=K68.gen K70 K73 K76
theorem K68.eq (cK70:K70.T) (cK73:K73.T) (cK76:K76.T):EqA K68.sig (K68.H cK70 cK73 cK76) Tryz.f210 6 (K68.W (K68.gen cK70 cK73 cK76)):=by intro a x;kernel_rfl
theorem K68.ok:NK_ 210 K68.sig (K68.W K68):=ok_ Tryz.func210 (K68.eq K70 K73 K76) (hn_ (Z0 (Z0 (Z0 Z2 K70.ok) K73.ok) K76.ok))
def K6.sig:Sig U:=⟨[.int .i64],[],0,[.bool],false,[]⟩
abbrev K6.T:Type:=(Int)->Option ((Bool×Unit)×Unit×Unit)
def K6.W (f:K6.T):K6.sig.F:=λa x=>f a.1
abbrev K6.N (c:K6.T):=Qp 199 (K6.sig.native (K6.W c))
def K6.H:Hints U:={ Γ:=noΓ,ro:=0,base:=13}
def K6.gen:K6.T:=λtyp=>
 (bif ine typ 12 then some ((ine typ 13,()),((),())) else some ((false,()),((),())))
def K6:K6.T:=K6.gen
theorem K6.ok:NK_ 199 K6.sig (K6.W K6):=ok_ (H:=K6.H) (n:=6) Tryz.func199 (by intro a x;kernel_rfl) (hn_ Z2)
def K7.sig:Sig U:=⟨[.int .i64],[],0,[.bool],false,[]⟩
abbrev K7.T:Type:=(Int)->Option ((Bool×Unit)×Unit×Unit)
def K7.W (f:K7.T):K7.sig.F:=λa x=>f a.1
abbrev K7.N (c:K7.T):=Qp 201 (K7.sig.native (K7.W c))
def K7.JC3:Qt U:= [(.normal,⟨10,13,[(4,vb_)],[]⟩)]
def K7.H:Hints U:={ Γ:=noΓ,ro:=0,base:=13,Q29:=jt_ [(3,K7.JC3)]}
def K7.gen:K7.T:=λtyp=>
 (Q0 ((bif ieq typ 9 then some ((ieq typ 9,()),()) else (bif ieq typ 3 then some ((ieq typ 3,()),()) else (bif ieq typ 10 then some ((ieq typ 10,()),()) else (bif ieq typ 12 then some ((ieq typ 12,()),()) else some ((ieq typ 13,()),())))))) none λr0=>(bif r0.1.1 then some ((true,()),((),())) else some ((false,()),((),()))))
def K7:K7.T:=K7.gen
theorem K7.ok:NK_ 201 K7.sig (K7.W K7):=ok_ (H:=K7.H) (n:=6) Tryz.func201 (by intro a x;kernel_rfl) (hn_ Z2)
def K5.sig:Sig U:=⟨[.data .QJ],[],0,[.data .QJ],false,[]⟩
abbrev K5.T:Type:=(Qg)->Option ((Qg×Unit)×Unit×Unit)
def K5.W (f:K5.T):K5.sig.F:=λa x=>f a.1
def K5.JC8:Qt U:= [(.normal,⟨68,15,[(2,.ptr 13 0 0),(3,.ptr 14 0 0)],[(13,.obj .QJ),(14,.obj .QJ)]⟩)]
def K5.JC5:Qt U:= [(.normal,⟨68,16,[(1,.ptr 13 0 0),(2,.ptr 14 0 0),(3,.ptr 15 0 0)],[(13,.obj .QJ),(14,.obj .QJ),(15,.obj .QJ)]⟩)]
def K5.H (cK6:K6.T) (cK7:K7.T):Hints U:={ Γ:=(K7.N cK7 (K6.N cK6 noΓ)),ro:=0,base:=13,Q29:=jt_ [(3,K5.JC5),(5,K5.JC5),(8,K5.JC8)]}
def K5.gen (cK6:K6.T) (cK7:K7.T):K5.T:=λm=>
 (Q0 (cK6 m.fType) none λr0=>(Q0 ((bif r0.1.1 then some ((),(m,(Qg.mk 0 0 0 0 z0_ 0 0 0 z0_ 0 0 z1_ 0 0 0 0 0 0 0,(Qg.mk m.fType m.Q2i m.Q2H m.Q4L m.Q25 m.Q3w m.Q63 m.Q4n z0_ 0 0 z1_ 0 0 0 0 0 0 0,())))) else some ((),(m,(Qg.mk 0 0 0 0 z0_ 0 0 0 z0_ 0 0 z1_ 0 0 0 0 0 0 0,(Qg.mk m.fType m.Q2i m.Q2H m.Q4L m.Q25 m.Q3w m.Q63 0 z0_ 0 0 z1_ 0 0 0 0 0 0 0,())))))) none λr1=>(Q0 (cK7 r1.2.1.fType) none λr2=>(Q0 ((bif r2.1.1 then some ((),(r1.2.1,(r1.2.2.1,(Qg.Q6n r1.2.2.2.1 r1.2.1.Q36,())))) else some ((),r1.2))) none λr3=>(Q0 ((bif ieq r3.2.1.fType 11 then some ((),(r3.2.2.1,(Qg.Q6i (Qg.Q6G (Qg.Q6F (Qg.Q5D (Qg.Q4B (Qg.Q4C (Qg.Q7n r3.2.2.2.1 r3.2.1.Q4e) r3.2.1.Q1y) r3.2.1.QY) r3.2.1.Q1C) r3.2.1.Q3g) r3.2.1.Q2o) r3.2.1.Q2F,()))) else (bif ieq r3.2.1.fType 13 then some ((),(r3.2.2.1,(Qg.Q6o (Qg.Q6V (Qg.Q5E r3.2.2.2.1 r3.2.1.Q3E) r3.2.1.Q5t) r3.2.1.Q4x,()))) else some ((),r3.2.2)))) none λr4=>some (r4.2.2,((),())))))))
def K5:K5.T:=K5.gen K6 K7
theorem K5.eq (cK6:K6.T) (cK7:K7.T):EqA K5.sig (K5.H cK6 cK7) Tryz.f222 6 (K5.W (K5.gen cK6 cK7)):=by intro a x;kernel_rfl
theorem K5.ok:NK_ 222 K5.sig (K5.W K5):=ok_ Tryz.func222 (K5.eq K6 K7) (hn_ (Z0 (Z0 Z2 K6.ok) K7.ok))
def Q28.sig:Sig U:=⟨[.int .i64],[],0,[.bool],false,[]⟩
abbrev Q28.T:Type:=(Int)->Option ((Bool×Unit)×Unit×Unit)
def Q28.W (f:Q28.T):Q28.sig.F:=λa x=>f a.1
abbrev Q28.N (c:Q28.T):=Qp 140 (Q28.sig.native (Q28.W c))
def Q28.H:Hints U:={ Γ:=noΓ,ro:=0,base:=13}
def Q28.gen:Q28.T:=λt=>
 (bif ile 0 t then some ((ile t 4000000000000000,()),((),())) else some ((false,()),((),())))
def Q28:Q28.T:=Q28.gen
theorem Q28.ok:NK_ 140 Q28.sig (Q28.W Q28):=ok_ (H:=Q28.H) (n:=6) Tryz.func140 (by intro a x;kernel_rfl) (hn_ Z2)
def K4.sig:Sig U:=⟨[.int .i64,.int .i64,.int .i64],[],0,[.bool],false,[]⟩
abbrev K4.T:Type:=(Int)->(Int)->(Int)->Option ((Bool×Unit)×Unit×Unit)
def K4.W (f:K4.T):K4.sig.F:=λa x=>f a.1 a.2.1 a.2.2.1
def K4.H:Hints U:={ Γ:=noΓ,ro:=0,base:=13}
def K4.gen:K4.T:=λv least most=>
 (bif ile least v then some ((ile v most,()),((),())) else some ((false,()),((),())))
def K4:K4.T:=K4.gen
theorem K4.ok:NK_ 224 K4.sig (K4.W K4):=ok_ (H:=K4.H) (n:=6) Tryz.func224 (by intro a x;kernel_rfl) (hn_ Z2)
def K0.sig:Sig U:=⟨[.data .QJ],[],0,[.bool],false,[]⟩
abbrev K0.T:Type:=(Qg)->Option ((Bool×Unit)×Unit×Unit)
def K0.W (f:K0.T):K0.sig.F:=λa x=>f a.1
def K0.H (cK68:K68.T) (cK5:K5.T) (cK148:Q28.T) (cK76:K76.T) (cK4:K4.T) (cK129:Q2L.T):Hints U:={ Γ:=(Q2L.N cK129 (Qp 224 (K4.sig.native (K4.W cK4)) (Qp 223 (K76.sig.native (K76.W cK76)) (Q28.N cK148 (Qp 222 (K5.sig.native (K5.W cK5)) (Qp 210 (K68.sig.native (K68.W cK68)) noΓ)))))),ro:=0,base:=13}
def K0.gen (cK68:K68.T) (cK5:K5.T) (cK148:Q28.T) (cK76:K76.T) (cK4:K4.T) (cK129:Q2L.T):K0.T:=λm=>
 (Q0 (cK68 m) none λr0=>(bif r0.1.1 then (Q0 (cK5 m) none λr1=>(bif bif ieq m.fType r1.1.1.fType then bif ieq m.Q2i r1.1.1.Q2i then bif ieq m.Q2H r1.1.1.Q2H then bif ieq m.Q4L r1.1.1.Q4L then bif bif ieq m.Q25.QO r1.1.1.Q25.QO then bif ieq m.Q25.Q18 r1.1.1.Q25.Q18 then true else false else false then bif ieq m.Q3w r1.1.1.Q3w then bif ieq m.Q63 r1.1.1.Q63 then bif ieq m.Q4n r1.1.1.Q4n then bif bif ieq m.Q36.QO r1.1.1.Q36.QO then bif ieq m.Q36.Q18 r1.1.1.Q36.Q18 then true else false else false then bif ieq m.Q4e r1.1.1.Q4e then bif ieq m.Q1y r1.1.1.Q1y then bif bif ieq m.QY.Q2Y r1.1.1.QY.Q2Y then bif ieq m.QY.Q2l r1.1.1.QY.Q2l then bif ieq m.QY.Q2k r1.1.1.QY.Q2k then true else false else false else false then bif ieq m.Q1C r1.1.1.Q1C then bif ieq m.Q3g r1.1.1.Q3g then bif ieq m.Q2o r1.1.1.Q2o then bif ieq m.Q2F r1.1.1.Q2F then bif ieq m.Q3E r1.1.1.Q3E then bif ieq m.Q5t r1.1.1.Q5t then bif ieq m.Q4x r1.1.1.Q4x then true else false else false else false else false else false else false else false else false else false else false else false else false else false else false else false else false else false else false else false then (Q0 (cK148 m.Q4n) none λr2=>(bif r2.1.1 then (Q0 (cK76 m.Q36) none λr3=>(bif r3.1.1 then (Q0 (cK4 m.Q4e (-32768) 32767) none λr4=>(bif r4.1.1 then (Q0 (cK4 m.Q1y 0 255) none λr5=>(bif r5.1.1 then (Q0 (cK4 m.Q1C 0 255) none λr6=>(bif r6.1.1 then (Q0 (cK4 m.Q2F 0 255) none λr7=>(bif r7.1.1 then (Q0 (cK129 m.QY) none λr8=>(bif r8.1.1 then (Q0 (cK4 m.Q2o 0 65535) none λr9=>(bif r9.1.1 then (Q0 (cK4 m.Q3E 0 255) none λr10=>(bif r10.1.1 then (Q0 (cK4 m.Q5t 0 255) none λr11=>(bif r11.1.1 then (Q0 (cK4 m.Q4x 0 15) none λr12=>some (r12.1,((),()))) else some ((false,()),((),())))) else some ((false,()),((),())))) else some ((false,()),((),())))) else some ((false,()),((),())))) else some ((false,()),((),())))) else some ((false,()),((),())))) else some ((false,()),((),())))) else some ((false,()),((),())))) else some ((false,()),((),())))) else some ((false,()),((),())))) else some ((false,()),((),())))) else some ((false,()),((),()))))
def K0:K0.T:=K0.gen K68 K5 Q28 K76 K4 Q2L
theorem K0.eq (cK68:K68.T) (cK5:K5.T) (cK148:Q28.T) (cK76:K76.T) (cK4:K4.T) (cK129:Q2L.T):EqA K0.sig (K0.H cK68 cK5 cK148 cK76 cK4 cK129) Tryz.f204 6 (K0.W (K0.gen cK68 cK5 cK148 cK76 cK4 cK129)):=by intro a x;kernel_rfl
theorem K0.ok:NK_ 204 K0.sig (K0.W K0):=ok_ Tryz.func204 (K0.eq K68 K5 Q28 K76 K4 Q2L) (hn_ (Z0 (Z0 (Z0 (Z0 (Z0 (Z0 Z2 K68.ok) K5.ok) Q28.ok) K76.ok) K4.ok) Q2L.ok))
def Q3s.sig:Sig U:=⟨[.isl .u8,.int .i64],[],0,[.isl .u8],false,[]⟩
abbrev Q3s.T:Type:=(List (UInt8))->(Int)->Option (((List (UInt8))×Unit)×Unit×Unit)
def Q3s.W (f:Q3s.T):Q3s.sig.F:=λa x=>f a.1 a.2.1
def Q3s.JC2:Qt U:= [(.normal,⟨15,13,[(0,.val (.isl .u8)),(1,vi_)],[]⟩)]
def Q3s.H (cK148:Q28.T) (cK98:K98.T):Hints U:={ Γ:=(K98.N cK98 (Q28.N cK148 noΓ)),ro:=0,base:=13,Q29:=jt_ [(2,Q3s.JC2)]}
def Q3s.gen (cK148:Q28.T) (cK98:K98.T):Q3s.T:=λb t=>
 (Q0 (cK148 t) none λr0=>(Q0 ((bif !r0.1.1 then some ((b,((0:Int),())),()) else some ((b,(t,())),()))) none λr1=>(Q0 (cK98 r1.1.1 (Q4c .i64 r1.1.2.1 1000000000) 6) none λr2=>(Q0 (cK98 r2.1.1 (Q4K r1.1.2.1 1000000000) 4) none λr3=>some (r3.1,((),()))))))
def Q3s:Q3s.T:=Q3s.gen Q28 K98
theorem Q3s.eq (cK148:Q28.T) (cK98:K98.T):EqA Q3s.sig (Q3s.H cK148 cK98) Tryz.f205 6 (Q3s.W (Q3s.gen cK148 cK98)):=by intro a x;kernel_rfl
theorem Q3s.ok:NK_ 205 Q3s.sig (Q3s.W Q3s):=ok_ Tryz.func205 (Q3s.eq Q28 K98) (hn_ (Z0 (Z0 Z2 Q28.ok) K98.ok))
def K77.sig:Sig U:=⟨[.isl .u8,.data .Qm],[],0,[.isl .u8],false,[]⟩
abbrev K77.T:Type:=(List (UInt8))->(Q9)->Option (((List (UInt8))×Unit)×Unit×Unit)
def K77.W (f:K77.T):K77.sig.F:=λa x=>f a.1 a.2.1
def K77.H (cK99:K99.T) (cK98:K98.T):Hints U:={ Γ:=(K98.N cK98 (K99.N cK99 noΓ)),ro:=0,base:=13}
def K77.gen (cK99:K99.T) (cK98:K98.T):K77.T:=λb p=>
 (Q0 (cK99 b p.QO) none λr0=>(Q0 (cK98 r0.1.1 p.Q18 2) none λr1=>some (r1.1,((),()))))
def K77:K77.T:=K77.gen K99 K98
theorem K77.eq (cK99:K99.T) (cK98:K98.T):EqA K77.sig (K77.H cK99 cK98) Tryz.f206 6 (K77.W (K77.gen cK99 cK98)):=by intro a x;kernel_rfl
theorem K77.ok:NK_ 206 K77.sig (K77.W K77):=ok_ Tryz.func206 (K77.eq K99 K98) (hn_ (Z0 (Z0 Z2 K99.ok) K98.ok))
def Q3P.sig:Sig U:=⟨[.isl .u8,.data .Q2y],[],0,[.isl .u8],false,[]⟩
abbrev Q3P.T:Type:=(List (UInt8))->(QU)->Option (((List (UInt8))×Unit)×Unit×Unit)
def Q3P.W (f:Q3P.T):Q3P.sig.F:=λa x=>f a.1 a.2.1
def Q3P.H (cK98:K98.T):Hints U:={ Γ:=(K98.N cK98 noΓ),ro:=0,base:=13}
def Q3P.gen (cK98:K98.T):Q3P.T:=λb q=>
 (Q0 (cK98 b q.Q2Y 1) none λr0=>(Q0 (cK98 r0.1.1 q.Q2l 1) none λr1=>(Q0 (cK98 r1.1.1 q.Q2k 2) none λr2=>some (r2.1,((),())))))
def Q3P:Q3P.T:=Q3P.gen K98
theorem Q3P.eq (cK98:K98.T):EqA Q3P.sig (Q3P.H cK98) Tryz.f208 6 (Q3P.W (Q3P.gen cK98)):=by intro a x;kernel_rfl
theorem Q3P.ok:NK_ 208 Q3P.sig (Q3P.W Q3P):=ok_ Tryz.func208 (Q3P.eq K98) (hn_ (Z0 Z2 K98.ok))
def K3.sig:Sig U:=⟨[.isl .u8,.data .QJ],[],0,[.isl .u8,.bool],true,[]⟩
abbrev K3.T:Type:=(List (UInt8))->(Qg)->Option (((List (UInt8))×Bool×Unit)×Unit×Unit)
def K3.W (f:K3.T):K3.sig.F:=λa x=>f a.1 a.2.1
def K3.Q7c:Qt U:= [(.normal,⟨80,13,[(6,.val (.isl .u8))],[]⟩)]
def K3.JC7:Qt U:= [(.normal,⟨80,14,[(3,.ptr 13 0 0),(6,.val (.isl .u8))],[(13,.obj .QJ)]⟩)]
def K3.H (cK0:K0.T) (cK6:K6.T) (cK150:Q3s.T) (cK7:K7.T) (cK77:K77.T) (cK98:K98.T) (cK130:Q3P.T) (cK99:K99.T):Hints U:={ Γ:=(K99.N cK99 (Qp 208 (Q3P.sig.native (Q3P.W cK130)) (K98.N cK98 (Qp 206 (K77.sig.native (K77.W cK77)) (K7.N cK7 (Qp 205 (Q3s.sig.native (Q3s.W cK150)) (K6.N cK6 (Qp 204 (K0.sig.native (K0.W cK0)) noΓ)))))))),ro:=0,base:=13,Q29:=jt_ [(5,K3.JC7),(7,K3.JC7),(10,K3.Q7c)]}
def K3.gen (cK0:K0.T) (cK6:K6.T) (cK150:Q3s.T) (cK7:K7.T) (cK77:K77.T) (cK98:K98.T) (cK130:Q3P.T) (cK99:K99.T):K3.T:=λb m=>
 (Q0 (cK0 m) none λr0=>(bif !r0.1.1 then some ((b,(false,())),((),())) else (bif bif le3 (ofN 0) (ofN (List.length b)) (List.length b) then ieq (ofN (List.length b)) (ofN (List.length b)) else false then (Q0 (cK6 m.fType) none λr1=>(Q0 ((bif r1.1.1 then (Q0 (cK150 (List.drop (Int.toNat (ofN 0)) (List.take (Int.toNat (ofN (List.length b))) b)) m.Q4n) none λr2=>some (r2.1,(m,()))) else some ((List.drop (Int.toNat (ofN 0)) (List.take (Int.toNat (ofN (List.length b))) b),()),(m,())))) none λr3=>(Q0 (cK7 r3.2.1.fType) none λr4=>(Q0 ((bif r4.1.1 then (Q0 (cK77 r3.1.1 r3.2.1.Q36) none λr5=>some (r5.1,r3.2)) else some r3)) none λr6=>(Q0 ((bif ieq r6.2.1.fType 2 then (Q0 (cK77 r6.1.1 z0_) none λr7=>some (r7.1,())) else (bif ieq r6.2.1.fType 11 then (Q0 (cK98 r6.1.1 r6.2.1.Q4e 2) none λr8=>(Q0 (cK98 r8.1.1 0 1) none λr9=>(Q0 (cK98 r9.1.1 r6.2.1.Q1y 1) none λr10=>(Q0 (cK130 r10.1.1 r6.2.1.QY) none λr11=>(Q0 (cK98 r11.1.1 r6.2.1.Q1C 1) none λr12=>(Q0 (cK99 r12.1.1 r6.2.1.Q3g) none λr13=>(Q0 (cK98 r13.1.1 r6.2.1.Q2o 2) none λr14=>(Q0 (cK98 r14.1.1 r6.2.1.Q2F 1) none λr15=>some (r15.1,()))))))))) else (bif ieq r6.2.1.fType 13 then (Q0 (cK98 r6.1.1 r6.2.1.Q3E 1) none λr16=>(Q0 (cK98 r16.1.1 r6.2.1.Q5t 1) none λr17=>(Q0 (cK98 r17.1.1 r6.2.1.Q4x 1) none λr18=>(Q0 (cK98 r18.1.1 0 1) none λr19=>some (r19.1,()))))) else some (r6.1,()))))) none λr20=>some ((r20.1.1,(true,())),((),()))))))) else none)))
def K3:K3.T:=K3.gen K0 K6 Q3s K7 K77 K98 Q3P K99
theorem K3.eq (cK0:K0.T) (cK6:K6.T) (cK150:Q3s.T) (cK7:K7.T) (cK77:K77.T) (cK98:K98.T) (cK130:Q3P.T) (cK99:K99.T):EqA K3.sig (K3.H cK0 cK6 cK150 cK7 cK77 cK98 cK130 cK99) Tryz.f178 6 (K3.W (K3.gen cK0 cK6 cK150 cK7 cK77 cK98 cK130 cK99)):=by intro a x;kernel_rfl
theorem K3.ok:NK_ 178 K3.sig (K3.W K3):=ok_ Tryz.func178 (K3.eq K0 K6 Q3s K7 K77 K98 Q3P K99) (hn_ (Z0 (Z0 (Z0 (Z0 (Z0 (Z0 (Z0 (Z0 Z2 K0.ok) K6.ok) Q3s.ok) K7.ok) K77.ok) K98.ok) Q3P.ok) K99.ok))
def Q4f.sig:Sig U:=⟨[.int .i64,.int .i64,.int .i64],[],0,[.bool],false,[]⟩
abbrev Q4f.T:Type:=(Int)->(Int)->(Int)->Option ((Bool×Unit)×Unit×Unit)
def Q4f.W (f:Q4f.T):Q4f.sig.F:=λa x=>f a.1 a.2.1 a.2.2.1
def Q4f.H:Hints U:={ Γ:=noΓ,ro:=0,base:=13}
def Q4f.gen:Q4f.T:=λv least most=>
 (bif ile least v then some ((ile v most,()),((),())) else some ((false,()),((),())))
def Q4f:Q4f.T:=Q4f.gen
theorem Q4f.ok:NK_ 221 Q4f.sig (Q4f.W Q4f):=ok_ (H:=Q4f.H) (n:=6) Tryz.func221 (by intro a x;kernel_rfl) (hn_ Z2)
def Q39.sig:Sig U:=⟨[.data .Q1m],[],0,[.bool],false,[]⟩
abbrev Q39.T:Type:=(QL)->Option ((Bool×Unit)×Unit×Unit)
def Q39.W (f:Q39.T):Q39.sig.F:=λa x=>f a.1
def Q39.H (cK163:Q4f.T):Hints U:={ Γ:=(Qp 221 (Q4f.sig.native (Q4f.W cK163)) noΓ),ro:=0,base:=13}
def Q39.gen (cK163:Q4f.T):Q39.T:=λt=>
 (Q0 (cK163 t.fType 0 65535) none λr0=>(bif r0.1.1 then (bif ieq (Q4K (ofN (ByteArray.size t.Q4I)) 2) 0 then some ((ile (ofN (ByteArray.size t.Q4I)) 400,()),((),())) else some ((false,()),((),()))) else some ((false,()),((),()))))
def Q39:Q39.T:=Q39.gen Q4f
theorem Q39.eq (cK163:Q4f.T):EqA Q39.sig (Q39.H cK163) Tryz.f209 6 (Q39.W (Q39.gen cK163)):=by intro a x;kernel_rfl
theorem Q39.ok:NK_ 209 Q39.sig (Q39.W Q39):=ok_ Tryz.func209 (Q39.eq Q4f) (hn_ (Z0 Z2 Q4f.ok))
def Q1G.sig:Sig U:=⟨[.isl .u8,.isl .Q1m],[],0,[.isl .u8,.bool],true,[]⟩
abbrev Q1G.T:Type:=(List (UInt8))->(List (QL))->Option (((List (UInt8))×Bool×Unit)×Unit×Unit)
def Q1G.W (f:Q1G.T):Q1G.sig.F:=λa x=>f a.1 a.2.1
def Q1G.L0:Shape U:=⟨42,13,[(0,.val (.isl .u8)),(6,.val (.isl .u8)),(19,.val (.isl .Q1m)),(20,vi_),(21,vi_)],[]⟩
def Q1G.X0:Qt U:= [(.exit 0,⟨42,13,[(6,.val (.isl .u8))],[]⟩),
 (.ret,⟨42,13,[(4,.val (.isl .u8)),(5,vb_)],[]⟩)]
abbrev Q1G.l0T:Type:=(((List (UInt8))×(List (UInt8))×(List (QL))×Int×Int×Unit)×Unit)->Option ((((List (UInt8))×Unit)×Unit)⊕(((List (UInt8))×Bool×Unit)×Unit))
def Q1G.C:Code:=match Tryz.f179.body with|some c=>c|none=>.skip
def Q1G.B0:Code:=match (Z3 Q1G.C).getD 0 .skip with| .loop b=>b| .scope b=>b|_=>.skip
def Q1G.H (cK156:Q39.T) (cK98:K98.T) (l0:Q1G.l0T):Hints U:={ Γ:=(K98.N cK98 (Qp 209 (Q39.sig.native (Q39.W cK156)) noΓ)),ro:=0,base:=13,loop:=jt_ [(5,(Z6 (0,13) Q1G.L0 Q1G.X0 l0))]}
def Q1G.QW (cK156:Q39.T) (cK98:K98.T) (a:((List (UInt8))×(List (UInt8))×(List (QL))×Int×Int×Unit)×Unit):Option ((((List (UInt8))×(List (UInt8))×(List (QL))×Int×Int×Unit)×Unit)⊕((((List (UInt8))×Unit)×Unit)⊕(((List (UInt8))×Bool×Unit)×Unit))):=
 (bif ilt a.1.2.2.2.2.1 a.1.2.2.2.1 then (bif inR a.1.2.2.2.2.1 (List.length a.1.2.2.1) then (Q0 (cK156 (List.getD a.1.2.2.1 (Int.toNat a.1.2.2.2.2.1) QL.zero)) none λr0=>(bif !r0.1.1 then some (.inr (.inr ((a.1.1,(false,())),()))) else (Q0 (cK98 a.1.2.1 (List.getD a.1.2.2.1 (Int.toNat a.1.2.2.2.2.1) QL.zero).fType 2) none λr1=>(Q0 (cK98 r1.1.1 (ofN (ByteArray.size (List.getD a.1.2.2.1 (Int.toNat a.1.2.2.2.2.1) QL.zero).Q4I)) 2) none λr2=>(bif room (List.length r2.1.1+List.length (List.getD a.1.2.2.1 (Int.toNat a.1.2.2.2.2.1) QL.zero).Q4I.data.toList) 1 then some (.inl ((a.1.1,(r2.1.1++(List.getD a.1.2.2.1 (Int.toNat a.1.2.2.2.2.1) QL.zero).Q4I.data.toList,(a.1.2.2.1,(a.1.2.2.2.1,(Q2 .i64 a.1.2.2.2.2.1 1,()))))),())) else none))))) else none) else some (.inr (.inl ((a.1.2.1,()),()))))
def Q1G.F0:Q1G.l0T:=λa=>Z8 (1000000+(a.1.1.length+a.1.2.1.length+a.1.2.2.1.length)) (Q1G.QW Q39 K98) a
def Q1G.gen (cK156:Q39.T) (cK98:K98.T) (l0:Q1G.l0T):Q1G.T:=λb l=>
 (bif ilt 8 (ofN (List.length l)) then some ((b,(false,())),((),())) else (bif bif le3 (ofN 0) (ofN (List.length b)) (List.length b) then ieq (ofN (List.length b)) (ofN (List.length b)) else false then (Q0 (l0 ((b,List.drop (Int.toNat (ofN 0)) (List.take (Int.toNat (ofN (List.length b))) b),l,ofN (List.length l),(0:Int),()),())) none λr0=>(Q3B r0 (λr1=>some ((r1.1.1,(true,())),((),()))) (λr1=>some (r1.1,((),()))))) else none))
def Q1G:Q1G.T:=Q1G.gen Q39 K98 Q1G.F0
theorem Q1G.Q1O (cK156:Q39.T) (cK98:K98.T) (l0:Q1G.l0T) (a:Q1G.L0.T):run Tryz.prog (Q1G.H cK156 cK98 l0) 6 (Option (Q1G.L0.T⊕ExT Q1G.X0)) none Q1G.B0 (Q1G.L0.enc a) (Zc (0,13) Q1G.L0 Q1G.X0)=Q1G.QW cK156 cK98 a:=by kernel_rfl
abbrev Q1G.h:=Q1G.H Q39 K98 Q1G.F0
theorem Q1G.Q1D:LO_ Q1G.h Q1G.B0 (Z6 (0,13) Q1G.L0 Q1G.X0 Q1G.F0):=lk_ (hn_ (Z0 (Z0 Z2 Q39.ok) K98.ok)) (Q1G.Q1O Q39 K98 Q1G.F0)
theorem Q1G.eq (cK156:Q39.T) (cK98:K98.T) (l0:Q1G.l0T):EqA Q1G.sig (Q1G.H cK156 cK98 l0) Tryz.f179 6 (Q1G.W (Q1G.gen cK156 cK98 l0)):=by intro a x;kernel_rfl
theorem Q1G.loops:Z3 Q1G.C= [(.loop Q1G.B0)]:=by kernel_rfl
theorem Q1G.ok:NK_ 179 Q1G.sig (Q1G.W Q1G):=ok_ Tryz.func179 (Q1G.eq Q39 K98 Q1G.F0) (hl_ (Z0 (Z0 Z2 Q39.ok) K98.ok) (Z4 (by kernel_rfl) Q1G.Q1D Z5)) Q1G.loops
def K72.sig:Sig U:=⟨[.int .i64],[],0,[.int .i64],false,[]⟩
abbrev K72.T:Type:=(Int)->Option ((Int×Unit)×Unit×Unit)
def K72.W (f:K72.T):K72.sig.F:=λa x=>f a.1
def K72.H:Hints U:={ Γ:=noΓ,ro:=0,base:=13}
def K72.gen:K72.T:=λtyp=>
 (bif ieq typ 0 then some (((0:Int),()),((),())) else (bif ieq typ 1 then some (((1:Int),()),((),())) else (bif ieq typ 8 then some (((2:Int),()),((),())) else (bif ieq typ 9 then some (((3:Int),()),((),())) else (bif ieq typ 13 then some (((4:Int),()),((),())) else some (((5:Int),()),((),())))))))
def K72:K72.T:=K72.gen
theorem K72.ok:NK_ 211 K72.sig (K72.W K72):=ok_ (H:=K72.H) (n:=6) Tryz.func211 (by intro a x;kernel_rfl) (hn_ Z2)
def K71.sig:Sig U:=⟨[.data .QJ,.int .i64],[],0,[.isl .u8,.bool],true,[]⟩
abbrev K71.T:Type:=(Qg)->(Int)->Option (((List (UInt8))×Bool×Unit)×Unit×Unit)
def K71.W (f:K71.T):K71.sig.F:=λa x=>f a.1 a.2.1
def K71.H (cK68:K68.T) (cK73:K73.T) (cK98:K98.T) (cK77:K77.T) (cK72:K72.T):Hints U:={ Γ:=(Qp 211 (K72.sig.native (K72.W cK72)) (Qp 206 (K77.sig.native (K77.W cK77)) (K98.N cK98 (K73.N cK73 (Qp 210 (K68.sig.native (K68.W cK68)) noΓ))))),ro:=0,base:=13,Q1T:=jt_ [(1,[(14,vb_)])]}
def K71.gen (cK68:K68.T) (cK73:K73.T) (cK98:K98.T) (cK77:K77.T) (cK72:K72.T):K71.T:=λm length=>
 (Q0 ((Q0 (cK68 m) none λr0=>(bif !r0.1.1 then some (true,()) else (Q0 (cK73 length 34 400) none λr1=>some (!r1.1.1,()))))) none λr2=>(bif r2.1 then some ((QG UInt8,(false,())),((),())) else (Q0 (cK98 (UInt8.ofNat (Int.toNat (IntKind.wrap .u8 m.fType))::UInt8.ofNat (Int.toNat 18)::QG UInt8) length 2) none λr3=>(Q0 (cK98 r3.1.1 m.Q2i 1) none λr4=>(Q0 (cK98 r4.1.1 0 1) none λr5=>(Q0 (cK98 r5.1.1 m.Q2H 2) none λr6=>(Q0 (cK98 r6.1.1 m.Q4L 8) none λr7=>(Q0 (cK98 r7.1.1 0 4) none λr8=>(Q0 (cK77 r8.1.1 m.Q25) none λr9=>(Q0 (cK98 r9.1.1 m.Q3w 2) none λr10=>(Q0 (cK72 m.fType) none λr11=>(Q0 (cK98 r10.1.1 r11.1.1 1) none λr12=>(Q0 (cK98 r12.1.1 m.Q63 1) none λr13=>some ((r13.1.1,(true,())),((),())))))))))))))))
def K71:K71.T:=K71.gen K68 K73 K98 K77 K72
theorem K71.eq (cK68:K68.T) (cK73:K73.T) (cK98:K98.T) (cK77:K77.T) (cK72:K72.T):EqA K71.sig (K71.H cK68 cK73 cK98 cK77 cK72) Tryz.f180 6 (K71.W (K71.gen cK68 cK73 cK98 cK77 cK72)):=by intro a x;kernel_rfl
theorem K71.ok:NK_ 180 K71.sig (K71.W K71):=ok_ Tryz.func180 (K71.eq K68 K73 K98 K77 K72) (hn_ (Z0 (Z0 (Z0 (Z0 (Z0 Z2 K68.ok) K73.ok) K98.ok) K77.ok) K72.ok))
def K67.sig:Sig U:=⟨[.data .QJ,.isl .Q1m],[],0,[.str,.bool],true,[]⟩
abbrev K67.T:Type:=(Qg)->(List (QL))->Option ((ByteArray×Bool×Unit)×Unit×Unit)
def K67.W (f:K67.T):K67.sig.F:=λa x=>f a.1 a.2.1
def K67.C:Code:=match Tryz.f141.body with|some c=>c|none=>.skip
def K67.B0:Code:=match (Z3 K67.C).getD 0 .skip with| .loop b=>b| .scope b=>b|_=>.skip
def K67.H (cK3:K3.T) (cK162:Q1G.T) (cK71:K71.T):Hints U:={ Γ:=(Qp 180 (K71.sig.native (K71.W cK71)) (Qp 179 (Q1G.sig.native (Q1G.W cK162)) (Qp 178 (K3.sig.native (K3.W cK3)) noΓ))),ro:=0,base:=13,gotos:=3,loop:=λb=>none}
def K67.gen (cK3:K3.T) (cK162:Q1G.T) (cK71:K71.T):K67.T:=λm l=>
 (Q0 (cK3 (QG UInt8) m) none λr0=>(bif !r0.1.2.1 then some ((ByteArray.mk (List.toArray (QG UInt8)),(false,())),((),())) else (Q0 (cK162 r0.1.1 l) none λr1=>(bif !r1.1.2.1 then some ((ByteArray.mk (List.toArray (QG UInt8)),(false,())),((),())) else (Q0 (cK71 m (Q2 .i64 34 (ofN (List.length r1.1.1)))) none λr2=>(bif !r2.1.2.1 then some ((ByteArray.mk (List.toArray (QG UInt8)),(false,())),((),())) else (bif Nat.ble (ByteArray.size (ByteArray.mk (List.toArray r2.1.1))+ByteArray.size (ByteArray.mk (List.toArray r1.1.1))) 9223372036854775807 then some ((ByteArray.mk (List.toArray r2.1.1)++ByteArray.mk (List.toArray r1.1.1),(true,())),((),())) else none)))))))
def K67:K67.T:=K67.gen K3 Q1G K71
theorem K67.eq (cK3:K3.T) (cK162:Q1G.T) (cK71:K71.T):EqA K67.sig (K67.H cK3 cK162 cK71) Tryz.f141 6 (K67.W (K67.gen cK3 cK162 cK71)):=by intro a x;kernel_rfl
theorem K67.loops:Z3 K67.C= [(.scope K67.B0)]:=by kernel_rfl
theorem K67.ok:NK_ 141 K67.sig (K67.W K67):=ok_ Tryz.func141 (K67.eq K3 Q1G K71) (hl_ (Z0 (Z0 (Z0 Z2 K3.ok) Q1G.ok) K71.ok) (Zt Z5)) K67.loops
def K23.sig:Sig U:=⟨[.ptr,.int .i64,.data .QJ,.isl .Q1m,.bool],[.obj .Q4],0,[],true,[]⟩
abbrev K23.T:Type:=(Int)->(Qg)->(List (QL))->(Bool)->(Q1)->Option (Unit×(Q1×Unit)×Unit)
def K23.W (f:K23.T):K23.sig.F:=λa x=>f a.2.1 a.2.2.1 a.2.2.2.1 a.2.2.2.2.1 x.1
abbrev K23.N (c:K23.T):=Qp 105 (K23.sig.native (K23.W c))
def K23.H (cK67:K67.T):Hints U:={ Γ:=(Qp 141 (K67.sig.native (K67.W cK67)) noΓ),ro:=0,base:=14}
def K23.gen (cK67:K67.T):K23.T:=λn m l want h0=>
 (Q0 (cK67 m l) none λr0=>(bif r0.1.2.1 then (bif room (List.length h0.Q4T+List.length (Q12.mk 1 n 0 want m.fType m.Q3w r0.1.1::QG Q12)) 64 then some ((),((Q1.Q3q h0 (h0.Q4T++Q12.mk 1 n 0 want m.fType m.Q3w r0.1.1::QG Q12),()),())) else none) else some ((),((h0,()),()))))
def K23:K23.T:=K23.gen K67
theorem K23.eq (cK67:K67.T):EqA K23.sig (K23.H cK67) Tryz.f105 6 (K23.W (K23.gen cK67)):=by intro a x;kernel_rfl
theorem K23.ok:NK_ 105 K23.sig (K23.W K23):=ok_ Tryz.func105 (K23.eq K67) (hn_ (Z0 Z2 K67.ok))
def Q4a.sig:Sig U:=⟨[.int .i64],[],0,[.int .i64],false,[]⟩
abbrev Q4a.T:Type:=(Int)->Option ((Int×Unit)×Unit×Unit)
def Q4a.W (f:Q4a.T):Q4a.sig.F:=λa x=>f a.1
def Q4a.H:Hints U:={ Γ:=noΓ,ro:=0,base:=13}
def Q4a.gen:Q4a.T:=λseq=>
 some ((Q50 .i64 (Q2 .i64 (Q50 .i64 seq 65535) 1) 65535,()),((),()))
def Q4a:Q4a.T:=Q4a.gen
theorem Q4a.ok:NK_ 130 Q4a.sig (Q4a.W Q4a):=ok_ (H:=Q4a.H) (n:=6) Tryz.func130 (by intro a x;kernel_rfl) (hn_ Z2)
def Q2X.sig:Sig U:=⟨[.ptr],[.obj .QF],0,[],true,[]⟩
abbrev Q2X.T:Type:=(Q7)->Option (Unit×(Q7×Unit)×Unit)
def Q2X.W (f:Q2X.T):Q2X.sig.F:=λa x=>f x.1
def Q2X.H:Hints U:={ Γ:=noΓ,ro:=0,base:=14}
def Q2X.gen:Q2X.T:=λh0=>
 some ((),((Q7.mk h0.Q5F h0.Q5X 0 0 false false false false z2_ 0,()),()))
def Q2X:Q2X.T:=Q2X.gen
theorem Q2X.ok:NK_ 115 Q2X.sig (Q2X.W Q2X):=ok_ (H:=Q2X.H) (n:=6) Tryz.func115 (by intro a x;kernel_rfl) (hn_ Z2)
def Q3H.sig:Sig U:=⟨[.ptr,.int .i64],[.obj .QF],0,[.data .QJ],false,[]⟩
abbrev Q3H.T:Type:=(Int)->(Q7)->Option ((Qg×Unit)×(Q7×Unit)×Unit)
def Q3H.W (f:Q3H.T):Q3H.sig.F:=λa x=>f a.2.1 x.1
def Q3H.H (cK117:Q2X.T):Hints U:={ Γ:=(Qp 115 (Q2X.sig.native (Q2X.W cK117)) noΓ),ro:=0,base:=14}
def Q3H.gen (cK117:Q2X.T):Q3H.T:=λseq h0=>
 (Q0 (cK117 h0) none λr0=>some ((Qg.mk 2 r0.2.1.1.Q5X 0 0 r0.2.1.1.Q5F (Q50 .i64 seq 65535) 127 0 z0_ 0 0 z1_ 0 0 0 0 0 0 0,()),((Q7.Q9W (Q7.Q9S r0.2.1.1 (Q50 .i64 seq 65535)) true,()),())))
def Q3H:Q3H.T:=Q3H.gen Q2X
theorem Q3H.eq (cK117:Q2X.T):EqA Q3H.sig (Q3H.H cK117) Tryz.f164 6 (Q3H.W (Q3H.gen cK117)):=by intro a x;kernel_rfl
theorem Q3H.ok:NK_ 164 Q3H.sig (Q3H.W Q3H):=ok_ Tryz.func164 (Q3H.eq Q2X) (hn_ (Z0 Z2 Q2X.ok))
def K53.sig:Sig U:=⟨[.ptr,.int .i64,.int .i64],[.obj .Qy],0,[.data .QJ],false,[]⟩
abbrev K53.T:Type:=(Int)->(Int)->(Q6)->Option ((Qg×Unit)×(Q6×Unit)×Unit)
def K53.W (f:K53.T):K53.sig.F:=λa x=>f a.2.1 a.2.2.1 x.1
def K53.H:Hints U:={ Γ:=noΓ,ro:=0,base:=14}
def K53.gen:K53.T:=λseq a_2 h0=>
 some ((Qg.mk 1 h0.Q5X 0 0 h0.Q5F (Q50 .i64 seq 65535) 127 0 z0_ 0 0 z1_ 0 0 0 0 0 0 0,()),((Q6.Q8l h0 (Q10.mk (Q50 .i64 seq 65535) 0 true false),()),()))
def K53:K53.T:=K53.gen
theorem K53.ok:NK_ 165 K53.sig (K53.W K53):=ok_ (H:=K53.H) (n:=6) Tryz.func165 (by intro a x;kernel_rfl) (hn_ Z2)
def K36.sig:Sig U:=⟨[.ptr,.bool],[.obj .QI,Q47,Q4u],0,[.data .QJ],false,[]⟩
abbrev K36.T:Type:=(Bool)->(Qc)->(Fm Q6)->(Fm Q7)->Option ((Qg×Unit)×(Qc×(Fm Q6)×(Fm Q7)×Unit)×Unit)
def K36.W (f:K36.T):K36.sig.F:=λa x=>f a.2.1 x.1 x.2.1 x.2.2.1
def K36.JR2:Qt U:= [(.normal,⟨24,15,[(4,.ptr 14 0 0)],[(13,.obj .QI),(14,.obj .QJ),(3,.Qf false .Qy),(4,.Qf false .QF)]⟩)]
def K36.H (cK118:Q3H.T) (cK53:K53.T):Hints U:={ Γ:=(Qp 165 (K53.sig.native (K53.W cK53)) (Qp 164 (Q3H.sig.native (Q3H.W cK118)) noΓ)),ro:=0,base:=14,Q2J:=jt_ [(2,K36.JR2)]}
def K36.gen (cK118:Q3H.T) (cK53:K53.T):K36.T:=λpeer h0 g3 g4=>
 (bif peer then (Q0 ((Q0 (h0.14) none λr0=>(Q0 (cK118 h0.Q5L (g4.2 r0)) none λr1=>some ((),(h0,(r1.1.1,(g3,((g4.1,QA g4.2 r0 r1.2.1.1),())))))))) none λr2=>some ((r2.2.2.1,()),((r2.2.1,r2.2.2.2),()))) else (Q0 (h0.13) none λr3=>(Q0 (cK53 h0.Q5L 0 (g3.2 r3)) none λr4=>some (r4.1,((h0,((g3.1,QA g3.2 r3 r4.2.1.1),(g4,()))),())))))
def K36:K36.T:=K36.gen Q3H K53
theorem K36.eq (cK118:Q3H.T) (cK53:K53.T):EqA K36.sig (K36.H cK118 cK53) Tryz.f131 6 (K36.W (K36.gen cK118 cK53)):=by intro a x;kernel_rfl
theorem K36.ok:NK_ 131 K36.sig (K36.W K36):=ok_ Tryz.func131 (K36.eq Q3H K53) (hn_ (Z0 (Z0 Z2 Q3H.ok) K53.ok))
def K30.sig:Sig U:=⟨[.ptr,.int .i64,.int .i64],[.obj .Q4,Q47,Q4u,.fam 10 (.map true false .Qm .Q1o)],0,[],true,[]⟩
abbrev K30.T:Type:=(Int)->(Int)->(Q1)->(Fm Q6)->(Fm Q7)->(Nat×(Nat->List (Q9×List (Int))))->Option (Unit×(Q1×(Fm Q6)×(Fm Q7)×(Nat×(Nat->List (Q9×List (Int))))×Unit)×Unit)
def K30.W (f:K30.T):K30.sig.F:=λa x=>f a.2.1 a.2.2.1 x.1 x.2.1 x.2.2.1 x.2.2.2.1
def K30.Q5g:Qt U:= [(.normal,⟨179,14,[(0,.ptr 13 0 0),(6,.Q1q 13 23 42 8 0)],(13,.obj .Q4)::Q6f⟩)]
def K30.JR18:Qt U:= [(.normal,⟨179,15,[(0,.ptr 13 0 0),(1,vi_),(6,.Q1q 13 23 42 8 0),(9,.ptr 14 0 0)],(13,.obj .Q4)::(14,.obj .QJ)::Q6f⟩)]
def K30.Q6j:Qt U:= [(.normal,⟨179,14,[(0,.ptr 13 0 0),(1,vi_),(6,.Q1q 13 23 42 8 0),(143,vb_)],(13,.obj .Q4)::Q6f⟩)]
def K30.Q7q:Qt U:= [(.normal,⟨179,14,[(0,.ptr 13 0 0),(1,vi_),(6,.Q1q 13 23 42 8 0)],(13,.obj .Q4)::Q6f⟩)]
def K30.JR6:Qt U:= [(.normal,⟨179,15,[(0,.ptr 13 0 0),(1,vi_),(2,vi_),(6,.Q1q 13 23 42 8 0),(7,.ptr 14 0 0)],(13,.obj .Q4)::(14,.obj .QJ)::Q6f⟩)]
def K30.JR5:Qt U:= [(.normal,⟨179,14,[(0,.ptr 13 0 0),(1,vi_),(2,vi_),(6,.Q1q 13 23 42 8 0),(67,vb_)],(13,.obj .Q4)::Q6f⟩)]
def K30.JR3:Qt U:= [(.normal,⟨179,14,[(0,.ptr 13 0 0),(1,vi_),(2,vi_),(6,.Q1q 13 23 42 8 0)],(13,.obj .Q4)::Q6f⟩)]
def K30.JR1:Qt U:= [(.normal,⟨179,14,[(0,.ptr 13 0 0),(1,vi_),(2,vi_),(6,.Q1q 13 23 42 8 0),(23,vb_)],(13,.obj .Q4)::Q6f⟩)]
def K30.JC15:Qt U:= [(.normal,⟨179,14,[(0,.ptr 13 0 0),(1,vi_),(6,.Q1q 13 23 42 8 0),(8,vb_)],(13,.obj .Q4)::Q6f⟩)]
def K30.JC8:Qt U:= [(.normal,⟨179,15,[(0,.ptr 13 0 0),(1,vi_),(6,.Q1q 13 23 42 8 0),(7,.ptr 14 0 0)],(13,.obj .Q4)::(14,.obj .QJ)::Q6f⟩)]
def K30.H (cK29:K29.T) (cK155:Q2T.T) (cK175:Q4j.T) (cK24:K24.T) (cK23:K23.T) (cK137:Q4a.T) (cK12:K12.T) (cK153:Q2a.T) (cK27:K27.T) (cK151:Q24.T) (cK124:Q1S.T) (cK122:Q1N.T) (cK36:K36.T):Hints U:={ Γ:=(Qp 131 (K36.sig.native (K36.W cK36)) (Q1N.N cK122 (Q1S.N cK124 (Q24.N cK151 (K27.N cK27 (Q2a.N cK153 (K12.N cK12 (Qp 130 (Q4a.sig.native (Q4a.W cK137)) (K23.N cK23 (Qp 129 (K24.sig.native (K24.W cK24)) (Qp 128 (Q4j.sig.native (Q4j.W cK175)) (Qp 120 (Q2T.sig.native (Q2T.W cK155)) (K29.N cK29 noΓ))))))))))))),ro:=0,base:=14,Q2J:=jt_ [(1,K30.JR1),(2,K30.JR3),(3,K30.JR3),(5,K30.JR5),(6,K30.JR6),(10,K30.Q7q),(11,K30.Q7q),(16,K30.Q6j),(17,K30.JR18),(18,K30.JR18),(19,K30.Q5g),(20,K30.Q5g)],Q29:=jt_ [(2,K30.JR3),(6,K30.Q7q),(8,K30.JC8),(15,K30.JC15)]}
def K30.gen (cK29:K29.T) (cK155:Q2T.T) (cK175:Q4j.T) (cK24:K24.T) (cK23:K23.T) (cK137:Q4a.T) (cK12:K12.T) (cK153:Q2a.T) (cK27:K27.T) (cK151:Q24.T) (cK124:Q1S.T) (cK122:Q1N.T) (cK36:K36.T):K30.T:=λn now h0 g3 g4 g10=>
 (Q0 (cK29 n h0) none λr0=>(Q0 ((bif ieq (h0.Qu r0.1.1).Q1Z 6 then (Q0 (cK155 (h0.Qu r0.1.1).Q4E) none λr1=>some ((n,(now,(r0.1.1,r1.1))),(Q1.Q1k h0 (QA h0.Qu r0.1.1 (Qc.Q4N (h0.Qu r0.1.1) r1.2.1.1)),(g3,(g4,(g10,())))))) else some ((n,(now,(r0.1.1,(false,())))),(h0,(g3,(g4,(g10,()))))))) none λr2=>(Q0 ((bif r2.1.2.2.2.1 then (Q0 ((Q0 (cK175 r2.2.1.Q1d r2.2.1.Q2I r2.1.1 (r2.2.1.Qu r2.1.2.2.1).Q5P) none λr3=>(Q0 (cK24 r2.2.1 r2.2.2.2.2.1) none λr4=>(Q0 (cK23 r2.1.1 r3.1.1 r4.1.1 false r2.2.1) none λr5=>some ((r2.1.1,(r2.1.2.1,(r2.1.2.2.1,()))),(r5.2.1.1,r2.2.2)))))) none λr6=>(Q0 ((Q0 (cK137 (r6.2.1.Qu r6.1.2.2.1).Q5P) none λr7=>some (r6.1,(Q1.Q1k r6.2.1 (QA r6.2.1.Qu r6.1.2.2.1 (Qc.Q7O (r6.2.1.Qu r6.1.2.2.1) r7.1.1)),r6.2.2)))) none λr8=>(Q0 (cK12 r8.2.1) none λr9=>(Q0 (cK153 r9.1.1 (r8.2.1.Qu r8.1.2.2.1).Q4E) none λr10=>some (r8.1,(Q1.Q1k r8.2.1 (QA r8.2.1.Qu r8.1.2.2.1 (Qc.Q4N (r8.2.1.Qu r8.1.2.2.1) r10.2.1.1)),r8.2.2)))))) else some ((r2.1.1,(r2.1.2.1,(r2.1.2.2.1,()))),r2.2))) none λr11=>(Q0 ((bif ieq (r11.2.1.Qu r11.1.2.2.1).Q1Z 6 then (Q0 (cK155 (r11.2.1.Qu r11.1.2.2.1).fsync) none λr12=>some ((r11.1.1,(r11.1.2.1,(r11.1.2.2.1,r12.1))),(Q1.Q1k r11.2.1 (QA r11.2.1.Qu r11.1.2.2.1 (Qc.Q5I (r11.2.1.Qu r11.1.2.2.1) r12.2.1.1)),r11.2.2))) else some ((r11.1.1,(r11.1.2.1,(r11.1.2.2.1,(false,())))),r11.2))) none λr13=>(Q0 ((bif r13.1.2.2.2.1 then (Q0 ((Q0 (cK27 r13.1.1 r13.2.1) none λr14=>some ((r13.1.1,(r13.1.2.1,(r13.1.2.2.1,()))),(r13.2.1,(Qg.mk 0 r13.2.1.Q1d.Q2i 0 0 r14.1.1 (r13.2.1.Qu r13.1.2.2.1).Q7F r13.2.1.Q1d.Q4v 0 z0_ 0 0 z1_ 0 0 0 0 0 0 0,r13.2.2))))) none λr15=>(Q0 ((bif r15.2.1.Q1d.Q51 then some ((r15.1.1,r15.1.2.2),(r15.2.1,(Qg.Q6K r15.2.2.1 r15.1.2.1,r15.2.2.2))) else some ((r15.1.1,r15.1.2.2),(r15.2.1,(Qg.Q8V r15.2.2.1 512,r15.2.2.2))))) none λr16=>(Q0 ((Q0 (cK23 r16.1.1 r16.2.2.1 (QG QL) (!r16.2.1.Q1d.Q51) r16.2.1) none λr17=>some (r16.1,(r17.2.1.1,r16.2.2.2)))) none λr18=>(Q0 ((Q0 (cK137 (r18.2.1.Qu r18.1.2.1).Q7F) none λr19=>some (r18.1,(Q1.Q1k r18.2.1 (QA r18.2.1.Qu r18.1.2.1 (Qc.Q94 (r18.2.1.Qu r18.1.2.1) r19.1.1)),r18.2.2)))) none λr20=>(Q0 (cK151 r20.2.1.Q1d.Q4v) none λr21=>(Q0 (cK153 r21.1.1 (r20.2.1.Qu r20.1.2.1).fsync) none λr22=>some (r20.1,(Q1.Q1k r20.2.1 (QA r20.2.1.Qu r20.1.2.1 (Qc.Q5I (r20.2.1.Qu r20.1.2.1) r22.2.1.1)),r20.2.2)))))))) else some ((r13.1.1,(r13.1.2.2.1,())),r13.2))) none λr23=>(Q0 (cK124 (r23.2.1.Qu r23.1.2.1).Q1Z) none λr24=>(Q0 ((bif r23.2.1.Q1d.Q4J then (Q0 (cK122 (r23.2.1.Qu r23.1.2.1).Q1Z) none λr25=>some ((r23.1.1,(r23.1.2.1,r25.1)),r23.2)) else some ((r23.1.1,(r23.1.2.1,r24.1)),r23.2))) none λr26=>(Q0 ((bif r26.1.2.2.1 then (Q0 (cK155 (r26.2.1.Qu r26.1.2.1).Q6k) none λr27=>some ((r26.1.1,(r26.1.2.1,r27.1)),(Q1.Q1k r26.2.1 (QA r26.2.1.Qu r26.1.2.1 (Qc.Q5C (r26.2.1.Qu r26.1.2.1) r27.2.1.1)),r26.2.2))) else some ((r26.1.1,(r26.1.2.1,(false,()))),r26.2))) none λr28=>(bif r28.1.2.2.1 then (Q0 ((Q0 (cK36 r28.2.1.Q1d.Q4J (r28.2.1.Qu r28.1.2.1) r28.2.2.1 r28.2.2.2.1) none λr29=>some ((r28.1.1,(r28.1.2.1,())),(Q1.Q1k r28.2.1 (QA r28.2.1.Qu r28.1.2.1 r29.2.1.1),(r29.1.1,(r29.2.1.2.1,(r29.2.1.2.2.1,r28.2.2.2.2))))))) none λr30=>(Q0 ((Q0 (cK23 r30.1.1 (Qg.Q8H r30.2.2.1 r30.2.1.Q1d.Q2i) (QG QL) true r30.2.1) none λr31=>some (r30.1.2,(r31.2.1.1,r30.2.2.2)))) none λr32=>(Q0 ((Q0 (cK137 (r32.2.1.Qu r32.1.1).Q5L) none λr33=>some (r32.1,(Q1.Q1k r32.2.1 (QA r32.2.1.Qu r32.1.1 (Qc.Q81 (r32.2.1.Qu r32.1.1) r33.1.1)),r32.2.2)))) none λr34=>(Q0 (cK151 r34.2.1.Q1d.Q4D) none λr35=>(Q0 (cK153 r35.1.1 (r34.2.1.Qu r34.1.1).Q6k) none λr36=>some ((),((Q1.Q1k r34.2.1 (QA r34.2.1.Qu r34.1.1 (Qc.Q5C (r34.2.1.Qu r34.1.1) r36.2.1.1)),r34.2.2),()))))))) else some ((),(r28.2,())))))))))))
def K30:K30.T:=K30.gen K29 Q2T Q4j K24 K23 Q4a K12 Q2a K27 Q24 Q1S Q1N K36
theorem K30.eq (cK29:K29.T) (cK155:Q2T.T) (cK175:Q4j.T) (cK24:K24.T) (cK23:K23.T) (cK137:Q4a.T) (cK12:K12.T) (cK153:Q2a.T) (cK27:K27.T) (cK151:Q24.T) (cK124:Q1S.T) (cK122:Q1N.T) (cK36:K36.T):EqA K30.sig (K30.H cK29 cK155 cK175 cK24 cK23 cK137 cK12 cK153 cK27 cK151 cK124 cK122 cK36) Tryz.f99 6 (K30.W (K30.gen cK29 cK155 cK175 cK24 cK23 cK137 cK12 cK153 cK27 cK151 cK124 cK122 cK36)):=by intro a x;kernel_rfl
theorem K30.ok:NK_ 99 K30.sig (K30.W K30):=ok_ Tryz.func99 (K30.eq K29 Q2T Q4j K24 K23 Q4a K12 Q2a K27 Q24 Q1S Q1N K36) (hn_ (Z0 (Z0 (Z0 (Z0 (Z0 (Z0 (Z0 (Z0 (Z0 (Z0 (Z0 (Z0 (Z0 Z2 K29.ok) Q2T.ok) Q4j.ok) K24.ok) K23.ok) Q4a.ok) K12.ok) Q2a.ok) K27.ok) Q24.ok) Q1S.ok) Q1N.ok) K36.ok))
def K31.sig:Sig U:=⟨[.ptr,.int .i64],[.obj .Q4,Q4s,Q47,Q4u,Q4z,Q4y,.fam 10 (.map true false .Qm .Q1o)],0,[],true,[]⟩
abbrev K31.T:Type:=(Int)->(Q1)->(Fm Q5)->(Fm Q6)->(Fm Q7)->(Fm Q8)->(Fm Qh)->(Nat×(Nat->List (Q9×List (Int))))->Option (Unit×(Q1×Q69)×Unit)
def K31.W (f:K31.T):K31.sig.F:=λa x=>f a.2.1 x.1 x.2.1 x.2.2.1 x.2.2.2.1 x.2.2.2.2.1 x.2.2.2.2.2.1 x.2.2.2.2.2.2.1
def K31.L0:Shape U:=⟨52,14,[(0,.ptr 13 0 0),(1,vi_),(4,vi_)],(13,.obj .Q4)::Q7s⟩
def K31.X0:Qt U:= [(.exit 0,⟨52,14,[(0,.ptr 13 0 0),(1,vi_)],(13,.obj .Q4)::Q7s⟩)]
abbrev K31.l0T:Type:=((Int×Int×Unit)×(Q1×Q69))->Option (((Int×Unit)×(Q1×Q69)))
def K31.L1:Shape U:=⟨52,14,[(0,.ptr 13 0 0),(1,vi_),(5,vi_)],(13,.obj .Q4)::Q7s⟩
def K31.X1:Qt U:= [(.exit 2,⟨52,14,[],(13,.obj .Q4)::Q7s⟩)]
abbrev K31.l1T:Type:=((Int×Int×Unit)×(Q1×Q69))->Option ((Unit×(Q1×Q69)))
def K31.C:Code:=match Tryz.f92.body with|some c=>c|none=>.skip
def K31.B0:Code:=match (Z3 K31.C).getD 0 .skip with| .loop b=>b| .scope b=>b|_=>.skip
def K31.B1:Code:=match (Z3 K31.C).getD 1 .skip with| .loop b=>b| .scope b=>b|_=>.skip
def K31.Q8p:Qt U:= [(.normal,⟨52,14,[(0,.ptr 13 0 0),(1,vi_),(5,vi_)],(13,.obj .Q4)::Q7s⟩)]
def K31.JR4:Qt U:= [(.normal,⟨52,14,[(0,.ptr 13 0 0),(1,vi_),(4,vi_)],(13,.obj .Q4)::Q7s⟩)]
def K31.JR0:Qt U:= [(.normal,⟨52,14,[(0,.ptr 13 0 0),(1,vi_)],(13,.obj .Q4)::Q7s⟩)]
def K31.H (cK29:K29.T) (cK16:K16.T) (cK12:K12.T) (cK17:K17.T) (cK30:K30.T) (l0:K31.l0T) (l1:K31.l1T):Hints U:={ Γ:=(Qp 99 (K30.sig.native (K30.W cK30)) (Qp 98 (K17.sig.native (K17.W cK17)) (K12.N cK12 (Qp 97 (K16.sig.native (K16.W cK16)) (K29.N cK29 noΓ))))),ro:=0,base:=14,Q2J:=jt_ [(0,K31.JR0),(4,K31.JR4),(10,K31.Q8p)],Q29:=jt_ [(6,K31.JR0)],loop:=jt_ [(2,(Z6 (0,14) K31.L0 K31.X0 l0)),(8,(Z6 (0,14) K31.L1 K31.X1 l1))]}
def K31.Q2n (cK29:K29.T) (cK16:K16.T) (cK12:K12.T) (cK17:K17.T) (cK30:K30.T) (a:(Int×Int×Unit)×(Q1×Q69)):Option (((Int×Int×Unit)×(Q1×Q69))⊕((Unit×(Q1×Q69)))):=
 (bif ile a.1.2.1 a.2.1.Q1d.Q2Z then (Q0 ((Q0 (cK30 a.1.2.1 a.1.1 a.2.1 a.2.2.2.1 a.2.2.2.2.1 a.2.2.2.2.2.2.2.1) none λr0=>some (a.1,(r0.2.1.1,(a.2.2.1,(r0.2.1.2.1,(r0.2.1.2.2.1,(a.2.2.2.2.2.1,(a.2.2.2.2.2.2.1,r0.2.1.2.2.2))))))))) none λr1=>some (.inl ((r1.1.1,(Q2 .i64 r1.1.2.1 1,())),r1.2))) else some (.inr ((),a.2)))
def K31.F1:K31.l1T:=λa=>Z8 (1000000) (K31.Q2n K29 K16 K12 K17 K30) a
def K31.QW (cK29:K29.T) (cK16:K16.T) (cK12:K12.T) (cK17:K17.T) (cK30:K30.T) (a:(Int×Int×Unit)×(Q1×Q69)):Option (((Int×Int×Unit)×(Q1×Q69))⊕(((Int×Unit)×(Q1×Q69)))):=
 (bif ile a.1.2.1 a.2.1.Q1d.Q2Z then (Q0 ((Q0 (cK29 a.1.2.1 a.2.1) none λr0=>(Q0 (cK16 r0.1.1 a.2.1 a.2.2.1 a.2.2.2.2.2.2.2.1) none λr1=>some (a.1,(r1.2.1.1,(r1.2.1.2.1,(a.2.2.2.1,(a.2.2.2.2.1,(a.2.2.2.2.2.1,(a.2.2.2.2.2.2.1,r1.2.1.2.2)))))))))) none λr2=>some (.inl ((r2.1.1,(Q2 .i64 r2.1.2.1 1,())),r2.2))) else some (.inr ((a.1.1,()),a.2)))
def K31.F0:K31.l0T:=λa=>Z8 (1000000) (K31.QW K29 K16 K12 K17 K30) a
def K31.gen (cK29:K29.T) (cK16:K16.T) (cK12:K12.T) (cK17:K17.T) (cK30:K30.T) (l0:K31.l0T) (l1:K31.l1T):K31.T:=λnow h0 g2 g3 g4 g5 g6 g10=>
 (Q0 (l0 ((now,(1:Int),()),Q1.Q9f h0 (Z7 false (Q2 .i64 h0.Q61 1) 1099511627776),g2,g3,g4,g5,g6,g10,())) none λr0=>(Q0 (cK12 r0.2.1) none λr1=>(bif ine r1.1.1 0 then (Q0 ((bif ieq (Q4K r0.2.1.Q61 r1.1.1) 0 then (Q0 (cK17 r0.2.1 r0.2.2.1 r0.2.2.2.1 r0.2.2.2.2.2.1 r0.2.2.2.2.2.2.1) none λr2=>some (r0.1,(r2.2.1.1,(r2.2.1.2.1,(r2.2.1.2.2.1,(r0.2.2.2.2.1,(r2.2.1.2.2.2.1,(r2.2.1.2.2.2.2.1,r0.2.2.2.2.2.2.2)))))))) else some r0)) none λr3=>(Q0 (l1 ((r3.1.1,(1:Int),()),r3.2)) none λr4=>some ((),(r4.2,())))) else none)))
def K31:K31.T:=K31.gen K29 K16 K12 K17 K30 K31.F0 K31.F1
theorem K31.seq1 (cK29:K29.T) (cK16:K16.T) (cK12:K12.T) (cK17:K17.T) (cK30:K30.T) (l0:K31.l0T) (l1:K31.l1T) (a:K31.L1.T):run Tryz.prog (K31.H cK29 cK16 cK12 cK17 cK30 l0 l1) 6 (Option (K31.L1.T⊕ExT K31.X1)) none K31.B1 (K31.L1.enc a) (Zc (0,14) K31.L1 K31.X1)=K31.Q2n cK29 cK16 cK12 cK17 cK30 a:=by kernel_rfl
abbrev K31.h:=K31.H K29 K16 K12 K17 K30 K31.F0 K31.F1
theorem K31.Q3z:LO_ K31.h K31.B1 (Z6 (0,14) K31.L1 K31.X1 K31.F1):=lk_ (hn_ (Z0 (Z0 (Z0 (Z0 (Z0 Z2 K29.ok) K16.ok) K12.ok) K17.ok) K30.ok)) (K31.seq1 K29 K16 K12 K17 K30 K31.F0 K31.F1)
theorem K31.Q1O (cK29:K29.T) (cK16:K16.T) (cK12:K12.T) (cK17:K17.T) (cK30:K30.T) (l0:K31.l0T) (l1:K31.l1T) (a:K31.L0.T):run Tryz.prog (K31.H cK29 cK16 cK12 cK17 cK30 l0 l1) 6 (Option (K31.L0.T⊕ExT K31.X0)) none K31.B0 (K31.L0.enc a) (Zc (0,14) K31.L0 K31.X0)=K31.QW cK29 cK16 cK12 cK17 cK30 a:=by kernel_rfl
theorem K31.Q1D:LO_ K31.h K31.B0 (Z6 (0,14) K31.L0 K31.X0 K31.F0):=lk_ (hn_ (Z0 (Z0 (Z0 (Z0 (Z0 Z2 K29.ok) K16.ok) K12.ok) K17.ok) K30.ok)) (K31.Q1O K29 K16 K12 K17 K30 K31.F0 K31.F1)
theorem K31.eq (cK29:K29.T) (cK16:K16.T) (cK12:K12.T) (cK17:K17.T) (cK30:K30.T) (l0:K31.l0T) (l1:K31.l1T):EqA K31.sig (K31.H cK29 cK16 cK12 cK17 cK30 l0 l1) Tryz.f92 6 (K31.W (K31.gen cK29 cK16 cK12 cK17 cK30 l0 l1)):=by intro a x;kernel_rfl
theorem K31.loops:Z3 K31.C= [(.loop K31.B0),(.loop K31.B1)]:=by kernel_rfl
theorem K31.ok:NK_ 92 K31.sig (K31.W K31):=ok_ Tryz.func92 (K31.eq K29 K16 K12 K17 K30 K31.F0 K31.F1) (hl_ (Z0 (Z0 (Z0 (Z0 (Z0 Z2 K29.ok) K16.ok) K12.ok) K17.ok) K30.ok) (Z4 (by kernel_rfl) K31.Q1D (Z4 (by kernel_rfl) K31.Q3z Z5))) K31.loops
def Q3n.sig:Sig U:=⟨[.isl .u8,.int .i64,.int .i64],[],0,[.bool],false,[]⟩
abbrev Q3n.T:Type:=(List (UInt8))->(Int)->(Int)->Option ((Bool×Unit)×Unit×Unit)
def Q3n.W (f:Q3n.T):Q3n.sig.F:=λa x=>f a.1 a.2.1 a.2.2.1
def Q3n.H:Hints U:={ Γ:=noΓ,ro:=0,base:=13}
def Q3n.gen:Q3n.T:=λb at_1 n=>
 (bif ilt n 0 then some ((true,()),((),())) else (bif ilt at_1 0 then some ((true,()),((),())) else (bif ilt (ofN (List.length b)) at_1 then some ((true,()),((),())) else some ((ilt (Q1e .i64 (ofN (List.length b)) at_1) n,()),((),())))))
def Q3n:Q3n.T:=Q3n.gen
theorem Q3n.ok:NK_ 213 Q3n.sig (Q3n.W Q3n):=ok_ (H:=Q3n.H) (n:=6) Tryz.func213 (by intro a x;kernel_rfl) (hn_ Z2)
def Q1w.sig:Sig U:=⟨[.isl .u8],[],0,[.int .u64],false,[]⟩
abbrev Q1w.T:Type:=(List (UInt8))->Option ((Int×Unit)×Unit×Unit)
def Q1w.W (f:Q1w.T):Q1w.sig.F:=λa x=>f a.1
def Q1w.L0:Shape U:=⟨19,13,[(3,.val (.int .u64)),(6,.val (.isl .u8)),(7,vi_),(8,vi_)],[]⟩
def Q1w.X0:Qt U:= [(.exit 0,⟨19,13,[(3,.val (.int .u64))],[]⟩)]
abbrev Q1w.l0T:Type:=((Int×(List (UInt8))×Int×Int×Unit)×Unit)->Option (((Int×Unit)×Unit))
def Q1w.C:Code:=match Tryz.f214.body with|some c=>c|none=>.skip
def Q1w.B0:Code:=match (Z3 Q1w.C).getD 0 .skip with| .loop b=>b| .scope b=>b|_=>.skip
def Q1w.H (l0:Q1w.l0T):Hints U:={ Γ:=noΓ,ro:=0,base:=13,loop:=jt_ [(3,(Z6 (0,13) Q1w.L0 Q1w.X0 l0))]}
def Q1w.QW (a:(Int×(List (UInt8))×Int×Int×Unit)×Unit):Option (((Int×(List (UInt8))×Int×Int×Unit)×Unit)⊕(((Int×Unit)×Unit))):=
 (bif ilt a.1.2.2.2.1 a.1.2.2.1 then (bif inR a.1.2.2.2.1 (List.length a.1.2.1) then some (.inl ((ior .u64 (Q9d .u64 a.1.1 8) (IntKind.wrap .u64 (ofN (UInt8.toNat (List.getD a.1.2.1 (Int.toNat a.1.2.2.2.1) (0:D UC.u8))))),(a.1.2.1,(a.1.2.2.1,(Q2 .i64 a.1.2.2.2.1 1,())))),())) else none) else some (.inr ((a.1.1,()),())))
def Q1w.F0:Q1w.l0T:=λa=>Z8 (1000000+(a.1.2.1.length)) (Q1w.QW) a
def Q1w.gen (l0:Q1w.l0T):Q1w.T:=λb=>
 (Q0 (l0 (((0:Int),b,ofN (List.length b),(0:Int),()),())) none λr0=>some (r0.1,((),())))
def Q1w:Q1w.T:=Q1w.gen Q1w.F0
theorem Q1w.Q1O (l0:Q1w.l0T) (a:Q1w.L0.T):run Tryz.prog (Q1w.H l0) 6 (Option (Q1w.L0.T⊕ExT Q1w.X0)) none Q1w.B0 (Q1w.L0.enc a) (Zc (0,13) Q1w.L0 Q1w.X0)=Q1w.QW a:=by kernel_rfl
abbrev Q1w.h:=Q1w.H Q1w.F0
theorem Q1w.Q1D:LO_ Q1w.h Q1w.B0 (Z6 (0,13) Q1w.L0 Q1w.X0 Q1w.F0):=lk_ (hn_ Z2) (Q1w.Q1O Q1w.F0)
theorem Q1w.eq (l0:Q1w.l0T):EqA Q1w.sig (Q1w.H l0) Tryz.f214 6 (Q1w.W (Q1w.gen l0)):=by intro a x;kernel_rfl
theorem Q1w.loops:Z3 Q1w.C= [(.loop Q1w.B0)]:=by kernel_rfl
theorem Q1w.ok:NK_ 214 Q1w.sig (Q1w.W Q1w):=ok_ Tryz.func214 (Q1w.eq Q1w.F0) (hl_ Z2 (Z4 (by kernel_rfl) Q1w.Q1D Z5)) Q1w.loops
def K96.sig:Sig U:=⟨[.isl .u8,.int .i64,.int .i64],[],0,[.int .i64,.bool],true,[]⟩
abbrev K96.T:Type:=(List (UInt8))->(Int)->(Int)->Option ((Int×Bool×Unit)×Unit×Unit)
def K96.W (f:K96.T):K96.sig.F:=λa x=>f a.1 a.2.1 a.2.2.1
abbrev K96.N (c:K96.T):=Qp 185 (K96.sig.native (K96.W c))
def K96.H (cK101:Q3n.T) (cK102:Q1w.T):Hints U:={ Γ:=(Qp 214 (Q1w.sig.native (Q1w.W cK102)) (Qp 213 (Q3n.sig.native (Q3n.W cK101)) noΓ)),ro:=0,base:=13,Q1T:=jt_ [(1,[(19,vb_)])]}
def K96.gen (cK101:Q3n.T) (cK102:Q1w.T):K96.T:=λb at_1 n=>
 (Q0 ((bif ilt n 1 then some (true,()) else (bif ilt 7 n then some (true,()) else (Q0 (cK101 b at_1 n) none λr0=>some r0.1)))) none λr1=>(bif r1.1 then some (((0:Int),(false,())),((),())) else (bif le3 at_1 (Q2 .i64 at_1 n) (List.length b) then (Q0 (cK102 (List.drop (Int.toNat at_1) (List.take (Int.toNat (Q2 .i64 at_1 n)) b))) none λr2=>some ((IntKind.wrap .i64 r2.1.1,(true,())),((),()))) else none)))
def K96:K96.T:=K96.gen Q3n Q1w
theorem K96.eq (cK101:Q3n.T) (cK102:Q1w.T):EqA K96.sig (K96.H cK101 cK102) Tryz.f185 6 (K96.W (K96.gen cK101 cK102)):=by intro a x;kernel_rfl
theorem K96.ok:NK_ 185 K96.sig (K96.W K96):=ok_ Tryz.func185 (K96.eq Q3n Q1w) (hn_ (Z0 (Z0 Z2 Q3n.ok) Q1w.ok))
def Q2w.sig:Sig U:=⟨[.isl .u8,.int .i64,.int .i64],[],0,[.int .i64,.bool],true,[]⟩
abbrev Q2w.T:Type:=(List (UInt8))->(Int)->(Int)->Option ((Int×Bool×Unit)×Unit×Unit)
def Q2w.W (f:Q2w.T):Q2w.sig.F:=λa x=>f a.1 a.2.1 a.2.2.1
abbrev Q2w.N (c:Q2w.T):=Qp 196 (Q2w.sig.native (Q2w.W c))
def Q2w.H (cK101:Q3n.T) (cK102:Q1w.T):Hints U:={ Γ:=(Qp 214 (Q1w.sig.native (Q1w.W cK102)) (Qp 213 (Q3n.sig.native (Q3n.W cK101)) noΓ)),ro:=0,base:=13,Q1T:=jt_ [(1,[(20,vb_)])]}
def Q2w.gen (cK101:Q3n.T) (cK102:Q1w.T):Q2w.T:=λb at_1 n=>
 (Q0 ((bif ilt n 1 then some (true,()) else (bif ilt 8 n then some (true,()) else (Q0 (cK101 b at_1 n) none λr0=>some r0.1)))) none λr1=>(bif r1.1 then some (((0:Int),(false,())),((),())) else (bif le3 at_1 (Q2 .i64 at_1 n) (List.length b) then (Q0 (cK102 (List.drop (Int.toNat at_1) (List.take (Int.toNat (Q2 .i64 at_1 n)) b))) none λr2=>(bif ile 0 (Q1e .i64 64 (Q2A .i64 8 n)) then (bif ile 0 (Q1e .i64 64 (Q2A .i64 8 n)) then some ((Q5M .i64 (IntKind.wrap .i64 (Q9d .u64 r2.1.1 (Q1e .i64 64 (Q2A .i64 8 n)))) (Q1e .i64 64 (Q2A .i64 8 n)),(true,())),((),())) else none) else none)) else none)))
def Q2w:Q2w.T:=Q2w.gen Q3n Q1w
theorem Q2w.eq (cK101:Q3n.T) (cK102:Q1w.T):EqA Q2w.sig (Q2w.H cK101 cK102) Tryz.f196 6 (Q2w.W (Q2w.gen cK101 cK102)):=by intro a x;kernel_rfl
theorem Q2w.ok:NK_ 196 Q2w.sig (Q2w.W Q2w):=ok_ Tryz.func196 (Q2w.eq Q3n Q1w) (hn_ (Z0 (Z0 Z2 Q3n.ok) Q1w.ok))
def K97.sig:Sig U:=⟨[.isl .u8,.int .i64],[],0,[.int .u64,.bool],true,[]⟩
abbrev K97.T:Type:=(List (UInt8))->(Int)->Option ((Int×Bool×Unit)×Unit×Unit)
def K97.W (f:K97.T):K97.sig.F:=λa x=>f a.1 a.2.1
abbrev K97.N (c:K97.T):=Qp 170 (K97.sig.native (K97.W c))
def K97.H (cK100:Q2w.T):Hints U:={ Γ:=(Q2w.N cK100 noΓ),ro:=0,base:=13}
def K97.gen (cK100:Q2w.T):K97.T:=λb at_1=>
 (Q0 (cK100 b at_1 8) none λr0=>some ((IntKind.wrap .u64 r0.1.1,r0.1.2),((),())))
def K97:K97.T:=K97.gen Q2w
theorem K97.eq (cK100:Q2w.T):EqA K97.sig (K97.H cK100) Tryz.f170 6 (K97.W (K97.gen cK100)):=by intro a x;kernel_rfl
theorem K97.ok:NK_ 170 K97.sig (K97.W K97):=ok_ Tryz.func170 (K97.eq Q2w) (hn_ (Z0 Z2 Q2w.ok))
def K75.sig:Sig U:=⟨[.isl .u8,.int .i64],[],0,[.data .Qm,.bool],true,[]⟩
abbrev K75.T:Type:=(List (UInt8))->(Int)->Option ((Q9×Bool×Unit)×Unit×Unit)
def K75.W (f:K75.T):K75.sig.F:=λa x=>f a.1 a.2.1
def K75.H (cK97:K97.T) (cK96:K96.T):Hints U:={ Γ:=(K96.N cK96 (K97.N cK97 noΓ)),ro:=0,base:=13,Q1T:=jt_ [(1,[(24,vb_)])]}
def K75.gen (cK97:K97.T) (cK96:K96.T):K75.T:=λb at_1=>
 (Q0 ((bif ilt at_1 0 then some (true,()) else (bif ilt (ofN (List.length b)) at_1 then some (true,()) else some (ilt (Q1e .i64 (ofN (List.length b)) at_1) 10,())))) none λr0=>(bif r0.1 then some ((Q9.mk 0 0,(false,())),((),())) else (Q0 (cK97 b at_1) none λr1=>(Q0 (cK96 b (Q2 .i64 at_1 8) 2) none λr2=>some ((Q9.mk r1.1.1 r2.1.1,(true,())),((),()))))))
def K75:K75.T:=K75.gen K97 K96
theorem K75.eq (cK97:K97.T) (cK96:K96.T):EqA K75.sig (K75.H cK97 cK96) Tryz.f197 6 (K75.W (K75.gen cK97 cK96)):=by intro a x;kernel_rfl
theorem K75.ok:NK_ 197 K75.sig (K75.W K75):=ok_ Tryz.func197 (K75.eq K97 K96) (hn_ (Z0 (Z0 Z2 K97.ok) K96.ok))
def K69.sig:Sig U:=⟨[.isl .u8],[],0,[.data .QJ,.int .i64,.int .i64],true,[]⟩
abbrev K69.T:Type:=(List (UInt8))->Option ((Qg×Int×Int×Unit)×Unit×Unit)
def K69.W (f:K69.T):K69.sig.F:=λa x=>f a.1
def K69.H (cK96:K96.T) (cK70:K70.T) (cK73:K73.T) (cK100:Q2w.T) (cK75:K75.T):Hints U:={ Γ:=(Qp 197 (K75.sig.native (K75.W cK75)) (Q2w.N cK100 (K73.N cK73 (Qp 194 (K70.sig.native (K70.W cK70)) (K96.N cK96 noΓ))))),ro:=0,base:=13,Q1T:=jt_ [(4,[(17,vb_)])]}
def K69.gen (cK96:K96.T) (cK70:K70.T) (cK73:K73.T) (cK100:Q2w.T) (cK75:K75.T):K69.T:=λb=>
 (bif ilt (ofN (List.length b)) 34 then some ((Qg.mk 0 0 0 0 z0_ 0 0 0 z0_ 0 0 z1_ 0 0 0 0 0 0 0,((0:Int),((2:Int),()))),((),())) else (Q0 (cK96 b 2 2) none λr0=>(Q0 ((bif inR 0 (List.length b) then (Q0 (cK70 (IntKind.wrap .i64 (ofN (UInt8.toNat (List.getD b (Int.toNat 0) (0:D UC.u8)))))) none λr1=>(bif !r1.1.1 then some (true,()) else (bif inR 1 (List.length b) then (bif ine (Q50 .u8 (ofN (UInt8.toNat (List.getD b (Int.toNat 1) (0:D UC.u8)))) 15) 2 then some (true,()) else (Q0 (cK73 r0.1.1 34 400) none λr2=>some (!r2.1.1,()))) else none))) else none)) none λr3=>(bif r3.1 then some ((Qg.mk 0 0 0 0 z0_ 0 0 0 z0_ 0 0 z1_ 0 0 0 0 0 0 0,((0:Int),((4:Int),()))),((),())) else (bif ilt (ofN (List.length b)) r0.1.1 then some ((Qg.mk 0 0 0 0 z0_ 0 0 0 z0_ 0 0 z1_ 0 0 0 0 0 0 0,((0:Int),((2:Int),()))),((),())) else (bif ilt r0.1.1 (ofN (List.length b)) then some ((Qg.mk 0 0 0 0 z0_ 0 0 0 z0_ 0 0 z1_ 0 0 0 0 0 0 0,((0:Int),((3:Int),()))),((),())) else (bif inR 0 (List.length b) then (bif inR 4 (List.length b) then (Q0 (cK96 b 6 2) none λr4=>(Q0 (cK100 b 8 8) none λr5=>(Q0 (cK75 b 20) none λr6=>(Q0 (cK96 b 30 2) none λr7=>(Q0 (cK100 b 33 1) none λr8=>some ((Qg.mk (IntKind.wrap .i64 (ofN (UInt8.toNat (List.getD b (Int.toNat 0) (0:D UC.u8))))) (IntKind.wrap .i64 (ofN (UInt8.toNat (List.getD b (Int.toNat 4) (0:D UC.u8))))) r4.1.1 r5.1.1 r6.1.1 r7.1.1 r8.1.1 0 z0_ 0 0 z1_ 0 0 0 0 0 0 0,(r0.1.1,((0:Int),()))),((),()))))))) else none) else none)))))))
def K69:K69.T:=K69.gen K96 K70 K73 Q2w K75
theorem K69.eq (cK96:K96.T) (cK70:K70.T) (cK73:K73.T) (cK100:Q2w.T) (cK75:K75.T):EqA K69.sig (K69.H cK96 cK70 cK73 cK100 cK75) Tryz.f166 6 (K69.W (K69.gen cK96 cK70 cK73 cK100 cK75)):=by intro a x;kernel_rfl
theorem K69.ok:NK_ 166 K69.sig (K69.W K69):=ok_ Tryz.func166 (K69.eq K96 K70 K73 Q2w K75) (hn_ (Z0 (Z0 (Z0 (Z0 (Z0 Z2 K96.ok) K70.ok) K73.ok) Q2w.ok) K75.ok))
def K2.sig:Sig U:=⟨[.int .i64],[],0,[.int .i64],false,[]⟩
abbrev K2.T:Type:=(Int)->Option ((Int×Unit)×Unit×Unit)
def K2.W (f:K2.T):K2.sig.F:=λa x=>f a.1
def K2.JC8:Qt U:= [(.normal,⟨18,13,[(3,vi_),(9,vb_)],[]⟩)]
def K2.JC6:Qt U:= [(.normal,⟨18,13,[],[]⟩),
 (.ret,⟨18,13,[(2,vi_)],[]⟩)]
def K2.JC3:Qt U:= [(.normal,⟨18,13,[(3,vi_),(4,vb_)],[]⟩)]
def K2.H:Hints U:={ Γ:=noΓ,ro:=0,base:=13,Q29:=jt_ [(3,K2.JC3),(6,K2.JC6),(8,K2.JC8)]}
def K2.gen:K2.T:=λtyp=>
 (Q0 ((bif ieq typ 0 then some ((typ,(ieq typ 0,())),()) else (bif ieq typ 1 then some ((typ,(ieq typ 1,())),()) else (bif ieq typ 8 then some ((typ,(ieq typ 8,())),()) else some ((typ,(ieq typ 12,())),()))))) none λr0=>(Q0 ((bif r0.1.2.1 then some (.inr (((10:Int),()),())) else (Q0 ((bif ieq r0.1.1 2 then some ((r0.1.1,(ieq r0.1.1 2,())),()) else (bif ieq r0.1.1 3 then some ((r0.1.1,(ieq r0.1.1 3,())),()) else (bif ieq r0.1.1 10 then some ((r0.1.1,(ieq r0.1.1 10,())),()) else some ((r0.1.1,(ieq r0.1.1 9,())),()))))) none λr1=>(bif r1.1.2.1 then some (.inr (((20:Int),()),())) else (bif ieq r1.1.1 11 then some (.inr (((30:Int),()),())) else (bif ieq r1.1.1 13 then some (.inr (((14:Int),()),())) else some (.inl ((),())))))))) none λr2=>(Q3B r2 (λr3=>some (((0:Int),()),((),()))) (λr3=>some (r3.1,((),()))))))
def K2:K2.T:=K2.gen
theorem K2.ok:NK_ 198 K2.sig (K2.W K2):=ok_ (H:=K2.H) (n:=6) Tryz.func198 (by intro a x;kernel_rfl) (hn_ Z2)
def Q3Q.sig:Sig U:=⟨[.isl .u8,.int .i64],[],0,[.int .i64,.bool],true,[]⟩
abbrev Q3Q.T:Type:=(List (UInt8))->(Int)->Option ((Int×Bool×Unit)×Unit×Unit)
def Q3Q.W (f:Q3Q.T):Q3Q.sig.F:=λa x=>f a.1 a.2.1
def Q3Q.H (cK96:K96.T) (cK148:Q28.T):Hints U:={ Γ:=(Q28.N cK148 (K96.N cK96 noΓ)),ro:=0,base:=13,Q1T:=jt_ [(1,[(24,vb_)]),(5,[(51,vb_)])]}
def Q3Q.gen (cK96:K96.T) (cK148:Q28.T):Q3Q.T:=λb at_1=>
 (Q0 ((bif ilt at_1 0 then some (true,()) else (bif ilt (ofN (List.length b)) at_1 then some (true,()) else some (ilt (Q1e .i64 (ofN (List.length b)) at_1) 10,())))) none λr0=>(bif r0.1 then some (((0:Int),(false,())),((),())) else (Q0 (cK96 b at_1 6) none λr1=>(Q0 (cK96 b (Q2 .i64 at_1 6) 4) none λr2=>(Q0 ((bif ile 1000000000 r2.1.1 then some (true,()) else (bif ilt 4000000 r1.1.1 then some (true,()) else (Q0 (cK148 (Q2 .i64 (Q2A .i64 r1.1.1 1000000000) r2.1.1)) none λr3=>some (!r3.1.1,()))))) none λr4=>(bif r4.1 then some (((0:Int),(false,())),((),())) else some ((Q2 .i64 (Q2A .i64 r1.1.1 1000000000) r2.1.1,(true,())),((),()))))))))
def Q3Q:Q3Q.T:=Q3Q.gen K96 Q28
theorem Q3Q.eq (cK96:K96.T) (cK148:Q28.T):EqA Q3Q.sig (Q3Q.H cK96 cK148) Tryz.f200 6 (Q3Q.W (Q3Q.gen cK96 cK148)):=by intro a x;kernel_rfl
theorem Q3Q.ok:NK_ 200 Q3Q.sig (Q3Q.W Q3Q):=ok_ Tryz.func200 (Q3Q.eq K96 Q28) (hn_ (Z0 (Z0 Z2 K96.ok) Q28.ok))
def Q3I.sig:Sig U:=⟨[.isl .u8,.int .i64],[],0,[.data .Q2y,.bool],true,[]⟩
abbrev Q3I.T:Type:=(List (UInt8))->(Int)->Option ((QU×Bool×Unit)×Unit×Unit)
def Q3I.W (f:Q3I.T):Q3I.sig.F:=λa x=>f a.1 a.2.1
def Q3I.H (cK96:K96.T):Hints U:={ Γ:=(K96.N cK96 noΓ),ro:=0,base:=13,Q1T:=jt_ [(1,[(21,vb_)])]}
def Q3I.gen (cK96:K96.T):Q3I.T:=λb at_1=>
 (Q0 ((bif ilt at_1 0 then some (true,()) else (bif ilt (ofN (List.length b)) at_1 then some (true,()) else some (ilt (Q1e .i64 (ofN (List.length b)) at_1) 4,())))) none λr0=>(bif r0.1 then some ((QU.mk 0 0 0,(false,())),((),())) else (Q0 (cK96 b at_1 1) none λr1=>(Q0 (cK96 b (Q2 .i64 at_1 1) 1) none λr2=>(Q0 (cK96 b (Q2 .i64 at_1 2) 2) none λr3=>some ((QU.mk r1.1.1 r2.1.1 r3.1.1,(true,())),((),())))))))
def Q3I:Q3I.T:=Q3I.gen K96
theorem Q3I.eq (cK96:K96.T):EqA Q3I.sig (Q3I.H cK96) Tryz.f202 6 (Q3I.W (Q3I.gen cK96)):=by intro a x;kernel_rfl
theorem Q3I.ok:NK_ 202 Q3I.sig (Q3I.W Q3I):=ok_ Tryz.func202 (Q3I.eq K96) (hn_ (Z0 Z2 K96.ok))
def K1.sig:Sig U:=⟨[.data .QJ,.isl .u8,.int .i64],[],0,[.data .QJ,.int .i64,.int .i64],true,[]⟩
abbrev K1.T:Type:=(Qg)->(List (UInt8))->(Int)->Option ((Qg×Int×Int×Unit)×Unit×Unit)
def K1.W (f:K1.T):K1.sig.F:=λa x=>f a.1 a.2.1 a.2.2.1
def K1.C:Code:=match Tryz.f167.body with|some c=>c|none=>.skip
def K1.B0:Code:=match (Z3 K1.C).getD 0 .skip with| .loop b=>b| .scope b=>b|_=>.skip
def K1.JC14:Qt U:= [(.normal,⟨151,15,[(3,.ptr 13 0 0),(6,.ptr 14 0 0),(9,vi_),(10,vi_)],[(13,.obj .QJ),(14,.obj .QJ)]⟩)]
def K1.Q7c:Qt U:= [(.normal,⟨151,15,[(1,.val (.isl .u8)),(2,vi_),(3,.ptr 13 0 0),(6,.ptr 14 0 0),(9,vi_),(10,vi_)],[(13,.obj .QJ),(14,.obj .QJ)]⟩)]
def K1.H (cK2:K2.T) (cK6:K6.T) (cK147:Q3Q.T) (cK7:K7.T) (cK75:K75.T) (cK100:Q2w.T) (cK96:K96.T) (cK128:Q3I.T) (cK97:K97.T):Hints U:={ Γ:=(K97.N cK97 (Qp 202 (Q3I.sig.native (Q3I.W cK128)) (K96.N cK96 (Q2w.N cK100 (Qp 197 (K75.sig.native (K75.W cK75)) (K7.N cK7 (Qp 200 (Q3Q.sig.native (Q3Q.W cK147)) (K6.N cK6 (Qp 198 (K2.sig.native (K2.W cK2)) noΓ))))))))),ro:=0,base:=13,Q1T:=jt_ [(2,[(31,vb_)]),(4,[(40,vb_)])],Q29:=jt_ [(10,K1.Q7c),(14,K1.JC14)],gotos:=3,loop:=λb=>none}
def K1.gen (cK2:K2.T) (cK6:K6.T) (cK147:Q3Q.T) (cK7:K7.T) (cK75:K75.T) (cK100:Q2w.T) (cK96:K96.T) (cK128:Q3I.T) (cK97:K97.T):K1.T:=λm b at_2=>
 (Q0 (cK2 m.fType) none λr0=>(Q0 ((bif ilt at_2 0 then some (true,()) else (bif ilt (ofN (List.length b)) at_2 then some (true,()) else some (ilt (Q1e .i64 (ofN (List.length b)) at_2) r0.1.1,())))) none λr1=>(bif r1.1 then some ((Qg.mk 0 0 0 0 z0_ 0 0 0 z0_ 0 0 z1_ 0 0 0 0 0 0 0,((0:Int),((2:Int),()))),((),())) else (Q0 ((bif ieq r0.1.1 0 then some (true,()) else (Q0 (cK6 m.fType) none λr2=>some (!r2.1.1,())))) none λr3=>(bif r3.1 then (Q0 (cK7 m.fType) none λr4=>(Q0 ((bif r4.1.1 then (Q0 (cK75 b at_2) none λr5=>some ((b,(Q2 .i64 at_2 10,(at_2,r0.1))),(Qg.Q6n m r5.1.1,(Qg.mk 0 0 0 0 z0_ 0 0 0 z0_ 0 0 z1_ 0 0 0 0 0 0 0,())))) else some ((b,(at_2,(at_2,r0.1))),(m,(Qg.mk 0 0 0 0 z0_ 0 0 0 z0_ 0 0 z1_ 0 0 0 0 0 0 0,()))))) none λr6=>(Q0 ((bif ieq r6.2.1.fType 11 then (Q0 (cK100 r6.1.1 r6.1.2.1 2) none λr7=>(Q0 (cK96 r6.1.1 (Q2 .i64 r6.1.2.1 3) 1) none λr8=>(Q0 (cK128 r6.1.1 (Q2 .i64 r6.1.2.1 4)) none λr9=>(Q0 (cK96 r6.1.1 (Q2 .i64 r6.1.2.1 8) 1) none λr10=>(Q0 (cK97 r6.1.1 (Q2 .i64 r6.1.2.1 9)) none λr11=>(Q0 (cK96 r6.1.1 (Q2 .i64 r6.1.2.1 17) 2) none λr12=>(Q0 (cK96 r6.1.1 (Q2 .i64 r6.1.2.1 19) 1) none λr13=>some (r6.1.2.2,(Qg.Q6i (Qg.Q6G (Qg.Q6F (Qg.Q5D (Qg.Q4B (Qg.Q4C (Qg.Q7n r6.2.1 r7.1.1) r8.1.1) r9.1.1) r10.1.1) r11.1.1) r12.1.1) r13.1.1,r6.2.2))))))))) else (bif ieq r6.2.1.fType 13 then (bif inR r6.1.2.1 (List.length r6.1.1) then (bif inR (Q2 .i64 r6.1.2.1 1) (List.length r6.1.1) then (bif inR (Q2 .i64 r6.1.2.1 2) (List.length r6.1.1) then some (r6.1.2.2,(Qg.Q6o (Qg.Q6V (Qg.Q5E r6.2.1 (IntKind.wrap .i64 (ofN (UInt8.toNat (List.getD r6.1.1 (Int.toNat r6.1.2.1) (0:D UC.u8)))))) (IntKind.wrap .i64 (ofN (UInt8.toNat (List.getD r6.1.1 (Int.toNat (Q2 .i64 r6.1.2.1 1)) (0:D UC.u8)))))) (IntKind.wrap .i64 (Q50 .u8 (ofN (UInt8.toNat (List.getD r6.1.1 (Int.toNat (Q2 .i64 r6.1.2.1 2)) (0:D UC.u8)))) 15)),r6.2.2)) else none) else none) else none) else some (r6.1.2.2,r6.2)))) none λr14=>some ((r14.2.1,(Q2 .i64 r14.1.1 r14.1.2.1,((0:Int),()))),((),()))))) else (Q0 (cK147 b at_2) none λr15=>(bif !r15.1.2.1 then some ((Qg.mk 0 0 0 0 z0_ 0 0 0 z0_ 0 0 z1_ 0 0 0 0 0 0 0,((0:Int),((10:Int),()))),((),())) else (Q0 (cK7 m.fType) none λr16=>(Q0 ((bif r16.1.1 then (Q0 (cK75 b (Q2 .i64 at_2 10)) none λr17=>some ((b,(Q2 .i64 (Q2 .i64 at_2 10) 10,(at_2,r0.1))),(Qg.Q6n (Qg.Q6K m r15.1.1) r17.1.1,(Qg.mk 0 0 0 0 z0_ 0 0 0 z0_ 0 0 z1_ 0 0 0 0 0 0 0,())))) else some ((b,(Q2 .i64 at_2 10,(at_2,r0.1))),(Qg.Q6K m r15.1.1,(Qg.mk 0 0 0 0 z0_ 0 0 0 z0_ 0 0 z1_ 0 0 0 0 0 0 0,()))))) none λr18=>(Q0 ((bif ieq r18.2.1.fType 11 then (Q0 (cK100 r18.1.1 r18.1.2.1 2) none λr19=>(Q0 (cK96 r18.1.1 (Q2 .i64 r18.1.2.1 3) 1) none λr20=>(Q0 (cK128 r18.1.1 (Q2 .i64 r18.1.2.1 4)) none λr21=>(Q0 (cK96 r18.1.1 (Q2 .i64 r18.1.2.1 8) 1) none λr22=>(Q0 (cK97 r18.1.1 (Q2 .i64 r18.1.2.1 9)) none λr23=>(Q0 (cK96 r18.1.1 (Q2 .i64 r18.1.2.1 17) 2) none λr24=>(Q0 (cK96 r18.1.1 (Q2 .i64 r18.1.2.1 19) 1) none λr25=>some (r18.1.2.2,(Qg.Q6i (Qg.Q6G (Qg.Q6F (Qg.Q5D (Qg.Q4B (Qg.Q4C (Qg.Q7n r18.2.1 r19.1.1) r20.1.1) r21.1.1) r22.1.1) r23.1.1) r24.1.1) r25.1.1,r18.2.2))))))))) else (bif ieq r18.2.1.fType 13 then (bif inR r18.1.2.1 (List.length r18.1.1) then (bif inR (Q2 .i64 r18.1.2.1 1) (List.length r18.1.1) then (bif inR (Q2 .i64 r18.1.2.1 2) (List.length r18.1.1) then some (r18.1.2.2,(Qg.Q6o (Qg.Q6V (Qg.Q5E r18.2.1 (IntKind.wrap .i64 (ofN (UInt8.toNat (List.getD r18.1.1 (Int.toNat r18.1.2.1) (0:D UC.u8)))))) (IntKind.wrap .i64 (ofN (UInt8.toNat (List.getD r18.1.1 (Int.toNat (Q2 .i64 r18.1.2.1 1)) (0:D UC.u8)))))) (IntKind.wrap .i64 (Q50 .u8 (ofN (UInt8.toNat (List.getD r18.1.1 (Int.toNat (Q2 .i64 r18.1.2.1 2)) (0:D UC.u8)))) 15)),r18.2.2)) else none) else none) else none) else some (r18.1.2.2,r18.2)))) none λr26=>some ((r26.2.1,(Q2 .i64 r26.1.1 r26.1.2.1,((0:Int),()))),((),()))))))))))))
def K1:K1.T:=K1.gen K2 K6 Q3Q K7 K75 Q2w K96 Q3I K97
theorem K1.eq (cK2:K2.T) (cK6:K6.T) (cK147:Q3Q.T) (cK7:K7.T) (cK75:K75.T) (cK100:Q2w.T) (cK96:K96.T) (cK128:Q3I.T) (cK97:K97.T):EqA K1.sig (K1.H cK2 cK6 cK147 cK7 cK75 cK100 cK96 cK128 cK97) Tryz.f167 6 (K1.W (K1.gen cK2 cK6 cK147 cK7 cK75 cK100 cK96 cK128 cK97)):=by intro a x;kernel_rfl
theorem K1.loops:Z3 K1.C= [(.scope K1.B0)]:=by kernel_rfl
theorem K1.ok:NK_ 167 K1.sig (K1.W K1):=ok_ Tryz.func167 (K1.eq K2 K6 Q3Q K7 K75 Q2w K96 Q3I K97) (hl_ (Z0 (Z0 (Z0 (Z0 (Z0 (Z0 (Z0 (Z0 (Z0 Z2 K2.ok) K6.ok) Q3Q.ok) K7.ok) K75.ok) Q2w.ok) K96.ok) Q3I.ok) K97.ok) (Zt Z5)) K1.loops
def Q1B.sig:Sig U:=⟨[.isl .u8,.int .i64],[],0,[.isl .Q1m,.int .i64],true,[]⟩
abbrev Q1B.T:Type:=(List (UInt8))->(Int)->Option (((List (QL))×Int×Unit)×Unit×Unit)
def Q1B.W (f:Q1B.T):Q1B.sig.F:=λa x=>f a.1 a.2.1
def Q1B.L1:Shape U:=⟨81,14,[(0,.val (.isl .u8)),(1,vi_),(6,.own .Q1m 13),(7,vi_)],[(13,.tok)]⟩
def Q1B.X1:Qt U:= [(.exit 0,⟨81,14,[(6,.own .Q1m 13),(7,vi_)],[(13,.tok)]⟩)]
abbrev Q1B.l1T:Type:=(((List (UInt8))×Int×(List (QL))×Int×Unit)×Unit)->Option ((((List (QL))×Int×Unit)×Unit))
def Q1B.C:Code:=match Tryz.f168.body with|some c=>c|none=>.skip
def Q1B.B0:Code:=match (Z3 Q1B.C).getD 0 .skip with| .loop b=>b| .scope b=>b|_=>.skip
def Q1B.B1:Code:=match (Z3 Q1B.C).getD 1 .skip with| .loop b=>b| .scope b=>b|_=>.skip
def Q1B.JC8:Qt U:= [(.normal,⟨81,14,[(0,.val (.isl .u8)),(1,vi_),(6,.own .Q1m 13),(7,vi_),(8,vi_)],[(13,.tok)]⟩)]
def Q1B.H (cK96:K96.T) (l1:Q1B.l1T):Hints U:={ Γ:=(K96.N cK96 noΓ),ro:=0,base:=13,Q1T:=jt_ [(1,[(19,vb_)]),(9,[(35,vb_)])],Q29:=jt_ [(8,Q1B.JC8)],loop:=jt_ [(5,(Z6 (0,13) Q1B.L1 Q1B.X1 l1))]}
def Q1B.Q2n (cK96:K96.T) (a:((List (UInt8))×Int×(List (QL))×Int×Unit)×Unit):Option ((((List (UInt8))×Int×(List (QL))×Int×Unit)×Unit)⊕((((List (QL))×Int×Unit)×Unit))):=
 (bif ilt a.1.2.1 (ofN (List.length a.1.1)) then (Q0 (cK96 a.1.1 (Q2 .i64 a.1.2.1 2) 2) none λr0=>(Q0 ((bif ieq (ofN (List.length a.1.2.2.1)) 8 then some ((a.1.1,(a.1.2.1,(a.1.2.2.1,((7:Int),(r0.1.1,()))))),()) else (Q0 ((bif !r0.1.2.1 then some (true,()) else some (ilt (Q1e .i64 (Q1e .i64 (ofN (List.length a.1.1)) a.1.2.1) 4) r0.1.1,()))) none λr1=>(bif r1.1 then some ((a.1.1,(a.1.2.1,(a.1.2.2.1,((2:Int),(r0.1.1,()))))),()) else (bif ine (Q4K r0.1.1 2) 0 then some ((a.1.1,(a.1.2.1,(a.1.2.2.1,((4:Int),(r0.1.1,()))))),()) else some ((a.1.1,(a.1.2.1,(a.1.2.2.1,(a.1.2.2.2.1,(r0.1.1,()))))),())))))) none λr2=>(bif ine r2.1.2.2.2.1 0 then some (.inr ((r2.1.2.2.1,(r2.1.2.2.2.1,())),())) else (Q0 (cK96 r2.1.1 r2.1.2.1 2) none λr3=>(bif le3 (Q2 .i64 r2.1.2.1 4) (Q2 .i64 (Q2 .i64 r2.1.2.1 4) r2.1.2.2.2.2.1) (List.length r2.1.1) then (bif room (List.length r2.1.2.2.1+List.length (QL.mk r3.1.1 (ByteArray.mk (List.toArray (List.drop (Int.toNat (Q2 .i64 r2.1.2.1 4)) (List.take (Int.toNat (Q2 .i64 (Q2 .i64 r2.1.2.1 4) r2.1.2.2.2.2.1)) r2.1.1))))::QG QL)) 24 then some (.inl ((r2.1.1,(Q2 .i64 r2.1.2.1 (Q2 .i64 4 r2.1.2.2.2.2.1),(r2.1.2.2.1++QL.mk r3.1.1 (ByteArray.mk (List.toArray (List.drop (Int.toNat (Q2 .i64 r2.1.2.1 4)) (List.take (Int.toNat (Q2 .i64 (Q2 .i64 r2.1.2.1 4) r2.1.2.2.2.2.1)) r2.1.1))))::QG QL,(r2.1.2.2.2.1,())))),())) else none) else none))))) else some (.inr (a.1.2.2,())))
def Q1B.F1:Q1B.l1T:=λa=>Z8 (1000000+(a.1.1.length+a.1.2.2.1.length)) (Q1B.Q2n K96) a
def Q1B.gen (cK96:K96.T) (l1:Q1B.l1T):Q1B.T:=λb at_1=>
 (Q0 ((bif ilt at_1 0 then some (true,()) else some (ilt (ofN (List.length b)) at_1,()))) none λr0=>(bif r0.1 then some ((QG QL,((1:Int),())),((),())) else (Q0 (l1 ((b,at_1,QG QL,(0:Int),()),())) none λr1=>(bif ine r1.1.2.1 0 then some ((QG QL,r1.1.2),((),())) else some ((r1.1.1,((0:Int),())),((),()))))))
def Q1B:Q1B.T:=Q1B.gen K96 Q1B.F1
theorem Q1B.seq1 (cK96:K96.T) (l1:Q1B.l1T) (a:Q1B.L1.T):run Tryz.prog (Q1B.H cK96 l1) 6 (Option (Q1B.L1.T⊕ExT Q1B.X1)) none Q1B.B1 (Q1B.L1.enc a) (Zc (0,13) Q1B.L1 Q1B.X1)=Q1B.Q2n cK96 a:=by kernel_rfl
abbrev Q1B.h:=Q1B.H K96 Q1B.F1
theorem Q1B.Q3z:LO_ Q1B.h Q1B.B1 (Z6 (0,13) Q1B.L1 Q1B.X1 Q1B.F1):=lk_ (hn_ (Z0 Z2 K96.ok)) (Q1B.seq1 K96 Q1B.F1)
theorem Q1B.eq (cK96:K96.T) (l1:Q1B.l1T):EqA Q1B.sig (Q1B.H cK96 l1) Tryz.f168 6 (Q1B.W (Q1B.gen cK96 l1)):=by intro a x;kernel_rfl
theorem Q1B.loops:Z3 Q1B.C= [(.scope Q1B.B0),(.loop Q1B.B1)]:=by kernel_rfl
theorem Q1B.ok:NK_ 168 Q1B.sig (Q1B.W Q1B):=ok_ Tryz.func168 (Q1B.eq K96 Q1B.F1) (hl_ (Z0 Z2 K96.ok) (Zt (Z4 (by kernel_rfl) Q1B.Q3z Z5))) Q1B.loops
def K65.sig:Sig U:=⟨[.str],[],0,[.data .QJ,.isl .Q1m,.int .i64],true,[]⟩
abbrev K65.T:Type:=(ByteArray)->Option ((Qg×(List (QL))×Int×Unit)×Unit×Unit)
def K65.W (f:K65.T):K65.sig.F:=λa x=>f a.1
def K65.C:Code:=match Tryz.f132.body with|some c=>c|none=>.skip
def K65.B0:Code:=match (Z3 K65.C).getD 0 .skip with| .loop b=>b| .scope b=>b|_=>.skip
def K65.H (cK69:K69.T) (cK1:K1.T) (cK158:Q1B.T):Hints U:={ Γ:=(Qp 168 (Q1B.sig.native (Q1B.W cK158)) (Qp 167 (K1.sig.native (K1.W cK1)) (Qp 166 (K69.sig.native (K69.W cK69)) noΓ))),ro:=0,base:=13,gotos:=3,loop:=λb=>none}
def K65.gen (cK69:K69.T) (cK1:K1.T) (cK158:Q1B.T):K65.T:=λb=>
 (Q0 (cK69 b.data.toList) none λr0=>(bif ine r0.1.2.2.1 0 then some ((Qg.mk 0 0 0 0 z0_ 0 0 0 z0_ 0 0 z1_ 0 0 0 0 0 0 0,(QG QL,r0.1.2.2)),((),())) else (Q0 (cK1 r0.1.1 b.data.toList 34) none λr1=>(bif ine r1.1.2.2.1 0 then some ((Qg.mk 0 0 0 0 z0_ 0 0 0 z0_ 0 0 z1_ 0 0 0 0 0 0 0,(QG QL,r1.1.2.2)),((),())) else (Q0 (cK158 b.data.toList r1.1.2.1) none λr2=>(bif ine r2.1.2.1 0 then some ((Qg.mk 0 0 0 0 z0_ 0 0 0 z0_ 0 0 z1_ 0 0 0 0 0 0 0,(QG QL,r2.1.2)),((),())) else some ((r1.1.1,(r2.1.1,((0:Int),()))),((),()))))))))
def K65:K65.T:=K65.gen K69 K1 Q1B
theorem K65.eq (cK69:K69.T) (cK1:K1.T) (cK158:Q1B.T):EqA K65.sig (K65.H cK69 cK1 cK158) Tryz.f132 6 (K65.W (K65.gen cK69 cK1 cK158)):=by intro a x;kernel_rfl
theorem K65.loops:Z3 K65.C= [(.scope K65.B0)]:=by kernel_rfl
theorem K65.ok:NK_ 132 K65.sig (K65.W K65):=ok_ Tryz.func132 (K65.eq K69 K1 Q1B) (hl_ (Z0 (Z0 (Z0 Z2 K69.ok) K1.ok) Q1B.ok) (Zt Z5)) K65.loops
def K66.sig:Sig U:=⟨[.str,.int .i64],[],0,[.data .QJ,.isl .Q1m,.int .i64],true,[]⟩
abbrev K66.T:Type:=(ByteArray)->(Int)->Option ((Qg×(List (QL))×Int×Unit)×Unit×Unit)
def K66.W (f:K66.T):K66.sig.F:=λa x=>f a.1 a.2.1
def K66.H (cK65:K65.T):Hints U:={ Γ:=(Qp 132 (K65.sig.native (K65.W cK65)) noΓ),ro:=0,base:=13,Q1T:=jt_ [(2,[(23,vb_)])]}
def K66.gen (cK65:K65.T):K66.T:=λb domain=>
 (Q0 (cK65 b) none λr0=>(Q0 ((bif ieq r0.1.2.2.1 0 then some (ine r0.1.1.Q2i domain,()) else some (false,()))) none λr1=>(bif r1.1 then some ((Qg.mk 0 0 0 0 z0_ 0 0 0 z0_ 0 0 z1_ 0 0 0 0 0 0 0,(QG QL,((6:Int),()))),((),())) else some (r0.1,((),())))))
def K66:K66.T:=K66.gen K65
theorem K66.eq (cK65:K65.T):EqA K66.sig (K66.H cK65) Tryz.f100 6 (K66.W (K66.gen cK65)):=by intro a x;kernel_rfl
theorem K66.ok:NK_ 100 K66.sig (K66.W K66):=ok_ Tryz.func100 (K66.eq K65) (hn_ (Z0 Z2 K65.ok))
def Q1I.sig:Sig U:=⟨[.isl .Q1m,.int .i64],[],0,[.data .Q1m,.bool],true,[]⟩
abbrev Q1I.T:Type:=(List (QL))->(Int)->Option ((QL×Bool×Unit)×Unit×Unit)
def Q1I.W (f:Q1I.T):Q1I.sig.F:=λa x=>f a.1 a.2.1
def Q1I.L0:Shape U:=⟨21,14,[(1,vi_),(4,.ptr 13 0 0),(8,.val (.isl .Q1m)),(9,vi_),(10,vi_)],[(13,.obj .Q1m)]⟩
def Q1I.X0:Qt U:= [(.exit 0,⟨21,14,[(4,.ptr 13 0 0)],[(13,.obj .Q1m)]⟩),
 (.ret,⟨21,14,[(4,.ptr 13 0 0),(5,vb_)],[(13,.obj .Q1m)]⟩)]
abbrev Q1I.l0T:Type:=((Int×(List (QL))×Int×Int×Unit)×(QL×Unit))->Option ((Unit×(QL×Unit))⊕((Bool×Unit)×(QL×Unit)))
def Q1I.C:Code:=match Tryz.f133.body with|some c=>c|none=>.skip
def Q1I.B0:Code:=match (Z3 Q1I.C).getD 0 .skip with| .loop b=>b| .scope b=>b|_=>.skip
def Q1I.H (l0:Q1I.l0T):Hints U:={ Γ:=noΓ,ro:=0,base:=13,loop:=jt_ [(2,(Z6 (0,13) Q1I.L0 Q1I.X0 l0))]}
def Q1I.QW (a:(Int×(List (QL))×Int×Int×Unit)×(QL×Unit)):Option (((Int×(List (QL))×Int×Int×Unit)×(QL×Unit))⊕((Unit×(QL×Unit))⊕((Bool×Unit)×(QL×Unit)))):=
 (bif ilt a.1.2.2.2.1 a.1.2.2.1 then (bif inR a.1.2.2.2.1 (List.length a.1.2.1) then (bif ieq (List.getD a.1.2.1 (Int.toNat a.1.2.2.2.1) QL.zero).fType a.1.1 then some (.inr (.inr ((true,()),(List.getD a.1.2.1 (Int.toNat a.1.2.2.2.1) QL.zero,())))) else some (.inl ((a.1.1,(a.1.2.1,(a.1.2.2.1,(Q2 .i64 a.1.2.2.2.1 1,())))),a.2))) else none) else some (.inr (.inl ((),a.2))))
def Q1I.F0:Q1I.l0T:=λa=>Z8 (1000000+(a.1.2.1.length)) (Q1I.QW) a
def Q1I.gen (l0:Q1I.l0T):Q1I.T:=λl typ=>
 (Q0 (l0 ((typ,l,ofN (List.length l),(0:Int),()),QL.mk 0 (ByteArray.mk (List.toArray (QG UInt8))),())) none λr0=>(Q3B r0 (λr1=>some ((QL.mk 0 (ByteArray.mk (List.toArray (QG UInt8))),(false,())),((),()))) (λr1=>some ((r1.2.1,r1.1),((),())))))
def Q1I:Q1I.T:=Q1I.gen Q1I.F0
theorem Q1I.Q1O (l0:Q1I.l0T) (a:Q1I.L0.T):run Tryz.prog (Q1I.H l0) 6 (Option (Q1I.L0.T⊕ExT Q1I.X0)) none Q1I.B0 (Q1I.L0.enc a) (Zc (0,13) Q1I.L0 Q1I.X0)=Q1I.QW a:=by kernel_rfl
abbrev Q1I.h:=Q1I.H Q1I.F0
theorem Q1I.Q1D:LO_ Q1I.h Q1I.B0 (Z6 (0,13) Q1I.L0 Q1I.X0 Q1I.F0):=lk_ (hn_ Z2) (Q1I.Q1O Q1I.F0)
theorem Q1I.eq (l0:Q1I.l0T):EqA Q1I.sig (Q1I.H l0) Tryz.f133 6 (Q1I.W (Q1I.gen l0)):=by intro a x;kernel_rfl
theorem Q1I.loops:Z3 Q1I.C= [(.loop Q1I.B0)]:=by kernel_rfl
theorem Q1I.ok:NK_ 133 Q1I.sig (Q1I.W Q1I):=ok_ Tryz.func133 (Q1I.eq Q1I.F0) (hl_ Z2 (Z4 (by kernel_rfl) Q1I.Q1D Z5)) Q1I.loops
def Q3i.sig:Sig U:=⟨[.data .Q1m],[],0,[.bool],false,[]⟩
abbrev Q3i.T:Type:=(QL)->Option ((Bool×Unit)×Unit×Unit)
def Q3i.W (f:Q3i.T):Q3i.sig.F:=λa x=>f a.1
def Q3i.JC14:Qt U:= [(.normal,⟨50,14,[(1,.ptr 13 0 0),(3,vi_),(8,vi_),(29,vb_)],[(13,.obj .Q1m)]⟩)]
def Q3i.JC4:Qt U:= [(.normal,⟨50,14,[(1,.ptr 13 0 0)],[(13,.obj .Q1m)]⟩),
 (.ret,⟨50,13,[(2,vb_)],[]⟩)]
def Q3i.H:Hints U:={ Γ:=noΓ,ro:=0,base:=13,Q29:=jt_ [(4,Q3i.JC4),(14,Q3i.JC14)]}
def Q3i.gen:Q3i.T:=λt=>
 (Q0 ((bif ieq t.fType 1 then some (.inr ((ile 2 (ofN (ByteArray.size t.Q4I)),()),())) else (bif ieq t.fType 2 then some (.inr ((ile 8 (ofN (ByteArray.size t.Q4I)),()),())) else (bif ieq t.fType 3 then some (.inr ((ile 6 (ofN (ByteArray.size t.Q4I)),()),())) else (bif ieq t.fType 4 then some (.inr ((ieq (ofN (ByteArray.size t.Q4I)) 6,()),())) else (bif ieq t.fType 5 then some (.inr ((ieq (ofN (ByteArray.size t.Q4I)) 8,()),())) else (Q0 ((bif ieq t.fType 6 then some ((ofN (ByteArray.size t.Q4I),(t.fType,(ieq t.fType 6,()))),(t,())) else some ((ofN (ByteArray.size t.Q4I),(t.fType,(ieq t.fType 7,()))),(t,())))) none λr0=>(bif r0.1.2.2.1 then some (.inr ((ieq r0.1.1 2,()),())) else (bif ieq r0.1.2.1 8 then (bif ieq (Q4K r0.1.1 8) 0 then some (.inr ((ile r0.1.1 128,()),())) else some (.inr ((false,()),()))) else (bif ieq r0.1.2.1 9 then some (.inr ((ile 16 r0.1.1,()),())) else some (.inl ((),r0.2)))))))))))) none λr1=>(Q3B r1 (λr2=>some ((ieq r2.2.1.fType 32776,()),((),()))) (λr2=>some (r2.1,((),())))))
def Q3i:Q3i.T:=Q3i.gen
theorem Q3i.ok:NK_ 169 Q3i.sig (Q3i.W Q3i):=ok_ (H:=Q3i.H) (n:=6) Tryz.func169 (by intro a x;kernel_rfl) (hn_ Z2)
def Q1J.sig:Sig U:=⟨[.data .Q1m],[],0,[.isl .u64,.bool],true,[]⟩
abbrev Q1J.T:Type:=(QL)->Option (((List (Int))×Bool×Unit)×Unit×Unit)
def Q1J.W (f:Q1J.T):Q1J.sig.F:=λa x=>f a.1
def Q1J.L0:Shape U:=⟨36,15,[(1,.ptr 13 0 0),(4,.own .u64 14),(5,vi_)],[(13,.obj .Q1m),(14,.tok)]⟩
def Q1J.X0:Qt U:= [(.exit 0,⟨36,14,[(4,.own .u64 13)],[(13,.tok)]⟩)]
abbrev Q1J.l0T:Type:=(((List (Int))×Int×Unit)×(QL×Unit))->Option ((((List (Int))×Unit)×Unit))
def Q1J.C:Code:=match Tryz.f134.body with|some c=>c|none=>.skip
def Q1J.B0:Code:=match (Z3 Q1J.C).getD 0 .skip with| .loop b=>b| .scope b=>b|_=>.skip
def Q1J.H (cK159:Q3i.T) (cK97:K97.T) (l0:Q1J.l0T):Hints U:={ Γ:=(K97.N cK97 (Qp 169 (Q3i.sig.native (Q3i.W cK159)) noΓ)),ro:=0,base:=13,Q1T:=jt_ [(1,[(15,vb_)])],loop:=jt_ [(5,(Z6 (0,13) Q1J.L0 Q1J.X0 l0))]}
def Q1J.QW (cK159:Q3i.T) (cK97:K97.T) (a:((List (Int))×Int×Unit)×(QL×Unit)):Option ((((List (Int))×Int×Unit)×(QL×Unit))⊕((((List (Int))×Unit)×Unit))):=
 (bif ilt a.1.2.1 (ofN (ByteArray.size a.2.1.Q4I)) then (Q0 (cK97 a.2.1.Q4I.data.toList a.1.2.1) none λr0=>(bif room (List.length a.1.1+List.length (r0.1.1::QG Int)) 8 then some (.inl ((a.1.1++r0.1.1::QG Int,(Q2 .i64 a.1.2.1 8,())),a.2)) else none)) else some (.inr ((a.1.1,()),())))
def Q1J.F0:Q1J.l0T:=λa=>Z8 (1000000+(a.1.1.length)) (Q1J.QW Q3i K97) a
def Q1J.gen (cK159:Q3i.T) (cK97:K97.T) (l0:Q1J.l0T):Q1J.T:=λt=>
 (Q0 ((bif ine t.fType 8 then some (true,()) else (Q0 (cK159 t) none λr0=>some (!r0.1.1,())))) none λr1=>(bif r1.1 then some ((QG Int,(false,())),((),())) else (Q0 (l0 ((QG Int,(0:Int),()),t,())) none λr2=>some ((r2.1.1,(true,())),((),())))))
def Q1J:Q1J.T:=Q1J.gen Q3i K97 Q1J.F0
theorem Q1J.Q1O (cK159:Q3i.T) (cK97:K97.T) (l0:Q1J.l0T) (a:Q1J.L0.T):run Tryz.prog (Q1J.H cK159 cK97 l0) 6 (Option (Q1J.L0.T⊕ExT Q1J.X0)) none Q1J.B0 (Q1J.L0.enc a) (Zc (0,13) Q1J.L0 Q1J.X0)=Q1J.QW cK159 cK97 a:=by kernel_rfl
abbrev Q1J.h:=Q1J.H Q3i K97 Q1J.F0
theorem Q1J.Q1D:LO_ Q1J.h Q1J.B0 (Z6 (0,13) Q1J.L0 Q1J.X0 Q1J.F0):=lk_ (hn_ (Z0 (Z0 Z2 Q3i.ok) K97.ok)) (Q1J.Q1O Q3i K97 Q1J.F0)
theorem Q1J.eq (cK159:Q3i.T) (cK97:K97.T) (l0:Q1J.l0T):EqA Q1J.sig (Q1J.H cK159 cK97 l0) Tryz.f134 6 (Q1J.W (Q1J.gen cK159 cK97 l0)):=by intro a x;kernel_rfl
theorem Q1J.loops:Z3 Q1J.C= [(.loop Q1J.B0)]:=by kernel_rfl
theorem Q1J.ok:NK_ 134 Q1J.sig (Q1J.W Q1J):=ok_ Tryz.func134 (Q1J.eq Q3i K97 Q1J.F0) (hl_ (Z0 (Z0 Z2 Q3i.ok) K97.ok) (Z4 (by kernel_rfl) Q1J.Q1D Z5)) Q1J.loops
end
end Go.Proofs.YtbfinmemoemakaaGreat
