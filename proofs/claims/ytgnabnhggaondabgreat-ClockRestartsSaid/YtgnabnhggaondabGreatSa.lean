/- Typed forms of the functions that these statements reach, proved equal to what the model runs, and laws over them. -/
import Derived.Test.YtgnabnhggaondabGreatT
namespace Go.Proofs.YtgnabnhggaondabGreat
open Go.Rf
set_option linter.unusedVariables false
set_option linter.unusedSimpArgs false
set_option maxRecDepth 100000
noncomputable section
abbrev vi_:JV UC:= .val (.int .i64)
abbrev vb_:JV UC:= .val (.bool)
abbrev Q8C:NK UC:= .fam 0 (.obj .Q7)
abbrev Q5Z:NK UC:= .fam 1 (.obj .Q1t)
abbrev Q58:NK UC:= .fam 2 (.obj .QA)
abbrev Q51:NK UC:= .fam 3 (.obj .Q14)
abbrev Q5o:NK UC:= .fam 4 (.obj .Q15)
abbrev Q5S:NK UC:= .fam 5 (.obj .Q19)
abbrev Q5y:NK UC:= .fam 6 (.obj .Q1k)
abbrev EqA (s:Sig U) (H:Hints U) (f:Func) (n:Nat) (g:s.F):Prop:=∀(a:Ts U s.Q4t) (x:HTs U s.heap),Q83 Tryz.prog H f n none s.fin (s.args a) (s.start x) s.base=g a x
theorem hq {Hn:Hints U} (hΓ:ZM U Tryz.prog Hn.Γ) {l:List Code} (hl:∀b N,.loop b∈l->Hn.loop (Zg b)=some N->ZI U Tryz.prog Hn.ro Hn.base b N) (h1:∀lb,Hn.label lb=none) (h2:∀f,Hn.inl f=none):Q4c U Tryz.prog Hn (λc=>c∈l):=Z14 Q61 Q4F mixed hΓ hl (Z7I h1) (Z2e h2)
abbrev NK_ (k:Nat) (s:Sig U) (F:s.F):Prop:=Zy U Tryz.prog k (s.native F)
abbrev HO_ (H:Hints U) (l:List Code):Prop:=Q4c U Tryz.prog H (λc=>c∈l)
abbrev LO_ (H:Hints U) (b:Code) (N:Z2B U):Prop:=ZI U Tryz.prog H.ro H.base b N
theorem hl_ {H:Hints U} (hΓ:ZM U Tryz.prog H.Γ) {l:List Code} (hl:∀b N,.loop b∈l->H.loop (Zg b)=some N->LO_ H b N) (h1:∀lb,H.label lb=none:=by exact λ_=>rfl) (h2:∀f,H.inl f=none:=by exact λ_=>rfl):HO_ H l:=hq hΓ hl h1 h2
theorem hn_ {H:Hints U} (hΓ:ZM U Tryz.prog H.Γ) (h1:∀lb,H.label lb=none:=by exact λ_=>rfl) (h2:∀f,H.inl f=none:=by exact λ_=>rfl):HO_ H []:=hq hΓ Z5 h1 h2
def cd_ (f:Func):Code:=match f.body with|some c=>c|none=>.skip
def jt_ {α:Type _}:List (Nat×α)->Nat->Option α
 | [],_=>none
 |(k,v)::r,b=>bif Nat.beq b k then some v else jt_ r b
theorem ok_ {s:Sig U} {F:s.F} {H:Hints U} {k n:Nat} {f:Func} {l:List Code} (hf:Tryz.prog.funcs[k]? =some f) (he:EqA s H f n F) (hH:HO_ H l) (hl:Z3 (cd_ f)=l:=by kernel_rfl) (hb:f.body=some (cd_ f):=by kernel_rfl) (hn:(f.name== "runtime.NumGoroutine")=false:=by kernel_rfl) (h1:H.ro=s.roN:=by rfl) (h2:H.base=s.base:=by rfl) (h3:s.Q8h=true:=by decide) (h4:s.Q4t.length<=f.ntmps:=by decide):NK_ k s F:=Sig.ok s F Q4F hH hf hb hn (λb h=>by rw [hl] at h;exact h) h1 h2 h3 he h4
theorem lk_ {H:Hints U} {b:Code} {p:Shape U} {l:Qm U} {F:p.T->Option (ExT l)} {rounds:p.T->Nat} {round:p.T->Option (p.T⊕ExT l)} {n:Nat} (hH:HO_ H []) (hs:∀x,run Tryz.prog H n (Option (p.T⊕ExT l)) none b (p.enc x) (Zi (H.ro,H.base) p l)=round x) (hi:Z3 b= []:=by kernel_rfl) (hF:∀x,F x=Z8 (rounds x) round x:=by exact λ_=>rfl):LO_ H b (Z9 (H.ro,H.base) p l F):=Z2Q Q61 Q4F (Z1F hH n) (λb h=>by rw [hi] at h;exact h) hF hs
abbrev Fm (α:Type):=Nat×(Nat->α)
abbrev z0_:=Qf.mk (0:Int) (0:Int)
abbrev z1_:=Qy.mk (0:Int) (0:Int) (0:Int)
abbrev z2_:=Q9.mk (0:Int) (0:Int) (0:Int) (0:Int) z0_ (0:Int) (0:Int) (0:Int) z0_ (0:Int) (0:Int) z1_ (0:Int) (0:Int) (0:Int) (0:Int) (0:Int) (0:Int) (0:Int)
abbrev z3_:=QT.mk (0:Int)
abbrev z4_:=Q1d.mk (0:Int) (0:Int) (0:Int)
abbrev z5_:=Q16.mk (0:Int) false
abbrev z6_:=Qj.mk (0:Int) z1_ (0:Int) (0:Int) (0:Int) z0_ z0_
abbrev z7_:=Q8.mk (0:Int) (0:Int) (0:Int) (0:Int) (0:Int) z1_ false (0:Int) (0:Int) (0:Int) (0:Int) false false (0:Int) (0:Int) (0:Int) (0:Int) z4_ false
abbrev z8_:=(1:Int)::(0:Int)::(0:Int)::(0:Int)::(-3:Int)::(-3:Int)::(-3:Int)::(2:Int)::(1:Int)::(0:Int)::(0:Int)::(0:Int)::(-32768:Int)::(0:Int)::(0:Int)::Qn Int
abbrev z9_:=(8:Int)::(127:Int)::(255:Int)::(255:Int)::(4:Int)::(4:Int)::(4:Int)::(10:Int)::(15:Int)::(2000:Int)::(2000:Int)::(1000000000:Int)::(32767:Int)::(63:Int)::(255:Int)::Qn Int
abbrev Q45 (c:Q8):=c.Qv::c.Q1v::c.Q17::c.Q18::c.Q3z::c.Q2G::c.Q2E::c.Q3b::c.Q3M::c.fKp::c.fKi::c.Q55::c.Q1b.Q37::c.Q1b.Q1W::c.Q1b.Q1N::Qn Int
abbrev Q4M:List (Nat×JH UC):= [(1,.Q1P false .Q1t),(2,.Q1P false .QA),(3,.Q1P false .Q14),(4,.Q1P false .Q15),(5,.Q1P false .Q19),(6,.Q1P false .Q1k),(7,.Q3K true false .Qw .Q1R)]
abbrev Q6a:List (Nat×JH UC):= [(2,.Q1P false .QA),(7,.Q3K true false .Qw .Q1R)]
abbrev Q73:List (Nat×JH UC):= [(1,.Q1P false .Q1t),(3,.Q1P false .Q14),(4,.Q1P false .Q15),(5,.Q1P false .Q19),(6,.Q1P false .Q1k)]
abbrev Q5z:List (Nat×JH UC):= [(0,.Q1P false .Q7),(1,.Q1P false .Q1t),(2,.Q1P false .QA),(3,.Q1P false .Q14),(4,.Q1P false .Q15),(5,.Q1P false .Q19),(6,.Q1P false .Q1k),(7,.Q3K true false .Qw .Q1R)]
abbrev Q62:List (Nat×JH UC):= [(2,.Q1P false .QA),(3,.Q1P false .Q14),(5,.Q1P false .Q19),(6,.Q1P false .Q1k)]
abbrev Q7n:List (Nat×JH UC):= [(3,.Q1P false .Q14),(4,.Q1P false .Q15),(7,.Q3K true false .Qw .Q1R)]
abbrev Q8K:List (Nat×JH UC):= [(2,.Q1P false .QA),(3,.Q1P false .Q14),(4,.Q1P false .Q15),(5,.Q1P false .Q19),(6,.Q1P false .Q1k),(7,.Q3K true false .Qw .Q1R)]
abbrev hT7_:List (Nat×JH UC):= [(2,.Q1P false .QA),(3,.Q1P false .Q14),(4,.Q1P false .Q15),(6,.Q1P false .Q1k),(7,.Q3K true false .Qw .Q1R)]
abbrev hT8_:List (Nat×JH UC):= [(3,.Q1P false .Q14),(6,.Q1P false .Q1k)]
abbrev hT9_:List (Nat×JH UC):= [(0,.Q1P false .Q7),(1,.Q1P false .Q1t),(2,.Q1P false .QA)]
abbrev Q2S:Type:=(Fm Q1)×(Fm Qp)×(Fm Qb)×(Fm Qg)×(Fm Qc)×(Fm Qh)×(Fm QB)×(Nat×(Nat->List (Qf×List (Int))))×Unit
abbrev Q5m:Type:=(Fm Qp)×(Fm Qb)×(Fm Qg)×(Fm Qc)×(Fm Qh)×(Fm QB)×(Nat×(Nat->List (Qf×List (Int))))×Unit
abbrev Q76:Type:=(Fm Qb)×(Fm Qg)×(Fm Qh)×(Fm QB)×Unit
abbrev Q72:Type:=(Fm Qb)×(Fm Qg)×(Fm Qc)×(Fm Qh)×(Fm QB)×(Nat×(Nat->List (Qf×List (Int))))×Unit
abbrev Q7I:Type:=(Fm Qb)×(Nat×(Nat->List (Qf×List (Int))))×Unit
abbrev Q8Q:Type:=(Fm Qp)×(Fm Qg)×(Fm Qc)×(Fm Qh)×(Fm QB)×Unit
abbrev Q8L:Type:=(Fm Q1)×(Fm Qp)×(Fm Qb)×Unit
abbrev Q9Z:Type:=(Fm Bool)×(Fm Qb)×(Fm Qg)×(Fm Qh)×(Fm QB)×Unit
def K93.sig:Sig U:=⟨[.int .i64,.int .i64],[],0,[.int .i64],false,[]⟩
abbrev K93.T:Type:=(Int)->(Int)->Option ((Int×Unit)×Unit×Unit)
def K93.W (f:K93.T):K93.sig.F:=λa x=>f a.1 a.2.1
abbrev K93.N (c:K93.T):=Qk 21 (K93.sig.native (K93.W c))
def K93.JC3:Qm U:= [(.normal,⟨15,8,[(5,vi_)],[]⟩)]
def K93.H:Hints U:={ Γ:=noΓ,ro:=0,base:=8,Q27:=jt_ [(3,K93.JC3)]}
def K93.gen:K93.T:=λv n=>
 (bif ine n 0 then (Q0 ((bif ilt (Q5Q v n) 0 then some ((Q4 .i64 (Q5Q v n) n,()),()) else some ((Q5Q v n,()),()))) none λr0=>some (r0.1,((),()))) else none)
def K93:K93.T:=K93.gen
theorem K93.ok:NK_ 21 K93.sig (K93.W K93):=ok_ (H:=K93.H) (n:=6) Tryz.func21 (by intro a x;kernel_rfl) (hn_ Z2)
def Q4r.sig:Sig U:=⟨[.int .u64],[],0,[.data .Q1e],false,[]⟩
abbrev Q4r.T:Type:=(Int)->Option ((Q8×Unit)×Unit×Unit)
def Q4r.W (f:Q4r.T):Q4r.sig.F:=λa x=>f a.1
def Q4r.H:Hints U:={ Γ:=noΓ,ro:=0,base:=8}
def Q4r.gen:Q4r.T:=λclock=>
 some ((Q8.mk clock 1 0 128 128 (Qy.mk 248 254 65535) false 1 0 0 3 false false 5 700 300 20000 (Q1d.mk 37 8 160) false,()),((),()))
def Q4r:Q4r.T:=Q4r.gen
theorem Q4r.ok:NK_ 20 Q4r.sig (Q4r.W Q4r):=ok_ (H:=Q4r.H) (n:=6) Tryz.func20 (by intro a x;kernel_rfl) (hn_ Z2)
def K92.sig:Sig U:=⟨[.int .i64,.int .i64,.ptr],[.obj .Q6e],1,[.int .i64],false,[]⟩
abbrev K92.T:Type:=(Int)->(Int)->(List (Int))->Option ((Int×Unit)×Unit×Unit)
def K92.W (f:K92.T):K92.sig.F:=λa x=>f a.1 a.2.1 x.1
def K92.H (cK93:K93.T):Hints U:={ Γ:=(K93.N cK93 noΓ),ro:=9,base:=9}
def K92.gen (cK93:K93.T):K92.T:=λi n h0=>
 (bif ilt i (ofN (List.length h0)) then (bif inR i (List.length h0) then (Q0 (cK93 (List.getD h0 (Int.toNat i) (0:D UC.int)) n) none λr0=>some (r0.1,((),()))) else none) else some (((-1:Int),()),((),())))
def K92:K92.T:=K92.gen K93
theorem K92.eq (cK93:K93.T):EqA K92.sig (K92.H cK93) Tryz.f22 6 (K92.W (K92.gen cK93)):=by intro a x;kernel_rfl
theorem K92.ok:NK_ 22 K92.sig (K92.W K92):=ok_ Tryz.func22 (K92.eq K93) (hn_ (Z0 Z2 K93.ok))
def K91.sig:Sig U:=⟨[.int .i64,.isl .int],[],0,[.data .Q1e],false,[]⟩
abbrev K91.T:Type:=(Int)->(List (Int))->Option ((Q8×Unit)×Unit×Unit)
def K91.W (f:K91.T):K91.sig.F:=λa x=>f a.1 a.2.1
def K91.JC39:Qm U:= [(.normal,⟨115,10,[(4,.ptr 8 0 0),(5,.ptr 9 0 0)],[(8,.obj .Q1e),(9,.obj .Q1e)]⟩)]
def K91.Q7s:Qm U:= [(.normal,⟨115,11,[(4,.ptr 8 0 0),(5,.ptr 9 0 0),(6,.clo 22 [(10,0,0)])],[(8,.obj .Q1e),(9,.obj .Q1e),(10,.obj .Q6e)]⟩)]
def K91.H (cK93:K93.T) (cK152:Q4r.T) (cK92:K92.T):Hints U:={ Γ:=(Qk 22 (K92.sig.native (K92.W cK92)) (Qk 20 (Q4r.sig.native (Q4r.W cK152)) (K93.N cK93 noΓ))),ro:=0,base:=8,Q27:=jt_ [(5,K91.Q7s),(8,K91.Q7s),(11,K91.Q7s),(14,K91.Q7s),(17,K91.Q7s),(20,K91.Q7s),(23,K91.Q7s),(26,K91.Q7s),(31,K91.Q7s),(34,K91.Q7s),(39,K91.JC39)]}
def K91.gen (cK93:K93.T) (cK152:Q4r.T) (cK92:K92.T):K91.T:=λid l=>
 (Q0 (cK93 id 1000) none λr0=>(Q0 (cK152 (IntKind.wrap .u64 (Q4 .i64 1 r0.1.1))) none λr1=>(Q0 (cK92 0 4 l) none λr2=>(Q0 ((bif ile 0 r2.1.1 then some ((),(Q8.mk 0 0 0 0 0 z1_ false 0 0 0 0 false false 0 0 0 0 z4_ false,(Q8.Q9d r1.1.1 (Q4 .i64 1 r2.1.1),(l,())))) else some ((),(Q8.mk 0 0 0 0 0 z1_ false 0 0 0 0 false false 0 0 0 0 z4_ false,(r1.1.1,(l,())))))) none λr3=>(Q0 (cK92 1 4 r3.2.2.2.1) none λr4=>(Q0 ((bif ile 0 r4.1.1 then some ((),(r3.2.1,(Q8.Q4K r3.2.2.1 (Q4 .i64 126 r4.1.1),r3.2.2.2))) else some ((),r3.2))) none λr5=>(Q0 (cK92 2 3 r5.2.2.2.1) none λr6=>(Q0 ((bif ile 0 r6.1.1 then (bif inR r6.1.1 3 then some ((),(r5.2.1,(Q8.Q4L r5.2.2.1 (Qy.Q99 r5.2.2.1.Qu (List.getD ((248:Int)::(6:Int)::(187:Int)::Qn Int) (Int.toNat r6.1.1) 0)),r5.2.2.2))) else none) else some ((),r5.2))) none λr7=>(Q0 (cK92 3 4 r7.2.2.2.1) none λr8=>(Q0 ((bif ile 0 r8.1.1 then some ((),(r7.2.1,(Q8.Q8w r7.2.2.1 (Q1K .i64 r8.1.1 3),r7.2.2.2))) else some ((),r7.2))) none λr9=>(Q0 (cK92 4 4 r9.2.2.2.1) none λr10=>(Q0 ((bif ile 0 r10.1.1 then some ((),(r9.2.1,(Q8.Q86 r9.2.2.1 (Q1K .i64 r10.1.1 3),r9.2.2.2))) else some ((),r9.2))) none λr11=>(Q0 (cK92 5 4 r11.2.2.2.1) none λr12=>(Q0 ((bif ile 0 r12.1.1 then some ((),(r11.2.1,(Q8.Q9G r11.2.2.1 (Q1K .i64 r12.1.1 3),r11.2.2.2))) else some ((),r11.2))) none λr13=>(Q0 (cK92 6 4 r13.2.2.2.1) none λr14=>(Q0 ((bif ile 0 r14.1.1 then some ((),(r13.2.1,(Q8.Q8g r13.2.2.1 (Q4 .i64 2 r14.1.1),r13.2.2.2))) else some ((),r13.2))) none λr15=>(Q0 (cK92 7 16 r15.2.2.2.1) none λr16=>(Q0 ((bif ile 0 r16.1.1 then some ((),(r15.2.1,(Q8.Qbb (Q8.Q9X (Q8.QbA r15.2.2.1 (ieq (Q5p .i64 r16.1.1 1) 1)) (ieq (Q5p .i64 r16.1.1 2) 2)) (ieq (Q5p .i64 r16.1.1 4) 4),r15.2.2.2))) else some ((),r15.2))) none λr17=>(Q0 (cK92 8 5 r17.2.2.2.1) none λr18=>(Q0 ((bif ile 0 r18.1.1 then (bif inR r18.1.1 5 then some ((),(r17.2.1,(Q8.QbU r17.2.2.1 (List.getD ((20000:Int)::(0:Int)::(1:Int)::(1000000:Int)::(1000000000:Int)::Qn Int) (Int.toNat r18.1.1) 0),r17.2.2.2))) else none) else some ((),r17.2))) none λr19=>(Q0 (cK92 9 6 r19.2.2.2.1) none λr20=>(Q0 ((bif ieq r20.1.1 5 then some ((),(r19.2.1,(Q8.Q7C (Q8.Q4L (Q8.Q9d r19.2.2.1 1) (Qy.Q99 r19.2.2.1.Qu 255)) true,r19.2.2.2))) else some ((),r19.2))) none λr21=>(Q0 (cK92 10 15 r21.2.2.2.1) none λr22=>(Q0 ((bif ile 0 r22.1.1 then some ((),(r21.2.1,(Q8.Qar r21.2.2.1 (Q4 .i64 1 r22.1.1),()))) else some ((),(r21.2.1,(r21.2.2.1,()))))) none λr23=>some (r23.2.2,((),()))))))))))))))))))))))))))
def K91:K91.T:=K91.gen K93 Q4r K92
theorem K91.eq (cK93:K93.T) (cK152:Q4r.T) (cK92:K92.T):EqA K91.sig (K91.H cK93 cK152 cK92) Tryz.f6 6 (K91.W (K91.gen cK93 cK152 cK92)):=by intro a x;kernel_rfl
theorem K91.ok:NK_ 6 K91.sig (K91.W K91):=ok_ Tryz.func6 (K91.eq K93 Q4r K92) (hn_ (Z0 (Z0 (Z0 Z2 K93.ok) Q4r.ok) K92.ok))
def Q2k.sig:Sig U:=⟨[.data .Q2v],[],0,[.bool],false,[]⟩
abbrev Q2k.T:Type:=(Qy)->Option ((Bool×Unit)×Unit×Unit)
def Q2k.W (f:Q2k.T):Q2k.sig.F:=λa x=>f a.1
abbrev Q2k.N (c:Q2k.T):=Qk 40 (Q2k.sig.native (Q2k.W c))
def Q2k.H:Hints U:={ Γ:=noΓ,ro:=0,base:=8}
def Q2k.gen:Q2k.T:=λq=>
 (bif ile 0 q.Q1M then (bif ile q.Q1M 255 then (bif ile 0 q.Q1r then (bif ile q.Q1r 255 then (bif ile 0 q.Q1B then some ((ile q.Q1B 65535,()),((),())) else some ((false,()),((),()))) else some ((false,()),((),()))) else some ((false,()),((),()))) else some ((false,()),((),()))) else some ((false,()),((),())))
def Q2k:Q2k.T:=Q2k.gen
theorem Q2k.ok:NK_ 40 Q2k.sig (Q2k.W Q2k):=ok_ (H:=Q2k.H) (n:=6) Tryz.func40 (by intro a x;kernel_rfl) (hn_ Z2)
def K59.sig:Sig U:=⟨[.data .Q1e],[],0,[.int .i64],false,[]⟩
abbrev K59.T:Type:=(Q8)->Option ((Int×Unit)×Unit×Unit)
def K59.W (f:K59.T):K59.sig.F:=λa x=>f a.1
abbrev K59.N (c:K59.T):=Qk 24 (K59.sig.native (K59.W c))
def K59.C:Code:=match Tryz.f24.body with|some c=>c|none=>.skip
def K59.B0:Code:=match (Z3 K59.C).getD 0 .skip with| .loop b=>b| .scope b=>b|_=>.skip
def K59.U0 (cK147:Q2k.T):Hints U:={ Γ:=(Q2k.N cK147 noΓ),ro:=0,base:=8,Q1J:=jt_ [(4,[(68,vb_)]),(7,[(70,vb_)]),(9,[(85,vb_)])],loop:=λb=>none}
def K59.H (cK147:Q2k.T):Hints U:={ Γ:=(Q2k.N cK147 noΓ),ro:=0,base:=8,Q1J:=jt_ [(4,[(68,vb_)]),(7,[(70,vb_)]),(9,[(85,vb_)])],loop:=jt_ [(2,(Z1P Tryz.prog (K59.U0 cK147) 6 K59.B0 17))]}
def K59.gen (cK147:Q2k.T):K59.T:=λc=>
 (Q0 ((bif ilt (List.getD (Q45 c) (Int.toNat 0) 0) (List.getD z8_ (Int.toNat 0) 0) then some (true,()) else some (ilt (List.getD z9_ (Int.toNat 0) 0) (List.getD (Q45 c) (Int.toNat 0) 0),()))) none λr0=>(bif r0.1 then some (((15:Int),()),((),())) else (Q0 ((bif ilt (List.getD (Q45 c) (Int.toNat (Q4 .i64 0 1)) 0) (List.getD z8_ (Int.toNat (Q4 .i64 0 1)) 0) then some (true,()) else some (ilt (List.getD z9_ (Int.toNat (Q4 .i64 0 1)) 0) (List.getD (Q45 c) (Int.toNat (Q4 .i64 0 1)) 0),()))) none λr1=>(bif r1.1 then some (((15:Int),()),((),())) else (Q0 ((bif ilt (List.getD (Q45 c) (Int.toNat (Q4 .i64 (Q4 .i64 0 1) 1)) 0) (List.getD z8_ (Int.toNat (Q4 .i64 (Q4 .i64 0 1) 1)) 0) then some (true,()) else some (ilt (List.getD z9_ (Int.toNat (Q4 .i64 (Q4 .i64 0 1) 1)) 0) (List.getD (Q45 c) (Int.toNat (Q4 .i64 (Q4 .i64 0 1) 1)) 0),()))) none λr2=>(bif r2.1 then some (((15:Int),()),((),())) else (Q0 ((bif ilt (List.getD (Q45 c) (Int.toNat (Q4 .i64 (Q4 .i64 (Q4 .i64 0 1) 1) 1)) 0) (List.getD z8_ (Int.toNat (Q4 .i64 (Q4 .i64 (Q4 .i64 0 1) 1) 1)) 0) then some (true,()) else some (ilt (List.getD z9_ (Int.toNat (Q4 .i64 (Q4 .i64 (Q4 .i64 0 1) 1) 1)) 0) (List.getD (Q45 c) (Int.toNat (Q4 .i64 (Q4 .i64 (Q4 .i64 0 1) 1) 1)) 0),()))) none λr3=>(bif r3.1 then some (((15:Int),()),((),())) else (Q0 ((bif ilt (List.getD (Q45 c) (Int.toNat (Q4 .i64 (Q4 .i64 (Q4 .i64 (Q4 .i64 0 1) 1) 1) 1)) 0) (List.getD z8_ (Int.toNat (Q4 .i64 (Q4 .i64 (Q4 .i64 (Q4 .i64 0 1) 1) 1) 1)) 0) then some (true,()) else some (ilt (List.getD z9_ (Int.toNat (Q4 .i64 (Q4 .i64 (Q4 .i64 (Q4 .i64 0 1) 1) 1) 1)) 0) (List.getD (Q45 c) (Int.toNat (Q4 .i64 (Q4 .i64 (Q4 .i64 (Q4 .i64 0 1) 1) 1) 1)) 0),()))) none λr4=>(bif r4.1 then some (((15:Int),()),((),())) else (Q0 ((bif ilt (List.getD (Q45 c) (Int.toNat (Q4 .i64 (Q4 .i64 (Q4 .i64 (Q4 .i64 (Q4 .i64 0 1) 1) 1) 1) 1)) 0) (List.getD z8_ (Int.toNat (Q4 .i64 (Q4 .i64 (Q4 .i64 (Q4 .i64 (Q4 .i64 0 1) 1) 1) 1) 1)) 0) then some (true,()) else some (ilt (List.getD z9_ (Int.toNat (Q4 .i64 (Q4 .i64 (Q4 .i64 (Q4 .i64 (Q4 .i64 0 1) 1) 1) 1) 1)) 0) (List.getD (Q45 c) (Int.toNat (Q4 .i64 (Q4 .i64 (Q4 .i64 (Q4 .i64 (Q4 .i64 0 1) 1) 1) 1) 1)) 0),()))) none λr5=>(bif r5.1 then some (((15:Int),()),((),())) else (Q0 ((bif ilt (List.getD (Q45 c) (Int.toNat (Q4 .i64 (Q4 .i64 (Q4 .i64 (Q4 .i64 (Q4 .i64 (Q4 .i64 0 1) 1) 1) 1) 1) 1)) 0) (List.getD z8_ (Int.toNat (Q4 .i64 (Q4 .i64 (Q4 .i64 (Q4 .i64 (Q4 .i64 (Q4 .i64 0 1) 1) 1) 1) 1) 1)) 0) then some (true,()) else some (ilt (List.getD z9_ (Int.toNat (Q4 .i64 (Q4 .i64 (Q4 .i64 (Q4 .i64 (Q4 .i64 (Q4 .i64 0 1) 1) 1) 1) 1) 1)) 0) (List.getD (Q45 c) (Int.toNat (Q4 .i64 (Q4 .i64 (Q4 .i64 (Q4 .i64 (Q4 .i64 (Q4 .i64 0 1) 1) 1) 1) 1) 1)) 0),()))) none λr6=>(bif r6.1 then some (((15:Int),()),((),())) else (Q0 ((bif ilt (List.getD (Q45 c) (Int.toNat (Q4 .i64 (Q4 .i64 (Q4 .i64 (Q4 .i64 (Q4 .i64 (Q4 .i64 (Q4 .i64 0 1) 1) 1) 1) 1) 1) 1)) 0) (List.getD z8_ (Int.toNat (Q4 .i64 (Q4 .i64 (Q4 .i64 (Q4 .i64 (Q4 .i64 (Q4 .i64 (Q4 .i64 0 1) 1) 1) 1) 1) 1) 1)) 0) then some (true,()) else some (ilt (List.getD z9_ (Int.toNat (Q4 .i64 (Q4 .i64 (Q4 .i64 (Q4 .i64 (Q4 .i64 (Q4 .i64 (Q4 .i64 0 1) 1) 1) 1) 1) 1) 1)) 0) (List.getD (Q45 c) (Int.toNat (Q4 .i64 (Q4 .i64 (Q4 .i64 (Q4 .i64 (Q4 .i64 (Q4 .i64 (Q4 .i64 0 1) 1) 1) 1) 1) 1) 1)) 0),()))) none λr7=>(bif r7.1 then some (((15:Int),()),((),())) else (Q0 ((bif ilt (List.getD (Q45 c) (Int.toNat (Q4 .i64 (Q4 .i64 (Q4 .i64 (Q4 .i64 (Q4 .i64 (Q4 .i64 (Q4 .i64 (Q4 .i64 0 1) 1) 1) 1) 1) 1) 1) 1)) 0) (List.getD z8_ (Int.toNat (Q4 .i64 (Q4 .i64 (Q4 .i64 (Q4 .i64 (Q4 .i64 (Q4 .i64 (Q4 .i64 (Q4 .i64 0 1) 1) 1) 1) 1) 1) 1) 1)) 0) then some (true,()) else some (ilt (List.getD z9_ (Int.toNat (Q4 .i64 (Q4 .i64 (Q4 .i64 (Q4 .i64 (Q4 .i64 (Q4 .i64 (Q4 .i64 (Q4 .i64 0 1) 1) 1) 1) 1) 1) 1) 1)) 0) (List.getD (Q45 c) (Int.toNat (Q4 .i64 (Q4 .i64 (Q4 .i64 (Q4 .i64 (Q4 .i64 (Q4 .i64 (Q4 .i64 (Q4 .i64 0 1) 1) 1) 1) 1) 1) 1) 1)) 0),()))) none λr8=>(bif r8.1 then some (((15:Int),()),((),())) else (Q0 ((bif ilt (List.getD (Q45 c) (Int.toNat (Q4 .i64 (Q4 .i64 (Q4 .i64 (Q4 .i64 (Q4 .i64 (Q4 .i64 (Q4 .i64 (Q4 .i64 (Q4 .i64 0 1) 1) 1) 1) 1) 1) 1) 1) 1)) 0) (List.getD z8_ (Int.toNat (Q4 .i64 (Q4 .i64 (Q4 .i64 (Q4 .i64 (Q4 .i64 (Q4 .i64 (Q4 .i64 (Q4 .i64 (Q4 .i64 0 1) 1) 1) 1) 1) 1) 1) 1) 1)) 0) then some (true,()) else some (ilt (List.getD z9_ (Int.toNat (Q4 .i64 (Q4 .i64 (Q4 .i64 (Q4 .i64 (Q4 .i64 (Q4 .i64 (Q4 .i64 (Q4 .i64 (Q4 .i64 0 1) 1) 1) 1) 1) 1) 1) 1) 1)) 0) (List.getD (Q45 c) (Int.toNat (Q4 .i64 (Q4 .i64 (Q4 .i64 (Q4 .i64 (Q4 .i64 (Q4 .i64 (Q4 .i64 (Q4 .i64 (Q4 .i64 0 1) 1) 1) 1) 1) 1) 1) 1) 1)) 0),()))) none λr9=>(bif r9.1 then some (((15:Int),()),((),())) else (Q0 ((bif ilt (List.getD (Q45 c) (Int.toNat (Q4 .i64 (Q4 .i64 (Q4 .i64 (Q4 .i64 (Q4 .i64 (Q4 .i64 (Q4 .i64 (Q4 .i64 (Q4 .i64 (Q4 .i64 0 1) 1) 1) 1) 1) 1) 1) 1) 1) 1)) 0) (List.getD z8_ (Int.toNat (Q4 .i64 (Q4 .i64 (Q4 .i64 (Q4 .i64 (Q4 .i64 (Q4 .i64 (Q4 .i64 (Q4 .i64 (Q4 .i64 (Q4 .i64 0 1) 1) 1) 1) 1) 1) 1) 1) 1) 1)) 0) then some (true,()) else some (ilt (List.getD z9_ (Int.toNat (Q4 .i64 (Q4 .i64 (Q4 .i64 (Q4 .i64 (Q4 .i64 (Q4 .i64 (Q4 .i64 (Q4 .i64 (Q4 .i64 (Q4 .i64 0 1) 1) 1) 1) 1) 1) 1) 1) 1) 1)) 0) (List.getD (Q45 c) (Int.toNat (Q4 .i64 (Q4 .i64 (Q4 .i64 (Q4 .i64 (Q4 .i64 (Q4 .i64 (Q4 .i64 (Q4 .i64 (Q4 .i64 (Q4 .i64 0 1) 1) 1) 1) 1) 1) 1) 1) 1) 1)) 0),()))) none λr10=>(bif r10.1 then some (((15:Int),()),((),())) else (Q0 ((bif ilt (List.getD (Q45 c) (Int.toNat (Q4 .i64 (Q4 .i64 (Q4 .i64 (Q4 .i64 (Q4 .i64 (Q4 .i64 (Q4 .i64 (Q4 .i64 (Q4 .i64 (Q4 .i64 (Q4 .i64 0 1) 1) 1) 1) 1) 1) 1) 1) 1) 1) 1)) 0) (List.getD z8_ (Int.toNat (Q4 .i64 (Q4 .i64 (Q4 .i64 (Q4 .i64 (Q4 .i64 (Q4 .i64 (Q4 .i64 (Q4 .i64 (Q4 .i64 (Q4 .i64 (Q4 .i64 0 1) 1) 1) 1) 1) 1) 1) 1) 1) 1) 1)) 0) then some (true,()) else some (ilt (List.getD z9_ (Int.toNat (Q4 .i64 (Q4 .i64 (Q4 .i64 (Q4 .i64 (Q4 .i64 (Q4 .i64 (Q4 .i64 (Q4 .i64 (Q4 .i64 (Q4 .i64 (Q4 .i64 0 1) 1) 1) 1) 1) 1) 1) 1) 1) 1) 1)) 0) (List.getD (Q45 c) (Int.toNat (Q4 .i64 (Q4 .i64 (Q4 .i64 (Q4 .i64 (Q4 .i64 (Q4 .i64 (Q4 .i64 (Q4 .i64 (Q4 .i64 (Q4 .i64 (Q4 .i64 0 1) 1) 1) 1) 1) 1) 1) 1) 1) 1) 1)) 0),()))) none λr11=>(bif r11.1 then some (((15:Int),()),((),())) else (Q0 ((bif ilt (List.getD (Q45 c) (Int.toNat (Q4 .i64 (Q4 .i64 (Q4 .i64 (Q4 .i64 (Q4 .i64 (Q4 .i64 (Q4 .i64 (Q4 .i64 (Q4 .i64 (Q4 .i64 (Q4 .i64 (Q4 .i64 0 1) 1) 1) 1) 1) 1) 1) 1) 1) 1) 1) 1)) 0) (List.getD z8_ (Int.toNat (Q4 .i64 (Q4 .i64 (Q4 .i64 (Q4 .i64 (Q4 .i64 (Q4 .i64 (Q4 .i64 (Q4 .i64 (Q4 .i64 (Q4 .i64 (Q4 .i64 (Q4 .i64 0 1) 1) 1) 1) 1) 1) 1) 1) 1) 1) 1) 1)) 0) then some (true,()) else some (ilt (List.getD z9_ (Int.toNat (Q4 .i64 (Q4 .i64 (Q4 .i64 (Q4 .i64 (Q4 .i64 (Q4 .i64 (Q4 .i64 (Q4 .i64 (Q4 .i64 (Q4 .i64 (Q4 .i64 (Q4 .i64 0 1) 1) 1) 1) 1) 1) 1) 1) 1) 1) 1) 1)) 0) (List.getD (Q45 c) (Int.toNat (Q4 .i64 (Q4 .i64 (Q4 .i64 (Q4 .i64 (Q4 .i64 (Q4 .i64 (Q4 .i64 (Q4 .i64 (Q4 .i64 (Q4 .i64 (Q4 .i64 (Q4 .i64 0 1) 1) 1) 1) 1) 1) 1) 1) 1) 1) 1) 1)) 0),()))) none λr12=>(bif r12.1 then some (((15:Int),()),((),())) else (Q0 ((bif ilt (List.getD (Q45 c) (Int.toNat (Q4 .i64 (Q4 .i64 (Q4 .i64 (Q4 .i64 (Q4 .i64 (Q4 .i64 (Q4 .i64 (Q4 .i64 (Q4 .i64 (Q4 .i64 (Q4 .i64 (Q4 .i64 (Q4 .i64 0 1) 1) 1) 1) 1) 1) 1) 1) 1) 1) 1) 1) 1)) 0) (List.getD z8_ (Int.toNat (Q4 .i64 (Q4 .i64 (Q4 .i64 (Q4 .i64 (Q4 .i64 (Q4 .i64 (Q4 .i64 (Q4 .i64 (Q4 .i64 (Q4 .i64 (Q4 .i64 (Q4 .i64 (Q4 .i64 0 1) 1) 1) 1) 1) 1) 1) 1) 1) 1) 1) 1) 1)) 0) then some (true,()) else some (ilt (List.getD z9_ (Int.toNat (Q4 .i64 (Q4 .i64 (Q4 .i64 (Q4 .i64 (Q4 .i64 (Q4 .i64 (Q4 .i64 (Q4 .i64 (Q4 .i64 (Q4 .i64 (Q4 .i64 (Q4 .i64 (Q4 .i64 0 1) 1) 1) 1) 1) 1) 1) 1) 1) 1) 1) 1) 1)) 0) (List.getD (Q45 c) (Int.toNat (Q4 .i64 (Q4 .i64 (Q4 .i64 (Q4 .i64 (Q4 .i64 (Q4 .i64 (Q4 .i64 (Q4 .i64 (Q4 .i64 (Q4 .i64 (Q4 .i64 (Q4 .i64 (Q4 .i64 0 1) 1) 1) 1) 1) 1) 1) 1) 1) 1) 1) 1) 1)) 0),()))) none λr13=>(bif r13.1 then some (((15:Int),()),((),())) else (Q0 ((bif ilt (List.getD (Q45 c) (Int.toNat (Q4 .i64 (Q4 .i64 (Q4 .i64 (Q4 .i64 (Q4 .i64 (Q4 .i64 (Q4 .i64 (Q4 .i64 (Q4 .i64 (Q4 .i64 (Q4 .i64 (Q4 .i64 (Q4 .i64 (Q4 .i64 0 1) 1) 1) 1) 1) 1) 1) 1) 1) 1) 1) 1) 1) 1)) 0) (List.getD z8_ (Int.toNat (Q4 .i64 (Q4 .i64 (Q4 .i64 (Q4 .i64 (Q4 .i64 (Q4 .i64 (Q4 .i64 (Q4 .i64 (Q4 .i64 (Q4 .i64 (Q4 .i64 (Q4 .i64 (Q4 .i64 (Q4 .i64 0 1) 1) 1) 1) 1) 1) 1) 1) 1) 1) 1) 1) 1) 1)) 0) then some (true,()) else some (ilt (List.getD z9_ (Int.toNat (Q4 .i64 (Q4 .i64 (Q4 .i64 (Q4 .i64 (Q4 .i64 (Q4 .i64 (Q4 .i64 (Q4 .i64 (Q4 .i64 (Q4 .i64 (Q4 .i64 (Q4 .i64 (Q4 .i64 (Q4 .i64 0 1) 1) 1) 1) 1) 1) 1) 1) 1) 1) 1) 1) 1) 1)) 0) (List.getD (Q45 c) (Int.toNat (Q4 .i64 (Q4 .i64 (Q4 .i64 (Q4 .i64 (Q4 .i64 (Q4 .i64 (Q4 .i64 (Q4 .i64 (Q4 .i64 (Q4 .i64 (Q4 .i64 (Q4 .i64 (Q4 .i64 (Q4 .i64 0 1) 1) 1) 1) 1) 1) 1) 1) 1) 1) 1) 1) 1) 1)) 0),()))) none λr14=>(bif r14.1 then some (((15:Int),()),((),())) else (Q0 ((bif ieq c.QF 0 then some (true,()) else (bif ieq c.QF 18446744073709551615 then some (true,()) else (Q0 (cK147 c.Qu) none λr15=>some (!r15.1.1,()))))) none λr16=>(bif r16.1 then some (((15:Int),()),((),())) else (Q0 ((bif c.Q25 then (bif ilt 1 c.Qv then some (true,()) else some (ine c.Qu.Q1M 255,())) else some (false,()))) none λr17=>(bif r17.1 then some (((15:Int),()),((),())) else some (((0:Int),()),((),()))))))))))))))))))))))))))))))))))))
def K59:K59.T:=K59.gen Q2k
theorem K59.Q5a:Z3 K59.B0= []:=by kernel_rfl
abbrev K59.h:=K59.H Q2k
theorem K59.Q1V:ZI U Tryz.prog K59.h.ro K59.h.base K59.B0 (Z1P Tryz.prog (K59.U0 Q2k) 6 K59.B0 17):=
 Z2w (Hn:=(K59.U0 Q2k)) (L:=λc=>c∈([]:List Code)) (hq (Z0 Z2 Q2k.ok) Z5 (λ_=>rfl) (λ_=>rfl)) (λb h=>by rw [K59.Q5a] at h;exact h) 17
theorem K59.eq (cK147:Q2k.T):EqA K59.sig (K59.H cK147) Tryz.f24 6 (K59.W (K59.gen cK147)):=by intro a x;kernel_rfl
theorem K59.loops:Z3 K59.C= [(.loop K59.B0)]:=by kernel_rfl
theorem K59.ok:NK_ 24 K59.sig (K59.W K59):=ok_ Tryz.func24 (K59.eq Q2k) (hl_ (Z0 Z2 Q2k.ok) (Z7 (by kernel_rfl) K59.Q1V Z5)) K59.loops
def Q1E.sig:Sig U:=⟨[.data .Q1e],[],0,[.data .Q1F],false,[]⟩
abbrev Q1E.T:Type:=(Q8)->Option ((QY×Unit)×Unit×Unit)
def Q1E.W (f:Q1E.T):Q1E.sig.F:=λa x=>f a.1
abbrev Q1E.N (c:Q1E.T):=Qk 41 (Q1E.sig.native (Q1E.W c))
def Q1E.H:Hints U:={ Γ:=noΓ,ro:=0,base:=8}
def Q1E.gen:Q1E.T:=λc=>
 some ((QY.mk (Qf.mk c.QF 0) c.QF c.Qu c.Q17 c.Q18 0 c.Q1b,()),((),()))
def Q1E:Q1E.T:=Q1E.gen
theorem Q1E.ok:NK_ 41 Q1E.sig (Q1E.W Q1E):=ok_ (H:=Q1E.H) (n:=6) Tryz.func41 (by intro a x;kernel_rfl) (hn_ Z2)
def Q3i.sig:Sig U:=⟨[.int .i64,.int .i64,.int .i64],[Q5Z],0,[.ref 1],false,[]⟩
abbrev Q3i.T:Type:=(Int)->(Int)->(Int)->(Fm Qp)->Option (((Option Nat)×Unit)×((Fm Qp)×Unit)×Unit)
def Q3i.W (f:Q3i.T):Q3i.sig.F:=λa x=>f a.1 a.2.1 a.2.2.1 x.1
def Q3i.H:Hints U:={ Γ:=noΓ,ro:=0,base:=8}
def Q3i.gen:Q3i.T:=λkp ki step g1=>
 some ((some g1.1,()),(((g1.1+1,Qr g1.2 g1.1 (Qp.mk (Z4 true 0 (Z4 false kp 2000)) (Z4 true 0 (Z4 false ki 2000)) (Z4 true 0 (Z4 false step 1000000000)) 0 0 0 0)),()),()))
def Q3i:Q3i.T:=Q3i.gen
theorem Q3i.ok:NK_ 42 Q3i.sig (Q3i.W Q3i):=ok_ (H:=Q3i.H) (n:=6) Tryz.func42 (by intro a x;kernel_rfl) (hn_ Z2)
def Q3o.sig:Sig U:=⟨[.int .i64],[Q5S],0,[.ref 5],false,[]⟩
abbrev Q3o.T:Type:=(Int)->(Fm Qh)->Option (((Option Nat)×Unit)×((Fm Qh)×Unit)×Unit)
def Q3o.W (f:Q3o.T):Q3o.sig.F:=λa x=>f a.1 x.1
def Q3o.H:Hints U:={ Γ:=noΓ,ro:=0,base:=8}
def Q3o.gen:Q3o.T:=λn g5=>
 some ((some g5.1,()),(((g5.1+1,Qr g5.2 g5.1 (Qh.mk (λ(j:Nat)=>List.getD ((0:Int)::(0:Int)::(0:Int)::(0:Int)::(0:Int)::(0:Int)::(0:Int)::(0:Int)::(0:Int)::(0:Int)::(0:Int)::(0:Int)::(0:Int)::(0:Int)::(0:Int)::Qn Int) j (0:D UC.int)) 0 (Z4 true 1 (Z4 false n 15)))),()),()))
def Q3o:Q3o.T:=Q3o.gen
theorem Q3o.ok:NK_ 43 Q3o.sig (Q3o.W Q3o):=ok_ (H:=Q3o.H) (n:=6) Tryz.func43 (by intro a x;kernel_rfl) (hn_ Z2)
def K38.sig:Sig U:=⟨[.ptr,.int .i64],[.obj .Q7],1,[.data .Qw],false,[]⟩
abbrev K38.T:Type:=(Int)->(Q1)->Option ((Qf×Unit)×Unit×Unit)
def K38.W (f:K38.T):K38.sig.F:=λa x=>f a.2.1 x.1
abbrev K38.N (c:K38.T):=Qk 44 (K38.sig.native (K38.W c))
def K38.H:Hints U:={ Γ:=(Qk 5000000021 ZG noΓ),ro:=9,base:=9}
def K38.gen:K38.T:=λn h0=>
 some ((Qf.mk h0.Qo.QF n,()),((),()))
def K38:K38.T:=K38.gen
theorem K38.ok:NK_ 44 K38.sig (K38.W K38):=ok_ (H:=K38.H) (n:=6) Tryz.func44 (by intro a x;kernel_rfl) (hn_ (Z0 Z2 Zc))
def K40.sig:Sig U:=⟨[.ptr,.int .i64],[.obj .Q7],1,[.Q5k 0 23 42 8],false,[]⟩
abbrev K40.T:Type:=(Int)->(Q1)->Option ((Nat×Unit)×Unit×Unit)
def K40.W (f:K40.T):K40.sig.F:=λa x=>f a.2.1 x.1
abbrev K40.N (c:K40.T):=Qk 31 (K40.sig.native (K40.W c))
def K40.H:Hints U:={ Γ:=(Qk 5000000021 ZG noΓ),ro:=9,base:=9}
def K40.gen:K40.T:=λn h0=>
 (bif inR (Q1K .i64 n 1) 8 then some ((Int.toNat (Q1K .i64 n 1),()),((),())) else none)
def K40:K40.T:=K40.gen
theorem K40.ok:NK_ 31 K40.sig (K40.W K40):=ok_ (H:=K40.H) (n:=6) Tryz.func31 (by intro a x;kernel_rfl) (hn_ (Z0 Z2 Zc))
def Q3k.sig:Sig U:=⟨[.int .i64,.int .i64],[],0,[.int .i64],false,[]⟩
abbrev Q3k.T:Type:=(Int)->(Int)->Option ((Int×Unit)×Unit×Unit)
def Q3k.W (f:Q3k.T):Q3k.sig.F:=λa x=>f a.1 a.2.1
def Q3k.H:Hints U:={ Γ:=noΓ,ro:=0,base:=8}
def Q3k.gen:Q3k.T:=λn log=>
 (bif ieq (Z4 true (-3) (Z4 false log 4)) (-3) then some ((Q59 .i64 (Q59 .i64 (Q59 .i64 n 2) 2) 2,()),((),())) else (bif ieq (Z4 true (-3) (Z4 false log 4)) (-2) then some ((Q59 .i64 (Q59 .i64 n 2) 2,()),((),())) else (bif ieq (Z4 true (-3) (Z4 false log 4)) (-1) then some ((Q59 .i64 n 2,()),((),())) else (bif ile 0 (Z4 true (-3) (Z4 false log 4)) then some ((Q8U .i64 n (Z4 true (-3) (Z4 false log 4)),()),((),())) else none))))
def Q3k:Q3k.T:=Q3k.gen
theorem Q3k.ok:NK_ 128 Q3k.sig (Q3k.W Q3k):=ok_ (H:=Q3k.H) (n:=6) Tryz.func128 (by intro a x;kernel_rfl) (hn_ Z2)
def Q2T.sig:Sig U:=⟨[.int .i64],[],0,[.int .i64],false,[]⟩
abbrev Q2T.T:Type:=(Int)->Option ((Int×Unit)×Unit×Unit)
def Q2T.W (f:Q2T.T):Q2T.sig.F:=λa x=>f a.1
def Q2T.H (cK173:Q3k.T):Hints U:={ Γ:=(Qk 128 (Q3k.sig.native (Q3k.W cK173)) noΓ),ro:=0,base:=8}
def Q2T.gen (cK173:Q3k.T):Q2T.T:=λlog=>
 (Q0 (cK173 8 log) none λr0=>some (r0.1,((),())))
def Q2T:Q2T.T:=Q2T.gen Q3k
theorem Q2T.eq (cK173:Q3k.T):EqA Q2T.sig (Q2T.H cK173) Tryz.f74 6 (Q2T.W (Q2T.gen cK173)):=by intro a x;kernel_rfl
theorem Q2T.ok:NK_ 74 Q2T.sig (Q2T.W Q2T):=ok_ Tryz.func74 (Q2T.eq Q3k) (hn_ (Z0 Z2 Q3k.ok))
def K19.sig:Sig U:=⟨[.ptr],[.obj .Q7],1,[.int .i64],false,[]⟩
abbrev K19.T:Type:=(Q1)->Option ((Int×Unit)×Unit×Unit)
def K19.W (f:K19.T):K19.sig.F:=λa x=>f x.1
abbrev K19.N (c:K19.T):=Qk 46 (K19.sig.native (K19.W c))
def K19.H (cK172:Q2T.T):Hints U:={ Γ:=(Qk 74 (Q2T.sig.native (Q2T.W cK172)) (Qk 5000000021 ZG noΓ)),ro:=9,base:=9}
def K19.gen (cK172:Q2T.T):K19.T:=λh0=>
 (Q0 (cK172 h0.Qo.Q3z) none λr0=>some (r0.1,((),())))
def K19:K19.T:=K19.gen Q2T
theorem K19.eq (cK172:Q2T.T):EqA K19.sig (K19.H cK172) Tryz.f46 6 (K19.W (K19.gen cK172)):=by intro a x;kernel_rfl
theorem K19.ok:NK_ 46 K19.sig (K19.W K19):=ok_ Tryz.func46 (K19.eq Q2T) (hn_ (Z0 (Z0 Z2 Zc) Q2T.ok))
def K69.sig:Sig U:=⟨[.int .u64,.int .i64,.int .i64],[Q58],0,[.ref 2],false,[]⟩
abbrev K69.T:Type:=(Int)->(Int)->(Int)->(Fm Qb)->Option (((Option Nat)×Unit)×((Fm Qb)×Unit)×Unit)
def K69.W (f:K69.T):K69.sig.F:=λa x=>f a.1 a.2.1 a.2.2.1 x.1
def K69.H:Hints U:={ Γ:=noΓ,ro:=0,base:=8}
def K69.gen:K69.T:=λown port window g2=>
 some ((some g2.1,()),(((g2.1+1,Qr g2.2 g2.1 (Qb.mk (Qf.mk own port) (Z4 true 1 (Z4 false window 1048576)) (λ(j:Nat)=>List.getD (Qd.mk z6_ z4_ 0 0 0::Qd.mk z6_ z4_ 0 0 0::Qd.mk z6_ z4_ 0 0 0::Qd.mk z6_ z4_ 0 0 0::Qd.mk z6_ z4_ 0 0 0::Qn Qd) j Qd.zero) 0)),()),()))
def K69:K69.T:=K69.gen
theorem K69.ok:NK_ 45 K69.sig (K69.W K69):=ok_ (H:=K69.H) (n:=6) Tryz.func45 (by intro a x;kernel_rfl) (hn_ Z2)
def Q3j.sig:Sig U:=⟨[],[Q5y],0,[.ref 6],false,[]⟩
abbrev Q3j.T:Type:=(Fm QB)->Option (((Option Nat)×Unit)×((Fm QB)×Unit)×Unit)
def Q3j.W (f:Q3j.T):Q3j.sig.F:=λa x=>f x.1
def Q3j.H:Hints U:={ Γ:=noΓ,ro:=0,base:=8}
def Q3j.gen:Q3j.T:=λg6=>
 some ((some g6.1,()),(((g6.1+1,Qr g6.2 g6.1 (QB.mk z2_ z2_ 0 false false)),()),()))
def Q3j:Q3j.T:=Q3j.gen
theorem Q3j.ok:NK_ 47 Q3j.sig (Q3j.W Q3j):=ok_ (H:=Q3j.H) (n:=6) Tryz.func47 (by intro a x;kernel_rfl) (hn_ Z2)
def K68.sig:Sig U:=⟨[.data .Qw,.int .i64],[Q51],0,[.ref 3],false,[]⟩
abbrev K68.T:Type:=(Qf)->(Int)->(Fm Qg)->Option (((Option Nat)×Unit)×((Fm Qg)×Unit)×Unit)
def K68.W (f:K68.T):K68.sig.F:=λa x=>f a.1 a.2.1 x.1
def K68.H:Hints U:={ Γ:=noΓ,ro:=0,base:=8}
def K68.gen:K68.T:=λself domain g3=>
 some ((some g3.1,()),(((g3.1+1,Qr g3.2 g3.1 (Qg.mk self domain (Q12.mk 0 0 false false))),()),()))
def K68:K68.T:=K68.gen
theorem K68.ok:NK_ 48 K68.sig (K68.W K68):=ok_ (H:=K68.H) (n:=6) Tryz.func48 (by intro a x;kernel_rfl) (hn_ Z2)
def Q3l.sig:Sig U:=⟨[.data .Qw,.int .i64],[Q5o],0,[.ref 4],false,[]⟩
abbrev Q3l.T:Type:=(Qf)->(Int)->(Fm Qc)->Option (((Option Nat)×Unit)×((Fm Qc)×Unit)×Unit)
def Q3l.W (f:Q3l.T):Q3l.sig.F:=λa x=>f a.1 a.2.1 x.1
def Q3l.H:Hints U:={ Γ:=noΓ,ro:=0,base:=8}
def Q3l.gen:Q3l.T:=λself domain g4=>
 some ((some g4.1,()),(((g4.1+1,Qr g4.2 g4.1 (Qc.mk self domain 0 0 false false false false z2_ 0)),()),()))
def Q3l:Q3l.T:=Q3l.gen
theorem Q3l.ok:NK_ 49 Q3l.sig (Q3l.W Q3l):=ok_ (H:=Q3l.H) (n:=6) Tryz.func49 (by intro a x;kernel_rfl) (hn_ Z2)
def K23.sig:Sig U:=⟨[.ptr,.data .Q1e],[.obj .Q7,Q5Z,Q58,Q51,Q5o,Q5S,Q5y,.fam 7 (.map true false .Qw .Q1R)],0,[],true,[]⟩
abbrev K23.T:Type:=(Q8)->(Q1)->(Fm Qp)->(Fm Qb)->(Fm Qg)->(Fm Qc)->(Fm Qh)->(Fm QB)->(Nat×(Nat->List (Qf×List (Int))))->Option (Unit×(Q1×Q5m)×Unit)
def K23.W (f:K23.T):K23.sig.F:=λa x=>f a.2.1 x.1 x.2.1 x.2.2.1 x.2.2.2.1 x.2.2.2.2.1 x.2.2.2.2.2.1 x.2.2.2.2.2.2.1 x.2.2.2.2.2.2.2.1
abbrev K23.N (c:K23.T):=Qk 25 (K23.sig.native (K23.W c))
def K23.L0:Shape U:=⟨57,10,[(0,.ptr 8 0 0),(3,.ptr 9 0 0),(4,vi_)],(8,.obj .Q7)::(9,.obj .Q1e)::Q4M⟩
def K23.X0:Qm U:= [(.exit 0,⟨57,9,[],(8,.obj .Q7)::Q4M⟩)]
abbrev K23.l0T:Type:=((Int×Unit)×(Q1×Q8×Q5m))->Option ((Unit×(Q1×Q5m)))
def K23.C:Code:=match Tryz.f25.body with|some c=>c|none=>.skip
def K23.B0:Code:=match (Z3 K23.C).getD 0 .skip with| .loop b=>b| .scope b=>b|_=>.skip
def K23.JR6:Qm U:= [(.normal,⟨57,10,[(0,.ptr 8 0 0),(3,.ptr 9 0 0),(4,vi_)],(8,.obj .Q7)::(9,.obj .Q1e)::Q4M⟩)]
def K23.JR5:Qm U:= [(.normal,⟨57,11,[(0,.ptr 8 0 0),(3,.ptr 9 0 0),(4,vi_),(5,.ptr 10 0 0)],(8,.obj .Q7)::(9,.obj .Q1e)::(10,.obj .Qw)::Q4M⟩)]
def K23.JR1:Qm U:= [(.normal,⟨57,10,[(0,.ptr 8 0 0),(3,.ptr 9 0 0)],(8,.obj .Q7)::(9,.obj .Q1e)::Q4M⟩)]
def K23.H (cK189:Q1E.T) (cK160:Q3i.T) (cK106:Q3o.T) (cK38:K38.T) (cK40:K40.T) (cK19:K19.T) (cK69:K69.T) (cK157:Q3j.T) (cK68:K68.T) (cK139:Q3l.T) (l0:K23.l0T):Hints U:={ Γ:=(Qk 49 (Q3l.sig.native (Q3l.W cK139)) (Qk 48 (K68.sig.native (K68.W cK68)) (Qk 47 (Q3j.sig.native (Q3j.W cK157)) (Qk 45 (K69.sig.native (K69.W cK69)) (K19.N cK19 (K40.N cK40 (K38.N cK38 (Qk 43 (Q3o.sig.native (Q3o.W cK106)) (Qk 42 (Q3i.sig.native (Q3i.W cK160)) (Q1E.N cK189 noΓ)))))))))),ro:=0,base:=9,Q2B:=jt_ [(1,K23.JR1),(5,K23.JR5),(6,K23.JR6)],loop:=jt_ [(3,(Z9 (0,9) K23.L0 K23.X0 l0))]}
def K23.QO (cK189:Q1E.T) (cK160:Q3i.T) (cK106:Q3o.T) (cK38:K38.T) (cK40:K40.T) (cK19:K19.T) (cK69:K69.T) (cK157:Q3j.T) (cK68:K68.T) (cK139:Q3l.T) (a:(Int×Unit)×(Q1×Q8×Q5m)):Option (((Int×Unit)×(Q1×Q8×Q5m))⊕((Unit×(Q1×Q5m)))):=
 (bif ile a.1.1 a.2.2.1.Qv then (Q0 ((Q0 (cK38 a.1.1 a.2.1) none λr0=>some (a.1,(a.2.1,(a.2.2.1,(r0.1.1,a.2.2.2)))))) none λr1=>(Q0 ((Q0 (cK40 r1.1.1 r1.2.1) none λr2=>(Q0 (cK19 r1.2.1) none λr3=>(Q0 (cK69 r1.2.2.1.QF r1.1.1 (Q3u .i64 4 r3.1.1) r1.2.2.2.2.2.1) none λr4=>(Q0 (cK157 r1.2.2.2.2.2.2.2.2.2.1) none λr5=>(Q0 (cK68 r1.2.2.2.1 r1.2.2.1.Q1v r1.2.2.2.2.2.2.1) none λr6=>(Q0 (cK139 r1.2.2.2.1 r1.2.2.1.Q1v r1.2.2.2.2.2.2.2.1) none λr7=>some (r1.1,(Q1.QU r1.2.1 (Qr r1.2.1.Qe r2.1.1 (Q5.mk 1 r4.1.1 (some r1.2.2.2.2.2.2.2.2.2.2.1.1) z3_ z3_ z3_ z3_ z3_ 0 0 0 r5.1.1 r6.1.1 r7.1.1 z5_ z5_ z2_ false)),(r1.2.2.1,(r1.2.2.2.2.1,(r4.2.1.1,(r6.2.1.1,(r7.2.1.1,(r1.2.2.2.2.2.2.2.2.1,(r5.2.1.1,((r1.2.2.2.2.2.2.2.2.2.2.1.1+1,Qr r1.2.2.2.2.2.2.2.2.2.2.1.2 r1.2.2.2.2.2.2.2.2.2.2.1.1 (Qn (D UC.Qw×D UC.Q1R))),()))))))))))))))))) none λr8=>some (.inl ((Q4 .i64 r8.1.1 1,()),r8.2)))) else some (.inr ((),(a.2.1,a.2.2.2))))
def K23.F0:K23.l0T:=λa=>Z8 (1000000) (K23.QO Q1E Q3i Q3o K38 K40 K19 K69 Q3j K68 Q3l) a
def K23.gen (cK189:Q1E.T) (cK160:Q3i.T) (cK106:Q3o.T) (cK38:K38.T) (cK40:K40.T) (cK19:K19.T) (cK69:K69.T) (cK157:Q3j.T) (cK68:K68.T) (cK139:Q3l.T) (l0:K23.l0T):K23.T:=λc h0 g1 g2 g3 g4 g5 g6 g7=>
 (Q0 ((Q0 (cK189 c) none λr0=>(Q0 (cK160 c.fKp c.fKi c.Q55 g1) none λr1=>(Q0 (cK106 c.Q3M g5) none λr2=>some ((),(Q1.mk c (λ(j:Nat)=>List.getD (Q5.mk 0 none none z3_ z3_ z3_ z3_ z3_ 0 0 0 none none none z5_ z5_ z2_ false::Q5.mk 0 none none z3_ z3_ z3_ z3_ z3_ 0 0 0 none none none z5_ z5_ z2_ false::Q5.mk 0 none none z3_ z3_ z3_ z3_ z3_ 0 0 0 none none none z5_ z5_ z2_ false::Q5.mk 0 none none z3_ z3_ z3_ z3_ z3_ 0 0 0 none none none z5_ z5_ z2_ false::Q5.mk 0 none none z3_ z3_ z3_ z3_ z3_ 0 0 0 none none none z5_ z5_ z2_ false::Q5.mk 0 none none z3_ z3_ z3_ z3_ z3_ 0 0 0 none none none z5_ z5_ z2_ false::Q5.mk 0 none none z3_ z3_ z3_ z3_ z3_ 0 0 0 none none none z5_ z5_ z2_ false::Q5.mk 0 none none z3_ z3_ z3_ z3_ z3_ 0 0 0 none none none z5_ z5_ z2_ false::Qn Q5) j Q5.zero) 0 r0.1.1 r1.1.1 r2.1.1 0 z5_ 0 h0.Q2j,(c,(r1.2.1.1,(g2,(g3,(g4,(r2.2.1.1,(g6,(g7,())))))))))))))) none λr3=>(Q0 (l0 (((1:Int),()),r3.2)) none λr4=>some ((),(r4.2,()))))
def K23:K23.T:=K23.gen Q1E Q3i Q3o K38 K40 K19 K69 Q3j K68 Q3l K23.F0
theorem K23.Q24 (cK189:Q1E.T) (cK160:Q3i.T) (cK106:Q3o.T) (cK38:K38.T) (cK40:K40.T) (cK19:K19.T) (cK69:K69.T) (cK157:Q3j.T) (cK68:K68.T) (cK139:Q3l.T) (l0:K23.l0T) (a:K23.L0.T):run Tryz.prog (K23.H cK189 cK160 cK106 cK38 cK40 cK19 cK69 cK157 cK68 cK139 l0) 6 (Option (K23.L0.T⊕ExT K23.X0)) none K23.B0 (K23.L0.enc a) (Zi (0,9) K23.L0 K23.X0)=K23.QO cK189 cK160 cK106 cK38 cK40 cK19 cK69 cK157 cK68 cK139 a:=by kernel_rfl
abbrev K23.h:=K23.H Q1E Q3i Q3o K38 K40 K19 K69 Q3j K68 Q3l K23.F0
theorem K23.Q1V:LO_ K23.h K23.B0 (Z9 (0,9) K23.L0 K23.X0 K23.F0):=lk_ (hn_ (Z0 (Z0 (Z0 (Z0 (Z0 (Z0 (Z0 (Z0 (Z0 (Z0 Z2 Q1E.ok) Q3i.ok) Q3o.ok) K38.ok) K40.ok) K19.ok) K69.ok) Q3j.ok) K68.ok) Q3l.ok)) (K23.Q24 Q1E Q3i Q3o K38 K40 K19 K69 Q3j K68 Q3l K23.F0)
theorem K23.eq (cK189:Q1E.T) (cK160:Q3i.T) (cK106:Q3o.T) (cK38:K38.T) (cK40:K40.T) (cK19:K19.T) (cK69:K69.T) (cK157:Q3j.T) (cK68:K68.T) (cK139:Q3l.T) (l0:K23.l0T):EqA K23.sig (K23.H cK189 cK160 cK106 cK38 cK40 cK19 cK69 cK157 cK68 cK139 l0) Tryz.f25 6 (K23.W (K23.gen cK189 cK160 cK106 cK38 cK40 cK19 cK69 cK157 cK68 cK139 l0)):=by intro a x;kernel_rfl
theorem K23.loops:Z3 K23.C= [(.loop K23.B0)]:=by kernel_rfl
theorem K23.ok:NK_ 25 K23.sig (K23.W K23):=ok_ Tryz.func25 (K23.eq Q1E Q3i Q3o K38 K40 K19 K69 Q3j K68 Q3l K23.F0) (hl_ (Z0 (Z0 (Z0 (Z0 (Z0 (Z0 (Z0 (Z0 (Z0 (Z0 Z2 Q1E.ok) Q3i.ok) Q3o.ok) K38.ok) K40.ok) K19.ok) K69.ok) Q3j.ok) K68.ok) Q3l.ok) (Z7 (by kernel_rfl) K23.Q1V Z5)) K23.loops
def K44.sig:Sig U:=⟨[.data .Q1e],[Q8C,Q5Z,Q58,Q51,Q5o,Q5S,Q5y,.fam 7 (.map true false .Qw .Q1R)],0,[.ref 0,.int .i64],true,[]⟩
abbrev K44.T:Type:=(Q8)->(Fm Q1)->(Fm Qp)->(Fm Qb)->(Fm Qg)->(Fm Qc)->(Fm Qh)->(Fm QB)->(Nat×(Nat->List (Qf×List (Int))))->Option (((Option Nat)×Int×Unit)×(Q2S)×Unit)
def K44.W (f:K44.T):K44.sig.F:=λa x=>f a.1 x.1 x.2.1 x.2.2.1 x.2.2.2.1 x.2.2.2.2.1 x.2.2.2.2.2.1 x.2.2.2.2.2.2.1 x.2.2.2.2.2.2.2.1
abbrev K44.N (c:K44.T):=Qk 8 (K44.sig.native (K44.W c))
def K44.H (cK59:K59.T) (cK23:K23.T):Hints U:={ Γ:=(K23.N cK23 (K59.N cK59 noΓ)),ro:=0,base:=8}
def K44.gen (cK59:K59.T) (cK23:K23.T):K44.T:=λc g0 g1 g2 g3 g4 g5 g6 g7=>
 (Q0 (cK59 c) none λr0=>(bif ine r0.1.1 0 then some ((none,r0.1),((g0,(g1,(g2,(g3,(g4,(g5,(g6,(g7,())))))))),())) else (Q0 (cK23 c (Qr g0.2 g0.1 (Q1.mk z7_ (λ(j:Nat)=>List.getD (Q5.mk 0 none none z3_ z3_ z3_ z3_ z3_ 0 0 0 none none none z5_ z5_ z2_ false::Q5.mk 0 none none z3_ z3_ z3_ z3_ z3_ 0 0 0 none none none z5_ z5_ z2_ false::Q5.mk 0 none none z3_ z3_ z3_ z3_ z3_ 0 0 0 none none none z5_ z5_ z2_ false::Q5.mk 0 none none z3_ z3_ z3_ z3_ z3_ 0 0 0 none none none z5_ z5_ z2_ false::Q5.mk 0 none none z3_ z3_ z3_ z3_ z3_ 0 0 0 none none none z5_ z5_ z2_ false::Q5.mk 0 none none z3_ z3_ z3_ z3_ z3_ 0 0 0 none none none z5_ z5_ z2_ false::Q5.mk 0 none none z3_ z3_ z3_ z3_ z3_ 0 0 0 none none none z5_ z5_ z2_ false::Q5.mk 0 none none z3_ z3_ z3_ z3_ z3_ 0 0 0 none none none z5_ z5_ z2_ false::Qn Q5) j Q5.zero) 0 (QY.mk z0_ 0 z1_ 0 0 0 z4_) none none (0:Int) z5_ 0 (Qn QJ)) g0.1) g1 g2 g3 g4 g5 g6 g7) none λr1=>some ((some g0.1,((0:Int),())),(((g0.1+1,Qr (Qr g0.2 g0.1 (Q1.mk z7_ (λ(j:Nat)=>List.getD (Q5.mk 0 none none z3_ z3_ z3_ z3_ z3_ 0 0 0 none none none z5_ z5_ z2_ false::Q5.mk 0 none none z3_ z3_ z3_ z3_ z3_ 0 0 0 none none none z5_ z5_ z2_ false::Q5.mk 0 none none z3_ z3_ z3_ z3_ z3_ 0 0 0 none none none z5_ z5_ z2_ false::Q5.mk 0 none none z3_ z3_ z3_ z3_ z3_ 0 0 0 none none none z5_ z5_ z2_ false::Q5.mk 0 none none z3_ z3_ z3_ z3_ z3_ 0 0 0 none none none z5_ z5_ z2_ false::Q5.mk 0 none none z3_ z3_ z3_ z3_ z3_ 0 0 0 none none none z5_ z5_ z2_ false::Q5.mk 0 none none z3_ z3_ z3_ z3_ z3_ 0 0 0 none none none z5_ z5_ z2_ false::Q5.mk 0 none none z3_ z3_ z3_ z3_ z3_ 0 0 0 none none none z5_ z5_ z2_ false::Qn Q5) j Q5.zero) 0 (QY.mk z0_ 0 z1_ 0 0 0 z4_) none none (0:Int) z5_ 0 (Qn QJ))) g0.1 r1.2.1.1),r1.2.1.2),())))))
def K44:K44.T:=K44.gen K59 K23
theorem K44.eq (cK59:K59.T) (cK23:K23.T):EqA K44.sig (K44.H cK59 cK23) Tryz.f8 6 (K44.W (K44.gen cK59 cK23)):=by intro a x;kernel_rfl
theorem K44.ok:NK_ 8 K44.sig (K44.W K44):=ok_ Tryz.func8 (K44.eq K59 K23) (hn_ (Z0 (Z0 Z2 K59.ok) K23.ok))
def Q1S.sig:Sig U:=⟨[.data .Q1n],[],0,[.bool],false,[]⟩
abbrev Q1S.T:Type:=(QD)->Option ((Bool×Unit)×Unit×Unit)
def Q1S.W (f:Q1S.T):Q1S.sig.F:=λa x=>f a.1
def Q1S.H:Hints U:={ Γ:=noΓ,ro:=0,base:=8}
def Q1S.gen:Q1S.T:=λx_0=>
 (bif ile (ofN (ByteArray.size x_0.fE.Q3h)) 600 then some ((ile (ofN (List.length x_0.fL)) 10,()),((),())) else some ((false,()),((),())))
def Q1S:Q1S.T:=Q1S.gen
theorem Q1S.ok:NK_ 14 Q1S.sig (Q1S.W Q1S):=ok_ (H:=Q1S.H) (n:=6) Tryz.func14 (by intro a x;kernel_rfl) (hn_ Z2)
def K82.sig:Sig U:=⟨[.int .i64],[],0,[.bool],false,[]⟩
abbrev K82.T:Type:=(Int)->Option ((Bool×Unit)×Unit×Unit)
def K82.W (f:K82.T):K82.sig.F:=λa x=>f a.1
def K82.JC7:Qm U:= [(.normal,⟨16,8,[(9,vb_)],[]⟩)]
def K82.JC3:Qm U:= [(.normal,⟨16,8,[(3,vi_),(4,vb_)],[]⟩)]
def K82.H:Hints U:={ Γ:=noΓ,ro:=0,base:=8,Q27:=jt_ [(3,K82.JC3),(7,K82.JC7)]}
def K82.gen:K82.T:=λtyp=>
 (Q0 ((bif ieq typ 0 then some ((typ,(ieq typ 0,())),()) else (bif ieq typ 1 then some ((typ,(ieq typ 1,())),()) else (bif ieq typ 2 then some ((typ,(ieq typ 2,())),()) else some ((typ,(ieq typ 3,())),()))))) none λr0=>(bif r0.1.2.1 then some ((true,()),((),())) else (Q0 ((bif ieq r0.1.1 8 then some ((ieq r0.1.1 8,()),()) else (bif ieq r0.1.1 9 then some ((ieq r0.1.1 9,()),()) else (bif ieq r0.1.1 10 then some ((ieq r0.1.1 10,()),()) else (bif ieq r0.1.1 11 then some ((ieq r0.1.1 11,()),()) else (bif ieq r0.1.1 12 then some ((ieq r0.1.1 12,()),()) else some ((ieq r0.1.1 13,()),()))))))) none λr1=>(bif r1.1.1 then some ((true,()),((),())) else some ((false,()),((),()))))))
def K82:K82.T:=K82.gen
theorem K82.ok:NK_ 161 K82.sig (K82.W K82):=ok_ (H:=K82.H) (n:=6) Tryz.func161 (by intro a x;kernel_rfl) (hn_ Z2)
def K85.sig:Sig U:=⟨[.int .i64,.int .i64,.int .i64],[],0,[.bool],false,[]⟩
abbrev K85.T:Type:=(Int)->(Int)->(Int)->Option ((Bool×Unit)×Unit×Unit)
def K85.W (f:K85.T):K85.sig.F:=λa x=>f a.1 a.2.1 a.2.2.1
abbrev K85.N (c:K85.T):=Qk 126 (K85.sig.native (K85.W c))
def K85.H:Hints U:={ Γ:=noΓ,ro:=0,base:=8}
def K85.gen:K85.T:=λv least most=>
 (bif ile least v then some ((ile v most,()),((),())) else some ((false,()),((),())))
def K85:K85.T:=K85.gen
theorem K85.ok:NK_ 126 K85.sig (K85.W K85):=ok_ (H:=K85.H) (n:=6) Tryz.func126 (by intro a x;kernel_rfl) (hn_ Z2)
def K88.sig:Sig U:=⟨[.data .Qw],[],0,[.bool],false,[]⟩
abbrev K88.T:Type:=(Qf)->Option ((Bool×Unit)×Unit×Unit)
def K88.W (f:K88.T):K88.sig.F:=λa x=>f a.1
def K88.H:Hints U:={ Γ:=noΓ,ro:=0,base:=8}
def K88.gen:K88.T:=λp=>
 (bif ile 0 p.QW then some ((ile p.QW 65535,()),((),())) else some ((false,()),((),())))
def K88:K88.T:=K88.gen
theorem K88.ok:NK_ 158 K88.sig (K88.W K88):=ok_ (H:=K88.H) (n:=6) Tryz.func158 (by intro a x;kernel_rfl) (hn_ Z2)
def K80.sig:Sig U:=⟨[.data .Ql],[],0,[.bool],false,[]⟩
abbrev K80.T:Type:=(Q9)->Option ((Bool×Unit)×Unit×Unit)
def K80.W (f:K80.T):K80.sig.F:=λa x=>f a.1
def K80.H (cK82:K82.T) (cK85:K85.T) (cK88:K88.T):Hints U:={ Γ:=(Qk 158 (K88.sig.native (K88.W cK88)) (K85.N cK85 (Qk 161 (K82.sig.native (K82.W cK82)) noΓ))),ro:=0,base:=8}
def K80.gen (cK82:K82.T) (cK85:K85.T) (cK88:K88.T):K80.T:=λm=>
 (Q0 (cK82 m.fType) none λr0=>(bif r0.1.1 then (Q0 (cK85 m.Q1v 0 255) none λr1=>(bif r1.1.1 then (Q0 (cK85 m.Q1W 0 65535) none λr2=>(bif r2.1.1 then (Q0 (cK88 m.Q1G) none λr3=>(bif r3.1.1 then (Q0 (cK85 m.Q36 0 65535) none λr4=>(bif r4.1.1 then (Q0 (cK85 m.Q6y (-128) 127) none λr5=>some (r5.1,((),()))) else some ((false,()),((),())))) else some ((false,()),((),())))) else some ((false,()),((),())))) else some ((false,()),((),())))) else some ((false,()),((),()))))
def K80:K80.T:=K80.gen K82 K85 K88
theorem K80.eq (cK82:K82.T) (cK85:K85.T) (cK88:K88.T):EqA K80.sig (K80.H cK82 cK85 cK88) Tryz.f125 6 (K80.W (K80.gen cK82 cK85 cK88)):=by intro a x;kernel_rfl
theorem K80.ok:NK_ 125 K80.sig (K80.W K80):=ok_ Tryz.func125 (K80.eq K82 K85 K88) (hn_ (Z0 (Z0 (Z0 Z2 K82.ok) K85.ok) K88.ok))
def K6.sig:Sig U:=⟨[.int .i64],[],0,[.bool],false,[]⟩
abbrev K6.T:Type:=(Int)->Option ((Bool×Unit)×Unit×Unit)
def K6.W (f:K6.T):K6.sig.F:=λa x=>f a.1
abbrev K6.N (c:K6.T):=Qk 117 (K6.sig.native (K6.W c))
def K6.H:Hints U:={ Γ:=noΓ,ro:=0,base:=8}
def K6.gen:K6.T:=λtyp=>
 (bif ine typ 12 then some ((ine typ 13,()),((),())) else some ((false,()),((),())))
def K6:K6.T:=K6.gen
theorem K6.ok:NK_ 117 K6.sig (K6.W K6):=ok_ (H:=K6.H) (n:=6) Tryz.func117 (by intro a x;kernel_rfl) (hn_ Z2)
def K7.sig:Sig U:=⟨[.int .i64],[],0,[.bool],false,[]⟩
abbrev K7.T:Type:=(Int)->Option ((Bool×Unit)×Unit×Unit)
def K7.W (f:K7.T):K7.sig.F:=λa x=>f a.1
abbrev K7.N (c:K7.T):=Qk 119 (K7.sig.native (K7.W c))
def K7.JC3:Qm U:= [(.normal,⟨10,8,[(4,vb_)],[]⟩)]
def K7.H:Hints U:={ Γ:=noΓ,ro:=0,base:=8,Q27:=jt_ [(3,K7.JC3)]}
def K7.gen:K7.T:=λtyp=>
 (Q0 ((bif ieq typ 9 then some ((ieq typ 9,()),()) else (bif ieq typ 3 then some ((ieq typ 3,()),()) else (bif ieq typ 10 then some ((ieq typ 10,()),()) else (bif ieq typ 12 then some ((ieq typ 12,()),()) else some ((ieq typ 13,()),())))))) none λr0=>(bif r0.1.1 then some ((true,()),((),())) else some ((false,()),((),()))))
def K7:K7.T:=K7.gen
theorem K7.ok:NK_ 119 K7.sig (K7.W K7):=ok_ (H:=K7.H) (n:=6) Tryz.func119 (by intro a x;kernel_rfl) (hn_ Z2)
def K5.sig:Sig U:=⟨[.data .Ql],[],0,[.data .Ql],false,[]⟩
abbrev K5.T:Type:=(Q9)->Option ((Q9×Unit)×Unit×Unit)
def K5.W (f:K5.T):K5.sig.F:=λa x=>f a.1
def K5.JC8:Qm U:= [(.normal,⟨68,10,[(2,.ptr 8 0 0),(3,.ptr 9 0 0)],[(8,.obj .Ql),(9,.obj .Ql)]⟩)]
def K5.JC5:Qm U:= [(.normal,⟨68,11,[(1,.ptr 8 0 0),(2,.ptr 9 0 0),(3,.ptr 10 0 0)],[(8,.obj .Ql),(9,.obj .Ql),(10,.obj .Ql)]⟩)]
def K5.H (cK6:K6.T) (cK7:K7.T):Hints U:={ Γ:=(K7.N cK7 (K6.N cK6 noΓ)),ro:=0,base:=8,Q27:=jt_ [(3,K5.JC5),(5,K5.JC5),(8,K5.JC8)]}
def K5.gen (cK6:K6.T) (cK7:K7.T):K5.T:=λm=>
 (Q0 (cK6 m.fType) none λr0=>(Q0 ((bif r0.1.1 then some ((),(m,(Q9.mk 0 0 0 0 z0_ 0 0 0 z0_ 0 0 z1_ 0 0 0 0 0 0 0,(Q9.mk m.fType m.Q1v m.Q1W m.Q4B m.Q1G m.Q36 m.Q6y m.Q4h z0_ 0 0 z1_ 0 0 0 0 0 0 0,())))) else some ((),(m,(Q9.mk 0 0 0 0 z0_ 0 0 0 z0_ 0 0 z1_ 0 0 0 0 0 0 0,(Q9.mk m.fType m.Q1v m.Q1W m.Q4B m.Q1G m.Q36 m.Q6y 0 z0_ 0 0 z1_ 0 0 0 0 0 0 0,())))))) none λr1=>(Q0 (cK7 r1.2.1.fType) none λr2=>(Q0 ((bif r2.1.1 then some ((),(r1.2.1,(r1.2.2.1,(Q9.Q7l r1.2.2.2.1 r1.2.1.Q2i,())))) else some ((),r1.2))) none λr3=>(Q0 ((bif ieq r3.2.1.fType 11 then some ((),(r3.2.2.1,(Q9.Q7j (Q9.Q7Z (Q9.Q7J (Q9.Q56 (Q9.Q4L (Q9.Q4K (Q9.Q8T r3.2.2.2.1 r3.2.1.Q37) r3.2.1.Q17) r3.2.1.Qu) r3.2.1.Q18) r3.2.1.Q2Q) r3.2.1.Q2g) r3.2.1.Q1N,()))) else (bif ieq r3.2.1.fType 13 then some ((),(r3.2.2.1,(Q9.Q6B (Q9.Q7i (Q9.Q6u r3.2.2.2.1 r3.2.1.Q2X) r3.2.1.Q4X) r3.2.1.Q3E,()))) else some ((),r3.2.2)))) none λr4=>some (r4.2.2,((),())))))))
def K5:K5.T:=K5.gen K6 K7
theorem K5.eq (cK6:K6.T) (cK7:K7.T):EqA K5.sig (K5.H cK6 cK7) Tryz.f157 6 (K5.W (K5.gen cK6 cK7)):=by intro a x;kernel_rfl
theorem K5.ok:NK_ 157 K5.sig (K5.W K5):=ok_ Tryz.func157 (K5.eq K6 K7) (hn_ (Z0 (Z0 Z2 K6.ok) K7.ok))
def Q1O.sig:Sig U:=⟨[.int .i64],[],0,[.bool],false,[]⟩
abbrev Q1O.T:Type:=(Int)->Option ((Bool×Unit)×Unit×Unit)
def Q1O.W (f:Q1O.T):Q1O.sig.F:=λa x=>f a.1
abbrev Q1O.N (c:Q1O.T):=Qk 100 (Q1O.sig.native (Q1O.W c))
def Q1O.H:Hints U:={ Γ:=noΓ,ro:=0,base:=8}
def Q1O.gen:Q1O.T:=λt=>
 (bif ile 0 t then some ((ile t 4000000000000000,()),((),())) else some ((false,()),((),())))
def Q1O:Q1O.T:=Q1O.gen
theorem Q1O.ok:NK_ 100 Q1O.sig (Q1O.W Q1O):=ok_ (H:=Q1O.H) (n:=6) Tryz.func100 (by intro a x;kernel_rfl) (hn_ Z2)
def K4.sig:Sig U:=⟨[.int .i64,.int .i64,.int .i64],[],0,[.bool],false,[]⟩
abbrev K4.T:Type:=(Int)->(Int)->(Int)->Option ((Bool×Unit)×Unit×Unit)
def K4.W (f:K4.T):K4.sig.F:=λa x=>f a.1 a.2.1 a.2.2.1
def K4.H:Hints U:={ Γ:=noΓ,ro:=0,base:=8}
def K4.gen:K4.T:=λv least most=>
 (bif ile least v then some ((ile v most,()),((),())) else some ((false,()),((),())))
def K4:K4.T:=K4.gen
theorem K4.ok:NK_ 159 K4.sig (K4.W K4):=ok_ (H:=K4.H) (n:=6) Tryz.func159 (by intro a x;kernel_rfl) (hn_ Z2)
def K0.sig:Sig U:=⟨[.data .Ql],[],0,[.bool],false,[]⟩
abbrev K0.T:Type:=(Q9)->Option ((Bool×Unit)×Unit×Unit)
def K0.W (f:K0.T):K0.sig.F:=λa x=>f a.1
def K0.H (cK80:K80.T) (cK5:K5.T) (cK169:Q1O.T) (cK88:K88.T) (cK4:K4.T) (cK147:Q2k.T):Hints U:={ Γ:=(Q2k.N cK147 (Qk 159 (K4.sig.native (K4.W cK4)) (Qk 158 (K88.sig.native (K88.W cK88)) (Q1O.N cK169 (Qk 157 (K5.sig.native (K5.W cK5)) (Qk 125 (K80.sig.native (K80.W cK80)) noΓ)))))),ro:=0,base:=8}
def K0.gen (cK80:K80.T) (cK5:K5.T) (cK169:Q1O.T) (cK88:K88.T) (cK4:K4.T) (cK147:Q2k.T):K0.T:=λm=>
 (Q0 (cK80 m) none λr0=>(bif r0.1.1 then (Q0 (cK5 m) none λr1=>(bif bif ieq m.fType r1.1.1.fType then bif ieq m.Q1v r1.1.1.Q1v then bif ieq m.Q1W r1.1.1.Q1W then bif ieq m.Q4B r1.1.1.Q4B then bif bif ieq m.Q1G.QF r1.1.1.Q1G.QF then bif ieq m.Q1G.QW r1.1.1.Q1G.QW then true else false else false then bif ieq m.Q36 r1.1.1.Q36 then bif ieq m.Q6y r1.1.1.Q6y then bif ieq m.Q4h r1.1.1.Q4h then bif bif ieq m.Q2i.QF r1.1.1.Q2i.QF then bif ieq m.Q2i.QW r1.1.1.Q2i.QW then true else false else false then bif ieq m.Q37 r1.1.1.Q37 then bif ieq m.Q17 r1.1.1.Q17 then bif bif ieq m.Qu.Q1M r1.1.1.Qu.Q1M then bif ieq m.Qu.Q1r r1.1.1.Qu.Q1r then bif ieq m.Qu.Q1B r1.1.1.Qu.Q1B then true else false else false else false then bif ieq m.Q18 r1.1.1.Q18 then bif ieq m.Q2Q r1.1.1.Q2Q then bif ieq m.Q2g r1.1.1.Q2g then bif ieq m.Q1N r1.1.1.Q1N then bif ieq m.Q2X r1.1.1.Q2X then bif ieq m.Q4X r1.1.1.Q4X then bif ieq m.Q3E r1.1.1.Q3E then true else false else false else false else false else false else false else false else false else false else false else false else false else false else false else false else false else false else false else false then (Q0 (cK169 m.Q4h) none λr2=>(bif r2.1.1 then (Q0 (cK88 m.Q2i) none λr3=>(bif r3.1.1 then (Q0 (cK4 m.Q37 (-32768) 32767) none λr4=>(bif r4.1.1 then (Q0 (cK4 m.Q17 0 255) none λr5=>(bif r5.1.1 then (Q0 (cK4 m.Q18 0 255) none λr6=>(bif r6.1.1 then (Q0 (cK4 m.Q1N 0 255) none λr7=>(bif r7.1.1 then (Q0 (cK147 m.Qu) none λr8=>(bif r8.1.1 then (Q0 (cK4 m.Q2g 0 65535) none λr9=>(bif r9.1.1 then (Q0 (cK4 m.Q2X 0 255) none λr10=>(bif r10.1.1 then (Q0 (cK4 m.Q4X 0 255) none λr11=>(bif r11.1.1 then (Q0 (cK4 m.Q3E 0 15) none λr12=>some (r12.1,((),()))) else some ((false,()),((),())))) else some ((false,()),((),())))) else some ((false,()),((),())))) else some ((false,()),((),())))) else some ((false,()),((),())))) else some ((false,()),((),())))) else some ((false,()),((),())))) else some ((false,()),((),())))) else some ((false,()),((),())))) else some ((false,()),((),())))) else some ((false,()),((),())))) else some ((false,()),((),()))))
def K0:K0.T:=K0.gen K80 K5 Q1O K88 K4 Q2k
theorem K0.eq (cK80:K80.T) (cK5:K5.T) (cK169:Q1O.T) (cK88:K88.T) (cK4:K4.T) (cK147:Q2k.T):EqA K0.sig (K0.H cK80 cK5 cK169 cK88 cK4 cK147) Tryz.f116 6 (K0.W (K0.gen cK80 cK5 cK169 cK88 cK4 cK147)):=by intro a x;kernel_rfl
theorem K0.ok:NK_ 116 K0.sig (K0.W K0):=ok_ Tryz.func116 (K0.eq K80 K5 Q1O K88 K4 Q2k) (hn_ (Z0 (Z0 (Z0 (Z0 (Z0 (Z0 Z2 K80.ok) K5.ok) Q1O.ok) K88.ok) K4.ok) Q2k.ok))
def QG.sig:Sig U:=⟨[.isl .u8,.int .i64,.int .i64],[],0,[.own .u8],false,[.tok]⟩
abbrev QG.T:Type:=(List (UInt8))->(Int)->(Int)->Option (((List (UInt8))×Unit)×Unit×(Unit×Unit))
def QG.W (f:QG.T):QG.sig.F:=λa x=>f a.1 a.2.1 a.2.2.1
abbrev QG.N (c:QG.T):=Qk 121 (QG.sig.native (QG.W c))
def QG.L0:Shape U:=⟨30,9,[(0,.own .u8 8),(1,vi_),(7,vi_)],[(8,.tok)]⟩
def QG.X0:Qm U:= [(.ret,⟨30,9,[(6,.own .u8 8)],[(8,.tok)]⟩)]
abbrev QG.l0T:Type:=(((List (UInt8))×Int×Int×Unit)×Unit)->Option ((((List (UInt8))×Unit)×Unit))
def QG.C:Code:=match Tryz.f121.body with|some c=>c|none=>.skip
def QG.B0:Code:=match (Z3 QG.C).getD 0 .skip with| .loop b=>b| .scope b=>b|_=>.skip
def QG.R0:Code:=(findLabel QG.B0 0).getD .skip
def QG.H (l0:QG.l0T):Hints U:={ Γ:=(Qk 6000000029 ZG noΓ),ro:=0,base:=8,label:=λb=>bif Nat.beq b 0 then some (Z9 (0,8) QG.L0 QG.X0 l0) else none,gotos:=3,loop:=λb=>none}
def QG.QO (a:((List (UInt8))×Int×Int×Unit)×Unit):Option ((((List (UInt8))×Int×Int×Unit)×Unit)⊕((((List (UInt8))×Unit)×Unit))):=
 (bif ilt 0 a.1.2.2.1 then (bif ile 0 (Q3u .i64 8 (Q1K .i64 a.1.2.2.1 1)) then (bif room (List.length a.1.1+List.length (UInt8.ofNat (Int.toNat (IntKind.wrap .u8 (Q5Y .i64 a.1.2.1 (Q3u .i64 8 (Q1K .i64 a.1.2.2.1 1)))))::Qn UInt8)) 1 then some (.inl ((a.1.1++UInt8.ofNat (Int.toNat (IntKind.wrap .u8 (Q5Y .i64 a.1.2.1 (Q3u .i64 8 (Q1K .i64 a.1.2.2.1 1)))))::Qn UInt8,(a.1.2.1,(Q1K .i64 a.1.2.2.1 1,()))),())) else none) else none) else some (.inr ((a.1.1,()),())))
def QG.F0:QG.l0T:=λa=>Z8 (1000000+(a.1.1.length)) (QG.QO) a
def QG.gen (l0:QG.l0T):QG.T:=λb v n=>
 (bif bif le3 (ofN 0) (ofN (List.length b)) (List.length b) then ieq (ofN (List.length b)) (ofN (List.length b)) else false then (bif ilt 0 (Z4 true 0 (Z4 false n 8)) then (bif ile 0 (Q3u .i64 8 (Q1K .i64 (Z4 true 0 (Z4 false n 8)) 1)) then (bif room (List.length (List.drop (Int.toNat (ofN 0)) (List.take (Int.toNat (ofN (List.length b))) b))+List.length (UInt8.ofNat (Int.toNat (IntKind.wrap .u8 (Q5Y .i64 v (Q3u .i64 8 (Q1K .i64 (Z4 true 0 (Z4 false n 8)) 1)))))::Qn UInt8)) 1 then (Q0 (l0 ((List.drop (Int.toNat (ofN 0)) (List.take (Int.toNat (ofN (List.length b))) b)++UInt8.ofNat (Int.toNat (IntKind.wrap .u8 (Q5Y .i64 v (Q3u .i64 8 (Q1K .i64 (Z4 true 0 (Z4 false n 8)) 1)))))::Qn UInt8,v,Q1K .i64 (Z4 true 0 (Z4 false n 8)) 1,()),())) none λr0=>some (r0.1,((),((),())))) else none) else none) else some ((List.drop (Int.toNat (ofN 0)) (List.take (Int.toNat (ofN (List.length b))) b),()),((),((),())))) else none)
def QG:QG.T:=QG.gen QG.F0
theorem QG.Q24 (l0:QG.l0T) (a:QG.L0.T):run Tryz.prog (QG.H l0) 6 (Option (QG.L0.T⊕ExT QG.X0)) none QG.R0 (QG.L0.enc a) (Z2J (0,8) 0 QG.L0 QG.X0)=QG.QO a:=by kernel_rfl
theorem QG.Q5a:Z3 QG.R0=([]:List Code):=by kernel_rfl
abbrev QG.h:=QG.H QG.F0
theorem QG.Q1V:ZT U Tryz.prog QG.h.ro QG.h.base QG.B0 QG.R0 (Z9 (0,8) QG.L0 QG.X0 QG.F0):=
 Z6q (Hn:=QG.h) (lb:=0) Q61 Q4F (Z1F (Z14 Q61 Q4F mixed (Z0 Z2 Zc) Z5 Z22 (Z2e λ_=>rfl)) 6) (by kernel_rfl) (λb h=>by rw [QG.Q5a] at h;exact h) (λ_=>rfl) (QG.Q24 QG.F0)
theorem QG.eq (l0:QG.l0T):EqA QG.sig (QG.H l0) Tryz.f121 6 (QG.W (QG.gen l0)):=by intro a x;kernel_rfl
theorem QG.loops:Z3 QG.C= [(.scope QG.B0)]:=by kernel_rfl
theorem QG.hints:Q4c U Tryz.prog QG.h (λc=>c∈ [(.scope QG.B0)]):=(Z14 Q61 Q4F mixed (Z0 Z2 Zc) (Zt Z5) (Z4X (Z6x (r0:=QG.R0) (l0:=0) (by kernel_rfl) (λ_=>rfl) QG.Q1V) Z22) (Z2e λ_=>rfl))
theorem QG.ok:Zy U Tryz.prog 121 (QG.sig.native (QG.W QG)):=
 Sig.ok QG.sig (QG.W QG) Q4F (Hn:=QG.h) (code:=QG.C) (gos:=6) QG.hints Tryz.func121 (by kernel_rfl) (by kernel_rfl) (λb h=>by rw [QG.loops] at h;exact h) rfl rfl (by decide) (QG.eq QG.F0) (by decide)
def Q2M.sig:Sig U:=⟨[.isl .u8,.int .i64],[],0,[.isl .u8],false,[]⟩
abbrev Q2M.T:Type:=(List (UInt8))->(Int)->Option (((List (UInt8))×Unit)×Unit×Unit)
def Q2M.W (f:Q2M.T):Q2M.sig.F:=λa x=>f a.1 a.2.1
def Q2M.JC2:Qm U:= [(.normal,⟨15,8,[(0,.val (.isl .u8)),(1,vi_)],[]⟩)]
def Q2M.H (cK169:Q1O.T) (cK121:QG.T):Hints U:={ Γ:=(QG.N cK121 (Q1O.N cK169 noΓ)),ro:=0,base:=8,Q27:=jt_ [(2,Q2M.JC2)]}
def Q2M.gen (cK169:Q1O.T) (cK121:QG.T):Q2M.T:=λb t=>
 (Q0 (cK169 t) none λr0=>(Q0 ((bif !r0.1.1 then some ((b,((0:Int),())),()) else some ((b,(t,())),()))) none λr1=>(Q0 (cK121 r1.1.1 (Q59 .i64 r1.1.2.1 1000000000) 6) none λr2=>(Q0 (cK121 r2.1.1 (Q5Q r1.1.2.1 1000000000) 4) none λr3=>some (r3.1,((),()))))))
def Q2M:Q2M.T:=Q2M.gen Q1O QG
theorem Q2M.eq (cK169:Q1O.T) (cK121:QG.T):EqA Q2M.sig (Q2M.H cK169 cK121) Tryz.f118 6 (Q2M.W (Q2M.gen cK169 cK121)):=by intro a x;kernel_rfl
theorem Q2M.ok:NK_ 118 Q2M.sig (Q2M.W Q2M):=ok_ Tryz.func118 (Q2M.eq Q1O QG) (hn_ (Z0 (Z0 Z2 Q1O.ok) QG.ok))
def Q1U.sig:Sig U:=⟨[.isl .u8,.int .u64],[],0,[.isl .u8],false,[]⟩
abbrev Q1U.T:Type:=(List (UInt8))->(Int)->Option (((List (UInt8))×Unit)×Unit×Unit)
def Q1U.W (f:Q1U.T):Q1U.sig.F:=λa x=>f a.1 a.2.1
abbrev Q1U.N (c:Q1U.T):=Qk 123 (Q1U.sig.native (Q1U.W c))
def Q1U.H (cK121:QG.T):Hints U:={ Γ:=(QG.N cK121 noΓ),ro:=0,base:=8}
def Q1U.gen (cK121:QG.T):Q1U.T:=λb v=>
 (Q0 (cK121 b (IntKind.wrap .i64 v) 8) none λr0=>some (r0.1,((),())))
def Q1U:Q1U.T:=Q1U.gen QG
theorem Q1U.eq (cK121:QG.T):EqA Q1U.sig (Q1U.H cK121) Tryz.f123 6 (Q1U.W (Q1U.gen cK121)):=by intro a x;kernel_rfl
theorem Q1U.ok:NK_ 123 Q1U.sig (Q1U.W Q1U):=ok_ Tryz.func123 (Q1U.eq QG) (hn_ (Z0 Z2 QG.ok))
def K90.sig:Sig U:=⟨[.isl .u8,.data .Qw],[],0,[.isl .u8],false,[]⟩
abbrev K90.T:Type:=(List (UInt8))->(Qf)->Option (((List (UInt8))×Unit)×Unit×Unit)
def K90.W (f:K90.T):K90.sig.F:=λa x=>f a.1 a.2.1
abbrev K90.N (c:K90.T):=Qk 120 (K90.sig.native (K90.W c))
def K90.H (cK122:Q1U.T) (cK121:QG.T):Hints U:={ Γ:=(QG.N cK121 (Q1U.N cK122 noΓ)),ro:=0,base:=8}
def K90.gen (cK122:Q1U.T) (cK121:QG.T):K90.T:=λb p=>
 (Q0 (cK122 b p.QF) none λr0=>(Q0 (cK121 r0.1.1 p.QW 2) none λr1=>some (r1.1,((),()))))
def K90:K90.T:=K90.gen Q1U QG
theorem K90.eq (cK122:Q1U.T) (cK121:QG.T):EqA K90.sig (K90.H cK122 cK121) Tryz.f120 6 (K90.W (K90.gen cK122 cK121)):=by intro a x;kernel_rfl
theorem K90.ok:NK_ 120 K90.sig (K90.W K90):=ok_ Tryz.func120 (K90.eq Q1U QG) (hn_ (Z0 (Z0 Z2 Q1U.ok) QG.ok))
def Q2Y.sig:Sig U:=⟨[.isl .u8,.data .Q2v],[],0,[.isl .u8],false,[]⟩
abbrev Q2Y.T:Type:=(List (UInt8))->(Qy)->Option (((List (UInt8))×Unit)×Unit×Unit)
def Q2Y.W (f:Q2Y.T):Q2Y.sig.F:=λa x=>f a.1 a.2.1
def Q2Y.H (cK121:QG.T):Hints U:={ Γ:=(QG.N cK121 noΓ),ro:=0,base:=8}
def Q2Y.gen (cK121:QG.T):Q2Y.T:=λb q=>
 (Q0 (cK121 b q.Q1M 1) none λr0=>(Q0 (cK121 r0.1.1 q.Q1r 1) none λr1=>(Q0 (cK121 r1.1.1 q.Q1B 2) none λr2=>some (r2.1,((),())))))
def Q2Y:Q2Y.T:=Q2Y.gen QG
theorem Q2Y.eq (cK121:QG.T):EqA Q2Y.sig (Q2Y.H cK121) Tryz.f122 6 (Q2Y.W (Q2Y.gen cK121)):=by intro a x;kernel_rfl
theorem Q2Y.ok:NK_ 122 Q2Y.sig (Q2Y.W Q2Y):=ok_ Tryz.func122 (Q2Y.eq QG) (hn_ (Z0 Z2 QG.ok))
def K3.sig:Sig U:=⟨[.isl .u8,.data .Ql],[],0,[.isl .u8,.bool],true,[]⟩
abbrev K3.T:Type:=(List (UInt8))->(Q9)->Option (((List (UInt8))×Bool×Unit)×Unit×Unit)
def K3.W (f:K3.T):K3.sig.F:=λa x=>f a.1 a.2.1
def K3.Qa0:Qm U:= [(.normal,⟨80,8,[(6,.val (.isl .u8))],[]⟩)]
def K3.JC7:Qm U:= [(.normal,⟨80,9,[(3,.ptr 8 0 0),(6,.val (.isl .u8))],[(8,.obj .Ql)]⟩)]
def K3.H (cK0:K0.T) (cK6:K6.T) (cK171:Q2M.T) (cK7:K7.T) (cK90:K90.T) (cK121:QG.T) (cK148:Q2Y.T) (cK122:Q1U.T):Hints U:={ Γ:=(Q1U.N cK122 (Qk 122 (Q2Y.sig.native (Q2Y.W cK148)) (QG.N cK121 (K90.N cK90 (K7.N cK7 (Qk 118 (Q2M.sig.native (Q2M.W cK171)) (K6.N cK6 (Qk 116 (K0.sig.native (K0.W cK0)) noΓ)))))))),ro:=0,base:=8,Q27:=jt_ [(5,K3.JC7),(7,K3.JC7),(10,K3.Qa0)]}
def K3.gen (cK0:K0.T) (cK6:K6.T) (cK171:Q2M.T) (cK7:K7.T) (cK90:K90.T) (cK121:QG.T) (cK148:Q2Y.T) (cK122:Q1U.T):K3.T:=λb m=>
 (Q0 (cK0 m) none λr0=>(bif !r0.1.1 then some ((b,(false,())),((),())) else (bif bif le3 (ofN 0) (ofN (List.length b)) (List.length b) then ieq (ofN (List.length b)) (ofN (List.length b)) else false then (Q0 (cK6 m.fType) none λr1=>(Q0 ((bif r1.1.1 then (Q0 (cK171 (List.drop (Int.toNat (ofN 0)) (List.take (Int.toNat (ofN (List.length b))) b)) m.Q4h) none λr2=>some (r2.1,(m,()))) else some ((List.drop (Int.toNat (ofN 0)) (List.take (Int.toNat (ofN (List.length b))) b),()),(m,())))) none λr3=>(Q0 (cK7 r3.2.1.fType) none λr4=>(Q0 ((bif r4.1.1 then (Q0 (cK90 r3.1.1 r3.2.1.Q2i) none λr5=>some (r5.1,r3.2)) else some r3)) none λr6=>(Q0 ((bif ieq r6.2.1.fType 2 then (Q0 (cK90 r6.1.1 z0_) none λr7=>some (r7.1,())) else (bif ieq r6.2.1.fType 11 then (Q0 (cK121 r6.1.1 r6.2.1.Q37 2) none λr8=>(Q0 (cK121 r8.1.1 0 1) none λr9=>(Q0 (cK121 r9.1.1 r6.2.1.Q17 1) none λr10=>(Q0 (cK148 r10.1.1 r6.2.1.Qu) none λr11=>(Q0 (cK121 r11.1.1 r6.2.1.Q18 1) none λr12=>(Q0 (cK122 r12.1.1 r6.2.1.Q2Q) none λr13=>(Q0 (cK121 r13.1.1 r6.2.1.Q2g 2) none λr14=>(Q0 (cK121 r14.1.1 r6.2.1.Q1N 1) none λr15=>some (r15.1,()))))))))) else (bif ieq r6.2.1.fType 13 then (Q0 (cK121 r6.1.1 r6.2.1.Q2X 1) none λr16=>(Q0 (cK121 r16.1.1 r6.2.1.Q4X 1) none λr17=>(Q0 (cK121 r17.1.1 r6.2.1.Q3E 1) none λr18=>(Q0 (cK121 r18.1.1 0 1) none λr19=>some (r19.1,()))))) else some (r6.1,()))))) none λr20=>some ((r20.1.1,(true,())),((),()))))))) else none)))
def K3:K3.T:=K3.gen K0 K6 Q2M K7 K90 QG Q2Y Q1U
theorem K3.eq (cK0:K0.T) (cK6:K6.T) (cK171:Q2M.T) (cK7:K7.T) (cK90:K90.T) (cK121:QG.T) (cK148:Q2Y.T) (cK122:Q1U.T):EqA K3.sig (K3.H cK0 cK6 cK171 cK7 cK90 cK121 cK148 cK122) Tryz.f70 6 (K3.W (K3.gen cK0 cK6 cK171 cK7 cK90 cK121 cK148 cK122)):=by intro a x;kernel_rfl
theorem K3.ok:NK_ 70 K3.sig (K3.W K3):=ok_ Tryz.func70 (K3.eq K0 K6 Q2M K7 K90 QG Q2Y Q1U) (hn_ (Z0 (Z0 (Z0 (Z0 (Z0 (Z0 (Z0 (Z0 Z2 K0.ok) K6.ok) Q2M.ok) K7.ok) K90.ok) QG.ok) Q2Y.ok) Q1U.ok))
def Q2F.sig:Sig U:=⟨[.int .i64,.int .i64,.int .i64],[],0,[.bool],false,[]⟩
abbrev Q2F.T:Type:=(Int)->(Int)->(Int)->Option ((Bool×Unit)×Unit×Unit)
def Q2F.W (f:Q2F.T):Q2F.sig.F:=λa x=>f a.1 a.2.1 a.2.2.1
abbrev Q2F.N (c:Q2F.T):=Qk 160 (Q2F.sig.native (Q2F.W c))
def Q2F.H:Hints U:={ Γ:=noΓ,ro:=0,base:=8}
def Q2F.gen:Q2F.T:=λv least most=>
 (bif ile least v then some ((ile v most,()),((),())) else some ((false,()),((),())))
def Q2F:Q2F.T:=Q2F.gen
theorem Q2F.ok:NK_ 160 Q2F.sig (Q2F.W Q2F):=ok_ (H:=Q2F.H) (n:=6) Tryz.func160 (by intro a x;kernel_rfl) (hn_ Z2)
def Q2U.sig:Sig U:=⟨[.data .QX],[],0,[.bool],false,[]⟩
abbrev Q2U.T:Type:=(Qi)->Option ((Bool×Unit)×Unit×Unit)
def Q2U.W (f:Q2U.T):Q2U.sig.F:=λa x=>f a.1
def Q2U.H (cK187:Q2F.T):Hints U:={ Γ:=(Q2F.N cK187 noΓ),ro:=0,base:=8}
def Q2U.gen (cK187:Q2F.T):Q2U.T:=λt=>
 (Q0 (cK187 t.fType 0 65535) none λr0=>(bif r0.1.1 then (bif ieq (Q5Q (ofN (ByteArray.size t.Q2y)) 2) 0 then some ((ile (ofN (ByteArray.size t.Q2y)) 400,()),((),())) else some ((false,()),((),()))) else some ((false,()),((),()))))
def Q2U:Q2U.T:=Q2U.gen Q2F
theorem Q2U.eq (cK187:Q2F.T):EqA Q2U.sig (Q2U.H cK187) Tryz.f124 6 (Q2U.W (Q2U.gen cK187)):=by intro a x;kernel_rfl
theorem Q2U.ok:NK_ 124 Q2U.sig (Q2U.W Q2U):=ok_ Tryz.func124 (Q2U.eq Q2F) (hn_ (Z0 Z2 Q2F.ok))
def Q1y.sig:Sig U:=⟨[.isl .u8,.isl .QX],[],0,[.isl .u8,.bool],true,[]⟩
abbrev Q1y.T:Type:=(List (UInt8))->(List (Qi))->Option (((List (UInt8))×Bool×Unit)×Unit×Unit)
def Q1y.W (f:Q1y.T):Q1y.sig.F:=λa x=>f a.1 a.2.1
def Q1y.L0:Shape U:=⟨42,8,[(0,.val (.isl .u8)),(6,.val (.isl .u8)),(19,.val (.isl .QX)),(20,vi_),(21,vi_)],[]⟩
def Q1y.X0:Qm U:= [(.exit 0,⟨42,8,[(6,.val (.isl .u8))],[]⟩),
 (.ret,⟨42,8,[(4,.val (.isl .u8)),(5,vb_)],[]⟩)]
abbrev Q1y.l0T:Type:=(((List (UInt8))×(List (UInt8))×(List (Qi))×Int×Int×Unit)×Unit)->Option ((((List (UInt8))×Unit)×Unit)⊕(((List (UInt8))×Bool×Unit)×Unit))
def Q1y.C:Code:=match Tryz.f71.body with|some c=>c|none=>.skip
def Q1y.B0:Code:=match (Z3 Q1y.C).getD 0 .skip with| .loop b=>b| .scope b=>b|_=>.skip
def Q1y.H (cK177:Q2U.T) (cK121:QG.T) (l0:Q1y.l0T):Hints U:={ Γ:=(QG.N cK121 (Qk 124 (Q2U.sig.native (Q2U.W cK177)) noΓ)),ro:=0,base:=8,loop:=jt_ [(5,(Z9 (0,8) Q1y.L0 Q1y.X0 l0))]}
def Q1y.QO (cK177:Q2U.T) (cK121:QG.T) (a:((List (UInt8))×(List (UInt8))×(List (Qi))×Int×Int×Unit)×Unit):Option ((((List (UInt8))×(List (UInt8))×(List (Qi))×Int×Int×Unit)×Unit)⊕((((List (UInt8))×Unit)×Unit)⊕(((List (UInt8))×Bool×Unit)×Unit))):=
 (bif ilt a.1.2.2.2.2.1 a.1.2.2.2.1 then (bif inR a.1.2.2.2.2.1 (List.length a.1.2.2.1) then (Q0 (cK177 (List.getD a.1.2.2.1 (Int.toNat a.1.2.2.2.2.1) Qi.zero)) none λr0=>(bif !r0.1.1 then some (.inr (.inr ((a.1.1,(false,())),()))) else (Q0 (cK121 a.1.2.1 (List.getD a.1.2.2.1 (Int.toNat a.1.2.2.2.2.1) Qi.zero).fType 2) none λr1=>(Q0 (cK121 r1.1.1 (ofN (ByteArray.size (List.getD a.1.2.2.1 (Int.toNat a.1.2.2.2.2.1) Qi.zero).Q2y)) 2) none λr2=>(bif room (List.length r2.1.1+List.length (List.getD a.1.2.2.1 (Int.toNat a.1.2.2.2.2.1) Qi.zero).Q2y.data.toList) 1 then some (.inl ((a.1.1,(r2.1.1++(List.getD a.1.2.2.1 (Int.toNat a.1.2.2.2.2.1) Qi.zero).Q2y.data.toList,(a.1.2.2.1,(a.1.2.2.2.1,(Q4 .i64 a.1.2.2.2.2.1 1,()))))),())) else none))))) else none) else some (.inr (.inl ((a.1.2.1,()),()))))
def Q1y.F0:Q1y.l0T:=λa=>Z8 (1000000+(a.1.1.length+a.1.2.1.length+a.1.2.2.1.length)) (Q1y.QO Q2U QG) a
def Q1y.gen (cK177:Q2U.T) (cK121:QG.T) (l0:Q1y.l0T):Q1y.T:=λb l=>
 (bif ilt 8 (ofN (List.length l)) then some ((b,(false,())),((),())) else (bif bif le3 (ofN 0) (ofN (List.length b)) (List.length b) then ieq (ofN (List.length b)) (ofN (List.length b)) else false then (Q0 (l0 ((b,List.drop (Int.toNat (ofN 0)) (List.take (Int.toNat (ofN (List.length b))) b),l,ofN (List.length l),(0:Int),()),())) none λr0=>(Q3S r0 (λr1=>some ((r1.1.1,(true,())),((),()))) (λr1=>some (r1.1,((),()))))) else none))
def Q1y:Q1y.T:=Q1y.gen Q2U QG Q1y.F0
theorem Q1y.Q24 (cK177:Q2U.T) (cK121:QG.T) (l0:Q1y.l0T) (a:Q1y.L0.T):run Tryz.prog (Q1y.H cK177 cK121 l0) 6 (Option (Q1y.L0.T⊕ExT Q1y.X0)) none Q1y.B0 (Q1y.L0.enc a) (Zi (0,8) Q1y.L0 Q1y.X0)=Q1y.QO cK177 cK121 a:=by kernel_rfl
abbrev Q1y.h:=Q1y.H Q2U QG Q1y.F0
theorem Q1y.Q1V:LO_ Q1y.h Q1y.B0 (Z9 (0,8) Q1y.L0 Q1y.X0 Q1y.F0):=lk_ (hn_ (Z0 (Z0 Z2 Q2U.ok) QG.ok)) (Q1y.Q24 Q2U QG Q1y.F0)
theorem Q1y.eq (cK177:Q2U.T) (cK121:QG.T) (l0:Q1y.l0T):EqA Q1y.sig (Q1y.H cK177 cK121 l0) Tryz.f71 6 (Q1y.W (Q1y.gen cK177 cK121 l0)):=by intro a x;kernel_rfl
theorem Q1y.loops:Z3 Q1y.C= [(.loop Q1y.B0)]:=by kernel_rfl
theorem Q1y.ok:NK_ 71 Q1y.sig (Q1y.W Q1y):=ok_ Tryz.func71 (Q1y.eq Q2U QG Q1y.F0) (hl_ (Z0 (Z0 Z2 Q2U.ok) QG.ok) (Z7 (by kernel_rfl) Q1y.Q1V Z5)) Q1y.loops
def K84.sig:Sig U:=⟨[.int .i64],[],0,[.int .i64],false,[]⟩
abbrev K84.T:Type:=(Int)->Option ((Int×Unit)×Unit×Unit)
def K84.W (f:K84.T):K84.sig.F:=λa x=>f a.1
def K84.H:Hints U:={ Γ:=noΓ,ro:=0,base:=8}
def K84.gen:K84.T:=λtyp=>
 (bif ieq typ 0 then some (((0:Int),()),((),())) else (bif ieq typ 1 then some (((1:Int),()),((),())) else (bif ieq typ 8 then some (((2:Int),()),((),())) else (bif ieq typ 9 then some (((3:Int),()),((),())) else (bif ieq typ 13 then some (((4:Int),()),((),())) else some (((5:Int),()),((),())))))))
def K84:K84.T:=K84.gen
theorem K84.ok:NK_ 127 K84.sig (K84.W K84):=ok_ (H:=K84.H) (n:=6) Tryz.func127 (by intro a x;kernel_rfl) (hn_ Z2)
def K83.sig:Sig U:=⟨[.data .Ql,.int .i64],[],0,[.isl .u8,.bool],true,[]⟩
abbrev K83.T:Type:=(Q9)->(Int)->Option (((List (UInt8))×Bool×Unit)×Unit×Unit)
def K83.W (f:K83.T):K83.sig.F:=λa x=>f a.1 a.2.1
def K83.H (cK80:K80.T) (cK85:K85.T) (cK121:QG.T) (cK90:K90.T) (cK84:K84.T):Hints U:={ Γ:=(Qk 127 (K84.sig.native (K84.W cK84)) (K90.N cK90 (QG.N cK121 (K85.N cK85 (Qk 125 (K80.sig.native (K80.W cK80)) noΓ))))),ro:=0,base:=8,Q1J:=jt_ [(1,[(14,vb_)])]}
def K83.gen (cK80:K80.T) (cK85:K85.T) (cK121:QG.T) (cK90:K90.T) (cK84:K84.T):K83.T:=λm length=>
 (Q0 ((Q0 (cK80 m) none λr0=>(bif !r0.1.1 then some (true,()) else (Q0 (cK85 length 34 400) none λr1=>some (!r1.1.1,()))))) none λr2=>(bif r2.1 then some ((Qn UInt8,(false,())),((),())) else (Q0 (cK121 (UInt8.ofNat (Int.toNat (IntKind.wrap .u8 m.fType))::UInt8.ofNat (Int.toNat 18)::Qn UInt8) length 2) none λr3=>(Q0 (cK121 r3.1.1 m.Q1v 1) none λr4=>(Q0 (cK121 r4.1.1 0 1) none λr5=>(Q0 (cK121 r5.1.1 m.Q1W 2) none λr6=>(Q0 (cK121 r6.1.1 m.Q4B 8) none λr7=>(Q0 (cK121 r7.1.1 0 4) none λr8=>(Q0 (cK90 r8.1.1 m.Q1G) none λr9=>(Q0 (cK121 r9.1.1 m.Q36 2) none λr10=>(Q0 (cK84 m.fType) none λr11=>(Q0 (cK121 r10.1.1 r11.1.1 1) none λr12=>(Q0 (cK121 r12.1.1 m.Q6y 1) none λr13=>some ((r13.1.1,(true,())),((),())))))))))))))))
def K83:K83.T:=K83.gen K80 K85 QG K90 K84
theorem K83.eq (cK80:K80.T) (cK85:K85.T) (cK121:QG.T) (cK90:K90.T) (cK84:K84.T):EqA K83.sig (K83.H cK80 cK85 cK121 cK90 cK84) Tryz.f72 6 (K83.W (K83.gen cK80 cK85 cK121 cK90 cK84)):=by intro a x;kernel_rfl
theorem K83.ok:NK_ 72 K83.sig (K83.W K83):=ok_ Tryz.func72 (K83.eq K80 K85 QG K90 K84) (hn_ (Z0 (Z0 (Z0 (Z0 (Z0 Z2 K80.ok) K85.ok) QG.ok) K90.ok) K84.ok))
def K79.sig:Sig U:=⟨[.data .Ql,.isl .QX],[],0,[.str,.bool],true,[]⟩
abbrev K79.T:Type:=(Q9)->(List (Qi))->Option ((ByteArray×Bool×Unit)×Unit×Unit)
def K79.W (f:K79.T):K79.sig.F:=λa x=>f a.1 a.2.1
def K79.C:Code:=match Tryz.f33.body with|some c=>c|none=>.skip
def K79.B0:Code:=match (Z3 K79.C).getD 0 .skip with| .loop b=>b| .scope b=>b|_=>.skip
def K79.H (cK3:K3.T) (cK186:Q1y.T) (cK83:K83.T):Hints U:={ Γ:=(Qk 72 (K83.sig.native (K83.W cK83)) (Qk 71 (Q1y.sig.native (Q1y.W cK186)) (Qk 70 (K3.sig.native (K3.W cK3)) noΓ))),ro:=0,base:=8,gotos:=3,loop:=λb=>none}
def K79.gen (cK3:K3.T) (cK186:Q1y.T) (cK83:K83.T):K79.T:=λm l=>
 (Q0 (cK3 (Qn UInt8) m) none λr0=>(bif !r0.1.2.1 then some ((ByteArray.mk (List.toArray (Qn UInt8)),(false,())),((),())) else (Q0 (cK186 r0.1.1 l) none λr1=>(bif !r1.1.2.1 then some ((ByteArray.mk (List.toArray (Qn UInt8)),(false,())),((),())) else (Q0 (cK83 m (Q4 .i64 34 (ofN (List.length r1.1.1)))) none λr2=>(bif !r2.1.2.1 then some ((ByteArray.mk (List.toArray (Qn UInt8)),(false,())),((),())) else (bif Nat.ble (ByteArray.size (ByteArray.mk (List.toArray r2.1.1))+ByteArray.size (ByteArray.mk (List.toArray r1.1.1))) 9223372036854775807 then some ((ByteArray.mk (List.toArray r2.1.1)++ByteArray.mk (List.toArray r1.1.1),(true,())),((),())) else none)))))))
def K79:K79.T:=K79.gen K3 Q1y K83
theorem K79.eq (cK3:K3.T) (cK186:Q1y.T) (cK83:K83.T):EqA K79.sig (K79.H cK3 cK186 cK83) Tryz.f33 6 (K79.W (K79.gen cK3 cK186 cK83)):=by intro a x;kernel_rfl
theorem K79.loops:Z3 K79.C= [(.scope K79.B0)]:=by kernel_rfl
theorem K79.ok:NK_ 33 K79.sig (K79.W K79):=ok_ Tryz.func33 (K79.eq K3 Q1y K83) (hl_ (Z0 (Z0 (Z0 Z2 K3.ok) Q1y.ok) K83.ok) (Zt Z5)) K79.loops
def K98.sig:Sig U:=⟨[.data .Q1n],[],0,[.isl .Q2p],false,[]⟩
abbrev K98.T:Type:=(QD)->Option (((List (Qz))×Unit)×Unit×Unit)
def K98.W (f:K98.T):K98.sig.F:=λa x=>f a.1
def K98.L0:Shape U:=⟨82,10,[(1,.ptr 8 0 0),(3,.own .Q2p 9),(4,vi_)],[(8,.obj .Q1n),(9,.tok)]⟩
def K98.X0:Qm U:= [(.exit 1,⟨82,9,[(3,.own .Q2p 8)],[(8,.tok)]⟩)]
abbrev K98.l0T:Type:=(((List (Qz))×Int×Unit)×(QD×Unit))->Option ((((List (Qz))×Unit)×Unit))
def K98.C:Code:=match Tryz.f15.body with|some c=>c|none=>.skip
def K98.B0:Code:=match (Z3 K98.C).getD 0 .skip with| .loop b=>b| .scope b=>b|_=>.skip
def K98.JC20:Qm U:= [(.normal,⟨82,9,[(6,.ptr 8 0 0)],[(8,.obj .Q2p)]⟩)]
def K98.JC16:Qm U:= [(.normal,⟨82,9,[(6,.ptr 8 0 0),(7,.val (.str)),(8,vb_)],[(8,.obj .Q2p)]⟩)]
def K98.H (cK93:K93.T) (cK79:K79.T) (l0:K98.l0T):Hints U:={ Γ:=(Qk 33 (K79.sig.native (K79.W cK79)) (K93.N cK93 (Qk 7000000102 ZG noΓ))),ro:=0,base:=8,Q1J:=jt_ [(15,[(49,vb_)])],Q27:=jt_ [(16,K98.JC16),(20,K98.JC20)],loop:=jt_ [(5,(Z9 (0,8) K98.L0 K98.X0 l0))]}
def K98.QO (cK93:K93.T) (cK79:K79.T) (a:((List (Qz))×Int×Unit)×(QD×Unit)):Option ((((List (Qz))×Int×Unit)×(QD×Unit))⊕((((List (Qz))×Unit)×Unit))):=
 (Q0 (cK93 a.2.1.fN 40) none λr0=>(bif ile a.1.2.1 r0.1.1 then (bif room (List.length a.1.1+List.length (Qz.Q6F a.2.1.fE 1::Qn Qz)) 232 then some (.inl ((a.1.1++Qz.Q6F a.2.1.fE 1::Qn Qz,(Q4 .i64 a.1.2.1 1,())),a.2)) else none) else some (.inr ((a.1.1,()),()))))
def K98.F0:K98.l0T:=λa=>Z8 (1000000+(a.1.1.length)) (K98.QO K93 K79) a
def K98.gen (cK93:K93.T) (cK79:K79.T) (l0:K98.l0T):K98.T:=λx_0=>
 (Q0 (cK93 x_0.fHow 4) none λr0=>(bif ieq r0.1.1 1 then (Q0 (l0 ((Qn Qz,(0:Int),()),x_0,())) none λr1=>some (r1.1,((),()))) else (bif ieq r0.1.1 2 then (Q0 (cK79 x_0.fM x_0.fL) none λr2=>(Q0 ((bif r2.1.2.1 then some (ine x_0.fBy 0,()) else some (false,()))) none λr3=>(Q0 ((bif r3.1 then (Q0 (cK93 x_0.fAt (ofN (ByteArray.size r2.1.1))) none λr4=>(bif inR r4.1.1 (ByteArray.size r2.1.1) then (bif inR r4.1.1 (ByteArray.size r2.1.1) then some ((ByteArray.mk (List.toArray (List.map (λ(j:Nat)=>Qr (λ(j:Nat)=>List.getD r2.1.1.data.toList j (0:D UC.u8)) (0+Int.toNat r4.1.1) (UInt8.ofNat (Int.toNat (ixor .u8 (ofN (UInt8.toNat (List.getD r2.1.1.data.toList (0+Int.toNat r4.1.1) (0:D UC.u8)))) (IntKind.wrap .u8 x_0.fBy)))) (0+j)) (List.range (ByteArray.size r2.1.1)))),r2.1.2),(Qz.Q6F x_0.fE 2,())) else none) else none)) else some (r2.1,(Qz.Q6F x_0.fE 2,())))) none λr5=>(Q0 ((bif r5.1.2.1 then some ((),(Qz.QaO r5.2.1 r5.1.1,())) else some ((),r5.2))) none λr6=>some ((r6.2.1::Qn Qz,()),((),())))))) else (bif ieq r0.1.1 3 then some ((Qz.Q6F x_0.fE 3::Qn Qz,()),((),())) else some ((x_0.fE::Qn Qz,()),((),()))))))
def K98:K98.T:=K98.gen K93 K79 K98.F0
theorem K98.Q24 (cK93:K93.T) (cK79:K79.T) (l0:K98.l0T) (a:K98.L0.T):run Tryz.prog (K98.H cK93 cK79 l0) 6 (Option (K98.L0.T⊕ExT K98.X0)) none K98.B0 (K98.L0.enc a) (Zi (0,8) K98.L0 K98.X0)=K98.QO cK93 cK79 a:=by kernel_rfl
abbrev K98.h:=K98.H K93 K79 K98.F0
theorem K98.Q1V:LO_ K98.h K98.B0 (Z9 (0,8) K98.L0 K98.X0 K98.F0):=lk_ (hn_ (Z0 (Z0 (Z0 Z2 Zc) K93.ok) K79.ok)) (K98.Q24 K93 K79 K98.F0)
theorem K98.eq (cK93:K93.T) (cK79:K79.T) (l0:K98.l0T):EqA K98.sig (K98.H cK93 cK79 l0) Tryz.f15 6 (K98.W (K98.gen cK93 cK79 l0)):=by intro a x;kernel_rfl
theorem K98.loops:Z3 K98.C= [(.loop K98.B0)]:=by kernel_rfl
theorem K98.ok:NK_ 15 K98.sig (K98.W K98):=ok_ Tryz.func15 (K98.eq K93 K79 K98.F0) (hl_ (Z0 (Z0 (Z0 Z2 Zc) K93.ok) K79.ok) (Z7 (by kernel_rfl) K98.Q1V Z5)) K98.loops
def Q1T.sig:Sig U:=⟨[.int .i64],[],0,[.bool],false,[]⟩
abbrev Q1T.T:Type:=(Int)->Option ((Bool×Unit)×Unit×Unit)
def Q1T.W (f:Q1T.T):Q1T.sig.F:=λa x=>f a.1
abbrev Q1T.N (c:Q1T.T):=Qk 56 (Q1T.sig.native (Q1T.W c))
def Q1T.H:Hints U:={ Γ:=noΓ,ro:=0,base:=8}
def Q1T.gen:Q1T.T:=λstate=>
 (bif ieq state 8 then some ((true,()),((),())) else some ((ieq state 9,()),((),())))
def Q1T:Q1T.T:=Q1T.gen
theorem Q1T.ok:NK_ 56 Q1T.sig (Q1T.W Q1T):=ok_ (H:=Q1T.H) (n:=6) Tryz.func56 (by intro a x;kernel_rfl) (hn_ Z2)
def Q2q.sig:Sig U:=⟨[.int .i64],[],0,[.bool],false,[]⟩
abbrev Q2q.T:Type:=(Int)->Option ((Bool×Unit)×Unit×Unit)
def Q2q.W (f:Q2q.T):Q2q.sig.F:=λa x=>f a.1
abbrev Q2q.N (c:Q2q.T):=Qk 78 (Q2q.sig.native (Q2q.W c))
def Q2q.H (cK142:Q1T.T):Hints U:={ Γ:=(Q1T.N cK142 noΓ),ro:=0,base:=8}
def Q2q.gen (cK142:Q1T.T):Q2q.T:=λstate=>
 (bif ieq state 4 then some ((true,()),((),())) else (bif ieq state 7 then some ((true,()),((),())) else (Q0 (cK142 state) none λr0=>some (r0.1,((),())))))
def Q2q:Q2q.T:=Q2q.gen Q1T
theorem Q2q.eq (cK142:Q1T.T):EqA Q2q.sig (Q2q.H cK142) Tryz.f78 6 (Q2q.W (Q2q.gen cK142)):=by intro a x;kernel_rfl
theorem Q2q.ok:NK_ 78 Q2q.sig (Q2q.W Q2q):=ok_ Tryz.func78 (Q2q.eq Q1T) (hn_ (Z0 Z2 Q1T.ok))
def Q20.sig:Sig U:=⟨[.int .i64,.int .i64,.bool],[],0,[.int .i64],false,[]⟩
abbrev Q20.T:Type:=(Int)->(Int)->(Bool)->Option ((Int×Unit)×Unit×Unit)
def Q20.W (f:Q20.T):Q20.sig.F:=λa x=>f a.1 a.2.1 a.2.2.1
abbrev Q20.N (c:Q20.T):=Qk 66 (Q20.sig.native (Q20.W c))
def Q20.JC6:Qm U:= [(.normal,⟨60,8,[(0,vi_),(1,vi_),(2,vb_),(21,vb_)],[]⟩)]
def Q20.JC2:Qm U:= [(.normal,⟨60,8,[(0,vi_)],[]⟩),
 (.ret,⟨60,8,[(6,vi_)],[]⟩)]
def Q20.H (cK143:Q2q.T):Hints U:={ Γ:=(Q2q.N cK143 noΓ),ro:=0,base:=8,Q1J:=jt_ [(1,[(7,vb_)]),(3,[(14,vb_)]),(5,[(21,vb_)]),(6,[(21,vb_)]),(8,[(34,vb_)]),(12,[(42,vb_)]),(14,[(49,vb_)])],Q27:=jt_ [(2,Q20.JC2),(6,Q20.JC6)]}
def Q20.gen (cK143:Q2q.T):Q20.T:=λstate event slaveOnly=>
 (Q0 ((bif ieq event 1 then some (ieq state 1,()) else some (false,()))) none λr0=>(Q0 ((bif r0.1 then some (.inr (((4:Int),()),())) else (Q0 ((bif ieq event 2 then some (ine state 3,()) else some (false,()))) none λr1=>(bif r1.1 then some (.inr (((2:Int),()),())) else (Q0 ((bif ieq event 3 then some (ieq state 2,()) else some (false,()))) none λr2=>(Q0 ((bif r2.1 then some ((state,(event,(slaveOnly,r2))),()) else (Q0 ((bif ieq event 8 then some (ieq state 3,()) else some (false,()))) none λr3=>some ((state,(event,(slaveOnly,r3))),())))) none λr4=>(bif r4.1.2.2.2.1 then some (.inr (((1:Int),()),())) else (Q0 ((bif ieq r4.1.2.1 4 then (Q0 (cK143 r4.1.1) none λr5=>some r5.1) else some (false,()))) none λr6=>(bif r6.1 then (bif r4.1.2.2.1 then some (.inr (((4:Int),()),())) else some (.inr (((6:Int),()),()))) else (Q0 ((bif ieq r4.1.2.1 5 then some (ieq r4.1.1 5,()) else some (false,()))) none λr7=>(bif r7.1 then some (.inr (((6:Int),()),())) else (Q0 ((bif ieq r4.1.2.1 6 then some (ieq r4.1.1 8,()) else some (false,()))) none λr8=>(bif r8.1 then some (.inr (((9:Int),()),())) else (bif ieq r4.1.2.1 7 then some (.inr (((3:Int),()),())) else some (.inl ((r4.1.1,()),())))))))))))))))) none λr9=>(Q3S r9 (λr10=>some (r10.1,((),()))) (λr10=>some (r10.1,((),()))))))
def Q20:Q20.T:=Q20.gen Q2q
theorem Q20.eq (cK143:Q2q.T):EqA Q20.sig (Q20.H cK143) Tryz.f66 6 (Q20.W (Q20.gen cK143)):=by intro a x;kernel_rfl
theorem Q20.ok:NK_ 66 Q20.sig (Q20.W Q20):=ok_ Tryz.func66 (Q20.eq Q2q) (hn_ (Z0 Z2 Q2q.ok))
def K36.sig:Sig U:=⟨[.ptr],[.obj .Q7],1,[.int .i64],false,[]⟩
abbrev K36.T:Type:=(Q1)->Option ((Int×Unit)×Unit×Unit)
def K36.W (f:K36.T):K36.sig.F:=λa x=>f x.1
abbrev K36.N (c:K36.T):=Qk 76 (K36.sig.native (K36.W c))
def K36.H (cK19:K19.T):Hints U:={ Γ:=(K19.N cK19 (Qk 5000000021 ZG noΓ)),ro:=9,base:=9}
def K36.gen (cK19:K19.T):K36.T:=λh0=>
 (Q0 (cK19 h0) none λr0=>some ((Q3u .i64 h0.Qo.Q3b r0.1.1,()),((),())))
def K36:K36.T:=K36.gen K19
theorem K36.eq (cK19:K19.T):EqA K36.sig (K36.H cK19) Tryz.f76 6 (K36.W (K36.gen cK19)):=by intro a x;kernel_rfl
theorem K36.ok:NK_ 76 K36.sig (K36.W K36):=ok_ Tryz.func76 (K36.eq K19) (hn_ (Z0 (Z0 Z2 Zc) K19.ok))
def Q23.sig:Sig U:=⟨[.ptr,.int .i64],[.obj .Q1H],0,[],true,[]⟩
abbrev Q23.T:Type:=(Int)->(QT)->Option (Unit×(QT×Unit)×Unit)
def Q23.W (f:Q23.T):Q23.sig.F:=λa x=>f a.2.1 x.1
abbrev Q23.N (c:Q23.T):=Qk 75 (Q23.sig.native (Q23.W c))
def Q23.H:Hints U:={ Γ:=noΓ,ro:=0,base:=9}
def Q23.gen:Q23.T:=λn h0=>
 some ((),((QT.mk (Z4 true 1 (Z4 false n 1073741824)),()),()))
def Q23:Q23.T:=Q23.gen
theorem Q23.ok:NK_ 75 Q23.sig (Q23.W Q23):=ok_ (H:=Q23.H) (n:=6) Tryz.func75 (by intro a x;kernel_rfl) (hn_ Z2)
def Q1j.sig:Sig U:=⟨[.int .i64],[],0,[.bool],false,[]⟩
abbrev Q1j.T:Type:=(Int)->Option ((Bool×Unit)×Unit×Unit)
def Q1j.W (f:Q1j.T):Q1j.sig.F:=λa x=>f a.1
abbrev Q1j.N (c:Q1j.T):=Qk 54 (Q1j.sig.native (Q1j.W c))
def Q1j.H:Hints U:={ Γ:=noΓ,ro:=0,base:=8}
def Q1j.gen:Q1j.T:=λstate=>
 (bif ile 4 state then some ((ile state 9,()),((),())) else some ((false,()),((),())))
def Q1j:Q1j.T:=Q1j.gen
theorem Q1j.ok:NK_ 54 Q1j.sig (Q1j.W Q1j):=ok_ (H:=Q1j.H) (n:=6) Tryz.func54 (by intro a x;kernel_rfl) (hn_ Z2)
def K76.sig:Sig U:=⟨[.ptr,.int .i64,.int .i64],[.obj .QA],1,[.bool],false,[]⟩
abbrev K76.T:Type:=(Int)->(Int)->(Qb)->Option ((Bool×Unit)×Unit×Unit)
def K76.W (f:K76.T):K76.sig.F:=λa x=>f a.2.1 a.2.2.1 x.1
def K76.H:Hints U:={ Γ:=noΓ,ro:=9,base:=9}
def K76.gen:K76.T:=λat_1 now h0=>
 (bif ile at_1 now then some ((ile h0.QaB (Q1K .i64 now at_1),()),((),())) else some ((false,()),((),())))
def K76:K76.T:=K76.gen
theorem K76.ok:NK_ 162 K76.sig (K76.W K76):=ok_ (H:=K76.H) (n:=6) Tryz.func162 (by intro a x;kernel_rfl) (hn_ Z2)
def K70.sig:Sig U:=⟨[.ptr,.int .i64],[.obj .QA],0,[],true,[]⟩
abbrev K70.T:Type:=(Int)->(Qb)->Option (Unit×(Qb×Unit)×Unit)
def K70.W (f:K70.T):K70.sig.F:=λa x=>f a.2.1 x.1
def K70.L0:Shape U:=⟨60,9,[(0,.ptr 8 0 0),(1,vi_),(4,vi_)],[(8,.obj .QA)]⟩
def K70.X0:Qm U:= [(.exit 0,⟨60,9,[],[(8,.obj .QA)]⟩)]
abbrev K70.l0T:Type:=((Int×Int×Unit)×(Qb×Unit))->Option ((Unit×(Qb×Unit)))
def K70.C:Code:=match Tryz.f129.body with|some c=>c|none=>.skip
def K70.B0:Code:=match (Z3 K70.C).getD 0 .skip with| .loop b=>b| .scope b=>b|_=>.skip
def K70.JR5:Qm U:= [(.normal,⟨60,9,[(0,.ptr 8 0 0),(1,vi_),(4,vi_)],[(8,.obj .QA)]⟩)]
def K70.H (cK76:K76.T) (l0:K70.l0T):Hints U:={ Γ:=(Qk 162 (K76.sig.native (K76.W cK76)) noΓ),ro:=0,base:=9,Q2B:=jt_ [(5,K70.JR5)],loop:=jt_ [(1,(Z9 (0,9) K70.L0 K70.X0 l0))]}
def K70.QO (cK76:K76.T) (a:(Int×Int×Unit)×(Qb×Unit)):Option (((Int×Int×Unit)×(Qb×Unit))⊕((Unit×(Qb×Unit)))):=
 (bif ilt a.1.2.1 a.2.1.fn then (bif inR a.1.2.1 5 then (Q0 (cK76 (a.2.1.fl (Int.toNat a.1.2.1)).Q9V a.1.1 a.2.1) none λr0=>(bif !r0.1.1 then some (.inl ((a.1.1,(Q4 .i64 a.1.2.1 1,())),a.2)) else (bif le3 a.1.2.1 a.2.1.fn 5 then (bif le3 (Q4 .i64 a.1.2.1 1) a.2.1.fn 5 then (bif inR (Q1K .i64 a.2.1.fn 1) 5 then some (.inl (a.1,(Qb.Q8k (Qb.Qaf a.2.1 (Qr (λ(i:Nat)=>bif Nat.ble (Int.toNat a.1.2.1) i && Nat.blt i (Int.toNat a.1.2.1+Nat.min (Int.toNat a.2.1.fn - Int.toNat (Q4 .i64 a.1.2.1 1)) (Int.toNat a.2.1.fn - Int.toNat a.1.2.1)) then a.2.1.fl (Int.toNat (Q4 .i64 a.1.2.1 1)+(i - Int.toNat a.1.2.1)) else a.2.1.fl i) (Int.toNat (Q1K .i64 a.2.1.fn 1)) (Qd.mk z6_ z4_ 0 0 0))) (Q1K .i64 a.2.1.fn 1),()))) else none) else none) else none))) else none) else some (.inr ((),a.2)))
def K70.F0:K70.l0T:=λa=>Z8 (1000000) (K70.QO K76) a
def K70.gen (cK76:K76.T) (l0:K70.l0T):K70.T:=λnow h0=>
 (Q0 (l0 ((now,(0:Int),()),h0,())) none λr0=>some ((),(r0.2,())))
def K70:K70.T:=K70.gen K76 K70.F0
theorem K70.Q24 (cK76:K76.T) (l0:K70.l0T) (a:K70.L0.T):run Tryz.prog (K70.H cK76 l0) 6 (Option (K70.L0.T⊕ExT K70.X0)) none K70.B0 (K70.L0.enc a) (Zi (0,9) K70.L0 K70.X0)=K70.QO cK76 a:=by kernel_rfl
abbrev K70.h:=K70.H K76 K70.F0
theorem K70.Q1V:LO_ K70.h K70.B0 (Z9 (0,9) K70.L0 K70.X0 K70.F0):=lk_ (hn_ (Z0 Z2 K76.ok)) (K70.Q24 K76 K70.F0)
theorem K70.eq (cK76:K76.T) (l0:K70.l0T):EqA K70.sig (K70.H cK76 l0) Tryz.f129 6 (K70.W (K70.gen cK76 l0)):=by intro a x;kernel_rfl
theorem K70.loops:Z3 K70.C= [(.loop K70.B0)]:=by kernel_rfl
theorem K70.ok:NK_ 129 K70.sig (K70.W K70):=ok_ Tryz.func129 (K70.eq K76 K70.F0) (hl_ (Z0 Z2 K76.ok) (Z7 (by kernel_rfl) K70.Q1V Z5)) K70.loops
def K75.sig:Sig U:=⟨[.ptr],[.obj .QA],1,[.isl .QC],false,[]⟩
abbrev K75.T:Type:=(Qb)->Option (((List (Qd))×Unit)×Unit×Unit)
def K75.W (f:K75.T):K75.sig.F:=λa x=>f x.1
def K75.H:Hints U:={ Γ:=noΓ,ro:=9,base:=9}
def K75.gen:K75.T:=λh0=>
 (bif le3 (ofN 0) h0.fn 5 then (bif room (List.length (Qn Qd)+List.length (List.map (λ(j:Nat)=>h0.fl (Int.toNat (ofN 0)+j)) (List.range (Int.toNat h0.fn - Int.toNat (ofN 0))))) 136 then some ((Qn Qd++List.map (λ(j:Nat)=>h0.fl (Int.toNat (ofN 0)+j)) (List.range (Int.toNat h0.fn - Int.toNat (ofN 0))),()),((),())) else none) else none)
def K75:K75.T:=K75.gen
theorem K75.ok:NK_ 32 K75.sig (K75.W K75):=ok_ (H:=K75.H) (n:=6) Tryz.func32 (by intro a x;kernel_rfl) (hn_ Z2)
def K45.sig:Sig U:=⟨[.ptr,.int .i64],[.obj .QI,Q58,.fam 7 (.map true false .Qw .Q1R)],0,[],true,[]⟩
abbrev K45.T:Type:=(Int)->(Q5)->(Fm Qb)->(Nat×(Nat->List (Qf×List (Int))))->Option (Unit×(Q5×Q7I)×Unit)
def K45.W (f:K45.T):K45.sig.F:=λa x=>f a.2.1 x.1 x.2.1 x.2.2.1
def K45.L0:Shape U:=⟨41,9,[(0,.ptr 8 0 0),(4,.val (.Q3Z 7)),(18,.val (.isl .QC)),(19,vi_),(20,vi_)],(8,.obj .QI)::Q6a⟩
def K45.X0:Qm U:= [(.exit 0,⟨41,9,[(0,.ptr 8 0 0),(4,.val (.Q3Z 7))],(8,.obj .QI)::Q6a⟩)]
abbrev K45.l0T:Type:=(((Option Nat)×(List (Qd))×Int×Int×Unit)×(Q5×Q7I))->Option ((((Option Nat)×Unit)×(Q5×Q7I)))
def K45.C:Code:=match Tryz.f77.body with|some c=>c|none=>.skip
def K45.B0:Code:=match (Z3 K45.C).getD 0 .skip with| .loop b=>b| .scope b=>b|_=>.skip
def K45.JR5:Qm U:= [(.normal,⟨41,9,[(0,.ptr 8 0 0),(4,.val (.Q3Z 7)),(18,.val (.isl .QC)),(19,vi_),(20,vi_)],(8,.obj .QI)::Q6a⟩)]
def K45.JR4:Qm U:= [(.normal,⟨41,10,[(0,.ptr 8 0 0),(4,.val (.Q3Z 7)),(6,.ptr 9 0 0),(18,.val (.isl .QC)),(19,vi_),(20,vi_)],(8,.obj .QI)::(9,.obj .QC)::Q6a⟩)]
def K45.JR0:Qm U:= [(.normal,⟨41,9,[(0,.ptr 8 0 0)],(8,.obj .QI)::Q6a⟩)]
def K45.H (cK70:K70.T) (cK75:K75.T) (l0:K45.l0T):Hints U:={ Γ:=(Qk 32 (K75.sig.native (K75.W cK75)) (Qk 129 (K70.sig.native (K70.W cK70)) noΓ)),ro:=0,base:=9,Q2B:=jt_ [(0,K45.JR0),(4,K45.JR4),(5,K45.JR5)],loop:=jt_ [(3,(Z9 (0,9) K45.L0 K45.X0 l0))]}
def K45.QO (cK70:K70.T) (cK75:K75.T) (a:((Option Nat)×(List (Qd))×Int×Int×Unit)×(Q5×Q7I)):Option ((((Option Nat)×(List (Qd))×Int×Int×Unit)×(Q5×Q7I))⊕((((Option Nat)×Unit)×(Q5×Q7I)))):=
 (bif ilt a.1.2.2.2.1 a.1.2.2.1 then (Q0 ((bif inR a.1.2.2.2.1 (List.length a.1.2.1) then some (a.1,(a.2.1,(List.getD a.1.2.1 (Int.toNat a.1.2.2.2.1) Qd.zero,a.2.2))) else none)) none λr0=>(Q0 ((Q0 ((Q0 (r0.2.1.3) none λr1=>((@Z1Y U Go.Proofs.Tryz.prog 49 UC.Qw UC.Q1R (r0.2.2.1.Q3r.Q4U) (r0.2.2.2.2.1.2 r1)):Option (Option (List Int))))) none λ(r2:Option (List Int))=>(Q0 ((Q0 (r0.1.1) none λr3=>(Q0 ((@Z25 U Go.Proofs.Tryz.prog 49 UC.Qw UC.Q1R (r0.2.2.1.Q3r.Q4U) (Option.getD r2 (Qn Int)) (r0.2.2.2.2.1.2 r3))) none λ(r4:List (Qf×List Int))=>some (r3,r4)))) none λ(r5:Nat×List (Qf×List Int))=>some (r0.1,(r0.2.1,(r0.2.2.2.1,((r0.2.2.2.2.1.1,Qr r0.2.2.2.2.1.2 r5.1 r5.2),()))))))) none λr6=>some (.inl ((r6.1.1,(r6.1.2.1,(r6.1.2.2.1,(Q4 .i64 r6.1.2.2.2.1 1,())))),r6.2)))) else some (.inr ((a.1.1,()),a.2)))
def K45.F0:K45.l0T:=λa=>Z8 (1000000+(a.1.2.1.length)) (K45.QO K70 K75) a
def K45.gen (cK70:K70.T) (cK75:K75.T) (l0:K45.l0T):K45.T:=λnow h0 g2 g7=>
 (Q0 ((Q0 (h0.2) none λr0=>(Q0 (cK70 now (g2.2 r0)) none λr1=>some ((),(h0,((g2.1,Qr g2.2 r0 r1.2.1.1),(g7,()))))))) none λr2=>(Q0 (r2.2.1.2) none λr3=>(Q0 (cK75 (r2.2.2.1.2 r3)) none λr4=>(Q0 (l0 ((some r2.2.2.2.1.1,r4.1.1,ofN (List.length r4.1.1),(0:Int),()),r2.2.1,r2.2.2.1,(r2.2.2.2.1.1+1,Qr r2.2.2.2.1.2 r2.2.2.2.1.1 (Qn (D UC.Qw×D UC.Q1R))),())) none λr5=>some ((),((Q5.Q5N r5.2.1 r5.1.1,r5.2.2),()))))))
def K45:K45.T:=K45.gen K70 K75 K45.F0
theorem K45.Q24 (cK70:K70.T) (cK75:K75.T) (l0:K45.l0T) (a:K45.L0.T):run Tryz.prog (K45.H cK70 cK75 l0) 6 (Option (K45.L0.T⊕ExT K45.X0)) none K45.B0 (K45.L0.enc a) (Zi (0,9) K45.L0 K45.X0)=K45.QO cK70 cK75 a:=by kernel_rfl
abbrev K45.h:=K45.H K70 K75 K45.F0
theorem K45.Q1V:LO_ K45.h K45.B0 (Z9 (0,9) K45.L0 K45.X0 K45.F0):=lk_ (hn_ (Z0 (Z0 Z2 K70.ok) K75.ok)) (K45.Q24 K70 K75 K45.F0)
theorem K45.eq (cK70:K70.T) (cK75:K75.T) (l0:K45.l0T):EqA K45.sig (K45.H cK70 cK75 l0) Tryz.f77 6 (K45.W (K45.gen cK70 cK75 l0)):=by intro a x;kernel_rfl
theorem K45.loops:Z3 K45.C= [(.loop K45.B0)]:=by kernel_rfl
theorem K45.ok:NK_ 77 K45.sig (K45.W K45):=ok_ Tryz.func77 (K45.eq K70 K75 K45.F0) (hl_ (Z0 (Z0 Z2 K70.ok) K75.ok) (Z7 (by kernel_rfl) K45.Q1V Z5)) K45.loops
def Q2O.sig:Sig U:=⟨[.ptr],[.obj .Q1H],0,[.bool],false,[]⟩
abbrev Q2O.T:Type:=(QT)->Option ((Bool×Unit)×(QT×Unit)×Unit)
def Q2O.W (f:Q2O.T):Q2O.sig.F:=λa x=>f x.1
def Q2O.C:Code:=match Tryz.f79.body with|some c=>c|none=>.skip
def Q2O.B0:Code:=match (Z3 Q2O.C).getD 0 .skip with| .loop b=>b| .scope b=>b|_=>.skip
def Q2O.H:Hints U:={ Γ:=noΓ,ro:=0,base:=9,gotos:=3,loop:=λb=>none}
def Q2O.gen:Q2O.T:=λh0=>
 (bif ieq h0.Q6V 0 then some ((false,()),((h0,()),())) else some ((ieq (Q1K .i64 h0.Q6V 1) 0,()),((QT.mk (Q1K .i64 h0.Q6V 1),()),())))
def Q2O:Q2O.T:=Q2O.gen
theorem Q2O.loops:Z3 Q2O.C= [(.scope Q2O.B0)]:=by kernel_rfl
theorem Q2O.ok:NK_ 79 Q2O.sig (Q2O.W Q2O):=ok_ (H:=Q2O.H) (n:=6) Tryz.func79 (by intro a x;kernel_rfl) (hl_ Z2 (Zt Z5)) Q2O.loops
def K72.sig:Sig U:=⟨[.ptr],[.obj .QA],0,[],true,[]⟩
abbrev K72.T:Type:=(Qb)->Option (Unit×(Qb×Unit)×Unit)
def K72.W (f:K72.T):K72.sig.F:=λa x=>f x.1
def K72.H:Hints U:={ Γ:=noΓ,ro:=0,base:=9}
def K72.gen:K72.T:=λh0=>
 some ((),((Qb.Q8k (Qb.Qaf h0 λ(j:Nat)=>List.getD (Qd.mk z6_ z4_ 0 0 0::Qd.mk z6_ z4_ 0 0 0::Qd.mk z6_ z4_ 0 0 0::Qd.mk z6_ z4_ 0 0 0::Qd.mk z6_ z4_ 0 0 0::Qn Qd) j Qd.zero) 0,()),()))
def K72:K72.T:=K72.gen
theorem K72.ok:NK_ 112 K72.sig (K72.W K72):=ok_ (H:=K72.H) (n:=6) Tryz.func112 (by intro a x;kernel_rfl) (hn_ Z2)
def K46.sig:Sig U:=⟨[.ptr],[.obj .QI,Q58,.fam 7 (.map true false .Qw .Q1R)],0,[],true,[]⟩
abbrev K46.T:Type:=(Q5)->(Fm Qb)->(Nat×(Nat->List (Qf×List (Int))))->Option (Unit×(Q5×Q7I)×Unit)
def K46.W (f:K46.T):K46.sig.F:=λa x=>f x.1 x.2.1 x.2.2.1
def K46.JR0:Qm U:= [(.normal,⟨11,9,[(0,.ptr 8 0 0)],(8,.obj .QI)::Q6a⟩)]
def K46.H (cK72:K72.T):Hints U:={ Γ:=(Qk 112 (K72.sig.native (K72.W cK72)) noΓ),ro:=0,base:=9,Q2B:=jt_ [(0,K46.JR0)]}
def K46.gen (cK72:K72.T):K46.T:=λh0 g2 g7=>
 (Q0 ((Q0 (h0.2) none λr0=>(Q0 (cK72 (g2.2 r0)) none λr1=>some ((),(h0,((g2.1,Qr g2.2 r0 r1.2.1.1),(g7,()))))))) none λr2=>some ((),((Q5.Q5N r2.2.1 (some r2.2.2.2.1.1),(r2.2.2.1,((r2.2.2.2.1.1+1,Qr r2.2.2.2.1.2 r2.2.2.2.1.1 (Qn (D UC.Qw×D UC.Q1R))),()))),())))
def K46:K46.T:=K46.gen K72
theorem K46.eq (cK72:K72.T):EqA K46.sig (K46.H cK72) Tryz.f67 6 (K46.W (K46.gen cK72)):=by intro a x;kernel_rfl
theorem K46.ok:NK_ 67 K46.sig (K46.W K46):=ok_ Tryz.func67 (K46.eq K72) (hn_ (Z0 Z2 K72.ok))
def Q2J.sig:Sig U:=⟨[.ptr],[.obj .Q1H],0,[],true,[]⟩
abbrev Q2J.T:Type:=(QT)->Option (Unit×(QT×Unit)×Unit)
def Q2J.W (f:Q2J.T):Q2J.sig.F:=λa x=>f x.1
abbrev Q2J.N (c:Q2J.T):=Qk 115 (Q2J.sig.native (Q2J.W c))
def Q2J.H:Hints U:={ Γ:=noΓ,ro:=0,base:=9}
def Q2J.gen:Q2J.T:=λh0=>
 some ((),((QT.mk 0,()),()))
def Q2J:Q2J.T:=Q2J.gen
theorem Q2J.ok:NK_ 115 Q2J.sig (Q2J.W Q2J):=ok_ (H:=Q2J.H) (n:=6) Tryz.func115 (by intro a x;kernel_rfl) (hn_ Z2)
def K28.sig:Sig U:=⟨[.ptr,.Q5k 0 23 42 8],[.obj .Q7],0,[],true,[]⟩
abbrev K28.T:Type:=(Nat)->(Q1)->Option (Unit×(Q1×Unit)×Unit)
def K28.W (f:K28.T):K28.sig.F:=λa x=>f a.2.1 x.1
def K28.JR4:Qm U:= [(.normal,⟨30,9,[(1,.Q1h 8 23 42 8 0)],[(8,.obj .Q7)]⟩)]
def K28.JR1:Qm U:= [(.normal,⟨30,9,[(0,.ptr 8 0 0),(1,.Q1h 8 23 42 8 0)],[(8,.obj .Q7)]⟩)]
def K28.H (cK175:Q2J.T) (cK174:Q23.T):Hints U:={ Γ:=(Q23.N cK174 (Q2J.N cK175 noΓ)),ro:=0,base:=9,Q2B:=jt_ [(0,K28.JR1),(1,K28.JR1),(4,K28.JR4)],Q27:=jt_ [(3,K28.JR4)]}
def K28.gen (cK175:Q2J.T) (cK174:Q23.T):K28.T:=λp h0=>
 (Q0 ((Q0 (cK175 (h0.Qe p).Q4j) none λr0=>some ((p,()),(Q1.QU h0 (Qr h0.Qe p (Q5.Q4a (h0.Qe p) r0.2.1.1)),())))) none λr1=>(Q0 ((Q0 (cK175 (r1.2.1.Qe r1.1.1).Q5n) none λr2=>some (r1.1,(Q1.QU r1.2.1 (Qr r1.2.1.Qe r1.1.1 (Q5.Q5F (r1.2.1.Qe r1.1.1) r2.2.1.1)),())))) none λr3=>(Q0 ((bif !r3.2.1.Qo.Q4g then (Q0 (cK175 (r3.2.1.Qe r3.1.1).Q79) none λr4=>some (r3.1,(Q1.QU r3.2.1 (Qr r3.2.1.Qe r3.1.1 (Q5.Q6v (r3.2.1.Qe r3.1.1) r4.2.1.1)),()))) else some r3)) none λr5=>(Q0 ((Q0 (cK174 1 (r5.2.1.Qe r5.1.1).Q4Y) none λr6=>some (r5.1,(Q1.QU r5.2.1 (Qr r5.2.1.Qe r5.1.1 (Q5.Q5r (r5.2.1.Qe r5.1.1) r6.2.1.1)),())))) none λr7=>(Q0 (cK174 1 (r7.2.1.Qe r7.1.1).fsync) none λr8=>some ((),((Q1.QU r7.2.1 (Qr r7.2.1.Qe r7.1.1 (Q5.Q6G (r7.2.1.Qe r7.1.1) r8.2.1.1)),()),())))))))
def K28:K28.T:=K28.gen Q2J Q23
theorem K28.eq (cK175:Q2J.T) (cK174:Q23.T):EqA K28.sig (K28.H cK175 cK174) Tryz.f80 6 (K28.W (K28.gen cK175 cK174)):=by intro a x;kernel_rfl
theorem K28.ok:NK_ 80 K28.sig (K28.W K28):=ok_ Tryz.func80 (K28.eq Q2J Q23) (hn_ (Z0 (Z0 Z2 Q2J.ok) Q23.ok))
def K25.sig:Sig U:=⟨[.ptr,.Q5k 0 23 42 8],[.obj .Q7,Q58,.fam 7 (.map true false .Qw .Q1R)],0,[],true,[]⟩
abbrev K25.T:Type:=(Nat)->(Q1)->(Fm Qb)->(Nat×(Nat->List (Qf×List (Int))))->Option (Unit×(Q1×Q7I)×Unit)
def K25.W (f:K25.T):K25.sig.F:=λa x=>f a.2.1 x.1 x.2.1 x.2.2.1
def K25.C:Code:=match Tryz.f50.body with|some c=>c|none=>.skip
def K25.B0:Code:=match (Z3 K25.C).getD 0 .skip with| .loop b=>b| .scope b=>b|_=>.skip
def K25.Q7q:Qm U:= [(.normal,⟨128,9,[(0,.ptr 8 0 0),(1,.Q1h 8 23 42 8 0)],(8,.obj .Q7)::Q6a⟩)]
def K25.Q9w:Qm U:= [(.normal,⟨128,9,[(0,.ptr 8 0 0),(1,.Q1h 8 23 42 8 0),(111,vb_)],(8,.obj .Q7)::Q6a⟩)]
def K25.JR7:Qm U:= [(.normal,⟨128,9,[(0,.ptr 8 0 0),(1,.Q1h 8 23 42 8 0),(58,vb_)],(8,.obj .Q7)::Q6a⟩)]
def K25.JC4:Qm U:= [(.normal,⟨128,9,[],(8,.obj .Q7)::Q6a⟩)]
def K25.H (cK144:Q20.T) (cK36:K36.T) (cK174:Q23.T) (cK140:Q1j.T) (cK45:K45.T) (cK143:Q2q.T) (cK176:Q2O.T) (cK142:Q1T.T) (cK189:Q1E.T) (cK46:K46.T) (cK28:K28.T):Hints U:={ Γ:=(Qk 80 (K28.sig.native (K28.W cK28)) (Qk 67 (K46.sig.native (K46.W cK46)) (Q1E.N cK189 (Q1T.N cK142 (Qk 79 (Q2O.sig.native (Q2O.W cK176)) (Q2q.N cK143 (Qk 77 (K45.sig.native (K45.W cK45)) (Q1j.N cK140 (Q23.N cK174 (K36.N cK36 (Q20.N cK144 noΓ))))))))))),ro:=0,base:=9,Q2B:=jt_ [(1,K25.Q7q),(2,K25.Q7q),(7,K25.JR7),(10,K25.Q7q),(11,K25.Q7q),(15,K25.Q9w),(16,K25.Q7q)],Q27:=jt_ [(4,K25.JC4),(6,K25.Q7q),(8,K25.Q7q),(9,K25.Q7q)],gotos:=3,loop:=λb=>none}
def K25.gen (cK144:Q20.T) (cK36:K36.T) (cK174:Q23.T) (cK140:Q1j.T) (cK45:K45.T) (cK143:Q2q.T) (cK176:Q2O.T) (cK142:Q1T.T) (cK189:Q1E.T) (cK46:K46.T) (cK28:K28.T):K25.T:=λp h0 g2 g7=>
 (bif ieq (h0.Qe p).Q1u 1 then (Q0 ((Q0 (cK144 (h0.Qe p).Q1u 1 h0.Qo.Q25) none λr0=>some ((p,()),(Q1.QU h0 (Qr h0.Qe p (Q5.Q3Q (h0.Qe p) r0.1.1)),(g2,(g7,())))))) none λr1=>(Q0 ((Q0 (cK36 r1.2.1) none λr2=>(Q0 (cK174 r2.1.1 (r1.2.1.Qe r1.1.1).Q4j) none λr3=>some (r1.1,(Q1.QU r1.2.1 (Qr r1.2.1.Qe r1.1.1 (Q5.Q4a (r1.2.1.Qe r1.1.1) r3.2.1.1)),r1.2.2))))) none λr4=>(Q0 ((bif r4.2.1.Qo.Q4g then (Q0 (cK174 1 (r4.2.1.Qe r4.1.1).Q79) none λr5=>some ((),(Q1.QU r4.2.1 (Qr r4.2.1.Qe r4.1.1 (Q5.Q6v (r4.2.1.Qe r4.1.1) r5.2.1.1)),r4.2.2))) else some ((),r4.2))) none λr6=>some ((),(r6.2,()))))) else (Q0 (cK140 (h0.Qe p).Q1u) none λr7=>(Q0 ((bif r7.1.1 then (Q0 (cK45 h0.Q5s (h0.Qe p) g2 g7) none λr8=>some ((p,()),(Q1.QU h0 (Qr h0.Qe p r8.2.1.1),r8.2.1.2))) else some ((p,()),(h0,(g2,(g7,())))))) none λr9=>(Q0 ((Q0 (cK143 (r9.2.1.Qe r9.1.1).Q1u) none λr10=>(bif r10.1.1 then (Q0 (cK176 (r9.2.1.Qe r9.1.1).Q4j) none λr11=>some ((r9.1.1,r11.1),(Q1.QU r9.2.1 (Qr r9.2.1.Qe r9.1.1 (Q5.Q4a (r9.2.1.Qe r9.1.1) r11.2.1.1)),r9.2.2))) else some ((r9.1.1,(false,())),r9.2)))) none λr12=>(Q0 ((bif r12.1.2.1 then (Q0 (cK142 (r12.2.1.Qe r12.1.1).Q1u) none λr13=>(Q0 ((bif r13.1.1 then (Q0 (cK189 r12.2.1.Qo) none λr14=>some ((r12.1.1,()),(Q1.Q4l r12.2.1 r14.1.1,r12.2.2))) else some ((r12.1.1,()),r12.2))) none λr15=>(Q0 ((Q0 (cK46 (r15.2.1.Qe r15.1.1) r15.2.2.1 r15.2.2.2.1) none λr16=>some (r15.1,(Q1.QU r15.2.1 (Qr r15.2.1.Qe r15.1.1 r16.2.1.1),r16.2.1.2)))) none λr17=>(Q0 ((Q0 (cK144 (r17.2.1.Qe r17.1.1).Q1u 4 r17.2.1.Qo.Q25) none λr18=>some (r17.1,(Q1.QU r17.2.1 (Qr r17.2.1.Qe r17.1.1 (Q5.Q3Q (r17.2.1.Qe r17.1.1) r18.1.1)),r17.2.2)))) none λr19=>(bif ieq (r19.2.1.Qe r19.1.1).Q1u 6 then (Q0 (cK28 r19.1.1 r19.2.1) none λr20=>some (r19.1,(r20.2.1.1,r19.2.2))) else (Q0 (cK36 r19.2.1) none λr21=>(Q0 (cK174 r21.1.1 (r19.2.1.Qe r19.1.1).Q4j) none λr22=>some (r19.1,(Q1.QU r19.2.1 (Qr r19.2.1.Qe r19.1.1 (Q5.Q4a (r19.2.1.Qe r19.1.1) r22.2.1.1)),r19.2.2))))))))) else some ((r12.1.1,()),r12.2))) none λr23=>(Q0 ((bif ieq (r23.2.1.Qe r23.1.1).Q1u 5 then (Q0 (cK176 (r23.2.1.Qe r23.1.1).Q5n) none λr24=>some ((r23.1.1,r24.1),(Q1.QU r23.2.1 (Qr r23.2.1.Qe r23.1.1 (Q5.Q5F (r23.2.1.Qe r23.1.1) r24.2.1.1)),r23.2.2))) else some ((r23.1.1,(false,())),r23.2))) none λr25=>(bif r25.1.2.1 then (Q0 ((Q0 (cK144 (r25.2.1.Qe r25.1.1).Q1u 5 r25.2.1.Qo.Q25) none λr26=>some ((r25.1.1,()),(Q1.QU r25.2.1 (Qr r25.2.1.Qe r25.1.1 (Q5.Q3Q (r25.2.1.Qe r25.1.1) r26.1.1)),r25.2.2)))) none λr27=>(Q0 (cK28 r27.1.1 r27.2.1) none λr28=>some ((),((r28.2.1.1,r27.2.2),())))) else some ((),(r25.2,())))))))))
def K25:K25.T:=K25.gen Q20 K36 Q23 Q1j K45 Q2q Q2O Q1T Q1E K46 K28
theorem K25.eq (cK144:Q20.T) (cK36:K36.T) (cK174:Q23.T) (cK140:Q1j.T) (cK45:K45.T) (cK143:Q2q.T) (cK176:Q2O.T) (cK142:Q1T.T) (cK189:Q1E.T) (cK46:K46.T) (cK28:K28.T):EqA K25.sig (K25.H cK144 cK36 cK174 cK140 cK45 cK143 cK176 cK142 cK189 cK46 cK28) Tryz.f50 6 (K25.W (K25.gen cK144 cK36 cK174 cK140 cK45 cK143 cK176 cK142 cK189 cK46 cK28)):=by intro a x;kernel_rfl
theorem K25.loops:Z3 K25.C= [(.scope K25.B0)]:=by kernel_rfl
theorem K25.ok:NK_ 50 K25.sig (K25.W K25):=ok_ Tryz.func50 (K25.eq Q20 K36 Q23 Q1j K45 Q2q Q2O Q1T Q1E K46 K28) (hl_ (Z0 (Z0 (Z0 (Z0 (Z0 (Z0 (Z0 (Z0 (Z0 (Z0 (Z0 Z2 Q20.ok) K36.ok) Q23.ok) Q1j.ok) K45.ok) Q2q.ok) Q2O.ok) Q1T.ok) Q1E.ok) K46.ok) K28.ok) (Zt Z5)) K25.loops
def K74.sig:Sig U:=⟨[.ptr,.int .i64],[.obj .QA],1,[.isl .QC],false,[]⟩
abbrev K74.T:Type:=(Int)->(Qb)->Option (((List (Qd))×Unit)×Unit×Unit)
def K74.W (f:K74.T):K74.sig.F:=λa x=>f a.2.1 x.1
def K74.L0:Shape U:=⟨38,10,[(0,.ptr 8 0 0),(1,vi_),(5,.own .QC 9),(15,.asl 8 3 17 5),(16,vi_),(17,vi_)],[(8,.obj .QA),(9,.tok)]⟩
def K74.X0:Qm U:= [(.exit 0,⟨38,10,[(5,.own .QC 9)],[(8,.obj .QA),(9,.tok)]⟩)]
abbrev K74.l0T:Type:=((Int×(List (Qd))×(Nat×Nat)×Int×Int×Unit)×(Qb×Unit))->Option ((((List (Qd))×Unit)×(Qb×Unit)))
def K74.C:Code:=match Tryz.f130.body with|some c=>c|none=>.skip
def K74.B0:Code:=match (Z3 K74.C).getD 0 .skip with| .loop b=>b| .scope b=>b|_=>.skip
def K74.JR4:Qm U:= [(.normal,⟨38,11,[(0,.ptr 8 0 0),(1,vi_),(5,.own .QC 9),(7,.ptr 10 0 0),(15,.asl 8 3 17 5),(16,vi_),(17,vi_)],[(8,.obj .QA),(9,.tok),(10,.obj .QC)]⟩)]
def K74.JC6:Qm U:= [(.normal,⟨38,10,[(0,.ptr 8 0 0),(1,vi_),(5,.own .QC 9),(15,.asl 8 3 17 5),(16,vi_),(17,vi_)],[(8,.obj .QA),(9,.tok)]⟩)]
def K74.H (cK76:K76.T) (l0:K74.l0T):Hints U:={ Γ:=(Qk 162 (K76.sig.native (K76.W cK76)) noΓ),ro:=9,base:=9,Q1J:=jt_ [(5,[(31,vb_)])],Q2B:=jt_ [(4,K74.JR4)],Q27:=jt_ [(6,K74.JC6)],loop:=jt_ [(3,(Z9 (9,9) K74.L0 K74.X0 l0))]}
def K74.QO (cK76:K76.T) (a:(Int×(List (Qd))×(Nat×Nat)×Int×Int×Unit)×(Qb×Unit)):Option (((Int×(List (Qd))×(Nat×Nat)×Int×Int×Unit)×(Qb×Unit))⊕((((List (Qd))×Unit)×(Qb×Unit)))):=
 (bif ilt a.1.2.2.2.2.1 a.1.2.2.2.1 then (Q0 ((bif inR a.1.2.2.2.2.1 a.1.2.2.1.2 then some (a.1,(a.2.1,(a.2.1.fl (a.1.2.2.1.1+Int.toNat a.1.2.2.2.2.1),()))) else none)) none λr0=>(Q0 ((bif ine r0.2.2.1.Q8e (-1) then (Q0 (cK76 r0.2.2.1.Q8e r0.1.1 r0.2.1) none λr1=>some (!r1.1.1,())) else some (false,()))) none λr2=>(Q0 ((bif r2.1 then (bif room (List.length r0.1.2.1+List.length (r0.2.2.1::Qn Qd)) 136 then some ((r0.1.1,(r0.1.2.1++r0.2.2.1::Qn Qd,r0.1.2.2)),(r0.2.1,())) else none) else some (r0.1,(r0.2.1,())))) none λr3=>some (.inl ((r3.1.1,(r3.1.2.1,(r3.1.2.2.1,(r3.1.2.2.2.1,(Q4 .i64 r3.1.2.2.2.2.1 1,()))))),r3.2))))) else some (.inr ((a.1.2.1,()),a.2)))
def K74.F0:K74.l0T:=λa=>Z8 (1000000+(a.1.2.1.length+a.1.2.2.1.2)) (K74.QO K76) a
def K74.gen (cK76:K76.T) (l0:K74.l0T):K74.T:=λnow h0=>
 (bif le3 (ofN 0) h0.fn 5 then (Q0 (l0 ((now,Qn Qd,(Int.toNat (ofN 0),Int.toNat h0.fn - Int.toNat (ofN 0)),ofN (Int.toNat h0.fn - Int.toNat (ofN 0)),(0:Int),()),h0,())) none λr0=>some (r0.1,((),()))) else none)
def K74:K74.T:=K74.gen K76 K74.F0
theorem K74.Q24 (cK76:K76.T) (l0:K74.l0T) (a:K74.L0.T):run Tryz.prog (K74.H cK76 l0) 6 (Option (K74.L0.T⊕ExT K74.X0)) none K74.B0 (K74.L0.enc a) (Zi (9,9) K74.L0 K74.X0)=K74.QO cK76 a:=by kernel_rfl
abbrev K74.h:=K74.H K76 K74.F0
theorem K74.Q1V:LO_ K74.h K74.B0 (Z9 (9,9) K74.L0 K74.X0 K74.F0):=lk_ (hn_ (Z0 Z2 K76.ok)) (K74.Q24 K76 K74.F0)
theorem K74.eq (cK76:K76.T) (l0:K74.l0T):EqA K74.sig (K74.H cK76 l0) Tryz.f130 6 (K74.W (K74.gen cK76 l0)):=by intro a x;kernel_rfl
theorem K74.loops:Z3 K74.C= [(.loop K74.B0)]:=by kernel_rfl
theorem K74.ok:NK_ 130 K74.sig (K74.W K74):=ok_ Tryz.func130 (K74.eq K76 K74.F0) (hl_ (Z0 Z2 K76.ok) (Z7 (by kernel_rfl) K74.Q1V Z5)) K74.loops
def K52.sig:Sig U:=⟨[.int .i64],[],0,[.bool],false,[]⟩
abbrev K52.T:Type:=(Int)->Option ((Bool×Unit)×Unit×Unit)
def K52.W (f:K52.T):K52.sig.F:=λa x=>f a.1
def K52.H:Hints U:={ Γ:=noΓ,ro:=0,base:=8}
def K52.gen:K52.T:=λx_0=>
 some ((ine x_0 x_0,()),((),()))
def K52:K52.T:=K52.gen
theorem K52.ok:NK_ 185 K52.sig (K52.W K52):=ok_ (H:=K52.H) (n:=6) Tryz.func185 (by intro a x;kernel_rfl) (hn_ Z2)
def K49.sig:Sig U:=⟨[.int .i64,.int .i64],[],0,[.int .i64],false,[]⟩
abbrev K49.T:Type:=(Int)->(Int)->Option ((Int×Unit)×Unit×Unit)
def K49.W (f:K49.T):K49.sig.F:=λa x=>f a.1 a.2.1
abbrev K49.N (c:K49.T):=Qk 164 (K49.sig.native (K49.W c))
def K49.H (cK52:K52.T):Hints U:={ Γ:=(Qk 185 (K52.sig.native (K52.W cK52)) noΓ),ro:=0,base:=8}
def K49.gen (cK52:K52.T):K49.T:=λx_0 y=>
 (Q0 (cK52 x_0) none λr0=>(Q0 (cK52 y) none λr1=>(bif r0.1.1 then (bif r1.1.1 then some (((0:Int),()),((),())) else some (((-1:Int),()),((),()))) else (bif r1.1.1 then some (((1:Int),()),((),())) else (bif ilt x_0 y then some (((-1:Int),()),((),())) else (bif ilt y x_0 then some (((1:Int),()),((),())) else some (((0:Int),()),((),()))))))))
def K49:K49.T:=K49.gen K52
theorem K49.eq (cK52:K52.T):EqA K49.sig (K49.H cK52) Tryz.f164 6 (K49.W (K49.gen cK52)):=by intro a x;kernel_rfl
theorem K49.ok:NK_ 164 K49.sig (K49.W K49):=ok_ Tryz.func164 (K49.eq K52) (hn_ (Z0 Z2 K52.ok))
def K51.sig:Sig U:=⟨[.isl .int],[],0,[.int .i64],false,[]⟩
abbrev K51.T:Type:=(List (Int))->Option ((Int×Unit)×Unit×Unit)
def K51.W (f:K51.T):K51.sig.F:=λa x=>f a.1
abbrev K51.N (c:K51.T):=Qk 166 (K51.sig.native (K51.W c))
def K51.L0:Shape U:=⟨18,8,[(3,vi_),(6,.val (.isl .int)),(7,vi_),(8,vi_)],[]⟩
def K51.X0:Qm U:= [(.exit 0,⟨18,8,[(3,vi_)],[]⟩),
 (.ret,⟨18,8,[(2,vi_)],[]⟩)]
abbrev K51.l0T:Type:=((Int×(List (Int))×Int×Int×Unit)×Unit)->Option (((Int×Unit)×Unit)⊕((Int×Unit)×Unit))
def K51.C:Code:=match Tryz.f166.body with|some c=>c|none=>.skip
def K51.B0:Code:=match (Z3 K51.C).getD 0 .skip with| .loop b=>b| .scope b=>b|_=>.skip
def K51.H (l0:K51.l0T):Hints U:={ Γ:=noΓ,ro:=0,base:=8,loop:=jt_ [(3,(Z9 (0,8) K51.L0 K51.X0 l0))]}
def K51.QO (a:(Int×(List (Int))×Int×Int×Unit)×Unit):Option (((Int×(List (Int))×Int×Int×Unit)×Unit)⊕(((Int×Unit)×Unit)⊕((Int×Unit)×Unit))):=
 (bif ilt a.1.2.2.2.1 a.1.2.2.1 then (bif inR a.1.2.2.2.1 (List.length a.1.2.1) then (bif ine (List.getD a.1.2.1 (Int.toNat a.1.2.2.2.1) (0:D UC.int)) a.1.1 then some (.inr (.inr ((List.getD a.1.2.1 (Int.toNat a.1.2.2.2.1) (0:D UC.int),()),()))) else some (.inl ((a.1.1,(a.1.2.1,(a.1.2.2.1,(Q4 .i64 a.1.2.2.2.1 1,())))),()))) else none) else some (.inr (.inl ((a.1.1,()),()))))
def K51.F0:K51.l0T:=λa=>Z8 (1000000+(a.1.2.1.length)) (K51.QO) a
def K51.gen (l0:K51.l0T):K51.T:=λQb1=>
 (Q0 (l0 (((0:Int),Qb1,ofN (List.length Qb1),(0:Int),()),())) none λr0=>(Q3S r0 (λr1=>some (r1.1,((),()))) (λr1=>some (r1.1,((),())))))
def K51:K51.T:=K51.gen K51.F0
theorem K51.Q24 (l0:K51.l0T) (a:K51.L0.T):run Tryz.prog (K51.H l0) 6 (Option (K51.L0.T⊕ExT K51.X0)) none K51.B0 (K51.L0.enc a) (Zi (0,8) K51.L0 K51.X0)=K51.QO a:=by kernel_rfl
abbrev K51.h:=K51.H K51.F0
theorem K51.Q1V:LO_ K51.h K51.B0 (Z9 (0,8) K51.L0 K51.X0 K51.F0):=lk_ (hn_ Z2) (K51.Q24 K51.F0)
theorem K51.eq (l0:K51.l0T):EqA K51.sig (K51.H l0) Tryz.f166 6 (K51.W (K51.gen l0)):=by intro a x;kernel_rfl
theorem K51.loops:Z3 K51.C= [(.loop K51.B0)]:=by kernel_rfl
theorem K51.ok:NK_ 166 K51.sig (K51.W K51):=ok_ Tryz.func166 (K51.eq K51.F0) (hl_ Z2 (Z7 (by kernel_rfl) K51.Q1V Z5)) K51.loops
def Q38.sig:Sig U:=⟨[.data .Q2v,.data .Q2v],[],0,[.int .i64],false,[]⟩
abbrev Q38.T:Type:=(Qy)->(Qy)->Option ((Int×Unit)×Unit×Unit)
def Q38.W (f:Q38.T):Q38.sig.F:=λa x=>f a.1 a.2.1
def Q38.H (cK49:K49.T) (cK51:K51.T):Hints U:={ Γ:=(K51.N cK51 (K49.N cK49 noΓ)),ro:=0,base:=8}
def Q38.gen (cK49:K49.T) (cK51:K51.T):Q38.T:=λa b=>
 (Q0 (cK49 a.Q1M b.Q1M) none λr0=>(Q0 (cK49 a.Q1r b.Q1r) none λr1=>(Q0 (cK49 a.Q1B b.Q1B) none λr2=>(Q0 (cK51 (r0.1.1::r1.1.1::r2.1.1::Qn Int)) none λr3=>some (r3.1,((),()))))))
def Q38:Q38.T:=Q38.gen K49 K51
theorem Q38.eq (cK49:K49.T) (cK51:K51.T):EqA Q38.sig (Q38.H cK49 cK51) Tryz.f183 6 (Q38.W (Q38.gen cK49 cK51)):=by intro a x;kernel_rfl
theorem Q38.ok:NK_ 183 Q38.sig (Q38.W Q38):=ok_ Tryz.func183 (Q38.eq K49 K51) (hn_ (Z0 (Z0 Z2 K49.ok) K51.ok))
def K53.sig:Sig U:=⟨[.int .u64],[],0,[.bool],false,[]⟩
abbrev K53.T:Type:=(Int)->Option ((Bool×Unit)×Unit×Unit)
def K53.W (f:K53.T):K53.sig.F:=λa x=>f a.1
def K53.H:Hints U:={ Γ:=noΓ,ro:=0,base:=8}
def K53.gen:K53.T:=λx_0=>
 some ((ine x_0 x_0,()),((),()))
def K53:K53.T:=K53.gen
theorem K53.ok:NK_ 191 K53.sig (K53.W K53):=ok_ (H:=K53.H) (n:=6) Tryz.func191 (by intro a x;kernel_rfl) (hn_ Z2)
def K50.sig:Sig U:=⟨[.int .u64,.int .u64],[],0,[.int .i64],false,[]⟩
abbrev K50.T:Type:=(Int)->(Int)->Option ((Int×Unit)×Unit×Unit)
def K50.W (f:K50.T):K50.sig.F:=λa x=>f a.1 a.2.1
abbrev K50.N (c:K50.T):=Qk 184 (K50.sig.native (K50.W c))
def K50.H (cK53:K53.T):Hints U:={ Γ:=(Qk 191 (K53.sig.native (K53.W cK53)) noΓ),ro:=0,base:=8}
def K50.gen (cK53:K53.T):K50.T:=λx_0 y=>
 (Q0 (cK53 x_0) none λr0=>(Q0 (cK53 y) none λr1=>(bif r0.1.1 then (bif r1.1.1 then some (((0:Int),()),((),())) else some (((-1:Int),()),((),()))) else (bif r1.1.1 then some (((1:Int),()),((),())) else (bif ilt x_0 y then some (((-1:Int),()),((),())) else (bif ilt y x_0 then some (((1:Int),()),((),())) else some (((0:Int),()),((),()))))))))
def K50:K50.T:=K50.gen K53
theorem K50.eq (cK53:K53.T):EqA K50.sig (K50.H cK53) Tryz.f184 6 (K50.W (K50.gen cK53)):=by intro a x;kernel_rfl
theorem K50.ok:NK_ 184 K50.sig (K50.W K50):=ok_ Tryz.func184 (K50.eq K53) (hn_ (Z0 Z2 K53.ok))
def K56.sig:Sig U:=⟨[.data .Q1a,.data .Q1a],[],0,[.int .i64],false,[]⟩
abbrev K56.T:Type:=(Qj)->(Qj)->Option ((Int×Unit)×Unit×Unit)
def K56.W (f:K56.T):K56.sig.F:=λa x=>f a.1 a.2.1
def K56.C:Code:=match Tryz.f163.body with|some c=>c|none=>.skip
def K56.B0:Code:=match (Z3 K56.C).getD 0 .skip with| .loop b=>b| .scope b=>b|_=>.skip
def K56.U0 (cK49:K49.T) (cK145:Q38.T) (cK50:K50.T):Hints U:={ Γ:=(K50.N cK50 (Qk 183 (Q38.sig.native (Q38.W cK145)) (K49.N cK49 noΓ))),ro:=0,base:=8,loop:=λb=>none}
def K56.H (cK49:K49.T) (cK145:Q38.T) (cK50:K50.T):Hints U:={ Γ:=(K50.N cK50 (Qk 183 (Q38.sig.native (Q38.W cK145)) (K49.N cK49 noΓ))),ro:=0,base:=8,loop:=jt_ [(2,(Z1P Tryz.prog (K56.U0 cK49 cK145 cK50) 6 K56.B0 6))]}
def K56.gen (cK49:K49.T) (cK145:Q38.T) (cK50:K50.T):K56.T:=λa b=>
 (Q0 (cK49 a.Q17 b.Q17) none λr0=>(Q0 (cK145 a.Qu b.Qu) none λr1=>(Q0 (cK49 a.Q18 b.Q18) none λr2=>(Q0 (cK50 a.Q2Q b.Q2Q) none λr3=>(bif ine (List.getD (r0.1.1::r1.1.1::r2.1.1::r3.1.1::Qn Int) (Int.toNat 0) 0) 0 then some ((List.getD (r0.1.1::r1.1.1::r2.1.1::r3.1.1::Qn Int) (Int.toNat 0) 0,()),((),())) else (bif ine (List.getD (r0.1.1::r1.1.1::r2.1.1::r3.1.1::Qn Int) (Int.toNat (Q4 .i64 0 1)) 0) 0 then some ((List.getD (r0.1.1::r1.1.1::r2.1.1::r3.1.1::Qn Int) (Int.toNat (Q4 .i64 0 1)) 0,()),((),())) else (bif ine (List.getD (r0.1.1::r1.1.1::r2.1.1::r3.1.1::Qn Int) (Int.toNat (Q4 .i64 (Q4 .i64 0 1) 1)) 0) 0 then some ((List.getD (r0.1.1::r1.1.1::r2.1.1::r3.1.1::Qn Int) (Int.toNat (Q4 .i64 (Q4 .i64 0 1) 1)) 0,()),((),())) else (bif ine (List.getD (r0.1.1::r1.1.1::r2.1.1::r3.1.1::Qn Int) (Int.toNat (Q4 .i64 (Q4 .i64 (Q4 .i64 0 1) 1) 1)) 0) 0 then some ((List.getD (r0.1.1::r1.1.1::r2.1.1::r3.1.1::Qn Int) (Int.toNat (Q4 .i64 (Q4 .i64 (Q4 .i64 0 1) 1) 1)) 0,()),((),())) else some (((0:Int),()),((),()))))))))))
def K56:K56.T:=K56.gen K49 Q38 K50
theorem K56.Q5a:Z3 K56.B0= []:=by kernel_rfl
abbrev K56.h:=K56.H K49 Q38 K50
theorem K56.Q1V:ZI U Tryz.prog K56.h.ro K56.h.base K56.B0 (Z1P Tryz.prog (K56.U0 K49 Q38 K50) 6 K56.B0 6):=
 Z2w (Hn:=(K56.U0 K49 Q38 K50)) (L:=λc=>c∈([]:List Code)) (hq (Z0 (Z0 (Z0 Z2 K49.ok) Q38.ok) K50.ok) Z5 (λ_=>rfl) (λ_=>rfl)) (λb h=>by rw [K56.Q5a] at h;exact h) 6
theorem K56.eq (cK49:K49.T) (cK145:Q38.T) (cK50:K50.T):EqA K56.sig (K56.H cK49 cK145 cK50) Tryz.f163 6 (K56.W (K56.gen cK49 cK145 cK50)):=by intro a x;kernel_rfl
theorem K56.loops:Z3 K56.C= [(.loop K56.B0)]:=by kernel_rfl
theorem K56.ok:NK_ 163 K56.sig (K56.W K56):=ok_ Tryz.func163 (K56.eq K49 Q38 K50) (hl_ (Z0 (Z0 (Z0 Z2 K49.ok) Q38.ok) K50.ok) (Z7 (by kernel_rfl) K56.Q1V Z5)) K56.loops
def K86.sig:Sig U:=⟨[.data .Qw,.data .Qw],[],0,[.int .i64],false,[]⟩
abbrev K86.T:Type:=(Qf)->(Qf)->Option ((Int×Unit)×Unit×Unit)
def K86.W (f:K86.T):K86.sig.F:=λa x=>f a.1 a.2.1
def K86.H (cK50:K50.T) (cK49:K49.T) (cK51:K51.T):Hints U:={ Γ:=(K51.N cK51 (K49.N cK49 (K50.N cK50 noΓ))),ro:=0,base:=8}
def K86.gen (cK50:K50.T) (cK49:K49.T) (cK51:K51.T):K86.T:=λa b=>
 (bif bif ieq a.QF b.QF then bif ieq a.QW b.QW then true else false else false then some (((0:Int),()),((),())) else (Q0 (cK50 a.QF b.QF) none λr0=>(Q0 (cK49 a.QW b.QW) none λr1=>(Q0 (cK51 (r0.1.1::r1.1.1::Qn Int)) none λr2=>some (r2.1,((),()))))))
def K86:K86.T:=K86.gen K50 K49 K51
theorem K86.eq (cK50:K50.T) (cK49:K49.T) (cK51:K51.T):EqA K86.sig (K86.H cK50 cK49 cK51) Tryz.f167 6 (K86.W (K86.gen cK50 cK49 cK51)):=by intro a x;kernel_rfl
theorem K86.ok:NK_ 167 K86.sig (K86.W K86):=ok_ Tryz.func167 (K86.eq K50 K49 K51) (hn_ (Z0 (Z0 (Z0 Z2 K50.ok) K49.ok) K51.ok))
def K58.sig:Sig U:=⟨[.data .Q1a],[],0,[.int .i64],false,[]⟩
abbrev K58.T:Type:=(Qj)->Option ((Int×Unit)×Unit×Unit)
def K58.W (f:K58.T):K58.sig.F:=λa x=>f a.1
def K58.H (cK86:K86.T):Hints U:={ Γ:=(Qk 167 (K86.sig.native (K86.W cK86)) noΓ),ro:=0,base:=8}
def K58.gen (cK86:K86.T):K58.T:=λa=>
 (Q0 (cK86 a.Q5A a.Q4U) none λr0=>(bif inR (Q4 .i64 r0.1.1 1) 3 then some ((List.getD ((2:Int)::(0:Int)::(1:Int)::Qn Int) (Int.toNat (Q4 .i64 r0.1.1 1)) 0,()),((),())) else none))
def K58:K58.T:=K58.gen K86
theorem K58.eq (cK86:K86.T):EqA K58.sig (K58.H cK86) Tryz.f165 6 (K58.W (K58.gen cK86)):=by intro a x;kernel_rfl
theorem K58.ok:NK_ 165 K58.sig (K58.W K58):=ok_ Tryz.func165 (K58.eq K86) (hn_ (Z0 Z2 K86.ok))
def K55.sig:Sig U:=⟨[.data .Q1a,.data .Q1a],[],0,[.int .i64],false,[]⟩
abbrev K55.T:Type:=(Qj)->(Qj)->Option ((Int×Unit)×Unit×Unit)
def K55.W (f:K55.T):K55.sig.F:=λa x=>f a.1 a.2.1
abbrev K55.N (c:K55.T):=Qk 132 (K55.sig.native (K55.W c))
def K55.C:Code:=match Tryz.f132.body with|some c=>c|none=>.skip
def K55.B0:Code:=match (Z3 K55.C).getD 0 .skip with| .loop b=>b| .scope b=>b|_=>.skip
def K55.JC9:Qm U:= [(.normal,⟨60,8,[(5,vi_)],[]⟩)]
def K55.H (cK56:K56.T) (cK49:K49.T) (cK58:K58.T) (cK86:K86.T) (cK51:K51.T):Hints U:={ Γ:=(K51.N cK51 (Qk 167 (K86.sig.native (K86.W cK86)) (Qk 165 (K58.sig.native (K58.W cK58)) (K49.N cK49 (Qk 163 (K56.sig.native (K56.W cK56)) noΓ))))),ro:=0,base:=8,Q1J:=jt_ [(4,[(27,vb_)]),(6,[(39,vb_)])],Q27:=jt_ [(9,K55.JC9)],gotos:=3,loop:=λb=>none}
def K55.gen (cK56:K56.T) (cK49:K49.T) (cK58:K58.T) (cK86:K86.T) (cK51:K51.T):K55.T:=λa b=>
 (Q0 (cK56 a b) none λr0=>(bif ine (Q3u .i64 2 r0.1.1) 0 then some ((Q3u .i64 2 r0.1.1,()),((),())) else (Q0 (cK49 a.Q2g b.Q2g) none λr1=>(Q0 ((bif ilt 0 (Q3u .i64 2 r1.1.1) then some (ieq (Q1K .i64 a.Q2g 1) b.Q2g,()) else some (false,()))) none λr2=>(bif r2.1 then (Q0 (cK58 a) none λr3=>some (r3.1,((),()))) else (Q0 ((bif ilt (Q3u .i64 2 r1.1.1) 0 then some (ieq (Q1K .i64 b.Q2g 1) a.Q2g,()) else some (false,()))) none λr4=>(bif r4.1 then (Q0 (cK58 b) none λr5=>some ((IntKind.wrap .i64 ((0:Int) - r5.1.1),()),((),()))) else (Q0 ((bif ieq (Q3u .i64 2 r1.1.1) 0 then (Q0 (cK86 a.Q4U b.Q4U) none λr6=>(Q0 (cK49 a.Q5A.QW b.Q5A.QW) none λr7=>(Q0 (cK51 (r6.1.1::r7.1.1::Qn Int)) none λr8=>some (r8.1,())))) else some ((Q3u .i64 2 r1.1.1,()),()))) none λr9=>some (r9.1,((),()))))))))))
def K55:K55.T:=K55.gen K56 K49 K58 K86 K51
theorem K55.eq (cK56:K56.T) (cK49:K49.T) (cK58:K58.T) (cK86:K86.T) (cK51:K51.T):EqA K55.sig (K55.H cK56 cK49 cK58 cK86 cK51) Tryz.f132 6 (K55.W (K55.gen cK56 cK49 cK58 cK86 cK51)):=by intro a x;kernel_rfl
theorem K55.loops:Z3 K55.C= [(.scope K55.B0)]:=by kernel_rfl
theorem K55.ok:NK_ 132 K55.sig (K55.W K55):=ok_ Tryz.func132 (K55.eq K56 K49 K58 K86 K51) (hl_ (Z0 (Z0 (Z0 (Z0 (Z0 Z2 K56.ok) K49.ok) K58.ok) K86.ok) K51.ok) (Zt Z5)) K55.loops
def K54.sig:Sig U:=⟨[.isl .Q1a],[],0,[.int .i64],false,[]⟩
abbrev K54.T:Type:=(List (Qj))->Option ((Int×Unit)×Unit×Unit)
def K54.W (f:K54.T):K54.sig.F:=λa x=>f a.1
def K54.L0:Shape U:=⟨27,8,[(0,.val (.isl .Q1a)),(3,vi_),(6,.val (.isl .Q1a)),(7,vi_),(8,vi_)],[]⟩
def K54.X0:Qm U:= [(.exit 0,⟨27,8,[(3,vi_)],[]⟩)]
abbrev K54.l0T:Type:=(((List (Qj))×Int×(List (Qj))×Int×Int×Unit)×Unit)->Option (((Int×Unit)×Unit))
def K54.C:Code:=match Tryz.f131.body with|some c=>c|none=>.skip
def K54.B0:Code:=match (Z3 K54.C).getD 0 .skip with| .loop b=>b| .scope b=>b|_=>.skip
def K54.JC6:Qm U:= [(.normal,⟨27,8,[(0,.val (.isl .Q1a)),(3,vi_),(6,.val (.isl .Q1a)),(7,vi_),(8,vi_)],[]⟩)]
def K54.H (cK55:K55.T) (l0:K54.l0T):Hints U:={ Γ:=(K55.N cK55 noΓ),ro:=0,base:=8,Q1J:=jt_ [(5,[(23,vb_)])],Q27:=jt_ [(6,K54.JC6)],loop:=jt_ [(3,(Z9 (0,8) K54.L0 K54.X0 l0))]}
def K54.QO (cK55:K55.T) (a:((List (Qj))×Int×(List (Qj))×Int×Int×Unit)×Unit):Option ((((List (Qj))×Int×(List (Qj))×Int×Int×Unit)×Unit)⊕(((Int×Unit)×Unit))):=
 (bif ilt a.1.2.2.2.2.1 a.1.2.2.2.1 then (bif inR a.1.2.2.2.2.1 (List.length a.1.2.2.1) then (Q0 ((bif ilt a.1.2.1 0 then some (true,()) else (bif inR a.1.2.1 (List.length a.1.1) then (Q0 (cK55 (List.getD a.1.1 (Int.toNat a.1.2.1) Qj.zero) (List.getD a.1.2.2.1 (Int.toNat a.1.2.2.2.2.1) Qj.zero)) none λr0=>some (ilt 0 r0.1.1,())) else none))) none λr1=>(Q0 ((bif r1.1 then some ((a.1.1,(a.1.2.2.2.2.1,a.1.2.2)),()) else some a)) none λr2=>some (.inl ((r2.1.1,(r2.1.2.1,(r2.1.2.2.1,(r2.1.2.2.2.1,(Q4 .i64 r2.1.2.2.2.2.1 1,()))))),())))) else none) else some (.inr ((a.1.2.1,()),())))
def K54.F0:K54.l0T:=λa=>Z8 (1000000+(a.1.1.length+a.1.2.2.1.length)) (K54.QO K55) a
def K54.gen (cK55:K55.T) (l0:K54.l0T):K54.T:=λl=>
 (Q0 (l0 ((l,(-1:Int),l,ofN (List.length l),(0:Int),()),())) none λr0=>some (r0.1,((),())))
def K54:K54.T:=K54.gen K55 K54.F0
theorem K54.Q24 (cK55:K55.T) (l0:K54.l0T) (a:K54.L0.T):run Tryz.prog (K54.H cK55 l0) 6 (Option (K54.L0.T⊕ExT K54.X0)) none K54.B0 (K54.L0.enc a) (Zi (0,8) K54.L0 K54.X0)=K54.QO cK55 a:=by kernel_rfl
abbrev K54.h:=K54.H K55 K54.F0
theorem K54.Q1V:LO_ K54.h K54.B0 (Z9 (0,8) K54.L0 K54.X0 K54.F0):=lk_ (hn_ (Z0 Z2 K55.ok)) (K54.Q24 K55 K54.F0)
theorem K54.eq (cK55:K55.T) (l0:K54.l0T):EqA K54.sig (K54.H cK55 l0) Tryz.f131 6 (K54.W (K54.gen cK55 l0)):=by intro a x;kernel_rfl
theorem K54.loops:Z3 K54.C= [(.loop K54.B0)]:=by kernel_rfl
theorem K54.ok:NK_ 131 K54.sig (K54.W K54):=ok_ Tryz.func131 (K54.eq K55 K54.F0) (hl_ (Z0 Z2 K55.ok) (Z7 (by kernel_rfl) K54.Q1V Z5)) K54.loops
def K71.sig:Sig U:=⟨[.ptr,.int .i64],[.obj .QA],1,[.data .QC,.bool],true,[]⟩
abbrev K71.T:Type:=(Int)->(Qb)->Option ((Qd×Bool×Unit)×Unit×Unit)
def K71.W (f:K71.T):K71.sig.F:=λa x=>f a.2.1 x.1
def K71.L0:Shape U:=⟨35,11,[(4,.ptr 9 0 0),(6,.val (.isl .QC)),(7,.own .Q1a 10),(14,.val (.isl .QC)),(15,vi_),(16,vi_)],[(8,.obj .QA),(9,.obj .QC),(10,.tok)]⟩
def K71.X0:Qm U:= [(.exit 0,⟨35,11,[(4,.ptr 9 0 0),(6,.val (.isl .QC)),(7,.own .Q1a 10)],[(8,.obj .QA),(9,.obj .QC),(10,.tok)]⟩)]
abbrev K71.l0T:Type:=(((List (Qd))×(List (Qj))×(List (Qd))×Int×Int×Unit)×(Qb×Qd×Unit))->Option ((((List (Qd))×(List (Qj))×Unit)×(Qb×Qd×Unit)))
def K71.C:Code:=match Tryz.f81.body with|some c=>c|none=>.skip
def K71.B0:Code:=match (Z3 K71.C).getD 0 .skip with| .loop b=>b| .scope b=>b|_=>.skip
def K71.Qa4:Qm U:= [(.normal,⟨35,10,[(4,.ptr 9 0 0),(5,vb_)],[(8,.obj .QA),(9,.obj .QC)]⟩)]
def K71.JR5:Qm U:= [(.normal,⟨35,12,[(4,.ptr 9 0 0),(6,.val (.isl .QC)),(7,.own .Q1a 10),(9,.ptr 11 0 0),(14,.val (.isl .QC)),(15,vi_),(16,vi_)],[(8,.obj .QA),(9,.obj .QC),(10,.tok),(11,.obj .QC)]⟩)]
def K71.H (cK74:K74.T) (cK54:K54.T) (l0:K71.l0T):Hints U:={ Γ:=(Qk 131 (K54.sig.native (K54.W cK54)) (Qk 130 (K74.sig.native (K74.W cK74)) noΓ)),ro:=9,base:=9,Q2B:=jt_ [(5,K71.JR5),(10,K71.Qa4)],loop:=jt_ [(4,(Z9 (9,9) K71.L0 K71.X0 l0))]}
def K71.QO (cK74:K74.T) (cK54:K54.T) (a:((List (Qd))×(List (Qj))×(List (Qd))×Int×Int×Unit)×(Qb×Qd×Unit)):Option ((((List (Qd))×(List (Qj))×(List (Qd))×Int×Int×Unit)×(Qb×Qd×Unit))⊕((((List (Qd))×(List (Qj))×Unit)×(Qb×Qd×Unit)))):=
 (bif ilt a.1.2.2.2.2.1 a.1.2.2.2.1 then (Q0 ((bif inR a.1.2.2.2.2.1 (List.length a.1.2.2.1) then some (a.1,(a.2.1,(a.2.2.1,(List.getD a.1.2.2.1 (Int.toNat a.1.2.2.2.2.1) Qd.zero,())))) else none)) none λr0=>(bif room (List.length r0.1.2.1+List.length (r0.2.2.2.1.Q3r::Qn Qj)) 88 then some (.inl ((r0.1.1,(r0.1.2.1++r0.2.2.2.1.Q3r::Qn Qj,(r0.1.2.2.1,(r0.1.2.2.2.1,(Q4 .i64 r0.1.2.2.2.2.1 1,()))))),(r0.2.1,(r0.2.2.1,())))) else none)) else some (.inr ((a.1.1,(a.1.2.1,())),a.2)))
def K71.F0:K71.l0T:=λa=>Z8 (1000000+(a.1.1.length+a.1.2.1.length+a.1.2.2.1.length)) (K71.QO K74 K54) a
def K71.gen (cK74:K74.T) (cK54:K54.T) (l0:K71.l0T):K71.T:=λnow h0=>
 (Q0 (cK74 now h0) none λr0=>(Q0 (l0 ((r0.1.1,Qn Qj,r0.1.1,ofN (List.length r0.1.1),(0:Int),()),h0,Qd.mk z6_ z4_ 0 0 0,())) none λr1=>(Q0 (cK54 r1.1.2.1) none λr2=>(bif ilt r2.1.1 0 then some ((Qd.mk z6_ z4_ 0 0 0,(false,())),((),())) else (bif inR r2.1.1 (List.length r1.1.1) then some ((List.getD r1.1.1 (Int.toNat r2.1.1) Qd.zero,(true,())),((),())) else none)))))
def K71:K71.T:=K71.gen K74 K54 K71.F0
theorem K71.Q24 (cK74:K74.T) (cK54:K54.T) (l0:K71.l0T) (a:K71.L0.T):run Tryz.prog (K71.H cK74 cK54 l0) 6 (Option (K71.L0.T⊕ExT K71.X0)) none K71.B0 (K71.L0.enc a) (Zi (9,9) K71.L0 K71.X0)=K71.QO cK74 cK54 a:=by kernel_rfl
abbrev K71.h:=K71.H K74 K54 K71.F0
theorem K71.Q1V:LO_ K71.h K71.B0 (Z9 (9,9) K71.L0 K71.X0 K71.F0):=lk_ (hn_ (Z0 (Z0 Z2 K74.ok) K54.ok)) (K71.Q24 K74 K54 K71.F0)
theorem K71.eq (cK74:K74.T) (cK54:K54.T) (l0:K71.l0T):EqA K71.sig (K71.H cK74 cK54 l0) Tryz.f81 6 (K71.W (K71.gen cK74 cK54 l0)):=by intro a x;kernel_rfl
theorem K71.loops:Z3 K71.C= [(.loop K71.B0)]:=by kernel_rfl
theorem K71.ok:NK_ 81 K71.sig (K71.W K71):=ok_ Tryz.func81 (K71.eq K74 K54 K71.F0) (hl_ (Z0 (Z0 Z2 K74.ok) K54.ok) (Z7 (by kernel_rfl) K71.Q1V Z5)) K71.loops
def K57.sig:Sig U:=⟨[.data .Q1e],[],0,[.data .Q1a],false,[]⟩
abbrev K57.T:Type:=(Q8)->Option ((Qj×Unit)×Unit×Unit)
def K57.W (f:K57.T):K57.sig.F:=λa x=>f a.1
def K57.H:Hints U:={ Γ:=noΓ,ro:=0,base:=8}
def K57.gen:K57.T:=λc=>
 some ((Qj.mk c.Q17 c.Qu c.Q18 c.QF 0 (Qf.mk c.QF 0) (Qf.mk c.QF 0),()),((),()))
def K57:K57.T:=K57.gen
theorem K57.ok:NK_ 83 K57.sig (K57.W K57):=ok_ (H:=K57.H) (n:=6) Tryz.func83 (by intro a x;kernel_rfl) (hn_ Z2)
def K62.sig:Sig U:=⟨[.data .Q1a,.bool,.Q3v .Q1a,.Q3v .Q1a,.bool],[],0,[.int .i64],false,[]⟩
abbrev K62.T:Type:=(Qj)->(Bool)->(Option (Qj))->(Option (Qj))->(Bool)->Option ((Int×Unit)×Unit×Unit)
def K62.W (f:K62.T):K62.sig.F:=λa x=>f a.1 a.2.1 a.2.2.1 a.2.2.2.1 a.2.2.2.2.1
def K62.JC2:Qm U:= [(.normal,⟨58,8,[],[]⟩),
 (.ret,⟨58,8,[(10,vi_)],[]⟩)]
def K62.H (cK55:K55.T):Hints U:={ Γ:=(K55.N cK55 noΓ),ro:=0,base:=8,Q1J:=jt_ [(1,[(11,vb_)]),(4,[(31,vb_)]),(7,[(32,vb_)]),(11,[(45,vb_)])],Q27:=jt_ [(2,K62.JC2)]}
def K62.gen (cK55:K55.T):K62.T:=λd0 listening best port here=>
 (Q0 ((bif !Option.isSome port then some (listening,()) else some (false,()))) none λr0=>(Q0 ((bif r0.1 then some (.inr (((7:Int),()),())) else (bif ile d0.Qu.Q1M 127 then (Q0 ((bif !Option.isSome port then some (true,()) else (Q0 (port) none λr1=>(Q0 (cK55 d0 r1) none λr2=>some (ilt r2.1.1 0,()))))) none λr3=>(bif r3.1 then some (.inr (((1:Int),()),())) else some (.inr (((4:Int),()),())))) else (Q0 ((bif !Option.isSome best then some (true,()) else (Q0 (best) none λr4=>(Q0 (cK55 d0 r4) none λr5=>some (ilt r5.1.1 0,()))))) none λr6=>(bif r6.1 then some (.inr (((2:Int),()),())) else (bif here then some (.inr (((6:Int),()),())) else (Q0 ((bif Option.isSome port then (Q0 (best) none λr7=>(Q0 (port) none λr8=>(Q0 (cK55 r7 r8) none λr9=>some (ieq r9.1.1 (-1),())))) else some (false,()))) none λr10=>(bif r10.1 then some (.inr (((5:Int),()),())) else some (.inl ((),())))))))))) none λr11=>(Q3S r11 (λr12=>some (((3:Int),()),((),()))) (λr12=>some (r12.1,((),()))))))
def K62:K62.T:=K62.gen K55
theorem K62.eq (cK55:K55.T):EqA K62.sig (K62.H cK55) Tryz.f133 6 (K62.W (K62.gen cK55)):=by intro a x;kernel_rfl
theorem K62.ok:NK_ 133 K62.sig (K62.W K62):=ok_ Tryz.func133 (K62.eq K55) (hn_ (Z0 Z2 K55.ok))
def K61.sig:Sig U:=⟨[.data .Q1a,.isl .bool,.isl .Q1L],[],0,[.isl .int,.int .i64],true,[]⟩
abbrev K61.T:Type:=(Qj)->(List (Bool))->(List (Option (Qj)))->Option (((List (Int))×Int×Unit)×Unit×Unit)
def K61.W (f:K61.T):K61.sig.F:=λa x=>f a.1 a.2.1 a.2.2.1
def K61.L0:Shape U:=⟨78,9,[(1,.val (.isl .bool)),(2,.val (.isl .Q1L)),(3,.ptr 8 0 0),(8,vi_),(9,vi_),(10,.val (.Q3v .Q1a)),(11,.full .int)],[(8,.obj .Q1a)]⟩
def K61.X0:Qm U:= [(.ret,⟨78,9,[(6,.own .int 8),(7,vi_)],[(8,.tok)]⟩)]
abbrev K61.l0T:Type:=(((List (Bool))×(List (Option (Qj)))×Int×Int×(Option (Qj))×(List (Int))×Unit)×(Qj×Unit))->Option ((((List (Int))×Int×Unit)×Unit))
def K61.L1:Shape U:=⟨78,10,[(1,.val (.isl .bool)),(3,.ptr 8 0 0),(8,vi_),(10,.val (.Q3v .Q1a)),(11,.own .int 9),(48,.val (.isl .Q1L)),(49,vi_),(50,vi_)],[(8,.obj .Q1a),(9,.tok)]⟩
def K61.X1:Qm U:= [(.exit 0,⟨78,9,[(8,vi_),(11,.own .int 8)],[(8,.tok)]⟩)]
abbrev K61.l1T:Type:=(((List (Bool))×Int×(Option (Qj))×(List (Int))×(List (Option (Qj)))×Int×Int×Unit)×(Qj×Unit))->Option (((Int×(List (Int))×Unit)×Unit))
def K61.C:Code:=match Tryz.f82.body with|some c=>c|none=>.skip
def K61.B0:Code:=match (Z3 K61.C).getD 0 .skip with| .loop b=>b| .scope b=>b|_=>.skip
def K61.B1:Code:=match (Z3 K61.C).getD 1 .skip with| .loop b=>b| .scope b=>b|_=>.skip
def K61.R0:Code:=(findLabel K61.B0 0).getD .skip
def K61.Qa1:Qm U:= [(.normal,⟨78,10,[(1,.val (.isl .bool)),(3,.ptr 8 0 0),(8,vi_),(10,.val (.Q3v .Q1a)),(11,.own .int 9),(48,.val (.isl .Q1L)),(49,vi_),(50,vi_)],[(8,.obj .Q1a),(9,.tok)]⟩)]
def K61.JC8:Qm U:= [(.normal,⟨78,9,[(1,.val (.isl .bool)),(2,.val (.isl .Q1L)),(3,.ptr 8 0 0),(8,vi_),(9,vi_),(10,.val (.Q3v .Q1a)),(11,.full .int)],[(8,.obj .Q1a)]⟩)]
def K61.H (cK55:K55.T) (cK62:K62.T) (l0:K61.l0T) (l1:K61.l1T):Hints U:={ Γ:=(Qk 133 (K62.sig.native (K62.W cK62)) (K55.N cK55 noΓ)),ro:=0,base:=8,Q1J:=jt_ [(7,[(43,vb_)])],Q2B:=jt_ [(13,K61.Qa1)],Q27:=jt_ [(8,K61.JC8)],label:=λb=>bif Nat.beq b 0 then some (Z9 (0,8) K61.L0 K61.X0 l0) else none,gotos:=3,loop:=jt_ [(11,(Z9 (0,8) K61.L1 K61.X1 l1))]}
def K61.Q2A (cK55:K55.T) (cK62:K62.T) (a:((List (Bool))×Int×(Option (Qj))×(List (Int))×(List (Option (Qj)))×Int×Int×Unit)×(Qj×Unit)):Option ((((List (Bool))×Int×(Option (Qj))×(List (Int))×(List (Option (Qj)))×Int×Int×Unit)×(Qj×Unit))⊕(((Int×(List (Int))×Unit)×Unit))):=
 (bif ilt a.1.2.2.2.2.2.2.1 a.1.2.2.2.2.2.1 then (bif inR a.1.2.2.2.2.2.2.1 (List.length a.1.2.2.2.2.1) then (Q0 ((bif ilt a.1.2.2.2.2.2.2.1 (ofN (List.length a.1.1)) then (bif inR a.1.2.2.2.2.2.2.1 (List.length a.1.1) then (Q0 (cK62 a.2.1 (List.getD a.1.1 (Int.toNat a.1.2.2.2.2.2.2.1) false) a.1.2.2.1 (List.getD a.1.2.2.2.2.1 (Int.toNat a.1.2.2.2.2.2.2.1) none) (ieq a.1.2.2.2.2.2.2.1 a.1.2.1)) none λr0=>(bif room (List.length a.1.2.2.2.1+List.length (r0.1.1::Qn Int)) 8 then some ((a.1.1,(a.1.2.1,(a.1.2.2.1,(a.1.2.2.2.1++r0.1.1::Qn Int,a.1.2.2.2.2)))),a.2) else none)) else none) else (Q0 (cK62 a.2.1 false a.1.2.2.1 (List.getD a.1.2.2.2.2.1 (Int.toNat a.1.2.2.2.2.2.2.1) none) (ieq a.1.2.2.2.2.2.2.1 a.1.2.1)) none λr1=>(bif room (List.length a.1.2.2.2.1+List.length (r1.1.1::Qn Int)) 8 then some ((a.1.1,(a.1.2.1,(a.1.2.2.1,(a.1.2.2.2.1++r1.1.1::Qn Int,a.1.2.2.2.2)))),a.2) else none)))) none λr2=>some (.inl ((r2.1.1,(r2.1.2.1,(r2.1.2.2.1,(r2.1.2.2.2.1,(r2.1.2.2.2.2.1,(r2.1.2.2.2.2.2.1,(Q4 .i64 r2.1.2.2.2.2.2.2.1 1,()))))))),r2.2))) else none) else some (.inr ((a.1.2.1,(a.1.2.2.2.1,())),())))
def K61.F1:K61.l1T:=λa=>Z8 (1000000+(a.1.1.length+a.1.2.2.2.1.length+a.1.2.2.2.2.1.length)) (K61.Q2A K55 K62) a
def K61.QO (cK55:K55.T) (cK62:K62.T) (l1:K61.l1T) (a:((List (Bool))×(List (Option (Qj)))×Int×Int×(Option (Qj))×(List (Int))×Unit)×(Qj×Unit)):Option ((((List (Bool))×(List (Option (Qj)))×Int×Int×(Option (Qj))×(List (Int))×Unit)×(Qj×Unit))⊕((((List (Int))×Int×Unit)×Unit))):=
 (bif ilt a.1.2.2.2.1 (ofN (List.length a.1.2.1)) then (bif inR a.1.2.2.2.1 (List.length a.1.2.1) then (Q0 ((bif Option.isSome (List.getD a.1.2.1 (Int.toNat a.1.2.2.2.1) none) then (bif !Option.isSome a.1.2.2.2.2.1 then some (true,()) else (Q0 (a.1.2.2.2.2.1) none λ(r0:Qj)=>(Q0 (List.getD a.1.2.1 (Int.toNat a.1.2.2.2.1) none) none λr1=>(Q0 (cK55 r0 r1) none λr2=>some (ilt 0 r2.1.1,()))))) else some (false,()))) none λr3=>(Q0 ((bif r3.1 then some ((a.1.1,(a.1.2.1,(a.1.2.2.2.1,(a.1.2.2.2.1,(List.getD a.1.2.1 (Int.toNat a.1.2.2.2.1) none,a.1.2.2.2.2.2))))),a.2) else some a)) none λr4=>some (.inl ((r4.1.1,(r4.1.2.1,(r4.1.2.2.1,(Q4 .i64 r4.1.2.2.2.1 1,r4.1.2.2.2.2)))),r4.2)))) else none) else (Q0 (l1 ((a.1.1,a.1.2.2.1,a.1.2.2.2.2.1,a.1.2.2.2.2.2.1,a.1.2.1,ofN (List.length a.1.2.1),(0:Int),()),a.2)) none λr5=>some (.inr ((r5.1.2.1,(r5.1.1,())),()))))
def K61.F0:K61.l0T:=λa=>Z8 (1000000+(a.1.1.length+a.1.2.1.length+a.1.2.2.2.2.2.1.length)) (K61.QO K55 K62 K61.F1) a
def K61.gen (cK55:K55.T) (cK62:K62.T) (l0:K61.l0T) (l1:K61.l1T):K61.T:=λd0 listening Q3R=>
 (bif le3 (ofN 0) (Z4 false (ofN (List.length Q3R)) 8) (List.length Q3R) then (bif ilt 0 (ofN (List.length (List.drop (Int.toNat (ofN 0)) (List.take (Int.toNat (Z4 false (ofN (List.length Q3R)) 8)) Q3R)))) then (bif inR 0 (List.length (List.drop (Int.toNat (ofN 0)) (List.take (Int.toNat (Z4 false (ofN (List.length Q3R)) 8)) Q3R))) then (Q0 ((bif Option.isSome (List.getD (List.drop (Int.toNat (ofN 0)) (List.take (Int.toNat (Z4 false (ofN (List.length Q3R)) 8)) Q3R)) (Int.toNat 0) none) then some (true,()) else some (false,()))) none λr0=>(Q0 ((bif r0.1 then some ((listening,(List.drop (Int.toNat (ofN 0)) (List.take (Int.toNat (Z4 false (ofN (List.length Q3R)) 8)) Q3R),((0:Int),((0:Int),(List.getD (List.drop (Int.toNat (ofN 0)) (List.take (Int.toNat (Z4 false (ofN (List.length Q3R)) 8)) Q3R)) (Int.toNat 0) none,(Qn Int,())))))),(d0,())) else some ((listening,(List.drop (Int.toNat (ofN 0)) (List.take (Int.toNat (Z4 false (ofN (List.length Q3R)) 8)) Q3R),((-1:Int),((0:Int),(none,(Qn Int,())))))),(d0,())))) none λr1=>(Q0 (l0 ((r1.1.1,r1.1.2.1,r1.1.2.2.1,Q4 .i64 r1.1.2.2.2.1 1,r1.1.2.2.2.2),r1.2)) none λr2=>some (r2.1,((),()))))) else none) else (Q0 (l1 ((listening,(-1:Int),none,Qn Int,List.drop (Int.toNat (ofN 0)) (List.take (Int.toNat (Z4 false (ofN (List.length Q3R)) 8)) Q3R),ofN (List.length (List.drop (Int.toNat (ofN 0)) (List.take (Int.toNat (Z4 false (ofN (List.length Q3R)) 8)) Q3R))),(0:Int),()),d0,())) none λr3=>some ((r3.1.2.1,(r3.1.1,())),((),())))) else none)
def K61:K61.T:=K61.gen K55 K62 K61.F0 K61.F1
theorem K61.seq1 (cK55:K55.T) (cK62:K62.T) (l0:K61.l0T) (l1:K61.l1T) (a:K61.L1.T):run Tryz.prog (K61.H cK55 cK62 l0 l1) 6 (Option (K61.L1.T⊕ExT K61.X1)) none K61.B1 (K61.L1.enc a) (Zi (0,8) K61.L1 K61.X1)=K61.Q2A cK55 cK62 a:=by kernel_rfl
theorem K61.Qaj:Z3 K61.B1=([]:List Code):=by kernel_rfl
abbrev K61.h:=K61.H K55 K62 K61.F0 K61.F1
theorem K61.Q5h:ZI U Tryz.prog K61.h.ro K61.h.base K61.B1 (Z9 (0,8) K61.L1 K61.X1 K61.F1):=
 Z2Q (Hn:=K61.h) Q61 Q4F (Z1F (Z14 Q61 Q4F mixed (Z0 (Z0 Z2 K55.ok) K62.ok) Z5 Z22 (Z2e λ_=>rfl)) 6) (λb h=>by rw [K61.Qaj] at h;exact h) (λ_=>rfl) (K61.seq1 K55 K62 K61.F0 K61.F1)
theorem K61.Q24 (cK55:K55.T) (cK62:K62.T) (l0:K61.l0T) (l1:K61.l1T) (a:K61.L0.T):run Tryz.prog (K61.H cK55 cK62 l0 l1) 6 (Option (K61.L0.T⊕ExT K61.X0)) none K61.R0 (K61.L0.enc a) (Z2J (0,8) 0 K61.L0 K61.X0)=K61.QO cK55 cK62 l1 a:=by kernel_rfl
theorem K61.Q5a:Z3 K61.R0= [(.loop K61.B1)]:=by kernel_rfl
theorem K61.Q1V:ZT U Tryz.prog K61.h.ro K61.h.base K61.B0 K61.R0 (Z9 (0,8) K61.L0 K61.X0 K61.F0):=
 Z6q (Hn:=K61.h) (lb:=0) Q61 Q4F (Z1F (Z14 Q61 Q4F mixed (Z0 (Z0 Z2 K55.ok) K62.ok) (Z7 (by kernel_rfl) K61.Q5h Z5) (Z53 Z22) (Z2e λ_=>rfl)) 6) (by kernel_rfl) (λb h=>by rw [K61.Q5a] at h;exact h) (λ_=>rfl) (K61.Q24 K55 K62 K61.F0 K61.F1)
theorem K61.eq (cK55:K55.T) (cK62:K62.T) (l0:K61.l0T) (l1:K61.l1T):EqA K61.sig (K61.H cK55 cK62 l0 l1) Tryz.f82 6 (K61.W (K61.gen cK55 cK62 l0 l1)):=by intro a x;kernel_rfl
theorem K61.loops:Z3 K61.C= [(.scope K61.B0),(.loop K61.B1)]:=by kernel_rfl
theorem K61.hints:Q4c U Tryz.prog K61.h (λc=>c∈ [(.scope K61.B0),(.loop K61.B1)]):=(Z14 Q61 Q4F mixed (Z0 (Z0 Z2 K55.ok) K62.ok) (Zt (Z7 (by kernel_rfl) K61.Q5h Z5)) (Z4X (Z6x (r0:=K61.R0) (l0:=0) (by kernel_rfl) (λ_=>rfl) K61.Q1V) (Z53 Z22)) (Z2e λ_=>rfl))
theorem K61.ok:Zy U Tryz.prog 82 (K61.sig.native (K61.W K61)):=
 Sig.ok K61.sig (K61.W K61) Q4F (Hn:=K61.h) (code:=K61.C) (gos:=6) K61.hints Tryz.func82 (by kernel_rfl) (by kernel_rfl) (λb h=>by rw [K61.loops] at h;exact h) rfl rfl (by decide) (K61.eq K55 K62 K61.F0 K61.F1) (by decide)
def Q2K.sig:Sig U:=⟨[.data .Q1a,.data .Q4n],[],0,[.data .Q1F],false,[]⟩
abbrev Q2K.T:Type:=(Qj)->(Q1d)->Option ((QY×Unit)×Unit×Unit)
def Q2K.W (f:Q2K.T):Q2K.sig.F:=λa x=>f a.1 a.2.1
def Q2K.H:Hints U:={ Γ:=noΓ,ro:=0,base:=8}
def Q2K.gen:Q2K.T:=λv t=>
 some ((QY.mk v.Q4U v.Q2Q v.Qu v.Q17 v.Q18 (Q4 .i64 v.Q2g 1) t,()),((),()))
def Q2K:Q2K.T:=Q2K.gen
theorem Q2K.ok:NK_ 84 Q2K.sig (Q2K.W Q2K):=ok_ (H:=Q2K.H) (n:=6) Tryz.func84 (by intro a x;kernel_rfl) (hn_ Z2)
def Q2x.sig:Sig U:=⟨[.int .i64,.int .i64,.bool,.bool],[],0,[.int .i64],false,[]⟩
abbrev Q2x.T:Type:=(Int)->(Int)->(Bool)->(Bool)->Option ((Int×Unit)×Unit×Unit)
def Q2x.W (f:Q2x.T):Q2x.sig.F:=λa x=>f a.1 a.2.1 a.2.2.1 a.2.2.2.1
def Q2x.H (cK140:Q1j.T) (cK142:Q1T.T):Hints U:={ Γ:=(Q1T.N cK142 (Q1j.N cK140 noΓ)),ro:=0,base:=8,Q1J:=jt_ [(1,[(19,vb_)]),(3,[(25,vb_)]),(14,[(42,vb_)])]}
def Q2x.gen (cK140:Q1j.T) (cK142:Q1T.T):Q2x.T:=λstate decision same slaveOnly=>
 (Q0 ((Q0 (cK140 state) none λr0=>(bif !r0.1.1 then some (true,()) else (bif ilt decision 1 then some (true,()) else some (ilt 6 decision,()))))) none λr1=>(bif r1.1 then some ((state,()),((),())) else (Q0 ((bif slaveOnly then some (ine decision 6,()) else some (false,()))) none λr2=>(bif r2.1 then some (((4:Int),()),((),())) else (bif ieq decision 4 then some (((7:Int),()),((),())) else (bif ieq decision 5 then some (((7:Int),()),((),())) else (bif ieq decision 3 then (bif ine state 6 then some (((5:Int),()),((),())) else some ((state,()),((),()))) else (bif ieq decision 6 then (Q0 ((bif same then (Q0 (cK142 state) none λr3=>some r3.1) else some (false,()))) none λr4=>(bif r4.1 then some ((state,()),((),())) else some (((8:Int),()),((),())))) else some (((6:Int),()),((),()))))))))))
def Q2x:Q2x.T:=Q2x.gen Q1j Q1T
theorem Q2x.eq (cK140:Q1j.T) (cK142:Q1T.T):EqA Q2x.sig (Q2x.H cK140 cK142) Tryz.f85 6 (Q2x.W (Q2x.gen cK140 cK142)):=by intro a x;kernel_rfl
theorem Q2x.ok:NK_ 85 Q2x.sig (Q2x.W Q2x):=ok_ Tryz.func85 (Q2x.eq Q1j Q1T) (hn_ (Z0 (Z0 Z2 Q1j.ok) Q1T.ok))
def Q28.sig:Sig U:=⟨[.ptr],[.obj .Q1k],0,[],true,[]⟩
abbrev Q28.T:Type:=(QB)->Option (Unit×(QB×Unit)×Unit)
def Q28.W (f:Q28.T):Q28.sig.F:=λa x=>f x.1
abbrev Q28.N (c:Q28.T):=Qk 113 (Q28.sig.native (Q28.W c))
def Q28.H:Hints U:={ Γ:=noΓ,ro:=0,base:=9}
def Q28.gen:Q28.T:=λh0=>
 some ((),((QB.mk z2_ z2_ 0 false false,()),()))
def Q28:Q28.T:=Q28.gen
theorem Q28.ok:NK_ 113 Q28.sig (Q28.W Q28):=ok_ (H:=Q28.H) (n:=6) Tryz.func113 (by intro a x;kernel_rfl) (hn_ Z2)
def K64.sig:Sig U:=⟨[.ptr],[.obj .Q14],0,[],true,[]⟩
abbrev K64.T:Type:=(Qg)->Option (Unit×(Qg×Unit)×Unit)
def K64.W (f:K64.T):K64.sig.F:=λa x=>f x.1
abbrev K64.N (c:K64.T):=Qk 114 (K64.sig.native (K64.W c))
def K64.H:Hints U:={ Γ:=noΓ,ro:=0,base:=9}
def K64.gen:K64.T:=λh0=>
 some ((),((Qg.Qa2 h0 (Q12.mk 0 0 false false),()),()))
def K64:K64.T:=K64.gen
theorem K64.ok:NK_ 114 K64.sig (K64.W K64):=ok_ (H:=K64.H) (n:=6) Tryz.func114 (by intro a x;kernel_rfl) (hn_ Z2)
def K47.sig:Sig U:=⟨[.ptr,.bool],[.obj .QI,Q51,Q5y],0,[],true,[]⟩
abbrev K47.T:Type:=(Bool)->(Q5)->(Fm Qg)->(Fm QB)->Option (Unit×(Q5×(Fm Qg)×(Fm QB)×Unit)×Unit)
def K47.W (f:K47.T):K47.sig.F:=λa x=>f a.2.1 x.1 x.2.1 x.2.2.1
def K47.C:Code:=match Tryz.f68.body with|some c=>c|none=>.skip
def K47.B0:Code:=match (Z3 K47.C).getD 0 .skip with| .loop b=>b| .scope b=>b|_=>.skip
def K47.JR2:Qm U:= [(.normal,⟨44,9,[(0,.ptr 8 0 0),(1,vb_)],(8,.obj .QI)::hT8_⟩)]
def K47.U0 (cK153:Q28.T) (cK64:K64.T) (cK175:Q2J.T):Hints U:={ Γ:=(Q2J.N cK175 (K64.N cK64 (Q28.N cK153 noΓ))),ro:=0,base:=9,Q2B:=jt_ [(0,K47.JR2),(1,K47.JR2),(2,K47.JR2)],loop:=λb=>none}
def K47.H (cK153:Q28.T) (cK64:K64.T) (cK175:Q2J.T):Hints U:={ Γ:=(Q2J.N cK175 (K64.N cK64 (Q28.N cK153 noΓ))),ro:=0,base:=9,Q2B:=jt_ [(0,K47.JR2),(1,K47.JR2),(2,K47.JR2)],loop:=jt_ [(4,(Z1P Tryz.prog (K47.U0 cK153 cK64 cK175) 6 K47.B0 6))]}
def K47.gen (cK153:Q28.T) (cK64:K64.T) (cK175:Q2J.T):K47.T:=λask h0 g3 g6=>
 (Q0 ((Q0 (h0.12) none λr0=>(Q0 (cK153 (g6.2 r0)) none λr1=>some ((ask,()),(h0,(g3,((g6.1,Qr g6.2 r0 r1.2.1.1),()))))))) none λr2=>(Q0 ((Q0 (r2.2.1.13) none λr3=>(Q0 (cK64 (r2.2.2.1.2 r3)) none λr4=>some (r2.1,(r2.2.1,((r2.2.2.1.1,Qr r2.2.2.1.2 r3 r4.2.1.1),r2.2.2.2)))))) none λr5=>(Q0 (cK175 r5.2.1.Q4j) none λr6=>(Q0 (cK175 r5.2.1.Q5n) none λr7=>(Q0 (cK175 r5.2.1.Q4Y) none λr8=>(Q0 (cK175 r5.2.1.fsync) none λr9=>(bif r5.1.1 then (Q0 (cK175 r5.2.1.Q79) none λr10=>some ((),((Q5.Q63 (Q5.Q6v (Q5.Q6G (Q5.Q5r (Q5.Q5F (Q5.Q4a r5.2.1 r6.2.1.1) r7.2.1.1) r8.2.1.1) r9.2.1.1) r10.2.1.1) z5_,r5.2.2),()))) else some ((),((Q5.Q63 (Q5.Q6G (Q5.Q5r (Q5.Q5F (Q5.Q4a r5.2.1 r6.2.1.1) r7.2.1.1) r8.2.1.1) r9.2.1.1) z5_,r5.2.2),())))))))))
def K47:K47.T:=K47.gen Q28 K64 Q2J
theorem K47.Q5a:Z3 K47.B0= []:=by kernel_rfl
abbrev K47.h:=K47.H Q28 K64 Q2J
theorem K47.Q1V:ZI U Tryz.prog K47.h.ro K47.h.base K47.B0 (Z1P Tryz.prog (K47.U0 Q28 K64 Q2J) 6 K47.B0 6):=
 Z2w (Hn:=(K47.U0 Q28 K64 Q2J)) (L:=λc=>c∈([]:List Code)) (hq (Z0 (Z0 (Z0 Z2 Q28.ok) K64.ok) Q2J.ok) Z5 (λ_=>rfl) (λ_=>rfl)) (λb h=>by rw [K47.Q5a] at h;exact h) 6
theorem K47.eq (cK153:Q28.T) (cK64:K64.T) (cK175:Q2J.T):EqA K47.sig (K47.H cK153 cK64 cK175) Tryz.f68 6 (K47.W (K47.gen cK153 cK64 cK175)):=by intro a x;kernel_rfl
theorem K47.loops:Z3 K47.C= [(.loop K47.B0)]:=by kernel_rfl
theorem K47.ok:NK_ 68 K47.sig (K47.W K47):=ok_ Tryz.func68 (K47.eq Q28 K64 Q2J) (hl_ (Z0 (Z0 (Z0 Z2 Q28.ok) K64.ok) Q2J.ok) (Z7 (by kernel_rfl) K47.Q1V Z5)) K47.loops
def K22.sig:Sig U:=⟨[.ptr,.Q5k 0 23 42 8,.data .Q1F],[.obj .Q7],0,[],true,[]⟩
abbrev K22.T:Type:=(Nat)->(QY)->(Q1)->Option (Unit×(Q1×Unit)×Unit)
def K22.W (f:K22.T):K22.sig.F:=λa x=>f a.2.1 a.2.2.1 x.1
def K22.JR8:Qm U:= [(.normal,⟨48,9,[],[(8,.obj .Q7)]⟩)]
def K22.Qa0:Qm U:= [(.normal,⟨48,9,[(0,.ptr 8 0 0),(1,.Q1h 8 23 42 8 0)],[(8,.obj .Q7)]⟩)]
def K22.JC6:Qm U:= [(.normal,⟨48,9,[(0,.ptr 8 0 0),(1,.Q1h 8 23 42 8 0),(16,vb_)],[(8,.obj .Q7)]⟩)]
def K22.H (cK28:K28.T) (cK19:K19.T) (cK174:Q23.T) (cK36:K36.T):Hints U:={ Γ:=(K36.N cK36 (Q23.N cK174 (K19.N cK19 (Qk 80 (K28.sig.native (K28.W cK28)) noΓ)))),ro:=0,base:=9,Q2B:=jt_ [(7,K22.JR8),(8,K22.JR8)],Q27:=jt_ [(6,K22.JC6),(10,K22.Qa0)]}
def K22.gen (cK28:K28.T) (cK19:K19.T) (cK174:Q23.T) (cK36:K36.T):K22.T:=λp parent h0=>
 (bif ieq (h0.Qe p).Q1u 6 then (Q0 ((Q0 (cK28 p h0) none λr0=>some ((),r0.2.1))) none λr1=>some ((),(r1.2,()))) else (bif ieq (h0.Qe p).Q1u 5 then (Q0 ((Q0 (cK19 h0) none λr2=>(Q0 (cK174 (Q3u .i64 (Q4 .i64 parent.Q2g 1) r2.1.1) (h0.Qe p).Q5n) none λr3=>some ((),(Q1.QU h0 (Qr h0.Qe p (Q5.Q5F (h0.Qe p) r3.2.1.1)),()))))) none λr4=>some ((),(r4.2,()))) else (bif ieq (h0.Qe p).Q1u 8 then (Q0 ((bif !h0.Qo.Q4g then (Q0 (cK174 1 (h0.Qe p).Q79) none λr5=>some ((p,()),(Q1.QU h0 (Qr h0.Qe p (Q5.Q6v (h0.Qe p) r5.2.1.1)),()))) else some ((p,()),(h0,())))) none λr6=>(Q0 (cK36 r6.2.1) none λr7=>(Q0 (cK174 r7.1.1 (r6.2.1.Qe r6.1.1).Q4j) none λr8=>some ((),((Q1.QU r6.2.1 (Qr r6.2.1.Qe r6.1.1 (Q5.Q4a (r6.2.1.Qe r6.1.1) r8.2.1.1)),()),()))))) else (Q0 ((bif ieq (h0.Qe p).Q1u 7 then some ((p,(ieq (h0.Qe p).Q1u 7,())),(h0,())) else some ((p,(ieq (h0.Qe p).Q1u 4,())),(h0,())))) none λr9=>(bif r9.1.2.1 then (Q0 (cK36 r9.2.1) none λr10=>(Q0 (cK174 r10.1.1 (r9.2.1.Qe r9.1.1).Q4j) none λr11=>some ((),((Q1.QU r9.2.1 (Qr r9.2.1.Qe r9.1.1 (Q5.Q4a (r9.2.1.Qe r9.1.1) r11.2.1.1)),()),())))) else some ((),(r9.2,())))))))
def K22:K22.T:=K22.gen K28 K19 Q23 K36
theorem K22.eq (cK28:K28.T) (cK19:K19.T) (cK174:Q23.T) (cK36:K36.T):EqA K22.sig (K22.H cK28 cK19 cK174 cK36) Tryz.f86 6 (K22.W (K22.gen cK28 cK19 cK174 cK36)):=by intro a x;kernel_rfl
theorem K22.ok:NK_ 86 K22.sig (K22.W K22):=ok_ Tryz.func86 (K22.eq K28 K19 Q23 K36) (hn_ (Z0 (Z0 (Z0 (Z0 Z2 K28.ok) K19.ok) Q23.ok) K36.ok))
def Q1Z.sig:Sig U:=⟨[.ptr],[.obj .Q19],0,[],true,[]⟩
abbrev Q1Z.T:Type:=(Qh)->Option (Unit×(Qh×Unit)×Unit)
def Q1Z.W (f:Q1Z.T):Q1Z.sig.F:=λa x=>f x.1
def Q1Z.H:Hints U:={ Γ:=noΓ,ro:=0,base:=9}
def Q1Z.gen:Q1Z.T:=λh0=>
 some ((),((Qh.Q8k h0 0,()),()))
def Q1Z:Q1Z.T:=Q1Z.gen
theorem Q1Z.ok:NK_ 87 Q1Z.sig (Q1Z.W Q1Z):=ok_ (H:=Q1Z.H) (n:=6) Tryz.func87 (by intro a x;kernel_rfl) (hn_ Z2)
def K26.sig:Sig U:=⟨[.ptr],[.obj .Q7,Q58,Q51,Q5S,Q5y],0,[],true,[]⟩
abbrev K26.T:Type:=(Q1)->(Fm Qb)->(Fm Qg)->(Fm Qh)->(Fm QB)->Option (Unit×(Q1×Q76)×Unit)
def K26.W (f:K26.T):K26.sig.F:=λa x=>f x.1 x.2.1 x.2.2.1 x.2.2.2.1 x.2.2.2.2.1
def K26.L0:Shape U:=⟨200,12,[(0,.ptr 8 0 0),(2,.ptr 9 0 0),(3,.ptr 10 0 0),(4,.ptr 11 0 0),(5,.asl 8 23 42 8),(30,vi_),(31,vi_)],(8,.obj .Q7)::(9,.Q6N .QC)::(10,.Q1P true .Q1L)::(11,.Q1P true .bool)::Q62⟩
def K26.X0:Qm U:= [(.exit 0,⟨200,12,[(0,.ptr 8 0 0),(2,.ptr 9 0 0),(3,.ptr 10 0 0),(4,.ptr 11 0 0),(5,.asl 8 23 42 8)],(8,.obj .Q7)::(9,.Q6N .QC)::(10,.Q1P true .Q1L)::(11,.Q1P true .bool)::Q62⟩)]
abbrev K26.l0T:Type:=(((Nat×Nat)×Int×Int×Unit)×(Q1×(Nat×Nat×(Nat->Qd))×(Nat×(Nat->Option (Qj)))×Q9Z))->Option ((((Nat×Nat)×Unit)×(Q1×(Nat×Nat×(Nat->Qd))×(Nat×(Nat->Option (Qj)))×Q9Z)))
def K26.L1:Shape U:=⟨200,11,[(0,.ptr 8 0 0),(2,.ptr 9 0 0),(5,.asl 8 23 42 8),(10,.val (.isl .int)),(12,.ptr 10 0 0),(92,.val (.isl .int)),(93,vi_),(94,vi_)],(8,.obj .Q7)::(9,.Q6N .QC)::(10,.obj .Q1F)::Q62⟩
def K26.X1:Qm U:= [(.exit 2,⟨200,10,[(0,.ptr 8 0 0),(5,.asl 8 23 42 8),(10,.val (.isl .int)),(12,.ptr 9 0 0)],(8,.obj .Q7)::(9,.obj .Q1F)::Q62⟩)]
abbrev K26.l1T:Type:=(((Nat×Nat)×(List (Int))×(List (Int))×Int×Int×Unit)×(Q1×(Nat×Nat×(Nat->Qd))×QY×Q76))->Option ((((Nat×Nat)×(List (Int))×Unit)×(Q1×QY×Q76)))
def K26.L2:Shape U:=⟨200,10,[(0,.ptr 8 0 0),(5,.asl 8 23 42 8),(12,.ptr 9 0 0),(15,vb_),(119,.val (.isl .int)),(120,vi_),(121,vi_)],(8,.obj .Q7)::(9,.obj .Q1F)::Q62⟩
def K26.X2:Qm U:= [(.exit 4,⟨200,10,[(0,.ptr 8 0 0),(12,.ptr 9 0 0),(15,vb_)],(8,.obj .Q7)::(9,.obj .Q1F)::Q62⟩)]
abbrev K26.l2T:Type:=(((Nat×Nat)×Bool×(List (Int))×Int×Int×Unit)×(Q1×QY×Q76))->Option (((Bool×Unit)×(Q1×QY×Q76)))
def K26.C:Code:=match Tryz.f51.body with|some c=>c|none=>.skip
def K26.B0:Code:=match (Z3 K26.C).getD 0 .skip with| .loop b=>b| .scope b=>b|_=>.skip
def K26.B1:Code:=match (Z3 K26.C).getD 1 .skip with| .loop b=>b| .scope b=>b|_=>.skip
def K26.B2:Code:=match (Z3 K26.C).getD 2 .skip with| .loop b=>b| .scope b=>b|_=>.skip
def K26.JR35:Qm U:= [(.normal,⟨200,10,[(0,.ptr 8 0 0),(12,.ptr 9 0 0)],(8,.obj .Q7)::(9,.obj .Q1F)::Q62⟩)]
def K26.JR31:Qm U:= [(.normal,⟨200,10,[(0,.ptr 8 0 0),(5,.asl 8 23 42 8),(12,.ptr 9 0 0),(15,vb_),(18,.Q1h 8 23 42 8 0),(119,.val (.isl .int)),(120,vi_),(121,vi_)],(8,.obj .Q7)::(9,.obj .Q1F)::Q62⟩)]
def K26.JR29:Qm U:= [(.normal,⟨200,10,[(0,.ptr 8 0 0),(5,.asl 8 23 42 8),(12,.ptr 9 0 0),(15,vb_),(17,vi_),(18,.Q1h 8 23 42 8 0),(19,vi_),(119,.val (.isl .int)),(120,vi_),(121,vi_)],(8,.obj .Q7)::(9,.obj .Q1F)::Q62⟩)]
def K26.Q9w:Qm U:= [(.normal,⟨200,11,[(0,.ptr 8 0 0),(2,.ptr 9 0 0),(5,.asl 8 23 42 8),(10,.val (.isl .int)),(12,.ptr 10 0 0)],(8,.obj .Q7)::(9,.Q6N .QC)::(10,.obj .Q1F)::Q62⟩)]
def K26.Qa4:Qm U:= [(.normal,⟨200,12,[(0,.ptr 8 0 0),(2,.ptr 9 0 0),(3,.ptr 10 0 0),(4,.ptr 11 0 0),(5,.asl 8 23 42 8),(6,vi_),(9,vb_),(30,vi_),(31,vi_)],(8,.obj .Q7)::(9,.Q6N .QC)::(10,.Q1P true .Q1L)::(11,.Q1P true .bool)::Q62⟩)]
def K26.JR9:Qm U:= [(.normal,⟨200,13,[(0,.ptr 8 0 0),(2,.ptr 9 0 0),(3,.ptr 10 0 0),(4,.ptr 11 0 0),(5,.asl 8 23 42 8),(6,vi_),(7,.Q1h 8 23 42 8 0),(8,.ptr 12 0 0),(9,vb_),(30,vi_),(31,vi_)],(8,.obj .Q7)::(9,.Q6N .QC)::(10,.Q1P true .Q1L)::(11,.Q1P true .bool)::(12,.obj .QC)::Q62⟩)]
def K26.JC31:Qm U:= [(.normal,⟨200,10,[(0,.ptr 8 0 0),(5,.asl 8 23 42 8),(12,.ptr 9 0 0),(15,vb_),(119,.val (.isl .int)),(120,vi_),(121,vi_)],(8,.obj .Q7)::(9,.obj .Q1F)::Q62⟩)]
def K26.JC20:Qm U:= [(.normal,⟨200,11,[(0,.ptr 8 0 0),(2,.ptr 9 0 0),(5,.asl 8 23 42 8),(10,.val (.isl .int)),(12,.ptr 10 0 0),(92,.val (.isl .int)),(93,vi_),(94,vi_)],(8,.obj .Q7)::(9,.Q6N .QC)::(10,.obj .Q1F)::Q62⟩)]
def K26.JC12:Qm U:= [(.normal,⟨200,12,[(0,.ptr 8 0 0),(2,.ptr 9 0 0),(3,.ptr 10 0 0),(4,.ptr 11 0 0),(5,.asl 8 23 42 8),(30,vi_),(31,vi_)],(8,.obj .Q7)::(9,.Q6N .QC)::(10,.Q1P true .Q1L)::(11,.Q1P true .bool)::Q62⟩)]
def K26.H (cK140:Q1j.T) (cK71:K71.T) (cK57:K57.T) (cK61:K61.T) (cK189:Q1E.T) (cK188:Q2K.T) (cK141:Q2x.T) (cK47:K47.T) (cK22:K22.T) (cK103:Q1Z.T) (l0:K26.l0T) (l1:K26.l1T) (l2:K26.l2T):Hints U:={ Γ:=(Qk 87 (Q1Z.sig.native (Q1Z.W cK103)) (Qk 86 (K22.sig.native (K22.W cK22)) (Qk 68 (K47.sig.native (K47.W cK47)) (Qk 85 (Q2x.sig.native (Q2x.W cK141)) (Qk 84 (Q2K.sig.native (Q2K.W cK188)) (Q1E.N cK189 (Qk 82 (K61.sig.native (K61.W cK61)) (Qk 83 (K57.sig.native (K57.W cK57)) (Qk 81 (K71.sig.native (K71.W cK71)) (Q1j.N cK140 (Qk 3000000170 ZG (Qk 3000000169 ZG (Qk 4000000155 ZG noΓ))))))))))))),ro:=0,base:=9,Q1J:=jt_ [(30,[(171,vb_)])],Q2B:=jt_ [(9,K26.JR9),(10,K26.Qa4),(15,K26.Q9w),(29,K26.JR29),(31,K26.JR31),(35,K26.JR35)],Q27:=jt_ [(12,K26.JC12),(20,K26.JC20),(31,K26.JC31),(35,K26.JR35)],loop:=jt_ [(5,(Z9 (0,9) K26.L0 K26.X0 l0)),(17,(Z9 (0,9) K26.L1 K26.X1 l1)),(24,(Z9 (0,9) K26.L2 K26.X2 l2))]}
def K26.Q7O (cK140:Q1j.T) (cK71:K71.T) (cK57:K57.T) (cK61:K61.T) (cK189:Q1E.T) (cK188:Q2K.T) (cK141:Q2x.T) (cK47:K47.T) (cK22:K22.T) (cK103:Q1Z.T) (a:((Nat×Nat)×Bool×(List (Int))×Int×Int×Unit)×(Q1×QY×Q76)):Option ((((Nat×Nat)×Bool×(List (Int))×Int×Int×Unit)×(Q1×QY×Q76))⊕(((Bool×Unit)×(Q1×QY×Q76)))):=
 (bif ilt a.1.2.2.2.2.1 a.1.2.2.2.1 then (bif inR a.1.2.2.2.2.1 (List.length a.1.2.2.1) then (bif inR a.1.2.2.2.2.1 a.1.1.2 then (Q0 (cK140 (a.2.1.Qe (a.1.1.1+Int.toNat a.1.2.2.2.2.1)).Q1u) none λr0=>(bif !r0.1.1 then some (.inl ((a.1.1,(a.1.2.1,(a.1.2.2.1,(a.1.2.2.2.1,(Q4 .i64 a.1.2.2.2.2.1 1,()))))),a.2)) else (Q0 ((Q0 (cK141 (a.2.1.Qe (a.1.1.1+Int.toNat a.1.2.2.2.2.1)).Q1u (List.getD a.1.2.2.1 (Int.toNat a.1.2.2.2.2.1) (0:D UC.int)) a.1.2.1 a.2.1.Qo.Q25) none λr1=>some ((a.1.1,(a.1.2.1,(List.getD a.1.2.2.1 (Int.toNat a.1.2.2.2.2.1) (0:D UC.int),(a.1.1.1+Int.toNat a.1.2.2.2.2.1,((a.2.1.Qe (a.1.1.1+Int.toNat a.1.2.2.2.2.1)).Q1u,a.1.2.2))))),(Q1.QU a.2.1 (Qr a.2.1.Qe (a.1.1.1+Int.toNat a.1.2.2.2.2.1) (Q5.Q3Q (a.2.1.Qe (a.1.1.1+Int.toNat a.1.2.2.2.2.1)) r1.1.1)),a.2.2)))) none λr2=>(Q0 ((bif ine (r2.2.1.Qe r2.1.2.2.2.1).Q1u r2.1.2.2.2.2.1 then some (true,()) else (bif ieq (r2.2.1.Qe r2.1.2.2.2.1).Q1u 8 then (bif ieq r2.1.2.2.1 6 then some (!r2.1.2.1,()) else some (false,())) else some (false,())))) none λr3=>(Q0 ((bif r3.1 then (Q0 ((Q0 (cK47 (!r2.2.1.Qo.Q4g) (r2.2.1.Qe r2.1.2.2.2.1) r2.2.2.2.2.1 r2.2.2.2.2.2.2.1) none λr4=>some ((r2.1.1,(r2.1.2.1,(r2.1.2.2.2.1,r2.1.2.2.2.2.2))),(Q1.QU r2.2.1 (Qr r2.2.1.Qe r2.1.2.2.2.1 r4.2.1.1),(r2.2.2.1,(r2.2.2.2.1,(r4.2.1.2.1,(r2.2.2.2.2.2.1,r4.2.1.2.2)))))))) none λr5=>(Q0 (cK22 r5.1.2.2.1 r5.2.2.1 r5.2.1) none λr6=>some ((r5.1.1,(r5.1.2.1,r5.1.2.2.2)),(r6.2.1.1,r5.2.2)))) else some ((r2.1.1,(r2.1.2.1,r2.1.2.2.2.2.2)),r2.2))) none λr7=>some (.inl ((r7.1.1,(r7.1.2.1,(r7.1.2.2.1,(r7.1.2.2.2.1,(Q4 .i64 r7.1.2.2.2.2.1 1,()))))),r7.2))))))) else none) else none) else some (.inr ((a.1.2.1,()),a.2)))
def K26.F2:K26.l2T:=λa=>Z8 (1000000+(a.1.1.2+a.1.2.2.1.length)) (K26.Q7O Q1j K71 K57 K61 Q1E Q2K Q2x K47 K22 Q1Z) a
def K26.Q2A (cK140:Q1j.T) (cK71:K71.T) (cK57:K57.T) (cK61:K61.T) (cK189:Q1E.T) (cK188:Q2K.T) (cK141:Q2x.T) (cK47:K47.T) (cK22:K22.T) (cK103:Q1Z.T) (a:((Nat×Nat)×(List (Int))×(List (Int))×Int×Int×Unit)×(Q1×(Nat×Nat×(Nat->Qd))×QY×Q76)):Option ((((Nat×Nat)×(List (Int))×(List (Int))×Int×Int×Unit)×(Q1×(Nat×Nat×(Nat->Qd))×QY×Q76))⊕((((Nat×Nat)×(List (Int))×Unit)×(Q1×QY×Q76)))):=
 (bif ilt a.1.2.2.2.2.1 a.1.2.2.2.1 then (bif inR a.1.2.2.2.2.1 (List.length a.1.2.2.1) then (Q0 ((bif ieq (List.getD a.1.2.2.1 (Int.toNat a.1.2.2.2.2.1) (0:D UC.int)) 6 then (bif bif inR a.1.2.2.2.2.1 8 then inR a.1.2.2.2.2.1 a.2.2.1.1 else false then (bif bif inR a.1.2.2.2.2.1 8 then inR a.1.2.2.2.2.1 a.2.2.1.1 else false then (Q0 (cK188 (a.2.2.1.2.2 (Int.toNat a.1.2.2.2.2.1)).Q3r (a.2.2.1.2.2 (Int.toNat a.1.2.2.2.2.1)).Q1b) none λr0=>some (a.1,(a.2.1,(a.2.2.1,(r0.1.1,a.2.2.2.2))))) else none) else none) else some a)) none λr1=>some (.inl ((r1.1.1,(r1.1.2.1,(r1.1.2.2.1,(r1.1.2.2.2.1,(Q4 .i64 r1.1.2.2.2.2.1 1,()))))),r1.2))) else none) else some (.inr ((a.1.1,(a.1.2.1,())),(a.2.1,a.2.2.2))))
def K26.F1:K26.l1T:=λa=>Z8 (1000000+(a.1.1.2+a.1.2.1.length+a.1.2.2.1.length)) (K26.Q2A Q1j K71 K57 K61 Q1E Q2K Q2x K47 K22 Q1Z) a
def K26.QO (cK140:Q1j.T) (cK71:K71.T) (cK57:K57.T) (cK61:K61.T) (cK189:Q1E.T) (cK188:Q2K.T) (cK141:Q2x.T) (cK47:K47.T) (cK22:K22.T) (cK103:Q1Z.T) (a:((Nat×Nat)×Int×Int×Unit)×(Q1×(Nat×Nat×(Nat->Qd))×(Nat×(Nat->Option (Qj)))×Q9Z)):Option ((((Nat×Nat)×Int×Int×Unit)×(Q1×(Nat×Nat×(Nat->Qd))×(Nat×(Nat->Option (Qj)))×Q9Z))⊕((((Nat×Nat)×Unit)×(Q1×(Nat×Nat×(Nat->Qd))×(Nat×(Nat->Option (Qj)))×Q9Z)))):=
 (bif ilt a.1.2.2.1 a.1.2.1 then (bif inR a.1.2.2.1 a.1.1.2 then (Q0 (cK140 (a.2.1.Qe (a.1.1.1+Int.toNat a.1.2.2.1)).Q1u) none λr0=>(bif !r0.1.1 then some (.inl ((a.1.1,(a.1.2.1,(Q4 .i64 a.1.2.2.1 1,()))),a.2)) else (Q0 ((Q0 ((a.2.1.Qe (a.1.1.1+Int.toNat a.1.2.2.1)).2) none λr1=>(Q0 (cK71 a.2.1.Q5s (a.2.2.2.2.2.1.2 r1)) none λr2=>some ((a.1.1,(a.1.2.2.1,(a.1.1.1+Int.toNat a.1.2.2.1,(r2.1.2.1,a.1.2)))),(a.2.1,(a.2.2.1,(a.2.2.2.1,(a.2.2.2.2.1,(r2.1.1,a.2.2.2.2.2))))))))) none λr3=>(Q0 ((bif bif inR r3.1.2.1 8 then inR r3.1.2.1 r3.2.2.1.1 else false then (bif Nat.ble r3.2.2.1.2.1 (Int.toNat r3.1.2.1) then (bif bif inR r3.1.2.1 8 then inR r3.1.2.1 r3.2.2.2.2.1.1 else false then some ((r3.1.1,(r3.1.2.1,r3.1.2.2.2)),(r3.2.1,((r3.2.2.1.1,(r3.2.2.1.2.1,Qr r3.2.2.1.2.2 (Int.toNat r3.1.2.1) r3.2.2.2.2.2.1)),(r3.2.2.2.1,((r3.2.2.2.2.1.1,Qr r3.2.2.2.2.1.2 (Int.toNat r3.1.2.1) (ieq (r3.2.1.Qe r3.1.2.2.1).Q1u 4)),r3.2.2.2.2.2.2))))) else none) else none) else none)) none λr4=>(Q0 ((bif r4.1.2.2.1 then (bif bif inR r4.1.2.1 8 then inR r4.1.2.1 r4.2.2.1.1 else false then (bif bif inR r4.1.2.1 8 then inR r4.1.2.1 r4.2.2.2.1.1 else false then some ((r4.1.1,r4.1.2.2.2),(r4.2.1,((r4.2.2.1.1,(Nat.max r4.2.2.1.2.1 (Int.toNat r4.1.2.1+1),r4.2.2.1.2.2)),((r4.2.2.2.1.1,Qr r4.2.2.2.1.2 (Int.toNat r4.1.2.1) (some (r4.2.2.1.2.2 (Int.toNat r4.1.2.1)).Q3r)),r4.2.2.2.2)))) else none) else none) else some ((r4.1.1,r4.1.2.2.2),r4.2))) none λr5=>some (.inl ((r5.1.1,(r5.1.2.1,(Q4 .i64 r5.1.2.2.1 1,()))),r5.2))))))) else none) else some (.inr ((a.1.1,()),a.2)))
def K26.F0:K26.l0T:=λa=>Z8 (1000000+(a.1.1.2)) (K26.QO Q1j K71 K57 K61 Q1E Q2K Q2x K47 K22 Q1Z) a
def K26.gen (cK140:Q1j.T) (cK71:K71.T) (cK57:K57.T) (cK61:K61.T) (cK189:Q1E.T) (cK188:Q2K.T) (cK141:Q2x.T) (cK47:K47.T) (cK22:K22.T) (cK103:Q1Z.T) (l0:K26.l0T) (l1:K26.l1T) (l2:K26.l2T):K26.T:=λh0 g2 g3 g5 g6=>
 (bif le3 (ofN 0) h0.Qo.Qv 8 then (Q0 (l0 (((Int.toNat (ofN 0),Int.toNat h0.Qo.Qv - Int.toNat (ofN 0)),ofN (Int.toNat h0.Qo.Qv - Int.toNat (ofN 0)),(0:Int),()),h0,(8,0,λ(j:Nat)=>List.getD (Qd.mk z6_ z4_ 0 0 0::Qd.mk z6_ z4_ 0 0 0::Qd.mk z6_ z4_ 0 0 0::Qd.mk z6_ z4_ 0 0 0::Qd.mk z6_ z4_ 0 0 0::Qd.mk z6_ z4_ 0 0 0::Qd.mk z6_ z4_ 0 0 0::Qd.mk z6_ z4_ 0 0 0::Qn Qd) j Qd.zero),(8,λ(j:Nat)=>List.getD (none::none::none::none::none::none::none::none::Qn (Option Qj)) j none),(8,λ(j:Nat)=>List.getD (false::false::false::false::false::false::false::false::Qn Bool) j false),g2,g3,g5,g6,())) none λr0=>(Q0 (cK57 r0.2.1.Qo) none λr1=>(bif bif le3 0 (ofN r0.1.1.2) 8 then le3 0 (ofN r0.1.1.2) r0.2.2.2.2.1.1 else false then (bif bif le3 0 (ofN r0.1.1.2) 8 then le3 0 (ofN r0.1.1.2) r0.2.2.2.1.1 else false then (Q0 (cK61 r1.1.1 (List.map r0.2.2.2.2.1.2 (List.range (Int.toNat (ofN r0.1.1.2)))) (List.map r0.2.2.2.1.2 (List.range (Int.toNat (ofN r0.1.1.2))))) none λr2=>(Q0 ((Q0 (cK189 r0.2.1.Qo) none λr3=>some ((r0.1.1,(r2.1.1,())),(r0.2.1,(r0.2.2.1,(r3.1.1,r0.2.2.2.2.2)))))) none λr4=>(Q0 (l1 ((r4.1.1,r4.1.2.1,r4.1.2.1,ofN (List.length r4.1.2.1),(0:Int),()),r4.2)) none λr5=>(Q0 (l2 ((r5.1.1,bif ieq r5.2.2.1.QW.QF r5.2.1.Q2d.QW.QF then bif ieq r5.2.2.1.QW.QW r5.2.1.Q2d.QW.QW then true else false else false,r5.1.2.1,ofN (List.length r5.1.2.1),(0:Int),()),r5.2)) none λr6=>(Q0 ((bif !r6.1.1 then (Q0 ((Q0 (r6.2.1.6) none λr7=>(Q0 (cK103 (r6.2.2.2.2.2.1.2 r7)) none λr8=>some ((),(r6.2.1,(r6.2.2.1,(r6.2.2.2.1,(r6.2.2.2.2.1,((r6.2.2.2.2.2.1.1,Qr r6.2.2.2.2.2.1.2 r7 r8.2.1.1),r6.2.2.2.2.2.2))))))))) none λr9=>some ((),(Q1.Q6Q r9.2.1 z5_,r9.2.2))) else some ((),r6.2))) none λr10=>some ((),((Q1.Q4l r10.2.1 r10.2.2.1,r10.2.2.2),()))))))) else none) else none))) else none)
def K26:K26.T:=K26.gen Q1j K71 K57 K61 Q1E Q2K Q2x K47 K22 Q1Z K26.F0 K26.F1 K26.F2
theorem K26.seq2 (cK140:Q1j.T) (cK71:K71.T) (cK57:K57.T) (cK61:K61.T) (cK189:Q1E.T) (cK188:Q2K.T) (cK141:Q2x.T) (cK47:K47.T) (cK22:K22.T) (cK103:Q1Z.T) (l0:K26.l0T) (l1:K26.l1T) (l2:K26.l2T) (a:K26.L2.T):run Tryz.prog (K26.H cK140 cK71 cK57 cK61 cK189 cK188 cK141 cK47 cK22 cK103 l0 l1 l2) 6 (Option (K26.L2.T⊕ExT K26.X2)) none K26.B2 (K26.L2.enc a) (Zi (0,9) K26.L2 K26.X2)=K26.Q7O cK140 cK71 cK57 cK61 cK189 cK188 cK141 cK47 cK22 cK103 a:=by kernel_rfl
abbrev K26.h:=K26.H Q1j K71 K57 K61 Q1E Q2K Q2x K47 K22 Q1Z K26.F0 K26.F1 K26.F2
theorem K26.QaX:LO_ K26.h K26.B2 (Z9 (0,9) K26.L2 K26.X2 K26.F2):=lk_ (hn_ (Z0 (Z0 (Z0 (Z0 (Z0 (Z0 (Z0 (Z0 (Z0 (Z0 (Z0 (Z0 (Z0 Z2 Zc) Zc) Zc) Q1j.ok) K71.ok) K57.ok) K61.ok) Q1E.ok) Q2K.ok) Q2x.ok) K47.ok) K22.ok) Q1Z.ok)) (K26.seq2 Q1j K71 K57 K61 Q1E Q2K Q2x K47 K22 Q1Z K26.F0 K26.F1 K26.F2)
theorem K26.seq1 (cK140:Q1j.T) (cK71:K71.T) (cK57:K57.T) (cK61:K61.T) (cK189:Q1E.T) (cK188:Q2K.T) (cK141:Q2x.T) (cK47:K47.T) (cK22:K22.T) (cK103:Q1Z.T) (l0:K26.l0T) (l1:K26.l1T) (l2:K26.l2T) (a:K26.L1.T):run Tryz.prog (K26.H cK140 cK71 cK57 cK61 cK189 cK188 cK141 cK47 cK22 cK103 l0 l1 l2) 6 (Option (K26.L1.T⊕ExT K26.X1)) none K26.B1 (K26.L1.enc a) (Zi (0,9) K26.L1 K26.X1)=K26.Q2A cK140 cK71 cK57 cK61 cK189 cK188 cK141 cK47 cK22 cK103 a:=by kernel_rfl
theorem K26.Q5h:LO_ K26.h K26.B1 (Z9 (0,9) K26.L1 K26.X1 K26.F1):=lk_ (hn_ (Z0 (Z0 (Z0 (Z0 (Z0 (Z0 (Z0 (Z0 (Z0 (Z0 (Z0 (Z0 (Z0 Z2 Zc) Zc) Zc) Q1j.ok) K71.ok) K57.ok) K61.ok) Q1E.ok) Q2K.ok) Q2x.ok) K47.ok) K22.ok) Q1Z.ok)) (K26.seq1 Q1j K71 K57 K61 Q1E Q2K Q2x K47 K22 Q1Z K26.F0 K26.F1 K26.F2)
theorem K26.Q24 (cK140:Q1j.T) (cK71:K71.T) (cK57:K57.T) (cK61:K61.T) (cK189:Q1E.T) (cK188:Q2K.T) (cK141:Q2x.T) (cK47:K47.T) (cK22:K22.T) (cK103:Q1Z.T) (l0:K26.l0T) (l1:K26.l1T) (l2:K26.l2T) (a:K26.L0.T):run Tryz.prog (K26.H cK140 cK71 cK57 cK61 cK189 cK188 cK141 cK47 cK22 cK103 l0 l1 l2) 6 (Option (K26.L0.T⊕ExT K26.X0)) none K26.B0 (K26.L0.enc a) (Zi (0,9) K26.L0 K26.X0)=K26.QO cK140 cK71 cK57 cK61 cK189 cK188 cK141 cK47 cK22 cK103 a:=by kernel_rfl
theorem K26.Q1V:LO_ K26.h K26.B0 (Z9 (0,9) K26.L0 K26.X0 K26.F0):=lk_ (hn_ (Z0 (Z0 (Z0 (Z0 (Z0 (Z0 (Z0 (Z0 (Z0 (Z0 (Z0 (Z0 (Z0 Z2 Zc) Zc) Zc) Q1j.ok) K71.ok) K57.ok) K61.ok) Q1E.ok) Q2K.ok) Q2x.ok) K47.ok) K22.ok) Q1Z.ok)) (K26.Q24 Q1j K71 K57 K61 Q1E Q2K Q2x K47 K22 Q1Z K26.F0 K26.F1 K26.F2)
theorem K26.eq (cK140:Q1j.T) (cK71:K71.T) (cK57:K57.T) (cK61:K61.T) (cK189:Q1E.T) (cK188:Q2K.T) (cK141:Q2x.T) (cK47:K47.T) (cK22:K22.T) (cK103:Q1Z.T) (l0:K26.l0T) (l1:K26.l1T) (l2:K26.l2T):EqA K26.sig (K26.H cK140 cK71 cK57 cK61 cK189 cK188 cK141 cK47 cK22 cK103 l0 l1 l2) Tryz.f51 6 (K26.W (K26.gen cK140 cK71 cK57 cK61 cK189 cK188 cK141 cK47 cK22 cK103 l0 l1 l2)):=by intro a x;kernel_rfl
theorem K26.loops:Z3 K26.C= [(.loop K26.B0),(.loop K26.B1),(.loop K26.B2)]:=by kernel_rfl
theorem K26.ok:NK_ 51 K26.sig (K26.W K26):=ok_ Tryz.func51 (K26.eq Q1j K71 K57 K61 Q1E Q2K Q2x K47 K22 Q1Z K26.F0 K26.F1 K26.F2) (hl_ (Z0 (Z0 (Z0 (Z0 (Z0 (Z0 (Z0 (Z0 (Z0 (Z0 (Z0 (Z0 (Z0 Z2 Zc) Zc) Zc) Q1j.ok) K71.ok) K57.ok) K61.ok) Q1E.ok) Q2K.ok) Q2x.ok) K47.ok) K22.ok) Q1Z.ok) (Z7 (by kernel_rfl) K26.Q1V (Z7 (by kernel_rfl) K26.Q5h (Z7 (by kernel_rfl) K26.QaX Z5)))) K26.loops
def Q4u.sig:Sig U:=⟨[.data .Q1e,.data .Q1F,.int .i64,.int .i64],[],0,[.data .Ql],false,[]⟩
abbrev Q4u.T:Type:=(Q8)->(QY)->(Int)->(Int)->Option ((Q9×Unit)×Unit×Unit)
def Q4u.W (f:Q4u.T):Q4u.sig.F:=λa x=>f a.1 a.2.1 a.2.2.1 a.2.2.2.1
def Q4u.H:Hints U:={ Γ:=noΓ,ro:=0,base:=8}
def Q4u.gen:Q4u.T:=λc p port seq=>
 some ((Q9.mk 11 c.Q1v p.Q1b.Q1W 0 (Qf.mk c.QF port) seq c.Q3z 0 z0_ p.Q1b.Q37 p.Q17 p.Qu p.Q18 p.Q2Q p.Q2g p.Q1b.Q1N 0 0 0,()),((),()))
def Q4u:Q4u.T:=Q4u.gen
theorem Q4u.ok:NK_ 88 Q4u.sig (Q4u.W Q4u):=ok_ (H:=Q4u.H) (n:=6) Tryz.func88 (by intro a x;kernel_rfl) (hn_ Z2)
def Q1q.sig:Sig U:=⟨[.isl .u64],[],0,[.data .QX,.bool],true,[]⟩
abbrev Q1q.T:Type:=(List (Int))->Option ((Qi×Bool×Unit)×Unit×Unit)
def Q1q.W (f:Q1q.T):Q1q.sig.F:=λa x=>f a.1
def Q1q.L0:Shape U:=⟨24,9,[(2,.ptr 8 0 0),(4,.val (.isl .u8)),(11,.val (.isl .u64)),(12,vi_),(13,vi_)],[(8,.obj .QX)]⟩
def Q1q.X0:Qm U:= [(.exit 0,⟨24,9,[(2,.ptr 8 0 0),(4,.val (.isl .u8))],[(8,.obj .QX)]⟩)]
abbrev Q1q.l0T:Type:=(((List (UInt8))×(List (Int))×Int×Int×Unit)×(Qi×Unit))->Option ((((List (UInt8))×Unit)×(Qi×Unit)))
def Q1q.C:Code:=match Tryz.f134.body with|some c=>c|none=>.skip
def Q1q.B0:Code:=match (Z3 Q1q.C).getD 0 .skip with| .loop b=>b| .scope b=>b|_=>.skip
def Q1q.H (cK122:Q1U.T) (l0:Q1q.l0T):Hints U:={ Γ:=(Q1U.N cK122 noΓ),ro:=0,base:=8,loop:=jt_ [(5,(Z9 (0,8) Q1q.L0 Q1q.X0 l0))]}
def Q1q.QO (cK122:Q1U.T) (a:((List (UInt8))×(List (Int))×Int×Int×Unit)×(Qi×Unit)):Option ((((List (UInt8))×(List (Int))×Int×Int×Unit)×(Qi×Unit))⊕((((List (UInt8))×Unit)×(Qi×Unit)))):=
 (bif ilt a.1.2.2.2.1 a.1.2.2.1 then (bif inR a.1.2.2.2.1 (List.length a.1.2.1) then (Q0 (cK122 a.1.1 (List.getD a.1.2.1 (Int.toNat a.1.2.2.2.1) (0:D UC.u64))) none λr0=>some (.inl ((r0.1.1,(a.1.2.1,(a.1.2.2.1,(Q4 .i64 a.1.2.2.2.1 1,())))),a.2))) else none) else some (.inr ((a.1.1,()),a.2)))
def Q1q.F0:Q1q.l0T:=λa=>Z8 (1000000+(a.1.1.length+a.1.2.1.length)) (Q1q.QO Q1U) a
def Q1q.gen (cK122:Q1U.T) (l0:Q1q.l0T):Q1q.T:=λl=>
 (bif ilt 16 (ofN (List.length l)) then some ((Qi.mk 0 (ByteArray.mk (List.toArray (Qn UInt8))),(false,())),((),())) else (Q0 (l0 ((Qn UInt8,l,ofN (List.length l),(0:Int),()),Qi.mk 0 (ByteArray.mk (List.toArray (Qn UInt8))),())) none λr0=>some ((Qi.mk 8 (ByteArray.mk (List.toArray r0.1.1)),(true,())),((),()))))
def Q1q:Q1q.T:=Q1q.gen Q1U Q1q.F0
theorem Q1q.Q24 (cK122:Q1U.T) (l0:Q1q.l0T) (a:Q1q.L0.T):run Tryz.prog (Q1q.H cK122 l0) 6 (Option (Q1q.L0.T⊕ExT Q1q.X0)) none Q1q.B0 (Q1q.L0.enc a) (Zi (0,8) Q1q.L0 Q1q.X0)=Q1q.QO cK122 a:=by kernel_rfl
abbrev Q1q.h:=Q1q.H Q1U Q1q.F0
theorem Q1q.Q1V:LO_ Q1q.h Q1q.B0 (Z9 (0,8) Q1q.L0 Q1q.X0 Q1q.F0):=lk_ (hn_ (Z0 Z2 Q1U.ok)) (Q1q.Q24 Q1U Q1q.F0)
theorem Q1q.eq (cK122:Q1U.T) (l0:Q1q.l0T):EqA Q1q.sig (Q1q.H cK122 l0) Tryz.f134 6 (Q1q.W (Q1q.gen cK122 l0)):=by intro a x;kernel_rfl
theorem Q1q.loops:Z3 Q1q.C= [(.loop Q1q.B0)]:=by kernel_rfl
theorem Q1q.ok:NK_ 134 Q1q.sig (Q1q.W Q1q):=ok_ Tryz.func134 (Q1q.eq Q1U Q1q.F0) (hl_ (Z0 Z2 Q1U.ok) (Z7 (by kernel_rfl) Q1q.Q1V Z5)) Q1q.loops
def K35.sig:Sig U:=⟨[.ptr],[.obj .Q7,.fam 7 (.map true false .Qw .Q1R)],2,[.isl .QX],false,[]⟩
abbrev K35.T:Type:=(Q1)->(Nat×(Nat->List (Qf×List (Int))))->Option (((List (Qi))×Unit)×Unit×Unit)
def K35.W (f:K35.T):K35.sig.F:=λa x=>f x.1 x.2.1
def K35.L1:Shape U:=⟨65,9,[(0,.ptr 8 0 0),(3,.full .u64),(24,vi_),(25,vi_)],[(8,.obj .Q7),(7,.Q3K true false .Qw .Q1R)]⟩
def K35.X1:Qm U:= [(.exit 0,⟨65,10,[(0,.ptr 8 0 0),(3,.own .u64 9)],[(8,.obj .Q7),(9,.tok),(7,.Q3K true false .Qw .Q1R)]⟩)]
abbrev K35.l1T:Type:=(((List (Int))×Int×Int×Unit)×(Q1×(Nat×(Nat->List (Qf×List (Int))))×Unit))->Option ((((List (Int))×Unit)×(Q1×(Nat×(Nat->List (Qf×List (Int))))×Unit)))
def K35.C:Code:=match Tryz.f89.body with|some c=>c|none=>.skip
def K35.B0:Code:=match (Z3 K35.C).getD 0 .skip with| .loop b=>b| .scope b=>b|_=>.skip
def K35.B1:Code:=match (Z3 K35.C).getD 1 .skip with| .loop b=>b| .scope b=>b|_=>.skip
def K35.Q7P:Qm U:= [(.normal,⟨65,10,[(7,.ptr 9 0 0),(8,vb_)],[(8,.obj .Q7),(9,.obj .QX),(7,.Q3K true false .Qw .Q1R)]⟩)]
def K35.H (cK184:Q1q.T) (l1:K35.l1T):Hints U:={ Γ:=(Qk 134 (Q1q.sig.native (Q1q.W cK184)) (Qk 5000000021 ZG noΓ)),ro:=9,base:=9,Q2B:=jt_ [(11,K35.Q7P)],loop:=jt_ [(5,(Z9 (9,9) K35.L1 K35.X1 l1))]}
def K35.Q2A (cK184:Q1q.T) (a:((List (Int))×Int×Int×Unit)×(Q1×(Nat×(Nat->List (Qf×List (Int))))×Unit)):Option ((((List (Int))×Int×Int×Unit)×(Q1×(Nat×(Nat->List (Qf×List (Int))))×Unit))⊕((((List (Int))×Unit)×(Q1×(Nat×(Nat->List (Qf×List (Int))))×Unit)))):=
 (bif ilt a.1.2.2.1 a.1.2.1 then (bif inR a.1.2.2.1 8 then (Q0 ((Q0 ((a.2.1.Qe (Int.toNat a.1.2.2.1)).3) none λr0=>((@Z1Y U Go.Proofs.Tryz.prog 49 UC.Qw UC.Q1R (a.2.1.Q2d.QW) (a.2.2.1.2 r0)):Option (Option (List Int))))) none λ(r1:Option (List Int))=>(bif Option.isSome r1 then (bif room (List.length a.1.1+List.length (Option.getD r1 (Qn Int))) 8 then some (.inr ((a.1.1++Option.getD r1 (Qn Int),()),a.2)) else none) else some (.inl ((a.1.1,(a.1.2.1,(Q4 .i64 a.1.2.2.1 1,()))),a.2)))) else none) else some (.inr ((a.1.1,()),a.2)))
def K35.F1:K35.l1T:=λa=>Z8 (1000000+(a.1.1.length)) (K35.Q2A Q1q) a
def K35.gen (cK184:Q1q.T) (l1:K35.l1T):K35.T:=λh0 g7=>
 (bif !h0.Qo.Q6j then some ((Qn Qi,()),((),())) else (bif le3 (ofN 0) h0.Qo.Qv 8 then (Q0 (l1 ((Qn Int,ofN (Int.toNat h0.Qo.Qv - Int.toNat (ofN 0)),(0:Int),()),h0,g7,())) none λr0=>(Q0 ((bif room (List.length r0.1.1+List.length (r0.2.1.Qo.QF::Qn Int)) 8 then (Q0 (cK184 (r0.1.1++r0.2.1.Qo.QF::Qn Int)) none λr1=>some (r1.1.2,(r0.2.1,(r1.1.1,r0.2.2)))) else none)) none λr2=>(bif !r2.1.1 then some ((Qn Qi,()),((),())) else some ((r2.2.2.1::Qn Qi,()),((),()))))) else none))
def K35:K35.T:=K35.gen Q1q K35.F1
theorem K35.seq1 (cK184:Q1q.T) (l1:K35.l1T) (a:K35.L1.T):run Tryz.prog (K35.H cK184 l1) 6 (Option (K35.L1.T⊕ExT K35.X1)) none K35.B1 (K35.L1.enc a) (Zi (9,9) K35.L1 K35.X1)=K35.Q2A cK184 a:=by kernel_rfl
abbrev K35.h:=K35.H Q1q K35.F1
theorem K35.Q5h:LO_ K35.h K35.B1 (Z9 (9,9) K35.L1 K35.X1 K35.F1):=lk_ (hn_ (Z0 (Z0 Z2 Zc) Q1q.ok)) (K35.seq1 Q1q K35.F1)
theorem K35.eq (cK184:Q1q.T) (l1:K35.l1T):EqA K35.sig (K35.H cK184 l1) Tryz.f89 6 (K35.W (K35.gen cK184 l1)):=by intro a x;kernel_rfl
theorem K35.loops:Z3 K35.C= [(.scope K35.B0),(.loop K35.B1)]:=by kernel_rfl
theorem K35.ok:NK_ 89 K35.sig (K35.W K35):=ok_ Tryz.func89 (K35.eq Q1q K35.F1) (hl_ (Z0 (Z0 Z2 Zc) Q1q.ok) (Zt (Z7 (by kernel_rfl) K35.Q5h Z5))) K35.loops
def K34.sig:Sig U:=⟨[.ptr,.int .i64,.data .Ql,.isl .QX,.bool],[.obj .Q7],0,[],true,[]⟩
abbrev K34.T:Type:=(Int)->(Q9)->(List (Qi))->(Bool)->(Q1)->Option (Unit×(Q1×Unit)×Unit)
def K34.W (f:K34.T):K34.sig.F:=λa x=>f a.2.1 a.2.2.1 a.2.2.2.1 a.2.2.2.2.1 x.1
abbrev K34.N (c:K34.T):=Qk 59 (K34.sig.native (K34.W c))
def K34.H (cK79:K79.T):Hints U:={ Γ:=(Qk 33 (K79.sig.native (K79.W cK79)) noΓ),ro:=0,base:=9}
def K34.gen (cK79:K79.T):K34.T:=λn m l want h0=>
 (Q0 (cK79 m l) none λr0=>(bif r0.1.2.1 then (bif room (List.length h0.Q2j+List.length (QJ.mk 1 n 0 want m.fType m.Q36 r0.1.1::Qn QJ)) 64 then some ((),((Q1.Q13 h0 (h0.Q2j++QJ.mk 1 n 0 want m.fType m.Q36 r0.1.1::Qn QJ),()),())) else none) else some ((),((h0,()),()))))
def K34:K34.T:=K34.gen K79
theorem K34.eq (cK79:K79.T):EqA K34.sig (K34.H cK79) Tryz.f59 6 (K34.W (K34.gen cK79)):=by intro a x;kernel_rfl
theorem K34.ok:NK_ 59 K34.sig (K34.W K34):=ok_ Tryz.func59 (K34.eq K79) (hn_ (Z0 Z2 K79.ok))
def Q4v.sig:Sig U:=⟨[.int .i64],[],0,[.int .i64],false,[]⟩
abbrev Q4v.T:Type:=(Int)->Option ((Int×Unit)×Unit×Unit)
def Q4v.W (f:Q4v.T):Q4v.sig.F:=λa x=>f a.1
def Q4v.H:Hints U:={ Γ:=noΓ,ro:=0,base:=8}
def Q4v.gen:Q4v.T:=λseq=>
 some ((Q5p .i64 (Q4 .i64 (Q5p .i64 seq 65535) 1) 65535,()),((),()))
def Q4v:Q4v.T:=Q4v.gen
theorem Q4v.ok:NK_ 90 Q4v.sig (Q4v.W Q4v):=ok_ (H:=Q4v.H) (n:=6) Tryz.func90 (by intro a x;kernel_rfl) (hn_ Z2)
def Q26.sig:Sig U:=⟨[.ptr],[.obj .Q15],0,[],true,[]⟩
abbrev Q26.T:Type:=(Qc)->Option (Unit×(Qc×Unit)×Unit)
def Q26.W (f:Q26.T):Q26.sig.F:=λa x=>f x.1
abbrev Q26.N (c:Q26.T):=Qk 69 (Q26.sig.native (Q26.W c))
def Q26.H:Hints U:={ Γ:=noΓ,ro:=0,base:=9}
def Q26.gen:Q26.T:=λh0=>
 some ((),((Qc.mk h0.Q5V h0.Q6Y 0 0 false false false false z2_ 0,()),()))
def Q26:Q26.T:=Q26.gen
theorem Q26.ok:NK_ 69 Q26.sig (Q26.W Q26):=ok_ (H:=Q26.H) (n:=6) Tryz.func69 (by intro a x;kernel_rfl) (hn_ Z2)
def Q3W.sig:Sig U:=⟨[.ptr,.int .i64],[.obj .Q15],0,[.data .Ql],false,[]⟩
abbrev Q3W.T:Type:=(Int)->(Qc)->Option ((Q9×Unit)×(Qc×Unit)×Unit)
def Q3W.W (f:Q3W.T):Q3W.sig.F:=λa x=>f a.2.1 x.1
def Q3W.H (cK132:Q26.T):Hints U:={ Γ:=(Q26.N cK132 noΓ),ro:=0,base:=9}
def Q3W.gen (cK132:Q26.T):Q3W.T:=λseq h0=>
 (Q0 (cK132 h0) none λr0=>some ((Q9.mk 2 r0.2.1.1.Q6Y 0 0 r0.2.1.1.Q5V (Q5p .i64 seq 65535) 127 0 z0_ 0 0 z1_ 0 0 0 0 0 0 0,()),((Qc.Qce (Qc.Qcd r0.2.1.1 (Q5p .i64 seq 65535)) true,()),())))
def Q3W:Q3W.T:=Q3W.gen Q26
theorem Q3W.eq (cK132:Q26.T):EqA Q3W.sig (Q3W.H cK132) Tryz.f135 6 (Q3W.W (Q3W.gen cK132)):=by intro a x;kernel_rfl
theorem Q3W.ok:NK_ 135 Q3W.sig (Q3W.W Q3W):=ok_ Tryz.func135 (Q3W.eq Q26) (hn_ (Z0 Z2 Q26.ok))
def K65.sig:Sig U:=⟨[.ptr,.int .i64,.int .i64],[.obj .Q14],0,[.data .Ql],false,[]⟩
abbrev K65.T:Type:=(Int)->(Int)->(Qg)->Option ((Q9×Unit)×(Qg×Unit)×Unit)
def K65.W (f:K65.T):K65.sig.F:=λa x=>f a.2.1 a.2.2.1 x.1
def K65.H:Hints U:={ Γ:=noΓ,ro:=0,base:=9}
def K65.gen:K65.T:=λseq a_2 h0=>
 some ((Q9.mk 1 h0.Q6Y 0 0 h0.Q5V (Q5p .i64 seq 65535) 127 0 z0_ 0 0 z1_ 0 0 0 0 0 0 0,()),((Qg.Qa2 h0 (Q12.mk (Q5p .i64 seq 65535) 0 true false),()),()))
def K65:K65.T:=K65.gen
theorem K65.ok:NK_ 136 K65.sig (K65.W K65):=ok_ (H:=K65.H) (n:=6) Tryz.func136 (by intro a x;kernel_rfl) (hn_ Z2)
def K48.sig:Sig U:=⟨[.ptr,.bool],[.obj .QI,Q51,Q5o],0,[.data .Ql],false,[]⟩
abbrev K48.T:Type:=(Bool)->(Q5)->(Fm Qg)->(Fm Qc)->Option ((Q9×Unit)×(Q5×(Fm Qg)×(Fm Qc)×Unit)×Unit)
def K48.W (f:K48.T):K48.sig.F:=λa x=>f a.2.1 x.1 x.2.1 x.2.2.1
def K48.JR2:Qm U:= [(.normal,⟨24,10,[(4,.ptr 9 0 0)],[(8,.obj .QI),(9,.obj .Ql),(3,.Q1P false .Q14),(4,.Q1P false .Q15)]⟩)]
def K48.H (cK134:Q3W.T) (cK65:K65.T):Hints U:={ Γ:=(Qk 136 (K65.sig.native (K65.W cK65)) (Qk 135 (Q3W.sig.native (Q3W.W cK134)) noΓ)),ro:=0,base:=9,Q2B:=jt_ [(2,K48.JR2)]}
def K48.gen (cK134:Q3W.T) (cK65:K65.T):K48.T:=λpeer h0 g3 g4=>
 (bif peer then (Q0 ((Q0 (h0.14) none λr0=>(Q0 (cK134 h0.Q65 (g4.2 r0)) none λr1=>some ((),(h0,(r1.1.1,(g3,((g4.1,Qr g4.2 r0 r1.2.1.1),())))))))) none λr2=>some ((r2.2.2.1,()),((r2.2.1,r2.2.2.2),()))) else (Q0 (h0.13) none λr3=>(Q0 (cK65 h0.Q65 0 (g3.2 r3)) none λr4=>some (r4.1,((h0,((g3.1,Qr g3.2 r3 r4.2.1.1),(g4,()))),())))))
def K48:K48.T:=K48.gen Q3W K65
theorem K48.eq (cK134:Q3W.T) (cK65:K65.T):EqA K48.sig (K48.H cK134 cK65) Tryz.f91 6 (K48.W (K48.gen cK134 cK65)):=by intro a x;kernel_rfl
theorem K48.ok:NK_ 91 K48.sig (K48.W K48):=ok_ Tryz.func91 (K48.eq Q3W K65) (hn_ (Z0 (Z0 Z2 Q3W.ok) K65.ok))
def K41.sig:Sig U:=⟨[.ptr,.int .i64,.int .i64],[.obj .Q7,Q51,Q5o,.fam 7 (.map true false .Qw .Q1R)],0,[],true,[]⟩
abbrev K41.T:Type:=(Int)->(Int)->(Q1)->(Fm Qg)->(Fm Qc)->(Nat×(Nat->List (Qf×List (Int))))->Option (Unit×(Q1×(Fm Qg)×(Fm Qc)×(Nat×(Nat->List (Qf×List (Int))))×Unit)×Unit)
def K41.W (f:K41.T):K41.sig.F:=λa x=>f a.2.1 a.2.2.1 x.1 x.2.1 x.2.2.1 x.2.2.2.1
def K41.Q5X:Qm U:= [(.normal,⟨179,9,[(0,.ptr 8 0 0),(6,.Q1h 8 23 42 8 0)],(8,.obj .Q7)::Q7n⟩)]
def K41.JR18:Qm U:= [(.normal,⟨179,10,[(0,.ptr 8 0 0),(1,vi_),(6,.Q1h 8 23 42 8 0),(9,.ptr 9 0 0)],(8,.obj .Q7)::(9,.obj .Ql)::Q7n⟩)]
def K41.Q7q:Qm U:= [(.normal,⟨179,9,[(0,.ptr 8 0 0),(1,vi_),(6,.Q1h 8 23 42 8 0),(143,vb_)],(8,.obj .Q7)::Q7n⟩)]
def K41.Q7P:Qm U:= [(.normal,⟨179,9,[(0,.ptr 8 0 0),(1,vi_),(6,.Q1h 8 23 42 8 0)],(8,.obj .Q7)::Q7n⟩)]
def K41.JR6:Qm U:= [(.normal,⟨179,10,[(0,.ptr 8 0 0),(1,vi_),(2,vi_),(6,.Q1h 8 23 42 8 0),(7,.ptr 9 0 0)],(8,.obj .Q7)::(9,.obj .Ql)::Q7n⟩)]
def K41.JR5:Qm U:= [(.normal,⟨179,9,[(0,.ptr 8 0 0),(1,vi_),(2,vi_),(6,.Q1h 8 23 42 8 0),(67,vb_)],(8,.obj .Q7)::Q7n⟩)]
def K41.JR3:Qm U:= [(.normal,⟨179,9,[(0,.ptr 8 0 0),(1,vi_),(2,vi_),(6,.Q1h 8 23 42 8 0)],(8,.obj .Q7)::Q7n⟩)]
def K41.JR1:Qm U:= [(.normal,⟨179,9,[(0,.ptr 8 0 0),(1,vi_),(2,vi_),(6,.Q1h 8 23 42 8 0),(23,vb_)],(8,.obj .Q7)::Q7n⟩)]
def K41.JC15:Qm U:= [(.normal,⟨179,9,[(0,.ptr 8 0 0),(1,vi_),(6,.Q1h 8 23 42 8 0),(8,vb_)],(8,.obj .Q7)::Q7n⟩)]
def K41.JC8:Qm U:= [(.normal,⟨179,10,[(0,.ptr 8 0 0),(1,vi_),(6,.Q1h 8 23 42 8 0),(7,.ptr 9 0 0)],(8,.obj .Q7)::(9,.obj .Ql)::Q7n⟩)]
def K41.H (cK40:K40.T) (cK176:Q2O.T) (cK190:Q4u.T) (cK35:K35.T) (cK34:K34.T) (cK158:Q4v.T) (cK19:K19.T) (cK174:Q23.T) (cK38:K38.T) (cK172:Q2T.T) (cK142:Q1T.T) (cK140:Q1j.T) (cK48:K48.T):Hints U:={ Γ:=(Qk 91 (K48.sig.native (K48.W cK48)) (Q1j.N cK140 (Q1T.N cK142 (Qk 74 (Q2T.sig.native (Q2T.W cK172)) (K38.N cK38 (Q23.N cK174 (K19.N cK19 (Qk 90 (Q4v.sig.native (Q4v.W cK158)) (K34.N cK34 (Qk 89 (K35.sig.native (K35.W cK35)) (Qk 88 (Q4u.sig.native (Q4u.W cK190)) (Qk 79 (Q2O.sig.native (Q2O.W cK176)) (K40.N cK40 noΓ))))))))))))),ro:=0,base:=9,Q2B:=jt_ [(1,K41.JR1),(2,K41.JR3),(3,K41.JR3),(5,K41.JR5),(6,K41.JR6),(10,K41.Q7P),(11,K41.Q7P),(16,K41.Q7q),(17,K41.JR18),(18,K41.JR18),(19,K41.Q5X),(20,K41.Q5X)],Q27:=jt_ [(2,K41.JR3),(6,K41.Q7P),(8,K41.JC8),(15,K41.JC15)]}
def K41.gen (cK40:K40.T) (cK176:Q2O.T) (cK190:Q4u.T) (cK35:K35.T) (cK34:K34.T) (cK158:Q4v.T) (cK19:K19.T) (cK174:Q23.T) (cK38:K38.T) (cK172:Q2T.T) (cK142:Q1T.T) (cK140:Q1j.T) (cK48:K48.T):K41.T:=λn now h0 g3 g4 g7=>
 (Q0 (cK40 n h0) none λr0=>(Q0 ((bif ieq (h0.Qe r0.1.1).Q1u 6 then (Q0 (cK176 (h0.Qe r0.1.1).Q4Y) none λr1=>some ((n,(now,(r0.1.1,r1.1))),(Q1.QU h0 (Qr h0.Qe r0.1.1 (Q5.Q5r (h0.Qe r0.1.1) r1.2.1.1)),(g3,(g4,(g7,())))))) else some ((n,(now,(r0.1.1,(false,())))),(h0,(g3,(g4,(g7,()))))))) none λr2=>(Q0 ((bif r2.1.2.2.2.1 then (Q0 ((Q0 (cK190 r2.2.1.Qo r2.2.1.Q2d r2.1.1 (r2.2.1.Qe r2.1.2.2.1).Q6h) none λr3=>(Q0 (cK35 r2.2.1 r2.2.2.2.2.1) none λr4=>(Q0 (cK34 r2.1.1 r3.1.1 r4.1.1 false r2.2.1) none λr5=>some ((r2.1.1,(r2.1.2.1,(r2.1.2.2.1,()))),(r5.2.1.1,r2.2.2)))))) none λr6=>(Q0 ((Q0 (cK158 (r6.2.1.Qe r6.1.2.2.1).Q6h) none λr7=>some (r6.1,(Q1.QU r6.2.1 (Qr r6.2.1.Qe r6.1.2.2.1 (Q5.Q9i (r6.2.1.Qe r6.1.2.2.1) r7.1.1)),r6.2.2)))) none λr8=>(Q0 (cK19 r8.2.1) none λr9=>(Q0 (cK174 r9.1.1 (r8.2.1.Qe r8.1.2.2.1).Q4Y) none λr10=>some (r8.1,(Q1.QU r8.2.1 (Qr r8.2.1.Qe r8.1.2.2.1 (Q5.Q5r (r8.2.1.Qe r8.1.2.2.1) r10.2.1.1)),r8.2.2)))))) else some ((r2.1.1,(r2.1.2.1,(r2.1.2.2.1,()))),r2.2))) none λr11=>(Q0 ((bif ieq (r11.2.1.Qe r11.1.2.2.1).Q1u 6 then (Q0 (cK176 (r11.2.1.Qe r11.1.2.2.1).fsync) none λr12=>some ((r11.1.1,(r11.1.2.1,(r11.1.2.2.1,r12.1))),(Q1.QU r11.2.1 (Qr r11.2.1.Qe r11.1.2.2.1 (Q5.Q6G (r11.2.1.Qe r11.1.2.2.1) r12.2.1.1)),r11.2.2))) else some ((r11.1.1,(r11.1.2.1,(r11.1.2.2.1,(false,())))),r11.2))) none λr13=>(Q0 ((bif r13.1.2.2.2.1 then (Q0 ((Q0 (cK38 r13.1.1 r13.2.1) none λr14=>some ((r13.1.1,(r13.1.2.1,(r13.1.2.2.1,()))),(r13.2.1,(Q9.mk 0 r13.2.1.Qo.Q1v 0 0 r14.1.1 (r13.2.1.Qe r13.1.2.2.1).Q8d r13.2.1.Qo.Q2G 0 z0_ 0 0 z1_ 0 0 0 0 0 0 0,r13.2.2))))) none λr15=>(Q0 ((bif r15.2.1.Qo.Q4C then some ((r15.1.1,r15.1.2.2),(r15.2.1,(Q9.Q7W r15.2.2.1 r15.1.2.1,r15.2.2.2))) else some ((r15.1.1,r15.1.2.2),(r15.2.1,(Q9.QaS r15.2.2.1 512,r15.2.2.2))))) none λr16=>(Q0 ((Q0 (cK34 r16.1.1 r16.2.2.1 (Qn Qi) (!r16.2.1.Qo.Q4C) r16.2.1) none λr17=>some (r16.1,(r17.2.1.1,r16.2.2.2)))) none λr18=>(Q0 ((Q0 (cK158 (r18.2.1.Qe r18.1.2.1).Q8d) none λr19=>some (r18.1,(Q1.QU r18.2.1 (Qr r18.2.1.Qe r18.1.2.1 (Q5.Qbj (r18.2.1.Qe r18.1.2.1) r19.1.1)),r18.2.2)))) none λr20=>(Q0 (cK172 r20.2.1.Qo.Q2G) none λr21=>(Q0 (cK174 r21.1.1 (r20.2.1.Qe r20.1.2.1).fsync) none λr22=>some (r20.1,(Q1.QU r20.2.1 (Qr r20.2.1.Qe r20.1.2.1 (Q5.Q6G (r20.2.1.Qe r20.1.2.1) r22.2.1.1)),r20.2.2)))))))) else some ((r13.1.1,(r13.1.2.2.1,())),r13.2))) none λr23=>(Q0 (cK142 (r23.2.1.Qe r23.1.2.1).Q1u) none λr24=>(Q0 ((bif r23.2.1.Qo.Q4g then (Q0 (cK140 (r23.2.1.Qe r23.1.2.1).Q1u) none λr25=>some ((r23.1.1,(r23.1.2.1,r25.1)),r23.2)) else some ((r23.1.1,(r23.1.2.1,r24.1)),r23.2))) none λr26=>(Q0 ((bif r26.1.2.2.1 then (Q0 (cK176 (r26.2.1.Qe r26.1.2.1).Q79) none λr27=>some ((r26.1.1,(r26.1.2.1,r27.1)),(Q1.QU r26.2.1 (Qr r26.2.1.Qe r26.1.2.1 (Q5.Q6v (r26.2.1.Qe r26.1.2.1) r27.2.1.1)),r26.2.2))) else some ((r26.1.1,(r26.1.2.1,(false,()))),r26.2))) none λr28=>(bif r28.1.2.2.1 then (Q0 ((Q0 (cK48 r28.2.1.Qo.Q4g (r28.2.1.Qe r28.1.2.1) r28.2.2.1 r28.2.2.2.1) none λr29=>some ((r28.1.1,(r28.1.2.1,())),(Q1.QU r28.2.1 (Qr r28.2.1.Qe r28.1.2.1 r29.2.1.1),(r29.1.1,(r29.2.1.2.1,(r29.2.1.2.2.1,r28.2.2.2.2))))))) none λr30=>(Q0 ((Q0 (cK34 r30.1.1 (Q9.Q7r r30.2.2.1 r30.2.1.Qo.Q1v) (Qn Qi) true r30.2.1) none λr31=>some (r30.1.2,(r31.2.1.1,r30.2.2.2)))) none λr32=>(Q0 ((Q0 (cK158 (r32.2.1.Qe r32.1.1).Q65) none λr33=>some (r32.1,(Q1.QU r32.2.1 (Qr r32.2.1.Qe r32.1.1 (Q5.Q9H (r32.2.1.Qe r32.1.1) r33.1.1)),r32.2.2)))) none λr34=>(Q0 (cK172 r34.2.1.Qo.Q2E) none λr35=>(Q0 (cK174 r35.1.1 (r34.2.1.Qe r34.1.1).Q79) none λr36=>some ((),((Q1.QU r34.2.1 (Qr r34.2.1.Qe r34.1.1 (Q5.Q6v (r34.2.1.Qe r34.1.1) r36.2.1.1)),r34.2.2),()))))))) else some ((),(r28.2,())))))))))))
def K41:K41.T:=K41.gen K40 Q2O Q4u K35 K34 Q4v K19 Q23 K38 Q2T Q1T Q1j K48
theorem K41.eq (cK40:K40.T) (cK176:Q2O.T) (cK190:Q4u.T) (cK35:K35.T) (cK34:K34.T) (cK158:Q4v.T) (cK19:K19.T) (cK174:Q23.T) (cK38:K38.T) (cK172:Q2T.T) (cK142:Q1T.T) (cK140:Q1j.T) (cK48:K48.T):EqA K41.sig (K41.H cK40 cK176 cK190 cK35 cK34 cK158 cK19 cK174 cK38 cK172 cK142 cK140 cK48) Tryz.f52 6 (K41.W (K41.gen cK40 cK176 cK190 cK35 cK34 cK158 cK19 cK174 cK38 cK172 cK142 cK140 cK48)):=by intro a x;kernel_rfl
theorem K41.ok:NK_ 52 K41.sig (K41.W K41):=ok_ Tryz.func52 (K41.eq K40 Q2O Q4u K35 K34 Q4v K19 Q23 K38 Q2T Q1T Q1j K48) (hn_ (Z0 (Z0 (Z0 (Z0 (Z0 (Z0 (Z0 (Z0 (Z0 (Z0 (Z0 (Z0 (Z0 Z2 K40.ok) Q2O.ok) Q4u.ok) K35.ok) K34.ok) Q4v.ok) K19.ok) Q23.ok) K38.ok) Q2T.ok) Q1T.ok) Q1j.ok) K48.ok))
def K42.sig:Sig U:=⟨[.ptr,.int .i64],[.obj .Q7,Q58,Q51,Q5o,Q5S,Q5y,.fam 7 (.map true false .Qw .Q1R)],0,[],true,[]⟩
abbrev K42.T:Type:=(Int)->(Q1)->(Fm Qb)->(Fm Qg)->(Fm Qc)->(Fm Qh)->(Fm QB)->(Nat×(Nat->List (Qf×List (Int))))->Option (Unit×(Q1×Q72)×Unit)
def K42.W (f:K42.T):K42.sig.F:=λa x=>f a.2.1 x.1 x.2.1 x.2.2.1 x.2.2.2.1 x.2.2.2.2.1 x.2.2.2.2.2.1 x.2.2.2.2.2.2.1
def K42.L0:Shape U:=⟨52,9,[(0,.ptr 8 0 0),(1,vi_),(4,vi_)],(8,.obj .Q7)::Q8K⟩
def K42.X0:Qm U:= [(.exit 0,⟨52,9,[(0,.ptr 8 0 0),(1,vi_)],(8,.obj .Q7)::Q8K⟩)]
abbrev K42.l0T:Type:=((Int×Int×Unit)×(Q1×Q72))->Option (((Int×Unit)×(Q1×Q72)))
def K42.L1:Shape U:=⟨52,9,[(0,.ptr 8 0 0),(1,vi_),(5,vi_)],(8,.obj .Q7)::Q8K⟩
def K42.X1:Qm U:= [(.exit 2,⟨52,9,[],(8,.obj .Q7)::Q8K⟩)]
abbrev K42.l1T:Type:=((Int×Int×Unit)×(Q1×Q72))->Option ((Unit×(Q1×Q72)))
def K42.C:Code:=match Tryz.f26.body with|some c=>c|none=>.skip
def K42.B0:Code:=match (Z3 K42.C).getD 0 .skip with| .loop b=>b| .scope b=>b|_=>.skip
def K42.B1:Code:=match (Z3 K42.C).getD 1 .skip with| .loop b=>b| .scope b=>b|_=>.skip
def K42.Qa4:Qm U:= [(.normal,⟨52,9,[(0,.ptr 8 0 0),(1,vi_),(5,vi_)],(8,.obj .Q7)::Q8K⟩)]
def K42.JR4:Qm U:= [(.normal,⟨52,9,[(0,.ptr 8 0 0),(1,vi_),(4,vi_)],(8,.obj .Q7)::Q8K⟩)]
def K42.JR0:Qm U:= [(.normal,⟨52,9,[(0,.ptr 8 0 0),(1,vi_)],(8,.obj .Q7)::Q8K⟩)]
def K42.H (cK40:K40.T) (cK25:K25.T) (cK19:K19.T) (cK26:K26.T) (cK41:K41.T) (l0:K42.l0T) (l1:K42.l1T):Hints U:={ Γ:=(Qk 52 (K41.sig.native (K41.W cK41)) (Qk 51 (K26.sig.native (K26.W cK26)) (K19.N cK19 (Qk 50 (K25.sig.native (K25.W cK25)) (K40.N cK40 noΓ))))),ro:=0,base:=9,Q2B:=jt_ [(0,K42.JR0),(4,K42.JR4),(10,K42.Qa4)],Q27:=jt_ [(6,K42.JR0)],loop:=jt_ [(2,(Z9 (0,9) K42.L0 K42.X0 l0)),(8,(Z9 (0,9) K42.L1 K42.X1 l1))]}
def K42.Q2A (cK40:K40.T) (cK25:K25.T) (cK19:K19.T) (cK26:K26.T) (cK41:K41.T) (a:(Int×Int×Unit)×(Q1×Q72)):Option (((Int×Int×Unit)×(Q1×Q72))⊕((Unit×(Q1×Q72)))):=
 (bif ile a.1.2.1 a.2.1.Qo.Qv then (Q0 ((Q0 (cK41 a.1.2.1 a.1.1 a.2.1 a.2.2.2.1 a.2.2.2.2.1 a.2.2.2.2.2.2.2.1) none λr0=>some (a.1,(r0.2.1.1,(a.2.2.1,(r0.2.1.2.1,(r0.2.1.2.2.1,(a.2.2.2.2.2.1,(a.2.2.2.2.2.2.1,r0.2.1.2.2.2))))))))) none λr1=>some (.inl ((r1.1.1,(Q4 .i64 r1.1.2.1 1,())),r1.2))) else some (.inr ((),a.2)))
def K42.F1:K42.l1T:=λa=>Z8 (1000000) (K42.Q2A K40 K25 K19 K26 K41) a
def K42.QO (cK40:K40.T) (cK25:K25.T) (cK19:K19.T) (cK26:K26.T) (cK41:K41.T) (a:(Int×Int×Unit)×(Q1×Q72)):Option (((Int×Int×Unit)×(Q1×Q72))⊕(((Int×Unit)×(Q1×Q72)))):=
 (bif ile a.1.2.1 a.2.1.Qo.Qv then (Q0 ((Q0 (cK40 a.1.2.1 a.2.1) none λr0=>(Q0 (cK25 r0.1.1 a.2.1 a.2.2.1 a.2.2.2.2.2.2.2.1) none λr1=>some (a.1,(r1.2.1.1,(r1.2.1.2.1,(a.2.2.2.1,(a.2.2.2.2.1,(a.2.2.2.2.2.1,(a.2.2.2.2.2.2.1,r1.2.1.2.2)))))))))) none λr2=>some (.inl ((r2.1.1,(Q4 .i64 r2.1.2.1 1,())),r2.2))) else some (.inr ((a.1.1,()),a.2)))
def K42.F0:K42.l0T:=λa=>Z8 (1000000) (K42.QO K40 K25 K19 K26 K41) a
def K42.gen (cK40:K40.T) (cK25:K25.T) (cK19:K19.T) (cK26:K26.T) (cK41:K41.T) (l0:K42.l0T) (l1:K42.l1T):K42.T:=λnow h0 g2 g3 g4 g5 g6 g7=>
 (Q0 (l0 ((now,(1:Int),()),Q1.Q9b h0 (Z4 false (Q4 .i64 h0.Q5s 1) 1099511627776),g2,g3,g4,g5,g6,g7,())) none λr0=>(Q0 (cK19 r0.2.1) none λr1=>(bif ine r1.1.1 0 then (Q0 ((bif ieq (Q5Q r0.2.1.Q5s r1.1.1) 0 then (Q0 (cK26 r0.2.1 r0.2.2.1 r0.2.2.2.1 r0.2.2.2.2.2.1 r0.2.2.2.2.2.2.1) none λr2=>some (r0.1,(r2.2.1.1,(r2.2.1.2.1,(r2.2.1.2.2.1,(r0.2.2.2.2.1,(r2.2.1.2.2.2.1,(r2.2.1.2.2.2.2.1,r0.2.2.2.2.2.2.2)))))))) else some r0)) none λr3=>(Q0 (l1 ((r3.1.1,(1:Int),()),r3.2)) none λr4=>some ((),(r4.2,())))) else none)))
def K42:K42.T:=K42.gen K40 K25 K19 K26 K41 K42.F0 K42.F1
theorem K42.seq1 (cK40:K40.T) (cK25:K25.T) (cK19:K19.T) (cK26:K26.T) (cK41:K41.T) (l0:K42.l0T) (l1:K42.l1T) (a:K42.L1.T):run Tryz.prog (K42.H cK40 cK25 cK19 cK26 cK41 l0 l1) 6 (Option (K42.L1.T⊕ExT K42.X1)) none K42.B1 (K42.L1.enc a) (Zi (0,9) K42.L1 K42.X1)=K42.Q2A cK40 cK25 cK19 cK26 cK41 a:=by kernel_rfl
abbrev K42.h:=K42.H K40 K25 K19 K26 K41 K42.F0 K42.F1
theorem K42.Q5h:LO_ K42.h K42.B1 (Z9 (0,9) K42.L1 K42.X1 K42.F1):=lk_ (hn_ (Z0 (Z0 (Z0 (Z0 (Z0 Z2 K40.ok) K25.ok) K19.ok) K26.ok) K41.ok)) (K42.seq1 K40 K25 K19 K26 K41 K42.F0 K42.F1)
theorem K42.Q24 (cK40:K40.T) (cK25:K25.T) (cK19:K19.T) (cK26:K26.T) (cK41:K41.T) (l0:K42.l0T) (l1:K42.l1T) (a:K42.L0.T):run Tryz.prog (K42.H cK40 cK25 cK19 cK26 cK41 l0 l1) 6 (Option (K42.L0.T⊕ExT K42.X0)) none K42.B0 (K42.L0.enc a) (Zi (0,9) K42.L0 K42.X0)=K42.QO cK40 cK25 cK19 cK26 cK41 a:=by kernel_rfl
theorem K42.Q1V:LO_ K42.h K42.B0 (Z9 (0,9) K42.L0 K42.X0 K42.F0):=lk_ (hn_ (Z0 (Z0 (Z0 (Z0 (Z0 Z2 K40.ok) K25.ok) K19.ok) K26.ok) K41.ok)) (K42.Q24 K40 K25 K19 K26 K41 K42.F0 K42.F1)
theorem K42.eq (cK40:K40.T) (cK25:K25.T) (cK19:K19.T) (cK26:K26.T) (cK41:K41.T) (l0:K42.l0T) (l1:K42.l1T):EqA K42.sig (K42.H cK40 cK25 cK19 cK26 cK41 l0 l1) Tryz.f26 6 (K42.W (K42.gen cK40 cK25 cK19 cK26 cK41 l0 l1)):=by intro a x;kernel_rfl
theorem K42.loops:Z3 K42.C= [(.loop K42.B0),(.loop K42.B1)]:=by kernel_rfl
theorem K42.ok:NK_ 26 K42.sig (K42.W K42):=ok_ Tryz.func26 (K42.eq K40 K25 K19 K26 K41 K42.F0 K42.F1) (hl_ (Z0 (Z0 (Z0 (Z0 (Z0 Z2 K40.ok) K25.ok) K19.ok) K26.ok) K41.ok) (Z7 (by kernel_rfl) K42.Q1V (Z7 (by kernel_rfl) K42.Q5h Z5))) K42.loops
def Q3c.sig:Sig U:=⟨[.isl .u8,.int .i64,.int .i64],[],0,[.bool],false,[]⟩
abbrev Q3c.T:Type:=(List (UInt8))->(Int)->(Int)->Option ((Bool×Unit)×Unit×Unit)
def Q3c.W (f:Q3c.T):Q3c.sig.F:=λa x=>f a.1 a.2.1 a.2.2.1
def Q3c.H:Hints U:={ Γ:=noΓ,ro:=0,base:=8}
def Q3c.gen:Q3c.T:=λb at_1 n=>
 (bif ilt n 0 then some ((true,()),((),())) else (bif ilt at_1 0 then some ((true,()),((),())) else (bif ilt (ofN (List.length b)) at_1 then some ((true,()),((),())) else some ((ilt (Q1K .i64 (ofN (List.length b)) at_1) n,()),((),())))))
def Q3c:Q3c.T:=Q3c.gen
theorem Q3c.ok:NK_ 175 Q3c.sig (Q3c.W Q3c):=ok_ (H:=Q3c.H) (n:=6) Tryz.func175 (by intro a x;kernel_rfl) (hn_ Z2)
def Q1i.sig:Sig U:=⟨[.isl .u8],[],0,[.int .u64],false,[]⟩
abbrev Q1i.T:Type:=(List (UInt8))->Option ((Int×Unit)×Unit×Unit)
def Q1i.W (f:Q1i.T):Q1i.sig.F:=λa x=>f a.1
def Q1i.L0:Shape U:=⟨19,8,[(3,.val (.int .u64)),(6,.val (.isl .u8)),(7,vi_),(8,vi_)],[]⟩
def Q1i.X0:Qm U:= [(.exit 0,⟨19,8,[(3,.val (.int .u64))],[]⟩)]
abbrev Q1i.l0T:Type:=((Int×(List (UInt8))×Int×Int×Unit)×Unit)->Option (((Int×Unit)×Unit))
def Q1i.C:Code:=match Tryz.f176.body with|some c=>c|none=>.skip
def Q1i.B0:Code:=match (Z3 Q1i.C).getD 0 .skip with| .loop b=>b| .scope b=>b|_=>.skip
def Q1i.H (l0:Q1i.l0T):Hints U:={ Γ:=noΓ,ro:=0,base:=8,loop:=jt_ [(3,(Z9 (0,8) Q1i.L0 Q1i.X0 l0))]}
def Q1i.QO (a:(Int×(List (UInt8))×Int×Int×Unit)×Unit):Option (((Int×(List (UInt8))×Int×Int×Unit)×Unit)⊕(((Int×Unit)×Unit))):=
 (bif ilt a.1.2.2.2.1 a.1.2.2.1 then (bif inR a.1.2.2.2.1 (List.length a.1.2.1) then some (.inl ((ior .u64 (Q8U .u64 a.1.1 8) (IntKind.wrap .u64 (ofN (UInt8.toNat (List.getD a.1.2.1 (Int.toNat a.1.2.2.2.1) (0:D UC.u8))))),(a.1.2.1,(a.1.2.2.1,(Q4 .i64 a.1.2.2.2.1 1,())))),())) else none) else some (.inr ((a.1.1,()),())))
def Q1i.F0:Q1i.l0T:=λa=>Z8 (1000000+(a.1.2.1.length)) (Q1i.QO) a
def Q1i.gen (l0:Q1i.l0T):Q1i.T:=λb=>
 (Q0 (l0 (((0:Int),b,ofN (List.length b),(0:Int),()),())) none λr0=>some (r0.1,((),())))
def Q1i:Q1i.T:=Q1i.gen Q1i.F0
theorem Q1i.Q24 (l0:Q1i.l0T) (a:Q1i.L0.T):run Tryz.prog (Q1i.H l0) 6 (Option (Q1i.L0.T⊕ExT Q1i.X0)) none Q1i.B0 (Q1i.L0.enc a) (Zi (0,8) Q1i.L0 Q1i.X0)=Q1i.QO a:=by kernel_rfl
abbrev Q1i.h:=Q1i.H Q1i.F0
theorem Q1i.Q1V:LO_ Q1i.h Q1i.B0 (Z9 (0,8) Q1i.L0 Q1i.X0 Q1i.F0):=lk_ (hn_ Z2) (Q1i.Q24 Q1i.F0)
theorem Q1i.eq (l0:Q1i.l0T):EqA Q1i.sig (Q1i.H l0) Tryz.f176 6 (Q1i.W (Q1i.gen l0)):=by intro a x;kernel_rfl
theorem Q1i.loops:Z3 Q1i.C= [(.loop Q1i.B0)]:=by kernel_rfl
theorem Q1i.ok:NK_ 176 Q1i.sig (Q1i.W Q1i):=ok_ Tryz.func176 (Q1i.eq Q1i.F0) (hl_ Z2 (Z7 (by kernel_rfl) Q1i.Q1V Z5)) Q1i.loops
def Q1p.sig:Sig U:=⟨[.isl .u8,.int .i64,.int .i64],[],0,[.int .i64,.bool],true,[]⟩
abbrev Q1p.T:Type:=(List (UInt8))->(Int)->(Int)->Option ((Int×Bool×Unit)×Unit×Unit)
def Q1p.W (f:Q1p.T):Q1p.sig.F:=λa x=>f a.1 a.2.1 a.2.2.1
abbrev Q1p.N (c:Q1p.T):=Qk 152 (Q1p.sig.native (Q1p.W c))
def Q1p.H (cK124:Q3c.T) (cK125:Q1i.T):Hints U:={ Γ:=(Qk 176 (Q1i.sig.native (Q1i.W cK125)) (Qk 175 (Q3c.sig.native (Q3c.W cK124)) noΓ)),ro:=0,base:=8,Q1J:=jt_ [(1,[(19,vb_)])]}
def Q1p.gen (cK124:Q3c.T) (cK125:Q1i.T):Q1p.T:=λb at_1 n=>
 (Q0 ((bif ilt n 1 then some (true,()) else (bif ilt 7 n then some (true,()) else (Q0 (cK124 b at_1 n) none λr0=>some r0.1)))) none λr1=>(bif r1.1 then some (((0:Int),(false,())),((),())) else (bif le3 at_1 (Q4 .i64 at_1 n) (List.length b) then (Q0 (cK125 (List.drop (Int.toNat at_1) (List.take (Int.toNat (Q4 .i64 at_1 n)) b))) none λr2=>some ((IntKind.wrap .i64 r2.1.1,(true,())),((),()))) else none)))
def Q1p:Q1p.T:=Q1p.gen Q3c Q1i
theorem Q1p.eq (cK124:Q3c.T) (cK125:Q1i.T):EqA Q1p.sig (Q1p.H cK124 cK125) Tryz.f152 6 (Q1p.W (Q1p.gen cK124 cK125)):=by intro a x;kernel_rfl
theorem Q1p.ok:NK_ 152 Q1p.sig (Q1p.W Q1p):=ok_ Tryz.func152 (Q1p.eq Q3c Q1i) (hn_ (Z0 (Z0 Z2 Q3c.ok) Q1i.ok))
def Q2t.sig:Sig U:=⟨[.isl .u8,.int .i64,.int .i64],[],0,[.int .i64,.bool],true,[]⟩
abbrev Q2t.T:Type:=(List (UInt8))->(Int)->(Int)->Option ((Int×Bool×Unit)×Unit×Unit)
def Q2t.W (f:Q2t.T):Q2t.sig.F:=λa x=>f a.1 a.2.1 a.2.2.1
abbrev Q2t.N (c:Q2t.T):=Qk 168 (Q2t.sig.native (Q2t.W c))
def Q2t.H (cK124:Q3c.T) (cK125:Q1i.T):Hints U:={ Γ:=(Qk 176 (Q1i.sig.native (Q1i.W cK125)) (Qk 175 (Q3c.sig.native (Q3c.W cK124)) noΓ)),ro:=0,base:=8,Q1J:=jt_ [(1,[(20,vb_)])]}
def Q2t.gen (cK124:Q3c.T) (cK125:Q1i.T):Q2t.T:=λb at_1 n=>
 (Q0 ((bif ilt n 1 then some (true,()) else (bif ilt 8 n then some (true,()) else (Q0 (cK124 b at_1 n) none λr0=>some r0.1)))) none λr1=>(bif r1.1 then some (((0:Int),(false,())),((),())) else (bif le3 at_1 (Q4 .i64 at_1 n) (List.length b) then (Q0 (cK125 (List.drop (Int.toNat at_1) (List.take (Int.toNat (Q4 .i64 at_1 n)) b))) none λr2=>(bif ile 0 (Q1K .i64 64 (Q3u .i64 8 n)) then (bif ile 0 (Q1K .i64 64 (Q3u .i64 8 n)) then some ((Q5Y .i64 (IntKind.wrap .i64 (Q8U .u64 r2.1.1 (Q1K .i64 64 (Q3u .i64 8 n)))) (Q1K .i64 64 (Q3u .i64 8 n)),(true,())),((),())) else none) else none)) else none)))
def Q2t:Q2t.T:=Q2t.gen Q3c Q1i
theorem Q2t.eq (cK124:Q3c.T) (cK125:Q1i.T):EqA Q2t.sig (Q2t.H cK124 cK125) Tryz.f168 6 (Q2t.W (Q2t.gen cK124 cK125)):=by intro a x;kernel_rfl
theorem Q2t.ok:NK_ 168 Q2t.sig (Q2t.W Q2t):=ok_ Tryz.func168 (Q2t.eq Q3c Q1i) (hn_ (Z0 (Z0 Z2 Q3c.ok) Q1i.ok))
def Q2c.sig:Sig U:=⟨[.isl .u8,.int .i64],[],0,[.int .u64,.bool],true,[]⟩
abbrev Q2c.T:Type:=(List (UInt8))->(Int)->Option ((Int×Bool×Unit)×Unit×Unit)
def Q2c.W (f:Q2c.T):Q2c.sig.F:=λa x=>f a.1 a.2.1
abbrev Q2c.N (c:Q2c.T):=Qk 141 (Q2c.sig.native (Q2c.W c))
def Q2c.H (cK123:Q2t.T):Hints U:={ Γ:=(Q2t.N cK123 noΓ),ro:=0,base:=8}
def Q2c.gen (cK123:Q2t.T):Q2c.T:=λb at_1=>
 (Q0 (cK123 b at_1 8) none λr0=>some ((IntKind.wrap .u64 r0.1.1,r0.1.2),((),())))
def Q2c:Q2c.T:=Q2c.gen Q2t
theorem Q2c.eq (cK123:Q2t.T):EqA Q2c.sig (Q2c.H cK123) Tryz.f141 6 (Q2c.W (Q2c.gen cK123)):=by intro a x;kernel_rfl
theorem Q2c.ok:NK_ 141 Q2c.sig (Q2c.W Q2c):=ok_ Tryz.func141 (Q2c.eq Q2t) (hn_ (Z0 Z2 Q2t.ok))
def K87.sig:Sig U:=⟨[.isl .u8,.int .i64],[],0,[.data .Qw,.bool],true,[]⟩
abbrev K87.T:Type:=(List (UInt8))->(Int)->Option ((Qf×Bool×Unit)×Unit×Unit)
def K87.W (f:K87.T):K87.sig.F:=λa x=>f a.1 a.2.1
def K87.H (cK120:Q2c.T) (cK119:Q1p.T):Hints U:={ Γ:=(Q1p.N cK119 (Q2c.N cK120 noΓ)),ro:=0,base:=8,Q1J:=jt_ [(1,[(24,vb_)])]}
def K87.gen (cK120:Q2c.T) (cK119:Q1p.T):K87.T:=λb at_1=>
 (Q0 ((bif ilt at_1 0 then some (true,()) else (bif ilt (ofN (List.length b)) at_1 then some (true,()) else some (ilt (Q1K .i64 (ofN (List.length b)) at_1) 10,())))) none λr0=>(bif r0.1 then some ((Qf.mk 0 0,(false,())),((),())) else (Q0 (cK120 b at_1) none λr1=>(Q0 (cK119 b (Q4 .i64 at_1 8) 2) none λr2=>some ((Qf.mk r1.1.1 r2.1.1,(true,())),((),()))))))
def K87:K87.T:=K87.gen Q2c Q1p
theorem K87.eq (cK120:Q2c.T) (cK119:Q1p.T):EqA K87.sig (K87.H cK120 cK119) Tryz.f169 6 (K87.W (K87.gen cK120 cK119)):=by intro a x;kernel_rfl
theorem K87.ok:NK_ 169 K87.sig (K87.W K87):=ok_ Tryz.func169 (K87.eq Q2c Q1p) (hn_ (Z0 (Z0 Z2 Q2c.ok) Q1p.ok))
def K81.sig:Sig U:=⟨[.isl .u8],[],0,[.data .Ql,.int .i64,.int .i64],true,[]⟩
abbrev K81.T:Type:=(List (UInt8))->Option ((Q9×Int×Int×Unit)×Unit×Unit)
def K81.W (f:K81.T):K81.sig.F:=λa x=>f a.1
def K81.H (cK119:Q1p.T) (cK82:K82.T) (cK85:K85.T) (cK123:Q2t.T) (cK87:K87.T):Hints U:={ Γ:=(Qk 169 (K87.sig.native (K87.W cK87)) (Q2t.N cK123 (K85.N cK85 (Qk 161 (K82.sig.native (K82.W cK82)) (Q1p.N cK119 noΓ))))),ro:=0,base:=8,Q1J:=jt_ [(4,[(17,vb_)])]}
def K81.gen (cK119:Q1p.T) (cK82:K82.T) (cK85:K85.T) (cK123:Q2t.T) (cK87:K87.T):K81.T:=λb=>
 (bif ilt (ofN (List.length b)) 34 then some ((Q9.mk 0 0 0 0 z0_ 0 0 0 z0_ 0 0 z1_ 0 0 0 0 0 0 0,((0:Int),((2:Int),()))),((),())) else (Q0 (cK119 b 2 2) none λr0=>(Q0 ((bif inR 0 (List.length b) then (Q0 (cK82 (IntKind.wrap .i64 (ofN (UInt8.toNat (List.getD b (Int.toNat 0) (0:D UC.u8)))))) none λr1=>(bif !r1.1.1 then some (true,()) else (bif inR 1 (List.length b) then (bif ine (Q5p .u8 (ofN (UInt8.toNat (List.getD b (Int.toNat 1) (0:D UC.u8)))) 15) 2 then some (true,()) else (Q0 (cK85 r0.1.1 34 400) none λr2=>some (!r2.1.1,()))) else none))) else none)) none λr3=>(bif r3.1 then some ((Q9.mk 0 0 0 0 z0_ 0 0 0 z0_ 0 0 z1_ 0 0 0 0 0 0 0,((0:Int),((4:Int),()))),((),())) else (bif ilt (ofN (List.length b)) r0.1.1 then some ((Q9.mk 0 0 0 0 z0_ 0 0 0 z0_ 0 0 z1_ 0 0 0 0 0 0 0,((0:Int),((2:Int),()))),((),())) else (bif ilt r0.1.1 (ofN (List.length b)) then some ((Q9.mk 0 0 0 0 z0_ 0 0 0 z0_ 0 0 z1_ 0 0 0 0 0 0 0,((0:Int),((3:Int),()))),((),())) else (bif inR 0 (List.length b) then (bif inR 4 (List.length b) then (Q0 (cK119 b 6 2) none λr4=>(Q0 (cK123 b 8 8) none λr5=>(Q0 (cK87 b 20) none λr6=>(Q0 (cK119 b 30 2) none λr7=>(Q0 (cK123 b 33 1) none λr8=>some ((Q9.mk (IntKind.wrap .i64 (ofN (UInt8.toNat (List.getD b (Int.toNat 0) (0:D UC.u8))))) (IntKind.wrap .i64 (ofN (UInt8.toNat (List.getD b (Int.toNat 4) (0:D UC.u8))))) r4.1.1 r5.1.1 r6.1.1 r7.1.1 r8.1.1 0 z0_ 0 0 z1_ 0 0 0 0 0 0 0,(r0.1.1,((0:Int),()))),((),()))))))) else none) else none)))))))
def K81:K81.T:=K81.gen Q1p K82 K85 Q2t K87
theorem K81.eq (cK119:Q1p.T) (cK82:K82.T) (cK85:K85.T) (cK123:Q2t.T) (cK87:K87.T):EqA K81.sig (K81.H cK119 cK82 cK85 cK123 cK87) Tryz.f137 6 (K81.W (K81.gen cK119 cK82 cK85 cK123 cK87)):=by intro a x;kernel_rfl
theorem K81.ok:NK_ 137 K81.sig (K81.W K81):=ok_ Tryz.func137 (K81.eq Q1p K82 K85 Q2t K87) (hn_ (Z0 (Z0 (Z0 (Z0 (Z0 Z2 Q1p.ok) K82.ok) K85.ok) Q2t.ok) K87.ok))
def K2.sig:Sig U:=⟨[.int .i64],[],0,[.int .i64],false,[]⟩
abbrev K2.T:Type:=(Int)->Option ((Int×Unit)×Unit×Unit)
def K2.W (f:K2.T):K2.sig.F:=λa x=>f a.1
def K2.JC8:Qm U:= [(.normal,⟨18,8,[(3,vi_),(9,vb_)],[]⟩)]
def K2.JC6:Qm U:= [(.normal,⟨18,8,[],[]⟩),
 (.ret,⟨18,8,[(2,vi_)],[]⟩)]
def K2.JC3:Qm U:= [(.normal,⟨18,8,[(3,vi_),(4,vb_)],[]⟩)]
def K2.H:Hints U:={ Γ:=noΓ,ro:=0,base:=8,Q27:=jt_ [(3,K2.JC3),(6,K2.JC6),(8,K2.JC8)]}
def K2.gen:K2.T:=λtyp=>
 (Q0 ((bif ieq typ 0 then some ((typ,(ieq typ 0,())),()) else (bif ieq typ 1 then some ((typ,(ieq typ 1,())),()) else (bif ieq typ 8 then some ((typ,(ieq typ 8,())),()) else some ((typ,(ieq typ 12,())),()))))) none λr0=>(Q0 ((bif r0.1.2.1 then some (.inr (((10:Int),()),())) else (Q0 ((bif ieq r0.1.1 2 then some ((r0.1.1,(ieq r0.1.1 2,())),()) else (bif ieq r0.1.1 3 then some ((r0.1.1,(ieq r0.1.1 3,())),()) else (bif ieq r0.1.1 10 then some ((r0.1.1,(ieq r0.1.1 10,())),()) else some ((r0.1.1,(ieq r0.1.1 9,())),()))))) none λr1=>(bif r1.1.2.1 then some (.inr (((20:Int),()),())) else (bif ieq r1.1.1 11 then some (.inr (((30:Int),()),())) else (bif ieq r1.1.1 13 then some (.inr (((14:Int),()),())) else some (.inl ((),())))))))) none λr2=>(Q3S r2 (λr3=>some (((0:Int),()),((),()))) (λr3=>some (r3.1,((),()))))))
def K2:K2.T:=K2.gen
theorem K2.ok:NK_ 170 K2.sig (K2.W K2):=ok_ (H:=K2.H) (n:=6) Tryz.func170 (by intro a x;kernel_rfl) (hn_ Z2)
def Q43.sig:Sig U:=⟨[.isl .u8,.int .i64],[],0,[.int .i64,.bool],true,[]⟩
abbrev Q43.T:Type:=(List (UInt8))->(Int)->Option ((Int×Bool×Unit)×Unit×Unit)
def Q43.W (f:Q43.T):Q43.sig.F:=λa x=>f a.1 a.2.1
def Q43.H (cK119:Q1p.T) (cK169:Q1O.T):Hints U:={ Γ:=(Q1O.N cK169 (Q1p.N cK119 noΓ)),ro:=0,base:=8,Q1J:=jt_ [(1,[(24,vb_)]),(5,[(51,vb_)])]}
def Q43.gen (cK119:Q1p.T) (cK169:Q1O.T):Q43.T:=λb at_1=>
 (Q0 ((bif ilt at_1 0 then some (true,()) else (bif ilt (ofN (List.length b)) at_1 then some (true,()) else some (ilt (Q1K .i64 (ofN (List.length b)) at_1) 10,())))) none λr0=>(bif r0.1 then some (((0:Int),(false,())),((),())) else (Q0 (cK119 b at_1 6) none λr1=>(Q0 (cK119 b (Q4 .i64 at_1 6) 4) none λr2=>(Q0 ((bif ile 1000000000 r2.1.1 then some (true,()) else (bif ilt 4000000 r1.1.1 then some (true,()) else (Q0 (cK169 (Q4 .i64 (Q3u .i64 r1.1.1 1000000000) r2.1.1)) none λr3=>some (!r3.1.1,()))))) none λr4=>(bif r4.1 then some (((0:Int),(false,())),((),())) else some ((Q4 .i64 (Q3u .i64 r1.1.1 1000000000) r2.1.1,(true,())),((),()))))))))
def Q43:Q43.T:=Q43.gen Q1p Q1O
theorem Q43.eq (cK119:Q1p.T) (cK169:Q1O.T):EqA Q43.sig (Q43.H cK119 cK169) Tryz.f171 6 (Q43.W (Q43.gen cK119 cK169)):=by intro a x;kernel_rfl
theorem Q43.ok:NK_ 171 Q43.sig (Q43.W Q43):=ok_ Tryz.func171 (Q43.eq Q1p Q1O) (hn_ (Z0 (Z0 Z2 Q1p.ok) Q1O.ok))
def Q3Y.sig:Sig U:=⟨[.isl .u8,.int .i64],[],0,[.data .Q2v,.bool],true,[]⟩
abbrev Q3Y.T:Type:=(List (UInt8))->(Int)->Option ((Qy×Bool×Unit)×Unit×Unit)
def Q3Y.W (f:Q3Y.T):Q3Y.sig.F:=λa x=>f a.1 a.2.1
def Q3Y.H (cK119:Q1p.T):Hints U:={ Γ:=(Q1p.N cK119 noΓ),ro:=0,base:=8,Q1J:=jt_ [(1,[(21,vb_)])]}
def Q3Y.gen (cK119:Q1p.T):Q3Y.T:=λb at_1=>
 (Q0 ((bif ilt at_1 0 then some (true,()) else (bif ilt (ofN (List.length b)) at_1 then some (true,()) else some (ilt (Q1K .i64 (ofN (List.length b)) at_1) 4,())))) none λr0=>(bif r0.1 then some ((Qy.mk 0 0 0,(false,())),((),())) else (Q0 (cK119 b at_1 1) none λr1=>(Q0 (cK119 b (Q4 .i64 at_1 1) 1) none λr2=>(Q0 (cK119 b (Q4 .i64 at_1 2) 2) none λr3=>some ((Qy.mk r1.1.1 r2.1.1 r3.1.1,(true,())),((),())))))))
def Q3Y:Q3Y.T:=Q3Y.gen Q1p
theorem Q3Y.eq (cK119:Q1p.T):EqA Q3Y.sig (Q3Y.H cK119) Tryz.f172 6 (Q3Y.W (Q3Y.gen cK119)):=by intro a x;kernel_rfl
theorem Q3Y.ok:NK_ 172 Q3Y.sig (Q3Y.W Q3Y):=ok_ Tryz.func172 (Q3Y.eq Q1p) (hn_ (Z0 Z2 Q1p.ok))
def K1.sig:Sig U:=⟨[.data .Ql,.isl .u8,.int .i64],[],0,[.data .Ql,.int .i64,.int .i64],true,[]⟩
abbrev K1.T:Type:=(Q9)->(List (UInt8))->(Int)->Option ((Q9×Int×Int×Unit)×Unit×Unit)
def K1.W (f:K1.T):K1.sig.F:=λa x=>f a.1 a.2.1 a.2.2.1
def K1.C:Code:=match Tryz.f138.body with|some c=>c|none=>.skip
def K1.B0:Code:=match (Z3 K1.C).getD 0 .skip with| .loop b=>b| .scope b=>b|_=>.skip
def K1.JC14:Qm U:= [(.normal,⟨151,10,[(3,.ptr 8 0 0),(6,.ptr 9 0 0),(9,vi_),(10,vi_)],[(8,.obj .Ql),(9,.obj .Ql)]⟩)]
def K1.Qa0:Qm U:= [(.normal,⟨151,10,[(1,.val (.isl .u8)),(2,vi_),(3,.ptr 8 0 0),(6,.ptr 9 0 0),(9,vi_),(10,vi_)],[(8,.obj .Ql),(9,.obj .Ql)]⟩)]
def K1.H (cK2:K2.T) (cK6:K6.T) (cK168:Q43.T) (cK7:K7.T) (cK87:K87.T) (cK123:Q2t.T) (cK119:Q1p.T) (cK146:Q3Y.T) (cK120:Q2c.T):Hints U:={ Γ:=(Q2c.N cK120 (Qk 172 (Q3Y.sig.native (Q3Y.W cK146)) (Q1p.N cK119 (Q2t.N cK123 (Qk 169 (K87.sig.native (K87.W cK87)) (K7.N cK7 (Qk 171 (Q43.sig.native (Q43.W cK168)) (K6.N cK6 (Qk 170 (K2.sig.native (K2.W cK2)) noΓ))))))))),ro:=0,base:=8,Q1J:=jt_ [(2,[(31,vb_)]),(4,[(40,vb_)])],Q27:=jt_ [(10,K1.Qa0),(14,K1.JC14)],gotos:=3,loop:=λb=>none}
def K1.gen (cK2:K2.T) (cK6:K6.T) (cK168:Q43.T) (cK7:K7.T) (cK87:K87.T) (cK123:Q2t.T) (cK119:Q1p.T) (cK146:Q3Y.T) (cK120:Q2c.T):K1.T:=λm b at_2=>
 (Q0 (cK2 m.fType) none λr0=>(Q0 ((bif ilt at_2 0 then some (true,()) else (bif ilt (ofN (List.length b)) at_2 then some (true,()) else some (ilt (Q1K .i64 (ofN (List.length b)) at_2) r0.1.1,())))) none λr1=>(bif r1.1 then some ((Q9.mk 0 0 0 0 z0_ 0 0 0 z0_ 0 0 z1_ 0 0 0 0 0 0 0,((0:Int),((2:Int),()))),((),())) else (Q0 ((bif ieq r0.1.1 0 then some (true,()) else (Q0 (cK6 m.fType) none λr2=>some (!r2.1.1,())))) none λr3=>(bif r3.1 then (Q0 (cK7 m.fType) none λr4=>(Q0 ((bif r4.1.1 then (Q0 (cK87 b at_2) none λr5=>some ((b,(Q4 .i64 at_2 10,(at_2,r0.1))),(Q9.Q7l m r5.1.1,(Q9.mk 0 0 0 0 z0_ 0 0 0 z0_ 0 0 z1_ 0 0 0 0 0 0 0,())))) else some ((b,(at_2,(at_2,r0.1))),(m,(Q9.mk 0 0 0 0 z0_ 0 0 0 z0_ 0 0 z1_ 0 0 0 0 0 0 0,()))))) none λr6=>(Q0 ((bif ieq r6.2.1.fType 11 then (Q0 (cK123 r6.1.1 r6.1.2.1 2) none λr7=>(Q0 (cK119 r6.1.1 (Q4 .i64 r6.1.2.1 3) 1) none λr8=>(Q0 (cK146 r6.1.1 (Q4 .i64 r6.1.2.1 4)) none λr9=>(Q0 (cK119 r6.1.1 (Q4 .i64 r6.1.2.1 8) 1) none λr10=>(Q0 (cK120 r6.1.1 (Q4 .i64 r6.1.2.1 9)) none λr11=>(Q0 (cK119 r6.1.1 (Q4 .i64 r6.1.2.1 17) 2) none λr12=>(Q0 (cK119 r6.1.1 (Q4 .i64 r6.1.2.1 19) 1) none λr13=>some (r6.1.2.2,(Q9.Q7j (Q9.Q7Z (Q9.Q7J (Q9.Q56 (Q9.Q4L (Q9.Q4K (Q9.Q8T r6.2.1 r7.1.1) r8.1.1) r9.1.1) r10.1.1) r11.1.1) r12.1.1) r13.1.1,r6.2.2))))))))) else (bif ieq r6.2.1.fType 13 then (bif inR r6.1.2.1 (List.length r6.1.1) then (bif inR (Q4 .i64 r6.1.2.1 1) (List.length r6.1.1) then (bif inR (Q4 .i64 r6.1.2.1 2) (List.length r6.1.1) then some (r6.1.2.2,(Q9.Q6B (Q9.Q7i (Q9.Q6u r6.2.1 (IntKind.wrap .i64 (ofN (UInt8.toNat (List.getD r6.1.1 (Int.toNat r6.1.2.1) (0:D UC.u8)))))) (IntKind.wrap .i64 (ofN (UInt8.toNat (List.getD r6.1.1 (Int.toNat (Q4 .i64 r6.1.2.1 1)) (0:D UC.u8)))))) (IntKind.wrap .i64 (Q5p .u8 (ofN (UInt8.toNat (List.getD r6.1.1 (Int.toNat (Q4 .i64 r6.1.2.1 2)) (0:D UC.u8)))) 15)),r6.2.2)) else none) else none) else none) else some (r6.1.2.2,r6.2)))) none λr14=>some ((r14.2.1,(Q4 .i64 r14.1.1 r14.1.2.1,((0:Int),()))),((),()))))) else (Q0 (cK168 b at_2) none λr15=>(bif !r15.1.2.1 then some ((Q9.mk 0 0 0 0 z0_ 0 0 0 z0_ 0 0 z1_ 0 0 0 0 0 0 0,((0:Int),((10:Int),()))),((),())) else (Q0 (cK7 m.fType) none λr16=>(Q0 ((bif r16.1.1 then (Q0 (cK87 b (Q4 .i64 at_2 10)) none λr17=>some ((b,(Q4 .i64 (Q4 .i64 at_2 10) 10,(at_2,r0.1))),(Q9.Q7l (Q9.Q7W m r15.1.1) r17.1.1,(Q9.mk 0 0 0 0 z0_ 0 0 0 z0_ 0 0 z1_ 0 0 0 0 0 0 0,())))) else some ((b,(Q4 .i64 at_2 10,(at_2,r0.1))),(Q9.Q7W m r15.1.1,(Q9.mk 0 0 0 0 z0_ 0 0 0 z0_ 0 0 z1_ 0 0 0 0 0 0 0,()))))) none λr18=>(Q0 ((bif ieq r18.2.1.fType 11 then (Q0 (cK123 r18.1.1 r18.1.2.1 2) none λr19=>(Q0 (cK119 r18.1.1 (Q4 .i64 r18.1.2.1 3) 1) none λr20=>(Q0 (cK146 r18.1.1 (Q4 .i64 r18.1.2.1 4)) none λr21=>(Q0 (cK119 r18.1.1 (Q4 .i64 r18.1.2.1 8) 1) none λr22=>(Q0 (cK120 r18.1.1 (Q4 .i64 r18.1.2.1 9)) none λr23=>(Q0 (cK119 r18.1.1 (Q4 .i64 r18.1.2.1 17) 2) none λr24=>(Q0 (cK119 r18.1.1 (Q4 .i64 r18.1.2.1 19) 1) none λr25=>some (r18.1.2.2,(Q9.Q7j (Q9.Q7Z (Q9.Q7J (Q9.Q56 (Q9.Q4L (Q9.Q4K (Q9.Q8T r18.2.1 r19.1.1) r20.1.1) r21.1.1) r22.1.1) r23.1.1) r24.1.1) r25.1.1,r18.2.2))))))))) else (bif ieq r18.2.1.fType 13 then (bif inR r18.1.2.1 (List.length r18.1.1) then (bif inR (Q4 .i64 r18.1.2.1 1) (List.length r18.1.1) then (bif inR (Q4 .i64 r18.1.2.1 2) (List.length r18.1.1) then some (r18.1.2.2,(Q9.Q6B (Q9.Q7i (Q9.Q6u r18.2.1 (IntKind.wrap .i64 (ofN (UInt8.toNat (List.getD r18.1.1 (Int.toNat r18.1.2.1) (0:D UC.u8)))))) (IntKind.wrap .i64 (ofN (UInt8.toNat (List.getD r18.1.1 (Int.toNat (Q4 .i64 r18.1.2.1 1)) (0:D UC.u8)))))) (IntKind.wrap .i64 (Q5p .u8 (ofN (UInt8.toNat (List.getD r18.1.1 (Int.toNat (Q4 .i64 r18.1.2.1 2)) (0:D UC.u8)))) 15)),r18.2.2)) else none) else none) else none) else some (r18.1.2.2,r18.2)))) none λr26=>some ((r26.2.1,(Q4 .i64 r26.1.1 r26.1.2.1,((0:Int),()))),((),()))))))))))))
def K1:K1.T:=K1.gen K2 K6 Q43 K7 K87 Q2t Q1p Q3Y Q2c
theorem K1.eq (cK2:K2.T) (cK6:K6.T) (cK168:Q43.T) (cK7:K7.T) (cK87:K87.T) (cK123:Q2t.T) (cK119:Q1p.T) (cK146:Q3Y.T) (cK120:Q2c.T):EqA K1.sig (K1.H cK2 cK6 cK168 cK7 cK87 cK123 cK119 cK146 cK120) Tryz.f138 6 (K1.W (K1.gen cK2 cK6 cK168 cK7 cK87 cK123 cK119 cK146 cK120)):=by intro a x;kernel_rfl
theorem K1.loops:Z3 K1.C= [(.scope K1.B0)]:=by kernel_rfl
theorem K1.ok:NK_ 138 K1.sig (K1.W K1):=ok_ Tryz.func138 (K1.eq K2 K6 Q43 K7 K87 Q2t Q1p Q3Y Q2c) (hl_ (Z0 (Z0 (Z0 (Z0 (Z0 (Z0 (Z0 (Z0 (Z0 Z2 K2.ok) K6.ok) Q43.ok) K7.ok) K87.ok) Q2t.ok) Q1p.ok) Q3Y.ok) Q2c.ok) (Zt Z5)) K1.loops
def Q1s.sig:Sig U:=⟨[.isl .u8,.int .i64],[],0,[.isl .QX,.int .i64],true,[]⟩
abbrev Q1s.T:Type:=(List (UInt8))->(Int)->Option (((List (Qi))×Int×Unit)×Unit×Unit)
def Q1s.W (f:Q1s.T):Q1s.sig.F:=λa x=>f a.1 a.2.1
def Q1s.L1:Shape U:=⟨81,9,[(0,.val (.isl .u8)),(1,vi_),(6,.own .QX 8),(7,vi_)],[(8,.tok)]⟩
def Q1s.X1:Qm U:= [(.exit 0,⟨81,9,[(6,.own .QX 8),(7,vi_)],[(8,.tok)]⟩)]
abbrev Q1s.l1T:Type:=(((List (UInt8))×Int×(List (Qi))×Int×Unit)×Unit)->Option ((((List (Qi))×Int×Unit)×Unit))
def Q1s.C:Code:=match Tryz.f139.body with|some c=>c|none=>.skip
def Q1s.B0:Code:=match (Z3 Q1s.C).getD 0 .skip with| .loop b=>b| .scope b=>b|_=>.skip
def Q1s.B1:Code:=match (Z3 Q1s.C).getD 1 .skip with| .loop b=>b| .scope b=>b|_=>.skip
def Q1s.JC8:Qm U:= [(.normal,⟨81,9,[(0,.val (.isl .u8)),(1,vi_),(6,.own .QX 8),(7,vi_),(8,vi_)],[(8,.tok)]⟩)]
def Q1s.H (cK119:Q1p.T) (l1:Q1s.l1T):Hints U:={ Γ:=(Q1p.N cK119 noΓ),ro:=0,base:=8,Q1J:=jt_ [(1,[(19,vb_)]),(9,[(35,vb_)])],Q27:=jt_ [(8,Q1s.JC8)],loop:=jt_ [(5,(Z9 (0,8) Q1s.L1 Q1s.X1 l1))]}
def Q1s.Q2A (cK119:Q1p.T) (a:((List (UInt8))×Int×(List (Qi))×Int×Unit)×Unit):Option ((((List (UInt8))×Int×(List (Qi))×Int×Unit)×Unit)⊕((((List (Qi))×Int×Unit)×Unit))):=
 (bif ilt a.1.2.1 (ofN (List.length a.1.1)) then (Q0 (cK119 a.1.1 (Q4 .i64 a.1.2.1 2) 2) none λr0=>(Q0 ((bif ieq (ofN (List.length a.1.2.2.1)) 8 then some ((a.1.1,(a.1.2.1,(a.1.2.2.1,((7:Int),(r0.1.1,()))))),()) else (Q0 ((bif !r0.1.2.1 then some (true,()) else some (ilt (Q1K .i64 (Q1K .i64 (ofN (List.length a.1.1)) a.1.2.1) 4) r0.1.1,()))) none λr1=>(bif r1.1 then some ((a.1.1,(a.1.2.1,(a.1.2.2.1,((2:Int),(r0.1.1,()))))),()) else (bif ine (Q5Q r0.1.1 2) 0 then some ((a.1.1,(a.1.2.1,(a.1.2.2.1,((4:Int),(r0.1.1,()))))),()) else some ((a.1.1,(a.1.2.1,(a.1.2.2.1,(a.1.2.2.2.1,(r0.1.1,()))))),())))))) none λr2=>(bif ine r2.1.2.2.2.1 0 then some (.inr ((r2.1.2.2.1,(r2.1.2.2.2.1,())),())) else (Q0 (cK119 r2.1.1 r2.1.2.1 2) none λr3=>(bif le3 (Q4 .i64 r2.1.2.1 4) (Q4 .i64 (Q4 .i64 r2.1.2.1 4) r2.1.2.2.2.2.1) (List.length r2.1.1) then (bif room (List.length r2.1.2.2.1+List.length (Qi.mk r3.1.1 (ByteArray.mk (List.toArray (List.drop (Int.toNat (Q4 .i64 r2.1.2.1 4)) (List.take (Int.toNat (Q4 .i64 (Q4 .i64 r2.1.2.1 4) r2.1.2.2.2.2.1)) r2.1.1))))::Qn Qi)) 24 then some (.inl ((r2.1.1,(Q4 .i64 r2.1.2.1 (Q4 .i64 4 r2.1.2.2.2.2.1),(r2.1.2.2.1++Qi.mk r3.1.1 (ByteArray.mk (List.toArray (List.drop (Int.toNat (Q4 .i64 r2.1.2.1 4)) (List.take (Int.toNat (Q4 .i64 (Q4 .i64 r2.1.2.1 4) r2.1.2.2.2.2.1)) r2.1.1))))::Qn Qi,(r2.1.2.2.2.1,())))),())) else none) else none))))) else some (.inr (a.1.2.2,())))
def Q1s.F1:Q1s.l1T:=λa=>Z8 (1000000+(a.1.1.length+a.1.2.2.1.length)) (Q1s.Q2A Q1p) a
def Q1s.gen (cK119:Q1p.T) (l1:Q1s.l1T):Q1s.T:=λb at_1=>
 (Q0 ((bif ilt at_1 0 then some (true,()) else some (ilt (ofN (List.length b)) at_1,()))) none λr0=>(bif r0.1 then some ((Qn Qi,((1:Int),())),((),())) else (Q0 (l1 ((b,at_1,Qn Qi,(0:Int),()),())) none λr1=>(bif ine r1.1.2.1 0 then some ((Qn Qi,r1.1.2),((),())) else some ((r1.1.1,((0:Int),())),((),()))))))
def Q1s:Q1s.T:=Q1s.gen Q1p Q1s.F1
theorem Q1s.seq1 (cK119:Q1p.T) (l1:Q1s.l1T) (a:Q1s.L1.T):run Tryz.prog (Q1s.H cK119 l1) 6 (Option (Q1s.L1.T⊕ExT Q1s.X1)) none Q1s.B1 (Q1s.L1.enc a) (Zi (0,8) Q1s.L1 Q1s.X1)=Q1s.Q2A cK119 a:=by kernel_rfl
abbrev Q1s.h:=Q1s.H Q1p Q1s.F1
theorem Q1s.Q5h:LO_ Q1s.h Q1s.B1 (Z9 (0,8) Q1s.L1 Q1s.X1 Q1s.F1):=lk_ (hn_ (Z0 Z2 Q1p.ok)) (Q1s.seq1 Q1p Q1s.F1)
theorem Q1s.eq (cK119:Q1p.T) (l1:Q1s.l1T):EqA Q1s.sig (Q1s.H cK119 l1) Tryz.f139 6 (Q1s.W (Q1s.gen cK119 l1)):=by intro a x;kernel_rfl
theorem Q1s.loops:Z3 Q1s.C= [(.scope Q1s.B0),(.loop Q1s.B1)]:=by kernel_rfl
theorem Q1s.ok:NK_ 139 Q1s.sig (Q1s.W Q1s):=ok_ Tryz.func139 (Q1s.eq Q1p Q1s.F1) (hl_ (Z0 Z2 Q1p.ok) (Zt (Z7 (by kernel_rfl) Q1s.Q5h Z5))) Q1s.loops
def K77.sig:Sig U:=⟨[.str],[],0,[.data .Ql,.isl .QX,.int .i64],true,[]⟩
abbrev K77.T:Type:=(ByteArray)->Option ((Q9×(List (Qi))×Int×Unit)×Unit×Unit)
def K77.W (f:K77.T):K77.sig.F:=λa x=>f a.1
def K77.C:Code:=match Tryz.f92.body with|some c=>c|none=>.skip
def K77.B0:Code:=match (Z3 K77.C).getD 0 .skip with| .loop b=>b| .scope b=>b|_=>.skip
def K77.H (cK81:K81.T) (cK1:K1.T) (cK180:Q1s.T):Hints U:={ Γ:=(Qk 139 (Q1s.sig.native (Q1s.W cK180)) (Qk 138 (K1.sig.native (K1.W cK1)) (Qk 137 (K81.sig.native (K81.W cK81)) noΓ))),ro:=0,base:=8,gotos:=3,loop:=λb=>none}
def K77.gen (cK81:K81.T) (cK1:K1.T) (cK180:Q1s.T):K77.T:=λb=>
 (Q0 (cK81 b.data.toList) none λr0=>(bif ine r0.1.2.2.1 0 then some ((Q9.mk 0 0 0 0 z0_ 0 0 0 z0_ 0 0 z1_ 0 0 0 0 0 0 0,(Qn Qi,r0.1.2.2)),((),())) else (Q0 (cK1 r0.1.1 b.data.toList 34) none λr1=>(bif ine r1.1.2.2.1 0 then some ((Q9.mk 0 0 0 0 z0_ 0 0 0 z0_ 0 0 z1_ 0 0 0 0 0 0 0,(Qn Qi,r1.1.2.2)),((),())) else (Q0 (cK180 b.data.toList r1.1.2.1) none λr2=>(bif ine r2.1.2.1 0 then some ((Q9.mk 0 0 0 0 z0_ 0 0 0 z0_ 0 0 z1_ 0 0 0 0 0 0 0,(Qn Qi,r2.1.2)),((),())) else some ((r1.1.1,(r2.1.1,((0:Int),()))),((),()))))))))
def K77:K77.T:=K77.gen K81 K1 Q1s
theorem K77.eq (cK81:K81.T) (cK1:K1.T) (cK180:Q1s.T):EqA K77.sig (K77.H cK81 cK1 cK180) Tryz.f92 6 (K77.W (K77.gen cK81 cK1 cK180)):=by intro a x;kernel_rfl
theorem K77.loops:Z3 K77.C= [(.scope K77.B0)]:=by kernel_rfl
theorem K77.ok:NK_ 92 K77.sig (K77.W K77):=ok_ Tryz.func92 (K77.eq K81 K1 Q1s) (hl_ (Z0 (Z0 (Z0 Z2 K81.ok) K1.ok) Q1s.ok) (Zt Z5)) K77.loops
def K78.sig:Sig U:=⟨[.str,.int .i64],[],0,[.data .Ql,.isl .QX,.int .i64],true,[]⟩
abbrev K78.T:Type:=(ByteArray)->(Int)->Option ((Q9×(List (Qi))×Int×Unit)×Unit×Unit)
def K78.W (f:K78.T):K78.sig.F:=λa x=>f a.1 a.2.1
def K78.H (cK77:K77.T):Hints U:={ Γ:=(Qk 92 (K77.sig.native (K77.W cK77)) noΓ),ro:=0,base:=8,Q1J:=jt_ [(2,[(23,vb_)])]}
def K78.gen (cK77:K77.T):K78.T:=λb domain=>
 (Q0 (cK77 b) none λr0=>(Q0 ((bif ieq r0.1.2.2.1 0 then some (ine r0.1.1.Q1v domain,()) else some (false,()))) none λr1=>(bif r1.1 then some ((Q9.mk 0 0 0 0 z0_ 0 0 0 z0_ 0 0 z1_ 0 0 0 0 0 0 0,(Qn Qi,((6:Int),()))),((),())) else some (r0.1,((),())))))
def K78:K78.T:=K78.gen K77
theorem K78.eq (cK77:K77.T):EqA K78.sig (K78.H cK77) Tryz.f53 6 (K78.W (K78.gen cK77)):=by intro a x;kernel_rfl
theorem K78.ok:NK_ 53 K78.sig (K78.W K78):=ok_ Tryz.func53 (K78.eq K77) (hn_ (Z0 Z2 K77.ok))
def K33.sig:Sig U:=⟨[.ptr,.int .i64],[.obj .Q7],1,[.bool],false,[]⟩
abbrev K33.T:Type:=(Int)->(Q1)->Option ((Bool×Unit)×Unit×Unit)
def K33.W (f:K33.T):K33.sig.F:=λa x=>f a.2.1 x.1
abbrev K33.N (c:K33.T):=Qk 28 (K33.sig.native (K33.W c))
def K33.H:Hints U:={ Γ:=(Qk 5000000021 ZG noΓ),ro:=9,base:=9}
def K33.gen:K33.T:=λn h0=>
 (bif ilt n 1 then some ((true,()),((),())) else some ((ilt h0.Qo.Qv n,()),((),())))
def K33:K33.T:=K33.gen
theorem K33.ok:NK_ 28 K33.sig (K33.W K33):=ok_ (H:=K33.H) (n:=6) Tryz.func28 (by intro a x;kernel_rfl) (hn_ (Z0 Z2 Zc))
def Q1f.sig:Sig U:=⟨[.isl .QX,.int .i64],[],0,[.data .QX,.bool],true,[]⟩
abbrev Q1f.T:Type:=(List (Qi))->(Int)->Option ((Qi×Bool×Unit)×Unit×Unit)
def Q1f.W (f:Q1f.T):Q1f.sig.F:=λa x=>f a.1 a.2.1
def Q1f.L0:Shape U:=⟨21,9,[(1,vi_),(4,.ptr 8 0 0),(8,.val (.isl .QX)),(9,vi_),(10,vi_)],[(8,.obj .QX)]⟩
def Q1f.X0:Qm U:= [(.exit 0,⟨21,9,[(4,.ptr 8 0 0)],[(8,.obj .QX)]⟩),
 (.ret,⟨21,9,[(4,.ptr 8 0 0),(5,vb_)],[(8,.obj .QX)]⟩)]
abbrev Q1f.l0T:Type:=((Int×(List (Qi))×Int×Int×Unit)×(Qi×Unit))->Option ((Unit×(Qi×Unit))⊕((Bool×Unit)×(Qi×Unit)))
def Q1f.C:Code:=match Tryz.f93.body with|some c=>c|none=>.skip
def Q1f.B0:Code:=match (Z3 Q1f.C).getD 0 .skip with| .loop b=>b| .scope b=>b|_=>.skip
def Q1f.H (l0:Q1f.l0T):Hints U:={ Γ:=noΓ,ro:=0,base:=8,loop:=jt_ [(2,(Z9 (0,8) Q1f.L0 Q1f.X0 l0))]}
def Q1f.QO (a:(Int×(List (Qi))×Int×Int×Unit)×(Qi×Unit)):Option (((Int×(List (Qi))×Int×Int×Unit)×(Qi×Unit))⊕((Unit×(Qi×Unit))⊕((Bool×Unit)×(Qi×Unit)))):=
 (bif ilt a.1.2.2.2.1 a.1.2.2.1 then (bif inR a.1.2.2.2.1 (List.length a.1.2.1) then (bif ieq (List.getD a.1.2.1 (Int.toNat a.1.2.2.2.1) Qi.zero).fType a.1.1 then some (.inr (.inr ((true,()),(List.getD a.1.2.1 (Int.toNat a.1.2.2.2.1) Qi.zero,())))) else some (.inl ((a.1.1,(a.1.2.1,(a.1.2.2.1,(Q4 .i64 a.1.2.2.2.1 1,())))),a.2))) else none) else some (.inr (.inl ((),a.2))))
def Q1f.F0:Q1f.l0T:=λa=>Z8 (1000000+(a.1.2.1.length)) (Q1f.QO) a
def Q1f.gen (l0:Q1f.l0T):Q1f.T:=λl typ=>
 (Q0 (l0 ((typ,l,ofN (List.length l),(0:Int),()),Qi.mk 0 (ByteArray.mk (List.toArray (Qn UInt8))),())) none λr0=>(Q3S r0 (λr1=>some ((Qi.mk 0 (ByteArray.mk (List.toArray (Qn UInt8))),(false,())),((),()))) (λr1=>some ((r1.2.1,r1.1),((),())))))
def Q1f:Q1f.T:=Q1f.gen Q1f.F0
theorem Q1f.Q24 (l0:Q1f.l0T) (a:Q1f.L0.T):run Tryz.prog (Q1f.H l0) 6 (Option (Q1f.L0.T⊕ExT Q1f.X0)) none Q1f.B0 (Q1f.L0.enc a) (Zi (0,8) Q1f.L0 Q1f.X0)=Q1f.QO a:=by kernel_rfl
abbrev Q1f.h:=Q1f.H Q1f.F0
theorem Q1f.Q1V:LO_ Q1f.h Q1f.B0 (Z9 (0,8) Q1f.L0 Q1f.X0 Q1f.F0):=lk_ (hn_ Z2) (Q1f.Q24 Q1f.F0)
theorem Q1f.eq (l0:Q1f.l0T):EqA Q1f.sig (Q1f.H l0) Tryz.f93 6 (Q1f.W (Q1f.gen l0)):=by intro a x;kernel_rfl
theorem Q1f.loops:Z3 Q1f.C= [(.loop Q1f.B0)]:=by kernel_rfl
theorem Q1f.ok:NK_ 93 Q1f.sig (Q1f.W Q1f):=ok_ Tryz.func93 (Q1f.eq Q1f.F0) (hl_ Z2 (Z7 (by kernel_rfl) Q1f.Q1V Z5)) Q1f.loops
def Q2u.sig:Sig U:=⟨[.data .QX],[],0,[.bool],false,[]⟩
abbrev Q2u.T:Type:=(Qi)->Option ((Bool×Unit)×Unit×Unit)
def Q2u.W (f:Q2u.T):Q2u.sig.F:=λa x=>f a.1
def Q2u.JC14:Qm U:= [(.normal,⟨50,9,[(1,.ptr 8 0 0),(3,vi_),(8,vi_),(29,vb_)],[(8,.obj .QX)]⟩)]
def Q2u.JC4:Qm U:= [(.normal,⟨50,9,[(1,.ptr 8 0 0)],[(8,.obj .QX)]⟩),
 (.ret,⟨50,8,[(2,vb_)],[]⟩)]
def Q2u.H:Hints U:={ Γ:=noΓ,ro:=0,base:=8,Q27:=jt_ [(4,Q2u.JC4),(14,Q2u.JC14)]}
def Q2u.gen:Q2u.T:=λt=>
 (Q0 ((bif ieq t.fType 1 then some (.inr ((ile 2 (ofN (ByteArray.size t.Q2y)),()),())) else (bif ieq t.fType 2 then some (.inr ((ile 8 (ofN (ByteArray.size t.Q2y)),()),())) else (bif ieq t.fType 3 then some (.inr ((ile 6 (ofN (ByteArray.size t.Q2y)),()),())) else (bif ieq t.fType 4 then some (.inr ((ieq (ofN (ByteArray.size t.Q2y)) 6,()),())) else (bif ieq t.fType 5 then some (.inr ((ieq (ofN (ByteArray.size t.Q2y)) 8,()),())) else (Q0 ((bif ieq t.fType 6 then some ((ofN (ByteArray.size t.Q2y),(t.fType,(ieq t.fType 6,()))),(t,())) else some ((ofN (ByteArray.size t.Q2y),(t.fType,(ieq t.fType 7,()))),(t,())))) none λr0=>(bif r0.1.2.2.1 then some (.inr ((ieq r0.1.1 2,()),())) else (bif ieq r0.1.2.1 8 then (bif ieq (Q5Q r0.1.1 8) 0 then some (.inr ((ile r0.1.1 128,()),())) else some (.inr ((false,()),()))) else (bif ieq r0.1.2.1 9 then some (.inr ((ile 16 r0.1.1,()),())) else some (.inl ((),r0.2)))))))))))) none λr1=>(Q3S r1 (λr2=>some ((ieq r2.2.1.fType 32776,()),((),()))) (λr2=>some (r2.1,((),())))))
def Q2u:Q2u.T:=Q2u.gen
theorem Q2u.ok:NK_ 140 Q2u.sig (Q2u.W Q2u):=ok_ (H:=Q2u.H) (n:=6) Tryz.func140 (by intro a x;kernel_rfl) (hn_ Z2)
def Q1x.sig:Sig U:=⟨[.data .QX],[],0,[.isl .u64,.bool],true,[]⟩
abbrev Q1x.T:Type:=(Qi)->Option (((List (Int))×Bool×Unit)×Unit×Unit)
def Q1x.W (f:Q1x.T):Q1x.sig.F:=λa x=>f a.1
def Q1x.L0:Shape U:=⟨36,10,[(1,.ptr 8 0 0),(4,.own .u64 9),(5,vi_)],[(8,.obj .QX),(9,.tok)]⟩
def Q1x.X0:Qm U:= [(.exit 0,⟨36,9,[(4,.own .u64 8)],[(8,.tok)]⟩)]
abbrev Q1x.l0T:Type:=(((List (Int))×Int×Unit)×(Qi×Unit))->Option ((((List (Int))×Unit)×Unit))
def Q1x.C:Code:=match Tryz.f94.body with|some c=>c|none=>.skip
def Q1x.B0:Code:=match (Z3 Q1x.C).getD 0 .skip with| .loop b=>b| .scope b=>b|_=>.skip
def Q1x.H (cK181:Q2u.T) (cK120:Q2c.T) (l0:Q1x.l0T):Hints U:={ Γ:=(Q2c.N cK120 (Qk 140 (Q2u.sig.native (Q2u.W cK181)) noΓ)),ro:=0,base:=8,Q1J:=jt_ [(1,[(15,vb_)])],loop:=jt_ [(5,(Z9 (0,8) Q1x.L0 Q1x.X0 l0))]}
def Q1x.QO (cK181:Q2u.T) (cK120:Q2c.T) (a:((List (Int))×Int×Unit)×(Qi×Unit)):Option ((((List (Int))×Int×Unit)×(Qi×Unit))⊕((((List (Int))×Unit)×Unit))):=
 (bif ilt a.1.2.1 (ofN (ByteArray.size a.2.1.Q2y)) then (Q0 (cK120 a.2.1.Q2y.data.toList a.1.2.1) none λr0=>(bif room (List.length a.1.1+List.length (r0.1.1::Qn Int)) 8 then some (.inl ((a.1.1++r0.1.1::Qn Int,(Q4 .i64 a.1.2.1 8,())),a.2)) else none)) else some (.inr ((a.1.1,()),())))
def Q1x.F0:Q1x.l0T:=λa=>Z8 (1000000+(a.1.1.length)) (Q1x.QO Q2u Q2c) a
def Q1x.gen (cK181:Q2u.T) (cK120:Q2c.T) (l0:Q1x.l0T):Q1x.T:=λt=>
 (Q0 ((bif ine t.fType 8 then some (true,()) else (Q0 (cK181 t) none λr0=>some (!r0.1.1,())))) none λr1=>(bif r1.1 then some ((Qn Int,(false,())),((),())) else (Q0 (l0 ((Qn Int,(0:Int),()),t,())) none λr2=>some ((r2.1.1,(true,())),((),())))))
def Q1x:Q1x.T:=Q1x.gen Q2u Q2c Q1x.F0
theorem Q1x.Q24 (cK181:Q2u.T) (cK120:Q2c.T) (l0:Q1x.l0T) (a:Q1x.L0.T):run Tryz.prog (Q1x.H cK181 cK120 l0) 6 (Option (Q1x.L0.T⊕ExT Q1x.X0)) none Q1x.B0 (Q1x.L0.enc a) (Zi (0,8) Q1x.L0 Q1x.X0)=Q1x.QO cK181 cK120 a:=by kernel_rfl
abbrev Q1x.h:=Q1x.H Q2u Q2c Q1x.F0
theorem Q1x.Q1V:LO_ Q1x.h Q1x.B0 (Z9 (0,8) Q1x.L0 Q1x.X0 Q1x.F0):=lk_ (hn_ (Z0 (Z0 Z2 Q2u.ok) Q2c.ok)) (Q1x.Q24 Q2u Q2c Q1x.F0)
theorem Q1x.eq (cK181:Q2u.T) (cK120:Q2c.T) (l0:Q1x.l0T):EqA Q1x.sig (Q1x.H cK181 cK120 l0) Tryz.f94 6 (Q1x.W (Q1x.gen cK181 cK120 l0)):=by intro a x;kernel_rfl
theorem Q1x.loops:Z3 Q1x.C= [(.loop Q1x.B0)]:=by kernel_rfl
theorem Q1x.ok:NK_ 94 Q1x.sig (Q1x.W Q1x):=ok_ Tryz.func94 (Q1x.eq Q2u Q2c Q1x.F0) (hl_ (Z0 (Z0 Z2 Q2u.ok) Q2c.ok) (Z7 (by kernel_rfl) Q1x.Q1V Z5)) Q1x.loops
def Q1A.sig:Sig U:=⟨[.isl .u64,.int .u64],[],0,[.int .i64],false,[]⟩
abbrev Q1A.T:Type:=(List (Int))->(Int)->Option ((Int×Unit)×Unit×Unit)
def Q1A.W (f:Q1A.T):Q1A.sig.F:=λa x=>f a.1 a.2.1
def Q1A.L0:Shape U:=⟨19,8,[(0,.val (.isl .u64)),(1,.val (.int .u64)),(7,vi_),(8,vi_)],[]⟩
def Q1A.X0:Qm U:= [(.exit 0,⟨19,8,[],[]⟩),
 (.ret,⟨19,8,[(4,vi_)],[]⟩)]
abbrev Q1A.l0T:Type:=(((List (Int))×Int×Int×Int×Unit)×Unit)->Option ((Unit×Unit)⊕((Int×Unit)×Unit))
def Q1A.C:Code:=match Tryz.f142.body with|some c=>c|none=>.skip
def Q1A.B0:Code:=match (Z3 Q1A.C).getD 0 .skip with| .loop b=>b| .scope b=>b|_=>.skip
def Q1A.H (l0:Q1A.l0T):Hints U:={ Γ:=noΓ,ro:=0,base:=8,loop:=jt_ [(2,(Z9 (0,8) Q1A.L0 Q1A.X0 l0))]}
def Q1A.QO (a:((List (Int))×Int×Int×Int×Unit)×Unit):Option ((((List (Int))×Int×Int×Int×Unit)×Unit)⊕((Unit×Unit)⊕((Int×Unit)×Unit))):=
 (bif ilt a.1.2.2.2.1 a.1.2.2.1 then (bif inR a.1.2.2.2.1 (List.length a.1.1) then (bif ieq a.1.2.1 (List.getD a.1.1 (Int.toNat a.1.2.2.2.1) (0:D UC.u64)) then some (.inr (.inr (a.1.2.2.2,()))) else some (.inl ((a.1.1,(a.1.2.1,(a.1.2.2.1,(Q4 .i64 a.1.2.2.2.1 1,())))),()))) else none) else some (.inr (.inl ((),()))))
def Q1A.F0:Q1A.l0T:=λa=>Z8 (1000000+(a.1.1.length)) (Q1A.QO) a
def Q1A.gen (l0:Q1A.l0T):Q1A.T:=λs v=>
 (Q0 (l0 ((s,v,ofN (List.length s),(0:Int),()),())) none λr0=>(Q3S r0 (λr1=>some (((-1:Int),()),((),()))) (λr1=>some (r1.1,((),())))))
def Q1A:Q1A.T:=Q1A.gen Q1A.F0
theorem Q1A.Q24 (l0:Q1A.l0T) (a:Q1A.L0.T):run Tryz.prog (Q1A.H l0) 6 (Option (Q1A.L0.T⊕ExT Q1A.X0)) none Q1A.B0 (Q1A.L0.enc a) (Zi (0,8) Q1A.L0 Q1A.X0)=Q1A.QO a:=by kernel_rfl
abbrev Q1A.h:=Q1A.H Q1A.F0
theorem Q1A.Q1V:LO_ Q1A.h Q1A.B0 (Z9 (0,8) Q1A.L0 Q1A.X0 Q1A.F0):=lk_ (hn_ Z2) (Q1A.Q24 Q1A.F0)
theorem Q1A.eq (l0:Q1A.l0T):EqA Q1A.sig (Q1A.H l0) Tryz.f142 6 (Q1A.W (Q1A.gen l0)):=by intro a x;kernel_rfl
theorem Q1A.loops:Z3 Q1A.C= [(.loop Q1A.B0)]:=by kernel_rfl
theorem Q1A.ok:NK_ 142 Q1A.sig (Q1A.W Q1A):=ok_ Tryz.func142 (Q1A.eq Q1A.F0) (hl_ Z2 (Z7 (by kernel_rfl) Q1A.Q1V Z5)) Q1A.loops
def Q42.sig:Sig U:=⟨[.isl .u64,.int .u64],[],0,[.bool],false,[]⟩
abbrev Q42.T:Type:=(List (Int))->(Int)->Option ((Bool×Unit)×Unit×Unit)
def Q42.W (f:Q42.T):Q42.sig.F:=λa x=>f a.1 a.2.1
def Q42.H (cK165:Q1A.T):Hints U:={ Γ:=(Qk 142 (Q1A.sig.native (Q1A.W cK165)) noΓ),ro:=0,base:=8}
def Q42.gen (cK165:Q1A.T):Q42.T:=λs v=>
 (Q0 (cK165 s v) none λr0=>some ((ile 0 r0.1.1,()),((),())))
def Q42:Q42.T:=Q42.gen Q1A
theorem Q42.eq (cK165:Q1A.T):EqA Q42.sig (Q42.H cK165) Tryz.f95 6 (Q42.W (Q42.gen cK165)):=by intro a x;kernel_rfl
theorem Q42.ok:NK_ 95 Q42.sig (Q42.W Q42):=ok_ Tryz.func95 (Q42.eq Q1A) (hn_ (Z0 Z2 Q1A.ok))
def K73.sig:Sig U:=⟨[.ptr,.data .Ql,.int .i64],[.obj .QA],0,[.int .i64],false,[]⟩
abbrev K73.T:Type:=(Q9)->(Int)->(Qb)->Option ((Int×Unit)×(Qb×Unit)×Unit)
def K73.W (f:K73.T):K73.sig.F:=λa x=>f a.2.1 a.2.2.1 x.1
def K73.L0:Shape U:=⟨143,10,[(0,.ptr 8 0 0),(2,vi_),(4,.ptr 9 0 0),(7,vi_)],[(8,.obj .QA),(9,.obj .Ql)]⟩
def K73.X0:Qm U:= [(.exit 1,⟨143,10,[(0,.ptr 8 0 0),(2,vi_),(4,.ptr 9 0 0),(7,vi_)],[(8,.obj .QA),(9,.obj .Ql)]⟩)]
abbrev K73.l0T:Type:=((Int×Int×Unit)×(Qb×Q9×Unit))->Option (((Int×Int×Unit)×(Qb×Q9×Unit)))
def K73.C:Code:=match Tryz.f96.body with|some c=>c|none=>.skip
def K73.B0:Code:=match (Z3 K73.C).getD 0 .skip with| .loop b=>b| .scope b=>b|_=>.skip
def K73.JR22:Qm U:= [(.normal,⟨143,9,[],[(8,.obj .QA)]⟩)]
def K73.JR21:Qm U:= [(.normal,⟨143,10,[(0,.ptr 8 0 0),(7,vi_),(8,.ptr 9 0 0)],[(8,.obj .QA),(9,.obj .QC)]⟩)]
def K73.Q5X:Qm U:= [(.normal,⟨143,11,[(0,.ptr 8 0 0),(2,vi_),(4,.ptr 9 0 0),(7,vi_),(8,.ptr 10 0 0)],[(8,.obj .QA),(9,.obj .Ql),(10,.obj .QC)]⟩)]
def K73.JC13:Qm U:= [(.normal,⟨143,11,[(0,.ptr 8 0 0),(2,vi_),(4,.ptr 9 0 0),(7,vi_),(8,.ptr 10 0 0)],[(8,.obj .QA),(9,.obj .Ql),(10,.obj .QC)]⟩),
 (.ret,⟨143,9,[(6,vi_)],[(8,.obj .QA)]⟩)]
def K73.JC2:Qm U:= [(.normal,⟨143,10,[(0,.ptr 8 0 0),(2,vi_),(4,.ptr 9 0 0)],[(8,.obj .QA),(9,.obj .Ql)]⟩),
 (.ret,⟨143,9,[(6,vi_)],[(8,.obj .QA)]⟩)]
def K73.H (l0:K73.l0T):Hints U:={ Γ:=noΓ,ro:=0,base:=9,Q1J:=jt_ [(3,[(13,vb_)]),(5,[(20,vb_)]),(8,[(59,vb_)]),(14,[(95,vb_)])],Q2B:=jt_ [(10,K73.Q5X),(13,K73.Q5X),(19,K73.Q5X),(20,K73.Q5X),(21,K73.JR21),(22,K73.JR22)],Q27:=jt_ [(2,K73.JC2),(13,K73.JC13)],loop:=jt_ [(8,(Z9 (0,9) K73.L0 K73.X0 l0))]}
def K73.QO (a:(Int×Int×Unit)×(Qb×Q9×Unit)):Option (((Int×Int×Unit)×(Qb×Q9×Unit))⊕(((Int×Int×Unit)×(Qb×Q9×Unit)))):=
 (Q0 ((bif ilt a.1.2.1 a.2.1.fn then (bif inR a.1.2.1 5 then some (!bif ieq (a.2.1.fl (Int.toNat a.1.2.1)).Q3r.Q4U.QF a.2.2.1.Q1G.QF then bif ieq (a.2.1.fl (Int.toNat a.1.2.1)).Q3r.Q4U.QW a.2.2.1.Q1G.QW then true else false else false,()) else none) else some (false,()))) none λr0=>(bif r0.1 then some (.inl ((a.1.1,(Q4 .i64 a.1.2.1 1,())),a.2)) else some (.inr a)))
def K73.F0:K73.l0T:=λa=>Z8 (1000000) (K73.QO) a
def K73.gen (l0:K73.l0T):K73.T:=λm now h0=>
 (Q0 ((bif ine m.fType 11 then some (.inr (((5:Int),()),(h0,()))) else (Q0 ((bif ilt now 0 then some (true,()) else some (ilt 1099511627776 now,()))) none λr0=>(bif r0.1 then some (.inr (((1:Int),()),(h0,()))) else (Q0 ((bif ieq m.Q1G.QF h0.Qbe.QF then some (true,()) else (bif ile 255 m.Q2g then some (true,()) else some (ine (Q5p .i64 m.Q1W 256) 0,())))) none λr1=>(bif r1.1 then some (.inr (((11:Int),()),(h0,()))) else some (.inl ((now,()),(h0,(m,())))))))))) none λr2=>(Q3S r2 (λr3=>(Q0 (l0 ((r3.1.1,(0:Int),()),r3.2)) none λr4=>(Q0 ((bif ilt r4.1.2.1 r4.2.1.fn then (Q0 ((bif inR r4.1.2.1 5 then some (r4.1,(r4.2.1,(r4.2.2.1,(r4.2.1.fl (Int.toNat r4.1.2.1),())))) else none)) none λr5=>(Q0 ((bif ilt (Q5p .i64 (Q1K .i64 r5.2.2.2.1.Q36 r5.2.2.1.Q36) 65535) 32768 then some (true,()) else some (ilt r5.1.1 r5.2.2.2.1.Q9V,()))) none λr6=>(bif r6.1 then some (.inr (((9:Int),()),(r5.2.1,()))) else some (.inl (r5.1,(r5.2.1,(r5.2.2.1,(Qd.Qbk r5.2.2.2.1 r5.2.2.2.1.Q9V,())))))))) else (bif ieq r4.2.1.fn 5 then some (.inr (((7:Int),()),(r4.2.1,()))) else some (.inl (r4.1,(Qb.Q8k r4.2.1 (Q4 .i64 r4.2.1.fn 1),(r4.2.2.1,(Qd.mk z6_ z4_ 0 (-1) 0,())))))))) none λr7=>(Q3S r7 (λr8=>(Q0 ((bif inR r8.1.2.1 5 then some ((),(Qb.Qaf r8.2.1 (Qr r8.2.1.fl (Int.toNat r8.1.2.1) (Qd.mk (Qj.mk r8.2.2.1.Q17 r8.2.2.1.Qu r8.2.2.1.Q18 r8.2.2.1.Q2Q r8.2.2.1.Q2g r8.2.2.1.Q1G r8.2.1.Qbe) (Q1d.mk r8.2.2.1.Q37 (Q5p .i64 r8.2.2.1.Q1W 63) r8.2.2.1.Q1N) r8.2.2.1.Q36 r8.2.2.2.1.Q8e r8.1.1)),())) else none)) none λr9=>some (((0:Int),()),(r9.2,())))) (λr8=>some (r8.1,(r8.2,()))))))) (λr3=>some (r3.1,(r3.2,())))))
def K73:K73.T:=K73.gen K73.F0
theorem K73.Q24 (l0:K73.l0T) (a:K73.L0.T):run Tryz.prog (K73.H l0) 6 (Option (K73.L0.T⊕ExT K73.X0)) none K73.B0 (K73.L0.enc a) (Zi (0,9) K73.L0 K73.X0)=K73.QO a:=by kernel_rfl
abbrev K73.h:=K73.H K73.F0
theorem K73.Q1V:LO_ K73.h K73.B0 (Z9 (0,9) K73.L0 K73.X0 K73.F0):=lk_ (hn_ Z2) (K73.Q24 K73.F0)
theorem K73.eq (l0:K73.l0T):EqA K73.sig (K73.H l0) Tryz.f96 6 (K73.W (K73.gen l0)):=by intro a x;kernel_rfl
theorem K73.loops:Z3 K73.C= [(.loop K73.B0)]:=by kernel_rfl
theorem K73.ok:NK_ 96 K73.sig (K73.W K73):=ok_ Tryz.func96 (K73.eq K73.F0) (hl_ Z2 (Z7 (by kernel_rfl) K73.Q1V Z5)) K73.loops
def K30.sig:Sig U:=⟨[.ptr,.Q5k 0 23 42 8,.data .Ql,.isl .QX],[.obj .Q7,Q58,.fam 7 (.map true false .Qw .Q1R)],0,[.bool],false,[]⟩
abbrev K30.T:Type:=(Nat)->(Q9)->(List (Qi))->(Q1)->(Fm Qb)->(Nat×(Nat->List (Qf×List (Int))))->Option ((Bool×Unit)×(Q1×Q7I)×Unit)
def K30.W (f:K30.T):K30.sig.F:=λa x=>f a.2.1 a.2.2.1 a.2.2.2.1 x.1 x.2.1 x.2.2.1
def K30.JR5:Qm U:= [(.normal,⟨61,9,[(0,.ptr 8 0 0),(1,.Q1h 8 23 42 8 0)],(8,.obj .Q7)::Q6a⟩)]
def K30.JR3:Qm U:= [(.normal,⟨61,10,[(0,.ptr 8 0 0),(1,.Q1h 8 23 42 8 0),(6,.ptr 9 0 0),(11,.val (.isl .u64)),(42,vb_)],(8,.obj .Q7)::(9,.obj .Ql)::Q6a⟩)]
def K30.JR1:Qm U:= [(.normal,⟨61,11,[(0,.ptr 8 0 0),(1,.Q1h 8 23 42 8 0),(6,.ptr 9 0 0),(9,.ptr 10 0 0)],(8,.obj .Q7)::(9,.obj .Ql)::(10,.obj .QX)::Q6a⟩)]
def K30.JC7:Qm U:= [(.normal,⟨61,9,[],(8,.obj .Q7)::Q6a⟩)]
def K30.H (cK179:Q1f.T) (cK185:Q1x.T) (cK164:Q42.T) (cK73:K73.T) (cK143:Q2q.T) (cK36:K36.T) (cK174:Q23.T):Hints U:={ Γ:=(Q23.N cK174 (K36.N cK36 (Q2q.N cK143 (Qk 96 (K73.sig.native (K73.W cK73)) (Qk 95 (Q42.sig.native (Q42.W cK164)) (Qk 94 (Q1x.sig.native (Q1x.W cK185)) (Qk 93 (Q1f.sig.native (Q1f.W cK179)) noΓ))))))),ro:=0,base:=9,Q2B:=jt_ [(1,K30.JR1),(3,K30.JR3),(5,K30.JR5)],Q27:=jt_ [(7,K30.JC7)]}
def K30.gen (cK179:Q1f.T) (cK185:Q1x.T) (cK164:Q42.T) (cK73:K73.T) (cK143:Q2q.T) (cK36:K36.T) (cK174:Q23.T):K30.T:=λp m l h0 g2 g7=>
 (Q0 ((Q0 (cK179 l 8) none λr0=>some ((p,()),(h0,(m,(r0.1.1,(g2,(g7,())))))))) none λr1=>(Q0 (cK185 r1.2.2.2.1) none λr2=>(Q0 ((Q0 (cK164 r2.1.1 r1.2.1.Qo.QF) none λr3=>(bif r3.1.1 then some ((r1.1.1,(r2.1.1,(true,()))),(r1.2.1,(r1.2.2.1,r1.2.2.2.2))) else (Q0 ((r1.2.1.Qe r1.1.1).2) none λr4=>(Q0 (cK73 r1.2.2.1 r1.2.1.Q5s (r1.2.2.2.2.1.2 r4)) none λr5=>some ((r1.1.1,(r2.1.1,(ine r5.1.1 0,()))),(r1.2.1,(r1.2.2.1,((r1.2.2.2.2.1.1,Qr r1.2.2.2.2.1.2 r4 r5.2.1.1),r1.2.2.2.2.2))))))))) none λr6=>(bif r6.1.2.2.1 then some ((false,()),((r6.2.1,r6.2.2.2),())) else (Q0 ((Q0 ((Q0 ((r6.2.1.Qe r6.1.1).3) none λr7=>(Q0 ((@Z25 U Go.Proofs.Tryz.prog 49 UC.Qw UC.Q1R (r6.2.2.1.Q1G) (r6.1.2.1) (r6.2.2.2.2.1.2 r7))) none λ(r8:List (Qf×List Int))=>some (r7,r8)))) none λ(r9:Nat×List (Qf×List Int))=>some ((r6.1.1,()),(r6.2.1,(r6.2.2.2.1,((r6.2.2.2.2.1.1,Qr r6.2.2.2.2.1.2 r9.1 r9.2),())))))) none λr10=>(Q0 (cK143 (r10.2.1.Qe r10.1.1).Q1u) none λr11=>(Q0 ((bif r11.1.1 then (Q0 (cK36 r10.2.1) none λr12=>(Q0 (cK174 r12.1.1 (r10.2.1.Qe r10.1.1).Q4j) none λr13=>some ((),(Q1.QU r10.2.1 (Qr r10.2.1.Qe r10.1.1 (Q5.Q4a (r10.2.1.Qe r10.1.1) r13.2.1.1)),r10.2.2)))) else some ((),r10.2))) none λr14=>some ((true,()),(r14.2,())))))))))
def K30:K30.T:=K30.gen Q1f Q1x Q42 K73 Q2q K36 Q23
theorem K30.eq (cK179:Q1f.T) (cK185:Q1x.T) (cK164:Q42.T) (cK73:K73.T) (cK143:Q2q.T) (cK36:K36.T) (cK174:Q23.T):EqA K30.sig (K30.H cK179 cK185 cK164 cK73 cK143 cK36 cK174) Tryz.f55 6 (K30.W (K30.gen cK179 cK185 cK164 cK73 cK143 cK36 cK174)):=by intro a x;kernel_rfl
theorem K30.ok:NK_ 55 K30.sig (K30.W K30):=ok_ Tryz.func55 (K30.eq Q1f Q1x Q42 K73 Q2q K36 Q23) (hn_ (Z0 (Z0 (Z0 (Z0 (Z0 (Z0 (Z0 Z2 Q1f.ok) Q1x.ok) Q42.ok) K73.ok) Q2q.ok) K36.ok) Q23.ok))
def Q2n.sig:Sig U:=⟨[.int .i64],[],0,[.int .i64],false,[]⟩
abbrev Q2n.T:Type:=(Int)->Option ((Int×Unit)×Unit×Unit)
def Q2n.W (f:Q2n.T):Q2n.sig.F:=λa x=>f a.1
abbrev Q2n.N (c:Q2n.T):=Qk 143 (Q2n.sig.native (Q2n.W c))
def Q2n.H:Hints U:={ Γ:=noΓ,ro:=0,base:=8}
def Q2n.gen:Q2n.T:=λcorr=>
 some ((Q5Y .i64 corr 16,()),((),()))
def Q2n:Q2n.T:=Q2n.gen
theorem Q2n.ok:NK_ 143 Q2n.sig (Q2n.W Q2n):=ok_ (H:=Q2n.H) (n:=6) Tryz.func143 (by intro a x;kernel_rfl) (hn_ Z2)
def Q3y.sig:Sig U:=⟨[.data .Ql],[],0,[.data .Q4G],false,[]⟩
abbrev Q3y.T:Type:=(Q9)->Option ((Q29×Unit)×Unit×Unit)
def Q3y.W (f:Q3y.T):Q3y.sig.F:=λa x=>f a.1
def Q3y.H:Hints U:={ Γ:=noΓ,ro:=0,base:=8}
def Q3y.gen:Q3y.T:=λm=>
 some ((Q29.mk m.Q1G m.Q36,()),((),()))
def Q3y:Q3y.T:=Q3y.gen
theorem Q3y.ok:NK_ 144 Q3y.sig (Q3y.W Q3y):=ok_ (H:=Q3y.H) (n:=6) Tryz.func144 (by intro a x;kernel_rfl) (hn_ Z2)
def Q3m.sig:Sig U:=⟨[.int .i64,.int .i64],[],0,[.int .i64],false,[]⟩
abbrev Q3m.T:Type:=(Int)->(Int)->Option ((Int×Unit)×Unit×Unit)
def Q3m.W (f:Q3m.T):Q3m.sig.F:=λa x=>f a.1 a.2.1
def Q3m.JC2:Qm U:= [(.normal,⟨26,8,[(0,vi_),(1,vi_)],[]⟩),
 (.ret,⟨26,8,[(4,vi_)],[]⟩)]
def Q3m.H:Hints U:={ Γ:=noΓ,ro:=0,base:=8,Q1J:=jt_ [(1,[(5,vb_)]),(3,[(14,vb_)])],Q27:=jt_ [(2,Q3m.JC2)]}
def Q3m.gen:Q3m.T:=λa b=>
 (Q0 ((bif ilt 0 b then some (ilt (Q1K .i64 9223372036854775807 b) a,()) else some (false,()))) none λr0=>(Q0 ((bif r0.1 then some (.inr (((9223372036854775807:Int),()),())) else (Q0 ((bif ilt b 0 then some (ilt a (Q1K .i64 (-9223372036854775808) b),()) else some (false,()))) none λr1=>(bif r1.1 then some (.inr (((-9223372036854775808:Int),()),())) else some (.inl ((a,(b,())),())))))) none λr2=>(Q3S r2 (λr3=>some ((Q4 .i64 r3.1.1 r3.1.2.1,()),((),()))) (λr3=>some (r3.1,((),()))))))
def Q3m:Q3m.T:=Q3m.gen
theorem Q3m.ok:NK_ 151 Q3m.sig (Q3m.W Q3m):=ok_ (H:=Q3m.H) (n:=6) Tryz.func151 (by intro a x;kernel_rfl) (hn_ Z2)
def Q2R.sig:Sig U:=⟨[.ptr,.data .Ql,.data .Ql,.int .i64],[.obj .Q1k],0,[.int .i64,.bool],true,[]⟩
abbrev Q2R.T:Type:=(Q9)->(Q9)->(Int)->(QB)->Option ((Int×Bool×Unit)×(QB×Unit)×Unit)
def Q2R.W (f:Q2R.T):Q2R.sig.F:=λa x=>f a.2.1 a.2.2.1 a.2.2.2.1 x.1
def Q2R.JR1:Qm U:= [(.normal,⟨23,11,[(3,vi_),(5,.ptr 9 0 0),(6,.ptr 10 0 0)],[(8,.obj .Q1k),(9,.obj .Ql),(10,.obj .Ql)]⟩)]
def Q2R.H (cK153:Q28.T) (cK166:Q3m.T) (cK167:Q2n.T):Hints U:={ Γ:=(Q2n.N cK167 (Qk 151 (Q3m.sig.native (Q3m.W cK166)) (Q28.N cK153 noΓ))),ro:=0,base:=9,Q2B:=jt_ [(1,Q2R.JR1)]}
def Q2R.gen (cK153:Q28.T) (cK166:Q3m.T) (cK167:Q2n.T):Q2R.T:=λsync follow at_3 h0=>
 (Q0 ((Q0 (cK153 h0) none λr0=>some ((at_3,()),(r0.2.1.1,(sync,(follow,())))))) none λr1=>(Q0 (cK166 r1.2.2.1.Q4B r1.2.2.2.1.Q4B) none λr2=>(Q0 (cK167 r2.1.1) none λr3=>some ((Q1K .i64 (Q1K .i64 r1.1.1 r1.2.2.2.1.Q4h) r3.1.1,(true,())),((r1.2.1,()),())))))
def Q2R:Q2R.T:=Q2R.gen Q28 Q3m Q2n
theorem Q2R.eq (cK153:Q28.T) (cK166:Q3m.T) (cK167:Q2n.T):EqA Q2R.sig (Q2R.H cK153 cK166 cK167) Tryz.f145 6 (Q2R.W (Q2R.gen cK153 cK166 cK167)):=by intro a x;kernel_rfl
theorem Q2R.ok:NK_ 145 Q2R.sig (Q2R.W Q2R):=ok_ Tryz.func145 (Q2R.eq Q28 Q3m Q2n) (hn_ (Z0 (Z0 (Z0 Z2 Q28.ok) Q3m.ok) Q2n.ok))
def Q2N.sig:Sig U:=⟨[.ptr,.data .Ql,.int .i64],[.obj .Q1k],0,[.int .i64,.bool],true,[]⟩
abbrev Q2N.T:Type:=(Q9)->(Int)->(QB)->Option ((Int×Bool×Unit)×(QB×Unit)×Unit)
def Q2N.W (f:Q2N.T):Q2N.sig.F:=λa x=>f a.2.1 a.2.2.1 x.1
def Q2N.C:Code:=match Tryz.f97.body with|some c=>c|none=>.skip
def Q2N.B0:Code:=match (Z3 Q2N.C).getD 0 .skip with| .loop b=>b| .scope b=>b|_=>.skip
def Q2N.JR7:Qm U:= [(.normal,⟨63,9,[(8,vi_),(9,vb_)],[(8,.obj .Q1k)]⟩)]
def Q2N.H (cK167:Q2n.T) (cK159:Q3y.T) (cK156:Q2R.T):Hints U:={ Γ:=(Qk 145 (Q2R.sig.native (Q2R.W cK156)) (Qk 144 (Q3y.sig.native (Q3y.W cK159)) (Q2n.N cK167 noΓ))),ro:=0,base:=9,Q1J:=jt_ [(5,[(38,vb_)])],Q2B:=jt_ [(6,Q2N.JR7),(7,Q2N.JR7)],gotos:=3,loop:=λb=>none}
def Q2N.gen (cK167:Q2n.T) (cK159:Q3y.T) (cK156:Q2R.T):Q2N.T:=λx_1 at_2 h0=>
 (bif ine x_1.fType 0 then some (((0:Int),(false,())),((h0,()),())) else (bif ieq (Q5p .i64 x_1.Q1W 512) 0 then (Q0 (cK167 x_1.Q4B) none λr0=>some ((Q1K .i64 (Q1K .i64 at_2 x_1.Q4h) r0.1.1,(true,())),((h0,()),()))) else (Q0 ((bif h0.Q6p then (Q0 (cK159 h0.Q2r) none λr1=>(Q0 (cK159 x_1) none λr2=>some (bif bif ieq r1.1.1.Q5t.QF r2.1.1.Q5t.QF then bif ieq r1.1.1.Q5t.QW r2.1.1.Q5t.QW then true else false else false then bif ieq r1.1.1.Q60 r2.1.1.Q60 then true else false else false,()))) else some (false,()))) none λr3=>(bif r3.1 then (Q0 ((Q0 (cK156 x_1 h0.Q2r at_2 h0) none λr4=>some (r4.1,r4.2.1))) none λr5=>some (r5.1,(r5.2,()))) else some (((0:Int),(false,())),((QB.mk x_1 h0.Q2r at_2 true h0.Q6p,()),()))))))
def Q2N:Q2N.T:=Q2N.gen Q2n Q3y Q2R
theorem Q2N.eq (cK167:Q2n.T) (cK159:Q3y.T) (cK156:Q2R.T):EqA Q2N.sig (Q2N.H cK167 cK159 cK156) Tryz.f97 6 (Q2N.W (Q2N.gen cK167 cK159 cK156)):=by intro a x;kernel_rfl
theorem Q2N.loops:Z3 Q2N.C= [(.scope Q2N.B0)]:=by kernel_rfl
theorem Q2N.ok:NK_ 97 Q2N.sig (Q2N.W Q2N):=ok_ Tryz.func97 (Q2N.eq Q2n Q3y Q2R) (hl_ (Z0 (Z0 (Z0 Z2 Q2n.ok) Q3y.ok) Q2R.ok) (Zt Z5)) Q2N.loops
def Q3t.sig:Sig U:=⟨[.ptr,.data .Ql],[.obj .Q1k],0,[.int .i64,.bool],true,[]⟩
abbrev Q3t.T:Type:=(Q9)->(QB)->Option ((Int×Bool×Unit)×(QB×Unit)×Unit)
def Q3t.W (f:Q3t.T):Q3t.sig.F:=λa x=>f a.2.1 x.1
def Q3t.JR5:Qm U:= [(.normal,⟨45,9,[],[(8,.obj .Q1k)]⟩)]
def Q3t.JC2:Qm U:= [(.normal,⟨45,10,[(0,.ptr 8 0 0),(3,.ptr 9 0 0)],[(8,.obj .Q1k),(9,.obj .Ql)]⟩),
 (.ret,⟨45,9,[(4,vi_),(5,vb_)],[(8,.obj .Q1k)]⟩)]
def Q3t.H (cK159:Q3y.T) (cK156:Q2R.T):Hints U:={ Γ:=(Qk 145 (Q2R.sig.native (Q2R.W cK156)) (Qk 144 (Q3y.sig.native (Q3y.W cK159)) noΓ)),ro:=0,base:=9,Q1J:=jt_ [(3,[(10,vb_)])],Q2B:=jt_ [(5,Q3t.JR5)],Q27:=jt_ [(2,Q3t.JC2)]}
def Q3t.gen (cK159:Q3y.T) (cK156:Q2R.T):Q3t.T:=λx_1 h0=>
 (Q0 ((bif ine x_1.fType 8 then some (.inr (((0:Int),(false,())),(h0,()))) else (Q0 ((bif h0.Qaa then (Q0 (cK159 h0.fsync) none λr0=>(Q0 (cK159 x_1) none λr1=>some (bif bif ieq r0.1.1.Q5t.QF r1.1.1.Q5t.QF then bif ieq r0.1.1.Q5t.QW r1.1.1.Q5t.QW then true else false else false then bif ieq r0.1.1.Q60 r1.1.1.Q60 then true else false else false,()))) else some (false,()))) none λr2=>(bif r2.1 then (Q0 (cK156 h0.fsync x_1 h0.fat h0) none λr3=>some (.inr (r3.1,r3.2.1))) else some (.inl ((),(h0,(x_1,())))))))) none λr4=>(Q3S r4 (λr5=>some (((0:Int),(false,())),((QB.Q8D (QB.Qap r5.2.1 r5.2.2.1) true,()),()))) (λr5=>some (r5.1,(r5.2,())))))
def Q3t:Q3t.T:=Q3t.gen Q3y Q2R
theorem Q3t.eq (cK159:Q3y.T) (cK156:Q2R.T):EqA Q3t.sig (Q3t.H cK159 cK156) Tryz.f98 6 (Q3t.W (Q3t.gen cK159 cK156)):=by intro a x;kernel_rfl
theorem Q3t.ok:NK_ 98 Q3t.sig (Q3t.W Q3t):=ok_ Tryz.func98 (Q3t.eq Q3y Q2R) (hn_ (Z0 (Z0 Z2 Q3y.ok) Q2R.ok))
def Q2V.sig:Sig U:=⟨[.ptr],[.obj .Q1t],1,[.int .i64],false,[]⟩
abbrev Q2V.T:Type:=(Qp)->Option ((Int×Unit)×Unit×Unit)
def Q2V.W (f:Q2V.T):Q2V.sig.F:=λa x=>f x.1
def Q2V.H:Hints U:={ Γ:=noΓ,ro:=9,base:=9}
def Q2V.gen:Q2V.T:=λh0=>
 some ((h0.Q8q,()),((),()))
def Q2V:Q2V.T:=Q2V.gen
theorem Q2V.ok:NK_ 73 Q2V.sig (Q2V.W Q2V):=ok_ (H:=Q2V.H) (n:=6) Tryz.func73 (by intro a x;kernel_rfl) (hn_ Z2)
def Q3e.sig:Sig U:=⟨[.int .i64],[],0,[.int .i64],false,[]⟩
abbrev Q3e.T:Type:=(Int)->Option ((Int×Unit)×Unit×Unit)
def Q3e.W (f:Q3e.T):Q3e.sig.F:=λa x=>f a.1
def Q3e.H (cK173:Q3k.T):Hints U:={ Γ:=(Qk 128 (Q3k.sig.native (Q3k.W cK173)) noΓ),ro:=0,base:=8}
def Q3e.gen (cK173:Q3k.T):Q3e.T:=λlog=>
 (Q0 (cK173 1000000000 log) none λr0=>some (r0.1,((),())))
def Q3e:Q3e.T:=Q3e.gen Q3k
theorem Q3e.eq (cK173:Q3k.T):EqA Q3e.sig (Q3e.H cK173) Tryz.f147 6 (Q3e.W (Q3e.gen cK173)):=by intro a x;kernel_rfl
theorem Q3e.ok:NK_ 147 Q3e.sig (Q3e.W Q3e):=ok_ Tryz.func147 (Q3e.eq Q3k) (hn_ (Z0 Z2 Q3k.ok))
def Q4q.sig:Sig U:=⟨[.int .i64,.int .i64],[],0,[.int .i64],false,[]⟩
abbrev Q4q.T:Type:=(Int)->(Int)->Option ((Int×Unit)×Unit×Unit)
def Q4q.W (f:Q4q.T):Q4q.sig.F:=λa x=>f a.1 a.2.1
def Q4q.H:Hints U:={ Γ:=noΓ,ro:=0,base:=8}
def Q4q.gen:Q4q.T:=λv most=>
 some ((Z4 true (IntKind.wrap .i64 ((0:Int) - most)) (Z4 false v most),()),((),()))
def Q4q:Q4q.T:=Q4q.gen
theorem Q4q.ok:NK_ 173 Q4q.sig (Q4q.W Q4q):=ok_ (H:=Q4q.H) (n:=6) Tryz.func173 (by intro a x;kernel_rfl) (hn_ Z2)
def Q2s.sig:Sig U:=⟨[.ptr,.int .i64,.int .i64],[.obj .Q1t],0,[.int .i64,.bool,.int .i64],true,[]⟩
abbrev Q2s.T:Type:=(Int)->(Int)->(Qp)->Option ((Int×Bool×Int×Unit)×(Qp×Unit)×Unit)
def Q2s.W (f:Q2s.T):Q2s.sig.F:=λa x=>f a.2.1 a.2.2.1 x.1
def Q2s.C:Code:=match Tryz.f146.body with|some c=>c|none=>.skip
def Q2s.B0:Code:=match (Z3 Q2s.C).getD 0 .skip with| .loop b=>b| .scope b=>b|_=>.skip
def Q2s.JC18:Qm U:= [(.normal,⟨141,9,[(0,.ptr 8 0 0)],[(8,.obj .Q1t)]⟩)]
def Q2s.JC16:Qm U:= [(.normal,⟨141,9,[(0,.ptr 8 0 0),(1,vi_)],[(8,.obj .Q1t)]⟩)]
def Q2s.H (cK163:Q4q.T):Hints U:={ Γ:=(Qk 173 (Q4q.sig.native (Q4q.W cK163)) noΓ),ro:=0,base:=9,Q1J:=jt_ [(4,[(45,vb_)]),(10,[(91,vb_)]),(15,[(114,vb_)]),(19,[(127,vb_)])],Q27:=jt_ [(16,Q2s.JC16),(18,Q2s.JC18)],gotos:=3,loop:=λb=>none}
def Q2s.gen (cK163:Q4q.T):Q2s.T:=λoffset interval h0=>
 (Q0 (cK163 offset 4000000000000000) none λr0=>(Q0 ((bif ieq h0.Q1u 0 then some (true,()) else (bif ieq h0.Q9R 0 then some (true,()) else (bif ilt h0.Q9R r0.1.1 then some (true,()) else some (ilt r0.1.1 (IntKind.wrap .i64 ((0:Int) - h0.Q9R)),()))))) none λr1=>(bif r1.1 then some ((IntKind.wrap .i64 ((0:Int) - r0.1.1),(true,(h0.Q8q,()))),((Qp.Q6J (Qp.Q3Q h0 1) 0,()),())) else (bif ine (Z4 true 1 (Z4 false interval 16000000000)) 0 then (Q0 (cK163 (Q59 .i64 (Q3u .i64 r0.1.1 1000000000) (Z4 true 1 (Z4 false interval 16000000000))) 512000000) none λr2=>(Q0 (cK163 (Q4 .i64 h0.Qan (Q59 .i64 (Q3u .i64 h0.fki r2.1.1) 1000)) 512000) none λr3=>(Q0 ((bif ilt 512000 (Q1K .i64 (IntKind.wrap .i64 ((0:Int) - Q59 .i64 (Q3u .i64 h0.fkp r2.1.1) 1000)) r3.1.1) then some (true,()) else some (ilt (Q1K .i64 (IntKind.wrap .i64 ((0:Int) - Q59 .i64 (Q3u .i64 h0.fkp r2.1.1) 1000)) r3.1.1) (-512000),()))) none λr4=>(bif r4.1 then (Q0 (cK163 (Q1K .i64 (IntKind.wrap .i64 ((0:Int) - Q59 .i64 (Q3u .i64 h0.fkp r2.1.1) 1000)) r3.1.1) 512000) none λr5=>(Q0 ((bif ilt 100 r0.1.1 then some (true,()) else some (ilt r0.1.1 (-100),()))) none λr6=>(Q0 ((bif r6.1 then some (r0.1,(Qp.Q6J (Qp.Q7d h0 r5.1.1) 0,())) else some (r0.1,(Qp.Q6J (Qp.Q7d h0 r5.1.1) (Q4 .i64 h0.Q8s 1),())))) none λr7=>(Q0 ((bif ile 3 r7.2.1.Q8s then some ((),(Qp.Q3Q r7.2.1 2,())) else (Q0 ((bif ilt 1000 r7.1.1 then some (true,()) else some (ilt r7.1.1 (-1000),()))) none λr8=>(bif r8.1 then some ((),(Qp.Q3Q r7.2.1 1,())) else some ((),r7.2))))) none λr9=>some (((0:Int),(false,(r9.2.1.Q8q,()))),(r9.2,())))))) else (Q0 ((bif ilt 100 r0.1.1 then some (true,()) else some (ilt r0.1.1 (-100),()))) none λr10=>(Q0 ((bif r10.1 then some (r0.1,(Qp.Q6J (Qp.Q96 (Qp.Q7d h0 (Q1K .i64 (IntKind.wrap .i64 ((0:Int) - Q59 .i64 (Q3u .i64 h0.fkp r2.1.1) 1000)) r3.1.1)) r3.1.1) 0,())) else some (r0.1,(Qp.Q6J (Qp.Q96 (Qp.Q7d h0 (Q1K .i64 (IntKind.wrap .i64 ((0:Int) - Q59 .i64 (Q3u .i64 h0.fkp r2.1.1) 1000)) r3.1.1)) r3.1.1) (Q4 .i64 h0.Q8s 1),())))) none λr11=>(Q0 ((bif ile 3 r11.2.1.Q8s then some ((),(Qp.Q3Q r11.2.1 2,())) else (Q0 ((bif ilt 1000 r11.1.1 then some (true,()) else some (ilt r11.1.1 (-1000),()))) none λr12=>(bif r12.1 then some ((),(Qp.Q3Q r11.2.1 1,())) else some ((),r11.2))))) none λr13=>some (((0:Int),(false,(r13.2.1.Q8q,()))),(r13.2,()))))))))) else none))))
def Q2s:Q2s.T:=Q2s.gen Q4q
theorem Q2s.eq (cK163:Q4q.T):EqA Q2s.sig (Q2s.H cK163) Tryz.f146 6 (Q2s.W (Q2s.gen cK163)):=by intro a x;kernel_rfl
theorem Q2s.loops:Z3 Q2s.C= [(.scope Q2s.B0)]:=by kernel_rfl
theorem Q2s.ok:NK_ 146 Q2s.sig (Q2s.W Q2s):=ok_ Tryz.func146 (Q2s.eq Q4q) (hl_ (Z0 Z2 Q4q.ok) (Zt Z5)) Q2s.loops
def K37.sig:Sig U:=⟨[.ptr,.Q5k 0 23 42 8,.int .i64],[.obj .Q7,Q5Z,Q51,Q5o,Q5S,Q5y],0,[],true,[]⟩
abbrev K37.T:Type:=(Nat)->(Int)->(Q1)->(Fm Qp)->(Fm Qg)->(Fm Qc)->(Fm Qh)->(Fm QB)->Option (Unit×(Q1×Q8Q)×Unit)
def K37.W (f:K37.T):K37.sig.F:=λa x=>f a.2.1 a.2.2.1 x.1 x.2.1 x.2.2.1 x.2.2.2.1 x.2.2.2.2.1 x.2.2.2.2.2.1
def K37.L0:Shape U:=⟨125,9,[(0,.ptr 8 0 0),(1,.Q1h 8 23 42 8 0),(68,vi_),(69,vi_)],(8,.obj .Q7)::Q73⟩
def K37.X0:Qm U:= [(.exit 1,⟨125,9,[(0,.ptr 8 0 0),(1,.Q1h 8 23 42 8 0)],(8,.obj .Q7)::Q73⟩)]
abbrev K37.l0T:Type:=((Nat×Int×Int×Unit)×(Q1×Q8Q))->Option (((Nat×Unit)×(Q1×Q8Q)))
def K37.C:Code:=match Tryz.f99.body with|some c=>c|none=>.skip
def K37.B0:Code:=match (Z3 K37.C).getD 0 .skip with| .loop b=>b| .scope b=>b|_=>.skip
def K37.JR14:Qm U:= [(.normal,⟨125,9,[(0,.ptr 8 0 0),(1,.Q1h 8 23 42 8 0),(68,vi_),(69,vi_)],(8,.obj .Q7)::Q73⟩)]
def K37.Qa1:Qm U:= [(.normal,⟨125,9,[(0,.ptr 8 0 0),(1,.Q1h 8 23 42 8 0),(11,.Q1h 8 23 42 8 0),(68,vi_),(69,vi_)],(8,.obj .Q7)::Q73⟩)]
def K37.JR6:Qm U:= [(.normal,⟨125,9,[(0,.ptr 8 0 0),(1,.Q1h 8 23 42 8 0)],(8,.obj .Q7)::Q73⟩)]
def K37.JR2:Qm U:= [(.normal,⟨125,9,[(0,.ptr 8 0 0),(1,.Q1h 8 23 42 8 0),(6,vi_),(7,vi_),(8,vb_),(9,vi_)],(8,.obj .Q7)::Q73⟩)]
def K37.JR0:Qm U:= [(.normal,⟨125,9,[(0,.ptr 8 0 0),(1,.Q1h 8 23 42 8 0),(2,vi_)],(8,.obj .Q7)::Q73⟩)]
def K37.H (cK161:Q2V.T) (cK170:Q3e.T) (cK162:Q2s.T) (cK103:Q1Z.T) (cK153:Q28.T) (cK64:K64.T) (cK132:Q26.T) (cK144:Q20.T) (l0:K37.l0T):Hints U:={ Γ:=(Q20.N cK144 (Q26.N cK132 (K64.N cK64 (Q28.N cK153 (Qk 87 (Q1Z.sig.native (Q1Z.W cK103)) (Qk 146 (Q2s.sig.native (Q2s.W cK162)) (Qk 147 (Q3e.sig.native (Q3e.W cK170)) (Qk 73 (Q2V.sig.native (Q2V.W cK161)) noΓ)))))))),ro:=0,base:=9,Q2B:=jt_ [(0,K37.JR0),(2,K37.JR2),(4,K37.JR6),(5,K37.JR6),(6,K37.JR6),(11,K37.Qa1),(12,K37.Qa1),(13,K37.Qa1),(14,K37.JR14)],Q27:=jt_ [(4,K37.JR6)],loop:=jt_ [(8,(Z9 (0,9) K37.L0 K37.X0 l0))]}
def K37.QO (cK161:Q2V.T) (cK170:Q3e.T) (cK162:Q2s.T) (cK103:Q1Z.T) (cK153:Q28.T) (cK64:K64.T) (cK132:Q26.T) (cK144:Q20.T) (a:(Nat×Int×Int×Unit)×(Q1×Q8Q)):Option (((Nat×Int×Int×Unit)×(Q1×Q8Q))⊕(((Nat×Unit)×(Q1×Q8Q)))):=
 (bif ilt a.1.2.2.1 a.1.2.1 then (bif inR a.1.2.2.1 8 then (Q0 ((Q0 ((a.2.1.Qe (Int.toNat a.1.2.2.1)).12) none λr0=>(Q0 (cK153 (a.2.2.2.2.2.2.1.2 r0)) none λr1=>some ((a.1.1,(Int.toNat a.1.2.2.1,a.1.2)),(a.2.1,(a.2.2.1,(a.2.2.2.1,(a.2.2.2.2.1,(a.2.2.2.2.2.1,((a.2.2.2.2.2.2.1.1,Qr a.2.2.2.2.2.2.1.2 r0 r1.2.1.1),())))))))))) none λr2=>(Q0 ((Q0 ((r2.2.1.Qe r2.1.2.1).13) none λr3=>(Q0 (cK64 (r2.2.2.2.1.2 r3)) none λr4=>some (r2.1,(r2.2.1,(r2.2.2.1,((r2.2.2.2.1.1,Qr r2.2.2.2.1.2 r3 r4.2.1.1),r2.2.2.2.2))))))) none λr5=>(Q0 ((Q0 ((r5.2.1.Qe r5.1.2.1).14) none λr6=>(Q0 (cK132 (r5.2.2.2.2.1.2 r6)) none λr7=>some (r5.1,(r5.2.1,(r5.2.2.1,(r5.2.2.2.1,((r5.2.2.2.2.1.1,Qr r5.2.2.2.2.1.2 r6 r7.2.1.1),r5.2.2.2.2.2)))))))) none λr8=>some (.inl ((r8.1.1,(r8.1.2.2.1,(Q4 .i64 r8.1.2.2.2.1 1,()))),(Q1.QU r8.2.1 (Qr r8.2.1.Qe r8.1.2.1 (Q5.Q63 (r8.2.1.Qe r8.1.2.1) z5_)),r8.2.2)))))) else none) else some (.inr ((a.1.1,()),a.2)))
def K37.F0:K37.l0T:=λa=>Z8 (1000000) (K37.QO Q2V Q3e Q2s Q1Z Q28 K64 Q26 Q20) a
def K37.gen (cK161:Q2V.T) (cK170:Q3e.T) (cK162:Q2s.T) (cK103:Q1Z.T) (cK153:Q28.T) (cK64:K64.T) (cK132:Q26.T) (cK144:Q20.T) (l0:K37.l0T):K37.T:=λp offset h0 g1 g3 g4 g5 g6=>
 (Q0 (h0.5) none λr0=>(Q0 (cK161 (g1.2 r0)) none λr1=>(Q0 ((Q0 (h0.5) none λr2=>(Q0 (cK170 h0.Qo.Q2G) none λr3=>(Q0 (cK162 offset r3.1.1 (g1.2 r2)) none λr4=>some ((p,(r1.1.1,r4.1)),(Q1.Qaq h0 offset,((g1.1,Qr g1.2 r2 r4.2.1.1),(g3,(g4,(g5,(g6,()))))))))))) none λr5=>(Q0 ((bif r5.1.2.2.2.1 then (Q0 ((bif room (List.length r5.2.1.Q2j+List.length (QJ.mk 2 0 r5.1.2.2.1 false 0 0 (ByteArray.mk (List.toArray (Qn UInt8)))::Qn QJ)) 64 then some ((r5.1.1,()),(Q1.Q13 r5.2.1 (r5.2.1.Q2j++QJ.mk 2 0 r5.1.2.2.1 false 0 0 (ByteArray.mk (List.toArray (Qn UInt8)))::Qn QJ),r5.2.2)) else none)) none λr6=>(Q0 ((Q0 (r6.2.1.6) none λr7=>(Q0 (cK103 (r6.2.2.2.2.2.1.2 r7)) none λr8=>some (r6.1,(r6.2.1,(r6.2.2.1,(r6.2.2.2.1,(r6.2.2.2.2.1,((r6.2.2.2.2.2.1.1,Qr r6.2.2.2.2.2.1.2 r7 r8.2.1.1),r6.2.2.2.2.2.2))))))))) none λr9=>(bif le3 (ofN 0) r9.2.1.Qo.Qv 8 then (Q0 (l0 ((r9.1.1,ofN (Int.toNat r9.2.1.Qo.Qv - Int.toNat (ofN 0)),(0:Int),()),Q1.Q6Q r9.2.1 z5_,r9.2.2)) none λr10=>some r10) else none))) else (bif ine r5.1.2.2.2.2.1 r5.1.2.1 then (bif room (List.length r5.2.1.Q2j+List.length (QJ.mk 3 0 r5.1.2.2.2.2.1 false 0 0 (ByteArray.mk (List.toArray (Qn UInt8)))::Qn QJ)) 64 then some ((r5.1.1,()),(Q1.Q13 r5.2.1 (r5.2.1.Q2j++QJ.mk 3 0 r5.1.2.2.2.2.1 false 0 0 (ByteArray.mk (List.toArray (Qn UInt8)))::Qn QJ),r5.2.2)) else none) else some ((r5.1.1,()),r5.2)))) none λr11=>(Q0 (cK144 (r11.2.1.Qe r11.1.1).Q1u 6 r11.2.1.Qo.Q25) none λr12=>some ((),((Q1.QU r11.2.1 (Qr r11.2.1.Qe r11.1.1 (Q5.Q3Q (r11.2.1.Qe r11.1.1) r12.1.1)),r11.2.2),())))))))
def K37:K37.T:=K37.gen Q2V Q3e Q2s Q1Z Q28 K64 Q26 Q20 K37.F0
theorem K37.Q24 (cK161:Q2V.T) (cK170:Q3e.T) (cK162:Q2s.T) (cK103:Q1Z.T) (cK153:Q28.T) (cK64:K64.T) (cK132:Q26.T) (cK144:Q20.T) (l0:K37.l0T) (a:K37.L0.T):run Tryz.prog (K37.H cK161 cK170 cK162 cK103 cK153 cK64 cK132 cK144 l0) 6 (Option (K37.L0.T⊕ExT K37.X0)) none K37.B0 (K37.L0.enc a) (Zi (0,9) K37.L0 K37.X0)=K37.QO cK161 cK170 cK162 cK103 cK153 cK64 cK132 cK144 a:=by kernel_rfl
abbrev K37.h:=K37.H Q2V Q3e Q2s Q1Z Q28 K64 Q26 Q20 K37.F0
theorem K37.Q1V:LO_ K37.h K37.B0 (Z9 (0,9) K37.L0 K37.X0 K37.F0):=lk_ (hn_ (Z0 (Z0 (Z0 (Z0 (Z0 (Z0 (Z0 (Z0 Z2 Q2V.ok) Q3e.ok) Q2s.ok) Q1Z.ok) Q28.ok) K64.ok) Q26.ok) Q20.ok)) (K37.Q24 Q2V Q3e Q2s Q1Z Q28 K64 Q26 Q20 K37.F0)
theorem K37.eq (cK161:Q2V.T) (cK170:Q3e.T) (cK162:Q2s.T) (cK103:Q1Z.T) (cK153:Q28.T) (cK64:K64.T) (cK132:Q26.T) (cK144:Q20.T) (l0:K37.l0T):EqA K37.sig (K37.H cK161 cK170 cK162 cK103 cK153 cK64 cK132 cK144 l0) Tryz.f99 6 (K37.W (K37.gen cK161 cK170 cK162 cK103 cK153 cK64 cK132 cK144 l0)):=by intro a x;kernel_rfl
theorem K37.loops:Z3 K37.C= [(.loop K37.B0)]:=by kernel_rfl
theorem K37.ok:NK_ 99 K37.sig (K37.W K37):=ok_ Tryz.func99 (K37.eq Q2V Q3e Q2s Q1Z Q28 K64 Q26 Q20 K37.F0) (hl_ (Z0 (Z0 (Z0 (Z0 (Z0 (Z0 (Z0 (Z0 Z2 Q2V.ok) Q3e.ok) Q2s.ok) Q1Z.ok) Q28.ok) K64.ok) Q26.ok) Q20.ok) (Z7 (by kernel_rfl) K37.Q1V Z5)) K37.loops
def K27.sig:Sig U:=⟨[.ptr,.Q5k 0 23 42 8,.data .Ql,.int .i64],[.obj .Q7,Q5Z,Q51,Q5o,Q5S,Q5y],0,[],true,[]⟩
abbrev K27.T:Type:=(Nat)->(Q9)->(Int)->(Q1)->(Fm Qp)->(Fm Qg)->(Fm Qc)->(Fm Qh)->(Fm QB)->Option (Unit×(Q1×Q8Q)×Unit)
def K27.W (f:K27.T):K27.sig.F:=λa x=>f a.2.1 a.2.2.1 a.2.2.2.1 x.1 x.2.1 x.2.2.1 x.2.2.2.1 x.2.2.2.2.1 x.2.2.2.2.2.1
def K27.JR6:Qm U:= [(.normal,⟨62,10,[(0,.ptr 8 0 0),(1,.Q1h 8 23 42 8 0),(8,vi_),(10,.ptr 9 0 0)],(8,.obj .Q7)::(9,.obj .Q2b)::Q73⟩)]
def K27.JR5:Qm U:= [(.normal,⟨62,9,[(0,.ptr 8 0 0),(1,.Q1h 8 23 42 8 0),(8,vi_)],(8,.obj .Q7)::Q73⟩)]
def K27.JR1:Qm U:= [(.normal,⟨62,10,[(0,.ptr 8 0 0),(1,.Q1h 8 23 42 8 0),(6,.ptr 9 0 0),(8,vi_),(9,vb_)],(8,.obj .Q7)::(9,.obj .Ql)::Q73⟩)]
def K27.JC3:Qm U:= [(.normal,⟨62,9,[(0,.ptr 8 0 0),(1,.Q1h 8 23 42 8 0),(8,vi_),(9,vb_)],(8,.obj .Q7)::Q73⟩)]
def K27.H (cK155:Q2N.T) (cK154:Q3t.T) (cK37:K37.T):Hints U:={ Γ:=(Qk 99 (K37.sig.native (K37.W cK37)) (Qk 98 (Q3t.sig.native (Q3t.W cK154)) (Qk 97 (Q2N.sig.native (Q2N.W cK155)) noΓ))),ro:=0,base:=9,Q2B:=jt_ [(1,K27.JR1),(5,K27.JR5),(6,K27.JR6)],Q27:=jt_ [(3,K27.JC3),(8,K27.JR6)]}
def K27.gen (cK155:Q2N.T) (cK154:Q3t.T) (cK37:K37.T):K27.T:=λp m now h0 g1 g3 g4 g5 g6=>
 (Q0 ((Q0 ((h0.Qe p).12) none λr0=>(Q0 (cK155 m now (g6.2 r0)) none λr1=>some ((p,r1.1),(h0,(m,(g1,(g3,(g4,(g5,((g6.1,Qr g6.2 r0 r1.2.1.1),()))))))))))) none λr2=>(Q0 ((bif ieq r2.2.2.1.fType 8 then (Q0 ((r2.2.1.Qe r2.1.1).12) none λr3=>(Q0 (cK154 r2.2.2.1 (r2.2.2.2.2.2.2.2.1.2 r3)) none λr4=>some ((r2.1.1,r4.1),(r2.2.1,(r2.2.2.2.1,(r2.2.2.2.2.1,(r2.2.2.2.2.2.1,(r2.2.2.2.2.2.2.1,((r2.2.2.2.2.2.2.2.1.1,Qr r2.2.2.2.2.2.2.2.1.2 r3 r4.2.1.1),()))))))))) else some (r2.1,(r2.2.1,r2.2.2.2)))) none λr5=>(bif !r5.1.2.2.1 then some ((),(r5.2,())) else (Q0 ((bif r5.2.1.Qo.Q4g then some ((r5.1.1,(r5.1.2.1,())),(Q1.QU r5.2.1 (Qr r5.2.1.Qe r5.1.1 (Q5.Q63 (r5.2.1.Qe r5.1.1) (Q16.mk r5.1.2.1 true))),((Qr r5.2.1.Qe r5.1.1 (Q5.Q63 (r5.2.1.Qe r5.1.1) (Q16.mk r5.1.2.1 true)) r5.1.1).Q3g,r5.2.2))) else some ((r5.1.1,(r5.1.2.1,())),(Q1.QU r5.2.1 (Qr r5.2.1.Qe r5.1.1 (Q5.Q63 (r5.2.1.Qe r5.1.1) (Q16.mk r5.1.2.1 true))),(r5.2.1.Q48,r5.2.2))))) none λr6=>(bif r6.2.2.1.fis then (Q0 (cK37 r6.1.1 (Q1K .i64 r6.1.2.1 r6.2.2.1.fv) r6.2.1 r6.2.2.2.1 r6.2.2.2.2.1 r6.2.2.2.2.2.1 r6.2.2.2.2.2.2.1 r6.2.2.2.2.2.2.2.1) none λr7=>some ((),r7.2)) else some ((),((r6.2.1,r6.2.2.2),())))))))
def K27:K27.T:=K27.gen Q2N Q3t K37
theorem K27.eq (cK155:Q2N.T) (cK154:Q3t.T) (cK37:K37.T):EqA K27.sig (K27.H cK155 cK154 cK37) Tryz.f57 6 (K27.W (K27.gen cK155 cK154 cK37)):=by intro a x;kernel_rfl
theorem K27.ok:NK_ 57 K27.sig (K27.W K27):=ok_ Tryz.func57 (K27.eq Q2N Q3t K37) (hn_ (Z0 (Z0 (Z0 Z2 Q2N.ok) Q3t.ok) K37.ok))
def K63.sig:Sig U:=⟨[.data .Ql,.data .Qw,.int .i64,.int .i64],[],0,[.data .Ql,.bool],true,[]⟩
abbrev K63.T:Type:=(Q9)->(Qf)->(Int)->(Int)->Option ((Q9×Bool×Unit)×Unit×Unit)
def K63.W (f:K63.T):K63.sig.F:=λa x=>f a.1 a.2.1 a.2.2.1 a.2.2.2.1
def K63.H (cK169:Q1O.T):Hints U:={ Γ:=(Q1O.N cK169 noΓ),ro:=0,base:=8,Q1J:=jt_ [(1,[(17,vb_)])]}
def K63.gen (cK169:Q1O.T):K63.T:=λm self at_2 log=>
 (Q0 ((bif ine m.fType 1 then some (true,()) else (Q0 (cK169 at_2) none λr0=>some (!r0.1.1,())))) none λr1=>(bif r1.1 then some ((Q9.mk 0 0 0 0 z0_ 0 0 0 z0_ 0 0 z1_ 0 0 0 0 0 0 0,(false,())),((),())) else some ((Q9.mk 9 m.Q1v 0 m.Q4B self m.Q36 log at_2 m.Q1G 0 0 z1_ 0 0 0 0 0 0 0,(true,())),((),()))))
def K63:K63.T:=K63.gen Q1O
theorem K63.eq (cK169:Q1O.T):EqA K63.sig (K63.H cK169) Tryz.f58 6 (K63.W (K63.gen cK169)):=by intro a x;kernel_rfl
theorem K63.ok:NK_ 58 K63.sig (K63.W K63):=ok_ Tryz.func58 (K63.eq Q1O) (hn_ (Z0 Z2 Q1O.ok))
def K66.sig:Sig U:=⟨[.ptr,.data .Ql],[.obj .Q14],0,[.int .i64,.bool],true,[]⟩
abbrev K66.T:Type:=(Q9)->(Qg)->Option ((Int×Bool×Unit)×(Qg×Unit)×Unit)
def K66.W (f:K66.T):K66.sig.F:=λa x=>f a.2.1 x.1
def K66.H (cK167:Q2n.T) (cK64:K64.T):Hints U:={ Γ:=(K64.N cK64 (Q2n.N cK167 noΓ)),ro:=0,base:=9,Q1J:=jt_ [(1,[(36,vb_)])]}
def K66.gen (cK167:Q2n.T) (cK64:K64.T):K66.T:=λm h0=>
 (Q0 ((bif ine m.fType 9 then some (true,()) else (bif !bif ieq m.Q2i.QF h0.Q5V.QF then bif ieq m.Q2i.QW h0.Q5V.QW then true else false else false then some (true,()) else (bif !h0.fr.Q6D then some (true,()) else some (ine m.Q36 h0.fr.Q60,()))))) none λr0=>(bif r0.1 then some (((0:Int),(false,())),((h0,()),())) else (Q0 (cK167 m.Q4B) none λr1=>(Q0 (cK64 h0) none λr2=>some ((Q1K .i64 (Q1K .i64 m.Q4h h0.fr.fat) r1.1.1,(true,())),r2.2)))))
def K66:K66.T:=K66.gen Q2n K64
theorem K66.eq (cK167:Q2n.T) (cK64:K64.T):EqA K66.sig (K66.H cK167 cK64) Tryz.f101 6 (K66.W (K66.gen cK167 cK64)):=by intro a x;kernel_rfl
theorem K66.ok:NK_ 101 K66.sig (K66.W K66):=ok_ Tryz.func101 (K66.eq Q2n K64) (hn_ (Z0 (Z0 Z2 Q2n.ok) K64.ok))
def Q3N.sig:Sig U:=⟨[.int .i64,.int .i64],[],0,[.cpx,.bool],true,[]⟩
abbrev Q3N.T:Type:=(Int)->(Int)->Option ((((Nat×Nat))×Bool×Unit)×Unit×Unit)
def Q3N.W (f:Q3N.T):Q3N.sig.F:=λa x=>f a.1 a.2.1
def Q3N.H:Hints U:={ Γ:=noΓ,ro:=0,base:=8,Q1J:=jt_ [(1,[(19,vb_)])]}
def Q3N.gen:Q3N.T:=λa b=>
 (Q0 ((bif ilt a (-4000000000000000) then some (true,()) else (bif ilt 4000000000000000 a then some (true,()) else (bif ilt b (-4000000000000000) then some (true,()) else some (ilt 4000000000000000 b,()))))) none λr0=>(bif r0.1 then some (((0,0),(false,())),((),())) else some (((Go.floatOfInt Go.FloatKind.f64 a,Go.floatOfInt Go.FloatKind.f64 b),(true,())),((),()))))
def Q3N:Q3N.T:=Q3N.gen
theorem Q3N.ok:NK_ 102 Q3N.sig (Q3N.W Q3N):=ok_ (H:=Q3N.H) (n:=6) Tryz.func102 (by intro a x;kernel_rfl) (hn_ Z2)
def Q4y.sig:Sig U:=⟨[.flt],[],0,[.flt],false,[]⟩
abbrev Q4y.T:Type:=(Nat)->Option ((Nat×Unit)×Unit×Unit)
def Q4y.W (f:Q4y.T):Q4y.sig.F:=λa x=>f a.1
def Q4y.H:Hints U:={ Γ:=(Qk 194 Z5i noΓ),ro:=0,base:=8}
def Q4y.gen:Q4y.T:=λx_0=>
 (Q0 ((Z2h (x_0))) none λr0=>some ((r0,()),((),())))
def Q4y:Q4y.T:=Q4y.gen
theorem Q4y.ok:NK_ 192 Q4y.sig (Q4y.W Q4y):=ok_ (H:=Q4y.H) (n:=6) Tryz.func192 (by intro a x;kernel_rfl) (hn_ (Z0 Z2 (Z7G Tryz.func194 rfl (by kernel_rfl) (by kernel_rfl) (by kernel_rfl))))
def Q4i.sig:Sig U:=⟨[.flt],[],0,[.bool],false,[]⟩
abbrev Q4i.T:Type:=(Nat)->Option ((Bool×Unit)×Unit×Unit)
def Q4i.W (f:Q4i.T):Q4i.sig.F:=λa x=>f a.1
def Q4i.H:Hints U:={ Γ:=(Qk 196 Z3Y noΓ),ro:=0,base:=8}
def Q4i.gen:Q4i.T:=λx_0=>
 some ((ilt (IntKind.wrap .i64 (ofN x_0)) 0,()),((),()))
def Q4i:Q4i.T:=Q4i.gen
theorem Q4i.ok:NK_ 193 Q4i.sig (Q4i.W Q4i):=ok_ (H:=Q4i.H) (n:=6) Tryz.func193 (by intro a x;kernel_rfl) (hn_ (Z0 Z2 (Z6D Tryz.func196 rfl (by kernel_rfl) (by kernel_rfl) (by kernel_rfl))))
def Q3X.sig:Sig U:=⟨[.flt],[],0,[.bool],false,[]⟩
abbrev Q3X.T:Type:=(Nat)->Option ((Bool×Unit)×Unit×Unit)
def Q3X.W (f:Q3X.T):Q3X.sig.F:=λa x=>f a.1
def Q3X.H (cK102:Q4y.T) (cK101:Q4i.T):Hints U:={ Γ:=(Qk 193 (Q4i.sig.native (Q4i.W cK101)) (Qk 192 (Q4y.sig.native (Q4y.W cK102)) noΓ)),ro:=0,base:=8}
def Q3X.gen (cK102:Q4y.T) (cK101:Q4i.T):Q3X.T:=λf=>
 (bif Ieee.Format.order (Go.FloatKind.format Go.FloatKind.f64) f 14063734437023318016==some Ordering.gt||Ieee.Format.order (Go.FloatKind.format Go.FloatKind.f64) f 14063734437023318016==some Ordering.eq then (bif Ieee.Format.order (Go.FloatKind.format Go.FloatKind.f64) f 4840362400168542208==some Ordering.lt||Ieee.Format.order (Go.FloatKind.format Go.FloatKind.f64) f 4840362400168542208==some Ordering.eq then (Q0 (cK102 f) none λr0=>(bif Ieee.Format.order (Go.FloatKind.format Go.FloatKind.f64) f r0.1.1==some Ordering.eq then (bif Ieee.Format.order (Go.FloatKind.format Go.FloatKind.f64) f 0 !=some Ordering.eq then some ((true,()),((),())) else (Q0 (cK101 f) none λr1=>some ((!r1.1.1,()),((),())))) else some ((false,()),((),())))) else some ((false,()),((),()))) else some ((false,()),((),())))
def Q3X:Q3X.T:=Q3X.gen Q4y Q4i
theorem Q3X.eq (cK102:Q4y.T) (cK101:Q4i.T):EqA Q3X.sig (Q3X.H cK102 cK101) Tryz.f186 6 (Q3X.W (Q3X.gen cK102 cK101)):=by intro a x;kernel_rfl
theorem Q3X.ok:NK_ 186 Q3X.sig (Q3X.W Q3X):=ok_ Tryz.func186 (Q3X.eq Q4y Q4i) (hn_ (Z0 (Z0 Z2 Q4y.ok) Q4i.ok))
def Q46.sig:Sig U:=⟨[.cpx],[],0,[.bool],false,[]⟩
abbrev Q46.T:Type:=((Nat×Nat))->Option ((Bool×Unit)×Unit×Unit)
def Q46.W (f:Q46.T):Q46.sig.F:=λa x=>f a.1
def Q46.H (cK130:Q3X.T):Hints U:={ Γ:=(Qk 186 (Q3X.sig.native (Q3X.W cK130)) noΓ),ro:=0,base:=8}
def Q46.gen (cK130:Q3X.T):Q46.T:=λz=>
 (Q0 (cK130 z.1) none λr0=>(bif r0.1.1 then (Q0 (cK130 z.2) none λr1=>some (r1.1,((),()))) else some ((false,()),((),()))))
def Q46:Q46.T:=Q46.gen Q3X
theorem Q46.eq (cK130:Q3X.T):EqA Q46.sig (Q46.H cK130) Tryz.f174 6 (Q46.W (Q46.gen cK130)):=by intro a x;kernel_rfl
theorem Q46.ok:NK_ 174 Q46.sig (Q46.W Q46):=ok_ Tryz.func174 (Q46.eq Q3X) (hn_ (Z0 Z2 Q3X.ok))
def Q44.sig:Sig U:=⟨[.cpx],[],0,[.cpx,.bool],true,[]⟩
abbrev Q44.T:Type:=((Nat×Nat))->Option ((((Nat×Nat))×Bool×Unit)×Unit×Unit)
def Q44.W (f:Q44.T):Q44.sig.F:=λa x=>f a.1
def Q44.H (cK129:Q46.T):Hints U:={ Γ:=(Qk 174 (Q46.sig.native (Q46.W cK129)) noΓ),ro:=0,base:=8}
def Q44.gen (cK129:Q46.T):Q44.T:=λz=>
 (Q0 (cK129 z) none λr0=>(bif !r0.1.1 then some (((0,0),(false,())),((),())) else (Q0 ((Go.cMulBits (z.1) (z.2) (4607182418800017408) (4607182418800017408))) none λr1=>some ((r1,(true,())),((),())))))
def Q44:Q44.T:=Q44.gen Q46
theorem Q44.eq (cK129:Q46.T):EqA Q44.sig (Q44.H cK129) Tryz.f148 6 (Q44.W (Q44.gen cK129)):=by intro a x;kernel_rfl
theorem Q44.ok:NK_ 148 Q44.sig (Q44.W Q44):=ok_ Tryz.func148 (Q44.eq Q46) (hn_ (Z0 Z2 Q46.ok))
def Q3O.sig:Sig U:=⟨[.cpx],[],0,[.int .i64,.bool],true,[]⟩
abbrev Q3O.T:Type:=((Nat×Nat))->Option ((Int×Bool×Unit)×Unit×Unit)
def Q3O.W (f:Q3O.T):Q3O.sig.F:=λa x=>f a.1
def Q3O.H (cK128:Q44.T):Hints U:={ Γ:=(Qk 148 (Q44.sig.native (Q44.W cK128)) noΓ),ro:=0,base:=8}
def Q3O.gen (cK128:Q44.T):Q3O.T:=λz=>
 (Q0 (cK128 z) none λr0=>(Q0 ((Go.floatToIntVal Go.FloatKind.f64 (r0.1.1.2) .i64)) none λr1=>some ((Q5Y .i64 r1 1,r0.1.2),((),()))))
def Q3O:Q3O.T:=Q3O.gen Q44
theorem Q3O.eq (cK128:Q44.T):EqA Q3O.sig (Q3O.H cK128) Tryz.f103 6 (Q3O.W (Q3O.gen cK128)):=by intro a x;kernel_rfl
theorem Q3O.ok:NK_ 103 Q3O.sig (Q3O.W Q3O):=ok_ Tryz.func103 (Q3O.eq Q44) (hn_ (Z0 Z2 Q44.ok))
def Q10.sig:Sig U:=⟨[.ptr],[.obj .Q19],1,[.int .i64,.bool],true,[]⟩
abbrev Q10.T:Type:=(Qh)->Option ((Int×Bool×Unit)×Unit×Unit)
def Q10.W (f:Q10.T):Q10.sig.F:=λa x=>f x.1
def Q10.L0:Shape U:=⟨60,10,[(0,.ptr 8 0 0),(4,.ptr 9 0 0),(20,.asl 8 0 1 15),(21,vi_),(22,vi_)],[(8,.obj .Q19),(9,.Q1P true .int)]⟩
def Q10.X0:Qm U:= [(.exit 0,⟨60,10,[(0,.ptr 8 0 0),(4,.ptr 9 0 0)],[(8,.obj .Q19),(9,.Q1P true .int)]⟩)]
abbrev Q10.l0T:Type:=(((Nat×Nat)×Int×Int×Unit)×(Qh×(Fm Int)×Unit))->Option ((Unit×(Qh×(Fm Int)×Unit)))
def Q10.L1:Shape U:=⟨60,10,[(0,.ptr 8 0 0),(4,.ptr 9 0 0),(5,vi_),(6,vi_),(7,vi_),(20,.asl 8 0 1 15),(21,vi_),(22,vi_)],[(8,.obj .Q19),(9,.Q1P true .int)]⟩
def Q10.X1:Qm U:= [(.exit 2,⟨60,10,[(0,.ptr 8 0 0),(4,.ptr 9 0 0),(5,vi_),(6,vi_),(7,vi_),(20,.asl 8 0 1 15),(21,vi_),(22,vi_)],[(8,.obj .Q19),(9,.Q1P true .int)]⟩)]
abbrev Q10.l1T:Type:=((Int×Int×Int×(Nat×Nat)×Int×Int×Unit)×(Qh×(Fm Int)×Unit))->Option (((Int×Int×Int×(Nat×Nat)×Int×Int×Unit)×(Qh×(Fm Int)×Unit)))
def Q10.C:Code:=match Tryz.f149.body with|some c=>c|none=>.skip
def Q10.B0:Code:=match (Z3 Q10.C).getD 0 .skip with| .loop b=>b| .scope b=>b|_=>.skip
def Q10.B1:Code:=match (Z3 Q10.C).getD 1 .skip with| .loop b=>b| .scope b=>b|_=>.skip
def Q10.H (l0:Q10.l0T) (l1:Q10.l1T):Hints U:={ Γ:=(Qk 3000000156 ZG noΓ),ro:=9,base:=9,Q1J:=jt_ [(8,[(36,vb_)])],loop:=jt_ [(5,(Z9 (9,9) Q10.L0 Q10.X0 l0)),(8,(Z9 (9,9) Q10.L1 Q10.X1 l1))]}
def Q10.Q2A (a:(Int×Int×Int×(Nat×Nat)×Int×Int×Unit)×(Qh×(Fm Int)×Unit)):Option (((Int×Int×Int×(Nat×Nat)×Int×Int×Unit)×(Qh×(Fm Int)×Unit))⊕(((Int×Int×Int×(Nat×Nat)×Int×Int×Unit)×(Qh×(Fm Int)×Unit)))):=
 (Q0 ((bif ilt a.1.2.2.1 a.1.1 then (bif bif inR a.1.2.2.1 15 then inR a.1.2.2.1 a.2.2.1.1 else false then some (ile (a.2.2.1.2 (Int.toNat a.1.2.2.1)) a.1.2.1,()) else none) else some (false,()))) none λr0=>(bif r0.1 then some (.inl ((a.1.1,(a.1.2.1,(Q4 .i64 a.1.2.2.1 1,a.1.2.2.2))),a.2)) else some (.inr a)))
def Q10.F1:Q10.l1T:=λa=>Z8 (1000000+(a.1.2.2.2.1.2)) (Q10.Q2A) a
def Q10.QO (l1:Q10.l1T) (a:((Nat×Nat)×Int×Int×Unit)×(Qh×(Fm Int)×Unit)):Option ((((Nat×Nat)×Int×Int×Unit)×(Qh×(Fm Int)×Unit))⊕((Unit×(Qh×(Fm Int)×Unit)))):=
 (bif ilt a.1.2.2.1 a.1.2.1 then (bif inR a.1.2.2.1 a.1.1.2 then (Q0 (l1 ((a.1.2.2.1,a.2.1.fl (a.1.1.1+Int.toNat a.1.2.2.1),(0:Int),a.1),a.2)) none λr0=>(bif bif le3 (Q4 .i64 r0.1.2.2.1 1) (Q4 .i64 r0.1.1 1) 15 then le3 (Q4 .i64 r0.1.2.2.1 1) (Q4 .i64 r0.1.1 1) r0.2.2.1.1 else false then (bif bif le3 r0.1.2.2.1 r0.1.1 15 then le3 r0.1.2.2.1 r0.1.1 r0.2.2.1.1 else false then (bif bif inR r0.1.2.2.1 15 then inR r0.1.2.2.1 r0.2.2.1.1 else false then some (.inl ((r0.1.2.2.2.1,(r0.1.2.2.2.2.1,(Q4 .i64 r0.1.2.2.2.2.2.1 1,()))),(r0.2.1,((r0.2.2.1.1,Qr (λ(i:Nat)=>bif Nat.ble (Int.toNat (Q4 .i64 r0.1.2.2.1 1)) i && Nat.blt i (Int.toNat (Q4 .i64 r0.1.2.2.1 1)+Nat.min (Int.toNat r0.1.1 - Int.toNat r0.1.2.2.1) (Int.toNat (Q4 .i64 r0.1.1 1) - Int.toNat (Q4 .i64 r0.1.2.2.1 1))) then r0.2.2.1.2 (Int.toNat r0.1.2.2.1+(i - Int.toNat (Q4 .i64 r0.1.2.2.1 1))) else r0.2.2.1.2 i) (Int.toNat r0.1.2.2.1) r0.1.2.1),())))) else none) else none) else none)) else none) else some (.inr ((),a.2)))
def Q10.F0:Q10.l0T:=λa=>Z8 (1000000+(a.1.1.2)) (Q10.QO Q10.F1) a
def Q10.gen (l0:Q10.l0T) (l1:Q10.l1T):Q10.T:=λh0=>
 (bif ieq h0.fn 0 then some (((0:Int),(false,())),((),())) else (bif le3 (ofN 0) h0.fn 15 then (Q0 (l0 (((Int.toNat (ofN 0),Int.toNat h0.fn - Int.toNat (ofN 0)),ofN (Int.toNat h0.fn - Int.toNat (ofN 0)),(0:Int),()),h0,(15,λ(j:Nat)=>List.getD ((0:Int)::(0:Int)::(0:Int)::(0:Int)::(0:Int)::(0:Int)::(0:Int)::(0:Int)::(0:Int)::(0:Int)::(0:Int)::(0:Int)::(0:Int)::(0:Int)::(0:Int)::Qn Int) j (0:D UC.int)),())) none λr0=>(bif bif inR (Q59 .i64 (Q1K .i64 r0.2.1.fn 1) 2) 15 then inR (Q59 .i64 (Q1K .i64 r0.2.1.fn 1) 2) r0.2.2.1.1 else false then some ((r0.2.2.1.2 (Int.toNat (Q59 .i64 (Q1K .i64 r0.2.1.fn 1) 2)),(true,())),((),())) else none)) else none))
def Q10:Q10.T:=Q10.gen Q10.F0 Q10.F1
theorem Q10.seq1 (l0:Q10.l0T) (l1:Q10.l1T) (a:Q10.L1.T):run Tryz.prog (Q10.H l0 l1) 6 (Option (Q10.L1.T⊕ExT Q10.X1)) none Q10.B1 (Q10.L1.enc a) (Zi (9,9) Q10.L1 Q10.X1)=Q10.Q2A a:=by kernel_rfl
abbrev Q10.h:=Q10.H Q10.F0 Q10.F1
theorem Q10.Q5h:LO_ Q10.h Q10.B1 (Z9 (9,9) Q10.L1 Q10.X1 Q10.F1):=lk_ (hn_ (Z0 Z2 Zc)) (Q10.seq1 Q10.F0 Q10.F1)
theorem Q10.Q24 (l0:Q10.l0T) (l1:Q10.l1T) (a:Q10.L0.T):run Tryz.prog (Q10.H l0 l1) 6 (Option (Q10.L0.T⊕ExT Q10.X0)) none Q10.B0 (Q10.L0.enc a) (Zi (9,9) Q10.L0 Q10.X0)=Q10.QO l1 a:=by kernel_rfl
theorem Q10.Q5a:Z3 Q10.B0= [(.loop Q10.B1)]:=by kernel_rfl
theorem Q10.Q1V:ZI U Tryz.prog Q10.h.ro Q10.h.base Q10.B0 (Z9 (9,9) Q10.L0 Q10.X0 Q10.F0):=
 Z2Q (Hn:=Q10.h) Q61 Q4F (Z1F (hq (Z0 Z2 Zc) (Z7 (by kernel_rfl) Q10.Q5h Z5) (λ_=>rfl) (λ_=>rfl)) 6) (λb h=>by rw [Q10.Q5a] at h;exact h) (λ_=>rfl) (Q10.Q24 Q10.F0 Q10.F1)
theorem Q10.eq (l0:Q10.l0T) (l1:Q10.l1T):EqA Q10.sig (Q10.H l0 l1) Tryz.f149 6 (Q10.W (Q10.gen l0 l1)):=by intro a x;kernel_rfl
theorem Q10.loops:Z3 Q10.C= [(.loop Q10.B0),(.loop Q10.B1)]:=by kernel_rfl
theorem Q10.ok:NK_ 149 Q10.sig (Q10.W Q10):=ok_ Tryz.func149 (Q10.eq Q10.F0 Q10.F1) (hl_ (Z0 Z2 Zc) (Z7 (by kernel_rfl) Q10.Q1V (Z7 (by kernel_rfl) Q10.Q5h Z5))) Q10.loops
def Q3F.sig:Sig U:=⟨[.ptr,.int .i64],[.obj .Q19],0,[.int .i64],false,[]⟩
abbrev Q3F.T:Type:=(Int)->(Qh)->Option ((Int×Unit)×(Qh×Unit)×Unit)
def Q3F.W (f:Q3F.T):Q3F.sig.F:=λa x=>f a.2.1 x.1
def Q3F.JC2:Qm U:= [(.normal,⟨58,9,[(0,.ptr 8 0 0),(1,vi_)],[(8,.obj .Q19)]⟩)]
def Q3F.H (cK104:Q10.T):Hints U:={ Γ:=(Qk 149 (Q10.sig.native (Q10.W cK104)) noΓ),ro:=0,base:=9,Q27:=jt_ [(2,Q3F.JC2)]}
def Q3F.gen (cK104:Q10.T):Q3F.T:=λv h0=>
 (Q0 ((bif ieq h0.fn h0.Q4W then (bif le3 1 h0.fn 15 then some ((v,()),(Qh.mk (λ(i:Nat)=>bif Nat.ble (Int.toNat (ofN 0)) i && Nat.blt i (Int.toNat (ofN 0)+Nat.min (Int.toNat h0.fn - Int.toNat 1) (Int.toNat (ofN 15) - Int.toNat (ofN 0))) then h0.fl (Int.toNat 1+(i - Int.toNat (ofN 0))) else h0.fl i) (Q1K .i64 h0.fn 1) h0.Q4W,())) else none) else some ((v,()),(h0,())))) none λr0=>(bif inR r0.2.1.fn 15 then (Q0 (cK104 (Qh.mk (Qr r0.2.1.fl (Int.toNat r0.2.1.fn) r0.1.1) (Q4 .i64 r0.2.1.fn 1) r0.2.1.Q4W)) none λr1=>some ((r1.1.1,()),((Qh.mk (Qr r0.2.1.fl (Int.toNat r0.2.1.fn) r0.1.1) (Q4 .i64 r0.2.1.fn 1) r0.2.1.Q4W,()),()))) else none))
def Q3F:Q3F.T:=Q3F.gen Q10
theorem Q3F.eq (cK104:Q10.T):EqA Q3F.sig (Q3F.H cK104) Tryz.f104 6 (Q3F.W (Q3F.gen cK104)):=by intro a x;kernel_rfl
theorem Q3F.ok:NK_ 104 Q3F.sig (Q3F.W Q3F):=ok_ Tryz.func104 (Q3F.eq Q10) (hn_ (Z0 Z2 Q10.ok))
def K21.sig:Sig U:=⟨[.ptr,.Q5k 0 23 42 8,.data .Ql],[.obj .Q7,Q51,Q5S],0,[],true,[]⟩
abbrev K21.T:Type:=(Nat)->(Q9)->(Q1)->(Fm Qg)->(Fm Qh)->Option (Unit×(Q1×(Fm Qg)×(Fm Qh)×Unit)×Unit)
def K21.W (f:K21.T):K21.sig.F:=λa x=>f a.2.1 a.2.2.1 x.1 x.2.1 x.2.2.1
def K21.JR1:Qm U:= [(.normal,⟨57,9,[(0,.ptr 8 0 0),(1,.Q1h 8 23 42 8 0),(6,vi_),(7,vb_)],[(8,.obj .Q7),(3,.Q1P false .Q14),(5,.Q1P false .Q19)]⟩)]
def K21.H (cK66:K66.T) (cK127:Q3N.T) (cK126:Q3O.T) (cK105:Q3F.T):Hints U:={ Γ:=(Qk 104 (Q3F.sig.native (Q3F.W cK105)) (Qk 103 (Q3O.sig.native (Q3O.W cK126)) (Qk 102 (Q3N.sig.native (Q3N.W cK127)) (Qk 101 (K66.sig.native (K66.W cK66)) noΓ)))),ro:=0,base:=9,Q1J:=jt_ [(2,[(29,vb_)])],Q2B:=jt_ [(1,K21.JR1)]}
def K21.gen (cK66:K66.T) (cK127:Q3N.T) (cK126:Q3O.T) (cK105:Q3F.T):K21.T:=λp m h0 g3 g5=>
 (Q0 ((Q0 ((h0.Qe p).13) none λr0=>(Q0 (cK66 m (g3.2 r0)) none λr1=>some ((p,r1.1),(h0,((g3.1,Qr g3.2 r0 r1.2.1.1),(g5,()))))))) none λr2=>(Q0 ((bif !r2.1.2.2.1 then some (true,()) else some (!(r2.2.1.Qe r2.1.1).Q7f.fis,()))) none λr3=>(bif r3.1 then some ((),(r2.2,())) else (Q0 (cK127 (r2.2.1.Qe r2.1.1).Q7f.fv r2.1.2.1) none λr4=>(bif !r4.1.2.1 then some ((),(r2.2,())) else (Q0 (cK126 r4.1.1) none λr5=>(Q0 (r2.2.1.6) none λr6=>(Q0 (cK105 r5.1.1 (r2.2.2.2.1.2 r6)) none λr7=>some ((),((Q1.Q6Q r2.2.1 (Q16.mk r7.1.1 true),(r2.2.2.1,((r2.2.2.2.1.1,Qr r2.2.2.2.1.2 r6 r7.2.1.1),()))),()))))))))))
def K21:K21.T:=K21.gen K66 Q3N Q3O Q3F
theorem K21.eq (cK66:K66.T) (cK127:Q3N.T) (cK126:Q3O.T) (cK105:Q3F.T):EqA K21.sig (K21.H cK66 cK127 cK126 cK105) Tryz.f60 6 (K21.W (K21.gen cK66 cK127 cK126 cK105)):=by intro a x;kernel_rfl
theorem K21.ok:NK_ 60 K21.sig (K21.W K21):=ok_ Tryz.func60 (K21.eq K66 Q3N Q3O Q3F) (hn_ (Z0 (Z0 (Z0 (Z0 Z2 K66.ok) Q3N.ok) Q3O.ok) Q3F.ok))
def Q3V.sig:Sig U:=⟨[.data .Ql,.data .Qw,.int .i64],[],0,[.data .Ql,.bool],true,[]⟩
abbrev Q3V.T:Type:=(Q9)->(Qf)->(Int)->Option ((Q9×Bool×Unit)×Unit×Unit)
def Q3V.W (f:Q3V.T):Q3V.sig.F:=λa x=>f a.1 a.2.1 a.2.2.1
def Q3V.H (cK169:Q1O.T):Hints U:={ Γ:=(Q1O.N cK169 noΓ),ro:=0,base:=8,Q1J:=jt_ [(1,[(15,vb_)])]}
def Q3V.gen (cK169:Q1O.T):Q3V.T:=λm self at_2=>
 (Q0 ((bif ine m.fType 2 then some (true,()) else (Q0 (cK169 at_2) none λr0=>some (!r0.1.1,())))) none λr1=>(bif r1.1 then some ((Q9.mk 0 0 0 0 z0_ 0 0 0 z0_ 0 0 z1_ 0 0 0 0 0 0 0,(false,())),((),())) else some ((Q9.mk 3 m.Q1v 512 m.Q4B self m.Q36 127 at_2 m.Q1G 0 0 z1_ 0 0 0 0 0 0 0,(true,())),((),()))))
def Q3V:Q3V.T:=Q3V.gen Q1O
theorem Q3V.eq (cK169:Q1O.T):EqA Q3V.sig (Q3V.H cK169) Tryz.f105 6 (Q3V.W (Q3V.gen cK169)):=by intro a x;kernel_rfl
theorem Q3V.ok:NK_ 105 Q3V.sig (Q3V.W Q3V):=ok_ Tryz.func105 (Q3V.eq Q1O) (hn_ (Z0 Z2 Q1O.ok))
def Q3C.sig:Sig U:=⟨[.ptr,.data .Ql,.int .i64],[.obj .Q15],1,[.bool],false,[]⟩
abbrev Q3C.T:Type:=(Q9)->(Int)->(Qc)->Option ((Bool×Unit)×Unit×Unit)
def Q3C.W (f:Q3C.T):Q3C.sig.F:=λa x=>f a.2.1 a.2.2.1 x.1
def Q3C.H:Hints U:={ Γ:=noΓ,ro:=9,base:=9}
def Q3C.gen:Q3C.T:=λm typ h0=>
 (bif ieq m.fType typ then (bif bif ieq m.Q2i.QF h0.Q5V.QF then bif ieq m.Q2i.QW h0.Q5V.QW then true else false else false then (bif h0.Q6D then some ((ieq m.Q36 h0.Q60,()),((),())) else some ((false,()),((),()))) else some ((false,()),((),()))) else some ((false,()),((),())))
def Q3C:Q3C.T:=Q3C.gen
theorem Q3C.ok:NK_ 150 Q3C.sig (Q3C.W Q3C):=ok_ (H:=Q3C.H) (n:=6) Tryz.func150 (by intro a x;kernel_rfl) (hn_ Z2)
def Q34.sig:Sig U:=⟨[.ptr,.data .Ql,.int .i64],[.obj .Q15],0,[.bool],false,[]⟩
abbrev Q34.T:Type:=(Q9)->(Int)->(Qc)->Option ((Bool×Unit)×(Qc×Unit)×Unit)
def Q34.W (f:Q34.T):Q34.sig.F:=λa x=>f a.2.1 a.2.2.1 x.1
def Q34.C:Code:=match Tryz.f106.body with|some c=>c|none=>.skip
def Q34.B0:Code:=match (Z3 Q34.C).getD 0 .skip with| .loop b=>b| .scope b=>b|_=>.skip
def Q34.H (cK137:Q3C.T):Hints U:={ Γ:=(Qk 150 (Q3C.sig.native (Q3C.W cK137)) noΓ),ro:=0,base:=9,gotos:=3,loop:=λb=>none}
def Q34.gen (cK137:Q3C.T):Q34.T:=λm at_2 h0=>
 (Q0 (cK137 m 3 h0) none λr0=>(bif !r0.1.1 then some ((false,()),((h0,()),())) else (bif h0.Q4Z then some ((false,()),((Qc.Qas h0 true,()),())) else some ((true,()),((Qc.Qbs (Qc.Q9J (Qc.Q6M h0 true) m) at_2,()),())))))
def Q34:Q34.T:=Q34.gen Q3C
theorem Q34.eq (cK137:Q3C.T):EqA Q34.sig (Q34.H cK137) Tryz.f106 6 (Q34.W (Q34.gen cK137)):=by intro a x;kernel_rfl
theorem Q34.loops:Z3 Q34.C= [(.scope Q34.B0)]:=by kernel_rfl
theorem Q34.ok:NK_ 106 Q34.sig (Q34.W Q34):=ok_ Tryz.func106 (Q34.eq Q3C) (hl_ (Z0 Z2 Q3C.ok) (Zt Z5)) Q34.loops
def Q35.sig:Sig U:=⟨[.ptr,.data .Ql],[.obj .Q15],0,[.int .i64,.bool],true,[]⟩
abbrev Q35.T:Type:=(Q9)->(Qc)->Option ((Int×Bool×Unit)×(Qc×Unit)×Unit)
def Q35.W (f:Q35.T):Q35.sig.F:=λa x=>f a.2.1 x.1
def Q35.C:Code:=match Tryz.f107.body with|some c=>c|none=>.skip
def Q35.B0:Code:=match (Z3 Q35.C).getD 0 .skip with| .loop b=>b| .scope b=>b|_=>.skip
def Q35.H (cK137:Q3C.T) (cK166:Q3m.T) (cK167:Q2n.T) (cK132:Q26.T):Hints U:={ Γ:=(Q26.N cK132 (Q2n.N cK167 (Qk 151 (Q3m.sig.native (Q3m.W cK166)) (Qk 150 (Q3C.sig.native (Q3C.W cK137)) noΓ)))),ro:=0,base:=9,Q1J:=jt_ [(2,[(33,vb_)])],gotos:=3,loop:=λb=>none}
def Q35.gen (cK137:Q3C.T) (cK166:Q3m.T) (cK167:Q2n.T) (cK132:Q26.T):Q35.T:=λm h0=>
 (Q0 ((Q0 (cK137 m 10 h0) none λr0=>(bif !r0.1.1 then some (true,()) else (bif !h0.Q4Z then some (true,()) else (bif h0.Q9v then some (true,()) else some (!bif ieq m.Q1G.QF h0.Q1Q.Q1G.QF then bif ieq m.Q1G.QW h0.Q1Q.Q1G.QW then true else false else false,())))))) none λr1=>(bif r1.1 then some (((0:Int),(false,())),((h0,()),())) else (Q0 (cK166 h0.Q1Q.Q4B m.Q4B) none λr2=>(Q0 (cK167 r2.1.1) none λr3=>(Q0 (cK132 h0) none λr4=>some ((Q5Y .i64 (Q1K .i64 (Q1K .i64 (Q1K .i64 h0.Qb6 h0.fat) (Q1K .i64 m.Q4h h0.Q1Q.Q4h)) r3.1.1) 1,(true,())),r4.2))))))
def Q35:Q35.T:=Q35.gen Q3C Q3m Q2n Q26
theorem Q35.eq (cK137:Q3C.T) (cK166:Q3m.T) (cK167:Q2n.T) (cK132:Q26.T):EqA Q35.sig (Q35.H cK137 cK166 cK167 cK132) Tryz.f107 6 (Q35.W (Q35.gen cK137 cK166 cK167 cK132)):=by intro a x;kernel_rfl
theorem Q35.loops:Z3 Q35.C= [(.scope Q35.B0)]:=by kernel_rfl
theorem Q35.ok:NK_ 107 Q35.sig (Q35.W Q35):=ok_ Tryz.func107 (Q35.eq Q3C Q3m Q2n Q26) (hl_ (Z0 (Z0 (Z0 (Z0 Z2 Q3C.ok) Q3m.ok) Q2n.ok) Q26.ok) (Zt Z5)) Q35.loops
def K24.sig:Sig U:=⟨[.ptr,.int .i64,.data .Ql,.int .i64],[.obj .Q7,Q5o],0,[],true,[]⟩
abbrev K24.T:Type:=(Int)->(Q9)->(Int)->(Q1)->(Fm Qc)->Option (Unit×(Q1×(Fm Qc)×Unit)×Unit)
def K24.W (f:K24.T):K24.sig.F:=λa x=>f a.2.1 a.2.2.1 a.2.2.2.1 x.1 x.2.1
def K24.Q7P:Qm U:= [(.normal,⟨68,9,[(8,.Q1h 8 23 42 8 0),(11,vi_),(12,vb_)],[(8,.obj .Q7),(4,.Q1P false .Q15)]⟩)]
def K24.JR6:Qm U:= [(.normal,⟨68,10,[(6,.ptr 9 0 0),(8,.Q1h 8 23 42 8 0)],[(8,.obj .Q7),(9,.obj .Ql),(4,.Q1P false .Q15)]⟩)]
def K24.JR4:Qm U:= [(.normal,⟨68,11,[(0,.ptr 8 0 0),(1,vi_),(6,.ptr 9 0 0),(8,.Q1h 8 23 42 8 0),(9,.ptr 10 0 0),(10,vb_)],[(8,.obj .Q7),(9,.obj .Ql),(10,.obj .Ql),(4,.Q1P false .Q15)]⟩)]
def K24.H (cK40:K40.T) (cK38:K38.T) (cK131:Q3V.T) (cK34:K34.T) (cK135:Q34.T) (cK133:Q35.T):Hints U:={ Γ:=(Qk 107 (Q35.sig.native (Q35.W cK133)) (Qk 106 (Q34.sig.native (Q34.W cK135)) (K34.N cK34 (Qk 105 (Q3V.sig.native (Q3V.W cK131)) (K38.N cK38 (K40.N cK40 noΓ)))))),ro:=0,base:=9,Q2B:=jt_ [(4,K24.JR4),(6,K24.JR6),(11,K24.Q7P)]}
def K24.gen (cK40:K40.T) (cK38:K38.T) (cK131:Q3V.T) (cK34:K34.T) (cK135:Q34.T) (cK133:Q35.T):K24.T:=λn m now h0 g4=>
 (Q0 (cK40 n h0) none λr0=>(bif ieq m.fType 2 then (Q0 ((Q0 (cK38 n h0) none λr1=>(Q0 (cK131 m r1.1.1 now) none λr2=>some ((n,(r0.1.1,r2.1.2)),(h0,(m,(r2.1.1,(g4,())))))))) none λr3=>(bif r3.1.2.2.1 then (Q0 ((Q0 (cK34 r3.1.1 r3.2.2.2.1 (Qn Qi) true r3.2.1) none λr4=>some ((r3.1.2.1,()),(r4.2.1.1,(r3.2.2.1,r3.2.2.2.2))))) none λr5=>some ((),((Q1.QU r5.2.1 (Qr (Qr r5.2.1.Qe r5.1.1 (Q5.Q94 (r5.2.1.Qe r5.1.1) r5.2.2.1)) r5.1.1 (Q5.Q6M (Qr r5.2.1.Qe r5.1.1 (Q5.Q94 (r5.2.1.Qe r5.1.1) r5.2.2.1) r5.1.1) true)),r5.2.2.2),()))) else some ((),((r3.2.1,r3.2.2.2.2),())))) else (bif ieq m.fType 3 then (Q0 ((h0.Qe r0.1.1).14) none λr6=>(Q0 (cK135 m now (g4.2 r6)) none λr7=>some ((),((h0,((g4.1,Qr g4.2 r6 r7.2.1.1),())),())))) else (bif ieq m.fType 10 then (Q0 ((Q0 ((h0.Qe r0.1.1).14) none λr8=>(Q0 (cK133 m (g4.2 r8)) none λr9=>some ((r0.1.1,r9.1),(h0,((g4.1,Qr g4.2 r8 r9.2.1.1),())))))) none λr10=>(bif r10.1.2.2.1 then some ((),((Q1.QU r10.2.1 (Qr r10.2.1.Qe r10.1.1 (Q5.Q5f (r10.2.1.Qe r10.1.1) (Q16.mk (Z4 true 0 r10.1.2.1) true))),r10.2.2),())) else some ((),(r10.2,())))) else some ((),((h0,(g4,())),()))))))
def K24:K24.T:=K24.gen K40 K38 Q3V K34 Q34 Q35
theorem K24.eq (cK40:K40.T) (cK38:K38.T) (cK131:Q3V.T) (cK34:K34.T) (cK135:Q34.T) (cK133:Q35.T):EqA K24.sig (K24.H cK40 cK38 cK131 cK34 cK135 cK133) Tryz.f61 6 (K24.W (K24.gen cK40 cK38 cK131 cK34 cK135 cK133)):=by intro a x;kernel_rfl
theorem K24.ok:NK_ 61 K24.sig (K24.W K24):=ok_ Tryz.func61 (K24.eq K40 K38 Q3V K34 Q34 Q35) (hn_ (Z0 (Z0 (Z0 (Z0 (Z0 (Z0 Z2 K40.ok) K38.ok) Q3V.ok) K34.ok) Q34.ok) Q35.ok))
def Q2L.sig:Sig U:=⟨[.data .QX],[],0,[.int .i64,.str,.bool],true,[]⟩
abbrev Q2L.T:Type:=(Qi)->Option ((Int×ByteArray×Bool×Unit)×Unit×Unit)
def Q2L.W (f:Q2L.T):Q2L.sig.F:=λa x=>f a.1
def Q2L.H (cK181:Q2u.T) (cK119:Q1p.T):Hints U:={ Γ:=(Q1p.N cK119 (Qk 140 (Q2u.sig.native (Q2u.W cK181)) noΓ)),ro:=0,base:=8,Q1J:=jt_ [(1,[(14,vb_)])]}
def Q2L.gen (cK181:Q2u.T) (cK119:Q1p.T):Q2L.T:=λt=>
 (Q0 ((bif ine t.fType 1 then some (true,()) else (Q0 (cK181 t) none λr0=>some (!r0.1.1,())))) none λr1=>(bif r1.1 then some (((0:Int),(ByteArray.mk (List.toArray (Qn UInt8)),(false,()))),((),())) else (Q0 (cK119 t.Q2y.data.toList 0 2) none λr2=>(bif le3 2 (ofN (ByteArray.size t.Q2y)) (ByteArray.size t.Q2y) then some ((r2.1.1,(ByteArray.extract t.Q2y (Int.toNat 2) (Int.toNat (ofN (ByteArray.size t.Q2y))),(true,()))),((),())) else none))))
def Q2L:Q2L.T:=Q2L.gen Q2u Q1p
theorem Q2L.eq (cK181:Q2u.T) (cK119:Q1p.T):EqA Q2L.sig (Q2L.H cK181 cK119) Tryz.f108 6 (Q2L.W (Q2L.gen cK181 cK119)):=by intro a x;kernel_rfl
theorem Q2L.ok:NK_ 108 Q2L.sig (Q2L.W Q2L):=ok_ Tryz.func108 (Q2L.eq Q2u Q1p) (hn_ (Z0 (Z0 Z2 Q2u.ok) Q1p.ok))
def K16.sig:Sig U:=⟨[.ptr,.int .i64],[.obj .Q7],1,[.int .i64],false,[]⟩
abbrev K16.T:Type:=(Int)->(Q1)->Option ((Int×Unit)×Unit×Unit)
def K16.W (f:K16.T):K16.sig.F:=λa x=>f a.2.1 x.1
abbrev K16.N (c:K16.T):=Qk 11 (K16.sig.native (K16.W c))
def K16.H (cK33:K33.T) (cK40:K40.T):Hints U:={ Γ:=(K40.N cK40 (K33.N cK33 (Qk 5000000021 ZG noΓ))),ro:=9,base:=9}
def K16.gen (cK33:K33.T) (cK40:K40.T):K16.T:=λn h0=>
 (Q0 (cK33 n h0) none λr0=>(bif r0.1.1 then some (((0:Int),()),((),())) else (Q0 (cK40 n h0) none λr1=>some (((h0.Qe r1.1.1).Q1u,()),((),())))))
def K16:K16.T:=K16.gen K33 K40
theorem K16.eq (cK33:K33.T) (cK40:K40.T):EqA K16.sig (K16.H cK33 cK40) Tryz.f11 6 (K16.W (K16.gen cK33 cK40)):=by intro a x;kernel_rfl
theorem K16.ok:NK_ 11 K16.sig (K16.W K16):=ok_ Tryz.func11 (K16.eq K33 K40) (hn_ (Z0 (Z0 (Z0 Z2 Zc) K33.ok) K40.ok))
def Q3d.sig:Sig U:=⟨[.int .i64],[],0,[.bool],false,[]⟩
abbrev Q3d.T:Type:=(Int)->Option ((Bool×Unit)×Unit×Unit)
def Q3d.W (f:Q3d.T):Q3d.sig.F:=λa x=>f a.1
def Q3d.H:Hints U:={ Γ:=noΓ,ro:=0,base:=8}
def Q3d.gen:Q3d.T:=λid=>
 (bif ieq id 8205 then some ((true,()),((),())) else (bif ieq id 8206 then some ((true,()),((),())) else (bif ieq id 8196 then some ((true,()),((),())) else some ((false,()),((),())))))
def Q3d:Q3d.T:=Q3d.gen
theorem Q3d.ok:NK_ 110 Q3d.sig (Q3d.W Q3d):=ok_ (H:=Q3d.H) (n:=6) Tryz.func110 (by intro a x;kernel_rfl) (hn_ Z2)
def K89.sig:Sig U:=⟨[.data .Qw,.data .Qw],[],0,[.bool],false,[]⟩
abbrev K89.T:Type:=(Qf)->(Qf)->Option ((Bool×Unit)×Unit×Unit)
def K89.W (f:K89.T):K89.sig.F:=λa x=>f a.1 a.2.1
def K89.H:Hints U:={ Γ:=noΓ,ro:=0,base:=8}
def K89.gen:K89.T:=λtarget port=>
 (bif bif ieq target.QF port.QF then bif ieq target.QW port.QW then true else false else false then some ((true,()),((),())) else (bif ieq target.QF 18446744073709551615 then (bif ieq target.QW 65535 then some ((true,()),((),())) else some ((ieq target.QW port.QW,()),((),()))) else (bif ieq target.QF port.QF then (bif ieq target.QW 65535 then some ((true,()),((),())) else some ((ieq target.QW port.QW,()),((),()))) else some ((false,()),((),())))))
def K89:K89.T:=K89.gen
theorem K89.ok:NK_ 153 K89.sig (K89.W K89):=ok_ (H:=K89.H) (n:=6) Tryz.func153 (by intro a x;kernel_rfl) (hn_ Z2)
def K32.sig:Sig U:=⟨[.ptr,.int .i64,.data .Qw,.bool],[.obj .Q7],1,[.isl .int],false,[]⟩
abbrev K32.T:Type:=(Int)->(Qf)->(Bool)->(Q1)->Option (((List (Int))×Unit)×Unit×Unit)
def K32.W (f:K32.T):K32.sig.F:=λa x=>f a.2.1 a.2.2.1 a.2.2.2.1 x.1
def K32.L0:Shape U:=⟨45,11,[(0,.ptr 8 0 0),(1,vi_),(3,vb_),(6,.ptr 9 0 0),(9,.own .int 10),(10,vi_)],[(8,.obj .Q7),(9,.obj .Qw),(10,.tok)]⟩
def K32.X0:Qm U:= [(.exit 0,⟨45,11,[(0,.ptr 8 0 0),(1,vi_),(3,vb_),(6,.ptr 9 0 0),(9,.own .int 10)],[(8,.obj .Q7),(9,.obj .Qw),(10,.tok)]⟩)]
abbrev K32.l0T:Type:=((Int×Bool×(List (Int))×Int×Unit)×(Q1×Qf×Unit))->Option (((Int×Bool×(List (Int))×Unit)×(Q1×Qf×Unit)))
def K32.C:Code:=match Tryz.f109.body with|some c=>c|none=>.skip
def K32.B0:Code:=match (Z3 K32.C).getD 0 .skip with| .loop b=>b| .scope b=>b|_=>.skip
def K32.JC6:Qm U:= [(.normal,⟨45,11,[(0,.ptr 8 0 0),(1,vi_),(3,vb_),(6,.ptr 9 0 0),(9,.own .int 10),(10,vi_)],[(8,.obj .Q7),(9,.obj .Qw),(10,.tok)]⟩)]
def K32.H (cK38:K38.T) (cK89:K89.T) (l0:K32.l0T):Hints U:={ Γ:=(Qk 153 (K89.sig.native (K89.W cK89)) (K38.N cK38 (Qk 5000000021 ZG noΓ))),ro:=9,base:=9,Q1J:=jt_ [(7,[(34,vb_)])],Q27:=jt_ [(6,K32.JC6)],loop:=jt_ [(3,(Z9 (9,9) K32.L0 K32.X0 l0))]}
def K32.QO (cK38:K38.T) (cK89:K89.T) (a:(Int×Bool×(List (Int))×Int×Unit)×(Q1×Qf×Unit)):Option (((Int×Bool×(List (Int))×Int×Unit)×(Q1×Qf×Unit))⊕(((Int×Bool×(List (Int))×Unit)×(Q1×Qf×Unit)))):=
 (bif ile a.1.2.2.2.1 a.2.1.Qo.Qv then (Q0 (cK38 a.1.2.2.2.1 a.2.1) none λr0=>(Q0 (cK89 a.2.2.1 r0.1.1) none λr1=>(Q0 ((bif r1.1.1 then (bif room (List.length a.1.2.2.1+List.length (a.1.2.2.2.1::Qn Int)) 8 then some ((a.1.1,(a.1.2.1,(a.1.2.2.1++a.1.2.2.2.1::Qn Int,a.1.2.2.2))),a.2) else none) else some a)) none λr2=>some (.inl ((r2.1.1,(r2.1.2.1,(r2.1.2.2.1,(Q4 .i64 r2.1.2.2.2.1 1,())))),r2.2))))) else some (.inr ((a.1.1,(a.1.2.1,(a.1.2.2.1,()))),a.2)))
def K32.F0:K32.l0T:=λa=>Z8 (1000000+(a.1.2.2.1.length)) (K32.QO K38 K89) a
def K32.gen (cK38:K38.T) (cK89:K89.T) (l0:K32.l0T):K32.T:=λi target all h0=>
 (Q0 (l0 ((i,all,Qn Int,(1:Int),()),h0,target,())) none λr0=>(Q0 ((bif r0.1.2.1 then some (true,()) else some (ieq (ofN (List.length r0.1.2.2.1)) 0,()))) none λr1=>(bif r1.1 then some (r0.1.2.2,((),())) else (Q0 (cK38 r0.1.1 r0.2.1) none λr2=>(Q0 (cK89 r0.2.2.1 r2.1.1) none λr3=>(bif r3.1.1 then some ((r0.1.1::Qn Int,()),((),())) else (bif le3 (ofN 0) 1 (List.length r0.1.2.2.1) then some ((List.drop (Int.toNat (ofN 0)) (List.take (Int.toNat 1) r0.1.2.2.1),()),((),())) else none)))))))
def K32:K32.T:=K32.gen K38 K89 K32.F0
theorem K32.Q24 (cK38:K38.T) (cK89:K89.T) (l0:K32.l0T) (a:K32.L0.T):run Tryz.prog (K32.H cK38 cK89 l0) 6 (Option (K32.L0.T⊕ExT K32.X0)) none K32.B0 (K32.L0.enc a) (Zi (9,9) K32.L0 K32.X0)=K32.QO cK38 cK89 a:=by kernel_rfl
abbrev K32.h:=K32.H K38 K89 K32.F0
theorem K32.Q1V:LO_ K32.h K32.B0 (Z9 (9,9) K32.L0 K32.X0 K32.F0):=lk_ (hn_ (Z0 (Z0 (Z0 Z2 Zc) K38.ok) K89.ok)) (K32.Q24 K38 K89 K32.F0)
theorem K32.eq (cK38:K38.T) (cK89:K89.T) (l0:K32.l0T):EqA K32.sig (K32.H cK38 cK89 l0) Tryz.f109 6 (K32.W (K32.gen cK38 cK89 l0)):=by intro a x;kernel_rfl
theorem K32.loops:Z3 K32.C= [(.loop K32.B0)]:=by kernel_rfl
theorem K32.ok:NK_ 109 K32.sig (K32.W K32):=ok_ Tryz.func109 (K32.eq K38 K89 K32.F0) (hl_ (Z0 (Z0 (Z0 Z2 Zc) K38.ok) K89.ok) (Z7 (by kernel_rfl) K32.Q1V Z5)) K32.loops
def Q4w.sig:Sig U:=⟨[.int .i64],[],0,[.bool],false,[]⟩
abbrev Q4w.T:Type:=(Int)->Option ((Bool×Unit)×Unit×Unit)
def Q4w.W (f:Q4w.T):Q4w.sig.F:=λa x=>f a.1
def Q4w.H:Hints U:={ Γ:=noΓ,ro:=0,base:=8}
def Q4w.gen:Q4w.T:=λid=>
 (bif ieq id 0 then some ((true,()),((),())) else (bif ieq id 5 then some ((true,()),((),())) else (bif ile 8192 id then some ((ile id 8208,()),((),())) else some ((false,()),((),())))))
def Q4w:Q4w.T:=Q4w.gen
theorem Q4w.ok:NK_ 177 Q4w.sig (Q4w.W Q4w):=ok_ (H:=Q4w.H) (n:=6) Tryz.func177 (by intro a x;kernel_rfl) (hn_ Z2)
def Q49.sig:Sig U:=⟨[.int .i64],[],0,[.bool],false,[]⟩
abbrev Q49.T:Type:=(Int)->Option ((Bool×Unit)×Unit×Unit)
def Q49.W (f:Q49.T):Q49.sig.F:=λa x=>f a.1
def Q49.H:Hints U:={ Γ:=noΓ,ro:=0,base:=8}
def Q49.gen:Q49.T:=λid=>
 (bif ieq id 0 then some ((true,()),((),())) else (bif ieq id 5 then some ((true,()),((),())) else (bif ieq id 8205 then some ((true,()),((),())) else some ((ieq id 8206,()),((),())))))
def Q49:Q49.T:=Q49.gen
theorem Q49.ok:NK_ 178 Q49.sig (Q49.W Q49):=ok_ (H:=Q49.H) (n:=6) Tryz.func178 (by intro a x;kernel_rfl) (hn_ Z2)
def Q4p.sig:Sig U:=⟨[.int .i64],[],0,[.bool],false,[]⟩
abbrev Q4p.T:Type:=(Int)->Option ((Bool×Unit)×Unit×Unit)
def Q4p.W (f:Q4p.T):Q4p.sig.F:=λa x=>f a.1
def Q4p.H:Hints U:={ Γ:=noΓ,ro:=0,base:=8}
def Q4p.gen:Q4p.T:=λid=>
 (bif ile 8192 id then (bif ile id 8196 then some ((true,()),((),())) else (bif ieq id 8204 then some ((true,()),((),())) else some ((ieq id 8207,()),((),())))) else (bif ieq id 8204 then some ((true,()),((),())) else some ((ieq id 8207,()),((),()))))
def Q4p:Q4p.T:=Q4p.gen
theorem Q4p.ok:NK_ 179 Q4p.sig (Q4p.W Q4p):=ok_ (H:=Q4p.H) (n:=6) Tryz.func179 (by intro a x;kernel_rfl) (hn_ Z2)
def Q40.sig:Sig U:=⟨[.int .i64],[],0,[.int .i64],false,[]⟩
abbrev Q40.T:Type:=(Int)->Option ((Int×Unit)×Unit×Unit)
def Q40.W (f:Q40.T):Q40.sig.F:=λa x=>f a.1
def Q40.JC3:Qm U:= [(.normal,⟨8,8,[(4,vb_)],[]⟩)]
def Q40.H:Hints U:={ Γ:=noΓ,ro:=0,base:=8,Q27:=jt_ [(3,Q40.JC3)]}
def Q40.gen:Q40.T:=λid=>
 (Q0 ((bif ieq id 0 then some ((ieq id 0,()),()) else (bif ieq id 8205 then some ((ieq id 8205,()),()) else some ((ieq id 8206,()),())))) none λr0=>(bif r0.1.1 then some (((0:Int),()),((),())) else some (((2:Int),()),((),()))))
def Q40:Q40.T:=Q40.gen
theorem Q40.ok:NK_ 180 Q40.sig (Q40.W Q40):=ok_ (H:=Q40.H) (n:=6) Tryz.func180 (by intro a x;kernel_rfl) (hn_ Z2)
def Q4d.sig:Sig U:=⟨[.data .Q1e,.int .i64,.str],[],0,[.data .Q1e],false,[]⟩
abbrev Q4d.T:Type:=(Q8)->(Int)->(ByteArray)->Option ((Q8×Unit)×Unit×Unit)
def Q4d.W (f:Q4d.T):Q4d.sig.F:=λa x=>f a.1 a.2.1 a.2.2.1
def Q4d.JC5:Qm U:= [(.normal,⟨53,10,[(3,.ptr 8 0 0),(6,.ptr 9 0 0)],[(8,.obj .Q1e),(9,.obj .Q1e)]⟩)]
def Q4d.H:Hints U:={ Γ:=noΓ,ro:=0,base:=8,Q27:=jt_ [(5,Q4d.JC5)]}
def Q4d.gen:Q4d.T:=λc id data=>
 (bif inR 0 (ByteArray.size data) then (bif inR 0 (ByteArray.size data) then (Q0 ((bif ieq id 8197 then some ((),(Q8.Q4K c (IntKind.wrap .i64 (ofN (UInt8.toNat (List.getD data.data.toList (Int.toNat 0) (0:UInt8))))),(Q8.mk 0 0 0 0 0 z1_ false 0 0 0 0 false false 0 0 0 0 z4_ false,()))) else (bif ieq id 8198 then some ((),(Q8.Q56 c (IntKind.wrap .i64 (ofN (UInt8.toNat (List.getD data.data.toList (Int.toNat 0) (0:UInt8))))),(Q8.mk 0 0 0 0 0 z1_ false 0 0 0 0 false false 0 0 0 0 z4_ false,()))) else (bif ieq id 8199 then some ((),(Q8.Q7r c (IntKind.wrap .i64 (ofN (UInt8.toNat (List.getD data.data.toList (Int.toNat 0) (0:UInt8))))),(Q8.mk 0 0 0 0 0 z1_ false 0 0 0 0 false false 0 0 0 0 z4_ false,()))) else (bif ieq id 8200 then some ((),(Q8.Q7C c (ieq (Q5p .i64 (IntKind.wrap .i64 (ofN (UInt8.toNat (List.getD data.data.toList (Int.toNat 0) (0:UInt8))))) 1) 1),(Q8.mk 0 0 0 0 0 z1_ false 0 0 0 0 false false 0 0 0 0 z4_ false,()))) else (bif ieq id 8201 then some ((),(Q8.Q8w c (IntKind.wrap .i64 (IntKind.wrap .i8 (ofN (UInt8.toNat (List.getD data.data.toList (Int.toNat 0) (0:UInt8)))))),(Q8.mk 0 0 0 0 0 z1_ false 0 0 0 0 false false 0 0 0 0 z4_ false,()))) else (bif ieq id 8202 then some ((),(Q8.Q8g c (IntKind.wrap .i64 (ofN (UInt8.toNat (List.getD data.data.toList (Int.toNat 0) (0:UInt8))))),(Q8.mk 0 0 0 0 0 z1_ false 0 0 0 0 false false 0 0 0 0 z4_ false,()))) else (bif ieq id 8203 then some ((),(Q8.Q86 c (IntKind.wrap .i64 (IntKind.wrap .i8 (ofN (UInt8.toNat (List.getD data.data.toList (Int.toNat 0) (0:UInt8)))))),(Q8.mk 0 0 0 0 0 z1_ false 0 0 0 0 false false 0 0 0 0 z4_ false,()))) else (bif ieq id 8208 then some ((),(Q8.Q4L c (Qy.Q9I c.Qu (IntKind.wrap .i64 (ofN (UInt8.toNat (List.getD data.data.toList (Int.toNat 0) (0:UInt8)))))),(Q8.mk 0 0 0 0 0 z1_ false 0 0 0 0 false false 0 0 0 0 z4_ false,()))) else some ((),(c,(Q8.mk 0 0 0 0 0 z1_ false 0 0 0 0 false false 0 0 0 0 z4_ false,())))))))))))) none λr0=>some ((r0.2.1,()),((),()))) else none) else none)
def Q4d:Q4d.T:=Q4d.gen
theorem Q4d.ok:NK_ 181 Q4d.sig (Q4d.W Q4d):=ok_ (H:=Q4d.H) (n:=6) Tryz.func181 (by intro a x;kernel_rfl) (hn_ Z2)
end
end Go.Proofs.YtgnabnhggaondabGreat
