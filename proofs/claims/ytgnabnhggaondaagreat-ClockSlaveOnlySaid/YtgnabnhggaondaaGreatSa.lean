/- Typed forms of the functions that these statements reach, proved equal to what the model runs, and laws over them. -/
import Derived.Test.YtgnabnhggaondaaGreatT
namespace Go.Proofs.YtgnabnhggaondaaGreat
open Go.Rf
set_option linter.unusedVariables false
set_option linter.unusedSimpArgs false
set_option maxRecDepth 100000
noncomputable section
abbrev vi_:JV UC:= .val (.int .i64)
abbrev vb_:JV UC:= .val (.bool)
abbrev Q9f:NK UC:= .fam 0 (.obj .Q7)
abbrev Q4N:NK UC:= .fam 10 (.obj .Q1j)
abbrev Q6e:NK UC:= .fam 5 (.obj .Q1x)
abbrev Q5c:NK UC:= .fam 6 (.obj .Qy)
abbrev Q4R:NK UC:= .fam 7 (.obj .Q10)
abbrev Q53:NK UC:= .fam 8 (.obj .Q11)
abbrev Q5y:NK UC:= .fam 9 (.obj .Q18)
abbrev EqA (s:Sig U) (H:Hints U) (f:Func) (n:Nat) (g:s.F):Prop:=∀(a:Ts U s.Q4j) (x:HTs U s.heap),Q7U Tryz.prog H f n none s.fin (s.args a) (s.start x) s.base=g a x
theorem hq {Hn:Hints U} (hΓ:ZK U Tryz.prog Hn.Γ) {l:List Code} (hl:∀b N,.loop b∈l->Hn.loop (Zg b)=some N->ZF U Tryz.prog Hn.ro Hn.base b N) (h1:∀lb,Hn.label lb=none) (h2:∀f,Hn.inl f=none):Q3Z U Tryz.prog Hn (λc=>c∈l):=Z12 Q5L Q4v mixed hΓ hl (Z7t h1) (Z2a h2)
abbrev NK_ (k:Nat) (s:Sig U) (F:s.F):Prop:=Zy U Tryz.prog k (s.native F)
abbrev HO_ (H:Hints U) (l:List Code):Prop:=Q3Z U Tryz.prog H (λc=>c∈l)
abbrev LO_ (H:Hints U) (b:Code) (N:Z2z U):Prop:=ZF U Tryz.prog H.ro H.base b N
theorem hl_ {H:Hints U} (hΓ:ZK U Tryz.prog H.Γ) {l:List Code} (hl:∀b N,.loop b∈l->H.loop (Zg b)=some N->LO_ H b N) (h1:∀lb,H.label lb=none:=by exact λ_=>rfl) (h2:∀f,H.inl f=none:=by exact λ_=>rfl):HO_ H l:=hq hΓ hl h1 h2
theorem hn_ {H:Hints U} (hΓ:ZK U Tryz.prog H.Γ) (h1:∀lb,H.label lb=none:=by exact λ_=>rfl) (h2:∀f,H.inl f=none:=by exact λ_=>rfl):HO_ H []:=hq hΓ Z5 h1 h2
def cd_ (f:Func):Code:=match f.body with|some c=>c|none=>.skip
def jt_ {α:Type _}:List (Nat×α)->Nat->Option α
 | [],_=>none
 |(k,v)::r,b=>bif Nat.beq b k then some v else jt_ r b
theorem ok_ {s:Sig U} {F:s.F} {H:Hints U} {k n:Nat} {f:Func} {l:List Code} (hf:Tryz.prog.funcs[k]? =some f) (he:EqA s H f n F) (hH:HO_ H l) (hl:Z3 (cd_ f)=l:=by kernel_rfl) (hb:f.body=some (cd_ f):=by kernel_rfl) (hn:(f.name== "runtime.NumGoroutine")=false:=by kernel_rfl) (h1:H.ro=s.roN:=by rfl) (h2:H.base=s.base:=by rfl) (h3:s.Q7O=true:=by decide) (h4:s.Q4j.length<=f.ntmps:=by decide):NK_ k s F:=Sig.ok s F Q4v hH hf hb hn (λb h=>by rw [hl] at h;exact h) h1 h2 h3 he h4
theorem lk_ {H:Hints U} {b:Code} {p:Shape U} {l:Ql U} {F:p.T->Option (ExT l)} {rounds:p.T->Nat} {round:p.T->Option (p.T⊕ExT l)} {n:Nat} (hH:HO_ H []) (hs:∀x,run Tryz.prog H n (Option (p.T⊕ExT l)) none b (p.enc x) (Zj (H.ro,H.base) p l)=round x) (hi:Z3 b= []:=by kernel_rfl) (hF:∀x,F x=Z8 (rounds x) round x:=by exact λ_=>rfl):LO_ H b (Z9 (H.ro,H.base) p l F):=Z2Q Q5L Q4v (Z1B hH n) (λb h=>by rw [hi] at h;exact h) hF hs
abbrev Fm (α:Type):=Nat×(Nat->α)
abbrev z0_:=Qd.mk (0:Int) (0:Int)
abbrev z1_:=Qx.mk (0:Int) (0:Int) (0:Int)
abbrev z2_:=Q8.mk (0:Int) (0:Int) (0:Int) (0:Int) z0_ (0:Int) (0:Int) (0:Int) z0_ (0:Int) (0:Int) z1_ (0:Int) (0:Int) (0:Int) (0:Int) (0:Int) (0:Int) (0:Int)
abbrev z3_:=QS.mk (0:Int)
abbrev z4_:=Q13.mk (0:Int) false
abbrev z5_:=Q1b.mk (0:Int) (0:Int) (0:Int)
abbrev z6_:=Qj.mk (0:Int) z1_ (0:Int) (0:Int) (0:Int) z0_ z0_
abbrev z7_:=Q9.mk (0:Int) (0:Int) (0:Int) (0:Int) (0:Int) z1_ false (0:Int) (0:Int) (0:Int) (0:Int) false false (0:Int) (0:Int) (0:Int) (0:Int) z5_ false
abbrev z8_:=(1:Int)::(0:Int)::(0:Int)::(0:Int)::(-3:Int)::(-3:Int)::(-3:Int)::(2:Int)::(1:Int)::(0:Int)::(0:Int)::(0:Int)::(-32768:Int)::(0:Int)::(0:Int)::Qm Int
abbrev z9_:=(8:Int)::(127:Int)::(255:Int)::(255:Int)::(4:Int)::(4:Int)::(4:Int)::(10:Int)::(15:Int)::(2000:Int)::(2000:Int)::(1000000000:Int)::(32767:Int)::(63:Int)::(255:Int)::Qm Int
abbrev Q3R (c:Q9):=c.QB::c.Q1D::c.Q16::c.Q15::c.Q46::c.Q3h::c.Q3l::c.Q3U::c.Q4s::c.fKp::c.fKi::c.Q5E::c.Q1e.Q3c::c.Q1e.Q1X::c.Q1e.Q1Q::Qm Int
abbrev Q4B:List (Nat×JH UC):= [(5,.Q1R false .Q1x),(6,.Q1R false .Qy),(7,.Q1R false .Q10),(8,.Q1R false .Q11),(9,.Q1R false .Q18),(10,.Q1R false .Q1j),(12,.Q3u true false .Qt .Q1P)]
abbrev Q5Z:List (Nat×JH UC):= [(6,.Q1R false .Qy),(12,.Q3u true false .Qt .Q1P)]
abbrev Q6V:List (Nat×JH UC):= [(5,.Q1R false .Q1x),(7,.Q1R false .Q10),(8,.Q1R false .Q11),(9,.Q1R false .Q18),(10,.Q1R false .Q1j)]
abbrev Q5M:List (Nat×JH UC):= [(6,.Q1R false .Qy),(7,.Q1R false .Q10),(9,.Q1R false .Q18),(10,.Q1R false .Q1j)]
abbrev Q7b:List (Nat×JH UC):= [(7,.Q1R false .Q10),(8,.Q1R false .Q11),(12,.Q3u true false .Qt .Q1P)]
abbrev Q61:List (Nat×JH UC):= [(0,.Q1R false .Q7),(5,.Q1R false .Q1x),(6,.Q1R false .Qy),(7,.Q1R false .Q10),(8,.Q1R false .Q11),(9,.Q1R false .Q18),(10,.Q1R false .Q1j),(12,.Q3u true false .Qt .Q1P)]
abbrev Q8A:List (Nat×JH UC):= [(6,.Q1R false .Qy),(7,.Q1R false .Q10),(8,.Q1R false .Q11),(9,.Q1R false .Q18),(10,.Q1R false .Q1j),(12,.Q3u true false .Qt .Q1P)]
abbrev hT7_:List (Nat×JH UC):= [(6,.Q1R false .Qy),(7,.Q1R false .Q10),(8,.Q1R false .Q11),(10,.Q1R false .Q1j),(12,.Q3u true false .Qt .Q1P)]
abbrev hT8_:List (Nat×JH UC):= [(7,.Q1R false .Q10),(10,.Q1R false .Q1j)]
abbrev Q3v:Type:=(Fm Q1)×(Fm Qo)×(Fm Qe)×(Fm Qg)×(Fm Qb)×(Fm Qh)×(Fm Qz)×(Nat×(Nat->List (Qd×List (Int))))×Unit
abbrev Q58:Type:=(Fm Qo)×(Fm Qe)×(Fm Qg)×(Fm Qb)×(Fm Qh)×(Fm Qz)×(Nat×(Nat->List (Qd×List (Int))))×Unit
abbrev Q6N:Type:=(Fm Qe)×(Fm Qg)×(Fm Qh)×(Fm Qz)×Unit
abbrev Q6O:Type:=(Fm Qe)×(Fm Qg)×(Fm Qb)×(Fm Qh)×(Fm Qz)×(Nat×(Nat->List (Qd×List (Int))))×Unit
abbrev Q7q:Type:=(Fm Qe)×(Nat×(Nat->List (Qd×List (Int))))×Unit
abbrev Q8o:Type:=(Fm Qo)×(Fm Qg)×(Fm Qb)×(Fm Qh)×(Fm Qz)×Unit
abbrev Q9L:Type:=(Fm Bool)×(Fm Qe)×(Fm Qg)×(Fm Qh)×(Fm Qz)×Unit
def K52.sig:Sig U:=⟨[.int .u64],[],0,[.data .Q1d],false,[]⟩
abbrev K52.T:Type:=(Int)->Option ((Q9×Unit)×Unit×Unit)
def K52.W (f:K52.T):K52.sig.F:=λa x=>f a.1
def K52.H:Hints U:={ Γ:=noΓ,ro:=0,base:=13}
def K52.gen:K52.T:=λclock=>
 some ((Q9.mk clock 1 0 128 128 (Qx.mk 248 254 65535) false 1 0 0 3 false false 5 700 300 20000 (Q1b.mk 37 8 160) false,()),((),()))
def K52:K52.T:=K52.gen
theorem K52.ok:NK_ 23 K52.sig (K52.W K52):=ok_ (H:=K52.H) (n:=6) Tryz.func23 (by intro a x;kernel_rfl) (hn_ Z2)
def Q2m.sig:Sig U:=⟨[.data .Q2u],[],0,[.bool],false,[]⟩
abbrev Q2m.T:Type:=(Qx)->Option ((Bool×Unit)×Unit×Unit)
def Q2m.W (f:Q2m.T):Q2m.sig.F:=λa x=>f a.1
abbrev Q2m.N (c:Q2m.T):=Qn 87 (Q2m.sig.native (Q2m.W c))
def Q2m.H:Hints U:={ Γ:=noΓ,ro:=0,base:=13}
def Q2m.gen:Q2m.T:=λq=>
 (bif ile 0 q.Q1W then (bif ile q.Q1W 255 then (bif ile 0 q.Q1u then (bif ile q.Q1u 255 then (bif ile 0 q.Q1F then some ((ile q.Q1F 65535,()),((),())) else some ((false,()),((),()))) else some ((false,()),((),()))) else some ((false,()),((),()))) else some ((false,()),((),()))) else some ((false,()),((),())))
def Q2m:Q2m.T:=Q2m.gen
theorem Q2m.ok:NK_ 87 Q2m.sig (Q2m.W Q2m):=ok_ (H:=Q2m.H) (n:=6) Tryz.func87 (by intro a x;kernel_rfl) (hn_ Z2)
def K51.sig:Sig U:=⟨[.data .Q1d],[],0,[.int .i64],false,[]⟩
abbrev K51.T:Type:=(Q9)->Option ((Int×Unit)×Unit×Unit)
def K51.W (f:K51.T):K51.sig.F:=λa x=>f a.1
abbrev K51.N (c:K51.T):=Qn 48 (K51.sig.native (K51.W c))
def K51.C:Code:=match Tryz.f48.body with|some c=>c|none=>.skip
def K51.B0:Code:=match (Z3 K51.C).getD 0 .skip with| .loop b=>b| .scope b=>b|_=>.skip
def K51.U0 (cK136:Q2m.T):Hints U:={ Γ:=(Q2m.N cK136 noΓ),ro:=0,base:=13,Q1L:=jt_ [(4,[(68,vb_)]),(7,[(70,vb_)]),(9,[(85,vb_)])],loop:=λb=>none}
def K51.H (cK136:Q2m.T):Hints U:={ Γ:=(Q2m.N cK136 noΓ),ro:=0,base:=13,Q1L:=jt_ [(4,[(68,vb_)]),(7,[(70,vb_)]),(9,[(85,vb_)])],loop:=jt_ [(2,(Z1Q Tryz.prog (K51.U0 cK136) 6 K51.B0 17))]}
def K51.gen (cK136:Q2m.T):K51.T:=λc=>
 (Q0 ((bif ilt (List.getD (Q3R c) (Int.toNat 0) 0) (List.getD z8_ (Int.toNat 0) 0) then some (true,()) else some (ilt (List.getD z9_ (Int.toNat 0) 0) (List.getD (Q3R c) (Int.toNat 0) 0),()))) none λr0=>(bif r0.1 then some (((15:Int),()),((),())) else (Q0 ((bif ilt (List.getD (Q3R c) (Int.toNat (Q4 .i64 0 1)) 0) (List.getD z8_ (Int.toNat (Q4 .i64 0 1)) 0) then some (true,()) else some (ilt (List.getD z9_ (Int.toNat (Q4 .i64 0 1)) 0) (List.getD (Q3R c) (Int.toNat (Q4 .i64 0 1)) 0),()))) none λr1=>(bif r1.1 then some (((15:Int),()),((),())) else (Q0 ((bif ilt (List.getD (Q3R c) (Int.toNat (Q4 .i64 (Q4 .i64 0 1) 1)) 0) (List.getD z8_ (Int.toNat (Q4 .i64 (Q4 .i64 0 1) 1)) 0) then some (true,()) else some (ilt (List.getD z9_ (Int.toNat (Q4 .i64 (Q4 .i64 0 1) 1)) 0) (List.getD (Q3R c) (Int.toNat (Q4 .i64 (Q4 .i64 0 1) 1)) 0),()))) none λr2=>(bif r2.1 then some (((15:Int),()),((),())) else (Q0 ((bif ilt (List.getD (Q3R c) (Int.toNat (Q4 .i64 (Q4 .i64 (Q4 .i64 0 1) 1) 1)) 0) (List.getD z8_ (Int.toNat (Q4 .i64 (Q4 .i64 (Q4 .i64 0 1) 1) 1)) 0) then some (true,()) else some (ilt (List.getD z9_ (Int.toNat (Q4 .i64 (Q4 .i64 (Q4 .i64 0 1) 1) 1)) 0) (List.getD (Q3R c) (Int.toNat (Q4 .i64 (Q4 .i64 (Q4 .i64 0 1) 1) 1)) 0),()))) none λr3=>(bif r3.1 then some (((15:Int),()),((),())) else (Q0 ((bif ilt (List.getD (Q3R c) (Int.toNat (Q4 .i64 (Q4 .i64 (Q4 .i64 (Q4 .i64 0 1) 1) 1) 1)) 0) (List.getD z8_ (Int.toNat (Q4 .i64 (Q4 .i64 (Q4 .i64 (Q4 .i64 0 1) 1) 1) 1)) 0) then some (true,()) else some (ilt (List.getD z9_ (Int.toNat (Q4 .i64 (Q4 .i64 (Q4 .i64 (Q4 .i64 0 1) 1) 1) 1)) 0) (List.getD (Q3R c) (Int.toNat (Q4 .i64 (Q4 .i64 (Q4 .i64 (Q4 .i64 0 1) 1) 1) 1)) 0),()))) none λr4=>(bif r4.1 then some (((15:Int),()),((),())) else (Q0 ((bif ilt (List.getD (Q3R c) (Int.toNat (Q4 .i64 (Q4 .i64 (Q4 .i64 (Q4 .i64 (Q4 .i64 0 1) 1) 1) 1) 1)) 0) (List.getD z8_ (Int.toNat (Q4 .i64 (Q4 .i64 (Q4 .i64 (Q4 .i64 (Q4 .i64 0 1) 1) 1) 1) 1)) 0) then some (true,()) else some (ilt (List.getD z9_ (Int.toNat (Q4 .i64 (Q4 .i64 (Q4 .i64 (Q4 .i64 (Q4 .i64 0 1) 1) 1) 1) 1)) 0) (List.getD (Q3R c) (Int.toNat (Q4 .i64 (Q4 .i64 (Q4 .i64 (Q4 .i64 (Q4 .i64 0 1) 1) 1) 1) 1)) 0),()))) none λr5=>(bif r5.1 then some (((15:Int),()),((),())) else (Q0 ((bif ilt (List.getD (Q3R c) (Int.toNat (Q4 .i64 (Q4 .i64 (Q4 .i64 (Q4 .i64 (Q4 .i64 (Q4 .i64 0 1) 1) 1) 1) 1) 1)) 0) (List.getD z8_ (Int.toNat (Q4 .i64 (Q4 .i64 (Q4 .i64 (Q4 .i64 (Q4 .i64 (Q4 .i64 0 1) 1) 1) 1) 1) 1)) 0) then some (true,()) else some (ilt (List.getD z9_ (Int.toNat (Q4 .i64 (Q4 .i64 (Q4 .i64 (Q4 .i64 (Q4 .i64 (Q4 .i64 0 1) 1) 1) 1) 1) 1)) 0) (List.getD (Q3R c) (Int.toNat (Q4 .i64 (Q4 .i64 (Q4 .i64 (Q4 .i64 (Q4 .i64 (Q4 .i64 0 1) 1) 1) 1) 1) 1)) 0),()))) none λr6=>(bif r6.1 then some (((15:Int),()),((),())) else (Q0 ((bif ilt (List.getD (Q3R c) (Int.toNat (Q4 .i64 (Q4 .i64 (Q4 .i64 (Q4 .i64 (Q4 .i64 (Q4 .i64 (Q4 .i64 0 1) 1) 1) 1) 1) 1) 1)) 0) (List.getD z8_ (Int.toNat (Q4 .i64 (Q4 .i64 (Q4 .i64 (Q4 .i64 (Q4 .i64 (Q4 .i64 (Q4 .i64 0 1) 1) 1) 1) 1) 1) 1)) 0) then some (true,()) else some (ilt (List.getD z9_ (Int.toNat (Q4 .i64 (Q4 .i64 (Q4 .i64 (Q4 .i64 (Q4 .i64 (Q4 .i64 (Q4 .i64 0 1) 1) 1) 1) 1) 1) 1)) 0) (List.getD (Q3R c) (Int.toNat (Q4 .i64 (Q4 .i64 (Q4 .i64 (Q4 .i64 (Q4 .i64 (Q4 .i64 (Q4 .i64 0 1) 1) 1) 1) 1) 1) 1)) 0),()))) none λr7=>(bif r7.1 then some (((15:Int),()),((),())) else (Q0 ((bif ilt (List.getD (Q3R c) (Int.toNat (Q4 .i64 (Q4 .i64 (Q4 .i64 (Q4 .i64 (Q4 .i64 (Q4 .i64 (Q4 .i64 (Q4 .i64 0 1) 1) 1) 1) 1) 1) 1) 1)) 0) (List.getD z8_ (Int.toNat (Q4 .i64 (Q4 .i64 (Q4 .i64 (Q4 .i64 (Q4 .i64 (Q4 .i64 (Q4 .i64 (Q4 .i64 0 1) 1) 1) 1) 1) 1) 1) 1)) 0) then some (true,()) else some (ilt (List.getD z9_ (Int.toNat (Q4 .i64 (Q4 .i64 (Q4 .i64 (Q4 .i64 (Q4 .i64 (Q4 .i64 (Q4 .i64 (Q4 .i64 0 1) 1) 1) 1) 1) 1) 1) 1)) 0) (List.getD (Q3R c) (Int.toNat (Q4 .i64 (Q4 .i64 (Q4 .i64 (Q4 .i64 (Q4 .i64 (Q4 .i64 (Q4 .i64 (Q4 .i64 0 1) 1) 1) 1) 1) 1) 1) 1)) 0),()))) none λr8=>(bif r8.1 then some (((15:Int),()),((),())) else (Q0 ((bif ilt (List.getD (Q3R c) (Int.toNat (Q4 .i64 (Q4 .i64 (Q4 .i64 (Q4 .i64 (Q4 .i64 (Q4 .i64 (Q4 .i64 (Q4 .i64 (Q4 .i64 0 1) 1) 1) 1) 1) 1) 1) 1) 1)) 0) (List.getD z8_ (Int.toNat (Q4 .i64 (Q4 .i64 (Q4 .i64 (Q4 .i64 (Q4 .i64 (Q4 .i64 (Q4 .i64 (Q4 .i64 (Q4 .i64 0 1) 1) 1) 1) 1) 1) 1) 1) 1)) 0) then some (true,()) else some (ilt (List.getD z9_ (Int.toNat (Q4 .i64 (Q4 .i64 (Q4 .i64 (Q4 .i64 (Q4 .i64 (Q4 .i64 (Q4 .i64 (Q4 .i64 (Q4 .i64 0 1) 1) 1) 1) 1) 1) 1) 1) 1)) 0) (List.getD (Q3R c) (Int.toNat (Q4 .i64 (Q4 .i64 (Q4 .i64 (Q4 .i64 (Q4 .i64 (Q4 .i64 (Q4 .i64 (Q4 .i64 (Q4 .i64 0 1) 1) 1) 1) 1) 1) 1) 1) 1)) 0),()))) none λr9=>(bif r9.1 then some (((15:Int),()),((),())) else (Q0 ((bif ilt (List.getD (Q3R c) (Int.toNat (Q4 .i64 (Q4 .i64 (Q4 .i64 (Q4 .i64 (Q4 .i64 (Q4 .i64 (Q4 .i64 (Q4 .i64 (Q4 .i64 (Q4 .i64 0 1) 1) 1) 1) 1) 1) 1) 1) 1) 1)) 0) (List.getD z8_ (Int.toNat (Q4 .i64 (Q4 .i64 (Q4 .i64 (Q4 .i64 (Q4 .i64 (Q4 .i64 (Q4 .i64 (Q4 .i64 (Q4 .i64 (Q4 .i64 0 1) 1) 1) 1) 1) 1) 1) 1) 1) 1)) 0) then some (true,()) else some (ilt (List.getD z9_ (Int.toNat (Q4 .i64 (Q4 .i64 (Q4 .i64 (Q4 .i64 (Q4 .i64 (Q4 .i64 (Q4 .i64 (Q4 .i64 (Q4 .i64 (Q4 .i64 0 1) 1) 1) 1) 1) 1) 1) 1) 1) 1)) 0) (List.getD (Q3R c) (Int.toNat (Q4 .i64 (Q4 .i64 (Q4 .i64 (Q4 .i64 (Q4 .i64 (Q4 .i64 (Q4 .i64 (Q4 .i64 (Q4 .i64 (Q4 .i64 0 1) 1) 1) 1) 1) 1) 1) 1) 1) 1)) 0),()))) none λr10=>(bif r10.1 then some (((15:Int),()),((),())) else (Q0 ((bif ilt (List.getD (Q3R c) (Int.toNat (Q4 .i64 (Q4 .i64 (Q4 .i64 (Q4 .i64 (Q4 .i64 (Q4 .i64 (Q4 .i64 (Q4 .i64 (Q4 .i64 (Q4 .i64 (Q4 .i64 0 1) 1) 1) 1) 1) 1) 1) 1) 1) 1) 1)) 0) (List.getD z8_ (Int.toNat (Q4 .i64 (Q4 .i64 (Q4 .i64 (Q4 .i64 (Q4 .i64 (Q4 .i64 (Q4 .i64 (Q4 .i64 (Q4 .i64 (Q4 .i64 (Q4 .i64 0 1) 1) 1) 1) 1) 1) 1) 1) 1) 1) 1)) 0) then some (true,()) else some (ilt (List.getD z9_ (Int.toNat (Q4 .i64 (Q4 .i64 (Q4 .i64 (Q4 .i64 (Q4 .i64 (Q4 .i64 (Q4 .i64 (Q4 .i64 (Q4 .i64 (Q4 .i64 (Q4 .i64 0 1) 1) 1) 1) 1) 1) 1) 1) 1) 1) 1)) 0) (List.getD (Q3R c) (Int.toNat (Q4 .i64 (Q4 .i64 (Q4 .i64 (Q4 .i64 (Q4 .i64 (Q4 .i64 (Q4 .i64 (Q4 .i64 (Q4 .i64 (Q4 .i64 (Q4 .i64 0 1) 1) 1) 1) 1) 1) 1) 1) 1) 1) 1)) 0),()))) none λr11=>(bif r11.1 then some (((15:Int),()),((),())) else (Q0 ((bif ilt (List.getD (Q3R c) (Int.toNat (Q4 .i64 (Q4 .i64 (Q4 .i64 (Q4 .i64 (Q4 .i64 (Q4 .i64 (Q4 .i64 (Q4 .i64 (Q4 .i64 (Q4 .i64 (Q4 .i64 (Q4 .i64 0 1) 1) 1) 1) 1) 1) 1) 1) 1) 1) 1) 1)) 0) (List.getD z8_ (Int.toNat (Q4 .i64 (Q4 .i64 (Q4 .i64 (Q4 .i64 (Q4 .i64 (Q4 .i64 (Q4 .i64 (Q4 .i64 (Q4 .i64 (Q4 .i64 (Q4 .i64 (Q4 .i64 0 1) 1) 1) 1) 1) 1) 1) 1) 1) 1) 1) 1)) 0) then some (true,()) else some (ilt (List.getD z9_ (Int.toNat (Q4 .i64 (Q4 .i64 (Q4 .i64 (Q4 .i64 (Q4 .i64 (Q4 .i64 (Q4 .i64 (Q4 .i64 (Q4 .i64 (Q4 .i64 (Q4 .i64 (Q4 .i64 0 1) 1) 1) 1) 1) 1) 1) 1) 1) 1) 1) 1)) 0) (List.getD (Q3R c) (Int.toNat (Q4 .i64 (Q4 .i64 (Q4 .i64 (Q4 .i64 (Q4 .i64 (Q4 .i64 (Q4 .i64 (Q4 .i64 (Q4 .i64 (Q4 .i64 (Q4 .i64 (Q4 .i64 0 1) 1) 1) 1) 1) 1) 1) 1) 1) 1) 1) 1)) 0),()))) none λr12=>(bif r12.1 then some (((15:Int),()),((),())) else (Q0 ((bif ilt (List.getD (Q3R c) (Int.toNat (Q4 .i64 (Q4 .i64 (Q4 .i64 (Q4 .i64 (Q4 .i64 (Q4 .i64 (Q4 .i64 (Q4 .i64 (Q4 .i64 (Q4 .i64 (Q4 .i64 (Q4 .i64 (Q4 .i64 0 1) 1) 1) 1) 1) 1) 1) 1) 1) 1) 1) 1) 1)) 0) (List.getD z8_ (Int.toNat (Q4 .i64 (Q4 .i64 (Q4 .i64 (Q4 .i64 (Q4 .i64 (Q4 .i64 (Q4 .i64 (Q4 .i64 (Q4 .i64 (Q4 .i64 (Q4 .i64 (Q4 .i64 (Q4 .i64 0 1) 1) 1) 1) 1) 1) 1) 1) 1) 1) 1) 1) 1)) 0) then some (true,()) else some (ilt (List.getD z9_ (Int.toNat (Q4 .i64 (Q4 .i64 (Q4 .i64 (Q4 .i64 (Q4 .i64 (Q4 .i64 (Q4 .i64 (Q4 .i64 (Q4 .i64 (Q4 .i64 (Q4 .i64 (Q4 .i64 (Q4 .i64 0 1) 1) 1) 1) 1) 1) 1) 1) 1) 1) 1) 1) 1)) 0) (List.getD (Q3R c) (Int.toNat (Q4 .i64 (Q4 .i64 (Q4 .i64 (Q4 .i64 (Q4 .i64 (Q4 .i64 (Q4 .i64 (Q4 .i64 (Q4 .i64 (Q4 .i64 (Q4 .i64 (Q4 .i64 (Q4 .i64 0 1) 1) 1) 1) 1) 1) 1) 1) 1) 1) 1) 1) 1)) 0),()))) none λr13=>(bif r13.1 then some (((15:Int),()),((),())) else (Q0 ((bif ilt (List.getD (Q3R c) (Int.toNat (Q4 .i64 (Q4 .i64 (Q4 .i64 (Q4 .i64 (Q4 .i64 (Q4 .i64 (Q4 .i64 (Q4 .i64 (Q4 .i64 (Q4 .i64 (Q4 .i64 (Q4 .i64 (Q4 .i64 (Q4 .i64 0 1) 1) 1) 1) 1) 1) 1) 1) 1) 1) 1) 1) 1) 1)) 0) (List.getD z8_ (Int.toNat (Q4 .i64 (Q4 .i64 (Q4 .i64 (Q4 .i64 (Q4 .i64 (Q4 .i64 (Q4 .i64 (Q4 .i64 (Q4 .i64 (Q4 .i64 (Q4 .i64 (Q4 .i64 (Q4 .i64 (Q4 .i64 0 1) 1) 1) 1) 1) 1) 1) 1) 1) 1) 1) 1) 1) 1)) 0) then some (true,()) else some (ilt (List.getD z9_ (Int.toNat (Q4 .i64 (Q4 .i64 (Q4 .i64 (Q4 .i64 (Q4 .i64 (Q4 .i64 (Q4 .i64 (Q4 .i64 (Q4 .i64 (Q4 .i64 (Q4 .i64 (Q4 .i64 (Q4 .i64 (Q4 .i64 0 1) 1) 1) 1) 1) 1) 1) 1) 1) 1) 1) 1) 1) 1)) 0) (List.getD (Q3R c) (Int.toNat (Q4 .i64 (Q4 .i64 (Q4 .i64 (Q4 .i64 (Q4 .i64 (Q4 .i64 (Q4 .i64 (Q4 .i64 (Q4 .i64 (Q4 .i64 (Q4 .i64 (Q4 .i64 (Q4 .i64 (Q4 .i64 0 1) 1) 1) 1) 1) 1) 1) 1) 1) 1) 1) 1) 1) 1)) 0),()))) none λr14=>(bif r14.1 then some (((15:Int),()),((),())) else (Q0 ((bif ieq c.QI 0 then some (true,()) else (bif ieq c.QI 18446744073709551615 then some (true,()) else (Q0 (cK136 c.Qv) none λr15=>some (!r15.1.1,()))))) none λr16=>(bif r16.1 then some (((15:Int),()),((),())) else (Q0 ((bif c.Q2t then (bif ilt 1 c.QB then some (true,()) else some (ine c.Qv.Q1W 255,())) else some (false,()))) none λr17=>(bif r17.1 then some (((15:Int),()),((),())) else some (((0:Int),()),((),()))))))))))))))))))))))))))))))))))))
def K51:K51.T:=K51.gen Q2m
theorem K51.Q4C:Z3 K51.B0= []:=by kernel_rfl
abbrev K51.h:=K51.H Q2m
theorem K51.Q1V:ZF U Tryz.prog K51.h.ro K51.h.base K51.B0 (Z1Q Tryz.prog (K51.U0 Q2m) 6 K51.B0 17):=
 Z2x (Hn:=(K51.U0 Q2m)) (L:=λc=>c∈([]:List Code)) (hq (Z0 Z2 Q2m.ok) Z5 (λ_=>rfl) (λ_=>rfl)) (λb h=>by rw [K51.Q4C] at h;exact h) 17
theorem K51.eq (cK136:Q2m.T):EqA K51.sig (K51.H cK136) Tryz.f48 6 (K51.W (K51.gen cK136)):=by intro a x;kernel_rfl
theorem K51.loops:Z3 K51.C= [(.loop K51.B0)]:=by kernel_rfl
theorem K51.ok:NK_ 48 K51.sig (K51.W K51):=ok_ Tryz.func48 (K51.eq Q2m) (hl_ (Z0 Z2 Q2m.ok) (Z7 (by kernel_rfl) K51.Q1V Z5)) K51.loops
def Q2G.sig:Sig U:=⟨[.data .Q1d],[],0,[.data .Q1G],false,[]⟩
abbrev Q2G.T:Type:=(Q9)->Option ((QX×Unit)×Unit×Unit)
def Q2G.W (f:Q2G.T):Q2G.sig.F:=λa x=>f a.1
abbrev Q2G.N (c:Q2G.T):=Qn 88 (Q2G.sig.native (Q2G.W c))
def Q2G.H:Hints U:={ Γ:=noΓ,ro:=0,base:=13}
def Q2G.gen:Q2G.T:=λc=>
 some ((QX.mk (Qd.mk c.QI 0) c.QI c.Qv c.Q16 c.Q15 0 c.Q1e,()),((),()))
def Q2G:Q2G.T:=Q2G.gen
theorem Q2G.ok:NK_ 88 Q2G.sig (Q2G.W Q2G):=ok_ (H:=Q2G.H) (n:=6) Tryz.func88 (by intro a x;kernel_rfl) (hn_ Z2)
def Q3o.sig:Sig U:=⟨[.int .i64,.int .i64,.int .i64],[Q6e],0,[.ref 5],false,[]⟩
abbrev Q3o.T:Type:=(Int)->(Int)->(Int)->(Fm Qo)->Option (((Option Nat)×Unit)×((Fm Qo)×Unit)×Unit)
def Q3o.W (f:Q3o.T):Q3o.sig.F:=λa x=>f a.1 a.2.1 a.2.2.1 x.1
def Q3o.H:Hints U:={ Γ:=noΓ,ro:=0,base:=13}
def Q3o.gen:Q3o.T:=λkp ki step g5=>
 some ((some g5.1,()),(((g5.1+1,Qr g5.2 g5.1 (Qo.mk (Z4 true 0 (Z4 false kp 2000)) (Z4 true 0 (Z4 false ki 2000)) (Z4 true 0 (Z4 false step 1000000000)) 0 0 0 0)),()),()))
def Q3o:Q3o.T:=Q3o.gen
theorem Q3o.ok:NK_ 89 Q3o.sig (Q3o.W Q3o):=ok_ (H:=Q3o.H) (n:=6) Tryz.func89 (by intro a x;kernel_rfl) (hn_ Z2)
def K95.sig:Sig U:=⟨[.int .i64],[Q5y],0,[.ref 9],false,[]⟩
abbrev K95.T:Type:=(Int)->(Fm Qh)->Option (((Option Nat)×Unit)×((Fm Qh)×Unit)×Unit)
def K95.W (f:K95.T):K95.sig.F:=λa x=>f a.1 x.1
def K95.H:Hints U:={ Γ:=noΓ,ro:=0,base:=13}
def K95.gen:K95.T:=λn g9=>
 some ((some g9.1,()),(((g9.1+1,Qr g9.2 g9.1 (Qh.mk (λ(j:Nat)=>List.getD ((0:Int)::(0:Int)::(0:Int)::(0:Int)::(0:Int)::(0:Int)::(0:Int)::(0:Int)::(0:Int)::(0:Int)::(0:Int)::(0:Int)::(0:Int)::(0:Int)::(0:Int)::Qm Int) j (0:D UC.int)) 0 (Z4 true 1 (Z4 false n 15)))),()),()))
def K95:K95.T:=K95.gen
theorem K95.ok:NK_ 90 K95.sig (K95.W K95):=ok_ (H:=K95.H) (n:=6) Tryz.func90 (by intro a x;kernel_rfl) (hn_ Z2)
def K30.sig:Sig U:=⟨[.ptr,.int .i64],[.obj .Q7],1,[.data .Qt],false,[]⟩
abbrev K30.T:Type:=(Int)->(Q1)->Option ((Qd×Unit)×Unit×Unit)
def K30.W (f:K30.T):K30.sig.F:=λa x=>f a.2.1 x.1
abbrev K30.N (c:K30.T):=Qn 79 (K30.sig.native (K30.W c))
def K30.H:Hints U:={ Γ:=(Qn 5000000021 Z17 noΓ),ro:=14,base:=14}
def K30.gen:K30.T:=λn h0=>
 some ((Qd.mk h0.Qs.QI n,()),((),()))
def K30:K30.T:=K30.gen
theorem K30.ok:NK_ 79 K30.sig (K30.W K30):=ok_ (H:=K30.H) (n:=6) Tryz.func79 (by intro a x;kernel_rfl) (hn_ (Z0 Z2 Zd))
def K32.sig:Sig U:=⟨[.ptr,.int .i64],[.obj .Q7],1,[.Q56 0 23 42 8],false,[]⟩
abbrev K32.T:Type:=(Int)->(Q1)->Option ((Nat×Unit)×Unit×Unit)
def K32.W (f:K32.T):K32.sig.F:=λa x=>f a.2.1 x.1
abbrev K32.N (c:K32.T):=Qn 52 (K32.sig.native (K32.W c))
def K32.H:Hints U:={ Γ:=(Qn 5000000021 Z17 noΓ),ro:=14,base:=14}
def K32.gen:K32.T:=λn h0=>
 (bif inR (Q1s .i64 n 1) 8 then some ((Int.toNat (Q1s .i64 n 1),()),((),())) else none)
def K32:K32.T:=K32.gen
theorem K32.ok:NK_ 52 K32.sig (K32.W K32):=ok_ (H:=K32.H) (n:=6) Tryz.func52 (by intro a x;kernel_rfl) (hn_ (Z0 Z2 Zd))
def Q2N.sig:Sig U:=⟨[.int .i64,.int .i64],[],0,[.int .i64],false,[]⟩
abbrev Q2N.T:Type:=(Int)->(Int)->Option ((Int×Unit)×Unit×Unit)
def Q2N.W (f:Q2N.T):Q2N.sig.F:=λa x=>f a.1 a.2.1
def Q2N.H:Hints U:={ Γ:=noΓ,ro:=0,base:=13}
def Q2N.gen:Q2N.T:=λn log=>
 (bif ieq (Z4 true (-3) (Z4 false log 4)) (-3) then some ((Q51 .i64 (Q51 .i64 (Q51 .i64 n 2) 2) 2,()),((),())) else (bif ieq (Z4 true (-3) (Z4 false log 4)) (-2) then some ((Q51 .i64 (Q51 .i64 n 2) 2,()),((),())) else (bif ieq (Z4 true (-3) (Z4 false log 4)) (-1) then some ((Q51 .i64 n 2,()),((),())) else (bif ile 0 (Z4 true (-3) (Z4 false log 4)) then some ((Q8v .i64 n (Z4 true (-3) (Z4 false log 4)),()),((),())) else none))))
def Q2N:Q2N.T:=Q2N.gen
theorem Q2N.ok:NK_ 175 Q2N.sig (Q2N.W Q2N):=ok_ (H:=Q2N.H) (n:=6) Tryz.func175 (by intro a x;kernel_rfl) (hn_ Z2)
def Q2K.sig:Sig U:=⟨[.int .i64],[],0,[.int .i64],false,[]⟩
abbrev Q2K.T:Type:=(Int)->Option ((Int×Unit)×Unit×Unit)
def Q2K.W (f:Q2K.T):Q2K.sig.F:=λa x=>f a.1
def Q2K.H (cK162:Q2N.T):Hints U:={ Γ:=(Qn 175 (Q2N.sig.native (Q2N.W cK162)) noΓ),ro:=0,base:=13}
def Q2K.gen (cK162:Q2N.T):Q2K.T:=λlog=>
 (Q0 (cK162 8 log) none λr0=>some (r0.1,((),())))
def Q2K:Q2K.T:=Q2K.gen Q2N
theorem Q2K.eq (cK162:Q2N.T):EqA Q2K.sig (Q2K.H cK162) Tryz.f132 6 (Q2K.W (Q2K.gen cK162)):=by intro a x;kernel_rfl
theorem Q2K.ok:NK_ 132 Q2K.sig (Q2K.W Q2K):=ok_ Tryz.func132 (Q2K.eq Q2N) (hn_ (Z0 Z2 Q2N.ok))
def K11.sig:Sig U:=⟨[.ptr],[.obj .Q7],1,[.int .i64],false,[]⟩
abbrev K11.T:Type:=(Q1)->Option ((Int×Unit)×Unit×Unit)
def K11.W (f:K11.T):K11.sig.F:=λa x=>f x.1
abbrev K11.N (c:K11.T):=Qn 70 (K11.sig.native (K11.W c))
def K11.H (cK161:Q2K.T):Hints U:={ Γ:=(Qn 132 (Q2K.sig.native (Q2K.W cK161)) (Qn 5000000021 Z17 noΓ)),ro:=14,base:=14}
def K11.gen (cK161:Q2K.T):K11.T:=λh0=>
 (Q0 (cK161 h0.Qs.Q46) none λr0=>some (r0.1,((),())))
def K11:K11.T:=K11.gen Q2K
theorem K11.eq (cK161:Q2K.T):EqA K11.sig (K11.H cK161) Tryz.f70 6 (K11.W (K11.gen cK161)):=by intro a x;kernel_rfl
theorem K11.ok:NK_ 70 K11.sig (K11.W K11):=ok_ Tryz.func70 (K11.eq Q2K) (hn_ (Z0 (Z0 Z2 Zd) Q2K.ok))
def K61.sig:Sig U:=⟨[.int .u64,.int .i64,.int .i64],[Q5c],0,[.ref 6],false,[]⟩
abbrev K61.T:Type:=(Int)->(Int)->(Int)->(Fm Qe)->Option (((Option Nat)×Unit)×((Fm Qe)×Unit)×Unit)
def K61.W (f:K61.T):K61.sig.F:=λa x=>f a.1 a.2.1 a.2.2.1 x.1
def K61.H:Hints U:={ Γ:=noΓ,ro:=0,base:=13}
def K61.gen:K61.T:=λown port window g6=>
 some ((some g6.1,()),(((g6.1+1,Qr g6.2 g6.1 (Qe.mk (Qd.mk own port) (Z4 true 1 (Z4 false window 1048576)) (λ(j:Nat)=>List.getD (Qc.mk z6_ z5_ 0 0 0::Qc.mk z6_ z5_ 0 0 0::Qc.mk z6_ z5_ 0 0 0::Qc.mk z6_ z5_ 0 0 0::Qc.mk z6_ z5_ 0 0 0::Qm Qc) j Qc.zero) 0)),()),()))
def K61:K61.T:=K61.gen
theorem K61.ok:NK_ 91 K61.sig (K61.W K61):=ok_ (H:=K61.H) (n:=6) Tryz.func91 (by intro a x;kernel_rfl) (hn_ Z2)
def Q2L.sig:Sig U:=⟨[],[Q4N],0,[.ref 10],false,[]⟩
abbrev Q2L.T:Type:=(Fm Qz)->Option (((Option Nat)×Unit)×((Fm Qz)×Unit)×Unit)
def Q2L.W (f:Q2L.T):Q2L.sig.F:=λa x=>f x.1
def Q2L.H:Hints U:={ Γ:=noΓ,ro:=0,base:=13}
def Q2L.gen:Q2L.T:=λg10=>
 some ((some g10.1,()),(((g10.1+1,Qr g10.2 g10.1 (Qz.mk z2_ z2_ 0 false false)),()),()))
def Q2L:Q2L.T:=Q2L.gen
theorem Q2L.ok:NK_ 92 Q2L.sig (Q2L.W Q2L):=ok_ (H:=Q2L.H) (n:=6) Tryz.func92 (by intro a x;kernel_rfl) (hn_ Z2)
def K60.sig:Sig U:=⟨[.data .Qt,.int .i64],[Q4R],0,[.ref 7],false,[]⟩
abbrev K60.T:Type:=(Qd)->(Int)->(Fm Qg)->Option (((Option Nat)×Unit)×((Fm Qg)×Unit)×Unit)
def K60.W (f:K60.T):K60.sig.F:=λa x=>f a.1 a.2.1 x.1
def K60.H:Hints U:={ Γ:=noΓ,ro:=0,base:=13}
def K60.gen:K60.T:=λself domain g7=>
 some ((some g7.1,()),(((g7.1+1,Qr g7.2 g7.1 (Qg.mk self domain (QZ.mk 0 0 false false))),()),()))
def K60:K60.T:=K60.gen
theorem K60.ok:NK_ 93 K60.sig (K60.W K60):=ok_ (H:=K60.H) (n:=6) Tryz.func93 (by intro a x;kernel_rfl) (hn_ Z2)
def Q2X.sig:Sig U:=⟨[.data .Qt,.int .i64],[Q53],0,[.ref 8],false,[]⟩
abbrev Q2X.T:Type:=(Qd)->(Int)->(Fm Qb)->Option (((Option Nat)×Unit)×((Fm Qb)×Unit)×Unit)
def Q2X.W (f:Q2X.T):Q2X.sig.F:=λa x=>f a.1 a.2.1 x.1
def Q2X.H:Hints U:={ Γ:=noΓ,ro:=0,base:=13}
def Q2X.gen:Q2X.T:=λself domain g8=>
 some ((some g8.1,()),(((g8.1+1,Qr g8.2 g8.1 (Qb.mk self domain 0 0 false false false false z2_ 0)),()),()))
def Q2X:Q2X.T:=Q2X.gen
theorem Q2X.ok:NK_ 94 Q2X.sig (Q2X.W Q2X):=ok_ (H:=Q2X.H) (n:=6) Tryz.func94 (by intro a x;kernel_rfl) (hn_ Z2)
def K15.sig:Sig U:=⟨[.ptr,.data .Q1d],[.obj .Q7,Q6e,Q5c,Q4R,Q53,Q5y,Q4N,.fam 12 (.map true false .Qt .Q1P)],0,[],true,[]⟩
abbrev K15.T:Type:=(Q9)->(Q1)->(Fm Qo)->(Fm Qe)->(Fm Qg)->(Fm Qb)->(Fm Qh)->(Fm Qz)->(Nat×(Nat->List (Qd×List (Int))))->Option (Unit×(Q1×Q58)×Unit)
def K15.W (f:K15.T):K15.sig.F:=λa x=>f a.2.1 x.1 x.2.1 x.2.2.1 x.2.2.2.1 x.2.2.2.2.1 x.2.2.2.2.2.1 x.2.2.2.2.2.2.1 x.2.2.2.2.2.2.2.1
abbrev K15.N (c:K15.T):=Qn 49 (K15.sig.native (K15.W c))
def K15.L0:Shape U:=⟨57,15,[(0,.ptr 13 0 0),(3,.ptr 14 0 0),(4,vi_)],(13,.obj .Q7)::(14,.obj .Q1d)::Q4B⟩
def K15.X0:Ql U:= [(.exit 0,⟨57,14,[],(13,.obj .Q7)::Q4B⟩)]
abbrev K15.l0T:Type:=((Int×Unit)×(Q1×Q9×Q58))->Option ((Unit×(Q1×Q58)))
def K15.C:Code:=match Tryz.f49.body with|some c=>c|none=>.skip
def K15.B0:Code:=match (Z3 K15.C).getD 0 .skip with| .loop b=>b| .scope b=>b|_=>.skip
def K15.JR6:Ql U:= [(.normal,⟨57,15,[(0,.ptr 13 0 0),(3,.ptr 14 0 0),(4,vi_)],(13,.obj .Q7)::(14,.obj .Q1d)::Q4B⟩)]
def K15.JR5:Ql U:= [(.normal,⟨57,16,[(0,.ptr 13 0 0),(3,.ptr 14 0 0),(4,vi_),(5,.ptr 15 0 0)],(13,.obj .Q7)::(14,.obj .Q1d)::(15,.obj .Qt)::Q4B⟩)]
def K15.JR1:Ql U:= [(.normal,⟨57,15,[(0,.ptr 13 0 0),(3,.ptr 14 0 0)],(13,.obj .Q7)::(14,.obj .Q1d)::Q4B⟩)]
def K15.H (cK178:Q2G.T) (cK149:Q3o.T) (cK95:K95.T) (cK30:K30.T) (cK32:K32.T) (cK11:K11.T) (cK61:K61.T) (cK146:Q2L.T) (cK60:K60.T) (cK128:Q2X.T) (l0:K15.l0T):Hints U:={ Γ:=(Qn 94 (Q2X.sig.native (Q2X.W cK128)) (Qn 93 (K60.sig.native (K60.W cK60)) (Qn 92 (Q2L.sig.native (Q2L.W cK146)) (Qn 91 (K61.sig.native (K61.W cK61)) (K11.N cK11 (K32.N cK32 (K30.N cK30 (Qn 90 (K95.sig.native (K95.W cK95)) (Qn 89 (Q3o.sig.native (Q3o.W cK149)) (Q2G.N cK178 noΓ)))))))))),ro:=0,base:=14,Q2B:=jt_ [(1,K15.JR1),(5,K15.JR5),(6,K15.JR6)],loop:=jt_ [(3,(Z9 (0,14) K15.L0 K15.X0 l0))]}
def K15.QU (cK178:Q2G.T) (cK149:Q3o.T) (cK95:K95.T) (cK30:K30.T) (cK32:K32.T) (cK11:K11.T) (cK61:K61.T) (cK146:Q2L.T) (cK60:K60.T) (cK128:Q2X.T) (a:(Int×Unit)×(Q1×Q9×Q58)):Option (((Int×Unit)×(Q1×Q9×Q58))⊕((Unit×(Q1×Q58)))):=
 (bif ile a.1.1 a.2.2.1.QB then (Q0 ((Q0 (cK30 a.1.1 a.2.1) none λr0=>some (a.1,(a.2.1,(a.2.2.1,(r0.1.1,a.2.2.2)))))) none λr1=>(Q0 ((Q0 (cK32 r1.1.1 r1.2.1) none λr2=>(Q0 (cK11 r1.2.1) none λr3=>(Q0 (cK61 r1.2.2.1.QI r1.1.1 (Q3n .i64 4 r3.1.1) r1.2.2.2.2.2.1) none λr4=>(Q0 (cK146 r1.2.2.2.2.2.2.2.2.2.1) none λr5=>(Q0 (cK60 r1.2.2.2.1 r1.2.2.1.Q1D r1.2.2.2.2.2.2.1) none λr6=>(Q0 (cK128 r1.2.2.2.1 r1.2.2.1.Q1D r1.2.2.2.2.2.2.2.1) none λr7=>some (r1.1,(Q1.QT r1.2.1 (Qr r1.2.1.Qf r2.1.1 (Q5.mk 1 r4.1.1 (some r1.2.2.2.2.2.2.2.2.2.2.1.1) z3_ z3_ z3_ z3_ z3_ 0 0 0 r5.1.1 r6.1.1 r7.1.1 z4_ z4_ z2_ false)),(r1.2.2.1,(r1.2.2.2.2.1,(r4.2.1.1,(r6.2.1.1,(r7.2.1.1,(r1.2.2.2.2.2.2.2.2.1,(r5.2.1.1,((r1.2.2.2.2.2.2.2.2.2.2.1.1+1,Qr r1.2.2.2.2.2.2.2.2.2.2.1.2 r1.2.2.2.2.2.2.2.2.2.2.1.1 (Qm (D UC.Qt×D UC.Q1P))),()))))))))))))))))) none λr8=>some (.inl ((Q4 .i64 r8.1.1 1,()),r8.2)))) else some (.inr ((),(a.2.1,a.2.2.2))))
def K15.F0:K15.l0T:=λa=>Z8 (1000000) (K15.QU Q2G Q3o K95 K30 K32 K11 K61 Q2L K60 Q2X) a
def K15.gen (cK178:Q2G.T) (cK149:Q3o.T) (cK95:K95.T) (cK30:K30.T) (cK32:K32.T) (cK11:K11.T) (cK61:K61.T) (cK146:Q2L.T) (cK60:K60.T) (cK128:Q2X.T) (l0:K15.l0T):K15.T:=λc h0 g5 g6 g7 g8 g9 g10 g12=>
 (Q0 ((Q0 (cK178 c) none λr0=>(Q0 (cK149 c.fKp c.fKi c.Q5E g5) none λr1=>(Q0 (cK95 c.Q4s g9) none λr2=>some ((),(Q1.mk c (λ(j:Nat)=>List.getD (Q5.mk 0 none none z3_ z3_ z3_ z3_ z3_ 0 0 0 none none none z4_ z4_ z2_ false::Q5.mk 0 none none z3_ z3_ z3_ z3_ z3_ 0 0 0 none none none z4_ z4_ z2_ false::Q5.mk 0 none none z3_ z3_ z3_ z3_ z3_ 0 0 0 none none none z4_ z4_ z2_ false::Q5.mk 0 none none z3_ z3_ z3_ z3_ z3_ 0 0 0 none none none z4_ z4_ z2_ false::Q5.mk 0 none none z3_ z3_ z3_ z3_ z3_ 0 0 0 none none none z4_ z4_ z2_ false::Q5.mk 0 none none z3_ z3_ z3_ z3_ z3_ 0 0 0 none none none z4_ z4_ z2_ false::Q5.mk 0 none none z3_ z3_ z3_ z3_ z3_ 0 0 0 none none none z4_ z4_ z2_ false::Q5.mk 0 none none z3_ z3_ z3_ z3_ z3_ 0 0 0 none none none z4_ z4_ z2_ false::Qm Q5) j Q5.zero) 0 r0.1.1 r1.1.1 r2.1.1 0 z4_ 0 h0.Q2p,(c,(r1.2.1.1,(g6,(g7,(g8,(r2.2.1.1,(g10,(g12,())))))))))))))) none λr3=>(Q0 (l0 (((1:Int),()),r3.2)) none λr4=>some ((),(r4.2,()))))
def K15:K15.T:=K15.gen Q2G Q3o K95 K30 K32 K11 K61 Q2L K60 Q2X K15.F0
theorem K15.Q26 (cK178:Q2G.T) (cK149:Q3o.T) (cK95:K95.T) (cK30:K30.T) (cK32:K32.T) (cK11:K11.T) (cK61:K61.T) (cK146:Q2L.T) (cK60:K60.T) (cK128:Q2X.T) (l0:K15.l0T) (a:K15.L0.T):run Tryz.prog (K15.H cK178 cK149 cK95 cK30 cK32 cK11 cK61 cK146 cK60 cK128 l0) 6 (Option (K15.L0.T⊕ExT K15.X0)) none K15.B0 (K15.L0.enc a) (Zj (0,14) K15.L0 K15.X0)=K15.QU cK178 cK149 cK95 cK30 cK32 cK11 cK61 cK146 cK60 cK128 a:=by kernel_rfl
abbrev K15.h:=K15.H Q2G Q3o K95 K30 K32 K11 K61 Q2L K60 Q2X K15.F0
theorem K15.Q1V:LO_ K15.h K15.B0 (Z9 (0,14) K15.L0 K15.X0 K15.F0):=lk_ (hn_ (Z0 (Z0 (Z0 (Z0 (Z0 (Z0 (Z0 (Z0 (Z0 (Z0 Z2 Q2G.ok) Q3o.ok) K95.ok) K30.ok) K32.ok) K11.ok) K61.ok) Q2L.ok) K60.ok) Q2X.ok)) (K15.Q26 Q2G Q3o K95 K30 K32 K11 K61 Q2L K60 Q2X K15.F0)
theorem K15.eq (cK178:Q2G.T) (cK149:Q3o.T) (cK95:K95.T) (cK30:K30.T) (cK32:K32.T) (cK11:K11.T) (cK61:K61.T) (cK146:Q2L.T) (cK60:K60.T) (cK128:Q2X.T) (l0:K15.l0T):EqA K15.sig (K15.H cK178 cK149 cK95 cK30 cK32 cK11 cK61 cK146 cK60 cK128 l0) Tryz.f49 6 (K15.W (K15.gen cK178 cK149 cK95 cK30 cK32 cK11 cK61 cK146 cK60 cK128 l0)):=by intro a x;kernel_rfl
theorem K15.loops:Z3 K15.C= [(.loop K15.B0)]:=by kernel_rfl
theorem K15.ok:NK_ 49 K15.sig (K15.W K15):=ok_ Tryz.func49 (K15.eq Q2G Q3o K95 K30 K32 K11 K61 Q2L K60 Q2X K15.F0) (hl_ (Z0 (Z0 (Z0 (Z0 (Z0 (Z0 (Z0 (Z0 (Z0 (Z0 Z2 Q2G.ok) Q3o.ok) K95.ok) K30.ok) K32.ok) K11.ok) K61.ok) Q2L.ok) K60.ok) Q2X.ok) (Z7 (by kernel_rfl) K15.Q1V Z5)) K15.loops
def K36.sig:Sig U:=⟨[.data .Q1d],[Q9f,Q6e,Q5c,Q4R,Q53,Q5y,Q4N,.fam 12 (.map true false .Qt .Q1P)],0,[.ref 0,.int .i64],true,[]⟩
abbrev K36.T:Type:=(Q9)->(Fm Q1)->(Fm Qo)->(Fm Qe)->(Fm Qg)->(Fm Qb)->(Fm Qh)->(Fm Qz)->(Nat×(Nat->List (Qd×List (Int))))->Option (((Option Nat)×Int×Unit)×(Q3v)×Unit)
def K36.W (f:K36.T):K36.sig.F:=λa x=>f a.1 x.1 x.2.1 x.2.2.1 x.2.2.2.1 x.2.2.2.2.1 x.2.2.2.2.2.1 x.2.2.2.2.2.2.1 x.2.2.2.2.2.2.2.1
def K36.H (cK51:K51.T) (cK15:K15.T):Hints U:={ Γ:=(K15.N cK15 (K51.N cK51 noΓ)),ro:=0,base:=13}
def K36.gen (cK51:K51.T) (cK15:K15.T):K36.T:=λc g0 g5 g6 g7 g8 g9 g10 g12=>
 (Q0 (cK51 c) none λr0=>(bif ine r0.1.1 0 then some ((none,r0.1),((g0,(g5,(g6,(g7,(g8,(g9,(g10,(g12,())))))))),())) else (Q0 (cK15 c (Qr g0.2 g0.1 (Q1.mk z7_ (λ(j:Nat)=>List.getD (Q5.mk 0 none none z3_ z3_ z3_ z3_ z3_ 0 0 0 none none none z4_ z4_ z2_ false::Q5.mk 0 none none z3_ z3_ z3_ z3_ z3_ 0 0 0 none none none z4_ z4_ z2_ false::Q5.mk 0 none none z3_ z3_ z3_ z3_ z3_ 0 0 0 none none none z4_ z4_ z2_ false::Q5.mk 0 none none z3_ z3_ z3_ z3_ z3_ 0 0 0 none none none z4_ z4_ z2_ false::Q5.mk 0 none none z3_ z3_ z3_ z3_ z3_ 0 0 0 none none none z4_ z4_ z2_ false::Q5.mk 0 none none z3_ z3_ z3_ z3_ z3_ 0 0 0 none none none z4_ z4_ z2_ false::Q5.mk 0 none none z3_ z3_ z3_ z3_ z3_ 0 0 0 none none none z4_ z4_ z2_ false::Q5.mk 0 none none z3_ z3_ z3_ z3_ z3_ 0 0 0 none none none z4_ z4_ z2_ false::Qm Q5) j Q5.zero) 0 (QX.mk z0_ 0 z1_ 0 0 0 z5_) none none (0:Int) z4_ 0 (Qm QJ)) g0.1) g5 g6 g7 g8 g9 g10 g12) none λr1=>some ((some g0.1,((0:Int),())),(((g0.1+1,Qr (Qr g0.2 g0.1 (Q1.mk z7_ (λ(j:Nat)=>List.getD (Q5.mk 0 none none z3_ z3_ z3_ z3_ z3_ 0 0 0 none none none z4_ z4_ z2_ false::Q5.mk 0 none none z3_ z3_ z3_ z3_ z3_ 0 0 0 none none none z4_ z4_ z2_ false::Q5.mk 0 none none z3_ z3_ z3_ z3_ z3_ 0 0 0 none none none z4_ z4_ z2_ false::Q5.mk 0 none none z3_ z3_ z3_ z3_ z3_ 0 0 0 none none none z4_ z4_ z2_ false::Q5.mk 0 none none z3_ z3_ z3_ z3_ z3_ 0 0 0 none none none z4_ z4_ z2_ false::Q5.mk 0 none none z3_ z3_ z3_ z3_ z3_ 0 0 0 none none none z4_ z4_ z2_ false::Q5.mk 0 none none z3_ z3_ z3_ z3_ z3_ 0 0 0 none none none z4_ z4_ z2_ false::Q5.mk 0 none none z3_ z3_ z3_ z3_ z3_ 0 0 0 none none none z4_ z4_ z2_ false::Qm Q5) j Q5.zero) 0 (QX.mk z0_ 0 z1_ 0 0 0 z5_) none none (0:Int) z4_ 0 (Qm QJ))) g0.1 r1.2.1.1),r1.2.1.2),())))))
def K36:K36.T:=K36.gen K51 K15
theorem K36.eq (cK51:K51.T) (cK15:K15.T):EqA K36.sig (K36.H cK51 cK15) Tryz.f24 6 (K36.W (K36.gen cK51 cK15)):=by intro a x;kernel_rfl
theorem K36.ok:NK_ 24 K36.sig (K36.W K36):=ok_ Tryz.func24 (K36.eq K51 K15) (hn_ (Z0 (Z0 Z2 K51.ok) K15.ok))
def Q3J.sig:Sig U:=⟨[.int .i64],[],0,[.bool],false,[]⟩
abbrev Q3J.T:Type:=(Int)->Option ((Bool×Unit)×Unit×Unit)
def Q3J.W (f:Q3J.T):Q3J.sig.F:=λa x=>f a.1
abbrev Q3J.N (c:Q3J.T):=Qn 76 (Q3J.sig.native (Q3J.W c))
def Q3J.H:Hints U:={ Γ:=noΓ,ro:=0,base:=13}
def Q3J.gen:Q3J.T:=λstate=>
 (bif ieq state 8 then some ((true,()),((),())) else some ((ieq state 9,()),((),())))
def Q3J:Q3J.T:=Q3J.gen
theorem Q3J.ok:NK_ 76 Q3J.sig (Q3J.W Q3J):=ok_ (H:=Q3J.H) (n:=6) Tryz.func76 (by intro a x;kernel_rfl) (hn_ Z2)
def Q38.sig:Sig U:=⟨[.int .i64],[],0,[.bool],false,[]⟩
abbrev Q38.T:Type:=(Int)->Option ((Bool×Unit)×Unit×Unit)
def Q38.W (f:Q38.T):Q38.sig.F:=λa x=>f a.1
abbrev Q38.N (c:Q38.T):=Qn 129 (Q38.sig.native (Q38.W c))
def Q38.H (cK131:Q3J.T):Hints U:={ Γ:=(Q3J.N cK131 noΓ),ro:=0,base:=13}
def Q38.gen (cK131:Q3J.T):Q38.T:=λstate=>
 (bif ieq state 4 then some ((true,()),((),())) else (bif ieq state 7 then some ((true,()),((),())) else (Q0 (cK131 state) none λr0=>some (r0.1,((),())))))
def Q38:Q38.T:=Q38.gen Q3J
theorem Q38.eq (cK131:Q3J.T):EqA Q38.sig (Q38.H cK131) Tryz.f129 6 (Q38.W (Q38.gen cK131)):=by intro a x;kernel_rfl
theorem Q38.ok:NK_ 129 Q38.sig (Q38.W Q38):=ok_ Tryz.func129 (Q38.eq Q3J) (hn_ (Z0 Z2 Q3J.ok))
def Q1h.sig:Sig U:=⟨[.int .i64,.int .i64,.bool],[],0,[.int .i64],false,[]⟩
abbrev Q1h.T:Type:=(Int)->(Int)->(Bool)->Option ((Int×Unit)×Unit×Unit)
def Q1h.W (f:Q1h.T):Q1h.sig.F:=λa x=>f a.1 a.2.1 a.2.2.1
abbrev Q1h.N (c:Q1h.T):=Qn 95 (Q1h.sig.native (Q1h.W c))
def Q1h.JC6:Ql U:= [(.normal,⟨60,13,[(0,vi_),(1,vi_),(2,vb_),(21,vb_)],[]⟩)]
def Q1h.JC2:Ql U:= [(.normal,⟨60,13,[(0,vi_)],[]⟩),
 (.ret,⟨60,13,[(6,vi_)],[]⟩)]
def Q1h.H (cK132:Q38.T):Hints U:={ Γ:=(Q38.N cK132 noΓ),ro:=0,base:=13,Q1L:=jt_ [(1,[(7,vb_)]),(3,[(14,vb_)]),(5,[(21,vb_)]),(6,[(21,vb_)]),(8,[(34,vb_)]),(12,[(42,vb_)]),(14,[(49,vb_)])],Q23:=jt_ [(2,Q1h.JC2),(6,Q1h.JC6)]}
def Q1h.gen (cK132:Q38.T):Q1h.T:=λstate event slaveOnly=>
 (Q0 ((bif ieq event 1 then some (ieq state 1,()) else some (false,()))) none λr0=>(Q0 ((bif r0.1 then some (.inr (((4:Int),()),())) else (Q0 ((bif ieq event 2 then some (ine state 3,()) else some (false,()))) none λr1=>(bif r1.1 then some (.inr (((2:Int),()),())) else (Q0 ((bif ieq event 3 then some (ieq state 2,()) else some (false,()))) none λr2=>(Q0 ((bif r2.1 then some ((state,(event,(slaveOnly,r2))),()) else (Q0 ((bif ieq event 8 then some (ieq state 3,()) else some (false,()))) none λr3=>some ((state,(event,(slaveOnly,r3))),())))) none λr4=>(bif r4.1.2.2.2.1 then some (.inr (((1:Int),()),())) else (Q0 ((bif ieq r4.1.2.1 4 then (Q0 (cK132 r4.1.1) none λr5=>some r5.1) else some (false,()))) none λr6=>(bif r6.1 then (bif r4.1.2.2.1 then some (.inr (((4:Int),()),())) else some (.inr (((6:Int),()),()))) else (Q0 ((bif ieq r4.1.2.1 5 then some (ieq r4.1.1 5,()) else some (false,()))) none λr7=>(bif r7.1 then some (.inr (((6:Int),()),())) else (Q0 ((bif ieq r4.1.2.1 6 then some (ieq r4.1.1 8,()) else some (false,()))) none λr8=>(bif r8.1 then some (.inr (((9:Int),()),())) else (bif ieq r4.1.2.1 7 then some (.inr (((3:Int),()),())) else some (.inl ((r4.1.1,()),())))))))))))))))) none λr9=>(Q3V r9 (λr10=>some (r10.1,((),()))) (λr10=>some (r10.1,((),()))))))
def Q1h:Q1h.T:=Q1h.gen Q38
theorem Q1h.eq (cK132:Q38.T):EqA Q1h.sig (Q1h.H cK132) Tryz.f95 6 (Q1h.W (Q1h.gen cK132)):=by intro a x;kernel_rfl
theorem Q1h.ok:NK_ 95 Q1h.sig (Q1h.W Q1h):=ok_ Tryz.func95 (Q1h.eq Q38) (hn_ (Z0 Z2 Q38.ok))
def K28.sig:Sig U:=⟨[.ptr],[.obj .Q7],1,[.int .i64],false,[]⟩
abbrev K28.T:Type:=(Q1)->Option ((Int×Unit)×Unit×Unit)
def K28.W (f:K28.T):K28.sig.F:=λa x=>f x.1
abbrev K28.N (c:K28.T):=Qn 127 (K28.sig.native (K28.W c))
def K28.H (cK11:K11.T):Hints U:={ Γ:=(K11.N cK11 (Qn 5000000021 Z17 noΓ)),ro:=14,base:=14}
def K28.gen (cK11:K11.T):K28.T:=λh0=>
 (Q0 (cK11 h0) none λr0=>some ((Q3n .i64 h0.Qs.Q3U r0.1.1,()),((),())))
def K28:K28.T:=K28.gen K11
theorem K28.eq (cK11:K11.T):EqA K28.sig (K28.H cK11) Tryz.f127 6 (K28.W (K28.gen cK11)):=by intro a x;kernel_rfl
theorem K28.ok:NK_ 127 K28.sig (K28.W K28):=ok_ Tryz.func127 (K28.eq K11) (hn_ (Z0 (Z0 Z2 Zd) K11.ok))
def Q37.sig:Sig U:=⟨[.ptr,.int .i64],[.obj .Q1I],0,[],true,[]⟩
abbrev Q37.T:Type:=(Int)->(QS)->Option (Unit×(QS×Unit)×Unit)
def Q37.W (f:Q37.T):Q37.sig.F:=λa x=>f a.2.1 x.1
abbrev Q37.N (c:Q37.T):=Qn 126 (Q37.sig.native (Q37.W c))
def Q37.H:Hints U:={ Γ:=noΓ,ro:=0,base:=14}
def Q37.gen:Q37.T:=λn h0=>
 some ((),((QS.mk (Z4 true 1 (Z4 false n 1073741824)),()),()))
def Q37:Q37.T:=Q37.gen
theorem Q37.ok:NK_ 126 Q37.sig (Q37.W Q37):=ok_ (H:=Q37.H) (n:=6) Tryz.func126 (by intro a x;kernel_rfl) (hn_ Z2)
def Q4c.sig:Sig U:=⟨[.int .i64],[],0,[.bool],false,[]⟩
abbrev Q4c.T:Type:=(Int)->Option ((Bool×Unit)×Unit×Unit)
def Q4c.W (f:Q4c.T):Q4c.sig.F:=λa x=>f a.1
abbrev Q4c.N (c:Q4c.T):=Qn 74 (Q4c.sig.native (Q4c.W c))
def Q4c.H:Hints U:={ Γ:=noΓ,ro:=0,base:=13}
def Q4c.gen:Q4c.T:=λstate=>
 (bif ile 4 state then some ((ile state 9,()),((),())) else some ((false,()),((),())))
def Q4c:Q4c.T:=Q4c.gen
theorem Q4c.ok:NK_ 74 Q4c.sig (Q4c.W Q4c):=ok_ (H:=Q4c.H) (n:=6) Tryz.func74 (by intro a x;kernel_rfl) (hn_ Z2)
def K68.sig:Sig U:=⟨[.ptr,.int .i64,.int .i64],[.obj .Qy],1,[.bool],false,[]⟩
abbrev K68.T:Type:=(Int)->(Int)->(Qe)->Option ((Bool×Unit)×Unit×Unit)
def K68.W (f:K68.T):K68.sig.F:=λa x=>f a.2.1 a.2.2.1 x.1
def K68.H:Hints U:={ Γ:=noΓ,ro:=14,base:=14}
def K68.gen:K68.T:=λat_1 now h0=>
 (bif ile at_1 now then some ((ile h0.Qag (Q1s .i64 now at_1),()),((),())) else some ((false,()),((),())))
def K68:K68.T:=K68.gen
theorem K68.ok:NK_ 197 K68.sig (K68.W K68):=ok_ (H:=K68.H) (n:=6) Tryz.func197 (by intro a x;kernel_rfl) (hn_ Z2)
def K62.sig:Sig U:=⟨[.ptr,.int .i64],[.obj .Qy],0,[],true,[]⟩
abbrev K62.T:Type:=(Int)->(Qe)->Option (Unit×(Qe×Unit)×Unit)
def K62.W (f:K62.T):K62.sig.F:=λa x=>f a.2.1 x.1
def K62.L0:Shape U:=⟨60,14,[(0,.ptr 13 0 0),(1,vi_),(4,vi_)],[(13,.obj .Qy)]⟩
def K62.X0:Ql U:= [(.exit 0,⟨60,14,[],[(13,.obj .Qy)]⟩)]
abbrev K62.l0T:Type:=((Int×Int×Unit)×(Qe×Unit))->Option ((Unit×(Qe×Unit)))
def K62.C:Code:=match Tryz.f174.body with|some c=>c|none=>.skip
def K62.B0:Code:=match (Z3 K62.C).getD 0 .skip with| .loop b=>b| .scope b=>b|_=>.skip
def K62.JR5:Ql U:= [(.normal,⟨60,14,[(0,.ptr 13 0 0),(1,vi_),(4,vi_)],[(13,.obj .Qy)]⟩)]
def K62.H (cK68:K68.T) (l0:K62.l0T):Hints U:={ Γ:=(Qn 197 (K68.sig.native (K68.W cK68)) noΓ),ro:=0,base:=14,Q2B:=jt_ [(5,K62.JR5)],loop:=jt_ [(1,(Z9 (0,14) K62.L0 K62.X0 l0))]}
def K62.QU (cK68:K68.T) (a:(Int×Int×Unit)×(Qe×Unit)):Option (((Int×Int×Unit)×(Qe×Unit))⊕((Unit×(Qe×Unit)))):=
 (bif ilt a.1.2.1 a.2.1.fn then (bif inR a.1.2.1 5 then (Q0 (cK68 (a.2.1.fl (Int.toNat a.1.2.1)).Q9x a.1.1 a.2.1) none λr0=>(bif !r0.1.1 then some (.inl ((a.1.1,(Q4 .i64 a.1.2.1 1,())),a.2)) else (bif le3 a.1.2.1 a.2.1.fn 5 then (bif le3 (Q4 .i64 a.1.2.1 1) a.2.1.fn 5 then (bif inR (Q1s .i64 a.2.1.fn 1) 5 then some (.inl (a.1,(Qe.Q7Y (Qe.Q9K a.2.1 (Qr (λ(i:Nat)=>bif Nat.ble (Int.toNat a.1.2.1) i && Nat.blt i (Int.toNat a.1.2.1+Nat.min (Int.toNat a.2.1.fn - Int.toNat (Q4 .i64 a.1.2.1 1)) (Int.toNat a.2.1.fn - Int.toNat a.1.2.1)) then a.2.1.fl (Int.toNat (Q4 .i64 a.1.2.1 1)+(i - Int.toNat a.1.2.1)) else a.2.1.fl i) (Int.toNat (Q1s .i64 a.2.1.fn 1)) (Qc.mk z6_ z5_ 0 0 0))) (Q1s .i64 a.2.1.fn 1),()))) else none) else none) else none))) else none) else some (.inr ((),a.2)))
def K62.F0:K62.l0T:=λa=>Z8 (1000000) (K62.QU K68) a
def K62.gen (cK68:K68.T) (l0:K62.l0T):K62.T:=λnow h0=>
 (Q0 (l0 ((now,(0:Int),()),h0,())) none λr0=>some ((),(r0.2,())))
def K62:K62.T:=K62.gen K68 K62.F0
theorem K62.Q26 (cK68:K68.T) (l0:K62.l0T) (a:K62.L0.T):run Tryz.prog (K62.H cK68 l0) 6 (Option (K62.L0.T⊕ExT K62.X0)) none K62.B0 (K62.L0.enc a) (Zj (0,14) K62.L0 K62.X0)=K62.QU cK68 a:=by kernel_rfl
abbrev K62.h:=K62.H K68 K62.F0
theorem K62.Q1V:LO_ K62.h K62.B0 (Z9 (0,14) K62.L0 K62.X0 K62.F0):=lk_ (hn_ (Z0 Z2 K68.ok)) (K62.Q26 K68 K62.F0)
theorem K62.eq (cK68:K68.T) (l0:K62.l0T):EqA K62.sig (K62.H cK68 l0) Tryz.f174 6 (K62.W (K62.gen cK68 l0)):=by intro a x;kernel_rfl
theorem K62.loops:Z3 K62.C= [(.loop K62.B0)]:=by kernel_rfl
theorem K62.ok:NK_ 174 K62.sig (K62.W K62):=ok_ Tryz.func174 (K62.eq K68 K62.F0) (hl_ (Z0 Z2 K68.ok) (Z7 (by kernel_rfl) K62.Q1V Z5)) K62.loops
def K67.sig:Sig U:=⟨[.ptr],[.obj .Qy],1,[.isl .QA],false,[]⟩
abbrev K67.T:Type:=(Qe)->Option (((List (Qc))×Unit)×Unit×Unit)
def K67.W (f:K67.T):K67.sig.F:=λa x=>f x.1
def K67.H:Hints U:={ Γ:=noΓ,ro:=14,base:=14}
def K67.gen:K67.T:=λh0=>
 (bif le3 (ofN 0) h0.fn 5 then (bif room (List.length (Qm Qc)+List.length (List.map (λ(j:Nat)=>h0.fl (Int.toNat (ofN 0)+j)) (List.range (Int.toNat h0.fn - Int.toNat (ofN 0))))) 136 then some ((Qm Qc++List.map (λ(j:Nat)=>h0.fl (Int.toNat (ofN 0)+j)) (List.range (Int.toNat h0.fn - Int.toNat (ofN 0))),()),((),())) else none) else none)
def K67:K67.T:=K67.gen
theorem K67.ok:NK_ 64 K67.sig (K67.W K67):=ok_ (H:=K67.H) (n:=6) Tryz.func64 (by intro a x;kernel_rfl) (hn_ Z2)
def K37.sig:Sig U:=⟨[.ptr,.int .i64],[.obj .QG,Q5c,.fam 12 (.map true false .Qt .Q1P)],0,[],true,[]⟩
abbrev K37.T:Type:=(Int)->(Q5)->(Fm Qe)->(Nat×(Nat->List (Qd×List (Int))))->Option (Unit×(Q5×Q7q)×Unit)
def K37.W (f:K37.T):K37.sig.F:=λa x=>f a.2.1 x.1 x.2.1 x.2.2.1
def K37.L0:Shape U:=⟨41,14,[(0,.ptr 13 0 0),(4,.val (.Q3O 12)),(18,.val (.isl .QA)),(19,vi_),(20,vi_)],(13,.obj .QG)::Q5Z⟩
def K37.X0:Ql U:= [(.exit 0,⟨41,14,[(0,.ptr 13 0 0),(4,.val (.Q3O 12))],(13,.obj .QG)::Q5Z⟩)]
abbrev K37.l0T:Type:=(((Option Nat)×(List (Qc))×Int×Int×Unit)×(Q5×Q7q))->Option ((((Option Nat)×Unit)×(Q5×Q7q)))
def K37.C:Code:=match Tryz.f128.body with|some c=>c|none=>.skip
def K37.B0:Code:=match (Z3 K37.C).getD 0 .skip with| .loop b=>b| .scope b=>b|_=>.skip
def K37.JR5:Ql U:= [(.normal,⟨41,14,[(0,.ptr 13 0 0),(4,.val (.Q3O 12)),(18,.val (.isl .QA)),(19,vi_),(20,vi_)],(13,.obj .QG)::Q5Z⟩)]
def K37.JR4:Ql U:= [(.normal,⟨41,15,[(0,.ptr 13 0 0),(4,.val (.Q3O 12)),(6,.ptr 14 0 0),(18,.val (.isl .QA)),(19,vi_),(20,vi_)],(13,.obj .QG)::(14,.obj .QA)::Q5Z⟩)]
def K37.JR0:Ql U:= [(.normal,⟨41,14,[(0,.ptr 13 0 0)],(13,.obj .QG)::Q5Z⟩)]
def K37.H (cK62:K62.T) (cK67:K67.T) (l0:K37.l0T):Hints U:={ Γ:=(Qn 64 (K67.sig.native (K67.W cK67)) (Qn 174 (K62.sig.native (K62.W cK62)) noΓ)),ro:=0,base:=14,Q2B:=jt_ [(0,K37.JR0),(4,K37.JR4),(5,K37.JR5)],loop:=jt_ [(3,(Z9 (0,14) K37.L0 K37.X0 l0))]}
def K37.QU (cK62:K62.T) (cK67:K67.T) (a:((Option Nat)×(List (Qc))×Int×Int×Unit)×(Q5×Q7q)):Option ((((Option Nat)×(List (Qc))×Int×Int×Unit)×(Q5×Q7q))⊕((((Option Nat)×Unit)×(Q5×Q7q)))):=
 (bif ilt a.1.2.2.2.1 a.1.2.2.1 then (Q0 ((bif inR a.1.2.2.2.1 (List.length a.1.2.1) then some (a.1,(a.2.1,(List.getD a.1.2.1 (Int.toNat a.1.2.2.2.1) Qc.zero,a.2.2))) else none)) none λr0=>(Q0 ((Q0 ((Q0 (r0.2.1.3) none λr1=>((@Z1W U Go.Proofs.Tryz.prog 31 UC.Qt UC.Q1P (r0.2.2.1.Q3g.Q4H) (r0.2.2.2.2.1.2 r1)):Option (Option (List Int))))) none λ(r2:Option (List Int))=>(Q0 ((Q0 (r0.1.1) none λr3=>(Q0 ((@Z25 U Go.Proofs.Tryz.prog 31 UC.Qt UC.Q1P (r0.2.2.1.Q3g.Q4H) (Option.getD r2 (Qm Int)) (r0.2.2.2.2.1.2 r3))) none λ(r4:List (Qd×List Int))=>some (r3,r4)))) none λ(r5:Nat×List (Qd×List Int))=>some (r0.1,(r0.2.1,(r0.2.2.2.1,((r0.2.2.2.2.1.1,Qr r0.2.2.2.2.1.2 r5.1 r5.2),()))))))) none λr6=>some (.inl ((r6.1.1,(r6.1.2.1,(r6.1.2.2.1,(Q4 .i64 r6.1.2.2.2.1 1,())))),r6.2)))) else some (.inr ((a.1.1,()),a.2)))
def K37.F0:K37.l0T:=λa=>Z8 (1000000+(a.1.2.1.length)) (K37.QU K62 K67) a
def K37.gen (cK62:K62.T) (cK67:K67.T) (l0:K37.l0T):K37.T:=λnow h0 g6 g12=>
 (Q0 ((Q0 (h0.2) none λr0=>(Q0 (cK62 now (g6.2 r0)) none λr1=>some ((),(h0,((g6.1,Qr g6.2 r0 r1.2.1.1),(g12,()))))))) none λr2=>(Q0 (r2.2.1.2) none λr3=>(Q0 (cK67 (r2.2.2.1.2 r3)) none λr4=>(Q0 (l0 ((some r2.2.2.2.1.1,r4.1.1,ofN (List.length r4.1.1),(0:Int),()),r2.2.1,r2.2.2.1,(r2.2.2.2.1.1+1,Qr r2.2.2.2.1.2 r2.2.2.2.1.1 (Qm (D UC.Qt×D UC.Q1P))),())) none λr5=>some ((),((Q5.Q5t r5.2.1 r5.1.1,r5.2.2),()))))))
def K37:K37.T:=K37.gen K62 K67 K37.F0
theorem K37.Q26 (cK62:K62.T) (cK67:K67.T) (l0:K37.l0T) (a:K37.L0.T):run Tryz.prog (K37.H cK62 cK67 l0) 6 (Option (K37.L0.T⊕ExT K37.X0)) none K37.B0 (K37.L0.enc a) (Zj (0,14) K37.L0 K37.X0)=K37.QU cK62 cK67 a:=by kernel_rfl
abbrev K37.h:=K37.H K62 K67 K37.F0
theorem K37.Q1V:LO_ K37.h K37.B0 (Z9 (0,14) K37.L0 K37.X0 K37.F0):=lk_ (hn_ (Z0 (Z0 Z2 K62.ok) K67.ok)) (K37.Q26 K62 K67 K37.F0)
theorem K37.eq (cK62:K62.T) (cK67:K67.T) (l0:K37.l0T):EqA K37.sig (K37.H cK62 cK67 l0) Tryz.f128 6 (K37.W (K37.gen cK62 cK67 l0)):=by intro a x;kernel_rfl
theorem K37.loops:Z3 K37.C= [(.loop K37.B0)]:=by kernel_rfl
theorem K37.ok:NK_ 128 K37.sig (K37.W K37):=ok_ Tryz.func128 (K37.eq K62 K67 K37.F0) (hl_ (Z0 (Z0 Z2 K62.ok) K67.ok) (Z7 (by kernel_rfl) K37.Q1V Z5)) K37.loops
def Q2H.sig:Sig U:=⟨[.ptr],[.obj .Q1I],0,[.bool],false,[]⟩
abbrev Q2H.T:Type:=(QS)->Option ((Bool×Unit)×(QS×Unit)×Unit)
def Q2H.W (f:Q2H.T):Q2H.sig.F:=λa x=>f x.1
def Q2H.C:Code:=match Tryz.f130.body with|some c=>c|none=>.skip
def Q2H.B0:Code:=match (Z3 Q2H.C).getD 0 .skip with| .loop b=>b| .scope b=>b|_=>.skip
def Q2H.H:Hints U:={ Γ:=noΓ,ro:=0,base:=14,gotos:=3,loop:=λb=>none}
def Q2H.gen:Q2H.T:=λh0=>
 (bif ieq h0.Q6F 0 then some ((false,()),((h0,()),())) else some ((ieq (Q1s .i64 h0.Q6F 1) 0,()),((QS.mk (Q1s .i64 h0.Q6F 1),()),())))
def Q2H:Q2H.T:=Q2H.gen
theorem Q2H.loops:Z3 Q2H.C= [(.scope Q2H.B0)]:=by kernel_rfl
theorem Q2H.ok:NK_ 130 Q2H.sig (Q2H.W Q2H):=ok_ (H:=Q2H.H) (n:=6) Tryz.func130 (by intro a x;kernel_rfl) (hl_ Z2 (Zt Z5)) Q2H.loops
def K64.sig:Sig U:=⟨[.ptr],[.obj .Qy],0,[],true,[]⟩
abbrev K64.T:Type:=(Qe)->Option (Unit×(Qe×Unit)×Unit)
def K64.W (f:K64.T):K64.sig.F:=λa x=>f x.1
def K64.H:Hints U:={ Γ:=noΓ,ro:=0,base:=14}
def K64.gen:K64.T:=λh0=>
 some ((),((Qe.Q7Y (Qe.Q9K h0 λ(j:Nat)=>List.getD (Qc.mk z6_ z5_ 0 0 0::Qc.mk z6_ z5_ 0 0 0::Qc.mk z6_ z5_ 0 0 0::Qc.mk z6_ z5_ 0 0 0::Qc.mk z6_ z5_ 0 0 0::Qm Qc) j Qc.zero) 0,()),()))
def K64:K64.T:=K64.gen
theorem K64.ok:NK_ 163 K64.sig (K64.W K64):=ok_ (H:=K64.H) (n:=6) Tryz.func163 (by intro a x;kernel_rfl) (hn_ Z2)
def K38.sig:Sig U:=⟨[.ptr],[.obj .QG,Q5c,.fam 12 (.map true false .Qt .Q1P)],0,[],true,[]⟩
abbrev K38.T:Type:=(Q5)->(Fm Qe)->(Nat×(Nat->List (Qd×List (Int))))->Option (Unit×(Q5×Q7q)×Unit)
def K38.W (f:K38.T):K38.sig.F:=λa x=>f x.1 x.2.1 x.2.2.1
def K38.JR0:Ql U:= [(.normal,⟨11,14,[(0,.ptr 13 0 0)],(13,.obj .QG)::Q5Z⟩)]
def K38.H (cK64:K64.T):Hints U:={ Γ:=(Qn 163 (K64.sig.native (K64.W cK64)) noΓ),ro:=0,base:=14,Q2B:=jt_ [(0,K38.JR0)]}
def K38.gen (cK64:K64.T):K38.T:=λh0 g6 g12=>
 (Q0 ((Q0 (h0.2) none λr0=>(Q0 (cK64 (g6.2 r0)) none λr1=>some ((),(h0,((g6.1,Qr g6.2 r0 r1.2.1.1),(g12,()))))))) none λr2=>some ((),((Q5.Q5t r2.2.1 (some r2.2.2.2.1.1),(r2.2.2.1,((r2.2.2.2.1.1+1,Qr r2.2.2.2.1.2 r2.2.2.2.1.1 (Qm (D UC.Qt×D UC.Q1P))),()))),())))
def K38:K38.T:=K38.gen K64
theorem K38.eq (cK64:K64.T):EqA K38.sig (K38.H cK64) Tryz.f96 6 (K38.W (K38.gen cK64)):=by intro a x;kernel_rfl
theorem K38.ok:NK_ 96 K38.sig (K38.W K38):=ok_ Tryz.func96 (K38.eq K64) (hn_ (Z0 Z2 K64.ok))
def Q21.sig:Sig U:=⟨[.ptr],[.obj .Q1I],0,[],true,[]⟩
abbrev Q21.T:Type:=(QS)->Option (Unit×(QS×Unit)×Unit)
def Q21.W (f:Q21.T):Q21.sig.F:=λa x=>f x.1
abbrev Q21.N (c:Q21.T):=Qn 166 (Q21.sig.native (Q21.W c))
def Q21.H:Hints U:={ Γ:=noΓ,ro:=0,base:=14}
def Q21.gen:Q21.T:=λh0=>
 some ((),((QS.mk 0,()),()))
def Q21:Q21.T:=Q21.gen
theorem Q21.ok:NK_ 166 Q21.sig (Q21.W Q21):=ok_ (H:=Q21.H) (n:=6) Tryz.func166 (by intro a x;kernel_rfl) (hn_ Z2)
def K20.sig:Sig U:=⟨[.ptr,.Q56 0 23 42 8],[.obj .Q7],0,[],true,[]⟩
abbrev K20.T:Type:=(Nat)->(Q1)->Option (Unit×(Q1×Unit)×Unit)
def K20.W (f:K20.T):K20.sig.F:=λa x=>f a.2.1 x.1
def K20.JR4:Ql U:= [(.normal,⟨30,14,[(1,.Q1g 13 23 42 8 0)],[(13,.obj .Q7)]⟩)]
def K20.JR1:Ql U:= [(.normal,⟨30,14,[(0,.ptr 13 0 0),(1,.Q1g 13 23 42 8 0)],[(13,.obj .Q7)]⟩)]
def K20.H (cK164:Q21.T) (cK163:Q37.T):Hints U:={ Γ:=(Q37.N cK163 (Q21.N cK164 noΓ)),ro:=0,base:=14,Q2B:=jt_ [(0,K20.JR1),(1,K20.JR1),(4,K20.JR4)],Q23:=jt_ [(3,K20.JR4)]}
def K20.gen (cK164:Q21.T) (cK163:Q37.T):K20.T:=λp h0=>
 (Q0 ((Q0 (cK164 (h0.Qf p).Q45) none λr0=>some ((p,()),(Q1.QT h0 (Qr h0.Qf p (Q5.Q3X (h0.Qf p) r0.2.1.1)),())))) none λr1=>(Q0 ((Q0 (cK164 (r1.2.1.Qf r1.1.1).Q54) none λr2=>some (r1.1,(Q1.QT r1.2.1 (Qr r1.2.1.Qf r1.1.1 (Q5.Q5j (r1.2.1.Qf r1.1.1) r2.2.1.1)),())))) none λr3=>(Q0 ((bif !r3.2.1.Qs.Q4r then (Q0 (cK164 (r3.2.1.Qf r3.1.1).Q6R) none λr4=>some (r3.1,(Q1.QT r3.2.1 (Qr r3.2.1.Qf r3.1.1 (Q5.Q6i (r3.2.1.Qf r3.1.1) r4.2.1.1)),()))) else some r3)) none λr5=>(Q0 ((Q0 (cK163 1 (r5.2.1.Qf r5.1.1).Q4J) none λr6=>some (r5.1,(Q1.QT r5.2.1 (Qr r5.2.1.Qf r5.1.1 (Q5.Q5a (r5.2.1.Qf r5.1.1) r6.2.1.1)),())))) none λr7=>(Q0 (cK163 1 (r7.2.1.Qf r7.1.1).fsync) none λr8=>some ((),((Q1.QT r7.2.1 (Qr r7.2.1.Qf r7.1.1 (Q5.Q6w (r7.2.1.Qf r7.1.1) r8.2.1.1)),()),())))))))
def K20:K20.T:=K20.gen Q21 Q37
theorem K20.eq (cK164:Q21.T) (cK163:Q37.T):EqA K20.sig (K20.H cK164 cK163) Tryz.f131 6 (K20.W (K20.gen cK164 cK163)):=by intro a x;kernel_rfl
theorem K20.ok:NK_ 131 K20.sig (K20.W K20):=ok_ Tryz.func131 (K20.eq Q21 Q37) (hn_ (Z0 (Z0 Z2 Q21.ok) Q37.ok))
def K17.sig:Sig U:=⟨[.ptr,.Q56 0 23 42 8],[.obj .Q7,Q5c,.fam 12 (.map true false .Qt .Q1P)],0,[],true,[]⟩
abbrev K17.T:Type:=(Nat)->(Q1)->(Fm Qe)->(Nat×(Nat->List (Qd×List (Int))))->Option (Unit×(Q1×Q7q)×Unit)
def K17.W (f:K17.T):K17.sig.F:=λa x=>f a.2.1 x.1 x.2.1 x.2.2.1
def K17.C:Code:=match Tryz.f69.body with|some c=>c|none=>.skip
def K17.B0:Code:=match (Z3 K17.C).getD 0 .skip with| .loop b=>b| .scope b=>b|_=>.skip
def K17.Q79:Ql U:= [(.normal,⟨128,14,[(0,.ptr 13 0 0),(1,.Q1g 13 23 42 8 0)],(13,.obj .Q7)::Q5Z⟩)]
def K17.Q8Y:Ql U:= [(.normal,⟨128,14,[(0,.ptr 13 0 0),(1,.Q1g 13 23 42 8 0),(111,vb_)],(13,.obj .Q7)::Q5Z⟩)]
def K17.JR7:Ql U:= [(.normal,⟨128,14,[(0,.ptr 13 0 0),(1,.Q1g 13 23 42 8 0),(58,vb_)],(13,.obj .Q7)::Q5Z⟩)]
def K17.JC4:Ql U:= [(.normal,⟨128,14,[],(13,.obj .Q7)::Q5Z⟩)]
def K17.H (cK133:Q1h.T) (cK28:K28.T) (cK163:Q37.T) (cK129:Q4c.T) (cK37:K37.T) (cK132:Q38.T) (cK165:Q2H.T) (cK131:Q3J.T) (cK178:Q2G.T) (cK38:K38.T) (cK20:K20.T):Hints U:={ Γ:=(Qn 131 (K20.sig.native (K20.W cK20)) (Qn 96 (K38.sig.native (K38.W cK38)) (Q2G.N cK178 (Q3J.N cK131 (Qn 130 (Q2H.sig.native (Q2H.W cK165)) (Q38.N cK132 (Qn 128 (K37.sig.native (K37.W cK37)) (Q4c.N cK129 (Q37.N cK163 (K28.N cK28 (Q1h.N cK133 noΓ))))))))))),ro:=0,base:=14,Q2B:=jt_ [(1,K17.Q79),(2,K17.Q79),(7,K17.JR7),(10,K17.Q79),(11,K17.Q79),(15,K17.Q8Y),(16,K17.Q79)],Q23:=jt_ [(4,K17.JC4),(6,K17.Q79),(8,K17.Q79),(9,K17.Q79)],gotos:=3,loop:=λb=>none}
def K17.gen (cK133:Q1h.T) (cK28:K28.T) (cK163:Q37.T) (cK129:Q4c.T) (cK37:K37.T) (cK132:Q38.T) (cK165:Q2H.T) (cK131:Q3J.T) (cK178:Q2G.T) (cK38:K38.T) (cK20:K20.T):K17.T:=λp h0 g6 g12=>
 (bif ieq (h0.Qf p).Q1w 1 then (Q0 ((Q0 (cK133 (h0.Qf p).Q1w 1 h0.Qs.Q2t) none λr0=>some ((p,()),(Q1.QT h0 (Qr h0.Qf p (Q5.Q3C (h0.Qf p) r0.1.1)),(g6,(g12,())))))) none λr1=>(Q0 ((Q0 (cK28 r1.2.1) none λr2=>(Q0 (cK163 r2.1.1 (r1.2.1.Qf r1.1.1).Q45) none λr3=>some (r1.1,(Q1.QT r1.2.1 (Qr r1.2.1.Qf r1.1.1 (Q5.Q3X (r1.2.1.Qf r1.1.1) r3.2.1.1)),r1.2.2))))) none λr4=>(Q0 ((bif r4.2.1.Qs.Q4r then (Q0 (cK163 1 (r4.2.1.Qf r4.1.1).Q6R) none λr5=>some ((),(Q1.QT r4.2.1 (Qr r4.2.1.Qf r4.1.1 (Q5.Q6i (r4.2.1.Qf r4.1.1) r5.2.1.1)),r4.2.2))) else some ((),r4.2))) none λr6=>some ((),(r6.2,()))))) else (Q0 (cK129 (h0.Qf p).Q1w) none λr7=>(Q0 ((bif r7.1.1 then (Q0 (cK37 h0.Q5k (h0.Qf p) g6 g12) none λr8=>some ((p,()),(Q1.QT h0 (Qr h0.Qf p r8.2.1.1),r8.2.1.2))) else some ((p,()),(h0,(g6,(g12,())))))) none λr9=>(Q0 ((Q0 (cK132 (r9.2.1.Qf r9.1.1).Q1w) none λr10=>(bif r10.1.1 then (Q0 (cK165 (r9.2.1.Qf r9.1.1).Q45) none λr11=>some ((r9.1.1,r11.1),(Q1.QT r9.2.1 (Qr r9.2.1.Qf r9.1.1 (Q5.Q3X (r9.2.1.Qf r9.1.1) r11.2.1.1)),r9.2.2))) else some ((r9.1.1,(false,())),r9.2)))) none λr12=>(Q0 ((bif r12.1.2.1 then (Q0 (cK131 (r12.2.1.Qf r12.1.1).Q1w) none λr13=>(Q0 ((bif r13.1.1 then (Q0 (cK178 r12.2.1.Qs) none λr14=>some ((r12.1.1,()),(Q1.Q48 r12.2.1 r14.1.1,r12.2.2))) else some ((r12.1.1,()),r12.2))) none λr15=>(Q0 ((Q0 (cK38 (r15.2.1.Qf r15.1.1) r15.2.2.1 r15.2.2.2.1) none λr16=>some (r15.1,(Q1.QT r15.2.1 (Qr r15.2.1.Qf r15.1.1 r16.2.1.1),r16.2.1.2)))) none λr17=>(Q0 ((Q0 (cK133 (r17.2.1.Qf r17.1.1).Q1w 4 r17.2.1.Qs.Q2t) none λr18=>some (r17.1,(Q1.QT r17.2.1 (Qr r17.2.1.Qf r17.1.1 (Q5.Q3C (r17.2.1.Qf r17.1.1) r18.1.1)),r17.2.2)))) none λr19=>(bif ieq (r19.2.1.Qf r19.1.1).Q1w 6 then (Q0 (cK20 r19.1.1 r19.2.1) none λr20=>some (r19.1,(r20.2.1.1,r19.2.2))) else (Q0 (cK28 r19.2.1) none λr21=>(Q0 (cK163 r21.1.1 (r19.2.1.Qf r19.1.1).Q45) none λr22=>some (r19.1,(Q1.QT r19.2.1 (Qr r19.2.1.Qf r19.1.1 (Q5.Q3X (r19.2.1.Qf r19.1.1) r22.2.1.1)),r19.2.2))))))))) else some ((r12.1.1,()),r12.2))) none λr23=>(Q0 ((bif ieq (r23.2.1.Qf r23.1.1).Q1w 5 then (Q0 (cK165 (r23.2.1.Qf r23.1.1).Q54) none λr24=>some ((r23.1.1,r24.1),(Q1.QT r23.2.1 (Qr r23.2.1.Qf r23.1.1 (Q5.Q5j (r23.2.1.Qf r23.1.1) r24.2.1.1)),r23.2.2))) else some ((r23.1.1,(false,())),r23.2))) none λr25=>(bif r25.1.2.1 then (Q0 ((Q0 (cK133 (r25.2.1.Qf r25.1.1).Q1w 5 r25.2.1.Qs.Q2t) none λr26=>some ((r25.1.1,()),(Q1.QT r25.2.1 (Qr r25.2.1.Qf r25.1.1 (Q5.Q3C (r25.2.1.Qf r25.1.1) r26.1.1)),r25.2.2)))) none λr27=>(Q0 (cK20 r27.1.1 r27.2.1) none λr28=>some ((),((r28.2.1.1,r27.2.2),())))) else some ((),(r25.2,())))))))))
def K17:K17.T:=K17.gen Q1h K28 Q37 Q4c K37 Q38 Q2H Q3J Q2G K38 K20
theorem K17.eq (cK133:Q1h.T) (cK28:K28.T) (cK163:Q37.T) (cK129:Q4c.T) (cK37:K37.T) (cK132:Q38.T) (cK165:Q2H.T) (cK131:Q3J.T) (cK178:Q2G.T) (cK38:K38.T) (cK20:K20.T):EqA K17.sig (K17.H cK133 cK28 cK163 cK129 cK37 cK132 cK165 cK131 cK178 cK38 cK20) Tryz.f69 6 (K17.W (K17.gen cK133 cK28 cK163 cK129 cK37 cK132 cK165 cK131 cK178 cK38 cK20)):=by intro a x;kernel_rfl
theorem K17.loops:Z3 K17.C= [(.scope K17.B0)]:=by kernel_rfl
theorem K17.ok:NK_ 69 K17.sig (K17.W K17):=ok_ Tryz.func69 (K17.eq Q1h K28 Q37 Q4c K37 Q38 Q2H Q3J Q2G K38 K20) (hl_ (Z0 (Z0 (Z0 (Z0 (Z0 (Z0 (Z0 (Z0 (Z0 (Z0 (Z0 Z2 Q1h.ok) K28.ok) Q37.ok) Q4c.ok) K37.ok) Q38.ok) Q2H.ok) Q3J.ok) Q2G.ok) K38.ok) K20.ok) (Zt Z5)) K17.loops
def K66.sig:Sig U:=⟨[.ptr,.int .i64],[.obj .Qy],1,[.isl .QA],false,[]⟩
abbrev K66.T:Type:=(Int)->(Qe)->Option (((List (Qc))×Unit)×Unit×Unit)
def K66.W (f:K66.T):K66.sig.F:=λa x=>f a.2.1 x.1
def K66.L0:Shape U:=⟨38,15,[(0,.ptr 13 0 0),(1,vi_),(5,.own .QA 14),(15,.asl 13 3 17 5),(16,vi_),(17,vi_)],[(13,.obj .Qy),(14,.tok)]⟩
def K66.X0:Ql U:= [(.exit 0,⟨38,15,[(5,.own .QA 14)],[(13,.obj .Qy),(14,.tok)]⟩)]
abbrev K66.l0T:Type:=((Int×(List (Qc))×(Nat×Nat)×Int×Int×Unit)×(Qe×Unit))->Option ((((List (Qc))×Unit)×(Qe×Unit)))
def K66.C:Code:=match Tryz.f176.body with|some c=>c|none=>.skip
def K66.B0:Code:=match (Z3 K66.C).getD 0 .skip with| .loop b=>b| .scope b=>b|_=>.skip
def K66.JR4:Ql U:= [(.normal,⟨38,16,[(0,.ptr 13 0 0),(1,vi_),(5,.own .QA 14),(7,.ptr 15 0 0),(15,.asl 13 3 17 5),(16,vi_),(17,vi_)],[(13,.obj .Qy),(14,.tok),(15,.obj .QA)]⟩)]
def K66.JC6:Ql U:= [(.normal,⟨38,15,[(0,.ptr 13 0 0),(1,vi_),(5,.own .QA 14),(15,.asl 13 3 17 5),(16,vi_),(17,vi_)],[(13,.obj .Qy),(14,.tok)]⟩)]
def K66.H (cK68:K68.T) (l0:K66.l0T):Hints U:={ Γ:=(Qn 197 (K68.sig.native (K68.W cK68)) noΓ),ro:=14,base:=14,Q1L:=jt_ [(5,[(31,vb_)])],Q2B:=jt_ [(4,K66.JR4)],Q23:=jt_ [(6,K66.JC6)],loop:=jt_ [(3,(Z9 (14,14) K66.L0 K66.X0 l0))]}
def K66.QU (cK68:K68.T) (a:(Int×(List (Qc))×(Nat×Nat)×Int×Int×Unit)×(Qe×Unit)):Option (((Int×(List (Qc))×(Nat×Nat)×Int×Int×Unit)×(Qe×Unit))⊕((((List (Qc))×Unit)×(Qe×Unit)))):=
 (bif ilt a.1.2.2.2.2.1 a.1.2.2.2.1 then (Q0 ((bif inR a.1.2.2.2.2.1 a.1.2.2.1.2 then some (a.1,(a.2.1,(a.2.1.fl (a.1.2.2.1.1+Int.toNat a.1.2.2.2.2.1),()))) else none)) none λr0=>(Q0 ((bif ine r0.2.2.1.Q7L (-1) then (Q0 (cK68 r0.2.2.1.Q7L r0.1.1 r0.2.1) none λr1=>some (!r1.1.1,())) else some (false,()))) none λr2=>(Q0 ((bif r2.1 then (bif room (List.length r0.1.2.1+List.length (r0.2.2.1::Qm Qc)) 136 then some ((r0.1.1,(r0.1.2.1++r0.2.2.1::Qm Qc,r0.1.2.2)),(r0.2.1,())) else none) else some (r0.1,(r0.2.1,())))) none λr3=>some (.inl ((r3.1.1,(r3.1.2.1,(r3.1.2.2.1,(r3.1.2.2.2.1,(Q4 .i64 r3.1.2.2.2.2.1 1,()))))),r3.2))))) else some (.inr ((a.1.2.1,()),a.2)))
def K66.F0:K66.l0T:=λa=>Z8 (1000000+(a.1.2.1.length+a.1.2.2.1.2)) (K66.QU K68) a
def K66.gen (cK68:K68.T) (l0:K66.l0T):K66.T:=λnow h0=>
 (bif le3 (ofN 0) h0.fn 5 then (Q0 (l0 ((now,Qm Qc,(Int.toNat (ofN 0),Int.toNat h0.fn - Int.toNat (ofN 0)),ofN (Int.toNat h0.fn - Int.toNat (ofN 0)),(0:Int),()),h0,())) none λr0=>some (r0.1,((),()))) else none)
def K66:K66.T:=K66.gen K68 K66.F0
theorem K66.Q26 (cK68:K68.T) (l0:K66.l0T) (a:K66.L0.T):run Tryz.prog (K66.H cK68 l0) 6 (Option (K66.L0.T⊕ExT K66.X0)) none K66.B0 (K66.L0.enc a) (Zj (14,14) K66.L0 K66.X0)=K66.QU cK68 a:=by kernel_rfl
abbrev K66.h:=K66.H K68 K66.F0
theorem K66.Q1V:LO_ K66.h K66.B0 (Z9 (14,14) K66.L0 K66.X0 K66.F0):=lk_ (hn_ (Z0 Z2 K68.ok)) (K66.Q26 K68 K66.F0)
theorem K66.eq (cK68:K68.T) (l0:K66.l0T):EqA K66.sig (K66.H cK68 l0) Tryz.f176 6 (K66.W (K66.gen cK68 l0)):=by intro a x;kernel_rfl
theorem K66.loops:Z3 K66.C= [(.loop K66.B0)]:=by kernel_rfl
theorem K66.ok:NK_ 176 K66.sig (K66.W K66):=ok_ Tryz.func176 (K66.eq K68 K66.F0) (hl_ (Z0 Z2 K68.ok) (Z7 (by kernel_rfl) K66.Q1V Z5)) K66.loops
def K44.sig:Sig U:=⟨[.int .i64],[],0,[.bool],false,[]⟩
abbrev K44.T:Type:=(Int)->Option ((Bool×Unit)×Unit×Unit)
def K44.W (f:K44.T):K44.sig.F:=λa x=>f a.1
def K44.H:Hints U:={ Γ:=noΓ,ro:=0,base:=13}
def K44.gen:K44.T:=λx_0=>
 some ((ine x_0 x_0,()),((),()))
def K44:K44.T:=K44.gen
theorem K44.ok:NK_ 213 K44.sig (K44.W K44):=ok_ (H:=K44.H) (n:=6) Tryz.func213 (by intro a x;kernel_rfl) (hn_ Z2)
def K41.sig:Sig U:=⟨[.int .i64,.int .i64],[],0,[.int .i64],false,[]⟩
abbrev K41.T:Type:=(Int)->(Int)->Option ((Int×Unit)×Unit×Unit)
def K41.W (f:K41.T):K41.sig.F:=λa x=>f a.1 a.2.1
abbrev K41.N (c:K41.T):=Qn 199 (K41.sig.native (K41.W c))
def K41.H (cK44:K44.T):Hints U:={ Γ:=(Qn 213 (K44.sig.native (K44.W cK44)) noΓ),ro:=0,base:=13}
def K41.gen (cK44:K44.T):K41.T:=λx_0 y=>
 (Q0 (cK44 x_0) none λr0=>(Q0 (cK44 y) none λr1=>(bif r0.1.1 then (bif r1.1.1 then some (((0:Int),()),((),())) else some (((-1:Int),()),((),()))) else (bif r1.1.1 then some (((1:Int),()),((),())) else (bif ilt x_0 y then some (((-1:Int),()),((),())) else (bif ilt y x_0 then some (((1:Int),()),((),())) else some (((0:Int),()),((),()))))))))
def K41:K41.T:=K41.gen K44
theorem K41.eq (cK44:K44.T):EqA K41.sig (K41.H cK44) Tryz.f199 6 (K41.W (K41.gen cK44)):=by intro a x;kernel_rfl
theorem K41.ok:NK_ 199 K41.sig (K41.W K41):=ok_ Tryz.func199 (K41.eq K44) (hn_ (Z0 Z2 K44.ok))
def K43.sig:Sig U:=⟨[.isl .int],[],0,[.int .i64],false,[]⟩
abbrev K43.T:Type:=(List (Int))->Option ((Int×Unit)×Unit×Unit)
def K43.W (f:K43.T):K43.sig.F:=λa x=>f a.1
abbrev K43.N (c:K43.T):=Qn 201 (K43.sig.native (K43.W c))
def K43.L0:Shape U:=⟨18,13,[(3,vi_),(6,.val (.isl .int)),(7,vi_),(8,vi_)],[]⟩
def K43.X0:Ql U:= [(.exit 0,⟨18,13,[(3,vi_)],[]⟩),
 (.ret,⟨18,13,[(2,vi_)],[]⟩)]
abbrev K43.l0T:Type:=((Int×(List (Int))×Int×Int×Unit)×Unit)->Option (((Int×Unit)×Unit)⊕((Int×Unit)×Unit))
def K43.C:Code:=match Tryz.f201.body with|some c=>c|none=>.skip
def K43.B0:Code:=match (Z3 K43.C).getD 0 .skip with| .loop b=>b| .scope b=>b|_=>.skip
def K43.H (l0:K43.l0T):Hints U:={ Γ:=noΓ,ro:=0,base:=13,loop:=jt_ [(3,(Z9 (0,13) K43.L0 K43.X0 l0))]}
def K43.QU (a:(Int×(List (Int))×Int×Int×Unit)×Unit):Option (((Int×(List (Int))×Int×Int×Unit)×Unit)⊕(((Int×Unit)×Unit)⊕((Int×Unit)×Unit))):=
 (bif ilt a.1.2.2.2.1 a.1.2.2.1 then (bif inR a.1.2.2.2.1 (List.length a.1.2.1) then (bif ine (List.getD a.1.2.1 (Int.toNat a.1.2.2.2.1) (0:D UC.int)) a.1.1 then some (.inr (.inr ((List.getD a.1.2.1 (Int.toNat a.1.2.2.2.1) (0:D UC.int),()),()))) else some (.inl ((a.1.1,(a.1.2.1,(a.1.2.2.1,(Q4 .i64 a.1.2.2.2.1 1,())))),()))) else none) else some (.inr (.inl ((a.1.1,()),()))))
def K43.F0:K43.l0T:=λa=>Z8 (1000000+(a.1.2.1.length)) (K43.QU) a
def K43.gen (l0:K43.l0T):K43.T:=λQam=>
 (Q0 (l0 (((0:Int),Qam,ofN (List.length Qam),(0:Int),()),())) none λr0=>(Q3V r0 (λr1=>some (r1.1,((),()))) (λr1=>some (r1.1,((),())))))
def K43:K43.T:=K43.gen K43.F0
theorem K43.Q26 (l0:K43.l0T) (a:K43.L0.T):run Tryz.prog (K43.H l0) 6 (Option (K43.L0.T⊕ExT K43.X0)) none K43.B0 (K43.L0.enc a) (Zj (0,13) K43.L0 K43.X0)=K43.QU a:=by kernel_rfl
abbrev K43.h:=K43.H K43.F0
theorem K43.Q1V:LO_ K43.h K43.B0 (Z9 (0,13) K43.L0 K43.X0 K43.F0):=lk_ (hn_ Z2) (K43.Q26 K43.F0)
theorem K43.eq (l0:K43.l0T):EqA K43.sig (K43.H l0) Tryz.f201 6 (K43.W (K43.gen l0)):=by intro a x;kernel_rfl
theorem K43.loops:Z3 K43.C= [(.loop K43.B0)]:=by kernel_rfl
theorem K43.ok:NK_ 201 K43.sig (K43.W K43):=ok_ Tryz.func201 (K43.eq K43.F0) (hl_ Z2 (Z7 (by kernel_rfl) K43.Q1V Z5)) K43.loops
def Q2r.sig:Sig U:=⟨[.data .Q2u,.data .Q2u],[],0,[.int .i64],false,[]⟩
abbrev Q2r.T:Type:=(Qx)->(Qx)->Option ((Int×Unit)×Unit×Unit)
def Q2r.W (f:Q2r.T):Q2r.sig.F:=λa x=>f a.1 a.2.1
def Q2r.H (cK41:K41.T) (cK43:K43.T):Hints U:={ Γ:=(K43.N cK43 (K41.N cK41 noΓ)),ro:=0,base:=13}
def Q2r.gen (cK41:K41.T) (cK43:K43.T):Q2r.T:=λa b=>
 (Q0 (cK41 a.Q1W b.Q1W) none λr0=>(Q0 (cK41 a.Q1u b.Q1u) none λr1=>(Q0 (cK41 a.Q1F b.Q1F) none λr2=>(Q0 (cK43 (r0.1.1::r1.1.1::r2.1.1::Qm Int)) none λr3=>some (r3.1,((),()))))))
def Q2r:Q2r.T:=Q2r.gen K41 K43
theorem Q2r.eq (cK41:K41.T) (cK43:K43.T):EqA Q2r.sig (Q2r.H cK41 cK43) Tryz.f211 6 (Q2r.W (Q2r.gen cK41 cK43)):=by intro a x;kernel_rfl
theorem Q2r.ok:NK_ 211 Q2r.sig (Q2r.W Q2r):=ok_ Tryz.func211 (Q2r.eq K41 K43) (hn_ (Z0 (Z0 Z2 K41.ok) K43.ok))
def K45.sig:Sig U:=⟨[.int .u64],[],0,[.bool],false,[]⟩
abbrev K45.T:Type:=(Int)->Option ((Bool×Unit)×Unit×Unit)
def K45.W (f:K45.T):K45.sig.F:=λa x=>f a.1
def K45.H:Hints U:={ Γ:=noΓ,ro:=0,base:=13}
def K45.gen:K45.T:=λx_0=>
 some ((ine x_0 x_0,()),((),()))
def K45:K45.T:=K45.gen
theorem K45.ok:NK_ 219 K45.sig (K45.W K45):=ok_ (H:=K45.H) (n:=6) Tryz.func219 (by intro a x;kernel_rfl) (hn_ Z2)
def K42.sig:Sig U:=⟨[.int .u64,.int .u64],[],0,[.int .i64],false,[]⟩
abbrev K42.T:Type:=(Int)->(Int)->Option ((Int×Unit)×Unit×Unit)
def K42.W (f:K42.T):K42.sig.F:=λa x=>f a.1 a.2.1
abbrev K42.N (c:K42.T):=Qn 212 (K42.sig.native (K42.W c))
def K42.H (cK45:K45.T):Hints U:={ Γ:=(Qn 219 (K45.sig.native (K45.W cK45)) noΓ),ro:=0,base:=13}
def K42.gen (cK45:K45.T):K42.T:=λx_0 y=>
 (Q0 (cK45 x_0) none λr0=>(Q0 (cK45 y) none λr1=>(bif r0.1.1 then (bif r1.1.1 then some (((0:Int),()),((),())) else some (((-1:Int),()),((),()))) else (bif r1.1.1 then some (((1:Int),()),((),())) else (bif ilt x_0 y then some (((-1:Int),()),((),())) else (bif ilt y x_0 then some (((1:Int),()),((),())) else some (((0:Int),()),((),()))))))))
def K42:K42.T:=K42.gen K45
theorem K42.eq (cK45:K45.T):EqA K42.sig (K42.H cK45) Tryz.f212 6 (K42.W (K42.gen cK45)):=by intro a x;kernel_rfl
theorem K42.ok:NK_ 212 K42.sig (K42.W K42):=ok_ Tryz.func212 (K42.eq K45) (hn_ (Z0 Z2 K45.ok))
def K48.sig:Sig U:=⟨[.data .Q19,.data .Q19],[],0,[.int .i64],false,[]⟩
abbrev K48.T:Type:=(Qj)->(Qj)->Option ((Int×Unit)×Unit×Unit)
def K48.W (f:K48.T):K48.sig.F:=λa x=>f a.1 a.2.1
def K48.C:Code:=match Tryz.f198.body with|some c=>c|none=>.skip
def K48.B0:Code:=match (Z3 K48.C).getD 0 .skip with| .loop b=>b| .scope b=>b|_=>.skip
def K48.U0 (cK41:K41.T) (cK134:Q2r.T) (cK42:K42.T):Hints U:={ Γ:=(K42.N cK42 (Qn 211 (Q2r.sig.native (Q2r.W cK134)) (K41.N cK41 noΓ))),ro:=0,base:=13,loop:=λb=>none}
def K48.H (cK41:K41.T) (cK134:Q2r.T) (cK42:K42.T):Hints U:={ Γ:=(K42.N cK42 (Qn 211 (Q2r.sig.native (Q2r.W cK134)) (K41.N cK41 noΓ))),ro:=0,base:=13,loop:=jt_ [(2,(Z1Q Tryz.prog (K48.U0 cK41 cK134 cK42) 6 K48.B0 6))]}
def K48.gen (cK41:K41.T) (cK134:Q2r.T) (cK42:K42.T):K48.T:=λa b=>
 (Q0 (cK41 a.Q16 b.Q16) none λr0=>(Q0 (cK134 a.Qv b.Qv) none λr1=>(Q0 (cK41 a.Q15 b.Q15) none λr2=>(Q0 (cK42 a.Q2z b.Q2z) none λr3=>(bif ine (List.getD (r0.1.1::r1.1.1::r2.1.1::r3.1.1::Qm Int) (Int.toNat 0) 0) 0 then some ((List.getD (r0.1.1::r1.1.1::r2.1.1::r3.1.1::Qm Int) (Int.toNat 0) 0,()),((),())) else (bif ine (List.getD (r0.1.1::r1.1.1::r2.1.1::r3.1.1::Qm Int) (Int.toNat (Q4 .i64 0 1)) 0) 0 then some ((List.getD (r0.1.1::r1.1.1::r2.1.1::r3.1.1::Qm Int) (Int.toNat (Q4 .i64 0 1)) 0,()),((),())) else (bif ine (List.getD (r0.1.1::r1.1.1::r2.1.1::r3.1.1::Qm Int) (Int.toNat (Q4 .i64 (Q4 .i64 0 1) 1)) 0) 0 then some ((List.getD (r0.1.1::r1.1.1::r2.1.1::r3.1.1::Qm Int) (Int.toNat (Q4 .i64 (Q4 .i64 0 1) 1)) 0,()),((),())) else (bif ine (List.getD (r0.1.1::r1.1.1::r2.1.1::r3.1.1::Qm Int) (Int.toNat (Q4 .i64 (Q4 .i64 (Q4 .i64 0 1) 1) 1)) 0) 0 then some ((List.getD (r0.1.1::r1.1.1::r2.1.1::r3.1.1::Qm Int) (Int.toNat (Q4 .i64 (Q4 .i64 (Q4 .i64 0 1) 1) 1)) 0,()),((),())) else some (((0:Int),()),((),()))))))))))
def K48:K48.T:=K48.gen K41 Q2r K42
theorem K48.Q4C:Z3 K48.B0= []:=by kernel_rfl
abbrev K48.h:=K48.H K41 Q2r K42
theorem K48.Q1V:ZF U Tryz.prog K48.h.ro K48.h.base K48.B0 (Z1Q Tryz.prog (K48.U0 K41 Q2r K42) 6 K48.B0 6):=
 Z2x (Hn:=(K48.U0 K41 Q2r K42)) (L:=λc=>c∈([]:List Code)) (hq (Z0 (Z0 (Z0 Z2 K41.ok) Q2r.ok) K42.ok) Z5 (λ_=>rfl) (λ_=>rfl)) (λb h=>by rw [K48.Q4C] at h;exact h) 6
theorem K48.eq (cK41:K41.T) (cK134:Q2r.T) (cK42:K42.T):EqA K48.sig (K48.H cK41 cK134 cK42) Tryz.f198 6 (K48.W (K48.gen cK41 cK134 cK42)):=by intro a x;kernel_rfl
theorem K48.loops:Z3 K48.C= [(.loop K48.B0)]:=by kernel_rfl
theorem K48.ok:NK_ 198 K48.sig (K48.W K48):=ok_ Tryz.func198 (K48.eq K41 Q2r K42) (hl_ (Z0 (Z0 (Z0 Z2 K41.ok) Q2r.ok) K42.ok) (Z7 (by kernel_rfl) K48.Q1V Z5)) K48.loops
def K78.sig:Sig U:=⟨[.data .Qt,.data .Qt],[],0,[.int .i64],false,[]⟩
abbrev K78.T:Type:=(Qd)->(Qd)->Option ((Int×Unit)×Unit×Unit)
def K78.W (f:K78.T):K78.sig.F:=λa x=>f a.1 a.2.1
def K78.H (cK42:K42.T) (cK41:K41.T) (cK43:K43.T):Hints U:={ Γ:=(K43.N cK43 (K41.N cK41 (K42.N cK42 noΓ))),ro:=0,base:=13}
def K78.gen (cK42:K42.T) (cK41:K41.T) (cK43:K43.T):K78.T:=λa b=>
 (bif bif ieq a.QI b.QI then bif ieq a.QR b.QR then true else false else false then some (((0:Int),()),((),())) else (Q0 (cK42 a.QI b.QI) none λr0=>(Q0 (cK41 a.QR b.QR) none λr1=>(Q0 (cK43 (r0.1.1::r1.1.1::Qm Int)) none λr2=>some (r2.1,((),()))))))
def K78:K78.T:=K78.gen K42 K41 K43
theorem K78.eq (cK42:K42.T) (cK41:K41.T) (cK43:K43.T):EqA K78.sig (K78.H cK42 cK41 cK43) Tryz.f202 6 (K78.W (K78.gen cK42 cK41 cK43)):=by intro a x;kernel_rfl
theorem K78.ok:NK_ 202 K78.sig (K78.W K78):=ok_ Tryz.func202 (K78.eq K42 K41 K43) (hn_ (Z0 (Z0 (Z0 Z2 K42.ok) K41.ok) K43.ok))
def K50.sig:Sig U:=⟨[.data .Q19],[],0,[.int .i64],false,[]⟩
abbrev K50.T:Type:=(Qj)->Option ((Int×Unit)×Unit×Unit)
def K50.W (f:K50.T):K50.sig.F:=λa x=>f a.1
def K50.H (cK78:K78.T):Hints U:={ Γ:=(Qn 202 (K78.sig.native (K78.W cK78)) noΓ),ro:=0,base:=13}
def K50.gen (cK78:K78.T):K50.T:=λa=>
 (Q0 (cK78 a.Q5o a.Q4H) none λr0=>(bif inR (Q4 .i64 r0.1.1 1) 3 then some ((List.getD ((2:Int)::(0:Int)::(1:Int)::Qm Int) (Int.toNat (Q4 .i64 r0.1.1 1)) 0,()),((),())) else none))
def K50:K50.T:=K50.gen K78
theorem K50.eq (cK78:K78.T):EqA K50.sig (K50.H cK78) Tryz.f200 6 (K50.W (K50.gen cK78)):=by intro a x;kernel_rfl
theorem K50.ok:NK_ 200 K50.sig (K50.W K50):=ok_ Tryz.func200 (K50.eq K78) (hn_ (Z0 Z2 K78.ok))
def K47.sig:Sig U:=⟨[.data .Q19,.data .Q19],[],0,[.int .i64],false,[]⟩
abbrev K47.T:Type:=(Qj)->(Qj)->Option ((Int×Unit)×Unit×Unit)
def K47.W (f:K47.T):K47.sig.F:=λa x=>f a.1 a.2.1
abbrev K47.N (c:K47.T):=Qn 178 (K47.sig.native (K47.W c))
def K47.C:Code:=match Tryz.f178.body with|some c=>c|none=>.skip
def K47.B0:Code:=match (Z3 K47.C).getD 0 .skip with| .loop b=>b| .scope b=>b|_=>.skip
def K47.JC9:Ql U:= [(.normal,⟨60,13,[(5,vi_)],[]⟩)]
def K47.H (cK48:K48.T) (cK41:K41.T) (cK50:K50.T) (cK78:K78.T) (cK43:K43.T):Hints U:={ Γ:=(K43.N cK43 (Qn 202 (K78.sig.native (K78.W cK78)) (Qn 200 (K50.sig.native (K50.W cK50)) (K41.N cK41 (Qn 198 (K48.sig.native (K48.W cK48)) noΓ))))),ro:=0,base:=13,Q1L:=jt_ [(4,[(27,vb_)]),(6,[(39,vb_)])],Q23:=jt_ [(9,K47.JC9)],gotos:=3,loop:=λb=>none}
def K47.gen (cK48:K48.T) (cK41:K41.T) (cK50:K50.T) (cK78:K78.T) (cK43:K43.T):K47.T:=λa b=>
 (Q0 (cK48 a b) none λr0=>(bif ine (Q3n .i64 2 r0.1.1) 0 then some ((Q3n .i64 2 r0.1.1,()),((),())) else (Q0 (cK41 a.Q28 b.Q28) none λr1=>(Q0 ((bif ilt 0 (Q3n .i64 2 r1.1.1) then some (ieq (Q1s .i64 a.Q28 1) b.Q28,()) else some (false,()))) none λr2=>(bif r2.1 then (Q0 (cK50 a) none λr3=>some (r3.1,((),()))) else (Q0 ((bif ilt (Q3n .i64 2 r1.1.1) 0 then some (ieq (Q1s .i64 b.Q28 1) a.Q28,()) else some (false,()))) none λr4=>(bif r4.1 then (Q0 (cK50 b) none λr5=>some ((IntKind.wrap .i64 ((0:Int) - r5.1.1),()),((),()))) else (Q0 ((bif ieq (Q3n .i64 2 r1.1.1) 0 then (Q0 (cK78 a.Q4H b.Q4H) none λr6=>(Q0 (cK41 a.Q5o.QR b.Q5o.QR) none λr7=>(Q0 (cK43 (r6.1.1::r7.1.1::Qm Int)) none λr8=>some (r8.1,())))) else some ((Q3n .i64 2 r1.1.1,()),()))) none λr9=>some (r9.1,((),()))))))))))
def K47:K47.T:=K47.gen K48 K41 K50 K78 K43
theorem K47.eq (cK48:K48.T) (cK41:K41.T) (cK50:K50.T) (cK78:K78.T) (cK43:K43.T):EqA K47.sig (K47.H cK48 cK41 cK50 cK78 cK43) Tryz.f178 6 (K47.W (K47.gen cK48 cK41 cK50 cK78 cK43)):=by intro a x;kernel_rfl
theorem K47.loops:Z3 K47.C= [(.scope K47.B0)]:=by kernel_rfl
theorem K47.ok:NK_ 178 K47.sig (K47.W K47):=ok_ Tryz.func178 (K47.eq K48 K41 K50 K78 K43) (hl_ (Z0 (Z0 (Z0 (Z0 (Z0 Z2 K48.ok) K41.ok) K50.ok) K78.ok) K43.ok) (Zt Z5)) K47.loops
def K46.sig:Sig U:=⟨[.isl .Q19],[],0,[.int .i64],false,[]⟩
abbrev K46.T:Type:=(List (Qj))->Option ((Int×Unit)×Unit×Unit)
def K46.W (f:K46.T):K46.sig.F:=λa x=>f a.1
def K46.L0:Shape U:=⟨27,13,[(0,.val (.isl .Q19)),(3,vi_),(6,.val (.isl .Q19)),(7,vi_),(8,vi_)],[]⟩
def K46.X0:Ql U:= [(.exit 0,⟨27,13,[(3,vi_)],[]⟩)]
abbrev K46.l0T:Type:=(((List (Qj))×Int×(List (Qj))×Int×Int×Unit)×Unit)->Option (((Int×Unit)×Unit))
def K46.C:Code:=match Tryz.f177.body with|some c=>c|none=>.skip
def K46.B0:Code:=match (Z3 K46.C).getD 0 .skip with| .loop b=>b| .scope b=>b|_=>.skip
def K46.JC6:Ql U:= [(.normal,⟨27,13,[(0,.val (.isl .Q19)),(3,vi_),(6,.val (.isl .Q19)),(7,vi_),(8,vi_)],[]⟩)]
def K46.H (cK47:K47.T) (l0:K46.l0T):Hints U:={ Γ:=(K47.N cK47 noΓ),ro:=0,base:=13,Q1L:=jt_ [(5,[(23,vb_)])],Q23:=jt_ [(6,K46.JC6)],loop:=jt_ [(3,(Z9 (0,13) K46.L0 K46.X0 l0))]}
def K46.QU (cK47:K47.T) (a:((List (Qj))×Int×(List (Qj))×Int×Int×Unit)×Unit):Option ((((List (Qj))×Int×(List (Qj))×Int×Int×Unit)×Unit)⊕(((Int×Unit)×Unit))):=
 (bif ilt a.1.2.2.2.2.1 a.1.2.2.2.1 then (bif inR a.1.2.2.2.2.1 (List.length a.1.2.2.1) then (Q0 ((bif ilt a.1.2.1 0 then some (true,()) else (bif inR a.1.2.1 (List.length a.1.1) then (Q0 (cK47 (List.getD a.1.1 (Int.toNat a.1.2.1) Qj.zero) (List.getD a.1.2.2.1 (Int.toNat a.1.2.2.2.2.1) Qj.zero)) none λr0=>some (ilt 0 r0.1.1,())) else none))) none λr1=>(Q0 ((bif r1.1 then some ((a.1.1,(a.1.2.2.2.2.1,a.1.2.2)),()) else some a)) none λr2=>some (.inl ((r2.1.1,(r2.1.2.1,(r2.1.2.2.1,(r2.1.2.2.2.1,(Q4 .i64 r2.1.2.2.2.2.1 1,()))))),())))) else none) else some (.inr ((a.1.2.1,()),())))
def K46.F0:K46.l0T:=λa=>Z8 (1000000+(a.1.1.length+a.1.2.2.1.length)) (K46.QU K47) a
def K46.gen (cK47:K47.T) (l0:K46.l0T):K46.T:=λl=>
 (Q0 (l0 ((l,(-1:Int),l,ofN (List.length l),(0:Int),()),())) none λr0=>some (r0.1,((),())))
def K46:K46.T:=K46.gen K47 K46.F0
theorem K46.Q26 (cK47:K47.T) (l0:K46.l0T) (a:K46.L0.T):run Tryz.prog (K46.H cK47 l0) 6 (Option (K46.L0.T⊕ExT K46.X0)) none K46.B0 (K46.L0.enc a) (Zj (0,13) K46.L0 K46.X0)=K46.QU cK47 a:=by kernel_rfl
abbrev K46.h:=K46.H K47 K46.F0
theorem K46.Q1V:LO_ K46.h K46.B0 (Z9 (0,13) K46.L0 K46.X0 K46.F0):=lk_ (hn_ (Z0 Z2 K47.ok)) (K46.Q26 K47 K46.F0)
theorem K46.eq (cK47:K47.T) (l0:K46.l0T):EqA K46.sig (K46.H cK47 l0) Tryz.f177 6 (K46.W (K46.gen cK47 l0)):=by intro a x;kernel_rfl
theorem K46.loops:Z3 K46.C= [(.loop K46.B0)]:=by kernel_rfl
theorem K46.ok:NK_ 177 K46.sig (K46.W K46):=ok_ Tryz.func177 (K46.eq K47 K46.F0) (hl_ (Z0 Z2 K47.ok) (Z7 (by kernel_rfl) K46.Q1V Z5)) K46.loops
def K63.sig:Sig U:=⟨[.ptr,.int .i64],[.obj .Qy],1,[.data .QA,.bool],true,[]⟩
abbrev K63.T:Type:=(Int)->(Qe)->Option ((Qc×Bool×Unit)×Unit×Unit)
def K63.W (f:K63.T):K63.sig.F:=λa x=>f a.2.1 x.1
def K63.L0:Shape U:=⟨35,16,[(4,.ptr 14 0 0),(6,.val (.isl .QA)),(7,.own .Q19 15),(14,.val (.isl .QA)),(15,vi_),(16,vi_)],[(13,.obj .Qy),(14,.obj .QA),(15,.tok)]⟩
def K63.X0:Ql U:= [(.exit 0,⟨35,16,[(4,.ptr 14 0 0),(6,.val (.isl .QA)),(7,.own .Q19 15)],[(13,.obj .Qy),(14,.obj .QA),(15,.tok)]⟩)]
abbrev K63.l0T:Type:=(((List (Qc))×(List (Qj))×(List (Qc))×Int×Int×Unit)×(Qe×Qc×Unit))->Option ((((List (Qc))×(List (Qj))×Unit)×(Qe×Qc×Unit)))
def K63.C:Code:=match Tryz.f133.body with|some c=>c|none=>.skip
def K63.B0:Code:=match (Z3 K63.C).getD 0 .skip with| .loop b=>b| .scope b=>b|_=>.skip
def K63.Q8i:Ql U:= [(.normal,⟨35,15,[(4,.ptr 14 0 0),(5,vb_)],[(13,.obj .Qy),(14,.obj .QA)]⟩)]
def K63.JR5:Ql U:= [(.normal,⟨35,17,[(4,.ptr 14 0 0),(6,.val (.isl .QA)),(7,.own .Q19 15),(9,.ptr 16 0 0),(14,.val (.isl .QA)),(15,vi_),(16,vi_)],[(13,.obj .Qy),(14,.obj .QA),(15,.tok),(16,.obj .QA)]⟩)]
def K63.H (cK66:K66.T) (cK46:K46.T) (l0:K63.l0T):Hints U:={ Γ:=(Qn 177 (K46.sig.native (K46.W cK46)) (Qn 176 (K66.sig.native (K66.W cK66)) noΓ)),ro:=14,base:=14,Q2B:=jt_ [(5,K63.JR5),(10,K63.Q8i)],loop:=jt_ [(4,(Z9 (14,14) K63.L0 K63.X0 l0))]}
def K63.QU (cK66:K66.T) (cK46:K46.T) (a:((List (Qc))×(List (Qj))×(List (Qc))×Int×Int×Unit)×(Qe×Qc×Unit)):Option ((((List (Qc))×(List (Qj))×(List (Qc))×Int×Int×Unit)×(Qe×Qc×Unit))⊕((((List (Qc))×(List (Qj))×Unit)×(Qe×Qc×Unit)))):=
 (bif ilt a.1.2.2.2.2.1 a.1.2.2.2.1 then (Q0 ((bif inR a.1.2.2.2.2.1 (List.length a.1.2.2.1) then some (a.1,(a.2.1,(a.2.2.1,(List.getD a.1.2.2.1 (Int.toNat a.1.2.2.2.2.1) Qc.zero,())))) else none)) none λr0=>(bif room (List.length r0.1.2.1+List.length (r0.2.2.2.1.Q3g::Qm Qj)) 88 then some (.inl ((r0.1.1,(r0.1.2.1++r0.2.2.2.1.Q3g::Qm Qj,(r0.1.2.2.1,(r0.1.2.2.2.1,(Q4 .i64 r0.1.2.2.2.2.1 1,()))))),(r0.2.1,(r0.2.2.1,())))) else none)) else some (.inr ((a.1.1,(a.1.2.1,())),a.2)))
def K63.F0:K63.l0T:=λa=>Z8 (1000000+(a.1.1.length+a.1.2.1.length+a.1.2.2.1.length)) (K63.QU K66 K46) a
def K63.gen (cK66:K66.T) (cK46:K46.T) (l0:K63.l0T):K63.T:=λnow h0=>
 (Q0 (cK66 now h0) none λr0=>(Q0 (l0 ((r0.1.1,Qm Qj,r0.1.1,ofN (List.length r0.1.1),(0:Int),()),h0,Qc.mk z6_ z5_ 0 0 0,())) none λr1=>(Q0 (cK46 r1.1.2.1) none λr2=>(bif ilt r2.1.1 0 then some ((Qc.mk z6_ z5_ 0 0 0,(false,())),((),())) else (bif inR r2.1.1 (List.length r1.1.1) then some ((List.getD r1.1.1 (Int.toNat r2.1.1) Qc.zero,(true,())),((),())) else none)))))
def K63:K63.T:=K63.gen K66 K46 K63.F0
theorem K63.Q26 (cK66:K66.T) (cK46:K46.T) (l0:K63.l0T) (a:K63.L0.T):run Tryz.prog (K63.H cK66 cK46 l0) 6 (Option (K63.L0.T⊕ExT K63.X0)) none K63.B0 (K63.L0.enc a) (Zj (14,14) K63.L0 K63.X0)=K63.QU cK66 cK46 a:=by kernel_rfl
abbrev K63.h:=K63.H K66 K46 K63.F0
theorem K63.Q1V:LO_ K63.h K63.B0 (Z9 (14,14) K63.L0 K63.X0 K63.F0):=lk_ (hn_ (Z0 (Z0 Z2 K66.ok) K46.ok)) (K63.Q26 K66 K46 K63.F0)
theorem K63.eq (cK66:K66.T) (cK46:K46.T) (l0:K63.l0T):EqA K63.sig (K63.H cK66 cK46 l0) Tryz.f133 6 (K63.W (K63.gen cK66 cK46 l0)):=by intro a x;kernel_rfl
theorem K63.loops:Z3 K63.C= [(.loop K63.B0)]:=by kernel_rfl
theorem K63.ok:NK_ 133 K63.sig (K63.W K63):=ok_ Tryz.func133 (K63.eq K66 K46 K63.F0) (hl_ (Z0 (Z0 Z2 K66.ok) K46.ok) (Z7 (by kernel_rfl) K63.Q1V Z5)) K63.loops
def K49.sig:Sig U:=⟨[.data .Q1d],[],0,[.data .Q19],false,[]⟩
abbrev K49.T:Type:=(Q9)->Option ((Qj×Unit)×Unit×Unit)
def K49.W (f:K49.T):K49.sig.F:=λa x=>f a.1
def K49.H:Hints U:={ Γ:=noΓ,ro:=0,base:=13}
def K49.gen:K49.T:=λc=>
 some ((Qj.mk c.Q16 c.Qv c.Q15 c.QI 0 (Qd.mk c.QI 0) (Qd.mk c.QI 0),()),((),()))
def K49:K49.T:=K49.gen
theorem K49.ok:NK_ 135 K49.sig (K49.W K49):=ok_ (H:=K49.H) (n:=6) Tryz.func135 (by intro a x;kernel_rfl) (hn_ Z2)
def K54.sig:Sig U:=⟨[.data .Q19,.bool,.Q3i .Q19,.Q3i .Q19,.bool],[],0,[.int .i64],false,[]⟩
abbrev K54.T:Type:=(Qj)->(Bool)->(Option (Qj))->(Option (Qj))->(Bool)->Option ((Int×Unit)×Unit×Unit)
def K54.W (f:K54.T):K54.sig.F:=λa x=>f a.1 a.2.1 a.2.2.1 a.2.2.2.1 a.2.2.2.2.1
def K54.JC2:Ql U:= [(.normal,⟨58,13,[],[]⟩),
 (.ret,⟨58,13,[(10,vi_)],[]⟩)]
def K54.H (cK47:K47.T):Hints U:={ Γ:=(K47.N cK47 noΓ),ro:=0,base:=13,Q1L:=jt_ [(1,[(11,vb_)]),(4,[(31,vb_)]),(7,[(32,vb_)]),(11,[(45,vb_)])],Q23:=jt_ [(2,K54.JC2)]}
def K54.gen (cK47:K47.T):K54.T:=λd0 listening best port here=>
 (Q0 ((bif !Option.isSome port then some (listening,()) else some (false,()))) none λr0=>(Q0 ((bif r0.1 then some (.inr (((7:Int),()),())) else (bif ile d0.Qv.Q1W 127 then (Q0 ((bif !Option.isSome port then some (true,()) else (Q0 (port) none λr1=>(Q0 (cK47 d0 r1) none λr2=>some (ilt r2.1.1 0,()))))) none λr3=>(bif r3.1 then some (.inr (((1:Int),()),())) else some (.inr (((4:Int),()),())))) else (Q0 ((bif !Option.isSome best then some (true,()) else (Q0 (best) none λr4=>(Q0 (cK47 d0 r4) none λr5=>some (ilt r5.1.1 0,()))))) none λr6=>(bif r6.1 then some (.inr (((2:Int),()),())) else (bif here then some (.inr (((6:Int),()),())) else (Q0 ((bif Option.isSome port then (Q0 (best) none λr7=>(Q0 (port) none λr8=>(Q0 (cK47 r7 r8) none λr9=>some (ieq r9.1.1 (-1),())))) else some (false,()))) none λr10=>(bif r10.1 then some (.inr (((5:Int),()),())) else some (.inl ((),())))))))))) none λr11=>(Q3V r11 (λr12=>some (((3:Int),()),((),()))) (λr12=>some (r12.1,((),()))))))
def K54:K54.T:=K54.gen K47
theorem K54.eq (cK47:K47.T):EqA K54.sig (K54.H cK47) Tryz.f179 6 (K54.W (K54.gen cK47)):=by intro a x;kernel_rfl
theorem K54.ok:NK_ 179 K54.sig (K54.W K54):=ok_ Tryz.func179 (K54.eq K47) (hn_ (Z0 Z2 K47.ok))
def K53.sig:Sig U:=⟨[.data .Q19,.isl .bool,.isl .Q1K],[],0,[.isl .int,.int .i64],true,[]⟩
abbrev K53.T:Type:=(Qj)->(List (Bool))->(List (Option (Qj)))->Option (((List (Int))×Int×Unit)×Unit×Unit)
def K53.W (f:K53.T):K53.sig.F:=λa x=>f a.1 a.2.1 a.2.2.1
def K53.L0:Shape U:=⟨78,14,[(1,.val (.isl .bool)),(2,.val (.isl .Q1K)),(3,.ptr 13 0 0),(8,vi_),(9,vi_),(10,.val (.Q3i .Q19)),(11,.full .int)],[(13,.obj .Q19)]⟩
def K53.X0:Ql U:= [(.ret,⟨78,14,[(6,.own .int 13),(7,vi_)],[(13,.tok)]⟩)]
abbrev K53.l0T:Type:=(((List (Bool))×(List (Option (Qj)))×Int×Int×(Option (Qj))×(List (Int))×Unit)×(Qj×Unit))->Option ((((List (Int))×Int×Unit)×Unit))
def K53.L1:Shape U:=⟨78,15,[(1,.val (.isl .bool)),(3,.ptr 13 0 0),(8,vi_),(10,.val (.Q3i .Q19)),(11,.own .int 14),(48,.val (.isl .Q1K)),(49,vi_),(50,vi_)],[(13,.obj .Q19),(14,.tok)]⟩
def K53.X1:Ql U:= [(.exit 0,⟨78,14,[(8,vi_),(11,.own .int 13)],[(13,.tok)]⟩)]
abbrev K53.l1T:Type:=(((List (Bool))×Int×(Option (Qj))×(List (Int))×(List (Option (Qj)))×Int×Int×Unit)×(Qj×Unit))->Option (((Int×(List (Int))×Unit)×Unit))
def K53.C:Code:=match Tryz.f134.body with|some c=>c|none=>.skip
def K53.B0:Code:=match (Z3 K53.C).getD 0 .skip with| .loop b=>b| .scope b=>b|_=>.skip
def K53.B1:Code:=match (Z3 K53.C).getD 1 .skip with| .loop b=>b| .scope b=>b|_=>.skip
def K53.R0:Code:=(findLabel K53.B0 0).getD .skip
def K53.Q9O:Ql U:= [(.normal,⟨78,15,[(1,.val (.isl .bool)),(3,.ptr 13 0 0),(8,vi_),(10,.val (.Q3i .Q19)),(11,.own .int 14),(48,.val (.isl .Q1K)),(49,vi_),(50,vi_)],[(13,.obj .Q19),(14,.tok)]⟩)]
def K53.JC8:Ql U:= [(.normal,⟨78,14,[(1,.val (.isl .bool)),(2,.val (.isl .Q1K)),(3,.ptr 13 0 0),(8,vi_),(9,vi_),(10,.val (.Q3i .Q19)),(11,.full .int)],[(13,.obj .Q19)]⟩)]
def K53.H (cK47:K47.T) (cK54:K54.T) (l0:K53.l0T) (l1:K53.l1T):Hints U:={ Γ:=(Qn 179 (K54.sig.native (K54.W cK54)) (K47.N cK47 noΓ)),ro:=0,base:=13,Q1L:=jt_ [(7,[(43,vb_)])],Q2B:=jt_ [(13,K53.Q9O)],Q23:=jt_ [(8,K53.JC8)],label:=λb=>bif Nat.beq b 0 then some (Z9 (0,13) K53.L0 K53.X0 l0) else none,gotos:=3,loop:=jt_ [(11,(Z9 (0,13) K53.L1 K53.X1 l1))]}
def K53.Q2x (cK47:K47.T) (cK54:K54.T) (a:((List (Bool))×Int×(Option (Qj))×(List (Int))×(List (Option (Qj)))×Int×Int×Unit)×(Qj×Unit)):Option ((((List (Bool))×Int×(Option (Qj))×(List (Int))×(List (Option (Qj)))×Int×Int×Unit)×(Qj×Unit))⊕(((Int×(List (Int))×Unit)×Unit))):=
 (bif ilt a.1.2.2.2.2.2.2.1 a.1.2.2.2.2.2.1 then (bif inR a.1.2.2.2.2.2.2.1 (List.length a.1.2.2.2.2.1) then (Q0 ((bif ilt a.1.2.2.2.2.2.2.1 (ofN (List.length a.1.1)) then (bif inR a.1.2.2.2.2.2.2.1 (List.length a.1.1) then (Q0 (cK54 a.2.1 (List.getD a.1.1 (Int.toNat a.1.2.2.2.2.2.2.1) false) a.1.2.2.1 (List.getD a.1.2.2.2.2.1 (Int.toNat a.1.2.2.2.2.2.2.1) none) (ieq a.1.2.2.2.2.2.2.1 a.1.2.1)) none λr0=>(bif room (List.length a.1.2.2.2.1+List.length (r0.1.1::Qm Int)) 8 then some ((a.1.1,(a.1.2.1,(a.1.2.2.1,(a.1.2.2.2.1++r0.1.1::Qm Int,a.1.2.2.2.2)))),a.2) else none)) else none) else (Q0 (cK54 a.2.1 false a.1.2.2.1 (List.getD a.1.2.2.2.2.1 (Int.toNat a.1.2.2.2.2.2.2.1) none) (ieq a.1.2.2.2.2.2.2.1 a.1.2.1)) none λr1=>(bif room (List.length a.1.2.2.2.1+List.length (r1.1.1::Qm Int)) 8 then some ((a.1.1,(a.1.2.1,(a.1.2.2.1,(a.1.2.2.2.1++r1.1.1::Qm Int,a.1.2.2.2.2)))),a.2) else none)))) none λr2=>some (.inl ((r2.1.1,(r2.1.2.1,(r2.1.2.2.1,(r2.1.2.2.2.1,(r2.1.2.2.2.2.1,(r2.1.2.2.2.2.2.1,(Q4 .i64 r2.1.2.2.2.2.2.2.1 1,()))))))),r2.2))) else none) else some (.inr ((a.1.2.1,(a.1.2.2.2.1,())),())))
def K53.F1:K53.l1T:=λa=>Z8 (1000000+(a.1.1.length+a.1.2.2.2.1.length+a.1.2.2.2.2.1.length)) (K53.Q2x K47 K54) a
def K53.QU (cK47:K47.T) (cK54:K54.T) (l1:K53.l1T) (a:((List (Bool))×(List (Option (Qj)))×Int×Int×(Option (Qj))×(List (Int))×Unit)×(Qj×Unit)):Option ((((List (Bool))×(List (Option (Qj)))×Int×Int×(Option (Qj))×(List (Int))×Unit)×(Qj×Unit))⊕((((List (Int))×Int×Unit)×Unit))):=
 (bif ilt a.1.2.2.2.1 (ofN (List.length a.1.2.1)) then (bif inR a.1.2.2.2.1 (List.length a.1.2.1) then (Q0 ((bif Option.isSome (List.getD a.1.2.1 (Int.toNat a.1.2.2.2.1) none) then (bif !Option.isSome a.1.2.2.2.2.1 then some (true,()) else (Q0 (a.1.2.2.2.2.1) none λ(r0:Qj)=>(Q0 (List.getD a.1.2.1 (Int.toNat a.1.2.2.2.1) none) none λr1=>(Q0 (cK47 r0 r1) none λr2=>some (ilt 0 r2.1.1,()))))) else some (false,()))) none λr3=>(Q0 ((bif r3.1 then some ((a.1.1,(a.1.2.1,(a.1.2.2.2.1,(a.1.2.2.2.1,(List.getD a.1.2.1 (Int.toNat a.1.2.2.2.1) none,a.1.2.2.2.2.2))))),a.2) else some a)) none λr4=>some (.inl ((r4.1.1,(r4.1.2.1,(r4.1.2.2.1,(Q4 .i64 r4.1.2.2.2.1 1,r4.1.2.2.2.2)))),r4.2)))) else none) else (Q0 (l1 ((a.1.1,a.1.2.2.1,a.1.2.2.2.2.1,a.1.2.2.2.2.2.1,a.1.2.1,ofN (List.length a.1.2.1),(0:Int),()),a.2)) none λr5=>some (.inr ((r5.1.2.1,(r5.1.1,())),()))))
def K53.F0:K53.l0T:=λa=>Z8 (1000000+(a.1.1.length+a.1.2.1.length+a.1.2.2.2.2.2.1.length)) (K53.QU K47 K54 K53.F1) a
def K53.gen (cK47:K47.T) (cK54:K54.T) (l0:K53.l0T) (l1:K53.l1T):K53.T:=λd0 listening Q3D=>
 (bif le3 (ofN 0) (Z4 false (ofN (List.length Q3D)) 8) (List.length Q3D) then (bif ilt 0 (ofN (List.length (List.drop (Int.toNat (ofN 0)) (List.take (Int.toNat (Z4 false (ofN (List.length Q3D)) 8)) Q3D)))) then (bif inR 0 (List.length (List.drop (Int.toNat (ofN 0)) (List.take (Int.toNat (Z4 false (ofN (List.length Q3D)) 8)) Q3D))) then (Q0 ((bif Option.isSome (List.getD (List.drop (Int.toNat (ofN 0)) (List.take (Int.toNat (Z4 false (ofN (List.length Q3D)) 8)) Q3D)) (Int.toNat 0) none) then some (true,()) else some (false,()))) none λr0=>(Q0 ((bif r0.1 then some ((listening,(List.drop (Int.toNat (ofN 0)) (List.take (Int.toNat (Z4 false (ofN (List.length Q3D)) 8)) Q3D),((0:Int),((0:Int),(List.getD (List.drop (Int.toNat (ofN 0)) (List.take (Int.toNat (Z4 false (ofN (List.length Q3D)) 8)) Q3D)) (Int.toNat 0) none,(Qm Int,())))))),(d0,())) else some ((listening,(List.drop (Int.toNat (ofN 0)) (List.take (Int.toNat (Z4 false (ofN (List.length Q3D)) 8)) Q3D),((-1:Int),((0:Int),(none,(Qm Int,())))))),(d0,())))) none λr1=>(Q0 (l0 ((r1.1.1,r1.1.2.1,r1.1.2.2.1,Q4 .i64 r1.1.2.2.2.1 1,r1.1.2.2.2.2),r1.2)) none λr2=>some (r2.1,((),()))))) else none) else (Q0 (l1 ((listening,(-1:Int),none,Qm Int,List.drop (Int.toNat (ofN 0)) (List.take (Int.toNat (Z4 false (ofN (List.length Q3D)) 8)) Q3D),ofN (List.length (List.drop (Int.toNat (ofN 0)) (List.take (Int.toNat (Z4 false (ofN (List.length Q3D)) 8)) Q3D))),(0:Int),()),d0,())) none λr3=>some ((r3.1.2.1,(r3.1.1,())),((),())))) else none)
def K53:K53.T:=K53.gen K47 K54 K53.F0 K53.F1
theorem K53.seq1 (cK47:K47.T) (cK54:K54.T) (l0:K53.l0T) (l1:K53.l1T) (a:K53.L1.T):run Tryz.prog (K53.H cK47 cK54 l0 l1) 6 (Option (K53.L1.T⊕ExT K53.X1)) none K53.B1 (K53.L1.enc a) (Zj (0,13) K53.L1 K53.X1)=K53.Q2x cK47 cK54 a:=by kernel_rfl
theorem K53.QdR:Z3 K53.B1=([]:List Code):=by kernel_rfl
abbrev K53.h:=K53.H K47 K54 K53.F0 K53.F1
theorem K53.Q4T:ZF U Tryz.prog K53.h.ro K53.h.base K53.B1 (Z9 (0,13) K53.L1 K53.X1 K53.F1):=
 Z2Q (Hn:=K53.h) Q5L Q4v (Z1B (Z12 Q5L Q4v mixed (Z0 (Z0 Z2 K47.ok) K54.ok) Z5 Z20 (Z2a λ_=>rfl)) 6) (λb h=>by rw [K53.QdR] at h;exact h) (λ_=>rfl) (K53.seq1 K47 K54 K53.F0 K53.F1)
theorem K53.Q26 (cK47:K47.T) (cK54:K54.T) (l0:K53.l0T) (l1:K53.l1T) (a:K53.L0.T):run Tryz.prog (K53.H cK47 cK54 l0 l1) 6 (Option (K53.L0.T⊕ExT K53.X0)) none K53.R0 (K53.L0.enc a) (Z2S (0,13) 0 K53.L0 K53.X0)=K53.QU cK47 cK54 l1 a:=by kernel_rfl
theorem K53.Q4C:Z3 K53.R0= [(.loop K53.B1)]:=by kernel_rfl
theorem K53.Q1V:ZQ U Tryz.prog K53.h.ro K53.h.base K53.B0 K53.R0 (Z9 (0,13) K53.L0 K53.X0 K53.F0):=
 Z6h (Hn:=K53.h) (lb:=0) Q5L Q4v (Z1B (Z12 Q5L Q4v mixed (Z0 (Z0 Z2 K47.ok) K54.ok) (Z7 (by kernel_rfl) K53.Q4T Z5) (Z4U Z20) (Z2a λ_=>rfl)) 6) (by kernel_rfl) (λb h=>by rw [K53.Q4C] at h;exact h) (λ_=>rfl) (K53.Q26 K47 K54 K53.F0 K53.F1)
theorem K53.eq (cK47:K47.T) (cK54:K54.T) (l0:K53.l0T) (l1:K53.l1T):EqA K53.sig (K53.H cK47 cK54 l0 l1) Tryz.f134 6 (K53.W (K53.gen cK47 cK54 l0 l1)):=by intro a x;kernel_rfl
theorem K53.loops:Z3 K53.C= [(.scope K53.B0),(.loop K53.B1)]:=by kernel_rfl
theorem K53.hints:Q3Z U Tryz.prog K53.h (λc=>c∈ [(.scope K53.B0),(.loop K53.B1)]):=(Z12 Q5L Q4v mixed (Z0 (Z0 Z2 K47.ok) K54.ok) (Zt (Z7 (by kernel_rfl) K53.Q4T Z5)) (Z4V (Z6y (r0:=K53.R0) (l0:=0) (by kernel_rfl) (λ_=>rfl) K53.Q1V) (Z4U Z20)) (Z2a λ_=>rfl))
theorem K53.ok:Zy U Tryz.prog 134 (K53.sig.native (K53.W K53)):=
 Sig.ok K53.sig (K53.W K53) Q4v (Hn:=K53.h) (code:=K53.C) (gos:=6) K53.hints Tryz.func134 (by kernel_rfl) (by kernel_rfl) (λb h=>by rw [K53.loops] at h;exact h) rfl rfl (by decide) (K53.eq K47 K54 K53.F0 K53.F1) (by decide)
def Q2C.sig:Sig U:=⟨[.data .Q19,.data .Q4b],[],0,[.data .Q1G],false,[]⟩
abbrev Q2C.T:Type:=(Qj)->(Q1b)->Option ((QX×Unit)×Unit×Unit)
def Q2C.W (f:Q2C.T):Q2C.sig.F:=λa x=>f a.1 a.2.1
def Q2C.H:Hints U:={ Γ:=noΓ,ro:=0,base:=13}
def Q2C.gen:Q2C.T:=λv t=>
 some ((QX.mk v.Q4H v.Q2z v.Qv v.Q16 v.Q15 (Q4 .i64 v.Q28 1) t,()),((),()))
def Q2C:Q2C.T:=Q2C.gen
theorem Q2C.ok:NK_ 136 Q2C.sig (Q2C.W Q2C):=ok_ (H:=Q2C.H) (n:=6) Tryz.func136 (by intro a x;kernel_rfl) (hn_ Z2)
def Q3q.sig:Sig U:=⟨[.int .i64,.int .i64,.bool,.bool],[],0,[.int .i64],false,[]⟩
abbrev Q3q.T:Type:=(Int)->(Int)->(Bool)->(Bool)->Option ((Int×Unit)×Unit×Unit)
def Q3q.W (f:Q3q.T):Q3q.sig.F:=λa x=>f a.1 a.2.1 a.2.2.1 a.2.2.2.1
def Q3q.H (cK129:Q4c.T) (cK131:Q3J.T):Hints U:={ Γ:=(Q3J.N cK131 (Q4c.N cK129 noΓ)),ro:=0,base:=13,Q1L:=jt_ [(1,[(19,vb_)]),(3,[(25,vb_)]),(14,[(42,vb_)])]}
def Q3q.gen (cK129:Q4c.T) (cK131:Q3J.T):Q3q.T:=λstate decision same slaveOnly=>
 (Q0 ((Q0 (cK129 state) none λr0=>(bif !r0.1.1 then some (true,()) else (bif ilt decision 1 then some (true,()) else some (ilt 6 decision,()))))) none λr1=>(bif r1.1 then some ((state,()),((),())) else (Q0 ((bif slaveOnly then some (ine decision 6,()) else some (false,()))) none λr2=>(bif r2.1 then some (((4:Int),()),((),())) else (bif ieq decision 4 then some (((7:Int),()),((),())) else (bif ieq decision 5 then some (((7:Int),()),((),())) else (bif ieq decision 3 then (bif ine state 6 then some (((5:Int),()),((),())) else some ((state,()),((),()))) else (bif ieq decision 6 then (Q0 ((bif same then (Q0 (cK131 state) none λr3=>some r3.1) else some (false,()))) none λr4=>(bif r4.1 then some ((state,()),((),())) else some (((8:Int),()),((),())))) else some (((6:Int),()),((),()))))))))))
def Q3q:Q3q.T:=Q3q.gen Q4c Q3J
theorem Q3q.eq (cK129:Q4c.T) (cK131:Q3J.T):EqA Q3q.sig (Q3q.H cK129 cK131) Tryz.f137 6 (Q3q.W (Q3q.gen cK129 cK131)):=by intro a x;kernel_rfl
theorem Q3q.ok:NK_ 137 Q3q.sig (Q3q.W Q3q):=ok_ Tryz.func137 (Q3q.eq Q4c Q3J) (hn_ (Z0 (Z0 Z2 Q4c.ok) Q3J.ok))
def Q4g.sig:Sig U:=⟨[.ptr],[.obj .Q1j],0,[],true,[]⟩
abbrev Q4g.T:Type:=(Qz)->Option (Unit×(Qz×Unit)×Unit)
def Q4g.W (f:Q4g.T):Q4g.sig.F:=λa x=>f x.1
abbrev Q4g.N (c:Q4g.T):=Qn 164 (Q4g.sig.native (Q4g.W c))
def Q4g.H:Hints U:={ Γ:=noΓ,ro:=0,base:=14}
def Q4g.gen:Q4g.T:=λh0=>
 some ((),((Qz.mk z2_ z2_ 0 false false,()),()))
def Q4g:Q4g.T:=Q4g.gen
theorem Q4g.ok:NK_ 164 Q4g.sig (Q4g.W Q4g):=ok_ (H:=Q4g.H) (n:=6) Tryz.func164 (by intro a x;kernel_rfl) (hn_ Z2)
def K56.sig:Sig U:=⟨[.ptr],[.obj .Q10],0,[],true,[]⟩
abbrev K56.T:Type:=(Qg)->Option (Unit×(Qg×Unit)×Unit)
def K56.W (f:K56.T):K56.sig.F:=λa x=>f x.1
abbrev K56.N (c:K56.T):=Qn 165 (K56.sig.native (K56.W c))
def K56.H:Hints U:={ Γ:=noΓ,ro:=0,base:=14}
def K56.gen:K56.T:=λh0=>
 some ((),((Qg.Q9V h0 (QZ.mk 0 0 false false),()),()))
def K56:K56.T:=K56.gen
theorem K56.ok:NK_ 165 K56.sig (K56.W K56):=ok_ (H:=K56.H) (n:=6) Tryz.func165 (by intro a x;kernel_rfl) (hn_ Z2)
def K39.sig:Sig U:=⟨[.ptr,.bool],[.obj .QG,Q4R,Q4N],0,[],true,[]⟩
abbrev K39.T:Type:=(Bool)->(Q5)->(Fm Qg)->(Fm Qz)->Option (Unit×(Q5×(Fm Qg)×(Fm Qz)×Unit)×Unit)
def K39.W (f:K39.T):K39.sig.F:=λa x=>f a.2.1 x.1 x.2.1 x.2.2.1
def K39.C:Code:=match Tryz.f97.body with|some c=>c|none=>.skip
def K39.B0:Code:=match (Z3 K39.C).getD 0 .skip with| .loop b=>b| .scope b=>b|_=>.skip
def K39.JR2:Ql U:= [(.normal,⟨44,14,[(0,.ptr 13 0 0),(1,vb_)],(13,.obj .QG)::hT8_⟩)]
def K39.U0 (cK142:Q4g.T) (cK56:K56.T) (cK164:Q21.T):Hints U:={ Γ:=(Q21.N cK164 (K56.N cK56 (Q4g.N cK142 noΓ))),ro:=0,base:=14,Q2B:=jt_ [(0,K39.JR2),(1,K39.JR2),(2,K39.JR2)],loop:=λb=>none}
def K39.H (cK142:Q4g.T) (cK56:K56.T) (cK164:Q21.T):Hints U:={ Γ:=(Q21.N cK164 (K56.N cK56 (Q4g.N cK142 noΓ))),ro:=0,base:=14,Q2B:=jt_ [(0,K39.JR2),(1,K39.JR2),(2,K39.JR2)],loop:=jt_ [(4,(Z1Q Tryz.prog (K39.U0 cK142 cK56 cK164) 6 K39.B0 6))]}
def K39.gen (cK142:Q4g.T) (cK56:K56.T) (cK164:Q21.T):K39.T:=λask h0 g7 g10=>
 (Q0 ((Q0 (h0.12) none λr0=>(Q0 (cK142 (g10.2 r0)) none λr1=>some ((ask,()),(h0,(g7,((g10.1,Qr g10.2 r0 r1.2.1.1),()))))))) none λr2=>(Q0 ((Q0 (r2.2.1.13) none λr3=>(Q0 (cK56 (r2.2.2.1.2 r3)) none λr4=>some (r2.1,(r2.2.1,((r2.2.2.1.1,Qr r2.2.2.1.2 r3 r4.2.1.1),r2.2.2.2)))))) none λr5=>(Q0 (cK164 r5.2.1.Q45) none λr6=>(Q0 (cK164 r5.2.1.Q54) none λr7=>(Q0 (cK164 r5.2.1.Q4J) none λr8=>(Q0 (cK164 r5.2.1.fsync) none λr9=>(bif r5.1.1 then (Q0 (cK164 r5.2.1.Q6R) none λr10=>some ((),((Q5.Q5T (Q5.Q6i (Q5.Q6w (Q5.Q5a (Q5.Q5j (Q5.Q3X r5.2.1 r6.2.1.1) r7.2.1.1) r8.2.1.1) r9.2.1.1) r10.2.1.1) z4_,r5.2.2),()))) else some ((),((Q5.Q5T (Q5.Q6w (Q5.Q5a (Q5.Q5j (Q5.Q3X r5.2.1 r6.2.1.1) r7.2.1.1) r8.2.1.1) r9.2.1.1) z4_,r5.2.2),())))))))))
def K39:K39.T:=K39.gen Q4g K56 Q21
theorem K39.Q4C:Z3 K39.B0= []:=by kernel_rfl
abbrev K39.h:=K39.H Q4g K56 Q21
theorem K39.Q1V:ZF U Tryz.prog K39.h.ro K39.h.base K39.B0 (Z1Q Tryz.prog (K39.U0 Q4g K56 Q21) 6 K39.B0 6):=
 Z2x (Hn:=(K39.U0 Q4g K56 Q21)) (L:=λc=>c∈([]:List Code)) (hq (Z0 (Z0 (Z0 Z2 Q4g.ok) K56.ok) Q21.ok) Z5 (λ_=>rfl) (λ_=>rfl)) (λb h=>by rw [K39.Q4C] at h;exact h) 6
theorem K39.eq (cK142:Q4g.T) (cK56:K56.T) (cK164:Q21.T):EqA K39.sig (K39.H cK142 cK56 cK164) Tryz.f97 6 (K39.W (K39.gen cK142 cK56 cK164)):=by intro a x;kernel_rfl
theorem K39.loops:Z3 K39.C= [(.loop K39.B0)]:=by kernel_rfl
theorem K39.ok:NK_ 97 K39.sig (K39.W K39):=ok_ Tryz.func97 (K39.eq Q4g K56 Q21) (hl_ (Z0 (Z0 (Z0 Z2 Q4g.ok) K56.ok) Q21.ok) (Z7 (by kernel_rfl) K39.Q1V Z5)) K39.loops
def K14.sig:Sig U:=⟨[.ptr,.Q56 0 23 42 8,.data .Q1G],[.obj .Q7],0,[],true,[]⟩
abbrev K14.T:Type:=(Nat)->(QX)->(Q1)->Option (Unit×(Q1×Unit)×Unit)
def K14.W (f:K14.T):K14.sig.F:=λa x=>f a.2.1 a.2.2.1 x.1
def K14.JR8:Ql U:= [(.normal,⟨48,14,[],[(13,.obj .Q7)]⟩)]
def K14.Q9F:Ql U:= [(.normal,⟨48,14,[(0,.ptr 13 0 0),(1,.Q1g 13 23 42 8 0)],[(13,.obj .Q7)]⟩)]
def K14.JC6:Ql U:= [(.normal,⟨48,14,[(0,.ptr 13 0 0),(1,.Q1g 13 23 42 8 0),(16,vb_)],[(13,.obj .Q7)]⟩)]
def K14.H (cK20:K20.T) (cK11:K11.T) (cK163:Q37.T) (cK28:K28.T):Hints U:={ Γ:=(K28.N cK28 (Q37.N cK163 (K11.N cK11 (Qn 131 (K20.sig.native (K20.W cK20)) noΓ)))),ro:=0,base:=14,Q2B:=jt_ [(7,K14.JR8),(8,K14.JR8)],Q23:=jt_ [(6,K14.JC6),(10,K14.Q9F)]}
def K14.gen (cK20:K20.T) (cK11:K11.T) (cK163:Q37.T) (cK28:K28.T):K14.T:=λp parent h0=>
 (bif ieq (h0.Qf p).Q1w 6 then (Q0 ((Q0 (cK20 p h0) none λr0=>some ((),r0.2.1))) none λr1=>some ((),(r1.2,()))) else (bif ieq (h0.Qf p).Q1w 5 then (Q0 ((Q0 (cK11 h0) none λr2=>(Q0 (cK163 (Q3n .i64 (Q4 .i64 parent.Q28 1) r2.1.1) (h0.Qf p).Q54) none λr3=>some ((),(Q1.QT h0 (Qr h0.Qf p (Q5.Q5j (h0.Qf p) r3.2.1.1)),()))))) none λr4=>some ((),(r4.2,()))) else (bif ieq (h0.Qf p).Q1w 8 then (Q0 ((bif !h0.Qs.Q4r then (Q0 (cK163 1 (h0.Qf p).Q6R) none λr5=>some ((p,()),(Q1.QT h0 (Qr h0.Qf p (Q5.Q6i (h0.Qf p) r5.2.1.1)),()))) else some ((p,()),(h0,())))) none λr6=>(Q0 (cK28 r6.2.1) none λr7=>(Q0 (cK163 r7.1.1 (r6.2.1.Qf r6.1.1).Q45) none λr8=>some ((),((Q1.QT r6.2.1 (Qr r6.2.1.Qf r6.1.1 (Q5.Q3X (r6.2.1.Qf r6.1.1) r8.2.1.1)),()),()))))) else (Q0 ((bif ieq (h0.Qf p).Q1w 7 then some ((p,(ieq (h0.Qf p).Q1w 7,())),(h0,())) else some ((p,(ieq (h0.Qf p).Q1w 4,())),(h0,())))) none λr9=>(bif r9.1.2.1 then (Q0 (cK28 r9.2.1) none λr10=>(Q0 (cK163 r10.1.1 (r9.2.1.Qf r9.1.1).Q45) none λr11=>some ((),((Q1.QT r9.2.1 (Qr r9.2.1.Qf r9.1.1 (Q5.Q3X (r9.2.1.Qf r9.1.1) r11.2.1.1)),()),())))) else some ((),(r9.2,())))))))
def K14:K14.T:=K14.gen K20 K11 Q37 K28
theorem K14.eq (cK20:K20.T) (cK11:K11.T) (cK163:Q37.T) (cK28:K28.T):EqA K14.sig (K14.H cK20 cK11 cK163 cK28) Tryz.f138 6 (K14.W (K14.gen cK20 cK11 cK163 cK28)):=by intro a x;kernel_rfl
theorem K14.ok:NK_ 138 K14.sig (K14.W K14):=ok_ Tryz.func138 (K14.eq K20 K11 Q37 K28) (hn_ (Z0 (Z0 (Z0 (Z0 Z2 K20.ok) K11.ok) Q37.ok) K28.ok))
def K92.sig:Sig U:=⟨[.ptr],[.obj .Q18],0,[],true,[]⟩
abbrev K92.T:Type:=(Qh)->Option (Unit×(Qh×Unit)×Unit)
def K92.W (f:K92.T):K92.sig.F:=λa x=>f x.1
def K92.H:Hints U:={ Γ:=noΓ,ro:=0,base:=14}
def K92.gen:K92.T:=λh0=>
 some ((),((Qh.Q7Y h0 0,()),()))
def K92:K92.T:=K92.gen
theorem K92.ok:NK_ 139 K92.sig (K92.W K92):=ok_ (H:=K92.H) (n:=6) Tryz.func139 (by intro a x;kernel_rfl) (hn_ Z2)
def K18.sig:Sig U:=⟨[.ptr],[.obj .Q7,Q5c,Q4R,Q5y,Q4N],0,[],true,[]⟩
abbrev K18.T:Type:=(Q1)->(Fm Qe)->(Fm Qg)->(Fm Qh)->(Fm Qz)->Option (Unit×(Q1×Q6N)×Unit)
def K18.W (f:K18.T):K18.sig.F:=λa x=>f x.1 x.2.1 x.2.2.1 x.2.2.2.1 x.2.2.2.2.1
def K18.L0:Shape U:=⟨200,17,[(0,.ptr 13 0 0),(2,.ptr 14 0 0),(3,.ptr 15 0 0),(4,.ptr 16 0 0),(5,.asl 13 23 42 8),(30,vi_),(31,vi_)],(13,.obj .Q7)::(14,.Q6z .QA)::(15,.Q1R true .Q1K)::(16,.Q1R true .bool)::Q5M⟩
def K18.X0:Ql U:= [(.exit 0,⟨200,17,[(0,.ptr 13 0 0),(2,.ptr 14 0 0),(3,.ptr 15 0 0),(4,.ptr 16 0 0),(5,.asl 13 23 42 8)],(13,.obj .Q7)::(14,.Q6z .QA)::(15,.Q1R true .Q1K)::(16,.Q1R true .bool)::Q5M⟩)]
abbrev K18.l0T:Type:=(((Nat×Nat)×Int×Int×Unit)×(Q1×(Nat×Nat×(Nat->Qc))×(Nat×(Nat->Option (Qj)))×Q9L))->Option ((((Nat×Nat)×Unit)×(Q1×(Nat×Nat×(Nat->Qc))×(Nat×(Nat->Option (Qj)))×Q9L)))
def K18.L1:Shape U:=⟨200,16,[(0,.ptr 13 0 0),(2,.ptr 14 0 0),(5,.asl 13 23 42 8),(10,.val (.isl .int)),(12,.ptr 15 0 0),(92,.val (.isl .int)),(93,vi_),(94,vi_)],(13,.obj .Q7)::(14,.Q6z .QA)::(15,.obj .Q1G)::Q5M⟩
def K18.X1:Ql U:= [(.exit 2,⟨200,15,[(0,.ptr 13 0 0),(5,.asl 13 23 42 8),(10,.val (.isl .int)),(12,.ptr 14 0 0)],(13,.obj .Q7)::(14,.obj .Q1G)::Q5M⟩)]
abbrev K18.l1T:Type:=(((Nat×Nat)×(List (Int))×(List (Int))×Int×Int×Unit)×(Q1×(Nat×Nat×(Nat->Qc))×QX×Q6N))->Option ((((Nat×Nat)×(List (Int))×Unit)×(Q1×QX×Q6N)))
def K18.L2:Shape U:=⟨200,15,[(0,.ptr 13 0 0),(5,.asl 13 23 42 8),(12,.ptr 14 0 0),(15,vb_),(119,.val (.isl .int)),(120,vi_),(121,vi_)],(13,.obj .Q7)::(14,.obj .Q1G)::Q5M⟩
def K18.X2:Ql U:= [(.exit 4,⟨200,15,[(0,.ptr 13 0 0),(12,.ptr 14 0 0),(15,vb_)],(13,.obj .Q7)::(14,.obj .Q1G)::Q5M⟩)]
abbrev K18.l2T:Type:=(((Nat×Nat)×Bool×(List (Int))×Int×Int×Unit)×(Q1×QX×Q6N))->Option (((Bool×Unit)×(Q1×QX×Q6N)))
def K18.C:Code:=match Tryz.f71.body with|some c=>c|none=>.skip
def K18.B0:Code:=match (Z3 K18.C).getD 0 .skip with| .loop b=>b| .scope b=>b|_=>.skip
def K18.B1:Code:=match (Z3 K18.C).getD 1 .skip with| .loop b=>b| .scope b=>b|_=>.skip
def K18.B2:Code:=match (Z3 K18.C).getD 2 .skip with| .loop b=>b| .scope b=>b|_=>.skip
def K18.JR35:Ql U:= [(.normal,⟨200,15,[(0,.ptr 13 0 0),(12,.ptr 14 0 0)],(13,.obj .Q7)::(14,.obj .Q1G)::Q5M⟩)]
def K18.JR31:Ql U:= [(.normal,⟨200,15,[(0,.ptr 13 0 0),(5,.asl 13 23 42 8),(12,.ptr 14 0 0),(15,vb_),(18,.Q1g 13 23 42 8 0),(119,.val (.isl .int)),(120,vi_),(121,vi_)],(13,.obj .Q7)::(14,.obj .Q1G)::Q5M⟩)]
def K18.JR29:Ql U:= [(.normal,⟨200,15,[(0,.ptr 13 0 0),(5,.asl 13 23 42 8),(12,.ptr 14 0 0),(15,vb_),(17,vi_),(18,.Q1g 13 23 42 8 0),(19,vi_),(119,.val (.isl .int)),(120,vi_),(121,vi_)],(13,.obj .Q7)::(14,.obj .Q1G)::Q5M⟩)]
def K18.Q8Y:Ql U:= [(.normal,⟨200,16,[(0,.ptr 13 0 0),(2,.ptr 14 0 0),(5,.asl 13 23 42 8),(10,.val (.isl .int)),(12,.ptr 15 0 0)],(13,.obj .Q7)::(14,.Q6z .QA)::(15,.obj .Q1G)::Q5M⟩)]
def K18.Q8i:Ql U:= [(.normal,⟨200,17,[(0,.ptr 13 0 0),(2,.ptr 14 0 0),(3,.ptr 15 0 0),(4,.ptr 16 0 0),(5,.asl 13 23 42 8),(6,vi_),(9,vb_),(30,vi_),(31,vi_)],(13,.obj .Q7)::(14,.Q6z .QA)::(15,.Q1R true .Q1K)::(16,.Q1R true .bool)::Q5M⟩)]
def K18.JR9:Ql U:= [(.normal,⟨200,18,[(0,.ptr 13 0 0),(2,.ptr 14 0 0),(3,.ptr 15 0 0),(4,.ptr 16 0 0),(5,.asl 13 23 42 8),(6,vi_),(7,.Q1g 13 23 42 8 0),(8,.ptr 17 0 0),(9,vb_),(30,vi_),(31,vi_)],(13,.obj .Q7)::(14,.Q6z .QA)::(15,.Q1R true .Q1K)::(16,.Q1R true .bool)::(17,.obj .QA)::Q5M⟩)]
def K18.JC31:Ql U:= [(.normal,⟨200,15,[(0,.ptr 13 0 0),(5,.asl 13 23 42 8),(12,.ptr 14 0 0),(15,vb_),(119,.val (.isl .int)),(120,vi_),(121,vi_)],(13,.obj .Q7)::(14,.obj .Q1G)::Q5M⟩)]
def K18.JC20:Ql U:= [(.normal,⟨200,16,[(0,.ptr 13 0 0),(2,.ptr 14 0 0),(5,.asl 13 23 42 8),(10,.val (.isl .int)),(12,.ptr 15 0 0),(92,.val (.isl .int)),(93,vi_),(94,vi_)],(13,.obj .Q7)::(14,.Q6z .QA)::(15,.obj .Q1G)::Q5M⟩)]
def K18.JC12:Ql U:= [(.normal,⟨200,17,[(0,.ptr 13 0 0),(2,.ptr 14 0 0),(3,.ptr 15 0 0),(4,.ptr 16 0 0),(5,.asl 13 23 42 8),(30,vi_),(31,vi_)],(13,.obj .Q7)::(14,.Q6z .QA)::(15,.Q1R true .Q1K)::(16,.Q1R true .bool)::Q5M⟩)]
def K18.H (cK129:Q4c.T) (cK63:K63.T) (cK49:K49.T) (cK53:K53.T) (cK178:Q2G.T) (cK177:Q2C.T) (cK130:Q3q.T) (cK39:K39.T) (cK14:K14.T) (cK92:K92.T) (l0:K18.l0T) (l1:K18.l1T) (l2:K18.l2T):Hints U:={ Γ:=(Qn 139 (K92.sig.native (K92.W cK92)) (Qn 138 (K14.sig.native (K14.W cK14)) (Qn 97 (K39.sig.native (K39.W cK39)) (Qn 137 (Q3q.sig.native (Q3q.W cK130)) (Qn 136 (Q2C.sig.native (Q2C.W cK177)) (Q2G.N cK178 (Qn 134 (K53.sig.native (K53.W cK53)) (Qn 135 (K49.sig.native (K49.W cK49)) (Qn 133 (K63.sig.native (K63.W cK63)) (Q4c.N cK129 (Qn 3000000228 Z17 (Qn 3000000227 Z17 (Qn 4000000213 Z17 noΓ))))))))))))),ro:=0,base:=14,Q1L:=jt_ [(30,[(171,vb_)])],Q2B:=jt_ [(9,K18.JR9),(10,K18.Q8i),(15,K18.Q8Y),(29,K18.JR29),(31,K18.JR31),(35,K18.JR35)],Q23:=jt_ [(12,K18.JC12),(20,K18.JC20),(31,K18.JC31),(35,K18.JR35)],loop:=jt_ [(5,(Z9 (0,14) K18.L0 K18.X0 l0)),(17,(Z9 (0,14) K18.L1 K18.X1 l1)),(24,(Z9 (0,14) K18.L2 K18.X2 l2))]}
def K18.Qak (cK129:Q4c.T) (cK63:K63.T) (cK49:K49.T) (cK53:K53.T) (cK178:Q2G.T) (cK177:Q2C.T) (cK130:Q3q.T) (cK39:K39.T) (cK14:K14.T) (cK92:K92.T) (a:((Nat×Nat)×Bool×(List (Int))×Int×Int×Unit)×(Q1×QX×Q6N)):Option ((((Nat×Nat)×Bool×(List (Int))×Int×Int×Unit)×(Q1×QX×Q6N))⊕(((Bool×Unit)×(Q1×QX×Q6N)))):=
 (bif ilt a.1.2.2.2.2.1 a.1.2.2.2.1 then (bif inR a.1.2.2.2.2.1 (List.length a.1.2.2.1) then (bif inR a.1.2.2.2.2.1 a.1.1.2 then (Q0 (cK129 (a.2.1.Qf (a.1.1.1+Int.toNat a.1.2.2.2.2.1)).Q1w) none λr0=>(bif !r0.1.1 then some (.inl ((a.1.1,(a.1.2.1,(a.1.2.2.1,(a.1.2.2.2.1,(Q4 .i64 a.1.2.2.2.2.1 1,()))))),a.2)) else (Q0 ((Q0 (cK130 (a.2.1.Qf (a.1.1.1+Int.toNat a.1.2.2.2.2.1)).Q1w (List.getD a.1.2.2.1 (Int.toNat a.1.2.2.2.2.1) (0:D UC.int)) a.1.2.1 a.2.1.Qs.Q2t) none λr1=>some ((a.1.1,(a.1.2.1,(List.getD a.1.2.2.1 (Int.toNat a.1.2.2.2.2.1) (0:D UC.int),(a.1.1.1+Int.toNat a.1.2.2.2.2.1,((a.2.1.Qf (a.1.1.1+Int.toNat a.1.2.2.2.2.1)).Q1w,a.1.2.2))))),(Q1.QT a.2.1 (Qr a.2.1.Qf (a.1.1.1+Int.toNat a.1.2.2.2.2.1) (Q5.Q3C (a.2.1.Qf (a.1.1.1+Int.toNat a.1.2.2.2.2.1)) r1.1.1)),a.2.2)))) none λr2=>(Q0 ((bif ine (r2.2.1.Qf r2.1.2.2.2.1).Q1w r2.1.2.2.2.2.1 then some (true,()) else (bif ieq (r2.2.1.Qf r2.1.2.2.2.1).Q1w 8 then (bif ieq r2.1.2.2.1 6 then some (!r2.1.2.1,()) else some (false,())) else some (false,())))) none λr3=>(Q0 ((bif r3.1 then (Q0 ((Q0 (cK39 (!r2.2.1.Qs.Q4r) (r2.2.1.Qf r2.1.2.2.2.1) r2.2.2.2.2.1 r2.2.2.2.2.2.2.1) none λr4=>some ((r2.1.1,(r2.1.2.1,(r2.1.2.2.2.1,r2.1.2.2.2.2.2))),(Q1.QT r2.2.1 (Qr r2.2.1.Qf r2.1.2.2.2.1 r4.2.1.1),(r2.2.2.1,(r2.2.2.2.1,(r4.2.1.2.1,(r2.2.2.2.2.2.1,r4.2.1.2.2)))))))) none λr5=>(Q0 (cK14 r5.1.2.2.1 r5.2.2.1 r5.2.1) none λr6=>some ((r5.1.1,(r5.1.2.1,r5.1.2.2.2)),(r6.2.1.1,r5.2.2)))) else some ((r2.1.1,(r2.1.2.1,r2.1.2.2.2.2.2)),r2.2))) none λr7=>some (.inl ((r7.1.1,(r7.1.2.1,(r7.1.2.2.1,(r7.1.2.2.2.1,(Q4 .i64 r7.1.2.2.2.2.1 1,()))))),r7.2))))))) else none) else none) else some (.inr ((a.1.2.1,()),a.2)))
def K18.F2:K18.l2T:=λa=>Z8 (1000000+(a.1.1.2+a.1.2.2.1.length)) (K18.Qak Q4c K63 K49 K53 Q2G Q2C Q3q K39 K14 K92) a
def K18.Q2x (cK129:Q4c.T) (cK63:K63.T) (cK49:K49.T) (cK53:K53.T) (cK178:Q2G.T) (cK177:Q2C.T) (cK130:Q3q.T) (cK39:K39.T) (cK14:K14.T) (cK92:K92.T) (a:((Nat×Nat)×(List (Int))×(List (Int))×Int×Int×Unit)×(Q1×(Nat×Nat×(Nat->Qc))×QX×Q6N)):Option ((((Nat×Nat)×(List (Int))×(List (Int))×Int×Int×Unit)×(Q1×(Nat×Nat×(Nat->Qc))×QX×Q6N))⊕((((Nat×Nat)×(List (Int))×Unit)×(Q1×QX×Q6N)))):=
 (bif ilt a.1.2.2.2.2.1 a.1.2.2.2.1 then (bif inR a.1.2.2.2.2.1 (List.length a.1.2.2.1) then (Q0 ((bif ieq (List.getD a.1.2.2.1 (Int.toNat a.1.2.2.2.2.1) (0:D UC.int)) 6 then (bif bif inR a.1.2.2.2.2.1 8 then inR a.1.2.2.2.2.1 a.2.2.1.1 else false then (bif bif inR a.1.2.2.2.2.1 8 then inR a.1.2.2.2.2.1 a.2.2.1.1 else false then (Q0 (cK177 (a.2.2.1.2.2 (Int.toNat a.1.2.2.2.2.1)).Q3g (a.2.2.1.2.2 (Int.toNat a.1.2.2.2.2.1)).Q1e) none λr0=>some (a.1,(a.2.1,(a.2.2.1,(r0.1.1,a.2.2.2.2))))) else none) else none) else some a)) none λr1=>some (.inl ((r1.1.1,(r1.1.2.1,(r1.1.2.2.1,(r1.1.2.2.2.1,(Q4 .i64 r1.1.2.2.2.2.1 1,()))))),r1.2))) else none) else some (.inr ((a.1.1,(a.1.2.1,())),(a.2.1,a.2.2.2))))
def K18.F1:K18.l1T:=λa=>Z8 (1000000+(a.1.1.2+a.1.2.1.length+a.1.2.2.1.length)) (K18.Q2x Q4c K63 K49 K53 Q2G Q2C Q3q K39 K14 K92) a
def K18.QU (cK129:Q4c.T) (cK63:K63.T) (cK49:K49.T) (cK53:K53.T) (cK178:Q2G.T) (cK177:Q2C.T) (cK130:Q3q.T) (cK39:K39.T) (cK14:K14.T) (cK92:K92.T) (a:((Nat×Nat)×Int×Int×Unit)×(Q1×(Nat×Nat×(Nat->Qc))×(Nat×(Nat->Option (Qj)))×Q9L)):Option ((((Nat×Nat)×Int×Int×Unit)×(Q1×(Nat×Nat×(Nat->Qc))×(Nat×(Nat->Option (Qj)))×Q9L))⊕((((Nat×Nat)×Unit)×(Q1×(Nat×Nat×(Nat->Qc))×(Nat×(Nat->Option (Qj)))×Q9L)))):=
 (bif ilt a.1.2.2.1 a.1.2.1 then (bif inR a.1.2.2.1 a.1.1.2 then (Q0 (cK129 (a.2.1.Qf (a.1.1.1+Int.toNat a.1.2.2.1)).Q1w) none λr0=>(bif !r0.1.1 then some (.inl ((a.1.1,(a.1.2.1,(Q4 .i64 a.1.2.2.1 1,()))),a.2)) else (Q0 ((Q0 ((a.2.1.Qf (a.1.1.1+Int.toNat a.1.2.2.1)).2) none λr1=>(Q0 (cK63 a.2.1.Q5k (a.2.2.2.2.2.1.2 r1)) none λr2=>some ((a.1.1,(a.1.2.2.1,(a.1.1.1+Int.toNat a.1.2.2.1,(r2.1.2.1,a.1.2)))),(a.2.1,(a.2.2.1,(a.2.2.2.1,(a.2.2.2.2.1,(r2.1.1,a.2.2.2.2.2))))))))) none λr3=>(Q0 ((bif bif inR r3.1.2.1 8 then inR r3.1.2.1 r3.2.2.1.1 else false then (bif Nat.ble r3.2.2.1.2.1 (Int.toNat r3.1.2.1) then (bif bif inR r3.1.2.1 8 then inR r3.1.2.1 r3.2.2.2.2.1.1 else false then some ((r3.1.1,(r3.1.2.1,r3.1.2.2.2)),(r3.2.1,((r3.2.2.1.1,(r3.2.2.1.2.1,Qr r3.2.2.1.2.2 (Int.toNat r3.1.2.1) r3.2.2.2.2.2.1)),(r3.2.2.2.1,((r3.2.2.2.2.1.1,Qr r3.2.2.2.2.1.2 (Int.toNat r3.1.2.1) (ieq (r3.2.1.Qf r3.1.2.2.1).Q1w 4)),r3.2.2.2.2.2.2))))) else none) else none) else none)) none λr4=>(Q0 ((bif r4.1.2.2.1 then (bif bif inR r4.1.2.1 8 then inR r4.1.2.1 r4.2.2.1.1 else false then (bif bif inR r4.1.2.1 8 then inR r4.1.2.1 r4.2.2.2.1.1 else false then some ((r4.1.1,r4.1.2.2.2),(r4.2.1,((r4.2.2.1.1,(Nat.max r4.2.2.1.2.1 (Int.toNat r4.1.2.1+1),r4.2.2.1.2.2)),((r4.2.2.2.1.1,Qr r4.2.2.2.1.2 (Int.toNat r4.1.2.1) (some (r4.2.2.1.2.2 (Int.toNat r4.1.2.1)).Q3g)),r4.2.2.2.2)))) else none) else none) else some ((r4.1.1,r4.1.2.2.2),r4.2))) none λr5=>some (.inl ((r5.1.1,(r5.1.2.1,(Q4 .i64 r5.1.2.2.1 1,()))),r5.2))))))) else none) else some (.inr ((a.1.1,()),a.2)))
def K18.F0:K18.l0T:=λa=>Z8 (1000000+(a.1.1.2)) (K18.QU Q4c K63 K49 K53 Q2G Q2C Q3q K39 K14 K92) a
def K18.gen (cK129:Q4c.T) (cK63:K63.T) (cK49:K49.T) (cK53:K53.T) (cK178:Q2G.T) (cK177:Q2C.T) (cK130:Q3q.T) (cK39:K39.T) (cK14:K14.T) (cK92:K92.T) (l0:K18.l0T) (l1:K18.l1T) (l2:K18.l2T):K18.T:=λh0 g6 g7 g9 g10=>
 (bif le3 (ofN 0) h0.Qs.QB 8 then (Q0 (l0 (((Int.toNat (ofN 0),Int.toNat h0.Qs.QB - Int.toNat (ofN 0)),ofN (Int.toNat h0.Qs.QB - Int.toNat (ofN 0)),(0:Int),()),h0,(8,0,λ(j:Nat)=>List.getD (Qc.mk z6_ z5_ 0 0 0::Qc.mk z6_ z5_ 0 0 0::Qc.mk z6_ z5_ 0 0 0::Qc.mk z6_ z5_ 0 0 0::Qc.mk z6_ z5_ 0 0 0::Qc.mk z6_ z5_ 0 0 0::Qc.mk z6_ z5_ 0 0 0::Qc.mk z6_ z5_ 0 0 0::Qm Qc) j Qc.zero),(8,λ(j:Nat)=>List.getD (none::none::none::none::none::none::none::none::Qm (Option Qj)) j none),(8,λ(j:Nat)=>List.getD (false::false::false::false::false::false::false::false::Qm Bool) j false),g6,g7,g9,g10,())) none λr0=>(Q0 (cK49 r0.2.1.Qs) none λr1=>(bif bif le3 0 (ofN r0.1.1.2) 8 then le3 0 (ofN r0.1.1.2) r0.2.2.2.2.1.1 else false then (bif bif le3 0 (ofN r0.1.1.2) 8 then le3 0 (ofN r0.1.1.2) r0.2.2.2.1.1 else false then (Q0 (cK53 r1.1.1 (List.map r0.2.2.2.2.1.2 (List.range (Int.toNat (ofN r0.1.1.2)))) (List.map r0.2.2.2.1.2 (List.range (Int.toNat (ofN r0.1.1.2))))) none λr2=>(Q0 ((Q0 (cK178 r0.2.1.Qs) none λr3=>some ((r0.1.1,(r2.1.1,())),(r0.2.1,(r0.2.2.1,(r3.1.1,r0.2.2.2.2.2)))))) none λr4=>(Q0 (l1 ((r4.1.1,r4.1.2.1,r4.1.2.1,ofN (List.length r4.1.2.1),(0:Int),()),r4.2)) none λr5=>(Q0 (l2 ((r5.1.1,bif ieq r5.2.2.1.QR.QI r5.2.1.Q2b.QR.QI then bif ieq r5.2.2.1.QR.QR r5.2.1.Q2b.QR.QR then true else false else false,r5.1.2.1,ofN (List.length r5.1.2.1),(0:Int),()),r5.2)) none λr6=>(Q0 ((bif !r6.1.1 then (Q0 ((Q0 (r6.2.1.6) none λr7=>(Q0 (cK92 (r6.2.2.2.2.2.1.2 r7)) none λr8=>some ((),(r6.2.1,(r6.2.2.1,(r6.2.2.2.1,(r6.2.2.2.2.1,((r6.2.2.2.2.2.1.1,Qr r6.2.2.2.2.2.1.2 r7 r8.2.1.1),r6.2.2.2.2.2.2))))))))) none λr9=>some ((),(Q1.Q6A r9.2.1 z4_,r9.2.2))) else some ((),r6.2))) none λr10=>some ((),((Q1.Q48 r10.2.1 r10.2.2.1,r10.2.2.2),()))))))) else none) else none))) else none)
def K18:K18.T:=K18.gen Q4c K63 K49 K53 Q2G Q2C Q3q K39 K14 K92 K18.F0 K18.F1 K18.F2
theorem K18.seq2 (cK129:Q4c.T) (cK63:K63.T) (cK49:K49.T) (cK53:K53.T) (cK178:Q2G.T) (cK177:Q2C.T) (cK130:Q3q.T) (cK39:K39.T) (cK14:K14.T) (cK92:K92.T) (l0:K18.l0T) (l1:K18.l1T) (l2:K18.l2T) (a:K18.L2.T):run Tryz.prog (K18.H cK129 cK63 cK49 cK53 cK178 cK177 cK130 cK39 cK14 cK92 l0 l1 l2) 6 (Option (K18.L2.T⊕ExT K18.X2)) none K18.B2 (K18.L2.enc a) (Zj (0,14) K18.L2 K18.X2)=K18.Qak cK129 cK63 cK49 cK53 cK178 cK177 cK130 cK39 cK14 cK92 a:=by kernel_rfl
abbrev K18.h:=K18.H Q4c K63 K49 K53 Q2G Q2C Q3q K39 K14 K92 K18.F0 K18.F1 K18.F2
theorem K18.QeI:LO_ K18.h K18.B2 (Z9 (0,14) K18.L2 K18.X2 K18.F2):=lk_ (hn_ (Z0 (Z0 (Z0 (Z0 (Z0 (Z0 (Z0 (Z0 (Z0 (Z0 (Z0 (Z0 (Z0 Z2 Zd) Zd) Zd) Q4c.ok) K63.ok) K49.ok) K53.ok) Q2G.ok) Q2C.ok) Q3q.ok) K39.ok) K14.ok) K92.ok)) (K18.seq2 Q4c K63 K49 K53 Q2G Q2C Q3q K39 K14 K92 K18.F0 K18.F1 K18.F2)
theorem K18.seq1 (cK129:Q4c.T) (cK63:K63.T) (cK49:K49.T) (cK53:K53.T) (cK178:Q2G.T) (cK177:Q2C.T) (cK130:Q3q.T) (cK39:K39.T) (cK14:K14.T) (cK92:K92.T) (l0:K18.l0T) (l1:K18.l1T) (l2:K18.l2T) (a:K18.L1.T):run Tryz.prog (K18.H cK129 cK63 cK49 cK53 cK178 cK177 cK130 cK39 cK14 cK92 l0 l1 l2) 6 (Option (K18.L1.T⊕ExT K18.X1)) none K18.B1 (K18.L1.enc a) (Zj (0,14) K18.L1 K18.X1)=K18.Q2x cK129 cK63 cK49 cK53 cK178 cK177 cK130 cK39 cK14 cK92 a:=by kernel_rfl
theorem K18.Q4T:LO_ K18.h K18.B1 (Z9 (0,14) K18.L1 K18.X1 K18.F1):=lk_ (hn_ (Z0 (Z0 (Z0 (Z0 (Z0 (Z0 (Z0 (Z0 (Z0 (Z0 (Z0 (Z0 (Z0 Z2 Zd) Zd) Zd) Q4c.ok) K63.ok) K49.ok) K53.ok) Q2G.ok) Q2C.ok) Q3q.ok) K39.ok) K14.ok) K92.ok)) (K18.seq1 Q4c K63 K49 K53 Q2G Q2C Q3q K39 K14 K92 K18.F0 K18.F1 K18.F2)
theorem K18.Q26 (cK129:Q4c.T) (cK63:K63.T) (cK49:K49.T) (cK53:K53.T) (cK178:Q2G.T) (cK177:Q2C.T) (cK130:Q3q.T) (cK39:K39.T) (cK14:K14.T) (cK92:K92.T) (l0:K18.l0T) (l1:K18.l1T) (l2:K18.l2T) (a:K18.L0.T):run Tryz.prog (K18.H cK129 cK63 cK49 cK53 cK178 cK177 cK130 cK39 cK14 cK92 l0 l1 l2) 6 (Option (K18.L0.T⊕ExT K18.X0)) none K18.B0 (K18.L0.enc a) (Zj (0,14) K18.L0 K18.X0)=K18.QU cK129 cK63 cK49 cK53 cK178 cK177 cK130 cK39 cK14 cK92 a:=by kernel_rfl
theorem K18.Q1V:LO_ K18.h K18.B0 (Z9 (0,14) K18.L0 K18.X0 K18.F0):=lk_ (hn_ (Z0 (Z0 (Z0 (Z0 (Z0 (Z0 (Z0 (Z0 (Z0 (Z0 (Z0 (Z0 (Z0 Z2 Zd) Zd) Zd) Q4c.ok) K63.ok) K49.ok) K53.ok) Q2G.ok) Q2C.ok) Q3q.ok) K39.ok) K14.ok) K92.ok)) (K18.Q26 Q4c K63 K49 K53 Q2G Q2C Q3q K39 K14 K92 K18.F0 K18.F1 K18.F2)
theorem K18.eq (cK129:Q4c.T) (cK63:K63.T) (cK49:K49.T) (cK53:K53.T) (cK178:Q2G.T) (cK177:Q2C.T) (cK130:Q3q.T) (cK39:K39.T) (cK14:K14.T) (cK92:K92.T) (l0:K18.l0T) (l1:K18.l1T) (l2:K18.l2T):EqA K18.sig (K18.H cK129 cK63 cK49 cK53 cK178 cK177 cK130 cK39 cK14 cK92 l0 l1 l2) Tryz.f71 6 (K18.W (K18.gen cK129 cK63 cK49 cK53 cK178 cK177 cK130 cK39 cK14 cK92 l0 l1 l2)):=by intro a x;kernel_rfl
theorem K18.loops:Z3 K18.C= [(.loop K18.B0),(.loop K18.B1),(.loop K18.B2)]:=by kernel_rfl
theorem K18.ok:NK_ 71 K18.sig (K18.W K18):=ok_ Tryz.func71 (K18.eq Q4c K63 K49 K53 Q2G Q2C Q3q K39 K14 K92 K18.F0 K18.F1 K18.F2) (hl_ (Z0 (Z0 (Z0 (Z0 (Z0 (Z0 (Z0 (Z0 (Z0 (Z0 (Z0 (Z0 (Z0 Z2 Zd) Zd) Zd) Q4c.ok) K63.ok) K49.ok) K53.ok) Q2G.ok) Q2C.ok) Q3q.ok) K39.ok) K14.ok) K92.ok) (Z7 (by kernel_rfl) K18.Q1V (Z7 (by kernel_rfl) K18.Q4T (Z7 (by kernel_rfl) K18.QeI Z5)))) K18.loops
def Q1E.sig:Sig U:=⟨[.data .Q1d,.data .Q1G,.int .i64,.int .i64],[],0,[.data .Qk],false,[]⟩
abbrev Q1E.T:Type:=(Q9)->(QX)->(Int)->(Int)->Option ((Q8×Unit)×Unit×Unit)
def Q1E.W (f:Q1E.T):Q1E.sig.F:=λa x=>f a.1 a.2.1 a.2.2.1 a.2.2.2.1
def Q1E.H:Hints U:={ Γ:=noΓ,ro:=0,base:=13}
def Q1E.gen:Q1E.T:=λc p port seq=>
 some ((Q8.mk 11 c.Q1D p.Q1e.Q1X 0 (Qd.mk c.QI port) seq c.Q46 0 z0_ p.Q1e.Q3c p.Q16 p.Qv p.Q15 p.Q2z p.Q28 p.Q1e.Q1Q 0 0 0,()),((),()))
def Q1E:Q1E.T:=Q1E.gen
theorem Q1E.ok:NK_ 140 Q1E.sig (Q1E.W Q1E):=ok_ (H:=Q1E.H) (n:=6) Tryz.func140 (by intro a x;kernel_rfl) (hn_ Z2)
def Q3s.sig:Sig U:=⟨[.isl .u8,.int .i64,.int .i64],[],0,[.own .u8],false,[.tok]⟩
abbrev Q3s.T:Type:=(List (UInt8))->(Int)->(Int)->Option (((List (UInt8))×Unit)×Unit×(Unit×Unit))
def Q3s.W (f:Q3s.T):Q3s.sig.F:=λa x=>f a.1 a.2.1 a.2.2.1
abbrev Q3s.N (c:Q3s.T):=Qn 100 (Q3s.sig.native (Q3s.W c))
def Q3s.L0:Shape U:=⟨30,14,[(0,.own .u8 13),(1,vi_),(7,vi_)],[(13,.tok)]⟩
def Q3s.X0:Ql U:= [(.ret,⟨30,14,[(6,.own .u8 13)],[(13,.tok)]⟩)]
abbrev Q3s.l0T:Type:=(((List (UInt8))×Int×Int×Unit)×Unit)->Option ((((List (UInt8))×Unit)×Unit))
def Q3s.C:Code:=match Tryz.f100.body with|some c=>c|none=>.skip
def Q3s.B0:Code:=match (Z3 Q3s.C).getD 0 .skip with| .loop b=>b| .scope b=>b|_=>.skip
def Q3s.R0:Code:=(findLabel Q3s.B0 0).getD .skip
def Q3s.H (l0:Q3s.l0T):Hints U:={ Γ:=(Qn 6000000029 Z17 noΓ),ro:=0,base:=13,label:=λb=>bif Nat.beq b 0 then some (Z9 (0,13) Q3s.L0 Q3s.X0 l0) else none,gotos:=3,loop:=λb=>none}
def Q3s.QU (a:((List (UInt8))×Int×Int×Unit)×Unit):Option ((((List (UInt8))×Int×Int×Unit)×Unit)⊕((((List (UInt8))×Unit)×Unit))):=
 (bif ilt 0 a.1.2.2.1 then (bif ile 0 (Q3n .i64 8 (Q1s .i64 a.1.2.2.1 1)) then (bif room (List.length a.1.1+List.length (UInt8.ofNat (Int.toNat (IntKind.wrap .u8 (Q5I .i64 a.1.2.1 (Q3n .i64 8 (Q1s .i64 a.1.2.2.1 1)))))::Qm UInt8)) 1 then some (.inl ((a.1.1++UInt8.ofNat (Int.toNat (IntKind.wrap .u8 (Q5I .i64 a.1.2.1 (Q3n .i64 8 (Q1s .i64 a.1.2.2.1 1)))))::Qm UInt8,(a.1.2.1,(Q1s .i64 a.1.2.2.1 1,()))),())) else none) else none) else some (.inr ((a.1.1,()),())))
def Q3s.F0:Q3s.l0T:=λa=>Z8 (1000000+(a.1.1.length)) (Q3s.QU) a
def Q3s.gen (l0:Q3s.l0T):Q3s.T:=λb v n=>
 (bif bif le3 (ofN 0) (ofN (List.length b)) (List.length b) then ieq (ofN (List.length b)) (ofN (List.length b)) else false then (bif ilt 0 (Z4 true 0 (Z4 false n 8)) then (bif ile 0 (Q3n .i64 8 (Q1s .i64 (Z4 true 0 (Z4 false n 8)) 1)) then (bif room (List.length (List.drop (Int.toNat (ofN 0)) (List.take (Int.toNat (ofN (List.length b))) b))+List.length (UInt8.ofNat (Int.toNat (IntKind.wrap .u8 (Q5I .i64 v (Q3n .i64 8 (Q1s .i64 (Z4 true 0 (Z4 false n 8)) 1)))))::Qm UInt8)) 1 then (Q0 (l0 ((List.drop (Int.toNat (ofN 0)) (List.take (Int.toNat (ofN (List.length b))) b)++UInt8.ofNat (Int.toNat (IntKind.wrap .u8 (Q5I .i64 v (Q3n .i64 8 (Q1s .i64 (Z4 true 0 (Z4 false n 8)) 1)))))::Qm UInt8,v,Q1s .i64 (Z4 true 0 (Z4 false n 8)) 1,()),())) none λr0=>some (r0.1,((),((),())))) else none) else none) else some ((List.drop (Int.toNat (ofN 0)) (List.take (Int.toNat (ofN (List.length b))) b),()),((),((),())))) else none)
def Q3s:Q3s.T:=Q3s.gen Q3s.F0
theorem Q3s.Q26 (l0:Q3s.l0T) (a:Q3s.L0.T):run Tryz.prog (Q3s.H l0) 6 (Option (Q3s.L0.T⊕ExT Q3s.X0)) none Q3s.R0 (Q3s.L0.enc a) (Z2S (0,13) 0 Q3s.L0 Q3s.X0)=Q3s.QU a:=by kernel_rfl
theorem Q3s.Q4C:Z3 Q3s.R0=([]:List Code):=by kernel_rfl
abbrev Q3s.h:=Q3s.H Q3s.F0
theorem Q3s.Q1V:ZQ U Tryz.prog Q3s.h.ro Q3s.h.base Q3s.B0 Q3s.R0 (Z9 (0,13) Q3s.L0 Q3s.X0 Q3s.F0):=
 Z6h (Hn:=Q3s.h) (lb:=0) Q5L Q4v (Z1B (Z12 Q5L Q4v mixed (Z0 Z2 Zd) Z5 Z20 (Z2a λ_=>rfl)) 6) (by kernel_rfl) (λb h=>by rw [Q3s.Q4C] at h;exact h) (λ_=>rfl) (Q3s.Q26 Q3s.F0)
theorem Q3s.eq (l0:Q3s.l0T):EqA Q3s.sig (Q3s.H l0) Tryz.f100 6 (Q3s.W (Q3s.gen l0)):=by intro a x;kernel_rfl
theorem Q3s.loops:Z3 Q3s.C= [(.scope Q3s.B0)]:=by kernel_rfl
theorem Q3s.hints:Q3Z U Tryz.prog Q3s.h (λc=>c∈ [(.scope Q3s.B0)]):=(Z12 Q5L Q4v mixed (Z0 Z2 Zd) (Zt Z5) (Z4V (Z6y (r0:=Q3s.R0) (l0:=0) (by kernel_rfl) (λ_=>rfl) Q3s.Q1V) Z20) (Z2a λ_=>rfl))
theorem Q3s.ok:Zy U Tryz.prog 100 (Q3s.sig.native (Q3s.W Q3s)):=
 Sig.ok Q3s.sig (Q3s.W Q3s) Q4v (Hn:=Q3s.h) (code:=Q3s.C) (gos:=6) Q3s.hints Tryz.func100 (by kernel_rfl) (by kernel_rfl) (λb h=>by rw [Q3s.loops] at h;exact h) rfl rfl (by decide) (Q3s.eq Q3s.F0) (by decide)
def Q3Q.sig:Sig U:=⟨[.isl .u8,.int .u64],[],0,[.isl .u8],false,[]⟩
abbrev Q3Q.T:Type:=(List (UInt8))->(Int)->Option (((List (UInt8))×Unit)×Unit×Unit)
def Q3Q.W (f:Q3Q.T):Q3Q.sig.F:=λa x=>f a.1 a.2.1
abbrev Q3Q.N (c:Q3Q.T):=Qn 116 (Q3Q.sig.native (Q3Q.W c))
def Q3Q.H (cK110:Q3s.T):Hints U:={ Γ:=(Q3s.N cK110 noΓ),ro:=0,base:=13}
def Q3Q.gen (cK110:Q3s.T):Q3Q.T:=λb v=>
 (Q0 (cK110 b (IntKind.wrap .i64 v) 8) none λr0=>some (r0.1,((),())))
def Q3Q:Q3Q.T:=Q3Q.gen Q3s
theorem Q3Q.eq (cK110:Q3s.T):EqA Q3Q.sig (Q3Q.H cK110) Tryz.f116 6 (Q3Q.W (Q3Q.gen cK110)):=by intro a x;kernel_rfl
theorem Q3Q.ok:NK_ 116 Q3Q.sig (Q3Q.W Q3Q):=ok_ Tryz.func116 (Q3Q.eq Q3s) (hn_ (Z0 Z2 Q3s.ok))
def Q2F.sig:Sig U:=⟨[.isl .u64],[],0,[.data .QW,.bool],true,[]⟩
abbrev Q2F.T:Type:=(List (Int))->Option ((Qi×Bool×Unit)×Unit×Unit)
def Q2F.W (f:Q2F.T):Q2F.sig.F:=λa x=>f a.1
def Q2F.L0:Shape U:=⟨24,14,[(2,.ptr 13 0 0),(4,.val (.isl .u8)),(11,.val (.isl .u64)),(12,vi_),(13,vi_)],[(13,.obj .QW)]⟩
def Q2F.X0:Ql U:= [(.exit 0,⟨24,14,[(2,.ptr 13 0 0),(4,.val (.isl .u8))],[(13,.obj .QW)]⟩)]
abbrev Q2F.l0T:Type:=(((List (UInt8))×(List (Int))×Int×Int×Unit)×(Qi×Unit))->Option ((((List (UInt8))×Unit)×(Qi×Unit)))
def Q2F.C:Code:=match Tryz.f180.body with|some c=>c|none=>.skip
def Q2F.B0:Code:=match (Z3 Q2F.C).getD 0 .skip with| .loop b=>b| .scope b=>b|_=>.skip
def Q2F.H (cK111:Q3Q.T) (l0:Q2F.l0T):Hints U:={ Γ:=(Q3Q.N cK111 noΓ),ro:=0,base:=13,loop:=jt_ [(5,(Z9 (0,13) Q2F.L0 Q2F.X0 l0))]}
def Q2F.QU (cK111:Q3Q.T) (a:((List (UInt8))×(List (Int))×Int×Int×Unit)×(Qi×Unit)):Option ((((List (UInt8))×(List (Int))×Int×Int×Unit)×(Qi×Unit))⊕((((List (UInt8))×Unit)×(Qi×Unit)))):=
 (bif ilt a.1.2.2.2.1 a.1.2.2.1 then (bif inR a.1.2.2.2.1 (List.length a.1.2.1) then (Q0 (cK111 a.1.1 (List.getD a.1.2.1 (Int.toNat a.1.2.2.2.1) (0:D UC.u64))) none λr0=>some (.inl ((r0.1.1,(a.1.2.1,(a.1.2.2.1,(Q4 .i64 a.1.2.2.2.1 1,())))),a.2))) else none) else some (.inr ((a.1.1,()),a.2)))
def Q2F.F0:Q2F.l0T:=λa=>Z8 (1000000+(a.1.1.length+a.1.2.1.length)) (Q2F.QU Q3Q) a
def Q2F.gen (cK111:Q3Q.T) (l0:Q2F.l0T):Q2F.T:=λl=>
 (bif ilt 16 (ofN (List.length l)) then some ((Qi.mk 0 (ByteArray.mk (List.toArray (Qm UInt8))),(false,())),((),())) else (Q0 (l0 ((Qm UInt8,l,ofN (List.length l),(0:Int),()),Qi.mk 0 (ByteArray.mk (List.toArray (Qm UInt8))),())) none λr0=>some ((Qi.mk 8 (ByteArray.mk (List.toArray r0.1.1)),(true,())),((),()))))
def Q2F:Q2F.T:=Q2F.gen Q3Q Q2F.F0
theorem Q2F.Q26 (cK111:Q3Q.T) (l0:Q2F.l0T) (a:Q2F.L0.T):run Tryz.prog (Q2F.H cK111 l0) 6 (Option (Q2F.L0.T⊕ExT Q2F.X0)) none Q2F.B0 (Q2F.L0.enc a) (Zj (0,13) Q2F.L0 Q2F.X0)=Q2F.QU cK111 a:=by kernel_rfl
abbrev Q2F.h:=Q2F.H Q3Q Q2F.F0
theorem Q2F.Q1V:LO_ Q2F.h Q2F.B0 (Z9 (0,13) Q2F.L0 Q2F.X0 Q2F.F0):=lk_ (hn_ (Z0 Z2 Q3Q.ok)) (Q2F.Q26 Q3Q Q2F.F0)
theorem Q2F.eq (cK111:Q3Q.T) (l0:Q2F.l0T):EqA Q2F.sig (Q2F.H cK111 l0) Tryz.f180 6 (Q2F.W (Q2F.gen cK111 l0)):=by intro a x;kernel_rfl
theorem Q2F.loops:Z3 Q2F.C= [(.loop Q2F.B0)]:=by kernel_rfl
theorem Q2F.ok:NK_ 180 Q2F.sig (Q2F.W Q2F):=ok_ Tryz.func180 (Q2F.eq Q3Q Q2F.F0) (hl_ (Z0 Z2 Q3Q.ok) (Z7 (by kernel_rfl) Q2F.Q1V Z5)) Q2F.loops
def K27.sig:Sig U:=⟨[.ptr],[.obj .Q7,.fam 12 (.map true false .Qt .Q1P)],2,[.isl .QW],false,[]⟩
abbrev K27.T:Type:=(Q1)->(Nat×(Nat->List (Qd×List (Int))))->Option (((List (Qi))×Unit)×Unit×Unit)
def K27.W (f:K27.T):K27.sig.F:=λa x=>f x.1 x.2.1
def K27.L1:Shape U:=⟨65,14,[(0,.ptr 13 0 0),(3,.full .u64),(24,vi_),(25,vi_)],[(13,.obj .Q7),(12,.Q3u true false .Qt .Q1P)]⟩
def K27.X1:Ql U:= [(.exit 0,⟨65,15,[(0,.ptr 13 0 0),(3,.own .u64 14)],[(13,.obj .Q7),(14,.tok),(12,.Q3u true false .Qt .Q1P)]⟩)]
abbrev K27.l1T:Type:=(((List (Int))×Int×Int×Unit)×(Q1×(Nat×(Nat->List (Qd×List (Int))))×Unit))->Option ((((List (Int))×Unit)×(Q1×(Nat×(Nat->List (Qd×List (Int))))×Unit)))
def K27.C:Code:=match Tryz.f141.body with|some c=>c|none=>.skip
def K27.B0:Code:=match (Z3 K27.C).getD 0 .skip with| .loop b=>b| .scope b=>b|_=>.skip
def K27.B1:Code:=match (Z3 K27.C).getD 1 .skip with| .loop b=>b| .scope b=>b|_=>.skip
def K27.Q7z:Ql U:= [(.normal,⟨65,15,[(7,.ptr 14 0 0),(8,vb_)],[(13,.obj .Q7),(14,.obj .QW),(12,.Q3u true false .Qt .Q1P)]⟩)]
def K27.H (cK173:Q2F.T) (l1:K27.l1T):Hints U:={ Γ:=(Qn 180 (Q2F.sig.native (Q2F.W cK173)) (Qn 5000000021 Z17 noΓ)),ro:=14,base:=14,Q2B:=jt_ [(11,K27.Q7z)],loop:=jt_ [(5,(Z9 (14,14) K27.L1 K27.X1 l1))]}
def K27.Q2x (cK173:Q2F.T) (a:((List (Int))×Int×Int×Unit)×(Q1×(Nat×(Nat->List (Qd×List (Int))))×Unit)):Option ((((List (Int))×Int×Int×Unit)×(Q1×(Nat×(Nat->List (Qd×List (Int))))×Unit))⊕((((List (Int))×Unit)×(Q1×(Nat×(Nat->List (Qd×List (Int))))×Unit)))):=
 (bif ilt a.1.2.2.1 a.1.2.1 then (bif inR a.1.2.2.1 8 then (Q0 ((Q0 ((a.2.1.Qf (Int.toNat a.1.2.2.1)).3) none λr0=>((@Z1W U Go.Proofs.Tryz.prog 31 UC.Qt UC.Q1P (a.2.1.Q2b.QR) (a.2.2.1.2 r0)):Option (Option (List Int))))) none λ(r1:Option (List Int))=>(bif Option.isSome r1 then (bif room (List.length a.1.1+List.length (Option.getD r1 (Qm Int))) 8 then some (.inr ((a.1.1++Option.getD r1 (Qm Int),()),a.2)) else none) else some (.inl ((a.1.1,(a.1.2.1,(Q4 .i64 a.1.2.2.1 1,()))),a.2)))) else none) else some (.inr ((a.1.1,()),a.2)))
def K27.F1:K27.l1T:=λa=>Z8 (1000000+(a.1.1.length)) (K27.Q2x Q2F) a
def K27.gen (cK173:Q2F.T) (l1:K27.l1T):K27.T:=λh0 g12=>
 (bif !h0.Qs.Q6L then some ((Qm Qi,()),((),())) else (bif le3 (ofN 0) h0.Qs.QB 8 then (Q0 (l1 ((Qm Int,ofN (Int.toNat h0.Qs.QB - Int.toNat (ofN 0)),(0:Int),()),h0,g12,())) none λr0=>(Q0 ((bif room (List.length r0.1.1+List.length (r0.2.1.Qs.QI::Qm Int)) 8 then (Q0 (cK173 (r0.1.1++r0.2.1.Qs.QI::Qm Int)) none λr1=>some (r1.1.2,(r0.2.1,(r1.1.1,r0.2.2)))) else none)) none λr2=>(bif !r2.1.1 then some ((Qm Qi,()),((),())) else some ((r2.2.2.1::Qm Qi,()),((),()))))) else none))
def K27:K27.T:=K27.gen Q2F K27.F1
theorem K27.seq1 (cK173:Q2F.T) (l1:K27.l1T) (a:K27.L1.T):run Tryz.prog (K27.H cK173 l1) 6 (Option (K27.L1.T⊕ExT K27.X1)) none K27.B1 (K27.L1.enc a) (Zj (14,14) K27.L1 K27.X1)=K27.Q2x cK173 a:=by kernel_rfl
abbrev K27.h:=K27.H Q2F K27.F1
theorem K27.Q4T:LO_ K27.h K27.B1 (Z9 (14,14) K27.L1 K27.X1 K27.F1):=lk_ (hn_ (Z0 (Z0 Z2 Zd) Q2F.ok)) (K27.seq1 Q2F K27.F1)
theorem K27.eq (cK173:Q2F.T) (l1:K27.l1T):EqA K27.sig (K27.H cK173 l1) Tryz.f141 6 (K27.W (K27.gen cK173 l1)):=by intro a x;kernel_rfl
theorem K27.loops:Z3 K27.C= [(.scope K27.B0),(.loop K27.B1)]:=by kernel_rfl
theorem K27.ok:NK_ 141 K27.sig (K27.W K27):=ok_ Tryz.func141 (K27.eq Q2F K27.F1) (hl_ (Z0 (Z0 Z2 Zd) Q2F.ok) (Zt (Z7 (by kernel_rfl) K27.Q4T Z5))) K27.loops
def K74.sig:Sig U:=⟨[.int .i64],[],0,[.bool],false,[]⟩
abbrev K74.T:Type:=(Int)->Option ((Bool×Unit)×Unit×Unit)
def K74.W (f:K74.T):K74.sig.F:=λa x=>f a.1
def K74.JC7:Ql U:= [(.normal,⟨16,13,[(9,vb_)],[]⟩)]
def K74.JC3:Ql U:= [(.normal,⟨16,13,[(3,vi_),(4,vb_)],[]⟩)]
def K74.H:Hints U:={ Γ:=noΓ,ro:=0,base:=13,Q23:=jt_ [(3,K74.JC3),(7,K74.JC7)]}
def K74.gen:K74.T:=λtyp=>
 (Q0 ((bif ieq typ 0 then some ((typ,(ieq typ 0,())),()) else (bif ieq typ 1 then some ((typ,(ieq typ 1,())),()) else (bif ieq typ 2 then some ((typ,(ieq typ 2,())),()) else some ((typ,(ieq typ 3,())),()))))) none λr0=>(bif r0.1.2.1 then some ((true,()),((),())) else (Q0 ((bif ieq r0.1.1 8 then some ((ieq r0.1.1 8,()),()) else (bif ieq r0.1.1 9 then some ((ieq r0.1.1 9,()),()) else (bif ieq r0.1.1 10 then some ((ieq r0.1.1 10,()),()) else (bif ieq r0.1.1 11 then some ((ieq r0.1.1 11,()),()) else (bif ieq r0.1.1 12 then some ((ieq r0.1.1 12,()),()) else some ((ieq r0.1.1 13,()),()))))))) none λr1=>(bif r1.1.1 then some ((true,()),((),())) else some ((false,()),((),()))))))
def K74:K74.T:=K74.gen
theorem K74.ok:NK_ 102 K74.sig (K74.W K74):=ok_ (H:=K74.H) (n:=6) Tryz.func102 (by intro a x;kernel_rfl) (hn_ Z2)
def K77.sig:Sig U:=⟨[.int .i64,.int .i64,.int .i64],[],0,[.bool],false,[]⟩
abbrev K77.T:Type:=(Int)->(Int)->(Int)->Option ((Bool×Unit)×Unit×Unit)
def K77.W (f:K77.T):K77.sig.F:=λa x=>f a.1 a.2.1 a.2.2.1
abbrev K77.N (c:K77.T):=Qn 103 (K77.sig.native (K77.W c))
def K77.H:Hints U:={ Γ:=noΓ,ro:=0,base:=13}
def K77.gen:K77.T:=λv least most=>
 (bif ile least v then some ((ile v most,()),((),())) else some ((false,()),((),())))
def K77:K77.T:=K77.gen
theorem K77.ok:NK_ 103 K77.sig (K77.W K77):=ok_ (H:=K77.H) (n:=6) Tryz.func103 (by intro a x;kernel_rfl) (hn_ Z2)
def K80.sig:Sig U:=⟨[.data .Qt],[],0,[.bool],false,[]⟩
abbrev K80.T:Type:=(Qd)->Option ((Bool×Unit)×Unit×Unit)
def K80.W (f:K80.T):K80.sig.F:=λa x=>f a.1
def K80.H:Hints U:={ Γ:=noΓ,ro:=0,base:=13}
def K80.gen:K80.T:=λp=>
 (bif ile 0 p.QR then some ((ile p.QR 65535,()),((),())) else some ((false,()),((),())))
def K80:K80.T:=K80.gen
theorem K80.ok:NK_ 170 K80.sig (K80.W K80):=ok_ (H:=K80.H) (n:=6) Tryz.func170 (by intro a x;kernel_rfl) (hn_ Z2)
def K72.sig:Sig U:=⟨[.data .Qk],[],0,[.bool],false,[]⟩
abbrev K72.T:Type:=(Q8)->Option ((Bool×Unit)×Unit×Unit)
def K72.W (f:K72.T):K72.sig.F:=λa x=>f a.1
def K72.H (cK74:K74.T) (cK77:K77.T) (cK80:K80.T):Hints U:={ Γ:=(Qn 170 (K80.sig.native (K80.W cK80)) (K77.N cK77 (Qn 102 (K74.sig.native (K74.W cK74)) noΓ))),ro:=0,base:=13}
def K72.gen (cK74:K74.T) (cK77:K77.T) (cK80:K80.T):K72.T:=λm=>
 (Q0 (cK74 m.fType) none λr0=>(bif r0.1.1 then (Q0 (cK77 m.Q1D 0 255) none λr1=>(bif r1.1.1 then (Q0 (cK77 m.Q1X 0 65535) none λr2=>(bif r2.1.1 then (Q0 (cK80 m.Q1H) none λr3=>(bif r3.1.1 then (Q0 (cK77 m.Q2Y 0 65535) none λr4=>(bif r4.1.1 then (Q0 (cK77 m.Q6g (-128) 127) none λr5=>some (r5.1,((),()))) else some ((false,()),((),())))) else some ((false,()),((),())))) else some ((false,()),((),())))) else some ((false,()),((),())))) else some ((false,()),((),()))))
def K72:K72.T:=K72.gen K74 K77 K80
theorem K72.eq (cK74:K74.T) (cK77:K77.T) (cK80:K80.T):EqA K72.sig (K72.H cK74 cK77 cK80) Tryz.f118 6 (K72.W (K72.gen cK74 cK77 cK80)):=by intro a x;kernel_rfl
theorem K72.ok:NK_ 118 K72.sig (K72.W K72):=ok_ Tryz.func118 (K72.eq K74 K77 K80) (hn_ (Z0 (Z0 (Z0 Z2 K74.ok) K77.ok) K80.ok))
def K6.sig:Sig U:=⟨[.int .i64],[],0,[.bool],false,[]⟩
abbrev K6.T:Type:=(Int)->Option ((Bool×Unit)×Unit×Unit)
def K6.W (f:K6.T):K6.sig.F:=λa x=>f a.1
abbrev K6.N (c:K6.T):=Qn 107 (K6.sig.native (K6.W c))
def K6.H:Hints U:={ Γ:=noΓ,ro:=0,base:=13}
def K6.gen:K6.T:=λtyp=>
 (bif ine typ 12 then some ((ine typ 13,()),((),())) else some ((false,()),((),())))
def K6:K6.T:=K6.gen
theorem K6.ok:NK_ 107 K6.sig (K6.W K6):=ok_ (H:=K6.H) (n:=6) Tryz.func107 (by intro a x;kernel_rfl) (hn_ Z2)
def K7.sig:Sig U:=⟨[.int .i64],[],0,[.bool],false,[]⟩
abbrev K7.T:Type:=(Int)->Option ((Bool×Unit)×Unit×Unit)
def K7.W (f:K7.T):K7.sig.F:=λa x=>f a.1
abbrev K7.N (c:K7.T):=Qn 109 (K7.sig.native (K7.W c))
def K7.JC3:Ql U:= [(.normal,⟨10,13,[(4,vb_)],[]⟩)]
def K7.H:Hints U:={ Γ:=noΓ,ro:=0,base:=13,Q23:=jt_ [(3,K7.JC3)]}
def K7.gen:K7.T:=λtyp=>
 (Q0 ((bif ieq typ 9 then some ((ieq typ 9,()),()) else (bif ieq typ 3 then some ((ieq typ 3,()),()) else (bif ieq typ 10 then some ((ieq typ 10,()),()) else (bif ieq typ 12 then some ((ieq typ 12,()),()) else some ((ieq typ 13,()),())))))) none λr0=>(bif r0.1.1 then some ((true,()),((),())) else some ((false,()),((),()))))
def K7:K7.T:=K7.gen
theorem K7.ok:NK_ 109 K7.sig (K7.W K7):=ok_ (H:=K7.H) (n:=6) Tryz.func109 (by intro a x;kernel_rfl) (hn_ Z2)
def K5.sig:Sig U:=⟨[.data .Qk],[],0,[.data .Qk],false,[]⟩
abbrev K5.T:Type:=(Q8)->Option ((Q8×Unit)×Unit×Unit)
def K5.W (f:K5.T):K5.sig.F:=λa x=>f a.1
def K5.JC8:Ql U:= [(.normal,⟨68,15,[(2,.ptr 13 0 0),(3,.ptr 14 0 0)],[(13,.obj .Qk),(14,.obj .Qk)]⟩)]
def K5.JC5:Ql U:= [(.normal,⟨68,16,[(1,.ptr 13 0 0),(2,.ptr 14 0 0),(3,.ptr 15 0 0)],[(13,.obj .Qk),(14,.obj .Qk),(15,.obj .Qk)]⟩)]
def K5.H (cK6:K6.T) (cK7:K7.T):Hints U:={ Γ:=(K7.N cK7 (K6.N cK6 noΓ)),ro:=0,base:=13,Q23:=jt_ [(3,K5.JC5),(5,K5.JC5),(8,K5.JC8)]}
def K5.gen (cK6:K6.T) (cK7:K7.T):K5.T:=λm=>
 (Q0 (cK6 m.fType) none λr0=>(Q0 ((bif r0.1.1 then some ((),(m,(Q8.mk 0 0 0 0 z0_ 0 0 0 z0_ 0 0 z1_ 0 0 0 0 0 0 0,(Q8.mk m.fType m.Q1D m.Q1X m.Q4q m.Q1H m.Q2Y m.Q6g m.Q44 z0_ 0 0 z1_ 0 0 0 0 0 0 0,())))) else some ((),(m,(Q8.mk 0 0 0 0 z0_ 0 0 0 z0_ 0 0 z1_ 0 0 0 0 0 0 0,(Q8.mk m.fType m.Q1D m.Q1X m.Q4q m.Q1H m.Q2Y m.Q6g 0 z0_ 0 0 z1_ 0 0 0 0 0 0 0,())))))) none λr1=>(Q0 (cK7 r1.2.1.fType) none λr2=>(Q0 ((bif r2.1.1 then some ((),(r1.2.1,(r1.2.2.1,(Q8.Q7d r1.2.2.2.1 r1.2.1.Q2e,())))) else some ((),r1.2))) none λr3=>(Q0 ((bif ieq r3.2.1.fType 11 then some ((),(r3.2.2.1,(Q8.Q77 (Q8.Q7I (Q8.Q7G (Q8.Q50 (Q8.Q4D (Q8.Q4z (Q8.Q8t r3.2.2.2.1 r3.2.1.Q3c) r3.2.1.Q16) r3.2.1.Qv) r3.2.1.Q15) r3.2.1.Q2z) r3.2.1.Q28) r3.2.1.Q1Q,()))) else (bif ieq r3.2.1.fType 13 then some ((),(r3.2.2.1,(Q8.Q6m (Q8.Q71 (Q8.Q6k r3.2.2.2.1 r3.2.1.Q2U) r3.2.1.Q4K) r3.2.1.Q3p,()))) else some ((),r3.2.2)))) none λr4=>some (r4.2.2,((),())))))))
def K5:K5.T:=K5.gen K6 K7
theorem K5.eq (cK6:K6.T) (cK7:K7.T):EqA K5.sig (K5.H cK6 cK7) Tryz.f169 6 (K5.W (K5.gen cK6 cK7)):=by intro a x;kernel_rfl
theorem K5.ok:NK_ 169 K5.sig (K5.W K5):=ok_ Tryz.func169 (K5.eq K6 K7) (hn_ (Z0 (Z0 Z2 K6.ok) K7.ok))
def Q3E.sig:Sig U:=⟨[.int .i64],[],0,[.bool],false,[]⟩
abbrev Q3E.T:Type:=(Int)->Option ((Bool×Unit)×Unit×Unit)
def Q3E.W (f:Q3E.T):Q3E.sig.F:=λa x=>f a.1
abbrev Q3E.N (c:Q3E.T):=Qn 151 (Q3E.sig.native (Q3E.W c))
def Q3E.H:Hints U:={ Γ:=noΓ,ro:=0,base:=13}
def Q3E.gen:Q3E.T:=λt=>
 (bif ile 0 t then some ((ile t 4000000000000000,()),((),())) else some ((false,()),((),())))
def Q3E:Q3E.T:=Q3E.gen
theorem Q3E.ok:NK_ 151 Q3E.sig (Q3E.W Q3E):=ok_ (H:=Q3E.H) (n:=6) Tryz.func151 (by intro a x;kernel_rfl) (hn_ Z2)
def K4.sig:Sig U:=⟨[.int .i64,.int .i64,.int .i64],[],0,[.bool],false,[]⟩
abbrev K4.T:Type:=(Int)->(Int)->(Int)->Option ((Bool×Unit)×Unit×Unit)
def K4.W (f:K4.T):K4.sig.F:=λa x=>f a.1 a.2.1 a.2.2.1
def K4.H:Hints U:={ Γ:=noΓ,ro:=0,base:=13}
def K4.gen:K4.T:=λv least most=>
 (bif ile least v then some ((ile v most,()),((),())) else some ((false,()),((),())))
def K4:K4.T:=K4.gen
theorem K4.ok:NK_ 171 K4.sig (K4.W K4):=ok_ (H:=K4.H) (n:=6) Tryz.func171 (by intro a x;kernel_rfl) (hn_ Z2)
def K0.sig:Sig U:=⟨[.data .Qk],[],0,[.bool],false,[]⟩
abbrev K0.T:Type:=(Q8)->Option ((Bool×Unit)×Unit×Unit)
def K0.W (f:K0.T):K0.sig.F:=λa x=>f a.1
def K0.H (cK72:K72.T) (cK5:K5.T) (cK158:Q3E.T) (cK80:K80.T) (cK4:K4.T) (cK136:Q2m.T):Hints U:={ Γ:=(Q2m.N cK136 (Qn 171 (K4.sig.native (K4.W cK4)) (Qn 170 (K80.sig.native (K80.W cK80)) (Q3E.N cK158 (Qn 169 (K5.sig.native (K5.W cK5)) (Qn 118 (K72.sig.native (K72.W cK72)) noΓ)))))),ro:=0,base:=13}
def K0.gen (cK72:K72.T) (cK5:K5.T) (cK158:Q3E.T) (cK80:K80.T) (cK4:K4.T) (cK136:Q2m.T):K0.T:=λm=>
 (Q0 (cK72 m) none λr0=>(bif r0.1.1 then (Q0 (cK5 m) none λr1=>(bif bif ieq m.fType r1.1.1.fType then bif ieq m.Q1D r1.1.1.Q1D then bif ieq m.Q1X r1.1.1.Q1X then bif ieq m.Q4q r1.1.1.Q4q then bif bif ieq m.Q1H.QI r1.1.1.Q1H.QI then bif ieq m.Q1H.QR r1.1.1.Q1H.QR then true else false else false then bif ieq m.Q2Y r1.1.1.Q2Y then bif ieq m.Q6g r1.1.1.Q6g then bif ieq m.Q44 r1.1.1.Q44 then bif bif ieq m.Q2e.QI r1.1.1.Q2e.QI then bif ieq m.Q2e.QR r1.1.1.Q2e.QR then true else false else false then bif ieq m.Q3c r1.1.1.Q3c then bif ieq m.Q16 r1.1.1.Q16 then bif bif ieq m.Qv.Q1W r1.1.1.Qv.Q1W then bif ieq m.Qv.Q1u r1.1.1.Qv.Q1u then bif ieq m.Qv.Q1F r1.1.1.Qv.Q1F then true else false else false else false then bif ieq m.Q15 r1.1.1.Q15 then bif ieq m.Q2z r1.1.1.Q2z then bif ieq m.Q28 r1.1.1.Q28 then bif ieq m.Q1Q r1.1.1.Q1Q then bif ieq m.Q2U r1.1.1.Q2U then bif ieq m.Q4K r1.1.1.Q4K then bif ieq m.Q3p r1.1.1.Q3p then true else false else false else false else false else false else false else false else false else false else false else false else false else false else false else false else false else false else false else false then (Q0 (cK158 m.Q44) none λr2=>(bif r2.1.1 then (Q0 (cK80 m.Q2e) none λr3=>(bif r3.1.1 then (Q0 (cK4 m.Q3c (-32768) 32767) none λr4=>(bif r4.1.1 then (Q0 (cK4 m.Q16 0 255) none λr5=>(bif r5.1.1 then (Q0 (cK4 m.Q15 0 255) none λr6=>(bif r6.1.1 then (Q0 (cK4 m.Q1Q 0 255) none λr7=>(bif r7.1.1 then (Q0 (cK136 m.Qv) none λr8=>(bif r8.1.1 then (Q0 (cK4 m.Q28 0 65535) none λr9=>(bif r9.1.1 then (Q0 (cK4 m.Q2U 0 255) none λr10=>(bif r10.1.1 then (Q0 (cK4 m.Q4K 0 255) none λr11=>(bif r11.1.1 then (Q0 (cK4 m.Q3p 0 15) none λr12=>some (r12.1,((),()))) else some ((false,()),((),())))) else some ((false,()),((),())))) else some ((false,()),((),())))) else some ((false,()),((),())))) else some ((false,()),((),())))) else some ((false,()),((),())))) else some ((false,()),((),())))) else some ((false,()),((),())))) else some ((false,()),((),())))) else some ((false,()),((),())))) else some ((false,()),((),())))) else some ((false,()),((),()))))
def K0:K0.T:=K0.gen K72 K5 Q3E K80 K4 Q2m
theorem K0.eq (cK72:K72.T) (cK5:K5.T) (cK158:Q3E.T) (cK80:K80.T) (cK4:K4.T) (cK136:Q2m.T):EqA K0.sig (K0.H cK72 cK5 cK158 cK80 cK4 cK136) Tryz.f112 6 (K0.W (K0.gen cK72 cK5 cK158 cK80 cK4 cK136)):=by intro a x;kernel_rfl
theorem K0.ok:NK_ 112 K0.sig (K0.W K0):=ok_ Tryz.func112 (K0.eq K72 K5 Q3E K80 K4 Q2m) (hn_ (Z0 (Z0 (Z0 (Z0 (Z0 (Z0 Z2 K72.ok) K5.ok) Q3E.ok) K80.ok) K4.ok) Q2m.ok))
def Q32.sig:Sig U:=⟨[.isl .u8,.int .i64],[],0,[.isl .u8],false,[]⟩
abbrev Q32.T:Type:=(List (UInt8))->(Int)->Option (((List (UInt8))×Unit)×Unit×Unit)
def Q32.W (f:Q32.T):Q32.sig.F:=λa x=>f a.1 a.2.1
def Q32.JC2:Ql U:= [(.normal,⟨15,13,[(0,.val (.isl .u8)),(1,vi_)],[]⟩)]
def Q32.H (cK158:Q3E.T) (cK110:Q3s.T):Hints U:={ Γ:=(Q3s.N cK110 (Q3E.N cK158 noΓ)),ro:=0,base:=13,Q23:=jt_ [(2,Q32.JC2)]}
def Q32.gen (cK158:Q3E.T) (cK110:Q3s.T):Q32.T:=λb t=>
 (Q0 (cK158 t) none λr0=>(Q0 ((bif !r0.1.1 then some ((b,((0:Int),())),()) else some ((b,(t,())),()))) none λr1=>(Q0 (cK110 r1.1.1 (Q51 .i64 r1.1.2.1 1000000000) 6) none λr2=>(Q0 (cK110 r2.1.1 (Q5z r1.1.2.1 1000000000) 4) none λr3=>some (r3.1,((),()))))))
def Q32:Q32.T:=Q32.gen Q3E Q3s
theorem Q32.eq (cK158:Q3E.T) (cK110:Q3s.T):EqA Q32.sig (Q32.H cK158 cK110) Tryz.f113 6 (Q32.W (Q32.gen cK158 cK110)):=by intro a x;kernel_rfl
theorem Q32.ok:NK_ 113 Q32.sig (Q32.W Q32):=ok_ Tryz.func113 (Q32.eq Q3E Q3s) (hn_ (Z0 (Z0 Z2 Q3E.ok) Q3s.ok))
def K82.sig:Sig U:=⟨[.isl .u8,.data .Qt],[],0,[.isl .u8],false,[]⟩
abbrev K82.T:Type:=(List (UInt8))->(Qd)->Option (((List (UInt8))×Unit)×Unit×Unit)
def K82.W (f:K82.T):K82.sig.F:=λa x=>f a.1 a.2.1
abbrev K82.N (c:K82.T):=Qn 114 (K82.sig.native (K82.W c))
def K82.H (cK111:Q3Q.T) (cK110:Q3s.T):Hints U:={ Γ:=(Q3s.N cK110 (Q3Q.N cK111 noΓ)),ro:=0,base:=13}
def K82.gen (cK111:Q3Q.T) (cK110:Q3s.T):K82.T:=λb p=>
 (Q0 (cK111 b p.QI) none λr0=>(Q0 (cK110 r0.1.1 p.QR 2) none λr1=>some (r1.1,((),()))))
def K82:K82.T:=K82.gen Q3Q Q3s
theorem K82.eq (cK111:Q3Q.T) (cK110:Q3s.T):EqA K82.sig (K82.H cK111 cK110) Tryz.f114 6 (K82.W (K82.gen cK111 cK110)):=by intro a x;kernel_rfl
theorem K82.ok:NK_ 114 K82.sig (K82.W K82):=ok_ Tryz.func114 (K82.eq Q3Q Q3s) (hn_ (Z0 (Z0 Z2 Q3Q.ok) Q3s.ok))
def Q1Z.sig:Sig U:=⟨[.isl .u8,.data .Q2u],[],0,[.isl .u8],false,[]⟩
abbrev Q1Z.T:Type:=(List (UInt8))->(Qx)->Option (((List (UInt8))×Unit)×Unit×Unit)
def Q1Z.W (f:Q1Z.T):Q1Z.sig.F:=λa x=>f a.1 a.2.1
def Q1Z.H (cK110:Q3s.T):Hints U:={ Γ:=(Q3s.N cK110 noΓ),ro:=0,base:=13}
def Q1Z.gen (cK110:Q3s.T):Q1Z.T:=λb q=>
 (Q0 (cK110 b q.Q1W 1) none λr0=>(Q0 (cK110 r0.1.1 q.Q1u 1) none λr1=>(Q0 (cK110 r1.1.1 q.Q1F 2) none λr2=>some (r2.1,((),())))))
def Q1Z:Q1Z.T:=Q1Z.gen Q3s
theorem Q1Z.eq (cK110:Q3s.T):EqA Q1Z.sig (Q1Z.H cK110) Tryz.f115 6 (Q1Z.W (Q1Z.gen cK110)):=by intro a x;kernel_rfl
theorem Q1Z.ok:NK_ 115 Q1Z.sig (Q1Z.W Q1Z):=ok_ Tryz.func115 (Q1Z.eq Q3s) (hn_ (Z0 Z2 Q3s.ok))
def K3.sig:Sig U:=⟨[.isl .u8,.data .Qk],[],0,[.isl .u8,.bool],true,[]⟩
abbrev K3.T:Type:=(List (UInt8))->(Q8)->Option (((List (UInt8))×Bool×Unit)×Unit×Unit)
def K3.W (f:K3.T):K3.sig.F:=λa x=>f a.1 a.2.1
def K3.Q9F:Ql U:= [(.normal,⟨80,13,[(6,.val (.isl .u8))],[]⟩)]
def K3.JC7:Ql U:= [(.normal,⟨80,14,[(3,.ptr 13 0 0),(6,.val (.isl .u8))],[(13,.obj .Qk)]⟩)]
def K3.H (cK0:K0.T) (cK6:K6.T) (cK160:Q32.T) (cK7:K7.T) (cK82:K82.T) (cK110:Q3s.T) (cK137:Q1Z.T) (cK111:Q3Q.T):Hints U:={ Γ:=(Q3Q.N cK111 (Qn 115 (Q1Z.sig.native (Q1Z.W cK137)) (Q3s.N cK110 (K82.N cK82 (K7.N cK7 (Qn 113 (Q32.sig.native (Q32.W cK160)) (K6.N cK6 (Qn 112 (K0.sig.native (K0.W cK0)) noΓ)))))))),ro:=0,base:=13,Q23:=jt_ [(5,K3.JC7),(7,K3.JC7),(10,K3.Q9F)]}
def K3.gen (cK0:K0.T) (cK6:K6.T) (cK160:Q32.T) (cK7:K7.T) (cK82:K82.T) (cK110:Q3s.T) (cK137:Q1Z.T) (cK111:Q3Q.T):K3.T:=λb m=>
 (Q0 (cK0 m) none λr0=>(bif !r0.1.1 then some ((b,(false,())),((),())) else (bif bif le3 (ofN 0) (ofN (List.length b)) (List.length b) then ieq (ofN (List.length b)) (ofN (List.length b)) else false then (Q0 (cK6 m.fType) none λr1=>(Q0 ((bif r1.1.1 then (Q0 (cK160 (List.drop (Int.toNat (ofN 0)) (List.take (Int.toNat (ofN (List.length b))) b)) m.Q44) none λr2=>some (r2.1,(m,()))) else some ((List.drop (Int.toNat (ofN 0)) (List.take (Int.toNat (ofN (List.length b))) b),()),(m,())))) none λr3=>(Q0 (cK7 r3.2.1.fType) none λr4=>(Q0 ((bif r4.1.1 then (Q0 (cK82 r3.1.1 r3.2.1.Q2e) none λr5=>some (r5.1,r3.2)) else some r3)) none λr6=>(Q0 ((bif ieq r6.2.1.fType 2 then (Q0 (cK82 r6.1.1 z0_) none λr7=>some (r7.1,())) else (bif ieq r6.2.1.fType 11 then (Q0 (cK110 r6.1.1 r6.2.1.Q3c 2) none λr8=>(Q0 (cK110 r8.1.1 0 1) none λr9=>(Q0 (cK110 r9.1.1 r6.2.1.Q16 1) none λr10=>(Q0 (cK137 r10.1.1 r6.2.1.Qv) none λr11=>(Q0 (cK110 r11.1.1 r6.2.1.Q15 1) none λr12=>(Q0 (cK111 r12.1.1 r6.2.1.Q2z) none λr13=>(Q0 (cK110 r13.1.1 r6.2.1.Q28 2) none λr14=>(Q0 (cK110 r14.1.1 r6.2.1.Q1Q 1) none λr15=>some (r15.1,()))))))))) else (bif ieq r6.2.1.fType 13 then (Q0 (cK110 r6.1.1 r6.2.1.Q2U 1) none λr16=>(Q0 (cK110 r16.1.1 r6.2.1.Q4K 1) none λr17=>(Q0 (cK110 r17.1.1 r6.2.1.Q3p 1) none λr18=>(Q0 (cK110 r18.1.1 0 1) none λr19=>some (r19.1,()))))) else some (r6.1,()))))) none λr20=>some ((r20.1.1,(true,())),((),()))))))) else none)))
def K3:K3.T:=K3.gen K0 K6 Q32 K7 K82 Q3s Q1Z Q3Q
theorem K3.eq (cK0:K0.T) (cK6:K6.T) (cK160:Q32.T) (cK7:K7.T) (cK82:K82.T) (cK110:Q3s.T) (cK137:Q1Z.T) (cK111:Q3Q.T):EqA K3.sig (K3.H cK0 cK6 cK160 cK7 cK82 cK110 cK137 cK111) Tryz.f61 6 (K3.W (K3.gen cK0 cK6 cK160 cK7 cK82 cK110 cK137 cK111)):=by intro a x;kernel_rfl
theorem K3.ok:NK_ 61 K3.sig (K3.W K3):=ok_ Tryz.func61 (K3.eq K0 K6 Q32 K7 K82 Q3s Q1Z Q3Q) (hn_ (Z0 (Z0 (Z0 (Z0 (Z0 (Z0 (Z0 (Z0 Z2 K0.ok) K6.ok) Q32.ok) K7.ok) K82.ok) Q3s.ok) Q1Z.ok) Q3Q.ok))
def Q1y.sig:Sig U:=⟨[.int .i64,.int .i64,.int .i64],[],0,[.bool],false,[]⟩
abbrev Q1y.T:Type:=(Int)->(Int)->(Int)->Option ((Bool×Unit)×Unit×Unit)
def Q1y.W (f:Q1y.T):Q1y.sig.F:=λa x=>f a.1 a.2.1 a.2.2.1
abbrev Q1y.N (c:Q1y.T):=Qn 99 (Q1y.sig.native (Q1y.W c))
def Q1y.H:Hints U:={ Γ:=noΓ,ro:=0,base:=13}
def Q1y.gen:Q1y.T:=λv least most=>
 (bif ile least v then some ((ile v most,()),((),())) else some ((false,()),((),())))
def Q1y:Q1y.T:=Q1y.gen
theorem Q1y.ok:NK_ 99 Q1y.sig (Q1y.W Q1y):=ok_ (H:=Q1y.H) (n:=6) Tryz.func99 (by intro a x;kernel_rfl) (hn_ Z2)
def Q2J.sig:Sig U:=⟨[.data .QW],[],0,[.bool],false,[]⟩
abbrev Q2J.T:Type:=(Qi)->Option ((Bool×Unit)×Unit×Unit)
def Q2J.W (f:Q2J.T):Q2J.sig.F:=λa x=>f a.1
def Q2J.H (cK176:Q1y.T):Hints U:={ Γ:=(Q1y.N cK176 noΓ),ro:=0,base:=13}
def Q2J.gen (cK176:Q1y.T):Q2J.T:=λt=>
 (Q0 (cK176 t.fType 0 65535) none λr0=>(bif r0.1.1 then (bif ieq (Q5z (ofN (ByteArray.size t.Q2s)) 2) 0 then some ((ile (ofN (ByteArray.size t.Q2s)) 400,()),((),())) else some ((false,()),((),()))) else some ((false,()),((),()))))
def Q2J:Q2J.T:=Q2J.gen Q1y
theorem Q2J.eq (cK176:Q1y.T):EqA Q2J.sig (Q2J.H cK176) Tryz.f117 6 (Q2J.W (Q2J.gen cK176)):=by intro a x;kernel_rfl
theorem Q2J.ok:NK_ 117 Q2J.sig (Q2J.W Q2J):=ok_ Tryz.func117 (Q2J.eq Q1y) (hn_ (Z0 Z2 Q1y.ok))
def Q1v.sig:Sig U:=⟨[.isl .u8,.isl .QW],[],0,[.isl .u8,.bool],true,[]⟩
abbrev Q1v.T:Type:=(List (UInt8))->(List (Qi))->Option (((List (UInt8))×Bool×Unit)×Unit×Unit)
def Q1v.W (f:Q1v.T):Q1v.sig.F:=λa x=>f a.1 a.2.1
def Q1v.L0:Shape U:=⟨42,13,[(0,.val (.isl .u8)),(6,.val (.isl .u8)),(19,.val (.isl .QW)),(20,vi_),(21,vi_)],[]⟩
def Q1v.X0:Ql U:= [(.exit 0,⟨42,13,[(6,.val (.isl .u8))],[]⟩),
 (.ret,⟨42,13,[(4,.val (.isl .u8)),(5,vb_)],[]⟩)]
abbrev Q1v.l0T:Type:=(((List (UInt8))×(List (UInt8))×(List (Qi))×Int×Int×Unit)×Unit)->Option ((((List (UInt8))×Unit)×Unit)⊕(((List (UInt8))×Bool×Unit)×Unit))
def Q1v.C:Code:=match Tryz.f62.body with|some c=>c|none=>.skip
def Q1v.B0:Code:=match (Z3 Q1v.C).getD 0 .skip with| .loop b=>b| .scope b=>b|_=>.skip
def Q1v.H (cK166:Q2J.T) (cK110:Q3s.T) (l0:Q1v.l0T):Hints U:={ Γ:=(Q3s.N cK110 (Qn 117 (Q2J.sig.native (Q2J.W cK166)) noΓ)),ro:=0,base:=13,loop:=jt_ [(5,(Z9 (0,13) Q1v.L0 Q1v.X0 l0))]}
def Q1v.QU (cK166:Q2J.T) (cK110:Q3s.T) (a:((List (UInt8))×(List (UInt8))×(List (Qi))×Int×Int×Unit)×Unit):Option ((((List (UInt8))×(List (UInt8))×(List (Qi))×Int×Int×Unit)×Unit)⊕((((List (UInt8))×Unit)×Unit)⊕(((List (UInt8))×Bool×Unit)×Unit))):=
 (bif ilt a.1.2.2.2.2.1 a.1.2.2.2.1 then (bif inR a.1.2.2.2.2.1 (List.length a.1.2.2.1) then (Q0 (cK166 (List.getD a.1.2.2.1 (Int.toNat a.1.2.2.2.2.1) Qi.zero)) none λr0=>(bif !r0.1.1 then some (.inr (.inr ((a.1.1,(false,())),()))) else (Q0 (cK110 a.1.2.1 (List.getD a.1.2.2.1 (Int.toNat a.1.2.2.2.2.1) Qi.zero).fType 2) none λr1=>(Q0 (cK110 r1.1.1 (ofN (ByteArray.size (List.getD a.1.2.2.1 (Int.toNat a.1.2.2.2.2.1) Qi.zero).Q2s)) 2) none λr2=>(bif room (List.length r2.1.1+List.length (List.getD a.1.2.2.1 (Int.toNat a.1.2.2.2.2.1) Qi.zero).Q2s.data.toList) 1 then some (.inl ((a.1.1,(r2.1.1++(List.getD a.1.2.2.1 (Int.toNat a.1.2.2.2.2.1) Qi.zero).Q2s.data.toList,(a.1.2.2.1,(a.1.2.2.2.1,(Q4 .i64 a.1.2.2.2.2.1 1,()))))),())) else none))))) else none) else some (.inr (.inl ((a.1.2.1,()),()))))
def Q1v.F0:Q1v.l0T:=λa=>Z8 (1000000+(a.1.1.length+a.1.2.1.length+a.1.2.2.1.length)) (Q1v.QU Q2J Q3s) a
def Q1v.gen (cK166:Q2J.T) (cK110:Q3s.T) (l0:Q1v.l0T):Q1v.T:=λb l=>
 (bif ilt 8 (ofN (List.length l)) then some ((b,(false,())),((),())) else (bif bif le3 (ofN 0) (ofN (List.length b)) (List.length b) then ieq (ofN (List.length b)) (ofN (List.length b)) else false then (Q0 (l0 ((b,List.drop (Int.toNat (ofN 0)) (List.take (Int.toNat (ofN (List.length b))) b),l,ofN (List.length l),(0:Int),()),())) none λr0=>(Q3V r0 (λr1=>some ((r1.1.1,(true,())),((),()))) (λr1=>some (r1.1,((),()))))) else none))
def Q1v:Q1v.T:=Q1v.gen Q2J Q3s Q1v.F0
theorem Q1v.Q26 (cK166:Q2J.T) (cK110:Q3s.T) (l0:Q1v.l0T) (a:Q1v.L0.T):run Tryz.prog (Q1v.H cK166 cK110 l0) 6 (Option (Q1v.L0.T⊕ExT Q1v.X0)) none Q1v.B0 (Q1v.L0.enc a) (Zj (0,13) Q1v.L0 Q1v.X0)=Q1v.QU cK166 cK110 a:=by kernel_rfl
abbrev Q1v.h:=Q1v.H Q2J Q3s Q1v.F0
theorem Q1v.Q1V:LO_ Q1v.h Q1v.B0 (Z9 (0,13) Q1v.L0 Q1v.X0 Q1v.F0):=lk_ (hn_ (Z0 (Z0 Z2 Q2J.ok) Q3s.ok)) (Q1v.Q26 Q2J Q3s Q1v.F0)
theorem Q1v.eq (cK166:Q2J.T) (cK110:Q3s.T) (l0:Q1v.l0T):EqA Q1v.sig (Q1v.H cK166 cK110 l0) Tryz.f62 6 (Q1v.W (Q1v.gen cK166 cK110 l0)):=by intro a x;kernel_rfl
theorem Q1v.loops:Z3 Q1v.C= [(.loop Q1v.B0)]:=by kernel_rfl
theorem Q1v.ok:NK_ 62 Q1v.sig (Q1v.W Q1v):=ok_ Tryz.func62 (Q1v.eq Q2J Q3s Q1v.F0) (hl_ (Z0 (Z0 Z2 Q2J.ok) Q3s.ok) (Z7 (by kernel_rfl) Q1v.Q1V Z5)) Q1v.loops
def K76.sig:Sig U:=⟨[.int .i64],[],0,[.int .i64],false,[]⟩
abbrev K76.T:Type:=(Int)->Option ((Int×Unit)×Unit×Unit)
def K76.W (f:K76.T):K76.sig.F:=λa x=>f a.1
def K76.H:Hints U:={ Γ:=noΓ,ro:=0,base:=13}
def K76.gen:K76.T:=λtyp=>
 (bif ieq typ 0 then some (((0:Int),()),((),())) else (bif ieq typ 1 then some (((1:Int),()),((),())) else (bif ieq typ 8 then some (((2:Int),()),((),())) else (bif ieq typ 9 then some (((3:Int),()),((),())) else (bif ieq typ 13 then some (((4:Int),()),((),())) else some (((5:Int),()),((),())))))))
def K76:K76.T:=K76.gen
theorem K76.ok:NK_ 119 K76.sig (K76.W K76):=ok_ (H:=K76.H) (n:=6) Tryz.func119 (by intro a x;kernel_rfl) (hn_ Z2)
def K75.sig:Sig U:=⟨[.data .Qk,.int .i64],[],0,[.isl .u8,.bool],true,[]⟩
abbrev K75.T:Type:=(Q8)->(Int)->Option (((List (UInt8))×Bool×Unit)×Unit×Unit)
def K75.W (f:K75.T):K75.sig.F:=λa x=>f a.1 a.2.1
def K75.H (cK72:K72.T) (cK77:K77.T) (cK110:Q3s.T) (cK82:K82.T) (cK76:K76.T):Hints U:={ Γ:=(Qn 119 (K76.sig.native (K76.W cK76)) (K82.N cK82 (Q3s.N cK110 (K77.N cK77 (Qn 118 (K72.sig.native (K72.W cK72)) noΓ))))),ro:=0,base:=13,Q1L:=jt_ [(1,[(14,vb_)])]}
def K75.gen (cK72:K72.T) (cK77:K77.T) (cK110:Q3s.T) (cK82:K82.T) (cK76:K76.T):K75.T:=λm length=>
 (Q0 ((Q0 (cK72 m) none λr0=>(bif !r0.1.1 then some (true,()) else (Q0 (cK77 length 34 400) none λr1=>some (!r1.1.1,()))))) none λr2=>(bif r2.1 then some ((Qm UInt8,(false,())),((),())) else (Q0 (cK110 (UInt8.ofNat (Int.toNat (IntKind.wrap .u8 m.fType))::UInt8.ofNat (Int.toNat 18)::Qm UInt8) length 2) none λr3=>(Q0 (cK110 r3.1.1 m.Q1D 1) none λr4=>(Q0 (cK110 r4.1.1 0 1) none λr5=>(Q0 (cK110 r5.1.1 m.Q1X 2) none λr6=>(Q0 (cK110 r6.1.1 m.Q4q 8) none λr7=>(Q0 (cK110 r7.1.1 0 4) none λr8=>(Q0 (cK82 r8.1.1 m.Q1H) none λr9=>(Q0 (cK110 r9.1.1 m.Q2Y 2) none λr10=>(Q0 (cK76 m.fType) none λr11=>(Q0 (cK110 r10.1.1 r11.1.1 1) none λr12=>(Q0 (cK110 r12.1.1 m.Q6g 1) none λr13=>some ((r13.1.1,(true,())),((),())))))))))))))))
def K75:K75.T:=K75.gen K72 K77 Q3s K82 K76
theorem K75.eq (cK72:K72.T) (cK77:K77.T) (cK110:Q3s.T) (cK82:K82.T) (cK76:K76.T):EqA K75.sig (K75.H cK72 cK77 cK110 cK82 cK76) Tryz.f63 6 (K75.W (K75.gen cK72 cK77 cK110 cK82 cK76)):=by intro a x;kernel_rfl
theorem K75.ok:NK_ 63 K75.sig (K75.W K75):=ok_ Tryz.func63 (K75.eq K72 K77 Q3s K82 K76) (hn_ (Z0 (Z0 (Z0 (Z0 (Z0 Z2 K72.ok) K77.ok) Q3s.ok) K82.ok) K76.ok))
def K71.sig:Sig U:=⟨[.data .Qk,.isl .QW],[],0,[.str,.bool],true,[]⟩
abbrev K71.T:Type:=(Q8)->(List (Qi))->Option ((ByteArray×Bool×Unit)×Unit×Unit)
def K71.W (f:K71.T):K71.sig.F:=λa x=>f a.1 a.2.1
def K71.C:Code:=match Tryz.f33.body with|some c=>c|none=>.skip
def K71.B0:Code:=match (Z3 K71.C).getD 0 .skip with| .loop b=>b| .scope b=>b|_=>.skip
def K71.H (cK3:K3.T) (cK175:Q1v.T) (cK75:K75.T):Hints U:={ Γ:=(Qn 63 (K75.sig.native (K75.W cK75)) (Qn 62 (Q1v.sig.native (Q1v.W cK175)) (Qn 61 (K3.sig.native (K3.W cK3)) noΓ))),ro:=0,base:=13,gotos:=3,loop:=λb=>none}
def K71.gen (cK3:K3.T) (cK175:Q1v.T) (cK75:K75.T):K71.T:=λm l=>
 (Q0 (cK3 (Qm UInt8) m) none λr0=>(bif !r0.1.2.1 then some ((ByteArray.mk (List.toArray (Qm UInt8)),(false,())),((),())) else (Q0 (cK175 r0.1.1 l) none λr1=>(bif !r1.1.2.1 then some ((ByteArray.mk (List.toArray (Qm UInt8)),(false,())),((),())) else (Q0 (cK75 m (Q4 .i64 34 (ofN (List.length r1.1.1)))) none λr2=>(bif !r2.1.2.1 then some ((ByteArray.mk (List.toArray (Qm UInt8)),(false,())),((),())) else (bif Nat.ble (ByteArray.size (ByteArray.mk (List.toArray r2.1.1))+ByteArray.size (ByteArray.mk (List.toArray r1.1.1))) 9223372036854775807 then some ((ByteArray.mk (List.toArray r2.1.1)++ByteArray.mk (List.toArray r1.1.1),(true,())),((),())) else none)))))))
def K71:K71.T:=K71.gen K3 Q1v K75
theorem K71.eq (cK3:K3.T) (cK175:Q1v.T) (cK75:K75.T):EqA K71.sig (K71.H cK3 cK175 cK75) Tryz.f33 6 (K71.W (K71.gen cK3 cK175 cK75)):=by intro a x;kernel_rfl
theorem K71.loops:Z3 K71.C= [(.scope K71.B0)]:=by kernel_rfl
theorem K71.ok:NK_ 33 K71.sig (K71.W K71):=ok_ Tryz.func33 (K71.eq K3 Q1v K75) (hl_ (Z0 (Z0 (Z0 Z2 K3.ok) Q1v.ok) K75.ok) (Zt Z5)) K71.loops
def K26.sig:Sig U:=⟨[.ptr,.int .i64,.data .Qk,.isl .QW,.bool],[.obj .Q7],0,[],true,[]⟩
abbrev K26.T:Type:=(Int)->(Q8)->(List (Qi))->(Bool)->(Q1)->Option (Unit×(Q1×Unit)×Unit)
def K26.W (f:K26.T):K26.sig.F:=λa x=>f a.2.1 a.2.2.1 a.2.2.2.1 a.2.2.2.2.1 x.1
abbrev K26.N (c:K26.T):=Qn 80 (K26.sig.native (K26.W c))
def K26.H (cK71:K71.T):Hints U:={ Γ:=(Qn 33 (K71.sig.native (K71.W cK71)) noΓ),ro:=0,base:=14}
def K26.gen (cK71:K71.T):K26.T:=λn m l want h0=>
 (Q0 (cK71 m l) none λr0=>(bif r0.1.2.1 then (bif room (List.length h0.Q2p+List.length (QJ.mk 1 n 0 want m.fType m.Q2Y r0.1.1::Qm QJ)) 64 then some ((),((Q1.Q17 h0 (h0.Q2p++QJ.mk 1 n 0 want m.fType m.Q2Y r0.1.1::Qm QJ),()),())) else none) else some ((),((h0,()),()))))
def K26:K26.T:=K26.gen K71
theorem K26.eq (cK71:K71.T):EqA K26.sig (K26.H cK71) Tryz.f80 6 (K26.W (K26.gen cK71)):=by intro a x;kernel_rfl
theorem K26.ok:NK_ 80 K26.sig (K26.W K26):=ok_ Tryz.func80 (K26.eq K71) (hn_ (Z0 Z2 K71.ok))
def Q3e.sig:Sig U:=⟨[.int .i64],[],0,[.int .i64],false,[]⟩
abbrev Q3e.T:Type:=(Int)->Option ((Int×Unit)×Unit×Unit)
def Q3e.W (f:Q3e.T):Q3e.sig.F:=λa x=>f a.1
def Q3e.H:Hints U:={ Γ:=noΓ,ro:=0,base:=13}
def Q3e.gen:Q3e.T:=λseq=>
 some ((Q57 .i64 (Q4 .i64 (Q57 .i64 seq 65535) 1) 65535,()),((),()))
def Q3e:Q3e.T:=Q3e.gen
theorem Q3e.ok:NK_ 142 Q3e.sig (Q3e.W Q3e):=ok_ (H:=Q3e.H) (n:=6) Tryz.func142 (by intro a x;kernel_rfl) (hn_ Z2)
def Q3T.sig:Sig U:=⟨[.ptr],[.obj .Q11],0,[],true,[]⟩
abbrev Q3T.T:Type:=(Qb)->Option (Unit×(Qb×Unit)×Unit)
def Q3T.W (f:Q3T.T):Q3T.sig.F:=λa x=>f x.1
abbrev Q3T.N (c:Q3T.T):=Qn 98 (Q3T.sig.native (Q3T.W c))
def Q3T.H:Hints U:={ Γ:=noΓ,ro:=0,base:=14}
def Q3T.gen:Q3T.T:=λh0=>
 some ((),((Qb.mk h0.Q5D h0.Q6H 0 0 false false false false z2_ 0,()),()))
def Q3T:Q3T.T:=Q3T.gen
theorem Q3T.ok:NK_ 98 Q3T.sig (Q3T.W Q3T):=ok_ (H:=Q3T.H) (n:=6) Tryz.func98 (by intro a x;kernel_rfl) (hn_ Z2)
def Q3M.sig:Sig U:=⟨[.ptr,.int .i64],[.obj .Q11],0,[.data .Qk],false,[]⟩
abbrev Q3M.T:Type:=(Int)->(Qb)->Option ((Q8×Unit)×(Qb×Unit)×Unit)
def Q3M.W (f:Q3M.T):Q3M.sig.F:=λa x=>f a.2.1 x.1
def Q3M.H (cK121:Q3T.T):Hints U:={ Γ:=(Q3T.N cK121 noΓ),ro:=0,base:=14}
def Q3M.gen (cK121:Q3T.T):Q3M.T:=λseq h0=>
 (Q0 (cK121 h0) none λr0=>some ((Q8.mk 2 r0.2.1.1.Q6H 0 0 r0.2.1.1.Q5D (Q57 .i64 seq 65535) 127 0 z0_ 0 0 z1_ 0 0 0 0 0 0 0,()),((Qb.Qcc (Qb.QbV r0.2.1.1 (Q57 .i64 seq 65535)) true,()),())))
def Q3M:Q3M.T:=Q3M.gen Q3T
theorem Q3M.eq (cK121:Q3T.T):EqA Q3M.sig (Q3M.H cK121) Tryz.f181 6 (Q3M.W (Q3M.gen cK121)):=by intro a x;kernel_rfl
theorem Q3M.ok:NK_ 181 Q3M.sig (Q3M.W Q3M):=ok_ Tryz.func181 (Q3M.eq Q3T) (hn_ (Z0 Z2 Q3T.ok))
def K57.sig:Sig U:=⟨[.ptr,.int .i64,.int .i64],[.obj .Q10],0,[.data .Qk],false,[]⟩
abbrev K57.T:Type:=(Int)->(Int)->(Qg)->Option ((Q8×Unit)×(Qg×Unit)×Unit)
def K57.W (f:K57.T):K57.sig.F:=λa x=>f a.2.1 a.2.2.1 x.1
def K57.H:Hints U:={ Γ:=noΓ,ro:=0,base:=14}
def K57.gen:K57.T:=λseq a_2 h0=>
 some ((Q8.mk 1 h0.Q6H 0 0 h0.Q5D (Q57 .i64 seq 65535) 127 0 z0_ 0 0 z1_ 0 0 0 0 0 0 0,()),((Qg.Q9V h0 (QZ.mk (Q57 .i64 seq 65535) 0 true false),()),()))
def K57:K57.T:=K57.gen
theorem K57.ok:NK_ 182 K57.sig (K57.W K57):=ok_ (H:=K57.H) (n:=6) Tryz.func182 (by intro a x;kernel_rfl) (hn_ Z2)
def K40.sig:Sig U:=⟨[.ptr,.bool],[.obj .QG,Q4R,Q53],0,[.data .Qk],false,[]⟩
abbrev K40.T:Type:=(Bool)->(Q5)->(Fm Qg)->(Fm Qb)->Option ((Q8×Unit)×(Q5×(Fm Qg)×(Fm Qb)×Unit)×Unit)
def K40.W (f:K40.T):K40.sig.F:=λa x=>f a.2.1 x.1 x.2.1 x.2.2.1
def K40.JR2:Ql U:= [(.normal,⟨24,15,[(4,.ptr 14 0 0)],[(13,.obj .QG),(14,.obj .Qk),(7,.Q1R false .Q10),(8,.Q1R false .Q11)]⟩)]
def K40.H (cK123:Q3M.T) (cK57:K57.T):Hints U:={ Γ:=(Qn 182 (K57.sig.native (K57.W cK57)) (Qn 181 (Q3M.sig.native (Q3M.W cK123)) noΓ)),ro:=0,base:=14,Q2B:=jt_ [(2,K40.JR2)]}
def K40.gen (cK123:Q3M.T) (cK57:K57.T):K40.T:=λpeer h0 g7 g8=>
 (bif peer then (Q0 ((Q0 (h0.14) none λr0=>(Q0 (cK123 h0.Q5S (g8.2 r0)) none λr1=>some ((),(h0,(r1.1.1,(g7,((g8.1,Qr g8.2 r0 r1.2.1.1),())))))))) none λr2=>some ((r2.2.2.1,()),((r2.2.1,r2.2.2.2),()))) else (Q0 (h0.13) none λr3=>(Q0 (cK57 h0.Q5S 0 (g7.2 r3)) none λr4=>some (r4.1,((h0,((g7.1,Qr g7.2 r3 r4.2.1.1),(g8,()))),())))))
def K40:K40.T:=K40.gen Q3M K57
theorem K40.eq (cK123:Q3M.T) (cK57:K57.T):EqA K40.sig (K40.H cK123 cK57) Tryz.f143 6 (K40.W (K40.gen cK123 cK57)):=by intro a x;kernel_rfl
theorem K40.ok:NK_ 143 K40.sig (K40.W K40):=ok_ Tryz.func143 (K40.eq Q3M K57) (hn_ (Z0 (Z0 Z2 Q3M.ok) K57.ok))
def K33.sig:Sig U:=⟨[.ptr,.int .i64,.int .i64],[.obj .Q7,Q4R,Q53,.fam 12 (.map true false .Qt .Q1P)],0,[],true,[]⟩
abbrev K33.T:Type:=(Int)->(Int)->(Q1)->(Fm Qg)->(Fm Qb)->(Nat×(Nat->List (Qd×List (Int))))->Option (Unit×(Q1×(Fm Qg)×(Fm Qb)×(Nat×(Nat->List (Qd×List (Int))))×Unit)×Unit)
def K33.W (f:K33.T):K33.sig.F:=λa x=>f a.2.1 a.2.2.1 x.1 x.2.1 x.2.2.1 x.2.2.2.1
def K33.Q5N:Ql U:= [(.normal,⟨179,14,[(0,.ptr 13 0 0),(6,.Q1g 13 23 42 8 0)],(13,.obj .Q7)::Q7b⟩)]
def K33.JR18:Ql U:= [(.normal,⟨179,15,[(0,.ptr 13 0 0),(1,vi_),(6,.Q1g 13 23 42 8 0),(9,.ptr 14 0 0)],(13,.obj .Q7)::(14,.obj .Qk)::Q7b⟩)]
def K33.Q79:Ql U:= [(.normal,⟨179,14,[(0,.ptr 13 0 0),(1,vi_),(6,.Q1g 13 23 42 8 0),(143,vb_)],(13,.obj .Q7)::Q7b⟩)]
def K33.Q7z:Ql U:= [(.normal,⟨179,14,[(0,.ptr 13 0 0),(1,vi_),(6,.Q1g 13 23 42 8 0)],(13,.obj .Q7)::Q7b⟩)]
def K33.JR6:Ql U:= [(.normal,⟨179,15,[(0,.ptr 13 0 0),(1,vi_),(2,vi_),(6,.Q1g 13 23 42 8 0),(7,.ptr 14 0 0)],(13,.obj .Q7)::(14,.obj .Qk)::Q7b⟩)]
def K33.JR5:Ql U:= [(.normal,⟨179,14,[(0,.ptr 13 0 0),(1,vi_),(2,vi_),(6,.Q1g 13 23 42 8 0),(67,vb_)],(13,.obj .Q7)::Q7b⟩)]
def K33.JR3:Ql U:= [(.normal,⟨179,14,[(0,.ptr 13 0 0),(1,vi_),(2,vi_),(6,.Q1g 13 23 42 8 0)],(13,.obj .Q7)::Q7b⟩)]
def K33.JR1:Ql U:= [(.normal,⟨179,14,[(0,.ptr 13 0 0),(1,vi_),(2,vi_),(6,.Q1g 13 23 42 8 0),(23,vb_)],(13,.obj .Q7)::Q7b⟩)]
def K33.JC15:Ql U:= [(.normal,⟨179,14,[(0,.ptr 13 0 0),(1,vi_),(6,.Q1g 13 23 42 8 0),(8,vb_)],(13,.obj .Q7)::Q7b⟩)]
def K33.JC8:Ql U:= [(.normal,⟨179,15,[(0,.ptr 13 0 0),(1,vi_),(6,.Q1g 13 23 42 8 0),(7,.ptr 14 0 0)],(13,.obj .Q7)::(14,.obj .Qk)::Q7b⟩)]
def K33.H (cK32:K32.T) (cK165:Q2H.T) (cK179:Q1E.T) (cK27:K27.T) (cK26:K26.T) (cK147:Q3e.T) (cK11:K11.T) (cK163:Q37.T) (cK30:K30.T) (cK161:Q2K.T) (cK131:Q3J.T) (cK129:Q4c.T) (cK40:K40.T):Hints U:={ Γ:=(Qn 143 (K40.sig.native (K40.W cK40)) (Q4c.N cK129 (Q3J.N cK131 (Qn 132 (Q2K.sig.native (Q2K.W cK161)) (K30.N cK30 (Q37.N cK163 (K11.N cK11 (Qn 142 (Q3e.sig.native (Q3e.W cK147)) (K26.N cK26 (Qn 141 (K27.sig.native (K27.W cK27)) (Qn 140 (Q1E.sig.native (Q1E.W cK179)) (Qn 130 (Q2H.sig.native (Q2H.W cK165)) (K32.N cK32 noΓ))))))))))))),ro:=0,base:=14,Q2B:=jt_ [(1,K33.JR1),(2,K33.JR3),(3,K33.JR3),(5,K33.JR5),(6,K33.JR6),(10,K33.Q7z),(11,K33.Q7z),(16,K33.Q79),(17,K33.JR18),(18,K33.JR18),(19,K33.Q5N),(20,K33.Q5N)],Q23:=jt_ [(2,K33.JR3),(6,K33.Q7z),(8,K33.JC8),(15,K33.JC15)]}
def K33.gen (cK32:K32.T) (cK165:Q2H.T) (cK179:Q1E.T) (cK27:K27.T) (cK26:K26.T) (cK147:Q3e.T) (cK11:K11.T) (cK163:Q37.T) (cK30:K30.T) (cK161:Q2K.T) (cK131:Q3J.T) (cK129:Q4c.T) (cK40:K40.T):K33.T:=λn now h0 g7 g8 g12=>
 (Q0 (cK32 n h0) none λr0=>(Q0 ((bif ieq (h0.Qf r0.1.1).Q1w 6 then (Q0 (cK165 (h0.Qf r0.1.1).Q4J) none λr1=>some ((n,(now,(r0.1.1,r1.1))),(Q1.QT h0 (Qr h0.Qf r0.1.1 (Q5.Q5a (h0.Qf r0.1.1) r1.2.1.1)),(g7,(g8,(g12,())))))) else some ((n,(now,(r0.1.1,(false,())))),(h0,(g7,(g8,(g12,()))))))) none λr2=>(Q0 ((bif r2.1.2.2.2.1 then (Q0 ((Q0 (cK179 r2.2.1.Qs r2.2.1.Q2b r2.1.1 (r2.2.1.Qf r2.1.2.2.1).Q6a) none λr3=>(Q0 (cK27 r2.2.1 r2.2.2.2.2.1) none λr4=>(Q0 (cK26 r2.1.1 r3.1.1 r4.1.1 false r2.2.1) none λr5=>some ((r2.1.1,(r2.1.2.1,(r2.1.2.2.1,()))),(r5.2.1.1,r2.2.2)))))) none λr6=>(Q0 ((Q0 (cK147 (r6.2.1.Qf r6.1.2.2.1).Q6a) none λr7=>some (r6.1,(Q1.QT r6.2.1 (Qr r6.2.1.Qf r6.1.2.2.1 (Q5.Q98 (r6.2.1.Qf r6.1.2.2.1) r7.1.1)),r6.2.2)))) none λr8=>(Q0 (cK11 r8.2.1) none λr9=>(Q0 (cK163 r9.1.1 (r8.2.1.Qf r8.1.2.2.1).Q4J) none λr10=>some (r8.1,(Q1.QT r8.2.1 (Qr r8.2.1.Qf r8.1.2.2.1 (Q5.Q5a (r8.2.1.Qf r8.1.2.2.1) r10.2.1.1)),r8.2.2)))))) else some ((r2.1.1,(r2.1.2.1,(r2.1.2.2.1,()))),r2.2))) none λr11=>(Q0 ((bif ieq (r11.2.1.Qf r11.1.2.2.1).Q1w 6 then (Q0 (cK165 (r11.2.1.Qf r11.1.2.2.1).fsync) none λr12=>some ((r11.1.1,(r11.1.2.1,(r11.1.2.2.1,r12.1))),(Q1.QT r11.2.1 (Qr r11.2.1.Qf r11.1.2.2.1 (Q5.Q6w (r11.2.1.Qf r11.1.2.2.1) r12.2.1.1)),r11.2.2))) else some ((r11.1.1,(r11.1.2.1,(r11.1.2.2.1,(false,())))),r11.2))) none λr13=>(Q0 ((bif r13.1.2.2.2.1 then (Q0 ((Q0 (cK30 r13.1.1 r13.2.1) none λr14=>some ((r13.1.1,(r13.1.2.1,(r13.1.2.2.1,()))),(r13.2.1,(Q8.mk 0 r13.2.1.Qs.Q1D 0 0 r14.1.1 (r13.2.1.Qf r13.1.2.2.1).Q7Z r13.2.1.Qs.Q3h 0 z0_ 0 0 z1_ 0 0 0 0 0 0 0,r13.2.2))))) none λr15=>(Q0 ((bif r15.2.1.Qs.Q4S then some ((r15.1.1,r15.1.2.2),(r15.2.1,(Q8.Q7x r15.2.2.1 r15.1.2.1,r15.2.2.2))) else some ((r15.1.1,r15.1.2.2),(r15.2.1,(Q8.Qaj r15.2.2.1 512,r15.2.2.2))))) none λr16=>(Q0 ((Q0 (cK26 r16.1.1 r16.2.2.1 (Qm Qi) (!r16.2.1.Qs.Q4S) r16.2.1) none λr17=>some (r16.1,(r17.2.1.1,r16.2.2.2)))) none λr18=>(Q0 ((Q0 (cK147 (r18.2.1.Qf r18.1.2.1).Q7Z) none λr19=>some (r18.1,(Q1.QT r18.2.1 (Qr r18.2.1.Qf r18.1.2.1 (Q5.Qay (r18.2.1.Qf r18.1.2.1) r19.1.1)),r18.2.2)))) none λr20=>(Q0 (cK161 r20.2.1.Qs.Q3h) none λr21=>(Q0 (cK163 r21.1.1 (r20.2.1.Qf r20.1.2.1).fsync) none λr22=>some (r20.1,(Q1.QT r20.2.1 (Qr r20.2.1.Qf r20.1.2.1 (Q5.Q6w (r20.2.1.Qf r20.1.2.1) r22.2.1.1)),r20.2.2)))))))) else some ((r13.1.1,(r13.1.2.2.1,())),r13.2))) none λr23=>(Q0 (cK131 (r23.2.1.Qf r23.1.2.1).Q1w) none λr24=>(Q0 ((bif r23.2.1.Qs.Q4r then (Q0 (cK129 (r23.2.1.Qf r23.1.2.1).Q1w) none λr25=>some ((r23.1.1,(r23.1.2.1,r25.1)),r23.2)) else some ((r23.1.1,(r23.1.2.1,r24.1)),r23.2))) none λr26=>(Q0 ((bif r26.1.2.2.1 then (Q0 (cK165 (r26.2.1.Qf r26.1.2.1).Q6R) none λr27=>some ((r26.1.1,(r26.1.2.1,r27.1)),(Q1.QT r26.2.1 (Qr r26.2.1.Qf r26.1.2.1 (Q5.Q6i (r26.2.1.Qf r26.1.2.1) r27.2.1.1)),r26.2.2))) else some ((r26.1.1,(r26.1.2.1,(false,()))),r26.2))) none λr28=>(bif r28.1.2.2.1 then (Q0 ((Q0 (cK40 r28.2.1.Qs.Q4r (r28.2.1.Qf r28.1.2.1) r28.2.2.1 r28.2.2.2.1) none λr29=>some ((r28.1.1,(r28.1.2.1,())),(Q1.QT r28.2.1 (Qr r28.2.1.Qf r28.1.2.1 r29.2.1.1),(r29.1.1,(r29.2.1.2.1,(r29.2.1.2.2.1,r28.2.2.2.2))))))) none λr30=>(Q0 ((Q0 (cK26 r30.1.1 (Q8.Q78 r30.2.2.1 r30.2.1.Qs.Q1D) (Qm Qi) true r30.2.1) none λr31=>some (r30.1.2,(r31.2.1.1,r30.2.2.2)))) none λr32=>(Q0 ((Q0 (cK147 (r32.2.1.Qf r32.1.1).Q5S) none λr33=>some (r32.1,(Q1.QT r32.2.1 (Qr r32.2.1.Qf r32.1.1 (Q5.Q9l (r32.2.1.Qf r32.1.1) r33.1.1)),r32.2.2)))) none λr34=>(Q0 (cK161 r34.2.1.Qs.Q3l) none λr35=>(Q0 (cK163 r35.1.1 (r34.2.1.Qf r34.1.1).Q6R) none λr36=>some ((),((Q1.QT r34.2.1 (Qr r34.2.1.Qf r34.1.1 (Q5.Q6i (r34.2.1.Qf r34.1.1) r36.2.1.1)),r34.2.2),()))))))) else some ((),(r28.2,())))))))))))
def K33:K33.T:=K33.gen K32 Q2H Q1E K27 K26 Q3e K11 Q37 K30 Q2K Q3J Q4c K40
theorem K33.eq (cK32:K32.T) (cK165:Q2H.T) (cK179:Q1E.T) (cK27:K27.T) (cK26:K26.T) (cK147:Q3e.T) (cK11:K11.T) (cK163:Q37.T) (cK30:K30.T) (cK161:Q2K.T) (cK131:Q3J.T) (cK129:Q4c.T) (cK40:K40.T):EqA K33.sig (K33.H cK32 cK165 cK179 cK27 cK26 cK147 cK11 cK163 cK30 cK161 cK131 cK129 cK40) Tryz.f72 6 (K33.W (K33.gen cK32 cK165 cK179 cK27 cK26 cK147 cK11 cK163 cK30 cK161 cK131 cK129 cK40)):=by intro a x;kernel_rfl
theorem K33.ok:NK_ 72 K33.sig (K33.W K33):=ok_ Tryz.func72 (K33.eq K32 Q2H Q1E K27 K26 Q3e K11 Q37 K30 Q2K Q3J Q4c K40) (hn_ (Z0 (Z0 (Z0 (Z0 (Z0 (Z0 (Z0 (Z0 (Z0 (Z0 (Z0 (Z0 (Z0 Z2 K32.ok) Q2H.ok) Q1E.ok) K27.ok) K26.ok) Q3e.ok) K11.ok) Q37.ok) K30.ok) Q2K.ok) Q3J.ok) Q4c.ok) K40.ok))
def K34.sig:Sig U:=⟨[.ptr,.int .i64],[.obj .Q7,Q5c,Q4R,Q53,Q5y,Q4N,.fam 12 (.map true false .Qt .Q1P)],0,[],true,[]⟩
abbrev K34.T:Type:=(Int)->(Q1)->(Fm Qe)->(Fm Qg)->(Fm Qb)->(Fm Qh)->(Fm Qz)->(Nat×(Nat->List (Qd×List (Int))))->Option (Unit×(Q1×Q6O)×Unit)
def K34.W (f:K34.T):K34.sig.F:=λa x=>f a.2.1 x.1 x.2.1 x.2.2.1 x.2.2.2.1 x.2.2.2.2.1 x.2.2.2.2.2.1 x.2.2.2.2.2.2.1
def K34.L0:Shape U:=⟨52,14,[(0,.ptr 13 0 0),(1,vi_),(4,vi_)],(13,.obj .Q7)::Q8A⟩
def K34.X0:Ql U:= [(.exit 0,⟨52,14,[(0,.ptr 13 0 0),(1,vi_)],(13,.obj .Q7)::Q8A⟩)]
abbrev K34.l0T:Type:=((Int×Int×Unit)×(Q1×Q6O))->Option (((Int×Unit)×(Q1×Q6O)))
def K34.L1:Shape U:=⟨52,14,[(0,.ptr 13 0 0),(1,vi_),(5,vi_)],(13,.obj .Q7)::Q8A⟩
def K34.X1:Ql U:= [(.exit 2,⟨52,14,[],(13,.obj .Q7)::Q8A⟩)]
abbrev K34.l1T:Type:=((Int×Int×Unit)×(Q1×Q6O))->Option ((Unit×(Q1×Q6O)))
def K34.C:Code:=match Tryz.f44.body with|some c=>c|none=>.skip
def K34.B0:Code:=match (Z3 K34.C).getD 0 .skip with| .loop b=>b| .scope b=>b|_=>.skip
def K34.B1:Code:=match (Z3 K34.C).getD 1 .skip with| .loop b=>b| .scope b=>b|_=>.skip
def K34.Q8i:Ql U:= [(.normal,⟨52,14,[(0,.ptr 13 0 0),(1,vi_),(5,vi_)],(13,.obj .Q7)::Q8A⟩)]
def K34.JR4:Ql U:= [(.normal,⟨52,14,[(0,.ptr 13 0 0),(1,vi_),(4,vi_)],(13,.obj .Q7)::Q8A⟩)]
def K34.JR0:Ql U:= [(.normal,⟨52,14,[(0,.ptr 13 0 0),(1,vi_)],(13,.obj .Q7)::Q8A⟩)]
def K34.H (cK32:K32.T) (cK17:K17.T) (cK11:K11.T) (cK18:K18.T) (cK33:K33.T) (l0:K34.l0T) (l1:K34.l1T):Hints U:={ Γ:=(Qn 72 (K33.sig.native (K33.W cK33)) (Qn 71 (K18.sig.native (K18.W cK18)) (K11.N cK11 (Qn 69 (K17.sig.native (K17.W cK17)) (K32.N cK32 noΓ))))),ro:=0,base:=14,Q2B:=jt_ [(0,K34.JR0),(4,K34.JR4),(10,K34.Q8i)],Q23:=jt_ [(6,K34.JR0)],loop:=jt_ [(2,(Z9 (0,14) K34.L0 K34.X0 l0)),(8,(Z9 (0,14) K34.L1 K34.X1 l1))]}
def K34.Q2x (cK32:K32.T) (cK17:K17.T) (cK11:K11.T) (cK18:K18.T) (cK33:K33.T) (a:(Int×Int×Unit)×(Q1×Q6O)):Option (((Int×Int×Unit)×(Q1×Q6O))⊕((Unit×(Q1×Q6O)))):=
 (bif ile a.1.2.1 a.2.1.Qs.QB then (Q0 ((Q0 (cK33 a.1.2.1 a.1.1 a.2.1 a.2.2.2.1 a.2.2.2.2.1 a.2.2.2.2.2.2.2.1) none λr0=>some (a.1,(r0.2.1.1,(a.2.2.1,(r0.2.1.2.1,(r0.2.1.2.2.1,(a.2.2.2.2.2.1,(a.2.2.2.2.2.2.1,r0.2.1.2.2.2))))))))) none λr1=>some (.inl ((r1.1.1,(Q4 .i64 r1.1.2.1 1,())),r1.2))) else some (.inr ((),a.2)))
def K34.F1:K34.l1T:=λa=>Z8 (1000000) (K34.Q2x K32 K17 K11 K18 K33) a
def K34.QU (cK32:K32.T) (cK17:K17.T) (cK11:K11.T) (cK18:K18.T) (cK33:K33.T) (a:(Int×Int×Unit)×(Q1×Q6O)):Option (((Int×Int×Unit)×(Q1×Q6O))⊕(((Int×Unit)×(Q1×Q6O)))):=
 (bif ile a.1.2.1 a.2.1.Qs.QB then (Q0 ((Q0 (cK32 a.1.2.1 a.2.1) none λr0=>(Q0 (cK17 r0.1.1 a.2.1 a.2.2.1 a.2.2.2.2.2.2.2.1) none λr1=>some (a.1,(r1.2.1.1,(r1.2.1.2.1,(a.2.2.2.1,(a.2.2.2.2.1,(a.2.2.2.2.2.1,(a.2.2.2.2.2.2.1,r1.2.1.2.2)))))))))) none λr2=>some (.inl ((r2.1.1,(Q4 .i64 r2.1.2.1 1,())),r2.2))) else some (.inr ((a.1.1,()),a.2)))
def K34.F0:K34.l0T:=λa=>Z8 (1000000) (K34.QU K32 K17 K11 K18 K33) a
def K34.gen (cK32:K32.T) (cK17:K17.T) (cK11:K11.T) (cK18:K18.T) (cK33:K33.T) (l0:K34.l0T) (l1:K34.l1T):K34.T:=λnow h0 g6 g7 g8 g9 g10 g12=>
 (Q0 (l0 ((now,(1:Int),()),Q1.Q8L h0 (Z4 false (Q4 .i64 h0.Q5k 1) 1099511627776),g6,g7,g8,g9,g10,g12,())) none λr0=>(Q0 (cK11 r0.2.1) none λr1=>(bif ine r1.1.1 0 then (Q0 ((bif ieq (Q5z r0.2.1.Q5k r1.1.1) 0 then (Q0 (cK18 r0.2.1 r0.2.2.1 r0.2.2.2.1 r0.2.2.2.2.2.1 r0.2.2.2.2.2.2.1) none λr2=>some (r0.1,(r2.2.1.1,(r2.2.1.2.1,(r2.2.1.2.2.1,(r0.2.2.2.2.1,(r2.2.1.2.2.2.1,(r2.2.1.2.2.2.2.1,r0.2.2.2.2.2.2.2)))))))) else some r0)) none λr3=>(Q0 (l1 ((r3.1.1,(1:Int),()),r3.2)) none λr4=>some ((),(r4.2,())))) else none)))
def K34:K34.T:=K34.gen K32 K17 K11 K18 K33 K34.F0 K34.F1
theorem K34.seq1 (cK32:K32.T) (cK17:K17.T) (cK11:K11.T) (cK18:K18.T) (cK33:K33.T) (l0:K34.l0T) (l1:K34.l1T) (a:K34.L1.T):run Tryz.prog (K34.H cK32 cK17 cK11 cK18 cK33 l0 l1) 6 (Option (K34.L1.T⊕ExT K34.X1)) none K34.B1 (K34.L1.enc a) (Zj (0,14) K34.L1 K34.X1)=K34.Q2x cK32 cK17 cK11 cK18 cK33 a:=by kernel_rfl
abbrev K34.h:=K34.H K32 K17 K11 K18 K33 K34.F0 K34.F1
theorem K34.Q4T:LO_ K34.h K34.B1 (Z9 (0,14) K34.L1 K34.X1 K34.F1):=lk_ (hn_ (Z0 (Z0 (Z0 (Z0 (Z0 Z2 K32.ok) K17.ok) K11.ok) K18.ok) K33.ok)) (K34.seq1 K32 K17 K11 K18 K33 K34.F0 K34.F1)
theorem K34.Q26 (cK32:K32.T) (cK17:K17.T) (cK11:K11.T) (cK18:K18.T) (cK33:K33.T) (l0:K34.l0T) (l1:K34.l1T) (a:K34.L0.T):run Tryz.prog (K34.H cK32 cK17 cK11 cK18 cK33 l0 l1) 6 (Option (K34.L0.T⊕ExT K34.X0)) none K34.B0 (K34.L0.enc a) (Zj (0,14) K34.L0 K34.X0)=K34.QU cK32 cK17 cK11 cK18 cK33 a:=by kernel_rfl
theorem K34.Q1V:LO_ K34.h K34.B0 (Z9 (0,14) K34.L0 K34.X0 K34.F0):=lk_ (hn_ (Z0 (Z0 (Z0 (Z0 (Z0 Z2 K32.ok) K17.ok) K11.ok) K18.ok) K33.ok)) (K34.Q26 K32 K17 K11 K18 K33 K34.F0 K34.F1)
theorem K34.eq (cK32:K32.T) (cK17:K17.T) (cK11:K11.T) (cK18:K18.T) (cK33:K33.T) (l0:K34.l0T) (l1:K34.l1T):EqA K34.sig (K34.H cK32 cK17 cK11 cK18 cK33 l0 l1) Tryz.f44 6 (K34.W (K34.gen cK32 cK17 cK11 cK18 cK33 l0 l1)):=by intro a x;kernel_rfl
theorem K34.loops:Z3 K34.C= [(.loop K34.B0),(.loop K34.B1)]:=by kernel_rfl
theorem K34.ok:NK_ 44 K34.sig (K34.W K34):=ok_ Tryz.func44 (K34.eq K32 K17 K11 K18 K33 K34.F0 K34.F1) (hl_ (Z0 (Z0 (Z0 (Z0 (Z0 Z2 K32.ok) K17.ok) K11.ok) K18.ok) K33.ok) (Z7 (by kernel_rfl) K34.Q1V (Z7 (by kernel_rfl) K34.Q4T Z5))) K34.loops
def Q2a.sig:Sig U:=⟨[.isl .u8,.int .i64,.int .i64],[],0,[.bool],false,[]⟩
abbrev Q2a.T:Type:=(List (UInt8))->(Int)->(Int)->Option ((Bool×Unit)×Unit×Unit)
def Q2a.W (f:Q2a.T):Q2a.sig.F:=λa x=>f a.1 a.2.1 a.2.2.1
def Q2a.H:Hints U:={ Γ:=noΓ,ro:=0,base:=13}
def Q2a.gen:Q2a.T:=λb at_1 n=>
 (bif ilt n 0 then some ((true,()),((),())) else (bif ilt at_1 0 then some ((true,()),((),())) else (bif ilt (ofN (List.length b)) at_1 then some ((true,()),((),())) else some ((ilt (Q1s .i64 (ofN (List.length b)) at_1) n,()),((),())))))
def Q2a:Q2a.T:=Q2a.gen
theorem Q2a.ok:NK_ 167 Q2a.sig (Q2a.W Q2a):=ok_ (H:=Q2a.H) (n:=6) Tryz.func167 (by intro a x;kernel_rfl) (hn_ Z2)
def QD.sig:Sig U:=⟨[.isl .u8],[],0,[.int .u64],false,[]⟩
abbrev QD.T:Type:=(List (UInt8))->Option ((Int×Unit)×Unit×Unit)
def QD.W (f:QD.T):QD.sig.F:=λa x=>f a.1
def QD.L0:Shape U:=⟨19,13,[(3,.val (.int .u64)),(6,.val (.isl .u8)),(7,vi_),(8,vi_)],[]⟩
def QD.X0:Ql U:= [(.exit 0,⟨19,13,[(3,.val (.int .u64))],[]⟩)]
abbrev QD.l0T:Type:=((Int×(List (UInt8))×Int×Int×Unit)×Unit)->Option (((Int×Unit)×Unit))
def QD.C:Code:=match Tryz.f168.body with|some c=>c|none=>.skip
def QD.B0:Code:=match (Z3 QD.C).getD 0 .skip with| .loop b=>b| .scope b=>b|_=>.skip
def QD.H (l0:QD.l0T):Hints U:={ Γ:=noΓ,ro:=0,base:=13,loop:=jt_ [(3,(Z9 (0,13) QD.L0 QD.X0 l0))]}
def QD.QU (a:(Int×(List (UInt8))×Int×Int×Unit)×Unit):Option (((Int×(List (UInt8))×Int×Int×Unit)×Unit)⊕(((Int×Unit)×Unit))):=
 (bif ilt a.1.2.2.2.1 a.1.2.2.1 then (bif inR a.1.2.2.2.1 (List.length a.1.2.1) then some (.inl ((ior .u64 (Q8v .u64 a.1.1 8) (IntKind.wrap .u64 (ofN (UInt8.toNat (List.getD a.1.2.1 (Int.toNat a.1.2.2.2.1) (0:D UC.u8))))),(a.1.2.1,(a.1.2.2.1,(Q4 .i64 a.1.2.2.2.1 1,())))),())) else none) else some (.inr ((a.1.1,()),())))
def QD.F0:QD.l0T:=λa=>Z8 (1000000+(a.1.2.1.length)) (QD.QU) a
def QD.gen (l0:QD.l0T):QD.T:=λb=>
 (Q0 (l0 (((0:Int),b,ofN (List.length b),(0:Int),()),())) none λr0=>some (r0.1,((),())))
def QD:QD.T:=QD.gen QD.F0
theorem QD.Q26 (l0:QD.l0T) (a:QD.L0.T):run Tryz.prog (QD.H l0) 6 (Option (QD.L0.T⊕ExT QD.X0)) none QD.B0 (QD.L0.enc a) (Zj (0,13) QD.L0 QD.X0)=QD.QU a:=by kernel_rfl
abbrev QD.h:=QD.H QD.F0
theorem QD.Q1V:LO_ QD.h QD.B0 (Z9 (0,13) QD.L0 QD.X0 QD.F0):=lk_ (hn_ Z2) (QD.Q26 QD.F0)
theorem QD.eq (l0:QD.l0T):EqA QD.sig (QD.H l0) Tryz.f168 6 (QD.W (QD.gen l0)):=by intro a x;kernel_rfl
theorem QD.loops:Z3 QD.C= [(.loop QD.B0)]:=by kernel_rfl
theorem QD.ok:NK_ 168 QD.sig (QD.W QD):=ok_ Tryz.func168 (QD.eq QD.F0) (hl_ Z2 (Z7 (by kernel_rfl) QD.Q1V Z5)) QD.loops
def Q41.sig:Sig U:=⟨[.isl .u8,.int .i64,.int .i64],[],0,[.int .i64,.bool],true,[]⟩
abbrev Q41.T:Type:=(List (UInt8))->(Int)->(Int)->Option ((Int×Bool×Unit)×Unit×Unit)
def Q41.W (f:Q41.T):Q41.sig.F:=λa x=>f a.1 a.2.1 a.2.2.1
abbrev Q41.N (c:Q41.T):=Qn 101 (Q41.sig.native (Q41.W c))
def Q41.H (cK113:Q2a.T) (cK114:QD.T):Hints U:={ Γ:=(Qn 168 (QD.sig.native (QD.W cK114)) (Qn 167 (Q2a.sig.native (Q2a.W cK113)) noΓ)),ro:=0,base:=13,Q1L:=jt_ [(1,[(19,vb_)])]}
def Q41.gen (cK113:Q2a.T) (cK114:QD.T):Q41.T:=λb at_1 n=>
 (Q0 ((bif ilt n 1 then some (true,()) else (bif ilt 7 n then some (true,()) else (Q0 (cK113 b at_1 n) none λr0=>some r0.1)))) none λr1=>(bif r1.1 then some (((0:Int),(false,())),((),())) else (bif le3 at_1 (Q4 .i64 at_1 n) (List.length b) then (Q0 (cK114 (List.drop (Int.toNat at_1) (List.take (Int.toNat (Q4 .i64 at_1 n)) b))) none λr2=>some ((IntKind.wrap .i64 r2.1.1,(true,())),((),()))) else none)))
def Q41:Q41.T:=Q41.gen Q2a QD
theorem Q41.eq (cK113:Q2a.T) (cK114:QD.T):EqA Q41.sig (Q41.H cK113 cK114) Tryz.f101 6 (Q41.W (Q41.gen cK113 cK114)):=by intro a x;kernel_rfl
theorem Q41.ok:NK_ 101 Q41.sig (Q41.W Q41):=ok_ Tryz.func101 (Q41.eq Q2a QD) (hn_ (Z0 (Z0 Z2 Q2a.ok) QD.ok))
def Q1o.sig:Sig U:=⟨[.isl .u8,.int .i64,.int .i64],[],0,[.int .i64,.bool],true,[]⟩
abbrev Q1o.T:Type:=(List (UInt8))->(Int)->(Int)->Option ((Int×Bool×Unit)×Unit×Unit)
def Q1o.W (f:Q1o.T):Q1o.sig.F:=λa x=>f a.1 a.2.1 a.2.2.1
abbrev Q1o.N (c:Q1o.T):=Qn 104 (Q1o.sig.native (Q1o.W c))
def Q1o.H (cK113:Q2a.T) (cK114:QD.T):Hints U:={ Γ:=(Qn 168 (QD.sig.native (QD.W cK114)) (Qn 167 (Q2a.sig.native (Q2a.W cK113)) noΓ)),ro:=0,base:=13,Q1L:=jt_ [(1,[(20,vb_)])]}
def Q1o.gen (cK113:Q2a.T) (cK114:QD.T):Q1o.T:=λb at_1 n=>
 (Q0 ((bif ilt n 1 then some (true,()) else (bif ilt 8 n then some (true,()) else (Q0 (cK113 b at_1 n) none λr0=>some r0.1)))) none λr1=>(bif r1.1 then some (((0:Int),(false,())),((),())) else (bif le3 at_1 (Q4 .i64 at_1 n) (List.length b) then (Q0 (cK114 (List.drop (Int.toNat at_1) (List.take (Int.toNat (Q4 .i64 at_1 n)) b))) none λr2=>(bif ile 0 (Q1s .i64 64 (Q3n .i64 8 n)) then (bif ile 0 (Q1s .i64 64 (Q3n .i64 8 n)) then some ((Q5I .i64 (IntKind.wrap .i64 (Q8v .u64 r2.1.1 (Q1s .i64 64 (Q3n .i64 8 n)))) (Q1s .i64 64 (Q3n .i64 8 n)),(true,())),((),())) else none) else none)) else none)))
def Q1o:Q1o.T:=Q1o.gen Q2a QD
theorem Q1o.eq (cK113:Q2a.T) (cK114:QD.T):EqA Q1o.sig (Q1o.H cK113 cK114) Tryz.f104 6 (Q1o.W (Q1o.gen cK113 cK114)):=by intro a x;kernel_rfl
theorem Q1o.ok:NK_ 104 Q1o.sig (Q1o.W Q1o):=ok_ Tryz.func104 (Q1o.eq Q2a QD) (hn_ (Z0 (Z0 Z2 Q2a.ok) QD.ok))
def Q3K.sig:Sig U:=⟨[.isl .u8,.int .i64],[],0,[.int .u64,.bool],true,[]⟩
abbrev Q3K.T:Type:=(List (UInt8))->(Int)->Option ((Int×Bool×Unit)×Unit×Unit)
def Q3K.W (f:Q3K.T):Q3K.sig.F:=λa x=>f a.1 a.2.1
abbrev Q3K.N (c:Q3K.T):=Qn 111 (Q3K.sig.native (Q3K.W c))
def Q3K.H (cK112:Q1o.T):Hints U:={ Γ:=(Q1o.N cK112 noΓ),ro:=0,base:=13}
def Q3K.gen (cK112:Q1o.T):Q3K.T:=λb at_1=>
 (Q0 (cK112 b at_1 8) none λr0=>some ((IntKind.wrap .u64 r0.1.1,r0.1.2),((),())))
def Q3K:Q3K.T:=Q3K.gen Q1o
theorem Q3K.eq (cK112:Q1o.T):EqA Q3K.sig (Q3K.H cK112) Tryz.f111 6 (Q3K.W (Q3K.gen cK112)):=by intro a x;kernel_rfl
theorem Q3K.ok:NK_ 111 Q3K.sig (Q3K.W Q3K):=ok_ Tryz.func111 (Q3K.eq Q1o) (hn_ (Z0 Z2 Q1o.ok))
def K79.sig:Sig U:=⟨[.isl .u8,.int .i64],[],0,[.data .Qt,.bool],true,[]⟩
abbrev K79.T:Type:=(List (UInt8))->(Int)->Option ((Qd×Bool×Unit)×Unit×Unit)
def K79.W (f:K79.T):K79.sig.F:=λa x=>f a.1 a.2.1
def K79.H (cK109:Q3K.T) (cK108:Q41.T):Hints U:={ Γ:=(Q41.N cK108 (Q3K.N cK109 noΓ)),ro:=0,base:=13,Q1L:=jt_ [(1,[(24,vb_)])]}
def K79.gen (cK109:Q3K.T) (cK108:Q41.T):K79.T:=λb at_1=>
 (Q0 ((bif ilt at_1 0 then some (true,()) else (bif ilt (ofN (List.length b)) at_1 then some (true,()) else some (ilt (Q1s .i64 (ofN (List.length b)) at_1) 10,())))) none λr0=>(bif r0.1 then some ((Qd.mk 0 0,(false,())),((),())) else (Q0 (cK109 b at_1) none λr1=>(Q0 (cK108 b (Q4 .i64 at_1 8) 2) none λr2=>some ((Qd.mk r1.1.1 r2.1.1,(true,())),((),()))))))
def K79:K79.T:=K79.gen Q3K Q41
theorem K79.eq (cK109:Q3K.T) (cK108:Q41.T):EqA K79.sig (K79.H cK109 cK108) Tryz.f105 6 (K79.W (K79.gen cK109 cK108)):=by intro a x;kernel_rfl
theorem K79.ok:NK_ 105 K79.sig (K79.W K79):=ok_ Tryz.func105 (K79.eq Q3K Q41) (hn_ (Z0 (Z0 Z2 Q3K.ok) Q41.ok))
def K73.sig:Sig U:=⟨[.isl .u8],[],0,[.data .Qk,.int .i64,.int .i64],true,[]⟩
abbrev K73.T:Type:=(List (UInt8))->Option ((Q8×Int×Int×Unit)×Unit×Unit)
def K73.W (f:K73.T):K73.sig.F:=λa x=>f a.1
def K73.H (cK108:Q41.T) (cK74:K74.T) (cK77:K77.T) (cK112:Q1o.T) (cK79:K79.T):Hints U:={ Γ:=(Qn 105 (K79.sig.native (K79.W cK79)) (Q1o.N cK112 (K77.N cK77 (Qn 102 (K74.sig.native (K74.W cK74)) (Q41.N cK108 noΓ))))),ro:=0,base:=13,Q1L:=jt_ [(4,[(17,vb_)])]}
def K73.gen (cK108:Q41.T) (cK74:K74.T) (cK77:K77.T) (cK112:Q1o.T) (cK79:K79.T):K73.T:=λb=>
 (bif ilt (ofN (List.length b)) 34 then some ((Q8.mk 0 0 0 0 z0_ 0 0 0 z0_ 0 0 z1_ 0 0 0 0 0 0 0,((0:Int),((2:Int),()))),((),())) else (Q0 (cK108 b 2 2) none λr0=>(Q0 ((bif inR 0 (List.length b) then (Q0 (cK74 (IntKind.wrap .i64 (ofN (UInt8.toNat (List.getD b (Int.toNat 0) (0:D UC.u8)))))) none λr1=>(bif !r1.1.1 then some (true,()) else (bif inR 1 (List.length b) then (bif ine (Q57 .u8 (ofN (UInt8.toNat (List.getD b (Int.toNat 1) (0:D UC.u8)))) 15) 2 then some (true,()) else (Q0 (cK77 r0.1.1 34 400) none λr2=>some (!r2.1.1,()))) else none))) else none)) none λr3=>(bif r3.1 then some ((Q8.mk 0 0 0 0 z0_ 0 0 0 z0_ 0 0 z1_ 0 0 0 0 0 0 0,((0:Int),((4:Int),()))),((),())) else (bif ilt (ofN (List.length b)) r0.1.1 then some ((Q8.mk 0 0 0 0 z0_ 0 0 0 z0_ 0 0 z1_ 0 0 0 0 0 0 0,((0:Int),((2:Int),()))),((),())) else (bif ilt r0.1.1 (ofN (List.length b)) then some ((Q8.mk 0 0 0 0 z0_ 0 0 0 z0_ 0 0 z1_ 0 0 0 0 0 0 0,((0:Int),((3:Int),()))),((),())) else (bif inR 0 (List.length b) then (bif inR 4 (List.length b) then (Q0 (cK108 b 6 2) none λr4=>(Q0 (cK112 b 8 8) none λr5=>(Q0 (cK79 b 20) none λr6=>(Q0 (cK108 b 30 2) none λr7=>(Q0 (cK112 b 33 1) none λr8=>some ((Q8.mk (IntKind.wrap .i64 (ofN (UInt8.toNat (List.getD b (Int.toNat 0) (0:D UC.u8))))) (IntKind.wrap .i64 (ofN (UInt8.toNat (List.getD b (Int.toNat 4) (0:D UC.u8))))) r4.1.1 r5.1.1 r6.1.1 r7.1.1 r8.1.1 0 z0_ 0 0 z1_ 0 0 0 0 0 0 0,(r0.1.1,((0:Int),()))),((),()))))))) else none) else none)))))))
def K73:K73.T:=K73.gen Q41 K74 K77 Q1o K79
theorem K73.eq (cK108:Q41.T) (cK74:K74.T) (cK77:K77.T) (cK112:Q1o.T) (cK79:K79.T):EqA K73.sig (K73.H cK108 cK74 cK77 cK112 cK79) Tryz.f53 6 (K73.W (K73.gen cK108 cK74 cK77 cK112 cK79)):=by intro a x;kernel_rfl
theorem K73.ok:NK_ 53 K73.sig (K73.W K73):=ok_ Tryz.func53 (K73.eq Q41 K74 K77 Q1o K79) (hn_ (Z0 (Z0 (Z0 (Z0 (Z0 Z2 Q41.ok) K74.ok) K77.ok) Q1o.ok) K79.ok))
def K2.sig:Sig U:=⟨[.int .i64],[],0,[.int .i64],false,[]⟩
abbrev K2.T:Type:=(Int)->Option ((Int×Unit)×Unit×Unit)
def K2.W (f:K2.T):K2.sig.F:=λa x=>f a.1
def K2.JC8:Ql U:= [(.normal,⟨18,13,[(3,vi_),(9,vb_)],[]⟩)]
def K2.JC6:Ql U:= [(.normal,⟨18,13,[],[]⟩),
 (.ret,⟨18,13,[(2,vi_)],[]⟩)]
def K2.JC3:Ql U:= [(.normal,⟨18,13,[(3,vi_),(4,vb_)],[]⟩)]
def K2.H:Hints U:={ Γ:=noΓ,ro:=0,base:=13,Q23:=jt_ [(3,K2.JC3),(6,K2.JC6),(8,K2.JC8)]}
def K2.gen:K2.T:=λtyp=>
 (Q0 ((bif ieq typ 0 then some ((typ,(ieq typ 0,())),()) else (bif ieq typ 1 then some ((typ,(ieq typ 1,())),()) else (bif ieq typ 8 then some ((typ,(ieq typ 8,())),()) else some ((typ,(ieq typ 12,())),()))))) none λr0=>(Q0 ((bif r0.1.2.1 then some (.inr (((10:Int),()),())) else (Q0 ((bif ieq r0.1.1 2 then some ((r0.1.1,(ieq r0.1.1 2,())),()) else (bif ieq r0.1.1 3 then some ((r0.1.1,(ieq r0.1.1 3,())),()) else (bif ieq r0.1.1 10 then some ((r0.1.1,(ieq r0.1.1 10,())),()) else some ((r0.1.1,(ieq r0.1.1 9,())),()))))) none λr1=>(bif r1.1.2.1 then some (.inr (((20:Int),()),())) else (bif ieq r1.1.1 11 then some (.inr (((30:Int),()),())) else (bif ieq r1.1.1 13 then some (.inr (((14:Int),()),())) else some (.inl ((),())))))))) none λr2=>(Q3V r2 (λr3=>some (((0:Int),()),((),()))) (λr3=>some (r3.1,((),()))))))
def K2:K2.T:=K2.gen
theorem K2.ok:NK_ 106 K2.sig (K2.W K2):=ok_ (H:=K2.H) (n:=6) Tryz.func106 (by intro a x;kernel_rfl) (hn_ Z2)
def Q2h.sig:Sig U:=⟨[.isl .u8,.int .i64],[],0,[.int .i64,.bool],true,[]⟩
abbrev Q2h.T:Type:=(List (UInt8))->(Int)->Option ((Int×Bool×Unit)×Unit×Unit)
def Q2h.W (f:Q2h.T):Q2h.sig.F:=λa x=>f a.1 a.2.1
def Q2h.H (cK108:Q41.T) (cK158:Q3E.T):Hints U:={ Γ:=(Q3E.N cK158 (Q41.N cK108 noΓ)),ro:=0,base:=13,Q1L:=jt_ [(1,[(24,vb_)]),(5,[(51,vb_)])]}
def Q2h.gen (cK108:Q41.T) (cK158:Q3E.T):Q2h.T:=λb at_1=>
 (Q0 ((bif ilt at_1 0 then some (true,()) else (bif ilt (ofN (List.length b)) at_1 then some (true,()) else some (ilt (Q1s .i64 (ofN (List.length b)) at_1) 10,())))) none λr0=>(bif r0.1 then some (((0:Int),(false,())),((),())) else (Q0 (cK108 b at_1 6) none λr1=>(Q0 (cK108 b (Q4 .i64 at_1 6) 4) none λr2=>(Q0 ((bif ile 1000000000 r2.1.1 then some (true,()) else (bif ilt 4000000 r1.1.1 then some (true,()) else (Q0 (cK158 (Q4 .i64 (Q3n .i64 r1.1.1 1000000000) r2.1.1)) none λr3=>some (!r3.1.1,()))))) none λr4=>(bif r4.1 then some (((0:Int),(false,())),((),())) else some ((Q4 .i64 (Q3n .i64 r1.1.1 1000000000) r2.1.1,(true,())),((),()))))))))
def Q2h:Q2h.T:=Q2h.gen Q41 Q3E
theorem Q2h.eq (cK108:Q41.T) (cK158:Q3E.T):EqA Q2h.sig (Q2h.H cK108 cK158) Tryz.f108 6 (Q2h.W (Q2h.gen cK108 cK158)):=by intro a x;kernel_rfl
theorem Q2h.ok:NK_ 108 Q2h.sig (Q2h.W Q2h):=ok_ Tryz.func108 (Q2h.eq Q41 Q3E) (hn_ (Z0 (Z0 Z2 Q41.ok) Q3E.ok))
def Q1O.sig:Sig U:=⟨[.isl .u8,.int .i64],[],0,[.data .Q2u,.bool],true,[]⟩
abbrev Q1O.T:Type:=(List (UInt8))->(Int)->Option ((Qx×Bool×Unit)×Unit×Unit)
def Q1O.W (f:Q1O.T):Q1O.sig.F:=λa x=>f a.1 a.2.1
def Q1O.H (cK108:Q41.T):Hints U:={ Γ:=(Q41.N cK108 noΓ),ro:=0,base:=13,Q1L:=jt_ [(1,[(21,vb_)])]}
def Q1O.gen (cK108:Q41.T):Q1O.T:=λb at_1=>
 (Q0 ((bif ilt at_1 0 then some (true,()) else (bif ilt (ofN (List.length b)) at_1 then some (true,()) else some (ilt (Q1s .i64 (ofN (List.length b)) at_1) 4,())))) none λr0=>(bif r0.1 then some ((Qx.mk 0 0 0,(false,())),((),())) else (Q0 (cK108 b at_1 1) none λr1=>(Q0 (cK108 b (Q4 .i64 at_1 1) 1) none λr2=>(Q0 (cK108 b (Q4 .i64 at_1 2) 2) none λr3=>some ((Qx.mk r1.1.1 r2.1.1 r3.1.1,(true,())),((),())))))))
def Q1O:Q1O.T:=Q1O.gen Q41
theorem Q1O.eq (cK108:Q41.T):EqA Q1O.sig (Q1O.H cK108) Tryz.f110 6 (Q1O.W (Q1O.gen cK108)):=by intro a x;kernel_rfl
theorem Q1O.ok:NK_ 110 Q1O.sig (Q1O.W Q1O):=ok_ Tryz.func110 (Q1O.eq Q41) (hn_ (Z0 Z2 Q41.ok))
def K1.sig:Sig U:=⟨[.data .Qk,.isl .u8,.int .i64],[],0,[.data .Qk,.int .i64,.int .i64],true,[]⟩
abbrev K1.T:Type:=(Q8)->(List (UInt8))->(Int)->Option ((Q8×Int×Int×Unit)×Unit×Unit)
def K1.W (f:K1.T):K1.sig.F:=λa x=>f a.1 a.2.1 a.2.2.1
def K1.C:Code:=match Tryz.f54.body with|some c=>c|none=>.skip
def K1.B0:Code:=match (Z3 K1.C).getD 0 .skip with| .loop b=>b| .scope b=>b|_=>.skip
def K1.JC14:Ql U:= [(.normal,⟨151,15,[(3,.ptr 13 0 0),(6,.ptr 14 0 0),(9,vi_),(10,vi_)],[(13,.obj .Qk),(14,.obj .Qk)]⟩)]
def K1.Q9F:Ql U:= [(.normal,⟨151,15,[(1,.val (.isl .u8)),(2,vi_),(3,.ptr 13 0 0),(6,.ptr 14 0 0),(9,vi_),(10,vi_)],[(13,.obj .Qk),(14,.obj .Qk)]⟩)]
def K1.H (cK2:K2.T) (cK6:K6.T) (cK157:Q2h.T) (cK7:K7.T) (cK79:K79.T) (cK112:Q1o.T) (cK108:Q41.T) (cK135:Q1O.T) (cK109:Q3K.T):Hints U:={ Γ:=(Q3K.N cK109 (Qn 110 (Q1O.sig.native (Q1O.W cK135)) (Q41.N cK108 (Q1o.N cK112 (Qn 105 (K79.sig.native (K79.W cK79)) (K7.N cK7 (Qn 108 (Q2h.sig.native (Q2h.W cK157)) (K6.N cK6 (Qn 106 (K2.sig.native (K2.W cK2)) noΓ))))))))),ro:=0,base:=13,Q1L:=jt_ [(2,[(31,vb_)]),(4,[(40,vb_)])],Q23:=jt_ [(10,K1.Q9F),(14,K1.JC14)],gotos:=3,loop:=λb=>none}
def K1.gen (cK2:K2.T) (cK6:K6.T) (cK157:Q2h.T) (cK7:K7.T) (cK79:K79.T) (cK112:Q1o.T) (cK108:Q41.T) (cK135:Q1O.T) (cK109:Q3K.T):K1.T:=λm b at_2=>
 (Q0 (cK2 m.fType) none λr0=>(Q0 ((bif ilt at_2 0 then some (true,()) else (bif ilt (ofN (List.length b)) at_2 then some (true,()) else some (ilt (Q1s .i64 (ofN (List.length b)) at_2) r0.1.1,())))) none λr1=>(bif r1.1 then some ((Q8.mk 0 0 0 0 z0_ 0 0 0 z0_ 0 0 z1_ 0 0 0 0 0 0 0,((0:Int),((2:Int),()))),((),())) else (Q0 ((bif ieq r0.1.1 0 then some (true,()) else (Q0 (cK6 m.fType) none λr2=>some (!r2.1.1,())))) none λr3=>(bif r3.1 then (Q0 (cK7 m.fType) none λr4=>(Q0 ((bif r4.1.1 then (Q0 (cK79 b at_2) none λr5=>some ((b,(Q4 .i64 at_2 10,(at_2,r0.1))),(Q8.Q7d m r5.1.1,(Q8.mk 0 0 0 0 z0_ 0 0 0 z0_ 0 0 z1_ 0 0 0 0 0 0 0,())))) else some ((b,(at_2,(at_2,r0.1))),(m,(Q8.mk 0 0 0 0 z0_ 0 0 0 z0_ 0 0 z1_ 0 0 0 0 0 0 0,()))))) none λr6=>(Q0 ((bif ieq r6.2.1.fType 11 then (Q0 (cK112 r6.1.1 r6.1.2.1 2) none λr7=>(Q0 (cK108 r6.1.1 (Q4 .i64 r6.1.2.1 3) 1) none λr8=>(Q0 (cK135 r6.1.1 (Q4 .i64 r6.1.2.1 4)) none λr9=>(Q0 (cK108 r6.1.1 (Q4 .i64 r6.1.2.1 8) 1) none λr10=>(Q0 (cK109 r6.1.1 (Q4 .i64 r6.1.2.1 9)) none λr11=>(Q0 (cK108 r6.1.1 (Q4 .i64 r6.1.2.1 17) 2) none λr12=>(Q0 (cK108 r6.1.1 (Q4 .i64 r6.1.2.1 19) 1) none λr13=>some (r6.1.2.2,(Q8.Q77 (Q8.Q7I (Q8.Q7G (Q8.Q50 (Q8.Q4D (Q8.Q4z (Q8.Q8t r6.2.1 r7.1.1) r8.1.1) r9.1.1) r10.1.1) r11.1.1) r12.1.1) r13.1.1,r6.2.2))))))))) else (bif ieq r6.2.1.fType 13 then (bif inR r6.1.2.1 (List.length r6.1.1) then (bif inR (Q4 .i64 r6.1.2.1 1) (List.length r6.1.1) then (bif inR (Q4 .i64 r6.1.2.1 2) (List.length r6.1.1) then some (r6.1.2.2,(Q8.Q6m (Q8.Q71 (Q8.Q6k r6.2.1 (IntKind.wrap .i64 (ofN (UInt8.toNat (List.getD r6.1.1 (Int.toNat r6.1.2.1) (0:D UC.u8)))))) (IntKind.wrap .i64 (ofN (UInt8.toNat (List.getD r6.1.1 (Int.toNat (Q4 .i64 r6.1.2.1 1)) (0:D UC.u8)))))) (IntKind.wrap .i64 (Q57 .u8 (ofN (UInt8.toNat (List.getD r6.1.1 (Int.toNat (Q4 .i64 r6.1.2.1 2)) (0:D UC.u8)))) 15)),r6.2.2)) else none) else none) else none) else some (r6.1.2.2,r6.2)))) none λr14=>some ((r14.2.1,(Q4 .i64 r14.1.1 r14.1.2.1,((0:Int),()))),((),()))))) else (Q0 (cK157 b at_2) none λr15=>(bif !r15.1.2.1 then some ((Q8.mk 0 0 0 0 z0_ 0 0 0 z0_ 0 0 z1_ 0 0 0 0 0 0 0,((0:Int),((10:Int),()))),((),())) else (Q0 (cK7 m.fType) none λr16=>(Q0 ((bif r16.1.1 then (Q0 (cK79 b (Q4 .i64 at_2 10)) none λr17=>some ((b,(Q4 .i64 (Q4 .i64 at_2 10) 10,(at_2,r0.1))),(Q8.Q7d (Q8.Q7x m r15.1.1) r17.1.1,(Q8.mk 0 0 0 0 z0_ 0 0 0 z0_ 0 0 z1_ 0 0 0 0 0 0 0,())))) else some ((b,(Q4 .i64 at_2 10,(at_2,r0.1))),(Q8.Q7x m r15.1.1,(Q8.mk 0 0 0 0 z0_ 0 0 0 z0_ 0 0 z1_ 0 0 0 0 0 0 0,()))))) none λr18=>(Q0 ((bif ieq r18.2.1.fType 11 then (Q0 (cK112 r18.1.1 r18.1.2.1 2) none λr19=>(Q0 (cK108 r18.1.1 (Q4 .i64 r18.1.2.1 3) 1) none λr20=>(Q0 (cK135 r18.1.1 (Q4 .i64 r18.1.2.1 4)) none λr21=>(Q0 (cK108 r18.1.1 (Q4 .i64 r18.1.2.1 8) 1) none λr22=>(Q0 (cK109 r18.1.1 (Q4 .i64 r18.1.2.1 9)) none λr23=>(Q0 (cK108 r18.1.1 (Q4 .i64 r18.1.2.1 17) 2) none λr24=>(Q0 (cK108 r18.1.1 (Q4 .i64 r18.1.2.1 19) 1) none λr25=>some (r18.1.2.2,(Q8.Q77 (Q8.Q7I (Q8.Q7G (Q8.Q50 (Q8.Q4D (Q8.Q4z (Q8.Q8t r18.2.1 r19.1.1) r20.1.1) r21.1.1) r22.1.1) r23.1.1) r24.1.1) r25.1.1,r18.2.2))))))))) else (bif ieq r18.2.1.fType 13 then (bif inR r18.1.2.1 (List.length r18.1.1) then (bif inR (Q4 .i64 r18.1.2.1 1) (List.length r18.1.1) then (bif inR (Q4 .i64 r18.1.2.1 2) (List.length r18.1.1) then some (r18.1.2.2,(Q8.Q6m (Q8.Q71 (Q8.Q6k r18.2.1 (IntKind.wrap .i64 (ofN (UInt8.toNat (List.getD r18.1.1 (Int.toNat r18.1.2.1) (0:D UC.u8)))))) (IntKind.wrap .i64 (ofN (UInt8.toNat (List.getD r18.1.1 (Int.toNat (Q4 .i64 r18.1.2.1 1)) (0:D UC.u8)))))) (IntKind.wrap .i64 (Q57 .u8 (ofN (UInt8.toNat (List.getD r18.1.1 (Int.toNat (Q4 .i64 r18.1.2.1 2)) (0:D UC.u8)))) 15)),r18.2.2)) else none) else none) else none) else some (r18.1.2.2,r18.2)))) none λr26=>some ((r26.2.1,(Q4 .i64 r26.1.1 r26.1.2.1,((0:Int),()))),((),()))))))))))))
def K1:K1.T:=K1.gen K2 K6 Q2h K7 K79 Q1o Q41 Q1O Q3K
theorem K1.eq (cK2:K2.T) (cK6:K6.T) (cK157:Q2h.T) (cK7:K7.T) (cK79:K79.T) (cK112:Q1o.T) (cK108:Q41.T) (cK135:Q1O.T) (cK109:Q3K.T):EqA K1.sig (K1.H cK2 cK6 cK157 cK7 cK79 cK112 cK108 cK135 cK109) Tryz.f54 6 (K1.W (K1.gen cK2 cK6 cK157 cK7 cK79 cK112 cK108 cK135 cK109)):=by intro a x;kernel_rfl
theorem K1.loops:Z3 K1.C= [(.scope K1.B0)]:=by kernel_rfl
theorem K1.ok:NK_ 54 K1.sig (K1.W K1):=ok_ Tryz.func54 (K1.eq K2 K6 Q2h K7 K79 Q1o Q41 Q1O Q3K) (hl_ (Z0 (Z0 (Z0 (Z0 (Z0 (Z0 (Z0 (Z0 (Z0 Z2 K2.ok) K6.ok) Q2h.ok) K7.ok) K79.ok) Q1o.ok) Q41.ok) Q1O.ok) Q3K.ok) (Zt Z5)) K1.loops
def Q1c.sig:Sig U:=⟨[.isl .u8,.int .i64],[],0,[.isl .QW,.int .i64],true,[]⟩
abbrev Q1c.T:Type:=(List (UInt8))->(Int)->Option (((List (Qi))×Int×Unit)×Unit×Unit)
def Q1c.W (f:Q1c.T):Q1c.sig.F:=λa x=>f a.1 a.2.1
def Q1c.L1:Shape U:=⟨81,14,[(0,.val (.isl .u8)),(1,vi_),(6,.own .QW 13),(7,vi_)],[(13,.tok)]⟩
def Q1c.X1:Ql U:= [(.exit 0,⟨81,14,[(6,.own .QW 13),(7,vi_)],[(13,.tok)]⟩)]
abbrev Q1c.l1T:Type:=(((List (UInt8))×Int×(List (Qi))×Int×Unit)×Unit)->Option ((((List (Qi))×Int×Unit)×Unit))
def Q1c.C:Code:=match Tryz.f55.body with|some c=>c|none=>.skip
def Q1c.B0:Code:=match (Z3 Q1c.C).getD 0 .skip with| .loop b=>b| .scope b=>b|_=>.skip
def Q1c.B1:Code:=match (Z3 Q1c.C).getD 1 .skip with| .loop b=>b| .scope b=>b|_=>.skip
def Q1c.JC8:Ql U:= [(.normal,⟨81,14,[(0,.val (.isl .u8)),(1,vi_),(6,.own .QW 13),(7,vi_),(8,vi_)],[(13,.tok)]⟩)]
def Q1c.H (cK108:Q41.T) (l1:Q1c.l1T):Hints U:={ Γ:=(Q41.N cK108 noΓ),ro:=0,base:=13,Q1L:=jt_ [(1,[(19,vb_)]),(9,[(35,vb_)])],Q23:=jt_ [(8,Q1c.JC8)],loop:=jt_ [(5,(Z9 (0,13) Q1c.L1 Q1c.X1 l1))]}
def Q1c.Q2x (cK108:Q41.T) (a:((List (UInt8))×Int×(List (Qi))×Int×Unit)×Unit):Option ((((List (UInt8))×Int×(List (Qi))×Int×Unit)×Unit)⊕((((List (Qi))×Int×Unit)×Unit))):=
 (bif ilt a.1.2.1 (ofN (List.length a.1.1)) then (Q0 (cK108 a.1.1 (Q4 .i64 a.1.2.1 2) 2) none λr0=>(Q0 ((bif ieq (ofN (List.length a.1.2.2.1)) 8 then some ((a.1.1,(a.1.2.1,(a.1.2.2.1,((7:Int),(r0.1.1,()))))),()) else (Q0 ((bif !r0.1.2.1 then some (true,()) else some (ilt (Q1s .i64 (Q1s .i64 (ofN (List.length a.1.1)) a.1.2.1) 4) r0.1.1,()))) none λr1=>(bif r1.1 then some ((a.1.1,(a.1.2.1,(a.1.2.2.1,((2:Int),(r0.1.1,()))))),()) else (bif ine (Q5z r0.1.1 2) 0 then some ((a.1.1,(a.1.2.1,(a.1.2.2.1,((4:Int),(r0.1.1,()))))),()) else some ((a.1.1,(a.1.2.1,(a.1.2.2.1,(a.1.2.2.2.1,(r0.1.1,()))))),())))))) none λr2=>(bif ine r2.1.2.2.2.1 0 then some (.inr ((r2.1.2.2.1,(r2.1.2.2.2.1,())),())) else (Q0 (cK108 r2.1.1 r2.1.2.1 2) none λr3=>(bif le3 (Q4 .i64 r2.1.2.1 4) (Q4 .i64 (Q4 .i64 r2.1.2.1 4) r2.1.2.2.2.2.1) (List.length r2.1.1) then (bif room (List.length r2.1.2.2.1+List.length (Qi.mk r3.1.1 (ByteArray.mk (List.toArray (List.drop (Int.toNat (Q4 .i64 r2.1.2.1 4)) (List.take (Int.toNat (Q4 .i64 (Q4 .i64 r2.1.2.1 4) r2.1.2.2.2.2.1)) r2.1.1))))::Qm Qi)) 24 then some (.inl ((r2.1.1,(Q4 .i64 r2.1.2.1 (Q4 .i64 4 r2.1.2.2.2.2.1),(r2.1.2.2.1++Qi.mk r3.1.1 (ByteArray.mk (List.toArray (List.drop (Int.toNat (Q4 .i64 r2.1.2.1 4)) (List.take (Int.toNat (Q4 .i64 (Q4 .i64 r2.1.2.1 4) r2.1.2.2.2.2.1)) r2.1.1))))::Qm Qi,(r2.1.2.2.2.1,())))),())) else none) else none))))) else some (.inr (a.1.2.2,())))
def Q1c.F1:Q1c.l1T:=λa=>Z8 (1000000+(a.1.1.length+a.1.2.2.1.length)) (Q1c.Q2x Q41) a
def Q1c.gen (cK108:Q41.T) (l1:Q1c.l1T):Q1c.T:=λb at_1=>
 (Q0 ((bif ilt at_1 0 then some (true,()) else some (ilt (ofN (List.length b)) at_1,()))) none λr0=>(bif r0.1 then some ((Qm Qi,((1:Int),())),((),())) else (Q0 (l1 ((b,at_1,Qm Qi,(0:Int),()),())) none λr1=>(bif ine r1.1.2.1 0 then some ((Qm Qi,r1.1.2),((),())) else some ((r1.1.1,((0:Int),())),((),()))))))
def Q1c:Q1c.T:=Q1c.gen Q41 Q1c.F1
theorem Q1c.seq1 (cK108:Q41.T) (l1:Q1c.l1T) (a:Q1c.L1.T):run Tryz.prog (Q1c.H cK108 l1) 6 (Option (Q1c.L1.T⊕ExT Q1c.X1)) none Q1c.B1 (Q1c.L1.enc a) (Zj (0,13) Q1c.L1 Q1c.X1)=Q1c.Q2x cK108 a:=by kernel_rfl
abbrev Q1c.h:=Q1c.H Q41 Q1c.F1
theorem Q1c.Q4T:LO_ Q1c.h Q1c.B1 (Z9 (0,13) Q1c.L1 Q1c.X1 Q1c.F1):=lk_ (hn_ (Z0 Z2 Q41.ok)) (Q1c.seq1 Q41 Q1c.F1)
theorem Q1c.eq (cK108:Q41.T) (l1:Q1c.l1T):EqA Q1c.sig (Q1c.H cK108 l1) Tryz.f55 6 (Q1c.W (Q1c.gen cK108 l1)):=by intro a x;kernel_rfl
theorem Q1c.loops:Z3 Q1c.C= [(.scope Q1c.B0),(.loop Q1c.B1)]:=by kernel_rfl
theorem Q1c.ok:NK_ 55 Q1c.sig (Q1c.W Q1c):=ok_ Tryz.func55 (Q1c.eq Q41 Q1c.F1) (hl_ (Z0 Z2 Q41.ok) (Zt (Z7 (by kernel_rfl) Q1c.Q4T Z5))) Q1c.loops
def K69.sig:Sig U:=⟨[.str],[],0,[.data .Qk,.isl .QW,.int .i64],true,[]⟩
abbrev K69.T:Type:=(ByteArray)->Option ((Q8×(List (Qi))×Int×Unit)×Unit×Unit)
def K69.W (f:K69.T):K69.sig.F:=λa x=>f a.1
def K69.C:Code:=match Tryz.f25.body with|some c=>c|none=>.skip
def K69.B0:Code:=match (Z3 K69.C).getD 0 .skip with| .loop b=>b| .scope b=>b|_=>.skip
def K69.H (cK73:K73.T) (cK1:K1.T) (cK169:Q1c.T):Hints U:={ Γ:=(Qn 55 (Q1c.sig.native (Q1c.W cK169)) (Qn 54 (K1.sig.native (K1.W cK1)) (Qn 53 (K73.sig.native (K73.W cK73)) noΓ))),ro:=0,base:=13,gotos:=3,loop:=λb=>none}
def K69.gen (cK73:K73.T) (cK1:K1.T) (cK169:Q1c.T):K69.T:=λb=>
 (Q0 (cK73 b.data.toList) none λr0=>(bif ine r0.1.2.2.1 0 then some ((Q8.mk 0 0 0 0 z0_ 0 0 0 z0_ 0 0 z1_ 0 0 0 0 0 0 0,(Qm Qi,r0.1.2.2)),((),())) else (Q0 (cK1 r0.1.1 b.data.toList 34) none λr1=>(bif ine r1.1.2.2.1 0 then some ((Q8.mk 0 0 0 0 z0_ 0 0 0 z0_ 0 0 z1_ 0 0 0 0 0 0 0,(Qm Qi,r1.1.2.2)),((),())) else (Q0 (cK169 b.data.toList r1.1.2.1) none λr2=>(bif ine r2.1.2.1 0 then some ((Q8.mk 0 0 0 0 z0_ 0 0 0 z0_ 0 0 z1_ 0 0 0 0 0 0 0,(Qm Qi,r2.1.2)),((),())) else some ((r1.1.1,(r2.1.1,((0:Int),()))),((),()))))))))
def K69:K69.T:=K69.gen K73 K1 Q1c
theorem K69.eq (cK73:K73.T) (cK1:K1.T) (cK169:Q1c.T):EqA K69.sig (K69.H cK73 cK1 cK169) Tryz.f25 6 (K69.W (K69.gen cK73 cK1 cK169)):=by intro a x;kernel_rfl
theorem K69.loops:Z3 K69.C= [(.scope K69.B0)]:=by kernel_rfl
theorem K69.ok:NK_ 25 K69.sig (K69.W K69):=ok_ Tryz.func25 (K69.eq K73 K1 Q1c) (hl_ (Z0 (Z0 (Z0 Z2 K73.ok) K1.ok) Q1c.ok) (Zt Z5)) K69.loops
def K70.sig:Sig U:=⟨[.str,.int .i64],[],0,[.data .Qk,.isl .QW,.int .i64],true,[]⟩
abbrev K70.T:Type:=(ByteArray)->(Int)->Option ((Q8×(List (Qi))×Int×Unit)×Unit×Unit)
def K70.W (f:K70.T):K70.sig.F:=λa x=>f a.1 a.2.1
def K70.H (cK69:K69.T):Hints U:={ Γ:=(Qn 25 (K69.sig.native (K69.W cK69)) noΓ),ro:=0,base:=13,Q1L:=jt_ [(2,[(23,vb_)])]}
def K70.gen (cK69:K69.T):K70.T:=λb domain=>
 (Q0 (cK69 b) none λr0=>(Q0 ((bif ieq r0.1.2.2.1 0 then some (ine r0.1.1.Q1D domain,()) else some (false,()))) none λr1=>(bif r1.1 then some ((Q8.mk 0 0 0 0 z0_ 0 0 0 z0_ 0 0 z1_ 0 0 0 0 0 0 0,(Qm Qi,((6:Int),()))),((),())) else some (r0.1,((),())))))
def K70:K70.T:=K70.gen K69
theorem K70.eq (cK69:K69.T):EqA K70.sig (K70.H cK69) Tryz.f73 6 (K70.W (K70.gen cK69)):=by intro a x;kernel_rfl
theorem K70.ok:NK_ 73 K70.sig (K70.W K70):=ok_ Tryz.func73 (K70.eq K69) (hn_ (Z0 Z2 K69.ok))
def K25.sig:Sig U:=⟨[.ptr,.int .i64],[.obj .Q7],1,[.bool],false,[]⟩
abbrev K25.T:Type:=(Int)->(Q1)->Option ((Bool×Unit)×Unit×Unit)
def K25.W (f:K25.T):K25.sig.F:=λa x=>f a.2.1 x.1
abbrev K25.N (c:K25.T):=Qn 46 (K25.sig.native (K25.W c))
def K25.H:Hints U:={ Γ:=(Qn 5000000021 Z17 noΓ),ro:=14,base:=14}
def K25.gen:K25.T:=λn h0=>
 (bif ilt n 1 then some ((true,()),((),())) else some ((ilt h0.Qs.QB n,()),((),())))
def K25:K25.T:=K25.gen
theorem K25.ok:NK_ 46 K25.sig (K25.W K25):=ok_ (H:=K25.H) (n:=6) Tryz.func46 (by intro a x;kernel_rfl) (hn_ (Z0 Z2 Zd))
def Q3L.sig:Sig U:=⟨[.isl .QW,.int .i64],[],0,[.data .QW,.bool],true,[]⟩
abbrev Q3L.T:Type:=(List (Qi))->(Int)->Option ((Qi×Bool×Unit)×Unit×Unit)
def Q3L.W (f:Q3L.T):Q3L.sig.F:=λa x=>f a.1 a.2.1
def Q3L.L0:Shape U:=⟨21,14,[(1,vi_),(4,.ptr 13 0 0),(8,.val (.isl .QW)),(9,vi_),(10,vi_)],[(13,.obj .QW)]⟩
def Q3L.X0:Ql U:= [(.exit 0,⟨21,14,[(4,.ptr 13 0 0)],[(13,.obj .QW)]⟩),
 (.ret,⟨21,14,[(4,.ptr 13 0 0),(5,vb_)],[(13,.obj .QW)]⟩)]
abbrev Q3L.l0T:Type:=((Int×(List (Qi))×Int×Int×Unit)×(Qi×Unit))->Option ((Unit×(Qi×Unit))⊕((Bool×Unit)×(Qi×Unit)))
def Q3L.C:Code:=match Tryz.f144.body with|some c=>c|none=>.skip
def Q3L.B0:Code:=match (Z3 Q3L.C).getD 0 .skip with| .loop b=>b| .scope b=>b|_=>.skip
def Q3L.H (l0:Q3L.l0T):Hints U:={ Γ:=noΓ,ro:=0,base:=13,loop:=jt_ [(2,(Z9 (0,13) Q3L.L0 Q3L.X0 l0))]}
def Q3L.QU (a:(Int×(List (Qi))×Int×Int×Unit)×(Qi×Unit)):Option (((Int×(List (Qi))×Int×Int×Unit)×(Qi×Unit))⊕((Unit×(Qi×Unit))⊕((Bool×Unit)×(Qi×Unit)))):=
 (bif ilt a.1.2.2.2.1 a.1.2.2.1 then (bif inR a.1.2.2.2.1 (List.length a.1.2.1) then (bif ieq (List.getD a.1.2.1 (Int.toNat a.1.2.2.2.1) Qi.zero).fType a.1.1 then some (.inr (.inr ((true,()),(List.getD a.1.2.1 (Int.toNat a.1.2.2.2.1) Qi.zero,())))) else some (.inl ((a.1.1,(a.1.2.1,(a.1.2.2.1,(Q4 .i64 a.1.2.2.2.1 1,())))),a.2))) else none) else some (.inr (.inl ((),a.2))))
def Q3L.F0:Q3L.l0T:=λa=>Z8 (1000000+(a.1.2.1.length)) (Q3L.QU) a
def Q3L.gen (l0:Q3L.l0T):Q3L.T:=λl typ=>
 (Q0 (l0 ((typ,l,ofN (List.length l),(0:Int),()),Qi.mk 0 (ByteArray.mk (List.toArray (Qm UInt8))),())) none λr0=>(Q3V r0 (λr1=>some ((Qi.mk 0 (ByteArray.mk (List.toArray (Qm UInt8))),(false,())),((),()))) (λr1=>some ((r1.2.1,r1.1),((),())))))
def Q3L:Q3L.T:=Q3L.gen Q3L.F0
theorem Q3L.Q26 (l0:Q3L.l0T) (a:Q3L.L0.T):run Tryz.prog (Q3L.H l0) 6 (Option (Q3L.L0.T⊕ExT Q3L.X0)) none Q3L.B0 (Q3L.L0.enc a) (Zj (0,13) Q3L.L0 Q3L.X0)=Q3L.QU a:=by kernel_rfl
abbrev Q3L.h:=Q3L.H Q3L.F0
theorem Q3L.Q1V:LO_ Q3L.h Q3L.B0 (Z9 (0,13) Q3L.L0 Q3L.X0 Q3L.F0):=lk_ (hn_ Z2) (Q3L.Q26 Q3L.F0)
theorem Q3L.eq (l0:Q3L.l0T):EqA Q3L.sig (Q3L.H l0) Tryz.f144 6 (Q3L.W (Q3L.gen l0)):=by intro a x;kernel_rfl
theorem Q3L.loops:Z3 Q3L.C= [(.loop Q3L.B0)]:=by kernel_rfl
theorem Q3L.ok:NK_ 144 Q3L.sig (Q3L.W Q3L):=ok_ Tryz.func144 (Q3L.eq Q3L.F0) (hl_ Z2 (Z7 (by kernel_rfl) Q3L.Q1V Z5)) Q3L.loops
def Q1q.sig:Sig U:=⟨[.data .QW],[],0,[.bool],false,[]⟩
abbrev Q1q.T:Type:=(Qi)->Option ((Bool×Unit)×Unit×Unit)
def Q1q.W (f:Q1q.T):Q1q.sig.F:=λa x=>f a.1
def Q1q.JC14:Ql U:= [(.normal,⟨50,14,[(1,.ptr 13 0 0),(3,vi_),(8,vi_),(29,vb_)],[(13,.obj .QW)]⟩)]
def Q1q.JC4:Ql U:= [(.normal,⟨50,14,[(1,.ptr 13 0 0)],[(13,.obj .QW)]⟩),
 (.ret,⟨50,13,[(2,vb_)],[]⟩)]
def Q1q.H:Hints U:={ Γ:=noΓ,ro:=0,base:=13,Q23:=jt_ [(4,Q1q.JC4),(14,Q1q.JC14)]}
def Q1q.gen:Q1q.T:=λt=>
 (Q0 ((bif ieq t.fType 1 then some (.inr ((ile 2 (ofN (ByteArray.size t.Q2s)),()),())) else (bif ieq t.fType 2 then some (.inr ((ile 8 (ofN (ByteArray.size t.Q2s)),()),())) else (bif ieq t.fType 3 then some (.inr ((ile 6 (ofN (ByteArray.size t.Q2s)),()),())) else (bif ieq t.fType 4 then some (.inr ((ieq (ofN (ByteArray.size t.Q2s)) 6,()),())) else (bif ieq t.fType 5 then some (.inr ((ieq (ofN (ByteArray.size t.Q2s)) 8,()),())) else (Q0 ((bif ieq t.fType 6 then some ((ofN (ByteArray.size t.Q2s),(t.fType,(ieq t.fType 6,()))),(t,())) else some ((ofN (ByteArray.size t.Q2s),(t.fType,(ieq t.fType 7,()))),(t,())))) none λr0=>(bif r0.1.2.2.1 then some (.inr ((ieq r0.1.1 2,()),())) else (bif ieq r0.1.2.1 8 then (bif ieq (Q5z r0.1.1 8) 0 then some (.inr ((ile r0.1.1 128,()),())) else some (.inr ((false,()),()))) else (bif ieq r0.1.2.1 9 then some (.inr ((ile 16 r0.1.1,()),())) else some (.inl ((),r0.2)))))))))))) none λr1=>(Q3V r1 (λr2=>some ((ieq r2.2.1.fType 32776,()),((),()))) (λr2=>some (r2.1,((),())))))
def Q1q:Q1q.T:=Q1q.gen
theorem Q1q.ok:NK_ 183 Q1q.sig (Q1q.W Q1q):=ok_ (H:=Q1q.H) (n:=6) Tryz.func183 (by intro a x;kernel_rfl) (hn_ Z2)
def Q1p.sig:Sig U:=⟨[.data .QW],[],0,[.isl .u64,.bool],true,[]⟩
abbrev Q1p.T:Type:=(Qi)->Option (((List (Int))×Bool×Unit)×Unit×Unit)
def Q1p.W (f:Q1p.T):Q1p.sig.F:=λa x=>f a.1
def Q1p.L0:Shape U:=⟨36,15,[(1,.ptr 13 0 0),(4,.own .u64 14),(5,vi_)],[(13,.obj .QW),(14,.tok)]⟩
def Q1p.X0:Ql U:= [(.exit 0,⟨36,14,[(4,.own .u64 13)],[(13,.tok)]⟩)]
abbrev Q1p.l0T:Type:=(((List (Int))×Int×Unit)×(Qi×Unit))->Option ((((List (Int))×Unit)×Unit))
def Q1p.C:Code:=match Tryz.f145.body with|some c=>c|none=>.skip
def Q1p.B0:Code:=match (Z3 Q1p.C).getD 0 .skip with| .loop b=>b| .scope b=>b|_=>.skip
def Q1p.H (cK170:Q1q.T) (cK109:Q3K.T) (l0:Q1p.l0T):Hints U:={ Γ:=(Q3K.N cK109 (Qn 183 (Q1q.sig.native (Q1q.W cK170)) noΓ)),ro:=0,base:=13,Q1L:=jt_ [(1,[(15,vb_)])],loop:=jt_ [(5,(Z9 (0,13) Q1p.L0 Q1p.X0 l0))]}
def Q1p.QU (cK170:Q1q.T) (cK109:Q3K.T) (a:((List (Int))×Int×Unit)×(Qi×Unit)):Option ((((List (Int))×Int×Unit)×(Qi×Unit))⊕((((List (Int))×Unit)×Unit))):=
 (bif ilt a.1.2.1 (ofN (ByteArray.size a.2.1.Q2s)) then (Q0 (cK109 a.2.1.Q2s.data.toList a.1.2.1) none λr0=>(bif room (List.length a.1.1+List.length (r0.1.1::Qm Int)) 8 then some (.inl ((a.1.1++r0.1.1::Qm Int,(Q4 .i64 a.1.2.1 8,())),a.2)) else none)) else some (.inr ((a.1.1,()),())))
def Q1p.F0:Q1p.l0T:=λa=>Z8 (1000000+(a.1.1.length)) (Q1p.QU Q1q Q3K) a
def Q1p.gen (cK170:Q1q.T) (cK109:Q3K.T) (l0:Q1p.l0T):Q1p.T:=λt=>
 (Q0 ((bif ine t.fType 8 then some (true,()) else (Q0 (cK170 t) none λr0=>some (!r0.1.1,())))) none λr1=>(bif r1.1 then some ((Qm Int,(false,())),((),())) else (Q0 (l0 ((Qm Int,(0:Int),()),t,())) none λr2=>some ((r2.1.1,(true,())),((),())))))
def Q1p:Q1p.T:=Q1p.gen Q1q Q3K Q1p.F0
theorem Q1p.Q26 (cK170:Q1q.T) (cK109:Q3K.T) (l0:Q1p.l0T) (a:Q1p.L0.T):run Tryz.prog (Q1p.H cK170 cK109 l0) 6 (Option (Q1p.L0.T⊕ExT Q1p.X0)) none Q1p.B0 (Q1p.L0.enc a) (Zj (0,13) Q1p.L0 Q1p.X0)=Q1p.QU cK170 cK109 a:=by kernel_rfl
abbrev Q1p.h:=Q1p.H Q1q Q3K Q1p.F0
theorem Q1p.Q1V:LO_ Q1p.h Q1p.B0 (Z9 (0,13) Q1p.L0 Q1p.X0 Q1p.F0):=lk_ (hn_ (Z0 (Z0 Z2 Q1q.ok) Q3K.ok)) (Q1p.Q26 Q1q Q3K Q1p.F0)
theorem Q1p.eq (cK170:Q1q.T) (cK109:Q3K.T) (l0:Q1p.l0T):EqA Q1p.sig (Q1p.H cK170 cK109 l0) Tryz.f145 6 (Q1p.W (Q1p.gen cK170 cK109 l0)):=by intro a x;kernel_rfl
theorem Q1p.loops:Z3 Q1p.C= [(.loop Q1p.B0)]:=by kernel_rfl
theorem Q1p.ok:NK_ 145 Q1p.sig (Q1p.W Q1p):=ok_ Tryz.func145 (Q1p.eq Q1q Q3K Q1p.F0) (hl_ (Z0 (Z0 Z2 Q1q.ok) Q3K.ok) (Z7 (by kernel_rfl) Q1p.Q1V Z5)) Q1p.loops
def Q3N.sig:Sig U:=⟨[.isl .u64,.int .u64],[],0,[.int .i64],false,[]⟩
abbrev Q3N.T:Type:=(List (Int))->(Int)->Option ((Int×Unit)×Unit×Unit)
def Q3N.W (f:Q3N.T):Q3N.sig.F:=λa x=>f a.1 a.2.1
def Q3N.L0:Shape U:=⟨19,13,[(0,.val (.isl .u64)),(1,.val (.int .u64)),(7,vi_),(8,vi_)],[]⟩
def Q3N.X0:Ql U:= [(.exit 0,⟨19,13,[],[]⟩),
 (.ret,⟨19,13,[(4,vi_)],[]⟩)]
abbrev Q3N.l0T:Type:=(((List (Int))×Int×Int×Int×Unit)×Unit)->Option ((Unit×Unit)⊕((Int×Unit)×Unit))
def Q3N.C:Code:=match Tryz.f184.body with|some c=>c|none=>.skip
def Q3N.B0:Code:=match (Z3 Q3N.C).getD 0 .skip with| .loop b=>b| .scope b=>b|_=>.skip
def Q3N.H (l0:Q3N.l0T):Hints U:={ Γ:=noΓ,ro:=0,base:=13,loop:=jt_ [(2,(Z9 (0,13) Q3N.L0 Q3N.X0 l0))]}
def Q3N.QU (a:((List (Int))×Int×Int×Int×Unit)×Unit):Option ((((List (Int))×Int×Int×Int×Unit)×Unit)⊕((Unit×Unit)⊕((Int×Unit)×Unit))):=
 (bif ilt a.1.2.2.2.1 a.1.2.2.1 then (bif inR a.1.2.2.2.1 (List.length a.1.1) then (bif ieq a.1.2.1 (List.getD a.1.1 (Int.toNat a.1.2.2.2.1) (0:D UC.u64)) then some (.inr (.inr (a.1.2.2.2,()))) else some (.inl ((a.1.1,(a.1.2.1,(a.1.2.2.1,(Q4 .i64 a.1.2.2.2.1 1,())))),()))) else none) else some (.inr (.inl ((),()))))
def Q3N.F0:Q3N.l0T:=λa=>Z8 (1000000+(a.1.1.length)) (Q3N.QU) a
def Q3N.gen (l0:Q3N.l0T):Q3N.T:=λs v=>
 (Q0 (l0 ((s,v,ofN (List.length s),(0:Int),()),())) none λr0=>(Q3V r0 (λr1=>some (((-1:Int),()),((),()))) (λr1=>some (r1.1,((),())))))
def Q3N:Q3N.T:=Q3N.gen Q3N.F0
theorem Q3N.Q26 (l0:Q3N.l0T) (a:Q3N.L0.T):run Tryz.prog (Q3N.H l0) 6 (Option (Q3N.L0.T⊕ExT Q3N.X0)) none Q3N.B0 (Q3N.L0.enc a) (Zj (0,13) Q3N.L0 Q3N.X0)=Q3N.QU a:=by kernel_rfl
abbrev Q3N.h:=Q3N.H Q3N.F0
theorem Q3N.Q1V:LO_ Q3N.h Q3N.B0 (Z9 (0,13) Q3N.L0 Q3N.X0 Q3N.F0):=lk_ (hn_ Z2) (Q3N.Q26 Q3N.F0)
theorem Q3N.eq (l0:Q3N.l0T):EqA Q3N.sig (Q3N.H l0) Tryz.f184 6 (Q3N.W (Q3N.gen l0)):=by intro a x;kernel_rfl
theorem Q3N.loops:Z3 Q3N.C= [(.loop Q3N.B0)]:=by kernel_rfl
theorem Q3N.ok:NK_ 184 Q3N.sig (Q3N.W Q3N):=ok_ Tryz.func184 (Q3N.eq Q3N.F0) (hl_ Z2 (Z7 (by kernel_rfl) Q3N.Q1V Z5)) Q3N.loops
def Q4e.sig:Sig U:=⟨[.isl .u64,.int .u64],[],0,[.bool],false,[]⟩
abbrev Q4e.T:Type:=(List (Int))->(Int)->Option ((Bool×Unit)×Unit×Unit)
def Q4e.W (f:Q4e.T):Q4e.sig.F:=λa x=>f a.1 a.2.1
def Q4e.H (cK154:Q3N.T):Hints U:={ Γ:=(Qn 184 (Q3N.sig.native (Q3N.W cK154)) noΓ),ro:=0,base:=13}
def Q4e.gen (cK154:Q3N.T):Q4e.T:=λs v=>
 (Q0 (cK154 s v) none λr0=>some ((ile 0 r0.1.1,()),((),())))
def Q4e:Q4e.T:=Q4e.gen Q3N
theorem Q4e.eq (cK154:Q3N.T):EqA Q4e.sig (Q4e.H cK154) Tryz.f146 6 (Q4e.W (Q4e.gen cK154)):=by intro a x;kernel_rfl
theorem Q4e.ok:NK_ 146 Q4e.sig (Q4e.W Q4e):=ok_ Tryz.func146 (Q4e.eq Q3N) (hn_ (Z0 Z2 Q3N.ok))
def K65.sig:Sig U:=⟨[.ptr,.data .Qk,.int .i64],[.obj .Qy],0,[.int .i64],false,[]⟩
abbrev K65.T:Type:=(Q8)->(Int)->(Qe)->Option ((Int×Unit)×(Qe×Unit)×Unit)
def K65.W (f:K65.T):K65.sig.F:=λa x=>f a.2.1 a.2.2.1 x.1
def K65.L0:Shape U:=⟨143,15,[(0,.ptr 13 0 0),(2,vi_),(4,.ptr 14 0 0),(7,vi_)],[(13,.obj .Qy),(14,.obj .Qk)]⟩
def K65.X0:Ql U:= [(.exit 1,⟨143,15,[(0,.ptr 13 0 0),(2,vi_),(4,.ptr 14 0 0),(7,vi_)],[(13,.obj .Qy),(14,.obj .Qk)]⟩)]
abbrev K65.l0T:Type:=((Int×Int×Unit)×(Qe×Q8×Unit))->Option (((Int×Int×Unit)×(Qe×Q8×Unit)))
def K65.C:Code:=match Tryz.f147.body with|some c=>c|none=>.skip
def K65.B0:Code:=match (Z3 K65.C).getD 0 .skip with| .loop b=>b| .scope b=>b|_=>.skip
def K65.JR22:Ql U:= [(.normal,⟨143,14,[],[(13,.obj .Qy)]⟩)]
def K65.JR21:Ql U:= [(.normal,⟨143,15,[(0,.ptr 13 0 0),(7,vi_),(8,.ptr 14 0 0)],[(13,.obj .Qy),(14,.obj .QA)]⟩)]
def K65.Q5N:Ql U:= [(.normal,⟨143,16,[(0,.ptr 13 0 0),(2,vi_),(4,.ptr 14 0 0),(7,vi_),(8,.ptr 15 0 0)],[(13,.obj .Qy),(14,.obj .Qk),(15,.obj .QA)]⟩)]
def K65.JC13:Ql U:= [(.normal,⟨143,16,[(0,.ptr 13 0 0),(2,vi_),(4,.ptr 14 0 0),(7,vi_),(8,.ptr 15 0 0)],[(13,.obj .Qy),(14,.obj .Qk),(15,.obj .QA)]⟩),
 (.ret,⟨143,14,[(6,vi_)],[(13,.obj .Qy)]⟩)]
def K65.JC2:Ql U:= [(.normal,⟨143,15,[(0,.ptr 13 0 0),(2,vi_),(4,.ptr 14 0 0)],[(13,.obj .Qy),(14,.obj .Qk)]⟩),
 (.ret,⟨143,14,[(6,vi_)],[(13,.obj .Qy)]⟩)]
def K65.H (l0:K65.l0T):Hints U:={ Γ:=noΓ,ro:=0,base:=14,Q1L:=jt_ [(3,[(13,vb_)]),(5,[(20,vb_)]),(8,[(59,vb_)]),(14,[(95,vb_)])],Q2B:=jt_ [(10,K65.Q5N),(13,K65.Q5N),(19,K65.Q5N),(20,K65.Q5N),(21,K65.JR21),(22,K65.JR22)],Q23:=jt_ [(2,K65.JC2),(13,K65.JC13)],loop:=jt_ [(8,(Z9 (0,14) K65.L0 K65.X0 l0))]}
def K65.QU (a:(Int×Int×Unit)×(Qe×Q8×Unit)):Option (((Int×Int×Unit)×(Qe×Q8×Unit))⊕(((Int×Int×Unit)×(Qe×Q8×Unit)))):=
 (Q0 ((bif ilt a.1.2.1 a.2.1.fn then (bif inR a.1.2.1 5 then some (!bif ieq (a.2.1.fl (Int.toNat a.1.2.1)).Q3g.Q4H.QI a.2.2.1.Q1H.QI then bif ieq (a.2.1.fl (Int.toNat a.1.2.1)).Q3g.Q4H.QR a.2.2.1.Q1H.QR then true else false else false,()) else none) else some (false,()))) none λr0=>(bif r0.1 then some (.inl ((a.1.1,(Q4 .i64 a.1.2.1 1,())),a.2)) else some (.inr a)))
def K65.F0:K65.l0T:=λa=>Z8 (1000000) (K65.QU) a
def K65.gen (l0:K65.l0T):K65.T:=λm now h0=>
 (Q0 ((bif ine m.fType 11 then some (.inr (((5:Int),()),(h0,()))) else (Q0 ((bif ilt now 0 then some (true,()) else some (ilt 1099511627776 now,()))) none λr0=>(bif r0.1 then some (.inr (((1:Int),()),(h0,()))) else (Q0 ((bif ieq m.Q1H.QI h0.QaU.QI then some (true,()) else (bif ile 255 m.Q28 then some (true,()) else some (ine (Q57 .i64 m.Q1X 256) 0,())))) none λr1=>(bif r1.1 then some (.inr (((11:Int),()),(h0,()))) else some (.inl ((now,()),(h0,(m,())))))))))) none λr2=>(Q3V r2 (λr3=>(Q0 (l0 ((r3.1.1,(0:Int),()),r3.2)) none λr4=>(Q0 ((bif ilt r4.1.2.1 r4.2.1.fn then (Q0 ((bif inR r4.1.2.1 5 then some (r4.1,(r4.2.1,(r4.2.2.1,(r4.2.1.fl (Int.toNat r4.1.2.1),())))) else none)) none λr5=>(Q0 ((bif ilt (Q57 .i64 (Q1s .i64 r5.2.2.2.1.Q2Y r5.2.2.1.Q2Y) 65535) 32768 then some (true,()) else some (ilt r5.1.1 r5.2.2.2.1.Q9x,()))) none λr6=>(bif r6.1 then some (.inr (((9:Int),()),(r5.2.1,()))) else some (.inl (r5.1,(r5.2.1,(r5.2.2.1,(Qc.Qb0 r5.2.2.2.1 r5.2.2.2.1.Q9x,())))))))) else (bif ieq r4.2.1.fn 5 then some (.inr (((7:Int),()),(r4.2.1,()))) else some (.inl (r4.1,(Qe.Q7Y r4.2.1 (Q4 .i64 r4.2.1.fn 1),(r4.2.2.1,(Qc.mk z6_ z5_ 0 (-1) 0,())))))))) none λr7=>(Q3V r7 (λr8=>(Q0 ((bif inR r8.1.2.1 5 then some ((),(Qe.Q9K r8.2.1 (Qr r8.2.1.fl (Int.toNat r8.1.2.1) (Qc.mk (Qj.mk r8.2.2.1.Q16 r8.2.2.1.Qv r8.2.2.1.Q15 r8.2.2.1.Q2z r8.2.2.1.Q28 r8.2.2.1.Q1H r8.2.1.QaU) (Q1b.mk r8.2.2.1.Q3c (Q57 .i64 r8.2.2.1.Q1X 63) r8.2.2.1.Q1Q) r8.2.2.1.Q2Y r8.2.2.2.1.Q7L r8.1.1)),())) else none)) none λr9=>some (((0:Int),()),(r9.2,())))) (λr8=>some (r8.1,(r8.2,()))))))) (λr3=>some (r3.1,(r3.2,())))))
def K65:K65.T:=K65.gen K65.F0
theorem K65.Q26 (l0:K65.l0T) (a:K65.L0.T):run Tryz.prog (K65.H l0) 6 (Option (K65.L0.T⊕ExT K65.X0)) none K65.B0 (K65.L0.enc a) (Zj (0,14) K65.L0 K65.X0)=K65.QU a:=by kernel_rfl
abbrev K65.h:=K65.H K65.F0
theorem K65.Q1V:LO_ K65.h K65.B0 (Z9 (0,14) K65.L0 K65.X0 K65.F0):=lk_ (hn_ Z2) (K65.Q26 K65.F0)
theorem K65.eq (l0:K65.l0T):EqA K65.sig (K65.H l0) Tryz.f147 6 (K65.W (K65.gen l0)):=by intro a x;kernel_rfl
theorem K65.loops:Z3 K65.C= [(.loop K65.B0)]:=by kernel_rfl
theorem K65.ok:NK_ 147 K65.sig (K65.W K65):=ok_ Tryz.func147 (K65.eq K65.F0) (hl_ Z2 (Z7 (by kernel_rfl) K65.Q1V Z5)) K65.loops
def K22.sig:Sig U:=⟨[.ptr,.Q56 0 23 42 8,.data .Qk,.isl .QW],[.obj .Q7,Q5c,.fam 12 (.map true false .Qt .Q1P)],0,[.bool],false,[]⟩
abbrev K22.T:Type:=(Nat)->(Q8)->(List (Qi))->(Q1)->(Fm Qe)->(Nat×(Nat->List (Qd×List (Int))))->Option ((Bool×Unit)×(Q1×Q7q)×Unit)
def K22.W (f:K22.T):K22.sig.F:=λa x=>f a.2.1 a.2.2.1 a.2.2.2.1 x.1 x.2.1 x.2.2.1
def K22.JR5:Ql U:= [(.normal,⟨61,14,[(0,.ptr 13 0 0),(1,.Q1g 13 23 42 8 0)],(13,.obj .Q7)::Q5Z⟩)]
def K22.JR3:Ql U:= [(.normal,⟨61,15,[(0,.ptr 13 0 0),(1,.Q1g 13 23 42 8 0),(6,.ptr 14 0 0),(11,.val (.isl .u64)),(42,vb_)],(13,.obj .Q7)::(14,.obj .Qk)::Q5Z⟩)]
def K22.JR1:Ql U:= [(.normal,⟨61,16,[(0,.ptr 13 0 0),(1,.Q1g 13 23 42 8 0),(6,.ptr 14 0 0),(9,.ptr 15 0 0)],(13,.obj .Q7)::(14,.obj .Qk)::(15,.obj .QW)::Q5Z⟩)]
def K22.JC7:Ql U:= [(.normal,⟨61,14,[],(13,.obj .Q7)::Q5Z⟩)]
def K22.H (cK168:Q3L.T) (cK174:Q1p.T) (cK153:Q4e.T) (cK65:K65.T) (cK132:Q38.T) (cK28:K28.T) (cK163:Q37.T):Hints U:={ Γ:=(Q37.N cK163 (K28.N cK28 (Q38.N cK132 (Qn 147 (K65.sig.native (K65.W cK65)) (Qn 146 (Q4e.sig.native (Q4e.W cK153)) (Qn 145 (Q1p.sig.native (Q1p.W cK174)) (Qn 144 (Q3L.sig.native (Q3L.W cK168)) noΓ))))))),ro:=0,base:=14,Q2B:=jt_ [(1,K22.JR1),(3,K22.JR3),(5,K22.JR5)],Q23:=jt_ [(7,K22.JC7)]}
def K22.gen (cK168:Q3L.T) (cK174:Q1p.T) (cK153:Q4e.T) (cK65:K65.T) (cK132:Q38.T) (cK28:K28.T) (cK163:Q37.T):K22.T:=λp m l h0 g6 g12=>
 (Q0 ((Q0 (cK168 l 8) none λr0=>some ((p,()),(h0,(m,(r0.1.1,(g6,(g12,())))))))) none λr1=>(Q0 (cK174 r1.2.2.2.1) none λr2=>(Q0 ((Q0 (cK153 r2.1.1 r1.2.1.Qs.QI) none λr3=>(bif r3.1.1 then some ((r1.1.1,(r2.1.1,(true,()))),(r1.2.1,(r1.2.2.1,r1.2.2.2.2))) else (Q0 ((r1.2.1.Qf r1.1.1).2) none λr4=>(Q0 (cK65 r1.2.2.1 r1.2.1.Q5k (r1.2.2.2.2.1.2 r4)) none λr5=>some ((r1.1.1,(r2.1.1,(ine r5.1.1 0,()))),(r1.2.1,(r1.2.2.1,((r1.2.2.2.2.1.1,Qr r1.2.2.2.2.1.2 r4 r5.2.1.1),r1.2.2.2.2.2))))))))) none λr6=>(bif r6.1.2.2.1 then some ((false,()),((r6.2.1,r6.2.2.2),())) else (Q0 ((Q0 ((Q0 ((r6.2.1.Qf r6.1.1).3) none λr7=>(Q0 ((@Z25 U Go.Proofs.Tryz.prog 31 UC.Qt UC.Q1P (r6.2.2.1.Q1H) (r6.1.2.1) (r6.2.2.2.2.1.2 r7))) none λ(r8:List (Qd×List Int))=>some (r7,r8)))) none λ(r9:Nat×List (Qd×List Int))=>some ((r6.1.1,()),(r6.2.1,(r6.2.2.2.1,((r6.2.2.2.2.1.1,Qr r6.2.2.2.2.1.2 r9.1 r9.2),())))))) none λr10=>(Q0 (cK132 (r10.2.1.Qf r10.1.1).Q1w) none λr11=>(Q0 ((bif r11.1.1 then (Q0 (cK28 r10.2.1) none λr12=>(Q0 (cK163 r12.1.1 (r10.2.1.Qf r10.1.1).Q45) none λr13=>some ((),(Q1.QT r10.2.1 (Qr r10.2.1.Qf r10.1.1 (Q5.Q3X (r10.2.1.Qf r10.1.1) r13.2.1.1)),r10.2.2)))) else some ((),r10.2))) none λr14=>some ((true,()),(r14.2,())))))))))
def K22:K22.T:=K22.gen Q3L Q1p Q4e K65 Q38 K28 Q37
theorem K22.eq (cK168:Q3L.T) (cK174:Q1p.T) (cK153:Q4e.T) (cK65:K65.T) (cK132:Q38.T) (cK28:K28.T) (cK163:Q37.T):EqA K22.sig (K22.H cK168 cK174 cK153 cK65 cK132 cK28 cK163) Tryz.f75 6 (K22.W (K22.gen cK168 cK174 cK153 cK65 cK132 cK28 cK163)):=by intro a x;kernel_rfl
theorem K22.ok:NK_ 75 K22.sig (K22.W K22):=ok_ Tryz.func75 (K22.eq Q3L Q1p Q4e K65 Q38 K28 Q37) (hn_ (Z0 (Z0 (Z0 (Z0 (Z0 (Z0 (Z0 Z2 Q3L.ok) Q1p.ok) Q4e.ok) K65.ok) Q38.ok) K28.ok) Q37.ok))
def Q39.sig:Sig U:=⟨[.int .i64],[],0,[.int .i64],false,[]⟩
abbrev Q39.T:Type:=(Int)->Option ((Int×Unit)×Unit×Unit)
def Q39.W (f:Q39.T):Q39.sig.F:=λa x=>f a.1
abbrev Q39.N (c:Q39.T):=Qn 185 (Q39.sig.native (Q39.W c))
def Q39.H:Hints U:={ Γ:=noΓ,ro:=0,base:=13}
def Q39.gen:Q39.T:=λcorr=>
 some ((Q5I .i64 corr 16,()),((),()))
def Q39:Q39.T:=Q39.gen
theorem Q39.ok:NK_ 185 Q39.sig (Q39.W Q39):=ok_ (H:=Q39.H) (n:=6) Tryz.func185 (by intro a x;kernel_rfl) (hn_ Z2)
def Q4m.sig:Sig U:=⟨[.data .Qk],[],0,[.data .Q4x],false,[]⟩
abbrev Q4m.T:Type:=(Q8)->Option ((Q24×Unit)×Unit×Unit)
def Q4m.W (f:Q4m.T):Q4m.sig.F:=λa x=>f a.1
def Q4m.H:Hints U:={ Γ:=noΓ,ro:=0,base:=13}
def Q4m.gen:Q4m.T:=λm=>
 some ((Q24.mk m.Q1H m.Q2Y,()),((),()))
def Q4m:Q4m.T:=Q4m.gen
theorem Q4m.ok:NK_ 186 Q4m.sig (Q4m.W Q4m):=ok_ (H:=Q4m.H) (n:=6) Tryz.func186 (by intro a x;kernel_rfl) (hn_ Z2)
def Q1A.sig:Sig U:=⟨[.int .i64,.int .i64],[],0,[.int .i64],false,[]⟩
abbrev Q1A.T:Type:=(Int)->(Int)->Option ((Int×Unit)×Unit×Unit)
def Q1A.W (f:Q1A.T):Q1A.sig.F:=λa x=>f a.1 a.2.1
def Q1A.JC2:Ql U:= [(.normal,⟨26,13,[(0,vi_),(1,vi_)],[]⟩),
 (.ret,⟨26,13,[(4,vi_)],[]⟩)]
def Q1A.H:Hints U:={ Γ:=noΓ,ro:=0,base:=13,Q1L:=jt_ [(1,[(5,vb_)]),(3,[(14,vb_)])],Q23:=jt_ [(2,Q1A.JC2)]}
def Q1A.gen:Q1A.T:=λa b=>
 (Q0 ((bif ilt 0 b then some (ilt (Q1s .i64 9223372036854775807 b) a,()) else some (false,()))) none λr0=>(Q0 ((bif r0.1 then some (.inr (((9223372036854775807:Int),()),())) else (Q0 ((bif ilt b 0 then some (ilt a (Q1s .i64 (-9223372036854775808) b),()) else some (false,()))) none λr1=>(bif r1.1 then some (.inr (((-9223372036854775808:Int),()),())) else some (.inl ((a,(b,())),())))))) none λr2=>(Q3V r2 (λr3=>some ((Q4 .i64 r3.1.1 r3.1.2.1,()),((),()))) (λr3=>some (r3.1,((),()))))))
def Q1A:Q1A.T:=Q1A.gen
theorem Q1A.ok:NK_ 193 Q1A.sig (Q1A.W Q1A):=ok_ (H:=Q1A.H) (n:=6) Tryz.func193 (by intro a x;kernel_rfl) (hn_ Z2)
def Q2I.sig:Sig U:=⟨[.ptr,.data .Qk,.data .Qk,.int .i64],[.obj .Q1j],0,[.int .i64,.bool],true,[]⟩
abbrev Q2I.T:Type:=(Q8)->(Q8)->(Int)->(Qz)->Option ((Int×Bool×Unit)×(Qz×Unit)×Unit)
def Q2I.W (f:Q2I.T):Q2I.sig.F:=λa x=>f a.2.1 a.2.2.1 a.2.2.2.1 x.1
def Q2I.JR1:Ql U:= [(.normal,⟨23,16,[(3,vi_),(5,.ptr 14 0 0),(6,.ptr 15 0 0)],[(13,.obj .Q1j),(14,.obj .Qk),(15,.obj .Qk)]⟩)]
def Q2I.H (cK142:Q4g.T) (cK155:Q1A.T) (cK156:Q39.T):Hints U:={ Γ:=(Q39.N cK156 (Qn 193 (Q1A.sig.native (Q1A.W cK155)) (Q4g.N cK142 noΓ))),ro:=0,base:=14,Q2B:=jt_ [(1,Q2I.JR1)]}
def Q2I.gen (cK142:Q4g.T) (cK155:Q1A.T) (cK156:Q39.T):Q2I.T:=λsync follow at_3 h0=>
 (Q0 ((Q0 (cK142 h0) none λr0=>some ((at_3,()),(r0.2.1.1,(sync,(follow,())))))) none λr1=>(Q0 (cK155 r1.2.2.1.Q4q r1.2.2.2.1.Q4q) none λr2=>(Q0 (cK156 r2.1.1) none λr3=>some ((Q1s .i64 (Q1s .i64 r1.1.1 r1.2.2.2.1.Q44) r3.1.1,(true,())),((r1.2.1,()),())))))
def Q2I:Q2I.T:=Q2I.gen Q4g Q1A Q39
theorem Q2I.eq (cK142:Q4g.T) (cK155:Q1A.T) (cK156:Q39.T):EqA Q2I.sig (Q2I.H cK142 cK155 cK156) Tryz.f187 6 (Q2I.W (Q2I.gen cK142 cK155 cK156)):=by intro a x;kernel_rfl
theorem Q2I.ok:NK_ 187 Q2I.sig (Q2I.W Q2I):=ok_ Tryz.func187 (Q2I.eq Q4g Q1A Q39) (hn_ (Z0 (Z0 (Z0 Z2 Q4g.ok) Q1A.ok) Q39.ok))
def Q3m.sig:Sig U:=⟨[.ptr,.data .Qk,.int .i64],[.obj .Q1j],0,[.int .i64,.bool],true,[]⟩
abbrev Q3m.T:Type:=(Q8)->(Int)->(Qz)->Option ((Int×Bool×Unit)×(Qz×Unit)×Unit)
def Q3m.W (f:Q3m.T):Q3m.sig.F:=λa x=>f a.2.1 a.2.2.1 x.1
def Q3m.C:Code:=match Tryz.f148.body with|some c=>c|none=>.skip
def Q3m.B0:Code:=match (Z3 Q3m.C).getD 0 .skip with| .loop b=>b| .scope b=>b|_=>.skip
def Q3m.JR7:Ql U:= [(.normal,⟨63,14,[(8,vi_),(9,vb_)],[(13,.obj .Q1j)]⟩)]
def Q3m.H (cK156:Q39.T) (cK148:Q4m.T) (cK145:Q2I.T):Hints U:={ Γ:=(Qn 187 (Q2I.sig.native (Q2I.W cK145)) (Qn 186 (Q4m.sig.native (Q4m.W cK148)) (Q39.N cK156 noΓ))),ro:=0,base:=14,Q1L:=jt_ [(5,[(38,vb_)])],Q2B:=jt_ [(6,Q3m.JR7),(7,Q3m.JR7)],gotos:=3,loop:=λb=>none}
def Q3m.gen (cK156:Q39.T) (cK148:Q4m.T) (cK145:Q2I.T):Q3m.T:=λx_1 at_2 h0=>
 (bif ine x_1.fType 0 then some (((0:Int),(false,())),((h0,()),())) else (bif ieq (Q57 .i64 x_1.Q1X 512) 0 then (Q0 (cK156 x_1.Q4q) none λr0=>some ((Q1s .i64 (Q1s .i64 at_2 x_1.Q44) r0.1.1,(true,())),((h0,()),()))) else (Q0 ((bif h0.Q5Y then (Q0 (cK148 h0.Q2o) none λr1=>(Q0 (cK148 x_1) none λr2=>some (bif bif ieq r1.1.1.Q5b.QI r2.1.1.Q5b.QI then bif ieq r1.1.1.Q5b.QR r2.1.1.Q5b.QR then true else false else false then bif ieq r1.1.1.Q5K r2.1.1.Q5K then true else false else false,()))) else some (false,()))) none λr3=>(bif r3.1 then (Q0 ((Q0 (cK145 x_1 h0.Q2o at_2 h0) none λr4=>some (r4.1,r4.2.1))) none λr5=>some (r5.1,(r5.2,()))) else some (((0:Int),(false,())),((Qz.mk x_1 h0.Q2o at_2 true h0.Q5Y,()),()))))))
def Q3m:Q3m.T:=Q3m.gen Q39 Q4m Q2I
theorem Q3m.eq (cK156:Q39.T) (cK148:Q4m.T) (cK145:Q2I.T):EqA Q3m.sig (Q3m.H cK156 cK148 cK145) Tryz.f148 6 (Q3m.W (Q3m.gen cK156 cK148 cK145)):=by intro a x;kernel_rfl
theorem Q3m.loops:Z3 Q3m.C= [(.scope Q3m.B0)]:=by kernel_rfl
theorem Q3m.ok:NK_ 148 Q3m.sig (Q3m.W Q3m):=ok_ Tryz.func148 (Q3m.eq Q39 Q4m Q2I) (hl_ (Z0 (Z0 (Z0 Z2 Q39.ok) Q4m.ok) Q2I.ok) (Zt Z5)) Q3m.loops
def Q25.sig:Sig U:=⟨[.ptr,.data .Qk],[.obj .Q1j],0,[.int .i64,.bool],true,[]⟩
abbrev Q25.T:Type:=(Q8)->(Qz)->Option ((Int×Bool×Unit)×(Qz×Unit)×Unit)
def Q25.W (f:Q25.T):Q25.sig.F:=λa x=>f a.2.1 x.1
def Q25.JR5:Ql U:= [(.normal,⟨45,14,[],[(13,.obj .Q1j)]⟩)]
def Q25.JC2:Ql U:= [(.normal,⟨45,15,[(0,.ptr 13 0 0),(3,.ptr 14 0 0)],[(13,.obj .Q1j),(14,.obj .Qk)]⟩),
 (.ret,⟨45,14,[(4,vi_),(5,vb_)],[(13,.obj .Q1j)]⟩)]
def Q25.H (cK148:Q4m.T) (cK145:Q2I.T):Hints U:={ Γ:=(Qn 187 (Q2I.sig.native (Q2I.W cK145)) (Qn 186 (Q4m.sig.native (Q4m.W cK148)) noΓ)),ro:=0,base:=14,Q1L:=jt_ [(3,[(10,vb_)])],Q2B:=jt_ [(5,Q25.JR5)],Q23:=jt_ [(2,Q25.JC2)]}
def Q25.gen (cK148:Q4m.T) (cK145:Q2I.T):Q25.T:=λx_1 h0=>
 (Q0 ((bif ine x_1.fType 8 then some (.inr (((0:Int),(false,())),(h0,()))) else (Q0 ((bif h0.Q9S then (Q0 (cK148 h0.fsync) none λr0=>(Q0 (cK148 x_1) none λr1=>some (bif bif ieq r0.1.1.Q5b.QI r1.1.1.Q5b.QI then bif ieq r0.1.1.Q5b.QR r1.1.1.Q5b.QR then true else false else false then bif ieq r0.1.1.Q5K r1.1.1.Q5K then true else false else false,()))) else some (false,()))) none λr2=>(bif r2.1 then (Q0 (cK145 h0.fsync x_1 h0.fat h0) none λr3=>some (.inr (r3.1,r3.2.1))) else some (.inl ((),(h0,(x_1,())))))))) none λr4=>(Q3V r4 (λr5=>some (((0:Int),(false,())),((Qz.Q8m (Qz.Qa2 r5.2.1 r5.2.2.1) true,()),()))) (λr5=>some (r5.1,(r5.2,())))))
def Q25:Q25.T:=Q25.gen Q4m Q2I
theorem Q25.eq (cK148:Q4m.T) (cK145:Q2I.T):EqA Q25.sig (Q25.H cK148 cK145) Tryz.f149 6 (Q25.W (Q25.gen cK148 cK145)):=by intro a x;kernel_rfl
theorem Q25.ok:NK_ 149 Q25.sig (Q25.W Q25):=ok_ Tryz.func149 (Q25.eq Q4m Q2I) (hn_ (Z0 (Z0 Z2 Q4m.ok) Q2I.ok))
def Q3b.sig:Sig U:=⟨[.ptr],[.obj .Q1x],1,[.int .i64],false,[]⟩
abbrev Q3b.T:Type:=(Qo)->Option ((Int×Unit)×Unit×Unit)
def Q3b.W (f:Q3b.T):Q3b.sig.F:=λa x=>f x.1
def Q3b.H:Hints U:={ Γ:=noΓ,ro:=14,base:=14}
def Q3b.gen:Q3b.T:=λh0=>
 some ((h0.Q8d,()),((),()))
def Q3b:Q3b.T:=Q3b.gen
theorem Q3b.ok:NK_ 58 Q3b.sig (Q3b.W Q3b):=ok_ (H:=Q3b.H) (n:=6) Tryz.func58 (by intro a x;kernel_rfl) (hn_ Z2)
def Q1M.sig:Sig U:=⟨[.int .i64],[],0,[.int .i64],false,[]⟩
abbrev Q1M.T:Type:=(Int)->Option ((Int×Unit)×Unit×Unit)
def Q1M.W (f:Q1M.T):Q1M.sig.F:=λa x=>f a.1
def Q1M.H (cK162:Q2N.T):Hints U:={ Γ:=(Qn 175 (Q2N.sig.native (Q2N.W cK162)) noΓ),ro:=0,base:=13}
def Q1M.gen (cK162:Q2N.T):Q1M.T:=λlog=>
 (Q0 (cK162 1000000000 log) none λr0=>some (r0.1,((),())))
def Q1M:Q1M.T:=Q1M.gen Q2N
theorem Q1M.eq (cK162:Q2N.T):EqA Q1M.sig (Q1M.H cK162) Tryz.f189 6 (Q1M.W (Q1M.gen cK162)):=by intro a x;kernel_rfl
theorem Q1M.ok:NK_ 189 Q1M.sig (Q1M.W Q1M):=ok_ Tryz.func189 (Q1M.eq Q2N) (hn_ (Z0 Z2 Q2N.ok))
def Q2l.sig:Sig U:=⟨[.int .i64,.int .i64],[],0,[.int .i64],false,[]⟩
abbrev Q2l.T:Type:=(Int)->(Int)->Option ((Int×Unit)×Unit×Unit)
def Q2l.W (f:Q2l.T):Q2l.sig.F:=λa x=>f a.1 a.2.1
def Q2l.H:Hints U:={ Γ:=noΓ,ro:=0,base:=13}
def Q2l.gen:Q2l.T:=λv most=>
 some ((Z4 true (IntKind.wrap .i64 ((0:Int) - most)) (Z4 false v most),()),((),()))
def Q2l:Q2l.T:=Q2l.gen
theorem Q2l.ok:NK_ 203 Q2l.sig (Q2l.W Q2l):=ok_ (H:=Q2l.H) (n:=6) Tryz.func203 (by intro a x;kernel_rfl) (hn_ Z2)
def Q3A.sig:Sig U:=⟨[.ptr,.int .i64,.int .i64],[.obj .Q1x],0,[.int .i64,.bool,.int .i64],true,[]⟩
abbrev Q3A.T:Type:=(Int)->(Int)->(Qo)->Option ((Int×Bool×Int×Unit)×(Qo×Unit)×Unit)
def Q3A.W (f:Q3A.T):Q3A.sig.F:=λa x=>f a.2.1 a.2.2.1 x.1
def Q3A.C:Code:=match Tryz.f188.body with|some c=>c|none=>.skip
def Q3A.B0:Code:=match (Z3 Q3A.C).getD 0 .skip with| .loop b=>b| .scope b=>b|_=>.skip
def Q3A.JC18:Ql U:= [(.normal,⟨141,14,[(0,.ptr 13 0 0)],[(13,.obj .Q1x)]⟩)]
def Q3A.JC16:Ql U:= [(.normal,⟨141,14,[(0,.ptr 13 0 0),(1,vi_)],[(13,.obj .Q1x)]⟩)]
def Q3A.H (cK152:Q2l.T):Hints U:={ Γ:=(Qn 203 (Q2l.sig.native (Q2l.W cK152)) noΓ),ro:=0,base:=14,Q1L:=jt_ [(4,[(45,vb_)]),(10,[(91,vb_)]),(15,[(114,vb_)]),(19,[(127,vb_)])],Q23:=jt_ [(16,Q3A.JC16),(18,Q3A.JC18)],gotos:=3,loop:=λb=>none}
def Q3A.gen (cK152:Q2l.T):Q3A.T:=λoffset interval h0=>
 (Q0 (cK152 offset 4000000000000000) none λr0=>(Q0 ((bif ieq h0.Q1w 0 then some (true,()) else (bif ieq h0.Q9t 0 then some (true,()) else (bif ilt h0.Q9t r0.1.1 then some (true,()) else some (ilt r0.1.1 (IntKind.wrap .i64 ((0:Int) - h0.Q9t)),()))))) none λr1=>(bif r1.1 then some ((IntKind.wrap .i64 ((0:Int) - r0.1.1),(true,(h0.Q8d,()))),((Qo.Q6v (Qo.Q3C h0 1) 0,()),())) else (bif ine (Z4 true 1 (Z4 false interval 16000000000)) 0 then (Q0 (cK152 (Q51 .i64 (Q3n .i64 r0.1.1 1000000000) (Z4 true 1 (Z4 false interval 16000000000))) 512000000) none λr2=>(Q0 (cK152 (Q4 .i64 h0.Q9T (Q51 .i64 (Q3n .i64 h0.fki r2.1.1) 1000)) 512000) none λr3=>(Q0 ((bif ilt 512000 (Q1s .i64 (IntKind.wrap .i64 ((0:Int) - Q51 .i64 (Q3n .i64 h0.fkp r2.1.1) 1000)) r3.1.1) then some (true,()) else some (ilt (Q1s .i64 (IntKind.wrap .i64 ((0:Int) - Q51 .i64 (Q3n .i64 h0.fkp r2.1.1) 1000)) r3.1.1) (-512000),()))) none λr4=>(bif r4.1 then (Q0 (cK152 (Q1s .i64 (IntKind.wrap .i64 ((0:Int) - Q51 .i64 (Q3n .i64 h0.fkp r2.1.1) 1000)) r3.1.1) 512000) none λr5=>(Q0 ((bif ilt 100 r0.1.1 then some (true,()) else some (ilt r0.1.1 (-100),()))) none λr6=>(Q0 ((bif r6.1 then some (r0.1,(Qo.Q6v (Qo.Q73 h0 r5.1.1) 0,())) else some (r0.1,(Qo.Q6v (Qo.Q73 h0 r5.1.1) (Q4 .i64 h0.Q86 1),())))) none λr7=>(Q0 ((bif ile 3 r7.2.1.Q86 then some ((),(Qo.Q3C r7.2.1 2,())) else (Q0 ((bif ilt 1000 r7.1.1 then some (true,()) else some (ilt r7.1.1 (-1000),()))) none λr8=>(bif r8.1 then some ((),(Qo.Q3C r7.2.1 1,())) else some ((),r7.2))))) none λr9=>some (((0:Int),(false,(r9.2.1.Q8d,()))),(r9.2,())))))) else (Q0 ((bif ilt 100 r0.1.1 then some (true,()) else some (ilt r0.1.1 (-100),()))) none λr10=>(Q0 ((bif r10.1 then some (r0.1,(Qo.Q6v (Qo.Q8J (Qo.Q73 h0 (Q1s .i64 (IntKind.wrap .i64 ((0:Int) - Q51 .i64 (Q3n .i64 h0.fkp r2.1.1) 1000)) r3.1.1)) r3.1.1) 0,())) else some (r0.1,(Qo.Q6v (Qo.Q8J (Qo.Q73 h0 (Q1s .i64 (IntKind.wrap .i64 ((0:Int) - Q51 .i64 (Q3n .i64 h0.fkp r2.1.1) 1000)) r3.1.1)) r3.1.1) (Q4 .i64 h0.Q86 1),())))) none λr11=>(Q0 ((bif ile 3 r11.2.1.Q86 then some ((),(Qo.Q3C r11.2.1 2,())) else (Q0 ((bif ilt 1000 r11.1.1 then some (true,()) else some (ilt r11.1.1 (-1000),()))) none λr12=>(bif r12.1 then some ((),(Qo.Q3C r11.2.1 1,())) else some ((),r11.2))))) none λr13=>some (((0:Int),(false,(r13.2.1.Q8d,()))),(r13.2,()))))))))) else none))))
def Q3A:Q3A.T:=Q3A.gen Q2l
theorem Q3A.eq (cK152:Q2l.T):EqA Q3A.sig (Q3A.H cK152) Tryz.f188 6 (Q3A.W (Q3A.gen cK152)):=by intro a x;kernel_rfl
theorem Q3A.loops:Z3 Q3A.C= [(.scope Q3A.B0)]:=by kernel_rfl
theorem Q3A.ok:NK_ 188 Q3A.sig (Q3A.W Q3A):=ok_ Tryz.func188 (Q3A.eq Q2l) (hl_ (Z0 Z2 Q2l.ok) (Zt Z5)) Q3A.loops
def K29.sig:Sig U:=⟨[.ptr,.Q56 0 23 42 8,.int .i64],[.obj .Q7,Q6e,Q4R,Q53,Q5y,Q4N],0,[],true,[]⟩
abbrev K29.T:Type:=(Nat)->(Int)->(Q1)->(Fm Qo)->(Fm Qg)->(Fm Qb)->(Fm Qh)->(Fm Qz)->Option (Unit×(Q1×Q8o)×Unit)
def K29.W (f:K29.T):K29.sig.F:=λa x=>f a.2.1 a.2.2.1 x.1 x.2.1 x.2.2.1 x.2.2.2.1 x.2.2.2.2.1 x.2.2.2.2.2.1
def K29.L0:Shape U:=⟨125,14,[(0,.ptr 13 0 0),(1,.Q1g 13 23 42 8 0),(68,vi_),(69,vi_)],(13,.obj .Q7)::Q6V⟩
def K29.X0:Ql U:= [(.exit 1,⟨125,14,[(0,.ptr 13 0 0),(1,.Q1g 13 23 42 8 0)],(13,.obj .Q7)::Q6V⟩)]
abbrev K29.l0T:Type:=((Nat×Int×Int×Unit)×(Q1×Q8o))->Option (((Nat×Unit)×(Q1×Q8o)))
def K29.C:Code:=match Tryz.f150.body with|some c=>c|none=>.skip
def K29.B0:Code:=match (Z3 K29.C).getD 0 .skip with| .loop b=>b| .scope b=>b|_=>.skip
def K29.JR14:Ql U:= [(.normal,⟨125,14,[(0,.ptr 13 0 0),(1,.Q1g 13 23 42 8 0),(68,vi_),(69,vi_)],(13,.obj .Q7)::Q6V⟩)]
def K29.Q9O:Ql U:= [(.normal,⟨125,14,[(0,.ptr 13 0 0),(1,.Q1g 13 23 42 8 0),(11,.Q1g 13 23 42 8 0),(68,vi_),(69,vi_)],(13,.obj .Q7)::Q6V⟩)]
def K29.JR6:Ql U:= [(.normal,⟨125,14,[(0,.ptr 13 0 0),(1,.Q1g 13 23 42 8 0)],(13,.obj .Q7)::Q6V⟩)]
def K29.JR2:Ql U:= [(.normal,⟨125,14,[(0,.ptr 13 0 0),(1,.Q1g 13 23 42 8 0),(6,vi_),(7,vi_),(8,vb_),(9,vi_)],(13,.obj .Q7)::Q6V⟩)]
def K29.JR0:Ql U:= [(.normal,⟨125,14,[(0,.ptr 13 0 0),(1,.Q1g 13 23 42 8 0),(2,vi_)],(13,.obj .Q7)::Q6V⟩)]
def K29.H (cK150:Q3b.T) (cK159:Q1M.T) (cK151:Q3A.T) (cK92:K92.T) (cK142:Q4g.T) (cK56:K56.T) (cK121:Q3T.T) (cK133:Q1h.T) (l0:K29.l0T):Hints U:={ Γ:=(Q1h.N cK133 (Q3T.N cK121 (K56.N cK56 (Q4g.N cK142 (Qn 139 (K92.sig.native (K92.W cK92)) (Qn 188 (Q3A.sig.native (Q3A.W cK151)) (Qn 189 (Q1M.sig.native (Q1M.W cK159)) (Qn 58 (Q3b.sig.native (Q3b.W cK150)) noΓ)))))))),ro:=0,base:=14,Q2B:=jt_ [(0,K29.JR0),(2,K29.JR2),(4,K29.JR6),(5,K29.JR6),(6,K29.JR6),(11,K29.Q9O),(12,K29.Q9O),(13,K29.Q9O),(14,K29.JR14)],Q23:=jt_ [(4,K29.JR6)],loop:=jt_ [(8,(Z9 (0,14) K29.L0 K29.X0 l0))]}
def K29.QU (cK150:Q3b.T) (cK159:Q1M.T) (cK151:Q3A.T) (cK92:K92.T) (cK142:Q4g.T) (cK56:K56.T) (cK121:Q3T.T) (cK133:Q1h.T) (a:(Nat×Int×Int×Unit)×(Q1×Q8o)):Option (((Nat×Int×Int×Unit)×(Q1×Q8o))⊕(((Nat×Unit)×(Q1×Q8o)))):=
 (bif ilt a.1.2.2.1 a.1.2.1 then (bif inR a.1.2.2.1 8 then (Q0 ((Q0 ((a.2.1.Qf (Int.toNat a.1.2.2.1)).12) none λr0=>(Q0 (cK142 (a.2.2.2.2.2.2.1.2 r0)) none λr1=>some ((a.1.1,(Int.toNat a.1.2.2.1,a.1.2)),(a.2.1,(a.2.2.1,(a.2.2.2.1,(a.2.2.2.2.1,(a.2.2.2.2.2.1,((a.2.2.2.2.2.2.1.1,Qr a.2.2.2.2.2.2.1.2 r0 r1.2.1.1),())))))))))) none λr2=>(Q0 ((Q0 ((r2.2.1.Qf r2.1.2.1).13) none λr3=>(Q0 (cK56 (r2.2.2.2.1.2 r3)) none λr4=>some (r2.1,(r2.2.1,(r2.2.2.1,((r2.2.2.2.1.1,Qr r2.2.2.2.1.2 r3 r4.2.1.1),r2.2.2.2.2))))))) none λr5=>(Q0 ((Q0 ((r5.2.1.Qf r5.1.2.1).14) none λr6=>(Q0 (cK121 (r5.2.2.2.2.1.2 r6)) none λr7=>some (r5.1,(r5.2.1,(r5.2.2.1,(r5.2.2.2.1,((r5.2.2.2.2.1.1,Qr r5.2.2.2.2.1.2 r6 r7.2.1.1),r5.2.2.2.2.2)))))))) none λr8=>some (.inl ((r8.1.1,(r8.1.2.2.1,(Q4 .i64 r8.1.2.2.2.1 1,()))),(Q1.QT r8.2.1 (Qr r8.2.1.Qf r8.1.2.1 (Q5.Q5T (r8.2.1.Qf r8.1.2.1) z4_)),r8.2.2)))))) else none) else some (.inr ((a.1.1,()),a.2)))
def K29.F0:K29.l0T:=λa=>Z8 (1000000) (K29.QU Q3b Q1M Q3A K92 Q4g K56 Q3T Q1h) a
def K29.gen (cK150:Q3b.T) (cK159:Q1M.T) (cK151:Q3A.T) (cK92:K92.T) (cK142:Q4g.T) (cK56:K56.T) (cK121:Q3T.T) (cK133:Q1h.T) (l0:K29.l0T):K29.T:=λp offset h0 g5 g7 g8 g9 g10=>
 (Q0 (h0.5) none λr0=>(Q0 (cK150 (g5.2 r0)) none λr1=>(Q0 ((Q0 (h0.5) none λr2=>(Q0 (cK159 h0.Qs.Q3h) none λr3=>(Q0 (cK151 offset r3.1.1 (g5.2 r2)) none λr4=>some ((p,(r1.1.1,r4.1)),(Q1.Qa3 h0 offset,((g5.1,Qr g5.2 r2 r4.2.1.1),(g7,(g8,(g9,(g10,()))))))))))) none λr5=>(Q0 ((bif r5.1.2.2.2.1 then (Q0 ((bif room (List.length r5.2.1.Q2p+List.length (QJ.mk 2 0 r5.1.2.2.1 false 0 0 (ByteArray.mk (List.toArray (Qm UInt8)))::Qm QJ)) 64 then some ((r5.1.1,()),(Q1.Q17 r5.2.1 (r5.2.1.Q2p++QJ.mk 2 0 r5.1.2.2.1 false 0 0 (ByteArray.mk (List.toArray (Qm UInt8)))::Qm QJ),r5.2.2)) else none)) none λr6=>(Q0 ((Q0 (r6.2.1.6) none λr7=>(Q0 (cK92 (r6.2.2.2.2.2.1.2 r7)) none λr8=>some (r6.1,(r6.2.1,(r6.2.2.1,(r6.2.2.2.1,(r6.2.2.2.2.1,((r6.2.2.2.2.2.1.1,Qr r6.2.2.2.2.2.1.2 r7 r8.2.1.1),r6.2.2.2.2.2.2))))))))) none λr9=>(bif le3 (ofN 0) r9.2.1.Qs.QB 8 then (Q0 (l0 ((r9.1.1,ofN (Int.toNat r9.2.1.Qs.QB - Int.toNat (ofN 0)),(0:Int),()),Q1.Q6A r9.2.1 z4_,r9.2.2)) none λr10=>some r10) else none))) else (bif ine r5.1.2.2.2.2.1 r5.1.2.1 then (bif room (List.length r5.2.1.Q2p+List.length (QJ.mk 3 0 r5.1.2.2.2.2.1 false 0 0 (ByteArray.mk (List.toArray (Qm UInt8)))::Qm QJ)) 64 then some ((r5.1.1,()),(Q1.Q17 r5.2.1 (r5.2.1.Q2p++QJ.mk 3 0 r5.1.2.2.2.2.1 false 0 0 (ByteArray.mk (List.toArray (Qm UInt8)))::Qm QJ),r5.2.2)) else none) else some ((r5.1.1,()),r5.2)))) none λr11=>(Q0 (cK133 (r11.2.1.Qf r11.1.1).Q1w 6 r11.2.1.Qs.Q2t) none λr12=>some ((),((Q1.QT r11.2.1 (Qr r11.2.1.Qf r11.1.1 (Q5.Q3C (r11.2.1.Qf r11.1.1) r12.1.1)),r11.2.2),())))))))
def K29:K29.T:=K29.gen Q3b Q1M Q3A K92 Q4g K56 Q3T Q1h K29.F0
theorem K29.Q26 (cK150:Q3b.T) (cK159:Q1M.T) (cK151:Q3A.T) (cK92:K92.T) (cK142:Q4g.T) (cK56:K56.T) (cK121:Q3T.T) (cK133:Q1h.T) (l0:K29.l0T) (a:K29.L0.T):run Tryz.prog (K29.H cK150 cK159 cK151 cK92 cK142 cK56 cK121 cK133 l0) 6 (Option (K29.L0.T⊕ExT K29.X0)) none K29.B0 (K29.L0.enc a) (Zj (0,14) K29.L0 K29.X0)=K29.QU cK150 cK159 cK151 cK92 cK142 cK56 cK121 cK133 a:=by kernel_rfl
abbrev K29.h:=K29.H Q3b Q1M Q3A K92 Q4g K56 Q3T Q1h K29.F0
theorem K29.Q1V:LO_ K29.h K29.B0 (Z9 (0,14) K29.L0 K29.X0 K29.F0):=lk_ (hn_ (Z0 (Z0 (Z0 (Z0 (Z0 (Z0 (Z0 (Z0 Z2 Q3b.ok) Q1M.ok) Q3A.ok) K92.ok) Q4g.ok) K56.ok) Q3T.ok) Q1h.ok)) (K29.Q26 Q3b Q1M Q3A K92 Q4g K56 Q3T Q1h K29.F0)
theorem K29.eq (cK150:Q3b.T) (cK159:Q1M.T) (cK151:Q3A.T) (cK92:K92.T) (cK142:Q4g.T) (cK56:K56.T) (cK121:Q3T.T) (cK133:Q1h.T) (l0:K29.l0T):EqA K29.sig (K29.H cK150 cK159 cK151 cK92 cK142 cK56 cK121 cK133 l0) Tryz.f150 6 (K29.W (K29.gen cK150 cK159 cK151 cK92 cK142 cK56 cK121 cK133 l0)):=by intro a x;kernel_rfl
theorem K29.loops:Z3 K29.C= [(.loop K29.B0)]:=by kernel_rfl
theorem K29.ok:NK_ 150 K29.sig (K29.W K29):=ok_ Tryz.func150 (K29.eq Q3b Q1M Q3A K92 Q4g K56 Q3T Q1h K29.F0) (hl_ (Z0 (Z0 (Z0 (Z0 (Z0 (Z0 (Z0 (Z0 Z2 Q3b.ok) Q1M.ok) Q3A.ok) K92.ok) Q4g.ok) K56.ok) Q3T.ok) Q1h.ok) (Z7 (by kernel_rfl) K29.Q1V Z5)) K29.loops
def K19.sig:Sig U:=⟨[.ptr,.Q56 0 23 42 8,.data .Qk,.int .i64],[.obj .Q7,Q6e,Q4R,Q53,Q5y,Q4N],0,[],true,[]⟩
abbrev K19.T:Type:=(Nat)->(Q8)->(Int)->(Q1)->(Fm Qo)->(Fm Qg)->(Fm Qb)->(Fm Qh)->(Fm Qz)->Option (Unit×(Q1×Q8o)×Unit)
def K19.W (f:K19.T):K19.sig.F:=λa x=>f a.2.1 a.2.2.1 a.2.2.2.1 x.1 x.2.1 x.2.2.1 x.2.2.2.1 x.2.2.2.2.1 x.2.2.2.2.2.1
def K19.JR6:Ql U:= [(.normal,⟨62,15,[(0,.ptr 13 0 0),(1,.Q1g 13 23 42 8 0),(8,vi_),(10,.ptr 14 0 0)],(13,.obj .Q7)::(14,.obj .Q29)::Q6V⟩)]
def K19.JR5:Ql U:= [(.normal,⟨62,14,[(0,.ptr 13 0 0),(1,.Q1g 13 23 42 8 0),(8,vi_)],(13,.obj .Q7)::Q6V⟩)]
def K19.JR1:Ql U:= [(.normal,⟨62,15,[(0,.ptr 13 0 0),(1,.Q1g 13 23 42 8 0),(6,.ptr 14 0 0),(8,vi_),(9,vb_)],(13,.obj .Q7)::(14,.obj .Qk)::Q6V⟩)]
def K19.JC3:Ql U:= [(.normal,⟨62,14,[(0,.ptr 13 0 0),(1,.Q1g 13 23 42 8 0),(8,vi_),(9,vb_)],(13,.obj .Q7)::Q6V⟩)]
def K19.H (cK144:Q3m.T) (cK143:Q25.T) (cK29:K29.T):Hints U:={ Γ:=(Qn 150 (K29.sig.native (K29.W cK29)) (Qn 149 (Q25.sig.native (Q25.W cK143)) (Qn 148 (Q3m.sig.native (Q3m.W cK144)) noΓ))),ro:=0,base:=14,Q2B:=jt_ [(1,K19.JR1),(5,K19.JR5),(6,K19.JR6)],Q23:=jt_ [(3,K19.JC3),(8,K19.JR6)]}
def K19.gen (cK144:Q3m.T) (cK143:Q25.T) (cK29:K29.T):K19.T:=λp m now h0 g5 g7 g8 g9 g10=>
 (Q0 ((Q0 ((h0.Qf p).12) none λr0=>(Q0 (cK144 m now (g10.2 r0)) none λr1=>some ((p,r1.1),(h0,(m,(g5,(g7,(g8,(g9,((g10.1,Qr g10.2 r0 r1.2.1.1),()))))))))))) none λr2=>(Q0 ((bif ieq r2.2.2.1.fType 8 then (Q0 ((r2.2.1.Qf r2.1.1).12) none λr3=>(Q0 (cK143 r2.2.2.1 (r2.2.2.2.2.2.2.2.1.2 r3)) none λr4=>some ((r2.1.1,r4.1),(r2.2.1,(r2.2.2.2.1,(r2.2.2.2.2.1,(r2.2.2.2.2.2.1,(r2.2.2.2.2.2.2.1,((r2.2.2.2.2.2.2.2.1.1,Qr r2.2.2.2.2.2.2.2.1.2 r3 r4.2.1.1),()))))))))) else some (r2.1,(r2.2.1,r2.2.2.2)))) none λr5=>(bif !r5.1.2.2.1 then some ((),(r5.2,())) else (Q0 ((bif r5.2.1.Qs.Q4r then some ((r5.1.1,(r5.1.2.1,())),(Q1.QT r5.2.1 (Qr r5.2.1.Qf r5.1.1 (Q5.Q5T (r5.2.1.Qf r5.1.1) (Q13.mk r5.1.2.1 true))),((Qr r5.2.1.Qf r5.1.1 (Q5.Q5T (r5.2.1.Qf r5.1.1) (Q13.mk r5.1.2.1 true)) r5.1.1).Q4a,r5.2.2))) else some ((r5.1.1,(r5.1.2.1,())),(Q1.QT r5.2.1 (Qr r5.2.1.Qf r5.1.1 (Q5.Q5T (r5.2.1.Qf r5.1.1) (Q13.mk r5.1.2.1 true))),(r5.2.1.Q4h,r5.2.2))))) none λr6=>(bif r6.2.2.1.fis then (Q0 (cK29 r6.1.1 (Q1s .i64 r6.1.2.1 r6.2.2.1.fv) r6.2.1 r6.2.2.2.1 r6.2.2.2.2.1 r6.2.2.2.2.2.1 r6.2.2.2.2.2.2.1 r6.2.2.2.2.2.2.2.1) none λr7=>some ((),r7.2)) else some ((),((r6.2.1,r6.2.2.2),())))))))
def K19:K19.T:=K19.gen Q3m Q25 K29
theorem K19.eq (cK144:Q3m.T) (cK143:Q25.T) (cK29:K29.T):EqA K19.sig (K19.H cK144 cK143 cK29) Tryz.f77 6 (K19.W (K19.gen cK144 cK143 cK29)):=by intro a x;kernel_rfl
theorem K19.ok:NK_ 77 K19.sig (K19.W K19):=ok_ Tryz.func77 (K19.eq Q3m Q25 K29) (hn_ (Z0 (Z0 (Z0 Z2 Q3m.ok) Q25.ok) K29.ok))
def K55.sig:Sig U:=⟨[.data .Qk,.data .Qt,.int .i64,.int .i64],[],0,[.data .Qk,.bool],true,[]⟩
abbrev K55.T:Type:=(Q8)->(Qd)->(Int)->(Int)->Option ((Q8×Bool×Unit)×Unit×Unit)
def K55.W (f:K55.T):K55.sig.F:=λa x=>f a.1 a.2.1 a.2.2.1 a.2.2.2.1
def K55.H (cK158:Q3E.T):Hints U:={ Γ:=(Q3E.N cK158 noΓ),ro:=0,base:=13,Q1L:=jt_ [(1,[(17,vb_)])]}
def K55.gen (cK158:Q3E.T):K55.T:=λm self at_2 log=>
 (Q0 ((bif ine m.fType 1 then some (true,()) else (Q0 (cK158 at_2) none λr0=>some (!r0.1.1,())))) none λr1=>(bif r1.1 then some ((Q8.mk 0 0 0 0 z0_ 0 0 0 z0_ 0 0 z1_ 0 0 0 0 0 0 0,(false,())),((),())) else some ((Q8.mk 9 m.Q1D 0 m.Q4q self m.Q2Y log at_2 m.Q1H 0 0 z1_ 0 0 0 0 0 0 0,(true,())),((),()))))
def K55:K55.T:=K55.gen Q3E
theorem K55.eq (cK158:Q3E.T):EqA K55.sig (K55.H cK158) Tryz.f78 6 (K55.W (K55.gen cK158)):=by intro a x;kernel_rfl
theorem K55.ok:NK_ 78 K55.sig (K55.W K55):=ok_ Tryz.func78 (K55.eq Q3E) (hn_ (Z0 Z2 Q3E.ok))
def K58.sig:Sig U:=⟨[.ptr,.data .Qk],[.obj .Q10],0,[.int .i64,.bool],true,[]⟩
abbrev K58.T:Type:=(Q8)->(Qg)->Option ((Int×Bool×Unit)×(Qg×Unit)×Unit)
def K58.W (f:K58.T):K58.sig.F:=λa x=>f a.2.1 x.1
def K58.H (cK156:Q39.T) (cK56:K56.T):Hints U:={ Γ:=(K56.N cK56 (Q39.N cK156 noΓ)),ro:=0,base:=14,Q1L:=jt_ [(1,[(36,vb_)])]}
def K58.gen (cK156:Q39.T) (cK56:K56.T):K58.T:=λm h0=>
 (Q0 ((bif ine m.fType 9 then some (true,()) else (bif !bif ieq m.Q2e.QI h0.Q5D.QI then bif ieq m.Q2e.QR h0.Q5D.QR then true else false else false then some (true,()) else (bif !h0.fr.Q6l then some (true,()) else some (ine m.Q2Y h0.fr.Q5K,()))))) none λr0=>(bif r0.1 then some (((0:Int),(false,())),((h0,()),())) else (Q0 (cK156 m.Q4q) none λr1=>(Q0 (cK56 h0) none λr2=>some ((Q1s .i64 (Q1s .i64 m.Q44 h0.fr.fat) r1.1.1,(true,())),r2.2)))))
def K58:K58.T:=K58.gen Q39 K56
theorem K58.eq (cK156:Q39.T) (cK56:K56.T):EqA K58.sig (K58.H cK156 cK56) Tryz.f152 6 (K58.W (K58.gen cK156 cK56)):=by intro a x;kernel_rfl
theorem K58.ok:NK_ 152 K58.sig (K58.W K58):=ok_ Tryz.func152 (K58.eq Q39 K56) (hn_ (Z0 (Z0 Z2 Q39.ok) K56.ok))
def Q2n.sig:Sig U:=⟨[.int .i64,.int .i64],[],0,[.cpx,.bool],true,[]⟩
abbrev Q2n.T:Type:=(Int)->(Int)->Option ((((Nat×Nat))×Bool×Unit)×Unit×Unit)
def Q2n.W (f:Q2n.T):Q2n.sig.F:=λa x=>f a.1 a.2.1
def Q2n.H:Hints U:={ Γ:=noΓ,ro:=0,base:=13,Q1L:=jt_ [(1,[(19,vb_)])]}
def Q2n.gen:Q2n.T:=λa b=>
 (Q0 ((bif ilt a (-4000000000000000) then some (true,()) else (bif ilt 4000000000000000 a then some (true,()) else (bif ilt b (-4000000000000000) then some (true,()) else some (ilt 4000000000000000 b,()))))) none λr0=>(bif r0.1 then some (((0,0),(false,())),((),())) else some (((Go.floatOfInt Go.FloatKind.f64 a,Go.floatOfInt Go.FloatKind.f64 b),(true,())),((),()))))
def Q2n:Q2n.T:=Q2n.gen
theorem Q2n.ok:NK_ 153 Q2n.sig (Q2n.W Q2n):=ok_ (H:=Q2n.H) (n:=6) Tryz.func153 (by intro a x;kernel_rfl) (hn_ Z2)
def K91.sig:Sig U:=⟨[.flt],[],0,[.flt],false,[]⟩
abbrev K91.T:Type:=(Nat)->Option ((Nat×Unit)×Unit×Unit)
def K91.W (f:K91.T):K91.sig.F:=λa x=>f a.1
def K91.H:Hints U:={ Γ:=(Qn 222 Z5b noΓ),ro:=0,base:=13}
def K91.gen:K91.T:=λx_0=>
 (Q0 ((Z2k (x_0))) none λr0=>some ((r0,()),((),())))
def K91:K91.T:=K91.gen
theorem K91.ok:NK_ 220 K91.sig (K91.W K91):=ok_ (H:=K91.H) (n:=6) Tryz.func220 (by intro a x;kernel_rfl) (hn_ (Z0 Z2 (Z7D Tryz.func222 rfl (by kernel_rfl) (by kernel_rfl) (by kernel_rfl))))
def K90.sig:Sig U:=⟨[.flt],[],0,[.bool],false,[]⟩
abbrev K90.T:Type:=(Nat)->Option ((Bool×Unit)×Unit×Unit)
def K90.W (f:K90.T):K90.sig.F:=λa x=>f a.1
def K90.H:Hints U:={ Γ:=(Qn 224 Z3N noΓ),ro:=0,base:=13}
def K90.gen:K90.T:=λx_0=>
 some ((ilt (IntKind.wrap .i64 (ofN x_0)) 0,()),((),()))
def K90:K90.T:=K90.gen
theorem K90.ok:NK_ 221 K90.sig (K90.W K90):=ok_ (H:=K90.H) (n:=6) Tryz.func221 (by intro a x;kernel_rfl) (hn_ (Z0 Z2 (Z6B Tryz.func224 rfl (by kernel_rfl) (by kernel_rfl) (by kernel_rfl))))
def Q3y.sig:Sig U:=⟨[.flt],[],0,[.bool],false,[]⟩
abbrev Q3y.T:Type:=(Nat)->Option ((Bool×Unit)×Unit×Unit)
def Q3y.W (f:Q3y.T):Q3y.sig.F:=λa x=>f a.1
def Q3y.H (cK91:K91.T) (cK90:K90.T):Hints U:={ Γ:=(Qn 221 (K90.sig.native (K90.W cK90)) (Qn 220 (K91.sig.native (K91.W cK91)) noΓ)),ro:=0,base:=13}
def Q3y.gen (cK91:K91.T) (cK90:K90.T):Q3y.T:=λf=>
 (bif Ieee.Format.order (Go.FloatKind.format Go.FloatKind.f64) f 14063734437023318016==some Ordering.gt||Ieee.Format.order (Go.FloatKind.format Go.FloatKind.f64) f 14063734437023318016==some Ordering.eq then (bif Ieee.Format.order (Go.FloatKind.format Go.FloatKind.f64) f 4840362400168542208==some Ordering.lt||Ieee.Format.order (Go.FloatKind.format Go.FloatKind.f64) f 4840362400168542208==some Ordering.eq then (Q0 (cK91 f) none λr0=>(bif Ieee.Format.order (Go.FloatKind.format Go.FloatKind.f64) f r0.1.1==some Ordering.eq then (bif Ieee.Format.order (Go.FloatKind.format Go.FloatKind.f64) f 0 !=some Ordering.eq then some ((true,()),((),())) else (Q0 (cK90 f) none λr1=>some ((!r1.1.1,()),((),())))) else some ((false,()),((),())))) else some ((false,()),((),()))) else some ((false,()),((),())))
def Q3y:Q3y.T:=Q3y.gen K91 K90
theorem Q3y.eq (cK91:K91.T) (cK90:K90.T):EqA Q3y.sig (Q3y.H cK91 cK90) Tryz.f214 6 (Q3y.W (Q3y.gen cK91 cK90)):=by intro a x;kernel_rfl
theorem Q3y.ok:NK_ 214 Q3y.sig (Q3y.W Q3y):=ok_ Tryz.func214 (Q3y.eq K91 K90) (hn_ (Z0 (Z0 Z2 K91.ok) K90.ok))
def Q1f.sig:Sig U:=⟨[.cpx],[],0,[.bool],false,[]⟩
abbrev Q1f.T:Type:=((Nat×Nat))->Option ((Bool×Unit)×Unit×Unit)
def Q1f.W (f:Q1f.T):Q1f.sig.F:=λa x=>f a.1
def Q1f.H (cK119:Q3y.T):Hints U:={ Γ:=(Qn 214 (Q3y.sig.native (Q3y.W cK119)) noΓ),ro:=0,base:=13}
def Q1f.gen (cK119:Q3y.T):Q1f.T:=λz=>
 (Q0 (cK119 z.1) none λr0=>(bif r0.1.1 then (Q0 (cK119 z.2) none λr1=>some (r1.1,((),()))) else some ((false,()),((),()))))
def Q1f:Q1f.T:=Q1f.gen Q3y
theorem Q1f.eq (cK119:Q3y.T):EqA Q1f.sig (Q1f.H cK119) Tryz.f204 6 (Q1f.W (Q1f.gen cK119)):=by intro a x;kernel_rfl
theorem Q1f.ok:NK_ 204 Q1f.sig (Q1f.W Q1f):=ok_ Tryz.func204 (Q1f.eq Q3y) (hn_ (Z0 Z2 Q3y.ok))
def Q33.sig:Sig U:=⟨[.cpx],[],0,[.cpx,.bool],true,[]⟩
abbrev Q33.T:Type:=((Nat×Nat))->Option ((((Nat×Nat))×Bool×Unit)×Unit×Unit)
def Q33.W (f:Q33.T):Q33.sig.F:=λa x=>f a.1
def Q33.H (cK118:Q1f.T):Hints U:={ Γ:=(Qn 204 (Q1f.sig.native (Q1f.W cK118)) noΓ),ro:=0,base:=13}
def Q33.gen (cK118:Q1f.T):Q33.T:=λz=>
 (Q0 (cK118 z) none λr0=>(bif !r0.1.1 then some (((0,0),(false,())),((),())) else (Q0 ((Go.cMulBits (z.1) (z.2) (4607182418800017408) (4607182418800017408))) none λr1=>some ((r1,(true,())),((),())))))
def Q33:Q33.T:=Q33.gen Q1f
theorem Q33.eq (cK118:Q1f.T):EqA Q33.sig (Q33.H cK118) Tryz.f190 6 (Q33.W (Q33.gen cK118)):=by intro a x;kernel_rfl
theorem Q33.ok:NK_ 190 Q33.sig (Q33.W Q33):=ok_ Tryz.func190 (Q33.eq Q1f) (hn_ (Z0 Z2 Q1f.ok))
def Q1S.sig:Sig U:=⟨[.cpx],[],0,[.int .i64,.bool],true,[]⟩
abbrev Q1S.T:Type:=((Nat×Nat))->Option ((Int×Bool×Unit)×Unit×Unit)
def Q1S.W (f:Q1S.T):Q1S.sig.F:=λa x=>f a.1
def Q1S.H (cK117:Q33.T):Hints U:={ Γ:=(Qn 190 (Q33.sig.native (Q33.W cK117)) noΓ),ro:=0,base:=13}
def Q1S.gen (cK117:Q33.T):Q1S.T:=λz=>
 (Q0 (cK117 z) none λr0=>(Q0 ((Go.floatToIntVal Go.FloatKind.f64 (r0.1.1.2) .i64)) none λr1=>some ((Q5I .i64 r1 1,r0.1.2),((),()))))
def Q1S:Q1S.T:=Q1S.gen Q33
theorem Q1S.eq (cK117:Q33.T):EqA Q1S.sig (Q1S.H cK117) Tryz.f154 6 (Q1S.W (Q1S.gen cK117)):=by intro a x;kernel_rfl
theorem Q1S.ok:NK_ 154 Q1S.sig (Q1S.W Q1S):=ok_ Tryz.func154 (Q1S.eq Q33) (hn_ (Z0 Z2 Q33.ok))
def K93.sig:Sig U:=⟨[.ptr],[.obj .Q18],1,[.int .i64,.bool],true,[]⟩
abbrev K93.T:Type:=(Qh)->Option ((Int×Bool×Unit)×Unit×Unit)
def K93.W (f:K93.T):K93.sig.F:=λa x=>f x.1
def K93.L0:Shape U:=⟨60,15,[(0,.ptr 13 0 0),(4,.ptr 14 0 0),(20,.asl 13 0 1 15),(21,vi_),(22,vi_)],[(13,.obj .Q18),(14,.Q1R true .int)]⟩
def K93.X0:Ql U:= [(.exit 0,⟨60,15,[(0,.ptr 13 0 0),(4,.ptr 14 0 0)],[(13,.obj .Q18),(14,.Q1R true .int)]⟩)]
abbrev K93.l0T:Type:=(((Nat×Nat)×Int×Int×Unit)×(Qh×(Fm Int)×Unit))->Option ((Unit×(Qh×(Fm Int)×Unit)))
def K93.L1:Shape U:=⟨60,15,[(0,.ptr 13 0 0),(4,.ptr 14 0 0),(5,vi_),(6,vi_),(7,vi_),(20,.asl 13 0 1 15),(21,vi_),(22,vi_)],[(13,.obj .Q18),(14,.Q1R true .int)]⟩
def K93.X1:Ql U:= [(.exit 2,⟨60,15,[(0,.ptr 13 0 0),(4,.ptr 14 0 0),(5,vi_),(6,vi_),(7,vi_),(20,.asl 13 0 1 15),(21,vi_),(22,vi_)],[(13,.obj .Q18),(14,.Q1R true .int)]⟩)]
abbrev K93.l1T:Type:=((Int×Int×Int×(Nat×Nat)×Int×Int×Unit)×(Qh×(Fm Int)×Unit))->Option (((Int×Int×Int×(Nat×Nat)×Int×Int×Unit)×(Qh×(Fm Int)×Unit)))
def K93.C:Code:=match Tryz.f191.body with|some c=>c|none=>.skip
def K93.B0:Code:=match (Z3 K93.C).getD 0 .skip with| .loop b=>b| .scope b=>b|_=>.skip
def K93.B1:Code:=match (Z3 K93.C).getD 1 .skip with| .loop b=>b| .scope b=>b|_=>.skip
def K93.H (l0:K93.l0T) (l1:K93.l1T):Hints U:={ Γ:=(Qn 3000000266 Z17 noΓ),ro:=14,base:=14,Q1L:=jt_ [(8,[(36,vb_)])],loop:=jt_ [(5,(Z9 (14,14) K93.L0 K93.X0 l0)),(8,(Z9 (14,14) K93.L1 K93.X1 l1))]}
def K93.Q2x (a:(Int×Int×Int×(Nat×Nat)×Int×Int×Unit)×(Qh×(Fm Int)×Unit)):Option (((Int×Int×Int×(Nat×Nat)×Int×Int×Unit)×(Qh×(Fm Int)×Unit))⊕(((Int×Int×Int×(Nat×Nat)×Int×Int×Unit)×(Qh×(Fm Int)×Unit)))):=
 (Q0 ((bif ilt a.1.2.2.1 a.1.1 then (bif bif inR a.1.2.2.1 15 then inR a.1.2.2.1 a.2.2.1.1 else false then some (ile (a.2.2.1.2 (Int.toNat a.1.2.2.1)) a.1.2.1,()) else none) else some (false,()))) none λr0=>(bif r0.1 then some (.inl ((a.1.1,(a.1.2.1,(Q4 .i64 a.1.2.2.1 1,a.1.2.2.2))),a.2)) else some (.inr a)))
def K93.F1:K93.l1T:=λa=>Z8 (1000000+(a.1.2.2.2.1.2)) (K93.Q2x) a
def K93.QU (l1:K93.l1T) (a:((Nat×Nat)×Int×Int×Unit)×(Qh×(Fm Int)×Unit)):Option ((((Nat×Nat)×Int×Int×Unit)×(Qh×(Fm Int)×Unit))⊕((Unit×(Qh×(Fm Int)×Unit)))):=
 (bif ilt a.1.2.2.1 a.1.2.1 then (bif inR a.1.2.2.1 a.1.1.2 then (Q0 (l1 ((a.1.2.2.1,a.2.1.fl (a.1.1.1+Int.toNat a.1.2.2.1),(0:Int),a.1),a.2)) none λr0=>(bif bif le3 (Q4 .i64 r0.1.2.2.1 1) (Q4 .i64 r0.1.1 1) 15 then le3 (Q4 .i64 r0.1.2.2.1 1) (Q4 .i64 r0.1.1 1) r0.2.2.1.1 else false then (bif bif le3 r0.1.2.2.1 r0.1.1 15 then le3 r0.1.2.2.1 r0.1.1 r0.2.2.1.1 else false then (bif bif inR r0.1.2.2.1 15 then inR r0.1.2.2.1 r0.2.2.1.1 else false then some (.inl ((r0.1.2.2.2.1,(r0.1.2.2.2.2.1,(Q4 .i64 r0.1.2.2.2.2.2.1 1,()))),(r0.2.1,((r0.2.2.1.1,Qr (λ(i:Nat)=>bif Nat.ble (Int.toNat (Q4 .i64 r0.1.2.2.1 1)) i && Nat.blt i (Int.toNat (Q4 .i64 r0.1.2.2.1 1)+Nat.min (Int.toNat r0.1.1 - Int.toNat r0.1.2.2.1) (Int.toNat (Q4 .i64 r0.1.1 1) - Int.toNat (Q4 .i64 r0.1.2.2.1 1))) then r0.2.2.1.2 (Int.toNat r0.1.2.2.1+(i - Int.toNat (Q4 .i64 r0.1.2.2.1 1))) else r0.2.2.1.2 i) (Int.toNat r0.1.2.2.1) r0.1.2.1),())))) else none) else none) else none)) else none) else some (.inr ((),a.2)))
def K93.F0:K93.l0T:=λa=>Z8 (1000000+(a.1.1.2)) (K93.QU K93.F1) a
def K93.gen (l0:K93.l0T) (l1:K93.l1T):K93.T:=λh0=>
 (bif ieq h0.fn 0 then some (((0:Int),(false,())),((),())) else (bif le3 (ofN 0) h0.fn 15 then (Q0 (l0 (((Int.toNat (ofN 0),Int.toNat h0.fn - Int.toNat (ofN 0)),ofN (Int.toNat h0.fn - Int.toNat (ofN 0)),(0:Int),()),h0,(15,λ(j:Nat)=>List.getD ((0:Int)::(0:Int)::(0:Int)::(0:Int)::(0:Int)::(0:Int)::(0:Int)::(0:Int)::(0:Int)::(0:Int)::(0:Int)::(0:Int)::(0:Int)::(0:Int)::(0:Int)::Qm Int) j (0:D UC.int)),())) none λr0=>(bif bif inR (Q51 .i64 (Q1s .i64 r0.2.1.fn 1) 2) 15 then inR (Q51 .i64 (Q1s .i64 r0.2.1.fn 1) 2) r0.2.2.1.1 else false then some ((r0.2.2.1.2 (Int.toNat (Q51 .i64 (Q1s .i64 r0.2.1.fn 1) 2)),(true,())),((),())) else none)) else none))
def K93:K93.T:=K93.gen K93.F0 K93.F1
theorem K93.seq1 (l0:K93.l0T) (l1:K93.l1T) (a:K93.L1.T):run Tryz.prog (K93.H l0 l1) 6 (Option (K93.L1.T⊕ExT K93.X1)) none K93.B1 (K93.L1.enc a) (Zj (14,14) K93.L1 K93.X1)=K93.Q2x a:=by kernel_rfl
abbrev K93.h:=K93.H K93.F0 K93.F1
theorem K93.Q4T:LO_ K93.h K93.B1 (Z9 (14,14) K93.L1 K93.X1 K93.F1):=lk_ (hn_ (Z0 Z2 Zd)) (K93.seq1 K93.F0 K93.F1)
theorem K93.Q26 (l0:K93.l0T) (l1:K93.l1T) (a:K93.L0.T):run Tryz.prog (K93.H l0 l1) 6 (Option (K93.L0.T⊕ExT K93.X0)) none K93.B0 (K93.L0.enc a) (Zj (14,14) K93.L0 K93.X0)=K93.QU l1 a:=by kernel_rfl
theorem K93.Q4C:Z3 K93.B0= [(.loop K93.B1)]:=by kernel_rfl
theorem K93.Q1V:ZF U Tryz.prog K93.h.ro K93.h.base K93.B0 (Z9 (14,14) K93.L0 K93.X0 K93.F0):=
 Z2Q (Hn:=K93.h) Q5L Q4v (Z1B (hq (Z0 Z2 Zd) (Z7 (by kernel_rfl) K93.Q4T Z5) (λ_=>rfl) (λ_=>rfl)) 6) (λb h=>by rw [K93.Q4C] at h;exact h) (λ_=>rfl) (K93.Q26 K93.F0 K93.F1)
theorem K93.eq (l0:K93.l0T) (l1:K93.l1T):EqA K93.sig (K93.H l0 l1) Tryz.f191 6 (K93.W (K93.gen l0 l1)):=by intro a x;kernel_rfl
theorem K93.loops:Z3 K93.C= [(.loop K93.B0),(.loop K93.B1)]:=by kernel_rfl
theorem K93.ok:NK_ 191 K93.sig (K93.W K93):=ok_ Tryz.func191 (K93.eq K93.F0 K93.F1) (hl_ (Z0 Z2 Zd) (Z7 (by kernel_rfl) K93.Q1V (Z7 (by kernel_rfl) K93.Q4T Z5))) K93.loops
def K94.sig:Sig U:=⟨[.ptr,.int .i64],[.obj .Q18],0,[.int .i64],false,[]⟩
abbrev K94.T:Type:=(Int)->(Qh)->Option ((Int×Unit)×(Qh×Unit)×Unit)
def K94.W (f:K94.T):K94.sig.F:=λa x=>f a.2.1 x.1
def K94.JC2:Ql U:= [(.normal,⟨58,14,[(0,.ptr 13 0 0),(1,vi_)],[(13,.obj .Q18)]⟩)]
def K94.H (cK93:K93.T):Hints U:={ Γ:=(Qn 191 (K93.sig.native (K93.W cK93)) noΓ),ro:=0,base:=14,Q23:=jt_ [(2,K94.JC2)]}
def K94.gen (cK93:K93.T):K94.T:=λv h0=>
 (Q0 ((bif ieq h0.fn h0.Q4O then (bif le3 1 h0.fn 15 then some ((v,()),(Qh.mk (λ(i:Nat)=>bif Nat.ble (Int.toNat (ofN 0)) i && Nat.blt i (Int.toNat (ofN 0)+Nat.min (Int.toNat h0.fn - Int.toNat 1) (Int.toNat (ofN 15) - Int.toNat (ofN 0))) then h0.fl (Int.toNat 1+(i - Int.toNat (ofN 0))) else h0.fl i) (Q1s .i64 h0.fn 1) h0.Q4O,())) else none) else some ((v,()),(h0,())))) none λr0=>(bif inR r0.2.1.fn 15 then (Q0 (cK93 (Qh.mk (Qr r0.2.1.fl (Int.toNat r0.2.1.fn) r0.1.1) (Q4 .i64 r0.2.1.fn 1) r0.2.1.Q4O)) none λr1=>some ((r1.1.1,()),((Qh.mk (Qr r0.2.1.fl (Int.toNat r0.2.1.fn) r0.1.1) (Q4 .i64 r0.2.1.fn 1) r0.2.1.Q4O,()),()))) else none))
def K94:K94.T:=K94.gen K93
theorem K94.eq (cK93:K93.T):EqA K94.sig (K94.H cK93) Tryz.f155 6 (K94.W (K94.gen cK93)):=by intro a x;kernel_rfl
theorem K94.ok:NK_ 155 K94.sig (K94.W K94):=ok_ Tryz.func155 (K94.eq K93) (hn_ (Z0 Z2 K93.ok))
def K13.sig:Sig U:=⟨[.ptr,.Q56 0 23 42 8,.data .Qk],[.obj .Q7,Q4R,Q5y],0,[],true,[]⟩
abbrev K13.T:Type:=(Nat)->(Q8)->(Q1)->(Fm Qg)->(Fm Qh)->Option (Unit×(Q1×(Fm Qg)×(Fm Qh)×Unit)×Unit)
def K13.W (f:K13.T):K13.sig.F:=λa x=>f a.2.1 a.2.2.1 x.1 x.2.1 x.2.2.1
def K13.JR1:Ql U:= [(.normal,⟨57,14,[(0,.ptr 13 0 0),(1,.Q1g 13 23 42 8 0),(6,vi_),(7,vb_)],[(13,.obj .Q7),(7,.Q1R false .Q10),(9,.Q1R false .Q18)]⟩)]
def K13.H (cK58:K58.T) (cK116:Q2n.T) (cK115:Q1S.T) (cK94:K94.T):Hints U:={ Γ:=(Qn 155 (K94.sig.native (K94.W cK94)) (Qn 154 (Q1S.sig.native (Q1S.W cK115)) (Qn 153 (Q2n.sig.native (Q2n.W cK116)) (Qn 152 (K58.sig.native (K58.W cK58)) noΓ)))),ro:=0,base:=14,Q1L:=jt_ [(2,[(29,vb_)])],Q2B:=jt_ [(1,K13.JR1)]}
def K13.gen (cK58:K58.T) (cK116:Q2n.T) (cK115:Q1S.T) (cK94:K94.T):K13.T:=λp m h0 g7 g9=>
 (Q0 ((Q0 ((h0.Qf p).13) none λr0=>(Q0 (cK58 m (g7.2 r0)) none λr1=>some ((p,r1.1),(h0,((g7.1,Qr g7.2 r0 r1.2.1.1),(g9,()))))))) none λr2=>(Q0 ((bif !r2.1.2.2.1 then some (true,()) else some (!(r2.2.1.Qf r2.1.1).Q6Y.fis,()))) none λr3=>(bif r3.1 then some ((),(r2.2,())) else (Q0 (cK116 (r2.2.1.Qf r2.1.1).Q6Y.fv r2.1.2.1) none λr4=>(bif !r4.1.2.1 then some ((),(r2.2,())) else (Q0 (cK115 r4.1.1) none λr5=>(Q0 (r2.2.1.6) none λr6=>(Q0 (cK94 r5.1.1 (r2.2.2.2.1.2 r6)) none λr7=>some ((),((Q1.Q6A r2.2.1 (Q13.mk r7.1.1 true),(r2.2.2.1,((r2.2.2.2.1.1,Qr r2.2.2.2.1.2 r6 r7.2.1.1),()))),()))))))))))
def K13:K13.T:=K13.gen K58 Q2n Q1S K94
theorem K13.eq (cK58:K58.T) (cK116:Q2n.T) (cK115:Q1S.T) (cK94:K94.T):EqA K13.sig (K13.H cK58 cK116 cK115 cK94) Tryz.f81 6 (K13.W (K13.gen cK58 cK116 cK115 cK94)):=by intro a x;kernel_rfl
theorem K13.ok:NK_ 81 K13.sig (K13.W K13):=ok_ Tryz.func81 (K13.eq K58 Q2n Q1S K94) (hn_ (Z0 (Z0 (Z0 (Z0 Z2 K58.ok) Q2n.ok) Q1S.ok) K94.ok))
def Q3B.sig:Sig U:=⟨[.data .Qk,.data .Qt,.int .i64],[],0,[.data .Qk,.bool],true,[]⟩
abbrev Q3B.T:Type:=(Q8)->(Qd)->(Int)->Option ((Q8×Bool×Unit)×Unit×Unit)
def Q3B.W (f:Q3B.T):Q3B.sig.F:=λa x=>f a.1 a.2.1 a.2.2.1
def Q3B.H (cK158:Q3E.T):Hints U:={ Γ:=(Q3E.N cK158 noΓ),ro:=0,base:=13,Q1L:=jt_ [(1,[(15,vb_)])]}
def Q3B.gen (cK158:Q3E.T):Q3B.T:=λm self at_2=>
 (Q0 ((bif ine m.fType 2 then some (true,()) else (Q0 (cK158 at_2) none λr0=>some (!r0.1.1,())))) none λr1=>(bif r1.1 then some ((Q8.mk 0 0 0 0 z0_ 0 0 0 z0_ 0 0 z1_ 0 0 0 0 0 0 0,(false,())),((),())) else some ((Q8.mk 3 m.Q1D 512 m.Q4q self m.Q2Y 127 at_2 m.Q1H 0 0 z1_ 0 0 0 0 0 0 0,(true,())),((),()))))
def Q3B:Q3B.T:=Q3B.gen Q3E
theorem Q3B.eq (cK158:Q3E.T):EqA Q3B.sig (Q3B.H cK158) Tryz.f156 6 (Q3B.W (Q3B.gen cK158)):=by intro a x;kernel_rfl
theorem Q3B.ok:NK_ 156 Q3B.sig (Q3B.W Q3B):=ok_ Tryz.func156 (Q3B.eq Q3E) (hn_ (Z0 Z2 Q3E.ok))
def Q2W.sig:Sig U:=⟨[.ptr,.data .Qk,.int .i64],[.obj .Q11],1,[.bool],false,[]⟩
abbrev Q2W.T:Type:=(Q8)->(Int)->(Qb)->Option ((Bool×Unit)×Unit×Unit)
def Q2W.W (f:Q2W.T):Q2W.sig.F:=λa x=>f a.2.1 a.2.2.1 x.1
def Q2W.H:Hints U:={ Γ:=noΓ,ro:=14,base:=14}
def Q2W.gen:Q2W.T:=λm typ h0=>
 (bif ieq m.fType typ then (bif bif ieq m.Q2e.QI h0.Q5D.QI then bif ieq m.Q2e.QR h0.Q5D.QR then true else false else false then (bif h0.Q6l then some ((ieq m.Q2Y h0.Q5K,()),((),())) else some ((false,()),((),()))) else some ((false,()),((),()))) else some ((false,()),((),())))
def Q2W:Q2W.T:=Q2W.gen
theorem Q2W.ok:NK_ 192 Q2W.sig (Q2W.W Q2W):=ok_ (H:=Q2W.H) (n:=6) Tryz.func192 (by intro a x;kernel_rfl) (hn_ Z2)
def Q3I.sig:Sig U:=⟨[.ptr,.data .Qk,.int .i64],[.obj .Q11],0,[.bool],false,[]⟩
abbrev Q3I.T:Type:=(Q8)->(Int)->(Qb)->Option ((Bool×Unit)×(Qb×Unit)×Unit)
def Q3I.W (f:Q3I.T):Q3I.sig.F:=λa x=>f a.2.1 a.2.2.1 x.1
def Q3I.C:Code:=match Tryz.f157.body with|some c=>c|none=>.skip
def Q3I.B0:Code:=match (Z3 Q3I.C).getD 0 .skip with| .loop b=>b| .scope b=>b|_=>.skip
def Q3I.H (cK126:Q2W.T):Hints U:={ Γ:=(Qn 192 (Q2W.sig.native (Q2W.W cK126)) noΓ),ro:=0,base:=14,gotos:=3,loop:=λb=>none}
def Q3I.gen (cK126:Q2W.T):Q3I.T:=λm at_2 h0=>
 (Q0 (cK126 m 3 h0) none λr0=>(bif !r0.1.1 then some ((false,()),((h0,()),())) else (bif h0.Q4L then some ((false,()),((Qb.Q9Z h0 true,()),())) else some ((true,()),((Qb.QbD (Qb.Q9m (Qb.Q6y h0 true) m) at_2,()),())))))
def Q3I:Q3I.T:=Q3I.gen Q2W
theorem Q3I.eq (cK126:Q2W.T):EqA Q3I.sig (Q3I.H cK126) Tryz.f157 6 (Q3I.W (Q3I.gen cK126)):=by intro a x;kernel_rfl
theorem Q3I.loops:Z3 Q3I.C= [(.scope Q3I.B0)]:=by kernel_rfl
theorem Q3I.ok:NK_ 157 Q3I.sig (Q3I.W Q3I):=ok_ Tryz.func157 (Q3I.eq Q2W) (hl_ (Z0 Z2 Q2W.ok) (Zt Z5)) Q3I.loops
def Q3S.sig:Sig U:=⟨[.ptr,.data .Qk],[.obj .Q11],0,[.int .i64,.bool],true,[]⟩
abbrev Q3S.T:Type:=(Q8)->(Qb)->Option ((Int×Bool×Unit)×(Qb×Unit)×Unit)
def Q3S.W (f:Q3S.T):Q3S.sig.F:=λa x=>f a.2.1 x.1
def Q3S.C:Code:=match Tryz.f158.body with|some c=>c|none=>.skip
def Q3S.B0:Code:=match (Z3 Q3S.C).getD 0 .skip with| .loop b=>b| .scope b=>b|_=>.skip
def Q3S.H (cK126:Q2W.T) (cK155:Q1A.T) (cK156:Q39.T) (cK121:Q3T.T):Hints U:={ Γ:=(Q3T.N cK121 (Q39.N cK156 (Qn 193 (Q1A.sig.native (Q1A.W cK155)) (Qn 192 (Q2W.sig.native (Q2W.W cK126)) noΓ)))),ro:=0,base:=14,Q1L:=jt_ [(2,[(33,vb_)])],gotos:=3,loop:=λb=>none}
def Q3S.gen (cK126:Q2W.T) (cK155:Q1A.T) (cK156:Q39.T) (cK121:Q3T.T):Q3S.T:=λm h0=>
 (Q0 ((Q0 (cK126 m 10 h0) none λr0=>(bif !r0.1.1 then some (true,()) else (bif !h0.Q4L then some (true,()) else (bif h0.Q92 then some (true,()) else some (!bif ieq m.Q1H.QI h0.Q1N.Q1H.QI then bif ieq m.Q1H.QR h0.Q1N.Q1H.QR then true else false else false,())))))) none λr1=>(bif r1.1 then some (((0:Int),(false,())),((h0,()),())) else (Q0 (cK155 h0.Q1N.Q4q m.Q4q) none λr2=>(Q0 (cK156 r2.1.1) none λr3=>(Q0 (cK121 h0) none λr4=>some ((Q5I .i64 (Q1s .i64 (Q1s .i64 (Q1s .i64 h0.Qas h0.fat) (Q1s .i64 m.Q44 h0.Q1N.Q44)) r3.1.1) 1,(true,())),r4.2))))))
def Q3S:Q3S.T:=Q3S.gen Q2W Q1A Q39 Q3T
theorem Q3S.eq (cK126:Q2W.T) (cK155:Q1A.T) (cK156:Q39.T) (cK121:Q3T.T):EqA Q3S.sig (Q3S.H cK126 cK155 cK156 cK121) Tryz.f158 6 (Q3S.W (Q3S.gen cK126 cK155 cK156 cK121)):=by intro a x;kernel_rfl
theorem Q3S.loops:Z3 Q3S.C= [(.scope Q3S.B0)]:=by kernel_rfl
theorem Q3S.ok:NK_ 158 Q3S.sig (Q3S.W Q3S):=ok_ Tryz.func158 (Q3S.eq Q2W Q1A Q39 Q3T) (hl_ (Z0 (Z0 (Z0 (Z0 Z2 Q2W.ok) Q1A.ok) Q39.ok) Q3T.ok) (Zt Z5)) Q3S.loops
def K16.sig:Sig U:=⟨[.ptr,.int .i64,.data .Qk,.int .i64],[.obj .Q7,Q53],0,[],true,[]⟩
abbrev K16.T:Type:=(Int)->(Q8)->(Int)->(Q1)->(Fm Qb)->Option (Unit×(Q1×(Fm Qb)×Unit)×Unit)
def K16.W (f:K16.T):K16.sig.F:=λa x=>f a.2.1 a.2.2.1 a.2.2.2.1 x.1 x.2.1
def K16.Q7z:Ql U:= [(.normal,⟨68,14,[(8,.Q1g 13 23 42 8 0),(11,vi_),(12,vb_)],[(13,.obj .Q7),(8,.Q1R false .Q11)]⟩)]
def K16.JR6:Ql U:= [(.normal,⟨68,15,[(6,.ptr 14 0 0),(8,.Q1g 13 23 42 8 0)],[(13,.obj .Q7),(14,.obj .Qk),(8,.Q1R false .Q11)]⟩)]
def K16.JR4:Ql U:= [(.normal,⟨68,16,[(0,.ptr 13 0 0),(1,vi_),(6,.ptr 14 0 0),(8,.Q1g 13 23 42 8 0),(9,.ptr 15 0 0),(10,vb_)],[(13,.obj .Q7),(14,.obj .Qk),(15,.obj .Qk),(8,.Q1R false .Q11)]⟩)]
def K16.H (cK32:K32.T) (cK30:K30.T) (cK120:Q3B.T) (cK26:K26.T) (cK124:Q3I.T) (cK122:Q3S.T):Hints U:={ Γ:=(Qn 158 (Q3S.sig.native (Q3S.W cK122)) (Qn 157 (Q3I.sig.native (Q3I.W cK124)) (K26.N cK26 (Qn 156 (Q3B.sig.native (Q3B.W cK120)) (K30.N cK30 (K32.N cK32 noΓ)))))),ro:=0,base:=14,Q2B:=jt_ [(4,K16.JR4),(6,K16.JR6),(11,K16.Q7z)]}
def K16.gen (cK32:K32.T) (cK30:K30.T) (cK120:Q3B.T) (cK26:K26.T) (cK124:Q3I.T) (cK122:Q3S.T):K16.T:=λn m now h0 g8=>
 (Q0 (cK32 n h0) none λr0=>(bif ieq m.fType 2 then (Q0 ((Q0 (cK30 n h0) none λr1=>(Q0 (cK120 m r1.1.1 now) none λr2=>some ((n,(r0.1.1,r2.1.2)),(h0,(m,(r2.1.1,(g8,())))))))) none λr3=>(bif r3.1.2.2.1 then (Q0 ((Q0 (cK26 r3.1.1 r3.2.2.2.1 (Qm Qi) true r3.2.1) none λr4=>some ((r3.1.2.1,()),(r4.2.1.1,(r3.2.2.1,r3.2.2.2.2))))) none λr5=>some ((),((Q1.QT r5.2.1 (Qr (Qr r5.2.1.Qf r5.1.1 (Q5.Q8Q (r5.2.1.Qf r5.1.1) r5.2.2.1)) r5.1.1 (Q5.Q6y (Qr r5.2.1.Qf r5.1.1 (Q5.Q8Q (r5.2.1.Qf r5.1.1) r5.2.2.1) r5.1.1) true)),r5.2.2.2),()))) else some ((),((r3.2.1,r3.2.2.2.2),())))) else (bif ieq m.fType 3 then (Q0 ((h0.Qf r0.1.1).14) none λr6=>(Q0 (cK124 m now (g8.2 r6)) none λr7=>some ((),((h0,((g8.1,Qr g8.2 r6 r7.2.1.1),())),())))) else (bif ieq m.fType 10 then (Q0 ((Q0 ((h0.Qf r0.1.1).14) none λr8=>(Q0 (cK122 m (g8.2 r8)) none λr9=>some ((r0.1.1,r9.1),(h0,((g8.1,Qr g8.2 r8 r9.2.1.1),())))))) none λr10=>(bif r10.1.2.2.1 then some ((),((Q1.QT r10.2.1 (Qr r10.2.1.Qf r10.1.1 (Q5.Q4Z (r10.2.1.Qf r10.1.1) (Q13.mk (Z4 true 0 r10.1.2.1) true))),r10.2.2),())) else some ((),(r10.2,())))) else some ((),((h0,(g8,())),()))))))
def K16:K16.T:=K16.gen K32 K30 Q3B K26 Q3I Q3S
theorem K16.eq (cK32:K32.T) (cK30:K30.T) (cK120:Q3B.T) (cK26:K26.T) (cK124:Q3I.T) (cK122:Q3S.T):EqA K16.sig (K16.H cK32 cK30 cK120 cK26 cK124 cK122) Tryz.f82 6 (K16.W (K16.gen cK32 cK30 cK120 cK26 cK124 cK122)):=by intro a x;kernel_rfl
theorem K16.ok:NK_ 82 K16.sig (K16.W K16):=ok_ Tryz.func82 (K16.eq K32 K30 Q3B K26 Q3I Q3S) (hn_ (Z0 (Z0 (Z0 (Z0 (Z0 (Z0 Z2 K32.ok) K30.ok) Q3B.ok) K26.ok) Q3I.ok) Q3S.ok))
def Q3t.sig:Sig U:=⟨[.data .QW],[],0,[.int .i64,.str,.bool],true,[]⟩
abbrev Q3t.T:Type:=(Qi)->Option ((Int×ByteArray×Bool×Unit)×Unit×Unit)
def Q3t.W (f:Q3t.T):Q3t.sig.F:=λa x=>f a.1
def Q3t.H (cK170:Q1q.T) (cK108:Q41.T):Hints U:={ Γ:=(Q41.N cK108 (Qn 183 (Q1q.sig.native (Q1q.W cK170)) noΓ)),ro:=0,base:=13,Q1L:=jt_ [(1,[(14,vb_)])]}
def Q3t.gen (cK170:Q1q.T) (cK108:Q41.T):Q3t.T:=λt=>
 (Q0 ((bif ine t.fType 1 then some (true,()) else (Q0 (cK170 t) none λr0=>some (!r0.1.1,())))) none λr1=>(bif r1.1 then some (((0:Int),(ByteArray.mk (List.toArray (Qm UInt8)),(false,()))),((),())) else (Q0 (cK108 t.Q2s.data.toList 0 2) none λr2=>(bif le3 2 (ofN (ByteArray.size t.Q2s)) (ByteArray.size t.Q2s) then some ((r2.1.1,(ByteArray.extract t.Q2s (Int.toNat 2) (Int.toNat (ofN (ByteArray.size t.Q2s))),(true,()))),((),())) else none))))
def Q3t:Q3t.T:=Q3t.gen Q1q Q41
theorem Q3t.eq (cK170:Q1q.T) (cK108:Q41.T):EqA Q3t.sig (Q3t.H cK170 cK108) Tryz.f159 6 (Q3t.W (Q3t.gen cK170 cK108)):=by intro a x;kernel_rfl
theorem Q3t.ok:NK_ 159 Q3t.sig (Q3t.W Q3t):=ok_ Tryz.func159 (Q3t.eq Q1q Q41) (hn_ (Z0 (Z0 Z2 Q1q.ok) Q41.ok))
def K9.sig:Sig U:=⟨[.ptr,.int .i64],[.obj .Q7],1,[.int .i64],false,[]⟩
abbrev K9.T:Type:=(Int)->(Q1)->Option ((Int×Unit)×Unit×Unit)
def K9.W (f:K9.T):K9.sig.F:=λa x=>f a.2.1 x.1
abbrev K9.N (c:K9.T):=Qn 21 (K9.sig.native (K9.W c))
def K9.H (cK25:K25.T) (cK32:K32.T):Hints U:={ Γ:=(K32.N cK32 (K25.N cK25 (Qn 5000000021 Z17 noΓ))),ro:=14,base:=14}
def K9.gen (cK25:K25.T) (cK32:K32.T):K9.T:=λn h0=>
 (Q0 (cK25 n h0) none λr0=>(bif r0.1.1 then some (((0:Int),()),((),())) else (Q0 (cK32 n h0) none λr1=>some (((h0.Qf r1.1.1).Q1w,()),((),())))))
def K9:K9.T:=K9.gen K25 K32
theorem K9.eq (cK25:K25.T) (cK32:K32.T):EqA K9.sig (K9.H cK25 cK32) Tryz.f21 6 (K9.W (K9.gen cK25 cK32)):=by intro a x;kernel_rfl
theorem K9.ok:NK_ 21 K9.sig (K9.W K9):=ok_ Tryz.func21 (K9.eq K25 K32) (hn_ (Z0 (Z0 (Z0 Z2 Zd) K25.ok) K32.ok))
def K98.sig:Sig U:=⟨[.int .i64],[],0,[.bool],false,[]⟩
abbrev K98.T:Type:=(Int)->Option ((Bool×Unit)×Unit×Unit)
def K98.W (f:K98.T):K98.sig.F:=λa x=>f a.1
def K98.H:Hints U:={ Γ:=noΓ,ro:=0,base:=13}
def K98.gen:K98.T:=λid=>
 (bif ieq id 8205 then some ((true,()),((),())) else (bif ieq id 8206 then some ((true,()),((),())) else (bif ieq id 8196 then some ((true,()),((),())) else some ((false,()),((),())))))
def K98:K98.T:=K98.gen
theorem K98.ok:NK_ 161 K98.sig (K98.W K98):=ok_ (H:=K98.H) (n:=6) Tryz.func161 (by intro a x;kernel_rfl) (hn_ Z2)
def K81.sig:Sig U:=⟨[.data .Qt,.data .Qt],[],0,[.bool],false,[]⟩
abbrev K81.T:Type:=(Qd)->(Qd)->Option ((Bool×Unit)×Unit×Unit)
def K81.W (f:K81.T):K81.sig.F:=λa x=>f a.1 a.2.1
def K81.H:Hints U:={ Γ:=noΓ,ro:=0,base:=13}
def K81.gen:K81.T:=λtarget port=>
 (bif bif ieq target.QI port.QI then bif ieq target.QR port.QR then true else false else false then some ((true,()),((),())) else (bif ieq target.QI 18446744073709551615 then (bif ieq target.QR 65535 then some ((true,()),((),())) else some ((ieq target.QR port.QR,()),((),()))) else (bif ieq target.QI port.QI then (bif ieq target.QR 65535 then some ((true,()),((),())) else some ((ieq target.QR port.QR,()),((),()))) else some ((false,()),((),())))))
def K81:K81.T:=K81.gen
theorem K81.ok:NK_ 194 K81.sig (K81.W K81):=ok_ (H:=K81.H) (n:=6) Tryz.func194 (by intro a x;kernel_rfl) (hn_ Z2)
def K24.sig:Sig U:=⟨[.ptr,.int .i64,.data .Qt,.bool],[.obj .Q7],1,[.isl .int],false,[]⟩
abbrev K24.T:Type:=(Int)->(Qd)->(Bool)->(Q1)->Option (((List (Int))×Unit)×Unit×Unit)
def K24.W (f:K24.T):K24.sig.F:=λa x=>f a.2.1 a.2.2.1 a.2.2.2.1 x.1
def K24.L0:Shape U:=⟨45,16,[(0,.ptr 13 0 0),(1,vi_),(3,vb_),(6,.ptr 14 0 0),(9,.own .int 15),(10,vi_)],[(13,.obj .Q7),(14,.obj .Qt),(15,.tok)]⟩
def K24.X0:Ql U:= [(.exit 0,⟨45,16,[(0,.ptr 13 0 0),(1,vi_),(3,vb_),(6,.ptr 14 0 0),(9,.own .int 15)],[(13,.obj .Q7),(14,.obj .Qt),(15,.tok)]⟩)]
abbrev K24.l0T:Type:=((Int×Bool×(List (Int))×Int×Unit)×(Q1×Qd×Unit))->Option (((Int×Bool×(List (Int))×Unit)×(Q1×Qd×Unit)))
def K24.C:Code:=match Tryz.f160.body with|some c=>c|none=>.skip
def K24.B0:Code:=match (Z3 K24.C).getD 0 .skip with| .loop b=>b| .scope b=>b|_=>.skip
def K24.JC6:Ql U:= [(.normal,⟨45,16,[(0,.ptr 13 0 0),(1,vi_),(3,vb_),(6,.ptr 14 0 0),(9,.own .int 15),(10,vi_)],[(13,.obj .Q7),(14,.obj .Qt),(15,.tok)]⟩)]
def K24.H (cK30:K30.T) (cK81:K81.T) (l0:K24.l0T):Hints U:={ Γ:=(Qn 194 (K81.sig.native (K81.W cK81)) (K30.N cK30 (Qn 5000000021 Z17 noΓ))),ro:=14,base:=14,Q1L:=jt_ [(7,[(34,vb_)])],Q23:=jt_ [(6,K24.JC6)],loop:=jt_ [(3,(Z9 (14,14) K24.L0 K24.X0 l0))]}
def K24.QU (cK30:K30.T) (cK81:K81.T) (a:(Int×Bool×(List (Int))×Int×Unit)×(Q1×Qd×Unit)):Option (((Int×Bool×(List (Int))×Int×Unit)×(Q1×Qd×Unit))⊕(((Int×Bool×(List (Int))×Unit)×(Q1×Qd×Unit)))):=
 (bif ile a.1.2.2.2.1 a.2.1.Qs.QB then (Q0 (cK30 a.1.2.2.2.1 a.2.1) none λr0=>(Q0 (cK81 a.2.2.1 r0.1.1) none λr1=>(Q0 ((bif r1.1.1 then (bif room (List.length a.1.2.2.1+List.length (a.1.2.2.2.1::Qm Int)) 8 then some ((a.1.1,(a.1.2.1,(a.1.2.2.1++a.1.2.2.2.1::Qm Int,a.1.2.2.2))),a.2) else none) else some a)) none λr2=>some (.inl ((r2.1.1,(r2.1.2.1,(r2.1.2.2.1,(Q4 .i64 r2.1.2.2.2.1 1,())))),r2.2))))) else some (.inr ((a.1.1,(a.1.2.1,(a.1.2.2.1,()))),a.2)))
def K24.F0:K24.l0T:=λa=>Z8 (1000000+(a.1.2.2.1.length)) (K24.QU K30 K81) a
def K24.gen (cK30:K30.T) (cK81:K81.T) (l0:K24.l0T):K24.T:=λi target all h0=>
 (Q0 (l0 ((i,all,Qm Int,(1:Int),()),h0,target,())) none λr0=>(Q0 ((bif r0.1.2.1 then some (true,()) else some (ieq (ofN (List.length r0.1.2.2.1)) 0,()))) none λr1=>(bif r1.1 then some (r0.1.2.2,((),())) else (Q0 (cK30 r0.1.1 r0.2.1) none λr2=>(Q0 (cK81 r0.2.2.1 r2.1.1) none λr3=>(bif r3.1.1 then some ((r0.1.1::Qm Int,()),((),())) else (bif le3 (ofN 0) 1 (List.length r0.1.2.2.1) then some ((List.drop (Int.toNat (ofN 0)) (List.take (Int.toNat 1) r0.1.2.2.1),()),((),())) else none)))))))
def K24:K24.T:=K24.gen K30 K81 K24.F0
theorem K24.Q26 (cK30:K30.T) (cK81:K81.T) (l0:K24.l0T) (a:K24.L0.T):run Tryz.prog (K24.H cK30 cK81 l0) 6 (Option (K24.L0.T⊕ExT K24.X0)) none K24.B0 (K24.L0.enc a) (Zj (14,14) K24.L0 K24.X0)=K24.QU cK30 cK81 a:=by kernel_rfl
abbrev K24.h:=K24.H K30 K81 K24.F0
theorem K24.Q1V:LO_ K24.h K24.B0 (Z9 (14,14) K24.L0 K24.X0 K24.F0):=lk_ (hn_ (Z0 (Z0 (Z0 Z2 Zd) K30.ok) K81.ok)) (K24.Q26 K30 K81 K24.F0)
theorem K24.eq (cK30:K30.T) (cK81:K81.T) (l0:K24.l0T):EqA K24.sig (K24.H cK30 cK81 l0) Tryz.f160 6 (K24.W (K24.gen cK30 cK81 l0)):=by intro a x;kernel_rfl
theorem K24.loops:Z3 K24.C= [(.loop K24.B0)]:=by kernel_rfl
theorem K24.ok:NK_ 160 K24.sig (K24.W K24):=ok_ Tryz.func160 (K24.eq K30 K81 K24.F0) (hl_ (Z0 (Z0 (Z0 Z2 Zd) K30.ok) K81.ok) (Z7 (by kernel_rfl) K24.Q1V Z5)) K24.loops
def K97.sig:Sig U:=⟨[.int .i64],[],0,[.bool],false,[]⟩
abbrev K97.T:Type:=(Int)->Option ((Bool×Unit)×Unit×Unit)
def K97.W (f:K97.T):K97.sig.F:=λa x=>f a.1
def K97.H:Hints U:={ Γ:=noΓ,ro:=0,base:=13}
def K97.gen:K97.T:=λid=>
 (bif ieq id 0 then some ((true,()),((),())) else (bif ieq id 5 then some ((true,()),((),())) else (bif ile 8192 id then some ((ile id 8208,()),((),())) else some ((false,()),((),())))))
def K97:K97.T:=K97.gen
theorem K97.ok:NK_ 205 K97.sig (K97.W K97):=ok_ (H:=K97.H) (n:=6) Tryz.func205 (by intro a x;kernel_rfl) (hn_ Z2)
def Q3k.sig:Sig U:=⟨[.int .i64],[],0,[.bool],false,[]⟩
abbrev Q3k.T:Type:=(Int)->Option ((Bool×Unit)×Unit×Unit)
def Q3k.W (f:Q3k.T):Q3k.sig.F:=λa x=>f a.1
def Q3k.H:Hints U:={ Γ:=noΓ,ro:=0,base:=13}
def Q3k.gen:Q3k.T:=λid=>
 (bif ieq id 0 then some ((true,()),((),())) else (bif ieq id 5 then some ((true,()),((),())) else (bif ieq id 8205 then some ((true,()),((),())) else some ((ieq id 8206,()),((),())))))
def Q3k:Q3k.T:=Q3k.gen
theorem Q3k.ok:NK_ 206 Q3k.sig (Q3k.W Q3k):=ok_ (H:=Q3k.H) (n:=6) Tryz.func206 (by intro a x;kernel_rfl) (hn_ Z2)
def Q4k.sig:Sig U:=⟨[.int .i64],[],0,[.bool],false,[]⟩
abbrev Q4k.T:Type:=(Int)->Option ((Bool×Unit)×Unit×Unit)
def Q4k.W (f:Q4k.T):Q4k.sig.F:=λa x=>f a.1
def Q4k.H:Hints U:={ Γ:=noΓ,ro:=0,base:=13}
def Q4k.gen:Q4k.T:=λid=>
 (bif ile 8192 id then (bif ile id 8196 then some ((true,()),((),())) else (bif ieq id 8204 then some ((true,()),((),())) else some ((ieq id 8207,()),((),())))) else (bif ieq id 8204 then some ((true,()),((),())) else some ((ieq id 8207,()),((),()))))
def Q4k:Q4k.T:=Q4k.gen
theorem Q4k.ok:NK_ 207 Q4k.sig (Q4k.W Q4k):=ok_ (H:=Q4k.H) (n:=6) Tryz.func207 (by intro a x;kernel_rfl) (hn_ Z2)
def Q4n.sig:Sig U:=⟨[.int .i64],[],0,[.int .i64],false,[]⟩
abbrev Q4n.T:Type:=(Int)->Option ((Int×Unit)×Unit×Unit)
def Q4n.W (f:Q4n.T):Q4n.sig.F:=λa x=>f a.1
def Q4n.JC3:Ql U:= [(.normal,⟨8,13,[(4,vb_)],[]⟩)]
def Q4n.H:Hints U:={ Γ:=noΓ,ro:=0,base:=13,Q23:=jt_ [(3,Q4n.JC3)]}
def Q4n.gen:Q4n.T:=λid=>
 (Q0 ((bif ieq id 0 then some ((ieq id 0,()),()) else (bif ieq id 8205 then some ((ieq id 8205,()),()) else some ((ieq id 8206,()),())))) none λr0=>(bif r0.1.1 then some (((0:Int),()),((),())) else some (((2:Int),()),((),()))))
def Q4n:Q4n.T:=Q4n.gen
theorem Q4n.ok:NK_ 208 Q4n.sig (Q4n.W Q4n):=ok_ (H:=Q4n.H) (n:=6) Tryz.func208 (by intro a x;kernel_rfl) (hn_ Z2)
def Q3W.sig:Sig U:=⟨[.data .Q1d,.int .i64,.str],[],0,[.data .Q1d],false,[]⟩
abbrev Q3W.T:Type:=(Q9)->(Int)->(ByteArray)->Option ((Q9×Unit)×Unit×Unit)
def Q3W.W (f:Q3W.T):Q3W.sig.F:=λa x=>f a.1 a.2.1 a.2.2.1
def Q3W.JC5:Ql U:= [(.normal,⟨53,15,[(3,.ptr 13 0 0),(6,.ptr 14 0 0)],[(13,.obj .Q1d),(14,.obj .Q1d)]⟩)]
def Q3W.H:Hints U:={ Γ:=noΓ,ro:=0,base:=13,Q23:=jt_ [(5,Q3W.JC5)]}
def Q3W.gen:Q3W.T:=λc id data=>
 (bif inR 0 (ByteArray.size data) then (bif inR 0 (ByteArray.size data) then (Q0 ((bif ieq id 8197 then some ((),(Q9.Q4z c (IntKind.wrap .i64 (ofN (UInt8.toNat (List.getD data.data.toList (Int.toNat 0) (0:UInt8))))),(Q9.mk 0 0 0 0 0 z1_ false 0 0 0 0 false false 0 0 0 0 z5_ false,()))) else (bif ieq id 8198 then some ((),(Q9.Q50 c (IntKind.wrap .i64 (ofN (UInt8.toNat (List.getD data.data.toList (Int.toNat 0) (0:UInt8))))),(Q9.mk 0 0 0 0 0 z1_ false 0 0 0 0 false false 0 0 0 0 z5_ false,()))) else (bif ieq id 8199 then some ((),(Q9.Q78 c (IntKind.wrap .i64 (ofN (UInt8.toNat (List.getD data.data.toList (Int.toNat 0) (0:UInt8))))),(Q9.mk 0 0 0 0 0 z1_ false 0 0 0 0 false false 0 0 0 0 z5_ false,()))) else (bif ieq id 8200 then some ((),(Q9.Q7j c (ieq (Q57 .i64 (IntKind.wrap .i64 (ofN (UInt8.toNat (List.getD data.data.toList (Int.toNat 0) (0:UInt8))))) 1) 1),(Q9.mk 0 0 0 0 0 z1_ false 0 0 0 0 false false 0 0 0 0 z5_ false,()))) else (bif ieq id 8201 then some ((),(Q9.Q8e c (IntKind.wrap .i64 (IntKind.wrap .i8 (ofN (UInt8.toNat (List.getD data.data.toList (Int.toNat 0) (0:UInt8)))))),(Q9.mk 0 0 0 0 0 z1_ false 0 0 0 0 false false 0 0 0 0 z5_ false,()))) else (bif ieq id 8202 then some ((),(Q9.Q7Q c (IntKind.wrap .i64 (ofN (UInt8.toNat (List.getD data.data.toList (Int.toNat 0) (0:UInt8))))),(Q9.mk 0 0 0 0 0 z1_ false 0 0 0 0 false false 0 0 0 0 z5_ false,()))) else (bif ieq id 8203 then some ((),(Q9.Q80 c (IntKind.wrap .i64 (IntKind.wrap .i8 (ofN (UInt8.toNat (List.getD data.data.toList (Int.toNat 0) (0:UInt8)))))),(Q9.mk 0 0 0 0 0 z1_ false 0 0 0 0 false false 0 0 0 0 z5_ false,()))) else (bif ieq id 8208 then some ((),(Q9.Q4D c (Qx.Q9n c.Qv (IntKind.wrap .i64 (ofN (UInt8.toNat (List.getD data.data.toList (Int.toNat 0) (0:UInt8)))))),(Q9.mk 0 0 0 0 0 z1_ false 0 0 0 0 false false 0 0 0 0 z5_ false,()))) else some ((),(c,(Q9.mk 0 0 0 0 0 z1_ false 0 0 0 0 false false 0 0 0 0 z5_ false,())))))))))))) none λr0=>some ((r0.2.1,()),((),()))) else none) else none)
def Q3W:Q3W.T:=Q3W.gen
theorem Q3W.ok:NK_ 209 Q3W.sig (Q3W.W Q3W):=ok_ (H:=Q3W.H) (n:=6) Tryz.func209 (by intro a x;kernel_rfl) (hn_ Z2)
def K99.sig:Sig U:=⟨[.isl .bool],[],0,[.int .i64],false,[]⟩
abbrev K99.T:Type:=(List (Bool))->Option ((Int×Unit)×Unit×Unit)
def K99.W (f:K99.T):K99.sig.F:=λa x=>f a.1
def K99.L0:Shape U:=⟨20,13,[(3,vi_),(6,.val (.isl .bool)),(7,vi_),(8,vi_)],[]⟩
def K99.X0:Ql U:= [(.exit 0,⟨20,13,[(3,vi_)],[]⟩)]
abbrev K99.l0T:Type:=((Int×(List (Bool))×Int×Int×Unit)×Unit)->Option (((Int×Unit)×Unit))
def K99.C:Code:=match Tryz.f216.body with|some c=>c|none=>.skip
def K99.B0:Code:=match (Z3 K99.C).getD 0 .skip with| .loop b=>b| .scope b=>b|_=>.skip
def K99.JC6:Ql U:= [(.normal,⟨20,13,[(3,vi_),(6,.val (.isl .bool)),(7,vi_),(8,vi_)],[]⟩)]
def K99.H (l0:K99.l0T):Hints U:={ Γ:=noΓ,ro:=0,base:=13,Q23:=jt_ [(6,K99.JC6)],loop:=jt_ [(3,(Z9 (0,13) K99.L0 K99.X0 l0))]}
def K99.QU (a:(Int×(List (Bool))×Int×Int×Unit)×Unit):Option (((Int×(List (Bool))×Int×Int×Unit)×Unit)⊕(((Int×Unit)×Unit))):=
 (bif ilt a.1.2.2.2.1 a.1.2.2.1 then (bif inR a.1.2.2.2.1 (List.length a.1.2.1) then (Q0 ((bif List.getD a.1.2.1 (Int.toNat a.1.2.2.2.1) false then (bif ile 0 a.1.2.2.2.1 then some ((ior .i64 a.1.1 (Q8v .i64 1 a.1.2.2.2.1),a.1.2),()) else none) else some a)) none λr0=>some (.inl ((r0.1.1,(r0.1.2.1,(r0.1.2.2.1,(Q4 .i64 r0.1.2.2.2.1 1,())))),()))) else none) else some (.inr ((a.1.1,()),())))
def K99.F0:K99.l0T:=λa=>Z8 (1000000+(a.1.2.1.length)) (K99.QU) a
def K99.gen (l0:K99.l0T):K99.T:=λl=>
 (Q0 (l0 (((0:Int),l,ofN (List.length l),(0:Int),()),())) none λr0=>some (r0.1,((),())))
def K99:K99.T:=K99.gen K99.F0
theorem K99.Q26 (l0:K99.l0T) (a:K99.L0.T):run Tryz.prog (K99.H l0) 6 (Option (K99.L0.T⊕ExT K99.X0)) none K99.B0 (K99.L0.enc a) (Zj (0,13) K99.L0 K99.X0)=K99.QU a:=by kernel_rfl
abbrev K99.h:=K99.H K99.F0
theorem K99.Q1V:LO_ K99.h K99.B0 (Z9 (0,13) K99.L0 K99.X0 K99.F0):=lk_ (hn_ Z2) (K99.Q26 K99.F0)
theorem K99.eq (l0:K99.l0T):EqA K99.sig (K99.H l0) Tryz.f216 6 (K99.W (K99.gen l0)):=by intro a x;kernel_rfl
theorem K99.loops:Z3 K99.C= [(.loop K99.B0)]:=by kernel_rfl
theorem K99.ok:NK_ 216 K99.sig (K99.W K99):=ok_ Tryz.func216 (K99.eq K99.F0) (hl_ Z2 (Z7 (by kernel_rfl) K99.Q1V Z5)) K99.loops
def Q34.sig:Sig U:=⟨[.isl .u8,.int .i64],[],0,[.isl .u8],false,[]⟩
abbrev Q34.T:Type:=(List (UInt8))->(Int)->Option (((List (UInt8))×Unit)×Unit×Unit)
def Q34.W (f:Q34.T):Q34.sig.F:=λa x=>f a.1 a.2.1
def Q34.H (cK110:Q3s.T):Hints U:={ Γ:=(Q3s.N cK110 noΓ),ro:=0,base:=13}
def Q34.gen (cK110:Q3s.T):Q34.T:=λb v=>
 (Q0 (cK110 b v 1) none λr0=>some (r0.1,((),())))
def Q34:Q34.T:=Q34.gen Q3s
theorem Q34.eq (cK110:Q3s.T):EqA Q34.sig (Q34.H cK110) Tryz.f215 6 (Q34.W (Q34.gen cK110)):=by intro a x;kernel_rfl
theorem Q34.ok:NK_ 215 Q34.sig (Q34.W Q34):=ok_ Tryz.func215 (Q34.eq Q3s) (hn_ (Z0 Z2 Q3s.ok))
def Q1m.sig:Sig U:=⟨[.int .i64],[],0,[.int .i64],false,[]⟩
abbrev Q1m.T:Type:=(Int)->Option ((Int×Unit)×Unit×Unit)
def Q1m.W (f:Q1m.T):Q1m.sig.F:=λa x=>f a.1
def Q1m.H:Hints U:={ Γ:=noΓ,ro:=0,base:=13}
def Q1m.gen:Q1m.T:=λv=>
 (bif ilt 140737488355327 v then some (((9223372036854775807:Int),()),((),())) else (bif ilt v (-140737488355328) then some (((-9223372036854775808:Int),()),((),())) else some ((Q3n .i64 v 65536,()),((),()))))
def Q1m:Q1m.T:=Q1m.gen
theorem Q1m.ok:NK_ 217 Q1m.sig (Q1m.W Q1m):=ok_ (H:=Q1m.H) (n:=6) Tryz.func217 (by intro a x;kernel_rfl) (hn_ Z2)
def Q2V.sig:Sig U:=⟨[.data .Q1d,.int .i64],[],0,[.isl .u8],false,[]⟩
abbrev Q2V.T:Type:=(Q9)->(Int)->Option (((List (UInt8))×Unit)×Unit×Unit)
def Q2V.W (f:Q2V.T):Q2V.sig.F:=λa x=>f a.1 a.2.1
def Q2V.JC5:Ql U:= [(.normal,⟨47,13,[(5,vi_)],[]⟩),
 (.ret,⟨47,13,[(4,.full .u8)],[]⟩)]
def Q2V.H (cK99:K99.T) (cK102:Q34.T):Hints U:={ Γ:=(Qn 215 (Q34.sig.native (Q34.W cK102)) (Qn 216 (K99.sig.native (K99.W cK99)) noΓ)),ro:=0,base:=13,Q23:=jt_ [(5,Q2V.JC5)]}
def Q2V.gen (cK99:K99.T) (cK102:Q34.T):Q2V.T:=λc id=>
 (Q0 ((bif ieq id 8197 then some (.inl ((c.Q16,()),())) else (bif ieq id 8198 then some (.inl ((c.Q15,()),())) else (bif ieq id 8199 then some (.inl ((c.Q1D,()),())) else (bif ieq id 8200 then (Q0 (cK99 (c.Q2t::Qm Bool)) none λr0=>some (.inl (r0.1,()))) else (bif ieq id 8201 then some (.inl ((c.Q46,()),())) else (bif ieq id 8202 then some (.inl ((c.Q3U,()),())) else (bif ieq id 8203 then some (.inl ((c.Q3h,()),())) else (bif ieq id 8204 then some (.inl (((2:Int),()),())) else (bif ieq id 8208 then some (.inl ((c.Qv.Q1u,()),())) else some (.inr ((Qm UInt8,()),())))))))))))) none λr1=>(Q3V r1 (λr2=>(Q0 (cK102 (Qm UInt8) r2.1.1) none λr3=>(Q0 (cK102 r3.1.1 0) none λr4=>some (r4.1,((),()))))) (λr2=>some (r2.1,((),())))))
def Q2V:Q2V.T:=Q2V.gen K99 Q34
theorem Q2V.eq (cK99:K99.T) (cK102:Q34.T):EqA Q2V.sig (Q2V.H cK99 cK102) Tryz.f218 6 (Q2V.W (Q2V.gen cK99 cK102)):=by intro a x;kernel_rfl
theorem Q2V.ok:NK_ 218 Q2V.sig (Q2V.W Q2V):=ok_ Tryz.func218 (Q2V.eq K99 Q34) (hn_ (Z0 (Z0 Z2 K99.ok) Q34.ok))
def Q4l.sig:Sig U:=⟨[.data .Q31,.int .i64],[],0,[.isl .u8],false,[]⟩
abbrev Q4l.T:Type:=(Q1t)->(Int)->Option (((List (UInt8))×Unit)×Unit×Unit)
def Q4l.W (f:Q4l.T):Q4l.sig.F:=λa x=>f a.1 a.2.1
def Q4l.H (cK99:K99.T) (cK102:Q34.T) (cK110:Q3s.T) (cK137:Q1Z.T) (cK111:Q3Q.T) (cK103:Q1m.T) (cK82:K82.T) (cK160:Q32.T) (cK106:Q2V.T):Hints U:={ Γ:=(Qn 218 (Q2V.sig.native (Q2V.W cK106)) (Qn 113 (Q32.sig.native (Q32.W cK160)) (K82.N cK82 (Qn 217 (Q1m.sig.native (Q1m.W cK103)) (Q3Q.N cK111 (Qn 115 (Q1Z.sig.native (Q1Z.W cK137)) (Q3s.N cK110 (Qn 215 (Q34.sig.native (Q34.W cK102)) (Qn 216 (K99.sig.native (K99.W cK99)) noΓ))))))))),ro:=0,base:=13}
def Q4l.gen (cK99:K99.T) (cK102:Q34.T) (cK110:Q3s.T) (cK137:Q1Z.T) (cK111:Q3Q.T) (cK103:Q1m.T) (cK82:K82.T) (cK160:Q32.T) (cK106:Q2V.T):Q4l.T:=λv id=>
 (bif ieq id 8192 then (Q0 (cK99 ((!v.QQ.Q4S)::v.QQ.Q2t::Qm Bool)) none λr0=>(Q0 (cK102 (Qm UInt8) r0.1.1) none λr1=>(Q0 (cK102 r1.1.1 0) none λr2=>(Q0 (cK110 r2.1.1 v.QQ.QB 2) none λr3=>(Q0 (cK102 r3.1.1 v.QQ.Q16) none λr4=>(Q0 (cK137 r4.1.1 v.QQ.Qv) none λr5=>(Q0 (cK102 r5.1.1 v.QQ.Q15) none λr6=>(Q0 (cK111 r6.1.1 v.QQ.QI) none λr7=>(Q0 (cK102 r7.1.1 v.QQ.Q1D) none λr8=>(Q0 (cK102 r8.1.1 0) none λr9=>some (r9.1,((),())))))))))))) else (bif ieq id 8193 then (Q0 (cK110 (Qm UInt8) v.Q30.Q28 2) none λr10=>(Q0 (cK103 v.Qah) none λr11=>(Q0 (cK110 r10.1.1 r11.1.1 8) none λr12=>(Q0 (cK103 v.Qbw) none λr13=>(Q0 (cK110 r12.1.1 r13.1.1 8) none λr14=>some (r14.1,((),()))))))) else (bif ieq id 8194 then (Q0 (cK82 (Qm UInt8) v.Q30.QR) none λr15=>(Q0 (cK110 r15.1.1 65535 4) none λr16=>(Q0 (cK110 r16.1.1 2147483647 4) none λr17=>(Q0 (cK102 r17.1.1 v.Q30.Q16) none λr18=>(Q0 (cK137 r18.1.1 v.Q30.Qv) none λr19=>(Q0 (cK102 r19.1.1 v.Q30.Q15) none λr20=>(Q0 (cK111 r20.1.1 v.Q30.Q2z) none λr21=>some (r21.1,((),()))))))))) else (bif ieq id 8195 then (Q0 (cK110 (Qm UInt8) v.Q30.Q1e.Q3c 2) none λr22=>(Q0 (cK102 r22.1.1 (Q57 .i64 v.Q30.Q1e.Q1X 63)) none λr23=>(Q0 (cK102 r23.1.1 v.Q30.Q1e.Q1Q) none λr24=>some (r24.1,((),()))))) else (bif ieq id 8196 then (Q0 (cK82 (Qm UInt8) (Qd.mk v.QQ.QI v.QR)) none λr25=>(Q0 (cK102 r25.1.1 v.Qbx) none λr26=>(Q0 (cK102 r26.1.1 v.QQ.Q3l) none λr27=>(Q0 (cK103 v.Q4r) none λr28=>(Q0 (cK110 r27.1.1 r28.1.1 8) none λr29=>(Q0 (cK102 r29.1.1 v.QQ.Q46) none λr30=>(Q0 (cK102 r30.1.1 v.QQ.Q3U) none λr31=>(Q0 (cK102 r31.1.1 v.QQ.Q3h) none λr32=>(Q0 (cK99 (v.QQ.Q4r::Qm Bool)) none λr33=>(Q0 (cK102 r32.1.1 (Q4 .i64 1 r33.1.1)) none λr34=>(Q0 (cK102 r34.1.1 v.QQ.Q3l) none λr35=>(Q0 (cK102 r35.1.1 2) none λr36=>some (r36.1,((),())))))))))))))) else (bif ieq id 8207 then (Q0 (cK160 (Qm UInt8) v.Q6x) none λr37=>some (r37.1,((),()))) else (Q0 (cK106 v.QQ id) none λr38=>some (r38.1,((),())))))))))
def Q4l:Q4l.T:=Q4l.gen K99 Q34 Q3s Q1Z Q3Q Q1m K82 Q32 Q2V
theorem Q4l.eq (cK99:K99.T) (cK102:Q34.T) (cK110:Q3s.T) (cK137:Q1Z.T) (cK111:Q3Q.T) (cK103:Q1m.T) (cK82:K82.T) (cK160:Q32.T) (cK106:Q2V.T):EqA Q4l.sig (Q4l.H cK99 cK102 cK110 cK137 cK111 cK103 cK82 cK160 cK106) Tryz.f210 6 (Q4l.W (Q4l.gen cK99 cK102 cK110 cK137 cK111 cK103 cK82 cK160 cK106)):=by intro a x;kernel_rfl
theorem Q4l.ok:NK_ 210 Q4l.sig (Q4l.W Q4l):=ok_ Tryz.func210 (Q4l.eq K99 Q34 Q3s Q1Z Q3Q Q1m K82 Q32 Q2V) (hn_ (Z0 (Z0 (Z0 (Z0 (Z0 (Z0 (Z0 (Z0 (Z0 Z2 K99.ok) Q34.ok) Q3s.ok) Q1Z.ok) Q3Q.ok) Q1m.ok) K82.ok) Q32.ok) Q2V.ok))
end
end Go.Proofs.YtgnabnhggaondaaGreat
