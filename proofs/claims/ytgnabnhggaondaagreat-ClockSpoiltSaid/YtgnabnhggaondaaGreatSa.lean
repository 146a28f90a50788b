/- Typed forms of the functions that these statements reach, proved equal to what the model runs, and laws over them. -/
import Derived.Test.YtgnabnhggaondaaGreatT
namespace Go.Proofs.YtgnabnhggaondaaGreat
open Go.Rf
set_option linter.unusedVariables false
set_option linter.unusedSimpArgs false
set_option maxRecDepth 100000
noncomputable section
abbrev vi_:JV UC:= .val (.int .i64)
abbrev vb_:JV UC:= .val (.bool)
abbrev Q9a:NK UC:= .fam 0 (.obj .Q7)
abbrev Q4L:NK UC:= .fam 10 (.obj .Q1j)
abbrev Q6h:NK UC:= .fam 5 (.obj .Q1w)
abbrev Q5c:NK UC:= .fam 6 (.obj .Qy)
abbrev Q4S:NK UC:= .fam 7 (.obj .Q10)
abbrev Q54:NK UC:= .fam 8 (.obj .Q11)
abbrev Q5y:NK UC:= .fam 9 (.obj .Q18)
abbrev EqA (s:Sig U) (H:Hints U) (f:Func) (n:Nat) (g:s.F):Prop:=∀(a:Ts U s.Q4j) (x:HTs U s.heap),Q7L Tryz.prog H f n none s.fin (s.args a) (s.start x) s.base=g a x
theorem hq {Hn:Hints U} (hΓ:ZK U Tryz.prog Hn.Γ) {l:List Code} (hl:∀b N,.loop b∈l->Hn.loop (Zg b)=some N->ZF U Tryz.prog Hn.ro Hn.base b N) (h1:∀lb,Hn.label lb=none) (h2:∀f,Hn.inl f=none):Q3Z U Tryz.prog Hn (λc=>c∈l):=Z12 Q5L Q4u mixed hΓ hl (Z7C h1) (Z2a h2)
abbrev NK_ (k:Nat) (s:Sig U) (F:s.F):Prop:=Zy U Tryz.prog k (s.native F)
abbrev HO_ (H:Hints U) (l:List Code):Prop:=Q3Z U Tryz.prog H (λc=>c∈l)
abbrev LO_ (H:Hints U) (b:Code) (N:Z2x U):Prop:=ZF U Tryz.prog H.ro H.base b N
theorem hl_ {H:Hints U} (hΓ:ZK U Tryz.prog H.Γ) {l:List Code} (hl:∀b N,.loop b∈l->H.loop (Zg b)=some N->LO_ H b N) (h1:∀lb,H.label lb=none:=by exact λ_=>rfl) (h2:∀f,H.inl f=none:=by exact λ_=>rfl):HO_ H l:=hq hΓ hl h1 h2
theorem hn_ {H:Hints U} (hΓ:ZK U Tryz.prog H.Γ) (h1:∀lb,H.label lb=none:=by exact λ_=>rfl) (h2:∀f,H.inl f=none:=by exact λ_=>rfl):HO_ H []:=hq hΓ Z5 h1 h2
def cd_ (f:Func):Code:=match f.body with|some c=>c|none=>.skip
def jt_ {α:Type _}:List (Nat×α)->Nat->Option α
 | [],_=>none
 |(k,v)::r,b=>bif Nat.beq b k then some v else jt_ r b
theorem ok_ {s:Sig U} {F:s.F} {H:Hints U} {k n:Nat} {f:Func} {l:List Code} (hf:Tryz.prog.funcs[k]? =some f) (he:EqA s H f n F) (hH:HO_ H l) (hl:Z3 (cd_ f)=l:=by kernel_rfl) (hb:f.body=some (cd_ f):=by kernel_rfl) (hn:(f.name== "runtime.NumGoroutine")=false:=by kernel_rfl) (h1:H.ro=s.roN:=by rfl) (h2:H.base=s.base:=by rfl) (h3:s.Q82=true:=by decide) (h4:s.Q4j.length<=f.ntmps:=by decide):NK_ k s F:=Sig.ok s F Q4u hH hf hb hn (λb h=>by rw [hl] at h;exact h) h1 h2 h3 he h4
theorem lk_ {H:Hints U} {b:Code} {p:Shape U} {l:Ql U} {F:p.T->Option (ExT l)} {rounds:p.T->Nat} {round:p.T->Option (p.T⊕ExT l)} {n:Nat} (hH:HO_ H []) (hs:∀x,run Tryz.prog H n (Option (p.T⊕ExT l)) none b (p.enc x) (Zj (H.ro,H.base) p l)=round x) (hi:Z3 b= []:=by kernel_rfl) (hF:∀x,F x=Z8 (rounds x) round x:=by exact λ_=>rfl):LO_ H b (Z9 (H.ro,H.base) p l F):=Z2Q Q5L Q4u (Z1B hH n) (λb h=>by rw [hi] at h;exact h) hF hs
abbrev Fm (α:Type):=Nat×(Nat->α)
abbrev z0_:=Qd.mk (0:Int) (0:Int)
abbrev z1_:=Qx.mk (0:Int) (0:Int) (0:Int)
abbrev z2_:=Q8.mk (0:Int) (0:Int) (0:Int) (0:Int) z0_ (0:Int) (0:Int) (0:Int) z0_ (0:Int) (0:Int) z1_ (0:Int) (0:Int) (0:Int) (0:Int) (0:Int) (0:Int) (0:Int)
abbrev z3_:=QS.mk (0:Int)
abbrev z4_:=Q1b.mk (0:Int) (0:Int) (0:Int)
abbrev z5_:=Q13.mk (0:Int) false
abbrev z6_:=Qj.mk (0:Int) z1_ (0:Int) (0:Int) (0:Int) z0_ z0_
abbrev z7_:=Q9.mk (0:Int) (0:Int) (0:Int) (0:Int) (0:Int) z1_ false (0:Int) (0:Int) (0:Int) (0:Int) false false (0:Int) (0:Int) (0:Int) (0:Int) z4_ false
abbrev z8_:=(1:Int)::(0:Int)::(0:Int)::(0:Int)::(-3:Int)::(-3:Int)::(-3:Int)::(2:Int)::(1:Int)::(0:Int)::(0:Int)::(0:Int)::(-32768:Int)::(0:Int)::(0:Int)::Qm Int
abbrev z9_:=(8:Int)::(127:Int)::(255:Int)::(255:Int)::(4:Int)::(4:Int)::(4:Int)::(10:Int)::(15:Int)::(2000:Int)::(2000:Int)::(1000000000:Int)::(32767:Int)::(63:Int)::(255:Int)::Qm Int
abbrev Q3R (c:Q9):=c.QB::c.Q1D::c.Q15::c.Q16::c.Q45::c.Q3h::c.Q3m::c.Q3X::c.Q4p::c.fKp::c.fKi::c.Q5E::c.Q1e.Q3a::c.Q1e.Q1Y::c.Q1e.Q1Q::Qm Int
abbrev Q4D:List (Nat×JH UC):= [(5,.Q1R false .Q1w),(6,.Q1R false .Qy),(7,.Q1R false .Q10),(8,.Q1R false .Q11),(9,.Q1R false .Q18),(10,.Q1R false .Q1j),(12,.Q3t true false .Qu .Q1O)]
abbrev Q65:List (Nat×JH UC):= [(6,.Q1R false .Qy),(12,.Q3t true false .Qu .Q1O)]
abbrev Q6N:List (Nat×JH UC):= [(5,.Q1R false .Q1w),(7,.Q1R false .Q10),(8,.Q1R false .Q11),(9,.Q1R false .Q18),(10,.Q1R false .Q1j)]
abbrev Q5M:List (Nat×JH UC):= [(6,.Q1R false .Qy),(7,.Q1R false .Q10),(9,.Q1R false .Q18),(10,.Q1R false .Q1j)]
abbrev Q7e:List (Nat×JH UC):= [(7,.Q1R false .Q10),(8,.Q1R false .Q11),(12,.Q3t true false .Qu .Q1O)]
abbrev Q5Y:List (Nat×JH UC):= [(0,.Q1R false .Q7),(5,.Q1R false .Q1w),(6,.Q1R false .Qy),(7,.Q1R false .Q10),(8,.Q1R false .Q11),(9,.Q1R false .Q18),(10,.Q1R false .Q1j),(12,.Q3t true false .Qu .Q1O)]
abbrev Q8C:List (Nat×JH UC):= [(6,.Q1R false .Qy),(7,.Q1R false .Q10),(8,.Q1R false .Q11),(9,.Q1R false .Q18),(10,.Q1R false .Q1j),(12,.Q3t true false .Qu .Q1O)]
abbrev hT7_:List (Nat×JH UC):= [(6,.Q1R false .Qy),(7,.Q1R false .Q10),(8,.Q1R false .Q11),(10,.Q1R false .Q1j),(12,.Q3t true false .Qu .Q1O)]
abbrev hT8_:List (Nat×JH UC):= [(7,.Q1R false .Q10),(10,.Q1R false .Q1j)]
abbrev Q3w:Type:=(Fm Q1)×(Fm Qo)×(Fm Qe)×(Fm Qg)×(Fm Qb)×(Fm Qh)×(Fm Qz)×(Nat×(Nat->List (Qd×List (Int))))×Unit
abbrev Q53:Type:=(Fm Qo)×(Fm Qe)×(Fm Qg)×(Fm Qb)×(Fm Qh)×(Fm Qz)×(Nat×(Nat->List (Qd×List (Int))))×Unit
abbrev Q6K:Type:=(Fm Qe)×(Fm Qg)×(Fm Qh)×(Fm Qz)×Unit
abbrev Q6R:Type:=(Fm Qe)×(Fm Qg)×(Fm Qb)×(Fm Qh)×(Fm Qz)×(Nat×(Nat->List (Qd×List (Int))))×Unit
abbrev Q7p:Type:=(Fm Qe)×(Nat×(Nat->List (Qd×List (Int))))×Unit
abbrev Q8s:Type:=(Fm Qo)×(Fm Qg)×(Fm Qb)×(Fm Qh)×(Fm Qz)×Unit
abbrev Q9W:Type:=(Fm Bool)×(Fm Qe)×(Fm Qg)×(Fm Qh)×(Fm Qz)×Unit
def K54.sig:Sig U:=⟨[.int .u64],[],0,[.data .Q1d],false,[]⟩
abbrev K54.T:Type:=(Int)->Option ((Q9×Unit)×Unit×Unit)
def K54.W (f:K54.T):K54.sig.F:=λa x=>f a.1
def K54.H:Hints U:={ Γ:=noΓ,ro:=0,base:=13}
def K54.gen:K54.T:=λclock=>
 some ((Q9.mk clock 1 0 128 128 (Qx.mk 248 254 65535) false 1 0 0 3 false false 5 700 300 20000 (Q1b.mk 37 8 160) false,()),((),()))
def K54:K54.T:=K54.gen
theorem K54.ok:NK_ 23 K54.sig (K54.W K54):=ok_ (H:=K54.H) (n:=6) Tryz.func23 (by intro a x;kernel_rfl) (hn_ Z2)
def Q2h.sig:Sig U:=⟨[.data .Q2u],[],0,[.bool],false,[]⟩
abbrev Q2h.T:Type:=(Qx)->Option ((Bool×Unit)×Unit×Unit)
def Q2h.W (f:Q2h.T):Q2h.sig.F:=λa x=>f a.1
abbrev Q2h.N (c:Q2h.T):=Qn 87 (Q2h.sig.native (Q2h.W c))
def Q2h.H:Hints U:={ Γ:=noΓ,ro:=0,base:=13}
def Q2h.gen:Q2h.T:=λq=>
 (bif ile 0 q.Q1W then (bif ile q.Q1W 255 then (bif ile 0 q.Q1u then (bif ile q.Q1u 255 then (bif ile 0 q.Q1F then some ((ile q.Q1F 65535,()),((),())) else some ((false,()),((),()))) else some ((false,()),((),()))) else some ((false,()),((),()))) else some ((false,()),((),()))) else some ((false,()),((),())))
def Q2h:Q2h.T:=Q2h.gen
theorem Q2h.ok:NK_ 87 Q2h.sig (Q2h.W Q2h):=ok_ (H:=Q2h.H) (n:=6) Tryz.func87 (by intro a x;kernel_rfl) (hn_ Z2)
def K53.sig:Sig U:=⟨[.data .Q1d],[],0,[.int .i64],false,[]⟩
abbrev K53.T:Type:=(Q9)->Option ((Int×Unit)×Unit×Unit)
def K53.W (f:K53.T):K53.sig.F:=λa x=>f a.1
abbrev K53.N (c:K53.T):=Qn 48 (K53.sig.native (K53.W c))
def K53.C:Code:=match Tryz.f48.body with|some c=>c|none=>.skip
def K53.B0:Code:=match (Z3 K53.C).getD 0 .skip with| .loop b=>b| .scope b=>b|_=>.skip
def K53.U0 (cK140:Q2h.T):Hints U:={ Γ:=(Q2h.N cK140 noΓ),ro:=0,base:=13,Q1L:=jt_ [(4,[(68,vb_)]),(7,[(70,vb_)]),(9,[(85,vb_)])],loop:=λb=>none}
def K53.H (cK140:Q2h.T):Hints U:={ Γ:=(Q2h.N cK140 noΓ),ro:=0,base:=13,Q1L:=jt_ [(4,[(68,vb_)]),(7,[(70,vb_)]),(9,[(85,vb_)])],loop:=jt_ [(2,(Z1N Tryz.prog (K53.U0 cK140) 6 K53.B0 17))]}
def K53.gen (cK140:Q2h.T):K53.T:=λc=>
 (Q0 ((bif ilt (List.getD (Q3R c) (Int.toNat 0) 0) (List.getD z8_ (Int.toNat 0) 0) then some (true,()) else some (ilt (List.getD z9_ (Int.toNat 0) 0) (List.getD (Q3R c) (Int.toNat 0) 0),()))) none λr0=>(bif r0.1 then some (((15:Int),()),((),())) else (Q0 ((bif ilt (List.getD (Q3R c) (Int.toNat (Q4 .i64 0 1)) 0) (List.getD z8_ (Int.toNat (Q4 .i64 0 1)) 0) then some (true,()) else some (ilt (List.getD z9_ (Int.toNat (Q4 .i64 0 1)) 0) (List.getD (Q3R c) (Int.toNat (Q4 .i64 0 1)) 0),()))) none λr1=>(bif r1.1 then some (((15:Int),()),((),())) else (Q0 ((bif ilt (List.getD (Q3R c) (Int.toNat (Q4 .i64 (Q4 .i64 0 1) 1)) 0) (List.getD z8_ (Int.toNat (Q4 .i64 (Q4 .i64 0 1) 1)) 0) then some (true,()) else some (ilt (List.getD z9_ (Int.toNat (Q4 .i64 (Q4 .i64 0 1) 1)) 0) (List.getD (Q3R c) (Int.toNat (Q4 .i64 (Q4 .i64 0 1) 1)) 0),()))) none λr2=>(bif r2.1 then some (((15:Int),()),((),())) else (Q0 ((bif ilt (List.getD (Q3R c) (Int.toNat (Q4 .i64 (Q4 .i64 (Q4 .i64 0 1) 1) 1)) 0) (List.getD z8_ (Int.toNat (Q4 .i64 (Q4 .i64 (Q4 .i64 0 1) 1) 1)) 0) then some (true,()) else some (ilt (List.getD z9_ (Int.toNat (Q4 .i64 (Q4 .i64 (Q4 .i64 0 1) 1) 1)) 0) (List.getD (Q3R c) (Int.toNat (Q4 .i64 (Q4 .i64 (Q4 .i64 0 1) 1) 1)) 0),()))) none λr3=>(bif r3.1 then some (((15:Int),()),((),())) else (Q0 ((bif ilt (List.getD (Q3R c) (Int.toNat (Q4 .i64 (Q4 .i64 (Q4 .i64 (Q4 .i64 0 1) 1) 1) 1)) 0) (List.getD z8_ (Int.toNat (Q4 .i64 (Q4 .i64 (Q4 .i64 (Q4 .i64 0 1) 1) 1) 1)) 0) then some (true,()) else some (ilt (List.getD z9_ (Int.toNat (Q4 .i64 (Q4 .i64 (Q4 .i64 (Q4 .i64 0 1) 1) 1) 1)) 0) (List.getD (Q3R c) (Int.toNat (Q4 .i64 (Q4 .i64 (Q4 .i64 (Q4 .i64 0 1) 1) 1) 1)) 0),()))) none λr4=>(bif r4.1 then some (((15:Int),()),((),())) else (Q0 ((bif ilt (List.getD (Q3R c) (Int.toNat (Q4 .i64 (Q4 .i64 (Q4 .i64 (Q4 .i64 (Q4 .i64 0 1) 1) 1) 1) 1)) 0) (List.getD z8_ (Int.toNat (Q4 .i64 (Q4 .i64 (Q4 .i64 (Q4 .i64 (Q4 .i64 0 1) 1) 1) 1) 1)) 0) then some (true,()) else some (ilt (List.getD z9_ (Int.toNat (Q4 .i64 (Q4 .i64 (Q4 .i64 (Q4 .i64 (Q4 .i64 0 1) 1) 1) 1) 1)) 0) (List.getD (Q3R c) (Int.toNat (Q4 .i64 (Q4 .i64 (Q4 .i64 (Q4 .i64 (Q4 .i64 0 1) 1) 1) 1) 1)) 0),()))) none λr5=>(bif r5.1 then some (((15:Int),()),((),())) else (Q0 ((bif ilt (List.getD (Q3R c) (Int.toNat (Q4 .i64 (Q4 .i64 (Q4 .i64 (Q4 .i64 (Q4 .i64 (Q4 .i64 0 1) 1) 1) 1) 1) 1)) 0) (List.getD z8_ (Int.toNat (Q4 .i64 (Q4 .i64 (Q4 .i64 (Q4 .i64 (Q4 .i64 (Q4 .i64 0 1) 1) 1) 1) 1) 1)) 0) then some (true,()) else some (ilt (List.getD z9_ (Int.toNat (Q4 .i64 (Q4 .i64 (Q4 .i64 (Q4 .i64 (Q4 .i64 (Q4 .i64 0 1) 1) 1) 1) 1) 1)) 0) (List.getD (Q3R c) (Int.toNat (Q4 .i64 (Q4 .i64 (Q4 .i64 (Q4 .i64 (Q4 .i64 (Q4 .i64 0 1) 1) 1) 1) 1) 1)) 0),()))) none λr6=>(bif r6.1 then some (((15:Int),()),((),())) else (Q0 ((bif ilt (List.getD (Q3R c) (Int.toNat (Q4 .i64 (Q4 .i64 (Q4 .i64 (Q4 .i64 (Q4 .i64 (Q4 .i64 (Q4 .i64 0 1) 1) 1) 1) 1) 1) 1)) 0) (List.getD z8_ (Int.toNat (Q4 .i64 (Q4 .i64 (Q4 .i64 (Q4 .i64 (Q4 .i64 (Q4 .i64 (Q4 .i64 0 1) 1) 1) 1) 1) 1) 1)) 0) then some (true,()) else some (ilt (List.getD z9_ (Int.toNat (Q4 .i64 (Q4 .i64 (Q4 .i64 (Q4 .i64 (Q4 .i64 (Q4 .i64 (Q4 .i64 0 1) 1) 1) 1) 1) 1) 1)) 0) (List.getD (Q3R c) (Int.toNat (Q4 .i64 (Q4 .i64 (Q4 .i64 (Q4 .i64 (Q4 .i64 (Q4 .i64 (Q4 .i64 0 1) 1) 1) 1) 1) 1) 1)) 0),()))) none λr7=>(bif r7.1 then some (((15:Int),()),((),())) else (Q0 ((bif ilt (List.getD (Q3R c) (Int.toNat (Q4 .i64 (Q4 .i64 (Q4 .i64 (Q4 .i64 (Q4 .i64 (Q4 .i64 (Q4 .i64 (Q4 .i64 0 1) 1) 1) 1) 1) 1) 1) 1)) 0) (List.getD z8_ (Int.toNat (Q4 .i64 (Q4 .i64 (Q4 .i64 (Q4 .i64 (Q4 .i64 (Q4 .i64 (Q4 .i64 (Q4 .i64 0 1) 1) 1) 1) 1) 1) 1) 1)) 0) then some (true,()) else some (ilt (List.getD z9_ (Int.toNat (Q4 .i64 (Q4 .i64 (Q4 .i64 (Q4 .i64 (Q4 .i64 (Q4 .i64 (Q4 .i64 (Q4 .i64 0 1) 1) 1) 1) 1) 1) 1) 1)) 0) (List.getD (Q3R c) (Int.toNat (Q4 .i64 (Q4 .i64 (Q4 .i64 (Q4 .i64 (Q4 .i64 (Q4 .i64 (Q4 .i64 (Q4 .i64 0 1) 1) 1) 1) 1) 1) 1) 1)) 0),()))) none λr8=>(bif r8.1 then some (((15:Int),()),((),())) else (Q0 ((bif ilt (List.getD (Q3R c) (Int.toNat (Q4 .i64 (Q4 .i64 (Q4 .i64 (Q4 .i64 (Q4 .i64 (Q4 .i64 (Q4 .i64 (Q4 .i64 (Q4 .i64 0 1) 1) 1) 1) 1) 1) 1) 1) 1)) 0) (List.getD z8_ (Int.toNat (Q4 .i64 (Q4 .i64 (Q4 .i64 (Q4 .i64 (Q4 .i64 (Q4 .i64 (Q4 .i64 (Q4 .i64 (Q4 .i64 0 1) 1) 1) 1) 1) 1) 1) 1) 1)) 0) then some (true,()) else some (ilt (List.getD z9_ (Int.toNat (Q4 .i64 (Q4 .i64 (Q4 .i64 (Q4 .i64 (Q4 .i64 (Q4 .i64 (Q4 .i64 (Q4 .i64 (Q4 .i64 0 1) 1) 1) 1) 1) 1) 1) 1) 1)) 0) (List.getD (Q3R c) (Int.toNat (Q4 .i64 (Q4 .i64 (Q4 .i64 (Q4 .i64 (Q4 .i64 (Q4 .i64 (Q4 .i64 (Q4 .i64 (Q4 .i64 0 1) 1) 1) 1) 1) 1) 1) 1) 1)) 0),()))) none λr9=>(bif r9.1 then some (((15:Int),()),((),())) else (Q0 ((bif ilt (List.getD (Q3R c) (Int.toNat (Q4 .i64 (Q4 .i64 (Q4 .i64 (Q4 .i64 (Q4 .i64 (Q4 .i64 (Q4 .i64 (Q4 .i64 (Q4 .i64 (Q4 .i64 0 1) 1) 1) 1) 1) 1) 1) 1) 1) 1)) 0) (List.getD z8_ (Int.toNat (Q4 .i64 (Q4 .i64 (Q4 .i64 (Q4 .i64 (Q4 .i64 (Q4 .i64 (Q4 .i64 (Q4 .i64 (Q4 .i64 (Q4 .i64 0 1) 1) 1) 1) 1) 1) 1) 1) 1) 1)) 0) then some (true,()) else some (ilt (List.getD z9_ (Int.toNat (Q4 .i64 (Q4 .i64 (Q4 .i64 (Q4 .i64 (Q4 .i64 (Q4 .i64 (Q4 .i64 (Q4 .i64 (Q4 .i64 (Q4 .i64 0 1) 1) 1) 1) 1) 1) 1) 1) 1) 1)) 0) (List.getD (Q3R c) (Int.toNat (Q4 .i64 (Q4 .i64 (Q4 .i64 (Q4 .i64 (Q4 .i64 (Q4 .i64 (Q4 .i64 (Q4 .i64 (Q4 .i64 (Q4 .i64 0 1) 1) 1) 1) 1) 1) 1) 1) 1) 1)) 0),()))) none λr10=>(bif r10.1 then some (((15:Int),()),((),())) else (Q0 ((bif ilt (List.getD (Q3R c) (Int.toNat (Q4 .i64 (Q4 .i64 (Q4 .i64 (Q4 .i64 (Q4 .i64 (Q4 .i64 (Q4 .i64 (Q4 .i64 (Q4 .i64 (Q4 .i64 (Q4 .i64 0 1) 1) 1) 1) 1) 1) 1) 1) 1) 1) 1)) 0) (List.getD z8_ (Int.toNat (Q4 .i64 (Q4 .i64 (Q4 .i64 (Q4 .i64 (Q4 .i64 (Q4 .i64 (Q4 .i64 (Q4 .i64 (Q4 .i64 (Q4 .i64 (Q4 .i64 0 1) 1) 1) 1) 1) 1) 1) 1) 1) 1) 1)) 0) then some (true,()) else some (ilt (List.getD z9_ (Int.toNat (Q4 .i64 (Q4 .i64 (Q4 .i64 (Q4 .i64 (Q4 .i64 (Q4 .i64 (Q4 .i64 (Q4 .i64 (Q4 .i64 (Q4 .i64 (Q4 .i64 0 1) 1) 1) 1) 1) 1) 1) 1) 1) 1) 1)) 0) (List.getD (Q3R c) (Int.toNat (Q4 .i64 (Q4 .i64 (Q4 .i64 (Q4 .i64 (Q4 .i64 (Q4 .i64 (Q4 .i64 (Q4 .i64 (Q4 .i64 (Q4 .i64 (Q4 .i64 0 1) 1) 1) 1) 1) 1) 1) 1) 1) 1) 1)) 0),()))) none λr11=>(bif r11.1 then some (((15:Int),()),((),())) else (Q0 ((bif ilt (List.getD (Q3R c) (Int.toNat (Q4 .i64 (Q4 .i64 (Q4 .i64 (Q4 .i64 (Q4 .i64 (Q4 .i64 (Q4 .i64 (Q4 .i64 (Q4 .i64 (Q4 .i64 (Q4 .i64 (Q4 .i64 0 1) 1) 1) 1) 1) 1) 1) 1) 1) 1) 1) 1)) 0) (List.getD z8_ (Int.toNat (Q4 .i64 (Q4 .i64 (Q4 .i64 (Q4 .i64 (Q4 .i64 (Q4 .i64 (Q4 .i64 (Q4 .i64 (Q4 .i64 (Q4 .i64 (Q4 .i64 (Q4 .i64 0 1) 1) 1) 1) 1) 1) 1) 1) 1) 1) 1) 1)) 0) then some (true,()) else some (ilt (List.getD z9_ (Int.toNat (Q4 .i64 (Q4 .i64 (Q4 .i64 (Q4 .i64 (Q4 .i64 (Q4 .i64 (Q4 .i64 (Q4 .i64 (Q4 .i64 (Q4 .i64 (Q4 .i64 (Q4 .i64 0 1) 1) 1) 1) 1) 1) 1) 1) 1) 1) 1) 1)) 0) (List.getD (Q3R c) (Int.toNat (Q4 .i64 (Q4 .i64 (Q4 .i64 (Q4 .i64 (Q4 .i64 (Q4 .i64 (Q4 .i64 (Q4 .i64 (Q4 .i64 (Q4 .i64 (Q4 .i64 (Q4 .i64 0 1) 1) 1) 1) 1) 1) 1) 1) 1) 1) 1) 1)) 0),()))) none λr12=>(bif r12.1 then some (((15:Int),()),((),())) else (Q0 ((bif ilt (List.getD (Q3R c) (Int.toNat (Q4 .i64 (Q4 .i64 (Q4 .i64 (Q4 .i64 (Q4 .i64 (Q4 .i64 (Q4 .i64 (Q4 .i64 (Q4 .i64 (Q4 .i64 (Q4 .i64 (Q4 .i64 (Q4 .i64 0 1) 1) 1) 1) 1) 1) 1) 1) 1) 1) 1) 1) 1)) 0) (List.getD z8_ (Int.toNat (Q4 .i64 (Q4 .i64 (Q4 .i64 (Q4 .i64 (Q4 .i64 (Q4 .i64 (Q4 .i64 (Q4 .i64 (Q4 .i64 (Q4 .i64 (Q4 .i64 (Q4 .i64 (Q4 .i64 0 1) 1) 1) 1) 1) 1) 1) 1) 1) 1) 1) 1) 1)) 0) then some (true,()) else some (ilt (List.getD z9_ (Int.toNat (Q4 .i64 (Q4 .i64 (Q4 .i64 (Q4 .i64 (Q4 .i64 (Q4 .i64 (Q4 .i64 (Q4 .i64 (Q4 .i64 (Q4 .i64 (Q4 .i64 (Q4 .i64 (Q4 .i64 0 1) 1) 1) 1) 1) 1) 1) 1) 1) 1) 1) 1) 1)) 0) (List.getD (Q3R c) (Int.toNat (Q4 .i64 (Q4 .i64 (Q4 .i64 (Q4 .i64 (Q4 .i64 (Q4 .i64 (Q4 .i64 (Q4 .i64 (Q4 .i64 (Q4 .i64 (Q4 .i64 (Q4 .i64 (Q4 .i64 0 1) 1) 1) 1) 1) 1) 1) 1) 1) 1) 1) 1) 1)) 0),()))) none λr13=>(bif r13.1 then some (((15:Int),()),((),())) else (Q0 ((bif ilt (List.getD (Q3R c) (Int.toNat (Q4 .i64 (Q4 .i64 (Q4 .i64 (Q4 .i64 (Q4 .i64 (Q4 .i64 (Q4 .i64 (Q4 .i64 (Q4 .i64 (Q4 .i64 (Q4 .i64 (Q4 .i64 (Q4 .i64 (Q4 .i64 0 1) 1) 1) 1) 1) 1) 1) 1) 1) 1) 1) 1) 1) 1)) 0) (List.getD z8_ (Int.toNat (Q4 .i64 (Q4 .i64 (Q4 .i64 (Q4 .i64 (Q4 .i64 (Q4 .i64 (Q4 .i64 (Q4 .i64 (Q4 .i64 (Q4 .i64 (Q4 .i64 (Q4 .i64 (Q4 .i64 (Q4 .i64 0 1) 1) 1) 1) 1) 1) 1) 1) 1) 1) 1) 1) 1) 1)) 0) then some (true,()) else some (ilt (List.getD z9_ (Int.toNat (Q4 .i64 (Q4 .i64 (Q4 .i64 (Q4 .i64 (Q4 .i64 (Q4 .i64 (Q4 .i64 (Q4 .i64 (Q4 .i64 (Q4 .i64 (Q4 .i64 (Q4 .i64 (Q4 .i64 (Q4 .i64 0 1) 1) 1) 1) 1) 1) 1) 1) 1) 1) 1) 1) 1) 1)) 0) (List.getD (Q3R c) (Int.toNat (Q4 .i64 (Q4 .i64 (Q4 .i64 (Q4 .i64 (Q4 .i64 (Q4 .i64 (Q4 .i64 (Q4 .i64 (Q4 .i64 (Q4 .i64 (Q4 .i64 (Q4 .i64 (Q4 .i64 (Q4 .i64 0 1) 1) 1) 1) 1) 1) 1) 1) 1) 1) 1) 1) 1) 1)) 0),()))) none λr14=>(bif r14.1 then some (((15:Int),()),((),())) else (Q0 ((bif ieq c.QI 0 then some (true,()) else (bif ieq c.QI 18446744073709551615 then some (true,()) else (Q0 (cK140 c.Qv) none λr15=>some (!r15.1.1,()))))) none λr16=>(bif r16.1 then some (((15:Int),()),((),())) else (Q0 ((bif c.Q2s then (bif ilt 1 c.QB then some (true,()) else some (ine c.Qv.Q1W 255,())) else some (false,()))) none λr17=>(bif r17.1 then some (((15:Int),()),((),())) else some (((0:Int),()),((),()))))))))))))))))))))))))))))))))))))
def K53:K53.T:=K53.gen Q2h
theorem K53.Q4B:Z3 K53.B0= []:=by kernel_rfl
abbrev K53.h:=K53.H Q2h
theorem K53.Q1V:ZF U Tryz.prog K53.h.ro K53.h.base K53.B0 (Z1N Tryz.prog (K53.U0 Q2h) 6 K53.B0 17):=
 Z2t (Hn:=(K53.U0 Q2h)) (L:=λc=>c∈([]:List Code)) (hq (Z0 Z2 Q2h.ok) Z5 (λ_=>rfl) (λ_=>rfl)) (λb h=>by rw [K53.Q4B] at h;exact h) 17
theorem K53.eq (cK140:Q2h.T):EqA K53.sig (K53.H cK140) Tryz.f48 6 (K53.W (K53.gen cK140)):=by intro a x;kernel_rfl
theorem K53.loops:Z3 K53.C= [(.loop K53.B0)]:=by kernel_rfl
theorem K53.ok:NK_ 48 K53.sig (K53.W K53):=ok_ Tryz.func48 (K53.eq Q2h) (hl_ (Z0 Z2 Q2h.ok) (Z7 (by kernel_rfl) K53.Q1V Z5)) K53.loops
def Q1E.sig:Sig U:=⟨[.data .Q1d],[],0,[.data .Q1G],false,[]⟩
abbrev Q1E.T:Type:=(Q9)->Option ((QX×Unit)×Unit×Unit)
def Q1E.W (f:Q1E.T):Q1E.sig.F:=λa x=>f a.1
abbrev Q1E.N (c:Q1E.T):=Qn 88 (Q1E.sig.native (Q1E.W c))
def Q1E.H:Hints U:={ Γ:=noΓ,ro:=0,base:=13}
def Q1E.gen:Q1E.T:=λc=>
 some ((QX.mk (Qd.mk c.QI 0) c.QI c.Qv c.Q15 c.Q16 0 c.Q1e,()),((),()))
def Q1E:Q1E.T:=Q1E.gen
theorem Q1E.ok:NK_ 88 Q1E.sig (Q1E.W Q1E):=ok_ (H:=Q1E.H) (n:=6) Tryz.func88 (by intro a x;kernel_rfl) (hn_ Z2)
def Q37.sig:Sig U:=⟨[.int .i64,.int .i64,.int .i64],[Q6h],0,[.ref 5],false,[]⟩
abbrev Q37.T:Type:=(Int)->(Int)->(Int)->(Fm Qo)->Option (((Option Nat)×Unit)×((Fm Qo)×Unit)×Unit)
def Q37.W (f:Q37.T):Q37.sig.F:=λa x=>f a.1 a.2.1 a.2.2.1 x.1
def Q37.H:Hints U:={ Γ:=noΓ,ro:=0,base:=13}
def Q37.gen:Q37.T:=λkp ki step g5=>
 some ((some g5.1,()),(((g5.1+1,Qr g5.2 g5.1 (Qo.mk (Z4 true 0 (Z4 false kp 2000)) (Z4 true 0 (Z4 false ki 2000)) (Z4 true 0 (Z4 false step 1000000000)) 0 0 0 0)),()),()))
def Q37:Q37.T:=Q37.gen
theorem Q37.ok:NK_ 89 Q37.sig (Q37.W Q37):=ok_ (H:=Q37.H) (n:=6) Tryz.func89 (by intro a x;kernel_rfl) (hn_ Z2)
def K99.sig:Sig U:=⟨[.int .i64],[Q5y],0,[.ref 9],false,[]⟩
abbrev K99.T:Type:=(Int)->(Fm Qh)->Option (((Option Nat)×Unit)×((Fm Qh)×Unit)×Unit)
def K99.W (f:K99.T):K99.sig.F:=λa x=>f a.1 x.1
def K99.H:Hints U:={ Γ:=noΓ,ro:=0,base:=13}
def K99.gen:K99.T:=λn g9=>
 some ((some g9.1,()),(((g9.1+1,Qr g9.2 g9.1 (Qh.mk (λ(j:Nat)=>List.getD ((0:Int)::(0:Int)::(0:Int)::(0:Int)::(0:Int)::(0:Int)::(0:Int)::(0:Int)::(0:Int)::(0:Int)::(0:Int)::(0:Int)::(0:Int)::(0:Int)::(0:Int)::Qm Int) j (0:D UC.int)) 0 (Z4 true 1 (Z4 false n 15)))),()),()))
def K99:K99.T:=K99.gen
theorem K99.ok:NK_ 90 K99.sig (K99.W K99):=ok_ (H:=K99.H) (n:=6) Tryz.func90 (by intro a x;kernel_rfl) (hn_ Z2)
def K32.sig:Sig U:=⟨[.ptr,.int .i64],[.obj .Q7],1,[.data .Qu],false,[]⟩
abbrev K32.T:Type:=(Int)->(Q1)->Option ((Qd×Unit)×Unit×Unit)
def K32.W (f:K32.T):K32.sig.F:=λa x=>f a.2.1 x.1
abbrev K32.N (c:K32.T):=Qn 79 (K32.sig.native (K32.W c))
def K32.H:Hints U:={ Γ:=(Qn 5000000021 Z16 noΓ),ro:=14,base:=14}
def K32.gen:K32.T:=λn h0=>
 some ((Qd.mk h0.Qs.QI n,()),((),()))
def K32:K32.T:=K32.gen
theorem K32.ok:NK_ 79 K32.sig (K32.W K32):=ok_ (H:=K32.H) (n:=6) Tryz.func79 (by intro a x;kernel_rfl) (hn_ (Z0 Z2 Zd))
def K34.sig:Sig U:=⟨[.ptr,.int .i64],[.obj .Q7],1,[.Q59 0 23 42 8],false,[]⟩
abbrev K34.T:Type:=(Int)->(Q1)->Option ((Nat×Unit)×Unit×Unit)
def K34.W (f:K34.T):K34.sig.F:=λa x=>f a.2.1 x.1
abbrev K34.N (c:K34.T):=Qn 52 (K34.sig.native (K34.W c))
def K34.H:Hints U:={ Γ:=(Qn 5000000021 Z16 noΓ),ro:=14,base:=14}
def K34.gen:K34.T:=λn h0=>
 (bif inR (Q1s .i64 n 1) 8 then some ((Int.toNat (Q1s .i64 n 1),()),((),())) else none)
def K34:K34.T:=K34.gen
theorem K34.ok:NK_ 52 K34.sig (K34.W K34):=ok_ (H:=K34.H) (n:=6) Tryz.func52 (by intro a x;kernel_rfl) (hn_ (Z0 Z2 Zd))
def Q3d.sig:Sig U:=⟨[.int .i64,.int .i64],[],0,[.int .i64],false,[]⟩
abbrev Q3d.T:Type:=(Int)->(Int)->Option ((Int×Unit)×Unit×Unit)
def Q3d.W (f:Q3d.T):Q3d.sig.F:=λa x=>f a.1 a.2.1
def Q3d.H:Hints U:={ Γ:=noΓ,ro:=0,base:=13}
def Q3d.gen:Q3d.T:=λn log=>
 (bif ieq (Z4 true (-3) (Z4 false log 4)) (-3) then some ((Q50 .i64 (Q50 .i64 (Q50 .i64 n 2) 2) 2,()),((),())) else (bif ieq (Z4 true (-3) (Z4 false log 4)) (-2) then some ((Q50 .i64 (Q50 .i64 n 2) 2,()),((),())) else (bif ieq (Z4 true (-3) (Z4 false log 4)) (-1) then some ((Q50 .i64 n 2,()),((),())) else (bif ile 0 (Z4 true (-3) (Z4 false log 4)) then some ((Q8A .i64 n (Z4 true (-3) (Z4 false log 4)),()),((),())) else none))))
def Q3d:Q3d.T:=Q3d.gen
theorem Q3d.ok:NK_ 175 Q3d.sig (Q3d.W Q3d):=ok_ (H:=Q3d.H) (n:=6) Tryz.func175 (by intro a x;kernel_rfl) (hn_ Z2)
def Q2O.sig:Sig U:=⟨[.int .i64],[],0,[.int .i64],false,[]⟩
abbrev Q2O.T:Type:=(Int)->Option ((Int×Unit)×Unit×Unit)
def Q2O.W (f:Q2O.T):Q2O.sig.F:=λa x=>f a.1
def Q2O.H (cK163:Q3d.T):Hints U:={ Γ:=(Qn 175 (Q3d.sig.native (Q3d.W cK163)) noΓ),ro:=0,base:=13}
def Q2O.gen (cK163:Q3d.T):Q2O.T:=λlog=>
 (Q0 (cK163 8 log) none λr0=>some (r0.1,((),())))
def Q2O:Q2O.T:=Q2O.gen Q3d
theorem Q2O.eq (cK163:Q3d.T):EqA Q2O.sig (Q2O.H cK163) Tryz.f132 6 (Q2O.W (Q2O.gen cK163)):=by intro a x;kernel_rfl
theorem Q2O.ok:NK_ 132 Q2O.sig (Q2O.W Q2O):=ok_ Tryz.func132 (Q2O.eq Q3d) (hn_ (Z0 Z2 Q3d.ok))
def K13.sig:Sig U:=⟨[.ptr],[.obj .Q7],1,[.int .i64],false,[]⟩
abbrev K13.T:Type:=(Q1)->Option ((Int×Unit)×Unit×Unit)
def K13.W (f:K13.T):K13.sig.F:=λa x=>f x.1
abbrev K13.N (c:K13.T):=Qn 70 (K13.sig.native (K13.W c))
def K13.H (cK162:Q2O.T):Hints U:={ Γ:=(Qn 132 (Q2O.sig.native (Q2O.W cK162)) (Qn 5000000021 Z16 noΓ)),ro:=14,base:=14}
def K13.gen (cK162:Q2O.T):K13.T:=λh0=>
 (Q0 (cK162 h0.Qs.Q45) none λr0=>some (r0.1,((),())))
def K13:K13.T:=K13.gen Q2O
theorem K13.eq (cK162:Q2O.T):EqA K13.sig (K13.H cK162) Tryz.f70 6 (K13.W (K13.gen cK162)):=by intro a x;kernel_rfl
theorem K13.ok:NK_ 70 K13.sig (K13.W K13):=ok_ Tryz.func70 (K13.eq Q2O) (hn_ (Z0 (Z0 Z2 Zd) Q2O.ok))
def K63.sig:Sig U:=⟨[.int .u64,.int .i64,.int .i64],[Q5c],0,[.ref 6],false,[]⟩
abbrev K63.T:Type:=(Int)->(Int)->(Int)->(Fm Qe)->Option (((Option Nat)×Unit)×((Fm Qe)×Unit)×Unit)
def K63.W (f:K63.T):K63.sig.F:=λa x=>f a.1 a.2.1 a.2.2.1 x.1
def K63.H:Hints U:={ Γ:=noΓ,ro:=0,base:=13}
def K63.gen:K63.T:=λown port window g6=>
 some ((some g6.1,()),(((g6.1+1,Qr g6.2 g6.1 (Qe.mk (Qd.mk own port) (Z4 true 1 (Z4 false window 1048576)) (λ(j:Nat)=>List.getD (Qc.mk z6_ z4_ 0 0 0::Qc.mk z6_ z4_ 0 0 0::Qc.mk z6_ z4_ 0 0 0::Qc.mk z6_ z4_ 0 0 0::Qc.mk z6_ z4_ 0 0 0::Qm Qc) j Qc.zero) 0)),()),()))
def K63:K63.T:=K63.gen
theorem K63.ok:NK_ 91 K63.sig (K63.W K63):=ok_ (H:=K63.H) (n:=6) Tryz.func91 (by intro a x;kernel_rfl) (hn_ Z2)
def Q3f.sig:Sig U:=⟨[],[Q4L],0,[.ref 10],false,[]⟩
abbrev Q3f.T:Type:=(Fm Qz)->Option (((Option Nat)×Unit)×((Fm Qz)×Unit)×Unit)
def Q3f.W (f:Q3f.T):Q3f.sig.F:=λa x=>f x.1
def Q3f.H:Hints U:={ Γ:=noΓ,ro:=0,base:=13}
def Q3f.gen:Q3f.T:=λg10=>
 some ((some g10.1,()),(((g10.1+1,Qr g10.2 g10.1 (Qz.mk z2_ z2_ 0 false false)),()),()))
def Q3f:Q3f.T:=Q3f.gen
theorem Q3f.ok:NK_ 92 Q3f.sig (Q3f.W Q3f):=ok_ (H:=Q3f.H) (n:=6) Tryz.func92 (by intro a x;kernel_rfl) (hn_ Z2)
def K62.sig:Sig U:=⟨[.data .Qu,.int .i64],[Q4S],0,[.ref 7],false,[]⟩
abbrev K62.T:Type:=(Qd)->(Int)->(Fm Qg)->Option (((Option Nat)×Unit)×((Fm Qg)×Unit)×Unit)
def K62.W (f:K62.T):K62.sig.F:=λa x=>f a.1 a.2.1 x.1
def K62.H:Hints U:={ Γ:=noΓ,ro:=0,base:=13}
def K62.gen:K62.T:=λself domain g7=>
 some ((some g7.1,()),(((g7.1+1,Qr g7.2 g7.1 (Qg.mk self domain (QZ.mk 0 0 false false))),()),()))
def K62:K62.T:=K62.gen
theorem K62.ok:NK_ 93 K62.sig (K62.W K62):=ok_ (H:=K62.H) (n:=6) Tryz.func93 (by intro a x;kernel_rfl) (hn_ Z2)
def Q38.sig:Sig U:=⟨[.data .Qu,.int .i64],[Q54],0,[.ref 8],false,[]⟩
abbrev Q38.T:Type:=(Qd)->(Int)->(Fm Qb)->Option (((Option Nat)×Unit)×((Fm Qb)×Unit)×Unit)
def Q38.W (f:Q38.T):Q38.sig.F:=λa x=>f a.1 a.2.1 x.1
def Q38.H:Hints U:={ Γ:=noΓ,ro:=0,base:=13}
def Q38.gen:Q38.T:=λself domain g8=>
 some ((some g8.1,()),(((g8.1+1,Qr g8.2 g8.1 (Qb.mk self domain 0 0 false false false false z2_ 0)),()),()))
def Q38:Q38.T:=Q38.gen
theorem Q38.ok:NK_ 94 Q38.sig (Q38.W Q38):=ok_ (H:=Q38.H) (n:=6) Tryz.func94 (by intro a x;kernel_rfl) (hn_ Z2)
def K17.sig:Sig U:=⟨[.ptr,.data .Q1d],[.obj .Q7,Q6h,Q5c,Q4S,Q54,Q5y,Q4L,.fam 12 (.map true false .Qu .Q1O)],0,[],true,[]⟩
abbrev K17.T:Type:=(Q9)->(Q1)->(Fm Qo)->(Fm Qe)->(Fm Qg)->(Fm Qb)->(Fm Qh)->(Fm Qz)->(Nat×(Nat->List (Qd×List (Int))))->Option (Unit×(Q1×Q53)×Unit)
def K17.W (f:K17.T):K17.sig.F:=λa x=>f a.2.1 x.1 x.2.1 x.2.2.1 x.2.2.2.1 x.2.2.2.2.1 x.2.2.2.2.2.1 x.2.2.2.2.2.2.1 x.2.2.2.2.2.2.2.1
abbrev K17.N (c:K17.T):=Qn 49 (K17.sig.native (K17.W c))
def K17.L0:Shape U:=⟨57,15,[(0,.ptr 13 0 0),(3,.ptr 14 0 0),(4,vi_)],(13,.obj .Q7)::(14,.obj .Q1d)::Q4D⟩
def K17.X0:Ql U:= [(.exit 0,⟨57,14,[],(13,.obj .Q7)::Q4D⟩)]
abbrev K17.l0T:Type:=((Int×Unit)×(Q1×Q9×Q53))->Option ((Unit×(Q1×Q53)))
def K17.C:Code:=match Tryz.f49.body with|some c=>c|none=>.skip
def K17.B0:Code:=match (Z3 K17.C).getD 0 .skip with| .loop b=>b| .scope b=>b|_=>.skip
def K17.JR6:Ql U:= [(.normal,⟨57,15,[(0,.ptr 13 0 0),(3,.ptr 14 0 0),(4,vi_)],(13,.obj .Q7)::(14,.obj .Q1d)::Q4D⟩)]
def K17.JR5:Ql U:= [(.normal,⟨57,16,[(0,.ptr 13 0 0),(3,.ptr 14 0 0),(4,vi_),(5,.ptr 15 0 0)],(13,.obj .Q7)::(14,.obj .Q1d)::(15,.obj .Qu)::Q4D⟩)]
def K17.JR1:Ql U:= [(.normal,⟨57,15,[(0,.ptr 13 0 0),(3,.ptr 14 0 0)],(13,.obj .Q7)::(14,.obj .Q1d)::Q4D⟩)]
def K17.H (cK179:Q1E.T) (cK150:Q37.T) (cK99:K99.T) (cK32:K32.T) (cK34:K34.T) (cK13:K13.T) (cK63:K63.T) (cK147:Q3f.T) (cK62:K62.T) (cK132:Q38.T) (l0:K17.l0T):Hints U:={ Γ:=(Qn 94 (Q38.sig.native (Q38.W cK132)) (Qn 93 (K62.sig.native (K62.W cK62)) (Qn 92 (Q3f.sig.native (Q3f.W cK147)) (Qn 91 (K63.sig.native (K63.W cK63)) (K13.N cK13 (K34.N cK34 (K32.N cK32 (Qn 90 (K99.sig.native (K99.W cK99)) (Qn 89 (Q37.sig.native (Q37.W cK150)) (Q1E.N cK179 noΓ)))))))))),ro:=0,base:=14,Q2w:=jt_ [(1,K17.JR1),(5,K17.JR5),(6,K17.JR6)],loop:=jt_ [(3,(Z9 (0,14) K17.L0 K17.X0 l0))]}
def K17.QT (cK179:Q1E.T) (cK150:Q37.T) (cK99:K99.T) (cK32:K32.T) (cK34:K34.T) (cK13:K13.T) (cK63:K63.T) (cK147:Q3f.T) (cK62:K62.T) (cK132:Q38.T) (a:(Int×Unit)×(Q1×Q9×Q53)):Option (((Int×Unit)×(Q1×Q9×Q53))⊕((Unit×(Q1×Q53)))):=
 (bif ile a.1.1 a.2.2.1.QB then (Q0 ((Q0 (cK32 a.1.1 a.2.1) none λr0=>some (a.1,(a.2.1,(a.2.2.1,(r0.1.1,a.2.2.2)))))) none λr1=>(Q0 ((Q0 (cK34 r1.1.1 r1.2.1) none λr2=>(Q0 (cK13 r1.2.1) none λr3=>(Q0 (cK63 r1.2.2.1.QI r1.1.1 (Q3l .i64 4 r3.1.1) r1.2.2.2.2.2.1) none λr4=>(Q0 (cK147 r1.2.2.2.2.2.2.2.2.2.1) none λr5=>(Q0 (cK62 r1.2.2.2.1 r1.2.2.1.Q1D r1.2.2.2.2.2.2.1) none λr6=>(Q0 (cK132 r1.2.2.2.1 r1.2.2.1.Q1D r1.2.2.2.2.2.2.2.1) none λr7=>some (r1.1,(Q1.QU r1.2.1 (Qr r1.2.1.Qf r2.1.1 (Q5.mk 1 r4.1.1 (some r1.2.2.2.2.2.2.2.2.2.2.1.1) z3_ z3_ z3_ z3_ z3_ 0 0 0 r5.1.1 r6.1.1 r7.1.1 z5_ z5_ z2_ false)),(r1.2.2.1,(r1.2.2.2.2.1,(r4.2.1.1,(r6.2.1.1,(r7.2.1.1,(r1.2.2.2.2.2.2.2.2.1,(r5.2.1.1,((r1.2.2.2.2.2.2.2.2.2.2.1.1+1,Qr r1.2.2.2.2.2.2.2.2.2.2.1.2 r1.2.2.2.2.2.2.2.2.2.2.1.1 (Qm (D UC.Qu×D UC.Q1O))),()))))))))))))))))) none λr8=>some (.inl ((Q4 .i64 r8.1.1 1,()),r8.2)))) else some (.inr ((),(a.2.1,a.2.2.2))))
def K17.F0:K17.l0T:=λa=>Z8 (1000000) (K17.QT Q1E Q37 K99 K32 K34 K13 K63 Q3f K62 Q38) a
def K17.gen (cK179:Q1E.T) (cK150:Q37.T) (cK99:K99.T) (cK32:K32.T) (cK34:K34.T) (cK13:K13.T) (cK63:K63.T) (cK147:Q3f.T) (cK62:K62.T) (cK132:Q38.T) (l0:K17.l0T):K17.T:=λc h0 g5 g6 g7 g8 g9 g10 g12=>
 (Q0 ((Q0 (cK179 c) none λr0=>(Q0 (cK150 c.fKp c.fKi c.Q5E g5) none λr1=>(Q0 (cK99 c.Q4p g9) none λr2=>some ((),(Q1.mk c (λ(j:Nat)=>List.getD (Q5.mk 0 none none z3_ z3_ z3_ z3_ z3_ 0 0 0 none none none z5_ z5_ z2_ false::Q5.mk 0 none none z3_ z3_ z3_ z3_ z3_ 0 0 0 none none none z5_ z5_ z2_ false::Q5.mk 0 none none z3_ z3_ z3_ z3_ z3_ 0 0 0 none none none z5_ z5_ z2_ false::Q5.mk 0 none none z3_ z3_ z3_ z3_ z3_ 0 0 0 none none none z5_ z5_ z2_ false::Q5.mk 0 none none z3_ z3_ z3_ z3_ z3_ 0 0 0 none none none z5_ z5_ z2_ false::Q5.mk 0 none none z3_ z3_ z3_ z3_ z3_ 0 0 0 none none none z5_ z5_ z2_ false::Q5.mk 0 none none z3_ z3_ z3_ z3_ z3_ 0 0 0 none none none z5_ z5_ z2_ false::Q5.mk 0 none none z3_ z3_ z3_ z3_ z3_ 0 0 0 none none none z5_ z5_ z2_ false::Qm Q5) j Q5.zero) 0 r0.1.1 r1.1.1 r2.1.1 0 z5_ 0 h0.Q2q,(c,(r1.2.1.1,(g6,(g7,(g8,(r2.2.1.1,(g10,(g12,())))))))))))))) none λr3=>(Q0 (l0 (((1:Int),()),r3.2)) none λr4=>some ((),(r4.2,()))))
def K17:K17.T:=K17.gen Q1E Q37 K99 K32 K34 K13 K63 Q3f K62 Q38 K17.F0
theorem K17.Q24 (cK179:Q1E.T) (cK150:Q37.T) (cK99:K99.T) (cK32:K32.T) (cK34:K34.T) (cK13:K13.T) (cK63:K63.T) (cK147:Q3f.T) (cK62:K62.T) (cK132:Q38.T) (l0:K17.l0T) (a:K17.L0.T):run Tryz.prog (K17.H cK179 cK150 cK99 cK32 cK34 cK13 cK63 cK147 cK62 cK132 l0) 6 (Option (K17.L0.T⊕ExT K17.X0)) none K17.B0 (K17.L0.enc a) (Zj (0,14) K17.L0 K17.X0)=K17.QT cK179 cK150 cK99 cK32 cK34 cK13 cK63 cK147 cK62 cK132 a:=by kernel_rfl
abbrev K17.h:=K17.H Q1E Q37 K99 K32 K34 K13 K63 Q3f K62 Q38 K17.F0
theorem K17.Q1V:LO_ K17.h K17.B0 (Z9 (0,14) K17.L0 K17.X0 K17.F0):=lk_ (hn_ (Z0 (Z0 (Z0 (Z0 (Z0 (Z0 (Z0 (Z0 (Z0 (Z0 Z2 Q1E.ok) Q37.ok) K99.ok) K32.ok) K34.ok) K13.ok) K63.ok) Q3f.ok) K62.ok) Q38.ok)) (K17.Q24 Q1E Q37 K99 K32 K34 K13 K63 Q3f K62 Q38 K17.F0)
theorem K17.eq (cK179:Q1E.T) (cK150:Q37.T) (cK99:K99.T) (cK32:K32.T) (cK34:K34.T) (cK13:K13.T) (cK63:K63.T) (cK147:Q3f.T) (cK62:K62.T) (cK132:Q38.T) (l0:K17.l0T):EqA K17.sig (K17.H cK179 cK150 cK99 cK32 cK34 cK13 cK63 cK147 cK62 cK132 l0) Tryz.f49 6 (K17.W (K17.gen cK179 cK150 cK99 cK32 cK34 cK13 cK63 cK147 cK62 cK132 l0)):=by intro a x;kernel_rfl
theorem K17.loops:Z3 K17.C= [(.loop K17.B0)]:=by kernel_rfl
theorem K17.ok:NK_ 49 K17.sig (K17.W K17):=ok_ Tryz.func49 (K17.eq Q1E Q37 K99 K32 K34 K13 K63 Q3f K62 Q38 K17.F0) (hl_ (Z0 (Z0 (Z0 (Z0 (Z0 (Z0 (Z0 (Z0 (Z0 (Z0 Z2 Q1E.ok) Q37.ok) K99.ok) K32.ok) K34.ok) K13.ok) K63.ok) Q3f.ok) K62.ok) Q38.ok) (Z7 (by kernel_rfl) K17.Q1V Z5)) K17.loops
def K38.sig:Sig U:=⟨[.data .Q1d],[Q9a,Q6h,Q5c,Q4S,Q54,Q5y,Q4L,.fam 12 (.map true false .Qu .Q1O)],0,[.ref 0,.int .i64],true,[]⟩
abbrev K38.T:Type:=(Q9)->(Fm Q1)->(Fm Qo)->(Fm Qe)->(Fm Qg)->(Fm Qb)->(Fm Qh)->(Fm Qz)->(Nat×(Nat->List (Qd×List (Int))))->Option (((Option Nat)×Int×Unit)×(Q3w)×Unit)
def K38.W (f:K38.T):K38.sig.F:=λa x=>f a.1 x.1 x.2.1 x.2.2.1 x.2.2.2.1 x.2.2.2.2.1 x.2.2.2.2.2.1 x.2.2.2.2.2.2.1 x.2.2.2.2.2.2.2.1
def K38.H (cK53:K53.T) (cK17:K17.T):Hints U:={ Γ:=(K17.N cK17 (K53.N cK53 noΓ)),ro:=0,base:=13}
def K38.gen (cK53:K53.T) (cK17:K17.T):K38.T:=λc g0 g5 g6 g7 g8 g9 g10 g12=>
 (Q0 (cK53 c) none λr0=>(bif ine r0.1.1 0 then some ((none,r0.1),((g0,(g5,(g6,(g7,(g8,(g9,(g10,(g12,())))))))),())) else (Q0 (cK17 c (Qr g0.2 g0.1 (Q1.mk z7_ (λ(j:Nat)=>List.getD (Q5.mk 0 none none z3_ z3_ z3_ z3_ z3_ 0 0 0 none none none z5_ z5_ z2_ false::Q5.mk 0 none none z3_ z3_ z3_ z3_ z3_ 0 0 0 none none none z5_ z5_ z2_ false::Q5.mk 0 none none z3_ z3_ z3_ z3_ z3_ 0 0 0 none none none z5_ z5_ z2_ false::Q5.mk 0 none none z3_ z3_ z3_ z3_ z3_ 0 0 0 none none none z5_ z5_ z2_ false::Q5.mk 0 none none z3_ z3_ z3_ z3_ z3_ 0 0 0 none none none z5_ z5_ z2_ false::Q5.mk 0 none none z3_ z3_ z3_ z3_ z3_ 0 0 0 none none none z5_ z5_ z2_ false::Q5.mk 0 none none z3_ z3_ z3_ z3_ z3_ 0 0 0 none none none z5_ z5_ z2_ false::Q5.mk 0 none none z3_ z3_ z3_ z3_ z3_ 0 0 0 none none none z5_ z5_ z2_ false::Qm Q5) j Q5.zero) 0 (QX.mk z0_ 0 z1_ 0 0 0 z4_) none none (0:Int) z5_ 0 (Qm QJ)) g0.1) g5 g6 g7 g8 g9 g10 g12) none λr1=>some ((some g0.1,((0:Int),())),(((g0.1+1,Qr (Qr g0.2 g0.1 (Q1.mk z7_ (λ(j:Nat)=>List.getD (Q5.mk 0 none none z3_ z3_ z3_ z3_ z3_ 0 0 0 none none none z5_ z5_ z2_ false::Q5.mk 0 none none z3_ z3_ z3_ z3_ z3_ 0 0 0 none none none z5_ z5_ z2_ false::Q5.mk 0 none none z3_ z3_ z3_ z3_ z3_ 0 0 0 none none none z5_ z5_ z2_ false::Q5.mk 0 none none z3_ z3_ z3_ z3_ z3_ 0 0 0 none none none z5_ z5_ z2_ false::Q5.mk 0 none none z3_ z3_ z3_ z3_ z3_ 0 0 0 none none none z5_ z5_ z2_ false::Q5.mk 0 none none z3_ z3_ z3_ z3_ z3_ 0 0 0 none none none z5_ z5_ z2_ false::Q5.mk 0 none none z3_ z3_ z3_ z3_ z3_ 0 0 0 none none none z5_ z5_ z2_ false::Q5.mk 0 none none z3_ z3_ z3_ z3_ z3_ 0 0 0 none none none z5_ z5_ z2_ false::Qm Q5) j Q5.zero) 0 (QX.mk z0_ 0 z1_ 0 0 0 z4_) none none (0:Int) z5_ 0 (Qm QJ))) g0.1 r1.2.1.1),r1.2.1.2),())))))
def K38:K38.T:=K38.gen K53 K17
theorem K38.eq (cK53:K53.T) (cK17:K17.T):EqA K38.sig (K38.H cK53 cK17) Tryz.f24 6 (K38.W (K38.gen cK53 cK17)):=by intro a x;kernel_rfl
theorem K38.ok:NK_ 24 K38.sig (K38.W K38):=ok_ Tryz.func24 (K38.eq K53 K17) (hn_ (Z0 (Z0 Z2 K53.ok) K17.ok))
def K27.sig:Sig U:=⟨[.ptr,.int .i64],[.obj .Q7],1,[.bool],false,[]⟩
abbrev K27.T:Type:=(Int)->(Q1)->Option ((Bool×Unit)×Unit×Unit)
def K27.W (f:K27.T):K27.sig.F:=λa x=>f a.2.1 x.1
abbrev K27.N (c:K27.T):=Qn 46 (K27.sig.native (K27.W c))
def K27.H:Hints U:={ Γ:=(Qn 5000000021 Z16 noΓ),ro:=14,base:=14}
def K27.gen:K27.T:=λn h0=>
 (bif ilt n 1 then some ((true,()),((),())) else some ((ilt h0.Qs.QB n,()),((),())))
def K27:K27.T:=K27.gen
theorem K27.ok:NK_ 46 K27.sig (K27.W K27):=ok_ (H:=K27.H) (n:=6) Tryz.func46 (by intro a x;kernel_rfl) (hn_ (Z0 Z2 Zd))
def K11.sig:Sig U:=⟨[.ptr,.int .i64],[.obj .Q7],1,[.int .i64],false,[]⟩
abbrev K11.T:Type:=(Int)->(Q1)->Option ((Int×Unit)×Unit×Unit)
def K11.W (f:K11.T):K11.sig.F:=λa x=>f a.2.1 x.1
abbrev K11.N (c:K11.T):=Qn 21 (K11.sig.native (K11.W c))
def K11.H (cK27:K27.T) (cK34:K34.T):Hints U:={ Γ:=(K34.N cK34 (K27.N cK27 (Qn 5000000021 Z16 noΓ))),ro:=14,base:=14}
def K11.gen (cK27:K27.T) (cK34:K34.T):K11.T:=λn h0=>
 (Q0 (cK27 n h0) none λr0=>(bif r0.1.1 then some (((0:Int),()),((),())) else (Q0 (cK34 n h0) none λr1=>some (((h0.Qf r1.1.1).Q1x,()),((),())))))
def K11:K11.T:=K11.gen K27 K34
theorem K11.eq (cK27:K27.T) (cK34:K34.T):EqA K11.sig (K11.H cK27 cK34) Tryz.f21 6 (K11.W (K11.gen cK27 cK34)):=by intro a x;kernel_rfl
theorem K11.ok:NK_ 21 K11.sig (K11.W K11):=ok_ Tryz.func21 (K11.eq K27 K34) (hn_ (Z0 (Z0 (Z0 Z2 Zd) K27.ok) K34.ok))
def Q1P.sig:Sig U:=⟨[.int .i64],[],0,[.bool],false,[]⟩
abbrev Q1P.T:Type:=(Int)->Option ((Bool×Unit)×Unit×Unit)
def Q1P.W (f:Q1P.T):Q1P.sig.F:=λa x=>f a.1
abbrev Q1P.N (c:Q1P.T):=Qn 76 (Q1P.sig.native (Q1P.W c))
def Q1P.H:Hints U:={ Γ:=noΓ,ro:=0,base:=13}
def Q1P.gen:Q1P.T:=λstate=>
 (bif ieq state 8 then some ((true,()),((),())) else some ((ieq state 9,()),((),())))
def Q1P:Q1P.T:=Q1P.gen
theorem Q1P.ok:NK_ 76 Q1P.sig (Q1P.W Q1P):=ok_ (H:=Q1P.H) (n:=6) Tryz.func76 (by intro a x;kernel_rfl) (hn_ Z2)
def Q2k.sig:Sig U:=⟨[.int .i64],[],0,[.bool],false,[]⟩
abbrev Q2k.T:Type:=(Int)->Option ((Bool×Unit)×Unit×Unit)
def Q2k.W (f:Q2k.T):Q2k.sig.F:=λa x=>f a.1
abbrev Q2k.N (c:Q2k.T):=Qn 129 (Q2k.sig.native (Q2k.W c))
def Q2k.H (cK135:Q1P.T):Hints U:={ Γ:=(Q1P.N cK135 noΓ),ro:=0,base:=13}
def Q2k.gen (cK135:Q1P.T):Q2k.T:=λstate=>
 (bif ieq state 4 then some ((true,()),((),())) else (bif ieq state 7 then some ((true,()),((),())) else (Q0 (cK135 state) none λr0=>some (r0.1,((),())))))
def Q2k:Q2k.T:=Q2k.gen Q1P
theorem Q2k.eq (cK135:Q1P.T):EqA Q2k.sig (Q2k.H cK135) Tryz.f129 6 (Q2k.W (Q2k.gen cK135)):=by intro a x;kernel_rfl
theorem Q2k.ok:NK_ 129 Q2k.sig (Q2k.W Q2k):=ok_ Tryz.func129 (Q2k.eq Q1P) (hn_ (Z0 Z2 Q1P.ok))
def Q1Z.sig:Sig U:=⟨[.int .i64,.int .i64,.bool],[],0,[.int .i64],false,[]⟩
abbrev Q1Z.T:Type:=(Int)->(Int)->(Bool)->Option ((Int×Unit)×Unit×Unit)
def Q1Z.W (f:Q1Z.T):Q1Z.sig.F:=λa x=>f a.1 a.2.1 a.2.2.1
abbrev Q1Z.N (c:Q1Z.T):=Qn 95 (Q1Z.sig.native (Q1Z.W c))
def Q1Z.JC6:Ql U:= [(.normal,⟨60,13,[(0,vi_),(1,vi_),(2,vb_),(21,vb_)],[]⟩)]
def Q1Z.JC2:Ql U:= [(.normal,⟨60,13,[(0,vi_)],[]⟩),
 (.ret,⟨60,13,[(6,vi_)],[]⟩)]
def Q1Z.H (cK136:Q2k.T):Hints U:={ Γ:=(Q2k.N cK136 noΓ),ro:=0,base:=13,Q1L:=jt_ [(1,[(7,vb_)]),(3,[(14,vb_)]),(5,[(21,vb_)]),(6,[(21,vb_)]),(8,[(34,vb_)]),(12,[(42,vb_)]),(14,[(49,vb_)])],Q23:=jt_ [(2,Q1Z.JC2),(6,Q1Z.JC6)]}
def Q1Z.gen (cK136:Q2k.T):Q1Z.T:=λstate event slaveOnly=>
 (Q0 ((bif ieq event 1 then some (ieq state 1,()) else some (false,()))) none λr0=>(Q0 ((bif r0.1 then some (.inr (((4:Int),()),())) else (Q0 ((bif ieq event 2 then some (ine state 3,()) else some (false,()))) none λr1=>(bif r1.1 then some (.inr (((2:Int),()),())) else (Q0 ((bif ieq event 3 then some (ieq state 2,()) else some (false,()))) none λr2=>(Q0 ((bif r2.1 then some ((state,(event,(slaveOnly,r2))),()) else (Q0 ((bif ieq event 8 then some (ieq state 3,()) else some (false,()))) none λr3=>some ((state,(event,(slaveOnly,r3))),())))) none λr4=>(bif r4.1.2.2.2.1 then some (.inr (((1:Int),()),())) else (Q0 ((bif ieq r4.1.2.1 4 then (Q0 (cK136 r4.1.1) none λr5=>some r5.1) else some (false,()))) none λr6=>(bif r6.1 then (bif r4.1.2.2.1 then some (.inr (((4:Int),()),())) else some (.inr (((6:Int),()),()))) else (Q0 ((bif ieq r4.1.2.1 5 then some (ieq r4.1.1 5,()) else some (false,()))) none λr7=>(bif r7.1 then some (.inr (((6:Int),()),())) else (Q0 ((bif ieq r4.1.2.1 6 then some (ieq r4.1.1 8,()) else some (false,()))) none λr8=>(bif r8.1 then some (.inr (((9:Int),()),())) else (bif ieq r4.1.2.1 7 then some (.inr (((3:Int),()),())) else some (.inl ((r4.1.1,()),())))))))))))))))) none λr9=>(Q3U r9 (λr10=>some (r10.1,((),()))) (λr10=>some (r10.1,((),()))))))
def Q1Z:Q1Z.T:=Q1Z.gen Q2k
theorem Q1Z.eq (cK136:Q2k.T):EqA Q1Z.sig (Q1Z.H cK136) Tryz.f95 6 (Q1Z.W (Q1Z.gen cK136)):=by intro a x;kernel_rfl
theorem Q1Z.ok:NK_ 95 Q1Z.sig (Q1Z.W Q1Z):=ok_ Tryz.func95 (Q1Z.eq Q2k) (hn_ (Z0 Z2 Q2k.ok))
def K30.sig:Sig U:=⟨[.ptr],[.obj .Q7],1,[.int .i64],false,[]⟩
abbrev K30.T:Type:=(Q1)->Option ((Int×Unit)×Unit×Unit)
def K30.W (f:K30.T):K30.sig.F:=λa x=>f x.1
abbrev K30.N (c:K30.T):=Qn 127 (K30.sig.native (K30.W c))
def K30.H (cK13:K13.T):Hints U:={ Γ:=(K13.N cK13 (Qn 5000000021 Z16 noΓ)),ro:=14,base:=14}
def K30.gen (cK13:K13.T):K30.T:=λh0=>
 (Q0 (cK13 h0) none λr0=>some ((Q3l .i64 h0.Qs.Q3X r0.1.1,()),((),())))
def K30:K30.T:=K30.gen K13
theorem K30.eq (cK13:K13.T):EqA K30.sig (K30.H cK13) Tryz.f127 6 (K30.W (K30.gen cK13)):=by intro a x;kernel_rfl
theorem K30.ok:NK_ 127 K30.sig (K30.W K30):=ok_ Tryz.func127 (K30.eq K13) (hn_ (Z0 (Z0 Z2 Zd) K13.ok))
def Q21.sig:Sig U:=⟨[.ptr,.int .i64],[.obj .Q1I],0,[],true,[]⟩
abbrev Q21.T:Type:=(Int)->(QS)->Option (Unit×(QS×Unit)×Unit)
def Q21.W (f:Q21.T):Q21.sig.F:=λa x=>f a.2.1 x.1
abbrev Q21.N (c:Q21.T):=Qn 126 (Q21.sig.native (Q21.W c))
def Q21.H:Hints U:={ Γ:=noΓ,ro:=0,base:=14}
def Q21.gen:Q21.T:=λn h0=>
 some ((),((QS.mk (Z4 true 1 (Z4 false n 1073741824)),()),()))
def Q21:Q21.T:=Q21.gen
theorem Q21.ok:NK_ 126 Q21.sig (Q21.W Q21):=ok_ (H:=Q21.H) (n:=6) Tryz.func126 (by intro a x;kernel_rfl) (hn_ Z2)
def Q1h.sig:Sig U:=⟨[.int .i64],[],0,[.bool],false,[]⟩
abbrev Q1h.T:Type:=(Int)->Option ((Bool×Unit)×Unit×Unit)
def Q1h.W (f:Q1h.T):Q1h.sig.F:=λa x=>f a.1
abbrev Q1h.N (c:Q1h.T):=Qn 74 (Q1h.sig.native (Q1h.W c))
def Q1h.H:Hints U:={ Γ:=noΓ,ro:=0,base:=13}
def Q1h.gen:Q1h.T:=λstate=>
 (bif ile 4 state then some ((ile state 9,()),((),())) else some ((false,()),((),())))
def Q1h:Q1h.T:=Q1h.gen
theorem Q1h.ok:NK_ 74 Q1h.sig (Q1h.W Q1h):=ok_ (H:=Q1h.H) (n:=6) Tryz.func74 (by intro a x;kernel_rfl) (hn_ Z2)
def K70.sig:Sig U:=⟨[.ptr,.int .i64,.int .i64],[.obj .Qy],1,[.bool],false,[]⟩
abbrev K70.T:Type:=(Int)->(Int)->(Qe)->Option ((Bool×Unit)×Unit×Unit)
def K70.W (f:K70.T):K70.sig.F:=λa x=>f a.2.1 a.2.2.1 x.1
def K70.H:Hints U:={ Γ:=noΓ,ro:=14,base:=14}
def K70.gen:K70.T:=λat_1 now h0=>
 (bif ile at_1 now then some ((ile h0.Qag (Q1s .i64 now at_1),()),((),())) else some ((false,()),((),())))
def K70:K70.T:=K70.gen
theorem K70.ok:NK_ 197 K70.sig (K70.W K70):=ok_ (H:=K70.H) (n:=6) Tryz.func197 (by intro a x;kernel_rfl) (hn_ Z2)
def K64.sig:Sig U:=⟨[.ptr,.int .i64],[.obj .Qy],0,[],true,[]⟩
abbrev K64.T:Type:=(Int)->(Qe)->Option (Unit×(Qe×Unit)×Unit)
def K64.W (f:K64.T):K64.sig.F:=λa x=>f a.2.1 x.1
def K64.L0:Shape U:=⟨60,14,[(0,.ptr 13 0 0),(1,vi_),(4,vi_)],[(13,.obj .Qy)]⟩
def K64.X0:Ql U:= [(.exit 0,⟨60,14,[],[(13,.obj .Qy)]⟩)]
abbrev K64.l0T:Type:=((Int×Int×Unit)×(Qe×Unit))->Option ((Unit×(Qe×Unit)))
def K64.C:Code:=match Tryz.f174.body with|some c=>c|none=>.skip
def K64.B0:Code:=match (Z3 K64.C).getD 0 .skip with| .loop b=>b| .scope b=>b|_=>.skip
def K64.JR5:Ql U:= [(.normal,⟨60,14,[(0,.ptr 13 0 0),(1,vi_),(4,vi_)],[(13,.obj .Qy)]⟩)]
def K64.H (cK70:K70.T) (l0:K64.l0T):Hints U:={ Γ:=(Qn 197 (K70.sig.native (K70.W cK70)) noΓ),ro:=0,base:=14,Q2w:=jt_ [(5,K64.JR5)],loop:=jt_ [(1,(Z9 (0,14) K64.L0 K64.X0 l0))]}
def K64.QT (cK70:K70.T) (a:(Int×Int×Unit)×(Qe×Unit)):Option (((Int×Int×Unit)×(Qe×Unit))⊕((Unit×(Qe×Unit)))):=
 (bif ilt a.1.2.1 a.2.1.fn then (bif inR a.1.2.1 5 then (Q0 (cK70 (a.2.1.fl (Int.toNat a.1.2.1)).Q9q a.1.1 a.2.1) none λr0=>(bif !r0.1.1 then some (.inl ((a.1.1,(Q4 .i64 a.1.2.1 1,())),a.2)) else (bif le3 a.1.2.1 a.2.1.fn 5 then (bif le3 (Q4 .i64 a.1.2.1 1) a.2.1.fn 5 then (bif inR (Q1s .i64 a.2.1.fn 1) 5 then some (.inl (a.1,(Qe.Q80 (Qe.Q9C a.2.1 (Qr (λ(i:Nat)=>bif Nat.ble (Int.toNat a.1.2.1) i && Nat.blt i (Int.toNat a.1.2.1+Nat.min (Int.toNat a.2.1.fn - Int.toNat (Q4 .i64 a.1.2.1 1)) (Int.toNat a.2.1.fn - Int.toNat a.1.2.1)) then a.2.1.fl (Int.toNat (Q4 .i64 a.1.2.1 1)+(i - Int.toNat a.1.2.1)) else a.2.1.fl i) (Int.toNat (Q1s .i64 a.2.1.fn 1)) (Qc.mk z6_ z4_ 0 0 0))) (Q1s .i64 a.2.1.fn 1),()))) else none) else none) else none))) else none) else some (.inr ((),a.2)))
def K64.F0:K64.l0T:=λa=>Z8 (1000000) (K64.QT K70) a
def K64.gen (cK70:K70.T) (l0:K64.l0T):K64.T:=λnow h0=>
 (Q0 (l0 ((now,(0:Int),()),h0,())) none λr0=>some ((),(r0.2,())))
def K64:K64.T:=K64.gen K70 K64.F0
theorem K64.Q24 (cK70:K70.T) (l0:K64.l0T) (a:K64.L0.T):run Tryz.prog (K64.H cK70 l0) 6 (Option (K64.L0.T⊕ExT K64.X0)) none K64.B0 (K64.L0.enc a) (Zj (0,14) K64.L0 K64.X0)=K64.QT cK70 a:=by kernel_rfl
abbrev K64.h:=K64.H K70 K64.F0
theorem K64.Q1V:LO_ K64.h K64.B0 (Z9 (0,14) K64.L0 K64.X0 K64.F0):=lk_ (hn_ (Z0 Z2 K70.ok)) (K64.Q24 K70 K64.F0)
theorem K64.eq (cK70:K70.T) (l0:K64.l0T):EqA K64.sig (K64.H cK70 l0) Tryz.f174 6 (K64.W (K64.gen cK70 l0)):=by intro a x;kernel_rfl
theorem K64.loops:Z3 K64.C= [(.loop K64.B0)]:=by kernel_rfl
theorem K64.ok:NK_ 174 K64.sig (K64.W K64):=ok_ Tryz.func174 (K64.eq K70 K64.F0) (hl_ (Z0 Z2 K70.ok) (Z7 (by kernel_rfl) K64.Q1V Z5)) K64.loops
def K69.sig:Sig U:=⟨[.ptr],[.obj .Qy],1,[.isl .QA],false,[]⟩
abbrev K69.T:Type:=(Qe)->Option (((List (Qc))×Unit)×Unit×Unit)
def K69.W (f:K69.T):K69.sig.F:=λa x=>f x.1
def K69.H:Hints U:={ Γ:=noΓ,ro:=14,base:=14}
def K69.gen:K69.T:=λh0=>
 (bif le3 (ofN 0) h0.fn 5 then (bif room (List.length (Qm Qc)+List.length (List.map (λ(j:Nat)=>h0.fl (Int.toNat (ofN 0)+j)) (List.range (Int.toNat h0.fn - Int.toNat (ofN 0))))) 136 then some ((Qm Qc++List.map (λ(j:Nat)=>h0.fl (Int.toNat (ofN 0)+j)) (List.range (Int.toNat h0.fn - Int.toNat (ofN 0))),()),((),())) else none) else none)
def K69:K69.T:=K69.gen
theorem K69.ok:NK_ 64 K69.sig (K69.W K69):=ok_ (H:=K69.H) (n:=6) Tryz.func64 (by intro a x;kernel_rfl) (hn_ Z2)
def K39.sig:Sig U:=⟨[.ptr,.int .i64],[.obj .QG,Q5c,.fam 12 (.map true false .Qu .Q1O)],0,[],true,[]⟩
abbrev K39.T:Type:=(Int)->(Q5)->(Fm Qe)->(Nat×(Nat->List (Qd×List (Int))))->Option (Unit×(Q5×Q7p)×Unit)
def K39.W (f:K39.T):K39.sig.F:=λa x=>f a.2.1 x.1 x.2.1 x.2.2.1
def K39.L0:Shape U:=⟨41,14,[(0,.ptr 13 0 0),(4,.val (.Q3M 12)),(18,.val (.isl .QA)),(19,vi_),(20,vi_)],(13,.obj .QG)::Q65⟩
def K39.X0:Ql U:= [(.exit 0,⟨41,14,[(0,.ptr 13 0 0),(4,.val (.Q3M 12))],(13,.obj .QG)::Q65⟩)]
abbrev K39.l0T:Type:=(((Option Nat)×(List (Qc))×Int×Int×Unit)×(Q5×Q7p))->Option ((((Option Nat)×Unit)×(Q5×Q7p)))
def K39.C:Code:=match Tryz.f128.body with|some c=>c|none=>.skip
def K39.B0:Code:=match (Z3 K39.C).getD 0 .skip with| .loop b=>b| .scope b=>b|_=>.skip
def K39.JR5:Ql U:= [(.normal,⟨41,14,[(0,.ptr 13 0 0),(4,.val (.Q3M 12)),(18,.val (.isl .QA)),(19,vi_),(20,vi_)],(13,.obj .QG)::Q65⟩)]
def K39.JR4:Ql U:= [(.normal,⟨41,15,[(0,.ptr 13 0 0),(4,.val (.Q3M 12)),(6,.ptr 14 0 0),(18,.val (.isl .QA)),(19,vi_),(20,vi_)],(13,.obj .QG)::(14,.obj .QA)::Q65⟩)]
def K39.JR0:Ql U:= [(.normal,⟨41,14,[(0,.ptr 13 0 0)],(13,.obj .QG)::Q65⟩)]
def K39.H (cK64:K64.T) (cK69:K69.T) (l0:K39.l0T):Hints U:={ Γ:=(Qn 64 (K69.sig.native (K69.W cK69)) (Qn 174 (K64.sig.native (K64.W cK64)) noΓ)),ro:=0,base:=14,Q2w:=jt_ [(0,K39.JR0),(4,K39.JR4),(5,K39.JR5)],loop:=jt_ [(3,(Z9 (0,14) K39.L0 K39.X0 l0))]}
def K39.QT (cK64:K64.T) (cK69:K69.T) (a:((Option Nat)×(List (Qc))×Int×Int×Unit)×(Q5×Q7p)):Option ((((Option Nat)×(List (Qc))×Int×Int×Unit)×(Q5×Q7p))⊕((((Option Nat)×Unit)×(Q5×Q7p)))):=
 (bif ilt a.1.2.2.2.1 a.1.2.2.1 then (Q0 ((bif inR a.1.2.2.2.1 (List.length a.1.2.1) then some (a.1,(a.2.1,(List.getD a.1.2.1 (Int.toNat a.1.2.2.2.1) Qc.zero,a.2.2))) else none)) none λr0=>(Q0 ((Q0 ((Q0 (r0.2.1.3) none λr1=>((@Z1Y U Go.Proofs.Tryz.prog 31 UC.Qu UC.Q1O (r0.2.2.1.Q3g.Q4G) (r0.2.2.2.2.1.2 r1)):Option (Option (List Int))))) none λ(r2:Option (List Int))=>(Q0 ((Q0 (r0.1.1) none λr3=>(Q0 ((@Z20 U Go.Proofs.Tryz.prog 31 UC.Qu UC.Q1O (r0.2.2.1.Q3g.Q4G) (Option.getD r2 (Qm Int)) (r0.2.2.2.2.1.2 r3))) none λ(r4:List (Qd×List Int))=>some (r3,r4)))) none λ(r5:Nat×List (Qd×List Int))=>some (r0.1,(r0.2.1,(r0.2.2.2.1,((r0.2.2.2.2.1.1,Qr r0.2.2.2.2.1.2 r5.1 r5.2),()))))))) none λr6=>some (.inl ((r6.1.1,(r6.1.2.1,(r6.1.2.2.1,(Q4 .i64 r6.1.2.2.2.1 1,())))),r6.2)))) else some (.inr ((a.1.1,()),a.2)))
def K39.F0:K39.l0T:=λa=>Z8 (1000000+(a.1.2.1.length)) (K39.QT K64 K69) a
def K39.gen (cK64:K64.T) (cK69:K69.T) (l0:K39.l0T):K39.T:=λnow h0 g6 g12=>
 (Q0 ((Q0 (h0.2) none λr0=>(Q0 (cK64 now (g6.2 r0)) none λr1=>some ((),(h0,((g6.1,Qr g6.2 r0 r1.2.1.1),(g12,()))))))) none λr2=>(Q0 (r2.2.1.2) none λr3=>(Q0 (cK69 (r2.2.2.1.2 r3)) none λr4=>(Q0 (l0 ((some r2.2.2.2.1.1,r4.1.1,ofN (List.length r4.1.1),(0:Int),()),r2.2.1,r2.2.2.1,(r2.2.2.2.1.1+1,Qr r2.2.2.2.1.2 r2.2.2.2.1.1 (Qm (D UC.Qu×D UC.Q1O))),())) none λr5=>some ((),((Q5.Q5s r5.2.1 r5.1.1,r5.2.2),()))))))
def K39:K39.T:=K39.gen K64 K69 K39.F0
theorem K39.Q24 (cK64:K64.T) (cK69:K69.T) (l0:K39.l0T) (a:K39.L0.T):run Tryz.prog (K39.H cK64 cK69 l0) 6 (Option (K39.L0.T⊕ExT K39.X0)) none K39.B0 (K39.L0.enc a) (Zj (0,14) K39.L0 K39.X0)=K39.QT cK64 cK69 a:=by kernel_rfl
abbrev K39.h:=K39.H K64 K69 K39.F0
theorem K39.Q1V:LO_ K39.h K39.B0 (Z9 (0,14) K39.L0 K39.X0 K39.F0):=lk_ (hn_ (Z0 (Z0 Z2 K64.ok) K69.ok)) (K39.Q24 K64 K69 K39.F0)
theorem K39.eq (cK64:K64.T) (cK69:K69.T) (l0:K39.l0T):EqA K39.sig (K39.H cK64 cK69 l0) Tryz.f128 6 (K39.W (K39.gen cK64 cK69 l0)):=by intro a x;kernel_rfl
theorem K39.loops:Z3 K39.C= [(.loop K39.B0)]:=by kernel_rfl
theorem K39.ok:NK_ 128 K39.sig (K39.W K39):=ok_ Tryz.func128 (K39.eq K64 K69 K39.F0) (hl_ (Z0 (Z0 Z2 K64.ok) K69.ok) (Z7 (by kernel_rfl) K39.Q1V Z5)) K39.loops
def Q2I.sig:Sig U:=⟨[.ptr],[.obj .Q1I],0,[.bool],false,[]⟩
abbrev Q2I.T:Type:=(QS)->Option ((Bool×Unit)×(QS×Unit)×Unit)
def Q2I.W (f:Q2I.T):Q2I.sig.F:=λa x=>f x.1
def Q2I.C:Code:=match Tryz.f130.body with|some c=>c|none=>.skip
def Q2I.B0:Code:=match (Z3 Q2I.C).getD 0 .skip with| .loop b=>b| .scope b=>b|_=>.skip
def Q2I.H:Hints U:={ Γ:=noΓ,ro:=0,base:=14,gotos:=3,loop:=λb=>none}
def Q2I.gen:Q2I.T:=λh0=>
 (bif ieq h0.Q6C 0 then some ((false,()),((h0,()),())) else some ((ieq (Q1s .i64 h0.Q6C 1) 0,()),((QS.mk (Q1s .i64 h0.Q6C 1),()),())))
def Q2I:Q2I.T:=Q2I.gen
theorem Q2I.loops:Z3 Q2I.C= [(.scope Q2I.B0)]:=by kernel_rfl
theorem Q2I.ok:NK_ 130 Q2I.sig (Q2I.W Q2I):=ok_ (H:=Q2I.H) (n:=6) Tryz.func130 (by intro a x;kernel_rfl) (hl_ Z2 (Zt Z5)) Q2I.loops
def K66.sig:Sig U:=⟨[.ptr],[.obj .Qy],0,[],true,[]⟩
abbrev K66.T:Type:=(Qe)->Option (Unit×(Qe×Unit)×Unit)
def K66.W (f:K66.T):K66.sig.F:=λa x=>f x.1
def K66.H:Hints U:={ Γ:=noΓ,ro:=0,base:=14}
def K66.gen:K66.T:=λh0=>
 some ((),((Qe.Q80 (Qe.Q9C h0 λ(j:Nat)=>List.getD (Qc.mk z6_ z4_ 0 0 0::Qc.mk z6_ z4_ 0 0 0::Qc.mk z6_ z4_ 0 0 0::Qc.mk z6_ z4_ 0 0 0::Qc.mk z6_ z4_ 0 0 0::Qm Qc) j Qc.zero) 0,()),()))
def K66:K66.T:=K66.gen
theorem K66.ok:NK_ 163 K66.sig (K66.W K66):=ok_ (H:=K66.H) (n:=6) Tryz.func163 (by intro a x;kernel_rfl) (hn_ Z2)
def K40.sig:Sig U:=⟨[.ptr],[.obj .QG,Q5c,.fam 12 (.map true false .Qu .Q1O)],0,[],true,[]⟩
abbrev K40.T:Type:=(Q5)->(Fm Qe)->(Nat×(Nat->List (Qd×List (Int))))->Option (Unit×(Q5×Q7p)×Unit)
def K40.W (f:K40.T):K40.sig.F:=λa x=>f x.1 x.2.1 x.2.2.1
def K40.JR0:Ql U:= [(.normal,⟨11,14,[(0,.ptr 13 0 0)],(13,.obj .QG)::Q65⟩)]
def K40.H (cK66:K66.T):Hints U:={ Γ:=(Qn 163 (K66.sig.native (K66.W cK66)) noΓ),ro:=0,base:=14,Q2w:=jt_ [(0,K40.JR0)]}
def K40.gen (cK66:K66.T):K40.T:=λh0 g6 g12=>
 (Q0 ((Q0 (h0.2) none λr0=>(Q0 (cK66 (g6.2 r0)) none λr1=>some ((),(h0,((g6.1,Qr g6.2 r0 r1.2.1.1),(g12,()))))))) none λr2=>some ((),((Q5.Q5s r2.2.1 (some r2.2.2.2.1.1),(r2.2.2.1,((r2.2.2.2.1.1+1,Qr r2.2.2.2.1.2 r2.2.2.2.1.1 (Qm (D UC.Qu×D UC.Q1O))),()))),())))
def K40:K40.T:=K40.gen K66
theorem K40.eq (cK66:K66.T):EqA K40.sig (K40.H cK66) Tryz.f96 6 (K40.W (K40.gen cK66)):=by intro a x;kernel_rfl
theorem K40.ok:NK_ 96 K40.sig (K40.W K40):=ok_ Tryz.func96 (K40.eq K66) (hn_ (Z0 Z2 K66.ok))
def Q2G.sig:Sig U:=⟨[.ptr],[.obj .Q1I],0,[],true,[]⟩
abbrev Q2G.T:Type:=(QS)->Option (Unit×(QS×Unit)×Unit)
def Q2G.W (f:Q2G.T):Q2G.sig.F:=λa x=>f x.1
abbrev Q2G.N (c:Q2G.T):=Qn 166 (Q2G.sig.native (Q2G.W c))
def Q2G.H:Hints U:={ Γ:=noΓ,ro:=0,base:=14}
def Q2G.gen:Q2G.T:=λh0=>
 some ((),((QS.mk 0,()),()))
def Q2G:Q2G.T:=Q2G.gen
theorem Q2G.ok:NK_ 166 Q2G.sig (Q2G.W Q2G):=ok_ (H:=Q2G.H) (n:=6) Tryz.func166 (by intro a x;kernel_rfl) (hn_ Z2)
def K22.sig:Sig U:=⟨[.ptr,.Q59 0 23 42 8],[.obj .Q7],0,[],true,[]⟩
abbrev K22.T:Type:=(Nat)->(Q1)->Option (Unit×(Q1×Unit)×Unit)
def K22.W (f:K22.T):K22.sig.F:=λa x=>f a.2.1 x.1
def K22.JR4:Ql U:= [(.normal,⟨30,14,[(1,.Q1f 13 23 42 8 0)],[(13,.obj .Q7)]⟩)]
def K22.JR1:Ql U:= [(.normal,⟨30,14,[(0,.ptr 13 0 0),(1,.Q1f 13 23 42 8 0)],[(13,.obj .Q7)]⟩)]
def K22.H (cK165:Q2G.T) (cK164:Q21.T):Hints U:={ Γ:=(Q21.N cK164 (Q2G.N cK165 noΓ)),ro:=0,base:=14,Q2w:=jt_ [(0,K22.JR1),(1,K22.JR1),(4,K22.JR4)],Q23:=jt_ [(3,K22.JR4)]}
def K22.gen (cK165:Q2G.T) (cK164:Q21.T):K22.T:=λp h0=>
 (Q0 ((Q0 (cK165 (h0.Qf p).Q46) none λr0=>some ((p,()),(Q1.QU h0 (Qr h0.Qf p (Q5.Q3V (h0.Qf p) r0.2.1.1)),())))) none λr1=>(Q0 ((Q0 (cK165 (r1.2.1.Qf r1.1.1).Q57) none λr2=>some (r1.1,(Q1.QU r1.2.1 (Qr r1.2.1.Qf r1.1.1 (Q5.Q5m (r1.2.1.Qf r1.1.1) r2.2.1.1)),())))) none λr3=>(Q0 ((bif !r3.2.1.Qs.Q4o then (Q0 (cK165 (r3.2.1.Qf r3.1.1).Q6S) none λr4=>some (r3.1,(Q1.QU r3.2.1 (Qr r3.2.1.Qf r3.1.1 (Q5.Q6i (r3.2.1.Qf r3.1.1) r4.2.1.1)),()))) else some r3)) none λr5=>(Q0 ((Q0 (cK164 1 (r5.2.1.Qf r5.1.1).Q4J) none λr6=>some (r5.1,(Q1.QU r5.2.1 (Qr r5.2.1.Qf r5.1.1 (Q5.Q5a (r5.2.1.Qf r5.1.1) r6.2.1.1)),())))) none λr7=>(Q0 (cK164 1 (r7.2.1.Qf r7.1.1).fsync) none λr8=>some ((),((Q1.QU r7.2.1 (Qr r7.2.1.Qf r7.1.1 (Q5.Q6t (r7.2.1.Qf r7.1.1) r8.2.1.1)),()),())))))))
def K22:K22.T:=K22.gen Q2G Q21
theorem K22.eq (cK165:Q2G.T) (cK164:Q21.T):EqA K22.sig (K22.H cK165 cK164) Tryz.f131 6 (K22.W (K22.gen cK165 cK164)):=by intro a x;kernel_rfl
theorem K22.ok:NK_ 131 K22.sig (K22.W K22):=ok_ Tryz.func131 (K22.eq Q2G Q21) (hn_ (Z0 (Z0 Z2 Q2G.ok) Q21.ok))
def K19.sig:Sig U:=⟨[.ptr,.Q59 0 23 42 8],[.obj .Q7,Q5c,.fam 12 (.map true false .Qu .Q1O)],0,[],true,[]⟩
abbrev K19.T:Type:=(Nat)->(Q1)->(Fm Qe)->(Nat×(Nat->List (Qd×List (Int))))->Option (Unit×(Q1×Q7p)×Unit)
def K19.W (f:K19.T):K19.sig.F:=λa x=>f a.2.1 x.1 x.2.1 x.2.2.1
def K19.C:Code:=match Tryz.f69.body with|some c=>c|none=>.skip
def K19.B0:Code:=match (Z3 K19.C).getD 0 .skip with| .loop b=>b| .scope b=>b|_=>.skip
def K19.Q76:Ql U:= [(.normal,⟨128,14,[(0,.ptr 13 0 0),(1,.Q1f 13 23 42 8 0)],(13,.obj .Q7)::Q65⟩)]
def K19.Q96:Ql U:= [(.normal,⟨128,14,[(0,.ptr 13 0 0),(1,.Q1f 13 23 42 8 0),(111,vb_)],(13,.obj .Q7)::Q65⟩)]
def K19.JR7:Ql U:= [(.normal,⟨128,14,[(0,.ptr 13 0 0),(1,.Q1f 13 23 42 8 0),(58,vb_)],(13,.obj .Q7)::Q65⟩)]
def K19.JC4:Ql U:= [(.normal,⟨128,14,[],(13,.obj .Q7)::Q65⟩)]
def K19.H (cK137:Q1Z.T) (cK30:K30.T) (cK164:Q21.T) (cK133:Q1h.T) (cK39:K39.T) (cK136:Q2k.T) (cK166:Q2I.T) (cK135:Q1P.T) (cK179:Q1E.T) (cK40:K40.T) (cK22:K22.T):Hints U:={ Γ:=(Qn 131 (K22.sig.native (K22.W cK22)) (Qn 96 (K40.sig.native (K40.W cK40)) (Q1E.N cK179 (Q1P.N cK135 (Qn 130 (Q2I.sig.native (Q2I.W cK166)) (Q2k.N cK136 (Qn 128 (K39.sig.native (K39.W cK39)) (Q1h.N cK133 (Q21.N cK164 (K30.N cK30 (Q1Z.N cK137 noΓ))))))))))),ro:=0,base:=14,Q2w:=jt_ [(1,K19.Q76),(2,K19.Q76),(7,K19.JR7),(10,K19.Q76),(11,K19.Q76),(15,K19.Q96),(16,K19.Q76)],Q23:=jt_ [(4,K19.JC4),(6,K19.Q76),(8,K19.Q76),(9,K19.Q76)],gotos:=3,loop:=λb=>none}
def K19.gen (cK137:Q1Z.T) (cK30:K30.T) (cK164:Q21.T) (cK133:Q1h.T) (cK39:K39.T) (cK136:Q2k.T) (cK166:Q2I.T) (cK135:Q1P.T) (cK179:Q1E.T) (cK40:K40.T) (cK22:K22.T):K19.T:=λp h0 g6 g12=>
 (bif ieq (h0.Qf p).Q1x 1 then (Q0 ((Q0 (cK137 (h0.Qf p).Q1x 1 h0.Qs.Q2s) none λr0=>some ((p,()),(Q1.QU h0 (Qr h0.Qf p (Q5.Q3D (h0.Qf p) r0.1.1)),(g6,(g12,())))))) none λr1=>(Q0 ((Q0 (cK30 r1.2.1) none λr2=>(Q0 (cK164 r2.1.1 (r1.2.1.Qf r1.1.1).Q46) none λr3=>some (r1.1,(Q1.QU r1.2.1 (Qr r1.2.1.Qf r1.1.1 (Q5.Q3V (r1.2.1.Qf r1.1.1) r3.2.1.1)),r1.2.2))))) none λr4=>(Q0 ((bif r4.2.1.Qs.Q4o then (Q0 (cK164 1 (r4.2.1.Qf r4.1.1).Q6S) none λr5=>some ((),(Q1.QU r4.2.1 (Qr r4.2.1.Qf r4.1.1 (Q5.Q6i (r4.2.1.Qf r4.1.1) r5.2.1.1)),r4.2.2))) else some ((),r4.2))) none λr6=>some ((),(r6.2,()))))) else (Q0 (cK133 (h0.Qf p).Q1x) none λr7=>(Q0 ((bif r7.1.1 then (Q0 (cK39 h0.Q5p (h0.Qf p) g6 g12) none λr8=>some ((p,()),(Q1.QU h0 (Qr h0.Qf p r8.2.1.1),r8.2.1.2))) else some ((p,()),(h0,(g6,(g12,())))))) none λr9=>(Q0 ((Q0 (cK136 (r9.2.1.Qf r9.1.1).Q1x) none λr10=>(bif r10.1.1 then (Q0 (cK166 (r9.2.1.Qf r9.1.1).Q46) none λr11=>some ((r9.1.1,r11.1),(Q1.QU r9.2.1 (Qr r9.2.1.Qf r9.1.1 (Q5.Q3V (r9.2.1.Qf r9.1.1) r11.2.1.1)),r9.2.2))) else some ((r9.1.1,(false,())),r9.2)))) none λr12=>(Q0 ((bif r12.1.2.1 then (Q0 (cK135 (r12.2.1.Qf r12.1.1).Q1x) none λr13=>(Q0 ((bif r13.1.1 then (Q0 (cK179 r12.2.1.Qs) none λr14=>some ((r12.1.1,()),(Q1.Q49 r12.2.1 r14.1.1,r12.2.2))) else some ((r12.1.1,()),r12.2))) none λr15=>(Q0 ((Q0 (cK40 (r15.2.1.Qf r15.1.1) r15.2.2.1 r15.2.2.2.1) none λr16=>some (r15.1,(Q1.QU r15.2.1 (Qr r15.2.1.Qf r15.1.1 r16.2.1.1),r16.2.1.2)))) none λr17=>(Q0 ((Q0 (cK137 (r17.2.1.Qf r17.1.1).Q1x 4 r17.2.1.Qs.Q2s) none λr18=>some (r17.1,(Q1.QU r17.2.1 (Qr r17.2.1.Qf r17.1.1 (Q5.Q3D (r17.2.1.Qf r17.1.1) r18.1.1)),r17.2.2)))) none λr19=>(bif ieq (r19.2.1.Qf r19.1.1).Q1x 6 then (Q0 (cK22 r19.1.1 r19.2.1) none λr20=>some (r19.1,(r20.2.1.1,r19.2.2))) else (Q0 (cK30 r19.2.1) none λr21=>(Q0 (cK164 r21.1.1 (r19.2.1.Qf r19.1.1).Q46) none λr22=>some (r19.1,(Q1.QU r19.2.1 (Qr r19.2.1.Qf r19.1.1 (Q5.Q3V (r19.2.1.Qf r19.1.1) r22.2.1.1)),r19.2.2))))))))) else some ((r12.1.1,()),r12.2))) none λr23=>(Q0 ((bif ieq (r23.2.1.Qf r23.1.1).Q1x 5 then (Q0 (cK166 (r23.2.1.Qf r23.1.1).Q57) none λr24=>some ((r23.1.1,r24.1),(Q1.QU r23.2.1 (Qr r23.2.1.Qf r23.1.1 (Q5.Q5m (r23.2.1.Qf r23.1.1) r24.2.1.1)),r23.2.2))) else some ((r23.1.1,(false,())),r23.2))) none λr25=>(bif r25.1.2.1 then (Q0 ((Q0 (cK137 (r25.2.1.Qf r25.1.1).Q1x 5 r25.2.1.Qs.Q2s) none λr26=>some ((r25.1.1,()),(Q1.QU r25.2.1 (Qr r25.2.1.Qf r25.1.1 (Q5.Q3D (r25.2.1.Qf r25.1.1) r26.1.1)),r25.2.2)))) none λr27=>(Q0 (cK22 r27.1.1 r27.2.1) none λr28=>some ((),((r28.2.1.1,r27.2.2),())))) else some ((),(r25.2,())))))))))
def K19:K19.T:=K19.gen Q1Z K30 Q21 Q1h K39 Q2k Q2I Q1P Q1E K40 K22
theorem K19.eq (cK137:Q1Z.T) (cK30:K30.T) (cK164:Q21.T) (cK133:Q1h.T) (cK39:K39.T) (cK136:Q2k.T) (cK166:Q2I.T) (cK135:Q1P.T) (cK179:Q1E.T) (cK40:K40.T) (cK22:K22.T):EqA K19.sig (K19.H cK137 cK30 cK164 cK133 cK39 cK136 cK166 cK135 cK179 cK40 cK22) Tryz.f69 6 (K19.W (K19.gen cK137 cK30 cK164 cK133 cK39 cK136 cK166 cK135 cK179 cK40 cK22)):=by intro a x;kernel_rfl
theorem K19.loops:Z3 K19.C= [(.scope K19.B0)]:=by kernel_rfl
theorem K19.ok:NK_ 69 K19.sig (K19.W K19):=ok_ Tryz.func69 (K19.eq Q1Z K30 Q21 Q1h K39 Q2k Q2I Q1P Q1E K40 K22) (hl_ (Z0 (Z0 (Z0 (Z0 (Z0 (Z0 (Z0 (Z0 (Z0 (Z0 (Z0 Z2 Q1Z.ok) K30.ok) Q21.ok) Q1h.ok) K39.ok) Q2k.ok) Q2I.ok) Q1P.ok) Q1E.ok) K40.ok) K22.ok) (Zt Z5)) K19.loops
def K68.sig:Sig U:=⟨[.ptr,.int .i64],[.obj .Qy],1,[.isl .QA],false,[]⟩
abbrev K68.T:Type:=(Int)->(Qe)->Option (((List (Qc))×Unit)×Unit×Unit)
def K68.W (f:K68.T):K68.sig.F:=λa x=>f a.2.1 x.1
def K68.L0:Shape U:=⟨38,15,[(0,.ptr 13 0 0),(1,vi_),(5,.own .QA 14),(15,.asl 13 3 17 5),(16,vi_),(17,vi_)],[(13,.obj .Qy),(14,.tok)]⟩
def K68.X0:Ql U:= [(.exit 0,⟨38,15,[(5,.own .QA 14)],[(13,.obj .Qy),(14,.tok)]⟩)]
abbrev K68.l0T:Type:=((Int×(List (Qc))×(Nat×Nat)×Int×Int×Unit)×(Qe×Unit))->Option ((((List (Qc))×Unit)×(Qe×Unit)))
def K68.C:Code:=match Tryz.f176.body with|some c=>c|none=>.skip
def K68.B0:Code:=match (Z3 K68.C).getD 0 .skip with| .loop b=>b| .scope b=>b|_=>.skip
def K68.JR4:Ql U:= [(.normal,⟨38,16,[(0,.ptr 13 0 0),(1,vi_),(5,.own .QA 14),(7,.ptr 15 0 0),(15,.asl 13 3 17 5),(16,vi_),(17,vi_)],[(13,.obj .Qy),(14,.tok),(15,.obj .QA)]⟩)]
def K68.JC6:Ql U:= [(.normal,⟨38,15,[(0,.ptr 13 0 0),(1,vi_),(5,.own .QA 14),(15,.asl 13 3 17 5),(16,vi_),(17,vi_)],[(13,.obj .Qy),(14,.tok)]⟩)]
def K68.H (cK70:K70.T) (l0:K68.l0T):Hints U:={ Γ:=(Qn 197 (K70.sig.native (K70.W cK70)) noΓ),ro:=14,base:=14,Q1L:=jt_ [(5,[(31,vb_)])],Q2w:=jt_ [(4,K68.JR4)],Q23:=jt_ [(6,K68.JC6)],loop:=jt_ [(3,(Z9 (14,14) K68.L0 K68.X0 l0))]}
def K68.QT (cK70:K70.T) (a:(Int×(List (Qc))×(Nat×Nat)×Int×Int×Unit)×(Qe×Unit)):Option (((Int×(List (Qc))×(Nat×Nat)×Int×Int×Unit)×(Qe×Unit))⊕((((List (Qc))×Unit)×(Qe×Unit)))):=
 (bif ilt a.1.2.2.2.2.1 a.1.2.2.2.1 then (Q0 ((bif inR a.1.2.2.2.2.1 a.1.2.2.1.2 then some (a.1,(a.2.1,(a.2.1.fl (a.1.2.2.1.1+Int.toNat a.1.2.2.2.2.1),()))) else none)) none λr0=>(Q0 ((bif ine r0.2.2.1.Q7R (-1) then (Q0 (cK70 r0.2.2.1.Q7R r0.1.1 r0.2.1) none λr1=>some (!r1.1.1,())) else some (false,()))) none λr2=>(Q0 ((bif r2.1 then (bif room (List.length r0.1.2.1+List.length (r0.2.2.1::Qm Qc)) 136 then some ((r0.1.1,(r0.1.2.1++r0.2.2.1::Qm Qc,r0.1.2.2)),(r0.2.1,())) else none) else some (r0.1,(r0.2.1,())))) none λr3=>some (.inl ((r3.1.1,(r3.1.2.1,(r3.1.2.2.1,(r3.1.2.2.2.1,(Q4 .i64 r3.1.2.2.2.2.1 1,()))))),r3.2))))) else some (.inr ((a.1.2.1,()),a.2)))
def K68.F0:K68.l0T:=λa=>Z8 (1000000+(a.1.2.1.length+a.1.2.2.1.2)) (K68.QT K70) a
def K68.gen (cK70:K70.T) (l0:K68.l0T):K68.T:=λnow h0=>
 (bif le3 (ofN 0) h0.fn 5 then (Q0 (l0 ((now,Qm Qc,(Int.toNat (ofN 0),Int.toNat h0.fn - Int.toNat (ofN 0)),ofN (Int.toNat h0.fn - Int.toNat (ofN 0)),(0:Int),()),h0,())) none λr0=>some (r0.1,((),()))) else none)
def K68:K68.T:=K68.gen K70 K68.F0
theorem K68.Q24 (cK70:K70.T) (l0:K68.l0T) (a:K68.L0.T):run Tryz.prog (K68.H cK70 l0) 6 (Option (K68.L0.T⊕ExT K68.X0)) none K68.B0 (K68.L0.enc a) (Zj (14,14) K68.L0 K68.X0)=K68.QT cK70 a:=by kernel_rfl
abbrev K68.h:=K68.H K70 K68.F0
theorem K68.Q1V:LO_ K68.h K68.B0 (Z9 (14,14) K68.L0 K68.X0 K68.F0):=lk_ (hn_ (Z0 Z2 K70.ok)) (K68.Q24 K70 K68.F0)
theorem K68.eq (cK70:K70.T) (l0:K68.l0T):EqA K68.sig (K68.H cK70 l0) Tryz.f176 6 (K68.W (K68.gen cK70 l0)):=by intro a x;kernel_rfl
theorem K68.loops:Z3 K68.C= [(.loop K68.B0)]:=by kernel_rfl
theorem K68.ok:NK_ 176 K68.sig (K68.W K68):=ok_ Tryz.func176 (K68.eq K70 K68.F0) (hl_ (Z0 Z2 K70.ok) (Z7 (by kernel_rfl) K68.Q1V Z5)) K68.loops
def K46.sig:Sig U:=⟨[.int .i64],[],0,[.bool],false,[]⟩
abbrev K46.T:Type:=(Int)->Option ((Bool×Unit)×Unit×Unit)
def K46.W (f:K46.T):K46.sig.F:=λa x=>f a.1
def K46.H:Hints U:={ Γ:=noΓ,ro:=0,base:=13}
def K46.gen:K46.T:=λx_0=>
 some ((ine x_0 x_0,()),((),()))
def K46:K46.T:=K46.gen
theorem K46.ok:NK_ 213 K46.sig (K46.W K46):=ok_ (H:=K46.H) (n:=6) Tryz.func213 (by intro a x;kernel_rfl) (hn_ Z2)
def K43.sig:Sig U:=⟨[.int .i64,.int .i64],[],0,[.int .i64],false,[]⟩
abbrev K43.T:Type:=(Int)->(Int)->Option ((Int×Unit)×Unit×Unit)
def K43.W (f:K43.T):K43.sig.F:=λa x=>f a.1 a.2.1
abbrev K43.N (c:K43.T):=Qn 199 (K43.sig.native (K43.W c))
def K43.H (cK46:K46.T):Hints U:={ Γ:=(Qn 213 (K46.sig.native (K46.W cK46)) noΓ),ro:=0,base:=13}
def K43.gen (cK46:K46.T):K43.T:=λx_0 y=>
 (Q0 (cK46 x_0) none λr0=>(Q0 (cK46 y) none λr1=>(bif r0.1.1 then (bif r1.1.1 then some (((0:Int),()),((),())) else some (((-1:Int),()),((),()))) else (bif r1.1.1 then some (((1:Int),()),((),())) else (bif ilt x_0 y then some (((-1:Int),()),((),())) else (bif ilt y x_0 then some (((1:Int),()),((),())) else some (((0:Int),()),((),()))))))))
def K43:K43.T:=K43.gen K46
theorem K43.eq (cK46:K46.T):EqA K43.sig (K43.H cK46) Tryz.f199 6 (K43.W (K43.gen cK46)):=by intro a x;kernel_rfl
theorem K43.ok:NK_ 199 K43.sig (K43.W K43):=ok_ Tryz.func199 (K43.eq K46) (hn_ (Z0 Z2 K46.ok))
def K45.sig:Sig U:=⟨[.isl .int],[],0,[.int .i64],false,[]⟩
abbrev K45.T:Type:=(List (Int))->Option ((Int×Unit)×Unit×Unit)
def K45.W (f:K45.T):K45.sig.F:=λa x=>f a.1
abbrev K45.N (c:K45.T):=Qn 201 (K45.sig.native (K45.W c))
def K45.L0:Shape U:=⟨18,13,[(3,vi_),(6,.val (.isl .int)),(7,vi_),(8,vi_)],[]⟩
def K45.X0:Ql U:= [(.exit 0,⟨18,13,[(3,vi_)],[]⟩),
 (.ret,⟨18,13,[(2,vi_)],[]⟩)]
abbrev K45.l0T:Type:=((Int×(List (Int))×Int×Int×Unit)×Unit)->Option (((Int×Unit)×Unit)⊕((Int×Unit)×Unit))
def K45.C:Code:=match Tryz.f201.body with|some c=>c|none=>.skip
def K45.B0:Code:=match (Z3 K45.C).getD 0 .skip with| .loop b=>b| .scope b=>b|_=>.skip
def K45.H (l0:K45.l0T):Hints U:={ Γ:=noΓ,ro:=0,base:=13,loop:=jt_ [(3,(Z9 (0,13) K45.L0 K45.X0 l0))]}
def K45.QT (a:(Int×(List (Int))×Int×Int×Unit)×Unit):Option (((Int×(List (Int))×Int×Int×Unit)×Unit)⊕(((Int×Unit)×Unit)⊕((Int×Unit)×Unit))):=
 (bif ilt a.1.2.2.2.1 a.1.2.2.1 then (bif inR a.1.2.2.2.1 (List.length a.1.2.1) then (bif ine (List.getD a.1.2.1 (Int.toNat a.1.2.2.2.1) (0:D UC.int)) a.1.1 then some (.inr (.inr ((List.getD a.1.2.1 (Int.toNat a.1.2.2.2.1) (0:D UC.int),()),()))) else some (.inl ((a.1.1,(a.1.2.1,(a.1.2.2.1,(Q4 .i64 a.1.2.2.2.1 1,())))),()))) else none) else some (.inr (.inl ((a.1.1,()),()))))
def K45.F0:K45.l0T:=λa=>Z8 (1000000+(a.1.2.1.length)) (K45.QT) a
def K45.gen (l0:K45.l0T):K45.T:=λQaH=>
 (Q0 (l0 (((0:Int),QaH,ofN (List.length QaH),(0:Int),()),())) none λr0=>(Q3U r0 (λr1=>some (r1.1,((),()))) (λr1=>some (r1.1,((),())))))
def K45:K45.T:=K45.gen K45.F0
theorem K45.Q24 (l0:K45.l0T) (a:K45.L0.T):run Tryz.prog (K45.H l0) 6 (Option (K45.L0.T⊕ExT K45.X0)) none K45.B0 (K45.L0.enc a) (Zj (0,13) K45.L0 K45.X0)=K45.QT a:=by kernel_rfl
abbrev K45.h:=K45.H K45.F0
theorem K45.Q1V:LO_ K45.h K45.B0 (Z9 (0,13) K45.L0 K45.X0 K45.F0):=lk_ (hn_ Z2) (K45.Q24 K45.F0)
theorem K45.eq (l0:K45.l0T):EqA K45.sig (K45.H l0) Tryz.f201 6 (K45.W (K45.gen l0)):=by intro a x;kernel_rfl
theorem K45.loops:Z3 K45.C= [(.loop K45.B0)]:=by kernel_rfl
theorem K45.ok:NK_ 201 K45.sig (K45.W K45):=ok_ Tryz.func201 (K45.eq K45.F0) (hl_ Z2 (Z7 (by kernel_rfl) K45.Q1V Z5)) K45.loops
def Q2Y.sig:Sig U:=⟨[.data .Q2u,.data .Q2u],[],0,[.int .i64],false,[]⟩
abbrev Q2Y.T:Type:=(Qx)->(Qx)->Option ((Int×Unit)×Unit×Unit)
def Q2Y.W (f:Q2Y.T):Q2Y.sig.F:=λa x=>f a.1 a.2.1
def Q2Y.H (cK43:K43.T) (cK45:K45.T):Hints U:={ Γ:=(K45.N cK45 (K43.N cK43 noΓ)),ro:=0,base:=13}
def Q2Y.gen (cK43:K43.T) (cK45:K45.T):Q2Y.T:=λa b=>
 (Q0 (cK43 a.Q1W b.Q1W) none λr0=>(Q0 (cK43 a.Q1u b.Q1u) none λr1=>(Q0 (cK43 a.Q1F b.Q1F) none λr2=>(Q0 (cK45 (r0.1.1::r1.1.1::r2.1.1::Qm Int)) none λr3=>some (r3.1,((),()))))))
def Q2Y:Q2Y.T:=Q2Y.gen K43 K45
theorem Q2Y.eq (cK43:K43.T) (cK45:K45.T):EqA Q2Y.sig (Q2Y.H cK43 cK45) Tryz.f211 6 (Q2Y.W (Q2Y.gen cK43 cK45)):=by intro a x;kernel_rfl
theorem Q2Y.ok:NK_ 211 Q2Y.sig (Q2Y.W Q2Y):=ok_ Tryz.func211 (Q2Y.eq K43 K45) (hn_ (Z0 (Z0 Z2 K43.ok) K45.ok))
def K47.sig:Sig U:=⟨[.int .u64],[],0,[.bool],false,[]⟩
abbrev K47.T:Type:=(Int)->Option ((Bool×Unit)×Unit×Unit)
def K47.W (f:K47.T):K47.sig.F:=λa x=>f a.1
def K47.H:Hints U:={ Γ:=noΓ,ro:=0,base:=13}
def K47.gen:K47.T:=λx_0=>
 some ((ine x_0 x_0,()),((),()))
def K47:K47.T:=K47.gen
theorem K47.ok:NK_ 219 K47.sig (K47.W K47):=ok_ (H:=K47.H) (n:=6) Tryz.func219 (by intro a x;kernel_rfl) (hn_ Z2)
def K44.sig:Sig U:=⟨[.int .u64,.int .u64],[],0,[.int .i64],false,[]⟩
abbrev K44.T:Type:=(Int)->(Int)->Option ((Int×Unit)×Unit×Unit)
def K44.W (f:K44.T):K44.sig.F:=λa x=>f a.1 a.2.1
abbrev K44.N (c:K44.T):=Qn 212 (K44.sig.native (K44.W c))
def K44.H (cK47:K47.T):Hints U:={ Γ:=(Qn 219 (K47.sig.native (K47.W cK47)) noΓ),ro:=0,base:=13}
def K44.gen (cK47:K47.T):K44.T:=λx_0 y=>
 (Q0 (cK47 x_0) none λr0=>(Q0 (cK47 y) none λr1=>(bif r0.1.1 then (bif r1.1.1 then some (((0:Int),()),((),())) else some (((-1:Int),()),((),()))) else (bif r1.1.1 then some (((1:Int),()),((),())) else (bif ilt x_0 y then some (((-1:Int),()),((),())) else (bif ilt y x_0 then some (((1:Int),()),((),())) else some (((0:Int),()),((),()))))))))
def K44:K44.T:=K44.gen K47
theorem K44.eq (cK47:K47.T):EqA K44.sig (K44.H cK47) Tryz.f212 6 (K44.W (K44.gen cK47)):=by intro a x;kernel_rfl
theorem K44.ok:NK_ 212 K44.sig (K44.W K44):=ok_ Tryz.func212 (K44.eq K47) (hn_ (Z0 Z2 K47.ok))
def K50.sig:Sig U:=⟨[.data .Q19,.data .Q19],[],0,[.int .i64],false,[]⟩
abbrev K50.T:Type:=(Qj)->(Qj)->Option ((Int×Unit)×Unit×Unit)
def K50.W (f:K50.T):K50.sig.F:=λa x=>f a.1 a.2.1
def K50.C:Code:=match Tryz.f198.body with|some c=>c|none=>.skip
def K50.B0:Code:=match (Z3 K50.C).getD 0 .skip with| .loop b=>b| .scope b=>b|_=>.skip
def K50.U0 (cK43:K43.T) (cK138:Q2Y.T) (cK44:K44.T):Hints U:={ Γ:=(K44.N cK44 (Qn 211 (Q2Y.sig.native (Q2Y.W cK138)) (K43.N cK43 noΓ))),ro:=0,base:=13,loop:=λb=>none}
def K50.H (cK43:K43.T) (cK138:Q2Y.T) (cK44:K44.T):Hints U:={ Γ:=(K44.N cK44 (Qn 211 (Q2Y.sig.native (Q2Y.W cK138)) (K43.N cK43 noΓ))),ro:=0,base:=13,loop:=jt_ [(2,(Z1N Tryz.prog (K50.U0 cK43 cK138 cK44) 6 K50.B0 6))]}
def K50.gen (cK43:K43.T) (cK138:Q2Y.T) (cK44:K44.T):K50.T:=λa b=>
 (Q0 (cK43 a.Q15 b.Q15) none λr0=>(Q0 (cK138 a.Qv b.Qv) none λr1=>(Q0 (cK43 a.Q16 b.Q16) none λr2=>(Q0 (cK44 a.Q2x b.Q2x) none λr3=>(bif ine (List.getD (r0.1.1::r1.1.1::r2.1.1::r3.1.1::Qm Int) (Int.toNat 0) 0) 0 then some ((List.getD (r0.1.1::r1.1.1::r2.1.1::r3.1.1::Qm Int) (Int.toNat 0) 0,()),((),())) else (bif ine (List.getD (r0.1.1::r1.1.1::r2.1.1::r3.1.1::Qm Int) (Int.toNat (Q4 .i64 0 1)) 0) 0 then some ((List.getD (r0.1.1::r1.1.1::r2.1.1::r3.1.1::Qm Int) (Int.toNat (Q4 .i64 0 1)) 0,()),((),())) else (bif ine (List.getD (r0.1.1::r1.1.1::r2.1.1::r3.1.1::Qm Int) (Int.toNat (Q4 .i64 (Q4 .i64 0 1) 1)) 0) 0 then some ((List.getD (r0.1.1::r1.1.1::r2.1.1::r3.1.1::Qm Int) (Int.toNat (Q4 .i64 (Q4 .i64 0 1) 1)) 0,()),((),())) else (bif ine (List.getD (r0.1.1::r1.1.1::r2.1.1::r3.1.1::Qm Int) (Int.toNat (Q4 .i64 (Q4 .i64 (Q4 .i64 0 1) 1) 1)) 0) 0 then some ((List.getD (r0.1.1::r1.1.1::r2.1.1::r3.1.1::Qm Int) (Int.toNat (Q4 .i64 (Q4 .i64 (Q4 .i64 0 1) 1) 1)) 0,()),((),())) else some (((0:Int),()),((),()))))))))))
def K50:K50.T:=K50.gen K43 Q2Y K44
theorem K50.Q4B:Z3 K50.B0= []:=by kernel_rfl
abbrev K50.h:=K50.H K43 Q2Y K44
theorem K50.Q1V:ZF U Tryz.prog K50.h.ro K50.h.base K50.B0 (Z1N Tryz.prog (K50.U0 K43 Q2Y K44) 6 K50.B0 6):=
 Z2t (Hn:=(K50.U0 K43 Q2Y K44)) (L:=λc=>c∈([]:List Code)) (hq (Z0 (Z0 (Z0 Z2 K43.ok) Q2Y.ok) K44.ok) Z5 (λ_=>rfl) (λ_=>rfl)) (λb h=>by rw [K50.Q4B] at h;exact h) 6
theorem K50.eq (cK43:K43.T) (cK138:Q2Y.T) (cK44:K44.T):EqA K50.sig (K50.H cK43 cK138 cK44) Tryz.f198 6 (K50.W (K50.gen cK43 cK138 cK44)):=by intro a x;kernel_rfl
theorem K50.loops:Z3 K50.C= [(.loop K50.B0)]:=by kernel_rfl
theorem K50.ok:NK_ 198 K50.sig (K50.W K50):=ok_ Tryz.func198 (K50.eq K43 Q2Y K44) (hl_ (Z0 (Z0 (Z0 Z2 K43.ok) Q2Y.ok) K44.ok) (Z7 (by kernel_rfl) K50.Q1V Z5)) K50.loops
def K80.sig:Sig U:=⟨[.data .Qu,.data .Qu],[],0,[.int .i64],false,[]⟩
abbrev K80.T:Type:=(Qd)->(Qd)->Option ((Int×Unit)×Unit×Unit)
def K80.W (f:K80.T):K80.sig.F:=λa x=>f a.1 a.2.1
def K80.H (cK44:K44.T) (cK43:K43.T) (cK45:K45.T):Hints U:={ Γ:=(K45.N cK45 (K43.N cK43 (K44.N cK44 noΓ))),ro:=0,base:=13}
def K80.gen (cK44:K44.T) (cK43:K43.T) (cK45:K45.T):K80.T:=λa b=>
 (bif bif ieq a.QI b.QI then bif ieq a.QR b.QR then true else false else false then some (((0:Int),()),((),())) else (Q0 (cK44 a.QI b.QI) none λr0=>(Q0 (cK43 a.QR b.QR) none λr1=>(Q0 (cK45 (r0.1.1::r1.1.1::Qm Int)) none λr2=>some (r2.1,((),()))))))
def K80:K80.T:=K80.gen K44 K43 K45
theorem K80.eq (cK44:K44.T) (cK43:K43.T) (cK45:K45.T):EqA K80.sig (K80.H cK44 cK43 cK45) Tryz.f202 6 (K80.W (K80.gen cK44 cK43 cK45)):=by intro a x;kernel_rfl
theorem K80.ok:NK_ 202 K80.sig (K80.W K80):=ok_ Tryz.func202 (K80.eq K44 K43 K45) (hn_ (Z0 (Z0 (Z0 Z2 K44.ok) K43.ok) K45.ok))
def K52.sig:Sig U:=⟨[.data .Q19],[],0,[.int .i64],false,[]⟩
abbrev K52.T:Type:=(Qj)->Option ((Int×Unit)×Unit×Unit)
def K52.W (f:K52.T):K52.sig.F:=λa x=>f a.1
def K52.H (cK80:K80.T):Hints U:={ Γ:=(Qn 202 (K80.sig.native (K80.W cK80)) noΓ),ro:=0,base:=13}
def K52.gen (cK80:K80.T):K52.T:=λa=>
 (Q0 (cK80 a.Q5l a.Q4G) none λr0=>(bif inR (Q4 .i64 r0.1.1 1) 3 then some ((List.getD ((2:Int)::(0:Int)::(1:Int)::Qm Int) (Int.toNat (Q4 .i64 r0.1.1 1)) 0,()),((),())) else none))
def K52:K52.T:=K52.gen K80
theorem K52.eq (cK80:K80.T):EqA K52.sig (K52.H cK80) Tryz.f200 6 (K52.W (K52.gen cK80)):=by intro a x;kernel_rfl
theorem K52.ok:NK_ 200 K52.sig (K52.W K52):=ok_ Tryz.func200 (K52.eq K80) (hn_ (Z0 Z2 K80.ok))
def K49.sig:Sig U:=⟨[.data .Q19,.data .Q19],[],0,[.int .i64],false,[]⟩
abbrev K49.T:Type:=(Qj)->(Qj)->Option ((Int×Unit)×Unit×Unit)
def K49.W (f:K49.T):K49.sig.F:=λa x=>f a.1 a.2.1
abbrev K49.N (c:K49.T):=Qn 178 (K49.sig.native (K49.W c))
def K49.C:Code:=match Tryz.f178.body with|some c=>c|none=>.skip
def K49.B0:Code:=match (Z3 K49.C).getD 0 .skip with| .loop b=>b| .scope b=>b|_=>.skip
def K49.JC9:Ql U:= [(.normal,⟨60,13,[(5,vi_)],[]⟩)]
def K49.H (cK50:K50.T) (cK43:K43.T) (cK52:K52.T) (cK80:K80.T) (cK45:K45.T):Hints U:={ Γ:=(K45.N cK45 (Qn 202 (K80.sig.native (K80.W cK80)) (Qn 200 (K52.sig.native (K52.W cK52)) (K43.N cK43 (Qn 198 (K50.sig.native (K50.W cK50)) noΓ))))),ro:=0,base:=13,Q1L:=jt_ [(4,[(27,vb_)]),(6,[(39,vb_)])],Q23:=jt_ [(9,K49.JC9)],gotos:=3,loop:=λb=>none}
def K49.gen (cK50:K50.T) (cK43:K43.T) (cK52:K52.T) (cK80:K80.T) (cK45:K45.T):K49.T:=λa b=>
 (Q0 (cK50 a b) none λr0=>(bif ine (Q3l .i64 2 r0.1.1) 0 then some ((Q3l .i64 2 r0.1.1,()),((),())) else (Q0 (cK43 a.Q28 b.Q28) none λr1=>(Q0 ((bif ilt 0 (Q3l .i64 2 r1.1.1) then some (ieq (Q1s .i64 a.Q28 1) b.Q28,()) else some (false,()))) none λr2=>(bif r2.1 then (Q0 (cK52 a) none λr3=>some (r3.1,((),()))) else (Q0 ((bif ilt (Q3l .i64 2 r1.1.1) 0 then some (ieq (Q1s .i64 b.Q28 1) a.Q28,()) else some (false,()))) none λr4=>(bif r4.1 then (Q0 (cK52 b) none λr5=>some ((IntKind.wrap .i64 ((0:Int) - r5.1.1),()),((),()))) else (Q0 ((bif ieq (Q3l .i64 2 r1.1.1) 0 then (Q0 (cK80 a.Q4G b.Q4G) none λr6=>(Q0 (cK43 a.Q5l.QR b.Q5l.QR) none λr7=>(Q0 (cK45 (r6.1.1::r7.1.1::Qm Int)) none λr8=>some (r8.1,())))) else some ((Q3l .i64 2 r1.1.1,()),()))) none λr9=>some (r9.1,((),()))))))))))
def K49:K49.T:=K49.gen K50 K43 K52 K80 K45
theorem K49.eq (cK50:K50.T) (cK43:K43.T) (cK52:K52.T) (cK80:K80.T) (cK45:K45.T):EqA K49.sig (K49.H cK50 cK43 cK52 cK80 cK45) Tryz.f178 6 (K49.W (K49.gen cK50 cK43 cK52 cK80 cK45)):=by intro a x;kernel_rfl
theorem K49.loops:Z3 K49.C= [(.scope K49.B0)]:=by kernel_rfl
theorem K49.ok:NK_ 178 K49.sig (K49.W K49):=ok_ Tryz.func178 (K49.eq K50 K43 K52 K80 K45) (hl_ (Z0 (Z0 (Z0 (Z0 (Z0 Z2 K50.ok) K43.ok) K52.ok) K80.ok) K45.ok) (Zt Z5)) K49.loops
def K48.sig:Sig U:=⟨[.isl .Q19],[],0,[.int .i64],false,[]⟩
abbrev K48.T:Type:=(List (Qj))->Option ((Int×Unit)×Unit×Unit)
def K48.W (f:K48.T):K48.sig.F:=λa x=>f a.1
def K48.L0:Shape U:=⟨27,13,[(0,.val (.isl .Q19)),(3,vi_),(6,.val (.isl .Q19)),(7,vi_),(8,vi_)],[]⟩
def K48.X0:Ql U:= [(.exit 0,⟨27,13,[(3,vi_)],[]⟩)]
abbrev K48.l0T:Type:=(((List (Qj))×Int×(List (Qj))×Int×Int×Unit)×Unit)->Option (((Int×Unit)×Unit))
def K48.C:Code:=match Tryz.f177.body with|some c=>c|none=>.skip
def K48.B0:Code:=match (Z3 K48.C).getD 0 .skip with| .loop b=>b| .scope b=>b|_=>.skip
def K48.JC6:Ql U:= [(.normal,⟨27,13,[(0,.val (.isl .Q19)),(3,vi_),(6,.val (.isl .Q19)),(7,vi_),(8,vi_)],[]⟩)]
def K48.H (cK49:K49.T) (l0:K48.l0T):Hints U:={ Γ:=(K49.N cK49 noΓ),ro:=0,base:=13,Q1L:=jt_ [(5,[(23,vb_)])],Q23:=jt_ [(6,K48.JC6)],loop:=jt_ [(3,(Z9 (0,13) K48.L0 K48.X0 l0))]}
def K48.QT (cK49:K49.T) (a:((List (Qj))×Int×(List (Qj))×Int×Int×Unit)×Unit):Option ((((List (Qj))×Int×(List (Qj))×Int×Int×Unit)×Unit)⊕(((Int×Unit)×Unit))):=
 (bif ilt a.1.2.2.2.2.1 a.1.2.2.2.1 then (bif inR a.1.2.2.2.2.1 (List.length a.1.2.2.1) then (Q0 ((bif ilt a.1.2.1 0 then some (true,()) else (bif inR a.1.2.1 (List.length a.1.1) then (Q0 (cK49 (List.getD a.1.1 (Int.toNat a.1.2.1) Qj.zero) (List.getD a.1.2.2.1 (Int.toNat a.1.2.2.2.2.1) Qj.zero)) none λr0=>some (ilt 0 r0.1.1,())) else none))) none λr1=>(Q0 ((bif r1.1 then some ((a.1.1,(a.1.2.2.2.2.1,a.1.2.2)),()) else some a)) none λr2=>some (.inl ((r2.1.1,(r2.1.2.1,(r2.1.2.2.1,(r2.1.2.2.2.1,(Q4 .i64 r2.1.2.2.2.2.1 1,()))))),())))) else none) else some (.inr ((a.1.2.1,()),())))
def K48.F0:K48.l0T:=λa=>Z8 (1000000+(a.1.1.length+a.1.2.2.1.length)) (K48.QT K49) a
def K48.gen (cK49:K49.T) (l0:K48.l0T):K48.T:=λl=>
 (Q0 (l0 ((l,(-1:Int),l,ofN (List.length l),(0:Int),()),())) none λr0=>some (r0.1,((),())))
def K48:K48.T:=K48.gen K49 K48.F0
theorem K48.Q24 (cK49:K49.T) (l0:K48.l0T) (a:K48.L0.T):run Tryz.prog (K48.H cK49 l0) 6 (Option (K48.L0.T⊕ExT K48.X0)) none K48.B0 (K48.L0.enc a) (Zj (0,13) K48.L0 K48.X0)=K48.QT cK49 a:=by kernel_rfl
abbrev K48.h:=K48.H K49 K48.F0
theorem K48.Q1V:LO_ K48.h K48.B0 (Z9 (0,13) K48.L0 K48.X0 K48.F0):=lk_ (hn_ (Z0 Z2 K49.ok)) (K48.Q24 K49 K48.F0)
theorem K48.eq (cK49:K49.T) (l0:K48.l0T):EqA K48.sig (K48.H cK49 l0) Tryz.f177 6 (K48.W (K48.gen cK49 l0)):=by intro a x;kernel_rfl
theorem K48.loops:Z3 K48.C= [(.loop K48.B0)]:=by kernel_rfl
theorem K48.ok:NK_ 177 K48.sig (K48.W K48):=ok_ Tryz.func177 (K48.eq K49 K48.F0) (hl_ (Z0 Z2 K49.ok) (Z7 (by kernel_rfl) K48.Q1V Z5)) K48.loops
def K65.sig:Sig U:=⟨[.ptr,.int .i64],[.obj .Qy],1,[.data .QA,.bool],true,[]⟩
abbrev K65.T:Type:=(Int)->(Qe)->Option ((Qc×Bool×Unit)×Unit×Unit)
def K65.W (f:K65.T):K65.sig.F:=λa x=>f a.2.1 x.1
def K65.L0:Shape U:=⟨35,16,[(4,.ptr 14 0 0),(6,.val (.isl .QA)),(7,.own .Q19 15),(14,.val (.isl .QA)),(15,vi_),(16,vi_)],[(13,.obj .Qy),(14,.obj .QA),(15,.tok)]⟩
def K65.X0:Ql U:= [(.exit 0,⟨35,16,[(4,.ptr 14 0 0),(6,.val (.isl .QA)),(7,.own .Q19 15)],[(13,.obj .Qy),(14,.obj .QA),(15,.tok)]⟩)]
abbrev K65.l0T:Type:=(((List (Qc))×(List (Qj))×(List (Qc))×Int×Int×Unit)×(Qe×Qc×Unit))->Option ((((List (Qc))×(List (Qj))×Unit)×(Qe×Qc×Unit)))
def K65.C:Code:=match Tryz.f133.body with|some c=>c|none=>.skip
def K65.B0:Code:=match (Z3 K65.C).getD 0 .skip with| .loop b=>b| .scope b=>b|_=>.skip
def K65.Q8v:Ql U:= [(.normal,⟨35,15,[(4,.ptr 14 0 0),(5,vb_)],[(13,.obj .Qy),(14,.obj .QA)]⟩)]
def K65.JR5:Ql U:= [(.normal,⟨35,17,[(4,.ptr 14 0 0),(6,.val (.isl .QA)),(7,.own .Q19 15),(9,.ptr 16 0 0),(14,.val (.isl .QA)),(15,vi_),(16,vi_)],[(13,.obj .Qy),(14,.obj .QA),(15,.tok),(16,.obj .QA)]⟩)]
def K65.H (cK68:K68.T) (cK48:K48.T) (l0:K65.l0T):Hints U:={ Γ:=(Qn 177 (K48.sig.native (K48.W cK48)) (Qn 176 (K68.sig.native (K68.W cK68)) noΓ)),ro:=14,base:=14,Q2w:=jt_ [(5,K65.JR5),(10,K65.Q8v)],loop:=jt_ [(4,(Z9 (14,14) K65.L0 K65.X0 l0))]}
def K65.QT (cK68:K68.T) (cK48:K48.T) (a:((List (Qc))×(List (Qj))×(List (Qc))×Int×Int×Unit)×(Qe×Qc×Unit)):Option ((((List (Qc))×(List (Qj))×(List (Qc))×Int×Int×Unit)×(Qe×Qc×Unit))⊕((((List (Qc))×(List (Qj))×Unit)×(Qe×Qc×Unit)))):=
 (bif ilt a.1.2.2.2.2.1 a.1.2.2.2.1 then (Q0 ((bif inR a.1.2.2.2.2.1 (List.length a.1.2.2.1) then some (a.1,(a.2.1,(a.2.2.1,(List.getD a.1.2.2.1 (Int.toNat a.1.2.2.2.2.1) Qc.zero,())))) else none)) none λr0=>(bif room (List.length r0.1.2.1+List.length (r0.2.2.2.1.Q3g::Qm Qj)) 88 then some (.inl ((r0.1.1,(r0.1.2.1++r0.2.2.2.1.Q3g::Qm Qj,(r0.1.2.2.1,(r0.1.2.2.2.1,(Q4 .i64 r0.1.2.2.2.2.1 1,()))))),(r0.2.1,(r0.2.2.1,())))) else none)) else some (.inr ((a.1.1,(a.1.2.1,())),a.2)))
def K65.F0:K65.l0T:=λa=>Z8 (1000000+(a.1.1.length+a.1.2.1.length+a.1.2.2.1.length)) (K65.QT K68 K48) a
def K65.gen (cK68:K68.T) (cK48:K48.T) (l0:K65.l0T):K65.T:=λnow h0=>
 (Q0 (cK68 now h0) none λr0=>(Q0 (l0 ((r0.1.1,Qm Qj,r0.1.1,ofN (List.length r0.1.1),(0:Int),()),h0,Qc.mk z6_ z4_ 0 0 0,())) none λr1=>(Q0 (cK48 r1.1.2.1) none λr2=>(bif ilt r2.1.1 0 then some ((Qc.mk z6_ z4_ 0 0 0,(false,())),((),())) else (bif inR r2.1.1 (List.length r1.1.1) then some ((List.getD r1.1.1 (Int.toNat r2.1.1) Qc.zero,(true,())),((),())) else none)))))
def K65:K65.T:=K65.gen K68 K48 K65.F0
theorem K65.Q24 (cK68:K68.T) (cK48:K48.T) (l0:K65.l0T) (a:K65.L0.T):run Tryz.prog (K65.H cK68 cK48 l0) 6 (Option (K65.L0.T⊕ExT K65.X0)) none K65.B0 (K65.L0.enc a) (Zj (14,14) K65.L0 K65.X0)=K65.QT cK68 cK48 a:=by kernel_rfl
abbrev K65.h:=K65.H K68 K48 K65.F0
theorem K65.Q1V:LO_ K65.h K65.B0 (Z9 (14,14) K65.L0 K65.X0 K65.F0):=lk_ (hn_ (Z0 (Z0 Z2 K68.ok) K48.ok)) (K65.Q24 K68 K48 K65.F0)
theorem K65.eq (cK68:K68.T) (cK48:K48.T) (l0:K65.l0T):EqA K65.sig (K65.H cK68 cK48 l0) Tryz.f133 6 (K65.W (K65.gen cK68 cK48 l0)):=by intro a x;kernel_rfl
theorem K65.loops:Z3 K65.C= [(.loop K65.B0)]:=by kernel_rfl
theorem K65.ok:NK_ 133 K65.sig (K65.W K65):=ok_ Tryz.func133 (K65.eq K68 K48 K65.F0) (hl_ (Z0 (Z0 Z2 K68.ok) K48.ok) (Z7 (by kernel_rfl) K65.Q1V Z5)) K65.loops
def K51.sig:Sig U:=⟨[.data .Q1d],[],0,[.data .Q19],false,[]⟩
abbrev K51.T:Type:=(Q9)->Option ((Qj×Unit)×Unit×Unit)
def K51.W (f:K51.T):K51.sig.F:=λa x=>f a.1
def K51.H:Hints U:={ Γ:=noΓ,ro:=0,base:=13}
def K51.gen:K51.T:=λc=>
 some ((Qj.mk c.Q15 c.Qv c.Q16 c.QI 0 (Qd.mk c.QI 0) (Qd.mk c.QI 0),()),((),()))
def K51:K51.T:=K51.gen
theorem K51.ok:NK_ 135 K51.sig (K51.W K51):=ok_ (H:=K51.H) (n:=6) Tryz.func135 (by intro a x;kernel_rfl) (hn_ Z2)
def K56.sig:Sig U:=⟨[.data .Q19,.bool,.Q3j .Q19,.Q3j .Q19,.bool],[],0,[.int .i64],false,[]⟩
abbrev K56.T:Type:=(Qj)->(Bool)->(Option (Qj))->(Option (Qj))->(Bool)->Option ((Int×Unit)×Unit×Unit)
def K56.W (f:K56.T):K56.sig.F:=λa x=>f a.1 a.2.1 a.2.2.1 a.2.2.2.1 a.2.2.2.2.1
def K56.JC2:Ql U:= [(.normal,⟨58,13,[],[]⟩),
 (.ret,⟨58,13,[(10,vi_)],[]⟩)]
def K56.H (cK49:K49.T):Hints U:={ Γ:=(K49.N cK49 noΓ),ro:=0,base:=13,Q1L:=jt_ [(1,[(11,vb_)]),(4,[(31,vb_)]),(7,[(32,vb_)]),(11,[(45,vb_)])],Q23:=jt_ [(2,K56.JC2)]}
def K56.gen (cK49:K49.T):K56.T:=λd0 listening best port here=>
 (Q0 ((bif !Option.isSome port then some (listening,()) else some (false,()))) none λr0=>(Q0 ((bif r0.1 then some (.inr (((7:Int),()),())) else (bif ile d0.Qv.Q1W 127 then (Q0 ((bif !Option.isSome port then some (true,()) else (Q0 (port) none λr1=>(Q0 (cK49 d0 r1) none λr2=>some (ilt r2.1.1 0,()))))) none λr3=>(bif r3.1 then some (.inr (((1:Int),()),())) else some (.inr (((4:Int),()),())))) else (Q0 ((bif !Option.isSome best then some (true,()) else (Q0 (best) none λr4=>(Q0 (cK49 d0 r4) none λr5=>some (ilt r5.1.1 0,()))))) none λr6=>(bif r6.1 then some (.inr (((2:Int),()),())) else (bif here then some (.inr (((6:Int),()),())) else (Q0 ((bif Option.isSome port then (Q0 (best) none λr7=>(Q0 (port) none λr8=>(Q0 (cK49 r7 r8) none λr9=>some (ieq r9.1.1 (-1),())))) else some (false,()))) none λr10=>(bif r10.1 then some (.inr (((5:Int),()),())) else some (.inl ((),())))))))))) none λr11=>(Q3U r11 (λr12=>some (((3:Int),()),((),()))) (λr12=>some (r12.1,((),()))))))
def K56:K56.T:=K56.gen K49
theorem K56.eq (cK49:K49.T):EqA K56.sig (K56.H cK49) Tryz.f179 6 (K56.W (K56.gen cK49)):=by intro a x;kernel_rfl
theorem K56.ok:NK_ 179 K56.sig (K56.W K56):=ok_ Tryz.func179 (K56.eq K49) (hn_ (Z0 Z2 K49.ok))
def K55.sig:Sig U:=⟨[.data .Q19,.isl .bool,.isl .Q1K],[],0,[.isl .int,.int .i64],true,[]⟩
abbrev K55.T:Type:=(Qj)->(List (Bool))->(List (Option (Qj)))->Option (((List (Int))×Int×Unit)×Unit×Unit)
def K55.W (f:K55.T):K55.sig.F:=λa x=>f a.1 a.2.1 a.2.2.1
def K55.L0:Shape U:=⟨78,14,[(1,.val (.isl .bool)),(2,.val (.isl .Q1K)),(3,.ptr 13 0 0),(8,vi_),(9,vi_),(10,.val (.Q3j .Q19)),(11,.full .int)],[(13,.obj .Q19)]⟩
def K55.X0:Ql U:= [(.ret,⟨78,14,[(6,.own .int 13),(7,vi_)],[(13,.tok)]⟩)]
abbrev K55.l0T:Type:=(((List (Bool))×(List (Option (Qj)))×Int×Int×(Option (Qj))×(List (Int))×Unit)×(Qj×Unit))->Option ((((List (Int))×Int×Unit)×Unit))
def K55.L1:Shape U:=⟨78,15,[(1,.val (.isl .bool)),(3,.ptr 13 0 0),(8,vi_),(10,.val (.Q3j .Q19)),(11,.own .int 14),(48,.val (.isl .Q1K)),(49,vi_),(50,vi_)],[(13,.obj .Q19),(14,.tok)]⟩
def K55.X1:Ql U:= [(.exit 0,⟨78,14,[(8,vi_),(11,.own .int 13)],[(13,.tok)]⟩)]
abbrev K55.l1T:Type:=(((List (Bool))×Int×(Option (Qj))×(List (Int))×(List (Option (Qj)))×Int×Int×Unit)×(Qj×Unit))->Option (((Int×(List (Int))×Unit)×Unit))
def K55.C:Code:=match Tryz.f134.body with|some c=>c|none=>.skip
def K55.B0:Code:=match (Z3 K55.C).getD 0 .skip with| .loop b=>b| .scope b=>b|_=>.skip
def K55.B1:Code:=match (Z3 K55.C).getD 1 .skip with| .loop b=>b| .scope b=>b|_=>.skip
def K55.R0:Code:=(findLabel K55.B0 0).getD .skip
def K55.Q9K:Ql U:= [(.normal,⟨78,15,[(1,.val (.isl .bool)),(3,.ptr 13 0 0),(8,vi_),(10,.val (.Q3j .Q19)),(11,.own .int 14),(48,.val (.isl .Q1K)),(49,vi_),(50,vi_)],[(13,.obj .Q19),(14,.tok)]⟩)]
def K55.JC8:Ql U:= [(.normal,⟨78,14,[(1,.val (.isl .bool)),(2,.val (.isl .Q1K)),(3,.ptr 13 0 0),(8,vi_),(9,vi_),(10,.val (.Q3j .Q19)),(11,.full .int)],[(13,.obj .Q19)]⟩)]
def K55.H (cK49:K49.T) (cK56:K56.T) (l0:K55.l0T) (l1:K55.l1T):Hints U:={ Γ:=(Qn 179 (K56.sig.native (K56.W cK56)) (K49.N cK49 noΓ)),ro:=0,base:=13,Q1L:=jt_ [(7,[(43,vb_)])],Q2w:=jt_ [(13,K55.Q9K)],Q23:=jt_ [(8,K55.JC8)],label:=λb=>bif Nat.beq b 0 then some (Z9 (0,13) K55.L0 K55.X0 l0) else none,gotos:=3,loop:=jt_ [(11,(Z9 (0,13) K55.L1 K55.X1 l1))]}
def K55.Q2y (cK49:K49.T) (cK56:K56.T) (a:((List (Bool))×Int×(Option (Qj))×(List (Int))×(List (Option (Qj)))×Int×Int×Unit)×(Qj×Unit)):Option ((((List (Bool))×Int×(Option (Qj))×(List (Int))×(List (Option (Qj)))×Int×Int×Unit)×(Qj×Unit))⊕(((Int×(List (Int))×Unit)×Unit))):=
 (bif ilt a.1.2.2.2.2.2.2.1 a.1.2.2.2.2.2.1 then (bif inR a.1.2.2.2.2.2.2.1 (List.length a.1.2.2.2.2.1) then (Q0 ((bif ilt a.1.2.2.2.2.2.2.1 (ofN (List.length a.1.1)) then (bif inR a.1.2.2.2.2.2.2.1 (List.length a.1.1) then (Q0 (cK56 a.2.1 (List.getD a.1.1 (Int.toNat a.1.2.2.2.2.2.2.1) false) a.1.2.2.1 (List.getD a.1.2.2.2.2.1 (Int.toNat a.1.2.2.2.2.2.2.1) none) (ieq a.1.2.2.2.2.2.2.1 a.1.2.1)) none λr0=>(bif room (List.length a.1.2.2.2.1+List.length (r0.1.1::Qm Int)) 8 then some ((a.1.1,(a.1.2.1,(a.1.2.2.1,(a.1.2.2.2.1++r0.1.1::Qm Int,a.1.2.2.2.2)))),a.2) else none)) else none) else (Q0 (cK56 a.2.1 false a.1.2.2.1 (List.getD a.1.2.2.2.2.1 (Int.toNat a.1.2.2.2.2.2.2.1) none) (ieq a.1.2.2.2.2.2.2.1 a.1.2.1)) none λr1=>(bif room (List.length a.1.2.2.2.1+List.length (r1.1.1::Qm Int)) 8 then some ((a.1.1,(a.1.2.1,(a.1.2.2.1,(a.1.2.2.2.1++r1.1.1::Qm Int,a.1.2.2.2.2)))),a.2) else none)))) none λr2=>some (.inl ((r2.1.1,(r2.1.2.1,(r2.1.2.2.1,(r2.1.2.2.2.1,(r2.1.2.2.2.2.1,(r2.1.2.2.2.2.2.1,(Q4 .i64 r2.1.2.2.2.2.2.2.1 1,()))))))),r2.2))) else none) else some (.inr ((a.1.2.1,(a.1.2.2.2.1,())),())))
def K55.F1:K55.l1T:=λa=>Z8 (1000000+(a.1.1.length+a.1.2.2.2.1.length+a.1.2.2.2.2.1.length)) (K55.Q2y K49 K56) a
def K55.QT (cK49:K49.T) (cK56:K56.T) (l1:K55.l1T) (a:((List (Bool))×(List (Option (Qj)))×Int×Int×(Option (Qj))×(List (Int))×Unit)×(Qj×Unit)):Option ((((List (Bool))×(List (Option (Qj)))×Int×Int×(Option (Qj))×(List (Int))×Unit)×(Qj×Unit))⊕((((List (Int))×Int×Unit)×Unit))):=
 (bif ilt a.1.2.2.2.1 (ofN (List.length a.1.2.1)) then (bif inR a.1.2.2.2.1 (List.length a.1.2.1) then (Q0 ((bif Option.isSome (List.getD a.1.2.1 (Int.toNat a.1.2.2.2.1) none) then (bif !Option.isSome a.1.2.2.2.2.1 then some (true,()) else (Q0 (a.1.2.2.2.2.1) none λ(r0:Qj)=>(Q0 (List.getD a.1.2.1 (Int.toNat a.1.2.2.2.1) none) none λr1=>(Q0 (cK49 r0 r1) none λr2=>some (ilt 0 r2.1.1,()))))) else some (false,()))) none λr3=>(Q0 ((bif r3.1 then some ((a.1.1,(a.1.2.1,(a.1.2.2.2.1,(a.1.2.2.2.1,(List.getD a.1.2.1 (Int.toNat a.1.2.2.2.1) none,a.1.2.2.2.2.2))))),a.2) else some a)) none λr4=>some (.inl ((r4.1.1,(r4.1.2.1,(r4.1.2.2.1,(Q4 .i64 r4.1.2.2.2.1 1,r4.1.2.2.2.2)))),r4.2)))) else none) else (Q0 (l1 ((a.1.1,a.1.2.2.1,a.1.2.2.2.2.1,a.1.2.2.2.2.2.1,a.1.2.1,ofN (List.length a.1.2.1),(0:Int),()),a.2)) none λr5=>some (.inr ((r5.1.2.1,(r5.1.1,())),()))))
def K55.F0:K55.l0T:=λa=>Z8 (1000000+(a.1.1.length+a.1.2.1.length+a.1.2.2.2.2.2.1.length)) (K55.QT K49 K56 K55.F1) a
def K55.gen (cK49:K49.T) (cK56:K56.T) (l0:K55.l0T) (l1:K55.l1T):K55.T:=λd0 listening Q3C=>
 (bif le3 (ofN 0) (Z4 false (ofN (List.length Q3C)) 8) (List.length Q3C) then (bif ilt 0 (ofN (List.length (List.drop (Int.toNat (ofN 0)) (List.take (Int.toNat (Z4 false (ofN (List.length Q3C)) 8)) Q3C)))) then (bif inR 0 (List.length (List.drop (Int.toNat (ofN 0)) (List.take (Int.toNat (Z4 false (ofN (List.length Q3C)) 8)) Q3C))) then (Q0 ((bif Option.isSome (List.getD (List.drop (Int.toNat (ofN 0)) (List.take (Int.toNat (Z4 false (ofN (List.length Q3C)) 8)) Q3C)) (Int.toNat 0) none) then some (true,()) else some (false,()))) none λr0=>(Q0 ((bif r0.1 then some ((listening,(List.drop (Int.toNat (ofN 0)) (List.take (Int.toNat (Z4 false (ofN (List.length Q3C)) 8)) Q3C),((0:Int),((0:Int),(List.getD (List.drop (Int.toNat (ofN 0)) (List.take (Int.toNat (Z4 false (ofN (List.length Q3C)) 8)) Q3C)) (Int.toNat 0) none,(Qm Int,())))))),(d0,())) else some ((listening,(List.drop (Int.toNat (ofN 0)) (List.take (Int.toNat (Z4 false (ofN (List.length Q3C)) 8)) Q3C),((-1:Int),((0:Int),(none,(Qm Int,())))))),(d0,())))) none λr1=>(Q0 (l0 ((r1.1.1,r1.1.2.1,r1.1.2.2.1,Q4 .i64 r1.1.2.2.2.1 1,r1.1.2.2.2.2),r1.2)) none λr2=>some (r2.1,((),()))))) else none) else (Q0 (l1 ((listening,(-1:Int),none,Qm Int,List.drop (Int.toNat (ofN 0)) (List.take (Int.toNat (Z4 false (ofN (List.length Q3C)) 8)) Q3C),ofN (List.length (List.drop (Int.toNat (ofN 0)) (List.take (Int.toNat (Z4 false (ofN (List.length Q3C)) 8)) Q3C))),(0:Int),()),d0,())) none λr3=>some ((r3.1.2.1,(r3.1.1,())),((),())))) else none)
def K55:K55.T:=K55.gen K49 K56 K55.F0 K55.F1
theorem K55.seq1 (cK49:K49.T) (cK56:K56.T) (l0:K55.l0T) (l1:K55.l1T) (a:K55.L1.T):run Tryz.prog (K55.H cK49 cK56 l0 l1) 6 (Option (K55.L1.T⊕ExT K55.X1)) none K55.B1 (K55.L1.enc a) (Zj (0,13) K55.L1 K55.X1)=K55.Q2y cK49 cK56 a:=by kernel_rfl
theorem K55.Qeg:Z3 K55.B1=([]:List Code):=by kernel_rfl
abbrev K55.h:=K55.H K49 K56 K55.F0 K55.F1
theorem K55.Q4Q:ZF U Tryz.prog K55.h.ro K55.h.base K55.B1 (Z9 (0,13) K55.L1 K55.X1 K55.F1):=
 Z2Q (Hn:=K55.h) Q5L Q4u (Z1B (Z12 Q5L Q4u mixed (Z0 (Z0 Z2 K49.ok) K56.ok) Z5 Z1W (Z2a λ_=>rfl)) 6) (λb h=>by rw [K55.Qeg] at h;exact h) (λ_=>rfl) (K55.seq1 K49 K56 K55.F0 K55.F1)
theorem K55.Q24 (cK49:K49.T) (cK56:K56.T) (l0:K55.l0T) (l1:K55.l1T) (a:K55.L0.T):run Tryz.prog (K55.H cK49 cK56 l0 l1) 6 (Option (K55.L0.T⊕ExT K55.X0)) none K55.R0 (K55.L0.enc a) (Z2I (0,13) 0 K55.L0 K55.X0)=K55.QT cK49 cK56 l1 a:=by kernel_rfl
theorem K55.Q4B:Z3 K55.R0= [(.loop K55.B1)]:=by kernel_rfl
theorem K55.Q1V:ZQ U Tryz.prog K55.h.ro K55.h.base K55.B0 K55.R0 (Z9 (0,13) K55.L0 K55.X0 K55.F0):=
 Z6v (Hn:=K55.h) (lb:=0) Q5L Q4u (Z1B (Z12 Q5L Q4u mixed (Z0 (Z0 Z2 K49.ok) K56.ok) (Z7 (by kernel_rfl) K55.Q4Q Z5) (Z4Q Z1W) (Z2a λ_=>rfl)) 6) (by kernel_rfl) (λb h=>by rw [K55.Q4B] at h;exact h) (λ_=>rfl) (K55.Q24 K49 K56 K55.F0 K55.F1)
theorem K55.eq (cK49:K49.T) (cK56:K56.T) (l0:K55.l0T) (l1:K55.l1T):EqA K55.sig (K55.H cK49 cK56 l0 l1) Tryz.f134 6 (K55.W (K55.gen cK49 cK56 l0 l1)):=by intro a x;kernel_rfl
theorem K55.loops:Z3 K55.C= [(.scope K55.B0),(.loop K55.B1)]:=by kernel_rfl
theorem K55.hints:Q3Z U Tryz.prog K55.h (λc=>c∈ [(.scope K55.B0),(.loop K55.B1)]):=(Z12 Q5L Q4u mixed (Z0 (Z0 Z2 K49.ok) K56.ok) (Zt (Z7 (by kernel_rfl) K55.Q4Q Z5)) (Z4S (Z6w (r0:=K55.R0) (l0:=0) (by kernel_rfl) (λ_=>rfl) K55.Q1V) (Z4Q Z1W)) (Z2a λ_=>rfl))
theorem K55.ok:Zy U Tryz.prog 134 (K55.sig.native (K55.W K55)):=
 Sig.ok K55.sig (K55.W K55) Q4u (Hn:=K55.h) (code:=K55.C) (gos:=6) K55.hints Tryz.func134 (by kernel_rfl) (by kernel_rfl) (λb h=>by rw [K55.loops] at h;exact h) rfl rfl (by decide) (K55.eq K49 K56 K55.F0 K55.F1) (by decide)
def Q2H.sig:Sig U:=⟨[.data .Q19,.data .Q48],[],0,[.data .Q1G],false,[]⟩
abbrev Q2H.T:Type:=(Qj)->(Q1b)->Option ((QX×Unit)×Unit×Unit)
def Q2H.W (f:Q2H.T):Q2H.sig.F:=λa x=>f a.1 a.2.1
def Q2H.H:Hints U:={ Γ:=noΓ,ro:=0,base:=13}
def Q2H.gen:Q2H.T:=λv t=>
 some ((QX.mk v.Q4G v.Q2x v.Qv v.Q15 v.Q16 (Q4 .i64 v.Q28 1) t,()),((),()))
def Q2H:Q2H.T:=Q2H.gen
theorem Q2H.ok:NK_ 136 Q2H.sig (Q2H.W Q2H):=ok_ (H:=Q2H.H) (n:=6) Tryz.func136 (by intro a x;kernel_rfl) (hn_ Z2)
def Q2r.sig:Sig U:=⟨[.int .i64,.int .i64,.bool,.bool],[],0,[.int .i64],false,[]⟩
abbrev Q2r.T:Type:=(Int)->(Int)->(Bool)->(Bool)->Option ((Int×Unit)×Unit×Unit)
def Q2r.W (f:Q2r.T):Q2r.sig.F:=λa x=>f a.1 a.2.1 a.2.2.1 a.2.2.2.1
def Q2r.H (cK133:Q1h.T) (cK135:Q1P.T):Hints U:={ Γ:=(Q1P.N cK135 (Q1h.N cK133 noΓ)),ro:=0,base:=13,Q1L:=jt_ [(1,[(19,vb_)]),(3,[(25,vb_)]),(14,[(42,vb_)])]}
def Q2r.gen (cK133:Q1h.T) (cK135:Q1P.T):Q2r.T:=λstate decision same slaveOnly=>
 (Q0 ((Q0 (cK133 state) none λr0=>(bif !r0.1.1 then some (true,()) else (bif ilt decision 1 then some (true,()) else some (ilt 6 decision,()))))) none λr1=>(bif r1.1 then some ((state,()),((),())) else (Q0 ((bif slaveOnly then some (ine decision 6,()) else some (false,()))) none λr2=>(bif r2.1 then some (((4:Int),()),((),())) else (bif ieq decision 4 then some (((7:Int),()),((),())) else (bif ieq decision 5 then some (((7:Int),()),((),())) else (bif ieq decision 3 then (bif ine state 6 then some (((5:Int),()),((),())) else some ((state,()),((),()))) else (bif ieq decision 6 then (Q0 ((bif same then (Q0 (cK135 state) none λr3=>some r3.1) else some (false,()))) none λr4=>(bif r4.1 then some ((state,()),((),())) else some (((8:Int),()),((),())))) else some (((6:Int),()),((),()))))))))))
def Q2r:Q2r.T:=Q2r.gen Q1h Q1P
theorem Q2r.eq (cK133:Q1h.T) (cK135:Q1P.T):EqA Q2r.sig (Q2r.H cK133 cK135) Tryz.f137 6 (Q2r.W (Q2r.gen cK133 cK135)):=by intro a x;kernel_rfl
theorem Q2r.ok:NK_ 137 Q2r.sig (Q2r.W Q2r):=ok_ Tryz.func137 (Q2r.eq Q1h Q1P) (hn_ (Z0 (Z0 Z2 Q1h.ok) Q1P.ok))
def Q26.sig:Sig U:=⟨[.ptr],[.obj .Q1j],0,[],true,[]⟩
abbrev Q26.T:Type:=(Qz)->Option (Unit×(Qz×Unit)×Unit)
def Q26.W (f:Q26.T):Q26.sig.F:=λa x=>f x.1
abbrev Q26.N (c:Q26.T):=Qn 164 (Q26.sig.native (Q26.W c))
def Q26.H:Hints U:={ Γ:=noΓ,ro:=0,base:=14}
def Q26.gen:Q26.T:=λh0=>
 some ((),((Qz.mk z2_ z2_ 0 false false,()),()))
def Q26:Q26.T:=Q26.gen
theorem Q26.ok:NK_ 164 Q26.sig (Q26.W Q26):=ok_ (H:=Q26.H) (n:=6) Tryz.func164 (by intro a x;kernel_rfl) (hn_ Z2)
def K58.sig:Sig U:=⟨[.ptr],[.obj .Q10],0,[],true,[]⟩
abbrev K58.T:Type:=(Qg)->Option (Unit×(Qg×Unit)×Unit)
def K58.W (f:K58.T):K58.sig.F:=λa x=>f x.1
abbrev K58.N (c:K58.T):=Qn 165 (K58.sig.native (K58.W c))
def K58.H:Hints U:={ Γ:=noΓ,ro:=0,base:=14}
def K58.gen:K58.T:=λh0=>
 some ((),((Qg.Q9N h0 (QZ.mk 0 0 false false),()),()))
def K58:K58.T:=K58.gen
theorem K58.ok:NK_ 165 K58.sig (K58.W K58):=ok_ (H:=K58.H) (n:=6) Tryz.func165 (by intro a x;kernel_rfl) (hn_ Z2)
def K41.sig:Sig U:=⟨[.ptr,.bool],[.obj .QG,Q4S,Q4L],0,[],true,[]⟩
abbrev K41.T:Type:=(Bool)->(Q5)->(Fm Qg)->(Fm Qz)->Option (Unit×(Q5×(Fm Qg)×(Fm Qz)×Unit)×Unit)
def K41.W (f:K41.T):K41.sig.F:=λa x=>f a.2.1 x.1 x.2.1 x.2.2.1
def K41.C:Code:=match Tryz.f97.body with|some c=>c|none=>.skip
def K41.B0:Code:=match (Z3 K41.C).getD 0 .skip with| .loop b=>b| .scope b=>b|_=>.skip
def K41.JR2:Ql U:= [(.normal,⟨44,14,[(0,.ptr 13 0 0),(1,vb_)],(13,.obj .QG)::hT8_⟩)]
def K41.U0 (cK143:Q26.T) (cK58:K58.T) (cK165:Q2G.T):Hints U:={ Γ:=(Q2G.N cK165 (K58.N cK58 (Q26.N cK143 noΓ))),ro:=0,base:=14,Q2w:=jt_ [(0,K41.JR2),(1,K41.JR2),(2,K41.JR2)],loop:=λb=>none}
def K41.H (cK143:Q26.T) (cK58:K58.T) (cK165:Q2G.T):Hints U:={ Γ:=(Q2G.N cK165 (K58.N cK58 (Q26.N cK143 noΓ))),ro:=0,base:=14,Q2w:=jt_ [(0,K41.JR2),(1,K41.JR2),(2,K41.JR2)],loop:=jt_ [(4,(Z1N Tryz.prog (K41.U0 cK143 cK58 cK165) 6 K41.B0 6))]}
def K41.gen (cK143:Q26.T) (cK58:K58.T) (cK165:Q2G.T):K41.T:=λask h0 g7 g10=>
 (Q0 ((Q0 (h0.12) none λr0=>(Q0 (cK143 (g10.2 r0)) none λr1=>some ((ask,()),(h0,(g7,((g10.1,Qr g10.2 r0 r1.2.1.1),()))))))) none λr2=>(Q0 ((Q0 (r2.2.1.13) none λr3=>(Q0 (cK58 (r2.2.2.1.2 r3)) none λr4=>some (r2.1,(r2.2.1,((r2.2.2.1.1,Qr r2.2.2.1.2 r3 r4.2.1.1),r2.2.2.2)))))) none λr5=>(Q0 (cK165 r5.2.1.Q46) none λr6=>(Q0 (cK165 r5.2.1.Q57) none λr7=>(Q0 (cK165 r5.2.1.Q4J) none λr8=>(Q0 (cK165 r5.2.1.fsync) none λr9=>(bif r5.1.1 then (Q0 (cK165 r5.2.1.Q6S) none λr10=>some ((),((Q5.Q5Q (Q5.Q6i (Q5.Q6t (Q5.Q5a (Q5.Q5m (Q5.Q3V r5.2.1 r6.2.1.1) r7.2.1.1) r8.2.1.1) r9.2.1.1) r10.2.1.1) z5_,r5.2.2),()))) else some ((),((Q5.Q5Q (Q5.Q6t (Q5.Q5a (Q5.Q5m (Q5.Q3V r5.2.1 r6.2.1.1) r7.2.1.1) r8.2.1.1) r9.2.1.1) z5_,r5.2.2),())))))))))
def K41:K41.T:=K41.gen Q26 K58 Q2G
theorem K41.Q4B:Z3 K41.B0= []:=by kernel_rfl
abbrev K41.h:=K41.H Q26 K58 Q2G
theorem K41.Q1V:ZF U Tryz.prog K41.h.ro K41.h.base K41.B0 (Z1N Tryz.prog (K41.U0 Q26 K58 Q2G) 6 K41.B0 6):=
 Z2t (Hn:=(K41.U0 Q26 K58 Q2G)) (L:=λc=>c∈([]:List Code)) (hq (Z0 (Z0 (Z0 Z2 Q26.ok) K58.ok) Q2G.ok) Z5 (λ_=>rfl) (λ_=>rfl)) (λb h=>by rw [K41.Q4B] at h;exact h) 6
theorem K41.eq (cK143:Q26.T) (cK58:K58.T) (cK165:Q2G.T):EqA K41.sig (K41.H cK143 cK58 cK165) Tryz.f97 6 (K41.W (K41.gen cK143 cK58 cK165)):=by intro a x;kernel_rfl
theorem K41.loops:Z3 K41.C= [(.loop K41.B0)]:=by kernel_rfl
theorem K41.ok:NK_ 97 K41.sig (K41.W K41):=ok_ Tryz.func97 (K41.eq Q26 K58 Q2G) (hl_ (Z0 (Z0 (Z0 Z2 Q26.ok) K58.ok) Q2G.ok) (Z7 (by kernel_rfl) K41.Q1V Z5)) K41.loops
def K16.sig:Sig U:=⟨[.ptr,.Q59 0 23 42 8,.data .Q1G],[.obj .Q7],0,[],true,[]⟩
abbrev K16.T:Type:=(Nat)->(QX)->(Q1)->Option (Unit×(Q1×Unit)×Unit)
def K16.W (f:K16.T):K16.sig.F:=λa x=>f a.2.1 a.2.2.1 x.1
def K16.JR8:Ql U:= [(.normal,⟨48,14,[],[(13,.obj .Q7)]⟩)]
def K16.Q9B:Ql U:= [(.normal,⟨48,14,[(0,.ptr 13 0 0),(1,.Q1f 13 23 42 8 0)],[(13,.obj .Q7)]⟩)]
def K16.JC6:Ql U:= [(.normal,⟨48,14,[(0,.ptr 13 0 0),(1,.Q1f 13 23 42 8 0),(16,vb_)],[(13,.obj .Q7)]⟩)]
def K16.H (cK22:K22.T) (cK13:K13.T) (cK164:Q21.T) (cK30:K30.T):Hints U:={ Γ:=(K30.N cK30 (Q21.N cK164 (K13.N cK13 (Qn 131 (K22.sig.native (K22.W cK22)) noΓ)))),ro:=0,base:=14,Q2w:=jt_ [(7,K16.JR8),(8,K16.JR8)],Q23:=jt_ [(6,K16.JC6),(10,K16.Q9B)]}
def K16.gen (cK22:K22.T) (cK13:K13.T) (cK164:Q21.T) (cK30:K30.T):K16.T:=λp parent h0=>
 (bif ieq (h0.Qf p).Q1x 6 then (Q0 ((Q0 (cK22 p h0) none λr0=>some ((),r0.2.1))) none λr1=>some ((),(r1.2,()))) else (bif ieq (h0.Qf p).Q1x 5 then (Q0 ((Q0 (cK13 h0) none λr2=>(Q0 (cK164 (Q3l .i64 (Q4 .i64 parent.Q28 1) r2.1.1) (h0.Qf p).Q57) none λr3=>some ((),(Q1.QU h0 (Qr h0.Qf p (Q5.Q5m (h0.Qf p) r3.2.1.1)),()))))) none λr4=>some ((),(r4.2,()))) else (bif ieq (h0.Qf p).Q1x 8 then (Q0 ((bif !h0.Qs.Q4o then (Q0 (cK164 1 (h0.Qf p).Q6S) none λr5=>some ((p,()),(Q1.QU h0 (Qr h0.Qf p (Q5.Q6i (h0.Qf p) r5.2.1.1)),()))) else some ((p,()),(h0,())))) none λr6=>(Q0 (cK30 r6.2.1) none λr7=>(Q0 (cK164 r7.1.1 (r6.2.1.Qf r6.1.1).Q46) none λr8=>some ((),((Q1.QU r6.2.1 (Qr r6.2.1.Qf r6.1.1 (Q5.Q3V (r6.2.1.Qf r6.1.1) r8.2.1.1)),()),()))))) else (Q0 ((bif ieq (h0.Qf p).Q1x 7 then some ((p,(ieq (h0.Qf p).Q1x 7,())),(h0,())) else some ((p,(ieq (h0.Qf p).Q1x 4,())),(h0,())))) none λr9=>(bif r9.1.2.1 then (Q0 (cK30 r9.2.1) none λr10=>(Q0 (cK164 r10.1.1 (r9.2.1.Qf r9.1.1).Q46) none λr11=>some ((),((Q1.QU r9.2.1 (Qr r9.2.1.Qf r9.1.1 (Q5.Q3V (r9.2.1.Qf r9.1.1) r11.2.1.1)),()),())))) else some ((),(r9.2,())))))))
def K16:K16.T:=K16.gen K22 K13 Q21 K30
theorem K16.eq (cK22:K22.T) (cK13:K13.T) (cK164:Q21.T) (cK30:K30.T):EqA K16.sig (K16.H cK22 cK13 cK164 cK30) Tryz.f138 6 (K16.W (K16.gen cK22 cK13 cK164 cK30)):=by intro a x;kernel_rfl
theorem K16.ok:NK_ 138 K16.sig (K16.W K16):=ok_ Tryz.func138 (K16.eq K22 K13 Q21 K30) (hn_ (Z0 (Z0 (Z0 (Z0 Z2 K22.ok) K13.ok) Q21.ok) K30.ok))
def K96.sig:Sig U:=⟨[.ptr],[.obj .Q18],0,[],true,[]⟩
abbrev K96.T:Type:=(Qh)->Option (Unit×(Qh×Unit)×Unit)
def K96.W (f:K96.T):K96.sig.F:=λa x=>f x.1
def K96.H:Hints U:={ Γ:=noΓ,ro:=0,base:=14}
def K96.gen:K96.T:=λh0=>
 some ((),((Qh.Q80 h0 0,()),()))
def K96:K96.T:=K96.gen
theorem K96.ok:NK_ 139 K96.sig (K96.W K96):=ok_ (H:=K96.H) (n:=6) Tryz.func139 (by intro a x;kernel_rfl) (hn_ Z2)
def K20.sig:Sig U:=⟨[.ptr],[.obj .Q7,Q5c,Q4S,Q5y,Q4L],0,[],true,[]⟩
abbrev K20.T:Type:=(Q1)->(Fm Qe)->(Fm Qg)->(Fm Qh)->(Fm Qz)->Option (Unit×(Q1×Q6K)×Unit)
def K20.W (f:K20.T):K20.sig.F:=λa x=>f x.1 x.2.1 x.2.2.1 x.2.2.2.1 x.2.2.2.2.1
def K20.L0:Shape U:=⟨200,17,[(0,.ptr 13 0 0),(2,.ptr 14 0 0),(3,.ptr 15 0 0),(4,.ptr 16 0 0),(5,.asl 13 23 42 8),(30,vi_),(31,vi_)],(13,.obj .Q7)::(14,.Q6x .QA)::(15,.Q1R true .Q1K)::(16,.Q1R true .bool)::Q5M⟩
def K20.X0:Ql U:= [(.exit 0,⟨200,17,[(0,.ptr 13 0 0),(2,.ptr 14 0 0),(3,.ptr 15 0 0),(4,.ptr 16 0 0),(5,.asl 13 23 42 8)],(13,.obj .Q7)::(14,.Q6x .QA)::(15,.Q1R true .Q1K)::(16,.Q1R true .bool)::Q5M⟩)]
abbrev K20.l0T:Type:=(((Nat×Nat)×Int×Int×Unit)×(Q1×(Nat×Nat×(Nat->Qc))×(Nat×(Nat->Option (Qj)))×Q9W))->Option ((((Nat×Nat)×Unit)×(Q1×(Nat×Nat×(Nat->Qc))×(Nat×(Nat->Option (Qj)))×Q9W)))
def K20.L1:Shape U:=⟨200,16,[(0,.ptr 13 0 0),(2,.ptr 14 0 0),(5,.asl 13 23 42 8),(10,.val (.isl .int)),(12,.ptr 15 0 0),(92,.val (.isl .int)),(93,vi_),(94,vi_)],(13,.obj .Q7)::(14,.Q6x .QA)::(15,.obj .Q1G)::Q5M⟩
def K20.X1:Ql U:= [(.exit 2,⟨200,15,[(0,.ptr 13 0 0),(5,.asl 13 23 42 8),(10,.val (.isl .int)),(12,.ptr 14 0 0)],(13,.obj .Q7)::(14,.obj .Q1G)::Q5M⟩)]
abbrev K20.l1T:Type:=(((Nat×Nat)×(List (Int))×(List (Int))×Int×Int×Unit)×(Q1×(Nat×Nat×(Nat->Qc))×QX×Q6K))->Option ((((Nat×Nat)×(List (Int))×Unit)×(Q1×QX×Q6K)))
def K20.L2:Shape U:=⟨200,15,[(0,.ptr 13 0 0),(5,.asl 13 23 42 8),(12,.ptr 14 0 0),(15,vb_),(119,.val (.isl .int)),(120,vi_),(121,vi_)],(13,.obj .Q7)::(14,.obj .Q1G)::Q5M⟩
def K20.X2:Ql U:= [(.exit 4,⟨200,15,[(0,.ptr 13 0 0),(12,.ptr 14 0 0),(15,vb_)],(13,.obj .Q7)::(14,.obj .Q1G)::Q5M⟩)]
abbrev K20.l2T:Type:=(((Nat×Nat)×Bool×(List (Int))×Int×Int×Unit)×(Q1×QX×Q6K))->Option (((Bool×Unit)×(Q1×QX×Q6K)))
def K20.C:Code:=match Tryz.f71.body with|some c=>c|none=>.skip
def K20.B0:Code:=match (Z3 K20.C).getD 0 .skip with| .loop b=>b| .scope b=>b|_=>.skip
def K20.B1:Code:=match (Z3 K20.C).getD 1 .skip with| .loop b=>b| .scope b=>b|_=>.skip
def K20.B2:Code:=match (Z3 K20.C).getD 2 .skip with| .loop b=>b| .scope b=>b|_=>.skip
def K20.JR35:Ql U:= [(.normal,⟨200,15,[(0,.ptr 13 0 0),(12,.ptr 14 0 0)],(13,.obj .Q7)::(14,.obj .Q1G)::Q5M⟩)]
def K20.JR31:Ql U:= [(.normal,⟨200,15,[(0,.ptr 13 0 0),(5,.asl 13 23 42 8),(12,.ptr 14 0 0),(15,vb_),(18,.Q1f 13 23 42 8 0),(119,.val (.isl .int)),(120,vi_),(121,vi_)],(13,.obj .Q7)::(14,.obj .Q1G)::Q5M⟩)]
def K20.JR29:Ql U:= [(.normal,⟨200,15,[(0,.ptr 13 0 0),(5,.asl 13 23 42 8),(12,.ptr 14 0 0),(15,vb_),(17,vi_),(18,.Q1f 13 23 42 8 0),(19,vi_),(119,.val (.isl .int)),(120,vi_),(121,vi_)],(13,.obj .Q7)::(14,.obj .Q1G)::Q5M⟩)]
def K20.Q96:Ql U:= [(.normal,⟨200,16,[(0,.ptr 13 0 0),(2,.ptr 14 0 0),(5,.asl 13 23 42 8),(10,.val (.isl .int)),(12,.ptr 15 0 0)],(13,.obj .Q7)::(14,.Q6x .QA)::(15,.obj .Q1G)::Q5M⟩)]
def K20.Q8v:Ql U:= [(.normal,⟨200,17,[(0,.ptr 13 0 0),(2,.ptr 14 0 0),(3,.ptr 15 0 0),(4,.ptr 16 0 0),(5,.asl 13 23 42 8),(6,vi_),(9,vb_),(30,vi_),(31,vi_)],(13,.obj .Q7)::(14,.Q6x .QA)::(15,.Q1R true .Q1K)::(16,.Q1R true .bool)::Q5M⟩)]
def K20.JR9:Ql U:= [(.normal,⟨200,18,[(0,.ptr 13 0 0),(2,.ptr 14 0 0),(3,.ptr 15 0 0),(4,.ptr 16 0 0),(5,.asl 13 23 42 8),(6,vi_),(7,.Q1f 13 23 42 8 0),(8,.ptr 17 0 0),(9,vb_),(30,vi_),(31,vi_)],(13,.obj .Q7)::(14,.Q6x .QA)::(15,.Q1R true .Q1K)::(16,.Q1R true .bool)::(17,.obj .QA)::Q5M⟩)]
def K20.JC31:Ql U:= [(.normal,⟨200,15,[(0,.ptr 13 0 0),(5,.asl 13 23 42 8),(12,.ptr 14 0 0),(15,vb_),(119,.val (.isl .int)),(120,vi_),(121,vi_)],(13,.obj .Q7)::(14,.obj .Q1G)::Q5M⟩)]
def K20.JC20:Ql U:= [(.normal,⟨200,16,[(0,.ptr 13 0 0),(2,.ptr 14 0 0),(5,.asl 13 23 42 8),(10,.val (.isl .int)),(12,.ptr 15 0 0),(92,.val (.isl .int)),(93,vi_),(94,vi_)],(13,.obj .Q7)::(14,.Q6x .QA)::(15,.obj .Q1G)::Q5M⟩)]
def K20.JC12:Ql U:= [(.normal,⟨200,17,[(0,.ptr 13 0 0),(2,.ptr 14 0 0),(3,.ptr 15 0 0),(4,.ptr 16 0 0),(5,.asl 13 23 42 8),(30,vi_),(31,vi_)],(13,.obj .Q7)::(14,.Q6x .QA)::(15,.Q1R true .Q1K)::(16,.Q1R true .bool)::Q5M⟩)]
def K20.H (cK133:Q1h.T) (cK65:K65.T) (cK51:K51.T) (cK55:K55.T) (cK179:Q1E.T) (cK178:Q2H.T) (cK134:Q2r.T) (cK41:K41.T) (cK16:K16.T) (cK96:K96.T) (l0:K20.l0T) (l1:K20.l1T) (l2:K20.l2T):Hints U:={ Γ:=(Qn 139 (K96.sig.native (K96.W cK96)) (Qn 138 (K16.sig.native (K16.W cK16)) (Qn 97 (K41.sig.native (K41.W cK41)) (Qn 137 (Q2r.sig.native (Q2r.W cK134)) (Qn 136 (Q2H.sig.native (Q2H.W cK178)) (Q1E.N cK179 (Qn 134 (K55.sig.native (K55.W cK55)) (Qn 135 (K51.sig.native (K51.W cK51)) (Qn 133 (K65.sig.native (K65.W cK65)) (Q1h.N cK133 (Qn 3000000228 Z16 (Qn 3000000227 Z16 (Qn 4000000213 Z16 noΓ))))))))))))),ro:=0,base:=14,Q1L:=jt_ [(30,[(171,vb_)])],Q2w:=jt_ [(9,K20.JR9),(10,K20.Q8v),(15,K20.Q96),(29,K20.JR29),(31,K20.JR31),(35,K20.JR35)],Q23:=jt_ [(12,K20.JC12),(20,K20.JC20),(31,K20.JC31),(35,K20.JR35)],loop:=jt_ [(5,(Z9 (0,14) K20.L0 K20.X0 l0)),(17,(Z9 (0,14) K20.L1 K20.X1 l1)),(24,(Z9 (0,14) K20.L2 K20.X2 l2))]}
def K20.Qaz (cK133:Q1h.T) (cK65:K65.T) (cK51:K51.T) (cK55:K55.T) (cK179:Q1E.T) (cK178:Q2H.T) (cK134:Q2r.T) (cK41:K41.T) (cK16:K16.T) (cK96:K96.T) (a:((Nat×Nat)×Bool×(List (Int))×Int×Int×Unit)×(Q1×QX×Q6K)):Option ((((Nat×Nat)×Bool×(List (Int))×Int×Int×Unit)×(Q1×QX×Q6K))⊕(((Bool×Unit)×(Q1×QX×Q6K)))):=
 (bif ilt a.1.2.2.2.2.1 a.1.2.2.2.1 then (bif inR a.1.2.2.2.2.1 (List.length a.1.2.2.1) then (bif inR a.1.2.2.2.2.1 a.1.1.2 then (Q0 (cK133 (a.2.1.Qf (a.1.1.1+Int.toNat a.1.2.2.2.2.1)).Q1x) none λr0=>(bif !r0.1.1 then some (.inl ((a.1.1,(a.1.2.1,(a.1.2.2.1,(a.1.2.2.2.1,(Q4 .i64 a.1.2.2.2.2.1 1,()))))),a.2)) else (Q0 ((Q0 (cK134 (a.2.1.Qf (a.1.1.1+Int.toNat a.1.2.2.2.2.1)).Q1x (List.getD a.1.2.2.1 (Int.toNat a.1.2.2.2.2.1) (0:D UC.int)) a.1.2.1 a.2.1.Qs.Q2s) none λr1=>some ((a.1.1,(a.1.2.1,(List.getD a.1.2.2.1 (Int.toNat a.1.2.2.2.2.1) (0:D UC.int),(a.1.1.1+Int.toNat a.1.2.2.2.2.1,((a.2.1.Qf (a.1.1.1+Int.toNat a.1.2.2.2.2.1)).Q1x,a.1.2.2))))),(Q1.QU a.2.1 (Qr a.2.1.Qf (a.1.1.1+Int.toNat a.1.2.2.2.2.1) (Q5.Q3D (a.2.1.Qf (a.1.1.1+Int.toNat a.1.2.2.2.2.1)) r1.1.1)),a.2.2)))) none λr2=>(Q0 ((bif ine (r2.2.1.Qf r2.1.2.2.2.1).Q1x r2.1.2.2.2.2.1 then some (true,()) else (bif ieq (r2.2.1.Qf r2.1.2.2.2.1).Q1x 8 then (bif ieq r2.1.2.2.1 6 then some (!r2.1.2.1,()) else some (false,())) else some (false,())))) none λr3=>(Q0 ((bif r3.1 then (Q0 ((Q0 (cK41 (!r2.2.1.Qs.Q4o) (r2.2.1.Qf r2.1.2.2.2.1) r2.2.2.2.2.1 r2.2.2.2.2.2.2.1) none λr4=>some ((r2.1.1,(r2.1.2.1,(r2.1.2.2.2.1,r2.1.2.2.2.2.2))),(Q1.QU r2.2.1 (Qr r2.2.1.Qf r2.1.2.2.2.1 r4.2.1.1),(r2.2.2.1,(r2.2.2.2.1,(r4.2.1.2.1,(r2.2.2.2.2.2.1,r4.2.1.2.2)))))))) none λr5=>(Q0 (cK16 r5.1.2.2.1 r5.2.2.1 r5.2.1) none λr6=>some ((r5.1.1,(r5.1.2.1,r5.1.2.2.2)),(r6.2.1.1,r5.2.2)))) else some ((r2.1.1,(r2.1.2.1,r2.1.2.2.2.2.2)),r2.2))) none λr7=>some (.inl ((r7.1.1,(r7.1.2.1,(r7.1.2.2.1,(r7.1.2.2.2.1,(Q4 .i64 r7.1.2.2.2.2.1 1,()))))),r7.2))))))) else none) else none) else some (.inr ((a.1.2.1,()),a.2)))
def K20.F2:K20.l2T:=λa=>Z8 (1000000+(a.1.1.2+a.1.2.2.1.length)) (K20.Qaz Q1h K65 K51 K55 Q1E Q2H Q2r K41 K16 K96) a
def K20.Q2y (cK133:Q1h.T) (cK65:K65.T) (cK51:K51.T) (cK55:K55.T) (cK179:Q1E.T) (cK178:Q2H.T) (cK134:Q2r.T) (cK41:K41.T) (cK16:K16.T) (cK96:K96.T) (a:((Nat×Nat)×(List (Int))×(List (Int))×Int×Int×Unit)×(Q1×(Nat×Nat×(Nat->Qc))×QX×Q6K)):Option ((((Nat×Nat)×(List (Int))×(List (Int))×Int×Int×Unit)×(Q1×(Nat×Nat×(Nat->Qc))×QX×Q6K))⊕((((Nat×Nat)×(List (Int))×Unit)×(Q1×QX×Q6K)))):=
 (bif ilt a.1.2.2.2.2.1 a.1.2.2.2.1 then (bif inR a.1.2.2.2.2.1 (List.length a.1.2.2.1) then (Q0 ((bif ieq (List.getD a.1.2.2.1 (Int.toNat a.1.2.2.2.2.1) (0:D UC.int)) 6 then (bif bif inR a.1.2.2.2.2.1 8 then inR a.1.2.2.2.2.1 a.2.2.1.1 else false then (bif bif inR a.1.2.2.2.2.1 8 then inR a.1.2.2.2.2.1 a.2.2.1.1 else false then (Q0 (cK178 (a.2.2.1.2.2 (Int.toNat a.1.2.2.2.2.1)).Q3g (a.2.2.1.2.2 (Int.toNat a.1.2.2.2.2.1)).Q1e) none λr0=>some (a.1,(a.2.1,(a.2.2.1,(r0.1.1,a.2.2.2.2))))) else none) else none) else some a)) none λr1=>some (.inl ((r1.1.1,(r1.1.2.1,(r1.1.2.2.1,(r1.1.2.2.2.1,(Q4 .i64 r1.1.2.2.2.2.1 1,()))))),r1.2))) else none) else some (.inr ((a.1.1,(a.1.2.1,())),(a.2.1,a.2.2.2))))
def K20.F1:K20.l1T:=λa=>Z8 (1000000+(a.1.1.2+a.1.2.1.length+a.1.2.2.1.length)) (K20.Q2y Q1h K65 K51 K55 Q1E Q2H Q2r K41 K16 K96) a
def K20.QT (cK133:Q1h.T) (cK65:K65.T) (cK51:K51.T) (cK55:K55.T) (cK179:Q1E.T) (cK178:Q2H.T) (cK134:Q2r.T) (cK41:K41.T) (cK16:K16.T) (cK96:K96.T) (a:((Nat×Nat)×Int×Int×Unit)×(Q1×(Nat×Nat×(Nat->Qc))×(Nat×(Nat->Option (Qj)))×Q9W)):Option ((((Nat×Nat)×Int×Int×Unit)×(Q1×(Nat×Nat×(Nat->Qc))×(Nat×(Nat->Option (Qj)))×Q9W))⊕((((Nat×Nat)×Unit)×(Q1×(Nat×Nat×(Nat->Qc))×(Nat×(Nat->Option (Qj)))×Q9W)))):=
 (bif ilt a.1.2.2.1 a.1.2.1 then (bif inR a.1.2.2.1 a.1.1.2 then (Q0 (cK133 (a.2.1.Qf (a.1.1.1+Int.toNat a.1.2.2.1)).Q1x) none λr0=>(bif !r0.1.1 then some (.inl ((a.1.1,(a.1.2.1,(Q4 .i64 a.1.2.2.1 1,()))),a.2)) else (Q0 ((Q0 ((a.2.1.Qf (a.1.1.1+Int.toNat a.1.2.2.1)).2) none λr1=>(Q0 (cK65 a.2.1.Q5p (a.2.2.2.2.2.1.2 r1)) none λr2=>some ((a.1.1,(a.1.2.2.1,(a.1.1.1+Int.toNat a.1.2.2.1,(r2.1.2.1,a.1.2)))),(a.2.1,(a.2.2.1,(a.2.2.2.1,(a.2.2.2.2.1,(r2.1.1,a.2.2.2.2.2))))))))) none λr3=>(Q0 ((bif bif inR r3.1.2.1 8 then inR r3.1.2.1 r3.2.2.1.1 else false then (bif Nat.ble r3.2.2.1.2.1 (Int.toNat r3.1.2.1) then (bif bif inR r3.1.2.1 8 then inR r3.1.2.1 r3.2.2.2.2.1.1 else false then some ((r3.1.1,(r3.1.2.1,r3.1.2.2.2)),(r3.2.1,((r3.2.2.1.1,(r3.2.2.1.2.1,Qr r3.2.2.1.2.2 (Int.toNat r3.1.2.1) r3.2.2.2.2.2.1)),(r3.2.2.2.1,((r3.2.2.2.2.1.1,Qr r3.2.2.2.2.1.2 (Int.toNat r3.1.2.1) (ieq (r3.2.1.Qf r3.1.2.2.1).Q1x 4)),r3.2.2.2.2.2.2))))) else none) else none) else none)) none λr4=>(Q0 ((bif r4.1.2.2.1 then (bif bif inR r4.1.2.1 8 then inR r4.1.2.1 r4.2.2.1.1 else false then (bif bif inR r4.1.2.1 8 then inR r4.1.2.1 r4.2.2.2.1.1 else false then some ((r4.1.1,r4.1.2.2.2),(r4.2.1,((r4.2.2.1.1,(Nat.max r4.2.2.1.2.1 (Int.toNat r4.1.2.1+1),r4.2.2.1.2.2)),((r4.2.2.2.1.1,Qr r4.2.2.2.1.2 (Int.toNat r4.1.2.1) (some (r4.2.2.1.2.2 (Int.toNat r4.1.2.1)).Q3g)),r4.2.2.2.2)))) else none) else none) else some ((r4.1.1,r4.1.2.2.2),r4.2))) none λr5=>some (.inl ((r5.1.1,(r5.1.2.1,(Q4 .i64 r5.1.2.2.1 1,()))),r5.2))))))) else none) else some (.inr ((a.1.1,()),a.2)))
def K20.F0:K20.l0T:=λa=>Z8 (1000000+(a.1.1.2)) (K20.QT Q1h K65 K51 K55 Q1E Q2H Q2r K41 K16 K96) a
def K20.gen (cK133:Q1h.T) (cK65:K65.T) (cK51:K51.T) (cK55:K55.T) (cK179:Q1E.T) (cK178:Q2H.T) (cK134:Q2r.T) (cK41:K41.T) (cK16:K16.T) (cK96:K96.T) (l0:K20.l0T) (l1:K20.l1T) (l2:K20.l2T):K20.T:=λh0 g6 g7 g9 g10=>
 (bif le3 (ofN 0) h0.Qs.QB 8 then (Q0 (l0 (((Int.toNat (ofN 0),Int.toNat h0.Qs.QB - Int.toNat (ofN 0)),ofN (Int.toNat h0.Qs.QB - Int.toNat (ofN 0)),(0:Int),()),h0,(8,0,λ(j:Nat)=>List.getD (Qc.mk z6_ z4_ 0 0 0::Qc.mk z6_ z4_ 0 0 0::Qc.mk z6_ z4_ 0 0 0::Qc.mk z6_ z4_ 0 0 0::Qc.mk z6_ z4_ 0 0 0::Qc.mk z6_ z4_ 0 0 0::Qc.mk z6_ z4_ 0 0 0::Qc.mk z6_ z4_ 0 0 0::Qm Qc) j Qc.zero),(8,λ(j:Nat)=>List.getD (none::none::none::none::none::none::none::none::Qm (Option Qj)) j none),(8,λ(j:Nat)=>List.getD (false::false::false::false::false::false::false::false::Qm Bool) j false),g6,g7,g9,g10,())) none λr0=>(Q0 (cK51 r0.2.1.Qs) none λr1=>(bif bif le3 0 (ofN r0.1.1.2) 8 then le3 0 (ofN r0.1.1.2) r0.2.2.2.2.1.1 else false then (bif bif le3 0 (ofN r0.1.1.2) 8 then le3 0 (ofN r0.1.1.2) r0.2.2.2.1.1 else false then (Q0 (cK55 r1.1.1 (List.map r0.2.2.2.2.1.2 (List.range (Int.toNat (ofN r0.1.1.2)))) (List.map r0.2.2.2.1.2 (List.range (Int.toNat (ofN r0.1.1.2))))) none λr2=>(Q0 ((Q0 (cK179 r0.2.1.Qs) none λr3=>some ((r0.1.1,(r2.1.1,())),(r0.2.1,(r0.2.2.1,(r3.1.1,r0.2.2.2.2.2)))))) none λr4=>(Q0 (l1 ((r4.1.1,r4.1.2.1,r4.1.2.1,ofN (List.length r4.1.2.1),(0:Int),()),r4.2)) none λr5=>(Q0 (l2 ((r5.1.1,bif ieq r5.2.2.1.QR.QI r5.2.1.Q2b.QR.QI then bif ieq r5.2.2.1.QR.QR r5.2.1.Q2b.QR.QR then true else false else false,r5.1.2.1,ofN (List.length r5.1.2.1),(0:Int),()),r5.2)) none λr6=>(Q0 ((bif !r6.1.1 then (Q0 ((Q0 (r6.2.1.6) none λr7=>(Q0 (cK96 (r6.2.2.2.2.2.1.2 r7)) none λr8=>some ((),(r6.2.1,(r6.2.2.1,(r6.2.2.2.1,(r6.2.2.2.2.1,((r6.2.2.2.2.2.1.1,Qr r6.2.2.2.2.2.1.2 r7 r8.2.1.1),r6.2.2.2.2.2.2))))))))) none λr9=>some ((),(Q1.Q6D r9.2.1 z5_,r9.2.2))) else some ((),r6.2))) none λr10=>some ((),((Q1.Q49 r10.2.1 r10.2.2.1,r10.2.2.2),()))))))) else none) else none))) else none)
def K20:K20.T:=K20.gen Q1h K65 K51 K55 Q1E Q2H Q2r K41 K16 K96 K20.F0 K20.F1 K20.F2
theorem K20.seq2 (cK133:Q1h.T) (cK65:K65.T) (cK51:K51.T) (cK55:K55.T) (cK179:Q1E.T) (cK178:Q2H.T) (cK134:Q2r.T) (cK41:K41.T) (cK16:K16.T) (cK96:K96.T) (l0:K20.l0T) (l1:K20.l1T) (l2:K20.l2T) (a:K20.L2.T):run Tryz.prog (K20.H cK133 cK65 cK51 cK55 cK179 cK178 cK134 cK41 cK16 cK96 l0 l1 l2) 6 (Option (K20.L2.T⊕ExT K20.X2)) none K20.B2 (K20.L2.enc a) (Zj (0,14) K20.L2 K20.X2)=K20.Qaz cK133 cK65 cK51 cK55 cK179 cK178 cK134 cK41 cK16 cK96 a:=by kernel_rfl
abbrev K20.h:=K20.H Q1h K65 K51 K55 Q1E Q2H Q2r K41 K16 K96 K20.F0 K20.F1 K20.F2
theorem K20.lok2:LO_ K20.h K20.B2 (Z9 (0,14) K20.L2 K20.X2 K20.F2):=lk_ (hn_ (Z0 (Z0 (Z0 (Z0 (Z0 (Z0 (Z0 (Z0 (Z0 (Z0 (Z0 (Z0 (Z0 Z2 Zd) Zd) Zd) Q1h.ok) K65.ok) K51.ok) K55.ok) Q1E.ok) Q2H.ok) Q2r.ok) K41.ok) K16.ok) K96.ok)) (K20.seq2 Q1h K65 K51 K55 Q1E Q2H Q2r K41 K16 K96 K20.F0 K20.F1 K20.F2)
theorem K20.seq1 (cK133:Q1h.T) (cK65:K65.T) (cK51:K51.T) (cK55:K55.T) (cK179:Q1E.T) (cK178:Q2H.T) (cK134:Q2r.T) (cK41:K41.T) (cK16:K16.T) (cK96:K96.T) (l0:K20.l0T) (l1:K20.l1T) (l2:K20.l2T) (a:K20.L1.T):run Tryz.prog (K20.H cK133 cK65 cK51 cK55 cK179 cK178 cK134 cK41 cK16 cK96 l0 l1 l2) 6 (Option (K20.L1.T⊕ExT K20.X1)) none K20.B1 (K20.L1.enc a) (Zj (0,14) K20.L1 K20.X1)=K20.Q2y cK133 cK65 cK51 cK55 cK179 cK178 cK134 cK41 cK16 cK96 a:=by kernel_rfl
theorem K20.Q4Q:LO_ K20.h K20.B1 (Z9 (0,14) K20.L1 K20.X1 K20.F1):=lk_ (hn_ (Z0 (Z0 (Z0 (Z0 (Z0 (Z0 (Z0 (Z0 (Z0 (Z0 (Z0 (Z0 (Z0 Z2 Zd) Zd) Zd) Q1h.ok) K65.ok) K51.ok) K55.ok) Q1E.ok) Q2H.ok) Q2r.ok) K41.ok) K16.ok) K96.ok)) (K20.seq1 Q1h K65 K51 K55 Q1E Q2H Q2r K41 K16 K96 K20.F0 K20.F1 K20.F2)
theorem K20.Q24 (cK133:Q1h.T) (cK65:K65.T) (cK51:K51.T) (cK55:K55.T) (cK179:Q1E.T) (cK178:Q2H.T) (cK134:Q2r.T) (cK41:K41.T) (cK16:K16.T) (cK96:K96.T) (l0:K20.l0T) (l1:K20.l1T) (l2:K20.l2T) (a:K20.L0.T):run Tryz.prog (K20.H cK133 cK65 cK51 cK55 cK179 cK178 cK134 cK41 cK16 cK96 l0 l1 l2) 6 (Option (K20.L0.T⊕ExT K20.X0)) none K20.B0 (K20.L0.enc a) (Zj (0,14) K20.L0 K20.X0)=K20.QT cK133 cK65 cK51 cK55 cK179 cK178 cK134 cK41 cK16 cK96 a:=by kernel_rfl
theorem K20.Q1V:LO_ K20.h K20.B0 (Z9 (0,14) K20.L0 K20.X0 K20.F0):=lk_ (hn_ (Z0 (Z0 (Z0 (Z0 (Z0 (Z0 (Z0 (Z0 (Z0 (Z0 (Z0 (Z0 (Z0 Z2 Zd) Zd) Zd) Q1h.ok) K65.ok) K51.ok) K55.ok) Q1E.ok) Q2H.ok) Q2r.ok) K41.ok) K16.ok) K96.ok)) (K20.Q24 Q1h K65 K51 K55 Q1E Q2H Q2r K41 K16 K96 K20.F0 K20.F1 K20.F2)
theorem K20.eq (cK133:Q1h.T) (cK65:K65.T) (cK51:K51.T) (cK55:K55.T) (cK179:Q1E.T) (cK178:Q2H.T) (cK134:Q2r.T) (cK41:K41.T) (cK16:K16.T) (cK96:K96.T) (l0:K20.l0T) (l1:K20.l1T) (l2:K20.l2T):EqA K20.sig (K20.H cK133 cK65 cK51 cK55 cK179 cK178 cK134 cK41 cK16 cK96 l0 l1 l2) Tryz.f71 6 (K20.W (K20.gen cK133 cK65 cK51 cK55 cK179 cK178 cK134 cK41 cK16 cK96 l0 l1 l2)):=by intro a x;kernel_rfl
theorem K20.loops:Z3 K20.C= [(.loop K20.B0),(.loop K20.B1),(.loop K20.B2)]:=by kernel_rfl
theorem K20.ok:NK_ 71 K20.sig (K20.W K20):=ok_ Tryz.func71 (K20.eq Q1h K65 K51 K55 Q1E Q2H Q2r K41 K16 K96 K20.F0 K20.F1 K20.F2) (hl_ (Z0 (Z0 (Z0 (Z0 (Z0 (Z0 (Z0 (Z0 (Z0 (Z0 (Z0 (Z0 (Z0 Z2 Zd) Zd) Zd) Q1h.ok) K65.ok) K51.ok) K55.ok) Q1E.ok) Q2H.ok) Q2r.ok) K41.ok) K16.ok) K96.ok) (Z7 (by kernel_rfl) K20.Q1V (Z7 (by kernel_rfl) K20.Q4Q (Z7 (by kernel_rfl) K20.lok2 Z5)))) K20.loops
def Q4k.sig:Sig U:=⟨[.data .Q1d,.data .Q1G,.int .i64,.int .i64],[],0,[.data .Qk],false,[]⟩
abbrev Q4k.T:Type:=(Q9)->(QX)->(Int)->(Int)->Option ((Q8×Unit)×Unit×Unit)
def Q4k.W (f:Q4k.T):Q4k.sig.F:=λa x=>f a.1 a.2.1 a.2.2.1 a.2.2.2.1
def Q4k.H:Hints U:={ Γ:=noΓ,ro:=0,base:=13}
def Q4k.gen:Q4k.T:=λc p port seq=>
 some ((Q8.mk 11 c.Q1D p.Q1e.Q1Y 0 (Qd.mk c.QI port) seq c.Q45 0 z0_ p.Q1e.Q3a p.Q15 p.Qv p.Q16 p.Q2x p.Q28 p.Q1e.Q1Q 0 0 0,()),((),()))
def Q4k:Q4k.T:=Q4k.gen
theorem Q4k.ok:NK_ 140 Q4k.sig (Q4k.W Q4k):=ok_ (H:=Q4k.H) (n:=6) Tryz.func140 (by intro a x;kernel_rfl) (hn_ Z2)
def QD.sig:Sig U:=⟨[.isl .u8,.int .i64,.int .i64],[],0,[.own .u8],false,[.tok]⟩
abbrev QD.T:Type:=(List (UInt8))->(Int)->(Int)->Option (((List (UInt8))×Unit)×Unit×(Unit×Unit))
def QD.W (f:QD.T):QD.sig.F:=λa x=>f a.1 a.2.1 a.2.2.1
abbrev QD.N (c:QD.T):=Qn 100 (QD.sig.native (QD.W c))
def QD.L0:Shape U:=⟨30,14,[(0,.own .u8 13),(1,vi_),(7,vi_)],[(13,.tok)]⟩
def QD.X0:Ql U:= [(.ret,⟨30,14,[(6,.own .u8 13)],[(13,.tok)]⟩)]
abbrev QD.l0T:Type:=(((List (UInt8))×Int×Int×Unit)×Unit)->Option ((((List (UInt8))×Unit)×Unit))
def QD.C:Code:=match Tryz.f100.body with|some c=>c|none=>.skip
def QD.B0:Code:=match (Z3 QD.C).getD 0 .skip with| .loop b=>b| .scope b=>b|_=>.skip
def QD.R0:Code:=(findLabel QD.B0 0).getD .skip
def QD.H (l0:QD.l0T):Hints U:={ Γ:=(Qn 6000000029 Z16 noΓ),ro:=0,base:=13,label:=λb=>bif Nat.beq b 0 then some (Z9 (0,13) QD.L0 QD.X0 l0) else none,gotos:=3,loop:=λb=>none}
def QD.QT (a:((List (UInt8))×Int×Int×Unit)×Unit):Option ((((List (UInt8))×Int×Int×Unit)×Unit)⊕((((List (UInt8))×Unit)×Unit))):=
 (bif ilt 0 a.1.2.2.1 then (bif ile 0 (Q3l .i64 8 (Q1s .i64 a.1.2.2.1 1)) then (bif room (List.length a.1.1+List.length (UInt8.ofNat (Int.toNat (IntKind.wrap .u8 (Q5N .i64 a.1.2.1 (Q3l .i64 8 (Q1s .i64 a.1.2.2.1 1)))))::Qm UInt8)) 1 then some (.inl ((a.1.1++UInt8.ofNat (Int.toNat (IntKind.wrap .u8 (Q5N .i64 a.1.2.1 (Q3l .i64 8 (Q1s .i64 a.1.2.2.1 1)))))::Qm UInt8,(a.1.2.1,(Q1s .i64 a.1.2.2.1 1,()))),())) else none) else none) else some (.inr ((a.1.1,()),())))
def QD.F0:QD.l0T:=λa=>Z8 (1000000+(a.1.1.length)) (QD.QT) a
def QD.gen (l0:QD.l0T):QD.T:=λb v n=>
 (bif bif le3 (ofN 0) (ofN (List.length b)) (List.length b) then ieq (ofN (List.length b)) (ofN (List.length b)) else false then (bif ilt 0 (Z4 true 0 (Z4 false n 8)) then (bif ile 0 (Q3l .i64 8 (Q1s .i64 (Z4 true 0 (Z4 false n 8)) 1)) then (bif room (List.length (List.drop (Int.toNat (ofN 0)) (List.take (Int.toNat (ofN (List.length b))) b))+List.length (UInt8.ofNat (Int.toNat (IntKind.wrap .u8 (Q5N .i64 v (Q3l .i64 8 (Q1s .i64 (Z4 true 0 (Z4 false n 8)) 1)))))::Qm UInt8)) 1 then (Q0 (l0 ((List.drop (Int.toNat (ofN 0)) (List.take (Int.toNat (ofN (List.length b))) b)++UInt8.ofNat (Int.toNat (IntKind.wrap .u8 (Q5N .i64 v (Q3l .i64 8 (Q1s .i64 (Z4 true 0 (Z4 false n 8)) 1)))))::Qm UInt8,v,Q1s .i64 (Z4 true 0 (Z4 false n 8)) 1,()),())) none λr0=>some (r0.1,((),((),())))) else none) else none) else some ((List.drop (Int.toNat (ofN 0)) (List.take (Int.toNat (ofN (List.length b))) b),()),((),((),())))) else none)
def QD:QD.T:=QD.gen QD.F0
theorem QD.Q24 (l0:QD.l0T) (a:QD.L0.T):run Tryz.prog (QD.H l0) 6 (Option (QD.L0.T⊕ExT QD.X0)) none QD.R0 (QD.L0.enc a) (Z2I (0,13) 0 QD.L0 QD.X0)=QD.QT a:=by kernel_rfl
theorem QD.Q4B:Z3 QD.R0=([]:List Code):=by kernel_rfl
abbrev QD.h:=QD.H QD.F0
theorem QD.Q1V:ZQ U Tryz.prog QD.h.ro QD.h.base QD.B0 QD.R0 (Z9 (0,13) QD.L0 QD.X0 QD.F0):=
 Z6v (Hn:=QD.h) (lb:=0) Q5L Q4u (Z1B (Z12 Q5L Q4u mixed (Z0 Z2 Zd) Z5 Z1W (Z2a λ_=>rfl)) 6) (by kernel_rfl) (λb h=>by rw [QD.Q4B] at h;exact h) (λ_=>rfl) (QD.Q24 QD.F0)
theorem QD.eq (l0:QD.l0T):EqA QD.sig (QD.H l0) Tryz.f100 6 (QD.W (QD.gen l0)):=by intro a x;kernel_rfl
theorem QD.loops:Z3 QD.C= [(.scope QD.B0)]:=by kernel_rfl
theorem QD.hints:Q3Z U Tryz.prog QD.h (λc=>c∈ [(.scope QD.B0)]):=(Z12 Q5L Q4u mixed (Z0 Z2 Zd) (Zt Z5) (Z4S (Z6w (r0:=QD.R0) (l0:=0) (by kernel_rfl) (λ_=>rfl) QD.Q1V) Z1W) (Z2a λ_=>rfl))
theorem QD.ok:Zy U Tryz.prog 100 (QD.sig.native (QD.W QD)):=
 Sig.ok QD.sig (QD.W QD) Q4u (Hn:=QD.h) (code:=QD.C) (gos:=6) QD.hints Tryz.func100 (by kernel_rfl) (by kernel_rfl) (λb h=>by rw [QD.loops] at h;exact h) rfl rfl (by decide) (QD.eq QD.F0) (by decide)
def Q1S.sig:Sig U:=⟨[.isl .u8,.int .u64],[],0,[.isl .u8],false,[]⟩
abbrev Q1S.T:Type:=(List (UInt8))->(Int)->Option (((List (UInt8))×Unit)×Unit×Unit)
def Q1S.W (f:Q1S.T):Q1S.sig.F:=λa x=>f a.1 a.2.1
abbrev Q1S.N (c:Q1S.T):=Qn 116 (Q1S.sig.native (Q1S.W c))
def Q1S.H (cK114:QD.T):Hints U:={ Γ:=(QD.N cK114 noΓ),ro:=0,base:=13}
def Q1S.gen (cK114:QD.T):Q1S.T:=λb v=>
 (Q0 (cK114 b (IntKind.wrap .i64 v) 8) none λr0=>some (r0.1,((),())))
def Q1S:Q1S.T:=Q1S.gen QD
theorem Q1S.eq (cK114:QD.T):EqA Q1S.sig (Q1S.H cK114) Tryz.f116 6 (Q1S.W (Q1S.gen cK114)):=by intro a x;kernel_rfl
theorem Q1S.ok:NK_ 116 Q1S.sig (Q1S.W Q1S):=ok_ Tryz.func116 (Q1S.eq QD) (hn_ (Z0 Z2 QD.ok))
def Q1p.sig:Sig U:=⟨[.isl .u64],[],0,[.data .QW,.bool],true,[]⟩
abbrev Q1p.T:Type:=(List (Int))->Option ((Qi×Bool×Unit)×Unit×Unit)
def Q1p.W (f:Q1p.T):Q1p.sig.F:=λa x=>f a.1
def Q1p.L0:Shape U:=⟨24,14,[(2,.ptr 13 0 0),(4,.val (.isl .u8)),(11,.val (.isl .u64)),(12,vi_),(13,vi_)],[(13,.obj .QW)]⟩
def Q1p.X0:Ql U:= [(.exit 0,⟨24,14,[(2,.ptr 13 0 0),(4,.val (.isl .u8))],[(13,.obj .QW)]⟩)]
abbrev Q1p.l0T:Type:=(((List (UInt8))×(List (Int))×Int×Int×Unit)×(Qi×Unit))->Option ((((List (UInt8))×Unit)×(Qi×Unit)))
def Q1p.C:Code:=match Tryz.f180.body with|some c=>c|none=>.skip
def Q1p.B0:Code:=match (Z3 Q1p.C).getD 0 .skip with| .loop b=>b| .scope b=>b|_=>.skip
def Q1p.H (cK115:Q1S.T) (l0:Q1p.l0T):Hints U:={ Γ:=(Q1S.N cK115 noΓ),ro:=0,base:=13,loop:=jt_ [(5,(Z9 (0,13) Q1p.L0 Q1p.X0 l0))]}
def Q1p.QT (cK115:Q1S.T) (a:((List (UInt8))×(List (Int))×Int×Int×Unit)×(Qi×Unit)):Option ((((List (UInt8))×(List (Int))×Int×Int×Unit)×(Qi×Unit))⊕((((List (UInt8))×Unit)×(Qi×Unit)))):=
 (bif ilt a.1.2.2.2.1 a.1.2.2.1 then (bif inR a.1.2.2.2.1 (List.length a.1.2.1) then (Q0 (cK115 a.1.1 (List.getD a.1.2.1 (Int.toNat a.1.2.2.2.1) (0:D UC.u64))) none λr0=>some (.inl ((r0.1.1,(a.1.2.1,(a.1.2.2.1,(Q4 .i64 a.1.2.2.2.1 1,())))),a.2))) else none) else some (.inr ((a.1.1,()),a.2)))
def Q1p.F0:Q1p.l0T:=λa=>Z8 (1000000+(a.1.1.length+a.1.2.1.length)) (Q1p.QT Q1S) a
def Q1p.gen (cK115:Q1S.T) (l0:Q1p.l0T):Q1p.T:=λl=>
 (bif ilt 16 (ofN (List.length l)) then some ((Qi.mk 0 (ByteArray.mk (List.toArray (Qm UInt8))),(false,())),((),())) else (Q0 (l0 ((Qm UInt8,l,ofN (List.length l),(0:Int),()),Qi.mk 0 (ByteArray.mk (List.toArray (Qm UInt8))),())) none λr0=>some ((Qi.mk 8 (ByteArray.mk (List.toArray r0.1.1)),(true,())),((),()))))
def Q1p:Q1p.T:=Q1p.gen Q1S Q1p.F0
theorem Q1p.Q24 (cK115:Q1S.T) (l0:Q1p.l0T) (a:Q1p.L0.T):run Tryz.prog (Q1p.H cK115 l0) 6 (Option (Q1p.L0.T⊕ExT Q1p.X0)) none Q1p.B0 (Q1p.L0.enc a) (Zj (0,13) Q1p.L0 Q1p.X0)=Q1p.QT cK115 a:=by kernel_rfl
abbrev Q1p.h:=Q1p.H Q1S Q1p.F0
theorem Q1p.Q1V:LO_ Q1p.h Q1p.B0 (Z9 (0,13) Q1p.L0 Q1p.X0 Q1p.F0):=lk_ (hn_ (Z0 Z2 Q1S.ok)) (Q1p.Q24 Q1S Q1p.F0)
theorem Q1p.eq (cK115:Q1S.T) (l0:Q1p.l0T):EqA Q1p.sig (Q1p.H cK115 l0) Tryz.f180 6 (Q1p.W (Q1p.gen cK115 l0)):=by intro a x;kernel_rfl
theorem Q1p.loops:Z3 Q1p.C= [(.loop Q1p.B0)]:=by kernel_rfl
theorem Q1p.ok:NK_ 180 Q1p.sig (Q1p.W Q1p):=ok_ Tryz.func180 (Q1p.eq Q1S Q1p.F0) (hl_ (Z0 Z2 Q1S.ok) (Z7 (by kernel_rfl) Q1p.Q1V Z5)) Q1p.loops
def K29.sig:Sig U:=⟨[.ptr],[.obj .Q7,.fam 12 (.map true false .Qu .Q1O)],2,[.isl .QW],false,[]⟩
abbrev K29.T:Type:=(Q1)->(Nat×(Nat->List (Qd×List (Int))))->Option (((List (Qi))×Unit)×Unit×Unit)
def K29.W (f:K29.T):K29.sig.F:=λa x=>f x.1 x.2.1
def K29.L1:Shape U:=⟨65,14,[(0,.ptr 13 0 0),(3,.full .u64),(24,vi_),(25,vi_)],[(13,.obj .Q7),(12,.Q3t true false .Qu .Q1O)]⟩
def K29.X1:Ql U:= [(.exit 0,⟨65,15,[(0,.ptr 13 0 0),(3,.own .u64 14)],[(13,.obj .Q7),(14,.tok),(12,.Q3t true false .Qu .Q1O)]⟩)]
abbrev K29.l1T:Type:=(((List (Int))×Int×Int×Unit)×(Q1×(Nat×(Nat->List (Qd×List (Int))))×Unit))->Option ((((List (Int))×Unit)×(Q1×(Nat×(Nat->List (Qd×List (Int))))×Unit)))
def K29.C:Code:=match Tryz.f141.body with|some c=>c|none=>.skip
def K29.B0:Code:=match (Z3 K29.C).getD 0 .skip with| .loop b=>b| .scope b=>b|_=>.skip
def K29.B1:Code:=match (Z3 K29.C).getD 1 .skip with| .loop b=>b| .scope b=>b|_=>.skip
def K29.Q7A:Ql U:= [(.normal,⟨65,15,[(7,.ptr 14 0 0),(8,vb_)],[(13,.obj .Q7),(14,.obj .QW),(12,.Q3t true false .Qu .Q1O)]⟩)]
def K29.H (cK174:Q1p.T) (l1:K29.l1T):Hints U:={ Γ:=(Qn 180 (Q1p.sig.native (Q1p.W cK174)) (Qn 5000000021 Z16 noΓ)),ro:=14,base:=14,Q2w:=jt_ [(11,K29.Q7A)],loop:=jt_ [(5,(Z9 (14,14) K29.L1 K29.X1 l1))]}
def K29.Q2y (cK174:Q1p.T) (a:((List (Int))×Int×Int×Unit)×(Q1×(Nat×(Nat->List (Qd×List (Int))))×Unit)):Option ((((List (Int))×Int×Int×Unit)×(Q1×(Nat×(Nat->List (Qd×List (Int))))×Unit))⊕((((List (Int))×Unit)×(Q1×(Nat×(Nat->List (Qd×List (Int))))×Unit)))):=
 (bif ilt a.1.2.2.1 a.1.2.1 then (bif inR a.1.2.2.1 8 then (Q0 ((Q0 ((a.2.1.Qf (Int.toNat a.1.2.2.1)).3) none λr0=>((@Z1Y U Go.Proofs.Tryz.prog 31 UC.Qu UC.Q1O (a.2.1.Q2b.QR) (a.2.2.1.2 r0)):Option (Option (List Int))))) none λ(r1:Option (List Int))=>(bif Option.isSome r1 then (bif room (List.length a.1.1+List.length (Option.getD r1 (Qm Int))) 8 then some (.inr ((a.1.1++Option.getD r1 (Qm Int),()),a.2)) else none) else some (.inl ((a.1.1,(a.1.2.1,(Q4 .i64 a.1.2.2.1 1,()))),a.2)))) else none) else some (.inr ((a.1.1,()),a.2)))
def K29.F1:K29.l1T:=λa=>Z8 (1000000+(a.1.1.length)) (K29.Q2y Q1p) a
def K29.gen (cK174:Q1p.T) (l1:K29.l1T):K29.T:=λh0 g12=>
 (bif !h0.Qs.Q6X then some ((Qm Qi,()),((),())) else (bif le3 (ofN 0) h0.Qs.QB 8 then (Q0 (l1 ((Qm Int,ofN (Int.toNat h0.Qs.QB - Int.toNat (ofN 0)),(0:Int),()),h0,g12,())) none λr0=>(Q0 ((bif room (List.length r0.1.1+List.length (r0.2.1.Qs.QI::Qm Int)) 8 then (Q0 (cK174 (r0.1.1++r0.2.1.Qs.QI::Qm Int)) none λr1=>some (r1.1.2,(r0.2.1,(r1.1.1,r0.2.2)))) else none)) none λr2=>(bif !r2.1.1 then some ((Qm Qi,()),((),())) else some ((r2.2.2.1::Qm Qi,()),((),()))))) else none))
def K29:K29.T:=K29.gen Q1p K29.F1
theorem K29.seq1 (cK174:Q1p.T) (l1:K29.l1T) (a:K29.L1.T):run Tryz.prog (K29.H cK174 l1) 6 (Option (K29.L1.T⊕ExT K29.X1)) none K29.B1 (K29.L1.enc a) (Zj (14,14) K29.L1 K29.X1)=K29.Q2y cK174 a:=by kernel_rfl
abbrev K29.h:=K29.H Q1p K29.F1
theorem K29.Q4Q:LO_ K29.h K29.B1 (Z9 (14,14) K29.L1 K29.X1 K29.F1):=lk_ (hn_ (Z0 (Z0 Z2 Zd) Q1p.ok)) (K29.seq1 Q1p K29.F1)
theorem K29.eq (cK174:Q1p.T) (l1:K29.l1T):EqA K29.sig (K29.H cK174 l1) Tryz.f141 6 (K29.W (K29.gen cK174 l1)):=by intro a x;kernel_rfl
theorem K29.loops:Z3 K29.C= [(.scope K29.B0),(.loop K29.B1)]:=by kernel_rfl
theorem K29.ok:NK_ 141 K29.sig (K29.W K29):=ok_ Tryz.func141 (K29.eq Q1p K29.F1) (hl_ (Z0 (Z0 Z2 Zd) Q1p.ok) (Zt (Z7 (by kernel_rfl) K29.Q4Q Z5))) K29.loops
def K76.sig:Sig U:=⟨[.int .i64],[],0,[.bool],false,[]⟩
abbrev K76.T:Type:=(Int)->Option ((Bool×Unit)×Unit×Unit)
def K76.W (f:K76.T):K76.sig.F:=λa x=>f a.1
def K76.JC7:Ql U:= [(.normal,⟨16,13,[(9,vb_)],[]⟩)]
def K76.JC3:Ql U:= [(.normal,⟨16,13,[(3,vi_),(4,vb_)],[]⟩)]
def K76.H:Hints U:={ Γ:=noΓ,ro:=0,base:=13,Q23:=jt_ [(3,K76.JC3),(7,K76.JC7)]}
def K76.gen:K76.T:=λtyp=>
 (Q0 ((bif ieq typ 0 then some ((typ,(ieq typ 0,())),()) else (bif ieq typ 1 then some ((typ,(ieq typ 1,())),()) else (bif ieq typ 2 then some ((typ,(ieq typ 2,())),()) else some ((typ,(ieq typ 3,())),()))))) none λr0=>(bif r0.1.2.1 then some ((true,()),((),())) else (Q0 ((bif ieq r0.1.1 8 then some ((ieq r0.1.1 8,()),()) else (bif ieq r0.1.1 9 then some ((ieq r0.1.1 9,()),()) else (bif ieq r0.1.1 10 then some ((ieq r0.1.1 10,()),()) else (bif ieq r0.1.1 11 then some ((ieq r0.1.1 11,()),()) else (bif ieq r0.1.1 12 then some ((ieq r0.1.1 12,()),()) else some ((ieq r0.1.1 13,()),()))))))) none λr1=>(bif r1.1.1 then some ((true,()),((),())) else some ((false,()),((),()))))))
def K76:K76.T:=K76.gen
theorem K76.ok:NK_ 102 K76.sig (K76.W K76):=ok_ (H:=K76.H) (n:=6) Tryz.func102 (by intro a x;kernel_rfl) (hn_ Z2)
def K79.sig:Sig U:=⟨[.int .i64,.int .i64,.int .i64],[],0,[.bool],false,[]⟩
abbrev K79.T:Type:=(Int)->(Int)->(Int)->Option ((Bool×Unit)×Unit×Unit)
def K79.W (f:K79.T):K79.sig.F:=λa x=>f a.1 a.2.1 a.2.2.1
abbrev K79.N (c:K79.T):=Qn 103 (K79.sig.native (K79.W c))
def K79.H:Hints U:={ Γ:=noΓ,ro:=0,base:=13}
def K79.gen:K79.T:=λv least most=>
 (bif ile least v then some ((ile v most,()),((),())) else some ((false,()),((),())))
def K79:K79.T:=K79.gen
theorem K79.ok:NK_ 103 K79.sig (K79.W K79):=ok_ (H:=K79.H) (n:=6) Tryz.func103 (by intro a x;kernel_rfl) (hn_ Z2)
def K82.sig:Sig U:=⟨[.data .Qu],[],0,[.bool],false,[]⟩
abbrev K82.T:Type:=(Qd)->Option ((Bool×Unit)×Unit×Unit)
def K82.W (f:K82.T):K82.sig.F:=λa x=>f a.1
def K82.H:Hints U:={ Γ:=noΓ,ro:=0,base:=13}
def K82.gen:K82.T:=λp=>
 (bif ile 0 p.QR then some ((ile p.QR 65535,()),((),())) else some ((false,()),((),())))
def K82:K82.T:=K82.gen
theorem K82.ok:NK_ 170 K82.sig (K82.W K82):=ok_ (H:=K82.H) (n:=6) Tryz.func170 (by intro a x;kernel_rfl) (hn_ Z2)
def K74.sig:Sig U:=⟨[.data .Qk],[],0,[.bool],false,[]⟩
abbrev K74.T:Type:=(Q8)->Option ((Bool×Unit)×Unit×Unit)
def K74.W (f:K74.T):K74.sig.F:=λa x=>f a.1
def K74.H (cK76:K76.T) (cK79:K79.T) (cK82:K82.T):Hints U:={ Γ:=(Qn 170 (K82.sig.native (K82.W cK82)) (K79.N cK79 (Qn 102 (K76.sig.native (K76.W cK76)) noΓ))),ro:=0,base:=13}
def K74.gen (cK76:K76.T) (cK79:K79.T) (cK82:K82.T):K74.T:=λm=>
 (Q0 (cK76 m.fType) none λr0=>(bif r0.1.1 then (Q0 (cK79 m.Q1D 0 255) none λr1=>(bif r1.1.1 then (Q0 (cK79 m.Q1Y 0 65535) none λr2=>(bif r2.1.1 then (Q0 (cK82 m.Q1H) none λr3=>(bif r3.1.1 then (Q0 (cK79 m.Q2W 0 65535) none λr4=>(bif r4.1.1 then (Q0 (cK79 m.Q6j (-128) 127) none λr5=>some (r5.1,((),()))) else some ((false,()),((),())))) else some ((false,()),((),())))) else some ((false,()),((),())))) else some ((false,()),((),())))) else some ((false,()),((),()))))
def K74:K74.T:=K74.gen K76 K79 K82
theorem K74.eq (cK76:K76.T) (cK79:K79.T) (cK82:K82.T):EqA K74.sig (K74.H cK76 cK79 cK82) Tryz.f118 6 (K74.W (K74.gen cK76 cK79 cK82)):=by intro a x;kernel_rfl
theorem K74.ok:NK_ 118 K74.sig (K74.W K74):=ok_ Tryz.func118 (K74.eq K76 K79 K82) (hn_ (Z0 (Z0 (Z0 Z2 K76.ok) K79.ok) K82.ok))
def K6.sig:Sig U:=⟨[.int .i64],[],0,[.bool],false,[]⟩
abbrev K6.T:Type:=(Int)->Option ((Bool×Unit)×Unit×Unit)
def K6.W (f:K6.T):K6.sig.F:=λa x=>f a.1
abbrev K6.N (c:K6.T):=Qn 107 (K6.sig.native (K6.W c))
def K6.H:Hints U:={ Γ:=noΓ,ro:=0,base:=13}
def K6.gen:K6.T:=λtyp=>
 (bif ine typ 12 then some ((ine typ 13,()),((),())) else some ((false,()),((),())))
def K6:K6.T:=K6.gen
theorem K6.ok:NK_ 107 K6.sig (K6.W K6):=ok_ (H:=K6.H) (n:=6) Tryz.func107 (by intro a x;kernel_rfl) (hn_ Z2)
def K7.sig:Sig U:=⟨[.int .i64],[],0,[.bool],false,[]⟩
abbrev K7.T:Type:=(Int)->Option ((Bool×Unit)×Unit×Unit)
def K7.W (f:K7.T):K7.sig.F:=λa x=>f a.1
abbrev K7.N (c:K7.T):=Qn 109 (K7.sig.native (K7.W c))
def K7.JC3:Ql U:= [(.normal,⟨10,13,[(4,vb_)],[]⟩)]
def K7.H:Hints U:={ Γ:=noΓ,ro:=0,base:=13,Q23:=jt_ [(3,K7.JC3)]}
def K7.gen:K7.T:=λtyp=>
 (Q0 ((bif ieq typ 9 then some ((ieq typ 9,()),()) else (bif ieq typ 3 then some ((ieq typ 3,()),()) else (bif ieq typ 10 then some ((ieq typ 10,()),()) else (bif ieq typ 12 then some ((ieq typ 12,()),()) else some ((ieq typ 13,()),())))))) none λr0=>(bif r0.1.1 then some ((true,()),((),())) else some ((false,()),((),()))))
def K7:K7.T:=K7.gen
theorem K7.ok:NK_ 109 K7.sig (K7.W K7):=ok_ (H:=K7.H) (n:=6) Tryz.func109 (by intro a x;kernel_rfl) (hn_ Z2)
def K5.sig:Sig U:=⟨[.data .Qk],[],0,[.data .Qk],false,[]⟩
abbrev K5.T:Type:=(Q8)->Option ((Q8×Unit)×Unit×Unit)
def K5.W (f:K5.T):K5.sig.F:=λa x=>f a.1
def K5.JC8:Ql U:= [(.normal,⟨68,15,[(2,.ptr 13 0 0),(3,.ptr 14 0 0)],[(13,.obj .Qk),(14,.obj .Qk)]⟩)]
def K5.JC5:Ql U:= [(.normal,⟨68,16,[(1,.ptr 13 0 0),(2,.ptr 14 0 0),(3,.ptr 15 0 0)],[(13,.obj .Qk),(14,.obj .Qk),(15,.obj .Qk)]⟩)]
def K5.H (cK6:K6.T) (cK7:K7.T):Hints U:={ Γ:=(K7.N cK7 (K6.N cK6 noΓ)),ro:=0,base:=13,Q23:=jt_ [(3,K5.JC5),(5,K5.JC5),(8,K5.JC8)]}
def K5.gen (cK6:K6.T) (cK7:K7.T):K5.T:=λm=>
 (Q0 (cK6 m.fType) none λr0=>(Q0 ((bif r0.1.1 then some ((),(m,(Q8.mk 0 0 0 0 z0_ 0 0 0 z0_ 0 0 z1_ 0 0 0 0 0 0 0,(Q8.mk m.fType m.Q1D m.Q1Y m.Q4s m.Q1H m.Q2W m.Q6j m.Q44 z0_ 0 0 z1_ 0 0 0 0 0 0 0,())))) else some ((),(m,(Q8.mk 0 0 0 0 z0_ 0 0 0 z0_ 0 0 z1_ 0 0 0 0 0 0 0,(Q8.mk m.fType m.Q1D m.Q1Y m.Q4s m.Q1H m.Q2W m.Q6j 0 z0_ 0 0 z1_ 0 0 0 0 0 0 0,())))))) none λr1=>(Q0 (cK7 r1.2.1.fType) none λr2=>(Q0 ((bif r2.1.1 then some ((),(r1.2.1,(r1.2.2.1,(Q8.Q75 r1.2.2.2.1 r1.2.1.Q2e,())))) else some ((),r1.2))) none λr3=>(Q0 ((bif ieq r3.2.1.fType 11 then some ((),(r3.2.2.1,(Q8.Q7a (Q8.Q7q (Q8.Q7r (Q8.Q4X (Q8.Q4A (Q8.Q4z (Q8.Q8t r3.2.2.2.1 r3.2.1.Q3a) r3.2.1.Q15) r3.2.1.Qv) r3.2.1.Q16) r3.2.1.Q2x) r3.2.1.Q28) r3.2.1.Q1Q,()))) else (bif ieq r3.2.1.fType 13 then some ((),(r3.2.2.1,(Q8.Q6l (Q8.Q74 (Q8.Q6d r3.2.2.2.1 r3.2.1.Q2R) r3.2.1.Q4M) r3.2.1.Q3r,()))) else some ((),r3.2.2)))) none λr4=>some (r4.2.2,((),())))))))
def K5:K5.T:=K5.gen K6 K7
theorem K5.eq (cK6:K6.T) (cK7:K7.T):EqA K5.sig (K5.H cK6 cK7) Tryz.f169 6 (K5.W (K5.gen cK6 cK7)):=by intro a x;kernel_rfl
theorem K5.ok:NK_ 169 K5.sig (K5.W K5):=ok_ Tryz.func169 (K5.eq K6 K7) (hn_ (Z0 (Z0 Z2 K6.ok) K7.ok))
def Q1M.sig:Sig U:=⟨[.int .i64],[],0,[.bool],false,[]⟩
abbrev Q1M.T:Type:=(Int)->Option ((Bool×Unit)×Unit×Unit)
def Q1M.W (f:Q1M.T):Q1M.sig.F:=λa x=>f a.1
abbrev Q1M.N (c:Q1M.T):=Qn 151 (Q1M.sig.native (Q1M.W c))
def Q1M.H:Hints U:={ Γ:=noΓ,ro:=0,base:=13}
def Q1M.gen:Q1M.T:=λt=>
 (bif ile 0 t then some ((ile t 4000000000000000,()),((),())) else some ((false,()),((),())))
def Q1M:Q1M.T:=Q1M.gen
theorem Q1M.ok:NK_ 151 Q1M.sig (Q1M.W Q1M):=ok_ (H:=Q1M.H) (n:=6) Tryz.func151 (by intro a x;kernel_rfl) (hn_ Z2)
def K4.sig:Sig U:=⟨[.int .i64,.int .i64,.int .i64],[],0,[.bool],false,[]⟩
abbrev K4.T:Type:=(Int)->(Int)->(Int)->Option ((Bool×Unit)×Unit×Unit)
def K4.W (f:K4.T):K4.sig.F:=λa x=>f a.1 a.2.1 a.2.2.1
def K4.H:Hints U:={ Γ:=noΓ,ro:=0,base:=13}
def K4.gen:K4.T:=λv least most=>
 (bif ile least v then some ((ile v most,()),((),())) else some ((false,()),((),())))
def K4:K4.T:=K4.gen
theorem K4.ok:NK_ 171 K4.sig (K4.W K4):=ok_ (H:=K4.H) (n:=6) Tryz.func171 (by intro a x;kernel_rfl) (hn_ Z2)
def K0.sig:Sig U:=⟨[.data .Qk],[],0,[.bool],false,[]⟩
abbrev K0.T:Type:=(Q8)->Option ((Bool×Unit)×Unit×Unit)
def K0.W (f:K0.T):K0.sig.F:=λa x=>f a.1
def K0.H (cK74:K74.T) (cK5:K5.T) (cK159:Q1M.T) (cK82:K82.T) (cK4:K4.T) (cK140:Q2h.T):Hints U:={ Γ:=(Q2h.N cK140 (Qn 171 (K4.sig.native (K4.W cK4)) (Qn 170 (K82.sig.native (K82.W cK82)) (Q1M.N cK159 (Qn 169 (K5.sig.native (K5.W cK5)) (Qn 118 (K74.sig.native (K74.W cK74)) noΓ)))))),ro:=0,base:=13}
def K0.gen (cK74:K74.T) (cK5:K5.T) (cK159:Q1M.T) (cK82:K82.T) (cK4:K4.T) (cK140:Q2h.T):K0.T:=λm=>
 (Q0 (cK74 m) none λr0=>(bif r0.1.1 then (Q0 (cK5 m) none λr1=>(bif bif ieq m.fType r1.1.1.fType then bif ieq m.Q1D r1.1.1.Q1D then bif ieq m.Q1Y r1.1.1.Q1Y then bif ieq m.Q4s r1.1.1.Q4s then bif bif ieq m.Q1H.QI r1.1.1.Q1H.QI then bif ieq m.Q1H.QR r1.1.1.Q1H.QR then true else false else false then bif ieq m.Q2W r1.1.1.Q2W then bif ieq m.Q6j r1.1.1.Q6j then bif ieq m.Q44 r1.1.1.Q44 then bif bif ieq m.Q2e.QI r1.1.1.Q2e.QI then bif ieq m.Q2e.QR r1.1.1.Q2e.QR then true else false else false then bif ieq m.Q3a r1.1.1.Q3a then bif ieq m.Q15 r1.1.1.Q15 then bif bif ieq m.Qv.Q1W r1.1.1.Qv.Q1W then bif ieq m.Qv.Q1u r1.1.1.Qv.Q1u then bif ieq m.Qv.Q1F r1.1.1.Qv.Q1F then true else false else false else false then bif ieq m.Q16 r1.1.1.Q16 then bif ieq m.Q2x r1.1.1.Q2x then bif ieq m.Q28 r1.1.1.Q28 then bif ieq m.Q1Q r1.1.1.Q1Q then bif ieq m.Q2R r1.1.1.Q2R then bif ieq m.Q4M r1.1.1.Q4M then bif ieq m.Q3r r1.1.1.Q3r then true else false else false else false else false else false else false else false else false else false else false else false else false else false else false else false else false else false else false else false then (Q0 (cK159 m.Q44) none λr2=>(bif r2.1.1 then (Q0 (cK82 m.Q2e) none λr3=>(bif r3.1.1 then (Q0 (cK4 m.Q3a (-32768) 32767) none λr4=>(bif r4.1.1 then (Q0 (cK4 m.Q15 0 255) none λr5=>(bif r5.1.1 then (Q0 (cK4 m.Q16 0 255) none λr6=>(bif r6.1.1 then (Q0 (cK4 m.Q1Q 0 255) none λr7=>(bif r7.1.1 then (Q0 (cK140 m.Qv) none λr8=>(bif r8.1.1 then (Q0 (cK4 m.Q28 0 65535) none λr9=>(bif r9.1.1 then (Q0 (cK4 m.Q2R 0 255) none λr10=>(bif r10.1.1 then (Q0 (cK4 m.Q4M 0 255) none λr11=>(bif r11.1.1 then (Q0 (cK4 m.Q3r 0 15) none λr12=>some (r12.1,((),()))) else some ((false,()),((),())))) else some ((false,()),((),())))) else some ((false,()),((),())))) else some ((false,()),((),())))) else some ((false,()),((),())))) else some ((false,()),((),())))) else some ((false,()),((),())))) else some ((false,()),((),())))) else some ((false,()),((),())))) else some ((false,()),((),())))) else some ((false,()),((),())))) else some ((false,()),((),()))))
def K0:K0.T:=K0.gen K74 K5 Q1M K82 K4 Q2h
theorem K0.eq (cK74:K74.T) (cK5:K5.T) (cK159:Q1M.T) (cK82:K82.T) (cK4:K4.T) (cK140:Q2h.T):EqA K0.sig (K0.H cK74 cK5 cK159 cK82 cK4 cK140) Tryz.f112 6 (K0.W (K0.gen cK74 cK5 cK159 cK82 cK4 cK140)):=by intro a x;kernel_rfl
theorem K0.ok:NK_ 112 K0.sig (K0.W K0):=ok_ Tryz.func112 (K0.eq K74 K5 Q1M K82 K4 Q2h) (hn_ (Z0 (Z0 (Z0 (Z0 (Z0 (Z0 Z2 K74.ok) K5.ok) Q1M.ok) K82.ok) K4.ok) Q2h.ok))
def Q2L.sig:Sig U:=⟨[.isl .u8,.int .i64],[],0,[.isl .u8],false,[]⟩
abbrev Q2L.T:Type:=(List (UInt8))->(Int)->Option (((List (UInt8))×Unit)×Unit×Unit)
def Q2L.W (f:Q2L.T):Q2L.sig.F:=λa x=>f a.1 a.2.1
def Q2L.JC2:Ql U:= [(.normal,⟨15,13,[(0,.val (.isl .u8)),(1,vi_)],[]⟩)]
def Q2L.H (cK159:Q1M.T) (cK114:QD.T):Hints U:={ Γ:=(QD.N cK114 (Q1M.N cK159 noΓ)),ro:=0,base:=13,Q23:=jt_ [(2,Q2L.JC2)]}
def Q2L.gen (cK159:Q1M.T) (cK114:QD.T):Q2L.T:=λb t=>
 (Q0 (cK159 t) none λr0=>(Q0 ((bif !r0.1.1 then some ((b,((0:Int),())),()) else some ((b,(t,())),()))) none λr1=>(Q0 (cK114 r1.1.1 (Q50 .i64 r1.1.2.1 1000000000) 6) none λr2=>(Q0 (cK114 r2.1.1 (Q5z r1.1.2.1 1000000000) 4) none λr3=>some (r3.1,((),()))))))
def Q2L:Q2L.T:=Q2L.gen Q1M QD
theorem Q2L.eq (cK159:Q1M.T) (cK114:QD.T):EqA Q2L.sig (Q2L.H cK159 cK114) Tryz.f113 6 (Q2L.W (Q2L.gen cK159 cK114)):=by intro a x;kernel_rfl
theorem Q2L.ok:NK_ 113 Q2L.sig (Q2L.W Q2L):=ok_ Tryz.func113 (Q2L.eq Q1M QD) (hn_ (Z0 (Z0 Z2 Q1M.ok) QD.ok))
def K84.sig:Sig U:=⟨[.isl .u8,.data .Qu],[],0,[.isl .u8],false,[]⟩
abbrev K84.T:Type:=(List (UInt8))->(Qd)->Option (((List (UInt8))×Unit)×Unit×Unit)
def K84.W (f:K84.T):K84.sig.F:=λa x=>f a.1 a.2.1
abbrev K84.N (c:K84.T):=Qn 114 (K84.sig.native (K84.W c))
def K84.H (cK115:Q1S.T) (cK114:QD.T):Hints U:={ Γ:=(QD.N cK114 (Q1S.N cK115 noΓ)),ro:=0,base:=13}
def K84.gen (cK115:Q1S.T) (cK114:QD.T):K84.T:=λb p=>
 (Q0 (cK115 b p.QI) none λr0=>(Q0 (cK114 r0.1.1 p.QR 2) none λr1=>some (r1.1,((),()))))
def K84:K84.T:=K84.gen Q1S QD
theorem K84.eq (cK115:Q1S.T) (cK114:QD.T):EqA K84.sig (K84.H cK115 cK114) Tryz.f114 6 (K84.W (K84.gen cK115 cK114)):=by intro a x;kernel_rfl
theorem K84.ok:NK_ 114 K84.sig (K84.W K84):=ok_ Tryz.func114 (K84.eq Q1S QD) (hn_ (Z0 (Z0 Z2 Q1S.ok) QD.ok))
def Q2Q.sig:Sig U:=⟨[.isl .u8,.data .Q2u],[],0,[.isl .u8],false,[]⟩
abbrev Q2Q.T:Type:=(List (UInt8))->(Qx)->Option (((List (UInt8))×Unit)×Unit×Unit)
def Q2Q.W (f:Q2Q.T):Q2Q.sig.F:=λa x=>f a.1 a.2.1
def Q2Q.H (cK114:QD.T):Hints U:={ Γ:=(QD.N cK114 noΓ),ro:=0,base:=13}
def Q2Q.gen (cK114:QD.T):Q2Q.T:=λb q=>
 (Q0 (cK114 b q.Q1W 1) none λr0=>(Q0 (cK114 r0.1.1 q.Q1u 1) none λr1=>(Q0 (cK114 r1.1.1 q.Q1F 2) none λr2=>some (r2.1,((),())))))
def Q2Q:Q2Q.T:=Q2Q.gen QD
theorem Q2Q.eq (cK114:QD.T):EqA Q2Q.sig (Q2Q.H cK114) Tryz.f115 6 (Q2Q.W (Q2Q.gen cK114)):=by intro a x;kernel_rfl
theorem Q2Q.ok:NK_ 115 Q2Q.sig (Q2Q.W Q2Q):=ok_ Tryz.func115 (Q2Q.eq QD) (hn_ (Z0 Z2 QD.ok))
def K3.sig:Sig U:=⟨[.isl .u8,.data .Qk],[],0,[.isl .u8,.bool],true,[]⟩
abbrev K3.T:Type:=(List (UInt8))->(Q8)->Option (((List (UInt8))×Bool×Unit)×Unit×Unit)
def K3.W (f:K3.T):K3.sig.F:=λa x=>f a.1 a.2.1
def K3.Q9B:Ql U:= [(.normal,⟨80,13,[(6,.val (.isl .u8))],[]⟩)]
def K3.JC7:Ql U:= [(.normal,⟨80,14,[(3,.ptr 13 0 0),(6,.val (.isl .u8))],[(13,.obj .Qk)]⟩)]
def K3.H (cK0:K0.T) (cK6:K6.T) (cK161:Q2L.T) (cK7:K7.T) (cK84:K84.T) (cK114:QD.T) (cK141:Q2Q.T) (cK115:Q1S.T):Hints U:={ Γ:=(Q1S.N cK115 (Qn 115 (Q2Q.sig.native (Q2Q.W cK141)) (QD.N cK114 (K84.N cK84 (K7.N cK7 (Qn 113 (Q2L.sig.native (Q2L.W cK161)) (K6.N cK6 (Qn 112 (K0.sig.native (K0.W cK0)) noΓ)))))))),ro:=0,base:=13,Q23:=jt_ [(5,K3.JC7),(7,K3.JC7),(10,K3.Q9B)]}
def K3.gen (cK0:K0.T) (cK6:K6.T) (cK161:Q2L.T) (cK7:K7.T) (cK84:K84.T) (cK114:QD.T) (cK141:Q2Q.T) (cK115:Q1S.T):K3.T:=λb m=>
 (Q0 (cK0 m) none λr0=>(bif !r0.1.1 then some ((b,(false,())),((),())) else (bif bif le3 (ofN 0) (ofN (List.length b)) (List.length b) then ieq (ofN (List.length b)) (ofN (List.length b)) else false then (Q0 (cK6 m.fType) none λr1=>(Q0 ((bif r1.1.1 then (Q0 (cK161 (List.drop (Int.toNat (ofN 0)) (List.take (Int.toNat (ofN (List.length b))) b)) m.Q44) none λr2=>some (r2.1,(m,()))) else some ((List.drop (Int.toNat (ofN 0)) (List.take (Int.toNat (ofN (List.length b))) b),()),(m,())))) none λr3=>(Q0 (cK7 r3.2.1.fType) none λr4=>(Q0 ((bif r4.1.1 then (Q0 (cK84 r3.1.1 r3.2.1.Q2e) none λr5=>some (r5.1,r3.2)) else some r3)) none λr6=>(Q0 ((bif ieq r6.2.1.fType 2 then (Q0 (cK84 r6.1.1 z0_) none λr7=>some (r7.1,())) else (bif ieq r6.2.1.fType 11 then (Q0 (cK114 r6.1.1 r6.2.1.Q3a 2) none λr8=>(Q0 (cK114 r8.1.1 0 1) none λr9=>(Q0 (cK114 r9.1.1 r6.2.1.Q15 1) none λr10=>(Q0 (cK141 r10.1.1 r6.2.1.Qv) none λr11=>(Q0 (cK114 r11.1.1 r6.2.1.Q16 1) none λr12=>(Q0 (cK115 r12.1.1 r6.2.1.Q2x) none λr13=>(Q0 (cK114 r13.1.1 r6.2.1.Q28 2) none λr14=>(Q0 (cK114 r14.1.1 r6.2.1.Q1Q 1) none λr15=>some (r15.1,()))))))))) else (bif ieq r6.2.1.fType 13 then (Q0 (cK114 r6.1.1 r6.2.1.Q2R 1) none λr16=>(Q0 (cK114 r16.1.1 r6.2.1.Q4M 1) none λr17=>(Q0 (cK114 r17.1.1 r6.2.1.Q3r 1) none λr18=>(Q0 (cK114 r18.1.1 0 1) none λr19=>some (r19.1,()))))) else some (r6.1,()))))) none λr20=>some ((r20.1.1,(true,())),((),()))))))) else none)))
def K3:K3.T:=K3.gen K0 K6 Q2L K7 K84 QD Q2Q Q1S
theorem K3.eq (cK0:K0.T) (cK6:K6.T) (cK161:Q2L.T) (cK7:K7.T) (cK84:K84.T) (cK114:QD.T) (cK141:Q2Q.T) (cK115:Q1S.T):EqA K3.sig (K3.H cK0 cK6 cK161 cK7 cK84 cK114 cK141 cK115) Tryz.f61 6 (K3.W (K3.gen cK0 cK6 cK161 cK7 cK84 cK114 cK141 cK115)):=by intro a x;kernel_rfl
theorem K3.ok:NK_ 61 K3.sig (K3.W K3):=ok_ Tryz.func61 (K3.eq K0 K6 Q2L K7 K84 QD Q2Q Q1S) (hn_ (Z0 (Z0 (Z0 (Z0 (Z0 (Z0 (Z0 (Z0 Z2 K0.ok) K6.ok) Q2L.ok) K7.ok) K84.ok) QD.ok) Q2Q.ok) Q1S.ok))
def Q2C.sig:Sig U:=⟨[.int .i64,.int .i64,.int .i64],[],0,[.bool],false,[]⟩
abbrev Q2C.T:Type:=(Int)->(Int)->(Int)->Option ((Bool×Unit)×Unit×Unit)
def Q2C.W (f:Q2C.T):Q2C.sig.F:=λa x=>f a.1 a.2.1 a.2.2.1
abbrev Q2C.N (c:Q2C.T):=Qn 99 (Q2C.sig.native (Q2C.W c))
def Q2C.H:Hints U:={ Γ:=noΓ,ro:=0,base:=13}
def Q2C.gen:Q2C.T:=λv least most=>
 (bif ile least v then some ((ile v most,()),((),())) else some ((false,()),((),())))
def Q2C:Q2C.T:=Q2C.gen
theorem Q2C.ok:NK_ 99 Q2C.sig (Q2C.W Q2C):=ok_ (H:=Q2C.H) (n:=6) Tryz.func99 (by intro a x;kernel_rfl) (hn_ Z2)
def Q2N.sig:Sig U:=⟨[.data .QW],[],0,[.bool],false,[]⟩
abbrev Q2N.T:Type:=(Qi)->Option ((Bool×Unit)×Unit×Unit)
def Q2N.W (f:Q2N.T):Q2N.sig.F:=λa x=>f a.1
def Q2N.H (cK177:Q2C.T):Hints U:={ Γ:=(Q2C.N cK177 noΓ),ro:=0,base:=13}
def Q2N.gen (cK177:Q2C.T):Q2N.T:=λt=>
 (Q0 (cK177 t.fType 0 65535) none λr0=>(bif r0.1.1 then (bif ieq (Q5z (ofN (ByteArray.size t.Q2t)) 2) 0 then some ((ile (ofN (ByteArray.size t.Q2t)) 400,()),((),())) else some ((false,()),((),()))) else some ((false,()),((),()))))
def Q2N:Q2N.T:=Q2N.gen Q2C
theorem Q2N.eq (cK177:Q2C.T):EqA Q2N.sig (Q2N.H cK177) Tryz.f117 6 (Q2N.W (Q2N.gen cK177)):=by intro a x;kernel_rfl
theorem Q2N.ok:NK_ 117 Q2N.sig (Q2N.W Q2N):=ok_ Tryz.func117 (Q2N.eq Q2C) (hn_ (Z0 Z2 Q2C.ok))
def Q1v.sig:Sig U:=⟨[.isl .u8,.isl .QW],[],0,[.isl .u8,.bool],true,[]⟩
abbrev Q1v.T:Type:=(List (UInt8))->(List (Qi))->Option (((List (UInt8))×Bool×Unit)×Unit×Unit)
def Q1v.W (f:Q1v.T):Q1v.sig.F:=λa x=>f a.1 a.2.1
def Q1v.L0:Shape U:=⟨42,13,[(0,.val (.isl .u8)),(6,.val (.isl .u8)),(19,.val (.isl .QW)),(20,vi_),(21,vi_)],[]⟩
def Q1v.X0:Ql U:= [(.exit 0,⟨42,13,[(6,.val (.isl .u8))],[]⟩),
 (.ret,⟨42,13,[(4,.val (.isl .u8)),(5,vb_)],[]⟩)]
abbrev Q1v.l0T:Type:=(((List (UInt8))×(List (UInt8))×(List (Qi))×Int×Int×Unit)×Unit)->Option ((((List (UInt8))×Unit)×Unit)⊕(((List (UInt8))×Bool×Unit)×Unit))
def Q1v.C:Code:=match Tryz.f62.body with|some c=>c|none=>.skip
def Q1v.B0:Code:=match (Z3 Q1v.C).getD 0 .skip with| .loop b=>b| .scope b=>b|_=>.skip
def Q1v.H (cK167:Q2N.T) (cK114:QD.T) (l0:Q1v.l0T):Hints U:={ Γ:=(QD.N cK114 (Qn 117 (Q2N.sig.native (Q2N.W cK167)) noΓ)),ro:=0,base:=13,loop:=jt_ [(5,(Z9 (0,13) Q1v.L0 Q1v.X0 l0))]}
def Q1v.QT (cK167:Q2N.T) (cK114:QD.T) (a:((List (UInt8))×(List (UInt8))×(List (Qi))×Int×Int×Unit)×Unit):Option ((((List (UInt8))×(List (UInt8))×(List (Qi))×Int×Int×Unit)×Unit)⊕((((List (UInt8))×Unit)×Unit)⊕(((List (UInt8))×Bool×Unit)×Unit))):=
 (bif ilt a.1.2.2.2.2.1 a.1.2.2.2.1 then (bif inR a.1.2.2.2.2.1 (List.length a.1.2.2.1) then (Q0 (cK167 (List.getD a.1.2.2.1 (Int.toNat a.1.2.2.2.2.1) Qi.zero)) none λr0=>(bif !r0.1.1 then some (.inr (.inr ((a.1.1,(false,())),()))) else (Q0 (cK114 a.1.2.1 (List.getD a.1.2.2.1 (Int.toNat a.1.2.2.2.2.1) Qi.zero).fType 2) none λr1=>(Q0 (cK114 r1.1.1 (ofN (ByteArray.size (List.getD a.1.2.2.1 (Int.toNat a.1.2.2.2.2.1) Qi.zero).Q2t)) 2) none λr2=>(bif room (List.length r2.1.1+List.length (List.getD a.1.2.2.1 (Int.toNat a.1.2.2.2.2.1) Qi.zero).Q2t.data.toList) 1 then some (.inl ((a.1.1,(r2.1.1++(List.getD a.1.2.2.1 (Int.toNat a.1.2.2.2.2.1) Qi.zero).Q2t.data.toList,(a.1.2.2.1,(a.1.2.2.2.1,(Q4 .i64 a.1.2.2.2.2.1 1,()))))),())) else none))))) else none) else some (.inr (.inl ((a.1.2.1,()),()))))
def Q1v.F0:Q1v.l0T:=λa=>Z8 (1000000+(a.1.1.length+a.1.2.1.length+a.1.2.2.1.length)) (Q1v.QT Q2N QD) a
def Q1v.gen (cK167:Q2N.T) (cK114:QD.T) (l0:Q1v.l0T):Q1v.T:=λb l=>
 (bif ilt 8 (ofN (List.length l)) then some ((b,(false,())),((),())) else (bif bif le3 (ofN 0) (ofN (List.length b)) (List.length b) then ieq (ofN (List.length b)) (ofN (List.length b)) else false then (Q0 (l0 ((b,List.drop (Int.toNat (ofN 0)) (List.take (Int.toNat (ofN (List.length b))) b),l,ofN (List.length l),(0:Int),()),())) none λr0=>(Q3U r0 (λr1=>some ((r1.1.1,(true,())),((),()))) (λr1=>some (r1.1,((),()))))) else none))
def Q1v:Q1v.T:=Q1v.gen Q2N QD Q1v.F0
theorem Q1v.Q24 (cK167:Q2N.T) (cK114:QD.T) (l0:Q1v.l0T) (a:Q1v.L0.T):run Tryz.prog (Q1v.H cK167 cK114 l0) 6 (Option (Q1v.L0.T⊕ExT Q1v.X0)) none Q1v.B0 (Q1v.L0.enc a) (Zj (0,13) Q1v.L0 Q1v.X0)=Q1v.QT cK167 cK114 a:=by kernel_rfl
abbrev Q1v.h:=Q1v.H Q2N QD Q1v.F0
theorem Q1v.Q1V:LO_ Q1v.h Q1v.B0 (Z9 (0,13) Q1v.L0 Q1v.X0 Q1v.F0):=lk_ (hn_ (Z0 (Z0 Z2 Q2N.ok) QD.ok)) (Q1v.Q24 Q2N QD Q1v.F0)
theorem Q1v.eq (cK167:Q2N.T) (cK114:QD.T) (l0:Q1v.l0T):EqA Q1v.sig (Q1v.H cK167 cK114 l0) Tryz.f62 6 (Q1v.W (Q1v.gen cK167 cK114 l0)):=by intro a x;kernel_rfl
theorem Q1v.loops:Z3 Q1v.C= [(.loop Q1v.B0)]:=by kernel_rfl
theorem Q1v.ok:NK_ 62 Q1v.sig (Q1v.W Q1v):=ok_ Tryz.func62 (Q1v.eq Q2N QD Q1v.F0) (hl_ (Z0 (Z0 Z2 Q2N.ok) QD.ok) (Z7 (by kernel_rfl) Q1v.Q1V Z5)) Q1v.loops
def K78.sig:Sig U:=⟨[.int .i64],[],0,[.int .i64],false,[]⟩
abbrev K78.T:Type:=(Int)->Option ((Int×Unit)×Unit×Unit)
def K78.W (f:K78.T):K78.sig.F:=λa x=>f a.1
def K78.H:Hints U:={ Γ:=noΓ,ro:=0,base:=13}
def K78.gen:K78.T:=λtyp=>
 (bif ieq typ 0 then some (((0:Int),()),((),())) else (bif ieq typ 1 then some (((1:Int),()),((),())) else (bif ieq typ 8 then some (((2:Int),()),((),())) else (bif ieq typ 9 then some (((3:Int),()),((),())) else (bif ieq typ 13 then some (((4:Int),()),((),())) else some (((5:Int),()),((),())))))))
def K78:K78.T:=K78.gen
theorem K78.ok:NK_ 119 K78.sig (K78.W K78):=ok_ (H:=K78.H) (n:=6) Tryz.func119 (by intro a x;kernel_rfl) (hn_ Z2)
def K77.sig:Sig U:=⟨[.data .Qk,.int .i64],[],0,[.isl .u8,.bool],true,[]⟩
abbrev K77.T:Type:=(Q8)->(Int)->Option (((List (UInt8))×Bool×Unit)×Unit×Unit)
def K77.W (f:K77.T):K77.sig.F:=λa x=>f a.1 a.2.1
def K77.H (cK74:K74.T) (cK79:K79.T) (cK114:QD.T) (cK84:K84.T) (cK78:K78.T):Hints U:={ Γ:=(Qn 119 (K78.sig.native (K78.W cK78)) (K84.N cK84 (QD.N cK114 (K79.N cK79 (Qn 118 (K74.sig.native (K74.W cK74)) noΓ))))),ro:=0,base:=13,Q1L:=jt_ [(1,[(14,vb_)])]}
def K77.gen (cK74:K74.T) (cK79:K79.T) (cK114:QD.T) (cK84:K84.T) (cK78:K78.T):K77.T:=λm length=>
 (Q0 ((Q0 (cK74 m) none λr0=>(bif !r0.1.1 then some (true,()) else (Q0 (cK79 length 34 400) none λr1=>some (!r1.1.1,()))))) none λr2=>(bif r2.1 then some ((Qm UInt8,(false,())),((),())) else (Q0 (cK114 (UInt8.ofNat (Int.toNat (IntKind.wrap .u8 m.fType))::UInt8.ofNat (Int.toNat 18)::Qm UInt8) length 2) none λr3=>(Q0 (cK114 r3.1.1 m.Q1D 1) none λr4=>(Q0 (cK114 r4.1.1 0 1) none λr5=>(Q0 (cK114 r5.1.1 m.Q1Y 2) none λr6=>(Q0 (cK114 r6.1.1 m.Q4s 8) none λr7=>(Q0 (cK114 r7.1.1 0 4) none λr8=>(Q0 (cK84 r8.1.1 m.Q1H) none λr9=>(Q0 (cK114 r9.1.1 m.Q2W 2) none λr10=>(Q0 (cK78 m.fType) none λr11=>(Q0 (cK114 r10.1.1 r11.1.1 1) none λr12=>(Q0 (cK114 r12.1.1 m.Q6j 1) none λr13=>some ((r13.1.1,(true,())),((),())))))))))))))))
def K77:K77.T:=K77.gen K74 K79 QD K84 K78
theorem K77.eq (cK74:K74.T) (cK79:K79.T) (cK114:QD.T) (cK84:K84.T) (cK78:K78.T):EqA K77.sig (K77.H cK74 cK79 cK114 cK84 cK78) Tryz.f63 6 (K77.W (K77.gen cK74 cK79 cK114 cK84 cK78)):=by intro a x;kernel_rfl
theorem K77.ok:NK_ 63 K77.sig (K77.W K77):=ok_ Tryz.func63 (K77.eq K74 K79 QD K84 K78) (hn_ (Z0 (Z0 (Z0 (Z0 (Z0 Z2 K74.ok) K79.ok) QD.ok) K84.ok) K78.ok))
def K73.sig:Sig U:=⟨[.data .Qk,.isl .QW],[],0,[.str,.bool],true,[]⟩
abbrev K73.T:Type:=(Q8)->(List (Qi))->Option ((ByteArray×Bool×Unit)×Unit×Unit)
def K73.W (f:K73.T):K73.sig.F:=λa x=>f a.1 a.2.1
def K73.C:Code:=match Tryz.f33.body with|some c=>c|none=>.skip
def K73.B0:Code:=match (Z3 K73.C).getD 0 .skip with| .loop b=>b| .scope b=>b|_=>.skip
def K73.H (cK3:K3.T) (cK176:Q1v.T) (cK77:K77.T):Hints U:={ Γ:=(Qn 63 (K77.sig.native (K77.W cK77)) (Qn 62 (Q1v.sig.native (Q1v.W cK176)) (Qn 61 (K3.sig.native (K3.W cK3)) noΓ))),ro:=0,base:=13,gotos:=3,loop:=λb=>none}
def K73.gen (cK3:K3.T) (cK176:Q1v.T) (cK77:K77.T):K73.T:=λm l=>
 (Q0 (cK3 (Qm UInt8) m) none λr0=>(bif !r0.1.2.1 then some ((ByteArray.mk (List.toArray (Qm UInt8)),(false,())),((),())) else (Q0 (cK176 r0.1.1 l) none λr1=>(bif !r1.1.2.1 then some ((ByteArray.mk (List.toArray (Qm UInt8)),(false,())),((),())) else (Q0 (cK77 m (Q4 .i64 34 (ofN (List.length r1.1.1)))) none λr2=>(bif !r2.1.2.1 then some ((ByteArray.mk (List.toArray (Qm UInt8)),(false,())),((),())) else (bif Nat.ble (ByteArray.size (ByteArray.mk (List.toArray r2.1.1))+ByteArray.size (ByteArray.mk (List.toArray r1.1.1))) 9223372036854775807 then some ((ByteArray.mk (List.toArray r2.1.1)++ByteArray.mk (List.toArray r1.1.1),(true,())),((),())) else none)))))))
def K73:K73.T:=K73.gen K3 Q1v K77
theorem K73.eq (cK3:K3.T) (cK176:Q1v.T) (cK77:K77.T):EqA K73.sig (K73.H cK3 cK176 cK77) Tryz.f33 6 (K73.W (K73.gen cK3 cK176 cK77)):=by intro a x;kernel_rfl
theorem K73.loops:Z3 K73.C= [(.scope K73.B0)]:=by kernel_rfl
theorem K73.ok:NK_ 33 K73.sig (K73.W K73):=ok_ Tryz.func33 (K73.eq K3 Q1v K77) (hl_ (Z0 (Z0 (Z0 Z2 K3.ok) Q1v.ok) K77.ok) (Zt Z5)) K73.loops
def K28.sig:Sig U:=⟨[.ptr,.int .i64,.data .Qk,.isl .QW,.bool],[.obj .Q7],0,[],true,[]⟩
abbrev K28.T:Type:=(Int)->(Q8)->(List (Qi))->(Bool)->(Q1)->Option (Unit×(Q1×Unit)×Unit)
def K28.W (f:K28.T):K28.sig.F:=λa x=>f a.2.1 a.2.2.1 a.2.2.2.1 a.2.2.2.2.1 x.1
abbrev K28.N (c:K28.T):=Qn 80 (K28.sig.native (K28.W c))
def K28.H (cK73:K73.T):Hints U:={ Γ:=(Qn 33 (K73.sig.native (K73.W cK73)) noΓ),ro:=0,base:=14}
def K28.gen (cK73:K73.T):K28.T:=λn m l want h0=>
 (Q0 (cK73 m l) none λr0=>(bif r0.1.2.1 then (bif room (List.length h0.Q2q+List.length (QJ.mk 1 n 0 want m.fType m.Q2W r0.1.1::Qm QJ)) 64 then some ((),((Q1.Q17 h0 (h0.Q2q++QJ.mk 1 n 0 want m.fType m.Q2W r0.1.1::Qm QJ),()),())) else none) else some ((),((h0,()),()))))
def K28:K28.T:=K28.gen K73
theorem K28.eq (cK73:K73.T):EqA K28.sig (K28.H cK73) Tryz.f80 6 (K28.W (K28.gen cK73)):=by intro a x;kernel_rfl
theorem K28.ok:NK_ 80 K28.sig (K28.W K28):=ok_ Tryz.func80 (K28.eq K73) (hn_ (Z0 Z2 K73.ok))
def Q4f.sig:Sig U:=⟨[.int .i64],[],0,[.int .i64],false,[]⟩
abbrev Q4f.T:Type:=(Int)->Option ((Int×Unit)×Unit×Unit)
def Q4f.W (f:Q4f.T):Q4f.sig.F:=λa x=>f a.1
def Q4f.H:Hints U:={ Γ:=noΓ,ro:=0,base:=13}
def Q4f.gen:Q4f.T:=λseq=>
 some ((Q58 .i64 (Q4 .i64 (Q58 .i64 seq 65535) 1) 65535,()),((),()))
def Q4f:Q4f.T:=Q4f.gen
theorem Q4f.ok:NK_ 142 Q4f.sig (Q4f.W Q4f):=ok_ (H:=Q4f.H) (n:=6) Tryz.func142 (by intro a x;kernel_rfl) (hn_ Z2)
def Q22.sig:Sig U:=⟨[.ptr],[.obj .Q11],0,[],true,[]⟩
abbrev Q22.T:Type:=(Qb)->Option (Unit×(Qb×Unit)×Unit)
def Q22.W (f:Q22.T):Q22.sig.F:=λa x=>f x.1
abbrev Q22.N (c:Q22.T):=Qn 98 (Q22.sig.native (Q22.W c))
def Q22.H:Hints U:={ Γ:=noΓ,ro:=0,base:=14}
def Q22.gen:Q22.T:=λh0=>
 some ((),((Qb.mk h0.Q5F h0.Q6J 0 0 false false false false z2_ 0,()),()))
def Q22:Q22.T:=Q22.gen
theorem Q22.ok:NK_ 98 Q22.sig (Q22.W Q22):=ok_ (H:=Q22.H) (n:=6) Tryz.func98 (by intro a x;kernel_rfl) (hn_ Z2)
def Q3I.sig:Sig U:=⟨[.ptr,.int .i64],[.obj .Q11],0,[.data .Qk],false,[]⟩
abbrev Q3I.T:Type:=(Int)->(Qb)->Option ((Q8×Unit)×(Qb×Unit)×Unit)
def Q3I.W (f:Q3I.T):Q3I.sig.F:=λa x=>f a.2.1 x.1
def Q3I.H (cK125:Q22.T):Hints U:={ Γ:=(Q22.N cK125 noΓ),ro:=0,base:=14}
def Q3I.gen (cK125:Q22.T):Q3I.T:=λseq h0=>
 (Q0 (cK125 h0) none λr0=>some ((Q8.mk 2 r0.2.1.1.Q6J 0 0 r0.2.1.1.Q5F (Q58 .i64 seq 65535) 127 0 z0_ 0 0 z1_ 0 0 0 0 0 0 0,()),((Qb.QbV (Qb.QbY r0.2.1.1 (Q58 .i64 seq 65535)) true,()),())))
def Q3I:Q3I.T:=Q3I.gen Q22
theorem Q3I.eq (cK125:Q22.T):EqA Q3I.sig (Q3I.H cK125) Tryz.f181 6 (Q3I.W (Q3I.gen cK125)):=by intro a x;kernel_rfl
theorem Q3I.ok:NK_ 181 Q3I.sig (Q3I.W Q3I):=ok_ Tryz.func181 (Q3I.eq Q22) (hn_ (Z0 Z2 Q22.ok))
def K59.sig:Sig U:=⟨[.ptr,.int .i64,.int .i64],[.obj .Q10],0,[.data .Qk],false,[]⟩
abbrev K59.T:Type:=(Int)->(Int)->(Qg)->Option ((Q8×Unit)×(Qg×Unit)×Unit)
def K59.W (f:K59.T):K59.sig.F:=λa x=>f a.2.1 a.2.2.1 x.1
def K59.H:Hints U:={ Γ:=noΓ,ro:=0,base:=14}
def K59.gen:K59.T:=λseq a_2 h0=>
 some ((Q8.mk 1 h0.Q6J 0 0 h0.Q5F (Q58 .i64 seq 65535) 127 0 z0_ 0 0 z1_ 0 0 0 0 0 0 0,()),((Qg.Q9N h0 (QZ.mk (Q58 .i64 seq 65535) 0 true false),()),()))
def K59:K59.T:=K59.gen
theorem K59.ok:NK_ 182 K59.sig (K59.W K59):=ok_ (H:=K59.H) (n:=6) Tryz.func182 (by intro a x;kernel_rfl) (hn_ Z2)
def K42.sig:Sig U:=⟨[.ptr,.bool],[.obj .QG,Q4S,Q54],0,[.data .Qk],false,[]⟩
abbrev K42.T:Type:=(Bool)->(Q5)->(Fm Qg)->(Fm Qb)->Option ((Q8×Unit)×(Q5×(Fm Qg)×(Fm Qb)×Unit)×Unit)
def K42.W (f:K42.T):K42.sig.F:=λa x=>f a.2.1 x.1 x.2.1 x.2.2.1
def K42.JR2:Ql U:= [(.normal,⟨24,15,[(4,.ptr 14 0 0)],[(13,.obj .QG),(14,.obj .Qk),(7,.Q1R false .Q10),(8,.Q1R false .Q11)]⟩)]
def K42.H (cK127:Q3I.T) (cK59:K59.T):Hints U:={ Γ:=(Qn 182 (K59.sig.native (K59.W cK59)) (Qn 181 (Q3I.sig.native (Q3I.W cK127)) noΓ)),ro:=0,base:=14,Q2w:=jt_ [(2,K42.JR2)]}
def K42.gen (cK127:Q3I.T) (cK59:K59.T):K42.T:=λpeer h0 g7 g8=>
 (bif peer then (Q0 ((Q0 (h0.14) none λr0=>(Q0 (cK127 h0.Q5R (g8.2 r0)) none λr1=>some ((),(h0,(r1.1.1,(g7,((g8.1,Qr g8.2 r0 r1.2.1.1),())))))))) none λr2=>some ((r2.2.2.1,()),((r2.2.1,r2.2.2.2),()))) else (Q0 (h0.13) none λr3=>(Q0 (cK59 h0.Q5R 0 (g7.2 r3)) none λr4=>some (r4.1,((h0,((g7.1,Qr g7.2 r3 r4.2.1.1),(g8,()))),())))))
def K42:K42.T:=K42.gen Q3I K59
theorem K42.eq (cK127:Q3I.T) (cK59:K59.T):EqA K42.sig (K42.H cK127 cK59) Tryz.f143 6 (K42.W (K42.gen cK127 cK59)):=by intro a x;kernel_rfl
theorem K42.ok:NK_ 143 K42.sig (K42.W K42):=ok_ Tryz.func143 (K42.eq Q3I K59) (hn_ (Z0 (Z0 Z2 Q3I.ok) K59.ok))
def K35.sig:Sig U:=⟨[.ptr,.int .i64,.int .i64],[.obj .Q7,Q4S,Q54,.fam 12 (.map true false .Qu .Q1O)],0,[],true,[]⟩
abbrev K35.T:Type:=(Int)->(Int)->(Q1)->(Fm Qg)->(Fm Qb)->(Nat×(Nat->List (Qd×List (Int))))->Option (Unit×(Q1×(Fm Qg)×(Fm Qb)×(Nat×(Nat->List (Qd×List (Int))))×Unit)×Unit)
def K35.W (f:K35.T):K35.sig.F:=λa x=>f a.2.1 a.2.2.1 x.1 x.2.1 x.2.2.1 x.2.2.2.1
def K35.Q5K:Ql U:= [(.normal,⟨179,14,[(0,.ptr 13 0 0),(6,.Q1f 13 23 42 8 0)],(13,.obj .Q7)::Q7e⟩)]
def K35.JR18:Ql U:= [(.normal,⟨179,15,[(0,.ptr 13 0 0),(1,vi_),(6,.Q1f 13 23 42 8 0),(9,.ptr 14 0 0)],(13,.obj .Q7)::(14,.obj .Qk)::Q7e⟩)]
def K35.Q76:Ql U:= [(.normal,⟨179,14,[(0,.ptr 13 0 0),(1,vi_),(6,.Q1f 13 23 42 8 0),(143,vb_)],(13,.obj .Q7)::Q7e⟩)]
def K35.Q7A:Ql U:= [(.normal,⟨179,14,[(0,.ptr 13 0 0),(1,vi_),(6,.Q1f 13 23 42 8 0)],(13,.obj .Q7)::Q7e⟩)]
def K35.JR6:Ql U:= [(.normal,⟨179,15,[(0,.ptr 13 0 0),(1,vi_),(2,vi_),(6,.Q1f 13 23 42 8 0),(7,.ptr 14 0 0)],(13,.obj .Q7)::(14,.obj .Qk)::Q7e⟩)]
def K35.JR5:Ql U:= [(.normal,⟨179,14,[(0,.ptr 13 0 0),(1,vi_),(2,vi_),(6,.Q1f 13 23 42 8 0),(67,vb_)],(13,.obj .Q7)::Q7e⟩)]
def K35.JR3:Ql U:= [(.normal,⟨179,14,[(0,.ptr 13 0 0),(1,vi_),(2,vi_),(6,.Q1f 13 23 42 8 0)],(13,.obj .Q7)::Q7e⟩)]
def K35.JR1:Ql U:= [(.normal,⟨179,14,[(0,.ptr 13 0 0),(1,vi_),(2,vi_),(6,.Q1f 13 23 42 8 0),(23,vb_)],(13,.obj .Q7)::Q7e⟩)]
def K35.JC15:Ql U:= [(.normal,⟨179,14,[(0,.ptr 13 0 0),(1,vi_),(6,.Q1f 13 23 42 8 0),(8,vb_)],(13,.obj .Q7)::Q7e⟩)]
def K35.JC8:Ql U:= [(.normal,⟨179,15,[(0,.ptr 13 0 0),(1,vi_),(6,.Q1f 13 23 42 8 0),(7,.ptr 14 0 0)],(13,.obj .Q7)::(14,.obj .Qk)::Q7e⟩)]
def K35.H (cK34:K34.T) (cK166:Q2I.T) (cK180:Q4k.T) (cK29:K29.T) (cK28:K28.T) (cK148:Q4f.T) (cK13:K13.T) (cK164:Q21.T) (cK32:K32.T) (cK162:Q2O.T) (cK135:Q1P.T) (cK133:Q1h.T) (cK42:K42.T):Hints U:={ Γ:=(Qn 143 (K42.sig.native (K42.W cK42)) (Q1h.N cK133 (Q1P.N cK135 (Qn 132 (Q2O.sig.native (Q2O.W cK162)) (K32.N cK32 (Q21.N cK164 (K13.N cK13 (Qn 142 (Q4f.sig.native (Q4f.W cK148)) (K28.N cK28 (Qn 141 (K29.sig.native (K29.W cK29)) (Qn 140 (Q4k.sig.native (Q4k.W cK180)) (Qn 130 (Q2I.sig.native (Q2I.W cK166)) (K34.N cK34 noΓ))))))))))))),ro:=0,base:=14,Q2w:=jt_ [(1,K35.JR1),(2,K35.JR3),(3,K35.JR3),(5,K35.JR5),(6,K35.JR6),(10,K35.Q7A),(11,K35.Q7A),(16,K35.Q76),(17,K35.JR18),(18,K35.JR18),(19,K35.Q5K),(20,K35.Q5K)],Q23:=jt_ [(2,K35.JR3),(6,K35.Q7A),(8,K35.JC8),(15,K35.JC15)]}
def K35.gen (cK34:K34.T) (cK166:Q2I.T) (cK180:Q4k.T) (cK29:K29.T) (cK28:K28.T) (cK148:Q4f.T) (cK13:K13.T) (cK164:Q21.T) (cK32:K32.T) (cK162:Q2O.T) (cK135:Q1P.T) (cK133:Q1h.T) (cK42:K42.T):K35.T:=λn now h0 g7 g8 g12=>
 (Q0 (cK34 n h0) none λr0=>(Q0 ((bif ieq (h0.Qf r0.1.1).Q1x 6 then (Q0 (cK166 (h0.Qf r0.1.1).Q4J) none λr1=>some ((n,(now,(r0.1.1,r1.1))),(Q1.QU h0 (Qr h0.Qf r0.1.1 (Q5.Q5a (h0.Qf r0.1.1) r1.2.1.1)),(g7,(g8,(g12,())))))) else some ((n,(now,(r0.1.1,(false,())))),(h0,(g7,(g8,(g12,()))))))) none λr2=>(Q0 ((bif r2.1.2.2.2.1 then (Q0 ((Q0 (cK180 r2.2.1.Qs r2.2.1.Q2b r2.1.1 (r2.2.1.Qf r2.1.2.2.1).Q5X) none λr3=>(Q0 (cK29 r2.2.1 r2.2.2.2.2.1) none λr4=>(Q0 (cK28 r2.1.1 r3.1.1 r4.1.1 false r2.2.1) none λr5=>some ((r2.1.1,(r2.1.2.1,(r2.1.2.2.1,()))),(r5.2.1.1,r2.2.2)))))) none λr6=>(Q0 ((Q0 (cK148 (r6.2.1.Qf r6.1.2.2.1).Q5X) none λr7=>some (r6.1,(Q1.QU r6.2.1 (Qr r6.2.1.Qf r6.1.2.2.1 (Q5.Q9j (r6.2.1.Qf r6.1.2.2.1) r7.1.1)),r6.2.2)))) none λr8=>(Q0 (cK13 r8.2.1) none λr9=>(Q0 (cK164 r9.1.1 (r8.2.1.Qf r8.1.2.2.1).Q4J) none λr10=>some (r8.1,(Q1.QU r8.2.1 (Qr r8.2.1.Qf r8.1.2.2.1 (Q5.Q5a (r8.2.1.Qf r8.1.2.2.1) r10.2.1.1)),r8.2.2)))))) else some ((r2.1.1,(r2.1.2.1,(r2.1.2.2.1,()))),r2.2))) none λr11=>(Q0 ((bif ieq (r11.2.1.Qf r11.1.2.2.1).Q1x 6 then (Q0 (cK166 (r11.2.1.Qf r11.1.2.2.1).fsync) none λr12=>some ((r11.1.1,(r11.1.2.1,(r11.1.2.2.1,r12.1))),(Q1.QU r11.2.1 (Qr r11.2.1.Qf r11.1.2.2.1 (Q5.Q6t (r11.2.1.Qf r11.1.2.2.1) r12.2.1.1)),r11.2.2))) else some ((r11.1.1,(r11.1.2.1,(r11.1.2.2.1,(false,())))),r11.2))) none λr13=>(Q0 ((bif r13.1.2.2.2.1 then (Q0 ((Q0 (cK32 r13.1.1 r13.2.1) none λr14=>some ((r13.1.1,(r13.1.2.1,(r13.1.2.2.1,()))),(r13.2.1,(Q8.mk 0 r13.2.1.Qs.Q1D 0 0 r14.1.1 (r13.2.1.Qf r13.1.2.2.1).Q7N r13.2.1.Qs.Q3h 0 z0_ 0 0 z1_ 0 0 0 0 0 0 0,r13.2.2))))) none λr15=>(Q0 ((bif r15.2.1.Qs.Q4T then some ((r15.1.1,r15.1.2.2),(r15.2.1,(Q8.Q7E r15.2.2.1 r15.1.2.1,r15.2.2.2))) else some ((r15.1.1,r15.1.2.2),(r15.2.1,(Q8.QaA r15.2.2.1 512,r15.2.2.2))))) none λr16=>(Q0 ((Q0 (cK28 r16.1.1 r16.2.2.1 (Qm Qi) (!r16.2.1.Qs.Q4T) r16.2.1) none λr17=>some (r16.1,(r17.2.1.1,r16.2.2.2)))) none λr18=>(Q0 ((Q0 (cK148 (r18.2.1.Qf r18.1.2.1).Q7N) none λr19=>some (r18.1,(Q1.QU r18.2.1 (Qr r18.2.1.Qf r18.1.2.1 (Q5.QaY (r18.2.1.Qf r18.1.2.1) r19.1.1)),r18.2.2)))) none λr20=>(Q0 (cK162 r20.2.1.Qs.Q3h) none λr21=>(Q0 (cK164 r21.1.1 (r20.2.1.Qf r20.1.2.1).fsync) none λr22=>some (r20.1,(Q1.QU r20.2.1 (Qr r20.2.1.Qf r20.1.2.1 (Q5.Q6t (r20.2.1.Qf r20.1.2.1) r22.2.1.1)),r20.2.2)))))))) else some ((r13.1.1,(r13.1.2.2.1,())),r13.2))) none λr23=>(Q0 (cK135 (r23.2.1.Qf r23.1.2.1).Q1x) none λr24=>(Q0 ((bif r23.2.1.Qs.Q4o then (Q0 (cK133 (r23.2.1.Qf r23.1.2.1).Q1x) none λr25=>some ((r23.1.1,(r23.1.2.1,r25.1)),r23.2)) else some ((r23.1.1,(r23.1.2.1,r24.1)),r23.2))) none λr26=>(Q0 ((bif r26.1.2.2.1 then (Q0 (cK166 (r26.2.1.Qf r26.1.2.1).Q6S) none λr27=>some ((r26.1.1,(r26.1.2.1,r27.1)),(Q1.QU r26.2.1 (Qr r26.2.1.Qf r26.1.2.1 (Q5.Q6i (r26.2.1.Qf r26.1.2.1) r27.2.1.1)),r26.2.2))) else some ((r26.1.1,(r26.1.2.1,(false,()))),r26.2))) none λr28=>(bif r28.1.2.2.1 then (Q0 ((Q0 (cK42 r28.2.1.Qs.Q4o (r28.2.1.Qf r28.1.2.1) r28.2.2.1 r28.2.2.2.1) none λr29=>some ((r28.1.1,(r28.1.2.1,())),(Q1.QU r28.2.1 (Qr r28.2.1.Qf r28.1.2.1 r29.2.1.1),(r29.1.1,(r29.2.1.2.1,(r29.2.1.2.2.1,r28.2.2.2.2))))))) none λr30=>(Q0 ((Q0 (cK28 r30.1.1 (Q8.Q7d r30.2.2.1 r30.2.1.Qs.Q1D) (Qm Qi) true r30.2.1) none λr31=>some (r30.1.2,(r31.2.1.1,r30.2.2.2)))) none λr32=>(Q0 ((Q0 (cK148 (r32.2.1.Qf r32.1.1).Q5R) none λr33=>some (r32.1,(Q1.QU r32.2.1 (Qr r32.2.1.Qf r32.1.1 (Q5.Q9o (r32.2.1.Qf r32.1.1) r33.1.1)),r32.2.2)))) none λr34=>(Q0 (cK162 r34.2.1.Qs.Q3m) none λr35=>(Q0 (cK164 r35.1.1 (r34.2.1.Qf r34.1.1).Q6S) none λr36=>some ((),((Q1.QU r34.2.1 (Qr r34.2.1.Qf r34.1.1 (Q5.Q6i (r34.2.1.Qf r34.1.1) r36.2.1.1)),r34.2.2),()))))))) else some ((),(r28.2,())))))))))))
def K35:K35.T:=K35.gen K34 Q2I Q4k K29 K28 Q4f K13 Q21 K32 Q2O Q1P Q1h K42
theorem K35.eq (cK34:K34.T) (cK166:Q2I.T) (cK180:Q4k.T) (cK29:K29.T) (cK28:K28.T) (cK148:Q4f.T) (cK13:K13.T) (cK164:Q21.T) (cK32:K32.T) (cK162:Q2O.T) (cK135:Q1P.T) (cK133:Q1h.T) (cK42:K42.T):EqA K35.sig (K35.H cK34 cK166 cK180 cK29 cK28 cK148 cK13 cK164 cK32 cK162 cK135 cK133 cK42) Tryz.f72 6 (K35.W (K35.gen cK34 cK166 cK180 cK29 cK28 cK148 cK13 cK164 cK32 cK162 cK135 cK133 cK42)):=by intro a x;kernel_rfl
theorem K35.ok:NK_ 72 K35.sig (K35.W K35):=ok_ Tryz.func72 (K35.eq K34 Q2I Q4k K29 K28 Q4f K13 Q21 K32 Q2O Q1P Q1h K42) (hn_ (Z0 (Z0 (Z0 (Z0 (Z0 (Z0 (Z0 (Z0 (Z0 (Z0 (Z0 (Z0 (Z0 Z2 K34.ok) Q2I.ok) Q4k.ok) K29.ok) K28.ok) Q4f.ok) K13.ok) Q21.ok) K32.ok) Q2O.ok) Q1P.ok) Q1h.ok) K42.ok))
def K36.sig:Sig U:=⟨[.ptr,.int .i64],[.obj .Q7,Q5c,Q4S,Q54,Q5y,Q4L,.fam 12 (.map true false .Qu .Q1O)],0,[],true,[]⟩
abbrev K36.T:Type:=(Int)->(Q1)->(Fm Qe)->(Fm Qg)->(Fm Qb)->(Fm Qh)->(Fm Qz)->(Nat×(Nat->List (Qd×List (Int))))->Option (Unit×(Q1×Q6R)×Unit)
def K36.W (f:K36.T):K36.sig.F:=λa x=>f a.2.1 x.1 x.2.1 x.2.2.1 x.2.2.2.1 x.2.2.2.2.1 x.2.2.2.2.2.1 x.2.2.2.2.2.2.1
def K36.L0:Shape U:=⟨52,14,[(0,.ptr 13 0 0),(1,vi_),(4,vi_)],(13,.obj .Q7)::Q8C⟩
def K36.X0:Ql U:= [(.exit 0,⟨52,14,[(0,.ptr 13 0 0),(1,vi_)],(13,.obj .Q7)::Q8C⟩)]
abbrev K36.l0T:Type:=((Int×Int×Unit)×(Q1×Q6R))->Option (((Int×Unit)×(Q1×Q6R)))
def K36.L1:Shape U:=⟨52,14,[(0,.ptr 13 0 0),(1,vi_),(5,vi_)],(13,.obj .Q7)::Q8C⟩
def K36.X1:Ql U:= [(.exit 2,⟨52,14,[],(13,.obj .Q7)::Q8C⟩)]
abbrev K36.l1T:Type:=((Int×Int×Unit)×(Q1×Q6R))->Option ((Unit×(Q1×Q6R)))
def K36.C:Code:=match Tryz.f44.body with|some c=>c|none=>.skip
def K36.B0:Code:=match (Z3 K36.C).getD 0 .skip with| .loop b=>b| .scope b=>b|_=>.skip
def K36.B1:Code:=match (Z3 K36.C).getD 1 .skip with| .loop b=>b| .scope b=>b|_=>.skip
def K36.Q8v:Ql U:= [(.normal,⟨52,14,[(0,.ptr 13 0 0),(1,vi_),(5,vi_)],(13,.obj .Q7)::Q8C⟩)]
def K36.JR4:Ql U:= [(.normal,⟨52,14,[(0,.ptr 13 0 0),(1,vi_),(4,vi_)],(13,.obj .Q7)::Q8C⟩)]
def K36.JR0:Ql U:= [(.normal,⟨52,14,[(0,.ptr 13 0 0),(1,vi_)],(13,.obj .Q7)::Q8C⟩)]
def K36.H (cK34:K34.T) (cK19:K19.T) (cK13:K13.T) (cK20:K20.T) (cK35:K35.T) (l0:K36.l0T) (l1:K36.l1T):Hints U:={ Γ:=(Qn 72 (K35.sig.native (K35.W cK35)) (Qn 71 (K20.sig.native (K20.W cK20)) (K13.N cK13 (Qn 69 (K19.sig.native (K19.W cK19)) (K34.N cK34 noΓ))))),ro:=0,base:=14,Q2w:=jt_ [(0,K36.JR0),(4,K36.JR4),(10,K36.Q8v)],Q23:=jt_ [(6,K36.JR0)],loop:=jt_ [(2,(Z9 (0,14) K36.L0 K36.X0 l0)),(8,(Z9 (0,14) K36.L1 K36.X1 l1))]}
def K36.Q2y (cK34:K34.T) (cK19:K19.T) (cK13:K13.T) (cK20:K20.T) (cK35:K35.T) (a:(Int×Int×Unit)×(Q1×Q6R)):Option (((Int×Int×Unit)×(Q1×Q6R))⊕((Unit×(Q1×Q6R)))):=
 (bif ile a.1.2.1 a.2.1.Qs.QB then (Q0 ((Q0 (cK35 a.1.2.1 a.1.1 a.2.1 a.2.2.2.1 a.2.2.2.2.1 a.2.2.2.2.2.2.2.1) none λr0=>some (a.1,(r0.2.1.1,(a.2.2.1,(r0.2.1.2.1,(r0.2.1.2.2.1,(a.2.2.2.2.2.1,(a.2.2.2.2.2.2.1,r0.2.1.2.2.2))))))))) none λr1=>some (.inl ((r1.1.1,(Q4 .i64 r1.1.2.1 1,())),r1.2))) else some (.inr ((),a.2)))
def K36.F1:K36.l1T:=λa=>Z8 (1000000) (K36.Q2y K34 K19 K13 K20 K35) a
def K36.QT (cK34:K34.T) (cK19:K19.T) (cK13:K13.T) (cK20:K20.T) (cK35:K35.T) (a:(Int×Int×Unit)×(Q1×Q6R)):Option (((Int×Int×Unit)×(Q1×Q6R))⊕(((Int×Unit)×(Q1×Q6R)))):=
 (bif ile a.1.2.1 a.2.1.Qs.QB then (Q0 ((Q0 (cK34 a.1.2.1 a.2.1) none λr0=>(Q0 (cK19 r0.1.1 a.2.1 a.2.2.1 a.2.2.2.2.2.2.2.1) none λr1=>some (a.1,(r1.2.1.1,(r1.2.1.2.1,(a.2.2.2.1,(a.2.2.2.2.1,(a.2.2.2.2.2.1,(a.2.2.2.2.2.2.1,r1.2.1.2.2)))))))))) none λr2=>some (.inl ((r2.1.1,(Q4 .i64 r2.1.2.1 1,())),r2.2))) else some (.inr ((a.1.1,()),a.2)))
def K36.F0:K36.l0T:=λa=>Z8 (1000000) (K36.QT K34 K19 K13 K20 K35) a
def K36.gen (cK34:K34.T) (cK19:K19.T) (cK13:K13.T) (cK20:K20.T) (cK35:K35.T) (l0:K36.l0T) (l1:K36.l1T):K36.T:=λnow h0 g6 g7 g8 g9 g10 g12=>
 (Q0 (l0 ((now,(1:Int),()),Q1.Q8P h0 (Z4 false (Q4 .i64 h0.Q5p 1) 1099511627776),g6,g7,g8,g9,g10,g12,())) none λr0=>(Q0 (cK13 r0.2.1) none λr1=>(bif ine r1.1.1 0 then (Q0 ((bif ieq (Q5z r0.2.1.Q5p r1.1.1) 0 then (Q0 (cK20 r0.2.1 r0.2.2.1 r0.2.2.2.1 r0.2.2.2.2.2.1 r0.2.2.2.2.2.2.1) none λr2=>some (r0.1,(r2.2.1.1,(r2.2.1.2.1,(r2.2.1.2.2.1,(r0.2.2.2.2.1,(r2.2.1.2.2.2.1,(r2.2.1.2.2.2.2.1,r0.2.2.2.2.2.2.2)))))))) else some r0)) none λr3=>(Q0 (l1 ((r3.1.1,(1:Int),()),r3.2)) none λr4=>some ((),(r4.2,())))) else none)))
def K36:K36.T:=K36.gen K34 K19 K13 K20 K35 K36.F0 K36.F1
theorem K36.seq1 (cK34:K34.T) (cK19:K19.T) (cK13:K13.T) (cK20:K20.T) (cK35:K35.T) (l0:K36.l0T) (l1:K36.l1T) (a:K36.L1.T):run Tryz.prog (K36.H cK34 cK19 cK13 cK20 cK35 l0 l1) 6 (Option (K36.L1.T⊕ExT K36.X1)) none K36.B1 (K36.L1.enc a) (Zj (0,14) K36.L1 K36.X1)=K36.Q2y cK34 cK19 cK13 cK20 cK35 a:=by kernel_rfl
abbrev K36.h:=K36.H K34 K19 K13 K20 K35 K36.F0 K36.F1
theorem K36.Q4Q:LO_ K36.h K36.B1 (Z9 (0,14) K36.L1 K36.X1 K36.F1):=lk_ (hn_ (Z0 (Z0 (Z0 (Z0 (Z0 Z2 K34.ok) K19.ok) K13.ok) K20.ok) K35.ok)) (K36.seq1 K34 K19 K13 K20 K35 K36.F0 K36.F1)
theorem K36.Q24 (cK34:K34.T) (cK19:K19.T) (cK13:K13.T) (cK20:K20.T) (cK35:K35.T) (l0:K36.l0T) (l1:K36.l1T) (a:K36.L0.T):run Tryz.prog (K36.H cK34 cK19 cK13 cK20 cK35 l0 l1) 6 (Option (K36.L0.T⊕ExT K36.X0)) none K36.B0 (K36.L0.enc a) (Zj (0,14) K36.L0 K36.X0)=K36.QT cK34 cK19 cK13 cK20 cK35 a:=by kernel_rfl
theorem K36.Q1V:LO_ K36.h K36.B0 (Z9 (0,14) K36.L0 K36.X0 K36.F0):=lk_ (hn_ (Z0 (Z0 (Z0 (Z0 (Z0 Z2 K34.ok) K19.ok) K13.ok) K20.ok) K35.ok)) (K36.Q24 K34 K19 K13 K20 K35 K36.F0 K36.F1)
theorem K36.eq (cK34:K34.T) (cK19:K19.T) (cK13:K13.T) (cK20:K20.T) (cK35:K35.T) (l0:K36.l0T) (l1:K36.l1T):EqA K36.sig (K36.H cK34 cK19 cK13 cK20 cK35 l0 l1) Tryz.f44 6 (K36.W (K36.gen cK34 cK19 cK13 cK20 cK35 l0 l1)):=by intro a x;kernel_rfl
theorem K36.loops:Z3 K36.C= [(.loop K36.B0),(.loop K36.B1)]:=by kernel_rfl
theorem K36.ok:NK_ 44 K36.sig (K36.W K36):=ok_ Tryz.func44 (K36.eq K34 K19 K13 K20 K35 K36.F0 K36.F1) (hl_ (Z0 (Z0 (Z0 (Z0 (Z0 Z2 K34.ok) K19.ok) K13.ok) K20.ok) K35.ok) (Z7 (by kernel_rfl) K36.Q1V (Z7 (by kernel_rfl) K36.Q4Q Z5))) K36.loops
def Q33.sig:Sig U:=⟨[.isl .u8,.int .i64,.int .i64],[],0,[.bool],false,[]⟩
abbrev Q33.T:Type:=(List (UInt8))->(Int)->(Int)->Option ((Bool×Unit)×Unit×Unit)
def Q33.W (f:Q33.T):Q33.sig.F:=λa x=>f a.1 a.2.1 a.2.2.1
def Q33.H:Hints U:={ Γ:=noΓ,ro:=0,base:=13}
def Q33.gen:Q33.T:=λb at_1 n=>
 (bif ilt n 0 then some ((true,()),((),())) else (bif ilt at_1 0 then some ((true,()),((),())) else (bif ilt (ofN (List.length b)) at_1 then some ((true,()),((),())) else some ((ilt (Q1s .i64 (ofN (List.length b)) at_1) n,()),((),())))))
def Q33:Q33.T:=Q33.gen
theorem Q33.ok:NK_ 167 Q33.sig (Q33.W Q33):=ok_ (H:=Q33.H) (n:=6) Tryz.func167 (by intro a x;kernel_rfl) (hn_ Z2)
def Q1g.sig:Sig U:=⟨[.isl .u8],[],0,[.int .u64],false,[]⟩
abbrev Q1g.T:Type:=(List (UInt8))->Option ((Int×Unit)×Unit×Unit)
def Q1g.W (f:Q1g.T):Q1g.sig.F:=λa x=>f a.1
def Q1g.L0:Shape U:=⟨19,13,[(3,.val (.int .u64)),(6,.val (.isl .u8)),(7,vi_),(8,vi_)],[]⟩
def Q1g.X0:Ql U:= [(.exit 0,⟨19,13,[(3,.val (.int .u64))],[]⟩)]
abbrev Q1g.l0T:Type:=((Int×(List (UInt8))×Int×Int×Unit)×Unit)->Option (((Int×Unit)×Unit))
def Q1g.C:Code:=match Tryz.f168.body with|some c=>c|none=>.skip
def Q1g.B0:Code:=match (Z3 Q1g.C).getD 0 .skip with| .loop b=>b| .scope b=>b|_=>.skip
def Q1g.H (l0:Q1g.l0T):Hints U:={ Γ:=noΓ,ro:=0,base:=13,loop:=jt_ [(3,(Z9 (0,13) Q1g.L0 Q1g.X0 l0))]}
def Q1g.QT (a:(Int×(List (UInt8))×Int×Int×Unit)×Unit):Option (((Int×(List (UInt8))×Int×Int×Unit)×Unit)⊕(((Int×Unit)×Unit))):=
 (bif ilt a.1.2.2.2.1 a.1.2.2.1 then (bif inR a.1.2.2.2.1 (List.length a.1.2.1) then some (.inl ((ior .u64 (Q8A .u64 a.1.1 8) (IntKind.wrap .u64 (ofN (UInt8.toNat (List.getD a.1.2.1 (Int.toNat a.1.2.2.2.1) (0:D UC.u8))))),(a.1.2.1,(a.1.2.2.1,(Q4 .i64 a.1.2.2.2.1 1,())))),())) else none) else some (.inr ((a.1.1,()),())))
def Q1g.F0:Q1g.l0T:=λa=>Z8 (1000000+(a.1.2.1.length)) (Q1g.QT) a
def Q1g.gen (l0:Q1g.l0T):Q1g.T:=λb=>
 (Q0 (l0 (((0:Int),b,ofN (List.length b),(0:Int),()),())) none λr0=>some (r0.1,((),())))
def Q1g:Q1g.T:=Q1g.gen Q1g.F0
theorem Q1g.Q24 (l0:Q1g.l0T) (a:Q1g.L0.T):run Tryz.prog (Q1g.H l0) 6 (Option (Q1g.L0.T⊕ExT Q1g.X0)) none Q1g.B0 (Q1g.L0.enc a) (Zj (0,13) Q1g.L0 Q1g.X0)=Q1g.QT a:=by kernel_rfl
abbrev Q1g.h:=Q1g.H Q1g.F0
theorem Q1g.Q1V:LO_ Q1g.h Q1g.B0 (Z9 (0,13) Q1g.L0 Q1g.X0 Q1g.F0):=lk_ (hn_ Z2) (Q1g.Q24 Q1g.F0)
theorem Q1g.eq (l0:Q1g.l0T):EqA Q1g.sig (Q1g.H l0) Tryz.f168 6 (Q1g.W (Q1g.gen l0)):=by intro a x;kernel_rfl
theorem Q1g.loops:Z3 Q1g.C= [(.loop Q1g.B0)]:=by kernel_rfl
theorem Q1g.ok:NK_ 168 Q1g.sig (Q1g.W Q1g):=ok_ Tryz.func168 (Q1g.eq Q1g.F0) (hl_ Z2 (Z7 (by kernel_rfl) Q1g.Q1V Z5)) Q1g.loops
def Q1o.sig:Sig U:=⟨[.isl .u8,.int .i64,.int .i64],[],0,[.int .i64,.bool],true,[]⟩
abbrev Q1o.T:Type:=(List (UInt8))->(Int)->(Int)->Option ((Int×Bool×Unit)×Unit×Unit)
def Q1o.W (f:Q1o.T):Q1o.sig.F:=λa x=>f a.1 a.2.1 a.2.2.1
abbrev Q1o.N (c:Q1o.T):=Qn 101 (Q1o.sig.native (Q1o.W c))
def Q1o.H (cK117:Q33.T) (cK118:Q1g.T):Hints U:={ Γ:=(Qn 168 (Q1g.sig.native (Q1g.W cK118)) (Qn 167 (Q33.sig.native (Q33.W cK117)) noΓ)),ro:=0,base:=13,Q1L:=jt_ [(1,[(19,vb_)])]}
def Q1o.gen (cK117:Q33.T) (cK118:Q1g.T):Q1o.T:=λb at_1 n=>
 (Q0 ((bif ilt n 1 then some (true,()) else (bif ilt 7 n then some (true,()) else (Q0 (cK117 b at_1 n) none λr0=>some r0.1)))) none λr1=>(bif r1.1 then some (((0:Int),(false,())),((),())) else (bif le3 at_1 (Q4 .i64 at_1 n) (List.length b) then (Q0 (cK118 (List.drop (Int.toNat at_1) (List.take (Int.toNat (Q4 .i64 at_1 n)) b))) none λr2=>some ((IntKind.wrap .i64 r2.1.1,(true,())),((),()))) else none)))
def Q1o:Q1o.T:=Q1o.gen Q33 Q1g
theorem Q1o.eq (cK117:Q33.T) (cK118:Q1g.T):EqA Q1o.sig (Q1o.H cK117 cK118) Tryz.f101 6 (Q1o.W (Q1o.gen cK117 cK118)):=by intro a x;kernel_rfl
theorem Q1o.ok:NK_ 101 Q1o.sig (Q1o.W Q1o):=ok_ Tryz.func101 (Q1o.eq Q33 Q1g) (hn_ (Z0 (Z0 Z2 Q33.ok) Q1g.ok))
def Q2o.sig:Sig U:=⟨[.isl .u8,.int .i64,.int .i64],[],0,[.int .i64,.bool],true,[]⟩
abbrev Q2o.T:Type:=(List (UInt8))->(Int)->(Int)->Option ((Int×Bool×Unit)×Unit×Unit)
def Q2o.W (f:Q2o.T):Q2o.sig.F:=λa x=>f a.1 a.2.1 a.2.2.1
abbrev Q2o.N (c:Q2o.T):=Qn 104 (Q2o.sig.native (Q2o.W c))
def Q2o.H (cK117:Q33.T) (cK118:Q1g.T):Hints U:={ Γ:=(Qn 168 (Q1g.sig.native (Q1g.W cK118)) (Qn 167 (Q33.sig.native (Q33.W cK117)) noΓ)),ro:=0,base:=13,Q1L:=jt_ [(1,[(20,vb_)])]}
def Q2o.gen (cK117:Q33.T) (cK118:Q1g.T):Q2o.T:=λb at_1 n=>
 (Q0 ((bif ilt n 1 then some (true,()) else (bif ilt 8 n then some (true,()) else (Q0 (cK117 b at_1 n) none λr0=>some r0.1)))) none λr1=>(bif r1.1 then some (((0:Int),(false,())),((),())) else (bif le3 at_1 (Q4 .i64 at_1 n) (List.length b) then (Q0 (cK118 (List.drop (Int.toNat at_1) (List.take (Int.toNat (Q4 .i64 at_1 n)) b))) none λr2=>(bif ile 0 (Q1s .i64 64 (Q3l .i64 8 n)) then (bif ile 0 (Q1s .i64 64 (Q3l .i64 8 n)) then some ((Q5N .i64 (IntKind.wrap .i64 (Q8A .u64 r2.1.1 (Q1s .i64 64 (Q3l .i64 8 n)))) (Q1s .i64 64 (Q3l .i64 8 n)),(true,())),((),())) else none) else none)) else none)))
def Q2o:Q2o.T:=Q2o.gen Q33 Q1g
theorem Q2o.eq (cK117:Q33.T) (cK118:Q1g.T):EqA Q2o.sig (Q2o.H cK117 cK118) Tryz.f104 6 (Q2o.W (Q2o.gen cK117 cK118)):=by intro a x;kernel_rfl
theorem Q2o.ok:NK_ 104 Q2o.sig (Q2o.W Q2o):=ok_ Tryz.func104 (Q2o.eq Q33 Q1g) (hn_ (Z0 (Z0 Z2 Q33.ok) Q1g.ok))
def Q2a.sig:Sig U:=⟨[.isl .u8,.int .i64],[],0,[.int .u64,.bool],true,[]⟩
abbrev Q2a.T:Type:=(List (UInt8))->(Int)->Option ((Int×Bool×Unit)×Unit×Unit)
def Q2a.W (f:Q2a.T):Q2a.sig.F:=λa x=>f a.1 a.2.1
abbrev Q2a.N (c:Q2a.T):=Qn 111 (Q2a.sig.native (Q2a.W c))
def Q2a.H (cK116:Q2o.T):Hints U:={ Γ:=(Q2o.N cK116 noΓ),ro:=0,base:=13}
def Q2a.gen (cK116:Q2o.T):Q2a.T:=λb at_1=>
 (Q0 (cK116 b at_1 8) none λr0=>some ((IntKind.wrap .u64 r0.1.1,r0.1.2),((),())))
def Q2a:Q2a.T:=Q2a.gen Q2o
theorem Q2a.eq (cK116:Q2o.T):EqA Q2a.sig (Q2a.H cK116) Tryz.f111 6 (Q2a.W (Q2a.gen cK116)):=by intro a x;kernel_rfl
theorem Q2a.ok:NK_ 111 Q2a.sig (Q2a.W Q2a):=ok_ Tryz.func111 (Q2a.eq Q2o) (hn_ (Z0 Z2 Q2o.ok))
def K81.sig:Sig U:=⟨[.isl .u8,.int .i64],[],0,[.data .Qu,.bool],true,[]⟩
abbrev K81.T:Type:=(List (UInt8))->(Int)->Option ((Qd×Bool×Unit)×Unit×Unit)
def K81.W (f:K81.T):K81.sig.F:=λa x=>f a.1 a.2.1
def K81.H (cK113:Q2a.T) (cK112:Q1o.T):Hints U:={ Γ:=(Q1o.N cK112 (Q2a.N cK113 noΓ)),ro:=0,base:=13,Q1L:=jt_ [(1,[(24,vb_)])]}
def K81.gen (cK113:Q2a.T) (cK112:Q1o.T):K81.T:=λb at_1=>
 (Q0 ((bif ilt at_1 0 then some (true,()) else (bif ilt (ofN (List.length b)) at_1 then some (true,()) else some (ilt (Q1s .i64 (ofN (List.length b)) at_1) 10,())))) none λr0=>(bif r0.1 then some ((Qd.mk 0 0,(false,())),((),())) else (Q0 (cK113 b at_1) none λr1=>(Q0 (cK112 b (Q4 .i64 at_1 8) 2) none λr2=>some ((Qd.mk r1.1.1 r2.1.1,(true,())),((),()))))))
def K81:K81.T:=K81.gen Q2a Q1o
theorem K81.eq (cK113:Q2a.T) (cK112:Q1o.T):EqA K81.sig (K81.H cK113 cK112) Tryz.f105 6 (K81.W (K81.gen cK113 cK112)):=by intro a x;kernel_rfl
theorem K81.ok:NK_ 105 K81.sig (K81.W K81):=ok_ Tryz.func105 (K81.eq Q2a Q1o) (hn_ (Z0 (Z0 Z2 Q2a.ok) Q1o.ok))
def K75.sig:Sig U:=⟨[.isl .u8],[],0,[.data .Qk,.int .i64,.int .i64],true,[]⟩
abbrev K75.T:Type:=(List (UInt8))->Option ((Q8×Int×Int×Unit)×Unit×Unit)
def K75.W (f:K75.T):K75.sig.F:=λa x=>f a.1
def K75.H (cK112:Q1o.T) (cK76:K76.T) (cK79:K79.T) (cK116:Q2o.T) (cK81:K81.T):Hints U:={ Γ:=(Qn 105 (K81.sig.native (K81.W cK81)) (Q2o.N cK116 (K79.N cK79 (Qn 102 (K76.sig.native (K76.W cK76)) (Q1o.N cK112 noΓ))))),ro:=0,base:=13,Q1L:=jt_ [(4,[(17,vb_)])]}
def K75.gen (cK112:Q1o.T) (cK76:K76.T) (cK79:K79.T) (cK116:Q2o.T) (cK81:K81.T):K75.T:=λb=>
 (bif ilt (ofN (List.length b)) 34 then some ((Q8.mk 0 0 0 0 z0_ 0 0 0 z0_ 0 0 z1_ 0 0 0 0 0 0 0,((0:Int),((2:Int),()))),((),())) else (Q0 (cK112 b 2 2) none λr0=>(Q0 ((bif inR 0 (List.length b) then (Q0 (cK76 (IntKind.wrap .i64 (ofN (UInt8.toNat (List.getD b (Int.toNat 0) (0:D UC.u8)))))) none λr1=>(bif !r1.1.1 then some (true,()) else (bif inR 1 (List.length b) then (bif ine (Q58 .u8 (ofN (UInt8.toNat (List.getD b (Int.toNat 1) (0:D UC.u8)))) 15) 2 then some (true,()) else (Q0 (cK79 r0.1.1 34 400) none λr2=>some (!r2.1.1,()))) else none))) else none)) none λr3=>(bif r3.1 then some ((Q8.mk 0 0 0 0 z0_ 0 0 0 z0_ 0 0 z1_ 0 0 0 0 0 0 0,((0:Int),((4:Int),()))),((),())) else (bif ilt (ofN (List.length b)) r0.1.1 then some ((Q8.mk 0 0 0 0 z0_ 0 0 0 z0_ 0 0 z1_ 0 0 0 0 0 0 0,((0:Int),((2:Int),()))),((),())) else (bif ilt r0.1.1 (ofN (List.length b)) then some ((Q8.mk 0 0 0 0 z0_ 0 0 0 z0_ 0 0 z1_ 0 0 0 0 0 0 0,((0:Int),((3:Int),()))),((),())) else (bif inR 0 (List.length b) then (bif inR 4 (List.length b) then (Q0 (cK112 b 6 2) none λr4=>(Q0 (cK116 b 8 8) none λr5=>(Q0 (cK81 b 20) none λr6=>(Q0 (cK112 b 30 2) none λr7=>(Q0 (cK116 b 33 1) none λr8=>some ((Q8.mk (IntKind.wrap .i64 (ofN (UInt8.toNat (List.getD b (Int.toNat 0) (0:D UC.u8))))) (IntKind.wrap .i64 (ofN (UInt8.toNat (List.getD b (Int.toNat 4) (0:D UC.u8))))) r4.1.1 r5.1.1 r6.1.1 r7.1.1 r8.1.1 0 z0_ 0 0 z1_ 0 0 0 0 0 0 0,(r0.1.1,((0:Int),()))),((),()))))))) else none) else none)))))))
def K75:K75.T:=K75.gen Q1o K76 K79 Q2o K81
theorem K75.eq (cK112:Q1o.T) (cK76:K76.T) (cK79:K79.T) (cK116:Q2o.T) (cK81:K81.T):EqA K75.sig (K75.H cK112 cK76 cK79 cK116 cK81) Tryz.f53 6 (K75.W (K75.gen cK112 cK76 cK79 cK116 cK81)):=by intro a x;kernel_rfl
theorem K75.ok:NK_ 53 K75.sig (K75.W K75):=ok_ Tryz.func53 (K75.eq Q1o K76 K79 Q2o K81) (hn_ (Z0 (Z0 (Z0 (Z0 (Z0 Z2 Q1o.ok) K76.ok) K79.ok) Q2o.ok) K81.ok))
def K2.sig:Sig U:=⟨[.int .i64],[],0,[.int .i64],false,[]⟩
abbrev K2.T:Type:=(Int)->Option ((Int×Unit)×Unit×Unit)
def K2.W (f:K2.T):K2.sig.F:=λa x=>f a.1
def K2.JC8:Ql U:= [(.normal,⟨18,13,[(3,vi_),(9,vb_)],[]⟩)]
def K2.JC6:Ql U:= [(.normal,⟨18,13,[],[]⟩),
 (.ret,⟨18,13,[(2,vi_)],[]⟩)]
def K2.JC3:Ql U:= [(.normal,⟨18,13,[(3,vi_),(4,vb_)],[]⟩)]
def K2.H:Hints U:={ Γ:=noΓ,ro:=0,base:=13,Q23:=jt_ [(3,K2.JC3),(6,K2.JC6),(8,K2.JC8)]}
def K2.gen:K2.T:=λtyp=>
 (Q0 ((bif ieq typ 0 then some ((typ,(ieq typ 0,())),()) else (bif ieq typ 1 then some ((typ,(ieq typ 1,())),()) else (bif ieq typ 8 then some ((typ,(ieq typ 8,())),()) else some ((typ,(ieq typ 12,())),()))))) none λr0=>(Q0 ((bif r0.1.2.1 then some (.inr (((10:Int),()),())) else (Q0 ((bif ieq r0.1.1 2 then some ((r0.1.1,(ieq r0.1.1 2,())),()) else (bif ieq r0.1.1 3 then some ((r0.1.1,(ieq r0.1.1 3,())),()) else (bif ieq r0.1.1 10 then some ((r0.1.1,(ieq r0.1.1 10,())),()) else some ((r0.1.1,(ieq r0.1.1 9,())),()))))) none λr1=>(bif r1.1.2.1 then some (.inr (((20:Int),()),())) else (bif ieq r1.1.1 11 then some (.inr (((30:Int),()),())) else (bif ieq r1.1.1 13 then some (.inr (((14:Int),()),())) else some (.inl ((),())))))))) none λr2=>(Q3U r2 (λr3=>some (((0:Int),()),((),()))) (λr3=>some (r3.1,((),()))))))
def K2:K2.T:=K2.gen
theorem K2.ok:NK_ 106 K2.sig (K2.W K2):=ok_ (H:=K2.H) (n:=6) Tryz.func106 (by intro a x;kernel_rfl) (hn_ Z2)
def Q3E.sig:Sig U:=⟨[.isl .u8,.int .i64],[],0,[.int .i64,.bool],true,[]⟩
abbrev Q3E.T:Type:=(List (UInt8))->(Int)->Option ((Int×Bool×Unit)×Unit×Unit)
def Q3E.W (f:Q3E.T):Q3E.sig.F:=λa x=>f a.1 a.2.1
def Q3E.H (cK112:Q1o.T) (cK159:Q1M.T):Hints U:={ Γ:=(Q1M.N cK159 (Q1o.N cK112 noΓ)),ro:=0,base:=13,Q1L:=jt_ [(1,[(24,vb_)]),(5,[(51,vb_)])]}
def Q3E.gen (cK112:Q1o.T) (cK159:Q1M.T):Q3E.T:=λb at_1=>
 (Q0 ((bif ilt at_1 0 then some (true,()) else (bif ilt (ofN (List.length b)) at_1 then some (true,()) else some (ilt (Q1s .i64 (ofN (List.length b)) at_1) 10,())))) none λr0=>(bif r0.1 then some (((0:Int),(false,())),((),())) else (Q0 (cK112 b at_1 6) none λr1=>(Q0 (cK112 b (Q4 .i64 at_1 6) 4) none λr2=>(Q0 ((bif ile 1000000000 r2.1.1 then some (true,()) else (bif ilt 4000000 r1.1.1 then some (true,()) else (Q0 (cK159 (Q4 .i64 (Q3l .i64 r1.1.1 1000000000) r2.1.1)) none λr3=>some (!r3.1.1,()))))) none λr4=>(bif r4.1 then some (((0:Int),(false,())),((),())) else some ((Q4 .i64 (Q3l .i64 r1.1.1 1000000000) r2.1.1,(true,())),((),()))))))))
def Q3E:Q3E.T:=Q3E.gen Q1o Q1M
theorem Q3E.eq (cK112:Q1o.T) (cK159:Q1M.T):EqA Q3E.sig (Q3E.H cK112 cK159) Tryz.f108 6 (Q3E.W (Q3E.gen cK112 cK159)):=by intro a x;kernel_rfl
theorem Q3E.ok:NK_ 108 Q3E.sig (Q3E.W Q3E):=ok_ Tryz.func108 (Q3E.eq Q1o Q1M) (hn_ (Z0 (Z0 Z2 Q1o.ok) Q1M.ok))
def Q3P.sig:Sig U:=⟨[.isl .u8,.int .i64],[],0,[.data .Q2u,.bool],true,[]⟩
abbrev Q3P.T:Type:=(List (UInt8))->(Int)->Option ((Qx×Bool×Unit)×Unit×Unit)
def Q3P.W (f:Q3P.T):Q3P.sig.F:=λa x=>f a.1 a.2.1
def Q3P.H (cK112:Q1o.T):Hints U:={ Γ:=(Q1o.N cK112 noΓ),ro:=0,base:=13,Q1L:=jt_ [(1,[(21,vb_)])]}
def Q3P.gen (cK112:Q1o.T):Q3P.T:=λb at_1=>
 (Q0 ((bif ilt at_1 0 then some (true,()) else (bif ilt (ofN (List.length b)) at_1 then some (true,()) else some (ilt (Q1s .i64 (ofN (List.length b)) at_1) 4,())))) none λr0=>(bif r0.1 then some ((Qx.mk 0 0 0,(false,())),((),())) else (Q0 (cK112 b at_1 1) none λr1=>(Q0 (cK112 b (Q4 .i64 at_1 1) 1) none λr2=>(Q0 (cK112 b (Q4 .i64 at_1 2) 2) none λr3=>some ((Qx.mk r1.1.1 r2.1.1 r3.1.1,(true,())),((),())))))))
def Q3P:Q3P.T:=Q3P.gen Q1o
theorem Q3P.eq (cK112:Q1o.T):EqA Q3P.sig (Q3P.H cK112) Tryz.f110 6 (Q3P.W (Q3P.gen cK112)):=by intro a x;kernel_rfl
theorem Q3P.ok:NK_ 110 Q3P.sig (Q3P.W Q3P):=ok_ Tryz.func110 (Q3P.eq Q1o) (hn_ (Z0 Z2 Q1o.ok))
def K1.sig:Sig U:=⟨[.data .Qk,.isl .u8,.int .i64],[],0,[.data .Qk,.int .i64,.int .i64],true,[]⟩
abbrev K1.T:Type:=(Q8)->(List (UInt8))->(Int)->Option ((Q8×Int×Int×Unit)×Unit×Unit)
def K1.W (f:K1.T):K1.sig.F:=λa x=>f a.1 a.2.1 a.2.2.1
def K1.C:Code:=match Tryz.f54.body with|some c=>c|none=>.skip
def K1.B0:Code:=match (Z3 K1.C).getD 0 .skip with| .loop b=>b| .scope b=>b|_=>.skip
def K1.JC14:Ql U:= [(.normal,⟨151,15,[(3,.ptr 13 0 0),(6,.ptr 14 0 0),(9,vi_),(10,vi_)],[(13,.obj .Qk),(14,.obj .Qk)]⟩)]
def K1.Q9B:Ql U:= [(.normal,⟨151,15,[(1,.val (.isl .u8)),(2,vi_),(3,.ptr 13 0 0),(6,.ptr 14 0 0),(9,vi_),(10,vi_)],[(13,.obj .Qk),(14,.obj .Qk)]⟩)]
def K1.H (cK2:K2.T) (cK6:K6.T) (cK158:Q3E.T) (cK7:K7.T) (cK81:K81.T) (cK116:Q2o.T) (cK112:Q1o.T) (cK139:Q3P.T) (cK113:Q2a.T):Hints U:={ Γ:=(Q2a.N cK113 (Qn 110 (Q3P.sig.native (Q3P.W cK139)) (Q1o.N cK112 (Q2o.N cK116 (Qn 105 (K81.sig.native (K81.W cK81)) (K7.N cK7 (Qn 108 (Q3E.sig.native (Q3E.W cK158)) (K6.N cK6 (Qn 106 (K2.sig.native (K2.W cK2)) noΓ))))))))),ro:=0,base:=13,Q1L:=jt_ [(2,[(31,vb_)]),(4,[(40,vb_)])],Q23:=jt_ [(10,K1.Q9B),(14,K1.JC14)],gotos:=3,loop:=λb=>none}
def K1.gen (cK2:K2.T) (cK6:K6.T) (cK158:Q3E.T) (cK7:K7.T) (cK81:K81.T) (cK116:Q2o.T) (cK112:Q1o.T) (cK139:Q3P.T) (cK113:Q2a.T):K1.T:=λm b at_2=>
 (Q0 (cK2 m.fType) none λr0=>(Q0 ((bif ilt at_2 0 then some (true,()) else (bif ilt (ofN (List.length b)) at_2 then some (true,()) else some (ilt (Q1s .i64 (ofN (List.length b)) at_2) r0.1.1,())))) none λr1=>(bif r1.1 then some ((Q8.mk 0 0 0 0 z0_ 0 0 0 z0_ 0 0 z1_ 0 0 0 0 0 0 0,((0:Int),((2:Int),()))),((),())) else (Q0 ((bif ieq r0.1.1 0 then some (true,()) else (Q0 (cK6 m.fType) none λr2=>some (!r2.1.1,())))) none λr3=>(bif r3.1 then (Q0 (cK7 m.fType) none λr4=>(Q0 ((bif r4.1.1 then (Q0 (cK81 b at_2) none λr5=>some ((b,(Q4 .i64 at_2 10,(at_2,r0.1))),(Q8.Q75 m r5.1.1,(Q8.mk 0 0 0 0 z0_ 0 0 0 z0_ 0 0 z1_ 0 0 0 0 0 0 0,())))) else some ((b,(at_2,(at_2,r0.1))),(m,(Q8.mk 0 0 0 0 z0_ 0 0 0 z0_ 0 0 z1_ 0 0 0 0 0 0 0,()))))) none λr6=>(Q0 ((bif ieq r6.2.1.fType 11 then (Q0 (cK116 r6.1.1 r6.1.2.1 2) none λr7=>(Q0 (cK112 r6.1.1 (Q4 .i64 r6.1.2.1 3) 1) none λr8=>(Q0 (cK139 r6.1.1 (Q4 .i64 r6.1.2.1 4)) none λr9=>(Q0 (cK112 r6.1.1 (Q4 .i64 r6.1.2.1 8) 1) none λr10=>(Q0 (cK113 r6.1.1 (Q4 .i64 r6.1.2.1 9)) none λr11=>(Q0 (cK112 r6.1.1 (Q4 .i64 r6.1.2.1 17) 2) none λr12=>(Q0 (cK112 r6.1.1 (Q4 .i64 r6.1.2.1 19) 1) none λr13=>some (r6.1.2.2,(Q8.Q7a (Q8.Q7q (Q8.Q7r (Q8.Q4X (Q8.Q4A (Q8.Q4z (Q8.Q8t r6.2.1 r7.1.1) r8.1.1) r9.1.1) r10.1.1) r11.1.1) r12.1.1) r13.1.1,r6.2.2))))))))) else (bif ieq r6.2.1.fType 13 then (bif inR r6.1.2.1 (List.length r6.1.1) then (bif inR (Q4 .i64 r6.1.2.1 1) (List.length r6.1.1) then (bif inR (Q4 .i64 r6.1.2.1 2) (List.length r6.1.1) then some (r6.1.2.2,(Q8.Q6l (Q8.Q74 (Q8.Q6d r6.2.1 (IntKind.wrap .i64 (ofN (UInt8.toNat (List.getD r6.1.1 (Int.toNat r6.1.2.1) (0:D UC.u8)))))) (IntKind.wrap .i64 (ofN (UInt8.toNat (List.getD r6.1.1 (Int.toNat (Q4 .i64 r6.1.2.1 1)) (0:D UC.u8)))))) (IntKind.wrap .i64 (Q58 .u8 (ofN (UInt8.toNat (List.getD r6.1.1 (Int.toNat (Q4 .i64 r6.1.2.1 2)) (0:D UC.u8)))) 15)),r6.2.2)) else none) else none) else none) else some (r6.1.2.2,r6.2)))) none λr14=>some ((r14.2.1,(Q4 .i64 r14.1.1 r14.1.2.1,((0:Int),()))),((),()))))) else (Q0 (cK158 b at_2) none λr15=>(bif !r15.1.2.1 then some ((Q8.mk 0 0 0 0 z0_ 0 0 0 z0_ 0 0 z1_ 0 0 0 0 0 0 0,((0:Int),((10:Int),()))),((),())) else (Q0 (cK7 m.fType) none λr16=>(Q0 ((bif r16.1.1 then (Q0 (cK81 b (Q4 .i64 at_2 10)) none λr17=>some ((b,(Q4 .i64 (Q4 .i64 at_2 10) 10,(at_2,r0.1))),(Q8.Q75 (Q8.Q7E m r15.1.1) r17.1.1,(Q8.mk 0 0 0 0 z0_ 0 0 0 z0_ 0 0 z1_ 0 0 0 0 0 0 0,())))) else some ((b,(Q4 .i64 at_2 10,(at_2,r0.1))),(Q8.Q7E m r15.1.1,(Q8.mk 0 0 0 0 z0_ 0 0 0 z0_ 0 0 z1_ 0 0 0 0 0 0 0,()))))) none λr18=>(Q0 ((bif ieq r18.2.1.fType 11 then (Q0 (cK116 r18.1.1 r18.1.2.1 2) none λr19=>(Q0 (cK112 r18.1.1 (Q4 .i64 r18.1.2.1 3) 1) none λr20=>(Q0 (cK139 r18.1.1 (Q4 .i64 r18.1.2.1 4)) none λr21=>(Q0 (cK112 r18.1.1 (Q4 .i64 r18.1.2.1 8) 1) none λr22=>(Q0 (cK113 r18.1.1 (Q4 .i64 r18.1.2.1 9)) none λr23=>(Q0 (cK112 r18.1.1 (Q4 .i64 r18.1.2.1 17) 2) none λr24=>(Q0 (cK112 r18.1.1 (Q4 .i64 r18.1.2.1 19) 1) none λr25=>some (r18.1.2.2,(Q8.Q7a (Q8.Q7q (Q8.Q7r (Q8.Q4X (Q8.Q4A (Q8.Q4z (Q8.Q8t r18.2.1 r19.1.1) r20.1.1) r21.1.1) r22.1.1) r23.1.1) r24.1.1) r25.1.1,r18.2.2))))))))) else (bif ieq r18.2.1.fType 13 then (bif inR r18.1.2.1 (List.length r18.1.1) then (bif inR (Q4 .i64 r18.1.2.1 1) (List.length r18.1.1) then (bif inR (Q4 .i64 r18.1.2.1 2) (List.length r18.1.1) then some (r18.1.2.2,(Q8.Q6l (Q8.Q74 (Q8.Q6d r18.2.1 (IntKind.wrap .i64 (ofN (UInt8.toNat (List.getD r18.1.1 (Int.toNat r18.1.2.1) (0:D UC.u8)))))) (IntKind.wrap .i64 (ofN (UInt8.toNat (List.getD r18.1.1 (Int.toNat (Q4 .i64 r18.1.2.1 1)) (0:D UC.u8)))))) (IntKind.wrap .i64 (Q58 .u8 (ofN (UInt8.toNat (List.getD r18.1.1 (Int.toNat (Q4 .i64 r18.1.2.1 2)) (0:D UC.u8)))) 15)),r18.2.2)) else none) else none) else none) else some (r18.1.2.2,r18.2)))) none λr26=>some ((r26.2.1,(Q4 .i64 r26.1.1 r26.1.2.1,((0:Int),()))),((),()))))))))))))
def K1:K1.T:=K1.gen K2 K6 Q3E K7 K81 Q2o Q1o Q3P Q2a
theorem K1.eq (cK2:K2.T) (cK6:K6.T) (cK158:Q3E.T) (cK7:K7.T) (cK81:K81.T) (cK116:Q2o.T) (cK112:Q1o.T) (cK139:Q3P.T) (cK113:Q2a.T):EqA K1.sig (K1.H cK2 cK6 cK158 cK7 cK81 cK116 cK112 cK139 cK113) Tryz.f54 6 (K1.W (K1.gen cK2 cK6 cK158 cK7 cK81 cK116 cK112 cK139 cK113)):=by intro a x;kernel_rfl
theorem K1.loops:Z3 K1.C= [(.scope K1.B0)]:=by kernel_rfl
theorem K1.ok:NK_ 54 K1.sig (K1.W K1):=ok_ Tryz.func54 (K1.eq K2 K6 Q3E K7 K81 Q2o Q1o Q3P Q2a) (hl_ (Z0 (Z0 (Z0 (Z0 (Z0 (Z0 (Z0 (Z0 (Z0 Z2 K2.ok) K6.ok) Q3E.ok) K7.ok) K81.ok) Q2o.ok) Q1o.ok) Q3P.ok) Q2a.ok) (Zt Z5)) K1.loops
def Q1q.sig:Sig U:=⟨[.isl .u8,.int .i64],[],0,[.isl .QW,.int .i64],true,[]⟩
abbrev Q1q.T:Type:=(List (UInt8))->(Int)->Option (((List (Qi))×Int×Unit)×Unit×Unit)
def Q1q.W (f:Q1q.T):Q1q.sig.F:=λa x=>f a.1 a.2.1
def Q1q.L1:Shape U:=⟨81,14,[(0,.val (.isl .u8)),(1,vi_),(6,.own .QW 13),(7,vi_)],[(13,.tok)]⟩
def Q1q.X1:Ql U:= [(.exit 0,⟨81,14,[(6,.own .QW 13),(7,vi_)],[(13,.tok)]⟩)]
abbrev Q1q.l1T:Type:=(((List (UInt8))×Int×(List (Qi))×Int×Unit)×Unit)->Option ((((List (Qi))×Int×Unit)×Unit))
def Q1q.C:Code:=match Tryz.f55.body with|some c=>c|none=>.skip
def Q1q.B0:Code:=match (Z3 Q1q.C).getD 0 .skip with| .loop b=>b| .scope b=>b|_=>.skip
def Q1q.B1:Code:=match (Z3 Q1q.C).getD 1 .skip with| .loop b=>b| .scope b=>b|_=>.skip
def Q1q.JC8:Ql U:= [(.normal,⟨81,14,[(0,.val (.isl .u8)),(1,vi_),(6,.own .QW 13),(7,vi_),(8,vi_)],[(13,.tok)]⟩)]
def Q1q.H (cK112:Q1o.T) (l1:Q1q.l1T):Hints U:={ Γ:=(Q1o.N cK112 noΓ),ro:=0,base:=13,Q1L:=jt_ [(1,[(19,vb_)]),(9,[(35,vb_)])],Q23:=jt_ [(8,Q1q.JC8)],loop:=jt_ [(5,(Z9 (0,13) Q1q.L1 Q1q.X1 l1))]}
def Q1q.Q2y (cK112:Q1o.T) (a:((List (UInt8))×Int×(List (Qi))×Int×Unit)×Unit):Option ((((List (UInt8))×Int×(List (Qi))×Int×Unit)×Unit)⊕((((List (Qi))×Int×Unit)×Unit))):=
 (bif ilt a.1.2.1 (ofN (List.length a.1.1)) then (Q0 (cK112 a.1.1 (Q4 .i64 a.1.2.1 2) 2) none λr0=>(Q0 ((bif ieq (ofN (List.length a.1.2.2.1)) 8 then some ((a.1.1,(a.1.2.1,(a.1.2.2.1,((7:Int),(r0.1.1,()))))),()) else (Q0 ((bif !r0.1.2.1 then some (true,()) else some (ilt (Q1s .i64 (Q1s .i64 (ofN (List.length a.1.1)) a.1.2.1) 4) r0.1.1,()))) none λr1=>(bif r1.1 then some ((a.1.1,(a.1.2.1,(a.1.2.2.1,((2:Int),(r0.1.1,()))))),()) else (bif ine (Q5z r0.1.1 2) 0 then some ((a.1.1,(a.1.2.1,(a.1.2.2.1,((4:Int),(r0.1.1,()))))),()) else some ((a.1.1,(a.1.2.1,(a.1.2.2.1,(a.1.2.2.2.1,(r0.1.1,()))))),())))))) none λr2=>(bif ine r2.1.2.2.2.1 0 then some (.inr ((r2.1.2.2.1,(r2.1.2.2.2.1,())),())) else (Q0 (cK112 r2.1.1 r2.1.2.1 2) none λr3=>(bif le3 (Q4 .i64 r2.1.2.1 4) (Q4 .i64 (Q4 .i64 r2.1.2.1 4) r2.1.2.2.2.2.1) (List.length r2.1.1) then (bif room (List.length r2.1.2.2.1+List.length (Qi.mk r3.1.1 (ByteArray.mk (List.toArray (List.drop (Int.toNat (Q4 .i64 r2.1.2.1 4)) (List.take (Int.toNat (Q4 .i64 (Q4 .i64 r2.1.2.1 4) r2.1.2.2.2.2.1)) r2.1.1))))::Qm Qi)) 24 then some (.inl ((r2.1.1,(Q4 .i64 r2.1.2.1 (Q4 .i64 4 r2.1.2.2.2.2.1),(r2.1.2.2.1++Qi.mk r3.1.1 (ByteArray.mk (List.toArray (List.drop (Int.toNat (Q4 .i64 r2.1.2.1 4)) (List.take (Int.toNat (Q4 .i64 (Q4 .i64 r2.1.2.1 4) r2.1.2.2.2.2.1)) r2.1.1))))::Qm Qi,(r2.1.2.2.2.1,())))),())) else none) else none))))) else some (.inr (a.1.2.2,())))
def Q1q.F1:Q1q.l1T:=λa=>Z8 (1000000+(a.1.1.length+a.1.2.2.1.length)) (Q1q.Q2y Q1o) a
def Q1q.gen (cK112:Q1o.T) (l1:Q1q.l1T):Q1q.T:=λb at_1=>
 (Q0 ((bif ilt at_1 0 then some (true,()) else some (ilt (ofN (List.length b)) at_1,()))) none λr0=>(bif r0.1 then some ((Qm Qi,((1:Int),())),((),())) else (Q0 (l1 ((b,at_1,Qm Qi,(0:Int),()),())) none λr1=>(bif ine r1.1.2.1 0 then some ((Qm Qi,r1.1.2),((),())) else some ((r1.1.1,((0:Int),())),((),()))))))
def Q1q:Q1q.T:=Q1q.gen Q1o Q1q.F1
theorem Q1q.seq1 (cK112:Q1o.T) (l1:Q1q.l1T) (a:Q1q.L1.T):run Tryz.prog (Q1q.H cK112 l1) 6 (Option (Q1q.L1.T⊕ExT Q1q.X1)) none Q1q.B1 (Q1q.L1.enc a) (Zj (0,13) Q1q.L1 Q1q.X1)=Q1q.Q2y cK112 a:=by kernel_rfl
abbrev Q1q.h:=Q1q.H Q1o Q1q.F1
theorem Q1q.Q4Q:LO_ Q1q.h Q1q.B1 (Z9 (0,13) Q1q.L1 Q1q.X1 Q1q.F1):=lk_ (hn_ (Z0 Z2 Q1o.ok)) (Q1q.seq1 Q1o Q1q.F1)
theorem Q1q.eq (cK112:Q1o.T) (l1:Q1q.l1T):EqA Q1q.sig (Q1q.H cK112 l1) Tryz.f55 6 (Q1q.W (Q1q.gen cK112 l1)):=by intro a x;kernel_rfl
theorem Q1q.loops:Z3 Q1q.C= [(.scope Q1q.B0),(.loop Q1q.B1)]:=by kernel_rfl
theorem Q1q.ok:NK_ 55 Q1q.sig (Q1q.W Q1q):=ok_ Tryz.func55 (Q1q.eq Q1o Q1q.F1) (hl_ (Z0 Z2 Q1o.ok) (Zt (Z7 (by kernel_rfl) Q1q.Q4Q Z5))) Q1q.loops
def K71.sig:Sig U:=⟨[.str],[],0,[.data .Qk,.isl .QW,.int .i64],true,[]⟩
abbrev K71.T:Type:=(ByteArray)->Option ((Q8×(List (Qi))×Int×Unit)×Unit×Unit)
def K71.W (f:K71.T):K71.sig.F:=λa x=>f a.1
def K71.C:Code:=match Tryz.f25.body with|some c=>c|none=>.skip
def K71.B0:Code:=match (Z3 K71.C).getD 0 .skip with| .loop b=>b| .scope b=>b|_=>.skip
def K71.H (cK75:K75.T) (cK1:K1.T) (cK170:Q1q.T):Hints U:={ Γ:=(Qn 55 (Q1q.sig.native (Q1q.W cK170)) (Qn 54 (K1.sig.native (K1.W cK1)) (Qn 53 (K75.sig.native (K75.W cK75)) noΓ))),ro:=0,base:=13,gotos:=3,loop:=λb=>none}
def K71.gen (cK75:K75.T) (cK1:K1.T) (cK170:Q1q.T):K71.T:=λb=>
 (Q0 (cK75 b.data.toList) none λr0=>(bif ine r0.1.2.2.1 0 then some ((Q8.mk 0 0 0 0 z0_ 0 0 0 z0_ 0 0 z1_ 0 0 0 0 0 0 0,(Qm Qi,r0.1.2.2)),((),())) else (Q0 (cK1 r0.1.1 b.data.toList 34) none λr1=>(bif ine r1.1.2.2.1 0 then some ((Q8.mk 0 0 0 0 z0_ 0 0 0 z0_ 0 0 z1_ 0 0 0 0 0 0 0,(Qm Qi,r1.1.2.2)),((),())) else (Q0 (cK170 b.data.toList r1.1.2.1) none λr2=>(bif ine r2.1.2.1 0 then some ((Q8.mk 0 0 0 0 z0_ 0 0 0 z0_ 0 0 z1_ 0 0 0 0 0 0 0,(Qm Qi,r2.1.2)),((),())) else some ((r1.1.1,(r2.1.1,((0:Int),()))),((),()))))))))
def K71:K71.T:=K71.gen K75 K1 Q1q
theorem K71.eq (cK75:K75.T) (cK1:K1.T) (cK170:Q1q.T):EqA K71.sig (K71.H cK75 cK1 cK170) Tryz.f25 6 (K71.W (K71.gen cK75 cK1 cK170)):=by intro a x;kernel_rfl
theorem K71.loops:Z3 K71.C= [(.scope K71.B0)]:=by kernel_rfl
theorem K71.ok:NK_ 25 K71.sig (K71.W K71):=ok_ Tryz.func25 (K71.eq K75 K1 Q1q) (hl_ (Z0 (Z0 (Z0 Z2 K75.ok) K1.ok) Q1q.ok) (Zt Z5)) K71.loops
def K72.sig:Sig U:=⟨[.str,.int .i64],[],0,[.data .Qk,.isl .QW,.int .i64],true,[]⟩
abbrev K72.T:Type:=(ByteArray)->(Int)->Option ((Q8×(List (Qi))×Int×Unit)×Unit×Unit)
def K72.W (f:K72.T):K72.sig.F:=λa x=>f a.1 a.2.1
def K72.H (cK71:K71.T):Hints U:={ Γ:=(Qn 25 (K71.sig.native (K71.W cK71)) noΓ),ro:=0,base:=13,Q1L:=jt_ [(2,[(23,vb_)])]}
def K72.gen (cK71:K71.T):K72.T:=λb domain=>
 (Q0 (cK71 b) none λr0=>(Q0 ((bif ieq r0.1.2.2.1 0 then some (ine r0.1.1.Q1D domain,()) else some (false,()))) none λr1=>(bif r1.1 then some ((Q8.mk 0 0 0 0 z0_ 0 0 0 z0_ 0 0 z1_ 0 0 0 0 0 0 0,(Qm Qi,((6:Int),()))),((),())) else some (r0.1,((),())))))
def K72:K72.T:=K72.gen K71
theorem K72.eq (cK71:K71.T):EqA K72.sig (K72.H cK71) Tryz.f73 6 (K72.W (K72.gen cK71)):=by intro a x;kernel_rfl
theorem K72.ok:NK_ 73 K72.sig (K72.W K72):=ok_ Tryz.func73 (K72.eq K71) (hn_ (Z0 Z2 K71.ok))
def Q1c.sig:Sig U:=⟨[.isl .QW,.int .i64],[],0,[.data .QW,.bool],true,[]⟩
abbrev Q1c.T:Type:=(List (Qi))->(Int)->Option ((Qi×Bool×Unit)×Unit×Unit)
def Q1c.W (f:Q1c.T):Q1c.sig.F:=λa x=>f a.1 a.2.1
def Q1c.L0:Shape U:=⟨21,14,[(1,vi_),(4,.ptr 13 0 0),(8,.val (.isl .QW)),(9,vi_),(10,vi_)],[(13,.obj .QW)]⟩
def Q1c.X0:Ql U:= [(.exit 0,⟨21,14,[(4,.ptr 13 0 0)],[(13,.obj .QW)]⟩),
 (.ret,⟨21,14,[(4,.ptr 13 0 0),(5,vb_)],[(13,.obj .QW)]⟩)]
abbrev Q1c.l0T:Type:=((Int×(List (Qi))×Int×Int×Unit)×(Qi×Unit))->Option ((Unit×(Qi×Unit))⊕((Bool×Unit)×(Qi×Unit)))
def Q1c.C:Code:=match Tryz.f144.body with|some c=>c|none=>.skip
def Q1c.B0:Code:=match (Z3 Q1c.C).getD 0 .skip with| .loop b=>b| .scope b=>b|_=>.skip
def Q1c.H (l0:Q1c.l0T):Hints U:={ Γ:=noΓ,ro:=0,base:=13,loop:=jt_ [(2,(Z9 (0,13) Q1c.L0 Q1c.X0 l0))]}
def Q1c.QT (a:(Int×(List (Qi))×Int×Int×Unit)×(Qi×Unit)):Option (((Int×(List (Qi))×Int×Int×Unit)×(Qi×Unit))⊕((Unit×(Qi×Unit))⊕((Bool×Unit)×(Qi×Unit)))):=
 (bif ilt a.1.2.2.2.1 a.1.2.2.1 then (bif inR a.1.2.2.2.1 (List.length a.1.2.1) then (bif ieq (List.getD a.1.2.1 (Int.toNat a.1.2.2.2.1) Qi.zero).fType a.1.1 then some (.inr (.inr ((true,()),(List.getD a.1.2.1 (Int.toNat a.1.2.2.2.1) Qi.zero,())))) else some (.inl ((a.1.1,(a.1.2.1,(a.1.2.2.1,(Q4 .i64 a.1.2.2.2.1 1,())))),a.2))) else none) else some (.inr (.inl ((),a.2))))
def Q1c.F0:Q1c.l0T:=λa=>Z8 (1000000+(a.1.2.1.length)) (Q1c.QT) a
def Q1c.gen (l0:Q1c.l0T):Q1c.T:=λl typ=>
 (Q0 (l0 ((typ,l,ofN (List.length l),(0:Int),()),Qi.mk 0 (ByteArray.mk (List.toArray (Qm UInt8))),())) none λr0=>(Q3U r0 (λr1=>some ((Qi.mk 0 (ByteArray.mk (List.toArray (Qm UInt8))),(false,())),((),()))) (λr1=>some ((r1.2.1,r1.1),((),())))))
def Q1c:Q1c.T:=Q1c.gen Q1c.F0
theorem Q1c.Q24 (l0:Q1c.l0T) (a:Q1c.L0.T):run Tryz.prog (Q1c.H l0) 6 (Option (Q1c.L0.T⊕ExT Q1c.X0)) none Q1c.B0 (Q1c.L0.enc a) (Zj (0,13) Q1c.L0 Q1c.X0)=Q1c.QT a:=by kernel_rfl
abbrev Q1c.h:=Q1c.H Q1c.F0
theorem Q1c.Q1V:LO_ Q1c.h Q1c.B0 (Z9 (0,13) Q1c.L0 Q1c.X0 Q1c.F0):=lk_ (hn_ Z2) (Q1c.Q24 Q1c.F0)
theorem Q1c.eq (l0:Q1c.l0T):EqA Q1c.sig (Q1c.H l0) Tryz.f144 6 (Q1c.W (Q1c.gen l0)):=by intro a x;kernel_rfl
theorem Q1c.loops:Z3 Q1c.C= [(.loop Q1c.B0)]:=by kernel_rfl
theorem Q1c.ok:NK_ 144 Q1c.sig (Q1c.W Q1c):=ok_ Tryz.func144 (Q1c.eq Q1c.F0) (hl_ Z2 (Z7 (by kernel_rfl) Q1c.Q1V Z5)) Q1c.loops
def Q2n.sig:Sig U:=⟨[.data .QW],[],0,[.bool],false,[]⟩
abbrev Q2n.T:Type:=(Qi)->Option ((Bool×Unit)×Unit×Unit)
def Q2n.W (f:Q2n.T):Q2n.sig.F:=λa x=>f a.1
def Q2n.JC14:Ql U:= [(.normal,⟨50,14,[(1,.ptr 13 0 0),(3,vi_),(8,vi_),(29,vb_)],[(13,.obj .QW)]⟩)]
def Q2n.JC4:Ql U:= [(.normal,⟨50,14,[(1,.ptr 13 0 0)],[(13,.obj .QW)]⟩),
 (.ret,⟨50,13,[(2,vb_)],[]⟩)]
def Q2n.H:Hints U:={ Γ:=noΓ,ro:=0,base:=13,Q23:=jt_ [(4,Q2n.JC4),(14,Q2n.JC14)]}
def Q2n.gen:Q2n.T:=λt=>
 (Q0 ((bif ieq t.fType 1 then some (.inr ((ile 2 (ofN (ByteArray.size t.Q2t)),()),())) else (bif ieq t.fType 2 then some (.inr ((ile 8 (ofN (ByteArray.size t.Q2t)),()),())) else (bif ieq t.fType 3 then some (.inr ((ile 6 (ofN (ByteArray.size t.Q2t)),()),())) else (bif ieq t.fType 4 then some (.inr ((ieq (ofN (ByteArray.size t.Q2t)) 6,()),())) else (bif ieq t.fType 5 then some (.inr ((ieq (ofN (ByteArray.size t.Q2t)) 8,()),())) else (Q0 ((bif ieq t.fType 6 then some ((ofN (ByteArray.size t.Q2t),(t.fType,(ieq t.fType 6,()))),(t,())) else some ((ofN (ByteArray.size t.Q2t),(t.fType,(ieq t.fType 7,()))),(t,())))) none λr0=>(bif r0.1.2.2.1 then some (.inr ((ieq r0.1.1 2,()),())) else (bif ieq r0.1.2.1 8 then (bif ieq (Q5z r0.1.1 8) 0 then some (.inr ((ile r0.1.1 128,()),())) else some (.inr ((false,()),()))) else (bif ieq r0.1.2.1 9 then some (.inr ((ile 16 r0.1.1,()),())) else some (.inl ((),r0.2)))))))))))) none λr1=>(Q3U r1 (λr2=>some ((ieq r2.2.1.fType 32776,()),((),()))) (λr2=>some (r2.1,((),())))))
def Q2n:Q2n.T:=Q2n.gen
theorem Q2n.ok:NK_ 183 Q2n.sig (Q2n.W Q2n):=ok_ (H:=Q2n.H) (n:=6) Tryz.func183 (by intro a x;kernel_rfl) (hn_ Z2)
def Q1y.sig:Sig U:=⟨[.data .QW],[],0,[.isl .u64,.bool],true,[]⟩
abbrev Q1y.T:Type:=(Qi)->Option (((List (Int))×Bool×Unit)×Unit×Unit)
def Q1y.W (f:Q1y.T):Q1y.sig.F:=λa x=>f a.1
def Q1y.L0:Shape U:=⟨36,15,[(1,.ptr 13 0 0),(4,.own .u64 14),(5,vi_)],[(13,.obj .QW),(14,.tok)]⟩
def Q1y.X0:Ql U:= [(.exit 0,⟨36,14,[(4,.own .u64 13)],[(13,.tok)]⟩)]
abbrev Q1y.l0T:Type:=(((List (Int))×Int×Unit)×(Qi×Unit))->Option ((((List (Int))×Unit)×Unit))
def Q1y.C:Code:=match Tryz.f145.body with|some c=>c|none=>.skip
def Q1y.B0:Code:=match (Z3 Q1y.C).getD 0 .skip with| .loop b=>b| .scope b=>b|_=>.skip
def Q1y.H (cK171:Q2n.T) (cK113:Q2a.T) (l0:Q1y.l0T):Hints U:={ Γ:=(Q2a.N cK113 (Qn 183 (Q2n.sig.native (Q2n.W cK171)) noΓ)),ro:=0,base:=13,Q1L:=jt_ [(1,[(15,vb_)])],loop:=jt_ [(5,(Z9 (0,13) Q1y.L0 Q1y.X0 l0))]}
def Q1y.QT (cK171:Q2n.T) (cK113:Q2a.T) (a:((List (Int))×Int×Unit)×(Qi×Unit)):Option ((((List (Int))×Int×Unit)×(Qi×Unit))⊕((((List (Int))×Unit)×Unit))):=
 (bif ilt a.1.2.1 (ofN (ByteArray.size a.2.1.Q2t)) then (Q0 (cK113 a.2.1.Q2t.data.toList a.1.2.1) none λr0=>(bif room (List.length a.1.1+List.length (r0.1.1::Qm Int)) 8 then some (.inl ((a.1.1++r0.1.1::Qm Int,(Q4 .i64 a.1.2.1 8,())),a.2)) else none)) else some (.inr ((a.1.1,()),())))
def Q1y.F0:Q1y.l0T:=λa=>Z8 (1000000+(a.1.1.length)) (Q1y.QT Q2n Q2a) a
def Q1y.gen (cK171:Q2n.T) (cK113:Q2a.T) (l0:Q1y.l0T):Q1y.T:=λt=>
 (Q0 ((bif ine t.fType 8 then some (true,()) else (Q0 (cK171 t) none λr0=>some (!r0.1.1,())))) none λr1=>(bif r1.1 then some ((Qm Int,(false,())),((),())) else (Q0 (l0 ((Qm Int,(0:Int),()),t,())) none λr2=>some ((r2.1.1,(true,())),((),())))))
def Q1y:Q1y.T:=Q1y.gen Q2n Q2a Q1y.F0
theorem Q1y.Q24 (cK171:Q2n.T) (cK113:Q2a.T) (l0:Q1y.l0T) (a:Q1y.L0.T):run Tryz.prog (Q1y.H cK171 cK113 l0) 6 (Option (Q1y.L0.T⊕ExT Q1y.X0)) none Q1y.B0 (Q1y.L0.enc a) (Zj (0,13) Q1y.L0 Q1y.X0)=Q1y.QT cK171 cK113 a:=by kernel_rfl
abbrev Q1y.h:=Q1y.H Q2n Q2a Q1y.F0
theorem Q1y.Q1V:LO_ Q1y.h Q1y.B0 (Z9 (0,13) Q1y.L0 Q1y.X0 Q1y.F0):=lk_ (hn_ (Z0 (Z0 Z2 Q2n.ok) Q2a.ok)) (Q1y.Q24 Q2n Q2a Q1y.F0)
theorem Q1y.eq (cK171:Q2n.T) (cK113:Q2a.T) (l0:Q1y.l0T):EqA Q1y.sig (Q1y.H cK171 cK113 l0) Tryz.f145 6 (Q1y.W (Q1y.gen cK171 cK113 l0)):=by intro a x;kernel_rfl
theorem Q1y.loops:Z3 Q1y.C= [(.loop Q1y.B0)]:=by kernel_rfl
theorem Q1y.ok:NK_ 145 Q1y.sig (Q1y.W Q1y):=ok_ Tryz.func145 (Q1y.eq Q2n Q2a Q1y.F0) (hl_ (Z0 (Z0 Z2 Q2n.ok) Q2a.ok) (Z7 (by kernel_rfl) Q1y.Q1V Z5)) Q1y.loops
def Q1A.sig:Sig U:=⟨[.isl .u64,.int .u64],[],0,[.int .i64],false,[]⟩
abbrev Q1A.T:Type:=(List (Int))->(Int)->Option ((Int×Unit)×Unit×Unit)
def Q1A.W (f:Q1A.T):Q1A.sig.F:=λa x=>f a.1 a.2.1
def Q1A.L0:Shape U:=⟨19,13,[(0,.val (.isl .u64)),(1,.val (.int .u64)),(7,vi_),(8,vi_)],[]⟩
def Q1A.X0:Ql U:= [(.exit 0,⟨19,13,[],[]⟩),
 (.ret,⟨19,13,[(4,vi_)],[]⟩)]
abbrev Q1A.l0T:Type:=(((List (Int))×Int×Int×Int×Unit)×Unit)->Option ((Unit×Unit)⊕((Int×Unit)×Unit))
def Q1A.C:Code:=match Tryz.f184.body with|some c=>c|none=>.skip
def Q1A.B0:Code:=match (Z3 Q1A.C).getD 0 .skip with| .loop b=>b| .scope b=>b|_=>.skip
def Q1A.H (l0:Q1A.l0T):Hints U:={ Γ:=noΓ,ro:=0,base:=13,loop:=jt_ [(2,(Z9 (0,13) Q1A.L0 Q1A.X0 l0))]}
def Q1A.QT (a:((List (Int))×Int×Int×Int×Unit)×Unit):Option ((((List (Int))×Int×Int×Int×Unit)×Unit)⊕((Unit×Unit)⊕((Int×Unit)×Unit))):=
 (bif ilt a.1.2.2.2.1 a.1.2.2.1 then (bif inR a.1.2.2.2.1 (List.length a.1.1) then (bif ieq a.1.2.1 (List.getD a.1.1 (Int.toNat a.1.2.2.2.1) (0:D UC.u64)) then some (.inr (.inr (a.1.2.2.2,()))) else some (.inl ((a.1.1,(a.1.2.1,(a.1.2.2.1,(Q4 .i64 a.1.2.2.2.1 1,())))),()))) else none) else some (.inr (.inl ((),()))))
def Q1A.F0:Q1A.l0T:=λa=>Z8 (1000000+(a.1.1.length)) (Q1A.QT) a
def Q1A.gen (l0:Q1A.l0T):Q1A.T:=λs v=>
 (Q0 (l0 ((s,v,ofN (List.length s),(0:Int),()),())) none λr0=>(Q3U r0 (λr1=>some (((-1:Int),()),((),()))) (λr1=>some (r1.1,((),())))))
def Q1A:Q1A.T:=Q1A.gen Q1A.F0
theorem Q1A.Q24 (l0:Q1A.l0T) (a:Q1A.L0.T):run Tryz.prog (Q1A.H l0) 6 (Option (Q1A.L0.T⊕ExT Q1A.X0)) none Q1A.B0 (Q1A.L0.enc a) (Zj (0,13) Q1A.L0 Q1A.X0)=Q1A.QT a:=by kernel_rfl
abbrev Q1A.h:=Q1A.H Q1A.F0
theorem Q1A.Q1V:LO_ Q1A.h Q1A.B0 (Z9 (0,13) Q1A.L0 Q1A.X0 Q1A.F0):=lk_ (hn_ Z2) (Q1A.Q24 Q1A.F0)
theorem Q1A.eq (l0:Q1A.l0T):EqA Q1A.sig (Q1A.H l0) Tryz.f184 6 (Q1A.W (Q1A.gen l0)):=by intro a x;kernel_rfl
theorem Q1A.loops:Z3 Q1A.C= [(.loop Q1A.B0)]:=by kernel_rfl
theorem Q1A.ok:NK_ 184 Q1A.sig (Q1A.W Q1A):=ok_ Tryz.func184 (Q1A.eq Q1A.F0) (hl_ Z2 (Z7 (by kernel_rfl) Q1A.Q1V Z5)) Q1A.loops
def Q3J.sig:Sig U:=⟨[.isl .u64,.int .u64],[],0,[.bool],false,[]⟩
abbrev Q3J.T:Type:=(List (Int))->(Int)->Option ((Bool×Unit)×Unit×Unit)
def Q3J.W (f:Q3J.T):Q3J.sig.F:=λa x=>f a.1 a.2.1
def Q3J.H (cK155:Q1A.T):Hints U:={ Γ:=(Qn 184 (Q1A.sig.native (Q1A.W cK155)) noΓ),ro:=0,base:=13}
def Q3J.gen (cK155:Q1A.T):Q3J.T:=λs v=>
 (Q0 (cK155 s v) none λr0=>some ((ile 0 r0.1.1,()),((),())))
def Q3J:Q3J.T:=Q3J.gen Q1A
theorem Q3J.eq (cK155:Q1A.T):EqA Q3J.sig (Q3J.H cK155) Tryz.f146 6 (Q3J.W (Q3J.gen cK155)):=by intro a x;kernel_rfl
theorem Q3J.ok:NK_ 146 Q3J.sig (Q3J.W Q3J):=ok_ Tryz.func146 (Q3J.eq Q1A) (hn_ (Z0 Z2 Q1A.ok))
def K67.sig:Sig U:=⟨[.ptr,.data .Qk,.int .i64],[.obj .Qy],0,[.int .i64],false,[]⟩
abbrev K67.T:Type:=(Q8)->(Int)->(Qe)->Option ((Int×Unit)×(Qe×Unit)×Unit)
def K67.W (f:K67.T):K67.sig.F:=λa x=>f a.2.1 a.2.2.1 x.1
def K67.L0:Shape U:=⟨143,15,[(0,.ptr 13 0 0),(2,vi_),(4,.ptr 14 0 0),(7,vi_)],[(13,.obj .Qy),(14,.obj .Qk)]⟩
def K67.X0:Ql U:= [(.exit 1,⟨143,15,[(0,.ptr 13 0 0),(2,vi_),(4,.ptr 14 0 0),(7,vi_)],[(13,.obj .Qy),(14,.obj .Qk)]⟩)]
abbrev K67.l0T:Type:=((Int×Int×Unit)×(Qe×Q8×Unit))->Option (((Int×Int×Unit)×(Qe×Q8×Unit)))
def K67.C:Code:=match Tryz.f147.body with|some c=>c|none=>.skip
def K67.B0:Code:=match (Z3 K67.C).getD 0 .skip with| .loop b=>b| .scope b=>b|_=>.skip
def K67.JR22:Ql U:= [(.normal,⟨143,14,[],[(13,.obj .Qy)]⟩)]
def K67.JR21:Ql U:= [(.normal,⟨143,15,[(0,.ptr 13 0 0),(7,vi_),(8,.ptr 14 0 0)],[(13,.obj .Qy),(14,.obj .QA)]⟩)]
def K67.Q5K:Ql U:= [(.normal,⟨143,16,[(0,.ptr 13 0 0),(2,vi_),(4,.ptr 14 0 0),(7,vi_),(8,.ptr 15 0 0)],[(13,.obj .Qy),(14,.obj .Qk),(15,.obj .QA)]⟩)]
def K67.JC13:Ql U:= [(.normal,⟨143,16,[(0,.ptr 13 0 0),(2,vi_),(4,.ptr 14 0 0),(7,vi_),(8,.ptr 15 0 0)],[(13,.obj .Qy),(14,.obj .Qk),(15,.obj .QA)]⟩),
 (.ret,⟨143,14,[(6,vi_)],[(13,.obj .Qy)]⟩)]
def K67.JC2:Ql U:= [(.normal,⟨143,15,[(0,.ptr 13 0 0),(2,vi_),(4,.ptr 14 0 0)],[(13,.obj .Qy),(14,.obj .Qk)]⟩),
 (.ret,⟨143,14,[(6,vi_)],[(13,.obj .Qy)]⟩)]
def K67.H (l0:K67.l0T):Hints U:={ Γ:=noΓ,ro:=0,base:=14,Q1L:=jt_ [(3,[(13,vb_)]),(5,[(20,vb_)]),(8,[(59,vb_)]),(14,[(95,vb_)])],Q2w:=jt_ [(10,K67.Q5K),(13,K67.Q5K),(19,K67.Q5K),(20,K67.Q5K),(21,K67.JR21),(22,K67.JR22)],Q23:=jt_ [(2,K67.JC2),(13,K67.JC13)],loop:=jt_ [(8,(Z9 (0,14) K67.L0 K67.X0 l0))]}
def K67.QT (a:(Int×Int×Unit)×(Qe×Q8×Unit)):Option (((Int×Int×Unit)×(Qe×Q8×Unit))⊕(((Int×Int×Unit)×(Qe×Q8×Unit)))):=
 (Q0 ((bif ilt a.1.2.1 a.2.1.fn then (bif inR a.1.2.1 5 then some (!bif ieq (a.2.1.fl (Int.toNat a.1.2.1)).Q3g.Q4G.QI a.2.2.1.Q1H.QI then bif ieq (a.2.1.fl (Int.toNat a.1.2.1)).Q3g.Q4G.QR a.2.2.1.Q1H.QR then true else false else false,()) else none) else some (false,()))) none λr0=>(bif r0.1 then some (.inl ((a.1.1,(Q4 .i64 a.1.2.1 1,())),a.2)) else some (.inr a)))
def K67.F0:K67.l0T:=λa=>Z8 (1000000) (K67.QT) a
def K67.gen (l0:K67.l0T):K67.T:=λm now h0=>
 (Q0 ((bif ine m.fType 11 then some (.inr (((5:Int),()),(h0,()))) else (Q0 ((bif ilt now 0 then some (true,()) else some (ilt 1099511627776 now,()))) none λr0=>(bif r0.1 then some (.inr (((1:Int),()),(h0,()))) else (Q0 ((bif ieq m.Q1H.QI h0.QaT.QI then some (true,()) else (bif ile 255 m.Q28 then some (true,()) else some (ine (Q58 .i64 m.Q1Y 256) 0,())))) none λr1=>(bif r1.1 then some (.inr (((11:Int),()),(h0,()))) else some (.inl ((now,()),(h0,(m,())))))))))) none λr2=>(Q3U r2 (λr3=>(Q0 (l0 ((r3.1.1,(0:Int),()),r3.2)) none λr4=>(Q0 ((bif ilt r4.1.2.1 r4.2.1.fn then (Q0 ((bif inR r4.1.2.1 5 then some (r4.1,(r4.2.1,(r4.2.2.1,(r4.2.1.fl (Int.toNat r4.1.2.1),())))) else none)) none λr5=>(Q0 ((bif ilt (Q58 .i64 (Q1s .i64 r5.2.2.2.1.Q2W r5.2.2.1.Q2W) 65535) 32768 then some (true,()) else some (ilt r5.1.1 r5.2.2.2.1.Q9q,()))) none λr6=>(bif r6.1 then some (.inr (((9:Int),()),(r5.2.1,()))) else some (.inl (r5.1,(r5.2.1,(r5.2.2.1,(Qc.Qak r5.2.2.2.1 r5.2.2.2.1.Q9q,())))))))) else (bif ieq r4.2.1.fn 5 then some (.inr (((7:Int),()),(r4.2.1,()))) else some (.inl (r4.1,(Qe.Q80 r4.2.1 (Q4 .i64 r4.2.1.fn 1),(r4.2.2.1,(Qc.mk z6_ z4_ 0 (-1) 0,())))))))) none λr7=>(Q3U r7 (λr8=>(Q0 ((bif inR r8.1.2.1 5 then some ((),(Qe.Q9C r8.2.1 (Qr r8.2.1.fl (Int.toNat r8.1.2.1) (Qc.mk (Qj.mk r8.2.2.1.Q15 r8.2.2.1.Qv r8.2.2.1.Q16 r8.2.2.1.Q2x r8.2.2.1.Q28 r8.2.2.1.Q1H r8.2.1.QaT) (Q1b.mk r8.2.2.1.Q3a (Q58 .i64 r8.2.2.1.Q1Y 63) r8.2.2.1.Q1Q) r8.2.2.1.Q2W r8.2.2.2.1.Q7R r8.1.1)),())) else none)) none λr9=>some (((0:Int),()),(r9.2,())))) (λr8=>some (r8.1,(r8.2,()))))))) (λr3=>some (r3.1,(r3.2,())))))
def K67:K67.T:=K67.gen K67.F0
theorem K67.Q24 (l0:K67.l0T) (a:K67.L0.T):run Tryz.prog (K67.H l0) 6 (Option (K67.L0.T⊕ExT K67.X0)) none K67.B0 (K67.L0.enc a) (Zj (0,14) K67.L0 K67.X0)=K67.QT a:=by kernel_rfl
abbrev K67.h:=K67.H K67.F0
theorem K67.Q1V:LO_ K67.h K67.B0 (Z9 (0,14) K67.L0 K67.X0 K67.F0):=lk_ (hn_ Z2) (K67.Q24 K67.F0)
theorem K67.eq (l0:K67.l0T):EqA K67.sig (K67.H l0) Tryz.f147 6 (K67.W (K67.gen l0)):=by intro a x;kernel_rfl
theorem K67.loops:Z3 K67.C= [(.loop K67.B0)]:=by kernel_rfl
theorem K67.ok:NK_ 147 K67.sig (K67.W K67):=ok_ Tryz.func147 (K67.eq K67.F0) (hl_ Z2 (Z7 (by kernel_rfl) K67.Q1V Z5)) K67.loops
def K24.sig:Sig U:=⟨[.ptr,.Q59 0 23 42 8,.data .Qk,.isl .QW],[.obj .Q7,Q5c,.fam 12 (.map true false .Qu .Q1O)],0,[.bool],false,[]⟩
abbrev K24.T:Type:=(Nat)->(Q8)->(List (Qi))->(Q1)->(Fm Qe)->(Nat×(Nat->List (Qd×List (Int))))->Option ((Bool×Unit)×(Q1×Q7p)×Unit)
def K24.W (f:K24.T):K24.sig.F:=λa x=>f a.2.1 a.2.2.1 a.2.2.2.1 x.1 x.2.1 x.2.2.1
def K24.JR5:Ql U:= [(.normal,⟨61,14,[(0,.ptr 13 0 0),(1,.Q1f 13 23 42 8 0)],(13,.obj .Q7)::Q65⟩)]
def K24.JR3:Ql U:= [(.normal,⟨61,15,[(0,.ptr 13 0 0),(1,.Q1f 13 23 42 8 0),(6,.ptr 14 0 0),(11,.val (.isl .u64)),(42,vb_)],(13,.obj .Q7)::(14,.obj .Qk)::Q65⟩)]
def K24.JR1:Ql U:= [(.normal,⟨61,16,[(0,.ptr 13 0 0),(1,.Q1f 13 23 42 8 0),(6,.ptr 14 0 0),(9,.ptr 15 0 0)],(13,.obj .Q7)::(14,.obj .Qk)::(15,.obj .QW)::Q65⟩)]
def K24.JC7:Ql U:= [(.normal,⟨61,14,[],(13,.obj .Q7)::Q65⟩)]
def K24.H (cK169:Q1c.T) (cK175:Q1y.T) (cK154:Q3J.T) (cK67:K67.T) (cK136:Q2k.T) (cK30:K30.T) (cK164:Q21.T):Hints U:={ Γ:=(Q21.N cK164 (K30.N cK30 (Q2k.N cK136 (Qn 147 (K67.sig.native (K67.W cK67)) (Qn 146 (Q3J.sig.native (Q3J.W cK154)) (Qn 145 (Q1y.sig.native (Q1y.W cK175)) (Qn 144 (Q1c.sig.native (Q1c.W cK169)) noΓ))))))),ro:=0,base:=14,Q2w:=jt_ [(1,K24.JR1),(3,K24.JR3),(5,K24.JR5)],Q23:=jt_ [(7,K24.JC7)]}
def K24.gen (cK169:Q1c.T) (cK175:Q1y.T) (cK154:Q3J.T) (cK67:K67.T) (cK136:Q2k.T) (cK30:K30.T) (cK164:Q21.T):K24.T:=λp m l h0 g6 g12=>
 (Q0 ((Q0 (cK169 l 8) none λr0=>some ((p,()),(h0,(m,(r0.1.1,(g6,(g12,())))))))) none λr1=>(Q0 (cK175 r1.2.2.2.1) none λr2=>(Q0 ((Q0 (cK154 r2.1.1 r1.2.1.Qs.QI) none λr3=>(bif r3.1.1 then some ((r1.1.1,(r2.1.1,(true,()))),(r1.2.1,(r1.2.2.1,r1.2.2.2.2))) else (Q0 ((r1.2.1.Qf r1.1.1).2) none λr4=>(Q0 (cK67 r1.2.2.1 r1.2.1.Q5p (r1.2.2.2.2.1.2 r4)) none λr5=>some ((r1.1.1,(r2.1.1,(ine r5.1.1 0,()))),(r1.2.1,(r1.2.2.1,((r1.2.2.2.2.1.1,Qr r1.2.2.2.2.1.2 r4 r5.2.1.1),r1.2.2.2.2.2))))))))) none λr6=>(bif r6.1.2.2.1 then some ((false,()),((r6.2.1,r6.2.2.2),())) else (Q0 ((Q0 ((Q0 ((r6.2.1.Qf r6.1.1).3) none λr7=>(Q0 ((@Z20 U Go.Proofs.Tryz.prog 31 UC.Qu UC.Q1O (r6.2.2.1.Q1H) (r6.1.2.1) (r6.2.2.2.2.1.2 r7))) none λ(r8:List (Qd×List Int))=>some (r7,r8)))) none λ(r9:Nat×List (Qd×List Int))=>some ((r6.1.1,()),(r6.2.1,(r6.2.2.2.1,((r6.2.2.2.2.1.1,Qr r6.2.2.2.2.1.2 r9.1 r9.2),())))))) none λr10=>(Q0 (cK136 (r10.2.1.Qf r10.1.1).Q1x) none λr11=>(Q0 ((bif r11.1.1 then (Q0 (cK30 r10.2.1) none λr12=>(Q0 (cK164 r12.1.1 (r10.2.1.Qf r10.1.1).Q46) none λr13=>some ((),(Q1.QU r10.2.1 (Qr r10.2.1.Qf r10.1.1 (Q5.Q3V (r10.2.1.Qf r10.1.1) r13.2.1.1)),r10.2.2)))) else some ((),r10.2))) none λr14=>some ((true,()),(r14.2,())))))))))
def K24:K24.T:=K24.gen Q1c Q1y Q3J K67 Q2k K30 Q21
theorem K24.eq (cK169:Q1c.T) (cK175:Q1y.T) (cK154:Q3J.T) (cK67:K67.T) (cK136:Q2k.T) (cK30:K30.T) (cK164:Q21.T):EqA K24.sig (K24.H cK169 cK175 cK154 cK67 cK136 cK30 cK164) Tryz.f75 6 (K24.W (K24.gen cK169 cK175 cK154 cK67 cK136 cK30 cK164)):=by intro a x;kernel_rfl
theorem K24.ok:NK_ 75 K24.sig (K24.W K24):=ok_ Tryz.func75 (K24.eq Q1c Q1y Q3J K67 Q2k K30 Q21) (hn_ (Z0 (Z0 (Z0 (Z0 (Z0 (Z0 (Z0 Z2 Q1c.ok) Q1y.ok) Q3J.ok) K67.ok) Q2k.ok) K30.ok) Q21.ok))
def Q2i.sig:Sig U:=⟨[.int .i64],[],0,[.int .i64],false,[]⟩
abbrev Q2i.T:Type:=(Int)->Option ((Int×Unit)×Unit×Unit)
def Q2i.W (f:Q2i.T):Q2i.sig.F:=λa x=>f a.1
abbrev Q2i.N (c:Q2i.T):=Qn 185 (Q2i.sig.native (Q2i.W c))
def Q2i.H:Hints U:={ Γ:=noΓ,ro:=0,base:=13}
def Q2i.gen:Q2i.T:=λcorr=>
 some ((Q5N .i64 corr 16,()),((),()))
def Q2i:Q2i.T:=Q2i.gen
theorem Q2i.ok:NK_ 185 Q2i.sig (Q2i.W Q2i):=ok_ (H:=Q2i.H) (n:=6) Tryz.func185 (by intro a x;kernel_rfl) (hn_ Z2)
def Q3o.sig:Sig U:=⟨[.data .Qk],[],0,[.data .Q4y],false,[]⟩
abbrev Q3o.T:Type:=(Q8)->Option ((Q25×Unit)×Unit×Unit)
def Q3o.W (f:Q3o.T):Q3o.sig.F:=λa x=>f a.1
def Q3o.H:Hints U:={ Γ:=noΓ,ro:=0,base:=13}
def Q3o.gen:Q3o.T:=λm=>
 some ((Q25.mk m.Q1H m.Q2W,()),((),()))
def Q3o:Q3o.T:=Q3o.gen
theorem Q3o.ok:NK_ 186 Q3o.sig (Q3o.W Q3o):=ok_ (H:=Q3o.H) (n:=6) Tryz.func186 (by intro a x;kernel_rfl) (hn_ Z2)
def Q3b.sig:Sig U:=⟨[.int .i64,.int .i64],[],0,[.int .i64],false,[]⟩
abbrev Q3b.T:Type:=(Int)->(Int)->Option ((Int×Unit)×Unit×Unit)
def Q3b.W (f:Q3b.T):Q3b.sig.F:=λa x=>f a.1 a.2.1
def Q3b.JC2:Ql U:= [(.normal,⟨26,13,[(0,vi_),(1,vi_)],[]⟩),
 (.ret,⟨26,13,[(4,vi_)],[]⟩)]
def Q3b.H:Hints U:={ Γ:=noΓ,ro:=0,base:=13,Q1L:=jt_ [(1,[(5,vb_)]),(3,[(14,vb_)])],Q23:=jt_ [(2,Q3b.JC2)]}
def Q3b.gen:Q3b.T:=λa b=>
 (Q0 ((bif ilt 0 b then some (ilt (Q1s .i64 9223372036854775807 b) a,()) else some (false,()))) none λr0=>(Q0 ((bif r0.1 then some (.inr (((9223372036854775807:Int),()),())) else (Q0 ((bif ilt b 0 then some (ilt a (Q1s .i64 (-9223372036854775808) b),()) else some (false,()))) none λr1=>(bif r1.1 then some (.inr (((-9223372036854775808:Int),()),())) else some (.inl ((a,(b,())),())))))) none λr2=>(Q3U r2 (λr3=>some ((Q4 .i64 r3.1.1 r3.1.2.1,()),((),()))) (λr3=>some (r3.1,((),()))))))
def Q3b:Q3b.T:=Q3b.gen
theorem Q3b.ok:NK_ 193 Q3b.sig (Q3b.W Q3b):=ok_ (H:=Q3b.H) (n:=6) Tryz.func193 (by intro a x;kernel_rfl) (hn_ Z2)
def Q2K.sig:Sig U:=⟨[.ptr,.data .Qk,.data .Qk,.int .i64],[.obj .Q1j],0,[.int .i64,.bool],true,[]⟩
abbrev Q2K.T:Type:=(Q8)->(Q8)->(Int)->(Qz)->Option ((Int×Bool×Unit)×(Qz×Unit)×Unit)
def Q2K.W (f:Q2K.T):Q2K.sig.F:=λa x=>f a.2.1 a.2.2.1 a.2.2.2.1 x.1
def Q2K.JR1:Ql U:= [(.normal,⟨23,16,[(3,vi_),(5,.ptr 14 0 0),(6,.ptr 15 0 0)],[(13,.obj .Q1j),(14,.obj .Qk),(15,.obj .Qk)]⟩)]
def Q2K.H (cK143:Q26.T) (cK156:Q3b.T) (cK157:Q2i.T):Hints U:={ Γ:=(Q2i.N cK157 (Qn 193 (Q3b.sig.native (Q3b.W cK156)) (Q26.N cK143 noΓ))),ro:=0,base:=14,Q2w:=jt_ [(1,Q2K.JR1)]}
def Q2K.gen (cK143:Q26.T) (cK156:Q3b.T) (cK157:Q2i.T):Q2K.T:=λsync follow at_3 h0=>
 (Q0 ((Q0 (cK143 h0) none λr0=>some ((at_3,()),(r0.2.1.1,(sync,(follow,())))))) none λr1=>(Q0 (cK156 r1.2.2.1.Q4s r1.2.2.2.1.Q4s) none λr2=>(Q0 (cK157 r2.1.1) none λr3=>some ((Q1s .i64 (Q1s .i64 r1.1.1 r1.2.2.2.1.Q44) r3.1.1,(true,())),((r1.2.1,()),())))))
def Q2K:Q2K.T:=Q2K.gen Q26 Q3b Q2i
theorem Q2K.eq (cK143:Q26.T) (cK156:Q3b.T) (cK157:Q2i.T):EqA Q2K.sig (Q2K.H cK143 cK156 cK157) Tryz.f187 6 (Q2K.W (Q2K.gen cK143 cK156 cK157)):=by intro a x;kernel_rfl
theorem Q2K.ok:NK_ 187 Q2K.sig (Q2K.W Q2K):=ok_ Tryz.func187 (Q2K.eq Q26 Q3b Q2i) (hn_ (Z0 (Z0 (Z0 Z2 Q26.ok) Q3b.ok) Q2i.ok))
def Q2J.sig:Sig U:=⟨[.ptr,.data .Qk,.int .i64],[.obj .Q1j],0,[.int .i64,.bool],true,[]⟩
abbrev Q2J.T:Type:=(Q8)->(Int)->(Qz)->Option ((Int×Bool×Unit)×(Qz×Unit)×Unit)
def Q2J.W (f:Q2J.T):Q2J.sig.F:=λa x=>f a.2.1 a.2.2.1 x.1
def Q2J.C:Code:=match Tryz.f148.body with|some c=>c|none=>.skip
def Q2J.B0:Code:=match (Z3 Q2J.C).getD 0 .skip with| .loop b=>b| .scope b=>b|_=>.skip
def Q2J.JR7:Ql U:= [(.normal,⟨63,14,[(8,vi_),(9,vb_)],[(13,.obj .Q1j)]⟩)]
def Q2J.H (cK157:Q2i.T) (cK149:Q3o.T) (cK146:Q2K.T):Hints U:={ Γ:=(Qn 187 (Q2K.sig.native (Q2K.W cK146)) (Qn 186 (Q3o.sig.native (Q3o.W cK149)) (Q2i.N cK157 noΓ))),ro:=0,base:=14,Q1L:=jt_ [(5,[(38,vb_)])],Q2w:=jt_ [(6,Q2J.JR7),(7,Q2J.JR7)],gotos:=3,loop:=λb=>none}
def Q2J.gen (cK157:Q2i.T) (cK149:Q3o.T) (cK146:Q2K.T):Q2J.T:=λx_1 at_2 h0=>
 (bif ine x_1.fType 0 then some (((0:Int),(false,())),((h0,()),())) else (bif ieq (Q58 .i64 x_1.Q1Y 512) 0 then (Q0 (cK157 x_1.Q4s) none λr0=>some ((Q1s .i64 (Q1s .i64 at_2 x_1.Q44) r0.1.1,(true,())),((h0,()),()))) else (Q0 ((bif h0.Q67 then (Q0 (cK149 h0.Q2m) none λr1=>(Q0 (cK149 x_1) none λr2=>some (bif bif ieq r1.1.1.Q5b.QI r2.1.1.Q5b.QI then bif ieq r1.1.1.Q5b.QR r2.1.1.Q5b.QR then true else false else false then bif ieq r1.1.1.Q5O r2.1.1.Q5O then true else false else false,()))) else some (false,()))) none λr3=>(bif r3.1 then (Q0 ((Q0 (cK146 x_1 h0.Q2m at_2 h0) none λr4=>some (r4.1,r4.2.1))) none λr5=>some (r5.1,(r5.2,()))) else some (((0:Int),(false,())),((Qz.mk x_1 h0.Q2m at_2 true h0.Q67,()),()))))))
def Q2J:Q2J.T:=Q2J.gen Q2i Q3o Q2K
theorem Q2J.eq (cK157:Q2i.T) (cK149:Q3o.T) (cK146:Q2K.T):EqA Q2J.sig (Q2J.H cK157 cK149 cK146) Tryz.f148 6 (Q2J.W (Q2J.gen cK157 cK149 cK146)):=by intro a x;kernel_rfl
theorem Q2J.loops:Z3 Q2J.C= [(.scope Q2J.B0)]:=by kernel_rfl
theorem Q2J.ok:NK_ 148 Q2J.sig (Q2J.W Q2J):=ok_ Tryz.func148 (Q2J.eq Q2i Q3o Q2K) (hl_ (Z0 (Z0 (Z0 Z2 Q2i.ok) Q3o.ok) Q2K.ok) (Zt Z5)) Q2J.loops
def Q3i.sig:Sig U:=⟨[.ptr,.data .Qk],[.obj .Q1j],0,[.int .i64,.bool],true,[]⟩
abbrev Q3i.T:Type:=(Q8)->(Qz)->Option ((Int×Bool×Unit)×(Qz×Unit)×Unit)
def Q3i.W (f:Q3i.T):Q3i.sig.F:=λa x=>f a.2.1 x.1
def Q3i.JR5:Ql U:= [(.normal,⟨45,14,[],[(13,.obj .Q1j)]⟩)]
def Q3i.JC2:Ql U:= [(.normal,⟨45,15,[(0,.ptr 13 0 0),(3,.ptr 14 0 0)],[(13,.obj .Q1j),(14,.obj .Qk)]⟩),
 (.ret,⟨45,14,[(4,vi_),(5,vb_)],[(13,.obj .Q1j)]⟩)]
def Q3i.H (cK149:Q3o.T) (cK146:Q2K.T):Hints U:={ Γ:=(Qn 187 (Q2K.sig.native (Q2K.W cK146)) (Qn 186 (Q3o.sig.native (Q3o.W cK149)) noΓ)),ro:=0,base:=14,Q1L:=jt_ [(3,[(10,vb_)])],Q2w:=jt_ [(5,Q3i.JR5)],Q23:=jt_ [(2,Q3i.JC2)]}
def Q3i.gen (cK149:Q3o.T) (cK146:Q2K.T):Q3i.T:=λx_1 h0=>
 (Q0 ((bif ine x_1.fType 8 then some (.inr (((0:Int),(false,())),(h0,()))) else (Q0 ((bif h0.Q9G then (Q0 (cK149 h0.fsync) none λr0=>(Q0 (cK149 x_1) none λr1=>some (bif bif ieq r0.1.1.Q5b.QI r1.1.1.Q5b.QI then bif ieq r0.1.1.Q5b.QR r1.1.1.Q5b.QR then true else false else false then bif ieq r0.1.1.Q5O r1.1.1.Q5O then true else false else false,()))) else some (false,()))) none λr2=>(bif r2.1 then (Q0 (cK146 h0.fsync x_1 h0.fat h0) none λr3=>some (.inr (r3.1,r3.2.1))) else some (.inl ((),(h0,(x_1,())))))))) none λr4=>(Q3U r4 (λr5=>some (((0:Int),(false,())),((Qz.Q8z (Qz.Qa1 r5.2.1 r5.2.2.1) true,()),()))) (λr5=>some (r5.1,(r5.2,())))))
def Q3i:Q3i.T:=Q3i.gen Q3o Q2K
theorem Q3i.eq (cK149:Q3o.T) (cK146:Q2K.T):EqA Q3i.sig (Q3i.H cK149 cK146) Tryz.f149 6 (Q3i.W (Q3i.gen cK149 cK146)):=by intro a x;kernel_rfl
theorem Q3i.ok:NK_ 149 Q3i.sig (Q3i.W Q3i):=ok_ Tryz.func149 (Q3i.eq Q3o Q2K) (hn_ (Z0 (Z0 Z2 Q3o.ok) Q2K.ok))
def Q3A.sig:Sig U:=⟨[.ptr],[.obj .Q1w],1,[.int .i64],false,[]⟩
abbrev Q3A.T:Type:=(Qo)->Option ((Int×Unit)×Unit×Unit)
def Q3A.W (f:Q3A.T):Q3A.sig.F:=λa x=>f x.1
def Q3A.H:Hints U:={ Γ:=noΓ,ro:=14,base:=14}
def Q3A.gen:Q3A.T:=λh0=>
 some ((h0.Q85,()),((),()))
def Q3A:Q3A.T:=Q3A.gen
theorem Q3A.ok:NK_ 58 Q3A.sig (Q3A.W Q3A):=ok_ (H:=Q3A.H) (n:=6) Tryz.func58 (by intro a x;kernel_rfl) (hn_ Z2)
def Q32.sig:Sig U:=⟨[.int .i64],[],0,[.int .i64],false,[]⟩
abbrev Q32.T:Type:=(Int)->Option ((Int×Unit)×Unit×Unit)
def Q32.W (f:Q32.T):Q32.sig.F:=λa x=>f a.1
def Q32.H (cK163:Q3d.T):Hints U:={ Γ:=(Qn 175 (Q3d.sig.native (Q3d.W cK163)) noΓ),ro:=0,base:=13}
def Q32.gen (cK163:Q3d.T):Q32.T:=λlog=>
 (Q0 (cK163 1000000000 log) none λr0=>some (r0.1,((),())))
def Q32:Q32.T:=Q32.gen Q3d
theorem Q32.eq (cK163:Q3d.T):EqA Q32.sig (Q32.H cK163) Tryz.f189 6 (Q32.W (Q32.gen cK163)):=by intro a x;kernel_rfl
theorem Q32.ok:NK_ 189 Q32.sig (Q32.W Q32):=ok_ Tryz.func189 (Q32.eq Q3d) (hn_ (Z0 Z2 Q3d.ok))
def Q4n.sig:Sig U:=⟨[.int .i64,.int .i64],[],0,[.int .i64],false,[]⟩
abbrev Q4n.T:Type:=(Int)->(Int)->Option ((Int×Unit)×Unit×Unit)
def Q4n.W (f:Q4n.T):Q4n.sig.F:=λa x=>f a.1 a.2.1
def Q4n.H:Hints U:={ Γ:=noΓ,ro:=0,base:=13}
def Q4n.gen:Q4n.T:=λv most=>
 some ((Z4 true (IntKind.wrap .i64 ((0:Int) - most)) (Z4 false v most),()),((),()))
def Q4n:Q4n.T:=Q4n.gen
theorem Q4n.ok:NK_ 203 Q4n.sig (Q4n.W Q4n):=ok_ (H:=Q4n.H) (n:=6) Tryz.func203 (by intro a x;kernel_rfl) (hn_ Z2)
def Q2l.sig:Sig U:=⟨[.ptr,.int .i64,.int .i64],[.obj .Q1w],0,[.int .i64,.bool,.int .i64],true,[]⟩
abbrev Q2l.T:Type:=(Int)->(Int)->(Qo)->Option ((Int×Bool×Int×Unit)×(Qo×Unit)×Unit)
def Q2l.W (f:Q2l.T):Q2l.sig.F:=λa x=>f a.2.1 a.2.2.1 x.1
def Q2l.C:Code:=match Tryz.f188.body with|some c=>c|none=>.skip
def Q2l.B0:Code:=match (Z3 Q2l.C).getD 0 .skip with| .loop b=>b| .scope b=>b|_=>.skip
def Q2l.JC18:Ql U:= [(.normal,⟨141,14,[(0,.ptr 13 0 0)],[(13,.obj .Q1w)]⟩)]
def Q2l.JC16:Ql U:= [(.normal,⟨141,14,[(0,.ptr 13 0 0),(1,vi_)],[(13,.obj .Q1w)]⟩)]
def Q2l.H (cK153:Q4n.T):Hints U:={ Γ:=(Qn 203 (Q4n.sig.native (Q4n.W cK153)) noΓ),ro:=0,base:=14,Q1L:=jt_ [(4,[(45,vb_)]),(10,[(91,vb_)]),(15,[(114,vb_)]),(19,[(127,vb_)])],Q23:=jt_ [(16,Q2l.JC16),(18,Q2l.JC18)],gotos:=3,loop:=λb=>none}
def Q2l.gen (cK153:Q4n.T):Q2l.T:=λoffset interval h0=>
 (Q0 (cK153 offset 4000000000000000) none λr0=>(Q0 ((bif ieq h0.Q1x 0 then some (true,()) else (bif ieq h0.Q9x 0 then some (true,()) else (bif ilt h0.Q9x r0.1.1 then some (true,()) else some (ilt r0.1.1 (IntKind.wrap .i64 ((0:Int) - h0.Q9x)),()))))) none λr1=>(bif r1.1 then some ((IntKind.wrap .i64 ((0:Int) - r0.1.1),(true,(h0.Q85,()))),((Qo.Q6p (Qo.Q3D h0 1) 0,()),())) else (bif ine (Z4 true 1 (Z4 false interval 16000000000)) 0 then (Q0 (cK153 (Q50 .i64 (Q3l .i64 r0.1.1 1000000000) (Z4 true 1 (Z4 false interval 16000000000))) 512000000) none λr2=>(Q0 (cK153 (Q4 .i64 h0.Q9I (Q50 .i64 (Q3l .i64 h0.fki r2.1.1) 1000)) 512000) none λr3=>(Q0 ((bif ilt 512000 (Q1s .i64 (IntKind.wrap .i64 ((0:Int) - Q50 .i64 (Q3l .i64 h0.fkp r2.1.1) 1000)) r3.1.1) then some (true,()) else some (ilt (Q1s .i64 (IntKind.wrap .i64 ((0:Int) - Q50 .i64 (Q3l .i64 h0.fkp r2.1.1) 1000)) r3.1.1) (-512000),()))) none λr4=>(bif r4.1 then (Q0 (cK153 (Q1s .i64 (IntKind.wrap .i64 ((0:Int) - Q50 .i64 (Q3l .i64 h0.fkp r2.1.1) 1000)) r3.1.1) 512000) none λr5=>(Q0 ((bif ilt 100 r0.1.1 then some (true,()) else some (ilt r0.1.1 (-100),()))) none λr6=>(Q0 ((bif r6.1 then some (r0.1,(Qo.Q6p (Qo.Q6Z h0 r5.1.1) 0,())) else some (r0.1,(Qo.Q6p (Qo.Q6Z h0 r5.1.1) (Q4 .i64 h0.Q88 1),())))) none λr7=>(Q0 ((bif ile 3 r7.2.1.Q88 then some ((),(Qo.Q3D r7.2.1 2,())) else (Q0 ((bif ilt 1000 r7.1.1 then some (true,()) else some (ilt r7.1.1 (-1000),()))) none λr8=>(bif r8.1 then some ((),(Qo.Q3D r7.2.1 1,())) else some ((),r7.2))))) none λr9=>some (((0:Int),(false,(r9.2.1.Q85,()))),(r9.2,())))))) else (Q0 ((bif ilt 100 r0.1.1 then some (true,()) else some (ilt r0.1.1 (-100),()))) none λr10=>(Q0 ((bif r10.1 then some (r0.1,(Qo.Q6p (Qo.Q8M (Qo.Q6Z h0 (Q1s .i64 (IntKind.wrap .i64 ((0:Int) - Q50 .i64 (Q3l .i64 h0.fkp r2.1.1) 1000)) r3.1.1)) r3.1.1) 0,())) else some (r0.1,(Qo.Q6p (Qo.Q8M (Qo.Q6Z h0 (Q1s .i64 (IntKind.wrap .i64 ((0:Int) - Q50 .i64 (Q3l .i64 h0.fkp r2.1.1) 1000)) r3.1.1)) r3.1.1) (Q4 .i64 h0.Q88 1),())))) none λr11=>(Q0 ((bif ile 3 r11.2.1.Q88 then some ((),(Qo.Q3D r11.2.1 2,())) else (Q0 ((bif ilt 1000 r11.1.1 then some (true,()) else some (ilt r11.1.1 (-1000),()))) none λr12=>(bif r12.1 then some ((),(Qo.Q3D r11.2.1 1,())) else some ((),r11.2))))) none λr13=>some (((0:Int),(false,(r13.2.1.Q85,()))),(r13.2,()))))))))) else none))))
def Q2l:Q2l.T:=Q2l.gen Q4n
theorem Q2l.eq (cK153:Q4n.T):EqA Q2l.sig (Q2l.H cK153) Tryz.f188 6 (Q2l.W (Q2l.gen cK153)):=by intro a x;kernel_rfl
theorem Q2l.loops:Z3 Q2l.C= [(.scope Q2l.B0)]:=by kernel_rfl
theorem Q2l.ok:NK_ 188 Q2l.sig (Q2l.W Q2l):=ok_ Tryz.func188 (Q2l.eq Q4n) (hl_ (Z0 Z2 Q4n.ok) (Zt Z5)) Q2l.loops
def K31.sig:Sig U:=⟨[.ptr,.Q59 0 23 42 8,.int .i64],[.obj .Q7,Q6h,Q4S,Q54,Q5y,Q4L],0,[],true,[]⟩
abbrev K31.T:Type:=(Nat)->(Int)->(Q1)->(Fm Qo)->(Fm Qg)->(Fm Qb)->(Fm Qh)->(Fm Qz)->Option (Unit×(Q1×Q8s)×Unit)
def K31.W (f:K31.T):K31.sig.F:=λa x=>f a.2.1 a.2.2.1 x.1 x.2.1 x.2.2.1 x.2.2.2.1 x.2.2.2.2.1 x.2.2.2.2.2.1
def K31.L0:Shape U:=⟨125,14,[(0,.ptr 13 0 0),(1,.Q1f 13 23 42 8 0),(68,vi_),(69,vi_)],(13,.obj .Q7)::Q6N⟩
def K31.X0:Ql U:= [(.exit 1,⟨125,14,[(0,.ptr 13 0 0),(1,.Q1f 13 23 42 8 0)],(13,.obj .Q7)::Q6N⟩)]
abbrev K31.l0T:Type:=((Nat×Int×Int×Unit)×(Q1×Q8s))->Option (((Nat×Unit)×(Q1×Q8s)))
def K31.C:Code:=match Tryz.f150.body with|some c=>c|none=>.skip
def K31.B0:Code:=match (Z3 K31.C).getD 0 .skip with| .loop b=>b| .scope b=>b|_=>.skip
def K31.JR14:Ql U:= [(.normal,⟨125,14,[(0,.ptr 13 0 0),(1,.Q1f 13 23 42 8 0),(68,vi_),(69,vi_)],(13,.obj .Q7)::Q6N⟩)]
def K31.Q9K:Ql U:= [(.normal,⟨125,14,[(0,.ptr 13 0 0),(1,.Q1f 13 23 42 8 0),(11,.Q1f 13 23 42 8 0),(68,vi_),(69,vi_)],(13,.obj .Q7)::Q6N⟩)]
def K31.JR6:Ql U:= [(.normal,⟨125,14,[(0,.ptr 13 0 0),(1,.Q1f 13 23 42 8 0)],(13,.obj .Q7)::Q6N⟩)]
def K31.JR2:Ql U:= [(.normal,⟨125,14,[(0,.ptr 13 0 0),(1,.Q1f 13 23 42 8 0),(6,vi_),(7,vi_),(8,vb_),(9,vi_)],(13,.obj .Q7)::Q6N⟩)]
def K31.JR0:Ql U:= [(.normal,⟨125,14,[(0,.ptr 13 0 0),(1,.Q1f 13 23 42 8 0),(2,vi_)],(13,.obj .Q7)::Q6N⟩)]
def K31.H (cK151:Q3A.T) (cK160:Q32.T) (cK152:Q2l.T) (cK96:K96.T) (cK143:Q26.T) (cK58:K58.T) (cK125:Q22.T) (cK137:Q1Z.T) (l0:K31.l0T):Hints U:={ Γ:=(Q1Z.N cK137 (Q22.N cK125 (K58.N cK58 (Q26.N cK143 (Qn 139 (K96.sig.native (K96.W cK96)) (Qn 188 (Q2l.sig.native (Q2l.W cK152)) (Qn 189 (Q32.sig.native (Q32.W cK160)) (Qn 58 (Q3A.sig.native (Q3A.W cK151)) noΓ)))))))),ro:=0,base:=14,Q2w:=jt_ [(0,K31.JR0),(2,K31.JR2),(4,K31.JR6),(5,K31.JR6),(6,K31.JR6),(11,K31.Q9K),(12,K31.Q9K),(13,K31.Q9K),(14,K31.JR14)],Q23:=jt_ [(4,K31.JR6)],loop:=jt_ [(8,(Z9 (0,14) K31.L0 K31.X0 l0))]}
def K31.QT (cK151:Q3A.T) (cK160:Q32.T) (cK152:Q2l.T) (cK96:K96.T) (cK143:Q26.T) (cK58:K58.T) (cK125:Q22.T) (cK137:Q1Z.T) (a:(Nat×Int×Int×Unit)×(Q1×Q8s)):Option (((Nat×Int×Int×Unit)×(Q1×Q8s))⊕(((Nat×Unit)×(Q1×Q8s)))):=
 (bif ilt a.1.2.2.1 a.1.2.1 then (bif inR a.1.2.2.1 8 then (Q0 ((Q0 ((a.2.1.Qf (Int.toNat a.1.2.2.1)).12) none λr0=>(Q0 (cK143 (a.2.2.2.2.2.2.1.2 r0)) none λr1=>some ((a.1.1,(Int.toNat a.1.2.2.1,a.1.2)),(a.2.1,(a.2.2.1,(a.2.2.2.1,(a.2.2.2.2.1,(a.2.2.2.2.2.1,((a.2.2.2.2.2.2.1.1,Qr a.2.2.2.2.2.2.1.2 r0 r1.2.1.1),())))))))))) none λr2=>(Q0 ((Q0 ((r2.2.1.Qf r2.1.2.1).13) none λr3=>(Q0 (cK58 (r2.2.2.2.1.2 r3)) none λr4=>some (r2.1,(r2.2.1,(r2.2.2.1,((r2.2.2.2.1.1,Qr r2.2.2.2.1.2 r3 r4.2.1.1),r2.2.2.2.2))))))) none λr5=>(Q0 ((Q0 ((r5.2.1.Qf r5.1.2.1).14) none λr6=>(Q0 (cK125 (r5.2.2.2.2.1.2 r6)) none λr7=>some (r5.1,(r5.2.1,(r5.2.2.1,(r5.2.2.2.1,((r5.2.2.2.2.1.1,Qr r5.2.2.2.2.1.2 r6 r7.2.1.1),r5.2.2.2.2.2)))))))) none λr8=>some (.inl ((r8.1.1,(r8.1.2.2.1,(Q4 .i64 r8.1.2.2.2.1 1,()))),(Q1.QU r8.2.1 (Qr r8.2.1.Qf r8.1.2.1 (Q5.Q5Q (r8.2.1.Qf r8.1.2.1) z5_)),r8.2.2)))))) else none) else some (.inr ((a.1.1,()),a.2)))
def K31.F0:K31.l0T:=λa=>Z8 (1000000) (K31.QT Q3A Q32 Q2l K96 Q26 K58 Q22 Q1Z) a
def K31.gen (cK151:Q3A.T) (cK160:Q32.T) (cK152:Q2l.T) (cK96:K96.T) (cK143:Q26.T) (cK58:K58.T) (cK125:Q22.T) (cK137:Q1Z.T) (l0:K31.l0T):K31.T:=λp offset h0 g5 g7 g8 g9 g10=>
 (Q0 (h0.5) none λr0=>(Q0 (cK151 (g5.2 r0)) none λr1=>(Q0 ((Q0 (h0.5) none λr2=>(Q0 (cK160 h0.Qs.Q3h) none λr3=>(Q0 (cK152 offset r3.1.1 (g5.2 r2)) none λr4=>some ((p,(r1.1.1,r4.1)),(Q1.Qa3 h0 offset,((g5.1,Qr g5.2 r2 r4.2.1.1),(g7,(g8,(g9,(g10,()))))))))))) none λr5=>(Q0 ((bif r5.1.2.2.2.1 then (Q0 ((bif room (List.length r5.2.1.Q2q+List.length (QJ.mk 2 0 r5.1.2.2.1 false 0 0 (ByteArray.mk (List.toArray (Qm UInt8)))::Qm QJ)) 64 then some ((r5.1.1,()),(Q1.Q17 r5.2.1 (r5.2.1.Q2q++QJ.mk 2 0 r5.1.2.2.1 false 0 0 (ByteArray.mk (List.toArray (Qm UInt8)))::Qm QJ),r5.2.2)) else none)) none λr6=>(Q0 ((Q0 (r6.2.1.6) none λr7=>(Q0 (cK96 (r6.2.2.2.2.2.1.2 r7)) none λr8=>some (r6.1,(r6.2.1,(r6.2.2.1,(r6.2.2.2.1,(r6.2.2.2.2.1,((r6.2.2.2.2.2.1.1,Qr r6.2.2.2.2.2.1.2 r7 r8.2.1.1),r6.2.2.2.2.2.2))))))))) none λr9=>(bif le3 (ofN 0) r9.2.1.Qs.QB 8 then (Q0 (l0 ((r9.1.1,ofN (Int.toNat r9.2.1.Qs.QB - Int.toNat (ofN 0)),(0:Int),()),Q1.Q6D r9.2.1 z5_,r9.2.2)) none λr10=>some r10) else none))) else (bif ine r5.1.2.2.2.2.1 r5.1.2.1 then (bif room (List.length r5.2.1.Q2q+List.length (QJ.mk 3 0 r5.1.2.2.2.2.1 false 0 0 (ByteArray.mk (List.toArray (Qm UInt8)))::Qm QJ)) 64 then some ((r5.1.1,()),(Q1.Q17 r5.2.1 (r5.2.1.Q2q++QJ.mk 3 0 r5.1.2.2.2.2.1 false 0 0 (ByteArray.mk (List.toArray (Qm UInt8)))::Qm QJ),r5.2.2)) else none) else some ((r5.1.1,()),r5.2)))) none λr11=>(Q0 (cK137 (r11.2.1.Qf r11.1.1).Q1x 6 r11.2.1.Qs.Q2s) none λr12=>some ((),((Q1.QU r11.2.1 (Qr r11.2.1.Qf r11.1.1 (Q5.Q3D (r11.2.1.Qf r11.1.1) r12.1.1)),r11.2.2),())))))))
def K31:K31.T:=K31.gen Q3A Q32 Q2l K96 Q26 K58 Q22 Q1Z K31.F0
theorem K31.Q24 (cK151:Q3A.T) (cK160:Q32.T) (cK152:Q2l.T) (cK96:K96.T) (cK143:Q26.T) (cK58:K58.T) (cK125:Q22.T) (cK137:Q1Z.T) (l0:K31.l0T) (a:K31.L0.T):run Tryz.prog (K31.H cK151 cK160 cK152 cK96 cK143 cK58 cK125 cK137 l0) 6 (Option (K31.L0.T⊕ExT K31.X0)) none K31.B0 (K31.L0.enc a) (Zj (0,14) K31.L0 K31.X0)=K31.QT cK151 cK160 cK152 cK96 cK143 cK58 cK125 cK137 a:=by kernel_rfl
abbrev K31.h:=K31.H Q3A Q32 Q2l K96 Q26 K58 Q22 Q1Z K31.F0
theorem K31.Q1V:LO_ K31.h K31.B0 (Z9 (0,14) K31.L0 K31.X0 K31.F0):=lk_ (hn_ (Z0 (Z0 (Z0 (Z0 (Z0 (Z0 (Z0 (Z0 Z2 Q3A.ok) Q32.ok) Q2l.ok) K96.ok) Q26.ok) K58.ok) Q22.ok) Q1Z.ok)) (K31.Q24 Q3A Q32 Q2l K96 Q26 K58 Q22 Q1Z K31.F0)
theorem K31.eq (cK151:Q3A.T) (cK160:Q32.T) (cK152:Q2l.T) (cK96:K96.T) (cK143:Q26.T) (cK58:K58.T) (cK125:Q22.T) (cK137:Q1Z.T) (l0:K31.l0T):EqA K31.sig (K31.H cK151 cK160 cK152 cK96 cK143 cK58 cK125 cK137 l0) Tryz.f150 6 (K31.W (K31.gen cK151 cK160 cK152 cK96 cK143 cK58 cK125 cK137 l0)):=by intro a x;kernel_rfl
theorem K31.loops:Z3 K31.C= [(.loop K31.B0)]:=by kernel_rfl
theorem K31.ok:NK_ 150 K31.sig (K31.W K31):=ok_ Tryz.func150 (K31.eq Q3A Q32 Q2l K96 Q26 K58 Q22 Q1Z K31.F0) (hl_ (Z0 (Z0 (Z0 (Z0 (Z0 (Z0 (Z0 (Z0 Z2 Q3A.ok) Q32.ok) Q2l.ok) K96.ok) Q26.ok) K58.ok) Q22.ok) Q1Z.ok) (Z7 (by kernel_rfl) K31.Q1V Z5)) K31.loops
def K21.sig:Sig U:=⟨[.ptr,.Q59 0 23 42 8,.data .Qk,.int .i64],[.obj .Q7,Q6h,Q4S,Q54,Q5y,Q4L],0,[],true,[]⟩
abbrev K21.T:Type:=(Nat)->(Q8)->(Int)->(Q1)->(Fm Qo)->(Fm Qg)->(Fm Qb)->(Fm Qh)->(Fm Qz)->Option (Unit×(Q1×Q8s)×Unit)
def K21.W (f:K21.T):K21.sig.F:=λa x=>f a.2.1 a.2.2.1 a.2.2.2.1 x.1 x.2.1 x.2.2.1 x.2.2.2.1 x.2.2.2.2.1 x.2.2.2.2.2.1
def K21.JR6:Ql U:= [(.normal,⟨62,15,[(0,.ptr 13 0 0),(1,.Q1f 13 23 42 8 0),(8,vi_),(10,.ptr 14 0 0)],(13,.obj .Q7)::(14,.obj .Q29)::Q6N⟩)]
def K21.JR5:Ql U:= [(.normal,⟨62,14,[(0,.ptr 13 0 0),(1,.Q1f 13 23 42 8 0),(8,vi_)],(13,.obj .Q7)::Q6N⟩)]
def K21.JR1:Ql U:= [(.normal,⟨62,15,[(0,.ptr 13 0 0),(1,.Q1f 13 23 42 8 0),(6,.ptr 14 0 0),(8,vi_),(9,vb_)],(13,.obj .Q7)::(14,.obj .Qk)::Q6N⟩)]
def K21.JC3:Ql U:= [(.normal,⟨62,14,[(0,.ptr 13 0 0),(1,.Q1f 13 23 42 8 0),(8,vi_),(9,vb_)],(13,.obj .Q7)::Q6N⟩)]
def K21.H (cK145:Q2J.T) (cK144:Q3i.T) (cK31:K31.T):Hints U:={ Γ:=(Qn 150 (K31.sig.native (K31.W cK31)) (Qn 149 (Q3i.sig.native (Q3i.W cK144)) (Qn 148 (Q2J.sig.native (Q2J.W cK145)) noΓ))),ro:=0,base:=14,Q2w:=jt_ [(1,K21.JR1),(5,K21.JR5),(6,K21.JR6)],Q23:=jt_ [(3,K21.JC3),(8,K21.JR6)]}
def K21.gen (cK145:Q2J.T) (cK144:Q3i.T) (cK31:K31.T):K21.T:=λp m now h0 g5 g7 g8 g9 g10=>
 (Q0 ((Q0 ((h0.Qf p).12) none λr0=>(Q0 (cK145 m now (g10.2 r0)) none λr1=>some ((p,r1.1),(h0,(m,(g5,(g7,(g8,(g9,((g10.1,Qr g10.2 r0 r1.2.1.1),()))))))))))) none λr2=>(Q0 ((bif ieq r2.2.2.1.fType 8 then (Q0 ((r2.2.1.Qf r2.1.1).12) none λr3=>(Q0 (cK144 r2.2.2.1 (r2.2.2.2.2.2.2.2.1.2 r3)) none λr4=>some ((r2.1.1,r4.1),(r2.2.1,(r2.2.2.2.1,(r2.2.2.2.2.1,(r2.2.2.2.2.2.1,(r2.2.2.2.2.2.2.1,((r2.2.2.2.2.2.2.2.1.1,Qr r2.2.2.2.2.2.2.2.1.2 r3 r4.2.1.1),()))))))))) else some (r2.1,(r2.2.1,r2.2.2.2)))) none λr5=>(bif !r5.1.2.2.1 then some ((),(r5.2,())) else (Q0 ((bif r5.2.1.Qs.Q4o then some ((r5.1.1,(r5.1.2.1,())),(Q1.QU r5.2.1 (Qr r5.2.1.Qf r5.1.1 (Q5.Q5Q (r5.2.1.Qf r5.1.1) (Q13.mk r5.1.2.1 true))),((Qr r5.2.1.Qf r5.1.1 (Q5.Q5Q (r5.2.1.Qf r5.1.1) (Q13.mk r5.1.2.1 true)) r5.1.1).Q4b,r5.2.2))) else some ((r5.1.1,(r5.1.2.1,())),(Q1.QU r5.2.1 (Qr r5.2.1.Qf r5.1.1 (Q5.Q5Q (r5.2.1.Qf r5.1.1) (Q13.mk r5.1.2.1 true))),(r5.2.1.Q4i,r5.2.2))))) none λr6=>(bif r6.2.2.1.fis then (Q0 (cK31 r6.1.1 (Q1s .i64 r6.1.2.1 r6.2.2.1.fv) r6.2.1 r6.2.2.2.1 r6.2.2.2.2.1 r6.2.2.2.2.2.1 r6.2.2.2.2.2.2.1 r6.2.2.2.2.2.2.2.1) none λr7=>some ((),r7.2)) else some ((),((r6.2.1,r6.2.2.2),())))))))
def K21:K21.T:=K21.gen Q2J Q3i K31
theorem K21.eq (cK145:Q2J.T) (cK144:Q3i.T) (cK31:K31.T):EqA K21.sig (K21.H cK145 cK144 cK31) Tryz.f77 6 (K21.W (K21.gen cK145 cK144 cK31)):=by intro a x;kernel_rfl
theorem K21.ok:NK_ 77 K21.sig (K21.W K21):=ok_ Tryz.func77 (K21.eq Q2J Q3i K31) (hn_ (Z0 (Z0 (Z0 Z2 Q2J.ok) Q3i.ok) K31.ok))
def K57.sig:Sig U:=⟨[.data .Qk,.data .Qu,.int .i64,.int .i64],[],0,[.data .Qk,.bool],true,[]⟩
abbrev K57.T:Type:=(Q8)->(Qd)->(Int)->(Int)->Option ((Q8×Bool×Unit)×Unit×Unit)
def K57.W (f:K57.T):K57.sig.F:=λa x=>f a.1 a.2.1 a.2.2.1 a.2.2.2.1
def K57.H (cK159:Q1M.T):Hints U:={ Γ:=(Q1M.N cK159 noΓ),ro:=0,base:=13,Q1L:=jt_ [(1,[(17,vb_)])]}
def K57.gen (cK159:Q1M.T):K57.T:=λm self at_2 log=>
 (Q0 ((bif ine m.fType 1 then some (true,()) else (Q0 (cK159 at_2) none λr0=>some (!r0.1.1,())))) none λr1=>(bif r1.1 then some ((Q8.mk 0 0 0 0 z0_ 0 0 0 z0_ 0 0 z1_ 0 0 0 0 0 0 0,(false,())),((),())) else some ((Q8.mk 9 m.Q1D 0 m.Q4s self m.Q2W log at_2 m.Q1H 0 0 z1_ 0 0 0 0 0 0 0,(true,())),((),()))))
def K57:K57.T:=K57.gen Q1M
theorem K57.eq (cK159:Q1M.T):EqA K57.sig (K57.H cK159) Tryz.f78 6 (K57.W (K57.gen cK159)):=by intro a x;kernel_rfl
theorem K57.ok:NK_ 78 K57.sig (K57.W K57):=ok_ Tryz.func78 (K57.eq Q1M) (hn_ (Z0 Z2 Q1M.ok))
def K60.sig:Sig U:=⟨[.ptr,.data .Qk],[.obj .Q10],0,[.int .i64,.bool],true,[]⟩
abbrev K60.T:Type:=(Q8)->(Qg)->Option ((Int×Bool×Unit)×(Qg×Unit)×Unit)
def K60.W (f:K60.T):K60.sig.F:=λa x=>f a.2.1 x.1
def K60.H (cK157:Q2i.T) (cK58:K58.T):Hints U:={ Γ:=(K58.N cK58 (Q2i.N cK157 noΓ)),ro:=0,base:=14,Q1L:=jt_ [(1,[(36,vb_)])]}
def K60.gen (cK157:Q2i.T) (cK58:K58.T):K60.T:=λm h0=>
 (Q0 ((bif ine m.fType 9 then some (true,()) else (bif !bif ieq m.Q2e.QI h0.Q5F.QI then bif ieq m.Q2e.QR h0.Q5F.QR then true else false else false then some (true,()) else (bif !h0.fr.Q6n then some (true,()) else some (ine m.Q2W h0.fr.Q5O,()))))) none λr0=>(bif r0.1 then some (((0:Int),(false,())),((h0,()),())) else (Q0 (cK157 m.Q4s) none λr1=>(Q0 (cK58 h0) none λr2=>some ((Q1s .i64 (Q1s .i64 m.Q44 h0.fr.fat) r1.1.1,(true,())),r2.2)))))
def K60:K60.T:=K60.gen Q2i K58
theorem K60.eq (cK157:Q2i.T) (cK58:K58.T):EqA K60.sig (K60.H cK157 cK58) Tryz.f152 6 (K60.W (K60.gen cK157 cK58)):=by intro a x;kernel_rfl
theorem K60.ok:NK_ 152 K60.sig (K60.W K60):=ok_ Tryz.func152 (K60.eq Q2i K58) (hn_ (Z0 (Z0 Z2 Q2i.ok) K58.ok))
def Q3y.sig:Sig U:=⟨[.int .i64,.int .i64],[],0,[.cpx,.bool],true,[]⟩
abbrev Q3y.T:Type:=(Int)->(Int)->Option ((((Nat×Nat))×Bool×Unit)×Unit×Unit)
def Q3y.W (f:Q3y.T):Q3y.sig.F:=λa x=>f a.1 a.2.1
def Q3y.H:Hints U:={ Γ:=noΓ,ro:=0,base:=13,Q1L:=jt_ [(1,[(19,vb_)])]}
def Q3y.gen:Q3y.T:=λa b=>
 (Q0 ((bif ilt a (-4000000000000000) then some (true,()) else (bif ilt 4000000000000000 a then some (true,()) else (bif ilt b (-4000000000000000) then some (true,()) else some (ilt 4000000000000000 b,()))))) none λr0=>(bif r0.1 then some (((0,0),(false,())),((),())) else some (((Go.floatOfInt Go.FloatKind.f64 a,Go.floatOfInt Go.FloatKind.f64 b),(true,())),((),()))))
def Q3y:Q3y.T:=Q3y.gen
theorem Q3y.ok:NK_ 153 Q3y.sig (Q3y.W Q3y):=ok_ (H:=Q3y.H) (n:=6) Tryz.func153 (by intro a x;kernel_rfl) (hn_ Z2)
def K95.sig:Sig U:=⟨[.flt],[],0,[.flt],false,[]⟩
abbrev K95.T:Type:=(Nat)->Option ((Nat×Unit)×Unit×Unit)
def K95.W (f:K95.T):K95.sig.F:=λa x=>f a.1
def K95.H:Hints U:={ Γ:=(Qn 222 Z5k noΓ),ro:=0,base:=13}
def K95.gen:K95.T:=λx_0=>
 (Q0 ((Z2m (x_0))) none λr0=>some ((r0,()),((),())))
def K95:K95.T:=K95.gen
theorem K95.ok:NK_ 220 K95.sig (K95.W K95):=ok_ (H:=K95.H) (n:=6) Tryz.func220 (by intro a x;kernel_rfl) (hn_ (Z0 Z2 (Z7F Tryz.func222 rfl (by kernel_rfl) (by kernel_rfl) (by kernel_rfl))))
def K94.sig:Sig U:=⟨[.flt],[],0,[.bool],false,[]⟩
abbrev K94.T:Type:=(Nat)->Option ((Bool×Unit)×Unit×Unit)
def K94.W (f:K94.T):K94.sig.F:=λa x=>f a.1
def K94.H:Hints U:={ Γ:=(Qn 224 Z3H noΓ),ro:=0,base:=13}
def K94.gen:K94.T:=λx_0=>
 some ((ilt (IntKind.wrap .i64 (ofN x_0)) 0,()),((),()))
def K94:K94.T:=K94.gen
theorem K94.ok:NK_ 221 K94.sig (K94.W K94):=ok_ (H:=K94.H) (n:=6) Tryz.func221 (by intro a x;kernel_rfl) (hn_ (Z0 Z2 (Z6A Tryz.func224 rfl (by kernel_rfl) (by kernel_rfl) (by kernel_rfl))))
def Q3O.sig:Sig U:=⟨[.flt],[],0,[.bool],false,[]⟩
abbrev Q3O.T:Type:=(Nat)->Option ((Bool×Unit)×Unit×Unit)
def Q3O.W (f:Q3O.T):Q3O.sig.F:=λa x=>f a.1
def Q3O.H (cK95:K95.T) (cK94:K94.T):Hints U:={ Γ:=(Qn 221 (K94.sig.native (K94.W cK94)) (Qn 220 (K95.sig.native (K95.W cK95)) noΓ)),ro:=0,base:=13}
def Q3O.gen (cK95:K95.T) (cK94:K94.T):Q3O.T:=λf=>
 (bif Ieee.Format.order (Go.FloatKind.format Go.FloatKind.f64) f 14063734437023318016==some Ordering.gt||Ieee.Format.order (Go.FloatKind.format Go.FloatKind.f64) f 14063734437023318016==some Ordering.eq then (bif Ieee.Format.order (Go.FloatKind.format Go.FloatKind.f64) f 4840362400168542208==some Ordering.lt||Ieee.Format.order (Go.FloatKind.format Go.FloatKind.f64) f 4840362400168542208==some Ordering.eq then (Q0 (cK95 f) none λr0=>(bif Ieee.Format.order (Go.FloatKind.format Go.FloatKind.f64) f r0.1.1==some Ordering.eq then (bif Ieee.Format.order (Go.FloatKind.format Go.FloatKind.f64) f 0 !=some Ordering.eq then some ((true,()),((),())) else (Q0 (cK94 f) none λr1=>some ((!r1.1.1,()),((),())))) else some ((false,()),((),())))) else some ((false,()),((),()))) else some ((false,()),((),())))
def Q3O:Q3O.T:=Q3O.gen K95 K94
theorem Q3O.eq (cK95:K95.T) (cK94:K94.T):EqA Q3O.sig (Q3O.H cK95 cK94) Tryz.f214 6 (Q3O.W (Q3O.gen cK95 cK94)):=by intro a x;kernel_rfl
theorem Q3O.ok:NK_ 214 Q3O.sig (Q3O.W Q3O):=ok_ Tryz.func214 (Q3O.eq K95 K94) (hn_ (Z0 (Z0 Z2 K95.ok) K94.ok))
def Q3T.sig:Sig U:=⟨[.cpx],[],0,[.bool],false,[]⟩
abbrev Q3T.T:Type:=((Nat×Nat))->Option ((Bool×Unit)×Unit×Unit)
def Q3T.W (f:Q3T.T):Q3T.sig.F:=λa x=>f a.1
def Q3T.H (cK123:Q3O.T):Hints U:={ Γ:=(Qn 214 (Q3O.sig.native (Q3O.W cK123)) noΓ),ro:=0,base:=13}
def Q3T.gen (cK123:Q3O.T):Q3T.T:=λz=>
 (Q0 (cK123 z.1) none λr0=>(bif r0.1.1 then (Q0 (cK123 z.2) none λr1=>some (r1.1,((),()))) else some ((false,()),((),()))))
def Q3T:Q3T.T:=Q3T.gen Q3O
theorem Q3T.eq (cK123:Q3O.T):EqA Q3T.sig (Q3T.H cK123) Tryz.f204 6 (Q3T.W (Q3T.gen cK123)):=by intro a x;kernel_rfl
theorem Q3T.ok:NK_ 204 Q3T.sig (Q3T.W Q3T):=ok_ Tryz.func204 (Q3T.eq Q3O) (hn_ (Z0 Z2 Q3O.ok))
def Q3S.sig:Sig U:=⟨[.cpx],[],0,[.cpx,.bool],true,[]⟩
abbrev Q3S.T:Type:=((Nat×Nat))->Option ((((Nat×Nat))×Bool×Unit)×Unit×Unit)
def Q3S.W (f:Q3S.T):Q3S.sig.F:=λa x=>f a.1
def Q3S.H (cK122:Q3T.T):Hints U:={ Γ:=(Qn 204 (Q3T.sig.native (Q3T.W cK122)) noΓ),ro:=0,base:=13}
def Q3S.gen (cK122:Q3T.T):Q3S.T:=λz=>
 (Q0 (cK122 z) none λr0=>(bif !r0.1.1 then some (((0,0),(false,())),((),())) else (Q0 ((Go.cMulBits (z.1) (z.2) (4607182418800017408) (4607182418800017408))) none λr1=>some ((r1,(true,())),((),())))))
def Q3S:Q3S.T:=Q3S.gen Q3T
theorem Q3S.eq (cK122:Q3T.T):EqA Q3S.sig (Q3S.H cK122) Tryz.f190 6 (Q3S.W (Q3S.gen cK122)):=by intro a x;kernel_rfl
theorem Q3S.ok:NK_ 190 Q3S.sig (Q3S.W Q3S):=ok_ Tryz.func190 (Q3S.eq Q3T) (hn_ (Z0 Z2 Q3T.ok))
def Q3B.sig:Sig U:=⟨[.cpx],[],0,[.int .i64,.bool],true,[]⟩
abbrev Q3B.T:Type:=((Nat×Nat))->Option ((Int×Bool×Unit)×Unit×Unit)
def Q3B.W (f:Q3B.T):Q3B.sig.F:=λa x=>f a.1
def Q3B.H (cK121:Q3S.T):Hints U:={ Γ:=(Qn 190 (Q3S.sig.native (Q3S.W cK121)) noΓ),ro:=0,base:=13}
def Q3B.gen (cK121:Q3S.T):Q3B.T:=λz=>
 (Q0 (cK121 z) none λr0=>(Q0 ((Go.floatToIntVal Go.FloatKind.f64 (r0.1.1.2) .i64)) none λr1=>some ((Q5N .i64 r1 1,r0.1.2),((),()))))
def Q3B:Q3B.T:=Q3B.gen Q3S
theorem Q3B.eq (cK121:Q3S.T):EqA Q3B.sig (Q3B.H cK121) Tryz.f154 6 (Q3B.W (Q3B.gen cK121)):=by intro a x;kernel_rfl
theorem Q3B.ok:NK_ 154 Q3B.sig (Q3B.W Q3B):=ok_ Tryz.func154 (Q3B.eq Q3S) (hn_ (Z0 Z2 Q3S.ok))
def K97.sig:Sig U:=⟨[.ptr],[.obj .Q18],1,[.int .i64,.bool],true,[]⟩
abbrev K97.T:Type:=(Qh)->Option ((Int×Bool×Unit)×Unit×Unit)
def K97.W (f:K97.T):K97.sig.F:=λa x=>f x.1
def K97.L0:Shape U:=⟨60,15,[(0,.ptr 13 0 0),(4,.ptr 14 0 0),(20,.asl 13 0 1 15),(21,vi_),(22,vi_)],[(13,.obj .Q18),(14,.Q1R true .int)]⟩
def K97.X0:Ql U:= [(.exit 0,⟨60,15,[(0,.ptr 13 0 0),(4,.ptr 14 0 0)],[(13,.obj .Q18),(14,.Q1R true .int)]⟩)]
abbrev K97.l0T:Type:=(((Nat×Nat)×Int×Int×Unit)×(Qh×(Fm Int)×Unit))->Option ((Unit×(Qh×(Fm Int)×Unit)))
def K97.L1:Shape U:=⟨60,15,[(0,.ptr 13 0 0),(4,.ptr 14 0 0),(5,vi_),(6,vi_),(7,vi_),(20,.asl 13 0 1 15),(21,vi_),(22,vi_)],[(13,.obj .Q18),(14,.Q1R true .int)]⟩
def K97.X1:Ql U:= [(.exit 2,⟨60,15,[(0,.ptr 13 0 0),(4,.ptr 14 0 0),(5,vi_),(6,vi_),(7,vi_),(20,.asl 13 0 1 15),(21,vi_),(22,vi_)],[(13,.obj .Q18),(14,.Q1R true .int)]⟩)]
abbrev K97.l1T:Type:=((Int×Int×Int×(Nat×Nat)×Int×Int×Unit)×(Qh×(Fm Int)×Unit))->Option (((Int×Int×Int×(Nat×Nat)×Int×Int×Unit)×(Qh×(Fm Int)×Unit)))
def K97.C:Code:=match Tryz.f191.body with|some c=>c|none=>.skip
def K97.B0:Code:=match (Z3 K97.C).getD 0 .skip with| .loop b=>b| .scope b=>b|_=>.skip
def K97.B1:Code:=match (Z3 K97.C).getD 1 .skip with| .loop b=>b| .scope b=>b|_=>.skip
def K97.H (l0:K97.l0T) (l1:K97.l1T):Hints U:={ Γ:=(Qn 3000000266 Z16 noΓ),ro:=14,base:=14,Q1L:=jt_ [(8,[(36,vb_)])],loop:=jt_ [(5,(Z9 (14,14) K97.L0 K97.X0 l0)),(8,(Z9 (14,14) K97.L1 K97.X1 l1))]}
def K97.Q2y (a:(Int×Int×Int×(Nat×Nat)×Int×Int×Unit)×(Qh×(Fm Int)×Unit)):Option (((Int×Int×Int×(Nat×Nat)×Int×Int×Unit)×(Qh×(Fm Int)×Unit))⊕(((Int×Int×Int×(Nat×Nat)×Int×Int×Unit)×(Qh×(Fm Int)×Unit)))):=
 (Q0 ((bif ilt a.1.2.2.1 a.1.1 then (bif bif inR a.1.2.2.1 15 then inR a.1.2.2.1 a.2.2.1.1 else false then some (ile (a.2.2.1.2 (Int.toNat a.1.2.2.1)) a.1.2.1,()) else none) else some (false,()))) none λr0=>(bif r0.1 then some (.inl ((a.1.1,(a.1.2.1,(Q4 .i64 a.1.2.2.1 1,a.1.2.2.2))),a.2)) else some (.inr a)))
def K97.F1:K97.l1T:=λa=>Z8 (1000000+(a.1.2.2.2.1.2)) (K97.Q2y) a
def K97.QT (l1:K97.l1T) (a:((Nat×Nat)×Int×Int×Unit)×(Qh×(Fm Int)×Unit)):Option ((((Nat×Nat)×Int×Int×Unit)×(Qh×(Fm Int)×Unit))⊕((Unit×(Qh×(Fm Int)×Unit)))):=
 (bif ilt a.1.2.2.1 a.1.2.1 then (bif inR a.1.2.2.1 a.1.1.2 then (Q0 (l1 ((a.1.2.2.1,a.2.1.fl (a.1.1.1+Int.toNat a.1.2.2.1),(0:Int),a.1),a.2)) none λr0=>(bif bif le3 (Q4 .i64 r0.1.2.2.1 1) (Q4 .i64 r0.1.1 1) 15 then le3 (Q4 .i64 r0.1.2.2.1 1) (Q4 .i64 r0.1.1 1) r0.2.2.1.1 else false then (bif bif le3 r0.1.2.2.1 r0.1.1 15 then le3 r0.1.2.2.1 r0.1.1 r0.2.2.1.1 else false then (bif bif inR r0.1.2.2.1 15 then inR r0.1.2.2.1 r0.2.2.1.1 else false then some (.inl ((r0.1.2.2.2.1,(r0.1.2.2.2.2.1,(Q4 .i64 r0.1.2.2.2.2.2.1 1,()))),(r0.2.1,((r0.2.2.1.1,Qr (λ(i:Nat)=>bif Nat.ble (Int.toNat (Q4 .i64 r0.1.2.2.1 1)) i && Nat.blt i (Int.toNat (Q4 .i64 r0.1.2.2.1 1)+Nat.min (Int.toNat r0.1.1 - Int.toNat r0.1.2.2.1) (Int.toNat (Q4 .i64 r0.1.1 1) - Int.toNat (Q4 .i64 r0.1.2.2.1 1))) then r0.2.2.1.2 (Int.toNat r0.1.2.2.1+(i - Int.toNat (Q4 .i64 r0.1.2.2.1 1))) else r0.2.2.1.2 i) (Int.toNat r0.1.2.2.1) r0.1.2.1),())))) else none) else none) else none)) else none) else some (.inr ((),a.2)))
def K97.F0:K97.l0T:=λa=>Z8 (1000000+(a.1.1.2)) (K97.QT K97.F1) a
def K97.gen (l0:K97.l0T) (l1:K97.l1T):K97.T:=λh0=>
 (bif ieq h0.fn 0 then some (((0:Int),(false,())),((),())) else (bif le3 (ofN 0) h0.fn 15 then (Q0 (l0 (((Int.toNat (ofN 0),Int.toNat h0.fn - Int.toNat (ofN 0)),ofN (Int.toNat h0.fn - Int.toNat (ofN 0)),(0:Int),()),h0,(15,λ(j:Nat)=>List.getD ((0:Int)::(0:Int)::(0:Int)::(0:Int)::(0:Int)::(0:Int)::(0:Int)::(0:Int)::(0:Int)::(0:Int)::(0:Int)::(0:Int)::(0:Int)::(0:Int)::(0:Int)::Qm Int) j (0:D UC.int)),())) none λr0=>(bif bif inR (Q50 .i64 (Q1s .i64 r0.2.1.fn 1) 2) 15 then inR (Q50 .i64 (Q1s .i64 r0.2.1.fn 1) 2) r0.2.2.1.1 else false then some ((r0.2.2.1.2 (Int.toNat (Q50 .i64 (Q1s .i64 r0.2.1.fn 1) 2)),(true,())),((),())) else none)) else none))
def K97:K97.T:=K97.gen K97.F0 K97.F1
theorem K97.seq1 (l0:K97.l0T) (l1:K97.l1T) (a:K97.L1.T):run Tryz.prog (K97.H l0 l1) 6 (Option (K97.L1.T⊕ExT K97.X1)) none K97.B1 (K97.L1.enc a) (Zj (14,14) K97.L1 K97.X1)=K97.Q2y a:=by kernel_rfl
abbrev K97.h:=K97.H K97.F0 K97.F1
theorem K97.Q4Q:LO_ K97.h K97.B1 (Z9 (14,14) K97.L1 K97.X1 K97.F1):=lk_ (hn_ (Z0 Z2 Zd)) (K97.seq1 K97.F0 K97.F1)
theorem K97.Q24 (l0:K97.l0T) (l1:K97.l1T) (a:K97.L0.T):run Tryz.prog (K97.H l0 l1) 6 (Option (K97.L0.T⊕ExT K97.X0)) none K97.B0 (K97.L0.enc a) (Zj (14,14) K97.L0 K97.X0)=K97.QT l1 a:=by kernel_rfl
theorem K97.Q4B:Z3 K97.B0= [(.loop K97.B1)]:=by kernel_rfl
theorem K97.Q1V:ZF U Tryz.prog K97.h.ro K97.h.base K97.B0 (Z9 (14,14) K97.L0 K97.X0 K97.F0):=
 Z2Q (Hn:=K97.h) Q5L Q4u (Z1B (hq (Z0 Z2 Zd) (Z7 (by kernel_rfl) K97.Q4Q Z5) (λ_=>rfl) (λ_=>rfl)) 6) (λb h=>by rw [K97.Q4B] at h;exact h) (λ_=>rfl) (K97.Q24 K97.F0 K97.F1)
theorem K97.eq (l0:K97.l0T) (l1:K97.l1T):EqA K97.sig (K97.H l0 l1) Tryz.f191 6 (K97.W (K97.gen l0 l1)):=by intro a x;kernel_rfl
theorem K97.loops:Z3 K97.C= [(.loop K97.B0),(.loop K97.B1)]:=by kernel_rfl
theorem K97.ok:NK_ 191 K97.sig (K97.W K97):=ok_ Tryz.func191 (K97.eq K97.F0 K97.F1) (hl_ (Z0 Z2 Zd) (Z7 (by kernel_rfl) K97.Q1V (Z7 (by kernel_rfl) K97.Q4Q Z5))) K97.loops
def K98.sig:Sig U:=⟨[.ptr,.int .i64],[.obj .Q18],0,[.int .i64],false,[]⟩
abbrev K98.T:Type:=(Int)->(Qh)->Option ((Int×Unit)×(Qh×Unit)×Unit)
def K98.W (f:K98.T):K98.sig.F:=λa x=>f a.2.1 x.1
def K98.JC2:Ql U:= [(.normal,⟨58,14,[(0,.ptr 13 0 0),(1,vi_)],[(13,.obj .Q18)]⟩)]
def K98.H (cK97:K97.T):Hints U:={ Γ:=(Qn 191 (K97.sig.native (K97.W cK97)) noΓ),ro:=0,base:=14,Q23:=jt_ [(2,K98.JC2)]}
def K98.gen (cK97:K97.T):K98.T:=λv h0=>
 (Q0 ((bif ieq h0.fn h0.Q4O then (bif le3 1 h0.fn 15 then some ((v,()),(Qh.mk (λ(i:Nat)=>bif Nat.ble (Int.toNat (ofN 0)) i && Nat.blt i (Int.toNat (ofN 0)+Nat.min (Int.toNat h0.fn - Int.toNat 1) (Int.toNat (ofN 15) - Int.toNat (ofN 0))) then h0.fl (Int.toNat 1+(i - Int.toNat (ofN 0))) else h0.fl i) (Q1s .i64 h0.fn 1) h0.Q4O,())) else none) else some ((v,()),(h0,())))) none λr0=>(bif inR r0.2.1.fn 15 then (Q0 (cK97 (Qh.mk (Qr r0.2.1.fl (Int.toNat r0.2.1.fn) r0.1.1) (Q4 .i64 r0.2.1.fn 1) r0.2.1.Q4O)) none λr1=>some ((r1.1.1,()),((Qh.mk (Qr r0.2.1.fl (Int.toNat r0.2.1.fn) r0.1.1) (Q4 .i64 r0.2.1.fn 1) r0.2.1.Q4O,()),()))) else none))
def K98:K98.T:=K98.gen K97
theorem K98.eq (cK97:K97.T):EqA K98.sig (K98.H cK97) Tryz.f155 6 (K98.W (K98.gen cK97)):=by intro a x;kernel_rfl
theorem K98.ok:NK_ 155 K98.sig (K98.W K98):=ok_ Tryz.func155 (K98.eq K97) (hn_ (Z0 Z2 K97.ok))
def K15.sig:Sig U:=⟨[.ptr,.Q59 0 23 42 8,.data .Qk],[.obj .Q7,Q4S,Q5y],0,[],true,[]⟩
abbrev K15.T:Type:=(Nat)->(Q8)->(Q1)->(Fm Qg)->(Fm Qh)->Option (Unit×(Q1×(Fm Qg)×(Fm Qh)×Unit)×Unit)
def K15.W (f:K15.T):K15.sig.F:=λa x=>f a.2.1 a.2.2.1 x.1 x.2.1 x.2.2.1
def K15.JR1:Ql U:= [(.normal,⟨57,14,[(0,.ptr 13 0 0),(1,.Q1f 13 23 42 8 0),(6,vi_),(7,vb_)],[(13,.obj .Q7),(7,.Q1R false .Q10),(9,.Q1R false .Q18)]⟩)]
def K15.H (cK60:K60.T) (cK120:Q3y.T) (cK119:Q3B.T) (cK98:K98.T):Hints U:={ Γ:=(Qn 155 (K98.sig.native (K98.W cK98)) (Qn 154 (Q3B.sig.native (Q3B.W cK119)) (Qn 153 (Q3y.sig.native (Q3y.W cK120)) (Qn 152 (K60.sig.native (K60.W cK60)) noΓ)))),ro:=0,base:=14,Q1L:=jt_ [(2,[(29,vb_)])],Q2w:=jt_ [(1,K15.JR1)]}
def K15.gen (cK60:K60.T) (cK120:Q3y.T) (cK119:Q3B.T) (cK98:K98.T):K15.T:=λp m h0 g7 g9=>
 (Q0 ((Q0 ((h0.Qf p).13) none λr0=>(Q0 (cK60 m (g7.2 r0)) none λr1=>some ((p,r1.1),(h0,((g7.1,Qr g7.2 r0 r1.2.1.1),(g9,()))))))) none λr2=>(Q0 ((bif !r2.1.2.2.1 then some (true,()) else some (!(r2.2.1.Qf r2.1.1).Q70.fis,()))) none λr3=>(bif r3.1 then some ((),(r2.2,())) else (Q0 (cK120 (r2.2.1.Qf r2.1.1).Q70.fv r2.1.2.1) none λr4=>(bif !r4.1.2.1 then some ((),(r2.2,())) else (Q0 (cK119 r4.1.1) none λr5=>(Q0 (r2.2.1.6) none λr6=>(Q0 (cK98 r5.1.1 (r2.2.2.2.1.2 r6)) none λr7=>some ((),((Q1.Q6D r2.2.1 (Q13.mk r7.1.1 true),(r2.2.2.1,((r2.2.2.2.1.1,Qr r2.2.2.2.1.2 r6 r7.2.1.1),()))),()))))))))))
def K15:K15.T:=K15.gen K60 Q3y Q3B K98
theorem K15.eq (cK60:K60.T) (cK120:Q3y.T) (cK119:Q3B.T) (cK98:K98.T):EqA K15.sig (K15.H cK60 cK120 cK119 cK98) Tryz.f81 6 (K15.W (K15.gen cK60 cK120 cK119 cK98)):=by intro a x;kernel_rfl
theorem K15.ok:NK_ 81 K15.sig (K15.W K15):=ok_ Tryz.func81 (K15.eq K60 Q3y Q3B K98) (hn_ (Z0 (Z0 (Z0 (Z0 Z2 K60.ok) Q3y.ok) Q3B.ok) K98.ok))
def Q3K.sig:Sig U:=⟨[.data .Qk,.data .Qu,.int .i64],[],0,[.data .Qk,.bool],true,[]⟩
abbrev Q3K.T:Type:=(Q8)->(Qd)->(Int)->Option ((Q8×Bool×Unit)×Unit×Unit)
def Q3K.W (f:Q3K.T):Q3K.sig.F:=λa x=>f a.1 a.2.1 a.2.2.1
def Q3K.H (cK159:Q1M.T):Hints U:={ Γ:=(Q1M.N cK159 noΓ),ro:=0,base:=13,Q1L:=jt_ [(1,[(15,vb_)])]}
def Q3K.gen (cK159:Q1M.T):Q3K.T:=λm self at_2=>
 (Q0 ((bif ine m.fType 2 then some (true,()) else (Q0 (cK159 at_2) none λr0=>some (!r0.1.1,())))) none λr1=>(bif r1.1 then some ((Q8.mk 0 0 0 0 z0_ 0 0 0 z0_ 0 0 z1_ 0 0 0 0 0 0 0,(false,())),((),())) else some ((Q8.mk 3 m.Q1D 512 m.Q4s self m.Q2W 127 at_2 m.Q1H 0 0 z1_ 0 0 0 0 0 0 0,(true,())),((),()))))
def Q3K:Q3K.T:=Q3K.gen Q1M
theorem Q3K.eq (cK159:Q1M.T):EqA Q3K.sig (Q3K.H cK159) Tryz.f156 6 (Q3K.W (Q3K.gen cK159)):=by intro a x;kernel_rfl
theorem Q3K.ok:NK_ 156 Q3K.sig (Q3K.W Q3K):=ok_ Tryz.func156 (Q3K.eq Q1M) (hn_ (Z0 Z2 Q1M.ok))
def Q3p.sig:Sig U:=⟨[.ptr,.data .Qk,.int .i64],[.obj .Q11],1,[.bool],false,[]⟩
abbrev Q3p.T:Type:=(Q8)->(Int)->(Qb)->Option ((Bool×Unit)×Unit×Unit)
def Q3p.W (f:Q3p.T):Q3p.sig.F:=λa x=>f a.2.1 a.2.2.1 x.1
def Q3p.H:Hints U:={ Γ:=noΓ,ro:=14,base:=14}
def Q3p.gen:Q3p.T:=λm typ h0=>
 (bif ieq m.fType typ then (bif bif ieq m.Q2e.QI h0.Q5F.QI then bif ieq m.Q2e.QR h0.Q5F.QR then true else false else false then (bif h0.Q6n then some ((ieq m.Q2W h0.Q5O,()),((),())) else some ((false,()),((),()))) else some ((false,()),((),()))) else some ((false,()),((),())))
def Q3p:Q3p.T:=Q3p.gen
theorem Q3p.ok:NK_ 192 Q3p.sig (Q3p.W Q3p):=ok_ (H:=Q3p.H) (n:=6) Tryz.func192 (by intro a x;kernel_rfl) (hn_ Z2)
def Q2Z.sig:Sig U:=⟨[.ptr,.data .Qk,.int .i64],[.obj .Q11],0,[.bool],false,[]⟩
abbrev Q2Z.T:Type:=(Q8)->(Int)->(Qb)->Option ((Bool×Unit)×(Qb×Unit)×Unit)
def Q2Z.W (f:Q2Z.T):Q2Z.sig.F:=λa x=>f a.2.1 a.2.2.1 x.1
def Q2Z.C:Code:=match Tryz.f157.body with|some c=>c|none=>.skip
def Q2Z.B0:Code:=match (Z3 Q2Z.C).getD 0 .skip with| .loop b=>b| .scope b=>b|_=>.skip
def Q2Z.H (cK130:Q3p.T):Hints U:={ Γ:=(Qn 192 (Q3p.sig.native (Q3p.W cK130)) noΓ),ro:=0,base:=14,gotos:=3,loop:=λb=>none}
def Q2Z.gen (cK130:Q3p.T):Q2Z.T:=λm at_2 h0=>
 (Q0 (cK130 m 3 h0) none λr0=>(bif !r0.1.1 then some ((false,()),((h0,()),())) else (bif h0.Q4N then some ((false,()),((Qb.Q9Z h0 true,()),())) else some ((true,()),((Qb.Qbm (Qb.Q9m (Qb.Q6z h0 true) m) at_2,()),())))))
def Q2Z:Q2Z.T:=Q2Z.gen Q3p
theorem Q2Z.eq (cK130:Q3p.T):EqA Q2Z.sig (Q2Z.H cK130) Tryz.f157 6 (Q2Z.W (Q2Z.gen cK130)):=by intro a x;kernel_rfl
theorem Q2Z.loops:Z3 Q2Z.C= [(.scope Q2Z.B0)]:=by kernel_rfl
theorem Q2Z.ok:NK_ 157 Q2Z.sig (Q2Z.W Q2Z):=ok_ Tryz.func157 (Q2Z.eq Q3p) (hl_ (Z0 Z2 Q3p.ok) (Zt Z5)) Q2Z.loops
def Q2X.sig:Sig U:=⟨[.ptr,.data .Qk],[.obj .Q11],0,[.int .i64,.bool],true,[]⟩
abbrev Q2X.T:Type:=(Q8)->(Qb)->Option ((Int×Bool×Unit)×(Qb×Unit)×Unit)
def Q2X.W (f:Q2X.T):Q2X.sig.F:=λa x=>f a.2.1 x.1
def Q2X.C:Code:=match Tryz.f158.body with|some c=>c|none=>.skip
def Q2X.B0:Code:=match (Z3 Q2X.C).getD 0 .skip with| .loop b=>b| .scope b=>b|_=>.skip
def Q2X.H (cK130:Q3p.T) (cK156:Q3b.T) (cK157:Q2i.T) (cK125:Q22.T):Hints U:={ Γ:=(Q22.N cK125 (Q2i.N cK157 (Qn 193 (Q3b.sig.native (Q3b.W cK156)) (Qn 192 (Q3p.sig.native (Q3p.W cK130)) noΓ)))),ro:=0,base:=14,Q1L:=jt_ [(2,[(33,vb_)])],gotos:=3,loop:=λb=>none}
def Q2X.gen (cK130:Q3p.T) (cK156:Q3b.T) (cK157:Q2i.T) (cK125:Q22.T):Q2X.T:=λm h0=>
 (Q0 ((Q0 (cK130 m 10 h0) none λr0=>(bif !r0.1.1 then some (true,()) else (bif !h0.Q4N then some (true,()) else (bif h0.Q91 then some (true,()) else some (!bif ieq m.Q1H.QI h0.Q1N.Q1H.QI then bif ieq m.Q1H.QR h0.Q1N.Q1H.QR then true else false else false,())))))) none λr1=>(bif r1.1 then some (((0:Int),(false,())),((h0,()),())) else (Q0 (cK156 h0.Q1N.Q4s m.Q4s) none λr2=>(Q0 (cK157 r2.1.1) none λr3=>(Q0 (cK125 h0) none λr4=>some ((Q5N .i64 (Q1s .i64 (Q1s .i64 (Q1s .i64 h0.Qan h0.fat) (Q1s .i64 m.Q44 h0.Q1N.Q44)) r3.1.1) 1,(true,())),r4.2))))))
def Q2X:Q2X.T:=Q2X.gen Q3p Q3b Q2i Q22
theorem Q2X.eq (cK130:Q3p.T) (cK156:Q3b.T) (cK157:Q2i.T) (cK125:Q22.T):EqA Q2X.sig (Q2X.H cK130 cK156 cK157 cK125) Tryz.f158 6 (Q2X.W (Q2X.gen cK130 cK156 cK157 cK125)):=by intro a x;kernel_rfl
theorem Q2X.loops:Z3 Q2X.C= [(.scope Q2X.B0)]:=by kernel_rfl
theorem Q2X.ok:NK_ 158 Q2X.sig (Q2X.W Q2X):=ok_ Tryz.func158 (Q2X.eq Q3p Q3b Q2i Q22) (hl_ (Z0 (Z0 (Z0 (Z0 Z2 Q3p.ok) Q3b.ok) Q2i.ok) Q22.ok) (Zt Z5)) Q2X.loops
def K18.sig:Sig U:=⟨[.ptr,.int .i64,.data .Qk,.int .i64],[.obj .Q7,Q54],0,[],true,[]⟩
abbrev K18.T:Type:=(Int)->(Q8)->(Int)->(Q1)->(Fm Qb)->Option (Unit×(Q1×(Fm Qb)×Unit)×Unit)
def K18.W (f:K18.T):K18.sig.F:=λa x=>f a.2.1 a.2.2.1 a.2.2.2.1 x.1 x.2.1
def K18.Q7A:Ql U:= [(.normal,⟨68,14,[(8,.Q1f 13 23 42 8 0),(11,vi_),(12,vb_)],[(13,.obj .Q7),(8,.Q1R false .Q11)]⟩)]
def K18.JR6:Ql U:= [(.normal,⟨68,15,[(6,.ptr 14 0 0),(8,.Q1f 13 23 42 8 0)],[(13,.obj .Q7),(14,.obj .Qk),(8,.Q1R false .Q11)]⟩)]
def K18.JR4:Ql U:= [(.normal,⟨68,16,[(0,.ptr 13 0 0),(1,vi_),(6,.ptr 14 0 0),(8,.Q1f 13 23 42 8 0),(9,.ptr 15 0 0),(10,vb_)],[(13,.obj .Q7),(14,.obj .Qk),(15,.obj .Qk),(8,.Q1R false .Q11)]⟩)]
def K18.H (cK34:K34.T) (cK32:K32.T) (cK124:Q3K.T) (cK28:K28.T) (cK128:Q2Z.T) (cK126:Q2X.T):Hints U:={ Γ:=(Qn 158 (Q2X.sig.native (Q2X.W cK126)) (Qn 157 (Q2Z.sig.native (Q2Z.W cK128)) (K28.N cK28 (Qn 156 (Q3K.sig.native (Q3K.W cK124)) (K32.N cK32 (K34.N cK34 noΓ)))))),ro:=0,base:=14,Q2w:=jt_ [(4,K18.JR4),(6,K18.JR6),(11,K18.Q7A)]}
def K18.gen (cK34:K34.T) (cK32:K32.T) (cK124:Q3K.T) (cK28:K28.T) (cK128:Q2Z.T) (cK126:Q2X.T):K18.T:=λn m now h0 g8=>
 (Q0 (cK34 n h0) none λr0=>(bif ieq m.fType 2 then (Q0 ((Q0 (cK32 n h0) none λr1=>(Q0 (cK124 m r1.1.1 now) none λr2=>some ((n,(r0.1.1,r2.1.2)),(h0,(m,(r2.1.1,(g8,())))))))) none λr3=>(bif r3.1.2.2.1 then (Q0 ((Q0 (cK28 r3.1.1 r3.2.2.2.1 (Qm Qi) true r3.2.1) none λr4=>some ((r3.1.2.1,()),(r4.2.1.1,(r3.2.2.1,r3.2.2.2.2))))) none λr5=>some ((),((Q1.QU r5.2.1 (Qr (Qr r5.2.1.Qf r5.1.1 (Q5.Q8E (r5.2.1.Qf r5.1.1) r5.2.2.1)) r5.1.1 (Q5.Q6z (Qr r5.2.1.Qf r5.1.1 (Q5.Q8E (r5.2.1.Qf r5.1.1) r5.2.2.1) r5.1.1) true)),r5.2.2.2),()))) else some ((),((r3.2.1,r3.2.2.2.2),())))) else (bif ieq m.fType 3 then (Q0 ((h0.Qf r0.1.1).14) none λr6=>(Q0 (cK128 m now (g8.2 r6)) none λr7=>some ((),((h0,((g8.1,Qr g8.2 r6 r7.2.1.1),())),())))) else (bif ieq m.fType 10 then (Q0 ((Q0 ((h0.Qf r0.1.1).14) none λr8=>(Q0 (cK126 m (g8.2 r8)) none λr9=>some ((r0.1.1,r9.1),(h0,((g8.1,Qr g8.2 r8 r9.2.1.1),())))))) none λr10=>(bif r10.1.2.2.1 then some ((),((Q1.QU r10.2.1 (Qr r10.2.1.Qf r10.1.1 (Q5.Q4V (r10.2.1.Qf r10.1.1) (Q13.mk (Z4 true 0 r10.1.2.1) true))),r10.2.2),())) else some ((),(r10.2,())))) else some ((),((h0,(g8,())),()))))))
def K18:K18.T:=K18.gen K34 K32 Q3K K28 Q2Z Q2X
theorem K18.eq (cK34:K34.T) (cK32:K32.T) (cK124:Q3K.T) (cK28:K28.T) (cK128:Q2Z.T) (cK126:Q2X.T):EqA K18.sig (K18.H cK34 cK32 cK124 cK28 cK128 cK126) Tryz.f82 6 (K18.W (K18.gen cK34 cK32 cK124 cK28 cK128 cK126)):=by intro a x;kernel_rfl
theorem K18.ok:NK_ 82 K18.sig (K18.W K18):=ok_ Tryz.func82 (K18.eq K34 K32 Q3K K28 Q2Z Q2X) (hn_ (Z0 (Z0 (Z0 (Z0 (Z0 (Z0 Z2 K34.ok) K32.ok) Q3K.ok) K28.ok) Q2Z.ok) Q2X.ok))
def Q2F.sig:Sig U:=⟨[.data .QW],[],0,[.int .i64,.str,.bool],true,[]⟩
abbrev Q2F.T:Type:=(Qi)->Option ((Int×ByteArray×Bool×Unit)×Unit×Unit)
def Q2F.W (f:Q2F.T):Q2F.sig.F:=λa x=>f a.1
def Q2F.H (cK171:Q2n.T) (cK112:Q1o.T):Hints U:={ Γ:=(Q1o.N cK112 (Qn 183 (Q2n.sig.native (Q2n.W cK171)) noΓ)),ro:=0,base:=13,Q1L:=jt_ [(1,[(14,vb_)])]}
def Q2F.gen (cK171:Q2n.T) (cK112:Q1o.T):Q2F.T:=λt=>
 (Q0 ((bif ine t.fType 1 then some (true,()) else (Q0 (cK171 t) none λr0=>some (!r0.1.1,())))) none λr1=>(bif r1.1 then some (((0:Int),(ByteArray.mk (List.toArray (Qm UInt8)),(false,()))),((),())) else (Q0 (cK112 t.Q2t.data.toList 0 2) none λr2=>(bif le3 2 (ofN (ByteArray.size t.Q2t)) (ByteArray.size t.Q2t) then some ((r2.1.1,(ByteArray.extract t.Q2t (Int.toNat 2) (Int.toNat (ofN (ByteArray.size t.Q2t))),(true,()))),((),())) else none))))
def Q2F:Q2F.T:=Q2F.gen Q2n Q1o
theorem Q2F.eq (cK171:Q2n.T) (cK112:Q1o.T):EqA Q2F.sig (Q2F.H cK171 cK112) Tryz.f159 6 (Q2F.W (Q2F.gen cK171 cK112)):=by intro a x;kernel_rfl
theorem Q2F.ok:NK_ 159 Q2F.sig (Q2F.W Q2F):=ok_ Tryz.func159 (Q2F.eq Q2n Q1o) (hn_ (Z0 (Z0 Z2 Q2n.ok) Q1o.ok))
def Q34.sig:Sig U:=⟨[.int .i64],[],0,[.bool],false,[]⟩
abbrev Q34.T:Type:=(Int)->Option ((Bool×Unit)×Unit×Unit)
def Q34.W (f:Q34.T):Q34.sig.F:=λa x=>f a.1
def Q34.H:Hints U:={ Γ:=noΓ,ro:=0,base:=13}
def Q34.gen:Q34.T:=λid=>
 (bif ieq id 8205 then some ((true,()),((),())) else (bif ieq id 8206 then some ((true,()),((),())) else (bif ieq id 8196 then some ((true,()),((),())) else some ((false,()),((),())))))
def Q34:Q34.T:=Q34.gen
theorem Q34.ok:NK_ 161 Q34.sig (Q34.W Q34):=ok_ (H:=Q34.H) (n:=6) Tryz.func161 (by intro a x;kernel_rfl) (hn_ Z2)
def K83.sig:Sig U:=⟨[.data .Qu,.data .Qu],[],0,[.bool],false,[]⟩
abbrev K83.T:Type:=(Qd)->(Qd)->Option ((Bool×Unit)×Unit×Unit)
def K83.W (f:K83.T):K83.sig.F:=λa x=>f a.1 a.2.1
def K83.H:Hints U:={ Γ:=noΓ,ro:=0,base:=13}
def K83.gen:K83.T:=λtarget port=>
 (bif bif ieq target.QI port.QI then bif ieq target.QR port.QR then true else false else false then some ((true,()),((),())) else (bif ieq target.QI 18446744073709551615 then (bif ieq target.QR 65535 then some ((true,()),((),())) else some ((ieq target.QR port.QR,()),((),()))) else (bif ieq target.QI port.QI then (bif ieq target.QR 65535 then some ((true,()),((),())) else some ((ieq target.QR port.QR,()),((),()))) else some ((false,()),((),())))))
def K83:K83.T:=K83.gen
theorem K83.ok:NK_ 194 K83.sig (K83.W K83):=ok_ (H:=K83.H) (n:=6) Tryz.func194 (by intro a x;kernel_rfl) (hn_ Z2)
def K26.sig:Sig U:=⟨[.ptr,.int .i64,.data .Qu,.bool],[.obj .Q7],1,[.isl .int],false,[]⟩
abbrev K26.T:Type:=(Int)->(Qd)->(Bool)->(Q1)->Option (((List (Int))×Unit)×Unit×Unit)
def K26.W (f:K26.T):K26.sig.F:=λa x=>f a.2.1 a.2.2.1 a.2.2.2.1 x.1
def K26.L0:Shape U:=⟨45,16,[(0,.ptr 13 0 0),(1,vi_),(3,vb_),(6,.ptr 14 0 0),(9,.own .int 15),(10,vi_)],[(13,.obj .Q7),(14,.obj .Qu),(15,.tok)]⟩
def K26.X0:Ql U:= [(.exit 0,⟨45,16,[(0,.ptr 13 0 0),(1,vi_),(3,vb_),(6,.ptr 14 0 0),(9,.own .int 15)],[(13,.obj .Q7),(14,.obj .Qu),(15,.tok)]⟩)]
abbrev K26.l0T:Type:=((Int×Bool×(List (Int))×Int×Unit)×(Q1×Qd×Unit))->Option (((Int×Bool×(List (Int))×Unit)×(Q1×Qd×Unit)))
def K26.C:Code:=match Tryz.f160.body with|some c=>c|none=>.skip
def K26.B0:Code:=match (Z3 K26.C).getD 0 .skip with| .loop b=>b| .scope b=>b|_=>.skip
def K26.JC6:Ql U:= [(.normal,⟨45,16,[(0,.ptr 13 0 0),(1,vi_),(3,vb_),(6,.ptr 14 0 0),(9,.own .int 15),(10,vi_)],[(13,.obj .Q7),(14,.obj .Qu),(15,.tok)]⟩)]
def K26.H (cK32:K32.T) (cK83:K83.T) (l0:K26.l0T):Hints U:={ Γ:=(Qn 194 (K83.sig.native (K83.W cK83)) (K32.N cK32 (Qn 5000000021 Z16 noΓ))),ro:=14,base:=14,Q1L:=jt_ [(7,[(34,vb_)])],Q23:=jt_ [(6,K26.JC6)],loop:=jt_ [(3,(Z9 (14,14) K26.L0 K26.X0 l0))]}
def K26.QT (cK32:K32.T) (cK83:K83.T) (a:(Int×Bool×(List (Int))×Int×Unit)×(Q1×Qd×Unit)):Option (((Int×Bool×(List (Int))×Int×Unit)×(Q1×Qd×Unit))⊕(((Int×Bool×(List (Int))×Unit)×(Q1×Qd×Unit)))):=
 (bif ile a.1.2.2.2.1 a.2.1.Qs.QB then (Q0 (cK32 a.1.2.2.2.1 a.2.1) none λr0=>(Q0 (cK83 a.2.2.1 r0.1.1) none λr1=>(Q0 ((bif r1.1.1 then (bif room (List.length a.1.2.2.1+List.length (a.1.2.2.2.1::Qm Int)) 8 then some ((a.1.1,(a.1.2.1,(a.1.2.2.1++a.1.2.2.2.1::Qm Int,a.1.2.2.2))),a.2) else none) else some a)) none λr2=>some (.inl ((r2.1.1,(r2.1.2.1,(r2.1.2.2.1,(Q4 .i64 r2.1.2.2.2.1 1,())))),r2.2))))) else some (.inr ((a.1.1,(a.1.2.1,(a.1.2.2.1,()))),a.2)))
def K26.F0:K26.l0T:=λa=>Z8 (1000000+(a.1.2.2.1.length)) (K26.QT K32 K83) a
def K26.gen (cK32:K32.T) (cK83:K83.T) (l0:K26.l0T):K26.T:=λi target all h0=>
 (Q0 (l0 ((i,all,Qm Int,(1:Int),()),h0,target,())) none λr0=>(Q0 ((bif r0.1.2.1 then some (true,()) else some (ieq (ofN (List.length r0.1.2.2.1)) 0,()))) none λr1=>(bif r1.1 then some (r0.1.2.2,((),())) else (Q0 (cK32 r0.1.1 r0.2.1) none λr2=>(Q0 (cK83 r0.2.2.1 r2.1.1) none λr3=>(bif r3.1.1 then some ((r0.1.1::Qm Int,()),((),())) else (bif le3 (ofN 0) 1 (List.length r0.1.2.2.1) then some ((List.drop (Int.toNat (ofN 0)) (List.take (Int.toNat 1) r0.1.2.2.1),()),((),())) else none)))))))
def K26:K26.T:=K26.gen K32 K83 K26.F0
theorem K26.Q24 (cK32:K32.T) (cK83:K83.T) (l0:K26.l0T) (a:K26.L0.T):run Tryz.prog (K26.H cK32 cK83 l0) 6 (Option (K26.L0.T⊕ExT K26.X0)) none K26.B0 (K26.L0.enc a) (Zj (14,14) K26.L0 K26.X0)=K26.QT cK32 cK83 a:=by kernel_rfl
abbrev K26.h:=K26.H K32 K83 K26.F0
theorem K26.Q1V:LO_ K26.h K26.B0 (Z9 (14,14) K26.L0 K26.X0 K26.F0):=lk_ (hn_ (Z0 (Z0 (Z0 Z2 Zd) K32.ok) K83.ok)) (K26.Q24 K32 K83 K26.F0)
theorem K26.eq (cK32:K32.T) (cK83:K83.T) (l0:K26.l0T):EqA K26.sig (K26.H cK32 cK83 l0) Tryz.f160 6 (K26.W (K26.gen cK32 cK83 l0)):=by intro a x;kernel_rfl
theorem K26.loops:Z3 K26.C= [(.loop K26.B0)]:=by kernel_rfl
theorem K26.ok:NK_ 160 K26.sig (K26.W K26):=ok_ Tryz.func160 (K26.eq K32 K83 K26.F0) (hl_ (Z0 (Z0 (Z0 Z2 Zd) K32.ok) K83.ok) (Z7 (by kernel_rfl) K26.Q1V Z5)) K26.loops
def Q4h.sig:Sig U:=⟨[.int .i64],[],0,[.bool],false,[]⟩
abbrev Q4h.T:Type:=(Int)->Option ((Bool×Unit)×Unit×Unit)
def Q4h.W (f:Q4h.T):Q4h.sig.F:=λa x=>f a.1
def Q4h.H:Hints U:={ Γ:=noΓ,ro:=0,base:=13}
def Q4h.gen:Q4h.T:=λid=>
 (bif ieq id 0 then some ((true,()),((),())) else (bif ieq id 5 then some ((true,()),((),())) else (bif ile 8192 id then some ((ile id 8208,()),((),())) else some ((false,()),((),())))))
def Q4h:Q4h.T:=Q4h.gen
theorem Q4h.ok:NK_ 205 Q4h.sig (Q4h.W Q4h):=ok_ (H:=Q4h.H) (n:=6) Tryz.func205 (by intro a x;kernel_rfl) (hn_ Z2)
def Q3Y.sig:Sig U:=⟨[.int .i64],[],0,[.bool],false,[]⟩
abbrev Q3Y.T:Type:=(Int)->Option ((Bool×Unit)×Unit×Unit)
def Q3Y.W (f:Q3Y.T):Q3Y.sig.F:=λa x=>f a.1
def Q3Y.H:Hints U:={ Γ:=noΓ,ro:=0,base:=13}
def Q3Y.gen:Q3Y.T:=λid=>
 (bif ieq id 0 then some ((true,()),((),())) else (bif ieq id 5 then some ((true,()),((),())) else (bif ieq id 8205 then some ((true,()),((),())) else some ((ieq id 8206,()),((),())))))
def Q3Y:Q3Y.T:=Q3Y.gen
theorem Q3Y.ok:NK_ 206 Q3Y.sig (Q3Y.W Q3Y):=ok_ (H:=Q3Y.H) (n:=6) Tryz.func206 (by intro a x;kernel_rfl) (hn_ Z2)
def Q4d.sig:Sig U:=⟨[.int .i64],[],0,[.bool],false,[]⟩
abbrev Q4d.T:Type:=(Int)->Option ((Bool×Unit)×Unit×Unit)
def Q4d.W (f:Q4d.T):Q4d.sig.F:=λa x=>f a.1
def Q4d.H:Hints U:={ Γ:=noΓ,ro:=0,base:=13}
def Q4d.gen:Q4d.T:=λid=>
 (bif ile 8192 id then (bif ile id 8196 then some ((true,()),((),())) else (bif ieq id 8204 then some ((true,()),((),())) else some ((ieq id 8207,()),((),())))) else (bif ieq id 8204 then some ((true,()),((),())) else some ((ieq id 8207,()),((),()))))
def Q4d:Q4d.T:=Q4d.gen
theorem Q4d.ok:NK_ 207 Q4d.sig (Q4d.W Q4d):=ok_ (H:=Q4d.H) (n:=6) Tryz.func207 (by intro a x;kernel_rfl) (hn_ Z2)
def Q3F.sig:Sig U:=⟨[.int .i64],[],0,[.int .i64],false,[]⟩
abbrev Q3F.T:Type:=(Int)->Option ((Int×Unit)×Unit×Unit)
def Q3F.W (f:Q3F.T):Q3F.sig.F:=λa x=>f a.1
def Q3F.JC3:Ql U:= [(.normal,⟨8,13,[(4,vb_)],[]⟩)]
def Q3F.H:Hints U:={ Γ:=noΓ,ro:=0,base:=13,Q23:=jt_ [(3,Q3F.JC3)]}
def Q3F.gen:Q3F.T:=λid=>
 (Q0 ((bif ieq id 0 then some ((ieq id 0,()),()) else (bif ieq id 8205 then some ((ieq id 8205,()),()) else some ((ieq id 8206,()),())))) none λr0=>(bif r0.1.1 then some (((0:Int),()),((),())) else some (((2:Int),()),((),()))))
def Q3F:Q3F.T:=Q3F.gen
theorem Q3F.ok:NK_ 208 Q3F.sig (Q3F.W Q3F):=ok_ (H:=Q3F.H) (n:=6) Tryz.func208 (by intro a x;kernel_rfl) (hn_ Z2)
def Q41.sig:Sig U:=⟨[.data .Q1d,.int .i64,.str],[],0,[.data .Q1d],false,[]⟩
abbrev Q41.T:Type:=(Q9)->(Int)->(ByteArray)->Option ((Q9×Unit)×Unit×Unit)
def Q41.W (f:Q41.T):Q41.sig.F:=λa x=>f a.1 a.2.1 a.2.2.1
def Q41.JC5:Ql U:= [(.normal,⟨53,15,[(3,.ptr 13 0 0),(6,.ptr 14 0 0)],[(13,.obj .Q1d),(14,.obj .Q1d)]⟩)]
def Q41.H:Hints U:={ Γ:=noΓ,ro:=0,base:=13,Q23:=jt_ [(5,Q41.JC5)]}
def Q41.gen:Q41.T:=λc id data=>
 (bif inR 0 (ByteArray.size data) then (bif inR 0 (ByteArray.size data) then (Q0 ((bif ieq id 8197 then some ((),(Q9.Q4z c (IntKind.wrap .i64 (ofN (UInt8.toNat (List.getD data.data.toList (Int.toNat 0) (0:UInt8))))),(Q9.mk 0 0 0 0 0 z1_ false 0 0 0 0 false false 0 0 0 0 z4_ false,()))) else (bif ieq id 8198 then some ((),(Q9.Q4X c (IntKind.wrap .i64 (ofN (UInt8.toNat (List.getD data.data.toList (Int.toNat 0) (0:UInt8))))),(Q9.mk 0 0 0 0 0 z1_ false 0 0 0 0 false false 0 0 0 0 z4_ false,()))) else (bif ieq id 8199 then some ((),(Q9.Q7d c (IntKind.wrap .i64 (ofN (UInt8.toNat (List.getD data.data.toList (Int.toNat 0) (0:UInt8))))),(Q9.mk 0 0 0 0 0 z1_ false 0 0 0 0 false false 0 0 0 0 z4_ false,()))) else (bif ieq id 8200 then some ((),(Q9.Q7n c (ieq (Q58 .i64 (IntKind.wrap .i64 (ofN (UInt8.toNat (List.getD data.data.toList (Int.toNat 0) (0:UInt8))))) 1) 1),(Q9.mk 0 0 0 0 0 z1_ false 0 0 0 0 false false 0 0 0 0 z4_ false,()))) else (bif ieq id 8201 then some ((),(Q9.Q8e c (IntKind.wrap .i64 (IntKind.wrap .i8 (ofN (UInt8.toNat (List.getD data.data.toList (Int.toNat 0) (0:UInt8)))))),(Q9.mk 0 0 0 0 0 z1_ false 0 0 0 0 false false 0 0 0 0 z4_ false,()))) else (bif ieq id 8202 then some ((),(Q9.Q7W c (IntKind.wrap .i64 (ofN (UInt8.toNat (List.getD data.data.toList (Int.toNat 0) (0:UInt8))))),(Q9.mk 0 0 0 0 0 z1_ false 0 0 0 0 false false 0 0 0 0 z4_ false,()))) else (bif ieq id 8203 then some ((),(Q9.Q7T c (IntKind.wrap .i64 (IntKind.wrap .i8 (ofN (UInt8.toNat (List.getD data.data.toList (Int.toNat 0) (0:UInt8)))))),(Q9.mk 0 0 0 0 0 z1_ false 0 0 0 0 false false 0 0 0 0 z4_ false,()))) else (bif ieq id 8208 then some ((),(Q9.Q4A c (Qx.Q9n c.Qv (IntKind.wrap .i64 (ofN (UInt8.toNat (List.getD data.data.toList (Int.toNat 0) (0:UInt8)))))),(Q9.mk 0 0 0 0 0 z1_ false 0 0 0 0 false false 0 0 0 0 z4_ false,()))) else some ((),(c,(Q9.mk 0 0 0 0 0 z1_ false 0 0 0 0 false false 0 0 0 0 z4_ false,())))))))))))) none λr0=>some ((r0.2.1,()),((),()))) else none) else none)
def Q41:Q41.T:=Q41.gen
theorem Q41.ok:NK_ 209 Q41.sig (Q41.W Q41):=ok_ (H:=Q41.H) (n:=6) Tryz.func209 (by intro a x;kernel_rfl) (hn_ Z2)
def Q1m.sig:Sig U:=⟨[.isl .bool],[],0,[.int .i64],false,[]⟩
abbrev Q1m.T:Type:=(List (Bool))->Option ((Int×Unit)×Unit×Unit)
def Q1m.W (f:Q1m.T):Q1m.sig.F:=λa x=>f a.1
def Q1m.L0:Shape U:=⟨20,13,[(3,vi_),(6,.val (.isl .bool)),(7,vi_),(8,vi_)],[]⟩
def Q1m.X0:Ql U:= [(.exit 0,⟨20,13,[(3,vi_)],[]⟩)]
abbrev Q1m.l0T:Type:=((Int×(List (Bool))×Int×Int×Unit)×Unit)->Option (((Int×Unit)×Unit))
def Q1m.C:Code:=match Tryz.f216.body with|some c=>c|none=>.skip
def Q1m.B0:Code:=match (Z3 Q1m.C).getD 0 .skip with| .loop b=>b| .scope b=>b|_=>.skip
def Q1m.JC6:Ql U:= [(.normal,⟨20,13,[(3,vi_),(6,.val (.isl .bool)),(7,vi_),(8,vi_)],[]⟩)]
def Q1m.H (l0:Q1m.l0T):Hints U:={ Γ:=noΓ,ro:=0,base:=13,Q23:=jt_ [(6,Q1m.JC6)],loop:=jt_ [(3,(Z9 (0,13) Q1m.L0 Q1m.X0 l0))]}
def Q1m.QT (a:(Int×(List (Bool))×Int×Int×Unit)×Unit):Option (((Int×(List (Bool))×Int×Int×Unit)×Unit)⊕(((Int×Unit)×Unit))):=
 (bif ilt a.1.2.2.2.1 a.1.2.2.1 then (bif inR a.1.2.2.2.1 (List.length a.1.2.1) then (Q0 ((bif List.getD a.1.2.1 (Int.toNat a.1.2.2.2.1) false then (bif ile 0 a.1.2.2.2.1 then some ((ior .i64 a.1.1 (Q8A .i64 1 a.1.2.2.2.1),a.1.2),()) else none) else some a)) none λr0=>some (.inl ((r0.1.1,(r0.1.2.1,(r0.1.2.2.1,(Q4 .i64 r0.1.2.2.2.1 1,())))),()))) else none) else some (.inr ((a.1.1,()),())))
def Q1m.F0:Q1m.l0T:=λa=>Z8 (1000000+(a.1.2.1.length)) (Q1m.QT) a
def Q1m.gen (l0:Q1m.l0T):Q1m.T:=λl=>
 (Q0 (l0 (((0:Int),l,ofN (List.length l),(0:Int),()),())) none λr0=>some (r0.1,((),())))
def Q1m:Q1m.T:=Q1m.gen Q1m.F0
theorem Q1m.Q24 (l0:Q1m.l0T) (a:Q1m.L0.T):run Tryz.prog (Q1m.H l0) 6 (Option (Q1m.L0.T⊕ExT Q1m.X0)) none Q1m.B0 (Q1m.L0.enc a) (Zj (0,13) Q1m.L0 Q1m.X0)=Q1m.QT a:=by kernel_rfl
abbrev Q1m.h:=Q1m.H Q1m.F0
theorem Q1m.Q1V:LO_ Q1m.h Q1m.B0 (Z9 (0,13) Q1m.L0 Q1m.X0 Q1m.F0):=lk_ (hn_ Z2) (Q1m.Q24 Q1m.F0)
theorem Q1m.eq (l0:Q1m.l0T):EqA Q1m.sig (Q1m.H l0) Tryz.f216 6 (Q1m.W (Q1m.gen l0)):=by intro a x;kernel_rfl
theorem Q1m.loops:Z3 Q1m.C= [(.loop Q1m.B0)]:=by kernel_rfl
theorem Q1m.ok:NK_ 216 Q1m.sig (Q1m.W Q1m):=ok_ Tryz.func216 (Q1m.eq Q1m.F0) (hl_ Z2 (Z7 (by kernel_rfl) Q1m.Q1V Z5)) Q1m.loops
def Q2V.sig:Sig U:=⟨[.isl .u8,.int .i64],[],0,[.isl .u8],false,[]⟩
abbrev Q2V.T:Type:=(List (UInt8))->(Int)->Option (((List (UInt8))×Unit)×Unit×Unit)
def Q2V.W (f:Q2V.T):Q2V.sig.F:=λa x=>f a.1 a.2.1
def Q2V.H (cK114:QD.T):Hints U:={ Γ:=(QD.N cK114 noΓ),ro:=0,base:=13}
def Q2V.gen (cK114:QD.T):Q2V.T:=λb v=>
 (Q0 (cK114 b v 1) none λr0=>some (r0.1,((),())))
def Q2V:Q2V.T:=Q2V.gen QD
theorem Q2V.eq (cK114:QD.T):EqA Q2V.sig (Q2V.H cK114) Tryz.f215 6 (Q2V.W (Q2V.gen cK114)):=by intro a x;kernel_rfl
theorem Q2V.ok:NK_ 215 Q2V.sig (Q2V.W Q2V):=ok_ Tryz.func215 (Q2V.eq QD) (hn_ (Z0 Z2 QD.ok))
def Q4m.sig:Sig U:=⟨[.int .i64],[],0,[.int .i64],false,[]⟩
abbrev Q4m.T:Type:=(Int)->Option ((Int×Unit)×Unit×Unit)
def Q4m.W (f:Q4m.T):Q4m.sig.F:=λa x=>f a.1
def Q4m.H:Hints U:={ Γ:=noΓ,ro:=0,base:=13}
def Q4m.gen:Q4m.T:=λv=>
 (bif ilt 140737488355327 v then some (((9223372036854775807:Int),()),((),())) else (bif ilt v (-140737488355328) then some (((-9223372036854775808:Int),()),((),())) else some ((Q3l .i64 v 65536,()),((),()))))
def Q4m:Q4m.T:=Q4m.gen
theorem Q4m.ok:NK_ 217 Q4m.sig (Q4m.W Q4m):=ok_ (H:=Q4m.H) (n:=6) Tryz.func217 (by intro a x;kernel_rfl) (hn_ Z2)
def Q3u.sig:Sig U:=⟨[.data .Q1d,.int .i64],[],0,[.isl .u8],false,[]⟩
abbrev Q3u.T:Type:=(Q9)->(Int)->Option (((List (UInt8))×Unit)×Unit×Unit)
def Q3u.W (f:Q3u.T):Q3u.sig.F:=λa x=>f a.1 a.2.1
def Q3u.JC5:Ql U:= [(.normal,⟨47,13,[(5,vi_)],[]⟩),
 (.ret,⟨47,13,[(4,.full .u8)],[]⟩)]
def Q3u.H (cK103:Q1m.T) (cK106:Q2V.T):Hints U:={ Γ:=(Qn 215 (Q2V.sig.native (Q2V.W cK106)) (Qn 216 (Q1m.sig.native (Q1m.W cK103)) noΓ)),ro:=0,base:=13,Q23:=jt_ [(5,Q3u.JC5)]}
def Q3u.gen (cK103:Q1m.T) (cK106:Q2V.T):Q3u.T:=λc id=>
 (Q0 ((bif ieq id 8197 then some (.inl ((c.Q15,()),())) else (bif ieq id 8198 then some (.inl ((c.Q16,()),())) else (bif ieq id 8199 then some (.inl ((c.Q1D,()),())) else (bif ieq id 8200 then (Q0 (cK103 (c.Q2s::Qm Bool)) none λr0=>some (.inl (r0.1,()))) else (bif ieq id 8201 then some (.inl ((c.Q45,()),())) else (bif ieq id 8202 then some (.inl ((c.Q3X,()),())) else (bif ieq id 8203 then some (.inl ((c.Q3h,()),())) else (bif ieq id 8204 then some (.inl (((2:Int),()),())) else (bif ieq id 8208 then some (.inl ((c.Qv.Q1u,()),())) else some (.inr ((Qm UInt8,()),())))))))))))) none λr1=>(Q3U r1 (λr2=>(Q0 (cK106 (Qm UInt8) r2.1.1) none λr3=>(Q0 (cK106 r3.1.1 0) none λr4=>some (r4.1,((),()))))) (λr2=>some (r2.1,((),())))))
def Q3u:Q3u.T:=Q3u.gen Q1m Q2V
theorem Q3u.eq (cK103:Q1m.T) (cK106:Q2V.T):EqA Q3u.sig (Q3u.H cK103 cK106) Tryz.f218 6 (Q3u.W (Q3u.gen cK103 cK106)):=by intro a x;kernel_rfl
theorem Q3u.ok:NK_ 218 Q3u.sig (Q3u.W Q3u):=ok_ Tryz.func218 (Q3u.eq Q1m Q2V) (hn_ (Z0 (Z0 Z2 Q1m.ok) Q2V.ok))
def Q3Q.sig:Sig U:=⟨[.data .Q31,.int .i64],[],0,[.isl .u8],false,[]⟩
abbrev Q3Q.T:Type:=(Q1t)->(Int)->Option (((List (UInt8))×Unit)×Unit×Unit)
def Q3Q.W (f:Q3Q.T):Q3Q.sig.F:=λa x=>f a.1 a.2.1
def Q3Q.H (cK103:Q1m.T) (cK106:Q2V.T) (cK114:QD.T) (cK141:Q2Q.T) (cK115:Q1S.T) (cK107:Q4m.T) (cK84:K84.T) (cK161:Q2L.T) (cK110:Q3u.T):Hints U:={ Γ:=(Qn 218 (Q3u.sig.native (Q3u.W cK110)) (Qn 113 (Q2L.sig.native (Q2L.W cK161)) (K84.N cK84 (Qn 217 (Q4m.sig.native (Q4m.W cK107)) (Q1S.N cK115 (Qn 115 (Q2Q.sig.native (Q2Q.W cK141)) (QD.N cK114 (Qn 215 (Q2V.sig.native (Q2V.W cK106)) (Qn 216 (Q1m.sig.native (Q1m.W cK103)) noΓ))))))))),ro:=0,base:=13}
def Q3Q.gen (cK103:Q1m.T) (cK106:Q2V.T) (cK114:QD.T) (cK141:Q2Q.T) (cK115:Q1S.T) (cK107:Q4m.T) (cK84:K84.T) (cK161:Q2L.T) (cK110:Q3u.T):Q3Q.T:=λv id=>
 (bif ieq id 8192 then (Q0 (cK103 ((!v.QQ.Q4T)::v.QQ.Q2s::Qm Bool)) none λr0=>(Q0 (cK106 (Qm UInt8) r0.1.1) none λr1=>(Q0 (cK106 r1.1.1 0) none λr2=>(Q0 (cK114 r2.1.1 v.QQ.QB 2) none λr3=>(Q0 (cK106 r3.1.1 v.QQ.Q15) none λr4=>(Q0 (cK141 r4.1.1 v.QQ.Qv) none λr5=>(Q0 (cK106 r5.1.1 v.QQ.Q16) none λr6=>(Q0 (cK115 r6.1.1 v.QQ.QI) none λr7=>(Q0 (cK106 r7.1.1 v.QQ.Q1D) none λr8=>(Q0 (cK106 r8.1.1 0) none λr9=>some (r9.1,((),())))))))))))) else (bif ieq id 8193 then (Q0 (cK114 (Qm UInt8) v.Q30.Q28 2) none λr10=>(Q0 (cK107 v.Qa8) none λr11=>(Q0 (cK114 r10.1.1 r11.1.1 8) none λr12=>(Q0 (cK107 v.Qbu) none λr13=>(Q0 (cK114 r12.1.1 r13.1.1 8) none λr14=>some (r14.1,((),()))))))) else (bif ieq id 8194 then (Q0 (cK84 (Qm UInt8) v.Q30.QR) none λr15=>(Q0 (cK114 r15.1.1 65535 4) none λr16=>(Q0 (cK114 r16.1.1 2147483647 4) none λr17=>(Q0 (cK106 r17.1.1 v.Q30.Q15) none λr18=>(Q0 (cK141 r18.1.1 v.Q30.Qv) none λr19=>(Q0 (cK106 r19.1.1 v.Q30.Q16) none λr20=>(Q0 (cK115 r20.1.1 v.Q30.Q2x) none λr21=>some (r21.1,((),()))))))))) else (bif ieq id 8195 then (Q0 (cK114 (Qm UInt8) v.Q30.Q1e.Q3a 2) none λr22=>(Q0 (cK106 r22.1.1 (Q58 .i64 v.Q30.Q1e.Q1Y 63)) none λr23=>(Q0 (cK106 r23.1.1 v.Q30.Q1e.Q1Q) none λr24=>some (r24.1,((),()))))) else (bif ieq id 8196 then (Q0 (cK84 (Qm UInt8) (Qd.mk v.QQ.QI v.QR)) none λr25=>(Q0 (cK106 r25.1.1 v.Qbz) none λr26=>(Q0 (cK106 r26.1.1 v.QQ.Q3m) none λr27=>(Q0 (cK107 v.Q4o) none λr28=>(Q0 (cK114 r27.1.1 r28.1.1 8) none λr29=>(Q0 (cK106 r29.1.1 v.QQ.Q45) none λr30=>(Q0 (cK106 r30.1.1 v.QQ.Q3X) none λr31=>(Q0 (cK106 r31.1.1 v.QQ.Q3h) none λr32=>(Q0 (cK103 (v.QQ.Q4o::Qm Bool)) none λr33=>(Q0 (cK106 r32.1.1 (Q4 .i64 1 r33.1.1)) none λr34=>(Q0 (cK106 r34.1.1 v.QQ.Q3m) none λr35=>(Q0 (cK106 r35.1.1 2) none λr36=>some (r36.1,((),())))))))))))))) else (bif ieq id 8207 then (Q0 (cK161 (Qm UInt8) v.Q6y) none λr37=>some (r37.1,((),()))) else (Q0 (cK110 v.QQ id) none λr38=>some (r38.1,((),())))))))))
def Q3Q:Q3Q.T:=Q3Q.gen Q1m Q2V QD Q2Q Q1S Q4m K84 Q2L Q3u
theorem Q3Q.eq (cK103:Q1m.T) (cK106:Q2V.T) (cK114:QD.T) (cK141:Q2Q.T) (cK115:Q1S.T) (cK107:Q4m.T) (cK84:K84.T) (cK161:Q2L.T) (cK110:Q3u.T):EqA Q3Q.sig (Q3Q.H cK103 cK106 cK114 cK141 cK115 cK107 cK84 cK161 cK110) Tryz.f210 6 (Q3Q.W (Q3Q.gen cK103 cK106 cK114 cK141 cK115 cK107 cK84 cK161 cK110)):=by intro a x;kernel_rfl
theorem Q3Q.ok:NK_ 210 Q3Q.sig (Q3Q.W Q3Q):=ok_ Tryz.func210 (Q3Q.eq Q1m Q2V QD Q2Q Q1S Q4m K84 Q2L Q3u) (hn_ (Z0 (Z0 (Z0 (Z0 (Z0 (Z0 (Z0 (Z0 (Z0 Z2 Q1m.ok) Q2V.ok) QD.ok) Q2Q.ok) Q1S.ok) Q4m.ok) K84.ok) Q2L.ok) Q3u.ok))
end
end Go.Proofs.YtgnabnhggaondaaGreat
