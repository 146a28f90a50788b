/- Typed forms of the functions that these statements reach, proved equal to what the model runs, and laws over them. -/
import Derived.Test.YtgnabnhggaondabGreatSa
namespace Go.Proofs.YtgnabnhggaondabGreat
open Go.Rf
set_option linter.unusedVariables false
set_option linter.unusedSimpArgs false
set_option maxRecDepth 100000
noncomputable section
def Q1l.sig:Sig U:=⟨[.isl .bool],[],0,[.int .i64],false,[]⟩
abbrev Q1l.T:Type:=(List (Bool))->Option ((Int×Unit)×Unit×Unit)
def Q1l.W (f:Q1l.T):Q1l.sig.F:=λa x=>f a.1
def Q1l.L0:Shape U:=⟨20,8,[(3,vi_),(6,.val (.isl .bool)),(7,vi_),(8,vi_)],[]⟩
def Q1l.X0:Qm U:= [(.exit 0,⟨20,8,[(3,vi_)],[]⟩)]
abbrev Q1l.l0T:Type:=((Int×(List (Bool))×Int×Int×Unit)×Unit)->Option (((Int×Unit)×Unit))
def Q1l.C:Code:=match Tryz.f188.body with|some c=>c|none=>.skip
def Q1l.B0:Code:=match (Z3 Q1l.C).getD 0 .skip with| .loop b=>b| .scope b=>b|_=>.skip
def Q1l.JC6:Qm U:= [(.normal,⟨20,8,[(3,vi_),(6,.val (.isl .bool)),(7,vi_),(8,vi_)],[]⟩)]
def Q1l.H (l0:Q1l.l0T):Hints U:={ Γ:=noΓ,ro:=0,base:=8,Q27:=jt_ [(6,Q1l.JC6)],loop:=jt_ [(3,(Z9 (0,8) Q1l.L0 Q1l.X0 l0))]}
def Q1l.QO (a:(Int×(List (Bool))×Int×Int×Unit)×Unit):Option (((Int×(List (Bool))×Int×Int×Unit)×Unit)⊕(((Int×Unit)×Unit))):=
 (bif ilt a.1.2.2.2.1 a.1.2.2.1 then (bif inR a.1.2.2.2.1 (List.length a.1.2.1) then (Q0 ((bif List.getD a.1.2.1 (Int.toNat a.1.2.2.2.1) false then (bif ile 0 a.1.2.2.2.1 then some ((ior .i64 a.1.1 (Q8U .i64 1 a.1.2.2.2.1),a.1.2),()) else none) else some a)) none λr0=>some (.inl ((r0.1.1,(r0.1.2.1,(r0.1.2.2.1,(Q4 .i64 r0.1.2.2.2.1 1,())))),()))) else none) else some (.inr ((a.1.1,()),())))
def Q1l.F0:Q1l.l0T:=λa=>Z8 (1000000+(a.1.2.1.length)) (Q1l.QO) a
def Q1l.gen (l0:Q1l.l0T):Q1l.T:=λl=>
 (Q0 (l0 (((0:Int),l,ofN (List.length l),(0:Int),()),())) none λr0=>some (r0.1,((),())))
def Q1l:Q1l.T:=Q1l.gen Q1l.F0
theorem Q1l.Q24 (l0:Q1l.l0T) (a:Q1l.L0.T):run Tryz.prog (Q1l.H l0) 6 (Option (Q1l.L0.T⊕ExT Q1l.X0)) none Q1l.B0 (Q1l.L0.enc a) (Zi (0,8) Q1l.L0 Q1l.X0)=Q1l.QO a:=by kernel_rfl
abbrev Q1l.h:=Q1l.H Q1l.F0
theorem Q1l.Q1V:LO_ Q1l.h Q1l.B0 (Z9 (0,8) Q1l.L0 Q1l.X0 Q1l.F0):=lk_ (hn_ Z2) (Q1l.Q24 Q1l.F0)
theorem Q1l.eq (l0:Q1l.l0T):EqA Q1l.sig (Q1l.H l0) Tryz.f188 6 (Q1l.W (Q1l.gen l0)):=by intro a x;kernel_rfl
theorem Q1l.loops:Z3 Q1l.C= [(.loop Q1l.B0)]:=by kernel_rfl
theorem Q1l.ok:NK_ 188 Q1l.sig (Q1l.W Q1l):=ok_ Tryz.func188 (Q1l.eq Q1l.F0) (hl_ Z2 (Z7 (by kernel_rfl) Q1l.Q1V Z5)) Q1l.loops
def Q2Z.sig:Sig U:=⟨[.isl .u8,.int .i64],[],0,[.isl .u8],false,[]⟩
abbrev Q2Z.T:Type:=(List (UInt8))->(Int)->Option (((List (UInt8))×Unit)×Unit×Unit)
def Q2Z.W (f:Q2Z.T):Q2Z.sig.F:=λa x=>f a.1 a.2.1
def Q2Z.H (cK121:QG.T):Hints U:={ Γ:=(QG.N cK121 noΓ),ro:=0,base:=8}
def Q2Z.gen (cK121:QG.T):Q2Z.T:=λb v=>
 (Q0 (cK121 b v 1) none λr0=>some (r0.1,((),())))
def Q2Z:Q2Z.T:=Q2Z.gen QG
theorem Q2Z.eq (cK121:QG.T):EqA Q2Z.sig (Q2Z.H cK121) Tryz.f187 6 (Q2Z.W (Q2Z.gen cK121)):=by intro a x;kernel_rfl
theorem Q2Z.ok:NK_ 187 Q2Z.sig (Q2Z.W Q2Z):=ok_ Tryz.func187 (Q2Z.eq QG) (hn_ (Z0 Z2 QG.ok))
def Q4x.sig:Sig U:=⟨[.int .i64],[],0,[.int .i64],false,[]⟩
abbrev Q4x.T:Type:=(Int)->Option ((Int×Unit)×Unit×Unit)
def Q4x.W (f:Q4x.T):Q4x.sig.F:=λa x=>f a.1
def Q4x.H:Hints U:={ Γ:=noΓ,ro:=0,base:=8}
def Q4x.gen:Q4x.T:=λv=>
 (bif ilt 140737488355327 v then some (((9223372036854775807:Int),()),((),())) else (bif ilt v (-140737488355328) then some (((-9223372036854775808:Int),()),((),())) else some ((Q3u .i64 v 65536,()),((),()))))
def Q4x:Q4x.T:=Q4x.gen
theorem Q4x.ok:NK_ 189 Q4x.sig (Q4x.W Q4x):=ok_ (H:=Q4x.H) (n:=6) Tryz.func189 (by intro a x;kernel_rfl) (hn_ Z2)
def Q3H.sig:Sig U:=⟨[.data .Q1e,.int .i64],[],0,[.isl .u8],false,[]⟩
abbrev Q3H.T:Type:=(Q8)->(Int)->Option (((List (UInt8))×Unit)×Unit×Unit)
def Q3H.W (f:Q3H.T):Q3H.sig.F:=λa x=>f a.1 a.2.1
def Q3H.JC5:Qm U:= [(.normal,⟨47,8,[(5,vi_)],[]⟩),
 (.ret,⟨47,8,[(4,.full .u8)],[]⟩)]
def Q3H.H (cK110:Q1l.T) (cK113:Q2Z.T):Hints U:={ Γ:=(Qk 187 (Q2Z.sig.native (Q2Z.W cK113)) (Qk 188 (Q1l.sig.native (Q1l.W cK110)) noΓ)),ro:=0,base:=8,Q27:=jt_ [(5,Q3H.JC5)]}
def Q3H.gen (cK110:Q1l.T) (cK113:Q2Z.T):Q3H.T:=λc id=>
 (Q0 ((bif ieq id 8197 then some (.inl ((c.Q17,()),())) else (bif ieq id 8198 then some (.inl ((c.Q18,()),())) else (bif ieq id 8199 then some (.inl ((c.Q1v,()),())) else (bif ieq id 8200 then (Q0 (cK110 (c.Q25::Qn Bool)) none λr0=>some (.inl (r0.1,()))) else (bif ieq id 8201 then some (.inl ((c.Q3z,()),())) else (bif ieq id 8202 then some (.inl ((c.Q3b,()),())) else (bif ieq id 8203 then some (.inl ((c.Q2G,()),())) else (bif ieq id 8204 then some (.inl (((2:Int),()),())) else (bif ieq id 8208 then some (.inl ((c.Qu.Q1r,()),())) else some (.inr ((Qn UInt8,()),())))))))))))) none λr1=>(Q3S r1 (λr2=>(Q0 (cK113 (Qn UInt8) r2.1.1) none λr3=>(Q0 (cK113 r3.1.1 0) none λr4=>some (r4.1,((),()))))) (λr2=>some (r2.1,((),())))))
def Q3H:Q3H.T:=Q3H.gen Q1l Q2Z
theorem Q3H.eq (cK110:Q1l.T) (cK113:Q2Z.T):EqA Q3H.sig (Q3H.H cK110 cK113) Tryz.f190 6 (Q3H.W (Q3H.gen cK110 cK113)):=by intro a x;kernel_rfl
theorem Q3H.ok:NK_ 190 Q3H.sig (Q3H.W Q3H):=ok_ Tryz.func190 (Q3H.eq Q1l Q2Z) (hn_ (Z0 (Z0 Z2 Q1l.ok) Q2Z.ok))
def Q3U.sig:Sig U:=⟨[.data .Q3a,.int .i64],[],0,[.isl .u8],false,[]⟩
abbrev Q3U.T:Type:=(Q1w)->(Int)->Option (((List (UInt8))×Unit)×Unit×Unit)
def Q3U.W (f:Q3U.T):Q3U.sig.F:=λa x=>f a.1 a.2.1
def Q3U.H (cK110:Q1l.T) (cK113:Q2Z.T) (cK121:QG.T) (cK148:Q2Y.T) (cK122:Q1U.T) (cK114:Q4x.T) (cK90:K90.T) (cK171:Q2M.T) (cK117:Q3H.T):Hints U:={ Γ:=(Qk 190 (Q3H.sig.native (Q3H.W cK117)) (Qk 118 (Q2M.sig.native (Q2M.W cK171)) (K90.N cK90 (Qk 189 (Q4x.sig.native (Q4x.W cK114)) (Q1U.N cK122 (Qk 122 (Q2Y.sig.native (Q2Y.W cK148)) (QG.N cK121 (Qk 187 (Q2Z.sig.native (Q2Z.W cK113)) (Qk 188 (Q1l.sig.native (Q1l.W cK110)) noΓ))))))))),ro:=0,base:=8}
def Q3U.gen (cK110:Q1l.T) (cK113:Q2Z.T) (cK121:QG.T) (cK148:Q2Y.T) (cK122:Q1U.T) (cK114:Q4x.T) (cK90:K90.T) (cK171:Q2M.T) (cK117:Q3H.T):Q3U.T:=λv id=>
 (bif ieq id 8192 then (Q0 (cK110 ((!v.QS.Q4C)::v.QS.Q25::Qn Bool)) none λr0=>(Q0 (cK113 (Qn UInt8) r0.1.1) none λr1=>(Q0 (cK113 r1.1.1 0) none λr2=>(Q0 (cK121 r2.1.1 v.QS.Qv 2) none λr3=>(Q0 (cK113 r3.1.1 v.QS.Q17) none λr4=>(Q0 (cK148 r4.1.1 v.QS.Qu) none λr5=>(Q0 (cK113 r5.1.1 v.QS.Q18) none λr6=>(Q0 (cK122 r6.1.1 v.QS.QF) none λr7=>(Q0 (cK113 r7.1.1 v.QS.Q1v) none λr8=>(Q0 (cK113 r8.1.1 0) none λr9=>some (r9.1,((),())))))))))))) else (bif ieq id 8193 then (Q0 (cK121 (Qn UInt8) v.Q39.Q2g 2) none λr10=>(Q0 (cK114 v.QaG) none λr11=>(Q0 (cK121 r10.1.1 r11.1.1 8) none λr12=>(Q0 (cK114 v.Qbp) none λr13=>(Q0 (cK121 r12.1.1 r13.1.1 8) none λr14=>some (r14.1,((),()))))))) else (bif ieq id 8194 then (Q0 (cK90 (Qn UInt8) v.Q39.QW) none λr15=>(Q0 (cK121 r15.1.1 65535 4) none λr16=>(Q0 (cK121 r16.1.1 2147483647 4) none λr17=>(Q0 (cK113 r17.1.1 v.Q39.Q17) none λr18=>(Q0 (cK148 r18.1.1 v.Q39.Qu) none λr19=>(Q0 (cK113 r19.1.1 v.Q39.Q18) none λr20=>(Q0 (cK122 r20.1.1 v.Q39.Q2Q) none λr21=>some (r21.1,((),()))))))))) else (bif ieq id 8195 then (Q0 (cK121 (Qn UInt8) v.Q39.Q1b.Q37 2) none λr22=>(Q0 (cK113 r22.1.1 (Q5p .i64 v.Q39.Q1b.Q1W 63)) none λr23=>(Q0 (cK113 r23.1.1 v.Q39.Q1b.Q1N) none λr24=>some (r24.1,((),()))))) else (bif ieq id 8196 then (Q0 (cK90 (Qn UInt8) (Qf.mk v.QS.QF v.QW)) none λr25=>(Q0 (cK113 r25.1.1 v.QbW) none λr26=>(Q0 (cK113 r26.1.1 v.QS.Q2E) none λr27=>(Q0 (cK114 v.Q4g) none λr28=>(Q0 (cK121 r27.1.1 r28.1.1 8) none λr29=>(Q0 (cK113 r29.1.1 v.QS.Q3z) none λr30=>(Q0 (cK113 r30.1.1 v.QS.Q3b) none λr31=>(Q0 (cK113 r31.1.1 v.QS.Q2G) none λr32=>(Q0 (cK110 (v.QS.Q4g::Qn Bool)) none λr33=>(Q0 (cK113 r32.1.1 (Q4 .i64 1 r33.1.1)) none λr34=>(Q0 (cK113 r34.1.1 v.QS.Q2E) none λr35=>(Q0 (cK113 r35.1.1 2) none λr36=>some (r36.1,((),())))))))))))))) else (bif ieq id 8207 then (Q0 (cK171 (Qn UInt8) v.Q6O) none λr37=>some (r37.1,((),()))) else (Q0 (cK117 v.QS id) none λr38=>some (r38.1,((),())))))))))
def Q3U:Q3U.T:=Q3U.gen Q1l Q2Z QG Q2Y Q1U Q4x K90 Q2M Q3H
theorem Q3U.eq (cK110:Q1l.T) (cK113:Q2Z.T) (cK121:QG.T) (cK148:Q2Y.T) (cK122:Q1U.T) (cK114:Q4x.T) (cK90:K90.T) (cK171:Q2M.T) (cK117:Q3H.T):EqA Q3U.sig (Q3U.H cK110 cK113 cK121 cK148 cK122 cK114 cK90 cK171 cK117) Tryz.f182 6 (Q3U.W (Q3U.gen cK110 cK113 cK121 cK148 cK122 cK114 cK90 cK171 cK117)):=by intro a x;kernel_rfl
theorem Q3U.ok:NK_ 182 Q3U.sig (Q3U.W Q3U):=ok_ Tryz.func182 (Q3U.eq Q1l Q2Z QG Q2Y Q1U Q4x K90 Q2M Q3H) (hn_ (Z0 (Z0 (Z0 (Z0 (Z0 (Z0 (Z0 (Z0 (Z0 Z2 Q1l.ok) Q2Z.ok) QG.ok) Q2Y.ok) Q1U.ok) Q4x.ok) K90.ok) Q2M.ok) Q3H.ok))
def Q3w.sig:Sig U:=⟨[.data .Q3a,.int .i64,.int .i64,.str],[],0,[.str,.data .Q1e,.int .i64],true,[]⟩
abbrev Q3w.T:Type:=(Q1w)->(Int)->(Int)->(ByteArray)->Option ((ByteArray×Q8×Int×Unit)×Unit×Unit)
def Q3w.W (f:Q3w.T):Q3w.sig.F:=λa x=>f a.1 a.2.1 a.2.2.1 a.2.2.2.1
def Q3w.JC6:Qm U:= [(.normal,⟨103,10,[(1,vi_),(2,vi_),(3,.val (.str)),(4,.ptr 8 0 0),(9,.ptr 9 0 0),(31,vb_)],[(8,.obj .Q3a),(9,.obj .Q1e)]⟩)]
def Q3w.JC2:Qm U:= [(.normal,⟨103,10,[(2,vi_),(4,.ptr 8 0 0),(9,.ptr 9 0 0)],[(8,.obj .Q3a),(9,.obj .Q1e)]⟩),
 (.ret,⟨103,9,[(8,.val (.str)),(9,.ptr 8 0 0),(10,vi_)],[(8,.obj .Q1e)]⟩)]
def Q3w.H (cK108:Q4w.T) (cK111:Q49.T) (cK112:Q4p.T) (cK116:Q40.T) (cK115:Q4d.T) (cK59:K59.T) (cK118:Q3U.T):Hints U:={ Γ:=(Qk 182 (Q3U.sig.native (Q3U.W cK118)) (K59.N cK59 (Qk 181 (Q4d.sig.native (Q4d.W cK115)) (Qk 180 (Q40.sig.native (Q40.W cK116)) (Qk 179 (Q4p.sig.native (Q4p.W cK112)) (Qk 178 (Q49.sig.native (Q49.W cK111)) (Qk 177 (Q4w.sig.native (Q4w.W cK108)) noΓ))))))),ro:=0,base:=8,Q1J:=jt_ [(3,[(18,vb_)]),(5,[(31,vb_)]),(6,[(31,vb_)]),(8,[(51,vb_)]),(10,[(60,vb_)]),(14,[(78,vb_)])],Q27:=jt_ [(2,Q3w.JC2),(6,Q3w.JC6)]}
def Q3w.gen (cK108:Q4w.T) (cK111:Q49.T) (cK112:Q4p.T) (cK116:Q40.T) (cK115:Q4d.T) (cK59:K59.T) (cK118:Q3U.T):Q3w.T:=λv action id data=>
 (Q0 (cK108 id) none λr0=>(Q0 ((bif !r0.1.1 then some (.inr ((ByteArray.mk (List.toArray (Qn UInt8)),((2:Int),())),(v.QS,()))) else (Q0 ((bif ine action 0 then (bif ine action 1 then some (ine action 3,()) else some (false,())) else some (false,()))) none λr1=>(bif r1.1 then some (.inr ((ByteArray.mk (List.toArray (Qn UInt8)),((6:Int),())),(v.QS,()))) else (Q0 ((bif ieq action 3 then (Q0 (cK111 id) none λr2=>some (!r2.1.1,())) else some (false,()))) none λr3=>(Q0 ((bif r3.1 then some ((action,(id,(data,r3))),(v,(Q8.mk 0 0 0 0 0 z1_ false 0 0 0 0 false false 0 0 0 0 z4_ false,()))) else (Q0 ((bif ine action 3 then (Q0 (cK111 id) none λr4=>(bif r4.1.1 then some (ine id 0,()) else some (false,()))) else some (false,()))) none λr5=>some ((action,(id,(data,r5))),(v,(Q8.mk 0 0 0 0 0 z1_ false 0 0 0 0 false false 0 0 0 0 z4_ false,())))))) none λr6=>(bif r6.1.2.2.2.1 then some (.inr ((ByteArray.mk (List.toArray (Qn UInt8)),((6:Int),())),(r6.2.1.QS,()))) else (Q0 ((bif ieq r6.1.1 1 then (Q0 (cK112 r6.1.2.1) none λr7=>some r7.1) else some (false,()))) none λr8=>(bif r8.1 then some (.inr ((ByteArray.mk (List.toArray (Qn UInt8)),((5:Int),())),(r6.2.1.QS,()))) else (Q0 ((bif ine r6.1.1 0 then (Q0 (cK116 r6.1.2.1) none λr9=>some (ine (ofN (ByteArray.size r6.1.2.2.1)) r9.1.1,())) else some (false,()))) none λr10=>(bif r10.1 then some (.inr ((ByteArray.mk (List.toArray (Qn UInt8)),((3:Int),())),(r6.2.1.QS,()))) else (bif ieq r6.1.1 3 then some (.inr ((r6.1.2.2.1,((0:Int),())),(r6.2.1.QS,()))) else (Q0 ((bif ieq r6.1.1 1 then some (ine r6.1.2.1 0,()) else some (false,()))) none λr11=>(bif r11.1 then (Q0 (cK115 r6.2.1.QS r6.1.2.1 r6.1.2.2.1) none λr12=>(Q0 (cK59 r12.1.1) none λr13=>(bif ine r13.1.1 0 then some (.inr ((ByteArray.mk (List.toArray (Qn UInt8)),((4:Int),())),(r6.2.1.QS,()))) else some (.inl ((r6.1.2.1,()),(Q1w.Qc5 r6.2.1 r12.1.1,r6.2.2)))))) else some (.inl ((r6.1.2.1,()),r6.2)))))))))))))))) none λr14=>(Q3S r14 (λr15=>(Q0 (cK118 r15.2.1 r15.1.1) none λr16=>some ((ByteArray.mk (List.toArray r16.1.1),(r15.2.1.QS,((0:Int),()))),((),())))) (λr15=>some ((r15.1.1,(r15.2.1,r15.1.2)),((),()))))))
def Q3w:Q3w.T:=Q3w.gen Q4w Q49 Q4p Q40 Q4d K59 Q3U
theorem Q3w.eq (cK108:Q4w.T) (cK111:Q49.T) (cK112:Q4p.T) (cK116:Q40.T) (cK115:Q4d.T) (cK59:K59.T) (cK118:Q3U.T):EqA Q3w.sig (Q3w.H cK108 cK111 cK112 cK116 cK115 cK59 cK118) Tryz.f154 6 (Q3w.W (Q3w.gen cK108 cK111 cK112 cK116 cK115 cK59 cK118)):=by intro a x;kernel_rfl
theorem Q3w.ok:NK_ 154 Q3w.sig (Q3w.W Q3w):=ok_ Tryz.func154 (Q3w.eq Q4w Q49 Q4p Q40 Q4d K59 Q3U) (hn_ (Z0 (Z0 (Z0 (Z0 (Z0 (Z0 (Z0 Z2 Q4w.ok) Q49.ok) Q4p.ok) Q40.ok) Q4d.ok) K59.ok) Q3U.ok))
def Q3T.sig:Sig U:=⟨[.int .i64,.int .i64],[],0,[.data .QX,.bool],true,[]⟩
abbrev Q3T.T:Type:=(Int)->(Int)->Option ((Qi×Bool×Unit)×Unit×Unit)
def Q3T.W (f:Q3T.T):Q3T.sig.F:=λa x=>f a.1 a.2.1
def Q3T.H (cK187:Q2F.T) (cK121:QG.T):Hints U:={ Γ:=(QG.N cK121 (Q2F.N cK187 noΓ)),ro:=0,base:=8,Q1J:=jt_ [(1,[(14,vb_)])]}
def Q3T.gen (cK187:Q2F.T) (cK121:QG.T):Q3T.T:=λerr id=>
 (Q0 ((Q0 (cK187 err 0 65535) none λr0=>(bif !r0.1.1 then some (true,()) else (Q0 (cK187 id 0 65535) none λr1=>some (!r1.1.1,()))))) none λr2=>(bif r2.1 then some ((Qi.mk 0 (ByteArray.mk (List.toArray (Qn UInt8))),(false,())),((),())) else (Q0 (cK121 (Qn UInt8) err 2) none λr3=>(Q0 (cK121 r3.1.1 id 2) none λr4=>(Q0 (cK121 r4.1.1 0 4) none λr5=>some ((Qi.mk 2 (ByteArray.mk (List.toArray r5.1.1)),(true,())),((),())))))))
def Q3T:Q3T.T:=Q3T.gen Q2F QG
theorem Q3T.eq (cK187:Q2F.T) (cK121:QG.T):EqA Q3T.sig (Q3T.H cK187 cK121) Tryz.f155 6 (Q3T.W (Q3T.gen cK187 cK121)):=by intro a x;kernel_rfl
theorem Q3T.ok:NK_ 155 Q3T.sig (Q3T.W Q3T):=ok_ Tryz.func155 (Q3T.eq Q2F QG) (hn_ (Z0 (Z0 Z2 Q2F.ok) QG.ok))
def Q3I.sig:Sig U:=⟨[.int .i64,.str],[],0,[.data .QX,.bool],true,[]⟩
abbrev Q3I.T:Type:=(Int)->(ByteArray)->Option ((Qi×Bool×Unit)×Unit×Unit)
def Q3I.W (f:Q3I.T):Q3I.sig.F:=λa x=>f a.1 a.2.1
def Q3I.JC5:Qm U:= [(.normal,⟨39,10,[(4,.ptr 8 0 0),(6,.own .u8 9)],[(8,.obj .QX),(9,.tok)]⟩)]
def Q3I.H (cK187:Q2F.T) (cK121:QG.T):Hints U:={ Γ:=(QG.N cK121 (Q2F.N cK187 noΓ)),ro:=0,base:=8,Q1J:=jt_ [(1,[(14,vb_)])],Q27:=jt_ [(5,Q3I.JC5)]}
def Q3I.gen (cK187:Q2F.T) (cK121:QG.T):Q3I.T:=λid data=>
 (Q0 ((Q0 (cK187 id 0 65535) none λr0=>(bif !r0.1.1 then some (true,()) else some (ilt 400 (ofN (ByteArray.size data)),())))) none λr1=>(bif r1.1 then some ((Qi.mk 0 (ByteArray.mk (List.toArray (Qn UInt8))),(false,())),((),())) else (Q0 (cK121 (Qn UInt8) id 2) none λr2=>(bif room (List.length r2.1.1+List.length data.data.toList) 1 then (Q0 ((bif ine (Q5Q (ofN (List.length (r2.1.1++data.data.toList))) 2) 0 then (bif bif le3 (ofN 0) (ofN (List.length (r2.1.1++data.data.toList))) (List.length (r2.1.1++data.data.toList)) then ieq (ofN (List.length (r2.1.1++data.data.toList))) (ofN (List.length (r2.1.1++data.data.toList))) else false then (bif room (List.length (List.drop (Int.toNat (ofN 0)) (List.take (Int.toNat (ofN (List.length (r2.1.1++data.data.toList)))) (r2.1.1++data.data.toList)))+List.length (UInt8.ofNat (Int.toNat 0)::Qn UInt8)) 1 then some ((List.drop (Int.toNat (ofN 0)) (List.take (Int.toNat (ofN (List.length (r2.1.1++data.data.toList)))) (r2.1.1++data.data.toList))++UInt8.ofNat (Int.toNat 0)::Qn UInt8,()),(Qi.mk 0 (ByteArray.mk (List.toArray (Qn UInt8))),())) else none) else none) else some ((r2.1.1++data.data.toList,()),(Qi.mk 0 (ByteArray.mk (List.toArray (Qn UInt8))),())))) none λr3=>(bif ilt 400 (ofN (List.length r3.1.1)) then some ((Qi.mk 0 (ByteArray.mk (List.toArray (Qn UInt8))),(false,())),((),())) else some ((Qi.mk 1 (ByteArray.mk (List.toArray r3.1.1)),(true,())),((),())))) else none))))
def Q3I:Q3I.T:=Q3I.gen Q2F QG
theorem Q3I.eq (cK187:Q2F.T) (cK121:QG.T):EqA Q3I.sig (Q3I.H cK187 cK121) Tryz.f156 6 (Q3I.W (Q3I.gen cK187 cK121)):=by intro a x;kernel_rfl
theorem Q3I.ok:NK_ 156 Q3I.sig (Q3I.W Q3I):=ok_ Tryz.func156 (Q3I.eq Q2F QG) (hn_ (Z0 (Z0 Z2 Q2F.ok) QG.ok))
def K20.sig:Sig U:=⟨[.ptr,.int .i64,.int .i64,.data .Ql,.int .i64,.str,.int .i64],[.obj .Q7],0,[.bool],false,[]⟩
abbrev K20.T:Type:=(Int)->(Int)->(Q9)->(Int)->(ByteArray)->(Int)->(Q1)->Option ((Bool×Unit)×(Q1×Unit)×Unit)
def K20.W (f:K20.T):K20.sig.F:=λa x=>f a.2.1 a.2.2.1 a.2.2.2.1 a.2.2.2.2.1 a.2.2.2.2.2.1 a.2.2.2.2.2.2.1 x.1
def K20.JR12:Qm U:= [(.normal,⟨114,9,[(19,vi_)],[(8,.obj .Q7)]⟩)]
def K20.JR9:Qm U:= [(.normal,⟨114,12,[(0,.ptr 8 0 0),(1,vi_),(10,.ptr 9 0 0),(19,vi_),(21,.ptr 10 0 0),(22,.ptr 11 0 0)],[(8,.obj .Q7),(9,.obj .Ql),(10,.obj .Ql),(11,.obj .QX)]⟩)]
def K20.JR8:Qm U:= [(.normal,⟨114,12,[(0,.ptr 8 0 0),(1,vi_),(4,vi_),(10,.ptr 9 0 0),(17,.val (.str)),(19,vi_),(21,.ptr 10 0 0),(22,.ptr 11 0 0)],[(8,.obj .Q7),(9,.obj .Ql),(10,.obj .Ql),(11,.obj .QX)]⟩)]
def K20.JR6:Qm U:= [(.normal,⟨114,13,[(0,.ptr 8 0 0),(1,vi_),(4,vi_),(10,.ptr 9 0 0),(17,.val (.str)),(18,.ptr 10 0 0),(19,vi_),(21,.ptr 11 0 0),(22,.ptr 12 0 0)],[(8,.obj .Q7),(9,.obj .Ql),(10,.obj .Q1e),(11,.obj .Ql),(12,.obj .QX)]⟩)]
def K20.JR5:Qm U:= [(.normal,⟨114,12,[(0,.ptr 8 0 0),(1,vi_),(4,vi_),(10,.ptr 9 0 0),(17,.val (.str)),(18,.ptr 10 0 0),(19,vi_),(21,.ptr 11 0 0)],[(8,.obj .Q7),(9,.obj .Ql),(10,.obj .Q1e),(11,.obj .Ql)]⟩)]
def K20.JR3:Qm U:= [(.normal,⟨114,11,[(0,.ptr 8 0 0),(1,vi_),(4,vi_),(10,.ptr 9 0 0),(17,.val (.str)),(18,.ptr 10 0 0),(19,vi_)],[(8,.obj .Q7),(9,.obj .Ql),(10,.obj .Q1e)]⟩)]
def K20.JR2:Qm U:= [(.normal,⟨114,11,[(0,.ptr 8 0 0),(1,vi_),(4,vi_),(5,.val (.str)),(10,.ptr 9 0 0),(16,.ptr 10 0 0)],[(8,.obj .Q7),(9,.obj .Ql),(10,.obj .Q3a)]⟩)]
def K20.JC8:Qm U:= [(.normal,⟨114,11,[(0,.ptr 8 0 0),(1,vi_),(19,vi_),(21,.ptr 9 0 0),(22,.ptr 10 0 0)],[(8,.obj .Q7),(9,.obj .Ql),(10,.obj .QX)]⟩)]
def K20.H (cK40:K40.T) (cK107:Q3w.T) (cK38:K38.T) (cK178:Q3T.T) (cK182:Q3I.T) (cK34:K34.T):Hints U:={ Γ:=(K34.N cK34 (Qk 156 (Q3I.sig.native (Q3I.W cK182)) (Qk 155 (Q3T.sig.native (Q3T.W cK178)) (K38.N cK38 (Qk 154 (Q3w.sig.native (Q3w.W cK107)) (K40.N cK40 noΓ)))))),ro:=0,base:=9,Q2B:=jt_ [(2,K20.JR2),(3,K20.JR3),(5,K20.JR5),(6,K20.JR6),(8,K20.JR8),(9,K20.JR9),(12,K20.JR12)],Q27:=jt_ [(8,K20.JC8)]}
def K20.gen (cK40:K40.T) (cK107:Q3w.T) (cK38:K38.T) (cK178:Q3T.T) (cK182:Q3I.T) (cK34:K34.T):K20.T:=λi n m id data now h0=>
 (Q0 (cK40 n h0) none λr0=>(Q0 ((Q0 (cK107 (Q1w.mk h0.Qo h0.Q2d h0.Q5d h0.Q48.fv now (h0.Qe r0.1.1).Q1u (h0.Qe r0.1.1).Q3g.fv n) m.Q3E id data) none λr1=>some ((i,(id,(r1.1.1,r1.1.2.2))),(h0,(m,(r1.1.2.1,())))))) none λr2=>(Q0 ((Q0 (cK38 r2.1.1 r2.2.1) none λr3=>some (r2.1,(r2.2.1,(r2.2.2.1,(r2.2.2.2.1,(Q9.mk 13 r2.2.2.1.Q1v 0 0 r3.1.1 r2.2.2.1.Q36 127 0 r2.2.2.1.Q1G 0 0 z1_ 0 0 0 0 (Z4 true 0 (Q1K .i64 r2.2.2.1.Q2X r2.2.2.1.Q4X)) (Z4 true 0 (Q1K .i64 r2.2.2.1.Q2X r2.2.2.1.Q4X)) 2,()))))))) none λr4=>(Q0 ((Q0 (cK178 r4.1.2.2.2.1 r4.1.2.1) none λr5=>some (r4.1,(r4.2.1,(r4.2.2.1,(r4.2.2.2.1,(r4.2.2.2.2.1,(r5.1.1,())))))))) none λr6=>(Q0 ((bif ieq r6.1.2.2.2.1 0 then (Q0 ((Q0 (cK182 r6.1.2.1 r6.1.2.2.1) none λr7=>some ((r6.1.1,r6.1.2.2.2),(Q1.Q85 r6.2.1 r6.2.2.2.1,(r6.2.2.1,(r6.2.2.2.2.1,(r7.1.1,()))))))) none λr8=>(bif ieq r8.2.2.1.Q3E 3 then some (r8.1,(r8.2.1,(Q9.Q6B r8.2.2.2.1 4,r8.2.2.2.2))) else some (r8.1,(r8.2.1,r8.2.2.2)))) else some ((r6.1.1,r6.1.2.2.2),(r6.2.1,r6.2.2.2.2)))) none λr9=>(Q0 ((Q0 (cK34 r9.1.1 r9.2.2.1 (r9.2.2.2.1::Qn Qi) false r9.2.1) none λr10=>some (r9.1.2,r10.2.1))) none λr11=>some ((ieq r11.1.1 0,()),(r11.2,()))))))))
def K20:K20.T:=K20.gen K40 Q3w K38 Q3T Q3I K34
theorem K20.eq (cK40:K40.T) (cK107:Q3w.T) (cK38:K38.T) (cK178:Q3T.T) (cK182:Q3I.T) (cK34:K34.T):EqA K20.sig (K20.H cK40 cK107 cK38 cK178 cK182 cK34) Tryz.f111 6 (K20.W (K20.gen cK40 cK107 cK38 cK178 cK182 cK34)):=by intro a x;kernel_rfl
theorem K20.ok:NK_ 111 K20.sig (K20.W K20):=ok_ Tryz.func111 (K20.eq K40 Q3w K38 Q3T Q3I K34) (hn_ (Z0 (Z0 (Z0 (Z0 (Z0 (Z0 Z2 K40.ok) Q3w.ok) K38.ok) Q3T.ok) Q3I.ok) K34.ok))
def K43.sig:Sig U:=⟨[.ptr,.int .i64,.int .i64],[.obj .Q7,Q58,Q51,Q5o,Q5y,.fam 7 (.map true false .Qw .Q1R)],0,[],true,[]⟩
abbrev K43.T:Type:=(Int)->(Int)->(Q1)->(Fm Qb)->(Fm Qg)->(Fm Qc)->(Fm QB)->(Nat×(Nat->List (Qf×List (Int))))->Option (Unit×(Q1×(Fm Qb)×(Fm Qg)×(Fm Qc)×(Fm QB)×(Nat×(Nat->List (Qf×List (Int))))×Unit)×Unit)
def K43.W (f:K43.T):K43.sig.F:=λa x=>f a.2.1 a.2.2.1 x.1 x.2.1 x.2.2.1 x.2.2.2.1 x.2.2.2.2.1 x.2.2.2.2.2.1
def K43.JR8:Qm U:= [(.normal,⟨58,9,[(0,.ptr 8 0 0),(7,vi_)],(8,.obj .Q7)::hT7_⟩)]
def K43.JR7:Qm U:= [(.normal,⟨58,9,[(0,.ptr 8 0 0),(6,.Q1h 8 23 42 8 0),(7,vi_)],(8,.obj .Q7)::hT7_⟩)]
def K43.H (cK33:K33.T) (cK40:K40.T) (cK144:Q20.T) (cK46:K46.T) (cK47:K47.T) (cK132:Q26.T) (cK142:Q1T.T) (cK189:Q1E.T):Hints U:={ Γ:=(Q1E.N cK189 (Q1T.N cK142 (Q26.N cK132 (Qk 68 (K47.sig.native (K47.W cK47)) (Qk 67 (K46.sig.native (K46.W cK46)) (Q20.N cK144 (K40.N cK40 (K33.N cK33 noΓ)))))))),ro:=0,base:=9,Q2B:=jt_ [(3,K43.JR7),(5,K43.JR7),(6,K43.JR7),(7,K43.JR7),(8,K43.JR8)]}
def K43.gen (cK33:K33.T) (cK40:K40.T) (cK144:Q20.T) (cK46:K46.T) (cK47:K47.T) (cK132:Q26.T) (cK142:Q1T.T) (cK189:Q1E.T):K43.T:=λn event h0 g2 g3 g4 g6 g7=>
 (Q0 (cK33 n h0) none λr0=>(bif r0.1.1 then some ((),((h0,(g2,(g3,(g4,(g6,(g7,())))))),())) else (Q0 (cK40 n h0) none λr1=>(Q0 ((Q0 (cK144 (h0.Qe r1.1.1).Q1u event h0.Qo.Q25) none λr2=>some ((r1.1.1,((h0.Qe r1.1.1).Q1u,())),(Q1.QU h0 (Qr h0.Qe r1.1.1 (Q5.Q3Q (h0.Qe r1.1.1) r2.1.1)),(g2,(g3,(g4,(g6,(g7,()))))))))) none λr3=>(bif ieq (r3.2.1.Qe r3.1.1).Q1u r3.1.2.1 then some ((),(r3.2,())) else (Q0 ((Q0 (cK46 (r3.2.1.Qe r3.1.1) r3.2.2.1 r3.2.2.2.2.2.2.1) none λr4=>some (r3.1,(Q1.QU r3.2.1 (Qr r3.2.1.Qe r3.1.1 r4.2.1.1),(r4.2.1.2.1,(r3.2.2.2.1,(r3.2.2.2.2.1,(r3.2.2.2.2.2.1,r4.2.1.2.2)))))))) none λr5=>(Q0 ((Q0 (cK47 true (r5.2.1.Qe r5.1.1) r5.2.2.2.1 r5.2.2.2.2.2.1) none λr6=>some (r5.1,(Q1.QU r5.2.1 (Qr r5.2.1.Qe r5.1.1 r6.2.1.1),(r5.2.2.1,(r6.2.1.2.1,(r5.2.2.2.2.1,(r6.2.1.2.2.1,r5.2.2.2.2.2.2)))))))) none λr7=>(Q0 ((Q0 ((r7.2.1.Qe r7.1.1).14) none λr8=>(Q0 (cK132 (r7.2.2.2.2.1.2 r8)) none λr9=>some (r7.1,(r7.2.1,(r7.2.2.1,(r7.2.2.2.1,((r7.2.2.2.2.1.1,Qr r7.2.2.2.2.1.2 r8 r9.2.1.1),r7.2.2.2.2.2)))))))) none λr10=>(Q0 (cK142 r10.1.2.1) none λr11=>(bif r11.1.1 then (Q0 (cK189 r10.2.1.Qo) none λr12=>some ((),((Q1.Q4l (Q1.QU r10.2.1 (Qr r10.2.1.Qe r10.1.1 (Q5.Q5f (r10.2.1.Qe r10.1.1) z5_))) r12.1.1,r10.2.2),()))) else some ((),((Q1.QU r10.2.1 (Qr r10.2.1.Qe r10.1.1 (Q5.Q5f (r10.2.1.Qe r10.1.1) z5_)),r10.2.2),()))))))))))))
def K43:K43.T:=K43.gen K33 K40 Q20 K46 K47 Q26 Q1T Q1E
theorem K43.eq (cK33:K33.T) (cK40:K40.T) (cK144:Q20.T) (cK46:K46.T) (cK47:K47.T) (cK132:Q26.T) (cK142:Q1T.T) (cK189:Q1E.T):EqA K43.sig (K43.H cK33 cK40 cK144 cK46 cK47 cK132 cK142 cK189) Tryz.f30 6 (K43.W (K43.gen cK33 cK40 cK144 cK46 cK47 cK132 cK142 cK189)):=by intro a x;kernel_rfl
theorem K43.ok:NK_ 30 K43.sig (K43.W K43):=ok_ Tryz.func30 (K43.eq K33 K40 Q20 K46 K47 Q26 Q1T Q1E) (hn_ (Z0 (Z0 (Z0 (Z0 (Z0 (Z0 (Z0 (Z0 Z2 K33.ok) K40.ok) Q20.ok) K46.ok) K47.ok) Q26.ok) Q1T.ok) Q1E.ok))
def K31.sig:Sig U:=⟨[.ptr,.int .i64,.data .Ql,.isl .QX,.int .i64],[.obj .Q7,Q5Z,Q58,Q51,Q5o,Q5S,Q5y,.fam 7 (.map true false .Qw .Q1R)],0,[],true,[]⟩
abbrev K31.T:Type:=(Int)->(Q9)->(List (Qi))->(Int)->(Q1)->(Fm Qp)->(Fm Qb)->(Fm Qg)->(Fm Qc)->(Fm Qh)->(Fm QB)->(Nat×(Nat->List (Qf×List (Int))))->Option (Unit×(Q1×Q5m)×Unit)
def K31.W (f:K31.T):K31.sig.F:=λa x=>f a.2.1 a.2.2.1 a.2.2.2.1 a.2.2.2.2.1 x.1 x.2.1 x.2.2.1 x.2.2.2.1 x.2.2.2.2.1 x.2.2.2.2.2.1 x.2.2.2.2.2.2.1 x.2.2.2.2.2.2.2.1
def K31.L0:Shape U:=⟨137,11,[(0,.ptr 8 0 0),(1,vi_),(3,.val (.isl .QX)),(4,vi_),(7,.ptr 9 0 0),(12,vi_),(13,.val (.str)),(15,.ptr 10 0 0),(16,vi_)],(8,.obj .Q7)::(9,.obj .Ql)::(10,.obj .Ql)::Q4M⟩
def K31.X0:Qm U:= [(.exit 0,⟨137,10,[(0,.ptr 8 0 0),(1,vi_),(4,vi_),(7,.ptr 9 0 0),(12,vi_),(13,.val (.str))],(8,.obj .Q7)::(9,.obj .Ql)::Q4M⟩)]
abbrev K31.l0T:Type:=((Int×(List (Qi))×Int×Int×ByteArray×Int×Unit)×(Q1×Q9×Q9×Q5m))->Option (((Int×Int×Int×ByteArray×Unit)×(Q1×Q9×Q5m)))
def K31.L1:Shape U:=⟨137,10,[(0,.ptr 8 0 0),(1,vi_),(4,vi_),(7,.ptr 9 0 0),(12,vi_),(13,.val (.str)),(17,vb_),(94,.val (.isl .int)),(95,vi_),(96,vi_)],(8,.obj .Q7)::(9,.obj .Ql)::Q4M⟩
def K31.X1:Qm U:= [(.exit 2,⟨137,9,[(0,.ptr 8 0 0),(17,vb_)],(8,.obj .Q7)::Q4M⟩)]
abbrev K31.l1T:Type:=((Int×Int×Int×ByteArray×Bool×(List (Int))×Int×Int×Unit)×(Q1×Q9×Q5m))->Option (((Bool×Unit)×(Q1×Q5m)))
def K31.C:Code:=match Tryz.f62.body with|some c=>c|none=>.skip
def K31.B0:Code:=match (Z3 K31.C).getD 0 .skip with| .loop b=>b| .scope b=>b|_=>.skip
def K31.B1:Code:=match (Z3 K31.C).getD 1 .skip with| .loop b=>b| .scope b=>b|_=>.skip
def K31.JR17:Qm U:= [(.normal,⟨137,10,[(0,.ptr 8 0 0),(1,vi_),(4,vi_),(7,.ptr 9 0 0),(12,vi_),(13,.val (.str)),(17,vb_),(19,vi_),(94,.val (.isl .int)),(95,vi_),(96,vi_),(112,vb_)],(8,.obj .Q7)::(9,.obj .Ql)::Q4M⟩)]
def K31.JR6:Qm U:= [(.normal,⟨137,11,[(0,.ptr 8 0 0),(1,vi_),(3,.val (.isl .QX)),(4,vi_),(7,.ptr 9 0 0),(12,vi_),(13,.val (.str)),(15,.ptr 10 0 0)],(8,.obj .Q7)::(9,.obj .Ql)::(10,.obj .Ql)::Q4M⟩)]
def K31.JR1:Qm U:= [(.normal,⟨137,11,[(0,.ptr 8 0 0),(1,vi_),(3,.val (.isl .QX)),(4,vi_),(7,.ptr 9 0 0),(10,.ptr 10 0 0)],(8,.obj .Q7)::(9,.obj .Ql)::(10,.obj .QX)::Q4M⟩)]
def K31.JC18:Qm U:= [(.normal,⟨137,10,[(0,.ptr 8 0 0),(1,vi_),(4,vi_),(7,.ptr 9 0 0),(12,vi_),(13,.val (.str)),(17,vb_),(94,.val (.isl .int)),(95,vi_),(96,vi_)],(8,.obj .Q7)::(9,.obj .Ql)::Q4M⟩)]
def K31.JC11:Qm U:= [(.normal,⟨137,11,[(0,.ptr 8 0 0),(1,vi_),(3,.val (.isl .QX)),(4,vi_),(7,.ptr 9 0 0),(12,vi_),(13,.val (.str)),(15,.ptr 10 0 0),(16,vi_)],(8,.obj .Q7)::(9,.obj .Ql)::(10,.obj .Ql)::Q4M⟩)]
def K31.JC5:Qm U:= [(.normal,⟨137,10,[(0,.ptr 8 0 0),(1,vi_),(4,vi_),(7,.ptr 9 0 0),(12,vi_),(13,.val (.str))],(8,.obj .Q7)::(9,.obj .Ql)::Q4M⟩)]
def K31.H (cK179:Q1f.T) (cK183:Q2L.T) (cK16:K16.T) (cK140:Q1j.T) (cK34:K34.T) (cK109:Q3d.T) (cK32:K32.T) (cK20:K20.T) (cK43:K43.T) (cK23:K23.T) (l0:K31.l0T) (l1:K31.l1T):Hints U:={ Γ:=(K23.N cK23 (Qk 30 (K43.sig.native (K43.W cK43)) (Qk 111 (K20.sig.native (K20.W cK20)) (Qk 109 (K32.sig.native (K32.W cK32)) (Qk 110 (Q3d.sig.native (Q3d.W cK109)) (K34.N cK34 (Q1j.N cK140 (K16.N cK16 (Qk 108 (Q2L.sig.native (Q2L.W cK183)) (Qk 93 (Q1f.sig.native (Q1f.W cK179)) noΓ)))))))))),ro:=0,base:=9,Q1J:=jt_ [(4,[(46,vb_)]),(10,[(69,vb_)]),(12,[(87,vb_)]),(18,[(17,vb_)])],Q2B:=jt_ [(1,K31.JR1),(5,K31.JR6),(6,K31.JR6),(17,K31.JR17)],Q27:=jt_ [(5,K31.JC5),(11,K31.JC11),(18,K31.JC18)],loop:=jt_ [(8,(Z9 (0,9) K31.L0 K31.X0 l0)),(15,(Z9 (0,9) K31.L1 K31.X1 l1))]}
def K31.Q2A (cK179:Q1f.T) (cK183:Q2L.T) (cK16:K16.T) (cK140:Q1j.T) (cK34:K34.T) (cK109:Q3d.T) (cK32:K32.T) (cK20:K20.T) (cK43:K43.T) (cK23:K23.T) (a:(Int×Int×Int×ByteArray×Bool×(List (Int))×Int×Int×Unit)×(Q1×Q9×Q5m)):Option (((Int×Int×Int×ByteArray×Bool×(List (Int))×Int×Int×Unit)×(Q1×Q9×Q5m))⊕(((Bool×Unit)×(Q1×Q5m)))):=
 (bif ilt a.1.2.2.2.2.2.2.2.1 a.1.2.2.2.2.2.2.1 then (bif inR a.1.2.2.2.2.2.2.2.1 (List.length a.1.2.2.2.2.2.1) then (Q0 ((Q0 (cK20 a.1.1 (List.getD a.1.2.2.2.2.2.1 (Int.toNat a.1.2.2.2.2.2.2.2.1) (0:D UC.int)) a.2.2.1 a.1.2.2.1 a.1.2.2.2.1 a.1.2.1 a.2.1) none λr0=>(bif r0.1.1 then some ((a.1.1,(a.1.2.1,(a.1.2.2.1,(a.1.2.2.2.1,(a.1.2.2.2.2.1,(List.getD a.1.2.2.2.2.2.1 (Int.toNat a.1.2.2.2.2.2.2.2.1) (0:D UC.int),(a.1.2.2.2.2.2.1,(a.1.2.2.2.2.2.2.1,(a.1.2.2.2.2.2.2.2.1,(ieq a.2.2.1.Q3E 3,())))))))))),(r0.2.1.1,a.2.2)) else some ((a.1.1,(a.1.2.1,(a.1.2.2.1,(a.1.2.2.2.1,(a.1.2.2.2.2.1,(List.getD a.1.2.2.2.2.2.1 (Int.toNat a.1.2.2.2.2.2.2.2.1) (0:D UC.int),(a.1.2.2.2.2.2.1,(a.1.2.2.2.2.2.2.1,(a.1.2.2.2.2.2.2.2.1,(false,())))))))))),(r0.2.1.1,a.2.2))))) none λr1=>(Q0 ((bif r1.1.2.2.2.2.2.2.2.2.2.1 then (Q0 ((bif r1.1.2.2.2.2.1 then some (true,()) else some (ieq r1.1.2.2.1 5,()))) none λr2=>(bif ieq r1.1.2.2.1 8205 then (Q0 (cK43 r1.1.2.2.2.2.2.1 8 r1.2.1 r1.2.2.2.2.1 r1.2.2.2.2.2.1 r1.2.2.2.2.2.2.1 r1.2.2.2.2.2.2.2.2.1 r1.2.2.2.2.2.2.2.2.2.1) none λr3=>some ((r1.1.1,(r1.1.2.1,(r1.1.2.2.1,(r1.1.2.2.2.1,(r2.1,(r1.1.2.2.2.2.2.2.1,(r1.1.2.2.2.2.2.2.2.1,(r1.1.2.2.2.2.2.2.2.2.1,())))))))),(r3.2.1.1,(r1.2.2.1,(r1.2.2.2.1,(r3.2.1.2.1,(r3.2.1.2.2.1,(r3.2.1.2.2.2.1,(r1.2.2.2.2.2.2.2.1,r3.2.1.2.2.2.2))))))))) else (bif ieq r1.1.2.2.1 8206 then (Q0 (cK43 r1.1.2.2.2.2.2.1 7 r1.2.1 r1.2.2.2.2.1 r1.2.2.2.2.2.1 r1.2.2.2.2.2.2.1 r1.2.2.2.2.2.2.2.2.1 r1.2.2.2.2.2.2.2.2.2.1) none λr4=>some ((r1.1.1,(r1.1.2.1,(r1.1.2.2.1,(r1.1.2.2.2.1,(r2.1,(r1.1.2.2.2.2.2.2.1,(r1.1.2.2.2.2.2.2.2.1,(r1.1.2.2.2.2.2.2.2.2.1,())))))))),(r4.2.1.1,(r1.2.2.1,(r1.2.2.2.1,(r4.2.1.2.1,(r4.2.1.2.2.1,(r4.2.1.2.2.2.1,(r1.2.2.2.2.2.2.2.1,r4.2.1.2.2.2.2))))))))) else some ((r1.1.1,(r1.1.2.1,(r1.1.2.2.1,(r1.1.2.2.2.1,(r2.1,(r1.1.2.2.2.2.2.2.1,(r1.1.2.2.2.2.2.2.2.1,(r1.1.2.2.2.2.2.2.2.2.1,())))))))),r1.2)))) else some ((r1.1.1,(r1.1.2.1,(r1.1.2.2.1,(r1.1.2.2.2.1,(r1.1.2.2.2.2.1,(r1.1.2.2.2.2.2.2.1,(r1.1.2.2.2.2.2.2.2.1,(r1.1.2.2.2.2.2.2.2.2.1,())))))))),r1.2))) none λr5=>some (.inl ((r5.1.1,(r5.1.2.1,(r5.1.2.2.1,(r5.1.2.2.2.1,(r5.1.2.2.2.2.1,(r5.1.2.2.2.2.2.1,(r5.1.2.2.2.2.2.2.1,(Q4 .i64 r5.1.2.2.2.2.2.2.2.1 1,())))))))),r5.2)))) else none) else some (.inr ((a.1.2.2.2.2.1,()),(a.2.1,a.2.2.2))))
def K31.F1:K31.l1T:=λa=>Z8 (1000000+(a.1.2.2.2.1.size+a.1.2.2.2.2.2.1.length)) (K31.Q2A Q1f Q2L K16 Q1j K34 Q3d K32 K20 K43 K23) a
def K31.QO (cK179:Q1f.T) (cK183:Q2L.T) (cK16:K16.T) (cK140:Q1j.T) (cK34:K34.T) (cK109:Q3d.T) (cK32:K32.T) (cK20:K20.T) (cK43:K43.T) (cK23:K23.T) (a:(Int×(List (Qi))×Int×Int×ByteArray×Int×Unit)×(Q1×Q9×Q9×Q5m)):Option (((Int×(List (Qi))×Int×Int×ByteArray×Int×Unit)×(Q1×Q9×Q9×Q5m))⊕(((Int×Int×Int×ByteArray×Unit)×(Q1×Q9×Q5m)))):=
 (bif ile a.1.2.2.2.2.2.1 a.2.1.Qo.Qv then (Q0 ((bif ine a.1.2.2.2.2.2.1 a.1.1 then (Q0 (cK16 a.1.2.2.2.2.2.1 a.2.1) none λr0=>(Q0 (cK140 r0.1.1) none λr1=>some r1.1)) else some (false,()))) none λr2=>(Q0 ((bif r2.1 then (Q0 (cK34 a.1.2.2.2.2.2.1 a.2.2.2.1 a.1.2.1 false a.2.1) none λr3=>some (a.1,(r3.2.1.1,a.2.2))) else some a)) none λr4=>some (.inl ((r4.1.1,(r4.1.2.1,(r4.1.2.2.1,(r4.1.2.2.2.1,(r4.1.2.2.2.2.1,(Q4 .i64 r4.1.2.2.2.2.2.1 1,())))))),r4.2)))) else some (.inr ((a.1.1,(a.1.2.2.1,(a.1.2.2.2.1,(a.1.2.2.2.2.1,())))),(a.2.1,(a.2.2.1,a.2.2.2.2)))))
def K31.F0:K31.l0T:=λa=>Z8 (1000000+(a.1.2.1.length+a.1.2.2.2.2.1.size)) (K31.QO Q1f Q2L K16 Q1j K34 Q3d K32 K20 K43 K23) a
def K31.gen (cK179:Q1f.T) (cK183:Q2L.T) (cK16:K16.T) (cK140:Q1j.T) (cK34:K34.T) (cK109:Q3d.T) (cK32:K32.T) (cK20:K20.T) (cK43:K43.T) (cK23:K23.T) (l0:K31.l0T) (l1:K31.l1T):K31.T:=λi m l now h0 g1 g2 g3 g4 g5 g6 g7=>
 (Q0 ((Q0 (cK179 l 1) none λr0=>some ((i,(l,(now,()))),(h0,(m,(r0.1.1,(g1,(g2,(g3,(g4,(g5,(g6,(g7,()))))))))))))) none λr1=>(Q0 (cK183 r1.2.2.2.1) none λr2=>(bif !r2.1.2.2.1 then some ((),((r1.2.1,r1.2.2.2.2),())) else (Q0 ((bif ine r1.2.2.1.Q2i.QF r1.2.1.Qo.QF then some (ilt 0 r1.2.2.1.Q4X,()) else some (false,()))) none λr3=>(Q0 ((bif r3.1 then (Q0 (l0 ((r1.1.1,r1.1.2.1,r1.1.2.2.1,r2.1.1,r2.1.2.1,(1:Int),()),r1.2.1,r1.2.2.1,Q9.Q7i r1.2.2.1 (Q1K .i64 r1.2.2.1.Q4X 1),r1.2.2.2.2)) none λr4=>some r4) else some ((r1.1.1,(r1.1.2.2.1,(r2.1.1,(r2.1.2.1,())))),(r1.2.1,(r1.2.2.1,r1.2.2.2.2))))) none λr5=>(Q0 ((bif ine r5.2.2.1.Q3E 0 then (bif ine r5.2.2.1.Q3E 1 then some (ine r5.2.2.1.Q3E 3,()) else some (false,())) else some (false,()))) none λr6=>(bif r6.1 then some ((),((r5.2.1,r5.2.2.2),())) else (Q0 (cK109 r5.1.2.2.1) none λr7=>(Q0 (cK32 r5.1.1 r5.2.2.1.Q2i r7.1.1 r5.2.1) none λr8=>(Q0 (l1 ((r5.1.1,r5.1.2.1,r5.1.2.2.1,r5.1.2.2.2.1,false,r8.1.1,ofN (List.length r8.1.1),(0:Int),()),r5.2)) none λr9=>(bif r9.1.1 then (Q0 (cK23 r9.2.1.Qo r9.2.1 r9.2.2.1 r9.2.2.2.1 r9.2.2.2.2.1 r9.2.2.2.2.2.1 r9.2.2.2.2.2.2.1 r9.2.2.2.2.2.2.2.1 r9.2.2.2.2.2.2.2.2.1) none λr10=>some ((),r10.2)) else some ((),(r9.2,())))))))))))))
def K31:K31.T:=K31.gen Q1f Q2L K16 Q1j K34 Q3d K32 K20 K43 K23 K31.F0 K31.F1
theorem K31.seq1 (cK179:Q1f.T) (cK183:Q2L.T) (cK16:K16.T) (cK140:Q1j.T) (cK34:K34.T) (cK109:Q3d.T) (cK32:K32.T) (cK20:K20.T) (cK43:K43.T) (cK23:K23.T) (l0:K31.l0T) (l1:K31.l1T) (a:K31.L1.T):run Tryz.prog (K31.H cK179 cK183 cK16 cK140 cK34 cK109 cK32 cK20 cK43 cK23 l0 l1) 6 (Option (K31.L1.T⊕ExT K31.X1)) none K31.B1 (K31.L1.enc a) (Zi (0,9) K31.L1 K31.X1)=K31.Q2A cK179 cK183 cK16 cK140 cK34 cK109 cK32 cK20 cK43 cK23 a:=by kernel_rfl
abbrev K31.h:=K31.H Q1f Q2L K16 Q1j K34 Q3d K32 K20 K43 K23 K31.F0 K31.F1
theorem K31.Q5h:LO_ K31.h K31.B1 (Z9 (0,9) K31.L1 K31.X1 K31.F1):=lk_ (hn_ (Z0 (Z0 (Z0 (Z0 (Z0 (Z0 (Z0 (Z0 (Z0 (Z0 Z2 Q1f.ok) Q2L.ok) K16.ok) Q1j.ok) K34.ok) Q3d.ok) K32.ok) K20.ok) K43.ok) K23.ok)) (K31.seq1 Q1f Q2L K16 Q1j K34 Q3d K32 K20 K43 K23 K31.F0 K31.F1)
theorem K31.Q24 (cK179:Q1f.T) (cK183:Q2L.T) (cK16:K16.T) (cK140:Q1j.T) (cK34:K34.T) (cK109:Q3d.T) (cK32:K32.T) (cK20:K20.T) (cK43:K43.T) (cK23:K23.T) (l0:K31.l0T) (l1:K31.l1T) (a:K31.L0.T):run Tryz.prog (K31.H cK179 cK183 cK16 cK140 cK34 cK109 cK32 cK20 cK43 cK23 l0 l1) 6 (Option (K31.L0.T⊕ExT K31.X0)) none K31.B0 (K31.L0.enc a) (Zi (0,9) K31.L0 K31.X0)=K31.QO cK179 cK183 cK16 cK140 cK34 cK109 cK32 cK20 cK43 cK23 a:=by kernel_rfl
theorem K31.Q1V:LO_ K31.h K31.B0 (Z9 (0,9) K31.L0 K31.X0 K31.F0):=lk_ (hn_ (Z0 (Z0 (Z0 (Z0 (Z0 (Z0 (Z0 (Z0 (Z0 (Z0 Z2 Q1f.ok) Q2L.ok) K16.ok) Q1j.ok) K34.ok) Q3d.ok) K32.ok) K20.ok) K43.ok) K23.ok)) (K31.Q24 Q1f Q2L K16 Q1j K34 Q3d K32 K20 K43 K23 K31.F0 K31.F1)
theorem K31.eq (cK179:Q1f.T) (cK183:Q2L.T) (cK16:K16.T) (cK140:Q1j.T) (cK34:K34.T) (cK109:Q3d.T) (cK32:K32.T) (cK20:K20.T) (cK43:K43.T) (cK23:K23.T) (l0:K31.l0T) (l1:K31.l1T):EqA K31.sig (K31.H cK179 cK183 cK16 cK140 cK34 cK109 cK32 cK20 cK43 cK23 l0 l1) Tryz.f62 6 (K31.W (K31.gen cK179 cK183 cK16 cK140 cK34 cK109 cK32 cK20 cK43 cK23 l0 l1)):=by intro a x;kernel_rfl
theorem K31.loops:Z3 K31.C= [(.loop K31.B0),(.loop K31.B1)]:=by kernel_rfl
theorem K31.ok:NK_ 62 K31.sig (K31.W K31):=ok_ Tryz.func62 (K31.eq Q1f Q2L K16 Q1j K34 Q3d K32 K20 K43 K23 K31.F0 K31.F1) (hl_ (Z0 (Z0 (Z0 (Z0 (Z0 (Z0 (Z0 (Z0 (Z0 (Z0 Z2 Q1f.ok) Q2L.ok) K16.ok) Q1j.ok) K34.ok) Q3d.ok) K32.ok) K20.ok) K43.ok) K23.ok) (Z7 (by kernel_rfl) K31.Q1V (Z7 (by kernel_rfl) K31.Q5h Z5))) K31.loops
def K29.sig:Sig U:=⟨[.ptr,.int .i64,.str,.int .i64],[.obj .Q7,Q5Z,Q58,Q51,Q5o,Q5S,Q5y,.fam 7 (.map true false .Qw .Q1R)],0,[],true,[]⟩
abbrev K29.T:Type:=(Int)->(ByteArray)->(Int)->(Q1)->(Fm Qp)->(Fm Qb)->(Fm Qg)->(Fm Qc)->(Fm Qh)->(Fm QB)->(Nat×(Nat->List (Qf×List (Int))))->Option (Unit×(Q1×Q5m)×Unit)
def K29.W (f:K29.T):K29.sig.F:=λa x=>f a.2.1 a.2.2.1 a.2.2.2.1 x.1 x.2.1 x.2.2.1 x.2.2.2.1 x.2.2.2.2.1 x.2.2.2.2.2.1 x.2.2.2.2.2.2.1 x.2.2.2.2.2.2.2.1
def K29.C:Code:=match Tryz.f27.body with|some c=>c|none=>.skip
def K29.B0:Code:=match (Z3 K29.C).getD 0 .skip with| .loop b=>b| .scope b=>b|_=>.skip
def K29.JR14:Qm U:= [(.normal,⟨177,10,[(0,.ptr 8 0 0),(1,vi_),(12,.ptr 9 0 0),(13,vb_)],(8,.obj .Q7)::(9,.obj .Ql)::Q4M⟩)]
def K29.JR1:Qm U:= [(.normal,⟨177,10,[(0,.ptr 8 0 0),(1,vi_),(3,vi_),(9,.ptr 9 0 0),(10,.val (.isl .QX)),(11,vi_)],(8,.obj .Q7)::(9,.obj .Ql)::Q4M⟩)]
def K29.JC21:Qm U:= [(.normal,⟨177,10,[(0,.ptr 8 0 0),(1,vi_),(3,vi_),(9,.ptr 9 0 0),(10,.val (.isl .QX)),(53,vi_),(148,vb_)],(8,.obj .Q7)::(9,.obj .Ql)::Q4M⟩)]
def K29.JC9:Qm U:= [(.normal,⟨177,10,[(0,.ptr 8 0 0),(1,vi_),(3,vi_),(8,.Q1h 8 23 42 8 0),(9,.ptr 9 0 0),(10,.val (.isl .QX)),(53,vi_),(62,vb_)],(8,.obj .Q7)::(9,.obj .Ql)::Q4M⟩)]
def K29.JC7:Qm U:= [(.normal,⟨177,9,[],(8,.obj .Q7)::Q4M⟩),
 (.goto 0,⟨177,9,[(0,.ptr 8 0 0)],(8,.obj .Q7)::Q4M⟩)]
def K29.H (cK78:K78.T) (cK33:K33.T) (cK40:K40.T) (cK140:Q1j.T) (cK30:K30.T) (cK142:Q1T.T) (cK27:K27.T) (cK38:K38.T) (cK63:K63.T) (cK34:K34.T) (cK21:K21.T) (cK24:K24.T) (cK31:K31.T):Hints U:={ Γ:=(Qk 62 (K31.sig.native (K31.W cK31)) (Qk 61 (K24.sig.native (K24.W cK24)) (Qk 60 (K21.sig.native (K21.W cK21)) (K34.N cK34 (Qk 58 (K63.sig.native (K63.W cK63)) (K38.N cK38 (Qk 57 (K27.sig.native (K27.W cK27)) (Q1T.N cK142 (Qk 55 (K30.sig.native (K30.W cK30)) (Q1j.N cK140 (K40.N cK40 (K33.N cK33 (Qk 53 (K78.sig.native (K78.W cK78)) noΓ))))))))))))),ro:=0,base:=9,Q1J:=jt_ [(2,[(42,vb_)]),(10,[(79,vb_)]),(13,[(99,vb_)]),(18,[(143,vb_)])],Q2B:=jt_ [(1,K29.JR1),(14,K29.JR14)],Q27:=jt_ [(7,K29.JC7),(9,K29.JC9),(21,K29.JC21)],gotos:=3,loop:=λb=>none}
def K29.gen (cK78:K78.T) (cK33:K33.T) (cK40:K40.T) (cK140:Q1j.T) (cK30:K30.T) (cK142:Q1T.T) (cK27:K27.T) (cK38:K38.T) (cK63:K63.T) (cK34:K34.T) (cK21:K21.T) (cK24:K24.T) (cK31:K31.T):K29.T:=λn b now h0 g1 g2 g3 g4 g5 g6 g7=>
 (Q0 ((Q0 (cK78 b h0.Qo.Q1v) none λr0=>some ((n,(now,r0.1.2)),(h0,(r0.1.1,(g1,(g2,(g3,(g4,(g5,(g6,(g7,())))))))))))) none λr1=>(Q0 ((Q0 (cK33 r1.1.1 r1.2.1) none λr2=>(bif r2.1.1 then some (true,()) else (bif ine r1.1.2.2.2.1 0 then some (true,()) else some (ieq r1.2.2.1.Q1G.QF r1.2.1.Qo.QF,()))))) none λr3=>(bif r3.1 then some ((),((Q1.Q4b r1.2.1 (Q4 .i64 r1.2.1.Q2h 1),r1.2.2.2),())) else (Q0 (cK40 r1.1.1 r1.2.1) none λr4=>(Q0 (cK140 (r1.2.1.Qe r4.1.1).Q1u) none λr5=>(bif !r5.1.1 then some ((),((Q1.Q4b r1.2.1 (Q4 .i64 r1.2.1.Q2h 1),r1.2.2.2),())) else (Q0 ((bif ieq r1.2.2.1.fType 11 then (Q0 (cK30 r4.1.1 r1.2.2.1 r1.1.2.2.1 r1.2.1 r1.2.2.2.2.1 r1.2.2.2.2.2.2.2.2.2.1) none λr6=>(bif !r6.1.1 then some (.inr ((),(r6.2.1.1,(r1.2.2.2.1,(r6.2.1.2.1,(r1.2.2.2.2.2.1,(r1.2.2.2.2.2.2.1,(r1.2.2.2.2.2.2.2.1,(r1.2.2.2.2.2.2.2.2.1,r6.2.1.2.2))))))))) else some (.inl ((),(r6.2.1.1,(r1.2.2.2.1,(r6.2.1.2.1,(r1.2.2.2.2.2.1,(r1.2.2.2.2.2.2.1,(r1.2.2.2.2.2.2.2.1,(r1.2.2.2.2.2.2.2.2.1,r6.2.1.2.2))))))))))) else (Q0 ((bif ieq r1.2.2.1.fType 0 then some ((r1.1.1,(r1.1.2.1,(r4.1.1,(r1.1.2.2.1,(r1.2.2.1.fType,(ieq r1.2.2.1.fType 0,())))))),r1.2) else some ((r1.1.1,(r1.1.2.1,(r4.1.1,(r1.1.2.2.1,(r1.2.2.1.fType,(ieq r1.2.2.1.fType 8,())))))),r1.2))) none λr7=>(bif r7.1.2.2.2.2.2.1 then (Q0 ((Q0 (cK142 (r7.2.1.Qe r7.1.2.2.1).Q1u) none λr8=>(bif r8.1.1 then some (bif ieq r7.2.2.1.Q1G.QF r7.2.1.Q2d.QW.QF then bif ieq r7.2.2.1.Q1G.QW r7.2.1.Q2d.QW.QW then true else false else false,()) else some (false,())))) none λr9=>(bif r9.1 then (Q0 (cK27 r7.1.2.2.1 r7.2.2.1 r7.1.2.1 r7.2.1 r7.2.2.2.1 r7.2.2.2.2.2.1 r7.2.2.2.2.2.2.1 r7.2.2.2.2.2.2.2.1 r7.2.2.2.2.2.2.2.2.1) none λr10=>some (.inl ((),(r10.2.1.1,(r10.2.1.2.1,(r7.2.2.2.2.1,(r10.2.1.2.2.1,(r10.2.1.2.2.2.1,(r10.2.1.2.2.2.2.1,(r10.2.1.2.2.2.2.2.1,r7.2.2.2.2.2.2.2.2.2)))))))))) else some (.inl ((),(r7.2.1,r7.2.2.2))))) else (bif ieq r7.1.2.2.2.2.1 1 then (Q0 ((bif ieq (r7.2.1.Qe r7.1.2.2.1).Q1u 6 then some (!r7.2.1.Qo.Q4g,()) else some (false,()))) none λr11=>(bif r11.1 then (Q0 ((Q0 (cK38 r7.1.1 r7.2.1) none λr12=>(Q0 (cK63 r7.2.2.1 r12.1.1 r7.1.2.1 r7.2.1.Qo.Q2E) none λr13=>some ((r7.1.1,r13.1.2),(r7.2.1,(r13.1.1,r7.2.2.2)))))) none λr14=>(bif r14.1.2.1 then (Q0 (cK34 r14.1.1 r14.2.2.1 (Qn Qi) false r14.2.1) none λr15=>some (.inl ((),(r15.2.1.1,r14.2.2.2)))) else some (.inl ((),(r14.2.1,r14.2.2.2))))) else some (.inl ((),(r7.2.1,r7.2.2.2))))) else (bif ieq r7.1.2.2.2.2.1 9 then (Q0 ((Q0 (cK142 (r7.2.1.Qe r7.1.2.2.1).Q1u) none λr16=>(bif r16.1.1 then (bif !r7.2.1.Qo.Q4g then some (bif ieq r7.2.2.1.Q1G.QF r7.2.1.Q2d.QW.QF then bif ieq r7.2.2.1.Q1G.QW r7.2.1.Q2d.QW.QW then true else false else false,()) else some (false,())) else some (false,())))) none λr17=>(bif r17.1 then (Q0 (cK21 r7.1.2.2.1 r7.2.2.1 r7.2.1 r7.2.2.2.2.2.1 r7.2.2.2.2.2.2.2.1) none λr18=>some (.inl ((),(r18.2.1.1,(r7.2.2.2.1,(r7.2.2.2.2.1,(r18.2.1.2.1,(r7.2.2.2.2.2.2.1,(r18.2.1.2.2.1,r7.2.2.2.2.2.2.2.2))))))))) else some (.inl ((),(r7.2.1,r7.2.2.2))))) else (Q0 ((bif ieq r7.1.2.2.2.2.1 2 then some ((r7.1.1,(r7.1.2.1,(r7.1.2.2.2.1,(r7.1.2.2.2.2.1,(ieq r7.1.2.2.2.2.1 2,()))))),r7.2) else (bif ieq r7.1.2.2.2.2.1 3 then some ((r7.1.1,(r7.1.2.1,(r7.1.2.2.2.1,(r7.1.2.2.2.2.1,(ieq r7.1.2.2.2.2.1 3,()))))),r7.2) else some ((r7.1.1,(r7.1.2.1,(r7.1.2.2.2.1,(r7.1.2.2.2.2.1,(ieq r7.1.2.2.2.2.1 10,()))))),r7.2)))) none λr19=>(bif r19.1.2.2.2.2.1 then (bif r19.2.1.Qo.Q4g then (Q0 (cK24 r19.1.1 r19.2.2.1 r19.1.2.1 r19.2.1 r19.2.2.2.2.2.2.1) none λr20=>some (.inl ((),(r20.2.1.1,(r19.2.2.2.1,(r19.2.2.2.2.1,(r19.2.2.2.2.2.1,(r20.2.1.2.1,r19.2.2.2.2.2.2.2)))))))) else some (.inl ((),(r19.2.1,r19.2.2.2)))) else (bif ieq r19.1.2.2.2.1 13 then (Q0 (cK31 r19.1.1 r19.2.2.1 r19.1.2.2.1 r19.1.2.1 r19.2.1 r19.2.2.2.1 r19.2.2.2.2.1 r19.2.2.2.2.2.1 r19.2.2.2.2.2.2.1 r19.2.2.2.2.2.2.2.1 r19.2.2.2.2.2.2.2.2.1 r19.2.2.2.2.2.2.2.2.2.1) none λr21=>some (.inl ((),r21.2.1))) else some (.inl ((),(r19.2.1,r19.2.2.2)))))))))))) none λr22=>(Q3S r22 (λr23=>some ((),(r23.2,()))) (λr23=>some ((),((Q1.Q4b r23.2.1 (Q4 .i64 r23.2.1.Q2h 1),r23.2.2),())))))))))))
def K29:K29.T:=K29.gen K78 K33 K40 Q1j K30 Q1T K27 K38 K63 K34 K21 K24 K31
theorem K29.eq (cK78:K78.T) (cK33:K33.T) (cK40:K40.T) (cK140:Q1j.T) (cK30:K30.T) (cK142:Q1T.T) (cK27:K27.T) (cK38:K38.T) (cK63:K63.T) (cK34:K34.T) (cK21:K21.T) (cK24:K24.T) (cK31:K31.T):EqA K29.sig (K29.H cK78 cK33 cK40 cK140 cK30 cK142 cK27 cK38 cK63 cK34 cK21 cK24 cK31) Tryz.f27 6 (K29.W (K29.gen cK78 cK33 cK40 cK140 cK30 cK142 cK27 cK38 cK63 cK34 cK21 cK24 cK31)):=by intro a x;kernel_rfl
theorem K29.loops:Z3 K29.C= [(.scope K29.B0)]:=by kernel_rfl
theorem K29.ok:NK_ 27 K29.sig (K29.W K29):=ok_ Tryz.func27 (K29.eq K78 K33 K40 Q1j K30 Q1T K27 K38 K63 K34 K21 K24 K31) (hl_ (Z0 (Z0 (Z0 (Z0 (Z0 (Z0 (Z0 (Z0 (Z0 (Z0 (Z0 (Z0 (Z0 Z2 K78.ok) K33.ok) K40.ok) Q1j.ok) K30.ok) Q1T.ok) K27.ok) K38.ok) K63.ok) K34.ok) K21.ok) K24.ok) K31.ok) (Zt Z5)) K29.loops
def K67.sig:Sig U:=⟨[.ptr,.int .i64,.int .i64],[.obj .Q14],0,[.bool],false,[]⟩
abbrev K67.T:Type:=(Int)->(Int)->(Qg)->Option ((Bool×Unit)×(Qg×Unit)×Unit)
def K67.W (f:K67.T):K67.sig.F:=λa x=>f a.2.1 a.2.2.1 x.1
def K67.H:Hints U:={ Γ:=noΓ,ro:=0,base:=9}
def K67.gen:K67.T:=λseq at_2 h0=>
 (bif !bif ieq h0.fr.Q60 seq then bif ieq h0.fr.fat 0 then bif h0.fr.Q8G==true then bif h0.fr.Q6D==false then true else false else false else false else false then some ((false,()),((h0,()),())) else some ((true,()),((Qg.Qa2 h0 (Q12.Q87 (Q12.Q9y h0.fr at_2) true),()),())))
def K67:K67.T:=K67.gen
theorem K67.ok:NK_ 63 K67.sig (K67.W K67):=ok_ (H:=K67.H) (n:=6) Tryz.func63 (by intro a x;kernel_rfl) (hn_ Z2)
def Q4s.sig:Sig U:=⟨[.ptr,.int .i64,.int .i64],[.obj .Q15],0,[.bool],false,[]⟩
abbrev Q4s.T:Type:=(Int)->(Int)->(Qc)->Option ((Bool×Unit)×(Qc×Unit)×Unit)
def Q4s.W (f:Q4s.T):Q4s.sig.F:=λa x=>f a.2.1 a.2.2.1 x.1
def Q4s.H:Hints U:={ Γ:=noΓ,ro:=0,base:=9,Q1J:=jt_ [(1,[(25,vb_)])]}
def Q4s.gen:Q4s.T:=λseq at_2 h0=>
 (Q0 ((bif !h0.Q8G then some (true,()) else (bif h0.Q6D then some (true,()) else some (ine seq h0.Q60,())))) none λr0=>(bif r0.1 then some ((false,()),((h0,()),())) else some ((true,()),((Qc.Q87 (Qc.Q9y h0 at_2) true,()),()))))
def Q4s:Q4s.T:=Q4s.gen
theorem Q4s.ok:NK_ 64 Q4s.sig (Q4s.W Q4s):=ok_ (H:=Q4s.H) (n:=6) Tryz.func64 (by intro a x;kernel_rfl) (hn_ Z2)
def Q41.sig:Sig U:=⟨[.data .Ql,.data .Qw,.int .i64],[],0,[.data .Ql,.bool],true,[]⟩
abbrev Q41.T:Type:=(Q9)->(Qf)->(Int)->Option ((Q9×Bool×Unit)×Unit×Unit)
def Q41.W (f:Q41.T):Q41.sig.F:=λa x=>f a.1 a.2.1 a.2.2.1
def Q41.H (cK169:Q1O.T):Hints U:={ Γ:=(Q1O.N cK169 noΓ),ro:=0,base:=8,Q1J:=jt_ [(1,[(15,vb_)])]}
def Q41.gen (cK169:Q1O.T):Q41.T:=λm self at_2=>
 (Q0 ((bif ine m.fType 2 then some (true,()) else (Q0 (cK169 at_2) none λr0=>some (!r0.1.1,())))) none λr1=>(bif r1.1 then some ((Q9.mk 0 0 0 0 z0_ 0 0 0 z0_ 0 0 z1_ 0 0 0 0 0 0 0,(false,())),((),())) else some ((Q9.mk 10 m.Q1v 0 0 self m.Q36 127 at_2 m.Q1G 0 0 z1_ 0 0 0 0 0 0 0,(true,())),((),()))))
def Q41:Q41.T:=Q41.gen Q1O
theorem Q41.eq (cK169:Q1O.T):EqA Q41.sig (Q41.H cK169) Tryz.f65 6 (Q41.W (Q41.gen cK169)):=by intro a x;kernel_rfl
theorem Q41.ok:NK_ 65 Q41.sig (Q41.W Q41):=ok_ Tryz.func65 (Q41.eq Q1O) (hn_ (Z0 Z2 Q1O.ok))
def K39.sig:Sig U:=⟨[.ptr,.int .i64,.int .i64,.int .i64,.int .i64],[.obj .Q7,Q51,Q5o],0,[],true,[]⟩
abbrev K39.T:Type:=(Int)->(Int)->(Int)->(Int)->(Q1)->(Fm Qg)->(Fm Qc)->Option (Unit×(Q1×(Fm Qg)×(Fm Qc)×Unit)×Unit)
def K39.W (f:K39.T):K39.sig.F:=λa x=>f a.2.1 a.2.2.1 a.2.2.2.1 a.2.2.2.2.1 x.1 x.2.1 x.2.2.1
def K39.Q7P:Qm U:= [(.normal,⟨100,10,[(0,.ptr 8 0 0),(1,vi_),(11,.ptr 9 0 0)],[(8,.obj .Q7),(9,.obj .Ql),(3,.Q1P false .Q14),(4,.Q1P false .Q15)]⟩)]
def K39.H (cK40:K40.T) (cK38:K38.T) (cK34:K34.T) (cK67:K67.T) (cK136:Q4s.T) (cK138:Q41.T):Hints U:={ Γ:=(Qk 65 (Q41.sig.native (Q41.W cK138)) (Qk 64 (Q4s.sig.native (Q4s.W cK136)) (Qk 63 (K67.sig.native (K67.W cK67)) (K34.N cK34 (K38.N cK38 (K40.N cK40 noΓ)))))),ro:=0,base:=9,Q1J:=jt_ [(3,[(31,vb_)]),(10,[(83,vb_)])],Q2B:=jt_ [(11,K39.Q7P)]}
def K39.gen (cK40:K40.T) (cK38:K38.T) (cK34:K34.T) (cK67:K67.T) (cK136:Q4s.T) (cK138:Q41.T):K39.T:=λn typ seq now h0 g3 g4=>
 (Q0 (cK40 n h0) none λr0=>(bif ieq typ 0 then (Q0 ((bif ieq (h0.Qe r0.1.1).Q1u 6 then some (!h0.Qo.Q4C,()) else some (false,()))) none λr1=>(bif r1.1 then (Q0 (cK38 n h0) none λr2=>(Q0 (cK34 n (Q9.mk 8 h0.Qo.Q1v 0 0 r2.1.1 seq h0.Qo.Q2G now z0_ 0 0 z1_ 0 0 0 0 0 0 0) (Qn Qi) false h0) none λr3=>some ((),((r3.2.1.1,(g3,(g4,()))),())))) else some ((),((h0,(g3,(g4,()))),())))) else (bif ieq typ 1 then (Q0 ((h0.Qe r0.1.1).13) none λr4=>(Q0 (cK67 seq now (g3.2 r4)) none λr5=>some ((),((h0,((g3.1,Qr g3.2 r4 r5.2.1.1),(g4,()))),())))) else (bif ieq typ 2 then (Q0 ((h0.Qe r0.1.1).14) none λr6=>(Q0 (cK136 seq now (g4.2 r6)) none λr7=>some ((),((h0,(g3,((g4.1,Qr g4.2 r6 r7.2.1.1),()))),())))) else (bif ieq typ 3 then (Q0 ((bif (h0.Qe r0.1.1).Q4Z then some (ieq (h0.Qe r0.1.1).Q2C.Q36 seq,()) else some (false,()))) none λr8=>(bif r8.1 then (Q0 ((Q0 (cK38 n h0) none λr9=>(Q0 (cK138 (h0.Qe r0.1.1).Q2C r9.1.1 now) none λr10=>some ((n,()),(h0,(r10.1.1,(g3,(g4,())))))))) none λr11=>(Q0 (cK34 r11.1.1 r11.2.2.1 (Qn Qi) false r11.2.1) none λr12=>some ((),((r12.2.1.1,r11.2.2.2),())))) else some ((),((h0,(g3,(g4,()))),())))) else some ((),((h0,(g3,(g4,()))),())))))))
def K39:K39.T:=K39.gen K40 K38 K34 K67 Q4s Q41
theorem K39.eq (cK40:K40.T) (cK38:K38.T) (cK34:K34.T) (cK67:K67.T) (cK136:Q4s.T) (cK138:Q41.T):EqA K39.sig (K39.H cK40 cK38 cK34 cK67 cK136 cK138) Tryz.f29 6 (K39.W (K39.gen cK40 cK38 cK34 cK67 cK136 cK138)):=by intro a x;kernel_rfl
theorem K39.ok:NK_ 29 K39.sig (K39.W K39):=ok_ Tryz.func29 (K39.eq K40 K38 K34 K67 Q4s Q41) (hn_ (Z0 (Z0 (Z0 (Z0 (Z0 (Z0 Z2 K40.ok) K38.ok) K34.ok) K67.ok) Q4s.ok) Q41.ok))
def K17.sig:Sig U:=⟨[.ptr,.data .Q2p],[.obj .Q7,Q5Z,Q58,Q51,Q5o,Q5S,Q5y,.fam 7 (.map true false .Qw .Q1R)],0,[.isl .Q3x],false,[]⟩
abbrev K17.T:Type:=(Qz)->(Q1)->(Fm Qp)->(Fm Qb)->(Fm Qg)->(Fm Qc)->(Fm Qh)->(Fm QB)->(Nat×(Nat->List (Qf×List (Int))))->Option (((List (QJ))×Unit)×(Q1×Q5m)×Unit)
def K17.W (f:K17.T):K17.sig.F:=λa x=>f a.2.1 x.1 x.2.1 x.2.2.1 x.2.2.2.1 x.2.2.2.2.1 x.2.2.2.2.2.1 x.2.2.2.2.2.2.1 x.2.2.2.2.2.2.2.1
abbrev K17.N (c:K17.T):=Qk 10 (K17.sig.native (K17.W c))
def K17.Q5X:Qm U:= [(.normal,⟨107,9,[(0,.ptr 8 0 0)],(8,.obj .Q7)::Q4M⟩)]
def K17.Q9w:Qm U:= [(.normal,⟨107,10,[(0,.ptr 8 0 0),(3,.ptr 9 0 0)],(8,.obj .Q7)::(9,.obj .Q2p)::Q4M⟩)]
def K17.H (cK42:K42.T) (cK29:K29.T) (cK33:K33.T) (cK39:K39.T) (cK59:K59.T) (cK23:K23.T) (cK43:K43.T):Hints U:={ Γ:=(Qk 30 (K43.sig.native (K43.W cK43)) (K23.N cK23 (K59.N cK59 (Qk 29 (K39.sig.native (K39.W cK39)) (K33.N cK33 (Qk 27 (K29.sig.native (K29.W cK29)) (Qk 26 (K42.sig.native (K42.W cK42)) noΓ))))))),ro:=0,base:=9,Q1J:=jt_ [(16,[(83,vb_)])],Q2B:=jt_ [(1,K17.Q9w),(11,K17.Q5X),(12,K17.Q5X),(15,K17.Q9w),(17,K17.Q5X),(18,K17.Q5X),(19,K17.Q5X),(20,K17.Q5X)],Q27:=jt_ [(14,K17.Q5X)]}
def K17.gen (cK42:K42.T) (cK29:K29.T) (cK33:K33.T) (cK39:K39.T) (cK59:K59.T) (cK23:K23.T) (cK43:K43.T):K17.T:=λe h0 g1 g2 g3 g4 g5 g6 g7=>
 (bif ieq e.Q5j 1 then (Q0 ((Q0 (cK42 (Z4 true 0 (Z4 false e.Q6O 4000000000000000)) (Q1.Q13 h0 (Qn QJ)) g2 g3 g4 g5 g6 g7) none λr0=>some ((),(r0.2.1.1,(g1,r0.2.1.2))))) none λr1=>some ((r1.2.1.Q2j,()),(r1.2,()))) else (bif ieq e.Q5j 2 then (Q0 ((Q0 (cK29 e.QW e.Q3h (Z4 true 0 (Z4 false e.Q6O 4000000000000000)) (Q1.Q13 h0 (Qn QJ)) g1 g2 g3 g4 g5 g6 g7) none λr2=>some ((),r2.2.1))) none λr3=>some ((r3.2.1.Q2j,()),(r3.2,()))) else (bif ieq e.Q5j 3 then (Q0 (cK33 e.QW (Q1.Q13 h0 (Qn QJ))) none λr4=>(Q0 ((bif !r4.1.1 then (Q0 (cK39 e.QW e.fType e.Q36 (Z4 true 0 (Z4 false e.Q6O 4000000000000000)) (Q1.Q13 h0 (Qn QJ)) g3 g4) none λr5=>some ((),(r5.2.1.1,(g1,(g2,(r5.2.1.2.1,(r5.2.1.2.2.1,(g5,(g6,(g7,())))))))))) else some ((),(Q1.Q13 h0 (Qn QJ),(g1,(g2,(g3,(g4,(g5,(g6,(g7,()))))))))))) none λr6=>some ((r6.2.1.Q2j,()),(r6.2,())))) else (bif ieq e.Q5j 4 then (Q0 ((Q0 (cK59 h0.Qo) none λr7=>(bif ine r7.1.1 0 then some (true,()) else (bif ine h0.Qo.QF h0.Qo.QF then some (true,()) else some (ine h0.Qo.Qv h0.Qo.Qv,()))))) none λr8=>(bif r8.1 then some ((Qn QJ,()),((Q1.Q13 (Q1.Q4b h0 (Q4 .i64 h0.Q2h 1)) (Qn QJ),(g1,(g2,(g3,(g4,(g5,(g6,(g7,())))))))),())) else (Q0 ((Q0 (cK23 h0.Qo (Q1.Q13 h0 (Qn QJ)) g1 g2 g3 g4 g5 g6 g7) none λr9=>some ((),r9.2.1))) none λr10=>some ((r10.2.1.Q2j,()),(r10.2,()))))) else (bif ieq e.Q5j 5 then (Q0 ((Q0 (cK59 e.QS) none λr11=>(bif ine r11.1.1 0 then some (true,()) else (bif ine e.QS.QF h0.Qo.QF then some (true,()) else some (ine e.QS.Qv h0.Qo.Qv,()))))) none λr12=>(bif r12.1 then some ((Qn QJ,()),((Q1.Q13 (Q1.Q4b h0 (Q4 .i64 h0.Q2h 1)) (Qn QJ),(g1,(g2,(g3,(g4,(g5,(g6,(g7,())))))))),())) else (Q0 ((Q0 (cK23 e.QS (Q1.Q13 h0 (Qn QJ)) g1 g2 g3 g4 g5 g6 g7) none λr13=>some ((),r13.2.1))) none λr14=>some ((r14.2.1.Q2j,()),(r14.2,()))))) else (bif ieq e.Q5j 6 then (Q0 ((Q0 (cK43 e.QW 2 (Q1.Q13 h0 (Qn QJ)) g2 g3 g4 g6 g7) none λr15=>some ((),(r15.2.1.1,(g1,(r15.2.1.2.1,(r15.2.1.2.2.1,(r15.2.1.2.2.2.1,(g5,r15.2.1.2.2.2.2))))))))) none λr16=>some ((r16.2.1.Q2j,()),(r16.2,()))) else (bif ieq e.Q5j 7 then (Q0 ((Q0 (cK43 e.QW 3 (Q1.Q13 h0 (Qn QJ)) g2 g3 g4 g6 g7) none λr17=>some ((),(r17.2.1.1,(g1,(r17.2.1.2.1,(r17.2.1.2.2.1,(r17.2.1.2.2.2.1,(g5,r17.2.1.2.2.2.2))))))))) none λr18=>some ((r18.2.1.Q2j,()),(r18.2,()))) else some ((Qn QJ,()),((Q1.Q13 h0 (Qn QJ),(g1,(g2,(g3,(g4,(g5,(g6,(g7,())))))))),())))))))))
def K17:K17.T:=K17.gen K42 K29 K33 K39 K59 K23 K43
theorem K17.eq (cK42:K42.T) (cK29:K29.T) (cK33:K33.T) (cK39:K39.T) (cK59:K59.T) (cK23:K23.T) (cK43:K43.T):EqA K17.sig (K17.H cK42 cK29 cK33 cK39 cK59 cK23 cK43) Tryz.f10 6 (K17.W (K17.gen cK42 cK29 cK33 cK39 cK59 cK23 cK43)):=by intro a x;kernel_rfl
theorem K17.ok:NK_ 10 K17.sig (K17.W K17):=ok_ Tryz.func10 (K17.eq K42 K29 K33 K39 K59 K23 K43) (hn_ (Z0 (Z0 (Z0 (Z0 (Z0 (Z0 (Z0 Z2 K42.ok) K29.ok) K33.ok) K39.ok) K59.ok) K23.ok) K43.ok))
def K99.sig:Sig U:=⟨[.int .i64,.isl .int,.isl .Q1n,.int .i64],[Q8C,Q5Z,Q58,Q51,Q5o,Q5S,Q5y,.fam 7 (.map true false .Qw .Q1R)],0,[.ref 0],false,[]⟩
abbrev K99.T:Type:=(Int)->(List (Int))->(List (QD))->(Int)->(Fm Q1)->(Fm Qp)->(Fm Qb)->(Fm Qg)->(Fm Qc)->(Fm Qh)->(Fm QB)->(Nat×(Nat->List (Qf×List (Int))))->Option (((Option Nat)×Unit)×(Q2S)×Unit)
def K99.W (f:K99.T):K99.sig.F:=λa x=>f a.1 a.2.1 a.2.2.1 a.2.2.2.1 x.1 x.2.1 x.2.2.1 x.2.2.2.1 x.2.2.2.2.1 x.2.2.2.2.2.1 x.2.2.2.2.2.2.1 x.2.2.2.2.2.2.2.1
def K99.L0:Shape U:=⟨58,8,[(2,.val (.isl .Q1n)),(3,vi_),(9,.val (.ref 0)),(11,vi_)],Q5z⟩
def K99.X0:Qm U:= [(.exit 0,⟨58,8,[(9,.val (.ref 0))],Q5z⟩)]
abbrev K99.l0T:Type:=(((List (QD))×Int×(Option Nat)×Int×Unit)×(Q2S))->Option ((((Option Nat)×Unit)×(Q2S)))
def K99.L1:Shape U:=⟨58,8,[(2,.val (.isl .Q1n)),(3,vi_),(9,.val (.ref 0)),(11,vi_),(12,.val (.isl .Q2p)),(13,vi_)],Q5z⟩
def K99.X1:Qm U:= [(.exit 2,⟨58,8,[(2,.val (.isl .Q1n)),(3,vi_),(9,.val (.ref 0)),(11,vi_)],Q5z⟩)]
abbrev K99.l1T:Type:=(((List (QD))×Int×(Option Nat)×Int×(List (Qz))×Int×Unit)×(Q2S))->Option ((((List (QD))×Int×(Option Nat)×Int×Unit)×(Q2S)))
def K99.C:Code:=match Tryz.f4.body with|some c=>c|none=>.skip
def K99.B0:Code:=match (Z3 K99.C).getD 0 .skip with| .loop b=>b| .scope b=>b|_=>.skip
def K99.B1:Code:=match (Z3 K99.C).getD 1 .skip with| .loop b=>b| .scope b=>b|_=>.skip
def K99.H (cK91:K91.T) (cK44:K44.T) (cK100:Q1S.T) (cK98:K98.T) (cK17:K17.T) (l0:K99.l0T) (l1:K99.l1T):Hints U:={ Γ:=(K17.N cK17 (Qk 15 (K98.sig.native (K98.W cK98)) (Qk 14 (Q1S.sig.native (Q1S.W cK100)) (K44.N cK44 (Qk 6 (K91.sig.native (K91.W cK91)) noΓ))))),ro:=0,base:=8,Q1J:=jt_ [(5,[(31,vb_)])],loop:=jt_ [(5,(Z9 (0,8) K99.L0 K99.X0 l0)),(10,(Z9 (0,8) K99.L1 K99.X1 l1))]}
def K99.Q2A (cK91:K91.T) (cK44:K44.T) (cK100:Q1S.T) (cK98:K98.T) (cK17:K17.T) (a:((List (QD))×Int×(Option Nat)×Int×(List (Qz))×Int×Unit)×(Q2S)):Option ((((List (QD))×Int×(Option Nat)×Int×(List (Qz))×Int×Unit)×(Q2S))⊕((((List (QD))×Int×(Option Nat)×Int×Unit)×(Q2S)))):=
 (bif ilt a.1.2.2.2.2.2.1 (ofN (List.length a.1.2.2.2.2.1)) then (bif inR a.1.2.2.2.2.2.1 (List.length a.1.2.2.2.2.1) then (Q0 ((Q0 (a.1.2.2.1) none λr0=>(Q0 (cK17 (List.getD a.1.2.2.2.2.1 (Int.toNat a.1.2.2.2.2.2.1) Qz.zero) (a.2.1.2 r0) a.2.2.1 a.2.2.2.1 a.2.2.2.2.1 a.2.2.2.2.2.1 a.2.2.2.2.2.2.1 a.2.2.2.2.2.2.2.1 a.2.2.2.2.2.2.2.2.1) none λr1=>some (r0,r1)))) none λr2=>some (.inl ((a.1.1,(a.1.2.1,(a.1.2.2.1,(a.1.2.2.2.1,(a.1.2.2.2.2.1,(Q4 .i64 a.1.2.2.2.2.2.1 1,())))))),((a.2.1.1,Qr a.2.1.2 r2.1 r2.2.2.1.1),r2.2.2.1.2)))) else none) else some (.inr ((a.1.1,(a.1.2.1,(a.1.2.2.1,(a.1.2.2.2.1,())))),a.2)))
def K99.F1:K99.l1T:=λa=>Z8 (1000000+(a.1.1.length+a.1.2.2.2.2.1.length)) (K99.Q2A K91 K44 Q1S K98 K17) a
def K99.QO (cK91:K91.T) (cK44:K44.T) (cK100:Q1S.T) (cK98:K98.T) (cK17:K17.T) (l1:K99.l1T) (a:((List (QD))×Int×(Option Nat)×Int×Unit)×(Q2S)):Option ((((List (QD))×Int×(Option Nat)×Int×Unit)×(Q2S))⊕((((Option Nat)×Unit)×(Q2S)))):=
 (Q0 ((bif ilt a.1.2.2.2.1 (ofN (List.length a.1.1)) then some (ilt a.1.2.2.2.1 a.1.2.1,()) else some (false,()))) none λr0=>(bif r0.1 then (bif inR a.1.2.2.2.1 (List.length a.1.1) then (Q0 (cK100 (List.getD a.1.1 (Int.toNat a.1.2.2.2.1) QD.zero)) none λr1=>(bif !r1.1.1 then some (.inl ((a.1.1,(a.1.2.1,(a.1.2.2.1,(Q4 .i64 a.1.2.2.2.1 1,())))),a.2)) else (bif inR a.1.2.2.2.1 (List.length a.1.1) then (Q0 (cK98 (List.getD a.1.1 (Int.toNat a.1.2.2.2.1) QD.zero)) none λr2=>(Q0 (l1 ((a.1.1,a.1.2.1,a.1.2.2.1,a.1.2.2.2.1,r2.1.1,(0:Int),()),a.2)) none λr3=>some (.inl ((r3.1.1,(r3.1.2.1,(r3.1.2.2.1,(Q4 .i64 r3.1.2.2.2.1 1,())))),r3.2)))) else none))) else none) else some (.inr ((a.1.2.2.1,()),a.2))))
def K99.F0:K99.l0T:=λa=>Z8 (1000000+(a.1.1.length)) (K99.QO K91 K44 Q1S K98 K17 K99.F1) a
def K99.gen (cK91:K91.T) (cK44:K44.T) (cK100:Q1S.T) (cK98:K98.T) (cK17:K17.T) (l0:K99.l0T) (l1:K99.l1T):K99.T:=λid Q11 script most g0 g1 g2 g3 g4 g5 g6 g7=>
 (Q0 (cK91 id Q11) none λr0=>(Q0 (cK44 r0.1.1 g0 g1 g2 g3 g4 g5 g6 g7) none λr1=>(bif ine r1.1.2.1 0 then some ((none,()),r1.2) else (Q0 (l0 ((script,most,r1.1.1,(0:Int),()),r1.2.1)) none λr2=>some (r2.1,(r2.2,()))))))
def K99:K99.T:=K99.gen K91 K44 Q1S K98 K17 K99.F0 K99.F1
theorem K99.seq1 (cK91:K91.T) (cK44:K44.T) (cK100:Q1S.T) (cK98:K98.T) (cK17:K17.T) (l0:K99.l0T) (l1:K99.l1T) (a:K99.L1.T):run Tryz.prog (K99.H cK91 cK44 cK100 cK98 cK17 l0 l1) 6 (Option (K99.L1.T⊕ExT K99.X1)) none K99.B1 (K99.L1.enc a) (Zi (0,8) K99.L1 K99.X1)=K99.Q2A cK91 cK44 cK100 cK98 cK17 a:=by kernel_rfl
abbrev K99.h:=K99.H K91 K44 Q1S K98 K17 K99.F0 K99.F1
theorem K99.Q5h:LO_ K99.h K99.B1 (Z9 (0,8) K99.L1 K99.X1 K99.F1):=lk_ (hn_ (Z0 (Z0 (Z0 (Z0 (Z0 Z2 K91.ok) K44.ok) Q1S.ok) K98.ok) K17.ok)) (K99.seq1 K91 K44 Q1S K98 K17 K99.F0 K99.F1)
theorem K99.Q24 (cK91:K91.T) (cK44:K44.T) (cK100:Q1S.T) (cK98:K98.T) (cK17:K17.T) (l0:K99.l0T) (l1:K99.l1T) (a:K99.L0.T):run Tryz.prog (K99.H cK91 cK44 cK100 cK98 cK17 l0 l1) 6 (Option (K99.L0.T⊕ExT K99.X0)) none K99.B0 (K99.L0.enc a) (Zi (0,8) K99.L0 K99.X0)=K99.QO cK91 cK44 cK100 cK98 cK17 l1 a:=by kernel_rfl
theorem K99.Q5a:Z3 K99.B0= [(.loop K99.B1)]:=by kernel_rfl
theorem K99.Q1V:ZI U Tryz.prog K99.h.ro K99.h.base K99.B0 (Z9 (0,8) K99.L0 K99.X0 K99.F0):=
 Z2Q (Hn:=K99.h) Q61 Q4F (Z1F (hq (Z0 (Z0 (Z0 (Z0 (Z0 Z2 K91.ok) K44.ok) Q1S.ok) K98.ok) K17.ok) (Z7 (by kernel_rfl) K99.Q5h Z5) (λ_=>rfl) (λ_=>rfl)) 6) (λb h=>by rw [K99.Q5a] at h;exact h) (λ_=>rfl) (K99.Q24 K91 K44 Q1S K98 K17 K99.F0 K99.F1)
theorem K99.eq (cK91:K91.T) (cK44:K44.T) (cK100:Q1S.T) (cK98:K98.T) (cK17:K17.T) (l0:K99.l0T) (l1:K99.l1T):EqA K99.sig (K99.H cK91 cK44 cK100 cK98 cK17 l0 l1) Tryz.f4 6 (K99.W (K99.gen cK91 cK44 cK100 cK98 cK17 l0 l1)):=by intro a x;kernel_rfl
theorem K99.loops:Z3 K99.C= [(.loop K99.B0),(.loop K99.B1)]:=by kernel_rfl
theorem K99.ok:NK_ 4 K99.sig (K99.W K99):=ok_ Tryz.func4 (K99.eq K91 K44 Q1S K98 K17 K99.F0 K99.F1) (hl_ (Z0 (Z0 (Z0 (Z0 (Z0 Z2 K91.ok) K44.ok) Q1S.ok) K98.ok) K17.ok) (Z7 (by kernel_rfl) K99.Q1V (Z7 (by kernel_rfl) K99.Q5h Z5))) K99.loops
def Q3f.sig:Sig U:=⟨[.int .i64,.int .i64,.int .i64],[],0,[.bool],false,[]⟩
abbrev Q3f.T:Type:=(Int)->(Int)->(Int)->Option ((Bool×Unit)×Unit×Unit)
def Q3f.W (f:Q3f.T):Q3f.sig.F:=λa x=>f a.1 a.2.1 a.2.2.1
def Q3f.H:Hints U:={ Γ:=noΓ,ro:=0,base:=8}
def Q3f.gen:Q3f.T:=λv from_1 to_2=>
 (bif ile from_1 v then some ((ile v to_2,()),((),())) else some ((false,()),((),())))
def Q3f:Q3f.T:=Q3f.gen
theorem Q3f.ok:NK_ 18 Q3f.sig (Q3f.W Q3f):=ok_ (H:=Q3f.H) (n:=6) Tryz.func18 (by intro a x;kernel_rfl) (hn_ Z2)
def Q3B.sig:Sig U:=⟨[.data .Q2v],[],0,[.bool],false,[]⟩
abbrev Q3B.T:Type:=(Qy)->Option ((Bool×Unit)×Unit×Unit)
def Q3B.W (f:Q3B.T):Q3B.sig.F:=λa x=>f a.1
def Q3B.H (cK149:Q3f.T):Hints U:={ Γ:=(Qk 18 (Q3f.sig.native (Q3f.W cK149)) noΓ),ro:=0,base:=8}
def Q3B.gen (cK149:Q3f.T):Q3B.T:=λq=>
 (Q0 (cK149 q.Q1M 0 255) none λr0=>(bif r0.1.1 then (Q0 (cK149 q.Q1r 0 255) none λr1=>(bif r1.1.1 then (Q0 (cK149 q.Q1B 0 65535) none λr2=>some (r2.1,((),()))) else some ((false,()),((),())))) else some ((false,()),((),()))))
def Q3B:Q3B.T:=Q3B.gen Q3f
theorem Q3B.eq (cK149:Q3f.T):EqA Q3B.sig (Q3B.H cK149) Tryz.f19 6 (Q3B.W (Q3B.gen cK149)):=by intro a x;kernel_rfl
theorem Q3B.ok:NK_ 19 Q3B.sig (Q3B.W Q3B):=ok_ Tryz.func19 (Q3B.eq Q3f) (hn_ (Z0 Z2 Q3f.ok))
def Q2o.sig:Sig U:=⟨[.data .Q1e],[],0,[.int .i64],false,[]⟩
abbrev Q2o.T:Type:=(Q8)->Option ((Int×Unit)×Unit×Unit)
def Q2o.W (f:Q2o.T):Q2o.sig.F:=λa x=>f a.1
def Q2o.H (cK149:Q3f.T) (cK150:Q3B.T):Hints U:={ Γ:=(Qk 19 (Q3B.sig.native (Q3B.W cK150)) (Qk 18 (Q3f.sig.native (Q3f.W cK149)) noΓ)),ro:=0,base:=8,Q1J:=jt_ [(1,[(3,vb_)]),(2,[(3,vb_)]),(3,[(3,vb_)]),(4,[(3,vb_)]),(5,[(114,vb_)])]}
def Q2o.gen (cK149:Q3f.T) (cK150:Q3B.T):Q2o.T:=λc=>
 (Q0 ((Q0 (cK149 c.Qv 1 8) none λr0=>(bif r0.1.1 then (Q0 (cK149 c.Q1v 0 127) none λr1=>(bif r1.1.1 then (Q0 (cK149 c.Q17 0 255) none λr2=>(bif r2.1.1 then (Q0 (cK149 c.Q18 0 255) none λr3=>(bif r3.1.1 then (Q0 (cK150 c.Qu) none λr4=>some r4.1) else some (false,()))) else some (false,()))) else some (false,()))) else some (false,())))) none λr5=>(Q0 ((bif r5.1 then (Q0 (cK149 c.Q3z (-3) 4) none λr6=>(bif r6.1.1 then (Q0 (cK149 c.Q2G (-3) 4) none λr7=>(bif r7.1.1 then (Q0 (cK149 c.Q2E (-3) 4) none λr8=>(bif r8.1.1 then (Q0 (cK149 c.Q3b 2 10) none λr9=>(bif r9.1.1 then (Q0 (cK149 c.Q3M 1 15) none λr10=>some r10.1) else some (false,()))) else some (false,()))) else some (false,()))) else some (false,()))) else some (false,()))) none λr11=>(Q0 ((bif r11.1 then (Q0 (cK149 c.fKp 0 2000) none λr12=>(bif r12.1.1 then (Q0 (cK149 c.fKi 0 2000) none λr13=>(bif r13.1.1 then (Q0 (cK149 c.Q55 0 1000000000) none λr14=>some r14.1) else some (false,()))) else some (false,()))) else some (false,()))) none λr15=>(Q0 ((bif r15.1 then (Q0 (cK149 c.Q1b.Q37 (-32768) 32767) none λr16=>(bif r16.1.1 then (Q0 (cK149 c.Q1b.Q1W 0 63) none λr17=>(bif r17.1.1 then (Q0 (cK149 c.Q1b.Q1N 0 255) none λr18=>some r18.1) else some (false,()))) else some (false,()))) else some (false,()))) none λr19=>(Q0 ((bif !r19.1 then some (true,()) else (bif ieq c.QF 0 then some (true,()) else (bif ieq c.QF 18446744073709551615 then some (true,()) else (bif c.Q25 then (bif ine c.Qv 1 then some (true,()) else some (ine c.Qu.Q1M 255,())) else some (false,())))))) none λr20=>(bif r20.1 then some (((15:Int),()),((),())) else some (((0:Int),()),((),()))))))))
def Q2o:Q2o.T:=Q2o.gen Q3f Q3B
theorem Q2o.eq (cK149:Q3f.T) (cK150:Q3B.T):EqA Q2o.sig (Q2o.H cK149 cK150) Tryz.f5 6 (Q2o.W (Q2o.gen cK149 cK150)):=by intro a x;kernel_rfl
theorem Q2o.ok:NK_ 5 Q2o.sig (Q2o.W Q2o):=ok_ Tryz.func5 (Q2o.eq Q3f Q3B) (hn_ (Z0 (Z0 Z2 Q3f.ok) Q3B.ok))
def K60.sig:Sig U:=⟨[.int .u64],[],0,[.data .Q1e],false,[]⟩
abbrev K60.T:Type:=(Int)->Option ((Q8×Unit)×Unit×Unit)
def K60.W (f:K60.T):K60.sig.F:=λa x=>f a.1
def K60.H:Hints U:={ Γ:=noΓ,ro:=0,base:=8}
def K60.gen:K60.T:=λclock=>
 some ((Q8.mk clock 1 0 128 128 (Qy.mk 248 254 65535) false 1 0 0 3 false false 5 700 300 20000 (Q1d.mk 37 8 160) false,()),((),()))
def K60:K60.T:=K60.gen
theorem K60.ok:NK_ 23 K60.sig (K60.W K60):=ok_ (H:=K60.H) (n:=6) Tryz.func23 (by intro a x;kernel_rfl) (hn_ Z2)
def K97.sig:Sig U:=⟨[],[Q8C,Q5Z,Q58,Q51,Q5o,Q5S,Q5y,.fam 7 (.map true false .Qw .Q1R)],0,[.bool],false,[]⟩
abbrev K97.T:Type:=(Fm Q1)->(Fm Qp)->(Fm Qb)->(Fm Qg)->(Fm Qc)->(Fm Qh)->(Fm QB)->(Nat×(Nat->List (Qf×List (Int))))->Option ((Bool×Unit)×(Q2S)×Unit)
def K97.W (f:K97.T):K97.sig.F:=λa x=>f x.1 x.2.1 x.2.2.1 x.2.2.2.1 x.2.2.2.2.1 x.2.2.2.2.2.1 x.2.2.2.2.2.2.1 x.2.2.2.2.2.2.2.1
def K97.L0:Shape U:=⟨40,8,[(1,.val (.ref 0)),(3,vi_),(4,vi_)],Q5z⟩
def K97.X0:Qm U:= [(.exit 0,⟨40,8,[(1,.val (.ref 0)),(3,vi_)],Q5z⟩)]
abbrev K97.l0T:Type:=(((Option Nat)×Int×Int×Unit)×(Q2S))->Option ((((Option Nat)×Int×Unit)×(Q2S)))
def K97.C:Code:=match Tryz.f7.body with|some c=>c|none=>.skip
def K97.B0:Code:=match (Z3 K97.C).getD 0 .skip with| .loop b=>b| .scope b=>b|_=>.skip
def K97.H (cK60:K60.T) (cK44:K44.T) (cK16:K16.T) (cK17:K17.T) (l0:K97.l0T):Hints U:={ Γ:=(K17.N cK17 (K16.N cK16 (K44.N cK44 (Qk 23 (K60.sig.native (K60.W cK60)) noΓ)))),ro:=0,base:=8,Q1J:=jt_ [(2,[(20,vb_)])],loop:=jt_ [(7,(Z9 (0,8) K97.L0 K97.X0 l0))]}
def K97.QO (cK60:K60.T) (cK44:K44.T) (cK16:K16.T) (cK17:K17.T) (a:((Option Nat)×Int×Int×Unit)×(Q2S)):Option ((((Option Nat)×Int×Int×Unit)×(Q2S))⊕((((Option Nat)×Int×Unit)×(Q2S)))):=
 (bif ilt a.1.2.2.1 48 then (Q0 ((Q0 (a.1.1) none λr0=>(Q0 (cK17 (Qz.mk 1 0 0 0 0 (ByteArray.mk (List.toArray (Qn UInt8))) z7_) (a.2.1.2 r0) a.2.2.1 a.2.2.2.1 a.2.2.2.2.1 a.2.2.2.2.2.1 a.2.2.2.2.2.2.1 a.2.2.2.2.2.2.2.1 a.2.2.2.2.2.2.2.2.1) none λr1=>some (r0,r1)))) none λr2=>some (.inl ((a.1.1,(a.1.2.1,(Q4 .i64 a.1.2.2.1 1,()))),((a.2.1.1,Qr a.2.1.2 r2.1 r2.2.2.1.1),r2.2.2.1.2)))) else some (.inr ((a.1.1,(a.1.2.1,())),a.2)))
def K97.F0:K97.l0T:=λa=>Z8 (1000000) (K97.QO K60 K44 K16 K17) a
def K97.gen (cK60:K60.T) (cK44:K44.T) (cK16:K16.T) (cK17:K17.T) (l0:K97.l0T):K97.T:=λg0 g1 g2 g3 g4 g5 g6 g7=>
 (Q0 (cK60 1) none λr0=>(Q0 (cK44 r0.1.1 g0 g1 g2 g3 g4 g5 g6 g7) none λr1=>(Q0 ((bif ine r1.1.2.1 0 then some (true,()) else (bif !Option.isSome r1.1.1 then some (true,()) else (Q0 ((Q0 (r1.1.1) none λr2=>(Q0 (cK16 1 (r1.2.1.1.2 r2)) none λr3=>some (r2,r3)))) none λr4=>some (ine r4.2.1.1 1,()))))) none λr5=>(bif r5.1 then some ((false,()),r1.2) else (Q0 ((Q0 (r1.1.1) none λr6=>(Q0 (cK17 (Qz.mk 1 0 0 0 0 (ByteArray.mk (List.toArray (Qn UInt8))) z7_) (r1.2.1.1.2 r6) r1.2.1.2.1 r1.2.1.2.2.1 r1.2.1.2.2.2.1 r1.2.1.2.2.2.2.1 r1.2.1.2.2.2.2.2.1 r1.2.1.2.2.2.2.2.2.1 r1.2.1.2.2.2.2.2.2.2.1) none λr7=>some (r6,r7)))) none λr8=>(Q0 ((Q0 (r1.1.1) none λr9=>(Q0 (cK16 1 (Qr r1.2.1.1.2 r8.1 r8.2.2.1.1 r9)) none λr10=>some (r9,r10)))) none λr11=>(Q0 (l0 ((r1.1.1,r11.2.1.1,(0:Int),()),(r1.2.1.1.1,Qr r1.2.1.1.2 r8.1 r8.2.2.1.1),r8.2.2.1.2)) none λr12=>(bif ieq r12.1.2.1 4 then (Q0 ((Q0 (r12.1.1) none λr13=>(Q0 (cK16 1 (r12.2.1.2 r13)) none λr14=>some (r13,r14)))) none λr15=>some ((ieq r15.2.1.1 6,()),(r12.2,()))) else some ((false,()),(r12.2,()))))))))))
def K97:K97.T:=K97.gen K60 K44 K16 K17 K97.F0
def K97.A:Option Unit:=Z60 (K97 (0,λ_=>U.dft .Q7) (0,λ_=>U.dft .Q1t) (0,λ_=>U.dft .QA) (0,λ_=>U.dft .Q14) (0,λ_=>U.dft .Q15) (0,λ_=>U.dft .Q19) (0,λ_=>U.dft .Q1k) (0,λ_=>[]))
theorem K97.Q24 (cK60:K60.T) (cK44:K44.T) (cK16:K16.T) (cK17:K17.T) (l0:K97.l0T) (a:K97.L0.T):run Tryz.prog (K97.H cK60 cK44 cK16 cK17 l0) 6 (Option (K97.L0.T⊕ExT K97.X0)) none K97.B0 (K97.L0.enc a) (Zi (0,8) K97.L0 K97.X0)=K97.QO cK60 cK44 cK16 cK17 a:=by kernel_rfl
abbrev K97.h:=K97.H K60 K44 K16 K17 K97.F0
theorem K97.Q1V:LO_ K97.h K97.B0 (Z9 (0,8) K97.L0 K97.X0 K97.F0):=lk_ (hn_ (Z0 (Z0 (Z0 (Z0 Z2 K60.ok) K44.ok) K16.ok) K17.ok)) (K97.Q24 K60 K44 K16 K17 K97.F0)
theorem K97.eq (cK60:K60.T) (cK44:K44.T) (cK16:K16.T) (cK17:K17.T) (l0:K97.l0T):EqA K97.sig (K97.H cK60 cK44 cK16 cK17 l0) Tryz.f7 6 (K97.W (K97.gen cK60 cK44 cK16 cK17 l0)):=by intro a x;kernel_rfl
theorem K97.loops:Z3 K97.C= [(.loop K97.B0)]:=by kernel_rfl
theorem K97.hints:Q4c U Tryz.prog K97.h (λc=>c∈ [(.loop K97.B0)]):=(hq (Z0 (Z0 (Z0 (Z0 Z2 K60.ok) K44.ok) K16.ok) K17.ok) (Z7 (by kernel_rfl) K97.Q1V Z5) (λ_=>rfl) (λ_=>rfl))
theorem K97.okA:Zy U Tryz.prog 7 (Z5v K97.A):=
 Z8X Q61 (fs:= [Q8C,Q5Z,Q58,Q51,Q5o,Q5S,Q5y,.fam 7 (.map true false .Qw .Q1R)]) (code:=K97.C) (gos:=6) K97.hints Tryz.func7 (by kernel_rfl) (by kernel_rfl) (λb h=>by rw [K97.loops] at h;exact h) (λh=>let ⟨y,hy⟩:=Z89 h;⟨y,(K97.eq K60 K44 K16 K17 K97.F0 () (Q6f (U:=U) [Q8C,Q5Z,Q58,Q51,Q5o,Q5S,Q5y,.fam 7 (.map true false .Qw .Q1R)])).trans hy⟩) rfl rfl (by decide) (by decide)
def K8.sig:Sig U:=⟨[.ptr],[.obj .Q7],1,[.data .Q1e],false,[]⟩
abbrev K8.T:Type:=(Q1)->Option ((Q8×Unit)×Unit×Unit)
def K8.W (f:K8.T):K8.sig.F:=λa x=>f x.1
def K8.H:Hints U:={ Γ:=(Qk 5000000021 ZG noΓ),ro:=9,base:=9}
def K8.gen:K8.T:=λh0=>
 some ((h0.Qo,()),((),()))
def K8:K8.T:=K8.gen
theorem K8.ok:NK_ 9 K8.sig (K8.W K8):=ok_ (H:=K8.H) (n:=6) Tryz.func9 (by intro a x;kernel_rfl) (hn_ (Z0 Z2 Zc))
def K11.sig:Sig U:=⟨[.ptr,.int .i64],[.obj .Q7,Q58],2,[.isl .QC],false,[]⟩
abbrev K11.T:Type:=(Int)->(Q1)->(Fm Qb)->Option (((List (Qd))×Unit)×Unit×Unit)
def K11.W (f:K11.T):K11.sig.F:=λa x=>f a.2.1 x.1 x.2.1
def K11.H (cK33:K33.T) (cK40:K40.T) (cK75:K75.T):Hints U:={ Γ:=(Qk 32 (K75.sig.native (K75.W cK75)) (K40.N cK40 (K33.N cK33 (Qk 5000000021 ZG noΓ)))),ro:=9,base:=9}
def K11.gen (cK33:K33.T) (cK40:K40.T) (cK75:K75.T):K11.T:=λn h0 g2=>
 (Q0 (cK33 n h0) none λr0=>(bif r0.1.1 then some ((Qn Qd,()),((),())) else (Q0 (cK40 n h0) none λr1=>(Q0 ((h0.Qe r1.1.1).2) none λr2=>(Q0 (cK75 (g2.2 r2)) none λr3=>some (r3.1,((),())))))))
def K11:K11.T:=K11.gen K33 K40 K75
theorem K11.eq (cK33:K33.T) (cK40:K40.T) (cK75:K75.T):EqA K11.sig (K11.H cK33 cK40 cK75) Tryz.f12 6 (K11.W (K11.gen cK33 cK40 cK75)):=by intro a x;kernel_rfl
theorem K11.ok:NK_ 12 K11.sig (K11.W K11):=ok_ Tryz.func12 (K11.eq K33 K40 K75) (hn_ (Z0 (Z0 (Z0 (Z0 Z2 Zc) K33.ok) K40.ok) K75.ok))
def K15.sig:Sig U:=⟨[.ptr,.int .i64],[.obj .Q7],1,[.int .i64],false,[]⟩
abbrev K15.T:Type:=(Int)->(Q1)->Option ((Int×Unit)×Unit×Unit)
def K15.W (f:K15.T):K15.sig.F:=λa x=>f a.2.1 x.1
def K15.H (cK33:K33.T) (cK40:K40.T):Hints U:={ Γ:=(K40.N cK40 (K33.N cK33 (Qk 5000000021 ZG noΓ))),ro:=9,base:=9}
def K15.gen (cK33:K33.T) (cK40:K40.T):K15.T:=λn h0=>
 (Q0 (cK33 n h0) none λr0=>(bif r0.1.1 then some (((0:Int),()),((),())) else (Q0 (cK40 n h0) none λr1=>some (((h0.Qe r1.1.1).Q3g.fv,()),((),())))))
def K15:K15.T:=K15.gen K33 K40
theorem K15.eq (cK33:K33.T) (cK40:K40.T):EqA K15.sig (K15.H cK33 cK40) Tryz.f13 6 (K15.W (K15.gen cK33 cK40)):=by intro a x;kernel_rfl
theorem K15.ok:NK_ 13 K15.sig (K15.W K15):=ok_ Tryz.func13 (K15.eq K33 K40) (hn_ (Z0 (Z0 (Z0 Z2 Zc) K33.ok) K40.ok))
def K94.sig:Sig U:=⟨[.isl .Q3x,.isl .Q3x],[],0,[.bool],false,[]⟩
abbrev K94.T:Type:=(List (QJ))->(List (QJ))->Option ((Bool×Unit)×Unit×Unit)
def K94.W (f:K94.T):K94.sig.F:=λa x=>f a.1 a.2.1
def K94.L0:Shape U:=⟨26,8,[(0,.val (.isl .Q3x)),(1,.val (.isl .Q3x)),(5,vi_)],[]⟩
def K94.X0:Qm U:= [(.exit 0,⟨26,8,[],[]⟩),
 (.ret,⟨26,8,[(4,vb_)],[]⟩)]
abbrev K94.l0T:Type:=(((List (QJ))×(List (QJ))×Int×Unit)×Unit)->Option ((Unit×Unit)⊕((Bool×Unit)×Unit))
def K94.C:Code:=match Tryz.f16.body with|some c=>c|none=>.skip
def K94.B0:Code:=match (Z3 K94.C).getD 0 .skip with| .loop b=>b| .scope b=>b|_=>.skip
def K94.H (l0:K94.l0T):Hints U:={ Γ:=noΓ,ro:=0,base:=8,loop:=jt_ [(4,(Z9 (0,8) K94.L0 K94.X0 l0))]}
def K94.QO (a:((List (QJ))×(List (QJ))×Int×Unit)×Unit):Option ((((List (QJ))×(List (QJ))×Int×Unit)×Unit)⊕((Unit×Unit)⊕((Bool×Unit)×Unit))):=
 (bif ilt a.1.2.2.1 (ofN (List.length a.1.1)) then (bif inR a.1.2.2.1 (List.length a.1.1) then (bif inR a.1.2.2.1 (List.length a.1.2.1) then (bif !bif ieq (List.getD a.1.1 (Int.toNat a.1.2.2.1) QJ.zero).Q5j (List.getD a.1.2.1 (Int.toNat a.1.2.2.1) QJ.zero).Q5j then bif ieq (List.getD a.1.1 (Int.toNat a.1.2.2.1) QJ.zero).QW (List.getD a.1.2.1 (Int.toNat a.1.2.2.1) QJ.zero).QW then bif ieq (List.getD a.1.1 (Int.toNat a.1.2.2.1) QJ.zero).fN (List.getD a.1.2.1 (Int.toNat a.1.2.2.1) QJ.zero).fN then bif (List.getD a.1.1 (Int.toNat a.1.2.2.1) QJ.zero).Qb8==(List.getD a.1.2.1 (Int.toNat a.1.2.2.1) QJ.zero).Qb8 then bif ieq (List.getD a.1.1 (Int.toNat a.1.2.2.1) QJ.zero).fType (List.getD a.1.2.1 (Int.toNat a.1.2.2.1) QJ.zero).fType then bif ieq (List.getD a.1.1 (Int.toNat a.1.2.2.1) QJ.zero).Q36 (List.getD a.1.2.1 (Int.toNat a.1.2.2.1) QJ.zero).Q36 then bif Z42 (List.getD a.1.1 (Int.toNat a.1.2.2.1) QJ.zero).Q3h (List.getD a.1.2.1 (Int.toNat a.1.2.2.1) QJ.zero).Q3h then true else false else false else false else false else false else false else false then some (.inr (.inr ((false,()),()))) else some (.inl ((a.1.1,(a.1.2.1,(Q4 .i64 a.1.2.2.1 1,()))),()))) else none) else none) else some (.inr (.inl ((),()))))
def K94.F0:K94.l0T:=λa=>Z8 (1000000+(a.1.1.length+a.1.2.1.length)) (K94.QO) a
def K94.gen (l0:K94.l0T):K94.T:=λa b=>
 (bif ine (ofN (List.length a)) (ofN (List.length b)) then some ((false,()),((),())) else (Q0 (l0 ((a,b,(0:Int),()),())) none λr0=>(Q3S r0 (λr1=>some ((true,()),((),()))) (λr1=>some (r1.1,((),()))))))
def K94:K94.T:=K94.gen K94.F0
theorem K94.Q24 (l0:K94.l0T) (a:K94.L0.T):run Tryz.prog (K94.H l0) 6 (Option (K94.L0.T⊕ExT K94.X0)) none K94.B0 (K94.L0.enc a) (Zi (0,8) K94.L0 K94.X0)=K94.QO a:=by kernel_rfl
abbrev K94.h:=K94.H K94.F0
theorem K94.Q1V:LO_ K94.h K94.B0 (Z9 (0,8) K94.L0 K94.X0 K94.F0):=lk_ (hn_ Z2) (K94.Q24 K94.F0)
theorem K94.eq (l0:K94.l0T):EqA K94.sig (K94.H l0) Tryz.f16 6 (K94.W (K94.gen l0)):=by intro a x;kernel_rfl
theorem K94.loops:Z3 K94.C= [(.loop K94.B0)]:=by kernel_rfl
theorem K94.ok:NK_ 16 K94.sig (K94.W K94):=ok_ Tryz.func16 (K94.eq K94.F0) (hl_ Z2 (Z7 (by kernel_rfl) K94.Q1V Z5)) K94.loops
def K14.sig:Sig U:=⟨[.ptr],[.obj .Q7],1,[.data .Q1F],false,[]⟩
abbrev K14.T:Type:=(Q1)->Option ((QY×Unit)×Unit×Unit)
def K14.W (f:K14.T):K14.sig.F:=λa x=>f x.1
def K14.H:Hints U:={ Γ:=(Qk 5000000021 ZG noΓ),ro:=9,base:=9}
def K14.gen:K14.T:=λh0=>
 some ((h0.Q2d,()),((),()))
def K14:K14.T:=K14.gen
theorem K14.ok:NK_ 34 K14.sig (K14.W K14):=ok_ (H:=K14.H) (n:=6) Tryz.func34 (by intro a x;kernel_rfl) (hn_ (Z0 Z2 Zc))
def K13.sig:Sig U:=⟨[.ptr],[.obj .Q7],1,[.int .i64],false,[]⟩
abbrev K13.T:Type:=(Q1)->Option ((Int×Unit)×Unit×Unit)
def K13.W (f:K13.T):K13.sig.F:=λa x=>f x.1
def K13.H:Hints U:={ Γ:=(Qk 5000000021 ZG noΓ),ro:=9,base:=9}
def K13.gen:K13.T:=λh0=>
 some ((h0.Q5d,()),((),()))
def K13:K13.T:=K13.gen
theorem K13.ok:NK_ 35 K13.sig (K13.W K13):=ok_ (H:=K13.H) (n:=6) Tryz.func35 (by intro a x;kernel_rfl) (hn_ (Z0 Z2 Zc))
def K9.sig:Sig U:=⟨[.ptr],[.obj .Q7],1,[.int .i64],false,[]⟩
abbrev K9.T:Type:=(Q1)->Option ((Int×Unit)×Unit×Unit)
def K9.W (f:K9.T):K9.sig.F:=λa x=>f x.1
def K9.H:Hints U:={ Γ:=(Qk 5000000021 ZG noΓ),ro:=9,base:=9}
def K9.gen:K9.T:=λh0=>
 some ((h0.Q48.fv,()),((),()))
def K9:K9.T:=K9.gen
theorem K9.ok:NK_ 36 K9.sig (K9.W K9):=ok_ (H:=K9.H) (n:=6) Tryz.func36 (by intro a x;kernel_rfl) (hn_ (Z0 Z2 Zc))
def K12.sig:Sig U:=⟨[.ptr],[.obj .Q7,Q5Z],2,[.int .i64],false,[]⟩
abbrev K12.T:Type:=(Q1)->(Fm Qp)->Option ((Int×Unit)×Unit×Unit)
def K12.W (f:K12.T):K12.sig.F:=λa x=>f x.1 x.2.1
def K12.H (cK161:Q2V.T):Hints U:={ Γ:=(Qk 73 (Q2V.sig.native (Q2V.W cK161)) (Qk 5000000021 ZG noΓ)),ro:=9,base:=9}
def K12.gen (cK161:Q2V.T):K12.T:=λh0 g1=>
 (Q0 (h0.5) none λr0=>(Q0 (cK161 (g1.2 r0)) none λr1=>some (r1.1,((),()))))
def K12:K12.T:=K12.gen Q2V
theorem K12.eq (cK161:Q2V.T):EqA K12.sig (K12.H cK161) Tryz.f37 6 (K12.W (K12.gen cK161)):=by intro a x;kernel_rfl
theorem K12.ok:NK_ 37 K12.sig (K12.W K12):=ok_ Tryz.func37 (K12.eq Q2V) (hn_ (Z0 (Z0 Z2 Zc) Q2V.ok))
def K18.sig:Sig U:=⟨[.ptr],[.obj .Q7],1,[.int .i64],false,[]⟩
abbrev K18.T:Type:=(Q1)->Option ((Int×Unit)×Unit×Unit)
def K18.W (f:K18.T):K18.sig.F:=λa x=>f x.1
def K18.H:Hints U:={ Γ:=(Qk 5000000021 ZG noΓ),ro:=9,base:=9}
def K18.gen:K18.T:=λh0=>
 some ((h0.Q5s,()),((),()))
def K18:K18.T:=K18.gen
theorem K18.ok:NK_ 38 K18.sig (K18.W K18):=ok_ (H:=K18.H) (n:=6) Tryz.func38 (by intro a x;kernel_rfl) (hn_ (Z0 Z2 Zc))
def K10.sig:Sig U:=⟨[.ptr],[.obj .Q7],1,[.int .i64],false,[]⟩
abbrev K10.T:Type:=(Q1)->Option ((Int×Unit)×Unit×Unit)
def K10.W (f:K10.T):K10.sig.F:=λa x=>f x.1
def K10.H:Hints U:={ Γ:=(Qk 5000000021 ZG noΓ),ro:=9,base:=9}
def K10.gen:K10.T:=λh0=>
 some ((h0.Q2h,()),((),()))
def K10:K10.T:=K10.gen
theorem K10.ok:NK_ 39 K10.sig (K10.W K10):=ok_ (H:=K10.H) (n:=6) Tryz.func39 (by intro a x;kernel_rfl) (hn_ (Z0 Z2 Zc))
def K96.sig:Sig U:=⟨[.ref 0,.ref 0],[Q8C,Q5Z,Q58],3,[.bool],false,[]⟩
abbrev K96.T:Type:=(Option Nat)->(Option Nat)->(Fm Q1)->(Fm Qp)->(Fm Qb)->Option ((Bool×Unit)×Unit×Unit)
def K96.W (f:K96.T):K96.sig.F:=λa x=>f a.1 a.2.1 x.1 x.2.1 x.2.2.1
def K96.L0:Shape U:=⟨84,8,[(0,.val (.ref 0)),(1,.val (.ref 0)),(5,vi_)],hT9_⟩
def K96.X0:Qm U:= [(.exit 0,⟨84,8,[],hT9_⟩),
 (.ret,⟨84,8,[(4,vb_)],hT9_⟩)]
abbrev K96.l0T:Type:=(((Option Nat)×(Option Nat)×Int×Unit)×(Q8L))->Option ((Unit×(Q8L))⊕((Bool×Unit)×(Q8L)))
def K96.C:Code:=match Tryz.f17.body with|some c=>c|none=>.skip
def K96.B0:Code:=match (Z3 K96.C).getD 0 .skip with| .loop b=>b| .scope b=>b|_=>.skip
def K96.H (cK8:K8.T) (cK14:K14.T) (cK13:K13.T) (cK9:K9.T) (cK12:K12.T) (cK18:K18.T) (cK10:K10.T) (cK16:K16.T) (cK15:K15.T) (cK11:K11.T) (l0:K96.l0T):Hints U:={ Γ:=(Qk 12 (K11.sig.native (K11.W cK11)) (Qk 13 (K15.sig.native (K15.W cK15)) (K16.N cK16 (Qk 39 (K10.sig.native (K10.W cK10)) (Qk 38 (K18.sig.native (K18.W cK18)) (Qk 37 (K12.sig.native (K12.W cK12)) (Qk 36 (K9.sig.native (K9.W cK9)) (Qk 35 (K13.sig.native (K13.W cK13)) (Qk 34 (K14.sig.native (K14.W cK14)) (Qk 9 (K8.sig.native (K8.W cK8)) noΓ)))))))))),ro:=8,base:=8,Q1J:=jt_ [(1,[(52,vb_)]),(6,[(83,vb_)])],loop:=jt_ [(4,(Z9 (8,8) K96.L0 K96.X0 l0))]}
def K96.QO (cK8:K8.T) (cK14:K14.T) (cK13:K13.T) (cK9:K9.T) (cK12:K12.T) (cK18:K18.T) (cK10:K10.T) (cK16:K16.T) (cK15:K15.T) (cK11:K11.T) (a:((Option Nat)×(Option Nat)×Int×Unit)×(Q8L)):Option ((((Option Nat)×(Option Nat)×Int×Unit)×(Q8L))⊕((Unit×(Q8L))⊕((Bool×Unit)×(Q8L)))):=
 (bif ile a.1.2.2.1 8 then (Q0 ((Q0 ((Q0 (a.1.1) none λr0=>(Q0 (cK16 a.1.2.2.1 (a.2.1.2 r0)) none λr1=>some (r0,r1)))) none λr2=>(Q0 ((Q0 (a.1.2.1) none λr3=>(Q0 (cK16 a.1.2.2.1 (a.2.1.2 r3)) none λr4=>some (r3,r4)))) none λr5=>(bif ine r2.2.1.1 r5.2.1.1 then some (true,()) else (Q0 ((Q0 (a.1.1) none λr6=>(Q0 (cK15 a.1.2.2.1 (a.2.1.2 r6)) none λr7=>some (r6,r7)))) none λr8=>(Q0 ((Q0 (a.1.2.1) none λr9=>(Q0 (cK15 a.1.2.2.1 (a.2.1.2 r9)) none λr10=>some (r9,r10)))) none λr11=>(bif ine r8.2.1.1 r11.2.1.1 then some (true,()) else (Q0 ((Q0 (a.1.1) none λr12=>(Q0 (cK11 a.1.2.2.1 (a.2.1.2 r12) a.2.2.2.1) none λr13=>some (r12,r13)))) none λr14=>(Q0 ((Q0 (a.1.2.1) none λr15=>(Q0 (cK11 a.1.2.2.1 (a.2.1.2 r15) a.2.2.2.1) none λr16=>some (r15,r16)))) none λr17=>some (ine (ofN (List.length r14.2.1.1)) (ofN (List.length r17.2.1.1)),())))))))))) none λr18=>(bif r18.1 then some (.inr (.inr ((false,()),a.2))) else some (.inl ((a.1.1,(a.1.2.1,(Q4 .i64 a.1.2.2.1 1,()))),a.2)))) else some (.inr (.inl ((),a.2))))
def K96.F0:K96.l0T:=λa=>Z8 (1000000) (K96.QO K8 K14 K13 K9 K12 K18 K10 K16 K15 K11) a
def K96.gen (cK8:K8.T) (cK14:K14.T) (cK13:K13.T) (cK9:K9.T) (cK12:K12.T) (cK18:K18.T) (cK10:K10.T) (cK16:K16.T) (cK15:K15.T) (cK11:K11.T) (l0:K96.l0T):K96.T:=λa b g0 g1 g2=>
 (Q0 ((Q0 ((Q0 (a) none λr0=>(Q0 (cK8 (g0.2 r0)) none λr1=>some (r0,r1)))) none λr2=>(Q0 ((Q0 (b) none λr3=>(Q0 (cK8 (g0.2 r3)) none λr4=>some (r3,r4)))) none λr5=>(bif !bif ieq r2.2.1.1.QF r5.2.1.1.QF then bif ieq r2.2.1.1.Qv r5.2.1.1.Qv then bif ieq r2.2.1.1.Q1v r5.2.1.1.Q1v then bif ieq r2.2.1.1.Q17 r5.2.1.1.Q17 then bif ieq r2.2.1.1.Q18 r5.2.1.1.Q18 then bif bif ieq r2.2.1.1.Qu.Q1M r5.2.1.1.Qu.Q1M then bif ieq r2.2.1.1.Qu.Q1r r5.2.1.1.Qu.Q1r then bif ieq r2.2.1.1.Qu.Q1B r5.2.1.1.Qu.Q1B then true else false else false else false then bif r2.2.1.1.Q25==r5.2.1.1.Q25 then bif ieq r2.2.1.1.Q3z r5.2.1.1.Q3z then bif ieq r2.2.1.1.Q2G r5.2.1.1.Q2G then bif ieq r2.2.1.1.Q2E r5.2.1.1.Q2E then bif ieq r2.2.1.1.Q3b r5.2.1.1.Q3b then bif r2.2.1.1.Q4g==r5.2.1.1.Q4g then bif r2.2.1.1.Q4C==r5.2.1.1.Q4C then bif ieq r2.2.1.1.Q3M r5.2.1.1.Q3M then bif ieq r2.2.1.1.fKp r5.2.1.1.fKp then bif ieq r2.2.1.1.fKi r5.2.1.1.fKi then bif ieq r2.2.1.1.Q55 r5.2.1.1.Q55 then bif bif ieq r2.2.1.1.Q1b.Q37 r5.2.1.1.Q1b.Q37 then bif ieq r2.2.1.1.Q1b.Q1W r5.2.1.1.Q1b.Q1W then bif ieq r2.2.1.1.Q1b.Q1N r5.2.1.1.Q1b.Q1N then true else false else false else false then bif r2.2.1.1.Q6j==r5.2.1.1.Q6j then true else false else false else false else false else false else false else false else false else false else false else false else false else false else false else false else false else false else false else false then some (true,()) else (Q0 ((Q0 (a) none λr6=>(Q0 (cK14 (g0.2 r6)) none λr7=>some (r6,r7)))) none λr8=>(Q0 ((Q0 (b) none λr9=>(Q0 (cK14 (g0.2 r9)) none λr10=>some (r9,r10)))) none λr11=>(bif !bif bif ieq r8.2.1.1.QW.QF r11.2.1.1.QW.QF then bif ieq r8.2.1.1.QW.QW r11.2.1.1.QW.QW then true else false else false then bif ieq r8.2.1.1.Q2Q r11.2.1.1.Q2Q then bif bif ieq r8.2.1.1.Qu.Q1M r11.2.1.1.Qu.Q1M then bif ieq r8.2.1.1.Qu.Q1r r11.2.1.1.Qu.Q1r then bif ieq r8.2.1.1.Qu.Q1B r11.2.1.1.Qu.Q1B then true else false else false else false then bif ieq r8.2.1.1.Q17 r11.2.1.1.Q17 then bif ieq r8.2.1.1.Q18 r11.2.1.1.Q18 then bif ieq r8.2.1.1.Q2g r11.2.1.1.Q2g then bif bif ieq r8.2.1.1.Q1b.Q37 r11.2.1.1.Q1b.Q37 then bif ieq r8.2.1.1.Q1b.Q1W r11.2.1.1.Q1b.Q1W then bif ieq r8.2.1.1.Q1b.Q1N r11.2.1.1.Q1b.Q1N then true else false else false else false then true else false else false else false else false else false else false else false then some (true,()) else (Q0 ((Q0 (a) none λr12=>(Q0 (cK13 (g0.2 r12)) none λr13=>some (r12,r13)))) none λr14=>(Q0 ((Q0 (b) none λr15=>(Q0 (cK13 (g0.2 r15)) none λr16=>some (r15,r16)))) none λr17=>(bif ine r14.2.1.1 r17.2.1.1 then some (true,()) else (Q0 ((Q0 (a) none λr18=>(Q0 (cK9 (g0.2 r18)) none λr19=>some (r18,r19)))) none λr20=>(Q0 ((Q0 (b) none λr21=>(Q0 (cK9 (g0.2 r21)) none λr22=>some (r21,r22)))) none λr23=>(bif ine r20.2.1.1 r23.2.1.1 then some (true,()) else (Q0 ((Q0 (a) none λr24=>(Q0 (cK12 (g0.2 r24) g1) none λr25=>some (r24,r25)))) none λr26=>(Q0 ((Q0 (b) none λr27=>(Q0 (cK12 (g0.2 r27) g1) none λr28=>some (r27,r28)))) none λr29=>(bif ine r26.2.1.1 r29.2.1.1 then some (true,()) else (Q0 ((Q0 (a) none λr30=>(Q0 (cK18 (g0.2 r30)) none λr31=>some (r30,r31)))) none λr32=>(Q0 ((Q0 (b) none λr33=>(Q0 (cK18 (g0.2 r33)) none λr34=>some (r33,r34)))) none λr35=>(bif ine r32.2.1.1 r35.2.1.1 then some (true,()) else (Q0 ((Q0 (a) none λr36=>(Q0 (cK10 (g0.2 r36)) none λr37=>some (r36,r37)))) none λr38=>(Q0 ((Q0 (b) none λr39=>(Q0 (cK10 (g0.2 r39)) none λr40=>some (r39,r40)))) none λr41=>some (ine r38.2.1.1 r41.2.1.1,())))))))))))))))))))))) none λr42=>(bif r42.1 then some ((false,()),((),())) else (Q0 (l0 ((a,b,(1:Int),()),g0,g1,g2,())) none λr43=>(Q3S r43 (λr44=>some ((true,()),((),()))) (λr44=>some (r44.1,((),())))))))
def K96:K96.T:=K96.gen K8 K14 K13 K9 K12 K18 K10 K16 K15 K11 K96.F0
theorem K96.Q24 (cK8:K8.T) (cK14:K14.T) (cK13:K13.T) (cK9:K9.T) (cK12:K12.T) (cK18:K18.T) (cK10:K10.T) (cK16:K16.T) (cK15:K15.T) (cK11:K11.T) (l0:K96.l0T) (a:K96.L0.T):run Tryz.prog (K96.H cK8 cK14 cK13 cK9 cK12 cK18 cK10 cK16 cK15 cK11 l0) 6 (Option (K96.L0.T⊕ExT K96.X0)) none K96.B0 (K96.L0.enc a) (Zi (8,8) K96.L0 K96.X0)=K96.QO cK8 cK14 cK13 cK9 cK12 cK18 cK10 cK16 cK15 cK11 a:=by kernel_rfl
abbrev K96.h:=K96.H K8 K14 K13 K9 K12 K18 K10 K16 K15 K11 K96.F0
theorem K96.Q1V:LO_ K96.h K96.B0 (Z9 (8,8) K96.L0 K96.X0 K96.F0):=lk_ (hn_ (Z0 (Z0 (Z0 (Z0 (Z0 (Z0 (Z0 (Z0 (Z0 (Z0 Z2 K8.ok) K14.ok) K13.ok) K9.ok) K12.ok) K18.ok) K10.ok) K16.ok) K15.ok) K11.ok)) (K96.Q24 K8 K14 K13 K9 K12 K18 K10 K16 K15 K11 K96.F0)
theorem K96.eq (cK8:K8.T) (cK14:K14.T) (cK13:K13.T) (cK9:K9.T) (cK12:K12.T) (cK18:K18.T) (cK10:K10.T) (cK16:K16.T) (cK15:K15.T) (cK11:K11.T) (l0:K96.l0T):EqA K96.sig (K96.H cK8 cK14 cK13 cK9 cK12 cK18 cK10 cK16 cK15 cK11 l0) Tryz.f17 6 (K96.W (K96.gen cK8 cK14 cK13 cK9 cK12 cK18 cK10 cK16 cK15 cK11 l0)):=by intro a x;kernel_rfl
theorem K96.loops:Z3 K96.C= [(.loop K96.B0)]:=by kernel_rfl
theorem K96.ok:NK_ 17 K96.sig (K96.W K96):=ok_ Tryz.func17 (K96.eq K8 K14 K13 K9 K12 K18 K10 K16 K15 K11 K96.F0) (hl_ (Z0 (Z0 (Z0 (Z0 (Z0 (Z0 (Z0 (Z0 (Z0 (Z0 Z2 K8.ok) K14.ok) K13.ok) K9.ok) K12.ok) K18.ok) K10.ok) K16.ok) K15.ok) K11.ok) (Z7 (by kernel_rfl) K96.Q1V Z5)) K96.loops
def K95.sig:Sig U:=⟨[.int .i64,.isl .int,.isl .Q1n,.isl .Q1n],[Q8C,Q5Z,Q58,Q51,Q5o,Q5S,Q5y,.fam 7 (.map true false .Qw .Q1R)],0,[.bool],false,[]⟩
abbrev K95.T:Type:=(Int)->(List (Int))->(List (QD))->(List (QD))->(Fm Q1)->(Fm Qp)->(Fm Qb)->(Fm Qg)->(Fm Qc)->(Fm Qh)->(Fm QB)->(Nat×(Nat->List (Qf×List (Int))))->Option ((Bool×Unit)×(Q2S)×Unit)
def K95.W (f:K95.T):K95.sig.F:=λa x=>f a.1 a.2.1 a.2.2.1 a.2.2.2.1 x.1 x.2.1 x.2.2.1 x.2.2.2.1 x.2.2.2.2.1 x.2.2.2.2.2.1 x.2.2.2.2.2.2.1 x.2.2.2.2.2.2.2.1
def K95.L0:Shape U:=⟨121,8,[(3,.val (.isl .Q1n)),(9,.val (.ref 0)),(10,.val (.ref 0)),(12,vi_)],Q5z⟩
def K95.X0:Qm U:= [(.exit 0,⟨121,8,[(3,.val (.isl .Q1n)),(9,.val (.ref 0)),(10,.val (.ref 0))],Q5z⟩),
 (.ret,⟨121,8,[(8,vb_)],Q5z⟩)]
abbrev K95.l0T:Type:=(((List (QD))×(Option Nat)×(Option Nat)×Int×Unit)×(Q2S))->Option ((((List (QD))×(Option Nat)×(Option Nat)×Unit)×(Q2S))⊕((Bool×Unit)×(Q2S)))
def K95.L1:Shape U:=⟨121,8,[(3,.val (.isl .Q1n)),(9,.val (.ref 0)),(10,.val (.ref 0)),(13,vi_)],Q5z⟩
def K95.X1:Qm U:= [(.exit 2,⟨121,8,[(9,.val (.ref 0)),(10,.val (.ref 0))],Q5z⟩),
 (.ret,⟨121,8,[(8,vb_)],Q5z⟩)]
abbrev K95.l1T:Type:=(((List (QD))×(Option Nat)×(Option Nat)×Int×Unit)×(Q2S))->Option ((((Option Nat)×(Option Nat)×Unit)×(Q2S))⊕((Bool×Unit)×(Q2S)))
def K95.L2:Shape U:=⟨121,8,[(3,.val (.isl .Q1n)),(9,.val (.ref 0)),(10,.val (.ref 0)),(13,vi_),(14,.val (.isl .Q2p)),(15,vi_)],Q5z⟩
def K95.X2:Qm U:= [(.exit 4,⟨121,8,[(3,.val (.isl .Q1n)),(9,.val (.ref 0)),(10,.val (.ref 0)),(13,vi_)],Q5z⟩),
 (.ret,⟨121,8,[(8,vb_)],Q5z⟩)]
abbrev K95.l2T:Type:=(((List (QD))×(Option Nat)×(Option Nat)×Int×(List (Qz))×Int×Unit)×(Q2S))->Option ((((List (QD))×(Option Nat)×(Option Nat)×Int×Unit)×(Q2S))⊕((Bool×Unit)×(Q2S)))
def K95.C:Code:=match Tryz.f3.body with|some c=>c|none=>.skip
def K95.B0:Code:=match (Z3 K95.C).getD 0 .skip with| .loop b=>b| .scope b=>b|_=>.skip
def K95.B1:Code:=match (Z3 K95.C).getD 1 .skip with| .loop b=>b| .scope b=>b|_=>.skip
def K95.B2:Code:=match (Z3 K95.C).getD 2 .skip with| .loop b=>b| .scope b=>b|_=>.skip
def K95.JR5:Qm U:= [(.normal,⟨121,8,[(3,.val (.isl .Q1n)),(9,.val (.ref 0)),(10,.val (.ref 0)),(48,vb_)],Q5z⟩)]
def K95.JR3:Qm U:= [(.normal,⟨121,8,[(8,vb_)],Q5z⟩)]
def K95.H (cK99:K99.T) (cK91:K91.T) (cK151:Q2o.T) (cK97:Option Unit) (cK8:K8.T) (cK44:K44.T) (cK17:K17.T) (cK16:K16.T) (cK11:K11.T) (cK15:K15.T) (cK100:Q1S.T) (cK98:K98.T) (cK94:K94.T) (cK96:K96.T) (l0:K95.l0T) (l1:K95.l1T) (l2:K95.l2T):Hints U:={ Γ:=(Qk 17 (K96.sig.native (K96.W cK96)) (Qk 16 (K94.sig.native (K94.W cK94)) (Qk 15 (K98.sig.native (K98.W cK98)) (Qk 14 (Q1S.sig.native (Q1S.W cK100)) (Qk 13 (K15.sig.native (K15.W cK15)) (Qk 12 (K11.sig.native (K11.W cK11)) (K16.N cK16 (K17.N cK17 (K44.N cK44 (Qk 9 (K8.sig.native (K8.W cK8)) (Qk 7 (Z5v cK97) (Qk 5 (Q2o.sig.native (Q2o.W cK151)) (Qk 6 (K91.sig.native (K91.W cK91)) (Qk 4 (K99.sig.native (K99.W cK99)) noΓ)))))))))))))),ro:=0,base:=8,Q1J:=jt_ [(10,[(72,vb_)]),(13,[(80,vb_)])],Q2B:=jt_ [(3,K95.JR3),(5,K95.JR5)],loop:=jt_ [(8,(Z9 (0,8) K95.L0 K95.X0 l0)),(13,(Z9 (0,8) K95.L1 K95.X1 l1)),(19,(Z9 (0,8) K95.L2 K95.X2 l2))]}
def K95.Q7O (cK99:K99.T) (cK91:K91.T) (cK151:Q2o.T) (cK97:Option Unit) (cK8:K8.T) (cK44:K44.T) (cK17:K17.T) (cK16:K16.T) (cK11:K11.T) (cK15:K15.T) (cK100:Q1S.T) (cK98:K98.T) (cK94:K94.T) (cK96:K96.T) (a:((List (QD))×(Option Nat)×(Option Nat)×Int×(List (Qz))×Int×Unit)×(Q2S)):Option ((((List (QD))×(Option Nat)×(Option Nat)×Int×(List (Qz))×Int×Unit)×(Q2S))⊕((((List (QD))×(Option Nat)×(Option Nat)×Int×Unit)×(Q2S))⊕((Bool×Unit)×(Q2S)))):=
 (bif ilt a.1.2.2.2.2.2.1 (ofN (List.length a.1.2.2.2.2.1)) then (bif inR a.1.2.2.2.2.2.1 (List.length a.1.2.2.2.2.1) then (Q0 ((Q0 (a.1.2.1) none λr0=>(Q0 (cK17 (List.getD a.1.2.2.2.2.1 (Int.toNat a.1.2.2.2.2.2.1) Qz.zero) (a.2.1.2 r0) a.2.2.1 a.2.2.2.1 a.2.2.2.2.1 a.2.2.2.2.2.1 a.2.2.2.2.2.2.1 a.2.2.2.2.2.2.2.1 a.2.2.2.2.2.2.2.2.1) none λr1=>some (r0,r1)))) none λr2=>(bif inR a.1.2.2.2.2.2.1 (List.length a.1.2.2.2.2.1) then (Q0 ((Q0 (a.1.2.2.1) none λr3=>(Q0 (cK17 (List.getD a.1.2.2.2.2.1 (Int.toNat a.1.2.2.2.2.2.1) Qz.zero) (Qr a.2.1.2 r2.1 r2.2.2.1.1 r3) r2.2.2.1.2.1 r2.2.2.1.2.2.1 r2.2.2.1.2.2.2.1 r2.2.2.1.2.2.2.2.1 r2.2.2.1.2.2.2.2.2.1 r2.2.2.1.2.2.2.2.2.2.1 r2.2.2.1.2.2.2.2.2.2.2.1) none λr4=>some (r3,r4)))) none λr5=>(Q0 (cK94 r2.2.1.1 r5.2.1.1) none λr6=>(bif !r6.1.1 then some (.inr (.inr ((false,()),((a.2.1.1,Qr (Qr a.2.1.2 r2.1 r2.2.2.1.1) r5.1 r5.2.2.1.1),r5.2.2.1.2)))) else some (.inl ((a.1.1,(a.1.2.1,(a.1.2.2.1,(a.1.2.2.2.1,(a.1.2.2.2.2.1,(Q4 .i64 a.1.2.2.2.2.2.1 1,())))))),((a.2.1.1,Qr (Qr a.2.1.2 r2.1 r2.2.2.1.1) r5.1 r5.2.2.1.1),r5.2.2.1.2)))))) else none)) else none) else some (.inr (.inl ((a.1.1,(a.1.2.1,(a.1.2.2.1,(a.1.2.2.2.1,())))),a.2))))
def K95.F2:K95.l2T:=λa=>Z8 (1000000+(a.1.1.length+a.1.2.2.2.2.1.length)) (K95.Q7O K99 K91 Q2o K97.A K8 K44 K17 K16 K11 K15 Q1S K98 K94 K96) a
def K95.Q2A (cK99:K99.T) (cK91:K91.T) (cK151:Q2o.T) (cK97:Option Unit) (cK8:K8.T) (cK44:K44.T) (cK17:K17.T) (cK16:K16.T) (cK11:K11.T) (cK15:K15.T) (cK100:Q1S.T) (cK98:K98.T) (cK94:K94.T) (cK96:K96.T) (l2:K95.l2T) (a:((List (QD))×(Option Nat)×(Option Nat)×Int×Unit)×(Q2S)):Option ((((List (QD))×(Option Nat)×(Option Nat)×Int×Unit)×(Q2S))⊕((((Option Nat)×(Option Nat)×Unit)×(Q2S))⊕((Bool×Unit)×(Q2S)))):=
 (Q0 ((bif ilt a.1.2.2.2.1 (ofN (List.length a.1.1)) then some (ilt a.1.2.2.2.1 20,()) else some (false,()))) none λr0=>(bif r0.1 then (bif inR a.1.2.2.2.1 (List.length a.1.1) then (Q0 (cK100 (List.getD a.1.1 (Int.toNat a.1.2.2.2.1) QD.zero)) none λr1=>(bif !r1.1.1 then (Q0 (cK97) none λr2=>some (.inr (.inr ((true,()),a.2)))) else (bif inR a.1.2.2.2.1 (List.length a.1.1) then (Q0 (cK98 (List.getD a.1.1 (Int.toNat a.1.2.2.2.1) QD.zero)) none λr3=>(Q0 (l2 ((a.1.1,a.1.2.1,a.1.2.2.1,a.1.2.2.2.1,r3.1.1,(0:Int),()),a.2)) none λr4=>(Q3S r4 (λr5=>some (.inl ((r5.1.1,(r5.1.2.1,(r5.1.2.2.1,(Q4 .i64 r5.1.2.2.2.1 1,())))),r5.2))) (λr5=>some (.inr (.inr r5)))))) else none))) else none) else some (.inr (.inl ((a.1.2.1,(a.1.2.2.1,())),a.2)))))
def K95.F1:K95.l1T:=λa=>Z8 (1000000+(a.1.1.length)) (K95.Q2A K99 K91 Q2o K97.A K8 K44 K17 K16 K11 K15 Q1S K98 K94 K96 K95.F2) a
def K95.QO (cK99:K99.T) (cK91:K91.T) (cK151:Q2o.T) (cK97:Option Unit) (cK8:K8.T) (cK44:K44.T) (cK17:K17.T) (cK16:K16.T) (cK11:K11.T) (cK15:K15.T) (cK100:Q1S.T) (cK98:K98.T) (cK94:K94.T) (cK96:K96.T) (a:((List (QD))×(Option Nat)×(Option Nat)×Int×Unit)×(Q2S)):Option ((((List (QD))×(Option Nat)×(Option Nat)×Int×Unit)×(Q2S))⊕((((List (QD))×(Option Nat)×(Option Nat)×Unit)×(Q2S))⊕((Bool×Unit)×(Q2S)))):=
 (Q0 ((Q0 (a.1.2.1) none λr0=>(Q0 (cK8 (a.2.1.2 r0)) none λr1=>some (r0,r1)))) none λr2=>(bif ile a.1.2.2.2.1 r2.2.1.1.Qv then (Q0 ((Q0 ((Q0 (a.1.2.1) none λr3=>(Q0 (cK16 a.1.2.2.2.1 (a.2.1.2 r3)) none λr4=>some (r3,r4)))) none λr5=>(bif ine r5.2.1.1 1 then some (true,()) else (Q0 ((Q0 (a.1.2.1) none λr6=>(Q0 (cK11 a.1.2.2.2.1 (a.2.1.2 r6) a.2.2.2.1) none λr7=>some (r6,r7)))) none λr8=>(bif ine (ofN (List.length r8.2.1.1)) 0 then some (true,()) else (Q0 ((Q0 (a.1.2.1) none λr9=>(Q0 (cK15 a.1.2.2.2.1 (a.2.1.2 r9)) none λr10=>some (r9,r10)))) none λr11=>some (ine r11.2.1.1 0,()))))))) none λr12=>(bif r12.1 then some (.inr (.inr ((false,()),a.2))) else some (.inl ((a.1.1,(a.1.2.1,(a.1.2.2.1,(Q4 .i64 a.1.2.2.2.1 1,())))),a.2)))) else some (.inr (.inl ((a.1.1,(a.1.2.1,(a.1.2.2.1,()))),a.2)))))
def K95.F0:K95.l0T:=λa=>Z8 (1000000+(a.1.1.length)) (K95.QO K99 K91 Q2o K97.A K8 K44 K17 K16 K11 K15 Q1S K98 K94 K96) a
def K95.gen (cK99:K99.T) (cK91:K91.T) (cK151:Q2o.T) (cK97:Option Unit) (cK8:K8.T) (cK44:K44.T) (cK17:K17.T) (cK16:K16.T) (cK11:K11.T) (cK15:K15.T) (cK100:Q1S.T) (cK98:K98.T) (cK94:K94.T) (cK96:K96.T) (l0:K95.l0T) (l1:K95.l1T) (l2:K95.l2T):K95.T:=λid Q11 script more g0 g1 g2 g3 g4 g5 g6 g7=>
 (Q0 (cK99 id Q11 script 50 g0 g1 g2 g3 g4 g5 g6 g7) none λr0=>(bif !Option.isSome r0.1.1 then (Q0 ((Q0 (cK91 id Q11) none λr1=>(Q0 (cK151 r1.1.1) none λr2=>(bif ine r2.1.1 0 then (Q0 (cK97) none λr3=>some ((true,()),r0.2.1)) else some ((false,()),r0.2.1))))) none λr4=>some (r4.1,(r4.2,()))) else (Q0 ((Q0 (r0.1.1) none λr5=>(Q0 (cK8 (r0.2.1.1.2 r5)) none λr6=>some (r5,r6)))) none λr7=>(Q0 (cK44 r7.2.1.1 r0.2.1.1 r0.2.1.2.1 r0.2.1.2.2.1 r0.2.1.2.2.2.1 r0.2.1.2.2.2.2.1 r0.2.1.2.2.2.2.2.1 r0.2.1.2.2.2.2.2.2.1 r0.2.1.2.2.2.2.2.2.2.1) none λr8=>(Q0 ((bif ine r8.1.2.1 0 then some ((more,(r0.1.1,(r8.1.1,(true,())))),r8.2.1) else (bif !Option.isSome r8.1.1 then some ((more,(r0.1.1,(r8.1.1,(true,())))),r8.2.1) else (Q0 ((Q0 (r0.1.1) none λr9=>(Q0 (cK17 (Qz.mk 4 0 0 0 0 (ByteArray.mk (List.toArray (Qn UInt8))) z7_) (r8.2.1.1.2 r9) r8.2.1.2.1 r8.2.1.2.2.1 r8.2.1.2.2.2.1 r8.2.1.2.2.2.2.1 r8.2.1.2.2.2.2.2.1 r8.2.1.2.2.2.2.2.2.1 r8.2.1.2.2.2.2.2.2.2.1) none λr10=>some (r9,r10)))) none λr11=>some ((more,(r0.1.1,(r8.1.1,(ine (ofN (List.length r11.2.1.1)) 0,())))),((r8.2.1.1.1,Qr r8.2.1.1.2 r11.1 r11.2.2.1.1),r11.2.2.1.2)))))) none λr12=>(bif r12.1.2.2.2.1 then some ((false,()),(r12.2,())) else (Q0 (l0 ((r12.1.1,r12.1.2.1,r12.1.2.2.1,(1:Int),()),r12.2)) none λr13=>(Q3S r13 (λr14=>(Q0 (l1 ((r14.1.1,r14.1.2.1,r14.1.2.2.1,(0:Int),()),r14.2)) none λr15=>(Q3S r15 (λr16=>(Q0 (cK96 r16.1.1 r16.1.2.1 r16.2.1 r16.2.2.1 r16.2.2.2.1) none λr17=>(bif r17.1.1 then (Q0 (cK97) none λr18=>some ((true,()),(r16.2,()))) else some ((false,()),(r16.2,()))))) (λr16=>some (r16.1,(r16.2,())))))) (λr14=>some (r14.1,(r14.2,())))))))))))
def K95:K95.T:=K95.gen K99 K91 Q2o K97.A K8 K44 K17 K16 K11 K15 Q1S K98 K94 K96 K95.F0 K95.F1 K95.F2
theorem K95.seq2 (cK99:K99.T) (cK91:K91.T) (cK151:Q2o.T) (cK97:Option Unit) (cK8:K8.T) (cK44:K44.T) (cK17:K17.T) (cK16:K16.T) (cK11:K11.T) (cK15:K15.T) (cK100:Q1S.T) (cK98:K98.T) (cK94:K94.T) (cK96:K96.T) (l0:K95.l0T) (l1:K95.l1T) (l2:K95.l2T) (a:K95.L2.T):run Tryz.prog (K95.H cK99 cK91 cK151 cK97 cK8 cK44 cK17 cK16 cK11 cK15 cK100 cK98 cK94 cK96 l0 l1 l2) 6 (Option (K95.L2.T⊕ExT K95.X2)) none K95.B2 (K95.L2.enc a) (Zi (0,8) K95.L2 K95.X2)=K95.Q7O cK99 cK91 cK151 cK97 cK8 cK44 cK17 cK16 cK11 cK15 cK100 cK98 cK94 cK96 a:=by kernel_rfl
abbrev K95.h:=K95.H K99 K91 Q2o K97.A K8 K44 K17 K16 K11 K15 Q1S K98 K94 K96 K95.F0 K95.F1 K95.F2
theorem K95.QaX:LO_ K95.h K95.B2 (Z9 (0,8) K95.L2 K95.X2 K95.F2):=lk_ (hn_ (Z0 (Z0 (Z0 (Z0 (Z0 (Z0 (Z0 (Z0 (Z0 (Z0 (Z0 (Z0 (Z0 (Z0 Z2 K99.ok) K91.ok) Q2o.ok) K97.okA) K8.ok) K44.ok) K17.ok) K16.ok) K11.ok) K15.ok) Q1S.ok) K98.ok) K94.ok) K96.ok)) (K95.seq2 K99 K91 Q2o K97.A K8 K44 K17 K16 K11 K15 Q1S K98 K94 K96 K95.F0 K95.F1 K95.F2)
theorem K95.seq1 (cK99:K99.T) (cK91:K91.T) (cK151:Q2o.T) (cK97:Option Unit) (cK8:K8.T) (cK44:K44.T) (cK17:K17.T) (cK16:K16.T) (cK11:K11.T) (cK15:K15.T) (cK100:Q1S.T) (cK98:K98.T) (cK94:K94.T) (cK96:K96.T) (l0:K95.l0T) (l1:K95.l1T) (l2:K95.l2T) (a:K95.L1.T):run Tryz.prog (K95.H cK99 cK91 cK151 cK97 cK8 cK44 cK17 cK16 cK11 cK15 cK100 cK98 cK94 cK96 l0 l1 l2) 6 (Option (K95.L1.T⊕ExT K95.X1)) none K95.B1 (K95.L1.enc a) (Zi (0,8) K95.L1 K95.X1)=K95.Q2A cK99 cK91 cK151 cK97 cK8 cK44 cK17 cK16 cK11 cK15 cK100 cK98 cK94 cK96 l2 a:=by kernel_rfl
theorem K95.Qaj:Z3 K95.B1= [(.loop K95.B2)]:=by kernel_rfl
theorem K95.Q5h:ZI U Tryz.prog K95.h.ro K95.h.base K95.B1 (Z9 (0,8) K95.L1 K95.X1 K95.F1):=
 Z2Q (Hn:=K95.h) Q61 Q4F (Z1F (hq (Z0 (Z0 (Z0 (Z0 (Z0 (Z0 (Z0 (Z0 (Z0 (Z0 (Z0 (Z0 (Z0 (Z0 Z2 K99.ok) K91.ok) Q2o.ok) K97.okA) K8.ok) K44.ok) K17.ok) K16.ok) K11.ok) K15.ok) Q1S.ok) K98.ok) K94.ok) K96.ok) (Z7 (by kernel_rfl) K95.QaX Z5) (λ_=>rfl) (λ_=>rfl)) 6) (λb h=>by rw [K95.Qaj] at h;exact h) (λ_=>rfl) (K95.seq1 K99 K91 Q2o K97.A K8 K44 K17 K16 K11 K15 Q1S K98 K94 K96 K95.F0 K95.F1 K95.F2)
theorem K95.Q24 (cK99:K99.T) (cK91:K91.T) (cK151:Q2o.T) (cK97:Option Unit) (cK8:K8.T) (cK44:K44.T) (cK17:K17.T) (cK16:K16.T) (cK11:K11.T) (cK15:K15.T) (cK100:Q1S.T) (cK98:K98.T) (cK94:K94.T) (cK96:K96.T) (l0:K95.l0T) (l1:K95.l1T) (l2:K95.l2T) (a:K95.L0.T):run Tryz.prog (K95.H cK99 cK91 cK151 cK97 cK8 cK44 cK17 cK16 cK11 cK15 cK100 cK98 cK94 cK96 l0 l1 l2) 6 (Option (K95.L0.T⊕ExT K95.X0)) none K95.B0 (K95.L0.enc a) (Zi (0,8) K95.L0 K95.X0)=K95.QO cK99 cK91 cK151 cK97 cK8 cK44 cK17 cK16 cK11 cK15 cK100 cK98 cK94 cK96 a:=by kernel_rfl
theorem K95.Q1V:LO_ K95.h K95.B0 (Z9 (0,8) K95.L0 K95.X0 K95.F0):=lk_ (hn_ (Z0 (Z0 (Z0 (Z0 (Z0 (Z0 (Z0 (Z0 (Z0 (Z0 (Z0 (Z0 (Z0 (Z0 Z2 K99.ok) K91.ok) Q2o.ok) K97.okA) K8.ok) K44.ok) K17.ok) K16.ok) K11.ok) K15.ok) Q1S.ok) K98.ok) K94.ok) K96.ok)) (K95.Q24 K99 K91 Q2o K97.A K8 K44 K17 K16 K11 K15 Q1S K98 K94 K96 K95.F0 K95.F1 K95.F2)
theorem K95.eq (cK99:K99.T) (cK91:K91.T) (cK151:Q2o.T) (cK97:Option Unit) (cK8:K8.T) (cK44:K44.T) (cK17:K17.T) (cK16:K16.T) (cK11:K11.T) (cK15:K15.T) (cK100:Q1S.T) (cK98:K98.T) (cK94:K94.T) (cK96:K96.T) (l0:K95.l0T) (l1:K95.l1T) (l2:K95.l2T):EqA K95.sig (K95.H cK99 cK91 cK151 cK97 cK8 cK44 cK17 cK16 cK11 cK15 cK100 cK98 cK94 cK96 l0 l1 l2) Tryz.f3 6 (K95.W (K95.gen cK99 cK91 cK151 cK97 cK8 cK44 cK17 cK16 cK11 cK15 cK100 cK98 cK94 cK96 l0 l1 l2)):=by intro a x;kernel_rfl
theorem K95.loops:Z3 K95.C= [(.loop K95.B0),(.loop K95.B1),(.loop K95.B2)]:=by kernel_rfl
theorem K95.hints:Q4c U Tryz.prog K95.h (λc=>c∈ [(.loop K95.B0),(.loop K95.B1),(.loop K95.B2)]):=(hq (Z0 (Z0 (Z0 (Z0 (Z0 (Z0 (Z0 (Z0 (Z0 (Z0 (Z0 (Z0 (Z0 (Z0 Z2 K99.ok) K91.ok) Q2o.ok) K97.okA) K8.ok) K44.ok) K17.ok) K16.ok) K11.ok) K15.ok) Q1S.ok) K98.ok) K94.ok) K96.ok) (Z7 (by kernel_rfl) K95.Q1V (Z7 (by kernel_rfl) K95.Q5h (Z7 (by kernel_rfl) K95.QaX Z5))) (λ_=>rfl) (λ_=>rfl))
end
end Go.Proofs.YtgnabnhggaondabGreat
