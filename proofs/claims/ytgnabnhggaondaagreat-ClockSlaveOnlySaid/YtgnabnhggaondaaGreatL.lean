/- For every input that its types allow the law ClockSlaveOnly returns true, and each argument reads behind the call as it read before. -/
import Derived.Test.YtgnabnhggaondaaGreatP
import Derived.Test.YtgnabnhggaondaaGreatRfD
import Derived.Test.YtgnabnhggaondaaGreatRows
import Derived.WalkKit
import Derived.ProofKit
import Derived.OpenShut
import Derived.ShutString
import Derived.ChangeOld
import Derived.Below
import Derived.SizedLaws
namespace Go.Proofs.YtgnabnhggaondaaGreat.clockSlaveOnly
open Go.ChangeShapes Go.WideShapes Go.ChangeAt Go.RowKit Go.Rf
set_option linter.unusedVariables false
set_option linter.unusedSimpArgs false
theorem own:ownKnob Tryz.prog.godebug=none:=by kernel_rfl
theorem laidOut:laidOutB Tryz.prog=true:=by kernel_rfl
set_option maxRecDepth 100000 in
theorem lifted (os:Os) (started:os.Started) (H:Type) (enc:TypeId×Value->H):
  ReturnsInHanded {} Tryz.checked os 8 .any (Rows.clockSlaveOnlySpec.pre6 enc Tryz.prog Tryz.f8 Rows.clockSlaveOnlyRow.domain false) (Rows.clockSlaveOnlySpec.post enc Tryz.prog Tryz.f8 false true false false):=by
 refine returnsInHanded_of_change_sized (C:=Tryz.checked) own started (by kernel_rfl) Tryz.func8
  (ChangeSpec.witness6 (enc:=enc) (C:=Tryz.checked) false ⟨#[],#[.int .i64 0,.slice none 0 0,.slice none 0 0],[]⟩ 12 (by kernel_rfl) (by kernel_rfl) (by kernel_rfl) (by kernel_rfl)) ?_
 intro W base args ds gs before hval0 hW hcnd hsz0 _
 have hsz:(DataW.weightsEach Tryz.prog (Tryz.f8.params.toList++Rows.clockSlaveOnlySpec.plain.varTypes Tryz.prog) (ds++gs)).all (· <=reachBytes)=true:=hsz0
 have hval:∀(j:Nat) t v,Tryz.f8.params[j]? =some t->args[j]? =some v->Value.okWide Tryz.prog W .any base t v:=hval0
 have hW':=hW
 obtain ⟨p,q,hA0,hV,rfl,hfz,hnd⟩:=hW
 have hA:DataW.TrodAll enc Tryz.prog W 0 (λ_=>true) true Tryz.f8.params.toList args.toList ds p:=hA0
 have hp:Tryz.f8.params.toList= [3,55,56]:=by rw [Tryz.params8]
 rw [hp] at hA hsz
 obtain ⟨rfl,rfl⟩:=trodVars_none hV
 have hwt:∀n∈DataW.weightsEach Tryz.prog [3,55,56] ds,n<=reachBytes:=λn hn=>by
  have hv0:Rows.clockSlaveOnlySpec.plain.varTypes Tryz.prog= []:=rfl
  rw [hv0,List.append_nil,List.append_nil,List.all_eq_true] at hsz
  simpa using hsz n hn
 obtain ⟨x,hx,hfit⟩:=Z6k (U:=U) (d:=20) Q5L decs [3,55,56] [.int .i64,.isl .int,.isl .Q1r] args.toList ds p hA (λj t v h1 h2=>hval j t v (by rw [←Array.getElem?_toList,hp];exact h1) (by rw [←Array.getElem?_toList];exact h2)) (by kernel_rfl) hwt
 have w0:(Lit.int .i64 x.1).wf=true:=(by obtain ⟨n,e,w⟩:=(show Q1T U Tryz.prog 3 (Q5O (.int .i64:Sh U.C) x.1 0).l from hfit.1).toInt Tryz.underlying3;cases e;exact w)
 have w1:(x.2.1.length*8<=reachBytes/\∀y∈x.2.1,(Lit.int .i64 y).wf=true):=(by obtain ⟨n,e,b,a⟩:=(show Q1T U Tryz.prog 55 (Q5O (.isl .int:Sh U.C) x.2.1 0).l from hfit.2.1).Q9Y (U:=U) (u:=UC.int) Tryz.underlying55 rfl;cases e;have zb:Tryz.prog.bytesOf 3=8:=(by kernel_rfl);rw [zb] at b;exact ⟨b,λy hy=>(by obtain ⟨n,e,w⟩:=(a y hy).toInt Tryz.underlying3;cases e;exact w)⟩)
 have w2:(x.2.2.1.length*472<=reachBytes/\∀y∈x.2.2.1,QF.Wf y):=(by obtain ⟨n,e,b,a⟩:=(show Q1T U Tryz.prog 56 (Q5O (.isl .Q1r:Sh U.C) x.2.2.1 0).l from hfit.2.2.1).Q9Y (U:=U) (u:=UC.Q1r) Tryz.underlying56 rfl;cases e;have zb:Tryz.prog.bytesOf 60=472:=(by kernel_rfl);rw [zb] at b;exact ⟨b,λy hy=>(by obtain ⟨x,e,w⟩:=QF.opened (a y hy);have:=QF.Q88 e;subst this;exact w)⟩)
 obtain ⟨y0,hF⟩:=K86.law x.1 x.2.1 x.2.2.1 w0 w1 w2
 have hC:=Z9l (U:=U) (P:=Tryz.prog) (ss:= [.int .i64,.isl .int,.isl .Q1r]) (fs:= [.fam 0 (.obj .Q7),.fam 5 (.obj .Q1x),.fam 6 (.obj .Qy),.fam 7 (.obj .Q10),.fam 8 (.obj .Q11),.fam 9 (.obj .Q18),.fam 10 (.obj .Q1j),.fam 12 (.map true false .Qt .Q1P)]) (w:=W) (gos:=6) (x:=x) K86.hints
  Tryz.func8 (show Tryz.f8.body=some K86.C by kernel_rfl) (λb h=>by rw [K86.loops] at h;exact h) ((K86.eq K83 Q2i K87.A K36 K89 K88 K10 K8 K9 K86.F0 K86.F1 K86.F2 x (Q66 (U:=U) [.fam 0 (.obj .Q7),.fam 5 (.obj .Q1x),.fam 6 (.obj .Qy),.fam 7 (.obj .Q10),.fam 8 (.obj .Q11),.fam 9 (.obj .Q18),.fam 10 (.obj .Q1j),.fam 12 (.map true false .Qt .Q1P)])).trans hF) (by decide) rfl rfl (by decide) (by decide) (by decide) hx
 have hlt:=Z5G hA
 have hback:=λW' (bel:Below W.heap.size W W')=>Z49 laidOut bel (λt ht=>of_decide_eq_true (List.all_eq_true.1 (by kernel_rfl:([3,55,56]:List TypeId).all (λt=>decide (Tryz.prog.readableRec t=true/\t < Tryz.prog.types.size))=true) t ht)) hA
 obtain ⟨v0,vs0,d0,ds0,p0,q0,ha,rfl,rfl,h0,r0⟩:=trodAll_cons hA
 obtain ⟨v1,vs1,d1,ds1,p1,q1,rfl,rfl,rfl,h1,r1⟩:=trodAll_cons r0
 obtain ⟨v2,vs2,d2,ds2,p2,q2,rfl,rfl,rfl,h2,r2⟩:=trodAll_cons r1
 obtain ⟨rfl,rfl,rfl⟩:=trodAll_nil r2
 refine hC.mono λe W' ⟨he,bel⟩=>?_
 subst he
 have hb:=hback W' bel
 rw [←hp] at hb
 exact ⟨_,rfl,_,_,_,[],_,[],hW',trodAll_mk1 (shut_bool Tryz.underlying4 _),hb,rfl,bel.frame _,λh=>by cases h⟩
theorem two {a b:Bool} (h:a=true) (k:b=true):(a && b)=true:=by rw [h,k];rfl
theorem k0:(Rows.clockSlaveOnlyRow.wf (OpenSpec.ofChange Rows.clockSlaveOnlySpec))=true:=by kernel_rfl
theorem k1:(laidOutB Tryz.prog)=true:=by kernel_rfl
theorem k2:(mapsRowed Tryz.prog)=true:=by kernel_rfl
theorem k3:(Tryz.f8.params.all (Tryz.prog.readableRec ·))=true:=by kernel_rfl
theorem k4:(namedTie Tryz.prog Rows.clockSlaveOnlyRow.named Rows.clockSlaveOnlySpec.vars)=true:=by kernel_rfl
theorem k5:((Rows.clockSlaveOnlyRow.stops== []))=true:=by kernel_rfl
theorem k6:((Tryz.prog.stops== []))=true:=by kernel_rfl
theorem k7:((Rows.clockSlaveOnlyRow.knobs== []))=true:=by kernel_rfl
theorem k8:((Tryz.prog.stopKnobs== []))=true:=by kernel_rfl
theorem k9:((Rows.clockSlaveOnlyRow.inPlace==Tryz.prog.inPlace 8))=true:=by kernel_rfl
theorem k10:((Rows.clockSlaveOnlyRow.unfollowed==Tryz.prog.unfollowed 8))=true:=by kernel_rfl
theorem k11:((Rows.clockSlaveOnlyRow.recurses==Tryz.prog.recurses 8))=true:=by kernel_rfl
theorem k12:((Rows.clockSlaveOnlyRow.named==Tryz.prog.varsNamed 8))=true:=by kernel_rfl
theorem k13:((Rows.clockSlaveOnlyRow.maps==(Tryz.f8.params.toList++Rows.clockSlaveOnlySpec.plain.varTypes Tryz.prog).any (Tryz.prog.mapsRec ·)))=true:=by kernel_rfl
theorem k14:((Rows.clockSlaveOnlyRow.ifaces==(Tryz.f8.params.toList++Rows.clockSlaveOnlySpec.plain.varTypes Tryz.prog).any (Tryz.prog.ifacesRec ·)))=true:=by kernel_rfl
theorem k15:((Rows.clockSlaveOnlyRow.mapsOut==Tryz.prog.mapsAmong Tryz.f8.resultTypes.toList))=true:=by kernel_rfl
theorem k16:((Rows.clockSlaveOnlyRow.loops==(Tryz.f8.params.toList++Rows.clockSlaveOnlySpec.plain.varTypes Tryz.prog).any (Tryz.prog.loopsFrom ·)))=true:=by kernel_rfl
theorem k17:((Rows.clockSlaveOnlyRow.wideKeys==(Tryz.f8.params.toList++Rows.clockSlaveOnlySpec.plain.varTypes Tryz.prog++Tryz.f8.resultTypes.toList).any (Tryz.prog.wideKeysFrom ·)))=true:=by kernel_rfl
theorem k18:(Rows.clockSlaveOnlySpec.vars.all (Tryz.prog.varReadable ·))=true:=by kernel_rfl
theorem k19:(Tryz.f8.resultTypes.all (λt=>Tryz.prog.readableRec t && decide (t < Tryz.prog.types.size)))=true:=by kernel_rfl
theorem k20:((Rows.clockSlaveOnlyRow.ifacesOut==Tryz.f8.resultTypes.toList.any (Tryz.prog.ifacesRec ·)))=true:=by kernel_rfl
theorem k21:((Rows.clockSlaveOnlyRow.loopsOut==Tryz.f8.resultTypes.toList.any (Tryz.prog.loopsFrom ·)))=true:=by kernel_rfl
theorem k22:((Rows.clockSlaveOnlyRow.plainKeys==Tryz.prog.plainKeys))=true:=by kernel_rfl
theorem k23:(Rows.clockSlaveOnlyRow.shortTexts.isNone)=true:=by kernel_rfl
theorem k24:(Tryz.prog.stopsHeard)=true:=by kernel_rfl
theorem k25:(Tryz.prog.mayEnter)=true:=by kernel_rfl
theorem k26:((Rows.clockSlaveOnlyRow.lifted==Tryz.prog.liftsFinal))=true:=by kernel_rfl
theorem k27:((Tryz.prog.make==some Rows.clockSlaveOnlyRow.make))=true:=by kernel_rfl
theorem k28:((Rows.clockSlaveOnlyRow.kinds==(if Rows.clockSlaveOnlyRow.domain.isEmpty then [] else Tryz.f8.params.toList.map λt=>match Tryz.prog.underlying t with|some (.int k)=>some k|_=>none)))=true:=by kernel_rfl
theorem k29:((Rows.clockSlaveOnlyRow.pinned==Rows.clockSlaveOnlyRow.pinnedBy))=true:=by kernel_rfl
theorem k30:((Rows.clockSlaveOnlyRow.veiled==(Tryz.f8.params.toList++Rows.clockSlaveOnlySpec.plain.varTypes Tryz.prog++Tryz.f8.resultTypes.toList).any (Tryz.prog.veiledRec ·)))=true:=by kernel_rfl
theorem k31:(Rows.clockSlaveOnlyRow.veiledFits Tryz.prog Tryz.f8.params.toList (Tryz.f8.params.toList++Rows.clockSlaveOnlySpec.plain.varTypes Tryz.prog++Tryz.f8.resultTypes.toList))=true:=by kernel_rfl
set_option maxRecDepth 100000 in
theorem kAll:joinedFacts Tryz.prog 8 Tryz.f8 Rows.clockSlaveOnlySpec Rows.clockSlaveOnlyRow=true:=by unfold joinedFacts;exact (two (two (two (two (two (two (two (two (two (two (two (two (two (two (two (two (two (two (two (two (two (two (two (two (two (two (two (two (two (two (two k0 k1) k2) k3) k4) k5) k6) k7) k8) k9) k10) k11) k12) k13) k14) k15) k16) k17) k18) k19) k20) k21) k22) k23) k24) k25) k26) k27) k28) k29) k30) k31)
theorem kName:Tryz.prog.funcNamed Rows.clockSlaveOnlyRow.func=some 8:=by kernel_rfl
theorem kInst:Tryz.f8.isInstance Tryz.prog Rows.clockSlaveOnlyRow.origin Rows.clockSlaveOnlyRow.targs:=of_decide_eq_true (by kernel_rfl)
theorem kWrap:Tryz.f8.isWrapper Tryz.prog Rows.clockSlaveOnlyRow.wrapper Rows.clockSlaveOnlyRow.mainSum:=by unfold Func.isWrapper;first|(rw [if_pos (by decide+kernel)];kernel_rfl)|(rw [if_neg (by decide+kernel)];exact ⟨rfl,rfl⟩)
theorem over:Rows.clockSlaveOnlyRow.holds Tryz.pinned (OpenSpec.ofChange Rows.clockSlaveOnlySpec):=
 OpenClaim.holds_of_wide 8 Tryz.f8 rfl rfl rfl rfl rfl rfl rfl ⟨rfl,rfl,rfl,rfl,rfl⟩ rfl rfl rfl rfl rfl kName Tryz.func8 kAll kInst kWrap
  (λos started H enc _=>lifted os started H enc)
theorem proved:Rows.ClockSlaveOnlySaid:=over
#print axioms proved
end Go.Proofs.YtgnabnhggaondaaGreat.clockSlaveOnly
