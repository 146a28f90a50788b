/- For every input that its types allow the law ClockRestarts returns true, and each argument reads behind the call as it read before. -/
import Derived.Test.YtgnabnhggaondabGreatP
import Derived.Test.YtgnabnhggaondabGreatRfD
import Derived.Test.YtgnabnhggaondabGreatRows
import Derived.WalkKit
import Derived.ProofKit
import Derived.OpenShut
import Derived.ShutString
import Derived.ChangeOld
import Derived.Below
import Derived.SizedLaws
namespace Go.Proofs.YtgnabnhggaondabGreat.clockRestarts
open Go.ChangeShapes Go.WideShapes Go.ChangeAt Go.RowKit Go.Rf
set_option linter.unusedVariables false
set_option linter.unusedSimpArgs false
theorem own:ownKnob Tryz.prog.godebug=none:=by kernel_rfl
theorem laidOut:laidOutB Tryz.prog=true:=by kernel_rfl
set_option maxRecDepth 100000 in
theorem lifted (os:Os) (started:os.Started) (H:Type) (enc:TypeId×Value->H):
  ReturnsInHanded {} Tryz.checked os 3 .any (Rows.clockRestartsSpec.pre6 enc Tryz.prog Tryz.f3 Rows.clockRestartsRow.domain false) (Rows.clockRestartsSpec.post enc Tryz.prog Tryz.f3 false true false false):=by
 refine returnsInHanded_of_change_sized (C:=Tryz.checked) own started (by kernel_rfl) Tryz.func3
  (ChangeSpec.witness6 (enc:=enc) (C:=Tryz.checked) false ⟨#[],#[.int .i64 0,.slice none 0 0,.slice none 0 0,.slice none 0 0],[]⟩ 12 (by kernel_rfl) (by kernel_rfl) (by kernel_rfl) (by kernel_rfl)) ?_
 intro W base args ds gs before hval0 hW hcnd hsz0 _
 have hsz:(DataW.weightsEach Tryz.prog (Tryz.f3.params.toList++Rows.clockRestartsSpec.plain.varTypes Tryz.prog) (ds++gs)).all (· <=reachBytes)=true:=hsz0
 have hval:∀(j:Nat) t v,Tryz.f3.params[j]? =some t->args[j]? =some v->Value.okWide Tryz.prog W .any base t v:=hval0
 have hW':=hW
 obtain ⟨p,q,hA0,hV,rfl,hfz,hnd⟩:=hW
 have hA:DataW.TrodAll enc Tryz.prog W 0 (λ_=>true) true Tryz.f3.params.toList args.toList ds p:=hA0
 have hp:Tryz.f3.params.toList= [3,22,23,23]:=by rw [Tryz.params3]
 rw [hp] at hA hsz
 obtain ⟨rfl,rfl⟩:=trodVars_none hV
 have hwt:∀n∈DataW.weightsEach Tryz.prog [3,22,23,23] ds,n<=reachBytes:=λn hn=>by
  have hv0:Rows.clockRestartsSpec.plain.varTypes Tryz.prog= []:=rfl
  rw [hv0,List.append_nil,List.append_nil,List.all_eq_true] at hsz
  simpa using hsz n hn
 obtain ⟨x,hx,hfit⟩:=Z6s (U:=U) (d:=20) Q61 decs [3,22,23,23] [.int .i64,.isl .int,.isl .Q1n,.isl .Q1n] args.toList ds p hA (λj t v h1 h2=>hval j t v (by rw [←Array.getElem?_toList,hp];exact h1) (by rw [←Array.getElem?_toList];exact h2)) (by kernel_rfl) hwt
 have w0:(Lit.int .i64 x.1).wf=true:=(by obtain ⟨n,e,w⟩:=(show Q1Y U Tryz.prog 3 (Q6w (.int .i64:Sh U.C) x.1 0).l from hfit.1).toInt Tryz.underlying3;cases e;exact w)
 have w1:(x.2.1.length*8<=reachBytes/\∀y∈x.2.1,(Lit.int .i64 y).wf=true):=(by obtain ⟨n,e,b,a⟩:=(show Q1Y U Tryz.prog 22 (Q6w (.isl .int:Sh U.C) x.2.1 0).l from hfit.2.1).Q9W (U:=U) (u:=UC.int) Tryz.underlying22 rfl;cases e;have zb:Tryz.prog.bytesOf 3=8:=(by kernel_rfl);rw [zb] at b;exact ⟨b,λy hy=>(by obtain ⟨n,e,w⟩:=(a y hy).toInt Tryz.underlying3;cases e;exact w)⟩)
 have w2:(x.2.2.1.length*472<=reachBytes/\∀y∈x.2.2.1,QD.Wf y):=(by obtain ⟨n,e,b,a⟩:=(show Q1Y U Tryz.prog 23 (Q6w (.isl .Q1n:Sh U.C) x.2.2.1 0).l from hfit.2.2.1).Q9W (U:=U) (u:=UC.Q1n) Tryz.underlying23 rfl;cases e;have zb:Tryz.prog.bytesOf 54=472:=(by kernel_rfl);rw [zb] at b;exact ⟨b,λy hy=>(by obtain ⟨x,e,w⟩:=QD.opened (a y hy);have:=QD.Q8l e;subst this;exact w)⟩)
 have w3:(x.2.2.2.1.length*472<=reachBytes/\∀y∈x.2.2.2.1,QD.Wf y):=(by obtain ⟨n,e,b,a⟩:=(show Q1Y U Tryz.prog 23 (Q6w (.isl .Q1n:Sh U.C) x.2.2.2.1 0).l from hfit.2.2.2.1).Q9W (U:=U) (u:=UC.Q1n) Tryz.underlying23 rfl;cases e;have zb:Tryz.prog.bytesOf 54=472:=(by kernel_rfl);rw [zb] at b;exact ⟨b,λy hy=>(by obtain ⟨x,e,w⟩:=QD.opened (a y hy);have:=QD.Q8l e;subst this;exact w)⟩)
 obtain ⟨y0,hF⟩:=K95.law x.1 x.2.1 x.2.2.1 x.2.2.2.1 w0 w1 w2 w3
 have hC:=Z9i (U:=U) (P:=Tryz.prog) (ss:= [.int .i64,.isl .int,.isl .Q1n,.isl .Q1n]) (fs:= [.fam 0 (.obj .Q7),.fam 1 (.obj .Q1t),.fam 2 (.obj .QA),.fam 3 (.obj .Q14),.fam 4 (.obj .Q15),.fam 5 (.obj .Q19),.fam 6 (.obj .Q1k),.fam 7 (.map true false .Qw .Q1R)]) (w:=W) (gos:=6) (x:=x) K95.hints
  Tryz.func3 (show Tryz.f3.body=some K95.C by kernel_rfl) (λb h=>by rw [K95.loops] at h;exact h) ((K95.eq K99 K91 Q2o K97.A K8 K44 K17 K16 K11 K15 Q1S K98 K94 K96 K95.F0 K95.F1 K95.F2 x (Q6f (U:=U) [.fam 0 (.obj .Q7),.fam 1 (.obj .Q1t),.fam 2 (.obj .QA),.fam 3 (.obj .Q14),.fam 4 (.obj .Q15),.fam 5 (.obj .Q19),.fam 6 (.obj .Q1k),.fam 7 (.map true false .Qw .Q1R)])).trans hF) (by decide) rfl rfl (by decide) (by decide) (by decide) hx
 have hlt:=Z5J hA
 have hback:=λW' (bel:Below W.heap.size W W')=>Z4w laidOut bel (λt ht=>of_decide_eq_true (List.all_eq_true.1 (by kernel_rfl:([3,22,23,23]:List TypeId).all (λt=>decide (Tryz.prog.readableRec t=true/\t < Tryz.prog.types.size))=true) t ht)) hA
 obtain ⟨v0,vs0,d0,ds0,p0,q0,ha,rfl,rfl,h0,r0⟩:=trodAll_cons hA
 obtain ⟨v1,vs1,d1,ds1,p1,q1,rfl,rfl,rfl,h1,r1⟩:=trodAll_cons r0
 obtain ⟨v2,vs2,d2,ds2,p2,q2,rfl,rfl,rfl,h2,r2⟩:=trodAll_cons r1
 obtain ⟨v3,vs3,d3,ds3,p3,q3,rfl,rfl,rfl,h3,r3⟩:=trodAll_cons r2
 obtain ⟨rfl,rfl,rfl⟩:=trodAll_nil r3
 refine hC.mono λe W' ⟨he,bel⟩=>?_
 subst he
 have hb:=hback W' bel
 rw [←hp] at hb
 exact ⟨_,rfl,_,_,_,[],_,[],hW',trodAll_mk1 (shut_bool Tryz.underlying4 _),hb,rfl,bel.frame _,λh=>by cases h⟩
theorem two {a b:Bool} (h:a=true) (k:b=true):(a && b)=true:=by rw [h,k];rfl
theorem k0:(Rows.clockRestartsRow.wf (OpenSpec.ofChange Rows.clockRestartsSpec))=true:=by kernel_rfl
theorem k1:(laidOutB Tryz.prog)=true:=by kernel_rfl
theorem k2:(mapsRowed Tryz.prog)=true:=by kernel_rfl
theorem k3:(Tryz.f3.params.all (Tryz.prog.readableRec ·))=true:=by kernel_rfl
theorem k4:(namedTie Tryz.prog Rows.clockRestartsRow.named Rows.clockRestartsSpec.vars)=true:=by kernel_rfl
theorem k5:((Rows.clockRestartsRow.stops== []))=true:=by kernel_rfl
theorem k6:((Tryz.prog.stops== []))=true:=by kernel_rfl
theorem k7:((Rows.clockRestartsRow.knobs== []))=true:=by kernel_rfl
theorem k8:((Tryz.prog.stopKnobs== []))=true:=by kernel_rfl
theorem k9:((Rows.clockRestartsRow.inPlace==Tryz.prog.inPlace 3))=true:=by kernel_rfl
theorem k10:((Rows.clockRestartsRow.unfollowed==Tryz.prog.unfollowed 3))=true:=by kernel_rfl
theorem k11:((Rows.clockRestartsRow.recurses==Tryz.prog.recurses 3))=true:=by kernel_rfl
theorem k12:((Rows.clockRestartsRow.named==Tryz.prog.varsNamed 3))=true:=by kernel_rfl
theorem k13:((Rows.clockRestartsRow.maps==(Tryz.f3.params.toList++Rows.clockRestartsSpec.plain.varTypes Tryz.prog).any (Tryz.prog.mapsRec ·)))=true:=by kernel_rfl
theorem k14:((Rows.clockRestartsRow.ifaces==(Tryz.f3.params.toList++Rows.clockRestartsSpec.plain.varTypes Tryz.prog).any (Tryz.prog.ifacesRec ·)))=true:=by kernel_rfl
theorem k15:((Rows.clockRestartsRow.mapsOut==Tryz.prog.mapsAmong Tryz.f3.resultTypes.toList))=true:=by kernel_rfl
theorem k16:((Rows.clockRestartsRow.loops==(Tryz.f3.params.toList++Rows.clockRestartsSpec.plain.varTypes Tryz.prog).any (Tryz.prog.loopsFrom ·)))=true:=by kernel_rfl
theorem k17:((Rows.clockRestartsRow.wideKeys==(Tryz.f3.params.toList++Rows.clockRestartsSpec.plain.varTypes Tryz.prog++Tryz.f3.resultTypes.toList).any (Tryz.prog.wideKeysFrom ·)))=true:=by kernel_rfl
theorem k18:(Rows.clockRestartsSpec.vars.all (Tryz.prog.varReadable ·))=true:=by kernel_rfl
theorem k19:(Tryz.f3.resultTypes.all (λt=>Tryz.prog.readableRec t && decide (t < Tryz.prog.types.size)))=true:=by kernel_rfl
theorem k20:((Rows.clockRestartsRow.ifacesOut==Tryz.f3.resultTypes.toList.any (Tryz.prog.ifacesRec ·)))=true:=by kernel_rfl
theorem k21:((Rows.clockRestartsRow.loopsOut==Tryz.f3.resultTypes.toList.any (Tryz.prog.loopsFrom ·)))=true:=by kernel_rfl
theorem k22:((Rows.clockRestartsRow.plainKeys==Tryz.prog.plainKeys))=true:=by kernel_rfl
theorem k23:(Rows.clockRestartsRow.shortTexts.isNone)=true:=by kernel_rfl
theorem k24:(Tryz.prog.stopsHeard)=true:=by kernel_rfl
theorem k25:(Tryz.prog.mayEnter)=true:=by kernel_rfl
theorem k26:((Rows.clockRestartsRow.lifted==Tryz.prog.liftsFinal))=true:=by kernel_rfl
theorem k27:((Tryz.prog.make==some Rows.clockRestartsRow.make))=true:=by kernel_rfl
theorem k28:((Rows.clockRestartsRow.kinds==(if Rows.clockRestartsRow.domain.isEmpty then [] else Tryz.f3.params.toList.map λt=>match Tryz.prog.underlying t with|some (.int k)=>some k|_=>none)))=true:=by kernel_rfl
theorem k29:((Rows.clockRestartsRow.pinned==Rows.clockRestartsRow.pinnedBy))=true:=by kernel_rfl
theorem k30:((Rows.clockRestartsRow.veiled==(Tryz.f3.params.toList++Rows.clockRestartsSpec.plain.varTypes Tryz.prog++Tryz.f3.resultTypes.toList).any (Tryz.prog.veiledRec ·)))=true:=by kernel_rfl
theorem k31:(Rows.clockRestartsRow.veiledFits Tryz.prog Tryz.f3.params.toList (Tryz.f3.params.toList++Rows.clockRestartsSpec.plain.varTypes Tryz.prog++Tryz.f3.resultTypes.toList))=true:=by kernel_rfl
set_option maxRecDepth 100000 in
theorem kAll:joinedFacts Tryz.prog 3 Tryz.f3 Rows.clockRestartsSpec Rows.clockRestartsRow=true:=by unfold joinedFacts;exact (two (two (two (two (two (two (two (two (two (two (two (two (two (two (two (two (two (two (two (two (two (two (two (two (two (two (two (two (two (two (two k0 k1) k2) k3) k4) k5) k6) k7) k8) k9) k10) k11) k12) k13) k14) k15) k16) k17) k18) k19) k20) k21) k22) k23) k24) k25) k26) k27) k28) k29) k30) k31)
theorem kName:Tryz.prog.funcNamed Rows.clockRestartsRow.func=some 3:=by kernel_rfl
theorem kInst:Tryz.f3.isInstance Tryz.prog Rows.clockRestartsRow.origin Rows.clockRestartsRow.targs:=of_decide_eq_true (by kernel_rfl)
theorem kWrap:Tryz.f3.isWrapper Tryz.prog Rows.clockRestartsRow.wrapper Rows.clockRestartsRow.mainSum:=by unfold Func.isWrapper;first|(rw [if_pos (by decide+kernel)];kernel_rfl)|(rw [if_neg (by decide+kernel)];exact ⟨rfl,rfl⟩)
theorem over:Rows.clockRestartsRow.holds Tryz.pinned (OpenSpec.ofChange Rows.clockRestartsSpec):=
 OpenClaim.holds_of_wide 3 Tryz.f3 rfl rfl rfl rfl rfl rfl rfl ⟨rfl,rfl,rfl,rfl,rfl⟩ rfl rfl rfl rfl rfl kName Tryz.func3 kAll kInst kWrap
  (λos started H enc _=>lifted os started H enc)
theorem proved:Rows.ClockRestartsSaid:=over
#print axioms proved
end Go.Proofs.YtgnabnhggaondabGreat.clockRestarts
