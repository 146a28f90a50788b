/- For every input that its types allow the law ClockSpoilt returns true, and each argument reads behind the call as it read before. -/
import Derived.Test.YtgnabnhggaondaaGreatP
import Derived.Test.YtgnabnhggaondaaGreatRfD
import Derived.Test.YtgnabnhggaondaaGreatRows
import Derived.WalkKit
import Derived.ProofKit
import Derived.OpenShut
import Derived.ShutString
import Derived.ChangeOld
import Derived.Below
import Derived.SizedLaws
namespace Go.Proofs.YtgnabnhggaondaaGreat.clockSpoilt
open Go.ChangeShapes Go.WideShapes Go.ChangeAt Go.RowKit Go.Rf
set_option linter.unusedVariables false
set_option linter.unusedSimpArgs false
theorem own:ownKnob Tryz.prog.godebug=none:=by kernel_rfl
theorem laidOut:laidOutB Tryz.prog=true:=by kernel_rfl
set_option maxRecDepth 100000 in
theorem lifted (os:Os) (started:os.Started) (H:Type) (enc:TypeId×Value->H):
  ReturnsInHanded {} Tryz.checked os 11 .any (Rows.clockSpoiltSpec.pre6 enc Tryz.prog Tryz.f11 Rows.clockSpoiltRow.domain false) (Rows.clockSpoiltSpec.post enc Tryz.prog Tryz.f11 false true false false):=by
 refine returnsInHanded_of_change_sized (C:=Tryz.checked) own started (by kernel_rfl) Tryz.func11
  (ChangeSpec.witness6 (enc:=enc) (C:=Tryz.checked) false ⟨#[],#[.int .i64 0,.slice none 0 0,.slice none 0 0,.int .i64 0,.string ByteArray.empty,.slice none 0 0],[]⟩ 12 (by kernel_rfl) (by kernel_rfl) (by kernel_rfl) (by kernel_rfl)) ?_
 intro W base args ds gs before hval0 hW hcnd hsz0 _
 have hsz:(DataW.weightsEach Tryz.prog (Tryz.f11.params.toList++Rows.clockSpoiltSpec.plain.varTypes Tryz.prog) (ds++gs)).all (· <=reachBytes)=true:=hsz0
 have hval:∀(j:Nat) t v,Tryz.f11.params[j]? =some t->args[j]? =some v->Value.okWide Tryz.prog W .any base t v:=hval0
 have hW':=hW
 obtain ⟨p,q,hA0,hV,rfl,hfz,hnd⟩:=hW
 have hA:DataW.TrodAll enc Tryz.prog W 0 (λ_=>true) true Tryz.f11.params.toList args.toList ds p:=hA0
 have hp:Tryz.f11.params.toList= [3,55,56,3,9,56]:=by rw [Tryz.params11]
 rw [hp] at hA hsz
 obtain ⟨rfl,rfl⟩:=trodVars_none hV
 have hwt:∀n∈DataW.weightsEach Tryz.prog [3,55,56,3,9,56] ds,n<=reachBytes:=λn hn=>by
  have hv0:Rows.clockSpoiltSpec.plain.varTypes Tryz.prog= []:=rfl
  rw [hv0,List.append_nil,List.append_nil,List.all_eq_true] at hsz
  simpa using hsz n hn
 obtain ⟨x,hx,hfit⟩:=Z6s (U:=U) (d:=20) Q5L decs [3,55,56,3,9,56] [.int .i64,.isl .int,.isl .Q1r,.int .i64,.str,.isl .Q1r] args.toList ds p hA (λj t v h1 h2=>hval j t v (by rw [←Array.getElem?_toList,hp];exact h1) (by rw [←Array.getElem?_toList];exact h2)) (by kernel_rfl) hwt
 have w0:(Lit.int .i64 x.1).wf=true:=(by obtain ⟨n,e,w⟩:=(show Q1T U Tryz.prog 3 (Q5J (.int .i64:Sh U.C) x.1 0).l from hfit.1).toInt Tryz.underlying3;cases e;exact w)
 have w1:(x.2.1.length*8<=reachBytes/\∀y∈x.2.1,(Lit.int .i64 y).wf=true):=(by obtain ⟨n,e,b,a⟩:=(show Q1T U Tryz.prog 55 (Q5J (.isl .int:Sh U.C) x.2.1 0).l from hfit.2.1).Q9E (U:=U) (u:=UC.int) Tryz.underlying55 rfl;cases e;have zb:Tryz.prog.bytesOf 3=8:=(by kernel_rfl);rw [zb] at b;exact ⟨b,λy hy=>(by obtain ⟨n,e,w⟩:=(a y hy).toInt Tryz.underlying3;cases e;exact w)⟩)
 have w2:(x.2.2.1.length*472<=reachBytes/\∀y∈x.2.2.1,QF.Wf y):=(by obtain ⟨n,e,b,a⟩:=(show Q1T U Tryz.prog 56 (Q5J (.isl .Q1r:Sh U.C) x.2.2.1 0).l from hfit.2.2.1).Q9E (U:=U) (u:=UC.Q1r) Tryz.underlying56 rfl;cases e;have zb:Tryz.prog.bytesOf 60=472:=(by kernel_rfl);rw [zb] at b;exact ⟨b,λy hy=>(by obtain ⟨x,e,w⟩:=QF.opened (a y hy);have:=QF.Q89 e;subst this;exact w)⟩)
 have w3:(Lit.int .i64 x.2.2.2.1).wf=true:=(by obtain ⟨n,e,w⟩:=(show Q1T U Tryz.prog 3 (Q5J (.int .i64:Sh U.C) x.2.2.2.1 0).l from hfit.2.2.2.1).toInt Tryz.underlying3;cases e;exact w)
 have w4:x.2.2.2.2.1.size<=reachBytes:=(by obtain ⟨n,e,w⟩:=(show Q1T U Tryz.prog 9 (Q5J (.str:Sh U.C) x.2.2.2.2.1 0).l from hfit.2.2.2.2.1).toStr Tryz.underlying9;cases e;exact w)
 have w5:(x.2.2.2.2.2.1.length*472<=reachBytes/\∀y∈x.2.2.2.2.2.1,QF.Wf y):=(by obtain ⟨n,e,b,a⟩:=(show Q1T U Tryz.prog 56 (Q5J (.isl .Q1r:Sh U.C) x.2.2.2.2.2.1 0).l from hfit.2.2.2.2.2.1).Q9E (U:=U) (u:=UC.Q1r) Tryz.underlying56 rfl;cases e;have zb:Tryz.prog.bytesOf 60=472:=(by kernel_rfl);rw [zb] at b;exact ⟨b,λy hy=>(by obtain ⟨x,e,w⟩:=QF.opened (a y hy);have:=QF.Q89 e;subst this;exact w)⟩)
 obtain ⟨y0,hF⟩:=K89.law x.1 x.2.1 x.2.2.1 x.2.2.2.1 x.2.2.2.2.1 x.2.2.2.2.2.1 w0 w1 w2 w3 w4 w5
 have hC:=Z9p (U:=U) (P:=Tryz.prog) (ss:= [.int .i64,.isl .int,.isl .Q1r,.int .i64,.str,.isl .Q1r]) (fs:= [.fam 0 (.obj .Q7),.fam 5 (.obj .Q1w),.fam 6 (.obj .Qy),.fam 7 (.obj .Q10),.fam 8 (.obj .Q11),.fam 9 (.obj .Q18),.fam 10 (.obj .Q1j),.fam 12 (.map true false .Qu .Q1O)]) (w:=W) (gos:=6) (x:=x) K89.hints
  Tryz.func11 (show Tryz.f11.body=some K89.C by kernel_rfl) (λb h=>by rw [K89.loops] at h;exact h) ((K89.eq K90.A K71 K92 K12 K8 K93 K91 K88 K10 K9 K11 K89.F0 K89.F1 x (Q63 (U:=U) [.fam 0 (.obj .Q7),.fam 5 (.obj .Q1w),.fam 6 (.obj .Qy),.fam 7 (.obj .Q10),.fam 8 (.obj .Q11),.fam 9 (.obj .Q18),.fam 10 (.obj .Q1j),.fam 12 (.map true false .Qu .Q1O)])).trans hF) (by decide) rfl rfl (by decide) (by decide) (by decide) hx
 have hlt:=Z5S hA
 have hback:=λW' (bel:Below W.heap.size W W')=>Z4A laidOut bel (λt ht=>of_decide_eq_true (List.all_eq_true.1 (by kernel_rfl:([3,55,56,3,9,56]:List TypeId).all (λt=>decide (Tryz.prog.readableRec t=true/\t < Tryz.prog.types.size))=true) t ht)) hA
 obtain ⟨v0,vs0,d0,ds0,p0,q0,ha,rfl,rfl,h0,r0⟩:=trodAll_cons hA
 obtain ⟨v1,vs1,d1,ds1,p1,q1,rfl,rfl,rfl,h1,r1⟩:=trodAll_cons r0
 obtain ⟨v2,vs2,d2,ds2,p2,q2,rfl,rfl,rfl,h2,r2⟩:=trodAll_cons r1
 obtain ⟨v3,vs3,d3,ds3,p3,q3,rfl,rfl,rfl,h3,r3⟩:=trodAll_cons r2
 obtain ⟨v4,vs4,d4,ds4,p4,q4,rfl,rfl,rfl,h4,r4⟩:=trodAll_cons r3
 obtain ⟨v5,vs5,d5,ds5,p5,q5,rfl,rfl,rfl,h5,r5⟩:=trodAll_cons r4
 obtain ⟨rfl,rfl,rfl⟩:=trodAll_nil r5
 refine hC.mono λe W' ⟨he,bel⟩=>?_
 subst he
 have hb:=hback W' bel
 rw [←hp] at hb
 exact ⟨_,rfl,_,_,_,[],_,[],hW',trodAll_mk1 (shut_bool Tryz.underlying4 _),hb,rfl,bel.frame _,λh=>by cases h⟩
theorem two {a b:Bool} (h:a=true) (k:b=true):(a && b)=true:=by rw [h,k];rfl
theorem k0:(Rows.clockSpoiltRow.wf (OpenSpec.ofChange Rows.clockSpoiltSpec))=true:=by kernel_rfl
theorem k1:(laidOutB Tryz.prog)=true:=by kernel_rfl
theorem k2:(mapsRowed Tryz.prog)=true:=by kernel_rfl
theorem k3:(Tryz.f11.params.all (Tryz.prog.readableRec ·))=true:=by kernel_rfl
theorem k4:(namedTie Tryz.prog Rows.clockSpoiltRow.named Rows.clockSpoiltSpec.vars)=true:=by kernel_rfl
theorem k5:((Rows.clockSpoiltRow.stops== []))=true:=by kernel_rfl
theorem k6:((Tryz.prog.stops== []))=true:=by kernel_rfl
theorem k7:((Rows.clockSpoiltRow.knobs== []))=true:=by kernel_rfl
theorem k8:((Tryz.prog.stopKnobs== []))=true:=by kernel_rfl
theorem k9:((Rows.clockSpoiltRow.inPlace==Tryz.prog.inPlace 11))=true:=by kernel_rfl
theorem k10:((Rows.clockSpoiltRow.unfollowed==Tryz.prog.unfollowed 11))=true:=by kernel_rfl
theorem k11:((Rows.clockSpoiltRow.recurses==Tryz.prog.recurses 11))=true:=by kernel_rfl
theorem k12:((Rows.clockSpoiltRow.named==Tryz.prog.varsNamed 11))=true:=by kernel_rfl
theorem k13:((Rows.clockSpoiltRow.maps==(Tryz.f11.params.toList++Rows.clockSpoiltSpec.plain.varTypes Tryz.prog).any (Tryz.prog.mapsRec ·)))=true:=by kernel_rfl
theorem k14:((Rows.clockSpoiltRow.ifaces==(Tryz.f11.params.toList++Rows.clockSpoiltSpec.plain.varTypes Tryz.prog).any (Tryz.prog.ifacesRec ·)))=true:=by kernel_rfl
theorem k15:((Rows.clockSpoiltRow.mapsOut==Tryz.prog.mapsAmong Tryz.f11.resultTypes.toList))=true:=by kernel_rfl
theorem k16:((Rows.clockSpoiltRow.loops==(Tryz.f11.params.toList++Rows.clockSpoiltSpec.plain.varTypes Tryz.prog).any (Tryz.prog.loopsFrom ·)))=true:=by kernel_rfl
theorem k17:((Rows.clockSpoiltRow.wideKeys==(Tryz.f11.params.toList++Rows.clockSpoiltSpec.plain.varTypes Tryz.prog++Tryz.f11.resultTypes.toList).any (Tryz.prog.wideKeysFrom ·)))=true:=by kernel_rfl
theorem k18:(Rows.clockSpoiltSpec.vars.all (Tryz.prog.varReadable ·))=true:=by kernel_rfl
theorem k19:(Tryz.f11.resultTypes.all (λt=>Tryz.prog.readableRec t && decide (t < Tryz.prog.types.size)))=true:=by kernel_rfl
theorem k20:((Rows.clockSpoiltRow.ifacesOut==Tryz.f11.resultTypes.toList.any (Tryz.prog.ifacesRec ·)))=true:=by kernel_rfl
theorem k21:((Rows.clockSpoiltRow.loopsOut==Tryz.f11.resultTypes.toList.any (Tryz.prog.loopsFrom ·)))=true:=by kernel_rfl
theorem k22:((Rows.clockSpoiltRow.plainKeys==Tryz.prog.plainKeys))=true:=by kernel_rfl
theorem k23:(Rows.clockSpoiltRow.shortTexts.isNone)=true:=by kernel_rfl
theorem k24:(Tryz.prog.stopsHeard)=true:=by kernel_rfl
theorem k25:(Tryz.prog.mayEnter)=true:=by kernel_rfl
theorem k26:((Rows.clockSpoiltRow.lifted==Tryz.prog.liftsFinal))=true:=by kernel_rfl
theorem k27:((Tryz.prog.make==some Rows.clockSpoiltRow.make))=true:=by kernel_rfl
theorem k28:((Rows.clockSpoiltRow.kinds==(if Rows.clockSpoiltRow.domain.isEmpty then [] else Tryz.f11.params.toList.map λt=>match Tryz.prog.underlying t with|some (.int k)=>some k|_=>none)))=true:=by kernel_rfl
theorem k29:((Rows.clockSpoiltRow.pinned==Rows.clockSpoiltRow.pinnedBy))=true:=by kernel_rfl
theorem k30:((Rows.clockSpoiltRow.veiled==(Tryz.f11.params.toList++Rows.clockSpoiltSpec.plain.varTypes Tryz.prog++Tryz.f11.resultTypes.toList).any (Tryz.prog.veiledRec ·)))=true:=by kernel_rfl
theorem k31:(Rows.clockSpoiltRow.veiledFits Tryz.prog Tryz.f11.params.toList (Tryz.f11.params.toList++Rows.clockSpoiltSpec.plain.varTypes Tryz.prog++Tryz.f11.resultTypes.toList))=true:=by kernel_rfl
set_option maxRecDepth 100000 in
theorem kAll:joinedFacts Tryz.prog 11 Tryz.f11 Rows.clockSpoiltSpec Rows.clockSpoiltRow=true:=by unfold joinedFacts;exact (two (two (two (two (two (two (two (two (two (two (two (two (two (two (two (two (two (two (two (two (two (two (two (two (two (two (two (two (two (two (two k0 k1) k2) k3) k4) k5) k6) k7) k8) k9) k10) k11) k12) k13) k14) k15) k16) k17) k18) k19) k20) k21) k22) k23) k24) k25) k26) k27) k28) k29) k30) k31)
theorem kName:Tryz.prog.funcNamed Rows.clockSpoiltRow.func=some 11:=by kernel_rfl
theorem kInst:Tryz.f11.isInstance Tryz.prog Rows.clockSpoiltRow.origin Rows.clockSpoiltRow.targs:=of_decide_eq_true (by kernel_rfl)
theorem kWrap:Tryz.f11.isWrapper Tryz.prog Rows.clockSpoiltRow.wrapper Rows.clockSpoiltRow.mainSum:=by unfold Func.isWrapper;first|(rw [if_pos (by decide+kernel)];kernel_rfl)|(rw [if_neg (by decide+kernel)];exact ⟨rfl,rfl⟩)
theorem over:Rows.clockSpoiltRow.holds Tryz.pinned (OpenSpec.ofChange Rows.clockSpoiltSpec):=
 OpenClaim.holds_of_wide 11 Tryz.f11 rfl rfl rfl rfl rfl rfl rfl ⟨rfl,rfl,rfl,rfl,rfl⟩ rfl rfl rfl rfl rfl kName Tryz.func11 kAll kInst kWrap
  (λos started H enc _=>lifted os started H enc)
theorem proved:Rows.ClockSpoiltSaid:=over
#print axioms proved
end Go.Proofs.YtgnabnhggaondaaGreat.clockSpoilt
