/- For every input that its types allow the law TreeBounds returns true, and each argument reads behind the call as it read before. -/
import Derived.Test.YtbfinmemoemakaaGreatP
import Derived.Test.YtbfinmemoemakaaGreatRfD
import Derived.Test.YtbfinmemoemakaaGreatRows
import Derived.WalkKit
import Derived.ProofKit
import Derived.OpenShut
import Derived.ShutString
import Derived.ChangeOld
import Derived.Below
import Derived.SizedLaws
namespace Go.Proofs.YtbfinmemoemakaaGreat.treeBounds
open Go.ChangeShapes Go.WideShapes Go.ChangeAt Go.RowKit Go.Rf
set_option linter.unusedVariables false
set_option linter.unusedSimpArgs false
theorem own:ownKnob Tryz.prog.godebug=none:=by kernel_rfl
theorem laidOut:laidOutB Tryz.prog=true:=by kernel_rfl
set_option maxRecDepth 100000 in
theorem lifted (os:Os) (started:os.Started) (H:Type) (enc:TypeId×Value->H):
  ReturnsInHanded {} Tryz.checked os 6 .any (Rows.treeBoundsSpec.pre6 enc Tryz.prog Tryz.f6 Rows.treeBoundsRow.domain false) (Rows.treeBoundsSpec.post enc Tryz.prog Tryz.f6 false true false false):=by
 refine returnsInHanded_of_change_sized (C:=Tryz.checked) own started (by kernel_rfl) Tryz.func6
  (ChangeSpec.witness6 (enc:=enc) (C:=Tryz.checked) false ⟨#[],#[.slice none 0 0,.slice none 0 0],[]⟩ 12 (by kernel_rfl) (by kernel_rfl) (by kernel_rfl) (by kernel_rfl)) ?_
 intro W base args ds gs before hval0 hW hcnd hsz0 _
 have hsz:(DataW.weightsEach Tryz.prog (Tryz.f6.params.toList++Rows.treeBoundsSpec.plain.varTypes Tryz.prog) (ds++gs)).all (· <=reachBytes)=true:=hsz0
 have hval:∀(j:Nat) t v,Tryz.f6.params[j]? =some t->args[j]? =some v->Value.okWide Tryz.prog W .any base t v:=hval0
 have hW':=hW
 obtain ⟨p,q,hA0,hV,rfl,hfz,hnd⟩:=hW
 have hA:DataW.TrodAll enc Tryz.prog W 0 (λ_=>true) true Tryz.f6.params.toList args.toList ds p:=hA0
 have hp:Tryz.f6.params.toList= [22,36]:=by rw [Tryz.params6]
 rw [hp] at hA hsz
 obtain ⟨rfl,rfl⟩:=trodVars_none hV
 have hwt:∀n∈DataW.weightsEach Tryz.prog [22,36] ds,n<=reachBytes:=λn hn=>by
  have hv0:Rows.treeBoundsSpec.plain.varTypes Tryz.prog= []:=rfl
  rw [hv0,List.append_nil,List.append_nil,List.all_eq_true] at hsz
  simpa using hsz n hn
 obtain ⟨x,hx,hfit⟩:=Z6u (U:=U) (d:=20) Q3X decs [22,36] [.isl .Q40,.isl .int] args.toList ds p hA (λj t v h1 h2=>hval j t v (by rw [←Array.getElem?_toList,hp];exact h1) (by rw [←Array.getElem?_toList];exact h2)) (by kernel_rfl) hwt
 have w0:(x.1.length*24<=reachBytes/\∀y:List Int,y∈x.1->(y.length*8<=reachBytes/\∀yy∈y,(Lit.int .i64 yy).wf=true)):=(by obtain ⟨n,e,b,a⟩:=(show Q2Q U Tryz.prog 22 (Q64 (.isl .Q40:Sh U.C) x.1 0).l from hfit.1).Q8n (U:=U) (u:=UC.Q40) Tryz.underlying22 rfl;cases e;have zb:Tryz.prog.bytesOf 36=24:=(by kernel_rfl);rw [zb] at b;exact ⟨b,λy hy=>(by obtain ⟨n,e,b,a⟩:=(a y hy).Q8n (U:=U) (u:=UC.int) Tryz.underlying36 rfl;cases e;have zb:Tryz.prog.bytesOf 3=8:=(by kernel_rfl);rw [zb] at b;exact ⟨b,λy hy=>(by obtain ⟨n,e,w⟩:=(a y hy).toInt Tryz.underlying3;cases e;exact w)⟩)⟩)
 have w1:(x.2.1.length*8<=reachBytes/\∀y∈x.2.1,(Lit.int .i64 y).wf=true):=(by obtain ⟨n,e,b,a⟩:=(show Q2Q U Tryz.prog 36 (Q64 (.isl .int:Sh U.C) x.2.1 0).l from hfit.2.1).Q8n (U:=U) (u:=UC.int) Tryz.underlying36 rfl;cases e;have zb:Tryz.prog.bytesOf 3=8:=(by kernel_rfl);rw [zb] at b;exact ⟨b,λy hy=>(by obtain ⟨n,e,w⟩:=(a y hy).toInt Tryz.underlying3;cases e;exact w)⟩)
 have hF:=K82.law x.1 x.2.1 w0 w1
 have hC:=Z9I (U:=U) (P:=Tryz.prog) (ss:= [.isl .Q40,.isl .int]) (fs:= []) (w:=W) (gos:=6) (x:=x) K82.hints
  Tryz.func6 (show Tryz.f6.body=some K82.C by kernel_rfl) (λb h=>by rw [K82.loops] at h;exact h) ((K82.eq K78 K80 Q1h K83.A K82.F0 x (Q5f (U:=U) [])).trans hF) (by decide) rfl rfl (by decide) (by decide) (by decide) hx
 have hlt:=Z5N hA
 have hback:=λW' (bel:Below W.heap.size W W')=>Z4n laidOut bel (λt ht=>of_decide_eq_true (List.all_eq_true.1 (by kernel_rfl:([22,36]:List TypeId).all (λt=>decide (Tryz.prog.readableRec t=true/\t < Tryz.prog.types.size))=true) t ht)) hA
 obtain ⟨v0,vs0,d0,ds0,p0,q0,ha,rfl,rfl,h0,r0⟩:=trodAll_cons hA
 obtain ⟨v1,vs1,d1,ds1,p1,q1,rfl,rfl,rfl,h1,r1⟩:=trodAll_cons r0
 obtain ⟨rfl,rfl,rfl⟩:=trodAll_nil r1
 refine hC.mono λe W' ⟨he,bel⟩=>?_
 subst he
 have hb:=hback W' bel
 rw [←hp] at hb
 exact ⟨_,rfl,_,_,_,[],_,[],hW',trodAll_mk1 (shut_bool Tryz.underlying4 _),hb,rfl,bel.frame _,λh=>by cases h⟩
theorem two {a b:Bool} (h:a=true) (k:b=true):(a && b)=true:=by rw [h,k];rfl
theorem k0:(Rows.treeBoundsRow.wf (OpenSpec.ofChange Rows.treeBoundsSpec))=true:=by kernel_rfl
theorem k1:(laidOutB Tryz.prog)=true:=by kernel_rfl
theorem k2:(mapsRowed Tryz.prog)=true:=by kernel_rfl
theorem k3:(Tryz.f6.params.all (Tryz.prog.readableRec ·))=true:=by kernel_rfl
theorem k4:(namedTie Tryz.prog Rows.treeBoundsRow.named Rows.treeBoundsSpec.vars)=true:=by kernel_rfl
theorem k5:((Rows.treeBoundsRow.stops== []))=true:=by kernel_rfl
theorem k6:((Tryz.prog.stops== []))=true:=by kernel_rfl
theorem k7:((Rows.treeBoundsRow.knobs== []))=true:=by kernel_rfl
theorem k8:((Tryz.prog.stopKnobs== []))=true:=by kernel_rfl
theorem k9:((Rows.treeBoundsRow.inPlace==Tryz.prog.inPlace 6))=true:=by kernel_rfl
theorem k10:((Rows.treeBoundsRow.unfollowed==Tryz.prog.unfollowed 6))=true:=by kernel_rfl
theorem k11:((Rows.treeBoundsRow.recurses==Tryz.prog.recurses 6))=true:=by kernel_rfl
theorem k12:((Rows.treeBoundsRow.named==Tryz.prog.varsNamed 6))=true:=by kernel_rfl
theorem k13:((Rows.treeBoundsRow.maps==(Tryz.f6.params.toList++Rows.treeBoundsSpec.plain.varTypes Tryz.prog).any (Tryz.prog.mapsRec ·)))=true:=by kernel_rfl
theorem k14:((Rows.treeBoundsRow.ifaces==(Tryz.f6.params.toList++Rows.treeBoundsSpec.plain.varTypes Tryz.prog).any (Tryz.prog.ifacesRec ·)))=true:=by kernel_rfl
theorem k15:((Rows.treeBoundsRow.mapsOut==Tryz.prog.mapsAmong Tryz.f6.resultTypes.toList))=true:=by kernel_rfl
theorem k16:((Rows.treeBoundsRow.loops==(Tryz.f6.params.toList++Rows.treeBoundsSpec.plain.varTypes Tryz.prog).any (Tryz.prog.loopsFrom ·)))=true:=by kernel_rfl
theorem k17:((Rows.treeBoundsRow.wideKeys==(Tryz.f6.params.toList++Rows.treeBoundsSpec.plain.varTypes Tryz.prog++Tryz.f6.resultTypes.toList).any (Tryz.prog.wideKeysFrom ·)))=true:=by kernel_rfl
theorem k18:(Rows.treeBoundsSpec.vars.all (Tryz.prog.varReadable ·))=true:=by kernel_rfl
theorem k19:(Tryz.f6.resultTypes.all (λt=>Tryz.prog.readableRec t && decide (t < Tryz.prog.types.size)))=true:=by kernel_rfl
theorem k20:((Rows.treeBoundsRow.ifacesOut==Tryz.f6.resultTypes.toList.any (Tryz.prog.ifacesRec ·)))=true:=by kernel_rfl
theorem k21:((Rows.treeBoundsRow.loopsOut==Tryz.f6.resultTypes.toList.any (Tryz.prog.loopsFrom ·)))=true:=by kernel_rfl
theorem k22:((Rows.treeBoundsRow.plainKeys==Tryz.prog.plainKeys))=true:=by kernel_rfl
theorem k23:(Rows.treeBoundsRow.shortTexts.isNone)=true:=by kernel_rfl
theorem k24:(Tryz.prog.stopsHeard)=true:=by kernel_rfl
theorem k25:(Tryz.prog.mayEnter)=true:=by kernel_rfl
theorem k26:((Rows.treeBoundsRow.lifted==Tryz.prog.liftsFinal))=true:=by kernel_rfl
theorem k27:((Tryz.prog.make==some Rows.treeBoundsRow.make))=true:=by kernel_rfl
theorem k28:((Rows.treeBoundsRow.kinds==(if Rows.treeBoundsRow.domain.isEmpty then [] else Tryz.f6.params.toList.map λt=>match Tryz.prog.underlying t with|some (.int k)=>some k|_=>none)))=true:=by kernel_rfl
theorem k29:((Rows.treeBoundsRow.pinned==Rows.treeBoundsRow.pinnedBy))=true:=by kernel_rfl
theorem k30:((Rows.treeBoundsRow.veiled==(Tryz.f6.params.toList++Rows.treeBoundsSpec.plain.varTypes Tryz.prog++Tryz.f6.resultTypes.toList).any (Tryz.prog.veiledRec ·)))=true:=by kernel_rfl
theorem k31:(Rows.treeBoundsRow.veiledFits Tryz.prog Tryz.f6.params.toList (Tryz.f6.params.toList++Rows.treeBoundsSpec.plain.varTypes Tryz.prog++Tryz.f6.resultTypes.toList))=true:=by kernel_rfl
set_option maxRecDepth 100000 in
theorem kAll:joinedFacts Tryz.prog 6 Tryz.f6 Rows.treeBoundsSpec Rows.treeBoundsRow=true:=by unfold joinedFacts;exact (two (two (two (two (two (two (two (two (two (two (two (two (two (two (two (two (two (two (two (two (two (two (two (two (two (two (two (two (two (two (two k0 k1) k2) k3) k4) k5) k6) k7) k8) k9) k10) k11) k12) k13) k14) k15) k16) k17) k18) k19) k20) k21) k22) k23) k24) k25) k26) k27) k28) k29) k30) k31)
theorem kName:Tryz.prog.funcNamed Rows.treeBoundsRow.func=some 6:=by kernel_rfl
theorem kInst:Tryz.f6.isInstance Tryz.prog Rows.treeBoundsRow.origin Rows.treeBoundsRow.targs:=of_decide_eq_true (by kernel_rfl)
theorem kWrap:Tryz.f6.isWrapper Tryz.prog Rows.treeBoundsRow.wrapper Rows.treeBoundsRow.mainSum:=by unfold Func.isWrapper;first|(rw [if_pos (by decide+kernel)];kernel_rfl)|(rw [if_neg (by decide+kernel)];exact ⟨rfl,rfl⟩)
theorem over:Rows.treeBoundsRow.holds Tryz.pinned (OpenSpec.ofChange Rows.treeBoundsSpec):=
 OpenClaim.holds_of_wide 6 Tryz.f6 rfl rfl rfl rfl rfl rfl rfl ⟨rfl,rfl,rfl,rfl,rfl⟩ rfl rfl rfl rfl rfl kName Tryz.func6 kAll kInst kWrap
  (λos started H enc _=>lifted os started H enc)
theorem proved:Rows.TreeBoundsSaid:=over
#print axioms proved
end Go.Proofs.YtbfinmemoemakaaGreat.treeBounds
