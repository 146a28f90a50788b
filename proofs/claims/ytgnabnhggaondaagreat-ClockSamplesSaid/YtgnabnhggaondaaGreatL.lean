/- For every input that its types allow the law ClockSamples returns true, and each argument reads behind the call as it read before. -/
import Derived.Test.YtgnabnhggaondaaGreatP
import Derived.Test.YtgnabnhggaondaaGreatRfD
import Derived.Test.YtgnabnhggaondaaGreatRows
import Derived.WalkKit
import Derived.ProofKit
import Derived.OpenShut
import Derived.ShutString
import Derived.ChangeOld
import Derived.Below
import Derived.SizedLaws
namespace Go.Proofs.YtgnabnhggaondaaGreat.clockSamples
open Go.ChangeShapes Go.WideShapes Go.ChangeAt Go.RowKit Go.Rf
set_option linter.unusedVariables false
set_option linter.unusedSimpArgs false
theorem own : ownKnob Tryz.prog.godebug = none := by kernel_rfl
theorem laidOut : laidOutB Tryz.prog = true := by kernel_rfl
set_option maxRecDepth 100000 in
theorem lifted (os : Os) (started : os.Started) (H : Type) (enc : TypeId × Value → H) :
  ReturnsInHanded {} Tryz.checked os 10 .any (Rows.clockSamplesSpec.pre6 enc Tryz.prog Tryz.f10 Rows.clockSamplesRow.domain false) (Rows.clockSamplesSpec.post enc Tryz.prog Tryz.f10 false true false false) := by
 refine returnsInHanded_of_change_sized (C := Tryz.checked) own started (by kernel_rfl) Tryz.func10
  (ChangeSpec.witness6 (enc := enc) (C := Tryz.checked) false ⟨#[], #[.int .i64 0, .int .i64 0, .int .i64 0], []⟩ 12 (by kernel_rfl) (by kernel_rfl) (by kernel_rfl) (by kernel_rfl)) ?_
 intro W base args ds gs before hval0 hW hcnd hsz0 _
 have hsz : (DataW.weightsEach Tryz.prog (Tryz.f10.params.toList ++ Rows.clockSamplesSpec.plain.varTypes Tryz.prog) (ds ++ gs)).all (· ≤ reachBytes) = true := hsz0
 have hval : ∀ (j : Nat) t v, Tryz.f10.params[j]? = some t → args[j]? = some v → Value.okWide Tryz.prog W .any base t v := hval0
 have hW' := hW
 obtain ⟨p, q, hA0, hV, rfl, hfz, hnd⟩ := hW
 have hA : DataW.TrodAll enc Tryz.prog W 0 (fun _ => true) true Tryz.f10.params.toList args.toList ds p := hA0
 have hp : Tryz.f10.params.toList = [3, 3, 3] := by rw [Tryz.params10]
 rw [hp] at hA hsz
 obtain ⟨rfl, rfl⟩ := trodVars_none hV
 have hwt : ∀ n ∈ DataW.weightsEach Tryz.prog [3, 3, 3] ds, n ≤ reachBytes := fun n hn => by
  have hv0 : Rows.clockSamplesSpec.plain.varTypes Tryz.prog = [] := rfl
  rw [hv0, List.append_nil, List.append_nil, List.all_eq_true] at hsz
  simpa using hsz n hn
 obtain ⟨x, hx, hfit⟩ := Z6y (U := U) (d := 20) U_ok decs [3, 3, 3] [.int .i64, .int .i64, .int .i64] args.toList ds p hA (fun j t v h1 h2 => hval j t v (by rw [← Array.getElem?_toList, hp]; exact h1) (by rw [← Array.getElem?_toList]; exact h2)) (by kernel_rfl) hwt
 have w0 : (Lit.int .i64 x.1).wf = true := (by obtain ⟨n, e, w⟩ := (show Opens U Tryz.prog 3 (encV (.int .i64 : Sh U.C) x.1 0).l from hfit.1).toInt Tryz.underlying3; cases e; exact w)
 have w1 : (Lit.int .i64 x.2.1).wf = true := (by obtain ⟨n, e, w⟩ := (show Opens U Tryz.prog 3 (encV (.int .i64 : Sh U.C) x.2.1 0).l from hfit.2.1).toInt Tryz.underlying3; cases e; exact w)
 have w2 : (Lit.int .i64 x.2.2.1).wf = true := (by obtain ⟨n, e, w⟩ := (show Opens U Tryz.prog 3 (encV (.int .i64 : Sh U.C) x.2.2.1 0).l from hfit.2.2.1).toInt Tryz.underlying3; cases e; exact w)
 obtain ⟨y0, hF⟩ := K79.law x.1 x.2.1 x.2.2.1 w0 w1 w2
 have hC := Z9k (U := U) (P := Tryz.prog) (ss := [.int .i64, .int .i64, .int .i64]) (fs := [.fam 0 (.obj .t_clock_Clock), .fam 5 (.obj .t_servo_Servo), .fam 6 (.obj .t_foreign_Table), .fam 7 (.obj .t_delay_Exchange), .fam 8 (.obj .t_peer_Exchange), .fam 9 (.obj .t_median_Filter), .fam 10 (.obj .t_seq_Match), .fam 12 (.map true false .t_api_PortID .l_u64)]) (w := W) (gos := 6) (x := x) K79.hints
  Tryz.func10 (show Tryz.f10.body = some K79.C by kernel_rfl) (fun b h => by rw [K79.loops] at h; exact h) ((K79.eq K78 K83 K84 K81 K11 K10 K80 K8 K9 K82.A K79.F0 K79.F1 x (fam0 (U := U) [.fam 0 (.obj .t_clock_Clock), .fam 5 (.obj .t_servo_Servo), .fam 6 (.obj .t_foreign_Table), .fam 7 (.obj .t_delay_Exchange), .fam 8 (.obj .t_peer_Exchange), .fam 9 (.obj .t_median_Filter), .fam 10 (.obj .t_seq_Match), .fam 12 (.map true false .t_api_PortID .l_u64)])).trans hF) (by decide) rfl rfl (by decide) (by decide) (by decide) hx
 have hlt := Z5H hA
 have hback := fun W' (bel : Below W.heap.size W W') => Z4y laidOut bel (fun t ht => of_decide_eq_true (List.all_eq_true.1 (by kernel_rfl : ([3, 3, 3] : List TypeId).all (fun t => decide (Tryz.prog.readableRec t = true ∧ t < Tryz.prog.types.size)) = true) t ht)) hA
 obtain ⟨v0, vs0, d0, ds0, p0, q0, ha, rfl, rfl, h0, r0⟩ := trodAll_cons hA
 obtain ⟨v1, vs1, d1, ds1, p1, q1, rfl, rfl, rfl, h1, r1⟩ := trodAll_cons r0
 obtain ⟨v2, vs2, d2, ds2, p2, q2, rfl, rfl, rfl, h2, r2⟩ := trodAll_cons r1
 obtain ⟨rfl, rfl, rfl⟩ := trodAll_nil r2
 refine hC.mono fun e W' ⟨he, bel⟩ => ?_
 subst he
 have hb := hback W' bel
 rw [← hp] at hb
 exact ⟨_, rfl, _, _, _, [], _, [], hW', trodAll_mk1 (shut_bool Tryz.underlying4 _), hb, rfl, bel.frame _, fun h => by cases h⟩
theorem two {a b : Bool} (h : a = true) (k : b = true) : (a && b) = true := by rw [h, k]; rfl
theorem k0 : (Rows.clockSamplesRow.wf (OpenSpec.ofChange Rows.clockSamplesSpec)) = true := by kernel_rfl
theorem k1 : (laidOutB Tryz.prog) = true := by kernel_rfl
theorem k2 : (mapsRowed Tryz.prog) = true := by kernel_rfl
theorem k3 : (Tryz.f10.params.all (Tryz.prog.readableRec ·)) = true := by kernel_rfl
theorem k4 : (namedTie Tryz.prog Rows.clockSamplesRow.named Rows.clockSamplesSpec.vars) = true := by kernel_rfl
theorem k5 : ((Rows.clockSamplesRow.stops == [])) = true := by kernel_rfl
theorem k6 : ((Tryz.prog.stops == [])) = true := by kernel_rfl
theorem k7 : ((Rows.clockSamplesRow.knobs == [])) = true := by kernel_rfl
theorem k8 : ((Tryz.prog.stopKnobs == [])) = true := by kernel_rfl
theorem k9 : ((Rows.clockSamplesRow.inPlace == Tryz.prog.inPlace 10)) = true := by kernel_rfl
theorem k10 : ((Rows.clockSamplesRow.unfollowed == Tryz.prog.unfollowed 10)) = true := by kernel_rfl
theorem k11 : ((Rows.clockSamplesRow.recurses == Tryz.prog.recurses 10)) = true := by kernel_rfl
theorem k12 : ((Rows.clockSamplesRow.named == Tryz.prog.varsNamed 10)) = true := by kernel_rfl
theorem k13 : ((Rows.clockSamplesRow.maps == (Tryz.f10.params.toList ++ Rows.clockSamplesSpec.plain.varTypes Tryz.prog).any (Tryz.prog.mapsRec ·))) = true := by kernel_rfl
theorem k14 : ((Rows.clockSamplesRow.ifaces == (Tryz.f10.params.toList ++ Rows.clockSamplesSpec.plain.varTypes Tryz.prog).any (Tryz.prog.ifacesRec ·))) = true := by kernel_rfl
theorem k15 : ((Rows.clockSamplesRow.mapsOut == Tryz.prog.mapsAmong Tryz.f10.resultTypes.toList)) = true := by kernel_rfl
theorem k16 : ((Rows.clockSamplesRow.loops == (Tryz.f10.params.toList ++ Rows.clockSamplesSpec.plain.varTypes Tryz.prog).any (Tryz.prog.loopsFrom ·))) = true := by kernel_rfl
theorem k17 : ((Rows.clockSamplesRow.wideKeys == (Tryz.f10.params.toList ++ Rows.clockSamplesSpec.plain.varTypes Tryz.prog ++ Tryz.f10.resultTypes.toList).any (Tryz.prog.wideKeysFrom ·))) = true := by kernel_rfl
theorem k18 : (Rows.clockSamplesSpec.vars.all (Tryz.prog.varReadable ·)) = true := by kernel_rfl
theorem k19 : (Tryz.f10.resultTypes.all (fun t => Tryz.prog.readableRec t && decide (t < Tryz.prog.types.size))) = true := by kernel_rfl
theorem k20 : ((Rows.clockSamplesRow.ifacesOut == Tryz.f10.resultTypes.toList.any (Tryz.prog.ifacesRec ·))) = true := by kernel_rfl
theorem k21 : ((Rows.clockSamplesRow.loopsOut == Tryz.f10.resultTypes.toList.any (Tryz.prog.loopsFrom ·))) = true := by kernel_rfl
theorem k22 : ((Rows.clockSamplesRow.plainKeys == Tryz.prog.plainKeys)) = true := by kernel_rfl
theorem k23 : (Rows.clockSamplesRow.shortTexts.isNone) = true := by kernel_rfl
theorem k24 : (Tryz.prog.stopsHeard) = true := by kernel_rfl
theorem k25 : (Tryz.prog.mayEnter) = true := by kernel_rfl
theorem k26 : ((Rows.clockSamplesRow.lifted == Tryz.prog.liftsFinal)) = true := by kernel_rfl
theorem k27 : ((Tryz.prog.make == some Rows.clockSamplesRow.make)) = true := by kernel_rfl
theorem k28 : ((Rows.clockSamplesRow.kinds == (if Rows.clockSamplesRow.domain.isEmpty then [] else Tryz.f10.params.toList.map fun t => match Tryz.prog.underlying t with | some (.int k) => some k | _ => none))) = true := by kernel_rfl
theorem k29 : ((Rows.clockSamplesRow.pinned == Rows.clockSamplesRow.pinnedBy)) = true := by kernel_rfl
theorem k30 : ((Rows.clockSamplesRow.veiled == (Tryz.f10.params.toList ++ Rows.clockSamplesSpec.plain.varTypes Tryz.prog ++ Tryz.f10.resultTypes.toList).any (Tryz.prog.veiledRec ·))) = true := by kernel_rfl
theorem k31 : (Rows.clockSamplesRow.veiledFits Tryz.prog Tryz.f10.params.toList (Tryz.f10.params.toList ++ Rows.clockSamplesSpec.plain.varTypes Tryz.prog ++ Tryz.f10.resultTypes.toList)) = true := by kernel_rfl
set_option maxRecDepth 100000 in
theorem kAll : joinedFacts Tryz.prog 10 Tryz.f10 Rows.clockSamplesSpec Rows.clockSamplesRow = true := by unfold joinedFacts; exact (two (two (two (two (two (two (two (two (two (two (two (two (two (two (two (two (two (two (two (two (two (two (two (two (two (two (two (two (two (two (two k0 k1) k2) k3) k4) k5) k6) k7) k8) k9) k10) k11) k12) k13) k14) k15) k16) k17) k18) k19) k20) k21) k22) k23) k24) k25) k26) k27) k28) k29) k30) k31)
theorem kName : Tryz.prog.funcNamed Rows.clockSamplesRow.func = some 10 := by kernel_rfl
theorem kInst : Tryz.f10.isInstance Tryz.prog Rows.clockSamplesRow.origin Rows.clockSamplesRow.targs := of_decide_eq_true (by kernel_rfl)
theorem kWrap : Tryz.f10.isWrapper Tryz.prog Rows.clockSamplesRow.wrapper Rows.clockSamplesRow.mainSum := by unfold Func.isWrapper; first | (rw [if_pos (by decide +kernel)]; kernel_rfl) | (rw [if_neg (by decide +kernel)]; exact ⟨rfl, rfl⟩)
theorem over : Rows.clockSamplesRow.holds Tryz.pinned (OpenSpec.ofChange Rows.clockSamplesSpec) :=
 OpenClaim.holds_of_wide 10 Tryz.f10 rfl rfl rfl rfl rfl rfl rfl ⟨rfl, rfl, rfl, rfl, rfl⟩ rfl rfl rfl rfl rfl kName Tryz.func10 kAll kInst kWrap
  (fun os started H enc _ => lifted os started H enc)
theorem proved : Rows.ClockSamplesSaid := over
#print axioms proved
end Go.Proofs.YtgnabnhggaondaaGreat.clockSamples
