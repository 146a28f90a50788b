/- For every input that its types allow the law ClockDisables returns true, and each argument reads behind the call as it read before. -/
import Derived.Test.YtgnabnhggaondaaGreatP
import Derived.Test.YtgnabnhggaondaaGreatRfD
import Derived.Test.YtgnabnhggaondaaGreatRows
import Derived.WalkKit
import Derived.ProofKit
import Derived.OpenShut
import Derived.ShutString
import Derived.ChangeOld
import Derived.Below
import Derived.SizedLaws
namespace Go.Proofs.YtgnabnhggaondaaGreat.clockDisables
open Go.ChangeShapes Go.WideShapes Go.ChangeAt Go.RowKit Go.Rf
set_option linter.unusedVariables false
set_option linter.unusedSimpArgs false
theorem own : ownKnob Tryz.prog.godebug = none := by kernel_rfl
theorem laidOut : laidOutB Tryz.prog = true := by kernel_rfl
set_option maxRecDepth 100000 in
theorem lifted (os : Os) (started : os.Started) (H : Type) (enc : TypeId × Value → H) :
  ReturnsInHanded {} Tryz.checked os 3 .any (Rows.clockDisablesSpec.pre6 enc Tryz.prog Tryz.f3 Rows.clockDisablesRow.domain false) (Rows.clockDisablesSpec.post enc Tryz.prog Tryz.f3 false true false false) := by
 refine returnsInHanded_of_change_sized (C := Tryz.checked) own started (by kernel_rfl) Tryz.func3
  (ChangeSpec.witness6 (enc := enc) (C := Tryz.checked) false ⟨#[], #[.int .i64 0, .int .i64 0], []⟩ 12 (by kernel_rfl) (by kernel_rfl) (by kernel_rfl) (by kernel_rfl)) ?_
 intro W base args ds gs before hval0 hW hcnd hsz0 _
 have hsz : (DataW.weightsEach Tryz.prog (Tryz.f3.params.toList ++ Rows.clockDisablesSpec.plain.varTypes Tryz.prog) (ds ++ gs)).all (· ≤ reachBytes) = true := hsz0
 have hval : ∀ (j : Nat) t v, Tryz.f3.params[j]? = some t → args[j]? = some v → Value.okWide Tryz.prog W .any base t v := hval0
 have hW' := hW
 obtain ⟨p, q, hA0, hV, rfl, hfz, hnd⟩ := hW
 have hA : DataW.TrodAll enc Tryz.prog W 0 (fun _ => true) true Tryz.f3.params.toList args.toList ds p := hA0
 have hp : Tryz.f3.params.toList = [3, 3] := by rw [Tryz.params3]
 rw [hp] at hA hsz
 obtain ⟨rfl, rfl⟩ := trodVars_none hV
 have hwt : ∀ n ∈ DataW.weightsEach Tryz.prog [3, 3] ds, n ≤ reachBytes := fun n hn => by
  have hv0 : Rows.clockDisablesSpec.plain.varTypes Tryz.prog = [] := rfl
  rw [hv0, List.append_nil, List.append_nil, List.all_eq_true] at hsz
  simpa using hsz n hn
 obtain ⟨x, hx, hfit⟩ := Z6f (U := U) (d := 20) U_ok decs [3, 3] [.int .i64, .int .i64] args.toList ds p hA (fun j t v h1 h2 => hval j t v (by rw [← Array.getElem?_toList, hp]; exact h1) (by rw [← Array.getElem?_toList]; exact h2)) (by kernel_rfl) hwt
 have w0 : (Lit.int .i64 x.1).wf = true := (by obtain ⟨n, e, w⟩ := (show Opens U Tryz.prog 3 (encV (.int .i64 : Sh U.C) x.1 0).l from hfit.1).toInt Tryz.underlying3; cases e; exact w)
 have w1 : (Lit.int .i64 x.2.1).wf = true := (by obtain ⟨n, e, w⟩ := (show Opens U Tryz.prog 3 (encV (.int .i64 : Sh U.C) x.2.1 0).l from hfit.2.1).toInt Tryz.underlying3; cases e; exact w)
 obtain ⟨y0, hF⟩ := K76.law x.1 x.2.1 w0 w1
 have hC := Z9f (U := U) (P := Tryz.prog) (ss := [.int .i64, .int .i64]) (fs := [.fam 0 (.obj .t_clock_Clock), .fam 5 (.obj .t_servo_Servo), .fam 6 (.obj .t_foreign_Table), .fam 7 (.obj .t_delay_Exchange), .fam 8 (.obj .t_peer_Exchange), .fam 9 (.obj .t_median_Filter), .fam 10 (.obj .t_seq_Match), .fam 12 (.map true false .t_api_PortID .l_u64)]) (w := W) (gos := 6) (x := x) K76.hints
  Tryz.func3 (show Tryz.f3.body = some K76.C by kernel_rfl) (fun b h => by rw [K76.loops] at h; exact h) ((K76.eq K79 K81 K75 K77 K8 K78.A K76.F0 x (fam0 (U := U) [.fam 0 (.obj .t_clock_Clock), .fam 5 (.obj .t_servo_Servo), .fam 6 (.obj .t_foreign_Table), .fam 7 (.obj .t_delay_Exchange), .fam 8 (.obj .t_peer_Exchange), .fam 9 (.obj .t_median_Filter), .fam 10 (.obj .t_seq_Match), .fam 12 (.map true false .t_api_PortID .l_u64)])).trans hF) (by decide) rfl rfl (by decide) (by decide) (by decide) hx
 have hlt := Z5l hA
 have hback := fun W' (bel : Below W.heap.size W W') => Z48 laidOut bel (fun t ht => of_decide_eq_true (List.all_eq_true.1 (by kernel_rfl : ([3, 3] : List TypeId).all (fun t => decide (Tryz.prog.readableRec t = true ∧ t < Tryz.prog.types.size)) = true) t ht)) hA
 obtain ⟨v0, vs0, d0, ds0, p0, q0, ha, rfl, rfl, h0, r0⟩ := trodAll_cons hA
 obtain ⟨v1, vs1, d1, ds1, p1, q1, rfl, rfl, rfl, h1, r1⟩ := trodAll_cons r0
 obtain ⟨rfl, rfl, rfl⟩ := trodAll_nil r1
 refine hC.mono fun e W' ⟨he, bel⟩ => ?_
 subst he
 have hb := hback W' bel
 rw [← hp] at hb
 exact ⟨_, rfl, _, _, _, [], _, [], hW', trodAll_mk1 (shut_bool Tryz.underlying4 _), hb, rfl, bel.frame _, fun h => by cases h⟩
theorem two {a b : Bool} (h : a = true) (k : b = true) : (a && b) = true := by rw [h, k]; rfl
theorem k0 : (Rows.clockDisablesRow.wf (OpenSpec.ofChange Rows.clockDisablesSpec)) = true := by kernel_rfl
theorem k1 : (laidOutB Tryz.prog) = true := by kernel_rfl
theorem k2 : (mapsRowed Tryz.prog) = true := by kernel_rfl
theorem k3 : (Tryz.f3.params.all (Tryz.prog.readableRec ·)) = true := by kernel_rfl
theorem k4 : (namedTie Tryz.prog Rows.clockDisablesRow.named Rows.clockDisablesSpec.vars) = true := by kernel_rfl
theorem k5 : ((Rows.clockDisablesRow.stops == [])) = true := by kernel_rfl
theorem k6 : ((Tryz.prog.stops == [])) = true := by kernel_rfl
theorem k7 : ((Rows.clockDisablesRow.knobs == [])) = true := by kernel_rfl
theorem k8 : ((Tryz.prog.stopKnobs == [])) = true := by kernel_rfl
theorem k9 : ((Rows.clockDisablesRow.inPlace == Tryz.prog.inPlace 3)) = true := by kernel_rfl
theorem k10 : ((Rows.clockDisablesRow.unfollowed == Tryz.prog.unfollowed 3)) = true := by kernel_rfl
theorem k11 : ((Rows.clockDisablesRow.recurses == Tryz.prog.recurses 3)) = true := by kernel_rfl
theorem k12 : ((Rows.clockDisablesRow.named == Tryz.prog.varsNamed 3)) = true := by kernel_rfl
theorem k13 : ((Rows.clockDisablesRow.maps == (Tryz.f3.params.toList ++ Rows.clockDisablesSpec.plain.varTypes Tryz.prog).any (Tryz.prog.mapsRec ·))) = true := by kernel_rfl
theorem k14 : ((Rows.clockDisablesRow.ifaces == (Tryz.f3.params.toList ++ Rows.clockDisablesSpec.plain.varTypes Tryz.prog).any (Tryz.prog.ifacesRec ·))) = true := by kernel_rfl
theorem k15 : ((Rows.clockDisablesRow.mapsOut == Tryz.prog.mapsAmong Tryz.f3.resultTypes.toList)) = true := by kernel_rfl
theorem k16 : ((Rows.clockDisablesRow.loops == (Tryz.f3.params.toList ++ Rows.clockDisablesSpec.plain.varTypes Tryz.prog).any (Tryz.prog.loopsFrom ·))) = true := by kernel_rfl
theorem k17 : ((Rows.clockDisablesRow.wideKeys == (Tryz.f3.params.toList ++ Rows.clockDisablesSpec.plain.varTypes Tryz.prog ++ Tryz.f3.resultTypes.toList).any (Tryz.prog.wideKeysFrom ·))) = true := by kernel_rfl
theorem k18 : (Rows.clockDisablesSpec.vars.all (Tryz.prog.varReadable ·)) = true := by kernel_rfl
theorem k19 : (Tryz.f3.resultTypes.all (fun t => Tryz.prog.readableRec t && decide (t < Tryz.prog.types.size))) = true := by kernel_rfl
theorem k20 : ((Rows.clockDisablesRow.ifacesOut == Tryz.f3.resultTypes.toList.any (Tryz.prog.ifacesRec ·))) = true := by kernel_rfl
theorem k21 : ((Rows.clockDisablesRow.loopsOut == Tryz.f3.resultTypes.toList.any (Tryz.prog.loopsFrom ·))) = true := by kernel_rfl
theorem k22 : ((Rows.clockDisablesRow.plainKeys == Tryz.prog.plainKeys)) = true := by kernel_rfl
theorem k23 : (Rows.clockDisablesRow.shortTexts.isNone) = true := by kernel_rfl
theorem k24 : (Tryz.prog.stopsHeard) = true := by kernel_rfl
theorem k25 : (Tryz.prog.mayEnter) = true := by kernel_rfl
theorem k26 : ((Rows.clockDisablesRow.lifted == Tryz.prog.liftsFinal)) = true := by kernel_rfl
theorem k27 : ((Tryz.prog.make == some Rows.clockDisablesRow.make)) = true := by kernel_rfl
theorem k28 : ((Rows.clockDisablesRow.kinds == (if Rows.clockDisablesRow.domain.isEmpty then [] else Tryz.f3.params.toList.map fun t => match Tryz.prog.underlying t with | some (.int k) => some k | _ => none))) = true := by kernel_rfl
theorem k29 : ((Rows.clockDisablesRow.pinned == Rows.clockDisablesRow.pinnedBy)) = true := by kernel_rfl
theorem k30 : ((Rows.clockDisablesRow.veiled == (Tryz.f3.params.toList ++ Rows.clockDisablesSpec.plain.varTypes Tryz.prog ++ Tryz.f3.resultTypes.toList).any (Tryz.prog.veiledRec ·))) = true := by kernel_rfl
theorem k31 : (Rows.clockDisablesRow.veiledFits Tryz.prog Tryz.f3.params.toList (Tryz.f3.params.toList ++ Rows.clockDisablesSpec.plain.varTypes Tryz.prog ++ Tryz.f3.resultTypes.toList)) = true := by kernel_rfl
set_option maxRecDepth 100000 in
theorem kAll : joinedFacts Tryz.prog 3 Tryz.f3 Rows.clockDisablesSpec Rows.clockDisablesRow = true := by unfold joinedFacts; exact (two (two (two (two (two (two (two (two (two (two (two (two (two (two (two (two (two (two (two (two (two (two (two (two (two (two (two (two (two (two (two k0 k1) k2) k3) k4) k5) k6) k7) k8) k9) k10) k11) k12) k13) k14) k15) k16) k17) k18) k19) k20) k21) k22) k23) k24) k25) k26) k27) k28) k29) k30) k31)
theorem kName : Tryz.prog.funcNamed Rows.clockDisablesRow.func = some 3 := by kernel_rfl
theorem kInst : Tryz.f3.isInstance Tryz.prog Rows.clockDisablesRow.origin Rows.clockDisablesRow.targs := of_decide_eq_true (by kernel_rfl)
theorem kWrap : Tryz.f3.isWrapper Tryz.prog Rows.clockDisablesRow.wrapper Rows.clockDisablesRow.mainSum := by unfold Func.isWrapper; first | (rw [if_pos (by decide +kernel)]; kernel_rfl) | (rw [if_neg (by decide +kernel)]; exact ⟨rfl, rfl⟩)
theorem over : Rows.clockDisablesRow.holds Tryz.pinned (OpenSpec.ofChange Rows.clockDisablesSpec) :=
 OpenClaim.holds_of_wide 3 Tryz.f3 rfl rfl rfl rfl rfl rfl rfl ⟨rfl, rfl, rfl, rfl, rfl⟩ rfl rfl rfl rfl rfl kName Tryz.func3 kAll kInst kWrap
  (fun os started H enc _ => lifted os started H enc)
theorem proved : Rows.ClockDisablesSaid := over
#print axioms proved
end Go.Proofs.YtgnabnhggaondaaGreat.clockDisables
