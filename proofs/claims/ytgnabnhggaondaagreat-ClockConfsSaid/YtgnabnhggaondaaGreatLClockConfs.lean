/- For every input that its types allow the law ClockConfs returns true, and each argument reads behind the call as it read before. -/
import Derived.Test.YtgnabnhggaondaaGreatPC
import Derived.Test.YtgnabnhggaondaaGreatRfD
import Derived.Test.YtgnabnhggaondaaGreatRows
import Derived.WalkKit
import Derived.ProofKit
import Derived.OpenShut
import Derived.ShutString
import Derived.ChangeOld
import Derived.Below
import Derived.SizedLaws
namespace Go.Proofs.YtgnabnhggaondaaGreat.clockConfs
open Go.ChangeShapes Go.WideShapes Go.ChangeAt Go.RowKit Go.Rf
set_option linter.unusedVariables false
set_option linter.unusedSimpArgs false
theorem own : ownKnob Tryz.prog.godebug = none := by kernel_rfl
theorem laidOut : laidOutB Tryz.prog = true := by kernel_rfl
set_option maxRecDepth 100000 in
theorem lifted (os : Os) (started : os.Started) (H : Type) (enc : TypeId × Value → H) :
  ReturnsInHanded {} Tryz.checked os 14 .any (Rows.clockConfsSpec.pre6 enc Tryz.prog Tryz.f14 Rows.clockConfsRow.domain false) (Rows.clockConfsSpec.post enc Tryz.prog Tryz.f14 false true false false) := by
 refine returnsInHanded_of_change_sized (C := Tryz.checked) own started (by kernel_rfl) Tryz.func14
  (ChangeSpec.witness6 (enc := enc) (C := Tryz.checked) false ⟨#[], #[.agg #[.int .u64 0, .int .i64 0, .int .i64 0, .int .i64 0, .int .i64 0, .int .i64 0, .int .i64 0, .int .i64 0, .bool false, .int .i64 0, .int .i64 0, .int .i64 0, .int .i64 0, .bool false, .bool false, .int .i64 0, .int .i64 0, .int .i64 0, .int .i64 0, .int .i64 0, .int .i64 0, .int .i64 0, .bool false]], []⟩ 12 (by kernel_rfl) (by kernel_rfl) (by kernel_rfl) (by kernel_rfl)) ?_
 intro W base args ds gs before hval0 hW hcnd hsz0 _
 have hsz : (DataW.weightsEach Tryz.prog (Tryz.f14.params.toList ++ Rows.clockConfsSpec.plain.varTypes Tryz.prog) (ds ++ gs)).all (· ≤ reachBytes) = true := hsz0
 have hval : ∀ (j : Nat) t v, Tryz.f14.params[j]? = some t → args[j]? = some v → Value.okWide Tryz.prog W .any base t v := hval0
 have hW' := hW
 obtain ⟨p, q, hA0, hV, rfl, hfz, hnd⟩ := hW
 have hA : DataW.TrodAll enc Tryz.prog W 0 (fun _ => true) true Tryz.f14.params.toList args.toList ds p := hA0
 have hp : Tryz.f14.params.toList = [37] := by rw [Tryz.params14]
 rw [hp] at hA hsz
 obtain ⟨rfl, rfl⟩ := trodVars_none hV
 have hwt : ∀ n ∈ DataW.weightsEach Tryz.prog [37] ds, n ≤ reachBytes := fun n hn => by
  have hv0 : Rows.clockConfsSpec.plain.varTypes Tryz.prog = [] := rfl
  rw [hv0, List.append_nil, List.append_nil, List.all_eq_true] at hsz
  simpa using hsz n hn
 obtain ⟨x, hx, hfit⟩ := open_args (U := U) (d := 20) U_ok decs [37] [.data .t_api_Conf] args.toList ds p hA (fun j t v h1 h2 => hval j t v (by rw [← Array.getElem?_toList, hp]; exact h1) (by rw [← Array.getElem?_toList]; exact h2)) (by kernel_rfl) hwt
 have w0 : api_Conf.Wf x.1 := (by obtain ⟨x, e, w⟩ := api_Conf.opened (show Opens U Tryz.prog 37 (encV (.data .t_api_Conf : Sh U.C) x.1 0).l from hfit.1); have := api_Conf.enc_inj e; subst this; exact w)
 obtain ⟨y0, hF⟩ := K69.law x.1 w0
 have hC := law_walk (U := U) (P := Tryz.prog) (ss := [.data .t_api_Conf]) (fs := [.fam 0 (.obj .t_clock_Clock), .fam 1 (.obj .t_ref23_K), .fam 2 (.obj .t_ref20_S), .fam 3 (.obj .t_ref23_P), .fam 4 (.obj .t_ref12_T), .fam 5 (.obj .t_servo_Servo), .fam 6 (.obj .t_foreign_Table), .fam 7 (.obj .t_delay_Exchange), .fam 8 (.obj .t_peer_Exchange), .fam 9 (.obj .t_median_Filter), .fam 10 (.obj .t_seq_Match), .fam 11 (.obj .t_ref19_F), .fam 12 (.map true false .t_api_PortID .l_u64)]) (w := W) (gos := 6) (x := x) K69.hints
  Tryz.func14 rfl (fun b h => h) ((K69.eq K31 K96 K67 K70.A x (fam0 (U := U) [.fam 0 (.obj .t_clock_Clock), .fam 1 (.obj .t_ref23_K), .fam 2 (.obj .t_ref20_S), .fam 3 (.obj .t_ref23_P), .fam 4 (.obj .t_ref12_T), .fam 5 (.obj .t_servo_Servo), .fam 6 (.obj .t_foreign_Table), .fam 7 (.obj .t_delay_Exchange), .fam 8 (.obj .t_peer_Exchange), .fam 9 (.obj .t_median_Filter), .fam 10 (.obj .t_seq_Match), .fam 11 (.obj .t_ref19_F), .fam 12 (.map true false .t_api_PortID .l_u64)])).trans hF) (by decide) rfl rfl (by decide) (by decide) (by decide) hx
 have hlt := trodAll_lt hA
 have hback := fun W' (bel : Below W.heap.size W W') => trodAll_back laidOut bel (fun t ht => of_decide_eq_true (List.all_eq_true.1 (by kernel_rfl : ([37] : List TypeId).all (fun t => decide (Tryz.prog.readableRec t = true ∧ t < Tryz.prog.types.size)) = true) t ht)) hA
 obtain ⟨v0, vs0, d0, ds0, p0, q0, ha, rfl, rfl, h0, r0⟩ := trodAll_cons hA
 obtain ⟨rfl, rfl, rfl⟩ := trodAll_nil r0
 refine hC.mono fun e W' ⟨he, bel⟩ => ?_
 subst he
 have hb := hback W' bel
 rw [← hp] at hb
 exact ⟨_, rfl, _, _, _, [], _, [], hW', trodAll_mk1 (shut_bool Tryz.underlying4 _), hb, rfl, bel.frame _, fun h => by cases h⟩
theorem two {a b : Bool} (h : a = true) (k : b = true) : (a && b) = true := by rw [h, k]; rfl
theorem k0 : (Rows.clockConfsRow.wf (OpenSpec.ofChange Rows.clockConfsSpec)) = true := by kernel_rfl
theorem k1 : (laidOutB Tryz.prog) = true := by kernel_rfl
theorem k2 : (mapsRowed Tryz.prog) = true := by kernel_rfl
theorem k3 : (Tryz.f14.params.all (Tryz.prog.readableRec ·)) = true := by kernel_rfl
theorem k4 : (namedTie Tryz.prog Rows.clockConfsRow.named Rows.clockConfsSpec.vars) = true := by kernel_rfl
theorem k5 : ((Rows.clockConfsRow.stops == [])) = true := by kernel_rfl
theorem k6 : ((Tryz.prog.stops == [])) = true := by kernel_rfl
theorem k7 : ((Rows.clockConfsRow.knobs == [])) = true := by kernel_rfl
theorem k8 : ((Tryz.prog.stopKnobs == [])) = true := by kernel_rfl
theorem k9 : ((Rows.clockConfsRow.inPlace == Tryz.prog.inPlace 14)) = true := by kernel_rfl
theorem k10 : ((Rows.clockConfsRow.unfollowed == Tryz.prog.unfollowed 14)) = true := by kernel_rfl
theorem k11 : ((Rows.clockConfsRow.recurses == Tryz.prog.recurses 14)) = true := by kernel_rfl
theorem k12 : ((Rows.clockConfsRow.named == Tryz.prog.varsNamed 14)) = true := by kernel_rfl
theorem k13 : ((Rows.clockConfsRow.maps == (Tryz.f14.params.toList ++ Rows.clockConfsSpec.plain.varTypes Tryz.prog).any (Tryz.prog.mapsRec ·))) = true := by kernel_rfl
theorem k14 : ((Rows.clockConfsRow.ifaces == (Tryz.f14.params.toList ++ Rows.clockConfsSpec.plain.varTypes Tryz.prog).any (Tryz.prog.ifacesRec ·))) = true := by kernel_rfl
theorem k15 : ((Rows.clockConfsRow.mapsOut == Tryz.prog.mapsAmong Tryz.f14.resultTypes.toList)) = true := by kernel_rfl
theorem k16 : ((Rows.clockConfsRow.loops == (Tryz.f14.params.toList ++ Rows.clockConfsSpec.plain.varTypes Tryz.prog).any (Tryz.prog.loopsFrom ·))) = true := by kernel_rfl
theorem k17 : ((Rows.clockConfsRow.wideKeys == (Tryz.f14.params.toList ++ Rows.clockConfsSpec.plain.varTypes Tryz.prog ++ Tryz.f14.resultTypes.toList).any (Tryz.prog.wideKeysFrom ·))) = true := by kernel_rfl
theorem k18 : (Rows.clockConfsSpec.vars.all (Tryz.prog.varReadable ·)) = true := by kernel_rfl
theorem k19 : (Tryz.f14.resultTypes.all (fun t => Tryz.prog.readableRec t && decide (t < Tryz.prog.types.size))) = true := by kernel_rfl
theorem k20 : ((Rows.clockConfsRow.ifacesOut == Tryz.f14.resultTypes.toList.any (Tryz.prog.ifacesRec ·))) = true := by kernel_rfl
theorem k21 : ((Rows.clockConfsRow.loopsOut == Tryz.f14.resultTypes.toList.any (Tryz.prog.loopsFrom ·))) = true := by kernel_rfl
theorem k22 : ((Rows.clockConfsRow.plainKeys == Tryz.prog.plainKeys)) = true := by kernel_rfl
theorem k23 : (Rows.clockConfsRow.shortTexts.isNone) = true := by kernel_rfl
theorem k24 : (Tryz.prog.stopsHeard) = true := by kernel_rfl
theorem k25 : (Tryz.prog.mayEnter) = true := by kernel_rfl
theorem k26 : ((Rows.clockConfsRow.lifted == Tryz.prog.liftsFinal)) = true := by kernel_rfl
theorem k27 : ((Tryz.prog.make == some Rows.clockConfsRow.make)) = true := by kernel_rfl
theorem k28 : ((Rows.clockConfsRow.kinds == (if Rows.clockConfsRow.domain.isEmpty then [] else Tryz.f14.params.toList.map fun t => match Tryz.prog.underlying t with | some (.int k) => some k | _ => none))) = true := by kernel_rfl
theorem k29 : ((Rows.clockConfsRow.pinned == Rows.clockConfsRow.pinnedBy)) = true := by kernel_rfl
theorem k30 : ((Rows.clockConfsRow.veiled == (Tryz.f14.params.toList ++ Rows.clockConfsSpec.plain.varTypes Tryz.prog ++ Tryz.f14.resultTypes.toList).any (Tryz.prog.veiledRec ·))) = true := by kernel_rfl
theorem k31 : (Rows.clockConfsRow.veiledFits Tryz.prog Tryz.f14.params.toList (Tryz.f14.params.toList ++ Rows.clockConfsSpec.plain.varTypes Tryz.prog ++ Tryz.f14.resultTypes.toList)) = true := by kernel_rfl
set_option maxRecDepth 100000 in
theorem kAll : joinedFacts Tryz.prog 14 Tryz.f14 Rows.clockConfsSpec Rows.clockConfsRow = true := by unfold joinedFacts; exact (two (two (two (two (two (two (two (two (two (two (two (two (two (two (two (two (two (two (two (two (two (two (two (two (two (two (two (two (two (two (two k0 k1) k2) k3) k4) k5) k6) k7) k8) k9) k10) k11) k12) k13) k14) k15) k16) k17) k18) k19) k20) k21) k22) k23) k24) k25) k26) k27) k28) k29) k30) k31)
theorem kName : Tryz.prog.funcNamed Rows.clockConfsRow.func = some 14 := by kernel_rfl
theorem kInst : Tryz.f14.isInstance Tryz.prog Rows.clockConfsRow.origin Rows.clockConfsRow.targs := of_decide_eq_true (by kernel_rfl)
theorem kWrap : Tryz.f14.isWrapper Tryz.prog Rows.clockConfsRow.wrapper Rows.clockConfsRow.mainSum := by unfold Func.isWrapper; first | (rw [if_pos (by decide +kernel)]; kernel_rfl) | (rw [if_neg (by decide +kernel)]; exact ⟨rfl, rfl⟩)
theorem over : Rows.clockConfsRow.holds Tryz.pinned (OpenSpec.ofChange Rows.clockConfsSpec) :=
 OpenClaim.holds_of_wide 14 Tryz.f14 rfl rfl rfl rfl rfl rfl rfl ⟨rfl, rfl, rfl, rfl, rfl⟩ rfl rfl rfl rfl rfl kName Tryz.func14 kAll kInst kWrap
  (fun os started H enc _ => lifted os started H enc)
theorem proved : Rows.ClockConfsSaid := over
#print axioms proved
end Go.Proofs.YtgnabnhggaondaaGreat.clockConfs
