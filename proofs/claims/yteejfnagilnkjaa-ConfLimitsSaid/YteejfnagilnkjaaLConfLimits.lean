/- For every input that its types allow the law ConfLimits returns true, and each argument reads behind the call as it read before. -/
import Derived.Test.YteejfnagilnkjaaP10a
import Derived.Test.YteejfnagilnkjaaRfD
import Derived.Test.YteejfnagilnkjaaRows
import Derived.WalkKit
import Derived.ProofKit
import Derived.OpenShut
import Derived.ShutString
import Derived.ChangeOld
import Derived.Below
import Derived.SizedLaws
namespace Go.Proofs.Yteejfnagilnkjaa.confLimits
open Go.ChangeShapes Go.WideShapes Go.ChangeAt Go.RowKit Go.Rf
set_option linter.unusedVariables false
set_option linter.unusedSimpArgs false
theorem own : ownKnob Try.prog.godebug = none := by kernel_rfl
theorem laidOut : laidOutB Try.prog = true := by kernel_rfl
set_option maxRecDepth 100000 in
/-- For every input that its types allow the law ConfLimits returns true, and each argument reads behind the call as it read before. -/
theorem lifted (os : Os) (started : os.Started) (H : Type) (enc : TypeId × Value → H) :
    ReturnsInHanded {} Try.checked os 4 .any (Rows.confLimitsSpec.pre6 enc Try.prog Try.f4 Rows.confLimitsRow.domain false) (Rows.confLimitsSpec.post enc Try.prog Try.f4 false true false false) := by
  refine returnsInHanded_of_change_sized (C := Try.checked) own started (by kernel_rfl) Try.func4
    (ChangeSpec.witness6 (enc := enc) (C := Try.checked) false ⟨#[], #[], []⟩ 12 (by kernel_rfl) (by kernel_rfl) (by kernel_rfl) (by kernel_rfl)) ?_
  intro W base args ds gs before hval0 hW hcnd hsz0 _
  have hsz : (DataW.weightsEach Try.prog (Try.f4.params.toList ++ Rows.confLimitsSpec.plain.varTypes Try.prog) (ds ++ gs)).all (· ≤ reachBytes) = true := hsz0
  have hval : ∀ (j : Nat) t v, Try.f4.params[j]? = some t → args[j]? = some v → Value.okWide Try.prog W .any base t v := hval0
  have hW' := hW
  obtain ⟨p, q, hA0, hV, rfl, hfz, hnd⟩ := hW
  have hA : DataW.TrodAll enc Try.prog W 0 (fun _ => true) true Try.f4.params.toList args.toList ds p := hA0
  have hp : Try.f4.params.toList = [] := by rw [Try.params4]
  rw [hp] at hA hsz
  obtain ⟨rfl, rfl⟩ := trodVars_none hV
  have hwt : ∀ n ∈ DataW.weightsEach Try.prog [] ds, n ≤ reachBytes := fun n hn => by
    have hv0 : Rows.confLimitsSpec.plain.varTypes Try.prog = [] := rfl
    rw [hv0, List.append_nil, List.append_nil, List.all_eq_true] at hsz
    simpa using hsz n hn
  obtain ⟨x, hx, hfit⟩ := open_args (U := U) (d := 20) U_ok decs [] [] args.toList ds p hA (fun j t v h1 h2 => hval j t v (by rw [← Array.getElem?_toList, hp]; exact h1) (by rw [← Array.getElem?_toList]; exact h2)) (by kernel_rfl) hwt
  have hF := law10_ConfLimits.law
  have hC := law_walk (U := U) (P := Try.prog) (ss := []) (w := W) (gos := 6) (x := x) law10_ConfLimits.hints
    Try.func4 rfl (fun b h => h) ((law10_ConfLimits.eq conf_Default conf_Check law10_ConfLimits_2 law10_ConfLimits_3 law10_ConfLimits_4 law10_ConfLimits_5 law10_ConfLimits_6 law10_ConfLimits_7 law10_ConfLimits_8 law10_ConfLimits_9 law10_ConfLimits_10 law10_ConfLimits_11 law10_ConfLimits_12 law10_ConfLimits_13 law10_ConfLimits_14 law10_ConfLimits_15 law10_ConfLimits_16 law10_ConfLimits_17 law10_ConfLimits_18 law10_ConfLimits_19 law10_ConfLimits_20 law10_ConfLimits_21 law10_ConfLimits_22 law10_ConfLimits_23 law10_ConfLimits_24 law10_awake x ()).trans hF) (by decide) rfl hx
  have hlt := trodAll_lt hA
  have hback := fun W' (bel : Below W.heap.size W W') => trodAll_back laidOut bel (fun t ht => of_decide_eq_true (List.all_eq_true.1 (by kernel_rfl : ([] : List TypeId).all (fun t => decide (Try.prog.readableRec t = true ∧ t < Try.prog.types.size)) = true) t ht)) hA
  obtain ⟨ha, rfl, rfl⟩ := trodAll_nil hA
  refine hC.mono fun e W' ⟨he, bel⟩ => ?_
  subst he
  have hb := hback W' bel
  rw [← hp] at hb
  exact ⟨_, rfl, _, _, _, [], _, [], hW', trodAll_mk1 (shut_bool Try.underlying4 _), hb, rfl, bel.frame _, fun h => by cases h⟩
theorem over : Rows.confLimitsRow.holds Try.pinned (OpenSpec.ofChange Rows.confLimitsSpec) :=
  OpenClaim.holds_of_wide 4 Try.f4 rfl rfl rfl rfl rfl rfl rfl ⟨rfl, rfl, rfl, rfl, rfl⟩ rfl rfl rfl rfl rfl (by kernel_rfl) Try.func4 (by kernel_rfl)
    (of_decide_eq_true (by kernel_rfl)) (by unfold Func.isWrapper; first | (rw [if_pos (by decide +kernel)]; kernel_rfl) | (rw [if_neg (by decide +kernel)]; exact ⟨rfl, rfl⟩))
    (fun os started H enc _ => lifted os started H enc)
theorem proved : Rows.ConfLimitsSaid := over
#print axioms proved
end Go.Proofs.Yteejfnagilnkjaa.confLimits

