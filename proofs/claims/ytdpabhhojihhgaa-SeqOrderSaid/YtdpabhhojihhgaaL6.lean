/- Proved here: texts of the statement SeqOrder: typed forms of the functions that it reaches, and its law. -/
import Derived.Test.YtdpabhhojihhgaaP6
import Derived.Test.YtdpabhhojihhgaaRfB
import Derived.Test.YtdpabhhojihhgaaRows
import Derived.WalkKit
import Derived.ProofKit
import Derived.OpenShut
import Derived.ShutString
import Derived.ChangeOld
import Derived.Below
import Derived.SizedLaws
namespace Go.Proofs.Ytdpabhhojihhgaa.seqOrder
open Go.ChangeShapes Go.WideShapes Go.ChangeAt Go.RowKit Go.Rf Go.Proofs.Sq
set_option linter.unusedVariables false
theorem own : ownKnob Try.prog.godebug = none := by kernel_rfl
theorem laidOut : laidOutB Try.prog = true := by kernel_rfl
set_option maxRecDepth 100000 in
theorem lifted (os : Os) (started : os.Started) (H : Type) (enc : TypeId × Value → H) :
    ReturnsInHanded {} Try.checked os 6 .any (Rows.seqOrderSpec.pre6 enc Try.prog Try.f6 Rows.seqOrderRow.domain false) (Rows.seqOrderSpec.post enc Try.prog Try.f6 false true false false) := by
  refine returnsInHanded_of_change_sized (C := Try.checked) own started (by kernel_rfl) Try.func6
    (ChangeSpec.witness6 (enc := enc) (C := Try.checked) false ⟨#[], #[.int .i64 0, .int .i64 0], []⟩ 8 (by kernel_rfl) (by kernel_rfl) (by kernel_rfl) (by kernel_rfl)) ?_
  intro W base args ds gs before hval0 hW hcnd hsz0 _
  have hsz : (DataW.weightsEach Try.prog (Try.f6.params.toList ++ Rows.seqOrderSpec.plain.varTypes Try.prog) (ds ++ gs)).all (· ≤ reachBytes) = true := hsz0
  have hval : ∀ (j : Nat) t v, Try.f6.params[j]? = some t → args[j]? = some v → Value.okWide Try.prog W .any base t v := hval0
  have hW' := hW
  obtain ⟨p, q, hA0, hV, rfl, hfz, hnd⟩ := hW
  have hA : DataW.TrodAll enc Try.prog W 0 (fun _ => true) true Try.f6.params.toList args.toList ds p := hA0
  have hp : Try.f6.params.toList = [3, 3] := by rw [Try.params6]
  rw [hp] at hA hsz
  obtain ⟨rfl, rfl⟩ := trodVars_none hV
  have hwt : ∀ n ∈ DataW.weightsEach Try.prog [3, 3] ds, n ≤ reachBytes := fun n hn => by
    have hv0 : Rows.seqOrderSpec.plain.varTypes Try.prog = [] := rfl
    rw [hv0, List.append_nil, List.append_nil, List.all_eq_true] at hsz
    simpa using hsz n hn
  obtain ⟨x, hx, hfit⟩ := open_args (U := U) (d := 20) U_ok decs [3, 3] [.int .i64, .int .i64] args.toList ds p hA (fun j t v h1 h2 => hval j t v (by rw [← Array.getElem?_toList, hp]; exact h1) (by rw [← Array.getElem?_toList]; exact h2)) (by kernel_rfl) hwt
  have hF := seqOrder x.1 x.2.1
  have hC := law_walk (U := U) (P := Try.prog) (ss := [.int .i64, .int .i64]) (w := W) (gos := 6) (x := x)
    (hints_of (Hn := law16_SeqOrder.H law00_Place seq_Next seq_Newer law16_awake) U_ok mixed (addΓ_ok (addΓ_ok (addΓ_ok (addΓ_ok noΓ_ok law00_Place.ok) seq_Next.ok) seq_Newer.ok) law16_awake.ok) (fun _ => rfl) _)
    Try.func6 rfl (fun b h => h) ((law16_SeqOrder.eq law00_Place seq_Next seq_Newer law16_awake x ()).trans hF) (by decide) hx
  
  have hback := fun W' (bel : Below W.heap.size W W') => trodAll_back laidOut bel (fun t ht => of_decide_eq_true (List.all_eq_true.1 (by kernel_rfl : [3, 3].all (fun t => decide (Try.prog.readableRec t = true ∧ t < Try.prog.types.size)) = true) t ht)) hA
  obtain ⟨v0, vs0, d0, ds0, p0, q0, ha, rfl, rfl, h0, r0⟩ := trodAll_cons hA
  obtain ⟨v1, vs1, d1, ds1, p1, q1, rfl, rfl, rfl, h1, r1⟩ := trodAll_cons r0
  obtain ⟨rfl, rfl, rfl⟩ := trodAll_nil r1
  refine hC.mono fun e W' ⟨he, bel⟩ => ?_
  subst he
  have hb := hback W' bel
  rw [← hp] at hb
  exact ⟨_, rfl, _, _, _, [], _, [], hW', trodAll_mk1 (shut_bool Try.underlying4 _), hb, rfl, bel.frame _, fun h => by cases h⟩
theorem over : Rows.seqOrderRow.holds Try.pinned (OpenSpec.ofChange Rows.seqOrderSpec) :=
  OpenClaim.holds_of_wide 6 Try.f6 rfl rfl rfl rfl rfl rfl rfl ⟨rfl, rfl, rfl, rfl, rfl⟩ rfl rfl rfl rfl rfl (by kernel_rfl) Try.func6 (by kernel_rfl)
    (of_decide_eq_true (by kernel_rfl)) (by unfold Func.isWrapper; first | (rw [if_pos (by decide +kernel)]; kernel_rfl) | (rw [if_neg (by decide +kernel)]; exact ⟨rfl, rfl⟩))
    (fun os started H enc _ => lifted os started H enc)
theorem proved : Rows.SeqOrderSaid := over
#print axioms proved
end Go.Proofs.Ytdpabhhojihhgaa.seqOrder
