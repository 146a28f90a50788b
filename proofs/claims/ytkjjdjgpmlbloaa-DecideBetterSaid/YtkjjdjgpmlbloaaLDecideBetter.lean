/- For every input that its types allow the law DecideBetter returns true, and each argument reads behind the call as it read before. -/
import Derived.Test.YtkjjdjgpmlbloaaP13w
import Derived.Test.YtkjjdjgpmlbloaaRfD
import Derived.Test.YtkjjdjgpmlbloaaRows
import Derived.WalkKit
import Derived.ProofKit
import Derived.OpenShut
import Derived.ShutString
import Derived.ChangeOld
import Derived.Below
import Derived.SizedLaws
namespace Go.Proofs.Ytkjjdjgpmlbloaa.decideBetter
open Go.ChangeShapes Go.WideShapes Go.ChangeAt Go.RowKit Go.Rf
set_option linter.unusedVariables false
set_option linter.unusedSimpArgs false
theorem own : ownKnob Try.prog.godebug = none := by kernel_rfl
theorem laidOut : laidOutB Try.prog = true := by kernel_rfl
set_option maxRecDepth 100000 in
/-- For every input that its types allow the law DecideBetter returns true, and each argument reads behind the call as it read before. -/
theorem lifted (os : Os) (started : os.Started) (H : Type) (enc : TypeId × Value → H) :
    ReturnsInHanded {} Try.checked os 5 .any (Rows.decideBetterSpec.pre6 enc Try.prog Try.f5 Rows.decideBetterRow.domain false) (Rows.decideBetterSpec.post enc Try.prog Try.f5 false true false false) := by
  refine returnsInHanded_of_change_sized (C := Try.checked) own started (by kernel_rfl) Try.func5
    (ChangeSpec.witness6 (enc := enc) (C := Try.checked) false ⟨#[], #[.agg #[.int .i64 0, .int .i64 0, .int .i64 0, .int .i64 0, .int .i64 0, .int .u64 0, .int .i64 0, .int .u64 0, .int .i64 0, .int .u64 0, .int .i64 0], .slice none 0 0], []⟩ 12 (by kernel_rfl) (by kernel_rfl) (by kernel_rfl) (by kernel_rfl)) ?_
  intro W base args ds gs before hval0 hW hcnd hsz0 _
  have hsz : (DataW.weightsEach Try.prog (Try.f5.params.toList ++ Rows.decideBetterSpec.plain.varTypes Try.prog) (ds ++ gs)).all (· ≤ reachBytes) = true := hsz0
  have hval : ∀ (j : Nat) t v, Try.f5.params[j]? = some t → args[j]? = some v → Value.okWide Try.prog W .any base t v := hval0
  have hW' := hW
  obtain ⟨p, q, hA0, hV, rfl, hfz, hnd⟩ := hW
  have hA : DataW.TrodAll enc Try.prog W 0 (fun _ => true) true Try.f5.params.toList args.toList ds p := hA0
  have hp : Try.f5.params.toList = [28, 30] := by rw [Try.params5]
  rw [hp] at hA hsz
  obtain ⟨rfl, rfl⟩ := trodVars_none hV
  have hwt : ∀ n ∈ DataW.weightsEach Try.prog [28, 30] ds, n ≤ reachBytes := fun n hn => by
    have hv0 : Rows.decideBetterSpec.plain.varTypes Try.prog = [] := rfl
    rw [hv0, List.append_nil, List.append_nil, List.all_eq_true] at hsz
    simpa using hsz n hn
  obtain ⟨x, hx, hfit⟩ := open_args (U := U) (d := 20) U_ok decs [28, 30] [.data .t_api_Vector, .isl .t_api_Vector] args.toList ds p hA (fun j t v h1 h2 => hval j t v (by rw [← Array.getElem?_toList, hp]; exact h1) (by rw [← Array.getElem?_toList]; exact h2)) (by kernel_rfl) hwt
  have w0 : api_Vector.Wf x.1 := (by obtain ⟨x, e, w⟩ := api_Vector.opened (show Opens U Try.prog 28 (encV (.data .t_api_Vector : Sh U.C) x.1 0).l from hfit.1); have := api_Vector.enc_inj e; subst this; exact w)
  have w1 : (x.2.1.length * 88 ≤ reachBytes ∧ ∀ y ∈ x.2.1, api_Vector.Wf y) := (by obtain ⟨n, e, b, a⟩ := (show Opens U Try.prog 30 (encV (.isl .t_api_Vector : Sh U.C) x.2.1 0).l from hfit.2.1).toSl (U := U) (u := UC.t_api_Vector) Try.underlying30 rfl; cases e; have zb : Try.prog.bytesOf 28 = 88 := (by kernel_rfl); rw [zb] at b; exact ⟨b, fun y hy => (by obtain ⟨x, e, w⟩ := api_Vector.opened (a y hy); have := api_Vector.enc_inj e; subst this; exact w)⟩)
  have hF := law13_DecideBetter.law x.1 x.2.1 w0 w1
  have hC := law_walk (U := U) (P := Try.prog) (ss := [.data .t_api_Vector, .isl .t_api_Vector]) (w := W) (gos := 6) (x := x) law13_DecideBetter.hints
    Try.func5 (show Try.f5.body = some law13_DecideBetter.C by kernel_rfl) (fun b h => by rw [law13_DecideBetter.loops] at h; exact h) ((law13_DecideBetter.eq law13_awake law00_Place decide_All compare_Grand law13_DecideBetter.F0 law13_DecideBetter.F1 x ()).trans hF) (by decide) rfl hx
  have hlt := trodAll_lt hA
  have hback := fun W' (bel : Below W.heap.size W W') => trodAll_back laidOut bel (fun t ht => of_decide_eq_true (List.all_eq_true.1 (by kernel_rfl : ([28, 30] : List TypeId).all (fun t => decide (Try.prog.readableRec t = true ∧ t < Try.prog.types.size)) = true) t ht)) hA
  obtain ⟨v0, vs0, d0, ds0, p0, q0, ha, rfl, rfl, h0, r0⟩ := trodAll_cons hA
  obtain ⟨v1, vs1, d1, ds1, p1, q1, rfl, rfl, rfl, h1, r1⟩ := trodAll_cons r0
  obtain ⟨rfl, rfl, rfl⟩ := trodAll_nil r1
  refine hC.mono fun e W' ⟨he, bel⟩ => ?_
  subst he
  have hb := hback W' bel
  rw [← hp] at hb
  exact ⟨_, rfl, _, _, _, [], _, [], hW', trodAll_mk1 (shut_bool Try.underlying4 _), hb, rfl, bel.frame _, fun h => by cases h⟩
theorem over : Rows.decideBetterRow.holds Try.pinned (OpenSpec.ofChange Rows.decideBetterSpec) :=
  OpenClaim.holds_of_wide 5 Try.f5 rfl rfl rfl rfl rfl rfl rfl ⟨rfl, rfl, rfl, rfl, rfl⟩ rfl rfl rfl rfl rfl (by kernel_rfl) Try.func5 (by kernel_rfl)
    (of_decide_eq_true (by kernel_rfl)) (by unfold Func.isWrapper; first | (rw [if_pos (by decide +kernel)]; kernel_rfl) | (rw [if_neg (by decide +kernel)]; exact ⟨rfl, rfl⟩))
    (fun os started H enc _ => lifted os started H enc)
theorem proved : Rows.DecideBetterSaid := over
#print axioms proved
end Go.Proofs.Ytkjjdjgpmlbloaa.decideBetter

