/- For every input that its types allow the law DecideClass returns true, and each argument reads behind the call as it read before. -/
import Derived.Test.YtkjjdjgpmlbloaaP13
import Derived.Test.YtkjjdjgpmlbloaaRfC
import Derived.Test.YtkjjdjgpmlbloaaRows
import Derived.WalkKit
import Derived.ProofKit
import Derived.OpenShut
import Derived.ShutString
import Derived.ChangeOld
import Derived.Below
import Derived.SizedLaws
namespace Go.Proofs.Ytkjjdjgpmlbloaa.decideClass
open Go.ChangeShapes Go.WideShapes Go.ChangeAt Go.RowKit Go.Rf
set_option linter.unusedVariables false
set_option linter.unusedSimpArgs false
theorem own : ownKnob Try.prog.godebug = none := by kernel_rfl
theorem laidOut : laidOutB Try.prog = true := by kernel_rfl
set_option maxRecDepth 100000 in
/-- For every input that its types allow the law DecideClass returns true, and each argument reads behind the call as it read before. -/
theorem lifted (os : Os) (started : os.Started) (H : Type) (enc : TypeId × Value → H) :
    ReturnsInHanded {} Try.checked os 7 .any (Rows.decideClassSpec.pre6 enc Try.prog Try.f7 Rows.decideClassRow.domain false) (Rows.decideClassSpec.post enc Try.prog Try.f7 false true false false) := by
  refine returnsInHanded_of_change_sized (C := Try.checked) own started (by kernel_rfl) Try.func7
    (ChangeSpec.witness6 (enc := enc) (C := Try.checked) false ⟨#[], #[.agg #[.int .i64 0, .int .i64 0, .int .i64 0, .int .i64 0, .int .i64 0, .int .u64 0, .int .i64 0, .int .u64 0, .int .i64 0, .int .u64 0, .int .i64 0], .slice none 0 0, .slice none 0 0, .slice none 0 0], []⟩ 12 (by kernel_rfl) (by kernel_rfl) (by kernel_rfl) (by kernel_rfl)) ?_
  intro W base args ds gs before hval0 hW hcnd hsz0 _
  have hsz : (DataW.weightsEach Try.prog (Try.f7.params.toList ++ Rows.decideClassSpec.plain.varTypes Try.prog) (ds ++ gs)).all (· ≤ reachBytes) = true := hsz0
  have hval : ∀ (j : Nat) t v, Try.f7.params[j]? = some t → args[j]? = some v → Value.okWide Try.prog W .any base t v := hval0
  have hW' := hW
  obtain ⟨p, q, hA0, hV, rfl, hfz, hnd⟩ := hW
  have hA : DataW.TrodAll enc Try.prog W 0 (fun _ => true) true Try.f7.params.toList args.toList ds p := hA0
  have hp : Try.f7.params.toList = [28, 29, 30, 29] := by rw [Try.params7]
  rw [hp] at hA hsz
  obtain ⟨rfl, rfl⟩ := trodVars_none hV
  have hwt : ∀ n ∈ DataW.weightsEach Try.prog [28, 29, 30, 29] ds, n ≤ reachBytes := fun n hn => by
    have hv0 : Rows.decideClassSpec.plain.varTypes Try.prog = [] := rfl
    rw [hv0, List.append_nil, List.append_nil, List.all_eq_true] at hsz
    simpa using hsz n hn
  obtain ⟨x, hx, hfit⟩ := open_args (U := U) (d := 20) U_ok decs [28, 29, 30, 29] [.data .t_api_Vector, .isl .bool, .isl .t_api_Vector, .isl .bool] args.toList ds p hA (fun j t v h1 h2 => hval j t v (by rw [← Array.getElem?_toList, hp]; exact h1) (by rw [← Array.getElem?_toList]; exact h2)) (by kernel_rfl) hwt
  have w0 : api_Vector.Wf x.1 := (by obtain ⟨x, e, w⟩ := api_Vector.opened (show Opens U Try.prog 28 (encV (.data .t_api_Vector : Sh U.C) x.1 0).l from hfit.1); have := api_Vector.enc_inj e; subst this; exact w)
  have w1 : (x.2.1.length * 1 ≤ reachBytes ∧ ∀ y ∈ x.2.1, True) := (by obtain ⟨n, e, b, a⟩ := (show Opens U Try.prog 29 (encV (.isl .bool : Sh U.C) x.2.1 0).l from hfit.2.1).toSl (U := U) (u := UC.bool) Try.underlying29 rfl; cases e; have zb : Try.prog.bytesOf 4 = 1 := (by kernel_rfl); rw [zb] at b; exact ⟨b, fun y hy => trivial⟩)
  have w2 : (x.2.2.1.length * 88 ≤ reachBytes ∧ ∀ y ∈ x.2.2.1, api_Vector.Wf y) := (by obtain ⟨n, e, b, a⟩ := (show Opens U Try.prog 30 (encV (.isl .t_api_Vector : Sh U.C) x.2.2.1 0).l from hfit.2.2.1).toSl (U := U) (u := UC.t_api_Vector) Try.underlying30 rfl; cases e; have zb : Try.prog.bytesOf 28 = 88 := (by kernel_rfl); rw [zb] at b; exact ⟨b, fun y hy => (by obtain ⟨x, e, w⟩ := api_Vector.opened (a y hy); have := api_Vector.enc_inj e; subst this; exact w)⟩)
  have w3 : (x.2.2.2.1.length * 1 ≤ reachBytes ∧ ∀ y ∈ x.2.2.2.1, True) := (by obtain ⟨n, e, b, a⟩ := (show Opens U Try.prog 29 (encV (.isl .bool : Sh U.C) x.2.2.2.1 0).l from hfit.2.2.2.1).toSl (U := U) (u := UC.bool) Try.underlying29 rfl; cases e; have zb : Try.prog.bytesOf 4 = 1 := (by kernel_rfl); rw [zb] at b; exact ⟨b, fun y hy => trivial⟩)
  have hF := law13_DecideClass.law x.1 x.2.1 x.2.2.1 x.2.2.2.1 w0 w1 w2 w3
  have hC := law_walk (U := U) (P := Try.prog) (ss := [.data .t_api_Vector, .isl .bool, .isl .t_api_Vector, .isl .bool]) (w := W) (gos := 6) (x := x) law13_DecideClass.hints
    Try.func7 (show Try.f7.body = some law13_DecideClass.C by kernel_rfl) (fun b h => by rw [law13_DecideClass.loops] at h; exact h) ((law13_DecideClass.eq law00_Place law13_some decide_All compare_Compare law13_awake law13_DecideClass.F0 x ()).trans hF) (by decide) rfl hx
  have hlt := trodAll_lt hA
  have hback := fun W' (bel : Below W.heap.size W W') => trodAll_back laidOut bel (fun t ht => of_decide_eq_true (List.all_eq_true.1 (by kernel_rfl : ([28, 29, 30, 29] : List TypeId).all (fun t => decide (Try.prog.readableRec t = true ∧ t < Try.prog.types.size)) = true) t ht)) hA
  obtain ⟨v0, vs0, d0, ds0, p0, q0, ha, rfl, rfl, h0, r0⟩ := trodAll_cons hA
  obtain ⟨v1, vs1, d1, ds1, p1, q1, rfl, rfl, rfl, h1, r1⟩ := trodAll_cons r0
  obtain ⟨v2, vs2, d2, ds2, p2, q2, rfl, rfl, rfl, h2, r2⟩ := trodAll_cons r1
  obtain ⟨v3, vs3, d3, ds3, p3, q3, rfl, rfl, rfl, h3, r3⟩ := trodAll_cons r2
  obtain ⟨rfl, rfl, rfl⟩ := trodAll_nil r3
  refine hC.mono fun e W' ⟨he, bel⟩ => ?_
  subst he
  have hb := hback W' bel
  rw [← hp] at hb
  exact ⟨_, rfl, _, _, _, [], _, [], hW', trodAll_mk1 (shut_bool Try.underlying4 _), hb, rfl, bel.frame _, fun h => by cases h⟩
theorem over : Rows.decideClassRow.holds Try.pinned (OpenSpec.ofChange Rows.decideClassSpec) :=
  OpenClaim.holds_of_wide 7 Try.f7 rfl rfl rfl rfl rfl rfl rfl ⟨rfl, rfl, rfl, rfl, rfl⟩ rfl rfl rfl rfl rfl (by kernel_rfl) Try.func7 (by kernel_rfl)
    (of_decide_eq_true (by kernel_rfl)) (by unfold Func.isWrapper; first | (rw [if_pos (by decide +kernel)]; kernel_rfl) | (rw [if_neg (by decide +kernel)]; exact ⟨rfl, rfl⟩))
    (fun os started H enc _ => lifted os started H enc)
theorem proved : Rows.DecideClassSaid := over
#print axioms proved
end Go.Proofs.Ytkjjdjgpmlbloaa.decideClass

