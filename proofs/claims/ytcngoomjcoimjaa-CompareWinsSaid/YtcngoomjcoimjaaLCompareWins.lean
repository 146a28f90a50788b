/- For every input that its types allow the law CompareWins returns true, and each argument reads behind the call as it read before. -/
import Derived.Test.YtcngoomjcoimjaaP11w
import Derived.Test.YtcngoomjcoimjaaRfD
import Derived.Test.YtcngoomjcoimjaaRows
import Derived.WalkKit
import Derived.ProofKit
import Derived.OpenShut
import Derived.ShutString
import Derived.ChangeOld
import Derived.Below
import Derived.SizedLaws
namespace Go.Proofs.Ytcngoomjcoimjaa.compareWins
open Go.ChangeShapes Go.WideShapes Go.ChangeAt Go.RowKit Go.Rf
set_option linter.unusedVariables false
set_option linter.unusedSimpArgs false
theorem own : ownKnob Try.prog.godebug = none := by kernel_rfl
theorem laidOut : laidOutB Try.prog = true := by kernel_rfl
set_option maxRecDepth 100000 in
/-- For every input that its types allow the law CompareWins returns true, and each argument reads behind the call as it read before. -/
theorem lifted (os : Os) (started : os.Started) (H : Type) (enc : TypeId × Value → H) :
    ReturnsInHanded {} Try.checked os 6 .any (Rows.compareWinsSpec.pre6 enc Try.prog Try.f6 Rows.compareWinsRow.domain false) (Rows.compareWinsSpec.post enc Try.prog Try.f6 false true false false) := by
  refine returnsInHanded_of_change_sized (C := Try.checked) own started (by kernel_rfl) Try.func6
    (ChangeSpec.witness6 (enc := enc) (C := Try.checked) false ⟨#[], #[.slice none 0 0], []⟩ 12 (by kernel_rfl) (by kernel_rfl) (by kernel_rfl) (by kernel_rfl)) ?_
  intro W base args ds gs before hval0 hW hcnd hsz0 _
  have hsz : (DataW.weightsEach Try.prog (Try.f6.params.toList ++ Rows.compareWinsSpec.plain.varTypes Try.prog) (ds ++ gs)).all (· ≤ reachBytes) = true := hsz0
  have hval : ∀ (j : Nat) t v, Try.f6.params[j]? = some t → args[j]? = some v → Value.okWide Try.prog W .any base t v := hval0
  have hW' := hW
  obtain ⟨p, q, hA0, hV, rfl, hfz, hnd⟩ := hW
  have hA : DataW.TrodAll enc Try.prog W 0 (fun _ => true) true Try.f6.params.toList args.toList ds p := hA0
  have hp : Try.f6.params.toList = [35] := by rw [Try.params6]
  rw [hp] at hA hsz
  obtain ⟨rfl, rfl⟩ := trodVars_none hV
  have hwt : ∀ n ∈ DataW.weightsEach Try.prog [35] ds, n ≤ reachBytes := fun n hn => by
    have hv0 : Rows.compareWinsSpec.plain.varTypes Try.prog = [] := rfl
    rw [hv0, List.append_nil, List.append_nil, List.all_eq_true] at hsz
    simpa using hsz n hn
  obtain ⟨x, hx, hfit⟩ := open_args (U := U) (d := 20) U_ok decs [35] [.isl .t_api_Vector] args.toList ds p hA (fun j t v h1 h2 => hval j t v (by rw [← Array.getElem?_toList, hp]; exact h1) (by rw [← Array.getElem?_toList]; exact h2)) (by kernel_rfl) hwt
  have w0 : (x.1.length * 88 ≤ reachBytes ∧ ∀ y ∈ x.1, api_Vector.Wf y) := (by obtain ⟨n, e, b, a⟩ := (show Opens U Try.prog 35 (encV (.isl .t_api_Vector : Sh U.C) x.1 0).l from hfit.1).toSl (U := U) (u := UC.t_api_Vector) Try.underlying35 rfl; cases e; have zb : Try.prog.bytesOf 28 = 88 := (by kernel_rfl); rw [zb] at b; exact ⟨b, fun y hy => (by obtain ⟨x, e, w⟩ := api_Vector.opened (a y hy); have := api_Vector.enc_inj e; subst this; exact w)⟩)
  have hF := law11_CompareWins.law x.1 w0
  have hC := law_walk (U := U) (P := Try.prog) (ss := [.isl .t_api_Vector]) (w := W) (gos := 6) (x := x) law11_CompareWins.hints
    Try.func6 (show Try.f6.body = some law11_CompareWins.C by kernel_rfl) (fun b h => by rw [law11_CompareWins.loops] at h; exact h) ((law11_CompareWins.eq compare_Best law11_awake compare_Compare law11_CompareWins.F0 law11_CompareWins.F1 x ()).trans hF) (by decide) rfl hx
  have hlt := trodAll_lt hA
  have hback := fun W' (bel : Below W.heap.size W W') => trodAll_back laidOut bel (fun t ht => of_decide_eq_true (List.all_eq_true.1 (by kernel_rfl : ([35] : List TypeId).all (fun t => decide (Try.prog.readableRec t = true ∧ t < Try.prog.types.size)) = true) t ht)) hA
  obtain ⟨v0, vs0, d0, ds0, p0, q0, ha, rfl, rfl, h0, r0⟩ := trodAll_cons hA
  obtain ⟨rfl, rfl, rfl⟩ := trodAll_nil r0
  refine hC.mono fun e W' ⟨he, bel⟩ => ?_
  subst he
  have hb := hback W' bel
  rw [← hp] at hb
  exact ⟨_, rfl, _, _, _, [], _, [], hW', trodAll_mk1 (shut_bool Try.underlying4 _), hb, rfl, bel.frame _, fun h => by cases h⟩
theorem over : Rows.compareWinsRow.holds Try.pinned (OpenSpec.ofChange Rows.compareWinsSpec) :=
  OpenClaim.holds_of_wide 6 Try.f6 rfl rfl rfl rfl rfl rfl rfl ⟨rfl, rfl, rfl, rfl, rfl⟩ rfl rfl rfl rfl rfl (by kernel_rfl) Try.func6 (by kernel_rfl)
    (of_decide_eq_true (by kernel_rfl)) (by unfold Func.isWrapper; first | (rw [if_pos (by decide +kernel)]; kernel_rfl) | (rw [if_neg (by decide +kernel)]; exact ⟨rfl, rfl⟩))
    (fun os started H enc _ => lifted os started H enc)
theorem proved : Rows.CompareWinsSaid := over
#print axioms proved
end Go.Proofs.Ytcngoomjcoimjaa.compareWins

