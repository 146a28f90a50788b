/- For every input that its types allow the law ConfLines returns true, and each argument reads behind the call as it read before. -/
import Derived.Test.YteejfnagilnkjaaP10h
import Derived.Test.YteejfnagilnkjaaRfD
import Derived.Test.YteejfnagilnkjaaRows
import Derived.WalkKit
import Derived.ProofKit
import Derived.OpenShut
import Derived.ShutString
import Derived.ChangeOld
import Derived.Below
import Derived.SizedLaws
namespace Go.Proofs.Yteejfnagilnkjaa.confLines
open Go.ChangeShapes Go.WideShapes Go.ChangeAt Go.RowKit Go.Rf
set_option linter.unusedVariables false
set_option linter.unusedSimpArgs false
theorem own : ownKnob Try.prog.godebug = none := by kernel_rfl
theorem laidOut : laidOutB Try.prog = true := by kernel_rfl
set_option maxRecDepth 100000 in
/-- For every input that its types allow the law ConfLines returns true, and each argument reads behind the call as it read before. -/
theorem lifted (os : Os) (started : os.Started) (H : Type) (enc : TypeId × Value → H) :
    ReturnsInHanded {} Try.checked os 3 .any (Rows.confLinesSpec.pre6 enc Try.prog Try.f3 Rows.confLinesRow.domain false) (Rows.confLinesSpec.post enc Try.prog Try.f3 false true false false) := by
  refine returnsInHanded_of_change_sized (C := Try.checked) own started (by kernel_rfl) Try.func3
    (ChangeSpec.witness6 (enc := enc) (C := Try.checked) false ⟨#[], #[.int .u64 0, .string ByteArray.empty, .int .i64 0, .int .i64 0], []⟩ 12 (by kernel_rfl) (by kernel_rfl) (by kernel_rfl) (by kernel_rfl)) ?_
  intro W base args ds gs before hval0 hW hcnd hsz0 _
  have hsz : (DataW.weightsEach Try.prog (Try.f3.params.toList ++ Rows.confLinesSpec.plain.varTypes Try.prog) (ds ++ gs)).all (· ≤ reachBytes) = true := hsz0
  have hval : ∀ (j : Nat) t v, Try.f3.params[j]? = some t → args[j]? = some v → Value.okWide Try.prog W .any base t v := hval0
  have hW' := hW
  obtain ⟨p, q, hA0, hV, rfl, hfz, hnd⟩ := hW
  have hA : DataW.TrodAll enc Try.prog W 0 (fun _ => true) true Try.f3.params.toList args.toList ds p := hA0
  have hp : Try.f3.params.toList = [22, 9, 3, 3] := by rw [Try.params3]
  rw [hp] at hA hsz
  obtain ⟨rfl, rfl⟩ := trodVars_none hV
  have hwt : ∀ n ∈ DataW.weightsEach Try.prog [22, 9, 3, 3] ds, n ≤ reachBytes := fun n hn => by
    have hv0 : Rows.confLinesSpec.plain.varTypes Try.prog = [] := rfl
    rw [hv0, List.append_nil, List.append_nil, List.all_eq_true] at hsz
    simpa using hsz n hn
  obtain ⟨x, hx, hfit⟩ := open_args (U := U) (d := 20) U_ok decs [22, 9, 3, 3] [.int .u64, .str, .int .i64, .int .i64] args.toList ds p hA (fun j t v h1 h2 => hval j t v (by rw [← Array.getElem?_toList, hp]; exact h1) (by rw [← Array.getElem?_toList]; exact h2)) (by kernel_rfl) hwt
  have w0 : (Lit.int .u64 x.1).wf = true := (by obtain ⟨n, e, w⟩ := (show Opens U Try.prog 22 (encV (.int .u64 : Sh U.C) x.1 0).l from hfit.1).toInt Try.underlying22; cases e; exact w)
  have w1 : x.2.1.size ≤ reachBytes := (by obtain ⟨n, e, w⟩ := (show Opens U Try.prog 9 (encV (.str : Sh U.C) x.2.1 0).l from hfit.2.1).toStr Try.underlying9; cases e; exact w)
  have w2 : (Lit.int .i64 x.2.2.1).wf = true := (by obtain ⟨n, e, w⟩ := (show Opens U Try.prog 3 (encV (.int .i64 : Sh U.C) x.2.2.1 0).l from hfit.2.2.1).toInt Try.underlying3; cases e; exact w)
  have w3 : (Lit.int .i64 x.2.2.2.1).wf = true := (by obtain ⟨n, e, w⟩ := (show Opens U Try.prog 3 (encV (.int .i64 : Sh U.C) x.2.2.2.1 0).l from hfit.2.2.2.1).toInt Try.underlying3; cases e; exact w)
  have hF := law10_ConfLines.law x.1 x.2.1 x.2.2.1 x.2.2.2.1 w0 w1 w2 w3
  have hC := law_walk (U := U) (P := Try.prog) (ss := [.int .u64, .str, .int .i64, .int .i64]) (w := W) (gos := 6) (x := x) law10_ConfLines.hints
    Try.func3 (show Try.f3.body = some law10_ConfLines.C by kernel_rfl) (fun b h => by rw [law10_ConfLines.loops] at h; exact h) ((law10_ConfLines.eq law10_awake conf_Parse law00_Place law10_dec law10_ConfLines.F0 law10_ConfLines.F1 x ()).trans hF) (by decide) rfl hx
  have hlt := trodAll_lt hA
  have hback := fun W' (bel : Below W.heap.size W W') => trodAll_back laidOut bel (fun t ht => of_decide_eq_true (List.all_eq_true.1 (by kernel_rfl : ([22, 9, 3, 3] : List TypeId).all (fun t => decide (Try.prog.readableRec t = true ∧ t < Try.prog.types.size)) = true) t ht)) hA
  obtain ⟨v0, vs0, d0, ds0, p0, q0, ha, rfl, rfl, h0, r0⟩ := trodAll_cons hA
  obtain ⟨v1, vs1, d1, ds1, p1, q1, rfl, rfl, rfl, h1, r1⟩ := trodAll_cons r0
  obtain ⟨v2, vs2, d2, ds2, p2, q2, rfl, rfl, rfl, h2, r2⟩ := trodAll_cons r1
  obtain ⟨v3, vs3, d3, ds3, p3, q3, rfl, rfl, rfl, h3, r3⟩ := trodAll_cons r2
  obtain ⟨rfl, rfl, rfl⟩ := trodAll_nil r3
  refine hC.mono fun e W' ⟨he, bel⟩ => ?_
  subst he
  have hb := hback W' bel
  rw [← hp] at hb
  exact ⟨_, rfl, _, _, _, [], _, [], hW', trodAll_mk1 (shut_bool Try.underlying4 _), hb, rfl, bel.frame _, fun h => by cases h⟩
theorem over : Rows.confLinesRow.holds Try.pinned (OpenSpec.ofChange Rows.confLinesSpec) :=
  OpenClaim.holds_of_wide 3 Try.f3 rfl rfl rfl rfl rfl rfl rfl ⟨rfl, rfl, rfl, rfl, rfl⟩ rfl rfl rfl rfl rfl (by kernel_rfl) Try.func3 (by kernel_rfl)
    (of_decide_eq_true (by kernel_rfl)) (by unfold Func.isWrapper; first | (rw [if_pos (by decide +kernel)]; kernel_rfl) | (rw [if_neg (by decide +kernel)]; exact ⟨rfl, rfl⟩))
    (fun os started H enc _ => lifted os started H enc)
theorem proved : Rows.ConfLinesSaid := over
#print axioms proved
end Go.Proofs.Yteejfnagilnkjaa.confLines

