/- Typed forms of the functions that these statements reach, proved equal to what the model runs, and laws over them. -/
import Derived.Test.YtegadjffoighgaaP12c
namespace Go.Proofs.Ytegadjffoighgaa
open Go.Rf
set_option linter.unusedVariables false
set_option linter.unusedSimpArgs false
/-! ### the best of these -/
def bestV (l : List api_Vector) : Nat → Int
  | 0 => -1
  | i + 1 => if bestV l i < 0 then (i : Int) else if 0 < cmpC (l.getD (bestV l i).toNat api_Vector.zero) (l.getD i api_Vector.zero) then (i : Int) else bestV l i
theorem bestV_r (l : List api_Vector) : ∀ i, -1 ≤ bestV l i ∧ bestV l i < (i : Int) ∧ (0 < i → 0 ≤ bestV l i)
  | 0 => by simp [bestV]
  | i + 1 => by
    have ih := bestV_r l i
    unfold bestV
    split
    · omega
    · split <;> omega

theorem best_spec (l : List api_Vector) (hl : l.length < 4611686018427387904) (hs : ∀ v ∈ l, R64 v.fSteps) : compare_Best l = some ((bestV l l.length, ()), (), ()) := by
  have hF : compare_Best.F0 ((l, -1, l, ofN l.length, 0, ()), ()) = some ((bestV l l.length, ()), ()) := by
    unfold compare_Best.F0
    refine loop_to (step := compare_Best.step0 compare_Compare) (fun i => ((l, bestV l i, l, ofN l.length, (i : Int), ()), ())) l.length _ (by simp only; omega) (fun i hi => ?_) ?_
    · have h1 : ilt (i : Int) (ofN l.length) = true := ilt_true (by show (i : Int) < (l.length : Int); omega)
      have hr := bestV_r l i
      unfold compare_Best.step0
      simp only [h1, cond_true, inR_nat, hi, decide_true, Int.toNat_natCast, iinc (show i < 4611686018427387904 by omega)]
      rw [bestV]
      by_cases h2 : bestV l i < 0
      · rw [if_pos h2, ilt_true h2]; rfl
      · rw [if_neg h2, ilt_false h2]
        obtain ⟨k, hk⟩ : ∃ k : Nat, bestV l i = (k : Int) := ⟨(bestV l i).toNat, by omega⟩
        have hk' : k < l.length := by omega
        rw [hk]
        have hc := compare_spec (l.getD k api_Vector.zero) (l.getD i api_Vector.zero) (by rw [getD_at hk']; exact hs _ (List.getElem_mem _)) (by rw [getD_at hi]; exact hs _ (List.getElem_mem _))
        simp only [cond_false, inR_nat, hk', decide_true, cond_true, Int.toNat_natCast, hc, oelim_some]
        by_cases h3 : 0 < cmpC (l.getD k api_Vector.zero) (l.getD i api_Vector.zero)
        · rw [if_pos h3, ilt_true h3]; rfl
        · rw [if_neg h3, ilt_false h3]; rfl
    · have h1 : ilt (l.length : Int) (ofN l.length) = false := ilt_false (by show ¬ (l.length : Int) < (l.length : Int); omega)
      unfold compare_Best.step0
      simp only [h1, cond_false]
  unfold compare_Best compare_Best.gen
  rw [hF]; rfl

theorem bestT_spec {T : foreign_Table} {now : Int} {N : Nat} (hn : T.fn = (N : Int)) (hN : N ≤ 5) (hs : ∀ r ∈ qualL T now N, R64 r.fVector.fSteps) :
    foreign_Table_Best now T = some ((if bestV ((qualL T now N).map (·.fVector)) (qualL T now N).length < 0 then (foreign_Record.zero, (false, ())) else ((qualL T now N).getD (bestV ((qualL T now N).map (·.fVector)) (qualL T now N).length).toNat foreign_Record.zero, (true, ()))), (T, ()), ()) := by
  have hl := qualL_len T now N
  unfold foreign_Table_Best foreign_Table_Best.gen
  rw [qualified_spec hn hN]
  simp only [oelim_some]
  generalize qualL T now N = L at *
  have hF : foreign_Table_Best.F0 ((L, lnil api_Vector, L, ofN L.length, 0, ()), T, foreign_Record.mk (api_Vector.mk 0 (api_Quality.mk 0 0 0) 0 0 0 (api_PortID.mk 0 0) (api_PortID.mk 0 0)) (api_Times.mk 0 0 0) 0 0 0, ()) =
      some ((L, L.map (·.fVector), ()), T, foreign_Record.mk (api_Vector.mk 0 (api_Quality.mk 0 0 0) 0 0 0 (api_PortID.mk 0 0) (api_PortID.mk 0 0)) (api_Times.mk 0 0 0) 0 0 0, ()) := by
    unfold foreign_Table_Best.F0
    refine loop_to (step := foreign_Table_Best.step0 foreign_Table_Qualified compare_Best) (fun i => ((L, (L.take i).map (·.fVector), L, ofN L.length, (i : Int), ()), T, foreign_Record.mk (api_Vector.mk 0 (api_Quality.mk 0 0 0) 0 0 0 (api_PortID.mk 0 0) (api_PortID.mk 0 0)) (api_Times.mk 0 0 0) 0 0 0, ())) L.length _ (by simp only; omega) (fun i hi => ?_) ?_
    · have h1 : ilt (i : Int) (ofN L.length) = true := ilt_true (by show (i : Int) < (L.length : Int); omega)
      unfold foreign_Table_Best.step0
      have hr : ∀ x : api_Vector, room (((L.take i).map (·.fVector)).length + (x :: lnil api_Vector).length) 88 = true := fun x => room_true (by simp; omega)
      have ht : (L.take (i + 1)).map (·.fVector) = (L.take i).map (·.fVector) ++ [(L.getD i foreign_Record.zero).fVector] := by
        rw [List.take_add_one, List.getElem?_eq_getElem hi, List.map_append, getD_at hi]; rfl
      simp only [h1, cond_true, inR_nat, hi, decide_true, Int.toNat_natCast, hr, iinc (show i < 4611686018427387904 by omega), ht]
    · have h1 : ilt (L.length : Int) (ofN L.length) = false := ilt_false (by show ¬ (L.length : Int) < (L.length : Int); omega)
      unfold foreign_Table_Best.step0
      simp only [h1, cond_false, List.take_length]
  rw [hF]
  simp only [oelim_some]
  have hb := best_spec (L.map (·.fVector)) (by rw [List.length_map]; omega) (fun v hv => by
    obtain ⟨r, hr, rfl⟩ := List.mem_map.1 hv
    exact hs r hr)
  rw [List.length_map] at hb
  rw [hb]
  simp only [oelim_some]
  have hr := bestV_r (L.map (·.fVector)) L.length
  generalize bestV (L.map (·.fVector)) L.length = b at *
  by_cases h : b < 0
  · rw [if_pos h, ilt_true h]; rfl
  · rw [if_neg h, ilt_false h, inR_true (by omega) hr.2.1]; rfl

/-! ### of many announcers the best -/
def prioN (ps : List Int) (a : Nat) : Int := ps.getD a 0 % 64
def recB (ps : List Int) (a : Nat) : foreign_Record := foreign_Record.mk (api_Vector.mk (prioN ps a) (api_Quality.mk 0 0 0) 0 (1 + (a : Int)) 0 (api_PortID.mk (1 + (a : Int)) 1) (api_PortID.mk 99 1)) (api_Times.mk 0 0 0) 1 0 1
def recB0 (ps : List Int) (a : Nat) : foreign_Record := foreign_Record.mk (api_Vector.mk (prioN ps a) (api_Quality.mk 0 0 0) 0 (1 + (a : Int)) 0 (api_PortID.mk (1 + (a : Int)) 1) (api_PortID.mk 99 1)) (api_Times.mk 0 0 0) 0 (-1) 0
def tabB (ps : List Int) : Nat → foreign_Table
  | 0 => T0 99 1 50
  | i + 1 => setR (setR (tabB ps i) i (recB0 ps i) ((i + 1 : Nat) : Int)) i (recB ps i) ((i + 1 : Nat) : Int)
structure TabB (ps : List Int) (i : Nat) : Prop where
  own : (tabB ps i).fown = api_PortID.mk 99 1
  win : (tabB ps i).fwindow = 50
  fn : (tabB ps i).fn = (i : Int)
  rcd : ∀ a, a < i → (tabB ps i).fl a = recB ps a
theorem tabB_ok (ps : List Int) : ∀ i, TabB ps i
  | 0 => ⟨rfl, rfl, rfl, fun a h => by omega⟩
  | i + 1 => by
    have ih := tabB_ok ps i
    refine ⟨ih.own, ih.win, rfl, fun a ha => ?_⟩
    show fset (fset (tabB ps i).fl i (recB0 ps i)) i (recB ps i) a = _
    by_cases e : a = i
    · subst e; exact fset_same _ _ _
    · rw [fset_other _ _ e, fset_other _ _ e]; exact ih.rcd a (by omega)

theorem samB {ps : List Int} {i a : Nat} (h : a < i) {c : Int} (m : api_Msg) (hm : m.fSource = api_PortID.mk c 1) (hc : c ≠ 1 + (a : Int)) : samP ((tabB ps i).fl a).fVector.fSender m.fSource = false := by
  rw [(tabB_ok ps i).rcd a h, hm]
  exact samP_no (fun e => hc e.symm)

theorem flag63 : iand .i64 0 63 = 0 := by kernel_rfl
theorem hearB0 (ps : List Int) (i : Nat) (hi : i < 5) : foreign_Table_Hear (annM (1 + (i : Int)) 0 (prioN ps i) (1 + (i : Int))) 0 (tabB ps i) = some ((0, ()), (setR (tabB ps i) i (recB0 ps i) ((i + 1 : Nat) : Int), ()), ()) := by
  have ih := tabB_ok ps i
  rw [hear_new (annM_fair (by decide) (by decide) (by rw [ih.own]; show (1 + (i : Int)) ≠ 99; omega)) ih.fn hi (fun a ha => samB ha _ rfl (by omega))]
  have e : recOf (tabB ps i) (annM (1 + (i : Int)) 0 (prioN ps i) (1 + (i : Int))) 0 (-1) = recB0 ps i := by
    unfold recOf
    rw [ih.own, show iand .i64 (annM (1 + (i : Int)) 0 (prioN ps i) (1 + (i : Int))).fFlags 63 = 0 from flag63]; rfl
  rw [e]
theorem hearB1 (ps : List Int) (i : Nat) (hi : i < 5) : foreign_Table_Hear (annM (1 + (i : Int)) 1 (prioN ps i) (1 + (i : Int))) 1 (setR (tabB ps i) i (recB0 ps i) ((i + 1 : Nat) : Int)) = some ((0, ()), (tabB ps (i + 1), ()), ()) := by
  have ih := tabB_ok ps i
  generalize hT : setR (tabB ps i) i (recB0 ps i) ((i + 1 : Nat) : Int) = T
  have to : T.fown = api_PortID.mk 99 1 := by rw [← hT]; exact ih.own
  have tn : T.fn = ((i + 1 : Nat) : Int) := by rw [← hT]; rfl
  have ti : T.fl i = recB0 ps i := by rw [← hT]; exact fset_same _ _ _
  have ta : ∀ a, a < i → T.fl a = (tabB ps i).fl a := fun a ha => by rw [← hT]; exact fset_other _ _ (by omega)
  rw [hear_again (N := i + 1) (k := i) (annM_fair (by decide) (by decide) (by rw [to]; show (1 + (i : Int)) ≠ 99; omega)) tn (by omega) (by omega) (fun a ha => by rw [ta a ha]; exact samB ha _ rfl (by omega)) (by rw [ti]; exact samP_self _)
    (by rw [ti]; unfold lateB; show (bif ilt (iand .i64 (isub .i64 0 1) 65535) 32768 then true else ilt 1 0) = false; kernel_rfl)]
  have e : recOf T (annM (1 + (i : Int)) 1 (prioN ps i) (1 + (i : Int))) 1 (T.fl i).fLast = recB ps i := by
    unfold recOf
    rw [to, ti, show iand .i64 (annM (1 + (i : Int)) 1 (prioN ps i) (1 + (i : Int))).fFlags 63 = 0 from flag63]; rfl
  rw [e, tn, ← hT]
  rfl

theorem qualB_all (ps : List Int) (N i : Nat) (hi : i ≤ N) : qualL (tabB ps N) 3 i = (List.range i).map (recB ps) := by
  induction i with
  | zero => rfl
  | succ i ih =>
    have h := tabB_ok ps N
    rw [qualL_succ, ih (by omega), h.rcd i (by omega), map_range_succ]
    have : qualB (tabB ps N) 3 (recB ps i) = true := by
      unfold qualB
      rw [oldB_eq h.win (by show (0 : Int) ≤ 0; decide) (by show (0 : Int) ≤ 3; decide) (by decide)]; rfl
    rw [if_pos this]

def bestP (ps : List Int) : Nat → Int
  | 0 => -1
  | i + 1 => if bestP ps i < 0 then (i : Int) else if prioN ps i < prioN ps (bestP ps i).toNat then (i : Int) else bestP ps i
theorem bestP_r (ps : List Int) : ∀ i, -1 ≤ bestP ps i ∧ bestP ps i < (i : Int) ∧ (0 < i → 0 ≤ bestP ps i)
  | 0 => by simp [bestP]
  | i + 1 => by
    have ih := bestP_r ps i
    unfold bestP
    split
    · omega
    · split <;> omega

theorem cmpB (ps : List Int) (k i : Nat) (h : k < i) : 0 < cmpC (recB ps k).fVector (recB ps i).fVector ↔ prioN ps i < prioN ps k := by
  have hg : grand (recB ps k).fVector (recB ps i).fVector = if c3 (prioN ps k) (prioN ps i) = 0 then -1 else c3 (prioN ps k) (prioN ps i) := by
    unfold grand
    show lx [prioN ps k, 0, 0, 0, 0, 1 + (k : Int)] [prioN ps i, 0, 0, 0, 0, 1 + (i : Int)] = _
    have hz : c3 0 0 = 0 := c3_self 0
    have hk : c3 (1 + (k : Int)) (1 + (i : Int)) = -1 := c3_lt.2 (by omega)
    simp only [lx, hz, hk, if_true]
    split <;> rfl
  unfold cmpC
  have hr := c3_r (prioN ps k) (prioN ps i)
  have h1 := @c3_gt (prioN ps k) (prioN ps i)
  have h0 := @c3_zero (prioN ps k) (prioN ps i)
  rw [hg]
  split <;> first | omega | (split <;> omega)

theorem bestV_P (ps : List Int) (N : Nat) : ∀ i, i ≤ N → bestV ((List.range N).map fun a => (recB ps a).fVector) i = bestP ps i
  | 0, _ => rfl
  | i + 1, h => by
    have ih := bestV_P ps N i (by omega)
    have hr := bestP_r ps i
    unfold bestV bestP
    rw [ih]
    by_cases h1 : bestP ps i < 0
    · rw [if_pos h1, if_pos h1]
    · rw [if_neg h1, if_neg h1]
      obtain ⟨k, hk⟩ : ∃ k : Nat, bestP ps i = (k : Int) := ⟨(bestP ps i).toNat, by omega⟩
      rw [hk, Int.toNat_natCast]
      have g : ∀ a, a < N → ((List.range N).map fun a => (recB ps a).fVector).getD a api_Vector.zero = (recB ps a).fVector := fun a ha => by rw [getD_at (by simpa using ha)]; simp
      rw [g k (by omega), g i (by omega)]
      by_cases h2 : prioN ps i < prioN ps k
      · rw [if_pos h2, if_pos ((cmpB ps k i (by omega)).2 h2)]
      · rw [if_neg h2, if_neg (fun h => h2 ((cmpB ps k i (by omega)).1 h))]

theorem u64_small {n : Int} (h0 : 0 ≤ n) (h1 : n < 100) : IntKind.u64.wrap n = n := by
  simp [IntKind.wrap, IntKind.signed, IntKind.bits]; omega

theorem law12_ForeignBest.law : ∀ (ps : List (Int)), (ps.length * 8 ≤ reachBytes ∧ ∀ y ∈ ps, (Lit.int .i64 y).wf = true) → law12_ForeignBest ps = some ((true, ()), (), ()) := by
  intro ps _
  generalize hM : min ps.length 5 = M
  have hd2 : ∀ k, ps.getD k (0 : D UC.int) = ps.getD k (0 : Int) := fun _ => rfl
  have hF1 : ∀ (b : Int) (i : Nat) (m : api_Msg), i < 5 → m = annM (1 + (i : Int)) 0 (prioN ps i) (1 + (i : Int)) → law12_ForeignBest.F1 ((ps, b, (i : Int), prioN ps i, 0, ()), tabB ps i, m, ()) = some (.inl ((ps, b, (i : Int), prioN ps i, ()), tabB ps (i + 1), ())) := fun b i m hi hm => by
    subst hm
    unfold law12_ForeignBest.F1
    refine loop_to (step := law12_ForeignBest.step1 foreign_New foreign_Table_Hear foreign_Table_Best foreign_Table_Clear foreign_Table_Records law12_awake) (fun j => ((ps, b, (i : Int), prioN ps i, (j : Int), ()), (if j = 0 then tabB ps i else if j = 1 then setR (tabB ps i) i (recB0 ps i) ((i + 1 : Nat) : Int) else tabB ps (i + 1)), annM (1 + (i : Int)) (if j = 0 then 0 else (j : Int) - 1) (prioN ps i) (1 + (i : Int)), ())) 2 _ (by simp only; omega) (fun j hj => ?_) ?_
    · have : j = 0 ∨ j = 1 := by omega
      rcases this with rfl | rfl
      · unfold law12_ForeignBest.step1
        have h1 : ilt ((0 : Nat) : Int) 2 = true := rfl
        have hr := hearB0 ps i hi
        unfold annM at hr
        simp only [h1, cond_true, if_true, annM]
        rw [show (((0 : Nat) : Int)) = 0 from rfl, hr]
        rfl
      · unfold law12_ForeignBest.step1
        have h1 : ilt ((1 : Nat) : Int) 2 = true := rfl
        have hr := hearB1 ps i hi
        unfold annM at hr
        simp only [h1, cond_true, if_true, annM]
        rw [if_neg (by decide), show (((1 : Nat) : Int)) = 1 from rfl, hr]
        rfl
    · unfold law12_ForeignBest.step1
      have h1 : ilt ((2 : Nat) : Int) 2 = false := rfl
      simp only [h1, cond_false]
      rfl
  have hF0 : law12_ForeignBest.F0 ((ps, -1, 0, ()), T0 99 1 50, ()) = some (.inl ((bestP ps M, ()), tabB ps M, ())) := by
    unfold law12_ForeignBest.F0
    refine loop_to (step := law12_ForeignBest.step0 foreign_New foreign_Table_Hear foreign_Table_Best foreign_Table_Clear foreign_Table_Records law12_awake law12_ForeignBest.F1) (fun i => ((ps, bestP ps i, (i : Int), ()), tabB ps i, ())) M _ (by simp only; omega) (fun i hi => ?_) ?_
    · have h1 : i < ps.length := by omega
      have h5 : i < 5 := by omega
      have h2 : ilt (i : Int) 5 = true := ilt_true (by omega)
      have h3 : ilt (i : Int) (ofN ps.length) = true := ilt_true (by show (i : Int) < (ps.length : Int); omega)
      have hw : IntKind.u64.wrap (iadd .i64 1 (i : Int)) = 1 + (i : Int) := by rw [iadd_of (by omega), u64_small (by omega) (by omega)]
      have hr := bestP_r ps i
      unfold law12_ForeignBest.step0
      have hpr : ps.getD i (0 : Int) % 64 = prioN ps i := rfl
      have hf := hF1 (bestP ps i) i _ h5 rfl
      unfold annM at hf
      simp only [h2, h3, cond_true, oelim_some, inR_nat, h1, decide_true, Int.toNat_natCast, hd2, iand_63, hw, hpr, hf, selim, iinc (show i < 4611686018427387904 by omega)]
      rw [bestP]
      by_cases hb : bestP ps i < 0
      · rw [if_pos hb, ilt_true hb]; rfl
      · rw [if_neg hb, ilt_false hb]
        obtain ⟨k, hk⟩ : ∃ k : Nat, bestP ps i = (k : Int) := ⟨(bestP ps i).toNat, by omega⟩
        rw [hk]
        have hkl : k < ps.length := by omega
        simp only [cond_false, inR_nat, hkl, decide_true, cond_true, Int.toNat_natCast, oelim_some]
        by_cases h4 : prioN ps i < prioN ps k
        · rw [if_pos h4, show ilt (prioN ps i) (ps.getD k 0 % 64) = true from ilt_true h4]; rfl
        · rw [if_neg h4, show ilt (prioN ps i) (ps.getD k 0 % 64) = false from ilt_false h4]; rfl
    · unfold law12_ForeignBest.step0
      by_cases h1 : ps.length ≤ 5
      · have : M = ps.length := by omega
        have h3 : ilt (M : Int) (ofN ps.length) = false := ilt_false (by show ¬ (M : Int) < (ps.length : Int); omega)
        simp only [h3, cond_false, oelim_some]
      · have : M = 5 := by omega
        have h3 : ilt (M : Int) (ofN ps.length) = true := ilt_true (by show (M : Int) < (ps.length : Int); omega)
        have h2 : ilt (M : Int) 5 = false := ilt_false (by omega)
        simp only [h3, h2, cond_false, cond_true, oelim_some]
  have hM5 : M ≤ 5 := by omega
  have ih := tabB_ok ps M
  have hq := qualB_all ps M M (Nat.le_refl _)
  have hr := bestP_r ps M
  unfold law12_ForeignBest law12_ForeignBest.gen
  rw [new_spec 99 1 50 (by decide) (by decide)]
  simp only [oelim_some, hF0, selim]
  have hb := bestT_spec (T := tabB ps M) (now := 3) ih.fn hM5 (fun r hr => by
    rw [hq] at hr
    obtain ⟨a, _, rfl⟩ := List.mem_map.1 hr
    show R64 0; decide)
  have hbm : bestV ((qualL (tabB ps M) 3 M).map (·.fVector)) (qualL (tabB ps M) 3 M).length = bestP ps M := by
    rw [hq, List.map_map, List.length_map, List.length_range]
    exact bestV_P ps M M (Nat.le_refl _)
  rw [hbm, hq] at hb
  rw [hb]
  simp only [oelim_some]
  have hcl : ∃ T' : foreign_Table, foreign_Table_Clear (tabB ps M) = some ((), (T', ()), ()) ∧ T'.fn = ((0 : Nat) : Int) := ⟨_, rfl, rfl⟩
  obtain ⟨T', c1, c2⟩ := hcl
  have hq0 : foreign_Table_Best 3 T' = some ((foreign_Record.zero, (false, ())), (T', ()), ()) := by
    have := bestT_spec (T := T') (now := 3) c2 (by decide) (fun r hr => by simp [qualL] at hr)
    rw [this]; rfl
  have hrec : foreign_Table_Records T' = some (([], ()), (T', ()), ()) := by
    have := records_spec c2 (by decide)
    simpa using this
  by_cases hb0 : bestP ps M < 0
  · rw [if_pos hb0, ile_false (by omega)]
    simp only [Bool.not_false, cond_false, oelim_some, c1, hq0, hrec, awake_true, cond_true]
    rfl
  · rw [if_neg hb0, ile_true (by omega)]
    obtain ⟨k, hk⟩ : ∃ k : Nat, bestP ps M = (k : Int) := ⟨(bestP ps M).toNat, by omega⟩
    have hkM : k < M := by omega
    have hg : ((List.range M).map (recB ps)).getD k foreign_Record.zero = recB ps k := by rw [getD_at (by simpa using hkM)]; simp
    rw [hk, Int.toNat_natCast, hg]
    have hw : IntKind.u64.wrap (iadd .i64 1 (k : Int)) = 1 + (k : Int) := by rw [iadd_of (by omega), u64_small (by omega) (by omega)]
    have he : ine (recB ps k).fVector.fSender.fClock (1 + (k : Int)) = false := ine_self _
    simp only [Bool.not_true, cond_true, hw, he, oelim_some, c1, hq0, hrec, awake_true, Bool.not_false, cond_false]
    rfl

end Go.Proofs.Ytegadjffoighgaa
