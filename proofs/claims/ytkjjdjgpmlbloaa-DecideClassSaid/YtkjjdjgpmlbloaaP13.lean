/- Typed forms of the functions that these statements reach, proved equal to what the model runs, and laws over them. -/
import Derived.Test.YtkjjdjgpmlbloaaP13a
namespace Go.Proofs.Ytkjjdjgpmlbloaa
open Go.Rf
set_option linter.unusedVariables false
set_option linter.unusedSimpArgs false
noncomputable def textsTail (d : Int) : Option (((Bool) × Unit) × (Unit) × (Unit)) :=
  (oelim (decide_Text d) none fun r8 => (bif ilt d 1 then (bif (ByteArray.toList r8.1.1 == (ByteArray.mk (lnil UInt8).toArray).toList) == Bool.true then (oelim (law13_awake) none fun r9 => some ((r9.1.1, ()), ((), ()))) else some ((Bool.false, ()), ((), ()))) else (bif (ByteArray.toList r8.1.1 == (ByteArray.mk (lnil UInt8).toArray).toList) == ilt 7 d then (oelim (law13_awake) none fun r10 => some ((r10.1.1, ()), ((), ()))) else some ((Bool.false, ()), ((), ())))))
theorem texts_tail (d : Int) : law13_DecideTexts d = textsTail d := by kernel_rfl

theorem tt0 : textsTail 0 = some ((true, ()), (), ()) := by kernel_rfl
theorem tt1 : textsTail 1 = some ((true, ()), (), ()) := by kernel_rfl
theorem tt2 : textsTail 2 = some ((true, ()), (), ()) := by kernel_rfl
theorem tt3 : textsTail 3 = some ((true, ()), (), ()) := by kernel_rfl
theorem tt4 : textsTail 4 = some ((true, ()), (), ()) := by kernel_rfl
theorem tt5 : textsTail 5 = some ((true, ()), (), ()) := by kernel_rfl
theorem tt6 : textsTail 6 = some ((true, ()), (), ()) := by kernel_rfl
theorem tt7 : textsTail 7 = some ((true, ()), (), ()) := by kernel_rfl

theorem law13_DecideTexts.law : ∀ (d : Int), (Lit.int .i64 d).wf = true → law13_DecideTexts d = some ((true, ()), (), ()) := by
  intro d _
  rw [texts_tail]
  by_cases h0 : d < 0
  · have e : decide_Text d = some ((ByteArray.mk (lnil UInt8).toArray, ()), (), ()) := by
      unfold decide_Text decide_Text.gen
      rw [ilt_true h0]; rfl
    unfold textsTail
    rw [e, ilt_true (show d < 1 by omega)]
    simp only [oelim_some, cond_true, awake_true]
    simp
  · by_cases h8 : 8 ≤ d
    · have e : decide_Text d = some ((ByteArray.mk (lnil UInt8).toArray, ()), (), ()) := by
        unfold decide_Text decide_Text.gen
        rw [ilt_false h0, ile_true h8]; rfl
      unfold textsTail
      rw [e, ilt_false (show ¬ d < 1 by omega), ilt_true (show 7 < d by omega)]
      simp only [oelim_some, cond_true, cond_false, awake_true]
      simp
    · have h : d = 0 ∨ d = 1 ∨ d = 2 ∨ d = 3 ∨ d = 4 ∨ d = 5 ∨ d = 6 ∨ d = 7 := by omega
      rcases h with rfl | rfl | rfl | rfl | rfl | rfl | rfl | rfl <;> first | exact tt0 | exact tt1 | exact tt2 | exact tt3 | exact tt4 | exact tt5 | exact tt6 | exact tt7

theorem someL_ok (l : List api_Vector) (there : List Bool) (hl : ∀ y ∈ l, api_Vector.Wf y) : ∀ x ∈ someL l there, okS x := by
  intro x hx v hv
  obtain ⟨i, hi, rfl⟩ := List.mem_map.1 hx
  unfold someG at hv
  cases h : there.getD i false with
  | false => rw [h] at hv; cases hv
  | true =>
    rw [h] at hv
    cases hv
    have hi : i < l.length := by have := List.mem_range.1 hi; omega
    rw [getD_at hi]
    have := hl _ (List.getElem_mem hi)
    unfold api_Vector.Wf at this
    exact i64_of this.2.2.2.2.1

theorem steps_ok {v : api_Vector} (h : api_Vector.Wf v) : R64 v.fSteps := by
  unfold api_Vector.Wf at h
  exact i64_of h.2.2.2.2.1

theorem allL_len (d0 : api_Vector) (li : List Bool) (ps : List (Option api_Vector)) : (allL d0 li ps).length = ps.length := by simp [allL]
theorem allL_get (d0 : api_Vector) (li : List Bool) (ps : List (Option api_Vector)) (i : Nat) (h : i < ps.length) (d : Int) : (allL d0 li ps).getD i d = allG d0 li ps i := by
  rw [getD_at (by rw [allL_len]; exact h)]
  simp [allL]

theorem one_six {d0 : api_Vector} {li : Bool} {best port : Option api_Vector} {here : Bool} (h : oneD d0 li best port here = 6) : here = true ∧ ¬ d0.fQuality.fClass ≤ 127 ∧ ∃ b, best = some b ∧ ¬ cmpC d0 b < 0 := by
  unfold oneD at h
  split at h
  · split at h
    · cases h
    · split at h
      · cases h
      · split at h
        · cases h
        · rename_i b
          split at h
          · cases h
          · split at h
            · exact ⟨‹_›, ‹_›, b, rfl, ‹_›⟩
            · cases h
  · split at h
    · split at h <;> cases h
    · split at h
      · cases h
      · rename_i b
        split at h
        · cases h
        · split at h
          · exact ⟨‹_›, ‹_›, b, rfl, ‹_›⟩
          · split at h <;> cases h

theorem one_no {d0 : api_Vector} {li : Bool} {b : api_Vector} {port : Option api_Vector} {here : Bool} (h1 : ¬ d0.fQuality.fClass ≤ 127) (h2 : ¬ cmpC d0 b < 0) : oneD d0 li (some b) port here ≠ 1 ∧ oneD d0 li (some b) port here ≠ 2 ∧ oneD d0 li (some b) port here ≠ 4 := by
  unfold oneD
  cases port with
  | none =>
    simp only [if_neg h1, if_neg h2]
    split
    · decide
    · split <;> decide
  | some p =>
    simp only [if_neg h1, if_neg h2]
    split
    · decide
    · split <;> decide

theorem take8_len {α : Type} (l : List α) : (l.take 8).length = min l.length 8 := by rw [List.length_take]; omega

theorem min8 (n : Nat) : opMinMax false (ofN n) 8 = ((min n 8 : Nat) : Int) := by
  rw [show ofN n = (n : Int) from rfl]
  simp only [opMinMax, cond_false, imin]
  split <;> omega

/-- how many of the first i are this -/
def cnt (a : List Int) (x : Int) (i : Nat) : Nat := ((a.take i).filter (fun y => y == x)).length
theorem cnt_succ (a : List Int) (x : Int) (i : Nat) (h : i < a.length) : cnt a x (i + 1) = if a[i] = x then cnt a x i + 1 else cnt a x i := by
  unfold cnt
  rw [List.take_add_one, List.getElem?_eq_getElem h, List.filter_append, List.length_append]
  by_cases e : a[i] = x <;> simp [e]

theorem law13_DecideSlave.law : ∀ (d0 : api_Vector) (listening : List (Bool)) (l : List (api_Vector)) (there : List (Bool)), api_Vector.Wf d0 → (listening.length * 1 ≤ reachBytes ∧ ∀ y ∈ listening, True) → (l.length * 88 ≤ reachBytes ∧ ∀ y ∈ l, api_Vector.Wf y) → (there.length * 1 ≤ reachBytes ∧ ∀ y ∈ there, True) → law13_DecideSlave d0 listening l there = some ((true, ()), (), ()) := by
  intro d0 li l there hd _ hl _
  have h0 := steps_ok hd
  have hps := someL_ok l there hl.2
  unfold law13_DecideSlave law13_DecideSlave.gen
  simp only [some_spec, oelim_some, all_spec d0 li _ h0 hps]
  have hlen : ((someL l there).take 8).length = min l.length 8 := by rw [take8_len, someL_len]; omega
  have hps8 : ∀ x ∈ (someL l there).take 8, okS x := fun x hx => hps x (List.mem_of_mem_take hx)
  generalize (someL l there).take 8 = ps at *
  have hat := bestN_at ps ps.length (Nat.le_refl _)
  have hl8 : ps.length ≤ 8 := by omega
  -- the first loop
  have six : ∀ i, i < ps.length → allG d0 li ps i = 6 → (i : Int) = (bestN ps ps.length).1 ∧ ¬ d0.fQuality.fClass ≤ 127 ∧ ∃ b, (bestN ps ps.length).2 = some b ∧ ¬ cmpC d0 b < 0 := fun i hi h => by
    obtain ⟨h1, h2, h3⟩ := one_six h
    exact ⟨ieq_iff.1 h1, h2, h3⟩
  have cz : ∀ i, i ≤ ps.length → cnt (allL d0 li ps) 6 i ≤ 1 ∧ (cnt (allL d0 li ps) 6 i ≠ 0 → ∃ k, k < i ∧ allG d0 li ps k = 6) := fun i => by
    induction i with
    | zero => intro _; simp [cnt]
    | succ i ih =>
      intro hi
      obtain ⟨h1, h2⟩ := ih (by omega)
      have hi' : i < (allL d0 li ps).length := by rw [allL_len]; omega
      have hg : (allL d0 li ps)[i] = allG d0 li ps i := by simp [allL]
      rw [cnt_succ _ _ _ hi', hg]
      by_cases h6 : allG d0 li ps i = 6
      · rw [if_pos h6]
        by_cases hc : cnt (allL d0 li ps) 6 i = 0
        · rw [hc]; exact ⟨by omega, fun _ => ⟨i, by omega, h6⟩⟩
        · obtain ⟨k, hk, hk6⟩ := h2 hc
          have e1 := (six i (by omega) h6).1
          have e2 := (six k (by omega) hk6).1
          omega
      · rw [if_neg h6]
        exact ⟨h1, fun h => let ⟨k, hk, hk6⟩ := h2 h; ⟨k, by omega, hk6⟩⟩
  have hF0 : law13_DecideSlave.F0 ((l, allL d0 li ps, (bestN ps ps.length).1, 0, 0, ()), d0, ()) = some (.inl ((l, allL d0 li ps, (bestN ps ps.length).1, (cnt (allL d0 li ps) 6 ps.length : Int), ()), ())) := by
    unfold law13_DecideSlave.F0
    refine loop_to (step := law13_DecideSlave.step0 law13_some decide_All law13_awake) (fun i => ((l, allL d0 li ps, (bestN ps ps.length).1, (cnt (allL d0 li ps) 6 i : Int), (i : Int), ()), d0, ())) ps.length _ (by simp only [allL_len]; omega) (fun i hi => ?_) ?_
    · have hi' : i < (allL d0 li ps).length := by rw [allL_len]; omega
      have hc := (cz i (by omega)).1
      unfold law13_DecideSlave.step0
      simp only [ilt_nat, inR_nat, hi', decide_true, cond_true, Int.toNat_natCast, iinc (show i < 4611686018427387904 by omega), iinc (show cnt (allL d0 li ps) 6 i < 4611686018427387904 by omega), cnt_succ _ _ _ hi', getD_at hi']
      have hg : (allL d0 li ps)[i] = allG d0 li ps i := by simp [allL]
      rw [hg]
      by_cases h6 : allG d0 li ps i = 6
      · obtain ⟨e1, e2, _⟩ := six i hi h6
        rw [ieq_true h6, if_pos h6, ine_false e1, ile_false e2]; rfl
      · rw [ieq_false h6, if_neg h6]; rfl
    · unfold law13_DecideSlave.step0
      simp only [allL_len, ilt_nat, Nat.lt_irrefl, decide_false, cond_false]
  rw [hF0]
  simp only [oelim_some, selim]
  have hF1 : law13_DecideSlave.F1 ((l, allL d0 li ps, (bestN ps ps.length).1, (cnt (allL d0 li ps) 6 ps.length : Int), 0, ()), ()) = some (.inl ((l, allL d0 li ps, (bestN ps ps.length).1, (cnt (allL d0 li ps) 6 ps.length : Int), ()), ())) := by
    unfold law13_DecideSlave.F1
    by_cases hc : cnt (allL d0 li ps) 6 ps.length = 0
    · refine loop_to (step := law13_DecideSlave.step1 law13_some decide_All law13_awake) (fun i => ((l, allL d0 li ps, (bestN ps ps.length).1, (cnt (allL d0 li ps) 6 ps.length : Int), (i : Int), ()), ())) 0 _ (by simp only [allL_len]; omega) (fun i hi => by omega) ?_
      unfold law13_DecideSlave.step1
      have : ilt 0 ((cnt (allL d0 li ps) 6 ps.length : Nat) : Int) = false := ilt_false (by omega)
      simp only [this]
      cases ilt ((0 : Nat) : Int) (ofN (allL d0 li ps).length) <;> rfl
    · obtain ⟨k, hk, hk6⟩ := (cz ps.length (Nat.le_refl _)).2 hc
      obtain ⟨_, hcl, b, hb, hb2⟩ := six k hk hk6
      have hpos : ilt 0 ((cnt (allL d0 li ps) 6 ps.length : Nat) : Int) = true := ilt_true (by omega)
      refine loop_to (step := law13_DecideSlave.step1 law13_some decide_All law13_awake) (fun i => ((l, allL d0 li ps, (bestN ps ps.length).1, (cnt (allL d0 li ps) 6 ps.length : Int), (i : Int), ()), ())) ps.length _ (by simp only [allL_len]; omega) (fun i hi => ?_) ?_
      · have hi' : i < (allL d0 li ps).length := by rw [allL_len]; omega
        have hg : (allL d0 li ps)[i] = allG d0 li ps i := by simp [allL]
        unfold law13_DecideSlave.step1
        simp only [ilt_nat, inR_nat, hi', decide_true, cond_true, Int.toNat_natCast, iinc (show i < 4611686018427387904 by omega), getD_at hi', hpos, oelim_some]
        rw [hg]
        obtain ⟨n1, n2, n4⟩ := one_no (li := li.getD i false) (port := ps.getD i none) (here := ieq (i : Int) (bestN ps ps.length).1) hcl hb2
        have e : allG d0 li ps i = oneD d0 (li.getD i false) (some b) (ps.getD i none) (ieq (i : Int) (bestN ps ps.length).1) := by unfold allG; rw [hb]
        rw [← e] at n1 n2 n4
        rw [ieq_false n1, ieq_false n2, ieq_false n4]; rfl
      · unfold law13_DecideSlave.step1
        simp only [allL_len, ilt_nat, Nat.lt_irrefl, decide_false, cond_false, oelim_some]
  rw [hF1]
  simp only [oelim_some, selim]
  have hc := (cz ps.length (Nat.le_refl _)).1
  rw [ile_true (show ((cnt (allL d0 li ps) 6 ps.length : Nat) : Int) ≤ 1 by omega), min8, ieq_true (show ofN (allL d0 li ps).length = ((min l.length 8 : Nat) : Int) by rw [allL_len, hlen])]
  have hk : ilt (bestN ps ps.length).1 (ofN (allL d0 li ps).length) = true := ilt_true (by
    show (bestN ps ps.length).1 < ((allL d0 li ps).length : Int)
    rw [allL_len]
    rcases hat with ⟨h1, _⟩ | ⟨k, b, h1, h2, _⟩ <;> omega)
  rw [hk, awake_true]
  rfl

theorem law13_DecideAlone.law : ∀ (d0 : api_Vector) (listening : List (Bool)) (n : Int), api_Vector.Wf d0 → (listening.length * 1 ≤ reachBytes ∧ ∀ y ∈ listening, True) → (Lit.int .i64 n).wf = true → law13_DecideAlone d0 listening n = some ((true, ()), (), ()) := by
  intro d0 li n hd _ _
  have h0 := steps_ok hd
  unfold law13_DecideAlone law13_DecideAlone.gen
  simp only [place_spec n 9 (by decide) (by decide), oelim_some]
  obtain ⟨k, hk⟩ : ∃ k : Nat, n % 9 = (k : Int) := ⟨(n % 9).toNat, by omega⟩
  have hk9 : k < 9 := by omega
  rw [hk]
  rw [ile_true (show (0 : Int) ≤ (k : Int) by omega), ile_true (show (k : Int) ≤ 9223372036854775807 by omega), Int.toNat_natCast, room_true (show k * 8 ≤ 140737488355328 by omega)]
  simp only [cond_true]
  have hrep : ∀ x ∈ List.replicate k (none : Option api_Vector), okS x := fun x hx v hv => by rw [(List.mem_replicate.1 hx).2] at hv; cases hv
  have e0 : (List.replicate k (Option.none : D UC.p_t_api_Vector)) = List.replicate k (none : Option api_Vector) := rfl
  rw [e0, all_spec d0 li _ h0 hrep]
  have ht : (List.replicate k (none : Option api_Vector)).take 8 = List.replicate k none := List.take_of_length_le (by simp; omega)
  rw [ht]
  simp only [oelim_some]
  have hbest : ∀ i, bestN (List.replicate k (none : Option api_Vector)) i = (-1, none) := fun i => by
    induction i with
    | zero => rfl
    | succ i ih =>
      unfold bestN
      have : (List.replicate k (none : Option api_Vector)).getD i none = none := by simp [List.getD, List.getElem?_replicate]; split <;> rfl
      rw [this, ih]; rfl
  have hlen : (allL d0 li (List.replicate k none)).length = k := by rw [allL_len, List.length_replicate]
  rw [show ofN (allL d0 li (List.replicate k none)).length = (k : Int) by rw [hlen], ine_self, hbest]
  simp only [cond_false, oelim_some, ine_self]
  have hF : law13_DecideAlone.F0 ((li, (k : Int), allL d0 li (List.replicate k none), 0, ()), d0, ()) = some (.inl ((), ())) := by
    unfold law13_DecideAlone.F0
    refine loop_to (step := law13_DecideAlone.step0 law00_Place decide_All law13_awake) (fun i => ((li, (k : Int), allL d0 li (List.replicate k none), (i : Int), ()), d0, ())) k _ (by simp only [hlen]; omega) (fun i hi => ?_) ?_
    · have hg : (allL d0 li (List.replicate k none)).getD i (0 : D UC.int) = allG d0 li (List.replicate k none) i := allL_get d0 li _ i (by simpa using hi) _
      have hv : allG d0 li (List.replicate k none) i = if li.getD i false = true then 7 else if d0.fQuality.fClass ≤ 127 then 1 else 2 := by
        unfold allG
        rw [hbest]
        have : (List.replicate k (none : Option api_Vector)).getD i none = none := by simp [List.getD, hi]
        rw [this]; rfl
      unfold law13_DecideAlone.step0
      simp only [ilt_nat, inR_nat, hi, hlen, decide_true, cond_true, Int.toNat_natCast, iinc (show i < 4611686018427387904 by omega), hg, hv]
      by_cases hc : d0.fQuality.fClass ≤ 127
      · rw [ile_true hc]
        by_cases h3 : i < li.length
        · simp only [h3, decide_true, cond_true, oelim_some, hc, if_true]
          cases li.getD i false <;> rfl
        · simp only [h3, decide_false, cond_false, oelim_some, hc, if_true, cond_true, getD_out h3]; rfl
      · rw [ile_false hc]
        by_cases h3 : i < li.length
        · simp only [h3, decide_true, cond_true, oelim_some, hc, if_false, cond_false]
          cases li.getD i false <;> rfl
        · simp only [h3, decide_false, cond_false, oelim_some, hc, if_false, getD_out h3]; rfl
    · unfold law13_DecideAlone.step0
      simp only [ilt_nat, Nat.lt_irrefl, decide_false, cond_false]
  rw [hF]
  simp only [oelim_some, selim, awake_true]

theorem law13_DecideClass.law : ∀ (d0 : api_Vector) (listening : List (Bool)) (l : List (api_Vector)) (there : List (Bool)), api_Vector.Wf d0 → (listening.length * 1 ≤ reachBytes ∧ ∀ y ∈ listening, True) → (l.length * 88 ≤ reachBytes ∧ ∀ y ∈ l, api_Vector.Wf y) → (there.length * 1 ≤ reachBytes ∧ ∀ y ∈ there, True) → law13_DecideClass d0 listening l there = some ((true, ()), (), ()) := by
  intro d0 li l there hd _ hl _
  have hps := someL_ok l there hl.2
  unfold law13_DecideClass law13_DecideClass.gen
  simp only [some_spec, place_spec d0.fQuality.fClass 128 (by decide) (by decide), oelim_some]
  have hcl : d0.fQuality.fClass % 128 ≤ 127 := by omega
  generalize d0.fQuality.fClass % 128 = cl at *
  have h0 : R64 (api_Vector.mk d0.fPriority1 (api_Quality.mk cl d0.fQuality.fAccuracy d0.fQuality.fVariance) d0.fPriority2 d0.fGrand d0.fSteps d0.fSender d0.fReceiver).fSteps := (steps_ok hd : R64 d0.fSteps)
  have hcl' : (api_Vector.mk d0.fPriority1 (api_Quality.mk cl d0.fQuality.fAccuracy d0.fQuality.fVariance) d0.fPriority2 d0.fGrand d0.fSteps d0.fSender d0.fReceiver).fQuality.fClass ≤ 127 := hcl
  generalize api_Vector.mk d0.fPriority1 (api_Quality.mk cl d0.fQuality.fAccuracy d0.fQuality.fVariance) d0.fPriority2 d0.fGrand d0.fSteps d0.fSender d0.fReceiver = e0 at *
  rw [all_spec e0 li _ h0 hps]
  simp only [oelim_some]
  have hq12 : (someL l there).length ≤ 12 := by rw [someL_len]; omega
  generalize someL l there = qs at *
  have hlen : (allL e0 li (qs.take 8)).length = min qs.length 8 := by rw [allL_len, take8_len]
  rw [min8, show ofN (allL e0 li (qs.take 8)).length = ((min qs.length 8 : Nat) : Int) by rw [hlen], ine_self]
  simp only [cond_false]
  have hF : law13_DecideClass.F0 ((li, qs, allL e0 li (qs.take 8), 0, ()), e0, ()) = some (.inl ((), ())) := by
    unfold law13_DecideClass.F0
    refine loop_to (step := law13_DecideClass.step0 law00_Place law13_some decide_All compare_Compare law13_awake) (fun i => ((li, qs, allL e0 li (qs.take 8), (i : Int), ()), e0, ())) (min qs.length 8) _ (by simp only [hlen]; omega) (fun i hi => ?_) ?_
    · have hi8 : i < (qs.take 8).length := by rw [take8_len]; exact hi
      have hiq : i < qs.length := by omega
      have hg : (allL e0 li (qs.take 8)).getD i (0 : D UC.int) = allG e0 li (qs.take 8) i := allL_get e0 li _ i hi8 _
      have htk : (qs.take 8).getD i none = qs.getD i none := by rw [getD_at hi8, getD_at hiq]; simp
      have hx : okS (qs.getD i none) := by rw [getD_at hiq]; exact hps _ (List.getElem_mem _)
      unfold law13_DecideClass.step0
      simp only [ilt_nat, inR_nat, hi, hiq, hlen, decide_true, cond_true, Int.toNat_natCast, iinc (show i < 4611686018427387904 by omega), hg]
      unfold allG
      rw [htk]
      generalize qs.getD i none = x at *
      cases x with
      | none =>
        simp only [Option.isSome_none, Bool.not_false, cond_true, cond_false, oelim_some]
        by_cases h3 : i < li.length
        · simp only [h3, decide_true, cond_true, oelim_some, oneD, hcl', if_true]
          cases li.getD i false <;> rfl
        · simp only [h3, decide_false, cond_false, oelim_some, oneD, hcl', if_true, getD_out h3]; rfl
      | some p =>
        simp only [Option.isSome_some, Bool.not_true, cond_true, cond_false, oelim_some, oneD, hcl', if_true, compare_spec e0 p h0 (hx p rfl)]
        by_cases h : cmpC e0 p < 0
        · rw [ile_false (show ¬ 0 ≤ cmpC e0 p by omega), if_pos h]; rfl
        · rw [ile_true (show 0 ≤ cmpC e0 p by omega), if_neg h]; rfl
    · unfold law13_DecideClass.step0
      simp only [hlen, ilt_nat, Nat.lt_irrefl, decide_false, cond_false]
  rw [hF]
  simp only [oelim_some, selim, awake_true]

end Go.Proofs.Ytkjjdjgpmlbloaa
