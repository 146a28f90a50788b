/- Typed forms of the functions that these statements reach, proved equal to what the model runs, and laws over them. -/
import Derived.Test.YtegadjffoighgaaP12b
namespace Go.Proofs.Ytegadjffoighgaa
open Go.Rf
set_option linter.unusedVariables false
set_option linter.unusedSimpArgs false
/-! ### many announcers -/
def annM (c : Int) (seq p1 grand : Int) : api_Msg := api_Msg.mk 11 0 0 0 (api_PortID.mk c 1) seq 0 0 (api_PortID.mk 0 0) 0 p1 (api_Quality.mk 0 0 0) 0 grand 0 0 0 0 0
theorem annM_fair {T : foreign_Table} {c seq p1 grand now : Int} (h0 : 0 ≤ now) (h1 : now ≤ 1099511627776) (hc : c ≠ T.fown.fClock) : Fair T (annM c seq p1 grand) now :=
  ⟨rfl, h0, h1, hc, by show (0 : Int) < 255; decide, flag0⟩

/-- who is known behind i of these -/
def knownN (ids : List Int) : Nat → List Int
  | 0 => []
  | i + 1 => let id := ids.getD i 0
    let K := knownN ids i
    if id = 7 ∨ id ∈ K ∨ K.length = 5 then K else K ++ [id]
def tabN (ids : List Int) : Nat → foreign_Table
  | 0 => T0 7 1 100
  | i + 1 => let id := ids.getD i 0
    let K := knownN ids i
    let T := tabN ids i
    if id = 7 then T
    else if id ∈ K then setR T (K.idxOf id) (recOf T (annM id ((i : Int) + 1) 0 0) i (T.fl (K.idxOf id)).fLast) T.fn
    else if K.length = 5 then T
    else setR T K.length (recOf T (annM id ((i : Int) + 1) 0 0) i (-1)) ((K.length + 1 : Nat) : Int)

structure TabOK (ids : List Int) (i : Nat) : Prop where
  own : (tabN ids i).fown = api_PortID.mk 7 1
  win : (tabN ids i).fwindow = 100
  fn : (tabN ids i).fn = ((knownN ids i).length : Int)
  len : (knownN ids i).length ≤ 5
  no7 : 7 ∉ knownN ids i
  rcd : ∀ a (h : a < (knownN ids i).length), ((tabN ids i).fl a).fVector.fSender = api_PortID.mk ((knownN ids i)[a]) 1 ∧ ((tabN ids i).fl a).fVector.fReceiver = api_PortID.mk 7 1 ∧
    ∃ j : Nat, j < i ∧ ((tabN ids i).fl a).fSeq = (j : Int) + 1 ∧ ((tabN ids i).fl a).fLast = (j : Int)

theorem fset_same {α : Type} (f : Nat → α) (i : Nat) (x : α) : fset f i x i = x := by simp [fset]
theorem fset_other {α : Type} (f : Nat → α) {i j : Nat} (x : α) (h : j ≠ i) : fset f i x j = f j := by simp [fset, h]

theorem tab_ok (ids : List Int) : ∀ i, TabOK ids i
  | 0 => ⟨rfl, rfl, rfl, by simp [knownN], by simp [knownN], fun a h => by simp [knownN] at h⟩
  | i + 1 => by
    have ih := tab_ok ids i
    generalize hid : ids.getD i 0 = id
    by_cases h7 : id = 7
    · have e1 : knownN ids (i + 1) = knownN ids i := by simp only [knownN, hid]; rw [if_pos (.inl h7)]
      have e2 : tabN ids (i + 1) = tabN ids i := by simp only [tabN, hid]; rw [if_pos h7]
      refine ⟨by rw [e2]; exact ih.own, by rw [e2]; exact ih.win, by rw [e1, e2]; exact ih.fn, by rw [e1]; exact ih.len, by rw [e1]; exact ih.no7, ?_⟩
      rw [e2]
      simp only [e1]
      intro a h
      obtain ⟨p1, p2, j, p3, p4⟩ := ih.rcd a h
      exact ⟨p1, p2, j, by omega, p4⟩
    · by_cases hm : id ∈ knownN ids i
      · have e1 : knownN ids (i + 1) = knownN ids i := by simp only [knownN, hid]; rw [if_pos (.inr (.inl hm))]
        have e2 : tabN ids (i + 1) = setR (tabN ids i) ((knownN ids i).idxOf id) (recOf (tabN ids i) (annM id ((i : Int) + 1) 0 0) i ((tabN ids i).fl ((knownN ids i).idxOf id)).fLast) (tabN ids i).fn := by
          simp only [tabN, hid]; rw [if_neg h7, if_pos hm]
        refine ⟨by rw [e2]; exact ih.own, by rw [e2]; exact ih.win, by rw [e1, e2]; exact ih.fn, by rw [e1]; exact ih.len, by rw [e1]; exact ih.no7, ?_⟩
        rw [e2]
        simp only [e1]
        intro a h
        by_cases e : a = (knownN ids i).idxOf id
        · have hr : (setR (tabN ids i) ((knownN ids i).idxOf id) (recOf (tabN ids i) (annM id ((i : Int) + 1) 0 0) i ((tabN ids i).fl ((knownN ids i).idxOf id)).fLast) (tabN ids i).fn).fl a = recOf (tabN ids i) (annM id ((i : Int) + 1) 0 0) i ((tabN ids i).fl ((knownN ids i).idxOf id)).fLast := by
            rw [e]; exact fset_same _ _ _
          rw [hr]
          refine ⟨?_, ih.own, i, by omega, rfl, rfl⟩
          have : (knownN ids i)[a] = id := by
            subst e; exact List.getElem_idxOf h
          rw [this]; rfl
        · have hr : (setR (tabN ids i) ((knownN ids i).idxOf id) (recOf (tabN ids i) (annM id ((i : Int) + 1) 0 0) i ((tabN ids i).fl ((knownN ids i).idxOf id)).fLast) (tabN ids i).fn).fl a = (tabN ids i).fl a := fset_other _ _ e
          rw [hr]
          obtain ⟨p1, p2, j, p3, p4⟩ := ih.rcd a h
          exact ⟨p1, p2, j, by omega, p4⟩
      · by_cases h5 : (knownN ids i).length = 5
        · have e1 : knownN ids (i + 1) = knownN ids i := by simp only [knownN, hid]; rw [if_pos (.inr (.inr h5))]
          have e2 : tabN ids (i + 1) = tabN ids i := by simp only [tabN, hid]; rw [if_neg h7, if_neg hm, if_pos h5]
          refine ⟨by rw [e2]; exact ih.own, by rw [e2]; exact ih.win, by rw [e1, e2]; exact ih.fn, by rw [e1]; exact ih.len, by rw [e1]; exact ih.no7, ?_⟩
          rw [e2]
          simp only [e1]
          intro a h
          obtain ⟨p1, p2, j, p3, p4⟩ := ih.rcd a h
          exact ⟨p1, p2, j, by omega, p4⟩
        · have hl := ih.len
          have e1 : knownN ids (i + 1) = knownN ids i ++ [id] := by simp only [knownN, hid]; rw [if_neg (by simp [h7, hm, h5])]
          have e2 : tabN ids (i + 1) = setR (tabN ids i) (knownN ids i).length (recOf (tabN ids i) (annM id ((i : Int) + 1) 0 0) i (-1)) (((knownN ids i).length + 1 : Nat) : Int) := by
            simp only [tabN, hid]; rw [if_neg h7, if_neg hm, if_neg h5]
          refine ⟨by rw [e2]; exact ih.own, by rw [e2]; exact ih.win, by rw [e1, e2]; simp [setR], by rw [e1]; simp; omega, ?_, ?_⟩
          · rw [e1]; simp only [List.mem_append, List.mem_singleton, not_or]; exact ⟨ih.no7, fun h => h7 h.symm⟩
          rw [e2]
          simp only [e1]
          intro a h
          rw [List.length_append, List.length_singleton] at h
          by_cases e : a = (knownN ids i).length
          · have hr : (setR (tabN ids i) (knownN ids i).length (recOf (tabN ids i) (annM id ((i : Int) + 1) 0 0) i (-1)) (((knownN ids i).length + 1 : Nat) : Int)).fl a = recOf (tabN ids i) (annM id ((i : Int) + 1) 0 0) i (-1) := by
              rw [e]; exact fset_same _ _ _
            rw [hr]
            refine ⟨?_, ih.own, i, by omega, rfl, rfl⟩
            have : (knownN ids i ++ [id])[a] = id := by subst e; simp
            rw [this]; rfl
          · have hr : (setR (tabN ids i) (knownN ids i).length (recOf (tabN ids i) (annM id ((i : Int) + 1) 0 0) i (-1)) (((knownN ids i).length + 1 : Nat) : Int)).fl a = (tabN ids i).fl a := fset_other _ _ e
            rw [hr]
            have ha : a < (knownN ids i).length := by omega
            obtain ⟨p1, p2, j, p3, p4⟩ := ih.rcd a ha
            refine ⟨?_, p2, j, by omega, p4⟩
            rw [List.getElem_append_left ha]; exact p1

theorem tab_sam {ids : List Int} {i a : Nat} {id : Int} (h : a < (knownN ids i).length) (m : api_Msg) (hm : m.fSource = api_PortID.mk id 1) : samP ((tabN ids i).fl a).fVector.fSender m.fSource = decide ((knownN ids i)[a] = id) := by
  rw [((tab_ok ids i).rcd a h).1, hm]
  by_cases e : (knownN ids i)[a] = id
  · simp only [e, decide_true]; exact samP_self _
  · simp only [e, decide_false]; exact samP_no e

/-- what a round says -/
def saidN (ids : List Int) (i : Nat) : Int := if ids.getD i 0 = 7 then 11 else if ids.getD i 0 ∈ knownN ids i then 0 else if (knownN ids i).length = 5 then 7 else 0

theorem hear_round (ids : List Int) (i : Nat) (hi : i < 30) : foreign_Table_Hear (annM (ids.getD i 0) ((i : Int) + 1) 0 0) i (tabN ids i) = some ((saidN ids i, ()), (tabN ids (i + 1), ()), ()) := by
  have ih := tab_ok ids i
  generalize hid : ids.getD i 0 = id
  unfold saidN
  simp only [tabN, hid]
  by_cases h7 : id = 7
  · rw [if_pos h7, if_pos h7, hear_own rfl (by omega) (by omega) (by rw [ih.own]; exact h7)]
  · rw [if_neg h7, if_neg h7]
    have hf : Fair (tabN ids i) (annM id ((i : Int) + 1) 0 0) i := annM_fair (by omega) (by omega) (by rw [ih.own]; exact h7)
    by_cases hm : id ∈ knownN ids i
    · rw [if_pos hm, if_pos hm]
      have hlt := List.idxOf_lt_length_iff.2 hm
      obtain ⟨_, _, j, p3, p4, p5⟩ := ih.rcd _ hlt
      refine hear_again hf ih.fn ih.len hlt (fun a ha => ?_) ?_ ?_
      · rw [tab_sam (by omega) _ rfl]
        have := List.not_of_lt_findIdx (p := (· == id)) (xs := knownN ids i) (i := a) ha
        simpa using this
      · rw [tab_sam hlt _ rfl, List.getElem_idxOf hlt]; simp
      · unfold lateB
        rw [p4, p5, show (annM id ((i : Int) + 1) 0 0).fSeq = (i : Int) + 1 from rfl, isub_of (by omega), iand_65535, ilt_false (by omega), ilt_false (by omega)]; rfl
    · rw [if_neg hm, if_neg hm]
      have hno : ∀ a, a < (knownN ids i).length → samP ((tabN ids i).fl a).fVector.fSender (annM id ((i : Int) + 1) 0 0).fSource = false := fun a ha => by
        rw [tab_sam ha _ rfl]
        have : (knownN ids i)[a] ≠ id := fun e => hm (e ▸ List.getElem_mem ha)
        simpa using this
      by_cases h5 : (knownN ids i).length = 5
      · rw [if_pos h5, if_pos h5]
        exact hear_full hf (by rw [ih.fn, h5]; rfl) (fun a ha => hno a (by omega))
      · rw [if_neg h5, if_neg h5]
        exact hear_new hf ih.fn (by have := ih.len; omega) hno

/-- is it among the first j of these? -/
def amidB (K : List Int) (id : Int) (j : Nat) : Bool := decide (id ∈ K.take j)
theorem amidB_succ {K : List Int} {id : Int} {j : Nat} (h : j < K.length) : amidB K id (j + 1) = (bif amidB K id j then true else ieq (K.getD j 0) id) := by
  unfold amidB
  have hm : id ∈ K.take (j + 1) ↔ id ∈ K.take j ∨ K[j] = id := by
    rw [List.take_add_one, List.getElem?_eq_getElem h, List.mem_append, Option.toList_some, List.mem_singleton]
    exact ⟨fun h => h.imp_right Eq.symm, fun h => h.imp_right Eq.symm⟩
  rw [getD_at h, show decide (id ∈ K.take (j + 1)) = decide (id ∈ K.take j ∨ K[j] = id) from decide_eq_decide.2 hm]
  by_cases h1 : id ∈ K.take j
  · simp [h1]
  · by_cases h2 : K[j] = id
    · rw [ieq_true h2]; simp [h2]
    · rw [ieq_false h2]; simp [h1, h2]

theorem law12_ForeignFull.law : ∀ (ids : List (Int)) (again : Int), (ids.length * 8 ≤ reachBytes ∧ ∀ y ∈ ids, (Lit.int .u64 y).wf = true) → (Lit.int .i64 again).wf = true → law12_ForeignFull ids again = some ((true, ()), (), ()) := by
  intro ids again _ _
  have hF1 : ∀ (K : List Int) (i : Nat) (T : foreign_Table), i < ids.length → K.length ≤ 5 → law12_ForeignFull.F1 ((ids, K, (i : Int), false, 0, ()), T, ()) = some ((ids, K, (i : Int), decide (ids.getD i 0 ∈ K), ()), T, ()) := fun K i T hi hK => by
    unfold law12_ForeignFull.F1
    refine (loop_to (step := law12_ForeignFull.step1 foreign_New foreign_Table_Hear foreign_Table_Records law12_awake) (fun j => ((ids, K, (i : Int), amidB K (ids.getD i 0) j, (j : Int), ()), T, ())) K.length _ (by simp only; omega) (fun j hj => ?_) ?_)
    · unfold law12_ForeignFull.step1
      have h1 : ilt (j : Int) (ofN K.length) = true := ilt_true (by show (j : Int) < (K.length : Int); omega)
      have hd : ∀ k, K.getD k (0 : D UC.u64) = K.getD k (0 : Int) := fun _ => rfl
      have hd2 : ∀ k, ids.getD k (0 : D UC.u64) = ids.getD k (0 : Int) := fun _ => rfl
      simp only [h1, cond_true, inR_nat, hj, hi, decide_true, Int.toNat_natCast, hd, hd2, iinc (show j < 4611686018427387904 by omega), amidB_succ hj]
      cases amidB K (ids.getD i 0) j <;> rfl
    · unfold law12_ForeignFull.step1
      have h1 : ilt (K.length : Int) (ofN K.length) = false := ilt_false (by show ¬ (K.length : Int) < (K.length : Int); omega)
      simp only [h1, cond_false, amidB, List.take_length]
  generalize hM : min ids.length 30 = M
  have hF0 : law12_ForeignFull.F0 ((ids, lnil Int, 0, ()), T0 7 1 100, ()) = some (.inl ((knownN ids M, ()), tabN ids M, ())) := by
    unfold law12_ForeignFull.F0
    refine loop_to (step := law12_ForeignFull.step0 foreign_New foreign_Table_Hear foreign_Table_Records law12_awake law12_ForeignFull.F1) (fun i => ((ids, knownN ids i, (i : Int), ()), tabN ids i, ())) M _ (by simp only; omega) (fun i hi => ?_) ?_
    · have h1 : i < ids.length := by omega
      have h2 : ilt (i : Int) 30 = true := ilt_true (by omega)
      have h3 : ilt (i : Int) (ofN ids.length) = true := ilt_true (by show (i : Int) < (ids.length : Int); omega)
      have ih := tab_ok ids i
      have hK := ih.len
      unfold law12_ForeignFull.step0
      have hd2 : ∀ k, ids.getD k (0 : D UC.u64) = ids.getD k (0 : Int) := fun _ => rfl
      have hr := hear_round ids i (by omega)
      unfold annM at hr
      simp only [h2, h3, cond_true, oelim_some, hF1 _ i _ h1 hK, inR_nat, h1, decide_true, Int.toNat_natCast, hd2, show iadd .i64 (i : Int) 1 = (i : Int) + 1 from iadd_of (by omega), hr]
      have hroom : ∀ x : Int, room ((knownN ids i).length + (x :: lnil Int).length) 8 = true := fun x => room_true (by simp; omega)
      have e1 : (((i + 1 : Nat) : Int)) = (i : Int) + 1 := by omega
      generalize hid : ids.getD i 0 = id
      unfold saidN
      rw [hid]
      by_cases h7 : id = 7
      · have k1 : knownN ids (i + 1) = knownN ids i := by simp only [knownN, hid]; rw [if_pos (.inl h7)]
        rw [if_pos h7, ieq_true h7, k1, e1]
        rfl
      · rw [if_neg h7, ieq_false h7]
        by_cases hm : id ∈ knownN ids i
        · have k1 : knownN ids (i + 1) = knownN ids i := by simp only [knownN, hid]; rw [if_pos (.inr (.inl hm))]
          rw [if_pos hm, k1, e1]
          simp only [hm, decide_true, Bool.not_true, cond_false, oelim_some, ine_self, ieq_self, cond_true]
        · rw [if_neg hm]
          by_cases h5 : (knownN ids i).length = 5
          · have k1 : knownN ids (i + 1) = knownN ids i := by simp only [knownN, hid]; rw [if_pos (.inr (.inr h5))]
            rw [if_pos h5, k1, e1]
            simp only [hm, decide_false, Bool.not_false, cond_true, oelim_some, ine_self, cond_false, h5]
            rfl
          · have k1 : knownN ids (i + 1) = knownN ids i ++ [id] := by simp only [knownN, hid]; rw [if_neg (by simp [h7, hm, h5])]
            have e5 : ieq (ofN (knownN ids i).length) 5 = false := ieq_false (by show ¬ ((knownN ids i).length : Int) = 5; omega)
            rw [if_neg h5, k1, e1]
            simp only [hm, decide_false, Bool.not_false, cond_true, oelim_some, ine_self, cond_false, e5, ieq_self, hroom]
    · unfold law12_ForeignFull.step0
      by_cases h1 : ids.length ≤ 30
      · have : M = ids.length := by omega
        have h3 : ilt (M : Int) (ofN ids.length) = false := ilt_false (by show ¬ (M : Int) < (ids.length : Int); omega)
        simp only [h3, cond_false, oelim_some]
      · have : M = 30 := by omega
        have h3 : ilt (M : Int) (ofN ids.length) = true := ilt_true (by show (M : Int) < (ids.length : Int); omega)
        have h2 : ilt (M : Int) 30 = false := ilt_false (by omega)
        simp only [h3, h2, cond_false, cond_true, oelim_some]
  have ih := tab_ok ids M
  have hl := ih.len
  unfold law12_ForeignFull law12_ForeignFull.gen
  rw [new_spec 7 1 100 (by decide) (by decide)]
  simp only [oelim_some, hF0, selim, records_spec ih.fn ih.len, List.length_map, List.length_range]
  rw [show ine (ofN (knownN ids M).length) (ofN (knownN ids M).length) = false from ine_self _]
  simp only [cond_false]
  have hF2 : law12_ForeignFull.F2 ((knownN ids M, (List.range (knownN ids M).length).map (tabN ids M).fl, 0, ()), ()) = some (.inl ((), ())) := by
    unfold law12_ForeignFull.F2
    refine loop_to (step := law12_ForeignFull.step2 foreign_New foreign_Table_Hear foreign_Table_Records law12_awake) (fun i => ((knownN ids M, (List.range (knownN ids M).length).map (tabN ids M).fl, (i : Int), ()), ())) (knownN ids M).length _ (by simp only; omega) (fun i hi => ?_) ?_
    · unfold law12_ForeignFull.step2
      obtain ⟨p1, p2, _⟩ := ih.rcd i hi
      have h1 : ilt (i : Int) (ofN (knownN ids M).length) = true := ilt_true (by show (i : Int) < ((knownN ids M).length : Int); omega)
      have hg : ((List.range (knownN ids M).length).map (tabN ids M).fl).getD i foreign_Record.zero = (tabN ids M).fl i := by rw [getD_at (by simpa using hi)]; simp
      have hd : (knownN ids M).getD i (0 : D UC.u64) = (knownN ids M)[i] := getD_at hi
      simp only [List.length_map, List.length_range, h1, cond_true, inR_nat, hi, decide_true, Int.toNat_natCast, hg, hd, p1, p2, ine_self, cond_false, ieq_self, oelim_some, Bool.not_true, iinc (show i < 4611686018427387904 by omega)]
    · unfold law12_ForeignFull.step2
      have h1 : ilt ((knownN ids M).length : Int) (ofN (knownN ids M).length) = false := ilt_false (by show ¬ ((knownN ids M).length : Int) < ((knownN ids M).length : Int); omega)
      simp only [List.length_map, List.length_range, h1, cond_false]
  rw [hF2]
  simp only [oelim_some, selim, awake_true]

end Go.Proofs.Ytegadjffoighgaa
