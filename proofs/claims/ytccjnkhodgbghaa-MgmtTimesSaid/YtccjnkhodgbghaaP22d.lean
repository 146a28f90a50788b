/- Typed forms of the functions that these statements reach, proved equal to what the model runs, and laws over them. -/
import Derived.Test.YtccjnkhodgbghaaP22c
namespace Go.Proofs.Ytccjnkhodgbghaa
open Go.Rf
set_option linter.unusedVariables false
set_option linter.unusedSimpArgs false
theorem awake_true : law22_awake = some ((true, ()), (), ()) := by kernel_rfl
theorem ans_err (v : mgmt_View) (a id : Int) (data : ByteArray) : (ans v a id data).2.2 = 0 ∨ ((ans v a id data).1 = none_ ∧ (ans v a id data).2.1 = v.fConf) := by
  unfold ans
  repeat' split
  all_goals first | exact .inl rfl | exact .inr ⟨rfl, rfl⟩
theorem ans_conf {v : mgmt_View} {a id : Int} {data : ByteArray} (h : a ≠ 1) : (ans v a id data).2.1 = v.fConf := by
  unfold ans
  repeat' split
  all_goals first | rfl | (rename_i h' _; exact absurd h'.1 h) | (rename_i h'; exact absurd h'.1 h)
theorem ans_none {v : mgmt_View} {a id : Int} {data : ByteArray} (h : knownB id = false) : ans v a id data = (none_, v.fConf, 2) := by unfold ans; rw [if_pos h]
theorem ans_act {v : mgmt_View} {a id : Int} {data : ByteArray} (h : knownB id = true) (h' : a ≠ 0 ∧ a ≠ 1 ∧ a ≠ 3) : ans v a id data = (none_, v.fConf, 6) := by unfold ans; rw [if_neg (by simp [h]), if_pos h']
theorem ans_get (v : mgmt_View) (id : Int) (data : ByteArray) (h : knownB id = true) (h' : cmdB id = false ∨ id = 0) : ans v 0 id data = (ByteArray.mk (tellL v id).toArray, v.fConf, 0) := by
  unfold ans
  rw [if_neg (by simp [h]), if_neg (by omega), if_neg (by
    rintro (⟨h1, _⟩ | ⟨_, h2, h3⟩)
    · omega
    · rcases h' with h' | h'
      · rw [h'] at h2; cases h2
      · exact h3 h'), if_neg (by omega), if_neg (by omega), if_neg (by omega), if_neg (by omega)]
theorem ans_default {v : mgmt_View} {data : ByteArray} : (ans v 1 8192 data).2.2 = 5 := by
  unfold ans
  rw [if_neg (by decide), if_neg (by omega), if_neg (by decide), if_pos ⟨rfl, by decide⟩]
theorem ans_prio {v : mgmt_View} {data : ByteArray} : ieq (ans v 1 8197 data).2.2 3 = ine (ofN data.size) 2 := by
  unfold ans
  rw [if_neg (by decide), if_neg (by omega), if_neg (by decide), if_neg (by decide)]
  have hs : sizeI 8197 = 2 := by decide
  rw [hs]
  by_cases h : (data.size : Int) = 2
  · rw [if_neg (by simp [h]), if_neg (by omega), if_pos ⟨rfl, by omega⟩, ine_false (show ofN data.size = 2 from h)]
    split <;> rfl
  · rw [if_pos ⟨by omega, h⟩, ine_true (show ¬ ofN data.size = 2 from h)]; rfl

theorem law22_MgmtFaults.law : ∀ (c : api_Conf) (id : Int) (action : Int) (data : ByteArray), api_Conf.Wf c → (Lit.int .i64 id).wf = true → (Lit.int .i64 action).wf = true → data.size ≤ reachBytes → law22_MgmtFaults c id action data = some ((true, ()), (), ()) := by
  intro c id action data _ _ _ _
  unfold law22_MgmtFaults law22_MgmtFaults.gen
  simp only [ref_conf_spec, answer_spec, pk, known_spec, awake_true, oelim_some]
  cases hok : okC c
  · simp [oelim_some, n15_0]
  simp only [if_true, n0_0, cond_false, oelim_some]
  cases hs : ilt 300 (ofN data.size)
  · simp only [cond_false]
    generalize hv : (mgmt_View.mk c _ 0 0 0 0 0 0) = v
    have hvc : v.fConf = c := by rw [← hv]
    have h1 := ans_err v action id data
    have h2 := @ans_conf v action id data
    rw [hvc] at h1 h2
    have fin : (bif !knownB id then (bif ieq (ans v action id data).2.2 2 then some ((true, ()), (), ()) else some ((false, ()), (), ())) else (oelim (bif ine action 0 then (bif ine action 1 then some (ine action 3, ()) else some (false, ())) else some (false, ())) none fun r7 => (bif r7.1 then (bif ieq (ans v action id data).2.2 6 then some ((true, ()), (), ()) else some ((false, ()), (), ())) else (bif ieq (ans v 1 8197 data).2.2 3 == ine (ofN data.size) 2 then (bif ieq (ans v 1 8192 data).2.2 5 then some ((true, ()), (), ()) else some ((false, ()), (), ())) else some ((false, ()), (), ()))))) = (some ((true, ()), (), ()) : Option ((Bool × Unit) × Unit × Unit)) := by
      rw [ans_prio, ans_default]
      cases hk : knownB id
      · rw [ans_none hk]; rfl
      · simp only [Bool.not_true, cond_false]
        by_cases a0 : action = 0
        · rw [ine_false a0]; simp [oelim_some, ieq]
        · by_cases a1 : action = 1
          · rw [ine_false a1]; simp [oelim_some, ieq]
          · by_cases a3 : action = 3
            · rw [ine_false a3]; cases ine action 0 <;> cases ine action 1 <;> simp [oelim_some, ieq]
            · rw [ans_act hk ⟨a0, a1, a3⟩, ine_true a0, ine_true a1, ine_true a3]; rfl
    rcases h1 with he | ⟨hn, hd⟩
    · rw [ine_false he]
      simp only [cond_false]
      by_cases ha : action = 1
      · rw [ine_false ha]
        rw [ine_false ha] at fin
        simp only [cond_false, oelim_some] at fin ⊢
        exact fin
      · have hd := h2 ha
        rw [ine_true ha]
        rw [ine_true ha] at fin
        simp only [hd, ieq_self, beq_self_eq_true, cond_true, Bool.not_true, oelim_some, cond_false] at fin ⊢
        exact fin
    · simp only [hn, hd, none_, ieq_self, beq_self_eq_true, cond_true, Bool.not_true, cond_false]
      have hb : (bif ine (ans v action id data).2.2 0 then (bif ine action 1 then some (false, ()) else some (false, ())) else (bif ine action 1 then some (false, ()) else some (false, ()))) = some (false, ()) := by
        cases ine (ans v action id data).2.2 0 <;> cases ine action 1 <;> rfl
      rw [hb]
      simp only [oelim_some, cond_false]
      exact fin
  · rfl

theorem size_of (l : List UInt8) : (ByteArray.mk l.toArray).size = l.length := by simp [ByteArray.size]

theorem law22_MgmtLengths.law : ∀ (c : api_Conf) (p : api_Parent) (offset : Int) (now : Int), api_Conf.Wf c → api_Parent.Wf p → (Lit.int .i64 offset).wf = true → (Lit.int .i64 now).wf = true → law22_MgmtLengths c p offset now = some ((true, ()), (), ()) := by
  intro c p offset now _ _ _ _
  unfold law22_MgmtLengths law22_MgmtLengths.gen
  simp only [ref_conf_spec, awake_true, oelim_some]
  cases hok : okC c
  · simp [n15_0]
  generalize hv : (mgmt_View.mk c p offset 0 now 0 0 0) = v
  have hvc : v.fConf = c := by rw [← hv]
  have g : ∀ (id : Int) (n : Int), knownB id = true → (cmdB id = false ∨ id = 0) → (((tellL v id).length : Nat) : Int) = n → ∀ data, ∃ l : List UInt8, mgmt_Answer v 0 id data = some ((ByteArray.mk l.toArray, c, 0, ()), (), ()) ∧ ine (ofN (ByteArray.mk l.toArray).size) n = false := fun id n h1 h2 h3 data => by
    refine ⟨tellL v id, ?_, ?_⟩
    · rw [answer_spec, ans_get v id data h1 h2, hvc]; rfl
    · rw [size_of]; exact ine_false h3
  have T : ∀ id, id ≠ 8192 → id ≠ 8193 → id ≠ 8194 → id ≠ 8195 → id ≠ 8196 → id ≠ 8207 → tellL v id = smallL v.fConf id := fun id h1 h2 h3 h4 h5 h6 => by
    unfold tellL; rw [if_neg h1, if_neg h2, if_neg h3, if_neg h4, if_neg h5, if_neg h6]
  obtain ⟨l0, a0, s0⟩ := g 0 0 (by decide) (.inr rfl) (by rw [T 0 (by decide) (by decide) (by decide) (by decide) (by decide) (by decide)]; rfl) (ByteArray.mk (lnil UInt8).toArray)
  obtain ⟨l1, a1, s1⟩ := g 8192 20 (by decide) (.inl (by decide)) (by simp [tellL, defL, qL, be_length]) (ByteArray.mk (lnil UInt8).toArray)
  obtain ⟨l2, a2, s2⟩ := g 8193 18 (by decide) (.inl (by decide)) (by simp [tellL, curL, be_length]) (ByteArray.mk (lnil UInt8).toArray)
  obtain ⟨l3, a3, s3⟩ := g 8194 32 (by decide) (.inl (by decide)) (by simp [tellL, parL, idL, qL, be_length]) (ByteArray.mk (lnil UInt8).toArray)
  obtain ⟨l4, a4, s4⟩ := g 8195 4 (by decide) (.inl (by decide)) (by simp [tellL, timL, be_length]) (ByteArray.mk (lnil UInt8).toArray)
  obtain ⟨l5, a5, s5⟩ := g 8196 26 (by decide) (.inl (by decide)) (by simp [tellL, porL, idL, be_length]) (ByteArray.mk (lnil UInt8).toArray)
  obtain ⟨l6, a6, s6⟩ := g 8197 2 (by decide) (.inl (by decide)) (by rw [T 8197 (by decide) (by decide) (by decide) (by decide) (by decide) (by decide)]; simp [smallL, twoL, be_length]) (ByteArray.mk (lnil UInt8).toArray)
  obtain ⟨l7, a7, s7⟩ := g 8198 2 (by decide) (.inl (by decide)) (by rw [T 8198 (by decide) (by decide) (by decide) (by decide) (by decide) (by decide)]; simp [smallL, twoL, be_length]) (ByteArray.mk (lnil UInt8).toArray)
  obtain ⟨l8, a8, s8⟩ := g 8199 2 (by decide) (.inl (by decide)) (by rw [T 8199 (by decide) (by decide) (by decide) (by decide) (by decide) (by decide)]; simp [smallL, twoL, be_length]) (ByteArray.mk (lnil UInt8).toArray)
  obtain ⟨l9, a9, s9⟩ := g 8200 2 (by decide) (.inl (by decide)) (by rw [T 8200 (by decide) (by decide) (by decide) (by decide) (by decide) (by decide)]; simp [smallL, twoL, be_length]) (ByteArray.mk (lnil UInt8).toArray)
  obtain ⟨l10, a10, s10⟩ := g 8201 2 (by decide) (.inl (by decide)) (by rw [T 8201 (by decide) (by decide) (by decide) (by decide) (by decide) (by decide)]; simp [smallL, twoL, be_length]) (ByteArray.mk (lnil UInt8).toArray)
  obtain ⟨l11, a11, s11⟩ := g 8202 2 (by decide) (.inl (by decide)) (by rw [T 8202 (by decide) (by decide) (by decide) (by decide) (by decide) (by decide)]; simp [smallL, twoL, be_length]) (ByteArray.mk (lnil UInt8).toArray)
  obtain ⟨l12, a12, s12⟩ := g 8203 2 (by decide) (.inl (by decide)) (by rw [T 8203 (by decide) (by decide) (by decide) (by decide) (by decide) (by decide)]; simp [smallL, twoL, be_length]) (ByteArray.mk (lnil UInt8).toArray)
  obtain ⟨l13, a13, s13⟩ := g 8204 2 (by decide) (.inl (by decide)) (by rw [T 8204 (by decide) (by decide) (by decide) (by decide) (by decide) (by decide)]; simp [smallL, twoL, be_length]) (ByteArray.mk (lnil UInt8).toArray)
  obtain ⟨l14, a14, s14⟩ := g 8207 10 (by decide) (.inl (by decide)) (by simp [tellL, nowL, be_length]) (ByteArray.mk (lnil UInt8).toArray)
  obtain ⟨l15, a15, s15⟩ := g 8208 2 (by decide) (.inl (by decide)) (by rw [T 8208 (by decide) (by decide) (by decide) (by decide) (by decide) (by decide)]; simp [smallL, twoL, be_length]) (ByteArray.mk (lnil UInt8).toArray)
  simp only [if_true, n0_0, cond_false, a0, s0, a1, s1, a2, s2, a3, s3, a4, s4, a5, s5, a6, s6, a7, s7, a8, s8, a9, s9, a10, s10, a11, s11, a12, s12, a13, s13, a14, s14, a15, s15, oelim_some, ieq_self, beq_self_eq_true, cond_true, Bool.not_true]

end Go.Proofs.Ytccjnkhodgbghaa
