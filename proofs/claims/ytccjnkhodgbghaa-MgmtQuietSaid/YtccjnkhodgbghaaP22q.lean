/- Typed forms of the functions that these statements reach, proved equal to what the model runs, and laws over them. -/
import Derived.Test.YtccjnkhodgbghaaS22q
import Derived.Test.YtccjnkhodgbghaaP22f
namespace Go.Proofs.Ytccjnkhodgbghaa
open Go.Rf
set_option linter.unusedVariables false
set_option linter.unusedSimpArgs false
/-! ### all but what is set stays -/
theorem qe (x : Int) : ieq x x = true := ieq_true rfl
theorem qn (x : Int) : ine x x = false := ine_false rfl
theorem ans_quiet (v : mgmt_View) (action id : Int) (data : ByteArray) : (ans v action id data).2.1 = v.fConf ∨ (action = 1 ∧ (ans v action id data).2.2 = 0 ∧ ∃ b, (ans v action id data).2.1 = setC v.fConf id b) := by
  unfold ans
  repeat' split
  all_goals first
    | exact .inl rfl
    | (rename_i h h'; exact .inr ⟨h.1, rfl, _, rfl⟩)
theorem setC_one (c : api_Conf) (id : Int) (b : UInt8) : setC c id b = c ∨ (∃ n, setC c id b = { c with fPriority1 := n }) ∨ (∃ n, setC c id b = { c with fPriority2 := n }) ∨ (∃ n, setC c id b = { c with fDomain := n }) ∨ (∃ n, setC c id b = { c with fSlaveOnly := n }) ∨
    (∃ n, setC c id b = { c with fLogAnn := n }) ∨ (∃ n, setC c id b = { c with fTimeout := n }) ∨ (∃ n, setC c id b = { c with fLogSync := n }) ∨ (∃ n, setC c id b = { c with fQuality := n }) := by
  unfold setC
  by_cases h0 : id = 8197
  · rw [if_pos h0]; exact .inr (.inl ⟨_, rfl⟩)
  rw [if_neg h0]
  by_cases h1 : id = 8198
  · rw [if_pos h1]; exact .inr (.inr (.inl ⟨_, rfl⟩))
  rw [if_neg h1]
  by_cases h2 : id = 8199
  · rw [if_pos h2]; exact .inr (.inr (.inr (.inl ⟨_, rfl⟩)))
  rw [if_neg h2]
  by_cases h3 : id = 8200
  · rw [if_pos h3]; exact .inr (.inr (.inr (.inr (.inl ⟨_, rfl⟩))))
  rw [if_neg h3]
  by_cases h4 : id = 8201
  · rw [if_pos h4]; exact .inr (.inr (.inr (.inr (.inr (.inl ⟨_, rfl⟩)))))
  rw [if_neg h4]
  by_cases h5 : id = 8202
  · rw [if_pos h5]; exact .inr (.inr (.inr (.inr (.inr (.inr (.inl ⟨_, rfl⟩))))))
  rw [if_neg h5]
  by_cases h6 : id = 8203
  · rw [if_pos h6]; exact .inr (.inr (.inr (.inr (.inr (.inr (.inr (.inl ⟨_, rfl⟩)))))))
  rw [if_neg h6]
  by_cases h7 : id = 8208
  · rw [if_pos h7]; exact .inr (.inr (.inr (.inr (.inr (.inr (.inr (.inr ⟨_, rfl⟩)))))))
  rw [if_neg h7]
  exact .inl rfl
theorem law22_MgmtQuiet.law : ∀ (c : api_Conf) (action : Int) (id : Int) (data : ByteArray), api_Conf.Wf c → (Lit.int .i64 action).wf = true → (Lit.int .i64 id).wf = true → data.size ≤ reachBytes → law22_MgmtQuiet c action id data = some ((true, ()), (), ()) := by
  intro c action id data _ _ _ _
  unfold law22_MgmtQuiet law22_MgmtQuiet.gen
  simp only [ref_conf_spec, answer_spec, pk, awake_true, oelim_some]
  cases hok : okC c
  · simp [oelim_some, n15_0]
  simp only [if_true, n0_0, cond_false, oelim_some]
  cases hs : ilt 300 (ofN data.size)
  · simp only [cond_false]
    generalize hv : (mgmt_View.mk c _ 0 0 0 0 0 0) = v
    have hvc : v.fConf = c := by rw [← hv]
    have h1 := ans_quiet v action id data
    rw [hvc] at h1
    generalize ans v action id data = x at h1
    obtain ⟨s, d, e⟩ := x
    simp only at h1
    simp only [qe, qn, beq_self_eq_true, cond_true, cond_false, Bool.not_true, oelim_some]
    rcases h1 with rfl | ⟨rfl, rfl, b, hd⟩
    · simp only [qe, qn, beq_self_eq_true, cond_true, cond_false, Bool.not_true, oelim_some]
      rfl
    · rcases setC_one c id b with h | ⟨n, h⟩ | ⟨n, h⟩ | ⟨n, h⟩ | ⟨n, h⟩ | ⟨n, h⟩ | ⟨n, h⟩ | ⟨n, h⟩ | ⟨n, h⟩ <;> rw [h] at hd <;> subst hd <;> simp only [qe, qn, beq_self_eq_true, cond_true, cond_false, Bool.not_true, oelim_some]
      · rfl
      · generalize ine n c.fPriority1 = u; cases u <;> rfl
      · generalize ine n c.fPriority2 = u; cases u <;> rfl
      · generalize ine n c.fDomain = u; cases u <;> rfl
      · generalize (n == c.fSlaveOnly) = u; cases u <;> rfl
      · generalize ine n c.fLogAnn = u; cases u <;> rfl
      · generalize ine n c.fTimeout = u; cases u <;> rfl
      · generalize ine n c.fLogSync = u; cases u <;> rfl
      · generalize (bif ieq n.fClass c.fQuality.fClass then _ else false) = u; cases u <;> rfl
  · rfl

end Go.Proofs.Ytccjnkhodgbghaa
