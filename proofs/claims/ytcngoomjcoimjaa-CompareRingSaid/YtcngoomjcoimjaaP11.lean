/- Typed forms of the functions that these statements reach, proved equal to what the model runs, and laws over them. -/
import Derived.Test.YtcngoomjcoimjaaP11a
namespace Go.Proofs.Ytcngoomjcoimjaa
open Go.Rf
set_option linter.unusedVariables false
set_option linter.unusedSimpArgs false
theorem place_spec (v n : Int) (hn : 0 < n) (hn2 : n ≤ 4611686018427387904) : law00_Place v n = some ((v % n, ()), (), ()) := by
  have h1 : ine n 0 = true := ine_true (by omega)
  have h2 := Int.emod_nonneg v (Int.ne_of_gt hn)
  have h3 := Int.emod_lt_of_pos v hn
  obtain ⟨h4, h5⟩ := tmod_place v n hn
  unfold law00_Place law00_Place.gen
  rw [h1]
  simp only [cond_true]
  by_cases hc : v.tmod n < 0
  · have e : iadd .i64 (irem v n) n = v % n := by
      have := h4 hc
      rw [iadd_of] <;> simp only [irem] <;> omega
    rw [show ilt (irem v n) 0 = true from ilt_true hc, e]; simp only [cond_true]
  · rw [show ilt (irem v n) 0 = false from ilt_false hc, show irem v n = v % n from h5 hc]; simp only [cond_false]

theorem awake_true : law11_awake = some ((true, ()), (), ()) := by kernel_rfl

theorem grand_neg (a b : api_Vector) : grand b a = -grand a b := lx_neg _ _
theorem ident_neg (a b : api_PortID) : identC b a = -identC a b := lx_neg _ _
theorem grand_r (a b : api_Vector) : grand a b = -1 ∨ grand a b = 0 ∨ grand a b = 1 := lx_r _ _
theorem ident_r (a b : api_PortID) : identC a b = -1 ∨ identC a b = 0 ∨ identC a b = 1 := lx_r _ _
theorem cmpC_neg (a b : api_Vector) : cmpC b a = -cmpC a b := by
  unfold cmpC
  rw [grand_neg a b, ident_neg a.fSender b.fSender, c3_neg a.fReceiver.fPort b.fReceiver.fPort]
  repeat' split
  all_goals omega
theorem cmpC_r (a b : api_Vector) : -2 ≤ cmpC a b ∧ cmpC a b ≤ 2 := by
  have := grand_r a b
  have := ident_r a.fSender b.fSender
  have := c3_r a.fReceiver.fPort b.fReceiver.fPort
  have := moreC_r a
  have := moreC_r b
  unfold cmpC
  repeat' split
  all_goals omega
theorem cmpC_self (a : api_Vector) : cmpC a a = 0 := by have := cmpC_neg a a; omega

theorem steps_of {a : api_Vector} (h : api_Vector.Wf a) : R64 a.fSteps := i64_of h.2.2.2.2.1

theorem law11_CompareBack.law : ∀ (a : api_Vector) (b : api_Vector), api_Vector.Wf a → api_Vector.Wf b → law11_CompareBack a b = some ((true, ()), (), ()) := by
  intro a b ha hb
  unfold law11_CompareBack law11_CompareBack.gen
  have h1 := cmpC_r a b
  have h2 := cmpC_neg a b
  have h3 := grand_neg a b
  have h4 := grand_r a b
  simp only [compare_spec _ _ (steps_of ha) (steps_of hb), compare_spec _ _ (steps_of hb) (steps_of ha), compare_spec _ _ (steps_of ha) (steps_of ha), grand_spec, awake_true, oelim_some, cmpC_self, h2, h3]
  rw [ineg _ (by omega), ineg _ (by omega), ine_false (by omega), ine_self, ilt_false (show ¬ cmpC a b < -2 by omega), ilt_false (show ¬ 2 < cmpC a b by omega), ieq_self]
  simp only [cond_false, cond_true]
  by_cases h0 : grand a b = 0
  · rw [ieq_true h0]; rfl
  · rw [ieq_false h0, imul_of (by omega), ieq_true (show cmpC a b = 2 * grand a b by unfold cmpC; rw [if_pos h0])]; rfl

theorem law11_CompareOrder.law : ∀ (a : api_Vector) (b : api_Vector) (c : api_Vector), api_Vector.Wf a → api_Vector.Wf b → api_Vector.Wf c → law11_CompareOrder a b c = some ((true, ()), (), ()) := by
  intro a b c _ _ _
  unfold law11_CompareOrder law11_CompareOrder.gen
  simp only [grand_spec, awake_true, oelim_some]
  have h := fun h1 h2 => lx_trans (k := vkeys a) (l := vkeys b) (m := vkeys c) rfl rfl h1 h2
  have h : grand a b ≤ 0 → grand b c ≤ 0 → grand a c ≤ 0 ∧ (grand a b < 0 ∨ grand b c < 0 → grand a c < 0) := h
  by_cases h1 : grand a b ≤ 0
  · rw [ile_true h1]
    by_cases h2 : grand b c ≤ 0
    · obtain ⟨h3, h4⟩ := h h1 h2
      rw [ile_true h2, ilt_false (show ¬ 0 < grand a c by omega)]
      by_cases h5 : grand a b < 0
      · rw [ilt_true h5, ile_false (show ¬ 0 ≤ grand a c by have := h4 (.inl h5); omega)]; rfl
      · rw [ilt_false h5]; rfl
    · rw [ile_false h2]
      cases ilt (grand a b) 0 <;> rfl
  · rw [ile_false h1, ilt_false (show ¬ grand a b < 0 by omega)]; rfl

theorem law11_CompareSteps.law : ∀ (a : api_Vector) (more : Int) (s : api_PortID), api_Vector.Wf a → (Lit.int .i64 more).wf = true → api_PortID.Wf s → law11_CompareSteps a more s = some ((true, ()), (), ()) := by
  intro a more s _ _ _
  unfold law11_CompareSteps law11_CompareSteps.gen
  simp only [place_spec a.fSteps 200 (by decide) (by decide), place_spec more 50 (by decide) (by decide), oelim_some]
  have hs : 0 ≤ a.fSteps % 200 ∧ a.fSteps % 200 < 200 := by omega
  have hk : 0 ≤ more % 50 ∧ more % 50 < 50 := by omega
  generalize a.fSteps % 200 = t at *
  generalize more % 50 = k at *
  have e1 : iadd .i64 (iadd .i64 t 2) k = t + 2 + k := by rw [iadd_of (a := t) (by omega), iadd_of (by omega)]
  rw [e1]
  have g0 : ∀ t t' s s' r r', grand ⟨a.fPriority1, a.fQuality, a.fPriority2, a.fGrand, t, s, r⟩ ⟨a.fPriority1, a.fQuality, a.fPriority2, a.fGrand, t', s', r'⟩ = 0 := fun t t' s s' r r' => lx_self (vkeys a)
  have c1 : cmpC ⟨a.fPriority1, a.fQuality, a.fPriority2, a.fGrand, t, a.fSender, a.fReceiver⟩ ⟨a.fPriority1, a.fQuality, a.fPriority2, a.fGrand, t + 2 + k, a.fSender, a.fReceiver⟩ = -2 := by
    unfold cmpC
    rw [g0, if_neg (by decide), if_neg (by simp only; omega), if_pos (by simp only; omega), if_neg (by simp only; omega)]
  have c2 : cmpC ⟨a.fPriority1, a.fQuality, a.fPriority2, a.fGrand, t + 2 + k, a.fSender, a.fReceiver⟩ ⟨a.fPriority1, a.fQuality, a.fPriority2, a.fGrand, t, a.fSender, a.fReceiver⟩ = 2 := by rw [cmpC_neg, c1]; rfl
  have c3' : cmpC ⟨a.fPriority1, a.fQuality, a.fPriority2, a.fGrand, t, a.fSender, a.fReceiver⟩ ⟨a.fPriority1, a.fQuality, a.fPriority2, a.fGrand, t, s, a.fReceiver⟩ = identC a.fSender s := by
    unfold cmpC
    rw [g0, if_neg (by decide), if_neg (by simp only; omega), if_neg (by simp only; omega)]
    split
    · rfl
    · rename_i h; simp only [c3_self]; simp only at h; omega
  rw [compare_spec _ _ (show R64 t by omega) (show R64 (t + 2 + k) by omega), compare_spec _ _ (show R64 (t + 2 + k) by omega) (show R64 t by omega), compare_spec _ _ (show R64 t by omega) (show R64 t by omega), c1, c2, c3']
  simp only [oelim_some, awake_true, ine_self, cond_false]
  have hz : identC a.fSender s = 0 ↔ s.fClock = a.fSender.fClock ∧ s.fPort = a.fSender.fPort := by
    unfold identC
    rw [lx_zero (by rfl)]
    simp [pkeys, eq_comm]
  have hr := ident_r a.fSender s
  by_cases h1 : s.fClock = a.fSender.fClock ∧ s.fPort = a.fSender.fPort
  · rw [hz.2 h1, ieq_true h1.1, ieq_true h1.2]; rfl
  · have hn : identC a.fSender s ≠ 0 := fun h => h1 (hz.1 h)
    have hb : (bif ieq s.fClock a.fSender.fClock then bif ieq s.fPort a.fSender.fPort then true else false else false) = false := by
      by_cases h2 : s.fClock = a.fSender.fClock
      · rw [ieq_false (show ¬ s.fPort = a.fSender.fPort from fun h3 => h1 ⟨h2, h3⟩)]; cases ieq s.fClock a.fSender.fClock <;> rfl
      · rw [ieq_false h2]; rfl
    rw [hb, ieq_false hn]
    rcases hr with h | h | h
    · rw [h]; rfl
    · exact absurd h hn
    · rw [h]; rfl

theorem law11_CompareRing.law : ∀ (a : api_Vector) (s : api_PortID) (r : api_PortID), api_Vector.Wf a → api_PortID.Wf s → api_PortID.Wf r → law11_CompareRing a s r = some ((true, ()), (), ()) := by
  intro a s r _ _ _
  unfold law11_CompareRing law11_CompareRing.gen
  have e0 : iand .i64 a.fSteps 255 = a.fSteps % 256 := iand_low a.fSteps 8 (by decide)
  rw [e0]
  have ht : 0 ≤ a.fSteps % 256 ∧ a.fSteps % 256 < 256 := by omega
  generalize a.fSteps % 256 = t at *
  rw [iadd_of (a := t) (by omega)]
  have g0 : ∀ t t' s s' r r', grand ⟨a.fPriority1, a.fQuality, a.fPriority2, a.fGrand, t, s, r⟩ ⟨a.fPriority1, a.fQuality, a.fPriority2, a.fGrand, t', s', r'⟩ = 0 := fun t t' s s' r r' => lx_self (vkeys a)
  have c1 : cmpC ⟨a.fPriority1, a.fQuality, a.fPriority2, a.fGrand, t + 1, s, r⟩ ⟨a.fPriority1, a.fQuality, a.fPriority2, a.fGrand, t, a.fSender, a.fReceiver⟩ = if identC r s = -1 then 2 else if identC r s = 0 then 0 else 1 := by
    unfold cmpC
    rw [g0, if_neg (by decide), if_pos (by simp only; omega), if_pos (by simp only; omega)]; rfl
  have c2 := cmpC_neg ⟨a.fPriority1, a.fQuality, a.fPriority2, a.fGrand, t + 1, s, r⟩ ⟨a.fPriority1, a.fQuality, a.fPriority2, a.fGrand, t, a.fSender, a.fReceiver⟩
  rw [c1] at c2
  rw [compare_spec ⟨a.fPriority1, a.fQuality, a.fPriority2, a.fGrand, t + 1, s, r⟩ ⟨a.fPriority1, a.fQuality, a.fPriority2, a.fGrand, t, a.fSender, a.fReceiver⟩ (show R64 (t + 1) by omega) (show R64 t by omega), compare_spec ⟨a.fPriority1, a.fQuality, a.fPriority2, a.fGrand, t, a.fSender, a.fReceiver⟩ ⟨a.fPriority1, a.fQuality, a.fPriority2, a.fGrand, t + 1, s, r⟩ (show R64 t by omega) (show R64 (t + 1) by omega), c1, c2]
  simp only [oelim_some, awake_true]
  have hz : identC r s = if c3 r.fClock s.fClock = 0 then (if c3 r.fPort s.fPort = 0 then 0 else c3 r.fPort s.fPort) else c3 r.fClock s.fClock := rfl
  by_cases h1 : r.fClock < s.fClock
  · rw [c3_lt.2 h1] at hz
    rw [hz, ilt_true h1, ieq_false (show ¬ r.fClock = s.fClock by omega)]; rfl
  · rw [ilt_false h1]
    by_cases h2 : s.fClock < r.fClock
    · rw [c3_gt.2 h2] at hz
      rw [hz, ieq_false (show ¬ r.fClock = s.fClock by omega)]; rfl
    · rw [c3_zero.2 (show r.fClock = s.fClock by omega)] at hz
      rw [ieq_true (show r.fClock = s.fClock by omega)]
      by_cases h3 : r.fPort < s.fPort
      · rw [c3_lt.2 h3] at hz
        rw [hz, ilt_true h3, ieq_false (show ¬ r.fPort = s.fPort by omega)]; rfl
      · rw [ilt_false h3]
        by_cases h4 : s.fPort < r.fPort
        · rw [c3_gt.2 h4] at hz
          rw [hz, ieq_false (show ¬ r.fPort = s.fPort by omega)]; rfl
        · rw [c3_zero.2 (show r.fPort = s.fPort by omega)] at hz
          rw [hz, ieq_true (show r.fPort = s.fPort by omega)]; rfl

theorem law11_CompareOwn.law : ∀ (c : api_Conf) (d : api_Conf), api_Conf.Wf c → api_Conf.Wf d → law11_CompareOwn c d = some ((true, ()), (), ()) := by
  intro c d _ _
  unfold law11_CompareOwn law11_CompareOwn.gen
  have ho : ∀ c, compare_Own c = some ((⟨c.fPriority1, c.fQuality, c.fPriority2, c.fClock, 0, ⟨c.fClock, 0⟩, ⟨c.fClock, 0⟩⟩, ()), (), ()) := fun c => rfl
  simp only [ho, oelim_some]
  rw [compare_spec _ _ (show R64 0 by omega) (show R64 0 by omega)]
  simp only [oelim_some, awake_true]
  have hg := grand_r ⟨c.fPriority1, c.fQuality, c.fPriority2, c.fClock, 0, ⟨c.fClock, 0⟩, ⟨c.fClock, 0⟩⟩ ⟨d.fPriority1, d.fQuality, d.fPriority2, d.fClock, 0, ⟨d.fClock, 0⟩, ⟨d.fClock, 0⟩⟩
  have hgz : grand ⟨c.fPriority1, c.fQuality, c.fPriority2, c.fClock, 0, ⟨c.fClock, 0⟩, ⟨c.fClock, 0⟩⟩ ⟨d.fPriority1, d.fQuality, d.fPriority2, d.fClock, 0, ⟨d.fClock, 0⟩, ⟨d.fClock, 0⟩⟩ =
      lx [c.fPriority1, c.fQuality.fClass, c.fQuality.fAccuracy, c.fQuality.fVariance, c.fPriority2, c.fClock] [d.fPriority1, d.fQuality.fClass, d.fQuality.fAccuracy, d.fQuality.fVariance, d.fPriority2, d.fClock] := rfl
  have hx : cmpC ⟨c.fPriority1, c.fQuality, c.fPriority2, c.fClock, 0, ⟨c.fClock, 0⟩, ⟨c.fClock, 0⟩⟩ ⟨d.fPriority1, d.fQuality, d.fPriority2, d.fClock, 0, ⟨d.fClock, 0⟩, ⟨d.fClock, 0⟩⟩ =
      2 * grand ⟨c.fPriority1, c.fQuality, c.fPriority2, c.fClock, 0, ⟨c.fClock, 0⟩, ⟨c.fClock, 0⟩⟩ ⟨d.fPriority1, d.fQuality, d.fPriority2, d.fClock, 0, ⟨d.fClock, 0⟩, ⟨d.fClock, 0⟩⟩ := by
    by_cases h0 : grand ⟨c.fPriority1, c.fQuality, c.fPriority2, c.fClock, 0, ⟨c.fClock, 0⟩, ⟨c.fClock, 0⟩⟩ ⟨d.fPriority1, d.fQuality, d.fPriority2, d.fClock, 0, ⟨d.fClock, 0⟩, ⟨d.fClock, 0⟩⟩ = 0
    · have h1 := h0
      rw [hgz, lx_zero (by rfl)] at h1
      have hc : c.fClock = d.fClock := by simp at h1; exact h1.2.2.2.2.2
      unfold cmpC
      rw [if_neg (by omega), if_neg (by simp), if_neg (by simp), h0]
      simp [identC, lx, pkeys, hc, c3_self]
    · unfold cmpC; rw [if_pos h0]
  rw [hx]
  rw [hgz] at hg ⊢
  by_cases h1 : c.fPriority1 = d.fPriority1
  · rw [ine_false h1]
    simp only [cond_false]
    by_cases h2 : (c.fQuality.fClass = d.fQuality.fClass ∧ c.fQuality.fAccuracy = d.fQuality.fAccuracy ∧ c.fQuality.fVariance = d.fQuality.fVariance) ∧ c.fPriority2 = d.fPriority2
    · obtain ⟨⟨h3, h4, h5⟩, h6⟩ := h2
      rw [ieq_true h3, ieq_true h4, ieq_true h5, ieq_true h6]
      simp only [lx, h1, h3, h4, h5, h6, c3_self, if_true, cond_true]
      have := c3_r c.fClock d.fClock
      by_cases h7 : c.fClock = d.fClock
      · rw [ieq_true h7, h7, c3_self]; rfl
      · have hz : c3 c.fClock d.fClock ≠ 0 := fun h => h7 (c3_zero.1 h)
        rw [ieq_false h7, if_neg hz]
        by_cases h8 : c.fClock < d.fClock
        · rw [c3_lt.2 h8, ilt_true h8, ilt_false (show ¬ d.fClock < c.fClock by omega)]; rfl
        · rw [c3_gt.2 (show d.fClock < c.fClock by omega), ilt_false h8, ilt_true (show d.fClock < c.fClock by omega)]; rfl
    · have hn : lx [c.fPriority1, c.fQuality.fClass, c.fQuality.fAccuracy, c.fQuality.fVariance, c.fPriority2, c.fClock] [d.fPriority1, d.fQuality.fClass, d.fQuality.fAccuracy, d.fQuality.fVariance, d.fPriority2, d.fClock] ≠ 0 := fun h => by
        rw [lx_zero (by rfl)] at h
        simp at h
        exact h2 ⟨⟨h.2.1, h.2.2.1, h.2.2.2.1⟩, h.2.2.2.2.1⟩
      generalize lx [c.fPriority1, c.fQuality.fClass, c.fQuality.fAccuracy, c.fQuality.fVariance, c.fPriority2, c.fClock] [d.fPriority1, d.fQuality.fClass, d.fQuality.fAccuracy, d.fQuality.fVariance, d.fPriority2, d.fClock] = g at *
      simp only [ieq_self, cond_true]
      have k : ∀ b1 b2 b3 b4 : Bool, (b1 && b2 && b3 && b4) = false → ∀ (x y z : Option ((Bool × Unit) × Unit × Unit)), y = z → (bif (bif b1 then bif b2 then bif b3 then true else false else false else false) then (bif b4 then x else y) else z) = z := by
        intro b1 b2 b3 b4 hb x y z hyz
        subst hyz
        cases b1 <;> cases b2 <;> cases b3 <;> cases b4 <;> first | rfl | cases hb
      rw [k]
      · rcases hg with h | h | h
        · rw [h]; rfl
        · exact absurd h hn
        · rw [h]; rfl
      · cases e1 : ieq c.fQuality.fClass d.fQuality.fClass <;> cases e2 : ieq c.fQuality.fAccuracy d.fQuality.fAccuracy <;> cases e3 : ieq c.fQuality.fVariance d.fQuality.fVariance <;> cases e4 : ieq c.fPriority2 d.fPriority2 <;>
          first | rfl | exact absurd ⟨⟨ieq_iff.1 e1, ieq_iff.1 e2, ieq_iff.1 e3⟩, ieq_iff.1 e4⟩ h2
      · rfl
  · rw [ine_true h1]
    have hz : c3 c.fPriority1 d.fPriority1 ≠ 0 := fun h => h1 (c3_zero.1 h)
    simp only [lx, if_neg hz, cond_true]
    by_cases h8 : c.fPriority1 < d.fPriority1
    · rw [c3_lt.2 h8, ilt_true h8, ilt_false (show ¬ d.fPriority1 < c.fPriority1 by omega)]; rfl
    · rw [c3_gt.2 (show d.fPriority1 < c.fPriority1 by omega), ilt_false h8, ilt_true (show d.fPriority1 < c.fPriority1 by omega)]; rfl

end Go.Proofs.Ytcngoomjcoimjaa
