/- Typed forms of the functions that these statements reach, proved equal to what the model runs, and laws over them. -/
import Derived.Test.YtdpabhhojihhgaaS16
import Derived.Test.YtdpabhhojihhgaaAr
namespace Go.Proofs.Ytdpabhhojihhgaa
open Go.Rf
set_option linter.unusedVariables false
set_option linter.unusedSimpArgs false

theorem awake_true : law16_awake = some ((true, ()), (), ()) := by kernel_rfl

theorem place_spec (v n : Int) (hn : 0 < n) (hn2 : n ≤ 4611686018427387904) : law00_Place v n = some ((v % n, ()), (), ()) := by
  have h1 : ine n 0 = true := by simp [ine]; omega
  have h2 := Int.emod_nonneg v (Int.ne_of_gt hn)
  have h3 := Int.emod_lt_of_pos v hn
  have h4 : v.tmod n = if 0 ≤ v ∨ v % n = 0 then v % n else v % n - n := by
    rw [Int.tmod_eq_emod]
    by_cases h0 : 0 ≤ v
    · simp [h0]
    · by_cases hd : n ∣ v
      · have := Int.emod_eq_zero_of_dvd hd
        simp [h0, hd, this]
      · have : v % n ≠ 0 := fun h => hd (Int.dvd_of_emod_eq_zero h)
        simp [h0, hd, this]
        omega
  unfold law00_Place law00_Place.gen
  rw [h1]
  simp only [cond_true]
  cases hc : ilt (irem v n) 0 with
  | true =>
    have hlt : v.tmod n < 0 := of_decide_eq_true hc
    have h5 : v.tmod n + n = v % n := by split at h4 <;> omega
    have : iadd .i64 (irem v n) n = v % n := by rw [iadd_of] <;> simp only [irem] <;> omega
    simp only [cond_true, this]
  | false =>
    have hlt : 0 ≤ v.tmod n := Int.not_lt.1 (of_decide_eq_false hc)
    have : irem v n = v % n := by
      simp only [irem]
      split at h4 <;> omega
    simp only [cond_false, this]

theorem next_spec (a : Int) : seq_Next a = some (((a + 1) % 65536, ()), (), ()) := by
  have : iadd .i64 (a % 65536) 1 = a % 65536 + 1 := iadd_of (by omega)
  show some ((iand .i64 (iadd .i64 (iand .i64 a 65535) 1) 65535, ()), (), ()) = _
  rw [iand_65535, iand_65535, this, show (a % 65536 + 1) % 65536 = (a + 1) % 65536 by omega]

theorem newer_spec (a b : Int) : seq_Newer a b = some ((decide (1 ≤ (a - b) % 65536 ∧ (a - b) % 65536 < 32768), ()), (), ()) := by
  have h0 : iand .i64 (isub .i64 a b) 65535 = (a - b) % 65536 := by
    rw [iand_65535]
    simp only [isub, iwrap]
    omega
  show (bif ile 1 (iand .i64 (isub .i64 a b) 65535) then some ((ilt (iand .i64 (isub .i64 a b) 65535) 32768, ()), (), ()) else some ((false, ()), (), ())) = _
  rw [h0]
  by_cases h1 : 1 ≤ (a - b) % 65536 <;> simp [ile, ilt, h1]


theorem law16_SeqOrder.law : ∀ (a : Int) (b : Int), (Lit.int .i64 a).wf = true → (Lit.int .i64 b).wf = true → law16_SeqOrder a b = some ((true, ()), (), ()) := by
  intro a b _ _
  have hk : 0 ≤ a % 65536 ∧ a % 65536 < 65536 := by omega
  have hl : 0 ≤ b % 65536 ∧ b % 65536 < 65536 := by omega
  unfold law16_SeqOrder law16_SeqOrder.gen
  simp only [place_spec a 65536 (by decide) (by decide), place_spec b 65536 (by decide) (by decide), oelim_some]
  generalize a % 65536 = k at *
  generalize b % 65536 = l at *
  have hs : isub .i64 k l = k - l := isub_of (by omega)
  simp only [hs, place_spec (k - l) 65536 (by decide) (by decide), oelim_some, next_spec, newer_spec, awake_true, ilt, ieq]
  have tt : ∀ {p : Prop} [Decidable p], p → decide p = true := fun h => decide_eq_true h
  have ff : ∀ {p : Prop} [Decidable p], ¬ p → decide p = false := fun h => decide_eq_false h
  rw [tt (p := 1 ≤ ((k + 1) % 65536 - k) % 65536 ∧ ((k + 1) % 65536 - k) % 65536 < 32768) (by omega), ff (p := 1 ≤ (k - (k + 1) % 65536) % 65536 ∧ (k - (k + 1) % 65536) % 65536 < 32768) (by omega),
    ff (p := 1 ≤ (k - k) % 65536 ∧ (k - k) % 65536 < 32768) (by omega), ff (p := (k + 1) % 65536 < 0) (by omega), ff (p := 65535 < (k + 1) % 65536) (by omega)]
  simp only [Bool.not_true, cond_false]
  by_cases h1 : k = l
  · subst h1
    rw [ff (p := 1 ≤ (k - k) % 65536 ∧ (k - k) % 65536 < 32768) (by omega)]
    simp
  · by_cases h2 : (k - l) % 65536 = 32768
    · rw [ff (p := 1 ≤ (k - l) % 65536 ∧ (k - l) % 65536 < 32768) (by omega), ff (p := 1 ≤ (l - k) % 65536 ∧ (l - k) % 65536 < 32768) (by omega)]
      simp [h1, h2]
    · have e1 : (k == l) = false := by simp [h1]
      have e2 : ((k - l) % 65536 == 32768) = false := by simp [h2]
      by_cases h3 : 1 ≤ (k - l) % 65536 ∧ (k - l) % 65536 < 32768
      · rw [tt h3, ff (p := 1 ≤ (l - k) % 65536 ∧ (l - k) % 65536 < 32768) (by omega), e1, e2]; rfl
      · rw [ff h3, tt (p := 1 ≤ (l - k) % 65536 ∧ (l - k) % 65536 < 32768) (by omega), e1, e2]; rfl

theorem iand512 : iand .i64 512 512 = 512 := by decide
theorem iand0 : iand .i64 0 512 = 0 := by decide

theorem add_spec (a b : Int) (h : -9223372036854775808 ≤ a + b ∧ a + b < 9223372036854775808) (ha : -9223372036854775808 ≤ a ∧ a < 9223372036854775808) (hb : -9223372036854775808 ≤ b ∧ b < 9223372036854775808) : stamp_Add a b = some ((a + b, ()), (), ()) := by
  unfold stamp_Add stamp_Add.gen
  rw [iadd_of h]
  by_cases h1 : 0 < b
  · have e1 : isub .i64 9223372036854775807 b = 9223372036854775807 - b := isub_of (by omega)
    have e2 : ilt (9223372036854775807 - b) a = false := decide_eq_false (by omega)
    have e3 : ilt b 0 = false := decide_eq_false (by omega)
    have e4 : ilt 0 b = true := decide_eq_true h1
    simp [e1, e2, e3, e4]
  · have e4 : ilt 0 b = false := decide_eq_false h1
    by_cases h2 : b < 0
    · have e1 : isub .i64 (-9223372036854775808) b = -9223372036854775808 - b := isub_of (by omega)
      have e2 : ilt a (-9223372036854775808 - b) = false := decide_eq_false (by omega)
      simp [e1, e2, e4]
    · have e3 : ilt b 0 = false := decide_eq_false h2
      simp [e3, e4]

theorem law16_SeqApart.law : ∀ (n : Int) (m : Int) (a : api_PortID) (b : api_PortID), (Lit.int .i64 n).wf = true → (Lit.int .i64 m).wf = true → api_PortID.Wf a → api_PortID.Wf b → law16_SeqApart n m a b = some ((true, ()), (), ()) := by
  intro n m a b _ _ _ _
  unfold law16_SeqApart law16_SeqApart.gen
  simp only [place_spec n 65536 (by decide) (by decide), place_spec m 65536 (by decide) (by decide), oelim_some]
  generalize n % 65536 = k
  generalize m % 65536 = l
  have e : isub .i64 (isub .i64 50 20) (ishr .i64 0 16) = 30 := by decide
  have e0 : stamp_Add 0 0 = some ((0, ()), (), ()) := by kernel_rfl
  simp [seq_New, seq_New.gen, seq_Match_Sync, seq_Match_Sync.gen, seq_Match_Follow, seq_Match_Follow.gen, seq_of, seq_of.gen, seq_Match_both, seq_Match_both.gen, seq_Match_Clear, seq_Match_Clear.gen, stamp_Floor, stamp_Floor.gen, oelim_some, awake_true, ine, ieq, iand512, iand0, e0, e]
  cases h1 : a.fClock == b.fClock <;> cases h2 : a.fPort == b.fPort <;> cases h3 : k == l <;> simp_all [seq_New, seq_New.gen, seq_Match_Sync, seq_Match_Sync.gen, seq_Match_Follow, seq_Match_Follow.gen, seq_of, seq_of.gen, seq_Match_both, seq_Match_both.gen, seq_Match_Clear, seq_Match_Clear.gen, stamp_Floor, stamp_Floor.gen, oelim_some, awake_true, ine, ieq, iand512, iand0]

theorem law16_SeqLatest.law : ∀ (n : Int) (clear : Bool), (Lit.int .i64 n).wf = true → True → law16_SeqLatest n clear = some ((true, ()), (), ()) := by
  intro n clear _ _
  unfold law16_SeqLatest law16_SeqLatest.gen
  simp only [place_spec n 65536 (by decide) (by decide), next_spec, oelim_some]
  have hk : 0 ≤ n % 65536 ∧ n % 65536 < 65536 := by omega
  generalize n % 65536 = k at *
  have h1 : ((k + 1) % 65536 == k) = false := beq_eq_false_iff_ne.2 (by omega)
  have e : isub .i64 (isub .i64 200 50) (ishr .i64 0 16) = 150 := by decide
  have e0 : stamp_Add 0 0 = some ((0, ()), (), ()) := by kernel_rfl
  generalize (k + 1) % 65536 = l at *
  cases clear <;> simp [seq_New, seq_New.gen, seq_Match_Sync, seq_Match_Sync.gen, seq_Match_Follow, seq_Match_Follow.gen, seq_of, seq_of.gen, seq_Match_both, seq_Match_both.gen, seq_Match_Clear, seq_Match_Clear.gen, stamp_Floor, stamp_Floor.gen, oelim_some, awake_true, ine, ieq, iand512, iand0, e0, e, h1]

theorem law16_SeqSteps.law : ∀ (at_0 : Int) (stamp : Int) (c : Int) (d : Int) (source : api_PortID) (n : Int), (Lit.int .i64 at_0).wf = true → (Lit.int .i64 stamp).wf = true → (Lit.int .i64 c).wf = true → (Lit.int .i64 d).wf = true → api_PortID.Wf source → (Lit.int .i64 n).wf = true → law16_SeqSteps at_0 stamp c d source n = some ((true, ()), (), ()) := by
  intro t s c d source n _ _ _ _ _ _
  unfold law16_SeqSteps law16_SeqSteps.gen
  have hc : 0 ≤ c % 1099511627776 ∧ c % 1099511627776 < 1099511627776 := by omega
  have hd : 0 ≤ d % 1099511627776 ∧ d % 1099511627776 < 1099511627776 := by omega
  simp only [place_spec t 4000000000000000 (by decide) (by decide), place_spec s 4000000000000000 (by decide) (by decide), place_spec c 1099511627776 (by decide) (by decide), place_spec d 1099511627776 (by decide) (by decide), place_spec n 65536 (by decide) (by decide), next_spec, oelim_some]
  generalize c % 1099511627776 = x at *
  generalize d % 1099511627776 = y at *
  have e1 : isub .i64 x 549755813888 = x - 549755813888 := isub_of (by omega)
  have e2 : isub .i64 y 549755813888 = y - 549755813888 := isub_of (by omega)
  have e3 : iadd .i64 (x - 549755813888) (y - 549755813888) = x - 549755813888 + (y - 549755813888) := iadd_of (by omega)
  have e4 := add_spec (x - 549755813888) (y - 549755813888) (by omega) (by omega) (by omega)
  simp [seq_New, seq_New.gen, seq_Match_Sync, seq_Match_Sync.gen, seq_Match_Follow, seq_Match_Follow.gen, seq_of, seq_of.gen, seq_Match_both, seq_Match_both.gen, seq_Match_Clear, seq_Match_Clear.gen, stamp_Floor, stamp_Floor.gen, oelim_some, awake_true, ine, ieq, iand512, iand0, e1, e2, e3, e4]
end Go.Proofs.Ytdpabhhojihhgaa
