/- Proved here: texts of the statement SeqOrder: typed forms of the functions that it reaches, and its law. -/
import Derived.Test.YtdpabhhojihhgaaS1
import Derived.Test.YtdpabhhojihhgaaAr
namespace Go.Proofs.Sq
open Go.Rf
set_option linter.unusedVariables false
set_option linter.unusedSimpArgs false

theorem awake_true : law16_awake = ((true, ()), (), ()) := by kernel_rfl

theorem place_eq (v n : Int) (hn : 0 < n) (hn2 : n ≤ 4611686018427387904) : ∃ r : Int, law00_Place v n = some ((r, ()), (), ()) ∧ r = v % n := by
  have h1 : ine n 0 = true := by simp [ine]; omega
  have h2 := Int.emod_nonneg v (Int.ne_of_gt hn)
  have h3 := Int.emod_lt_of_pos v hn
  have h4 : v.tmod n = if 0 ≤ v ∨ v % n = 0 then v % n else v % n - n := by
    rw [Int.tmod_eq_emod]
    by_cases h0 : 0 ≤ v
    · simp [h0]
    · by_cases hd : n ∣ v
      · have := Int.emod_eq_zero_of_dvd hd
        simp [h0, hd, this]
      · have : v % n ≠ 0 := fun h => hd (Int.dvd_of_emod_eq_zero h)
        simp [h0, hd, this]
        omega
  unfold law00_Place law00_Place.gen
  rw [h1]
  simp only [cond_true]
  cases hc : ilt (irem v n) 0 with
  | true =>
    refine ⟨_, rfl, ?_⟩
    have hlt : v.tmod n < 0 := of_decide_eq_true hc
    show IntKind.i64.wrap (v.tmod n + n) = v % n
    rw [iwrap]
    have h5 : v.tmod n + n = v % n := by split at h4 <;> omega
    rw [h5]; omega
  | false =>
    refine ⟨_, rfl, ?_⟩
    have hlt : 0 ≤ v.tmod n := Int.not_lt.1 (of_decide_eq_false hc)
    simp only [irem]
    split at h4 <;> omega

theorem next_eq (a : Int) : seq_Next a = (((a + 1) % 65536, ()), (), ()) := by
  show ((iand .i64 (iadd .i64 (iand .i64 a 65535) 1) 65535, ()), (), ()) = _
  rw [iand_65535, iand_65535]
  have : iadd .i64 (a % 65536) 1 = a % 65536 + 1 := by simp only [iadd, iwrap]; omega
  rw [this]
  have : (a % 65536 + 1) % 65536 = (a + 1) % 65536 := by omega
  rw [this]

theorem newer_eq (a b : Int) : seq_Newer a b = ((decide (1 ≤ (a - b) % 65536 ∧ (a - b) % 65536 < 32768), ()), (), ()) := by
  have h0 : iand .i64 (isub .i64 a b) 65535 = (a - b) % 65536 := by
    rw [iand_65535]
    simp only [isub, iwrap]
    omega
  show (bif ile 1 (iand .i64 (isub .i64 a b) 65535) then ((ilt (iand .i64 (isub .i64 a b) 65535) 32768, ()), (), ()) else ((false, ()), (), ())) = _
  rw [h0]
  by_cases h1 : 1 ≤ (a - b) % 65536 <;> simp [ile, ilt, h1]

theorem seqOrder (a b : Int) : law16_SeqOrder a b = some ((true, ()), (), ()) := by
  obtain ⟨k, hk, hk'⟩ := place_eq a 65536 (by decide) (by decide)
  obtain ⟨l, hl, hl'⟩ := place_eq b 65536 (by decide) (by decide)
  have hk2 : 0 ≤ k ∧ k < 65536 := by omega
  have hl2 : 0 ≤ l ∧ l < 65536 := by omega
  obtain ⟨m, hm, hm'⟩ := place_eq (isub .i64 k l) 65536 (by decide) (by decide)
  have hs : isub .i64 k l = k - l := by show IntKind.i64.wrap (k - l) = _; rw [iwrap]; omega
  rw [hs] at hm'
  have tt : ∀ {p : Prop} [Decidable p], p → decide p = true := fun h => decide_eq_true h
  have ff : ∀ {p : Prop} [Decidable p], ¬ p → decide p = false := fun h => decide_eq_false h
  unfold law16_SeqOrder law16_SeqOrder.gen
  simp only [hk, hl, hm, oelim, next_eq, newer_eq, awake_true, ilt, ieq]
  rw [tt (p := 1 ≤ ((k + 1) % 65536 - k) % 65536 ∧ ((k + 1) % 65536 - k) % 65536 < 32768) (by omega), ff (p := 1 ≤ (k - (k + 1) % 65536) % 65536 ∧ (k - (k + 1) % 65536) % 65536 < 32768) (by omega),
    ff (p := 1 ≤ (k - k) % 65536 ∧ (k - k) % 65536 < 32768) (by omega), ff (p := (k + 1) % 65536 < 0) (by omega), ff (p := 65535 < (k + 1) % 65536) (by omega)]
  simp only [Bool.not_true, cond_false]
  by_cases h1 : k = l
  · subst h1
    rw [ff (p := 1 ≤ (k - k) % 65536 ∧ (k - k) % 65536 < 32768) (by omega)]
    simp
    rfl
  · by_cases h2 : m = 32768
    · rw [ff (p := 1 ≤ (k - l) % 65536 ∧ (k - l) % 65536 < 32768) (by omega), ff (p := 1 ≤ (l - k) % 65536 ∧ (l - k) % 65536 < 32768) (by omega)]
      simp [h1, h2]
      rfl
    · have e1 : (k == l) = false := by simp [h1]
      have e2 : (m == 32768) = false := by simp [h2]
      by_cases h3 : 1 ≤ (k - l) % 65536 ∧ (k - l) % 65536 < 32768
      · rw [tt h3, ff (p := 1 ≤ (l - k) % 65536 ∧ (l - k) % 65536 < 32768) (by omega)]
        rw [e1, e2]; rfl
      · rw [ff h3, tt (p := 1 ≤ (l - k) % 65536 ∧ (l - k) % 65536 < 32768) (by omega)]
        rw [e1, e2]; rfl
end Go.Proofs.Sq
