/- Typed forms of the functions that these statements reach, proved equal to what the model runs, and laws over them. -/
import Derived.Test.YtkjjdjgpmlbloaaAr
namespace Go.Rf
theorem ilt_true {a b : Int} (h : a < b) : ilt a b = true := decide_eq_true h
theorem ilt_false {a b : Int} (h : ¬ a < b) : ilt a b = false := decide_eq_false h
theorem ile_true {a b : Int} (h : a ≤ b) : ile a b = true := decide_eq_true h
theorem ile_false {a b : Int} (h : ¬ a ≤ b) : ile a b = false := decide_eq_false h
theorem inR_true {a : Int} {n : Nat} (h : 0 ≤ a) (h' : a < (n : Int)) : inR a n = true := by simp [inR, h, h']
theorem ieq_true {a b : Int} (h : a = b) : ieq a b = true := by simp [ieq, h]
theorem ieq_false {a b : Int} (h : ¬ a = b) : ieq a b = false := by simp [ieq, h]
theorem ine_true {a b : Int} (h : ¬ a = b) : ine a b = true := by simp [ine, h]
theorem ine_false {a b : Int} (h : a = b) : ine a b = false := by simp [ine, h]
theorem ieq_self (a : Int) : ieq a a = true := by simp [ieq]
theorem ine_self (a : Int) : ine a a = false := by simp [ine]
theorem ilt_iff {a b : Int} : ilt a b = true ↔ a < b := by simp [ilt]
theorem ile_iff {a b : Int} : ile a b = true ↔ a ≤ b := by simp [ile]
theorem ieq_iff {a b : Int} : ieq a b = true ↔ a = b := by simp [ieq]
theorem ine_iff {a b : Int} : ine a b = true ↔ a ≠ b := by simp [ine]
abbrev R64 (n : Int) : Prop := -9223372036854775808 ≤ n ∧ n < 9223372036854775808
def sat (a b : Int) : Int := if 9223372036854775807 < a + b then 9223372036854775807 else if a + b < -9223372036854775808 then -9223372036854775808 else a + b
theorem sat_r {a b : Int} : R64 (sat a b) := by unfold sat; split <;> (try split) <;> omega
theorem tdiv65536 (a : Int) : a.tdiv 65536 = if 0 ≤ a ∨ a % 65536 = 0 then a / 65536 else a / 65536 + 1 := by
  have h2 := Int.tdiv_eq_ediv (a := a) (b := 65536)
  have hsgn : Int.sign 65536 = 1 := rfl
  rw [hsgn] at h2
  rw [h2]
  split <;> split <;> omega
theorem ishr1 (a : Int) : ishr .i64 a 1 = a / 2 := by
  show a.fdiv (2 ^ 1) = _
  rw [Int.fdiv_eq_ediv_of_nonneg _ (by decide)]; rfl
theorem tmod_place (v n : Int) (hn : 0 < n) : (v.tmod n < 0 → v.tmod n + n = v % n) ∧ (¬ v.tmod n < 0 → v.tmod n = v % n) := by
  have h2 := Int.emod_nonneg v (Int.ne_of_gt hn)
  have h3 := Int.emod_lt_of_pos v hn
  have h4 : v.tmod n = if 0 ≤ v ∨ v % n = 0 then v % n else v % n - n := by
    rw [Int.tmod_eq_emod]
    by_cases h0 : 0 ≤ v
    · simp [h0]
    · by_cases hd : n ∣ v
      · have := Int.emod_eq_zero_of_dvd hd
        simp [h0, hd, this]
      · have : v % n ≠ 0 := fun h => hd (Int.dvd_of_emod_eq_zero h)
        simp [h0, hd, this]
        omega
  split at h4 <;> constructor <;> intro h <;> omega
end Go.Rf
