/- Typed forms of the functions that these statements reach, proved equal to what the model runs, and laws over them. -/
import Derived.Test.YteejfnagilnkjaaP10b
import Derived.Laws.RangeString
import Derived.Lib.SmallJoins
namespace Go.Proofs.Yteejfnagilnkjaa
open Go.Rf
set_option linter.unusedVariables false
set_option linter.unusedSimpArgs false
/-! ### texts as lists -/
abbrev bs (l : List UInt8) : ByteArray := ByteArray.mk l.toArray
theorem bs_size (l : List UInt8) : (bs l).size = l.length := by show l.toArray.size = _; simp
theorem bs_data (l : List UInt8) : (bs l).data.toList = l := by show l.toArray.toList = l; simp
theorem bs_toList (l : List UInt8) : (bs l).toList = l := by rw [ByteArray.toList_eq, bs_data]
theorem bs_eta (s : ByteArray) : bs s.data.toList = s := by cases s; simp [bs]
theorem bs_ext {s t : ByteArray} (h : s.data.toList = t.data.toList) : s = t := by rw [← bs_eta s, ← bs_eta t, h]
theorem bs_extract (l : List UInt8) (a b : Nat) : (bs l).extract a b = bs ((l.take b).drop a) := by
  apply bs_ext
  rw [ByteArray.data_extract, bs_data]
  simp [List.drop_take]
theorem ByteArray_data_append (a b : ByteArray) : (a ++ b).data.toList = a.data.toList ++ b.data.toList := by
  rw [ByteArray.data_append]; simp
theorem bs_append (a b : List UInt8) : bs a ++ bs b = bs (a ++ b) := by
  apply bs_ext
  exact (ByteArray_data_append _ _).trans (by rw [bs_data, bs_data, bs_data])
theorem dec_get (l : List UInt8) (k : Nat) (h : k < l.length) : (bs l).get! k = l[k] := by
  show (bs l).data[k]! = _
  simp [bs, getElem!_pos, h]

theorem dec_ascii (l : List UInt8) (p : Nat) (h : p < l.length) (ha : l[p].toNat < 128) : Utf8.decode (bs l) p = (l[p].toNat, 1) := by
  have := decode_ascii (bs l) p (by rw [bs_size]; exact h) (by show (l.toArray[p]'_).toNat < 128; simpa using ha)
  rw [this]
  show ((l.toArray[p]'_).toNat, 1) = _
  simp
/-- a letter is read: how far it goes; none but the first of its bytes ends a line -/
theorem dec_any (l : List UInt8) (p : Nat) (h : p < l.length) : 1 ≤ (Utf8.decode (bs l) p).2 ∧ p + (Utf8.decode (bs l) p).2 ≤ l.length ∧ ((Utf8.decode (bs l) p).1 = 10 ↔ l[p] = 10) ∧ (Utf8.decode (bs l) p).1 < 1114112 ∧
    ∀ j (hj : p + j < l.length), 1 ≤ j → j < (Utf8.decode (bs l) p).2 → l[p + j] ≠ 10 := by
  have h0 : ((bs l).get! (p + 0)).toNat = l[p].toNat := by rw [Nat.add_zero, dec_get l _ h]
  have hten : l[p] = 10 ↔ l[p].toNat = 10 := ⟨fun e => by rw [e]; rfl, fun e => UInt8.toNat_inj.1 e⟩
  have hlt := UInt8.toNat_lt l[p]
  have key : ∀ j, ((bs l).get! (p + j)).toNat / 64 = 2 → ∀ (hj : p + j < l.length), l[p + j] ≠ 10 := fun j e hj e2 => by
    rw [dec_get l _ hj, e2] at e
    exact absurd e (by decide)
  unfold Utf8.decode
  simp only [h0, bs_size]
  by_cases h1 : l[p].toNat < 128
  · rw [if_pos h1]
    exact ⟨Nat.le_refl 1, by show p + 1 ≤ _; omega, hten.symm, by show l[p].toNat < _; omega, fun j _ h2 h3 => by have : j < 1 := h3; omega⟩
  · rw [if_neg h1]
    have hne : ¬ l[p] = 10 := fun e => by rw [hten] at e; omega
    have bad : 1 ≤ (Utf8.runeError, 1).2 ∧ p + (Utf8.runeError, 1).2 ≤ l.length ∧ ((Utf8.runeError, 1).1 = 10 ↔ l[p] = 10) ∧ (Utf8.runeError, 1).1 < 1114112 ∧ ∀ j (hj : p + j < l.length), 1 ≤ j → j < (Utf8.runeError, 1).2 → l[p + j] ≠ 10 :=
      ⟨by decide, by show p + 1 ≤ _; omega, ⟨fun h => absurd h (by decide), fun h => absurd h hne⟩, by decide, fun j _ h2 h3 => by have : j < 1 := h3; omega⟩
    split
    · rename_i hc
      simp only [Bool.and_eq_true, decide_eq_true_eq, beq_iff_eq] at hc
      split
      · rename_i hr
        refine ⟨by show 1 ≤ 2; decide, by show p + 2 ≤ _; omega, ⟨fun h => ?_, fun h => absurd h hne⟩, ?_, fun j hj h2 h3 => ?_⟩
        · have h : l[p].toNat % 32 * 64 + ((bs l).get! (p + 1)).toNat % 64 = 10 := h
          omega
        · show l[p].toNat % 32 * 64 + ((bs l).get! (p + 1)).toNat % 64 < 1114112
          omega
        · have h3 : j < 2 := h3
          have : j = 1 := by omega
          subst this
          exact key 1 hc.2.2 hj
      · exact bad
    · split
      · rename_i hc
        simp only [Bool.and_eq_true, decide_eq_true_eq, beq_iff_eq] at hc
        split
        · rename_i hr
          simp only [Bool.and_eq_true, decide_eq_true_eq] at hr
          refine ⟨by show 1 ≤ 3; decide, by show p + 3 ≤ _; omega, ⟨fun h => ?_, fun h => absurd h hne⟩, ?_, fun j hj h2 h3 => ?_⟩
          · have h : l[p].toNat % 16 * 4096 + ((bs l).get! (p + 1)).toNat % 64 * 64 + ((bs l).get! (p + 2)).toNat % 64 = 10 := h
            omega
          · show l[p].toNat % 16 * 4096 + ((bs l).get! (p + 1)).toNat % 64 * 64 + ((bs l).get! (p + 2)).toNat % 64 < 1114112
            omega
          · have h3 : j < 3 := h3
            have : j = 1 ∨ j = 2 := by omega
            rcases this with rfl | rfl
            · exact key 1 hc.1.2.2 hj
            · exact key 2 hc.2.2 hj
        · exact bad
      · split
        · rename_i hc
          simp only [Bool.and_eq_true, decide_eq_true_eq, beq_iff_eq] at hc
          split
          · rename_i hr
            simp only [Bool.and_eq_true, decide_eq_true_eq] at hr
            refine ⟨by show 1 ≤ 4; decide, by show p + 4 ≤ _; omega, ⟨fun h => ?_, fun h => absurd h hne⟩, ?_, fun j hj h2 h3 => ?_⟩
            · have h : l[p].toNat % 8 * 262144 + ((bs l).get! (p + 1)).toNat % 64 * 4096 + ((bs l).get! (p + 2)).toNat % 64 * 64 + ((bs l).get! (p + 3)).toNat % 64 = 10 := h
              omega
            · have hv := hr.2
              have : Utf8.valid (l[p].toNat % 8 * 262144 + ((bs l).get! (p + 1)).toNat % 64 * 4096 + ((bs l).get! (p + 2)).toNat % 64 * 64 + ((bs l).get! (p + 3)).toNat % 64) = true := hv
              show l[p].toNat % 8 * 262144 + ((bs l).get! (p + 1)).toNat % 64 * 4096 + ((bs l).get! (p + 2)).toNat % 64 * 64 + ((bs l).get! (p + 3)).toNat % 64 < 1114112
              simp [Utf8.valid] at this
              omega
            · have h3 : j < 4 := h3
              have : j = 1 ∨ j = 2 ∨ j = 3 := by omega
              rcases this with rfl | rfl | rfl
              · exact key 1 hc.1.1.2.2 hj
              · exact key 2 hc.1.2.2 hj
              · exact key 3 hc.2.2 hj
          · exact bad
        · exact bad

end Go.Proofs.Yteejfnagilnkjaa
