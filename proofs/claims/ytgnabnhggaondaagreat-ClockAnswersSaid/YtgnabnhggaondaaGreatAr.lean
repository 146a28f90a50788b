/- Typed forms of the functions that these statements reach, proved equal to what the model runs, and laws over them. -/
import Derived.Test.YtgnabnhggaondaaGreatRfD
import Derived.Laws.BitsLemmas
namespace Go.Rf
theorem iwrap (n : Int) : IntKind.i64.wrap n = (n + 9223372036854775808) % 18446744073709551616 - 9223372036854775808 := IntKind.wrap_i64 n
theorem iand_low (a : Int) (j : Nat) (hj : j ≤ 62) : iand .i64 a (2 ^ j - 1) = a % 2 ^ j := by
 unfold iand
 have hb : ((BitVec.ofInt IntKind.i64.bits a &&& BitVec.ofInt IntKind.i64.bits (2 ^ j - 1)).toNat : Int) = a % 2 ^ j := by
  have h1 : (BitVec.ofInt 64 (2 ^ j - 1 : Int)).toNat = 2 ^ j - 1 := by
   rw [BitVec.toNat_ofInt]
   have h2 : ((2 : Int) ^ j - 1) = ((2 ^ j - 1 : Nat) : Int) := by
    have : 1 ≤ 2 ^ j := Nat.one_le_two_pow
    rw [Int.ofNat_sub this]; simp
   rw [h2]
   have h3 : 2 ^ j - 1 < 2 ^ 64 := Nat.lt_of_lt_of_le (Nat.sub_lt (Nat.two_pow_pos j) (by decide)) (Nat.pow_le_pow_right (by decide) (by omega))
   omega
  show ((BitVec.ofInt 64 a &&& BitVec.ofInt 64 (2 ^ j - 1)).toNat : Int) = a % 2 ^ j
  rw [BitVec.toNat_and, h1, Nat.and_two_pow_sub_one_eq_mod, BitVec.toNat_ofInt]
  have h4 : ((a % ((2 ^ 64 : Nat) : Int)).toNat : Int) = a % ((2 ^ 64 : Nat) : Int) := Int.toNat_of_nonneg (Int.emod_nonneg _ (by decide))
  rw [Int.natCast_emod, h4]
  have h5 : ((2 ^ j : Nat) : Int) = 2 ^ j := by simp
  rw [h5]
  refine Int.emod_emod_of_dvd a ?_
  have : ((2 ^ 64 : Nat) : Int) = 2 ^ j * 2 ^ (64 - j) := by
   rw [← Int.pow_add]
   rw [show j + (64 - j) = 64 by omega]; rfl
  rw [this]
  exact ⟨_, rfl⟩
 rw [hb, iwrap]
 have h6 : 0 ≤ a % 2 ^ j := Int.emod_nonneg _ (by have := Int.pow_pos (n := 2) (m := j) (by decide); omega)
 have h7 : a % 2 ^ j < 2 ^ j := Int.emod_lt_of_pos _ (Int.pow_pos (by decide))
 have h8 : (2 : Int) ^ j ≤ 2 ^ 62 := by
  have : (2 : Nat) ^ j ≤ 2 ^ 62 := Nat.pow_le_pow_right (by decide) hj
  exact_mod_cast this
 omega
theorem iand_65535 (a : Int) : iand .i64 a 65535 = a % 65536 := iand_low a 16 (by decide)
theorem iadd_of {a b : Int} (h : -9223372036854775808 ≤ a + b ∧ a + b < 9223372036854775808) : iadd .i64 a b = a + b := by simp only [iadd, iwrap]; omega
theorem isub_of {a b : Int} (h : -9223372036854775808 ≤ a - b ∧ a - b < 9223372036854775808) : isub .i64 a b = a - b := by simp only [isub, iwrap]; omega
theorem imul_of {a b : Int} (h : -9223372036854775808 ≤ a * b ∧ a * b < 9223372036854775808) : imul .i64 a b = a * b := by simp only [imul, iwrap]; omega
theorem oelim_some {α ρ : Type} (x : α) (f : ρ) (k : α → ρ) : oelim (some x) f k = k x := by simp only [oelim]
theorem loopFix_rule {α β : Type} {step : α → Option (α ⊕ β)} (Inv : α → Prop) (Post : β → Prop) (m : α → Nat)
  (h : ∀ a, Inv a → (∃ a', step a = some (.inl a') ∧ Inv a' ∧ m a' < m a) ∨ (∃ b, step a = some (.inr b) ∧ Post b)) :
  ∀ (n : Nat) (a : α), Inv a → m a < n → ∃ b, loopFix n step a = some b ∧ Post b := by
 intro n
 induction n with
 | zero => intro a _ hm; omega
 | succ n ih =>
  intro a ha hm
  unfold loopFix
  rcases h a ha with ⟨a', h1, h2, h3⟩ | ⟨b, h1, h2⟩
  ·rw [h1]
   exact ih a' h2 (by omega)
  ·rw [h1]
   exact ⟨b, rfl, h2⟩
end Go.Rf
