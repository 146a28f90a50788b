/- Typed forms of the functions that these statements reach, proved equal to what the model runs, and laws over them. -/
import Derived.Test.YtgnabnhggaondaaGreatRfD
import Derived.Laws.BitsLemmas
namespace Go.Rf
theorem iwrap (n : Int) : IntKind.i64.wrap n = (n + 9223372036854775808) % 18446744073709551616 - 9223372036854775808 := IntKind.wrap_i64 n
theorem iadd_of {a b : Int} (h : -9223372036854775808 ≤ a + b ∧ a + b < 9223372036854775808) : iadd .i64 a b = a + b := by simp only [iadd, iwrap]; omega
theorem isub_of {a b : Int} (h : -9223372036854775808 ≤ a - b ∧ a - b < 9223372036854775808) : isub .i64 a b = a - b := by simp only [isub, iwrap]; omega
theorem imul_of {a b : Int} (h : -9223372036854775808 ≤ a * b ∧ a * b < 9223372036854775808) : imul .i64 a b = a * b := by simp only [imul, iwrap]; omega
theorem oelim_some {α ρ : Type} (x : α) (f : ρ) (k : α → ρ) : oelim (some x) f k = k x := by simp only [oelim]
theorem loopFix_rule {α β : Type} {step : α → Option (α ⊕ β)} (Inv : α → Prop) (Post : β → Prop) (m : α → Nat)
  (h : ∀ a, Inv a → (∃ a', step a = some (.inl a') ∧ Inv a' ∧ m a' < m a) ∨ (∃ b, step a = some (.inr b) ∧ Post b)) :
  ∀ (n : Nat) (a : α), Inv a → m a < n → ∃ b, Z8 n step a = some b ∧ Post b := by
 intro n
 induction n with
 | zero => intro a _ hm; omega
 | succ n ih =>
  intro a ha hm
  unfold Z8
  rcases h a ha with ⟨a', h1, h2, h3⟩ | ⟨b, h1, h2⟩
  ·rw [h1]
   exact ih a' h2 (by omega)
  ·rw [h1]
   exact ⟨b, rfl, h2⟩
end Go.Rf
