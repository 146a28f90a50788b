/- Typed forms of the functions that these statements reach, proved equal to what the model runs, and laws over them. -/
import Derived.Test.YteejfnagilnkjaaP10c
namespace Go.Proofs.Yteejfnagilnkjaa
open Go.Rf
set_option linter.unusedVariables false
set_option linter.unusedSimpArgs false
/-! ### numbers -/
def tr : List UInt8 → List UInt8
  | [] => []
  | x :: r => if x = 45 then r else x :: r
theorem le3_of {a b : Int} {c : Nat} (h1 : 0 ≤ a) (h2 : a ≤ b) (h3 : b ≤ (c : Int)) : le3 a b c = true := by
  unfold le3
  rw [ile_true h1, ile_true h2, ile_true h3]; rfl
theorem trim_spec (l : List UInt8) : strings_TrimPrefix (bs l) (bs [45]) = some ((bs (tr l), ()), (), ()) := by
  have hp : internal_stringslite_HasPrefix (bs l) (bs [45]) = some ((decide (l.head? = some 45), ()), (), ()) := by
    unfold internal_stringslite_HasPrefix internal_stringslite_HasPrefix.gen
    cases l with
    | nil => rfl
    | cons x r =>
      simp only [bs_size, bs_extract, bs_toList, List.length_cons, List.length_nil]
      rw [ile_true (show ofN (0 + 1) ≤ ofN (r.length + 1) by show ((1 : Nat) : Int) ≤ ((r.length + 1 : Nat) : Int); omega), le3_of (show 0 ≤ ofN 0 by decide) (show ofN 0 ≤ ofN (0 + 1) by decide) (show ofN (0 + 1) ≤ ((r.length + 1 : Nat) : Int) by show ((1 : Nat) : Int) ≤ _; omega)]
      simp only [cond_true]
      rw [show (ofN (0 + 1)).toNat = 1 from rfl, show (ofN 0).toNat = 0 from rfl]
      by_cases hx : x = 45
      · subst hx; simp
      · simp [hx]
  unfold strings_TrimPrefix strings_TrimPrefix.gen internal_stringslite_TrimPrefix internal_stringslite_TrimPrefix.gen
  rw [hp]
  simp only [oelim_some]
  cases l with
  | nil => rfl
  | cons x r =>
    by_cases hx : x = 45
    · subst hx
      simp only [List.head?_cons, decide_true, cond_true, bs_size, bs_extract, List.length_cons, List.length_nil]
      rw [le3_of (show 0 ≤ ofN (0 + 1) by decide) (show ofN (0 + 1) ≤ ofN (r.length + 1) by show ((1 : Nat) : Int) ≤ ((r.length + 1 : Nat) : Int); omega) (show ofN (r.length + 1) ≤ ((r.length + 1 : Nat) : Int) from Int.le_refl _)]
      simp only [cond_true, oelim_some]
      rw [show (ofN (0 + 1)).toNat = 1 from rfl, show (ofN (r.length + 1)).toNat = r.length + 1 from rfl]
      simp [tr]
    · have : decide ((x :: r).head? = some 45) = false := by simp [hx]
      simp only [this, cond_false, oelim_some, tr, if_neg hx]

def valI (D : List UInt8) : Nat → Int
  | 0 => 0
  | i + 1 => 10 * valI D i + ((D.getD i 0).toNat - 48 : Int)
def digB (x : UInt8) : Prop := 48 ≤ x.toNat ∧ x.toNat ≤ 57
theorem valI_r (D : List UInt8) (hD : ∀ x ∈ D, digB x) : ∀ i, i ≤ D.length → 0 ≤ valI D i ∧ valI D i < 10 ^ i
  | 0, _ => by simp [valI]
  | i + 1, h => by
    have ih := valI_r D hD i (by omega)
    have hx := hD D[i] (List.getElem_mem _)
    unfold digB at hx
    have e : D.getD i 0 = D[i] := getD_at (by omega)
    unfold valI
    rw [e]
    have : (10 : Int) ^ (i + 1) = 10 * 10 ^ i := by rw [Int.pow_succ]; omega
    rw [this]
    omega
theorem pow10 {i : Nat} (h : i ≤ 10) : (10 : Int) ^ i ≤ 10000000000 := by
  have : i = 0 ∨ i = 1 ∨ i = 2 ∨ i = 3 ∨ i = 4 ∨ i = 5 ∨ i = 6 ∨ i = 7 ∨ i = 8 ∨ i = 9 ∨ i = 10 := by omega
  rcases this with rfl | rfl | rfl | rfl | rfl | rfl | rfl | rfl | rfl | rfl | rfl <;> decide
theorem valI_pre (D E : List UInt8) : ∀ i, i ≤ D.length → valI (D ++ E) i = valI D i
  | 0, _ => rfl
  | i + 1, h => by
    unfold valI
    rw [valI_pre D E i (by omega)]
    have : (D ++ E).getD i 0 = D.getD i 0 := by
      rw [getD_at (by rw [List.length_append]; omega), getD_at (by omega), List.getElem_append_left]
    rw [this]

theorem i32_small {n : Int} (h0 : 0 ≤ n) (h1 : n < 1000000000) : isub .i32 (n + 48) 48 = n := by
  simp [isub, IntKind.wrap, IntKind.signed, IntKind.bits]; omega
theorem i64_small {n : Int} (h0 : -9223372036854775808 ≤ n) (h1 : n < 9223372036854775808) : IntKind.i64.wrap n = n := by rw [iwrap]; omega

theorem num_digits (D : List UInt8) (h1 : 1 ≤ D.length) (h10 : D.length ≤ 10) (hD : ∀ x ∈ D, digB x) : conf_number (bs D) = some ((valI D D.length, (true, ())), (), ()) := by
  have htr : tr D = D := by
    cases D with
    | nil => rfl
    | cons x r =>
      have := hD x (by simp)
      unfold digB at this
      have : x ≠ 45 := fun e => by subst e; exact absurd this.1 (by decide)
      simp [tr, this]
  have hF : conf_number.F0 ((bs D, bs D, 0, ()), (bs D, 0), ()) = some (.inl ((bs D, bs D, valI D D.length, ()), ())) := by
    unfold conf_number.F0
    refine loop_to (step := conf_number.step0 strings_TrimPrefix) (fun i => ((bs D, bs D, valI D i, ()), (bs D, i), ())) D.length _ (by simp only [bs_size]; omega) (fun i hi => ?_) ?_
    · unfold conf_number.step0
      have hx := hD D[i] (List.getElem_mem _)
      unfold digB at hx
      have hr := valI_r D hD i (by omega)
      have hp := pow10 (show i ≤ 10 by omega)
      have hb : Nat.blt i D.length = true := Nat.ble_eq_true_of_le hi
      have e : D.getD i 0 = D[i] := getD_at hi
      obtain ⟨n, hn⟩ : ∃ n : Nat, D[i].toNat = n + 48 := ⟨D[i].toNat - 48, by omega⟩
      simp only [bs_size, hb, cond_true, dec_ascii D i hi (by omega)]
      rw [hn, ilt_false (show ¬ ofN (n + 48) < 48 by show ¬ ((n + 48 : Nat) : Int) < 48; omega), ilt_false (show ¬ 57 < ofN (n + 48) by show ¬ 57 < ((n + 48 : Nat) : Int); omega)]
      simp only [cond_false, oelim_some]
      have e1 : isub .i32 (ofN (n + 48)) 48 = (n : Int) := i32_small (n := (n : Int)) (by omega) (by omega)
      rw [e1, i64_small (by omega) (by omega), imul_of (by omega), iadd_of (by omega), valI, e, hn]
      have : ((n + 48 : Nat) : Int) - 48 = (n : Int) := by omega
      rw [this]
    · unfold conf_number.step0
      have hb : Nat.blt D.length D.length = false := by
        cases h : Nat.blt D.length D.length with
        | false => rfl
        | true => exact absurd (Nat.le_of_ble_eq_true h) (by omega)
      simp only [bs_size, hb, cond_false]
  unfold conf_number conf_number.gen
  have ht := trim_spec D
  rw [htr] at ht
  rw [show (ByteArray.mk ((45 : UInt8) :: lnil UInt8).toArray) = bs [45] from rfl, ht]
  simp only [oelim_some, bs_size]
  rw [ilt_false (show ¬ ofN D.length < 1 by show ¬ (D.length : Int) < 1; omega), ilt_false (show ¬ 10 < ofN D.length by show ¬ 10 < (D.length : Int); omega)]
  simp only [cond_false, oelim_some, hF, selim, bs_size]
  rw [ilt_false (show ¬ ofN D.length < ofN D.length from Int.lt_irrefl _)]
  rfl

theorem num_total (l : List UInt8) : ∃ n b, conf_number (bs l) = some ((n, (b, ())), (), ()) := by
  unfold conf_number conf_number.gen
  rw [show (ByteArray.mk ((45 : UInt8) :: lnil UInt8).toArray) = bs [45] from rfl, trim_spec]
  simp only [oelim_some, bs_size, chkT]
  generalize (bif ilt (ofN (tr l).length) 1 then true else ilt 10 (ofN (tr l).length)) = z
  cases z with
  | true => exact ⟨_, _, rfl⟩
  | false =>
    simp only [cond_false]
    obtain ⟨r, hr, _⟩ := loopFix_rule (step := conf_number.step0 strings_TrimPrefix) (Inv := fun a => a.2.1.1 = bs (tr l)) (Post := fun _ => True) (m := fun a => (tr l).length - a.2.1.2) (by
      rintro ⟨⟨a1, a2, a3, ⟨⟩⟩, ⟨t, pos⟩, ⟨⟩⟩ ht
      have ht : t = bs (tr l) := ht
      subst ht
      unfold conf_number.step0
      simp only [bs_size]
      cases hb : Nat.blt pos (tr l).length with
      | false => exact .inr ⟨_, rfl, trivial⟩
      | true =>
        have hlt : pos < (tr l).length := Nat.le_of_ble_eq_true hb
        have hd := dec_any (tr l) pos hlt
        simp only [cond_true, chkT]
        generalize (bif ilt (ofN (Utf8.decode (bs (tr l)) pos).1) 48 then true else ilt 57 (ofN (Utf8.decode (bs (tr l)) pos).1)) = z
        cases z with
        | true => exact .inr ⟨_, rfl, trivial⟩
        | false => exact .inl ⟨_, rfl, rfl, by simp only; omega⟩) (1000000 + ((bs (tr l)).size + (bs l).size + (bs (tr l)).size)) ((bs l, bs (tr l), 0, ()), (bs (tr l), 0), ()) rfl (by simp only [bs_size]; omega)
    have hF : conf_number.F0 ((bs l, bs (tr l), 0, ()), (bs (tr l), 0), ()) = some r := hr
    simp only [hF, oelim_some]
    cases r with
    | inl x =>
      simp only [selim]
      generalize ilt (ofN x.1.2.1.size) (ofN x.1.1.size) = z
      cases z <;> exact ⟨_, _, rfl⟩
    | inr x => exact ⟨_, _, rfl⟩

end Go.Proofs.Yteejfnagilnkjaa
