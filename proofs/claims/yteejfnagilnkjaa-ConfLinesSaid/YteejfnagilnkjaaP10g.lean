/- Typed forms of the functions that these statements reach, proved equal to what the model runs, and laws over them. -/
import Derived.Test.YteejfnagilnkjaaP10f
namespace Go.Proofs.Yteejfnagilnkjaa
open Go.Rf
set_option linter.unusedVariables false
set_option linter.unusedSimpArgs false
theorem place_spec (v n : Int) (hn : 0 < n) (hn2 : n ≤ 4611686018427387904) : law00_Place v n = some ((v % n, ()), (), ()) := by
  have h1 : ine n 0 = true := ine_true (by omega)
  have h2 := Int.emod_nonneg v (Int.ne_of_gt hn)
  have h3 := Int.emod_lt_of_pos v hn
  obtain ⟨h4, h5⟩ := tmod_place v n hn
  unfold law00_Place law00_Place.gen
  rw [h1]
  simp only [cond_true]
  by_cases hc : v.tmod n < 0
  · have e : iadd .i64 (irem v n) n = v % n := by
      have := h4 hc
      rw [iadd_of] <;> simp only [irem] <;> omega
    rw [show ilt (irem v n) 0 = true from ilt_true hc, e]; simp only [cond_true]
  · rw [show ilt (irem v n) 0 = false from ilt_false hc, show irem v n = v % n from h5 hc]; simp only [cond_false]

theorem ble_big {k : Nat} (h : k ≤ 1000000000) : Nat.ble k 9223372036854775807 = true := Nat.ble_eq_true_of_le (by omega)
theorem digB_no10 {D : List UInt8} (hD : ∀ x ∈ D, digB x) : (10 : UInt8) ∉ D := fun h => by
  have := hD 10 h
  unfold digB at this
  exact absurd this.1 (by decide)

theorem one_case (clock p : Int) (x : UInt8) (nm : List UInt8) (c' : api_Conf) (hp : 0 ≤ p) (hp2 : p < 100000000) (hx : x ≠ 35) (hx2 : x ≠ 32) (hx3 : x ≠ 10) (hn : (32 : UInt8) ∉ nm) (hn2 : (10 : UInt8) ∉ nm) (hl : nm.length < 100)
    (hf : fieldL (x :: nm) p true (defC clock) = some ((true, ()), (c', ()), ())) (hok : okC c' = true) :
    ∃ D : List UInt8, law10_dec p = some ((bs D, ()), (), ()) ∧ D.length ≤ 8 ∧ conf_Parse clock (bs ([35, 32] ++ x :: nm ++ [10] ++ x :: nm ++ [32] ++ D ++ [10])) = some ((c', (0, (0, ()))), (), ()) := by
  obtain ⟨D, h1, h2, h3, h4, h5⟩ := dec_spec hp hp2
  refine ⟨D, h1, h3, ?_⟩
  have hno := digB_no10 h4
  have ht : [35, 32] ++ x :: nm ++ [10] ++ x :: nm ++ [32] ++ D ++ [10] = (35 :: 32 :: x :: nm) ++ 10 :: ((x :: nm ++ 32 :: D) ++ 10 :: []) := by simp
  have hw1 : (10 : UInt8) ∉ 35 :: 32 :: x :: nm := by
    simp only [List.mem_cons, not_or]
    exact ⟨by decide, by decide, fun e => hx3 e.symm, hn2⟩
  have hw2 : (10 : UInt8) ∉ x :: nm ++ 32 :: D := by
    simp only [List.mem_append, List.mem_cons, not_or]
    exact ⟨⟨fun e => hx3 e.symm, hn2⟩, by decide, hno⟩
  have hl1 : lineV (35 :: 32 :: x :: nm) (defC clock) = (true, defC clock) := lineV_of (line_hash _ _)
  have hl2 : lineV (x :: nm ++ 32 :: D) (defC clock) = (true, c') := lineV_of (by rw [line_nv x nm D (defC clock) hx hx2 hn (by omega) h2 (by omega) h4, h5]; exact hf)
  have hl3 : lineV [] c' = (true, c') := lineV_of (line_nil _)
  have hr : runL ([35, 32] ++ x :: nm ++ [10] ++ x :: nm ++ [32] ++ D ++ [10]) [] 1 (defC clock) = (c', 0, 0) := by
    rw [ht, runL_line _ hw1, hl1, if_pos rfl, runL_line _ hw2, hl2, if_pos rfl, runL_end [] (by simp)]
    unfold finL
    rw [hl3, if_pos rfl, if_pos hok]
  rw [parse_spec _ clock (by simp; omega), hr]

theorem law10_ConfOne.law : ∀ (clock which v : Int), (Lit.int .u64 clock).wf = true → (Lit.int .i64 which).wf = true → (Lit.int .i64 v).wf = true → law10_ConfOne clock which v = some ((true, ()), (), ()) := by
  intro clock which v _ _ _
  unfold law10_ConfOne law10_ConfOne.gen
  rw [def_eq]
  simp only [oelim_some, check_eq]
  by_cases hd : okC (defC clock) = true
  · rw [hd]
    simp only [cond_true, ine_self, cond_false]
    rw [place_spec which 4 (by decide) (by decide), oelim_some]
    have hw0 : 0 ≤ which % 4 := by omega
    have hw1 : which % 4 < 4 := by omega
    generalize which % 4 = w at *
    have hd' := hd
    unfold okC at hd'
    simp only [Bool.and_eq_true] at hd'
    have hcase : w = 0 ∨ w = 1 ∨ w = 2 ∨ w = 3 := by omega
    rcases hcase with rfl | rfl | rfl | rfl
    · rw [show ieq 0 0 = true from rfl]
      simp only [cond_true]
      rw [place_spec v 256 (by decide) (by decide), oelim_some]
      have hp0 : 0 ≤ v % 256 := by omega
      have hp1 : v % 256 < 256 := by omega
      generalize v % 256 = p at *
      obtain ⟨D, g1, g2, g3⟩ := one_case clock p 112 [114, 105, 111, 114, 105, 116, 121, 49] (api_Conf.mk clock 1 0 p 128 (api_Quality.mk 248 254 65535) false 1 0 0 3 false false 5 700 300 20000 (api_Times.mk 37 8 160) false) hp0 (by omega) (by decide) (by decide) (by decide) (by decide) (by decide) (by decide) (by kernel_rfl) (by
        unfold okC
        simp only [Bool.and_eq_true]
        exact ⟨hd'.1, hd'.2.1, outB_iff.2 ⟨by omega, by show p ≤ 255; omega⟩, hd'.2.2.2⟩)
      simp only [g1, oelim_some, lnil, bs_append, bs_size, List.length_append, List.length_cons, List.length_nil]
      rw [ble_big (by omega), ble_big (by omega)]
      simp only [cond_true]
      rw [g3]
      simp only [oelim_some, ieq_self, cond_true, defC, beq_self_eq_true, awake_true]
    · rw [show ieq 1 0 = false from rfl, show ieq 1 1 = true from rfl]
      simp only [cond_true, cond_false]
      rw [place_spec v 256 (by decide) (by decide), oelim_some]
      have hp0 : 0 ≤ v % 256 := by omega
      have hp1 : v % 256 < 256 := by omega
      generalize v % 256 = p at *
      obtain ⟨D, g1, g2, g3⟩ := one_case clock p 112 [114, 105, 111, 114, 105, 116, 121, 50] (api_Conf.mk clock 1 0 128 p (api_Quality.mk 248 254 65535) false 1 0 0 3 false false 5 700 300 20000 (api_Times.mk 37 8 160) false) hp0 (by omega) (by decide) (by decide) (by decide) (by decide) (by decide) (by decide) (by kernel_rfl) (by
        unfold okC
        simp only [Bool.and_eq_true]
        exact ⟨hd'.1, hd'.2.1, hd'.2.2.1, outB_iff.2 ⟨by omega, by show p ≤ 255; omega⟩, hd'.2.2.2.2⟩)
      simp only [g1, oelim_some, lnil, bs_append, bs_size, List.length_append, List.length_cons, List.length_nil]
      rw [ble_big (by omega), ble_big (by omega)]
      simp only [cond_true]
      rw [g3]
      simp only [oelim_some, ieq_self, cond_true, defC, beq_self_eq_true, awake_true]
    · rw [show ieq 2 0 = false from rfl, show ieq 2 1 = false from rfl, show ieq 2 2 = true from rfl]
      simp only [cond_true, cond_false]
      rw [place_spec v 9 (by decide) (by decide), oelim_some]
      have hp0 : 0 ≤ v % 9 := by omega
      have hp1 : v % 9 < 9 := by omega
      generalize v % 9 = p0 at *
      have e2 : iadd .i64 2 p0 = 2 + p0 := iadd_of (by omega)
      simp only [e2]
      generalize hp : 2 + p0 = p at *
      obtain ⟨D, g1, g2, g3⟩ := one_case clock p 116 [105, 109, 101, 111, 117, 116] (api_Conf.mk clock 1 0 128 128 (api_Quality.mk 248 254 65535) false 1 0 0 p false false 5 700 300 20000 (api_Times.mk 37 8 160) false) (by omega) (by omega) (by decide) (by decide) (by decide) (by decide) (by decide) (by decide) (by kernel_rfl) (by
        unfold okC
        simp only [Bool.and_eq_true]
        exact ⟨hd'.1, hd'.2.1, hd'.2.2.1, hd'.2.2.2.1, hd'.2.2.2.2.1, hd'.2.2.2.2.2.1, hd'.2.2.2.2.2.2.1, outB_iff.2 ⟨by show 2 ≤ p; omega, by show p ≤ 10; omega⟩, hd'.2.2.2.2.2.2.2.2⟩)
      simp only [g1, oelim_some, lnil, bs_append, bs_size, List.length_append, List.length_cons, List.length_nil]
      rw [ble_big (by omega), ble_big (by omega)]
      simp only [cond_true]
      rw [g3]
      simp only [oelim_some, ieq_self, cond_true, defC, beq_self_eq_true, awake_true]
    · rw [show ieq 3 0 = false from rfl, show ieq 3 1 = false from rfl, show ieq 3 2 = false from rfl]
      simp only [cond_true, cond_false]
      rw [place_spec v 1000000 (by decide) (by decide), oelim_some]
      have hp0 : 0 ≤ v % 1000000 := by omega
      have hp1 : v % 1000000 < 1000000 := by omega
      generalize v % 1000000 = p at *
      obtain ⟨D, g1, g2, g3⟩ := one_case clock p 115 [116, 101, 112] (api_Conf.mk clock 1 0 128 128 (api_Quality.mk 248 254 65535) false 1 0 0 3 false false 5 700 300 p (api_Times.mk 37 8 160) false) (by omega) (by omega) (by decide) (by decide) (by decide) (by decide) (by decide) (by decide) (by kernel_rfl) (by
        unfold okC
        simp only [Bool.and_eq_true]
        exact ⟨hd'.1, hd'.2.1, hd'.2.2.1, hd'.2.2.2.1, hd'.2.2.2.2.1, hd'.2.2.2.2.2.1, hd'.2.2.2.2.2.2.1, hd'.2.2.2.2.2.2.2.1, hd'.2.2.2.2.2.2.2.2.1, hd'.2.2.2.2.2.2.2.2.2.1, hd'.2.2.2.2.2.2.2.2.2.2.1, outB_iff.2 ⟨by show 0 ≤ p; omega, by show p ≤ 1000000000; omega⟩, hd'.2.2.2.2.2.2.2.2.2.2.2.2⟩)
      simp only [g1, oelim_some, lnil, bs_append, bs_size, List.length_append, List.length_cons, List.length_nil]
      rw [ble_big (by omega), ble_big (by omega)]
      simp only [cond_true]
      rw [g3]
      simp only [oelim_some, ieq_self, cond_true, defC, beq_self_eq_true, awake_true]
  · have : okC (defC clock) = false := by simpa using hd
    rw [this]
    simp only [cond_false]
    rw [show ine 15 0 = true from rfl]
    simp only [cond_true, awake_true, oelim_some]

end Go.Proofs.Yteejfnagilnkjaa
