/- Typed forms of the functions that these statements reach, proved equal to what the model runs, and laws over them. -/
import Derived.Test.YteejfnagilnkjaaP10e
namespace Go.Proofs.Yteejfnagilnkjaa
open Go.Rf
set_option linter.unusedVariables false
set_option linter.unusedSimpArgs false
/-! ### digits -/
def decS : ByteArray := ByteArray.mk ((48 : UInt8) :: (49 : UInt8) :: (50 : UInt8) :: (51 : UInt8) :: (52 : UInt8) :: (53 : UInt8) :: (54 : UInt8) :: (55 : UInt8) :: (56 : UInt8) :: (57 : UInt8) :: lnil UInt8).toArray
theorem dig_ext {v : Int} (h0 : 0 ≤ v) (h1 : v < 10) : le3 v (iadd .i64 v 1) decS.size = true ∧ ∃ x, decS.extract v.toNat (iadd .i64 v 1).toNat = bs [x] ∧ digB x ∧ (x.toNat : Int) - 48 = v := by
  have e : iadd .i64 v 1 = v + 1 := iadd_of (by omega)
  have hs : decS.size = 10 := rfl
  refine ⟨by rw [e, hs]; exact le3_of h0 (by omega) (by omega), ?_⟩
  rw [e]
  have hd : ∀ n : Nat, n < 10 → ∃ x, decS.extract n (n + 1) = bs [x] ∧ digB x ∧ (x.toNat : Int) - 48 = n := by
    intro n hn
    have : n = 0 ∨ n = 1 ∨ n = 2 ∨ n = 3 ∨ n = 4 ∨ n = 5 ∨ n = 6 ∨ n = 7 ∨ n = 8 ∨ n = 9 := by omega
    rcases this with rfl | rfl | rfl | rfl | rfl | rfl | rfl | rfl | rfl | rfl
    · exact ⟨48, by rw [show decS = bs [48, 49, 50, 51, 52, 53, 54, 55, 56, 57] from rfl, bs_extract]; rfl, by unfold digB; decide, rfl⟩
    · exact ⟨49, by rw [show decS = bs [48, 49, 50, 51, 52, 53, 54, 55, 56, 57] from rfl, bs_extract]; rfl, by unfold digB; decide, rfl⟩
    · exact ⟨50, by rw [show decS = bs [48, 49, 50, 51, 52, 53, 54, 55, 56, 57] from rfl, bs_extract]; rfl, by unfold digB; decide, rfl⟩
    · exact ⟨51, by rw [show decS = bs [48, 49, 50, 51, 52, 53, 54, 55, 56, 57] from rfl, bs_extract]; rfl, by unfold digB; decide, rfl⟩
    · exact ⟨52, by rw [show decS = bs [48, 49, 50, 51, 52, 53, 54, 55, 56, 57] from rfl, bs_extract]; rfl, by unfold digB; decide, rfl⟩
    · exact ⟨53, by rw [show decS = bs [48, 49, 50, 51, 52, 53, 54, 55, 56, 57] from rfl, bs_extract]; rfl, by unfold digB; decide, rfl⟩
    · exact ⟨54, by rw [show decS = bs [48, 49, 50, 51, 52, 53, 54, 55, 56, 57] from rfl, bs_extract]; rfl, by unfold digB; decide, rfl⟩
    · exact ⟨55, by rw [show decS = bs [48, 49, 50, 51, 52, 53, 54, 55, 56, 57] from rfl, bs_extract]; rfl, by unfold digB; decide, rfl⟩
    · exact ⟨56, by rw [show decS = bs [48, 49, 50, 51, 52, 53, 54, 55, 56, 57] from rfl, bs_extract]; rfl, by unfold digB; decide, rfl⟩
    · exact ⟨57, by rw [show decS = bs [48, 49, 50, 51, 52, 53, 54, 55, 56, 57] from rfl, bs_extract]; rfl, by unfold digB; decide, rfl⟩
  obtain ⟨x, h2, h3, h4⟩ := hd v.toNat (by omega)
  refine ⟨x, ?_, h3, by omega⟩
  rw [show (v + 1).toNat = v.toNat + 1 by omega]
  exact h2

theorem dec_gen (f : law10_dec.T) (v : Int) : law10_dec.gen f v = (bif ilt v 10 then (bif le3 v (iadd .i64 v 1) decS.size then some ((decS.extract v.toNat (iadd .i64 v 1).toNat, ()), (), ()) else none)
    else oelim (f (iquo .i64 v 10)) none fun r => bif le3 (irem v 10) (iadd .i64 (irem v 10) 1) decS.size then (bif Nat.ble (r.1.1.size + (decS.extract (irem v 10).toNat (iadd .i64 (irem v 10) 1).toNat).size) 9223372036854775807 then some ((r.1.1 ++ decS.extract (irem v 10).toNat (iadd .i64 (irem v 10) 1).toNat, ()), (), ()) else none) else none) := rfl

theorem decN_spec : ∀ (k : Nat) (v : Int), k ≤ 9 → 0 ≤ v → v < 10 ^ (k + 1) → ∃ D : List UInt8, law10_decN (k + 1) v = some ((bs D, ()), (), ()) ∧ 1 ≤ D.length ∧ D.length ≤ k + 1 ∧ (∀ x ∈ D, digB x) ∧ valI D D.length = v := by
  have small : ∀ (f : law10_dec.T) (v : Int), 0 ≤ v → v < 10 → ∃ D : List UInt8, law10_dec.gen f v = some ((bs D, ()), (), ()) ∧ D.length = 1 ∧ (∀ x ∈ D, digB x) ∧ valI D D.length = v := by
    intro f v h0 h1
    obtain ⟨g1, x, g2, g3, g4⟩ := dig_ext h0 h1
    refine ⟨[x], ?_, rfl, fun y hy => by simp at hy; subst hy; exact g3, ?_⟩
    · rw [dec_gen, ilt_true h1, g1, g2]; rfl
    · show 10 * valI [x] 0 + (([x].getD 0 0).toNat - 48 : Int) = v
      show 10 * 0 + ((x.toNat : Int) - 48) = v
      omega
  intro k
  induction k with
  | zero =>
    intro v _ h0 h1
    obtain ⟨D, g1, g2, g3, g4⟩ := small (law10_decN 0) v h0 (by simpa using h1)
    exact ⟨D, g1, by omega, by omega, g3, g4⟩
  | succ k ih =>
    intro v hk h0 h1
    by_cases hv : v < 10
    · obtain ⟨D, g1, g2, g3, g4⟩ := small (law10_decN (k + 1)) v h0 hv
      exact ⟨D, g1, by omega, by omega, g3, g4⟩
    · have hq : iquo .i64 v 10 = v / 10 := by
        have hb := pow10 (show k + 2 ≤ 10 + 1 - 0 - 1 + 0 by omega)
        unfold iquo
        rw [Int.tdiv_eq_ediv_of_nonneg h0, iwrap]
        have : v < 10000000000 := by
          have := pow10 (show k + 1 + 1 ≤ 10 by omega)
          omega
        omega
      have hr : irem v 10 = v % 10 := by unfold irem; rw [Int.tmod_eq_emod_of_nonneg h0]
      obtain ⟨D, g1, g2, g3, g4, g5⟩ := ih (v / 10) (by omega) (by omega) (by
        have : (10 : Int) ^ (k + 1 + 1) = 10 * 10 ^ (k + 1) := by rw [Int.pow_succ]; omega
        omega)
      obtain ⟨m1, x, m2, m3, m4⟩ := dig_ext (v := v % 10) (by omega) (by omega)
      refine ⟨D ++ [x], ?_, by simp, by simp; omega, fun y hy => ?_, ?_⟩
      · show law10_dec.gen (law10_decN (k + 1)) v = _
        rw [dec_gen, ilt_false hv, hq, g1, hr, m1, m2]
        simp only [cond_false, cond_true, oelim_some, bs_size, bs_append]
        rw [show Nat.ble (D.length + [x].length) 9223372036854775807 = true from Nat.ble_eq_true_of_le (by simp; omega)]
        rfl
      · rcases List.mem_append.1 hy with hy | hy
        · exact g4 y hy
        · simp at hy; subst hy; exact m3
      · rw [List.length_append, List.length_singleton, valI, valI_pre D [x] _ (Nat.le_refl _), g5]
        have : (D ++ [x]).getD D.length 0 = x := by rw [getD_at (by simp)]; simp
        rw [this]; omega

theorem dec_spec {v : Int} (h0 : 0 ≤ v) (h1 : v < 100000000) : ∃ D : List UInt8, law10_dec v = some ((bs D, ()), (), ()) ∧ 1 ≤ D.length ∧ D.length ≤ 8 ∧ (∀ x ∈ D, digB x) ∧ valI D D.length = v := decN_spec 7 v (by decide) h0 (by show v < 10 ^ 8; exact h1)

/-! ### Parse -/
def finL (cur : List UInt8) (at_ : Int) (c : api_Conf) : api_Conf × Int × Int :=
  if (lineV cur c).1 = true then (if okC (lineV cur c).2 = true then ((lineV cur c).2, 0, 0) else (api_Conf.zero, 0, 15)) else (api_Conf.zero, at_, 4)
def runL : List UInt8 → List UInt8 → Int → api_Conf → api_Conf × Int × Int
  | [], cur, a, c => finL cur a c
  | x :: r, cur, a, c => if x = 10 then (if (lineV cur c).1 = true then runL r [] (a + 1) (lineV cur c).2 else (api_Conf.zero, a, 4)) else runL r (cur ++ [x]) a c
theorem runL_skip (w : List UInt8) (hw : (10 : UInt8) ∉ w) : ∀ (r cur : List UInt8) (a : Int) (c : api_Conf), runL (w ++ r) cur a c = runL r (cur ++ w) a c := by
  induction w with
  | nil => intro r cur a c; simp
  | cons x w ih =>
    intro r cur a c
    simp only [List.mem_cons, not_or] at hw
    show runL (x :: (w ++ r)) cur a c = _
    rw [runL, if_neg (fun e => hw.1 e.symm), ih hw.2, List.append_assoc]; rfl
/-- one line more -/
theorem runL_line (w : List UInt8) (hw : (10 : UInt8) ∉ w) (r : List UInt8) (a : Int) (c : api_Conf) : runL (w ++ 10 :: r) [] a c = if (lineV w c).1 = true then runL r [] (a + 1) (lineV w c).2 else (api_Conf.zero, a, 4) := by
  rw [runL_skip w hw, List.nil_append, runL, if_pos rfl]
theorem runL_end (w : List UInt8) (hw : (10 : UInt8) ∉ w) (a : Int) (c : api_Conf) : runL w [] a c = finL w a c := by
  have := runL_skip w hw [] [] a c
  rw [List.append_nil, List.nil_append] at this
  rw [this, runL]

def defC (clock : Int) : api_Conf := api_Conf.mk clock 1 0 128 128 (api_Quality.mk 248 254 65535) false 1 0 0 3 false false 5 700 300 20000 (api_Times.mk 37 8 160) false
theorem def_eq (clock : Int) : conf_Default clock = some ((defC clock, ()), (), ()) := rfl

theorem parse_spec (L : List UInt8) (clock : Int) (hL : L.length < 4611686018427387000) : conf_Parse clock (bs L) = some (((runL L [] 1 (defC clock)).1, ((runL L [] 1 (defC clock)).2.1, ((runL L [] 1 (defC clock)).2.2, ()))), (), ()) := by
  generalize hR : runL L [] 1 (defC clock) = R
  obtain ⟨b, hb, hp⟩ := loopFix_rule (step := conf_Parse.step0 conf_Default conf_line conf_Check)
    (Inv := fun a => ∃ (f p : Nat) (n : Int) (c : api_Conf), a = ((bs L, (f : Int), n, ()), api_Conf.zero, c, (bs L, p), ()) ∧ f ≤ p ∧ p ≤ L.length ∧ 1 ≤ n ∧ n ≤ p + 1 ∧ runL (L.drop p) ((L.take p).drop f) n c = R)
    (Post := fun b => (∃ (f : Nat) (n : Int) (c : api_Conf), b = .inl ((bs L, (f : Int), n, ()), api_Conf.zero, c, ()) ∧ f ≤ L.length ∧ finL (L.drop f) n c = R) ∨ (∃ n : Int, b = .inr ((n, 4, ()), api_Conf.zero, ()) ∧ (api_Conf.zero, n, 4) = R))
    (m := fun a => L.length - a.2.2.2.1.2) (by
      rintro a ⟨f, p, n, c, rfl, h1, h2, h3, h4, h5⟩
      unfold conf_Parse.step0
      simp only [bs_size]
      by_cases hp : p < L.length
      · have hbl : Nat.blt p L.length = true := Nat.ble_eq_true_of_le hp
        rw [hbl]
        have hdrop : L.drop p = L[p] :: L.drop (p + 1) := List.drop_eq_getElem_cons hp
        by_cases h10 : L[p] = 10
        · have hdec : Utf8.decode (bs L) p = (10, 1) := by rw [dec_ascii L p hp (by rw [h10]; decide), h10]; rfl
          simp only [hdec, cond_true]
          rw [show ieq (ofN 10) 10 = true from rfl, le3_of (show (0 : Int) ≤ (f : Int) by omega) (show (f : Int) ≤ ofN p by show (f : Int) ≤ (p : Int); omega) (show ofN p ≤ (L.length : Int) by show (p : Int) ≤ _; omega)]
          have hext : ByteArray.extract (bs L) (Int.toNat (f : Int)) (ofN p).toNat = bs ((L.take p).drop f) := by rw [bs_extract]; rfl
          rw [hext, line_total _ c (by simp; omega)]
          simp only [cond_true, oelim_some]
          rw [hdrop, runL, if_pos h10] at h5
          cases hl : (lineV ((L.take p).drop f) c).1 with
          | true =>
            rw [if_pos hl] at h5
            have e1 : iadd .i64 (ofN p) 1 = ((p + 1 : Nat) : Int) := iinc (show p < 4611686018427387904 by omega)
            have e2 : iadd .i64 n 1 = n + 1 := iadd_of (by omega)
            refine .inl ⟨_, rfl, ⟨p + 1, p + 1, n + 1, _, by rw [e1, e2], by omega, by omega, by omega, by omega, ?_⟩, by simp only; omega⟩
            rw [List.drop_take_self, h5]
          | false =>
            rw [if_neg (by simp [hl])] at h5
            exact .inr ⟨_, rfl, .inr ⟨n, rfl, h5⟩⟩
        · obtain ⟨d1, d2, d3, d4, d5⟩ := dec_any L p hp
          have hne : ieq (ofN (Utf8.decode (bs L) p).1) 10 = false := ieq_false (by
            show ¬ (((Utf8.decode (bs L) p).1 : Nat) : Int) = 10
            intro e
            exact h10 (d3.1 (by omega)))
          simp only [hne, cond_true, cond_false]
          generalize (Utf8.decode (bs L) p).2 = w at *
          refine .inl ⟨_, rfl, ⟨f, p + w, n, c, rfl, by omega, by omega, h3, by omega, ?_⟩, by simp only; omega⟩
          have hsp : L.drop p = (L.drop p).take w ++ L.drop (p + w) := by rw [← List.drop_drop, List.take_append_drop]
          have hno : (10 : UInt8) ∉ (L.drop p).take w := fun hm => by
            obtain ⟨j, hj, e⟩ := List.mem_iff_getElem.1 hm
            rw [List.length_take, List.length_drop] at hj
            rw [List.getElem_take, List.getElem_drop] at e
            by_cases hj0 : j = 0
            · subst hj0; exact h10 e
            · exact d5 j (by omega) (by omega) (by omega) e
          rw [hsp, runL_skip _ hno] at h5
          rw [← h5]
          congr 1
          rw [List.take_add, List.drop_append]
          have : f - (L.take p).length = 0 := by rw [List.length_take]; omega
          rw [this, List.drop_zero]
      · have hbl : Nat.blt p L.length = false := by
          cases h : Nat.blt p L.length with
          | false => rfl
          | true => exact absurd (Nat.le_of_ble_eq_true h) (by omega)
        rw [hbl]
        have hpe : p = L.length := by omega
        subst hpe
        rw [List.drop_length, List.take_length, runL] at h5
        exact .inr ⟨_, rfl, .inl ⟨f, n, c, rfl, h1, h5⟩⟩)
    (1000000 + ((bs L).size + (bs L).size)) ((bs L, 0, 1, ()), api_Conf.zero, defC clock, (bs L, 0), ()) ⟨0, 0, 1, _, rfl, by omega, by omega, by omega, by omega, by simpa using hR⟩ (by simp only [bs_size]; omega)
  have hF : conf_Parse.F0 ((bs L, 0, 1, ()), api_Conf.zero, defC clock, (bs L, 0), ()) = some b := hb
  unfold conf_Parse conf_Parse.gen
  rw [def_eq]
  simp only [oelim_some]
  rw [show conf_Parse.F0 ((bs L, 0, 1, ()), api_Conf.mk 0 0 0 0 0 (api_Quality.mk 0 0 0) false 0 0 0 0 false false 0 0 0 0 (api_Times.mk 0 0 0) false, defC clock, (bs L, (0 : Nat)), ()) = some b from hF]
  simp only [oelim_some]
  rcases hp with ⟨f, n, c, rfl, h1, h2⟩ | ⟨n, rfl, h2⟩
  · simp only [selim, bs_size]
    rw [le3_of (show (0 : Int) ≤ (f : Int) by omega) (show (f : Int) ≤ ofN L.length by show (f : Int) ≤ (L.length : Int); omega) (show ofN L.length ≤ (L.length : Int) from Int.le_refl _)]
    have hext : ByteArray.extract (bs L) (Int.toNat (f : Int)) (ofN L.length).toNat = bs (L.drop f) := by
      rw [bs_extract]
      show bs ((L.take L.length).drop f) = _
      rw [List.take_length]
    rw [hext, line_total _ c (by simp; omega)]
    simp only [cond_true, oelim_some]
    unfold finL at h2
    cases hl : (lineV (L.drop f) c).1 with
    | true =>
      rw [if_pos hl] at h2
      simp only [Bool.not_true, cond_false, check_eq, oelim_some]
      cases hk : okC (lineV (L.drop f) c).2 with
      | true => rw [if_pos hk] at h2; rw [← h2]; rfl
      | false => rw [if_neg (by simp [hk])] at h2; rw [← h2]; rfl
    | false =>
      rw [if_neg (by simp [hl])] at h2
      rw [← h2]; rfl
  · simp only [selim]
    rw [← h2]

end Go.Proofs.Yteejfnagilnkjaa
