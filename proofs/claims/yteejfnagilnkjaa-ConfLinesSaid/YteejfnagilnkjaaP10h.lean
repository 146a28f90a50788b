/- Typed forms of the functions that these statements reach, proved equal to what the model runs, and laws over them. -/
import Derived.Test.YteejfnagilnkjaaP10g
namespace Go.Proofs.Yteejfnagilnkjaa
open Go.Rf
set_option linter.unusedVariables false
set_option linter.unusedSimpArgs false
/-! ### lines put in -/
theorem runL_at (B : List UInt8) : ∀ (cur : List UInt8) (a a' : Int) (c : api_Conf), (runL B cur a c).1 = (runL B cur a' c).1 ∧ (runL B cur a c).2.2 = (runL B cur a' c).2.2 := by
  induction B with
  | nil =>
    intro cur a a' c
    simp only [runL, finL]
    split
    · exact ⟨rfl, rfl⟩
    · exact ⟨rfl, rfl⟩
  | cons x r ih =>
    intro cur a a' c
    simp only [runL]
    split
    · split
      · exact ih _ _ _ _
      · exact ⟨rfl, rfl⟩
    · exact ih _ _ _ _

/-- whole lines: they end badly, or go on -/
theorem runL_pre : ∀ (A cur : List UInt8) (a : Int) (c : api_Conf), (A = [] → cur = []) → (∀ h : A ≠ [], A.getLast h = 10) →
    (∃ m : Int, ∀ R, runL (A ++ R) cur a c = (api_Conf.zero, m, 4)) ∨ (∃ c' : api_Conf, ∀ R, runL (A ++ R) cur a c = runL R [] (a + (A.count 10 : Nat)) c')
  | [], cur, a, c, h, _ => by
    have := h rfl
    subst this
    exact .inr ⟨c, fun R => by simp⟩
  | x :: A, cur, a, c, _, hl => by
    have hl' : ∀ h : A ≠ [], A.getLast h = 10 := fun h => by
      have := hl (by simp)
      rwa [List.getLast_cons h] at this
    by_cases hx : x = 10
    · subst hx
      by_cases hb : (lineV cur c).1 = true
      · rcases runL_pre A [] (a + 1) (lineV cur c).2 (fun _ => rfl) hl' with ⟨m, h⟩ | ⟨c', h⟩
        · exact .inl ⟨m, fun R => by rw [List.cons_append, runL, if_pos rfl, if_pos hb]; exact h R⟩
        · refine .inr ⟨c', fun R => ?_⟩
          rw [List.cons_append, runL, if_pos rfl, if_pos hb, h R]
          congr 1
          rw [List.count_cons_self]; omega
      · exact .inl ⟨a, fun R => by rw [List.cons_append, runL, if_pos rfl, if_neg hb]⟩
    · have hne : A ≠ [] := fun e => by
        subst e
        exact hx (hl (by simp))
      rcases runL_pre A (cur ++ [x]) a c (fun e => absurd e hne) hl' with ⟨m, h⟩ | ⟨c', h⟩
      · exact .inl ⟨m, fun R => by rw [List.cons_append, runL, if_neg hx]; exact h R⟩
      · refine .inr ⟨c', fun R => ?_⟩
        rw [List.cons_append, runL, if_neg hx, h R]
        congr 1
        rw [List.count_cons_of_ne hx]

/-- what ends well goes on -/
theorem runL_more (B : List UInt8) : ∀ (cur : List UInt8) (a : Int) (c : api_Conf), (runL B cur a c).2.2 = 0 → okC (runL B cur a c).1 = true ∧ ∀ R, ∃ a', runL (B ++ 10 :: R) cur a c = runL R [] a' (runL B cur a c).1 := by
  induction B with
  | nil =>
    intro cur a c h
    simp only [runL, finL] at h ⊢
    split at h
    · rename_i hl
      rw [if_pos hl]
      split at h
      · rename_i hk
        rw [if_pos hk]
        refine ⟨hk, fun R => ⟨a + 1, ?_⟩⟩
        rw [List.nil_append, runL, if_pos rfl, if_pos hl]
      · exact absurd (show (15 : Int) = 0 from h) (by decide)
    · exact absurd (show (4 : Int) = 0 from h) (by decide)
  | cons x r ih =>
    intro cur a c h
    simp only [runL] at h ⊢
    split
    · rename_i hx
      rw [if_pos hx] at h
      split
      · rename_i hl
        rw [if_pos hl] at h
        obtain ⟨h1, h2⟩ := ih _ _ _ h
        refine ⟨h1, fun R => ?_⟩
        obtain ⟨a', h3⟩ := h2 R
        exact ⟨a', by rw [List.cons_append, runL, if_pos hx, if_pos hl]; exact h3⟩
      · rename_i hl
        rw [if_neg hl] at h
        exact absurd (show (4 : Int) = 0 from h) (by decide)
    · rename_i hx
      rw [if_neg hx] at h
      obtain ⟨h1, h2⟩ := ih _ _ _ h
      refine ⟨h1, fun R => ?_⟩
      obtain ⟨a', h3⟩ := h2 R
      exact ⟨a', by rw [List.cons_append, runL, if_neg hx]; exact h3⟩

def setP (c : api_Conf) (p : Int) : api_Conf := api_Conf.mk c.fClock c.fPorts c.fDomain p c.fPriority2 c.fQuality c.fSlaveOnly c.fLogAnn c.fLogSync c.fLogDelay c.fTimeout c.fPeer c.fOneStep c.fMedian c.fKp c.fKi c.fStep c.fTimes c.fTrace
theorem setP_ok {c : api_Conf} {p : Int} (h : okC c = true) (h0 : 0 ≤ p) (h1 : p ≤ 255) : okC (setP c p) = true := by
  unfold okC at h ⊢
  simp only [Bool.and_eq_true] at h ⊢
  exact ⟨h.1, h.2.1, outB_iff.2 ⟨h0, h1⟩, h.2.2.2⟩
theorem line_p1 (D : List UInt8) (c : api_Conf) (h1 : 1 ≤ D.length) (h10 : D.length ≤ 10) (hD : ∀ y ∈ D, digB y) : lineV (112 :: [114, 105, 111, 114, 105, 116, 121, 49] ++ 32 :: D) c = (true, setP c (valI D D.length)) :=
  lineV_of (by
    rw [line_nv 112 [114, 105, 111, 114, 105, 116, 121, 49] D c (by decide) (by decide) (by decide) (by decide) h1 h10 hD]
    generalize valI D D.length = n
    kernel_rfl)
theorem line_hop (c : api_Conf) : (lineV [104, 111, 112, 32, 49] c).1 = false := by
  rw [lineV_of (show conf_line (bs [104, 111, 112, 32, 49]) c = some ((false, ()), (c, ()), ()) by kernel_rfl)]

theorem law10_ConfLines.law : ∀ (clock : Int) (text : ByteArray) (at_2 : Int) (v : Int), (Lit.int .u64 clock).wf = true → text.size ≤ reachBytes → (Lit.int .i64 at_2).wf = true → (Lit.int .i64 v).wf = true → law10_ConfLines clock text at_2 v = some ((true, ()), (), ()) := by
  intro clock text at_2 v _ _ _ _
  obtain ⟨L, rfl⟩ : ∃ L, text = bs L := ⟨text.data.toList, (bs_eta text).symm⟩
  unfold law10_ConfLines law10_ConfLines.gen
  simp only [bs_size]
  by_cases hlen : 1000 < L.length
  · rw [ilt_true (show 1000 < ofN L.length by show (1000 : Int) < (L.length : Int); omega)]
    simp only [cond_true, awake_true, oelim_some]
  rw [ilt_false (show ¬ 1000 < ofN L.length by show ¬ (1000 : Int) < (L.length : Int); omega)]
  simp only [cond_false]
  have hparse : ∀ X : List UInt8, X.length < 100000 → conf_Parse clock (bs X) = some (((runL X [] 1 (defC clock)).1, ((runL X [] 1 (defC clock)).2.1, ((runL X [] 1 (defC clock)).2.2, ()))), (), ()) := fun X hX => parse_spec X clock (by omega)
  rw [hparse L (by omega), oelim_some]
  have e1 : iadd .i64 (ofN L.length) 1 = ((L.length + 1 : Nat) : Int) := iinc (show L.length < 4611686018427387904 by omega)
  rw [e1, place_spec at_2 _ (by omega) (by omega), oelim_some]
  obtain ⟨k0, hk0⟩ : ∃ k0 : Nat, at_2 % ((L.length + 1 : Nat) : Int) = (k0 : Int) := ⟨(at_2 % ((L.length + 1 : Nat) : Int)).toNat, by have := Int.emod_nonneg at_2 (show ((L.length + 1 : Nat) : Int) ≠ 0 by omega); omega⟩
  have hk0' : k0 ≤ L.length := by have := Int.emod_lt_of_pos at_2 (show 0 < ((L.length + 1 : Nat) : Int) by omega); omega
  rw [hk0]
  generalize hR0 : runL L [] 1 (defC clock) = R0
  -- back to a line's beginning
  obtain ⟨b, hb, k, hk, hk1, hbe⟩ := loopFix_rule (step := law10_ConfLines.step0 law10_awake conf_Parse law00_Place law10_dec)
    (Inv := fun a => ∃ k : Nat, k ≤ L.length ∧ a = ((clock, bs L, v, R0.2.2, (k : Int), ()), R0.1, ()))
    (Post := fun b => ∃ k : Nat, k ≤ L.length ∧ (∀ h : L.take k ≠ [], (L.take k).getLast h = 10) ∧ b = ((clock, bs L, v, R0.2.2, (k : Int), ()), R0.1, ()))
    (m := fun a => a.1.2.2.2.2.1.toNat) (by
      rintro a ⟨k, hk, rfl⟩
      unfold law10_ConfLines.step0
      simp only [bs_size, bs_data]
      cases k with
      | zero =>
        rw [show ilt 0 ((0 : Nat) : Int) = false from rfl]
        exact .inr ⟨_, rfl, 0, by omega, fun h => absurd rfl h, rfl⟩
      | succ k =>
        have es : isub .i64 ((k + 1 : Nat) : Int) 1 = (k : Int) := by rw [isub_of (by omega)]; omega
        rw [ilt_true (show 0 < ((k + 1 : Nat) : Int) by omega), es, inR_nat]
        have hkl : k < L.length := by omega
        simp only [hkl, decide_true, cond_true, Int.toNat_natCast, oelim_some]
        have hg : L.getD k 0 = L[k] := getD_at hkl
        rw [hg]
        by_cases h10 : L[k] = 10
        · have hi : ine (ofN L[k].toNat) 10 = false := ine_false (by rw [h10]; rfl)
          rw [hi]
          refine .inr ⟨_, rfl, k + 1, hk, fun h => ?_, rfl⟩
          have ht : L.take (k + 1) = L.take k ++ [L[k]] := by rw [List.take_add_one, List.getElem?_eq_getElem hkl]; rfl
          simp only [ht]
          simp only [List.getLast_concat]; exact h10
        · have hi : ine (ofN L[k].toNat) 10 = true := ine_true (by
            show ¬ ((L[k].toNat : Nat) : Int) = 10
            intro e
            exact h10 (UInt8.toNat_inj.1 (show L[k].toNat = 10 by omega)))
          rw [hi]
          exact .inl ⟨_, rfl, ⟨k, by omega, rfl⟩, by simp only [Int.toNat_natCast]; omega⟩)
    (1000000 + (bs L).size) ((clock, bs L, v, R0.2.2, (k0 : Int), ()), R0.1, ()) ⟨k0, hk0', rfl⟩ (by simp only [bs_size, Int.toNat_natCast]; omega)
  subst hbe
  have hF0 : law10_ConfLines.F0 ((clock, bs L, v, R0.2.2, (k0 : Int), ()), R0.1, ()) = some ((clock, bs L, v, R0.2.2, (k : Int), ()), R0.1, ()) := hb
  rw [hF0, oelim_some]
  simp only [bs_size, bs_extract, lnil]
  rw [show (ofN 0).toNat = 0 from rfl, show (ofN L.length).toNat = L.length from rfl, Int.toNat_natCast, List.take_length, List.drop_zero]
  have l1 : le3 (ofN 0) (k : Int) L.length = true := le3_of (by decide) (by show (0 : Int) ≤ (k : Int); omega) (by omega)
  have l2 : le3 (k : Int) (ofN L.length) L.length = true := le3_of (by omega) (by show (k : Int) ≤ (L.length : Int); omega) (Int.le_refl _)
  have hAB : L.take k ++ L.drop k = L := List.take_append_drop k L
  have hA : (L.take k).length ≤ 1000 := by rw [List.length_take]; omega
  have hB : (L.drop k).length ≤ 1000 := by rw [List.length_drop]; omega
  generalize hAe : L.take k = A at *
  generalize hBe : L.drop k = B at *
  simp only [l1, l2, bs_append, bs_size, List.length_append, List.length_cons, List.length_nil]
  rw [ble_big (by omega), ble_big (by omega)]
  simp only [cond_true]
  have hp1 := hparse (A ++ [10, 35, 32, 104, 111, 112, 10] ++ B) (by simp; omega)
  rw [hp1, oelim_some]
  -- what the two parses have in common
  have hAe1 : A ++ [10, 35, 32, 104, 111, 112, 10] ++ B = A ++ ([] ++ 10 :: ([35, 32, 104, 111, 112] ++ 10 :: B)) := by simp
  have hhop : A ++ [104, 111, 112, 32, 49, 10] ++ B = A ++ ([104, 111, 112, 32, 49] ++ 10 :: B) := by simp
  have hn1 : (10 : UInt8) ∉ [35, 32, 104, 111, 112] := by decide
  have hn2 : (10 : UInt8) ∉ [104, 111, 112, 32, 49] := by decide
  have hcnt : law10_ConfLines.F1 ((clock, bs L, v, R0.2.2, (k : Int), 1, 0, ()), R0.1, ()) = some ((clock, bs L, v, R0.2.2, (k : Int), 1 + ((A.count 10 : Nat) : Int), ()), R0.1, ()) := by
    unfold law10_ConfLines.F1
    refine (loop_to (step := law10_ConfLines.step1 law10_awake conf_Parse law00_Place law10_dec) (fun i => ((clock, bs L, v, R0.2.2, (k : Int), 1 + (((L.take i).count 10 : Nat) : Int), (i : Int), ()), R0.1, ())) k _ (by show k < 1000000 + (bs L).size; omega) (fun i hi => ?_) ?_)
    · unfold law10_ConfLines.step1
      have hil : i < L.length := by omega
      have hg : L.getD i 0 = L[i] := getD_at hil
      have ht : L.take (i + 1) = L.take i ++ [L[i]] := by rw [List.take_add_one, List.getElem?_eq_getElem hil]; rfl
      have hcl : (L.take i).count 10 ≤ i := Nat.le_trans List.count_le_length (by rw [List.length_take]; omega)
      simp only [bs_size, bs_data, ilt_nat, inR_nat, hi, hil, decide_true, cond_true, Int.toNat_natCast, hg, iinc (show i < 4611686018427387904 by omega), ht, List.count_append]
      by_cases h10 : L[i] = 10
      · rw [h10, show ieq (ofN (10 : UInt8).toNat) 10 = true from rfl]
        simp only [cond_true]
        rw [iadd_of (by omega), show List.count (10 : UInt8) [10] = 1 from rfl]
        have : (1 : Int) + (((L.take i).count 10 : Nat) : Int) + 1 = 1 + (((L.take i).count 10 + 1 : Nat) : Int) := by omega
        rw [this]
      · have hi : ieq (ofN L[i].toNat) 10 = false := ieq_false (by
          show ¬ ((L[i].toNat : Nat) : Int) = 10
          intro e
          exact h10 (UInt8.toNat_inj.1 (show L[i].toNat = 10 by omega)))
        rw [hi]
        simp only [cond_false]
        rw [List.count_singleton, if_neg (by simpa using h10)]
        rfl
    · unfold law10_ConfLines.step1
      simp only [ilt_nat, Nat.lt_irrefl, decide_false, cond_false, hAe]
  rcases runL_pre A [] 1 (defC clock) (fun _ => rfl) hk1 with ⟨m, hm⟩ | ⟨c', hc⟩
  · have h0 : R0 = (api_Conf.zero, m, 4) := by rw [← hR0, ← hAB]; exact hm B
    have h1 : runL (A ++ [10, 35, 32, 104, 111, 112, 10] ++ B) [] 1 (defC clock) = (api_Conf.zero, m, 4) := by rw [hAe1]; exact hm _
    simp only [h1]
    rw [h0] at hcnt ⊢
    simp only [ine_self, cond_false, ieq_self, cond_true, beq_self_eq_true, Bool.not_true, oelim_some]
    rw [hcnt]
    simp only [oelim_some]
    rw [show ine 4 0 = true from rfl]
    simp only [cond_true, awake_true, oelim_some]
  · have h0 : R0 = runL B [] (1 + ((A.count 10 : Nat) : Int)) c' := by rw [← hR0, ← hAB]; exact hc B
    have h1 : runL (A ++ [10, 35, 32, 104, 111, 112, 10] ++ B) [] 1 (defC clock) = runL B [] (1 + ((A.count 10 : Nat) : Int) + 1 + 1) c' := by
      rw [hAe1, hc, runL_line [] (by simp), lineV_of (line_nil c'), if_pos rfl, runL_line _ hn1, lineV_of (line_hash _ c'), if_pos rfl]
    obtain ⟨a1, a2⟩ := runL_at B [] (1 + ((A.count 10 : Nat) : Int) + 1 + 1) (1 + ((A.count 10 : Nat) : Int)) c'
    rw [← h1, ← h0] at a1 a2
    simp only [a1, a2, ine_self, cond_false, ieq_self, cond_true, beq_self_eq_true, Bool.not_true, oelim_some]
    rw [hcnt]
    simp only [oelim_some]
    by_cases he : R0.2.2 = 0
    · rw [ine_false he]
      have z0 : (ofN 0).toNat = 0 := rfl
      have zL : (ofN L.length).toNat = L.length := rfl
      simp only [cond_false, bs_size, bs_extract, lnil, z0, zL, Int.toNat_natCast, List.take_length, List.drop_zero, hAe, hBe]
      rw [place_spec v 256 (by decide) (by decide), oelim_some]
      have hp0 : 0 ≤ v % 256 := by omega
      have hp1' : v % 256 < 256 := by omega
      generalize v % 256 = p at *
      have eq : isub .i64 255 p = 255 - p := isub_of (by omega)
      obtain ⟨D, g1, g2, g3, g4, g5⟩ := dec_spec hp0 (by omega)
      obtain ⟨E, f1, f2, f3, f4, f5⟩ := dec_spec (v := 255 - p) (by omega) (by omega)
      have hL : L.length ≤ 1000 := by omega
      simp only [g1, eq, f1, l1, l2, oelim_some, bs_append, bs_size, List.length_append, List.length_cons, List.length_nil]
      rw [ble_big (by omega), ble_big (by omega), ble_big (by omega), ble_big (by omega)]
      simp only [cond_true]
      have hx : runL (L ++ [10, 112, 114, 105, 111, 114, 105, 116, 121, 49, 32] ++ D ++ [10, 112, 114, 105, 111, 114, 105, 116, 121, 49, 32] ++ E) [] 1 (defC clock) = (setP R0.1 (255 - p), 0, 0) := by
        have ht : L ++ [10, 112, 114, 105, 111, 114, 105, 116, 121, 49, 32] ++ D ++ [10, 112, 114, 105, 111, 114, 105, 116, 121, 49, 32] ++ E = L ++ 10 :: ((112 :: [114, 105, 111, 114, 105, 116, 121, 49] ++ 32 :: D) ++ 10 :: (112 :: [114, 105, 111, 114, 105, 116, 121, 49] ++ 32 :: E)) := by simp
        obtain ⟨o1, o2⟩ := runL_more L [] 1 (defC clock) (by rw [hR0]; exact he)
        rw [hR0] at o1 o2
        obtain ⟨a', o3⟩ := o2 ((112 :: [114, 105, 111, 114, 105, 116, 121, 49] ++ 32 :: D) ++ 10 :: (112 :: [114, 105, 111, 114, 105, 116, 121, 49] ++ 32 :: E))
        have hw : ∀ X : List UInt8, (10 : UInt8) ∉ X → (10 : UInt8) ∉ 112 :: [114, 105, 111, 114, 105, 116, 121, 49] ++ 32 :: X := fun X hX => by
          simp only [List.mem_append, List.mem_cons, not_or]
          exact ⟨by decide, by decide, hX⟩
        rw [ht, o3, runL_line _ (hw D (digB_no10 g4)), line_p1 D R0.1 g2 (by omega) g4, if_pos rfl, runL_end _ (hw E (digB_no10 f4))]
        unfold finL
        rw [line_p1 E _ f2 (by omega) f4, if_pos rfl, f5]
        have hs : setP (setP R0.1 (valI D D.length)) (255 - p) = setP R0.1 (255 - p) := rfl
        have hk3 : okC (setP R0.1 (255 - p)) = true := setP_ok o1 (by omega) (by omega)
        show (if okC (setP (setP R0.1 (valI D D.length)) (255 - p)) = true then _ else _) = _
        rw [hs, if_pos hk3]
      have hh : runL (A ++ [104, 111, 112, 32, 49, 10] ++ B) [] 1 (defC clock) = (api_Conf.zero, 1 + ((A.count 10 : Nat) : Int), 4) := by
        rw [hhop, hc, runL_line _ hn2, if_neg (by rw [line_hop]; decide)]
      rw [hparse _ (by simp; omega), hx]
      simp only [oelim_some]
      rw [ble_big (by omega), ble_big (by omega)]
      simp only [cond_true]
      rw [hparse _ (by simp; omega), hh]
      simp only [oelim_some, setP, ieq_self, cond_true, beq_self_eq_true, awake_true]
    · rw [ine_true he]
      simp only [cond_true, awake_true, oelim_some]

end Go.Proofs.Yteejfnagilnkjaa
