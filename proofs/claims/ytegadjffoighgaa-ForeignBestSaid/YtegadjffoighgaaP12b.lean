/- Typed forms of the functions that these statements reach, proved equal to what the model runs, and laws over them. -/
import Derived.Test.YtegadjffoighgaaP12a
namespace Go.Proofs.Ytegadjffoighgaa
open Go.Rf
set_option linter.unusedVariables false
set_option linter.unusedSimpArgs false
theorem iand_1023 (a : Int) : iand .i64 a 1023 = a % 1024 := iand_low a 10 (by decide)
theorem iand_32767 (a : Int) : iand .i64 a 32767 = a % 32768 := iand_low a 15 (by decide)
theorem iand_63 (a : Int) : iand .i64 a 63 = a % 64 := iand_low a 6 (by decide)
theorem flag0 : iand .i64 0 256 = 0 := by kernel_rfl
theorem awake_true : law12_awake = some ((true, ()), (), ()) := by kernel_rfl
def T0 (own port window : Int) : foreign_Table := foreign_Table.mk (api_PortID.mk own port) window (fun j => [foreign_Record.zero, foreign_Record.zero, foreign_Record.zero, foreign_Record.zero, foreign_Record.zero].getD j foreign_Record.zero) 0
theorem new_spec (own port window : Int) (h1 : 1 ≤ window) (h2 : window ≤ 1048576) : foreign_New own port window = some (((), ()), (), (T0 own port window, ())) := by
  have e : opMinMax true 1 (opMinMax false window 1048576) = window := by
    show imax 1 (imin window 1048576) = window
    unfold imax imin
    split <;> split <;> omega
  unfold foreign_New foreign_New.gen
  rw [e]
  rfl

theorem bxor_eq {a b : Bool} (h : a = b) : (!a == b) = false := by subst h; cases a <;> rfl

theorem law12_ForeignOld.law : ∀ (seq back now : Int), (Lit.int .i64 seq).wf = true → (Lit.int .i64 back).wf = true → (Lit.int .i64 now).wf = true → law12_ForeignOld seq back now = some ((true, ()), (), ()) := by
  intro seq back now _ _ _
  unfold law12_ForeignOld law12_ForeignOld.gen
  rw [new_spec 99 1 50 (by decide) (by decide)]
  simp only [oelim_some, iand_65535, iand_1023, iand_32767]
  have hs0 : 0 ≤ seq % 65536 := by omega
  have hs1 : seq % 65536 < 65536 := by omega
  have hb0 : 0 ≤ back % 32768 := by omega
  have hb1 : back % 32768 < 32768 := by omega
  have hn0 : 0 ≤ now % 1024 := by omega
  have hn1 : now % 1024 < 1024 := by omega
  generalize seq % 65536 = s at *
  generalize back % 32768 = b at *
  generalize now % 1024 = n at *
  rw [iadd_of (a := n) (b := 1) (by omega), isub_of (a := n) (b := 1) (by omega), isub_of (a := s) (b := b) (by omega), iadd_of (a := s) (b := 1) (by omega)]
  generalize hm1 : api_Msg.mk 11 0 0 0 (api_PortID.mk 1 1) s 0 0 (api_PortID.mk 0 0) 0 0 (api_Quality.mk 0 0 0) 0 0 3 0 0 0 0 = m1
  have m1s : m1.fSource = api_PortID.mk 1 1 := by rw [← hm1]
  have m1q : m1.fSeq = s := by rw [← hm1]
  have f1 : Fair (T0 99 1 50) m1 n := by
    subst hm1; exact ⟨rfl, hn0, by omega, by show (1 : Int) ≠ 99; decide, by show (3 : Int) < 255; decide, flag0⟩
  rw [hear_new (N := 0) f1 rfl (by decide) (fun i hi => by omega)]
  simp only [oelim_some, ine_self, cond_false]
  generalize hT1 : setR (T0 99 1 50) 0 (recOf (T0 99 1 50) m1 n (-1)) ((0 + 1 : Nat) : Int) = T1
  have t1n : T1.fn = ((1 : Nat) : Int) := by rw [← hT1]; rfl
  have t1o : T1.fown.fClock = 99 := by rw [← hT1]; rfl
  have t10 : T1.fl 0 = recOf (T0 99 1 50) m1 n (-1) := by rw [← hT1]; rfl
  have hsm : ∀ m : api_Msg, m.fSource = api_PortID.mk 1 1 → samP (T1.fl 0).fVector.fSender m.fSource = true := fun m hm => by rw [t10, hm]; show samP m1.fSource _ = true; rw [m1s]; rfl
  generalize hm2 : api_Msg.mk 11 0 0 0 (api_PortID.mk 1 1) ((s - b) % 65536) 0 0 (api_PortID.mk 0 0) 0 0 (api_Quality.mk 0 0 0) 0 0 4 0 0 0 0 = m2
  have f2 : Fair T1 m2 (n + 1) := by
    subst hm2; exact ⟨rfl, by omega, by omega, by rw [t1o]; show (1 : Int) ≠ 99; decide, by show (4 : Int) < 255; decide, flag0⟩
  have l2 : lateB (T1.fl 0) m2 (n + 1) = true := by
    unfold lateB
    have e1 : (T1.fl 0).fSeq = s := by rw [t10]; exact m1q
    have e2 : m2.fSeq = (s - b) % 65536 := by rw [← hm2]
    rw [e1, e2, isub_of (by omega), iand_65535, ilt_true (by omega)]; rfl
  rw [hear_old (N := 1) (k := 0) f2 t1n (by decide) (by decide) (fun i hi => by omega) (hsm m2 (by rw [← hm2])) l2]
  simp only [oelim_some, ieq_self, cond_true]
  generalize hm3 : api_Msg.mk 11 0 0 0 (api_PortID.mk 1 1) ((s + 1) % 65536) 0 0 (api_PortID.mk 0 0) 0 0 (api_Quality.mk 0 0 0) 0 0 4 0 0 0 0 = m3
  have hr : foreign_Table_Records T1 = some (([T1.fl 0], ()), (T1, ()), ()) := records_spec (N := 1) t1n (by decide)
  have v1 : (T1.fl 0).fVector.fSteps = 3 := by rw [t10]; show m1.fSteps = 3; rw [← hm1]
  have v2 : (T1.fl 0).fSeq = s := by rw [t10]; exact m1q
  have v3 : (T1.fl 0).fFirst = -1 := by rw [t10]; rfl
  by_cases hz : n = 0
  · rw [hear_arg (by rw [← hm3]) (by omega)]
    simp only [oelim_some, hr]
    rw [ieq_true hz]
    simp only [cond_true, ieq_self, List.length_singleton]
    rw [show ieq (ofN 1) 1 = true from rfl, show inR 0 1 = true from rfl]
    simp only [cond_true, List.getD_cons_zero, Int.toNat_zero, v1, v2, v3, ieq_self, awake_true, oelim_some]
  · have f3 : Fair T1 m3 (n - 1) := by
      subst hm3; exact ⟨rfl, by omega, by omega, by rw [t1o]; show (1 : Int) ≠ 99; decide, by show (4 : Int) < 255; decide, flag0⟩
    have l3 : lateB (T1.fl 0) m3 (n - 1) = true := by
      unfold lateB
      have e1 : (T1.fl 0).fLast = n := by rw [t10]; rfl
      rw [e1, ilt_true (show n - 1 < n by omega)]
      cases ilt (iand .i64 (isub .i64 (T1.fl 0).fSeq m3.fSeq) 65535) 32768 <;> rfl
    rw [hear_old (N := 1) (k := 0) f3 t1n (by decide) (by decide) (fun i hi => by omega) (hsm m3 (by rw [← hm3])) l3]
    simp only [oelim_some, hr]
    rw [ieq_false hz]
    simp only [cond_true, cond_false, ieq_self, List.length_singleton]
    rw [show ieq (ofN 1) 1 = true from rfl, show inR 0 1 = true from rfl]
    simp only [cond_true, List.getD_cons_zero, Int.toNat_zero, v1, v2, v3, ieq_self, awake_true, oelim_some]

theorem oldB_eq {T : foreign_Table} {w a now : Int} (hw : T.fwindow = w) (h0 : 0 ≤ a) (h1 : a ≤ now) (h2 : now < 4611686018427387904) : oldB T a now = decide (w ≤ now - a) := by
  unfold oldB
  rw [ile_true h1, hw, isub_of (by omega)]; rfl

theorem age_one {T : foreign_Table} {now : Int} (hn : T.fn = ((1 : Nat) : Int)) : ∃ T' : foreign_Table, foreign_Table_Age now T = some ((), (T', ()), ()) ∧ T'.fn = if oldB T (T.fl 0).fLast now = true then 0 else ((1 : Nat) : Int) := by
  have e1 : iadd .i64 0 1 = 1 := by kernel_rfl
  unfold foreign_Table_Age foreign_Table_Age.gen
  by_cases ho : oldB T (T.fl 0).fLast now = true
  · rw [if_pos ho]
    have hs : ∃ T' : foreign_Table, foreign_Table_Age.step0 foreign_Table_old ((now, 0, ()), T, ()) = some (.inl ((now, 0, ()), T', ())) ∧ T'.fn = 0 := by
      unfold foreign_Table_Age.step0
      have h1 : ilt 0 T.fn = true := by rw [hn]; rfl
      have h2 : inR 0 5 = true := rfl
      have h3 : le3 0 T.fn 5 = true := by rw [hn]; rfl
      have h4 : le3 1 T.fn 5 = true := by rw [hn]; rfl
      have h5 : inR (isub .i64 T.fn 1) 5 = true := by rw [hn]; kernel_rfl
      simp only [h1, h2, cond_true, Int.toNat_zero, old_spec, oelim_some, ho, Bool.not_true, cond_false, e1, h3, h4, h5]
      exact ⟨_, rfl, by rw [hn]; kernel_rfl⟩
    obtain ⟨T', h1, h2⟩ := hs
    refine ⟨T', ?_, h2⟩
    have hF : foreign_Table_Age.F0 ((now, 0, ()), T, ()) = some ((), T', ()) := by
      unfold foreign_Table_Age.F0
      refine loop_to (step := foreign_Table_Age.step0 foreign_Table_old) (fun i => ((now, 0, ()), (if i = 0 then T else T'), ())) 1 _ (by decide) (fun i hi => ?_) ?_
      · have : i = 0 := by omega
        subst this
        exact h1
      · unfold foreign_Table_Age.step0
        have h3 : ilt 0 T'.fn = false := by rw [h2]; rfl
        simp [h3]
    rw [hF]; rfl
  · rw [if_neg ho]
    have ho' : oldB T (T.fl 0).fLast now = false := by simpa using ho
    refine ⟨T, ?_, hn⟩
    have hF : foreign_Table_Age.F0 ((now, 0, ()), T, ()) = some ((), T, ()) := by
      unfold foreign_Table_Age.F0
      refine loop_to (step := foreign_Table_Age.step0 foreign_Table_old) (fun i => ((now, (i : Int), ()), T, ())) 1 _ (by decide) (fun i hi => ?_) ?_
      · have : i = 0 := by omega
        subst this
        unfold foreign_Table_Age.step0
        have h1 : ilt ((0 : Nat) : Int) T.fn = true := by rw [hn]; rfl
        have h2 : inR ((0 : Nat) : Int) 5 = true := rfl
        simp only [h1, h2, cond_true, Int.toNat_natCast, old_spec, oelim_some, ho', Bool.not_false]
        rfl
      · unfold foreign_Table_Age.step0
        have h3 : ilt ((1 : Nat) : Int) T.fn = false := by rw [hn]; rfl
        simp only [h3, cond_false]
    rw [hF]; rfl

theorem law12_ForeignTwice.law : ∀ (window first gap later : Int), (Lit.int .i64 window).wf = true → (Lit.int .i64 first).wf = true → (Lit.int .i64 gap).wf = true → (Lit.int .i64 later).wf = true → law12_ForeignTwice window first gap later = some ((true, ()), (), ()) := by
  intro window first gap later _ _ _ _
  unfold law12_ForeignTwice law12_ForeignTwice.gen
  have hw0 : 0 ≤ window % 200 := by omega
  have hw1 : window % 200 < 200 := by omega
  rw [place_spec window 200 (by decide) (by decide), oelim_some]
  generalize window % 200 = w0 at *
  rw [iadd_of (a := 2) (b := w0) (by omega), imul_of (a := 2) (b := 2 + w0) (by omega)]
  generalize hw : 2 + w0 = w at *
  rw [new_spec 1 1 w (by omega) (by omega), oelim_some, place_spec first 1000 (by decide) (by decide), oelim_some, place_spec gap (2 * w) (by omega) (by omega), oelim_some]
  have hf0 : 0 ≤ first % 1000 := by omega
  have hf1 : first % 1000 < 1000 := by omega
  have hg0 : 0 ≤ gap % (2 * w) := Int.emod_nonneg _ (by omega)
  have hg1 : gap % (2 * w) < 2 * w := Int.emod_lt_of_pos _ (by omega)
  have hl0 : 0 ≤ later % (2 * w) := Int.emod_nonneg _ (by omega)
  have hl1 : later % (2 * w) < 2 * w := Int.emod_lt_of_pos _ (by omega)
  simp only [place_spec later (2 * w) (by omega) (by omega), oelim_some]
  generalize first % 1000 = F at *
  generalize gap % (2 * w) = G at *
  generalize later % (2 * w) = L at *
  try dsimp only
  rw [iadd_of (a := F) (b := G) (by omega), iadd_of (a := F + G) (b := L) (by omega)]
  generalize hm1 : api_Msg.mk 11 0 0 0 (api_PortID.mk 2 1) 0 0 0 (api_PortID.mk 0 0) 0 0 (api_Quality.mk 0 0 0) 0 0 0 0 0 0 0 = m1
  generalize hm2 : api_Msg.mk 11 0 0 0 (api_PortID.mk 2 1) 1 0 0 (api_PortID.mk 0 0) 0 0 (api_Quality.mk 0 0 0) 0 0 0 0 0 0 0 = m2
  have f1 : Fair (T0 1 1 w) m1 F := by
    subst hm1; exact ⟨rfl, hf0, by omega, by show (2 : Int) ≠ 1; decide, by show (0 : Int) < 255; decide, flag0⟩
  rw [hear_new (N := 0) f1 rfl (by decide) (fun i hi => by omega)]
  simp only [oelim_some, ine_self, cond_false]
  generalize hT1 : setR (T0 1 1 w) 0 (recOf (T0 1 1 w) m1 F (-1)) ((0 + 1 : Nat) : Int) = T1
  have t1n : T1.fn = ((1 : Nat) : Int) := by rw [← hT1]; rfl
  have t1o : T1.fown.fClock = 1 := by rw [← hT1]; rfl
  have t1w : T1.fwindow = w := by rw [← hT1]; rfl
  have t10 : T1.fl 0 = recOf (T0 1 1 w) m1 F (-1) := by rw [← hT1]; rfl
  have q1 : qualL T1 F 1 = [] := by
    have : qualB T1 F (T1.fl 0) = false := by unfold qualB; rw [t10]; rfl
    rw [qualL_succ]; simp [qualL, this]
  rw [qualified_spec t1n (by decide), q1]
  simp only [oelim_some, List.length_nil]
  rw [show ine (ofN 0) 0 = false from rfl]
  simp only [cond_false]
  have f2 : Fair T1 m2 (F + G) := by
    subst hm2; exact ⟨rfl, by omega, by omega, by rw [t1o]; show (2 : Int) ≠ 1; decide, by show (0 : Int) < 255; decide, flag0⟩
  have l2 : lateB (T1.fl 0) m2 (F + G) = false := by
    unfold lateB
    have e1 : (T1.fl 0).fSeq = 0 := by rw [t10, ← hm1]; rfl
    have e2 : m2.fSeq = 1 := by rw [← hm2]
    have e3 : (T1.fl 0).fLast = F := by rw [t10]; rfl
    rw [e1, e2, e3, isub_of (by omega), iand_65535, ilt_false (by omega), ilt_false (by omega)]; rfl
  rw [hear_again (N := 1) (k := 0) f2 t1n (by decide) (by decide) (fun i hi => by omega) (by rw [t10, ← hm1, ← hm2]; rfl) l2]
  simp only [oelim_some, ine_self, cond_false]
  generalize hT2 : setR T1 0 (recOf T1 m2 (F + G) (T1.fl 0).fLast) T1.fn = T2
  have t2n : T2.fn = ((1 : Nat) : Int) := by rw [← hT2]; exact t1n
  have t2w : T2.fwindow = w := by rw [← hT2]; exact t1w
  have t2f : (T2.fl 0).fFirst = F := by rw [← hT2]; show (T1.fl 0).fLast = F; rw [t10]; rfl
  have t2l : (T2.fl 0).fLast = F + G := by rw [← hT2]; rfl
  have q2 : ∀ now, F ≤ now → now < 100000 → ieq (ofN (qualL T2 now 1).length) 1 = decide (now - F < w) := fun now h1 h2 => by
    have e : qualB T2 now (T2.fl 0) = decide (now - F < w) := by
      unfold qualB
      rw [t2f, ine_true (by omega), oldB_eq t2w hf0 h1 (by omega)]
      by_cases h : w ≤ now - F
      · simp [h]
      · simp [h]; omega
    rw [qualL_succ, e]
    by_cases h : now - F < w
    · simp [h, qualL]; rfl
    · simp [h, qualL]; rfl
  rw [qualified_spec t2n (by decide)]
  simp only [oelim_some]
  rw [isub_of (a := F + G) (b := F) (by omega), bxor_eq (show ieq (ofN (qualL T2 (F + G) 1).length) 1 = ilt (F + G - F) w by rw [q2 (F + G) (by omega) (by omega)]; rfl)]
  simp only [cond_false]
  rw [qualified_spec t2n (by decide)]
  simp only [oelim_some]
  rw [isub_of (a := F + G + L) (b := F) (by omega), bxor_eq (show ieq (ofN (qualL T2 (F + G + L) 1).length) 1 = ilt (F + G + L - F) w by rw [q2 (F + G + L) (by omega) (by omega)]; rfl)]
  simp only [cond_false]
  obtain ⟨T3, a1, a2⟩ := age_one (T := T2) (now := F + G + L) t2n
  rw [a1, oelim_some]
  try dsimp only
  rw [t2l, oldB_eq t2w (by omega) (by omega) (by omega)] at a2
  rw [isub_of (a := F + G + L) (b := F + G) (by omega)]
  by_cases h : w ≤ F + G + L - (F + G)
  · rw [if_pos (by simpa using h)] at a2
    rw [records_spec (N := 0) a2 (by decide), ilt_false (by omega)]
    simp only [oelim_some, List.range_zero, List.map_nil, List.length_nil]
    rw [show ieq (ofN 0) 1 = false from rfl]
    simp only [beq_self_eq_true, cond_true, awake_true, oelim_some]
  · rw [if_neg (by simpa using h)] at a2
    rw [records_spec (N := 1) a2 (by decide), ilt_true (by omega)]
    simp only [oelim_some, List.length_map, List.length_range]
    rw [show ieq (ofN 1) 1 = true from rfl]
    simp only [beq_self_eq_true, cond_true, awake_true, oelim_some]

end Go.Proofs.Ytegadjffoighgaa
