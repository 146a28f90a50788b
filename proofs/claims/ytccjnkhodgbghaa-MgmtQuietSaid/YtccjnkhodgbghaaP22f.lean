/- Typed forms of the functions that these statements reach, proved equal to what the model runs, and laws over them. -/
import Derived.Test.YtccjnkhodgbghaaP22e
namespace Go.Proofs.Ytccjnkhodgbghaa
open Go.Rf
set_option linter.unusedVariables false
set_option linter.unusedSimpArgs false
/-! ### settings -/
theorem ans_set (v : mgmt_View) (id : Int) (data : ByteArray) (h1 : knownB id = true) (h2 : cmdB id = false) (h3 : fixB id = false) (h4 : id ≠ 0) (h5 : (data.size : Int) = sizeI id) :
    ans v 1 id data = if okC (setC v.fConf id (data.data.toList.getD 0 0)) = true then (ByteArray.mk (tellL { v with fConf := setC v.fConf id (data.data.toList.getD 0 0) } id).toArray, setC v.fConf id (data.data.toList.getD 0 0), 0) else (none_, v.fConf, 4) := by
  unfold ans
  rw [if_neg (by simp [h1]), if_neg (by omega), if_neg (by
    rintro (⟨h, _⟩ | ⟨_, h, _⟩)
    · omega
    · rw [h2] at h; cases h), if_neg (by simp [h3]), if_neg (by simp [h5]), if_neg (by omega), if_pos ⟨rfl, h4⟩]
theorem byteI_of {n : Int} (h : 0 ≤ n ∧ n < 256) : byteI n = UInt8.ofNat n.toNat := by
  have h2 : IntKind.u8.wrap n = n := by
    simp only [IntKind.wrap, IntKind.signed, IntKind.bits]
    simp
    omega
  unfold byteI; rw [h2]
theorem byteI_i8 {n : Int} (h : 0 ≤ n ∧ n < 256) : byteI (IntKind.i8.wrap n) = UInt8.ofNat n.toNat := by
  rw [← byteI_of h]
  unfold byteI
  have : IntKind.u8.wrap (IntKind.i8.wrap n) = IntKind.u8.wrap n := by
    simp only [IntKind.wrap, IntKind.signed, IntKind.bits]
    simp
    omega
  rw [this]
theorem ishr0 (n : Int) : ishr .i64 n (8 * ((0 : Nat) : Int)) = n := by
  rw [ishr_div n 0 (by decide)]; simp
theorem twoL_eq (n : Int) : twoL n = [byteI n, 0] := by
  show [byteI (ishr .i64 n (8 * ((0 : Nat) : Int))), byteI (ishr .i64 0 (8 * ((0 : Nat) : Int)))] = _
  rw [ishr0, ishr0]; rfl
theorem getB_u8 (c : api_Conf) : okC c = true → inB c.fPorts 1 8 = true ∧ inB c.fDomain 0 127 = true ∧ inB c.fPriority1 0 255 = true ∧ inB c.fPriority2 0 255 = true ∧ inB c.fLogAnn (-3) 4 = true ∧ inB c.fLogSync (-3) 4 = true ∧ inB c.fLogDelay (-3) 4 = true ∧ inB c.fTimeout 2 10 = true ∧ inB c.fMedian 1 15 = true ∧
    inB c.fKp 0 2000 = true ∧ inB c.fKi 0 2000 = true ∧ inB c.fStep 0 1000000000 = true ∧ inB c.fTimes.fUtc (-32768) 32767 = true ∧ inB c.fTimes.fFlags 0 63 = true ∧ inB c.fTimes.fOrigin 0 255 = true ∧ inB c.fQuality.fClass 0 255 = true ∧ inB c.fQuality.fAccuracy 0 255 = true ∧ inB c.fQuality.fVariance 0 65535 = true ∧
    (c.fClock != 0) = true ∧ (c.fClock != 18446744073709551615) = true ∧ (!c.fSlaveOnly || (c.fPorts == 1 && c.fQuality.fClass == 255)) = true := by
  intro h
  simp only [okC, numsB, mayQ, Bool.and_eq_true] at h
  obtain ⟨⟨⟨⟨⟨⟨⟨⟨⟨⟨⟨⟨⟨⟨⟨⟨⟨⟨h1, h2⟩, h3⟩, h4⟩, h5⟩, h6⟩, h7⟩, h8⟩, h9⟩, h10⟩, h11⟩, h12⟩, h13⟩, h14⟩, h15⟩, ⟨h16, h17⟩, h18⟩, h19⟩, h20⟩, h21⟩ := h
  exact ⟨h1, h2, h3, h4, h5, h6, h7, h8, h9, h10, h11, h12, h13, h14, h15, h16, h17, h18, h19, h20, h21⟩
theorem ok_set (c : api_Conf) (h : okC c = true) (b : UInt8) :
    okC (setC c 8197 b) = true ∧ okC (setC c 8198 b) = true ∧ okC (setC c 8199 b) = inB b.toNat 0 127 ∧ okC (setC c 8208 b) = true ∧ okC (setC c 8202 b) = inB b.toNat 2 10 ∧ okC (setC c 8203 b) = inB (IntKind.i8.wrap b.toNat) (-3) 4 := by
  obtain ⟨h1, h2, h3, h4, h5, h6, h7, h8, h9, h10, h11, h12, h13, h14, h15, h16, h17, h18, h19, h20, h21⟩ := getB_u8 c h
  have hb : inB (b.toNat : Int) 0 255 = true := inB_iff.2 (by have := UInt8.toNat_lt b; omega)
  refine ⟨?_, ?_, ?_, ?_, ?_, ?_⟩ <;> simp only [setC, Int.reduceEq, if_true, if_false, okC, numsB, mayQ, h1, h2, h3, h4, h5, h6, h7, h8, h9, h10, h11, h12, h13, h14, h15, h16, h17, h18, h19, h20, h21, hb, Bool.and_true, Bool.true_and]

theorem law22_MgmtSets.law : ∀ (c : api_Conf) (which : Int) (v : Int) (spare : Int), api_Conf.Wf c → (Lit.int .i64 which).wf = true → (Lit.int .u8 v).wf = true → (Lit.int .u8 spare).wf = true → law22_MgmtSets c which v spare = some ((true, ()), (), ()) := by
  intro c which v spare _ _ hv _
  have hv := bounds_u8 hv
  unfold law22_MgmtSets law22_MgmtSets.gen
  simp only [ref_conf_spec, awake_true, oelim_some, place_spec which 6 (by decide) (by decide)]
  cases hok : okC c
  · simp [n15_0]
  have hw : 0 ≤ which % 6 ∧ which % 6 < 6 := by omega
  generalize hd : ByteArray.mk (UInt8.ofNat v.toNat :: UInt8.ofNat spare.toNat :: lnil UInt8).toArray = data
  have hsz : (data.size : Int) = 2 := by rw [← hd]; rfl
  have hb : data.data.toList.getD 0 0 = UInt8.ofNat v.toNat := by rw [← hd]; rfl
  have hbn : ((UInt8.ofNat v.toNat).toNat : Int) = v := u8_back (by omega)
  obtain ⟨o1, o2, o3, o4, o5, o6⟩ := ok_set c hok (UInt8.ofNat v.toNat)
  rw [hbn] at o3 o5 o6
  simp only [if_true, n0_0, cond_false, inR_true hw.1 (show which % 6 < ((6 : Nat) : Int) by omega), cond_true]
  have hcase : which % 6 = 0 ∨ which % 6 = 1 ∨ which % 6 = 2 ∨ which % 6 = 3 ∨ which % 6 = 4 ∨ which % 6 = 5 := by omega
  have hwv : IntKind.i64.wrap v = v := by rw [iwrap]; omega
  have hx : (ByteArray.mk #[UInt8.ofNat v.toNat, 0]) = ByteArray.mk (UInt8.ofNat v.toNat :: UInt8.ofNat (Int.toNat 0) :: lnil UInt8).toArray := rfl
  have hby := byteI_of (n := v) (by omega)
  have hbi := byteI_i8 (n := v) (by omega)
  rcases hcase with h | h | h | h | h | h <;> rw [h]
  · have e : (8197 :: 8198 :: 8199 :: 8208 :: 8202 :: 8203 :: lnil Int).getD (Int.toNat 0) 0 = 8197 := rfl
    simp only [e]
    rw [answer_spec, ans_set _ 8197 data (by decide) (by decide) (by decide) (by decide) hsz, hb, if_pos o1]
    simp only [pk, oelim_some, answer_spec, ans_get _ 8197 _ (by decide) (.inl (by decide)), show ieq 8197 8197 = true from rfl, show ieq 8197 8198 = false from rfl, show ieq 8197 8199 = false from rfl, show ieq 8197 8208 = false from rfl, show ieq 8197 8202 = false from rfl, show ieq 8197 8203 = false from rfl, tellL, smallL, setC, Int.reduceEq, if_false, if_true, twoL_eq, n0_0, i0_0, ieq_self, hbn, hwv, wrap_i8, beq_self_eq_true, cond_true, Bool.not_true, Bool.not_false, cond_false, hby, hbi, hx]
  · have e : (8197 :: 8198 :: 8199 :: 8208 :: 8202 :: 8203 :: lnil Int).getD (Int.toNat 1) 0 = 8198 := rfl
    simp only [e]
    rw [answer_spec, ans_set _ 8198 data (by decide) (by decide) (by decide) (by decide) hsz, hb, if_pos o2]
    simp only [pk, oelim_some, answer_spec, ans_get _ 8198 _ (by decide) (.inl (by decide)), show ieq 8198 8197 = false from rfl, show ieq 8198 8198 = true from rfl, show ieq 8198 8199 = false from rfl, show ieq 8198 8208 = false from rfl, show ieq 8198 8202 = false from rfl, show ieq 8198 8203 = false from rfl, tellL, smallL, setC, Int.reduceEq, if_false, if_true, twoL_eq, n0_0, i0_0, ieq_self, hbn, hwv, wrap_i8, beq_self_eq_true, cond_true, Bool.not_true, Bool.not_false, cond_false, hby, hbi, hx]
  · have e : (8197 :: 8198 :: 8199 :: 8208 :: 8202 :: 8203 :: lnil Int).getD (Int.toNat 2) 0 = 8199 := rfl
    simp only [e]
    rw [answer_spec, ans_set _ 8199 data (by decide) (by decide) (by decide) (by decide) hsz, hb, o3]
    by_cases hc : inB v 0 127 = true
    · have c1 : ilt v 128 = true := ilt_true (by have := inB_iff.1 hc; omega)
      rw [if_pos hc]
      simp only [pk, oelim_some, answer_spec, ans_get _ 8199 _ (by decide) (.inl (by decide)), show ieq 8199 8197 = false from rfl, show ieq 8199 8198 = false from rfl, show ieq 8199 8199 = true from rfl, show ieq 8199 8208 = false from rfl, show ieq 8199 8202 = false from rfl, show ieq 8199 8203 = false from rfl, c1, tellL, smallL, setC, Int.reduceEq, if_false, if_true, twoL_eq, n0_0, i0_0, ieq_self, hbn, hwv, wrap_i8, beq_self_eq_true, cond_true, Bool.not_true, Bool.not_false, cond_false, hby, hbi, hx]
    · have c1 : ilt v 128 = false := ilt_false (fun h' => hc (inB_iff.2 (by omega)))
      rw [if_neg hc]
      simp only [pk, oelim_some, answer_spec, show ieq 8199 8197 = false from rfl, show ieq 8199 8198 = false from rfl, show ieq 8199 8199 = true from rfl, show ieq 8199 8208 = false from rfl, show ieq 8199 8202 = false from rfl, show ieq 8199 8203 = false from rfl, c1, tellL, smallL, setC, Int.reduceEq, if_false, if_true, twoL_eq, n0_0, i0_0, ieq_self, hbn, hwv, wrap_i8, beq_self_eq_true, cond_true, Bool.not_true, Bool.not_false, cond_false, hby, hbi, hx, none_]
  · have e : (8197 :: 8198 :: 8199 :: 8208 :: 8202 :: 8203 :: lnil Int).getD (Int.toNat 3) 0 = 8208 := rfl
    simp only [e]
    rw [answer_spec, ans_set _ 8208 data (by decide) (by decide) (by decide) (by decide) hsz, hb, if_pos o4]
    simp only [pk, oelim_some, answer_spec, ans_get _ 8208 _ (by decide) (.inl (by decide)), show ieq 8208 8197 = false from rfl, show ieq 8208 8198 = false from rfl, show ieq 8208 8199 = false from rfl, show ieq 8208 8208 = true from rfl, show ieq 8208 8202 = false from rfl, show ieq 8208 8203 = false from rfl, tellL, smallL, setC, Int.reduceEq, if_false, if_true, twoL_eq, n0_0, i0_0, ieq_self, hbn, hwv, wrap_i8, beq_self_eq_true, cond_true, Bool.not_true, Bool.not_false, cond_false, hby, hbi, hx]
  · have e : (8197 :: 8198 :: 8199 :: 8208 :: 8202 :: 8203 :: lnil Int).getD (Int.toNat 4) 0 = 8202 := rfl
    simp only [e]
    rw [answer_spec, ans_set _ 8202 data (by decide) (by decide) (by decide) (by decide) hsz, hb, o5]
    by_cases hc : inB v 2 10 = true
    · have hr := inB_iff.1 hc
      have c1 : ile 2 v = true := ile_true hr.1
      have c2 : ile v 10 = true := ile_true hr.2
      rw [if_pos hc]
      simp only [pk, oelim_some, answer_spec, ans_get _ 8202 _ (by decide) (.inl (by decide)), show ieq 8202 8197 = false from rfl, show ieq 8202 8198 = false from rfl, show ieq 8202 8199 = false from rfl, show ieq 8202 8208 = false from rfl, show ieq 8202 8202 = true from rfl, show ieq 8202 8203 = false from rfl, c1, c2, tellL, smallL, setC, Int.reduceEq, if_false, if_true, twoL_eq, n0_0, i0_0, ieq_self, hbn, hwv, wrap_i8, beq_self_eq_true, cond_true, Bool.not_true, Bool.not_false, cond_false, hby, hbi, hx]
    · have c1 : (bif ile 2 v then some (ile v 10, ()) else some (false, ())) = some (false, ()) := by
        by_cases h2 : 2 ≤ v
        · rw [ile_true h2, ile_false (fun h' => hc (inB_iff.2 ⟨h2, h'⟩))]; rfl
        · rw [ile_false h2]; rfl
      rw [if_neg hc]
      simp only [pk, oelim_some, answer_spec, show ieq 8202 8197 = false from rfl, show ieq 8202 8198 = false from rfl, show ieq 8202 8199 = false from rfl, show ieq 8202 8208 = false from rfl, show ieq 8202 8202 = true from rfl, show ieq 8202 8203 = false from rfl, c1, tellL, smallL, setC, Int.reduceEq, if_false, if_true, twoL_eq, n0_0, i0_0, ieq_self, hbn, hwv, wrap_i8, beq_self_eq_true, cond_true, Bool.not_true, Bool.not_false, cond_false, hby, hbi, hx, none_]
  · have e : (8197 :: 8198 :: 8199 :: 8208 :: 8202 :: 8203 :: lnil Int).getD (Int.toNat 5) 0 = 8203 := rfl
    simp only [e]
    rw [answer_spec, ans_set _ 8203 data (by decide) (by decide) (by decide) (by decide) hsz, hb, o6]
    by_cases hc : inB (IntKind.i8.wrap v) (-3) 4 = true
    · have hr := inB_iff.1 hc
      have c1 : ile (-3) (IntKind.i8.wrap v) = true := ile_true hr.1
      have c2 : ile (IntKind.i8.wrap v) 4 = true := ile_true hr.2
      rw [if_pos hc]
      simp only [pk, oelim_some, answer_spec, ans_get _ 8203 _ (by decide) (.inl (by decide)), show ieq 8203 8197 = false from rfl, show ieq 8203 8198 = false from rfl, show ieq 8203 8199 = false from rfl, show ieq 8203 8208 = false from rfl, show ieq 8203 8202 = false from rfl, show ieq 8203 8203 = true from rfl, c1, c2, tellL, smallL, setC, Int.reduceEq, if_false, if_true, twoL_eq, n0_0, i0_0, ieq_self, hbn, hwv, wrap_i8, beq_self_eq_true, cond_true, Bool.not_true, Bool.not_false, cond_false, hby, hbi, hx]
    · have c1 : (bif ile (-3) (IntKind.i8.wrap v) then some (ile (IntKind.i8.wrap v) 4, ()) else some (false, ())) = some (false, ()) := by
        by_cases h2 : -3 ≤ IntKind.i8.wrap v
        · rw [ile_true h2, ile_false (fun h' => hc (inB_iff.2 ⟨h2, h'⟩))]; rfl
        · rw [ile_false h2]; rfl
      rw [if_neg hc]
      simp only [pk, oelim_some, answer_spec, show ieq 8203 8197 = false from rfl, show ieq 8203 8198 = false from rfl, show ieq 8203 8199 = false from rfl, show ieq 8203 8208 = false from rfl, show ieq 8203 8202 = false from rfl, show ieq 8203 8203 = true from rfl, c1, tellL, smallL, setC, Int.reduceEq, if_false, if_true, twoL_eq, n0_0, i0_0, ieq_self, hbn, hwv, wrap_i8, beq_self_eq_true, cond_true, Bool.not_true, Bool.not_false, cond_false, hby, hbi, hx, none_]

end Go.Proofs.Ytccjnkhodgbghaa
