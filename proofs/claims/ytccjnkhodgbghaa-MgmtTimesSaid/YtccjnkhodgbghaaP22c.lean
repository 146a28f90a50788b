/- Typed forms of the functions that these statements reach, proved equal to what the model runs, and laws over them. -/
import Derived.Test.YtccjnkhodgbghaaP22b
namespace Go.Proofs.Ytccjnkhodgbghaa
open Go.Rf
set_option linter.unusedVariables false
set_option linter.unusedSimpArgs false
/-! ### answers -/
def knownB (id : Int) : Bool := id == 0 || (id == 5 || (decide (8192 ≤ id) && decide (id ≤ 8208)))
def cmdB (id : Int) : Bool := id == 0 || (id == 5 || (id == 8205 || id == 8206))
def fixB (id : Int) : Bool := (decide (8192 ≤ id) && decide (id ≤ 8196)) || (id == 8204 || id == 8207)
def sizeI (id : Int) : Int := if id = 0 ∨ id = 8205 ∨ id = 8206 then 0 else 2
theorem known_spec (id : Int) : mgmt_Known id = some ((knownB id, ()), (), ()) := by
  unfold mgmt_Known mgmt_Known.gen knownB ieq ile
  cases id == 0 <;> cases id == 5 <;> cases decide (8192 ≤ id) <;> rfl
theorem cmd_spec (id : Int) : mgmt_command id = some ((cmdB id, ()), (), ()) := by
  unfold mgmt_command mgmt_command.gen cmdB ieq
  cases id == 0 <;> cases id == 5 <;> cases id == 8205 <;> rfl
theorem fix_spec (id : Int) : mgmt_fixed id = some ((fixB id, ()), (), ()) := by
  unfold mgmt_fixed mgmt_fixed.gen fixB ieq ile
  cases decide (8192 ≤ id) <;> cases decide (id ≤ 8196) <;> cases id == 8204 <;> rfl
theorem size_spec (id : Int) : mgmt_size id = some ((sizeI id, ()), (), ()) := by
  unfold mgmt_size mgmt_size.gen sizeI
  by_cases h1 : id = 0
  · subst h1; rfl
  rw [ieq_false h1]
  by_cases h2 : id = 8205
  · subst h2; rfl
  rw [ieq_false h2]
  by_cases h3 : id = 8206
  · subst h3; rfl
  rw [ieq_false h3, if_neg (by omega)]; rfl

def setC (c : api_Conf) (id : Int) (b : UInt8) : api_Conf :=
  if id = 8197 then { c with fPriority1 := b.toNat } else if id = 8198 then { c with fPriority2 := b.toNat } else if id = 8199 then { c with fDomain := b.toNat }
  else if id = 8200 then { c with fSlaveOnly := ieq (iand .i64 (b.toNat : Int) 1) 1 } else if id = 8201 then { c with fLogAnn := IntKind.i8.wrap b.toNat } else if id = 8202 then { c with fTimeout := b.toNat }
  else if id = 8203 then { c with fLogSync := IntKind.i8.wrap b.toNat } else if id = 8208 then { c with fQuality := { c.fQuality with fAccuracy := b.toNat } } else c
theorem wrap_byte (b : UInt8) : IntKind.i64.wrap (ofN b.toNat) = (b.toNat : Int) := by
  have := UInt8.toNat_lt b
  rw [iwrap]
  show ((b.toNat : Int) + 9223372036854775808) % 18446744073709551616 - 9223372036854775808 = _
  omega
theorem i8_r (n : Int) : -128 ≤ IntKind.i8.wrap n ∧ IntKind.i8.wrap n < 128 := by
  simp only [IntKind.wrap, IntKind.signed, IntKind.bits]
  simp
  omega
theorem wrap_i8 (n : Int) : IntKind.i64.wrap (IntKind.i8.wrap n) = IntKind.i8.wrap n := by
  have := i8_r n
  rw [iwrap]; omega
theorem set_spec (c : api_Conf) (id : Int) (data : ByteArray) (h : 0 < data.size) : mgmt_set c id data = some ((setC c id (data.data.toList.getD 0 0), ()), (), ()) := by
  have h0 : inR 0 data.size = true := inR_true (by omega) (by omega)
  unfold mgmt_set mgmt_set.gen setC
  rw [show Int.toNat 0 = 0 from rfl]
  simp only [h0, cond_true, wrap_byte, wrap_i8, ofN]
  by_cases h1 : id = 8197
  · rw [ieq_true h1, if_pos h1]; rfl
  rw [ieq_false h1, if_neg h1]
  by_cases h2 : id = 8198
  · rw [ieq_true h2, if_pos h2]; rfl
  rw [ieq_false h2, if_neg h2]
  by_cases h3 : id = 8199
  · rw [ieq_true h3, if_pos h3]; rfl
  rw [ieq_false h3, if_neg h3]
  by_cases h4 : id = 8200
  · rw [ieq_true h4, if_pos h4]; rfl
  rw [ieq_false h4, if_neg h4]
  by_cases h5 : id = 8201
  · rw [ieq_true h5, if_pos h5]; rfl
  rw [ieq_false h5, if_neg h5]
  by_cases h6 : id = 8202
  · rw [ieq_true h6, if_pos h6]; rfl
  rw [ieq_false h6, if_neg h6]
  by_cases h7 : id = 8203
  · rw [ieq_true h7, if_pos h7]; rfl
  rw [ieq_false h7, if_neg h7]
  by_cases h8 : id = 8208
  · rw [ieq_true h8, if_pos h8]; rfl
  rw [ieq_false h8, if_neg h8]; rfl

def none_ : ByteArray := ByteArray.mk (lnil UInt8).toArray
def ans (v : mgmt_View) (action id : Int) (data : ByteArray) : ByteArray × api_Conf × Int :=
  if knownB id = false then (none_, v.fConf, 2)
  else if action ≠ 0 ∧ action ≠ 1 ∧ action ≠ 3 then (none_, v.fConf, 6)
  else if action = 3 ∧ cmdB id = false ∨ action ≠ 3 ∧ cmdB id = true ∧ id ≠ 0 then (none_, v.fConf, 6)
  else if action = 1 ∧ fixB id = true then (none_, v.fConf, 5)
  else if action ≠ 0 ∧ (data.size : Int) ≠ sizeI id then (none_, v.fConf, 3)
  else if action = 3 then (data, v.fConf, 0)
  else if action = 1 ∧ id ≠ 0 then
    (if okC (setC v.fConf id (data.data.toList.getD 0 0)) = true then (ByteArray.mk (tellL { v with fConf := setC v.fConf id (data.data.toList.getD 0 0) } id).toArray, setC v.fConf id (data.data.toList.getD 0 0), 0) else (none_, v.fConf, 4))
  else (ByteArray.mk (tellL v id).toArray, v.fConf, 0)

def pk (x : ByteArray × api_Conf × Int) : Option ((ByteArray × api_Conf × Int × Unit) × Unit × Unit) := some ((x.1, x.2.1, x.2.2, ()), (), ())

theorem i0_0 : ieq 0 0 = true := rfl
theorem i0_1 : ieq 0 1 = false := rfl
theorem i0_3 : ieq 0 3 = false := rfl
theorem i1_0 : ieq 1 0 = false := rfl
theorem i1_1 : ieq 1 1 = true := rfl
theorem i1_3 : ieq 1 3 = false := rfl
theorem i3_0 : ieq 3 0 = false := rfl
theorem i3_1 : ieq 3 1 = false := rfl
theorem i3_3 : ieq 3 3 = true := rfl
theorem i15_0 : ieq 15 0 = false := rfl
theorem n0_0 : ine 0 0 = false := rfl
theorem n0_1 : ine 0 1 = true := rfl
theorem n0_3 : ine 0 3 = true := rfl
theorem n1_0 : ine 1 0 = true := rfl
theorem n1_1 : ine 1 1 = false := rfl
theorem n1_3 : ine 1 3 = true := rfl
theorem n3_0 : ine 3 0 = true := rfl
theorem n3_1 : ine 3 1 = true := rfl
theorem n3_3 : ine 3 3 = false := rfl
theorem n15_0 : ine 15 0 = true := rfl

theorem answer_spec (v : mgmt_View) (action id : Int) (data : ByteArray) : mgmt_Answer v action id data = pk (ans v action id data) := by
  unfold mgmt_Answer mgmt_Answer.gen ans
  simp only [known_spec, cmd_spec, fix_spec, size_spec, oelim_some, tell_spec, conf_spec]
  cases hk : knownB id
  · rfl
  simp only [Bool.not_true, cond_false, Bool.true_eq_false, if_false]
  -- what is set
  have hset : action = 1 → id ≠ 0 → fixB id = false → (data.size : Int) = sizeI id → cmdB id = false → 0 < data.size := fun _ h1 _ h3 h4 => by
    have : ¬ (id = 0 ∨ id = 8205 ∨ id = 8206) := by
      rintro (h | h | h)
      · exact h1 h
      · subst h; cases h4
      · subst h; cases h4
    rw [sizeI, if_neg this] at h3
    omega
  by_cases a3 : action = 3
  · subst a3
    rw [if_neg (by omega)]
    cases hc : cmdB id
    · rw [if_pos (.inl ⟨rfl, rfl⟩)]; rfl
    · rw [if_neg (by simp), if_neg (by omega)]
      by_cases hz : (data.size : Int) = sizeI id
      · rw [if_neg (by simp [hz]), if_pos rfl]
        simp [oelim_some, i0_0, i0_1, i0_3, i1_0, i1_1, i1_3, i3_0, i3_1, i3_3, i15_0, n0_0, n0_1, n0_3, n1_0, n1_1, n1_3, n3_0, n3_1, n3_3, n15_0, ine_false (show ofN data.size = sizeI id from hz), pk]
      · rw [if_pos ⟨by omega, hz⟩]
        simp [oelim_some, i0_0, i0_1, i0_3, i1_0, i1_1, i1_3, i3_0, i3_1, i3_3, i15_0, n0_0, n0_1, n0_3, n1_0, n1_1, n1_3, n3_0, n3_1, n3_3, n15_0, ine_true (show ¬ ofN data.size = sizeI id from hz), pk, none_]
  · have e3 : ieq action 3 = false := ieq_false a3
    have n3 : ine action 3 = true := ine_true a3
    by_cases a0 : action = 0
    · subst a0
      rw [if_neg (by omega)]
      by_cases hc : cmdB id = true ∧ id ≠ 0
      · rw [if_pos (.inr ⟨by omega, hc.1, hc.2⟩)]
        simp [oelim_some, e3, n3, hc.1, ine_true hc.2, i0_0, i0_1, i0_3, i1_0, i1_1, i1_3, i3_0, i3_1, i3_3, i15_0, n0_0, n0_1, n0_3, n1_0, n1_1, n1_3, n3_0, n3_1, n3_3, n15_0, pk, none_]
      · rw [if_neg (by rintro (⟨h, _⟩ | ⟨_, h⟩); · omega
                       · exact hc h), if_neg (by omega), if_neg (by omega), if_neg (by omega), if_neg (by omega)]
        have hb : (bif cmdB id then some (ine id 0, ()) else some (false, ())) = some (false, ()) := by
          cases h1 : cmdB id
          · rfl
          · by_cases h2 : id = 0
            · rw [ine_false h2]; rfl
            · exact absurd ⟨h1, h2⟩ hc
        simp [oelim_some, e3, n3, hb, i0_0, i0_1, i0_3, i1_0, i1_1, i1_3, i3_0, i3_1, i3_3, i15_0, n0_0, n0_1, n0_3, n1_0, n1_1, n1_3, n3_0, n3_1, n3_3, n15_0, pk]
    · by_cases a1 : action = 1
      · subst a1
        rw [if_neg (by omega)]
        by_cases hc : cmdB id = true ∧ id ≠ 0
        · rw [if_pos (.inr ⟨by omega, hc.1, hc.2⟩)]
          simp [oelim_some, e3, n3, hc.1, ine_true hc.2, i0_0, i0_1, i0_3, i1_0, i1_1, i1_3, i3_0, i3_1, i3_3, i15_0, n0_0, n0_1, n0_3, n1_0, n1_1, n1_3, n3_0, n3_1, n3_3, n15_0, pk, none_]
        · rw [if_neg (by rintro (⟨h, _⟩ | ⟨_, h⟩); · omega
                         · exact hc h)]
          have hb : (bif cmdB id then some (ine id 0, ()) else some (false, ())) = some (false, ()) := by
            cases h1 : cmdB id
            · rfl
            · by_cases h2 : id = 0
              · rw [ine_false h2]; rfl
              · exact absurd ⟨h1, h2⟩ hc
          cases hf : fixB id
          · rw [if_neg (by simp)]
            by_cases hz : (data.size : Int) = sizeI id
            · rw [if_neg (by simp [hz]), if_neg (by omega)]
              by_cases h0 : id = 0
              · rw [if_neg (by simp [h0])]
                simp [oelim_some, e3, n3, hb, i0_0, i0_1, i0_3, i1_0, i1_1, i1_3, i3_0, i3_1, i3_3, i15_0, n0_0, n0_1, n0_3, n1_0, n1_1, n1_3, n3_0, n3_1, n3_3, n15_0, pk, ine_false (show ofN data.size = sizeI id from hz), ine_false h0]
              · rw [if_pos ⟨rfl, h0⟩]
                have hcf : cmdB id = false := by
                  cases h1 : cmdB id
                  · rfl
                  · exact absurd ⟨h1, h0⟩ hc
                have hd := hset rfl h0 hf hz hcf
                simp only [set_spec _ _ _ hd, oelim_some]
                cases hok : okC (setC v.fConf id (data.data.toList.getD 0 0))
                · simp [oelim_some, e3, n3, hb, hok, i0_0, i0_1, i0_3, i1_0, i1_1, i1_3, i3_0, i3_1, i3_3, i15_0, n0_0, n0_1, n0_3, n1_0, n1_1, n1_3, n3_0, n3_1, n3_3, n15_0, pk, ine_false (show ofN data.size = sizeI id from hz), ine_true h0, hcf, none_]
                · simp [oelim_some, e3, n3, hb, hok, i0_0, i0_1, i0_3, i1_0, i1_1, i1_3, i3_0, i3_1, i3_3, i15_0, n0_0, n0_1, n0_3, n1_0, n1_1, n1_3, n3_0, n3_1, n3_3, n15_0, pk, ine_false (show ofN data.size = sizeI id from hz), ine_true h0, hcf]
            · rw [if_pos ⟨by omega, hz⟩]
              simp [oelim_some, e3, n3, hb, i0_0, i0_1, i0_3, i1_0, i1_1, i1_3, i3_0, i3_1, i3_3, i15_0, n0_0, n0_1, n0_3, n1_0, n1_1, n1_3, n3_0, n3_1, n3_3, n15_0, pk, ine_true (show ¬ ofN data.size = sizeI id from hz), none_]
          · rw [if_pos ⟨rfl, rfl⟩]
            simp [oelim_some, e3, n3, hb, i0_0, i0_1, i0_3, i1_0, i1_1, i1_3, i3_0, i3_1, i3_3, i15_0, n0_0, n0_1, n0_3, n1_0, n1_1, n1_3, n3_0, n3_1, n3_3, n15_0, pk, none_]
      · rw [if_pos ⟨a0, a1, a3⟩]
        simp [oelim_some, ine_true a0, ine_true a1, ine_true a3, pk, none_]

end Go.Proofs.Ytccjnkhodgbghaa
