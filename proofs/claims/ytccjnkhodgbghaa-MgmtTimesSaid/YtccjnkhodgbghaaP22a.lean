/- Typed forms of the functions that these statements reach, proved equal to what the model runs, and laws over them. -/
import Derived.Test.YtccjnkhodgbghaaS22
import Derived.Test.YtccjnkhodgbghaaAr2
import Derived.Laws.Strings
namespace Go.Proofs.Ytccjnkhodgbghaa
open Go.Rf
set_option linter.unusedVariables false
set_option linter.unusedSimpArgs false
theorem place_spec (v n : Int) (hn : 0 < n) (hn2 : n ≤ 4611686018427387904) : law00_Place v n = some ((v % n, ()), (), ()) := by
  have h1 : ine n 0 = true := ine_true (by omega)
  have h2 := Int.emod_nonneg v (Int.ne_of_gt hn)
  have h3 := Int.emod_lt_of_pos v hn
  obtain ⟨h4, h5⟩ := tmod_place v n hn
  unfold law00_Place law00_Place.gen
  rw [h1]
  simp only [cond_true]
  by_cases hc : v.tmod n < 0
  · have e : iadd .i64 (irem v n) n = v % n := by
      have := h4 hc
      rw [iadd_of] <;> simp only [irem] <;> omega
    rw [show ilt (irem v n) 0 = true from ilt_true hc, e]; simp only [cond_true]
  · rw [show ilt (irem v n) 0 = false from ilt_false hc, show irem v n = v % n from h5 hc]; simp only [cond_false]

/-! ### configurations -/
def outB (x lo hi : Int) : Option (Bool × Unit) := bif ilt x lo then some (true, ()) else some (ilt hi x, ())
def inB (x lo hi : Int) : Bool := decide (lo ≤ x) && decide (x ≤ hi)
theorem outB_spec (x lo hi : Int) : outB x lo hi = some (!inB x lo hi, ()) := by
  unfold outB inB
  by_cases h1 : x < lo
  · rw [ilt_true h1]; simp [show ¬ lo ≤ x by omega]
  · rw [ilt_false h1]
    by_cases h2 : hi < x
    · rw [ilt_true h2]; simp [show ¬ x ≤ hi by omega]
    · rw [ilt_false h2]; simp [show lo ≤ x by omega, show x ≤ hi by omega]
theorem inB_iff {x lo hi : Int} : inB x lo hi = true ↔ lo ≤ x ∧ x ≤ hi := by simp [inB]
def mayQ (q : api_Quality) : Bool := inB q.fClass 0 255 && inB q.fAccuracy 0 255 && inB q.fVariance 0 65535
theorem quality_may_spec (q : api_Quality) : quality_May q = some ((mayQ q, ()), (), ()) := by
  unfold quality_May quality_May.gen mayQ inB ile
  cases decide (0 ≤ q.fClass) <;> cases decide (q.fClass ≤ 255) <;> cases decide (0 ≤ q.fAccuracy) <;> cases decide (q.fAccuracy ≤ 255) <;> cases decide (0 ≤ q.fVariance) <;> rfl
def confNF (c : api_Conf) : Option (((Int) × Unit) × (Unit) × (Unit)) :=
  (oelim (outB c.fPorts 1 8) none fun r => (bif r.1 then some ((15, ()), (), ()) else (oelim (outB c.fDomain 0 127) none fun r => (bif r.1 then some ((15, ()), (), ()) else (oelim (outB c.fPriority1 0 255) none fun r => (bif r.1 then some ((15, ()), (), ()) else (oelim (outB c.fPriority2 0 255) none fun r => (bif r.1 then some ((15, ()), (), ()) else (oelim (outB c.fLogAnn (-3) 4) none fun r => (bif r.1 then some ((15, ()), (), ()) else (oelim (outB c.fLogSync (-3) 4) none fun r => (bif r.1 then some ((15, ()), (), ()) else (oelim (outB c.fLogDelay (-3) 4) none fun r => (bif r.1 then some ((15, ()), (), ()) else (oelim (outB c.fTimeout 2 10) none fun r => (bif r.1 then some ((15, ()), (), ()) else (oelim (outB c.fMedian 1 15) none fun r => (bif r.1 then some ((15, ()), (), ()) else (oelim (outB c.fKp 0 2000) none fun r => (bif r.1 then some ((15, ()), (), ()) else (oelim (outB c.fKi 0 2000) none fun r => (bif r.1 then some ((15, ()), (), ()) else (oelim (outB c.fStep 0 1000000000) none fun r => (bif r.1 then some ((15, ()), (), ()) else (oelim (outB c.fTimes.fUtc (-32768) 32767) none fun r => (bif r.1 then some ((15, ()), (), ()) else (oelim (outB c.fTimes.fFlags 0 63) none fun r => (bif r.1 then some ((15, ()), (), ()) else (oelim (outB c.fTimes.fOrigin 0 255) none fun r => (bif r.1 then some ((15, ()), (), ()) else (oelim (bif ieq c.fClock 0 then some (true, ()) else (bif ieq c.fClock 18446744073709551615 then some (true, ()) else (oelim (quality_May c.fQuality) none fun r15 => some (!r15.1.1, ())))) none fun r16 => (bif r16.1 then some ((15, ()), (), ()) else (oelim (bif c.fSlaveOnly then (bif ilt 1 c.fPorts then some (true, ()) else some (ine c.fQuality.fClass 255, ())) else some (false, ())) none fun r17 => (bif r17.1 then some ((15, ()), (), ()) else some ((0, ()), (), ())))))))))))))))))))))))))))))))))))
theorem conf_nf (c : api_Conf) : conf_Check c = confNF c := by kernel_rfl
def numsB (c : api_Conf) : Bool := inB c.fPorts 1 8 && inB c.fDomain 0 127 && inB c.fPriority1 0 255 && inB c.fPriority2 0 255 && inB c.fLogAnn (-3) 4 && inB c.fLogSync (-3) 4 && inB c.fLogDelay (-3) 4 && inB c.fTimeout 2 10 && inB c.fMedian 1 15 && inB c.fKp 0 2000 && inB c.fKi 0 2000 && inB c.fStep 0 1000000000 && inB c.fTimes.fUtc (-32768) 32767 && inB c.fTimes.fFlags 0 63 && inB c.fTimes.fOrigin 0 255
def okC (c : api_Conf) : Bool := numsB c && mayQ c.fQuality && c.fClock != 0 && c.fClock != 18446744073709551615 && (!c.fSlaveOnly || (c.fPorts == 1 && c.fQuality.fClass == 255))
theorem conf_spec (c : api_Conf) : conf_Check c = some ((if okC c then 0 else 15, ()), (), ()) := by
  rw [conf_nf]
  unfold confNF okC numsB
  simp only [outB_spec, oelim_some, quality_may_spec]
  cases h0 : inB c.fPorts 1 8
  · simp
  simp only [Bool.not_true, cond_false, Bool.true_and, Bool.and_true]
  cases h1 : inB c.fDomain 0 127
  · simp
  simp only [Bool.not_true, cond_false, Bool.true_and, Bool.and_true]
  cases h2 : inB c.fPriority1 0 255
  · simp
  simp only [Bool.not_true, cond_false, Bool.true_and, Bool.and_true]
  cases h3 : inB c.fPriority2 0 255
  · simp
  simp only [Bool.not_true, cond_false, Bool.true_and, Bool.and_true]
  cases h4 : inB c.fLogAnn (-3) 4
  · simp
  simp only [Bool.not_true, cond_false, Bool.true_and, Bool.and_true]
  cases h5 : inB c.fLogSync (-3) 4
  · simp
  simp only [Bool.not_true, cond_false, Bool.true_and, Bool.and_true]
  cases h6 : inB c.fLogDelay (-3) 4
  · simp
  simp only [Bool.not_true, cond_false, Bool.true_and, Bool.and_true]
  cases h7 : inB c.fTimeout 2 10
  · simp
  simp only [Bool.not_true, cond_false, Bool.true_and, Bool.and_true]
  cases h8 : inB c.fMedian 1 15
  · simp
  simp only [Bool.not_true, cond_false, Bool.true_and, Bool.and_true]
  cases h9 : inB c.fKp 0 2000
  · simp
  simp only [Bool.not_true, cond_false, Bool.true_and, Bool.and_true]
  cases h10 : inB c.fKi 0 2000
  · simp
  simp only [Bool.not_true, cond_false, Bool.true_and, Bool.and_true]
  cases h11 : inB c.fStep 0 1000000000
  · simp
  simp only [Bool.not_true, cond_false, Bool.true_and, Bool.and_true]
  cases h12 : inB c.fTimes.fUtc (-32768) 32767
  · simp
  simp only [Bool.not_true, cond_false, Bool.true_and, Bool.and_true]
  cases h13 : inB c.fTimes.fFlags 0 63
  · simp
  simp only [Bool.not_true, cond_false, Bool.true_and, Bool.and_true]
  cases h14 : inB c.fTimes.fOrigin 0 255
  · simp
  simp only [Bool.not_true, cond_false, Bool.true_and, Bool.and_true]
  cases hq : mayQ c.fQuality
  · by_cases e1 : c.fClock = 0
    · simp [ieq, e1, oelim_some]
    · by_cases e2 : c.fClock = 18446744073709551615
      · simp [ieq, e2, oelim_some]
      · simp [ieq, e1, e2, oelim_some]
  by_cases e1 : c.fClock = 0
  · simp [ieq, e1, oelim_some]
  by_cases e2 : c.fClock = 18446744073709551615
  · simp [ieq, e2, oelim_some]
  have hp := inB_iff.1 h0
  have f1 : (c.fClock == 0) = false := by simpa using e1
  have f2 : (c.fClock == 18446744073709551615) = false := by simpa using e2
  cases hs : c.fSlaveOnly
  · simp [ieq, f1, f2, e1, e2, oelim_some]
  by_cases e3 : c.fPorts = 1
  · by_cases e4 : c.fQuality.fClass = 255
    · simp [ieq, ine, ilt, f1, f2, e1, e2, e3, e4, oelim_some]
    · have f4 : (c.fQuality.fClass == 255) = false := by simpa using e4
      have g4 : (c.fQuality.fClass != 255) = true := by simpa using e4
      simp [ieq, ine, ilt, f1, f2, e1, e2, e3, e4, f4, g4, oelim_some]
  · have : ilt 1 c.fPorts = true := ilt_true (by omega)
    simp [ieq, f1, f2, e1, e2, e3, this, oelim_some]
theorem in_spec (x lo hi : Int) : ref05_In x lo hi = some ((inB x lo hi, ()), (), ()) := by
  unfold ref05_In ref05_In.gen inB ile
  cases decide (lo ≤ x) <;> rfl
theorem ref_may_spec (q : api_Quality) : ref05_May q = some ((mayQ q, ()), (), ()) := by
  unfold ref05_May ref05_May.gen mayQ
  simp only [in_spec, oelim_some]
  cases inB q.fClass 0 255 <;> cases inB q.fAccuracy 0 255 <;> rfl
theorem ref_conf_spec (c : api_Conf) : ref10_Check c = some ((if okC c then 0 else 15, ()), (), ()) := by
  unfold ref10_Check ref10_Check.gen okC numsB
  simp only [in_spec, ref_may_spec, oelim_some]
  cases h0 : inB c.fPorts 1 8
  · simp [oelim_some, some_bif]
  cases h1 : inB c.fDomain 0 127
  · simp [oelim_some, some_bif]
  cases h2 : inB c.fPriority1 0 255
  · simp [oelim_some, some_bif]
  cases h3 : inB c.fPriority2 0 255
  · simp [oelim_some, some_bif]
  cases h4 : inB c.fLogAnn (-3) 4
  · simp [oelim_some, some_bif]
  cases h5 : inB c.fLogSync (-3) 4
  · simp [oelim_some, some_bif]
  cases h6 : inB c.fLogDelay (-3) 4
  · simp [oelim_some, some_bif]
  cases h7 : inB c.fTimeout 2 10
  · simp [oelim_some, some_bif]
  cases h8 : inB c.fMedian 1 15
  · simp [oelim_some, some_bif]
  cases h9 : inB c.fKp 0 2000
  · simp [oelim_some, some_bif]
  cases h10 : inB c.fKi 0 2000
  · simp [oelim_some, some_bif]
  cases h11 : inB c.fStep 0 1000000000
  · simp [oelim_some, some_bif]
  cases h12 : inB c.fTimes.fUtc (-32768) 32767
  · simp [oelim_some, some_bif]
  cases h13 : inB c.fTimes.fFlags 0 63
  · simp [oelim_some, some_bif]
  cases h14 : inB c.fTimes.fOrigin 0 255
  · simp [oelim_some, some_bif]
  cases hq : mayQ c.fQuality
  · simp [oelim_some, some_bif]
  simp only [oelim_some, cond_true, Bool.not_true, cond_false]
  by_cases e1 : c.fClock = 0
  · simp [ieq, e1, oelim_some]
  by_cases e2 : c.fClock = 18446744073709551615
  · simp [ieq, e2, oelim_some]
  have f1 : (c.fClock == 0) = false := by simpa using e1
  have f2 : (c.fClock == 18446744073709551615) = false := by simpa using e2
  cases hs : c.fSlaveOnly
  · simp [ieq, f1, f2, e1, e2, oelim_some]
  by_cases e3 : c.fPorts = 1
  · by_cases e4 : c.fQuality.fClass = 255
    · simp [ieq, ine, f1, f2, e1, e2, e3, e4, oelim_some]
    · have g4 : (c.fQuality.fClass != 255) = true := by simpa using e4
      simp [ieq, ine, f1, f2, e1, e2, e3, e4, g4, oelim_some]
  · have g3 : (c.fPorts != 1) = true := by simpa using e3
    simp [ieq, ine, f1, f2, e1, e2, e3, g3, oelim_some]

/-! ### bytes -/
def byteI (e : Int) : UInt8 := UInt8.ofNat (IntKind.u8.wrap e).toNat
def be (v : Int) : Nat → List UInt8
  | 0 => []
  | k + 1 => byteI (ishr .i64 v (8 * (k : Int))) :: be v k
theorem be_length (v : Int) : ∀ k, (be v k).length = k
  | 0 => rfl
  | k + 1 => by simp [be, be_length v k]
theorem room_true {n m : Nat} (h : n * m ≤ 140737488355328) : room n m = true := Nat.ble_eq_true_of_le h

theorem put_step (b : List UInt8) (v : Int) (k : Nat) (hk : k < 8) (hb : b.length < 140737488355328) :
    octets_Put.step0 ((b, v, ((k + 1 : Nat) : Int), ()), ()) = some (.inl ((b ++ [byteI (ishr .i64 v (8 * (k : Int)))], v, (k : Int), ()), ())) := by
  have e1 : isub .i64 ((k + 1 : Nat) : Int) 1 = (k : Int) := by have := isub_of (a := ((k + 1 : Nat) : Int)) (b := 1) (by omega); omega
  have e2 : imul .i64 8 (k : Int) = 8 * (k : Int) := imul_of (by omega)
  unfold octets_Put.step0
  simp only [e1, e2, ilt_true (show (0 : Int) < ((k + 1 : Nat) : Int) by omega), ile_true (show (0 : Int) ≤ 8 * (k : Int) by omega), cond_true]
  rw [room_true (by simp; omega)]
  rfl

theorem put_loop (v : Int) : ∀ (k : Nat) (b : List UInt8), k ≤ 8 → b.length + k < 140737488355328 → octets_Put.F0 ((b, v, (k : Int), ()), ()) = some ((b ++ be v k, ()), ()) := by
  intro k b hk hb
  obtain ⟨r, h1, h2⟩ := loopFix_rule (step := octets_Put.step0) (Inv := fun a => ∃ (i : Nat) (c : List UInt8), a = ((c, v, (i : Int), ()), ()) ∧ i ≤ k ∧ c ++ be v i = b ++ be v k)
    (Post := fun r => r = ((b ++ be v k, ()), ())) (m := fun a => a.1.2.2.1.toNat) (by
      rintro x ⟨i, c, rfl, hi, hc⟩
      cases i with
      | zero =>
        refine .inr ⟨_, ?_, rfl⟩
        unfold octets_Put.step0
        simp only [ilt_false (show ¬ (0 : Int) < ((0 : Nat) : Int) by decide), cond_false]
        rw [← hc]; simp [be]
      | succ i =>
        have hcl : c.length + (i + 1) = b.length + k := by
          have := congrArg List.length hc
          simpa [be_length] using this
        refine .inl ⟨_, put_step c v i (by omega) (by omega), ⟨i, _, rfl, by omega, ?_⟩, by simp only [Int.toNat_natCast]; omega⟩
        rw [← hc]; simp [be]) (1000000 + b.length) ((b, v, (k : Int), ()), ()) ⟨k, b, rfl, Nat.le_refl _, rfl⟩ (by simp only [Int.toNat_natCast]; omega)
  subst h2
  exact h1

theorem put_spec (b : List UInt8) (v : Int) (k : Nat) (hk : k ≤ 8) (hb : b.length + k < 140737488355328) : octets_Put b v (k : Int) = some ((b ++ be v k, ()), (), ()) := by
  have e0 : opMinMax true 0 (opMinMax false (k : Int) 8) = (k : Int) := by
    simp only [opMinMax, cond_true, cond_false, imin, imax]
    split <;> split <;> omega
  have e3 : (bif le3 (ofN (0 : Nat)) (ofN b.length) b.length then ieq (ofN b.length) (ofN b.length) else false) = true := by
    simp [le3, ile, ieq]
  have e4 : List.drop (ofN (0 : Nat)).toNat (List.take (ofN b.length).toNat b) = b := by simp
  unfold octets_Put octets_Put.gen
  simp only [e0, e3, e4, cond_true]
  cases k with
  | zero => simp [ilt, be]
  | succ k =>
    have e1 : isub .i64 ((k + 1 : Nat) : Int) 1 = (k : Int) := by have := isub_of (a := ((k + 1 : Nat) : Int)) (b := 1) (by omega); omega
    have e2 : imul .i64 8 (k : Int) = 8 * (k : Int) := imul_of (by omega)
    simp only [e1, e2, ilt_true (show (0 : Int) < ((k + 1 : Nat) : Int) by omega), ile_true (show (0 : Int) ≤ 8 * (k : Int) by omega), cond_true]
    rw [room_true (by simp; omega)]
    have h := put_loop v k (b ++ [byteI (ishr .i64 v (8 * (k : Int)))]) (by omega) (by simp; omega)
    have h : octets_Put.F0 ((b ++ UInt8.ofNat (IntKind.u8.wrap (ishr .i64 v (8 * (k : Int)))).toNat :: lnil UInt8, v, (k : Int), ()), ()) = _ := h
    rw [h]
    simp [oelim_some, be]

end Go.Proofs.Ytccjnkhodgbghaa
