/- Typed forms of the functions that these statements reach, proved equal to what the model runs, and laws over them. -/
import Derived.Test.YtgnabnhggaondaaGreatS
import Derived.Test.YtgnabnhggaondaaGreatAr3
import Derived.KernelRfl
namespace Go.Proofs.YtgnabnhggaondaaGreat
open Go.Rf
set_option linter.unusedVariables false
set_option linter.unusedSimpArgs false
set_option maxRecDepth 100000
abbrev e0_ : Nat × (Nat → D .t_clock_Clock) := (0, fun _ => U.dft .t_clock_Clock)
abbrev e1_ : Nat × (Nat → D .t_delay_Exchange) := (0, fun _ => U.dft .t_delay_Exchange)
abbrev e2_ : Nat × (Nat → D .t_foreign_Table) := (0, fun _ => U.dft .t_foreign_Table)
abbrev e3_ : Nat × (Nat → D .t_median_Filter) := (0, fun _ => U.dft .t_median_Filter)
abbrev e4_ : Nat × (Nat → D .t_peer_Exchange) := (0, fun _ => U.dft .t_peer_Exchange)
abbrev e5_ : Nat × (Nat → D .t_seq_Match) := (0, fun _ => U.dft .t_seq_Match)
abbrev e6_ : Nat × (Nat → D .t_servo_Servo) := (0, fun _ => U.dft .t_servo_Servo)
def outB (x lo hi : Int) : Option (Bool × Unit) := bif ilt x lo then some (true, ()) else some (ilt hi x, ())
def inB (x lo hi : Int) : Bool := decide (lo ≤ x) && decide (x ≤ hi)
theorem outB_spec (x lo hi : Int) : outB x lo hi = some (!inB x lo hi, ()) := by
 unfold outB inB
 by_cases h1 : x < lo
 ·rw [ilt_true h1]; simp [show ¬ lo ≤ x by omega]
 ·rw [ilt_false h1]
  by_cases h2 : hi < x
  ·rw [ilt_true h2]; simp [show ¬ x ≤ hi by omega]
  ·rw [ilt_false h2]; simp [show lo ≤ x by omega, show x ≤ hi by omega]
theorem inB_iff {x lo hi : Int} : inB x lo hi = true ↔ lo ≤ x ∧ x ≤ hi := by simp [inB]
def mayQ (q : api_Quality) : Bool := inB q.fClass 0 255 && inB q.fAccuracy 0 255 && inB q.fVariance 0 65535
theorem quality_may_spec (q : api_Quality) : K90 q = some ((mayQ q, ()), (), ()) := by
 unfold K90 K90.gen mayQ inB ile
 cases decide (0 ≤ q.fClass) <;> cases decide (q.fClass ≤ 255) <;> cases decide (0 ≤ q.fAccuracy) <;> cases decide (q.fAccuracy ≤ 255) <;> cases decide (0 ≤ q.fVariance) <;> rfl
noncomputable def confNF (c : api_Conf) : Option (((Int) × Unit) × (Unit) × (Unit)) :=
 (oelim (outB c.fPorts 1 8) none fun r => (bif r.1 then some ((15, ()), (), ()) else (oelim (outB c.fDomain 0 127) none fun r => (bif r.1 then some ((15, ()), (), ()) else (oelim (outB c.fPriority1 0 255) none fun r => (bif r.1 then some ((15, ()), (), ()) else (oelim (outB c.fPriority2 0 255) none fun r => (bif r.1 then some ((15, ()), (), ()) else (oelim (outB c.fLogAnn (-3) 4) none fun r => (bif r.1 then some ((15, ()), (), ()) else (oelim (outB c.fLogSync (-3) 4) none fun r => (bif r.1 then some ((15, ()), (), ()) else (oelim (outB c.fLogDelay (-3) 4) none fun r => (bif r.1 then some ((15, ()), (), ()) else (oelim (outB c.fTimeout 2 10) none fun r => (bif r.1 then some ((15, ()), (), ()) else (oelim (outB c.fMedian 1 15) none fun r => (bif r.1 then some ((15, ()), (), ()) else (oelim (outB c.fKp 0 2000) none fun r => (bif r.1 then some ((15, ()), (), ()) else (oelim (outB c.fKi 0 2000) none fun r => (bif r.1 then some ((15, ()), (), ()) else (oelim (outB c.fStep 0 1000000000) none fun r => (bif r.1 then some ((15, ()), (), ()) else (oelim (outB c.fTimes.fUtc (-32768) 32767) none fun r => (bif r.1 then some ((15, ()), (), ()) else (oelim (outB c.fTimes.fFlags 0 63) none fun r => (bif r.1 then some ((15, ()), (), ()) else (oelim (outB c.fTimes.fOrigin 0 255) none fun r => (bif r.1 then some ((15, ()), (), ()) else (oelim (bif ieq c.fClock 0 then some (true, ()) else (bif ieq c.fClock 18446744073709551615 then some (true, ()) else (oelim (K90 c.fQuality) none fun r15 => some (!r15.1.1, ())))) none fun r16 => (bif r16.1 then some ((15, ()), (), ()) else (oelim (bif c.fSlaveOnly then (bif ilt 1 c.fPorts then some (true, ()) else some (ine c.fQuality.fClass 255, ())) else some (false, ())) none fun r17 => (bif r17.1 then some ((15, ()), (), ()) else some ((0, ()), (), ())))))))))))))))))))))))))))))))))))
theorem conf_nf (c : api_Conf) : K40 c = confNF c := by kernel_rfl
def numsB (c : api_Conf) : Bool := inB c.fPorts 1 8 && inB c.fDomain 0 127 && inB c.fPriority1 0 255 && inB c.fPriority2 0 255 && inB c.fLogAnn (-3) 4 && inB c.fLogSync (-3) 4 && inB c.fLogDelay (-3) 4 && inB c.fTimeout 2 10 && inB c.fMedian 1 15 && inB c.fKp 0 2000 && inB c.fKi 0 2000 && inB c.fStep 0 1000000000 && inB c.fTimes.fUtc (-32768) 32767 && inB c.fTimes.fFlags 0 63 && inB c.fTimes.fOrigin 0 255
def okC (c : api_Conf) : Bool := numsB c && mayQ c.fQuality && c.fClock != 0 && c.fClock != 18446744073709551615 && (!c.fSlaveOnly || (c.fPorts == 1 && c.fQuality.fClass == 255))
theorem conf_spec (c : api_Conf) : K40 c = some ((if okC c then 0 else 15, ()), (), ()) := by
 rw [conf_nf]
 unfold confNF okC numsB
 simp only [outB_spec, oelim_some, quality_may_spec]
 cases h0 : inB c.fPorts 1 8
 ·simp
 simp only [Bool.not_true, cond_false, Bool.true_and, Bool.and_true]
 cases h1 : inB c.fDomain 0 127
 ·simp
 simp only [Bool.not_true, cond_false, Bool.true_and, Bool.and_true]
 cases h2 : inB c.fPriority1 0 255
 ·simp
 simp only [Bool.not_true, cond_false, Bool.true_and, Bool.and_true]
 cases h3 : inB c.fPriority2 0 255
 ·simp
 simp only [Bool.not_true, cond_false, Bool.true_and, Bool.and_true]
 cases h4 : inB c.fLogAnn (-3) 4
 ·simp
 simp only [Bool.not_true, cond_false, Bool.true_and, Bool.and_true]
 cases h5 : inB c.fLogSync (-3) 4
 ·simp
 simp only [Bool.not_true, cond_false, Bool.true_and, Bool.and_true]
 cases h6 : inB c.fLogDelay (-3) 4
 ·simp
 simp only [Bool.not_true, cond_false, Bool.true_and, Bool.and_true]
 cases h7 : inB c.fTimeout 2 10
 ·simp
 simp only [Bool.not_true, cond_false, Bool.true_and, Bool.and_true]
 cases h8 : inB c.fMedian 1 15
 ·simp
 simp only [Bool.not_true, cond_false, Bool.true_and, Bool.and_true]
 cases h9 : inB c.fKp 0 2000
 ·simp
 simp only [Bool.not_true, cond_false, Bool.true_and, Bool.and_true]
 cases h10 : inB c.fKi 0 2000
 ·simp
 simp only [Bool.not_true, cond_false, Bool.true_and, Bool.and_true]
 cases h11 : inB c.fStep 0 1000000000
 ·simp
 simp only [Bool.not_true, cond_false, Bool.true_and, Bool.and_true]
 cases h12 : inB c.fTimes.fUtc (-32768) 32767
 ·simp
 simp only [Bool.not_true, cond_false, Bool.true_and, Bool.and_true]
 cases h13 : inB c.fTimes.fFlags 0 63
 ·simp
 simp only [Bool.not_true, cond_false, Bool.true_and, Bool.and_true]
 cases h14 : inB c.fTimes.fOrigin 0 255
 ·simp
 simp only [Bool.not_true, cond_false, Bool.true_and, Bool.and_true]
 cases hq : mayQ c.fQuality
 ·by_cases e1 : c.fClock = 0
  ·simp [ieq, e1, oelim_some]
  ·by_cases e2 : c.fClock = 18446744073709551615
   ·simp [ieq, e2, oelim_some]
   ·simp [ieq, e1, e2, oelim_some]
 by_cases e1 : c.fClock = 0
 ·simp [ieq, e1, oelim_some]
 by_cases e2 : c.fClock = 18446744073709551615
 ·simp [ieq, e2, oelim_some]
 have hp := inB_iff.1 h0
 have f1 : (c.fClock == 0) = false := by simpa using e1
 have f2 : (c.fClock == 18446744073709551615) = false := by simpa using e2
 cases hs : c.fSlaveOnly
 ·simp [ieq, f1, f2, e1, e2, oelim_some]
 by_cases e3 : c.fPorts = 1
 ·by_cases e4 : c.fQuality.fClass = 255
  ·simp [ieq, ine, ilt, f1, f2, e1, e2, e3, e4, oelim_some]
  ·have f4 : (c.fQuality.fClass == 255) = false := by simpa using e4
   have g4 : (c.fQuality.fClass != 255) = true := by simpa using e4
   simp [ieq, ine, ilt, f1, f2, e1, e2, e3, e4, f4, g4, oelim_some]
 ·have : ilt 1 c.fPorts = true := ilt_true (by omega)
  simp [ieq, f1, f2, e1, e2, e3, this, oelim_some]
def byteI (e : Int) : UInt8 := UInt8.ofNat (IntKind.u8.wrap e).toNat
def be (v : Int) : Nat → List UInt8
 | 0 => []
 | k + 1 => byteI (ishr .i64 v (8 * (k : Int))) :: be v k
theorem be_length (v : Int) : ∀ k, (be v k).length = k
 | 0 => rfl
 | k + 1 => by simp [be, be_length v k]
theorem put_step (b : List UInt8) (v : Int) (k : Nat) (hk : k < 8) (hb : b.length < 140737488355328) :
  K75.step0 ((b, v, ((k + 1 : Nat) : Int), ()), ()) = some (.inl ((b ++ [byteI (ishr .i64 v (8 * (k : Int)))], v, (k : Int), ()), ())) := by
 have e1 : isub .i64 ((k + 1 : Nat) : Int) 1 = (k : Int) := by have := isub_of (a := ((k + 1 : Nat) : Int)) (b := 1) (by omega); omega
 have e2 : imul .i64 8 (k : Int) = 8 * (k : Int) := imul_of (by omega)
 unfold K75.step0
 simp only [e1, e2, ilt_true (show (0 : Int) < ((k + 1 : Nat) : Int) by omega), ile_true (show (0 : Int) ≤ 8 * (k : Int) by omega), cond_true]
 rw [room_true (by simp; omega)]
 rfl
theorem put_loop (v : Int) : ∀ (k : Nat) (b : List UInt8), k ≤ 8 → b.length + k < 140737488355328 → K75.F0 ((b, v, (k : Int), ()), ()) = some ((b ++ be v k, ()), ()) := by
 intro k b hk hb
 obtain ⟨r, h1, h2⟩ := loopFix_rule (step := K75.step0) (Inv := fun a => ∃ (i : Nat) (c : List UInt8), a = ((c, v, (i : Int), ()), ()) ∧ i ≤ k ∧ c ++ be v i = b ++ be v k)
  (Post := fun r => r = ((b ++ be v k, ()), ())) (m := fun a => a.1.2.2.1.toNat) (by
   rintro x ⟨i, c, rfl, hi, hc⟩
   cases i with
   | zero =>
    refine .inr ⟨_, ?_, rfl⟩
    unfold K75.step0
    simp only [ilt_false (show ¬ (0 : Int) < ((0 : Nat) : Int) by decide), cond_false]
    rw [← hc]; simp [be]
   | succ i =>
    have hcl : c.length + (i + 1) = b.length + k := by
     have := congrArg List.length hc
     simpa [be_length] using this
    refine .inl ⟨_, put_step c v i (by omega) (by omega), ⟨i, _, rfl, by omega, ?_⟩, by simp only [Int.toNat_natCast]; omega⟩
    rw [← hc]; simp [be]) (1000000 + b.length) ((b, v, (k : Int), ()), ()) ⟨k, b, rfl, Nat.le_refl _, rfl⟩ (by simp only [Int.toNat_natCast]; omega)
 subst h2
 exact h1
theorem put_spec (b : List UInt8) (v : Int) (k : Nat) (hk : k ≤ 8) (hb : b.length + k < 140737488355328) : K75 b v (k : Int) = some ((b ++ be v k, ()), ((), ((), ()))) := by
 have e0 : Z7 true 0 (Z7 false (k : Int) 8) = (k : Int) := by
  simp only [Z7, cond_true, cond_false, imin, imax]
  split <;> split <;> omega
 have e3 : (bif le3 (ofN (0 : Nat)) (ofN b.length) b.length then ieq (ofN b.length) (ofN b.length) else false) = true := by
  simp [le3, ile, ieq]
 have e4 : List.drop (ofN (0 : Nat)).toNat (List.take (ofN b.length).toNat b) = b := by simp
 unfold K75 K75.gen
 simp only [e0, e3, e4, cond_true]
 cases k with
 | zero => simp [ilt, be]
 | succ k =>
  have e1 : isub .i64 ((k + 1 : Nat) : Int) 1 = (k : Int) := by have := isub_of (a := ((k + 1 : Nat) : Int)) (b := 1) (by omega); omega
  have e2 : imul .i64 8 (k : Int) = 8 * (k : Int) := imul_of (by omega)
  simp only [e1, e2, ilt_true (show (0 : Int) < ((k + 1 : Nat) : Int) by omega), ile_true (show (0 : Int) ≤ 8 * (k : Int) by omega), cond_true]
  rw [room_true (by simp; omega)]
  have h := put_loop v k (b ++ [byteI (ishr .i64 v (8 * (k : Int)))]) (by omega) (by simp; omega)
  have h : K75.F0 ((b ++ UInt8.ofNat (IntKind.u8.wrap (ishr .i64 v (8 * (k : Int)))).toNat :: lnil UInt8, v, (k : Int), ()), ()) = _ := h
  rw [h]
  simp [oelim_some, be]
theorem wrap8 (e : Int) : IntKind.u8.wrap e = e % 256 := by
 simp only [IntKind.wrap, IntKind.signed, IntKind.bits, Bool.false_and, Bool.false_eq_true, if_false]; rfl
theorem wrap64 (e : Int) : IntKind.u64.wrap e = e % 18446744073709551616 := by
 simp only [IntKind.wrap, IntKind.signed, IntKind.bits, Bool.false_and, Bool.false_eq_true, if_false]; rfl
theorem emod_split (v m : Int) (hm : 0 < m) : v % (m * 256) = (v / m % 256) * m + v % m := by
 have h : v / (m * 256) = v / m / 256 := by rw [Int.ediv_ediv, if_neg (by omega)]; omega
 rw [Int.emod_def, Int.emod_def (v / m), Int.emod_def v m, h]
 generalize v / m = q
 generalize q / 256 = p
 grind
theorem or_shift (a b : Nat) (h : b < 256) : (a * 256) ||| b = a * 256 + b := by
 have := Nat.shiftLeft_add_eq_or_of_lt (i := 8) (b := b) h a
 rw [Nat.shiftLeft_eq] at this
 exact this.symm
theorem shr8 (v : Int) (i : Nat) (h : i < 8) : ishr .i64 v (8 * (i : Int)) = v / 256 ^ i := by
 have h8 : i = 0 ∨ i = 1 ∨ i = 2 ∨ i = 3 ∨ i = 4 ∨ i = 5 ∨ i = 6 ∨ i = 7 := by omega
 rcases h8 with rfl | rfl | rfl | rfl | rfl | rfl | rfl | rfl
 ·show v.fdiv (2 ^ 0) = _
  rw [Int.fdiv_eq_ediv_of_nonneg _ (by decide)]; rfl
 ·show v.fdiv (2 ^ 8) = _
  rw [Int.fdiv_eq_ediv_of_nonneg _ (by decide)]; rfl
 ·show v.fdiv (2 ^ 16) = _
  rw [Int.fdiv_eq_ediv_of_nonneg _ (by decide)]; rfl
 ·show v.fdiv (2 ^ 24) = _
  rw [Int.fdiv_eq_ediv_of_nonneg _ (by decide)]; rfl
 ·show v.fdiv (2 ^ 32) = _
  rw [Int.fdiv_eq_ediv_of_nonneg _ (by decide)]; rfl
 ·show v.fdiv (2 ^ 40) = _
  rw [Int.fdiv_eq_ediv_of_nonneg _ (by decide)]; rfl
 ·show v.fdiv (2 ^ 48) = _
  rw [Int.fdiv_eq_ediv_of_nonneg _ (by decide)]; rfl
 ·show v.fdiv (2 ^ 56) = _
  rw [Int.fdiv_eq_ediv_of_nonneg _ (by decide)]; rfl
theorem byteI_toNat (e : Int) : ((byteI e).toNat : Int) = e % 256 := by
 unfold byteI
 rw [wrap8, UInt8.toNat_ofNat']
 have h0 := Int.emod_nonneg e (show (256 : Int) ≠ 0 by decide)
 have h1 := Int.emod_lt_of_pos e (show (0 : Int) < 256 by decide)
 omega
def bvalI : Int → List UInt8 → Int
 | a, [] => a
 | a, x :: r => bvalI (a * 256 + (x.toNat : Int)) r
theorem bvalI_be : ∀ (k : Nat) (v a : Int), k ≤ 8 → bvalI a (be v k) = a * 256 ^ k + v % 256 ^ k
 | 0, v, a, _ => by simp [be, bvalI, Int.emod_one]
 | k + 1, v, a, h => by
  rw [be, bvalI, bvalI_be k v _ (by omega), byteI_toNat, shr8 v k (by omega), Int.pow_succ, emod_split v (256 ^ k) (Int.pow_pos (by decide))]
  generalize v / 256 ^ k % 256 = y
  generalize v % 256 ^ k = z
  generalize (256 : Int) ^ k = m
  grind
theorem bvalI_r : ∀ (L : List UInt8) (a : Int), 0 ≤ a → a * 256 ^ L.length ≤ bvalI a L ∧ bvalI a L < (a + 1) * 256 ^ L.length
 | [], a, h => by simp [bvalI]; omega
 | x :: r, a, h => by
  have hx : (x.toNat : Int) < 256 := by have := x.toNat_lt; omega
  have h0 : (0 : Int) ≤ (x.toNat : Int) := by omega
  obtain ⟨h1, h2⟩ := bvalI_r r (a * 256 + (x.toNat : Int)) (by omega)
  rw [bvalI, List.length_cons, Int.pow_succ]
  have hp : (0 : Int) < 256 ^ r.length := Int.pow_pos (by decide)
  generalize (256 : Int) ^ r.length = m at *
  generalize (x.toNat : Int) = y at *
  generalize bvalI (a * 256 + y) r = z at *
  have e1 : a * (m * 256) ≤ (a * 256 + y) * m := by
   have : (a * 256 + y) * m = a * (m * 256) + y * m := by grind
   have : 0 ≤ y * m := Int.mul_nonneg h0 (by omega)
   omega
  have e2 : (a * 256 + y + 1) * m ≤ (a + 1) * (m * 256) := by
   have : (a + 1) * (m * 256) - (a * 256 + y + 1) * m = (255 - y) * m := by grind
   have : 0 ≤ (255 - y) * m := Int.mul_nonneg (by omega) (by omega)
   omega
  omega
theorem read_step (v x : Int) (hv : 0 ≤ v) (hv2 : v < 72057594037927936) (hx : 0 ≤ x) (hx2 : x < 256) : ior .u64 (ishl .u64 v 8) (IntKind.u64.wrap x) = v * 256 + x := by
 have e1 : ishl .u64 v 8 = v * 256 := by
  show IntKind.u64.wrap (v * 2 ^ 8) = _
  rw [wrap64]; omega
 have e2 : IntKind.u64.wrap x = x := by rw [wrap64]; omega
 rw [e1, e2]
 unfold ior
 obtain ⟨a, rfl⟩ : ∃ a : Nat, v = (a : Int) := ⟨v.toNat, by omega⟩
 obtain ⟨b, rfl⟩ : ∃ b : Nat, x = (b : Int) := ⟨x.toNat, by omega⟩
 have f1 : (BitVec.ofInt 64 ((a : Int) * 256)).toNat = a * 256 := by rw [BitVec.toNat_ofInt]; omega
 have f2 : (BitVec.ofInt 64 (b : Int)).toNat = b := by rw [BitVec.toNat_ofInt]; omega
 have : (BitVec.ofInt IntKind.u64.bits ((a : Int) * 256) ||| BitVec.ofInt IntKind.u64.bits (b : Int)).toNat = a * 256 + b := by
  show (BitVec.ofInt 64 ((a : Int) * 256) ||| BitVec.ofInt 64 (b : Int)).toNat = _
  rw [BitVec.toNat_or, f1, f2, or_shift a b (by omega)]
 rw [this, wrap64]; omega
theorem bvalI_app : ∀ (L R : List UInt8) (a : Int), bvalI a (L ++ R) = bvalI (bvalI a L) R
 | [], _, _ => rfl
 | x :: L, R, a => by rw [List.cons_append, bvalI, bvalI, bvalI_app L R]
theorem read_spec (L : List UInt8) (h : L.length ≤ 8) : K79 L = some ((bvalI 0 L, ()), (), ()) := by
 unfold K79 K79.gen K79.F0
 simp only []
 have hl := loop_to (step := K79.step0) (fun i => ((bvalI 0 (L.take i), L, ofN L.length, (i : Int), ()), ())) (b := ((bvalI 0 L, ()), ())) L.length (1000000 + L.length) (by omega) (fun i hi => ?_) ?_
 ·have hl : Za (1000000 + L.length) K79.step0 ((0, L, ofN L.length, 0, ()), ()) = some ((bvalI 0 L, ()), ()) := hl
  rw [hl]; rfl
 ·unfold K79.step0
  have hr := bvalI_r (L.take i) 0 (by omega)
  have hlen : (L.take i).length = i := by rw [List.length_take]; omega
  have hp : (256 : Int) ^ i ≤ 256 ^ 7 := by exact_mod_cast Nat.pow_le_pow_right (show 0 < 256 by decide) (show i ≤ 7 by omega)
  rw [hlen] at hr
  have hx := (L[i]).toNat_lt
  have hg : L.getD i 0 = L[i] := getD_at hi
  simp only [ilt_nat, inR_nat, hi, decide_true, cond_true, Int.toNat_natCast, iinc (show i < 4611686018427387904 by omega)]
  have ht : L.take (i + 1) = L.take i ++ [L[i]] := by rw [List.take_add_one, List.getElem?_eq_getElem hi]; rfl
  rw [show List.getD L i (0 : D UC.u8) = L[i] from hg, read_step _ _ (by omega) (by omega) (show (0 : Int) ≤ ((L[i].toNat : Nat) : Int) by omega) (show ((L[i].toNat : Nat) : Int) < 256 by omega), ht, bvalI_app]
  rfl
 ·unfold K79.step0
  simp only [ilt_nat, Nat.lt_irrefl, decide_false, cond_false, List.take_length]
theorem none_ok (b : List UInt8) (at_1 n : Int) (h0 : 0 ≤ at_1) (h1 : 0 ≤ n) (h2 : at_1 + n ≤ (b.length : Int)) (hb : b.length < 1000000) : K78 b at_1 n = some ((false, ()), (), ()) := by
 unfold K78 K78.gen
 have e : isub .i64 (ofN b.length) at_1 = (b.length : Int) - at_1 := isub_of (a := (b.length : Int)) (by omega)
 rw [ilt_false (show ¬ n < 0 by omega), ilt_false (show ¬ at_1 < 0 by omega), ilt_false (show ¬ ((b.length : Nat) : Int) < at_1 by omega), e, ilt_false (show ¬ (b.length : Int) - at_1 < n by omega)]
 rfl
theorem le3_ok {a b : Int} {n : Nat} (h0 : 0 ≤ a) (h1 : a ≤ b) (h2 : b ≤ (n : Int)) : le3 a b n = true := by
 unfold le3; simp [ile, h0, h1, h2]
theorem get_spec (b : List UInt8) (at_1 n : Int) (h0 : 0 ≤ at_1) (h1 : 1 ≤ n) (h7 : n ≤ 7) (h2 : at_1 + n ≤ (b.length : Int)) (hb : b.length < 1000000) :
  K73 b at_1 n = some ((bvalI 0 ((b.take (at_1 + n).toNat).drop at_1.toNat), (true, ())), (), ()) := by
 unfold K73 K73.gen
 have e : iadd .i64 at_1 n = at_1 + n := iadd_of (by omega)
 have hl : ((b.take (at_1 + n).toNat).drop at_1.toNat).length = n.toNat := by rw [List.length_drop, List.length_take]; omega
 rw [ilt_false (show ¬ n < 1 by omega), ilt_false (show ¬ 7 < n by omega), none_ok b at_1 n h0 (by omega) h2 hb]
 simp only [cond_false, oelim_some]
 rw [e, le3_ok h0 (by omega) h2, read_spec _ (by omega)]
 simp only [cond_true, oelim_some]
 have hr := bvalI_r ((b.take (at_1 + n).toNat).drop at_1.toNat) 0 (by omega)
 have hp : (256 : Int) ^ n.toNat ≤ 256 ^ 7 := by exact_mod_cast Nat.pow_le_pow_right (show 0 < 256 by decide) (show n.toNat ≤ 7 by omega)
 rw [hl] at hr
 rw [show IntKind.i64.wrap (bvalI 0 ((b.take (at_1 + n).toNat).drop at_1.toNat)) = bvalI 0 ((b.take (at_1 + n).toNat).drop at_1.toNat) by rw [iwrap]; omega]
def sgn (v : Int) (n : Int) : Int := ishr .i64 (IntKind.i64.wrap (ishl .u64 v (64 - 8 * n))) (64 - 8 * n)
theorem signed_spec (b : List UInt8) (at_1 n : Int) (h0 : 0 ≤ at_1) (h1 : 1 ≤ n) (h7 : n ≤ 8) (h2 : at_1 + n ≤ (b.length : Int)) (hb : b.length < 1000000) :
  K77 b at_1 n = some ((sgn (bvalI 0 ((b.take (at_1 + n).toNat).drop at_1.toNat)) n, (true, ())), (), ()) := by
 unfold K77 K77.gen
 have e : iadd .i64 at_1 n = at_1 + n := iadd_of (by omega)
 have e1 : imul .i64 8 n = 8 * n := imul_of (by omega)
 have e2 : isub .i64 64 (8 * n) = 64 - 8 * n := isub_of (by omega)
 have hl : ((b.take (at_1 + n).toNat).drop at_1.toNat).length = n.toNat := by rw [List.length_drop, List.length_take]; omega
 rw [ilt_false (show ¬ n < 1 by omega), ilt_false (show ¬ 8 < n by omega), none_ok b at_1 n h0 (by omega) h2 hb]
 simp only [cond_false, oelim_some]
 rw [e, le3_ok h0 (by omega) h2, read_spec _ (by omega)]
 simp only [cond_true, oelim_some, e1, e2]
 rw [ile_true (show (0 : Int) ≤ 64 - 8 * n by omega)]
 rfl
theorem sgn8 (v : Int) : sgn v 8 = IntKind.i64.wrap v := by
 unfold sgn
 show (IntKind.i64.wrap (IntKind.u64.wrap (v * 2 ^ 0))).fdiv (2 ^ 0) = _
 rw [Int.fdiv_eq_ediv_of_nonneg _ (by decide), iwrap, iwrap, wrap64]
 omega
theorem sgn1 (v : Int) (h0 : -128 ≤ v) (h1 : v ≤ 127) : sgn (v % 256) 1 = v := by
 unfold sgn
 show (IntKind.i64.wrap (IntKind.u64.wrap (v % 256 * 2 ^ 56))).fdiv (2 ^ 56) = _
 rw [Int.fdiv_eq_ediv_of_nonneg _ (by decide), iwrap, wrap64]
 omega
theorem sgn2 (v : Int) (h0 : -32768 ≤ v) (h1 : v ≤ 32767) : sgn (v % 65536) 2 = v := by
 unfold sgn
 show (IntKind.i64.wrap (IntKind.u64.wrap (v % 65536 * 2 ^ 48))).fdiv (2 ^ 48) = _
 rw [Int.fdiv_eq_ediv_of_nonneg _ (by decide), iwrap, wrap64]
 omega
theorem put1 (b : List UInt8) (v : Int) (h : b.length < 1000000) : K75 b v 1 = some ((b ++ be v 1, ()), ((), ((), ()))) := put_spec b v 1 (by omega) (by omega)
theorem put2 (b : List UInt8) (v : Int) (h : b.length < 1000000) : K75 b v 2 = some ((b ++ be v 2, ()), ((), ((), ()))) := put_spec b v 2 (by omega) (by omega)
theorem put4 (b : List UInt8) (v : Int) (h : b.length < 1000000) : K75 b v 4 = some ((b ++ be v 4, ()), ((), ((), ()))) := put_spec b v 4 (by omega) (by omega)
theorem put6 (b : List UInt8) (v : Int) (h : b.length < 1000000) : K75 b v 6 = some ((b ++ be v 6, ()), ((), ((), ()))) := put_spec b v 6 (by omega) (by omega)
theorem put8 (b : List UInt8) (v : Int) (h : b.length < 1000000) : K75 b v 8 = some ((b ++ be v 8, ()), ((), ((), ()))) := put_spec b v 8 (by omega) (by omega)
theorem getN {L : List UInt8} {at_1 n v : Int} (k : Nat) (h0 : 0 ≤ at_1) (h1 : 1 ≤ n) (h7 : n ≤ 7) (hk : n = (k : Int)) (h2 : at_1 + n ≤ (L.length : Int)) (hb : L.length < 1000000)
  (h : (L.take (at_1 + n).toNat).drop at_1.toNat = be v k) : K73 L at_1 n = some ((v % 256 ^ k, (true, ())), (), ()) := by
 rw [get_spec L at_1 n h0 h1 h7 h2 hb, h, bvalI_be k v 0 (by omega)]
 simp
theorem sgnN {L : List UInt8} {at_1 n v : Int} (k : Nat) (h0 : 0 ≤ at_1) (h1 : 1 ≤ n) (h7 : n ≤ 8) (hk : n = (k : Int)) (h2 : at_1 + n ≤ (L.length : Int)) (hb : L.length < 1000000)
  (h : (L.take (at_1 + n).toNat).drop at_1.toNat = be v k) : K77 L at_1 n = some ((sgn (v % 256 ^ k) n, (true, ())), (), ()) := by
 rw [signed_spec L at_1 n h0 h1 h7 h2 hb, h, bvalI_be k v 0 (by omega)]
 simp
theorem idN {L : List UInt8} {at_1 v : Int} (h0 : 0 ≤ at_1) (h2 : at_1 + 8 ≤ (L.length : Int)) (hb : L.length < 1000000) (hv : 0 ≤ v) (hv2 : v < 18446744073709551616)
  (h : (L.take (at_1 + 8).toNat).drop at_1.toNat = be (IntKind.i64.wrap v) 8) : K74 L at_1 = some ((v, (true, ())), (), ()) := by
 unfold K74 K74.gen
 rw [sgnN 8 h0 (by omega) (by omega) (by omega) h2 hb h, oelim_some, sgn8, wrap64]
 have : IntKind.i64.wrap (IntKind.i64.wrap v % 256 ^ 8) % 18446744073709551616 = v := by rw [iwrap, iwrap]; omega
 rw [this]
theorem identN {L : List UInt8} {at_1 : Int} {p : api_PortID} (h0 : 0 ≤ at_1) (h2 : at_1 + 10 ≤ (L.length : Int)) (hb : L.length < 1000000) (hv : 0 ≤ p.fClock) (hv2 : p.fClock < 18446744073709551616) (hp : 0 ≤ p.fPort) (hp2 : p.fPort ≤ 65535)
  (h : (L.take (at_1 + 8).toNat).drop at_1.toNat = be (IntKind.i64.wrap p.fClock) 8) (h' : (L.take (at_1 + 8 + 2).toNat).drop (at_1 + 8).toNat = be p.fPort 2) : K63 L at_1 = some ((p, (true, ())), (), ()) := by
 unfold K63 K63.gen
 have e : isub .i64 (ofN L.length) at_1 = (L.length : Int) - at_1 := isub_of (a := (L.length : Int)) (by omega)
 have e2 : iadd .i64 at_1 8 = at_1 + 8 := iadd_of (by omega)
 rw [ilt_false (show ¬ at_1 < 0 by omega), ilt_false (show ¬ ((L.length : Nat) : Int) < at_1 by omega), e, ilt_false (show ¬ (L.length : Int) - at_1 < 10 by omega)]
 simp only [cond_false, oelim_some]
 rw [idN h0 (by omega) hb hv hv2 h, e2, getN 2 (by omega) (by omega) (by omega) (by omega) (by omega) hb h']
 simp only [oelim_some]
 rw [show p.fPort % 256 ^ 2 = p.fPort by omega]
theorem may_stamp {t : Int} (h0 : 0 ≤ t) (h1 : t ≤ 4000000000000000) : K97 t = some ((true, ()), (), ()) := by
 unfold K97 K97.gen
 rw [ile_true h0, ile_true h1]; rfl
theorem stampN {L : List UInt8} {at_1 t : Int} (h0 : 0 ≤ at_1) (h2 : at_1 + 10 ≤ (L.length : Int)) (hb : L.length < 1000000) (ht : 0 ≤ t) (ht2 : t ≤ 4000000000000000)
  (h : (L.take (at_1 + 6).toNat).drop at_1.toNat = be (t / 1000000000) 6) (h' : (L.take (at_1 + 6 + 4).toNat).drop (at_1 + 6).toNat = be (t % 1000000000) 4) : K96 L at_1 = some ((t, (true, ())), (), ()) := by
 unfold K96 K96.gen
 have e : isub .i64 (ofN L.length) at_1 = (L.length : Int) - at_1 := isub_of (a := (L.length : Int)) (by omega)
 have e2 : iadd .i64 at_1 6 = at_1 + 6 := iadd_of (by omega)
 rw [ilt_false (show ¬ at_1 < 0 by omega), ilt_false (show ¬ ((L.length : Nat) : Int) < at_1 by omega), e, ilt_false (show ¬ (L.length : Int) - at_1 < 10 by omega)]
 simp only [cond_false, oelim_some]
 rw [getN 6 h0 (by omega) (by omega) (by omega) (by omega) hb h, e2, getN 4 (by omega) (by omega) (by omega) (by omega) (by omega) hb h']
 simp only [oelim_some]
 have a1 : t / 1000000000 % 256 ^ 6 = t / 1000000000 := by omega
 have a2 : t % 1000000000 % 256 ^ 4 = t % 1000000000 := by omega
 have a3 : imul .i64 (t / 1000000000) 1000000000 = t / 1000000000 * 1000000000 := imul_of (by omega)
 have a4 : iadd .i64 (t / 1000000000 * 1000000000) (t % 1000000000) = t := by rw [iadd_of (by omega)]; omega
 rw [a1, a2, a3, a4, ile_false (show ¬ 1000000000 ≤ t % 1000000000 by omega), ilt_false (show ¬ 4000000 < t / 1000000000 by omega), may_stamp ht ht2]
 rfl
theorem putS (b : List UInt8) {t : Int} (h0 : 0 ≤ t) (h1 : t ≤ 4000000000000000) (h : b.length < 900000) : K98 b t = some ((b ++ be (t / 1000000000) 6 ++ be (t % 1000000000) 4, ()), (), ()) := by
 unfold K98 K98.gen
 rw [may_stamp h0 h1]
 simp only [oelim_some, Bool.not_true, cond_false]
 have e1 : iquo .i64 t 1000000000 = t / 1000000000 := by
  unfold iquo
  rw [Int.tdiv_eq_ediv_of_nonneg h0, iwrap]; omega
 have e2 : irem t 1000000000 = t % 1000000000 := by
  unfold irem
  rw [Int.tmod_eq_emod_of_nonneg h0]
 rw [e1, put6 b _ (by omega)]
 simp only [oelim_some]
 rw [e2, put4 _ _ (by rw [List.length_append, be_length]; omega)]
 rfl
theorem putI (b : List UInt8) (p : api_PortID) (h : b.length < 900000) : K65 b p = some ((b ++ be (IntKind.i64.wrap p.fClock) 8 ++ be p.fPort 2, ()), (), ()) := by
 unfold K65 K65.gen K76 K76.gen
 rw [put8 b _ (by omega)]
 simp only [oelim_some]
 rw [put2 _ _ (by rw [List.length_append, be_length]; omega)]
 rfl
abbrev bs (l : List UInt8) : ByteArray := ByteArray.mk l.toArray
theorem bs_data (l : List UInt8) : (bs l).data.toList = l := by show l.toArray.toList = l; simp
theorem bs_eta (s : ByteArray) : bs s.data.toList = s := by cases s; simp [bs]
theorem bs_ext {s t : ByteArray} (h : s.data.toList = t.data.toList) : s = t := by rw [← bs_eta s, ← bs_eta t, h]
theorem bs_size (l : List UInt8) : (bs l).size = l.length := by show l.toArray.size = _; simp
theorem bs_append (a b : List UInt8) : bs a ++ bs b = bs (a ++ b) := by
 apply bs_ext
 rw [ByteArray.data_append, Array.toList_append, bs_data, bs_data, bs_data]
abbrev api_PortID.z : api_PortID := api_PortID.mk 0 0
def msgH (ty ctl len dom fl co cl po sq lg : Int) : List UInt8 :=
 byteI ty :: UInt8.ofNat (Int.toNat 18) :: [] ++ be len 2 ++ be dom 1 ++ be 0 1 ++ be fl 2 ++ be co 8 ++ be 0 4 ++ be (IntKind.i64.wrap cl) 8 ++ be po 2 ++ be sq 2 ++ be ctl 1 ++ be lg 1
def msgS (st : Int) : List UInt8 := [] ++ be (st / 1000000000) 6 ++ be (st % 1000000000) 4
structure HdOk (dom fl co : Int) (src : api_PortID) (sq lg : Int) : Prop where
 d0 : 0 ≤ dom
 d1 : dom ≤ 255
 f0 : 0 ≤ fl
 f1 : fl ≤ 65535
 c0 : -9223372036854775808 ≤ co
 c1 : co < 9223372036854775808
 k0 : 0 ≤ src.fClock
 k1 : src.fClock < 18446744073709551616
 p0 : 0 ≤ src.fPort
 p1 : src.fPort ≤ 65535
 s0 : 0 ≤ sq
 s1 : sq ≤ 65535
 l0 : -128 ≤ lg
 l1 : lg ≤ 127
theorem hin_ok {v a b : Int} (h0 : a ≤ v) (h1 : v ≤ b) : K61 v a b = some ((true, ()), (), ()) := by
 unfold K61 K61.gen
 rw [ile_true h0, ile_true h1]; rfl
theorem Z1d {v a b : Int} (h0 : a ≤ v) (h1 : v ≤ b) : K4 v a b = some ((true, ()), (), ()) := by
 unfold K4 K4.gen
 rw [ile_true h0, ile_true h1]; rfl
theorem imay_ok {p : api_PortID} (h0 : 0 ≤ p.fPort) (h1 : p.fPort ≤ 65535) : K64 p = some ((true, ()), (), ()) := by
 unfold K64 K64.gen
 rw [ile_true h0, ile_true h1]; rfl
theorem hcheck_ok {m : api_Msg} (hk : K58 m.fType = some ((true, ()), (), ())) (h : HdOk m.fDomain m.fFlags m.fCorr m.fSource m.fSeq m.fLog) : K56 m = some ((true, ()), (), ()) := by
 unfold K56 K56.gen
 rw [hk, hin_ok h.d0 h.d1, hin_ok h.f0 h.f1, imay_ok h.p0 h.p1, hin_ok h.s0 h.s1, hin_ok h.l0 h.l1]
 rfl
theorem header_put {m : api_Msg} {len ctl : Int} (hk : K58 m.fType = some ((true, ()), (), ())) (hc : K60 m.fType = some ((ctl, ()), (), ())) (h : HdOk m.fDomain m.fFlags m.fCorr m.fSource m.fSeq m.fLog) (h0 : 34 ≤ len) (h1 : len ≤ 400) :
  K59 m len = some ((msgH m.fType ctl len m.fDomain m.fFlags m.fCorr m.fSource.fClock m.fSource.fPort m.fSeq m.fLog, (true, ())), (), ()) := by
 unfold K59 K59.gen
 rw [hcheck_ok hk h, hin_ok h0 h1]
 simp only [oelim_some, Bool.not_true, cond_false]
 rw [put2 _ _ (by simp)]
 simp only [oelim_some]
 rw [put1 _ _ (by simp [be_length])]
 simp only [oelim_some]
 rw [put1 _ _ (by simp [be_length])]
 simp only [oelim_some]
 rw [put2 _ _ (by simp [be_length])]
 simp only [oelim_some]
 rw [put8 _ _ (by simp [be_length])]
 simp only [oelim_some]
 rw [put4 _ _ (by simp [be_length])]
 simp only [oelim_some]
 rw [putI _ _ (by simp [be_length])]
 simp only [oelim_some]
 rw [put2 _ _ (by simp [be_length]), hc]
 simp only [oelim_some]
 rw [put1 _ _ (by simp [be_length])]
 simp only [oelim_some]
 rw [put1 _ _ (by simp [be_length])]
 rfl
theorem tlv_put_nil (b : List UInt8) : K107 b [] = some ((b, (true, ())), (), ()) := by
 have e3 : (bif le3 (ofN (0 : Nat)) (ofN b.length) b.length then ieq (ofN b.length) (ofN b.length) else false) = true := by
  simp [le3, ile, ieq]
 have e4 : List.drop (ofN (0 : Nat)).toNat (List.take (ofN b.length).toNat b) = b := by simp
 unfold K107 K107.gen
 simp only [e3, e4, cond_true]
 have h : K107.F0 ((b, b, [], ofN ([] : List api_Tlv).length, 0, ()), ()) = some (.inl ((b, ()), ())) := by
  unfold K107.F0
  refine loop_to (fun _ => ((b, b, [], ofN ([] : List api_Tlv).length, 0, ()), ())) 0 _ (by show 0 < 1000000 + _; omega) (fun i hi => absurd hi (Nat.not_lt_zero _)) ?_
  unfold K107.step0
  rw [ilt_false (show ¬ (0 : Int) < ofN ([] : List api_Tlv).length by decide)]
  rfl
 have h8 : ilt 8 (ofN ([] : List api_Tlv).length) = false := by decide
 rw [h8]
 simp only [cond_false]
 rw [h]
 rfl
theorem tlv_get_nil (L : List UInt8) (n : Nat) (h : L.length = n) : K105 L (n : Int) = some (([], (0, ())), (), ()) := by
 unfold K105 K105.gen
 rw [ilt_false (show ¬ (n : Int) < 0 by omega), ilt_false (show ¬ ((L.length : Nat) : Int) < (n : Int) by omega)]
 simp only [cond_false, oelim_some]
 have hl : K105.F1 ((L, (n : Int), lnil api_Tlv, 0, ()), ()) = some ((lnil api_Tlv, 0, ()), ()) := by
  unfold K105.F1
  refine loop_to (step := K105.step1 _) (fun _ => ((L, (n : Int), lnil api_Tlv, 0, ()), ())) 0 _ (by show 0 < 1000000 + _; omega) (fun i hi => absurd hi (Nat.not_lt_zero _)) ?_
  unfold K105.step1
  rw [ilt_false (show ¬ (n : Int) < ((L.length : Nat) : Int) by omega)]
  rfl
 rw [hl]
 rfl
def msgA (ty ctl dom fl co : Int) (src : api_PortID) (sq lg st : Int) : List UInt8 := msgH ty ctl 44 dom fl co src.fClock src.fPort sq lg ++ msgS st
abbrev msg0 (ty dom fl co : Int) (src : api_PortID) (sq lg st : Int) (tgt : api_PortID) : api_Msg := api_Msg.mk ty dom fl co src sq lg st tgt 0 0 (api_Quality.mk 0 0 0) 0 0 0 0 0 0 0
theorem put_A {ty ctl dom fl co sq lg st : Int} {src : api_PortID} (hty : (ty = 0 ∧ ctl = 0) ∨ (ty = 1 ∧ ctl = 1) ∨ (ty = 8 ∧ ctl = 2)) (h : HdOk dom fl co src sq lg) (ht : 0 ≤ st) (ht2 : st ≤ 4000000000000000) :
  K55 (msg0 ty dom fl co src sq lg st api_PortID.z) [] = some ((bs (msgA ty ctl dom fl co src sq lg st), (true, ())), (), ()) := by
 have hk : K58 ty = some ((true, ()), (), ()) := by rcases hty with ⟨rfl, rfl⟩ | ⟨rfl, rfl⟩ | ⟨rfl, rfl⟩ <;> kernel_rfl
 have hc : K60 ty = some ((ctl, ()), (), ()) := by rcases hty with ⟨rfl, rfl⟩ | ⟨rfl, rfl⟩ | ⟨rfl, rfl⟩ <;> kernel_rfl
 have hst : K6 ty = some ((true, ()), (), ()) := by rcases hty with ⟨rfl, rfl⟩ | ⟨rfl, rfl⟩ | ⟨rfl, rfl⟩ <;> kernel_rfl
 have htg : K7 ty = some ((false, ()), (), ()) := by rcases hty with ⟨rfl, rfl⟩ | ⟨rfl, rfl⟩ | ⟨rfl, rfl⟩ <;> kernel_rfl
 have n2 : ieq ty 2 = false := by rcases hty with ⟨rfl, rfl⟩ | ⟨rfl, rfl⟩ | ⟨rfl, rfl⟩ <;> rfl
 have n11 : ieq ty 11 = false := by rcases hty with ⟨rfl, rfl⟩ | ⟨rfl, rfl⟩ | ⟨rfl, rfl⟩ <;> rfl
 have n13 : ieq ty 13 = false := by rcases hty with ⟨rfl, rfl⟩ | ⟨rfl, rfl⟩ | ⟨rfl, rfl⟩ <;> rfl
 have hown : K5 (msg0 ty dom fl co src sq lg st api_PortID.z) = some ((msg0 ty dom fl co src sq lg st api_PortID.z, ()), (), ()) := by
  rcases hty with ⟨rfl, rfl⟩ | ⟨rfl, rfl⟩ | ⟨rfl, rfl⟩ <;> kernel_rfl
 have hq : K90 (api_Quality.mk 0 0 0) = some ((true, ()), (), ()) := by kernel_rfl
 have hchk : K0 (msg0 ty dom fl co src sq lg st api_PortID.z) = some ((true, ()), (), ()) := by
  unfold K0 K0.gen
  rw [hcheck_ok hk h, hown, may_stamp ht ht2, imay_ok (p := api_PortID.z) (by decide) (by decide), hq]
  simp only [oelim_some, ieq_self, cond_true, Z1d (show (-32768 : Int) ≤ 0 by decide) (show (0 : Int) ≤ 32767 by decide), Z1d (show (0 : Int) ≤ 0 by decide) (show (0 : Int) ≤ 255 by decide), Z1d (show (0 : Int) ≤ 0 by decide) (show (0 : Int) ≤ 65535 by decide), Z1d (show (0 : Int) ≤ 0 by decide) (show (0 : Int) ≤ 15 by decide)]
 have hb : K3 (lnil UInt8) (msg0 ty dom fl co src sq lg st api_PortID.z) = some ((msgS st, (true, ())), (), ()) := by
  unfold K3 K3.gen
  rw [hchk, hst]
  simp only [oelim_some, Bool.not_true, cond_false, cond_true, htg, n2, n11, n13]
  rw [putS _ ht ht2 (by simp)]
  rcases hty with ⟨rfl, rfl⟩ | ⟨rfl, rfl⟩ | ⟨rfl, rfl⟩ <;> kernel_rfl
 unfold K55 K55.gen
 rw [hb]
 simp only [oelim_some, Bool.not_true, cond_false]
 rw [tlv_put_nil]
 simp only [oelim_some, Bool.not_true, cond_false]
 rw [show iadd .i64 34 (ofN (msgS st).length) = 44 by kernel_rfl, header_put (len := 44) hk hc h (by decide) (by decide)]
 simp only [oelim_some, Bool.not_true, cond_false]
 rw [show Nat.ble ((bs (msgH ty ctl 44 dom fl co src.fClock src.fPort sq lg)).size + (bs (msgS st)).size) 9223372036854775807 = true by rw [bs_size, bs_size]; kernel_rfl]
 simp only [cond_true]
 show some ((bs _ ++ bs _, _), _) = _
 rw [bs_append]
 rfl
theorem get_A {ty ctl dom fl co sq lg st : Int} {src : api_PortID} (hty : (ty = 0 ∧ ctl = 0) ∨ (ty = 1 ∧ ctl = 1) ∨ (ty = 8 ∧ ctl = 2)) (h : HdOk dom fl co src sq lg) (ht : 0 ≤ st) (ht2 : st ≤ 4000000000000000) :
  K54 (bs (msgA ty ctl dom fl co src sq lg st)) = some ((msg0 ty dom fl co src sq lg st api_PortID.z, ([], (0, ()))), (), ()) := by
 have hlen : (msgA ty ctl dom fl co src sq lg st).length = 44 := by kernel_rfl
 have g2 : K73 (msgA ty ctl dom fl co src sq lg st) 2 2 = some ((44, (true, ())), (), ()) := getN (v := 44) 2 (by decide) (by decide) (by decide) (by decide) (by omega) (by omega) (by kernel_rfl)
 have g6 : K73 (msgA ty ctl dom fl co src sq lg st) 6 2 = some ((fl, (true, ())), (), ()) := by
  rw [getN (v := fl) 2 (by decide) (by decide) (by decide) (by decide) (by omega) (by omega) (by kernel_rfl)]
  rw [show fl % 256 ^ 2 = fl by have := h.f0; have := h.f1; omega]
 have g8 : K77 (msgA ty ctl dom fl co src sq lg st) 8 8 = some ((co, (true, ())), (), ()) := by
  rw [sgnN (v := co) 8 (by decide) (by decide) (by decide) (by decide) (by omega) (by omega) (by kernel_rfl), sgn8]
  rw [show IntKind.i64.wrap (co % 256 ^ 8) = co by have := h.c0; have := h.c1; rw [iwrap]; omega]
 have g20 : K63 (msgA ty ctl dom fl co src sq lg st) 20 = some ((src, (true, ())), (), ()) := identN (by decide) (by omega) (by omega) h.k0 h.k1 h.p0 h.p1 (by kernel_rfl) (by kernel_rfl)
 have g30 : K73 (msgA ty ctl dom fl co src sq lg st) 30 2 = some ((sq, (true, ())), (), ()) := by
  rw [getN (v := sq) 2 (by decide) (by decide) (by decide) (by decide) (by omega) (by omega) (by kernel_rfl)]
  rw [show sq % 256 ^ 2 = sq by have := h.s0; have := h.s1; omega]
 have g33 : K77 (msgA ty ctl dom fl co src sq lg st) 33 1 = some ((lg, (true, ())), (), ()) := by
  rw [sgnN (v := lg) 1 (by decide) (by decide) (by decide) (by decide) (by omega) (by omega) (by kernel_rfl)]
  rw [show sgn (lg % 256 ^ 1) 1 = lg from sgn1 lg h.l0 h.l1]
 have g34 : K96 (msgA ty ctl dom fl co src sq lg st) 34 = some ((st, (true, ())), (), ()) := stampN (by decide) (by omega) (by omega) ht ht2 (by kernel_rfl) (by kernel_rfl)
 have hty0 : IntKind.i64.wrap (ofN (UInt8.toNat (List.getD (msgA ty ctl dom fl co src sq lg st) (Int.toNat 0) (0 : D UC.u8)))) = ty := by
  rcases hty with ⟨rfl, rfl⟩ | ⟨rfl, rfl⟩ | ⟨rfl, rfl⟩ <;> kernel_rfl
 have hd4 : IntKind.i64.wrap (ofN (UInt8.toNat (List.getD (msgA ty ctl dom fl co src sq lg st) (Int.toNat 4) (0 : D UC.u8)))) = dom := by
  have : List.getD (msgA ty ctl dom fl co src sq lg st) (Int.toNat 4) (0 : D UC.u8) = byteI (ishr .i64 dom (8 * ((0 : Nat) : Int))) := by kernel_rfl
  rw [this, show ofN (byteI (ishr .i64 dom (8 * ((0 : Nat) : Int)))).toNat = ((byteI (ishr .i64 dom (8 * ((0 : Nat) : Int)))).toNat : Int) from rfl, byteI_toNat, shr8 dom 0 (by decide)]
  have := h.d0; have := h.d1
  rw [iwrap]; omega
 have hk : K58 ty = some ((true, ()), (), ()) := by rcases hty with ⟨rfl, rfl⟩ | ⟨rfl, rfl⟩ | ⟨rfl, rfl⟩ <;> kernel_rfl
 have hh : K57 (msgA ty ctl dom fl co src sq lg st) = some ((msg0 ty dom fl co src sq lg 0 api_PortID.z, (44, (0, ()))), (), ()) := by
  unfold K57 K57.gen
  rw [g2, g6, g8, g20, g30, g33, hty0, hd4, hk, hlen]
  kernel_rfl
 have hb : K1 (msg0 ty dom fl co src sq lg 0 api_PortID.z) (msgA ty ctl dom fl co src sq lg st) 34 = some ((msg0 ty dom fl co src sq lg st api_PortID.z, (44, (0, ()))), (), ()) := by
  unfold K1 K1.gen
  rw [g34, hlen]
  rcases hty with ⟨rfl, rfl⟩ | ⟨rfl, rfl⟩ | ⟨rfl, rfl⟩ <;> kernel_rfl
 unfold K54 K54.gen
 rw [bs_data, hh]
 simp only [oelim_some, ine_self, cond_false]
 rw [hb]
 simp only [oelim_some, ine_self, cond_false]
 rw [show K105 (msgA ty ctl dom fl co src sq lg st) 44 = _ from tlv_get_nil _ 44 hlen]
 rfl
structure AnnOk (ut p1 : Int) (q : api_Quality) (p2 gr sp og : Int) : Prop where
 u0 : -32768 ≤ ut
 u1 : ut ≤ 32767
 a0 : 0 ≤ p1
 a1 : p1 ≤ 255
 q0 : 0 ≤ q.fClass
 q1 : q.fClass ≤ 255
 q2 : 0 ≤ q.fAccuracy
 q3 : q.fAccuracy ≤ 255
 q4 : 0 ≤ q.fVariance
 q5 : q.fVariance ≤ 65535
 b0 : 0 ≤ p2
 b1 : p2 ≤ 255
 g0 : 0 ≤ gr
 g1 : gr < 18446744073709551616
 s0 : 0 ≤ sp
 s1 : sp ≤ 65535
 o0 : 0 ≤ og
 o1 : og ≤ 255
def msgT (ut p1 : Int) (q : api_Quality) (p2 gr sp og : Int) : List UInt8 := be ut 2 ++ be 0 1 ++ be p1 1 ++ be q.fClass 1 ++ be q.fAccuracy 1 ++ be q.fVariance 2 ++ be p2 1 ++ be (IntKind.i64.wrap gr) 8 ++ be sp 2 ++ be og 1
abbrev msgAn (dom fl co : Int) (src : api_PortID) (sq lg st ut p1 : Int) (q : api_Quality) (p2 gr sp og : Int) : api_Msg := api_Msg.mk 11 dom fl co src sq lg st api_PortID.z ut p1 q p2 gr sp og 0 0 0
theorem qmay_ok {q : api_Quality} (h0 : 0 ≤ q.fClass) (h1 : q.fClass ≤ 255) (h2 : 0 ≤ q.fAccuracy) (h3 : q.fAccuracy ≤ 255) (h4 : 0 ≤ q.fVariance) (h5 : q.fVariance ≤ 65535) : K90 q = some ((true, ()), (), ()) := by
 unfold K90 K90.gen
 simp only [ile_true h0, ile_true h1, ile_true h2, ile_true h3, ile_true h4, ile_true h5, cond_true, oelim_some]
theorem putQ (b : List UInt8) (q : api_Quality) (h : b.length < 900000) : K91 b q = some ((b ++ be q.fClass 1 ++ be q.fAccuracy 1 ++ be q.fVariance 2, ()), (), ()) := by
 unfold K91 K91.gen
 rw [put1 b _ (by omega)]
 simp only [oelim_some]
 rw [put1 _ _ (by rw [List.length_append, be_length]; omega)]
 simp only [oelim_some]
 rw [put2 _ _ (by simp only [List.length_append, be_length]; omega)]
 rfl
theorem qualN {L : List UInt8} {at_1 : Int} {q : api_Quality} (h0 : 0 ≤ at_1) (h2 : at_1 + 4 ≤ (L.length : Int)) (hb : L.length < 1000000) (a0 : 0 ≤ q.fClass) (a1 : q.fClass ≤ 255) (a2 : 0 ≤ q.fAccuracy) (a3 : q.fAccuracy ≤ 255) (a4 : 0 ≤ q.fVariance) (a5 : q.fVariance ≤ 65535)
  (e1 : (L.take (at_1 + 1).toNat).drop at_1.toNat = be q.fClass 1) (e2 : (L.take (at_1 + 1 + 1).toNat).drop (at_1 + 1).toNat = be q.fAccuracy 1) (e3 : (L.take (at_1 + 2 + 2).toNat).drop (at_1 + 2).toNat = be q.fVariance 2) : K89 L at_1 = some ((q, (true, ())), (), ()) := by
 unfold K89 K89.gen
 have e : isub .i64 (ofN L.length) at_1 = (L.length : Int) - at_1 := isub_of (a := (L.length : Int)) (by omega)
 have f1 : iadd .i64 at_1 1 = at_1 + 1 := iadd_of (by omega)
 have f2 : iadd .i64 at_1 2 = at_1 + 2 := iadd_of (by omega)
 rw [ilt_false (show ¬ at_1 < 0 by omega), ilt_false (show ¬ ((L.length : Nat) : Int) < at_1 by omega), e, ilt_false (show ¬ (L.length : Int) - at_1 < 4 by omega)]
 simp only [cond_false, oelim_some]
 rw [getN 1 h0 (by omega) (by omega) (by omega) (by omega) hb e1, f1, getN 1 (by omega) (by omega) (by omega) (by omega) (by omega) hb e2, f2, getN 2 (by omega) (by omega) (by omega) (by omega) (by omega) hb e3]
 simp only [oelim_some]
 rw [show q.fClass % 256 ^ 1 = q.fClass by omega, show q.fAccuracy % 256 ^ 1 = q.fAccuracy by omega, show q.fVariance % 256 ^ 2 = q.fVariance by omega]
def msgN (dom fl co : Int) (src : api_PortID) (sq lg st ut p1 : Int) (q : api_Quality) (p2 gr sp og : Int) : List UInt8 := msgH 11 5 64 dom fl co src.fClock src.fPort sq lg ++ (msgS st ++ msgT ut p1 q p2 gr sp og)
theorem body_get_N {L : List UInt8} {dom fl co sq lg st ut p1 p2 gr sp og : Int} {src : api_PortID} {q : api_Quality} (hlen : L.length = 64) (g34 : K96 L 34 = some ((st, (true, ())), (), ())) (g44 : K77 L 44 2 = some ((ut, (true, ())), (), ()))
  (g47 : K73 L 47 1 = some ((p1, (true, ())), (), ())) (g48 : K89 L 48 = some ((q, (true, ())), (), ())) (g52 : K73 L 52 1 = some ((p2, (true, ())), (), ())) (g53 : K74 L 53 = some ((gr, (true, ())), (), ()))
  (g61 : K73 L 61 2 = some ((sp, (true, ())), (), ())) (g63 : K73 L 63 1 = some ((og, (true, ())), (), ())) :
  K1 (msg0 11 dom fl co src sq lg 0 api_PortID.z) L 34 = some ((msgAn dom fl co src sq lg st ut p1 q p2 gr sp og, (64, (0, ()))), (), ()) := by
  unfold K1 K1.gen
  rw [g34, hlen]
  simp only [oelim_some, cond_false, cond_true, Bool.not_true, show K2 11 = some ((30, ()), (), ()) by kernel_rfl, show K6 11 = some ((true, ()), (), ()) by kernel_rfl, show K7 11 = some ((false, ()), (), ()) by kernel_rfl, show iadd IntKind.i64 34 10 = 44 from rfl, g44, show ieq 11 11 = true from rfl, show ieq 30 0 = false from rfl, show iadd IntKind.i64 44 3 = 47 from rfl, show iadd IntKind.i64 44 4 = 48 from rfl, show iadd IntKind.i64 44 8 = 52 from rfl, show iadd IntKind.i64 44 9 = 53 from rfl, show iadd IntKind.i64 44 17 = 61 from rfl, show iadd IntKind.i64 44 19 = 63 from rfl, g47, g48, g52, g53, g61, g63]
  kernel_rfl
theorem put_N {dom fl co sq lg st ut p1 p2 gr sp og : Int} {src : api_PortID} {q : api_Quality} (ha : AnnOk ut p1 q p2 gr sp og) (h : HdOk dom fl co src sq lg) (ht : 0 ≤ st) (ht2 : st ≤ 4000000000000000) :
  K55 (msgAn dom fl co src sq lg st ut p1 q p2 gr sp og) [] = some ((bs (msgN dom fl co src sq lg st ut p1 q p2 gr sp og), (true, ())), (), ()) := by
 have hk : K58 11 = some ((true, ()), (), ()) := by kernel_rfl
 have hc : K60 11 = some ((5, ()), (), ()) := by kernel_rfl
 have hst : K6 11 = some ((true, ()), (), ()) := by kernel_rfl
 have htg : K7 11 = some ((false, ()), (), ()) := by kernel_rfl
 have n2 : ieq 11 2 = false := by rfl
 have n11 : ieq 11 11 = true := by rfl
 have n13 : ieq 11 13 = false := by rfl
 have hown : K5 (msgAn dom fl co src sq lg st ut p1 q p2 gr sp og) = some ((msgAn dom fl co src sq lg st ut p1 q p2 gr sp og, ()), (), ()) := by
  kernel_rfl
 have hq : K90 q = some ((true, ()), (), ()) := qmay_ok ha.q0 ha.q1 ha.q2 ha.q3 ha.q4 ha.q5
 have hchk : K0 (msgAn dom fl co src sq lg st ut p1 q p2 gr sp og) = some ((true, ()), (), ()) := by
  unfold K0 K0.gen
  rw [hcheck_ok hk h, hown, may_stamp ht ht2, imay_ok (p := api_PortID.z) (by decide) (by decide), hq]
  simp only [oelim_some, ieq_self, cond_true, Z1d ha.u0 ha.u1, Z1d ha.a0 ha.a1, Z1d ha.b0 ha.b1, Z1d ha.o0 ha.o1, Z1d ha.s0 ha.s1, Z1d (show (0 : Int) ≤ 0 by decide) (show (0 : Int) ≤ 255 by decide), Z1d (show (0 : Int) ≤ 0 by decide) (show (0 : Int) ≤ 65535 by decide), Z1d (show (0 : Int) ≤ 0 by decide) (show (0 : Int) ≤ 15 by decide)]
 have hb : K3 (lnil UInt8) (msgAn dom fl co src sq lg st ut p1 q p2 gr sp og) = some ((msgS st ++ msgT ut p1 q p2 gr sp og, (true, ())), (), ()) := by
  unfold K3 K3.gen
  rw [hchk, hst]
  simp only [oelim_some, Bool.not_true, cond_false, cond_true, htg, n2, n11, n13]
  rw [putS _ ht ht2 (by simp)]
  simp only [oelim_some, cond_false, cond_true, htg, n2, n11]
  rw [put2 _ _ (by simp [be_length])]
  simp only [oelim_some]
  rw [put1 _ _ (by simp [be_length])]
  simp only [oelim_some]
  rw [put1 _ _ (by simp [be_length])]
  simp only [oelim_some]
  rw [putQ _ _ (by simp [be_length])]
  simp only [oelim_some]
  rw [put1 _ _ (by simp [be_length])]
  unfold K76 K76.gen
  simp only [oelim_some]
  rw [put8 _ _ (by simp [be_length])]
  simp only [oelim_some]
  rw [put2 _ _ (by simp [be_length])]
  simp only [oelim_some]
  rw [put1 _ _ (by simp [be_length])]
  kernel_rfl
 unfold K55 K55.gen
 rw [hb]
 simp only [oelim_some, Bool.not_true, cond_false]
 rw [tlv_put_nil]
 simp only [oelim_some, Bool.not_true, cond_false]
 rw [show iadd .i64 34 (ofN (msgS st ++ msgT ut p1 q p2 gr sp og).length) = 64 by kernel_rfl, header_put (len := 64) hk hc h (by decide) (by decide)]
 simp only [oelim_some, Bool.not_true, cond_false]
 rw [show Nat.ble ((bs (msgH 11 5 64 dom fl co src.fClock src.fPort sq lg)).size + (bs (msgS st ++ msgT ut p1 q p2 gr sp og)).size) 9223372036854775807 = true by rw [bs_size, bs_size]; kernel_rfl]
 simp only [cond_true]
 show some ((bs _ ++ bs _, _), _) = _
 rw [bs_append]
 rfl
theorem get_N {dom fl co sq lg st ut p1 p2 gr sp og : Int} {src : api_PortID} {q : api_Quality} (ha : AnnOk ut p1 q p2 gr sp og) (h : HdOk dom fl co src sq lg) (ht : 0 ≤ st) (ht2 : st ≤ 4000000000000000) :
  K54 (bs (msgN dom fl co src sq lg st ut p1 q p2 gr sp og)) = some ((msgAn dom fl co src sq lg st ut p1 q p2 gr sp og, ([], (0, ()))), (), ()) := by
 have hlen : (msgN dom fl co src sq lg st ut p1 q p2 gr sp og).length = 64 := by kernel_rfl
 have g2 : K73 (msgN dom fl co src sq lg st ut p1 q p2 gr sp og) 2 2 = some ((64, (true, ())), (), ()) := getN (v := 64) 2 (by decide) (by decide) (by decide) (by decide) (by omega) (by omega) (by kernel_rfl)
 have g6 : K73 (msgN dom fl co src sq lg st ut p1 q p2 gr sp og) 6 2 = some ((fl, (true, ())), (), ()) := by
  rw [getN (v := fl) 2 (by decide) (by decide) (by decide) (by decide) (by omega) (by omega) (by kernel_rfl)]
  rw [show fl % 256 ^ 2 = fl by have := h.f0; have := h.f1; omega]
 have g8 : K77 (msgN dom fl co src sq lg st ut p1 q p2 gr sp og) 8 8 = some ((co, (true, ())), (), ()) := by
  rw [sgnN (v := co) 8 (by decide) (by decide) (by decide) (by decide) (by omega) (by omega) (by kernel_rfl), sgn8]
  rw [show IntKind.i64.wrap (co % 256 ^ 8) = co by have := h.c0; have := h.c1; rw [iwrap]; omega]
 have g20 : K63 (msgN dom fl co src sq lg st ut p1 q p2 gr sp og) 20 = some ((src, (true, ())), (), ()) := identN (by decide) (by omega) (by omega) h.k0 h.k1 h.p0 h.p1 (by kernel_rfl) (by kernel_rfl)
 have g30 : K73 (msgN dom fl co src sq lg st ut p1 q p2 gr sp og) 30 2 = some ((sq, (true, ())), (), ()) := by
  rw [getN (v := sq) 2 (by decide) (by decide) (by decide) (by decide) (by omega) (by omega) (by kernel_rfl)]
  rw [show sq % 256 ^ 2 = sq by have := h.s0; have := h.s1; omega]
 have g33 : K77 (msgN dom fl co src sq lg st ut p1 q p2 gr sp og) 33 1 = some ((lg, (true, ())), (), ()) := by
  rw [sgnN (v := lg) 1 (by decide) (by decide) (by decide) (by decide) (by omega) (by omega) (by kernel_rfl)]
  rw [show sgn (lg % 256 ^ 1) 1 = lg from sgn1 lg h.l0 h.l1]
 have g34 : K96 (msgN dom fl co src sq lg st ut p1 q p2 gr sp og) 34 = some ((st, (true, ())), (), ()) := stampN (by decide) (by omega) (by omega) ht ht2 (by kernel_rfl) (by kernel_rfl)
 have hty0 : IntKind.i64.wrap (ofN (UInt8.toNat (List.getD (msgN dom fl co src sq lg st ut p1 q p2 gr sp og) (Int.toNat 0) (0 : D UC.u8)))) = 11 := by
  kernel_rfl
 have hd4 : IntKind.i64.wrap (ofN (UInt8.toNat (List.getD (msgN dom fl co src sq lg st ut p1 q p2 gr sp og) (Int.toNat 4) (0 : D UC.u8)))) = dom := by
  have : List.getD (msgN dom fl co src sq lg st ut p1 q p2 gr sp og) (Int.toNat 4) (0 : D UC.u8) = byteI (ishr .i64 dom (8 * ((0 : Nat) : Int))) := by kernel_rfl
  rw [this, show ofN (byteI (ishr .i64 dom (8 * ((0 : Nat) : Int)))).toNat = ((byteI (ishr .i64 dom (8 * ((0 : Nat) : Int)))).toNat : Int) from rfl, byteI_toNat, shr8 dom 0 (by decide)]
  have := h.d0; have := h.d1
  rw [iwrap]; omega
 have g44 : K77 (msgN dom fl co src sq lg st ut p1 q p2 gr sp og) 44 2 = some ((ut, (true, ())), (), ()) := by
  rw [sgnN (v := ut) 2 (by decide) (by decide) (by decide) (by decide) (by omega) (by omega) (by kernel_rfl)]
  rw [show sgn (ut % 256 ^ 2) 2 = ut from sgn2 ut ha.u0 ha.u1]
 have g47 : K73 (msgN dom fl co src sq lg st ut p1 q p2 gr sp og) 47 1 = some ((p1, (true, ())), (), ()) := by
  rw [getN (v := p1) 1 (by decide) (by decide) (by decide) (by decide) (by omega) (by omega) (by kernel_rfl)]
  rw [show p1 % 256 ^ 1 = p1 by have := ha.a0; have := ha.a1; omega]
 have g48 : K89 (msgN dom fl co src sq lg st ut p1 q p2 gr sp og) 48 = some ((q, (true, ())), (), ()) := qualN (by decide) (by omega) (by omega) ha.q0 ha.q1 ha.q2 ha.q3 ha.q4 ha.q5 (by kernel_rfl) (by kernel_rfl) (by kernel_rfl)
 have g52 : K73 (msgN dom fl co src sq lg st ut p1 q p2 gr sp og) 52 1 = some ((p2, (true, ())), (), ()) := by
  rw [getN (v := p2) 1 (by decide) (by decide) (by decide) (by decide) (by omega) (by omega) (by kernel_rfl)]
  rw [show p2 % 256 ^ 1 = p2 by have := ha.b0; have := ha.b1; omega]
 have g53 : K74 (msgN dom fl co src sq lg st ut p1 q p2 gr sp og) 53 = some ((gr, (true, ())), (), ()) := idN (by decide) (by omega) (by omega) ha.g0 ha.g1 (by kernel_rfl)
 have g61 : K73 (msgN dom fl co src sq lg st ut p1 q p2 gr sp og) 61 2 = some ((sp, (true, ())), (), ()) := by
  rw [getN (v := sp) 2 (by decide) (by decide) (by decide) (by decide) (by omega) (by omega) (by kernel_rfl)]
  rw [show sp % 256 ^ 2 = sp by have := ha.s0; have := ha.s1; omega]
 have g63 : K73 (msgN dom fl co src sq lg st ut p1 q p2 gr sp og) 63 1 = some ((og, (true, ())), (), ()) := by
  rw [getN (v := og) 1 (by decide) (by decide) (by decide) (by decide) (by omega) (by omega) (by kernel_rfl)]
  rw [show og % 256 ^ 1 = og by have := ha.o0; have := ha.o1; omega]
 have hk : K58 11 = some ((true, ()), (), ()) := by kernel_rfl
 have hh : K57 (msgN dom fl co src sq lg st ut p1 q p2 gr sp og) = some ((msg0 11 dom fl co src sq lg 0 api_PortID.z, (64, (0, ()))), (), ()) := by
  unfold K57 K57.gen
  rw [g2, g6, g8, g20, g30, g33, hty0, hd4, hk, hlen]
  kernel_rfl
 have hb := body_get_N hlen g34 g44 g47 g48 g52 g53 g61 g63 (dom := dom) (fl := fl) (co := co) (src := src) (sq := sq) (lg := lg)
 unfold K54 K54.gen
 rw [bs_data, hh]
 simp only [oelim_some, ine_self, cond_false]
 rw [hb]
 simp only [oelim_some, ine_self, cond_false]
 rw [show K105 (msgN dom fl co src sq lg st ut p1 q p2 gr sp og) 64 = _ from tlv_get_nil _ 64 hlen]
 rfl
theorem place_spec (v n : Int) (hn : 0 < n) (hn2 : n ≤ 4611686018427387904) : K66 v n = some ((v % n, ()), (), ()) := by
 have h1 : ine n 0 = true := ine_true (by omega)
 have h2 := Int.emod_nonneg v (Int.ne_of_gt hn)
 have h3 := Int.emod_lt_of_pos v hn
 obtain ⟨h4, h5⟩ := tmod_place v n hn
 unfold K66 K66.gen
 rw [h1]
 simp only [cond_true, oelim_some]
 by_cases hc : v.tmod n < 0
 ·have e : iadd .i64 (irem v n) n = v % n := by
   have := h4 hc
   rw [iadd_of] <;> simp only [irem] <;> omega
  rw [show ilt (irem v n) 0 = true from ilt_true hc, e]; simp only [cond_true, oelim_some]
 ·rw [show ilt (irem v n) 0 = false from ilt_false hc, show irem v n = v % n from h5 hc]; simp only [cond_false, oelim_some]
theorem out_ok {n : Int} {m : api_Msg} {want : Bool} {K : clock_Clock} {b : ByteArray} (hp : K55 m [] = some ((b, (true, ())), (), ())) (ho : K.fouts.length < 1000) :
  K18 n m [] want K = some ((), (K.set_fouts (K.fouts ++ [api_Out.mk 1 n 0 want m.fType m.fSeq b]), ()), ()) := by
 unfold K18 K18.gen
 rw [hp]
 simp only [oelim_some, cond_true]
 rw [show room (K.fouts.length + (api_Out.mk 1 n 0 want m.fType m.fSeq b :: lnil api_Out).length) 64 = true from room_true (by show (K.fouts.length + 1) * 64 ≤ _; omega)]
 rfl
theorem now_ok {t : Int} (h0 : 0 ≤ t) (h1 : t ≤ 4000000000000000) : Z7 true 0 (Z7 false t 4000000000000000) = t := by
 simp only [Z7, cond_true, cond_false, imin, imax]
 split <;> split <;> omega
theorem fset_same {α : Type} (f : Nat → α) (i : Nat) (x : α) : fset f i x i = x := by simp [fset]
theorem path_nil {K : clock_Clock} {g12 : Fm (List (api_PortID × List Int))} (h : K.fconf.fTrace = false) : K19 K g12 = some (([], ()), (), ()) := by
 unfold K19 K19.gen
 rw [h]; rfl
theorem i_6_6 : ieq 6 6 = true := rfl
theorem ticks_3 : K99 (-3) = some ((1, ()), (), ()) := by kernel_rfl
theorem start_1 (t : timer_Timer) : K101 1 t = some ((), (timer_Timer.mk 1, ()), ()) := by kernel_rfl
theorem tick_1 : K103 (timer_Timer.mk 1) = some ((true, ()), (timer_Timer.mk 0, ()), ()) := by kernel_rfl
noncomputable def spoken (K : clock_Clock) (i : Nat) (n : Int) (ka ks : Int) (bA bS : ByteArray) : clock_Clock :=
  { K with fports := fset (fset (fset (fset (fset (fset K.fports i { K.fports i with fannounce := timer_Timer.mk 0 }) i { K.fports i with fannounce := timer_Timer.mk 0, fannounces := iand .i64 (iadd .i64 (iand .i64 ka 65535) 1) 65535 }) i { K.fports i with fannounce := timer_Timer.mk 1, fannounces := iand .i64 (iadd .i64 (iand .i64 ka 65535) 1) 65535 }) i { K.fports i with fannounce := timer_Timer.mk 1, fannounces := iand .i64 (iadd .i64 (iand .i64 ka 65535) 1) 65535, fsync := timer_Timer.mk 0 }) i { K.fports i with fannounce := timer_Timer.mk 1, fannounces := iand .i64 (iadd .i64 (iand .i64 ka 65535) 1) 65535, fsync := timer_Timer.mk 0, fsyncs := iand .i64 (iadd .i64 (iand .i64 ks 65535) 1) 65535 }) i { K.fports i with fannounce := timer_Timer.mk 1, fannounces := iand .i64 (iadd .i64 (iand .i64 ka 65535) 1) 65535, fsync := timer_Timer.mk 1, fsyncs := iand .i64 (iadd .i64 (iand .i64 ks 65535) 1) 65535 }
           fouts := (K.fouts ++ [api_Out.mk 1 n 0 false 11 ka bA]) ++ [api_Out.mk 1 n 0 (!K.fconf.fOneStep) 0 ks bS] }
theorem speak_master {K : clock_Clock} {g7 : Fm delay_Exchange} {g8 : Fm peer_Exchange} {g12 : Fm (List (api_PortID × List Int))} {n now : Int} {i : Nat} {bA bS : ByteArray} {ka ks : Int}
  (hs : K22 n K = some ((i, ()), (), ())) (h6 : (K.fports i).fstate = 6) (ha : (K.fports i).fannounce = timer_Timer.mk 1) (hy : (K.fports i).fsync = timer_Timer.mk 1)
  (hp : K.fconf.fPeer = false) (ht : K.fconf.fTrace = false) (hla : K.fconf.fLogAnn = -3) (hls : K.fconf.fLogSync = -3) (hka : (K.fports i).fannounces = ka) (hks : (K.fports i).fsyncs = ks) (ho : K.fouts.length < 500)
  (hA : K55 (msgAn K.fconf.fDomain K.fparent.fTimes.fFlags 0 (api_PortID.mk K.fconf.fClock n) ka (-3) 0 K.fparent.fTimes.fUtc K.fparent.fPriority1 K.fparent.fQuality K.fparent.fPriority2 K.fparent.fGrand K.fparent.fSteps K.fparent.fTimes.fOrigin) [] = some ((bA, (true, ())), (), ()))
  (hS : K55 (msg0 0 K.fconf.fDomain (bif K.fconf.fOneStep then 0 else 512) 0 (api_PortID.mk K.fconf.fClock n) ks (-3) (bif K.fconf.fOneStep then now else 0) api_PortID.z) [] = some ((bS, (true, ())), (), ())) :
  K23 n now K g7 g8 g12 = some ((), (spoken K i n ka ks bA bS, g7, g8, g12, ()), ()) := by
 unfold K23 K23.gen
 rw [hs]
 simp only [oelim_some, h6, i_6_6, cond_true, ha]
 rw [show K103 (timer_Timer.mk 1) = some ((true, ()), (timer_Timer.mk 0, ()), ()) by kernel_rfl]
 simp only [oelim_some, cond_true, fset_same]
 unfold K111 K111.gen
 simp only [oelim_some]
 rw [path_nil (by exact ht)]
 simp only [oelim_some, hla, hka]
 rw [out_ok hA (by show K.fouts.length < 1000; omega)]
 simp only [oelim_some, fset_same]
 unfold K94 K94.gen K11 K11.gen
 simp only [oelim_some, hla, hls, ticks_3, fset_same, h6, i_6_6, cond_true, hka, hy, start_1, tick_1]
 unfold K21 K21.gen
 simp only [oelim_some, hla, hls, hks, h6]
 cases hos : K.fconf.fOneStep with
 | true =>
  simp only [hos, cond_true] at hS
  simp only [oelim_some, hos, cond_true, Bool.not_true]
  rw [out_ok hS (by show (K.fouts ++ [_]).length < 1000; simp; omega)]
  simp only [oelim_some, hla, hls, ticks_3, fset_same, h6, start_1, hp, cond_false, hks]
  rw [show K85 6 = some ((false, ()), (), ()) by kernel_rfl]
  simp only [oelim_some, cond_false]
  unfold spoken
  rw [hos]
  rfl
 | false =>
  simp only [hos, cond_false] at hS
  simp only [oelim_some, hos, cond_false, Bool.not_false]
  rw [out_ok hS (by show (K.fouts ++ [_]).length < 1000; simp; omega)]
  simp only [oelim_some, hla, hls, ticks_3, fset_same, h6, start_1, hp, cond_false, hks]
  rw [show K85 6 = some ((false, ()), (), ()) by kernel_rfl]
  simp only [oelim_some, cond_false]
  unfold spoken
  rw [hos]
  rfl
abbrev Gs := (Fm foreign_Table) × (Fm delay_Exchange) × (Fm peer_Exchange) × (Fm median_Filter) × (Fm seq_Match) × (Fm (List (api_PortID × List Int))) × Unit
theorem tick_of {now : Int} {K K1 K2 K3 : clock_Clock} {g e f o : Gs} {u1 : Unit}
  (h0 : K24.F0 ((now, 1, ()), K.set_fticks (Z7 false (iadd .i64 K.fticks 1) 1099511627776), g) = some ((now, ()), K1, e))
  (h1 : K11 K1 = some ((1, ()), (), ()))
  (h2 : K15 K1 e.1 e.2.1 e.2.2.2.1 e.2.2.2.2.1 = some (u1, (K2, f.1, f.2.1, f.2.2.2.1, f.2.2.2.2.1, ()), ()))
  (h3 : K24.F1 ((now, 1, ()), K2, f.1, f.2.1, e.2.2.1, f.2.2.2.1, f.2.2.2.2.1, e.2.2.2.2.2.1, ()) = some ((), K3, o)) :
  K24 now K g.1 g.2.1 g.2.2.1 g.2.2.2.1 g.2.2.2.2.1 g.2.2.2.2.2.1 = some ((), (K3, o.1, o.2.1, o.2.2.1, o.2.2.2.1, o.2.2.2.2.1, o.2.2.2.2.2.1, ()), ()) := by
 unfold K24 K24.gen
 rw [show K24.F0 ((now, 1, ()), K.set_fticks (Z7 false (iadd .i64 K.fticks 1) 1099511627776), g.1, g.2.1, g.2.2.1, g.2.2.2.1, g.2.2.2.2.1, g.2.2.2.2.2.1, ()) = _ from h0]
 simp only [oelim_some, h1, show ine 1 0 = true from rfl, cond_true]
 have hr : irem K1.fticks 1 = 0 := by unfold irem; rw [Int.tmod_one]
 rw [hr]
 simp only [ieq_self, cond_true]
 rw [h2]
 simp only [oelim_some]
 rw [h3]
 rfl
noncomputable def spk (bA bS : Nat → ByteArray) : Nat → clock_Clock → clock_Clock
 | 0, K => K
 | j + 1, K => spoken (spk bA bS j K) j ((j + 1 : Nat) : Int) (K.fports j).fannounces (K.fports j).fsyncs (bA j) (bS j)
theorem fset_other {α : Type} (f : Nat → α) (i j : Nat) (x : α) (h : j ≠ i) : fset f i x j = f j := by simp [fset, h]
abbrev annOf (K : clock_Clock) (i : Nat) : api_Msg := msgAn K.fconf.fDomain K.fparent.fTimes.fFlags 0 (api_PortID.mk K.fconf.fClock ((i + 1 : Nat) : Int)) (K.fports i).fannounces (-3) 0 K.fparent.fTimes.fUtc K.fparent.fPriority1 K.fparent.fQuality K.fparent.fPriority2 K.fparent.fGrand K.fparent.fSteps K.fparent.fTimes.fOrigin
abbrev synOf (K : clock_Clock) (i : Nat) (now : Int) : api_Msg := msg0 0 K.fconf.fDomain (bif K.fconf.fOneStep then 0 else 512) 0 (api_PortID.mk K.fconf.fClock ((i + 1 : Nat) : Int)) (K.fports i).fsyncs (-3) (bif K.fconf.fOneStep then now else 0) api_PortID.z
abbrev NT := (Fm clock_Clock) × (Fm servo_Servo) × Gs
theorem F0_step (now n : Int) (x : clock_Clock × Gs) : K24.step0 K22 K14 K11 K15 K23 ((now, n, ()), x) =
  match K24.step0 K22 K14 K11 K15 K23 ((0, n, ()), x) with
  | some (.inl a) => some (.inl ((now, a.1.2.1, ()), a.2))
  | some (.inr b) => some (.inr ((now, ()), b.2))
  | none => none := by
 unfold K24.step0
 simp only []
 cases ile n x.1.fconf.fPorts with
 | false => rfl
 | true =>
  simp only [cond_true]
  cases K22 n x.1 with
  | none => rfl
  | some r =>
   simp only [oelim_some]
   cases K14 r.1.1 x.1 x.2.1 x.2.2.2.2.2.2.1 with
   | none => rfl
   | some q => rfl
theorem F0_fix (now : Int) : ∀ (N : Nat) (n : Int) (x : clock_Clock × Gs), Za N (K24.step0 K22 K14 K11 K15 K23) ((now, n, ()), x) =
  (Za N (K24.step0 K22 K14 K11 K15 K23) ((0, n, ()), x)).map fun b => ((now, ()), b.2)
 | 0, n, x => rfl
 | N + 1, n, x => by
  unfold Za
  rw [F0_step now n x]
  cases K24.step0 K22 K14 K11 K15 K23 ((0, n, ()), x) with
  | none => rfl
  | some r =>
   cases r with
   | inr b => rfl
   | inl a =>
    have h := F0_fix a.1.1 N a.1.2.1 a.2
    have h' : Za N (K24.step0 K22 K14 K11 K15 K23) a = _ := h
    show Za N _ ((now, a.1.2.1, ()), a.2) = Option.map _ (Za N _ a)
    rw [h', F0_fix now N a.1.2.1 a.2]
    cases Za N (K24.step0 K22 K14 K11 K15 K23) ((0, a.1.2.1, ()), a.2) with
    | none => rfl
    | some b => rfl
theorem F0_now (now : Int) (x : clock_Clock × Gs) (y : clock_Clock × Gs) (z : Int × Unit) (h : K24.F0 ((0, 1, ()), x) = some (z, y)) : K24.F0 ((now, 1, ()), x) = some ((now, ()), y) := by
 unfold K24.F0 at h ⊢
 rw [F0_fix, h]; rfl
abbrev R1 := clock_Clock × Gs
noncomputable def mid (s : R1) : Option (clock_Clock × Gs × clock_Clock × Gs) :=
 match K24.F0 ((0, 1, ()), s.1.set_fticks (Z7 false (iadd .i64 s.1.fticks 1) 1099511627776), s.2) with
 | some (_, K1, e) =>
  match K15 K1 e.1 e.2.1 e.2.2.2.1 e.2.2.2.2.1 with
  | some (_, (K2, f), _) => some (K1, e, K2, (f.1, f.2.1, e.2.2.1, f.2.2.1, f.2.2.2.1, e.2.2.2.2.2.1, ()))
  | none => none
 | none => none
noncomputable def hdB (m : api_Msg) : Bool := decide (0 ≤ m.fDomain ∧ m.fDomain ≤ 255 ∧ 0 ≤ m.fFlags ∧ m.fFlags ≤ 65535 ∧ -9223372036854775808 ≤ m.fCorr ∧ m.fCorr < 9223372036854775808 ∧ 0 ≤ m.fSource.fClock ∧ m.fSource.fClock < 18446744073709551616 ∧ 0 ≤ m.fSource.fPort ∧ m.fSource.fPort ≤ 65535 ∧ 0 ≤ m.fSeq ∧ m.fSeq ≤ 65535 ∧ -128 ≤ m.fLog ∧ m.fLog ≤ 127)
noncomputable def anB (m : api_Msg) : Bool := decide (-32768 ≤ m.fUtc ∧ m.fUtc ≤ 32767 ∧ 0 ≤ m.fPriority1 ∧ m.fPriority1 ≤ 255 ∧ 0 ≤ m.fQuality.fClass ∧ m.fQuality.fClass ≤ 255 ∧ 0 ≤ m.fQuality.fAccuracy ∧ m.fQuality.fAccuracy ≤ 255 ∧ 0 ≤ m.fQuality.fVariance ∧ m.fQuality.fVariance ≤ 65535 ∧ 0 ≤ m.fPriority2 ∧ m.fPriority2 ≤ 255 ∧ 0 ≤ m.fGrand ∧ m.fGrand < 18446744073709551616 ∧ 0 ≤ m.fSteps ∧ m.fSteps ≤ 65535 ∧ 0 ≤ m.fOrigin ∧ m.fOrigin ≤ 255)
noncomputable def leadsB (p : Nat) (K : clock_Clock) : Bool :=
 decide (p ≤ 8) && decide (K.fconf.fPorts = (p : Int)) && !K.fconf.fPeer && !K.fconf.fTrace && decide (K.fconf.fLogAnn = -3) && decide (K.fconf.fLogSync = -3) && K.fouts.isEmpty && (List.range p).all fun i => decide ((K.fports i).fstate = 6) && decide ((K.fports i).fannounce.fleft = 1) && decide ((K.fports i).fsync.fleft = 1) && hdB (annOf K i) && anB (annOf K i) && hdB (synOf K i 0)
noncomputable def okAt (p : Nat) (s : R1) : Bool :=
 match mid s with
 | some (K1, _, K2, _) => decide (K1.fconf.fLogAnn = -3) && leadsB p K2 && s.1.fouts.isEmpty
 | none => false
theorem spoken_quiet (K : clock_Clock) (i : Nat) (n ka ks : Int) (bA bS : ByteArray) : (spoken K i n ka ks bA bS).set_fouts [] = (spoken (K.set_fouts []) i n ka ks ByteArray.empty ByteArray.empty).set_fouts [] := rfl
noncomputable def annB (K : clock_Clock) (i : Nat) : ByteArray := bs (msgN K.fconf.fDomain K.fparent.fTimes.fFlags 0 (api_PortID.mk K.fconf.fClock ((i + 1 : Nat) : Int)) (K.fports i).fannounces (-3) 0 K.fparent.fTimes.fUtc K.fparent.fPriority1 K.fparent.fQuality K.fparent.fPriority2 K.fparent.fGrand K.fparent.fSteps K.fparent.fTimes.fOrigin)
noncomputable def synB (K : clock_Clock) (now : Int) (i : Nat) : ByteArray := bs (msgA 0 0 K.fconf.fDomain (bif K.fconf.fOneStep then 0 else 512) 0 (api_PortID.mk K.fconf.fClock ((i + 1 : Nat) : Int)) (K.fports i).fsyncs (-3) (bif K.fconf.fOneStep then now else 0))
noncomputable def quiet (st : Int) : Bool := match K85 st with | some r => !r.1.1 | none => false
theorem quiet_of {st : Int} (h : quiet st = true) : K85 st = some ((false, ()), (), ()) := by
 unfold quiet at h
 split at h
 ·rename_i r hr
  obtain ⟨⟨b, u⟩, v, w⟩ := r
  rw [hr]
  have : b = false := by simpa using h
  subst this; rfl
 ·cases h
theorem speak_quiet {K : clock_Clock} {g7 : Fm delay_Exchange} {g8 : Fm peer_Exchange} {g12 : Fm (List (api_PortID × List Int))} {n now : Int} {i : Nat}
  (hs : K22 n K = some ((i, ()), (), ())) (h6 : ieq (K.fports i).fstate 6 = false) (hp : K.fconf.fPeer = false) (hq : quiet (K.fports i).fstate = true) :
  K23 n now K g7 g8 g12 = some ((), (K, g7, g8, g12, ()), ()) := by
 unfold K23 K23.gen
 rw [hs]
 simp only [oelim_some, h6, cond_false, quiet_of hq, hp]
noncomputable def spkS (bA bS : Nat → ByteArray) : Nat → clock_Clock → clock_Clock
 | 0, K => K
 | j + 1, K => bif ieq (K.fports j).fstate 6 then spoken (spkS bA bS j K) j ((j + 1 : Nat) : Int) (K.fports j).fannounces (K.fports j).fsyncs (bA j) (bS j) else spkS bA bS j K
theorem spkS_facts (bA bS : Nat → ByteArray) (K : clock_Clock) : ∀ j, (spkS bA bS j K).fconf = K.fconf ∧ (spkS bA bS j K).fparent = K.fparent ∧ (spkS bA bS j K).fouts.length ≤ K.fouts.length + 2 * j ∧ ∀ i, j ≤ i → (spkS bA bS j K).fports i = K.fports i
 | 0 => ⟨rfl, rfl, Nat.le_refl _, fun _ _ => rfl⟩
 | j + 1 => by
  obtain ⟨h1, h2, h3, h4⟩ := spkS_facts bA bS K j
  unfold spkS
  cases ieq (K.fports j).fstate 6 with
  | false => exact ⟨h1, h2, Nat.le_trans h3 (by omega), fun i hi => h4 i (by omega)⟩
  | true =>
   refine ⟨h1, h2, ?_, fun i hi => ?_⟩
   ·simp only [cond_true, spoken, List.length_append, List.length_cons, List.length_nil]
    omega
   ·have : i ≠ j := by omega
    simp only [cond_true, spoken, fset_other _ _ _ _ this]
    exact h4 i (by omega)
structure LeadsS (K : clock_Clock) (p : Nat) : Prop where
 p1 : p ≤ 8
 ports : K.fconf.fPorts = (p : Int)
 peer : K.fconf.fPeer = false
 trace : K.fconf.fTrace = false
 la : K.fconf.fLogAnn = -3
 ls : K.fconf.fLogSync = -3
 st : ∀ i, i < p → (ieq (K.fports i).fstate 6 = true ∧ (K.fports i).fannounce = timer_Timer.mk 1 ∧ (K.fports i).fsync = timer_Timer.mk 1) ∨ (ieq (K.fports i).fstate 6 = false ∧ quiet (K.fports i).fstate = true)
 outs : K.fouts = []
theorem ieq_ok {a b : Int} (h : ieq a b = true) : a = b := by unfold ieq at h; simpa using h
theorem speak_allS {K : clock_Clock} {p : Nat} {now : Int} {g : Gs} {bA bS : Nat → ByteArray} (hK : LeadsS K p) (hA : ∀ i, i < p → ieq (K.fports i).fstate 6 = true → K55 (annOf K i) [] = some ((bA i, (true, ())), (), ())) (hS : ∀ i, i < p → ieq (K.fports i).fstate 6 = true → K55 (synOf K i now) [] = some ((bS i, (true, ())), (), ())) :
  K24.F1 ((now, 1, ()), K, g) = some ((), spkS bA bS p K, g) := by
 have hp := hK.p1
 unfold K24.F1
 refine loop_to (step := K24.step1 _ _ _ _ _) (fun j => ((now, ((j + 1 : Nat) : Int), ()), spkS bA bS j K, g)) p _ (by omega) (fun j hj => ?_) ?_
 ·obtain ⟨h1, h2, h3, h4⟩ := spkS_facts bA bS K j
  have hsd : K22 ((j + 1 : Nat) : Int) (spkS bA bS j K) = some ((j, ()), (), ()) := by
   unfold K22 K22.gen
   have : isub .i64 ((j + 1 : Nat) : Int) 1 = (j : Int) := by rw [isub_of (by omega)]; omega
   rw [this, show inR (j : Int) 8 = true by rw [inR_nat]; simp; omega]
   rfl
  unfold K24.step1
  simp only []
  rw [show (spkS bA bS j K).fconf.fPorts = (p : Int) by rw [h1]; exact hK.ports, ile_true (show ((j + 1 : Nat) : Int) ≤ (p : Int) by omega)]
  simp only [cond_true]
  rcases hK.st j hj with hj' | hj'
  ·have e6 := hj'.1
   rw [← h4 j (Nat.le_refl _)] at hj'
   rw [speak_master (K := spkS bA bS j K) (i := j) (bA := bA j) (bS := bS j) (ka := (K.fports j).fannounces) (ks := (K.fports j).fsyncs) hsd (ieq_ok hj'.1) hj'.2.1 hj'.2.2 (by rw [h1]; exact hK.peer) (by rw [h1]; exact hK.trace) (by rw [h1]; exact hK.la) (by rw [h1]; exact hK.ls) (by rw [h4 j (Nat.le_refl _)]) (by rw [h4 j (Nat.le_refl _)]) (by rw [hK.outs] at h3; simp at h3; omega) (by rw [h1, h2]; exact hA j hj e6) (by rw [h1]; exact hS j hj e6)]
   simp only [oelim_some]
   rw [iinc (show j + 1 < 4611686018427387904 by omega)]
   rw [show spkS bA bS (j + 1) K = spoken (spkS bA bS j K) j ((j + 1 : Nat) : Int) (K.fports j).fannounces (K.fports j).fsyncs (bA j) (bS j) by rw [spkS, e6]; rfl]
  ·have e6 := hj'.1
   rw [← h4 j (Nat.le_refl _)] at hj'
   rw [speak_quiet (K := spkS bA bS j K) (i := j) hsd hj'.1 (by rw [h1]; exact hK.peer) hj'.2]
   simp only [oelim_some]
   rw [iinc (show j + 1 < 4611686018427387904 by omega)]
   rw [show spkS bA bS (j + 1) K = spkS bA bS j K by rw [spkS, e6]; rfl]
 ·obtain ⟨h1, h2, h3, h4⟩ := spkS_facts bA bS K p
  unfold K24.step1
  simp only []
  rw [show (spkS bA bS p K).fconf.fPorts = (p : Int) by rw [h1]; exact hK.ports, ile_false (show ¬ ((p + 1 : Nat) : Int) ≤ (p : Int) by omega)]
  rfl
noncomputable def saidS (K : clock_Clock) (bA bS : Nat → ByteArray) : Nat → List api_Out
 | 0 => []
 | j + 1 => bif ieq (K.fports j).fstate 6 then saidS K bA bS j ++ [api_Out.mk 1 ((j + 1 : Nat) : Int) 0 false 11 (K.fports j).fannounces (bA j)] ++ [api_Out.mk 1 ((j + 1 : Nat) : Int) 0 (!K.fconf.fOneStep) 0 (K.fports j).fsyncs (bS j)] else saidS K bA bS j
theorem spkS_outs (bA bS : Nat → ByteArray) (K : clock_Clock) : ∀ j, (spkS bA bS j K).fouts = K.fouts ++ saidS K bA bS j
 | 0 => by simp [spkS, saidS]
 | j + 1 => by
  obtain ⟨h1, _⟩ := spkS_facts bA bS K j
  unfold spkS saidS
  cases ieq (K.fports j).fstate 6 with
  | false => exact spkS_outs bA bS K j
  | true => simp only [cond_true, spoken, spkS_outs bA bS K j, h1, List.append_assoc]
theorem spkS_quiet (bA bS bA' bS' : Nat → ByteArray) (K : clock_Clock) : ∀ j, (spkS bA bS j K).set_fouts [] = (spkS bA' bS' j K).set_fouts []
 | 0 => rfl
 | j + 1 => by
  unfold spkS
  cases ieq (K.fports j).fstate 6 with
  | false => exact spkS_quiet bA bS bA' bS' K j
  | true =>
   simp only [cond_true]
   rw [spoken_quiet, spkS_quiet bA bS bA' bS' K j, ← spoken_quiet]
noncomputable def hdC (m : api_Msg) : Bool := decide (0 ≤ m.fDomain ∧ m.fDomain ≤ 255 ∧ 0 ≤ m.fFlags ∧ m.fFlags ≤ 65535 ∧ 0 ≤ m.fSource.fPort ∧ m.fSource.fPort ≤ 65535 ∧ 0 ≤ m.fSeq ∧ m.fSeq ≤ 65535)
noncomputable def anC (m : api_Msg) : Bool := decide (-32768 ≤ m.fUtc ∧ m.fUtc ≤ 32767 ∧ 0 ≤ m.fPriority1 ∧ m.fPriority1 ≤ 255 ∧ 0 ≤ m.fQuality.fClass ∧ m.fQuality.fClass ≤ 255 ∧ 0 ≤ m.fQuality.fAccuracy ∧ m.fQuality.fAccuracy ≤ 255 ∧ 0 ≤ m.fQuality.fVariance ∧ m.fQuality.fVariance ≤ 65535 ∧ 0 ≤ m.fPriority2 ∧ m.fPriority2 ≤ 255 ∧ 0 ≤ m.fSteps ∧ m.fSteps ≤ 0 ∧ 0 ≤ m.fOrigin ∧ m.fOrigin ≤ 255)
noncomputable def leadsS (p : Nat) (K : clock_Clock) : Bool :=
 decide (p ≤ 8) && decide (K.fconf.fPorts = (p : Int)) && !K.fconf.fPeer && !K.fconf.fTrace && decide (K.fconf.fLogAnn = -3) && decide (K.fconf.fLogSync = -3) && K.fouts.isEmpty && (List.range p).all fun i => bif ieq (K.fports i).fstate 6 then decide ((K.fports i).fannounce.fleft = 1) && decide ((K.fports i).fsync.fleft = 1) && hdC (annOf K i) && anC (annOf K i) && hdC (synOf K i 0) else quiet (K.fports i).fstate
theorem leadsS_of {p : Nat} {K : clock_Clock} (h : leadsS p K = true) : LeadsS K p ∧ ∀ i, i < p → ieq (K.fports i).fstate 6 = true → hdC (annOf K i) = true ∧ anC (annOf K i) = true ∧ hdC (synOf K i 0) = true := by
 unfold leadsS at h
 simp only [Bool.and_eq_true, decide_eq_true_eq, Bool.not_eq_true', List.all_eq_true, List.mem_range, List.isEmpty_iff] at h
 obtain ⟨⟨⟨⟨⟨⟨⟨h1, h2⟩, h3⟩, h4⟩, h5⟩, h6⟩, h7⟩, h8⟩ := h
 refine ⟨⟨h1, h2, h3, h4, h5, h6, fun i hi => ?_, h7⟩, fun i hi e6 => ?_⟩
 ·have h9 := h8 i hi
  cases e6 : ieq (K.fports i).fstate 6 with
  | false => rw [e6] at h9; exact .inr ⟨rfl, h9⟩
  | true =>
   rw [e6] at h9
   simp only [cond_true, Bool.and_eq_true, decide_eq_true_eq] at h9
   obtain ⟨⟨⟨⟨a2, a3⟩, a4⟩, a5⟩, a6⟩ := h9
   refine .inl ⟨rfl, ?_, ?_⟩
   ·revert a2
    generalize (K.fports i).fannounce = x
    intro a2
    cases x; cases a2; rfl
   ·revert a3
    generalize (K.fports i).fsync = x
    intro a3
    cases x; cases a3; rfl
 ·have h9 := h8 i hi
  rw [e6] at h9
  simp only [cond_true, Bool.and_eq_true, decide_eq_true_eq] at h9
  exact ⟨h9.1.1.2, h9.1.2, h9.2⟩
structure IdOk (K : clock_Clock) : Prop where
 c0 : 0 ≤ K.fconf.fClock
 c1 : K.fconf.fClock < 18446744073709551616
 g0 : 0 ≤ K.fparent.fGrand
 g1 : K.fparent.fGrand < 18446744073709551616
theorem hdC_ann {K : clock_Clock} {i : Nat} (h : hdC (annOf K i) = true) (hI : IdOk K) : HdOk K.fconf.fDomain K.fparent.fTimes.fFlags 0 (api_PortID.mk K.fconf.fClock ((i + 1 : Nat) : Int)) (K.fports i).fannounces (-3) := by
 have h := of_decide_eq_true h
 exact ⟨h.1, h.2.1, h.2.2.1, h.2.2.2.1, by decide, by decide, hI.c0, hI.c1, h.2.2.2.2.1, h.2.2.2.2.2.1, h.2.2.2.2.2.2.1, h.2.2.2.2.2.2.2, by decide, by decide⟩
theorem hdC_syn {K : clock_Clock} {i : Nat} (h : hdC (synOf K i 0) = true) (hI : IdOk K) : HdOk K.fconf.fDomain (bif K.fconf.fOneStep then 0 else 512) 0 (api_PortID.mk K.fconf.fClock ((i + 1 : Nat) : Int)) (K.fports i).fsyncs (-3) := by
 have h := of_decide_eq_true h
 exact ⟨h.1, h.2.1, h.2.2.1, h.2.2.2.1, by decide, by decide, hI.c0, hI.c1, h.2.2.2.2.1, h.2.2.2.2.2.1, h.2.2.2.2.2.2.1, h.2.2.2.2.2.2.2, by decide, by decide⟩
theorem anC_ann {K : clock_Clock} {i : Nat} (h : anC (annOf K i) = true) (hI : IdOk K) : AnnOk K.fparent.fTimes.fUtc K.fparent.fPriority1 K.fparent.fQuality K.fparent.fPriority2 K.fparent.fGrand K.fparent.fSteps K.fparent.fTimes.fOrigin := by
 have h := of_decide_eq_true h
 exact ⟨h.1, h.2.1, h.2.2.1, h.2.2.2.1, h.2.2.2.2.1, h.2.2.2.2.2.1, h.2.2.2.2.2.2.1, h.2.2.2.2.2.2.2.1, h.2.2.2.2.2.2.2.2.1, h.2.2.2.2.2.2.2.2.2.1, h.2.2.2.2.2.2.2.2.2.2.1, h.2.2.2.2.2.2.2.2.2.2.2.1, hI.g0, hI.g1, h.2.2.2.2.2.2.2.2.2.2.2.2.1, by have := h.2.2.2.2.2.2.2.2.2.2.2.2.2.1; simp only at this; omega, h.2.2.2.2.2.2.2.2.2.2.2.2.2.2.1, h.2.2.2.2.2.2.2.2.2.2.2.2.2.2.2⟩
theorem anC_steps {K : clock_Clock} {i : Nat} (h : anC (annOf K i) = true) : K.fparent.fSteps = 0 := by
 have h := of_decide_eq_true h
 have h1 := h.2.2.2.2.2.2.2.2.2.2.2.2.1
 have h2 := h.2.2.2.2.2.2.2.2.2.2.2.2.2.1
 simp only at h1 h2
 omega
theorem step_S {p : Nat} {s : R1} {K K1 K2 : clock_Clock} {e f : Gs} {g5 : Fm servo_Servo} {t a0 a1 a2 : Int} {b : ByteArray} {c : api_Conf} (hK : K.set_fouts [] = s.1) (hm : mid s = some (K1, e, K2, f)) (hla : K1.fconf.fLogAnn = -3) (hl : leadsS p K2 = true) (hI : IdOk K2) (h0 : 0 ≤ t) (h1 : t ≤ 4000000000000000) :
  K10 (api_Event.mk 1 a0 t a1 a2 b c) K g5 s.2.1 s.2.2.1 s.2.2.2.1 s.2.2.2.2.1 s.2.2.2.2.2.1 s.2.2.2.2.2.2.1 = some ((saidS K2 (annB K2) (synB K2 t) p, ()), (spkS (annB K2) (synB K2 t) p K2, g5, f.1, f.2.1, f.2.2.1, f.2.2.2.1, f.2.2.2.2.1, f.2.2.2.2.2.1, ()), ()) := by
 obtain ⟨hL, hR⟩ := leadsS_of hl
 unfold mid at hm
 split at hm
 ·rename_i z K1' e' h00
  split at hm
  ·rename_i u K2' f' w hd
   cases hm
   have hF1 := speak_allS (now := t) (g := (f'.1, f'.2.1, e.2.2.1, f'.2.2.1, f'.2.2.2.1, e.2.2.2.2.2.1, ())) (bA := annB K2) (bS := synB K2 t) hL (fun i hi e6 => put_N (anC_ann (hR i hi e6).2.1 hI) (hdC_ann (hR i hi e6).1 hI) (by decide) (by decide))
    (fun i hi e6 => put_A (.inl ⟨rfl, rfl⟩) (hdC_syn (hR i hi e6).2.2 hI) (by cases K2.fconf.fOneStep <;> simp [h0]) (by cases K2.fconf.fOneStep <;> simp [h1]))
   have ht := tick_of (now := t) (K := s.1) (K1 := K1) (K2 := K2) (g := s.2) (e := e) (f := (f'.1, f'.2.1, e.2.2.1, f'.2.2.1, f'.2.2.2.1, e.2.2.2.2.2.1, ())) (F0_now t _ _ z h00)
    (by unfold K11 K11.gen; rw [hla]; rfl) hd hF1
   unfold K10 K10.gen
   simp only [show ieq 1 1 = true from rfl, cond_true, now_ok h0 h1]
   rw [show clock_Clock.set_fouts K (lnil api_Out) = s.1 from hK]
   rw [ht]
   simp only [oelim_some, spkS_outs, hL.outs]
   rfl
  ·cases hm
 ·cases hm
abbrev MidF := R1 → Option (clock_Clock × Gs × clock_Clock × Gs)
noncomputable def okM (M : MidF) (p : Nat) (s : R1) : Bool :=
 match M s with
 | some (K1, _, K2, _) => decide (K1.fconf.fLogAnn = -3) && leadsS p K2
 | none => false
noncomputable def nxM (M : MidF) (p : Nat) (s : R1) : R1 :=
 match M s with
 | some (_, _, K2, f) => ((spkS (fun _ => ByteArray.empty) (fun _ => ByteArray.empty) p K2).set_fouts [], f)
 | none => s
noncomputable def itM (M : MidF) (p : Nat) : Nat → R1 → R1
 | 0, s => s
 | k + 1, s => nxM M p (itM M p k s)
noncomputable def outM (M : MidF) (p : Nat) (s : R1) : List api_Out :=
 match M s with
 | some (_, _, K2, _) => saidS K2 (annB K2) (synB K2 1000) p
 | none => []
noncomputable def outsM (M : MidF) (p : Nat) : Nat → R1 → List api_Out
 | 0, _ => []
 | k + 1, s => outsM M p k s ++ outM M p (itM M p k s)
noncomputable def clkM (M : MidF) (p : Nat) (s : R1) (K : clock_Clock) : Nat → clock_Clock
 | 0 => K
 | k + 1 => match M (itM M p k s) with
  | some (_, _, K2, _) => spkS (annB K2) (synB K2 1000) p K2
  | none => K
theorem saidS_len (K : clock_Clock) (bA bS : Nat → ByteArray) : ∀ j, (saidS K bA bS j).length ≤ 2 * j
 | 0 => Nat.le_refl _
 | j + 1 => by
  have := saidS_len K bA bS j
  unfold saidS
  cases ieq (K.fports j).fstate 6 with
  | false => exact Nat.le_trans this (by omega)
  | true => simp only [cond_true, List.length_append, List.length_cons, List.length_nil]; omega
theorem outM_len (M : MidF) (p : Nat) (s : R1) : (outM M p s).length ≤ 2 * p := by
 unfold outM
 split
 ·exact saidS_len _ _ _ p
 ·exact Nat.zero_le _
theorem outsM_len (M : MidF) (p : Nat) (s : R1) : ∀ k, (outsM M p k s).length ≤ 2 * p * k
 | 0 => Nat.zero_le _
 | k + 1 => by
  have h1 := outsM_len M p s k
  have h2 := outM_len M p (itM M p k s)
  unfold outsM
  rw [List.length_append, Nat.mul_add]
  omega
theorem ticks_M {M : MidF} {p n : Nat} {s : R1} {g5 : Fm servo_Servo} {K : clock_Clock} (hn : n ≤ 1000) (hmid : ∀ i, i < n → mid (itM M p i s) = M (itM M p i s)) (hok : ∀ i, i < n → okM M p (itM M p i s) = true)
  (hid : ∀ i, i < n → ∀ K1 e K2 f, M (itM M p i s) = some (K1, e, K2, f) → IdOk K2) (hK : K.set_fouts [] = s.1) :
  K70 (n : Int) K g5 s.2.1 s.2.2.1 s.2.2.2.1 s.2.2.2.2.1 s.2.2.2.2.2.1 s.2.2.2.2.2.2.1 = some ((outsM M p n s, ()), (clkM M p s K n, g5, (itM M p n s).2.1, (itM M p n s).2.2.1, (itM M p n s).2.2.2.1, (itM M p n s).2.2.2.2.1, (itM M p n s).2.2.2.2.2.1, (itM M p n s).2.2.2.2.2.2.1, ()), ())
  ∧ (clkM M p s K n).set_fouts [] = (itM M p n s).1 := by
 have key : ∀ j, j ≤ n → (clkM M p s K j).set_fouts [] = (itM M p j s).1 := fun j hj => by
  cases j with
  | zero => exact hK
  | succ j =>
   have h1 := hok j (by omega)
   unfold okM at h1
   cases hm : M (itM M p j s) with
   | none => rw [hm] at h1; cases h1
   | some r =>
    obtain ⟨K1, e, K2, f⟩ := r
    simp only [clkM, itM, nxM, hm]
    exact spkS_quiet _ _ _ _ _ _
 refine ⟨?_, key n (Nat.le_refl _)⟩
 unfold K70 K70.gen
 have : K70.F0 (((n : Int), lnil api_Out, (0 : Int), ()), K, g5, s.2.1, s.2.2.1, s.2.2.2.1, s.2.2.2.2.1, s.2.2.2.2.2.1, s.2.2.2.2.2.2.1, ()) = some ((outsM M p n s, ()), clkM M p s K n, g5, (itM M p n s).2.1, (itM M p n s).2.2.1, (itM M p n s).2.2.2.1, (itM M p n s).2.2.2.2.1, (itM M p n s).2.2.2.2.2.1, (itM M p n s).2.2.2.2.2.2.1, ()) := by
  unfold K70.F0
  refine loop_to (step := K70.step0 K10) (fun j => (((n : Int), outsM M p j s, (j : Int), ()), clkM M p s K j, g5, (itM M p j s).2.1, (itM M p j s).2.2.1, (itM M p j s).2.2.2.1, (itM M p j s).2.2.2.2.1, (itM M p j s).2.2.2.2.2.1, (itM M p j s).2.2.2.2.2.2.1, ())) n _ (by omega) (fun j hj => ?_) ?_
  ·have h1 := hok j hj
   have h2 := hmid j hj
   have h3 := hid j hj
   unfold okM at h1
   cases hm : M (itM M p j s) with
   | none => rw [hm] at h1; cases h1
   | some r =>
    obtain ⟨K1, e, K2, f⟩ := r
    rw [hm] at h1 h2
    simp only [Bool.and_eq_true, decide_eq_true_eq] at h1
    have hst := step_S (p := p) (s := itM M p j s) (K := clkM M p s K j) (g5 := g5) (t := 1000) (a0 := 0) (a1 := 0) (a2 := 0) (b := ByteArray.mk (List.toArray (lnil UInt8))) (c := api_Conf.mk 0 0 0 0 0 (api_Quality.mk 0 0 0) false 0 0 0 0 false false 0 0 0 0 (api_Times.mk 0 0 0) false) (key j (by omega)) h2 h1.1 h1.2 (h3 K1 e K2 f hm) (by decide) (by decide)
    unfold K70.step0
    simp only []
    rw [ilt_true (show (j : Int) < (n : Int) by omega), hst]
    simp only [cond_true, oelim_some]
    have hp8 : p ≤ 8 := (leadsS_of h1.2).1.p1
    have hlen := outsM_len M p s j
    have hlen2 := saidS_len K2 (annB K2) (synB K2 1000) p
    have hb : 2 * p * j ≤ 16 * 1000 := Nat.mul_le_mul (by omega) (by omega)
    rw [show room ((outsM M p j s).length + (saidS K2 (annB K2) (synB K2 1000) p).length) 64 = true by unfold room; exact Nat.ble_eq_true_of_le (by omega)]
    simp only [cond_true, oelim_some]
    rw [iinc (show j < 4611686018427387904 by omega)]
    simp only [outsM, outM, itM, nxM, clkM, hm]
  ·unfold K70.step0
   simp only []
   rw [ilt_false (show ¬ (n : Int) < (n : Int) by omega)]
   rfl
 rw [this]
 rfl
theorem itM_nxM (M : MidF) (p : Nat) : ∀ (k : Nat) (s : R1), itM M p k (nxM M p s) = nxM M p (itM M p k s)
 | 0, _ => rfl
 | k + 1, s => by rw [itM, itM_nxM M p k s, itM]
theorem itM_add (M : MidF) (p : Nat) (s : R1) : ∀ a b, itM M p (a + b) s = itM M p a (itM M p b s)
 | 0, b => by rw [Nat.zero_add]; rfl
 | a + 1, b => by rw [show a + 1 + b = (a + b) + 1 by omega, itM, itM_add M p s a b, itM]
noncomputable def decP (h0 : clock_Clock) (g6 : Fm foreign_Table) (g7 : Fm delay_Exchange) (g9 : Fm median_Filter) (g10 : Fm seq_Match) :=
 (bif le3 (ofN (0 : Nat)) h0.fconf.fPorts (8 : Nat) then (oelim (K15.F0 (((Int.toNat (ofN (0 : Nat)), Int.toNat h0.fconf.fPorts - Int.toNat (ofN (0 : Nat))), ofN (Int.toNat h0.fconf.fPorts - Int.toNat (ofN (0 : Nat))), (0 : Int), ()), h0, ((8 : Nat), (0 : Nat), fun (j : Nat) => List.getD (foreign_Record.mk (api_Vector.mk (0 : Int) (api_Quality.mk (0 : Int) (0 : Int) (0 : Int)) (0 : Int) (0 : Int) (0 : Int) (api_PortID.mk (0 : Int) (0 : Int)) (api_PortID.mk (0 : Int) (0 : Int))) (api_Times.mk (0 : Int) (0 : Int) (0 : Int)) (0 : Int) (0 : Int) (0 : Int) :: foreign_Record.mk (api_Vector.mk (0 : Int) (api_Quality.mk (0 : Int) (0 : Int) (0 : Int)) (0 : Int) (0 : Int) (0 : Int) (api_PortID.mk (0 : Int) (0 : Int)) (api_PortID.mk (0 : Int) (0 : Int))) (api_Times.mk (0 : Int) (0 : Int) (0 : Int)) (0 : Int) (0 : Int) (0 : Int) :: foreign_Record.mk (api_Vector.mk (0 : Int) (api_Quality.mk (0 : Int) (0 : Int) (0 : Int)) (0 : Int) (0 : Int) (0 : Int) (api_PortID.mk (0 : Int) (0 : Int)) (api_PortID.mk (0 : Int) (0 : Int))) (api_Times.mk (0 : Int) (0 : Int) (0 : Int)) (0 : Int) (0 : Int) (0 : Int) :: foreign_Record.mk (api_Vector.mk (0 : Int) (api_Quality.mk (0 : Int) (0 : Int) (0 : Int)) (0 : Int) (0 : Int) (0 : Int) (api_PortID.mk (0 : Int) (0 : Int)) (api_PortID.mk (0 : Int) (0 : Int))) (api_Times.mk (0 : Int) (0 : Int) (0 : Int)) (0 : Int) (0 : Int) (0 : Int) :: foreign_Record.mk (api_Vector.mk (0 : Int) (api_Quality.mk (0 : Int) (0 : Int) (0 : Int)) (0 : Int) (0 : Int) (0 : Int) (api_PortID.mk (0 : Int) (0 : Int)) (api_PortID.mk (0 : Int) (0 : Int))) (api_Times.mk (0 : Int) (0 : Int) (0 : Int)) (0 : Int) (0 : Int) (0 : Int) :: foreign_Record.mk (api_Vector.mk (0 : Int) (api_Quality.mk (0 : Int) (0 : Int) (0 : Int)) (0 : Int) (0 : Int) (0 : Int) (api_PortID.mk (0 : Int) (0 : Int)) (api_PortID.mk (0 : Int) (0 : Int))) (api_Times.mk (0 : Int) (0 : Int) (0 : Int)) (0 : Int) (0 : Int) (0 : Int) :: foreign_Record.mk (api_Vector.mk (0 : Int) (api_Quality.mk (0 : Int) (0 : Int) (0 : Int)) (0 : Int) (0 : Int) (0 : Int) (api_PortID.mk (0 : Int) (0 : Int)) (api_PortID.mk (0 : Int) (0 : Int))) (api_Times.mk (0 : Int) (0 : Int) (0 : Int)) (0 : Int) (0 : Int) (0 : Int) :: foreign_Record.mk (api_Vector.mk (0 : Int) (api_Quality.mk (0 : Int) (0 : Int) (0 : Int)) (0 : Int) (0 : Int) (0 : Int) (api_PortID.mk (0 : Int) (0 : Int)) (api_PortID.mk (0 : Int) (0 : Int))) (api_Times.mk (0 : Int) (0 : Int) (0 : Int)) (0 : Int) (0 : Int) (0 : Int) :: lnil foreign_Record) j foreign_Record.zero), ((8 : Nat), fun (j : Nat) => List.getD (none :: none :: none :: none :: none :: none :: none :: none :: lnil (Option api_Vector)) j none), ((8 : Nat), fun (j : Nat) => List.getD (false :: false :: false :: false :: false :: false :: false :: false :: lnil Bool) j false), g6, g7, g9, g10, ())) none fun r0 => (oelim (K38 r0.2.1.fconf) none fun r1 => (bif bif le3 (0 : Int) (ofN r0.1.1.2) (8 : Nat) then le3 (0 : Int) (ofN r0.1.1.2) r0.2.2.2.2.1.1 else false then (bif bif le3 (0 : Int) (ofN r0.1.1.2) (8 : Nat) then le3 (0 : Int) (ofN r0.1.1.2) r0.2.2.2.1.1 else false then (oelim (K42 r1.1.1 (List.map r0.2.2.2.2.1.2 (List.range (Int.toNat (ofN r0.1.1.2)))) (List.map r0.2.2.2.1.2 (List.range (Int.toNat (ofN r0.1.1.2))))) none fun r2 => (oelim ((oelim (K110 r0.2.1.fconf) none fun r3 => some ((r0.1.1, (r2.1.1, ())), (r0.2.1, (r0.2.2.1, (r3.1.1, (r0.2.2.2.2.2.1, (r0.2.2.2.2.2.2.1, (r0.2.2.2.2.2.2.2.1, (r0.2.2.2.2.2.2.2.2.1, ())))))))))) none fun r4 => (K15.F1 ((r4.1.1, r4.1.2.1, r4.1.2.1, ofN (List.length r4.1.2.1), (0 : Int), ()), r4.2)))) else none) else none))) else none)
noncomputable def decT (h0 : clock_Clock) (g6 : Fm foreign_Table) (g7 : Fm delay_Exchange) (g9 : Fm median_Filter) (g10 : Fm seq_Match) :=
 (bif le3 (ofN (0 : Nat)) h0.fconf.fPorts (8 : Nat) then (oelim (K15.F0 (((Int.toNat (ofN (0 : Nat)), Int.toNat h0.fconf.fPorts - Int.toNat (ofN (0 : Nat))), ofN (Int.toNat h0.fconf.fPorts - Int.toNat (ofN (0 : Nat))), (0 : Int), ()), h0, ((8 : Nat), (0 : Nat), fun (j : Nat) => List.getD (foreign_Record.mk (api_Vector.mk (0 : Int) (api_Quality.mk (0 : Int) (0 : Int) (0 : Int)) (0 : Int) (0 : Int) (0 : Int) (api_PortID.mk (0 : Int) (0 : Int)) (api_PortID.mk (0 : Int) (0 : Int))) (api_Times.mk (0 : Int) (0 : Int) (0 : Int)) (0 : Int) (0 : Int) (0 : Int) :: foreign_Record.mk (api_Vector.mk (0 : Int) (api_Quality.mk (0 : Int) (0 : Int) (0 : Int)) (0 : Int) (0 : Int) (0 : Int) (api_PortID.mk (0 : Int) (0 : Int)) (api_PortID.mk (0 : Int) (0 : Int))) (api_Times.mk (0 : Int) (0 : Int) (0 : Int)) (0 : Int) (0 : Int) (0 : Int) :: foreign_Record.mk (api_Vector.mk (0 : Int) (api_Quality.mk (0 : Int) (0 : Int) (0 : Int)) (0 : Int) (0 : Int) (0 : Int) (api_PortID.mk (0 : Int) (0 : Int)) (api_PortID.mk (0 : Int) (0 : Int))) (api_Times.mk (0 : Int) (0 : Int) (0 : Int)) (0 : Int) (0 : Int) (0 : Int) :: foreign_Record.mk (api_Vector.mk (0 : Int) (api_Quality.mk (0 : Int) (0 : Int) (0 : Int)) (0 : Int) (0 : Int) (0 : Int) (api_PortID.mk (0 : Int) (0 : Int)) (api_PortID.mk (0 : Int) (0 : Int))) (api_Times.mk (0 : Int) (0 : Int) (0 : Int)) (0 : Int) (0 : Int) (0 : Int) :: foreign_Record.mk (api_Vector.mk (0 : Int) (api_Quality.mk (0 : Int) (0 : Int) (0 : Int)) (0 : Int) (0 : Int) (0 : Int) (api_PortID.mk (0 : Int) (0 : Int)) (api_PortID.mk (0 : Int) (0 : Int))) (api_Times.mk (0 : Int) (0 : Int) (0 : Int)) (0 : Int) (0 : Int) (0 : Int) :: foreign_Record.mk (api_Vector.mk (0 : Int) (api_Quality.mk (0 : Int) (0 : Int) (0 : Int)) (0 : Int) (0 : Int) (0 : Int) (api_PortID.mk (0 : Int) (0 : Int)) (api_PortID.mk (0 : Int) (0 : Int))) (api_Times.mk (0 : Int) (0 : Int) (0 : Int)) (0 : Int) (0 : Int) (0 : Int) :: foreign_Record.mk (api_Vector.mk (0 : Int) (api_Quality.mk (0 : Int) (0 : Int) (0 : Int)) (0 : Int) (0 : Int) (0 : Int) (api_PortID.mk (0 : Int) (0 : Int)) (api_PortID.mk (0 : Int) (0 : Int))) (api_Times.mk (0 : Int) (0 : Int) (0 : Int)) (0 : Int) (0 : Int) (0 : Int) :: foreign_Record.mk (api_Vector.mk (0 : Int) (api_Quality.mk (0 : Int) (0 : Int) (0 : Int)) (0 : Int) (0 : Int) (0 : Int) (api_PortID.mk (0 : Int) (0 : Int)) (api_PortID.mk (0 : Int) (0 : Int))) (api_Times.mk (0 : Int) (0 : Int) (0 : Int)) (0 : Int) (0 : Int) (0 : Int) :: lnil foreign_Record) j foreign_Record.zero), ((8 : Nat), fun (j : Nat) => List.getD (none :: none :: none :: none :: none :: none :: none :: none :: lnil (Option api_Vector)) j none), ((8 : Nat), fun (j : Nat) => List.getD (false :: false :: false :: false :: false :: false :: false :: false :: lnil Bool) j false), g6, g7, g9, g10, ())) none fun r0 => (oelim (K38 r0.2.1.fconf) none fun r1 => (bif bif le3 (0 : Int) (ofN r0.1.1.2) (8 : Nat) then le3 (0 : Int) (ofN r0.1.1.2) r0.2.2.2.2.1.1 else false then (bif bif le3 (0 : Int) (ofN r0.1.1.2) (8 : Nat) then le3 (0 : Int) (ofN r0.1.1.2) r0.2.2.2.1.1 else false then (oelim (K42 r1.1.1 (List.map r0.2.2.2.2.1.2 (List.range (Int.toNat (ofN r0.1.1.2)))) (List.map r0.2.2.2.1.2 (List.range (Int.toNat (ofN r0.1.1.2))))) none fun r2 => (oelim ((oelim (K110 r0.2.1.fconf) none fun r3 => some ((r0.1.1, (r2.1.1, ())), (r0.2.1, (r0.2.2.1, (r3.1.1, (r0.2.2.2.2.2.1, (r0.2.2.2.2.2.2.1, (r0.2.2.2.2.2.2.2.1, (r0.2.2.2.2.2.2.2.2.1, ())))))))))) none fun r4 => (oelim (K15.F1 ((r4.1.1, r4.1.2.1, r4.1.2.1, ofN (List.length r4.1.2.1), (0 : Int), ()), r4.2)) none fun r5 => (oelim (K15.F2 ((r5.1.1, true, r5.1.2.1, ofN (List.length r5.1.2.1), (0 : Int), ()), r5.2)) none fun r6 => (oelim ((bif !r6.1.1 then (oelim ((oelim (r6.2.1.6) none fun r7 => (oelim (K71 (r6.2.2.2.2.2.1.2 r7)) none fun r8 => some ((), (r6.2.1, (r6.2.2.1, (r6.2.2.2.1, (r6.2.2.2.2.1, ((r6.2.2.2.2.2.1.1, fset r6.2.2.2.2.2.1.2 r7 r8.2.1.1), (r6.2.2.2.2.2.2.1, ())))))))))) none fun r9 => some ((), (clock_Clock.set_fdelay r9.2.1 (clock_known.mk (0 : Int) false), (r9.2.2.1, (r9.2.2.2.1, (r9.2.2.2.2.1, (r9.2.2.2.2.2.1, (r9.2.2.2.2.2.2.1, ())))))))) else some ((), (r6.2.1, (r6.2.2.1, (r6.2.2.2.1, (r6.2.2.2.2.1, (r6.2.2.2.2.2.1, (r6.2.2.2.2.2.2.1, ()))))))))) none fun r10 => some ((), ((clock_Clock.set_fparent r10.2.1 r10.2.2.1, (r10.2.2.2.1, (r10.2.2.2.2.1, (r10.2.2.2.2.2.1, (r10.2.2.2.2.2.2.1, ()))))), ()))))))) else none) else none))) else none)
theorem same_true {p q : api_PortID} (h : p = q) : (bif ieq p.fClock q.fClock then bif ieq p.fPort q.fPort then true else false else false) = true := by subst h; simp [ieq_self]
theorem oc {α ρ : Type} {x : Option α} {f : ρ} {k k' : α → ρ} (h : ∀ a, x = some a → k a = k' a) : oelim x f k = oelim x f k' := by
 cases x with
 | none => rfl
 | some a => exact h a rfl
theorem bc {ρ : Type} {b : Bool} {x y x' y' : ρ} (h : b = true → x = x') (h2 : b = false → y = y') : (bif b then x else y) = bif b then x' else y' := by
 cases b with
 | true => exact h rfl
 | false => exact h2 rfl
theorem decide_same {K : clock_Clock} {g6 : Fm foreign_Table} {g7 : Fm delay_Exchange} {g9 : Fm median_Filter} {g10 : Fm seq_Match} (h : ∀ r5, decP K g6 g7 g9 g10 = some r5 → r5.2.2.1.fPort = r5.2.1.fparent.fPort) : K15 K g6 g7 g9 g10 = decT K g6 g7 g9 g10 := by
 unfold K15 K15.gen decT
 refine bc (fun hA => oc fun r0 h0 => oc fun r1 h1 => bc (fun hB => bc (fun hC => oc fun r2 h2 => oc fun r4 h4 => oc fun r5 h5 => ?_) (fun _ => rfl)) (fun _ => rfl)) (fun _ => rfl)
 rw [same_true (h r5 (by
  unfold decP
  rw [hA]
  simp only [cond_true]
  rw [h0]
  simp only [oelim_some]
  rw [h1]
  simp only [oelim_some]
  rw [hB, hC]
  simp only [cond_true]
  rw [h2]
  simp only [oelim_some]
  rw [h4]
  simp only [oelim_some]
  exact h5))]
def Sat {α : Type} (x : Option α) (Q : α → Prop) : Prop := ∀ a, x = some a → Q a
theorem sat_some {α : Type} {a : α} {Q : α → Prop} (h : Q a) : Sat (some a) Q := fun b hb => by cases hb; exact h
theorem sat_none {α : Type} {Q : α → Prop} : Sat (none : Option α) Q := fun b hb => by cases hb
theorem sat_any {α : Type} {x : Option α} : Sat x (fun _ => True) := fun _ _ => trivial
theorem sat_oelim {α β : Type} {x : Option α} {k : α → Option β} {Q : β → Prop} (P : α → Prop) (h : Sat x P) (hk : ∀ a, P a → Sat (k a) Q) : Sat (oelim x none k) Q := by
 cases x with
 | none => exact sat_none
 | some a => exact hk a (h a rfl)
theorem sat_bif {α : Type} {b : Bool} {x y : Option α} {Q : α → Prop} (h : Sat x Q) (h2 : Sat y Q) : Sat (bif b then x else y) Q := by
 cases b with
 | true => exact h
 | false => exact h2
theorem enter_conf (p : Nat) (K : clock_Clock) (c : api_Conf) (hc : K.fconf = c) : Sat (K16 p K) (fun r => r.2.1.1.fconf = c) := by
 subst hc
 unfold K16 K16.gen
 repeat' first
  | exact sat_none
  | exact sat_some rfl
  | (refine sat_some ?_; assumption)
  | refine sat_bif ?_ ?_
  | refine sat_oelim (fun a => a.2.1.fconf = K.fconf) ?_ (fun a ha => ?_)
  | refine sat_oelim (fun _ => True) sat_any (fun a _ => ?_)
theorem sat_loop {α β : Type} {step : α → Option (α ⊕ β)} (I : α → Prop) {Q : β → Prop} (h : ∀ a, I a → Sat (step a) (fun r => match r with | .inl a' => I a' | .inr b => Q b)) : ∀ (N : Nat) (a : α), I a → Sat (Za N step a) Q
 | 0, a, _ => fun b hb => by cases hb
 | N + 1, a, ha => fun b hb => by
  unfold Za at hb
  cases hs : step a with
  | none => rw [hs] at hb; cases hb
  | some r =>
   rw [hs] at hb
   have hr := h a ha r hs
   cases r with
   | inl a' => exact sat_loop I h N a' hr b hb
   | inr b' => cases hb; exact hr
theorem become_conf (p : Nat) (q : api_Parent) (K : clock_Clock) (c : api_Conf) (hc : K.fconf = c) : Sat (K12 p q K) (fun r => r.2.1.1.fconf = c) := by
 unfold K12 K12.gen
 repeat' first
  | exact sat_none
  | exact sat_some hc
  | (refine sat_some ?_; assumption)
  | refine sat_bif ?_ ?_
  | refine sat_oelim (fun r => r.2.1.1.fconf = c) (enter_conf _ _ c (by assumption)) (fun a ha => ?_)
  | refine sat_oelim (fun a => a.2.1.fconf = c) ?_ (fun a ha => ?_)
  | refine sat_oelim (fun _ => True) sat_any (fun a _ => ?_)
def Own (c : api_Conf) (K : clock_Clock) : Prop := K.fconf = c ∧ K.fparent.fPort = api_PortID.mk c.fClock 0 ∧ K.fparent.fGrand = c.fClock
theorem own_sat (c d : api_Conf) (h : d = c) : Sat (K110 d) (fun r => r.1.1.fPort = api_PortID.mk c.fClock 0 ∧ r.1.1.fGrand = c.fClock) := by
 subst h
 exact sat_some ⟨rfl, rfl⟩
theorem own_set {c : api_Conf} {K : clock_Clock} {q : api_Parent} (h : Own c K) (h2 : q.fPort = api_PortID.mk c.fClock 0 ∧ q.fGrand = c.fClock) : Own c (K.set_fparent q) := ⟨h.1, h2.1, h2.2⟩
theorem own_ports {c : api_Conf} {K : clock_Clock} {f : Nat → clock_side} (h : Own c K) : Own c (K.set_fports f) := h
theorem enter_own (p : Nat) (K : clock_Clock) (c : api_Conf) (hc : Own c K) : Sat (K16 p K) (fun r => Own c r.2.1.1) := by
 unfold K16 K16.gen
 repeat' first
  | exact sat_none
  | exact sat_some hc
  | (refine sat_some ?_; assumption)
  | (refine sat_some (own_ports ?_); assumption)
  | refine sat_bif ?_ ?_
  | refine sat_oelim (fun a => Own c a.2.1) ?_ (fun a ha => ?_)
  | refine sat_oelim (fun _ => True) sat_any (fun a _ => ?_)
theorem count_own (p : Nat) (K : clock_Clock) (g6 : Fm foreign_Table) (g12 : Fm (List (api_PortID × List Int))) (c : api_Conf) (hc : Own c K) : Sat (K14 p K g6 g12) (fun r => Own c r.2.1.1) := by
 unfold K14 K14.gen
 repeat' first
  | exact sat_none
  | exact sat_some hc
  | (refine sat_some ?_; assumption)
  | (refine sat_some (own_ports ?_); assumption)
  | (refine sat_some (own_set ?_ ?_) <;> assumption)
  | refine sat_bif ?_ ?_
  | refine sat_oelim (fun r => Own c r.2.1.1) (enter_own _ _ c (by assumption)) (fun a ha => ?_)
  | refine sat_oelim (fun r => r.1.1.fPort = api_PortID.mk c.fClock 0 ∧ r.1.1.fGrand = c.fClock) (own_sat c _ (by apply And.left; assumption)) (fun a ha => ?_)
  | refine sat_oelim (fun a => Own c a.2.1) ?_ (fun a ha => ?_)
  | refine sat_oelim (fun _ => True) sat_any (fun a _ => ?_)
 all_goals trace_state
theorem tickF0_own (c : api_Conf) (a : (Int × Int × Unit) × clock_Clock × Gs) (hc : Own c a.2.1) : Sat (K24.F0 a) (fun b => Own c b.2.1) := by
 unfold K24.F0
 refine sat_loop (fun a => Own c a.2.1) (fun a ha => ?_) _ a hc
 unfold K24.step0
 repeat' first
  | exact sat_none
  | exact sat_some ha
  | (refine sat_some ?_; assumption)
  | refine sat_bif ?_ ?_
  | refine sat_oelim (fun r => Own c r.2.1.1) (count_own _ _ _ _ c (by assumption)) (fun a ha => ?_)
  | refine sat_oelim (fun a => Own c a.2.1) ?_ (fun a ha => ?_)
  | refine sat_oelim (fun _ => True) sat_any (fun a _ => ?_)
theorem decF0_own (c : api_Conf) (a : _) (hc : Own c a.2.1) : Sat (K15.F0 a) (fun b => Own c b.2.1) := by
 unfold K15.F0
 refine sat_loop (fun a => Own c a.2.1) (fun a ha => ?_) _ a hc
 unfold K15.step0
 repeat' first
  | exact sat_none
  | exact sat_some ha
  | (refine sat_some ?_; assumption)
  | refine sat_bif ?_ ?_
  | refine sat_oelim (fun a => Own c a.2.1) ?_ (fun a ha => ?_)
  | refine sat_oelim (fun _ => True) sat_any (fun a _ => ?_)
theorem decF1_own (c : api_Conf) (l : List Int) (hl : ∀ x ∈ l, x ≠ 6) (a : _) (hc : Own c a.2.1 ∧ a.1.2.2.1 = l ∧ a.2.2.2.1.fPort = api_PortID.mk c.fClock 0) : Sat (K15.F1 a) (fun b => Own c b.2.1 ∧ b.2.2.1.fPort = api_PortID.mk c.fClock 0) := by
 unfold K15.F1
 refine sat_loop (fun a => Own c a.2.1 ∧ a.1.2.2.1 = l ∧ a.2.2.2.1.fPort = api_PortID.mk c.fClock 0) (fun a ha => ?_) _ a hc
 obtain ⟨h1, h2, h3⟩ := ha
 unfold K15.step1
 refine sat_bif ?_ (sat_some ⟨h1, h3⟩)
 cases hin : inR a.1.2.2.2.2.1 a.1.2.2.1.length with
 | false => exact sat_none
 | true =>
  have hi : 0 ≤ a.1.2.2.2.2.1 ∧ a.1.2.2.2.2.1 < (a.1.2.2.1.length : Int) := by
   unfold inR at hin
   simpa using hin
  have hlt : a.1.2.2.2.2.1.toNat < a.1.2.2.1.length := by omega
  have hx : ieq (a.1.2.2.1.getD a.1.2.2.2.2.1.toNat 0) 6 = false := ieq_false (by
   rw [getD_at hlt]
   exact hl _ (by rw [← h2]; exact List.getElem_mem hlt))
  simp only [cond_true]
  rw [show ieq (List.getD a.1.2.2.1 (Int.toNat a.1.2.2.2.2.1) (0 : D UC.int)) 6 = false from hx]
  simp only [cond_false, oelim_some]
  exact sat_some ⟨h1, h2, h3⟩
theorem decF1_list (l : List Int) (a : _) (hc : a.1.2.1 = l) : Sat (K15.F1 a) (fun b => b.1.2.1 = l) := by
 unfold K15.F1
 refine sat_loop (fun a => a.1.2.1 = l) (fun a ha => ?_) _ a hc
 unfold K15.step1
 repeat' first
  | exact sat_none
  | exact sat_some ha
  | (refine sat_some ?_; assumption)
  | refine sat_bif ?_ ?_
  | refine sat_oelim (fun a => a.1.2.1 = l) ?_ (fun a ha => ?_)
  | refine sat_oelim (fun _ => True) sat_any (fun a _ => ?_)
theorem decF1_same (c : api_Conf) (a : _) (hc : Own c a.2.1 ∧ a.1.2.1 = a.1.2.2.1 ∧ a.2.2.2.1.fPort = api_PortID.mk c.fClock 0) : Sat (K15.F1 a) (fun b => (∀ x ∈ b.1.2.1, x ≠ 6) → b.2.2.1.fPort = b.2.1.fparent.fPort) := by
 intro b hb hl
 have h1 := decF1_list a.1.2.1 a rfl b hb
 rw [h1, hc.2.1] at hl
 have h2 := decF1_own c a.1.2.2.1 hl a ⟨hc.1, rfl, hc.2.2⟩ b hb
 rw [h2.2]
 exact h2.1.2.1.symm
theorem decP_same (K : clock_Clock) (g6 : Fm foreign_Table) (g7 : Fm delay_Exchange) (g9 : Fm median_Filter) (g10 : Fm seq_Match) (c : api_Conf) (hc : Own c K) : Sat (decP K g6 g7 g9 g10) (fun b => (∀ x ∈ b.1.2.1, x ≠ 6) → b.2.2.1.fPort = b.2.1.fparent.fPort) := by
 unfold decP
 refine sat_bif (sat_oelim (fun b => Own c b.2.1) (decF0_own c _ hc) (fun r0 h0 => sat_oelim (fun _ => True) sat_any (fun r1 _ => sat_bif (sat_bif (sat_oelim (fun _ => True) sat_any (fun r2 _ => ?_)) sat_none) sat_none))) sat_none
 refine sat_oelim (fun r4 => Own c r4.2.1 ∧ r4.2.2.2.1.fPort = api_PortID.mk c.fClock 0) (sat_oelim (fun r => r.1.1.fPort = api_PortID.mk c.fClock 0 ∧ r.1.1.fGrand = c.fClock) (own_sat c _ h0.1) (fun r3 h3 => sat_some ⟨h0, h3.1⟩)) (fun r4 h4 => ?_)
 exact decF1_same c _ ⟨h4.1, rfl, h4.2⟩
noncomputable def no6 (K : clock_Clock) (g6 : Fm foreign_Table) (g7 : Fm delay_Exchange) (g9 : Fm median_Filter) (g10 : Fm seq_Match) : Bool :=
 match decP K g6 g7 g9 g10 with
 | some r => r.1.2.1.all fun x => decide (x ≠ 6)
 | none => true
theorem decide_T {K : clock_Clock} {g6 : Fm foreign_Table} {g7 : Fm delay_Exchange} {g9 : Fm median_Filter} {g10 : Fm seq_Match} {c : api_Conf} (hc : Own c K) (hb : no6 K g6 g7 g9 g10 = true) : K15 K g6 g7 g9 g10 = decT K g6 g7 g9 g10 := by
 refine decide_same fun r5 h5 => decP_same K g6 g7 g9 g10 c hc r5 h5 fun x hx => ?_
 unfold no6 at hb
 rw [h5] at hb
 exact of_decide_eq_true (List.all_eq_true.1 hb x hx)
theorem decF1_q (q : api_Parent) (l : List Int) (hl : ∀ x ∈ l, x ≠ 6) (a : _) (hc : a.1.2.2.1 = l ∧ a.2.2.2.1 = q) : Sat (K15.F1 a) (fun b => b.2.2.1 = q) := by
 unfold K15.F1
 refine sat_loop (fun a => a.1.2.2.1 = l ∧ a.2.2.2.1 = q) (fun a ha => ?_) _ a hc
 obtain ⟨h2, h3⟩ := ha
 unfold K15.step1
 refine sat_bif ?_ (sat_some h3)
 cases hin : inR a.1.2.2.2.2.1 a.1.2.2.1.length with
 | false => exact sat_none
 | true =>
  have hi : 0 ≤ a.1.2.2.2.2.1 ∧ a.1.2.2.2.2.1 < (a.1.2.2.1.length : Int) := by
   unfold inR at hin
   simpa using hin
  have hlt : a.1.2.2.2.2.1.toNat < a.1.2.2.1.length := by omega
  have hx : ieq (a.1.2.2.1.getD a.1.2.2.2.2.1.toNat 0) 6 = false := ieq_false (by
   rw [getD_at hlt]
   exact hl _ (by rw [← h2]; exact List.getElem_mem hlt))
  simp only [cond_true]
  rw [show ieq (List.getD a.1.2.2.1 (Int.toNat a.1.2.2.2.2.1) (0 : D UC.int)) 6 = false from hx]
  simp only [cond_false, oelim_some]
  exact sat_some ⟨h2, h3⟩
theorem decF2_q (c : api_Conf) (q : api_Parent) (a : _) (hc : a.2.1.fconf = c ∧ a.2.2.1 = q) : Sat (K15.F2 a) (fun b => b.2.1.fconf = c ∧ b.2.2.1 = q) := by
 unfold K15.F2
 refine sat_loop (fun a => a.2.1.fconf = c ∧ a.2.2.1 = q) (fun a ha => ?_) _ a hc
 obtain ⟨ha1, ha2⟩ := ha
 unfold K15.step2
 repeat' first
  | exact sat_none
  | exact sat_some ⟨ha1, ha2⟩
  | (refine sat_some ?_; assumption)
  | refine sat_bif ?_ ?_
  | refine sat_oelim (fun r => r.2.1.1.fconf = c) (become_conf _ _ _ c (by first | assumption | (apply And.left; assumption))) (fun a ha => sat_some ⟨ha, by apply And.right; assumption⟩)
  | refine sat_oelim (fun a => a.2.1.fconf = c ∧ a.2.2.1 = q) ?_ (fun a ha => ?_)
  | refine sat_oelim (fun _ => True) sat_any (fun a _ => ?_)
 all_goals trace_state
theorem oelim_assoc {α β γ : Type} (x : Option α) (k : α → Option β) (k2 : β → Option γ) : oelim (oelim x none k) none k2 = oelim x none (fun a => oelim (k a) none k2) := by
 cases x <;> rfl
theorem oelim_bif {β γ : Type} (b : Bool) (x : Option β) (k2 : β → Option γ) : oelim (bif b then x else none) none k2 = bif b then oelim x none k2 else none := by
 cases b <;> rfl
theorem decT_decP (K : clock_Clock) (g6 : Fm foreign_Table) (g7 : Fm delay_Exchange) (g9 : Fm median_Filter) (g10 : Fm seq_Match) : decT K g6 g7 g9 g10 = oelim (decP K g6 g7 g9 g10) none fun r5 => (oelim (K15.F2 ((r5.1.1, true, r5.1.2.1, ofN (List.length r5.1.2.1), (0 : Int), ()), r5.2)) none fun r6 => (oelim ((bif !r6.1.1 then (oelim ((oelim (r6.2.1.6) none fun r7 => (oelim (K71 (r6.2.2.2.2.2.1.2 r7)) none fun r8 => some ((), (r6.2.1, (r6.2.2.1, (r6.2.2.2.1, (r6.2.2.2.2.1, ((r6.2.2.2.2.2.1.1, fset r6.2.2.2.2.2.1.2 r7 r8.2.1.1), (r6.2.2.2.2.2.2.1, ())))))))))) none fun r9 => some ((), (clock_Clock.set_fdelay r9.2.1 (clock_known.mk (0 : Int) false), (r9.2.2.1, (r9.2.2.2.1, (r9.2.2.2.2.1, (r9.2.2.2.2.2.1, (r9.2.2.2.2.2.2.1, ())))))))) else some ((), (r6.2.1, (r6.2.2.1, (r6.2.2.2.1, (r6.2.2.2.2.1, (r6.2.2.2.2.2.1, (r6.2.2.2.2.2.2.1, ()))))))))) none fun r10 => some ((), ((clock_Clock.set_fparent r10.2.1 r10.2.2.1, (r10.2.2.2.1, (r10.2.2.2.2.1, (r10.2.2.2.2.2.1, (r10.2.2.2.2.2.2.1, ()))))), ())))) := by
 unfold decT decP
 simp only [oelim_bif, oelim_assoc]
theorem decP_own (K : clock_Clock) (g6 : Fm foreign_Table) (g7 : Fm delay_Exchange) (g9 : Fm median_Filter) (g10 : Fm seq_Match) (c : api_Conf) (hc : Own c K) : Sat (decP K g6 g7 g9 g10) (fun b => (∀ x ∈ b.1.2.1, x ≠ 6) → Own c b.2.1 ∧ b.2.2.1.fPort = api_PortID.mk c.fClock 0 ∧ b.2.2.1.fGrand = c.fClock) := by
 unfold decP
 refine sat_bif (sat_oelim (fun b => Own c b.2.1) (decF0_own c _ hc) (fun r0 h0 => sat_oelim (fun _ => True) sat_any (fun r1 _ => sat_bif (sat_bif (sat_oelim (fun _ => True) sat_any (fun r2 _ => ?_)) sat_none) sat_none))) sat_none
 refine sat_oelim (fun r4 => Own c r4.2.1 ∧ r4.2.2.2.1.fPort = api_PortID.mk c.fClock 0 ∧ r4.2.2.2.1.fGrand = c.fClock) (sat_oelim (fun r => r.1.1.fPort = api_PortID.mk c.fClock 0 ∧ r.1.1.fGrand = c.fClock) (own_sat c _ h0.1) (fun r3 h3 => sat_some ⟨h0, h3.1, h3.2⟩)) (fun r4 h4 => ?_)
 intro b hb hl
 have h1 := decF1_list _ _ rfl b hb
 rw [h1] at hl
 have h2 := decF1_own c _ hl _ ⟨h4.1, rfl, h4.2.1⟩ b hb
 have h3 := decF1_q _ _ hl _ ⟨rfl, rfl⟩ b hb
 exact ⟨h2.1, h2.2, by rw [h3]; exact h4.2.2⟩
theorem decT_own {K : clock_Clock} {g6 : Fm foreign_Table} {g7 : Fm delay_Exchange} {g9 : Fm median_Filter} {g10 : Fm seq_Match} {c : api_Conf} (hc : Own c K) (hb : no6 K g6 g7 g9 g10 = true) : Sat (decT K g6 g7 g9 g10) (fun r => Own c r.2.1.1) := by
 rw [decT_decP]
 refine sat_oelim (fun r5 => Own c r5.2.1 ∧ r5.2.2.1.fPort = api_PortID.mk c.fClock 0 ∧ r5.2.2.1.fGrand = c.fClock) (fun r5 h5 => decP_own K g6 g7 g9 g10 c hc r5 h5 fun x hx => ?_) (fun r5 h5 => ?_)
 ·unfold no6 at hb
  rw [h5] at hb
  exact of_decide_eq_true (List.all_eq_true.1 hb x hx)
 ·refine sat_oelim (fun b => b.2.1.fconf = c ∧ b.2.2.1 = r5.2.2.1) (decF2_q c _ _ ⟨h5.1.1, rfl⟩) (fun r6 h6 => ?_)
  refine sat_oelim (fun b => b.2.1.fconf = c ∧ b.2.2.1 = r5.2.2.1) (sat_bif (sat_oelim (fun b => b.2.1.fconf = c ∧ b.2.2.1 = r5.2.2.1) (sat_oelim (fun _ => True) sat_any (fun _ _ => sat_oelim (fun _ => True) sat_any (fun _ _ => sat_some h6))) (fun r9 h9 => sat_some h9)) (sat_some h6)) (fun r10 h10 => ?_)
  refine sat_some ⟨h10.1, ?_, ?_⟩
  ·show r10.2.2.1.fPort = _
   rw [h10.2]; exact h5.2.1
  ·show r10.2.2.1.fGrand = _
   rw [h10.2]; exact h5.2.2
noncomputable def midA (s : R1) : Option (clock_Clock × Gs × clock_Clock × Gs) :=
 match K24.F0 ((0, 1, ()), s.1.set_fticks (Z7 false (iadd .i64 s.1.fticks 1) 1099511627776), s.2) with
 | some (_, K1, e) =>
  match decT K1 e.1 e.2.1 e.2.2.2.1 e.2.2.2.2.1 with
  | some (_, (K2, f), _) => some (K1, e, K2, (f.1, f.2.1, e.2.2.1, f.2.2.1, f.2.2.2.1, e.2.2.2.2.2.1, ()))
  | none => none
 | none => none
noncomputable def okN (s : R1) : Bool := match midA s with | some (K1, e, _, _) => no6 K1 e.1 e.2.1 e.2.2.2.1 e.2.2.2.2.1 | none => false
theorem own_ticks {c : api_Conf} {K : clock_Clock} (h : Own c K) (t : Int) : Own c (K.set_fticks t) := h
theorem mid_A {s : R1} {c : api_Conf} (hO : Own c s.1) (hn : okN s = true) : mid s = midA s := by
 unfold mid midA
 unfold okN midA at hn
 cases hF : K24.F0 ((0, 1, ()), s.1.set_fticks (Z7 false (iadd .i64 s.1.fticks 1) 1099511627776), s.2) with
 | none => rfl
 | some r =>
  obtain ⟨z, K1, e⟩ := r
  have hK1 : Own c K1 := tickF0_own c _ (own_ticks hO _) _ hF
  rw [hF] at hn
  simp only [] at hn ⊢
  cases hd : decT K1 e.1 e.2.1 e.2.2.2.1 e.2.2.2.2.1 with
  | none => rw [hd] at hn; cases hn
  | some q =>
   rw [hd] at hn
   rw [decide_T hK1 hn, hd]
theorem midA_own {s : R1} {c : api_Conf} {K1 K2 : clock_Clock} {e f : Gs} (hO : Own c s.1) (hn : okN s = true) (hm : midA s = some (K1, e, K2, f)) : Own c K2 := by
 unfold okN at hn
 rw [hm] at hn
 unfold midA at hm
 split at hm
 ·rename_i z K1' e' hF
  have hK1 : Own c K1' := tickF0_own c _ (own_ticks hO _) _ hF
  split at hm
  ·rename_i u K2' f' w hd
   cases hm
   exact decT_own hK1 hn _ hd
  ·cases hm
 ·cases hm
theorem nxM_own {s : R1} {c : api_Conf} {p : Nat} (hO : Own c s.1) (hn : okN s = true) : Own c (nxM midA p s).1 := by
 unfold nxM
 cases hm : midA s with
 | none => exact hO
 | some r =>
  obtain ⟨K1, e, K2, f⟩ := r
  have hK2 := midA_own hO hn hm
  obtain ⟨h1, h2, _⟩ := spkS_facts (fun _ => ByteArray.empty) (fun _ => ByteArray.empty) K2 p
  refine ⟨?_, ?_, ?_⟩
  ·show (spkS _ _ p K2).fconf = c
   rw [h1]; exact hK2.1
  ·show (spkS _ _ p K2).fparent.fPort = _
   rw [h2]; exact hK2.2.1
  ·show (spkS _ _ p K2).fparent.fGrand = _
   rw [h2]; exact hK2.2.2
theorem itM_own {s : R1} {c : api_Conf} {p : Nat} (hO : Own c s.1) : ∀ (n : Nat), (∀ i, i < n → okN (itM midA p i s) = true) → Own c (itM midA p n s).1
 | 0, _ => hO
 | n + 1, h => nxM_own (itM_own hO n fun i hi => h i (by omega)) (h n (by omega))
abbrev okU : api_Conf → Option (((Int) × Unit) × (Unit) × (Unit)) := fun _ => some ((0, ()), (), ())
abbrev cfA (id : Int) (p : Nat) : api_Conf := api_Conf.mk id p 0 128 128 (api_Quality.mk 248 254 65535) false (-3) (-3) (-3) 3 false false 5 700 300 20000 (api_Times.mk 37 8 160) false
noncomputable def nwA (id : Int) (p : Nat) := K25.gen okU K13 (cfA id p) e0_ e6_ e2_ e1_ e4_ e3_ e5_ (0, fun _ => [])
noncomputable def okB (p : Nat) (s : R1) : Bool := okM midA p s && okN s
noncomputable def allSt (p : Nat) (K : clock_Clock) (v : Int) : Bool := (List.range p).all fun i => ieq (K.fports i).fstate v
noncomputable def chainB (p : Nat) : Nat → R1 → Bool
 | 0, _ => true
 | k + 1, s => okB p s && chainB p k (nxM midA p s)
noncomputable def chainL (p : Nat) : Nat → R1 → Bool
 | 0, s => allSt p s.1 6
 | k + 1, s => allSt p s.1 6 && okB p s && (match midA s with | some (_, _, K2, _) => allSt p K2 6 | none => false) && chainL p k (nxM midA p s)
noncomputable def alB (p : Nat) (N : NT) : Bool :=
 chainB p 5 ((N.1.2 0).set_fouts [], N.2.2) && allSt p (itM midA p 3 ((N.1.2 0).set_fouts [], N.2.2)).1 4 && chainL p 29 (itM midA p 5 ((N.1.2 0).set_fouts [], N.2.2))
noncomputable def nwN (id : Int) (p : Nat) : NT := match nwA id p with | some r => r.2.1 | none => (e0_, e6_, e2_, e1_, e4_, e3_, e5_, (0, fun _ => []), ())
theorem nwA_1 (id : Int) : nwA id 1 = some ((some 0, (0, ())), nwN id 1, ()) := by kernel_rfl
theorem own_1 (id : Int) : (((nwN id 1).1.2 0).fconf = cfA id 1 ∧ ((nwN id 1).1.2 0).fparent.fPort = api_PortID.mk id 0 ∧ ((nwN id 1).1.2 0).fparent.fGrand = id) := ⟨by kernel_rfl, by kernel_rfl, by kernel_rfl⟩
theorem al_1 (id : Int) : alB 1 (nwN id 1) = true := by kernel_rfl
theorem nwA_2 (id : Int) : nwA id 2 = some ((some 0, (0, ())), nwN id 2, ()) := by kernel_rfl
theorem own_2 (id : Int) : (((nwN id 2).1.2 0).fconf = cfA id 2 ∧ ((nwN id 2).1.2 0).fparent.fPort = api_PortID.mk id 0 ∧ ((nwN id 2).1.2 0).fparent.fGrand = id) := ⟨by kernel_rfl, by kernel_rfl, by kernel_rfl⟩
theorem al_2 (id : Int) : alB 2 (nwN id 2) = true := by kernel_rfl
theorem nwA_3 (id : Int) : nwA id 3 = some ((some 0, (0, ())), nwN id 3, ()) := by kernel_rfl
theorem own_3 (id : Int) : (((nwN id 3).1.2 0).fconf = cfA id 3 ∧ ((nwN id 3).1.2 0).fparent.fPort = api_PortID.mk id 0 ∧ ((nwN id 3).1.2 0).fparent.fGrand = id) := ⟨by kernel_rfl, by kernel_rfl, by kernel_rfl⟩
theorem al_3 (id : Int) : alB 3 (nwN id 3) = true := by kernel_rfl
theorem nwA_4 (id : Int) : nwA id 4 = some ((some 0, (0, ())), nwN id 4, ()) := by kernel_rfl
theorem own_4 (id : Int) : (((nwN id 4).1.2 0).fconf = cfA id 4 ∧ ((nwN id 4).1.2 0).fparent.fPort = api_PortID.mk id 0 ∧ ((nwN id 4).1.2 0).fparent.fGrand = id) := ⟨by kernel_rfl, by kernel_rfl, by kernel_rfl⟩
theorem al_4 (id : Int) : alB 4 (nwN id 4) = true := by kernel_rfl
theorem nwA_5 (id : Int) : nwA id 5 = some ((some 0, (0, ())), nwN id 5, ()) := by kernel_rfl
theorem own_5 (id : Int) : (((nwN id 5).1.2 0).fconf = cfA id 5 ∧ ((nwN id 5).1.2 0).fparent.fPort = api_PortID.mk id 0 ∧ ((nwN id 5).1.2 0).fparent.fGrand = id) := ⟨by kernel_rfl, by kernel_rfl, by kernel_rfl⟩
theorem al_5 (id : Int) : alB 5 (nwN id 5) = true := by kernel_rfl
theorem nwA_6 (id : Int) : nwA id 6 = some ((some 0, (0, ())), nwN id 6, ()) := by kernel_rfl
theorem own_6 (id : Int) : (((nwN id 6).1.2 0).fconf = cfA id 6 ∧ ((nwN id 6).1.2 0).fparent.fPort = api_PortID.mk id 0 ∧ ((nwN id 6).1.2 0).fparent.fGrand = id) := ⟨by kernel_rfl, by kernel_rfl, by kernel_rfl⟩
theorem al_6 (id : Int) : alB 6 (nwN id 6) = true := by kernel_rfl
theorem nwA_7 (id : Int) : nwA id 7 = some ((some 0, (0, ())), nwN id 7, ()) := by kernel_rfl
theorem own_7 (id : Int) : (((nwN id 7).1.2 0).fconf = cfA id 7 ∧ ((nwN id 7).1.2 0).fparent.fPort = api_PortID.mk id 0 ∧ ((nwN id 7).1.2 0).fparent.fGrand = id) := ⟨by kernel_rfl, by kernel_rfl, by kernel_rfl⟩
theorem al_7 (id : Int) : alB 7 (nwN id 7) = true := by kernel_rfl
theorem nwA_8 (id : Int) : nwA id 8 = some ((some 0, (0, ())), nwN id 8, ()) := by kernel_rfl
theorem own_8 (id : Int) : (((nwN id 8).1.2 0).fconf = cfA id 8 ∧ ((nwN id 8).1.2 0).fparent.fPort = api_PortID.mk id 0 ∧ ((nwN id 8).1.2 0).fparent.fGrand = id) := ⟨by kernel_rfl, by kernel_rfl, by kernel_rfl⟩
theorem al_8 (id : Int) : alB 8 (nwN id 8) = true := by kernel_rfl
theorem chainB_at {p : Nat} : ∀ (n : Nat) {s : R1}, chainB p n s = true → ∀ i, i < n → okB p (itM midA p i s) = true
 | 0, _, _, i, hi => absurd hi (Nat.not_lt_zero _)
 | n + 1, s, h, i, hi => by
  unfold chainB at h
  simp only [Bool.and_eq_true] at h
  cases i with
  | zero => exact h.1
  | succ i =>
   have := chainB_at n h.2 i (by omega)
   rw [itM_nxM] at this
   exact this
theorem chainL_at {p : Nat} : ∀ (n : Nat) {s : R1}, chainL p n s = true → (∀ i, i ≤ n → allSt p (itM midA p i s).1 6 = true) ∧ ∀ i, i < n → okB p (itM midA p i s) = true ∧ ∀ K1 e K2 f, midA (itM midA p i s) = some (K1, e, K2, f) → allSt p K2 6 = true
  | 0, s, h => ⟨fun i hi => by have : i = 0 := by omega
                               subst this; exact h, fun i hi => absurd hi (Nat.not_lt_zero _)⟩
  | n + 1, s, h => by
    unfold chainL at h
    simp only [Bool.and_eq_true] at h
    obtain ⟨⟨⟨h1, h2⟩, h3⟩, h4⟩ := h
    obtain ⟨h5, h6⟩ := chainL_at n h4
    refine ⟨fun i hi => ?_, fun i hi => ?_⟩
    · cases i with
      | zero => exact h1
      | succ i =>
        have := h5 i (by omega)
        rw [itM_nxM] at this
        exact this
    · cases i with
      | zero =>
        refine ⟨h2, fun K1 e K2 f hm => ?_⟩
        have hm : midA s = some (K1, e, K2, f) := hm
        rw [hm] at h3
        exact h3
      | succ i =>
        have := h6 i (by omega)
        rw [itM_nxM] at this
        exact this
theorem allSt_at {p : Nat} {K : clock_Clock} {v : Int} (h : allSt p K v = true) {i : Nat} (hi : i < p) : (K.fports i).fstate = v := by
 unfold allSt at h
 rw [List.all_eq_true] at h
 exact ieq_ok (h i (List.mem_range.2 hi))
theorem state_at {K : clock_Clock} {p j : Nat} {v : Int} (hp : p ≤ 8) (hP : K.fconf.fPorts = (p : Int)) (hj : j < p) (hv : (K.fports j).fstate = v) : K9 ((j + 1 : Nat) : Int) K = some ((v, ()), (), ()) := by
 unfold K9 K9.gen K17 K17.gen K22 K22.gen
 rw [hP]
 rw [show isub .i64 ((j + 1 : Nat) : Int) 1 = (j : Int) by rw [isub_of (by omega)]; omega, show inR (j : Int) 8 = true by rw [inR_nat]; simp; omega]
 rw [ilt_false (show ¬ ((j + 1 : Nat) : Int) < 1 by omega), ilt_false (show ¬ (p : Int) < ((j + 1 : Nat) : Int) by omega)]
 simp only [cond_false, cond_true, oelim_some, Int.toNat_natCast, hv]
structure Good (id : Int) (p : Nat) (x : api_Out) : Prop where
 get : ∃ m l, K54 x.fBytes = some ((m, (l, (0, ()))), (), ()) ∧ m.fType = x.fType ∧ (x.fType = 11 → m.fGrand = id ∧ m.fSteps = 0)
 p0 : 1 ≤ x.fPort
 p1 : x.fPort ≤ (p : Int)
def annAt (q : Nat) (x : api_Out) : Bool := ieq x.fType 11 && ieq x.fPort (q : Int)
def cnt (q : Nat) (l : List api_Out) : Nat := (l.filter (annAt q)).length
theorem cnt_append (q : Nat) (l r : List api_Out) : cnt q (l ++ r) = cnt q l + cnt q r := by unfold cnt; rw [List.filter_append, List.length_append]
theorem cnt_one (q : Nat) (x : api_Out) (b : Bool) (h : annAt q x = b) : cnt q [x] = bif b then 1 else 0 := by
 unfold cnt
 rw [List.filter_cons, h]
 cases b <;> rfl
theorem cnt_le (q : Nat) (l : List api_Out) : cnt q l ≤ l.length := List.length_filter_le _ _
theorem saidS_good {p : Nat} {K : clock_Clock} {id : Int} (hl : leadsS p K = true) (hI : IdOk K) (hg : K.fparent.fGrand = id) : ∀ {q : Nat}, q ≤ p → ∀ x ∈ saidS K (annB K) (synB K 1000) q, Good id p x
 | 0, _, x, h => by cases h
 | q + 1, hq, x, h => by
  unfold saidS at h
  cases e6 : ieq (K.fports q).fstate 6 with
  | false => rw [e6] at h; exact saidS_good hl hI hg (by omega) x h
  | true =>
   rw [e6] at h
   simp only [cond_true, List.mem_append, List.mem_singleton] at h
   obtain ⟨hL, hR⟩ := leadsS_of hl
   have hr := hR q (by omega) e6
   rcases h with (h | h) | h
   ·exact saidS_good hl hI hg (by omega) x h
   ·subst h
    refine ⟨⟨_, _, get_N (anC_ann hr.2.1 hI) (hdC_ann hr.1 hI) (by decide) (st := 0) (by decide), rfl, fun _ => ⟨hg, anC_steps hr.2.1⟩⟩, ?_, ?_⟩
    ·show 1 ≤ ((q + 1 : Nat) : Int); omega
    ·show ((q + 1 : Nat) : Int) ≤ (p : Int); omega
   ·subst h
    refine ⟨⟨_, _, get_A (ty := 0) (ctl := 0) (.inl ⟨rfl, rfl⟩) (hdC_syn hr.2.2 hI) (by cases K.fconf.fOneStep <;> simp) (by cases K.fconf.fOneStep <;> simp), rfl, fun h => by cases h⟩, ?_, ?_⟩
    ·show 1 ≤ ((q + 1 : Nat) : Int); omega
    ·show ((q + 1 : Nat) : Int) ≤ (p : Int); omega
theorem saidS_cnt {K : clock_Clock} {bA bS : Nat → ByteArray} {r : Nat} : ∀ {q : Nat}, (∀ i, i < q → (K.fports i).fstate = 6) → cnt (r + 1) (saidS K bA bS q) = if r < q then 1 else 0
 | 0, _ => rfl
 | q + 1, h => by
  have h6 : ieq (K.fports q).fstate 6 = true := by rw [h q (by omega)]; rfl
  have ih := saidS_cnt (r := r) (bA := bA) (bS := bS) (q := q) fun i hi => h i (by omega)
  unfold saidS
  rw [h6]
  simp only [cond_true]
  rw [cnt_append, cnt_append, ih]
  have e1 : cnt (r + 1) [api_Out.mk 1 ((q + 1 : Nat) : Int) 0 false 11 (K.fports q).fannounces (bA q)] = if q = r then 1 else 0 := by
   unfold cnt annAt
   by_cases e : q = r
   ·subst e; simp [ieq]
   ·have : ¬ ((q + 1 : Nat) : Int) = ((r + 1 : Nat) : Int) := by omega
    simp only [List.filter_cons, ieq_false this, Bool.and_false]
    simp [e]
  have e2 : cnt (r + 1) [api_Out.mk 1 ((q + 1 : Nat) : Int) 0 (!K.fconf.fOneStep) 0 (K.fports q).fsyncs (bS q)] = 0 := by
   unfold cnt annAt
   simp [ieq]
  rw [e1, e2]
  by_cases h1 : r < q
  ·rw [if_pos h1, if_neg (by omega), if_pos (by omega)]
  ·by_cases h2 : q = r
   ·rw [if_neg h1, if_pos h2, if_pos (by omega)]
   ·rw [if_neg h1, if_neg h2, if_neg (by omega)]
theorem aloneF0 {n : Int} {p : Nat} {G : Fm clock_Clock} {y : (Fm servo_Servo) × Gs} (hp : p ≤ 8) (hP : (G.2 0).fconf.fPorts = (p : Int)) (h : ∀ i, i < p → ((G.2 0).fports i).fstate = 4) :
  K67.F0 ((n, (p : Int), some 0, 1, ()), G, y) = some (.inl ((n, (p : Int), some 0, ()), G, y)) := by
 unfold K67.F0
 refine loop_to (step := K67.step0 _ _ _ _ _ _ _) (fun j => ((n, (p : Int), some 0, ((j + 1 : Nat) : Int), ()), G, y)) p _ (by omega) (fun j hj => ?_) ?_
 ·unfold K67.step0
  simp only []
  rw [ile_true (show ((j + 1 : Nat) : Int) ≤ (p : Int) by omega)]
  simp only [cond_true, oelim_some]
  rw [state_at hp hP hj (h j hj)]
  simp only [oelim_some, ine_self, cond_false]
  rw [iinc (by omega)]
 ·unfold K67.step0
  simp only []
  rw [ile_false (show ¬ ((p + 1 : Nat) : Int) ≤ (p : Int) by omega)]
  rfl
theorem aloneF1 {m : Int} {p : Nat} {id : Int} {l : List api_Out} {G : Fm clock_Clock} {y : (Fm servo_Servo) × Gs} (hp : p ≤ 8) (hc : (G.2 0).fconf.fClock = id) (hl : l.length < 1000000) (h : ∀ x ∈ l, Good id p x) :
  K67.F1 (((p : Int), some 0, m, l, (0, p + 1), 0, ()), (p + 1, fun _ => 0), G, y) = some (.inl (((p : Int), some 0, m, (0, p + 1), ()), (p + 1, fun q => (cnt q l : Int)), G, y)) := by
 unfold K67.F1
 have hs0 : (fun _ => (0 : Int)) = fun q : Nat => (cnt q (l.take 0) : Int) := by funext q; simp [cnt]
 rw [hs0]
 refine loop_to (step := K67.step1 _ _ _ _ _ _ _) (fun j => (((p : Int), some 0, m, l, (0, p + 1), (j : Int), ()), (p + 1, fun q => (cnt q (l.take j) : Int)), G, y)) l.length _ (by simp only []; omega) (fun j hj => ?_) ?_
 ·obtain ⟨⟨msg, tl, hget, hty, han⟩, h0, h1⟩ := h _ (List.getElem_mem hj)
  unfold K67.step1
  simp only []
  rw [ilt_nat, inR_nat]
  simp only [hj, decide_true, cond_true, Int.toNat_natCast]
  rw [getD_at hj, hget]
  generalize hx : l[j] = x at *
  simp only [oelim_some, ine_self, cond_false]
  rw [ilt_false (show ¬ x.fPort < 1 by omega), ilt_false (show ¬ (p : Int) < x.fPort by omega)]
  simp only [cond_false]
  have htake : l.take (j + 1) = l.take j ++ [x] := by rw [← hx]; exact (List.take_append_getElem hj).symm
  have hle : ∀ q, cnt q (l.take j) ≤ 1000000 := fun q => Nat.le_trans (cnt_le _ _) (by rw [List.length_take]; omega)
  rw [hty]
  cases e11 : ieq x.fType 11 with
  | false =>
   simp only [cond_false, oelim_some]
   rw [iinc (by omega)]
   have : (fun q => (cnt q (l.take (j + 1)) : Int)) = fun q => (cnt q (l.take j) : Int) := by
    funext q
    rw [htake, cnt_append]
    simp [cnt, annAt, e11]
   rw [this]
  | true =>
   obtain ⟨hg, hs⟩ := han (ieq_ok e11)
   unfold K8 K8.gen
   simp only [cond_true, oelim_some, hc, hg, hs, ine_self, cond_false]
   obtain ⟨q, hq⟩ : ∃ q : Nat, x.fPort = (q : Int) := ⟨x.fPort.toNat, by omega⟩
   rw [hq, inR_nat]
   have hqp : q < p + 1 := by omega
   simp only [hqp, decide_true, cond_true, oelim_some, Int.toNat_natCast, Nat.zero_add]
   rw [iinc (by omega), iinc (by have := hle q; omega)]
   have : (fun r => (cnt r (l.take (j + 1)) : Int)) = fset (fun q => (cnt q (l.take j) : Int)) q ((cnt q (l.take j) + 1 : Nat) : Int) := by
    funext r
    rw [htake, cnt_append]
    unfold fset
    by_cases e : r = q
    ·subst e
     rw [if_pos rfl]
     have : cnt r [x] = 1 := cnt_one r x true (by unfold annAt; rw [e11, hq, ieq_self]; rfl)
     rw [this]
    ·rw [if_neg e]
     have : cnt r [x] = 0 := cnt_one r x false (by unfold annAt; rw [e11, hq, ieq_false (show ¬ ((q : Int) = (r : Int)) by omega)]; rfl)
     rw [this]; rfl
   rw [this]
 ·unfold K67.step1
  simp only []
  rw [ilt_nat, List.take_length]
  simp
theorem aloneF2 {m : Int} {p : Nat} {f : Nat → Int} {G : Fm clock_Clock} {y : (Fm servo_Servo) × Gs} (hp : p ≤ 8) (hP : (G.2 0).fconf.fPorts = (p : Int)) (h : ∀ i, i < p → ((G.2 0).fports i).fstate = 6) (hf : ∀ i, i < p → f (i + 1) = m) :
  K67.F2 (((p : Int), some 0, m, (0, p + 1), 1, ()), (p + 1, f), G, y) = some (.inl ((), G, y)) := by
 unfold K67.F2
 refine loop_to (step := K67.step2 _ _ _ _ _ _ _) (fun j => (((p : Int), some 0, m, (0, p + 1), ((j + 1 : Nat) : Int), ()), (p + 1, f), G, y)) p _ (by simp only []; omega) (fun j hj => ?_) ?_
 ·unfold K67.step2
  simp only []
  rw [ile_true (show ((j + 1 : Nat) : Int) ≤ (p : Int) by omega)]
  simp only [cond_true, oelim_some]
  rw [state_at hp hP hj (h j hj), inR_nat]
  have : j + 1 < p + 1 := by omega
  simp only [oelim_some, ine_self, cond_false, this, decide_true, cond_true, Int.toNat_natCast, Nat.zero_add, hf j hj]
  rw [iinc (by omega)]
 ·unfold K67.step2
  simp only []
  rw [ile_false (show ¬ ((p + 1 : Nat) : Int) ≤ (p : Int) by omega)]
  rfl
theorem awake_true : K68.A = some () := by kernel_rfl
theorem outsM_mem {M : MidF} {p : Nat} {s : R1} {x : api_Out} : ∀ {n : Nat}, x ∈ outsM M p n s → ∃ i, i < n ∧ x ∈ outM M p (itM M p i s)
 | 0, h => by cases h
 | n + 1, h => by
  unfold outsM at h
  rcases List.mem_append.1 h with h | h
  ·obtain ⟨i, h1, h2⟩ := outsM_mem h
   exact ⟨i, by omega, h2⟩
  ·exact ⟨n, by omega, h⟩
theorem conf_A {id : Int} {p : Nat} (h1 : 1 ≤ id) (h2 : id ≤ 1000) (p1 : 1 ≤ p) (p8 : p ≤ 8) : K40 (cfA id p) = some ((0, ()), (), ()) := by
 rw [conf_spec, if_pos]
 unfold okC numsB inB mayQ
 simp
 exact ⟨⟨⟨⟨by omega, by omega⟩, ⟨rfl, rfl⟩, rfl⟩, by omega⟩, by omega⟩
theorem fresh_A {id : Int} {p : Nat} (h1 : 1 ≤ id) (h2 : id ≤ 1000) (p1 : 1 ≤ p) (p8 : p ≤ 8) {N : NT} (h : nwA id p = some ((some 0, (0, ())), N, ())) :
  K69 id (p : Int) e0_ e6_ e2_ e1_ e4_ e3_ e5_ (0, fun _ => []) = some ((some 0, ()), N, ()) := by
 have hok := conf_A h1 h2 p1 p8
 have hnew : K25 (cfA id p) e0_ e6_ e2_ e1_ e4_ e3_ e5_ (0, fun _ => []) = some ((some 0, (0, ())), N, ()) := by
  rw [← h]
  unfold K25 nwA K25.gen
  rw [hok]
 unfold K69 K69.gen
 rw [show K41 id = some ((api_Conf.mk id 1 0 128 128 (api_Quality.mk 248 254 65535) false 1 0 0 3 false false 5 700 300 20000 (api_Times.mk 37 8 160) false, ()), (), ()) from rfl]
 simp only [oelim_some]
 rw [show K25 _ _ _ _ _ _ _ _ _ = _ from hnew]
 rfl
theorem wrap_u64 {x : Int} (h0 : 0 ≤ x) (h1 : x < 18446744073709551616) : IntKind.wrap .u64 x = x := by
 simp [IntKind.wrap, IntKind.signed, IntKind.bits]
 omega
theorem ports_of {K : clock_Clock} {s : R1} {c : api_Conf} (hK : K.set_fouts [] = s.1) (hO : Own c s.1) : K.fconf = c := by
 have := hO.1
 rw [← hK] at this
 exact this
theorem fports_of {K : clock_Clock} {s : R1} (hK : K.set_fouts [] = s.1) : K.fports = s.1.fports := by rw [← hK]
theorem alone_end (id ports n idv : Int) (p m : Nat) (N : NT) (hF : K69 idv (p : Int) e0_ e6_ e2_ e1_ e4_ e3_ e5_ (0, fun _ => []) = some ((some 0, ()), N, ()))
  (hp : p ≤ 8) (hpp : ports % 8 + 1 = (p : Int)) (hid : id % 1000 + 1 = idv) (hm : n % 30 = (m : Int)) (hO : Own (cfA idv p) (N.1.2 0)) (hB : alB p N = true) :
  ∃ y, K67 id ports n e0_ e6_ e2_ e1_ e4_ e3_ e5_ (0, fun _ => []) = some ((true, ()), y, ()) := by
 have hm30 : m ≤ 29 := by omega
 have hidv : 1 ≤ idv ∧ idv ≤ 1000 := by omega
 unfold alB at hB
 simp only [Bool.and_eq_true] at hB
 obtain ⟨⟨hC, h4⟩, hL⟩ := hB
 have hC := chainB_at 5 hC
 obtain ⟨hL6, hLr⟩ := chainL_at 29 hL
 have hO0 : Own (cfA idv p) ((N.1.2 0).set_fouts [], N.2.2).1 := hO
 have hfs : ∀ (f : Nat → clock_Clock) (K : clock_Clock), fset f 0 K 0 = K := fun f K => fset_same _ _ _
 have hokB : ∀ {s : R1}, okB p s = true → okM midA p s = true ∧ okN s = true := fun h => by
  unfold okB at h
  rwa [Bool.and_eq_true] at h
 have idok : ∀ {K : clock_Clock}, Own (cfA idv p) K → IdOk K := fun {K} h => by
  obtain ⟨a1, a2, a3⟩ := h
  refine ⟨by rw [a1]; show 0 ≤ idv; omega, by rw [a1]; show idv < _; omega, by rw [a3]; show 0 ≤ idv; omega, by rw [a3]; show idv < _; omega⟩
 have tk : ∀ (q : Nat) (s : R1) (g5 : Fm servo_Servo) (K : clock_Clock), q ≤ 1000 → Own (cfA idv p) s.1 → (∀ i, i < q → okB p (itM midA p i s) = true) → K.set_fouts [] = s.1 →
   (K70 (q : Int) K g5 s.2.1 s.2.2.1 s.2.2.2.1 s.2.2.2.2.1 s.2.2.2.2.2.1 s.2.2.2.2.2.2.1 = some ((outsM midA p q s, ()), (clkM midA p s K q, g5, (itM midA p q s).2.1, (itM midA p q s).2.2.1, (itM midA p q s).2.2.2.1, (itM midA p q s).2.2.2.2.1, (itM midA p q s).2.2.2.2.2.1, (itM midA p q s).2.2.2.2.2.2.1, ()), ())
  ∧ (clkM midA p s K q).set_fouts [] = (itM midA p q s).1) ∧ Own (cfA idv p) (itM midA p q s).1 := fun q s g5 K hq hOs hok hK => by
  have hown : ∀ i, i ≤ q → Own (cfA idv p) (itM midA p i s).1 := fun i hi => itM_own hOs i fun i' hi' => (hokB (hok i' (by omega))).2
  exact ⟨ticks_M hq (fun i hi => mid_A (hown i (by omega)) (hokB (hok i hi)).2) (fun i hi => (hokB (hok i hi)).1) (fun i hi K1 e K2 f hmd => idok (midA_own (hown i (by omega)) (hokB (hok i hi)).2 hmd)) hK, hown q (Nat.le_refl _)⟩
 -- three rounds
 obtain ⟨⟨hT3, hK3⟩, hO3⟩ := tk 3 ((N.1.2 0).set_fouts [], N.2.2) N.2.1 (N.1.2 0) (by decide) hO0 (fun i hi => hC i (by omega)) rfl
 obtain ⟨⟨hT2, hK5⟩, hO5⟩ := tk 2 (itM midA p 3 ((N.1.2 0).set_fouts [], N.2.2)) N.2.1 (clkM midA p ((N.1.2 0).set_fouts [], N.2.2) (N.1.2 0) 3) (by decide) hO3 (fun i hi => by rw [← itM_add]; exact hC _ (by omega)) hK3
 rw [← itM_add] at hT2 hK5 hO5
 obtain ⟨⟨hTm, hKm⟩, hOm⟩ := tk m (itM midA p (2 + 3) ((N.1.2 0).set_fouts [], N.2.2)) N.2.1 (clkM midA p (itM midA p 3 ((N.1.2 0).set_fouts [], N.2.2)) (clkM midA p ((N.1.2 0).set_fouts [], N.2.2) (N.1.2 0) 3) 2) (by omega) hO5 (fun i hi => (hLr i (by omega)).1) hK5
 generalize hs3 : itM midA p 3 ((N.1.2 0).set_fouts [], N.2.2) = s3 at *
 generalize hs5 : itM midA p (2 + 3) ((N.1.2 0).set_fouts [], N.2.2) = s5 at *
 generalize hc3 : clkM midA p ((N.1.2 0).set_fouts [], N.2.2) (N.1.2 0) 3 = K3 at *
 generalize hc5 : clkM midA p s3 K3 2 = K5 at *
 generalize hcm : clkM midA p s5 K5 m = Km at *
 have c3 := ports_of hK3 hO3
 have cm := ports_of hKm hOm
 unfold K67 K67.gen
 rw [place_spec ports 8 (by decide) (by decide), place_spec id 1000 (by decide) (by decide)]
 simp only [oelim_some]
 rw [show iadd .i64 1 (ports % 8) = (p : Int) by rw [iadd_of (by omega)]; omega, show iadd .i64 1 (id % 1000) = idv by rw [iadd_of (by omega)]; omega, wrap_u64 (by omega) (by omega), hF]
 simp only [oelim_some, Option.isSome_some, Bool.not_true, cond_false]
 rw [show K70 3 (N.1.2 0) N.2.1 N.2.2.1 N.2.2.2.1 N.2.2.2.2.1 N.2.2.2.2.2.1 N.2.2.2.2.2.2.1 N.2.2.2.2.2.2.2.1 = _ from hT3]
 simp only [oelim_some]
 rw [aloneF0 (G := (N.1.1, fset N.1.2 0 K3)) (y := (N.2.1, s3.2.1, s3.2.2.1, s3.2.2.2.1, s3.2.2.2.2.1, s3.2.2.2.2.2.1, s3.2.2.2.2.2.2.1, ())) hp (by simp only [hfs]; rw [c3]) (fun i hi => by simp only [hfs]; rw [fports_of hK3]; exact allSt_at h4 hi)]
 simp only [oelim_some, selim, hfs]
 rw [show K70 2 K3 N.2.1 s3.2.1 s3.2.2.1 s3.2.2.2.1 s3.2.2.2.2.1 s3.2.2.2.2.2.1 s3.2.2.2.2.2.2.1 = _ from hT2, place_spec n 30 (by decide) (by decide), hm]
 simp only [oelim_some, hfs]
 rw [hTm]
 simp only [oelim_some]
 have hp1 : iadd .i64 (p : Int) 1 = ((p + 1 : Nat) : Int) := by rw [iadd_of (by omega)]; omega
 rw [hp1, ile_true (show (0 : Int) ≤ ((p + 1 : Nat) : Int) by omega), ile_true (show ((p + 1 : Nat) : Int) ≤ 9223372036854775807 by omega), Int.toNat_natCast, show room (p + 1) 8 = true from room_true (by omega)]
 simp only [cond_true]
 have hgood : ∀ x ∈ outsM midA p m s5, Good idv p x := fun x hx => by
  obtain ⟨i, hi, hx⟩ := outsM_mem hx
  unfold outM at hx
  split at hx
  ·rename_i K1 e K2 f hmd
   have hb := (hLr i (by omega)).1
   have hOi : Own (cfA idv p) (itM midA p i s5).1 := itM_own hO5 i fun i' hi' => (hokB (hLr i' (by omega)).1).2
   have hO2 := midA_own hOi (hokB hb).2 hmd
   have hok := (hokB hb).1
   unfold okM at hok
   rw [hmd] at hok
   simp only [Bool.and_eq_true] at hok
   exact saidS_good hok.2 (idok hO2) hO2.2.2 (Nat.le_refl _) x hx
  ·cases hx
 have hcnt : ∀ k, k ≤ m → ∀ r, r < p → cnt (r + 1) (outsM midA p k s5) = k := fun k => by
  induction k with
  | zero => intro _ r _; rfl
  | succ k ih =>
   intro hk r hr
   unfold outsM
   rw [cnt_append, ih (by omega) r hr]
   have hb := (hLr k (by omega)).1
   have hok := (hokB hb).1
   unfold okM at hok
   unfold outM
   cases hmd : midA (itM midA p k s5) with
   | none => rw [hmd] at hok; cases hok
   | some q =>
    obtain ⟨K1, e, K2, f⟩ := q
    simp only []
    rw [saidS_cnt (q := p) fun i hi => allSt_at ((hLr k (by omega)).2 K1 e K2 f hmd) hi, if_pos hr]
 have hlen := outsM_len midA p s5 m
 have hb : 2 * p * m ≤ 16 * 29 := Nat.mul_le_mul (by omega) hm30
 rw [aloneF1 (id := idv) (G := (N.1.1, fset (fset (fset N.1.2 0 K3) 0 K5) 0 Km)) (y := (N.2.1, (itM midA p m s5).2.1, (itM midA p m s5).2.2.1, (itM midA p m s5).2.2.2.1, (itM midA p m s5).2.2.2.2.1, (itM midA p m s5).2.2.2.2.2.1, (itM midA p m s5).2.2.2.2.2.2.1, ())) hp (by simp only [hfs]; rw [cm]) (by omega) hgood]
 simp only [oelim_some, selim]
 rw [aloneF2 (G := (N.1.1, fset (fset (fset N.1.2 0 K3) 0 K5) 0 Km)) hp (by simp only [hfs]; rw [cm]) (fun i hi => by simp only [hfs]; rw [fports_of hKm]; exact allSt_at (hL6 m hm30) hi) (fun i hi => by rw [hcnt m (Nat.le_refl _) i hi]), awake_true]
 simp only [oelim_some, selim]
 exact ⟨_, rfl⟩
theorem alone_p (id ports n : Int) (p : Nat) (hpp : ports % 8 + 1 = (p : Int)) (h1 : nwA (id % 1000 + 1) p = some ((some 0, (0, ())), nwN (id % 1000 + 1) p, ())) (h2 : ((nwN (id % 1000 + 1) p).1.2 0).fconf = cfA (id % 1000 + 1) p ∧ ((nwN (id % 1000 + 1) p).1.2 0).fparent.fPort = api_PortID.mk (id % 1000 + 1) 0 ∧ ((nwN (id % 1000 + 1) p).1.2 0).fparent.fGrand = id % 1000 + 1) (h3 : alB p (nwN (id % 1000 + 1) p) = true) :
  ∃ y, K67 id ports n e0_ e6_ e2_ e1_ e4_ e3_ e5_ (0, fun _ => []) = some ((true, ()), y, ()) := by
 obtain ⟨m, hm⟩ : ∃ m : Nat, n % 30 = (m : Int) := ⟨(n % 30).toNat, by omega⟩
 exact alone_end id ports n (id % 1000 + 1) p m _ (fresh_A (by omega) (by omega) (by omega) (by omega) h1) (by omega) hpp rfl hm h2 h3
theorem K67.law : ∀ (id : Int) (ports : Int) (n : Int), (Lit.int .i64 id).wf = true → (Lit.int .i64 ports).wf = true → (Lit.int .i64 n).wf = true → ∃ y, K67 id ports n e0_ e6_ e2_ e1_ e4_ e3_ e5_ (0, fun _ => []) = some ((true, ()), y, ()) := by
 intro id ports n _ _ _
 obtain ⟨p, hp⟩ : ∃ p : Nat, ports % 8 + 1 = (p : Int) := ⟨(ports % 8 + 1).toNat, by omega⟩
 have h8 : p < 9 := by omega
 have h1 : 0 < p := by omega
 match p, h8, h1 with
 | 1, _, _ => exact alone_p id ports n 1 hp (nwA_1 _) (own_1 _) (al_1 _)
 | 2, _, _ => exact alone_p id ports n 2 hp (nwA_2 _) (own_2 _) (al_2 _)
 | 3, _, _ => exact alone_p id ports n 3 hp (nwA_3 _) (own_3 _) (al_3 _)
 | 4, _, _ => exact alone_p id ports n 4 hp (nwA_4 _) (own_4 _) (al_4 _)
 | 5, _, _ => exact alone_p id ports n 5 hp (nwA_5 _) (own_5 _) (al_5 _)
 | 6, _, _ => exact alone_p id ports n 6 hp (nwA_6 _) (own_6 _) (al_6 _)
 | 7, _, _ => exact alone_p id ports n 7 hp (nwA_7 _) (own_7 _) (al_7 _)
 | 8, _, _ => exact alone_p id ports n 8 hp (nwA_8 _) (own_8 _) (al_8 _)
end Go.Proofs.YtgnabnhggaondaaGreat
