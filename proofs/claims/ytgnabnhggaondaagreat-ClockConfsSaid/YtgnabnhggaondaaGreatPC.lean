/- Typed forms of the functions that these statements reach, proved equal to what the model runs, and laws over them. -/
import Derived.Test.YtgnabnhggaondaaGreatS23c
import Derived.Test.YtgnabnhggaondaaGreatAr3
namespace Go.Proofs.YtgnabnhggaondaaGreat
open Go.Rf
set_option linter.unusedVariables false
set_option linter.unusedSimpArgs false
set_option maxRecDepth 100000
def outB (x lo hi : Int) : Option (Bool × Unit) := bif ilt x lo then some (true, ()) else some (ilt hi x, ())
def inB (x lo hi : Int) : Bool := decide (lo ≤ x) && decide (x ≤ hi)
theorem outB_spec (x lo hi : Int) : outB x lo hi = some (!inB x lo hi, ()) := by
 unfold outB inB
 by_cases h1 : x < lo
 ·rw [ilt_true h1]; simp [show ¬ lo ≤ x by omega]
 ·rw [ilt_false h1]
  by_cases h2 : hi < x
  ·rw [ilt_true h2]; simp [show ¬ x ≤ hi by omega]
  ·rw [ilt_false h2]; simp [show lo ≤ x by omega, show x ≤ hi by omega]
theorem inB_iff {x lo hi : Int} : inB x lo hi = true ↔ lo ≤ x ∧ x ≤ hi := by simp [inB]
def mayQ (q : api_Quality) : Bool := inB q.fClass 0 255 && inB q.fAccuracy 0 255 && inB q.fVariance 0 65535
theorem quality_may_spec (q : api_Quality) : K82 q = some ((mayQ q, ()), (), ()) := by
 unfold K82 K82.gen mayQ inB ile
 cases decide (0 ≤ q.fClass) <;> cases decide (q.fClass ≤ 255) <;> cases decide (0 ≤ q.fAccuracy) <;> cases decide (q.fAccuracy ≤ 255) <;> cases decide (0 ≤ q.fVariance) <;> rfl
noncomputable def confNF (c : api_Conf) : Option (((Int) × Unit) × (Unit) × (Unit)) :=
 (oelim (outB c.fPorts 1 8) none fun r => (bif r.1 then some ((15, ()), (), ()) else (oelim (outB c.fDomain 0 127) none fun r => (bif r.1 then some ((15, ()), (), ()) else (oelim (outB c.fPriority1 0 255) none fun r => (bif r.1 then some ((15, ()), (), ()) else (oelim (outB c.fPriority2 0 255) none fun r => (bif r.1 then some ((15, ()), (), ()) else (oelim (outB c.fLogAnn (-3) 4) none fun r => (bif r.1 then some ((15, ()), (), ()) else (oelim (outB c.fLogSync (-3) 4) none fun r => (bif r.1 then some ((15, ()), (), ()) else (oelim (outB c.fLogDelay (-3) 4) none fun r => (bif r.1 then some ((15, ()), (), ()) else (oelim (outB c.fTimeout 2 10) none fun r => (bif r.1 then some ((15, ()), (), ()) else (oelim (outB c.fMedian 1 15) none fun r => (bif r.1 then some ((15, ()), (), ()) else (oelim (outB c.fKp 0 2000) none fun r => (bif r.1 then some ((15, ()), (), ()) else (oelim (outB c.fKi 0 2000) none fun r => (bif r.1 then some ((15, ()), (), ()) else (oelim (outB c.fStep 0 1000000000) none fun r => (bif r.1 then some ((15, ()), (), ()) else (oelim (outB c.fTimes.fUtc (-32768) 32767) none fun r => (bif r.1 then some ((15, ()), (), ()) else (oelim (outB c.fTimes.fFlags 0 63) none fun r => (bif r.1 then some ((15, ()), (), ()) else (oelim (outB c.fTimes.fOrigin 0 255) none fun r => (bif r.1 then some ((15, ()), (), ()) else (oelim (bif ieq c.fClock 0 then some (true, ()) else (bif ieq c.fClock 18446744073709551615 then some (true, ()) else (oelim (K82 c.fQuality) none fun r15 => some (!r15.1.1, ())))) none fun r16 => (bif r16.1 then some ((15, ()), (), ()) else (oelim (bif c.fSlaveOnly then (bif ilt 1 c.fPorts then some (true, ()) else some (ine c.fQuality.fClass 255, ())) else some (false, ())) none fun r17 => (bif r17.1 then some ((15, ()), (), ()) else some ((0, ()), (), ())))))))))))))))))))))))))))))))))))
theorem conf_nf (c : api_Conf) : K45 c = confNF c := by kernel_rfl
def numsB (c : api_Conf) : Bool := inB c.fPorts 1 8 && inB c.fDomain 0 127 && inB c.fPriority1 0 255 && inB c.fPriority2 0 255 && inB c.fLogAnn (-3) 4 && inB c.fLogSync (-3) 4 && inB c.fLogDelay (-3) 4 && inB c.fTimeout 2 10 && inB c.fMedian 1 15 && inB c.fKp 0 2000 && inB c.fKi 0 2000 && inB c.fStep 0 1000000000 && inB c.fTimes.fUtc (-32768) 32767 && inB c.fTimes.fFlags 0 63 && inB c.fTimes.fOrigin 0 255
def okC (c : api_Conf) : Bool := numsB c && mayQ c.fQuality && c.fClock != 0 && c.fClock != 18446744073709551615 && (!c.fSlaveOnly || (c.fPorts == 1 && c.fQuality.fClass == 255))
theorem conf_spec (c : api_Conf) : K45 c = some ((if okC c then 0 else 15, ()), (), ()) := by
 rw [conf_nf]
 unfold confNF okC numsB
 simp only [outB_spec, oelim_some, quality_may_spec]
 cases h0 : inB c.fPorts 1 8
 ·simp
 simp only [Bool.not_true, cond_false, Bool.true_and, Bool.and_true]
 cases h1 : inB c.fDomain 0 127
 ·simp
 simp only [Bool.not_true, cond_false, Bool.true_and, Bool.and_true]
 cases h2 : inB c.fPriority1 0 255
 ·simp
 simp only [Bool.not_true, cond_false, Bool.true_and, Bool.and_true]
 cases h3 : inB c.fPriority2 0 255
 ·simp
 simp only [Bool.not_true, cond_false, Bool.true_and, Bool.and_true]
 cases h4 : inB c.fLogAnn (-3) 4
 ·simp
 simp only [Bool.not_true, cond_false, Bool.true_and, Bool.and_true]
 cases h5 : inB c.fLogSync (-3) 4
 ·simp
 simp only [Bool.not_true, cond_false, Bool.true_and, Bool.and_true]
 cases h6 : inB c.fLogDelay (-3) 4
 ·simp
 simp only [Bool.not_true, cond_false, Bool.true_and, Bool.and_true]
 cases h7 : inB c.fTimeout 2 10
 ·simp
 simp only [Bool.not_true, cond_false, Bool.true_and, Bool.and_true]
 cases h8 : inB c.fMedian 1 15
 ·simp
 simp only [Bool.not_true, cond_false, Bool.true_and, Bool.and_true]
 cases h9 : inB c.fKp 0 2000
 ·simp
 simp only [Bool.not_true, cond_false, Bool.true_and, Bool.and_true]
 cases h10 : inB c.fKi 0 2000
 ·simp
 simp only [Bool.not_true, cond_false, Bool.true_and, Bool.and_true]
 cases h11 : inB c.fStep 0 1000000000
 ·simp
 simp only [Bool.not_true, cond_false, Bool.true_and, Bool.and_true]
 cases h12 : inB c.fTimes.fUtc (-32768) 32767
 ·simp
 simp only [Bool.not_true, cond_false, Bool.true_and, Bool.and_true]
 cases h13 : inB c.fTimes.fFlags 0 63
 ·simp
 simp only [Bool.not_true, cond_false, Bool.true_and, Bool.and_true]
 cases h14 : inB c.fTimes.fOrigin 0 255
 ·simp
 simp only [Bool.not_true, cond_false, Bool.true_and, Bool.and_true]
 cases hq : mayQ c.fQuality
 ·by_cases e1 : c.fClock = 0
  ·simp [ieq, e1, oelim_some]
  ·by_cases e2 : c.fClock = 18446744073709551615
   ·simp [ieq, e2, oelim_some]
   ·simp [ieq, e1, e2, oelim_some]
 by_cases e1 : c.fClock = 0
 ·simp [ieq, e1, oelim_some]
 by_cases e2 : c.fClock = 18446744073709551615
 ·simp [ieq, e2, oelim_some]
 have hp := inB_iff.1 h0
 have f1 : (c.fClock == 0) = false := by simpa using e1
 have f2 : (c.fClock == 18446744073709551615) = false := by simpa using e2
 cases hs : c.fSlaveOnly
 ·simp [ieq, f1, f2, e1, e2, oelim_some]
 by_cases e3 : c.fPorts = 1
 ·by_cases e4 : c.fQuality.fClass = 255
  ·simp [ieq, ine, ilt, f1, f2, e1, e2, e3, e4, oelim_some]
  ·have f4 : (c.fQuality.fClass == 255) = false := by simpa using e4
   have g4 : (c.fQuality.fClass != 255) = true := by simpa using e4
   simp [ieq, ine, ilt, f1, f2, e1, e2, e3, e4, f4, g4, oelim_some]
 ·have : ilt 1 c.fPorts = true := ilt_true (by omega)
  simp [ieq, f1, f2, e1, e2, e3, this, oelim_some]
theorem in_spec (x lo hi : Int) : K86 x lo hi = some ((inB x lo hi, ()), (), ()) := by
 unfold K86 K86.gen inB ile
 cases decide (lo ≤ x) <;> rfl
theorem ref_may_spec (q : api_Quality) : K87 q = some ((mayQ q, ()), (), ()) := by
 unfold K87 K87.gen mayQ
 simp only [in_spec, oelim_some]
 cases inB q.fClass 0 255 <;> cases inB q.fAccuracy 0 255 <;> rfl
theorem ref_conf_spec (c : api_Conf) : K88 c = some ((if okC c then 0 else 15, ()), (), ()) := by
 unfold K88 K88.gen okC numsB
 simp only [in_spec, ref_may_spec, oelim_some]
 cases h0 : inB c.fPorts 1 8
 ·simp [oelim_some, some_bif]
 cases h1 : inB c.fDomain 0 127
 ·simp [oelim_some, some_bif]
 cases h2 : inB c.fPriority1 0 255
 ·simp [oelim_some, some_bif]
 cases h3 : inB c.fPriority2 0 255
 ·simp [oelim_some, some_bif]
 cases h4 : inB c.fLogAnn (-3) 4
 ·simp [oelim_some, some_bif]
 cases h5 : inB c.fLogSync (-3) 4
 ·simp [oelim_some, some_bif]
 cases h6 : inB c.fLogDelay (-3) 4
 ·simp [oelim_some, some_bif]
 cases h7 : inB c.fTimeout 2 10
 ·simp [oelim_some, some_bif]
 cases h8 : inB c.fMedian 1 15
 ·simp [oelim_some, some_bif]
 cases h9 : inB c.fKp 0 2000
 ·simp [oelim_some, some_bif]
 cases h10 : inB c.fKi 0 2000
 ·simp [oelim_some, some_bif]
 cases h11 : inB c.fStep 0 1000000000
 ·simp [oelim_some, some_bif]
 cases h12 : inB c.fTimes.fUtc (-32768) 32767
 ·simp [oelim_some, some_bif]
 cases h13 : inB c.fTimes.fFlags 0 63
 ·simp [oelim_some, some_bif]
 cases h14 : inB c.fTimes.fOrigin 0 255
 ·simp [oelim_some, some_bif]
 cases hq : mayQ c.fQuality
 ·simp [oelim_some, some_bif]
 simp only [oelim_some, cond_true, Bool.not_true, cond_false]
 by_cases e1 : c.fClock = 0
 ·simp [ieq, e1, oelim_some]
 by_cases e2 : c.fClock = 18446744073709551615
 ·simp [ieq, e2, oelim_some]
 have f1 : (c.fClock == 0) = false := by simpa using e1
 have f2 : (c.fClock == 18446744073709551615) = false := by simpa using e2
 cases hs : c.fSlaveOnly
 ·simp [ieq, f1, f2, e1, e2, oelim_some]
 by_cases e3 : c.fPorts = 1
 ·by_cases e4 : c.fQuality.fClass = 255
  ·simp [ieq, ine, f1, f2, e1, e2, e3, e4, oelim_some]
  ·have g4 : (c.fQuality.fClass != 255) = true := by simpa using e4
   simp [ieq, ine, f1, f2, e1, e2, e3, e4, g4, oelim_some]
 ·have g3 : (c.fPorts != 1) = true := by simpa using e3
  simp [ieq, ine, f1, f2, e1, e2, e3, g3, oelim_some]
theorem awake_true : K70.A = some () := by kernel_rfl
theorem same_spec (k x y : Nat) (h0 : ref23_K) (g0 : Nat × (Nat → clock_Clock)) (g2 : Nat × (Nat → ref20_S)) (g3 : Nat × (Nat → ref23_P)) (g4 : Nat × (Nat → ref12_T)) (g5 : Nat × (Nat → servo_Servo)) (g6 : Nat × (Nat → foreign_Table)) {z}
  (e1 : (g0.2 k).fconf = h0.fC) (e2 : (g0.2 k).fparent = h0.fParent) (e3 : (g0.2 k).foffset = h0.fOffset) (e4 : (g0.2 k).fdelay.fv = h0.fDelay) (s1 : (g0.2 k).fservo = some x) (s2 : h0.fSrv = some y) (e5 : (g5.2 x).ffreq = (g2.2 y).fFreq)
  (e6 : (g0.2 k).fticks = h0.fTicks) (e7 : (g0.2 k).fdrops = h0.fDrops) (hl : K67.F0 ((some k, 0, ()), (h0, g0, g2, g3, g4, g5, g6, ())) = some (.inl z)) :
  K67 (some k) h0 g0 g2 g3 g4 g5 g6 = some ((true, ()), (), ()) := by
 unfold K67 K67.gen K6 K6.gen K12 K12.gen K11 K11.gen K7 K7.gen K10 K10.gen K101 K101.gen K16 K16.gen K8 K8.gen
 simp only [oelim_some, Option.isSome_some, Bool.not_true, cond_false, e1, e2, e3, e4, s1, s2, e5, e6, e7, ieq_self, ine_self, cond_true, beq_self_eq_true, hl, selim]
abbrev okU : api_Conf → Option (((Int) × Unit) × (Unit) × (Unit)) := fun _ => some ((0, ()), (), ())
noncomputable abbrev confN (c : api_Conf) := K31.gen okU K19 c (0, fun _ => U.dft .t_clock_Clock) (0, fun _ => U.dft .t_servo_Servo) (0, fun _ => U.dft .t_foreign_Table) (0, fun _ => U.dft .t_delay_Exchange) (0, fun _ => U.dft .t_peer_Exchange) (0, fun _ => U.dft .t_median_Filter) (0, fun _ => U.dft .t_seq_Match) (0, fun _ => [])
noncomputable abbrev confR (c : api_Conf) := K96.gen okU K94 c (0, fun _ => U.dft .t_ref23_K) (0, fun _ => U.dft .t_ref20_S) (0, fun _ => U.dft .t_ref23_P) (0, fun _ => U.dft .t_ref12_T) (0, fun _ => U.dft .t_ref19_F)
theorem law_of (c : api_Conf) (hk : okC c = true) (i0 : (confN c).isSome = true) (i1 : (confR c).isSome = true) (k w x y : Nat)
  (b1 : ((confN c).get i0).1.1 = some k) (b2 : ((confR c).get i1).1.1 = some w) (b3 : ((confN c).get i0).1.2.1 = ((confR c).get i1).1.2.1)
  (e1 : (((confN c).get i0).2.1.1.2 k).fconf = (((confR c).get i1).2.1.1.2 w).fC) (e2 : (((confN c).get i0).2.1.1.2 k).fparent = (((confR c).get i1).2.1.1.2 w).fParent)
  (e3 : (((confN c).get i0).2.1.1.2 k).foffset = (((confR c).get i1).2.1.1.2 w).fOffset) (e4 : (((confN c).get i0).2.1.1.2 k).fdelay.fv = (((confR c).get i1).2.1.1.2 w).fDelay)
  (s1 : (((confN c).get i0).2.1.1.2 k).fservo = some x) (s2 : (((confR c).get i1).2.1.1.2 w).fSrv = some y)
  (e5 : (((confN c).get i0).2.1.2.1.2 x).ffreq = (((confR c).get i1).2.1.2.1.2 y).fFreq)
  (e6 : (((confN c).get i0).2.1.1.2 k).fticks = (((confR c).get i1).2.1.1.2 w).fTicks) (e7 : (((confN c).get i0).2.1.1.2 k).fdrops = (((confR c).get i1).2.1.1.2 w).fDrops)
  (hl : K67.F0 ((some k, 0, ()), (((confR c).get i1).2.1.1.2 w, ((confN c).get i0).2.1.1, ((confR c).get i1).2.1.2.1, ((confR c).get i1).2.1.2.2.1, ((confR c).get i1).2.1.2.2.2.1, ((confN c).get i0).2.1.2.1, ((confN c).get i0).2.1.2.2.1, ())) = some (.inl ((), (((confR c).get i1).2.1.1.2 w, ((confN c).get i0).2.1.1, ((confR c).get i1).2.1.2.1, ((confR c).get i1).2.1.2.2.1, ((confR c).get i1).2.1.2.2.2.1, ((confN c).get i0).2.1.2.1, ((confN c).get i0).2.1.2.2.1, ())))) :
  ∃ y, K69 c (0, fun _ => U.dft .t_clock_Clock) (0, fun _ => U.dft .t_ref23_K) (0, fun _ => U.dft .t_ref20_S) (0, fun _ => U.dft .t_ref23_P) (0, fun _ => U.dft .t_ref12_T) (0, fun _ => U.dft .t_servo_Servo) (0, fun _ => U.dft .t_foreign_Table) (0, fun _ => U.dft .t_delay_Exchange) (0, fun _ => U.dft .t_peer_Exchange) (0, fun _ => U.dft .t_median_Filter) (0, fun _ => U.dft .t_seq_Match) (0, fun _ => U.dft .t_ref19_F) (0, fun _ => []) = some ((true, ()), y, ()) := by
 have n0 : K31 c (0, fun _ => U.dft .t_clock_Clock) (0, fun _ => U.dft .t_servo_Servo) (0, fun _ => U.dft .t_foreign_Table) (0, fun _ => U.dft .t_delay_Exchange) (0, fun _ => U.dft .t_peer_Exchange) (0, fun _ => U.dft .t_median_Filter) (0, fun _ => U.dft .t_seq_Match) (0, fun _ => []) = confN c := by
  unfold confN K31 K31.gen okU
  rw [conf_spec, hk]; rfl
 have n1 : K96 c (0, fun _ => U.dft .t_ref23_K) (0, fun _ => U.dft .t_ref20_S) (0, fun _ => U.dft .t_ref23_P) (0, fun _ => U.dft .t_ref12_T) (0, fun _ => U.dft .t_ref19_F) = confR c := by
  unfold confR K96 K96.gen okU
  rw [ref_conf_spec, hk]; rfl
 have m0 := (Option.some_get i0).symm
 have m1 := (Option.some_get i1).symm
 generalize (confN c).get i0 = r0 at *
 generalize (confR c).get i1 = r1 at *
 have hs := same_spec k x y _ _ _ _ _ _ _ e1 e2 e3 e4 s1 s2 e5 e6 e7 hl
 unfold K69 K69.gen
 rw [n0, n1, m0, m1, awake_true]
 simp only [oelim_some, b1, b2, b3, ieq_self, cond_true, Option.isSome_some, Bool.not_true, beq_self_eq_true, cond_false, hs]
 exact ⟨_, rfl⟩
abbrev famLaw (c : api_Conf) : Prop := ∃ y, K69 c (0, fun _ => U.dft .t_clock_Clock) (0, fun _ => U.dft .t_ref23_K) (0, fun _ => U.dft .t_ref20_S) (0, fun _ => U.dft .t_ref23_P) (0, fun _ => U.dft .t_ref12_T) (0, fun _ => U.dft .t_servo_Servo) (0, fun _ => U.dft .t_foreign_Table) (0, fun _ => U.dft .t_delay_Exchange) (0, fun _ => U.dft .t_peer_Exchange) (0, fun _ => U.dft .t_median_Filter) (0, fun _ => U.dft .t_seq_Match) (0, fun _ => U.dft .t_ref19_F) (0, fun _ => []) = some ((true, ()), y, ())
theorem confs_bad (c : api_Conf) (hk : okC c = false) : famLaw c := by
 unfold famLaw K69 K69.gen K31 K31.gen K96 K96.gen
 rw [conf_spec, ref_conf_spec, hk, awake_true]
 simp only [oelim_some, Bool.false_eq_true, if_false, show ine 15 0 = true from rfl, cond_true, ieq_self, Option.isSome_none, Bool.not_false, beq_self_eq_true]
 exact ⟨_, rfl⟩
theorem K69.law : ∀ (c : api_Conf), api_Conf.Wf c → famLaw c := by
 intro c _
 cases hk : okC c with
 | false => exact confs_bad c hk
 | true =>
  obtain ⟨cl, p, d, p1, p2, q, so, l, ls, ld, t, pe, os, me, kp, ki, st, ti, tr⟩ := c
  have hk' := hk
  unfold okC numsB at hk'
  simp only [Bool.and_eq_true, inB_iff] at hk'
  have h1 : (1 ≤ p ∧ p ≤ 8) ∧ (-3 ≤ l ∧ l ≤ 4) := by
   obtain ⟨⟨⟨⟨⟨⟨⟨⟨⟨⟨⟨⟨⟨⟨⟨⟨⟨⟨g1, g2⟩, g3⟩, g4⟩, g5⟩, g6⟩, g7⟩, g8⟩, g9⟩, g10⟩, g11⟩, g12⟩, g13⟩, g14⟩, g15⟩, g16⟩, g17⟩, g18⟩, g19⟩ := hk'
   exact ⟨g1, g5⟩
  have hp : p = 1 ∨ p = 2 ∨ p = 3 ∨ p = 4 ∨ p = 5 ∨ p = 6 ∨ p = 7 ∨ p = 8 := by omega
  have hl : l = -3 ∨ l = -2 ∨ l = -1 ∨ l = 0 ∨ l = 1 ∨ l = 2 ∨ l = 3 ∨ l = 4 := by omega
  clear hk' h1
  rcases hp with rfl | rfl | rfl | rfl | rfl | rfl | rfl | rfl <;> rcases hl with rfl | rfl | rfl | rfl | rfl | rfl | rfl | rfl <;> exact law_of _ hk (by kernel_rfl) (by kernel_rfl) 0 0 0 0 (by kernel_rfl) (by kernel_rfl) (by kernel_rfl) (by kernel_rfl) (by kernel_rfl) (by kernel_rfl) (by kernel_rfl) (by kernel_rfl) (by kernel_rfl) (by kernel_rfl) (by kernel_rfl) (by kernel_rfl) (by kernel_rfl)
end Go.Proofs.YtgnabnhggaondaaGreat
