/- Typed forms of the functions that these statements reach, proved equal to what the model runs, and laws over them. -/
import Derived.Test.YtgnabnhggaondaaGreatS
import Derived.Test.YtgnabnhggaondaaGreatAr3
import Derived.KernelRfl
namespace Go.Proofs.YtgnabnhggaondaaGreat
open Go.Rf
set_option linter.unusedVariables false
set_option linter.unusedSimpArgs false
set_option maxRecDepth 100000
abbrev e0_ : Nat × (Nat → D .t_clock_Clock) := (0, fun _ => U.dft .t_clock_Clock)
abbrev e1_ : Nat × (Nat → D .t_delay_Exchange) := (0, fun _ => U.dft .t_delay_Exchange)
abbrev e2_ : Nat × (Nat → D .t_foreign_Table) := (0, fun _ => U.dft .t_foreign_Table)
abbrev e3_ : Nat × (Nat → D .t_median_Filter) := (0, fun _ => U.dft .t_median_Filter)
abbrev e4_ : Nat × (Nat → D .t_peer_Exchange) := (0, fun _ => U.dft .t_peer_Exchange)
abbrev e5_ : Nat × (Nat → D .t_seq_Match) := (0, fun _ => U.dft .t_seq_Match)
abbrev e6_ : Nat × (Nat → D .t_servo_Servo) := (0, fun _ => U.dft .t_servo_Servo)
def byteI (e : Int) : UInt8 := UInt8.ofNat (IntKind.u8.wrap e).toNat
def be (v : Int) : Nat → List UInt8
 | 0 => []
 | k + 1 => byteI (ishr .i64 v (8 * (k : Int))) :: be v k
theorem be_length (v : Int) : ∀ k, (be v k).length = k
 | 0 => rfl
 | k + 1 => by simp [be, be_length v k]
theorem put_step (b : List UInt8) (v : Int) (k : Nat) (hk : k < 8) (hb : b.length < 140737488355328) :
  K93.step0 ((b, v, ((k + 1 : Nat) : Int), ()), ()) = some (.inl ((b ++ [byteI (ishr .i64 v (8 * (k : Int)))], v, (k : Int), ()), ())) := by
 have e1 : isub .i64 ((k + 1 : Nat) : Int) 1 = (k : Int) := by have := isub_of (a := ((k + 1 : Nat) : Int)) (b := 1) (by omega); omega
 have e2 : imul .i64 8 (k : Int) = 8 * (k : Int) := imul_of (by omega)
 unfold K93.step0
 simp only [e1, e2, ilt_true (show (0 : Int) < ((k + 1 : Nat) : Int) by omega), ile_true (show (0 : Int) ≤ 8 * (k : Int) by omega), cond_true]
 rw [room_true (by simp; omega)]
 rfl
theorem put_loop (v : Int) : ∀ (k : Nat) (b : List UInt8), k ≤ 8 → b.length + k < 140737488355328 → K93.F0 ((b, v, (k : Int), ()), ()) = some ((b ++ be v k, ()), ()) := by
 intro k b hk hb
 obtain ⟨r, h1, h2⟩ := loopFix_rule (step := K93.step0) (Inv := fun a => ∃ (i : Nat) (c : List UInt8), a = ((c, v, (i : Int), ()), ()) ∧ i ≤ k ∧ c ++ be v i = b ++ be v k)
  (Post := fun r => r = ((b ++ be v k, ()), ())) (m := fun a => a.1.2.2.1.toNat) (by
   rintro x ⟨i, c, rfl, hi, hc⟩
   cases i with
   | zero =>
    refine .inr ⟨_, ?_, rfl⟩
    unfold K93.step0
    simp only [ilt_false (show ¬ (0 : Int) < ((0 : Nat) : Int) by decide), cond_false]
    rw [← hc]; simp [be]
   | succ i =>
    have hcl : c.length + (i + 1) = b.length + k := by
     have := congrArg List.length hc
     simpa [be_length] using this
    refine .inl ⟨_, put_step c v i (by omega) (by omega), ⟨i, _, rfl, by omega, ?_⟩, by simp only [Int.toNat_natCast]; omega⟩
    rw [← hc]; simp [be]) (1000000 + b.length) ((b, v, (k : Int), ()), ()) ⟨k, b, rfl, Nat.le_refl _, rfl⟩ (by simp only [Int.toNat_natCast]; omega)
 subst h2
 exact h1
theorem put_spec (b : List UInt8) (v : Int) (k : Nat) (hk : k ≤ 8) (hb : b.length + k < 140737488355328) : K93 b v (k : Int) = some ((b ++ be v k, ()), ((), ((), ()))) := by
 have e0 : Z4 true 0 (Z4 false (k : Int) 8) = (k : Int) := by
  simp only [Z4, cond_true, cond_false, imin, imax]
  split <;> split <;> omega
 have e3 : (bif le3 (ofN (0 : Nat)) (ofN b.length) b.length then ieq (ofN b.length) (ofN b.length) else false) = true := by
  simp [le3, ile, ieq]
 have e4 : List.drop (ofN (0 : Nat)).toNat (List.take (ofN b.length).toNat b) = b := by simp
 unfold K93 K93.gen
 simp only [e0, e3, e4, cond_true]
 cases k with
 | zero => simp [ilt, be]
 | succ k =>
  have e1 : isub .i64 ((k + 1 : Nat) : Int) 1 = (k : Int) := by have := isub_of (a := ((k + 1 : Nat) : Int)) (b := 1) (by omega); omega
  have e2 : imul .i64 8 (k : Int) = 8 * (k : Int) := imul_of (by omega)
  simp only [e1, e2, ilt_true (show (0 : Int) < ((k + 1 : Nat) : Int) by omega), ile_true (show (0 : Int) ≤ 8 * (k : Int) by omega), cond_true]
  rw [room_true (by simp; omega)]
  have h := put_loop v k (b ++ [byteI (ishr .i64 v (8 * (k : Int)))]) (by omega) (by simp; omega)
  have h : K93.F0 ((b ++ UInt8.ofNat (IntKind.u8.wrap (ishr .i64 v (8 * (k : Int)))).toNat :: lnil UInt8, v, (k : Int), ()), ()) = _ := h
  rw [h]
  simp [oelim_some, be]
theorem wrap8 (e : Int) : IntKind.u8.wrap e = e % 256 := by
 simp only [IntKind.wrap, IntKind.signed, IntKind.bits, Bool.false_and, Bool.false_eq_true, if_false]; rfl
theorem wrap64 (e : Int) : IntKind.u64.wrap e = e % 18446744073709551616 := by
 simp only [IntKind.wrap, IntKind.signed, IntKind.bits, Bool.false_and, Bool.false_eq_true, if_false]; rfl
theorem emod_split (v m : Int) (hm : 0 < m) : v % (m * 256) = (v / m % 256) * m + v % m := by
 have h : v / (m * 256) = v / m / 256 := by rw [Int.ediv_ediv, if_neg (by omega)]; omega
 rw [Int.emod_def, Int.emod_def (v / m), Int.emod_def v m, h]
 generalize v / m = q
 generalize q / 256 = p
 grind
theorem or_shift (a b : Nat) (h : b < 256) : (a * 256) ||| b = a * 256 + b := by
 have := Nat.shiftLeft_add_eq_or_of_lt (i := 8) (b := b) h a
 rw [Nat.shiftLeft_eq] at this
 exact this.symm
theorem shr8 (v : Int) (i : Nat) (h : i < 8) : ishr .i64 v (8 * (i : Int)) = v / 256 ^ i := by
 have h8 : i = 0 ∨ i = 1 ∨ i = 2 ∨ i = 3 ∨ i = 4 ∨ i = 5 ∨ i = 6 ∨ i = 7 := by omega
 rcases h8 with rfl | rfl | rfl | rfl | rfl | rfl | rfl | rfl
 ·show v.fdiv (2 ^ 0) = _
  rw [Int.fdiv_eq_ediv_of_nonneg _ (by decide)]; rfl
 ·show v.fdiv (2 ^ 8) = _
  rw [Int.fdiv_eq_ediv_of_nonneg _ (by decide)]; rfl
 ·show v.fdiv (2 ^ 16) = _
  rw [Int.fdiv_eq_ediv_of_nonneg _ (by decide)]; rfl
 ·show v.fdiv (2 ^ 24) = _
  rw [Int.fdiv_eq_ediv_of_nonneg _ (by decide)]; rfl
 ·show v.fdiv (2 ^ 32) = _
  rw [Int.fdiv_eq_ediv_of_nonneg _ (by decide)]; rfl
 ·show v.fdiv (2 ^ 40) = _
  rw [Int.fdiv_eq_ediv_of_nonneg _ (by decide)]; rfl
 ·show v.fdiv (2 ^ 48) = _
  rw [Int.fdiv_eq_ediv_of_nonneg _ (by decide)]; rfl
 ·show v.fdiv (2 ^ 56) = _
  rw [Int.fdiv_eq_ediv_of_nonneg _ (by decide)]; rfl
theorem byteI_toNat (e : Int) : ((byteI e).toNat : Int) = e % 256 := by
 unfold byteI
 rw [wrap8, UInt8.toNat_ofNat']
 have h0 := Int.emod_nonneg e (show (256 : Int) ≠ 0 by decide)
 have h1 := Int.emod_lt_of_pos e (show (0 : Int) < 256 by decide)
 omega
def bvalI : Int → List UInt8 → Int
 | a, [] => a
 | a, x :: r => bvalI (a * 256 + (x.toNat : Int)) r
theorem bvalI_be : ∀ (k : Nat) (v a : Int), k ≤ 8 → bvalI a (be v k) = a * 256 ^ k + v % 256 ^ k
 | 0, v, a, _ => by simp [be, bvalI, Int.emod_one]
 | k + 1, v, a, h => by
  rw [be, bvalI, bvalI_be k v _ (by omega), byteI_toNat, shr8 v k (by omega), Int.pow_succ, emod_split v (256 ^ k) (Int.pow_pos (by decide))]
  generalize v / 256 ^ k % 256 = y
  generalize v % 256 ^ k = z
  generalize (256 : Int) ^ k = m
  grind
theorem bvalI_r : ∀ (L : List UInt8) (a : Int), 0 ≤ a → a * 256 ^ L.length ≤ bvalI a L ∧ bvalI a L < (a + 1) * 256 ^ L.length
 | [], a, h => by simp [bvalI]; omega
 | x :: r, a, h => by
  have hx : (x.toNat : Int) < 256 := by have := x.toNat_lt; omega
  have h0 : (0 : Int) ≤ (x.toNat : Int) := by omega
  obtain ⟨h1, h2⟩ := bvalI_r r (a * 256 + (x.toNat : Int)) (by omega)
  rw [bvalI, List.length_cons, Int.pow_succ]
  have hp : (0 : Int) < 256 ^ r.length := Int.pow_pos (by decide)
  generalize (256 : Int) ^ r.length = m at *
  generalize (x.toNat : Int) = y at *
  generalize bvalI (a * 256 + y) r = z at *
  have e1 : a * (m * 256) ≤ (a * 256 + y) * m := by
   have : (a * 256 + y) * m = a * (m * 256) + y * m := by grind
   have : 0 ≤ y * m := Int.mul_nonneg h0 (by omega)
   omega
  have e2 : (a * 256 + y + 1) * m ≤ (a + 1) * (m * 256) := by
   have : (a + 1) * (m * 256) - (a * 256 + y + 1) * m = (255 - y) * m := by grind
   have : 0 ≤ (255 - y) * m := Int.mul_nonneg (by omega) (by omega)
   omega
  omega
theorem read_step (v x : Int) (hv : 0 ≤ v) (hv2 : v < 72057594037927936) (hx : 0 ≤ x) (hx2 : x < 256) : ior .u64 (ishl .u64 v 8) (IntKind.u64.wrap x) = v * 256 + x := by
 have e1 : ishl .u64 v 8 = v * 256 := by
  show IntKind.u64.wrap (v * 2 ^ 8) = _
  rw [wrap64]; omega
 have e2 : IntKind.u64.wrap x = x := by rw [wrap64]; omega
 rw [e1, e2]
 unfold ior
 obtain ⟨a, rfl⟩ : ∃ a : Nat, v = (a : Int) := ⟨v.toNat, by omega⟩
 obtain ⟨b, rfl⟩ : ∃ b : Nat, x = (b : Int) := ⟨x.toNat, by omega⟩
 have f1 : (BitVec.ofInt 64 ((a : Int) * 256)).toNat = a * 256 := by rw [BitVec.toNat_ofInt]; omega
 have f2 : (BitVec.ofInt 64 (b : Int)).toNat = b := by rw [BitVec.toNat_ofInt]; omega
 have : (BitVec.ofInt IntKind.u64.bits ((a : Int) * 256) ||| BitVec.ofInt IntKind.u64.bits (b : Int)).toNat = a * 256 + b := by
  show (BitVec.ofInt 64 ((a : Int) * 256) ||| BitVec.ofInt 64 (b : Int)).toNat = _
  rw [BitVec.toNat_or, f1, f2, or_shift a b (by omega)]
 rw [this, wrap64]; omega
theorem bvalI_app : ∀ (L R : List UInt8) (a : Int), bvalI a (L ++ R) = bvalI (bvalI a L) R
 | [], _, _ => rfl
 | x :: L, R, a => by rw [List.cons_append, bvalI, bvalI, bvalI_app L R]
theorem read_spec (L : List UInt8) (h : L.length ≤ 8) : K97 L = some ((bvalI 0 L, ()), (), ()) := by
 unfold K97 K97.gen K97.F0
 simp only []
 have hl := loop_to (step := K97.step0) (fun i => ((bvalI 0 (L.take i), L, ofN L.length, (i : Int), ()), ())) (b := ((bvalI 0 L, ()), ())) L.length (1000000 + L.length) (by omega) (fun i hi => ?_) ?_
 ·have hl : Z8 (1000000 + L.length) K97.step0 ((0, L, ofN L.length, 0, ()), ()) = some ((bvalI 0 L, ()), ()) := hl
  rw [hl]; rfl
 ·unfold K97.step0
  have hr := bvalI_r (L.take i) 0 (by omega)
  have hlen : (L.take i).length = i := by rw [List.length_take]; omega
  have hp : (256 : Int) ^ i ≤ 256 ^ 7 := by exact_mod_cast Nat.pow_le_pow_right (show 0 < 256 by decide) (show i ≤ 7 by omega)
  rw [hlen] at hr
  have hx := (L[i]).toNat_lt
  have hg : L.getD i 0 = L[i] := getD_at hi
  simp only [ilt_nat, inR_nat, hi, decide_true, cond_true, Int.toNat_natCast, iinc (show i < 4611686018427387904 by omega)]
  have ht : L.take (i + 1) = L.take i ++ [L[i]] := by rw [List.take_add_one, List.getElem?_eq_getElem hi]; rfl
  rw [show List.getD L i (0 : D UC.u8) = L[i] from hg, read_step _ _ (by omega) (by omega) (show (0 : Int) ≤ ((L[i].toNat : Nat) : Int) by omega) (show ((L[i].toNat : Nat) : Int) < 256 by omega), ht, bvalI_app]
  rfl
 ·unfold K97.step0
  simp only [ilt_nat, Nat.lt_irrefl, decide_false, cond_false, List.take_length]
theorem none_ok (b : List UInt8) (at_1 n : Int) (h0 : 0 ≤ at_1) (h1 : 0 ≤ n) (h2 : at_1 + n ≤ (b.length : Int)) (hb : b.length < 1000000) : K96 b at_1 n = some ((false, ()), (), ()) := by
 unfold K96 K96.gen
 have e : isub .i64 (ofN b.length) at_1 = (b.length : Int) - at_1 := isub_of (a := (b.length : Int)) (by omega)
 rw [ilt_false (show ¬ n < 0 by omega), ilt_false (show ¬ at_1 < 0 by omega), ilt_false (show ¬ ((b.length : Nat) : Int) < at_1 by omega), e, ilt_false (show ¬ (b.length : Int) - at_1 < n by omega)]
 rfl
theorem le3_ok {a b : Int} {n : Nat} (h0 : 0 ≤ a) (h1 : a ≤ b) (h2 : b ≤ (n : Int)) : le3 a b n = true := by
 unfold le3; simp [ile, h0, h1, h2]
theorem get_spec (b : List UInt8) (at_1 n : Int) (h0 : 0 ≤ at_1) (h1 : 1 ≤ n) (h7 : n ≤ 7) (h2 : at_1 + n ≤ (b.length : Int)) (hb : b.length < 1000000) :
  K91 b at_1 n = some ((bvalI 0 ((b.take (at_1 + n).toNat).drop at_1.toNat), (true, ())), (), ()) := by
 unfold K91 K91.gen
 have e : iadd .i64 at_1 n = at_1 + n := iadd_of (by omega)
 have hl : ((b.take (at_1 + n).toNat).drop at_1.toNat).length = n.toNat := by rw [List.length_drop, List.length_take]; omega
 rw [ilt_false (show ¬ n < 1 by omega), ilt_false (show ¬ 7 < n by omega), none_ok b at_1 n h0 (by omega) h2 hb]
 simp only [cond_false, oelim_some]
 rw [e, le3_ok h0 (by omega) h2, read_spec _ (by omega)]
 simp only [cond_true, oelim_some]
 have hr := bvalI_r ((b.take (at_1 + n).toNat).drop at_1.toNat) 0 (by omega)
 have hp : (256 : Int) ^ n.toNat ≤ 256 ^ 7 := by exact_mod_cast Nat.pow_le_pow_right (show 0 < 256 by decide) (show n.toNat ≤ 7 by omega)
 rw [hl] at hr
 rw [show IntKind.i64.wrap (bvalI 0 ((b.take (at_1 + n).toNat).drop at_1.toNat)) = bvalI 0 ((b.take (at_1 + n).toNat).drop at_1.toNat) by rw [iwrap]; omega]
def sgn (v : Int) (n : Int) : Int := ishr .i64 (IntKind.i64.wrap (ishl .u64 v (64 - 8 * n))) (64 - 8 * n)
theorem signed_spec (b : List UInt8) (at_1 n : Int) (h0 : 0 ≤ at_1) (h1 : 1 ≤ n) (h7 : n ≤ 8) (h2 : at_1 + n ≤ (b.length : Int)) (hb : b.length < 1000000) :
  K95 b at_1 n = some ((sgn (bvalI 0 ((b.take (at_1 + n).toNat).drop at_1.toNat)) n, (true, ())), (), ()) := by
 unfold K95 K95.gen
 have e : iadd .i64 at_1 n = at_1 + n := iadd_of (by omega)
 have e1 : imul .i64 8 n = 8 * n := imul_of (by omega)
 have e2 : isub .i64 64 (8 * n) = 64 - 8 * n := isub_of (by omega)
 have hl : ((b.take (at_1 + n).toNat).drop at_1.toNat).length = n.toNat := by rw [List.length_drop, List.length_take]; omega
 rw [ilt_false (show ¬ n < 1 by omega), ilt_false (show ¬ 8 < n by omega), none_ok b at_1 n h0 (by omega) h2 hb]
 simp only [cond_false, oelim_some]
 rw [e, le3_ok h0 (by omega) h2, read_spec _ (by omega)]
 simp only [cond_true, oelim_some, e1, e2]
 rw [ile_true (show (0 : Int) ≤ 64 - 8 * n by omega)]
 rfl
theorem sgn8 (v : Int) : sgn v 8 = IntKind.i64.wrap v := by
 unfold sgn
 show (IntKind.i64.wrap (IntKind.u64.wrap (v * 2 ^ 0))).fdiv (2 ^ 0) = _
 rw [Int.fdiv_eq_ediv_of_nonneg _ (by decide), iwrap, iwrap, wrap64]
 omega
theorem sgn1 (v : Int) (h0 : -128 ≤ v) (h1 : v ≤ 127) : sgn (v % 256) 1 = v := by
 unfold sgn
 show (IntKind.i64.wrap (IntKind.u64.wrap (v % 256 * 2 ^ 56))).fdiv (2 ^ 56) = _
 rw [Int.fdiv_eq_ediv_of_nonneg _ (by decide), iwrap, wrap64]
 omega
theorem put1 (b : List UInt8) (v : Int) (h : b.length < 1000000) : K93 b v 1 = some ((b ++ be v 1, ()), ((), ((), ()))) := put_spec b v 1 (by omega) (by omega)
theorem put2 (b : List UInt8) (v : Int) (h : b.length < 1000000) : K93 b v 2 = some ((b ++ be v 2, ()), ((), ((), ()))) := put_spec b v 2 (by omega) (by omega)
theorem put4 (b : List UInt8) (v : Int) (h : b.length < 1000000) : K93 b v 4 = some ((b ++ be v 4, ()), ((), ((), ()))) := put_spec b v 4 (by omega) (by omega)
theorem put6 (b : List UInt8) (v : Int) (h : b.length < 1000000) : K93 b v 6 = some ((b ++ be v 6, ()), ((), ((), ()))) := put_spec b v 6 (by omega) (by omega)
theorem put8 (b : List UInt8) (v : Int) (h : b.length < 1000000) : K93 b v 8 = some ((b ++ be v 8, ()), ((), ((), ()))) := put_spec b v 8 (by omega) (by omega)
theorem getN {L : List UInt8} {at_1 n v : Int} (k : Nat) (h0 : 0 ≤ at_1) (h1 : 1 ≤ n) (h7 : n ≤ 7) (hk : n = (k : Int)) (h2 : at_1 + n ≤ (L.length : Int)) (hb : L.length < 1000000)
  (h : (L.take (at_1 + n).toNat).drop at_1.toNat = be v k) : K91 L at_1 n = some ((v % 256 ^ k, (true, ())), (), ()) := by
 rw [get_spec L at_1 n h0 h1 h7 h2 hb, h, bvalI_be k v 0 (by omega)]
 simp
theorem sgnN {L : List UInt8} {at_1 n v : Int} (k : Nat) (h0 : 0 ≤ at_1) (h1 : 1 ≤ n) (h7 : n ≤ 8) (hk : n = (k : Int)) (h2 : at_1 + n ≤ (L.length : Int)) (hb : L.length < 1000000)
  (h : (L.take (at_1 + n).toNat).drop at_1.toNat = be v k) : K95 L at_1 n = some ((sgn (v % 256 ^ k) n, (true, ())), (), ()) := by
 rw [signed_spec L at_1 n h0 h1 h7 h2 hb, h, bvalI_be k v 0 (by omega)]
 simp
theorem idN {L : List UInt8} {at_1 v : Int} (h0 : 0 ≤ at_1) (h2 : at_1 + 8 ≤ (L.length : Int)) (hb : L.length < 1000000) (hv : 0 ≤ v) (hv2 : v < 18446744073709551616)
  (h : (L.take (at_1 + 8).toNat).drop at_1.toNat = be (IntKind.i64.wrap v) 8) : K92 L at_1 = some ((v, (true, ())), (), ()) := by
 unfold K92 K92.gen
 rw [sgnN 8 h0 (by omega) (by omega) (by omega) h2 hb h, oelim_some, sgn8, wrap64]
 have : IntKind.i64.wrap (IntKind.i64.wrap v % 256 ^ 8) % 18446744073709551616 = v := by rw [iwrap, iwrap]; omega
 rw [this]
theorem identN {L : List UInt8} {at_1 : Int} {p : api_PortID} (h0 : 0 ≤ at_1) (h2 : at_1 + 10 ≤ (L.length : Int)) (hb : L.length < 1000000) (hv : 0 ≤ p.fClock) (hv2 : p.fClock < 18446744073709551616) (hp : 0 ≤ p.fPort) (hp2 : p.fPort ≤ 65535)
  (h : (L.take (at_1 + 8).toNat).drop at_1.toNat = be (IntKind.i64.wrap p.fClock) 8) (h' : (L.take (at_1 + 8 + 2).toNat).drop (at_1 + 8).toNat = be p.fPort 2) : K75 L at_1 = some ((p, (true, ())), (), ()) := by
 unfold K75 K75.gen
 have e : isub .i64 (ofN L.length) at_1 = (L.length : Int) - at_1 := isub_of (a := (L.length : Int)) (by omega)
 have e2 : iadd .i64 at_1 8 = at_1 + 8 := iadd_of (by omega)
 rw [ilt_false (show ¬ at_1 < 0 by omega), ilt_false (show ¬ ((L.length : Nat) : Int) < at_1 by omega), e, ilt_false (show ¬ (L.length : Int) - at_1 < 10 by omega)]
 simp only [cond_false, oelim_some]
 rw [idN h0 (by omega) hb hv hv2 h, e2, getN 2 (by omega) (by omega) (by omega) (by omega) (by omega) hb h']
 simp only [oelim_some]
 rw [show p.fPort % 256 ^ 2 = p.fPort by omega]
theorem may_stamp {t : Int} (h0 : 0 ≤ t) (h1 : t ≤ 4000000000000000) : K133 t = some ((true, ()), (), ()) := by
 unfold K133 K133.gen
 rw [ile_true h0, ile_true h1]; rfl
theorem stampN {L : List UInt8} {at_1 t : Int} (h0 : 0 ≤ at_1) (h2 : at_1 + 10 ≤ (L.length : Int)) (hb : L.length < 1000000) (ht : 0 ≤ t) (ht2 : t ≤ 4000000000000000)
  (h : (L.take (at_1 + 6).toNat).drop at_1.toNat = be (t / 1000000000) 6) (h' : (L.take (at_1 + 6 + 4).toNat).drop (at_1 + 6).toNat = be (t % 1000000000) 4) : K132 L at_1 = some ((t, (true, ())), (), ()) := by
 unfold K132 K132.gen
 have e : isub .i64 (ofN L.length) at_1 = (L.length : Int) - at_1 := isub_of (a := (L.length : Int)) (by omega)
 have e2 : iadd .i64 at_1 6 = at_1 + 6 := iadd_of (by omega)
 rw [ilt_false (show ¬ at_1 < 0 by omega), ilt_false (show ¬ ((L.length : Nat) : Int) < at_1 by omega), e, ilt_false (show ¬ (L.length : Int) - at_1 < 10 by omega)]
 simp only [cond_false, oelim_some]
 rw [getN 6 h0 (by omega) (by omega) (by omega) (by omega) hb h, e2, getN 4 (by omega) (by omega) (by omega) (by omega) (by omega) hb h']
 simp only [oelim_some]
 have a1 : t / 1000000000 % 256 ^ 6 = t / 1000000000 := by omega
 have a2 : t % 1000000000 % 256 ^ 4 = t % 1000000000 := by omega
 have a3 : imul .i64 (t / 1000000000) 1000000000 = t / 1000000000 * 1000000000 := imul_of (by omega)
 have a4 : iadd .i64 (t / 1000000000 * 1000000000) (t % 1000000000) = t := by rw [iadd_of (by omega)]; omega
 rw [a1, a2, a3, a4, ile_false (show ¬ 1000000000 ≤ t % 1000000000 by omega), ilt_false (show ¬ 4000000 < t / 1000000000 by omega), may_stamp ht ht2]
 rfl
theorem putS (b : List UInt8) {t : Int} (h0 : 0 ≤ t) (h1 : t ≤ 4000000000000000) (h : b.length < 900000) : K135 b t = some ((b ++ be (t / 1000000000) 6 ++ be (t % 1000000000) 4, ()), (), ()) := by
 unfold K135 K135.gen
 rw [may_stamp h0 h1]
 simp only [oelim_some, Bool.not_true, cond_false]
 have e1 : iquo .i64 t 1000000000 = t / 1000000000 := by
  unfold iquo
  rw [Int.tdiv_eq_ediv_of_nonneg h0, iwrap]; omega
 have e2 : irem t 1000000000 = t % 1000000000 := by
  unfold irem
  rw [Int.tmod_eq_emod_of_nonneg h0]
 rw [e1, put6 b _ (by omega)]
 simp only [oelim_some]
 rw [e2, put4 _ _ (by rw [List.length_append, be_length]; omega)]
 rfl
theorem putI (b : List UInt8) (p : api_PortID) (h : b.length < 900000) : K77 b p = some ((b ++ be (IntKind.i64.wrap p.fClock) 8 ++ be p.fPort 2, ()), (), ()) := by
 unfold K77 K77.gen K94 K94.gen
 rw [put8 b _ (by omega)]
 simp only [oelim_some]
 rw [put2 _ _ (by rw [List.length_append, be_length]; omega)]
 rfl
abbrev bs (l : List UInt8) : ByteArray := ByteArray.mk l.toArray
theorem bs_data (l : List UInt8) : (bs l).data.toList = l := by show l.toArray.toList = l; simp
theorem bs_eta (s : ByteArray) : bs s.data.toList = s := by cases s; simp [bs]
theorem bs_ext {s t : ByteArray} (h : s.data.toList = t.data.toList) : s = t := by rw [← bs_eta s, ← bs_eta t, h]
theorem bs_size (l : List UInt8) : (bs l).size = l.length := by show l.toArray.size = _; simp
theorem bs_append (a b : List UInt8) : bs a ++ bs b = bs (a ++ b) := by
 apply bs_ext
 rw [ByteArray.data_append, Array.toList_append, bs_data, bs_data, bs_data]
abbrev api_PortID.z : api_PortID := api_PortID.mk 0 0
def msgH (ty ctl len dom fl co cl po sq lg : Int) : List UInt8 :=
 byteI ty :: UInt8.ofNat (Int.toNat 18) :: [] ++ be len 2 ++ be dom 1 ++ be 0 1 ++ be fl 2 ++ be co 8 ++ be 0 4 ++ be (IntKind.i64.wrap cl) 8 ++ be po 2 ++ be sq 2 ++ be ctl 1 ++ be lg 1
def msgS (st : Int) : List UInt8 := [] ++ be (st / 1000000000) 6 ++ be (st % 1000000000) 4
structure HdOk (dom fl co : Int) (src : api_PortID) (sq lg : Int) : Prop where
 d0 : 0 ≤ dom
 d1 : dom ≤ 255
 f0 : 0 ≤ fl
 f1 : fl ≤ 65535
 c0 : -9223372036854775808 ≤ co
 c1 : co < 9223372036854775808
 k0 : 0 ≤ src.fClock
 k1 : src.fClock < 18446744073709551616
 p0 : 0 ≤ src.fPort
 p1 : src.fPort ≤ 65535
 s0 : 0 ≤ sq
 s1 : sq ≤ 65535
 l0 : -128 ≤ lg
 l1 : lg ≤ 127
theorem hin_ok {v a b : Int} (h0 : a ≤ v) (h1 : v ≤ b) : K73 v a b = some ((true, ()), (), ()) := by
 unfold K73 K73.gen
 rw [ile_true h0, ile_true h1]; rfl
theorem Z1B {v a b : Int} (h0 : a ≤ v) (h1 : v ≤ b) : K4 v a b = some ((true, ()), (), ()) := by
 unfold K4 K4.gen
 rw [ile_true h0, ile_true h1]; rfl
theorem imay_ok {p : api_PortID} (h0 : 0 ≤ p.fPort) (h1 : p.fPort ≤ 65535) : K76 p = some ((true, ()), (), ()) := by
 unfold K76 K76.gen
 rw [ile_true h0, ile_true h1]; rfl
theorem hcheck_ok {m : api_Msg} (hk : K70 m.fType = some ((true, ()), (), ())) (h : HdOk m.fDomain m.fFlags m.fCorr m.fSource m.fSeq m.fLog) : K68 m = some ((true, ()), (), ()) := by
 unfold K68 K68.gen
 rw [hk, hin_ok h.d0 h.d1, hin_ok h.f0 h.f1, imay_ok h.p0 h.p1, hin_ok h.s0 h.s1, hin_ok h.l0 h.l1]
 rfl
theorem header_put {m : api_Msg} {len ctl : Int} (hk : K70 m.fType = some ((true, ()), (), ())) (hc : K72 m.fType = some ((ctl, ()), (), ())) (h : HdOk m.fDomain m.fFlags m.fCorr m.fSource m.fSeq m.fLog) (h0 : 34 ≤ len) (h1 : len ≤ 400) :
  K71 m len = some ((msgH m.fType ctl len m.fDomain m.fFlags m.fCorr m.fSource.fClock m.fSource.fPort m.fSeq m.fLog, (true, ())), (), ()) := by
 unfold K71 K71.gen
 rw [hcheck_ok hk h, hin_ok h0 h1]
 simp only [oelim_some, Bool.not_true, cond_false]
 rw [put2 _ _ (by simp)]
 simp only [oelim_some]
 rw [put1 _ _ (by simp [be_length])]
 simp only [oelim_some]
 rw [put1 _ _ (by simp [be_length])]
 simp only [oelim_some]
 rw [put2 _ _ (by simp [be_length])]
 simp only [oelim_some]
 rw [put8 _ _ (by simp [be_length])]
 simp only [oelim_some]
 rw [put4 _ _ (by simp [be_length])]
 simp only [oelim_some]
 rw [putI _ _ (by simp [be_length])]
 simp only [oelim_some]
 rw [put2 _ _ (by simp [be_length]), hc]
 simp only [oelim_some]
 rw [put1 _ _ (by simp [be_length])]
 simp only [oelim_some]
 rw [put1 _ _ (by simp [be_length])]
 rfl
theorem tlv_put_nil (b : List UInt8) : K147 b [] = some ((b, (true, ())), (), ()) := by
 have e3 : (bif le3 (ofN (0 : Nat)) (ofN b.length) b.length then ieq (ofN b.length) (ofN b.length) else false) = true := by
  simp [le3, ile, ieq]
 have e4 : List.drop (ofN (0 : Nat)).toNat (List.take (ofN b.length).toNat b) = b := by simp
 unfold K147 K147.gen
 simp only [e3, e4, cond_true]
 have h : K147.F0 ((b, b, [], ofN ([] : List api_Tlv).length, 0, ()), ()) = some (.inl ((b, ()), ())) := by
  unfold K147.F0
  refine loop_to (fun _ => ((b, b, [], ofN ([] : List api_Tlv).length, 0, ()), ())) 0 _ (by show 0 < 1000000 + _; omega) (fun i hi => absurd hi (Nat.not_lt_zero _)) ?_
  unfold K147.step0
  rw [ilt_false (show ¬ (0 : Int) < ofN ([] : List api_Tlv).length by decide)]
  rfl
 have h8 : ilt 8 (ofN ([] : List api_Tlv).length) = false := by decide
 rw [h8]
 simp only [cond_false]
 rw [h]
 rfl
theorem tlv_get_nil (L : List UInt8) (n : Nat) (h : L.length = n) : K143 L (n : Int) = some (([], (0, ())), (), ()) := by
 unfold K143 K143.gen
 rw [ilt_false (show ¬ (n : Int) < 0 by omega), ilt_false (show ¬ ((L.length : Nat) : Int) < (n : Int) by omega)]
 simp only [cond_false, oelim_some]
 have hl : K143.F1 ((L, (n : Int), lnil api_Tlv, 0, ()), ()) = some ((lnil api_Tlv, 0, ()), ()) := by
  unfold K143.F1
  refine loop_to (step := K143.step1 _) (fun _ => ((L, (n : Int), lnil api_Tlv, 0, ()), ())) 0 _ (by show 0 < 1000000 + _; omega) (fun i hi => absurd hi (Nat.not_lt_zero _)) ?_
  unfold K143.step1
  rw [ilt_false (show ¬ (n : Int) < ((L.length : Nat) : Int) by omega)]
  rfl
 rw [hl]
 rfl
def msgA (ty ctl dom fl co : Int) (src : api_PortID) (sq lg st : Int) : List UInt8 := msgH ty ctl 44 dom fl co src.fClock src.fPort sq lg ++ msgS st
abbrev msg0 (ty dom fl co : Int) (src : api_PortID) (sq lg st : Int) (tgt : api_PortID) : api_Msg := api_Msg.mk ty dom fl co src sq lg st tgt 0 0 (api_Quality.mk 0 0 0) 0 0 0 0 0 0 0
theorem put_A {ty ctl dom fl co sq lg st : Int} {src : api_PortID} (hty : (ty = 0 ∧ ctl = 0) ∨ (ty = 1 ∧ ctl = 1) ∨ (ty = 8 ∧ ctl = 2)) (h : HdOk dom fl co src sq lg) (ht : 0 ≤ st) (ht2 : st ≤ 4000000000000000) :
  K67 (msg0 ty dom fl co src sq lg st api_PortID.z) [] = some ((bs (msgA ty ctl dom fl co src sq lg st), (true, ())), (), ()) := by
 have hk : K70 ty = some ((true, ()), (), ()) := by rcases hty with ⟨rfl, rfl⟩ | ⟨rfl, rfl⟩ | ⟨rfl, rfl⟩ <;> kernel_rfl
 have hc : K72 ty = some ((ctl, ()), (), ()) := by rcases hty with ⟨rfl, rfl⟩ | ⟨rfl, rfl⟩ | ⟨rfl, rfl⟩ <;> kernel_rfl
 have hst : K6 ty = some ((true, ()), (), ()) := by rcases hty with ⟨rfl, rfl⟩ | ⟨rfl, rfl⟩ | ⟨rfl, rfl⟩ <;> kernel_rfl
 have htg : K7 ty = some ((false, ()), (), ()) := by rcases hty with ⟨rfl, rfl⟩ | ⟨rfl, rfl⟩ | ⟨rfl, rfl⟩ <;> kernel_rfl
 have n2 : ieq ty 2 = false := by rcases hty with ⟨rfl, rfl⟩ | ⟨rfl, rfl⟩ | ⟨rfl, rfl⟩ <;> rfl
 have n11 : ieq ty 11 = false := by rcases hty with ⟨rfl, rfl⟩ | ⟨rfl, rfl⟩ | ⟨rfl, rfl⟩ <;> rfl
 have n13 : ieq ty 13 = false := by rcases hty with ⟨rfl, rfl⟩ | ⟨rfl, rfl⟩ | ⟨rfl, rfl⟩ <;> rfl
 have hown : K5 (msg0 ty dom fl co src sq lg st api_PortID.z) = some ((msg0 ty dom fl co src sq lg st api_PortID.z, ()), (), ()) := by
  rcases hty with ⟨rfl, rfl⟩ | ⟨rfl, rfl⟩ | ⟨rfl, rfl⟩ <;> kernel_rfl
 have hq : K115 (api_Quality.mk 0 0 0) = some ((true, ()), (), ()) := by kernel_rfl
 have hchk : K0 (msg0 ty dom fl co src sq lg st api_PortID.z) = some ((true, ()), (), ()) := by
  unfold K0 K0.gen
  rw [hcheck_ok hk h, hown, may_stamp ht ht2, imay_ok (p := api_PortID.z) (by decide) (by decide), hq]
  simp only [oelim_some, ieq_self, cond_true, Z1B (show (-32768 : Int) ≤ 0 by decide) (show (0 : Int) ≤ 32767 by decide), Z1B (show (0 : Int) ≤ 0 by decide) (show (0 : Int) ≤ 255 by decide), Z1B (show (0 : Int) ≤ 0 by decide) (show (0 : Int) ≤ 65535 by decide), Z1B (show (0 : Int) ≤ 0 by decide) (show (0 : Int) ≤ 15 by decide)]
 have hb : K3 (lnil UInt8) (msg0 ty dom fl co src sq lg st api_PortID.z) = some ((msgS st, (true, ())), (), ()) := by
  unfold K3 K3.gen
  rw [hchk, hst]
  simp only [oelim_some, Bool.not_true, cond_false, cond_true, htg, n2, n11, n13]
  rw [putS _ ht ht2 (by simp)]
  rcases hty with ⟨rfl, rfl⟩ | ⟨rfl, rfl⟩ | ⟨rfl, rfl⟩ <;> kernel_rfl
 unfold K67 K67.gen
 rw [hb]
 simp only [oelim_some, Bool.not_true, cond_false]
 rw [tlv_put_nil]
 simp only [oelim_some, Bool.not_true, cond_false]
 rw [show iadd .i64 34 (ofN (msgS st).length) = 44 by kernel_rfl, header_put (len := 44) hk hc h (by decide) (by decide)]
 simp only [oelim_some, Bool.not_true, cond_false]
 rw [show Nat.ble ((bs (msgH ty ctl 44 dom fl co src.fClock src.fPort sq lg)).size + (bs (msgS st)).size) 9223372036854775807 = true by rw [bs_size, bs_size]; kernel_rfl]
 simp only [cond_true]
 show some ((bs _ ++ bs _, _), _) = _
 rw [bs_append]
 rfl
theorem get_A {ty ctl dom fl co sq lg st : Int} {src : api_PortID} (hty : (ty = 0 ∧ ctl = 0) ∨ (ty = 1 ∧ ctl = 1) ∨ (ty = 8 ∧ ctl = 2)) (h : HdOk dom fl co src sq lg) (ht : 0 ≤ st) (ht2 : st ≤ 4000000000000000) :
  K65 (bs (msgA ty ctl dom fl co src sq lg st)) = some ((msg0 ty dom fl co src sq lg st api_PortID.z, ([], (0, ()))), (), ()) := by
 have hlen : (msgA ty ctl dom fl co src sq lg st).length = 44 := by kernel_rfl
 have g2 : K91 (msgA ty ctl dom fl co src sq lg st) 2 2 = some ((44, (true, ())), (), ()) := getN (v := 44) 2 (by decide) (by decide) (by decide) (by decide) (by omega) (by omega) (by kernel_rfl)
 have g6 : K91 (msgA ty ctl dom fl co src sq lg st) 6 2 = some ((fl, (true, ())), (), ()) := by
  rw [getN (v := fl) 2 (by decide) (by decide) (by decide) (by decide) (by omega) (by omega) (by kernel_rfl)]
  rw [show fl % 256 ^ 2 = fl by have := h.f0; have := h.f1; omega]
 have g8 : K95 (msgA ty ctl dom fl co src sq lg st) 8 8 = some ((co, (true, ())), (), ()) := by
  rw [sgnN (v := co) 8 (by decide) (by decide) (by decide) (by decide) (by omega) (by omega) (by kernel_rfl), sgn8]
  rw [show IntKind.i64.wrap (co % 256 ^ 8) = co by have := h.c0; have := h.c1; rw [iwrap]; omega]
 have g20 : K75 (msgA ty ctl dom fl co src sq lg st) 20 = some ((src, (true, ())), (), ()) := identN (by decide) (by omega) (by omega) h.k0 h.k1 h.p0 h.p1 (by kernel_rfl) (by kernel_rfl)
 have g30 : K91 (msgA ty ctl dom fl co src sq lg st) 30 2 = some ((sq, (true, ())), (), ()) := by
  rw [getN (v := sq) 2 (by decide) (by decide) (by decide) (by decide) (by omega) (by omega) (by kernel_rfl)]
  rw [show sq % 256 ^ 2 = sq by have := h.s0; have := h.s1; omega]
 have g33 : K95 (msgA ty ctl dom fl co src sq lg st) 33 1 = some ((lg, (true, ())), (), ()) := by
  rw [sgnN (v := lg) 1 (by decide) (by decide) (by decide) (by decide) (by omega) (by omega) (by kernel_rfl)]
  rw [show sgn (lg % 256 ^ 1) 1 = lg from sgn1 lg h.l0 h.l1]
 have g34 : K132 (msgA ty ctl dom fl co src sq lg st) 34 = some ((st, (true, ())), (), ()) := stampN (by decide) (by omega) (by omega) ht ht2 (by kernel_rfl) (by kernel_rfl)
 have hty0 : IntKind.i64.wrap (ofN (UInt8.toNat (List.getD (msgA ty ctl dom fl co src sq lg st) (Int.toNat 0) (0 : D UC.u8)))) = ty := by
  rcases hty with ⟨rfl, rfl⟩ | ⟨rfl, rfl⟩ | ⟨rfl, rfl⟩ <;> kernel_rfl
 have hd4 : IntKind.i64.wrap (ofN (UInt8.toNat (List.getD (msgA ty ctl dom fl co src sq lg st) (Int.toNat 4) (0 : D UC.u8)))) = dom := by
  have : List.getD (msgA ty ctl dom fl co src sq lg st) (Int.toNat 4) (0 : D UC.u8) = byteI (ishr .i64 dom (8 * ((0 : Nat) : Int))) := by kernel_rfl
  rw [this, show ofN (byteI (ishr .i64 dom (8 * ((0 : Nat) : Int)))).toNat = ((byteI (ishr .i64 dom (8 * ((0 : Nat) : Int)))).toNat : Int) from rfl, byteI_toNat, shr8 dom 0 (by decide)]
  have := h.d0; have := h.d1
  rw [iwrap]; omega
 have hk : K70 ty = some ((true, ()), (), ()) := by rcases hty with ⟨rfl, rfl⟩ | ⟨rfl, rfl⟩ | ⟨rfl, rfl⟩ <;> kernel_rfl
 have hh : K69 (msgA ty ctl dom fl co src sq lg st) = some ((msg0 ty dom fl co src sq lg 0 api_PortID.z, (44, (0, ()))), (), ()) := by
  unfold K69 K69.gen
  rw [g2, g6, g8, g20, g30, g33, hty0, hd4, hk, hlen]
  kernel_rfl
 have hb : K1 (msg0 ty dom fl co src sq lg 0 api_PortID.z) (msgA ty ctl dom fl co src sq lg st) 34 = some ((msg0 ty dom fl co src sq lg st api_PortID.z, (44, (0, ()))), (), ()) := by
  unfold K1 K1.gen
  rw [g34, hlen]
  rcases hty with ⟨rfl, rfl⟩ | ⟨rfl, rfl⟩ | ⟨rfl, rfl⟩ <;> kernel_rfl
 unfold K65 K65.gen
 rw [bs_data, hh]
 simp only [oelim_some, ine_self, cond_false]
 rw [hb]
 simp only [oelim_some, ine_self, cond_false]
 rw [show K143 (msgA ty ctl dom fl co src sq lg st) 44 = _ from tlv_get_nil _ 44 hlen]
 rfl
theorem i_2_1 : ieq 2 1 = false := rfl
theorem i_2_2 : ieq 2 2 = true := rfl
theorem n_0_0 : ine 0 0 = false := rfl
theorem here_A {ty ctl dom fl co sq lg st d : Int} {src : api_PortID} (hty : (ty = 0 ∧ ctl = 0) ∨ (ty = 1 ∧ ctl = 1) ∨ (ty = 8 ∧ ctl = 2)) (h : HdOk dom fl co src sq lg) (ht : 0 ≤ st) (ht2 : st ≤ 4000000000000000) (hd : d = dom) :
  K66 (bs (msgA ty ctl dom fl co src sq lg st)) d = some ((msg0 ty dom fl co src sq lg st api_PortID.z, ([], (0, ()))), (), ()) := by
 unfold K66 K66.gen
 rw [get_A hty h ht ht2]
 simp only [oelim_some, ieq_self, cond_true]
 rw [ine_false (show dom = d from hd.symm)]
 rfl
theorem now_ok {t : Int} (h0 : 0 ≤ t) (h1 : t ≤ 4000000000000000) : Z4 true 0 (Z4 false t 4000000000000000) = t := by
 simp only [Z4, cond_true, cond_false, imin, imax]
 split <;> split <;> omega
theorem fset_same {α : Type} (f : Nat → α) (i : Nat) (x : α) : fset f i x i = x := by simp [fset]
abbrev Gs := (Fm foreign_Table) × (Fm delay_Exchange) × (Fm peer_Exchange) × (Fm median_Filter) × (Fm seq_Match) × (Fm (List (api_PortID × List Int))) × Unit
abbrev NT := (Fm clock_Clock) × (Fm servo_Servo) × Gs
theorem awake_true : K82.A = some () := by kernel_rfl
def msgB (dom fl co : Int) (src : api_PortID) (sq lg st : Int) (tg : api_PortID) : List UInt8 := msgH 9 3 54 dom fl co src.fClock src.fPort sq lg ++ (msgS st ++ be (IntKind.i64.wrap tg.fClock) 8 ++ be tg.fPort 2)
theorem put_B {dom fl co sq lg st : Int} {src tg : api_PortID} (hg0 : 0 ≤ tg.fClock) (hg1 : tg.fClock < 18446744073709551616) (hg2 : 0 ≤ tg.fPort) (hg3 : tg.fPort ≤ 65535) (h : HdOk dom fl co src sq lg) (ht : 0 ≤ st) (ht2 : st ≤ 4000000000000000) :
  K67 (msg0 9 dom fl co src sq lg st tg) [] = some ((bs (msgB dom fl co src sq lg st tg), (true, ())), (), ()) := by
 have hk : K70 9 = some ((true, ()), (), ()) := by kernel_rfl
 have hc : K72 9 = some ((3, ()), (), ()) := by kernel_rfl
 have hst : K6 9 = some ((true, ()), (), ()) := by kernel_rfl
 have htg : K7 9 = some ((true, ()), (), ()) := by kernel_rfl
 have n2 : ieq 9 2 = false := by rfl
 have n11 : ieq 9 11 = false := by rfl
 have n13 : ieq 9 13 = false := by rfl
 have hown : K5 (msg0 9 dom fl co src sq lg st tg) = some ((msg0 9 dom fl co src sq lg st tg, ()), (), ()) := by
  kernel_rfl
 have hq : K115 (api_Quality.mk 0 0 0) = some ((true, ()), (), ()) := by kernel_rfl
 have hchk : K0 (msg0 9 dom fl co src sq lg st tg) = some ((true, ()), (), ()) := by
  unfold K0 K0.gen
  rw [hcheck_ok hk h, hown, may_stamp ht ht2, imay_ok (p := tg) hg2 hg3, hq]
  simp only [oelim_some, ieq_self, cond_true, Z1B (show (-32768 : Int) ≤ 0 by decide) (show (0 : Int) ≤ 32767 by decide), Z1B (show (0 : Int) ≤ 0 by decide) (show (0 : Int) ≤ 255 by decide), Z1B (show (0 : Int) ≤ 0 by decide) (show (0 : Int) ≤ 65535 by decide), Z1B (show (0 : Int) ≤ 0 by decide) (show (0 : Int) ≤ 15 by decide)]
 have hb : K3 (lnil UInt8) (msg0 9 dom fl co src sq lg st tg) = some ((msgS st ++ be (IntKind.i64.wrap tg.fClock) 8 ++ be tg.fPort 2, (true, ())), (), ()) := by
  unfold K3 K3.gen
  rw [hchk, hst]
  simp only [oelim_some, Bool.not_true, cond_false, cond_true, htg, n2, n11, n13]
  rw [putS _ ht ht2 (by simp)]
  simp only [oelim_some, cond_true, htg]
  rw [putI _ _ (by simp [be_length])]
  kernel_rfl
 unfold K67 K67.gen
 rw [hb]
 simp only [oelim_some, Bool.not_true, cond_false]
 rw [tlv_put_nil]
 simp only [oelim_some, Bool.not_true, cond_false]
 rw [show iadd .i64 34 (ofN (msgS st ++ be (IntKind.i64.wrap tg.fClock) 8 ++ be tg.fPort 2).length) = 54 by kernel_rfl, header_put (len := 54) hk hc h (by decide) (by decide)]
 simp only [oelim_some, Bool.not_true, cond_false]
 rw [show Nat.ble ((bs (msgH 9 3 54 dom fl co src.fClock src.fPort sq lg)).size + (bs (msgS st ++ be (IntKind.i64.wrap tg.fClock) 8 ++ be tg.fPort 2)).size) 9223372036854775807 = true by rw [bs_size, bs_size]; kernel_rfl]
 simp only [cond_true]
 show some ((bs _ ++ bs _, _), _) = _
 rw [bs_append]
 rfl
theorem get_B {dom fl co sq lg st : Int} {src tg : api_PortID} (hg0 : 0 ≤ tg.fClock) (hg1 : tg.fClock < 18446744073709551616) (hg2 : 0 ≤ tg.fPort) (hg3 : tg.fPort ≤ 65535) (h : HdOk dom fl co src sq lg) (ht : 0 ≤ st) (ht2 : st ≤ 4000000000000000) :
  K65 (bs (msgB dom fl co src sq lg st tg)) = some ((msg0 9 dom fl co src sq lg st tg, ([], (0, ()))), (), ()) := by
 have hlen : (msgB dom fl co src sq lg st tg).length = 54 := by kernel_rfl
 have g2 : K91 (msgB dom fl co src sq lg st tg) 2 2 = some ((54, (true, ())), (), ()) := getN (v := 54) 2 (by decide) (by decide) (by decide) (by decide) (by omega) (by omega) (by kernel_rfl)
 have g6 : K91 (msgB dom fl co src sq lg st tg) 6 2 = some ((fl, (true, ())), (), ()) := by
  rw [getN (v := fl) 2 (by decide) (by decide) (by decide) (by decide) (by omega) (by omega) (by kernel_rfl)]
  rw [show fl % 256 ^ 2 = fl by have := h.f0; have := h.f1; omega]
 have g8 : K95 (msgB dom fl co src sq lg st tg) 8 8 = some ((co, (true, ())), (), ()) := by
  rw [sgnN (v := co) 8 (by decide) (by decide) (by decide) (by decide) (by omega) (by omega) (by kernel_rfl), sgn8]
  rw [show IntKind.i64.wrap (co % 256 ^ 8) = co by have := h.c0; have := h.c1; rw [iwrap]; omega]
 have g20 : K75 (msgB dom fl co src sq lg st tg) 20 = some ((src, (true, ())), (), ()) := identN (by decide) (by omega) (by omega) h.k0 h.k1 h.p0 h.p1 (by kernel_rfl) (by kernel_rfl)
 have g30 : K91 (msgB dom fl co src sq lg st tg) 30 2 = some ((sq, (true, ())), (), ()) := by
  rw [getN (v := sq) 2 (by decide) (by decide) (by decide) (by decide) (by omega) (by omega) (by kernel_rfl)]
  rw [show sq % 256 ^ 2 = sq by have := h.s0; have := h.s1; omega]
 have g33 : K95 (msgB dom fl co src sq lg st tg) 33 1 = some ((lg, (true, ())), (), ()) := by
  rw [sgnN (v := lg) 1 (by decide) (by decide) (by decide) (by decide) (by omega) (by omega) (by kernel_rfl)]
  rw [show sgn (lg % 256 ^ 1) 1 = lg from sgn1 lg h.l0 h.l1]
 have g34 : K132 (msgB dom fl co src sq lg st tg) 34 = some ((st, (true, ())), (), ()) := stampN (by decide) (by omega) (by omega) ht ht2 (by kernel_rfl) (by kernel_rfl)
 have hty0 : IntKind.i64.wrap (ofN (UInt8.toNat (List.getD (msgB dom fl co src sq lg st tg) (Int.toNat 0) (0 : D UC.u8)))) = 9 := by
  kernel_rfl
 have hd4 : IntKind.i64.wrap (ofN (UInt8.toNat (List.getD (msgB dom fl co src sq lg st tg) (Int.toNat 4) (0 : D UC.u8)))) = dom := by
  have : List.getD (msgB dom fl co src sq lg st tg) (Int.toNat 4) (0 : D UC.u8) = byteI (ishr .i64 dom (8 * ((0 : Nat) : Int))) := by kernel_rfl
  rw [this, show ofN (byteI (ishr .i64 dom (8 * ((0 : Nat) : Int)))).toNat = ((byteI (ishr .i64 dom (8 * ((0 : Nat) : Int)))).toNat : Int) from rfl, byteI_toNat, shr8 dom 0 (by decide)]
  have := h.d0; have := h.d1
  rw [iwrap]; omega
 have g44 : K75 (msgB dom fl co src sq lg st tg) 44 = some ((tg, (true, ())), (), ()) := identN (by decide) (by omega) (by omega) hg0 hg1 hg2 hg3 (by kernel_rfl) (by kernel_rfl)
 have hk : K70 9 = some ((true, ()), (), ()) := by kernel_rfl
 have hh : K69 (msgB dom fl co src sq lg st tg) = some ((msg0 9 dom fl co src sq lg 0 api_PortID.z, (54, (0, ()))), (), ()) := by
  unfold K69 K69.gen
  rw [g2, g6, g8, g20, g30, g33, hty0, hd4, hk, hlen]
  kernel_rfl
 have hb : K1 (msg0 9 dom fl co src sq lg 0 api_PortID.z) (msgB dom fl co src sq lg st tg) 34 = some ((msg0 9 dom fl co src sq lg st tg, (54, (0, ()))), (), ()) := by
  unfold K1 K1.gen
  rw [g34, hlen, show iadd .i64 34 10 = 44 from rfl, g44]
  kernel_rfl
 unfold K65 K65.gen
 rw [bs_data, hh]
 simp only [oelim_some, ine_self, cond_false]
 rw [hb]
 simp only [oelim_some, ine_self, cond_false]
 rw [show K143 (msgB dom fl co src sq lg st tg) 54 = _ from tlv_get_nil _ 54 hlen]
 rfl
section
open Ieee
theorem log2_shl {a : Nat} (j : Nat) (h : 0 < a) : (a <<< j).log2 = a.log2 + j := by
 have h0 : a ≠ 0 := by omega
 have h1 : a <<< j ≠ 0 := by rw [Nat.shiftLeft_eq]; exact Nat.mul_ne_zero h0 (Nat.ne_of_gt (Nat.two_pow_pos j))
 rw [Nat.log2_eq_iff h1]
 have h2 := (Nat.log2_eq_iff (k := a.log2) h0).1 rfl
 rw [Nat.shiftLeft_eq]
 constructor
 ·rw [Nat.pow_add]; exact Nat.mul_le_mul_right _ h2.1
 ·rw [show a.log2 + j + 1 = (a.log2 + 1) + j by omega, Nat.pow_add]
  exact Nat.mul_lt_mul_of_pos_right h2.2 (Nat.two_pow_pos j)
theorem cut_exact (w : Toward) (neg : Bool) (hw : w = .even ∨ w = .zero) (n d : Nat) : Toward.cut w neg (n <<< d) d = n := by
 have hgap : 0 < 1 <<< min d ((n <<< d).log2 + 2) := by rw [Nat.shiftLeft_eq, Nat.one_mul]; exact Nat.two_pow_pos _
 unfold Toward.cut
 rcases Nat.eq_zero_or_pos n with h0 | h0
 ·subst h0
  simp only [Nat.zero_shiftLeft, Nat.zero_div, Nat.zero_mod]
  rcases hw with rfl | rfl <;> simp <;> omega
 ·have hm : min d ((n <<< d).log2 + 2) = d := by rw [log2_shl d h0]; omega
  rw [hm]
  have e1 : n <<< d / 1 <<< d = n := by rw [Nat.shiftLeft_eq, Nat.shiftLeft_eq, Nat.one_mul]; exact Nat.mul_div_cancel _ (Nat.two_pow_pos d)
  have e2 : n <<< d % 1 <<< d = 0 := by rw [Nat.shiftLeft_eq, Nat.shiftLeft_eq, Nat.one_mul]; exact Nat.mul_mod_left _ _
  simp only [e1, e2]
  rw [hm] at hgap
  rcases hw with rfl | rfl <;> simp <;> omega
theorem cut_0 (w : Toward) (neg : Bool) (hw : w = .even ∨ w = .zero) (n : Nat) : Toward.cut w neg n 0 = n := by
 have := cut_exact w neg hw n 0
 rwa [Nat.shiftLeft_zero] at this
def rungW (a : Nat) : Nat := (a.log2 + 1022) * 2 ^ 52 + a <<< (52 - a.log2)
theorem log2_52 {a : Nat} (h : 0 < a) (hb : a < 2 ^ 53) : a.log2 ≤ 52 := by
 have := (Nat.log2_lt (by omega : a ≠ 0)).2 hb
 omega
theorem shl_52 {a : Nat} (h : 0 < a) (hb : a < 2 ^ 53) : 2 ^ 52 ≤ a <<< (52 - a.log2) ∧ a <<< (52 - a.log2) < 2 ^ 53 := by
 have h1 := log2_52 h hb
 have h2 := log2_shl (52 - a.log2) h
 have h3 : a <<< (52 - a.log2) ≠ 0 := by rw [Nat.shiftLeft_eq]; exact Nat.mul_ne_zero (by omega) (Nat.ne_of_gt (Nat.two_pow_pos _))
 have h4 := (Nat.log2_eq_iff h3 (k := 52)).1 (by rw [h2]; omega)
 exact ⟨h4.1, h4.2⟩
theorem nearest_exact (neg : Bool) (a j : Nat) (ha : 0 < a) (hb : a < 2 ^ 53) : double.nearest neg (a <<< j) (-(j : Int)) = double.word neg (rungW a) := by
 have h1 := log2_52 ha hb
 have h2 := shl_52 ha hb
 have h0 : a <<< j ≠ 0 := by rw [Nat.shiftLeft_eq]; exact Nat.mul_ne_zero (by omega) (Nat.ne_of_gt (Nat.two_pow_pos j))
 unfold Format.nearest
 rw [if_neg h0, log2_shl j ha]
 have hl : double.leastPlace = -1074 := by decide
 have hf : double.fractionBits = 52 := rfl
 rw [hl, hf]
 have e1 : max (-(j : Int) + ((a.log2 + j : Nat) : Int) - ((52 : Nat) : Int)) (-1074) = (a.log2 : Int) - 52 := by omega
 simp only [e1]
 have e2 : ((a.log2 : Int) - 52 - -1074).toNat = a.log2 + 1022 := by omega
 rw [e2]
 have e3 : Toward.even.cut neg (a <<< j <<< (-(j : Int) - ((a.log2 : Int) - 52)).toNat) ((a.log2 : Int) - 52 - -(j : Int)).toNat = a <<< (52 - a.log2) := by
  by_cases hj : j ≤ 52 - a.log2
  ·rw [show (-(j : Int) - ((a.log2 : Int) - 52)).toNat = 52 - a.log2 - j by omega, show ((a.log2 : Int) - 52 - -(j : Int)).toNat = 0 by omega, cut_0 _ _ (.inl rfl), ← Nat.shiftLeft_add]
   congr 1; omega
  ·rw [show (-(j : Int) - ((a.log2 : Int) - 52)).toNat = 0 by omega, Nat.shiftLeft_zero]
   have : a <<< j = (a <<< (52 - a.log2)) <<< ((a.log2 : Int) - 52 - -(j : Int)).toNat := by rw [← Nat.shiftLeft_add]; congr 1; omega
   rw [this]
   exact cut_exact _ _ (.inl rfl) _ _
 rw [e3]
 have hbn : double.binade = 2 ^ 52 := rfl
 have hir : double.infRung = 2047 * 2 ^ 52 := rfl
 rw [hbn, hir, Nat.min_eq_left]
 ·unfold rungW; exact rfl
 ·obtain ⟨_, h3⟩ := h2
  clear e3 e2 e1
  generalize a <<< (52 - a.log2) = k at *
  generalize a.log2 = l at *
  clear h0 hl hf hbn hir
  omega
theorem rung_lt {a : Nat} (ha : 0 < a) (hb : a < 2 ^ 53) : rungW a < 2 ^ 63 ∧ rungW a / 2 ^ 52 = a.log2 + 1023 ∧ rungW a % 2 ^ 52 + 2 ^ 52 = a <<< (52 - a.log2) := by
 have h1 := log2_52 ha hb
 obtain ⟨h2, h3⟩ := shl_52 ha hb
 unfold rungW
 generalize a <<< (52 - a.log2) = k at *
 generalize a.log2 = l at *
 refine ⟨?_, ?_, ?_⟩ <;> omega
theorem word_read (neg : Bool) (a : Nat) (ha : 0 < a) (hb : a < 2 ^ 53) : double.read (double.word neg (rungW a)) = .number neg (a <<< (52 - a.log2)) ((a.log2 : Int) - 52) := by
 obtain ⟨h1, h2, h3⟩ := rung_lt ha hb
 have h4 := log2_52 ha hb
 unfold Format.read
 have hs : double.signWeight = 2 ^ 63 := rfl
 have hbn : double.binade = 2 ^ 52 := rfl
 have hir : double.infRung = 2047 * 2 ^ 52 := rfl
 have hl : double.leastPlace = -1074 := by decide
 have hn : double.word neg (rungW a) / double.signWeight % 2 = neg.toNat ∧ double.word neg (rungW a) % double.signWeight = rungW a := by
  unfold Format.word
  rw [hs]
  cases neg <;> simp <;> omega
 simp only [hn.1, hn.2, hbn, hir, hl]
 generalize rungW a = r at *
 rw [if_neg (by omega), if_pos (by omega), h2]
 congr 1
 ·cases neg <;> rfl
 ·omega
 ·omega
def fW (n : Int) : Nat := floatOfInt .f64 n
theorem fW_zero : fW 0 = 0 := by decide
theorem fW_eq {n : Int} (h : n ≠ 0) (hb : n.natAbs < 2 ^ 53) : fW n = double.word (decide (n < 0)) (rungW n.natAbs) := by
 have := nearest_exact (decide (n < 0)) n.natAbs 0 (by omega) hb
 rw [Nat.shiftLeft_zero] at this
 exact this
theorem fW_read {n : Int} (hb : n.natAbs < 2 ^ 53) : ∃ (k : Nat), double.read (fW n) = .number (decide (n < 0)) (n.natAbs <<< k) (-(k : Int)) ∧ k ≤ 1074 := by
 by_cases h : n = 0
 ·subst h
  exact ⟨1074, by rw [fW_zero]; decide, by omega⟩
 ·have h1 := log2_52 (a := n.natAbs) (by omega) hb
  refine ⟨52 - n.natAbs.log2, ?_, by omega⟩
  rw [fW_eq h hb, word_read _ _ (by omega) hb]
  congr 1
  omega
theorem signed_eq (n : Int) (k u : Nat) : signed (decide (n < 0)) (n.natAbs <<< k) u = n * 2 ^ (k + u) := by
 unfold signed
 rw [← Nat.shiftLeft_add, Nat.shiftLeft_eq]
 have h2 : ((2 ^ (k + u) : Nat) : Int) = 2 ^ (k + u) := by simp
 by_cases h : n < 0
 ·rw [if_pos (by simpa using h)]
  rw [Int.natCast_mul, h2, show ((n.natAbs : Nat) : Int) = -n by omega, Int.neg_mul, Int.neg_neg]
 ·rw [if_neg (by simpa using h)]
  rw [Int.natCast_mul, h2, show ((n.natAbs : Nat) : Int) = n by omega]
theorem write_exact (n : Int) (k : Nat) (h : n ≠ 0) (hb : n.natAbs < 2 ^ 53) : double.write (.number (decide (n < 0)) (n.natAbs <<< k) (-(k : Int))) = fW n := by
 rw [fW_eq h hb]
 exact nearest_exact _ _ _ (by omega) hb
theorem fW_add {x y : Int} (hx : x.natAbs < 2 ^ 53) (hy : y.natAbs < 2 ^ 53) (hs : (x + y).natAbs < 2 ^ 53) : floatBits .add .f64 (fW x) (fW y) = some (fW (x + y)) := by
 obtain ⟨i, hi, hi'⟩ := fW_read hx
 obtain ⟨j, hj, hj'⟩ := fW_read hy
 show double.add (fW x) (fW y) = _
 unfold Format.add
 rw [hi, hj]
 unfold Datum.sum
 simp only [Option.map_some]
 rw [signed_eq, signed_eq]
 have hk : min (-(i : Int)) (-(j : Int)) = -((max i j : Nat) : Int) := by omega
 rw [hk, show i + (-(i : Int) - -((max i j : Nat) : Int)).toNat = max i j by omega, show j + (-(j : Int) - -((max i j : Nat) : Int)).toNat = max i j by omega, ← Int.add_mul]
 have hp : (0 : Int) < 2 ^ (max i j) := Int.pow_pos (by decide)
 by_cases h0 : x + y = 0
 ·rw [h0, Int.zero_mul, if_pos rfl]
  have : (decide (x < 0) && decide (y < 0)) = false := by
   by_cases hx0 : x < 0
   ·have : ¬ y < 0 := by omega
    simp [this]
   ·simp [hx0]
  rw [this, fW_zero]
  unfold Format.write Format.nearest Format.word
  simp
 ·have h1 : (x + y) * 2 ^ (max i j) ≠ 0 := Int.mul_ne_zero h0 (Int.ne_of_gt hp)
  rw [if_neg h1]
  have h2 : decide ((x + y) * 2 ^ (max i j) < 0) = decide (x + y < 0) := by
   by_cases hn : x + y < 0
   ·have := Int.mul_neg_of_neg_of_pos hn hp
    simp [hn, this]
   ·have := Int.mul_nonneg (show 0 ≤ x + y by omega) (Int.le_of_lt hp)
    simp [hn]; omega
  have h3 : ((x + y) * 2 ^ (max i j)).natAbs = (x + y).natAbs <<< (max i j) := by
   rw [Int.natAbs_mul, Nat.shiftLeft_eq, Int.natAbs_pow]; rfl
  rw [h2, h3, write_exact _ _ h0 hs]
theorem fW_mul1 {x : Int} (hx : x.natAbs < 2 ^ 53) : floatBits .mul .f64 (fW x) (fW 1) = some (fW x) := by
 obtain ⟨i, hi, hi'⟩ := fW_read hx
 have h1 : double.read (fW 1) = .number false (1 <<< 52) (-52) := by decide
 show double.mul (fW x) (fW 1) = _
 unfold Format.mul
 rw [hi, h1]
 unfold Datum.product
 simp only [Option.map_some]
 have e : x.natAbs <<< i * 1 <<< 52 = x.natAbs <<< (i + 52) := by
  rw [Nat.shiftLeft_eq, Nat.shiftLeft_eq, Nat.shiftLeft_eq, Nat.one_mul, Nat.mul_assoc, ← Nat.pow_add]
 rw [e, show (-(i : Int) + -52) = -((i + 52 : Nat) : Int) by omega]
 by_cases h0 : x = 0
 ·subst h0
  rw [fW_zero]
  unfold Format.write Format.nearest Format.word
  simp
 ·rw [show (decide (x < 0) ^^ false) = decide (x < 0) by simp, write_exact _ _ h0 hx]
theorem fW_sub {x y : Int} (hx : x.natAbs < 2 ^ 53) (hy : y.natAbs < 2 ^ 53) : ∃ r, floatBits .sub .f64 (fW x) (fW y) = some r := by
 obtain ⟨i, hi, hi'⟩ := fW_read hx
 obtain ⟨j, hj, hj'⟩ := fW_read hy
 have : ∃ r, double.sub (fW x) (fW y) = some r := by
  unfold Format.sub
  rw [hi, hj]
  exact ⟨_, rfl⟩
 exact this
theorem fW_order {x y : Int} (hx : x.natAbs < 2 ^ 53) (hy : y.natAbs < 2 ^ 53) : (FloatKind.f64.format).order (fW x) (fW y) = some (compare x y) := by
 obtain ⟨i, hi, hi'⟩ := fW_read hx
 obtain ⟨j, hj, hj'⟩ := fW_read hy
 show double.order (fW x) (fW y) = _
 unfold Format.order
 rw [hi, hj]
 unfold Datum.order
 simp only []
 rw [signed_eq, signed_eq]
 have hk : min (-(i : Int)) (-(j : Int)) = -((max i j : Nat) : Int) := by omega
 rw [hk, show i + (-(i : Int) - -((max i j : Nat) : Int)).toNat = max i j by omega, show j + (-(j : Int) - -((max i j : Nat) : Int)).toNat = max i j by omega]
 have hp : (0 : Int) < 2 ^ (max i j) := Int.pow_pos (by decide)
 generalize (2 : Int) ^ (max i j) = p at *
 congr 1
 rcases Int.lt_trichotomy x y with h | h | h
 ·rw [Int.compare_eq_lt.2 h, Int.compare_eq_lt.2 (Int.mul_lt_mul_of_pos_right h hp)]
 ·subst h
  rw [Int.compare_eq_eq.2 rfl, Int.compare_eq_eq.2 rfl]
 ·rw [Int.compare_eq_gt.2 h, Int.compare_eq_gt.2 (Int.mul_lt_mul_of_pos_right h hp)]
theorem fW_integral {x : Int} (hx : x.natAbs < 2 ^ 53) : (double.read (fW x)).integral .zero = .number (decide (x < 0)) x.natAbs 0 := by
 obtain ⟨i, hi, hi'⟩ := fW_read hx
 rw [hi]
 unfold Datum.integral
 simp only []
 rw [show (-(i : Int)).toNat = 0 by omega, Nat.shiftLeft_zero, show (- -(i : Int)).toNat = i by omega, cut_exact _ _ (.inr rfl)]
theorem fW_toInt {x : Int} (hx : x.natAbs < 2 ^ 53) : floatToIntVal .f64 (fW x) .i64 = some x := by
 unfold floatToIntVal FloatKind.decode
 show (match ((double.read (fW x)).toInt .zero) with
 | some n => if IntKind.i64.min ≤ n ∧ n ≤ IntKind.i64.max then some n else none
 | none => none) = _
 unfold Datum.toInt
 rw [fW_integral hx]
 simp only []
 have := signed_eq x 0 0
 rw [Nat.shiftLeft_zero] at this
 rw [this]
 have h1 : IntKind.i64.min = -9223372036854775808 := by decide
 have h2 : IntKind.i64.max = 9223372036854775807 := by decide
 rw [h1, h2, if_pos (by constructor <;> omega)]
 simp
theorem fW_trunc {x : Int} (hx : x.natAbs < 2 ^ 53) : Z2l (fW x) = some (fW x) := by
 have h := fW_integral hx
 obtain ⟨i, hi, hi'⟩ := fW_read hx
 unfold Z2l FloatKind.decode
 show (match double.read (fW x) with
 | .nan _ _ => none
 | d => some (FloatKind.f64.encode (d.integral .zero))) = _
 rw [hi] at h ⊢
 simp only [h]
 rfl
end
theorem fW_one : (4607182418800017408 : Nat) = fW 1 := by decide
theorem fW_lo : (14063734437023318016 : Nat) = fW (-4000000000000000) := by decide
theorem fW_hi : (4840362400168542208 : Nat) = fW 4000000000000000 := by decide
theorem sg_0 : K85 0 = some ((false, ()), (), ()) := by kernel_rfl
theorem trunc_spec {x : Int} (h : x.natAbs < 2 ^ 53) : K86 (fW x) = some ((fW x, ()), (), ()) := by
 unfold K86 K86.gen
 rw [fW_trunc h]
 rfl
theorem whole_spec {x : Int} (h0 : -4000000000000000 ≤ x) (h1 : x ≤ 4000000000000000) : K102 (fW x) = some ((true, ()), (), ()) := by
 have hb : x.natAbs < 2 ^ 53 := by omega
 unfold K102 K102.gen
 rw [fW_lo, fW_hi, fW_order hb (by decide), fW_order hb (by decide), trunc_spec hb]
 simp only [oelim_some]
 rw [fW_order hb hb]
 have e1 : (some (compare x (-4000000000000000)) == some Ordering.gt || some (compare x (-4000000000000000)) == some Ordering.eq) = true := by
  rcases Int.lt_trichotomy x (-4000000000000000) with h | h | h
  ·omega
  ·rw [Int.compare_eq_eq.2 h]; rfl
  ·rw [Int.compare_eq_gt.2 h]; rfl
 have e2 : (some (compare x 4000000000000000) == some Ordering.lt || some (compare x 4000000000000000) == some Ordering.eq) = true := by
  rcases Int.lt_trichotomy x 4000000000000000 with h | h | h
  ·rw [Int.compare_eq_lt.2 h]; rfl
  ·rw [Int.compare_eq_eq.2 h]; rfl
  ·omega
 have e3 : (some (compare x x) == some Ordering.eq) = true := by rw [Int.compare_eq_eq.2 rfl]; rfl
 rw [e1, e2, e3]
 simp only [cond_true]
 rw [show (0 : Nat) = fW 0 from fW_zero.symm, fW_order hb (by decide)]
 by_cases hx : x = 0
 ·subst hx
  rw [Int.compare_eq_eq.2 rfl, fW_zero, sg_0]
  rfl
 ·have : (some (compare x 0) != some Ordering.eq) = true := by
   rcases Int.lt_trichotomy x 0 with h | h | h
   ·rw [Int.compare_eq_lt.2 h]; rfl
   ·omega
   ·rw [Int.compare_eq_gt.2 h]; rfl
  rw [this]
  rfl
theorem pairOf_spec {a b : Int} (a0 : -4000000000000000 ≤ a) (a1 : a ≤ 4000000000000000) (b0 : -4000000000000000 ≤ b) (b1 : b ≤ 4000000000000000) : K99 a b = some (((fW a, fW b), (true, ())), (), ()) := by
 unfold K99 K99.gen
 rw [ilt_false (show ¬ a < -4000000000000000 by omega), ilt_false (show ¬ 4000000000000000 < a by omega), ilt_false (show ¬ b < -4000000000000000 by omega), ilt_false (show ¬ 4000000000000000 < b by omega)]
 rfl
theorem pairDelay_spec {a b : Int} (a0 : -4000000000000000 ≤ a) (a1 : a ≤ 4000000000000000) (b0 : -4000000000000000 ≤ b) (b1 : b ≤ 4000000000000000) : K98 (fW a, fW b) = some ((ishr .i64 (a + b) 1, (true, ())), (), ()) := by
 have ha : a.natAbs < 2 ^ 53 := by omega
 have hb : b.natAbs < 2 ^ 53 := by omega
 have hab : (a + b).natAbs < 2 ^ 53 := by omega
 obtain ⟨r, hr⟩ := fW_sub ha hb
 have hm : cMulBits (fW a) (fW b) (fW 1) (fW 1) = some (r, fW (a + b)) := by
  unfold cMulBits
  rw [fW_mul1 ha, fW_mul1 hb]
  simp only [Option.bind_some]
  rw [hr, fW_add ha hb hab]
  rfl
 unfold K98 K98.gen K100 K100.gen K101 K101.gen
 simp only []
 rw [whole_spec a0 a1, whole_spec b0 b1]
 simp only [oelim_some, cond_true, Bool.not_true, cond_false]
 rw [fW_one, hm]
 simp only [oelim_some]
 rw [fW_toInt hab]
 rfl
theorem place_spec (v n : Int) (hn : 0 < n) (hn2 : n ≤ 4611686018427387904) : K78 v n = some ((v % n, ()), (), ()) := by
 have h1 : ine n 0 = true := ine_true (by omega)
 have h2 := Int.emod_nonneg v (Int.ne_of_gt hn)
 have h3 := Int.emod_lt_of_pos v hn
 obtain ⟨h4, h5⟩ := tmod_place v n hn
 unfold K78 K78.gen
 rw [h1]
 simp only [cond_true, oelim_some]
 by_cases hc : v.tmod n < 0
 ·have e : iadd .i64 (irem v n) n = v % n := by
   have := h4 hc
   rw [iadd_of] <;> simp only [irem] <;> omega
  rw [show ilt (irem v n) 0 = true from ilt_true hc, e]; simp only [cond_true, oelim_some]
 ·rw [show ilt (irem v n) 0 = false from ilt_false hc, show irem v n = v % n from h5 hc]; simp only [cond_false, oelim_some]
theorem fset_id {α : Type} (f : Nat → α) (i : Nat) : fset f i (f i) = f := by
 funext j
 unfold fset
 by_cases h : j = i
 ·rw [if_pos h, h]
 ·rw [if_neg h]
theorem here_B {dom fl co sq lg st d : Int} {src tg : api_PortID} (hg0 : 0 ≤ tg.fClock) (hg1 : tg.fClock < 18446744073709551616) (hg2 : 0 ≤ tg.fPort) (hg3 : tg.fPort ≤ 65535) (h : HdOk dom fl co src sq lg) (ht : 0 ≤ st) (ht2 : st ≤ 4000000000000000) (hd : d = dom) :
  K66 (bs (msgB dom fl co src sq lg st tg)) d = some ((msg0 9 dom fl co src sq lg st tg, ([], (0, ()))), (), ()) := by
 unfold K66 K66.gen
 rw [get_B hg0 hg1 hg2 hg3 h ht ht2]
 simp only [oelim_some, ieq_self, cond_true]
 rw [ine_false (show dom = d from hd.symm)]
 rfl
theorem match_sync {now sq lg st : Int} {src : api_PortID} {X : seq_Match} : K119 (msg0 0 0 0 0 src sq lg st api_PortID.z) now X = some ((isub .i64 (isub .i64 now st) 0, (true, ())), (X, ()), ()) := by kernel_rfl
structure Smp (K : clock_Clock) (i7 i8 i9 i10 i5 : Nat) : Prop where
 ports : K.fconf.fPorts = 1
 clock : K.fconf.fClock = 60
 dom : K.fconf.fDomain = 0
 peer : K.fconf.fPeer = false
 slave : K.fconf.fSlaveOnly = false
 ls : K.fconf.fLogSync = -3
 st : (K.fports 0).fstate = 8
 par : K.fparent.fPort = api_PortID.mk 77 1
 mt : (K.fports 0).fmatch = some i10
 dl : (K.fports 0).fdelay = some i7
 pe : (K.fports 0).fpeer = some i8
 sv : K.fservo = some i5
 fi : K.ffilter = some i9
theorem al_8' : K108 8 = some ((true, ()), (), ()) := by kernel_rfl
theorem fo_8 : K110 8 = some ((true, ()), (), ()) := by kernel_rfl
theorem none_1 {K : clock_Clock} (h : K.fconf.fPorts = 1) : K22 1 K = some ((false, ()), (), ()) := by
 unfold K22 K22.gen
 rw [h]; rfl
section
variable {K : clock_Clock} {g5 : Fm servo_Servo} {g6 : Fm foreign_Table} {g7 : Fm delay_Exchange} {g8 : Fm peer_Exchange} {g9 : Fm median_Filter} {g10 : Fm seq_Match} {g12 : Fm (List (api_PortID × List Int))} {i7 i8 i9 i10 i5 : Nat}
theorem side_1' (K : clock_Clock) : K29 1 K = some ((0, ()), (), ()) := by kernel_rfl
theorem smp_sync {b : ByteArray} {now sq lg st : Int} {K' : clock_Clock} {g5' : Fm servo_Servo} {g7' : Fm delay_Exchange} {g8' : Fm peer_Exchange} {g9' : Fm median_Filter} {g10' : Fm seq_Match} (h : Smp K i7 i8 i9 i10 i5) (hb : K66 b 0 = some ((msg0 0 0 0 0 (api_PortID.mk 77 1) sq lg st api_PortID.z, ([], (0, ()))), (), ()))
  (hd : K18 0 (msg0 0 0 0 0 (api_PortID.mk 77 1) sq lg st api_PortID.z) now K g5 g7 g8 g9 g10 = some ((), (K', g5', g7', g8', g9', g10', ()), ())) :
  K20 1 b now K g5 g6 g7 g8 g9 g10 g12 = some ((), (K', g5', g6, g7', g8', g9', g10', g12, ()), ()) := by
 unfold K20 K20.gen
 rw [h.dom, hb]
 simp only [oelim_some, none_1 h.ports, cond_false, n_0_0, h.clock, show ieq 77 60 = false from rfl, side_1', h.st, al_8', Bool.not_true, show ieq 0 11 = false from rfl, show ieq 0 0 = true from rfl, cond_true, fo_8, h.par, show ieq 77 77 = true from rfl, show ieq 1 1 = true from rfl, hd, selim]
theorem smp_resp {b : ByteArray} {now sq lg st : Int} {K' : clock_Clock} {g7' : Fm delay_Exchange} {g9' : Fm median_Filter} (h : Smp K i7 i8 i9 i10 i5) (hb : K66 b 0 = some ((msg0 9 0 0 0 (api_PortID.mk 77 1) sq lg st (api_PortID.mk 60 1), ([], (0, ()))), (), ()))
  (hd : K13 0 (msg0 9 0 0 0 (api_PortID.mk 77 1) sq lg st (api_PortID.mk 60 1)) K g7 g9 = some ((), (K', g7', g9', ()), ())) :
  K20 1 b now K g5 g6 g7 g8 g9 g10 g12 = some ((), (K', g5, g6, g7', g8, g9', g10, g12, ()), ()) := by
 unfold K20 K20.gen
 rw [h.dom, hb]
 simp only [oelim_some, none_1 h.ports, cond_false, n_0_0, h.clock, show ieq 77 60 = false from rfl, side_1', h.st, al_8', Bool.not_true, show ieq 9 11 = false from rfl, show ieq 9 0 = false from rfl, show ieq 9 8 = false from rfl, show ieq 9 1 = false from rfl, show ieq 9 9 = true from rfl, cond_true, fo_8, h.par, h.peer, Bool.not_false, show ieq 77 77 = true from rfl, show ieq 1 1 = true from rfl, hd, selim]
theorem differs_1 {now sq lg st : Int} (h : Smp K i7 i8 i9 i10 i5) (hk : K.fdelay.fis = false) :
  K18 0 (msg0 0 0 0 0 (api_PortID.mk 77 1) sq lg st api_PortID.z) now K g5 g7 g8 g9 g10 = some ((), (K.set_fports (fset K.fports 0 ((K.fports 0).set_fdiff (clock_known.mk (isub .i64 (isub .i64 now st) 0) true))), g5, g7, g8, g9, g10, ()), ()) := by
 unfold K18 K18.gen
 simp only [oelim_some, h.mt, match_sync, fset_id, show ieq 0 8 = false from rfl, cond_false, Bool.not_true, h.peer, hk]
theorem sent_1 {now sq : Int} (hdl : (K.fports 0).fdelay = some i7) {X : delay_Exchange} (hX : g7.2 i7 = X) (h0 : X.fr = delay_request.mk sq 0 true false) :
  K28 1 1 sq now K g7 g8 = some ((), (K, (g7.1, fset g7.2 i7 (X.set_fr (delay_request.mk sq now true true))), g8, ()), ()) := by
 unfold K28 K28.gen K55 K55.gen
 simp only [side_1', oelim_some, show ieq 1 0 = false from rfl, show ieq 1 1 = true from rfl, cond_false, cond_true, hdl, hX, h0, ieq_self]
 rfl
theorem back_1 {sq lg st at' dv w : Int} (hdl : (K.fports 0).fdelay = some i7) (hfi : K.ffilter = some i9) {X : delay_Exchange} (hX : g7.2 i7 = X) (hs : X.fself = api_PortID.mk 60 1) (hr : X.fr = delay_request.mk sq at' true true) (hdf : (K.fports 0).fdiff = clock_known.mk dv true)
  {X' : delay_Exchange} (hcl : K52 X = some ((), (X', ()), ())) {z : Nat × Nat} (hof : K99 dv (isub .i64 (isub .i64 st at') 0) = some ((z, (true, ())), (), ())) (hde : K98 z = some ((w, (true, ())), (), ())) {m : Int} {f : median_Filter} (hpu : K89 w (g9.2 i9) = some ((m, ()), (f, ()), ())) :
  K13 0 (msg0 9 0 0 0 (api_PortID.mk 77 1) sq lg st (api_PortID.mk 60 1)) K g7 g9 = some ((), (K.set_fdelay (clock_known.mk m true), (g7.1, fset g7.2 i7 X'), (g9.1, fset g9.2 i9 f), ()), ()) := by
 unfold K13 K13.gen K54 K54.gen
 simp only [hdl, hX, oelim_some, hs, hr, show ine 9 9 = false from rfl, show ieq 60 60 = true from rfl, show ieq 1 1 = true from rfl, cond_true, cond_false, Bool.not_true, ine_self, show K131 0 = some ((0, ()), (), ()) by kernel_rfl, hcl, hdf, hof, hde, hfi, hpu]
theorem differs_2 {now sq lg st dv : Int} (h : Smp K i7 i8 i9 i10 i5) (hk : K.fdelay = clock_known.mk dv true) {K' : clock_Clock} {g5' : Fm servo_Servo} {g7' : Fm delay_Exchange} {g8' : Fm peer_Exchange} {g9' : Fm median_Filter} {g10' : Fm seq_Match}
  (hs : K26 0 (isub .i64 (isub .i64 (isub .i64 now st) 0) dv) (K.set_fports (fset K.fports 0 ((K.fports 0).set_fdiff (clock_known.mk (isub .i64 (isub .i64 now st) 0) true)))) g5 g7 g8 g9 g10 = some ((), (K', g5', g7', g8', g9', g10', ()), ())) :
  K18 0 (msg0 0 0 0 0 (api_PortID.mk 77 1) sq lg st api_PortID.z) now K g5 g7 g8 g9 g10 = some ((), (K', g5', g7', g8', g9', g10', ()), ()) := by
 unfold K18 K18.gen
 simp only [oelim_some, h.mt, match_sync, fset_id, show ieq 0 8 = false from rfl, cond_false, Bool.not_true, h.peer, hk, cond_true, hs]
theorem samp_F0 {K : clock_Clock} {i7 i8 i10 : Nat} (hmt : (K.fports 0).fmatch = some i10) (hdl : (K.fports 0).fdelay = some i7) (hpe : (K.fports 0).fpeer = some i8) {g5 : Fm servo_Servo} {g7 : Fm delay_Exchange} {g8 : Fm peer_Exchange} {g9 : Fm median_Filter} {g10 : Fm seq_Match} :
  ∃ g7' g8' g10', K26.F0 ((0, 1, 0, ()), K, g5, g7, g8, g9, g10, ()) = some ((0, ()), K.set_fports (fset K.fports 0 ((K.fports 0).set_fdiff (clock_known.mk 0 false))), g5, g7', g8', g9, g10', ()) := by
 obtain ⟨m1, hm1⟩ : ∃ x, K117 (g10.2 i10) = some ((), (x, ()), ()) := ⟨_, rfl⟩
 obtain ⟨d1, hd1⟩ : ∃ x, K52 (g7.2 i7) = some ((), (x, ()), ()) := ⟨_, rfl⟩
 obtain ⟨p1, hp1⟩ : ∃ x, K103 (g8.2 i8) = some ((), (x, ()), ()) := ⟨_, rfl⟩
 refine ⟨(g7.1, fset g7.2 i7 d1), (g8.1, fset g8.2 i8 p1), (g10.1, fset g10.2 i10 m1), ?_⟩
 unfold K26.F0
 refine loop_to (step := K26.step0 _ _ _ _ _ _ _ _) (fun j => ((0, 1, (j : Int), ()), (if j = 0 then (K, g5, g7, g8, g9, g10, ()) else (K.set_fports (fset K.fports 0 ((K.fports 0).set_fdiff (clock_known.mk 0 false))), g5, (g7.1, fset g7.2 i7 d1), (g8.1, fset g8.2 i8 p1), g9, (g10.1, fset g10.2 i10 m1), ())))) 1 _ (by decide) (fun j hj => ?_) ?_
 ·have : j = 0 := by omega
  subst this
  unfold K26.step0
  simp only [show ilt ((0 : Nat) : Int) 1 = true from rfl, show inR ((0 : Nat) : Int) 8 = true from rfl, show Int.toNat ((0 : Nat) : Int) = 0 from rfl, cond_true, hmt, hdl, hpe, oelim_some, hm1, hd1, hp1, if_pos]
  rfl
 ·unfold K26.step0
  rfl
theorem samp_1 {off : Int} (h : Smp K i7 i8 i9 i10 i5) (hsv : (g5.2 i5).fstate = 0) (ho : K.fouts = []) (b0 : -4000000000000000 ≤ off) (b1 : off ≤ 4000000000000000) :
  ∃ K' g5' g7' g8' g9' g10', K26 0 off K g5 g7 g8 g9 g10 = some ((), (K', g5', g7', g8', g9', g10', ()), ()) ∧ K'.fouts = [api_Out.mk 2 0 (-off) false 0 0 (ByteArray.mk (List.toArray (lnil UInt8)))] ∧ K'.foffset = off ∧ (K'.fports 0).fstate = 9 ∧ K'.fconf = K.fconf := by
 obtain ⟨f1, hf1⟩ : ∃ x, K87 (g9.2 i9) = some ((), (x, ()), ()) := ⟨_, rfl⟩
 have hcut : K127 off 4000000000000000 = some ((off, ()), (), ()) := by
  unfold K127 K127.gen
  simp only [Z4, cond_true, cond_false, imin, imax]
  congr 3
  rw [show IntKind.wrap .i64 (0 - 4000000000000000) = -4000000000000000 from rfl]
  split <;> split <;> omega
 have hneg : IntKind.wrap .i64 (0 - off) = -off := by
  simp [IntKind.wrap, IntKind.signed, IntKind.bits]
  omega
 have hsm : ∀ iv, K126 off iv (g5.2 i5) = some ((-off, (true, ((g5.2 i5).ffreq, ()))), (((g5.2 i5).set_fstate 1).set_fnear 0, ()), ()) := fun iv => by
  unfold K126 K126.gen
  rw [hcut]
  simp only [oelim_some, hsv, show ieq 0 0 = true from rfl, cond_true, hneg]
 have hP1 : ∀ (K : clock_Clock) (x : Int) (l : List api_Out), ((K.set_foffset x).set_fouts l).fports = K.fports := fun _ _ _ => rfl
 obtain ⟨g7', g8', g10', hF⟩ := samp_F0 (K := ((K.set_foffset off).set_fouts [api_Out.mk 2 0 (-off) false 0 0 (ByteArray.mk (List.toArray (lnil UInt8)))]).set_fdelay (clock_known.mk 0 false)) (i7 := i7) (i8 := i8) (i10 := i10) h.mt h.dl h.pe (g5 := (g5.1, fset g5.2 i5 (((g5.2 i5).set_fstate 1).set_fnear 0))) (g7 := g7) (g8 := g8) (g9 := (g9.1, fset g9.2 i9 f1)) (g10 := g10)
 refine ⟨((((K.set_foffset off).set_fouts [api_Out.mk 2 0 (-off) false 0 0 (ByteArray.mk (List.toArray (lnil UInt8)))]).set_fdelay (clock_known.mk 0 false)).set_fports (fset (fset K.fports 0 ((K.fports 0).set_fdiff (clock_known.mk 0 false))) 0 (((fset K.fports 0 ((K.fports 0).set_fdiff (clock_known.mk 0 false))) 0).set_fstate 9))), (g5.1, fset g5.2 i5 (((g5.2 i5).set_fstate 1).set_fnear 0)), g7', g8', (g9.1, fset g9.2 i9 f1), g10', ?_, rfl, rfl, ?_, rfl⟩
 rotate_left
 ·dsimp only [clock_Clock.set_fports]
  rw [fset_same]
 ·unfold K26 K26.gen
  simp only [h.sv, oelim_some]
  rw [show K125 (g5.2 i5) = some (((g5.2 i5).ffreq, ()), (), ()) from rfl, h.ls, show K134 (-3) = some ((125000000, ()), (), ()) by kernel_rfl]
  simp only [oelim_some, hsm, cond_true, ho]
  rw [show room (([] : List api_Out).length + (api_Out.mk 2 0 (-off) false 0 0 (ByteArray.mk (List.toArray (lnil UInt8))) :: lnil api_Out).length) 64 = true from rfl]
  simp only [cond_true, oelim_some, h.fi, hf1, h.ports]
  rw [show le3 (ofN 0) 1 8 = true from rfl, show ([] : List api_Out) ++ api_Out.mk 2 0 (-off) false 0 0 (ByteArray.mk (List.toArray (lnil UInt8))) :: lnil api_Out = [api_Out.mk 2 0 (-off) false 0 0 (ByteArray.mk (List.toArray (lnil UInt8)))] from rfl]
  simp only [cond_true]
  rw [show K26.F0 ((0, ofN (Int.toNat 1 - Int.toNat (ofN 0)), 0, ()), _) = _ from hF]
  simp only [oelim_some, fset_same, h.slave]
  rw [show (clock_side.set_fdiff (K.fports 0) (clock_known.mk 0 false)).fstate = 8 from h.st, show K112 8 6 false = some ((9, ()), (), ()) by kernel_rfl]
  rfl
end
theorem put_1 (w : Int) (l : Nat → Int) : K89 w (median_Filter.mk l 0 5) = some ((w, ()), (median_Filter.mk (fset l 0 w) 1 5, ()), ()) := by kernel_rfl
theorem smp_step0 (w o s : Int) (l : List api_Out) (i : Int) (x : Option Nat × NT) : K79.step0 K78 K83 K84 K81 K11 K10 K80 K8 K9 K82.A ((w, o, s, l, i, ()), x) =
  match K79.step0 K78 K83 K84 K81 K11 K10 K80 K8 K9 K82.A ((0, 0, 0, l, i, ()), x) with
  | some (.inl a) => some (.inl ((w, o, s, a.1.2.2.2.1, a.1.2.2.2.2.1, ()), a.2))
  | some (.inr b) => some (.inr ((w, o, s, b.1.2.2.2.1, ()), b.2))
  | none => none := by
 unfold K79.step0
 simp only []
 cases ilt i 3 with
 | false => rfl
 | true =>
  simp only [cond_true]
  cases x.1 with
  | none => rfl
  | some k =>
   simp only [oelim_some]
   cases K81 77 10 i 0 with
   | none => rfl
   | some r1 =>
    simp only [oelim_some]
    cases K11 r1.1.1 (x.2.1.2 k) x.2.2.1 x.2.2.2.1 x.2.2.2.2.1 x.2.2.2.2.2.1 x.2.2.2.2.2.2.1 x.2.2.2.2.2.2.2.1 x.2.2.2.2.2.2.2.2.1 with
    | none => rfl
    | some r2 =>
     simp only [oelim_some]
     cases K84 1 (fset x.2.1.2 k r2.2.1.1 k) r2.2.1.2.1 r2.2.1.2.2.1 r2.2.1.2.2.2.1 r2.2.1.2.2.2.2.1 r2.2.1.2.2.2.2.2.1 r2.2.1.2.2.2.2.2.2.1 r2.2.1.2.2.2.2.2.2.2.1 with
     | none => rfl
     | some r4 =>
      simp only [oelim_some]
      cases room (l.length + r4.1.1.length) 64 with
      | false => rfl
      | true => rfl
theorem smp_fix0 (w o s : Int) : ∀ (N : Nat) (l : List api_Out) (i : Int) (x : Option Nat × NT), Z8 N (K79.step0 K78 K83 K84 K81 K11 K10 K80 K8 K9 K82.A) ((w, o, s, l, i, ()), x) =
  (Z8 N (K79.step0 K78 K83 K84 K81 K11 K10 K80 K8 K9 K82.A) ((0, 0, 0, l, i, ()), x)).map fun b => ((w, o, s, b.1.2.2.2.1, ()), b.2)
 | 0, l, i, x => rfl
 | N + 1, l, i, x => by
  unfold Z8
  rw [smp_step0 w o s l i x]
  rw [smp_step0 0 0 0 l i x]
  cases K79.step0 K78 K83 K84 K81 K11 K10 K80 K8 K9 K82.A ((0, 0, 0, l, i, ()), x) with
  | none => rfl
  | some r =>
   cases r with
   | inr b => rfl
   | inl a => exact smp_fix0 w o s N a.1.2.2.2.1 a.1.2.2.2.2.1 a.2
theorem smp_F0 (w o s : Int) (l : List api_Out) (i : Int) (x : Option Nat × NT) : K79.F0 ((w, o, s, l, i, ()), x) = (K79.F0 ((0, 0, 0, l, i, ()), x)).map fun b => ((w, o, s, b.1.2.2.2.1, ()), b.2) := by
 unfold K79.F0
 exact smp_fix0 w o s _ l i x
noncomputable def smpP := oelim (K83 60 1 e0_ e6_ e2_ e1_ e4_ e3_ e5_ (0, fun _ => [])) none fun r3 => oelim (K84 1 (r3.2.1.1.2 0) r3.2.1.2.1 r3.2.1.2.2.1 r3.2.1.2.2.2.1 r3.2.1.2.2.2.2.1 r3.2.1.2.2.2.2.2.1 r3.2.1.2.2.2.2.2.2.1 r3.2.1.2.2.2.2.2.2.2.1) none fun r6 => K79.F0 ((0, 0, 0, [], 0, ()), some 0, (r3.2.1.1.1, fset r3.2.1.1.2 0 r6.2.1.1), r6.2.1.2)
theorem smpP_some : smpP.isSome = true := by kernel_rfl
noncomputable def smpV := smpP.get smpP_some
noncomputable abbrev smpK : clock_Clock := (smpV.2.2.1.2 0).set_fouts []
noncomputable abbrev smpN : NT := smpV.2.2
theorem f_k : smpV.2.1 = some 0 := by kernel_rfl
noncomputable def smpRest (r10 : (Int × Int × Int × Int × Unit) × Option Nat × NT) : Option ((Bool × Unit) × NT × Unit) :=
 (oelim (K80 (api_Msg.mk (0 : Int) (0 : Int) (0 : Int) (0 : Int) (api_PortID.mk (77 : Int) (1 : Int)) (1 : Int) (0 : Int) r10.1.2.2.1 (api_PortID.mk (0 : Int) (0 : Int)) (0 : Int) (0 : Int) (api_Quality.mk (0 : Int) (0 : Int) (0 : Int)) (0 : Int) (0 : Int) (0 : Int) (0 : Int) (0 : Int) (0 : Int) (0 : Int)) (iadd .i64 (iadd .i64 r10.1.2.2.1 r10.1.1) r10.1.2.1) r10.2.1 r10.2.2.1 r10.2.2.2.1 r10.2.2.2.2.1 r10.2.2.2.2.2.1 r10.2.2.2.2.2.2.1 r10.2.2.2.2.2.2.2.1 r10.2.2.2.2.2.2.2.2.1 r10.2.2.2.2.2.2.2.2.2.1) none fun r11 => (oelim (r11.2.1.1) none fun r12 => (oelim (K11 (api_Event.mk (3 : Int) (1 : Int) (iadd .i64 (iadd .i64 r10.1.2.2.1 (500 : Int)) r10.1.2.1) (1 : Int) r10.1.2.2.2.1 (ByteArray.mk (List.toArray (lnil UInt8))) (api_Conf.mk (0 : Int) (0 : Int) (0 : Int) (0 : Int) (0 : Int) (api_Quality.mk (0 : Int) (0 : Int) (0 : Int)) false (0 : Int) (0 : Int) (0 : Int) (0 : Int) false false (0 : Int) (0 : Int) (0 : Int) (0 : Int) (api_Times.mk (0 : Int) (0 : Int) (0 : Int)) false)) (r11.2.1.2.1.2 r12) r11.2.1.2.2.1 r11.2.1.2.2.2.1 r11.2.1.2.2.2.2.1 r11.2.1.2.2.2.2.2.1 r11.2.1.2.2.2.2.2.2.1 r11.2.1.2.2.2.2.2.2.2.1 r11.2.1.2.2.2.2.2.2.2.2.1) none fun r13 => (oelim (K80 (api_Msg.mk (9 : Int) (0 : Int) (0 : Int) (0 : Int) (api_PortID.mk (77 : Int) (1 : Int)) r10.1.2.2.2.1 (0 : Int) (iadd .i64 (iadd .i64 r10.1.2.2.1 (500 : Int)) r10.1.1) (api_PortID.mk (60 : Int) (1 : Int)) (0 : Int) (0 : Int) (api_Quality.mk (0 : Int) (0 : Int) (0 : Int)) (0 : Int) (0 : Int) (0 : Int) (0 : Int) (0 : Int) (0 : Int) (0 : Int)) (iadd .i64 (iadd .i64 r10.1.2.2.1 (2000 : Int)) r10.1.2.1) r11.2.1.1 (r11.2.1.2.1.1, fset r11.2.1.2.1.2 r12 r13.2.1.1) r13.2.1.2.1 r13.2.1.2.2.1 r13.2.1.2.2.2.1 r13.2.1.2.2.2.2.1 r13.2.1.2.2.2.2.2.1 r13.2.1.2.2.2.2.2.2.1 r13.2.1.2.2.2.2.2.2.2.1) none fun r14 => (oelim ((bif ilt r10.1.2.2.2.1 (0 : Int) then some (true, ()) else (bif ine (ofN (List.length r11.1.1)) (0 : Int) then some (true, ()) else (bif ine (ofN (List.length r14.1.1)) (0 : Int) then some (true, ()) else (oelim (r14.2.1.1) none fun r15 => (oelim (K8 (r14.2.1.2.1.2 r15)) none fun r16 => some (ine r16.1.1 r10.1.1, ()))))))) none fun r17 => (bif r17.1 then some ((false, ()), ((r14.2.1.2.1, (r14.2.1.2.2.1, (r14.2.1.2.2.2.1, (r14.2.1.2.2.2.2.1, (r14.2.1.2.2.2.2.2.1, (r14.2.1.2.2.2.2.2.2.1, (r14.2.1.2.2.2.2.2.2.2.1, (r14.2.1.2.2.2.2.2.2.2.2.1, ())))))))), ())) else (oelim (K80 (api_Msg.mk (0 : Int) (0 : Int) (0 : Int) (0 : Int) (api_PortID.mk (77 : Int) (1 : Int)) (2 : Int) (0 : Int) (iadd .i64 r10.1.2.2.1 (9000 : Int)) (api_PortID.mk (0 : Int) (0 : Int)) (0 : Int) (0 : Int) (api_Quality.mk (0 : Int) (0 : Int) (0 : Int)) (0 : Int) (0 : Int) (0 : Int) (0 : Int) (0 : Int) (0 : Int) (0 : Int)) (iadd .i64 (iadd .i64 (iadd .i64 r10.1.2.2.1 (9000 : Int)) r10.1.1) r10.1.2.1) r14.2.1.1 r14.2.1.2.1 r14.2.1.2.2.1 r14.2.1.2.2.2.1 r14.2.1.2.2.2.2.1 r14.2.1.2.2.2.2.2.1 r14.2.1.2.2.2.2.2.2.1 r14.2.1.2.2.2.2.2.2.2.1 r14.2.1.2.2.2.2.2.2.2.2.1) none fun r18 => (bif ieq (ofN (List.length r18.1.1)) (1 : Int) then (bif inR (0 : Int) (List.length r18.1.1) then (bif ieq (List.getD r18.1.1 (Int.toNat (0 : Int)) api_Out.zero).fKind (2 : Int) then (bif inR (0 : Int) (List.length r18.1.1) then (bif ieq (List.getD r18.1.1 (Int.toNat (0 : Int)) api_Out.zero).fN (IntKind.wrap .i64 ((0 : Int) - r10.1.2.1)) then (oelim (r18.2.1.1) none fun r19 => (oelim (K9 (r18.2.1.2.1.2 r19)) none fun r20 => (bif ieq r20.1.1 r10.1.2.1 then (oelim (r18.2.1.1) none fun r21 => (oelim (K10 (1 : Int) (r18.2.1.2.1.2 r21)) none fun r22 => (bif ieq r22.1.1 (9 : Int) then (oelim (K82.A) none fun r23 => some ((true, ()), ((r18.2.1.2.1, (r18.2.1.2.2.1, (r18.2.1.2.2.2.1, (r18.2.1.2.2.2.2.1, (r18.2.1.2.2.2.2.2.1, (r18.2.1.2.2.2.2.2.2.1, (r18.2.1.2.2.2.2.2.2.2.1, (r18.2.1.2.2.2.2.2.2.2.2.1, ())))))))), ()))) else some ((false, ()), ((r18.2.1.2.1, (r18.2.1.2.2.1, (r18.2.1.2.2.2.1, (r18.2.1.2.2.2.2.1, (r18.2.1.2.2.2.2.2.1, (r18.2.1.2.2.2.2.2.2.1, (r18.2.1.2.2.2.2.2.2.2.1, (r18.2.1.2.2.2.2.2.2.2.2.1, ())))))))), ()))))) else some ((false, ()), ((r18.2.1.2.1, (r18.2.1.2.2.1, (r18.2.1.2.2.2.1, (r18.2.1.2.2.2.2.1, (r18.2.1.2.2.2.2.2.1, (r18.2.1.2.2.2.2.2.2.1, (r18.2.1.2.2.2.2.2.2.2.1, (r18.2.1.2.2.2.2.2.2.2.2.1, ())))))))), ()))))) else some ((false, ()), ((r18.2.1.2.1, (r18.2.1.2.2.1, (r18.2.1.2.2.2.1, (r18.2.1.2.2.2.2.1, (r18.2.1.2.2.2.2.2.1, (r18.2.1.2.2.2.2.2.2.1, (r18.2.1.2.2.2.2.2.2.2.1, (r18.2.1.2.2.2.2.2.2.2.2.1, ())))))))), ()))) else none) else some ((false, ()), ((r18.2.1.2.1, (r18.2.1.2.2.1, (r18.2.1.2.2.2.1, (r18.2.1.2.2.2.2.1, (r18.2.1.2.2.2.2.2.1, (r18.2.1.2.2.2.2.2.2.1, (r18.2.1.2.2.2.2.2.2.2.1, (r18.2.1.2.2.2.2.2.2.2.2.1, ())))))))), ()))) else none) else some ((false, ()), ((r18.2.1.2.1, (r18.2.1.2.2.1, (r18.2.1.2.2.2.1, (r18.2.1.2.2.2.2.1, (r18.2.1.2.2.2.2.2.1, (r18.2.1.2.2.2.2.2.2.1, (r18.2.1.2.2.2.2.2.2.2.1, (r18.2.1.2.2.2.2.2.2.2.2.1, ())))))))), ()))))))))))
theorem smp_ok : Smp smpK 0 0 0 0 0 := ⟨by kernel_rfl, by kernel_rfl, by kernel_rfl, by kernel_rfl, by kernel_rfl, by kernel_rfl, by kernel_rfl, by kernel_rfl, by kernel_rfl, by kernel_rfl, by kernel_rfl, by kernel_rfl, by kernel_rfl⟩
theorem smp_kd : smpK.fdelay.fis = false := by kernel_rfl
theorem smp_st : K10 1 (smpV.2.2.1.2 0) = some ((8, ()), (), ()) := by kernel_rfl
theorem smp_F1 (w o s : Int) (x : Option Nat × NT) : K79.F1 ((w, o, s, smpV.1.2.2.2.1, -1, 0, ()), x) = some ((w, o, s, 1, ()), x) := by kernel_rfl
theorem smp_self : (smpN.2.2.2.1.2 0).fself = api_PortID.mk 60 1 := by kernel_rfl
theorem smp_r : (smpN.2.2.2.1.2 0).fr = delay_request.mk 1 0 true false := by kernel_rfl
theorem smp_sv : (smpN.2.1.2 0).fstate = 0 := by kernel_rfl
theorem smp_n : (smpN.2.2.2.2.2.1.2 0).fn = 0 := by kernel_rfl
theorem smp_m : (smpN.2.2.2.2.2.1.2 0).fmost = 5 := by kernel_rfl
theorem filt_eta {f : median_Filter} (h : f.fn = 0) (h2 : f.fmost = 5) : f = median_Filter.mk f.fl 0 5 := by
 cases f; cases h; cases h2; rfl
section
variable {K : clock_Clock} {i7 i8 i9 i10 i5 : Nat}
theorem Smp.diff (h : Smp K i7 i8 i9 i10 i5) (v : clock_known) : Smp (K.set_fports (fset K.fports 0 ((K.fports 0).set_fdiff v))) i7 i8 i9 i10 i5 := by
 have e : ((K.set_fports (fset K.fports 0 ((K.fports 0).set_fdiff v))).fports 0) = (K.fports 0).set_fdiff v := by dsimp only [clock_Clock.set_fports]; rw [fset_same]
 exact ⟨h.ports, h.clock, h.dom, h.peer, h.slave, h.ls, by rw [e]; exact h.st, h.par, by rw [e]; exact h.mt, by rw [e]; exact h.dl, by rw [e]; exact h.pe, h.sv, h.fi⟩
theorem Smp.outs (h : Smp K i7 i8 i9 i10 i5) (l : List api_Out) : Smp (K.set_fouts l) i7 i8 i9 i10 i5 := ⟨h.ports, h.clock, h.dom, h.peer, h.slave, h.ls, h.st, h.par, h.mt, h.dl, h.pe, h.sv, h.fi⟩
theorem Smp.delay (h : Smp K i7 i8 i9 i10 i5) (v : clock_known) : Smp (K.set_fdelay v) i7 i8 i9 i10 i5 := ⟨h.ports, h.clock, h.dom, h.peer, h.slave, h.ls, h.st, h.par, h.mt, h.dl, h.pe, h.sv, h.fi⟩
end
section
variable {K K' : clock_Clock} {g5 g5' : Fm servo_Servo} {g6 g6' : Fm foreign_Table} {g7 g7' : Fm delay_Exchange} {g8 g8' : Fm peer_Exchange} {g9 g9' : Fm median_Filter} {g10 g10' : Fm seq_Match} {g12 g12' : Fm (List (api_PortID × List Int))}
theorem stepF {b : ByteArray} {p t a1 a2 : Int} {c : api_Conf} (h0 : 0 ≤ t) (h1 : t ≤ 4000000000000000)
  (h : K20 p b t (K.set_fouts []) g5 g6 g7 g8 g9 g10 g12 = some ((), (K', g5', g6', g7', g8', g9', g10', g12', ()), ())) :
  K11 (api_Event.mk 2 p t a1 a2 b c) K g5 g6 g7 g8 g9 g10 g12 = some ((K'.fouts, ()), (K', g5', g6', g7', g8', g9', g10', g12', ()), ()) := by
 unfold K11 K11.gen
 simp only [i_2_1, i_2_2, cond_false, cond_true, now_ok h0 h1]
 rw [show lnil api_Out = [] from rfl, h]
 rfl
theorem stepS {b : ByteArray} {t ty sq : Int} {c : api_Conf} (h0 : 0 ≤ t) (h1 : t ≤ 4000000000000000) (hp : K.fconf.fPorts = 1)
  (h : K28 1 ty sq t (K.set_fouts []) g7 g8 = some ((), (K', g7', g8', ()), ())) :
  K11 (api_Event.mk 3 1 t ty sq b c) K g5 g6 g7 g8 g9 g10 g12 = some ((K'.fouts, ()), (K', g5, g6, g7', g8', g9, g10, g12, ()), ()) := by
 unfold K11 K11.gen
 simp only [show ieq 3 1 = false from rfl, show ieq 3 2 = false from rfl, show ieq 3 3 = true from rfl, cond_false, cond_true, now_ok h0 h1]
 rw [show lnil api_Out = [] from rfl, none_1 (K := K.set_fouts []) hp]
 simp only [oelim_some, Bool.not_false, cond_true]
 rw [h]
 rfl
theorem smp_clo {m : api_Msg} {now : Int} {G : Fm clock_Clock} {b : ByteArray} {l : List api_Out} (hp : K67 m [] = some ((b, (true, ())), (), ()))
  (hs : K11 (api_Event.mk 2 1 now 0 0 b (api_Conf.mk 0 0 0 0 0 (api_Quality.mk 0 0 0) false 0 0 0 0 false false 0 0 0 0 (api_Times.mk 0 0 0) false)) (G.2 0) g5 g6 g7 g8 g9 g10 g12 = some ((l, ()), (K', g5', g6', g7', g8', g9', g10', g12', ()), ())) :
  K80 m now (some 0) G g5 g6 g7 g8 g9 g10 g12 = some ((l, ()), (some 0, (G.1, fset G.2 0 K'), g5', g6', g7', g8', g9', g10', g12', ()), ()) := by
 unfold K80 K80.gen
 rw [show lnil api_Tlv = [] from rfl, hp]
 simp only [oelim_some]
 rw [hs]
 rfl
end
theorem hd_s {sq : Int} (h0 : 0 ≤ sq) (h1 : sq ≤ 65535) : HdOk 0 0 0 (api_PortID.mk 77 1) sq 0 :=
 ⟨by decide, by decide, by decide, by decide, by decide, by decide, by decide, by decide, by decide, by decide, h0, h1, by decide, by decide⟩
section
variable {w off s : Int} {K : clock_Clock} {G : Fm clock_Clock} {g5 : Fm servo_Servo} {g6 : Fm foreign_Table} {g7 : Fm delay_Exchange} {g8 : Fm peer_Exchange} {g9 : Fm median_Filter} {g10 : Fm seq_Match} {g12 : Fm (List (api_PortID × List Int))}
theorem st_1 (w0 : 0 ≤ w ∧ w < 1000000) (o0 : 30000 ≤ off ∧ off < 1073771824) (s0 : 10000000 ≤ s ∧ s < 1099521627776) (hOk : Smp K 0 0 0 0 0) (hkd : K.fdelay.fis = false) (hKK : (G.2 0).set_fouts [] = K) :
  K80 (msg0 0 0 0 0 (api_PortID.mk 77 1) 1 0 s api_PortID.z) (s + w + off) (some 0) G g5 g6 g7 g8 g9 g10 g12 = some (([], ()), (some 0, (G.1, fset G.2 0 (K.set_fports (fset K.fports 0 ((K.fports 0).set_fdiff (clock_known.mk (w + off) true))))), g5, g6, g7, g8, g9, g10, g12, ()), ()) := by
 have d1 : isub .i64 (isub .i64 (s + w + off) s) 0 = w + off := by rw [isub_of (a := s + w + off) (by omega), isub_of (by omega)]; omega
 have h0 : 0 ≤ s := by omega
 have h1 : s ≤ 4000000000000000 := by omega
 have h2 : 0 ≤ s + w + off := by omega
 have h3 : s + w + off ≤ 4000000000000000 := by omega
 have hf1 := smp_sync (now := s + w + off) (g5 := g5) (g6 := g6) (g7 := g7) (g8 := g8) (g9 := g9) (g10 := g10) (g12 := g12) hOk (here_A (ty := 0) (ctl := 0) (d := 0) (.inl ⟨rfl, rfl⟩) (hd_s (sq := 1) (by decide) (by decide)) h0 h1 rfl) (differs_1 hOk hkd)
 rw [← hKK] at hf1
 have hc1 := smp_clo (G := G) (put_A (ty := 0) (ctl := 0) (.inl ⟨rfl, rfl⟩) (hd_s (sq := 1) (by decide) (by decide)) h0 h1) (stepF h2 h3 hf1)
 rw [hKK, d1] at hc1
 have hK0 : K.fouts = [] := by rw [← hKK]
 rw [hc1]
 have : ∀ f, (K.set_fports f).fouts = [] := fun f => hK0
 rw [this]
theorem st_2 (o0 : 30000 ≤ off ∧ off < 1073771824) (s0 : 10000000 ≤ s ∧ s < 1099521627776) (hOk : Smp K 0 0 0 0 0) (hr : (g7.2 0).fr = delay_request.mk 1 0 true false) {b : ByteArray} {c : api_Conf} :
  K11 (api_Event.mk 3 1 (s + 500 + off) 1 1 b c) K g5 g6 g7 g8 g9 g10 g12 = some (([], ()), (K.set_fouts [], g5, g6, (g7.1, fset g7.2 0 ((g7.2 0).set_fr (delay_request.mk 1 (s + 500 + off) true true))), g8, g9, g10, g12, ()), ()) :=
 stepS (by omega) (by omega) hOk.ports (sent_1 (K := K.set_fouts []) (i7 := 0) hOk.dl rfl hr)
theorem st_3 (w0 : 0 ≤ w ∧ w < 1000000) (o0 : 30000 ≤ off ∧ off < 1073771824) (s0 : 10000000 ≤ s ∧ s < 1099521627776) (hOk : Smp K 0 0 0 0 0) (hKK : (G.2 0).set_fouts [] = K) (hdf : (K.fports 0).fdiff = clock_known.mk (w + off) true) {X : delay_Exchange} (hX : g7.2 0 = X) (hself : X.fself = api_PortID.mk 60 1) (hr : X.fr = delay_request.mk 1 (s + 500 + off) true true) (hfn : (g9.2 0).fn = 0) (hfm : (g9.2 0).fmost = 5) :
  ∃ X', K80 (msg0 9 0 0 0 (api_PortID.mk 77 1) 1 0 (s + 500 + w) (api_PortID.mk 60 1)) (s + 2000 + off) (some 0) G g5 g6 g7 g8 g9 g10 g12 = some (([], ()), (some 0, (G.1, fset G.2 0 (K.set_fdelay (clock_known.mk w true))), g5, g6, (g7.1, fset g7.2 0 X'), g8, (g9.1, fset g9.2 0 (median_Filter.mk (fset (g9.2 0).fl 0 w) 1 5)), g10, g12, ()), ()) := by
 have d2 : isub .i64 (isub .i64 (s + 500 + w) (s + 500 + off)) 0 = w - off := by rw [isub_of (a := s + 500 + w) (by omega), isub_of (by omega)]; omega
 have h0 : 0 ≤ s + 500 + w := by omega
 have h1 : s + 500 + w ≤ 4000000000000000 := by omega
 have h2 : 0 ≤ s + 2000 + off := by omega
 have h3 : s + 2000 + off ≤ 4000000000000000 := by omega
 obtain ⟨X', hX'⟩ : ∃ x, K52 X = some ((), (x, ()), ()) := ⟨_, rfl⟩
 refine ⟨X', ?_⟩
 have hpu : K89 w (g9.2 0) = some ((w, ()), (median_Filter.mk (fset (g9.2 0).fl 0 w) 1 5, ()), ()) := by
  have := put_1 w (g9.2 0).fl
  rwa [← filt_eta hfn hfm] at this
 have hwe : ishr .i64 (w + off + (w - off)) 1 = w := by
  rw [show w + off + (w - off) = 2 * w by omega]
  unfold ishr
  rw [show min (Int.toNat 1) (IntKind.bits .i64) = 1 from rfl, show (2 : Int) ^ 1 = 2 from rfl, Int.fdiv_eq_ediv_of_nonneg _ (by decide)]
  omega
 have hof := pairOf_spec (a := w + off) (b := w - off) (by omega) (by omega) (by omega) (by omega)
 have hde := pairDelay_spec (a := w + off) (b := w - off) (by omega) (by omega) (by omega) (by omega)
 rw [hwe] at hde
 have hof' : K99 (w + off) (isub .i64 (isub .i64 (s + 500 + w) (s + 500 + off)) 0) = some (((fW (w + off), fW (w - off)), (true, ())), (), ()) := by rw [d2]; exact hof
 have hf2 := smp_resp (K := K) (now := s + 2000 + off) (g5 := g5) (g6 := g6) (g8 := g8) (g10 := g10) (g12 := g12) hOk (here_B (d := 0) (sq := 1) (lg := 0) (src := api_PortID.mk 77 1) (tg := api_PortID.mk 60 1) (by decide) (by decide) (by decide) (by decide) (hd_s (sq := 1) (by decide) (by decide)) h0 h1 rfl) (back_1 (K := K) (g7 := g7) (g9 := g9) (i7 := 0) (i9 := 0) hOk.dl hOk.fi hX hself hr hdf hX' hof' hde hpu)
 rw [← hKK] at hf2
 have hc2 := smp_clo (G := G) (put_B (sq := 1) (lg := 0) (src := api_PortID.mk 77 1) (tg := api_PortID.mk 60 1) (by decide) (by decide) (by decide) (by decide) (hd_s (sq := 1) (by decide) (by decide)) h0 h1) (stepF h2 h3 hf2)
 rw [hKK] at hc2
 have hK0 : K.fouts = [] := by rw [← hKK]
 rw [hc2]
 have : ∀ f, (K.set_fdelay f).fouts = [] := fun f => hK0
 rw [this]
theorem st_4 (w0 : 0 ≤ w ∧ w < 1000000) (o0 : 30000 ≤ off ∧ off < 1073771824) (s0 : 10000000 ≤ s ∧ s < 1099521627776) (hOk : Smp K 0 0 0 0 0) (hKK : (G.2 0).set_fouts [] = K) (hd : K.fdelay = clock_known.mk w true) (hsv : (g5.2 0).fstate = 0) :
  ∃ K5 h5 h7 h8 h9 h10, K80 (msg0 0 0 0 0 (api_PortID.mk 77 1) 2 0 (s + 9000) api_PortID.z) (s + 9000 + w + off) (some 0) G g5 g6 g7 g8 g9 g10 g12 = some (([api_Out.mk 2 0 (-off) false 0 0 (ByteArray.mk (List.toArray (lnil UInt8)))], ()), (some 0, (G.1, fset G.2 0 K5), h5, g6, h7, h8, h9, h10, g12, ()), ()) ∧ K5.foffset = off ∧ K10 1 K5 = some ((9, ()), (), ()) := by
 have d3 : isub .i64 (isub .i64 (s + 9000 + w + off) (s + 9000)) 0 = w + off := by rw [isub_of (a := s + 9000 + w + off) (by omega), isub_of (by omega)]; omega
 have d4 : isub .i64 (w + off) w = off := by rw [isub_of (by omega)]; omega
 have h0 : 0 ≤ s + 9000 := by omega
 have h1 : s + 9000 ≤ 4000000000000000 := by omega
 have h2 : 0 ≤ s + 9000 + w + off := by omega
 have h3 : s + 9000 + w + off ≤ 4000000000000000 := by omega
 have r0 : -4000000000000000 ≤ off := by omega
 have r1 : off ≤ 4000000000000000 := by omega
 have hK0 : K.fouts = [] := by rw [← hKK]
 have hk4 : ∀ f, (K.set_fports f).fouts = [] := fun f => hK0
 obtain ⟨K5, h5, h7, h8, h9, h10, hsm, e1, e2, e3, e4⟩ := samp_1 (g5 := g5) (g7 := g7) (g8 := g8) (g9 := g9) (g10 := g10) (off := off) (hOk.diff (clock_known.mk (w + off) true)) hsv (hk4 _) r0 r1
 have hdif := differs_2 (now := s + 9000 + w + off) (sq := 2) (lg := 0) (st := s + 9000) (dv := w) hOk hd (by rw [d3, d4]; exact hsm)
 have hf3 := smp_sync (g6 := g6) (g12 := g12) hOk (here_A (ty := 0) (ctl := 0) (d := 0) (.inl ⟨rfl, rfl⟩) (hd_s (sq := 2) (by decide) (by decide)) h0 h1 rfl) hdif
 rw [← hKK] at hf3
 have hc3 := smp_clo (G := G) (put_A (ty := 0) (ctl := 0) (.inl ⟨rfl, rfl⟩) (hd_s (sq := 2) (by decide) (by decide)) h0 h1) (stepF h2 h3 hf3)
 refine ⟨K5, h5, h7, h8, h9, h10, ?_, e2, ?_⟩
 ·rw [hc3, e1]
 ·unfold K10 K10.gen
  have e5 : K5.fconf.fPorts = 1 := by rw [e4]; exact hOk.ports
  rw [none_1 e5, side_1']
  simp only [oelim_some, cond_false, e3]
end
theorem smp_core (w off s : Int) (w0 : 0 ≤ w ∧ w < 1000000) (o0 : 30000 ≤ off ∧ off < 1073771824) (s0 : 10000000 ≤ s ∧ s < 1099521627776) (K : clock_Clock) (hOk : Smp K 0 0 0 0 0) (hkd : K.fdelay.fis = false) (k : Option Nat) (G : Fm clock_Clock) (g5 : Fm servo_Servo) (g6 : Fm foreign_Table) (g7 : Fm delay_Exchange) (g8 : Fm peer_Exchange) (g9 : Fm median_Filter) (g10 : Fm seq_Match) (g12 : Fm (List (api_PortID × List Int)))
  (fk : k = some 0) (hKK : (G.2 0).set_fouts [] = K) (hself : (g7.2 0).fself = api_PortID.mk 60 1) (hr : (g7.2 0).fr = delay_request.mk 1 0 true false) (hsv : (g5.2 0).fstate = 0) (hfn : (g9.2 0).fn = 0) (hfm : (g9.2 0).fmost = 5) :
  ∃ y, smpRest ((w, off, s, 1, ()), k, G, g5, g6, g7, g8, g9, g10, g12, ()) = some ((true, ()), y, ()) := by
 subst fk
 have hfs : ∀ (f : Nat → clock_Clock) (K : clock_Clock), fset f 0 K 0 = K := fun f K => fset_same _ _ _
 have a1 : iadd .i64 (iadd .i64 s w) off = s + w + off := by rw [iadd_of (a := s) (by omega), iadd_of (by omega)]
 have a2 : iadd .i64 (iadd .i64 s 500) off = s + 500 + off := by rw [iadd_of (a := s) (by omega), iadd_of (by omega)]
 have a3 : iadd .i64 (iadd .i64 s 500) w = s + 500 + w := by rw [iadd_of (a := s) (by omega), iadd_of (by omega)]
 have a4 : iadd .i64 (iadd .i64 s 2000) off = s + 2000 + off := by rw [iadd_of (a := s) (by omega), iadd_of (by omega)]
 have a5 : iadd .i64 s 9000 = s + 9000 := iadd_of (by omega)
 have a6 : iadd .i64 (iadd .i64 (s + 9000) w) off = s + 9000 + w + off := by rw [iadd_of (a := s + 9000) (by omega), iadd_of (by omega)]
 have hneg : IntKind.wrap .i64 (0 - off) = -off := by
  simp [IntKind.wrap, IntKind.signed, IntKind.bits]
  omega
 unfold smpRest
 simp only [a1, a2, a3, a4, a5, a6]
 rw [st_1 (g5 := g5) (g6 := g6) (g7 := g7) (g8 := g8) (g9 := g9) (g10 := g10) (g12 := g12) w0 o0 s0 hOk hkd hKK]
 simp only [oelim_some, hfs]
 have hO1 := hOk.diff (clock_known.mk (w + off) true)
 have hdf1 : ((K.set_fports (fset K.fports 0 ((K.fports 0).set_fdiff (clock_known.mk (w + off) true)))).fports 0).fdiff = clock_known.mk (w + off) true := by dsimp only [clock_Clock.set_fports]; rw [fset_same]
 generalize K.set_fports (fset K.fports 0 ((K.fports 0).set_fdiff (clock_known.mk (w + off) true))) = K1 at *
 rw [st_2 (K := K1) o0 s0 hO1 hr]
 simp only [oelim_some, hfs]
 obtain ⟨X', h3⟩ := st_3 (w := w) (K := K1.set_fouts []) (G := (G.1, fset (fset G.2 0 K1) 0 (K1.set_fouts []))) (g5 := g5) (g6 := g6) (g7 := (g7.1, fset g7.2 0 ((g7.2 0).set_fr (delay_request.mk 1 (s + 500 + off) true true)))) (g8 := g8) (g9 := g9) (g10 := g10) (g12 := g12) w0 o0 s0 (hO1.outs []) (by simp only [hfs]) hdf1 (X := (g7.2 0).set_fr (delay_request.mk 1 (s + 500 + off) true true)) (by dsimp only; rw [fset_same]) hself rfl hfn hfm
 rw [h3]
 simp only [oelim_some, hfs]
 rw [show ilt 1 0 = false from rfl]
 simp only [cond_false, show ine (ofN ([] : List api_Out).length) 0 = false from rfl]
 have hD : ∀ (K : clock_Clock) (v : clock_known), K8 (K.set_fdelay v) = some ((v.fv, ()), (), ()) := fun _ _ => rfl
 rw [hD]
 simp only [cond_false, oelim_some, ine_self]
 obtain ⟨K5, h5, h7, h8, h9, h10, h4, e2, e9⟩ := st_4 (w := w) (off := off) (s := s) (K := (K1.set_fouts []).set_fdelay (clock_known.mk w true)) (G := (G.1, fset (fset (fset G.2 0 K1) 0 (K1.set_fouts [])) 0 ((K1.set_fouts []).set_fdelay (clock_known.mk w true)))) (g5 := g5) (g6 := g6) (g7 := (g7.1, fset (fset g7.2 0 ((g7.2 0).set_fr (delay_request.mk 1 (s + 500 + off) true true))) 0 X')) (g8 := g8) (g9 := (g9.1, fset g9.2 0 (median_Filter.mk (fset (g9.2 0).fl 0 w) 1 5))) (g10 := g10) (g12 := g12) w0 o0 s0 ((hO1.outs []).delay _) (by simp only [hfs]) rfl hsv
 rw [h4]
 simp only [oelim_some, hneg, hfs]
 rw [show ieq (ofN ([api_Out.mk 2 0 (-off) false 0 0 (ByteArray.mk (List.toArray (lnil UInt8)))]).length) 1 = true from rfl, show inR 0 ([api_Out.mk 2 0 (-off) false 0 0 (ByteArray.mk (List.toArray (lnil UInt8)))]).length = true from rfl]
 simp only [cond_true]
 rw [show (([api_Out.mk 2 0 (-off) false 0 0 (ByteArray.mk (List.toArray (lnil UInt8)))]).getD (Int.toNat 0) api_Out.zero) = api_Out.mk 2 0 (-off) false 0 0 (ByteArray.mk (List.toArray (lnil UInt8))) from rfl]
 simp only [show ieq 2 2 = true from rfl, cond_true, ieq_self]
 unfold K9 K9.gen
 simp only [oelim_some, e2, ieq_self, cond_true]
 rw [e9, awake_true]
 simp only [oelim_some, ieq_self, cond_true]
 exact ⟨_, rfl⟩
theorem smp_end (d o start : Int) (w off s : Int) (hw : d % 1000000 = w) (ho : o % 1073741824 + 30000 = off) (hs : start % 1099511627776 + 10000000 = s) (x : _) (hP : smpP = some x) (hx : x = smpV) :
  ∃ y, K79 d o start e0_ e6_ e2_ e1_ e4_ e3_ e5_ (0, fun _ => []) = some ((true, ()), y, ()) := by
 have w0 : 0 ≤ w ∧ w < 1000000 := by omega
 have o0 : 30000 ≤ off ∧ off < 1073771824 := by omega
 have s0 : 10000000 ≤ s ∧ s < 1099521627776 := by omega
 unfold K79 K79.gen
 rw [place_spec d _ (by decide) (by decide), place_spec o _ (by decide) (by decide), place_spec start _ (by decide) (by decide), hw]
 simp only [oelim_some]
 rw [show iadd .i64 (o % 1073741824) 30000 = off by rw [iadd_of (by omega)]; omega, show iadd .i64 (start % 1099511627776) 10000000 = s by rw [iadd_of (by omega)]; omega]
 unfold smpP at hP
 cases hF : K83 60 1 e0_ e6_ e2_ e1_ e4_ e3_ e5_ (0, fun _ => []) with
 | none => rw [hF] at hP; cases hP
 | some r3 =>
 rw [hF] at hP
 simp only [oelim_some] at hP ⊢
 have hk3 : r3.1.1 = some 0 := by
  have h : (match K83 60 1 e0_ e6_ e2_ e1_ e4_ e3_ e5_ (0, fun _ => []) with | some r => r.1.1 | none => none) = some 0 := by kernel_rfl
  rw [hF] at h
  exact h
 rw [hk3]
 simp only [oelim_some]
 cases hT : K84 1 (r3.2.1.1.2 0) r3.2.1.2.1 r3.2.1.2.2.1 r3.2.1.2.2.2.1 r3.2.1.2.2.2.2.1 r3.2.1.2.2.2.2.2.1 r3.2.1.2.2.2.2.2.2.1 r3.2.1.2.2.2.2.2.2.2.1 with
 | none => rw [hT] at hP; cases hP
 | some r6 =>
 rw [hT] at hP
 simp only [oelim_some] at hP ⊢
 rw [smp_F0, show lnil api_Out = [] from rfl, show K79.F0 ((0, 0, 0, [], 0, ()), some 0, (r3.2.1.1.1, fset r3.2.1.1.2 0 r6.2.1.1), r6.2.1.2) = some x from hP]
 clear hP hT hF hk3
 clear r6 r3
 subst hx
 simp only [Option.map_some, oelim_some]
 have fk := f_k
 rw [fk]
 simp only [oelim_some]
 rw [smp_st]
 simp only [oelim_some, ine_self, cond_false]
 rw [smp_F1 w off s]
 simp only [oelim_some]
 have hOk := smp_ok
 have hkd := smp_kd
 have hself := smp_self
 have hr := smp_r
 have hsv := smp_sv
 have hfn := smp_n
 have hfm := smp_m
 show ∃ y, smpRest ((w, off, s, 1, ()), smpV.2.1, smpN) = _
 exact smp_core w off s w0 o0 s0 smpK hOk hkd _ _ _ _ _ _ _ _ _ fk rfl hself hr hsv hfn hfm
theorem K79.law : ∀ (d : Int) (o : Int) (start : Int), (Lit.int .i64 d).wf = true → (Lit.int .i64 o).wf = true → (Lit.int .i64 start).wf = true → ∃ y, K79 d o start e0_ e6_ e2_ e1_ e4_ e3_ e5_ (0, fun _ => []) = some ((true, ()), y, ()) := by
 intro d o start _ _ _
 exact smp_end d o start _ _ _ rfl rfl rfl smpV (Option.some_get _).symm rfl
end Go.Proofs.YtgnabnhggaondaaGreat
