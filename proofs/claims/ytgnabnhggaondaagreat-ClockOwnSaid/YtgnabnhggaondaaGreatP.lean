/- Typed forms of the functions that these statements reach, proved equal to what the model runs, and laws over them. -/
import Derived.Test.YtgnabnhggaondaaGreatS
import Derived.Test.YtgnabnhggaondaaGreatAr3
import Derived.KernelRfl
namespace Go.Proofs.YtgnabnhggaondaaGreat
open Go.Rf
set_option linter.unusedVariables false
set_option linter.unusedSimpArgs false
set_option maxRecDepth 100000
abbrev e0_ : Nat × (Nat → D .t_clock_Clock) := (0, fun _ => U.dft .t_clock_Clock)
abbrev e1_ : Nat × (Nat → D .t_delay_Exchange) := (0, fun _ => U.dft .t_delay_Exchange)
abbrev e2_ : Nat × (Nat → D .t_foreign_Table) := (0, fun _ => U.dft .t_foreign_Table)
abbrev e3_ : Nat × (Nat → D .t_median_Filter) := (0, fun _ => U.dft .t_median_Filter)
abbrev e4_ : Nat × (Nat → D .t_peer_Exchange) := (0, fun _ => U.dft .t_peer_Exchange)
abbrev e5_ : Nat × (Nat → D .t_seq_Match) := (0, fun _ => U.dft .t_seq_Match)
abbrev e6_ : Nat × (Nat → D .t_servo_Servo) := (0, fun _ => U.dft .t_servo_Servo)
def byteI (e : Int) : UInt8 := UInt8.ofNat (IntKind.u8.wrap e).toNat
def be (v : Int) : Nat → List UInt8
 | 0 => []
 | k + 1 => byteI (ishr .i64 v (8 * (k : Int))) :: be v k
theorem be_length (v : Int) : ∀ k, (be v k).length = k
 | 0 => rfl
 | k + 1 => by simp [be, be_length v k]
theorem put_step (b : List UInt8) (v : Int) (k : Nat) (hk : k < 8) (hb : b.length < 140737488355328) :
  K81.step0 ((b, v, ((k + 1 : Nat) : Int), ()), ()) = some (.inl ((b ++ [byteI (ishr .i64 v (8 * (k : Int)))], v, (k : Int), ()), ())) := by
 have e1 : isub .i64 ((k + 1 : Nat) : Int) 1 = (k : Int) := by have := isub_of (a := ((k + 1 : Nat) : Int)) (b := 1) (by omega); omega
 have e2 : imul .i64 8 (k : Int) = 8 * (k : Int) := imul_of (by omega)
 unfold K81.step0
 simp only [e1, e2, ilt_true (show (0 : Int) < ((k + 1 : Nat) : Int) by omega), ile_true (show (0 : Int) ≤ 8 * (k : Int) by omega), cond_true]
 rw [room_true (by simp; omega)]
 rfl
theorem put_loop (v : Int) : ∀ (k : Nat) (b : List UInt8), k ≤ 8 → b.length + k < 140737488355328 → K81.F0 ((b, v, (k : Int), ()), ()) = some ((b ++ be v k, ()), ()) := by
 intro k b hk hb
 obtain ⟨r, h1, h2⟩ := loopFix_rule (step := K81.step0) (Inv := fun a => ∃ (i : Nat) (c : List UInt8), a = ((c, v, (i : Int), ()), ()) ∧ i ≤ k ∧ c ++ be v i = b ++ be v k)
  (Post := fun r => r = ((b ++ be v k, ()), ())) (m := fun a => a.1.2.2.1.toNat) (by
   rintro x ⟨i, c, rfl, hi, hc⟩
   cases i with
   | zero =>
    refine .inr ⟨_, ?_, rfl⟩
    unfold K81.step0
    simp only [ilt_false (show ¬ (0 : Int) < ((0 : Nat) : Int) by decide), cond_false]
    rw [← hc]; simp [be]
   | succ i =>
    have hcl : c.length + (i + 1) = b.length + k := by
     have := congrArg List.length hc
     simpa [be_length] using this
    refine .inl ⟨_, put_step c v i (by omega) (by omega), ⟨i, _, rfl, by omega, ?_⟩, by simp only [Int.toNat_natCast]; omega⟩
    rw [← hc]; simp [be]) (1000000 + b.length) ((b, v, (k : Int), ()), ()) ⟨k, b, rfl, Nat.le_refl _, rfl⟩ (by simp only [Int.toNat_natCast]; omega)
 subst h2
 exact h1
theorem put_spec (b : List UInt8) (v : Int) (k : Nat) (hk : k ≤ 8) (hb : b.length + k < 140737488355328) : K81 b v (k : Int) = some ((b ++ be v k, ()), ((), ((), ()))) := by
 have e0 : opMinMax true 0 (opMinMax false (k : Int) 8) = (k : Int) := by
  simp only [opMinMax, cond_true, cond_false, imin, imax]
  split <;> split <;> omega
 have e3 : (bif le3 (ofN (0 : Nat)) (ofN b.length) b.length then ieq (ofN b.length) (ofN b.length) else false) = true := by
  simp [le3, ile, ieq]
 have e4 : List.drop (ofN (0 : Nat)).toNat (List.take (ofN b.length).toNat b) = b := by simp
 unfold K81 K81.gen
 simp only [e0, e3, e4, cond_true]
 cases k with
 | zero => simp [ilt, be]
 | succ k =>
  have e1 : isub .i64 ((k + 1 : Nat) : Int) 1 = (k : Int) := by have := isub_of (a := ((k + 1 : Nat) : Int)) (b := 1) (by omega); omega
  have e2 : imul .i64 8 (k : Int) = 8 * (k : Int) := imul_of (by omega)
  simp only [e1, e2, ilt_true (show (0 : Int) < ((k + 1 : Nat) : Int) by omega), ile_true (show (0 : Int) ≤ 8 * (k : Int) by omega), cond_true]
  rw [room_true (by simp; omega)]
  have h := put_loop v k (b ++ [byteI (ishr .i64 v (8 * (k : Int)))]) (by omega) (by simp; omega)
  have h : K81.F0 ((b ++ UInt8.ofNat (IntKind.u8.wrap (ishr .i64 v (8 * (k : Int)))).toNat :: lnil UInt8, v, (k : Int), ()), ()) = _ := h
  rw [h]
  simp [oelim_some, be]
theorem wrap8 (e : Int) : IntKind.u8.wrap e = e % 256 := by
 simp only [IntKind.wrap, IntKind.signed, IntKind.bits, Bool.false_and, Bool.false_eq_true, if_false]; rfl
theorem wrap64 (e : Int) : IntKind.u64.wrap e = e % 18446744073709551616 := by
 simp only [IntKind.wrap, IntKind.signed, IntKind.bits, Bool.false_and, Bool.false_eq_true, if_false]; rfl
theorem emod_split (v m : Int) (hm : 0 < m) : v % (m * 256) = (v / m % 256) * m + v % m := by
 have h : v / (m * 256) = v / m / 256 := by rw [Int.ediv_ediv, if_neg (by omega)]; omega
 rw [Int.emod_def, Int.emod_def (v / m), Int.emod_def v m, h]
 generalize v / m = q
 generalize q / 256 = p
 grind
theorem or_shift (a b : Nat) (h : b < 256) : (a * 256) ||| b = a * 256 + b := by
 have := Nat.shiftLeft_add_eq_or_of_lt (i := 8) (b := b) h a
 rw [Nat.shiftLeft_eq] at this
 exact this.symm
theorem shr8 (v : Int) (i : Nat) (h : i < 8) : ishr .i64 v (8 * (i : Int)) = v / 256 ^ i := by
 have h8 : i = 0 ∨ i = 1 ∨ i = 2 ∨ i = 3 ∨ i = 4 ∨ i = 5 ∨ i = 6 ∨ i = 7 := by omega
 rcases h8 with rfl | rfl | rfl | rfl | rfl | rfl | rfl | rfl
 ·show v.fdiv (2 ^ 0) = _
  rw [Int.fdiv_eq_ediv_of_nonneg _ (by decide)]; rfl
 ·show v.fdiv (2 ^ 8) = _
  rw [Int.fdiv_eq_ediv_of_nonneg _ (by decide)]; rfl
 ·show v.fdiv (2 ^ 16) = _
  rw [Int.fdiv_eq_ediv_of_nonneg _ (by decide)]; rfl
 ·show v.fdiv (2 ^ 24) = _
  rw [Int.fdiv_eq_ediv_of_nonneg _ (by decide)]; rfl
 ·show v.fdiv (2 ^ 32) = _
  rw [Int.fdiv_eq_ediv_of_nonneg _ (by decide)]; rfl
 ·show v.fdiv (2 ^ 40) = _
  rw [Int.fdiv_eq_ediv_of_nonneg _ (by decide)]; rfl
 ·show v.fdiv (2 ^ 48) = _
  rw [Int.fdiv_eq_ediv_of_nonneg _ (by decide)]; rfl
 ·show v.fdiv (2 ^ 56) = _
  rw [Int.fdiv_eq_ediv_of_nonneg _ (by decide)]; rfl
theorem byteI_toNat (e : Int) : ((byteI e).toNat : Int) = e % 256 := by
 unfold byteI
 rw [wrap8, UInt8.toNat_ofNat']
 have h0 := Int.emod_nonneg e (show (256 : Int) ≠ 0 by decide)
 have h1 := Int.emod_lt_of_pos e (show (0 : Int) < 256 by decide)
 omega
def bvalI : Int → List UInt8 → Int
 | a, [] => a
 | a, x :: r => bvalI (a * 256 + (x.toNat : Int)) r
theorem bvalI_be : ∀ (k : Nat) (v a : Int), k ≤ 8 → bvalI a (be v k) = a * 256 ^ k + v % 256 ^ k
 | 0, v, a, _ => by simp [be, bvalI, Int.emod_one]
 | k + 1, v, a, h => by
  rw [be, bvalI, bvalI_be k v _ (by omega), byteI_toNat, shr8 v k (by omega), Int.pow_succ, emod_split v (256 ^ k) (Int.pow_pos (by decide))]
  generalize v / 256 ^ k % 256 = y
  generalize v % 256 ^ k = z
  generalize (256 : Int) ^ k = m
  grind
theorem bvalI_r : ∀ (L : List UInt8) (a : Int), 0 ≤ a → a * 256 ^ L.length ≤ bvalI a L ∧ bvalI a L < (a + 1) * 256 ^ L.length
 | [], a, h => by simp [bvalI]; omega
 | x :: r, a, h => by
  have hx : (x.toNat : Int) < 256 := by have := x.toNat_lt; omega
  have h0 : (0 : Int) ≤ (x.toNat : Int) := by omega
  obtain ⟨h1, h2⟩ := bvalI_r r (a * 256 + (x.toNat : Int)) (by omega)
  rw [bvalI, List.length_cons, Int.pow_succ]
  have hp : (0 : Int) < 256 ^ r.length := Int.pow_pos (by decide)
  generalize (256 : Int) ^ r.length = m at *
  generalize (x.toNat : Int) = y at *
  generalize bvalI (a * 256 + y) r = z at *
  have e1 : a * (m * 256) ≤ (a * 256 + y) * m := by
   have : (a * 256 + y) * m = a * (m * 256) + y * m := by grind
   have : 0 ≤ y * m := Int.mul_nonneg h0 (by omega)
   omega
  have e2 : (a * 256 + y + 1) * m ≤ (a + 1) * (m * 256) := by
   have : (a + 1) * (m * 256) - (a * 256 + y + 1) * m = (255 - y) * m := by grind
   have : 0 ≤ (255 - y) * m := Int.mul_nonneg (by omega) (by omega)
   omega
  omega
theorem read_step (v x : Int) (hv : 0 ≤ v) (hv2 : v < 72057594037927936) (hx : 0 ≤ x) (hx2 : x < 256) : ior .u64 (ishl .u64 v 8) (IntKind.u64.wrap x) = v * 256 + x := by
 have e1 : ishl .u64 v 8 = v * 256 := by
  show IntKind.u64.wrap (v * 2 ^ 8) = _
  rw [wrap64]; omega
 have e2 : IntKind.u64.wrap x = x := by rw [wrap64]; omega
 rw [e1, e2]
 unfold ior
 obtain ⟨a, rfl⟩ : ∃ a : Nat, v = (a : Int) := ⟨v.toNat, by omega⟩
 obtain ⟨b, rfl⟩ : ∃ b : Nat, x = (b : Int) := ⟨x.toNat, by omega⟩
 have f1 : (BitVec.ofInt 64 ((a : Int) * 256)).toNat = a * 256 := by rw [BitVec.toNat_ofInt]; omega
 have f2 : (BitVec.ofInt 64 (b : Int)).toNat = b := by rw [BitVec.toNat_ofInt]; omega
 have : (BitVec.ofInt IntKind.u64.bits ((a : Int) * 256) ||| BitVec.ofInt IntKind.u64.bits (b : Int)).toNat = a * 256 + b := by
  show (BitVec.ofInt 64 ((a : Int) * 256) ||| BitVec.ofInt 64 (b : Int)).toNat = _
  rw [BitVec.toNat_or, f1, f2, or_shift a b (by omega)]
 rw [this, wrap64]; omega
theorem bvalI_app : ∀ (L R : List UInt8) (a : Int), bvalI a (L ++ R) = bvalI (bvalI a L) R
 | [], _, _ => rfl
 | x :: L, R, a => by rw [List.cons_append, bvalI, bvalI, bvalI_app L R]
theorem read_spec (L : List UInt8) (h : L.length ≤ 8) : K85 L = some ((bvalI 0 L, ()), (), ()) := by
 unfold K85 K85.gen K85.F0
 simp only []
 have hl := loop_to (step := K85.step0) (fun i => ((bvalI 0 (L.take i), L, ofN L.length, (i : Int), ()), ())) (b := ((bvalI 0 L, ()), ())) L.length (1000000 + L.length) (by omega) (fun i hi => ?_) ?_
 ·have hl : loopFix (1000000 + L.length) K85.step0 ((0, L, ofN L.length, 0, ()), ()) = some ((bvalI 0 L, ()), ()) := hl
  rw [hl]; rfl
 ·unfold K85.step0
  have hr := bvalI_r (L.take i) 0 (by omega)
  have hlen : (L.take i).length = i := by rw [List.length_take]; omega
  have hp : (256 : Int) ^ i ≤ 256 ^ 7 := by exact_mod_cast Nat.pow_le_pow_right (show 0 < 256 by decide) (show i ≤ 7 by omega)
  rw [hlen] at hr
  have hx := (L[i]).toNat_lt
  have hg : L.getD i 0 = L[i] := getD_at hi
  simp only [ilt_nat, inR_nat, hi, decide_true, cond_true, Int.toNat_natCast, iinc (show i < 4611686018427387904 by omega)]
  have ht : L.take (i + 1) = L.take i ++ [L[i]] := by rw [List.take_add_one, List.getElem?_eq_getElem hi]; rfl
  rw [show List.getD L i (0 : D UC.u8) = L[i] from hg, read_step _ _ (by omega) (by omega) (show (0 : Int) ≤ ((L[i].toNat : Nat) : Int) by omega) (show ((L[i].toNat : Nat) : Int) < 256 by omega), ht, bvalI_app]
  rfl
 ·unfold K85.step0
  simp only [ilt_nat, Nat.lt_irrefl, decide_false, cond_false, List.take_length]
theorem none_ok (b : List UInt8) (at_1 n : Int) (h0 : 0 ≤ at_1) (h1 : 0 ≤ n) (h2 : at_1 + n ≤ (b.length : Int)) (hb : b.length < 1000000) : K84 b at_1 n = some ((false, ()), (), ()) := by
 unfold K84 K84.gen
 have e : isub .i64 (ofN b.length) at_1 = (b.length : Int) - at_1 := isub_of (a := (b.length : Int)) (by omega)
 rw [ilt_false (show ¬ n < 0 by omega), ilt_false (show ¬ at_1 < 0 by omega), ilt_false (show ¬ ((b.length : Nat) : Int) < at_1 by omega), e, ilt_false (show ¬ (b.length : Int) - at_1 < n by omega)]
 rfl
theorem le3_ok {a b : Int} {n : Nat} (h0 : 0 ≤ a) (h1 : a ≤ b) (h2 : b ≤ (n : Int)) : le3 a b n = true := by
 unfold le3; simp [ile, h0, h1, h2]
theorem get_spec (b : List UInt8) (at_1 n : Int) (h0 : 0 ≤ at_1) (h1 : 1 ≤ n) (h7 : n ≤ 7) (h2 : at_1 + n ≤ (b.length : Int)) (hb : b.length < 1000000) :
  K79 b at_1 n = some ((bvalI 0 ((b.take (at_1 + n).toNat).drop at_1.toNat), (true, ())), (), ()) := by
 unfold K79 K79.gen
 have e : iadd .i64 at_1 n = at_1 + n := iadd_of (by omega)
 have hl : ((b.take (at_1 + n).toNat).drop at_1.toNat).length = n.toNat := by rw [List.length_drop, List.length_take]; omega
 rw [ilt_false (show ¬ n < 1 by omega), ilt_false (show ¬ 7 < n by omega), none_ok b at_1 n h0 (by omega) h2 hb]
 simp only [cond_false, oelim_some]
 rw [e, le3_ok h0 (by omega) h2, read_spec _ (by omega)]
 simp only [cond_true, oelim_some]
 have hr := bvalI_r ((b.take (at_1 + n).toNat).drop at_1.toNat) 0 (by omega)
 have hp : (256 : Int) ^ n.toNat ≤ 256 ^ 7 := by exact_mod_cast Nat.pow_le_pow_right (show 0 < 256 by decide) (show n.toNat ≤ 7 by omega)
 rw [hl] at hr
 rw [show IntKind.i64.wrap (bvalI 0 ((b.take (at_1 + n).toNat).drop at_1.toNat)) = bvalI 0 ((b.take (at_1 + n).toNat).drop at_1.toNat) by rw [iwrap]; omega]
def sgn (v : Int) (n : Int) : Int := ishr .i64 (IntKind.i64.wrap (ishl .u64 v (64 - 8 * n))) (64 - 8 * n)
theorem signed_spec (b : List UInt8) (at_1 n : Int) (h0 : 0 ≤ at_1) (h1 : 1 ≤ n) (h7 : n ≤ 8) (h2 : at_1 + n ≤ (b.length : Int)) (hb : b.length < 1000000) :
  K83 b at_1 n = some ((sgn (bvalI 0 ((b.take (at_1 + n).toNat).drop at_1.toNat)) n, (true, ())), (), ()) := by
 unfold K83 K83.gen
 have e : iadd .i64 at_1 n = at_1 + n := iadd_of (by omega)
 have e1 : imul .i64 8 n = 8 * n := imul_of (by omega)
 have e2 : isub .i64 64 (8 * n) = 64 - 8 * n := isub_of (by omega)
 have hl : ((b.take (at_1 + n).toNat).drop at_1.toNat).length = n.toNat := by rw [List.length_drop, List.length_take]; omega
 rw [ilt_false (show ¬ n < 1 by omega), ilt_false (show ¬ 8 < n by omega), none_ok b at_1 n h0 (by omega) h2 hb]
 simp only [cond_false, oelim_some]
 rw [e, le3_ok h0 (by omega) h2, read_spec _ (by omega)]
 simp only [cond_true, oelim_some, e1, e2]
 rw [ile_true (show (0 : Int) ≤ 64 - 8 * n by omega)]
 rfl
theorem sgn8 (v : Int) : sgn v 8 = IntKind.i64.wrap v := by
 unfold sgn
 show (IntKind.i64.wrap (IntKind.u64.wrap (v * 2 ^ 0))).fdiv (2 ^ 0) = _
 rw [Int.fdiv_eq_ediv_of_nonneg _ (by decide), iwrap, iwrap, wrap64]
 omega
theorem sgn1 (v : Int) (h0 : -128 ≤ v) (h1 : v ≤ 127) : sgn (v % 256) 1 = v := by
 unfold sgn
 show (IntKind.i64.wrap (IntKind.u64.wrap (v % 256 * 2 ^ 56))).fdiv (2 ^ 56) = _
 rw [Int.fdiv_eq_ediv_of_nonneg _ (by decide), iwrap, wrap64]
 omega
theorem sgn2 (v : Int) (h0 : -32768 ≤ v) (h1 : v ≤ 32767) : sgn (v % 65536) 2 = v := by
 unfold sgn
 show (IntKind.i64.wrap (IntKind.u64.wrap (v % 65536 * 2 ^ 48))).fdiv (2 ^ 48) = _
 rw [Int.fdiv_eq_ediv_of_nonneg _ (by decide), iwrap, wrap64]
 omega
theorem put1 (b : List UInt8) (v : Int) (h : b.length < 1000000) : K81 b v 1 = some ((b ++ be v 1, ()), ((), ((), ()))) := put_spec b v 1 (by omega) (by omega)
theorem put2 (b : List UInt8) (v : Int) (h : b.length < 1000000) : K81 b v 2 = some ((b ++ be v 2, ()), ((), ((), ()))) := put_spec b v 2 (by omega) (by omega)
theorem put4 (b : List UInt8) (v : Int) (h : b.length < 1000000) : K81 b v 4 = some ((b ++ be v 4, ()), ((), ((), ()))) := put_spec b v 4 (by omega) (by omega)
theorem put6 (b : List UInt8) (v : Int) (h : b.length < 1000000) : K81 b v 6 = some ((b ++ be v 6, ()), ((), ((), ()))) := put_spec b v 6 (by omega) (by omega)
theorem put8 (b : List UInt8) (v : Int) (h : b.length < 1000000) : K81 b v 8 = some ((b ++ be v 8, ()), ((), ((), ()))) := put_spec b v 8 (by omega) (by omega)
theorem getN {L : List UInt8} {at_1 n v : Int} (k : Nat) (h0 : 0 ≤ at_1) (h1 : 1 ≤ n) (h7 : n ≤ 7) (hk : n = (k : Int)) (h2 : at_1 + n ≤ (L.length : Int)) (hb : L.length < 1000000)
  (h : (L.take (at_1 + n).toNat).drop at_1.toNat = be v k) : K79 L at_1 n = some ((v % 256 ^ k, (true, ())), (), ()) := by
 rw [get_spec L at_1 n h0 h1 h7 h2 hb, h, bvalI_be k v 0 (by omega)]
 simp
theorem sgnN {L : List UInt8} {at_1 n v : Int} (k : Nat) (h0 : 0 ≤ at_1) (h1 : 1 ≤ n) (h7 : n ≤ 8) (hk : n = (k : Int)) (h2 : at_1 + n ≤ (L.length : Int)) (hb : L.length < 1000000)
  (h : (L.take (at_1 + n).toNat).drop at_1.toNat = be v k) : K83 L at_1 n = some ((sgn (v % 256 ^ k) n, (true, ())), (), ()) := by
 rw [signed_spec L at_1 n h0 h1 h7 h2 hb, h, bvalI_be k v 0 (by omega)]
 simp
theorem idN {L : List UInt8} {at_1 v : Int} (h0 : 0 ≤ at_1) (h2 : at_1 + 8 ≤ (L.length : Int)) (hb : L.length < 1000000) (hv : 0 ≤ v) (hv2 : v < 18446744073709551616)
  (h : (L.take (at_1 + 8).toNat).drop at_1.toNat = be (IntKind.i64.wrap v) 8) : K80 L at_1 = some ((v, (true, ())), (), ()) := by
 unfold K80 K80.gen
 rw [sgnN 8 h0 (by omega) (by omega) (by omega) h2 hb h, oelim_some, sgn8, wrap64]
 have : IntKind.i64.wrap (IntKind.i64.wrap v % 256 ^ 8) % 18446744073709551616 = v := by rw [iwrap, iwrap]; omega
 rw [this]
theorem identN {L : List UInt8} {at_1 : Int} {p : api_PortID} (h0 : 0 ≤ at_1) (h2 : at_1 + 10 ≤ (L.length : Int)) (hb : L.length < 1000000) (hv : 0 ≤ p.fClock) (hv2 : p.fClock < 18446744073709551616) (hp : 0 ≤ p.fPort) (hp2 : p.fPort ≤ 65535)
  (h : (L.take (at_1 + 8).toNat).drop at_1.toNat = be (IntKind.i64.wrap p.fClock) 8) (h' : (L.take (at_1 + 8 + 2).toNat).drop (at_1 + 8).toNat = be p.fPort 2) : K69 L at_1 = some ((p, (true, ())), (), ()) := by
 unfold K69 K69.gen
 have e : isub .i64 (ofN L.length) at_1 = (L.length : Int) - at_1 := isub_of (a := (L.length : Int)) (by omega)
 have e2 : iadd .i64 at_1 8 = at_1 + 8 := iadd_of (by omega)
 rw [ilt_false (show ¬ at_1 < 0 by omega), ilt_false (show ¬ ((L.length : Nat) : Int) < at_1 by omega), e, ilt_false (show ¬ (L.length : Int) - at_1 < 10 by omega)]
 simp only [cond_false, oelim_some]
 rw [idN h0 (by omega) hb hv hv2 h, e2, getN 2 (by omega) (by omega) (by omega) (by omega) (by omega) hb h']
 simp only [oelim_some]
 rw [show p.fPort % 256 ^ 2 = p.fPort by omega]
theorem may_stamp {t : Int} (h0 : 0 ≤ t) (h1 : t ≤ 4000000000000000) : K105 t = some ((true, ()), (), ()) := by
 unfold K105 K105.gen
 rw [ile_true h0, ile_true h1]; rfl
theorem stampN {L : List UInt8} {at_1 t : Int} (h0 : 0 ≤ at_1) (h2 : at_1 + 10 ≤ (L.length : Int)) (hb : L.length < 1000000) (ht : 0 ≤ t) (ht2 : t ≤ 4000000000000000)
  (h : (L.take (at_1 + 6).toNat).drop at_1.toNat = be (t / 1000000000) 6) (h' : (L.take (at_1 + 6 + 4).toNat).drop (at_1 + 6).toNat = be (t % 1000000000) 4) : K104 L at_1 = some ((t, (true, ())), (), ()) := by
 unfold K104 K104.gen
 have e : isub .i64 (ofN L.length) at_1 = (L.length : Int) - at_1 := isub_of (a := (L.length : Int)) (by omega)
 have e2 : iadd .i64 at_1 6 = at_1 + 6 := iadd_of (by omega)
 rw [ilt_false (show ¬ at_1 < 0 by omega), ilt_false (show ¬ ((L.length : Nat) : Int) < at_1 by omega), e, ilt_false (show ¬ (L.length : Int) - at_1 < 10 by omega)]
 simp only [cond_false, oelim_some]
 rw [getN 6 h0 (by omega) (by omega) (by omega) (by omega) hb h, e2, getN 4 (by omega) (by omega) (by omega) (by omega) (by omega) hb h']
 simp only [oelim_some]
 have a1 : t / 1000000000 % 256 ^ 6 = t / 1000000000 := by omega
 have a2 : t % 1000000000 % 256 ^ 4 = t % 1000000000 := by omega
 have a3 : imul .i64 (t / 1000000000) 1000000000 = t / 1000000000 * 1000000000 := imul_of (by omega)
 have a4 : iadd .i64 (t / 1000000000 * 1000000000) (t % 1000000000) = t := by rw [iadd_of (by omega)]; omega
 rw [a1, a2, a3, a4, ile_false (show ¬ 1000000000 ≤ t % 1000000000 by omega), ilt_false (show ¬ 4000000 < t / 1000000000 by omega), may_stamp ht ht2]
 rfl
theorem putS (b : List UInt8) {t : Int} (h0 : 0 ≤ t) (h1 : t ≤ 4000000000000000) (h : b.length < 900000) : K106 b t = some ((b ++ be (t / 1000000000) 6 ++ be (t % 1000000000) 4, ()), (), ()) := by
 unfold K106 K106.gen
 rw [may_stamp h0 h1]
 simp only [oelim_some, Bool.not_true, cond_false]
 have e1 : iquo .i64 t 1000000000 = t / 1000000000 := by
  unfold iquo
  rw [Int.tdiv_eq_ediv_of_nonneg h0, iwrap]; omega
 have e2 : irem t 1000000000 = t % 1000000000 := by
  unfold irem
  rw [Int.tmod_eq_emod_of_nonneg h0]
 rw [e1, put6 b _ (by omega)]
 simp only [oelim_some]
 rw [e2, put4 _ _ (by rw [List.length_append, be_length]; omega)]
 rfl
theorem putI (b : List UInt8) (p : api_PortID) (h : b.length < 900000) : K71 b p = some ((b ++ be (IntKind.i64.wrap p.fClock) 8 ++ be p.fPort 2, ()), (), ()) := by
 unfold K71 K71.gen K82 K82.gen
 rw [put8 b _ (by omega)]
 simp only [oelim_some]
 rw [put2 _ _ (by rw [List.length_append, be_length]; omega)]
 rfl
abbrev bs (l : List UInt8) : ByteArray := ByteArray.mk l.toArray
theorem bs_data (l : List UInt8) : (bs l).data.toList = l := by show l.toArray.toList = l; simp
theorem bs_eta (s : ByteArray) : bs s.data.toList = s := by cases s; simp [bs]
theorem bs_ext {s t : ByteArray} (h : s.data.toList = t.data.toList) : s = t := by rw [← bs_eta s, ← bs_eta t, h]
theorem bs_size (l : List UInt8) : (bs l).size = l.length := by show l.toArray.size = _; simp
theorem bs_append (a b : List UInt8) : bs a ++ bs b = bs (a ++ b) := by
 apply bs_ext
 rw [ByteArray.data_append, Array.toList_append, bs_data, bs_data, bs_data]
abbrev api_PortID.z : api_PortID := api_PortID.mk 0 0
def msgH (ty ctl len dom fl co cl po sq lg : Int) : List UInt8 :=
 byteI ty :: UInt8.ofNat (Int.toNat 18) :: [] ++ be len 2 ++ be dom 1 ++ be 0 1 ++ be fl 2 ++ be co 8 ++ be 0 4 ++ be (IntKind.i64.wrap cl) 8 ++ be po 2 ++ be sq 2 ++ be ctl 1 ++ be lg 1
def msgS (st : Int) : List UInt8 := [] ++ be (st / 1000000000) 6 ++ be (st % 1000000000) 4
structure HdOk (dom fl co : Int) (src : api_PortID) (sq lg : Int) : Prop where
 d0 : 0 ≤ dom
 d1 : dom ≤ 255
 f0 : 0 ≤ fl
 f1 : fl ≤ 65535
 c0 : -9223372036854775808 ≤ co
 c1 : co < 9223372036854775808
 k0 : 0 ≤ src.fClock
 k1 : src.fClock < 18446744073709551616
 p0 : 0 ≤ src.fPort
 p1 : src.fPort ≤ 65535
 s0 : 0 ≤ sq
 s1 : sq ≤ 65535
 l0 : -128 ≤ lg
 l1 : lg ≤ 127
theorem hin_ok {v a b : Int} (h0 : a ≤ v) (h1 : v ≤ b) : K67 v a b = some ((true, ()), (), ()) := by
 unfold K67 K67.gen
 rw [ile_true h0, ile_true h1]; rfl
theorem bin_ok {v a b : Int} (h0 : a ≤ v) (h1 : v ≤ b) : K4 v a b = some ((true, ()), (), ()) := by
 unfold K4 K4.gen
 rw [ile_true h0, ile_true h1]; rfl
theorem imay_ok {p : api_PortID} (h0 : 0 ≤ p.fPort) (h1 : p.fPort ≤ 65535) : K70 p = some ((true, ()), (), ()) := by
 unfold K70 K70.gen
 rw [ile_true h0, ile_true h1]; rfl
theorem hcheck_ok {m : api_Msg} (hk : K64 m.fType = some ((true, ()), (), ())) (h : HdOk m.fDomain m.fFlags m.fCorr m.fSource m.fSeq m.fLog) : K62 m = some ((true, ()), (), ()) := by
 unfold K62 K62.gen
 rw [hk, hin_ok h.d0 h.d1, hin_ok h.f0 h.f1, imay_ok h.p0 h.p1, hin_ok h.s0 h.s1, hin_ok h.l0 h.l1]
 rfl
theorem header_put {m : api_Msg} {len ctl : Int} (hk : K64 m.fType = some ((true, ()), (), ())) (hc : K66 m.fType = some ((ctl, ()), (), ())) (h : HdOk m.fDomain m.fFlags m.fCorr m.fSource m.fSeq m.fLog) (h0 : 34 ≤ len) (h1 : len ≤ 400) :
  K65 m len = some ((msgH m.fType ctl len m.fDomain m.fFlags m.fCorr m.fSource.fClock m.fSource.fPort m.fSeq m.fLog, (true, ())), (), ()) := by
 unfold K65 K65.gen
 rw [hcheck_ok hk h, hin_ok h0 h1]
 simp only [oelim_some, Bool.not_true, cond_false]
 rw [put2 _ _ (by simp)]
 simp only [oelim_some]
 rw [put1 _ _ (by simp [be_length])]
 simp only [oelim_some]
 rw [put1 _ _ (by simp [be_length])]
 simp only [oelim_some]
 rw [put2 _ _ (by simp [be_length])]
 simp only [oelim_some]
 rw [put8 _ _ (by simp [be_length])]
 simp only [oelim_some]
 rw [put4 _ _ (by simp [be_length])]
 simp only [oelim_some]
 rw [putI _ _ (by simp [be_length])]
 simp only [oelim_some]
 rw [put2 _ _ (by simp [be_length]), hc]
 simp only [oelim_some]
 rw [put1 _ _ (by simp [be_length])]
 simp only [oelim_some]
 rw [put1 _ _ (by simp [be_length])]
 rfl
theorem tlv_put_nil (b : List UInt8) : K118 b [] = some ((b, (true, ())), (), ()) := by
 have e3 : (bif le3 (ofN (0 : Nat)) (ofN b.length) b.length then ieq (ofN b.length) (ofN b.length) else false) = true := by
  simp [le3, ile, ieq]
 have e4 : List.drop (ofN (0 : Nat)).toNat (List.take (ofN b.length).toNat b) = b := by simp
 unfold K118 K118.gen
 simp only [e3, e4, cond_true]
 have h : K118.F0 ((b, b, [], ofN ([] : List api_Tlv).length, 0, ()), ()) = some (.inl ((b, ()), ())) := by
  unfold K118.F0
  refine loop_to (fun _ => ((b, b, [], ofN ([] : List api_Tlv).length, 0, ()), ())) 0 _ (by show 0 < 1000000 + _; omega) (fun i hi => absurd hi (Nat.not_lt_zero _)) ?_
  unfold K118.step0
  rw [ilt_false (show ¬ (0 : Int) < ofN ([] : List api_Tlv).length by decide)]
  rfl
 have h8 : ilt 8 (ofN ([] : List api_Tlv).length) = false := by decide
 rw [h8]
 simp only [cond_false]
 rw [h]
 rfl
theorem tlv_get_nil (L : List UInt8) (n : Nat) (h : L.length = n) : K114 L (n : Int) = some (([], (0, ())), (), ()) := by
 unfold K114 K114.gen
 rw [ilt_false (show ¬ (n : Int) < 0 by omega), ilt_false (show ¬ ((L.length : Nat) : Int) < (n : Int) by omega)]
 simp only [cond_false, oelim_some]
 have hl : K114.F1 ((L, (n : Int), lnil api_Tlv, 0, ()), ()) = some ((lnil api_Tlv, 0, ()), ()) := by
  unfold K114.F1
  refine loop_to (step := K114.step1 _) (fun _ => ((L, (n : Int), lnil api_Tlv, 0, ()), ())) 0 _ (by show 0 < 1000000 + _; omega) (fun i hi => absurd hi (Nat.not_lt_zero _)) ?_
  unfold K114.step1
  rw [ilt_false (show ¬ (n : Int) < ((L.length : Nat) : Int) by omega)]
  rfl
 rw [hl]
 rfl
def msgA (ty ctl dom fl co : Int) (src : api_PortID) (sq lg st : Int) : List UInt8 := msgH ty ctl 44 dom fl co src.fClock src.fPort sq lg ++ msgS st
abbrev msg0 (ty dom fl co : Int) (src : api_PortID) (sq lg st : Int) (tgt : api_PortID) : api_Msg := api_Msg.mk ty dom fl co src sq lg st tgt 0 0 (api_Quality.mk 0 0 0) 0 0 0 0 0 0 0
theorem put_A {ty ctl dom fl co sq lg st : Int} {src : api_PortID} (hty : (ty = 0 ∧ ctl = 0) ∨ (ty = 1 ∧ ctl = 1) ∨ (ty = 8 ∧ ctl = 2)) (h : HdOk dom fl co src sq lg) (ht : 0 ≤ st) (ht2 : st ≤ 4000000000000000) :
  K61 (msg0 ty dom fl co src sq lg st api_PortID.z) [] = some ((bs (msgA ty ctl dom fl co src sq lg st), (true, ())), (), ()) := by
 have hk : K64 ty = some ((true, ()), (), ()) := by rcases hty with ⟨rfl, rfl⟩ | ⟨rfl, rfl⟩ | ⟨rfl, rfl⟩ <;> kernel_rfl
 have hc : K66 ty = some ((ctl, ()), (), ()) := by rcases hty with ⟨rfl, rfl⟩ | ⟨rfl, rfl⟩ | ⟨rfl, rfl⟩ <;> kernel_rfl
 have hst : K6 ty = some ((true, ()), (), ()) := by rcases hty with ⟨rfl, rfl⟩ | ⟨rfl, rfl⟩ | ⟨rfl, rfl⟩ <;> kernel_rfl
 have htg : K7 ty = some ((false, ()), (), ()) := by rcases hty with ⟨rfl, rfl⟩ | ⟨rfl, rfl⟩ | ⟨rfl, rfl⟩ <;> kernel_rfl
 have n2 : ieq ty 2 = false := by rcases hty with ⟨rfl, rfl⟩ | ⟨rfl, rfl⟩ | ⟨rfl, rfl⟩ <;> rfl
 have n11 : ieq ty 11 = false := by rcases hty with ⟨rfl, rfl⟩ | ⟨rfl, rfl⟩ | ⟨rfl, rfl⟩ <;> rfl
 have n13 : ieq ty 13 = false := by rcases hty with ⟨rfl, rfl⟩ | ⟨rfl, rfl⟩ | ⟨rfl, rfl⟩ <;> rfl
 have hown : K5 (msg0 ty dom fl co src sq lg st api_PortID.z) = some ((msg0 ty dom fl co src sq lg st api_PortID.z, ()), (), ()) := by
  rcases hty with ⟨rfl, rfl⟩ | ⟨rfl, rfl⟩ | ⟨rfl, rfl⟩ <;> kernel_rfl
 have hq : K96 (api_Quality.mk 0 0 0) = some ((true, ()), (), ()) := by kernel_rfl
 have hchk : K0 (msg0 ty dom fl co src sq lg st api_PortID.z) = some ((true, ()), (), ()) := by
  unfold K0 K0.gen
  rw [hcheck_ok hk h, hown, may_stamp ht ht2, imay_ok (p := api_PortID.z) (by decide) (by decide), hq]
  simp only [oelim_some, ieq_self, cond_true, bin_ok (show (-32768 : Int) ≤ 0 by decide) (show (0 : Int) ≤ 32767 by decide), bin_ok (show (0 : Int) ≤ 0 by decide) (show (0 : Int) ≤ 255 by decide), bin_ok (show (0 : Int) ≤ 0 by decide) (show (0 : Int) ≤ 65535 by decide), bin_ok (show (0 : Int) ≤ 0 by decide) (show (0 : Int) ≤ 15 by decide)]
 have hb : K3 (lnil UInt8) (msg0 ty dom fl co src sq lg st api_PortID.z) = some ((msgS st, (true, ())), (), ()) := by
  unfold K3 K3.gen
  rw [hchk, hst]
  simp only [oelim_some, Bool.not_true, cond_false, cond_true, htg, n2, n11, n13]
  rw [putS _ ht ht2 (by simp)]
  rcases hty with ⟨rfl, rfl⟩ | ⟨rfl, rfl⟩ | ⟨rfl, rfl⟩ <;> kernel_rfl
 unfold K61 K61.gen
 rw [hb]
 simp only [oelim_some, Bool.not_true, cond_false]
 rw [tlv_put_nil]
 simp only [oelim_some, Bool.not_true, cond_false]
 rw [show iadd .i64 34 (ofN (msgS st).length) = 44 by kernel_rfl, header_put (len := 44) hk hc h (by decide) (by decide)]
 simp only [oelim_some, Bool.not_true, cond_false]
 rw [show Nat.ble ((bs (msgH ty ctl 44 dom fl co src.fClock src.fPort sq lg)).size + (bs (msgS st)).size) 9223372036854775807 = true by rw [bs_size, bs_size]; kernel_rfl]
 simp only [cond_true]
 show some ((bs _ ++ bs _, _), _) = _
 rw [bs_append]
 rfl
theorem get_A {ty ctl dom fl co sq lg st : Int} {src : api_PortID} (hty : (ty = 0 ∧ ctl = 0) ∨ (ty = 1 ∧ ctl = 1) ∨ (ty = 8 ∧ ctl = 2)) (h : HdOk dom fl co src sq lg) (ht : 0 ≤ st) (ht2 : st ≤ 4000000000000000) :
  K59 (bs (msgA ty ctl dom fl co src sq lg st)) = some ((msg0 ty dom fl co src sq lg st api_PortID.z, ([], (0, ()))), (), ()) := by
 have hlen : (msgA ty ctl dom fl co src sq lg st).length = 44 := by kernel_rfl
 have g2 : K79 (msgA ty ctl dom fl co src sq lg st) 2 2 = some ((44, (true, ())), (), ()) := getN (v := 44) 2 (by decide) (by decide) (by decide) (by decide) (by omega) (by omega) (by kernel_rfl)
 have g6 : K79 (msgA ty ctl dom fl co src sq lg st) 6 2 = some ((fl, (true, ())), (), ()) := by
  rw [getN (v := fl) 2 (by decide) (by decide) (by decide) (by decide) (by omega) (by omega) (by kernel_rfl)]
  rw [show fl % 256 ^ 2 = fl by have := h.f0; have := h.f1; omega]
 have g8 : K83 (msgA ty ctl dom fl co src sq lg st) 8 8 = some ((co, (true, ())), (), ()) := by
  rw [sgnN (v := co) 8 (by decide) (by decide) (by decide) (by decide) (by omega) (by omega) (by kernel_rfl), sgn8]
  rw [show IntKind.i64.wrap (co % 256 ^ 8) = co by have := h.c0; have := h.c1; rw [iwrap]; omega]
 have g20 : K69 (msgA ty ctl dom fl co src sq lg st) 20 = some ((src, (true, ())), (), ()) := identN (by decide) (by omega) (by omega) h.k0 h.k1 h.p0 h.p1 (by kernel_rfl) (by kernel_rfl)
 have g30 : K79 (msgA ty ctl dom fl co src sq lg st) 30 2 = some ((sq, (true, ())), (), ()) := by
  rw [getN (v := sq) 2 (by decide) (by decide) (by decide) (by decide) (by omega) (by omega) (by kernel_rfl)]
  rw [show sq % 256 ^ 2 = sq by have := h.s0; have := h.s1; omega]
 have g33 : K83 (msgA ty ctl dom fl co src sq lg st) 33 1 = some ((lg, (true, ())), (), ()) := by
  rw [sgnN (v := lg) 1 (by decide) (by decide) (by decide) (by decide) (by omega) (by omega) (by kernel_rfl)]
  rw [show sgn (lg % 256 ^ 1) 1 = lg from sgn1 lg h.l0 h.l1]
 have g34 : K104 (msgA ty ctl dom fl co src sq lg st) 34 = some ((st, (true, ())), (), ()) := stampN (by decide) (by omega) (by omega) ht ht2 (by kernel_rfl) (by kernel_rfl)
 have hty0 : IntKind.i64.wrap (ofN (UInt8.toNat (List.getD (msgA ty ctl dom fl co src sq lg st) (Int.toNat 0) (0 : D UC.u8)))) = ty := by
  rcases hty with ⟨rfl, rfl⟩ | ⟨rfl, rfl⟩ | ⟨rfl, rfl⟩ <;> kernel_rfl
 have hd4 : IntKind.i64.wrap (ofN (UInt8.toNat (List.getD (msgA ty ctl dom fl co src sq lg st) (Int.toNat 4) (0 : D UC.u8)))) = dom := by
  have : List.getD (msgA ty ctl dom fl co src sq lg st) (Int.toNat 4) (0 : D UC.u8) = byteI (ishr .i64 dom (8 * ((0 : Nat) : Int))) := by kernel_rfl
  rw [this, show ofN (byteI (ishr .i64 dom (8 * ((0 : Nat) : Int)))).toNat = ((byteI (ishr .i64 dom (8 * ((0 : Nat) : Int)))).toNat : Int) from rfl, byteI_toNat, shr8 dom 0 (by decide)]
  have := h.d0; have := h.d1
  rw [iwrap]; omega
 have hk : K64 ty = some ((true, ()), (), ()) := by rcases hty with ⟨rfl, rfl⟩ | ⟨rfl, rfl⟩ | ⟨rfl, rfl⟩ <;> kernel_rfl
 have hh : K63 (msgA ty ctl dom fl co src sq lg st) = some ((msg0 ty dom fl co src sq lg 0 api_PortID.z, (44, (0, ()))), (), ()) := by
  unfold K63 K63.gen
  rw [g2, g6, g8, g20, g30, g33, hty0, hd4, hk, hlen]
  kernel_rfl
 have hb : K1 (msg0 ty dom fl co src sq lg 0 api_PortID.z) (msgA ty ctl dom fl co src sq lg st) 34 = some ((msg0 ty dom fl co src sq lg st api_PortID.z, (44, (0, ()))), (), ()) := by
  unfold K1 K1.gen
  rw [g34, hlen]
  rcases hty with ⟨rfl, rfl⟩ | ⟨rfl, rfl⟩ | ⟨rfl, rfl⟩ <;> kernel_rfl
 unfold K59 K59.gen
 rw [bs_data, hh]
 simp only [oelim_some, ine_self, cond_false]
 rw [hb]
 simp only [oelim_some, ine_self, cond_false]
 rw [show K114 (msgA ty ctl dom fl co src sq lg st) 44 = _ from tlv_get_nil _ 44 hlen]
 rfl
structure AnnOk (ut p1 : Int) (q : api_Quality) (p2 gr sp og : Int) : Prop where
 u0 : -32768 ≤ ut
 u1 : ut ≤ 32767
 a0 : 0 ≤ p1
 a1 : p1 ≤ 255
 q0 : 0 ≤ q.fClass
 q1 : q.fClass ≤ 255
 q2 : 0 ≤ q.fAccuracy
 q3 : q.fAccuracy ≤ 255
 q4 : 0 ≤ q.fVariance
 q5 : q.fVariance ≤ 65535
 b0 : 0 ≤ p2
 b1 : p2 ≤ 255
 g0 : 0 ≤ gr
 g1 : gr < 18446744073709551616
 s0 : 0 ≤ sp
 s1 : sp ≤ 65535
 o0 : 0 ≤ og
 o1 : og ≤ 255
def msgT (ut p1 : Int) (q : api_Quality) (p2 gr sp og : Int) : List UInt8 := be ut 2 ++ be 0 1 ++ be p1 1 ++ be q.fClass 1 ++ be q.fAccuracy 1 ++ be q.fVariance 2 ++ be p2 1 ++ be (IntKind.i64.wrap gr) 8 ++ be sp 2 ++ be og 1
abbrev msgAn (dom fl co : Int) (src : api_PortID) (sq lg st ut p1 : Int) (q : api_Quality) (p2 gr sp og : Int) : api_Msg := api_Msg.mk 11 dom fl co src sq lg st api_PortID.z ut p1 q p2 gr sp og 0 0 0
theorem qmay_ok {q : api_Quality} (h0 : 0 ≤ q.fClass) (h1 : q.fClass ≤ 255) (h2 : 0 ≤ q.fAccuracy) (h3 : q.fAccuracy ≤ 255) (h4 : 0 ≤ q.fVariance) (h5 : q.fVariance ≤ 65535) : K96 q = some ((true, ()), (), ()) := by
 unfold K96 K96.gen
 simp only [ile_true h0, ile_true h1, ile_true h2, ile_true h3, ile_true h4, ile_true h5, cond_true, oelim_some]
theorem putQ (b : List UInt8) (q : api_Quality) (h : b.length < 900000) : K97 b q = some ((b ++ be q.fClass 1 ++ be q.fAccuracy 1 ++ be q.fVariance 2, ()), (), ()) := by
 unfold K97 K97.gen
 rw [put1 b _ (by omega)]
 simp only [oelim_some]
 rw [put1 _ _ (by rw [List.length_append, be_length]; omega)]
 simp only [oelim_some]
 rw [put2 _ _ (by simp only [List.length_append, be_length]; omega)]
 rfl
theorem qualN {L : List UInt8} {at_1 : Int} {q : api_Quality} (h0 : 0 ≤ at_1) (h2 : at_1 + 4 ≤ (L.length : Int)) (hb : L.length < 1000000) (a0 : 0 ≤ q.fClass) (a1 : q.fClass ≤ 255) (a2 : 0 ≤ q.fAccuracy) (a3 : q.fAccuracy ≤ 255) (a4 : 0 ≤ q.fVariance) (a5 : q.fVariance ≤ 65535)
  (e1 : (L.take (at_1 + 1).toNat).drop at_1.toNat = be q.fClass 1) (e2 : (L.take (at_1 + 1 + 1).toNat).drop (at_1 + 1).toNat = be q.fAccuracy 1) (e3 : (L.take (at_1 + 2 + 2).toNat).drop (at_1 + 2).toNat = be q.fVariance 2) : K95 L at_1 = some ((q, (true, ())), (), ()) := by
 unfold K95 K95.gen
 have e : isub .i64 (ofN L.length) at_1 = (L.length : Int) - at_1 := isub_of (a := (L.length : Int)) (by omega)
 have f1 : iadd .i64 at_1 1 = at_1 + 1 := iadd_of (by omega)
 have f2 : iadd .i64 at_1 2 = at_1 + 2 := iadd_of (by omega)
 rw [ilt_false (show ¬ at_1 < 0 by omega), ilt_false (show ¬ ((L.length : Nat) : Int) < at_1 by omega), e, ilt_false (show ¬ (L.length : Int) - at_1 < 4 by omega)]
 simp only [cond_false, oelim_some]
 rw [getN 1 h0 (by omega) (by omega) (by omega) (by omega) hb e1, f1, getN 1 (by omega) (by omega) (by omega) (by omega) (by omega) hb e2, f2, getN 2 (by omega) (by omega) (by omega) (by omega) (by omega) hb e3]
 simp only [oelim_some]
 rw [show q.fClass % 256 ^ 1 = q.fClass by omega, show q.fAccuracy % 256 ^ 1 = q.fAccuracy by omega, show q.fVariance % 256 ^ 2 = q.fVariance by omega]
def msgN (dom fl co : Int) (src : api_PortID) (sq lg st ut p1 : Int) (q : api_Quality) (p2 gr sp og : Int) : List UInt8 := msgH 11 5 64 dom fl co src.fClock src.fPort sq lg ++ (msgS st ++ msgT ut p1 q p2 gr sp og)
theorem body_get_N {L : List UInt8} {dom fl co sq lg st ut p1 p2 gr sp og : Int} {src : api_PortID} {q : api_Quality} (hlen : L.length = 64) (g34 : K104 L 34 = some ((st, (true, ())), (), ())) (g44 : K83 L 44 2 = some ((ut, (true, ())), (), ()))
  (g47 : K79 L 47 1 = some ((p1, (true, ())), (), ())) (g48 : K95 L 48 = some ((q, (true, ())), (), ())) (g52 : K79 L 52 1 = some ((p2, (true, ())), (), ())) (g53 : K80 L 53 = some ((gr, (true, ())), (), ()))
  (g61 : K79 L 61 2 = some ((sp, (true, ())), (), ())) (g63 : K79 L 63 1 = some ((og, (true, ())), (), ())) :
  K1 (msg0 11 dom fl co src sq lg 0 api_PortID.z) L 34 = some ((msgAn dom fl co src sq lg st ut p1 q p2 gr sp og, (64, (0, ()))), (), ()) := by
  unfold K1 K1.gen
  rw [g34, hlen]
  simp only [oelim_some, cond_false, cond_true, Bool.not_true, show K2 11 = some ((30, ()), (), ()) by kernel_rfl, show K6 11 = some ((true, ()), (), ()) by kernel_rfl, show K7 11 = some ((false, ()), (), ()) by kernel_rfl, show iadd IntKind.i64 34 10 = 44 from rfl, g44, show ieq 11 11 = true from rfl, show ieq 30 0 = false from rfl, show iadd IntKind.i64 44 3 = 47 from rfl, show iadd IntKind.i64 44 4 = 48 from rfl, show iadd IntKind.i64 44 8 = 52 from rfl, show iadd IntKind.i64 44 9 = 53 from rfl, show iadd IntKind.i64 44 17 = 61 from rfl, show iadd IntKind.i64 44 19 = 63 from rfl, g47, g48, g52, g53, g61, g63]
  kernel_rfl
theorem put_N {dom fl co sq lg st ut p1 p2 gr sp og : Int} {src : api_PortID} {q : api_Quality} (ha : AnnOk ut p1 q p2 gr sp og) (h : HdOk dom fl co src sq lg) (ht : 0 ≤ st) (ht2 : st ≤ 4000000000000000) :
  K61 (msgAn dom fl co src sq lg st ut p1 q p2 gr sp og) [] = some ((bs (msgN dom fl co src sq lg st ut p1 q p2 gr sp og), (true, ())), (), ()) := by
 have hk : K64 11 = some ((true, ()), (), ()) := by kernel_rfl
 have hc : K66 11 = some ((5, ()), (), ()) := by kernel_rfl
 have hst : K6 11 = some ((true, ()), (), ()) := by kernel_rfl
 have htg : K7 11 = some ((false, ()), (), ()) := by kernel_rfl
 have n2 : ieq 11 2 = false := by rfl
 have n11 : ieq 11 11 = true := by rfl
 have n13 : ieq 11 13 = false := by rfl
 have hown : K5 (msgAn dom fl co src sq lg st ut p1 q p2 gr sp og) = some ((msgAn dom fl co src sq lg st ut p1 q p2 gr sp og, ()), (), ()) := by
  kernel_rfl
 have hq : K96 q = some ((true, ()), (), ()) := qmay_ok ha.q0 ha.q1 ha.q2 ha.q3 ha.q4 ha.q5
 have hchk : K0 (msgAn dom fl co src sq lg st ut p1 q p2 gr sp og) = some ((true, ()), (), ()) := by
  unfold K0 K0.gen
  rw [hcheck_ok hk h, hown, may_stamp ht ht2, imay_ok (p := api_PortID.z) (by decide) (by decide), hq]
  simp only [oelim_some, ieq_self, cond_true, bin_ok ha.u0 ha.u1, bin_ok ha.a0 ha.a1, bin_ok ha.b0 ha.b1, bin_ok ha.o0 ha.o1, bin_ok ha.s0 ha.s1, bin_ok (show (0 : Int) ≤ 0 by decide) (show (0 : Int) ≤ 255 by decide), bin_ok (show (0 : Int) ≤ 0 by decide) (show (0 : Int) ≤ 65535 by decide), bin_ok (show (0 : Int) ≤ 0 by decide) (show (0 : Int) ≤ 15 by decide)]
 have hb : K3 (lnil UInt8) (msgAn dom fl co src sq lg st ut p1 q p2 gr sp og) = some ((msgS st ++ msgT ut p1 q p2 gr sp og, (true, ())), (), ()) := by
  unfold K3 K3.gen
  rw [hchk, hst]
  simp only [oelim_some, Bool.not_true, cond_false, cond_true, htg, n2, n11, n13]
  rw [putS _ ht ht2 (by simp)]
  simp only [oelim_some, cond_false, cond_true, htg, n2, n11]
  rw [put2 _ _ (by simp [be_length])]
  simp only [oelim_some]
  rw [put1 _ _ (by simp [be_length])]
  simp only [oelim_some]
  rw [put1 _ _ (by simp [be_length])]
  simp only [oelim_some]
  rw [putQ _ _ (by simp [be_length])]
  simp only [oelim_some]
  rw [put1 _ _ (by simp [be_length])]
  unfold K82 K82.gen
  simp only [oelim_some]
  rw [put8 _ _ (by simp [be_length])]
  simp only [oelim_some]
  rw [put2 _ _ (by simp [be_length])]
  simp only [oelim_some]
  rw [put1 _ _ (by simp [be_length])]
  kernel_rfl
 unfold K61 K61.gen
 rw [hb]
 simp only [oelim_some, Bool.not_true, cond_false]
 rw [tlv_put_nil]
 simp only [oelim_some, Bool.not_true, cond_false]
 rw [show iadd .i64 34 (ofN (msgS st ++ msgT ut p1 q p2 gr sp og).length) = 64 by kernel_rfl, header_put (len := 64) hk hc h (by decide) (by decide)]
 simp only [oelim_some, Bool.not_true, cond_false]
 rw [show Nat.ble ((bs (msgH 11 5 64 dom fl co src.fClock src.fPort sq lg)).size + (bs (msgS st ++ msgT ut p1 q p2 gr sp og)).size) 9223372036854775807 = true by rw [bs_size, bs_size]; kernel_rfl]
 simp only [cond_true]
 show some ((bs _ ++ bs _, _), _) = _
 rw [bs_append]
 rfl
theorem get_N {dom fl co sq lg st ut p1 p2 gr sp og : Int} {src : api_PortID} {q : api_Quality} (ha : AnnOk ut p1 q p2 gr sp og) (h : HdOk dom fl co src sq lg) (ht : 0 ≤ st) (ht2 : st ≤ 4000000000000000) :
  K59 (bs (msgN dom fl co src sq lg st ut p1 q p2 gr sp og)) = some ((msgAn dom fl co src sq lg st ut p1 q p2 gr sp og, ([], (0, ()))), (), ()) := by
 have hlen : (msgN dom fl co src sq lg st ut p1 q p2 gr sp og).length = 64 := by kernel_rfl
 have g2 : K79 (msgN dom fl co src sq lg st ut p1 q p2 gr sp og) 2 2 = some ((64, (true, ())), (), ()) := getN (v := 64) 2 (by decide) (by decide) (by decide) (by decide) (by omega) (by omega) (by kernel_rfl)
 have g6 : K79 (msgN dom fl co src sq lg st ut p1 q p2 gr sp og) 6 2 = some ((fl, (true, ())), (), ()) := by
  rw [getN (v := fl) 2 (by decide) (by decide) (by decide) (by decide) (by omega) (by omega) (by kernel_rfl)]
  rw [show fl % 256 ^ 2 = fl by have := h.f0; have := h.f1; omega]
 have g8 : K83 (msgN dom fl co src sq lg st ut p1 q p2 gr sp og) 8 8 = some ((co, (true, ())), (), ()) := by
  rw [sgnN (v := co) 8 (by decide) (by decide) (by decide) (by decide) (by omega) (by omega) (by kernel_rfl), sgn8]
  rw [show IntKind.i64.wrap (co % 256 ^ 8) = co by have := h.c0; have := h.c1; rw [iwrap]; omega]
 have g20 : K69 (msgN dom fl co src sq lg st ut p1 q p2 gr sp og) 20 = some ((src, (true, ())), (), ()) := identN (by decide) (by omega) (by omega) h.k0 h.k1 h.p0 h.p1 (by kernel_rfl) (by kernel_rfl)
 have g30 : K79 (msgN dom fl co src sq lg st ut p1 q p2 gr sp og) 30 2 = some ((sq, (true, ())), (), ()) := by
  rw [getN (v := sq) 2 (by decide) (by decide) (by decide) (by decide) (by omega) (by omega) (by kernel_rfl)]
  rw [show sq % 256 ^ 2 = sq by have := h.s0; have := h.s1; omega]
 have g33 : K83 (msgN dom fl co src sq lg st ut p1 q p2 gr sp og) 33 1 = some ((lg, (true, ())), (), ()) := by
  rw [sgnN (v := lg) 1 (by decide) (by decide) (by decide) (by decide) (by omega) (by omega) (by kernel_rfl)]
  rw [show sgn (lg % 256 ^ 1) 1 = lg from sgn1 lg h.l0 h.l1]
 have g34 : K104 (msgN dom fl co src sq lg st ut p1 q p2 gr sp og) 34 = some ((st, (true, ())), (), ()) := stampN (by decide) (by omega) (by omega) ht ht2 (by kernel_rfl) (by kernel_rfl)
 have hty0 : IntKind.i64.wrap (ofN (UInt8.toNat (List.getD (msgN dom fl co src sq lg st ut p1 q p2 gr sp og) (Int.toNat 0) (0 : D UC.u8)))) = 11 := by
  kernel_rfl
 have hd4 : IntKind.i64.wrap (ofN (UInt8.toNat (List.getD (msgN dom fl co src sq lg st ut p1 q p2 gr sp og) (Int.toNat 4) (0 : D UC.u8)))) = dom := by
  have : List.getD (msgN dom fl co src sq lg st ut p1 q p2 gr sp og) (Int.toNat 4) (0 : D UC.u8) = byteI (ishr .i64 dom (8 * ((0 : Nat) : Int))) := by kernel_rfl
  rw [this, show ofN (byteI (ishr .i64 dom (8 * ((0 : Nat) : Int)))).toNat = ((byteI (ishr .i64 dom (8 * ((0 : Nat) : Int)))).toNat : Int) from rfl, byteI_toNat, shr8 dom 0 (by decide)]
  have := h.d0; have := h.d1
  rw [iwrap]; omega
 have g44 : K83 (msgN dom fl co src sq lg st ut p1 q p2 gr sp og) 44 2 = some ((ut, (true, ())), (), ()) := by
  rw [sgnN (v := ut) 2 (by decide) (by decide) (by decide) (by decide) (by omega) (by omega) (by kernel_rfl)]
  rw [show sgn (ut % 256 ^ 2) 2 = ut from sgn2 ut ha.u0 ha.u1]
 have g47 : K79 (msgN dom fl co src sq lg st ut p1 q p2 gr sp og) 47 1 = some ((p1, (true, ())), (), ()) := by
  rw [getN (v := p1) 1 (by decide) (by decide) (by decide) (by decide) (by omega) (by omega) (by kernel_rfl)]
  rw [show p1 % 256 ^ 1 = p1 by have := ha.a0; have := ha.a1; omega]
 have g48 : K95 (msgN dom fl co src sq lg st ut p1 q p2 gr sp og) 48 = some ((q, (true, ())), (), ()) := qualN (by decide) (by omega) (by omega) ha.q0 ha.q1 ha.q2 ha.q3 ha.q4 ha.q5 (by kernel_rfl) (by kernel_rfl) (by kernel_rfl)
 have g52 : K79 (msgN dom fl co src sq lg st ut p1 q p2 gr sp og) 52 1 = some ((p2, (true, ())), (), ()) := by
  rw [getN (v := p2) 1 (by decide) (by decide) (by decide) (by decide) (by omega) (by omega) (by kernel_rfl)]
  rw [show p2 % 256 ^ 1 = p2 by have := ha.b0; have := ha.b1; omega]
 have g53 : K80 (msgN dom fl co src sq lg st ut p1 q p2 gr sp og) 53 = some ((gr, (true, ())), (), ()) := idN (by decide) (by omega) (by omega) ha.g0 ha.g1 (by kernel_rfl)
 have g61 : K79 (msgN dom fl co src sq lg st ut p1 q p2 gr sp og) 61 2 = some ((sp, (true, ())), (), ()) := by
  rw [getN (v := sp) 2 (by decide) (by decide) (by decide) (by decide) (by omega) (by omega) (by kernel_rfl)]
  rw [show sp % 256 ^ 2 = sp by have := ha.s0; have := ha.s1; omega]
 have g63 : K79 (msgN dom fl co src sq lg st ut p1 q p2 gr sp og) 63 1 = some ((og, (true, ())), (), ()) := by
  rw [getN (v := og) 1 (by decide) (by decide) (by decide) (by decide) (by omega) (by omega) (by kernel_rfl)]
  rw [show og % 256 ^ 1 = og by have := ha.o0; have := ha.o1; omega]
 have hk : K64 11 = some ((true, ()), (), ()) := by kernel_rfl
 have hh : K63 (msgN dom fl co src sq lg st ut p1 q p2 gr sp og) = some ((msg0 11 dom fl co src sq lg 0 api_PortID.z, (64, (0, ()))), (), ()) := by
  unfold K63 K63.gen
  rw [g2, g6, g8, g20, g30, g33, hty0, hd4, hk, hlen]
  kernel_rfl
 have hb := body_get_N hlen g34 g44 g47 g48 g52 g53 g61 g63 (dom := dom) (fl := fl) (co := co) (src := src) (sq := sq) (lg := lg)
 unfold K59 K59.gen
 rw [bs_data, hh]
 simp only [oelim_some, ine_self, cond_false]
 rw [hb]
 simp only [oelim_some, ine_self, cond_false]
 rw [show K114 (msgN dom fl co src sq lg st ut p1 q p2 gr sp og) 64 = _ from tlv_get_nil _ 64 hlen]
 rfl
theorem place_spec (v n : Int) (hn : 0 < n) (hn2 : n ≤ 4611686018427387904) : K72 v n = some ((v % n, ()), (), ()) := by
 have h1 : ine n 0 = true := ine_true (by omega)
 have h2 := Int.emod_nonneg v (Int.ne_of_gt hn)
 have h3 := Int.emod_lt_of_pos v hn
 obtain ⟨h4, h5⟩ := tmod_place v n hn
 unfold K72 K72.gen
 rw [h1]
 simp only [cond_true, oelim_some]
 by_cases hc : v.tmod n < 0
 ·have e : iadd .i64 (irem v n) n = v % n := by
   have := h4 hc
   rw [iadd_of] <;> simp only [irem] <;> omega
  rw [show ilt (irem v n) 0 = true from ilt_true hc, e]; simp only [cond_true, oelim_some]
 ·rw [show ilt (irem v n) 0 = false from ilt_false hc, show irem v n = v % n from h5 hc]; simp only [cond_false, oelim_some]
theorem i_2_1 : ieq 2 1 = false := rfl
theorem i_2_2 : ieq 2 2 = true := rfl
theorem n_0_0 : ine 0 0 = false := rfl
theorem out_ok {n : Int} {m : api_Msg} {want : Bool} {K : clock_Clock} {b : ByteArray} (hp : K61 m [] = some ((b, (true, ())), (), ())) (ho : K.fouts.length < 1000) :
  K21 n m [] want K = some ((), (K.set_fouts (K.fouts ++ [api_Out.mk 1 n 0 want m.fType m.fSeq b]), ()), ()) := by
 unfold K21 K21.gen
 rw [hp]
 simp only [oelim_some, cond_true]
 rw [show room (K.fouts.length + (api_Out.mk 1 n 0 want m.fType m.fSeq b :: lnil api_Out).length) 64 = true from room_true (by show (K.fouts.length + 1) * 64 ≤ _; omega)]
 rfl
theorem now_ok {t : Int} (h0 : 0 ≤ t) (h1 : t ≤ 4000000000000000) : opMinMax true 0 (opMinMax false t 4000000000000000) = t := by
 simp only [opMinMax, cond_true, cond_false, imin, imax]
 split <;> split <;> omega
theorem step_frame {K : clock_Clock} {g5 : Fm servo_Servo} {g6 : Fm foreign_Table} {g7 : Fm delay_Exchange} {g8 : Fm peer_Exchange} {g9 : Fm median_Filter} {g10 : Fm seq_Match} {g12 : Fm (List (api_PortID × List Int))}
  {b : ByteArray} {p t a1 a2 : Int} {c : api_Conf} {K' : clock_Clock} (h0 : 0 ≤ t) (h1 : t ≤ 4000000000000000)
  (h : K18 p b t (K.set_fouts []) g6 g12 = some ((), (K', g6, g12, ()), ())) :
  K11 (api_Event.mk 2 p t a1 a2 b c) K g5 g6 g7 g8 g9 g10 g12 = some ((K'.fouts, ()), (K', g5, g6, g7, g8, g9, g10, g12, ()), ()) := by
 unfold K11 K11.gen
 simp only [i_2_1, i_2_2, cond_false, cond_true, now_ok h0 h1]
 rw [show lnil api_Out = [] from rfl, h]
 rfl
theorem fset_same {α : Type} (f : Nat → α) (i : Nat) (x : α) : fset f i x i = x := by simp [fset]
theorem path_nil {K : clock_Clock} {g12 : Fm (List (api_PortID × List Int))} (h : K.fconf.fTrace = false) : K22 K g12 = some (([], ()), (), ()) := by
 unfold K22 K22.gen
 rw [h]; rfl
theorem i_6_6 : ieq 6 6 = true := rfl
theorem ticks_3 : K107 (-3) = some ((1, ()), (), ()) := by kernel_rfl
theorem start_1 (t : timer_Timer) : K109 1 t = some ((), (timer_Timer.mk 1, ()), ()) := by kernel_rfl
theorem tick_1 : K111 (timer_Timer.mk 1) = some ((true, ()), (timer_Timer.mk 0, ()), ()) := by kernel_rfl
noncomputable def spoken (K : clock_Clock) (i : Nat) (n : Int) (ka ks : Int) (bA bS : ByteArray) : clock_Clock :=
  { K with fports := fset (fset (fset (fset (fset (fset K.fports i { K.fports i with fannounce := timer_Timer.mk 0 }) i { K.fports i with fannounce := timer_Timer.mk 0, fannounces := iand .i64 (iadd .i64 (iand .i64 ka 65535) 1) 65535 }) i { K.fports i with fannounce := timer_Timer.mk 1, fannounces := iand .i64 (iadd .i64 (iand .i64 ka 65535) 1) 65535 }) i { K.fports i with fannounce := timer_Timer.mk 1, fannounces := iand .i64 (iadd .i64 (iand .i64 ka 65535) 1) 65535, fsync := timer_Timer.mk 0 }) i { K.fports i with fannounce := timer_Timer.mk 1, fannounces := iand .i64 (iadd .i64 (iand .i64 ka 65535) 1) 65535, fsync := timer_Timer.mk 0, fsyncs := iand .i64 (iadd .i64 (iand .i64 ks 65535) 1) 65535 }) i { K.fports i with fannounce := timer_Timer.mk 1, fannounces := iand .i64 (iadd .i64 (iand .i64 ka 65535) 1) 65535, fsync := timer_Timer.mk 1, fsyncs := iand .i64 (iadd .i64 (iand .i64 ks 65535) 1) 65535 }
           fouts := (K.fouts ++ [api_Out.mk 1 n 0 false 11 ka bA]) ++ [api_Out.mk 1 n 0 (!K.fconf.fOneStep) 0 ks bS] }
theorem speak_master {K : clock_Clock} {g7 : Fm delay_Exchange} {g8 : Fm peer_Exchange} {g12 : Fm (List (api_PortID × List Int))} {n now : Int} {i : Nat} {bA bS : ByteArray} {ka ks : Int}
  (hs : K25 n K = some ((i, ()), (), ())) (h6 : (K.fports i).fstate = 6) (ha : (K.fports i).fannounce = timer_Timer.mk 1) (hy : (K.fports i).fsync = timer_Timer.mk 1)
  (hp : K.fconf.fPeer = false) (ht : K.fconf.fTrace = false) (hla : K.fconf.fLogAnn = -3) (hls : K.fconf.fLogSync = -3) (hka : (K.fports i).fannounces = ka) (hks : (K.fports i).fsyncs = ks) (ho : K.fouts.length < 500)
  (hA : K61 (msgAn K.fconf.fDomain K.fparent.fTimes.fFlags 0 (api_PortID.mk K.fconf.fClock n) ka (-3) 0 K.fparent.fTimes.fUtc K.fparent.fPriority1 K.fparent.fQuality K.fparent.fPriority2 K.fparent.fGrand K.fparent.fSteps K.fparent.fTimes.fOrigin) [] = some ((bA, (true, ())), (), ()))
  (hS : K61 (msg0 0 K.fconf.fDomain (bif K.fconf.fOneStep then 0 else 512) 0 (api_PortID.mk K.fconf.fClock n) ks (-3) (bif K.fconf.fOneStep then now else 0) api_PortID.z) [] = some ((bS, (true, ())), (), ())) :
  K26 n now K g7 g8 g12 = some ((), (spoken K i n ka ks bA bS, g7, g8, g12, ()), ()) := by
 unfold K26 K26.gen
 rw [hs]
 simp only [oelim_some, h6, i_6_6, cond_true, ha]
 rw [show K111 (timer_Timer.mk 1) = some ((true, ()), (timer_Timer.mk 0, ()), ()) by kernel_rfl]
 simp only [oelim_some, cond_true, fset_same]
 unfold K121 K121.gen
 simp only [oelim_some]
 rw [path_nil (by exact ht)]
 simp only [oelim_some, hla, hka]
 rw [out_ok hA (by show K.fouts.length < 1000; omega)]
 simp only [oelim_some, fset_same]
 unfold K100 K100.gen K12 K12.gen
 simp only [oelim_some, hla, hls, ticks_3, fset_same, h6, i_6_6, cond_true, hka, hy, start_1, tick_1]
 unfold K24 K24.gen
 simp only [oelim_some, hla, hls, hks, h6]
 cases hos : K.fconf.fOneStep with
 | true =>
  simp only [hos, cond_true] at hS
  simp only [oelim_some, hos, cond_true, Bool.not_true]
  rw [out_ok hS (by show (K.fouts ++ [_]).length < 1000; simp; omega)]
  simp only [oelim_some, hla, hls, ticks_3, fset_same, h6, start_1, hp, cond_false, hks]
  rw [show K91 6 = some ((false, ()), (), ()) by kernel_rfl]
  simp only [oelim_some, cond_false]
  unfold spoken
  rw [hos]
  rfl
 | false =>
  simp only [hos, cond_false] at hS
  simp only [oelim_some, hos, cond_false, Bool.not_false]
  rw [out_ok hS (by show (K.fouts ++ [_]).length < 1000; simp; omega)]
  simp only [oelim_some, hla, hls, ticks_3, fset_same, h6, start_1, hp, cond_false, hks]
  rw [show K91 6 = some ((false, ()), (), ()) by kernel_rfl]
  simp only [oelim_some, cond_false]
  unfold spoken
  rw [hos]
  rfl
abbrev Gs := (Fm foreign_Table) × (Fm delay_Exchange) × (Fm peer_Exchange) × (Fm median_Filter) × (Fm seq_Match) × (Fm (List (api_PortID × List Int))) × Unit
theorem tick_of {now : Int} {K K1 K2 K3 : clock_Clock} {g e f o : Gs} {u1 : Unit}
  (h0 : K27.F0 ((now, 1, ()), K.set_fticks (opMinMax false (iadd .i64 K.fticks 1) 1099511627776), g) = some ((now, ()), K1, e))
  (h1 : K12 K1 = some ((1, ()), (), ()))
  (h2 : K16 K1 e.1 e.2.1 e.2.2.2.1 e.2.2.2.2.1 = some (u1, (K2, f.1, f.2.1, f.2.2.2.1, f.2.2.2.2.1, ()), ()))
  (h3 : K27.F1 ((now, 1, ()), K2, f.1, f.2.1, e.2.2.1, f.2.2.2.1, f.2.2.2.2.1, e.2.2.2.2.2.1, ()) = some ((), K3, o)) :
  K27 now K g.1 g.2.1 g.2.2.1 g.2.2.2.1 g.2.2.2.2.1 g.2.2.2.2.2.1 = some ((), (K3, o.1, o.2.1, o.2.2.1, o.2.2.2.1, o.2.2.2.2.1, o.2.2.2.2.2.1, ()), ()) := by
 unfold K27 K27.gen
 rw [show K27.F0 ((now, 1, ()), K.set_fticks (opMinMax false (iadd .i64 K.fticks 1) 1099511627776), g.1, g.2.1, g.2.2.1, g.2.2.2.1, g.2.2.2.2.1, g.2.2.2.2.2.1, ()) = _ from h0]
 simp only [oelim_some, h1, show ine 1 0 = true from rfl, cond_true]
 have hr : irem K1.fticks 1 = 0 := by unfold irem; rw [Int.tmod_one]
 rw [hr]
 simp only [ieq_self, cond_true]
 rw [h2]
 simp only [oelim_some]
 rw [h3]
 rfl
noncomputable def spk (bA bS : Nat → ByteArray) : Nat → clock_Clock → clock_Clock
 | 0, K => K
 | j + 1, K => spoken (spk bA bS j K) j ((j + 1 : Nat) : Int) (K.fports j).fannounces (K.fports j).fsyncs (bA j) (bS j)
theorem fset_other {α : Type} (f : Nat → α) (i j : Nat) (x : α) (h : j ≠ i) : fset f i x j = f j := by simp [fset, h]
theorem spk_facts (bA bS : Nat → ByteArray) (K : clock_Clock) : ∀ j, (spk bA bS j K).fconf = K.fconf ∧ (spk bA bS j K).fparent = K.fparent ∧ (spk bA bS j K).fouts.length = K.fouts.length + 2 * j ∧ ∀ i, j ≤ i → (spk bA bS j K).fports i = K.fports i
 | 0 => ⟨rfl, rfl, rfl, fun _ _ => rfl⟩
 | j + 1 => by
  obtain ⟨h1, h2, h3, h4⟩ := spk_facts bA bS K j
  refine ⟨h1, h2, ?_, fun i hi => ?_⟩
  ·unfold spk spoken
   simp [h3]; omega
  ·unfold spk spoken
   have : i ≠ j := by omega
   simp only [fset_other _ _ _ _ this]
   exact h4 i (by omega)
structure Leads (K : clock_Clock) (p : Nat) : Prop where
 p1 : p ≤ 8
 ports : K.fconf.fPorts = (p : Int)
 peer : K.fconf.fPeer = false
 trace : K.fconf.fTrace = false
 la : K.fconf.fLogAnn = -3
 ls : K.fconf.fLogSync = -3
 st : ∀ i, i < p → (K.fports i).fstate = 6 ∧ (K.fports i).fannounce = timer_Timer.mk 1 ∧ (K.fports i).fsync = timer_Timer.mk 1
 outs : K.fouts = []
abbrev annOf (K : clock_Clock) (i : Nat) : api_Msg := msgAn K.fconf.fDomain K.fparent.fTimes.fFlags 0 (api_PortID.mk K.fconf.fClock ((i + 1 : Nat) : Int)) (K.fports i).fannounces (-3) 0 K.fparent.fTimes.fUtc K.fparent.fPriority1 K.fparent.fQuality K.fparent.fPriority2 K.fparent.fGrand K.fparent.fSteps K.fparent.fTimes.fOrigin
abbrev synOf (K : clock_Clock) (i : Nat) (now : Int) : api_Msg := msg0 0 K.fconf.fDomain (bif K.fconf.fOneStep then 0 else 512) 0 (api_PortID.mk K.fconf.fClock ((i + 1 : Nat) : Int)) (K.fports i).fsyncs (-3) (bif K.fconf.fOneStep then now else 0) api_PortID.z
theorem speak_all {K : clock_Clock} {p : Nat} {now : Int} {g : Gs} {bA bS : Nat → ByteArray} (hK : Leads K p) (hA : ∀ i, i < p → K61 (annOf K i) [] = some ((bA i, (true, ())), (), ())) (hS : ∀ i, i < p → K61 (synOf K i now) [] = some ((bS i, (true, ())), (), ())) :
  K27.F1 ((now, 1, ()), K, g) = some ((), spk bA bS p K, g) := by
 have hp := hK.p1
 unfold K27.F1
 refine loop_to (step := K27.step1 _ _ _ _ _) (fun j => ((now, ((j + 1 : Nat) : Int), ()), spk bA bS j K, g)) p _ (by omega) (fun j hj => ?_) ?_
 ·obtain ⟨h1, h2, h3, h4⟩ := spk_facts bA bS K j
  unfold K27.step1
  simp only []
  rw [show (spk bA bS j K).fconf.fPorts = (p : Int) by rw [h1]; exact hK.ports, ile_true (show ((j + 1 : Nat) : Int) ≤ (p : Int) by omega)]
  simp only [cond_true]
  have hj' := hK.st j hj
  rw [← h4 j (Nat.le_refl _)] at hj'
  rw [speak_master (K := spk bA bS j K) (i := j) (bA := bA j) (bS := bS j) (ka := (K.fports j).fannounces) (ks := (K.fports j).fsyncs) ?_ hj'.1 hj'.2.1 hj'.2.2 (by rw [h1]; exact hK.peer) (by rw [h1]; exact hK.trace) (by rw [h1]; exact hK.la) (by rw [h1]; exact hK.ls) (by rw [h4 j (Nat.le_refl _)]) (by rw [h4 j (Nat.le_refl _)]) (by rw [h3, hK.outs]; simp; omega) (by rw [h1, h2]; exact hA j hj) (by rw [h1]; exact hS j hj)]
  ·simp only [oelim_some]
   rw [iinc (show j + 1 < 4611686018427387904 by omega)]
   rfl
  ·unfold K25 K25.gen
   have : isub .i64 ((j + 1 : Nat) : Int) 1 = (j : Int) := by rw [isub_of (by omega)]; omega
   rw [this, show inR (j : Int) 8 = true by rw [inR_nat]; simp; omega]
   rfl
 ·obtain ⟨h1, h2, h3, h4⟩ := spk_facts bA bS K p
  unfold K27.step1
  simp only []
  rw [show (spk bA bS p K).fconf.fPorts = (p : Int) by rw [h1]; exact hK.ports, ile_false (show ¬ ((p + 1 : Nat) : Int) ≤ (p : Int) by omega)]
  rfl
theorem F0_step (now n : Int) (x : clock_Clock × Gs) : K27.step0 K25 K15 K12 K16 K26 ((now, n, ()), x) =
  match K27.step0 K25 K15 K12 K16 K26 ((0, n, ()), x) with
  | some (.inl a) => some (.inl ((now, a.1.2.1, ()), a.2))
  | some (.inr b) => some (.inr ((now, ()), b.2))
  | none => none := by
 unfold K27.step0
 simp only []
 cases ile n x.1.fconf.fPorts with
 | false => rfl
 | true =>
  simp only [cond_true]
  cases K25 n x.1 with
  | none => rfl
  | some r =>
   simp only [oelim_some]
   cases K15 r.1.1 x.1 x.2.1 x.2.2.2.2.2.2.1 with
   | none => rfl
   | some q => rfl
theorem F0_fix (now : Int) : ∀ (N : Nat) (n : Int) (x : clock_Clock × Gs), loopFix N (K27.step0 K25 K15 K12 K16 K26) ((now, n, ()), x) =
  (loopFix N (K27.step0 K25 K15 K12 K16 K26) ((0, n, ()), x)).map fun b => ((now, ()), b.2)
 | 0, n, x => rfl
 | N + 1, n, x => by
  unfold loopFix
  rw [F0_step now n x]
  cases K27.step0 K25 K15 K12 K16 K26 ((0, n, ()), x) with
  | none => rfl
  | some r =>
   cases r with
   | inr b => rfl
   | inl a =>
    have h := F0_fix a.1.1 N a.1.2.1 a.2
    have h' : loopFix N (K27.step0 K25 K15 K12 K16 K26) a = _ := h
    show loopFix N _ ((now, a.1.2.1, ()), a.2) = Option.map _ (loopFix N _ a)
    rw [h', F0_fix now N a.1.2.1 a.2]
    cases loopFix N (K27.step0 K25 K15 K12 K16 K26) ((0, a.1.2.1, ()), a.2) with
    | none => rfl
    | some b => rfl
theorem F0_now (now : Int) (x : clock_Clock × Gs) (y : clock_Clock × Gs) (z : Int × Unit) (h : K27.F0 ((0, 1, ()), x) = some (z, y)) : K27.F0 ((now, 1, ()), x) = some ((now, ()), y) := by
 unfold K27.F0 at h ⊢
 rw [F0_fix, h]; rfl
abbrev R1 := clock_Clock × Gs
noncomputable def mid (s : R1) : Option (clock_Clock × Gs × clock_Clock × Gs) :=
 match K27.F0 ((0, 1, ()), s.1.set_fticks (opMinMax false (iadd .i64 s.1.fticks 1) 1099511627776), s.2) with
 | some (_, K1, e) =>
  match K16 K1 e.1 e.2.1 e.2.2.2.1 e.2.2.2.2.1 with
  | some (_, (K2, f), _) => some (K1, e, K2, (f.1, f.2.1, e.2.2.1, f.2.2.1, f.2.2.2.1, e.2.2.2.2.2.1, ()))
  | none => none
 | none => none
noncomputable def hdB (m : api_Msg) : Bool := decide (0 ≤ m.fDomain ∧ m.fDomain ≤ 255 ∧ 0 ≤ m.fFlags ∧ m.fFlags ≤ 65535 ∧ -9223372036854775808 ≤ m.fCorr ∧ m.fCorr < 9223372036854775808 ∧ 0 ≤ m.fSource.fClock ∧ m.fSource.fClock < 18446744073709551616 ∧ 0 ≤ m.fSource.fPort ∧ m.fSource.fPort ≤ 65535 ∧ 0 ≤ m.fSeq ∧ m.fSeq ≤ 65535 ∧ -128 ≤ m.fLog ∧ m.fLog ≤ 127)
noncomputable def anB (m : api_Msg) : Bool := decide (-32768 ≤ m.fUtc ∧ m.fUtc ≤ 32767 ∧ 0 ≤ m.fPriority1 ∧ m.fPriority1 ≤ 255 ∧ 0 ≤ m.fQuality.fClass ∧ m.fQuality.fClass ≤ 255 ∧ 0 ≤ m.fQuality.fAccuracy ∧ m.fQuality.fAccuracy ≤ 255 ∧ 0 ≤ m.fQuality.fVariance ∧ m.fQuality.fVariance ≤ 65535 ∧ 0 ≤ m.fPriority2 ∧ m.fPriority2 ≤ 255 ∧ 0 ≤ m.fGrand ∧ m.fGrand < 18446744073709551616 ∧ 0 ≤ m.fSteps ∧ m.fSteps ≤ 65535 ∧ 0 ≤ m.fOrigin ∧ m.fOrigin ≤ 255)
noncomputable def leadsB (p : Nat) (K : clock_Clock) : Bool :=
 decide (p ≤ 8) && decide (K.fconf.fPorts = (p : Int)) && !K.fconf.fPeer && !K.fconf.fTrace && decide (K.fconf.fLogAnn = -3) && decide (K.fconf.fLogSync = -3) && K.fouts.isEmpty && (List.range p).all fun i => decide ((K.fports i).fstate = 6) && decide ((K.fports i).fannounce.fleft = 1) && decide ((K.fports i).fsync.fleft = 1) && hdB (annOf K i) && anB (annOf K i) && hdB (synOf K i 0)
noncomputable def okAt (p : Nat) (s : R1) : Bool :=
 match mid s with
 | some (K1, _, K2, _) => decide (K1.fconf.fLogAnn = -3) && leadsB p K2 && s.1.fouts.isEmpty
 | none => false
noncomputable def nxt (p : Nat) (s : R1) : R1 :=
 match mid s with
 | some (_, _, K2, f) => ((spk (fun _ => ByteArray.empty) (fun _ => ByteArray.empty) p K2).set_fouts [], f)
 | none => s
theorem hd_of {m : api_Msg} (h : hdB m = true) : HdOk m.fDomain m.fFlags m.fCorr m.fSource m.fSeq m.fLog := by
 have h := of_decide_eq_true h
 exact ⟨h.1, h.2.1, h.2.2.1, h.2.2.2.1, h.2.2.2.2.1, h.2.2.2.2.2.1, h.2.2.2.2.2.2.1, h.2.2.2.2.2.2.2.1, h.2.2.2.2.2.2.2.2.1, h.2.2.2.2.2.2.2.2.2.1, h.2.2.2.2.2.2.2.2.2.2.1, h.2.2.2.2.2.2.2.2.2.2.2.1, h.2.2.2.2.2.2.2.2.2.2.2.2.1, h.2.2.2.2.2.2.2.2.2.2.2.2.2⟩
theorem an_of {m : api_Msg} (h : anB m = true) : AnnOk m.fUtc m.fPriority1 m.fQuality m.fPriority2 m.fGrand m.fSteps m.fOrigin := by
 have h := of_decide_eq_true h
 exact ⟨h.1, h.2.1, h.2.2.1, h.2.2.2.1, h.2.2.2.2.1, h.2.2.2.2.2.1, h.2.2.2.2.2.2.1, h.2.2.2.2.2.2.2.1, h.2.2.2.2.2.2.2.2.1, h.2.2.2.2.2.2.2.2.2.1, h.2.2.2.2.2.2.2.2.2.2.1, h.2.2.2.2.2.2.2.2.2.2.2.1, h.2.2.2.2.2.2.2.2.2.2.2.2.1, h.2.2.2.2.2.2.2.2.2.2.2.2.2.1, h.2.2.2.2.2.2.2.2.2.2.2.2.2.2.1, h.2.2.2.2.2.2.2.2.2.2.2.2.2.2.2.1, h.2.2.2.2.2.2.2.2.2.2.2.2.2.2.2.2.1, h.2.2.2.2.2.2.2.2.2.2.2.2.2.2.2.2.2⟩
theorem leads_of {p : Nat} {K : clock_Clock} (h : leadsB p K = true) : Leads K p ∧ ∀ i, i < p → hdB (annOf K i) = true ∧ anB (annOf K i) = true ∧ hdB (synOf K i 0) = true := by
 unfold leadsB at h
 simp only [Bool.and_eq_true, decide_eq_true_eq, Bool.not_eq_true', List.all_eq_true, List.mem_range, List.isEmpty_iff] at h
 obtain ⟨⟨⟨⟨⟨⟨⟨h1, h2⟩, h3⟩, h4⟩, h5⟩, h6⟩, h7⟩, h8⟩ := h
 refine ⟨⟨h1, h2, h3, h4, h5, h6, fun i hi => ?_, h7⟩, fun i hi => ?_⟩
 ·obtain ⟨⟨⟨⟨⟨a1, a2⟩, a3⟩, a4⟩, a5⟩, a6⟩ := h8 i hi
  refine ⟨a1, ?_, ?_⟩
  ·revert a2
   generalize (K.fports i).fannounce = x
   intro a2
   cases x; cases a2; rfl
  ·revert a3
   generalize (K.fports i).fsync = x
   intro a3
   cases x; cases a3; rfl
 ·obtain ⟨⟨⟨⟨⟨a1, a2⟩, a3⟩, a4⟩, a5⟩, a6⟩ := h8 i hi
  exact ⟨a4, a5, a6⟩
noncomputable def said (K : clock_Clock) (bA bS : Nat → ByteArray) : Nat → List api_Out
 | 0 => []
 | j + 1 => said K bA bS j ++ [api_Out.mk 1 ((j + 1 : Nat) : Int) 0 false 11 (K.fports j).fannounces (bA j)] ++ [api_Out.mk 1 ((j + 1 : Nat) : Int) 0 (!K.fconf.fOneStep) 0 (K.fports j).fsyncs (bS j)]
theorem spk_outs (bA bS : Nat → ByteArray) (K : clock_Clock) : ∀ j, (spk bA bS j K).fouts = K.fouts ++ said K bA bS j
 | 0 => by simp [spk, said]
 | j + 1 => by
  obtain ⟨h1, _⟩ := spk_facts bA bS K j
  unfold spk spoken said
  simp only [spk_outs bA bS K j, h1, List.append_assoc]
theorem spoken_quiet (K : clock_Clock) (i : Nat) (n ka ks : Int) (bA bS : ByteArray) : (spoken K i n ka ks bA bS).set_fouts [] = (spoken (K.set_fouts []) i n ka ks ByteArray.empty ByteArray.empty).set_fouts [] := rfl
theorem spk_quiet (bA bS bA' bS' : Nat → ByteArray) (K : clock_Clock) : ∀ j, (spk bA bS j K).set_fouts [] = (spk bA' bS' j K).set_fouts []
 | 0 => rfl
 | j + 1 => by
  unfold spk
  rw [spoken_quiet, spk_quiet bA bS bA' bS' K j, ← spoken_quiet]
noncomputable def annB (K : clock_Clock) (i : Nat) : ByteArray := bs (msgN K.fconf.fDomain K.fparent.fTimes.fFlags 0 (api_PortID.mk K.fconf.fClock ((i + 1 : Nat) : Int)) (K.fports i).fannounces (-3) 0 K.fparent.fTimes.fUtc K.fparent.fPriority1 K.fparent.fQuality K.fparent.fPriority2 K.fparent.fGrand K.fparent.fSteps K.fparent.fTimes.fOrigin)
noncomputable def synB (K : clock_Clock) (now : Int) (i : Nat) : ByteArray := bs (msgA 0 0 K.fconf.fDomain (bif K.fconf.fOneStep then 0 else 512) 0 (api_PortID.mk K.fconf.fClock ((i + 1 : Nat) : Int)) (K.fports i).fsyncs (-3) (bif K.fconf.fOneStep then now else 0))
theorem step_chain {p : Nat} {s : R1} {K : clock_Clock} {g5 : Fm servo_Servo} {t a0 a1 a2 : Int} {b : ByteArray} {c : api_Conf} (hK : K.set_fouts [] = s.1) (hok : okAt p s = true) (h0 : 0 ≤ t) (h1 : t ≤ 4000000000000000) :
  ∃ (K2 K3 : clock_Clock), Leads K2 p ∧ (∀ i, i < p → HdOk K2.fconf.fDomain K2.fparent.fTimes.fFlags 0 (api_PortID.mk K2.fconf.fClock ((i + 1 : Nat) : Int)) (K2.fports i).fannounces (-3) ∧ AnnOk K2.fparent.fTimes.fUtc K2.fparent.fPriority1 K2.fparent.fQuality K2.fparent.fPriority2 K2.fparent.fGrand K2.fparent.fSteps K2.fparent.fTimes.fOrigin ∧ HdOk K2.fconf.fDomain (bif K2.fconf.fOneStep then 0 else 512) 0 (api_PortID.mk K2.fconf.fClock ((i + 1 : Nat) : Int)) (K2.fports i).fsyncs (-3)) ∧
   (∃ K1 e f, mid s = some (K1, e, K2, f)) ∧
   K11 (api_Event.mk 1 a0 t a1 a2 b c) K g5 s.2.1 s.2.2.1 s.2.2.2.1 s.2.2.2.2.1 s.2.2.2.2.2.1 s.2.2.2.2.2.2.1 = some ((said K2 (annB K2) (synB K2 t) p, ()), (K3, g5, (nxt p s).2.1, (nxt p s).2.2.1, (nxt p s).2.2.2.1, (nxt p s).2.2.2.2.1, (nxt p s).2.2.2.2.2.1, (nxt p s).2.2.2.2.2.2.1, ()), ()) ∧
   K3.set_fouts [] = (nxt p s).1 := by
 unfold okAt at hok
 cases hm : mid s with
 | none => rw [hm] at hok; cases hok
 | some r =>
  obtain ⟨K1, e, K2, f⟩ := r
  rw [hm] at hok
  simp only [Bool.and_eq_true, decide_eq_true_eq] at hok
  obtain ⟨⟨hla, hl⟩, hso⟩ := hok
  obtain ⟨hL, hR⟩ := leads_of hl
  have hx : nxt p s = ((spk (fun _ => ByteArray.empty) (fun _ => ByteArray.empty) p K2).set_fouts [], f) := by unfold nxt; rw [hm]
  refine ⟨K2, spk (annB K2) (synB K2 t) p K2, hL, fun i hi => ⟨hd_of (hR i hi).1, an_of (hR i hi).2.1, hd_of (hR i hi).2.2⟩, ⟨K1, e, f, rfl⟩, ?_, by rw [hx]; exact spk_quiet _ _ _ _ _ _⟩
  have hmid := hm
  unfold mid at hm
  split at hm
  ·rename_i z K1' e' h00
   split at hm
   ·rename_i u K2' f' w hd
    cases hm
    have hF1 := speak_all (now := t) (g := (f'.1, f'.2.1, e.2.2.1, f'.2.2.1, f'.2.2.2.1, e.2.2.2.2.2.1, ())) (bA := annB K2) (bS := synB K2 t) hL (fun i hi => put_N (an_of (hR i hi).2.1) (hd_of (hR i hi).1) (by decide) (by decide))
     (fun i hi => put_A (.inl ⟨rfl, rfl⟩) (hd_of (hR i hi).2.2) (by cases K2.fconf.fOneStep <;> simp [h0]) (by cases K2.fconf.fOneStep <;> simp [h1]))
    have ht := tick_of (now := t) (K := s.1) (K1 := K1) (K2 := K2) (g := s.2) (e := e) (f := (f'.1, f'.2.1, e.2.2.1, f'.2.2.1, f'.2.2.2.1, e.2.2.2.2.2.1, ())) (F0_now t _ _ z h00)
     (by unfold K12 K12.gen; rw [hla]; rfl) hd hF1
    unfold K11 K11.gen
    simp only [show ieq 1 1 = true from rfl, cond_true, now_ok h0 h1]
    rw [show clock_Clock.set_fouts K (lnil api_Out) = s.1 from hK]
    rw [ht]
    simp only [oelim_some, spk_outs, hL.outs, hx]
    rfl
   ·cases hm
  ·cases hm
theorem awake_true : K74.A = some () := by kernel_rfl
noncomputable def ownB (K : clock_Clock) (d : Int) : Bool := decide (K.fconf.fClock = 50) && decide (K.fconf.fDomain = 0) && decide (K.fdrops = d)
noncomputable def okO (p i : Nat) (s : R1) : Bool :=
 okAt p s && (match mid s with | some (_, _, K2, _) => decide (K2.fconf.fClock = 50) && decide (K2.fconf.fDomain = 0) | none => false) && ownB (nxt p s).1 ((2 * p * i : Nat) : Int)
noncomputable def nxO (p i : Nat) (s : R1) : R1 := ((nxt p s).1.set_fdrops ((2 * p * (i + 1) : Nat) : Int), (nxt p s).2)
noncomputable def finB (p : Nat) (s : R1) : Bool := (List.range p).all fun j =>
 (match K10 ((j + 1 : Nat) : Int) s.1 with | some r => decide (r.1.1 = 6) | none => false) && (match K9 ((j + 1 : Nat) : Int) s.1 s.2.1 with | some r => r.1.1.isEmpty | none => false)
noncomputable def chainO (p : Nat) : Nat → Nat → R1 → Bool
 | 0, _, _ => true
 | k + 1, i, s => okO p i s && finB p (nxO p i s) && chainO p k (i + 1) (nxO p i s)
noncomputable abbrev frO (p : Nat) := K75 50 (p : Int) e0_ e6_ e2_ e1_ e4_ e3_ e5_ (0, fun _ => [])
abbrev NT := (Fm clock_Clock) × (Fm servo_Servo) × Gs
abbrev TT := (List api_Out × Unit) × (clock_Clock × (Fm servo_Servo) × Gs) × Unit
abbrev sOf (T : TT) : R1 := (T.2.1.1.set_fouts [], T.2.1.2.2.1, T.2.1.2.2.2.1, T.2.1.2.2.2.2.1, T.2.1.2.2.2.2.2.1, T.2.1.2.2.2.2.2.2.1, T.2.1.2.2.2.2.2.2.2.1, ())
noncomputable def frN (p : Nat) : NT := match frO p with | some r => r.2.1 | none => (e0_, e6_, e2_, e1_, e4_, e3_, e5_, (0, fun _ => []), ())
noncomputable abbrev tkO (N : NT) := K76 6 (N.1.2 0) N.2.1 N.2.2.1 N.2.2.2.1 N.2.2.2.2.1 N.2.2.2.2.2.1 N.2.2.2.2.2.2.1 N.2.2.2.2.2.2.2.1
noncomputable def tkT (N : NT) : TT := match tkO N with | some r => r | none => (([], ()), (N.1.2 0, N.2), ())
noncomputable def itF (p i : Nat) : Nat → R1 → R1
 | 0, s => s
 | j + 1, s => nxO p (i + j) (itF p i j s)
theorem itF_shift (p : Nat) : ∀ (j i : Nat) (s : R1), itF p (i + 1) j (nxO p i s) = itF p i (j + 1) s
 | 0, i, s => rfl
 | j + 1, i, s => by
  rw [itF, itF_shift p j i s]
  show nxO p (i + 1 + j) (itF p i (j + 1) s) = nxO p (i + (j + 1)) (itF p i (j + 1) s)
  rw [show i + 1 + j = i + (j + 1) by omega]
theorem chainO_at (p : Nat) : ∀ (k i : Nat) (s : R1), chainO p k i s = true → ∀ j, j < k → okO p (i + j) (itF p i j s) = true ∧ finB p (itF p i (j + 1) s) = true
 | 0, _, _, _, j, hj => absurd hj (Nat.not_lt_zero _)
 | k + 1, i, s, h, j, hj => by
  unfold chainO at h
  simp only [Bool.and_eq_true] at h
  cases j with
  | zero => exact ⟨h.1.1, h.1.2⟩
  | succ j =>
   have := chainO_at p k (i + 1) _ h.2 j (by omega)
   rw [itF_shift, show i + 1 + j = i + (j + 1) by omega] at this
   refine ⟨this.1, ?_⟩
   have h2 := this.2
   rw [itF_shift] at h2
   exact h2
theorem said_own {K : clock_Clock} {t : Int} {p : Nat} (hd : K.fconf.fDomain = 0) (hc : K.fconf.fClock = 50) (t0 : 0 ≤ t) (t1 : t ≤ 4000000000000000)
  (hR : ∀ i, i < p → HdOk K.fconf.fDomain K.fparent.fTimes.fFlags 0 (api_PortID.mk K.fconf.fClock ((i + 1 : Nat) : Int)) (K.fports i).fannounces (-3) ∧ AnnOk K.fparent.fTimes.fUtc K.fparent.fPriority1 K.fparent.fQuality K.fparent.fPriority2 K.fparent.fGrand K.fparent.fSteps K.fparent.fTimes.fOrigin ∧ HdOk K.fconf.fDomain (bif K.fconf.fOneStep then 0 else 512) 0 (api_PortID.mk K.fconf.fClock ((i + 1 : Nat) : Int)) (K.fports i).fsyncs (-3)) :
  ∀ j, j ≤ p → ∀ o ∈ said K (annB K) (synB K t) j, ∃ M, K60 o.fBytes 0 = some ((M, ([], (0, ()))), (), ()) ∧ M.fSource.fClock = 50
 | 0, _, o, ho => by cases ho
 | j + 1, hj, o, ho => by
  unfold said at ho
  rw [List.mem_append, List.mem_append] at ho
  have hr := hR j (by omega)
  rcases ho with (ho | ho) | ho
  ·exact said_own hd hc t0 t1 hR j (by omega) o ho
  ·rw [List.mem_singleton] at ho
   subst ho
   refine ⟨annOf K j, ?_, hc⟩
   unfold K60 K60.gen
   rw [show K59 (api_Out.mk 1 ((j + 1 : Nat) : Int) 0 false 11 (K.fports j).fannounces (annB K j)).fBytes = _ from get_N hr.2.1 hr.1 (by decide) (st := 0) (by decide)]
   simp only [oelim_some, ieq_self, cond_true]
   rw [ine_false (show K.fconf.fDomain = 0 from hd)]
   rfl
  ·rw [List.mem_singleton] at ho
   subst ho
   refine ⟨synOf K j t, ?_, hc⟩
   unfold K60 K60.gen
   rw [show K59 (api_Out.mk 1 ((j + 1 : Nat) : Int) 0 (!K.fconf.fOneStep) 0 (K.fports j).fsyncs (synB K t j)).fBytes = _ from get_A (.inl ⟨rfl, rfl⟩) hr.2.2 (by cases K.fconf.fOneStep <;> simp [t0]) (by cases K.fconf.fOneStep <;> simp [t1])]
   simp only [oelim_some, ieq_self, cond_true]
   rw [ine_false (show K.fconf.fDomain = 0 from hd)]
   rfl
theorem said_len (K : clock_Clock) (bA bS : Nat → ByteArray) : ∀ j, (said K bA bS j).length = 2 * j
 | 0 => rfl
 | j + 1 => by simp [said, said_len K bA bS j]; omega
theorem frame_own {K : clock_Clock} {g6 : Fm foreign_Table} {g12 : Fm (List (api_PortID × List Int))}
  {b : ByteArray} {q now : Int} {M : api_Msg} (hHere : K60 b K.fconf.fDomain = some ((M, ([], (0, ()))), (), ())) (hc : ieq M.fSource.fClock K.fconf.fClock = true) :
  K18 q b now K g6 g12 = some ((), (K.set_fdrops (iadd .i64 K.fdrops 1), g6, g12, ()), ()) := by
 unfold K18 K18.gen
 rw [hHere]
 simp only [oelim_some]
 unfold K20 K20.gen
 cases ilt q 1 with
 | true => rfl
 | false =>
  simp only [cond_false, oelim_some]
  cases ilt K.fconf.fPorts q with
  | true => rfl
  | false =>
   simp only [cond_false, n_0_0, hc, oelim_some, cond_true]
theorem fix_inl {α β : Type} {s : α → Option (α ⊕ β)} {a a' : α} (n : Nat) (h : s a = some (.inl a')) : loopFix (n + 1) s a = loopFix n s a' := by rw [loopFix, h]
theorem fix_inr {α β : Type} {s : α → Option (α ⊕ β)} {a : α} {b : β} (n : Nat) (h : s a = some (.inr b)) : loopFix (n + 1) s a = some b := by rw [loopFix, h]
theorem ticks_1 {K K3 : clock_Clock} {g5 : Fm servo_Servo} {g f : Gs} {l : List api_Out} (hl : l.length < 1000)
  (h : K11 (api_Event.mk 1 0 1000 0 0 (ByteArray.mk (List.toArray (lnil UInt8))) (api_Conf.mk 0 0 0 0 0 (api_Quality.mk 0 0 0) false 0 0 0 0 false false 0 0 0 0 (api_Times.mk 0 0 0) false)) K g5 g.1 g.2.1 g.2.2.1 g.2.2.2.1 g.2.2.2.2.1 g.2.2.2.2.2.1 = some ((l, ()), (K3, g5, f.1, f.2.1, f.2.2.1, f.2.2.2.1, f.2.2.2.2.1, f.2.2.2.2.2.1, ()), ())) :
  K76 1 K g5 g.1 g.2.1 g.2.2.1 g.2.2.2.1 g.2.2.2.2.1 g.2.2.2.2.2.1 = some ((l, ()), (K3, g5, f.1, f.2.1, f.2.2.1, f.2.2.2.1, f.2.2.2.2.1, f.2.2.2.2.2.1, ()), ()) := by
 unfold K76 K76.gen K76.F0
 have e : loopFix (1000000 + (([] : List api_Out)).length) (K76.step0 K11) ((1, lnil api_Out, 0, ()), K, g5, g.1, g.2.1, g.2.2.1, g.2.2.2.1, g.2.2.2.2.1, g.2.2.2.2.2.1, ()) = some ((l, ()), K3, g5, f.1, f.2.1, f.2.2.1, f.2.2.2.1, f.2.2.2.2.1, f.2.2.2.2.2.1, ()) := by
  show loopFix (999999 + 1) _ _ = _
  rw [fix_inl 999999 (a' := ((1, l, 1, ()), K3, g5, f.1, f.2.1, f.2.2.1, f.2.2.2.1, f.2.2.2.2.1, f.2.2.2.2.2.1, ())) ?a1]
  case a1 =>
   unfold K76.step0
   simp only [show ilt 0 1 = true from rfl, cond_true]
   rw [h]
   simp only [oelim_some]
   rw [show room ((lnil api_Out).length + l.length) 64 = true from room_true (by show (0 + l.length) * 64 ≤ _; omega)]
   rfl
  rw [fix_inr 999998]
  unfold K76.step0
  rfl
 rw [show loopFix (1000000 + (((1, lnil api_Out, 0, ()), K, g5, g.1, g.2.1, g.2.2.1, g.2.2.2.1, g.2.2.2.2.1, g.2.2.2.2.2.1, ()) : (Int × List api_Out × Int × Unit) × clock_Clock × (Fm servo_Servo) × Gs).1.2.1.length) (K76.step0 K11) ((1, lnil api_Out, 0, ()), K, g5, g.1, g.2.1, g.2.2.1, g.2.2.2.1, g.2.2.2.2.1, g.2.2.2.2.2.1, ()) = _ from e]
 rfl
abbrev ev0 : api_Conf := api_Conf.mk 0 0 0 0 0 (api_Quality.mk 0 0 0) false 0 0 0 0 false false 0 0 0 0 (api_Times.mk 0 0 0) false
theorem drops_quiet {K0 : clock_Clock} (ho : K0.fouts = []) (a b : Int) : ((K0.set_fdrops a).set_fdrops b).set_fouts [] = K0.set_fdrops b := by
 cases K0
 simp only [] at ho
 subst ho
 rfl
theorem own_inner {p n i : Int} {D : Nat} {Gn : Nat} {Gf : Nat → clock_Clock} {g5 : Fm servo_Servo} {g : Gs} {l : List api_Out} {K0 : clock_Clock} (hp : p ≠ 0) (hl : ∀ o ∈ l, ∃ M, K60 o.fBytes 0 = some ((M, ([], (0, ()))), (), ()) ∧ M.fSource.fClock = 50) (hlen : l.length < 1000) (hD : D < 100000)
  (hd : K0.fconf.fDomain = 0) (hc : K0.fconf.fClock = 50) (hG : (Gf 0).set_fouts [] = K0.set_fdrops (D : Int)) :
  ∃ G2 : Nat → clock_Clock, (G2 0).set_fouts [] = K0.set_fdrops ((D + l.length : Nat) : Int) ∧ K73.F1 ((n, p, some 0, (D : Int), i, l, 0, ()), (Gn, Gf), g5, g.1, g.2.1, g.2.2.1, g.2.2.2.1, g.2.2.2.2.1, g.2.2.2.2.2.1, ()) =
   some (.inl ((n, p, some 0, ((D + l.length : Nat) : Int), i, ()), (Gn, G2), g5, g.1, g.2.1, g.2.2.1, g.2.2.2.1, g.2.2.2.2.1, g.2.2.2.2.2.1, ())) := by
 obtain ⟨b, hb, G2, h1, h2⟩ := loopFix_rule (step := K73.step1 K72 K75 K76 K11 K10 K9 K8 K74.A)
  (Inv := fun a => ∃ (j : Nat) (G : Nat → clock_Clock), j ≤ l.length ∧ (G 0).set_fouts [] = K0.set_fdrops ((D + j : Nat) : Int) ∧ a = ((n, p, some 0, ((D + j : Nat) : Int), i, l, (j : Int), ()), (Gn, G), g5, g.1, g.2.1, g.2.2.1, g.2.2.2.1, g.2.2.2.2.1, g.2.2.2.2.2.1, ()))
  (Post := fun b => ∃ G2 : Nat → clock_Clock, (G2 0).set_fouts [] = K0.set_fdrops ((D + l.length : Nat) : Int) ∧ b = .inl ((n, p, some 0, ((D + l.length : Nat) : Int), i, ()), (Gn, G2), g5, g.1, g.2.1, g.2.2.1, g.2.2.2.1, g.2.2.2.2.1, g.2.2.2.2.2.1, ()))
  (m := fun a => (l.length - a.1.2.2.2.2.2.2.1).toNat) (by
   rintro a ⟨j, G, hj, hG, rfl⟩
   by_cases hjl : j < l.length
   ·obtain ⟨M, hM, hMc⟩ := hl (l[j]) (List.getElem_mem hjl)
    have hKd : ((G 0).set_fouts []).fconf.fDomain = 0 := by rw [hG]; exact hd
    have hKc : ((G 0).set_fouts []).fconf.fClock = 50 := by rw [hG]; exact hc
    have hKn : ((G 0).set_fouts []).fdrops = ((D + j : Nat) : Int) := by rw [hG]
    have hf := frame_own (K := (G 0).set_fouts []) (g6 := g.1) (g12 := g.2.2.2.2.2.1) (b := (l[j]).fBytes) (q := iadd .i64 1 (irem (iadd .i64 (j : Int) i) p)) (now := 1000) (M := M) (by rw [hKd]; exact hM) (by rw [hMc, hKc]; rfl)
    have hs := step_frame (K := G 0) (g5 := g5) (g6 := g.1) (g7 := g.2.1) (g8 := g.2.2.1) (g9 := g.2.2.2.1) (g10 := g.2.2.2.2.1) (g12 := g.2.2.2.2.2.1) (t := 1000) (a1 := 0) (a2 := 0) (c := ev0) (by decide) (by decide) hf
    refine .inl ⟨((n, p, some 0, ((D + (j + 1) : Nat) : Int), i, l, ((j + 1 : Nat) : Int), ()), (Gn, fset G 0 (((G 0).set_fouts []).set_fdrops (iadd .i64 ((G 0).set_fouts []).fdrops 1))), g5, g.1, g.2.1, g.2.2.1, g.2.2.2.1, g.2.2.2.2.1, g.2.2.2.2.2.1, ()), ?_, ⟨j + 1, _, by omega, ?_, rfl⟩, ?_⟩
    ·unfold K73.step1
     simp only []
     rw [show ilt (j : Int) (ofN l.length) = true from ilt_true (show (j : Int) < ((l.length : Nat) : Int) by omega), ine_true hp, show inR (j : Int) l.length = true by rw [inR_nat]; simpa using hjl]
     simp only [cond_true, oelim_some, Int.toNat_natCast]
     rw [show l.getD j api_Out.zero = l[j] from getD_at hjl, hs]
     simp only [oelim_some]
     rw [show ine (ofN ([] : List api_Out).length) 0 = false from rfl, iinc (show D + j < 4611686018427387904 by omega), iinc (show j < 4611686018427387904 by omega)]
     rfl
    ·rw [fset_same, hKn, iinc (show D + j < 4611686018427387904 by omega)]
     show (((G 0).set_fouts []).set_fdrops ((D + (j + 1) : Nat) : Int)).set_fouts [] = _
     rw [hG]
     exact drops_quiet (congrArg clock_Clock.fouts hG).symm _ _
    ·simp only []
     omega
   ·have : j = l.length := by omega
    subst this
    refine .inr ⟨_, ?_, G, hG, rfl⟩
    unfold K73.step1
    simp only []
    rw [show ilt (l.length : Int) (ofN l.length) = false from ilt_false (show ¬ ((l.length : Nat) : Int) < ((l.length : Nat) : Int) by omega)]
    rfl) (1000000 + l.length) ((n, p, some 0, (D : Int), i, l, 0, ()), (Gn, Gf), g5, g.1, g.2.1, g.2.2.1, g.2.2.2.1, g.2.2.2.2.1, g.2.2.2.2.2.1, ()) ⟨0, Gf, by omega, hG, rfl⟩ (by simp only []; omega)
 refine ⟨G2, h1, ?_⟩
 subst h2
 exact hb
theorem state_q (n : Int) (K : clock_Clock) : K10 n (K.set_fouts []) = K10 n K := by kernel_rfl
theorem foreign_q (n : Int) (K : clock_Clock) (g6 : Fm foreign_Table) : K9 n (K.set_fouts []) g6 = K9 n K g6 := by kernel_rfl
theorem own_final {p : Nat} {D : Int} {Gn : Nat} {G : Nat → clock_Clock} {g5 : Fm servo_Servo} {s : R1} (hp : p ≤ 8) (hG : (G 0).set_fouts [] = s.1) (hf : finB p s = true) :
  K73.F2 (((p : Int), some 0, D, 1, ()), (Gn, G), g5, s.2) = some (.inl ((some 0, D, ()), (Gn, G), g5, s.2)) := by
 unfold K73.F2
 refine loop_to (step := K73.step2 _ _ _ _ _ _ _ _) (fun j => (((p : Int), some 0, D, ((j + 1 : Nat) : Int), ()), (Gn, G), g5, s.2)) p _ (by omega) (fun j hj => ?_) ?_
 ·unfold finB at hf
  have h := List.all_eq_true.1 hf j (List.mem_range.2 hj)
  rw [Bool.and_eq_true] at h
  obtain ⟨h1, h2⟩ := h
  rw [← hG, state_q] at h1
  rw [← hG, foreign_q] at h2
  unfold K73.step2
  simp only []
  rw [ile_true (show ((j + 1 : Nat) : Int) ≤ (p : Int) by omega)]
  simp only [cond_true, oelim_some]
  cases hs : K10 ((j + 1 : Nat) : Int) (G 0) with
  | none => rw [hs] at h1; cases h1
  | some r =>
   rw [hs] at h1
   simp only [decide_eq_true_eq] at h1
   cases hq : K9 ((j + 1 : Nat) : Int) (G 0) s.2.1 with
   | none => rw [hq] at h2; cases h2
   | some q =>
    rw [hq] at h2
    simp only [oelim_some, h1, ine_self, cond_false]
    have : q.1.1 = [] := List.isEmpty_iff.1 h2
    rw [this, show ine (ofN ([] : List foreign_Record).length) 0 = false from rfl, iinc (show j + 1 < 4611686018427387904 by omega)]
    rfl
 ·unfold K73.step2
  simp only []
  rw [ile_false (show ¬ ((p + 1 : Nat) : Int) ≤ (p : Int) by omega)]
  rfl
theorem own_rounds {p m : Nat} {n : Int} {Gn : Nat} {Gf : Nat → clock_Clock} {g5 : Fm servo_Servo} {s0 : R1} (hp0 : 1 ≤ p) (hp : p ≤ 8) (hm : n % 10 = (m : Int)) (m1 : m < 10) (hC : ∀ i, i < 10 → okO p i (itF p 0 i s0) = true) (hG0 : (Gf 0).set_fouts [] = s0.1) :
  ∃ G : Nat → clock_Clock, (G 0).set_fouts [] = (itF p 0 (m + 1) s0).1 ∧ K73.F0 ((n, (p : Int), some 0, 0, 0, ()), (Gn, Gf), g5, s0.2) =
   some (.inl (((p : Int), some 0, ((2 * p * (m + 1) : Nat) : Int), ()), (Gn, G), g5, (itF p 0 (m + 1) s0).2)) := by
 obtain ⟨b, hb, G, h1, h2⟩ := loopFix_rule (step := K73.step0 K72 K75 K76 K11 K10 K9 K8 K74.A K73.F1)
  (Inv := fun a => ∃ (i : Nat) (G : Nat → clock_Clock), i ≤ m + 1 ∧ (G 0).set_fouts [] = (itF p 0 i s0).1 ∧ a = ((n, (p : Int), some 0, ((2 * p * i : Nat) : Int), (i : Int), ()), (Gn, G), g5, (itF p 0 i s0).2))
  (Post := fun b => ∃ G : Nat → clock_Clock, (G 0).set_fouts [] = (itF p 0 (m + 1) s0).1 ∧ b = .inl (((p : Int), some 0, ((2 * p * (m + 1) : Nat) : Int), ()), (Gn, G), g5, (itF p 0 (m + 1) s0).2))
  (m := fun a => (m + 1 - a.1.2.2.2.2.1).toNat) (by
   rintro a ⟨i, G, hi, hG, rfl⟩
   by_cases him : i < m + 1
   ·have hok := hC i (by omega)
    generalize hs : itF p 0 i s0 = s at hok hG
    unfold okO at hok
    simp only [Bool.and_eq_true] at hok
    obtain ⟨⟨hA, hM⟩, hW⟩ := hok
    obtain ⟨K2, K3, hL, hR, ⟨K1, e, f, hmid⟩, hstep, hq⟩ := step_chain (p := p) (s := s) (K := G 0) (g5 := g5) (t := 1000) (a0 := 0) (a1 := 0) (a2 := 0) (b := ByteArray.mk (List.toArray (lnil UInt8))) (c := ev0) hG hA (by decide) (by decide)
    rw [hmid] at hM
    simp only [Bool.and_eq_true, decide_eq_true_eq] at hM
    unfold ownB at hW
    simp only [Bool.and_eq_true, decide_eq_true_eq] at hW
    obtain ⟨⟨hW1, hW2⟩, hW3⟩ := hW
    have hpi : 2 * p * i ≤ 160 := by
     have : p * i ≤ 8 * 10 := Nat.mul_le_mul hp (by omega)
     rw [Nat.mul_assoc]; omega
    have hout : (said K2 (annB K2) (synB K2 1000) p).length = 2 * p := said_len _ _ _ _
    have htk := ticks_1 (g := s.2) (f := (nxt p s).2) (l := said K2 (annB K2) (synB K2 1000) p) (by rw [hout]; omega) hstep
    have hK3 : ((fset G 0 K3) 0).set_fouts [] = (nxt p s).1.set_fdrops ((2 * p * i : Nat) : Int) := by
     rw [fset_same, hq, ← hW3]
    obtain ⟨G2, hG2, hin⟩ := own_inner (p := (p : Int)) (n := n) (i := (i : Int)) (D := 2 * p * i) (Gn := Gn) (Gf := fset G 0 K3) (g5 := g5) (g := (nxt p s).2) (l := said K2 (annB K2) (synB K2 1000) p) (K0 := (nxt p s).1) (by omega) (said_own hM.2 hM.1 (by decide) (by decide) hR p (Nat.le_refl _)) (by rw [hout]; omega) (by omega) hW2 hW1 hK3
    have hD : 2 * p * i + 2 * p = 2 * p * (i + 1) := by rw [Nat.mul_add, Nat.mul_one]
    rw [hout, hD] at hG2 hin
    refine .inl ⟨((n, (p : Int), some 0, ((2 * p * (i + 1) : Nat) : Int), ((i + 1 : Nat) : Int), ()), (Gn, G2), g5, (nxt p s).2), ?_, ⟨i + 1, G2, by omega, ?_, ?_⟩, ?_⟩
    ·unfold K73.step0
     simp only []
     rw [place_spec n 10 (by decide) (by decide), hm]
     simp only [oelim_some]
     rw [show iadd .i64 1 (m : Int) = ((m + 1 : Nat) : Int) by rw [iadd_of (by omega)]; omega, ilt_true (show (i : Int) < ((m + 1 : Nat) : Int) by omega)]
     simp only [cond_true, oelim_some]
     rw [htk]
     simp only [oelim_some]
     rw [hin]
     simp only [oelim_some, selim]
     rw [iinc (show i < 4611686018427387904 by omega)]
    ·show _ = (nxO p (0 + i) (itF p 0 i s0)).1
     rw [hs, Nat.zero_add]
     exact hG2
    ·show _ = ((n, (p : Int), some 0, ((2 * p * (i + 1) : Nat) : Int), ((i + 1 : Nat) : Int), ()), (Gn, G2), g5, (nxO p (0 + i) (itF p 0 i s0)).2)
     rw [hs]
     rfl
    ·simp only []
     omega
   ·have : i = m + 1 := by omega
    subst this
    refine .inr ⟨_, ?_, G, hG, rfl⟩
    unfold K73.step0
    simp only []
    rw [place_spec n 10 (by decide) (by decide), hm]
    simp only [oelim_some]
    rw [show iadd .i64 1 (m : Int) = ((m + 1 : Nat) : Int) by rw [iadd_of (by omega)]; omega, ilt_false (show ¬ ((m + 1 : Nat) : Int) < ((m + 1 : Nat) : Int) by omega)]
    rfl) 1000000 ((n, (p : Int), some 0, 0, 0, ()), (Gn, Gf), g5, s0.2) ⟨0, Gf, by omega, hG0, rfl⟩ (by simp only []; omega)
 refine ⟨G, h1, ?_⟩
 subst h2
 exact hb
theorem own_end {p : Nat} (hp0 : 1 ≤ p) (hp : p ≤ 8) (ports n : Int) (hpp : ports % 8 + 1 = (p : Int)) (N : NT) (T : TT) (hN : frO p = some ((some 0, ()), N, ())) (hT : tkO N = some T) (hC : chainO p 10 0 (sOf T) = true) :
  ∃ y, K73 ports n e0_ e6_ e2_ e1_ e4_ e3_ e5_ (0, fun _ => []) = some ((true, ()), y, ()) := by
 obtain ⟨m, hm⟩ : ∃ m : Nat, n % 10 = (m : Int) := ⟨(n % 10).toNat, by omega⟩
 have hch := chainO_at p 10 0 _ hC
 obtain ⟨G, hG, hr⟩ := own_rounds (p := p) (m := m) (n := n) (Gn := N.1.1) (Gf := fset N.1.2 0 T.2.1.1) (g5 := T.2.1.2.1) (s0 := sOf T) hp0 hp hm (by omega) (fun i hi => by have := (hch i hi).1; rwa [Nat.zero_add] at this) (by rw [fset_same])
 have hf := own_final (p := p) (D := ((2 * p * (m + 1) : Nat) : Int)) (Gn := N.1.1) (g5 := T.2.1.2.1) hp hG (hch m (by omega)).2
 have hd : (G 0).fdrops = ((2 * p * (m + 1) : Nat) : Int) := by
  have h := congrArg clock_Clock.fdrops hG
  have h2 : ((G 0).set_fouts []).fdrops = (G 0).fdrops := rfl
  rw [← h2, h]
  show (nxO p (0 + m) (itF p 0 m (sOf T))).1.fdrops = _
  rw [Nat.zero_add]
  rfl
 unfold K73 K73.gen
 rw [place_spec ports 8 (by decide) (by decide), awake_true]
 simp only [oelim_some]
 rw [show iadd .i64 1 (ports % 8) = (p : Int) by rw [iadd_of (by omega)]; omega]
 rw [show K75 50 (p : Int) e0_ e6_ e2_ e1_ e4_ e3_ e5_ (0, fun _ => []) = _ from hN]
 simp only [oelim_some, Option.isSome_some, Bool.not_true, cond_false]
 rw [show K76 6 (N.1.2 0) N.2.1 N.2.2.1 N.2.2.2.1 N.2.2.2.2.1 N.2.2.2.2.2.1 N.2.2.2.2.2.2.1 N.2.2.2.2.2.2.2.1 = some T from hT]
 simp only [oelim_some]
 rw [show K73.F0 ((n, (p : Int), some 0, 0, 0, ()), (N.1.1, fset N.1.2 0 T.2.1.1), T.2.1.2) = _ from hr]
 simp only [oelim_some, selim]
 rw [hf]
 simp only [oelim_some, selim]
 unfold K8 K8.gen
 simp only [oelim_some, hd, ieq_self, cond_true]
 rw [ilt_true (show (0 : Int) < ((2 * p * (m + 1) : Nat) : Int) by have : 1 ≤ p * (m + 1) := Nat.mul_pos hp0 (by omega); rw [Nat.mul_assoc]; omega)]
 simp only [cond_true]
 exact ⟨_, rfl⟩
theorem frO_1 : frO 1 = some ((some 0, ()), frN 1, ()) := by kernel_rfl
theorem tkO_1 : tkO (frN 1) = some (tkT (frN 1)) := by kernel_rfl
theorem chO_1 : chainO 1 10 0 (sOf (tkT (frN 1))) = true := by kernel_rfl
theorem frO_2 : frO 2 = some ((some 0, ()), frN 2, ()) := by kernel_rfl
theorem tkO_2 : tkO (frN 2) = some (tkT (frN 2)) := by kernel_rfl
theorem chO_2 : chainO 2 10 0 (sOf (tkT (frN 2))) = true := by kernel_rfl
theorem frO_3 : frO 3 = some ((some 0, ()), frN 3, ()) := by kernel_rfl
theorem tkO_3 : tkO (frN 3) = some (tkT (frN 3)) := by kernel_rfl
theorem chO_3 : chainO 3 10 0 (sOf (tkT (frN 3))) = true := by kernel_rfl
theorem frO_4 : frO 4 = some ((some 0, ()), frN 4, ()) := by kernel_rfl
theorem tkO_4 : tkO (frN 4) = some (tkT (frN 4)) := by kernel_rfl
theorem chO_4 : chainO 4 10 0 (sOf (tkT (frN 4))) = true := by kernel_rfl
theorem frO_5 : frO 5 = some ((some 0, ()), frN 5, ()) := by kernel_rfl
theorem tkO_5 : tkO (frN 5) = some (tkT (frN 5)) := by kernel_rfl
theorem chO_5 : chainO 5 10 0 (sOf (tkT (frN 5))) = true := by kernel_rfl
theorem frO_6 : frO 6 = some ((some 0, ()), frN 6, ()) := by kernel_rfl
theorem tkO_6 : tkO (frN 6) = some (tkT (frN 6)) := by kernel_rfl
theorem chO_6 : chainO 6 10 0 (sOf (tkT (frN 6))) = true := by kernel_rfl
theorem frO_7 : frO 7 = some ((some 0, ()), frN 7, ()) := by kernel_rfl
theorem tkO_7 : tkO (frN 7) = some (tkT (frN 7)) := by kernel_rfl
theorem chO_7 : chainO 7 10 0 (sOf (tkT (frN 7))) = true := by kernel_rfl
theorem frO_8 : frO 8 = some ((some 0, ()), frN 8, ()) := by kernel_rfl
theorem tkO_8 : tkO (frN 8) = some (tkT (frN 8)) := by kernel_rfl
theorem chO_8 : chainO 8 10 0 (sOf (tkT (frN 8))) = true := by kernel_rfl
theorem K73.law : ∀ (ports : Int) (n : Int), (Lit.int .i64 ports).wf = true → (Lit.int .i64 n).wf = true → ∃ y, K73 ports n e0_ e6_ e2_ e1_ e4_ e3_ e5_ (0, fun _ => []) = some ((true, ()), y, ()) := by
 intro ports n _ _
 have h : ports % 8 + 1 = ((1 : Nat) : Int) ∨ ports % 8 + 1 = ((2 : Nat) : Int) ∨ ports % 8 + 1 = ((3 : Nat) : Int) ∨ ports % 8 + 1 = ((4 : Nat) : Int) ∨ ports % 8 + 1 = ((5 : Nat) : Int) ∨ ports % 8 + 1 = ((6 : Nat) : Int) ∨ ports % 8 + 1 = ((7 : Nat) : Int) ∨ ports % 8 + 1 = ((8 : Nat) : Int) := by omega
 rcases h with h | h | h | h | h | h | h | h
 ·exact own_end (p := 1) (by decide) (by decide) ports n h (frN 1) (tkT (frN 1)) frO_1 tkO_1 chO_1
 ·exact own_end (p := 2) (by decide) (by decide) ports n h (frN 2) (tkT (frN 2)) frO_2 tkO_2 chO_2
 ·exact own_end (p := 3) (by decide) (by decide) ports n h (frN 3) (tkT (frN 3)) frO_3 tkO_3 chO_3
 ·exact own_end (p := 4) (by decide) (by decide) ports n h (frN 4) (tkT (frN 4)) frO_4 tkO_4 chO_4
 ·exact own_end (p := 5) (by decide) (by decide) ports n h (frN 5) (tkT (frN 5)) frO_5 tkO_5 chO_5
 ·exact own_end (p := 6) (by decide) (by decide) ports n h (frN 6) (tkT (frN 6)) frO_6 tkO_6 chO_6
 ·exact own_end (p := 7) (by decide) (by decide) ports n h (frN 7) (tkT (frN 7)) frO_7 tkO_7 chO_7
 ·exact own_end (p := 8) (by decide) (by decide) ports n h (frN 8) (tkT (frN 8)) frO_8 tkO_8 chO_8
end Go.Proofs.YtgnabnhggaondaaGreat
