/- Typed forms of the functions that these statements reach, proved equal to what the model runs, and laws over them. -/
import Derived.Test.YtgnabnhggaondaaGreatS
import Derived.Test.YtgnabnhggaondaaGreatAr3
import Derived.KernelRfl
namespace Go.Proofs.YtgnabnhggaondaaGreat
open Go.Rf
set_option linter.unusedVariables false
set_option linter.unusedSimpArgs false
set_option maxRecDepth 100000
abbrev e0_ : Nat × (Nat → D .t_clock_Clock) := (0, fun _ => U.dft .t_clock_Clock)
abbrev e1_ : Nat × (Nat → D .t_delay_Exchange) := (0, fun _ => U.dft .t_delay_Exchange)
abbrev e2_ : Nat × (Nat → D .t_foreign_Table) := (0, fun _ => U.dft .t_foreign_Table)
abbrev e3_ : Nat × (Nat → D .t_median_Filter) := (0, fun _ => U.dft .t_median_Filter)
abbrev e4_ : Nat × (Nat → D .t_peer_Exchange) := (0, fun _ => U.dft .t_peer_Exchange)
abbrev e5_ : Nat × (Nat → D .t_seq_Match) := (0, fun _ => U.dft .t_seq_Match)
abbrev e6_ : Nat × (Nat → D .t_servo_Servo) := (0, fun _ => U.dft .t_servo_Servo)
def byteI (e : Int) : UInt8 := UInt8.ofNat (IntKind.u8.wrap e).toNat
def be (v : Int) : Nat → List UInt8
 | 0 => []
 | k + 1 => byteI (ishr .i64 v (8 * (k : Int))) :: be v k
theorem be_length (v : Int) : ∀ k, (be v k).length = k
 | 0 => rfl
 | k + 1 => by simp [be, be_length v k]
theorem put_step (b : List UInt8) (v : Int) (k : Nat) (hk : k < 8) (hb : b.length < 140737488355328) :
  K83.step0 ((b, v, ((k + 1 : Nat) : Int), ()), ()) = some (.inl ((b ++ [byteI (ishr .i64 v (8 * (k : Int)))], v, (k : Int), ()), ())) := by
 have e1 : isub .i64 ((k + 1 : Nat) : Int) 1 = (k : Int) := by have := isub_of (a := ((k + 1 : Nat) : Int)) (b := 1) (by omega); omega
 have e2 : imul .i64 8 (k : Int) = 8 * (k : Int) := imul_of (by omega)
 unfold K83.step0
 simp only [e1, e2, ilt_true (show (0 : Int) < ((k + 1 : Nat) : Int) by omega), ile_true (show (0 : Int) ≤ 8 * (k : Int) by omega), cond_true]
 rw [room_true (by simp; omega)]
 rfl
theorem put_loop (v : Int) : ∀ (k : Nat) (b : List UInt8), k ≤ 8 → b.length + k < 140737488355328 → K83.F0 ((b, v, (k : Int), ()), ()) = some ((b ++ be v k, ()), ()) := by
 intro k b hk hb
 obtain ⟨r, h1, h2⟩ := loopFix_rule (step := K83.step0) (Inv := fun a => ∃ (i : Nat) (c : List UInt8), a = ((c, v, (i : Int), ()), ()) ∧ i ≤ k ∧ c ++ be v i = b ++ be v k)
  (Post := fun r => r = ((b ++ be v k, ()), ())) (m := fun a => a.1.2.2.1.toNat) (by
   rintro x ⟨i, c, rfl, hi, hc⟩
   cases i with
   | zero =>
    refine .inr ⟨_, ?_, rfl⟩
    unfold K83.step0
    simp only [ilt_false (show ¬ (0 : Int) < ((0 : Nat) : Int) by decide), cond_false]
    rw [← hc]; simp [be]
   | succ i =>
    have hcl : c.length + (i + 1) = b.length + k := by
     have := congrArg List.length hc
     simpa [be_length] using this
    refine .inl ⟨_, put_step c v i (by omega) (by omega), ⟨i, _, rfl, by omega, ?_⟩, by simp only [Int.toNat_natCast]; omega⟩
    rw [← hc]; simp [be]) (1000000 + b.length) ((b, v, (k : Int), ()), ()) ⟨k, b, rfl, Nat.le_refl _, rfl⟩ (by simp only [Int.toNat_natCast]; omega)
 subst h2
 exact h1
theorem put_spec (b : List UInt8) (v : Int) (k : Nat) (hk : k ≤ 8) (hb : b.length + k < 140737488355328) : K83 b v (k : Int) = some ((b ++ be v k, ()), ((), ((), ()))) := by
 have e0 : opMinMax true 0 (opMinMax false (k : Int) 8) = (k : Int) := by
  simp only [opMinMax, cond_true, cond_false, imin, imax]
  split <;> split <;> omega
 have e3 : (bif le3 (ofN (0 : Nat)) (ofN b.length) b.length then ieq (ofN b.length) (ofN b.length) else false) = true := by
  simp [le3, ile, ieq]
 have e4 : List.drop (ofN (0 : Nat)).toNat (List.take (ofN b.length).toNat b) = b := by simp
 unfold K83 K83.gen
 simp only [e0, e3, e4, cond_true]
 cases k with
 | zero => simp [ilt, be]
 | succ k =>
  have e1 : isub .i64 ((k + 1 : Nat) : Int) 1 = (k : Int) := by have := isub_of (a := ((k + 1 : Nat) : Int)) (b := 1) (by omega); omega
  have e2 : imul .i64 8 (k : Int) = 8 * (k : Int) := imul_of (by omega)
  simp only [e1, e2, ilt_true (show (0 : Int) < ((k + 1 : Nat) : Int) by omega), ile_true (show (0 : Int) ≤ 8 * (k : Int) by omega), cond_true]
  rw [room_true (by simp; omega)]
  have h := put_loop v k (b ++ [byteI (ishr .i64 v (8 * (k : Int)))]) (by omega) (by simp; omega)
  have h : K83.F0 ((b ++ UInt8.ofNat (IntKind.u8.wrap (ishr .i64 v (8 * (k : Int)))).toNat :: lnil UInt8, v, (k : Int), ()), ()) = _ := h
  rw [h]
  simp [oelim_some, be]
theorem wrap8 (e : Int) : IntKind.u8.wrap e = e % 256 := by
 simp only [IntKind.wrap, IntKind.signed, IntKind.bits, Bool.false_and, Bool.false_eq_true, if_false]; rfl
theorem wrap64 (e : Int) : IntKind.u64.wrap e = e % 18446744073709551616 := by
 simp only [IntKind.wrap, IntKind.signed, IntKind.bits, Bool.false_and, Bool.false_eq_true, if_false]; rfl
theorem emod_split (v m : Int) (hm : 0 < m) : v % (m * 256) = (v / m % 256) * m + v % m := by
 have h : v / (m * 256) = v / m / 256 := by rw [Int.ediv_ediv, if_neg (by omega)]; omega
 rw [Int.emod_def, Int.emod_def (v / m), Int.emod_def v m, h]
 generalize v / m = q
 generalize q / 256 = p
 grind
theorem or_shift (a b : Nat) (h : b < 256) : (a * 256) ||| b = a * 256 + b := by
 have := Nat.shiftLeft_add_eq_or_of_lt (i := 8) (b := b) h a
 rw [Nat.shiftLeft_eq] at this
 exact this.symm
theorem shr8 (v : Int) (i : Nat) (h : i < 8) : ishr .i64 v (8 * (i : Int)) = v / 256 ^ i := by
 have h8 : i = 0 ∨ i = 1 ∨ i = 2 ∨ i = 3 ∨ i = 4 ∨ i = 5 ∨ i = 6 ∨ i = 7 := by omega
 rcases h8 with rfl | rfl | rfl | rfl | rfl | rfl | rfl | rfl
 ·show v.fdiv (2 ^ 0) = _
  rw [Int.fdiv_eq_ediv_of_nonneg _ (by decide)]; rfl
 ·show v.fdiv (2 ^ 8) = _
  rw [Int.fdiv_eq_ediv_of_nonneg _ (by decide)]; rfl
 ·show v.fdiv (2 ^ 16) = _
  rw [Int.fdiv_eq_ediv_of_nonneg _ (by decide)]; rfl
 ·show v.fdiv (2 ^ 24) = _
  rw [Int.fdiv_eq_ediv_of_nonneg _ (by decide)]; rfl
 ·show v.fdiv (2 ^ 32) = _
  rw [Int.fdiv_eq_ediv_of_nonneg _ (by decide)]; rfl
 ·show v.fdiv (2 ^ 40) = _
  rw [Int.fdiv_eq_ediv_of_nonneg _ (by decide)]; rfl
 ·show v.fdiv (2 ^ 48) = _
  rw [Int.fdiv_eq_ediv_of_nonneg _ (by decide)]; rfl
 ·show v.fdiv (2 ^ 56) = _
  rw [Int.fdiv_eq_ediv_of_nonneg _ (by decide)]; rfl
theorem byteI_toNat (e : Int) : ((byteI e).toNat : Int) = e % 256 := by
 unfold byteI
 rw [wrap8, UInt8.toNat_ofNat']
 have h0 := Int.emod_nonneg e (show (256 : Int) ≠ 0 by decide)
 have h1 := Int.emod_lt_of_pos e (show (0 : Int) < 256 by decide)
 omega
def bvalI : Int → List UInt8 → Int
 | a, [] => a
 | a, x :: r => bvalI (a * 256 + (x.toNat : Int)) r
theorem bvalI_be : ∀ (k : Nat) (v a : Int), k ≤ 8 → bvalI a (be v k) = a * 256 ^ k + v % 256 ^ k
 | 0, v, a, _ => by simp [be, bvalI, Int.emod_one]
 | k + 1, v, a, h => by
  rw [be, bvalI, bvalI_be k v _ (by omega), byteI_toNat, shr8 v k (by omega), Int.pow_succ, emod_split v (256 ^ k) (Int.pow_pos (by decide))]
  generalize v / 256 ^ k % 256 = y
  generalize v % 256 ^ k = z
  generalize (256 : Int) ^ k = m
  grind
theorem bvalI_r : ∀ (L : List UInt8) (a : Int), 0 ≤ a → a * 256 ^ L.length ≤ bvalI a L ∧ bvalI a L < (a + 1) * 256 ^ L.length
 | [], a, h => by simp [bvalI]; omega
 | x :: r, a, h => by
  have hx : (x.toNat : Int) < 256 := by have := x.toNat_lt; omega
  have h0 : (0 : Int) ≤ (x.toNat : Int) := by omega
  obtain ⟨h1, h2⟩ := bvalI_r r (a * 256 + (x.toNat : Int)) (by omega)
  rw [bvalI, List.length_cons, Int.pow_succ]
  have hp : (0 : Int) < 256 ^ r.length := Int.pow_pos (by decide)
  generalize (256 : Int) ^ r.length = m at *
  generalize (x.toNat : Int) = y at *
  generalize bvalI (a * 256 + y) r = z at *
  have e1 : a * (m * 256) ≤ (a * 256 + y) * m := by
   have : (a * 256 + y) * m = a * (m * 256) + y * m := by grind
   have : 0 ≤ y * m := Int.mul_nonneg h0 (by omega)
   omega
  have e2 : (a * 256 + y + 1) * m ≤ (a + 1) * (m * 256) := by
   have : (a + 1) * (m * 256) - (a * 256 + y + 1) * m = (255 - y) * m := by grind
   have : 0 ≤ (255 - y) * m := Int.mul_nonneg (by omega) (by omega)
   omega
  omega
theorem read_step (v x : Int) (hv : 0 ≤ v) (hv2 : v < 72057594037927936) (hx : 0 ≤ x) (hx2 : x < 256) : ior .u64 (ishl .u64 v 8) (IntKind.u64.wrap x) = v * 256 + x := by
 have e1 : ishl .u64 v 8 = v * 256 := by
  show IntKind.u64.wrap (v * 2 ^ 8) = _
  rw [wrap64]; omega
 have e2 : IntKind.u64.wrap x = x := by rw [wrap64]; omega
 rw [e1, e2]
 unfold ior
 obtain ⟨a, rfl⟩ : ∃ a : Nat, v = (a : Int) := ⟨v.toNat, by omega⟩
 obtain ⟨b, rfl⟩ : ∃ b : Nat, x = (b : Int) := ⟨x.toNat, by omega⟩
 have f1 : (BitVec.ofInt 64 ((a : Int) * 256)).toNat = a * 256 := by rw [BitVec.toNat_ofInt]; omega
 have f2 : (BitVec.ofInt 64 (b : Int)).toNat = b := by rw [BitVec.toNat_ofInt]; omega
 have : (BitVec.ofInt IntKind.u64.bits ((a : Int) * 256) ||| BitVec.ofInt IntKind.u64.bits (b : Int)).toNat = a * 256 + b := by
  show (BitVec.ofInt 64 ((a : Int) * 256) ||| BitVec.ofInt 64 (b : Int)).toNat = _
  rw [BitVec.toNat_or, f1, f2, or_shift a b (by omega)]
 rw [this, wrap64]; omega
theorem bvalI_app : ∀ (L R : List UInt8) (a : Int), bvalI a (L ++ R) = bvalI (bvalI a L) R
 | [], _, _ => rfl
 | x :: L, R, a => by rw [List.cons_append, bvalI, bvalI, bvalI_app L R]
theorem read_spec (L : List UInt8) (h : L.length ≤ 8) : K87 L = some ((bvalI 0 L, ()), (), ()) := by
 unfold K87 K87.gen K87.F0
 simp only []
 have hl := loop_to (step := K87.step0) (fun i => ((bvalI 0 (L.take i), L, ofN L.length, (i : Int), ()), ())) (b := ((bvalI 0 L, ()), ())) L.length (1000000 + L.length) (by omega) (fun i hi => ?_) ?_
 ·have hl : loopFix (1000000 + L.length) K87.step0 ((0, L, ofN L.length, 0, ()), ()) = some ((bvalI 0 L, ()), ()) := hl
  rw [hl]; rfl
 ·unfold K87.step0
  have hr := bvalI_r (L.take i) 0 (by omega)
  have hlen : (L.take i).length = i := by rw [List.length_take]; omega
  have hp : (256 : Int) ^ i ≤ 256 ^ 7 := by exact_mod_cast Nat.pow_le_pow_right (show 0 < 256 by decide) (show i ≤ 7 by omega)
  rw [hlen] at hr
  have hx := (L[i]).toNat_lt
  have hg : L.getD i 0 = L[i] := getD_at hi
  simp only [ilt_nat, inR_nat, hi, decide_true, cond_true, Int.toNat_natCast, iinc (show i < 4611686018427387904 by omega)]
  have ht : L.take (i + 1) = L.take i ++ [L[i]] := by rw [List.take_add_one, List.getElem?_eq_getElem hi]; rfl
  rw [show List.getD L i (0 : D UC.u8) = L[i] from hg, read_step _ _ (by omega) (by omega) (show (0 : Int) ≤ ((L[i].toNat : Nat) : Int) by omega) (show ((L[i].toNat : Nat) : Int) < 256 by omega), ht, bvalI_app]
  rfl
 ·unfold K87.step0
  simp only [ilt_nat, Nat.lt_irrefl, decide_false, cond_false, List.take_length]
theorem none_ok (b : List UInt8) (at_1 n : Int) (h0 : 0 ≤ at_1) (h1 : 0 ≤ n) (h2 : at_1 + n ≤ (b.length : Int)) (hb : b.length < 1000000) : K86 b at_1 n = some ((false, ()), (), ()) := by
 unfold K86 K86.gen
 have e : isub .i64 (ofN b.length) at_1 = (b.length : Int) - at_1 := isub_of (a := (b.length : Int)) (by omega)
 rw [ilt_false (show ¬ n < 0 by omega), ilt_false (show ¬ at_1 < 0 by omega), ilt_false (show ¬ ((b.length : Nat) : Int) < at_1 by omega), e, ilt_false (show ¬ (b.length : Int) - at_1 < n by omega)]
 rfl
theorem le3_ok {a b : Int} {n : Nat} (h0 : 0 ≤ a) (h1 : a ≤ b) (h2 : b ≤ (n : Int)) : le3 a b n = true := by
 unfold le3; simp [ile, h0, h1, h2]
theorem get_spec (b : List UInt8) (at_1 n : Int) (h0 : 0 ≤ at_1) (h1 : 1 ≤ n) (h7 : n ≤ 7) (h2 : at_1 + n ≤ (b.length : Int)) (hb : b.length < 1000000) :
  K81 b at_1 n = some ((bvalI 0 ((b.take (at_1 + n).toNat).drop at_1.toNat), (true, ())), (), ()) := by
 unfold K81 K81.gen
 have e : iadd .i64 at_1 n = at_1 + n := iadd_of (by omega)
 have hl : ((b.take (at_1 + n).toNat).drop at_1.toNat).length = n.toNat := by rw [List.length_drop, List.length_take]; omega
 rw [ilt_false (show ¬ n < 1 by omega), ilt_false (show ¬ 7 < n by omega), none_ok b at_1 n h0 (by omega) h2 hb]
 simp only [cond_false, oelim_some]
 rw [e, le3_ok h0 (by omega) h2, read_spec _ (by omega)]
 simp only [cond_true, oelim_some]
 have hr := bvalI_r ((b.take (at_1 + n).toNat).drop at_1.toNat) 0 (by omega)
 have hp : (256 : Int) ^ n.toNat ≤ 256 ^ 7 := by exact_mod_cast Nat.pow_le_pow_right (show 0 < 256 by decide) (show n.toNat ≤ 7 by omega)
 rw [hl] at hr
 rw [show IntKind.i64.wrap (bvalI 0 ((b.take (at_1 + n).toNat).drop at_1.toNat)) = bvalI 0 ((b.take (at_1 + n).toNat).drop at_1.toNat) by rw [iwrap]; omega]
def sgn (v : Int) (n : Int) : Int := ishr .i64 (IntKind.i64.wrap (ishl .u64 v (64 - 8 * n))) (64 - 8 * n)
theorem signed_spec (b : List UInt8) (at_1 n : Int) (h0 : 0 ≤ at_1) (h1 : 1 ≤ n) (h7 : n ≤ 8) (h2 : at_1 + n ≤ (b.length : Int)) (hb : b.length < 1000000) :
  K85 b at_1 n = some ((sgn (bvalI 0 ((b.take (at_1 + n).toNat).drop at_1.toNat)) n, (true, ())), (), ()) := by
 unfold K85 K85.gen
 have e : iadd .i64 at_1 n = at_1 + n := iadd_of (by omega)
 have e1 : imul .i64 8 n = 8 * n := imul_of (by omega)
 have e2 : isub .i64 64 (8 * n) = 64 - 8 * n := isub_of (by omega)
 have hl : ((b.take (at_1 + n).toNat).drop at_1.toNat).length = n.toNat := by rw [List.length_drop, List.length_take]; omega
 rw [ilt_false (show ¬ n < 1 by omega), ilt_false (show ¬ 8 < n by omega), none_ok b at_1 n h0 (by omega) h2 hb]
 simp only [cond_false, oelim_some]
 rw [e, le3_ok h0 (by omega) h2, read_spec _ (by omega)]
 simp only [cond_true, oelim_some, e1, e2]
 rw [ile_true (show (0 : Int) ≤ 64 - 8 * n by omega)]
 rfl
theorem sgn8 (v : Int) : sgn v 8 = IntKind.i64.wrap v := by
 unfold sgn
 show (IntKind.i64.wrap (IntKind.u64.wrap (v * 2 ^ 0))).fdiv (2 ^ 0) = _
 rw [Int.fdiv_eq_ediv_of_nonneg _ (by decide), iwrap, iwrap, wrap64]
 omega
theorem sgn1 (v : Int) (h0 : -128 ≤ v) (h1 : v ≤ 127) : sgn (v % 256) 1 = v := by
 unfold sgn
 show (IntKind.i64.wrap (IntKind.u64.wrap (v % 256 * 2 ^ 56))).fdiv (2 ^ 56) = _
 rw [Int.fdiv_eq_ediv_of_nonneg _ (by decide), iwrap, wrap64]
 omega
theorem sgn2 (v : Int) (h0 : -32768 ≤ v) (h1 : v ≤ 32767) : sgn (v % 65536) 2 = v := by
 unfold sgn
 show (IntKind.i64.wrap (IntKind.u64.wrap (v % 65536 * 2 ^ 48))).fdiv (2 ^ 48) = _
 rw [Int.fdiv_eq_ediv_of_nonneg _ (by decide), iwrap, wrap64]
 omega
theorem put1 (b : List UInt8) (v : Int) (h : b.length < 1000000) : K83 b v 1 = some ((b ++ be v 1, ()), ((), ((), ()))) := put_spec b v 1 (by omega) (by omega)
theorem put2 (b : List UInt8) (v : Int) (h : b.length < 1000000) : K83 b v 2 = some ((b ++ be v 2, ()), ((), ((), ()))) := put_spec b v 2 (by omega) (by omega)
theorem put4 (b : List UInt8) (v : Int) (h : b.length < 1000000) : K83 b v 4 = some ((b ++ be v 4, ()), ((), ((), ()))) := put_spec b v 4 (by omega) (by omega)
theorem put6 (b : List UInt8) (v : Int) (h : b.length < 1000000) : K83 b v 6 = some ((b ++ be v 6, ()), ((), ((), ()))) := put_spec b v 6 (by omega) (by omega)
theorem put8 (b : List UInt8) (v : Int) (h : b.length < 1000000) : K83 b v 8 = some ((b ++ be v 8, ()), ((), ((), ()))) := put_spec b v 8 (by omega) (by omega)
theorem getN {L : List UInt8} {at_1 n v : Int} (k : Nat) (h0 : 0 ≤ at_1) (h1 : 1 ≤ n) (h7 : n ≤ 7) (hk : n = (k : Int)) (h2 : at_1 + n ≤ (L.length : Int)) (hb : L.length < 1000000)
  (h : (L.take (at_1 + n).toNat).drop at_1.toNat = be v k) : K81 L at_1 n = some ((v % 256 ^ k, (true, ())), (), ()) := by
 rw [get_spec L at_1 n h0 h1 h7 h2 hb, h, bvalI_be k v 0 (by omega)]
 simp
theorem sgnN {L : List UInt8} {at_1 n v : Int} (k : Nat) (h0 : 0 ≤ at_1) (h1 : 1 ≤ n) (h7 : n ≤ 8) (hk : n = (k : Int)) (h2 : at_1 + n ≤ (L.length : Int)) (hb : L.length < 1000000)
  (h : (L.take (at_1 + n).toNat).drop at_1.toNat = be v k) : K85 L at_1 n = some ((sgn (v % 256 ^ k) n, (true, ())), (), ()) := by
 rw [signed_spec L at_1 n h0 h1 h7 h2 hb, h, bvalI_be k v 0 (by omega)]
 simp
theorem idN {L : List UInt8} {at_1 v : Int} (h0 : 0 ≤ at_1) (h2 : at_1 + 8 ≤ (L.length : Int)) (hb : L.length < 1000000) (hv : 0 ≤ v) (hv2 : v < 18446744073709551616)
  (h : (L.take (at_1 + 8).toNat).drop at_1.toNat = be (IntKind.i64.wrap v) 8) : K82 L at_1 = some ((v, (true, ())), (), ()) := by
 unfold K82 K82.gen
 rw [sgnN 8 h0 (by omega) (by omega) (by omega) h2 hb h, oelim_some, sgn8, wrap64]
 have : IntKind.i64.wrap (IntKind.i64.wrap v % 256 ^ 8) % 18446744073709551616 = v := by rw [iwrap, iwrap]; omega
 rw [this]
theorem identN {L : List UInt8} {at_1 : Int} {p : api_PortID} (h0 : 0 ≤ at_1) (h2 : at_1 + 10 ≤ (L.length : Int)) (hb : L.length < 1000000) (hv : 0 ≤ p.fClock) (hv2 : p.fClock < 18446744073709551616) (hp : 0 ≤ p.fPort) (hp2 : p.fPort ≤ 65535)
  (h : (L.take (at_1 + 8).toNat).drop at_1.toNat = be (IntKind.i64.wrap p.fClock) 8) (h' : (L.take (at_1 + 8 + 2).toNat).drop (at_1 + 8).toNat = be p.fPort 2) : K70 L at_1 = some ((p, (true, ())), (), ()) := by
 unfold K70 K70.gen
 have e : isub .i64 (ofN L.length) at_1 = (L.length : Int) - at_1 := isub_of (a := (L.length : Int)) (by omega)
 have e2 : iadd .i64 at_1 8 = at_1 + 8 := iadd_of (by omega)
 rw [ilt_false (show ¬ at_1 < 0 by omega), ilt_false (show ¬ ((L.length : Nat) : Int) < at_1 by omega), e, ilt_false (show ¬ (L.length : Int) - at_1 < 10 by omega)]
 simp only [cond_false, oelim_some]
 rw [idN h0 (by omega) hb hv hv2 h, e2, getN 2 (by omega) (by omega) (by omega) (by omega) (by omega) hb h']
 simp only [oelim_some]
 rw [show p.fPort % 256 ^ 2 = p.fPort by omega]
theorem may_stamp {t : Int} (h0 : 0 ≤ t) (h1 : t ≤ 4000000000000000) : K107 t = some ((true, ()), (), ()) := by
 unfold K107 K107.gen
 rw [ile_true h0, ile_true h1]; rfl
theorem stampN {L : List UInt8} {at_1 t : Int} (h0 : 0 ≤ at_1) (h2 : at_1 + 10 ≤ (L.length : Int)) (hb : L.length < 1000000) (ht : 0 ≤ t) (ht2 : t ≤ 4000000000000000)
  (h : (L.take (at_1 + 6).toNat).drop at_1.toNat = be (t / 1000000000) 6) (h' : (L.take (at_1 + 6 + 4).toNat).drop (at_1 + 6).toNat = be (t % 1000000000) 4) : K106 L at_1 = some ((t, (true, ())), (), ()) := by
 unfold K106 K106.gen
 have e : isub .i64 (ofN L.length) at_1 = (L.length : Int) - at_1 := isub_of (a := (L.length : Int)) (by omega)
 have e2 : iadd .i64 at_1 6 = at_1 + 6 := iadd_of (by omega)
 rw [ilt_false (show ¬ at_1 < 0 by omega), ilt_false (show ¬ ((L.length : Nat) : Int) < at_1 by omega), e, ilt_false (show ¬ (L.length : Int) - at_1 < 10 by omega)]
 simp only [cond_false, oelim_some]
 rw [getN 6 h0 (by omega) (by omega) (by omega) (by omega) hb h, e2, getN 4 (by omega) (by omega) (by omega) (by omega) (by omega) hb h']
 simp only [oelim_some]
 have a1 : t / 1000000000 % 256 ^ 6 = t / 1000000000 := by omega
 have a2 : t % 1000000000 % 256 ^ 4 = t % 1000000000 := by omega
 have a3 : imul .i64 (t / 1000000000) 1000000000 = t / 1000000000 * 1000000000 := imul_of (by omega)
 have a4 : iadd .i64 (t / 1000000000 * 1000000000) (t % 1000000000) = t := by rw [iadd_of (by omega)]; omega
 rw [a1, a2, a3, a4, ile_false (show ¬ 1000000000 ≤ t % 1000000000 by omega), ilt_false (show ¬ 4000000 < t / 1000000000 by omega), may_stamp ht ht2]
 rfl
theorem putS (b : List UInt8) {t : Int} (h0 : 0 ≤ t) (h1 : t ≤ 4000000000000000) (h : b.length < 900000) : K108 b t = some ((b ++ be (t / 1000000000) 6 ++ be (t % 1000000000) 4, ()), (), ()) := by
 unfold K108 K108.gen
 rw [may_stamp h0 h1]
 simp only [oelim_some, Bool.not_true, cond_false]
 have e1 : iquo .i64 t 1000000000 = t / 1000000000 := by
  unfold iquo
  rw [Int.tdiv_eq_ediv_of_nonneg h0, iwrap]; omega
 have e2 : irem t 1000000000 = t % 1000000000 := by
  unfold irem
  rw [Int.tmod_eq_emod_of_nonneg h0]
 rw [e1, put6 b _ (by omega)]
 simp only [oelim_some]
 rw [e2, put4 _ _ (by rw [List.length_append, be_length]; omega)]
 rfl
theorem putI (b : List UInt8) (p : api_PortID) (h : b.length < 900000) : K72 b p = some ((b ++ be (IntKind.i64.wrap p.fClock) 8 ++ be p.fPort 2, ()), (), ()) := by
 unfold K72 K72.gen K84 K84.gen
 rw [put8 b _ (by omega)]
 simp only [oelim_some]
 rw [put2 _ _ (by rw [List.length_append, be_length]; omega)]
 rfl
abbrev bs (l : List UInt8) : ByteArray := ByteArray.mk l.toArray
theorem bs_data (l : List UInt8) : (bs l).data.toList = l := by show l.toArray.toList = l; simp
theorem bs_eta (s : ByteArray) : bs s.data.toList = s := by cases s; simp [bs]
theorem bs_ext {s t : ByteArray} (h : s.data.toList = t.data.toList) : s = t := by rw [← bs_eta s, ← bs_eta t, h]
theorem bs_size (l : List UInt8) : (bs l).size = l.length := by show l.toArray.size = _; simp
theorem bs_append (a b : List UInt8) : bs a ++ bs b = bs (a ++ b) := by
 apply bs_ext
 rw [ByteArray.data_append, Array.toList_append, bs_data, bs_data, bs_data]
abbrev api_PortID.z : api_PortID := api_PortID.mk 0 0
def msgH (ty ctl len dom fl co cl po sq lg : Int) : List UInt8 :=
 byteI ty :: UInt8.ofNat (Int.toNat 18) :: [] ++ be len 2 ++ be dom 1 ++ be 0 1 ++ be fl 2 ++ be co 8 ++ be 0 4 ++ be (IntKind.i64.wrap cl) 8 ++ be po 2 ++ be sq 2 ++ be ctl 1 ++ be lg 1
def msgS (st : Int) : List UInt8 := [] ++ be (st / 1000000000) 6 ++ be (st % 1000000000) 4
structure HdOk (dom fl co : Int) (src : api_PortID) (sq lg : Int) : Prop where
 d0 : 0 ≤ dom
 d1 : dom ≤ 255
 f0 : 0 ≤ fl
 f1 : fl ≤ 65535
 c0 : -9223372036854775808 ≤ co
 c1 : co < 9223372036854775808
 k0 : 0 ≤ src.fClock
 k1 : src.fClock < 18446744073709551616
 p0 : 0 ≤ src.fPort
 p1 : src.fPort ≤ 65535
 s0 : 0 ≤ sq
 s1 : sq ≤ 65535
 l0 : -128 ≤ lg
 l1 : lg ≤ 127
theorem hin_ok {v a b : Int} (h0 : a ≤ v) (h1 : v ≤ b) : K68 v a b = some ((true, ()), (), ()) := by
 unfold K68 K68.gen
 rw [ile_true h0, ile_true h1]; rfl
theorem bin_ok {v a b : Int} (h0 : a ≤ v) (h1 : v ≤ b) : K4 v a b = some ((true, ()), (), ()) := by
 unfold K4 K4.gen
 rw [ile_true h0, ile_true h1]; rfl
theorem imay_ok {p : api_PortID} (h0 : 0 ≤ p.fPort) (h1 : p.fPort ≤ 65535) : K71 p = some ((true, ()), (), ()) := by
 unfold K71 K71.gen
 rw [ile_true h0, ile_true h1]; rfl
theorem hcheck_ok {m : api_Msg} (hk : K65 m.fType = some ((true, ()), (), ())) (h : HdOk m.fDomain m.fFlags m.fCorr m.fSource m.fSeq m.fLog) : K63 m = some ((true, ()), (), ()) := by
 unfold K63 K63.gen
 rw [hk, hin_ok h.d0 h.d1, hin_ok h.f0 h.f1, imay_ok h.p0 h.p1, hin_ok h.s0 h.s1, hin_ok h.l0 h.l1]
 rfl
theorem header_put {m : api_Msg} {len ctl : Int} (hk : K65 m.fType = some ((true, ()), (), ())) (hc : K67 m.fType = some ((ctl, ()), (), ())) (h : HdOk m.fDomain m.fFlags m.fCorr m.fSource m.fSeq m.fLog) (h0 : 34 ≤ len) (h1 : len ≤ 400) :
  K66 m len = some ((msgH m.fType ctl len m.fDomain m.fFlags m.fCorr m.fSource.fClock m.fSource.fPort m.fSeq m.fLog, (true, ())), (), ()) := by
 unfold K66 K66.gen
 rw [hcheck_ok hk h, hin_ok h0 h1]
 simp only [oelim_some, Bool.not_true, cond_false]
 rw [put2 _ _ (by simp)]
 simp only [oelim_some]
 rw [put1 _ _ (by simp [be_length])]
 simp only [oelim_some]
 rw [put1 _ _ (by simp [be_length])]
 simp only [oelim_some]
 rw [put2 _ _ (by simp [be_length])]
 simp only [oelim_some]
 rw [put8 _ _ (by simp [be_length])]
 simp only [oelim_some]
 rw [put4 _ _ (by simp [be_length])]
 simp only [oelim_some]
 rw [putI _ _ (by simp [be_length])]
 simp only [oelim_some]
 rw [put2 _ _ (by simp [be_length]), hc]
 simp only [oelim_some]
 rw [put1 _ _ (by simp [be_length])]
 simp only [oelim_some]
 rw [put1 _ _ (by simp [be_length])]
 rfl
theorem tlv_put_nil (b : List UInt8) : K120 b [] = some ((b, (true, ())), (), ()) := by
 have e3 : (bif le3 (ofN (0 : Nat)) (ofN b.length) b.length then ieq (ofN b.length) (ofN b.length) else false) = true := by
  simp [le3, ile, ieq]
 have e4 : List.drop (ofN (0 : Nat)).toNat (List.take (ofN b.length).toNat b) = b := by simp
 unfold K120 K120.gen
 simp only [e3, e4, cond_true]
 have h : K120.F0 ((b, b, [], ofN ([] : List api_Tlv).length, 0, ()), ()) = some (.inl ((b, ()), ())) := by
  unfold K120.F0
  refine loop_to (fun _ => ((b, b, [], ofN ([] : List api_Tlv).length, 0, ()), ())) 0 _ (by show 0 < 1000000 + _; omega) (fun i hi => absurd hi (Nat.not_lt_zero _)) ?_
  unfold K120.step0
  rw [ilt_false (show ¬ (0 : Int) < ofN ([] : List api_Tlv).length by decide)]
  rfl
 have h8 : ilt 8 (ofN ([] : List api_Tlv).length) = false := by decide
 rw [h8]
 simp only [cond_false]
 rw [h]
 rfl
theorem tlv_get_nil (L : List UInt8) (n : Nat) (h : L.length = n) : K116 L (n : Int) = some (([], (0, ())), (), ()) := by
 unfold K116 K116.gen
 rw [ilt_false (show ¬ (n : Int) < 0 by omega), ilt_false (show ¬ ((L.length : Nat) : Int) < (n : Int) by omega)]
 simp only [cond_false, oelim_some]
 have hl : K116.F1 ((L, (n : Int), lnil api_Tlv, 0, ()), ()) = some ((lnil api_Tlv, 0, ()), ()) := by
  unfold K116.F1
  refine loop_to (step := K116.step1 _) (fun _ => ((L, (n : Int), lnil api_Tlv, 0, ()), ())) 0 _ (by show 0 < 1000000 + _; omega) (fun i hi => absurd hi (Nat.not_lt_zero _)) ?_
  unfold K116.step1
  rw [ilt_false (show ¬ (n : Int) < ((L.length : Nat) : Int) by omega)]
  rfl
 rw [hl]
 rfl
abbrev msg0 (ty dom fl co : Int) (src : api_PortID) (sq lg st : Int) (tgt : api_PortID) : api_Msg := api_Msg.mk ty dom fl co src sq lg st tgt 0 0 (api_Quality.mk 0 0 0) 0 0 0 0 0 0 0
structure AnnOk (ut p1 : Int) (q : api_Quality) (p2 gr sp og : Int) : Prop where
 u0 : -32768 ≤ ut
 u1 : ut ≤ 32767
 a0 : 0 ≤ p1
 a1 : p1 ≤ 255
 q0 : 0 ≤ q.fClass
 q1 : q.fClass ≤ 255
 q2 : 0 ≤ q.fAccuracy
 q3 : q.fAccuracy ≤ 255
 q4 : 0 ≤ q.fVariance
 q5 : q.fVariance ≤ 65535
 b0 : 0 ≤ p2
 b1 : p2 ≤ 255
 g0 : 0 ≤ gr
 g1 : gr < 18446744073709551616
 s0 : 0 ≤ sp
 s1 : sp ≤ 65535
 o0 : 0 ≤ og
 o1 : og ≤ 255
def msgT (ut p1 : Int) (q : api_Quality) (p2 gr sp og : Int) : List UInt8 := be ut 2 ++ be 0 1 ++ be p1 1 ++ be q.fClass 1 ++ be q.fAccuracy 1 ++ be q.fVariance 2 ++ be p2 1 ++ be (IntKind.i64.wrap gr) 8 ++ be sp 2 ++ be og 1
abbrev msgAn (dom fl co : Int) (src : api_PortID) (sq lg st ut p1 : Int) (q : api_Quality) (p2 gr sp og : Int) : api_Msg := api_Msg.mk 11 dom fl co src sq lg st api_PortID.z ut p1 q p2 gr sp og 0 0 0
theorem qmay_ok {q : api_Quality} (h0 : 0 ≤ q.fClass) (h1 : q.fClass ≤ 255) (h2 : 0 ≤ q.fAccuracy) (h3 : q.fAccuracy ≤ 255) (h4 : 0 ≤ q.fVariance) (h5 : q.fVariance ≤ 65535) : K98 q = some ((true, ()), (), ()) := by
 unfold K98 K98.gen
 simp only [ile_true h0, ile_true h1, ile_true h2, ile_true h3, ile_true h4, ile_true h5, cond_true, oelim_some]
theorem putQ (b : List UInt8) (q : api_Quality) (h : b.length < 900000) : K99 b q = some ((b ++ be q.fClass 1 ++ be q.fAccuracy 1 ++ be q.fVariance 2, ()), (), ()) := by
 unfold K99 K99.gen
 rw [put1 b _ (by omega)]
 simp only [oelim_some]
 rw [put1 _ _ (by rw [List.length_append, be_length]; omega)]
 simp only [oelim_some]
 rw [put2 _ _ (by simp only [List.length_append, be_length]; omega)]
 rfl
theorem qualN {L : List UInt8} {at_1 : Int} {q : api_Quality} (h0 : 0 ≤ at_1) (h2 : at_1 + 4 ≤ (L.length : Int)) (hb : L.length < 1000000) (a0 : 0 ≤ q.fClass) (a1 : q.fClass ≤ 255) (a2 : 0 ≤ q.fAccuracy) (a3 : q.fAccuracy ≤ 255) (a4 : 0 ≤ q.fVariance) (a5 : q.fVariance ≤ 65535)
  (e1 : (L.take (at_1 + 1).toNat).drop at_1.toNat = be q.fClass 1) (e2 : (L.take (at_1 + 1 + 1).toNat).drop (at_1 + 1).toNat = be q.fAccuracy 1) (e3 : (L.take (at_1 + 2 + 2).toNat).drop (at_1 + 2).toNat = be q.fVariance 2) : K97 L at_1 = some ((q, (true, ())), (), ()) := by
 unfold K97 K97.gen
 have e : isub .i64 (ofN L.length) at_1 = (L.length : Int) - at_1 := isub_of (a := (L.length : Int)) (by omega)
 have f1 : iadd .i64 at_1 1 = at_1 + 1 := iadd_of (by omega)
 have f2 : iadd .i64 at_1 2 = at_1 + 2 := iadd_of (by omega)
 rw [ilt_false (show ¬ at_1 < 0 by omega), ilt_false (show ¬ ((L.length : Nat) : Int) < at_1 by omega), e, ilt_false (show ¬ (L.length : Int) - at_1 < 4 by omega)]
 simp only [cond_false, oelim_some]
 rw [getN 1 h0 (by omega) (by omega) (by omega) (by omega) hb e1, f1, getN 1 (by omega) (by omega) (by omega) (by omega) (by omega) hb e2, f2, getN 2 (by omega) (by omega) (by omega) (by omega) (by omega) hb e3]
 simp only [oelim_some]
 rw [show q.fClass % 256 ^ 1 = q.fClass by omega, show q.fAccuracy % 256 ^ 1 = q.fAccuracy by omega, show q.fVariance % 256 ^ 2 = q.fVariance by omega]
def msgN (dom fl co : Int) (src : api_PortID) (sq lg st ut p1 : Int) (q : api_Quality) (p2 gr sp og : Int) : List UInt8 := msgH 11 5 64 dom fl co src.fClock src.fPort sq lg ++ (msgS st ++ msgT ut p1 q p2 gr sp og)
theorem body_get_N {L : List UInt8} {dom fl co sq lg st ut p1 p2 gr sp og : Int} {src : api_PortID} {q : api_Quality} (hlen : L.length = 64) (g34 : K106 L 34 = some ((st, (true, ())), (), ())) (g44 : K85 L 44 2 = some ((ut, (true, ())), (), ()))
  (g47 : K81 L 47 1 = some ((p1, (true, ())), (), ())) (g48 : K97 L 48 = some ((q, (true, ())), (), ())) (g52 : K81 L 52 1 = some ((p2, (true, ())), (), ())) (g53 : K82 L 53 = some ((gr, (true, ())), (), ()))
  (g61 : K81 L 61 2 = some ((sp, (true, ())), (), ())) (g63 : K81 L 63 1 = some ((og, (true, ())), (), ())) :
  K1 (msg0 11 dom fl co src sq lg 0 api_PortID.z) L 34 = some ((msgAn dom fl co src sq lg st ut p1 q p2 gr sp og, (64, (0, ()))), (), ()) := by
  unfold K1 K1.gen
  rw [g34, hlen]
  simp only [oelim_some, cond_false, cond_true, Bool.not_true, show K2 11 = some ((30, ()), (), ()) by kernel_rfl, show K6 11 = some ((true, ()), (), ()) by kernel_rfl, show K7 11 = some ((false, ()), (), ()) by kernel_rfl, show iadd IntKind.i64 34 10 = 44 from rfl, g44, show ieq 11 11 = true from rfl, show ieq 30 0 = false from rfl, show iadd IntKind.i64 44 3 = 47 from rfl, show iadd IntKind.i64 44 4 = 48 from rfl, show iadd IntKind.i64 44 8 = 52 from rfl, show iadd IntKind.i64 44 9 = 53 from rfl, show iadd IntKind.i64 44 17 = 61 from rfl, show iadd IntKind.i64 44 19 = 63 from rfl, g47, g48, g52, g53, g61, g63]
  kernel_rfl
theorem put_N {dom fl co sq lg st ut p1 p2 gr sp og : Int} {src : api_PortID} {q : api_Quality} (ha : AnnOk ut p1 q p2 gr sp og) (h : HdOk dom fl co src sq lg) (ht : 0 ≤ st) (ht2 : st ≤ 4000000000000000) :
  K62 (msgAn dom fl co src sq lg st ut p1 q p2 gr sp og) [] = some ((bs (msgN dom fl co src sq lg st ut p1 q p2 gr sp og), (true, ())), (), ()) := by
 have hk : K65 11 = some ((true, ()), (), ()) := by kernel_rfl
 have hc : K67 11 = some ((5, ()), (), ()) := by kernel_rfl
 have hst : K6 11 = some ((true, ()), (), ()) := by kernel_rfl
 have htg : K7 11 = some ((false, ()), (), ()) := by kernel_rfl
 have n2 : ieq 11 2 = false := by rfl
 have n11 : ieq 11 11 = true := by rfl
 have n13 : ieq 11 13 = false := by rfl
 have hown : K5 (msgAn dom fl co src sq lg st ut p1 q p2 gr sp og) = some ((msgAn dom fl co src sq lg st ut p1 q p2 gr sp og, ()), (), ()) := by
  kernel_rfl
 have hq : K98 q = some ((true, ()), (), ()) := qmay_ok ha.q0 ha.q1 ha.q2 ha.q3 ha.q4 ha.q5
 have hchk : K0 (msgAn dom fl co src sq lg st ut p1 q p2 gr sp og) = some ((true, ()), (), ()) := by
  unfold K0 K0.gen
  rw [hcheck_ok hk h, hown, may_stamp ht ht2, imay_ok (p := api_PortID.z) (by decide) (by decide), hq]
  simp only [oelim_some, ieq_self, cond_true, bin_ok ha.u0 ha.u1, bin_ok ha.a0 ha.a1, bin_ok ha.b0 ha.b1, bin_ok ha.o0 ha.o1, bin_ok ha.s0 ha.s1, bin_ok (show (0 : Int) ≤ 0 by decide) (show (0 : Int) ≤ 255 by decide), bin_ok (show (0 : Int) ≤ 0 by decide) (show (0 : Int) ≤ 65535 by decide), bin_ok (show (0 : Int) ≤ 0 by decide) (show (0 : Int) ≤ 15 by decide)]
 have hb : K3 (lnil UInt8) (msgAn dom fl co src sq lg st ut p1 q p2 gr sp og) = some ((msgS st ++ msgT ut p1 q p2 gr sp og, (true, ())), (), ()) := by
  unfold K3 K3.gen
  rw [hchk, hst]
  simp only [oelim_some, Bool.not_true, cond_false, cond_true, htg, n2, n11, n13]
  rw [putS _ ht ht2 (by simp)]
  simp only [oelim_some, cond_false, cond_true, htg, n2, n11]
  rw [put2 _ _ (by simp [be_length])]
  simp only [oelim_some]
  rw [put1 _ _ (by simp [be_length])]
  simp only [oelim_some]
  rw [put1 _ _ (by simp [be_length])]
  simp only [oelim_some]
  rw [putQ _ _ (by simp [be_length])]
  simp only [oelim_some]
  rw [put1 _ _ (by simp [be_length])]
  unfold K84 K84.gen
  simp only [oelim_some]
  rw [put8 _ _ (by simp [be_length])]
  simp only [oelim_some]
  rw [put2 _ _ (by simp [be_length])]
  simp only [oelim_some]
  rw [put1 _ _ (by simp [be_length])]
  kernel_rfl
 unfold K62 K62.gen
 rw [hb]
 simp only [oelim_some, Bool.not_true, cond_false]
 rw [tlv_put_nil]
 simp only [oelim_some, Bool.not_true, cond_false]
 rw [show iadd .i64 34 (ofN (msgS st ++ msgT ut p1 q p2 gr sp og).length) = 64 by kernel_rfl, header_put (len := 64) hk hc h (by decide) (by decide)]
 simp only [oelim_some, Bool.not_true, cond_false]
 rw [show Nat.ble ((bs (msgH 11 5 64 dom fl co src.fClock src.fPort sq lg)).size + (bs (msgS st ++ msgT ut p1 q p2 gr sp og)).size) 9223372036854775807 = true by rw [bs_size, bs_size]; kernel_rfl]
 simp only [cond_true]
 show some ((bs _ ++ bs _, _), _) = _
 rw [bs_append]
 rfl
theorem get_N {dom fl co sq lg st ut p1 p2 gr sp og : Int} {src : api_PortID} {q : api_Quality} (ha : AnnOk ut p1 q p2 gr sp og) (h : HdOk dom fl co src sq lg) (ht : 0 ≤ st) (ht2 : st ≤ 4000000000000000) :
  K60 (bs (msgN dom fl co src sq lg st ut p1 q p2 gr sp og)) = some ((msgAn dom fl co src sq lg st ut p1 q p2 gr sp og, ([], (0, ()))), (), ()) := by
 have hlen : (msgN dom fl co src sq lg st ut p1 q p2 gr sp og).length = 64 := by kernel_rfl
 have g2 : K81 (msgN dom fl co src sq lg st ut p1 q p2 gr sp og) 2 2 = some ((64, (true, ())), (), ()) := getN (v := 64) 2 (by decide) (by decide) (by decide) (by decide) (by omega) (by omega) (by kernel_rfl)
 have g6 : K81 (msgN dom fl co src sq lg st ut p1 q p2 gr sp og) 6 2 = some ((fl, (true, ())), (), ()) := by
  rw [getN (v := fl) 2 (by decide) (by decide) (by decide) (by decide) (by omega) (by omega) (by kernel_rfl)]
  rw [show fl % 256 ^ 2 = fl by have := h.f0; have := h.f1; omega]
 have g8 : K85 (msgN dom fl co src sq lg st ut p1 q p2 gr sp og) 8 8 = some ((co, (true, ())), (), ()) := by
  rw [sgnN (v := co) 8 (by decide) (by decide) (by decide) (by decide) (by omega) (by omega) (by kernel_rfl), sgn8]
  rw [show IntKind.i64.wrap (co % 256 ^ 8) = co by have := h.c0; have := h.c1; rw [iwrap]; omega]
 have g20 : K70 (msgN dom fl co src sq lg st ut p1 q p2 gr sp og) 20 = some ((src, (true, ())), (), ()) := identN (by decide) (by omega) (by omega) h.k0 h.k1 h.p0 h.p1 (by kernel_rfl) (by kernel_rfl)
 have g30 : K81 (msgN dom fl co src sq lg st ut p1 q p2 gr sp og) 30 2 = some ((sq, (true, ())), (), ()) := by
  rw [getN (v := sq) 2 (by decide) (by decide) (by decide) (by decide) (by omega) (by omega) (by kernel_rfl)]
  rw [show sq % 256 ^ 2 = sq by have := h.s0; have := h.s1; omega]
 have g33 : K85 (msgN dom fl co src sq lg st ut p1 q p2 gr sp og) 33 1 = some ((lg, (true, ())), (), ()) := by
  rw [sgnN (v := lg) 1 (by decide) (by decide) (by decide) (by decide) (by omega) (by omega) (by kernel_rfl)]
  rw [show sgn (lg % 256 ^ 1) 1 = lg from sgn1 lg h.l0 h.l1]
 have g34 : K106 (msgN dom fl co src sq lg st ut p1 q p2 gr sp og) 34 = some ((st, (true, ())), (), ()) := stampN (by decide) (by omega) (by omega) ht ht2 (by kernel_rfl) (by kernel_rfl)
 have hty0 : IntKind.i64.wrap (ofN (UInt8.toNat (List.getD (msgN dom fl co src sq lg st ut p1 q p2 gr sp og) (Int.toNat 0) (0 : D UC.u8)))) = 11 := by
  kernel_rfl
 have hd4 : IntKind.i64.wrap (ofN (UInt8.toNat (List.getD (msgN dom fl co src sq lg st ut p1 q p2 gr sp og) (Int.toNat 4) (0 : D UC.u8)))) = dom := by
  have : List.getD (msgN dom fl co src sq lg st ut p1 q p2 gr sp og) (Int.toNat 4) (0 : D UC.u8) = byteI (ishr .i64 dom (8 * ((0 : Nat) : Int))) := by kernel_rfl
  rw [this, show ofN (byteI (ishr .i64 dom (8 * ((0 : Nat) : Int)))).toNat = ((byteI (ishr .i64 dom (8 * ((0 : Nat) : Int)))).toNat : Int) from rfl, byteI_toNat, shr8 dom 0 (by decide)]
  have := h.d0; have := h.d1
  rw [iwrap]; omega
 have g44 : K85 (msgN dom fl co src sq lg st ut p1 q p2 gr sp og) 44 2 = some ((ut, (true, ())), (), ()) := by
  rw [sgnN (v := ut) 2 (by decide) (by decide) (by decide) (by decide) (by omega) (by omega) (by kernel_rfl)]
  rw [show sgn (ut % 256 ^ 2) 2 = ut from sgn2 ut ha.u0 ha.u1]
 have g47 : K81 (msgN dom fl co src sq lg st ut p1 q p2 gr sp og) 47 1 = some ((p1, (true, ())), (), ()) := by
  rw [getN (v := p1) 1 (by decide) (by decide) (by decide) (by decide) (by omega) (by omega) (by kernel_rfl)]
  rw [show p1 % 256 ^ 1 = p1 by have := ha.a0; have := ha.a1; omega]
 have g48 : K97 (msgN dom fl co src sq lg st ut p1 q p2 gr sp og) 48 = some ((q, (true, ())), (), ()) := qualN (by decide) (by omega) (by omega) ha.q0 ha.q1 ha.q2 ha.q3 ha.q4 ha.q5 (by kernel_rfl) (by kernel_rfl) (by kernel_rfl)
 have g52 : K81 (msgN dom fl co src sq lg st ut p1 q p2 gr sp og) 52 1 = some ((p2, (true, ())), (), ()) := by
  rw [getN (v := p2) 1 (by decide) (by decide) (by decide) (by decide) (by omega) (by omega) (by kernel_rfl)]
  rw [show p2 % 256 ^ 1 = p2 by have := ha.b0; have := ha.b1; omega]
 have g53 : K82 (msgN dom fl co src sq lg st ut p1 q p2 gr sp og) 53 = some ((gr, (true, ())), (), ()) := idN (by decide) (by omega) (by omega) ha.g0 ha.g1 (by kernel_rfl)
 have g61 : K81 (msgN dom fl co src sq lg st ut p1 q p2 gr sp og) 61 2 = some ((sp, (true, ())), (), ()) := by
  rw [getN (v := sp) 2 (by decide) (by decide) (by decide) (by decide) (by omega) (by omega) (by kernel_rfl)]
  rw [show sp % 256 ^ 2 = sp by have := ha.s0; have := ha.s1; omega]
 have g63 : K81 (msgN dom fl co src sq lg st ut p1 q p2 gr sp og) 63 1 = some ((og, (true, ())), (), ()) := by
  rw [getN (v := og) 1 (by decide) (by decide) (by decide) (by decide) (by omega) (by omega) (by kernel_rfl)]
  rw [show og % 256 ^ 1 = og by have := ha.o0; have := ha.o1; omega]
 have hk : K65 11 = some ((true, ()), (), ()) := by kernel_rfl
 have hh : K64 (msgN dom fl co src sq lg st ut p1 q p2 gr sp og) = some ((msg0 11 dom fl co src sq lg 0 api_PortID.z, (64, (0, ()))), (), ()) := by
  unfold K64 K64.gen
  rw [g2, g6, g8, g20, g30, g33, hty0, hd4, hk, hlen]
  kernel_rfl
 have hb := body_get_N hlen g34 g44 g47 g48 g52 g53 g61 g63 (dom := dom) (fl := fl) (co := co) (src := src) (sq := sq) (lg := lg)
 unfold K60 K60.gen
 rw [bs_data, hh]
 simp only [oelim_some, ine_self, cond_false]
 rw [hb]
 simp only [oelim_some, ine_self, cond_false]
 rw [show K116 (msgN dom fl co src sq lg st ut p1 q p2 gr sp og) 64 = _ from tlv_get_nil _ 64 hlen]
 rfl
theorem place_spec (v n : Int) (hn : 0 < n) (hn2 : n ≤ 4611686018427387904) : K73 v n = some ((v % n, ()), (), ()) := by
 have h1 : ine n 0 = true := ine_true (by omega)
 have h2 := Int.emod_nonneg v (Int.ne_of_gt hn)
 have h3 := Int.emod_lt_of_pos v hn
 obtain ⟨h4, h5⟩ := tmod_place v n hn
 unfold K73 K73.gen
 rw [h1]
 simp only [cond_true, oelim_some]
 by_cases hc : v.tmod n < 0
 ·have e : iadd .i64 (irem v n) n = v % n := by
   have := h4 hc
   rw [iadd_of] <;> simp only [irem] <;> omega
  rw [show ilt (irem v n) 0 = true from ilt_true hc, e]; simp only [cond_true, oelim_some]
 ·rw [show ilt (irem v n) 0 = false from ilt_false hc, show irem v n = v % n from h5 hc]; simp only [cond_false, oelim_some]
theorem i_2_1 : ieq 2 1 = false := rfl
theorem i_2_2 : ieq 2 2 = true := rfl
theorem now_ok {t : Int} (h0 : 0 ≤ t) (h1 : t ≤ 4000000000000000) : opMinMax true 0 (opMinMax false t 4000000000000000) = t := by
 simp only [opMinMax, cond_true, cond_false, imin, imax]
 split <;> split <;> omega
theorem step_frame {K : clock_Clock} {g5 : Fm servo_Servo} {g6 : Fm foreign_Table} {g7 : Fm delay_Exchange} {g8 : Fm peer_Exchange} {g9 : Fm median_Filter} {g10 : Fm seq_Match} {g12 : Fm (List (api_PortID × List Int))}
  {b : ByteArray} {p t a1 a2 : Int} {c : api_Conf} {K' : clock_Clock} (h0 : 0 ≤ t) (h1 : t ≤ 4000000000000000)
  (h : K19 p b t (K.set_fouts []) g6 g12 = some ((), (K', g6, g12, ()), ())) :
  K12 (api_Event.mk 2 p t a1 a2 b c) K g5 g6 g7 g8 g9 g10 g12 = some ((K'.fouts, ()), (K', g5, g6, g7, g8, g9, g10, g12, ()), ()) := by
 unfold K12 K12.gen
 simp only [i_2_1, i_2_2, cond_false, cond_true, now_ok h0 h1]
 rw [show lnil api_Out = [] from rfl, h]
 rfl
theorem fset_same {α : Type} (f : Nat → α) (i : Nat) (x : α) : fset f i x i = x := by simp [fset]
theorem awake_true : K76.A = some () := by kernel_rfl
abbrev Gs := (Fm foreign_Table) × (Fm delay_Exchange) × (Fm peer_Exchange) × (Fm median_Filter) × (Fm seq_Match) × (Fm (List (api_PortID × List Int))) × Unit
abbrev ev0 : api_Conf := api_Conf.mk 0 0 0 0 0 (api_Quality.mk 0 0 0) false 0 0 0 0 false false 0 0 0 0 (api_Times.mk 0 0 0) false
theorem frame_bad {K : clock_Clock} {g6 : Fm foreign_Table} {g12 : Fm (List (api_PortID × List Int))}
  {b : ByteArray} {q now e : Int} {M : api_Msg} {l : List api_Tlv} (hHere : K61 b K.fconf.fDomain = some ((M, (l, (e, ()))), (), ())) (he : ine e 0 = true) :
  K19 q b now K g6 g12 = some ((), (K.set_fdrops (iadd .i64 K.fdrops 1), g6, g12, ()), ()) := by
 unfold K19 K19.gen
 rw [hHere]
 simp only [oelim_some]
 unfold K21 K21.gen
 cases ilt q 1 with
 | true => rfl
 | false =>
  simp only [cond_false, oelim_some]
  cases ilt K.fconf.fPorts q with
  | true => rfl
  | false => simp only [cond_false, he, oelim_some, cond_true]
theorem here_N {dom fl co sq lg st ut p1 p2 gr sp og d : Int} {src : api_PortID} {q : api_Quality} (ha : AnnOk ut p1 q p2 gr sp og) (h : HdOk dom fl co src sq lg) (ht : 0 ≤ st) (ht2 : st ≤ 4000000000000000) (hd : dom ≠ d) :
  ∃ M l, K61 (bs (msgN dom fl co src sq lg st ut p1 q p2 gr sp og)) d = some ((M, (l, (6, ()))), (), ()) := by
 unfold K61 K61.gen
 rw [get_N ha h ht ht2]
 simp only [oelim_some, ieq_self, cond_true]
 rw [ine_true hd]
 exact ⟨_, _, rfl⟩
abbrev R5 := clock_Clock × (Fm servo_Servo) × Gs
noncomputable abbrev tkD (i : Nat) (s : R5) := K78 1 ((s.1.set_fouts []).set_fdrops ((i + 1 : Nat) : Int)) s.2.1 s.2.2.1 s.2.2.2.1 s.2.2.2.2.1 s.2.2.2.2.2.1 s.2.2.2.2.2.2.1 s.2.2.2.2.2.2.2.1
noncomputable def dNx (i : Nat) (s : R5) : R5 := match tkD i s with | some r => r.2.1 | none => s
noncomputable def dOk (i : Nat) (s : R5) : Bool := decide (s.1.fdrops = (i : Int)) && decide (s.1.fconf.fDomain = 0) && (tkD i s).isSome && decide (s.1.fparent.fGrand = 50) && (match K9 1 s.1 s.2.2.1 with | some r => r.1.1.isEmpty | none => false)
noncomputable def chainD : Nat → Nat → R5 → Bool
 | 0, _, _ => true
 | k + 1, i, s => dOk i s && chainD k (i + 1) (dNx i s)
noncomputable def itD (i : Nat) : Nat → R5 → R5
 | 0, s => s
 | j + 1, s => dNx (i + j) (itD i j s)
theorem itD_shift : ∀ (j i : Nat) (s : R5), itD (i + 1) j (dNx i s) = itD i (j + 1) s
 | 0, i, s => rfl
 | j + 1, i, s => by
  rw [itD, itD_shift j i s]
  show dNx (i + 1 + j) (itD i (j + 1) s) = dNx (i + (j + 1)) (itD i (j + 1) s)
  rw [show i + 1 + j = i + (j + 1) by omega]
theorem chainD_at : ∀ (k i : Nat) (s : R5), chainD k i s = true → ∀ j, j < k → dOk (i + j) (itD i j s) = true
 | 0, _, _, _, j, hj => absurd hj (Nat.not_lt_zero _)
 | k + 1, i, s, h, j, hj => by
  unfold chainD at h
  simp only [Bool.and_eq_true] at h
  cases j with
  | zero => exact h.1
  | succ j =>
   have := chainD_at k (i + 1) _ h.2 j (by omega)
   rw [itD_shift, show i + 1 + j = i + (j + 1) by omega] at this
   exact this
abbrev anM (d i : Int) : List UInt8 := msgN d 8 0 (api_PortID.mk 77 1) i (-3) 0 37 10 (api_Quality.mk 248 254 65535) 128 77 0 160
theorem an_ok : AnnOk 37 10 (api_Quality.mk 248 254 65535) 128 77 0 160 := by constructor <;> decide
theorem an_hd {d i : Int} (d0 : 0 ≤ d) (d1 : d ≤ 255) (i0 : 0 ≤ i) (i1 : i ≤ 65535) : HdOk d 8 0 (api_PortID.mk 77 1) i (-3) :=
 ⟨d0, d1, by decide, by decide, by decide, by decide, by decide, by decide, by decide, by decide, i0, i1, by decide, by decide⟩
theorem an_say {i : Int} (i0 : 0 ≤ i) (i1 : i ≤ 65535) : K75 77 10 i 0 = some ((api_Event.mk 2 1 1000 0 0 (bs (anM 0 i)) ev0, ()), (), ()) := by
 unfold K75 K75.gen
 rw [show K62 (api_Msg.mk 11 0 8 0 (api_PortID.mk 77 1) i (-3) 0 (api_PortID.mk 0 0) 37 10 (api_Quality.mk 248 254 65535) 128 77 0 160 0 0 0) (lnil api_Tlv) = _ from put_N an_ok (an_hd (by decide) (by decide) i0 i1) (by decide) (by decide)]
 rfl
theorem an_cells (x : UInt8) (d i : Int) (hx : x = byteI (ishr .i64 d (8 * ((0 : Nat) : Int)))) : (List.range 64).map (fun (j : Nat) => fset (fun (j : Nat) => List.getD (anM 0 i) j (0 : D UC.u8)) (0 + Int.toNat 4) x (0 + j)) = anM d i := by
 subst hx
 kernel_rfl
theorem an_spoilt {d i : Int} (d0 : 0 ≤ d) (d1 : d ≤ 255) :
  ByteArray.mk (List.toArray (List.map (fun (j : Nat) => fset (fun (j : Nat) => List.getD (bs (anM 0 i)).data.toList j (0 : D UC.u8)) ((0 : Nat) + Int.toNat 4) (UInt8.ofNat (Int.toNat (IntKind.u8.wrap d))) ((0 : Nat) + j)) (List.range (bs (anM 0 i)).size))) = bs (anM d i) := by
 rw [bs_data, bs_size, show (anM 0 i).length = 64 by kernel_rfl, an_cells _ d i]
 show byteI d = byteI _
 rw [shr8 d 0 (by decide)]
 simp
theorem dom_rounds {d : Int} {m : Nat} {Gn : Nat} {Gf : Nat → clock_Clock} {s0 : R5} (d0 : 0 < d) (d1 : d ≤ 255) (hm : m ≤ 13) (hC : ∀ i, i < 14 → dOk i (itD 0 i s0) = true) (hG0 : Gf 0 = s0.1) :
  ∃ G : Nat → clock_Clock, G 0 = (itD 0 m s0).1 ∧ K74.F0 ((d, some 0, (m : Int), 0, ()), (Gn, Gf), s0.2) = some ((d, some 0, (m : Int), ()), (Gn, G), (itD 0 m s0).2) := by
 obtain ⟨b, hb, G, h1, h2⟩ := loopFix_rule (step := K74.step0 K73 K77 K78 K75 K12 K8 K10 K76.A K9)
  (Inv := fun a => ∃ (i : Nat) (G : Nat → clock_Clock), i ≤ m ∧ G 0 = (itD 0 i s0).1 ∧ a = ((d, some 0, (m : Int), (i : Int), ()), (Gn, G), (itD 0 i s0).2))
  (Post := fun b => ∃ G : Nat → clock_Clock, G 0 = (itD 0 m s0).1 ∧ b = ((d, some 0, (m : Int), ()), (Gn, G), (itD 0 m s0).2))
  (m := fun a => (m - a.1.2.2.2.1).toNat) (by
   rintro a ⟨i, G, hi, hG, rfl⟩
   by_cases him : i < m
   ·have hok := hC i (by omega)
    have hnx : itD 0 (i + 1) s0 = dNx (0 + i) (itD 0 i s0) := rfl
    rw [Nat.zero_add] at hnx
    generalize itD 0 i s0 = s at hok hG hnx
    unfold dOk at hok
    simp only [Bool.and_eq_true, decide_eq_true_eq] at hok
    obtain ⟨⟨⟨⟨k1, k2⟩, k3⟩, k4⟩, k5⟩ := hok
    obtain ⟨r, hr⟩ := Option.isSome_iff_exists.1 k3
    have hdn : dNx i s = r.2.1 := by unfold dNx; rw [hr]
    obtain ⟨M, l, hH⟩ := here_N (d := 0) an_ok (an_hd (d := d) (i := (i : Int)) (by omega) d1 (by omega) (by omega)) (st := 0) (by decide) (by decide) (by omega)
    have hf := frame_bad (K := s.1.set_fouts []) (g6 := s.2.2.1) (g12 := s.2.2.2.2.2.2.2.1) (b := bs (anM d (i : Int))) (q := 1) (now := 1000) (e := 6) (M := M) (l := l) (by rw [show (s.1.set_fouts []).fconf.fDomain = 0 from k2]; exact hH) rfl
    have hs := step_frame (K := s.1) (g5 := s.2.1) (g6 := s.2.2.1) (g7 := s.2.2.2.1) (g8 := s.2.2.2.2.1) (g9 := s.2.2.2.2.2.1) (g10 := s.2.2.2.2.2.2.1) (g12 := s.2.2.2.2.2.2.2.1) (t := 1000) (a1 := 0) (a2 := 0) (c := ev0) (by decide) (by decide) hf
    have hd1 : iadd .i64 (s.1.set_fouts []).fdrops 1 = ((i + 1 : Nat) : Int) := by
     rw [show (s.1.set_fouts []).fdrops = (i : Int) from k1]
     exact iinc (by omega)
    rw [hd1] at hs
    refine .inl ⟨((d, some 0, (m : Int), ((i + 1 : Nat) : Int), ()), (Gn, fset (fset G 0 ((s.1.set_fouts []).set_fdrops ((i + 1 : Nat) : Int))) 0 r.2.1.1), r.2.1.2), ?_, ⟨i + 1, fset (fset G 0 ((s.1.set_fouts []).set_fdrops ((i + 1 : Nat) : Int))) 0 r.2.1.1, by omega, ?_, ?_⟩, ?_⟩
    ·unfold K74.step0
     simp only []
     rw [ilt_true (show (i : Int) < (m : Int) by omega), an_say (by omega) (by omega)]
     simp only [cond_true, oelim_some]
     rw [show inR 4 (bs (anM 0 (i : Int))).size = true by rw [bs_size]; kernel_rfl]
     simp only [cond_true]
     rw [an_spoilt (by omega) d1, hG]
     rw [show K12 (api_Event.set_fBytes (api_Event.mk 2 1 1000 0 0 (bs (anM 0 (i : Int))) ev0) (bs (anM d (i : Int)))) s.1 s.2.1 s.2.2.1 s.2.2.2.1 s.2.2.2.2.1 s.2.2.2.2.2.1 s.2.2.2.2.2.2.1 s.2.2.2.2.2.2.2.1 = _ from hs]
     simp only [oelim_some, fset_same]
     rw [show K78 1 ((s.1.set_fouts []).set_fdrops ((i + 1 : Nat) : Int)) s.2.1 s.2.2.1 s.2.2.2.1 s.2.2.2.2.1 s.2.2.2.2.2.1 s.2.2.2.2.2.2.1 s.2.2.2.2.2.2.2.1 = some r from hr]
     simp only [oelim_some]
     rw [iinc (show i < 4611686018427387904 by omega)]
    ·rw [hnx, hdn]; exact fset_same _ _ _
    ·rw [hnx, hdn]
    ·simp only []
     omega
   ·have : i = m := by omega
    subst this
    refine .inr ⟨_, ?_, G, hG, rfl⟩
    unfold K74.step0
    simp only []
    rw [ilt_false (show ¬ (i : Int) < (i : Int) by omega)]
    rfl) 1000000 ((d, some 0, (m : Int), 0, ()), (Gn, Gf), s0.2) ⟨0, Gf, by omega, hG0, rfl⟩ (by simp only []; omega)
 refine ⟨G, h1, ?_⟩
 subst h2
 exact hb
abbrev NT5 := (Fm clock_Clock) × (Fm servo_Servo) × Gs
abbrev TT5 := (List api_Out × Unit) × R5 × Unit
noncomputable abbrev frD := K77 50 1 e0_ e6_ e2_ e1_ e4_ e3_ e5_ (0, fun _ => [])
theorem frD_some : frD.isSome = true := by kernel_rfl
noncomputable def nD : NT5 := (frD.get frD_some).2.1
theorem frD_eq : frD = some ((some 0, ()), nD, ()) := by kernel_rfl
noncomputable abbrev tkD0 (N : NT5) := K78 1 (N.1.2 0) N.2.1 N.2.2.1 N.2.2.2.1 N.2.2.2.2.1 N.2.2.2.2.2.1 N.2.2.2.2.2.2.1 N.2.2.2.2.2.2.2.1
theorem tkD0_some : (tkD0 nD).isSome = true := by kernel_rfl
noncomputable def tD : TT5 := (tkD0 nD).get tkD0_some
theorem tkD0_eq : tkD0 nD = some tD := (Option.some_get _).symm
theorem chD : chainD 14 0 tD.2.1 = true := by kernel_rfl
noncomputable abbrev lawD (domain n : Int) := K74 domain n e0_ e6_ e2_ e1_ e4_ e3_ e5_ (0, fun _ => [])
theorem law_mod (domain n : Int) : lawD domain n = lawD (domain % 256) (n % 10) := by
 unfold lawD K74 K74.gen
 rw [place_spec domain 256 (by decide) (by decide), place_spec n 10 (by decide) (by decide), place_spec (domain % 256) 256 (by decide) (by decide), place_spec (n % 10) 10 (by decide) (by decide), Int.emod_emod, Int.emod_emod]
theorem of_map {Y : Type} {o : Option ((Bool × Unit) × Y × Unit)} (h : o.map (fun r => r.1.1) = some true) : ∃ y, o = some ((true, ()), y, ()) := by
 cases o with
 | none => cases h
 | some r =>
  obtain ⟨⟨b, u⟩, y, v⟩ := r
  cases h
  exact ⟨y, rfl⟩
theorem dom_end {d n : Int} (d0 : 0 < d) (d1 : d ≤ 255) (N : NT5) (T : TT5) (hN : frD = some ((some 0, ()), N, ())) (hT : tkD0 N = some T) (hC : chainD 14 0 T.2.1 = true) : ∃ y, lawD d n = some ((true, ()), y, ()) := by
 obtain ⟨m, hm⟩ : ∃ m : Nat, 4 + n % 10 = (m : Int) := ⟨(4 + n % 10).toNat, by omega⟩
 have hc : ∀ i, i < 14 → dOk i (itD 0 i T.2.1) = true := fun i hi => by
  have := chainD_at 14 0 _ hC i hi
  rwa [Nat.zero_add] at this
 obtain ⟨G, hG, hr⟩ := dom_rounds (d := d) (m := m) (Gn := N.1.1) (Gf := fset N.1.2 0 T.2.1.1) (s0 := T.2.1) d0 d1 (by omega) hc (fset_same _ _ _)
 have hok := hc m (by omega)
 generalize itD 0 m T.2.1 = s at hok hG hr
 unfold dOk at hok
 simp only [Bool.and_eq_true, decide_eq_true_eq] at hok
 obtain ⟨⟨⟨⟨k1, k2⟩, k3⟩, k4⟩, k5⟩ := hok
 unfold lawD K74 K74.gen
 rw [place_spec d 256 (by decide) (by decide), show d % 256 = d by omega, awake_true]
 simp only [oelim_some]
 rw [show K77 50 1 e0_ e6_ e2_ e1_ e4_ e3_ e5_ (0, fun _ => []) = _ from hN]
 simp only [oelim_some, Option.isSome_some, Bool.not_true, cond_false]
 rw [show K78 1 (N.1.2 0) N.2.1 N.2.2.1 N.2.2.2.1 N.2.2.2.2.1 N.2.2.2.2.2.1 N.2.2.2.2.2.2.1 N.2.2.2.2.2.2.2.1 = some T from hT, place_spec n 10 (by decide) (by decide)]
 simp only [oelim_some]
 rw [show iadd .i64 4 (n % 10) = (m : Int) by rw [iadd_of (by omega)]; omega]
 rw [show K74.F0 ((d, some 0, (m : Int), 0, ()), (N.1.1, fset N.1.2 0 T.2.1.1), T.2.1.2) = _ from hr]
 simp only [oelim_some]
 rw [ieq_false (show ¬ d = 0 by omega)]
 simp only [cond_false]
 unfold K8 K8.gen K10 K10.gen
 simp only [oelim_some, hG, k1, ieq_self, cond_true, k4]
 cases hq : K9 1 s.1 s.2.2.1 with
 | none => rw [hq] at k5; cases k5
 | some q =>
  rw [hq] at k5
  have : q.1.1 = [] := List.isEmpty_iff.1 k5
  simp only [oelim_some, this]
  rw [show ieq (ofN ([] : List foreign_Record).length) 0 = true from rfl]
  simp only [cond_true, oelim_some]
  exact ⟨_, rfl⟩
theorem dz_0 : (lawD 0 0).map (fun r => r.1.1) = some true := by kernel_rfl
theorem dz_1 : (lawD 0 1).map (fun r => r.1.1) = some true := by kernel_rfl
theorem dz_2 : (lawD 0 2).map (fun r => r.1.1) = some true := by kernel_rfl
theorem dz_3 : (lawD 0 3).map (fun r => r.1.1) = some true := by kernel_rfl
theorem dz_4 : (lawD 0 4).map (fun r => r.1.1) = some true := by kernel_rfl
theorem dz_5 : (lawD 0 5).map (fun r => r.1.1) = some true := by kernel_rfl
theorem dz_6 : (lawD 0 6).map (fun r => r.1.1) = some true := by kernel_rfl
theorem dz_7 : (lawD 0 7).map (fun r => r.1.1) = some true := by kernel_rfl
theorem dz_8 : (lawD 0 8).map (fun r => r.1.1) = some true := by kernel_rfl
theorem dz_9 : (lawD 0 9).map (fun r => r.1.1) = some true := by kernel_rfl
theorem K74.law : ∀ (domain : Int) (n : Int), (Lit.int .i64 domain).wf = true → (Lit.int .i64 n).wf = true → ∃ y, K74 domain n e0_ e6_ e2_ e1_ e4_ e3_ e5_ (0, fun _ => []) = some ((true, ()), y, ()) := by
 intro domain n _ _
 show ∃ y, lawD domain n = some ((true, ()), y, ())
 rw [law_mod]
 have d0 : 0 ≤ domain % 256 := by omega
 have d1 : domain % 256 < 256 := by omega
 generalize domain % 256 = d at *
 by_cases hd : d = 0
 ·subst hd
  have n0 : 0 ≤ n % 10 := by omega
  have n1 : n % 10 < 10 := by omega
  generalize n % 10 = k at *
  have h : k = 0 ∨ k = 1 ∨ k = 2 ∨ k = 3 ∨ k = 4 ∨ k = 5 ∨ k = 6 ∨ k = 7 ∨ k = 8 ∨ k = 9 := by omega
  rcases h with rfl | rfl | rfl | rfl | rfl | rfl | rfl | rfl | rfl | rfl
  ·exact of_map dz_0
  ·exact of_map dz_1
  ·exact of_map dz_2
  ·exact of_map dz_3
  ·exact of_map dz_4
  ·exact of_map dz_5
  ·exact of_map dz_6
  ·exact of_map dz_7
  ·exact of_map dz_8
  ·exact of_map dz_9
 ·exact dom_end (by omega) (by omega) nD tD frD_eq tkD0_eq chD
end Go.Proofs.YtgnabnhggaondaaGreat
