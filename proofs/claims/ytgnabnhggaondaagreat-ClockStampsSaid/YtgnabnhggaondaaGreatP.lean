/- Typed forms of the functions that these statements reach, proved equal to what the model runs, and laws over them. -/
import Derived.Test.YtgnabnhggaondaaGreatS
import Derived.Test.YtgnabnhggaondaaGreatAr3
import Derived.KernelRfl
namespace Go.Proofs.YtgnabnhggaondaaGreat
open Go.Rf
set_option linter.unusedVariables false
set_option linter.unusedSimpArgs false
set_option maxRecDepth 100000
def byteI (e : Int) : UInt8 := UInt8.ofNat (IntKind.u8.wrap e).toNat
def be (v : Int) : Nat → List UInt8
 | 0 => []
 | k + 1 => byteI (ishr .i64 v (8 * (k : Int))) :: be v k
theorem be_length (v : Int) : ∀ k, (be v k).length = k
 | 0 => rfl
 | k + 1 => by simp [be, be_length v k]
theorem put_step (b : List UInt8) (v : Int) (k : Nat) (hk : k < 8) (hb : b.length < 140737488355328) :
  K75.step0 ((b, v, ((k + 1 : Nat) : Int), ()), ()) = some (.inl ((b ++ [byteI (ishr .i64 v (8 * (k : Int)))], v, (k : Int), ()), ())) := by
 have e1 : isub .i64 ((k + 1 : Nat) : Int) 1 = (k : Int) := by have := isub_of (a := ((k + 1 : Nat) : Int)) (b := 1) (by omega); omega
 have e2 : imul .i64 8 (k : Int) = 8 * (k : Int) := imul_of (by omega)
 unfold K75.step0
 simp only [e1, e2, ilt_true (show (0 : Int) < ((k + 1 : Nat) : Int) by omega), ile_true (show (0 : Int) ≤ 8 * (k : Int) by omega), cond_true]
 rw [room_true (by simp; omega)]
 rfl
theorem put_loop (v : Int) : ∀ (k : Nat) (b : List UInt8), k ≤ 8 → b.length + k < 140737488355328 → K75.F0 ((b, v, (k : Int), ()), ()) = some ((b ++ be v k, ()), ()) := by
 intro k b hk hb
 obtain ⟨r, h1, h2⟩ := loopFix_rule (step := K75.step0) (Inv := fun a => ∃ (i : Nat) (c : List UInt8), a = ((c, v, (i : Int), ()), ()) ∧ i ≤ k ∧ c ++ be v i = b ++ be v k)
  (Post := fun r => r = ((b ++ be v k, ()), ())) (m := fun a => a.1.2.2.1.toNat) (by
   rintro x ⟨i, c, rfl, hi, hc⟩
   cases i with
   | zero =>
    refine .inr ⟨_, ?_, rfl⟩
    unfold K75.step0
    simp only [ilt_false (show ¬ (0 : Int) < ((0 : Nat) : Int) by decide), cond_false]
    rw [← hc]; simp [be]
   | succ i =>
    have hcl : c.length + (i + 1) = b.length + k := by
     have := congrArg List.length hc
     simpa [be_length] using this
    refine .inl ⟨_, put_step c v i (by omega) (by omega), ⟨i, _, rfl, by omega, ?_⟩, by simp only [Int.toNat_natCast]; omega⟩
    rw [← hc]; simp [be]) (1000000 + b.length) ((b, v, (k : Int), ()), ()) ⟨k, b, rfl, Nat.le_refl _, rfl⟩ (by simp only [Int.toNat_natCast]; omega)
 subst h2
 exact h1
theorem put_spec (b : List UInt8) (v : Int) (k : Nat) (hk : k ≤ 8) (hb : b.length + k < 140737488355328) : K75 b v (k : Int) = some ((b ++ be v k, ()), ((), ((), ()))) := by
 have e0 : opMinMax true 0 (opMinMax false (k : Int) 8) = (k : Int) := by
  simp only [opMinMax, cond_true, cond_false, imin, imax]
  split <;> split <;> omega
 have e3 : (bif le3 (ofN (0 : Nat)) (ofN b.length) b.length then ieq (ofN b.length) (ofN b.length) else false) = true := by
  simp [le3, ile, ieq]
 have e4 : List.drop (ofN (0 : Nat)).toNat (List.take (ofN b.length).toNat b) = b := by simp
 unfold K75 K75.gen
 simp only [e0, e3, e4, cond_true]
 cases k with
 | zero => simp [ilt, be]
 | succ k =>
  have e1 : isub .i64 ((k + 1 : Nat) : Int) 1 = (k : Int) := by have := isub_of (a := ((k + 1 : Nat) : Int)) (b := 1) (by omega); omega
  have e2 : imul .i64 8 (k : Int) = 8 * (k : Int) := imul_of (by omega)
  simp only [e1, e2, ilt_true (show (0 : Int) < ((k + 1 : Nat) : Int) by omega), ile_true (show (0 : Int) ≤ 8 * (k : Int) by omega), cond_true]
  rw [room_true (by simp; omega)]
  have h := put_loop v k (b ++ [byteI (ishr .i64 v (8 * (k : Int)))]) (by omega) (by simp; omega)
  have h : K75.F0 ((b ++ UInt8.ofNat (IntKind.u8.wrap (ishr .i64 v (8 * (k : Int)))).toNat :: lnil UInt8, v, (k : Int), ()), ()) = _ := h
  rw [h]
  simp [oelim_some, be]
theorem wrap8 (e : Int) : IntKind.u8.wrap e = e % 256 := by
 simp only [IntKind.wrap, IntKind.signed, IntKind.bits, Bool.false_and, Bool.false_eq_true, if_false]; rfl
theorem wrap64 (e : Int) : IntKind.u64.wrap e = e % 18446744073709551616 := by
 simp only [IntKind.wrap, IntKind.signed, IntKind.bits, Bool.false_and, Bool.false_eq_true, if_false]; rfl
theorem emod_split (v m : Int) (hm : 0 < m) : v % (m * 256) = (v / m % 256) * m + v % m := by
 have h : v / (m * 256) = v / m / 256 := by rw [Int.ediv_ediv, if_neg (by omega)]; omega
 rw [Int.emod_def, Int.emod_def (v / m), Int.emod_def v m, h]
 generalize v / m = q
 generalize q / 256 = p
 grind
theorem or_shift (a b : Nat) (h : b < 256) : (a * 256) ||| b = a * 256 + b := by
 have := Nat.shiftLeft_add_eq_or_of_lt (i := 8) (b := b) h a
 rw [Nat.shiftLeft_eq] at this
 exact this.symm
theorem shr8 (v : Int) (i : Nat) (h : i < 8) : ishr .i64 v (8 * (i : Int)) = v / 256 ^ i := by
 have h8 : i = 0 ∨ i = 1 ∨ i = 2 ∨ i = 3 ∨ i = 4 ∨ i = 5 ∨ i = 6 ∨ i = 7 := by omega
 rcases h8 with rfl | rfl | rfl | rfl | rfl | rfl | rfl | rfl
 ·show v.fdiv (2 ^ 0) = _
  rw [Int.fdiv_eq_ediv_of_nonneg _ (by decide)]; rfl
 ·show v.fdiv (2 ^ 8) = _
  rw [Int.fdiv_eq_ediv_of_nonneg _ (by decide)]; rfl
 ·show v.fdiv (2 ^ 16) = _
  rw [Int.fdiv_eq_ediv_of_nonneg _ (by decide)]; rfl
 ·show v.fdiv (2 ^ 24) = _
  rw [Int.fdiv_eq_ediv_of_nonneg _ (by decide)]; rfl
 ·show v.fdiv (2 ^ 32) = _
  rw [Int.fdiv_eq_ediv_of_nonneg _ (by decide)]; rfl
 ·show v.fdiv (2 ^ 40) = _
  rw [Int.fdiv_eq_ediv_of_nonneg _ (by decide)]; rfl
 ·show v.fdiv (2 ^ 48) = _
  rw [Int.fdiv_eq_ediv_of_nonneg _ (by decide)]; rfl
 ·show v.fdiv (2 ^ 56) = _
  rw [Int.fdiv_eq_ediv_of_nonneg _ (by decide)]; rfl
theorem byteI_toNat (e : Int) : ((byteI e).toNat : Int) = e % 256 := by
 unfold byteI
 rw [wrap8, UInt8.toNat_ofNat']
 have h0 := Int.emod_nonneg e (show (256 : Int) ≠ 0 by decide)
 have h1 := Int.emod_lt_of_pos e (show (0 : Int) < 256 by decide)
 omega
def bvalI : Int → List UInt8 → Int
 | a, [] => a
 | a, x :: r => bvalI (a * 256 + (x.toNat : Int)) r
theorem bvalI_be : ∀ (k : Nat) (v a : Int), k ≤ 8 → bvalI a (be v k) = a * 256 ^ k + v % 256 ^ k
 | 0, v, a, _ => by simp [be, bvalI, Int.emod_one]
 | k + 1, v, a, h => by
  rw [be, bvalI, bvalI_be k v _ (by omega), byteI_toNat, shr8 v k (by omega), Int.pow_succ, emod_split v (256 ^ k) (Int.pow_pos (by decide))]
  generalize v / 256 ^ k % 256 = y
  generalize v % 256 ^ k = z
  generalize (256 : Int) ^ k = m
  grind
theorem bvalI_r : ∀ (L : List UInt8) (a : Int), 0 ≤ a → a * 256 ^ L.length ≤ bvalI a L ∧ bvalI a L < (a + 1) * 256 ^ L.length
 | [], a, h => by simp [bvalI]; omega
 | x :: r, a, h => by
  have hx : (x.toNat : Int) < 256 := by have := x.toNat_lt; omega
  have h0 : (0 : Int) ≤ (x.toNat : Int) := by omega
  obtain ⟨h1, h2⟩ := bvalI_r r (a * 256 + (x.toNat : Int)) (by omega)
  rw [bvalI, List.length_cons, Int.pow_succ]
  have hp : (0 : Int) < 256 ^ r.length := Int.pow_pos (by decide)
  generalize (256 : Int) ^ r.length = m at *
  generalize (x.toNat : Int) = y at *
  generalize bvalI (a * 256 + y) r = z at *
  have e1 : a * (m * 256) ≤ (a * 256 + y) * m := by
   have : (a * 256 + y) * m = a * (m * 256) + y * m := by grind
   have : 0 ≤ y * m := Int.mul_nonneg h0 (by omega)
   omega
  have e2 : (a * 256 + y + 1) * m ≤ (a + 1) * (m * 256) := by
   have : (a + 1) * (m * 256) - (a * 256 + y + 1) * m = (255 - y) * m := by grind
   have : 0 ≤ (255 - y) * m := Int.mul_nonneg (by omega) (by omega)
   omega
  omega
theorem read_step (v x : Int) (hv : 0 ≤ v) (hv2 : v < 72057594037927936) (hx : 0 ≤ x) (hx2 : x < 256) : ior .u64 (ishl .u64 v 8) (IntKind.u64.wrap x) = v * 256 + x := by
 have e1 : ishl .u64 v 8 = v * 256 := by
  show IntKind.u64.wrap (v * 2 ^ 8) = _
  rw [wrap64]; omega
 have e2 : IntKind.u64.wrap x = x := by rw [wrap64]; omega
 rw [e1, e2]
 unfold ior
 obtain ⟨a, rfl⟩ : ∃ a : Nat, v = (a : Int) := ⟨v.toNat, by omega⟩
 obtain ⟨b, rfl⟩ : ∃ b : Nat, x = (b : Int) := ⟨x.toNat, by omega⟩
 have f1 : (BitVec.ofInt 64 ((a : Int) * 256)).toNat = a * 256 := by rw [BitVec.toNat_ofInt]; omega
 have f2 : (BitVec.ofInt 64 (b : Int)).toNat = b := by rw [BitVec.toNat_ofInt]; omega
 have : (BitVec.ofInt IntKind.u64.bits ((a : Int) * 256) ||| BitVec.ofInt IntKind.u64.bits (b : Int)).toNat = a * 256 + b := by
  show (BitVec.ofInt 64 ((a : Int) * 256) ||| BitVec.ofInt 64 (b : Int)).toNat = _
  rw [BitVec.toNat_or, f1, f2, or_shift a b (by omega)]
 rw [this, wrap64]; omega
theorem bvalI_app : ∀ (L R : List UInt8) (a : Int), bvalI a (L ++ R) = bvalI (bvalI a L) R
 | [], _, _ => rfl
 | x :: L, R, a => by rw [List.cons_append, bvalI, bvalI, bvalI_app L R]
theorem read_spec (L : List UInt8) (h : L.length ≤ 8) : K79 L = some ((bvalI 0 L, ()), (), ()) := by
 unfold K79 K79.gen K79.F0
 simp only []
 have hl := loop_to (step := K79.step0) (fun i => ((bvalI 0 (L.take i), L, ofN L.length, (i : Int), ()), ())) (b := ((bvalI 0 L, ()), ())) L.length (1000000 + L.length) (by omega) (fun i hi => ?_) ?_
 ·have hl : loopFix (1000000 + L.length) K79.step0 ((0, L, ofN L.length, 0, ()), ()) = some ((bvalI 0 L, ()), ()) := hl
  rw [hl]; rfl
 ·unfold K79.step0
  have hr := bvalI_r (L.take i) 0 (by omega)
  have hlen : (L.take i).length = i := by rw [List.length_take]; omega
  have hp : (256 : Int) ^ i ≤ 256 ^ 7 := by exact_mod_cast Nat.pow_le_pow_right (show 0 < 256 by decide) (show i ≤ 7 by omega)
  rw [hlen] at hr
  have hx := (L[i]).toNat_lt
  have hg : L.getD i 0 = L[i] := getD_at hi
  simp only [ilt_nat, inR_nat, hi, decide_true, cond_true, Int.toNat_natCast, iinc (show i < 4611686018427387904 by omega)]
  have ht : L.take (i + 1) = L.take i ++ [L[i]] := by rw [List.take_add_one, List.getElem?_eq_getElem hi]; rfl
  rw [show List.getD L i (0 : D UC.u8) = L[i] from hg, read_step _ _ (by omega) (by omega) (show (0 : Int) ≤ ((L[i].toNat : Nat) : Int) by omega) (show ((L[i].toNat : Nat) : Int) < 256 by omega), ht, bvalI_app]
  rfl
 ·unfold K79.step0
  simp only [ilt_nat, Nat.lt_irrefl, decide_false, cond_false, List.take_length]
theorem none_ok (b : List UInt8) (at_1 n : Int) (h0 : 0 ≤ at_1) (h1 : 0 ≤ n) (h2 : at_1 + n ≤ (b.length : Int)) (hb : b.length < 1000000) : K78 b at_1 n = some ((false, ()), (), ()) := by
 unfold K78 K78.gen
 have e : isub .i64 (ofN b.length) at_1 = (b.length : Int) - at_1 := isub_of (a := (b.length : Int)) (by omega)
 rw [ilt_false (show ¬ n < 0 by omega), ilt_false (show ¬ at_1 < 0 by omega), ilt_false (show ¬ ((b.length : Nat) : Int) < at_1 by omega), e, ilt_false (show ¬ (b.length : Int) - at_1 < n by omega)]
 rfl
theorem le3_ok {a b : Int} {n : Nat} (h0 : 0 ≤ a) (h1 : a ≤ b) (h2 : b ≤ (n : Int)) : le3 a b n = true := by
 unfold le3; simp [ile, h0, h1, h2]
theorem get_spec (b : List UInt8) (at_1 n : Int) (h0 : 0 ≤ at_1) (h1 : 1 ≤ n) (h7 : n ≤ 7) (h2 : at_1 + n ≤ (b.length : Int)) (hb : b.length < 1000000) :
  K73 b at_1 n = some ((bvalI 0 ((b.take (at_1 + n).toNat).drop at_1.toNat), (true, ())), (), ()) := by
 unfold K73 K73.gen
 have e : iadd .i64 at_1 n = at_1 + n := iadd_of (by omega)
 have hl : ((b.take (at_1 + n).toNat).drop at_1.toNat).length = n.toNat := by rw [List.length_drop, List.length_take]; omega
 rw [ilt_false (show ¬ n < 1 by omega), ilt_false (show ¬ 7 < n by omega), none_ok b at_1 n h0 (by omega) h2 hb]
 simp only [cond_false, oelim_some]
 rw [e, le3_ok h0 (by omega) h2, read_spec _ (by omega)]
 simp only [cond_true, oelim_some]
 have hr := bvalI_r ((b.take (at_1 + n).toNat).drop at_1.toNat) 0 (by omega)
 have hp : (256 : Int) ^ n.toNat ≤ 256 ^ 7 := by exact_mod_cast Nat.pow_le_pow_right (show 0 < 256 by decide) (show n.toNat ≤ 7 by omega)
 rw [hl] at hr
 rw [show IntKind.i64.wrap (bvalI 0 ((b.take (at_1 + n).toNat).drop at_1.toNat)) = bvalI 0 ((b.take (at_1 + n).toNat).drop at_1.toNat) by rw [iwrap]; omega]
def sgn (v : Int) (n : Int) : Int := ishr .i64 (IntKind.i64.wrap (ishl .u64 v (64 - 8 * n))) (64 - 8 * n)
theorem signed_spec (b : List UInt8) (at_1 n : Int) (h0 : 0 ≤ at_1) (h1 : 1 ≤ n) (h7 : n ≤ 8) (h2 : at_1 + n ≤ (b.length : Int)) (hb : b.length < 1000000) :
  K77 b at_1 n = some ((sgn (bvalI 0 ((b.take (at_1 + n).toNat).drop at_1.toNat)) n, (true, ())), (), ()) := by
 unfold K77 K77.gen
 have e : iadd .i64 at_1 n = at_1 + n := iadd_of (by omega)
 have e1 : imul .i64 8 n = 8 * n := imul_of (by omega)
 have e2 : isub .i64 64 (8 * n) = 64 - 8 * n := isub_of (by omega)
 have hl : ((b.take (at_1 + n).toNat).drop at_1.toNat).length = n.toNat := by rw [List.length_drop, List.length_take]; omega
 rw [ilt_false (show ¬ n < 1 by omega), ilt_false (show ¬ 8 < n by omega), none_ok b at_1 n h0 (by omega) h2 hb]
 simp only [cond_false, oelim_some]
 rw [e, le3_ok h0 (by omega) h2, read_spec _ (by omega)]
 simp only [cond_true, oelim_some, e1, e2]
 rw [ile_true (show (0 : Int) ≤ 64 - 8 * n by omega)]
 rfl
theorem sgn8 (v : Int) : sgn v 8 = IntKind.i64.wrap v := by
 unfold sgn
 show (IntKind.i64.wrap (IntKind.u64.wrap (v * 2 ^ 0))).fdiv (2 ^ 0) = _
 rw [Int.fdiv_eq_ediv_of_nonneg _ (by decide), iwrap, iwrap, wrap64]
 omega
theorem sgn1 (v : Int) (h0 : -128 ≤ v) (h1 : v ≤ 127) : sgn (v % 256) 1 = v := by
 unfold sgn
 show (IntKind.i64.wrap (IntKind.u64.wrap (v % 256 * 2 ^ 56))).fdiv (2 ^ 56) = _
 rw [Int.fdiv_eq_ediv_of_nonneg _ (by decide), iwrap, wrap64]
 omega
theorem sgn2 (v : Int) (h0 : -32768 ≤ v) (h1 : v ≤ 32767) : sgn (v % 65536) 2 = v := by
 unfold sgn
 show (IntKind.i64.wrap (IntKind.u64.wrap (v % 65536 * 2 ^ 48))).fdiv (2 ^ 48) = _
 rw [Int.fdiv_eq_ediv_of_nonneg _ (by decide), iwrap, wrap64]
 omega
theorem put1 (b : List UInt8) (v : Int) (h : b.length < 1000000) : K75 b v 1 = some ((b ++ be v 1, ()), ((), ((), ()))) := put_spec b v 1 (by omega) (by omega)
theorem put2 (b : List UInt8) (v : Int) (h : b.length < 1000000) : K75 b v 2 = some ((b ++ be v 2, ()), ((), ((), ()))) := put_spec b v 2 (by omega) (by omega)
theorem put4 (b : List UInt8) (v : Int) (h : b.length < 1000000) : K75 b v 4 = some ((b ++ be v 4, ()), ((), ((), ()))) := put_spec b v 4 (by omega) (by omega)
theorem put6 (b : List UInt8) (v : Int) (h : b.length < 1000000) : K75 b v 6 = some ((b ++ be v 6, ()), ((), ((), ()))) := put_spec b v 6 (by omega) (by omega)
theorem put8 (b : List UInt8) (v : Int) (h : b.length < 1000000) : K75 b v 8 = some ((b ++ be v 8, ()), ((), ((), ()))) := put_spec b v 8 (by omega) (by omega)
theorem getN {L : List UInt8} {at_1 n v : Int} (k : Nat) (h0 : 0 ≤ at_1) (h1 : 1 ≤ n) (h7 : n ≤ 7) (hk : n = (k : Int)) (h2 : at_1 + n ≤ (L.length : Int)) (hb : L.length < 1000000)
  (h : (L.take (at_1 + n).toNat).drop at_1.toNat = be v k) : K73 L at_1 n = some ((v % 256 ^ k, (true, ())), (), ()) := by
 rw [get_spec L at_1 n h0 h1 h7 h2 hb, h, bvalI_be k v 0 (by omega)]
 simp
theorem sgnN {L : List UInt8} {at_1 n v : Int} (k : Nat) (h0 : 0 ≤ at_1) (h1 : 1 ≤ n) (h7 : n ≤ 8) (hk : n = (k : Int)) (h2 : at_1 + n ≤ (L.length : Int)) (hb : L.length < 1000000)
  (h : (L.take (at_1 + n).toNat).drop at_1.toNat = be v k) : K77 L at_1 n = some ((sgn (v % 256 ^ k) n, (true, ())), (), ()) := by
 rw [signed_spec L at_1 n h0 h1 h7 h2 hb, h, bvalI_be k v 0 (by omega)]
 simp
theorem idN {L : List UInt8} {at_1 v : Int} (h0 : 0 ≤ at_1) (h2 : at_1 + 8 ≤ (L.length : Int)) (hb : L.length < 1000000) (hv : 0 ≤ v) (hv2 : v < 18446744073709551616)
  (h : (L.take (at_1 + 8).toNat).drop at_1.toNat = be (IntKind.i64.wrap v) 8) : K74 L at_1 = some ((v, (true, ())), (), ()) := by
 unfold K74 K74.gen
 rw [sgnN 8 h0 (by omega) (by omega) (by omega) h2 hb h, oelim_some, sgn8, wrap64]
 have : IntKind.i64.wrap (IntKind.i64.wrap v % 256 ^ 8) % 18446744073709551616 = v := by rw [iwrap, iwrap]; omega
 rw [this]
theorem identN {L : List UInt8} {at_1 : Int} {p : api_PortID} (h0 : 0 ≤ at_1) (h2 : at_1 + 10 ≤ (L.length : Int)) (hb : L.length < 1000000) (hv : 0 ≤ p.fClock) (hv2 : p.fClock < 18446744073709551616) (hp : 0 ≤ p.fPort) (hp2 : p.fPort ≤ 65535)
  (h : (L.take (at_1 + 8).toNat).drop at_1.toNat = be (IntKind.i64.wrap p.fClock) 8) (h' : (L.take (at_1 + 8 + 2).toNat).drop (at_1 + 8).toNat = be p.fPort 2) : K64 L at_1 = some ((p, (true, ())), (), ()) := by
 unfold K64 K64.gen
 have e : isub .i64 (ofN L.length) at_1 = (L.length : Int) - at_1 := isub_of (a := (L.length : Int)) (by omega)
 have e2 : iadd .i64 at_1 8 = at_1 + 8 := iadd_of (by omega)
 rw [ilt_false (show ¬ at_1 < 0 by omega), ilt_false (show ¬ ((L.length : Nat) : Int) < at_1 by omega), e, ilt_false (show ¬ (L.length : Int) - at_1 < 10 by omega)]
 simp only [cond_false, oelim_some]
 rw [idN h0 (by omega) hb hv hv2 h, e2, getN 2 (by omega) (by omega) (by omega) (by omega) (by omega) hb h']
 simp only [oelim_some]
 rw [show p.fPort % 256 ^ 2 = p.fPort by omega]
theorem may_stamp {t : Int} (h0 : 0 ≤ t) (h1 : t ≤ 4000000000000000) : K99 t = some ((true, ()), (), ()) := by
 unfold K99 K99.gen
 rw [ile_true h0, ile_true h1]; rfl
theorem stampN {L : List UInt8} {at_1 t : Int} (h0 : 0 ≤ at_1) (h2 : at_1 + 10 ≤ (L.length : Int)) (hb : L.length < 1000000) (ht : 0 ≤ t) (ht2 : t ≤ 4000000000000000)
  (h : (L.take (at_1 + 6).toNat).drop at_1.toNat = be (t / 1000000000) 6) (h' : (L.take (at_1 + 6 + 4).toNat).drop (at_1 + 6).toNat = be (t % 1000000000) 4) : K98 L at_1 = some ((t, (true, ())), (), ()) := by
 unfold K98 K98.gen
 have e : isub .i64 (ofN L.length) at_1 = (L.length : Int) - at_1 := isub_of (a := (L.length : Int)) (by omega)
 have e2 : iadd .i64 at_1 6 = at_1 + 6 := iadd_of (by omega)
 rw [ilt_false (show ¬ at_1 < 0 by omega), ilt_false (show ¬ ((L.length : Nat) : Int) < at_1 by omega), e, ilt_false (show ¬ (L.length : Int) - at_1 < 10 by omega)]
 simp only [cond_false, oelim_some]
 rw [getN 6 h0 (by omega) (by omega) (by omega) (by omega) hb h, e2, getN 4 (by omega) (by omega) (by omega) (by omega) (by omega) hb h']
 simp only [oelim_some]
 have a1 : t / 1000000000 % 256 ^ 6 = t / 1000000000 := by omega
 have a2 : t % 1000000000 % 256 ^ 4 = t % 1000000000 := by omega
 have a3 : imul .i64 (t / 1000000000) 1000000000 = t / 1000000000 * 1000000000 := imul_of (by omega)
 have a4 : iadd .i64 (t / 1000000000 * 1000000000) (t % 1000000000) = t := by rw [iadd_of (by omega)]; omega
 rw [a1, a2, a3, a4, ile_false (show ¬ 1000000000 ≤ t % 1000000000 by omega), ilt_false (show ¬ 4000000 < t / 1000000000 by omega), may_stamp ht ht2]
 rfl
theorem putS (b : List UInt8) {t : Int} (h0 : 0 ≤ t) (h1 : t ≤ 4000000000000000) (h : b.length < 900000) : K100 b t = some ((b ++ be (t / 1000000000) 6 ++ be (t % 1000000000) 4, ()), (), ()) := by
 unfold K100 K100.gen
 rw [may_stamp h0 h1]
 simp only [oelim_some, Bool.not_true, cond_false]
 have e1 : iquo .i64 t 1000000000 = t / 1000000000 := by
  unfold iquo
  rw [Int.tdiv_eq_ediv_of_nonneg h0, iwrap]; omega
 have e2 : irem t 1000000000 = t % 1000000000 := by
  unfold irem
  rw [Int.tmod_eq_emod_of_nonneg h0]
 rw [e1, put6 b _ (by omega)]
 simp only [oelim_some]
 rw [e2, put4 _ _ (by rw [List.length_append, be_length]; omega)]
 rfl
theorem putI (b : List UInt8) (p : api_PortID) (h : b.length < 900000) : K66 b p = some ((b ++ be (IntKind.i64.wrap p.fClock) 8 ++ be p.fPort 2, ()), (), ()) := by
 unfold K66 K66.gen K76 K76.gen
 rw [put8 b _ (by omega)]
 simp only [oelim_some]
 rw [put2 _ _ (by rw [List.length_append, be_length]; omega)]
 rfl
abbrev bs (l : List UInt8) : ByteArray := ByteArray.mk l.toArray
theorem bs_data (l : List UInt8) : (bs l).data.toList = l := by show l.toArray.toList = l; simp
theorem bs_eta (s : ByteArray) : bs s.data.toList = s := by cases s; simp [bs]
theorem bs_ext {s t : ByteArray} (h : s.data.toList = t.data.toList) : s = t := by rw [← bs_eta s, ← bs_eta t, h]
theorem bs_size (l : List UInt8) : (bs l).size = l.length := by show l.toArray.size = _; simp
theorem bs_append (a b : List UInt8) : bs a ++ bs b = bs (a ++ b) := by
 apply bs_ext
 rw [ByteArray.data_append, Array.toList_append, bs_data, bs_data, bs_data]
abbrev api_PortID.z : api_PortID := api_PortID.mk 0 0
def msgH (ty ctl len dom fl co cl po sq lg : Int) : List UInt8 :=
 byteI ty :: UInt8.ofNat (Int.toNat 18) :: [] ++ be len 2 ++ be dom 1 ++ be 0 1 ++ be fl 2 ++ be co 8 ++ be 0 4 ++ be (IntKind.i64.wrap cl) 8 ++ be po 2 ++ be sq 2 ++ be ctl 1 ++ be lg 1
def msgS (st : Int) : List UInt8 := [] ++ be (st / 1000000000) 6 ++ be (st % 1000000000) 4
structure HdOk (dom fl co : Int) (src : api_PortID) (sq lg : Int) : Prop where
 d0 : 0 ≤ dom
 d1 : dom ≤ 255
 f0 : 0 ≤ fl
 f1 : fl ≤ 65535
 c0 : -9223372036854775808 ≤ co
 c1 : co < 9223372036854775808
 k0 : 0 ≤ src.fClock
 k1 : src.fClock < 18446744073709551616
 p0 : 0 ≤ src.fPort
 p1 : src.fPort ≤ 65535
 s0 : 0 ≤ sq
 s1 : sq ≤ 65535
 l0 : -128 ≤ lg
 l1 : lg ≤ 127
theorem hin_ok {v a b : Int} (h0 : a ≤ v) (h1 : v ≤ b) : K62 v a b = some ((true, ()), (), ()) := by
 unfold K62 K62.gen
 rw [ile_true h0, ile_true h1]; rfl
theorem bin_ok {v a b : Int} (h0 : a ≤ v) (h1 : v ≤ b) : K4 v a b = some ((true, ()), (), ()) := by
 unfold K4 K4.gen
 rw [ile_true h0, ile_true h1]; rfl
theorem imay_ok {p : api_PortID} (h0 : 0 ≤ p.fPort) (h1 : p.fPort ≤ 65535) : K65 p = some ((true, ()), (), ()) := by
 unfold K65 K65.gen
 rw [ile_true h0, ile_true h1]; rfl
theorem hcheck_ok {m : api_Msg} (hk : K59 m.fType = some ((true, ()), (), ())) (h : HdOk m.fDomain m.fFlags m.fCorr m.fSource m.fSeq m.fLog) : K57 m = some ((true, ()), (), ()) := by
 unfold K57 K57.gen
 rw [hk, hin_ok h.d0 h.d1, hin_ok h.f0 h.f1, imay_ok h.p0 h.p1, hin_ok h.s0 h.s1, hin_ok h.l0 h.l1]
 rfl
theorem header_put {m : api_Msg} {len ctl : Int} (hk : K59 m.fType = some ((true, ()), (), ())) (hc : K61 m.fType = some ((ctl, ()), (), ())) (h : HdOk m.fDomain m.fFlags m.fCorr m.fSource m.fSeq m.fLog) (h0 : 34 ≤ len) (h1 : len ≤ 400) :
  K60 m len = some ((msgH m.fType ctl len m.fDomain m.fFlags m.fCorr m.fSource.fClock m.fSource.fPort m.fSeq m.fLog, (true, ())), (), ()) := by
 unfold K60 K60.gen
 rw [hcheck_ok hk h, hin_ok h0 h1]
 simp only [oelim_some, Bool.not_true, cond_false]
 rw [put2 _ _ (by simp)]
 simp only [oelim_some]
 rw [put1 _ _ (by simp [be_length])]
 simp only [oelim_some]
 rw [put1 _ _ (by simp [be_length])]
 simp only [oelim_some]
 rw [put2 _ _ (by simp [be_length])]
 simp only [oelim_some]
 rw [put8 _ _ (by simp [be_length])]
 simp only [oelim_some]
 rw [put4 _ _ (by simp [be_length])]
 simp only [oelim_some]
 rw [putI _ _ (by simp [be_length])]
 simp only [oelim_some]
 rw [put2 _ _ (by simp [be_length]), hc]
 simp only [oelim_some]
 rw [put1 _ _ (by simp [be_length])]
 simp only [oelim_some]
 rw [put1 _ _ (by simp [be_length])]
 rfl
theorem tlv_put_nil (b : List UInt8) : K109 b [] = some ((b, (true, ())), (), ()) := by
 have e3 : (bif le3 (ofN (0 : Nat)) (ofN b.length) b.length then ieq (ofN b.length) (ofN b.length) else false) = true := by
  simp [le3, ile, ieq]
 have e4 : List.drop (ofN (0 : Nat)).toNat (List.take (ofN b.length).toNat b) = b := by simp
 unfold K109 K109.gen
 simp only [e3, e4, cond_true]
 have h : K109.F0 ((b, b, [], ofN ([] : List api_Tlv).length, 0, ()), ()) = some (.inl ((b, ()), ())) := by
  unfold K109.F0
  refine loop_to (fun _ => ((b, b, [], ofN ([] : List api_Tlv).length, 0, ()), ())) 0 _ (by show 0 < 1000000 + _; omega) (fun i hi => absurd hi (Nat.not_lt_zero _)) ?_
  unfold K109.step0
  rw [ilt_false (show ¬ (0 : Int) < ofN ([] : List api_Tlv).length by decide)]
  rfl
 have h8 : ilt 8 (ofN ([] : List api_Tlv).length) = false := by decide
 rw [h8]
 simp only [cond_false]
 rw [h]
 rfl
theorem tlv_get_nil (L : List UInt8) (n : Nat) (h : L.length = n) : K107 L (n : Int) = some (([], (0, ())), (), ()) := by
 unfold K107 K107.gen
 rw [ilt_false (show ¬ (n : Int) < 0 by omega), ilt_false (show ¬ ((L.length : Nat) : Int) < (n : Int) by omega)]
 simp only [cond_false, oelim_some]
 have hl : K107.F1 ((L, (n : Int), lnil api_Tlv, 0, ()), ()) = some ((lnil api_Tlv, 0, ()), ()) := by
  unfold K107.F1
  refine loop_to (step := K107.step1 _) (fun _ => ((L, (n : Int), lnil api_Tlv, 0, ()), ())) 0 _ (by show 0 < 1000000 + _; omega) (fun i hi => absurd hi (Nat.not_lt_zero _)) ?_
  unfold K107.step1
  rw [ilt_false (show ¬ (n : Int) < ((L.length : Nat) : Int) by omega)]
  rfl
 rw [hl]
 rfl
def msgA (ty ctl dom fl co : Int) (src : api_PortID) (sq lg st : Int) : List UInt8 := msgH ty ctl 44 dom fl co src.fClock src.fPort sq lg ++ msgS st
abbrev msg0 (ty dom fl co : Int) (src : api_PortID) (sq lg st : Int) (tgt : api_PortID) : api_Msg := api_Msg.mk ty dom fl co src sq lg st tgt 0 0 (api_Quality.mk 0 0 0) 0 0 0 0 0 0 0
theorem put_A {ty ctl dom fl co sq lg st : Int} {src : api_PortID} (hty : (ty = 0 ∧ ctl = 0) ∨ (ty = 1 ∧ ctl = 1) ∨ (ty = 8 ∧ ctl = 2)) (h : HdOk dom fl co src sq lg) (ht : 0 ≤ st) (ht2 : st ≤ 4000000000000000) :
  K56 (msg0 ty dom fl co src sq lg st api_PortID.z) [] = some ((bs (msgA ty ctl dom fl co src sq lg st), (true, ())), (), ()) := by
 have hk : K59 ty = some ((true, ()), (), ()) := by rcases hty with ⟨rfl, rfl⟩ | ⟨rfl, rfl⟩ | ⟨rfl, rfl⟩ <;> kernel_rfl
 have hc : K61 ty = some ((ctl, ()), (), ()) := by rcases hty with ⟨rfl, rfl⟩ | ⟨rfl, rfl⟩ | ⟨rfl, rfl⟩ <;> kernel_rfl
 have hst : K6 ty = some ((true, ()), (), ()) := by rcases hty with ⟨rfl, rfl⟩ | ⟨rfl, rfl⟩ | ⟨rfl, rfl⟩ <;> kernel_rfl
 have htg : K7 ty = some ((false, ()), (), ()) := by rcases hty with ⟨rfl, rfl⟩ | ⟨rfl, rfl⟩ | ⟨rfl, rfl⟩ <;> kernel_rfl
 have n2 : ieq ty 2 = false := by rcases hty with ⟨rfl, rfl⟩ | ⟨rfl, rfl⟩ | ⟨rfl, rfl⟩ <;> rfl
 have n11 : ieq ty 11 = false := by rcases hty with ⟨rfl, rfl⟩ | ⟨rfl, rfl⟩ | ⟨rfl, rfl⟩ <;> rfl
 have n13 : ieq ty 13 = false := by rcases hty with ⟨rfl, rfl⟩ | ⟨rfl, rfl⟩ | ⟨rfl, rfl⟩ <;> rfl
 have hown : K5 (msg0 ty dom fl co src sq lg st api_PortID.z) = some ((msg0 ty dom fl co src sq lg st api_PortID.z, ()), (), ()) := by
  rcases hty with ⟨rfl, rfl⟩ | ⟨rfl, rfl⟩ | ⟨rfl, rfl⟩ <;> kernel_rfl
 have hq : K92 (api_Quality.mk 0 0 0) = some ((true, ()), (), ()) := by kernel_rfl
 have hchk : K0 (msg0 ty dom fl co src sq lg st api_PortID.z) = some ((true, ()), (), ()) := by
  unfold K0 K0.gen
  rw [hcheck_ok hk h, hown, may_stamp ht ht2, imay_ok (p := api_PortID.z) (by decide) (by decide), hq]
  simp only [oelim_some, ieq_self, cond_true, bin_ok (show (-32768 : Int) ≤ 0 by decide) (show (0 : Int) ≤ 32767 by decide), bin_ok (show (0 : Int) ≤ 0 by decide) (show (0 : Int) ≤ 255 by decide), bin_ok (show (0 : Int) ≤ 0 by decide) (show (0 : Int) ≤ 65535 by decide), bin_ok (show (0 : Int) ≤ 0 by decide) (show (0 : Int) ≤ 15 by decide)]
 have hb : K3 (lnil UInt8) (msg0 ty dom fl co src sq lg st api_PortID.z) = some ((msgS st, (true, ())), (), ()) := by
  unfold K3 K3.gen
  rw [hchk, hst]
  simp only [oelim_some, Bool.not_true, cond_false, cond_true, htg, n2, n11, n13]
  rw [putS _ ht ht2 (by simp)]
  rcases hty with ⟨rfl, rfl⟩ | ⟨rfl, rfl⟩ | ⟨rfl, rfl⟩ <;> kernel_rfl
 unfold K56 K56.gen
 rw [hb]
 simp only [oelim_some, Bool.not_true, cond_false]
 rw [tlv_put_nil]
 simp only [oelim_some, Bool.not_true, cond_false]
 rw [show iadd .i64 34 (ofN (msgS st).length) = 44 by kernel_rfl, header_put (len := 44) hk hc h (by decide) (by decide)]
 simp only [oelim_some, Bool.not_true, cond_false]
 rw [show Nat.ble ((bs (msgH ty ctl 44 dom fl co src.fClock src.fPort sq lg)).size + (bs (msgS st)).size) 9223372036854775807 = true by rw [bs_size, bs_size]; kernel_rfl]
 simp only [cond_true]
 show some ((bs _ ++ bs _, _), _) = _
 rw [bs_append]
 rfl
theorem get_A {ty ctl dom fl co sq lg st : Int} {src : api_PortID} (hty : (ty = 0 ∧ ctl = 0) ∨ (ty = 1 ∧ ctl = 1) ∨ (ty = 8 ∧ ctl = 2)) (h : HdOk dom fl co src sq lg) (ht : 0 ≤ st) (ht2 : st ≤ 4000000000000000) :
  K55 (bs (msgA ty ctl dom fl co src sq lg st)) = some ((msg0 ty dom fl co src sq lg st api_PortID.z, ([], (0, ()))), (), ()) := by
 have hlen : (msgA ty ctl dom fl co src sq lg st).length = 44 := by kernel_rfl
 have g2 : K73 (msgA ty ctl dom fl co src sq lg st) 2 2 = some ((44, (true, ())), (), ()) := getN (v := 44) 2 (by decide) (by decide) (by decide) (by decide) (by omega) (by omega) (by kernel_rfl)
 have g6 : K73 (msgA ty ctl dom fl co src sq lg st) 6 2 = some ((fl, (true, ())), (), ()) := by
  rw [getN (v := fl) 2 (by decide) (by decide) (by decide) (by decide) (by omega) (by omega) (by kernel_rfl)]
  rw [show fl % 256 ^ 2 = fl by have := h.f0; have := h.f1; omega]
 have g8 : K77 (msgA ty ctl dom fl co src sq lg st) 8 8 = some ((co, (true, ())), (), ()) := by
  rw [sgnN (v := co) 8 (by decide) (by decide) (by decide) (by decide) (by omega) (by omega) (by kernel_rfl), sgn8]
  rw [show IntKind.i64.wrap (co % 256 ^ 8) = co by have := h.c0; have := h.c1; rw [iwrap]; omega]
 have g20 : K64 (msgA ty ctl dom fl co src sq lg st) 20 = some ((src, (true, ())), (), ()) := identN (by decide) (by omega) (by omega) h.k0 h.k1 h.p0 h.p1 (by kernel_rfl) (by kernel_rfl)
 have g30 : K73 (msgA ty ctl dom fl co src sq lg st) 30 2 = some ((sq, (true, ())), (), ()) := by
  rw [getN (v := sq) 2 (by decide) (by decide) (by decide) (by decide) (by omega) (by omega) (by kernel_rfl)]
  rw [show sq % 256 ^ 2 = sq by have := h.s0; have := h.s1; omega]
 have g33 : K77 (msgA ty ctl dom fl co src sq lg st) 33 1 = some ((lg, (true, ())), (), ()) := by
  rw [sgnN (v := lg) 1 (by decide) (by decide) (by decide) (by decide) (by omega) (by omega) (by kernel_rfl)]
  rw [show sgn (lg % 256 ^ 1) 1 = lg from sgn1 lg h.l0 h.l1]
 have g34 : K98 (msgA ty ctl dom fl co src sq lg st) 34 = some ((st, (true, ())), (), ()) := stampN (by decide) (by omega) (by omega) ht ht2 (by kernel_rfl) (by kernel_rfl)
 have hty0 : IntKind.i64.wrap (ofN (UInt8.toNat (List.getD (msgA ty ctl dom fl co src sq lg st) (Int.toNat 0) (0 : D UC.u8)))) = ty := by
  rcases hty with ⟨rfl, rfl⟩ | ⟨rfl, rfl⟩ | ⟨rfl, rfl⟩ <;> kernel_rfl
 have hd4 : IntKind.i64.wrap (ofN (UInt8.toNat (List.getD (msgA ty ctl dom fl co src sq lg st) (Int.toNat 4) (0 : D UC.u8)))) = dom := by
  have : List.getD (msgA ty ctl dom fl co src sq lg st) (Int.toNat 4) (0 : D UC.u8) = byteI (ishr .i64 dom (8 * ((0 : Nat) : Int))) := by kernel_rfl
  rw [this, show ofN (byteI (ishr .i64 dom (8 * ((0 : Nat) : Int)))).toNat = ((byteI (ishr .i64 dom (8 * ((0 : Nat) : Int)))).toNat : Int) from rfl, byteI_toNat, shr8 dom 0 (by decide)]
  have := h.d0; have := h.d1
  rw [iwrap]; omega
 have hk : K59 ty = some ((true, ()), (), ()) := by rcases hty with ⟨rfl, rfl⟩ | ⟨rfl, rfl⟩ | ⟨rfl, rfl⟩ <;> kernel_rfl
 have hh : K58 (msgA ty ctl dom fl co src sq lg st) = some ((msg0 ty dom fl co src sq lg 0 api_PortID.z, (44, (0, ()))), (), ()) := by
  unfold K58 K58.gen
  rw [g2, g6, g8, g20, g30, g33, hty0, hd4, hk, hlen]
  kernel_rfl
 have hb : K1 (msg0 ty dom fl co src sq lg 0 api_PortID.z) (msgA ty ctl dom fl co src sq lg st) 34 = some ((msg0 ty dom fl co src sq lg st api_PortID.z, (44, (0, ()))), (), ()) := by
  unfold K1 K1.gen
  rw [g34, hlen]
  rcases hty with ⟨rfl, rfl⟩ | ⟨rfl, rfl⟩ | ⟨rfl, rfl⟩ <;> kernel_rfl
 unfold K55 K55.gen
 rw [bs_data, hh]
 simp only [oelim_some, ine_self, cond_false]
 rw [hb]
 simp only [oelim_some, ine_self, cond_false]
 rw [show K107 (msgA ty ctl dom fl co src sq lg st) 44 = _ from tlv_get_nil _ 44 hlen]
 rfl
structure AnnOk (ut p1 : Int) (q : api_Quality) (p2 gr sp og : Int) : Prop where
 u0 : -32768 ≤ ut
 u1 : ut ≤ 32767
 a0 : 0 ≤ p1
 a1 : p1 ≤ 255
 q0 : 0 ≤ q.fClass
 q1 : q.fClass ≤ 255
 q2 : 0 ≤ q.fAccuracy
 q3 : q.fAccuracy ≤ 255
 q4 : 0 ≤ q.fVariance
 q5 : q.fVariance ≤ 65535
 b0 : 0 ≤ p2
 b1 : p2 ≤ 255
 g0 : 0 ≤ gr
 g1 : gr < 18446744073709551616
 s0 : 0 ≤ sp
 s1 : sp ≤ 65535
 o0 : 0 ≤ og
 o1 : og ≤ 255
def msgT (ut p1 : Int) (q : api_Quality) (p2 gr sp og : Int) : List UInt8 := be ut 2 ++ be 0 1 ++ be p1 1 ++ be q.fClass 1 ++ be q.fAccuracy 1 ++ be q.fVariance 2 ++ be p2 1 ++ be (IntKind.i64.wrap gr) 8 ++ be sp 2 ++ be og 1
abbrev msgAn (dom fl co : Int) (src : api_PortID) (sq lg st ut p1 : Int) (q : api_Quality) (p2 gr sp og : Int) : api_Msg := api_Msg.mk 11 dom fl co src sq lg st api_PortID.z ut p1 q p2 gr sp og 0 0 0
theorem qmay_ok {q : api_Quality} (h0 : 0 ≤ q.fClass) (h1 : q.fClass ≤ 255) (h2 : 0 ≤ q.fAccuracy) (h3 : q.fAccuracy ≤ 255) (h4 : 0 ≤ q.fVariance) (h5 : q.fVariance ≤ 65535) : K92 q = some ((true, ()), (), ()) := by
 unfold K92 K92.gen
 simp only [ile_true h0, ile_true h1, ile_true h2, ile_true h3, ile_true h4, ile_true h5, cond_true, oelim_some]
theorem putQ (b : List UInt8) (q : api_Quality) (h : b.length < 900000) : K93 b q = some ((b ++ be q.fClass 1 ++ be q.fAccuracy 1 ++ be q.fVariance 2, ()), (), ()) := by
 unfold K93 K93.gen
 rw [put1 b _ (by omega)]
 simp only [oelim_some]
 rw [put1 _ _ (by rw [List.length_append, be_length]; omega)]
 simp only [oelim_some]
 rw [put2 _ _ (by simp only [List.length_append, be_length]; omega)]
 rfl
theorem qualN {L : List UInt8} {at_1 : Int} {q : api_Quality} (h0 : 0 ≤ at_1) (h2 : at_1 + 4 ≤ (L.length : Int)) (hb : L.length < 1000000) (a0 : 0 ≤ q.fClass) (a1 : q.fClass ≤ 255) (a2 : 0 ≤ q.fAccuracy) (a3 : q.fAccuracy ≤ 255) (a4 : 0 ≤ q.fVariance) (a5 : q.fVariance ≤ 65535)
  (e1 : (L.take (at_1 + 1).toNat).drop at_1.toNat = be q.fClass 1) (e2 : (L.take (at_1 + 1 + 1).toNat).drop (at_1 + 1).toNat = be q.fAccuracy 1) (e3 : (L.take (at_1 + 2 + 2).toNat).drop (at_1 + 2).toNat = be q.fVariance 2) : K91 L at_1 = some ((q, (true, ())), (), ()) := by
 unfold K91 K91.gen
 have e : isub .i64 (ofN L.length) at_1 = (L.length : Int) - at_1 := isub_of (a := (L.length : Int)) (by omega)
 have f1 : iadd .i64 at_1 1 = at_1 + 1 := iadd_of (by omega)
 have f2 : iadd .i64 at_1 2 = at_1 + 2 := iadd_of (by omega)
 rw [ilt_false (show ¬ at_1 < 0 by omega), ilt_false (show ¬ ((L.length : Nat) : Int) < at_1 by omega), e, ilt_false (show ¬ (L.length : Int) - at_1 < 4 by omega)]
 simp only [cond_false, oelim_some]
 rw [getN 1 h0 (by omega) (by omega) (by omega) (by omega) hb e1, f1, getN 1 (by omega) (by omega) (by omega) (by omega) (by omega) hb e2, f2, getN 2 (by omega) (by omega) (by omega) (by omega) (by omega) hb e3]
 simp only [oelim_some]
 rw [show q.fClass % 256 ^ 1 = q.fClass by omega, show q.fAccuracy % 256 ^ 1 = q.fAccuracy by omega, show q.fVariance % 256 ^ 2 = q.fVariance by omega]
def msgN (dom fl co : Int) (src : api_PortID) (sq lg st ut p1 : Int) (q : api_Quality) (p2 gr sp og : Int) : List UInt8 := msgH 11 5 64 dom fl co src.fClock src.fPort sq lg ++ (msgS st ++ msgT ut p1 q p2 gr sp og)
theorem body_get_N {L : List UInt8} {dom fl co sq lg st ut p1 p2 gr sp og : Int} {src : api_PortID} {q : api_Quality} (hlen : L.length = 64) (g34 : K98 L 34 = some ((st, (true, ())), (), ())) (g44 : K77 L 44 2 = some ((ut, (true, ())), (), ()))
  (g47 : K73 L 47 1 = some ((p1, (true, ())), (), ())) (g48 : K91 L 48 = some ((q, (true, ())), (), ())) (g52 : K73 L 52 1 = some ((p2, (true, ())), (), ())) (g53 : K74 L 53 = some ((gr, (true, ())), (), ()))
  (g61 : K73 L 61 2 = some ((sp, (true, ())), (), ())) (g63 : K73 L 63 1 = some ((og, (true, ())), (), ())) :
  K1 (msg0 11 dom fl co src sq lg 0 api_PortID.z) L 34 = some ((msgAn dom fl co src sq lg st ut p1 q p2 gr sp og, (64, (0, ()))), (), ()) := by
  unfold K1 K1.gen
  rw [g34, hlen]
  simp only [oelim_some, cond_false, cond_true, Bool.not_true, show K2 11 = some ((30, ()), (), ()) by kernel_rfl, show K6 11 = some ((true, ()), (), ()) by kernel_rfl, show K7 11 = some ((false, ()), (), ()) by kernel_rfl, show iadd IntKind.i64 34 10 = 44 from rfl, g44, show ieq 11 11 = true from rfl, show ieq 30 0 = false from rfl, show iadd IntKind.i64 44 3 = 47 from rfl, show iadd IntKind.i64 44 4 = 48 from rfl, show iadd IntKind.i64 44 8 = 52 from rfl, show iadd IntKind.i64 44 9 = 53 from rfl, show iadd IntKind.i64 44 17 = 61 from rfl, show iadd IntKind.i64 44 19 = 63 from rfl, g47, g48, g52, g53, g61, g63]
  kernel_rfl
theorem put_N {dom fl co sq lg st ut p1 p2 gr sp og : Int} {src : api_PortID} {q : api_Quality} (ha : AnnOk ut p1 q p2 gr sp og) (h : HdOk dom fl co src sq lg) (ht : 0 ≤ st) (ht2 : st ≤ 4000000000000000) :
  K56 (msgAn dom fl co src sq lg st ut p1 q p2 gr sp og) [] = some ((bs (msgN dom fl co src sq lg st ut p1 q p2 gr sp og), (true, ())), (), ()) := by
 have hk : K59 11 = some ((true, ()), (), ()) := by kernel_rfl
 have hc : K61 11 = some ((5, ()), (), ()) := by kernel_rfl
 have hst : K6 11 = some ((true, ()), (), ()) := by kernel_rfl
 have htg : K7 11 = some ((false, ()), (), ()) := by kernel_rfl
 have n2 : ieq 11 2 = false := by rfl
 have n11 : ieq 11 11 = true := by rfl
 have n13 : ieq 11 13 = false := by rfl
 have hown : K5 (msgAn dom fl co src sq lg st ut p1 q p2 gr sp og) = some ((msgAn dom fl co src sq lg st ut p1 q p2 gr sp og, ()), (), ()) := by
  kernel_rfl
 have hq : K92 q = some ((true, ()), (), ()) := qmay_ok ha.q0 ha.q1 ha.q2 ha.q3 ha.q4 ha.q5
 have hchk : K0 (msgAn dom fl co src sq lg st ut p1 q p2 gr sp og) = some ((true, ()), (), ()) := by
  unfold K0 K0.gen
  rw [hcheck_ok hk h, hown, may_stamp ht ht2, imay_ok (p := api_PortID.z) (by decide) (by decide), hq]
  simp only [oelim_some, ieq_self, cond_true, bin_ok ha.u0 ha.u1, bin_ok ha.a0 ha.a1, bin_ok ha.b0 ha.b1, bin_ok ha.o0 ha.o1, bin_ok ha.s0 ha.s1, bin_ok (show (0 : Int) ≤ 0 by decide) (show (0 : Int) ≤ 255 by decide), bin_ok (show (0 : Int) ≤ 0 by decide) (show (0 : Int) ≤ 65535 by decide), bin_ok (show (0 : Int) ≤ 0 by decide) (show (0 : Int) ≤ 15 by decide)]
 have hb : K3 (lnil UInt8) (msgAn dom fl co src sq lg st ut p1 q p2 gr sp og) = some ((msgS st ++ msgT ut p1 q p2 gr sp og, (true, ())), (), ()) := by
  unfold K3 K3.gen
  rw [hchk, hst]
  simp only [oelim_some, Bool.not_true, cond_false, cond_true, htg, n2, n11, n13]
  rw [putS _ ht ht2 (by simp)]
  simp only [oelim_some, cond_false, cond_true, htg, n2, n11]
  rw [put2 _ _ (by simp [be_length])]
  simp only [oelim_some]
  rw [put1 _ _ (by simp [be_length])]
  simp only [oelim_some]
  rw [put1 _ _ (by simp [be_length])]
  simp only [oelim_some]
  rw [putQ _ _ (by simp [be_length])]
  simp only [oelim_some]
  rw [put1 _ _ (by simp [be_length])]
  unfold K76 K76.gen
  simp only [oelim_some]
  rw [put8 _ _ (by simp [be_length])]
  simp only [oelim_some]
  rw [put2 _ _ (by simp [be_length])]
  simp only [oelim_some]
  rw [put1 _ _ (by simp [be_length])]
  kernel_rfl
 unfold K56 K56.gen
 rw [hb]
 simp only [oelim_some, Bool.not_true, cond_false]
 rw [tlv_put_nil]
 simp only [oelim_some, Bool.not_true, cond_false]
 rw [show iadd .i64 34 (ofN (msgS st ++ msgT ut p1 q p2 gr sp og).length) = 64 by kernel_rfl, header_put (len := 64) hk hc h (by decide) (by decide)]
 simp only [oelim_some, Bool.not_true, cond_false]
 rw [show Nat.ble ((bs (msgH 11 5 64 dom fl co src.fClock src.fPort sq lg)).size + (bs (msgS st ++ msgT ut p1 q p2 gr sp og)).size) 9223372036854775807 = true by rw [bs_size, bs_size]; kernel_rfl]
 simp only [cond_true]
 show some ((bs _ ++ bs _, _), _) = _
 rw [bs_append]
 rfl
theorem get_N {dom fl co sq lg st ut p1 p2 gr sp og : Int} {src : api_PortID} {q : api_Quality} (ha : AnnOk ut p1 q p2 gr sp og) (h : HdOk dom fl co src sq lg) (ht : 0 ≤ st) (ht2 : st ≤ 4000000000000000) :
  K55 (bs (msgN dom fl co src sq lg st ut p1 q p2 gr sp og)) = some ((msgAn dom fl co src sq lg st ut p1 q p2 gr sp og, ([], (0, ()))), (), ()) := by
 have hlen : (msgN dom fl co src sq lg st ut p1 q p2 gr sp og).length = 64 := by kernel_rfl
 have g2 : K73 (msgN dom fl co src sq lg st ut p1 q p2 gr sp og) 2 2 = some ((64, (true, ())), (), ()) := getN (v := 64) 2 (by decide) (by decide) (by decide) (by decide) (by omega) (by omega) (by kernel_rfl)
 have g6 : K73 (msgN dom fl co src sq lg st ut p1 q p2 gr sp og) 6 2 = some ((fl, (true, ())), (), ()) := by
  rw [getN (v := fl) 2 (by decide) (by decide) (by decide) (by decide) (by omega) (by omega) (by kernel_rfl)]
  rw [show fl % 256 ^ 2 = fl by have := h.f0; have := h.f1; omega]
 have g8 : K77 (msgN dom fl co src sq lg st ut p1 q p2 gr sp og) 8 8 = some ((co, (true, ())), (), ()) := by
  rw [sgnN (v := co) 8 (by decide) (by decide) (by decide) (by decide) (by omega) (by omega) (by kernel_rfl), sgn8]
  rw [show IntKind.i64.wrap (co % 256 ^ 8) = co by have := h.c0; have := h.c1; rw [iwrap]; omega]
 have g20 : K64 (msgN dom fl co src sq lg st ut p1 q p2 gr sp og) 20 = some ((src, (true, ())), (), ()) := identN (by decide) (by omega) (by omega) h.k0 h.k1 h.p0 h.p1 (by kernel_rfl) (by kernel_rfl)
 have g30 : K73 (msgN dom fl co src sq lg st ut p1 q p2 gr sp og) 30 2 = some ((sq, (true, ())), (), ()) := by
  rw [getN (v := sq) 2 (by decide) (by decide) (by decide) (by decide) (by omega) (by omega) (by kernel_rfl)]
  rw [show sq % 256 ^ 2 = sq by have := h.s0; have := h.s1; omega]
 have g33 : K77 (msgN dom fl co src sq lg st ut p1 q p2 gr sp og) 33 1 = some ((lg, (true, ())), (), ()) := by
  rw [sgnN (v := lg) 1 (by decide) (by decide) (by decide) (by decide) (by omega) (by omega) (by kernel_rfl)]
  rw [show sgn (lg % 256 ^ 1) 1 = lg from sgn1 lg h.l0 h.l1]
 have g34 : K98 (msgN dom fl co src sq lg st ut p1 q p2 gr sp og) 34 = some ((st, (true, ())), (), ()) := stampN (by decide) (by omega) (by omega) ht ht2 (by kernel_rfl) (by kernel_rfl)
 have hty0 : IntKind.i64.wrap (ofN (UInt8.toNat (List.getD (msgN dom fl co src sq lg st ut p1 q p2 gr sp og) (Int.toNat 0) (0 : D UC.u8)))) = 11 := by
  kernel_rfl
 have hd4 : IntKind.i64.wrap (ofN (UInt8.toNat (List.getD (msgN dom fl co src sq lg st ut p1 q p2 gr sp og) (Int.toNat 4) (0 : D UC.u8)))) = dom := by
  have : List.getD (msgN dom fl co src sq lg st ut p1 q p2 gr sp og) (Int.toNat 4) (0 : D UC.u8) = byteI (ishr .i64 dom (8 * ((0 : Nat) : Int))) := by kernel_rfl
  rw [this, show ofN (byteI (ishr .i64 dom (8 * ((0 : Nat) : Int)))).toNat = ((byteI (ishr .i64 dom (8 * ((0 : Nat) : Int)))).toNat : Int) from rfl, byteI_toNat, shr8 dom 0 (by decide)]
  have := h.d0; have := h.d1
  rw [iwrap]; omega
 have g44 : K77 (msgN dom fl co src sq lg st ut p1 q p2 gr sp og) 44 2 = some ((ut, (true, ())), (), ()) := by
  rw [sgnN (v := ut) 2 (by decide) (by decide) (by decide) (by decide) (by omega) (by omega) (by kernel_rfl)]
  rw [show sgn (ut % 256 ^ 2) 2 = ut from sgn2 ut ha.u0 ha.u1]
 have g47 : K73 (msgN dom fl co src sq lg st ut p1 q p2 gr sp og) 47 1 = some ((p1, (true, ())), (), ()) := by
  rw [getN (v := p1) 1 (by decide) (by decide) (by decide) (by decide) (by omega) (by omega) (by kernel_rfl)]
  rw [show p1 % 256 ^ 1 = p1 by have := ha.a0; have := ha.a1; omega]
 have g48 : K91 (msgN dom fl co src sq lg st ut p1 q p2 gr sp og) 48 = some ((q, (true, ())), (), ()) := qualN (by decide) (by omega) (by omega) ha.q0 ha.q1 ha.q2 ha.q3 ha.q4 ha.q5 (by kernel_rfl) (by kernel_rfl) (by kernel_rfl)
 have g52 : K73 (msgN dom fl co src sq lg st ut p1 q p2 gr sp og) 52 1 = some ((p2, (true, ())), (), ()) := by
  rw [getN (v := p2) 1 (by decide) (by decide) (by decide) (by decide) (by omega) (by omega) (by kernel_rfl)]
  rw [show p2 % 256 ^ 1 = p2 by have := ha.b0; have := ha.b1; omega]
 have g53 : K74 (msgN dom fl co src sq lg st ut p1 q p2 gr sp og) 53 = some ((gr, (true, ())), (), ()) := idN (by decide) (by omega) (by omega) ha.g0 ha.g1 (by kernel_rfl)
 have g61 : K73 (msgN dom fl co src sq lg st ut p1 q p2 gr sp og) 61 2 = some ((sp, (true, ())), (), ()) := by
  rw [getN (v := sp) 2 (by decide) (by decide) (by decide) (by decide) (by omega) (by omega) (by kernel_rfl)]
  rw [show sp % 256 ^ 2 = sp by have := ha.s0; have := ha.s1; omega]
 have g63 : K73 (msgN dom fl co src sq lg st ut p1 q p2 gr sp og) 63 1 = some ((og, (true, ())), (), ()) := by
  rw [getN (v := og) 1 (by decide) (by decide) (by decide) (by decide) (by omega) (by omega) (by kernel_rfl)]
  rw [show og % 256 ^ 1 = og by have := ha.o0; have := ha.o1; omega]
 have hk : K59 11 = some ((true, ()), (), ()) := by kernel_rfl
 have hh : K58 (msgN dom fl co src sq lg st ut p1 q p2 gr sp og) = some ((msg0 11 dom fl co src sq lg 0 api_PortID.z, (64, (0, ()))), (), ()) := by
  unfold K58 K58.gen
  rw [g2, g6, g8, g20, g30, g33, hty0, hd4, hk, hlen]
  kernel_rfl
 have hb := body_get_N hlen g34 g44 g47 g48 g52 g53 g61 g63 (dom := dom) (fl := fl) (co := co) (src := src) (sq := sq) (lg := lg)
 unfold K55 K55.gen
 rw [bs_data, hh]
 simp only [oelim_some, ine_self, cond_false]
 rw [hb]
 simp only [oelim_some, ine_self, cond_false]
 rw [show K107 (msgN dom fl co src sq lg st ut p1 q p2 gr sp og) 64 = _ from tlv_get_nil _ 64 hlen]
 rfl
theorem place_spec (v n : Int) (hn : 0 < n) (hn2 : n ≤ 4611686018427387904) : K67 v n = some ((v % n, ()), (), ()) := by
 have h1 : ine n 0 = true := ine_true (by omega)
 have h2 := Int.emod_nonneg v (Int.ne_of_gt hn)
 have h3 := Int.emod_lt_of_pos v hn
 obtain ⟨h4, h5⟩ := tmod_place v n hn
 unfold K67 K67.gen
 rw [h1]
 simp only [cond_true, oelim_some]
 by_cases hc : v.tmod n < 0
 ·have e : iadd .i64 (irem v n) n = v % n := by
   have := h4 hc
   rw [iadd_of] <;> simp only [irem] <;> omega
  rw [show ilt (irem v n) 0 = true from ilt_true hc, e]; simp only [cond_true, oelim_some]
 ·rw [show ilt (irem v n) 0 = false from ilt_false hc, show irem v n = v % n from h5 hc]; simp only [cond_false, oelim_some]
theorem out_ok {n : Int} {m : api_Msg} {want : Bool} {K : clock_Clock} {b : ByteArray} (hp : K56 m [] = some ((b, (true, ())), (), ())) (ho : K.fouts.length < 1000) :
  K17 n m [] want K = some ((), (K.set_fouts (K.fouts ++ [api_Out.mk 1 n 0 want m.fType m.fSeq b]), ()), ()) := by
 unfold K17 K17.gen
 rw [hp]
 simp only [oelim_some, cond_true]
 rw [show room (K.fouts.length + (api_Out.mk 1 n 0 want m.fType m.fSeq b :: lnil api_Out).length) 64 = true from room_true (by show (K.fouts.length + 1) * 64 ≤ _; omega)]
 rfl
theorem now_ok {t : Int} (h0 : 0 ≤ t) (h1 : t ≤ 4000000000000000) : opMinMax true 0 (opMinMax false t 4000000000000000) = t := by
 simp only [opMinMax, cond_true, cond_false, imin, imax]
 split <;> split <;> omega
theorem fset_same {α : Type} (f : Nat → α) (i : Nat) (x : α) : fset f i x i = x := by simp [fset]
theorem path_nil {K : clock_Clock} {g12 : Nat × (Nat → List (api_PortID × List (Int)))} (h : K.fconf.fTrace = false) : K18 K g12 = some (([], ()), (), ()) := by
 unfold K18 K18.gen
 rw [h]; rfl
theorem i_6_6 : ieq 6 6 = true := rfl
theorem ticks_3 : K101 (-3) = some ((1, ()), (), ()) := by kernel_rfl
theorem start_1 (t : timer_Timer) : K103 1 t = some ((), (timer_Timer.mk 1, ()), ()) := by kernel_rfl
theorem tick_1 : K105 (timer_Timer.mk 1) = some ((true, ()), (timer_Timer.mk 0, ()), ()) := by kernel_rfl
noncomputable def spoken (K : clock_Clock) (i : Nat) (n : Int) (ka ks : Int) (bA bS : ByteArray) : clock_Clock :=
  { K with fports := fset (fset (fset (fset (fset (fset K.fports i { K.fports i with fannounce := timer_Timer.mk 0 }) i { K.fports i with fannounce := timer_Timer.mk 0, fannounces := iand .i64 (iadd .i64 (iand .i64 ka 65535) 1) 65535 }) i { K.fports i with fannounce := timer_Timer.mk 1, fannounces := iand .i64 (iadd .i64 (iand .i64 ka 65535) 1) 65535 }) i { K.fports i with fannounce := timer_Timer.mk 1, fannounces := iand .i64 (iadd .i64 (iand .i64 ka 65535) 1) 65535, fsync := timer_Timer.mk 0 }) i { K.fports i with fannounce := timer_Timer.mk 1, fannounces := iand .i64 (iadd .i64 (iand .i64 ka 65535) 1) 65535, fsync := timer_Timer.mk 0, fsyncs := iand .i64 (iadd .i64 (iand .i64 ks 65535) 1) 65535 }) i { K.fports i with fannounce := timer_Timer.mk 1, fannounces := iand .i64 (iadd .i64 (iand .i64 ka 65535) 1) 65535, fsync := timer_Timer.mk 1, fsyncs := iand .i64 (iadd .i64 (iand .i64 ks 65535) 1) 65535 }
           fouts := (K.fouts ++ [api_Out.mk 1 n 0 false 11 ka bA]) ++ [api_Out.mk 1 n 0 (!K.fconf.fOneStep) 0 ks bS] }
theorem speak_master {K : clock_Clock} {g7 : Nat × (Nat → delay_Exchange)} {g8 : Nat × (Nat → peer_Exchange)} {g12 : Nat × (Nat → List (api_PortID × List (Int)))} {n now : Int} {i : Nat} {bA bS : ByteArray} {ka ks : Int}
  (hs : K22 n K = some ((i, ()), (), ())) (h6 : (K.fports i).fstate = 6) (ha : (K.fports i).fannounce = timer_Timer.mk 1) (hy : (K.fports i).fsync = timer_Timer.mk 1)
  (hp : K.fconf.fPeer = false) (ht : K.fconf.fTrace = false) (hla : K.fconf.fLogAnn = -3) (hls : K.fconf.fLogSync = -3) (hka : (K.fports i).fannounces = ka) (hks : (K.fports i).fsyncs = ks) (ho : K.fouts.length < 500)
  (hA : K56 (msgAn K.fconf.fDomain K.fparent.fTimes.fFlags 0 (api_PortID.mk K.fconf.fClock n) ka (-3) 0 K.fparent.fTimes.fUtc K.fparent.fPriority1 K.fparent.fQuality K.fparent.fPriority2 K.fparent.fGrand K.fparent.fSteps K.fparent.fTimes.fOrigin) [] = some ((bA, (true, ())), (), ()))
  (hS : K56 (msg0 0 K.fconf.fDomain (bif K.fconf.fOneStep then 0 else 512) 0 (api_PortID.mk K.fconf.fClock n) ks (-3) (bif K.fconf.fOneStep then now else 0) api_PortID.z) [] = some ((bS, (true, ())), (), ())) :
  K23 n now K g7 g8 g12 = some ((), (spoken K i n ka ks bA bS, g7, g8, g12, ()), ()) := by
 unfold K23 K23.gen
 rw [hs]
 simp only [oelim_some, h6, i_6_6, cond_true, ha]
 rw [show K105 (timer_Timer.mk 1) = some ((true, ()), (timer_Timer.mk 0, ()), ()) by kernel_rfl]
 simp only [oelim_some, cond_true, fset_same]
 unfold K112 K112.gen
 simp only [oelim_some]
 rw [path_nil (by exact ht)]
 simp only [oelim_some, hla, hka]
 rw [out_ok hA (by show K.fouts.length < 1000; omega)]
 simp only [oelim_some, fset_same]
 unfold K96 K96.gen K10 K10.gen
 simp only [oelim_some, hla, hls, ticks_3, fset_same, h6, i_6_6, cond_true, hka, hy, start_1, tick_1]
 unfold K20 K20.gen
 simp only [oelim_some, hla, hls, hks, h6]
 cases hos : K.fconf.fOneStep with
 | true =>
  simp only [hos, cond_true] at hS
  simp only [oelim_some, hos, cond_true, Bool.not_true]
  rw [out_ok hS (by show (K.fouts ++ [_]).length < 1000; simp; omega)]
  simp only [oelim_some, hla, hls, ticks_3, fset_same, h6, start_1, hp, cond_false, hks]
  rw [show K87 6 = some ((false, ()), (), ()) by kernel_rfl]
  simp only [oelim_some, cond_false]
  unfold spoken
  rw [hos]
  rfl
 | false =>
  simp only [hos, cond_false] at hS
  simp only [oelim_some, hos, cond_false, Bool.not_false]
  rw [out_ok hS (by show (K.fouts ++ [_]).length < 1000; simp; omega)]
  simp only [oelim_some, hla, hls, ticks_3, fset_same, h6, start_1, hp, cond_false, hks]
  rw [show K87 6 = some ((false, ()), (), ()) by kernel_rfl]
  simp only [oelim_some, cond_false]
  unfold spoken
  rw [hos]
  rfl
abbrev Gs := (Nat × (Nat → foreign_Table)) × (Nat × (Nat → delay_Exchange)) × (Nat × (Nat → peer_Exchange)) × (Nat × (Nat → median_Filter)) × (Nat × (Nat → seq_Match)) × (Nat × (Nat → List (api_PortID × List (Int)))) × Unit
theorem tick_of {now : Int} {K K1 K2 K3 : clock_Clock} {g e f o : Gs} {u1 : Unit}
  (h0 : K24.F0 ((now, 1, ()), K.set_fticks (opMinMax false (iadd .i64 K.fticks 1) 1099511627776), g) = some ((now, ()), K1, e))
  (h1 : K10 K1 = some ((1, ()), (), ()))
  (h2 : K14 K1 e.1 e.2.1 e.2.2.2.1 e.2.2.2.2.1 = some (u1, (K2, f.1, f.2.1, f.2.2.2.1, f.2.2.2.2.1, ()), ()))
  (h3 : K24.F1 ((now, 1, ()), K2, f.1, f.2.1, e.2.2.1, f.2.2.2.1, f.2.2.2.2.1, e.2.2.2.2.2.1, ()) = some ((), K3, o)) :
  K24 now K g.1 g.2.1 g.2.2.1 g.2.2.2.1 g.2.2.2.2.1 g.2.2.2.2.2.1 = some ((), (K3, o.1, o.2.1, o.2.2.1, o.2.2.2.1, o.2.2.2.2.1, o.2.2.2.2.2.1, ()), ()) := by
 unfold K24 K24.gen
 rw [show K24.F0 ((now, 1, ()), K.set_fticks (opMinMax false (iadd .i64 K.fticks 1) 1099511627776), g.1, g.2.1, g.2.2.1, g.2.2.2.1, g.2.2.2.2.1, g.2.2.2.2.2.1, ()) = _ from h0]
 simp only [oelim_some, h1, show ine 1 0 = true from rfl, cond_true]
 have hr : irem K1.fticks 1 = 0 := by unfold irem; rw [Int.tmod_one]
 rw [hr]
 simp only [ieq_self, cond_true]
 rw [h2]
 simp only [oelim_some]
 rw [h3]
 rfl
noncomputable def spk (bA bS : Nat → ByteArray) : Nat → clock_Clock → clock_Clock
 | 0, K => K
 | j + 1, K => spoken (spk bA bS j K) j ((j + 1 : Nat) : Int) (K.fports j).fannounces (K.fports j).fsyncs (bA j) (bS j)
theorem fset_other {α : Type} (f : Nat → α) (i j : Nat) (x : α) (h : j ≠ i) : fset f i x j = f j := by simp [fset, h]
theorem spk_facts (bA bS : Nat → ByteArray) (K : clock_Clock) : ∀ j, (spk bA bS j K).fconf = K.fconf ∧ (spk bA bS j K).fparent = K.fparent ∧ (spk bA bS j K).fouts.length = K.fouts.length + 2 * j ∧ ∀ i, j ≤ i → (spk bA bS j K).fports i = K.fports i
 | 0 => ⟨rfl, rfl, rfl, fun _ _ => rfl⟩
 | j + 1 => by
  obtain ⟨h1, h2, h3, h4⟩ := spk_facts bA bS K j
  refine ⟨h1, h2, ?_, fun i hi => ?_⟩
  ·unfold spk spoken
   simp [h3]; omega
  ·unfold spk spoken
   have : i ≠ j := by omega
   simp only [fset_other _ _ _ _ this]
   exact h4 i (by omega)
structure Leads (K : clock_Clock) (p : Nat) : Prop where
 p1 : p ≤ 8
 ports : K.fconf.fPorts = (p : Int)
 peer : K.fconf.fPeer = false
 trace : K.fconf.fTrace = false
 la : K.fconf.fLogAnn = -3
 ls : K.fconf.fLogSync = -3
 st : ∀ i, i < p → (K.fports i).fstate = 6 ∧ (K.fports i).fannounce = timer_Timer.mk 1 ∧ (K.fports i).fsync = timer_Timer.mk 1
 outs : K.fouts = []
abbrev annOf (K : clock_Clock) (i : Nat) : api_Msg := msgAn K.fconf.fDomain K.fparent.fTimes.fFlags 0 (api_PortID.mk K.fconf.fClock ((i + 1 : Nat) : Int)) (K.fports i).fannounces (-3) 0 K.fparent.fTimes.fUtc K.fparent.fPriority1 K.fparent.fQuality K.fparent.fPriority2 K.fparent.fGrand K.fparent.fSteps K.fparent.fTimes.fOrigin
abbrev synOf (K : clock_Clock) (i : Nat) (now : Int) : api_Msg := msg0 0 K.fconf.fDomain (bif K.fconf.fOneStep then 0 else 512) 0 (api_PortID.mk K.fconf.fClock ((i + 1 : Nat) : Int)) (K.fports i).fsyncs (-3) (bif K.fconf.fOneStep then now else 0) api_PortID.z
theorem speak_all {K : clock_Clock} {p : Nat} {now : Int} {g : Gs} {bA bS : Nat → ByteArray} (hK : Leads K p) (hA : ∀ i, i < p → K56 (annOf K i) [] = some ((bA i, (true, ())), (), ())) (hS : ∀ i, i < p → K56 (synOf K i now) [] = some ((bS i, (true, ())), (), ())) :
  K24.F1 ((now, 1, ()), K, g) = some ((), spk bA bS p K, g) := by
 have hp := hK.p1
 unfold K24.F1
 refine loop_to (step := K24.step1 _ _ _ _ _) (fun j => ((now, ((j + 1 : Nat) : Int), ()), spk bA bS j K, g)) p _ (by omega) (fun j hj => ?_) ?_
 ·obtain ⟨h1, h2, h3, h4⟩ := spk_facts bA bS K j
  unfold K24.step1
  simp only []
  rw [show (spk bA bS j K).fconf.fPorts = (p : Int) by rw [h1]; exact hK.ports, ile_true (show ((j + 1 : Nat) : Int) ≤ (p : Int) by omega)]
  simp only [cond_true]
  have hj' := hK.st j hj
  rw [← h4 j (Nat.le_refl _)] at hj'
  rw [speak_master (K := spk bA bS j K) (i := j) (bA := bA j) (bS := bS j) (ka := (K.fports j).fannounces) (ks := (K.fports j).fsyncs) ?_ hj'.1 hj'.2.1 hj'.2.2 (by rw [h1]; exact hK.peer) (by rw [h1]; exact hK.trace) (by rw [h1]; exact hK.la) (by rw [h1]; exact hK.ls) (by rw [h4 j (Nat.le_refl _)]) (by rw [h4 j (Nat.le_refl _)]) (by rw [h3, hK.outs]; simp; omega) (by rw [h1, h2]; exact hA j hj) (by rw [h1]; exact hS j hj)]
  ·simp only [oelim_some]
   rw [iinc (show j + 1 < 4611686018427387904 by omega)]
   rfl
  ·unfold K22 K22.gen
   have : isub .i64 ((j + 1 : Nat) : Int) 1 = (j : Int) := by rw [isub_of (by omega)]; omega
   rw [this, show inR (j : Int) 8 = true by rw [inR_nat]; simp; omega]
   rfl
 ·obtain ⟨h1, h2, h3, h4⟩ := spk_facts bA bS K p
  unfold K24.step1
  simp only []
  rw [show (spk bA bS p K).fconf.fPorts = (p : Int) by rw [h1]; exact hK.ports, ile_false (show ¬ ((p + 1 : Nat) : Int) ≤ (p : Int) by omega)]
  rfl
theorem F0_step (now n : Int) (x : clock_Clock × Gs) : K24.step0 K22 K13 K10 K14 K23 ((now, n, ()), x) =
  match K24.step0 K22 K13 K10 K14 K23 ((0, n, ()), x) with
  | some (.inl a) => some (.inl ((now, a.1.2.1, ()), a.2))
  | some (.inr b) => some (.inr ((now, ()), b.2))
  | none => none := by
 unfold K24.step0
 simp only []
 cases ile n x.1.fconf.fPorts with
 | false => rfl
 | true =>
  simp only [cond_true]
  cases K22 n x.1 with
  | none => rfl
  | some r =>
   simp only [oelim_some]
   cases K13 r.1.1 x.1 x.2.1 x.2.2.2.2.2.2.1 with
   | none => rfl
   | some q => rfl
theorem F0_fix (now : Int) : ∀ (N : Nat) (n : Int) (x : clock_Clock × Gs), loopFix N (K24.step0 K22 K13 K10 K14 K23) ((now, n, ()), x) =
  (loopFix N (K24.step0 K22 K13 K10 K14 K23) ((0, n, ()), x)).map fun b => ((now, ()), b.2)
 | 0, n, x => rfl
 | N + 1, n, x => by
  unfold loopFix
  rw [F0_step now n x]
  cases K24.step0 K22 K13 K10 K14 K23 ((0, n, ()), x) with
  | none => rfl
  | some r =>
   cases r with
   | inr b => rfl
   | inl a =>
    have h := F0_fix a.1.1 N a.1.2.1 a.2
    have h' : loopFix N (K24.step0 K22 K13 K10 K14 K23) a = _ := h
    show loopFix N _ ((now, a.1.2.1, ()), a.2) = Option.map _ (loopFix N _ a)
    rw [h', F0_fix now N a.1.2.1 a.2]
    cases loopFix N (K24.step0 K22 K13 K10 K14 K23) ((0, a.1.2.1, ()), a.2) with
    | none => rfl
    | some b => rfl
theorem F0_now (now : Int) (x : clock_Clock × Gs) (y : clock_Clock × Gs) (z : Int × Unit) (h : K24.F0 ((0, 1, ()), x) = some (z, y)) : K24.F0 ((now, 1, ()), x) = some ((now, ()), y) := by
 unfold K24.F0 at h ⊢
 rw [F0_fix, h]; rfl
abbrev R1 := clock_Clock × Gs
noncomputable def mid (s : R1) : Option (clock_Clock × Gs × clock_Clock × Gs) :=
 match K24.F0 ((0, 1, ()), s.1.set_fticks (opMinMax false (iadd .i64 s.1.fticks 1) 1099511627776), s.2) with
 | some (_, K1, e) =>
  match K14 K1 e.1 e.2.1 e.2.2.2.1 e.2.2.2.2.1 with
  | some (_, (K2, f), _) => some (K1, e, K2, (f.1, f.2.1, e.2.2.1, f.2.2.1, f.2.2.2.1, e.2.2.2.2.2.1, ()))
  | none => none
 | none => none
noncomputable def hdB (m : api_Msg) : Bool := decide (0 ≤ m.fDomain ∧ m.fDomain ≤ 255 ∧ 0 ≤ m.fFlags ∧ m.fFlags ≤ 65535 ∧ -9223372036854775808 ≤ m.fCorr ∧ m.fCorr < 9223372036854775808 ∧ 0 ≤ m.fSource.fClock ∧ m.fSource.fClock < 18446744073709551616 ∧ 0 ≤ m.fSource.fPort ∧ m.fSource.fPort ≤ 65535 ∧ 0 ≤ m.fSeq ∧ m.fSeq ≤ 65535 ∧ -128 ≤ m.fLog ∧ m.fLog ≤ 127)
noncomputable def anB (m : api_Msg) : Bool := decide (-32768 ≤ m.fUtc ∧ m.fUtc ≤ 32767 ∧ 0 ≤ m.fPriority1 ∧ m.fPriority1 ≤ 255 ∧ 0 ≤ m.fQuality.fClass ∧ m.fQuality.fClass ≤ 255 ∧ 0 ≤ m.fQuality.fAccuracy ∧ m.fQuality.fAccuracy ≤ 255 ∧ 0 ≤ m.fQuality.fVariance ∧ m.fQuality.fVariance ≤ 65535 ∧ 0 ≤ m.fPriority2 ∧ m.fPriority2 ≤ 255 ∧ 0 ≤ m.fGrand ∧ m.fGrand < 18446744073709551616 ∧ 0 ≤ m.fSteps ∧ m.fSteps ≤ 65535 ∧ 0 ≤ m.fOrigin ∧ m.fOrigin ≤ 255)
noncomputable def leadsB (p : Nat) (K : clock_Clock) : Bool :=
 decide (p ≤ 8) && decide (K.fconf.fPorts = (p : Int)) && !K.fconf.fPeer && !K.fconf.fTrace && decide (K.fconf.fLogAnn = -3) && decide (K.fconf.fLogSync = -3) && K.fouts.isEmpty && (List.range p).all fun i => decide ((K.fports i).fstate = 6) && decide ((K.fports i).fannounce.fleft = 1) && decide ((K.fports i).fsync.fleft = 1) && hdB (annOf K i) && anB (annOf K i) && hdB (synOf K i 0)
noncomputable def okAt (p : Nat) (s : R1) : Bool :=
 match mid s with
 | some (K1, _, K2, _) => decide (K1.fconf.fLogAnn = -3) && leadsB p K2 && s.1.fouts.isEmpty
 | none => false
noncomputable def nxt (p : Nat) (s : R1) : R1 :=
 match mid s with
 | some (_, _, K2, f) => ((spk (fun _ => ByteArray.empty) (fun _ => ByteArray.empty) p K2).set_fouts [], f)
 | none => s
theorem hd_of {m : api_Msg} (h : hdB m = true) : HdOk m.fDomain m.fFlags m.fCorr m.fSource m.fSeq m.fLog := by
 have h := of_decide_eq_true h
 exact ⟨h.1, h.2.1, h.2.2.1, h.2.2.2.1, h.2.2.2.2.1, h.2.2.2.2.2.1, h.2.2.2.2.2.2.1, h.2.2.2.2.2.2.2.1, h.2.2.2.2.2.2.2.2.1, h.2.2.2.2.2.2.2.2.2.1, h.2.2.2.2.2.2.2.2.2.2.1, h.2.2.2.2.2.2.2.2.2.2.2.1, h.2.2.2.2.2.2.2.2.2.2.2.2.1, h.2.2.2.2.2.2.2.2.2.2.2.2.2⟩
theorem an_of {m : api_Msg} (h : anB m = true) : AnnOk m.fUtc m.fPriority1 m.fQuality m.fPriority2 m.fGrand m.fSteps m.fOrigin := by
 have h := of_decide_eq_true h
 exact ⟨h.1, h.2.1, h.2.2.1, h.2.2.2.1, h.2.2.2.2.1, h.2.2.2.2.2.1, h.2.2.2.2.2.2.1, h.2.2.2.2.2.2.2.1, h.2.2.2.2.2.2.2.2.1, h.2.2.2.2.2.2.2.2.2.1, h.2.2.2.2.2.2.2.2.2.2.1, h.2.2.2.2.2.2.2.2.2.2.2.1, h.2.2.2.2.2.2.2.2.2.2.2.2.1, h.2.2.2.2.2.2.2.2.2.2.2.2.2.1, h.2.2.2.2.2.2.2.2.2.2.2.2.2.2.1, h.2.2.2.2.2.2.2.2.2.2.2.2.2.2.2.1, h.2.2.2.2.2.2.2.2.2.2.2.2.2.2.2.2.1, h.2.2.2.2.2.2.2.2.2.2.2.2.2.2.2.2.2⟩
theorem leads_of {p : Nat} {K : clock_Clock} (h : leadsB p K = true) : Leads K p ∧ ∀ i, i < p → hdB (annOf K i) = true ∧ anB (annOf K i) = true ∧ hdB (synOf K i 0) = true := by
 unfold leadsB at h
 simp only [Bool.and_eq_true, decide_eq_true_eq, Bool.not_eq_true', List.all_eq_true, List.mem_range, List.isEmpty_iff] at h
 obtain ⟨⟨⟨⟨⟨⟨⟨h1, h2⟩, h3⟩, h4⟩, h5⟩, h6⟩, h7⟩, h8⟩ := h
 refine ⟨⟨h1, h2, h3, h4, h5, h6, fun i hi => ?_, h7⟩, fun i hi => ?_⟩
 ·obtain ⟨⟨⟨⟨⟨a1, a2⟩, a3⟩, a4⟩, a5⟩, a6⟩ := h8 i hi
  refine ⟨a1, ?_, ?_⟩
  ·revert a2
   generalize (K.fports i).fannounce = x
   intro a2
   cases x; cases a2; rfl
  ·revert a3
   generalize (K.fports i).fsync = x
   intro a3
   cases x; cases a3; rfl
 ·obtain ⟨⟨⟨⟨⟨a1, a2⟩, a3⟩, a4⟩, a5⟩, a6⟩ := h8 i hi
  exact ⟨a4, a5, a6⟩
noncomputable def said (K : clock_Clock) (bA bS : Nat → ByteArray) : Nat → List api_Out
 | 0 => []
 | j + 1 => said K bA bS j ++ [api_Out.mk 1 ((j + 1 : Nat) : Int) 0 false 11 (K.fports j).fannounces (bA j)] ++ [api_Out.mk 1 ((j + 1 : Nat) : Int) 0 (!K.fconf.fOneStep) 0 (K.fports j).fsyncs (bS j)]
theorem spk_outs (bA bS : Nat → ByteArray) (K : clock_Clock) : ∀ j, (spk bA bS j K).fouts = K.fouts ++ said K bA bS j
 | 0 => by simp [spk, said]
 | j + 1 => by
  obtain ⟨h1, _⟩ := spk_facts bA bS K j
  unfold spk spoken said
  simp only [spk_outs bA bS K j, h1, List.append_assoc]
theorem spoken_quiet (K : clock_Clock) (i : Nat) (n ka ks : Int) (bA bS : ByteArray) : (spoken K i n ka ks bA bS).set_fouts [] = (spoken (K.set_fouts []) i n ka ks ByteArray.empty ByteArray.empty).set_fouts [] := rfl
theorem spk_quiet (bA bS bA' bS' : Nat → ByteArray) (K : clock_Clock) : ∀ j, (spk bA bS j K).set_fouts [] = (spk bA' bS' j K).set_fouts []
 | 0 => rfl
 | j + 1 => by
  unfold spk
  rw [spoken_quiet, spk_quiet bA bS bA' bS' K j, ← spoken_quiet]
noncomputable def annB (K : clock_Clock) (i : Nat) : ByteArray := bs (msgN K.fconf.fDomain K.fparent.fTimes.fFlags 0 (api_PortID.mk K.fconf.fClock ((i + 1 : Nat) : Int)) (K.fports i).fannounces (-3) 0 K.fparent.fTimes.fUtc K.fparent.fPriority1 K.fparent.fQuality K.fparent.fPriority2 K.fparent.fGrand K.fparent.fSteps K.fparent.fTimes.fOrigin)
noncomputable def synB (K : clock_Clock) (now : Int) (i : Nat) : ByteArray := bs (msgA 0 0 K.fconf.fDomain (bif K.fconf.fOneStep then 0 else 512) 0 (api_PortID.mk K.fconf.fClock ((i + 1 : Nat) : Int)) (K.fports i).fsyncs (-3) (bif K.fconf.fOneStep then now else 0))
theorem step_chain {p : Nat} {s : R1} {K : clock_Clock} {g5 : Nat × (Nat → servo_Servo)} {t a0 a1 a2 : Int} {b : ByteArray} {c : api_Conf} (hK : K.set_fouts [] = s.1) (hok : okAt p s = true) (h0 : 0 ≤ t) (h1 : t ≤ 4000000000000000) :
  ∃ (K2 K3 : clock_Clock), Leads K2 p ∧ (∀ i, i < p → HdOk K2.fconf.fDomain K2.fparent.fTimes.fFlags 0 (api_PortID.mk K2.fconf.fClock ((i + 1 : Nat) : Int)) (K2.fports i).fannounces (-3) ∧ AnnOk K2.fparent.fTimes.fUtc K2.fparent.fPriority1 K2.fparent.fQuality K2.fparent.fPriority2 K2.fparent.fGrand K2.fparent.fSteps K2.fparent.fTimes.fOrigin ∧ HdOk K2.fconf.fDomain (bif K2.fconf.fOneStep then 0 else 512) 0 (api_PortID.mk K2.fconf.fClock ((i + 1 : Nat) : Int)) (K2.fports i).fsyncs (-3)) ∧
   (∃ K1 e f, mid s = some (K1, e, K2, f)) ∧
   K9 (api_Event.mk 1 a0 t a1 a2 b c) K g5 s.2.1 s.2.2.1 s.2.2.2.1 s.2.2.2.2.1 s.2.2.2.2.2.1 s.2.2.2.2.2.2.1 = some ((said K2 (annB K2) (synB K2 t) p, ()), (K3, g5, (nxt p s).2.1, (nxt p s).2.2.1, (nxt p s).2.2.2.1, (nxt p s).2.2.2.2.1, (nxt p s).2.2.2.2.2.1, (nxt p s).2.2.2.2.2.2.1, ()), ()) ∧
   K3.set_fouts [] = (nxt p s).1 := by
 unfold okAt at hok
 cases hm : mid s with
 | none => rw [hm] at hok; cases hok
 | some r =>
  obtain ⟨K1, e, K2, f⟩ := r
  rw [hm] at hok
  simp only [Bool.and_eq_true, decide_eq_true_eq] at hok
  obtain ⟨⟨hla, hl⟩, hso⟩ := hok
  obtain ⟨hL, hR⟩ := leads_of hl
  have hx : nxt p s = ((spk (fun _ => ByteArray.empty) (fun _ => ByteArray.empty) p K2).set_fouts [], f) := by unfold nxt; rw [hm]
  refine ⟨K2, spk (annB K2) (synB K2 t) p K2, hL, fun i hi => ⟨hd_of (hR i hi).1, an_of (hR i hi).2.1, hd_of (hR i hi).2.2⟩, ⟨K1, e, f, rfl⟩, ?_, by rw [hx]; exact spk_quiet _ _ _ _ _ _⟩
  have hmid := hm
  unfold mid at hm
  split at hm
  ·rename_i z K1' e' h00
   split at hm
   ·rename_i u K2' f' w hd
    cases hm
    have hF1 := speak_all (now := t) (g := (f'.1, f'.2.1, e.2.2.1, f'.2.2.1, f'.2.2.2.1, e.2.2.2.2.2.1, ())) (bA := annB K2) (bS := synB K2 t) hL (fun i hi => put_N (an_of (hR i hi).2.1) (hd_of (hR i hi).1) (by decide) (by decide))
     (fun i hi => put_A (.inl ⟨rfl, rfl⟩) (hd_of (hR i hi).2.2) (by cases K2.fconf.fOneStep <;> simp [h0]) (by cases K2.fconf.fOneStep <;> simp [h1]))
    have ht := tick_of (now := t) (K := s.1) (K1 := K1) (K2 := K2) (g := s.2) (e := e) (f := (f'.1, f'.2.1, e.2.2.1, f'.2.2.1, f'.2.2.2.1, e.2.2.2.2.2.1, ())) (F0_now t _ _ z h00)
     (by unfold K10 K10.gen; rw [hla]; rfl) hd hF1
    unfold K9 K9.gen
    simp only [show ieq 1 1 = true from rfl, cond_true, now_ok h0 h1]
    rw [show clock_Clock.set_fouts K (lnil api_Out) = s.1 from hK]
    rw [ht]
    simp only [oelim_some, spk_outs, hL.outs, hx]
    rfl
   ·cases hm
  ·cases hm
theorem awake_true : K69.A = some () := by kernel_rfl
structure SentOk (K : clock_Clock) (one : Bool) : Prop where
 st : (K.fports 0).fstate = 6
 os : K.fconf.fOneStep = one
 ports : K.fconf.fPorts = 1
 clock : K.fconf.fClock = 50
 dom : K.fconf.fDomain = 0
 ls : K.fconf.fLogSync = -3
noncomputable def sentB (K : clock_Clock) (one : Bool) : Bool := decide ((K.fports 0).fstate = 6) && decide (K.fconf.fOneStep = one) && decide (K.fconf.fPorts = 1) && decide (K.fconf.fClock = 50) && decide (K.fconf.fDomain = 0) && decide (K.fconf.fLogSync = -3)
theorem sent_of {K : clock_Clock} {one : Bool} (h : sentB K one = true) : SentOk K one := by
 unfold sentB at h
 simp only [Bool.and_eq_true, decide_eq_true_eq] at h
 exact ⟨h.1.1.1.1.1, h.1.1.1.1.2, h.1.1.1.2, h.1.1.2, h.1.2, h.2⟩
noncomputable def fupOuts (one : Bool) (sq t : Int) : List api_Out := bif one then [] else [api_Out.mk 1 1 0 false 8 sq (bs (msgA 8 2 0 0 0 (api_PortID.mk 50 1) sq (-3) t))]
theorem hd_fup {sq : Int} (h0 : 0 ≤ sq) (h1 : sq ≤ 65535) : HdOk 0 0 0 (api_PortID.mk 50 1) sq (-3) :=
 ⟨by decide, by decide, by decide, by decide, by decide, by decide, by decide, by decide, by decide, by decide, h0, h1, by decide, by decide⟩
theorem side_1 (K : clock_Clock) : K22 1 K = some ((0, ()), (), ()) := by kernel_rfl
theorem step_sent {K : clock_Clock} {one : Bool} {g5 : Nat × (Nat → servo_Servo)} {g6 : Nat × (Nat → foreign_Table)} {g7 : Nat × (Nat → delay_Exchange)} {g8 : Nat × (Nat → peer_Exchange)} {g9 : Nat × (Nat → median_Filter)} {g10 : Nat × (Nat → seq_Match)} {g12 : Nat × (Nat → List (api_PortID × List (Int)))}
  {t sq : Int} {b : ByteArray} {c : api_Conf} (hK : SentOk (K.set_fouts []) one) (h0 : 0 ≤ t) (h1 : t ≤ 4000000000000000) (s0 : 0 ≤ sq) (s1 : sq ≤ 65535) :
  K9 (api_Event.mk 3 1 t 0 sq b c) K g5 g6 g7 g8 g9 g10 g12 = some ((fupOuts one sq t, ()), (K.set_fouts (fupOuts one sq t), g5, g6, g7, g8, g9, g10, g12, ()), ()) := by
 unfold K9 K9.gen
 simp only [show ieq 3 1 = false from rfl, show ieq 3 2 = false from rfl, show ieq 3 3 = true from rfl, cond_false, cond_true, now_ok h0 h1]
 have hn : K16 1 (K.set_fouts (lnil api_Out)) = some ((false, ()), (), ()) := by
  unfold K16 K16.gen
  rw [show (clock_Clock.set_fouts K (lnil api_Out)).fconf.fPorts = 1 from hK.ports]
  rfl
 rw [hn]
 simp only [oelim_some, Bool.not_false, cond_true]
 unfold K21 K21.gen
 rw [side_1]
 have f1 : (K.fports 0).fstate = 6 := hK.st
 have f2 : K.fconf.fOneStep = one := hK.os
 have f3 : K.fconf.fClock = 50 := hK.clock
 have f4 : K.fconf.fDomain = 0 := hK.dom
 have f5 : K.fconf.fLogSync = -3 := hK.ls
 simp only [oelim_some, ieq_self, cond_true, f1, f2, f4, f5]
 cases one with
 | true => rfl
 | false =>
  unfold K20 K20.gen
  simp only [oelim_some, Bool.not_false, cond_true, f3]
  rw [out_ok (n := 1) (want := false) (K := K.set_fouts (lnil api_Out)) (m := api_Msg.mk 8 0 0 0 (api_PortID.mk 50 1) sq (-3) t (api_PortID.mk 0 0) 0 0 (api_Quality.mk 0 0 0) 0 0 0 0 0 0 0) (put_A (.inr (.inr ⟨rfl, rfl⟩)) (hd_fup s0 s1) h0 h1) (show 0 < 1000 by decide)]
  rfl
theorem fix_inl {α β : Type} {s : α → Option (α ⊕ β)} {a a' : α} (n : Nat) (h : s a = some (.inl a')) : loopFix (n + 1) s a = loopFix n s a' := by rw [loopFix, h]
theorem fix_inr {α β : Type} {s : α → Option (α ⊕ β)} {a : α} {b : β} (n : Nat) (h : s a = some (.inr b)) : loopFix (n + 1) s a = some b := by rw [loopFix, h]
noncomputable def okS (one : Bool) (s : R1) : Bool :=
 okAt 1 s && (match mid s with | some (_, _, K2, _) => decide (K2.fconf.fOneStep = one) && decide (K2.fconf.fClock = 50) && decide (K2.fconf.fDomain = 0) | none => false) && sentB (nxt 1 s).1 one
noncomputable def chainS (one : Bool) : Nat → R1 → Bool
 | 0, _ => true
 | k + 1, s => okS one s && chainS one k (nxt 1 s)
noncomputable def itS : Nat → R1 → R1
 | 0, s => s
 | k + 1, s => nxt 1 (itS k s)
theorem itS_nxt : ∀ (k : Nat) (s : R1), itS k (nxt 1 s) = nxt 1 (itS k s)
 | 0, _ => rfl
 | k + 1, s => by rw [itS, itS_nxt k s, itS]
theorem chainS_at : ∀ (n : Nat) {one : Bool} {s : R1}, chainS one n s = true → ∀ i, i < n → okS one (itS i s) = true
 | 0, _, _, _, i, hi => absurd hi (Nat.not_lt_zero _)
 | n + 1, one, s, h, i, hi => by
  unfold chainS at h
  simp only [Bool.and_eq_true] at h
  cases i with
  | zero => exact h.1
  | succ i =>
   have := chainS_at n h.2 i (by omega)
   rw [itS_nxt] at this
   exact this
theorem inner_ok {one : Bool} {n t i : Int} {Gn : Nat} {Gf : Nat → clock_Clock} {g5 : Nat × (Nat → servo_Servo)} {g : Gs} {K2 K3 : clock_Clock} (hL : Leads K2 1) (hos : K2.fconf.fOneStep = one) (hc : K2.fconf.fClock = 50) (hd : K2.fconf.fDomain = 0)
  (hR : HdOk K2.fconf.fDomain K2.fparent.fTimes.fFlags 0 (api_PortID.mk K2.fconf.fClock ((0 + 1 : Nat) : Int)) (K2.fports 0).fannounces (-3) ∧ AnnOk K2.fparent.fTimes.fUtc K2.fparent.fPriority1 K2.fparent.fQuality K2.fparent.fPriority2 K2.fparent.fGrand K2.fparent.fSteps K2.fparent.fTimes.fOrigin ∧ HdOk K2.fconf.fDomain (bif K2.fconf.fOneStep then 0 else 512) 0 (api_PortID.mk K2.fconf.fClock ((0 + 1 : Nat) : Int)) (K2.fports 0).fsyncs (-3))
  (hG : Gf 0 = K3) (hK3 : SentOk (K3.set_fouts []) one) (t0 : 0 ≤ t) (t1 : t ≤ 2000000000000000) (i0 : 0 ≤ i) (i1 : i ≤ 100) :
  K68.F1 ((one, n, some 0, t, i, said K2 (annB K2) (synB K2 (t + i)) 1, false, 0, ()), (Gn, Gf), g5, g.1, g.2.1, g.2.2.1, g.2.2.2.1, g.2.2.2.2.1, g.2.2.2.2.2.1, ()) =
   some (.inl ((one, n, some 0, t, i, true, ()), (Gn, fset Gf 0 (K3.set_fouts (fupOuts one (K2.fports 0).fsyncs (t + i + 7)))), g5, g.1, g.2.1, g.2.2.1, g.2.2.2.1, g.2.2.2.2.1, g.2.2.2.2.2.1, ())) := by
 have e1 : iadd .i64 t i = t + i := iadd_of (by omega)
 have e2 : iadd .i64 (t + i) 7 = t + i + 7 := iadd_of (by omega)
 have hA := get_N hR.2.1 hR.1 (by decide) (st := 0) (by decide)
 have hS := get_A (ty := 0) (ctl := 0) (st := bif K2.fconf.fOneStep then t + i else 0) (.inl ⟨rfl, rfl⟩) hR.2.2 (by cases K2.fconf.fOneStep <;> simp; omega) (by cases K2.fconf.fOneStep <;> simp; omega)
 unfold K68.F1
 show loopFix (1000001 + 1) _ _ = _
 have hs := hR.2.2
 rw [fix_inl 1000001 (a' := ((one, n, some 0, t, i, said K2 (annB K2) (synB K2 (t + i)) 1, false, 1, ()), (Gn, Gf), g5, g.1, g.2.1, g.2.2.1, g.2.2.2.1, g.2.2.2.2.1, g.2.2.2.2.2.1, ())) ?a1]
 case a1 =>
  unfold K68.step1
  simp only []
  rw [show ilt 0 (ofN (said K2 (annB K2) (synB K2 (t + i)) 1).length) = true from rfl, show inR 0 (said K2 (annB K2) (synB K2 (t + i)) 1).length = true from rfl]
  simp only [cond_true]
  rw [show ((said K2 (annB K2) (synB K2 (t + i)) 1).getD (Int.toNat 0) api_Out.zero).fBytes = annB K2 0 from rfl, show K55 (annB K2 0) = _ from hA]
  rfl
 rw [fix_inl 1000000 (a' := ((one, n, some 0, t, i, said K2 (annB K2) (synB K2 (t + i)) 1, true, 2, ()), (Gn, fset Gf 0 (K3.set_fouts (fupOuts one (K2.fports 0).fsyncs (t + i + 7)))), g5, g.1, g.2.1, g.2.2.1, g.2.2.2.1, g.2.2.2.2.1, g.2.2.2.2.2.1, ())) ?a2]
 case a2 =>
  unfold K68.step1
  simp only []
  rw [show ilt 1 (ofN (said K2 (annB K2) (synB K2 (t + i)) 1).length) = true from rfl, show inR 1 (said K2 (annB K2) (synB K2 (t + i)) 1).length = true from rfl]
  simp only [cond_true]
  rw [show ((said K2 (annB K2) (synB K2 (t + i)) 1).getD (Int.toNat 1) api_Out.zero).fBytes = synB K2 (t + i) 0 from rfl, show K55 (synB K2 (t + i) 0) = _ from hS]
  simp only [oelim_some, ine_self, cond_false]
  rw [show ((said K2 (annB K2) (synB K2 (t + i)) 1).getD (Int.toNat 1) api_Out.zero).fSeq = (K2.fports 0).fsyncs from rfl, e1, e2, hG, step_sent hK3 (by omega) (by omega) hs.s0 hs.s1]
  simp only [oelim_some]
  rw [show ((said K2 (annB K2) (synB K2 (t + i)) 1).getD (Int.toNat 1) api_Out.zero).fWant = !K2.fconf.fOneStep from rfl, hos]
  cases one with
  | true =>
   simp only [cond_true, ine_self, cond_false, Bool.not_true, fupOuts, show ine (ofN ([] : List api_Out).length) 0 = false from rfl, oelim_some]
   rfl
  | false =>
   have hF := get_A (ty := 8) (ctl := 2) (st := t + i + 7) (.inr (.inr ⟨rfl, rfl⟩)) (hd_fup hs.s0 hs.s1) (by omega) (by omega)
   simp only [cond_true, ine_self, cond_false, Bool.not_false, Bool.not_true, fupOuts, oelim_some]
   rw [hc]
   simp only [show ine (ofN ([api_Out.mk 1 1 0 false 8 (K2.fports 0).fsyncs (bs (msgA 8 2 0 0 0 (api_PortID.mk 50 1) (K2.fports 0).fsyncs (-3) (t + i + 7)))] : List api_Out).length) 1 = false from rfl, show inR 0 ([api_Out.mk 1 1 0 false 8 (K2.fports 0).fsyncs (bs (msgA 8 2 0 0 0 (api_PortID.mk 50 1) (K2.fports 0).fsyncs (-3) (t + i + 7)))] : List api_Out).length = true from rfl, cond_false, cond_true, oelim_some]
   rw [show (([api_Out.mk 1 1 0 false 8 (K2.fports 0).fsyncs (bs (msgA 8 2 0 0 0 (api_PortID.mk 50 1) (K2.fports 0).fsyncs (-3) (t + i + 7)))] : List api_Out).getD (Int.toNat 0) api_Out.zero).fBytes = bs (msgA 8 2 0 0 0 (api_PortID.mk 50 1) (K2.fports 0).fsyncs (-3) (t + i + 7)) from rfl, hF]
   simp only [oelim_some, ine_self, cond_false, ieq_self, cond_true]
   rw [show ieq 1 ((0 + 1 : Nat) : Int) = true from rfl]
   rfl
 rw [fix_inr 999999]
 unfold K68.step1
 simp only []
 rw [show ilt 2 (ofN (said K2 (annB K2) (synB K2 (t + i)) 1).length) = false from rfl]
 rfl
abbrev cfS (one : Bool) : api_Conf := api_Conf.set_fOneStep (api_Conf.set_fLogSync (api_Conf.set_fLogAnn (api_Conf.mk 50 1 0 128 128 (api_Quality.mk 248 254 65535) false 1 0 0 3 false false 5 700 300 20000 (api_Times.mk 37 8 160) false) (-3)) (-3)) one
noncomputable abbrev nwS (one : Bool) := K25 (cfS one) (0, fun _ => U.dft .t_clock_Clock) (0, fun _ => U.dft .t_servo_Servo) (0, fun _ => U.dft .t_foreign_Table) (0, fun _ => U.dft .t_delay_Exchange) (0, fun _ => U.dft .t_peer_Exchange) (0, fun _ => U.dft .t_median_Filter) (0, fun _ => U.dft .t_seq_Match) (0, fun _ => [])
theorem nwS_some (one : Bool) : (nwS one).isSome = true := by cases one <;> kernel_rfl
noncomputable def nS (one : Bool) := ((nwS one).get (nwS_some one)).2.1
theorem nwS_eq (one : Bool) : nwS one = some ((some 0, (0, ())), nS one, ()) := by cases one <;> kernel_rfl
noncomputable abbrev tkS (one : Bool) := K70 6 ((nS one).1.2 0) (nS one).2.1 (nS one).2.2.1 (nS one).2.2.2.1 (nS one).2.2.2.2.1 (nS one).2.2.2.2.2.1 (nS one).2.2.2.2.2.2.1 (nS one).2.2.2.2.2.2.2.1
theorem tkS_some (one : Bool) : (tkS one).isSome = true := by cases one <;> kernel_rfl
noncomputable def tS (one : Bool) := ((tkS one).get (tkS_some one))
theorem tkS_eq (one : Bool) : tkS one = some (tS one) := (Option.some_get _).symm
noncomputable def cS (one : Bool) : R1 := ((tS one).2.1.1.set_fouts [], (tS one).2.1.2.2.1, (tS one).2.1.2.2.2.1, (tS one).2.1.2.2.2.2.1, (tS one).2.1.2.2.2.2.2.1, (tS one).2.1.2.2.2.2.2.2.1, (tS one).2.1.2.2.2.2.2.2.2.1, ())
theorem chS_f : chainS false 10 (cS false) = true := by kernel_rfl
theorem chS_t : chainS true 10 (cS true) = true := by kernel_rfl
theorem rounds_ok (one : Bool) (n t : Int) (m : Nat) (hm : n % 10 = (m : Int)) (m1 : m < 10) (t0 : 0 ≤ t) (t1 : t ≤ 2000000000000) (s0 : R1) (hs0 : ∀ i, i < 10 → okS one (itS i s0) = true) (G0 : Nat × (Nat → clock_Clock)) (g5 : Nat × (Nat → servo_Servo)) (hG0 : (G0.2 0).set_fouts [] = s0.1) :
 ∃ y, K68.F0 ((one, n, some 0, t, 0, ()), G0, g5, s0.2.1, s0.2.2.1, s0.2.2.2.1, s0.2.2.2.2.1, s0.2.2.2.2.2.1, s0.2.2.2.2.2.2.1, ()) = some (.inl ((), y)) := by
 obtain ⟨b, hb, y, hy⟩ := loopFix_rule (step := K68.step0 K41 K25 K70 K67 K9 K55 K69.A K68.F1)
  (Inv := fun a => ∃ (i : Nat) (G : Nat × (Nat → clock_Clock)), i ≤ m + 1 ∧ a = ((one, n, some 0, t, (i : Int), ()), G, g5, (itS i s0).2.1, (itS i s0).2.2.1, (itS i s0).2.2.2.1, (itS i s0).2.2.2.2.1, (itS i s0).2.2.2.2.2.1, (itS i s0).2.2.2.2.2.2.1, ()) ∧ (G.2 0).set_fouts [] = (itS i s0).1)
  (Post := fun b => ∃ y, b = .inl ((), y)) (m := fun a => (m + 1 - a.1.2.2.2.2.1).toNat) (by
   rintro a ⟨i, G, hi, rfl, hG⟩
   by_cases him : i < m + 1
   ·have hok := hs0 i (by omega)
    unfold okS at hok
    simp only [Bool.and_eq_true] at hok
    obtain ⟨⟨hA, hM⟩, hS⟩ := hok
    obtain ⟨K2, K3, hL, hR, ⟨K1, e, f, hmid⟩, hstep, hq⟩ := step_chain (p := 1) (s := itS i s0) (K := G.2 0) (g5 := g5) (t := t + i) (a0 := 0) (a1 := 0) (a2 := 0) (b := ByteArray.mk (List.toArray (lnil UInt8))) (c := api_Conf.mk 0 0 0 0 0 (api_Quality.mk 0 0 0) false 0 0 0 0 false false 0 0 0 0 (api_Times.mk 0 0 0) false) hG hA (by omega) (by omega)
    rw [hmid] at hM
    simp only [Bool.and_eq_true, decide_eq_true_eq] at hM
    have hK3 : SentOk (K3.set_fouts []) one := by rw [hq]; exact sent_of hS
    refine .inl ⟨((one, n, some 0, t, ((i + 1 : Nat) : Int), ()), (G.1, fset (fset G.2 0 K3) 0 (K3.set_fouts (fupOuts one (K2.fports 0).fsyncs (t + i + 7)))), g5, (nxt 1 (itS i s0)).2.1, (nxt 1 (itS i s0)).2.2.1, (nxt 1 (itS i s0)).2.2.2.1, (nxt 1 (itS i s0)).2.2.2.2.1, (nxt 1 (itS i s0)).2.2.2.2.2.1, (nxt 1 (itS i s0)).2.2.2.2.2.2.1, ()), ?_, ⟨i + 1, _, by omega, rfl, ?_⟩, ?_⟩
    ·unfold K68.step0
     simp only []
     rw [place_spec n 10 (by decide) (by decide), hm]
     simp only [oelim_some]
     rw [show iadd .i64 1 (m : Int) = ((m + 1 : Nat) : Int) by rw [iadd_of (by omega)]; omega, ilt_true (show (i : Int) < ((m + 1 : Nat) : Int) by omega), show iadd .i64 t (i : Int) = t + i from iadd_of (by omega)]
     simp only [cond_true, oelim_some]
     rw [hstep]
     simp only [oelim_some]
     have hin := inner_ok (one := one) (n := n) (t := t) (i := (i : Int)) (Gn := G.1) (Gf := fset G.2 0 K3) (g5 := g5) (g := (nxt 1 (itS i s0)).2) hL hM.1.1 hM.1.2 hM.2 (hR 0 (by decide)) (fset_same _ _ _) hK3 t0 (by omega) (by omega) (by omega)
     rw [hin]
     simp only [oelim_some, selim, Bool.not_true, cond_false]
     rw [iinc (show i < 4611686018427387904 by omega)]
    ·show ((fset (fset G.2 0 K3) 0 (K3.set_fouts (fupOuts one (K2.fports 0).fsyncs (t + i + 7)))) 0).set_fouts [] = _
     rw [fset_same]
     exact hq
    ·simp only []
     omega
   ·have : i = m + 1 := by omega
    subst this
    refine .inr ⟨.inl ((), (G, g5, (itS (m + 1) s0).2.1, (itS (m + 1) s0).2.2.1, (itS (m + 1) s0).2.2.2.1, (itS (m + 1) s0).2.2.2.2.1, (itS (m + 1) s0).2.2.2.2.2.1, (itS (m + 1) s0).2.2.2.2.2.2.1, ())), ?_, ⟨_, rfl⟩⟩
    unfold K68.step0
    simp only []
    rw [place_spec n 10 (by decide) (by decide), hm]
    simp only [oelim_some]
    rw [show iadd .i64 1 (m : Int) = ((m + 1 : Nat) : Int) by rw [iadd_of (by omega)]; omega, ilt_false (show ¬ ((m + 1 : Nat) : Int) < ((m + 1 : Nat) : Int) by omega)]
    rfl) 1000000 ((one, n, some 0, t, 0, ()), G0, g5, s0.2.1, s0.2.2.1, s0.2.2.2.1, s0.2.2.2.2.1, s0.2.2.2.2.2.1, s0.2.2.2.2.2.2.1, ()) ⟨0, G0, by omega, rfl, hG0⟩ (by simp only []; omega)
 exact ⟨y, by unfold K68.F0; rw [hb, hy]⟩
abbrev NT := (Nat × (Nat → clock_Clock)) × (Nat × (Nat → servo_Servo)) × Gs
abbrev TT := (List api_Out × Unit) × (clock_Clock × (Nat × (Nat → servo_Servo)) × Gs) × Unit
abbrev sOf (T : TT) : R1 := (T.2.1.1.set_fouts [], T.2.1.2.2.1, T.2.1.2.2.2.1, T.2.1.2.2.2.2.1, T.2.1.2.2.2.2.2.1, T.2.1.2.2.2.2.2.2.1, T.2.1.2.2.2.2.2.2.2.1, ())
theorem stamps_end (one : Bool) (n at_2 : Int) (N : NT) (T : TT)
  (hN : K25 (cfS one) (0, fun _ => U.dft .t_clock_Clock) (0, fun _ => U.dft .t_servo_Servo) (0, fun _ => U.dft .t_foreign_Table) (0, fun _ => U.dft .t_delay_Exchange) (0, fun _ => U.dft .t_peer_Exchange) (0, fun _ => U.dft .t_median_Filter) (0, fun _ => U.dft .t_seq_Match) (0, fun _ => []) = some ((some 0, (0, ())), N, ()))
  (hT : K70 6 (N.1.2 0) N.2.1 N.2.2.1 N.2.2.2.1 N.2.2.2.2.1 N.2.2.2.2.2.1 N.2.2.2.2.2.2.1 N.2.2.2.2.2.2.2.1 = some T) (hC : ∀ i, i < 10 → okS one (itS i (sOf T)) = true) :
  ∃ y, K68 one n at_2 (0, fun _ => U.dft .t_clock_Clock) (0, fun _ => U.dft .t_servo_Servo) (0, fun _ => U.dft .t_foreign_Table) (0, fun _ => U.dft .t_delay_Exchange) (0, fun _ => U.dft .t_peer_Exchange) (0, fun _ => U.dft .t_median_Filter) (0, fun _ => U.dft .t_seq_Match) (0, fun _ => []) = some ((true, ()), y, ()) := by
 have t0 : 0 ≤ at_2 % 1099511627776 := by omega
 have t1 : at_2 % 1099511627776 ≤ 2000000000000 := by omega
 generalize ht : at_2 % 1099511627776 = t at t0 t1
 obtain ⟨m, hm⟩ : ∃ m : Nat, n % 10 = (m : Int) := ⟨(n % 10).toNat, by omega⟩
 obtain ⟨y, hy⟩ := rounds_ok one n t m hm (by omega) t0 t1 (sOf T) hC (N.1.1, fset N.1.2 0 T.2.1.1) T.2.1.2.1 (by show (fset N.1.2 0 T.2.1.1 0).set_fouts [] = _; rw [fset_same])
 unfold K68 K68.gen
 rw [show K41 50 = some ((api_Conf.mk 50 1 0 128 128 (api_Quality.mk 248 254 65535) false 1 0 0 3 false false 5 700 300 20000 (api_Times.mk 37 8 160) false, ()), (), ()) by kernel_rfl, awake_true]
 simp only [oelim_some]
 rw [hN]
 simp only [oelim_some, ine_self, cond_false]
 rw [hT, place_spec at_2 _ (by decide) (by decide), ht]
 simp only [oelim_some]
 rw [show K68.F0 ((one, n, some 0, t, 0, ()), (N.1.1, fset N.1.2 0 T.2.1.1), T.2.1.2) = _ from hy]
 simp only [oelim_some, selim]
 exact ⟨_, rfl⟩
theorem K68.law : ∀ (one : Bool) (n : Int) (at_2 : Int), True → (Lit.int .i64 n).wf = true → (Lit.int .i64 at_2).wf = true → ∃ y, K68 one n at_2 (0, fun _ => U.dft .t_clock_Clock) (0, fun _ => U.dft .t_servo_Servo) (0, fun _ => U.dft .t_foreign_Table) (0, fun _ => U.dft .t_delay_Exchange) (0, fun _ => U.dft .t_peer_Exchange) (0, fun _ => U.dft .t_median_Filter) (0, fun _ => U.dft .t_seq_Match) (0, fun _ => []) = some ((true, ()), y, ()) := by
 intro one n at_2 _ _ _
 cases one with
 | true => exact stamps_end true n at_2 (nS true) (tS true) (nwS_eq true) (tkS_eq true) (chainS_at 10 chS_t)
 | false => exact stamps_end false n at_2 (nS false) (tS false) (nwS_eq false) (tkS_eq false) (chainS_at 10 chS_f)
end Go.Proofs.YtgnabnhggaondaaGreat
