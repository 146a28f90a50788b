/- Typed forms of the functions that these statements reach, proved equal to what the model runs, and laws over them. -/
import Derived.Test.YtgnabnhggaondaaGreatS
import Derived.Test.YtgnabnhggaondaaGreatAr3
import Derived.KernelRfl
namespace Go.Proofs.YtgnabnhggaondaaGreat
open Go.Rf
set_option linter.unusedVariables false
set_option linter.unusedSimpArgs false
set_option maxRecDepth 100000
def byteI (e : Int) : UInt8 := UInt8.ofNat (IntKind.u8.wrap e).toNat
def be (v : Int) : Nat → List UInt8
 | 0 => []
 | k + 1 => byteI (ishr .i64 v (8 * (k : Int))) :: be v k
theorem be_length (v : Int) : ∀ k, (be v k).length = k
 | 0 => rfl
 | k + 1 => by simp [be, be_length v k]
theorem put_step (b : List UInt8) (v : Int) (k : Nat) (hk : k < 8) (hb : b.length < 140737488355328) :
  K75.step0 ((b, v, ((k + 1 : Nat) : Int), ()), ()) = some (.inl ((b ++ [byteI (ishr .i64 v (8 * (k : Int)))], v, (k : Int), ()), ())) := by
 have e1 : isub .i64 ((k + 1 : Nat) : Int) 1 = (k : Int) := by have := isub_of (a := ((k + 1 : Nat) : Int)) (b := 1) (by omega); omega
 have e2 : imul .i64 8 (k : Int) = 8 * (k : Int) := imul_of (by omega)
 unfold K75.step0
 simp only [e1, e2, ilt_true (show (0 : Int) < ((k + 1 : Nat) : Int) by omega), ile_true (show (0 : Int) ≤ 8 * (k : Int) by omega), cond_true]
 rw [room_true (by simp; omega)]
 rfl
theorem put_loop (v : Int) : ∀ (k : Nat) (b : List UInt8), k ≤ 8 → b.length + k < 140737488355328 → K75.F0 ((b, v, (k : Int), ()), ()) = some ((b ++ be v k, ()), ()) := by
 intro k b hk hb
 obtain ⟨r, h1, h2⟩ := loopFix_rule (step := K75.step0) (Inv := fun a => ∃ (i : Nat) (c : List UInt8), a = ((c, v, (i : Int), ()), ()) ∧ i ≤ k ∧ c ++ be v i = b ++ be v k)
  (Post := fun r => r = ((b ++ be v k, ()), ())) (m := fun a => a.1.2.2.1.toNat) (by
   rintro x ⟨i, c, rfl, hi, hc⟩
   cases i with
   | zero =>
    refine .inr ⟨_, ?_, rfl⟩
    unfold K75.step0
    simp only [ilt_false (show ¬ (0 : Int) < ((0 : Nat) : Int) by decide), cond_false]
    rw [← hc]; simp [be]
   | succ i =>
    have hcl : c.length + (i + 1) = b.length + k := by
     have := congrArg List.length hc
     simpa [be_length] using this
    refine .inl ⟨_, put_step c v i (by omega) (by omega), ⟨i, _, rfl, by omega, ?_⟩, by simp only [Int.toNat_natCast]; omega⟩
    rw [← hc]; simp [be]) (1000000 + b.length) ((b, v, (k : Int), ()), ()) ⟨k, b, rfl, Nat.le_refl _, rfl⟩ (by simp only [Int.toNat_natCast]; omega)
 subst h2
 exact h1
theorem put_spec (b : List UInt8) (v : Int) (k : Nat) (hk : k ≤ 8) (hb : b.length + k < 140737488355328) : K75 b v (k : Int) = some ((b ++ be v k, ()), ((), ((), ()))) := by
 have e0 : opMinMax true 0 (opMinMax false (k : Int) 8) = (k : Int) := by
  simp only [opMinMax, cond_true, cond_false, imin, imax]
  split <;> split <;> omega
 have e3 : (bif le3 (ofN (0 : Nat)) (ofN b.length) b.length then ieq (ofN b.length) (ofN b.length) else false) = true := by
  simp [le3, ile, ieq]
 have e4 : List.drop (ofN (0 : Nat)).toNat (List.take (ofN b.length).toNat b) = b := by simp
 unfold K75 K75.gen
 simp only [e0, e3, e4, cond_true]
 cases k with
 | zero => simp [ilt, be]
 | succ k =>
  have e1 : isub .i64 ((k + 1 : Nat) : Int) 1 = (k : Int) := by have := isub_of (a := ((k + 1 : Nat) : Int)) (b := 1) (by omega); omega
  have e2 : imul .i64 8 (k : Int) = 8 * (k : Int) := imul_of (by omega)
  simp only [e1, e2, ilt_true (show (0 : Int) < ((k + 1 : Nat) : Int) by omega), ile_true (show (0 : Int) ≤ 8 * (k : Int) by omega), cond_true]
  rw [room_true (by simp; omega)]
  have h := put_loop v k (b ++ [byteI (ishr .i64 v (8 * (k : Int)))]) (by omega) (by simp; omega)
  have h : K75.F0 ((b ++ UInt8.ofNat (IntKind.u8.wrap (ishr .i64 v (8 * (k : Int)))).toNat :: lnil UInt8, v, (k : Int), ()), ()) = _ := h
  rw [h]
  simp [oelim_some, be]
theorem wrap8 (e : Int) : IntKind.u8.wrap e = e % 256 := by
 simp only [IntKind.wrap, IntKind.signed, IntKind.bits, Bool.false_and, Bool.false_eq_true, if_false]; rfl
theorem wrap64 (e : Int) : IntKind.u64.wrap e = e % 18446744073709551616 := by
 simp only [IntKind.wrap, IntKind.signed, IntKind.bits, Bool.false_and, Bool.false_eq_true, if_false]; rfl
theorem emod_split (v m : Int) (hm : 0 < m) : v % (m * 256) = (v / m % 256) * m + v % m := by
 have h : v / (m * 256) = v / m / 256 := by rw [Int.ediv_ediv, if_neg (by omega)]; omega
 rw [Int.emod_def, Int.emod_def (v / m), Int.emod_def v m, h]
 generalize v / m = q
 generalize q / 256 = p
 grind
theorem or_shift (a b : Nat) (h : b < 256) : (a * 256) ||| b = a * 256 + b := by
 have := Nat.shiftLeft_add_eq_or_of_lt (i := 8) (b := b) h a
 rw [Nat.shiftLeft_eq] at this
 exact this.symm
theorem shr8 (v : Int) (i : Nat) (h : i < 8) : ishr .i64 v (8 * (i : Int)) = v / 256 ^ i := by
 have h8 : i = 0 ∨ i = 1 ∨ i = 2 ∨ i = 3 ∨ i = 4 ∨ i = 5 ∨ i = 6 ∨ i = 7 := by omega
 rcases h8 with rfl | rfl | rfl | rfl | rfl | rfl | rfl | rfl
 ·show v.fdiv (2 ^ 0) = _
  rw [Int.fdiv_eq_ediv_of_nonneg _ (by decide)]; rfl
 ·show v.fdiv (2 ^ 8) = _
  rw [Int.fdiv_eq_ediv_of_nonneg _ (by decide)]; rfl
 ·show v.fdiv (2 ^ 16) = _
  rw [Int.fdiv_eq_ediv_of_nonneg _ (by decide)]; rfl
 ·show v.fdiv (2 ^ 24) = _
  rw [Int.fdiv_eq_ediv_of_nonneg _ (by decide)]; rfl
 ·show v.fdiv (2 ^ 32) = _
  rw [Int.fdiv_eq_ediv_of_nonneg _ (by decide)]; rfl
 ·show v.fdiv (2 ^ 40) = _
  rw [Int.fdiv_eq_ediv_of_nonneg _ (by decide)]; rfl
 ·show v.fdiv (2 ^ 48) = _
  rw [Int.fdiv_eq_ediv_of_nonneg _ (by decide)]; rfl
 ·show v.fdiv (2 ^ 56) = _
  rw [Int.fdiv_eq_ediv_of_nonneg _ (by decide)]; rfl
theorem byteI_toNat (e : Int) : ((byteI e).toNat : Int) = e % 256 := by
 unfold byteI
 rw [wrap8, UInt8.toNat_ofNat']
 have h0 := Int.emod_nonneg e (show (256 : Int) ≠ 0 by decide)
 have h1 := Int.emod_lt_of_pos e (show (0 : Int) < 256 by decide)
 omega
def bvalI : Int → List UInt8 → Int
 | a, [] => a
 | a, x :: r => bvalI (a * 256 + (x.toNat : Int)) r
theorem bvalI_be : ∀ (k : Nat) (v a : Int), k ≤ 8 → bvalI a (be v k) = a * 256 ^ k + v % 256 ^ k
 | 0, v, a, _ => by simp [be, bvalI, Int.emod_one]
 | k + 1, v, a, h => by
  rw [be, bvalI, bvalI_be k v _ (by omega), byteI_toNat, shr8 v k (by omega), Int.pow_succ, emod_split v (256 ^ k) (Int.pow_pos (by decide))]
  generalize v / 256 ^ k % 256 = y
  generalize v % 256 ^ k = z
  generalize (256 : Int) ^ k = m
  grind
theorem bvalI_r : ∀ (L : List UInt8) (a : Int), 0 ≤ a → a * 256 ^ L.length ≤ bvalI a L ∧ bvalI a L < (a + 1) * 256 ^ L.length
 | [], a, h => by simp [bvalI]; omega
 | x :: r, a, h => by
  have hx : (x.toNat : Int) < 256 := by have := x.toNat_lt; omega
  have h0 : (0 : Int) ≤ (x.toNat : Int) := by omega
  obtain ⟨h1, h2⟩ := bvalI_r r (a * 256 + (x.toNat : Int)) (by omega)
  rw [bvalI, List.length_cons, Int.pow_succ]
  have hp : (0 : Int) < 256 ^ r.length := Int.pow_pos (by decide)
  generalize (256 : Int) ^ r.length = m at *
  generalize (x.toNat : Int) = y at *
  generalize bvalI (a * 256 + y) r = z at *
  have e1 : a * (m * 256) ≤ (a * 256 + y) * m := by
   have : (a * 256 + y) * m = a * (m * 256) + y * m := by grind
   have : 0 ≤ y * m := Int.mul_nonneg h0 (by omega)
   omega
  have e2 : (a * 256 + y + 1) * m ≤ (a + 1) * (m * 256) := by
   have : (a + 1) * (m * 256) - (a * 256 + y + 1) * m = (255 - y) * m := by grind
   have : 0 ≤ (255 - y) * m := Int.mul_nonneg (by omega) (by omega)
   omega
  omega
theorem read_step (v x : Int) (hv : 0 ≤ v) (hv2 : v < 72057594037927936) (hx : 0 ≤ x) (hx2 : x < 256) : ior .u64 (ishl .u64 v 8) (IntKind.u64.wrap x) = v * 256 + x := by
 have e1 : ishl .u64 v 8 = v * 256 := by
  show IntKind.u64.wrap (v * 2 ^ 8) = _
  rw [wrap64]; omega
 have e2 : IntKind.u64.wrap x = x := by rw [wrap64]; omega
 rw [e1, e2]
 unfold ior
 obtain ⟨a, rfl⟩ : ∃ a : Nat, v = (a : Int) := ⟨v.toNat, by omega⟩
 obtain ⟨b, rfl⟩ : ∃ b : Nat, x = (b : Int) := ⟨x.toNat, by omega⟩
 have f1 : (BitVec.ofInt 64 ((a : Int) * 256)).toNat = a * 256 := by rw [BitVec.toNat_ofInt]; omega
 have f2 : (BitVec.ofInt 64 (b : Int)).toNat = b := by rw [BitVec.toNat_ofInt]; omega
 have : (BitVec.ofInt IntKind.u64.bits ((a : Int) * 256) ||| BitVec.ofInt IntKind.u64.bits (b : Int)).toNat = a * 256 + b := by
  show (BitVec.ofInt 64 ((a : Int) * 256) ||| BitVec.ofInt 64 (b : Int)).toNat = _
  rw [BitVec.toNat_or, f1, f2, or_shift a b (by omega)]
 rw [this, wrap64]; omega
theorem bvalI_app : ∀ (L R : List UInt8) (a : Int), bvalI a (L ++ R) = bvalI (bvalI a L) R
 | [], _, _ => rfl
 | x :: L, R, a => by rw [List.cons_append, bvalI, bvalI, bvalI_app L R]
theorem read_spec (L : List UInt8) (h : L.length ≤ 8) : K79 L = some ((bvalI 0 L, ()), (), ()) := by
 unfold K79 K79.gen K79.F0
 simp only []
 have hl := loop_to (step := K79.step0) (fun i => ((bvalI 0 (L.take i), L, ofN L.length, (i : Int), ()), ())) (b := ((bvalI 0 L, ()), ())) L.length (1000000 + L.length) (by omega) (fun i hi => ?_) ?_
 ·have hl : loopFix (1000000 + L.length) K79.step0 ((0, L, ofN L.length, 0, ()), ()) = some ((bvalI 0 L, ()), ()) := hl
  rw [hl]; rfl
 ·unfold K79.step0
  have hr := bvalI_r (L.take i) 0 (by omega)
  have hlen : (L.take i).length = i := by rw [List.length_take]; omega
  have hp : (256 : Int) ^ i ≤ 256 ^ 7 := by exact_mod_cast Nat.pow_le_pow_right (show 0 < 256 by decide) (show i ≤ 7 by omega)
  rw [hlen] at hr
  have hx := (L[i]).toNat_lt
  have hg : L.getD i 0 = L[i] := getD_at hi
  simp only [ilt_nat, inR_nat, hi, decide_true, cond_true, Int.toNat_natCast, iinc (show i < 4611686018427387904 by omega)]
  have ht : L.take (i + 1) = L.take i ++ [L[i]] := by rw [List.take_add_one, List.getElem?_eq_getElem hi]; rfl
  rw [show List.getD L i (0 : D UC.u8) = L[i] from hg, read_step _ _ (by omega) (by omega) (show (0 : Int) ≤ ((L[i].toNat : Nat) : Int) by omega) (show ((L[i].toNat : Nat) : Int) < 256 by omega), ht, bvalI_app]
  rfl
 ·unfold K79.step0
  simp only [ilt_nat, Nat.lt_irrefl, decide_false, cond_false, List.take_length]
theorem none_ok (b : List UInt8) (at_1 n : Int) (h0 : 0 ≤ at_1) (h1 : 0 ≤ n) (h2 : at_1 + n ≤ (b.length : Int)) (hb : b.length < 1000000) : K78 b at_1 n = some ((false, ()), (), ()) := by
 unfold K78 K78.gen
 have e : isub .i64 (ofN b.length) at_1 = (b.length : Int) - at_1 := isub_of (a := (b.length : Int)) (by omega)
 rw [ilt_false (show ¬ n < 0 by omega), ilt_false (show ¬ at_1 < 0 by omega), ilt_false (show ¬ ((b.length : Nat) : Int) < at_1 by omega), e, ilt_false (show ¬ (b.length : Int) - at_1 < n by omega)]
 rfl
theorem le3_ok {a b : Int} {n : Nat} (h0 : 0 ≤ a) (h1 : a ≤ b) (h2 : b ≤ (n : Int)) : le3 a b n = true := by
 unfold le3; simp [ile, h0, h1, h2]
theorem get_spec (b : List UInt8) (at_1 n : Int) (h0 : 0 ≤ at_1) (h1 : 1 ≤ n) (h7 : n ≤ 7) (h2 : at_1 + n ≤ (b.length : Int)) (hb : b.length < 1000000) :
  K73 b at_1 n = some ((bvalI 0 ((b.take (at_1 + n).toNat).drop at_1.toNat), (true, ())), (), ()) := by
 unfold K73 K73.gen
 have e : iadd .i64 at_1 n = at_1 + n := iadd_of (by omega)
 have hl : ((b.take (at_1 + n).toNat).drop at_1.toNat).length = n.toNat := by rw [List.length_drop, List.length_take]; omega
 rw [ilt_false (show ¬ n < 1 by omega), ilt_false (show ¬ 7 < n by omega), none_ok b at_1 n h0 (by omega) h2 hb]
 simp only [cond_false, oelim_some]
 rw [e, le3_ok h0 (by omega) h2, read_spec _ (by omega)]
 simp only [cond_true, oelim_some]
 have hr := bvalI_r ((b.take (at_1 + n).toNat).drop at_1.toNat) 0 (by omega)
 have hp : (256 : Int) ^ n.toNat ≤ 256 ^ 7 := by exact_mod_cast Nat.pow_le_pow_right (show 0 < 256 by decide) (show n.toNat ≤ 7 by omega)
 rw [hl] at hr
 rw [show IntKind.i64.wrap (bvalI 0 ((b.take (at_1 + n).toNat).drop at_1.toNat)) = bvalI 0 ((b.take (at_1 + n).toNat).drop at_1.toNat) by rw [iwrap]; omega]
def sgn (v : Int) (n : Int) : Int := ishr .i64 (IntKind.i64.wrap (ishl .u64 v (64 - 8 * n))) (64 - 8 * n)
theorem signed_spec (b : List UInt8) (at_1 n : Int) (h0 : 0 ≤ at_1) (h1 : 1 ≤ n) (h7 : n ≤ 8) (h2 : at_1 + n ≤ (b.length : Int)) (hb : b.length < 1000000) :
  K77 b at_1 n = some ((sgn (bvalI 0 ((b.take (at_1 + n).toNat).drop at_1.toNat)) n, (true, ())), (), ()) := by
 unfold K77 K77.gen
 have e : iadd .i64 at_1 n = at_1 + n := iadd_of (by omega)
 have e1 : imul .i64 8 n = 8 * n := imul_of (by omega)
 have e2 : isub .i64 64 (8 * n) = 64 - 8 * n := isub_of (by omega)
 have hl : ((b.take (at_1 + n).toNat).drop at_1.toNat).length = n.toNat := by rw [List.length_drop, List.length_take]; omega
 rw [ilt_false (show ¬ n < 1 by omega), ilt_false (show ¬ 8 < n by omega), none_ok b at_1 n h0 (by omega) h2 hb]
 simp only [cond_false, oelim_some]
 rw [e, le3_ok h0 (by omega) h2, read_spec _ (by omega)]
 simp only [cond_true, oelim_some, e1, e2]
 rw [ile_true (show (0 : Int) ≤ 64 - 8 * n by omega)]
 rfl
theorem sgn8 (v : Int) : sgn v 8 = IntKind.i64.wrap v := by
 unfold sgn
 show (IntKind.i64.wrap (IntKind.u64.wrap (v * 2 ^ 0))).fdiv (2 ^ 0) = _
 rw [Int.fdiv_eq_ediv_of_nonneg _ (by decide), iwrap, iwrap, wrap64]
 omega
theorem sgn1 (v : Int) (h0 : -128 ≤ v) (h1 : v ≤ 127) : sgn (v % 256) 1 = v := by
 unfold sgn
 show (IntKind.i64.wrap (IntKind.u64.wrap (v % 256 * 2 ^ 56))).fdiv (2 ^ 56) = _
 rw [Int.fdiv_eq_ediv_of_nonneg _ (by decide), iwrap, wrap64]
 omega
theorem put1 (b : List UInt8) (v : Int) (h : b.length < 1000000) : K75 b v 1 = some ((b ++ be v 1, ()), ((), ((), ()))) := put_spec b v 1 (by omega) (by omega)
theorem put2 (b : List UInt8) (v : Int) (h : b.length < 1000000) : K75 b v 2 = some ((b ++ be v 2, ()), ((), ((), ()))) := put_spec b v 2 (by omega) (by omega)
theorem put4 (b : List UInt8) (v : Int) (h : b.length < 1000000) : K75 b v 4 = some ((b ++ be v 4, ()), ((), ((), ()))) := put_spec b v 4 (by omega) (by omega)
theorem put6 (b : List UInt8) (v : Int) (h : b.length < 1000000) : K75 b v 6 = some ((b ++ be v 6, ()), ((), ((), ()))) := put_spec b v 6 (by omega) (by omega)
theorem put8 (b : List UInt8) (v : Int) (h : b.length < 1000000) : K75 b v 8 = some ((b ++ be v 8, ()), ((), ((), ()))) := put_spec b v 8 (by omega) (by omega)
theorem getN {L : List UInt8} {at_1 n v : Int} (k : Nat) (h0 : 0 ≤ at_1) (h1 : 1 ≤ n) (h7 : n ≤ 7) (hk : n = (k : Int)) (h2 : at_1 + n ≤ (L.length : Int)) (hb : L.length < 1000000)
  (h : (L.take (at_1 + n).toNat).drop at_1.toNat = be v k) : K73 L at_1 n = some ((v % 256 ^ k, (true, ())), (), ()) := by
 rw [get_spec L at_1 n h0 h1 h7 h2 hb, h, bvalI_be k v 0 (by omega)]
 simp
theorem sgnN {L : List UInt8} {at_1 n v : Int} (k : Nat) (h0 : 0 ≤ at_1) (h1 : 1 ≤ n) (h7 : n ≤ 8) (hk : n = (k : Int)) (h2 : at_1 + n ≤ (L.length : Int)) (hb : L.length < 1000000)
  (h : (L.take (at_1 + n).toNat).drop at_1.toNat = be v k) : K77 L at_1 n = some ((sgn (v % 256 ^ k) n, (true, ())), (), ()) := by
 rw [signed_spec L at_1 n h0 h1 h7 h2 hb, h, bvalI_be k v 0 (by omega)]
 simp
theorem idN {L : List UInt8} {at_1 v : Int} (h0 : 0 ≤ at_1) (h2 : at_1 + 8 ≤ (L.length : Int)) (hb : L.length < 1000000) (hv : 0 ≤ v) (hv2 : v < 18446744073709551616)
  (h : (L.take (at_1 + 8).toNat).drop at_1.toNat = be (IntKind.i64.wrap v) 8) : K74 L at_1 = some ((v, (true, ())), (), ()) := by
 unfold K74 K74.gen
 rw [sgnN 8 h0 (by omega) (by omega) (by omega) h2 hb h, oelim_some, sgn8, wrap64]
 have : IntKind.i64.wrap (IntKind.i64.wrap v % 256 ^ 8) % 18446744073709551616 = v := by rw [iwrap, iwrap]; omega
 rw [this]
theorem identN {L : List UInt8} {at_1 : Int} {p : api_PortID} (h0 : 0 ≤ at_1) (h2 : at_1 + 10 ≤ (L.length : Int)) (hb : L.length < 1000000) (hv : 0 ≤ p.fClock) (hv2 : p.fClock < 18446744073709551616) (hp : 0 ≤ p.fPort) (hp2 : p.fPort ≤ 65535)
  (h : (L.take (at_1 + 8).toNat).drop at_1.toNat = be (IntKind.i64.wrap p.fClock) 8) (h' : (L.take (at_1 + 8 + 2).toNat).drop (at_1 + 8).toNat = be p.fPort 2) : K63 L at_1 = some ((p, (true, ())), (), ()) := by
 unfold K63 K63.gen
 have e : isub .i64 (ofN L.length) at_1 = (L.length : Int) - at_1 := isub_of (a := (L.length : Int)) (by omega)
 have e2 : iadd .i64 at_1 8 = at_1 + 8 := iadd_of (by omega)
 rw [ilt_false (show ¬ at_1 < 0 by omega), ilt_false (show ¬ ((L.length : Nat) : Int) < at_1 by omega), e, ilt_false (show ¬ (L.length : Int) - at_1 < 10 by omega)]
 simp only [cond_false, oelim_some]
 rw [idN h0 (by omega) hb hv hv2 h, e2, getN 2 (by omega) (by omega) (by omega) (by omega) (by omega) hb h']
 simp only [oelim_some]
 rw [show p.fPort % 256 ^ 2 = p.fPort by omega]
theorem may_stamp {t : Int} (h0 : 0 ≤ t) (h1 : t ≤ 4000000000000000) : K96 t = some ((true, ()), (), ()) := by
 unfold K96 K96.gen
 rw [ile_true h0, ile_true h1]; rfl
theorem stampN {L : List UInt8} {at_1 t : Int} (h0 : 0 ≤ at_1) (h2 : at_1 + 10 ≤ (L.length : Int)) (hb : L.length < 1000000) (ht : 0 ≤ t) (ht2 : t ≤ 4000000000000000)
  (h : (L.take (at_1 + 6).toNat).drop at_1.toNat = be (t / 1000000000) 6) (h' : (L.take (at_1 + 6 + 4).toNat).drop (at_1 + 6).toNat = be (t % 1000000000) 4) : K95 L at_1 = some ((t, (true, ())), (), ()) := by
 unfold K95 K95.gen
 have e : isub .i64 (ofN L.length) at_1 = (L.length : Int) - at_1 := isub_of (a := (L.length : Int)) (by omega)
 have e2 : iadd .i64 at_1 6 = at_1 + 6 := iadd_of (by omega)
 rw [ilt_false (show ¬ at_1 < 0 by omega), ilt_false (show ¬ ((L.length : Nat) : Int) < at_1 by omega), e, ilt_false (show ¬ (L.length : Int) - at_1 < 10 by omega)]
 simp only [cond_false, oelim_some]
 rw [getN 6 h0 (by omega) (by omega) (by omega) (by omega) hb h, e2, getN 4 (by omega) (by omega) (by omega) (by omega) (by omega) hb h']
 simp only [oelim_some]
 have a1 : t / 1000000000 % 256 ^ 6 = t / 1000000000 := by omega
 have a2 : t % 1000000000 % 256 ^ 4 = t % 1000000000 := by omega
 have a3 : imul .i64 (t / 1000000000) 1000000000 = t / 1000000000 * 1000000000 := imul_of (by omega)
 have a4 : iadd .i64 (t / 1000000000 * 1000000000) (t % 1000000000) = t := by rw [iadd_of (by omega)]; omega
 rw [a1, a2, a3, a4, ile_false (show ¬ 1000000000 ≤ t % 1000000000 by omega), ilt_false (show ¬ 4000000 < t / 1000000000 by omega), may_stamp ht ht2]
 rfl
theorem putS (b : List UInt8) {t : Int} (h0 : 0 ≤ t) (h1 : t ≤ 4000000000000000) (h : b.length < 900000) : K97 b t = some ((b ++ be (t / 1000000000) 6 ++ be (t % 1000000000) 4, ()), (), ()) := by
 unfold K97 K97.gen
 rw [may_stamp h0 h1]
 simp only [oelim_some, Bool.not_true, cond_false]
 have e1 : iquo .i64 t 1000000000 = t / 1000000000 := by
  unfold iquo
  rw [Int.tdiv_eq_ediv_of_nonneg h0, iwrap]; omega
 have e2 : irem t 1000000000 = t % 1000000000 := by
  unfold irem
  rw [Int.tmod_eq_emod_of_nonneg h0]
 rw [e1, put6 b _ (by omega)]
 simp only [oelim_some]
 rw [e2, put4 _ _ (by rw [List.length_append, be_length]; omega)]
 rfl
theorem putI (b : List UInt8) (p : api_PortID) (h : b.length < 900000) : K65 b p = some ((b ++ be (IntKind.i64.wrap p.fClock) 8 ++ be p.fPort 2, ()), (), ()) := by
 unfold K65 K65.gen K76 K76.gen
 rw [put8 b _ (by omega)]
 simp only [oelim_some]
 rw [put2 _ _ (by rw [List.length_append, be_length]; omega)]
 rfl
abbrev bs (l : List UInt8) : ByteArray := ByteArray.mk l.toArray
theorem bs_data (l : List UInt8) : (bs l).data.toList = l := by show l.toArray.toList = l; simp
theorem bs_eta (s : ByteArray) : bs s.data.toList = s := by cases s; simp [bs]
theorem bs_ext {s t : ByteArray} (h : s.data.toList = t.data.toList) : s = t := by rw [← bs_eta s, ← bs_eta t, h]
theorem bs_size (l : List UInt8) : (bs l).size = l.length := by show l.toArray.size = _; simp
theorem bs_append (a b : List UInt8) : bs a ++ bs b = bs (a ++ b) := by
 apply bs_ext
 rw [ByteArray.data_append, Array.toList_append, bs_data, bs_data, bs_data]
abbrev api_PortID.z : api_PortID := api_PortID.mk 0 0
def msgH (ty ctl len dom fl co cl po sq lg : Int) : List UInt8 :=
 byteI ty :: UInt8.ofNat (Int.toNat 18) :: [] ++ be len 2 ++ be dom 1 ++ be 0 1 ++ be fl 2 ++ be co 8 ++ be 0 4 ++ be (IntKind.i64.wrap cl) 8 ++ be po 2 ++ be sq 2 ++ be ctl 1 ++ be lg 1
def msgS (st : Int) : List UInt8 := [] ++ be (st / 1000000000) 6 ++ be (st % 1000000000) 4
structure HdOk (dom fl co : Int) (src : api_PortID) (sq lg : Int) : Prop where
 d0 : 0 ≤ dom
 d1 : dom ≤ 255
 f0 : 0 ≤ fl
 f1 : fl ≤ 65535
 c0 : -9223372036854775808 ≤ co
 c1 : co < 9223372036854775808
 k0 : 0 ≤ src.fClock
 k1 : src.fClock < 18446744073709551616
 p0 : 0 ≤ src.fPort
 p1 : src.fPort ≤ 65535
 s0 : 0 ≤ sq
 s1 : sq ≤ 65535
 l0 : -128 ≤ lg
 l1 : lg ≤ 127
theorem hin_ok {v a b : Int} (h0 : a ≤ v) (h1 : v ≤ b) : K61 v a b = some ((true, ()), (), ()) := by
 unfold K61 K61.gen
 rw [ile_true h0, ile_true h1]; rfl
theorem bin_ok {v a b : Int} (h0 : a ≤ v) (h1 : v ≤ b) : K4 v a b = some ((true, ()), (), ()) := by
 unfold K4 K4.gen
 rw [ile_true h0, ile_true h1]; rfl
theorem imay_ok {p : api_PortID} (h0 : 0 ≤ p.fPort) (h1 : p.fPort ≤ 65535) : K64 p = some ((true, ()), (), ()) := by
 unfold K64 K64.gen
 rw [ile_true h0, ile_true h1]; rfl
theorem hcheck_ok {m : api_Msg} (hk : K58 m.fType = some ((true, ()), (), ())) (h : HdOk m.fDomain m.fFlags m.fCorr m.fSource m.fSeq m.fLog) : K56 m = some ((true, ()), (), ()) := by
 unfold K56 K56.gen
 rw [hk, hin_ok h.d0 h.d1, hin_ok h.f0 h.f1, imay_ok h.p0 h.p1, hin_ok h.s0 h.s1, hin_ok h.l0 h.l1]
 rfl
theorem header_put {m : api_Msg} {len ctl : Int} (hk : K58 m.fType = some ((true, ()), (), ())) (hc : K60 m.fType = some ((ctl, ()), (), ())) (h : HdOk m.fDomain m.fFlags m.fCorr m.fSource m.fSeq m.fLog) (h0 : 34 ≤ len) (h1 : len ≤ 400) :
  K59 m len = some ((msgH m.fType ctl len m.fDomain m.fFlags m.fCorr m.fSource.fClock m.fSource.fPort m.fSeq m.fLog, (true, ())), (), ()) := by
 unfold K59 K59.gen
 rw [hcheck_ok hk h, hin_ok h0 h1]
 simp only [oelim_some, Bool.not_true, cond_false]
 rw [put2 _ _ (by simp)]
 simp only [oelim_some]
 rw [put1 _ _ (by simp [be_length])]
 simp only [oelim_some]
 rw [put1 _ _ (by simp [be_length])]
 simp only [oelim_some]
 rw [put2 _ _ (by simp [be_length])]
 simp only [oelim_some]
 rw [put8 _ _ (by simp [be_length])]
 simp only [oelim_some]
 rw [put4 _ _ (by simp [be_length])]
 simp only [oelim_some]
 rw [putI _ _ (by simp [be_length])]
 simp only [oelim_some]
 rw [put2 _ _ (by simp [be_length]), hc]
 simp only [oelim_some]
 rw [put1 _ _ (by simp [be_length])]
 simp only [oelim_some]
 rw [put1 _ _ (by simp [be_length])]
 rfl
theorem tlv_put_nil (b : List UInt8) : K109 b [] = some ((b, (true, ())), (), ()) := by
 have e3 : (bif le3 (ofN (0 : Nat)) (ofN b.length) b.length then ieq (ofN b.length) (ofN b.length) else false) = true := by
  simp [le3, ile, ieq]
 have e4 : List.drop (ofN (0 : Nat)).toNat (List.take (ofN b.length).toNat b) = b := by simp
 unfold K109 K109.gen
 simp only [e3, e4, cond_true]
 have h : K109.F0 ((b, b, [], ofN ([] : List api_Tlv).length, 0, ()), ()) = some (.inl ((b, ()), ())) := by
  unfold K109.F0
  refine loop_to (fun _ => ((b, b, [], ofN ([] : List api_Tlv).length, 0, ()), ())) 0 _ (by show 0 < 1000000 + _; omega) (fun i hi => absurd hi (Nat.not_lt_zero _)) ?_
  unfold K109.step0
  rw [ilt_false (show ¬ (0 : Int) < ofN ([] : List api_Tlv).length by decide)]
  rfl
 have h8 : ilt 8 (ofN ([] : List api_Tlv).length) = false := by decide
 rw [h8]
 simp only [cond_false]
 rw [h]
 rfl
theorem tlv_get_nil (L : List UInt8) (n : Nat) (h : L.length = n) : K105 L (n : Int) = some (([], (0, ())), (), ()) := by
 unfold K105 K105.gen
 rw [ilt_false (show ¬ (n : Int) < 0 by omega), ilt_false (show ¬ ((L.length : Nat) : Int) < (n : Int) by omega)]
 simp only [cond_false, oelim_some]
 have hl : K105.F1 ((L, (n : Int), lnil api_Tlv, 0, ()), ()) = some ((lnil api_Tlv, 0, ()), ()) := by
  unfold K105.F1
  refine loop_to (step := K105.step1 _) (fun _ => ((L, (n : Int), lnil api_Tlv, 0, ()), ())) 0 _ (by show 0 < 1000000 + _; omega) (fun i hi => absurd hi (Nat.not_lt_zero _)) ?_
  unfold K105.step1
  rw [ilt_false (show ¬ (n : Int) < ((L.length : Nat) : Int) by omega)]
  rfl
 rw [hl]
 rfl
def msgA (ty ctl dom fl co : Int) (src : api_PortID) (sq lg st : Int) : List UInt8 := msgH ty ctl 44 dom fl co src.fClock src.fPort sq lg ++ msgS st
abbrev msg0 (ty dom fl co : Int) (src : api_PortID) (sq lg st : Int) (tgt : api_PortID) : api_Msg := api_Msg.mk ty dom fl co src sq lg st tgt 0 0 (api_Quality.mk 0 0 0) 0 0 0 0 0 0 0
theorem put_A {ty ctl dom fl co sq lg st : Int} {src : api_PortID} (hty : (ty = 0 ∧ ctl = 0) ∨ (ty = 1 ∧ ctl = 1) ∨ (ty = 8 ∧ ctl = 2)) (h : HdOk dom fl co src sq lg) (ht : 0 ≤ st) (ht2 : st ≤ 4000000000000000) :
  K55 (msg0 ty dom fl co src sq lg st api_PortID.z) [] = some ((bs (msgA ty ctl dom fl co src sq lg st), (true, ())), (), ()) := by
 have hk : K58 ty = some ((true, ()), (), ()) := by rcases hty with ⟨rfl, rfl⟩ | ⟨rfl, rfl⟩ | ⟨rfl, rfl⟩ <;> kernel_rfl
 have hc : K60 ty = some ((ctl, ()), (), ()) := by rcases hty with ⟨rfl, rfl⟩ | ⟨rfl, rfl⟩ | ⟨rfl, rfl⟩ <;> kernel_rfl
 have hst : K6 ty = some ((true, ()), (), ()) := by rcases hty with ⟨rfl, rfl⟩ | ⟨rfl, rfl⟩ | ⟨rfl, rfl⟩ <;> kernel_rfl
 have htg : K7 ty = some ((false, ()), (), ()) := by rcases hty with ⟨rfl, rfl⟩ | ⟨rfl, rfl⟩ | ⟨rfl, rfl⟩ <;> kernel_rfl
 have n2 : ieq ty 2 = false := by rcases hty with ⟨rfl, rfl⟩ | ⟨rfl, rfl⟩ | ⟨rfl, rfl⟩ <;> rfl
 have n11 : ieq ty 11 = false := by rcases hty with ⟨rfl, rfl⟩ | ⟨rfl, rfl⟩ | ⟨rfl, rfl⟩ <;> rfl
 have n13 : ieq ty 13 = false := by rcases hty with ⟨rfl, rfl⟩ | ⟨rfl, rfl⟩ | ⟨rfl, rfl⟩ <;> rfl
 have hown : K5 (msg0 ty dom fl co src sq lg st api_PortID.z) = some ((msg0 ty dom fl co src sq lg st api_PortID.z, ()), (), ()) := by
  rcases hty with ⟨rfl, rfl⟩ | ⟨rfl, rfl⟩ | ⟨rfl, rfl⟩ <;> kernel_rfl
 have hq : K88 (api_Quality.mk 0 0 0) = some ((true, ()), (), ()) := by kernel_rfl
 have hchk : K0 (msg0 ty dom fl co src sq lg st api_PortID.z) = some ((true, ()), (), ()) := by
  unfold K0 K0.gen
  rw [hcheck_ok hk h, hown, may_stamp ht ht2, imay_ok (p := api_PortID.z) (by decide) (by decide), hq]
  simp only [oelim_some, ieq_self, cond_true, bin_ok (show (-32768 : Int) ≤ 0 by decide) (show (0 : Int) ≤ 32767 by decide), bin_ok (show (0 : Int) ≤ 0 by decide) (show (0 : Int) ≤ 255 by decide), bin_ok (show (0 : Int) ≤ 0 by decide) (show (0 : Int) ≤ 65535 by decide), bin_ok (show (0 : Int) ≤ 0 by decide) (show (0 : Int) ≤ 15 by decide)]
 have hb : K3 (lnil UInt8) (msg0 ty dom fl co src sq lg st api_PortID.z) = some ((msgS st, (true, ())), (), ()) := by
  unfold K3 K3.gen
  rw [hchk, hst]
  simp only [oelim_some, Bool.not_true, cond_false, cond_true, htg, n2, n11, n13]
  rw [putS _ ht ht2 (by simp)]
  rcases hty with ⟨rfl, rfl⟩ | ⟨rfl, rfl⟩ | ⟨rfl, rfl⟩ <;> kernel_rfl
 unfold K55 K55.gen
 rw [hb]
 simp only [oelim_some, Bool.not_true, cond_false]
 rw [tlv_put_nil]
 simp only [oelim_some, Bool.not_true, cond_false]
 rw [show iadd .i64 34 (ofN (msgS st).length) = 44 by kernel_rfl, header_put (len := 44) hk hc h (by decide) (by decide)]
 simp only [oelim_some, Bool.not_true, cond_false]
 rw [show Nat.ble ((bs (msgH ty ctl 44 dom fl co src.fClock src.fPort sq lg)).size + (bs (msgS st)).size) 9223372036854775807 = true by rw [bs_size, bs_size]; kernel_rfl]
 simp only [cond_true]
 show some ((bs _ ++ bs _, _), _) = _
 rw [bs_append]
 rfl
theorem get_A {ty ctl dom fl co sq lg st : Int} {src : api_PortID} (hty : (ty = 0 ∧ ctl = 0) ∨ (ty = 1 ∧ ctl = 1) ∨ (ty = 8 ∧ ctl = 2)) (h : HdOk dom fl co src sq lg) (ht : 0 ≤ st) (ht2 : st ≤ 4000000000000000) :
  K53 (bs (msgA ty ctl dom fl co src sq lg st)) = some ((msg0 ty dom fl co src sq lg st api_PortID.z, ([], (0, ()))), (), ()) := by
 have hlen : (msgA ty ctl dom fl co src sq lg st).length = 44 := by kernel_rfl
 have g2 : K73 (msgA ty ctl dom fl co src sq lg st) 2 2 = some ((44, (true, ())), (), ()) := getN (v := 44) 2 (by decide) (by decide) (by decide) (by decide) (by omega) (by omega) (by kernel_rfl)
 have g6 : K73 (msgA ty ctl dom fl co src sq lg st) 6 2 = some ((fl, (true, ())), (), ()) := by
  rw [getN (v := fl) 2 (by decide) (by decide) (by decide) (by decide) (by omega) (by omega) (by kernel_rfl)]
  rw [show fl % 256 ^ 2 = fl by have := h.f0; have := h.f1; omega]
 have g8 : K77 (msgA ty ctl dom fl co src sq lg st) 8 8 = some ((co, (true, ())), (), ()) := by
  rw [sgnN (v := co) 8 (by decide) (by decide) (by decide) (by decide) (by omega) (by omega) (by kernel_rfl), sgn8]
  rw [show IntKind.i64.wrap (co % 256 ^ 8) = co by have := h.c0; have := h.c1; rw [iwrap]; omega]
 have g20 : K63 (msgA ty ctl dom fl co src sq lg st) 20 = some ((src, (true, ())), (), ()) := identN (by decide) (by omega) (by omega) h.k0 h.k1 h.p0 h.p1 (by kernel_rfl) (by kernel_rfl)
 have g30 : K73 (msgA ty ctl dom fl co src sq lg st) 30 2 = some ((sq, (true, ())), (), ()) := by
  rw [getN (v := sq) 2 (by decide) (by decide) (by decide) (by decide) (by omega) (by omega) (by kernel_rfl)]
  rw [show sq % 256 ^ 2 = sq by have := h.s0; have := h.s1; omega]
 have g33 : K77 (msgA ty ctl dom fl co src sq lg st) 33 1 = some ((lg, (true, ())), (), ()) := by
  rw [sgnN (v := lg) 1 (by decide) (by decide) (by decide) (by decide) (by omega) (by omega) (by kernel_rfl)]
  rw [show sgn (lg % 256 ^ 1) 1 = lg from sgn1 lg h.l0 h.l1]
 have g34 : K95 (msgA ty ctl dom fl co src sq lg st) 34 = some ((st, (true, ())), (), ()) := stampN (by decide) (by omega) (by omega) ht ht2 (by kernel_rfl) (by kernel_rfl)
 have hty0 : IntKind.i64.wrap (ofN (UInt8.toNat (List.getD (msgA ty ctl dom fl co src sq lg st) (Int.toNat 0) (0 : D UC.u8)))) = ty := by
  rcases hty with ⟨rfl, rfl⟩ | ⟨rfl, rfl⟩ | ⟨rfl, rfl⟩ <;> kernel_rfl
 have hd4 : IntKind.i64.wrap (ofN (UInt8.toNat (List.getD (msgA ty ctl dom fl co src sq lg st) (Int.toNat 4) (0 : D UC.u8)))) = dom := by
  have : List.getD (msgA ty ctl dom fl co src sq lg st) (Int.toNat 4) (0 : D UC.u8) = byteI (ishr .i64 dom (8 * ((0 : Nat) : Int))) := by kernel_rfl
  rw [this, show ofN (byteI (ishr .i64 dom (8 * ((0 : Nat) : Int)))).toNat = ((byteI (ishr .i64 dom (8 * ((0 : Nat) : Int)))).toNat : Int) from rfl, byteI_toNat, shr8 dom 0 (by decide)]
  have := h.d0; have := h.d1
  rw [iwrap]; omega
 have hk : K58 ty = some ((true, ()), (), ()) := by rcases hty with ⟨rfl, rfl⟩ | ⟨rfl, rfl⟩ | ⟨rfl, rfl⟩ <;> kernel_rfl
 have hh : K57 (msgA ty ctl dom fl co src sq lg st) = some ((msg0 ty dom fl co src sq lg 0 api_PortID.z, (44, (0, ()))), (), ()) := by
  unfold K57 K57.gen
  rw [g2, g6, g8, g20, g30, g33, hty0, hd4, hk, hlen]
  kernel_rfl
 have hb : K1 (msg0 ty dom fl co src sq lg 0 api_PortID.z) (msgA ty ctl dom fl co src sq lg st) 34 = some ((msg0 ty dom fl co src sq lg st api_PortID.z, (44, (0, ()))), (), ()) := by
  unfold K1 K1.gen
  rw [g34, hlen]
  rcases hty with ⟨rfl, rfl⟩ | ⟨rfl, rfl⟩ | ⟨rfl, rfl⟩ <;> kernel_rfl
 unfold K53 K53.gen
 rw [bs_data, hh]
 simp only [oelim_some, ine_self, cond_false]
 rw [hb]
 simp only [oelim_some, ine_self, cond_false]
 rw [show K105 (msgA ty ctl dom fl co src sq lg st) 44 = _ from tlv_get_nil _ 44 hlen]
 rfl
def msgB (dom fl co : Int) (src : api_PortID) (sq lg st : Int) (tg : api_PortID) : List UInt8 := msgH 9 3 54 dom fl co src.fClock src.fPort sq lg ++ (msgS st ++ be (IntKind.i64.wrap tg.fClock) 8 ++ be tg.fPort 2)
theorem put_B {dom fl co sq lg st : Int} {src tg : api_PortID} (hg0 : 0 ≤ tg.fClock) (hg1 : tg.fClock < 18446744073709551616) (hg2 : 0 ≤ tg.fPort) (hg3 : tg.fPort ≤ 65535) (h : HdOk dom fl co src sq lg) (ht : 0 ≤ st) (ht2 : st ≤ 4000000000000000) :
  K55 (msg0 9 dom fl co src sq lg st tg) [] = some ((bs (msgB dom fl co src sq lg st tg), (true, ())), (), ()) := by
 have hk : K58 9 = some ((true, ()), (), ()) := by kernel_rfl
 have hc : K60 9 = some ((3, ()), (), ()) := by kernel_rfl
 have hst : K6 9 = some ((true, ()), (), ()) := by kernel_rfl
 have htg : K7 9 = some ((true, ()), (), ()) := by kernel_rfl
 have n2 : ieq 9 2 = false := by rfl
 have n11 : ieq 9 11 = false := by rfl
 have n13 : ieq 9 13 = false := by rfl
 have hown : K5 (msg0 9 dom fl co src sq lg st tg) = some ((msg0 9 dom fl co src sq lg st tg, ()), (), ()) := by
  kernel_rfl
 have hq : K88 (api_Quality.mk 0 0 0) = some ((true, ()), (), ()) := by kernel_rfl
 have hchk : K0 (msg0 9 dom fl co src sq lg st tg) = some ((true, ()), (), ()) := by
  unfold K0 K0.gen
  rw [hcheck_ok hk h, hown, may_stamp ht ht2, imay_ok (p := tg) hg2 hg3, hq]
  simp only [oelim_some, ieq_self, cond_true, bin_ok (show (-32768 : Int) ≤ 0 by decide) (show (0 : Int) ≤ 32767 by decide), bin_ok (show (0 : Int) ≤ 0 by decide) (show (0 : Int) ≤ 255 by decide), bin_ok (show (0 : Int) ≤ 0 by decide) (show (0 : Int) ≤ 65535 by decide), bin_ok (show (0 : Int) ≤ 0 by decide) (show (0 : Int) ≤ 15 by decide)]
 have hb : K3 (lnil UInt8) (msg0 9 dom fl co src sq lg st tg) = some ((msgS st ++ be (IntKind.i64.wrap tg.fClock) 8 ++ be tg.fPort 2, (true, ())), (), ()) := by
  unfold K3 K3.gen
  rw [hchk, hst]
  simp only [oelim_some, Bool.not_true, cond_false, cond_true, htg, n2, n11, n13]
  rw [putS _ ht ht2 (by simp)]
  simp only [oelim_some, cond_true, htg]
  rw [putI _ _ (by simp [be_length])]
  kernel_rfl
 unfold K55 K55.gen
 rw [hb]
 simp only [oelim_some, Bool.not_true, cond_false]
 rw [tlv_put_nil]
 simp only [oelim_some, Bool.not_true, cond_false]
 rw [show iadd .i64 34 (ofN (msgS st ++ be (IntKind.i64.wrap tg.fClock) 8 ++ be tg.fPort 2).length) = 54 by kernel_rfl, header_put (len := 54) hk hc h (by decide) (by decide)]
 simp only [oelim_some, Bool.not_true, cond_false]
 rw [show Nat.ble ((bs (msgH 9 3 54 dom fl co src.fClock src.fPort sq lg)).size + (bs (msgS st ++ be (IntKind.i64.wrap tg.fClock) 8 ++ be tg.fPort 2)).size) 9223372036854775807 = true by rw [bs_size, bs_size]; kernel_rfl]
 simp only [cond_true]
 show some ((bs _ ++ bs _, _), _) = _
 rw [bs_append]
 rfl
theorem get_B {dom fl co sq lg st : Int} {src tg : api_PortID} (hg0 : 0 ≤ tg.fClock) (hg1 : tg.fClock < 18446744073709551616) (hg2 : 0 ≤ tg.fPort) (hg3 : tg.fPort ≤ 65535) (h : HdOk dom fl co src sq lg) (ht : 0 ≤ st) (ht2 : st ≤ 4000000000000000) :
  K53 (bs (msgB dom fl co src sq lg st tg)) = some ((msg0 9 dom fl co src sq lg st tg, ([], (0, ()))), (), ()) := by
 have hlen : (msgB dom fl co src sq lg st tg).length = 54 := by kernel_rfl
 have g2 : K73 (msgB dom fl co src sq lg st tg) 2 2 = some ((54, (true, ())), (), ()) := getN (v := 54) 2 (by decide) (by decide) (by decide) (by decide) (by omega) (by omega) (by kernel_rfl)
 have g6 : K73 (msgB dom fl co src sq lg st tg) 6 2 = some ((fl, (true, ())), (), ()) := by
  rw [getN (v := fl) 2 (by decide) (by decide) (by decide) (by decide) (by omega) (by omega) (by kernel_rfl)]
  rw [show fl % 256 ^ 2 = fl by have := h.f0; have := h.f1; omega]
 have g8 : K77 (msgB dom fl co src sq lg st tg) 8 8 = some ((co, (true, ())), (), ()) := by
  rw [sgnN (v := co) 8 (by decide) (by decide) (by decide) (by decide) (by omega) (by omega) (by kernel_rfl), sgn8]
  rw [show IntKind.i64.wrap (co % 256 ^ 8) = co by have := h.c0; have := h.c1; rw [iwrap]; omega]
 have g20 : K63 (msgB dom fl co src sq lg st tg) 20 = some ((src, (true, ())), (), ()) := identN (by decide) (by omega) (by omega) h.k0 h.k1 h.p0 h.p1 (by kernel_rfl) (by kernel_rfl)
 have g30 : K73 (msgB dom fl co src sq lg st tg) 30 2 = some ((sq, (true, ())), (), ()) := by
  rw [getN (v := sq) 2 (by decide) (by decide) (by decide) (by decide) (by omega) (by omega) (by kernel_rfl)]
  rw [show sq % 256 ^ 2 = sq by have := h.s0; have := h.s1; omega]
 have g33 : K77 (msgB dom fl co src sq lg st tg) 33 1 = some ((lg, (true, ())), (), ()) := by
  rw [sgnN (v := lg) 1 (by decide) (by decide) (by decide) (by decide) (by omega) (by omega) (by kernel_rfl)]
  rw [show sgn (lg % 256 ^ 1) 1 = lg from sgn1 lg h.l0 h.l1]
 have g34 : K95 (msgB dom fl co src sq lg st tg) 34 = some ((st, (true, ())), (), ()) := stampN (by decide) (by omega) (by omega) ht ht2 (by kernel_rfl) (by kernel_rfl)
 have hty0 : IntKind.i64.wrap (ofN (UInt8.toNat (List.getD (msgB dom fl co src sq lg st tg) (Int.toNat 0) (0 : D UC.u8)))) = 9 := by
  kernel_rfl
 have hd4 : IntKind.i64.wrap (ofN (UInt8.toNat (List.getD (msgB dom fl co src sq lg st tg) (Int.toNat 4) (0 : D UC.u8)))) = dom := by
  have : List.getD (msgB dom fl co src sq lg st tg) (Int.toNat 4) (0 : D UC.u8) = byteI (ishr .i64 dom (8 * ((0 : Nat) : Int))) := by kernel_rfl
  rw [this, show ofN (byteI (ishr .i64 dom (8 * ((0 : Nat) : Int)))).toNat = ((byteI (ishr .i64 dom (8 * ((0 : Nat) : Int)))).toNat : Int) from rfl, byteI_toNat, shr8 dom 0 (by decide)]
  have := h.d0; have := h.d1
  rw [iwrap]; omega
 have g44 : K63 (msgB dom fl co src sq lg st tg) 44 = some ((tg, (true, ())), (), ()) := identN (by decide) (by omega) (by omega) hg0 hg1 hg2 hg3 (by kernel_rfl) (by kernel_rfl)
 have hk : K58 9 = some ((true, ()), (), ()) := by kernel_rfl
 have hh : K57 (msgB dom fl co src sq lg st tg) = some ((msg0 9 dom fl co src sq lg 0 api_PortID.z, (54, (0, ()))), (), ()) := by
  unfold K57 K57.gen
  rw [g2, g6, g8, g20, g30, g33, hty0, hd4, hk, hlen]
  kernel_rfl
 have hb : K1 (msg0 9 dom fl co src sq lg 0 api_PortID.z) (msgB dom fl co src sq lg st tg) 34 = some ((msg0 9 dom fl co src sq lg st tg, (54, (0, ()))), (), ()) := by
  unfold K1 K1.gen
  rw [g34, hlen, show iadd .i64 34 10 = 44 from rfl, g44]
  kernel_rfl
 unfold K53 K53.gen
 rw [bs_data, hh]
 simp only [oelim_some, ine_self, cond_false]
 rw [hb]
 simp only [oelim_some, ine_self, cond_false]
 rw [show K105 (msgB dom fl co src sq lg st tg) 54 = _ from tlv_get_nil _ 54 hlen]
 rfl
theorem place_spec (v n : Int) (hn : 0 < n) (hn2 : n ≤ 4611686018427387904) : K66 v n = some ((v % n, ()), (), ()) := by
 have h1 : ine n 0 = true := ine_true (by omega)
 have h2 := Int.emod_nonneg v (Int.ne_of_gt hn)
 have h3 := Int.emod_lt_of_pos v hn
 obtain ⟨h4, h5⟩ := tmod_place v n hn
 unfold K66 K66.gen
 rw [h1]
 simp only [cond_true, oelim_some]
 by_cases hc : v.tmod n < 0
 ·have e : iadd .i64 (irem v n) n = v % n := by
   have := h4 hc
   rw [iadd_of] <;> simp only [irem] <;> omega
  rw [show ilt (irem v n) 0 = true from ilt_true hc, e]; simp only [cond_true, oelim_some]
 ·rw [show ilt (irem v n) 0 = false from ilt_false hc, show irem v n = v % n from h5 hc]; simp only [cond_false, oelim_some]
theorem i_1_11 : ieq 1 11 = false := rfl
theorem i_1_0 : ieq 1 0 = false := rfl
theorem i_1_8 : ieq 1 8 = false := rfl
theorem i_1_1 : ieq 1 1 = true := rfl
theorem i_2_1 : ieq 2 1 = false := rfl
theorem i_2_2 : ieq 2 2 = true := rfl
theorem n_1_1 : ine 1 1 = false := rfl
theorem n_0_0 : ine 0 0 = false := rfl
theorem frame_ask {K : clock_Clock} {g6 : Nat × (Nat → foreign_Table)} {g12 : Nat × (Nat → List (api_PortID × List (Int)))}
  {b : ByteArray} {now dom fl co sq lg st : Int} {src : api_PortID} {K' : clock_Clock}
  (hHere : K54 b K.fconf.fDomain = some ((msg0 1 dom fl co src sq lg st api_PortID.z, ([], (0, ()))), (), ()))
  (hn : K18 1 K = some ((false, ()), (), ())) (hc : ieq src.fClock K.fconf.fClock = false) (hs : K23 1 K = some ((0, ()), (), ()))
  (ha : K81 (K.fports 0).fstate = some ((true, ()), (), ())) (hm : ieq (K.fports 0).fstate 6 = true) (hp : K.fconf.fPeer = false) (h0 : 0 ≤ now) (h1 : now ≤ 4000000000000000)
  (hout : K19 1 (msg0 9 dom 0 co (api_PortID.mk K.fconf.fClock 1) sq K.fconf.fLogDelay now src) [] false K = some ((), (K', ()), ())) :
  K16 1 b now K g6 g12 = some ((), (K', g6, g12, ()), ()) := by
 unfold K16 K16.gen
 rw [hHere]
 simp only [oelim_some, hn, cond_false, n_0_0, hc, hs, ha, Bool.not_true, i_1_11, i_1_0, i_1_8, i_1_1, cond_true, hm, hp, Bool.not_false]
 unfold K22 K22.gen K43 K43.gen
 simp only [oelim_some, n_1_1, cond_false, may_stamp h0 h1, Bool.not_true, cond_true, selim]
 rw [hout]
 rfl
theorem frame_early {K : clock_Clock} {g6 : Nat × (Nat → foreign_Table)} {g12 : Nat × (Nat → List (api_PortID × List (Int)))}
  {b : ByteArray} {now dom fl co sq lg st : Int} {src : api_PortID}
  (hHere : K54 b K.fconf.fDomain = some ((msg0 1 dom fl co src sq lg st api_PortID.z, ([], (0, ()))), (), ()))
  (hn : K18 1 K = some ((false, ()), (), ())) (hc : ieq src.fClock K.fconf.fClock = false) (hs : K23 1 K = some ((0, ()), (), ()))
  (ha : K81 (K.fports 0).fstate = some ((true, ()), (), ())) (hm : ieq (K.fports 0).fstate 6 = false) :
  K16 1 b now K g6 g12 = some ((), (K, g6, g12, ()), ()) := by
 unfold K16 K16.gen
 rw [hHere]
 simp only [oelim_some, hn, cond_false, n_0_0, hc, hs, ha, Bool.not_true, i_1_11, i_1_0, i_1_8, i_1_1, cond_true, hm, Bool.not_false, selim]
theorem here_A {ty ctl dom fl co sq lg st d : Int} {src : api_PortID} (hty : (ty = 0 ∧ ctl = 0) ∨ (ty = 1 ∧ ctl = 1) ∨ (ty = 8 ∧ ctl = 2)) (h : HdOk dom fl co src sq lg) (ht : 0 ≤ st) (ht2 : st ≤ 4000000000000000) (hd : d = dom) :
  K54 (bs (msgA ty ctl dom fl co src sq lg st)) d = some ((msg0 ty dom fl co src sq lg st api_PortID.z, ([], (0, ()))), (), ()) := by
 unfold K54 K54.gen
 rw [get_A hty h ht ht2]
 simp only [oelim_some, ieq_self, cond_true]
 rw [ine_false (show dom = d from hd.symm)]
 rfl
theorem out_ok {n : Int} {m : api_Msg} {want : Bool} {K : clock_Clock} {b : ByteArray} (hp : K55 m [] = some ((b, (true, ())), (), ())) (ho : K.fouts.length < 1000) :
  K19 n m [] want K = some ((), (K.set_fouts (K.fouts ++ [api_Out.mk 1 n 0 want m.fType m.fSeq b]), ()), ()) := by
 unfold K19 K19.gen
 rw [hp]
 simp only [oelim_some, cond_true]
 rw [show room (K.fouts.length + (api_Out.mk 1 n 0 want m.fType m.fSeq b :: lnil api_Out).length) 64 = true from room_true (by show (K.fouts.length + 1) * 64 ≤ _; omega)]
 rfl
theorem now_ok {t : Int} (h0 : 0 ≤ t) (h1 : t ≤ 4000000000000000) : opMinMax true 0 (opMinMax false t 4000000000000000) = t := by
 simp only [opMinMax, cond_true, cond_false, imin, imax]
 split <;> split <;> omega
theorem step_frame {K : clock_Clock} {g5 : Nat × (Nat → servo_Servo)} {g6 : Nat × (Nat → foreign_Table)} {g7 : Nat × (Nat → delay_Exchange)} {g8 : Nat × (Nat → peer_Exchange)} {g9 : Nat × (Nat → median_Filter)} {g10 : Nat × (Nat → seq_Match)} {g12 : Nat × (Nat → List (api_PortID × List (Int)))}
  {b : ByteArray} {p t a1 a2 : Int} {c : api_Conf} {K' : clock_Clock} (h0 : 0 ≤ t) (h1 : t ≤ 4000000000000000)
  (h : K16 p b t (K.set_fouts []) g6 g12 = some ((), (K', g6, g12, ()), ())) :
  K10 (api_Event.mk 2 p t a1 a2 b c) K g5 g6 g7 g8 g9 g10 g12 = some ((K'.fouts, ()), (K', g5, g6, g7, g8, g9, g10, g12, ()), ()) := by
 unfold K10 K10.gen
 simp only [i_2_1, i_2_2, cond_false, cond_true, now_ok h0 h1]
 rw [show lnil api_Out = [] from rfl, h]
 rfl
theorem fset_same {α : Type} (f : Nat → α) (i : Nat) (x : α) : fset f i x i = x := by simp [fset]
noncomputable abbrev fr1 := K69 50 1 (0, fun _ => U.dft .t_clock_Clock) (0, fun _ => U.dft .t_servo_Servo) (0, fun _ => U.dft .t_foreign_Table) (0, fun _ => U.dft .t_delay_Exchange) (0, fun _ => U.dft .t_peer_Exchange) (0, fun _ => U.dft .t_median_Filter) (0, fun _ => U.dft .t_seq_Match) (0, fun _ => [])
theorem fr1_some : fr1.isSome = true := by kernel_rfl
noncomputable def A0 := (fr1.get fr1_some).2.1.1
noncomputable def A5 := (fr1.get fr1_some).2.1.2.1
noncomputable def A6 := (fr1.get fr1_some).2.1.2.2.1
noncomputable def A7 := (fr1.get fr1_some).2.1.2.2.2.1
noncomputable def A8 := (fr1.get fr1_some).2.1.2.2.2.2.1
noncomputable def A9 := (fr1.get fr1_some).2.1.2.2.2.2.2.1
noncomputable def A10 := (fr1.get fr1_some).2.1.2.2.2.2.2.2.1
noncomputable def A12 := (fr1.get fr1_some).2.1.2.2.2.2.2.2.2.1
theorem fr1_eq : fr1 = some ((some 0, ()), (A0, A5, A6, A7, A8, A9, A10, A12, ()), ()) := by kernel_rfl
noncomputable abbrev tk1 (n : Int) := K70 n (A0.2 0) A5 A6 A7 A8 A9 A10 A12
theorem tk6_some : (tk1 6).isSome = true := by kernel_rfl
theorem tk2_some : (tk1 2).isSome = true := by kernel_rfl
noncomputable def tk (e : Bool) := bif e then (tk1 2).get tk2_some else (tk1 6).get tk6_some
theorem tk_eq (e : Bool) : tk1 (bif e then 2 else 6) = some (tk e) := by cases e <;> kernel_rfl
noncomputable abbrev KK (e : Bool) : clock_Clock := (tk e).2.1.1
theorem awake_true : K68.A = some () := by kernel_rfl
theorem kk_dom (e : Bool) : ((KK e).set_fouts []).fconf.fDomain = 0 := by cases e <;> kernel_rfl
theorem kk_clock (e : Bool) : ((KK e).set_fouts []).fconf.fClock = 50 := by cases e <;> kernel_rfl
theorem kk_none (e : Bool) : K18 1 ((KK e).set_fouts []) = some ((false, ()), (), ()) := by cases e <;> kernel_rfl
theorem kk_side (e : Bool) : K23 1 ((KK e).set_fouts []) = some ((0, ()), (), ()) := by cases e <;> kernel_rfl
theorem kk_alive (e : Bool) : K81 (((KK e).set_fouts []).fports 0).fstate = some ((true, ()), (), ()) := by cases e <;> kernel_rfl
theorem kk_st6 : ieq (((KK false).set_fouts []).fports 0).fstate 6 = true := by kernel_rfl
theorem kk_st2 : ieq (((KK true).set_fouts []).fports 0).fstate 6 = false := by kernel_rfl
theorem kk_peer : ((KK false).set_fouts []).fconf.fPeer = false := by kernel_rfl
theorem kk_log : ((KK false).set_fouts []).fconf.fLogDelay = -3 := by kernel_rfl
theorem kk_drops : K8 ((KK true).set_fouts []) = some ((0, ()), (), ()) := by kernel_rfl
theorem hd_ask {who : api_PortID} (hw : api_PortID.Wf who) (h0 : 0 ≤ who.fPort) (h1 : who.fPort ≤ 65535) (sq : Int) : HdOk 0 0 65536 who (sq % 65536) 0 := by
 have hk := bounds_u64 hw.1
 exact ⟨by decide, by decide, by decide, by decide, by decide, by decide, by omega, by omega, h0, h1, by omega, by omega, by decide, by decide⟩
theorem hd_ans (sq : Int) : HdOk 0 0 65536 (api_PortID.mk 50 1) (sq % 65536) (-3) := by
 exact ⟨by decide, by decide, by decide, by decide, by decide, by decide, by decide, by decide, by decide, by decide, by omega, by omega, by decide, by decide⟩
theorem K67.law : ∀ (who : api_PortID) (seq : Int) (at_2 : Int) (early : Bool), api_PortID.Wf who → (Lit.int .i64 seq).wf = true → (Lit.int .i64 at_2).wf = true → True → ∃ y, K67 who seq at_2 early (0, fun _ => U.dft .t_clock_Clock) (0, fun _ => U.dft .t_servo_Servo) (0, fun _ => U.dft .t_foreign_Table) (0, fun _ => U.dft .t_delay_Exchange) (0, fun _ => U.dft .t_peer_Exchange) (0, fun _ => U.dft .t_median_Filter) (0, fun _ => U.dft .t_seq_Match) (0, fun _ => []) = some ((true, ()), y, ()) := by
 intro who seq at_2 early hw _ _ _
 unfold K67 K67.gen
 rw [show K69 50 1 (0, fun _ => U.dft .t_clock_Clock) (0, fun _ => U.dft .t_servo_Servo) (0, fun _ => U.dft .t_foreign_Table) (0, fun _ => U.dft .t_delay_Exchange) (0, fun _ => U.dft .t_peer_Exchange) (0, fun _ => U.dft .t_median_Filter) (0, fun _ => U.dft .t_seq_Match) (0, fun _ => []) = _ from fr1_eq, awake_true]
 simp only [oelim_some, Option.isSome_some, Bool.not_true, cond_false]
 by_cases e50 : who.fClock = 50
 ·rw [ieq_true e50]
  simp only [cond_true, oelim_some]
  exact ⟨_, rfl⟩
 rw [ieq_false e50]
 simp only [cond_false]
 by_cases p0 : who.fPort < 0
 ·rw [ilt_true p0]
  simp only [cond_true, oelim_some]
  exact ⟨_, rfl⟩
 rw [ilt_false p0]
 simp only [cond_false, oelim_some]
 by_cases p1 : 65535 < who.fPort
 ·rw [ilt_true p1]
  simp only [cond_true, oelim_some]
  exact ⟨_, rfl⟩
 rw [ilt_false p1]
 simp only [cond_false, oelim_some]
 have hA := hd_ask hw (by omega) (by omega) seq
 have hput : K55 (api_Msg.mk 1 0 0 65536 who (iand .i64 seq 65535) 0 0 (api_PortID.mk 0 0) 0 0 (api_Quality.mk 0 0 0) 0 0 0 0 0 0 0) (lnil api_Tlv) = some ((bs (msgA 1 1 0 0 65536 who (seq % 65536) 0 0), (true, ())), (), ()) := by
  rw [iand_65535]
  exact put_A (.inr (.inl ⟨rfl, rfl⟩)) hA (by decide) (by decide)
 have t0 : 0 ≤ at_2 % 1099511627776 := by omega
 have t1 : at_2 % 1099511627776 ≤ 4000000000000000 := by omega
 cases early with
 | true =>
  simp only [cond_true, oelim_some]
  rw [show K70 2 (A0.2 0) A5 A6 A7 A8 A9 A10 A12 = some (tk true) from tk_eq true, place_spec at_2 _ (by decide) (by decide)]
  simp only [oelim_some]
  rw [hput]
  simp only [oelim_some, fset_same]
  have hf := frame_early (K := (KK true).set_fouts []) (g6 := (tk true).2.1.2.2.1) (g12 := (tk true).2.1.2.2.2.2.2.2.2.1) (now := at_2 % 1099511627776) (here_A (ty := 1) (ctl := 1) (st := 0) (.inr (.inl ⟨rfl, rfl⟩)) hA (by decide) (by decide) (kk_dom true)) (kk_none true) (by rw [kk_clock true]; exact ieq_false e50) (kk_side true) (kk_alive true) kk_st2
  rw [step_frame (K := KK true) t0 t1 hf]
  simp only [oelim_some, fset_same, cond_true, kk_drops]
  exact ⟨_, rfl⟩
 | false =>
  simp only [cond_false, oelim_some]
  rw [show K70 6 (A0.2 0) A5 A6 A7 A8 A9 A10 A12 = some (tk false) from tk_eq false, place_spec at_2 _ (by decide) (by decide)]
  simp only [oelim_some]
  rw [hput]
  simp only [oelim_some, fset_same]
  have hw0 := bounds_u64 hw.1
  have hB := put_B (dom := 0) (fl := 0) (co := 65536) (src := api_PortID.mk 50 1) (sq := seq % 65536) (lg := -3) (tg := who) (by omega) (by omega) (by omega) (by omega) (hd_ans seq) t0 t1
  have ho := out_ok (n := 1) (want := false) (K := (KK false).set_fouts []) hB (by decide)
  have hf := frame_ask (K := (KK false).set_fouts []) (g6 := (tk false).2.1.2.2.1) (g12 := (tk false).2.1.2.2.2.2.2.2.2.1) (now := at_2 % 1099511627776) (here_A (ty := 1) (ctl := 1) (st := 0) (.inr (.inl ⟨rfl, rfl⟩)) hA (by decide) (by decide) (kk_dom false)) (kk_none false) (by rw [kk_clock false]; exact ieq_false e50) (kk_side false) (kk_alive false) kk_st6 kk_peer t0 t1 (by rw [kk_clock false, kk_log]; exact ho)
  rw [step_frame (K := KK false) t0 t1 hf]
  have hG := get_B (dom := 0) (fl := 0) (co := 65536) (src := api_PortID.mk 50 1) (sq := seq % 65536) (lg := -3) (tg := who) (by omega) (by omega) (by omega) (by omega) (hd_ans seq) t0 t1
  simp only [oelim_some, fset_same, cond_true, cond_false, Bool.not_true]
  rw [show (List.getD (((KK false).set_fouts []).set_fouts (((KK false).set_fouts []).fouts ++ [api_Out.mk 1 1 0 false 9 (seq % 65536) (bs (msgB 0 0 65536 (api_PortID.mk 50 1) (seq % 65536) (-3) (at_2 % 1099511627776) who))])).fouts (Int.toNat 0) api_Out.zero).fBytes = bs (msgB 0 0 65536 (api_PortID.mk 50 1) (seq % 65536) (-3) (at_2 % 1099511627776) who) from rfl, hG, iand_65535]
  simp only [oelim_some, ieq_self, cond_true]
  exact ⟨_, rfl⟩
end Go.Proofs.YtgnabnhggaondaaGreat
