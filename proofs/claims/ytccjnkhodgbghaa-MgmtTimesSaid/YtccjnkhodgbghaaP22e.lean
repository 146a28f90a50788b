/- Typed forms of the functions that these statements reach, proved equal to what the model runs, and laws over them. -/
import Derived.Test.YtccjnkhodgbghaaP22d
namespace Go.Proofs.Ytccjnkhodgbghaa
open Go.Rf
set_option linter.unusedVariables false
set_option linter.unusedSimpArgs false
/-! ### what Default tells -/
theorem u64wrap {n : Int} (h : 0 ≤ n ∧ n < 18446744073709551616) : IntKind.u64.wrap n = n := by
  simp only [IntKind.wrap, IntKind.signed, IntKind.bits]
  simp
  omega
theorem byteI_nat (e : Int) : ((byteI e).toNat : Int) = e % 256 := by
  have h := wrap_u8 e
  have h2 : IntKind.u8.wrap e = e % 256 := by
    simp only [IntKind.wrap, IntKind.signed, IntKind.bits]
    simp
  unfold byteI
  rw [u8_back h, h2]
theorem ishr_div (v : Int) (k : Nat) (hk : k < 8) : ishr .i64 v (8 * (k : Int)) = v / 256 ^ k := by
  unfold ishr
  have h1 : (8 * (k : Int)).toNat = 8 * k := by omega
  rw [h1, show min (8 * k) IntKind.i64.bits = 8 * k from Nat.min_eq_left (by simp only [IntKind.bits]; omega), Int.fdiv_eq_ediv_of_nonneg _ (Int.pow_nonneg (by decide)), Int.pow_mul]; rfl
theorem or_byte (x : Int) (b : UInt8) (hx : 0 ≤ x ∧ x < 72057594037927936) : ior .u64 (ishl .u64 x 8) (IntKind.u64.wrap (ofN b.toNat)) = x * 256 + (b.toNat : Int) := by
  have hb := UInt8.toNat_lt b
  obtain ⟨n, rfl⟩ := Int.eq_ofNat_of_zero_le hx.1
  have e1 : ishl .u64 (n : Int) 8 = ((2 ^ 8 * n : Nat) : Int) := by
    unfold ishl
    have : (n : Int) * 2 ^ (min (8 : Int).toNat IntKind.u64.bits) = ((2 ^ 8 * n : Nat) : Int) := by
      show (n : Int) * 2 ^ 8 = _
      omega
    rw [this, u64wrap (by omega)]
  have e2 : IntKind.u64.wrap (ofN b.toNat) = (b.toNat : Int) := u64wrap (show 0 ≤ (b.toNat : Int) ∧ (b.toNat : Int) < _ by omega)
  have hn : ∀ m : Nat, m < 2 ^ 64 → (BitVec.ofInt 64 (m : Int)).toNat = m := fun m hm => by
    rw [BitVec.toNat_ofInt]
    omega
  rw [e1, e2]
  unfold ior
  have : ((BitVec.ofInt IntKind.u64.bits ((2 ^ 8 * n : Nat) : Int) ||| BitVec.ofInt IntKind.u64.bits (b.toNat : Int)).toNat : Int) = ((2 ^ 8 * n + b.toNat : Nat) : Int) := by
    show ((BitVec.ofInt 64 ((2 ^ 8 * n : Nat) : Int) ||| BitVec.ofInt 64 (b.toNat : Int)).toNat : Int) = _
    rw [BitVec.toNat_or, hn _ (by omega), hn _ (by omega), Nat.two_pow_add_eq_or_of_lt (by omega)]
  rw [this, u64wrap (by omega)]
  omega
theorem loopFix_inl {α β : Type} {step : α → Option (α ⊕ β)} {a a' : α} {n : Nat} (h : step a = some (.inl a')) : loopFix (n + 1) step a = loopFix n step a' := by
  conv => lhs; unfold loopFix
  rw [h]
theorem loopFix_inr {α β : Type} {step : α → Option (α ⊕ β)} {a : α} {b : β} {n : Nat} (h : step a = some (.inr b)) : loopFix (n + 1) step a = some b := by
  unfold loopFix
  rw [h]

theorem def_step (l : List UInt8) (x : Int) (k : Nat) (c : api_Conf) (hk : k < 18) (hl : l.length = 20) (hx : 0 ≤ x ∧ x < 72057594037927936) :
    law22_MgmtDefaults.step0 ref10_Check law22_awake mgmt_Answer ((ByteArray.mk l.toArray, x, (k : Int), ()), c, ()) = some (.inl ((ByteArray.mk l.toArray, x * 256 + ((l.getD k 0).toNat : Int), ((k + 1 : Nat) : Int), ()), c, ())) := by
  have e1 : iadd .i64 (k : Int) 1 = ((k + 1 : Nat) : Int) := by rw [iadd_of (by omega)]; omega
  unfold law22_MgmtDefaults.step0
  simp only [ilt_true (show (k : Int) < 18 by omega), inR_true (show (0 : Int) ≤ k by omega) (show (k : Int) < ((ByteArray.mk l.toArray).size : Int) by rw [size_of]; omega), cond_true, Int.toNat_natCast, e1]
  rw [or_byte x _ hx]

theorem byte_at (v : Int) (k : Nat) (hk : k < 8) : ((byteI (ishr .i64 v (8 * (k : Int)))).toNat : Int) = v / 256 ^ k % 256 := by rw [byteI_nat, ishr_div v k hk]

theorem def_loop (l : List UInt8) (c : api_Conf) (hlen : l.length = 20) (d0 d1 d2 d3 d4 d5 d6 d7 : Int) (h0 : ((l.getD 10 0).toNat : Int) = d0) (h1 : ((l.getD 11 0).toNat : Int) = d1) (h2 : ((l.getD 12 0).toNat : Int) = d2) (h3 : ((l.getD 13 0).toNat : Int) = d3) (h4 : ((l.getD 14 0).toNat : Int) = d4) (h5 : ((l.getD 15 0).toNat : Int) = d5) (h6 : ((l.getD 16 0).toNat : Int) = d6) (h7 : ((l.getD 17 0).toNat : Int) = d7) :
    law22_MgmtDefaults.F0 ((ByteArray.mk l.toArray, 0, 10, ()), c, ()) = some ((ByteArray.mk l.toArray, ((((((((0 * 256 + d0) * 256 + d1) * 256 + d2) * 256 + d3) * 256 + d4) * 256 + d5) * 256 + d6) * 256 + d7), ()), c, ()) := by
  have r0 : 0 ≤ d0 ∧ d0 < 256 := by have := UInt8.toNat_lt (l.getD 10 0); omega
  have r1 : 0 ≤ d1 ∧ d1 < 256 := by have := UInt8.toNat_lt (l.getD 11 0); omega
  have r2 : 0 ≤ d2 ∧ d2 < 256 := by have := UInt8.toNat_lt (l.getD 12 0); omega
  have r3 : 0 ≤ d3 ∧ d3 < 256 := by have := UInt8.toNat_lt (l.getD 13 0); omega
  have r4 : 0 ≤ d4 ∧ d4 < 256 := by have := UInt8.toNat_lt (l.getD 14 0); omega
  have r5 : 0 ≤ d5 ∧ d5 < 256 := by have := UInt8.toNat_lt (l.getD 15 0); omega
  have r6 : 0 ≤ d6 ∧ d6 < 256 := by have := UInt8.toNat_lt (l.getD 16 0); omega
  have r7 : 0 ≤ d7 ∧ d7 < 256 := by have := UInt8.toNat_lt (l.getD 17 0); omega
  have s0 := def_step l 0 10 c (by decide) hlen (by clear h0 h1 h2 h3 h4 h5 h6 h7; omega)
  rw [h0] at s0
  have s1 := def_step l (0 * 256 + d0) 11 c (by decide) hlen (by clear h0 h1 h2 h3 h4 h5 h6 h7; omega)
  rw [h1] at s1
  have s2 := def_step l ((0 * 256 + d0) * 256 + d1) 12 c (by decide) hlen (by clear h0 h1 h2 h3 h4 h5 h6 h7; omega)
  rw [h2] at s2
  have s3 := def_step l (((0 * 256 + d0) * 256 + d1) * 256 + d2) 13 c (by decide) hlen (by clear h0 h1 h2 h3 h4 h5 h6 h7; omega)
  rw [h3] at s3
  have s4 := def_step l ((((0 * 256 + d0) * 256 + d1) * 256 + d2) * 256 + d3) 14 c (by decide) hlen (by clear h0 h1 h2 h3 h4 h5 h6 h7; omega)
  rw [h4] at s4
  have s5 := def_step l (((((0 * 256 + d0) * 256 + d1) * 256 + d2) * 256 + d3) * 256 + d4) 15 c (by decide) hlen (by clear h0 h1 h2 h3 h4 h5 h6 h7; omega)
  rw [h5] at s5
  have s6 := def_step l ((((((0 * 256 + d0) * 256 + d1) * 256 + d2) * 256 + d3) * 256 + d4) * 256 + d5) 16 c (by decide) hlen (by clear h0 h1 h2 h3 h4 h5 h6 h7; omega)
  rw [h6] at s6
  have s7 := def_step l (((((((0 * 256 + d0) * 256 + d1) * 256 + d2) * 256 + d3) * 256 + d4) * 256 + d5) * 256 + d6) 17 c (by decide) hlen (by clear h0 h1 h2 h3 h4 h5 h6 h7; omega)
  rw [h7] at s7
  have s8 : law22_MgmtDefaults.step0 ref10_Check law22_awake mgmt_Answer ((ByteArray.mk l.toArray, ((((((((0 * 256 + d0) * 256 + d1) * 256 + d2) * 256 + d3) * 256 + d4) * 256 + d5) * 256 + d6) * 256 + d7), ((18 : Nat) : Int), ()), c, ()) = some (.inr ((ByteArray.mk l.toArray, ((((((((0 * 256 + d0) * 256 + d1) * 256 + d2) * 256 + d3) * 256 + d4) * 256 + d5) * 256 + d6) * 256 + d7), ()), c, ())) := by
    unfold law22_MgmtDefaults.step0
    simp only [ilt_false (show ¬ ((18 : Nat) : Int) < 18 by decide), cond_false]
  show loopFix (1000000 + (ByteArray.mk l.toArray).size) _ _ = _
  rw [size_of, hlen]
  exact (loopFix_inl s0).trans ((loopFix_inl s1).trans ((loopFix_inl s2).trans ((loopFix_inl s3).trans ((loopFix_inl s4).trans ((loopFix_inl s5).trans ((loopFix_inl s6).trans ((loopFix_inl s7).trans (loopFix_inr s8))))))))

theorem id_back (w d0 d1 d2 d3 d4 d5 d6 d7 : Int) (h0 : d0 = w / 72057594037927936 % 256) (h1 : d1 = w / 281474976710656 % 256) (h2 : d2 = w / 1099511627776 % 256) (h3 : d3 = w / 4294967296 % 256) (h4 : d4 = w / 16777216 % 256) (h5 : d5 = w / 65536 % 256) (h6 : d6 = w / 256 % 256) (h7 : d7 = w % 256) :
    ((((((((0 * 256 + d0) * 256 + d1) * 256 + d2) * 256 + d3) * 256 + d4) * 256 + d5) * 256 + d6) * 256 + d7) = w % 18446744073709551616 := by omega

theorem law22_MgmtDefaults.law : ∀ (c : api_Conf), api_Conf.Wf c → law22_MgmtDefaults c = some ((true, ()), (), ()) := by
  intro c hwf
  unfold law22_MgmtDefaults law22_MgmtDefaults.gen
  simp only [ref_conf_spec, awake_true, oelim_some]
  cases hok : okC c
  · simp [n15_0]
  have hclk : 0 ≤ c.fClock ∧ c.fClock < 18446744073709551616 := by have := bounds_u64 hwf.1; omega
  simp only [okC, numsB, mayQ, Bool.and_eq_true, inB_iff] at hok
  obtain ⟨⟨⟨⟨⟨⟨⟨⟨⟨⟨⟨⟨⟨⟨⟨⟨⟨⟨hports, hdom⟩, hp1⟩, hp2⟩, _⟩, _⟩, _⟩, _⟩, _⟩, _⟩, _⟩, _⟩, _⟩, _⟩, _⟩, ⟨⟨hcl, hac⟩, hva⟩⟩, _⟩, _⟩, _⟩ := hok
  have hans := ans_get ⟨c, ⟨⟨0, 0⟩, 0, ⟨0, 0, 0⟩, 0, 0, 0, ⟨0, 0, 0⟩⟩, 0, 0, 0, 0, 0, 0⟩ 8192 (ByteArray.mk (lnil UInt8).toArray) (by decide) (.inl (by decide))
  rw [answer_spec, hans]
  have htl : tellL ⟨c, ⟨⟨0, 0⟩, 0, ⟨0, 0, 0⟩, 0, 0, 0, ⟨0, 0, 0⟩⟩, 0, 0, 0, 0, 0, 0⟩ 8192 = defL c := rfl
  rw [htl]
  have hlen : (defL c).length = 20 := by simp [defL, qL, be_length]
  simp only [pk, oelim_some, n0_0, cond_false, if_true, ine_false (show ofN (ByteArray.mk (defL c).toArray).size = 20 by rw [size_of, hlen]; rfl)]
  have B : ∀ (k : Nat) (v : Int) (j : Nat), j < 8 → (defL c).getD k 0 = byteI (ishr .i64 v (8 * (j : Int))) → (((defL c).getD k 0).toNat : Int) = v / 256 ^ j % 256 := fun k v j hj h => by rw [h, byte_at v j hj]
  generalize hw : IntKind.i64.wrap c.fClock = w
  have hwr : w % 18446744073709551616 = c.fClock := by rw [← hw, iwrap]; omega
  have b0 := B 0 (bit (!c.fOneStep) + 2 * bit c.fSlaveOnly) 0 (by decide) (by kernel_rfl)
  have b1 := B 1 (0) 0 (by decide) (by kernel_rfl)
  have b2 := B 2 (c.fPorts) 1 (by decide) (by kernel_rfl)
  have b3 := B 3 (c.fPorts) 0 (by decide) (by kernel_rfl)
  have b4 := B 4 (c.fPriority1) 0 (by decide) (by kernel_rfl)
  have b5 := B 5 (c.fQuality.fClass) 0 (by decide) (by kernel_rfl)
  have b6 := B 6 (c.fQuality.fAccuracy) 0 (by decide) (by kernel_rfl)
  have b7 := B 7 (c.fQuality.fVariance) 1 (by decide) (by kernel_rfl)
  have b8 := B 8 (c.fQuality.fVariance) 0 (by decide) (by kernel_rfl)
  have b9 := B 9 (c.fPriority2) 0 (by decide) (by kernel_rfl)
  have b10 := B 10 (IntKind.i64.wrap c.fClock) 7 (by decide) (by kernel_rfl)
  rw [hw] at b10
  have b11 := B 11 (IntKind.i64.wrap c.fClock) 6 (by decide) (by kernel_rfl)
  rw [hw] at b11
  have b12 := B 12 (IntKind.i64.wrap c.fClock) 5 (by decide) (by kernel_rfl)
  rw [hw] at b12
  have b13 := B 13 (IntKind.i64.wrap c.fClock) 4 (by decide) (by kernel_rfl)
  rw [hw] at b13
  have b14 := B 14 (IntKind.i64.wrap c.fClock) 3 (by decide) (by kernel_rfl)
  rw [hw] at b14
  have b15 := B 15 (IntKind.i64.wrap c.fClock) 2 (by decide) (by kernel_rfl)
  rw [hw] at b15
  have b16 := B 16 (IntKind.i64.wrap c.fClock) 1 (by decide) (by kernel_rfl)
  rw [hw] at b16
  have b17 := B 17 (IntKind.i64.wrap c.fClock) 0 (by decide) (by kernel_rfl)
  rw [hw] at b17
  have b18 := B 18 (c.fDomain) 0 (by decide) (by kernel_rfl)
  simp only [Int.reducePow, Int.pow_zero, Int.ediv_one] at b0 b1 b2 b3 b4 b5 b6 b7 b8 b9 b10 b11 b12 b13 b14 b15 b16 b17 b18
  have hF := def_loop (defL c) c hlen _ _ _ _ _ _ _ _ b10 b11 b12 b13 b14 b15 b16 b17
  have hid := id_back w _ _ _ _ _ _ _ _ rfl rfl rfl rfl rfl rfl rfl rfl
  rw [hid, hwr] at hF
  simp only [hF, oelim_some]
  have e3 : (((ByteArray.mk (defL c).toArray).data.toList.getD (Int.toNat 3) (0 : UInt8)).toNat : Int) = c.fPorts := by
    show (((defL c).getD 3 0).toNat : Int) = _
    rw [b3]; clear hid; omega
  have e4 : (((ByteArray.mk (defL c).toArray).data.toList.getD (Int.toNat 4) (0 : UInt8)).toNat : Int) = c.fPriority1 := by
    show (((defL c).getD 4 0).toNat : Int) = _
    rw [b4]; clear hid; omega
  have e5 : (((ByteArray.mk (defL c).toArray).data.toList.getD (Int.toNat 5) (0 : UInt8)).toNat : Int) = c.fQuality.fClass := by
    show (((defL c).getD 5 0).toNat : Int) = _
    rw [b5]; clear hid; omega
  have e6 : (((ByteArray.mk (defL c).toArray).data.toList.getD (Int.toNat 6) (0 : UInt8)).toNat : Int) = c.fQuality.fAccuracy := by
    show (((defL c).getD 6 0).toNat : Int) = _
    rw [b6]; clear hid; omega
  have e9 : (((ByteArray.mk (defL c).toArray).data.toList.getD (Int.toNat 9) (0 : UInt8)).toNat : Int) = c.fPriority2 := by
    show (((defL c).getD 9 0).toNat : Int) = _
    rw [b9]; clear hid; omega
  have e18 : (((ByteArray.mk (defL c).toArray).data.toList.getD (Int.toNat 18) (0 : UInt8)).toNat : Int) = c.fDomain := by
    show (((defL c).getD 18 0).toNat : Int) = _
    rw [b18]; clear hid; omega
  have e0 : ofN ((ByteArray.mk (defL c).toArray).data.toList.getD (Int.toNat 0) (0 : UInt8)).toNat = (bit (!c.fOneStep) + 2 * bit c.fSlaveOnly) % 256 := b0
  have e2 : ofN ((ByteArray.mk (defL c).toArray).data.toList.getD (Int.toNat 2) (0 : UInt8)).toNat = c.fPorts / 256 % 256 := b2
  have e7 : (((ByteArray.mk (defL c).toArray).data.toList.getD (Int.toNat 7) (0 : UInt8)).toNat : Int) = c.fQuality.fVariance / 256 % 256 := b7
  have e8 : (((ByteArray.mk (defL c).toArray).data.toList.getD (Int.toNat 8) (0 : UInt8)).toNat : Int) = c.fQuality.fVariance % 256 := b8
  have i0 : inR 0 (ByteArray.mk (defL c).toArray).size = true := inR_true (by decide) (by rw [size_of, hlen]; decide)
  have i2 : inR 2 (ByteArray.mk (defL c).toArray).size = true := inR_true (by decide) (by rw [size_of, hlen]; decide)
  have i3 : inR 3 (ByteArray.mk (defL c).toArray).size = true := inR_true (by decide) (by rw [size_of, hlen]; decide)
  have i4 : inR 4 (ByteArray.mk (defL c).toArray).size = true := inR_true (by decide) (by rw [size_of, hlen]; decide)
  have i5 : inR 5 (ByteArray.mk (defL c).toArray).size = true := inR_true (by decide) (by rw [size_of, hlen]; decide)
  have i6 : inR 6 (ByteArray.mk (defL c).toArray).size = true := inR_true (by decide) (by rw [size_of, hlen]; decide)
  have i7 : inR 7 (ByteArray.mk (defL c).toArray).size = true := inR_true (by decide) (by rw [size_of, hlen]; decide)
  have i8 : inR 8 (ByteArray.mk (defL c).toArray).size = true := inR_true (by decide) (by rw [size_of, hlen]; decide)
  have i9 : inR 9 (ByteArray.mk (defL c).toArray).size = true := inR_true (by decide) (by rw [size_of, hlen]; decide)
  have i18 : inR 18 (ByteArray.mk (defL c).toArray).size = true := inR_true (by decide) (by rw [size_of, hlen]; decide)
  have hv1 : imul .i64 (c.fQuality.fVariance / 256 % 256) 256 = c.fQuality.fVariance / 256 % 256 * 256 := imul_of (by clear hid; omega)
  have hv2 : iadd .i64 (c.fQuality.fVariance / 256 % 256 * 256) (c.fQuality.fVariance % 256) = c.fQuality.fVariance := by rw [iadd_of (by clear hid; omega)]; clear hid; omega
  have hp0 : c.fPorts / 256 % 256 = 0 := by clear hid; omega
  have W : ∀ x : Int, 0 ≤ x → x < 65536 → IntKind.i64.wrap x = x := fun x h1 h2 => by rw [iwrap]; clear hid; omega
  have w3 := W c.fPorts (by omega) (by omega)
  have w4 := W c.fPriority1 (by omega) (by omega)
  have w5 := W c.fQuality.fClass (by omega) (by omega)
  have w6 := W c.fQuality.fAccuracy (by omega) (by omega)
  have w7 := W (c.fQuality.fVariance / 256 % 256) (by clear hid; omega) (by clear hid; omega)
  have w8 := W (c.fQuality.fVariance % 256) (by clear hid; omega) (by clear hid; omega)
  have w9 := W c.fPriority2 (by omega) (by omega)
  have w18 := W c.fDomain (by omega) (by omega)
  simp only [i0, i2, i3, i4, i5, i6, i7, i8, i9, i18, w3, w4, w5, w6, w7, w8, w9, w18, e0, e2, e3, e4, e5, e6, e7, e8, e9, e18, hv1, hv2, hp0, ieq_self, cond_true]
  cases c.fOneStep <;> cases c.fSlaveOnly <;> rfl

end Go.Proofs.Ytccjnkhodgbghaa
