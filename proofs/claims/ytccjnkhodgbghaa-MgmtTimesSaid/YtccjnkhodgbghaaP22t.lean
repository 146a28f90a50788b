/- Typed forms of the functions that these statements reach, proved equal to what the model runs, and laws over them. -/
import Derived.Test.YtccjnkhodgbghaaS22t
import Derived.Test.YtccjnkhodgbghaaP22e
namespace Go.Proofs.Ytccjnkhodgbghaa
open Go.Rf
set_option linter.unusedVariables false
set_option linter.unusedSimpArgs false
/-! ### times -/
def fb (x : Int) (b : UInt8) : Int := ior .i64 (ishl .i64 x 8) (IntKind.i64.wrap (ofN b.toNat))
theorem fb_of (x : Int) (b : UInt8) (hx : 0 ≤ x ∧ x < 72057594037927936) : fb x b = IntKind.i64.wrap (x * 256 + (b.toNat : Int)) := by
  have hb := UInt8.toNat_lt b
  obtain ⟨n, rfl⟩ := Int.eq_ofNat_of_zero_le hx.1
  have w1 : ∀ m : Int, BitVec.ofInt 64 (IntKind.i64.wrap m) = BitVec.ofInt 64 m := fun m => by
    apply BitVec.eq_of_toNat_eq
    rw [BitVec.toNat_ofInt, BitVec.toNat_ofInt, iwrap]
    omega
  have e2 : IntKind.i64.wrap (ofN b.toNat) = (b.toNat : Int) := wrap_byte b
  have hn : ∀ m : Nat, m < 2 ^ 64 → (BitVec.ofInt 64 (m : Int)).toNat = m := fun m hm => by
    rw [BitVec.toNat_ofInt]
    omega
  unfold fb
  rw [e2]
  unfold ior ishl
  have h0 : (n : Int) * 2 ^ (min (8 : Int).toNat IntKind.i64.bits) = ((2 ^ 8 * n : Nat) : Int) := by
    show (n : Int) * 2 ^ 8 = _
    omega
  rw [h0]
  have : ((BitVec.ofInt IntKind.i64.bits (IntKind.i64.wrap ((2 ^ 8 * n : Nat) : Int)) ||| BitVec.ofInt IntKind.i64.bits (b.toNat : Int)).toNat : Int) = ((2 ^ 8 * n + b.toNat : Nat) : Int) := by
    show ((BitVec.ofInt 64 (IntKind.i64.wrap ((2 ^ 8 * n : Nat) : Int)) ||| BitVec.ofInt 64 (b.toNat : Int)).toNat : Int) = _
    rw [w1, BitVec.toNat_or, hn _ (by omega), hn _ (by omega), Nat.two_pow_add_eq_or_of_lt (by omega)]
  rw [this]
  congr 1
  omega
theorem num_step (l : List UInt8) (at_1 n x : Int) (i : Nat) (a : Nat) (ha : at_1 = a) (hi : (i : Int) < n) (hl : a + i < l.length) (hl2 : l.length < 1000) :
    law22_MgmtTimes_1.step0 ((ByteArray.mk l.toArray, at_1, n, x, (i : Int), ()), ()) = some (.inl ((ByteArray.mk l.toArray, at_1, n, fb x (l.getD (a + i) 0), ((i + 1 : Nat) : Int), ()), ())) := by
  subst ha
  have e1 : iadd .i64 (i : Int) 1 = ((i + 1 : Nat) : Int) := by rw [iadd_of (by omega)]; omega
  have e2 : iadd .i64 (a : Int) (i : Int) = ((a + i : Nat) : Int) := by rw [iadd_of (by omega)]; omega
  unfold law22_MgmtTimes_1.step0
  simp only [ilt_true hi, e1, e2, inR_true (show (0 : Int) ≤ ((a + i : Nat) : Int) by omega) (show ((a + i : Nat) : Int) < ((ByteArray.mk l.toArray).size : Int) by rw [size_of]; omega), cond_true, Int.toNat_natCast]
  rfl
theorem num_spec (l : List UInt8) (a n : Nat) (hl : a + n ≤ l.length) (hl2 : l.length < 1000) :
    law22_MgmtTimes_1 (ByteArray.mk l.toArray) (a : Int) (n : Int) = some ((((l.drop a).take n).foldl fb 0, ()), (), ()) := by
  obtain ⟨r, h1, h2⟩ := loopFix_rule (step := law22_MgmtTimes_1.step0) (Inv := fun s => ∃ (i : Nat) (x : Int), s = ((ByteArray.mk l.toArray, (a : Int), (n : Int), x, (i : Int), ()), ()) ∧ i ≤ n ∧ ((l.drop (a + i)).take (n - i)).foldl fb x = ((l.drop a).take n).foldl fb 0)
    (Post := fun r => r = ((((l.drop a).take n).foldl fb 0, ()), ())) (m := fun s => (s.1.2.2.1 - s.1.2.2.2.2.1).toNat) (by
      rintro s ⟨i, x, rfl, hi, hx⟩
      by_cases h : i < n
      · refine .inl ⟨_, num_step l _ _ x i a rfl (by omega) (by omega) hl2, ⟨i + 1, _, rfl, by omega, ?_⟩, by simp only; omega⟩
        rw [← hx]
        have hd : l.drop (a + i) = l.getD (a + i) 0 :: l.drop (a + (i + 1)) := by
          rw [List.drop_eq_getElem_cons (show a + i < l.length by omega), List.getD_eq_getElem?_getD, List.getElem?_eq_getElem (show a + i < l.length by omega), Option.getD_some]
          rfl
        rw [hd, show n - i = (n - (i + 1)) + 1 by omega, List.take_succ_cons, List.foldl_cons]
      · refine .inr ⟨_, ?_, rfl⟩
        unfold law22_MgmtTimes_1.step0
        simp only [ilt_false (show ¬ (i : Int) < (n : Int) by omega), cond_false]
        rw [← hx, show n - i = 0 by omega, List.take_zero, List.foldl_nil]) (1000000 + (ByteArray.mk l.toArray).size) ((ByteArray.mk l.toArray, (a : Int), (n : Int), 0, 0, ()), ()) ⟨0, 0, rfl, Nat.zero_le _, rfl⟩ (by simp only; omega)
  subst h2
  unfold law22_MgmtTimes_1 law22_MgmtTimes_1.gen
  have h1 : law22_MgmtTimes_1.F0 ((ByteArray.mk l.toArray, (a : Int), (n : Int), 0, 0, ()), ()) = _ := h1
  rw [h1, oelim_some]
theorem fb_small (x : Int) (b : UInt8) (d : Int) (hx : 0 ≤ x ∧ x < 36028797018963968) (hd : (b.toNat : Int) = d) : fb x b = x * 256 + d := by
  have hb := UInt8.toNat_lt b
  rw [fb_of x b (by omega), iwrap]; omega
theorem byte_k (v : Int) (k : Nat) (hk : k < 8) : ((byteI (ishr .i64 v (8 * (k : Int)))).toNat : Int) = v / 256 ^ k % 256 := byte_at v k hk
theorem fold2 (v : Int) : (be v 2).foldl fb 0 = v % 65536 := by
  have d1 := byte_k v 1 (by decide)
  have d0 := byte_k v 0 (by decide)
  simp only [Int.reducePow, Int.pow_zero, Int.ediv_one] at d1 d0
  simp only [be, List.foldl_cons, List.foldl_nil]
  rw [fb_small 0 _ _ (by omega) d1, fb_small _ _ _ (by omega) d0]
  omega
theorem fold4 (v : Int) : (be v 4).foldl fb 0 = v % 4294967296 := by
  have d3 := byte_k v 3 (by decide)
  have d2 := byte_k v 2 (by decide)
  have d1 := byte_k v 1 (by decide)
  have d0 := byte_k v 0 (by decide)
  simp only [Int.reducePow, Int.pow_zero, Int.ediv_one] at d3 d2 d1 d0
  simp only [be, List.foldl_cons, List.foldl_nil]
  rw [fb_small 0 _ _ (by omega) d3, fb_small _ _ _ (by omega) d2, fb_small _ _ _ (by omega) d1, fb_small _ _ _ (by omega) d0]
  omega
theorem fold6 (v : Int) : (be v 6).foldl fb 0 = v % 281474976710656 := by
  have d5 := byte_k v 5 (by decide)
  have d4 := byte_k v 4 (by decide)
  have d3 := byte_k v 3 (by decide)
  have d2 := byte_k v 2 (by decide)
  have d1 := byte_k v 1 (by decide)
  have d0 := byte_k v 0 (by decide)
  simp only [Int.reducePow, Int.pow_zero, Int.ediv_one] at d5 d4 d3 d2 d1 d0
  simp only [be, List.foldl_cons, List.foldl_nil]
  rw [fb_small 0 _ _ (by omega) d5, fb_small _ _ _ (by omega) d4, fb_small _ _ _ (by omega) d3, fb_small _ _ _ (by omega) d2, fb_small _ _ _ (by omega) d1, fb_small _ _ _ (by omega) d0]
  omega
theorem fold8' (b7 b6 b5 b4 b3 b2 b1 b0 : UInt8) : [b7, b6, b5, b4, b3, b2, b1, b0].foldl fb 0 = IntKind.i64.wrap ((((((((0 * 256 + (b7.toNat : Int)) * 256 + b6.toNat) * 256 + b5.toNat) * 256 + b4.toNat) * 256 + b3.toNat) * 256 + b2.toNat) * 256 + b1.toNat) * 256 + b0.toNat) := by
  have h7 := UInt8.toNat_lt b7
  have h6 := UInt8.toNat_lt b6
  have h5 := UInt8.toNat_lt b5
  have h4 := UInt8.toNat_lt b4
  have h3 := UInt8.toNat_lt b3
  have h2 := UInt8.toNat_lt b2
  have h1 := UInt8.toNat_lt b1
  simp only [List.foldl_cons, List.foldl_nil]
  rw [fb_small 0 b7 _ (by omega) rfl, fb_small _ b6 _ (by omega) rfl, fb_small _ b5 _ (by omega) rfl, fb_small _ b4 _ (by omega) rfl, fb_small _ b3 _ (by omega) rfl, fb_small _ b2 _ (by omega) rfl, fb_small _ b1 _ (by omega) rfl, fb_of _ b0 (by omega)]
theorem fold8 (v : Int) : (be v 8).foldl fb 0 = IntKind.i64.wrap v := by
  have d7 := byte_k v 7 (by decide)
  have d6 := byte_k v 6 (by decide)
  have d5 := byte_k v 5 (by decide)
  have d4 := byte_k v 4 (by decide)
  have d3 := byte_k v 3 (by decide)
  have d2 := byte_k v 2 (by decide)
  have d1 := byte_k v 1 (by decide)
  have d0 := byte_k v 0 (by decide)
  simp only [Int.reducePow, Int.pow_zero, Int.ediv_one] at d7 d6 d5 d4 d3 d2 d1 d0
  have h := id_back v _ _ _ _ _ _ _ _ d7 d6 d5 d4 d3 d2 d1 d0
  clear d7 d6 d5 d4 d3 d2 d1 d0
  show [_, _, _, _, _, _, _, _].foldl fb 0 = _
  rw [fold8', h, iwrap, iwrap]
  clear h
  omega

theorem wrap2 (n : Int) : IntKind.i64.wrap (IntKind.i64.wrap n) = IntKind.i64.wrap n := by rw [iwrap, iwrap]; omega
theorem law22_MgmtTimes.law : ∀ (c : api_Conf) (p : api_Parent) (offset : Int) (now : Int), api_Conf.Wf c → api_Parent.Wf p → (Lit.int .i64 offset).wf = true → (Lit.int .i64 now).wf = true → law22_MgmtTimes c p offset now = some ((true, ()), (), ()) := by
  intro c p offset now _ _ _ _
  unfold law22_MgmtTimes law22_MgmtTimes.gen
  simp only [ref_conf_spec, awake_true, oelim_some, answer_spec]
  cases hok : okC c
  · simp [n15_0]
  generalize ht : iand .i64 now 1125899906842623 = t
  generalize ho : iand .i64 offset 1073741823 = o
  generalize hs : iand .i64 p.fSteps 65535 = s
  have ht' : 0 ≤ t ∧ t < 1125899906842624 := by
    have h := iand_low now 50 (by decide)
    have h : iand .i64 now 1125899906842623 = now % 1125899906842624 := h
    omega
  have ho' : 0 ≤ o ∧ o < 1073741824 := by
    have h := iand_low offset 30 (by decide)
    have h : iand .i64 offset 1073741823 = offset % 1073741824 := h
    omega
  have hs' : 0 ≤ s ∧ s < 65536 := by
    have h := iand_65535 p.fSteps
    omega
  generalize hv : mgmt_View.mk c _ o 0 t 0 0 0 = v
  have e1 : tellL v 8207 = be (t / 1000000000) 6 ++ be (t % 1000000000) 4 := by
    rw [← hv]
    show be (stampT t / 1000000000) 6 ++ be (stampT t % 1000000000) 4 = _
    rw [stampT, if_pos (by omega)]
  have e2 : tellL v 8193 = be s 2 ++ be (o * 65536) 8 ++ be 0 8 := by
    rw [← hv]
    show be s 2 ++ be (scaledI o) 8 ++ be (scaledI 0) 8 = _
    rw [show scaledI 0 = 0 from by decide, scaledI, if_neg (by omega), if_neg (by omega)]
  have e3 : tellL v 8194 = idL p.fPort ++ be 65535 4 ++ be 2147483647 4 ++ be p.fPriority1 1 ++ qL p.fQuality ++ be p.fPriority2 1 ++ be (IntKind.i64.wrap p.fGrand) 8 := by
    rw [← hv]; rfl
  have a1 := ans_get v 8207 (ByteArray.mk (lnil UInt8).toArray) (by decide) (.inl (by decide))
  have a2 := ans_get v 8193 (ByteArray.mk (lnil UInt8).toArray) (by decide) (.inl (by decide))
  have a3 := ans_get v 8194 (ByteArray.mk (lnil UInt8).toArray) (by decide) (.inl (by decide))
  have l1 : (tellL v 8207).length = 10 := by rw [e1]; simp [be_length]
  have l2 : (tellL v 8193).length = 18 := by rw [e2]; simp [be_length]
  have l3 : (tellL v 8194).length = 32 := by rw [e3]; simp [be_length, idL, qL]
  have N : ∀ (l : List UInt8) (a n : Nat) (b : List UInt8) (x : Int), a + n ≤ l.length → l.length < 1000 → (l.drop a).take n = b → b.foldl fb 0 = x → law22_MgmtTimes_1 (ByteArray.mk l.toArray) (a : Int) (n : Int) = some ((x, ()), (), ()) := fun l a n b x h1 h2 h3 h4 => by
    rw [num_spec l a n h1 h2, h3, h4]
  have m1 : law22_MgmtTimes_1 (ByteArray.mk (tellL v 8207).toArray) 0 6 = _ := N (tellL v 8207) 0 6 (be (t / 1000000000) 6) _ (by omega) (by omega) (by rw [e1]; rfl) (fold6 _)
  have m2 : law22_MgmtTimes_1 (ByteArray.mk (tellL v 8207).toArray) 6 4 = _ := N (tellL v 8207) 6 4 (be (t % 1000000000) 4) _ (by omega) (by omega) (by rw [e1]; rfl) (fold4 _)
  have m3 : law22_MgmtTimes_1 (ByteArray.mk (tellL v 8193).toArray) 0 2 = _ := N (tellL v 8193) 0 2 (be s 2) _ (by omega) (by omega) (by rw [e2]; rfl) (fold2 _)
  have m4 : law22_MgmtTimes_1 (ByteArray.mk (tellL v 8193).toArray) 2 8 = _ := N (tellL v 8193) 2 8 (be (o * 65536) 8) _ (by omega) (by omega) (by rw [e2]; rfl) (fold8 _)
  have m5 : law22_MgmtTimes_1 (ByteArray.mk (tellL v 8194).toArray) 24 8 = _ := N (tellL v 8194) 24 8 (be (IntKind.i64.wrap p.fGrand) 8) _ (by omega) (by omega) (by rw [e3]; rfl) (fold8 _)
  have m6 : law22_MgmtTimes_1 (ByteArray.mk (tellL v 8194).toArray) 0 8 = _ := N (tellL v 8194) 0 8 (be (IntKind.i64.wrap p.fPort.fClock) 8) _ (by omega) (by omega) (by rw [e3]; rfl) (fold8 _)
  have z1 : ine (ofN (ByteArray.mk (tellL v 8207).toArray).size) 10 = false := ine_false (by rw [size_of, l1]; rfl)
  have z2 : ine (ofN (ByteArray.mk (tellL v 8193).toArray).size) 18 = false := ine_false (by rw [size_of, l2]; rfl)
  have z3 : ine (ofN (ByteArray.mk (tellL v 8194).toArray).size) 32 = false := ine_false (by rw [size_of, l3]; rfl)
  have q1 : iadd .i64 (imul .i64 (t / 1000000000 % 281474976710656) 1000000000) (t % 1000000000 % 4294967296) = t := by
    rw [imul_of (by omega), iadd_of (by omega)]; omega
  have q3 : s % 65536 = s := by omega
  have q4 : IntKind.i64.wrap (o * 65536) = imul .i64 o 65536 := rfl
  simp only [a1, a2, a3, pk, oelim_some, m1, m2, m3, m4, m5, m6, z1, z2, z3, n0_0, cond_false, cond_true, if_true, q1, q3, q4, wrap2, ieq_self]

end Go.Proofs.Ytccjnkhodgbghaa
