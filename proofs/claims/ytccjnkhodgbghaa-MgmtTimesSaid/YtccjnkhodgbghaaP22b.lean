/- Typed forms of the functions that these statements reach, proved equal to what the model runs, and laws over them. -/
import Derived.Test.YtccjnkhodgbghaaP22a
namespace Go.Proofs.Ytccjnkhodgbghaa
open Go.Rf
set_option linter.unusedVariables false
set_option linter.unusedSimpArgs false
/-! ### what is told -/
def bit (b : Bool) : Int := if b then 1 else 0
theorem bits1 (a : Bool) : mgmt_bits (a :: lnil Bool) = some ((bit a, ()), (), ()) := by cases a <;> kernel_rfl
theorem bits2 (a b : Bool) : mgmt_bits (a :: b :: lnil Bool) = some ((bit a + 2 * bit b, ()), (), ()) := by cases a <;> cases b <;> kernel_rfl
theorem one_spec (b : List UInt8) (v : Int) (hb : b.length < 1000) : mgmt_one b v = some ((b ++ be v 1, ()), (), ()) := by
  have h := put_spec b v 1 (by omega) (by omega)
  unfold mgmt_one mgmt_one.gen
  rw [show ((1 : Nat) : Int) = 1 from rfl] at h
  simp only [h, oelim_some]
theorem put2 (b : List UInt8) (v : Int) (hb : b.length < 1000) : octets_Put b v 2 = some ((b ++ be v 2, ()), (), ()) := put_spec b v 2 (by omega) (by omega)
theorem put4 (b : List UInt8) (v : Int) (hb : b.length < 1000) : octets_Put b v 4 = some ((b ++ be v 4, ()), (), ()) := put_spec b v 4 (by omega) (by omega)
theorem put6 (b : List UInt8) (v : Int) (hb : b.length < 1000) : octets_Put b v 6 = some ((b ++ be v 6, ()), (), ()) := put_spec b v 6 (by omega) (by omega)
theorem put8 (b : List UInt8) (v : Int) (hb : b.length < 1000) : octets_Put b v 8 = some ((b ++ be v 8, ()), (), ()) := put_spec b v 8 (by omega) (by omega)
theorem put1 (b : List UInt8) (v : Int) (hb : b.length < 1000) : octets_Put b v 1 = some ((b ++ be v 1, ()), (), ()) := put_spec b v 1 (by omega) (by omega)
theorem putId (b : List UInt8) (v : Int) (hb : b.length < 1000) : octets_PutId b v = some ((b ++ be (IntKind.i64.wrap v) 8, ()), (), ()) := by
  unfold octets_PutId octets_PutId.gen
  simp only [put8 b _ hb, oelim_some]
def qL (q : api_Quality) : List UInt8 := be q.fClass 1 ++ be q.fAccuracy 1 ++ be q.fVariance 2
def idL (p : api_PortID) : List UInt8 := be (IntKind.i64.wrap p.fClock) 8 ++ be p.fPort 2
theorem quality_put (b : List UInt8) (q : api_Quality) (hb : b.length < 900) : quality_Put b q = some ((b ++ qL q, ()), (), ()) := by
  unfold quality_Put quality_Put.gen
  simp only [put1 b q.fClass (by omega), put1 (b ++ be q.fClass 1) q.fAccuracy (by simp [be_length]; omega), put2 (b ++ be q.fClass 1 ++ be q.fAccuracy 1) q.fVariance (by simp [be_length]; omega), oelim_some]
  simp [qL]
theorem ident_put (b : List UInt8) (p : api_PortID) (hb : b.length < 900) : ident_Put b p = some ((b ++ idL p, ()), (), ()) := by
  unfold ident_Put ident_Put.gen
  simp only [putId b p.fClock (by omega), put2 (b ++ be (IntKind.i64.wrap p.fClock) 8) p.fPort (by simp [be_length]; omega), oelim_some]
  simp [idL]
def scaledI (v : Int) : Int := if 140737488355327 < v then 9223372036854775807 else if v < -140737488355328 then -9223372036854775808 else v * 65536
theorem scaled_spec (v : Int) : mgmt_scaled v = some ((scaledI v, ()), (), ()) := by
  unfold mgmt_scaled mgmt_scaled.gen scaledI
  by_cases h1 : 140737488355327 < v
  · rw [ilt_true h1, if_pos h1]; rfl
  · rw [ilt_false h1, if_neg h1]
    by_cases h2 : v < -140737488355328
    · rw [ilt_true h2, if_pos h2]; rfl
    · rw [ilt_false h2, if_neg h2, imul_of (by omega)]; rfl
def stampT (t : Int) : Int := if 0 ≤ t ∧ t ≤ 4000000000000000 then t else 0
theorem stamp_put (b : List UInt8) (t : Int) (hb : b.length < 900) : stamp_Put b t = some ((b ++ (be (stampT t / 1000000000) 6 ++ be (stampT t % 1000000000) 4), ()), (), ()) := by
  have hm : stamp_May t = some ((decide (0 ≤ t ∧ t ≤ 4000000000000000), ()), (), ()) := by
    unfold stamp_May stamp_May.gen
    by_cases h1 : 0 ≤ t
    · rw [ile_true h1]; simp [ile, h1]
    · rw [ile_false h1]; simp [h1]
  have hd : ∀ x : Int, 0 ≤ x → x ≤ 4000000000000000 → iquo .i64 x 1000000000 = x / 1000000000 ∧ irem x 1000000000 = x % 1000000000 := fun x h1 h2 => by
    have e1 : x.tdiv 1000000000 = x / 1000000000 := Int.tdiv_eq_ediv_of_nonneg h1
    have e2 : x.tmod 1000000000 = x % 1000000000 := Int.tmod_eq_emod_of_nonneg h1
    refine ⟨?_, e2⟩
    show IntKind.i64.wrap (x.tdiv 1000000000) = _
    rw [e1, iwrap]
    omega
  unfold stamp_Put stamp_Put.gen
  simp only [hm, oelim_some]
  by_cases h : 0 ≤ t ∧ t ≤ 4000000000000000
  · obtain ⟨e1, e2⟩ := hd t h.1 h.2
    simp only [decide_eq_true h, Bool.not_true, cond_false, e1, e2, put6 b _ (show b.length < 1000 by omega), put4 (b ++ be (t / 1000000000) 6) _ (by simp [be_length]; omega), oelim_some, stampT, if_pos h]
    simp
  · obtain ⟨e1, e2⟩ := hd 0 (by omega) (by omega)
    simp only [decide_eq_false h, Bool.not_false, cond_true, e1, e2, put6 b _ (show b.length < 1000 by omega), put4 (b ++ be (0 / 1000000000) 6) _ (by simp [be_length]; omega), oelim_some, stampT, if_neg h]
    simp

def twoL (n : Int) : List UInt8 := be n 1 ++ be 0 1
theorem two_spec (n : Int) : (oelim (mgmt_one (lnil UInt8) n) none fun r0 => oelim (mgmt_one r0.1.1 0) none fun r1 => some ((r1.1.1, ()), (), ())) = (some ((twoL n, ()), (), ()) : Option ((List UInt8 × Unit) × Unit × Unit)) := by
  simp only [one_spec [] n (by simp), one_spec (be n 1) 0 (by simp [be_length]), oelim_some, List.nil_append, twoL]
def smallL (c : api_Conf) (id : Int) : List UInt8 :=
  if id = 8197 then twoL c.fPriority1 else if id = 8198 then twoL c.fPriority2 else if id = 8199 then twoL c.fDomain else if id = 8200 then twoL (bit c.fSlaveOnly) else if id = 8201 then twoL c.fLogAnn
  else if id = 8202 then twoL c.fTimeout else if id = 8203 then twoL c.fLogSync else if id = 8204 then twoL 2 else if id = 8208 then twoL c.fQuality.fAccuracy else []
theorem small_spec (c : api_Conf) (id : Int) : mgmt_small c id = some ((smallL c id, ()), (), ()) := by
  unfold mgmt_small mgmt_small.gen smallL
  simp only [bits1, two_spec, oelim_some]
  by_cases h1 : id = 8197
  · rw [ieq_true h1, if_pos h1]; rfl
  rw [ieq_false h1, if_neg h1]
  by_cases h2 : id = 8198
  · rw [ieq_true h2, if_pos h2]; rfl
  rw [ieq_false h2, if_neg h2]
  by_cases h3 : id = 8199
  · rw [ieq_true h3, if_pos h3]; rfl
  rw [ieq_false h3, if_neg h3]
  by_cases h4 : id = 8200
  · rw [ieq_true h4, if_pos h4]; rfl
  rw [ieq_false h4, if_neg h4]
  by_cases h5 : id = 8201
  · rw [ieq_true h5, if_pos h5]; rfl
  rw [ieq_false h5, if_neg h5]
  by_cases h6 : id = 8202
  · rw [ieq_true h6, if_pos h6]; rfl
  rw [ieq_false h6, if_neg h6]
  by_cases h7 : id = 8203
  · rw [ieq_true h7, if_pos h7]; rfl
  rw [ieq_false h7, if_neg h7]
  by_cases h8 : id = 8204
  · rw [ieq_true h8, if_pos h8]; rfl
  rw [ieq_false h8, if_neg h8]
  by_cases h9 : id = 8208
  · rw [ieq_true h9, if_pos h9]; rfl
  rw [ieq_false h9, if_neg h9]; rfl

def defL (c : api_Conf) : List UInt8 := be (bit (!c.fOneStep) + 2 * bit c.fSlaveOnly) 1 ++ be 0 1 ++ be c.fPorts 2 ++ be c.fPriority1 1 ++ qL c.fQuality ++ be c.fPriority2 1 ++ be (IntKind.i64.wrap c.fClock) 8 ++ be c.fDomain 1 ++ be 0 1
def curL (v : mgmt_View) : List UInt8 := be v.fParent.fSteps 2 ++ be (scaledI v.fOffset) 8 ++ be (scaledI v.fDelay) 8
def parL (v : mgmt_View) : List UInt8 := idL v.fParent.fPort ++ be 65535 4 ++ be 2147483647 4 ++ be v.fParent.fPriority1 1 ++ qL v.fParent.fQuality ++ be v.fParent.fPriority2 1 ++ be (IntKind.i64.wrap v.fParent.fGrand) 8
def timL (v : mgmt_View) : List UInt8 := be v.fParent.fTimes.fUtc 2 ++ be (iand .i64 v.fParent.fTimes.fFlags 63) 1 ++ be v.fParent.fTimes.fOrigin 1
def porL (v : mgmt_View) : List UInt8 := idL ⟨v.fConf.fClock, v.fPort⟩ ++ be v.fState 1 ++ be v.fConf.fLogDelay 1 ++ be (scaledI v.fPeer) 8 ++ be v.fConf.fLogAnn 1 ++ be v.fConf.fTimeout 1 ++ be v.fConf.fLogSync 1 ++ be (iadd .i64 1 (bit v.fConf.fPeer)) 1 ++ be v.fConf.fLogDelay 1 ++ be 2 1
def nowL (v : mgmt_View) : List UInt8 := be (stampT v.fNow / 1000000000) 6 ++ be (stampT v.fNow % 1000000000) 4
def tellL (v : mgmt_View) (id : Int) : List UInt8 :=
  if id = 8192 then defL v.fConf else if id = 8193 then curL v else if id = 8194 then parL v else if id = 8195 then timL v else if id = 8196 then porL v else if id = 8207 then nowL v else smallL v.fConf id

theorem tell_spec (v : mgmt_View) (id : Int) : mgmt_tell v id = some ((tellL v id, ()), (), ()) := by
  have L : ∀ (l : List UInt8) (v : Int) (k : Nat) (n : Nat), l.length < n → (l ++ be v k).length < n + k := fun l v k n h => by simp [be_length]; omega
  have Q : ∀ (l : List UInt8) (q : api_Quality) (n : Nat), l.length < n → (l ++ qL q).length < n + 4 := fun l q n h => by simp [be_length, qL]; omega
  have I : ∀ (p : api_PortID), (idL p).length < 11 := fun p => by simp [be_length, idL]
  unfold mgmt_tell mgmt_tell.gen tellL
  by_cases h1 : id = 8192
  · rw [ieq_true h1, if_pos h1]
    have l1 : (be (bit (!v.fConf.fOneStep) + 2 * bit v.fConf.fSlaveOnly) 1).length < 2 := by simp [be_length]
    have l2 := L _ 0 1 _ l1
    have l3 := L _ v.fConf.fPorts 2 _ l2
    have l4 := L _ v.fConf.fPriority1 1 _ l3
    have l5 := Q _ v.fConf.fQuality _ l4
    have l6 := L _ v.fConf.fPriority2 1 _ l5
    have l7 := L _ (IntKind.i64.wrap v.fConf.fClock) 8 _ l6
    have l8 := L _ v.fConf.fDomain 1 _ l7
    simp only [bits2, oelim_some, cond_true, one_spec [] _ (show ([] : List UInt8).length < 1000 by decide), List.nil_append, one_spec _ _ (Nat.lt_of_lt_of_le l1 (by decide)), put2 _ _ (Nat.lt_of_lt_of_le l2 (by decide)), one_spec _ _ (Nat.lt_of_lt_of_le l3 (by decide)),
      quality_put _ _ (Nat.lt_of_lt_of_le l4 (by decide)), one_spec _ _ (Nat.lt_of_lt_of_le l5 (by decide)), putId _ _ (Nat.lt_of_lt_of_le l6 (by decide)), one_spec _ _ (Nat.lt_of_lt_of_le l7 (by decide)), one_spec _ _ (Nat.lt_of_lt_of_le l8 (by decide)), defL]
  rw [ieq_false h1, if_neg h1]
  by_cases h2 : id = 8193
  · rw [ieq_true h2, if_pos h2]
    have l1 : (be v.fParent.fSteps 2).length < 3 := by simp [be_length]
    have l2 := L _ (scaledI v.fOffset) 8 _ l1
    simp only [oelim_some, cond_true, cond_false, put2 [] _ (show ([] : List UInt8).length < 1000 by decide), List.nil_append, scaled_spec, put8 _ _ (Nat.lt_of_lt_of_le l1 (by decide)), put8 _ _ (Nat.lt_of_lt_of_le l2 (by decide)), curL]
  rw [ieq_false h2, if_neg h2]
  by_cases h3 : id = 8194
  · rw [ieq_true h3, if_pos h3]
    have l1 := I v.fParent.fPort
    have l2 := L _ 65535 4 _ l1
    have l3 := L _ 2147483647 4 _ l2
    have l4 := L _ v.fParent.fPriority1 1 _ l3
    have l5 := Q _ v.fParent.fQuality _ l4
    have l6 := L _ v.fParent.fPriority2 1 _ l5
    simp only [oelim_some, cond_true, cond_false, ident_put [] _ (show ([] : List UInt8).length < 900 by decide), List.nil_append, put4 _ _ (Nat.lt_of_lt_of_le l1 (by decide)), put4 _ _ (Nat.lt_of_lt_of_le l2 (by decide)), one_spec _ _ (Nat.lt_of_lt_of_le l3 (by decide)),
      quality_put _ _ (Nat.lt_of_lt_of_le l4 (by decide)), one_spec _ _ (Nat.lt_of_lt_of_le l5 (by decide)), putId _ _ (Nat.lt_of_lt_of_le l6 (by decide)), parL]
  rw [ieq_false h3, if_neg h3]
  by_cases h4 : id = 8195
  · rw [ieq_true h4, if_pos h4]
    have l1 : (be v.fParent.fTimes.fUtc 2).length < 3 := by simp [be_length]
    have l2 := L _ (iand .i64 v.fParent.fTimes.fFlags 63) 1 _ l1
    simp only [oelim_some, cond_true, cond_false, put2 [] _ (show ([] : List UInt8).length < 1000 by decide), List.nil_append, one_spec _ _ (Nat.lt_of_lt_of_le l1 (by decide)), one_spec _ _ (Nat.lt_of_lt_of_le l2 (by decide)), timL]
  rw [ieq_false h4, if_neg h4]
  by_cases h5 : id = 8196
  · rw [ieq_true h5, if_pos h5]
    have l1 := I ⟨v.fConf.fClock, v.fPort⟩
    have l2 := L _ v.fState 1 _ l1
    have l3 := L _ v.fConf.fLogDelay 1 _ l2
    have l4 := L _ (scaledI v.fPeer) 8 _ l3
    have l5 := L _ v.fConf.fLogAnn 1 _ l4
    have l6 := L _ v.fConf.fTimeout 1 _ l5
    have l7 := L _ v.fConf.fLogSync 1 _ l6
    have l8 := L _ (iadd .i64 1 (bit v.fConf.fPeer)) 1 _ l7
    have l9 := L _ v.fConf.fLogDelay 1 _ l8
    simp only [oelim_some, cond_true, cond_false, bits1, scaled_spec, ident_put [] _ (show ([] : List UInt8).length < 900 by decide), List.nil_append, one_spec _ _ (Nat.lt_of_lt_of_le l1 (by decide)), one_spec _ _ (Nat.lt_of_lt_of_le l2 (by decide)), put8 _ _ (Nat.lt_of_lt_of_le l3 (by decide)),
      one_spec _ _ (Nat.lt_of_lt_of_le l4 (by decide)), one_spec _ _ (Nat.lt_of_lt_of_le l5 (by decide)), one_spec _ _ (Nat.lt_of_lt_of_le l6 (by decide)), one_spec _ _ (Nat.lt_of_lt_of_le l7 (by decide)), one_spec _ _ (Nat.lt_of_lt_of_le l8 (by decide)), one_spec _ _ (Nat.lt_of_lt_of_le l9 (by decide)), porL]
  rw [ieq_false h5, if_neg h5]
  by_cases h6 : id = 8207
  · rw [ieq_true h6, if_pos h6]
    simp only [oelim_some, cond_true, cond_false, stamp_put [] _ (show ([] : List UInt8).length < 900 by decide), List.nil_append, nowL]
  rw [ieq_false h6, if_neg h6]
  simp only [cond_false, small_spec, oelim_some]

end Go.Proofs.Ytccjnkhodgbghaa
