/- Typed forms of the functions that these statements reach, proved equal to what the model runs, and laws over them. -/
import Derived.Test.YtblbndgnfgoklaaS18
import Derived.Test.YtblbndgnfgoklaaAr2
namespace Go.Proofs.Ytblbndgnfgoklaa
open Go.Rf
set_option linter.unusedVariables false
set_option linter.unusedSimpArgs false
theorem place_spec (v n : Int) (hn : 0 < n) (hn2 : n ≤ 4611686018427387904) : law00_Place v n = some ((v % n, ()), (), ()) := by
  have h1 : ine n 0 = true := ine_true (by omega)
  have h2 := Int.emod_nonneg v (Int.ne_of_gt hn)
  have h3 := Int.emod_lt_of_pos v hn
  obtain ⟨h4, h5⟩ := tmod_place v n hn
  unfold law00_Place law00_Place.gen
  rw [h1]
  simp only [cond_true]
  by_cases hc : v.tmod n < 0
  · have e : iadd .i64 (irem v n) n = v % n := by
      have := h4 hc
      rw [iadd_of] <;> simp only [irem] <;> omega
    rw [show ilt (irem v n) 0 = true from ilt_true hc, e]; simp only [cond_true]
  · rw [show ilt (irem v n) 0 = false from ilt_false hc, show irem v n = v % n from h5 hc]; simp only [cond_false]
theorem stamp_add_sat (a b : Int) (ha : R64 a) (hb : R64 b) : stamp_Add a b = some ((sat a b, ()), (), ()) := by
  unfold stamp_Add stamp_Add.gen sat
  by_cases h1 : 0 < b
  · have e1 : isub .i64 9223372036854775807 b = 9223372036854775807 - b := isub_of (by omega)
    simp only [ilt_true h1, e1, cond_true]
    by_cases h2 : 9223372036854775807 - b < a
    · rw [ilt_true h2, if_pos (by omega)]; simp
    · rw [ilt_false h2, ilt_false (show ¬ b < 0 by omega), if_neg (by omega), if_neg (by omega), iadd_of (by omega)]; simp
  · simp only [ilt_false h1, cond_false]
    by_cases h2 : b < 0
    · have e1 : isub .i64 (-9223372036854775808) b = -9223372036854775808 - b := isub_of (by omega)
      simp only [ilt_true h2, e1, cond_true]
      by_cases h3 : a < -9223372036854775808 - b
      · rw [ilt_true h3, if_neg (by omega), if_pos (by omega)]; simp
      · rw [ilt_false h3, if_neg (by omega), if_neg (by omega), iadd_of (by omega)]; simp
    · rw [ilt_false h2, if_neg (by omega), if_neg (by omega), iadd_of (by omega)]; simp
theorem floor_spec (a : Int) : stamp_Floor a = some ((a / 65536, ()), (), ()) := by
  show some ((ishr .i64 a 16, ()), (), ()) = _
  rw [ishr16]
theorem awake_true : law18_awake = some ((true, ()), (), ()) := by kernel_rfl

theorem law18_PeerOnce.law : ∀ (me : api_PortID) (you : api_PortID) (n : Int) (other : api_PortID), api_PortID.Wf me → api_PortID.Wf you → (Lit.int .i64 n).wf = true → api_PortID.Wf other → law18_PeerOnce me you n other = some ((true, ()), (), ()) := by
  intro me you n other _ _ _ _
  unfold law18_PeerOnce law18_PeerOnce.gen
  have h0 : 0 ≤ n % 65536 ∧ n % 65536 < 65536 := by omega
  have hm : stamp_May 10 = some ((true, ()), (), ()) := by kernel_rfl
  simp only [peer_New, peer_New.gen, peer_Exchange_Request, peer_Exchange_Request.gen, peer_Exchange_Clear, peer_Exchange_Clear.gen, oelim_some, iand_65535, show n % 65536 % 65536 = n % 65536 by omega]
  generalize n % 65536 = k at *
  have h1 : iadd .i64 k 1 = k + 1 := iadd_of (by omega)
  have h2 : ieq ((k + 1) % 65536) k = false := ieq_false (by omega)
  have h3 : ine ((k + 1) % 65536) k = true := ine_true (by omega)
  cases h4 : ieq other.fClock me.fClock <;> cases h5 : ieq other.fPort me.fPort <;>
  simp [peer_Exchange_Sent, peer_Exchange_Sent.gen, peer_Answer, peer_Answer.gen, peer_Exchange_Response, peer_Exchange_Response.gen, peer_Exchange_mine, peer_Exchange_mine.gen, oelim_some, hm, ieq_self, ine_self, h1, h2, h3, h4, h5, awake_true]

theorem law18_PeerRound.law : ∀ (me : api_PortID) (you : api_PortID) (n : Int) (t : Int) (way : Int) (wait : Int) (ahead : Int), api_PortID.Wf me → api_PortID.Wf you → (Lit.int .i64 n).wf = true → (Lit.int .i64 t).wf = true → (Lit.int .i64 way).wf = true → (Lit.int .i64 wait).wf = true → (Lit.int .i64 ahead).wf = true → law18_PeerRound me you n t way wait ahead = some ((true, ()), (), ()) := by
  intro me you n t way wait ahead _ _ _ _ _ _ _
  unfold law18_PeerRound law18_PeerRound.gen
  have ht : 0 ≤ t % 1099511627776 ∧ t % 1099511627776 < 1099511627776 := by omega
  have hd : 0 ≤ way % 1048576 ∧ way % 1048576 < 1048576 := by omega
  have hw : 0 ≤ wait % 1073741824 ∧ wait % 1073741824 < 1073741824 := by omega
  have ho : 0 ≤ ahead % 1099511627776 ∧ ahead % 1099511627776 < 1099511627776 := by omega
  simp only [place_spec t 1099511627776 (by decide) (by decide), place_spec way 1048576 (by decide) (by decide), place_spec wait 1073741824 (by decide) (by decide), place_spec ahead 1099511627776 (by decide) (by decide),
    peer_New, peer_New.gen, peer_Exchange_Request, peer_Exchange_Request.gen, peer_Exchange_Clear, peer_Exchange_Clear.gen, oelim_some, iand_65535]
  generalize t % 1099511627776 = s at *
  generalize way % 1048576 = d at *
  generalize wait % 1073741824 = w at *
  generalize ahead % 1099511627776 = o at *
  generalize n % 65536 = k at *
  have e1 : iadd .i64 s d = s + d := iadd_of (by omega)
  have e2 : iadd .i64 (s + d) o = s + d + o := iadd_of (by omega)
  have e3 : iadd .i64 (s + d) w = s + d + w := iadd_of (by omega)
  have e4 : iadd .i64 (s + d + w) o = s + d + w + o := iadd_of (by omega)
  have e5 : iadd .i64 (s + d + w) d = s + d + w + d := iadd_of (by omega)
  have m1 : stamp_May (s + d + o) = some ((true, ()), (), ()) := by
    unfold stamp_May stamp_May.gen
    rw [ile_true (show 0 ≤ s + d + o by omega), ile_true (show s + d + o ≤ 4000000000000000 by omega)]; rfl
  have m2 : stamp_May (s + d + w + o) = some ((true, ()), (), ()) := by
    unfold stamp_May stamp_May.gen
    rw [ile_true (show 0 ≤ s + d + w + o by omega), ile_true (show s + d + w + o ≤ 4000000000000000 by omega)]; rfl
  have a0 : stamp_Add 0 0 = some ((0, ()), (), ()) := by kernel_rfl
  have f0 : stamp_Floor 0 = some ((0, ()), (), ()) := by kernel_rfl
  have e6 : ishr .i64 (isub .i64 (isub .i64 (isub .i64 (s + d + w + d) s) (isub .i64 (s + d + w + o) (s + d + o))) 0) 1 = d := by
    have x1 : isub .i64 (s + d + w + d) s = d + w + d := by rw [isub_of] <;> omega
    have x2 : isub .i64 (s + d + w + o) (s + d + o) = w := by rw [isub_of] <;> omega
    have x3 : isub .i64 (d + w + d) w = d + d := by rw [isub_of] <;> omega
    have x4 : isub .i64 (d + d) 0 = d + d := by rw [isub_of] <;> omega
    rw [x1, x2, x3, x4, ishr1]; omega
  simp [peer_Exchange_Sent, peer_Exchange_Sent.gen, peer_Answer, peer_Answer.gen, peer_Fup, peer_Fup.gen, peer_Exchange_Response, peer_Exchange_Response.gen, peer_Exchange_Follow, peer_Exchange_Follow.gen, peer_Exchange_Clear, peer_Exchange_Clear.gen, peer_Exchange_mine, peer_Exchange_mine.gen, oelim_some, ieq_self, ine_self, e1, e2, e3, e4, e5, m1, m2, a0, f0, e6, awake_true]
end Go.Proofs.Ytblbndgnfgoklaa
