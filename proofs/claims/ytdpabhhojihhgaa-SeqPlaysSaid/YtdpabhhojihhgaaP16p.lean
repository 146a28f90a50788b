/- Typed forms of the functions that these statements reach, proved equal to what the model runs, and laws over them. -/
import Derived.Test.YtdpabhhojihhgaaP16m
namespace Go.Proofs.Ytdpabhhojihhgaa
open Go.Rf
set_option linter.unusedVariables false
set_option linter.unusedSimpArgs false

abbrev R64 (n : Int) : Prop := -9223372036854775808 ≤ n ∧ n < 9223372036854775808
def sat (a b : Int) : Int := if 9223372036854775807 < a + b then 9223372036854775807 else if a + b < -9223372036854775808 then -9223372036854775808 else a + b
theorem sat_r {a b : Int} : R64 (sat a b) := by unfold sat; split <;> (try split) <;> omega

theorem stamp_add_sat (a b : Int) (ha : R64 a) (hb : R64 b) : stamp_Add a b = some ((sat a b, ()), (), ()) := by
  unfold stamp_Add stamp_Add.gen sat
  by_cases h1 : 0 < b
  · have e1 : isub .i64 9223372036854775807 b = 9223372036854775807 - b := isub_of (by omega)
    simp only [ilt_true h1, e1, cond_true]
    by_cases h2 : 9223372036854775807 - b < a
    · rw [ilt_true h2, if_pos (by omega)]; simp
    · rw [ilt_false h2, ilt_false (show ¬ b < 0 by omega), if_neg (by omega), if_neg (by omega), iadd_of (by omega)]; simp
  · simp only [ilt_false h1, cond_false]
    by_cases h2 : b < 0
    · have e1 : isub .i64 (-9223372036854775808) b = -9223372036854775808 - b := isub_of (by omega)
      simp only [ilt_true h2, e1, cond_true]
      by_cases h3 : a < -9223372036854775808 - b
      · rw [ilt_true h3, if_neg (by omega), if_pos (by omega)]; simp
      · rw [ilt_false h3, if_neg (by omega), if_neg (by omega), iadd_of (by omega)]; simp
    · rw [ilt_false h2, if_neg (by omega), if_neg (by omega), iadd_of (by omega)]; simp

theorem ref_add_sat (a b : Int) (ha : R64 a) (hb : R64 b) : ref02_Add a b = some ((sat a b, ()), (), ()) := by
  have h := stamp_add_sat b a hb ha
  have e : sat a b = sat b a := by unfold sat; rw [Int.add_comm]
  rw [e, ← h]
  unfold ref02_Add ref02_Add.gen stamp_Add stamp_Add.gen
  have e : iadd .i64 a b = iadd .i64 b a := by unfold iadd; rw [Int.add_comm]
  rw [e]

theorem floor_spec (a : Int) : stamp_Floor a = some ((a / 65536, ()), (), ()) := by
  show some ((ishr .i64 a 16, ()), (), ()) = _
  rw [ishr16]

theorem tdiv65536 (a : Int) : a.tdiv 65536 = if 0 ≤ a ∨ a % 65536 = 0 then a / 65536 else a / 65536 + 1 := by
  have h2 := Int.tdiv_eq_ediv (a := a) (b := 65536)
  have hsgn : Int.sign 65536 = 1 := rfl
  rw [hsgn] at h2
  rw [h2]
  split <;> split <;> omega

theorem ref_floor_spec (a : Int) (ha : R64 a) : ref02_Floor a = some ((a / 65536, ()), (), ()) := by
  have h2 := tdiv65536 a
  have h1 : iquo .i64 a 65536 = a.tdiv 65536 := by
    simp only [iquo, iwrap]
    split at h2 <;> omega
  unfold ref02_Floor ref02_Floor.gen
  rw [h1]
  have h3 : a.tmod 65536 = a - 65536 * a.tdiv 65536 := Int.tmod_def a 65536
  simp only [irem]
  by_cases h : a.tmod 65536 < 0
  · have e : isub .i64 (a.tdiv 65536) 1 = a / 65536 := by
      rw [isub_of (by split at h2 <;> omega)]
      split at h2 <;> omega
    rw [ilt_true h, cond_true, e]
  · have e : a.tdiv 65536 = a / 65536 := by split at h2 <;> omega
    rw [ilt_false h, cond_false, e]

theorem diff_spec (t s c : Int) (hc : R64 c) : ref16_diff t s c = some ((isub .i64 (isub .i64 t s) (c / 65536), ()), (), ()) := by
  unfold ref16_diff ref16_diff.gen
  simp only [ref_floor_spec c hc, oelim_some]

def conv (m : seq_Match) : ref16_M := ⟨m.fsync, m.ffollow, m.fat, m.fhasSync, m.fhasFollowUp⟩
def MInv (m : seq_Match) : Prop := R64 m.fsync.fCorr ∧ R64 m.ffollow.fCorr
theorem MInv.zero : MInv seq_Match.zero := ⟨⟨by decide, by decide⟩, ⟨by decide, by decide⟩⟩

theorem both_spec (s f : api_Msg) (t : Int) (m : seq_Match) (hs : R64 s.fCorr) (hf : R64 f.fCorr) : seq_Match_both s f t m = some ((isub .i64 (isub .i64 t f.fStamp) (sat s.fCorr f.fCorr / 65536), true, ()), (seq_Match.zero, ()), ()) := by
  unfold seq_Match_both seq_Match_both.gen
  have h : seq_Match_Clear m = some ((), (seq_Match.zero, ()), ()) := rfl
  simp only [h, stamp_add_sat _ _ hs hf, floor_spec, oelim_some]

theorem sync_rel (x : api_Msg) (t : Int) (m : seq_Match) (hx : R64 x.fCorr) (hm : MInv m) : ∃ d ok m', seq_Match_Sync x t m = some ((d, ok, ()), (m', ()), ()) ∧ ref16_M_Sync x t (conv m) = some ((d, ok, ()), (conv m', ()), ()) ∧ MInv m' := by
  obtain ⟨hm1, hm2⟩ := hm
  have h0 : ∀ m, seq_of m = some ((⟨m.fSource, m.fSeq⟩, ()), (), ()) := fun m => rfl
  unfold seq_Match_Sync seq_Match_Sync.gen ref16_M_Sync ref16_M_Sync.gen
  cases hA : ine x.fType 0
  · simp only [cond_false]
    cases hB : ieq (iand .i64 x.fFlags 512) 0
    · simp only [cond_false]
      cases hC : m.fhasFollowUp
      · refine ⟨0, false, ⟨x, m.ffollow, t, true, m.fhasFollowUp⟩, by simp [hC], by simp [conv, hC], hx, hm2⟩
      · simp only [cond_true, h0, oelim_some]
        by_cases hD : ieq m.ffollow.fSource.fClock x.fSource.fClock = true ∧ ieq m.ffollow.fSource.fPort x.fSource.fPort = true ∧ ieq m.ffollow.fSeq x.fSeq = true
        · obtain ⟨h1, h2, h3⟩ := hD
          have e := both_spec x m.ffollow t m hx hm2
          refine ⟨isub .i64 (isub .i64 t m.ffollow.fStamp) (sat x.fCorr m.ffollow.fCorr / 65536), true, seq_Match.zero, ?_, ?_, MInv.zero⟩
          · simp only [h1, h2, h3, cond_true, e, oelim_some]
          · simp only [conv, hC, h1, h2, h3, cond_true, ref_add_sat _ _ hx hm2, oelim_some, diff_spec _ _ _ sat_r]
            rfl
        · refine ⟨0, false, ⟨x, m.ffollow, t, true, m.fhasFollowUp⟩, ?_, ?_, hx, hm2⟩
          · cases h1 : ieq m.ffollow.fSource.fClock x.fSource.fClock <;> cases h2 : ieq m.ffollow.fSource.fPort x.fSource.fPort <;> cases h3 : ieq m.ffollow.fSeq x.fSeq <;> simp_all
          · cases h1 : ieq m.ffollow.fSource.fClock x.fSource.fClock <;> cases h2 : ieq m.ffollow.fSource.fPort x.fSource.fPort <;> cases h3 : ieq m.ffollow.fSeq x.fSeq <;> simp_all [conv]
    · refine ⟨isub .i64 (isub .i64 t x.fStamp) (x.fCorr / 65536), true, m, ?_, ?_, hm1, hm2⟩
      · simp only [cond_true, floor_spec, oelim_some]
      · simp only [cond_true, diff_spec _ _ _ hx, oelim_some]
  · exact ⟨0, false, m, by simp, by simp, hm1, hm2⟩

theorem follow_rel (x : api_Msg) (m : seq_Match) (hx : R64 x.fCorr) (hm : MInv m) : ∃ d ok m', seq_Match_Follow x m = some ((d, ok, ()), (m', ()), ()) ∧ ref16_M_Follow x (conv m) = some ((d, ok, ()), (conv m', ()), ()) ∧ MInv m' := by
  obtain ⟨hm1, hm2⟩ := hm
  have h0 : ∀ m, seq_of m = some ((⟨m.fSource, m.fSeq⟩, ()), (), ()) := fun m => rfl
  unfold seq_Match_Follow seq_Match_Follow.gen ref16_M_Follow ref16_M_Follow.gen
  cases hA : ine x.fType 8
  · simp only [cond_false]
    cases hC : m.fhasSync
    · refine ⟨0, false, ⟨m.fsync, x, m.fat, m.fhasSync, true⟩, by simp [hC], by simp [conv, hC], hm1, hx⟩
    · simp only [cond_true, h0, oelim_some]
      by_cases hD : ieq m.fsync.fSource.fClock x.fSource.fClock = true ∧ ieq m.fsync.fSource.fPort x.fSource.fPort = true ∧ ieq m.fsync.fSeq x.fSeq = true
      · obtain ⟨h1, h2, h3⟩ := hD
        have e := both_spec m.fsync x m.fat m hm1 hx
        refine ⟨isub .i64 (isub .i64 m.fat x.fStamp) (sat m.fsync.fCorr x.fCorr / 65536), true, seq_Match.zero, ?_, ?_, MInv.zero⟩
        · simp only [h1, h2, h3, cond_true, e, oelim_some]
        · simp only [conv, hC, h1, h2, h3, cond_true, ref_add_sat _ _ hm1 hx, oelim_some, diff_spec _ _ _ sat_r]
          rfl
      · refine ⟨0, false, ⟨m.fsync, x, m.fat, m.fhasSync, true⟩, ?_, ?_, hm1, hx⟩
        · cases h1 : ieq m.fsync.fSource.fClock x.fSource.fClock <;> cases h2 : ieq m.fsync.fSource.fPort x.fSource.fPort <;> cases h3 : ieq m.fsync.fSeq x.fSeq <;> simp_all
        · cases h1 : ieq m.fsync.fSource.fClock x.fSource.fClock <;> cases h2 : ieq m.fsync.fSource.fPort x.fSource.fPort <;> cases h3 : ieq m.fsync.fSeq x.fSeq <;> simp_all [conv]
  · exact ⟨0, false, m, by simp, by simp, hm1, hm2⟩

theorem mod_spec (a : Int) : ref16_Mod a = some ((a % 65536, ()), (), ()) := by
  show some ((iand .i64 a 65535, ()), (), ()) = _
  rw [iand_65535]
theorem ref_next_spec (a : Int) : ref16_Next a = some (((a + 1) % 65536, ()), (), ()) := by
  unfold ref16_Next ref16_Next.gen
  simp only [mod_spec, oelim_some]
  rw [iadd_of (by omega), show (a % 65536 + 1) % 65536 = (a + 1) % 65536 by omega]
theorem ref_newer_spec (a b : Int) : ref16_Newer a b = some ((decide (1 ≤ (a - b) % 65536 ∧ (a - b) % 65536 < 32768), ()), (), ()) := by
  unfold ref16_Newer ref16_Newer.gen
  simp only [mod_spec, oelim_some]
  rw [isub_of (by omega), show (a % 65536 - b % 65536) % 65536 = (a - b) % 65536 by omega]
  by_cases h1 : 1 ≤ (a - b) % 65536
  · simp [ile, h1]; omega
  · simp [ile, h1]

abbrev PA := ((List (law16_Op)) × (Int) × Unit) × ((seq_Match) × (ref16_M) × Unit)
abbrev pstep := law16_SeqPlays.step0 seq_Next ref16_Next seq_Newer ref16_Newer seq_New law00_Place seq_Match_Clear seq_Match_Sync ref16_M_Sync seq_Match_Follow ref16_M_Follow law16_awake

theorem plays_step (script : List law16_Op) (hs : ∀ y ∈ script, law16_Op.Wf y) (i : Int) (m : seq_Match) (hi : 0 ≤ i) (hl : i < script.length) (h60 : i < 60) (hm : MInv m) :
    ∃ m', pstep ((script, i, ()), m, conv m, ()) = some (.inl ((script, i + 1, ()), m', conv m', ())) ∧ MInv m' := by
  have e4 : iadd .i64 i 1 = i + 1 := iadd_of (by omega)
  have hg : script.getD i.toNat law16_Op.zero ∈ script := by
    have : i.toNat < script.length := by omega
    rw [List.getD_eq_getElem?_getD, List.getElem?_eq_getElem this]; exact List.getElem_mem this
  have hw := hs _ hg
  unfold pstep law16_SeqPlays.step0
  simp only [ilt_true hl, ilt_true h60, inR_true hi hl, cond_true, e4]
  generalize script.getD i.toNat law16_Op.zero = x at *
  have hc : R64 x.fM.fCorr := i64_of hw.2.2.2.2.2.1
  obtain ⟨d, ok, m1, h1, h2, h3⟩ := sync_rel x.fM x.fAt m hc hm
  obtain ⟨d', ok', m2, h4, h5, h6⟩ := follow_rel x.fM m hc hm
  have hz : seq_Match_Clear m = some ((), (seq_Match.zero, ()), ()) := rfl
  simp only [place_spec _ 4 (by decide) (by decide), oelim_some, h1, h2, h4, h5, hz, ine, bne_self_eq_false, beq_self_eq_true, Bool.not_true, cond_false, Bool.not_false]
  have b1 : ((!ok) == ok) = false := by cases ok <;> rfl
  have b2 : ((!ok') == ok') = false := by cases ok' <;> rfl
  try simp only [b1, b2, cond_false]
  cases ieq (x.fKind % 4) 3 <;> cases ieq (x.fKind % 4) 0 <;> cases ieq (x.fKind % 4) 2 <;> cases ieq (irem x.fAt 2) 0 <;> simp only [cond_true, cond_false] <;>
    first | exact ⟨_, rfl, h3⟩ | exact ⟨_, rfl, h6⟩ | exact ⟨_, rfl, MInv.zero⟩

theorem law16_SeqPlays.law : ∀ (a : Int) (b : Int) (script : List (law16_Op)), (Lit.int .i64 a).wf = true → (Lit.int .i64 b).wf = true → (script.length * 200 ≤ reachBytes ∧ ∀ y ∈ script, law16_Op.Wf y) → law16_SeqPlays a b script = some ((true, ()), (), ()) := by
  intro a b script _ _ hs
  obtain ⟨r, hb, hp⟩ := loopFix_rule (step := pstep) (Inv := fun x : PA => ∃ i m, x = ((script, i, ()), m, conv m, ()) ∧ 0 ≤ i ∧ MInv m)
    (Post := fun b => b = .inl ((), ())) (m := fun a => 60 - a.1.2.1.toNat) (by
      rintro x ⟨i, m, rfl, hi, hm⟩
      by_cases h1 : i < script.length
      · by_cases h2 : i < 60
        · obtain ⟨m', h3, h4⟩ := plays_step script hs.2 i m hi h1 h2 hm
          exact .inl ⟨_, h3, ⟨_, _, rfl, by omega, h4⟩, by simp only; omega⟩
        · refine .inr ⟨_, ?_, rfl⟩
          unfold pstep law16_SeqPlays.step0
          simp only [ilt_true h1, ilt_false h2, cond_true, cond_false]
      · refine .inr ⟨_, ?_, rfl⟩
        unfold pstep law16_SeqPlays.step0
        simp only [ilt_false h1, cond_false]) (1000000 + script.length) ((script, 0, ()), seq_Match.zero, conv seq_Match.zero, ()) ⟨_, _, rfl, by omega, MInv.zero⟩ (by simp only; omega)
  subst hp
  unfold law16_SeqPlays law16_SeqPlays.gen
  have hF : law16_SeqPlays.F0 ((script, 0, ()), seq_Match.zero, conv seq_Match.zero, ()) = some (.inl ((), ())) := hb
  have hN : seq_New = some (((), ()), (), (seq_Match.zero, ())) := by kernel_rfl
  have hz : (⟨⟨0, 0, 0, 0, ⟨0, 0⟩, 0, 0, 0, ⟨0, 0⟩, 0, 0, ⟨0, 0, 0⟩, 0, 0, 0, 0, 0, 0, 0⟩, ⟨0, 0, 0, 0, ⟨0, 0⟩, 0, 0, 0, ⟨0, 0⟩, 0, 0, ⟨0, 0, 0⟩, 0, 0, 0, 0, 0, 0, 0⟩, 0, false, false⟩ : ref16_M) = conv seq_Match.zero := rfl
  simp only [hz, hN, next_spec, ref_next_spec, newer_spec, ref_newer_spec, place_spec _ 65536 (by decide) (by decide), oelim_some, hF, selim, awake_true, ine, bne_self_eq_false, cond_false]
  cases decide (1 ≤ (a - b) % 65536 ∧ (a - b) % 65536 < 32768) <;> rfl
end Go.Proofs.Ytdpabhhojihhgaa
