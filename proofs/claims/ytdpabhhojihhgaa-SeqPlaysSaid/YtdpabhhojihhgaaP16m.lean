/- Typed forms of the functions that these statements reach, proved equal to what the model runs, and laws over them. -/
import Derived.Test.YtdpabhhojihhgaaP16
namespace Go.Proofs.Ytdpabhhojihhgaa
open Go.Rf
set_option linter.unusedVariables false
set_option linter.unusedSimpArgs false

theorem ilt_true {a b : Int} (h : a < b) : ilt a b = true := decide_eq_true h
theorem ilt_false {a b : Int} (h : ¬ a < b) : ilt a b = false := decide_eq_false h
theorem inR_true {a : Int} {n : Nat} (h : 0 ≤ a) (h' : a < (n : Int)) : inR a n = true := by simp [inR, h, h']
theorem ieq_true {a b : Int} (h : a = b) : ieq a b = true := by simp [ieq, h]
theorem ieq_false {a b : Int} (h : ¬ a = b) : ieq a b = false := by simp [ieq, h]
theorem ine_true {a b : Int} (h : ¬ a = b) : ine a b = true := by simp [ine, h]
theorem ine_false {a b : Int} (h : a = b) : ine a b = false := by simp [ine, h]

abbrev MA := ((List (Int)) × (List (Bool)) × (Int) × (Int) × Unit) × ((seq_Match) × Unit)

theorem many_step (offs : List Int) (turned : List Bool) (n i : Int) (hi : 0 ≤ i) (hl : i < offs.length) (h30 : i < 30) :
    law16_SeqMany.step0 seq_New law00_Place seq_Match_Follow seq_Match_Sync seq_Next law16_awake ((offs, turned, n, i, ()), seq_Match.zero, ()) = some (.inl ((offs, turned, (n + 1) % 65536, i + 1, ()), seq_Match.zero, ())) := by
  have e1 : imul .i64 1000 i = 1000 * i := imul_of (by omega)
  have e2 : ∀ o, 0 ≤ o ∧ o < 1000000 → iadd .i64 (1000 * i) o = 1000 * i + o := fun o ho => iadd_of (by omega)
  have e3 : ∀ o, 0 ≤ o ∧ o < 1000000 → isub .i64 (isub .i64 (1000 * i + o) (1000 * i)) (ishr .i64 0 16) = o := fun o ho => by
    have : ishr .i64 0 16 = 0 := by decide
    have h1 : isub .i64 (1000 * i + o) (1000 * i) = o := by rw [isub_of (by omega)]; omega
    rw [this, h1, isub_of (by omega)]; omega
  have e4 : iadd .i64 i 1 = i + 1 := iadd_of (by omega)
  have e0 : stamp_Add 0 0 = some ((0, ()), (), ()) := by kernel_rfl
  unfold law16_SeqMany.step0
  simp only [ilt_true hl, ilt_true h30, inR_true hi hl, cond_true, place_spec _ 1000000 (by decide) (by decide), oelim_some, next_spec, e1, e4]
  generalize ho : (offs.getD i.toNat 0 : Int) = v
  have hr : 0 ≤ v % 1000000 ∧ v % 1000000 < 1000000 := by omega
  generalize v % 1000000 = o at *
  have e5 := e2 o hr
  have e6 := e3 o hr
  by_cases ht : i < turned.length
  · rw [ilt_true ht, inR_true hi ht]
    cases turned.getD i.toNat false <;>
    simp [seq_Match.zero, api_Msg.zero, api_PortID.zero, api_Quality.zero, seq_Match_Sync, seq_Match_Sync.gen, seq_Match_Follow, seq_Match_Follow.gen, seq_of, seq_of.gen, seq_Match_both, seq_Match_both.gen, seq_Match_Clear, seq_Match_Clear.gen, stamp_Floor, stamp_Floor.gen, oelim_some, ine, ieq, iand512, iand0, e0, e5, e6]
  · rw [ilt_false ht]
    simp [seq_Match.zero, api_Msg.zero, api_PortID.zero, api_Quality.zero, seq_Match_Sync, seq_Match_Sync.gen, seq_Match_Follow, seq_Match_Follow.gen, seq_of, seq_of.gen, seq_Match_both, seq_Match_both.gen, seq_Match_Clear, seq_Match_Clear.gen, stamp_Floor, stamp_Floor.gen, oelim_some, ine, ieq, iand512, iand0, e0, e5, e6]

theorem law16_SeqMany.law : ∀ (first : Int) (offs : List (Int)) (turned : List (Bool)), (Lit.int .i64 first).wf = true → (offs.length * 8 ≤ reachBytes ∧ ∀ y ∈ offs, (Lit.int .i64 y).wf = true) → (turned.length * 1 ≤ reachBytes ∧ ∀ y ∈ turned, True) → law16_SeqMany first offs turned = some ((true, ()), (), ()) := by
  intro first offs turned _ _ _
  obtain ⟨b, hb, hp⟩ := loopFix_rule (step := law16_SeqMany.step0 seq_New law00_Place seq_Match_Follow seq_Match_Sync seq_Next law16_awake) (Inv := fun a : MA => ∃ n i, a = ((offs, turned, n, i, ()), seq_Match.zero, ()) ∧ 0 ≤ i)
    (Post := fun b => b = .inl ((), ())) (m := fun a => 30 - a.1.2.2.2.1.toNat) (by
      rintro a ⟨n, i, rfl, hi⟩
      by_cases h1 : i < offs.length
      · by_cases h2 : i < 30
        · exact .inl ⟨_, many_step offs turned n i hi h1 h2, ⟨_, _, rfl, by omega⟩, by simp only; omega⟩
        · refine .inr ⟨_, ?_, rfl⟩
          unfold law16_SeqMany.step0
          simp only [ilt_true h1, ilt_false h2, cond_true, cond_false]
      · refine .inr ⟨_, ?_, rfl⟩
        unfold law16_SeqMany.step0
        simp only [ilt_false h1, cond_false]) (1000000 + (offs.length + turned.length)) ((offs, turned, first % 65536, 0, ()), seq_Match.zero, ()) ⟨_, _, rfl, by omega⟩ (by simp only; omega)
  subst hp
  unfold law16_SeqMany law16_SeqMany.gen
  have hF : law16_SeqMany.F0 ((offs, turned, first % 65536, 0, ()), seq_Match.zero, ()) = some (.inl ((), ())) := hb
  have hN : seq_New = some (((), ()), (), (seq_Match.zero, ())) := by kernel_rfl
  simp only [hN, place_spec _ 65536 (by decide) (by decide), oelim_some, hF, selim, awake_true]
end Go.Proofs.Ytdpabhhojihhgaa
