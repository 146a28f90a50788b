/- Typed forms of the functions that these statements reach, proved equal to what the model runs, and laws over them. -/
import Derived.Test.YtcngoomjcoimjaaS11
import Derived.Test.YtcngoomjcoimjaaAr2
namespace Go.Proofs.Ytcngoomjcoimjaa
open Go.Rf
set_option linter.unusedVariables false
set_option linter.unusedSimpArgs false
/-! ### comparisons, as numbers -/
def c3 (x y : Int) : Int := if x < y then -1 else if y < x then 1 else 0
def orL : List Int → Int
  | [] => 0
  | x :: r => if x = 0 then orL r else x
def lx : List Int → List Int → Int
  | x :: r, y :: s => if c3 x y = 0 then lx r s else c3 x y
  | _, _ => 0

theorem c3_r (x y : Int) : c3 x y = -1 ∨ c3 x y = 0 ∨ c3 x y = 1 := by unfold c3; split <;> (try split) <;> simp
theorem c3_neg (x y : Int) : c3 y x = -c3 x y := by unfold c3; split <;> split <;> omega
theorem c3_zero {x y : Int} : c3 x y = 0 ↔ x = y := by unfold c3; split <;> (try split) <;> omega
theorem c3_self (x : Int) : c3 x x = 0 := c3_zero.2 rfl
theorem c3_lt {x y : Int} : c3 x y = -1 ↔ x < y := by unfold c3; split <;> (try split) <;> omega
theorem c3_gt {x y : Int} : c3 x y = 1 ↔ y < x := by unfold c3; split <;> (try split) <;> omega

theorem lx_r : ∀ (k l : List Int), lx k l = -1 ∨ lx k l = 0 ∨ lx k l = 1
  | x :: r, y :: s => by
    unfold lx
    split
    · exact lx_r r s
    · exact c3_r x y
  | [], _ => by unfold lx; simp
  | _ :: _, [] => by unfold lx; simp
theorem lx_neg : ∀ (k l : List Int), lx l k = -lx k l
  | x :: r, y :: s => by
    unfold lx
    rw [c3_neg x y]
    by_cases h : c3 x y = 0
    · rw [if_pos h, if_pos (by omega)]; exact lx_neg r s
    · rw [if_neg h, if_neg (by omega)]
  | [], [] => rfl
  | [], _ :: _ => rfl
  | _ :: _, [] => rfl
theorem lx_self : ∀ (k : List Int), lx k k = 0
  | [] => rfl
  | x :: r => by unfold lx; rw [if_pos (c3_self x)]; exact lx_self r
theorem lx_zero : ∀ {k l : List Int}, k.length = l.length → (lx k l = 0 ↔ k = l)
  | [], [], _ => by simp [lx]
  | x :: r, y :: s, h => by
    unfold lx
    by_cases e : c3 x y = 0
    · rw [if_pos e, lx_zero (by simpa using h), c3_zero.1 e]; simp
    · rw [if_neg e]
      constructor
      · intro h'; exact absurd h' e
      · intro h'; cases h'; exact absurd (c3_self x) e
  | [], _ :: _, h => by cases h
  | _ :: _, [], h => by cases h
/-- an order -/
theorem lx_trans : ∀ {k l m : List Int}, k.length = l.length → l.length = m.length → lx k l ≤ 0 → lx l m ≤ 0 → lx k m ≤ 0 ∧ (lx k l < 0 ∨ lx l m < 0 → lx k m < 0)
  | [], [], [], _, _, _, _ => by simp [lx]
  | x :: r, y :: s, z :: t, h1, h2, h3, h4 => by
    unfold lx at h3 h4 ⊢
    have a1 := @c3_zero x y
    have a2 := @c3_zero y z
    have a3 := @c3_zero x z
    have b1 := @c3_lt x y
    have b2 := @c3_lt y z
    have b3 := @c3_lt x z
    have d1 := c3_r x y
    have d2 := c3_r y z
    have d3 := c3_r x z
    by_cases e1 : c3 x y = 0
    · rw [if_pos e1] at h3 ⊢
      by_cases e2 : c3 y z = 0
      · rw [if_pos e2] at h4 ⊢
        rw [if_pos (a3.2 ((a1.1 e1).trans (a2.1 e2)))]
        exact lx_trans (by simpa using h1) (by simpa using h2) h3 h4
      · rw [if_neg e2] at h4 ⊢
        have : x = y := a1.1 e1
        subst this
        rw [if_neg e2]
        exact ⟨h4, fun _ => by omega⟩
    · rw [if_neg e1] at h3 ⊢
      by_cases e2 : c3 y z = 0
      · have : y = z := a2.1 e2
        subst this
        rw [if_neg e1]
        exact ⟨h3, fun _ => by omega⟩
      · rw [if_neg e2] at h4 ⊢
        have h5 : c3 x z = -1 := b3.2 (by have := b1.1 (by omega); have := b2.1 (by omega); omega)
        rw [if_neg (by omega)]
        omega
  | [], _ :: _, _, h, _, _, _ => by cases h
  | _ :: _, [], _, h, _, _, _ => by cases h
  | [], [], _ :: _, _, h, _, _ => by cases h
  | _ :: _, _ :: _, [], _, h, _, _ => by cases h
theorem orL_nest (x : Int) (l r : List Int) : orL (orL l :: r) = orL (l ++ r) := by
  induction l with
  | nil => simp [orL]
  | cons y l ih =>
    by_cases h : y = 0
    · subst h; simp only [orL, if_true, List.cons_append] at ih ⊢; exact ih
    · simp [orL, h]

theorem cmp_spec (x y : Int) : cmp_Compare_int x y = some ((c3 x y, ()), (), ()) := by
  have h : ∀ z, cmp_isNaN_int z = some ((false, ()), (), ()) := fun z => by show some ((ine z z, ()), (), ()) = _; rw [ine_self]
  unfold cmp_Compare_int cmp_Compare_int.gen c3
  simp only [h, oelim_some, cond_false]
  by_cases h1 : x < y
  · rw [ilt_true h1, if_pos h1]; rfl
  · rw [ilt_false h1, if_neg h1]
    by_cases h2 : y < x
    · rw [ilt_true h2, if_pos h2]; rfl
    · rw [ilt_false h2, if_neg h2]; rfl
theorem cmpu_spec (x y : Int) : cmp_Compare_uint64 x y = some ((c3 x y, ()), (), ()) := by
  have h : ∀ z, cmp_isNaN_uint64 z = some ((false, ()), (), ()) := fun z => by show some ((ine z z, ()), (), ()) = _; rw [ine_self]
  unfold cmp_Compare_uint64 cmp_Compare_uint64.gen c3
  simp only [h, oelim_some, cond_false]
  by_cases h1 : x < y
  · rw [ilt_true h1, if_pos h1]; rfl
  · rw [ilt_false h1, if_neg h1]
    by_cases h2 : y < x
    · rw [ilt_true h2, if_pos h2]; rfl
    · rw [ilt_false h2, if_neg h2]; rfl

theorem or_spec (vals : List Int) (hl : vals.length < 4611686018427387904) : cmp_Or_int vals = some ((orL vals, ()), (), ()) := by
  obtain ⟨r, hb, hp⟩ := loopFix_rule (step := cmp_Or_int.step0) (Inv := fun a => ∃ i : Nat, a = ((0, vals, (vals.length : Int), (i : Int), ()), ()) ∧ i ≤ vals.length ∧ orL (vals.drop i) = orL vals)
    (Post := fun b => (b = .inl ((0, ()), ()) ∧ orL vals = 0) ∨ b = .inr ((orL vals, ()), ())) (m := fun a => vals.length - a.1.2.2.2.1.toNat) (by
      rintro x ⟨i, rfl, hi, hm⟩
      by_cases h1 : i < vals.length
      · have e1 : ilt (i : Int) (vals.length : Int) = true := ilt_true (by omega)
        have e2 : inR (i : Int) vals.length = true := inR_true (by omega) (by omega)
        have e3 : iadd .i64 (i : Int) 1 = ((i + 1 : Nat) : Int) := by rw [iadd_of (by omega)]; omega
        rw [List.drop_eq_getElem_cons h1] at hm
        have e4 : vals.getD i (0 : Int) = vals[i] := by simp [List.getD, h1]
        have e5 : vals.getD i (0 : D UC.int) = vals[i] := e4
        by_cases h2 : vals[i] = 0
        · refine .inl ⟨((0, vals, (vals.length : Int), ((i + 1 : Nat) : Int), ()), ()), ?_, ⟨i + 1, rfl, by omega, by rw [← hm, orL, if_pos h2]⟩, by simp only [Int.toNat_natCast]; omega⟩
          unfold cmp_Or_int.step0
          simp only [e1, e2, e3, e4, e5, cond_true, Int.toNat_natCast, h2, ine_self, cond_false]
        · refine .inr ⟨.inr ((orL vals, ()), ()), ?_, .inr rfl⟩
          unfold cmp_Or_int.step0
          simp only [e1, e2, e3, e4, e5, cond_true, Int.toNat_natCast, ine_true h2]
          rw [← hm, orL, if_neg h2]
      · have e1 : ilt (i : Int) (vals.length : Int) = false := ilt_false (by omega)
        refine .inr ⟨.inl ((0, ()), ()), ?_, .inl ⟨rfl, ?_⟩⟩
        · unfold cmp_Or_int.step0
          simp only [e1, cond_false]
        · rw [← hm, List.drop_eq_nil_of_le (by omega)]; rfl) (1000000 + vals.length) ((0, vals, (vals.length : Int), 0, ()), ()) ⟨0, rfl, by omega, rfl⟩ (by simp only; omega)
  have hF : cmp_Or_int.F0 ((0, vals, (vals.length : Int), 0, ()), ()) = some r := hb
  unfold cmp_Or_int cmp_Or_int.gen
  simp only [hF, oelim_some]
  rcases hp with ⟨rfl, h⟩ | rfl
  · simp only [selim, h]
  · simp only [selim]

def qkeys (q : api_Quality) : List Int := [q.fClass, q.fAccuracy, q.fVariance]
def vkeys (v : api_Vector) : List Int := [v.fPriority1, v.fQuality.fClass, v.fQuality.fAccuracy, v.fQuality.fVariance, v.fPriority2, v.fGrand]
def pkeys (p : api_PortID) : List Int := [p.fClock, p.fPort]
def grand (a b : api_Vector) : Int := lx (vkeys a) (vkeys b)
def identC (a b : api_PortID) : Int := lx (pkeys a) (pkeys b)

theorem quality_spec (a b : api_Quality) : quality_Compare a b = some ((lx (qkeys a) (qkeys b), ()), (), ()) := by
  unfold quality_Compare quality_Compare.gen
  simp only [cmp_spec, oelim_some]
  rw [or_spec _ (by simp)]
  simp [oelim_some, orL, lx, qkeys]

theorem grand_spec (a b : api_Vector) : compare_Grand a b = some ((grand a b, ()), (), ()) := by
  have i1 : iadd .i64 0 1 = 1 := by decide
  have i2 : iadd .i64 1 1 = 2 := by decide
  have i3 : iadd .i64 2 1 = 3 := by decide
  unfold compare_Grand compare_Grand.gen
  simp only [cmp_spec, cmpu_spec, quality_spec, oelim_some, i1, i2, i3]
  simp [grand, lx, vkeys, qkeys, ine]
  generalize c3 a.fPriority1 b.fPriority1 = x1
  generalize c3 a.fQuality.fClass b.fQuality.fClass = x2
  generalize c3 a.fQuality.fAccuracy b.fQuality.fAccuracy = x3
  generalize c3 a.fQuality.fVariance b.fQuality.fVariance = x4
  generalize c3 a.fPriority2 b.fPriority2 = x5
  generalize c3 a.fGrand b.fGrand = x6
  simp only [ite_b, bne_iff_ne, ne_eq]
  by_cases h1 : x1 = 0 <;> by_cases h2 : x2 = 0 <;> by_cases h3 : x3 = 0 <;> by_cases h4 : x4 = 0 <;> by_cases h5 : x5 = 0 <;> by_cases h6 : x6 = 0 <;> simp [h1, h2, h3, h4, h5, h6]

theorem ident_spec (a b : api_PortID) : ident_Compare a b = some ((identC a b, ()), (), ()) := by
  unfold ident_Compare ident_Compare.gen
  simp only [cmp_spec, cmpu_spec, oelim_some]
  rw [or_spec _ (by simp)]
  by_cases h1 : a.fClock = b.fClock
  · rw [ieq_true h1]
    by_cases h2 : a.fPort = b.fPort
    · rw [ieq_true h2]; simp [identC, lx, pkeys, h1, h2, c3_self]
    · rw [ieq_false h2]; simp [identC, lx, pkeys, h1, c3_self, orL, oelim_some, c3_zero, h2]
  · rw [ieq_false h1]; simp [identC, lx, pkeys, orL, oelim_some, c3_zero, h1]

def moreC (a : api_Vector) : Int := if identC a.fReceiver a.fSender = -1 then 2 else if identC a.fReceiver a.fSender = 0 then 0 else 1
theorem more_spec (a : api_Vector) : compare_more a = some ((moreC a, ()), (), ()) := by
  unfold compare_more compare_more.gen moreC
  simp only [ident_spec, oelim_some]
  rcases lx_r (pkeys a.fReceiver) (pkeys a.fSender) with h | h | h <;> rw [show identC a.fReceiver a.fSender = _ from h] <;> rfl

def cmpC (a b : api_Vector) : Int :=
  if grand a b ≠ 0 then 2 * grand a b
  else if b.fSteps < a.fSteps then (if a.fSteps - 1 = b.fSteps then moreC a else 2)
  else if a.fSteps < b.fSteps then (if b.fSteps - 1 = a.fSteps then -moreC b else -2)
  else if identC a.fSender b.fSender ≠ 0 then identC a.fSender b.fSender else c3 a.fReceiver.fPort b.fReceiver.fPort

theorem moreC_r (a : api_Vector) : moreC a = 0 ∨ moreC a = 1 ∨ moreC a = 2 := by unfold moreC; split <;> (try split) <;> simp

theorem ineg (x : Int) (h : -9223372036854775807 ≤ x ∧ x < 9223372036854775808) : IntKind.i64.wrap (0 - x) = -x := by rw [iwrap]; omega

theorem compare_spec (a b : api_Vector) (ha : R64 a.fSteps) (hb : R64 b.fSteps) : compare_Compare a b = some ((cmpC a b, ()), (), ()) := by
  unfold compare_Compare compare_Compare.gen cmpC
  simp only [grand_spec, cmp_spec, more_spec, ident_spec, oelim_some]
  have hg := lx_r (vkeys a) (vkeys b)
  have e1 : imul .i64 2 (grand a b) = 2 * grand a b := imul_of (by unfold grand; omega)
  have hc := c3_r a.fSteps b.fSteps
  have e2 : imul .i64 2 (c3 a.fSteps b.fSteps) = 2 * c3 a.fSteps b.fSteps := imul_of (by omega)
  rw [e1, e2]
  by_cases h0 : grand a b = 0
  · have h0' : ine (2 * grand a b) 0 = false := ine_false (by omega)
    rw [h0', if_neg (by simpa using h0)]
    simp only [cond_false]
    have ho : cmp_Or_int (identC a.fSender b.fSender :: c3 a.fReceiver.fPort b.fReceiver.fPort :: lnil (D UC.int)) = some ((if identC a.fSender b.fSender ≠ 0 then identC a.fSender b.fSender else c3 a.fReceiver.fPort b.fReceiver.fPort, ()), (), ()) := by
      rw [or_spec _ (by simp)]
      by_cases h : identC a.fSender b.fSender = 0
      · simp [orL, h]; intro h'; exact h'.symm
      · simp [orL, h]
    have m1 := moreC_r a
    have m2 := moreC_r b
    by_cases h1 : b.fSteps < a.fSteps
    · have hc1 : c3 a.fSteps b.fSteps = 1 := c3_gt.2 h1
      have e3 : isub .i64 a.fSteps 1 = a.fSteps - 1 := isub_of (by omega)
      rw [hc1, e3, if_pos h1, show ilt 0 (2 * 1) = true from rfl, show ilt (2 * 1) 0 = false from rfl, show ieq (2 * 1) 0 = false from rfl]
      by_cases h2 : a.fSteps - 1 = b.fSteps
      · rw [ieq_true h2, if_pos h2]; rfl
      · rw [ieq_false h2, if_neg h2]; rfl
    · rw [if_neg h1]
      by_cases h3 : a.fSteps < b.fSteps
      · have hc1 : c3 a.fSteps b.fSteps = -1 := c3_lt.2 h3
        have e3 : isub .i64 b.fSteps 1 = b.fSteps - 1 := isub_of (by omega)
        rw [hc1, e3, if_pos h3, show ilt 0 (2 * -1) = false from rfl, show ilt (2 * -1) 0 = true from rfl, show ieq (2 * -1) 0 = false from rfl, ineg _ (by omega)]
        by_cases h2 : b.fSteps - 1 = a.fSteps
        · rw [ieq_true h2, if_pos h2]; rfl
        · rw [ieq_false h2, if_neg h2]; rfl
      · have hc1 : c3 a.fSteps b.fSteps = 0 := c3_zero.2 (by omega)
        rw [hc1, if_neg h3, show ilt 0 (2 * 0) = false from rfl, show ilt (2 * 0) 0 = false from rfl, show ieq (2 * 0) 0 = true from rfl, ho]
        rfl
  · have h0' : ine (2 * grand a b) 0 = true := ine_true (by omega)
    rw [h0', if_pos h0]; rfl

end Go.Proofs.Ytcngoomjcoimjaa
