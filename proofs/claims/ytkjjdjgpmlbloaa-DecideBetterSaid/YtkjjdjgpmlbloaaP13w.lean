/- Typed forms of the functions that these statements reach, proved equal to what the model runs, and laws over them. -/
import Derived.Test.YtkjjdjgpmlbloaaS13
import Derived.Test.YtkjjdjgpmlbloaaAr3
namespace Go.Proofs.Ytkjjdjgpmlbloaa
open Go.Rf
set_option linter.unusedVariables false
set_option linter.unusedSimpArgs false
theorem place_spec (v n : Int) (hn : 0 < n) (hn2 : n ≤ 4611686018427387904) : law00_Place v n = some ((v % n, ()), (), ()) := by
  have h1 : ine n 0 = true := ine_true (by omega)
  have h2 := Int.emod_nonneg v (Int.ne_of_gt hn)
  have h3 := Int.emod_lt_of_pos v hn
  obtain ⟨h4, h5⟩ := tmod_place v n hn
  unfold law00_Place law00_Place.gen
  rw [h1]
  simp only [cond_true]
  by_cases hc : v.tmod n < 0
  · have e : iadd .i64 (irem v n) n = v % n := by
      have := h4 hc
      rw [iadd_of] <;> simp only [irem] <;> omega
    rw [show ilt (irem v n) 0 = true from ilt_true hc, e]; simp only [cond_true]
  · rw [show ilt (irem v n) 0 = false from ilt_false hc, show irem v n = v % n from h5 hc]; simp only [cond_false]

/-! ### comparisons, as numbers -/
def c3 (x y : Int) : Int := if x < y then -1 else if y < x then 1 else 0
def orL : List Int → Int
  | [] => 0
  | x :: r => if x = 0 then orL r else x
def lx : List Int → List Int → Int
  | x :: r, y :: s => if c3 x y = 0 then lx r s else c3 x y
  | _, _ => 0

theorem c3_r (x y : Int) : c3 x y = -1 ∨ c3 x y = 0 ∨ c3 x y = 1 := by unfold c3; split <;> (try split) <;> simp
theorem c3_neg (x y : Int) : c3 y x = -c3 x y := by unfold c3; split <;> split <;> omega
theorem c3_zero {x y : Int} : c3 x y = 0 ↔ x = y := by unfold c3; split <;> (try split) <;> omega
theorem c3_self (x : Int) : c3 x x = 0 := c3_zero.2 rfl
theorem c3_lt {x y : Int} : c3 x y = -1 ↔ x < y := by unfold c3; split <;> (try split) <;> omega
theorem c3_gt {x y : Int} : c3 x y = 1 ↔ y < x := by unfold c3; split <;> (try split) <;> omega

theorem lx_r : ∀ (k l : List Int), lx k l = -1 ∨ lx k l = 0 ∨ lx k l = 1
  | x :: r, y :: s => by
    unfold lx
    split
    · exact lx_r r s
    · exact c3_r x y
  | [], _ => by unfold lx; simp
  | _ :: _, [] => by unfold lx; simp
theorem lx_neg : ∀ (k l : List Int), lx l k = -lx k l
  | x :: r, y :: s => by
    unfold lx
    rw [c3_neg x y]
    by_cases h : c3 x y = 0
    · rw [if_pos h, if_pos (by omega)]; exact lx_neg r s
    · rw [if_neg h, if_neg (by omega)]
  | [], [] => rfl
  | [], _ :: _ => rfl
  | _ :: _, [] => rfl
theorem lx_self : ∀ (k : List Int), lx k k = 0
  | [] => rfl
  | x :: r => by unfold lx; rw [if_pos (c3_self x)]; exact lx_self r
theorem lx_zero : ∀ {k l : List Int}, k.length = l.length → (lx k l = 0 ↔ k = l)
  | [], [], _ => by simp [lx]
  | x :: r, y :: s, h => by
    unfold lx
    by_cases e : c3 x y = 0
    · rw [if_pos e, lx_zero (by simpa using h), c3_zero.1 e]; simp
    · rw [if_neg e]
      constructor
      · intro h'; exact absurd h' e
      · intro h'; cases h'; exact absurd (c3_self x) e
  | [], _ :: _, h => by cases h
  | _ :: _, [], h => by cases h
/-- an order -/
theorem lx_trans : ∀ {k l m : List Int}, k.length = l.length → l.length = m.length → lx k l ≤ 0 → lx l m ≤ 0 → lx k m ≤ 0 ∧ (lx k l < 0 ∨ lx l m < 0 → lx k m < 0)
  | [], [], [], _, _, _, _ => by simp [lx]
  | x :: r, y :: s, z :: t, h1, h2, h3, h4 => by
    unfold lx at h3 h4 ⊢
    have a1 := @c3_zero x y
    have a2 := @c3_zero y z
    have a3 := @c3_zero x z
    have b1 := @c3_lt x y
    have b2 := @c3_lt y z
    have b3 := @c3_lt x z
    have d1 := c3_r x y
    have d2 := c3_r y z
    have d3 := c3_r x z
    by_cases e1 : c3 x y = 0
    · rw [if_pos e1] at h3 ⊢
      by_cases e2 : c3 y z = 0
      · rw [if_pos e2] at h4 ⊢
        rw [if_pos (a3.2 ((a1.1 e1).trans (a2.1 e2)))]
        exact lx_trans (by simpa using h1) (by simpa using h2) h3 h4
      · rw [if_neg e2] at h4 ⊢
        have : x = y := a1.1 e1
        subst this
        rw [if_neg e2]
        exact ⟨h4, fun _ => by omega⟩
    · rw [if_neg e1] at h3 ⊢
      by_cases e2 : c3 y z = 0
      · have : y = z := a2.1 e2
        subst this
        rw [if_neg e1]
        exact ⟨h3, fun _ => by omega⟩
      · rw [if_neg e2] at h4 ⊢
        have h5 : c3 x z = -1 := b3.2 (by have := b1.1 (by omega); have := b2.1 (by omega); omega)
        rw [if_neg (by omega)]
        omega
  | [], _ :: _, _, h, _, _, _ => by cases h
  | _ :: _, [], _, h, _, _, _ => by cases h
  | [], [], _ :: _, _, h, _, _ => by cases h
  | _ :: _, _ :: _, [], _, h, _, _ => by cases h
theorem orL_nest (x : Int) (l r : List Int) : orL (orL l :: r) = orL (l ++ r) := by
  induction l with
  | nil => simp [orL]
  | cons y l ih =>
    by_cases h : y = 0
    · subst h; simp only [orL, if_true, List.cons_append] at ih ⊢; exact ih
    · simp [orL, h]

theorem cmp_spec (x y : Int) : cmp_Compare_int x y = some ((c3 x y, ()), (), ()) := by
  have h : ∀ z, cmp_isNaN_int z = some ((false, ()), (), ()) := fun z => by show some ((ine z z, ()), (), ()) = _; rw [ine_self]
  unfold cmp_Compare_int cmp_Compare_int.gen c3
  simp only [h, oelim_some, cond_false]
  by_cases h1 : x < y
  · rw [ilt_true h1, if_pos h1]; rfl
  · rw [ilt_false h1, if_neg h1]
    by_cases h2 : y < x
    · rw [ilt_true h2, if_pos h2]; rfl
    · rw [ilt_false h2, if_neg h2]; rfl
theorem cmpu_spec (x y : Int) : cmp_Compare_uint64 x y = some ((c3 x y, ()), (), ()) := by
  have h : ∀ z, cmp_isNaN_uint64 z = some ((false, ()), (), ()) := fun z => by show some ((ine z z, ()), (), ()) = _; rw [ine_self]
  unfold cmp_Compare_uint64 cmp_Compare_uint64.gen c3
  simp only [h, oelim_some, cond_false]
  by_cases h1 : x < y
  · rw [ilt_true h1, if_pos h1]; rfl
  · rw [ilt_false h1, if_neg h1]
    by_cases h2 : y < x
    · rw [ilt_true h2, if_pos h2]; rfl
    · rw [ilt_false h2, if_neg h2]; rfl

theorem or_spec (vals : List Int) (hl : vals.length < 4611686018427387904) : cmp_Or_int vals = some ((orL vals, ()), (), ()) := by
  obtain ⟨r, hb, hp⟩ := loopFix_rule (step := cmp_Or_int.step0) (Inv := fun a => ∃ i : Nat, a = ((0, vals, (vals.length : Int), (i : Int), ()), ()) ∧ i ≤ vals.length ∧ orL (vals.drop i) = orL vals)
    (Post := fun b => (b = .inl ((0, ()), ()) ∧ orL vals = 0) ∨ b = .inr ((orL vals, ()), ())) (m := fun a => vals.length - a.1.2.2.2.1.toNat) (by
      rintro x ⟨i, rfl, hi, hm⟩
      by_cases h1 : i < vals.length
      · have e1 : ilt (i : Int) (vals.length : Int) = true := ilt_true (by omega)
        have e2 : inR (i : Int) vals.length = true := inR_true (by omega) (by omega)
        have e3 : iadd .i64 (i : Int) 1 = ((i + 1 : Nat) : Int) := by rw [iadd_of (by omega)]; omega
        rw [List.drop_eq_getElem_cons h1] at hm
        have e4 : vals.getD i (0 : Int) = vals[i] := by simp [List.getD, h1]
        have e5 : vals.getD i (0 : D UC.int) = vals[i] := e4
        by_cases h2 : vals[i] = 0
        · refine .inl ⟨((0, vals, (vals.length : Int), ((i + 1 : Nat) : Int), ()), ()), ?_, ⟨i + 1, rfl, by omega, by rw [← hm, orL, if_pos h2]⟩, by simp only [Int.toNat_natCast]; omega⟩
          unfold cmp_Or_int.step0
          simp only [e1, e2, e3, e4, e5, cond_true, Int.toNat_natCast, h2, ine_self, cond_false]
        · refine .inr ⟨.inr ((orL vals, ()), ()), ?_, .inr rfl⟩
          unfold cmp_Or_int.step0
          simp only [e1, e2, e3, e4, e5, cond_true, Int.toNat_natCast, ine_true h2]
          rw [← hm, orL, if_neg h2]
      · have e1 : ilt (i : Int) (vals.length : Int) = false := ilt_false (by omega)
        refine .inr ⟨.inl ((0, ()), ()), ?_, .inl ⟨rfl, ?_⟩⟩
        · unfold cmp_Or_int.step0
          simp only [e1, cond_false]
        · rw [← hm, List.drop_eq_nil_of_le (by omega)]; rfl) (1000000 + vals.length) ((0, vals, (vals.length : Int), 0, ()), ()) ⟨0, rfl, by omega, rfl⟩ (by simp only; omega)
  have hF : cmp_Or_int.F0 ((0, vals, (vals.length : Int), 0, ()), ()) = some r := hb
  unfold cmp_Or_int cmp_Or_int.gen
  simp only [hF, oelim_some]
  rcases hp with ⟨rfl, h⟩ | rfl
  · simp only [selim, h]
  · simp only [selim]

def qkeys (q : api_Quality) : List Int := [q.fClass, q.fAccuracy, q.fVariance]
def vkeys (v : api_Vector) : List Int := [v.fPriority1, v.fQuality.fClass, v.fQuality.fAccuracy, v.fQuality.fVariance, v.fPriority2, v.fGrand]
def pkeys (p : api_PortID) : List Int := [p.fClock, p.fPort]
def grand (a b : api_Vector) : Int := lx (vkeys a) (vkeys b)
def identC (a b : api_PortID) : Int := lx (pkeys a) (pkeys b)

theorem quality_spec (a b : api_Quality) : quality_Compare a b = some ((lx (qkeys a) (qkeys b), ()), (), ()) := by
  unfold quality_Compare quality_Compare.gen
  simp only [cmp_spec, oelim_some]
  rw [or_spec _ (by simp)]
  simp [oelim_some, orL, lx, qkeys]

theorem grand_spec (a b : api_Vector) : compare_Grand a b = some ((grand a b, ()), (), ()) := by
  have i1 : iadd .i64 0 1 = 1 := by decide
  have i2 : iadd .i64 1 1 = 2 := by decide
  have i3 : iadd .i64 2 1 = 3 := by decide
  unfold compare_Grand compare_Grand.gen
  simp only [cmp_spec, cmpu_spec, quality_spec, oelim_some, i1, i2, i3]
  simp [grand, lx, vkeys, qkeys, ine]
  generalize c3 a.fPriority1 b.fPriority1 = x1
  generalize c3 a.fQuality.fClass b.fQuality.fClass = x2
  generalize c3 a.fQuality.fAccuracy b.fQuality.fAccuracy = x3
  generalize c3 a.fQuality.fVariance b.fQuality.fVariance = x4
  generalize c3 a.fPriority2 b.fPriority2 = x5
  generalize c3 a.fGrand b.fGrand = x6
  simp only [ite_b, bne_iff_ne, ne_eq]
  by_cases h1 : x1 = 0 <;> by_cases h2 : x2 = 0 <;> by_cases h3 : x3 = 0 <;> by_cases h4 : x4 = 0 <;> by_cases h5 : x5 = 0 <;> by_cases h6 : x6 = 0 <;> simp [h1, h2, h3, h4, h5, h6]

theorem ident_spec (a b : api_PortID) : ident_Compare a b = some ((identC a b, ()), (), ()) := by
  unfold ident_Compare ident_Compare.gen
  simp only [cmp_spec, cmpu_spec, oelim_some]
  rw [or_spec _ (by simp)]
  by_cases h1 : a.fClock = b.fClock
  · rw [ieq_true h1]
    by_cases h2 : a.fPort = b.fPort
    · rw [ieq_true h2]; simp [identC, lx, pkeys, h1, h2, c3_self]
    · rw [ieq_false h2]; simp [identC, lx, pkeys, h1, c3_self, orL, oelim_some, c3_zero, h2]
  · rw [ieq_false h1]; simp [identC, lx, pkeys, orL, oelim_some, c3_zero, h1]

def moreC (a : api_Vector) : Int := if identC a.fReceiver a.fSender = -1 then 2 else if identC a.fReceiver a.fSender = 0 then 0 else 1
theorem more_spec (a : api_Vector) : compare_more a = some ((moreC a, ()), (), ()) := by
  unfold compare_more compare_more.gen moreC
  simp only [ident_spec, oelim_some]
  rcases lx_r (pkeys a.fReceiver) (pkeys a.fSender) with h | h | h <;> rw [show identC a.fReceiver a.fSender = _ from h] <;> rfl

def cmpC (a b : api_Vector) : Int :=
  if grand a b ≠ 0 then 2 * grand a b
  else if b.fSteps < a.fSteps then (if a.fSteps - 1 = b.fSteps then moreC a else 2)
  else if a.fSteps < b.fSteps then (if b.fSteps - 1 = a.fSteps then -moreC b else -2)
  else if identC a.fSender b.fSender ≠ 0 then identC a.fSender b.fSender else c3 a.fReceiver.fPort b.fReceiver.fPort

theorem moreC_r (a : api_Vector) : moreC a = 0 ∨ moreC a = 1 ∨ moreC a = 2 := by unfold moreC; split <;> (try split) <;> simp

theorem ineg (x : Int) (h : -9223372036854775807 ≤ x ∧ x < 9223372036854775808) : IntKind.i64.wrap (0 - x) = -x := by rw [iwrap]; omega

theorem compare_spec (a b : api_Vector) (ha : R64 a.fSteps) (hb : R64 b.fSteps) : compare_Compare a b = some ((cmpC a b, ()), (), ()) := by
  unfold compare_Compare compare_Compare.gen cmpC
  simp only [grand_spec, cmp_spec, more_spec, ident_spec, oelim_some]
  have hg := lx_r (vkeys a) (vkeys b)
  have e1 : imul .i64 2 (grand a b) = 2 * grand a b := imul_of (by unfold grand; omega)
  have hc := c3_r a.fSteps b.fSteps
  have e2 : imul .i64 2 (c3 a.fSteps b.fSteps) = 2 * c3 a.fSteps b.fSteps := imul_of (by omega)
  rw [e1, e2]
  by_cases h0 : grand a b = 0
  · have h0' : ine (2 * grand a b) 0 = false := ine_false (by omega)
    rw [h0', if_neg (by simpa using h0)]
    simp only [cond_false]
    have ho : cmp_Or_int (identC a.fSender b.fSender :: c3 a.fReceiver.fPort b.fReceiver.fPort :: lnil (D UC.int)) = some ((if identC a.fSender b.fSender ≠ 0 then identC a.fSender b.fSender else c3 a.fReceiver.fPort b.fReceiver.fPort, ()), (), ()) := by
      rw [or_spec _ (by simp)]
      by_cases h : identC a.fSender b.fSender = 0
      · simp [orL, h]; intro h'; exact h'.symm
      · simp [orL, h]
    have m1 := moreC_r a
    have m2 := moreC_r b
    by_cases h1 : b.fSteps < a.fSteps
    · have hc1 : c3 a.fSteps b.fSteps = 1 := c3_gt.2 h1
      have e3 : isub .i64 a.fSteps 1 = a.fSteps - 1 := isub_of (by omega)
      rw [hc1, e3, if_pos h1, show ilt 0 (2 * 1) = true from rfl, show ilt (2 * 1) 0 = false from rfl, show ieq (2 * 1) 0 = false from rfl]
      by_cases h2 : a.fSteps - 1 = b.fSteps
      · rw [ieq_true h2, if_pos h2]; rfl
      · rw [ieq_false h2, if_neg h2]; rfl
    · rw [if_neg h1]
      by_cases h3 : a.fSteps < b.fSteps
      · have hc1 : c3 a.fSteps b.fSteps = -1 := c3_lt.2 h3
        have e3 : isub .i64 b.fSteps 1 = b.fSteps - 1 := isub_of (by omega)
        rw [hc1, e3, if_pos h3, show ilt 0 (2 * -1) = false from rfl, show ilt (2 * -1) 0 = true from rfl, show ieq (2 * -1) 0 = false from rfl, ineg _ (by omega)]
        by_cases h2 : b.fSteps - 1 = a.fSteps
        · rw [ieq_true h2, if_pos h2]; rfl
        · rw [ieq_false h2, if_neg h2]; rfl
      · have hc1 : c3 a.fSteps b.fSteps = 0 := c3_zero.2 (by omega)
        rw [hc1, if_neg h3, show ilt 0 (2 * 0) = false from rfl, show ilt (2 * 0) 0 = false from rfl, show ieq (2 * 0) 0 = true from rfl, ho]
        rfl
  · have h0' : ine (2 * grand a b) 0 = true := ine_true (by omega)
    rw [h0', if_pos h0]; rfl

/-! ### one port -/
def oneD (d0 : api_Vector) (li : Bool) (best port : Option api_Vector) (here : Bool) : Int :=
  match port with
  | none =>
    if li = true then 7
    else if d0.fQuality.fClass ≤ 127 then 1
    else match best with
      | none => 2
      | some b => if cmpC d0 b < 0 then 2 else if here = true then 6 else 3
  | some p =>
    if d0.fQuality.fClass ≤ 127 then (if cmpC d0 p < 0 then 1 else 4)
    else match best with
      | none => 2
      | some b => if cmpC d0 b < 0 then 2 else if here = true then 6 else if cmpC b p = -1 then 5 else 3

def okS (x : Option api_Vector) : Prop := ∀ v, x = some v → R64 v.fSteps

theorem one_spec (d0 : api_Vector) (li : Bool) (best port : Option api_Vector) (here : Bool) (h0 : R64 d0.fSteps) (hb : okS best) (hp : okS port) :
    decide_One d0 li best port here = some ((oneD d0 li best port here, ()), (), ()) := by
  unfold decide_One decide_One.gen oneD
  cases port with
  | none =>
    cases li with
    | true => rfl
    | false =>
      simp only [Option.isSome_none, Bool.not_false, cond_true, oelim_some, cond_false]
      rw [if_neg (by decide)]
      by_cases hc : d0.fQuality.fClass ≤ 127
      · rw [ile_true hc, if_pos hc]; rfl
      · rw [ile_false hc, if_neg hc]
        cases best with
        | none => rfl
        | some b =>
          simp only [Option.isSome_some, Bool.not_true, cond_false, oelim_some, compare_spec d0 b h0 (hb b rfl)]
          by_cases h : cmpC d0 b < 0
          · rw [ilt_true h, if_pos h]; rfl
          · rw [ilt_false h, if_neg h]
            cases here <;> rfl
  | some p =>
    simp only [Option.isSome_some, Bool.not_true, cond_false, cond_true, oelim_some, compare_spec d0 p h0 (hp p rfl)]
    by_cases hc : d0.fQuality.fClass ≤ 127
    · rw [ile_true hc, if_pos hc]
      by_cases h : cmpC d0 p < 0
      · rw [ilt_true h, if_pos h]; rfl
      · rw [ilt_false h, if_neg h]; rfl
    · rw [ile_false hc, if_neg hc]
      cases best with
      | none => rfl
      | some b =>
        simp only [Option.isSome_some, Bool.not_true, cond_false, oelim_some, compare_spec d0 b h0 (hb b rfl), compare_spec b p (hb b rfl) (hp p rfl)]
        by_cases h : cmpC d0 b < 0
        · rw [ilt_true h, if_pos h]; rfl
        · rw [ilt_false h, if_neg h]
          cases here with
          | true => rfl
          | false =>
            by_cases h2 : cmpC b p = -1
            · rw [ieq_true h2, if_pos h2]; rfl
            · rw [ieq_false h2, if_neg h2]; rfl

/-! ### all ports -/
def bestS (acc : Int × Option api_Vector) (i : Nat) (x : Option api_Vector) : Int × Option api_Vector :=
  match x with
  | none => acc
  | some p => match acc.2 with
    | none => ((i : Int), x)
    | some b => if 0 < cmpC b p then ((i : Int), x) else acc
def bestN (ps : List (Option api_Vector)) : Nat → Int × Option api_Vector
  | 0 => (-1, none)
  | i + 1 => bestS (bestN ps i) i (ps.getD i none)
def allG (d0 : api_Vector) (li : List Bool) (ps : List (Option api_Vector)) (i : Nat) : Int :=
  oneD d0 (li.getD i false) (bestN ps ps.length).2 (ps.getD i none) (ieq (i : Int) (bestN ps ps.length).1)
def allL (d0 : api_Vector) (li : List Bool) (ps : List (Option api_Vector)) : List Int := (List.range ps.length).map (allG d0 li ps)

theorem bestN_ok (ps : List (Option api_Vector)) (hp : ∀ x ∈ ps, okS x) : ∀ i, i ≤ ps.length → okS (bestN ps i).2
  | 0, _ => fun v h => by cases h
  | i + 1, hi => by
    have ih := bestN_ok ps hp i (by omega)
    have hx : okS (ps.getD i none) := by rw [getD_at (show i < ps.length by omega)]; exact hp _ (List.getElem_mem _)
    unfold bestN bestS
    split
    · exact ih
    · rename_i p hpe
      split
      · exact hx
      · split
        · exact hx
        · exact ih
theorem bestN_at (ps : List (Option api_Vector)) : ∀ i, i ≤ ps.length → ((bestN ps i).1 = -1 ∧ (bestN ps i).2 = none ∧ ∀ j, j < i → ps.getD j none = none) ∨
    ∃ k b, k < i ∧ (bestN ps i).1 = (k : Int) ∧ (bestN ps i).2 = some b ∧ ps.getD k none = some b
  | 0, _ => .inl ⟨rfl, rfl, fun j h => by omega⟩
  | i + 1, hi => by
    have ih := bestN_at ps i (by omega)
    unfold bestN bestS
    cases hx : ps.getD i none with
    | none =>
      rcases ih with ⟨h1, h2, h3⟩ | ⟨k, b, h1, h2, h3, h4⟩
      · exact .inl ⟨h1, h2, fun j hj => by rcases Nat.lt_succ_iff_lt_or_eq.1 hj with h | h; exact h3 j h; rw [h]; exact hx⟩
      · exact .inr ⟨k, b, by omega, h2, h3, h4⟩
    | some p =>
      rcases ih with ⟨h1, h2, h3⟩ | ⟨k, b, h1, h2, h3, h4⟩
      · rw [h2]; exact .inr ⟨i, p, by omega, rfl, rfl, hx⟩
      · rw [h3]
        simp only
        split
        · exact .inr ⟨i, p, by omega, rfl, rfl, hx⟩
        · exact .inr ⟨k, b, by omega, h2, h3, h4⟩

theorem all1 (d0 : api_Vector) (li : List Bool) (ps : List (Option api_Vector)) (h0 : R64 d0.fSteps) (hp : ∀ x ∈ ps, okS x) (hl : ps.length ≤ 8) :
    decide_All.F1 ((li, (bestN ps ps.length).1, (bestN ps ps.length).2, lnil Int, ps, (ps.length : Int), 0, ()), d0, ()) = some (((bestN ps ps.length).1, (allL d0 li ps, ())), ()) := by
  unfold decide_All.F1
  refine loop_to (step := decide_All.step1 compare_Compare decide_One) (fun i => ((li, (bestN ps ps.length).1, (bestN ps ps.length).2, (List.range i).map (allG d0 li ps), ps, (ps.length : Int), (i : Int), ()), d0, ())) ps.length _ (by simp only; omega) (fun i hi => ?_) ?_
  · have hb := bestN_ok ps hp ps.length (Nat.le_refl _)
    have hx : okS (ps.getD i none) := by rw [getD_at hi]; exact hp _ (List.getElem_mem _)
    have hr : ∀ x : Int, room (((List.range i).map (allG d0 li ps)).length + (x :: lnil Int).length) 8 = true := fun x => room_true (by simp; omega)
    unfold decide_All.step1
    simp only [ilt_nat, inR_nat, hi, decide_true, cond_true, Int.toNat_natCast, one_spec _ _ _ _ _ h0 hb hx, oelim_some, hr, iinc (show i < 4611686018427387904 by omega)]
    rw [map_range_succ]
    by_cases h3 : i < li.length
    · simp only [h3, decide_true, cond_true, allG]
    · simp only [h3, decide_false, cond_false, allG, getD_out h3]
  · unfold decide_All.step1
    simp only [ilt_nat, Nat.lt_irrefl, decide_false, cond_false]
    rfl

theorem all0 (d0 : api_Vector) (li : List Bool) (ps : List (Option api_Vector)) (h0 : R64 d0.fSteps) (hp : ∀ x ∈ ps, okS x) (hl : ps.length ≤ 8) (h1 : 1 ≤ ps.length) :
    decide_All.F0 ((li, ps, (bestN ps 1).1, 1, (bestN ps 1).2, lnil Int, ()), d0, ()) = some ((allL d0 li ps, ((bestN ps ps.length).1, ())), ()) := by
  unfold decide_All.F0
  refine loop_to (step := decide_All.step0 compare_Compare decide_One decide_All.F1) (fun i => ((li, ps, (bestN ps (i + 1)).1, ((i + 1 : Nat) : Int), (bestN ps (i + 1)).2, lnil Int, ()), d0, ())) (ps.length - 1) _ (by simp only; omega) (fun i hi => ?_) ?_
  · have hi' : i + 1 < ps.length := by omega
    have hb := bestN_ok ps hp (i + 1) (by omega)
    have hx : okS (ps.getD (i + 1) none) := by rw [getD_at hi']; exact hp _ (List.getElem_mem _)
    unfold decide_All.step0
    simp only [ilt_nat, inR_nat, hi', decide_true, cond_true, Int.toNat_natCast, iinc (show i + 1 < 4611686018427387904 by omega)]
    rw [show bestN ps (i + 1 + 1) = bestS (bestN ps (i + 1)) (i + 1) (ps.getD (i + 1) none) from rfl]
    generalize hbe : bestN ps (i + 1) = B at *
    obtain ⟨at_, best⟩ := B
    generalize ps.getD (i + 1) none = x at *
    cases x with
    | none => rfl
    | some p =>
      cases best with
      | none => rfl
      | some b =>
        simp only [Option.isSome_some, Bool.not_true, cond_true, cond_false, oelim_some, compare_spec b p (hb b rfl) (hx p rfl), bestS]
        by_cases h : 0 < cmpC b p
        · rw [ilt_true h, if_pos h]; rfl
        · rw [ilt_false h, if_neg h]; rfl
  · rw [show ps.length - 1 + 1 = ps.length by omega]
    unfold decide_All.step0
    simp only [ilt_nat, Nat.lt_irrefl, decide_false, cond_false]
    rw [show ofN ps.length = (ps.length : Int) from rfl, all1 d0 li ps h0 hp hl]
    rfl

theorem all_spec (d0 : api_Vector) (li : List Bool) (ports : List (Option api_Vector)) (h0 : R64 d0.fSteps) (hp : ∀ x ∈ ports, okS x) :
    decide_All d0 li ports = some ((allL d0 li (ports.take 8), ((bestN (ports.take 8) (ports.take 8).length).1, ())), (), ()) := by
  have hm : opMinMax false (ofN ports.length) 8 = ((min ports.length 8 : Nat) : Int) := by
    rw [show ofN ports.length = (ports.length : Int) from rfl]
    simp only [opMinMax, cond_false, imin]
    split <;> omega
  have hle : le3 (ofN 0) ((min ports.length 8 : Nat) : Int) ports.length = true := by
    unfold le3
    rw [ile_true (by simp), ile_true (by simp), ile_true (by omega)]; rfl
  have ht : ports.take (min ports.length 8) = ports.take 8 := by
    by_cases h : ports.length ≤ 8
    · rw [Nat.min_eq_left h, List.take_of_length_le (Nat.le_refl _), List.take_of_length_le h]
    · rw [Nat.min_eq_right (by omega)]
  have hps : ∀ x ∈ ports.take 8, okS x := fun x hx => hp x (List.mem_of_mem_take hx)
  have hl : (ports.take 8).length ≤ 8 := by simp; omega
  unfold decide_All decide_All.gen
  rw [hm, hle]
  simp only [cond_true, Int.toNat_natCast, ht, Int.toNat_zero, List.drop_zero]
  generalize ports.take 8 = ps at *
  by_cases hz : 0 < ps.length
  · have e1 : ilt 0 (ofN ps.length) = true := ilt_true (by simp; omega)
    have e2 : inR 0 ps.length = true := inR_true (by omega) (by omega)
    have e3 : iadd .i64 0 1 = 1 := by decide
    rw [e1, e2, e3]
    simp only [cond_true]
    have hF := all0 d0 li ps h0 hps hl (by omega)
    rw [show bestN ps 1 = bestS (-1, none) 0 (ps.getD 0 none) from rfl] at hF
    generalize ps.getD 0 none = x at *
    cases x with
    | none =>
      simp only [bestS] at hF
      simp only [Option.isSome_none, cond_false, oelim_some, hF]
    | some p =>
      simp only [bestS] at hF
      simp only [Option.isSome_some, cond_true, oelim_some]
      rw [show ((0 : Nat) : Int) = 0 from rfl] at hF
      rw [hF]
      simp only [oelim_some]
  · have hn : ps = [] := List.eq_nil_of_length_eq_zero (by omega)
    subst hn
    have e1 : ilt 0 (ofN ([] : List (Option api_Vector)).length) = false := by decide
    have h := all1 d0 li [] h0 hps hl
    rw [e1]
    simp only [cond_false]
    rw [show ((([] : List (Option api_Vector)).length : Int)) = ofN ([] : List (Option api_Vector)).length from rfl] at h
    rw [show (bestN ([] : List (Option api_Vector)) ([] : List (Option api_Vector)).length) = (-1, none) from rfl] at h ⊢
    rw [h]
    rfl

theorem awake_true : law13_awake = some ((true, ()), (), ()) := by kernel_rfl

def upG (v : api_Vector) (i : Nat) : api_Vector := api_Vector.mk v.fPriority1 v.fQuality v.fPriority2 (iadd .u64 (ishl .u64 v.fGrand 8) (IntKind.u64.wrap (i : Int))) v.fSteps v.fSender v.fReceiver
theorem upG_mod (v : api_Vector) (i : Nat) (hi : i < 30) : (upG v i).fGrand % 256 = (i : Int) := by
  show (iadd .u64 (ishl .u64 v.fGrand 8) (IntKind.u64.wrap (i : Int))) % 256 = (i : Int)
  have hs : ishl .u64 v.fGrand 8 = IntKind.u64.wrap (v.fGrand * 256) := rfl
  rw [hs]
  simp [iadd, IntKind.wrap, IntKind.signed, IntKind.bits]
  omega

def gR (f : Nat → api_Vector) (i j : Nat) : Int := grand (f i) (f j)

theorem steps_ok {v : api_Vector} (h : api_Vector.Wf v) : R64 v.fSteps := by
  unfold api_Vector.Wf at h
  exact i64_of h.2.2.2.2.1
theorem allL_len (d0 : api_Vector) (li : List Bool) (ps : List (Option api_Vector)) : (allL d0 li ps).length = ps.length := by simp [allL]
theorem allL_get (d0 : api_Vector) (li : List Bool) (ps : List (Option api_Vector)) (i : Nat) (h : i < ps.length) (d : Int) : (allL d0 li ps).getD i d = allG d0 li ps i := by
  rw [getD_at (by rw [allL_len]; exact h)]
  simp [allL]
def dUp (d0 : api_Vector) (cl : Int) : api_Vector := api_Vector.mk d0.fPriority1 (api_Quality.mk (128 + cl) d0.fQuality.fAccuracy d0.fQuality.fVariance) d0.fPriority2 (iadd .u64 (ishl .u64 d0.fGrand 8) 99) d0.fSteps d0.fSender d0.fReceiver
theorem dUp_mod (d0 : api_Vector) (cl : Int) : (dUp d0 cl).fGrand % 256 = 99 := by
  show (iadd .u64 (ishl .u64 d0.fGrand 8) 99) % 256 = 99
  have hs : ishl .u64 d0.fGrand 8 = IntKind.u64.wrap (d0.fGrand * 256) := rfl
  rw [hs]
  simp [iadd, IntKind.wrap, IntKind.signed, IntKind.bits]
  try omega
theorem grand_un {a b : api_Vector} (h : a.fGrand ≠ b.fGrand) : grand a b = -1 ∨ grand a b = 1 := by
  have h0 : grand a b ≠ 0 := fun e => by
    have := (lx_zero (k := vkeys a) (l := vkeys b) rfl).1 e
    simp only [vkeys, List.cons.injEq] at this
    exact h this.2.2.2.2.2.1
  rcases lx_r (vkeys a) (vkeys b) with h1 | h1 | h1
  · exact .inl h1
  · exact absurd h1 h0
  · exact .inr h1
theorem cmp_un {a b : api_Vector} (h : a.fGrand ≠ b.fGrand) : cmpC a b = 2 * grand a b := by
  unfold cmpC
  rcases grand_un h with e | e <;> rw [if_pos (by omega)]

theorem better_core (d0 : api_Vector) (L : List api_Vector) (hd : api_Vector.Wf d0) (hl : L.length ≤ 8) (hs : ∀ y ∈ L, api_Vector.Wf y) (hpos : 0 < L.length) :
    (bif room L.length 88 then (oelim (law13_DecideBetter.F0 (((0, L.length), lnil (Option api_Vector), 0, ()), d0, (L.length, 0, fun j => L.getD j api_Vector.zero), ())) none fun r10 => (oelim (law00_Place r10.2.1.fQuality.fClass 100) none fun r11 => (oelim (decide_All (api_Vector.mk r10.2.1.fPriority1 (api_Quality.mk (iadd .i64 128 r11.1.1) r10.2.1.fQuality.fAccuracy r10.2.1.fQuality.fVariance) r10.2.1.fPriority2 (iadd .u64 (ishl .u64 r10.2.1.fGrand 8) 99) r10.2.1.fSteps r10.2.1.fSender r10.2.1.fReceiver) (lnil Bool) r10.1.2.1) none fun r12 => (oelim ((bif ine (ofN (List.length r12.1.1)) (ofN r10.1.1.2) then some (Bool.true, ()) else (bif ilt r12.1.2.1 0 then some (Bool.true, ()) else some (ile (ofN r10.1.1.2) r12.1.2.1, ())))) none fun r13 => (bif r13.1 then some ((Bool.false, ()), ((), ())) else (bif inR r12.1.2.1 r10.1.1.2 then (oelim (compare_Grand (api_Vector.mk r10.2.1.fPriority1 (api_Quality.mk (iadd .i64 128 r11.1.1) r10.2.1.fQuality.fAccuracy r10.2.1.fQuality.fVariance) r10.2.1.fPriority2 (iadd .u64 (ishl .u64 r10.2.1.fGrand 8) 99) r10.2.1.fSteps r10.2.1.fSender r10.2.1.fReceiver) (r10.2.2.1.2.2 (r10.1.1.1 + Int.toNat r12.1.2.1))) none fun r14 => (oelim (law13_DecideBetter.F1 ((r12.1.1, r12.1.2.1, ilt r14.1.1 0, 0, ()), ())) none fun r15 => (selim r15 (fun r16 => (oelim law13_awake none fun r17 => some ((r17.1.1, ()), ((), ())))) (fun r16 => some ((r16.1.1, ()), ((), ())))))) else none)))))) else none) = some ((true, ()), (), ()) := by
  let f : Nat → Nat → api_Vector := fun i j => if j < i then upG (L.getD j api_Vector.zero) j else L.getD j api_Vector.zero
  let g : Nat → api_Vector := fun j => upG (L.getD j api_Vector.zero) j
  have hF0 : law13_DecideBetter.F0 (((0, L.length), lnil (Option api_Vector), 0, ()), d0, (L.length, 0, fun j => L.getD j api_Vector.zero), ()) = some (((0, L.length), (List.range L.length).map (fun j => some (g j)), ()), d0, (L.length, L.length, f L.length), ()) := by
    unfold law13_DecideBetter.F0
    have h0 : (fun j => L.getD j api_Vector.zero) = f 0 := by funext j; simp [f]
    rw [h0]
    refine loop_to (step := law13_DecideBetter.step0 law13_awake law00_Place decide_All compare_Grand) (fun i => (((0, L.length), (List.range i).map (fun j => some (g j)), (i : Int), ()), d0, (L.length, i, f i), ())) L.length _ (by first | omega | (show L.length < 1000000 + _; omega)) (fun i hi => ?_) ?_
    · unfold law13_DecideBetter.step0
      have h1 : ilt (i : Int) (ofN L.length) = true := ilt_true (by show (i : Int) < (L.length : Int); omega)
      have hfi : f i i = L.getD i api_Vector.zero := if_neg (by omega)
      have hset : fset (f i) i (upG (L.getD i api_Vector.zero) i) = f (i + 1) := by
        funext j
        simp only [fset, f]
        by_cases hj : j = i
        · subst hj; rw [if_pos rfl, if_pos (by omega)]
        · rw [if_neg hj]
          by_cases h2 : j < i
          · rw [if_pos h2, if_pos (by omega)]
          · rw [if_neg h2, if_neg (by omega)]
      have hgi : f (i + 1) i = g i := if_pos (by omega)
      have hrm : ∀ x : Option api_Vector, room (((List.range i).map (fun j => some (g j))).length + (x :: lnil (Option api_Vector)).length) 8 = true := fun x => room_true (by simp; omega)
      simp only [h1, cond_true, inR_nat, hi, decide_true, Int.toNat_natCast, Nat.zero_add, hfi, Nat.ble_eq_true_of_le (Nat.le_refl i), Nat.beq_refl, hrm, iinc (show i < 4611686018427387904 by omega)]
      rw [map_range_succ, ← hgi, ← hset]
      rfl
    · unfold law13_DecideBetter.step0
      have h1 : ilt (L.length : Int) (ofN L.length) = false := ilt_false (by show ¬ (L.length : Int) < (L.length : Int); omega)
      simp only [h1, cond_false]
  rw [room_true (by omega), hF0]
  simp only [cond_true, oelim_some]
  rw [place_spec d0.fQuality.fClass 100 (by decide) (by decide)]
  simp only [oelim_some]
  have hc0 : 0 ≤ d0.fQuality.fClass % 100 := by omega
  have hc1 : d0.fQuality.fClass % 100 < 100 := by omega
  generalize d0.fQuality.fClass % 100 = cl at *
  rw [iadd_of (a := 128) (b := cl) (by omega)]
  have hdu : api_Vector.mk d0.fPriority1 (api_Quality.mk (128 + cl) d0.fQuality.fAccuracy d0.fQuality.fVariance) d0.fPriority2 (iadd .u64 (ishl .u64 d0.fGrand 8) 99) d0.fSteps d0.fSender d0.fReceiver = dUp d0 cl := rfl
  simp only [hdu]
  have hcls : ¬ (dUp d0 cl).fQuality.fClass ≤ 127 := by show ¬ 128 + cl ≤ 127; omega
  have hps : ∀ x ∈ (List.range L.length).map (fun j => some (g j)), okS x := fun x hx v hv => by
    obtain ⟨j, hj, rfl⟩ := List.mem_map.1 hx
    cases hv
    have hj' := List.mem_range.1 hj
    show R64 (L.getD j api_Vector.zero).fSteps
    rw [getD_at hj']; exact steps_ok (hs _ (List.getElem_mem _))
  generalize hpe : (List.range L.length).map (fun j => some (g j)) = ps at *
  have hpl : ps.length = L.length := by rw [← hpe]; simp
  have hpg : ∀ j, j < L.length → ps.getD j none = some (g j) := fun j hj => by rw [← hpe, getD_at (by simpa using hj)]; simp
  rw [all_spec (dUp d0 cl) (lnil Bool) ps (show R64 d0.fSteps from steps_ok hd) hps, List.take_of_length_le (by omega)]
  simp only [oelim_some]
  rcases bestN_at ps ps.length (Nat.le_refl _) with ⟨_, _, hb⟩ | ⟨k, b, hk, hb1, hb2, hb3⟩
  · have := hb 0 (by omega)
    rw [hpg 0 hpos] at this; cases this
  · have hkL : k < L.length := by omega
    have hbg : b = g k := by rw [hpg k hkL] at hb3; cases hb3; rfl
    subst hbg
    have hfk : f L.length k = g k := if_pos hkL
    rw [show ofN (allL (dUp d0 cl) (lnil Bool) ps).length = ofN L.length by rw [allL_len, hpl], ine_self, hb1]
    simp only [cond_false]
    rw [ilt_false (show ¬ (k : Int) < 0 by omega), ile_false (show ¬ ofN L.length ≤ (k : Int) by show ¬ (L.length : Int) ≤ (k : Int); omega)]
    simp only [cond_false, oelim_some, inR_nat, hkL, decide_true, cond_true, Int.toNat_natCast, Nat.zero_add, hfk, grand_spec]
    have hgm : ∀ j, j < L.length → (g j).fGrand % 256 = (j : Int) := fun j hj => upG_mod _ j (by omega)
    have hdg : (dUp d0 cl).fGrand ≠ (g k).fGrand := fun e => by
      have h1 := dUp_mod d0 cl
      have h2 := hgm k hkL
      rw [e] at h1
      omega
    have hF1 : law13_DecideBetter.F1 ((allL (dUp d0 cl) (lnil Bool) ps, (k : Int), ilt (grand (dUp d0 cl) (g k)) 0, 0, ()), ()) = some (.inl ((), ())) := by
      unfold law13_DecideBetter.F1
      refine loop_to (step := law13_DecideBetter.step1 law13_awake law00_Place decide_All compare_Grand) (fun i => ((allL (dUp d0 cl) (lnil Bool) ps, (k : Int), ilt (grand (dUp d0 cl) (g k)) 0, (i : Int), ()), ())) L.length _ (by first | omega | (simp only [allL_len]; omega) | (show L.length < 1000000 + _; omega)) (fun i hi => ?_) ?_
      · unfold law13_DecideBetter.step1
        have hlen : (allL (dUp d0 cl) (lnil Bool) ps).length = L.length := by rw [allL_len, hpl]
        have h1 : ilt (i : Int) (ofN L.length) = true := ilt_true (by show (i : Int) < (L.length : Int); omega)
        have hg : (allL (dUp d0 cl) (lnil Bool) ps).getD i (0 : D UC.int) = allG (dUp d0 cl) (lnil Bool) ps i := allL_get _ _ _ i (by omega) _
        have hv : allG (dUp d0 cl) (lnil Bool) ps i = if grand (dUp d0 cl) (g k) < 0 then 2 else if i = k then 6 else 3 := by
          unfold allG
          rw [hb2, hb1, hpg i hi]
          unfold oneD
          simp only [if_neg hcls]
          rw [cmp_un hdg]
          by_cases hlt : grand (dUp d0 cl) (g k) < 0
          · rw [if_pos (by omega), if_pos hlt]
          · rw [if_neg (by omega), if_neg hlt]
            by_cases hik : i = k
            · subst hik; rw [ieq_self]; simp
            · rw [ieq_false (show ¬ (i : Int) = (k : Int) by omega), if_neg (by simp), if_neg hik]
              have hne : (g k).fGrand ≠ (g i).fGrand := fun e => by
                have h2 := hgm k hkL
                have h3 := hgm i hi
                rw [e] at h2; omega
              rw [cmp_un hne, if_neg (by omega)]
        simp only [hlen, h1, cond_true, inR_nat, hi, decide_true, Int.toNat_natCast, hg, hv, iinc (show i < 4611686018427387904 by omega)]
        by_cases hlt : grand (dUp d0 cl) (g k) < 0
        · rw [ilt_true hlt, if_pos hlt]; rfl
        · rw [ilt_false hlt, if_neg hlt]
          by_cases hik : i = k
          · subst hik; rw [ieq_self, if_pos rfl]; rfl
          · rw [ieq_false (show ¬ (i : Int) = (k : Int) by omega), if_neg hik]; rfl
      · unfold law13_DecideBetter.step1
        have h1 : ilt (L.length : Int) (ofN (allL (dUp d0 cl) (lnil Bool) ps).length) = false := ilt_false (by rw [allL_len, hpl]; show ¬ (L.length : Int) < (L.length : Int); omega)
        simp only [h1, cond_false]
    rw [hF1]
    simp only [oelim_some, selim, awake_true]

theorem law13_DecideBetter.law : ∀ (d0 : api_Vector) (l : List (api_Vector)), api_Vector.Wf d0 → (l.length * 88 ≤ reachBytes ∧ ∀ y ∈ l, api_Vector.Wf y) → law13_DecideBetter d0 l = some ((true, ()), (), ()) := by
  intro d0 l hd hl
  unfold law13_DecideBetter law13_DecideBetter.gen
  by_cases h8 : 8 < l.length
  · rw [ilt_true (show 8 < ofN l.length by show (8 : Int) < (l.length : Int); omega)]
    have hle : le3 (ofN 0) 8 l.length = true := by
      unfold le3
      rw [ile_true (show 0 ≤ ofN 0 by decide), ile_true (show ofN 0 ≤ 8 by decide), ile_true (show (8 : Int) ≤ (l.length : Int) by omega)]; rfl
    simp only [cond_true, hle]
    have ht : List.drop (ofN 0).toNat (List.take (Int.toNat 8) l) = l.take 8 := rfl
    rw [ht, ieq_false (show ¬ ofN (l.take 8).length = 0 by show ¬ (((l.take 8).length : Nat) : Int) = 0; rw [List.length_take]; omega)]
    simp only [cond_false]
    exact better_core d0 (l.take 8) hd (by simp; omega) (fun y hy => hl.2 y (List.mem_of_mem_take hy)) (by rw [List.length_take]; omega)
  · rw [ilt_false (show ¬ 8 < ofN l.length by show ¬ (8 : Int) < (l.length : Int); omega)]
    simp only [cond_false]
    by_cases h0 : l.length = 0
    · rw [ieq_true (show ofN l.length = 0 by show (l.length : Int) = 0; omega)]
      simp only [cond_true, awake_true, oelim_some]
    · rw [ieq_false (show ¬ ofN l.length = 0 by show ¬ (l.length : Int) = 0; omega)]
      simp only [cond_false]
      exact better_core d0 l hd (by omega) hl.2 (by omega)

end Go.Proofs.Ytkjjdjgpmlbloaa
