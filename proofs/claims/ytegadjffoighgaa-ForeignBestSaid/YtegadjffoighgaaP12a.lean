/- Typed forms of the functions that these statements reach, proved equal to what the model runs, and laws over them. -/
import Derived.Test.YtegadjffoighgaaS12
import Derived.Test.YtegadjffoighgaaAr3
namespace Go.Proofs.Ytegadjffoighgaa
open Go.Rf
set_option linter.unusedVariables false
set_option linter.unusedSimpArgs false
theorem place_spec (v n : Int) (hn : 0 < n) (hn2 : n ≤ 4611686018427387904) : law00_Place v n = some ((v % n, ()), (), ()) := by
  have h1 : ine n 0 = true := ine_true (by omega)
  have h2 := Int.emod_nonneg v (Int.ne_of_gt hn)
  have h3 := Int.emod_lt_of_pos v hn
  obtain ⟨h4, h5⟩ := tmod_place v n hn
  unfold law00_Place law00_Place.gen
  rw [h1]
  simp only [cond_true]
  by_cases hc : v.tmod n < 0
  · have e : iadd .i64 (irem v n) n = v % n := by
      have := h4 hc
      rw [iadd_of] <;> simp only [irem] <;> omega
    rw [show ilt (irem v n) 0 = true from ilt_true hc, e]; simp only [cond_true]
  · rw [show ilt (irem v n) 0 = false from ilt_false hc, show irem v n = v % n from h5 hc]; simp only [cond_false]

/-! ### comparisons, as numbers -/
def c3 (x y : Int) : Int := if x < y then -1 else if y < x then 1 else 0
def orL : List Int → Int
  | [] => 0
  | x :: r => if x = 0 then orL r else x
def lx : List Int → List Int → Int
  | x :: r, y :: s => if c3 x y = 0 then lx r s else c3 x y
  | _, _ => 0

theorem c3_r (x y : Int) : c3 x y = -1 ∨ c3 x y = 0 ∨ c3 x y = 1 := by unfold c3; split <;> (try split) <;> simp
theorem c3_neg (x y : Int) : c3 y x = -c3 x y := by unfold c3; split <;> split <;> omega
theorem c3_zero {x y : Int} : c3 x y = 0 ↔ x = y := by unfold c3; split <;> (try split) <;> omega
theorem c3_self (x : Int) : c3 x x = 0 := c3_zero.2 rfl
theorem c3_lt {x y : Int} : c3 x y = -1 ↔ x < y := by unfold c3; split <;> (try split) <;> omega
theorem c3_gt {x y : Int} : c3 x y = 1 ↔ y < x := by unfold c3; split <;> (try split) <;> omega

theorem lx_r : ∀ (k l : List Int), lx k l = -1 ∨ lx k l = 0 ∨ lx k l = 1
  | x :: r, y :: s => by
    unfold lx
    split
    · exact lx_r r s
    · exact c3_r x y
  | [], _ => by unfold lx; simp
  | _ :: _, [] => by unfold lx; simp
theorem lx_neg : ∀ (k l : List Int), lx l k = -lx k l
  | x :: r, y :: s => by
    unfold lx
    rw [c3_neg x y]
    by_cases h : c3 x y = 0
    · rw [if_pos h, if_pos (by omega)]; exact lx_neg r s
    · rw [if_neg h, if_neg (by omega)]
  | [], [] => rfl
  | [], _ :: _ => rfl
  | _ :: _, [] => rfl
theorem lx_self : ∀ (k : List Int), lx k k = 0
  | [] => rfl
  | x :: r => by unfold lx; rw [if_pos (c3_self x)]; exact lx_self r
theorem lx_zero : ∀ {k l : List Int}, k.length = l.length → (lx k l = 0 ↔ k = l)
  | [], [], _ => by simp [lx]
  | x :: r, y :: s, h => by
    unfold lx
    by_cases e : c3 x y = 0
    · rw [if_pos e, lx_zero (by simpa using h), c3_zero.1 e]; simp
    · rw [if_neg e]
      constructor
      · intro h'; exact absurd h' e
      · intro h'; cases h'; exact absurd (c3_self x) e
  | [], _ :: _, h => by cases h
  | _ :: _, [], h => by cases h
/-- an order -/
theorem lx_trans : ∀ {k l m : List Int}, k.length = l.length → l.length = m.length → lx k l ≤ 0 → lx l m ≤ 0 → lx k m ≤ 0 ∧ (lx k l < 0 ∨ lx l m < 0 → lx k m < 0)
  | [], [], [], _, _, _, _ => by simp [lx]
  | x :: r, y :: s, z :: t, h1, h2, h3, h4 => by
    unfold lx at h3 h4 ⊢
    have a1 := @c3_zero x y
    have a2 := @c3_zero y z
    have a3 := @c3_zero x z
    have b1 := @c3_lt x y
    have b2 := @c3_lt y z
    have b3 := @c3_lt x z
    have d1 := c3_r x y
    have d2 := c3_r y z
    have d3 := c3_r x z
    by_cases e1 : c3 x y = 0
    · rw [if_pos e1] at h3 ⊢
      by_cases e2 : c3 y z = 0
      · rw [if_pos e2] at h4 ⊢
        rw [if_pos (a3.2 ((a1.1 e1).trans (a2.1 e2)))]
        exact lx_trans (by simpa using h1) (by simpa using h2) h3 h4
      · rw [if_neg e2] at h4 ⊢
        have : x = y := a1.1 e1
        subst this
        rw [if_neg e2]
        exact ⟨h4, fun _ => by omega⟩
    · rw [if_neg e1] at h3 ⊢
      by_cases e2 : c3 y z = 0
      · have : y = z := a2.1 e2
        subst this
        rw [if_neg e1]
        exact ⟨h3, fun _ => by omega⟩
      · rw [if_neg e2] at h4 ⊢
        have h5 : c3 x z = -1 := b3.2 (by have := b1.1 (by omega); have := b2.1 (by omega); omega)
        rw [if_neg (by omega)]
        omega
  | [], _ :: _, _, h, _, _, _ => by cases h
  | _ :: _, [], _, h, _, _, _ => by cases h
  | [], [], _ :: _, _, h, _, _ => by cases h
  | _ :: _, _ :: _, [], _, h, _, _ => by cases h
theorem orL_nest (x : Int) (l r : List Int) : orL (orL l :: r) = orL (l ++ r) := by
  induction l with
  | nil => simp [orL]
  | cons y l ih =>
    by_cases h : y = 0
    · subst h; simp only [orL, if_true, List.cons_append] at ih ⊢; exact ih
    · simp [orL, h]

theorem cmp_spec (x y : Int) : cmp_Compare_int x y = some ((c3 x y, ()), (), ()) := by
  have h : ∀ z, cmp_isNaN_int z = some ((false, ()), (), ()) := fun z => by show some ((ine z z, ()), (), ()) = _; rw [ine_self]
  unfold cmp_Compare_int cmp_Compare_int.gen c3
  simp only [h, oelim_some, cond_false]
  by_cases h1 : x < y
  · rw [ilt_true h1, if_pos h1]; rfl
  · rw [ilt_false h1, if_neg h1]
    by_cases h2 : y < x
    · rw [ilt_true h2, if_pos h2]; rfl
    · rw [ilt_false h2, if_neg h2]; rfl
theorem cmpu_spec (x y : Int) : cmp_Compare_uint64 x y = some ((c3 x y, ()), (), ()) := by
  have h : ∀ z, cmp_isNaN_uint64 z = some ((false, ()), (), ()) := fun z => by show some ((ine z z, ()), (), ()) = _; rw [ine_self]
  unfold cmp_Compare_uint64 cmp_Compare_uint64.gen c3
  simp only [h, oelim_some, cond_false]
  by_cases h1 : x < y
  · rw [ilt_true h1, if_pos h1]; rfl
  · rw [ilt_false h1, if_neg h1]
    by_cases h2 : y < x
    · rw [ilt_true h2, if_pos h2]; rfl
    · rw [ilt_false h2, if_neg h2]; rfl

theorem or_spec (vals : List Int) (hl : vals.length < 4611686018427387904) : cmp_Or_int vals = some ((orL vals, ()), (), ()) := by
  obtain ⟨r, hb, hp⟩ := loopFix_rule (step := cmp_Or_int.step0) (Inv := fun a => ∃ i : Nat, a = ((0, vals, (vals.length : Int), (i : Int), ()), ()) ∧ i ≤ vals.length ∧ orL (vals.drop i) = orL vals)
    (Post := fun b => (b = .inl ((0, ()), ()) ∧ orL vals = 0) ∨ b = .inr ((orL vals, ()), ())) (m := fun a => vals.length - a.1.2.2.2.1.toNat) (by
      rintro x ⟨i, rfl, hi, hm⟩
      by_cases h1 : i < vals.length
      · have e1 : ilt (i : Int) (vals.length : Int) = true := ilt_true (by omega)
        have e2 : inR (i : Int) vals.length = true := inR_true (by omega) (by omega)
        have e3 : iadd .i64 (i : Int) 1 = ((i + 1 : Nat) : Int) := by rw [iadd_of (by omega)]; omega
        rw [List.drop_eq_getElem_cons h1] at hm
        have e4 : vals.getD i (0 : Int) = vals[i] := by simp [List.getD, h1]
        have e5 : vals.getD i (0 : D UC.int) = vals[i] := e4
        by_cases h2 : vals[i] = 0
        · refine .inl ⟨((0, vals, (vals.length : Int), ((i + 1 : Nat) : Int), ()), ()), ?_, ⟨i + 1, rfl, by omega, by rw [← hm, orL, if_pos h2]⟩, by simp only [Int.toNat_natCast]; omega⟩
          unfold cmp_Or_int.step0
          simp only [e1, e2, e3, e4, e5, cond_true, Int.toNat_natCast, h2, ine_self, cond_false]
        · refine .inr ⟨.inr ((orL vals, ()), ()), ?_, .inr rfl⟩
          unfold cmp_Or_int.step0
          simp only [e1, e2, e3, e4, e5, cond_true, Int.toNat_natCast, ine_true h2]
          rw [← hm, orL, if_neg h2]
      · have e1 : ilt (i : Int) (vals.length : Int) = false := ilt_false (by omega)
        refine .inr ⟨.inl ((0, ()), ()), ?_, .inl ⟨rfl, ?_⟩⟩
        · unfold cmp_Or_int.step0
          simp only [e1, cond_false]
        · rw [← hm, List.drop_eq_nil_of_le (by omega)]; rfl) (1000000 + vals.length) ((0, vals, (vals.length : Int), 0, ()), ()) ⟨0, rfl, by omega, rfl⟩ (by simp only; omega)
  have hF : cmp_Or_int.F0 ((0, vals, (vals.length : Int), 0, ()), ()) = some r := hb
  unfold cmp_Or_int cmp_Or_int.gen
  simp only [hF, oelim_some]
  rcases hp with ⟨rfl, h⟩ | rfl
  · simp only [selim, h]
  · simp only [selim]

def qkeys (q : api_Quality) : List Int := [q.fClass, q.fAccuracy, q.fVariance]
def vkeys (v : api_Vector) : List Int := [v.fPriority1, v.fQuality.fClass, v.fQuality.fAccuracy, v.fQuality.fVariance, v.fPriority2, v.fGrand]
def pkeys (p : api_PortID) : List Int := [p.fClock, p.fPort]
def grand (a b : api_Vector) : Int := lx (vkeys a) (vkeys b)
def identC (a b : api_PortID) : Int := lx (pkeys a) (pkeys b)

theorem quality_spec (a b : api_Quality) : quality_Compare a b = some ((lx (qkeys a) (qkeys b), ()), (), ()) := by
  unfold quality_Compare quality_Compare.gen
  simp only [cmp_spec, oelim_some]
  rw [or_spec _ (by simp)]
  simp [oelim_some, orL, lx, qkeys]

theorem grand_spec (a b : api_Vector) : compare_Grand a b = some ((grand a b, ()), (), ()) := by
  have i1 : iadd .i64 0 1 = 1 := by decide
  have i2 : iadd .i64 1 1 = 2 := by decide
  have i3 : iadd .i64 2 1 = 3 := by decide
  unfold compare_Grand compare_Grand.gen
  simp only [cmp_spec, cmpu_spec, quality_spec, oelim_some, i1, i2, i3]
  simp [grand, lx, vkeys, qkeys, ine]
  generalize c3 a.fPriority1 b.fPriority1 = x1
  generalize c3 a.fQuality.fClass b.fQuality.fClass = x2
  generalize c3 a.fQuality.fAccuracy b.fQuality.fAccuracy = x3
  generalize c3 a.fQuality.fVariance b.fQuality.fVariance = x4
  generalize c3 a.fPriority2 b.fPriority2 = x5
  generalize c3 a.fGrand b.fGrand = x6
  simp only [ite_b, bne_iff_ne, ne_eq]
  by_cases h1 : x1 = 0 <;> by_cases h2 : x2 = 0 <;> by_cases h3 : x3 = 0 <;> by_cases h4 : x4 = 0 <;> by_cases h5 : x5 = 0 <;> by_cases h6 : x6 = 0 <;> simp [h1, h2, h3, h4, h5, h6]

theorem ident_spec (a b : api_PortID) : ident_Compare a b = some ((identC a b, ()), (), ()) := by
  unfold ident_Compare ident_Compare.gen
  simp only [cmp_spec, cmpu_spec, oelim_some]
  rw [or_spec _ (by simp)]
  by_cases h1 : a.fClock = b.fClock
  · rw [ieq_true h1]
    by_cases h2 : a.fPort = b.fPort
    · rw [ieq_true h2]; simp [identC, lx, pkeys, h1, h2, c3_self]
    · rw [ieq_false h2]; simp [identC, lx, pkeys, h1, c3_self, orL, oelim_some, c3_zero, h2]
  · rw [ieq_false h1]; simp [identC, lx, pkeys, orL, oelim_some, c3_zero, h1]

def moreC (a : api_Vector) : Int := if identC a.fReceiver a.fSender = -1 then 2 else if identC a.fReceiver a.fSender = 0 then 0 else 1
theorem more_spec (a : api_Vector) : compare_more a = some ((moreC a, ()), (), ()) := by
  unfold compare_more compare_more.gen moreC
  simp only [ident_spec, oelim_some]
  rcases lx_r (pkeys a.fReceiver) (pkeys a.fSender) with h | h | h <;> rw [show identC a.fReceiver a.fSender = _ from h] <;> rfl

def cmpC (a b : api_Vector) : Int :=
  if grand a b ≠ 0 then 2 * grand a b
  else if b.fSteps < a.fSteps then (if a.fSteps - 1 = b.fSteps then moreC a else 2)
  else if a.fSteps < b.fSteps then (if b.fSteps - 1 = a.fSteps then -moreC b else -2)
  else if identC a.fSender b.fSender ≠ 0 then identC a.fSender b.fSender else c3 a.fReceiver.fPort b.fReceiver.fPort

theorem moreC_r (a : api_Vector) : moreC a = 0 ∨ moreC a = 1 ∨ moreC a = 2 := by unfold moreC; split <;> (try split) <;> simp

theorem ineg (x : Int) (h : -9223372036854775807 ≤ x ∧ x < 9223372036854775808) : IntKind.i64.wrap (0 - x) = -x := by rw [iwrap]; omega

theorem compare_spec (a b : api_Vector) (ha : R64 a.fSteps) (hb : R64 b.fSteps) : compare_Compare a b = some ((cmpC a b, ()), (), ()) := by
  unfold compare_Compare compare_Compare.gen cmpC
  simp only [grand_spec, cmp_spec, more_spec, ident_spec, oelim_some]
  have hg := lx_r (vkeys a) (vkeys b)
  have e1 : imul .i64 2 (grand a b) = 2 * grand a b := imul_of (by unfold grand; omega)
  have hc := c3_r a.fSteps b.fSteps
  have e2 : imul .i64 2 (c3 a.fSteps b.fSteps) = 2 * c3 a.fSteps b.fSteps := imul_of (by omega)
  rw [e1, e2]
  by_cases h0 : grand a b = 0
  · have h0' : ine (2 * grand a b) 0 = false := ine_false (by omega)
    rw [h0', if_neg (by simpa using h0)]
    simp only [cond_false]
    have ho : cmp_Or_int (identC a.fSender b.fSender :: c3 a.fReceiver.fPort b.fReceiver.fPort :: lnil (D UC.int)) = some ((if identC a.fSender b.fSender ≠ 0 then identC a.fSender b.fSender else c3 a.fReceiver.fPort b.fReceiver.fPort, ()), (), ()) := by
      rw [or_spec _ (by simp)]
      by_cases h : identC a.fSender b.fSender = 0
      · simp [orL, h]; intro h'; exact h'.symm
      · simp [orL, h]
    have m1 := moreC_r a
    have m2 := moreC_r b
    by_cases h1 : b.fSteps < a.fSteps
    · have hc1 : c3 a.fSteps b.fSteps = 1 := c3_gt.2 h1
      have e3 : isub .i64 a.fSteps 1 = a.fSteps - 1 := isub_of (by omega)
      rw [hc1, e3, if_pos h1, show ilt 0 (2 * 1) = true from rfl, show ilt (2 * 1) 0 = false from rfl, show ieq (2 * 1) 0 = false from rfl]
      by_cases h2 : a.fSteps - 1 = b.fSteps
      · rw [ieq_true h2, if_pos h2]; rfl
      · rw [ieq_false h2, if_neg h2]; rfl
    · rw [if_neg h1]
      by_cases h3 : a.fSteps < b.fSteps
      · have hc1 : c3 a.fSteps b.fSteps = -1 := c3_lt.2 h3
        have e3 : isub .i64 b.fSteps 1 = b.fSteps - 1 := isub_of (by omega)
        rw [hc1, e3, if_pos h3, show ilt 0 (2 * -1) = false from rfl, show ilt (2 * -1) 0 = true from rfl, show ieq (2 * -1) 0 = false from rfl, ineg _ (by omega)]
        by_cases h2 : b.fSteps - 1 = a.fSteps
        · rw [ieq_true h2, if_pos h2]; rfl
        · rw [ieq_false h2, if_neg h2]; rfl
      · have hc1 : c3 a.fSteps b.fSteps = 0 := c3_zero.2 (by omega)
        rw [hc1, if_neg h3, show ilt 0 (2 * 0) = false from rfl, show ilt (2 * 0) 0 = false from rfl, show ieq (2 * 0) 0 = true from rfl, ho]
        rfl
  · have h0' : ine (2 * grand a b) 0 = true := ine_true (by omega)
    rw [h0', if_pos h0]; rfl

/-! ### who a port has heard -/
def samP (x y : api_PortID) : Bool := bif ieq x.fClock y.fClock then bif ieq x.fPort y.fPort then Bool.true else Bool.false else Bool.false
theorem samP_iff {x y : api_PortID} : samP x y = true ↔ x.fClock = y.fClock ∧ x.fPort = y.fPort := by
  unfold samP
  by_cases h1 : x.fClock = y.fClock
  · rw [ieq_true h1]
    by_cases h2 : x.fPort = y.fPort
    · rw [ieq_true h2]; simp [h1, h2]
    · rw [ieq_false h2]; simp [h2]
  · rw [ieq_false h1]; simp [h1]
theorem samP_self (x : api_PortID) : samP x x = true := samP_iff.2 ⟨rfl, rfl⟩
theorem samP_no {x y : api_PortID} (h : x.fClock ≠ y.fClock) : samP x y = false := by
  cases hh : samP x y with
  | false => rfl
  | true => exact absurd (samP_iff.1 hh).1 h

theorem find_spec {T : foreign_Table} {m : api_Msg} {now : Int} {N k : Nat} (hn : T.fn = (N : Int)) (hN : N ≤ 5) (hk : k ≤ N) (hlt : ∀ i, i < k → samP (T.fl i).fVector.fSender m.fSource = false)
    (hat : k < N → samP (T.fl k).fVector.fSender m.fSource = true) : foreign_Table_Hear.F0 ((now, 0, ()), T, m, ()) = some ((now, (k : Int), ()), T, m, ()) := by
  unfold foreign_Table_Hear.F0
  refine loop_to (step := foreign_Table_Hear.step0) (fun i => ((now, (i : Int), ()), T, m, ())) k _ (by omega) (fun i hi => ?_) ?_
  · unfold foreign_Table_Hear.step0
    have h1 : i < N := by omega
    have h2 : i < 5 := by omega
    have h3 := hlt i hi
    unfold samP at h3
    simp only [hn, ilt_nat, inR_nat, h1, h2, decide_true, cond_true, Int.toNat_natCast, h3, oelim_some, Bool.not_false, iinc (show i < 4611686018427387904 by omega)]
  · unfold foreign_Table_Hear.step0
    by_cases h1 : k < N
    · have h2 : k < 5 := by omega
      have h3 := hat h1
      unfold samP at h3
      simp only [hn, ilt_nat, inR_nat, h1, h2, decide_true, cond_true, Int.toNat_natCast, h3, oelim_some, Bool.not_true, cond_false]
    · simp only [hn, ilt_nat, h1, decide_false, cond_false, oelim_some]

/-- an announce that may be heard -/
structure Fair (T : foreign_Table) (m : api_Msg) (now : Int) : Prop where
  kind : m.fType = 11
  lo : 0 ≤ now
  hi : now ≤ 1099511627776
  src : m.fSource.fClock ≠ T.fown.fClock
  steps : m.fSteps < 255
  flags : iand .i64 m.fFlags 256 = 0

def recOf (T : foreign_Table) (m : api_Msg) (now first : Int) : foreign_Record :=
  foreign_Record.mk (api_Vector.mk m.fPriority1 m.fQuality m.fPriority2 m.fGrand m.fSteps m.fSource T.fown) (api_Times.mk m.fUtc (iand .i64 m.fFlags 63) m.fOrigin) m.fSeq first now
def setR (T : foreign_Table) (k : Nat) (r : foreign_Record) (n : Int) : foreign_Table := foreign_Table.mk T.fown T.fwindow (fset T.fl k r) n
def lateB (r : foreign_Record) (m : api_Msg) (now : Int) : Bool := bif ilt (iand .i64 (isub .i64 r.fSeq m.fSeq) 65535) 32768 then true else ilt now r.fLast

theorem hear_guard {T : foreign_Table} {m : api_Msg} {now : Int} (h : Fair T m now) {N k : Nat} (hn : T.fn = (N : Int)) (hN : N ≤ 5) (hk : k ≤ N) (hlt : ∀ i, i < k → samP (T.fl i).fVector.fSender m.fSource = false)
    (hat : k < N → samP (T.fl k).fVector.fSender m.fSource = true) :
    foreign_Table_Hear m now T = if k < N then (if lateB (T.fl k) m now = true then some ((9, ()), (T, ()), ()) else some ((0, ()), (setR T k (recOf T m now (T.fl k).fLast) T.fn, ()), ()))
      else if N = 5 then some ((7, ()), (T, ()), ()) else some ((0, ()), (setR T N (recOf T m now (-1)) ((N + 1 : Nat) : Int), ()), ()) := by
  unfold foreign_Table_Hear foreign_Table_Hear.gen
  have e1 : ilt now 0 = false := ilt_false (by have := h.lo; omega)
  have e2 : ilt 1099511627776 now = false := ilt_false (by have := h.hi; omega)
  have e3 : ieq m.fSource.fClock T.fown.fClock = false := ieq_false h.src
  have e4 : ile 255 m.fSteps = false := ile_false (by have := h.steps; omega)
  rw [ine_false h.kind]
  simp only [cond_false, e1, e2, e3, e4, oelim_some, h.flags, ine_self, find_spec hn hN hk hlt hat]
  by_cases h1 : k < N
  · have h2 : k < 5 := by omega
    rw [if_pos h1]
    simp only [hn, ilt_nat, inR_nat, h1, h2, decide_true, cond_true, Int.toNat_natCast]
    unfold lateB
    cases hx : ilt (iand .i64 (isub .i64 (T.fl k).fSeq m.fSeq) 65535) 32768 with
    | true => simp only [cond_true, oelim_some, if_true]
    | false =>
      cases hy : ilt now (T.fl k).fLast with
      | true => simp only [cond_false, cond_true, oelim_some, if_true, hy]
      | false => simp only [cond_false, oelim_some, hy, Bool.false_eq_true, if_false, setR, recOf, hn]
  · rw [if_neg h1]
    have hkN : k = N := by omega
    subst hkN
    simp only [hn, ilt_nat, h1, decide_false, cond_false]
    by_cases h3 : k = 5
    · rw [if_pos h3, ieq_true (show (k : Int) = 5 by omega)]; rfl
    · rw [if_neg h3, ieq_false (show ¬ (k : Int) = 5 by omega)]
      have h2 : k < 5 := by omega
      simp only [cond_false, inR_nat, h2, decide_true, cond_true, Int.toNat_natCast, setR, recOf, iinc (show k < 4611686018427387904 by omega)]

theorem hear_again {T : foreign_Table} {m : api_Msg} {now : Int} (h : Fair T m now) {N k : Nat} (hn : T.fn = (N : Int)) (hN : N ≤ 5) (hk : k < N) (hlt : ∀ i, i < k → samP (T.fl i).fVector.fSender m.fSource = false)
    (hat : samP (T.fl k).fVector.fSender m.fSource = true) (hl : lateB (T.fl k) m now = false) : foreign_Table_Hear m now T = some ((0, ()), (setR T k (recOf T m now (T.fl k).fLast) T.fn, ()), ()) := by
  rw [hear_guard h hn hN (by omega) hlt (fun _ => hat), if_pos hk, if_neg (by simp [hl])]
theorem hear_old {T : foreign_Table} {m : api_Msg} {now : Int} (h : Fair T m now) {N k : Nat} (hn : T.fn = (N : Int)) (hN : N ≤ 5) (hk : k < N) (hlt : ∀ i, i < k → samP (T.fl i).fVector.fSender m.fSource = false)
    (hat : samP (T.fl k).fVector.fSender m.fSource = true) (hl : lateB (T.fl k) m now = true) : foreign_Table_Hear m now T = some ((9, ()), (T, ()), ()) := by
  rw [hear_guard h hn hN (by omega) hlt (fun _ => hat), if_pos hk, if_pos hl]
theorem hear_new {T : foreign_Table} {m : api_Msg} {now : Int} (h : Fair T m now) {N : Nat} (hn : T.fn = (N : Int)) (hN : N < 5) (hlt : ∀ i, i < N → samP (T.fl i).fVector.fSender m.fSource = false) :
    foreign_Table_Hear m now T = some ((0, ()), (setR T N (recOf T m now (-1)) ((N + 1 : Nat) : Int), ()), ()) := by
  rw [hear_guard h hn (by omega) (Nat.le_refl _) hlt (fun h => by omega), if_neg (by omega), if_neg (by omega)]
theorem hear_full {T : foreign_Table} {m : api_Msg} {now : Int} (h : Fair T m now) (hn : T.fn = 5) (hlt : ∀ i, i < 5 → samP (T.fl i).fVector.fSender m.fSource = false) :
    foreign_Table_Hear m now T = some ((7, ()), (T, ()), ()) := by
  rw [hear_guard (N := 5) h hn (by omega) (Nat.le_refl _) hlt (fun h => by omega), if_neg (by omega), if_pos rfl]
theorem hear_own {T : foreign_Table} {m : api_Msg} {now : Int} (hk : m.fType = 11) (lo : 0 ≤ now) (hi : now ≤ 1099511627776) (hs : m.fSource.fClock = T.fown.fClock) :
    foreign_Table_Hear m now T = some ((11, ()), (T, ()), ()) := by
  unfold foreign_Table_Hear foreign_Table_Hear.gen
  have e1 : ilt now 0 = false := ilt_false (by omega)
  have e2 : ilt 1099511627776 now = false := ilt_false (by omega)
  rw [ine_false hk]
  simp only [cond_false, e1, e2, ieq_true hs, oelim_some, cond_true]
theorem hear_arg {T : foreign_Table} {m : api_Msg} {now : Int} (hk : m.fType = 11) (lo : now < 0) : foreign_Table_Hear m now T = some ((1, ()), (T, ()), ()) := by
  unfold foreign_Table_Hear foreign_Table_Hear.gen
  rw [ine_false hk]
  simp only [cond_false, ilt_true lo, oelim_some, cond_true]

theorem le3_0 {N : Nat} (hN : N ≤ 5) : le3 (ofN 0) (N : Int) 5 = true := by
  unfold le3
  rw [ile_true (show (0 : Int) ≤ ofN 0 from by decide), ile_true (show ofN 0 ≤ (N : Int) from by show (0 : Int) ≤ _; omega), ile_true (show (N : Int) ≤ ((5 : Nat) : Int) by omega)]; rfl

theorem records_spec {T : foreign_Table} {N : Nat} (hn : T.fn = (N : Int)) (hN : N ≤ 5) : foreign_Table_Records T = some (((List.range N).map T.fl, ()), (T, ()), ()) := by
  unfold foreign_Table_Records foreign_Table_Records.gen
  have e0 : (ofN 0).toNat = 0 := rfl
  simp only [hn, le3_0 hN, cond_true, e0, Int.toNat_natCast, Nat.sub_zero, Nat.zero_add]
  rw [room_true (by simp; omega)]
  rfl

def oldB (T : foreign_Table) (a now : Int) : Bool := bif ile a now then ile T.fwindow (isub .i64 now a) else false
theorem old_spec (T : foreign_Table) (a now : Int) : foreign_Table_old a now T = some ((oldB T a now, ()), (T, ()), ()) := by
  unfold foreign_Table_old foreign_Table_old.gen oldB
  cases ile a now <;> rfl

def qualB (T : foreign_Table) (now : Int) (r : foreign_Record) : Bool := bif ine r.fFirst (-1) then !oldB T r.fFirst now else false
def qualL (T : foreign_Table) (now : Int) (N : Nat) : List foreign_Record := ((List.range N).map T.fl).filter (qualB T now)
theorem qualL_len (T : foreign_Table) (now : Int) (N : Nat) : (qualL T now N).length ≤ N := by
  have := List.length_filter_le (qualB T now) ((List.range N).map T.fl)
  simpa [qualL] using this
theorem qualL_succ (T : foreign_Table) (now : Int) (N : Nat) : qualL T now (N + 1) = qualL T now N ++ (if qualB T now (T.fl N) = true then [T.fl N] else []) := by
  unfold qualL
  rw [map_range_succ, List.filter_append]
  by_cases h : qualB T now (T.fl N) = true
  · simp [h]
  · simp [h]

theorem qualified_spec {T : foreign_Table} {now : Int} {N : Nat} (hn : T.fn = (N : Int)) (hN : N ≤ 5) : foreign_Table_Qualified now T = some ((qualL T now N, ()), (T, ()), ()) := by
  have e0 : (ofN 0).toNat = 0 := rfl
  have hF : foreign_Table_Qualified.F0 ((now, lnil foreign_Record, ((ofN 0).toNat, T.fn.toNat - (ofN 0).toNat), ofN (T.fn.toNat - (ofN 0).toNat), 0, ()), T, ()) = some ((qualL T now N, ()), T, ()) := by
    rw [hn, e0, Int.toNat_natCast, Nat.sub_zero]
    unfold foreign_Table_Qualified.F0
    refine loop_to (step := foreign_Table_Qualified.step0 foreign_Table_old) (fun i => ((now, qualL T now i, (0, N), ofN N, (i : Int), ()), T, ())) N _ (by simp only; omega) (fun i hi => ?_) ?_
    · unfold foreign_Table_Qualified.step0
      have h1 : ilt (i : Int) (ofN N) = true := ilt_true (by show (i : Int) < (N : Int); omega)
      have hl := qualL_len T now i
      simp only [h1, cond_true, inR_nat, hi, decide_true, Int.toNat_natCast, Nat.zero_add, old_spec, oelim_some, iinc (show i < 4611686018427387904 by omega), qualL_succ]
      have hr : room ((qualL T now i).length + 1) 136 = true := room_true (by omega)
      unfold qualB
      cases hf : ine (T.fl i).fFirst (-1) with
      | false => simp
      | true =>
        cases ho : oldB T (T.fl i).fFirst now with
        | true => simp
        | false => simp [hr]
    · unfold foreign_Table_Qualified.step0
      have h1 : ilt (N : Int) (ofN N) = false := ilt_false (by show ¬ (N : Int) < (N : Int); omega)
      simp only [h1, cond_false]
  unfold foreign_Table_Qualified foreign_Table_Qualified.gen
  rw [hF, hn, le3_0 hN]
  rfl

end Go.Proofs.Ytegadjffoighgaa
