/- Typed forms of the functions that these statements reach, proved equal to what the model runs, and laws over them. -/
import Derived.Test.YtcngoomjcoimjaaS11
import Derived.Test.YtcngoomjcoimjaaAr3
namespace Go.Proofs.Ytcngoomjcoimjaa
open Go.Rf
set_option linter.unusedVariables false
set_option linter.unusedSimpArgs false
/-! ### comparisons, as numbers -/
def c3 (x y : Int) : Int := if x < y then -1 else if y < x then 1 else 0
def orL : List Int → Int
  | [] => 0
  | x :: r => if x = 0 then orL r else x
def lx : List Int → List Int → Int
  | x :: r, y :: s => if c3 x y = 0 then lx r s else c3 x y
  | _, _ => 0

theorem c3_r (x y : Int) : c3 x y = -1 ∨ c3 x y = 0 ∨ c3 x y = 1 := by unfold c3; split <;> (try split) <;> simp
theorem c3_neg (x y : Int) : c3 y x = -c3 x y := by unfold c3; split <;> split <;> omega
theorem c3_zero {x y : Int} : c3 x y = 0 ↔ x = y := by unfold c3; split <;> (try split) <;> omega
theorem c3_self (x : Int) : c3 x x = 0 := c3_zero.2 rfl
theorem c3_lt {x y : Int} : c3 x y = -1 ↔ x < y := by unfold c3; split <;> (try split) <;> omega
theorem c3_gt {x y : Int} : c3 x y = 1 ↔ y < x := by unfold c3; split <;> (try split) <;> omega

theorem lx_r : ∀ (k l : List Int), lx k l = -1 ∨ lx k l = 0 ∨ lx k l = 1
  | x :: r, y :: s => by
    unfold lx
    split
    · exact lx_r r s
    · exact c3_r x y
  | [], _ => by unfold lx; simp
  | _ :: _, [] => by unfold lx; simp
theorem lx_neg : ∀ (k l : List Int), lx l k = -lx k l
  | x :: r, y :: s => by
    unfold lx
    rw [c3_neg x y]
    by_cases h : c3 x y = 0
    · rw [if_pos h, if_pos (by omega)]; exact lx_neg r s
    · rw [if_neg h, if_neg (by omega)]
  | [], [] => rfl
  | [], _ :: _ => rfl
  | _ :: _, [] => rfl
theorem lx_self : ∀ (k : List Int), lx k k = 0
  | [] => rfl
  | x :: r => by unfold lx; rw [if_pos (c3_self x)]; exact lx_self r
theorem lx_zero : ∀ {k l : List Int}, k.length = l.length → (lx k l = 0 ↔ k = l)
  | [], [], _ => by simp [lx]
  | x :: r, y :: s, h => by
    unfold lx
    by_cases e : c3 x y = 0
    · rw [if_pos e, lx_zero (by simpa using h), c3_zero.1 e]; simp
    · rw [if_neg e]
      constructor
      · intro h'; exact absurd h' e
      · intro h'; cases h'; exact absurd (c3_self x) e
  | [], _ :: _, h => by cases h
  | _ :: _, [], h => by cases h
/-- an order -/
theorem lx_trans : ∀ {k l m : List Int}, k.length = l.length → l.length = m.length → lx k l ≤ 0 → lx l m ≤ 0 → lx k m ≤ 0 ∧ (lx k l < 0 ∨ lx l m < 0 → lx k m < 0)
  | [], [], [], _, _, _, _ => by simp [lx]
  | x :: r, y :: s, z :: t, h1, h2, h3, h4 => by
    unfold lx at h3 h4 ⊢
    have a1 := @c3_zero x y
    have a2 := @c3_zero y z
    have a3 := @c3_zero x z
    have b1 := @c3_lt x y
    have b2 := @c3_lt y z
    have b3 := @c3_lt x z
    have d1 := c3_r x y
    have d2 := c3_r y z
    have d3 := c3_r x z
    by_cases e1 : c3 x y = 0
    · rw [if_pos e1] at h3 ⊢
      by_cases e2 : c3 y z = 0
      · rw [if_pos e2] at h4 ⊢
        rw [if_pos (a3.2 ((a1.1 e1).trans (a2.1 e2)))]
        exact lx_trans (by simpa using h1) (by simpa using h2) h3 h4
      · rw [if_neg e2] at h4 ⊢
        have : x = y := a1.1 e1
        subst this
        rw [if_neg e2]
        exact ⟨h4, fun _ => by omega⟩
    · rw [if_neg e1] at h3 ⊢
      by_cases e2 : c3 y z = 0
      · have : y = z := a2.1 e2
        subst this
        rw [if_neg e1]
        exact ⟨h3, fun _ => by omega⟩
      · rw [if_neg e2] at h4 ⊢
        have h5 : c3 x z = -1 := b3.2 (by have := b1.1 (by omega); have := b2.1 (by omega); omega)
        rw [if_neg (by omega)]
        omega
  | [], _ :: _, _, h, _, _, _ => by cases h
  | _ :: _, [], _, h, _, _, _ => by cases h
  | [], [], _ :: _, _, h, _, _ => by cases h
  | _ :: _, _ :: _, [], _, h, _, _ => by cases h
theorem orL_nest (x : Int) (l r : List Int) : orL (orL l :: r) = orL (l ++ r) := by
  induction l with
  | nil => simp [orL]
  | cons y l ih =>
    by_cases h : y = 0
    · subst h; simp only [orL, if_true, List.cons_append] at ih ⊢; exact ih
    · simp [orL, h]

theorem cmp_spec (x y : Int) : cmp_Compare_int x y = some ((c3 x y, ()), (), ()) := by
  have h : ∀ z, cmp_isNaN_int z = some ((false, ()), (), ()) := fun z => by show some ((ine z z, ()), (), ()) = _; rw [ine_self]
  unfold cmp_Compare_int cmp_Compare_int.gen c3
  simp only [h, oelim_some, cond_false]
  by_cases h1 : x < y
  · rw [ilt_true h1, if_pos h1]; rfl
  · rw [ilt_false h1, if_neg h1]
    by_cases h2 : y < x
    · rw [ilt_true h2, if_pos h2]; rfl
    · rw [ilt_false h2, if_neg h2]; rfl
theorem cmpu_spec (x y : Int) : cmp_Compare_uint64 x y = some ((c3 x y, ()), (), ()) := by
  have h : ∀ z, cmp_isNaN_uint64 z = some ((false, ()), (), ()) := fun z => by show some ((ine z z, ()), (), ()) = _; rw [ine_self]
  unfold cmp_Compare_uint64 cmp_Compare_uint64.gen c3
  simp only [h, oelim_some, cond_false]
  by_cases h1 : x < y
  · rw [ilt_true h1, if_pos h1]; rfl
  · rw [ilt_false h1, if_neg h1]
    by_cases h2 : y < x
    · rw [ilt_true h2, if_pos h2]; rfl
    · rw [ilt_false h2, if_neg h2]; rfl

theorem or_spec (vals : List Int) (hl : vals.length < 4611686018427387904) : cmp_Or_int vals = some ((orL vals, ()), (), ()) := by
  obtain ⟨r, hb, hp⟩ := loopFix_rule (step := cmp_Or_int.step0) (Inv := fun a => ∃ i : Nat, a = ((0, vals, (vals.length : Int), (i : Int), ()), ()) ∧ i ≤ vals.length ∧ orL (vals.drop i) = orL vals)
    (Post := fun b => (b = .inl ((0, ()), ()) ∧ orL vals = 0) ∨ b = .inr ((orL vals, ()), ())) (m := fun a => vals.length - a.1.2.2.2.1.toNat) (by
      rintro x ⟨i, rfl, hi, hm⟩
      by_cases h1 : i < vals.length
      · have e1 : ilt (i : Int) (vals.length : Int) = true := ilt_true (by omega)
        have e2 : inR (i : Int) vals.length = true := inR_true (by omega) (by omega)
        have e3 : iadd .i64 (i : Int) 1 = ((i + 1 : Nat) : Int) := by rw [iadd_of (by omega)]; omega
        rw [List.drop_eq_getElem_cons h1] at hm
        have e4 : vals.getD i (0 : Int) = vals[i] := by simp [List.getD, h1]
        have e5 : vals.getD i (0 : D UC.int) = vals[i] := e4
        by_cases h2 : vals[i] = 0
        · refine .inl ⟨((0, vals, (vals.length : Int), ((i + 1 : Nat) : Int), ()), ()), ?_, ⟨i + 1, rfl, by omega, by rw [← hm, orL, if_pos h2]⟩, by simp only [Int.toNat_natCast]; omega⟩
          unfold cmp_Or_int.step0
          simp only [e1, e2, e3, e4, e5, cond_true, Int.toNat_natCast, h2, ine_self, cond_false]
        · refine .inr ⟨.inr ((orL vals, ()), ()), ?_, .inr rfl⟩
          unfold cmp_Or_int.step0
          simp only [e1, e2, e3, e4, e5, cond_true, Int.toNat_natCast, ine_true h2]
          rw [← hm, orL, if_neg h2]
      · have e1 : ilt (i : Int) (vals.length : Int) = false := ilt_false (by omega)
        refine .inr ⟨.inl ((0, ()), ()), ?_, .inl ⟨rfl, ?_⟩⟩
        · unfold cmp_Or_int.step0
          simp only [e1, cond_false]
        · rw [← hm, List.drop_eq_nil_of_le (by omega)]; rfl) (1000000 + vals.length) ((0, vals, (vals.length : Int), 0, ()), ()) ⟨0, rfl, by omega, rfl⟩ (by simp only; omega)
  have hF : cmp_Or_int.F0 ((0, vals, (vals.length : Int), 0, ()), ()) = some r := hb
  unfold cmp_Or_int cmp_Or_int.gen
  simp only [hF, oelim_some]
  rcases hp with ⟨rfl, h⟩ | rfl
  · simp only [selim, h]
  · simp only [selim]

def qkeys (q : api_Quality) : List Int := [q.fClass, q.fAccuracy, q.fVariance]
def vkeys (v : api_Vector) : List Int := [v.fPriority1, v.fQuality.fClass, v.fQuality.fAccuracy, v.fQuality.fVariance, v.fPriority2, v.fGrand]
def pkeys (p : api_PortID) : List Int := [p.fClock, p.fPort]
def grand (a b : api_Vector) : Int := lx (vkeys a) (vkeys b)
def identC (a b : api_PortID) : Int := lx (pkeys a) (pkeys b)

theorem quality_spec (a b : api_Quality) : quality_Compare a b = some ((lx (qkeys a) (qkeys b), ()), (), ()) := by
  unfold quality_Compare quality_Compare.gen
  simp only [cmp_spec, oelim_some]
  rw [or_spec _ (by simp)]
  simp [oelim_some, orL, lx, qkeys]

theorem grand_spec (a b : api_Vector) : compare_Grand a b = some ((grand a b, ()), (), ()) := by
  have i1 : iadd .i64 0 1 = 1 := by decide
  have i2 : iadd .i64 1 1 = 2 := by decide
  have i3 : iadd .i64 2 1 = 3 := by decide
  unfold compare_Grand compare_Grand.gen
  simp only [cmp_spec, cmpu_spec, quality_spec, oelim_some, i1, i2, i3]
  simp [grand, lx, vkeys, qkeys, ine]
  generalize c3 a.fPriority1 b.fPriority1 = x1
  generalize c3 a.fQuality.fClass b.fQuality.fClass = x2
  generalize c3 a.fQuality.fAccuracy b.fQuality.fAccuracy = x3
  generalize c3 a.fQuality.fVariance b.fQuality.fVariance = x4
  generalize c3 a.fPriority2 b.fPriority2 = x5
  generalize c3 a.fGrand b.fGrand = x6
  simp only [ite_b, bne_iff_ne, ne_eq]
  by_cases h1 : x1 = 0 <;> by_cases h2 : x2 = 0 <;> by_cases h3 : x3 = 0 <;> by_cases h4 : x4 = 0 <;> by_cases h5 : x5 = 0 <;> by_cases h6 : x6 = 0 <;> simp [h1, h2, h3, h4, h5, h6]

theorem ident_spec (a b : api_PortID) : ident_Compare a b = some ((identC a b, ()), (), ()) := by
  unfold ident_Compare ident_Compare.gen
  simp only [cmp_spec, cmpu_spec, oelim_some]
  rw [or_spec _ (by simp)]
  by_cases h1 : a.fClock = b.fClock
  · rw [ieq_true h1]
    by_cases h2 : a.fPort = b.fPort
    · rw [ieq_true h2]; simp [identC, lx, pkeys, h1, h2, c3_self]
    · rw [ieq_false h2]; simp [identC, lx, pkeys, h1, c3_self, orL, oelim_some, c3_zero, h2]
  · rw [ieq_false h1]; simp [identC, lx, pkeys, orL, oelim_some, c3_zero, h1]

def moreC (a : api_Vector) : Int := if identC a.fReceiver a.fSender = -1 then 2 else if identC a.fReceiver a.fSender = 0 then 0 else 1
theorem more_spec (a : api_Vector) : compare_more a = some ((moreC a, ()), (), ()) := by
  unfold compare_more compare_more.gen moreC
  simp only [ident_spec, oelim_some]
  rcases lx_r (pkeys a.fReceiver) (pkeys a.fSender) with h | h | h <;> rw [show identC a.fReceiver a.fSender = _ from h] <;> rfl

def cmpC (a b : api_Vector) : Int :=
  if grand a b ≠ 0 then 2 * grand a b
  else if b.fSteps < a.fSteps then (if a.fSteps - 1 = b.fSteps then moreC a else 2)
  else if a.fSteps < b.fSteps then (if b.fSteps - 1 = a.fSteps then -moreC b else -2)
  else if identC a.fSender b.fSender ≠ 0 then identC a.fSender b.fSender else c3 a.fReceiver.fPort b.fReceiver.fPort

theorem moreC_r (a : api_Vector) : moreC a = 0 ∨ moreC a = 1 ∨ moreC a = 2 := by unfold moreC; split <;> (try split) <;> simp

theorem ineg (x : Int) (h : -9223372036854775807 ≤ x ∧ x < 9223372036854775808) : IntKind.i64.wrap (0 - x) = -x := by rw [iwrap]; omega

theorem compare_spec (a b : api_Vector) (ha : R64 a.fSteps) (hb : R64 b.fSteps) : compare_Compare a b = some ((cmpC a b, ()), (), ()) := by
  unfold compare_Compare compare_Compare.gen cmpC
  simp only [grand_spec, cmp_spec, more_spec, ident_spec, oelim_some]
  have hg := lx_r (vkeys a) (vkeys b)
  have e1 : imul .i64 2 (grand a b) = 2 * grand a b := imul_of (by unfold grand; omega)
  have hc := c3_r a.fSteps b.fSteps
  have e2 : imul .i64 2 (c3 a.fSteps b.fSteps) = 2 * c3 a.fSteps b.fSteps := imul_of (by omega)
  rw [e1, e2]
  by_cases h0 : grand a b = 0
  · have h0' : ine (2 * grand a b) 0 = false := ine_false (by omega)
    rw [h0', if_neg (by simpa using h0)]
    simp only [cond_false]
    have ho : cmp_Or_int (identC a.fSender b.fSender :: c3 a.fReceiver.fPort b.fReceiver.fPort :: lnil (D UC.int)) = some ((if identC a.fSender b.fSender ≠ 0 then identC a.fSender b.fSender else c3 a.fReceiver.fPort b.fReceiver.fPort, ()), (), ()) := by
      rw [or_spec _ (by simp)]
      by_cases h : identC a.fSender b.fSender = 0
      · simp [orL, h]; intro h'; exact h'.symm
      · simp [orL, h]
    have m1 := moreC_r a
    have m2 := moreC_r b
    by_cases h1 : b.fSteps < a.fSteps
    · have hc1 : c3 a.fSteps b.fSteps = 1 := c3_gt.2 h1
      have e3 : isub .i64 a.fSteps 1 = a.fSteps - 1 := isub_of (by omega)
      rw [hc1, e3, if_pos h1, show ilt 0 (2 * 1) = true from rfl, show ilt (2 * 1) 0 = false from rfl, show ieq (2 * 1) 0 = false from rfl]
      by_cases h2 : a.fSteps - 1 = b.fSteps
      · rw [ieq_true h2, if_pos h2]; rfl
      · rw [ieq_false h2, if_neg h2]; rfl
    · rw [if_neg h1]
      by_cases h3 : a.fSteps < b.fSteps
      · have hc1 : c3 a.fSteps b.fSteps = -1 := c3_lt.2 h3
        have e3 : isub .i64 b.fSteps 1 = b.fSteps - 1 := isub_of (by omega)
        rw [hc1, e3, if_pos h3, show ilt 0 (2 * -1) = false from rfl, show ilt (2 * -1) 0 = true from rfl, show ieq (2 * -1) 0 = false from rfl, ineg _ (by omega)]
        by_cases h2 : b.fSteps - 1 = a.fSteps
        · rw [ieq_true h2, if_pos h2]; rfl
        · rw [ieq_false h2, if_neg h2]; rfl
      · have hc1 : c3 a.fSteps b.fSteps = 0 := c3_zero.2 (by omega)
        rw [hc1, if_neg h3, show ilt 0 (2 * 0) = false from rfl, show ilt (2 * 0) 0 = false from rfl, show ieq (2 * 0) 0 = true from rfl, ho]
        rfl
  · have h0' : ine (2 * grand a b) 0 = true := ine_true (by omega)
    rw [h0', if_pos h0]; rfl

def bestV (l : List api_Vector) : Nat → Int
  | 0 => -1
  | i + 1 => if bestV l i < 0 then (i : Int) else if 0 < cmpC (l.getD (bestV l i).toNat api_Vector.zero) (l.getD i api_Vector.zero) then (i : Int) else bestV l i
theorem bestV_r (l : List api_Vector) : ∀ i, -1 ≤ bestV l i ∧ bestV l i < (i : Int) ∧ (0 < i → 0 ≤ bestV l i)
  | 0 => by simp [bestV]
  | i + 1 => by
    have ih := bestV_r l i
    unfold bestV
    split
    · omega
    · split <;> omega

theorem best_spec (l : List api_Vector) (hl : l.length < 4611686018427387904) (hs : ∀ v ∈ l, R64 v.fSteps) : compare_Best l = some ((bestV l l.length, ()), (), ()) := by
  have hF : compare_Best.F0 ((l, -1, l, ofN l.length, 0, ()), ()) = some ((bestV l l.length, ()), ()) := by
    unfold compare_Best.F0
    refine loop_to (step := compare_Best.step0 compare_Compare) (fun i => ((l, bestV l i, l, ofN l.length, (i : Int), ()), ())) l.length _ (by simp only; omega) (fun i hi => ?_) ?_
    · have h1 : ilt (i : Int) (ofN l.length) = true := ilt_true (by show (i : Int) < (l.length : Int); omega)
      have hr := bestV_r l i
      unfold compare_Best.step0
      simp only [h1, cond_true, inR_nat, hi, decide_true, Int.toNat_natCast, iinc (show i < 4611686018427387904 by omega)]
      rw [bestV]
      by_cases h2 : bestV l i < 0
      · rw [if_pos h2, ilt_true h2]; rfl
      · rw [if_neg h2, ilt_false h2]
        obtain ⟨k, hk⟩ : ∃ k : Nat, bestV l i = (k : Int) := ⟨(bestV l i).toNat, by omega⟩
        have hk' : k < l.length := by omega
        rw [hk]
        have hc := compare_spec (l.getD k api_Vector.zero) (l.getD i api_Vector.zero) (by rw [getD_at hk']; exact hs _ (List.getElem_mem _)) (by rw [getD_at hi]; exact hs _ (List.getElem_mem _))
        simp only [cond_false, inR_nat, hk', decide_true, cond_true, Int.toNat_natCast, hc, oelim_some]
        by_cases h3 : 0 < cmpC (l.getD k api_Vector.zero) (l.getD i api_Vector.zero)
        · rw [if_pos h3, ilt_true h3]; rfl
        · rw [if_neg h3, ilt_false h3]; rfl
    · have h1 : ilt (l.length : Int) (ofN l.length) = false := ilt_false (by show ¬ (l.length : Int) < (l.length : Int); omega)
      unfold compare_Best.step0
      simp only [h1, cond_false]
  unfold compare_Best compare_Best.gen
  rw [hF]; rfl


theorem awake_true : law11_awake = some ((true, ()), (), ()) := by kernel_rfl
theorem steps_ok {v : api_Vector} (h : api_Vector.Wf v) : R64 v.fSteps := by
  unfold api_Vector.Wf at h
  exact i64_of h.2.2.2.2.1

def upG (v : api_Vector) (i : Nat) : api_Vector := api_Vector.mk v.fPriority1 v.fQuality v.fPriority2 (iadd .u64 (ishl .u64 v.fGrand 8) (IntKind.u64.wrap (i : Int))) v.fSteps v.fSender v.fReceiver
theorem upG_mod (v : api_Vector) (i : Nat) (hi : i < 30) : (upG v i).fGrand % 256 = (i : Int) := by
  show (iadd .u64 (ishl .u64 v.fGrand 8) (IntKind.u64.wrap (i : Int))) % 256 = (i : Int)
  have hs : ishl .u64 v.fGrand 8 = IntKind.u64.wrap (v.fGrand * 256) := rfl
  rw [hs]
  simp [iadd, IntKind.wrap, IntKind.signed, IntKind.bits]
  omega

def gR (f : Nat → api_Vector) (i j : Nat) : Int := grand (f i) (f j)
structure Un (f : Nat → api_Vector) (n : Nat) : Prop where
  mod : ∀ i, i < n → (f i).fGrand % 256 = (i : Int)
  steps : ∀ i, i < n → R64 (f i).fSteps
theorem gR_ne {f : Nat → api_Vector} {n i j : Nat} (h : Un f n) (hi : i < n) (hj : j < n) (hne : i ≠ j) : gR f i j = -1 ∨ gR f i j = 1 := by
  have h0 : gR f i j ≠ 0 := fun e => by
    have := (lx_zero (k := vkeys (f i)) (l := vkeys (f j)) rfl).1 e
    simp only [vkeys, List.cons.injEq] at this
    have e2 := this.2.2.2.2.2.1
    have h1 := h.mod i hi
    have h2 := h.mod j hj
    rw [e2, h2] at h1
    omega
  rcases lx_r (vkeys (f i)) (vkeys (f j)) with h1 | h1 | h1
  · exact .inl h1
  · exact absurd h1 h0
  · exact .inr h1
theorem gR_neg (f : Nat → api_Vector) (i j : Nat) : gR f j i = -gR f i j := lx_neg _ _
theorem gR_trans {f : Nat → api_Vector} {i j k : Nat} (h1 : gR f i j = -1) (h2 : gR f j k = -1) : gR f i k < 0 :=
  (lx_trans (k := vkeys (f i)) (l := vkeys (f j)) (m := vkeys (f k)) rfl rfl (by unfold gR grand at h1; omega) (by unfold gR grand at h2; omega)).2 (.inl (by unfold gR grand at h1; omega))
theorem cmp_gR {f : Nat → api_Vector} {i j : Nat} (h : gR f i j = -1 ∨ gR f i j = 1) : cmpC (f i) (f j) = 2 * gR f i j := by
  unfold cmpC
  have : grand (f i) (f j) ≠ 0 := by
    intro e
    have : gR f i j = 0 := e
    omega
  rw [if_pos this]; rfl

theorem best_un {f : Nat → api_Vector} {n : Nat} (h : Un f n) : ∀ i, i ≤ n → ∀ j, j < i → (j : Int) ≠ bestV ((List.range n).map f) i → gR f (bestV ((List.range n).map f) i).toNat j = -1
  | 0, _, j, hj, _ => by omega
  | i + 1, hi, j, hj, hne => by
    have ih := best_un h i (by omega)
    have hr := bestV_r ((List.range n).map f) i
    have g : ∀ a, a < n → ((List.range n).map f).getD a api_Vector.zero = f a := fun a ha => by rw [getD_at (by simpa using ha)]; simp
    rw [bestV] at hne ⊢
    by_cases h1 : bestV ((List.range n).map f) i < 0
    · rw [if_pos h1] at hne ⊢
      have : i = 0 := by
        rcases Nat.eq_zero_or_pos i with h | h
        · exact h
        · have := hr.2.2 h; omega
      omega
    · rw [if_neg h1] at hne ⊢
      obtain ⟨b, hb⟩ : ∃ b : Nat, bestV ((List.range n).map f) i = (b : Int) := ⟨(bestV ((List.range n).map f) i).toNat, by omega⟩
      rw [hb] at hne hr ih ⊢
      rw [Int.toNat_natCast, g b (by omega), g i (by omega)] at hne ⊢
      have hbi := gR_ne h (show b < n by omega) (show i < n by omega) (by omega)
      rw [cmp_gR hbi] at hne ⊢
      simp only [Int.toNat_natCast] at ih
      by_cases h2 : 0 < 2 * gR f b i
      · rw [if_pos h2] at hne ⊢
        have hib : gR f i b = -1 := by rw [gR_neg f b i]; omega
        rw [Int.toNat_natCast]
        by_cases hjb : j = b
        · rw [hjb]; exact hib
        · have := gR_trans hib (ih j (by omega) (by omega))
          have := gR_ne h (show i < n by omega) (show j < n by omega) (by omega)
          omega
      · rw [if_neg h2] at hne ⊢
        rw [Int.toNat_natCast]
        by_cases hji : j = i
        · subst hji; omega
        · exact ih j (by omega) (by omega)

/-- the law, once the list is short -/
theorem wins_core (L : List api_Vector) (hl : L.length ≤ 30) (hs : ∀ y ∈ L, api_Vector.Wf y) :
    ∃ r0 k, law11_CompareWins.F0 (((0, L.length), 0, ()), (L.length, fun j => L.getD j api_Vector.zero), ()) = some r0 ∧ r0.1.1 = (0, L.length) ∧
      compare_Best (lnil api_Vector ++ List.map (fun j => r0.2.1.2 (r0.1.1.1 + j)) (List.range r0.1.1.2)) = some ((k, ()), (), ()) ∧
      (L.length = 0 → k = -1) ∧ (0 < L.length → 0 ≤ k ∧ k < (L.length : Int)) ∧
      (0 < L.length → law11_CompareWins.F1 ((r0.1.1, k, 0, ()), r0.2) = some (.inl ((), ()))) := by
  let f : Nat → Nat → api_Vector := fun i j => if j < i then upG (L.getD j api_Vector.zero) j else L.getD j api_Vector.zero
  have hU : Un (f L.length) L.length := ⟨fun i hi => by
      have : f L.length i = upG (L.getD i api_Vector.zero) i := if_pos hi
      rw [this]; exact upG_mod _ i (by omega), fun i hi => by
      have : f L.length i = upG (L.getD i api_Vector.zero) i := if_pos hi
      rw [this]
      show R64 (L.getD i api_Vector.zero).fSteps
      rw [getD_at hi]; exact steps_ok (hs _ (List.getElem_mem _))⟩
  have hF0 : law11_CompareWins.F0 (((0, L.length), 0, ()), (L.length, fun j => L.getD j api_Vector.zero), ()) = some (((0, L.length), ()), (L.length, f L.length), ()) := by
    unfold law11_CompareWins.F0
    have h0 : (fun j => L.getD j api_Vector.zero) = f 0 := by funext j; simp [f]
    rw [h0]
    refine loop_to (step := law11_CompareWins.step0 compare_Best law11_awake compare_Compare) (fun i => (((0, L.length), (i : Int), ()), (L.length, f i), ())) L.length _ (by first | omega | (show L.length < 1000000 + _; omega)) (fun i hi => ?_) ?_
    · unfold law11_CompareWins.step0
      have h1 : ilt (i : Int) (ofN L.length) = true := ilt_true (by show (i : Int) < (L.length : Int); omega)
      have hfi : f i i = L.getD i api_Vector.zero := if_neg (by omega)
      have hset : fset (f i) i (upG (L.getD i api_Vector.zero) i) = f (i + 1) := by
        funext j
        simp only [fset, f]
        by_cases hj : j = i
        · subst hj; rw [if_pos rfl, if_pos (by omega)]
        · rw [if_neg hj]
          by_cases h2 : j < i
          · rw [if_pos h2, if_pos (by omega)]
          · rw [if_neg h2, if_neg (by omega)]
      simp only [h1, cond_true, inR_nat, hi, decide_true, Int.toNat_natCast, Nat.zero_add, hfi, iinc (show i < 4611686018427387904 by omega)]
      rw [← hset]
      rfl
    · unfold law11_CompareWins.step0
      have h1 : ilt (L.length : Int) (ofN L.length) = false := ilt_false (by show ¬ (L.length : Int) < (L.length : Int); omega)
      simp only [h1, cond_false]
  refine ⟨_, bestV ((List.range L.length).map (f L.length)) L.length, hF0, rfl, ?_, ?_, ?_, ?_⟩
  · have hb := best_spec ((List.range L.length).map (f L.length)) (by simp; omega) (fun v hv => by
      obtain ⟨i, hi, rfl⟩ := List.mem_map.1 hv
      exact hU.steps i (List.mem_range.1 hi))
    rw [List.length_map, List.length_range] at hb
    have : (lnil api_Vector ++ List.map (fun j => f L.length (0 + j)) (List.range L.length)) = (List.range L.length).map (f L.length) := by simp [lnil]
    show compare_Best (lnil api_Vector ++ List.map (fun j => f L.length (0 + j)) (List.range L.length)) = _
    rw [this]; exact hb
  · intro h; rw [h]; rfl
  · intro h
    have := bestV_r ((List.range L.length).map (f L.length)) L.length
    exact ⟨this.2.2 h, this.2.1⟩
  · intro h
    have hr := bestV_r ((List.range L.length).map (f L.length)) L.length
    have hb := best_un hU L.length (Nat.le_refl _)
    obtain ⟨k, hk⟩ : ∃ k : Nat, bestV ((List.range L.length).map (f L.length)) L.length = (k : Int) := ⟨(bestV ((List.range L.length).map (f L.length)) L.length).toNat, by have := hr.2.2 h; omega⟩
    rw [hk] at hb hr ⊢
    simp only [Int.toNat_natCast] at hb
    have hkl : k < L.length := by omega
    unfold law11_CompareWins.F1
    refine loop_to (step := law11_CompareWins.step1 compare_Best law11_awake compare_Compare) (fun i => (((0, L.length), (k : Int), (i : Int), ()), (L.length, f L.length), ())) L.length _ (by first | omega | (show L.length < 1000000 + _; omega)) (fun i hi => ?_) ?_
    · unfold law11_CompareWins.step1
      have h1 : ilt (i : Int) (ofN L.length) = true := ilt_true (by show (i : Int) < (L.length : Int); omega)
      simp only [h1, cond_true, inR_nat, hi, hkl, decide_true, Int.toNat_natCast, Nat.zero_add, iinc (show i < 4611686018427387904 by omega)]
      by_cases hik : i = k
      · subst hik
        rw [ine_self]
        simp only [cond_false, oelim_some]
      · have hg := hb i hi (by omega)
        have hc : cmpC (f L.length k) (f L.length i) = -2 := by rw [cmp_gR (.inl hg), hg]; rfl
        rw [ine_true (show ¬ (i : Int) = (k : Int) by omega), compare_spec _ _ (hU.steps k hkl) (hU.steps i hi), hc]
        rfl
    · unfold law11_CompareWins.step1
      have h1 : ilt (L.length : Int) (ofN L.length) = false := ilt_false (by show ¬ (L.length : Int) < (L.length : Int); omega)
      simp only [h1, cond_false]

theorem law11_CompareWins.law : ∀ (l : List (api_Vector)), (l.length * 88 ≤ reachBytes ∧ ∀ y ∈ l, api_Vector.Wf y) → law11_CompareWins l = some ((true, ()), (), ()) := by
  intro l hl
  have main : ∀ L : List api_Vector, L.length ≤ 30 → (∀ y ∈ L, api_Vector.Wf y) →
      (bif room L.length 88 then (oelim (law11_CompareWins.F0 (((0, L.length), 0, ()), (L.length, fun j => L.getD j api_Vector.zero), ())) none fun r7 => (bif room ((lnil api_Vector).length + (List.map (fun (j : Nat) => r7.2.1.2 (r7.1.1.1 + j)) (List.range r7.1.1.2)).length) 88 then (oelim (compare_Best (lnil api_Vector ++ List.map (fun (j : Nat) => r7.2.1.2 (r7.1.1.1 + j)) (List.range r7.1.1.2))) none fun r8 => (bif ieq (ofN r7.1.1.2) 0 then (bif ieq r8.1.1 (-1) then (oelim law11_awake none fun r9 => some ((r9.1.1, ()), ((), ()))) else some ((Bool.false, ()), ((), ()))) else (oelim ((bif ilt r8.1.1 0 then some (Bool.true, ()) else some (ile (ofN r7.1.1.2) r8.1.1, ()))) none fun r10 => (bif r10.1 then some ((Bool.false, ()), ((), ())) else (oelim (law11_CompareWins.F1 ((r7.1.1, r8.1.1, 0, ()), r7.2)) none fun r11 => (selim r11 (fun r12 => (oelim law11_awake none fun r13 => some ((r13.1.1, ()), ((), ())))) (fun r12 => some ((r12.1.1, ()), ((), ()))))))))) else none)) else none) = some ((true, ()), (), ()) := by
    intro L hL hw
    obtain ⟨r0, k, h1, h2, h3, h4, h5, h6⟩ := wins_core L hL hw
    rw [room_true (by omega), h1]
    simp only [cond_true, oelim_some]
    rw [h3]
    simp only [h2, List.length_map, List.length_range]
    rw [room_true (show ((lnil api_Vector).length + L.length) * 88 ≤ 140737488355328 by show (0 + L.length) * 88 ≤ _; omega)]
    simp only [cond_true, oelim_some]
    by_cases h0 : L.length = 0
    · rw [ieq_true (show ofN L.length = 0 by show (L.length : Int) = 0; omega), h4 h0]
      simp only [cond_true, ieq_self, awake_true, oelim_some]
    · obtain ⟨h7, h8⟩ := h5 (by omega)
      have h6' := h6 (by omega)
      rw [h2] at h6'
      rw [ieq_false (show ¬ ofN L.length = 0 by show ¬ (L.length : Int) = 0; omega), ilt_false (by omega), ile_false (show ¬ ofN L.length ≤ k by show ¬ (L.length : Int) ≤ k; omega)]
      simp only [cond_false, oelim_some, h6', selim, awake_true]
  unfold law11_CompareWins law11_CompareWins.gen
  by_cases h30 : 30 < l.length
  · rw [ilt_true (show 30 < ofN l.length by show (30 : Int) < (l.length : Int); omega)]
    have hle : le3 (ofN 0) 30 l.length = true := by
      unfold le3
      rw [ile_true (show 0 ≤ ofN 0 by decide), ile_true (show ofN 0 ≤ 30 by decide), ile_true (show (30 : Int) ≤ (l.length : Int) by omega)]; rfl
    simp only [cond_true, hle]
    have ht : List.drop (ofN 0).toNat (List.take (Int.toNat 30) l) = l.take 30 := rfl
    rw [ht]
    exact main (l.take 30) (by simp; omega) (fun y hy => hl.2 y (List.mem_of_mem_take hy))
  · rw [ilt_false (show ¬ 30 < ofN l.length by show ¬ (30 : Int) < (l.length : Int); omega)]
    simp only [cond_false]
    exact main l (by omega) hl.2

end Go.Proofs.Ytcngoomjcoimjaa
