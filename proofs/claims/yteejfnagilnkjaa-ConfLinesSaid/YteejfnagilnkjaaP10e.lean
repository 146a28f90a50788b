/- Typed forms of the functions that these statements reach, proved equal to what the model runs, and laws over them. -/
import Derived.Test.YteejfnagilnkjaaP10d
import Derived.Lib.IndexLaws
namespace Go.Proofs.Yteejfnagilnkjaa
open Go.Rf
set_option linter.unusedVariables false
set_option linter.unusedSimpArgs false
/-! ### a line -/
theorem fieldL_no (nm : List UInt8) (n : Int) (c : api_Conf) : fieldL nm n false c = some ((false, ()), (c, ()), ()) := by
  unfold fieldL
  simp only [Bool.not_false, cond_true, Bool.cond_self]
def TotL (x : Option (((Bool) × Unit) × ((api_Conf) × Unit) × (Unit))) : Prop := ∃ b c', x = some ((b, ()), (c', ()), ())
theorem TotL.bif {a : Bool} {x y : Option (((Bool) × Unit) × ((api_Conf) × Unit) × (Unit))} (hx : TotL x) (hy : TotL y) : TotL (bif a then x else y) := by cases a; exact hy; exact hx
theorem TotL.some {b : Bool} {c : api_Conf} : TotL (some ((b, ()), (c, ()), ())) := ⟨b, c, rfl⟩
theorem fieldL_total (nm : List UInt8) (n : Int) (ok : Bool) (c : api_Conf) : TotL (fieldL nm n ok c) := by
  cases ok
  · rw [fieldL_no]; exact TotL.some
  · unfold fieldL
    simp only [chkT, Bool.not_true, cond_false]
    repeat' first | exact TotL.some | apply TotL.bif

theorem idx_cases (l : List UInt8) : Lib.indexByte l 32 = -1 ∨ ∃ o : Nat, Lib.indexByte l 32 = (o : Int) ∧ o < l.length := by
  have h := Lib.indexByte_ge l 32
  by_cases h0 : Lib.indexByte l 32 = -1
  · exact .inl h0
  · obtain ⟨o, ho⟩ : ∃ o : Nat, Lib.indexByte l 32 = (o : Int) := ⟨(Lib.indexByte l 32).toNat, by omega⟩
    exact .inr ⟨o, ho, (List.getElem?_eq_some_iff.1 (Lib.indexByte_some ho).1).1⟩

theorem line_nil (c : api_Conf) : conf_line (bs []) c = some ((true, ()), (c, ()), ()) := by kernel_rfl
theorem line_sp (c : api_Conf) : conf_line (bs [32]) c = some ((false, ()), (c, ()), ()) := by kernel_rfl
theorem line_hash (r : List UInt8) (c : api_Conf) : conf_line (bs (35 :: r)) c = some ((true, ()), (c, ()), ()) := by
  rw [line_eq]
  simp only [bs_toList, bs_size, bs_data, List.length_cons]
  rw [show ((35 : UInt8) :: r == lnil UInt8) = false from rfl, inR_true (a := 0) (by decide) (by omega)]
  simp only [cond_false, cond_true, oelim_some]
  rw [show ieq (ofN (((35 : UInt8) :: r).getD (Int.toNat 0) 0).toNat) 35 = true from rfl]
  rfl

theorem line_body (x : UInt8) (r : List UInt8) (c : api_Conf) (hx : x ≠ 35) (hs : x :: r ≠ [32]) (hl : (x :: r).length < 4611686018427387904) :
    conf_line (bs (x :: r)) c = if Lib.indexByte (x :: r) 32 = -1 then oelim (conf_number (bs [])) none (fun q => fieldL (x :: r) q.1.1 q.1.2.1 c)
      else oelim (conf_number (bs ((x :: r).drop ((Lib.indexByte (x :: r) 32).toNat + 1)))) none (fun q => fieldL ((x :: r).take (Lib.indexByte (x :: r) 32).toNat) q.1.1 q.1.2.1 c) := by
  rw [line_eq]
  have hidx : internal_stringslite_IndexByte (bs (x :: r)) (ofN (((32 : UInt8) :: lnil UInt8).getD (Int.toNat 0) (0 : UInt8)).toNat) = some ((Lib.indexByte (x :: r) 32, ()), (), ()) := by
    show some ((Lib.indexByte (bs (x :: r)).data.toList 32, ()), (), ()) = _
    rw [bs_data]
  rw [hidx]
  simp only [bs_toList, bs_size, bs_data]
  have hx2 : ieq (ofN ((x :: r).getD (Int.toNat 0) 0).toNat) 35 = false := ieq_false (by
    show ¬ ((x.toNat : Nat) : Int) = 35
    intro e
    have e2 : x.toNat = 35 := by omega
    exact hx (UInt8.toNat_inj.1 e2))
  have hs2 : ((32 : UInt8) :: lnil UInt8 == x :: r) = false := by
    show ([32] == x :: r) = false
    cases h : ([32] == x :: r) with
    | false => rfl
    | true => exact absurd (eq_of_beq h).symm hs
  rw [show (x :: r == lnil UInt8) = false from rfl, inR_true (a := 0) (by decide) (by show (0 : Int) < ((r.length + 1 : Nat) : Int); omega), hx2, hs2]
  simp only [cond_false, cond_true, oelim_some]
  rcases idx_cases (x :: r) with h | ⟨o, h, ho⟩
  · rw [if_pos h, h]; rfl
  · rw [if_neg (by rw [h]; omega), h, ile_true (by omega)]
    have e1 : iadd .i64 (o : Int) (ofN ((32 : UInt8) :: lnil UInt8).length) = ((o + 1 : Nat) : Int) := by
      rw [show ofN ((32 : UInt8) :: lnil UInt8).length = 1 from rfl, iadd_of (by omega)]; omega
    rw [e1, le3_of (show 0 ≤ ofN 0 by decide) (show ofN 0 ≤ (o : Int) by show (0 : Int) ≤ (o : Int); omega) (by omega), le3_of (by omega) (show ((o + 1 : Nat) : Int) ≤ ofN (x :: r).length by show _ ≤ (((x :: r).length : Nat) : Int); omega) (Int.le_refl _)]
    simp only [cond_true, bs_extract, Int.toNat_natCast, bs_toList]
    rw [List.take_length, List.drop_zero]

def lineV (s : List UInt8) (c : api_Conf) : Bool × api_Conf := match conf_line (bs s) c with
  | some ((b, _), (c', _), _) => (b, c')
  | none => (false, c)
theorem line_total (s : List UInt8) (c : api_Conf) (hl : s.length < 4611686018427387904) : conf_line (bs s) c = some (((lineV s c).1, ()), ((lineV s c).2, ()), ()) := by
  have h : ∃ b c', conf_line (bs s) c = some ((b, ()), (c', ()), ()) := by
    cases s with
    | nil => exact ⟨_, _, line_nil c⟩
    | cons x r =>
      by_cases hx : x = 35
      · subst hx; exact ⟨_, _, line_hash r c⟩
      · by_cases hs : x :: r = [32]
        · rw [hs]; exact ⟨_, _, line_sp c⟩
        · rw [line_body x r c hx hs hl]
          split
          · obtain ⟨n, b, h⟩ := num_total []
            rw [h]; exact fieldL_total _ _ _ _
          · obtain ⟨n, b, h⟩ := num_total ((x :: r).drop ((Lib.indexByte (x :: r) 32).toNat + 1))
            rw [h]; exact fieldL_total _ _ _ _
  obtain ⟨b, c', h⟩ := h
  unfold lineV
  rw [h]
theorem lineV_of {s : List UInt8} {c c' : api_Conf} {b : Bool} (h : conf_line (bs s) c = some ((b, ()), (c', ()), ())) : lineV s c = (b, c') := by unfold lineV; rw [h]

theorem idx_pre (nm r : List UInt8) (h : (32 : UInt8) ∉ nm) : Lib.indexByte (nm ++ 32 :: r) 32 = (nm.length : Int) := by
  induction nm with
  | nil => rfl
  | cons x nm ih =>
    simp only [List.mem_cons, not_or] at h
    have hx : (x == 32) = false := by
      cases e : (x == (32 : UInt8)) with
      | false => rfl
      | true => exact absurd (eq_of_beq e).symm h.1
    show (if x == 32 then (0 : Int) else if Lib.indexByte (nm ++ 32 :: r) 32 == -1 then -1 else Lib.indexByte (nm ++ 32 :: r) 32 + 1) = _
    rw [ih h.2, hx]
    have : ((nm.length : Int) == -1) = false := by
      cases e : ((nm.length : Int) == -1) with
      | false => rfl
      | true => have := eq_of_beq e; omega
    rw [this]
    simp

/-- a name and a number -/
theorem line_nv (x : UInt8) (nm D : List UInt8) (c : api_Conf) (hx : x ≠ 35) (hx2 : x ≠ 32) (hn : (32 : UInt8) ∉ nm) (hl : nm.length < 1000) (h1 : 1 ≤ D.length) (h10 : D.length ≤ 10) (hD : ∀ y ∈ D, digB y) :
    conf_line (bs (x :: nm ++ 32 :: D)) c = fieldL (x :: nm) (valI D D.length) true c := by
  have hidx := idx_pre (x :: nm) D (by simp only [List.mem_cons, not_or]; exact ⟨fun e => hx2 e.symm, hn⟩)
  have := line_body x (nm ++ 32 :: D) c hx (fun e => hx2 (List.cons.inj e).1) (by simp; omega)
  rw [show x :: nm ++ 32 :: D = x :: (nm ++ 32 :: D) from rfl, this, show x :: (nm ++ 32 :: D) = x :: nm ++ 32 :: D from rfl, hidx, if_neg (by omega), Int.toNat_natCast]
  have e1 : (x :: nm ++ 32 :: D).drop ((x :: nm).length + 1) = D := by simp [List.drop_append]
  have e2 : (x :: nm ++ 32 :: D).take (x :: nm).length = x :: nm := by simp
  rw [e1, e2, num_digits D h1 h10 hD]
  rfl

end Go.Proofs.Yteejfnagilnkjaa
