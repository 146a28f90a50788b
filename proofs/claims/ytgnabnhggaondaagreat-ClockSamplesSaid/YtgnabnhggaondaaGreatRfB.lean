/- An evaluator of the model's code, and the proof that it is sound. Own work; no program in it. -/
import Derived.Test.YtgnabnhggaondaaGreatRfA
import Derived.Great.FillDense
import Derived.Great.BuildSlice
import Derived.Laws.Append
import Derived.Laws.AppendOwn
import Derived.Laws.IdiomStrings
import Derived.Laws.IdiomCopy
import Derived.Lib.Bytealg
import Derived.Laws.Externs
import Derived.Laws.MakeOwn
import Derived.Lib.OthersKept
namespace Go.Rf
set_option linter.unusedVariables false
set_option linter.unusedSimpArgs false
variable {U : Univ} {P : Program} {c : Cx} {Φ : Nat → Nat → Nat → Prop} {h : Heap U} {nx : Nat} {w : World}
theorem Z5K {j : IntKind} : ∀ (l : List U.S) (ns : List Int) (vs : List Value), Z3n j l = some ns → RL U c l vs → ns.length = l.length ∧ ∀ (i : Nat) (v : Value), vs[i]? = some v → v = .int j (ns.getD i 0)
 | [], ns, vs, h, hr => by simp [Z3n] at h; subst h; cases hr.unnil; exact ⟨rfl, fun i v hv => by simp at hv⟩
 | x :: l, ns, vs, h, hr => by
  unfold Z3n at h
  split at h
  ·rename_i he; cases he
  ·rename_i k n r he
   cases he
   split at h
   ·rename_i l' hl'
    by_cases hk : k = j
    ·subst hk
     simp at h; subst h
     obtain ⟨v, vs', rfl, h1, h2⟩ := hr.uncons
     obtain ⟨h3, h4⟩ := Z5K _ l' vs' hl' h2
     refine ⟨by simp [h3], fun i u hu => ?_⟩
     cases i with
     | zero => simp at hu; subst hu; exact R.int h1
     | succ i => simp at hu; simpa using h4 i u hu
    ·simp [hk] at h
   ·cases h
  ·cases h
theorem Z5U : ∀ (l : List U.S) (ns : List ByteArray) (vs : List Value), Z3e l = some ns → RL U c l vs → ns.length = l.length ∧ ∀ (i : Nat) (v : Value), vs[i]? = some v → v = .string (ns.getD i .empty)
 | [], ns, vs, h, hr => by simp [Z3e] at h; subst h; cases hr.unnil; exact ⟨rfl, fun i v hv => by simp at hv⟩
 | x :: l, ns, vs, h, hr => by
  unfold Z3e at h
  split at h
  ·rename_i he; cases he
  ·rename_i n r he
   cases he
   split at h
   ·rename_i l' hl'
    simp at h; subst h
    obtain ⟨v, vs', rfl, h1, h2⟩ := hr.uncons
    obtain ⟨h3, h4⟩ := Z5U _ l' vs' hl' h2
    refine ⟨by simp [h3], fun i u hu => ?_⟩
    cases i with
    | zero => simp at hu; subst hu; exact R.valEq h1
    | succ i => simp at hu; simpa using h4 i u hu
   ·cases h
  ·cases h
theorem Z4O : ∀ (l : List U.S) (ns : List Bool) (vs : List Value), Z2R l = some ns → RL U c l vs → ns.length = l.length ∧ ∀ (i : Nat) (v : Value), vs[i]? = some v → v = .bool (ns.getD i false)
 | [], ns, vs, h, hr => by simp [Z2R] at h; subst h; cases hr.unnil; exact ⟨rfl, fun i v hv => by simp at hv⟩
 | x :: l, ns, vs, h, hr => by
  unfold Z2R at h
  split at h
  ·rename_i he; cases he
  ·rename_i n r he
   cases he
   split at h
   ·rename_i l' hl'
    simp at h; subst h
    obtain ⟨v, vs', rfl, h1, h2⟩ := hr.uncons
    obtain ⟨h3, h4⟩ := Z4O _ l' vs' hl' h2
    refine ⟨by simp [h3], fun i u hu => ?_⟩
    cases i with
    | zero => simp at hu; subst hu; exact R.valEq h1
    | succ i => simp at hu; simpa using h4 i u hu
   ·cases h
  ·cases h
theorem Z7G {i : Nat} {l : List U.S} {x : U.S} {vs : List Value} {v : Value} (h : Z5i i l = some x) (hr : RL U c l vs) (hv : vs[i]? = some v) : R U c x v := by
 unfold Z5i at h
 split at h
 ·split at h
  ·rename_i ns hns
   cases h
   obtain ⟨_, h2⟩ := Z5K _ ns vs hns hr
   rw [h2 i v hv]
   refine .val ?_
   rw [← h2 i v hv]
   have hlt := (List.getElem?_eq_some_iff.1 hv).1
   rw [hr.len] at hlt
   obtain ⟨u, h3, h4⟩ := hr.at_ i _ (List.getElem?_eq_getElem hlt)
   rw [hv] at h3; cases h3
   exact h4.ok
  ·cases h
 ·split at h
  ·rename_i ns hns
   cases h
   obtain ⟨_, h2⟩ := Z5U _ ns vs hns hr
   rw [h2 i v hv]; exact .val rfl
  ·cases h
 ·split at h
  ·rename_i ns hns
   cases h
   obtain ⟨_, h2⟩ := Z4O _ ns vs hns hr
   rw [h2 i v hv]; exact .val rfl
  ·cases h
 ·obtain ⟨u, h3, h4⟩ := hr.at_ i _ h
  rw [hv] at h3; cases h3; exact h4
 ·obtain ⟨u, h3, h4⟩ := hr.at_ i _ h
  rw [hv] at h3; cases h3; exact h4
 ·cases h
theorem Z6q {α β : Type} (m : Nat) : ∀ (f : Nat) (l : List α) (r : List β), l.length = r.length → (every m f l).length = (every m f r).length
 | 0, _, _, _ => rfl
 | f + 1, [], [], _ => rfl
 | f + 1, x :: l, y :: r, h => by simp only [every, List.length_cons]; rw [Z6q m f (List.drop m (x :: l)) (List.drop m (y :: r)) (by rw [List.length_drop, List.length_drop, h])]
 | f + 1, [], y :: r, h => by simp at h
 | f + 1, x :: l, [], h => by simp at h
theorem Z2i {α : Type} (m : Nat) : ∀ (f : Nat) (l : List α) (i : Nat), i < f → (every m f l)[i]? = l[i * m]?
 | 0, _, _, h => by omega
 | f + 1, [], i, _ => by simp [every]
 | f + 1, x :: l, 0, _ => by simp [every]
 | f + 1, x :: l, i + 1, h => by
  rcases Nat.eq_zero_or_pos m with rfl | hm
  ·simp only [every, List.getElem?_cons_succ]
   rw [Z2i 0 f _ i (by omega)]
   simp
  ·simp only [every, List.getElem?_cons_succ]
   rw [Z2i m f _ i (by omega), List.getElem?_drop]
   congr 1
   rw [Nat.succ_mul]; omega
theorem RL.every {l : List U.S} {vs : List Value} (m : Nat) (hr : RL U c l vs) (k : Nat) : RL U c (Rf.every m l.length (l.drop k)) (Rf.every m l.length (vs.drop k)) := by
 refine ⟨(Z6q m _ _ _ (by simp [hr.len])), fun i x hx => ?_⟩
 have hi : i < l.length := by
  rcases Nat.lt_or_ge i l.length with h' | h'
  ·exact h'
  ·exfalso
   have hle : ∀ (f : Nat) (r : List U.S), (Rf.every m f r).length ≤ f := by
    intro f
    induction f with
    | zero => intro r; simp [Rf.every]
    | succ f ih => intro r; cases r with
     | nil => simp [Rf.every]
     | cons y r => simp only [Rf.every, List.length_cons]; have := ih (List.drop m (y :: r)); omega
   have := (List.getElem?_eq_some_iff.1 hx).1
   have := hle l.length (l.drop k)
   omega
 rw [Z2i m _ _ i hi, List.getElem?_drop] at hx
 rw [Z2i m _ _ i hi, List.getElem?_drop]
 exact hr.at_ _ x hx
theorem Z4v {i m : Nat} {l : List U.S} {vs : List Value} (hr : RL U c l vs) : ∀ (k : Nat) (r : List U.S), Z2g i m l k = some r → k ≤ m → i * m + m ≤ vs.length → RL U c r (dropT (i * m) k vs)
 | 0, r, h, _, _ => by simp [Z2g] at h; subst h; simp [dropT]; exact .nil
 | k + 1, r, h, hk, hl => by
  unfold Z2g at h
  split at h
  ·rename_i r' x hr' hx
   cases h
   have ih := Z4v hr k r' hr' (by omega) hl
   have hlt : i * m + k < vs.length := by omega
   have h1 : dropT (i * m) (k + 1) vs = dropT (i * m) k vs ++ [vs[i * m + k]] := by
    unfold dropT
    rw [List.take_add_one, List.getElem?_drop, List.getElem?_eq_getElem hlt]
    rfl
   rw [h1]
   refine ih.append (.cons ?_ .nil)
   refine Z7G hx (hr.every m k) ?_
   have hi : i < l.length := by
    rw [← hr.len]
    rcases Nat.eq_zero_or_pos m with rfl | hm
    ·omega
    ·have : i ≤ i * m := Nat.le_mul_of_pos_right i hm
     omega
   rw [Z2i m _ _ i hi, List.getElem?_drop, Nat.add_comm k]
   exact List.getElem?_eq_getElem hlt
  ·cases h
theorem bytes_getElem? (s : ByteArray) (i : Nat) : s[i]? = s.data.toList[i]? := by
 obtain ⟨⟨l⟩⟩ := s
 by_cases h : i < l.length
 ·simp only [List.getElem?_eq_getElem h]
  rw [getElem?_pos (h := by simpa [ByteArray.size] using h)]
  rfl
 ·rw [getElem?_neg (h := by simpa [ByteArray.size] using h)]
  simp [List.getElem?_eq_none (Nat.le_of_not_lt h)]
theorem Z9g {t : TypeId} {a b : A U} {out : Out U} {p q : Value} (ho : (Z5X P t a b).outs = some out) (ha : RA U c a p) (hb : RA U c b q) :
  Quiet U c w P (Instr.index t p q) out := by
 unfold Z5X at ho
 split at ho
 ·rename_i len e l k n hu
  split at ho
  ·rename_i m g hm hag
   cases hc1 : Nat.beq l.length (len * m) && Nat.ble 1 m with
   | false => simp [hc1] at ho; exact (Z1 ho).elim
   | true =>
    simp only [hc1, cond_true] at ho
    simp only [Bool.and_eq_true] at hc1
    have e1 := nbeq hc1.1
    split at ho
    ·rename_i cs hcs
     split at ho
     ·rename_i v hv
      obtain ⟨hr, rfl⟩ := Zb ho
      obtain ⟨h0, h1, h2⟩ := ZT hr
      obtain ⟨vs, rfl, hl⟩ := ha
      cases R.int (show R U c _ q from hb)
      have hlen : vs.toList.length = len * m := hl.len.trans e1
      have hle : n.toNat * m + m ≤ vs.toList.length := by
       rw [hlen, ← Nat.succ_mul]
       exact Nat.mul_le_mul_right m (by omega)
      have hr2 := Z4v hl m cs hcs (Nat.le_refl m) hle
      have hr3 := asV_ok hv hr2
      have hpart : (part e vs (n.toNat * m)).run P w = .ok (if g then .agg (dropT (n.toNat * m) m vs.toList).toArray else (dropT (n.toNat * m) m vs.toList).headD undef) w := by
       have := Z2M (P := P) (w := w) (vs := vs.toList) (off := n.toNat * m) hag hm (fun _ => by have := Nat.le_of_ble_eq_true hc1.2; omega)
       rw [show vs.toList.toArray = vs by simp] at this
       rw [this]
       cases g with
       | true => rfl
       | false =>
        simp only [Z1w, cond_false, Bool.false_eq_true, if_false]
        congr 1
        have hlt : n.toNat * m < vs.toList.length := by have := Nat.le_of_ble_eq_true hc1.2; omega
        unfold dropT
        rw [List.drop_eq_getElem_cons hlt]
        obtain ⟨m', rfl⟩ : ∃ m', m = m' + 1 := ⟨m - 1, by have := Nat.le_of_ble_eq_true hc1.2; omega⟩
        rfl
      refine ⟨_, ?_, hr3, rfl, rfl⟩
      simp only [Instr.index, Sem.run_bind, Z19, Result.andThen_ok, run_underlying hu]
      simp [h0, h1, Z7 hm, hpart]
     ·exact (Z1 ho).elim
    ·exact (Z1 ho).elim
  ·exact (Z1 ho).elim
 ·rename_i s k n hu
  obtain ⟨hr, rfl⟩ := Zb ho
  obtain ⟨h0, h1, h2⟩ := ZT hr
  cases R.int (show R U c _ q from hb)
  cases R.valEq (show R U c _ p from ha)
  have hlt : n.toNat < s.data.toList.length := by rw [Array.length_toList]; exact h2
  refine ⟨.int .u8 ((s.data.toList.getD n.toNat 0).toNat : Int), ?_, .val (Z3O _), rfl, rfl⟩
  simp only [Instr.index, Sem.run_bind, Z19, Result.andThen_ok, run_underlying hu]
  rw [if_pos h0, bytes_getElem?, List.getElem?_eq_getElem hlt]
  simp [List.getD, List.getElem?_eq_getElem hlt]
 ·exact (Z1 ho).elim
end Go.Rf
namespace Go.Rf
set_option linter.unusedVariables false
set_option linter.unusedSimpArgs false
variable {U : Univ} {P : Program} {c : Cx} {Φ : Nat → Nat → Nat → Prop} {h : Heap U} {nx : Nat} {w : World}
def Z1n (U : Univ) (c : Cx) (x : Option (Option (A U))) (y : Option Value) : Prop :=
 match x, y with
 | .none, .none => True
 | some a, some v => ∀ b, a = some b → RA U c b v
 | _, _ => False
def Bd (y : Option Value) (d : Nat) (n : Int) : Prop := (y = none ∧ n = (d : Int)) ∨ ∃ k, y = some (.int k n)
theorem Zi {x : Option (Option (A U))} {y : Option Value} {d : Nat} {n : Int} (h : ZC x d = some n) (hx : Z1n U c x y) : Bd y d n := by
 unfold ZC at h
 split at h
 ·cases h
  cases y with
  | none => exact .inl ⟨rfl, rfl⟩
  | some v => exact hx.elim
 ·rename_i k n'
  cases h
  cases y with
  | none => exact hx.elim
  | some v => exact .inr ⟨k, by rw [R.int (show R U c _ v from hx _ rfl)]⟩
 ·cases h
theorem ZS {a b : Int} {n : Nat} (h : le3 a b n = true) : 0 ≤ a ∧ a ≤ b ∧ b ≤ (n : Int) := by
 unfold le3 ile at h
 by_cases h1 : 0 ≤ a <;> by_cases h2 : a ≤ b <;> simp [h1, h2] at h
 exact ⟨h1, h2, h⟩
theorem ZX {isS : Bool} {len cap : Nat} {lo hi : Option Value} {l r : Int} (hl : Bd lo 0 l) (hr : Bd hi len r) (h0 : 0 ≤ l) (h1 : l ≤ r) (h2 : r ≤ (len : Int)) (hlc : len ≤ cap) :
  (Instr.sliceBounds isS len cap lo hi none).run P w = .ok (l.toNat, r.toNat, cap) w := by
 have hb : ∀ (k : IntKind) (i : Int) (y : Nat) (code : BoundsCode), 0 ≤ i → i ≤ (y : Int) → (Instr.sliceBound (.int k i) y code).run P w = .ok i.toNat w := fun k i y code a b => run_sliceBound w k i y code a b
 have er : (r.toNat : Int) = r := Int.toNat_of_nonneg (by omega)
 rcases hl with ⟨rfl, rfl⟩ | ⟨kl, rfl⟩ <;> rcases hr with ⟨rfl, rfl⟩ | ⟨kr, rfl⟩
 ·simp [Instr.sliceBounds]
 ·simp [Instr.sliceBounds, hb kr r cap _ (by omega) (by omega)]
 ·simp [Instr.sliceBounds, hb kl l len _ h0 (by omega)]
 ·simp [Instr.sliceBounds, hb kr r cap _ (by omega) (by omega), hb kl l r.toNat _ h0 (by omega)]
theorem Z7A {len cap : Nat} {lo hi : Option Value} {km : IntKind} {l r m : Int} (hl : Bd lo 0 l) (hr : Bd hi len r) (hsome : hi.isSome) (h0 : 0 ≤ l) (h1 : l ≤ r) (h2 : r ≤ m) (h3 : m ≤ (cap : Int)) :
  (Instr.sliceBounds true len cap lo hi (some (.int km m))).run P w = .ok (l.toNat, r.toNat, m.toNat) w := by
 have hb : ∀ (k : IntKind) (i : Int) (y : Nat) (code : BoundsCode), 0 ≤ i → i ≤ (y : Int) → (Instr.sliceBound (.int k i) y code).run P w = .ok i.toNat w := fun k i y code a b => run_sliceBound w k i y code a b
 have er : (r.toNat : Int) = r := Int.toNat_of_nonneg (by omega)
 have em : (m.toNat : Int) = m := Int.toNat_of_nonneg (by omega)
 rcases hr with ⟨rfl, rfl⟩ | ⟨kr, rfl⟩
 ·cases hsome
 ·rcases hl with ⟨rfl, rfl⟩ | ⟨kl, rfl⟩
  ·simp [Instr.sliceBounds, hb km m cap _ (by omega) h3, hb kr r m.toNat _ (by omega) (by omega)]
  ·simp [Instr.sliceBounds, hb km m cap _ (by omega) h3, hb kr r m.toNat _ (by omega) (by omega), hb kl l r.toNat _ h0 (by omega)]
theorem Z69 {α : Type} {l : List α} {a b i : Nat} {d : α} (hi : i < ((l.take b).drop a).length) : ((l.take b).drop a).getD i d = l.getD (a + i) d := by
 have h : ((l.take b).drop a)[i]? = l[a + i]? := by
  rw [List.getElem?_drop, List.getElem?_take]
  simp at hi
  rw [if_pos (by omega)]
 simp [List.getD, h]
theorem Z92 (hU : U.Ok) {h' : Heap U} {t : TypeId} {a : A U} {xl xh xm : Option (Option (A U))} {yl yh ym : Option Value} {out : Out U} {p : Value}
  (ho : (Z2z P t a xl xh xm h').outs = some out) (hag : ∀ s, s ∈ out.rd ∨ s ∈ out.w.map (·.1) → get h s = get h' s) (hg : G U c Φ h w) (ha : RA U c a p)
  (hl : Z1n U c xl yl) (hh : Z1n U c xh yh) (hm : Z1n U c xm ym) : Quiet U c w P (Instr.sliceAt t p yl yh ym) out := by
 unfold Z2z at ho
 split at ho
 ·rename_i s hu
  split at ho
  ·rename_i l r h1 h2
   obtain ⟨hr, rfl⟩ := Zb ho
   obtain ⟨e0, e1, e2⟩ := ZS hr
   cases ym with
   | some v => exact hm.elim
   | none =>
    cases R.valEq (show R U c _ p from ha)
    have hb := ZX (P := P) (w := w) (isS := false) (Zi h1 hl) (Zi h2 hh) e0 e1 e2 (Nat.le_refl _)
    refine ⟨.string (s.extract l.toNat r.toNat), ?_, .val rfl, rfl, rfl⟩
    simp [Instr.sliceAt, run_underlying hu, Instr.slice, hb]
  ·exact (Z1 ho).elim
 ·rename_i e tk u xs hu
  split at ho
  ·rename_i m l r hs h1 h2
   cases hmu : Nat.beq m (U.size u) with
   | false => simp [hmu] at ho; exact (Z1 ho).elim
   | true =>
    simp only [hmu, cond_true] at ho
    have hmu' := nbeq hmu
    subst hmu'
    cases (show R U c _ p from ha) with
    | @isl _ _ _ a' cap b o g hc ht ha' hi hrr =>
     have mk : ∀ (tk' : Tok) (m' : Nat), 0 ≤ l → l ≤ r → r ≤ (xs.length : Int) → r.toNat ≤ m' → m' ≤ cap → (tk' = .full → m' = r.toNat) → (∀ k, tk' ≠ .own k) →
       R U c (.isl tk' u ((xs.take r.toNat).drop l.toNat)) (.slice (if m' = l.toNat then a' else a'.map (·.add (l.toNat * U.size u))) (r.toNat - l.toNat) (m' - l.toNat)) := by
      intro tk' m' e0 e1 e2 e3 e4 e5 e6
      have hlen : ((xs.take r.toNat).drop l.toNat).length = r.toNat - l.toNat := by simp; omega
      rw [← hlen]
      refine R.isl (b := b) (o := o + l.toNat * U.size u) (fun i k => g (l.toNat + i) k) (by omega) ?_ (fun hpos => ?_) (fun i k h3 h4 => ?_) (fun i k h3 h4 => ?_)
      ·cases tk' with
       | none => trivial
       | full => simp only [TokOK]; rw [e5 rfl, hlen]
       | own k => exact absurd rfl (e6 k)
      ·rw [hlen] at hpos
       have := ha' (by omega)
       subst this
       rw [if_neg (by omega)]
       simp [Zs]
      ·rw [hlen] at h3
       have := hi (l.toNat + i) k (by omega) h4
       rwa [Nat.add_mul, show o + (l.toNat * U.size u + i * U.size u + k) = o + l.toNat * U.size u + (i * U.size u + k) by omega] at this
      ·rw [Z69 h3]
       rw [hlen] at h3
       exact hrr (l.toNat + i) k (by omega) h4
     split at ho
     ·obtain ⟨hr, rfl⟩ := Zb ho
      obtain ⟨e0, e1, e2⟩ := ZS hr
      cases ym with
      | some v => exact hm.elim
      | none =>
       have hb := ZX (P := P) (w := w) (isS := true) (Zi h1 hl) (Zi h2 hh) e0 e1 e2 hc
       refine ⟨_, ?_, mk .none cap e0 e1 e2 (by omega) (Nat.le_refl _) (fun hh => by cases hh) (fun k hh => by cases hh), rfl, rfl⟩
       simp [Instr.sliceAt, run_underlying hu, Instr.slice, hb, Z7 hs]
     ·rename_i k cc
      cases hsx : xh.isSome with
      | false => simp [hsx] at ho; exact (Z1 ho).elim
      | true =>
      simp only [hsx, cond_true] at ho
      obtain ⟨hr, rfl⟩ := Zb ho
      have hr1 : le3 l r xs.length = true ∧ ieq r cc = true := by
       cases h3 : le3 l r xs.length <;> simp [h3] at hr
       exact ⟨rfl, hr⟩
      obtain ⟨e0, e1, e2⟩ := ZS hr1.1
      have e3 : r = cc := by simpa [ieq] using hr1.2
      subst e3
      cases ym with
      | none => exact hm.elim
      | some v =>
       cases R.int (show R U c _ v from hm _ rfl)
       ·have hsome : yh.isSome := by
         cases yh with
         | none => cases xh with
          | none => cases hsx
          | some a => exact hh.elim
         | some v => rfl
        have hb := Z7A (P := P) (w := w) (km := k) (m := r) (cap := cap) (Zi h1 hl) (Zi h2 hh) hsome e0 e1 (Int.le_refl _) (by omega)
        refine ⟨_, ?_, mk .full r.toNat e0 e1 e2 (Nat.le_refl _) (by omega) (fun _ => rfl) (fun k hh => by cases hh), rfl, rfl⟩
        simp [Instr.sliceAt, run_underlying hu, Instr.slice, hb, Z7 hs]
     ·exact (Z1 ho).elim
  ·exact (Z1 ho).elim
 ·rename_i e s i0 n hu
  split at ho
  ·rename_i m l r u nn f hs h1 h2 he
   cases hmu : Nat.beq m (U.size u) with
   | false => simp [hmu] at ho; exact (Z1 ho).elim
   | true =>
    simp only [hmu, cond_true] at ho
    have hmu' := nbeq hmu
    subst hmu'
    obtain ⟨hr, rfl⟩ := Zb ho
    obtain ⟨e0, e1, e2⟩ := ZS hr
    have he' : get h s = some (.fam true u nn f) := by rw [hag s (.inl (by simp))]; exact he
    obtain ⟨A, hA, hA1, _, hct⟩ := (hg.ents s _ he').fams
    cases ym with
    | some v => exact hm.elim
    | none =>
     cases (show R U c _ p from ha) with
     | @sl _ _ _ cap b o a' hc ha' hl' =>
      have hb := ZX (P := P) (w := w) (isS := true) (Zi h1 hl) (Zi h2 hh) e0 e1 e2 hc
      refine ⟨.slice (if cap = l.toNat then a' else a'.map (·.add (l.toNat * U.size u))) (r.toNat - l.toNat) (cap - l.toNat), ?_, ?_, rfl, rfl⟩
      ·simp [Instr.sliceAt, run_underlying hu, Instr.slice, hb, Z7 hs]
      ·refine R.sl (b := b) (o := o + l.toNat * U.size u) (by omega) (fun hpos => ?_) (fun j hj => ?_)
       ·obtain ⟨hL, rfl⟩ := ha' (by omega)
        obtain ⟨x, hx⟩ := hl' l.toNat (by omega)
        have hi0 := hA1 _ _ hL
        have hin := hA1 _ _ hx
        have e4 := hct rfl i0 hi0
        have e5 := hct rfl (i0 + l.toNat) hin
        have e6 := hA i0 hi0
        rw [hL] at e6
        simp only [Option.some.injEq] at e6
        refine ⟨?_, ?_⟩
        ·rw [hA _ hin, e5]
         rw [← e6] at e4
         simp only [Prod.mk.injEq] at e4
         rw [e4.1, e4.2, Nat.add_mul, Nat.add_assoc]
        ·rw [if_neg (by omega)]
         simp [Zs]
       ·obtain ⟨x, hx⟩ := hl' (l.toNat + j) (by omega)
        exact ⟨x, by rw [Nat.add_assoc]; exact hx⟩
  ·exact (Z1 ho).elim
 ·rename_i e s off m' len b0 n hu
  split at ho
  ·rename_i m l r hs h1 h2
   cases hmu : Nat.beq m m' with
   | false => simp [hmu] at ho; exact (Z1 ho).elim
   | true =>
    simp only [hmu, cond_true] at ho
    have hmu' := nbeq hmu
    subst hmu'
    obtain ⟨hr, rfl⟩ := Zb ho
    obtain ⟨e0, e1, e2⟩ := ZS hr
    cases ym with
    | some v => exact hm.elim
    | none =>
     cases (show R U c _ p from ha) with
     | @asl _ _ _ _ _ _ cap b o a' hc hbn hL ha' =>
      have hb := ZX (P := P) (w := w) (isS := true) (Zi h1 hl) (Zi h2 hh) e0 e1 e2 hc
      refine ⟨.slice (if cap = l.toNat then a' else a'.map (·.add (l.toNat * m))) (r.toNat - l.toNat) (cap - l.toNat), ?_, ?_, rfl, rfl⟩
      ·simp [Instr.sliceAt, run_underlying hu, Instr.slice, hb, Z7 hs]
      ·refine R.asl (b := b) (o := o) (by omega) (by omega) hL fun hpos => ?_
       have := ha' (by omega)
       subst this
       rw [if_neg (by omega)]
       simp [Zs, Nat.add_mul, Nat.add_assoc]
  ·exact (Z1 ho).elim
 ·rename_i len e s i off hu
  split at ho
  ·rename_i m l r cells hs h1 h2 he
   split at ho
   ·rename_i u len' f hs'
    cases hc3 : Nat.beq m (U.size u) && Nat.beq len len' with
    | false => simp [hc3] at ho; exact (Z1 ho).elim
    | true =>
     simp only [hc3, cond_true] at ho
     obtain ⟨hr, rfl⟩ := Zb ho
     obtain ⟨e0, e1, e2⟩ := ZS hr
     have he' : get h s = some (.obj cells) := by rw [hag s (.inl (by simp))]; exact he
     obtain ⟨b, o, hL, hp⟩ : ∃ b o, c.L s i = some (b, o) ∧ p = .pointer (some (at_ b (o + off))) := by
      cases (show R U c _ p from ha) with | ptr h0 => exact ⟨_, _, h0, rfl⟩
     subst hp
     obtain ⟨b', o', h0, h3, _, h4⟩ := (hg.ents s _ he').objs
     have hi := h3 _ _ hL
     subst hi
     cases ym with
     | some v => exact hm.elim
     | none =>
      have hb := ZX (P := P) (w := w) (isS := false) (Zi h1 hl) (Zi h2 hh) e0 e1 e2 (Nat.le_refl _)
      refine ⟨.slice (some (if len = l.toNat then at_ b (o + off) else (at_ b (o + off)).add (l.toNat * m))) (r.toNat - l.toNat) (len - l.toNat), ?_, ?_, rfl, rfl⟩
      ·simp [Instr.sliceAt, run_underlying hu, Instr.sureAddr, hb, Z7 hs]
      ·refine R.asl (b := b) (o := o) (by omega) (by omega) hL fun hpos => ?_
       rw [if_neg (by omega), Zs]
   ·rename_i s' hs'
    split at ho
    ·rename_i u len' f he2
     cases hc3 : Nat.beq m (U.size u) && Nat.beq len len' && Nat.beq i 0 with
     | false => simp [hc3] at ho; exact (Z1 ho).elim
     | true =>
      simp only [hc3, cond_true] at ho
      obtain ⟨hr, rfl⟩ := Zb ho
      simp only [Bool.and_eq_true] at hc3
      obtain ⟨⟨e3, e4⟩, _⟩ := hc3
      have e3 := nbeq e3
      have e4 := nbeq e4
      subst e3; subst e4
      obtain ⟨e0, e1, e2⟩ := ZS hr
      have he' : get h s = some (.obj cells) := by rw [hag s (.inl (by simp))]; exact he
      have he2' : get h s' = some (.fam true u len f) := by rw [hag s' (.inl (by simp))]; exact he2
      obtain ⟨b, o, hL, hp⟩ : ∃ b o, c.L s i = some (b, o) ∧ p = .pointer (some (at_ b (o + off))) := by
       cases (show R U c _ p from ha) with | ptr h0 => exact ⟨_, _, h0, rfl⟩
      subst hp
      obtain ⟨b', o', h0, h3, _, h4⟩ := (hg.ents s _ he').objs
      have hi := h3 _ _ hL
      subst hi
      rw [hL] at h0; cases h0
      have hb0 := h4 off s' hs'
      obtain ⟨A, hA, hA1, _, hct⟩ := (hg.ents s' _ he2').fams
      cases ym with
      | some v => exact hm.elim
      | none =>
       have hb := ZX (P := P) (w := w) (isS := false) (Zi h1 hl) (Zi h2 hh) e0 e1 e2 (Nat.le_refl _)
       refine ⟨.slice (some (if len = l.toNat then at_ b (o + off) else (at_ b (o + off)).add (l.toNat * U.size u))) (r.toNat - l.toNat) (len - l.toNat), ?_, ?_, rfl, rfl⟩
       ·simp [Instr.sliceAt, run_underlying hu, Instr.sureAddr, hb, Z7 hs]
       ·have hlpos : ∀ j, l.toNat + j < len → c.L s' (l.toNat + j) = some (b, o + off + (l.toNat + j) * U.size u) := fun j hj => by
         have hz : 0 < len := by omega
         have e7 := hA 0 hz
         rw [hb0] at e7
         simp only [Option.some.injEq] at e7
         have e8 := hct rfl (l.toNat + j) hj
         rw [← e7] at e8
         rw [hA _ hj, e8]
        refine R.sl (b := b) (o := o + off + l.toNat * U.size u) (by omega) (fun hpos => ⟨?_, ?_⟩) (fun j hj => ⟨_, hlpos j (by omega)⟩)
        ·have := hlpos 0 (by omega)
         simpa using this
        ·rw [if_neg (by omega), Zs]
    ·exact (Z1 ho).elim
   ·exact (Z1 ho).elim
  ·exact (Z1 ho).elim
 ·exact (Z1 ho).elim
end Go.Rf
namespace Go.Rf
set_option linter.unusedVariables false
set_option linter.unusedSimpArgs false
variable {U : Univ} {P : Program} {c : Cx} {Φ : Nat → Nat → Nat → Prop} {h : Heap U} {nx : Nat} {w : World}
structure PartsOK (U : Univ) (c : Cx) (ps : List (Nat × List U.S)) (qs : List (Nat × Value)) : Prop where
 len : qs.length = ps.length
 at_ : ∀ (k : Nat) i l, ps[k]? = some (i, l) → ∃ v, qs[k]? = some (i, v) ∧ RL U c l v.cells.toList
theorem RL.splice {l new : List U.S} {vs ns : List Value} {off : Nat} (hl : RL U c l vs) (hn : RL U c new ns) : RL U c (Rf.splice off new l) (Rf.splice off ns vs) := by
 unfold Rf.splice
 rw [hn.len]
 exact ((hl.take off).append hn).append (hl.drop _)
theorem Z6P (off : Nat) (v cs : Array Value) (h : off + v.size ≤ cs.size) :
  (v.zipIdx.foldl (fun cs (x : Value × Nat) => cs.setIfInBounds (off + x.2) x.1) cs).toList = splice off v.toList cs.toList := by
 rw [← Array.foldl_toList, Array.toList_zipIdx]
 obtain ⟨h1, h2⟩ := Great.foldl_set off v.toList 0 cs
 apply List.ext_getElem?
 intro k
 rw [Array.getElem?_toList, h2 k]
 by_cases hin : off ≤ k ∧ k < off + v.toList.length
 ·obtain ⟨j, rfl⟩ : ∃ j, k = off + j := ⟨k - off, by omega⟩
  rw [if_pos (by simp at hin ⊢; omega), Zv (by simpa using h) (by omega)]
  congr 1; omega
 ·rw [if_neg (by omega), Zo (by simpa using h) (by omega), Array.getElem?_toList]
theorem Z4L {place : Nat → Option (Nat × Nat)} : ∀ (ps : List (Nat × List U.S)) (qs : List (Nat × Value)) (cells l : List U.S) (cs : Array Value),
  Z3Q place cells ps = some l → PartsOK U c ps qs → RL U c cells cs.toList → ∃ r : Array Value, Instr.fill place cs qs = some r ∧ RL U c l r.toList
 | [], qs, cells, l, cs, hf, hp, hc => by
  have : qs = [] := by have := hp.len; simpa using this
  subst this
  simp [Z3Q] at hf; subst hf
  exact ⟨cs, rfl, hc⟩
 | (i, x) :: ps, qs, cells, l, cs, hf, hp, hc => by
  cases qs with
  | nil => have := hp.len; simp at this
  | cons q qs =>
   obtain ⟨v, hv, hr⟩ := hp.at_ 0 i x rfl
   simp at hv; subst hv
   simp only [Z3Q] at hf
   cases hpl : place i with
   | none => simp [hpl] at hf
   | some os =>
    obtain ⟨off, size⟩ := os
    simp only [hpl] at hf
    cases hb : Nat.beq x.length size && Nat.ble (off + size) cells.length with
    | false => simp [hb] at hf
    | true =>
     simp only [hb, cond_true] at hf
     simp only [Bool.and_eq_true] at hb
     have e1 := nbeq hb.1
     have e2 := Nat.le_of_ble_eq_true hb.2
     have e3 : v.cells.size = size := by have := hr.len; simp at this; omega
     have e4 : cs.size = cells.length := by have := hc.len; simpa using this
     have hle : off + v.cells.size ≤ cs.size := by omega
     have hsp := Z6P off v.cells cs hle
     obtain ⟨r, hr1, hr2⟩ := Z4L ps qs (splice off x cells) l (v.cells.zipIdx.foldl (fun cs (x : Value × Nat) => cs.setIfInBounds (off + x.2) x.1) cs) hf
      ⟨by have := hp.len; simpa using this, fun k i l hk => by have := hp.at_ (k + 1) i l (by simpa using hk); simpa using this⟩ (by rw [hsp]; exact hc.splice hr)
     refine ⟨r, ?_, hr2⟩
     simp only [Instr.fill, hpl]
     rw [if_neg (by simp [e3]; omega)]
     exact hr1
theorem Z3G {ρ : Operand → Option (A U)} {ev : Operand → Value} : ∀ (ps : List (Nat × Operand)) (l : List (Nat × List U.S)) (hρ : ∀ p ∈ ps, ∀ v, ρ p.2 = some v → RA U c v (ev p.2)),
  Z2B (ps.map fun p => (p.1, ρ p.2)) = some l → PartsOK U c l (ps.map fun p => (p.1, ev p.2))
 | [], l, hρ, h => by simp [Z2B] at h; subst h; exact ⟨rfl, fun k i l hk => by simp at hk⟩
 | (i, x) :: ps, l, hρ, h => by
  simp only [List.map_cons] at h
  unfold Z2B at h
  split at h
  ·rename_i he; cases he
  ·rename_i i' y r he
   simp only [List.cons.injEq, Prod.mk.injEq] at he
   obtain ⟨⟨rfl, hx⟩, rfl⟩ := he
   split at h
   ·rename_i l' hl'
    cases h
    have ih := Z3G ps l' (fun p hp => hρ p (List.mem_cons_of_mem _ hp)) hl'
    refine ⟨by simp [ih.len], fun k j m hk => ?_⟩
    cases k with
    | zero => simp at hk; obtain ⟨rfl, rfl⟩ := hk; exact ⟨_, rfl, RV.cells (hρ (i, x) (List.mem_cons_self ..) _ hx)⟩
    | succ k => simp at hk; have := ih.at_ k j m hk; simpa using this
   ·cases h
  ·cases h
theorem Z6n : ∀ (fs : List Field) (pl : List (Nat × Nat)), places P fs = some pl → ∀ w, (fs.mapM (fun f => do pure (f.offset, ← sizeOf f.type)) : Sem (List (Nat × Nat))).run P w = .ok pl w
 | [], pl, h, w => by simp [places] at h; subst h; rfl
 | f :: fs, pl, h, w => by
  unfold places at h
  split at h
  ·rename_i i l hi hl
   cases h
   have hsz : (sizeOf f.type).run P w = .ok i.size w := Z7 (by simp [size?, hi]) w
   rw [List.mapM_cons]
   simp only [Sem.run_bind, hsz, Result.andThen_ok, Sem.run_pure]
   rw [Z6n fs l hl w]
   rfl
  ·cases h
theorem Z9p {ρ : Operand → Option (A U)} {ev : Operand → Value} {t : TypeId} {ps : Array (Nat × Operand)} {out : Out U} (ho : (Z63 P t (ps.toList.map fun p => (p.1, ρ p.2))).outs = some out)
  (hρ : ∀ p ∈ ps.toList, ∀ v, ρ p.2 = some v → RA U c v (ev p.2)) : Quiet U c w P (Instr.build t (ps.map fun p => (p.1, ev p.2))) out := by
 unfold Z63 at ho
 split at ho
 ·rename_i z parts hz hp
  have hP := Z3G ps.toList parts hρ hp
  obtain ⟨zv, hzr, hzl⟩ := Z13 (c := c) hz
  have hqs : (ps.map fun p => (p.1, ev p.2)).toList = ps.toList.map fun p => (p.1, ev p.2) := by simp
  split at ho
  ·rename_i fs hfs
   split at ho
   ·rename_i pl hpl
    split at ho
    ·rename_i l hl
     have := Zq ho; subst this
     obtain ⟨r, hr1, hr2⟩ := Z4L parts _ z l zv.cells hl hP hzl
     refine ⟨.agg r, ?_, ⟨r, rfl, hr2⟩, rfl, rfl⟩
     have hm : (fs.mapM (fun f => do pure (f.offset, ← sizeOf f.type)) : Sem (Array (Nat × Nat))).run P w = .ok pl.toArray w := by
      rw [Array.mapM_eq_mapM_toList]
      simp only [Sem.run_map, Z6n fs.toList pl hpl w, Result.andThen_ok]
     simp only [Instr.build, Sem.run_bind, hzr, Result.andThen_ok, run_underlying hfs, hm]
     rw [hqs, show (fun i => (pl.toArray)[i]?) = (fun i => pl[i]?) by funext i; simp, hr1]
     rfl
    ·exact (Z1 ho).elim
   ·exact (Z1 ho).elim
  ·rename_i n e hu
   split at ho
   ·rename_i m hm
    split at ho
    ·rename_i l hl
     have := Zq ho; subst this
     obtain ⟨r, hr1, hr2⟩ := Z4L parts _ z l zv.cells hl hP hzl
     refine ⟨.agg r, ?_, ⟨r, rfl, hr2⟩, rfl, rfl⟩
     simp only [Instr.build, Sem.run_bind, hzr, Result.andThen_ok, run_underlying hu, Z7 hm]
     rw [hqs, hr1]
     rfl
    ·exact (Z1 ho).elim
   ·exact (Z1 ho).elim
  ·exact (Z1 ho).elim
 ·exact (Z1 ho).elim
def Cx.withI (c : Cx) (N m : Nat) (g : Nat → Value) : Cx := { c with I := fun b o => if b = N ∧ o < m then some (g o) else c.I b o }
theorem Cx.withI_le {N m : Nat} {g : Nat → Value} (hN : ∀ o, c.I N o = none) : c.Le (c.withI N m g) where
 L _ _ _ hx := hx
 I b o v hx := by
  simp only [Cx.withI]
  by_cases hb : b = N ∧ o < m
  ·obtain ⟨rfl, _⟩ := hb; rw [hN] at hx; cases hx
  ·rw [if_neg hb]; exact hx
theorem Step1.imm (hU : U.Ok) {w' : World} {m : Nat} {g : Nat → Value} {v : A U} {u : Value} {rd : List Nat} (hg : G U c Φ h w) (hfr : Fr (fun _ _ => False) w w')
  (hc : ∀ o, o < m → w'.cell? (at_ w.heap.size o) = some (g o)) (hv : RA U (c.withI w.heap.size m g) v u) :
  Step1 U c Φ h nx { v := v, rd := rd } w (c.withI w.heap.size m g) Φ u w' := by
 have hN : ∀ o, c.I w.heap.size o = none := fun o => by
  cases hI : c.I w.heap.size o with
  | none => rfl
  | some v => exact absurd (hg.immLt hI) (Nat.lt_irrefl _)
 have hle : c.Le (c.withI w.heap.size m g) := Cx.withI_le hN
 refine ⟨hle, fun _ _ _ _ => rfl, hv, ⟨fun s e he => ?_, fun s s' b o h1 h2 h3 h4 h5 => hg.apart s s' b o h1 (by simpa using h2) (by simpa using h3) h4 h5, fun b o v hI => ?_, fun s b o hs hf => ?_⟩,
  hfr.mono (fun _ _ _ hf => hf.elim), fun _ _ => rfl, fun s b o hs => by simp at hs, fun s hs => by simp at hs, fun b o v hI => by
   simp only [Cx.withI] at hI
   by_cases hb : b = w.heap.size ∧ o < m
   ·exact .inr (.inl (by omega))
   ·rw [if_neg hb] at hI; exact .inl hI⟩
 ·exact (hg.ents s e (by simpa using he)).stays hU hle (fun _ => rfl) (hfr.agr (fun b o hf => hg.lt hU (t := s) (by simp at he; simp [he]) hf) fun _ _ _ h => h)
 ·simp only [Cx.withI] at hI
  by_cases hb : b = w.heap.size ∧ o < m
  ·rw [if_pos hb] at hI
   obtain ⟨rfl, ho⟩ := hb
   cases hI
   exact hc o ho
  ·rw [if_neg hb] at hI
   exact (hfr.cell b o (hg.immLt hI) (fun hf => hf)).trans (hg.imm b o v hI)
 ·have hlt := hg.lt hU (t := s) (by simpa using hs) hf
  simp only [Cx.withI]
  rw [if_neg (fun hb => by rw [hb.1] at hlt; exact Nat.lt_irrefl _ hlt)]
  exact hg.immApart s b o (by simpa using hs) hf
theorem Z6t (hU : U.Ok) {u : U.C} : ∀ (n : Nat) (l : List U.S) (xs : List (U.D u)) (vs : List Value), Z1q u n l = some xs → RL U c l vs →
  xs.length = n ∧ vs.length = n * U.size u ∧ ∀ i k, i < n → k < U.size u → ∃ v, vs[i * U.size u + k]? = some v ∧ R U c ((U.enc u (xs.getD i (U.dft u))).getD k .hole) v
 | 0, l, xs, vs, hd, hl => by
  unfold Z1q at hd
  cases l with
  | nil => simp at hd; subst hd; cases hl.unnil; exact ⟨rfl, by simp, fun i k hi => by omega⟩
  | cons x l => cases hd
 | n + 1, l, xs, vs, hd, hl => by
  unfold Z1q at hd
  split at hd
  ·rename_i x r hx hr
   cases hd
   have h1 := hU.dec_le u _ x hx c _ (hl.take (U.size u))
   obtain ⟨h2, h3, h4⟩ := Z6t hU n _ r _ hr (hl.drop (U.size u))
   have hlen1 : (vs.take (U.size u)).length = U.size u := by rw [h1.len, hU.enc_len]
   have hge : U.size u ≤ vs.length := by simp at hlen1; omega
   refine ⟨by simp [h2], ?_, fun i k hi hk => ?_⟩
   ·simp at h3; rw [Nat.succ_mul]; omega
   ·cases i with
    | zero =>
     have hlt : k < (U.enc u x).length := by rw [hU.enc_len]; exact hk
     obtain ⟨v, hv, hr⟩ := h1.at_ k _ (List.getElem?_eq_getElem hlt)
     rw [List.getElem?_take, if_pos hk] at hv
     refine ⟨v, by simpa using hv, ?_⟩
     simp only [List.getD_cons_zero]
     rw [getD_of_getElem? (List.getElem?_eq_getElem hlt)]
     exact hr
    | succ i =>
     obtain ⟨v, hv, hr⟩ := h4 i k (by omega) hk
     rw [List.getElem?_drop] at hv
     refine ⟨v, ?_, by simpa using hr⟩
     rw [Nat.succ_mul, show i * U.size u + U.size u + k = U.size u + (i * U.size u + k) by omega]
     exact hv
  ·cases hd
theorem Z6v (z : Array Value) (n : Nat) (hz : 0 < z.size) : ((Array.range (n * z.size)).map (z[· % z.size]!)).toList = (List.replicate n z.toList).flatten := by
 rw [Array.toList_map, Array.toList_range]
 induction n with
 | zero => simp
 | succ n ih =>
  rw [Nat.succ_mul, List.range_add, List.map_append, ih, List.replicate_succ', List.flatten_append]
  congr 1
  simp only [List.map_map, List.flatten_cons, List.flatten_nil, List.append_nil]
  apply List.ext_getElem?
  intro k
  by_cases hk : k < z.size
  ·rw [List.getElem?_map, List.getElem?_range hk]
   simp only [Option.map_some, Function.comp]
   rw [Nat.add_comm, Nat.add_mul_mod_self_right, Nat.mod_eq_of_lt hk]
   simp [hk]
  ·rw [List.getElem?_eq_none (by simp; omega), List.getElem?_eq_none (by simp; omega)]
theorem RL.replicate {l : List U.S} {vs : List Value} (hl : RL U c l vs) (n : Nat) : RL U c (List.replicate n l).flatten (List.replicate n vs).flatten := by
 induction n with
 | zero => exact .nil
 | succ n ih => rw [List.replicate_succ, List.replicate_succ, List.flatten_cons, List.flatten_cons]; exact hl.append ih
theorem Z1G (hU : U.Ok) {ρ : Operand → Option (A U)} {ev : Operand → Value} {t : TypeId} {n : Nat} {ps : Array (Nat × Operand)} {out : Out U}
  (ho : (ZO P t n (ps.toList.map fun p => (p.1, ρ p.2))).outs = some out) (hg : G U c Φ h w) (hρ : ∀ p ∈ ps.toList, ∀ v, ρ p.2 = some v → RA U c v (ev p.2)) :
  ∃ u w' c' Φ', (Instr.buildSlice t n (ps.map fun p => (p.1, ev p.2))).run P w = .ok u w' ∧ Step1 U c Φ h nx out w c' Φ' u w' := by
 unfold ZO at ho
 split at ho
 ·rename_i e hu
  split at ho
  ·rename_i u z parts hue hz hp
   split at ho
   ·rename_i m hm
    cases hb : Nat.beq m (U.size u) && Nat.ble 1 m && Nat.beq z.length m && Nat.ble (n * m) 16777216 with
    | false => simp [hb] at ho; exact (Z1 ho).elim
    | true =>
     simp only [hb, cond_true] at ho
     simp only [Bool.and_eq_true] at hb
     obtain ⟨⟨⟨e1, e2⟩, e3⟩, e4⟩ := hb
     have e1 := nbeq e1
     have e2 := Nat.le_of_ble_eq_true e2
     have e3 := nbeq e3
     have e4 := Nat.le_of_ble_eq_true e4
     split at ho
     ·rename_i l hl
      split at ho
      ·rename_i xs hxs
       have := Zq ho; subst this
       have hP := Z3G ps.toList parts hρ hp
       obtain ⟨zv, hzr, hzl⟩ := Z13 (c := c) hz
       have hzs : zv.cells.size = m := by have := hzl.len; simp at this; omega
       have hcells : RL U c (List.replicate n z).flatten ((Array.range (n * m)).map (zv.cells[· % zv.cells.size]!)).toList := by
        rw [show n * m = n * zv.cells.size by rw [hzs], Z6v zv.cells n (by omega)]
        exact hzl.replicate n
       obtain ⟨r, hr1, hr2⟩ := Z4L parts _ _ l ((Array.range (n * m)).map (zv.cells[· % zv.cells.size]!)) hl hP hcells
       obtain ⟨hx1, hx2, hx3⟩ := Z6t hU n l xs r.toList hxs hr2
       have hqs : (ps.map fun p => (p.1, ev p.2)).toList = ps.toList.map fun p => (p.1, ev p.2) := by simp
       obtain ⟨ie, hie, hiz⟩ : ∃ ie, P.info? e = some ie ∧ ie.zero = some zv := by
        unfold zeroCells at hz
        split at hz
        ·rename_i i hi
         split at hz
         ·rename_i z' hz'
          have := Z1f (P := P) hi hz' w
          rw [hzr w] at this
          cases this
          exact ⟨i, hi, hz'⟩
         ·cases hz
        ·cases hz
       have hies : ie.size = m := by unfold size? at hm; rw [hie] at hm; simpa using hm
       by_cases hn : n = 0
       ·subst hn
        refine ⟨.slice (some (at_ w.heap.size 0)) 0 0, w.alloc (.cells r e), c.withI w.heap.size 0 (fun _ => undef), Φ, ?_, Step1.imm hU hg (Fr.alloc _ _ _) (fun o ho => by omega) ?_⟩
        ·have hz0 : ∀ f : Nat → Value, (Array.range (0 * m)).map f = #[] := fun f => by rw [Nat.zero_mul]; apply Array.ext'; rw [Array.toList_map, Array.toList_range]; rfl
         rw [hz0] at hr1
         have hsz : (sizeOf e).run P w = .ok m w := Z7 hm w
         unfold Instr.buildSlice
         simp only [Sem.run_bind, run_underlying hu, Result.andThen_ok, hsz]
         rw [if_neg (by omega), if_pos (by omega)]
         simp only [Sem.run_pure, Result.andThen_ok, hz0, hqs, hr1]
         rfl
        ·have hx0 : xs = [] := by simpa using hx1
         subst hx0
         exact R.isl (b := w.heap.size) (o := 0) (fun _ _ => undef) (Nat.le_refl _) rfl (fun hh => by simp at hh) (fun i k hi => by simp at hi) (fun i k hi => by simp at hi)
       ·have hpos : ¬ n * ie.size = 0 := by rw [hies]; intro hh; rcases Nat.mul_eq_zero.1 hh with h' | h' <;> omega
        have hrun := run_buildSlice (P := P) w t e n (ps.map fun p => (p.1, ev p.2)) r ie zv hu hie hiz (by rw [hies]; omega) hpos (by rw [hqs, hies]; exact hr1)
        let g : Nat → Value := fun o => r.toList.getD o undef
        have hcell : ∀ o, o < n * m → (w.alloc (.cells r e)).cell? (at_ w.heap.size o) = some (g o) := fun o ho => by
         have hlt : o < r.toList.length := by rw [hx2, ← e1]; exact ho
         rw [World.cell?_alloc_new]
         simp only [g, List.getD, List.getElem?_eq_getElem hlt, Option.getD_some]
         simp
        refine ⟨_, _, c.withI w.heap.size (n * m) g, Φ, hrun, Step1.imm hU hg (Fr.alloc _ _ _) hcell ?_⟩
        have hle : c.Le (c.withI w.heap.size (n * m) g) := Cx.withI_le fun o => by
         cases hI : c.I w.heap.size o with
         | none => rfl
         | some v => exact absurd (hg.immLt hI) (Nat.lt_irrefl _)
        show R U _ (.isl .full u xs) (.slice (some (at_ w.heap.size 0)) n n)
        have hmain : R U (c.withI w.heap.size (n * m) g) (.isl .full u xs) (.slice (some (at_ w.heap.size 0)) xs.length n) := by
         refine R.isl (b := w.heap.size) (o := 0) (fun i k => g (i * U.size u + k)) (by omega) hx1.symm (fun _ => rfl) (fun i k hi hk => ?_) (fun i k hi hk => ?_)
         ·rw [hx1] at hi
          have hb : i * U.size u + k < n * m := by
           rw [e1]
           calc i * U.size u + k < i * U.size u + U.size u := by omega
            _ = (i + 1) * U.size u := by rw [Nat.succ_mul]
            _ ≤ n * U.size u := Nat.mul_le_mul_right _ (by omega)
          simp only [Cx.withI, Nat.zero_add, true_and]
          rw [if_pos hb]
         ·rw [hx1] at hi
          obtain ⟨v, hv, hr⟩ := hx3 i k hi hk
          have : g (i * U.size u + k) = v := by simp only [g]; rw [getD_of_getElem? hv]
          rw [this]
          exact hr.mono hle
        rwa [hx1] at hmain
      ·exact (Z1 ho).elim
     ·exact (Z1 ho).elim
   ·exact (Z1 ho).elim
  ·exact (Z1 ho).elim
 ·exact (Z1 ho).elim
end Go.Rf
namespace Go.Rf
set_option linter.unusedVariables false
set_option linter.unusedSimpArgs false
variable {U : Univ} {P : Program} {c : Cx} {Φ : Nat → Nat → Nat → Prop} {h : Heap U} {nx : Nat} {w : World}
def Cx.freeze (c : Cx) (w : World) (b o n : Nat) : Cx := { L := c.L, I := fun b' o' => if b' = b ∧ o ≤ o' ∧ o' < o + n then w.cell? (at_ b o') else c.I b' o' }
theorem Z8y (hU : U.Ok) {s : Nat} {cells : List U.S} {v : U.C} {x : U.D v} {rd : List Nat} (hg : G U c Φ h w) (hk : get h s = some (.obj cells)) (hall : cells.all Zf = true) (hx : U.dec v cells = some x) {b o : Nat} (hL : c.L s 0 = some (b, o)) :
  ∃ c' Φ', Step1 U c Φ h nx { v := Rf.sc (.optr v (some x)), rd := rd, w := [(s, .dead)] } w c' Φ' (.pointer (some (at_ b o))) w ∧ c'.L = c.L := by
 obtain ⟨b1, o1, h1, h2, h3, h4⟩ := (hg.ents s _ hk).objs
 rw [hL] at h1; cases h1
 rw [List.all_eq_true] at hall
 have hsome : (get h s).isSome := by rw [hk]; rfl
 have hcell : ∀ k, k < cells.length → ∃ u, w.cell? (at_ b (o + k)) = some u ∧ R U c (cells.getD k .hole) u ∧ Φ s b (o + k) := fun k hk' => by
  obtain ⟨⟨u, h6, h7⟩, _, h8⟩ := h3 k cells[k] (List.getElem?_eq_getElem hk') (hall _ (List.getElem_mem hk'))
  exact ⟨u, h6, by simpa [List.getD, hk'] using h7, h8⟩
 have hin : ∀ o', o ≤ o' → o' < o + cells.length → ∃ u, w.cell? (at_ b o') = some u ∧ Φ s b o' := fun o' ha hb => by
  obtain ⟨u, h6, _, h8⟩ := hcell (o' - o) (by omega)
  rw [show o + (o' - o) = o' by omega] at h6 h8
  exact ⟨u, h6, h8⟩
 have hle : c.Le (c.freeze w b o cells.length) := ⟨fun _ _ _ h => h, fun b' o' u hI => by
  show (if _ then _ else _) = _
  by_cases hc : b' = b ∧ o ≤ o' ∧ o' < o + cells.length
  ·obtain ⟨rfl, ha, hb⟩ := hc
   obtain ⟨_, _, h8⟩ := hin o' ha hb
   have := hg.immApart s _ _ hsome h8
   rw [this] at hI; cases hI
  ·rw [if_neg hc]; exact hI⟩
 obtain ⟨g, hgc⟩ : ∃ g : Nat → Value, ∀ k, k < cells.length → w.cell? (at_ b (o + k)) = some (g k) ∧ R U c (cells.getD k .hole) (g k) :=
  ⟨fun k => if hk : k < cells.length then (hcell k hk).choose else undef, fun k hk => by
   simp only [dif_pos hk]
   have h6 := (hcell k hk).choose_spec
   exact ⟨h6.1, h6.2.1⟩⟩
 have hRL : RL U c cells ((List.range cells.length).map g) := ⟨by simp, fun k y hk' => by
  have hlt := (List.getElem?_eq_some_iff.1 hk').1
  have h7 := (hgc k hlt).2
  rw [getD_of_getElem? hk'] at h7
  exact ⟨g k, by simp [hlt], h7⟩⟩
 have hRL' := hU.dec_le v cells x hx c _ hRL
 have hlen : U.size v = cells.length := by rw [← hU.enc_len v x, ← hRL'.len]; simp
 refine ⟨c.freeze w b o cells.length, fup Φ s (fun _ _ => False), ⟨hle, fun _ _ _ _ => rfl, ?_, ?_, .refl _ _, ?_, ?_, ?_, ?_⟩, rfl⟩
 ·refine R.osome g (fun k hk' => ?_) fun k hk' => ?_
  ·rw [hlen] at hk'
   show (if _ then _ else _) = _
   rw [if_pos ⟨rfl, by omega, by omega⟩, (hgc k hk').1]
  ·have hk2 : k < (U.enc v x).length := by rw [hU.enc_len]; exact hk'
   obtain ⟨u, h6, h7⟩ := hRL'.at_ k _ (List.getElem?_eq_getElem hk2)
   rw [hlen] at hk'
   have : u = g k := by simpa [hk'] using h6.symm
   subst this
   rw [getD_of_getElem? (List.getElem?_eq_getElem hk2)]
   exact h7.mono hle
 ·refine G.put hU hg hle (fun _ _ _ => rfl) (fun _ _ hf => hf) (fun _ _ _ => Agr.refl _ _) (fun _ _ _ _ _ _ hf => hf) (fun b' o' u hI => ?_) (fun t b' o' ht h1 hf => ?_) (fun _ _ hf => hf.elim)
  ·have hI : (if b' = b ∧ o ≤ o' ∧ o' < o + cells.length then w.cell? (at_ b o') else c.I b' o') = some u := hI
   split at hI
   ·rename_i hc; rw [hc.1]; exact hI
   ·exact hg.imm _ _ _ hI
  ·show (if _ then _ else _) = _
   split
   ·rename_i hc
    obtain ⟨rfl, ha, hb⟩ := hc
    obtain ⟨_, _, h8⟩ := hin o' ha hb
    exact absurd h8 (hg.apart t s _ _ ht h1 hsome hf)
   ·exact hg.immApart t _ _ h1 hf
 ·intro t ht
  have : t ≠ s := fun e => ht (by simp [e])
  simp [fup, this]
 ·intro t b' o' ht hf
  have : t = s := by simpa using ht
  subst this
  simp [fup] at hf
 ·intro t ht
  have : t = s := by simpa using ht
  subst this
  exact .inr hsome
 ·intro b' o' u hI
  have hI : (if b' = b ∧ o ≤ o' ∧ o' < o + cells.length then w.cell? (at_ b o') else c.I b' o') = some u := hI
  split at hI
  ·rename_i hc
   obtain ⟨rfl, ha, hb⟩ := hc
   obtain ⟨_, _, h8⟩ := hin o' ha hb
   exact .inr (.inr ⟨s, by simp, hsome, h8⟩)
  ·exact .inl hI
theorem Step1.after {c1 c' : Cx} {Φ1 Φ' : Nat → Nat → Nat → Prop} {w' : World} {v v1 : A U} {rd rd1 rd2 : List Nat} {p u : Value} {s : Nat} {e : Ent U} (h1 : Step1 U c Φ h nx { v := v1, rd := rd1, w := [(s, e)] } w c1 Φ1 p w)
  (h2 : Step1 U c1 Φ1 ((s, e) :: h) nx { v := v, rd := rd2 } w c' Φ' u w') : Step1 U c Φ h nx { v := v, rd := rd, w := [(s, e)] } w c' Φ' u w' where
 le := h1.le.trans h2.le
 L t i ht hf := (h2.L t i (fun hh => by simp at hh; omega) (fun hh => by simp at hh)).trans (h1.L t i (fun hh => by simp at hh; omega) hf)
 val := h2.val
 g := h2.g
 fr := h2.fr.mono fun b o _ ⟨t, ht, _⟩ => by simp at ht
 foot t ht := (h2.foot t (by simp)).trans (h1.foot t ht)
 footw t b o ht hf := h1.footw t b o ht (by rw [← h2.foot t (by simp)]; exact hf)
 names := h1.names
 inew b o v hI := by
  rcases h2.inew b o v hI with h3 | h3 | ⟨t, ht, _⟩
  ·exact h1.inew b o v h3
  ·exact .inr (.inl h3)
  ·simp at ht
theorem frz_ok {s : Nat} {r : OpR U} {out : Out U} (h : (r.frz s).outs = some out) : ∃ o, r.outs = some o ∧ out = { v := o.v, rd := [s], w := [(s, .dead)] } := by
 cases r with
 | ok o => cases h; exact ⟨o, rfl, rfl⟩
 | _ => cases h
theorem frzE_ok {s : Nat} {b : Bool} {e : Ent U} {r : OpR U} {out : Out U} (h : (r.frzE s b e).outs = some out) : ∃ o, r.outs = some o ∧ b = true ∧ out = { v := o.v, rd := [s], w := [(s, e)] } := by
 cases r with
 | ok o =>
  obtain ⟨hb, rfl⟩ := Zb (show (OpR.chk b { v := o.v, rd := [s], w := [(s, e)] }).outs = some out from h)
  exact ⟨o, rfl, hb, rfl⟩
 | _ => cases h
theorem Z89 (hU : U.Ok) {s n z : Nat} {v : U.C} {f : Nat → U.D v} {rd : List Nat} (hg : G U c Φ h w) (hk : get h s = some (.famz v n z f)) {b o : Nat} (hL : c.L s z = some (b, o)) :
  ∃ c' Φ', Step1 U c Φ h nx { v := Rf.sc (.optr v (some (f z))), rd := rd, w := [(s, .famz v n (z + 1) f)] } w c' Φ' (.pointer (some (at_ b o))) w := by
 obtain ⟨A, h0, h1, h2, h3, h4, h5, h6⟩ := hg.ents s _ hk
 have hzn := h1 _ _ hL
 have hA := h0 z hzn
 rw [hL] at hA
 simp only [Option.some.injEq] at hA
 have hsome : (get h s).isSome := by rw [hk]; rfl
 have hel := hU.enc_len v (f z)
 have hcell : ∀ k, k < U.size v → ∃ u, w.cell? (at_ b (o + k)) = some u ∧ R U c ((U.enc v (f z)).getD k .hole) u ∧ Φ s b (o + k) := fun k hk' => by
  have hlt : k < (U.enc v (f z)).length := by rw [hel]; exact hk'
  obtain ⟨u, p1, p2, _⟩ := h5 z k _ hzn (Nat.le_refl _) (List.getElem?_eq_getElem hlt)
  rw [← hA] at p1
  exact ⟨u, p1, by rw [getD_of_getElem? (List.getElem?_eq_getElem hlt)]; exact p2, (h6 _ _).2 ⟨z, k, hzn, Nat.le_refl _, hk', by rw [← hA], by rw [← hA]⟩⟩
 have hin : ∀ o', o ≤ o' → o' < o + U.size v → ∃ u, w.cell? (at_ b o') = some u ∧ Φ s b o' := fun o' ha hb => by
  obtain ⟨u, p1, _, p3⟩ := hcell (o' - o) (by omega)
  rw [show o + (o' - o) = o' by omega] at p1 p3
  exact ⟨u, p1, p3⟩
 have hle : c.Le (c.freeze w b o (U.size v)) := ⟨fun _ _ _ h => h, fun b' o' u hI => by
  show (if _ then _ else _) = _
  by_cases hc : b' = b ∧ o ≤ o' ∧ o' < o + U.size v
  ·obtain ⟨rfl, ha, hb⟩ := hc
   obtain ⟨_, _, h8⟩ := hin o' ha hb
   have := hg.immApart s _ _ hsome h8
   rw [this] at hI; cases hI
  ·rw [if_neg hc]; exact hI⟩
 let F' : Nat → Nat → Prop := fun b' o' => ∃ i k, i < n ∧ z + 1 ≤ i ∧ k < U.size v ∧ b' = (A i).1 ∧ o' = (A i).2 + k
 have hF' : ∀ b' o', F' b' o' → Φ s b' o' := fun b' o' ⟨i, k, p1, p2, p3, p4, p5⟩ => (h6 _ _).2 ⟨i, k, p1, by omega, p3, p4, p5⟩
 have hout : ∀ b' o', F' b' o' → ¬ (b' = b ∧ o ≤ o' ∧ o' < o + U.size v) := fun b' o' ⟨i, k, p1, p2, p3, p4, p5⟩ ⟨q1, q2, q3⟩ => by
  have e1 := h2 z hzn
  have e2 := h2 i p1
  rw [← hA] at e1
  simp only [Prod.mk.injEq] at e1
  rw [e2] at p5
  simp only at p5
  have : (z + 1) * U.size v ≤ i * U.size v := Nat.mul_le_mul_right _ p2
  rw [Nat.succ_mul] at this
  omega
 refine ⟨c.freeze w b o (U.size v), fup Φ s F', ⟨hle, fun _ _ _ _ => rfl, ?_, ?_, .refl _ _, ?_, ?_, ?_, ?_⟩⟩
 ·refine R.osome (fun k => if hk : k < U.size v then (hcell k hk).choose else undef) (fun k hk' => ?_) fun k hk' => ?_
  ·show (if _ then _ else _) = _
   rw [if_pos ⟨rfl, by omega, by omega⟩]
   simp only [dif_pos hk']
   exact (hcell k hk').choose_spec.1
  ·simp only [dif_pos hk']
   exact (hcell k hk').choose_spec.2.1.mono hle
 ·have hE : EntOK (c.freeze w b o (U.size v)) w s F' (.famz v n (z + 1) f : Ent U) := by
   refine ⟨A, h0, h1, h2, h3, fun i k x hi hz hx => ?_, fun i k x hi hz hx => ?_, fun _ _ => Iff.rfl⟩
   ·by_cases e : i = z
    ·subst e
     have hk' : k < U.size v := by rw [← hel]; exact (List.getElem?_eq_some_iff.1 hx).1
     obtain ⟨u, p1, p2, _⟩ := hcell k hk'
     rw [getD_of_getElem? hx] at p2
     refine ⟨u, ?_, p2.mono hle⟩
     rw [← hA]
     show (if _ then _ else _) = _
     rw [if_pos ⟨rfl, by simp only; omega, by simp only; omega⟩]
     exact p1
    ·obtain ⟨u, p1, p2⟩ := h4 i k x hi (by omega) hx
     exact ⟨u, hle.I _ _ _ p1, p2.mono hle⟩
   ·obtain ⟨u, p1, p2, p3⟩ := h5 i k x hi (by omega) hx
    exact ⟨u, p1, p2.mono hle, p3⟩
  refine G.put hU hg hle (fun _ _ _ => rfl) hE (fun _ _ _ => Agr.refl _ _) (fun t b' o' ht h1 hf hF => hg.apart t s b' o' ht h1 hsome hf (hF' _ _ hF)) (fun b' o' u hI => ?_) (fun t b' o' ht h1 hf => ?_) (fun b' o' hF => ?_)
  ·have hI : (if b' = b ∧ o ≤ o' ∧ o' < o + U.size v then w.cell? (at_ b o') else c.I b' o') = some u := hI
   split at hI
   ·rename_i hc; rw [hc.1]; exact hI
   ·exact hg.imm _ _ _ hI
  ·show (if _ then _ else _) = _
   split
   ·rename_i hc
    obtain ⟨rfl, ha, hb⟩ := hc
    obtain ⟨_, _, h8⟩ := hin o' ha hb
    exact absurd h8 (hg.apart t s _ _ ht h1 hsome hf)
   ·exact hg.immApart t _ _ h1 hf
  ·show (if _ then _ else _) = _
   rw [if_neg (hout _ _ hF)]
   exact hg.immApart s _ _ hsome (hF' _ _ hF)
 ·intro t ht
  have : t ≠ s := fun e => ht (by simp [e])
  simp [fup, this]
 ·intro t b' o' ht hf
  have : t = s := by simpa using ht
  subst this
  simp [fup] at hf
  exact .inr ⟨t, by simp, hsome, hF' _ _ hf⟩
 ·intro t ht
  have : t = s := by simpa using ht
  subst this
  exact .inr hsome
 ·intro b' o' u hI
  have hI : (if b' = b ∧ o ≤ o' ∧ o' < o + U.size v then w.cell? (at_ b o') else c.I b' o') = some u := hI
  split at hI
  ·rename_i hc
   obtain ⟨rfl, ha, hb⟩ := hc
   obtain ⟨_, _, h8⟩ := hin o' ha hb
   exact .inr (.inr ⟨s, by simp, hsome, h8⟩)
  ·exact .inl hI
theorem Z3r {t : TypeId} {n : Nat} {parts : List (Nat × Option (A U))} {out : Out U} (h : (ZO P t n parts).outs = some out) : out = { v := out.v } := by
 unfold ZO at h
 split at h
 ·split at h
  ·split at h
   ·simp only [Bool.cond_eq_ite] at h
    split at h
    ·split at h
     ·split at h
      ·cases h; rfl
      ·exact (Z1 h).elim
     ·exact (Z1 h).elim
    ·exact (Z1 h).elim
   ·exact (Z1 h).elim
  ·exact (Z1 h).elim
 ·exact (Z1 h).elim
theorem Z5Y (hU : U.Ok) {h' : Heap U} {ρ : Operand → Option (A U)} {ev : Operand → Value} {t : TypeId} {n : Nat} {ps : Array (Nat × Operand)} {out : Out U}
  (ho : (Z2o P t n (ps.toList.map fun p => (p.1, ρ p.2)) h').outs = some out) (hag : ∀ s, s ∈ out.rd ∨ s ∈ out.w.map (·.1) → get h s = get h' s) (hg : G U c Φ h w) (hρ : ∀ p ∈ ps.toList, ∀ v, ρ p.2 = some v → RA U c v (ev p.2)) :
  ∃ u w' c' Φ', (Instr.buildSlice t n (ps.map fun p => (p.1, ev p.2))).run P w = .ok u w' ∧ Step1 U c Φ h nx out w c' Φ' u w' := by
 unfold Z2o at ho
 split at ho
 ·rename_i i a hps
  split at ho
  ·rename_i a' s bz ez hfz
   obtain ⟨o, ho1, hbz, rfl⟩ := frzE_ok ho
   have hout := Z3r ho1
   obtain ⟨p, hp, hpi, hpa⟩ : ∃ p, ps = #[p] ∧ p.1 = i ∧ ρ p.2 = some a := by
    cases hl : ps.toList with
    | nil => rw [hl] at hps; cases hps
    | cons p r =>
     rw [hl] at hps
     cases r with
     | nil =>
      simp at hps
      exact ⟨p, by rw [← Array.toArray_toList (xs := ps), hl], hps.1, hps.2⟩
     | cons q r => simp at hps
   subst hp
   have hra := hρ p (by simp) a hpa
   unfold Z7M at hfz
   split at hfz
   ·split at hfz
    ·split at hfz
     ·rename_i v s1 i1 off hv
      split at hfz
      ·rename_i v' nn z f hk'
       split at hfz
       ·rename_i q _
        subst q
        cases hoff : Nat.beq off 0 with
        | false => rw [hoff] at hfz; cases hfz
        | true =>
         rw [hoff] at hfz
         simp only [cond_true, Option.some.injEq, Prod.mk.injEq] at hfz
         obtain ⟨rfl, rfl, rfl, rfl⟩ := hfz
         have hoff := nbeq hoff
         subst hoff
         have hiz := nbeq hbz
         subst hiz
         have hk : get h s1 = some (.famz v' nn i1 f) := by rw [hag s1 (.inl (by simp))]; exact hk'
         obtain ⟨b, o', hL, hpv⟩ : ∃ b o', c.L s1 i1 = some (b, o') ∧ ev p.2 = .pointer (some (at_ b (o' + 0))) := by
          have hra' : R U c (.ptr s1 i1 0) (ev p.2) := hra
          generalize hq : ev p.2 = pv at hra'
          cases hra' with | ptr h0 => exact ⟨_, _, h0, rfl⟩
         obtain ⟨c1, Φ1, hS⟩ := Z89 (nx := nx) (rd := []) hU hg hk hL
         obtain ⟨u, w', c', Φ', hrun, hS2⟩ := Z1G (P := P) (nx := nx) (ρ := fun _ => some (Rf.sc (.optr v' (some (f i1))))) (ev := ev) (t := t) (n := n) (ps := #[p]) (out := o) hU (by rw [← hpi] at ho1; exact ho1) hS.g (fun q hq y hy => by
          have : q = p := by simpa using hq
          subst this
          cases hy
          show R U c1 (.optr v' (some (f i1))) (ev q.2)
          rw [hpv]
          exact hS.val)
         rw [hout] at hS2
         exact ⟨u, w', c', Φ', hrun, hS.after hS2⟩
       ·cases hfz
      ·cases hfz
     ·cases hfz
    ·cases hfz
   ·cases hfz
  rename_i hz0
  clear hz0
  split at ho
  ·rename_i a' s hfz
   obtain ⟨o, ho1, rfl⟩ := frz_ok ho
   have hout := Z3r ho1
   obtain ⟨p, hp, hpi, hpa⟩ : ∃ p, ps = #[p] ∧ p.1 = i ∧ ρ p.2 = some a := by
    cases hl : ps.toList with
    | nil => rw [hl] at hps; cases hps
    | cons p r =>
     rw [hl] at hps
     cases r with
     | nil =>
      simp at hps
      exact ⟨p, by rw [← Array.toArray_toList (xs := ps), hl], hps.1, hps.2⟩
     | cons q r => simp at hps
   subst hp
   have hra := hρ p (by simp) a hpa
   unfold Z81 at hfz
   split at hfz
   ·split at hfz
    ·split at hfz
     ·rename_i v s1 hv
      split at hfz
      ·rename_i cells hk'
       cases hall : cells.all Zf with
       | false => simp [hall] at hfz
       | true =>
        simp only [hall, cond_true] at hfz
        split at hfz
        ·rename_i x hx
         simp only [Option.some.injEq, Prod.mk.injEq] at hfz
         obtain ⟨rfl, rfl⟩ := hfz
         have hk : get h s1 = some (.obj cells) := by rw [hag s1 (.inl (by simp))]; exact hk'
         obtain ⟨b, o', hL, hpv⟩ : ∃ b o', c.L s1 0 = some (b, o') ∧ ev p.2 = .pointer (some (at_ b (o' + 0))) := by
          have hra' : R U c (.ptr s1 0 0) (ev p.2) := hra
          generalize hq : ev p.2 = pv at hra'
          cases hra' with | ptr h0 => exact ⟨_, _, h0, rfl⟩
         obtain ⟨c1, Φ1, hS, _⟩ := Z8y (nx := nx) (rd := []) hU hg hk hall hx hL
         obtain ⟨u, w', c', Φ', hrun, hS2⟩ := Z1G (P := P) (nx := nx) (ρ := fun _ => some (Rf.sc (.optr v (some x)))) (ev := ev) (t := t) (n := n) (ps := #[p]) (out := o) hU (by rw [← hpi] at ho1; exact ho1) hS.g (fun q hq y hy => by
          have : q = p := by simpa using hq
          subst this
          cases hy
          show R U c1 (.optr v (some x)) (ev q.2)
          rw [hpv]
          exact hS.val)
         rw [hout] at hS2
         exact ⟨u, w', c', Φ', hrun, hS.after hS2⟩
        ·cases hfz
      ·cases hfz
     ·cases hfz
    ·cases hfz
   ·cases hfz
  ·exact Z1G hU ho hg hρ
 ·exact Z1G hU ho hg hρ
end Go.Rf
namespace Go.Rf
set_option linter.unusedVariables false
set_option linter.unusedSimpArgs false
variable {U : Univ} {P : Program} {c : Cx} {Φ : Nat → Nat → Nat → Prop} {h : Heap U} {nx : Nat} {w : World}
theorem Z8v {f : Nat → Value → Prop} {g : Nat → Nat → Value → Prop} {n sz : Nat} (h : ∀ i k, i < n → k < sz → ∃ v, f (i * sz + k) v ∧ g i k v) :
  ∃ vs : List Value, vs.length = n * sz ∧ (∀ (j : Nat) v, vs[j]? = some v → f j v) ∧ ∀ i k, i < n → k < sz → ∃ v, vs[i * sz + k]? = some v ∧ g i k v := by
 rcases Nat.eq_zero_or_pos sz with rfl | hsz
 ·exact ⟨[], by simp, fun j v hj => by simp at hj, fun i k _ hk => by omega⟩
 ·have hsel : ∀ j, j < n * sz → ∃ v, f j v ∧ g (j / sz) (j % sz) v := fun j hj => by
   obtain ⟨v, h1, h2⟩ := h (j / sz) (j % sz) ((Nat.div_lt_iff_lt_mul hsz).2 hj) (Nat.mod_lt j hsz)
   rw [Nat.div_add_mod' j sz] at h1
   exact ⟨v, h1, h2⟩
  let pick : Nat → Value := fun j => if hj : j < n * sz then (hsel j hj).choose else undef
  have hpick : ∀ j, j < n * sz → f j (pick j) ∧ g (j / sz) (j % sz) (pick j) := fun j hj => by
   simp only [pick, dif_pos hj]; exact (hsel j hj).choose_spec
  refine ⟨(List.range (n * sz)).map pick, by simp, fun j v hj => ?_, fun i k hi hk => ?_⟩
  ·rw [List.getElem?_map] at hj
   by_cases hlt : j < n * sz
   ·rw [List.getElem?_range hlt] at hj
    simp at hj; subst hj
    exact (hpick j hlt).1
   ·rw [List.getElem?_eq_none (by simp; omega)] at hj; simp at hj
  ·have hlt : i * sz + k < n * sz := by
    calc i * sz + k < i * sz + sz := by omega
     _ = (i + 1) * sz := by rw [Nat.succ_mul]
     _ ≤ n * sz := Nat.mul_le_mul_right _ (by omega)
   refine ⟨pick (i * sz + k), by rw [List.getElem?_map, List.getElem?_range hlt]; rfl, ?_⟩
   have := (hpick _ hlt).2
   have e1 : (i * sz + k) / sz = i := by rw [Nat.add_comm, Nat.add_mul_div_right _ _ hsz, Nat.div_eq_of_lt hk]; omega
   have e2 : (i * sz + k) % sz = k := by rw [Nat.add_comm, Nat.add_mul_mod_self_right, Nat.mod_eq_of_lt hk]
   rwa [e1, e2] at this
structure SlOK (U : Univ) (c : Cx) (t : Tok) (u : U.C) (xs : List (U.D u)) (p : Value) : Prop where
 ex : ∃ (a : Option Addr) (cap b o : Nat) (g : Nat → Nat → Value), p = .slice a xs.length cap ∧ xs.length ≤ cap ∧ TokOK c t a b o xs.length cap (U.size u) ∧ (0 < xs.length → a = some (at_ b o)) ∧
  (∀ i k, i < xs.length → k < U.size u → c.I b (o + (i * U.size u + k)) = some (g i k)) ∧
  (∀ i k, i < xs.length → k < U.size u → R U c ((U.enc u (xs.getD i (U.dft u))).getD k .hole) (g i k))
theorem Z7b {t : Tok} {u : U.C} {xs : List (U.D u)} {p : Value} (h : R U c (.isl t u xs) p) : SlOK U c t u xs p := by
 cases h with
 | @isl _ _ _ a cap b o g hc ht ha hi hr => exact ⟨a, cap, b, o, g, rfl, hc, ht, ha, hi, hr⟩
theorem Z1T {u : U.C} {x : U.S} {t : Tok} {xs : List (U.D u)} {p : Value} (h : Z2I u x = some (t, xs)) (hr : R U c x p) : SlOK U c t u xs p := by
 unfold Z2I at h
 split at h
 ·split at h
  ·rename_i e _
   subst e
   cases h
   exact Z7b hr
  ·cases h
 ·cases h
  cases R.valEq hr
  exact ⟨none, 0, 0, 0, fun _ _ => undef, rfl, Nat.le_refl _, rfl, fun hh => by simp at hh, fun i k hi => by simp at hi, fun i k hi => by simp at hi⟩
 ·cases h
def Z2v (U : Univ) (c : Cx) (w : World) (P : Program) (u : U.C) (ys : List (U.D u)) (q : Value) : Prop :=
 (Builtin.lenOf q).run P w = .ok ys.length w ∧ ∃ vs : List Value, vs.length = ys.length * U.size u ∧
  (Builtin.firstCells (U.size u) ys.length q).run P w = .ok vs.toArray w ∧ (∀ v ∈ vs, v.oneCell' = true) ∧
  ∀ i k, i < ys.length → k < U.size u → ∃ v, vs[i * U.size u + k]? = some v ∧ R U c ((U.enc u (ys.getD i (U.dft u))).getD k .hole) v
theorem Z7E {u : U.C} {ys : List (U.D u)} {vs : List Value} (h1 : vs.length = ys.length * U.size u)
    (h2 : ∀ i k, i < ys.length → k < U.size u → ∃ v, vs[i * U.size u + k]? = some v ∧ R U c ((U.enc u (ys.getD i (U.dft u))).getD k .hole) v) : ∀ v ∈ vs, v.oneCell' = true := by
  intro v hv
  obtain ⟨j, hj⟩ := List.getElem?_of_mem hv
  have hlt := (List.getElem?_eq_some_iff.1 hj).1
  rw [h1] at hlt
  have hsz : 0 < U.size u := by rcases Nat.eq_zero_or_pos (U.size u) with h | h; · rw [h] at hlt; simp at hlt
                                · exact h
  obtain ⟨v', h3, h4⟩ := h2 (j / U.size u) (j % U.size u) ((Nat.div_lt_iff_lt_mul hsz).2 hlt) (Nat.mod_lt j hsz)
  rw [Nat.div_add_mod', hj] at h3
  cases h3
  exact h4.one
theorem Z1S {u : U.C} {ys : List (U.D u)} {a : Option Addr} {cap b o : Nat} (ha : 0 < ys.length → a = some (at_ b o))
    (hc : ∀ i k, i < ys.length → k < U.size u → ∃ v, w.cell? (at_ b (o + (i * U.size u + k))) = some v ∧ R U c ((U.enc u (ys.getD i (U.dft u))).getD k .hole) v) :
    Z2v U c w P u ys (.slice a ys.length cap) := by
  refine ⟨rfl, ?_⟩
  obtain ⟨vs, h1, h2, h3⟩ := Z8v (f := fun j v => w.cell? (at_ b (o + j)) = some v) hc
  refine ⟨vs, h1, ?_, Z7E h1 h3, h3⟩
  cases a with
  | none =>
    have hz : ys.length = 0 := by rcases Nat.eq_zero_or_pos ys.length with h | h; · exact h
                                  · have := ha h; cases this
    have : vs = [] := List.eq_nil_of_length_eq_zero (by rw [h1, hz]; simp)
    subst this
    rfl
  | some x =>
    have hl : (loadCells x (ys.length * U.size u)).run P w = .ok vs.toArray w := by
      rw [← h1]
      refine run_loadCells_list (P := P) w x vs fun j v hj => ?_
      have hlt := (List.getElem?_eq_some_iff.1 hj).1
      have hpos : 0 < ys.length := by rcases Nat.eq_zero_or_pos ys.length with h | h; · rw [h1, h] at hlt; simp at hlt
                                      · exact h
      have := ha hpos
      cases this
      rw [Zs]
      exact h2 j v hj
    simpa [Builtin.firstCells] using hl
theorem SlOK.src (hg : G U c Φ h w) {t : Tok} {u : U.C} {xs : List (U.D u)} {p : Value} (hs : SlOK U c t u xs p) : Z2v U c w P u xs p := by
 obtain ⟨a, cap, b, o, g, rfl, hc, ht, ha, hi, hr⟩ := hs.ex
 exact Z1S ha fun i k h1 h2 => ⟨g i k, hg.imm _ _ _ (hi i k h1 h2), hr i k h1 h2⟩
theorem Z8C (hU : U.Ok) (hg : G U c Φ h w) {s off len i k b o : Nat} {cells : List U.S} {u : U.C} {f : Nat → U.D u} {x : U.S} (he : get h s = some (.obj cells)) (hc : cells[off]? = some (.aarr u len f)) (hL : c.L s 0 = some (b, o))
  (hi : i < len) (hk : (U.enc u (f i))[k]? = some x) (hx : Zf x = true) : ∃ v, w.cell? (at_ b (o + off + (i * U.size u + k))) = some v ∧ R U c x v := by
 obtain ⟨b', o', Gk, h0, h1, h2, h3⟩ := hg.ents s _ he
 rw [hL] at h0; cases h0
 cases h2.own off _ hc with
 | cell hr _ _ _ => cases hr
 | aarr Gn hk' hd hF =>
  have hku : k < U.size u := by
   have := (List.getElem?_eq_some_iff.1 hk).1
   rwa [hU.enc_len] at this
  exact ((hk' (i * U.size u + k) x (by rw [Z1a hU u len f hi hku]; exact hk)).plain hx).1
theorem Z2a (hU : U.Ok) {h' : Heap U} {u : U.C} {y : A U} {ys : List (U.D u)} {rd : List Nat} {q : Value} (he : elems u y h' = some (ys, rd)) (hag : ∀ s, s ∈ rd → get h s = get h' s)
  (hg : G U c Φ h w) (hy : RA U c y q) : Z2v U c w P u ys q := by
 unfold elems at he
 split at he
 ·split at he
  ·rename_i e _
   subst e
   cases he
   exact (Z7b (show R U c _ q from hy)).src hg
  ·cases he
 ·cases he
  cases R.valEq (show R U c _ q from hy)
  exact Z1S (ys := []) (a := none) (cap := 0) (b := 0) (o := 0) (fun hh => by simp at hh) fun i k hi => by simp at hi
 ·rename_i s
  split at he
  ·rename_i e _
   subst e
   cases he
   cases R.valEq (show R U c _ q from hy)
   obtain ⟨hlen, henc⟩ := hU.ofBytes s.data.toList
   have hs1 := hU.u8
   refine ⟨by rw [hlen]; rfl, s.data.toList.map fun b => .int .u8 b.toNat, by rw [hlen, hs1]; simp, ?_, fun v hv => ?_, fun i k hi hk => ?_⟩
   ·rw [hlen]
    simp only [Builtin.firstCells, Sem.run_pure]
    congr 1
    have : s.extract 0 s.data.toList.length = s := by rw [Array.length_toList]; exact ByteArray.extract_zero_size
    rw [this]
    apply Array.ext'
    simp
   ·simp at hv; obtain ⟨b, _, rfl⟩ := hv; rfl
   ·rw [hs1] at hk ⊢
    have hk0 : k = 0 := by omega
    subst hk0
    rw [hlen] at hi
    rw [henc i hi]
    refine ⟨.int .u8 ((s.data.toList.getD i 0).toNat : Int), ?_, .val (Z3O _)⟩
    simp only [Nat.mul_one, Nat.add_zero, List.getElem?_map, List.getElem?_eq_getElem hi, Option.map_some, List.getD, Option.getD_some]
  ·cases he
 ·rename_i s b n
  split at he
  ·rename_i v nn f hgs
   cases hpl : U.plain v with
   | false => rw [hpl] at he; cases he
   | true =>
   rw [hpl] at he
   simp only [cond_true] at he
   split at he
   ·rename_i e _
    subst e
    cases he
    have he' : get h s = some (.fam true v nn f) := by rw [hag s (by simp)]; exact hgs
    obtain ⟨A, hA, hA1, h2, hct⟩ := (hg.ents s _ he').fams
    cases (show R U c _ q from hy) with
    | @sl _ _ _ cap b' o' a' hc ha' hl' =>
     have hlen : ((List.range n).map fun j => f (b + j)).length = n := by simp
     have := Z1S (P := P) (c := c) (w := w) (u := v) (ys := (List.range n).map fun j => f (b + j)) (a := a') (cap := cap) (b := b') (o := o') (fun hh => (ha' (by rwa [hlen] at hh)).2) (fun i k hi hk => by
      rw [hlen] at hi
      obtain ⟨x, hx⟩ := hl' i hi
      have hin := hA1 _ _ hx
      obtain ⟨hL, _⟩ := ha' (by omega)
      have hb0 := hA1 _ _ hL
      have e4 := hct rfl b hb0
      have e5 := hct rfl (b + i) hin
      have e6 := hA b hb0
      rw [hL] at e6
      simp only [Option.some.injEq] at e6
      have hkl : k < (U.enc v (f (b + i))).length := by rw [hU.enc_len]; exact hk
      have hcl := hU.enc_cell v (f (b + i)) hpl
      rw [List.all_eq_true] at hcl
      obtain ⟨⟨v', hv', hr'⟩, _⟩ := h2 (b + i) k _ hin (List.getElem?_eq_getElem hkl) (hcl _ (List.getElem_mem hkl))
      rw [← getD_of_getElem? (d := S.hole) (List.getElem?_eq_getElem hkl)] at hr'
      refine ⟨v', ?_, ?_⟩
      ·rw [e5] at hv'
       rw [← e6] at e4
       simp only [Prod.mk.injEq] at e4
       rw [e4.1, e4.2]
       rw [Nat.add_mul] at hv'
       rwa [show (A 0).2 + b * U.size v + (i * U.size v + k) = (A 0).2 + (b * U.size v + i * U.size v) + k by omega]
      ·have : ((List.range n).map fun j => f (b + j)).getD i (U.dft v) = f (b + i) := by
        simp [List.getD, List.getElem?_map, List.getElem?_range hi]
       rw [this]; exact hr')
     rwa [hlen] at this
   ·cases he
  ·cases he
 ·rename_i s off m len b n
  split at he
  ·rename_i cells hgs
   split at he
   ·rename_i v len' f hc
    cases hpl : U.plain v && Nat.beq m (U.size v) && Nat.beq len len' with
    | false => rw [hpl] at he; cases he
    | true =>
     rw [hpl] at he
     simp only [cond_true] at he
     simp only [Bool.and_eq_true] at hpl
     obtain ⟨⟨p1, p2⟩, p3⟩ := hpl
     have p2 := nbeq p2
     have p3 := nbeq p3
     subst p2; subst p3
     split at he
     ·rename_i e _
      subst e
      cases he
      have he' : get h s = some (.obj cells) := by rw [hag s (by simp)]; exact hgs
      cases (show R U c _ q from hy) with
      | @asl _ _ _ _ _ _ cap b' o' a' hcp hbn hL ha' =>
       have hlen : ((List.range n).map fun j => f (b + j)).length = n := by simp
       have := Z1S (P := P) (c := c) (w := w) (u := v) (ys := (List.range n).map fun j => f (b + j)) (a := a') (cap := cap) (b := b') (o := o' + off + b * U.size v) (fun hh => ha' (by rwa [hlen] at hh)) (fun i k hi hk => by
        rw [hlen] at hi
        have hkl : k < (U.enc v (f (b + i))).length := by rw [hU.enc_len]; exact hk
        have hcell := hU.enc_cell v (f (b + i)) p1
        rw [List.all_eq_true] at hcell
        obtain ⟨u', q1, q2⟩ := Z8C hU hg he' hc hL (i := b + i) (by omega) (List.getElem?_eq_getElem hkl) (hcell _ (List.getElem_mem hkl))
        refine ⟨u', ?_, ?_⟩
        ·rw [Nat.add_mul] at q1
         rw [← q1]; congr 2; omega
        ·have q6 : ((List.range n).map fun j => f (b + j)).getD i (U.dft v) = f (b + i) := by simp [List.getD, List.getElem?_map, List.getElem?_range hi]
         rw [q6, getD_of_getElem? (List.getElem?_eq_getElem hkl)]
         exact q2)
       rw [hlen] at this
       exact this
     ·cases he
   ·cases he
  ·cases he
 ·cases he
end Go.Rf
namespace Go.Rf
set_option linter.unusedVariables false
set_option linter.unusedSimpArgs false
variable {U : Univ} {P : Program} {c : Cx} {Φ : Nat → Nat → Nat → Prop} {h : Heap U} {nx : Nat} {w : World}
theorem G.drew (hU : U.Ok) (hg : G U c Φ h w) : G U c Φ h w.drew where
 ents s e he := (hg.ents s e he).stays hU (.refl c) (fun _ => rfl) (Agr.drew _ _)
 apart := hg.apart
 imm := hg.imm
 immApart := hg.immApart
theorem EntOK.iff {c : Cx} {w : World} {s : Nat} {F F' : Nat → Nat → Prop} {e : Ent U} (h : EntOK c w s F e) (hf : ∀ b o, F b o ↔ F' b o) : EntOK c w s F' e := by
 have : F = F' := by funext b o; exact propext (hf b o)
 rwa [← this]
def ZN : TypeDesc → Bool
 | .slice _ => true
 | .string => true
 | _ => false
theorem Z42 {t t2 ty e : TypeId} {d2 : TypeDesc} {size n m cap : Nat} {base : Option Addr} {q : Value} {vs : List Value} {w' : World} (ht : P.underlying t = some (.slice e)) (ht2 : P.underlying t2 = some d2)
  (hd2 : ZN d2 = true) (hs : size? P e = some size) (hl : (Builtin.lenOf q).run P w = .ok m w) (hf : (Builtin.firstCells size m q).run P w = .ok vs.toArray w)
  (hroom : n + m ≤ cap) (hst : ∀ a, base = some a → (storeCells (a.add (n * size)) vs).run P w = .ok () w') (hn : base = none → w' = w) :
  (Builtin.append_ #[t, t2] ty #[.slice base n cap, q]).run P w = .ok (.slice base (n + m) cap) w' := by
 have hz : (do pure ((← underlying t2) matches .int _) : Sem Bool).run P w = .ok false w := by
  simp only [Sem.run_bind, run_underlying ht2, Result.andThen_ok, Sem.run_pure]
  cases d2 <;> first | rfl | (simp [ZN] at hd2; done)
 unfold Builtin.append_
 cases base with
 | none =>
  have := hn rfl
  subst this
  cases d2 <;> first | (simp [ZN] at hd2; done) | (simp [run_underlying ht, Z7 hs, run_underlying ht2, hl, hf, hroom]; done)
 | some a =>
  have hst' := hst a rfl
  cases d2 <;> first | (simp [ZN] at hd2; done) | (simp [run_underlying ht, Z7 hs, run_underlying ht2, hl, hf, hroom, hst']; done)
theorem Z3h {t t2 ty e : TypeId} {d2 : TypeDesc} {i : TypeInfo} {z : Value} {n m cap : Nat} {base : Option Addr} {q : Value} {vs olds : List Value} (ht : P.underlying t = some (.slice e)) (ht2 : P.underlying t2 = some d2)
  (hd2 : ZN d2 = true) (hi : P.info? e = some i) (hz : i.zero = some z) (hl : (Builtin.lenOf q).run P w = .ok m w) (hf : (Builtin.firstCells i.size m q).run P w.drew = .ok vs.toArray w.drew)
  (hfo : (Builtin.firstCells i.size n (.slice base n cap)).run P w.drew = .ok olds.toArray w.drew) (hg : cap < n + m) (hb : (n + m) * i.bytes ≤ 140737488355328) (h63 : n + m ≤ 9223372036854775807) :
  (Builtin.append_ #[t, t2] ty #[.slice base n cap, q]).run P w =
   .ok (.slice (some (at_ w.heap.size 0)) (n + m) (grownCap w (n + m) cap e))
    (w.drew.alloc (.cells (olds.toArray ++ vs.toArray ++ Builtin.zeroCells z.cells (grownCap w (n + m) cap e - (n + m))) e)) := by
 have hn : ¬ (n + m ≤ cap) := by omega
 have h48 := growslice_fits hg hb
 have h48' : ¬ (281474976710656 < Builtin.nextslicecap (n + m) cap * i.bytes) := by omega
 have h63' : ¬ (9223372036854775807 < ((n : Int) + (m : Int))) := by omega
 unfold Builtin.append_
 cases d2 <;> first
  | (simp [ZN] at hd2; done)
  | (simp [run_underlying ht, sizeOf, typeInfo, zeroValue, hi, hz, run_underlying ht2, hl, hn, h63', h48', Question.forced, hf, hfo, newRow, grownCap]; congr 2; apply Array.ext'; simp [List.append_assoc])
theorem Z2K {α : Type} {l r : List α} {i : Nat} {d : α} (h : i < l.length) : (l ++ r).getD i d = l.getD i d := by
 simp [List.getD, List.getElem?_append_left h]
theorem Z2q {α : Type} {l r : List α} {i : Nat} {d : α} (h : l.length ≤ i) : (l ++ r).getD i d = r.getD (i - l.length) d := by
 simp [List.getD, List.getElem?_append_right h]
def tokL (b o e : Nat) : Nat → Option (Nat × Nat) := fun i => if i = 0 then some (b, o) else if i = 1 then some (b, e) else none
theorem Step1.append (hU : U.Ok) {w' : World} {u : U.C} {xs ys : List (U.D u)} {v : Value} {rd : List Nat} {kk : List (Nat × Ent U)} {Φ0 : Nat → Nat → Nat → Prop} {I' : Nat → Nat → Option Value} {b o e : Nat}
  (hg : G U c Φ h w) (hg0 : G U c Φ0 (kk ++ h) w) (hs : ∀ i, c.L nx i = none) (hn : get (kk ++ h) nx = none)
  (hI : ∀ b o v, c.I b o = some v → I' b o = some v)
  (hw' : Fr (fun b o => ∃ s, s ∈ kk.map (·.1) ∧ (get h s).isSome ∧ Φ s b o) w w')
  (hkk : ∀ s, s ∈ kk.map (·.1) → (get h s).isSome)
  (hfoot : ∀ s, s ∉ kk.map (·.1) → Φ0 s = Φ s)
  (hfootk : ∀ s, s ∈ kk.map (·.1) → ∀ b o, ¬ Φ0 s b o)
  (hcells : ∀ x, o ≤ x → x < e → (∃ v, w'.cell? (at_ b x) = some v) ∧ w'.frozen? (at_ b x) = false)
  (howned : ∀ x, o ≤ x → x < e → w.heap.size ≤ b ∨ ∃ s, s ∈ kk.map (·.1) ∧ Φ s b x)
  (himm : ∀ b o v, I' b o = some v → w'.cell? (at_ b o) = some v)
  (hI1 : ∀ b' o' v, I' b' o' = some v → c.I b' o' = some v ∨ w.heap.size ≤ b' ∨ ∃ s, s ∈ kk.map (·.1) ∧ Φ s b' o')
  (hI2 : ∀ x, o ≤ x → x < e → I' b x = none)
  (hval : R U { L := (c.withL nx (tokL b o e)).L, I := I' } (.isl (.own nx) u (xs ++ ys)) v) :
  ∃ c' Φ', Step1 U c Φ h nx { v := Rf.sc (.isl (.own nx) u (xs ++ ys)), rd := rd, w := (nx, .tok) :: kk, nw := 1 } w c' Φ' v w' := by
 let c' : Cx := { L := (c.withL nx (tokL b o e)).L, I := I' }
 have hle : c.Le c' := ⟨(Cx.withL_le hs).L, hI⟩
 let F : Nat → Nat → Prop := fun b' x => b' = b ∧ o ≤ x ∧ x < e
 have hkh : ∀ t, (get (kk ++ h) t).isSome → t ∉ kk.map (·.1) → (get h t).isSome := fun t ht hk => by
  rw [Zd, Zc hk] at ht; exact ht
 have hold : ∀ t b' o', t ≠ nx → (get (kk ++ h) t).isSome → Φ0 t b' o' → t ∉ kk.map (·.1) ∧ (get h t).isSome ∧ Φ t b' o' ∧ b' < w.heap.size := fun t b' o' hts h1 hf => by
  have hk : t ∉ kk.map (·.1) := fun hk => hfootk t hk b' o' hf
  rw [hfoot t hk] at hf
  exact ⟨hk, hkh t h1 hk, hf, hg.lt hU (hkh t h1 hk) hf⟩
 have hapart : ∀ t b' o' s, t ∉ kk.map (·.1) → s ∈ kk.map (·.1) → (get h t).isSome → Φ t b' o' → Φ s b' o' → False := fun t b' o' s h1 h2 h3 h4 h5 =>
  hg.apart t s b' o' (fun e => h1 (e ▸ h2)) h3 (hkk s h2) h4 h5
 have hsame : ∀ t, t ≠ nx → (get (kk ++ h) t).isSome → Agr (Φ0 t) w w' := fun t hts h1 =>
  hw'.agr (fun b' o' hf => (hold t b' o' hts h1 hf).2.2.2) fun b' o' hf ⟨s, h6, _, h7⟩ => by
   obtain ⟨h2, h3, h4, _⟩ := hold t b' o' hts h1 hf
   exact hapart t b' o' s h2 h6 h3 h4 h7
 refine ⟨c', fup Φ0 nx F, hle, fun s i hsi => ?_, hval, ?_, hw'.mono ?_, fun s hsn => ?_, fun s b' o' hsn hf => ?_, fun s hsn => ?_, fun b' o' v hI' => ?_⟩
 ·have : s ≠ nx := fun e => hsi (by subst e; simp)
  simp [c', Cx.withL, this]
 ·have hx0 : c'.L nx 0 = some (b, o) := by simp [c', Cx.withL, tokL]
  have hx1 : c'.L nx 1 = some (b, e) := by simp [c', Cx.withL, tokL]
  refine hg0.put hU hle (fun t i ht => by simp [c', Cx.withL, ht]) ⟨b, o, e, hx0, hx1, fun x h1 h2 => ⟨(hcells x h1 h2).1, (hcells x h1 h2).2, rfl, h1, h2⟩, fun b' x hF => hF⟩ hsame
   (fun t b' o' hts h1 hf hF => ?_) himm (fun t b' o' hts h1 hf => ?_) (fun b' o' hF => ?_)
  ·obtain ⟨h2, h3, h4, h5⟩ := hold t b' o' hts h1 hf
   obtain ⟨rfl, h6, h7⟩ := hF
   rcases howned o' h6 h7 with h8 | ⟨s, h8, h9⟩
   ·exact absurd h5 (Nat.not_lt.2 h8)
   ·exact hapart t b' o' s h2 h8 h3 h4 h9
  ·obtain ⟨h2, h3, h4, h5⟩ := hold t b' o' hts h1 hf
   cases hI' : I' b' o' with
   | none => exact hI'
   | some v' =>
    exfalso
    rcases hI1 b' o' v' hI' with h6 | h6 | ⟨s, h6, h7⟩
    ·rw [hg.immApart t b' o' h3 h4] at h6; cases h6
    ·exact absurd h5 (Nat.not_lt.2 h6)
    ·exact hapart t b' o' s h2 h6 h3 h4 h7
  ·obtain ⟨rfl, h6, h7⟩ := hF
   exact hI2 o' h6 h7
 ·rintro b' o' _ ⟨s, h1, h2, h3⟩
  exact ⟨s, by simp; exact .inr (by simpa using h1), h2, h3⟩
 ·simp at hsn
  have h1 : s ≠ nx := hsn.1
  have h2 : s ∉ kk.map (·.1) := by simpa using hsn.2
  simp only [fup, if_neg h1]
  exact hfoot s h2
 ·by_cases h1 : s = nx
  ·subst h1
   simp only [fup, if_true] at hf
   obtain ⟨rfl, h2, h3⟩ := hf
   rcases howned o' h2 h3 with h4 | ⟨s', h4, h5⟩
   ·exact .inl h4
   ·exact .inr ⟨s', by simp; exact .inr (by simpa using h4), hkk s' h4, h5⟩
  ·simp only [fup, if_neg h1] at hf
   have h2 : s ∈ kk.map (·.1) := by simp at hsn; rcases hsn with h2 | h2; exact absurd h2 h1; simpa using h2
   exact absurd hf (hfootk s h2 b' o')
 ·simp at hsn
  rcases hsn with rfl | h1
  ·exact .inl (by simp)
  ·exact .inr (hkk s (by simpa using h1))
 ·rcases hI1 b' o' v hI' with h1 | h1 | ⟨s, h1, h2⟩
  ·exact .inl h1
  ·exact .inr (.inl h1)
  ·exact .inr (.inr ⟨s, by simp; exact .inr (by simpa using h1), hkk s h1, h2⟩)
end Go.Rf
namespace Go.Rf
set_option linter.unusedVariables false
set_option linter.unusedSimpArgs false
variable {U : Univ} {P : Program} {c : Cx} {Φ : Nat → Nat → Nat → Prop} {h : Heap U} {nx : Nat} {w : World}
structure Struck (U : Univ) (c : Cx) (Φ : Nat → Nat → Nat → Prop) (h : Heap U) (nx : Nat) (w : World) (kk : List (Nat × Ent U)) (Φ0 : Nat → Nat → Nat → Prop) : Prop where
 g : G U c Φ0 (kk ++ h) w
 n : get (kk ++ h) nx = none
 old : ∀ s, s ∈ kk.map (·.1) → (get h s).isSome
 foot : ∀ s, s ∉ kk.map (·.1) → Φ0 s = Φ s
 footk : ∀ s, s ∈ kk.map (·.1) → ∀ b o, ¬ Φ0 s b o
theorem Struck.none (hg : G U c Φ h w) (hn : get h nx = none) : Struck U c Φ h nx w [] Φ :=
 ⟨hg, hn, fun s hs => by simp at hs, fun _ _ => rfl, fun s hs => by simp at hs⟩
theorem Struck.one (hU : U.Ok) {k : Nat} (hg : G U c Φ h w) (hn : get h nx = Option.none) (hk : get h k = some .tok) : Struck U c Φ h nx w [(k, .dead)] (fup Φ k fun _ _ => False) where
 g := hg.put hU (.refl c) (fun _ _ _ => rfl) (fun _ _ h => h) (fun _ _ _ => Agr.refl _ _) (fun _ _ _ _ _ _ h => h) hg.imm (fun t b o _ h1 hf => hg.immApart t b o h1 hf) (fun _ _ h => h.elim)
 n := by
  show get ((k, .dead) :: h) nx = Option.none
  rw [Z5, if_neg (fun e => by rw [e, hn] at hk; cases hk)]; exact hn
 old s hs := by simp at hs; subst hs; simp [hk]
 foot s hs := by simp at hs; simp [fup, hs]
 footk s hs b o hf := by simp at hs; subst hs; (simp [fup] at hf)
structure Free (U : Univ) (c : Cx) (Φ : Nat → Nat → Nat → Prop) (w : World) (kk : List (Nat × Ent U)) (a : Option Addr) (b o n cap sz b' o' e : Nat) : Prop where
 at_ : 0 < cap → a = some (at_ b o) ∧ b' = b ∧ o' = o + n * sz ∧ o + cap * sz ≤ e
 cells : ∀ x, o' ≤ x → x < e → (∃ v, w.cell? (Rf.at_ b' x) = some v) ∧ w.frozen? (Rf.at_ b' x) = false ∧ ∃ s, s ∈ kk.map (·.1) ∧ Φ s b' x
theorem Z3C {n sz i : Nat} (hn : n ≤ i) : i * sz = n * sz + (i - n) * sz := by rw [← Nat.add_mul]; congr 1; omega
theorem grow_in (hU : U.Ok) {u : U.C} {xs ys : List (U.D u)} {kk : List (Nat × Ent U)} {Φ0 : Nat → Nat → Nat → Prop} {t t2 ty e : TypeId} {d2 : TypeDesc} {q : Value} {rd : List Nat} {a : Option Addr} {cap b o b' o' e' : Nat} {g : Nat → Nat → Value}
    (hg : G U c Φ h w) (hst : Struck U c Φ h nx w kk Φ0) (hs : ∀ i, c.L nx i = none)
    (ht : P.underlying t = some (.slice e)) (ht2 : P.underlying t2 = some d2) (hd2 : ZN d2 = true) (hsz : size? P e = some (U.size u))
    (hx : xs.length ≤ cap) (hfree : Free U c Φ w kk a b o xs.length cap (U.size u) b' o' e')
    (hi : ∀ i k, i < xs.length → k < U.size u → c.I b (o + (i * U.size u + k)) = some (g i k))
    (hr : ∀ i k, i < xs.length → k < U.size u → R U c ((U.enc u (xs.getD i (U.dft u))).getD k .hole) (g i k))
    (hq : Z2v U c w P u ys q) (hroom : xs.length + ys.length ≤ cap) :
    ∃ v w' c' Φ', (Builtin.append_ #[t, t2] ty #[.slice a xs.length cap, q]).run P w = .ok v w' ∧
      Step1 U c Φ h nx { v := Rf.sc (.isl (.own nx) u (xs ++ ys)), rd := rd, w := (nx, .tok) :: kk, nw := 1 } w c' Φ' v w' := by
  obtain ⟨hlen, vs, hvl, hfc, hone, hrows⟩ := hq
  have hcap0 : cap = 0 → vs = [] := fun h0 => List.eq_nil_of_length_eq_zero (by rw [hvl, show ys.length = 0 by omega]; simp)
  have hin : ∀ j, j < vs.length → o' ≤ o' + j ∧ o' + j < e' := fun j hj => by
    refine ⟨by omega, ?_⟩
    have hc : 0 < cap := by rcases Nat.eq_zero_or_pos cap with h0 | h0; · rw [hcap0 h0] at hj; simp at hj
                            · exact h0
    obtain ⟨_, _, h3, h4⟩ := hfree.at_ hc
    have : (xs.length + ys.length) * U.size u ≤ cap * U.size u := Nat.mul_le_mul_right _ hroom
    rw [Nat.add_mul] at this
    omega
  have hrun : (Builtin.append_ #[t, t2] ty #[.slice a xs.length cap, q]).run P w = .ok (.slice a (xs.length + ys.length) cap) (w.setCells b' o' vs) := by
    refine Z42 ht ht2 hd2 hsz hlen hfc hroom (fun x hx' => ?_) (fun hn => ?_)
    · rcases Nat.eq_zero_or_pos cap with h0 | h0
      · rw [hcap0 h0]; rfl
      · obtain ⟨h1, h2, h3, h4⟩ := hfree.at_ h0
        rw [hx'] at h1; cases h1
        rw [Zs, ← h3, ← h2]
        have := run_storeCells_cells (P := P) b' o' vs 0 w (fun j hj => by
            obtain ⟨v, hv⟩ := (hfree.cells (o' + j) (hin j hj).1 (hin j hj).2).1
            simp [hv]) (fun j hj => by
            have := (hfree.cells (o' + j) (hin j hj).1 (hin j hj).2).2.1
            simpa using this) hone
        simpa using this
    · rcases Nat.eq_zero_or_pos cap with h0 | h0
      · rw [hcap0 h0]; rfl
      · obtain ⟨h1, _⟩ := hfree.at_ h0; rw [hn] at h1; cases h1
  let I' : Nat → Nat → Option Value := fun bb x => if bb = b' ∧ o' ≤ x ∧ x < o' + vs.length then vs[x - o']? else c.I bb x
  have hfreeI : ∀ x, o' ≤ x → x < e' → c.I b' x = none := fun x h1 h2 => by
    obtain ⟨_, _, s, h3, h4⟩ := hfree.cells x h1 h2
    exact hg.immApart s b' x (hst.old s h3) h4
  have hI : ∀ bb x v, c.I bb x = some v → I' bb x = some v := fun bb x v hv => by
    simp only [I']
    split
    · rename_i hh
      obtain ⟨rfl, h1, h2⟩ := hh
      rw [hfreeI x h1 (by have := (hin (x - o') (by omega)).2; omega)] at hv; cases hv
    · exact hv
  have hIn : ∀ j v, vs[j]? = some v → I' b' (o' + j) = some v := fun j v hv => by
    have hlt := (List.getElem?_eq_some_iff.1 hv).1
    refine (if_pos ⟨rfl, by omega, by omega⟩).trans ?_
    rw [show o' + j - o' = j by omega]; exact hv
  have hle : c.Le { L := (c.withL nx (tokL b' (o' + vs.length) e')).L, I := I' } := ⟨(Cx.withL_le hs).L, hI⟩
  have hcellin : ∀ j, j < vs.length → (w.cell? (at_ b' (o' + j))).isSome = true := fun j hj => by
    obtain ⟨v, hv⟩ := (hfree.cells (o' + j) (hin j hj).1 (hin j hj).2).1
    simp [hv]
  have key := Step1.append hU (U := U) (w' := w.setCells b' o' vs) (u := u) (xs := xs) (ys := ys) (v := .slice a (xs.length + ys.length) cap) (rd := rd) (kk := kk) (Φ0 := Φ0) (I' := I') (b := b') (o := o' + vs.length) (e := e')
    hg hst.g hs hst.n hI
    (Fr.setCells fun j hj => by
      obtain ⟨_, _, s, h3, h4⟩ := hfree.cells (o' + j) (hin j hj).1 (hin j hj).2
      exact ⟨s, h3, hst.old s h3, h4⟩)
    hst.old hst.foot hst.footk
    (fun x h1 h2 => by
      obtain ⟨⟨v, hv⟩, hf, _⟩ := hfree.cells x (by omega) h2
      refine ⟨⟨v, ?_⟩, by rw [World.frozen?_setCells]; exact hf⟩
      rw [ZU (fun _ => .inr h1)]; exact hv)
    (fun x h1 h2 => by
      obtain ⟨_, _, s, h3, h4⟩ := hfree.cells x (by omega) h2
      exact .inr ⟨s, h3, h4⟩)
    (fun bb x v hv => by
      simp only [I'] at hv
      split at hv
      · rename_i hh
        obtain ⟨rfl, h1, h2⟩ := hh
        have := Z14 hcellin hv
        rwa [show o' + (x - o') = x by omega] at this
      · rename_i hh
        refine (ZU fun e => ?_).trans (hg.imm bb x v hv)
        subst e
        by_cases h1 : x < o'
        · exact .inl h1
        · by_cases h2 : o' + vs.length ≤ x
          · exact .inr h2
          · exact absurd ⟨rfl, by omega, by omega⟩ hh)
    (fun bb x v hv => by
      simp only [I'] at hv
      split at hv
      · rename_i hh
        obtain ⟨rfl, h1, h2⟩ := hh
        obtain ⟨_, _, s, h3, h4⟩ := hfree.cells x h1 (by have := (hin (x - o') (by omega)).2; omega)
        exact .inr (.inr ⟨s, h3, h4⟩)
      · exact .inl hv)
    (fun x h1 h2 => by
      simp only [I']
      rw [if_neg (by omega)]
      exact hfreeI x (by omega) h2)
    (by
      rw [← List.length_append]
      refine R.isl (b := b) (o := o) (fun i k => if i < xs.length then g i k else vs.getD ((i - xs.length) * U.size u + k) undef) (by simpa using hroom) ?_ (fun hpos => ?_) (fun i k h1 h2 => ?_) (fun i k h1 h2 => ?_)
      · refine ⟨b', o' + vs.length, e', by simp [Cx.withL, tokL], by simp [Cx.withL, tokL], fun hc => ?_⟩
        obtain ⟨h1, h2, h3, h4⟩ := hfree.at_ hc
        refine ⟨h1, h2, ?_, h4⟩
        rw [List.length_append, Nat.add_mul, hvl]; omega
      · simp only [List.length_append] at hpos
        exact (hfree.at_ (by omega)).1
      · simp only [List.length_append] at h1
        by_cases h3 : i < xs.length
        · simp only [if_pos h3]; exact hI _ _ _ (hi i k h3 h2)
        · simp only [if_neg h3]
          obtain ⟨_, h5, h6, _⟩ := hfree.at_ (by omega)
          obtain ⟨v, hv, _⟩ := hrows (i - xs.length) k (by omega) h2
          have := hIn _ v hv
          rw [getD_of_getElem? hv, ← this, h5, h6, Z3C (sz := U.size u) (Nat.le_of_not_lt h3)]
          congr 1; omega
      · simp only [List.length_append] at h1
        by_cases h3 : i < xs.length
        · simp only [if_pos h3]
          rw [Z2K h3]
          exact (hr i k h3 h2).mono hle
        · simp only [if_neg h3]
          obtain ⟨v, hv, hrv⟩ := hrows (i - xs.length) k (by omega) h2
          rw [Z2q (by omega), getD_of_getElem? hv]
          exact hrv.mono hle)
  obtain ⟨c', Φ', hS⟩ := key
  exact ⟨_, _, c', Φ', hrun, hS⟩
theorem Z9f (hU : U.Ok) {u : U.C} {xs ys : List (U.D u)} {kk : List (Nat × Ent U)} {Φ0 : Nat → Nat → Nat → Prop} {t t2 ty e : TypeId} {d2 : TypeDesc} {i : TypeInfo} {z : Value} {q : Value} {rd : List Nat} {a : Option Addr} {cap : Nat}
  (hg : G U c Φ h w) (hst : Struck U c Φ h nx w kk Φ0) (hs : ∀ i, c.L nx i = none)
  (ht : P.underlying t = some (.slice e)) (ht2 : P.underlying t2 = some d2) (hd2 : ZN d2 = true)
  (hi : P.info? e = some i) (hz : i.zero = some z) (hsz : i.size = U.size u) (hzs : z.cells.size = i.size) (hb1 : 1 ≤ i.bytes) (hs1 : 1 ≤ i.size) (hroom : (xs.length + ys.length) * i.bytes ≤ 140737488355328)
  (hp : Z2v U c w.drew P u xs (.slice a xs.length cap)) (hl : (Builtin.lenOf q).run P w = .ok ys.length w)
  (hq : Z2v U c w.drew P u ys q) (hcap : cap < xs.length + ys.length) :
  ∃ v w' c' Φ', (Builtin.append_ #[t, t2] ty #[.slice a xs.length cap, q]).run P w = .ok v w' ∧
   Step1 U c Φ h nx { v := Rf.sc (.isl (.own nx) u (xs ++ ys)), rd := rd, w := (nx, .tok) :: kk, nw := 1 } w c' Φ' v w' := by
 obtain ⟨_, os, hol, hoc, _, horows⟩ := hp
 obtain ⟨_, vs, hvl, hfc, _, hrows⟩ := hq
 have h63 : xs.length + ys.length ≤ 9223372036854775807 := by
  have : (xs.length + ys.length) * 1 ≤ (xs.length + ys.length) * i.bytes := Nat.mul_le_mul_left _ hb1
  omega
 have hrun := Z3h (P := P) (w := w) (t := t) (t2 := t2) (ty := ty) ht ht2 hd2 hi hz hl (by rw [hsz]; exact hfc) (by rw [hsz]; exact hoc) hcap (by omega) h63
 have hge := grownCap_ge w (xs.length + ys.length) cap e
 generalize hC : grownCap w (xs.length + ys.length) cap e = C at hrun hge
 generalize hN : w.heap.size = N at hrun
 have hlen : (os ++ vs).length = (xs.length + ys.length) * U.size u := by rw [List.length_append, hol, hvl, Nat.add_mul]
 let I' : Nat → Nat → Option Value := fun bb x => if bb = N ∧ x < (os ++ vs).length then (os ++ vs)[x]? else c.I bb x
 have hIN : ∀ x, c.I N x = none := fun x => by
  cases hI : c.I N x with
  | none => rfl
  | some v => exact absurd (hg.immLt hI) (by omega)
 have hI : ∀ bb x v, c.I bb x = some v → I' bb x = some v := fun bb x v hv => by
  simp only [I']
  split
  ·rename_i hh; rw [hh.1, hIN] at hv; cases hv
  ·exact hv
 have hIn : ∀ (j : Nat) v, (os ++ vs)[j]? = some v → I' N j = some v := fun j v hv => by
  have hlt := (List.getElem?_eq_some_iff.1 hv).1
  exact (if_pos ⟨rfl, hlt⟩).trans hv
 have hle : c.Le { L := (c.withL nx (tokL N (os ++ vs).length (C * U.size u))).L, I := I' } := ⟨(Cx.withL_le hs).L, hI⟩
 let arr : Array Value := os.toArray ++ vs.toArray ++ Builtin.zeroCells z.cells (C - (xs.length + ys.length))
 have hasz : arr.size = C * U.size u := by
  simp only [arr, Array.size_append, List.size_toArray, Builtin.zeroCells, Array.size_map, Array.size_range, hzs, hsz]
  rw [hol, hvl, ← Nat.add_mul, ← Nat.add_mul]
  congr 1; omega
 have harr : ∀ j v, (os ++ vs)[j]? = some v → arr[j]? = some v := fun j v hv => by
  have hlt := (List.getElem?_eq_some_iff.1 hv).1
  simp only [arr]
  rw [Array.getElem?_append_left (by simpa using hlt)]
  simpa using hv
 have hcell : ∀ x, (w.drew.alloc (.cells arr e)).cell? (at_ N x) = arr[x]? := fun x => by
  have := World.cell?_alloc_new w.drew arr e x
  rw [show w.drew.heap.size = N from hN] at this
  exact this
 have key := Step1.append hU (U := U) (w' := w.drew.alloc (.cells arr e)) (u := u) (xs := xs) (ys := ys) (v := .slice (some (at_ N 0)) (xs.length + ys.length) C) (rd := rd) (kk := kk) (Φ0 := Φ0) (I' := I') (b := N) (o := (os ++ vs).length) (e := C * U.size u)
  hg hst.g hs hst.n hI
  ((Fr.drew _ w).trans (Fr.alloc _ w.drew _) (fun b o hb hf => hf))
  hst.old hst.foot hst.footk
  (fun x h1 h2 => by
   refine ⟨⟨arr[x]'(by rw [hasz]; exact h2), ?_⟩, ?_⟩
   ·rw [hcell]; simp [hasz, h2]
   ·exact World.frozen?_alloc_at (w := w.drew) arr e N x hN.symm)
  (fun x h1 h2 => .inl (by omega))
  (fun bb x v hv => by
   simp only [I'] at hv
   split at hv
   ·rename_i hh
    obtain ⟨rfl, h1⟩ := hh
    rw [hcell]; exact harr _ _ hv
   ·have := Z16 w.drew (.cells arr e) (b := bb) (x := x) (hg.immLt hv)
    exact this.trans (hg.imm bb x v hv))
  (fun bb x v hv => by
   simp only [I'] at hv
   split at hv
   ·rename_i hh; exact .inr (.inl (by omega))
   ·exact .inl hv)
  (fun x h1 h2 => by
   simp only [I']
   rw [if_neg (by omega)]
   exact hIN x)
  (by
   rw [← List.length_append]
   refine R.isl (b := N) (o := 0) (fun i k => (os ++ vs).getD (i * U.size u + k) undef) (by simpa using hge) ?_ (fun hpos => rfl) (fun i k h1 h2 => ?_) (fun i k h1 h2 => ?_)
   ·refine ⟨N, (os ++ vs).length, C * U.size u, by simp [Cx.withL, tokL], by simp [Cx.withL, tokL], fun hc => ⟨rfl, rfl, ?_, by omega⟩⟩
    rw [hlen]; simp
   ·simp only [List.length_append] at h1
    rw [Nat.zero_add]
    by_cases h3 : i < xs.length
    ·obtain ⟨v, hv, _⟩ := horows i k h3 h2
     have hv' : (os ++ vs)[i * U.size u + k]? = some v := by rw [List.getElem?_append_left (List.getElem?_eq_some_iff.1 hv).1]; exact hv
     rw [getD_of_getElem? hv']; exact hIn _ _ hv'
    ·obtain ⟨v, hv, _⟩ := hrows (i - xs.length) k (by omega) h2
     have hv' : (os ++ vs)[i * U.size u + k]? = some v := by
      rw [Z3C (sz := U.size u) (Nat.le_of_not_lt h3), List.getElem?_append_right (by omega), hol]
      rw [show xs.length * U.size u + (i - xs.length) * U.size u + k - xs.length * U.size u = (i - xs.length) * U.size u + k by omega]; exact hv
     rw [getD_of_getElem? hv']; exact hIn _ _ hv'
   ·simp only [List.length_append] at h1
    by_cases h3 : i < xs.length
    ·obtain ⟨v, hv, hrv⟩ := horows i k h3 h2
     have hv' : (os ++ vs)[i * U.size u + k]? = some v := by rw [List.getElem?_append_left (List.getElem?_eq_some_iff.1 hv).1]; exact hv
     rw [getD_of_getElem? hv', Z2K h3]; exact hrv.mono hle
    ·obtain ⟨v, hv, hrv⟩ := hrows (i - xs.length) k (by omega) h2
     have hv' : (os ++ vs)[i * U.size u + k]? = some v := by
      rw [Z3C (sz := U.size u) (Nat.le_of_not_lt h3), List.getElem?_append_right (by omega), hol]
      rw [show xs.length * U.size u + (i - xs.length) * U.size u + k - xs.length * U.size u = (i - xs.length) * U.size u + k by omega]; exact hv
     rw [getD_of_getElem? hv', Z2q (by omega)]; exact hrv.mono hle)
 obtain ⟨c', Φ', hS⟩ := key
 exact ⟨_, _, c', Φ', hrun, hS⟩
end Go.Rf
namespace Go.Rf
set_option linter.unusedVariables false
set_option linter.unusedSimpArgs false
variable {U : Univ} {P : Program} {c : Cx} {Φ : Nat → Nat → Nat → Prop} {h : Heap U} {nx : Nat} {w : World}
theorem Z4W (hU : U.Ok) {h' : Heap U} {u : U.C} {xs ys : List (U.D u)} {kk : List (Nat × Ent U)} {Φ0 : Nat → Nat → Nat → Prop} {t t2 ty e : TypeId} {d2 : TypeDesc} {i : TypeInfo} {y : A U} {q : Value} {rd : List Nat} {a : Option Addr} {cap b o b' o' e' : Nat} {g : Nat → Nat → Value}
  (hg : G U c Φ h w) (hst : Struck U c Φ h nx w kk Φ0) (hs : ∀ i, c.L nx i = none)
  (ht : P.underlying t = some (.slice e)) (ht2 : P.underlying t2 = some d2) (hd2 : ZN d2 = true)
  (hi : P.info? e = some i) (hz : i.zero.any (fun z => Nat.beq z.cells.size i.size) = true) (hsz : i.size = U.size u) (hb1 : 1 ≤ i.bytes) (hs1 : 1 ≤ i.size) (hroom : room (xs.length + ys.length) i.bytes = true)
  (hx : xs.length ≤ cap) (hfree : Free U c Φ w kk a b o xs.length cap (U.size u) b' o' e') (ha : 0 < xs.length → a = some (at_ b o))
  (hgi : ∀ i k, i < xs.length → k < U.size u → c.I b (o + (i * U.size u + k)) = some (g i k))
  (hr : ∀ i k, i < xs.length → k < U.size u → R U c ((U.enc u (xs.getD i (U.dft u))).getD k .hole) (g i k))
  (he : elems u y h' = some (ys, rd)) (hag : ∀ s, s ∈ rd → get h s = get h' s) (hy : RA U c y q) :
  ∃ v w' c' Φ', (Builtin.append_ #[t, t2] ty #[.slice a xs.length cap, q]).run P w = .ok v w' ∧
   Step1 U c Φ h nx { v := Rf.sc (.isl (.own nx) u (xs ++ ys)), rd := rd, w := (nx, .tok) :: kk, nw := 1 } w c' Φ' v w' := by
 have hq := Z2a (P := P) hU he hag hg hy
 by_cases hc : xs.length + ys.length ≤ cap
 ·exact grow_in hU hg hst hs ht ht2 hd2 (by simp [size?, hi, hsz]) hx hfree hgi hr hq hc
 ·cases hzz : i.zero with
  | none => simp [hzz] at hz
  | some z =>
   rw [hzz] at hz
   have hzs : z.cells.size = i.size := nbeq (by simpa using hz)
   have hroom' : (xs.length + ys.length) * i.bytes ≤ 140737488355328 := Nat.le_of_ble_eq_true hroom
   exact Z9f hU hg hst hs ht ht2 hd2 hi hzz hsz hzs hb1 hs1 hroom' (Z1S ha fun i k h1 h2 => ⟨g i k, (hg.drew hU).imm _ _ _ (hgi i k h1 h2), hr i k h1 h2⟩) hq.1
    (Z2a hU he hag (hg.drew hU) hy) (by omega)
theorem Z8n (hU : U.Ok) {h' : Heap U} {t t2 ty : TypeId} {x y : A U} {out : Out U} {p q : Value} (ho : (Z1K P t t2 x y h' nx).outs = some out)
  (hag : ∀ s, s ∈ out.rd ∨ s ∈ out.w.map (·.1) → get h s = get h' s) (hg : G U c Φ h w) (hx : RA U c x p) (hy : RA U c y q)
  (hs : ∀ i, c.L nx i = none) (hn : get h nx = none) :
  ∃ v w' c' Φ', (Builtin.append_ #[t, t2] ty #[p, q]).run P w = .ok v w' ∧ Step1 U c Φ h nx out w c' Φ' v w' := by
 unfold Z1K at ho
 split at ho
 ·rename_i e ht hd
  split at ho
  ·rename_i u i cx hu hi hel
   cases hb : Nat.beq i.size (U.size u) && Nat.ble 1 i.size && Nat.ble 1 i.bytes && i.zero.any (fun z => Nat.beq z.cells.size i.size) with
   | false => simp [hb] at ho; exact (Z1 ho).elim
   | true =>
    simp only [hb, cond_true] at ho
    simp only [Bool.and_eq_true] at hb
    obtain ⟨⟨⟨e1, e2⟩, e3⟩, e4⟩ := hb
    have e1 := nbeq e1
    have e2 := Nat.le_of_ble_eq_true e2
    have e3 := Nat.le_of_ble_eq_true e3
    obtain ⟨d2, ht2, hd2⟩ : ∃ d2, P.underlying t2 = some d2 ∧ ZN d2 = true := by
     cases h2 : P.underlying t2 with
     | none => simp [h2] at hd
     | some d2 =>
      refine ⟨d2, rfl, ?_⟩
      rw [h2] at hd
      cases d2 <;> first | rfl | (cases hd; done)
    split at ho
    ·rename_i xs ys rd hxl hyl
     obtain ⟨hr, rfl⟩ := Zb ho
     obtain ⟨a, cap, b, o, g, rfl, hc, hT, ha, hgi, hrr⟩ := (Z1T hxl (show R U c cx p from hx)).ex
     have hT : cap = xs.length := hT
     refine Z4W hU hg (Struck.none hg hn) hs ht ht2 hd2 hi e4 e1 e3 e2 hr hc (b' := b) (o' := o + xs.length * U.size u) (e' := o + xs.length * U.size u) ⟨fun h0 => ⟨ha (by omega), rfl, rfl, by rw [hT]; exact Nat.le_refl _⟩, fun x h1 h2 => by omega⟩ ha hgi hrr hyl (fun s hs => hag s (.inl hs)) hy
    ·rename_i k xs ys rd hxl hyl
     split at ho
     ·rename_i hk'
      obtain ⟨hr, rfl⟩ := Zb ho
      obtain ⟨a, cap, b, o, g, rfl, hc, hT, ha, hgi, hrr⟩ := (Z1T hxl (show R U c cx p from hx)).ex
      have hk : get h k = some .tok := by rw [hag k (.inr (by simp))]; exact hk'
      obtain ⟨b1, o1, e1', hL0, hL1, hcap⟩ := hT
      obtain ⟨b2, o2, e2', hM0, hM1, hcell, _⟩ := hg.ents k _ hk
      rw [hL0] at hM0; cases hM0
      rw [hL1] at hM1; cases hM1
      refine Z4W hU hg (Struck.one hU hg hn hk) hs ht ht2 hd2 hi e4 e1 e3 e2 hr hc (b' := b1) (o' := o1) (e' := e1') ⟨hcap, fun x h1 h2 => ?_⟩ ha hgi hrr hyl (fun s hs => hag s (.inl hs)) hy
      obtain ⟨h3, h4, h5⟩ := hcell x h1 h2
      exact ⟨h3, h4, k, by simp, h5⟩
     ·exact (Z1 ho).elim
    ·exact (Z1 ho).elim
  ·exact (Z1 ho).elim
 ·exact (Z1 ho).elim
end Go.Rf
namespace Go.Rf
set_option linter.unusedVariables false
set_option linter.unusedSimpArgs false
variable {U : Univ} {P : Program} {c : Cx} {Φ : Nat → Nat → Nat → Prop} {h : Heap U} {nx : Nat} {w : World}
theorem Step1.fam (hU : U.Ok) {u : U.C} {n N : Nat} {f : Nat → U.D u} {vs : List Value} {w' : World} {rd : List Nat} {a : Option Addr} {cap : Nat} (hg : G U c Φ h w) (hs : ∀ i, c.L nx i = none) (hn : get h nx = none) (hfr : Fr (fun _ _ => False) w w') (hN : w.heap.size ≤ N)
  (hpl : U.plain u = true) (hlen : vs.length = n * U.size u) (hc : ∀ (j : Nat) v, vs[j]? = some v → w'.cell? (at_ N j) = some v) (hf : ∀ j, j < vs.length → w'.frozen? (at_ N j) = false)
  (hr : ∀ i k, i < n → k < U.size u → ∃ v, vs[i * U.size u + k]? = some v ∧ R U c ((U.enc u (f i)).getD k .hole) v) (hca : n ≤ cap) (ha : 0 < n → a = some (at_ N 0)) :
  ∃ c' Φ', Step1 U c Φ h nx { v := Rf.sc (.sl nx 0 n), rd := rd, w := [(nx, .fam true u n f)], nw := 1 } w c' Φ' (.slice a n cap) w' := by
 let c' := c.withL nx fun i => if i < n then some (N, i * U.size u) else none
 have hle : c.Le c' := Cx.withL_le hs
 have hL : ∀ i, i < n → c'.L nx i = some (N, i * U.size u) := fun i hi => by simp [c', Cx.withL, hi]
 have hL1 : ∀ i x, c'.L nx i = some x → i < n := fun i x hx => by
  simp only [c', Cx.withL, if_true] at hx
  by_cases hi : i < n
  ·exact hi
  ·simp [hi] at hx
 have hrow : ∀ i k, i < n → k < U.size u → i * U.size u + k < n * U.size u := fun i k hi hk => by
  have : (i + 1) * U.size u ≤ n * U.size u := Nat.mul_le_mul_right _ hi
  rw [Nat.succ_mul] at this; omega
 let F : Nat → Nat → Prop := fun b o => ∃ i k, i < n ∧ k < U.size u ∧ (b = N ∧ o = i * U.size u + k)
 have hFN : ∀ b o, F b o → b = N := fun b o ⟨i, k, _, _, h, _⟩ => h
 have hlt : ∀ t b o, (get h t).isSome → Φ t b o → b < w.heap.size := fun t b o ht hf => hg.lt hU ht hf
 have hE : EntOK c' w' nx F (.fam true u n f : Ent U) := by
  refine ⟨fun i => (N, i * U.size u), fun i k b o => b = N ∧ o = i * U.size u + k, hL, hL1, fun i hi => ⟨fun k x hx => ?_, fun j k b' o' hj hk hne h1 h2 => by omega⟩, fun i j k l b o hi hj hk hl hne h1 h2 => ?_, fun b o => Iff.rfl, fun _ i hi => by simp⟩
  ·have hk : k < U.size u := by rw [← hU.enc_len u (f i)]; exact (List.getElem?_eq_some_iff.1 hx).1
   obtain ⟨v, h1, h2⟩ := hr i k hi hk
   rw [getD_of_getElem? hx] at h2
   exact .cell (h2.mono hle) (hc _ v h1) (hf _ (by rw [hlen]; exact hrow i k hi hk)) fun _ _ => Iff.rfl
  ·have e : i * U.size u + k = j * U.size u + l := by omega
   rcases Nat.lt_or_gt_of_ne hne with h4 | h4
   ·have : (i + 1) * U.size u ≤ j * U.size u := Nat.mul_le_mul_right _ h4
    rw [Nat.succ_mul] at this; omega
   ·have : (j + 1) * U.size u ≤ i * U.size u := Nat.mul_le_mul_right _ h4
    rw [Nat.succ_mul] at this; omega
 refine ⟨c', fup Φ nx F, { le := hle, L := fun s i hsi _ => ?_, val := ?_, g := ?_, fr := hfr.mono fun _ _ _ h => h.elim, foot := fun s hsn => ?_, footw := fun s b o hsn hf => ?_, names := fun s hsn => ?_, inew := fun _ _ _ h => .inl h }⟩
 ·have : s ≠ nx := fun e => hsi (by subst e; simp)
  simp [c', Cx.withL, this]
 ·refine R.sl (b := N) (o := 0) hca (fun h0 => ⟨by rw [hL 0 h0]; simp, ha h0⟩) fun j hj => ⟨_, by rw [Nat.zero_add]; exact hL j hj⟩
 ·refine hg.put hU hle (fun t i ht => by simp [c', Cx.withL, ht]) hE (fun t _ h1 => hfr.agr (fun b o hf => hlt t b o h1 hf) (fun _ _ _ h => h))
   (fun t b o _ h1 hf hF => by have := hlt t b o h1 hf; rw [hFN b o hF] at this; omega)
   (fun b o v hv => (hfr.cell b o (Zh (hg.imm b o v hv)) (fun h => h)).trans (hg.imm b o v hv))
   (fun t b o _ h1 hf => hg.immApart t b o h1 hf)
   (fun b o hF => ?_)
  cases hI : c.I b o with
  | none => exact hI
  | some v =>
   have := Zh (hg.imm b o v hI)
   rw [hFN b o hF] at this
   omega
 ·simp at hsn; simp [fup, hsn]
 ·simp at hsn; subst hsn
  simp [fup] at hf
  exact .inl (by rw [hFN b o hf]; exact hN)
 ·simp at hsn; subst hsn; exact .inl (by simp)
theorem Z7d (hU : U.Ok) {h' : Heap U} {t t2 ty : TypeId} {x y : A U} {r : OpR U} {out : Out U} {p q : Value} (hro : Z1z P t t2 x y h' nx = some r) (ho : r.outs = some out)
  (hag : ∀ s, s ∈ out.rd ∨ s ∈ out.w.map (·.1) → get h s = get h' s) (hg : G U c Φ h w) (hx : RA U c x p) (hy : RA U c y q)
  (hs : ∀ i, c.L nx i = none) (hn : get h nx = none) :
  ∃ v w' c' Φ', (Builtin.append_ #[t, t2] ty #[p, q]).run P w = .ok v w' ∧ Step1 U c Φ h nx out w c' Φ' v w' := by
 unfold Z1z at hro
 split at hro
 ·rename_i e e2 cx tk v zs ht ht2
  split at hro
  ·rename_i u i hu hi
   cases hb : Nat.beq i.size (U.size u) && Nat.ble 1 i.size && Nat.ble 1 i.bytes && i.zero.any (fun z => Nat.beq z.cells.size i.size) && U.plain u with
   | false => rw [hb] at hro; cases hro
   | true =>
    rw [hb] at hro
    simp only [cond_true] at hro
    simp only [Bool.and_eq_true] at hb
    obtain ⟨⟨⟨⟨e1, e2'⟩, e3⟩, e4⟩, e5⟩ := hb
    have e1 := nbeq e1
    have e2' := Nat.le_of_ble_eq_true e2'
    have e3 := Nat.le_of_ble_eq_true e3
    split at hro
    ·rename_i ys rd hxl hyl
     cases hro
     obtain ⟨hr, rfl⟩ := Zb ho
     obtain ⟨a, cap, b, o, g, rfl, hc, hT, ha, hgi, hrr⟩ := (Z1T hxl (show R U c cx p from hx)).ex
     have hT : cap = 0 := hT
     subst hT
     have hq := Z2a (P := P) hU hyl (fun s hs => hag s (.inl hs)) hg hy
     have hq2 := Z2a (P := P) hU hyl (fun s hs => hag s (.inl hs)) (hg.drew hU) hy
     obtain ⟨hl, vs0, hvl0, hfc0, hone0, hrows0⟩ := hq
     obtain ⟨_, vs, hvl, hfc, hone, hrows⟩ := hq2
     have hd2 : ZN (.slice e2) = true := rfl
     by_cases h0 : ys.length = 0
     ·have hvs : vs0 = [] := List.eq_nil_of_length_eq_zero (by rw [hvl0, h0]; simp)
      subst hvs
      have hrun := Z42 (P := P) (w := w) (w' := w) (t := t) (t2 := t2) (ty := ty) (n := 0) (m := ys.length) (cap := 0) (base := a) ht ht2 hd2 (by simp [size?, hi, e1]) hl hfc0 (by omega) (fun x _ => by simp [storeCells]) (fun _ => rfl)
      obtain ⟨c', Φ', hS⟩ := Step1.fam (nx := nx) (rd := rd) (f := fun j => ys.getD j (U.dft u)) (n := ys.length) (vs := []) (a := a) (cap := 0) (N := w.heap.size) hU hg hs hn (Fr.refl _ w) (Nat.le_refl _) e5 (by rw [h0]; simp) (fun j v hv => by simp at hv) (fun j hj => by simp at hj) (fun i k hi => by omega) (by omega) (fun h => by omega)
      exact ⟨_, _, c', Φ', by have := hrun; simp only [Nat.zero_add] at this; exact this, hS⟩
     ·cases hzz : i.zero with
      | none => simp [hzz] at e4
      | some z =>
       rw [hzz] at e4
       have hzs : z.cells.size = i.size := nbeq (by simpa using e4)
       have hroom' : ys.length * i.bytes ≤ 140737488355328 := Nat.le_of_ble_eq_true hr
       have h63 : ys.length ≤ 9223372036854775807 := by
        have : ys.length * 1 ≤ ys.length * i.bytes := Nat.mul_le_mul_left _ e3
        omega
       have hfo : (Builtin.firstCells i.size 0 (.slice a 0 0)).run P w.drew = .ok ([] : List Value).toArray w.drew := by
        obtain ⟨_, os, hol, hoc, _, _⟩ := (Z1S (P := P) (c := c) (w := w.drew) (u := u) (ys := []) (a := a) (cap := 0) (b := b) (o := o) (fun hh => by simp at hh) (fun i k hi => by simp at hi) : Z2v U c w.drew P u [] (.slice a 0 0))
        have : os = [] := List.eq_nil_of_length_eq_zero (by rw [hol]; simp)
        subst this
        rw [e1]; exact hoc
       have hrun := Z3h (P := P) (w := w) (t := t) (t2 := t2) (ty := ty) (n := 0) (m := ys.length) (cap := 0) (base := a) (olds := []) ht ht2 hd2 hi hzz hl (by rw [e1]; exact hfc) hfo (by omega) (by simpa using hroom') (by simpa using h63)
       generalize hA : ([] : List Value).toArray ++ vs.toArray ++ Builtin.zeroCells z.cells (grownCap w (0 + ys.length) 0 e - (0 + ys.length)) = arr at hrun
       have hge := grownCap_ge w (0 + ys.length) 0 e
       have harr : ∀ (j : Nat) v, vs[j]? = some v → arr[j]? = some v := fun j v hv => by
        have hlt := (List.getElem?_eq_some_iff.1 hv).1
        rw [← hA, Array.getElem?_append_left (by simpa using hlt)]
        simpa using hv
       have hcell : ∀ x, (w.drew.alloc (.cells arr e)).cell? (at_ w.heap.size x) = arr[x]? := fun x => World.cell?_alloc_new w.drew arr e x
       obtain ⟨c', Φ', hS⟩ := Step1.fam (nx := nx) (rd := rd) (f := fun j => ys.getD j (U.dft u)) (n := ys.length) (vs := vs) (a := some (at_ w.heap.size 0)) (cap := grownCap w (0 + ys.length) 0 e) (N := w.heap.size) hU hg hs hn
        ((Fr.drew _ w).trans (Fr.alloc _ w.drew _) (fun b o hb hf => hf)) (Nat.le_refl _) e5 hvl (fun j v hv => by rw [hcell]; exact harr j v hv) (fun j hj => World.frozen?_alloc_at (w := w.drew) arr e w.heap.size j rfl) hrows (by omega) (fun _ => rfl)
       exact ⟨_, _, c', Φ', by have := hrun; simp only [Nat.zero_add] at this hS ⊢; exact this, by simpa using hS⟩
    ·cases hro
  ·cases hro
 ·cases hro
theorem Z8K {h' : Heap U} {t t2 : TypeId} {x y : A U} {out : Out U} (ho : (Z1K P t t2 x y h' nx).outs = some out) : out.nw = 1 := by
 unfold Z1K at ho
 split at ho
 ·split at ho
  ·cases hb : (Nat.beq _ _ && _ && _ && _ : Bool) with
   | false => rw [hb] at ho; exact (Z1 ho).elim
   | true =>
    rw [hb] at ho
    simp only [cond_true] at ho
    split at ho
    ·obtain ⟨_, rfl⟩ := Zb ho; rfl
    ·split at ho
     ·obtain ⟨_, rfl⟩ := Zb ho; rfl
     ·exact (Z1 ho).elim
    ·exact (Z1 ho).elim
  ·exact (Z1 ho).elim
 ·exact (Z1 ho).elim
theorem Z6K {h' : Heap U} {t t2 : TypeId} {x y : A U} {r : OpR U} {out : Out U} (hro : Z1z P t t2 x y h' nx = some r) (ho : r.outs = some out) : out.nw = 1 := by
 unfold Z1z at hro
 split at hro
 ·split at hro
  ·cases hb : (Nat.beq _ _ && _ && _ && _ && _ : Bool) with
   | false => rw [hb] at hro; cases hro
   | true =>
    rw [hb] at hro
    simp only [cond_true] at hro
    split at hro
    ·cases hro
     obtain ⟨_, rfl⟩ := Zb ho; rfl
    ·cases hro
  ·cases hro
 ·cases hro
theorem Z8c (hU : U.Ok) {h' : Heap U} {row : Bool} {t t2 ty : TypeId} {x y : A U} {out : Out U} {p q : Value} (ho : (Z4m P row t t2 x y h' nx).outs = some out)
  (hag : ∀ s, s ∈ out.rd ∨ s ∈ out.w.map (·.1) → get h s = get h' s) (hg : G U c Φ h w) (hx : RA U c x p) (hy : RA U c y q)
  (hf : 0 < out.nw → get h nx = none ∧ ∀ i, c.L nx i = none) :
  ∃ v w' c' Φ', (Builtin.append_ #[t, t2] ty #[p, q]).run P w = .ok v w' ∧ Step1 U c Φ h nx out w c' Φ' v w' := by
 have plain : (Z1K P t t2 x y h' nx).outs = some out → ∃ v w' c' Φ', (Builtin.append_ #[t, t2] ty #[p, q]).run P w = .ok v w' ∧ Step1 U c Φ h nx out w c' Φ' v w' := fun ho => by
  obtain ⟨hn, hs⟩ := hf (by rw [Z8K ho]; decide)
  exact Z8n (ty := ty) hU ho hag hg hx hy hs hn
 unfold Z4m at ho
 cases row with
 | false => exact plain ho
 | true =>
  simp only [cond_true] at ho
  split at ho
  ·rename_i r hr
   obtain ⟨hn, hs⟩ := hf (by rw [Z6K hr ho]; decide)
   exact Z7d (ty := ty) hU hr ho hag hg hx hy hs hn
  ·exact plain ho
end Go.Rf
namespace Go.Rf
set_option linter.unusedVariables false
set_option linter.unusedSimpArgs false
variable {U : Univ} {P : Program} {c : Cx} {Φ : Nat → Nat → Nat → Prop} {h : Heap U} {nx : Nat} {w : World}
theorem Z5o (hU : U.Ok) {h' : Heap U} {src dst : TypeId} {x : A U} {out : Out U} {p : Value} (ho : (Z32 P src dst x h').outs = some out)
    (hag : ∀ s, s ∈ out.rd → get h s = get h' s) (hg : G U c Φ h w) (hx : RA U c x p) :
    ∃ v w' c' Φ', (convert src dst p).run P w = .ok v w' ∧ Step1 U c Φ h nx out w c' Φ' v w' := by
  unfold Z32 at ho
  split at ho
  · rename_i s
    cases R.valEq (show R U c _ p from hx)
    split at ho
    · rename_i hs hd
      have := Zq ho; subst this
      exact ⟨_, w, c, Φ, by simp [convert, run_underlying hs, run_underlying hd], Step1.pure hg (.val rfl)⟩
    · rename_i e hs hd
      split at ho
      · rename_i he
        have := Zq ho; subst this
        obtain ⟨hlen, henc⟩ := hU.ofBytes s.data.toList
        have hs1 := hU.u8
        have hrun := run_bytes_of_string (P := P) w src dst e s hs hd he
        have hge := grownCap_ge w s.size 0 e
        have hsl : (U.ofBytes s.data.toList).length = s.size := by rw [hlen]; rfl
        refine ⟨_, _, c.withI w.heap.size s.size (fun o => .int .u8 ((s.data.toList.getD o 0).toNat : Int)), Φ, hrun, Step1.imm hU hg ((Fr.drew _ w).trans (Fr.alloc _ w.drew _) fun _ _ _ h => h) (fun o ho => ?_) ?_⟩
        · have h1 := World.cell?_alloc_mark w.drew (bytesRow s (grownCap w s.size 0 e)) e ((bytesRow s (grownCap w s.size 0 e)).size, (bytesRow s (grownCap w s.size 0 e)).size + 1) o
          have h2 := bytesRow_at s (grownCap w s.size 0 e) o ho
          rw [h2] at h1
          refine h1.trans ?_
          have : s.data.toList.getD o 0 = s.data[o] := by
            rw [getD_of_getElem? (x := s.data[o])]
            rw [Array.getElem?_toList]; exact Array.getElem?_eq_getElem ho
          rw [this]
        · have hmain : R U (c.withI w.heap.size s.size (fun o => .int .u8 ((s.data.toList.getD o 0).toNat : Int))) (.isl .none U.u8 (U.ofBytes s.data.toList)) (.slice (some (at_ w.heap.size 0)) (U.ofBytes s.data.toList).length (grownCap w s.size 0 e)) := by
            refine R.isl (b := w.heap.size) (o := 0) (fun i k => .int .u8 ((s.data.toList.getD i 0).toNat : Int)) (by rw [hsl]; exact hge) trivial (fun _ => rfl) (fun i k hi hk => ?_) (fun i k hi hk => ?_)
            · rw [hs1] at hk ⊢
              rw [hsl] at hi
              have : k = 0 := by omega
              subst this
              simp only [Cx.withI, Nat.zero_add, Nat.mul_one, Nat.add_zero]
              rw [if_pos ⟨trivial, hi⟩]
            · rw [hs1] at hk
              have : k = 0 := by omega
              subst this
              rw [hlen] at hi
              rw [henc i hi]
              exact .val (Z3O _)
          rw [hsl] at hmain
          exact hmain
      · exact (Z1 ho).elim
    · exact (Z1 ho).elim
  · rename_i tk u xs
    split at ho
    · rename_i e hs hd
      split at ho
      · rename_i bs he hb
        have := Zq ho; subst this
        obtain ⟨h1, h2, h3⟩ := hU.toBytes u xs bs hb
        cases (show R U c _ p from hx) with
        | @isl _ _ _ a cap b o g hc ht ha hi hr =>
          refine ⟨.string ⟨bs.toArray⟩, w, c, Φ, ?_, Step1.pure hg (.val rfl)⟩
          rw [← h2]
          cases a with
          | none =>
            have h0 : xs.length = 0 := by rcases Nat.eq_zero_or_pos xs.length with h | h; · exact h
                                          · have := ha h; cases this
            have : bs = [] := List.eq_nil_of_length_eq_zero (by omega)
            subst this
            rw [run_convert_bytes_string w src dst e none _ cap hs he hd]
            rfl
          | some x =>
            refine run_convert_bytes_back w src dst e x cap bs hs he hd fun j hj => ?_
            have := ha (by omega)
            cases this
            have h4 := hi j 0 (by omega) (by omega)
            have h5 := hr j 0 (by omega) (by omega)
            rw [h3 j (by omega)] at h5
            have h6 := hg.imm _ _ _ h4
            rw [h1, Nat.mul_one, Nat.add_zero] at h6
            rw [Zs, h6, R.valEq (show R U c (.val _) _ from h5)]
            rw [getD_of_getElem? (List.getElem?_eq_getElem hj)]
      · exact (Z1 ho).elim
    · exact (Z1 ho).elim
  · rename_i s b n
    split at ho
    · rename_i e hs hd
      split at ho
      · rename_i ys rd he hel
        split at ho
        · rename_i bs hb
          have := Zq ho; subst this
          obtain ⟨h1, h2, h3⟩ := hU.toBytes U.u8 ys bs hb
          unfold elems at hel
          simp only [] at hel
          split at hel
          · rename_i v nn f hgs
            cases hpl : U.plain v with
            | false => rw [hpl] at hel; cases hel
            | true =>
            rw [hpl] at hel
            simp only [cond_true] at hel
            split at hel
            · rename_i e' _
              subst e'
              cases hel
              have he' : get h s = some (.fam true U.u8 nn f) := by rw [hag s (by simp)]; exact hgs
              obtain ⟨A, hA, hA1, hh2, hct⟩ := (hg.ents s _ he').fams
              cases (show R U c _ p from hx) with
              | @sl _ _ _ cap b' o' a' hc ha' hl' =>
                have hlen : ((List.range n).map fun j => f (b + j)).length = n := by simp
                rw [hlen] at h2 h3
                refine ⟨.string ⟨bs.toArray⟩, w, c, Φ, ?_, Step1.pure hg (.val rfl)⟩
                by_cases hn0 : n = 0
                · subst hn0
                  have : bs = [] := List.eq_nil_of_length_eq_zero (by omega)
                  subst this
                  rw [run_convert_bytes_string w src dst e _ _ cap hs he hd]
                  cases a' <;> rfl
                · have hpos : 0 < n := by omega
                  obtain ⟨hL, ha1⟩ := ha' hpos
                  subst ha1
                  have hgoal := run_convert_bytes_back (P := P) w src dst e (at_ b' o') cap bs hs he hd fun j hj => by
                    obtain ⟨x, hx'⟩ := hl' j (by omega)
                    have hin := hA1 _ _ hx'
                    have hb0 := hA1 _ _ hL
                    have e4 := hct rfl b hb0
                    have e5 := hct rfl (b + j) hin
                    have e6 := hA b hb0
                    rw [hL] at e6
                    simp only [Option.some.injEq] at e6
                    have hkl : 0 < (U.enc U.u8 (f (b + j))).length := by rw [hU.enc_len, h1]; decide
                    have hcl := hU.enc_cell U.u8 (f (b + j)) hpl
                    rw [List.all_eq_true] at hcl
                    obtain ⟨⟨v', hv', hr'⟩, _⟩ := hh2 (b + j) 0 _ hin (List.getElem?_eq_getElem hkl) (hcl _ (List.getElem_mem hkl))
                    rw [← getD_of_getElem? (d := S.hole) (List.getElem?_eq_getElem hkl)] at hr'
                    have h5 := h3 j (by omega)
                    rw [show ((List.range n).map fun j => f (b + j)).getD j (U.dft U.u8) = f (b + j) by simp [List.getD, List.getElem?_map, List.getElem?_range (show j < n by omega)]] at h5
                    rw [h5] at hr'
                    have hv := R.valEq (show R U c (.val (.int .u8 ((bs.getD j 0).toNat : Int))) v' from hr')
                    rw [e5] at hv'
                    rw [← e6] at e4
                    simp only [Prod.mk.injEq] at e4
                    rw [h1, Nat.mul_one] at e4
                    rw [h1, Nat.mul_one, Nat.add_zero] at hv'
                    rw [Zs, e4.1, e4.2, show (A 0).2 + b + j = (A 0).2 + (b + j) by omega, hv', hv]
                    rw [getD_of_getElem? (List.getElem?_eq_getElem hj)]
                  rw [h2] at hgoal
                  exact hgoal
            · cases hel
          · cases hel
        · exact (Z1 ho).elim
      · exact (Z1 ho).elim
    · exact (Z1 ho).elim
  · rename_i n
    split at ho
    · rename_i d k hs hd
      have := Zq ho; subst this
      cases R.valEq (show R U c _ p from hx)
      refine ⟨.int k (k.wrap n), w, c, Φ, ?_, Step1.pure hg (.val (Z3Z _ _))⟩
      simp [convert, run_underlying hs, run_underlying hd, Conv.intToInt]
    · rename_i d k hs hd
      have := Zq ho; subst this
      cases R.valEq (show R U c _ p from hx)
      refine ⟨.float k (floatOfInt k n), w, c, Φ, ?_, Step1.pure hg (.val rfl)⟩
      simp [convert, run_underlying hs, run_underlying hd, Conv.intToFloat, floatOfInt]
    · exact (Z1 ho).elim
  · rename_i s b
    split at ho
    · rename_i d hs hd
      obtain ⟨n, hn, rfl⟩ := Z3B ho
      cases R.valEq (show R U c _ p from hx)
      exact ⟨.int .i64 n, w, c, Φ, run_convert_float_int w src dst s .i64 b n (by rw [hs]; rfl) hd hn, Step1.pure hg (.val rfl)⟩
    · exact (Z1 ho).elim
  · rename_i a _
    split at ho
    · rename_i v hv
      cases hb : okR v with
      | false => simp [hb] at ho; exact (Z1 ho).elim
      | true =>
        simp only [hb, cond_true] at ho
        have := Zl ho; subst this
        cases R.valEq (show R U c _ p from hx)
        exact ⟨v, w, c, Φ, Z3F hv w, Step1.pure hg (.val (Z77 hb))⟩
    · exact (Z1 ho).elim
  · exact (Z1 ho).elim
end Go.Rf
namespace Go.Rf
set_option linter.unusedVariables false
set_option linter.unusedSimpArgs false
variable {U : Univ} {P : Program} {c : Cx} {Φ : Nat → Nat → Nat → Prop} {h : Heap U} {nx : Nat} {w : World}
theorem Z6z (hU : U.Ok) {src dst : TypeId} {x : A U} {r : OpR U} {out : Out U} {p : Value} (hro : Z1Z P src dst x nx = some r) (ho : r.outs = some out)
  (hg : G U c Φ h w) (hx : RA U c x p) (hs : ∀ i, c.L nx i = none) (hn : get h nx = none) :
  ∃ v w' c' Φ', (convert src dst p).run P w = .ok v w' ∧ Step1 U c Φ h nx out w c' Φ' v w' := by
 unfold Z1Z at hro
 split at hro
 ·rename_i s
  cases R.valEq (show R U c _ p from hx)
  split at hro
  ·rename_i e hsr hd
   split at hro
   ·rename_i he
    cases hpl : U.plain U.u8 with
    | false => rw [hpl] at hro; cases hro
    | true =>
     rw [hpl] at hro
     cases hro
     have := Zq ho; subst this
     obtain ⟨hlen, henc⟩ := hU.ofBytes s.data.toList
     have hs1 := hU.u8
     have hrun := run_bytes_of_string (P := P) w src dst e s hsr hd he
     have hge := grownCap_ge w s.size 0 e
     have hat : ∀ o, o < s.size → (bytesRow s (grownCap w s.size 0 e))[o]? = some (.int .u8 ((s.data.toList.getD o 0).toNat : Int)) := fun o ho => by
      rw [bytesRow_at s (grownCap w s.size 0 e) o ho]
      have : s.data.toList.getD o 0 = s.data[o] := by
       rw [getD_of_getElem? (x := s.data[o])]
       rw [Array.getElem?_toList]; exact Array.getElem?_eq_getElem ho
      rw [this]
     have hsz : (s.data.toList).length = s.size := rfl
     obtain ⟨c', Φ', hS⟩ := Step1.fam (nx := nx) (rd := []) (u := U.u8) (f := fun j => (U.ofBytes s.data.toList).getD j (U.dft U.u8)) (n := s.size) (vs := s.data.toList.map fun b => Value.int .u8 (b.toNat : Int)) (a := some (at_ w.heap.size 0)) (cap := grownCap w s.size 0 e) (N := w.heap.size)
      (w' := w.drew.alloc (.cells (bytesRow s (grownCap w s.size 0 e)) e ((bytesRow s (grownCap w s.size 0 e)).size, (bytesRow s (grownCap w s.size 0 e)).size + 1))) hU hg hs hn
      ((Fr.drew _ w).trans (Fr.alloc _ w.drew _) fun _ _ _ h => h) (Nat.le_refl _) hpl (by rw [hs1, List.length_map, hsz, Nat.mul_one]) (fun j v hv => by
       have hj : j < s.size := by
        have := (List.getElem?_eq_some_iff.1 hv).1
        rwa [List.length_map, hsz] at this
       refine (World.cell?_alloc_mark w.drew _ e _ j).trans ?_
       rw [hat j hj, ← hv, List.getElem?_map, List.getElem?_eq_getElem (by rw [hsz]; exact hj)]
       simp [List.getD, List.getElem?_eq_getElem (show j < s.data.toList.length by rw [hsz]; exact hj)]) (fun j hj => by
       rw [List.length_map, hsz] at hj
       have h1 : j < (bytesRow s (grownCap w s.size 0 e)).size := (Array.getElem?_eq_some_iff.1 (hat j hj)).1
       refine (World.frozen?_alloc_mark w.drew _ e _ _ j).trans ?_
       simp; omega) (fun i k hi hk => by
       rw [hs1] at hk ⊢
       have hk0 : k = 0 := by omega
       subst hk0
       have hi' : i < s.data.toList.length := by rw [hsz]; exact hi
       rw [henc i hi']
       refine ⟨.int .u8 ((s.data.toList.getD i 0).toNat : Int), ?_, .val (Z3O _)⟩
       simp only [Nat.mul_one, Nat.add_zero, List.getElem?_map, List.getElem?_eq_getElem hi', Option.map_some, List.getD, Option.getD_some]) hge (fun _ => rfl)
     exact ⟨_, _, c', Φ', hrun, hS⟩
   ·cases hro
  ·cases hro
 ·cases hro
theorem Z7F (hU : U.Ok) {h' : Heap U} {row : Bool} {src dst : TypeId} {x : A U} {out : Out U} {p : Value} (ho : (Z3U P row src dst x h' nx).outs = some out)
  (hag : ∀ s, s ∈ out.rd ∨ s ∈ out.w.map (·.1) → get h s = get h' s) (hg : G U c Φ h w) (hx : RA U c x p) (hf : 1 ≤ out.nw → get h nx = none ∧ ∀ i, c.L nx i = none) :
  ∃ v w' c' Φ', (convert src dst p).run P w = .ok v w' ∧ Step1 U c Φ h nx out w c' Φ' v w' := by
 unfold Z3U at ho
 cases row with
 | false => exact Z5o hU ho (fun s hs => hag s (.inl hs)) hg hx
 | true =>
  simp only [cond_true] at ho
  split at ho
  ·rename_i r hr
   have hnw : out.nw = 1 := by
    unfold Z1Z at hr
    split at hr
    ·split at hr
     ·split at hr
      ·cases hpl : U.plain U.u8 with
       | false => rw [hpl] at hr; cases hr
       | true => rw [hpl] at hr; cases hr; have := Zq ho; subst this; rfl
      ·cases hr
     ·cases hr
    ·cases hr
   obtain ⟨h1, h2⟩ := hf (by omega)
   exact Z6z hU hr ho hg hx h2 h1
  ·exact Z5o hU ho (fun s hs => hag s (.inl hs)) hg hx
end Go.Rf
namespace Go.Rf
set_option linter.unusedVariables false
set_option linter.unusedSimpArgs false
variable {U : Univ} {P : Program} {c : Cx} {Φ : Nat → Nat → Nat → Prop} {h : Heap U} {nx : Nat} {w : World}
theorem Z3M {n sz j : Nat} (hsz : 0 < sz) (hj : j < n * sz) : j / sz < n ∧ j % sz < sz ∧ j / sz * sz + j % sz = j := ⟨(Nat.div_lt_iff_lt_mul hsz).2 hj, Nat.mod_lt j hsz, Nat.div_add_mod' j sz⟩
theorem Z6I {i n k m : Nat} (hi : i < n) (hk : k < m) : i * m + k < n * m := by
 have : (i + 1) * m ≤ n * m := Nat.mul_le_mul_right _ hi
 rw [Nat.succ_mul] at this
 omega
theorem Z95 (hU : U.Ok) {h' : Heap U} {t t2 ty : TypeId} {e : TypeId} {s off b n s' off' b' n' len len2 : Nat} {cells cells' : List U.S} {v : U.C} {f f' : Nat → U.D v} {p q : Value}
  (hu : P.underlying t = some (.slice e)) (hsz : size? P e = some (U.size v)) (hpl : U.plain v = true) (b3 : 1 ≤ U.size v) (hes : get h s = some (.obj cells)) (hc0 : cells[off]? = some (.aarr v len f))
  (he2 : get h' s' = some (.obj cells')) (hag2 : get h s' = get h' s') (hc2 : cells'[off']? = some (.aarr v len2 f'))
  (hg : G U c Φ h w) (hx : RA U c (.v ⟨false, [.asl s off (U.size v) len b n]⟩) p) (hy : RA U c (.v ⟨false, [.asl s' off' (U.size v) len2 b' n']⟩) q) (heq : ∃ z, U.eq? v v = some ⟨z⟩) :
  ∃ u w' c' Φ', (Builtin.copy_ #[t, t2] ty #[p, q]).run P w = .ok u w' ∧ Step1 U c Φ h nx { v := scv (.int .i64 ((Nat.min n' n : Nat) : Int)), rd := [s'], w := [(s, .obj (Zj off (.aarr v len fun i => bif Nat.ble b i && Nat.blt i (b + Nat.min n' n) then f' (b' + (i - b)) else f i) cells))] } w c' Φ' u w' := by
 obtain ⟨z, hz⟩ := heq
 generalize hM : Nat.min n' n = M at *
 have hMn : M ≤ n := by rw [← hM]; exact Nat.min_le_right _ _
 have hMn' : M ≤ n' := by rw [← hM]; exact Nat.min_le_left _ _
 cases (show R U c _ p from hx) with
 | @asl _ _ _ _ _ _ cap bb oo a hc hbn hL ha =>
 cases (show R U c _ q from hy) with
 | @asl _ _ _ _ _ _ cap' bb' oo' a' hc' hbn' hL' ha' =>
 have hel : elems v (.v ⟨false, [.asl s' off' (U.size v) len2 b' M]⟩ : A U) h' = some ((List.range M).map fun j => f' (b' + j), [s']) := by
  unfold elems
  simp only [he2, hc2, hpl, Nat.beq_refl, Bool.and_self, Bool.true_and, cond_true, hz]
 have hsrc : Z2v U c w P v ((List.range M).map fun j => f' (b' + j)) (.slice a' M cap') := Z2a hU hel (fun z hz => by simp at hz; subst hz; exact hag2) hg
  (show RA U c (.v ⟨false, [.asl s' off' (U.size v) len2 b' M]⟩) _ from R.asl (b := bb') (o := oo') (by omega) (by omega) hL' (fun hp => ha' (by omega)))
 obtain ⟨_, vs, hvl, hfc, hone, hrows⟩ := hsrc
 have hyl : ((List.range M).map fun j => f' (b' + j)).length = M := by simp
 rw [hyl] at hvl hfc hrows
 have hfc' : (Builtin.firstCells (U.size v) M (.slice a' n' cap')).run P w = .ok vs.toArray w := by
  cases a' <;> exact hfc
 obtain ⟨bq, oq, Gk, h0, h1, h2, h3⟩ := hg.ents s _ hes
 rw [hL] at h0; cases h0
 have hlt := (List.getElem?_eq_some_iff.1 hc0).1
 cases h2.own off _ hc0 with
 | cell hr _ _ _ => cases hr
 | aarr Gn hk hd hF =>
 have hcell : ∀ i, (U.enc v (f i)).all Zf = true := fun i => hU.enc_cell _ _ hpl
 generalize hQ : oo + off + b * U.size v = Q at *
 have hrowle : ∀ i k, i < M → k < U.size v → (b + i) * U.size v + k < len * U.size v := fun i k hi hk => by
  have : (b + i + 1) * U.size v ≤ len * U.size v := Nat.mul_le_mul_right _ (by omega)
  rw [Nat.succ_mul] at this; omega
 have hpt : ∀ i k, i < M → k < U.size v → (∃ u, w.cell? (at_ bb (Q + (i * U.size v + k))) = some u) ∧ w.frozen? (at_ bb (Q + (i * U.size v + k))) = false ∧ ∀ b2 o2, Gn ((b + i) * U.size v + k) b2 o2 ↔ b2 = bb ∧ o2 = Q + (i * U.size v + k) := fun i k hi hk' => by
  have hkl : k < (U.enc v (f (b + i))).length := by rw [hU.enc_len]; exact hk'
  have hcl := hcell (b + i)
  rw [List.all_eq_true] at hcl
  have := (hk ((b + i) * U.size v + k) _ (by rw [Z1a hU v len f (by omega) hk']; exact List.getElem?_eq_getElem hkl)).plain (hcl _ (List.getElem_mem hkl))
  rw [show oo + off + ((b + i) * U.size v + k) = Q + (i * U.size v + k) by rw [← hQ, Nat.add_mul]; omega] at this
  obtain ⟨⟨u, q4, _⟩, q5, q6⟩ := this
  exact ⟨⟨u, q4⟩, q5, q6⟩
 have hth : ∀ j, j < vs.length → (w.cell? (at_ bb (Q + j))).isSome = true ∧ w.frozen? (at_ bb (Q + j)) = false ∧ Gk off bb (Q + j) := fun j hj => by
  rw [hvl] at hj
  obtain ⟨r1, r2, r3⟩ := Z3M (by omega) hj
  obtain ⟨⟨u, q1⟩, q2, q3⟩ := hpt _ _ r1 r2
  rw [r3] at q1 q2 q3
  exact ⟨by rw [q1]; rfl, q2, (hF _ _).2 ⟨_, hrowle _ _ r1 r2, (q3 _ _).2 ⟨rfl, rfl⟩⟩⟩
 have hrun : (Builtin.copy_ #[t, t2] ty #[.slice a n cap, .slice a' n' cap']).run P w = .ok (goInt M) (w.setCells bb Q vs) := by
  unfold Builtin.copy_
  rcases Nat.eq_zero_or_pos M with hz | hpos
  ·have hvs : vs = [] := List.eq_nil_of_length_eq_zero (by rw [hvl, hz]; simp)
   subst hvs
   cases a with
   | none => simp [run_underlying hu, Builtin.lenOf, Z7 hsz, hM, hfc', World.setCells]
   | some ad => simp [run_underlying hu, Builtin.lenOf, Z7 hsz, hM, hfc', World.setCells, storeCells]
  ·have := ha (by omega)
   subst this
   have hst := run_storeCells_cells (P := P) bb Q vs 0 w (fun j hj => by simpa using (hth j hj).1) (fun j hj => by simpa using (hth j hj).2.1) hone
   simp only [Nat.add_zero] at hst
   simp [run_underlying hu, Builtin.lenOf, Z7 hsz, hM, hfc', hst]
 have hfr : Fr (fun b2 o2 => b2 = bb ∧ Q ≤ o2 ∧ o2 < Q + vs.length) w (w.setCells bb Q vs) := Fr.setCells fun j hj => ⟨rfl, by omega, by omega⟩
 have hsome : (get h s).isSome := by rw [hes]; rfl
 have hinG : ∀ b2 o2, (b2 = bb ∧ Q ≤ o2 ∧ o2 < Q + vs.length) → Gk off b2 o2 := fun b2 o2 ⟨q1, q2, q3⟩ => by
  subst q1
  have := (hth (o2 - Q) (by omega)).2.2
  rwa [show Q + (o2 - Q) = o2 by omega] at this
 have hinΦ : ∀ b2 o2, (b2 = bb ∧ Q ≤ o2 ∧ o2 < Q + vs.length) → Φ s b2 o2 := fun b2 o2 hq => (h3 _ _).2 ⟨off, hlt, hinG _ _ hq⟩
 have hOn : Own U c (w.setCells bb Q vs) bb (oo + off) (.aarr v len fun i => bif Nat.ble b i && Nat.blt i (b + M) then f' (b' + (i - b)) else f i) (Gk off) := by
  refine .aarr Gn (fun x y hy => ?_) hd hF
  obtain ⟨i, k, hi, hk', rfl, hy'⟩ := Z2C hU v len _ hy
  by_cases hr : b ≤ i ∧ i < b + M
  ·have hcond : (Nat.ble b i && Nat.blt i (b + M)) = true := by
    rw [Bool.and_eq_true]; exact ⟨Nat.ble_eq_true_of_le hr.1, Nat.ble_eq_true_of_le hr.2⟩
   simp only [hcond, cond_true] at hy'
   obtain ⟨j, rfl⟩ : ∃ j, i = b + j := ⟨i - b, by omega⟩
   have hjM : j < M := by omega
   rw [show b + j - b = j by omega] at hy'
   obtain ⟨⟨u0, q1⟩, q2, q3⟩ := hpt j k hjM hk'
   obtain ⟨u1, q4, q5⟩ := hrows j k hjM hk'
   have q6 : ((List.range M).map fun j => f' (b' + j)).getD j (U.dft v) = f' (b' + j) := by simp [List.getD, List.getElem?_map, List.getElem?_range hjM]
   rw [q6, getD_of_getElem? hy'] at q5
   rw [show oo + off + ((b + j) * U.size v + k) = Q + (j * U.size v + k) by rw [← hQ, Nat.add_mul]; omega]
   exact .cell q5 (Z14 (fun j hj => (hth j hj).1) q4) ((World.frozen?_setCells _ _ _ _ _).trans q2) q3
  ·have hcond : (Nat.ble b i && Nat.blt i (b + M)) = false := by
    cases hcc : (Nat.ble b i && Nat.blt i (b + M)) with
    | false => rfl
    | true =>
     rw [Bool.and_eq_true] at hcc
     exact absurd ⟨Nat.le_of_ble_eq_true hcc.1, Nat.le_of_ble_eq_true hcc.2⟩ hr
   simp only [hcond, cond_false] at hy'
   have hold := hk (i * U.size v + k) y (by rw [Z1a hU v len f hi hk']; exact hy')
   have hil : i * U.size v + k < len * U.size v := Z6I hi hk'
   refine hold.stays hU (.refl c) (hfr.agr (fun b2 o2 hf => hold.lt hU _ _ hf) fun b2 o2 hf ⟨q1, q2, q3⟩ => ?_)
   rw [hvl] at q3
   obtain ⟨r1, r2, r3⟩ := Z3M (n := M) (sz := U.size v) (j := o2 - Q) (by omega) (by omega)
   refine hd _ ((b + (o2 - Q) / U.size v) * U.size v + (o2 - Q) % U.size v) b2 o2 hil (hrowle _ _ r1 r2) (fun e => hr ?_) hf ((((hpt _ _ r1 r2).2.2) _ _).2 ⟨q1, by rw [r3]; omega⟩)
   have hdiv : ∀ i k, k < U.size v → (i * U.size v + k) / U.size v = i := fun i k hk => by
    rw [Nat.add_comm, Nat.add_mul_div_right _ _ (by omega), Nat.div_eq_of_lt hk]; omega
   have e1 := hdiv i k hk'
   rw [e, hdiv _ _ r2] at e1
   exact ⟨by rw [← e1]; exact Nat.le_add_right _ _, by rw [← e1]; exact Nat.add_lt_add_left r1 _⟩
 obtain ⟨s1, s2⟩ := Z6R hU (s := s) h2 hc0 hOn (fun _ _ h => h) hfr hinG
 have hE : EntOK c (w.setCells bb Q vs) s (Φ s) (.obj (Zj off (.aarr v len fun i => bif Nat.ble b i && Nat.blt i (b + M) then f' (b' + (i - b)) else f i) cells) : Ent U) := by
  refine ⟨bb, oo, _, hL, h1, s1, fun b2 o2 => ?_⟩
  rw [h3, Z2e hlt]
  constructor
  ·rintro ⟨k, hk, hf⟩
   refine ⟨k, hk, ?_⟩
   by_cases e : k = off
   ·subst e; rw [if_pos rfl]; exact hf
   ·rw [if_neg e]; exact hf
  ·rintro ⟨k, hk, hf⟩
   exact ⟨k, hk, s2 _ _ _ hk hf⟩
 refine ⟨_, _, c, fup Φ s (Φ s), hrun, { le := .refl c, L := fun _ _ _ _ => rfl, val := ?_, g := ?_, fr := ?_, foot := fun t ht => ?_, footw := fun t b' o' ht hf => ?_, names := fun t ht => ?_, inew := fun _ _ _ h => .inl h }⟩
 ·exact R.val rfl
 ·refine hg.put hU (.refl c) (fun _ _ _ => rfl) hE (fun t hts h1 => hfr.agr (fun b' o' hf => hg.lt hU h1 hf) fun b' o' hf hn => hg.apart t s b' o' hts h1 hsome hf (hinΦ _ _ hn))
   (fun t b' o' hts h1 hf hF => hg.apart t s b' o' hts h1 hsome hf hF) (fun b' o' u hu => ?_) (fun t b' o' _ h1 hf => hg.immApart t b' o' h1 hf) (fun b' o' hf => hg.immApart s b' o' hsome hf)
  refine (hfr.cell b' o' (Zh (hg.imm b' o' u hu)) fun hn => ?_).trans (hg.imm b' o' u hu)
  have := hg.immApart s b' o' hsome (hinΦ _ _ hn)
  rw [hu] at this; cases this
 ·exact hfr.mono fun b' o' _ hn => ⟨s, by simp, hsome, hinΦ _ _ hn⟩
 ·simp at ht; simp [fup, ht]
 ·simp at ht; subst ht
  simp [fup] at hf
  exact .inr ⟨t, by simp, hsome, hf⟩
 ·simp at ht; subst ht; exact .inr hsome
theorem copy_ok (hU : U.Ok) {h' : Heap U} {t t2 ty : TypeId} {x y : A U} {out : Out U} {p q : Value} (ho : (Z6Z P t x y h').outs = some out)
  (hag : ∀ s, s ∈ out.rd ∨ s ∈ out.w.map (·.1) → get h s = get h' s) (hg : G U c Φ h w) (hx : RA U c x p) (hy : RA U c y q) :
  ∃ v w' c' Φ', (Builtin.copy_ #[t, t2] ty #[p, q]).run P w = .ok v w' ∧ Step1 U c Φ h nx out w c' Φ' v w' := by
 unfold Z6Z at ho
 split at ho
 ·rename_i e s off m' len b n hu
  split at ho
  ·rename_i u m cells hue hsz he
   split at ho
   ·rename_i v len' f hc
    split at ho
    ·rename_i qe hq1
     subst qe
     cases hb : Nat.beq m (U.size v) && Nat.beq m m' && Nat.beq len len' && U.plain v && Nat.ble 1 m with
     | false => rw [hb] at ho; exact (Z1 ho).elim
     | true =>
      rw [hb] at ho
      simp only [cond_true] at ho
      simp only [Bool.and_eq_true] at hb
      obtain ⟨⟨⟨⟨b1, b2⟩, b3⟩, b4⟩, b5⟩ := hb
      have b2 := nbeq b2
      subst b2
      have b1 := nbeq b1
      subst b1
      have b3 := nbeq b3
      subst b3
      split at ho
      ·rename_i s' off' mm llen b' n'
       split at ho
       ·rename_i cells' he2
        split at ho
        ·rename_i v' len2 f' hc2
         split at ho
         ·rename_i qe' heq'
          subst qe'
          cases hb2 : Nat.beq mm (U.size v') && Nat.beq llen len2 with
          | false => rw [hb2] at ho; exact (Z1 ho).elim
          | true =>
           rw [hb2] at ho
           simp only [cond_true] at ho
           simp only [Bool.and_eq_true] at hb2
           obtain ⟨b6, b7⟩ := hb2
           have b6 := nbeq b6
           have b7 := nbeq b7
           subst b6; subst b7
           have hout := Zq ho
           subst hout
           exact Z95 hU hu hsz b4 (Nat.le_of_ble_eq_true b5) (by rw [hag s (.inr (by simp))]; exact he) hc he2 (hag s' (.inl (by simp))) hc2 hg hx hy ⟨_, heq'⟩
         ·exact (Z1 ho).elim
        ·exact (Z1 ho).elim
       ·exact (Z1 ho).elim
      ·exact (Z1 ho).elim
    ·exact (Z1 ho).elim
   ·exact (Z1 ho).elim
  ·exact (Z1 ho).elim
 ·rename_i e s b n hu
  split at ho
  ·rename_i u m v nn f hue hsz he
   split at ho
   ·rename_i qe _
    subst qe
    cases hb : Nat.beq m (U.size v) && U.plain v && Nat.ble 1 m with
    | false => rw [hb] at ho; exact (Z1 ho).elim
    | true =>
     rw [hb] at ho
     simp only [cond_true] at ho
     simp only [Bool.and_eq_true] at hb
     obtain ⟨⟨b1, hpl⟩, b3⟩ := hb
     have b1 := nbeq b1
     subst b1
     have b3 := Nat.le_of_ble_eq_true b3
     split at ho
     ·rename_i s' b' n'
      split at ho
      ·rename_i v' nn' f' he2
       split at ho
       ·rename_i qe' heq'
        subst qe'
        have hout := Zq ho
        subst hout
        generalize hM : Nat.min n' n = M at *
        have hMn : M ≤ n := by rw [← hM]; exact Nat.min_le_right _ _
        have hMn' : M ≤ n' := by rw [← hM]; exact Nat.min_le_left _ _
        have hes : get h s = some (.fam true v' nn f) := by rw [hag s (.inr (by simp))]; exact he
        cases (show R U c _ p from hx) with
        | @sl _ _ _ cap bb oo a hc ha hl =>
        cases (show R U c _ q from hy) with
        | @sl _ _ _ cap' bb' oo' a' hc' ha' hl' =>
        have hel : elems v' (.v ⟨false, [.sl s' b' M]⟩ : A U) h' = some ((List.range M).map fun j => f' (b' + j), [s']) := by
         unfold elems
         simp only [he2, hpl, cond_true, heq']
        have hsrc : Z2v U c w P v' ((List.range M).map fun j => f' (b' + j)) (.slice a' M cap') := Z2a hU hel (fun z hz => hag z (.inl hz)) hg
         (show RA U c (.v ⟨false, [.sl s' b' M]⟩) _ from R.sl (b := bb') (o := oo') (by omega) (fun hp => ha' (by omega)) fun j hj => hl' j (by omega))
        obtain ⟨_, vs, hvl, hfc, hone, hrows⟩ := hsrc
        have hyl : ((List.range M).map fun j => f' (b' + j)).length = M := by simp
        rw [hyl] at hvl hfc hrows
        have hfc' : (Builtin.firstCells (U.size v') M (.slice a' n' cap')).run P w = .ok vs.toArray w := by
         cases a' <;> exact hfc
        obtain ⟨A, Gk, h0, h1, h2, h3, h4, h5⟩ := hg.ents s _ hes
        have hcell : ∀ i, (U.enc v' (f i)).all Zf = true := fun i => hU.enc_cell _ _ hpl
        have hin : ∀ i, i < M → b + i < nn ∧ ∀ hpos : 0 < M, A (b + i) = (bb, oo + i * U.size v') := fun i hi => by
         obtain ⟨z, hz⟩ := hl i (by omega)
         have hin := h1 _ _ hz
         refine ⟨hin, fun hpos => ?_⟩
         obtain ⟨hL, _⟩ := ha (by omega)
         have hb0 := h1 _ _ hL
         have e1 := h0 _ hb0
         rw [hL] at e1
         simp only [Option.some.injEq] at e1
         have e2 := h5 rfl b hb0
         have e3 := h5 rfl (b + i) hin
         rw [← e1] at e2
         simp only [Prod.mk.injEq] at e2
         rw [e3, e2.1, e2.2, Nat.add_mul, Nat.add_assoc]
        -- the cells that are written
        have hpt : ∀ i k, i < M → k < U.size v' → (∃ u, w.cell? (at_ bb (oo + (i * U.size v' + k))) = some u) ∧ w.frozen? (at_ bb (oo + (i * U.size v' + k))) = false ∧ ∀ b2 o2, Gk (b + i) k b2 o2 ↔ b2 = bb ∧ o2 = oo + (i * U.size v' + k) := fun i k hi hk => by
         obtain ⟨q1, q2⟩ := hin i hi
         have q3 := q2 (by omega)
         have hkl : k < (U.enc v' (f (b + i))).length := by rw [hU.enc_len]; exact hk
         have hcl := hcell (b + i)
         rw [List.all_eq_true] at hcl
         obtain ⟨⟨u, q4, _⟩, q5, q6⟩ := (h2 _ q1).cell (List.getElem?_eq_getElem hkl) (hcl _ (List.getElem_mem hkl))
         rw [q3] at q4 q5 q6
         rw [← Nat.add_assoc]
         exact ⟨⟨u, q4⟩, q5, q6⟩
        have hth : ∀ j, j < vs.length → (w.cell? (at_ bb (oo + j))).isSome = true ∧ w.frozen? (at_ bb (oo + j)) = false ∧ Φ s bb (oo + j) := fun j hj => by
         rw [hvl] at hj
         obtain ⟨r1, r2, r3⟩ := Z3M (by omega) hj
         obtain ⟨⟨u, q1⟩, q2, q3⟩ := hpt _ _ r1 r2
         rw [r3] at q1 q2 q3
         exact ⟨by rw [q1]; rfl, q2, (h4 _ _).2 ⟨b + j / U.size v', j % U.size v', (hin _ r1).1, r2, (q3 _ _).2 ⟨rfl, rfl⟩⟩⟩
        have hrun : (Builtin.copy_ #[t, t2] ty #[.slice a n cap, .slice a' n' cap']).run P w = .ok (goInt M) (w.setCells bb oo vs) := by
         unfold Builtin.copy_
         rcases Nat.eq_zero_or_pos M with hz | hpos
         ·have hvs : vs = [] := List.eq_nil_of_length_eq_zero (by rw [hvl, hz]; simp)
          subst hvs
          cases a with
          | none => simp [run_underlying hu, Builtin.lenOf, Z7 hsz, hM, hfc', World.setCells]
          | some ad => simp [run_underlying hu, Builtin.lenOf, Z7 hsz, hM, hfc', World.setCells, storeCells]
         ·obtain ⟨_, rfl⟩ := ha (by omega)
          have hst := run_storeCells_cells (P := P) bb oo vs 0 w (fun j hj => by simpa using (hth j hj).1) (fun j hj => by simpa using (hth j hj).2.1) hone
          simp only [Nat.add_zero] at hst
          simp [run_underlying hu, Builtin.lenOf, Z7 hsz, hM, hfc', hst]
        have hfr : Fr (fun b2 o2 => b2 = bb ∧ oo ≤ o2 ∧ o2 < oo + vs.length) w (w.setCells bb oo vs) := Fr.setCells fun j hj => ⟨rfl, by omega, by omega⟩
        have hsome : (get h s).isSome := by rw [hes]; rfl
        have hinΦ : ∀ b2 o2, (b2 = bb ∧ oo ≤ o2 ∧ o2 < oo + vs.length) → Φ s b2 o2 := fun b2 o2 ⟨q1, q2, q3⟩ => by
         subst q1
         have := (hth (o2 - oo) (by omega)).2.2
         rwa [show oo + (o2 - oo) = o2 by omega] at this
        have hE : EntOK c (w.setCells bb oo vs) s (Φ s) (.fam true v' nn (fun i => bif Nat.ble b i && Nat.blt i (b + M) then f' (b' + (i - b)) else f i) : Ent U) := by
         refine ⟨A, Gk, h0, h1, fun i hi => ?_, h3, h4, h5⟩
         by_cases hr : b ≤ i ∧ i < b + M
         ·have hcond : (Nat.ble b i && Nat.blt i (b + M)) = true := by
           rw [Bool.and_eq_true]; exact ⟨Nat.ble_eq_true_of_le hr.1, Nat.ble_eq_true_of_le hr.2⟩
          simp only [hcond, cond_true]
          obtain ⟨j, rfl⟩ : ∃ j, i = b + j := ⟨i - b, by omega⟩
          have hjM : j < M := by omega
          have hA := (hin j hjM).2 (by omega)
          rw [hA, show b + j - b = j by omega]
          refine ⟨fun k x hx => ?_, fun j1 k1 b2 o2 g1 g2 => (h2 _ hi).dis j1 k1 b2 o2 (by rw [hU.enc_len]; rw [hU.enc_len] at g1; exact g1) (by rw [hU.enc_len]; rw [hU.enc_len] at g2; exact g2)⟩
          have hk : k < U.size v' := by have := (List.getElem?_eq_some_iff.1 hx).1; rwa [hU.enc_len] at this
          obtain ⟨⟨u0, q1⟩, q2, q3⟩ := hpt j k hjM hk
          obtain ⟨u1, q4, q5⟩ := hrows j k hjM hk
          have q6 : ((List.range M).map fun j => f' (b' + j)).getD j (U.dft v') = f' (b' + j) := by simp [List.getD, List.getElem?_map, List.getElem?_range hjM]
          rw [q6, getD_of_getElem? hx] at q5
          rw [Nat.add_assoc]
          exact .cell q5 (Z14 (fun j hj => (hth j hj).1) q4) ((World.frozen?_setCells _ _ _ _ _).trans q2) q3
         ·have hcond : (Nat.ble b i && Nat.blt i (b + M)) = false := by
           cases hcc : (Nat.ble b i && Nat.blt i (b + M)) with
           | false => rfl
           | true =>
            rw [Bool.and_eq_true] at hcc
            exact absurd ⟨Nat.le_of_ble_eq_true hcc.1, Nat.le_of_ble_eq_true hcc.2⟩ hr
          simp only [hcond, cond_false]
          refine (h2 i hi).stays hU (.refl c) fun k hk => hfr.agr (fun b2 o2 hf => (h2 i hi).lt hU hk hf) fun b2 o2 hf ⟨q1, q2, q3⟩ => ?_
          rw [hvl] at q3
          obtain ⟨r1, r2, r3⟩ := Z3M (n := M) (sz := U.size v') (j := o2 - oo) (by omega) (by omega)
          rw [hU.enc_len] at hk
          exact h3 i (b + (o2 - oo) / U.size v') k _ b2 o2 hi (hin _ r1).1 hk r2 (fun e => hr ⟨by rw [e]; exact Nat.le_add_right _ _, by rw [e]; exact Nat.add_lt_add_left r1 _⟩) hf ((((hpt _ _ r1 r2).2.2) _ _).2 ⟨q1, by rw [r3]; omega⟩)
        refine ⟨_, _, c, fup Φ s (Φ s), hrun, { le := .refl c, L := fun _ _ _ _ => rfl, val := ?_, g := ?_, fr := ?_, foot := fun t ht => ?_, footw := fun t b' o' ht hf => ?_, names := fun t ht => ?_, inew := fun _ _ _ h => .inl h }⟩
        ·exact R.val rfl
        ·refine hg.put hU (.refl c) (fun _ _ _ => rfl) hE (fun t hts h1 => hfr.agr (fun b' o' hf => hg.lt hU h1 hf) fun b' o' hf hn => hg.apart t s b' o' hts h1 hsome hf (hinΦ _ _ hn))
          (fun t b' o' hts h1 hf hF => hg.apart t s b' o' hts h1 hsome hf hF) (fun b' o' u hu => ?_) (fun t b' o' _ h1 hf => hg.immApart t b' o' h1 hf) (fun b' o' hf => hg.immApart s b' o' hsome hf)
         refine (hfr.cell b' o' (Zh (hg.imm b' o' u hu)) fun hn => ?_).trans (hg.imm b' o' u hu)
         have := hg.immApart s b' o' hsome (hinΦ _ _ hn)
         rw [hu] at this; cases this
        ·exact hfr.mono fun b' o' _ hn => ⟨s, by simp, hsome, hinΦ _ _ hn⟩
        ·simp at ht; simp [fup, ht]
        ·simp at ht; subst ht
         simp [fup] at hf
         exact .inr ⟨t, by simp, hsome, hf⟩
        ·simp at ht; subst ht; exact .inr hsome
       ·exact (Z1 ho).elim
      ·exact (Z1 ho).elim
     ·exact (Z1 ho).elim
   ·exact (Z1 ho).elim
  ·exact (Z1 ho).elim
 ·exact (Z1 ho).elim
end Go.Rf
namespace Go.Rf
set_option linter.unusedVariables false
set_option linter.unusedSimpArgs false
variable {U : Univ} {P : Program} {c : Cx} {Φ : Nat → Nat → Nat → Prop} {h : Heap U} {nx : Nat} {w : World}
def Fresh (c : Cx) (h : Heap U) (nx n : Nat) : Prop := ∀ s, nx ≤ s → s < nx + n → get h s = none ∧ ∀ i, c.L s i = none
structure RAs (U : Univ) (c : Cx) (as : List (A U)) (vs : List Value) : Prop where
 len : vs.length = as.length
 at_ : ∀ (k : Nat) a, as[k]? = some a → ∃ v, vs[k]? = some v ∧ RA U c a v
abbrev Post (U : Univ) (c : Cx) (Φ : Nat → Nat → Nat → Prop) (h : Heap U) (nx : Nat) (out : Out U) (w : World) : Value → World → Prop :=
 fun u w' => ∃ c' Φ', Step1 U c Φ h nx out w c' Φ' u w'
def Zw (U : Univ) (P : Program) (f : Nat) (N : Native U) : Prop :=
 ∀ (as : List (A U)) (h' : Heap U) (nx : Nat) (out : Out U), (N as h' nx).outs = some out →
  ∀ (c : Cx) (Φ : Nat → Nat → Nat → Prop) (h : Heap U) (w : World) (vs : Array Value), G U c Φ h w → (∀ s, s ∈ out.rd ∨ s ∈ out.w.map (·.1) → get h s = get h' s) →
   Fresh c h nx out.nw → RAs U c as vs.toList →
   Does P (Post U c Φ h nx out w) ((callFunc f vs).run P w)
def ZH (U : Univ) (P : Program) (Γ : Nat → Option (Native U)) : Prop := ∀ f N, Γ f = some N → Zw U P f N
theorem Quiet.does {s : Sem Value} {out : Out U} (hq : Quiet U c w P s out) (hg : G U c Φ h w) : Does P (Post U c Φ h nx out w) ((do pure (Next.value (← s)) : Sem Next).run P w) := by
 obtain ⟨v, rd, w', nw⟩ := out
 obtain ⟨u, h1, h2, h3, h4⟩ := hq
 simp only at h2 h3 h4
 subst h3; subst h4
 exact Does.value h1 ⟨c, Φ, Step1.pure hg h2⟩
theorem Z8Q {x : Option (A U)} {out : Out U} (ho : (optOk x).outs = some out) : ∃ v, x = some v ∧ out = { v := v } := by
 cases x with
 | none => exact (Z1 ho).elim
 | some v => exact ⟨v, rfl, Zq ho⟩
theorem Z3H {α : Type} : ∀ (l : List (Option α)) (r : List α), Zz l = some r → l = r.map some
 | [], r, h => by simp [Zz] at h; subst h; rfl
 | some a :: l, r, h => by
  unfold Zz at h
  split at h
  ·rename_i r' hr; cases h; rw [Z3H l r' hr]; rfl
  ·cases h
 | none :: l, r, h => by cases h
theorem Zy {cl : Call} {b : Go.Builtin} {ev : Operand → Value} {ty : TypeId} (hc : cl.callee = .builtin b) :
  (do let d ← resolve ev cl ty; invoke d.target d.args : Sem Next) = builtin b cl.argTypes ty (cl.args.map fun | .const _ => true | _ => false) (cl.args.map ev) := by
 unfold resolve
 rw [hc]
 rfl
theorem Z4u {cl : Call} {f : Nat} {a : Act} {ty : TypeId} (hc : cl.callee = .value (.func f)) :
  (do let d ← resolve a.eval cl ty; invoke d.target d.args : Sem Next) = callFunc f (cl.args.map a.eval) := by
 have h : (do let d ← resolve a.eval cl ty; invoke d.target d.args : Sem Next) = callFunc f (#[] ++ cl.args.map a.eval ++ #[]) := by
  unfold resolve
  rw [hc]
  rfl
 rw [h]
 simp
theorem Z4Y {cl : Call} {f : Nat} {a : Act} {ty : TypeId} {t : Tmp} (hc : cl.callee = .value (.tmp t)) (he : a.eval (.tmp t) = .func (.func f) #[] #[]) :
  (do let d ← resolve a.eval cl ty; invoke d.target d.args : Sem Next) = callFunc f (cl.args.map a.eval) := by
 have h : (do let d ← resolve a.eval cl ty; invoke d.target d.args : Sem Next) = callFunc f (#[] ++ cl.args.map a.eval ++ #[]) := by
  unfold resolve
  rw [hc]
  simp only [he]
  rfl
 rw [h]
 simp
theorem Z4U {cl : Call} {f : Nat} {vs : Array Value} {a : Act} {ty : TypeId} {t : Tmp} (hc : cl.callee = .value (.tmp t)) (he : a.eval (.tmp t) = .func (.func f) #[] vs) :
  (do let d ← resolve a.eval cl ty; invoke d.target d.args : Sem Next) = callFunc f (cl.args.map a.eval ++ vs) := by
 have h : (do let d ← resolve a.eval cl ty; invoke d.target d.args : Sem Next) = callFunc f (#[] ++ cl.args.map a.eval ++ vs) := by
  unfold resolve
  rw [hc]
  simp only [he]
  rfl
 rw [h]
 simp
theorem RAs.append {l m : List (A U)} {vs us : List Value} (h : RAs U c l vs) (h' : RAs U c m us) : RAs U c (l ++ m) (vs ++ us) := by
 refine ⟨by simp [h.len, h'.len], fun k x hk => ?_⟩
 by_cases hl : k < l.length
 ·rw [List.getElem?_append_left hl] at hk
  rw [List.getElem?_append_left (by rw [h.len]; exact hl)]
  exact h.at_ k x hk
 ·rw [List.getElem?_append_right (by omega)] at hk
  rw [List.getElem?_append_right (by rw [h.len]; omega), h.len]
  exact h'.at_ _ x hk
theorem Z5u {f : Nat} {ps : List (Nat × Nat × Nat)} {u : Value} (h : R U c (.clo f ps) u) : ∃ vs : Array Value, u = .func (.func f) #[] vs ∧ RAs U c (Z3u ps) vs.toList := by
 cases h with
 | @clo _ _ vs hn hp =>
  refine ⟨vs, rfl, by simp [Z3u, hn], fun k x hk => ?_⟩
  simp only [Z3u, List.getElem?_map] at hk
  cases hz : ps[k]? with
  | none => simp [hz] at hk
  | some p =>
   simp [hz] at hk
   subst hk
   obtain ⟨b, o, h1, h2⟩ := hp k p hz
   exact ⟨_, by rw [Array.getElem?_toList]; exact h2, R.ptr h1⟩
theorem Z6S {x : Option (A U)} {f : Nat} {ps : List (Nat × Nat × Nat)} (h : cloOf x = some (f, ps)) : x = some (sc (.clo f ps)) := by
 unfold cloOf at h
 split at h
 ·cases h; rfl
 ·cases h
theorem R.val' {v u : Value} (h : R U c (.val v) u) : u = v := by cases h; rfl
theorem Z1e {f : Nat} {fn : Func} (h1 : P.funcs[f]? = some fn) (h2 : (fn.name == "runtime.NumGoroutine") = false) (h3 : fn.body.isNone = false) (args : Array Value) :
  (callFunc f args).run P w = .ok (.enter f args) w := by
 have h4 : fn.name ≠ "runtime.NumGoroutine" := by simpa using h2
 have h5 : ¬ fn.body = none := by intro e; simp [e] at h3
 simp [callFunc, h1, h4, h5]
theorem Z6i : ∀ (l : List (Option (A U))) (ps : List (Nat × Nat × Nat)), Z5M l = some ps → l = ps.map fun p => some (sc (.ptr p.1 p.2.1 p.2.2))
 | [], ps, h => by cases h; rfl
 | some (.v ⟨false, [.ptr s i off]⟩) :: r, ps, h => by
  unfold Z5M at h
  split at h
  ·rename_i l hl; cases h; rw [Z6i r l hl]; rfl
  ·cases h
theorem Z7t {fn : Fn} {first captured : Array Operand} {a : Act} {ρ : Operand → Option (A U)} {out : Out U} (ho : (Z3R fn (first.toList.map ρ) (captured.toList.map ρ)).outs = some out)
  (hρ : ∀ x ∈ captured.toList, ∀ v, ρ x = some v → RA U c v (a.eval x)) : Quiet U c w P (Instr.makeFunc fn (first.map a.eval) (captured.map a.eval)) out := by
 unfold Z3R at ho
 split at ho
 ·rename_i f hfe
  split at ho
  ·rename_i ps hps
   have := Zq ho
   subst this
   have h1 : first = #[] := by
    have : first.toList = [] := by simpa using hfe
    simpa using this
   subst h1
   have h2 := Z6i _ _ hps
   refine ⟨.func (.func f) #[] (captured.map a.eval), by simp [Instr.makeFunc], ?_, rfl, rfl⟩
   have hlen := congrArg List.length h2
   simp at hlen
   refine R.clo (by simp [hlen]) fun k p hk => ?_
   have h3 : (captured.toList.map ρ)[k]? = some (some (sc (.ptr p.1 p.2.1 p.2.2))) := by rw [h2, List.getElem?_map, hk]; rfl
   rw [List.getElem?_map] at h3
   cases hz : captured.toList[k]? with
   | none => simp [hz] at h3
   | some z =>
    simp [hz] at h3
    have h4 := hρ z (List.mem_of_getElem? hz) _ h3
    cases hv : a.eval z with
    | _ =>
     rw [hv] at h4
     first
     | (cases (show R U c (.ptr p.1 p.2.1 p.2.2) _ from h4) with
       | ptr h5 => exact ⟨_, _, h5, by rw [Array.getElem?_map]; rw [Array.getElem?_toList] at hz; rw [hz]; simp [hv]⟩)
     | (cases (show R U c (.ptr p.1 p.2.1 p.2.2) _ from h4))
  ·exact (Z1 ho).elim
 ·exact (Z1 ho).elim
theorem call_ok (hU : U.Ok) {Γ : Nat → Option (Native U)} (hΓ : ZH U P Γ) {h' : Heap U} {cl : Call} {a : Act} {ty : TypeId} {ρ : Operand → Option (A U)} {out : Out U}
  (ho : (Z79 P Γ cl ρ (cl.args.toList.map ρ) h' nx).outs = some out) (hag : ∀ s, s ∈ out.rd ∨ s ∈ out.w.map (·.1) → get h s = get h' s) (hg : G U c Φ h w)
  (hf : Fresh c h nx out.nw) (hρ : ∀ x ∈ cl.args.toList, ∀ v, ρ x = some v → RA U c v (a.eval x)) (hce : ∀ x, cl.callee = .value x → ∀ v, ρ x = some v → RA U c v (a.eval x)) :
  Does P (Post U c Φ h nx out w) ((do let d ← resolve a.eval cl ty; invoke d.target d.args : Sem Next).run P w) := by
 have hfold : ∀ (mx : Bool) (x : Int) (r : List (Option (A U))) (n : Int), cl.args.toList.map ρ = some (.v ⟨false, [.val (.int .i64 x)]⟩) :: r → Z2j mx x r = some n →
   ∃ rest, cl.args.toList.map a.eval = .int .i64 x :: rest ∧ (rest.foldlM (bif mx then Builtin.max2 else Builtin.min2) (.int .i64 x) : Sem Value) = pure (.int .i64 n) := by
  intro mx x r n he hfm
  cases hl : cl.args.toList with
  | nil => rw [hl] at he; cases he
  | cons y ys =>
   rw [hl] at he
   simp only [List.map_cons, List.cons.injEq] at he
   obtain ⟨h1, h2⟩ := he
   have hx := hρ y (by rw [hl]; exact List.mem_cons_self ..) _ h1
   refine ⟨ys.map a.eval, ?_, ?_⟩
   ·rw [List.map_cons, R.int (show R U c (.val (.int .i64 x)) _ from hx)]
   ·subst h2
    refine Z6x (c := c) _ _ _ _ hfm (by simp) fun k v u h3 h4 => ?_
    rw [List.getElem?_map] at h3 h4
    cases hk : ys[k]? with
    | none => simp [hk] at h3
    | some z =>
     simp [hk] at h3 h4
     subst h4
     exact hρ z (by rw [hl]; exact List.mem_cons_of_mem _ (List.mem_of_getElem? hk)) _ h3
 have two : ∀ x y, cl.args.toList.map ρ = [some x, some y] → ∃ x' y', cl.args = #[x', y'] ∧ ρ x' = some x ∧ ρ y' = some y := fun x y hx => by
  cases hl : cl.args.toList with
  | nil => rw [hl] at hx; cases hx
  | cons x' ys =>
   rw [hl] at hx
   cases ys with
   | nil => simp at hx
   | cons y' zs =>
    simp at hx
    obtain ⟨h1, h2, h3⟩ := hx
    subst h3
    exact ⟨x', y', by rw [← Array.toArray_toList (xs := cl.args), hl], h1, h2⟩
 have single : ∀ x, cl.args.toList.map ρ = [some x] → ∃ x', cl.args = #[x'] ∧ ρ x' = some x := fun x hx => by
  cases hl : cl.args.toList with
  | nil => rw [hl] at hx; cases hx
  | cons x' ys =>
   rw [hl] at hx
   simp at hx
   obtain ⟨h1, h2⟩ := hx
   subst h2
   exact ⟨x', by rw [← Array.toArray_toList (xs := cl.args), hl], h1⟩
 have argsOk : ∀ l : List (A U), Zz (cl.args.toList.map ρ) = some l → RAs U c l (cl.args.map a.eval).toList := fun l hl => by
  have hargs := Z3H _ _ hl
  refine ⟨by have := congrArg List.length hargs; simpa using this, fun k x hk => ?_⟩
  have h1 : (cl.args.toList.map ρ)[k]? = some (some x) := by rw [hargs, List.getElem?_map, hk]; rfl
  rw [List.getElem?_map] at h1
  cases hz : cl.args.toList[k]? with
  | none => simp [hz] at h1
  | some z =>
   simp [hz] at h1
   refine ⟨a.eval z, ?_, hρ z (List.mem_of_getElem? hz) _ h1⟩
   rw [Array.toList_map, List.getElem?_map, hz]; rfl
 have enter : ∀ (f : Nat) (N : Native U) (l : List (A U)), Γ f = some N → Zz (cl.args.toList.map ρ) = some l → (N l h' nx).outs = some out →
   ((do let d ← resolve a.eval cl ty; invoke d.target d.args : Sem Next) = callFunc f (cl.args.map a.eval)) →
   Does P (Post U c Φ h nx out w) ((do let d ← resolve a.eval cl ty; invoke d.target d.args : Sem Next).run P w) := fun f N l hN hl ho hres => by
  have hR := argsOk l hl
  rw [hres]
  exact hΓ f N hN l h' nx out ho c Φ h w (cl.args.map a.eval) hg hag hf hR
 unfold Z79 at ho
 split at ho
 ·rename_i f hc
  split at ho
  ·rename_i N l hN hl
   exact enter f N l hN hl ho (Z4u hc)
  ·exact (Z1 ho).elim
 ·rename_i t hc
  split at ho
  ·rename_i f hfn
   split at ho
   ·rename_i N l hN hl
    refine enter f N l hN hl ho ?_
    cases hr : ρ (.tmp t) with
    | none => rw [hr] at hfn; cases hfn
    | some v =>
     rw [hr] at hfn
     have hv := hce _ hc v hr
     unfold fnOf at hfn
     split at hfn
     ·rename_i f' x y he
      cases he
      simp only [Bool.cond_eq_ite, Bool.and_eq_true, Nat.beq_eq] at hfn
      split at hfn
      ·rename_i hz
       cases hfn
       have e : a.eval (.tmp t) = .func (.func f) x y := R.val' (show R U c (.val (.func (.func f) x y)) _ from hv)
       exact Z4Y hc (by rw [e, Array.eq_empty_of_size_eq_zero hz.1, Array.eq_empty_of_size_eq_zero hz.2])
      ·cases hfn
     ·cases hfn
   ·exact (Z1 ho).elim
  ·split at ho
   ·rename_i f ps hcl
    split at ho
    ·rename_i N l hN hl
     have hr := Z6S hcl
     obtain ⟨vs, hv, hps⟩ := Z5u (show R U c (.clo f ps) _ from hce _ hc _ hr)
     rw [Z4U hc hv]
     refine hΓ f N hN _ h' nx out ho c Φ h w (cl.args.map a.eval ++ vs) hg hag hf ?_
     rw [Array.toList_append]
     exact RAs.append (argsOk l hl) hps
    ·exact (Z1 ho).elim
   ·exact (Z1 ho).elim
 ·rename_i hc
  split at ho
  ·rename_i x t hx ht
   cases hb : lenT P t x with
   | false => simp [hb] at ho; exact (Z1 ho).elim
   | true =>
    simp only [hb, cond_true] at ho
    have hl : ∃ y, cl.args = #[y] ∧ ρ y = some x := by
     cases hl : cl.args.toList with
     | nil => rw [hl] at hx; cases hx
     | cons y ys =>
      rw [hl] at hx
      simp at hx
      obtain ⟨h1, h2⟩ := hx
      subst h2
      exact ⟨y, by rw [← Array.toArray_toList (xs := cl.args), hl], h1⟩
    obtain ⟨y, hy, hy2⟩ := hl
    have hq := len_ok' (P := P) (w := w) (c := c) (ty := ty) (ts := cl.argTypes) ho (hρ y (by rw [hy]; simp) _ hy2) (by rw [← Array.getElem?_toList, ht]; rfl) hb
    have := hq.does (nx := nx) hg
    rw [Zy hc, show cl.args.map a.eval = #[a.eval y] by rw [hy]; simp]
    exact this
  ·exact (Z1 ho).elim
 ·rename_i hc
  split at ho
  ·rename_i x y t t2 hx ht
   have hl : ∃ x' y', cl.args = #[x', y'] ∧ ρ x' = some x ∧ ρ y' = some y := by
    cases hl : cl.args.toList with
    | nil => rw [hl] at hx; cases hx
    | cons x' ys =>
     rw [hl] at hx
     cases ys with
     | nil => simp at hx
     | cons y' zs =>
      simp at hx
      obtain ⟨h1, h2, h3⟩ := hx
      subst h3
      exact ⟨x', y', by rw [← Array.toArray_toList (xs := cl.args), hl], h1, h2⟩
   obtain ⟨x', y', hl, h1, h2⟩ := hl
   have htt : cl.argTypes = #[t, t2] := by rw [← Array.toArray_toList (xs := cl.argTypes), ht]
   obtain ⟨v, w', c', Φ', hrun, hS⟩ := Z8c (ty := ty) hU ho hag hg (hρ x' (by rw [hl]; simp) _ h1) (hρ y' (by rw [hl]; simp) _ h2) (fun h0 => hf nx (Nat.le_refl _) (by omega))
   rw [Zy hc, show cl.args.map a.eval = #[a.eval x', a.eval y'] by rw [hl]; simp, htt]
   exact Does.value hrun ⟨c', Φ', hS⟩
  ·exact (Z1 ho).elim
 ·rename_i hc
  split at ho
  ·rename_i x y t t2 hx ht
   have hl : ∃ x' y', cl.args = #[x', y'] ∧ ρ x' = some x ∧ ρ y' = some y := by
    cases hl : cl.args.toList with
    | nil => rw [hl] at hx; cases hx
    | cons x' ys =>
     rw [hl] at hx
     cases ys with
     | nil => simp at hx
     | cons y' zs =>
      simp at hx
      obtain ⟨h1, h2, h3⟩ := hx
      subst h3
      exact ⟨x', y', by rw [← Array.toArray_toList (xs := cl.args), hl], h1, h2⟩
   obtain ⟨x', y', hl, h1, h2⟩ := hl
   have htt : cl.argTypes = #[t, t2] := by rw [← Array.toArray_toList (xs := cl.argTypes), ht]
   obtain ⟨v, w', c', Φ', hrun, hS⟩ := copy_ok (ty := ty) (t2 := t2) (nx := nx) hU ho hag hg (hρ x' (by rw [hl]; simp) _ h1) (hρ y' (by rw [hl]; simp) _ h2)
   rw [Zy hc, show cl.args.map a.eval = #[a.eval x', a.eval y'] by rw [hl]; simp, htt]
   exact Does.value hrun ⟨c', Φ', hS⟩
  ·exact (Z1 ho).elim
 ·rename_i hc
  split at ho
  ·rename_i x y hx
   obtain ⟨x', y', hl, h1, h2⟩ := two _ _ hx
   have e1 := R.valEq (show R U c _ _ from hρ x' (by rw [hl]; simp) _ h1)
   have e2 := R.valEq (show R U c _ _ from hρ y' (by rw [hl]; simp) _ h2)
   have := Zl ho; subst this
   rw [Zy hc, show cl.args.map a.eval = #[a.eval x', a.eval y'] by rw [hl]; simp, e1, e2]
   exact Does.value (show (Builtin.complex_ cl.argTypes ty #[.float .f64 x, .float .f64 y]).run P w = .ok (.complex .f64 x y) w from rfl) ⟨c, Φ, Step1.pure hg (.val rfl)⟩
  ·exact (Z1 ho).elim
 ·rename_i hc
  split at ho
  ·rename_i x y hx
   obtain ⟨x', hl, h1⟩ := single _ hx
   have e1 := R.valEq (show R U c _ _ from hρ x' (by rw [hl]; simp) _ h1)
   have := Zl ho; subst this
   rw [Zy hc, show cl.args.map a.eval = #[a.eval x'] by rw [hl]; simp, e1]
   exact Does.value (show (Builtin.real_ cl.argTypes ty #[.complex .f64 x y]).run P w = .ok (.float .f64 x) w from rfl) ⟨c, Φ, Step1.pure hg (.val rfl)⟩
  ·exact (Z1 ho).elim
 ·rename_i hc
  split at ho
  ·rename_i x y hx
   obtain ⟨x', hl, h1⟩ := single _ hx
   have e1 := R.valEq (show R U c _ _ from hρ x' (by rw [hl]; simp) _ h1)
   have := Zl ho; subst this
   rw [Zy hc, show cl.args.map a.eval = #[a.eval x'] by rw [hl]; simp, e1]
   exact Does.value (show (Builtin.imag_ cl.argTypes ty #[.complex .f64 x y]).run P w = .ok (.float .f64 y) w from rfl) ⟨c, Φ, Step1.pure hg (.val rfl)⟩
  ·exact (Z1 ho).elim
 ·rename_i hc
  split at ho
  ·rename_i x r hx
   split at ho
   ·rename_i n hn
    have := Zl ho; subst this
    obtain ⟨rest, h1, h2⟩ := hfold false x r n hx hn
    have hrun : (Builtin.min_ cl.argTypes ty (cl.args.map a.eval)).run P w = .ok (.int .i64 n) w := by
     unfold Builtin.min_
     rw [Array.toList_map, h1]
     show (rest.foldlM Builtin.min2 _).run P w = _
     rw [show (rest.foldlM Builtin.min2 (Value.int .i64 x) : Sem Value) = pure (.int .i64 n) from h2]; rfl
    rw [Zy hc]
    exact Does.value hrun ⟨c, Φ, Step1.pure hg (.val rfl)⟩
   ·exact (Z1 ho).elim
  ·exact (Z1 ho).elim
 ·rename_i hc
  split at ho
  ·rename_i x r hx
   split at ho
   ·rename_i n hn
    have := Zl ho; subst this
    obtain ⟨rest, h1, h2⟩ := hfold true x r n hx hn
    have hrun : (Builtin.max_ cl.argTypes ty (cl.args.map a.eval)).run P w = .ok (.int .i64 n) w := by
     unfold Builtin.max_
     rw [Array.toList_map, h1]
     show (rest.foldlM Builtin.max2 _).run P w = _
     rw [show (rest.foldlM Builtin.max2 (Value.int .i64 x) : Sem Value) = pure (.int .i64 n) from h2]; rfl
    rw [Zy hc]
    exact Does.value hrun ⟨c, Φ, Step1.pure hg (.val rfl)⟩
   ·exact (Z1 ho).elim
  ·exact (Z1 ho).elim
 ·exact (Z1 ho).elim
end Go.Rf
namespace Go.Rf
set_option linter.unusedVariables false
variable {U : Univ} {P : Program}
def idxB (s : ByteArray) (c : Int) : Int := Lib.indexByte s.data.toList c.toNat.toUInt8
def Z9s : Native U := fun as _ _ =>
 match as with
 | [.v ⟨false, [.val (.string s)]⟩, .v ⟨false, [.val (.int .u8 c)]⟩] => .ok { v := scv (.int .i64 (idxB s c)) }
 | _ => .fail
theorem Z7S {as : List (A U)} {c : Cx} {vs : Array Value} {v : Value} (hRA : RAs U c [.v ⟨false, [.val v]⟩] vs.toList) : vs = #[v] := by
 obtain ⟨v0, h1, h2⟩ := hRA.at_ 0 _ rfl
 have hlen := hRA.len
 rw [R.valEq (show R U c _ v0 from h2)] at h1
 obtain ⟨l⟩ := vs
 match l, hlen with
 | [x], _ =>
  simp at h1
  rw [h1]
def Z2l (x : Nat) : Option Nat :=
 match FloatKind.f64.decode x with
 | .nan _ _ => none
 | d => some (FloatKind.f64.encode (d.integral .zero))
def Z5c : Native U := fun as _ _ =>
 match as with
 | [.v ⟨false, [.val (.float .f64 b)]⟩] => .opt Nat (Z2l b) fun r => { v := scv (.float .f64 r) }
 | _ => .fail
theorem Z7H {f : Nat} {fn : Func} (hf : P.funcs[f]? = some fn) (hname : (fn.name == "runtime.NumGoroutine") = false) (hb : fn.body.isNone = true) (hn : Extern.findNext fn = none) (he : Extern.find fn = some (Extern.MathFloor.toIntegral "math.archTrunc" .zero)) :
  Zw U P f Z5c := by
 intro as h' nx out ho c Φ h w vs hg hag hfresh hRA
 unfold Z5c at ho
 split at ho
 ·rename_i b
  obtain ⟨r, hr, rfl⟩ := Z3B ho
  rw [Z7S (as := []) hRA]
  rw [run_callFunc_extern hf hname hb hn he]
  have hrun : (Extern.MathFloor.toIntegral "math.archTrunc" .zero #[.float .f64 b]).run P w = .ok (.float .f64 r) w := by
   obtain ⟨F, key⟩ : ∃ F : Bool → Nat → Sem Value, Extern.MathFloor.toIntegral "math.archTrunc" .zero #[.float .f64 b] = (match FloatKind.f64.decode b with
    | .nan s t => F s t
    | d => pure (.float .f64 (FloatKind.f64.encode (d.integral .zero)))) := ⟨_, rfl⟩
   rw [key]
   unfold Z2l at hr
   cases hd : FloatKind.f64.decode b with
   | nan s t => rw [hd] at hr; cases hr
   | number s m e => rw [hd] at hr; cases hr; rfl
   | infinity s => rw [hd] at hr; cases hr; rfl
  rw [hrun]
  exact ⟨c, Φ, Step1.pure hg (R.val rfl)⟩
 ·exact (Z1 ho).elim
def Z3D : Native U := fun as _ _ =>
 match as with
 | [.v ⟨false, [.val (.float .f64 b)]⟩] => .ok { v := scv (.int .u64 (b : Int)) }
 | _ => .fail
theorem Z6A {f : Nat} {fn : Func} (hf : P.funcs[f]? = some fn) (hname : (fn.name == "runtime.NumGoroutine") = false) (hb : fn.body.isNone = true) (hn : Extern.findNext fn = none) (he : Extern.find fn = some Extern.MathFloatBits.float64bits) :
  Zw U P f Z3D := by
 intro as h' nx out ho c Φ h w vs hg hag hfresh hRA
 unfold Z3D at ho
 split at ho
 ·rename_i b
  have := Zq ho
  subst this
  rw [Z7S (as := []) hRA]
  rw [run_callFunc_extern hf hname hb hn he]
  exact ⟨c, Φ, Step1.pure hg (R.val rfl)⟩
 ·exact (Z1 ho).elim
end Go.Rf
namespace Go.Rf
set_option linter.unusedVariables false
set_option linter.unusedSimpArgs false
variable {U : Univ} {P : Program} {c : Cx} {Φ : Nat → Nat → Nat → Prop} {h : Heap U} {nx : Nat} {w : World}
def redoΦ (es : List (Nat × Ent U)) (Fs Φ : Nat → Nat → Nat → Prop) : Nat → Nat → Nat → Prop := fun t => if t ∈ es.map (·.1) then Fs t else Φ t
theorem redo_in {es : List (Nat × Ent U)} {Fs Φ : Nat → Nat → Nat → Prop} {t : Nat} (ht : t ∈ es.map (·.1)) : redoΦ es Fs Φ t = Fs t := by unfold redoΦ; rw [if_pos ht]
theorem Z8X {es : List (Nat × Ent U)} {Fs Φ : Nat → Nat → Nat → Prop} {t : Nat} (ht : t ∉ es.map (·.1)) : redoΦ es Fs Φ t = Φ t := by unfold redoΦ; rw [if_neg ht]
theorem G.redo (hU : U.Ok) (hg : G U c Φ h w) {es : List (Nat × Ent U)} {Fs : Nat → Nat → Nat → Prop} {nw : Nat} {c' : Cx} {v : A U} {p : Value} {rd : List Nat} (hle : c.Le c')
  (hL : ∀ t i, ¬ (nx ≤ t ∧ t < nx + nw) → c'.L t i = c.L t i) (hf : Fresh c h nx nw) (hI : c'.I = c.I)
  (hents : ∀ t e, get es t = some e → EntOK c' w t (Fs t) e)
  (hsub : ∀ t b o, t ∈ es.map (·.1) → Fs t b o → ∃ t', t' ∈ es.map (·.1) ∧ (get h t').isSome ∧ Φ t' b o)
  (hdis : ∀ t t' b o, t ∈ es.map (·.1) → t' ∈ es.map (·.1) → t ≠ t' → Fs t b o → ¬ Fs t' b o)
  (hnames : ∀ t, t ∈ es.map (·.1) → (nx ≤ t ∧ t < nx + nw) ∨ (get h t).isSome) (hv : RA U c' v p) :
  Step1 U c Φ h nx { v := v, rd := rd, w := es, nw := nw } w c' (redoΦ es Fs Φ) p w := by
 have hin : ∀ t, t ∈ es.map (·.1) → redoΦ es Fs Φ t = Fs t := fun t ht => redo_in ht
 have hout : ∀ t, t ∉ es.map (·.1) → redoΦ es Fs Φ t = Φ t := fun t ht => Z8X ht
 have hget : ∀ t, t ∉ es.map (·.1) → get (es ++ h) t = get h t := fun t ht => by rw [Zd, Zc ht]
 refine ⟨hle, fun t i h _ => hL t i h, hv, ⟨fun t e ht => ?_, fun t t' b o hne h1 h2 h3 h4 => ?_, fun b o u hu => hg.imm b o u (by rw [← hI]; exact hu), fun t b o h1 h2 => ?_⟩, .refl _ _, hout, fun t b o ht hF => ?_, hnames, fun b o u hu => .inl (by rw [← hI]; exact hu)⟩
 ·by_cases hm : t ∈ es.map (·.1)
  ·rw [hin t hm]
   rw [Zd] at ht
   obtain ⟨e', he'⟩ := Option.isSome_iff_exists.1 (Z1c hm)
   rw [he'] at ht; cases ht
   exact hents t e he'
  ·rw [hout t hm]
   rw [hget t hm] at ht
   refine (hg.ents t e ht).stays hU hle (fun i => hL t i fun hn => ?_) (Agr.refl _ _)
   rw [(hf t hn.1 hn.2).1] at ht; cases ht
 ·by_cases hm : t ∈ es.map (·.1)
  ·rw [hin t hm] at h3
   by_cases hm' : t' ∈ es.map (·.1)
   ·rw [hin t' hm'] at h4; exact hdis t t' b o hm hm' hne h3 h4
   ·rw [hout t' hm'] at h4
    rw [hget t' hm'] at h2
    obtain ⟨t2, p1, p2, p3⟩ := hsub t b o hm h3
    exact hg.apart t2 t' b o (fun e => hm' (e ▸ p1)) p2 h2 p3 h4
  ·rw [hout t hm] at h3
   rw [hget t hm] at h1
   by_cases hm' : t' ∈ es.map (·.1)
   ·rw [hin t' hm'] at h4
    obtain ⟨t2, p1, p2, p3⟩ := hsub t' b o hm' h4
    exact hg.apart t2 t b o (fun e => hm (e ▸ p1)) p2 h1 p3 h3
   ·rw [hout t' hm'] at h4
    rw [hget t' hm'] at h2
    exact hg.apart t t' b o hne h1 h2 h3 h4
 ·rw [hI]
  by_cases hm : t ∈ es.map (·.1)
  ·rw [hin t hm] at h2
   obtain ⟨t2, _, p2, p3⟩ := hsub t b o hm h2
   exact hg.immApart t2 b o p2 p3
  ·rw [hout t hm] at h2
   rw [hget t hm] at h1
   exact hg.immApart t b o h1 h2
 ·rw [hin t ht] at hF
  obtain ⟨t2, p1, p2, p3⟩ := hsub t b o ht hF
  exact .inr ⟨t2, p1, p2, p3⟩
theorem Z34 {u : U.C} : ∀ (n : Nat) (l : List U.S) (xs : List (U.D u)), Z1q u n l = some xs → xs.length = n ∧ ∀ i, i < n → U.dec u (dropT (i * U.size u) (U.size u) l) = some (xs.getD i (U.dft u))
 | 0, l, xs, hd => by
  unfold Z1q at hd
  cases l with
  | nil => simp at hd; subst hd; exact ⟨rfl, fun i hi => by omega⟩
  | cons x l => cases hd
 | n + 1, l, xs, hd => by
  unfold Z1q at hd
  split at hd
  ·rename_i x r hx hr
   cases hd
   obtain ⟨h2, h3⟩ := Z34 n _ r hr
   refine ⟨by simp [h2], fun i hi => ?_⟩
   cases i with
   | zero => simpa [dropT] using hx
   | succ i =>
    have := h3 i (by omega)
    simp only [List.getD_cons_succ]
    rw [← this]
    unfold dropT
    rw [List.drop_drop, Nat.succ_mul, Nat.add_comm]
  ·cases hd
theorem Pl.sub {b o off n : Nat} {cells : List U.S} {Gk : Nat → Nat → Nat → Prop} (hP : Pl U c w b o cells Gk) (hl : (dropT off n cells).length = n) : Pl U c w b (o + off) (dropT off n cells) (fun k => Gk (off + k)) := by
 have hlt : ∀ k, k < n → off + k < cells.length := fun k hk => by
  have : (dropT off n cells)[k]? = some (dropT off n cells)[k] := List.getElem?_eq_getElem (by omega)
  exact (List.getElem?_eq_some_iff.1 (Z10 this).2).1
 refine ⟨fun k x hk => ?_, fun j k b' o' hj hk hne => hP.dis (off + j) (off + k) b' o' (hlt j (by omega)) (hlt k (by omega)) (by omega)⟩
 rw [Nat.add_assoc]
 exact hP.own _ _ (Z10 hk).2
theorem Z4Z {α : Type} {off n i m : Nat} {l : List α} (h : i + m ≤ n) : dropT i m (dropT off n l) = dropT (off + i) m l := by
 apply List.ext_getElem?
 intro k
 by_cases hk : k < m
 ·rw [Z1h hk, Z1h (by omega), Z1h hk, Nat.add_assoc]
 ·rw [List.getElem?_eq_none (by simp [dropT]; omega), List.getElem?_eq_none (by simp [dropT]; omega)]
theorem Z1b {i n k m : Nat} (hi : i < n) (hk : k < m) : i * m + k < n * m := by
 calc i * m + k < i * m + m := by omega
  _ = (i + 1) * m := by rw [Nat.succ_mul]
  _ ≤ n * m := Nat.mul_le_mul_right _ hi
theorem Z7v (hU : U.Ok) {s b o n : Nat} {u : U.C} {f : Nat → U.D u} {Gk : Nat → Nat → Nat → Prop} (hL : ∀ i, i < n → c.L s i = some (b, o + i * U.size u)) (hL1 : ∀ i x, c.L s i = some x → i < n)
  (hP : ∀ i, i < n → Pl U c w b (o + i * U.size u) (U.enc u (f i)) (fun k => Gk (i * U.size u + k))) (hd : ∀ j k b' o', j < n * U.size u → k < n * U.size u → j ≠ k → Gk j b' o' → ¬ Gk k b' o') :
  EntOK c w s (fun b' o' => ∃ k, k < n * U.size u ∧ Gk k b' o') (.fam true u n f : Ent U) := by
 refine ⟨fun i => (b, o + i * U.size u), fun i k => Gk (i * U.size u + k), hL, hL1, fun i hi => hP i hi, fun i j k l b' o' hi hj hk hl hne h1 h2 => ?_, fun b' o' => ⟨?_, ?_⟩, fun _ i _ => by simp⟩
 ·refine hd _ _ _ _ (Z1b hi hk) (Z1b hj hl) (fun e => hne ?_) h1 h2
  have hpos : 0 < U.size u := by omega
  have d1 : (i * U.size u + k) / U.size u = i := by rw [Nat.add_comm, Nat.add_mul_div_right _ _ hpos, Nat.div_eq_of_lt hk]; omega
  have d2 : (j * U.size u + l) / U.size u = j := by rw [Nat.add_comm, Nat.add_mul_div_right _ _ hpos, Nat.div_eq_of_lt hl]; omega
  rw [← d1, e, d2]
 ·rintro ⟨k, hk, hg⟩
  have hpos : 0 < U.size u := by
   rcases Nat.eq_zero_or_pos (U.size u) with h0 | h0
   ·rw [h0] at hk; simp at hk
   ·exact h0
  exact ⟨k / U.size u, k % U.size u, (Nat.div_lt_iff_lt_mul hpos).2 hk, Nat.mod_lt k hpos, by show Gk (k / U.size u * U.size u + k % U.size u) b' o'; rw [Nat.div_add_mod']; exact hg⟩
 ·rintro ⟨i, k, hi, hk, hg⟩
  exact ⟨_, Z1b hi hk, hg⟩
theorem Z7m (hU : U.Ok) {s n off : Nat} {cells cells' : List U.S} {u : U.C} {f : Nat → U.D u} {v : A U} {p : Value} {rd : List Nat} (hg : G U c Φ h w) (hk : get h s = some (.obj cells))
  (hn : get h nx = none) (hc : ∀ k, c.L nx k = none) {b o : Nat} {Gk : Nat → Nat → Nat → Prop} (hL : c.L s 0 = some (b, o)) (hL1 : ∀ i x, c.L s i = some x → i = 0)
  {K : Nat → Prop} {Gn : Nat → Nat → Nat → Prop} (hΦ : ∀ b' o', Φ s b' o' ↔ ∃ k, k < cells.length ∧ Gk k b' o')
  (hKn : ∀ b' o', (∃ k, k < n * U.size u ∧ Gn k b' o') ↔ ∃ k, k < cells.length ∧ K k ∧ Gk k b' o')
  (hdis : ∀ j k b' o', j < cells.length → k < cells.length → j ≠ k → Gk j b' o' → ¬ Gk k b' o')
  (hdn : ∀ j k b' o', j < n * U.size u → k < n * U.size u → j ≠ k → Gn j b' o' → ¬ Gn k b' o')
  (hlen : cells'.length = cells.length)
  (hcells : ∀ c' : Cx, c.Le c' → c'.L nx 0 = some (b, o + off) → ∀ k x, cells'[k]? = some x → (K k → x = .hole ∨ (x = .arr nx ∧ k = off)) ∧ (¬ K k → Own U c' w b (o + k) x (Gk k)))
  (hP : ∀ i, i < n → Pl U c w b (o + off + i * U.size u) (U.enc u (f i)) (fun k => Gn (i * U.size u + k))) (hn0 : 0 < n)
  (hv : ∀ c' : Cx, c.Le c' → (∀ i, i < n → c'.L nx i = some (b, o + off + i * U.size u)) → RA U c' v p) :
  ∃ c' Φ', Step1 U c Φ h nx { v := v, rd := rd, w := [(nx, .fam true u n f), (s, .obj cells')], nw := 1 } w c' Φ' p w := by
 have hsome : (get h s).isSome := by rw [hk]; rfl
 have hne : s ≠ nx := fun e => by rw [e, hn] at hk; cases hk
 let c' := c.withL nx fun i => if i < n then some (b, o + off + i * U.size u) else none
 have hle : c.Le c' := Cx.withL_le hc
 have hL' : ∀ i, i < n → c'.L nx i = some (b, o + off + i * U.size u) := fun i hi => by simp [c', Cx.withL, hi]
 have hLo : ∀ t i, t ≠ nx → c'.L t i = c.L t i := fun t i ht => by simp [c', Cx.withL, ht]
 let F1 : Nat → Nat → Prop := fun b' o' => ∃ k, k < cells.length ∧ ¬ K k ∧ Gk k b' o'
 let F2 : Nat → Nat → Prop := fun b' o' => ∃ k, k < n * U.size u ∧ Gn k b' o'
 have hm : ∀ t, t ∈ [(nx, (Ent.fam true u n f : Ent U)), (s, .obj cells')].map (·.1) ↔ t = nx ∨ t = s := fun t => by simp
 refine ⟨c', _, G.redo (Fs := fun t => if t = nx then F2 else F1) hU hg hle (fun t i ht => hLo t i fun e => ht (by omega)) (fun t h1 h2 => (show t = nx by omega) ▸ ⟨hn, hc⟩) rfl (fun t e ht => ?_) (fun t b' o' ht hF => ?_) (fun t t' b' o' ht ht' hne' h1 h2 => ?_) (fun t ht => ?_) (hv c' hle hL')⟩
 ·rw [Z5] at ht
  by_cases ha : nx = t
  ·subst ha
   rw [if_pos rfl] at ht; cases ht
   simp only [if_pos rfl]
   refine Z7v hU hL' (fun i x hx => ?_) (fun i hi => (hP i hi).stays hU hle fun _ _ => Agr.refl _ _) hdn
   by_cases hi : i < n
   ·exact hi
   ·simp [c', Cx.withL, hi] at hx
  ·rw [if_neg ha, Z5] at ht
   by_cases hb : s = t
   ·subst hb
    rw [if_pos rfl] at ht; cases ht
    rw [if_neg (fun e => ha e.symm)]
    refine ⟨b, o, fun k b' o' => ¬ K k ∧ Gk k b' o', by rw [hLo s 0 hne]; exact hL, fun i x hx => hL1 i x (by rw [← hLo s i hne]; exact hx), ⟨fun k x hx => ?_, fun j k b' o' hj hk hne h1 h2 => hdis j k b' o' (by omega) (by omega) hne h1.2 h2.2⟩, fun b' o' => by rw [hlen]⟩
    have h0 := hL' 0 hn0
    rw [Nat.zero_mul, Nat.add_zero] at h0
    obtain ⟨h1, h2⟩ := hcells c' hle h0 k x hx
    rcases Classical.em (K k) with hK | hK
    ·rcases h1 hK with rfl | ⟨rfl, rfl⟩
     ·exact .hole fun _ _ hh => hh.1 hK
     ·exact .arr h0 fun _ _ hh => hh.1 hK
    ·exact (h2 hK).iff fun b' o' => ⟨fun hh => ⟨hK, hh⟩, fun hh => hh.2⟩
   ·rw [if_neg hb] at ht; cases ht
 ·refine ⟨s, (hm s).2 (.inr rfl), hsome, (hΦ _ _).2 ?_⟩
  by_cases ha : t = nx
  ·subst ha
   simp only [if_pos rfl] at hF
   obtain ⟨k, h1, _, h2⟩ := (hKn _ _).1 hF
   exact ⟨k, h1, h2⟩
  ·simp only [if_neg ha] at hF
   obtain ⟨k, h1, _, h2⟩ := hF
   exact ⟨k, h1, h2⟩
 ·have main : F1 b' o' → F2 b' o' → False := fun ⟨k, h1, h2, h3⟩ hF => by
   obtain ⟨j, h4, h5, h6⟩ := (hKn _ _).1 hF
   by_cases e : k = j
   ·subst e; exact h2 h5
   ·exact hdis k j b' o' h1 h4 e h3 h6
  rcases (hm t).1 ht with rfl | rfl
  ·rcases (hm t').1 ht' with rfl | rfl
   ·exact hne' rfl
   ·simp only [if_pos rfl] at h1
    rw [if_neg hne] at h2
    exact main h2 h1
  ·rcases (hm t').1 ht' with rfl | rfl
   ·rw [if_neg hne] at h1
    simp only [if_pos rfl] at h2
    exact main h1 h2
   ·exact hne' rfl
 ·rcases (hm t).1 ht with rfl | rfl
  ·exact .inl ⟨by omega, by omega⟩
  ·exact .inr hsome
theorem Z4h (hU : U.Ok) {s len e off m : Nat} {cells cells' : List U.S} {en : Ent U} {v : A U} {p : Value} {rd : List Nat} (ho : Z2Y P len e off cells nx = some (en, cells', m)) (hg : G U c Φ h w) (hk : get h s = some (.obj cells))
  (h2 : 1 ≤ len) (hn : get h nx = none) (hc : ∀ k, c.L nx k = none) {b o : Nat} (hL : c.L s 0 = some (b, o))
  (hv : ∀ c' : Cx, c.Le c' → (∀ i, i < len → c'.L nx i = some (b, o + off + i * m)) → RA U c' v p) :
  ∃ c' Φ', Step1 U c Φ h nx { v := v, rd := rd, w := [(nx, en), (s, .obj cells')], nw := 1 } w c' Φ' p w := by
 obtain ⟨b1, o1, Gk, e1, e2, hP, hΦ⟩ := hg.ents s _ hk
 rw [hL] at e1; cases e1
 have hne : s ≠ nx := fun e => by rw [e, hn] at hk; cases hk
 unfold Z2Y at ho
 split at ho
 ·rename_i u n f hcell
  cases hb : Nat.beq n len with
  | false => rw [hb] at ho; cases ho
  | true =>
   rw [hb] at ho
   have := nbeq hb
   subst this
   cases ho
   have hlt := (List.getElem?_eq_some_iff.1 hcell).1
   have hown := hP.own off _ hcell
   cases hown with
   | cell hr _ _ _ => cases hr
   | @aarr _ _ _ _ _ _ Gn hkn hdn hFn =>
    refine Z7m (K := fun k => k = off) (Gn := Gn) hU hg hk hn hc hL e2 hΦ (fun b' o' => ?_) hP.dis hdn (by rw [Zm]; simp; omega) (fun c' hle hL0 k x hx => ⟨fun hK => ?_, fun hK => ?_⟩) (fun i hi => ⟨fun k x hx => ?_, fun j k b' o' hj hk hne => ?_⟩) h2 hv
    ·rw [← hFn]
     constructor
     ·intro hh; exact ⟨off, hlt, rfl, hh⟩
     ·rintro ⟨k, _, rfl, hh⟩; exact hh
    ·subst hK
     have := Zv (off := k) (k := 0) (new := [S.arr nx]) (l := cells) (by simp; omega) (by simp)
     rw [Nat.add_zero] at this
     rw [this] at hx
     simp at hx; subst hx
     exact .inr ⟨rfl, rfl⟩
    ·rw [Zo (by simp; omega) (by simp; omega)] at hx
     exact (hP.own k x hx).stays hU hle (Agr.refl _ _)
    ·have hk' : k < U.size u := by have := (List.getElem?_eq_some_iff.1 hx).1; rwa [hU.enc_len] at this
     have := hkn (i * U.size u + k) x (by rw [Z1a hU u n f hi hk']; exact hx)
     rwa [← Nat.add_assoc] at this
    ·rw [hU.enc_len] at hj hk
     exact hdn _ _ _ _ (Z1b hi hj) (Z1b hi hk) (by omega)
 ·split at ho
  ·rename_i m' u hm hu
   cases hb : Nat.beq m' (U.size u) && Nat.ble 1 m' && Nat.beq (dropT off (len * m') cells).length (len * m') && (dropT off (len * m') cells).all Zf with
   | false => rw [hb] at ho; cases ho
   | true =>
    rw [hb] at ho
    simp only [cond_true] at ho
    simp only [Bool.and_eq_true] at hb
    obtain ⟨⟨⟨c1, c2⟩, c4⟩, c5⟩ := hb
    have c1 := nbeq c1
    subst c1
    have c2 := Nat.le_of_ble_eq_true c2
    have c4 := nbeq c4
    split at ho
    ·rename_i xs hx
     cases ho
     have hpos : 1 ≤ len * U.size u := Nat.mul_pos h2 c2
     have hcl : off + len * U.size u ≤ cells.length := by
      have := c4; unfold dropT at this; simp at this; omega
     have hnl : (S.arr nx :: List.replicate (len * U.size u - 1) S.hole : List U.S).length = len * U.size u := by simp; omega
     obtain ⟨hxl, hxa⟩ := Z34 _ _ _ hx
     refine Z7m (K := fun k => off ≤ k ∧ k < off + len * U.size u) (Gn := fun k => Gk (off + k)) hU hg hk hn hc hL e2 hΦ (fun b' o' => ?_) hP.dis (fun j k b' o' hj hk hne => hP.dis _ _ _ _ (by omega) (by omega) (by omega)) (by rw [Zm]; omega)
      (fun c' hle hL0 k x hx => ⟨fun hK => ?_, fun hK => ?_⟩) (fun i hi => ?_) h2 hv
     ·constructor
      ·rintro ⟨k, h3, h4⟩; exact ⟨off + k, by omega, ⟨by omega, by omega⟩, h4⟩
      ·rintro ⟨k, h3, h4, h5⟩; exact ⟨k - off, by omega, by rw [show off + (k - off) = k by omega]; exact h5⟩
     ·obtain ⟨j, rfl⟩ : ∃ j, k = off + j := ⟨k - off, by omega⟩
      rw [Zv (by omega) (by omega)] at hx
      cases j with
      | zero => simp at hx; subst hx; exact .inr ⟨rfl, by omega⟩
      | succ j =>
       have hj' : j < len * U.size u - 1 := by omega
       simp [List.getElem?_replicate, hj'] at hx
       exact .inl hx.symm
     ·rw [Zo (by omega) (by omega)] at hx
      exact (hP.own k x hx).stays hU hle (Agr.refl _ _)
     ·have hle2 : i * U.size u + U.size u ≤ len * U.size u := by
       have : (i + 1) * U.size u ≤ len * U.size u := Nat.mul_le_mul_right _ hi
       rwa [Nat.succ_mul] at this
      have h3 := hxa i hi
      rw [Z4Z hle2] at h3
      have h4 := (hP.sub (off := off + i * U.size u) (n := U.size u) (hU.dec_len _ _ _ h3)).dec hU h3
      have e5 : o + (off + i * U.size u) = o + off + i * U.size u := by omega
      rw [e5] at h4
      have e6 : (fun k => Gk (off + i * U.size u + k)) = fun k => Gk (off + (i * U.size u + k)) := by funext k; rw [Nat.add_assoc]
      rw [e6] at h4
      exact h4
    ·cases ho
  ·cases ho
theorem Z7w (hU : U.Ok) {h' : Heap U} {t : TypeId} {a b : A U} {r : OpR U} {out : Out U} {p q : Value} (hr : Z57 P t a b h' nx = some r) (ho : r.outs = some out)
  (hag : ∀ s, s ∈ out.rd ∨ s ∈ out.w.map (·.1) → get h s = get h' s) (hg : G U c Φ h w) (hf : Fresh c h nx out.nw) (ha : RA U c a p) (hb : RA U c b q) :
  ∃ u w' c' Φ', (Instr.indexAt t p q).run P w = .ok u w' ∧ Step1 U c Φ h nx out w c' Φ' u w' := by
 unfold Z57 at hr
 split at hr
 ·rename_i len e s off k n hu
  split at hr
  ·rename_i m cells hm he
   cases hc : Nat.ble 2 len with
   | false => rw [hc] at hr; cases hr
   | true =>
    rw [hc] at hr
    simp only [cond_true] at hr
    split at hr
    ·rename_i en cells' m' hx
     cases hmm : Nat.beq m m' with
     | false => rw [hmm] at hr; cases hr
     | true =>
      rw [hmm] at hr
      have := nbeq hmm
      subst this
      cases hr
      obtain ⟨hin, rfl⟩ := Zb ho
      have he' : get h s = some (.obj cells) := by rw [hag s (.inl (by simp))]; exact he
      cases R.int (show R U c _ q from hb)
      obtain ⟨b, o, hL, rfl⟩ : ∃ b o, c.L s 0 = some (b, o) ∧ p = .pointer (some (at_ b (o + off))) := by
       cases (show R U c _ p from ha) with | ptr h0 => exact ⟨_, _, h0, rfl⟩
      obtain ⟨h0, h1, h2⟩ := ZT hin
      obtain ⟨hn, hs⟩ := hf nx (Nat.le_refl _) (by simp)
      obtain ⟨c', Φ', hst⟩ := Z4h (v := Rf.sc (.ptr nx n.toNat 0)) (p := .pointer (some (at_ b (o + off + n.toNat * m)))) (rd := [s]) hU hx hg he' (by have := Nat.le_of_ble_eq_true hc; omega) hn hs hL
       (fun c' hle hL' => by
        have := R.ptr (U := U) (c := c') (s := nx) (i := n.toNat) (off := 0) (hL' n.toNat h2)
        exact this)
      refine ⟨_, w, c', Φ', ?_, hst⟩
      simp only [Instr.indexAt, Sem.run_bind, Z19, Result.andThen_ok, run_underlying hu]
      simp [h0, h1, Z7 hm, Zs, Instr.sureAddr]
    ·cases hr
  ·cases hr
 ·cases hr
end Go.Rf
namespace Go.Rf
set_option linter.unusedVariables false
set_option linter.unusedSimpArgs false
variable {U : Univ} {P : Program} {c : Cx} {Φ : Nat → Nat → Nat → Prop} {h : Heap U} {nx : Nat} {w : World}
theorem Step1.comp {c1 c2 : Cx} {Φ1 Φ2 : Nat → Nat → Nat → Prop} {w1 w2 : World} {o1 o2 : Out U} {p u : Value} {rd : List Nat} (h1 : Step1 U c Φ h nx o1 w c1 Φ1 p w1)
  (h2 : Step1 U c1 Φ1 (o1.w ++ h) (nx + o1.nw) o2 w1 c2 Φ2 u w2) : Step1 U c Φ h nx { v := o2.v, rd := rd, w := o2.w ++ o1.w, nw := o1.nw + o2.nw } w c2 Φ2 u w2 := by
 have hmem : ∀ s, s ∈ (o2.w ++ o1.w).map (·.1) ↔ s ∈ o2.w.map (·.1) ∨ s ∈ o1.w.map (·.1) := fun s => by rw [List.map_append, List.mem_append]
 have hback : ∀ s b o, s ∈ o2.w.map (·.1) → (get (o1.w ++ h) s).isSome → Φ1 s b o → w.heap.size ≤ b ∨ ∃ s', s' ∈ (o2.w ++ o1.w).map (·.1) ∧ (get h s').isSome ∧ Φ s' b o := fun s b o hs hg hf => by
  by_cases hm : s ∈ o1.w.map (·.1)
  ·rcases h1.footw s b o hm hf with h3 | ⟨s', h3, h4, h5⟩
   ·exact .inl h3
   ·exact .inr ⟨s', (hmem s').2 (.inr h3), h4, h5⟩
  ·rw [h1.foot s hm] at hf
   rw [Zd, Zc hm] at hg
   exact .inr ⟨s, (hmem s).2 (.inl hs), hg, hf⟩
 refine ⟨h1.le.trans h2.le, fun s i hs hf => (h2.L s i (fun hh => hs ?_) (fun hh => hf ⟨hh.1, (hmem s).2 (.inl hh.2)⟩)).trans (h1.L s i (fun hh => hs ?_) (fun hh => hf ⟨hh.1, (hmem s).2 (.inr hh.2)⟩)), h2.val, ?_, ?_, fun s hs => ?_, fun s b o hs hf => ?_, fun s hs => ?_, fun b o v hI => ?_⟩
 ·simp only; omega
 ·simp only; omega
 ·rw [List.append_assoc]; exact h2.g
 ·refine (h1.fr.mono fun b o _ ⟨s, p1, p2, p3⟩ => ⟨s, (hmem s).2 (.inr p1), p2, p3⟩).trans h2.fr fun b o hb ⟨s, p1, p2, p3⟩ => ?_
  rcases hback s b o p1 p2 p3 with p4 | p4
  ·omega
  ·exact p4
 ·have hs' := fun hh => hs ((hmem s).2 hh)
  rw [h2.foot s fun hh => hs' (.inl hh), h1.foot s fun hh => hs' (.inr hh)]
 ·by_cases hm : s ∈ o2.w.map (·.1)
  ·rcases h2.footw s b o hm hf with p1 | ⟨s', p1, p2, p3⟩
   ·exact .inl (Nat.le_trans h1.fr.size p1)
   ·exact hback s' b o p1 p2 p3
  ·rw [h2.foot s hm] at hf
   have hm1 : s ∈ o1.w.map (·.1) := ((hmem s).1 hs).resolve_left hm
   rcases h1.footw s b o hm1 hf with p1 | ⟨s', p1, p2, p3⟩
   ·exact .inl p1
   ·exact .inr ⟨s', (hmem s').2 (.inr p1), p2, p3⟩
 ·rcases (hmem s).1 hs with hm | hm
  ·rcases h2.names s hm with p1 | p1
   ·left; simp only; omega
   ·rw [Zd] at p1
    by_cases hm1 : s ∈ o1.w.map (·.1)
    ·rcases h1.names s hm1 with p2 | p2
     ·left; simp only; omega
     ·exact .inr p2
    ·rw [Zc hm1] at p1; exact .inr p1
  ·rcases h1.names s hm with p2 | p2
   ·left; simp only; omega
   ·exact .inr p2
 ·rcases h2.inew b o v hI with p1 | p1 | ⟨s, p1, p2, p3⟩
  ·rcases h1.inew b o v p1 with p4 | p4 | ⟨s, p4, p5, p6⟩
   ·exact .inl p4
   ·exact .inr (.inl p4)
   ·exact .inr (.inr ⟨s, (hmem s).2 (.inr p4), p5, p6⟩)
  ·exact .inr (.inl (Nat.le_trans h1.fr.size p1))
  ·exact .inr (hback s b o p1 p2 p3)
theorem Z1M (hg : G U c Φ h w) {s : Nat} {e e' : Ent U} {rd : List Nat} (hk : get h s = some e) (hle : ∀ F, EntOK c w s F e → EntOK c w s F e') :
  Step1 U c Φ h nx { v := .t [], rd := rd, w := [(s, e')] } w c Φ undef w := by
 have hsome : (get h s).isSome := by rw [hk]; rfl
 have hget : ∀ t, (get ((s, e') :: h) t).isSome → (get h t).isSome := fun t ht => by
  rw [Z5] at ht
  by_cases e : s = t
  ·subst e; exact hsome
  ·rwa [if_neg e] at ht
 refine ⟨.refl c, fun _ _ _ _ => rfl, RA.undef, ⟨fun t e1 ht => ?_, fun t t' b o hne h1 h2 h3 => hg.apart t t' b o hne (hget t h1) (hget t' h2) h3, hg.imm, fun t b o h1 h2 => hg.immApart t b o (hget t h1) h2⟩, .refl _ _, fun _ _ => rfl, fun t b o ht hF => ?_, fun t ht => ?_, fun _ _ _ h => .inl h⟩
 ·have ht : get ((s, e') :: h) t = some e1 := ht
  rw [Z5] at ht
  by_cases e2 : s = t
  ·subst e2; rw [if_pos rfl] at ht; cases ht; exact hle _ (hg.ents s e hk)
  ·rw [if_neg e2] at ht; exact hg.ents t e1 ht
 ·have : t = s := by simpa using ht
  subst this
  exact .inr ⟨t, ht, hsome, hF⟩
 ·have : t = s := by simpa using ht
  subst this
  exact .inr hsome
theorem Z8Z (hU : U.Ok) {t b o n : Nat} {u : U.C} {f : Nat → U.D u} {F : Nat → Nat → Prop} (h : EntOK c w t F (.fam true u n f : Ent U)) (hL : c.L t 0 = some (b, o)) :
  ∃ Gn : Nat → Nat → Nat → Prop, (∀ (k : Nat) x, (flat u n f)[k]? = some x → Own U c w b (o + k) x (Gn k)) ∧ (∀ j k b' o', j < n * U.size u → k < n * U.size u → j ≠ k → Gn j b' o' → ¬ Gn k b' o') ∧
   (∀ b' o', F b' o' ↔ ∃ k, k < n * U.size u ∧ Gn k b' o') ∧ 0 < n ∧ (∀ i, i < n → c.L t i = some (b, o + i * U.size u)) := by
 obtain ⟨A, G, h0, h1, h2, h3, h4, h5⟩ := h
 have hn := h1 0 _ hL
 have hA0 := h0 0 hn
 rw [hL] at hA0
 simp only [Option.some.injEq] at hA0
 have hA : ∀ i, i < n → A i = (b, o + i * U.size u) := fun i hi => by rw [h5 rfl i hi, ← hA0]
 have hdm : ∀ i k, k < U.size u → (i * U.size u + k) / U.size u = i ∧ (i * U.size u + k) % U.size u = k := fun i k hk => by
  have hpos : 0 < U.size u := by omega
  exact ⟨by rw [Nat.add_comm, Nat.add_mul_div_right _ _ hpos, Nat.div_eq_of_lt hk]; omega, by rw [Nat.add_comm, Nat.add_mul_mod_self_right, Nat.mod_eq_of_lt hk]⟩
 refine ⟨fun j => G (j / U.size u) (j % U.size u), fun k x hk => ?_, fun j k b' o' hj hk hne hf hf' => ?_, fun b' o' => ?_, hn, fun i hi => by rw [h0 i hi, hA i hi]⟩
 ·obtain ⟨i, k', hi, hk', rfl, hx⟩ := Z2C hU u n f hk
  have := (h2 i hi).own k' x hx
  rw [hA i hi] at this
  try dsimp only
  rw [(hdm i k' hk').1, (hdm i k' hk').2, ← Nat.add_assoc]
  exact this
 ·have hpos : 0 < U.size u := by
   rcases Nat.eq_zero_or_pos (U.size u) with hz | hz
   ·rw [hz] at hj; simp at hj
   ·exact hz
  have hji : j / U.size u < n := (Nat.div_lt_iff_lt_mul hpos).2 hj
  have hki : k / U.size u < n := (Nat.div_lt_iff_lt_mul hpos).2 hk
  by_cases e : j / U.size u = k / U.size u
  ·have hm : j % U.size u ≠ k % U.size u := fun e2 => hne (by rw [← Nat.div_add_mod' j (U.size u), ← Nat.div_add_mod' k (U.size u), e, e2])
   try dsimp only at hf hf'
   rw [e] at hf
   exact (h2 _ hki).dis _ _ b' o' (by rw [hU.enc_len]; exact Nat.mod_lt _ hpos) (by rw [hU.enc_len]; exact Nat.mod_lt _ hpos) hm hf hf'
  ·exact h3 _ _ _ _ b' o' hji hki (Nat.mod_lt _ hpos) (Nat.mod_lt _ hpos) e hf hf'
 ·rw [h4]
  constructor
  ·rintro ⟨i, k, hi, hk, hf⟩
   exact ⟨i * U.size u + k, Z1b hi hk, by dsimp only; rw [(hdm i k hk).1, (hdm i k hk).2]; exact hf⟩
  ·rintro ⟨k, hk, hf⟩
   have hpos : 0 < U.size u := by
    rcases Nat.eq_zero_or_pos (U.size u) with hz | hz
    ·rw [hz] at hk; simp at hk
    ·exact hz
   exact ⟨_, _, (Nat.div_lt_iff_lt_mul hpos).2 hk, Nat.mod_lt _ hpos, hf⟩
theorem Z5G (hU : U.Ok) (hg : G U c Φ h w) {s t k m : Nat} {cells : List U.S} {u : U.C} {f : Nat → U.D u} {rd : List Nat} (hk : get h s = some (.obj cells)) (hc : cells[k]? = some (.arr t)) (ht : get h t = some (.fam true u m f)) :
  ∃ Φ', Step1 U c Φ h nx { v := .t [], rd := rd, w := [(s, .obj (Zj k (.aarr u m f) cells)), (t, .dead)] } w c Φ' undef w := by
 have hne : s ≠ t := fun e => by rw [e, ht] at hk; cases hk
 have hlt := (List.getElem?_eq_some_iff.1 hc).1
 obtain ⟨b, o, Gk, e1, e2, hP, hΦ⟩ := hg.ents s _ hk
 obtain ⟨hL, hnone⟩ := (hP.own k _ hc).arrL
 obtain ⟨Gn, n1, n2, n3, n4, _⟩ := Z8Z hU (hg.ents t _ ht) hL
 have hss : (get h s).isSome := by rw [hk]; rfl
 have hts : (get h t).isSome := by rw [ht]; rfl
 have hm : ∀ x, x ∈ [(s, (Ent.obj (Zj k (.aarr u m f) cells) : Ent U)), (t, .dead)].map (·.1) ↔ x = s ∨ x = t := fun x => by simp
 have hcross : ∀ j b' o', j < cells.length → Gk j b' o' → ¬ Φ t b' o' := fun j b' o' hj hf => hg.apart s t b' o' hne hss hts ((hΦ _ _).2 ⟨j, hj, hf⟩)
 refine ⟨_, G.redo (Fs := fun x => if x = s then (fun b' o' => Φ s b' o' ∨ Φ t b' o') else fun _ _ => False) hU hg (.refl c) (fun _ _ _ => rfl) (fun _ h1 h2 => by omega) rfl (fun x e hx => ?_) (fun x b' o' hx hF => ?_) (fun x x' b' o' hx hx' hxx h1 h2 => ?_) (fun x hx => ?_) RA.undef⟩
 ·rw [Z5] at hx
  by_cases ha : s = x
  ·subst ha
   rw [if_pos rfl] at hx; cases hx
   simp only [if_pos rfl]
   refine ⟨b, o, fun j => if j = k then Φ t else Gk j, e1, e2, ⟨fun j x hj => ?_, fun i j b' o' hi hj hne' h1 h2 => ?_⟩, fun b' o' => ?_⟩
   ·rw [Z6s hlt] at hj
    by_cases e : j = k
    ·subst e
     rw [if_pos rfl] at hj; cases hj
     try dsimp only
     rw [if_pos rfl]
     exact .aarr Gn n1 n2 n3
    ·rw [if_neg e] at hj
     try dsimp only
     rw [if_neg e]
     exact hP.own j x hj
   ·rw [Z2e hlt] at hi hj
    try dsimp only at h1 h2
    by_cases e : i = k
    ·rw [if_pos e] at h1
     rw [if_neg (fun e' => hne' (e.trans e'.symm))] at h2
     exact hcross j b' o' hj h2 h1
    ·rw [if_neg e] at h1
     by_cases e' : j = k
     ·rw [if_pos e'] at h2
      exact hcross i b' o' hi h1 h2
     ·rw [if_neg e'] at h2
      exact hP.dis i j b' o' hi hj hne' h1 h2
   ·rw [Z2e hlt]
    constructor
    ·rintro (q | q)
     ·obtain ⟨j, hj, hf⟩ := (hΦ _ _).1 q
      have : j ≠ k := fun e => hnone _ _ (e ▸ hf)
      exact ⟨j, hj, by dsimp only; rw [if_neg this]; exact hf⟩
     ·exact ⟨k, hlt, by dsimp only; rw [if_pos rfl]; exact q⟩
    ·rintro ⟨j, hj, hf⟩
     try dsimp only at hf
     by_cases e : j = k
     ·rw [if_pos e] at hf; exact .inr hf
     ·rw [if_neg e] at hf; exact .inl ((hΦ _ _).2 ⟨j, hj, hf⟩)
  ·rw [if_neg ha, Z5] at hx
   by_cases hb : t = x
   ·subst hb
    rw [if_pos rfl] at hx; cases hx
    rw [if_neg (fun e => ha e.symm)]
    exact fun _ _ h => h
   ·rw [if_neg hb] at hx; cases hx
 ·by_cases ha : x = s
  ·simp only [if_pos ha] at hF
   rcases hF with q | q
   ·exact ⟨s, (hm s).2 (.inl rfl), hss, q⟩
   ·exact ⟨t, (hm t).2 (.inr rfl), hts, q⟩
  ·simp only [if_neg ha] at hF
 ·rcases (hm x).1 hx with rfl | rfl
  ·rcases (hm x').1 hx' with rfl | rfl
   ·exact hxx rfl
   ·rw [if_neg (fun e => hne e.symm)] at h2; exact h2
  ·rw [if_neg (fun e => hne e.symm)] at h1; exact h1
 ·rcases (hm x).1 hx with rfl | rfl
  ·exact .inr hss
  ·exact .inr hts
theorem Z8w (hU : U.Ok) {s k m : Nat} {F : Nat → Nat → Prop} {cells : List U.S} {u : U.C} {f : Nat → U.D u} (hc : cells[k]? = some (.aarr u m f)) (hlen : (dropT (k + 1) (m * U.size u - 1) cells).length = m * U.size u - 1)
  (hh : (dropT (k + 1) (m * U.size u - 1) cells).all Z4z = true) (h1 : 1 ≤ m * U.size u) (hE : EntOK c w s F (.obj cells : Ent U)) : EntOK c w s F (.obj (splice k (flat u m f) cells) : Ent U) := by
 obtain ⟨b, o, Gk, e1, e2, hP, hΦ⟩ := hE
 have hlt := (List.getElem?_eq_some_iff.1 hc).1
 have hfl := ZI hU u m f
 have hcl : k + m * U.size u ≤ cells.length := by
  have := hlen; unfold dropT at this; simp at this; omega
 have hhole : ∀ j, k < j → j < k + m * U.size u → cells[j]? = some .hole := fun j h2 h3 => by
  have hj : j - (k + 1) < m * U.size u - 1 := by omega
  have h4 : (dropT (k + 1) (m * U.size u - 1) cells)[j - (k + 1)]? = cells[j]? := by rw [Z1h hj]; congr 1; omega
  have h5 : j < cells.length := by omega
  rw [List.getElem?_eq_getElem h5] at h4
  have := List.all_eq_true.1 hh _ (List.mem_of_getElem? h4)
  rw [List.getElem?_eq_getElem h5]
  cases hx : cells[j] <;> rw [hx] at this <;> first | rfl | cases this
 cases hP.own k _ hc with
 | cell hr _ _ _ => cases hr
 | @aarr _ _ _ _ _ _ Gn hkn hdn hFn =>
  have hempty : ∀ j b' o', k < j → j < k + m * U.size u → ¬ Gk j b' o' := fun j b' o' h2 h3 hf => by
   cases hP.own j _ (hhole j h2 h3) with
   | cell hr _ _ _ => cases hr
   | hole hF => exact hF _ _ hf
  refine ⟨b, o, fun j b' o' => if k ≤ j ∧ j < k + m * U.size u then Gn (j - k) b' o' else Gk j b' o', e1, e2, ⟨fun j x hj => ?_, fun i j b' o' hi hj hne f1 f2 => ?_⟩, fun b' o' => ?_⟩
  ·try dsimp only
   by_cases hin : k ≤ j ∧ j < k + m * U.size u
   ·obtain ⟨i, rfl⟩ : ∃ i, j = k + i := ⟨j - k, by omega⟩
    rw [Zv (by rw [hfl]; exact hcl) (by rw [hfl]; omega)] at hj
    simp only [if_pos hin]
    rw [show k + i - k = i by omega, ← Nat.add_assoc]
    exact hkn i x hj
   ·rw [Zo (by rw [hfl]; exact hcl) (by rw [hfl]; omega)] at hj
    simp only [if_neg hin]
    exact hP.own j x hj
  ·rw [Zm (by rw [hfl]; exact hcl)] at hi hj
   try dsimp only at f1 f2
   by_cases hi' : k ≤ i ∧ i < k + m * U.size u
   ·rw [if_pos hi'] at f1
    by_cases hj' : k ≤ j ∧ j < k + m * U.size u
    ·rw [if_pos hj'] at f2
     exact hdn _ _ b' o' (by omega) (by omega) (by omega) f1 f2
    ·rw [if_neg hj'] at f2
     exact hP.dis k j b' o' hlt hj (by omega) ((hFn _ _).2 ⟨i - k, by omega, f1⟩) f2
   ·rw [if_neg hi'] at f1
    by_cases hj' : k ≤ j ∧ j < k + m * U.size u
    ·rw [if_pos hj'] at f2
     exact hP.dis i k b' o' hi hlt (by omega) f1 ((hFn _ _).2 ⟨j - k, by omega, f2⟩)
    ·rw [if_neg hj'] at f2
     exact hP.dis i j b' o' hi hj hne f1 f2
  ·rw [Zm (by rw [hfl]; exact hcl), hΦ]
   constructor
   ·rintro ⟨j, hj, hf⟩
    by_cases e : j = k
    ·subst e
     obtain ⟨i, hi, hf⟩ := (hFn _ _).1 hf
     exact ⟨j + i, by omega, by dsimp only; rw [if_pos ⟨by omega, by omega⟩, show j + i - j = i by omega]; exact hf⟩
    ·by_cases hin : k ≤ j ∧ j < k + m * U.size u
     ·exact (hempty j b' o' (by omega) hin.2 hf).elim
     ·exact ⟨j, hj, by dsimp only; rw [if_neg hin]; exact hf⟩
   ·rintro ⟨j, hj, hf⟩
    by_cases hin : k ≤ j ∧ j < k + m * U.size u
    ·rw [if_pos hin] at hf
     exact ⟨k, hlt, (hFn _ _).2 ⟨j - k, by omega, hf⟩⟩
    ·rw [if_neg hin] at hf
     exact ⟨j, hj, hf⟩
theorem Z5n : ∀ (l : List U.S) (k j : Nat) (x : U.S), Z25 l k = some (j, x) → k ≤ j ∧ l[j - k]? = some x
 | [], k, j, x, h => by cases h
 | y :: r, k, j, x, h => by
  unfold Z25 at h
  cases hb : isArr y with
  | true =>
   rw [hb] at h
   cases h
   exact ⟨Nat.le_refl _, by simp⟩
  | false =>
   rw [hb] at h
   obtain ⟨h1, h2⟩ := Z5n r (k + 1) j x h
   refine ⟨by omega, ?_⟩
   rw [show j - k = (j - (k + 1)) + 1 by omega, List.getElem?_cons_succ]
   exact h2
theorem Z47 {l : List U.S} {off n j : Nat} {x : U.S} (h : Z25 (dropT off n l) 0 = some (j, x)) : l[off + j]? = some x := by
 obtain ⟨_, h2⟩ := Z5n _ _ _ _ h
 rw [Nat.sub_zero] at h2
 exact (Z10 h2).2
theorem prep_in (fu s off n : Nat) (h : Heap U) : s ∈ Z2w fu s off n h := by
 induction fu generalizing h with
 | zero => simp [Z2w]
 | succ fu ih =>
  unfold Z2w
  split
  ·split
   ·split
    ·exact List.mem_cons_of_mem _ (ih _)
    ·simp
   ·cases hb : Nat.beq _ _ && _ && _ with
    | true => simp only [cond_true]; exact ih _
    | false => simp
   ·simp
  ·simp
theorem ZR {e h h' : Heap U} {x : Nat} (hx : get h x = get h' x) : get (e ++ h) x = get (e ++ h') x := by rw [Zd, Zd, hx]
theorem Z3V (s off n : Nat) : ∀ (fu : Nat) (h h' : Heap U), (∀ x, x ∈ Z2w fu s off n h' → get h x = get h' x) → Z1v fu s off n h = Z1v fu s off n h'
 | 0, h, h', _ => rfl
 | fu + 1, h, h', ha => by
  have hs := ha s (prep_in _ _ _ _ _)
  unfold Z1v
  unfold Z2w at ha
  rw [hs]
  cases he : get h' s with
  | none => rfl
  | some e =>
   rw [he] at ha
   cases e with
   | obj cells =>
    simp only at ha ⊢
    cases hfa : Z25 (dropT off n cells) 0 with
    | none => rfl
    | some p =>
     obtain ⟨k, x⟩ := p
     rw [hfa] at ha
     cases x with
     | arr t =>
      simp only at ha ⊢
      have ht : get h t = get h' t := ha t (by
       split
       ·exact List.mem_cons_self ..
       ·simp)
      rw [ht]
      cases htt : get h' t with
      | none => rfl
      | some e =>
       rw [htt] at ha
       cases e with
       | fam ct u m f =>
        cases ct with
        | true =>
         simp only at ha ⊢
         rw [Z3V s off n fu _ _ fun x hx => ZR (ha x (List.mem_cons_of_mem _ hx))]
        | false => rfl
       | _ => rfl
     | aarr u m f =>
      simp only at ha ⊢
      cases hb : Nat.beq (dropT (off + k + 1) (m * U.size u - 1) cells).length (m * U.size u - 1) && (dropT (off + k + 1) (m * U.size u - 1) cells).all Z4z && Nat.ble 1 (m * U.size u) with
      | false => rfl
      | true =>
       rw [hb] at ha
       simp only [cond_true] at ha ⊢
       rw [Z3V s off n fu _ _ fun x hx => ZR (ha x hx)]
     | _ => rfl
   | _ => rfl
theorem Z5j (hU : U.Ok) (s off n : Nat) : ∀ (fu : Nat) (h : Heap U) (Φ : Nat → Nat → Nat → Prop), G U c Φ h w → ∃ Φ', Step1 U c Φ h nx { v := .t [], w := Z1v fu s off n h } w c Φ' undef w
 | 0, h, Φ, hg => ⟨Φ, Step1.pure hg RA.undef⟩
 | fu + 1, h, Φ, hg => by
  unfold Z1v
  split
  ·rename_i cells he
   split
   ·rename_i k t hfa
    split
    ·rename_i u m f ht
     obtain ⟨Φ1, h1⟩ := Z5G (nx := nx) (rd := []) hU hg he (Z47 hfa) ht
     obtain ⟨Φ2, h2⟩ := Z5j hU s off n fu _ Φ1 h1.g
     exact ⟨Φ2, h1.comp (rd := []) h2⟩
    ·exact ⟨Φ, Step1.pure hg RA.undef⟩
   ·rename_i k u m f hfa
    cases hb : Nat.beq (dropT (off + k + 1) (m * U.size u - 1) cells).length (m * U.size u - 1) && (dropT (off + k + 1) (m * U.size u - 1) cells).all Z4z && Nat.ble 1 (m * U.size u) with
    | false => exact ⟨Φ, Step1.pure hg RA.undef⟩
    | true =>
     simp only [cond_true]
     simp only [Bool.and_eq_true] at hb
     have h1 := Z1M (nx := nx) (rd := []) hg he fun F => Z8w (c := c) (w := w) (s := s) (F := F) hU (Z47 hfa) (nbeq hb.1.1) hb.1.2 (Nat.le_of_ble_eq_true hb.2)
     obtain ⟨Φ2, h2⟩ := Z5j hU s off n fu _ Φ h1.g
     exact ⟨Φ2, h1.comp (rd := []) h2⟩
   ·exact ⟨Φ, Step1.pure hg RA.undef⟩
  ·exact ⟨Φ, Step1.pure hg RA.undef⟩
theorem Z4o {r : OpR U} {e : List (Nat × Ent U)} {rd : List Nat} {out : Out U} (h : (r.addW e rd).outs = some out) : ∃ o, r.outs = some o ∧ out = { v := o.v, rd := rd ++ o.rd, w := o.w ++ e, nw := o.nw } := by
 cases r with
 | fail => cases h
 | ok o => cases h; exact ⟨o, rfl, rfl⟩
 | chk b o =>
  cases b with
  | true => cases h; exact ⟨o, rfl, rfl⟩
  | false => cases h
 | opt α x k =>
  cases x with
  | none => cases h
  | some y => cases h; exact ⟨k y, rfl, rfl⟩
 | two b x y =>
  cases b with
  | true => cases h; exact ⟨x, rfl, rfl⟩
  | false => cases h; exact ⟨y, rfl, rfl⟩
theorem Z3x (hU : U.Ok) {h' : Heap U} {t : TypeId} {a : A U} {k : Heap U → OpR U} {out : Out U} (ho : (prepped P t a h' k).outs = some out)
  (hag : ∀ s, s ∈ out.rd ∨ s ∈ out.w.map (·.1) → get h s = get h' s) (hg : G U c Φ h w) {post : Value → World → Prop}
  (hk : ∀ (h1 h1' : Heap U) (Φ1 : Nat → Nat → Nat → Prop) (o : Out U), (k h1').outs = some o → (∀ s, s ∈ o.rd ∨ s ∈ o.w.map (·.1) → get h1 s = get h1' s) → G U c Φ1 h1 w →
   ∃ u w', post u w' ∧ ∃ c' Φ', Step1 U c Φ1 h1 nx o w c' Φ' u w') : ∃ u w', post u w' ∧ ∃ c' Φ', Step1 U c Φ h nx out w c' Φ' u w' := by
 unfold prepped at ho
 split at ho
 ·rename_i s off n _
  have plain : (k h').outs = some out → ∃ u w', post u w' ∧ ∃ c' Φ', Step1 U c Φ h nx out w c' Φ' u w' := fun ho => hk h h' Φ out ho hag hg
  split at ho
  ·exact plain ho
  ·rename_i e hne
   obtain ⟨o, h1, rfl⟩ := Z4o ho
   have hc : Z1v 8 s off n h = Z1v 8 s off n h' := Z3V s off n 8 h h' fun x hx => hag x (.inl (by simp [hx]))
   obtain ⟨Φ1, h2⟩ := Z5j (nx := nx) hU s off n 8 h Φ hg
   rw [hc] at h2
   obtain ⟨u, w', h3, c', Φ', h4⟩ := hk (Z1v 8 s off n h' ++ h) (Z1v 8 s off n h' ++ h') Φ1 o h1 (fun x hx => by
    rw [Zd, Zd]
    cases hm : get (Z1v 8 s off n h') x with
    | some e => rfl
    | none =>
     refine hag x ?_
     rcases hx with hx | hx
     ·exact .inl (List.mem_append_right _ hx)
     ·exact .inr (by rw [List.map_append]; exact List.mem_append_left _ hx)) h2.g
   refine ⟨u, w', h3, c', Φ', ?_⟩
   have := h2.comp (rd := Z2w 8 s off n h' ++ o.rd) h4
   simp only [Nat.zero_add] at this
   exact this
 ·exact hk h h' Φ out ho hag hg
theorem Z75 (hU : U.Ok) {h' : Heap U} {t : TypeId} {a : A U} {xl xh xm : Option (Option (A U))} {yl yh ym : Option Value} {r : OpR U} {out : Out U} {p : Value} (hr : Z4d P t a xl xh xm h' nx = some r) (ho : r.outs = some out)
  (hag : ∀ s, s ∈ out.rd ∨ s ∈ out.w.map (·.1) → get h s = get h' s) (hg : G U c Φ h w) (hf : Fresh c h nx out.nw) (ha : RA U c a p) (hl : Z1n U c xl yl) (hh : Z1n U c xh yh) (hm : Z1n U c xm ym) :
  ∃ u w' c' Φ', (Instr.sliceAt t p yl yh ym).run P w = .ok u w' ∧ Step1 U c Φ h nx out w c' Φ' u w' := by
 unfold Z4d at hr
 split at hr
 ·rename_i len e s off hu
  split at hr
  ·rename_i m l rr cells hs h1 h2 he
   cases hc : Nat.ble 1 len with
   | false => rw [hc] at hr; cases hr
   | true =>
    rw [hc] at hr
    simp only [cond_true] at hr
    split at hr
    ·rename_i en cells' m' hx
     cases hmm : Nat.beq m m' with
     | false => rw [hmm] at hr; cases hr
     | true =>
      rw [hmm] at hr
      have := nbeq hmm
      subst this
      cases hr
      obtain ⟨hin, rfl⟩ := Zb ho
      obtain ⟨e0, e1, e2⟩ := ZS hin
      have he' : get h s = some (.obj cells) := by rw [hag s (.inl (by simp))]; exact he
      obtain ⟨b, o, hL, rfl⟩ : ∃ b o, c.L s 0 = some (b, o) ∧ p = .pointer (some (at_ b (o + off))) := by
       cases (show R U c _ p from ha) with | ptr h0 => exact ⟨_, _, h0, rfl⟩
      obtain ⟨hn, hs0⟩ := hf nx (Nat.le_refl _) (by simp)
      cases ym with
      | some v => exact hm.elim
      | none =>
       have hb := ZX (P := P) (w := w) (isS := false) (Zi h1 hl) (Zi h2 hh) e0 e1 e2 (Nat.le_refl _)
       obtain ⟨c', Φ', hst⟩ := Z4h (v := Rf.sc (.sl nx l.toNat (rr.toNat - l.toNat))) (p := .slice (some (if len = l.toNat then at_ b (o + off) else (at_ b (o + off)).add (l.toNat * m))) (rr.toNat - l.toNat) (len - l.toNat)) (rd := [s]) hU hx hg he' (Nat.le_of_ble_eq_true hc) hn hs0 hL
        (fun c' hle hL' => by
         refine R.sl (b := b) (o := o + off + l.toNat * m) (by omega) (fun hpos => ⟨hL' _ (by omega), ?_⟩) (fun j hj => ⟨_, hL' _ (by omega)⟩)
         rw [if_neg (by omega), Zs])
       refine ⟨_, w, c', Φ', ?_, hst⟩
       simp [Instr.sliceAt, run_underlying hu, Instr.sureAddr, hb, Z7 hs]
    ·cases hr
  ·cases hr
 ·cases hr
end Go.Rf
namespace Go.Rf
set_option linter.unusedVariables false
set_option linter.unusedSimpArgs false
variable {U : Univ} {P : Program} {c : Cx} {Φ : Nat → Nat → Nat → Prop} {h : Heap U} {nx : Nat} {w : World}
theorem Z5y (z : Array Value) (n : Nat) (hz : 0 < z.size) : (madeCells z (n * z.size)).toList = (List.replicate n z.toList).flatten := Z6v z n hz
theorem Z7R {α : Type} (l : List α) (n i k : Nat) (hi : i < n) (hk : k < l.length) : (List.replicate n l).flatten[i * l.length + k]? = l[k]? := by
 induction n generalizing i with
 | zero => omega
 | succ n ih =>
  rw [List.replicate_succ, List.flatten_cons]
  cases i with
  | zero => rw [Nat.zero_mul, Nat.zero_add, List.getElem?_append_left hk]
  | succ i =>
   rw [List.getElem?_append_right (by rw [Nat.succ_mul]; omega), show (i + 1) * l.length + k - l.length = i * l.length + k by rw [Nat.succ_mul]; omega]
   exact ih i (by omega)
theorem Z84 (hU : U.Ok) {t : TypeId} {lo co : Operand} {x y : A U} {p q : Value} {ev : Operand → Value} {out : Out U} (ho : (Z5x P t (Z1x lo co) x y).outs = some out) (hg : G U c Φ h w)
  (hx : RA U c x p) (hy : RA U c y q) (hp : p = ev lo) (hq : q = ev co) :
  ∃ u w' c' Φ', (Instr.makeSlice t p q).run P w = .ok u w' ∧ Step1 U c Φ h nx out w c' Φ' u w' := by
 unfold Z5x at ho
 split at ho
 ·rename_i e k1 n k2 m hu
  split at ho
  ·rename_i u i z hue hi hz
   cases hb : Z1x lo co && Nat.beq i.size (U.size u) && Nat.ble 1 i.size && i.zero.any (fun v => Nat.beq v.cells.size i.size) with
   | false => rw [hb] at ho; exact (Z1 ho).elim
   | true =>
    rw [hb] at ho
    simp only [cond_true] at ho
    simp only [Bool.and_eq_true] at hb
    obtain ⟨⟨⟨e0, e1⟩, e2⟩, e3⟩ := hb
    split at ho
    ·rename_i d hd
     obtain ⟨hr, rfl⟩ := Zb ho
     have e1 := nbeq e1
     have e2 := Nat.le_of_ble_eq_true e2
     have hpq : p = q := by
      rw [hp, hq]
      unfold Z1x at e0
      split at e0
      ·rw [nbeq e0]
      ·cases e0
     have hp' := R.int (show R U c _ p from hx)
     have hq' := R.int (show R U c _ q from hy)
     rw [hp', hq'] at hpq
     simp only [Value.int.injEq] at hpq
     obtain ⟨rfl, rfl⟩ := hpq
     subst hp'; subst hq'
     have h0 : 0 ≤ n ∧ n ≤ 9223372036854775807 ∧ room n.toNat i.bytes = true := by
      cases h1 : ile 0 n with
      | false => rw [h1] at hr; cases hr
      | true =>
       rw [h1] at hr
       simp only [cond_true] at hr
       cases h2 : ile n 9223372036854775807 with
       | false => rw [h2] at hr; cases hr
       | true =>
        rw [h2] at hr
        exact ⟨by simpa [ile] using h1, by simpa [ile] using h2, hr⟩
     obtain ⟨h0, h63, hroom⟩ := h0
     have hroom := Nat.le_of_ble_eq_true hroom
     obtain ⟨zv, hzr, hzl⟩ := Z13 (c := c) hz
     obtain ⟨iz, hiz⟩ : ∃ v, i.zero = some v := by
      cases hiz : i.zero with
      | none => rw [hiz] at e3; cases e3
      | some v => exact ⟨v, rfl⟩
     have hzv : zv = iz := by
      have := Z1f (P := P) hi hiz w
      rw [hzr w] at this
      cases this; rfl
     subst hzv
     rw [hiz] at e3
     have e3 : zv.cells.size = i.size := nbeq e3
     obtain ⟨N, rfl⟩ : ∃ N : Nat, n = (N : Int) := ⟨n.toNat, by omega⟩
     simp only [Int.toNat_natCast] at hroom ⊢
     have hb' : (i.bytes : Int) * (N : Int) ≤ 281474976710656 := by
      have h : ((i.bytes * N : Nat) : Int) ≤ 281474976710656 := by rw [Nat.mul_comm] at hroom; omega
      rwa [Int.natCast_mul] at h
     have hrun := run_make (P := P) w t e i zv hu hi hiz k1 k1 N N (by omega) (Int.le_refl _) hb' h63
     simp only [Int.toNat_natCast] at hrun
     let r := madeCells zv.cells (N * i.size)
     have hrl : r.toList = (List.replicate N zv.cells.toList).flatten := by
      show (madeCells zv.cells (N * i.size)).toList = _
      rw [← e3]; exact Z5y _ _ (by omega)
     have hsz : r.size = N * i.size := size_madeCells _ _
     let g : Nat → Value := fun o => r.toList.getD o undef
     have hcell : ∀ o, o < N * i.size → (w.alloc (.cells r e)).cell? (at_ w.heap.size o) = some (g o) := fun o ho => by
      have hlt : o < r.toList.length := by simp [hsz]; exact ho
      rw [World.cell?_alloc_new]
      simp only [g, List.getD, List.getElem?_eq_getElem hlt, Option.getD_some]
      simp
     have hle : c.Le (c.withI w.heap.size (N * i.size) g) := Cx.withI_le fun o => by
      cases hI : c.I w.heap.size o with
      | none => rfl
      | some v => exact absurd (hg.immLt hI) (Nat.lt_irrefl _)
     refine ⟨_, _, c.withI w.heap.size (N * i.size) g, Φ, hrun, Step1.imm hU hg (Fr.alloc _ _ _) hcell ?_⟩
     have hds := hU.dec_le u z d hd c _ hzl
     have hzlen : zv.cells.toList.length = U.size u := by rw [← e1, ← e3]; simp
     have hmain : R U (c.withI w.heap.size (N * i.size) g) (.isl .full u (List.replicate N d)) (.slice (some (at_ w.heap.size 0)) (List.replicate N d).length N) := by
      refine R.isl (b := w.heap.size) (o := 0) (fun i k => g (i * U.size u + k)) (by simp) (by simp [TokOK]) (fun _ => rfl) (fun j k hj hk => ?_) (fun j k hj hk => ?_)
      ·simp only [List.length_replicate] at hj
       have hb : j * U.size u + k < N * i.size := by
        rw [e1]
        calc j * U.size u + k < j * U.size u + U.size u := by omega
         _ = (j + 1) * U.size u := by rw [Nat.succ_mul]
         _ ≤ N * U.size u := Nat.mul_le_mul_right _ (by omega)
       simp only [Cx.withI, Nat.zero_add, true_and]
       rw [if_pos hb]
      ·simp only [List.length_replicate] at hj
       have hlt : k < (U.enc u d).length := by rw [hU.enc_len]; exact hk
       obtain ⟨v, hv, hr⟩ := hds.at_ k _ (List.getElem?_eq_getElem hlt)
       have hgv : g (j * U.size u + k) = v := by
        simp only [g]
        refine getD_of_getElem? ?_
        rw [hrl, ← hzlen]
        rw [Z7R _ _ _ _ hj (by rw [hzlen]; exact hk)]
        exact hv
       have hrep : (List.replicate N d).getD j (U.dft u) = d := by simp [List.getD, hj]
       rw [hrep, hgv, getD_of_getElem? (List.getElem?_eq_getElem hlt)]
       exact hr.mono hle
     rw [List.length_replicate] at hmain
     exact hmain
    ·exact (Z1 ho).elim
  ·exact (Z1 ho).elim
 ·exact (Z1 ho).elim
end Go.Rf
namespace Go.Rf
set_option linter.unusedVariables false
set_option linter.unusedSimpArgs false
variable {U : Univ} {P : Program} {c : Cx} {Φ : Nat → Nat → Nat → Prop} {h : Heap U} {nx : Nat} {w : World}
theorem Z88 (hU : U.Ok) {t : TypeId} {lo co : Operand} {x y : A U} {p q : Value} {ev : Operand → Value} {ro : OpR U} {out : Out U} (hro : Z33 P t (Z1x lo co) x y nx = some ro) (ho : ro.outs = some out) (hg : G U c Φ h w) (hs : ∀ i, c.L nx i = none) (hn : get h nx = none)
  (hx : RA U c x p) (hy : RA U c y q) (hp : p = ev lo) (hq : q = ev co) :
  ∃ u w' c' Φ', (Instr.makeSlice t p q).run P w = .ok u w' ∧ Step1 U c Φ h nx out w c' Φ' u w' := by
 unfold Z33 at hro
 split at hro
 ·rename_i e k1 n k2 m hu
  split at hro
  ·rename_i u i z hue hi hz
   cases hb : Z1x lo co && Nat.beq i.size (U.size u) && Nat.ble 1 i.size && i.zero.any (fun v => Nat.beq v.cells.size i.size) && U.plain u with
   | false => rw [hb] at hro; cases hro
   | true =>
    rw [hb] at hro
    simp only [cond_true] at hro
    simp only [Bool.and_eq_true] at hb
    obtain ⟨⟨⟨⟨e0, e1⟩, e2⟩, e3⟩, e5⟩ := hb
    split at hro
    ·rename_i d hd
     cases hro
     obtain ⟨hr, rfl⟩ := Zb ho
     have e1 := nbeq e1
     have e2 := Nat.le_of_ble_eq_true e2
     have hpq : p = q := by
      rw [hp, hq]
      unfold Z1x at e0
      split at e0
      ·rw [nbeq e0]
      ·cases e0
     have hp' := R.int (show R U c _ p from hx)
     have hq' := R.int (show R U c _ q from hy)
     rw [hp', hq'] at hpq
     simp only [Value.int.injEq] at hpq
     obtain ⟨rfl, rfl⟩ := hpq
     subst hp'; subst hq'
     have h0 : 0 ≤ n ∧ n ≤ 9223372036854775807 ∧ room n.toNat i.bytes = true := by
      cases h1 : ile 0 n with
      | false => rw [h1] at hr; cases hr
      | true =>
       rw [h1] at hr
       simp only [cond_true] at hr
       cases h2 : ile n 9223372036854775807 with
       | false => rw [h2] at hr; cases hr
       | true =>
        rw [h2] at hr
        exact ⟨by simpa [ile] using h1, by simpa [ile] using h2, hr⟩
     obtain ⟨h0, h63, hroom⟩ := h0
     have hroom := Nat.le_of_ble_eq_true hroom
     obtain ⟨zv, hzr, hzl⟩ := Z13 (c := c) hz
     obtain ⟨iz, hiz⟩ : ∃ v, i.zero = some v := by
      cases hiz : i.zero with
      | none => rw [hiz] at e3; cases e3
      | some v => exact ⟨v, rfl⟩
     have hzv : zv = iz := by
      have := Z1f (P := P) hi hiz w
      rw [hzr w] at this
      cases this; rfl
     subst hzv
     rw [hiz] at e3
     have e3 : zv.cells.size = i.size := nbeq e3
     obtain ⟨N, rfl⟩ : ∃ N : Nat, n = (N : Int) := ⟨n.toNat, by omega⟩
     simp only [Int.toNat_natCast] at hroom ⊢
     have hb' : (i.bytes : Int) * (N : Int) ≤ 281474976710656 := by
      have h : ((i.bytes * N : Nat) : Int) ≤ 281474976710656 := by rw [Nat.mul_comm] at hroom; omega
      rwa [Int.natCast_mul] at h
     have hrun := run_make (P := P) w t e i zv hu hi hiz k1 k1 N N (by omega) (Int.le_refl _) hb' h63
     simp only [Int.toNat_natCast] at hrun
     let r := madeCells zv.cells (N * i.size)
     have hrl : r.toList = (List.replicate N zv.cells.toList).flatten := by
      show (madeCells zv.cells (N * i.size)).toList = _
      rw [← e3]; exact Z5y _ _ (by omega)
     have hsz : r.size = N * i.size := size_madeCells _ _
     have hcell : ∀ (o : Nat) v, r.toList[o]? = some v → (w.alloc (.cells r e)).cell? (at_ w.heap.size o) = some v := fun o v hv => by
      rw [World.cell?_alloc_new]
      rw [Array.getElem?_toList] at hv
      exact hv
     have hds := hU.dec_le u z d hd c _ hzl
     have hzlen : zv.cells.toList.length = U.size u := by rw [← e1, ← e3]; simp
     obtain ⟨c', Φ', hS⟩ := Step1.fam (nx := nx) (rd := []) (u := u) (f := fun _ => d) (n := N) (vs := r.toList) (a := some (at_ w.heap.size 0)) (cap := N) (N := w.heap.size) (w' := w.alloc (.cells r e)) hU hg hs hn
      ((Fr.alloc _ _ _).mono fun _ _ _ h => h) (Nat.le_refl _) e5 (by rw [Array.length_toList, hsz, e1]) hcell (fun j hj => World.frozen?_alloc_at (w := w) r e w.heap.size j rfl) (fun j k hj hk => by
       have hlt : k < (U.enc u d).length := by rw [hU.enc_len]; exact hk
       obtain ⟨v, hv, hr⟩ := hds.at_ k _ (List.getElem?_eq_getElem hlt)
       refine ⟨v, ?_, ?_⟩
       ·rw [hrl, ← hzlen]
        rw [Z7R _ _ _ _ hj (by rw [hzlen]; exact hk)]
        exact hv
       ·rw [getD_of_getElem? (List.getElem?_eq_getElem hlt)]
        exact hr) (Nat.le_refl _) (fun _ => rfl)
     exact ⟨_, _, c', Φ', hrun, hS⟩
    ·cases hro
  ·cases hro
 ·cases hro
theorem Z9h (hU : U.Ok) {row : Bool} {t : TypeId} {lo co : Operand} {x y : A U} {p q : Value} {ev : Operand → Value} {out : Out U} (ho : (Z66 P row t (Z1x lo co) x y nx).outs = some out) (hg : G U c Φ h w)
  (hx : RA U c x p) (hy : RA U c y q) (hp : p = ev lo) (hq : q = ev co) (hf : 1 ≤ out.nw → get h nx = none ∧ ∀ i, c.L nx i = none) :
  ∃ u w' c' Φ', (Instr.makeSlice t p q).run P w = .ok u w' ∧ Step1 U c Φ h nx out w c' Φ' u w' := by
 unfold Z66 at ho
 cases row with
 | false => exact Z84 hU ho hg hx hy hp hq
 | true =>
  simp only [cond_true] at ho
  split at ho
  ·rename_i r hr
   have hnw : out.nw = 1 := by
    unfold Z33 at hr
    split at hr
    ·split at hr
     ·cases hb : (Z1x lo co && Nat.beq _ _ && _ && _ && _ : Bool) with
      | false => rw [hb] at hr; cases hr
      | true =>
       rw [hb] at hr
       simp only [cond_true] at hr
       split at hr
       ·cases hr
        obtain ⟨_, rfl⟩ := Zb ho; rfl
       ·cases hr
     ·cases hr
    ·cases hr
   obtain ⟨h1, h2⟩ := hf (by omega)
   exact Z88 hU hr ho hg h2 h1 hx hy hp hq
  ·exact Z84 hU ho hg hx hy hp hq
end Go.Rf
namespace Go.Rf
set_option linter.unusedVariables false
set_option linter.unusedSimpArgs false
variable {U : Univ} {P : Program} {c : Cx} {Φ : Nat → Nat → Nat → Prop} {h : Heap U} {nx : Nat} {w : World}
theorem Z90 {t : TypeId} {x : A U} {out : Out U} (ho : (Z3o (U := U) P t x nx).outs = some out) : out.nw = 1 := by
 unfold Z3o at ho
 split at ho
 ·have := Zq ho; subst this; rfl
 ·exact (Z1 ho).elim
theorem Z94 (hU : U.Ok) {t : TypeId} {x : A U} {out : Out U} {p : Value} (ho : (Z3o (U := U) P t x nx).outs = some out) (hx : RA U c x p) (hg : G U c Φ h w) (hs : ∀ i, c.L nx i = none) (hn : get h nx = none) :
  ∃ u w' c' Φ', (Instr.range t p).run P w = .ok u w' ∧ Step1 U c Φ h nx out w c' Φ' u w' := by
 unfold Z3o at ho
 split at ho
 ·rename_i s hu
  have := Zq ho
  subst this
  cases R.valEq (show R U c _ p from hx)
  let c' := c.withL nx fun i => if i = 0 then some (w.heap.size, 0) else none
  have hc : c.Le c' := Cx.withL_le hs
  let F : Nat → Nat → Prop := fun b o => b = w.heap.size
  have hlt : ∀ t b o, (get h t).isSome → Φ t b o → b < w.heap.size := fun t b o ht hf => hg.lt hU ht hf
  have hx0 : c'.L nx 0 = some (w.heap.size, 0) := by simp [c', Cx.withL]
  refine ⟨_, _, c', fup Φ nx F, run_range_string w t s hu, ?_⟩
  refine { le := hc, L := fun s i hsi _ => ?_, val := ?_, g := ?_, fr := Fr.alloc _ _ _, foot := fun s hsn => ?_, footw := fun s b o hsn hf => ?_, names := fun s hsn => ?_, inew := fun _ _ _ h => .inl h }
  ·have : s ≠ nx := fun e => hsi (by subst e; simp)
   simp [c', Cx.withL, this]
  ·exact R.ptr (o := 0) hx0
  ·refine hg.put hU hc (fun t i ht => by simp [c', Cx.withL, ht]) ?_ (fun t _ h1 => (Fr.alloc (fun _ _ => False) w _).agr (fun b o hf => hlt t b o h1 hf) (fun _ _ _ h => h))
    (fun t b o _ h1 hf hF => Nat.lt_irrefl _ (hF ▸ hlt t b o h1 hf))
    (fun b o v hv => (Z16 w _ (Zh (hg.imm b o v hv))).trans (hg.imm b o v hv))
    (fun t b o _ h1 hf => hg.immApart t b o h1 hf)
    (fun b o hF => ?_)
   ·refine ⟨w.heap.size, hx0, fun i x hx => ?_, World.iter_heap w s 0, fun b' o' => Iff.rfl⟩
    simp only [c', Cx.withL, if_true] at hx
    by_cases hi : i = 0
    ·exact hi
    ·simp [hi] at hx
   ·cases hI : c.I b o with
    | none => exact hI
    | some v =>
     have := Zh (hg.imm b o v hI)
     rw [show b = w.heap.size from hF] at this
     exact absurd this (Nat.lt_irrefl _)
  ·simp at hsn; simp [fup, hsn]
  ·simp at hsn; subst hsn
   simp [fup] at hf
   exact .inl (by rw [show b = w.heap.size from hf]; exact Nat.le_refl _)
  ·simp at hsn; subst hsn; exact .inl (by simp)
 ·exact (Z1 ho).elim
theorem Fr.iterAt {F : Nat → Nat → Prop} {k pos pos' : Nat} {s : ByteArray} (hk : w.heap[k]? = some (.stringIter s pos)) (hF : ∀ o, F k o) : Fr F w (w.iterAt k s pos') where
 size := by simp [World.iterAt]
 cell b x hb hn := by
  have hne : b ≠ k := fun e => hn (by rw [e]; exact hF x)
  unfold World.cell?
  rw [Lib.iterAt_other w k b s pos' hne]
 frozen b x hb := by
  unfold World.frozen?
  by_cases e : b = k
  ·subst e
   simp only [at_]
   rw [Lib.iterAt_heap w b s pos pos' hk, hk]
  ·simp only [at_]
   rw [Lib.iterAt_other w k b s pos' e]
 shape b hb := by
  unfold World.shape?
  by_cases e : b = k
  ·subst e
   rw [Lib.iterAt_heap w b s pos pos' hk, hk]
  ·rw [Lib.iterAt_other w k b s pos' e]
 obj b hb hn := by
  have hne : b ≠ k := fun e => hn 0 (by rw [e]; exact hF 0)
  exact Lib.iterAt_other w k b s pos' hne
 rest := ⟨rfl, rfl, rfl⟩
theorem next_ok (hU : U.Ok) {h' : Heap U} {str : Bool} {ty : TypeId} {x : A U} {out : Out U} {p : Value} (ho : (Z6Y str x h').outs = some out) (hag : ∀ s, s ∈ out.rd ∨ s ∈ out.w.map (·.1) → get h s = get h' s) (hx : RA U c x p) (hg : G U c Φ h w) :
  ∃ u w' c' Φ', (Instr.next p str ty).run P w = .ok u w' ∧ Step1 U c Φ h nx out w c' Φ' u w' := by
 unfold Z6Y at ho
 split at ho
 ·rename_i s
  split at ho
  ·rename_i t pos hk
   obtain ⟨b, o, hL, hp⟩ : ∃ b o, c.L s 0 = some (b, o) ∧ p = .pointer (some (at_ b (o + 0))) := by
    cases (show R U c _ p from hx) with | ptr h0 => exact ⟨_, _, h0, rfl⟩
   subst hp
   have hks : get h s = some (.iter t pos) := by
    rw [hag s (.inl ?_)]; exact hk
    simp only [OpR.outs] at ho
    cases hb : Nat.blt pos t.size <;> rw [hb] at ho <;> cases ho <;> simp
   have hE := hg.ents s _ hks
   obtain ⟨b', h0, h1, h2, h3⟩ := hE
   rw [hL] at h0; cases h0
   have hpos : (Nat.blt pos t.size) = true ↔ pos < t.size := ⟨Nat.le_of_ble_eq_true, Nat.ble_eq_true_of_le⟩
   have hsome : (get h s).isSome := by rw [hks]; rfl
   simp only [OpR.outs] at ho
   cases hb : Nat.blt pos t.size with
   | true =>
    rw [hb] at ho
    cases ho
    have hlt := hpos.1 hb
    have hfr : Fr (fun b o => Φ s b o) w (w.iterAt b t (pos + (Utf8.decode t pos).2)) := Fr.iterAt h2 fun o => (h3 _ _).2 rfl
    refine ⟨_, _, c, fup Φ s (Φ s), Lib.run_next_any_at w b t pos ty h2 hlt, { le := .refl c, L := fun _ _ _ _ => rfl, val := ?_, g := ?_, fr := hfr.mono fun b' o' _ hn => ⟨s, by simp, hsome, hn⟩, foot := fun t ht => ?_, footw := fun t b' o' ht hf => ?_, names := fun t ht => ?_, inew := fun _ _ _ h => .inl h }⟩
    ·refine ⟨_, rfl, rfl, fun k x hk => ?_⟩
     match k, hk with
     | 0, hk => cases hk; exact ⟨_, rfl, R.val rfl⟩
     | 1, hk => cases hk; exact ⟨_, rfl, R.val rfl⟩
     | 2, hk => cases hk; exact ⟨_, rfl, R.val rfl⟩
     | k + 3, hk => simp at hk
    ·have hE' : EntOK c (w.iterAt b t (pos + (Utf8.decode t pos).2)) s (Φ s) (.iter t (pos + (Utf8.decode t pos).2) : Ent U) := ⟨b, hL, h1, Lib.iterAt_heap w b t pos _ h2, h3⟩
     refine hg.put hU (.refl c) (fun _ _ _ => rfl) hE' (fun t hts h1 => hfr.agr (fun b' o' hf => hg.lt hU h1 hf) fun b' o' hf hn => hg.apart t s b' o' hts h1 hsome hf hn)
      (fun t b' o' hts h1 hf hF => hg.apart t s b' o' hts h1 hsome hf hF) (fun b' o' u hu => ?_) (fun t b' o' _ h1 hf => hg.immApart t b' o' h1 hf) (fun b' o' hf => hg.immApart s b' o' hsome hf)
     refine (hfr.cell b' o' (Zh (hg.imm b' o' u hu)) fun hn => ?_).trans (hg.imm b' o' u hu)
     have := hg.immApart s b' o' hsome hn
     rw [hu] at this; cases this
    ·simp at ht; simp [fup, ht]
    ·simp at ht; subst ht
     simp [fup] at hf
     exact .inr ⟨t, by simp, hsome, hf⟩
    ·simp at ht; subst ht; exact .inr hsome
   | false =>
    rw [hb] at ho
    cases ho
    have hlt : ¬ pos < t.size := fun h => by rw [hpos.2 h] at hb; cases hb
    have hv : RA U c (.t [⟨false, [.val (.bool false)]⟩] : A U) (.tuple #[.bool false]) := by
     refine ⟨_, rfl, rfl, fun k x hk => ?_⟩
     match k, hk with
     | 0, hk => cases hk; exact ⟨_, rfl, R.val rfl⟩
     | k + 1, hk => simp at hk
    exact ⟨_, _, c, Φ, Lib.run_next_end_at w b t pos ty h2 hlt, Step1.pure hg hv⟩
  ·exact (Z1 ho).elim
 ·exact (Z1 ho).elim
end Go.Rf
