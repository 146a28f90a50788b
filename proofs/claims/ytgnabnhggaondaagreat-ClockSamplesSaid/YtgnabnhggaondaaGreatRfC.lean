/- An evaluator of the model's code, and the proof that it is sound. Own work; no program in it. -/
import Derived.Test.YtgnabnhggaondaaGreatRfB
import Derived.MapKept
namespace Go.Rf
set_option linter.unusedVariables false
set_option linter.unusedSimpArgs false
variable {U : Univ} {P : Program} {c : Cx} {Φ : Nat → Nat → Nat → Prop} {h : Heap U} {nx : Nat} {w : World}
def Z2Q : Value → Bool
 | .int _ _ => true
 | .bool _ => true
 | .string _ => true
 | _ => false
theorem Z65 {t : TypeId} {v : Value} {e : Bool} {n : Nat} (hb : (match P.underlying t with | some (.int _) => true | some .bool => true | some .string => true | _ => false) = true) : (Instr.checkKey e (n + 1) t v).run P w = .ok () w := by
 unfold Instr.checkKey
 cases hu : P.underlying t with
 | none => rw [hu] at hb; cases hb
 | some d =>
  simp only [Sem.run_bind, run_underlying hu, Result.andThen]
  rw [hu] at hb
  cases d <;> first | (cases hb; done) | rfl
theorem Z5h : ∀ (fs : List Field) (o : Nat), Z31 P fs o = true → ∀ (i : Nat) f, fs[i]? = some f → f.offset = o + i ∧ (f.name == "_") = false ∧ (match P.underlying f.type with | some (.int _) => true | some .bool => true | some .string => true | _ => false) = true
 | [], o, h, i, f, hi => by simp at hi
 | f0 :: r, o, h, i, f, hi => by
  unfold Z31 at h
  simp only [Bool.and_eq_true] at h
  obtain ⟨⟨⟨h1, h2⟩, h3⟩, h4⟩ := h
  cases i with
  | zero => simp at hi; subst hi; exact ⟨nbeq h1, by simpa using h2, h3⟩
  | succ i =>
   obtain ⟨h5, h6⟩ := Z5h r (o + 1) h4 i f (by simpa using hi)
   exact ⟨by omega, h6⟩
theorem Z6p {t : TypeId} (hb : (match P.underlying t with | some (.int _) => true | some .bool => true | some .string => true | _ => false) = true) : agg? P t = some false := by
 unfold agg?
 cases hu : P.underlying t with
 | none => rw [hu] at hb; cases hb
 | some d => rw [hu] at hb; cases d <;> first | rfl | cases hb
theorem Z4S {cs : Array Value} {e : Bool} {n : Nat} : ∀ (fs : List Field), (∀ f ∈ fs, (match P.underlying f.type with | some (.int _) => true | some .bool => true | some .string => true | _ => false) = true ∧ f.offset < cs.size) →
  (forIn fs PUnit.unit fun (f : Field) (_ : PUnit) => (do
   if f.name ≠ "_" then Instr.checkKey e (n + 1) f.type (← part f.type cs f.offset)
   pure (ForInStep.yield PUnit.unit) : Sem (ForInStep PUnit))).run P w = .ok PUnit.unit w
 | [], _ => rfl
 | f :: r, h => by
  obtain ⟨h1, h2⟩ := h f (List.mem_cons_self ..)
  have hp : (part f.type cs f.offset).run P w = .ok (cs.getD f.offset undef) w := by
   have := Z17 (Z6p h1) (w := w)
   simp [part, this, h2]
  rw [List.forIn_cons]
  have ih := Z4S (e := e) (n := n) r fun f hf => h f (List.mem_cons_of_mem _ hf)
  by_cases hn : f.name ≠ "_"
  ·simp only [Sem.run_bind, if_pos hn, hp, Result.andThen_ok, Z65 h1, Sem.run_pure]
   exact ih
  ·simp only [Sem.run_bind, if_neg hn, Sem.run_pure, Result.andThen_ok]
   exact ih
theorem Z2N {kt n : Nat} (h : Z1y P kt n = true) : ∃ fs, P.underlying kt = some (.struct fs) ∧ fs.size = n ∧ Z31 P fs.toList 0 = true := by
 unfold Z1y at h
 split at h
 ·rename_i fs hu
  rw [Bool.and_eq_true] at h
  exact ⟨fs, hu, nbeq h.2, h.1⟩
 ·cases h
theorem Z2n {kt n : Nat} {cs : Array Value} {e : Bool} (h : Z1y P kt n = true) (hn : cs.size = n) : (Instr.checkKey e 10000 kt (.agg cs)).run P w = .ok () w := by
 obtain ⟨fs, hu, hs, hf⟩ := Z2N h
 show (Instr.checkKey e (9998 + 1 + 1) kt (.agg cs)).run P w = .ok () w
 unfold Instr.checkKey
 simp only [Sem.run_bind, run_underlying hu, Result.andThen]
 have h1 := Z4S (P := P) (w := w) (cs := cs) (e := e) (n := 9998) fs.toList fun f hf' => by
  obtain ⟨i, hi⟩ := List.getElem?_of_mem hf'
  obtain ⟨q1, _, q3⟩ := Z5h _ _ hf i f hi
  refine ⟨q3, ?_⟩
  have : i < fs.toList.length := (List.getElem?_eq_some_iff.1 hi).1
  simp at this
  omega
 rw [← Array.forIn_toList]
 rw [h1]
 rfl
def Z2m (P : Program) (kt : TypeId) {ku vu : U.C} (k : U.D ku) : List (U.D ku × U.D vu) → Option (Option Nat)
 | [] => some none
 | (a, v) :: r => match eqS P 20 kt (U.enc ku k) (U.enc ku a) with
  | some b => bif b then some (some 0) else (match Z2m P kt k r with
   | some (some i) => some (some (i + 1))
   | some none => some none
   | none => none)
  | none => none
theorem Z5I {kt : TypeId} {ku vu : U.C} {k : U.D ku} : ∀ (l : List (U.D ku × U.D vu)) (r : Option (U.D vu)), Z3c P kt k l = some r → ∃ q, Z2m P kt k l = some q ∧ r = q.bind fun j => (l[j]?).map (·.2)
 | [], r, h => by cases h; exact ⟨none, rfl, rfl⟩
 | (a, v) :: l, r, h => by
  unfold Z3c at h
  unfold Z2m
  split at h
  ·rename_i b hb
   rw [hb]
   cases b with
   | true => cases h; exact ⟨some 0, rfl, rfl⟩
   | false =>
    obtain ⟨q, h1, h2⟩ := Z5I l r h
    simp only [cond_false]
    rw [h1]
    cases q with
    | none => exact ⟨none, rfl, h2⟩
    | some i => exact ⟨some (i + 1), rfl, by rw [h2]; simp⟩
  ·cases h
theorem Z5S {kt : TypeId} {ku vu : U.C} {k : U.D ku} {v : U.D vu} : ∀ (l r : List (U.D ku × U.D vu)), Z3d P kt k v l = some r → ∃ q, Z2m P kt k l = some q ∧ r = match q with | some j => l.set j (k, v) | none => l ++ [(k, v)]
 | [], r, h => by cases h; exact ⟨none, rfl, rfl⟩
 | (a, x) :: l, r, h => by
  unfold Z3d at h
  unfold Z2m
  split at h
  ·rename_i b hb
   rw [hb]
   cases b with
   | true => cases h; exact ⟨some 0, rfl, rfl⟩
   | false =>
    simp only [cond_false] at h ⊢
    split at h
    ·rename_i l' hl
     cases h
     obtain ⟨q, h1, h2⟩ := Z5S l l' hl
     rw [h1]
     cases q with
     | none => exact ⟨none, rfl, by rw [h2]; rfl⟩
     | some i => exact ⟨some (i + 1), rfl, by rw [h2]; rfl⟩
    ·cases h
  ·cases h
theorem Z3j {kt : TypeId} {ku vu : U.C} {gv : Bool} {k : U.D ku} {kv : Value} (ha : agg? P kt = some true) (hk : RV U c ⟨true, U.enc ku k⟩ kv) : ∀ (l : List (U.D ku × U.D vu)) (es : List MapEntry) (q : Option Nat) (i : Nat), Z2m P kt k l = some q → MapRel U c true gv l es →
  (Instr.findAsking kt kv es i).run P w = .ok (q.bind fun j => (es[j]?).map fun e => (i + j, e.val)) w ∧ ∀ j, q = some j → ∃ e p, es[j]? = some e ∧ l[j]? = some p ∧ eqS P 20 kt (U.enc ku k) (U.enc ku p.1) = some true
 | [], es, q, i, hq, hm => by
  have : es = [] := List.eq_nil_of_length_eq_zero (by simpa using hm.1)
  subst this
  cases hq
  exact ⟨rfl, fun j hj => by cases hj⟩
 | (a, v) :: l, es, q, i, hq, hm => by
  cases es with
  | nil => have := hm.1; simp at this
  | cons e es =>
   have hm' : MapRel U c true gv l es := ⟨by have := hm.1; simpa using this, fun j p hj => by simpa using hm.2 (j + 1) p (by simpa using hj)⟩
   obtain ⟨e', h1, h2, _⟩ := hm.2 0 (a, v) rfl
   simp at h1; subst h1
   unfold Z2m at hq
   split at hq
   ·rename_i b hb
    obtain ⟨cs, rfl, hl⟩ := hk
    obtain ⟨ds, hd, hr⟩ := h2
    have heq : (Op.equal kt (.agg cs) e.key).run P w = .ok b w := by
     rw [hd]
     have := Z7j (P := P) (w := w) 20 kt _ _ b hb _ _ true ha hl hr 10000 (by decide)
     exact this
    cases b with
    | true =>
     cases hq
     refine ⟨?_, fun j hj => by cases hj; exact ⟨e, (a, v), rfl, rfl, hb⟩⟩
     unfold Instr.findAsking
     simp only [Sem.run_bind, heq, Result.andThen_ok]
     rfl
    | false =>
     simp only [cond_false] at hq
     split at hq
     ·rename_i i0 hi0
      cases hq
      obtain ⟨h3, h4⟩ := Z3j ha ⟨cs, rfl, hl⟩ l es (some i0) (i + 1) hi0 hm'
      refine ⟨?_, fun j hj => ?_⟩
      ·unfold Instr.findAsking
       simp only [Sem.run_bind, heq, Result.andThen_ok]
       rw [show (if false = true then (pure (some (i, e.val)) : Sem _) else Instr.findAsking kt (.agg cs) es (i + 1)) = Instr.findAsking kt (.agg cs) es (i + 1) from rfl, h3]
       simp [Nat.add_assoc, Nat.add_comm 1]
      ·cases hj
       obtain ⟨e2, p, h5, h6, h7⟩ := h4 i0 rfl
       exact ⟨e2, p, by simpa using h5, by simpa using h6, h7⟩
     ·rename_i hi0
      cases hq
      obtain ⟨h3, _⟩ := Z3j ha ⟨cs, rfl, hl⟩ l es none (i + 1) hi0 hm'
      refine ⟨?_, fun j hj => by cases hj⟩
      unfold Instr.findAsking
      simp only [Sem.run_bind, heq, Result.andThen_ok]
      exact h3
     ·cases hq
   ·cases hq
theorem Z5p {kt : TypeId} {ku vu : U.C} {gv : Bool} {k : U.D ku} {kv : Value} {n : Nat} (hfk : Z1y P kt n = true) (ha : agg? P kt = some true) (hk : RV U c ⟨true, U.enc ku k⟩ kv) {l : List (U.D ku × U.D vu)} {es : List MapEntry} {q : Option Nat} (hq : Z2m P kt k l = some q) (hm : MapRel U c true gv l es) :
  (Instr.findKey kt kv es).run P w = .ok (q.bind fun j => (es[j]?).map fun e => (j, e.val)) w := by
 obtain ⟨fs, hu, _, _⟩ := Z2N hfk
 unfold Instr.findKey
 simp only [Sem.run_bind, run_underlying hu, Result.andThen_ok]
 have h1 := (Z3j (P := P) (w := w) ha hk l es q 0 hq hm).1
 cases es with
 | nil =>
  have : l = [] := List.eq_nil_of_length_eq_zero (by have := hm.1; simpa using this.symm)
  subst this
  cases hq
  rfl
 | cons e es =>
  have h2 : Instr.findNow (.struct fs) kv (e :: es) 0 = none := by
   unfold Instr.findNow
   have : Instr.sameNow (.struct fs) kv e.key = none := by
    unfold Instr.sameNow
    rfl
   rw [this]
  rw [h2]
  simpa using h1
theorem Z6k {α : Type} {off : Nat} {l : List α} {x : α} (h : dropT off 1 l = [x]) : l[off]? = some x := by
 have h0 : (dropT off 1 l)[0]? = some x := by rw [h]; rfl
 simpa using (Z10 h0).2
theorem Z99 {a b : ByteArray} (h : strEq a b = true) : a = b := by
 unfold strEq at h
 have h1 : a.data.toList = b.data.toList := eq_of_beq h
 have h2 : a.data = b.data := Array.toList_inj.1 h1
 cases a; cases b; simp at h2; rw [h2]
theorem Z8o {d : Nat} {t : TypeId} {xs ys : List U.S} (hb : (match P.underlying t with | some (.int _) => true | some .bool => true | some .string => true | _ => false) = true) (h : eqS P d t xs ys = some true) : ∃ v, xs = [.val v] ∧ ys = [.val v] ∧ Z2Q v = true := by
 cases d with
 | zero => cases h
 | succ d =>
  unfold eqS at h
  cases hu : P.underlying t with
  | none => rw [hu] at hb; cases hb
  | some desc =>
   rw [hu] at hb h
   cases desc <;> try (cases hb; done)
   case int k0 =>
    simp only at h
    split at h
    ·rename_i j a k b
     cases hjk : decide (j = k) with
     | false => rw [hjk] at h; cases h
     | true =>
      rw [hjk] at h
      have e1 := of_decide_eq_true hjk
      subst e1
      simp only [cond_true, Option.some.injEq, ieq, beq_iff_eq] at h
      subst h
      exact ⟨_, rfl, rfl, rfl⟩
    ·cases h
   case bool =>
    simp only at h
    split at h
    ·rename_i a b
     simp only [Option.some.injEq, beq_iff_eq] at h
     subst h
     exact ⟨_, rfl, rfl, rfl⟩
    ·cases h
   case string =>
    simp only at h
    split at h
    ·rename_i a b
     simp only [Option.some.injEq] at h
     have := Z99 h
     subst this
     exact ⟨_, rfl, rfl, rfl⟩
    ·cases h
theorem Z7f {d : Nat} {xs ys : List U.S} : ∀ (fs : List Field) (o : Nat), Z31 P fs o = true → eqF P (eqS P d) fs xs ys = some true → ∀ (i : Nat), i < fs.length → ∃ v, xs[o + i]? = some (.val v) ∧ ys[o + i]? = some (.val v) ∧ Z2Q v = true
 | [], o, hf, h, i, hi => by simp at hi
 | f :: r, o, hf, h, i, hi => by
  obtain ⟨q1, q2, q3⟩ := Z5h _ _ hf 0 f rfl
  have hfr : Z31 P r (o + 1) = true := by
   unfold Z31 at hf
   simp only [Bool.and_eq_true] at hf
   exact hf.2
  simp only [eqF, q2, cond_false] at h
  rw [Z6p q3] at h
  split at h
  ·rename_i g i' hg hi'
   cases hg
   simp only [cond_false] at h
   split at h
   ·rename_i a b ha hb
    cases a with
    | false => simp at h
    | true =>
     simp only [cond_true, Option.some.injEq] at h
     subst h
     cases i with
     | zero =>
      obtain ⟨v, h1, h2, h3⟩ := Z8o q3 ha
      rw [q1] at h1 h2
      exact ⟨v, Z6k h1, Z6k h2, h3⟩
     | succ i =>
      obtain ⟨v, h1, h2, h3⟩ := Z7f r (o + 1) hfr hb i (by simpa using hi)
      exact ⟨v, by rw [show o + (i + 1) = o + 1 + i by omega]; exact h1, by rw [show o + (i + 1) = o + 1 + i by omega]; exact h2, h3⟩
   ·cases h
  ·cases h
theorem Z9i {kt n : Nat} {xs ys : List U.S} {vs us : List Value} (hf : Z1y P kt n = true) (he : eqS P 20 kt xs ys = some true) (hx : xs.length = n) (hy : ys.length = n) (h1 : RL U c xs vs) (h2 : RL U c ys us) : vs = us ∧ ∀ v ∈ vs, Z2Q v = true := by
 obtain ⟨fs, hu, hs, hff⟩ := Z2N hf
 have hF : eqF P (eqS P 19) fs.toList xs ys = some true := by
  have he : eqS P (19 + 1) kt xs ys = some true := he
  unfold eqS at he
  rw [hu] at he
  simp only at he
  cases hst : P.stoodInHeld kt with
  | true => rw [hst] at he; cases he
  | false => rw [hst] at he; exact he
 have hat : ∀ i, i < n → ∃ v, xs[i]? = some (.val v) ∧ ys[i]? = some (.val v) ∧ Z2Q v = true := fun i hi => by
  have := Z7f fs.toList 0 hff hF i (by simp; omega)
  simpa using this
 have hval : ∀ i, i < n → ∃ v, vs[i]? = some v ∧ us[i]? = some v ∧ Z2Q v = true := fun i hi => by
  obtain ⟨v, q1, q2, q3⟩ := hat i hi
  obtain ⟨a, r1, r2⟩ := h1.at_ i _ q1
  obtain ⟨b, r3, r4⟩ := h2.at_ i _ q2
  have := R.valEq r2
  subst this
  have := R.valEq r4
  subst this
  exact ⟨_, r1, r3, q3⟩
 refine ⟨List.ext_getElem? fun i => ?_, fun v hv => ?_⟩
 ·by_cases hi : i < n
  ·obtain ⟨v, q1, q2, _⟩ := hval i hi
   rw [q1, q2]
  ·rw [List.getElem?_eq_none (by rw [h1.len]; omega), List.getElem?_eq_none (by rw [h2.len]; omega)]
 ·obtain ⟨i, hi⟩ := List.getElem?_of_mem hv
  have hlt := (List.getElem?_eq_some_iff.1 hi).1
  obtain ⟨v', q1, _, q3⟩ := hval i (by rw [h1.len] at hlt; omega)
  rw [hi] at q1; cases q1
  exact q3
theorem Z5W {v : Value} (h : Z2Q v = true) (n : Nat) : Instr.sameBits n v v = true := by
 cases v <;> first | (cases h; done) | simp [Instr.sameBits, MapKept.bytes_beq]
theorem Z7q {vs : List Value} (h : ∀ v ∈ vs, Z2Q v = true) : Instr.sameBits 10000 (.agg vs.toArray) (.agg vs.toArray) = true := by
 rw [Instr.sameBits]
 rw [Bool.and_eq_true, List.all_eq_true]
 refine ⟨beq_self_eq_true _, fun p hp => ?_⟩
 obtain ⟨a, b⟩ := p
 obtain ⟨i, hi⟩ := List.getElem?_of_mem hp
 rw [List.getElem?_zip_eq_some] at hi
 obtain ⟨h1, h2⟩ := hi
 simp only [List.toList_toArray] at h1 h2
 rw [h1] at h2
 have e : a = b := Option.some.inj h2
 subst e
 exact Z5W (h _ (List.mem_of_getElem? h1)) 9999
theorem Fr.setMap {F : Nat → Nat → Prop} {r : Nat} {es es' : Array MapEntry} {k k' : Nat} (hk : w.heap[r]? = some (.map es k)) (hF : ∀ o, F r o) : Fr F w { w with heap := w.heap.setIfInBounds r (.map es' k') } where
 size := by simp
 cell b x hb hn := by
  have hne : b ≠ r := fun e => hn (by rw [e]; exact hF x)
  unfold World.cell?
  simp only [at_]
  rw [(MapKept.heap_set hk).2 b hne]
 frozen b x hb := by
  unfold World.frozen?
  simp only [at_]
  by_cases e : b = r
  ·subst e
   rw [(MapKept.heap_set hk).1, hk]
  ·rw [(MapKept.heap_set hk).2 b e]
 shape b hb := by
  unfold World.shape?
  by_cases e : b = r
  ·subst e
   rw [(MapKept.heap_set hk).1, hk]
  ·rw [(MapKept.heap_set hk).2 b e]
 obj b hb hn := by
  have hne : b ≠ r := fun e => hn 0 (by rw [e]; exact hF 0)
  exact (MapKept.heap_set hk).2 b hne
 rest := ⟨rfl, rfl, rfl⟩
theorem Z8j (hU : U.Ok) {t : TypeId} {F? : Option Nat} {h' : Heap U} {out : Out U} (ho : (Z45 P F? h').outs = some out) (hag : ∀ s, s ∈ out.rd ∨ s ∈ out.w.map (·.1) → get h s = get h' s) (hg : G U c Φ h w) :
  ∃ u w' c' Φ', (Instr.makeMap t none).run P w = .ok u w' ∧ Step1 U c Φ h nx out w c' Φ' u w' := by
 unfold Z45 at ho
 split at ho
 ·rename_i F
  split at ho
  ·rename_i gk gv ku vu n g he
   cases hb : Nat.blt F U.nf with
   | false => rw [hb] at ho; cases ho
   | true =>
    rw [hb] at ho
    cases ho
    have hF : F < U.nf := Nat.le_of_ble_eq_true hb
    have he' : get h F = some (.mfam gk gv ku vu n g) := by rw [hag F (.inl (by simp))]; exact he
    have hsome : (get h F).isSome := by rw [he']; rfl
    obtain ⟨A, h0, h1, h2, h3, h4⟩ := hg.ents F _ he'
    let c' : Cx := { L := fun t i => if t = F ∧ i = n then some (w.heap.size, 0) else c.L t i, I := c.I }
    have hcn : c.L F n = none := by
     cases hx : c.L F n with
     | none => rfl
     | some q => have := h1 n q hx; omega
    have hc : c.Le c' := ⟨fun t i q hq => by
     by_cases e : t = F ∧ i = n
     ·obtain ⟨rfl, rfl⟩ := e; rw [hcn] at hq; cases hq
     ·simp [c', e, hq], fun _ _ _ h => h⟩
    have hLo : ∀ t i, t ≠ F → c'.L t i = c.L t i := fun t i ht => by simp [c', ht]
    let F' : Nat → Nat → Prop := fun b o => Φ F b o ∨ b = w.heap.size
    have hlt : ∀ t b o, (get h t).isSome → Φ t b o → b < w.heap.size := fun t b o ht hf => hg.lt hU ht hf
    have hAlt : ∀ i, i < n → A i < w.heap.size := fun i hi => by
     obtain ⟨es, cl, q1, _⟩ := h2 i hi
     exact (Array.getElem?_eq_some_iff.1 q1).1
    refine ⟨.map (some w.heap.size), w.alloc (.map #[] 0), c', fup Φ F F', by simp [Instr.makeMap, Result.andThen, World.alloc_eq], ?_⟩
    refine { le := hc, L := fun s i hs hs2 => hLo s i fun e => hs2 ⟨e ▸ hF, by simp [e]⟩, val := ?_, g := ?_, fr := Fr.alloc _ _ _, foot := fun s hsn => ?_, footw := fun s b o hsn hf => ?_, names := fun s hsn => ?_, inew := fun _ _ _ h => .inl h }
    ·exact R.msome hF (by simp [c'])
    ·refine hg.put hU hc hLo ?_ (fun t _ h1 => (Fr.alloc (fun _ _ => False) w _).agr (fun b o hf => hlt t b o h1 hf) (fun _ _ _ h => h))
      (fun t b o hne h1 hf hF' => by
       rcases hF' with hF' | hF'
       ·exact hg.apart t F b o hne h1 hsome hf hF'
       ·exact Nat.lt_irrefl _ (hF' ▸ hlt t b o h1 hf))
      (fun b o v hv => (Z16 w _ (Zh (hg.imm b o v hv))).trans (hg.imm b o v hv))
      (fun t b o _ h1 hf => hg.immApart t b o h1 hf)
      (fun b o hF' => ?_)
     ·refine ⟨fun i => if i = n then w.heap.size else A i, fun i hi => ?_, fun i q hq => ?_, fun i hi => ?_, fun i j hi hj e => ?_, fun b o => ?_⟩
      ·by_cases e : i = n
       ·subst e; simp [c']
       ·simp only [if_neg e]; rw [show c'.L F i = c.L F i by simp [c', e]]; exact h0 i (by omega)
      ·by_cases e : i = n
       ·omega
       ·rw [show c'.L F i = c.L F i by simp [c', e]] at hq
        have := h1 i q hq; omega
      ·by_cases e : i = n
       ·subst e
        simp only [if_pos rfl, fset]
        exact ⟨#[], 0, (MapKept.heap_alloc w _).1, rfl, fun k p hk => by simp at hk⟩
       ·simp only [if_neg e, fset]
        obtain ⟨es, cl, q1, q2⟩ := h2 i (by omega)
        exact ⟨es, cl, ((MapKept.heap_alloc w _).2 _ (hAlt i (by omega))).trans q1, q2.mono hc⟩
      ·simp only at e
       by_cases e1 : i = n
       ·by_cases e2 : j = n
        ·omega
        ·rw [if_pos e1, if_neg e2] at e
         have := hAlt j (by omega); omega
       ·by_cases e2 : j = n
        ·rw [if_neg e1, if_pos e2] at e
         have := hAlt i (by omega); omega
        ·rw [if_neg e1, if_neg e2] at e
         exact h3 i j (by omega) (by omega) e
      ·constructor
       ·rintro (hf | hf)
        ·obtain ⟨i, hi, rfl⟩ := (h4 _ _).1 hf
         exact ⟨i, by omega, by simp [show i ≠ n by omega]⟩
        ·exact ⟨n, by omega, by simpa using hf⟩
       ·rintro ⟨i, hi, hb⟩
        by_cases e : i = n
        ·dsimp only at hb; rw [if_pos e] at hb; exact .inr hb
        ·dsimp only at hb; rw [if_neg e] at hb; exact .inl ((h4 _ _).2 ⟨i, by omega, hb⟩)
     ·rcases hF' with hF' | hF'
      ·exact hg.immApart F b o hsome hF'
      ·cases hI : c.I b o with
       | none => rfl
       | some v =>
        have := Zh (hg.imm b o v hI)
        rw [hF'] at this
        exact absurd this (Nat.lt_irrefl _)
    ·simp at hsn; simp [fup, hsn]
    ·simp at hsn; subst hsn
     simp [fup] at hf
     rcases hf with hf | hf
     ·exact .inr ⟨s, by simp, hsome, hf⟩
     ·exact .inl (by rw [hf]; exact Nat.le_refl _)
    ·simp at hsn; subst hsn; exact .inr hsome
  ·cases ho
 ·cases ho
theorem Z6F {t : TypeId} (h : Z4H P t = true) : agg? P t = some true := by
 unfold Z4H at h
 split at h
 ·rename_i h9; exact h9
 ·cases h
theorem Z8G (hU : U.Ok) {h' : Heap U} {t : TypeId} {m k : A U} {ok : Bool} {out : Out U} {mv kv : Value} (ho : (Z53 P t m k ok h').outs = some out) (hag : ∀ s, s ∈ out.rd ∨ s ∈ out.w.map (·.1) → get h s = get h' s) (hg : G U c Φ h w)
  (hm : RA U c m mv) (hk : RA U c k kv) : ∃ u, (Instr.lookup t mv kv ok).run P w = .ok u w ∧ RA U c out.v u ∧ out.w = [] ∧ out.nw = 0 := by
 unfold Z53 at ho
 split at ho
 ·rename_i kt et F x hu
  split at ho
  ·rename_i ku vu n g he
   split at ho
   ·rename_i kc z hkc hz
    split at ho
    ·rename_i kk zz hkk hzz
     cases hb : Z1y P kt (U.size ku) && Nat.beq (U.size vu) 1 && Z5Z P et && Z4H P kt with
     | false => rw [hb] at ho; cases ho
     | true =>
      rw [hb] at ho
      simp only [Bool.and_eq_true] at hb
      obtain ⟨⟨⟨hfk, hvs⟩, hae⟩, hak⟩ := hb
      have hak := Z6F hak
      cases x with
      | none => cases ho
      | some i =>
       simp only [cond_true, OpR.outs, Option.map_eq_some_iff] at ho
       obtain ⟨r, hr, hout⟩ := ho
       have hrd : F ∈ out.rd := by rw [← hout]; cases ok <;> simp
       have he' : get h F = some (.mfam true false ku vu n g) := by rw [hag F (.inl hrd)]; exact he
       obtain ⟨A, h0, h1, h2, h3, h4⟩ := hg.ents F _ he'
       obtain ⟨b, rfl, hL⟩ : ∃ b, mv = .map (some b) ∧ c.L F i = some (b, 0) := by
        cases (show R U c (.mref F (some i)) mv from hm) with | msome hf h0 => exact ⟨_, rfl, h0⟩
       have hi := h1 i _ hL
       have hAi := h0 i hi
       rw [hL] at hAi
       simp only [Option.some.injEq, Prod.mk.injEq, and_true] at hAi
       obtain ⟨es, cl, q1, q2⟩ := h2 i hi
       rw [← hAi] at q1
       obtain ⟨q, hq, hrq⟩ := Z5I _ _ hr
       have hkv : RV U c ⟨true, U.enc ku kk⟩ kv := by
        unfold Z3s at hkc
        split at hkc
        ·rename_i g' l
         simp only [cond_true] at hkc
         cases g' with
         | false => cases hkc
         | true =>
          cases hkc
          obtain ⟨cs, rfl, hl⟩ := (show ∃ cs : Array Value, kv = .agg cs ∧ RL U c kc cs.toList from hk)
          exact ⟨cs, rfl, hU.dec_le _ _ _ hkk _ _ hl⟩
        ·cases hkc
       obtain ⟨cs, rfl, hcl⟩ := id hkv
       have hcs : cs.size = U.size ku := by have := hcl.len; rw [hU.enc_len] at this; simpa using this
       have hfind := Z5p (P := P) (w := w) hfk hak hkv hq q2
       obtain ⟨zv, hzv, hzr⟩ := Z13 (c := c) hz
       have hzr := hU.dec_le _ _ _ hzz c _ hzr
       have h1l : ∀ y : U.D vu, ∃ s, U.enc vu y = [s] := fun y => by
        have := hU.enc_len vu y
        rw [nbeq hvs] at this
        exact List.length_eq_one_iff.1 this
       have hzone : RV U c ⟨false, U.enc vu zz⟩ zv := by
        obtain ⟨s, hs⟩ := h1l zz
        rw [hs] at hzr ⊢
        unfold Z5Z at hae
        cases hi9 : P.info? et with
        | none => rw [hi9] at hae; cases hae
        | some i9 =>
         rw [hi9] at hae
         simp only at hae
         cases hz9 : i9.zero with
         | none => rw [hz9] at hae; cases hae
         | some z9 =>
          rw [hz9] at hae
          have e9 := Z1f hi9 hz9 w
          rw [hzv w] at e9
          cases e9
          show R U c s zv
          rw [Z2O hae] at hzr
          obtain ⟨u9, vs9, r1, r2, _⟩ := hzr.uncons
          simp only [List.cons.injEq] at r1
          rw [r1.1]; exact r2
       have hval : ∃ v, RV U c ⟨false, U.enc vu (r.getD zz)⟩ v ∧ (Instr.lookup t (.map (some b)) (.agg cs) ok).run P w = .ok (if ok then .tuple #[v, .bool r.isSome] else v) w := by
        unfold Instr.lookup
        simp only [Sem.run_bind, run_underlying hu, Result.andThen_ok, MapKept.run_getObj_map q1, Sem.run_pure, Z2n hfk hcs, hfind]
        cases q with
        | none =>
         simp only [Option.bind_none] at hrq
         subst hrq
         refine ⟨zv, hzone, ?_⟩
         simp [hzv]
        | some j =>
         obtain ⟨_, h5⟩ := Z3j (P := P) (w := w) hak hkv _ _ _ 0 hq q2
         obtain ⟨e, p, h6, h7, _⟩ := h5 j rfl
         simp only [Option.bind_some, h7, Option.map_some] at hrq
         subst hrq
         obtain ⟨e', h8, _, h9⟩ := q2.2 j p h7
         rw [h6] at h8; cases h8
         have h6' : es[j]? = some e := by rw [← Array.getElem?_toList]; exact h6
         refine ⟨e.val, h9, ?_⟩
         simp [h6']
       obtain ⟨v, hv, hrun⟩ := hval
       subst hout
       refine ⟨_, hrun, ?_, by cases ok <;> rfl, by cases ok <;> rfl⟩
       cases ok with
       | false => exact hv
       | true =>
        refine ⟨#[v, .bool r.isSome], rfl, rfl, fun k y hk => ?_⟩
        match k, hk with
        | 0, hk => cases hk; exact ⟨_, rfl, hv⟩
        | 1, hk => cases hk; exact ⟨_, rfl, R.val rfl⟩
        | k + 2, hk => simp at hk
    ·cases ho
   ·cases ho
  ·cases ho
 ·cases ho
theorem Z6G (hU : U.Ok) {h' : Heap U} {t : TypeId} {m k v : A U} {out : Out U} {mv kv vv : Value} (ho : (Z37 P t m k v h').outs = some out) (hag : ∀ s, s ∈ out.rd ∨ s ∈ out.w.map (·.1) → get h s = get h' s) (hg : G U c Φ h w)
  (hm : RA U c m mv) (hk : RA U c k kv) (hv : RA U c v vv) : ∃ w' c' Φ', (Instr.mapUpdate t mv kv vv).run P w = .ok () w' ∧ Step1 U c Φ h nx out w c' Φ' undef w' := by
 unfold Z37 at ho
 split at ho
 ·rename_i kt et F x hu
  split at ho
  ·rename_i ku vu n g he
   split at ho
   ·rename_i kc vc hkc hvc
    split at ho
    ·rename_i kk vt hkk hvt
     cases hb : Z1y P kt (U.size ku) && Z4H P kt with
     | false => rw [hb] at ho; cases ho
     | true =>
      rw [hb] at ho
      simp only [Bool.and_eq_true] at hb
      obtain ⟨hfk, hak⟩ := hb
      have hak := Z6F hak
      cases x with
      | none => cases ho
      | some i =>
       simp only [cond_true, OpR.outs, Option.map_eq_some_iff] at ho
       obtain ⟨r, hr, hout⟩ := ho
       split at hr
       ·rename_i l hl
        cases hr
        subst hout
        have he' : get h F = some (.mfam true false ku vu n g) := by rw [hag F (.inl (by simp))]; exact he
        have hsome : (get h F).isSome := by rw [he']; rfl
        obtain ⟨A, h0, h1, h2, h3, h4⟩ := id (hg.ents F _ he')
        obtain ⟨b, rfl, hL⟩ : ∃ b, mv = .map (some b) ∧ c.L F i = some (b, 0) := by
         cases (show R U c (.mref F (some i)) mv from hm) with | msome hf h0 => exact ⟨_, rfl, h0⟩
        have hi := h1 i _ hL
        have hAi := h0 i hi
        rw [hL] at hAi
        simp only [Option.some.injEq, Prod.mk.injEq, and_true] at hAi
        subst hAi
        obtain ⟨es, cl, q1, q2⟩ := h2 i hi
        obtain ⟨q, hq, hlq⟩ := Z5S _ _ hl
        have hkv : RV U c ⟨true, U.enc ku kk⟩ kv := by
         unfold Z3s at hkc
         split at hkc
         ·rename_i g' l
          simp only [cond_true] at hkc
          cases g' with
          | false => cases hkc
          | true =>
           cases hkc
           obtain ⟨cs, rfl, hl⟩ := (show ∃ cs : Array Value, kv = .agg cs ∧ RL U c kc cs.toList from hk)
           exact ⟨cs, rfl, hU.dec_le _ _ _ hkk _ _ hl⟩
         ·cases hkc
        have hvv : RV U c ⟨false, U.enc vu vt⟩ vv := by
         unfold Z3s at hvc
         split at hvc
         ·rename_i g' l
          simp only [cond_false] at hvc
          cases g' with
          | true => cases hvc
          | false =>
           cases hvc
           match vc, hv, hvt with
           | [s], hv, hvt =>
            have hv : R U c s vv := hv
            have h9 : RL U c [s] [vv] := .cons hv .nil
            have h9 := hU.dec_le _ _ _ hvt _ _ h9
            match hen : U.enc vu vt, h9 with
            | [s'], h9 =>
             obtain ⟨u9, vs9, r1, r2, _⟩ := h9.uncons
             simp only [List.cons.injEq] at r1
             show R U c s' vv
             rw [r1.1]; exact r2
            | [], h9 => have := h9.len; simp at this
            | a :: b :: r, h9 => have := h9.len; simp at this
           | [], hv, hvt => exact hv.elim
           | a :: b :: r, hv, hvt => exact hv.elim
         ·cases hvc
        obtain ⟨cs, rfl, hcl⟩ := id hkv
        have hcs : cs.size = U.size ku := by have := hcl.len; rw [hU.enc_len] at this; simpa using this
        have hfind := Z5p (P := P) (w := w) hfk hak hkv hq q2
        -- the map behind it
        have hrun : ∃ es' cl', (Instr.mapUpdate t (.map (some (A i))) (.agg cs) vv).run P w = .ok () { w with heap := w.heap.setIfInBounds (A i) (.map es' cl') } ∧ MapRel U c true false l es'.toList := by
         unfold Instr.mapUpdate
         cases q with
         | none =>
          refine ⟨es.push { key := .agg cs, val := vv, born := cl }, cl + 1, ?_, ?_⟩
          ·simp only [Sem.run_bind, run_underlying hu, Result.andThen_ok, MapKept.run_getObj_map q1, Z2n hfk hcs, hfind]
           exact MapKept.run_setObj_map _ q1
          ·simp only at hlq
           subst hlq
           refine ⟨by simp [q2.1], fun j p hj => ?_⟩
           by_cases hlt : j < (g i).length
           ·rw [List.getElem?_append_left hlt] at hj
            obtain ⟨e, r1, r2, r3⟩ := q2.2 j p hj
            exact ⟨e, by simp only [Array.toList_push]; rw [List.getElem?_append_left (by rw [q2.1]; exact hlt)]; exact r1, r2, r3⟩
           ·rw [List.getElem?_append_right (by omega)] at hj
            have hj0 : j - (g i).length = 0 := by
             have := (List.getElem?_eq_some_iff.1 hj).1
             simp at this; omega
            rw [hj0] at hj
            simp at hj; subst hj
            refine ⟨{ key := .agg cs, val := vv, born := cl }, ?_, hkv, hvv⟩
            simp only [Array.toList_push]
            rw [List.getElem?_append_right (by rw [q2.1]; omega), q2.1, hj0]; rfl
         | some j =>
          obtain ⟨_, h5⟩ := Z3j (P := P) (w := w) hak hkv _ _ _ 0 hq q2
          obtain ⟨e, p, h6, h7, h8⟩ := h5 j rfl
          obtain ⟨e', h9, h10, _⟩ := q2.2 j p h7
          rw [h6] at h9; cases h9
          obtain ⟨ds, hds, hdl⟩ := h10
          obtain ⟨s1, s2⟩ := Z9i hfk h8 (hU.enc_len _ _) (hU.enc_len _ _) hcl hdl
          have hkk : e.key = .agg cs := by rw [hds, Array.toList_inj.1 s1]
          have hes : es[j]? = some e := by rw [← Array.getElem?_toList]; exact h6
          refine ⟨es.modify j fun e => { e with key := .agg cs, val := vv }, cl, ?_, ?_⟩
          ·have hst : (Instr.keyThatStays (.agg cs) (.agg cs)).run P w = .ok (.agg cs) w := by
            unfold Instr.keyThatStays
            have := Z7q s2
            simp only [Array.toArray_toList] at this
            rw [if_pos this]; rfl
           simp only [Sem.run_bind, run_underlying hu, Result.andThen_ok, MapKept.run_getObj_map q1, Z2n hfk hcs, hfind, Option.bind_some, h6, Option.map_some, hes, Option.getD_some, hkk, hst]
           exact MapKept.run_setObj_map _ q1
          ·simp only at hlq
           subst hlq
           refine ⟨by simp [q2.1], fun j' p' hj => ?_⟩
           by_cases e1 : j = j'
           ·subst e1
            have hlt := (List.getElem?_eq_some_iff.1 h7).1
            rw [List.getElem?_set_self hlt] at hj
            cases hj
            refine ⟨{ e with key := .agg cs, val := vv }, ?_, hkv, hvv⟩
            rw [Array.getElem?_toList, Array.getElem?_modify]
            simp [hes]
           ·rw [List.getElem?_set_ne e1] at hj
            obtain ⟨e2, r1, r2, r3⟩ := q2.2 j' p' hj
            refine ⟨e2, ?_, r2, r3⟩
            rw [Array.getElem?_toList, Array.getElem?_modify, if_neg e1, ← Array.getElem?_toList]
            exact r1
        obtain ⟨es', cl', hrun, hrel⟩ := hrun
        have hfr : Fr (fun b o => Φ F b o) w { w with heap := w.heap.setIfInBounds (A i) (.map es' cl') } := Fr.setMap q1 fun o => (h4 _ _).2 ⟨i, hi, rfl⟩
        refine ⟨_, c, fup Φ F (Φ F), hrun, { le := .refl c, L := fun _ _ _ _ => rfl, val := RA.undef, g := ?_, fr := hfr.mono fun b' o' _ hn => ⟨F, by simp, hsome, hn⟩, foot := fun t ht => ?_, footw := fun t b' o' ht hf => ?_, names := fun t ht => ?_, inew := fun _ _ _ h => .inl h }⟩
        ·have hE' : EntOK c { w with heap := w.heap.setIfInBounds (A i) (.map es' cl') } F (Φ F) (.mfam true false ku vu n (fset g i l) : Ent U) := by
          refine ⟨A, h0, h1, fun j hj => ?_, h3, h4⟩
          by_cases e : j = i
          ·subst e
           simp only [fset, if_true]
           exact ⟨es', cl', (MapKept.heap_set q1).1, hrel⟩
          ·simp only [fset, if_neg e]
           obtain ⟨es2, cl2, r1, r2⟩ := h2 j hj
           exact ⟨es2, cl2, ((MapKept.heap_set q1).2 _ fun e2 => e (h3 j i hj hi e2)).trans r1, r2⟩
         refine hg.put hU (.refl c) (fun _ _ _ => rfl) hE' (fun t hts h1 => hfr.agr (fun b' o' hf => hg.lt hU h1 hf) fun b' o' hf hn => hg.apart t F b' o' hts h1 hsome hf hn)
          (fun t b' o' hts h1 hf hF => hg.apart t F b' o' hts h1 hsome hf hF) (fun b' o' u hu => ?_) (fun t b' o' _ h1 hf => hg.immApart t b' o' h1 hf) (fun b' o' hf => hg.immApart F b' o' hsome hf)
         refine (hfr.cell b' o' (Zh (hg.imm b' o' u hu)) fun hn => ?_).trans (hg.imm b' o' u hu)
         have := hg.immApart F b' o' hsome hn
         rw [hu] at this; cases this
        ·simp at ht; simp [fup, ht]
        ·simp at ht; subst ht
         simp [fup] at hf
         exact .inr ⟨t, by simp, hsome, hf⟩
        ·simp at ht; subst ht; exact .inr hsome
       ·cases hr
    ·cases ho
   ·cases ho
  ·cases ho
 ·cases ho
end Go.Rf
namespace Go.Rf
set_option linter.unusedVariables false
set_option linter.unusedSimpArgs false
variable {U : Univ} {P : Program} {c : Cx} {Φ : Nat → Nat → Nat → Prop} {h : Heap U} {nx : Nat} {w : World}
theorem Z9a {α : Type} {k j : Nat} {x : α} {l : List α} (hk : k < l.length) : (Zj k x l)[j]? = if j = k then some x else l[j]? := by
 unfold Zj
 by_cases e : j = k
 ·subst e
  rw [if_pos rfl]
  have := Zv (off := j) (k := 0) (new := [x]) (l := l) (by simp; omega) (by simp)
  rw [Nat.add_zero] at this
  rw [this]; rfl
 ·rw [if_neg e, Zo (by simp; omega) (by simp; omega)]
theorem Z8m (hU : U.Ok) {t : TypeId} {h' : Heap U} {a : A U} {out : Out U} {p : Value} (ho : Z6L a h' nx = some out) (ht : agg? P t = some false) (hag : ∀ s, s ∈ out.rd ∨ s ∈ out.w.map (·.1) → get h s = get h' s)
  (hg : G U c Φ h w) (hf : Fresh c h nx out.nw) (ha : RA U c a p) : ∃ u c' Φ', (Instr.loadAt t p).run P w = .ok u w ∧ Step1 U c Φ h nx out w c' Φ' u w := by
 unfold Z6L at ho
 split at ho
 ·rename_i s i off
  split at ho
  ·rename_i cells he
   split at ho
   ·rename_i u xs hc
    cases hi : Nat.beq i 0 with
    | false => rw [hi] at ho; cases ho
    | true =>
     rw [hi] at ho
     have := nbeq hi
     subst this
     cases ho
     have he' : get h s = some (.obj cells) := by rw [hag s (.inl (by simp))]; exact he
     obtain ⟨b, o, hL, rfl⟩ : ∃ b o, c.L s 0 = some (b, o) ∧ p = .pointer (some (at_ b (o + off))) := by
      cases (show R U c (.ptr s 0 off) p from ha) with | ptr h0 => exact ⟨_, _, h0, rfl⟩
     obtain ⟨hn, hs0⟩ := hf nx (Nat.le_refl _) (by simp)
     have hne : s ≠ nx := fun e => by rw [e, hn] at he'; cases he'
     have hss : (get h s).isSome := by rw [he']; rfl
     obtain ⟨b0, o0, Gk, e1, e2, hP, hF⟩ := hg.ents s _ he'
     rw [hL] at e1; cases e1
     have hk := (List.getElem?_eq_some_iff.1 hc).1
     cases hP.own off _ hc with
     | cell hr _ _ _ => cases hr
     | @olist _ _ b1 o1 cap _ _ ad _ g hcl hfz hl hpos hI hR hroom hself hFo =>
      let st := o1 + xs.length * U.size u
      let en := o1 + cap * U.size u
      let c' := c.withL nx fun i => if i = 0 then some (b1, st) else if i = 1 then some (b1, en) else none
      have hle : c.Le c' := Cx.withL_le hs0
      have hLo : ∀ z i, z ≠ nx → c'.L z i = c.L z i := fun z i hz => by simp [c', Cx.withL, hz]
      let Ft : Nat → Nat → Prop := fun b' o' => b' = b1 ∧ st ≤ o' ∧ o' < en
      let Gk' : Nat → Nat → Nat → Prop := fun j b' o' => if j = off then b' = b ∧ o' = o + off else Gk j b' o'
      let Fs : Nat → Nat → Prop := fun b' o' => ∃ j, j < cells.length ∧ Gk' j b' o'
      have hGk : ∀ j b' o', j < cells.length → Gk' j b' o' → Gk j b' o' := fun j b' o' hj hf => by
       by_cases e : j = off
       ·subst e
        simp only [Gk', if_pos rfl] at hf
        exact (hFo _ _).2 (.inl hf)
       ·simpa only [Gk', if_neg e] using hf
      have hFs : ∀ b' o', Fs b' o' → Φ s b' o' := fun b' o' ⟨j, hj, hf⟩ => (hF _ _).2 ⟨j, hj, hGk j _ _ hj hf⟩
      have hFt : ∀ b' o', Ft b' o' → Φ s b' o' := fun b' o' hf => (hF _ _).2 ⟨off, hk, (hFo _ _).2 (.inr hf)⟩
      have hdis : ∀ b' o', Ft b' o' → Fs b' o' → False := fun b' o' h1 ⟨j, hj, h2⟩ => by
       by_cases e : j = off
       ·subst e
        simp only [Gk', if_pos rfl] at h2
        obtain ⟨p1, p2, p3⟩ := h1
        exact hself (h2.1.symm.trans p1) (by rw [← h2.2]; exact p2) (by rw [← h2.2]; exact p3)
       ·simp only [Gk', if_neg e] at h2
        exact hP.dis off j b' o' hk hj (fun e2 => e e2.symm) ((hFo _ _).2 (.inr h1)) h2
      have hval : R U c' (.isl (.own nx) u xs) (.slice ad xs.length cap) :=
       .isl (b := b1) (o := o1) g hl ⟨b1, st, en, by simp [c', Cx.withL], by simp [c', Cx.withL], fun hp => ⟨hpos hp, rfl, rfl, Nat.le_refl _⟩⟩ (fun h0 => hpos (by omega)) hI fun i k h1 h2 => (hR i k h1 h2).mono hle
      refine ⟨.slice ad xs.length cap, c', _, ?_, G.redo (Fs := fun z => if z = nx then Ft else Fs) (nw := 1) hU hg hle (fun z i hz => hLo z i fun e => hz (by omega)) (fun z h1 h2 => (show z = nx by omega) ▸ ⟨hn, hs0⟩) rfl (fun z e hz => ?_) (fun z b' o' hz hf => ?_) (fun z z' b' o' hz hz' hne' h1 h2 => ?_) (fun z hz => ?_) hval⟩
      ·have := Z17 ht (w := w)
       simp [Instr.loadAt, Instr.sureAddr, loadVar, this, hcl]
      ·rw [Z5] at hz
       by_cases e1 : nx = z
       ·subst e1
        rw [if_pos rfl] at hz; cases hz
        simp only [if_pos rfl]
        exact ⟨b1, st, en, by simp [c', Cx.withL], by simp [c', Cx.withL], fun x h1 h2 => ⟨(hroom x h1 h2).1, (hroom x h1 h2).2, rfl, h1, h2⟩, fun b' x hx => hx⟩
       ·rw [if_neg e1, Z5] at hz
        by_cases e2' : s = z
        ·subst e2'
         rw [if_pos rfl] at hz; cases hz
         rw [if_neg (fun e => e1 e.symm)]
         have hlen : (Zj off (S.isl (.own nx) u xs) cells).length = cells.length := by unfold Zj; exact Zm (by simp; omega)
         refine ⟨b, o, Gk', by rw [hLo s 0 hne]; exact hL, fun i x hx => e2 i x (by rw [← hLo s i hne]; exact hx), ⟨fun j x hj => ?_, fun i j b' o' hi hj hne' f1 f2 => ?_⟩, fun b' o' => by rw [hlen]⟩
         ·rw [Z9a hk] at hj
          by_cases e : j = off
          ·subst e
           rw [if_pos rfl] at hj; cases hj
           exact .cell hval hcl hfz fun b' o' => by simp [Gk']
          ·rw [if_neg e] at hj
           exact ((hP.own j x hj).stays hU hle (Agr.refl _ _)).iff fun b' o' => by simp [Gk', e]
         ·rw [hlen] at hi hj
          exact hP.dis i j b' o' hi hj hne' (hGk i _ _ hi f1) (hGk j _ _ hj f2)
        ·rw [if_neg e2'] at hz; cases hz
      ·by_cases e : z = nx
       ·simp only [if_pos e] at hf
        exact ⟨s, by simp, hss, hFt _ _ hf⟩
       ·simp only [if_neg e] at hf
        exact ⟨s, by simp, hss, hFs _ _ hf⟩
      ·simp at hz hz'
       rcases hz with rfl | rfl
       ·rcases hz' with rfl | rfl
        ·exact hne' rfl
        ·simp only [if_pos rfl] at h1
         rw [if_neg hne] at h2
         exact hdis _ _ h1 h2
       ·rcases hz' with rfl | rfl
        ·rw [if_neg hne] at h1
         simp only [if_pos rfl] at h2
         exact hdis _ _ h2 h1
        ·exact hne' rfl
      ·simp at hz
       rcases hz with rfl | rfl
       ·exact .inl ⟨by omega, by omega⟩
       ·exact .inr hss
   ·cases ho
  ·cases ho
 ·cases ho
theorem Z8J (hU : U.Ok) {t : TypeId} {h' : Heap U} {a : A U} {out : Out U} {p : Value} (ho : Z7n a h' = some out) (ht : agg? P t = some false) (hag : ∀ s, s ∈ out.rd ∨ s ∈ out.w.map (·.1) → get h s = get h' s)
  (hg : G U c Φ h w) (ha : RA U c a p) : ∃ u, (Instr.loadAt t p).run P w = .ok u w ∧ Step1 U c Φ h nx out w c Φ u w := by
 unfold Z7n at ho
 split at ho
 ·rename_i s i off
  split at ho
  ·rename_i cells he
   split at ho
   ·rename_i u xs hc
    cases hi : Nat.beq i 0 with
    | false => rw [hi] at ho; cases ho
    | true =>
     rw [hi] at ho
     have := nbeq hi
     subst this
     cases ho
     have he' : get h s = some (.obj cells) := by rw [hag s (.inl (by simp))]; exact he
     obtain ⟨b, o, hL, rfl⟩ : ∃ b o, c.L s 0 = some (b, o) ∧ p = .pointer (some (at_ b (o + off))) := by
      cases (show R U c (.ptr s 0 off) p from ha) with | ptr h0 => exact ⟨_, _, h0, rfl⟩
     obtain ⟨b0, o0, Gk, e1, e2, hP, hF⟩ := hg.ents s _ he'
     rw [hL] at e1; cases e1
     cases hP.own off _ hc with
     | cell hr _ _ _ => cases hr
     | @olist _ _ b1 o1 cap _ _ ad _ g hcl hfz hl hpos hI hR hroom hself hFo =>
      refine ⟨.slice ad xs.length cap, ?_, Step1.pure hg (R.isl (b := b1) (o := o1) g hl trivial (fun h0 => hpos (by omega)) hI hR)⟩
      have := Z17 ht (w := w)
      simp [Instr.loadAt, Instr.sureAddr, loadVar, this, hcl]
   ·cases ho
  ·cases ho
 ·cases ho
end Go.Rf
namespace Go.Rf
set_option linter.unusedVariables false
set_option linter.unusedSimpArgs false
variable {U : Univ} {P : Program} {c : Cx} {Φ : Nat → Nat → Nat → Prop} {h : Heap U} {nx : Nat} {w : World}
def PlF (c : Cx) (w : World) (b o : Nat) (cells : List U.S) (F : Nat → Nat → Prop) : Prop :=
 ∃ G, Pl U c w b o cells G ∧ ∀ b' o', F b' o' ↔ ∃ k, k < cells.length ∧ G k b' o'
theorem packP (hU : U.Ok) {b o k n : Nat} {F : Nat → Nat → Prop} {v : U.C} {cells cells' : List U.S} (hp : Z4l k v n cells = some cells') (hE : PlF c w b o cells F) : PlF c w b o cells' F ∧ cells'.length = cells.length := by
 unfold Z4l at hp
 cases hb : Nat.beq (dropT k (n * U.size v) cells).length (n * U.size v) && (dropT k (n * U.size v) cells).all Z1W && Nat.ble 1 (n * U.size v) with
 | false => rw [hb] at hp; cases hp
 | true =>
  rw [hb] at hp
  simp only [cond_true] at hp
  simp only [Bool.and_eq_true] at hb
  obtain ⟨⟨h1, _⟩, h2⟩ := hb
  have h1 := nbeq h1
  have h2 := Nat.le_of_ble_eq_true h2
  split at hp
  ·rename_i xs hx
   cases hp
   obtain ⟨Gk, hP, hΦ⟩ := hE
   obtain ⟨hxl, hxa⟩ := Z34 _ _ _ hx
   have hcl : k + n * U.size v ≤ cells.length := by
    have := h1; unfold dropT at this; simp at this; omega
   have hnl : (S.aarr v n (fun j => xs.getD j (U.dft v)) :: List.replicate (n * U.size v - 1) S.hole : List U.S).length = n * U.size v := by simp; omega
   have hle : k + (S.aarr v n (fun j => xs.getD j (U.dft v)) :: List.replicate (n * U.size v - 1) S.hole : List U.S).length ≤ cells.length := by rw [hnl]; exact hcl
   refine ⟨⟨fun j b' o' => if k ≤ j ∧ j < k + n * U.size v then (j = k ∧ ∃ i, i < n * U.size v ∧ Gk (k + i) b' o') else Gk j b' o', ⟨fun j x hj => ?_, fun i j b' o' hi hj hne f1 f2 => ?_⟩, fun b' o' => ?_⟩, Zm hle⟩
   ·try dsimp only
    by_cases hin : k ≤ j ∧ j < k + n * U.size v
    ·obtain ⟨i, rfl⟩ : ∃ i, j = k + i := ⟨j - k, by omega⟩
     rw [Zv hle (by rw [hnl]; omega)] at hj
     simp only [if_pos hin]
     cases i with
     | zero =>
      simp at hj; subst hj
      refine .aarr (fun j => Gk (k + j)) (fun q x hq => ?_) (fun j1 j2 b' o' q1 q2 q3 => hP.dis _ _ b' o' (by omega) (by omega) (by omega)) fun b' o' => ⟨fun hh => hh.2, fun hh => ⟨by omega, hh⟩⟩
      obtain ⟨i, k', hi, hk', rfl, hx'⟩ := Z2C hU v n _ hq
      have hle2 : i * U.size v + U.size v ≤ n * U.size v := by
       have : (i + 1) * U.size v ≤ n * U.size v := Nat.mul_le_mul_right _ hi
       rwa [Nat.succ_mul] at this
      have h3 := hxa i hi
      rw [Z4Z hle2] at h3
      have h4 := ((hP.sub (off := k + i * U.size v) (n := U.size v) (hU.dec_len _ _ _ h3)).dec hU h3).own k' x hx'
      rw [show o + (k + 0) + (i * U.size v + k') = o + (k + i * U.size v) + k' by omega, show k + (i * U.size v + k') = k + i * U.size v + k' by omega]
      exact h4
     | succ i =>
      have hj' : i < n * U.size v - 1 := by omega
      simp [List.getElem?_replicate, hj'] at hj
      subst hj
      exact .hole fun _ _ hh => by have := hh.1; omega
    ·rw [Zo hle (by rw [hnl]; omega)] at hj
     simp only [if_neg hin]
     exact hP.own j x hj
   ·rw [Zm hle] at hi hj
    try dsimp only at f1 f2
    by_cases hi' : k ≤ i ∧ i < k + n * U.size v
    ·rw [if_pos hi'] at f1
     obtain ⟨rfl, q, hq, f1⟩ := f1
     by_cases hj' : i ≤ j ∧ j < i + n * U.size v
     ·rw [if_pos hj'] at f2
      exact hne f2.1.symm
     ·rw [if_neg hj'] at f2
      exact hP.dis (i + q) j b' o' (by omega) hj (by omega) f1 f2
    ·rw [if_neg hi'] at f1
     by_cases hj' : k ≤ j ∧ j < k + n * U.size v
     ·rw [if_pos hj'] at f2
      obtain ⟨rfl, q, hq, f2⟩ := f2
      exact hP.dis i (j + q) b' o' hi (by omega) (by omega) f1 f2
     ·rw [if_neg hj'] at f2
      exact hP.dis i j b' o' hi hj hne f1 f2
   ·rw [Zm hle, hΦ]
    constructor
    ·rintro ⟨j, hj, hf⟩
     by_cases hin : k ≤ j ∧ j < k + n * U.size v
     ·exact ⟨k, by omega, by dsimp only; rw [if_pos ⟨Nat.le_refl _, by omega⟩]; exact ⟨rfl, j - k, by omega, by rw [show k + (j - k) = j by omega]; exact hf⟩⟩
     ·exact ⟨j, hj, by dsimp only; rw [if_neg hin]; exact hf⟩
    ·rintro ⟨j, hj, hf⟩
     try dsimp only at hf
     by_cases hin : k ≤ j ∧ j < k + n * U.size v
     ·rw [if_pos hin] at hf
      obtain ⟨_, q, hq, hf⟩ := hf
      exact ⟨k + q, by omega, hf⟩
     ·rw [if_neg hin] at hf
      exact ⟨j, hj, hf⟩
  ·cases hp
theorem pack_ok (hU : U.Ok) {s k n : Nat} {F : Nat → Nat → Prop} {v : U.C} {cells cells' : List U.S} (hp : Z4l k v n cells = some cells') (hE : EntOK c w s F (.obj cells : Ent U)) : EntOK c w s F (.obj cells' : Ent U) := by
 obtain ⟨b, o, G, e1, e2, hP, hF⟩ := hE
 obtain ⟨⟨G', h1, h2⟩, _⟩ := packP hU hp ⟨G, hP, hF⟩
 exact ⟨b, o, G', e1, e2, h1, h2⟩
theorem Z54 (hU : U.Ok) {s : Nat} {F : Nat → Nat → Prop} : ∀ (tm : List U.S) (k : Nat) (cells : List U.S), EntOK c w s F (.obj cells : Ent U) → EntOK c w s F (.obj (packT tm k cells) : Ent U)
 | [], k, cells, h => h
 | x :: r, k, cells, h => by
  unfold packT
  split
  ·rename_i h1; cases h1
  ·rename_i v n f r' k' cells' heq
   cases heq
   refine Z54 hU _ _ _ ?_
   split
   ·exact h
   ·split
    ·rename_i l hl; exact pack_ok hU hl h
    ·exact h
  ·rename_i x' r' k' cells' hne heq
   cases heq
   exact Z54 hU _ _ _ h
theorem setAtG {α : Type} {k j : Nat} {x : α} {l : List α} (hk : k < l.length) : (Zj k x l)[j]? = if j = k then some x else l[j]? := by
 unfold Zj
 by_cases e : j = k
 ·subst e
  rw [if_pos rfl]
  have := Zv (off := j) (k := 0) (new := [x]) (l := l) (by simp; omega) (by simp)
  rw [Nat.add_zero] at this
  rw [this]; rfl
 ·rw [if_neg e, Zo (by simp; omega) (by simp; omega)]
theorem Z3l {α : Type} {k : Nat} {x : α} {l : List α} (hk : k < l.length) : (Zj k x l).length = l.length := by unfold Zj; exact Zm (by simp; omega)
theorem Z2t {b o : Nat} {u : U.C} {xs : List (U.D u)} {Gk : Nat → Nat → Prop} (h : Own U c w b o (.isl .full u xs) Gk) : Own U c w b o (.olist u xs) (fun b' o' => Gk b' o' ∨ False) := by
 obtain ⟨⟨v, h1, h2⟩, h3, h4⟩ := h.plain rfl
 cases h2 with
 | @isl _ _ _ a cap b1 o1 g hc ht ha hi hr =>
  have ht : cap = xs.length := ht
  subst ht
  exact .olist (b1 := b1) (o1 := o1) g h1 h3 (Nat.le_refl _) (fun hpos => ha hpos) hi hr (fun x q1 q2 => by omega) (fun _ q1 q2 => by omega) fun b' o' => by
   rw [h4]
   constructor
   ·rintro (h | h)
    ·exact .inl h
    ·exact h.elim
   ·rintro (h | h)
    ·exact .inl h
    ·omega
theorem Z7W {b o : Nat} {F : Nat → Nat → Prop} {cells : List U.S} (hE : PlF c w b o cells F) {k : Nat} {x : U.S} (hk : k < cells.length)
  (hx : ∀ G, Pl U c w b o cells G → Own U c w b (o + k) x (G k)) : PlF c w b o (Zj k x cells) F := by
 obtain ⟨G, hP, hF⟩ := hE
 refine ⟨G, ⟨fun j y hj => ?_, fun i j b' o' hi hj hne f1 f2 => ?_⟩, fun b' o' => ?_⟩
 ·rw [setAtG hk] at hj
  by_cases e : j = k
  ·subst e
   rw [if_pos rfl] at hj; cases hj
   exact hx G hP
  ·rw [if_neg e] at hj
   exact hP.own j y hj
 ·rw [Z3l hk] at hi hj
  exact hP.dis i j b' o' hi hj hne f1 f2
 ·rw [Z3l hk]; exact hF b' o'
theorem Z7X {G : Nat → Nat → Prop} : (fun b' o' => G b' o' ∨ False) = G := by funext b' o'; simp
theorem Z7a (hU : U.Ok) {b o : Nat} {F : Nat → Nat → Prop} : ∀ (tm : List U.S) (k : Nat) (cells : List U.S), PlF c w b o cells F → PlF c w b o (Z2x tm k cells) F ∧ (Z2x tm k cells).length = cells.length
 | [], k, cells, h => ⟨h, rfl⟩
 | x :: r, k, cells, h => by
  have step : ∀ l : List U.S, PlF c w b o l F ∧ l.length = cells.length → PlF c w b o (Z2x r (k + 1) l) F ∧ (Z2x r (k + 1) l).length = cells.length := fun l ⟨h1, h2⟩ => by
   obtain ⟨h3, h4⟩ := Z7a hU r (k + 1) l h1
   exact ⟨h3, h4.trans h2⟩
  cases x with
  | aarr v n f =>
   refine step _ ?_
   split
   ·rename_i l hl; exact packP hU hl h
   ·exact ⟨h, rfl⟩
  | olist u ys =>
   refine step _ ?_
   split
   ·rename_i v xs hc
    split
    ·rename_i e _
     subst e
     have hk := (List.getElem?_eq_some_iff.1 hc).1
     exact ⟨Z7W h hk fun G hP => Z7X (G := G k) ▸ Z2t (hP.own k _ hc), Z3l hk⟩
    ·exact ⟨h, rfl⟩
   ·rename_i hc
    have hk := (List.getElem?_eq_some_iff.1 hc).1
    exact ⟨Z7W h hk fun G hP => Z7X (G := G k) ▸ Z2t (Own.le (hP.own k _ hc) ⟨rfl, fun c v hr => by
     cases R.valEq hr
     exact R.isl (xs := []) (b := 0) (o := 0) (fun _ _ => undef) (Nat.le_refl _) (by rfl) (fun hh => by simp at hh) (fun i k hi => by simp at hi) (fun i k hi => by simp at hi), fun h => by cases h⟩), Z3l hk⟩
   ·exact ⟨h, rfl⟩
  | _ => exact step _ ⟨h, rfl⟩
theorem PlF.dec (hU : U.Ok) {b o : Nat} {l : List U.S} {u : U.C} {x : U.D u} {F : Nat → Nat → Prop} (h : PlF c w b o l F) (hd : U.dec u l = some x) : PlF c w b o (U.enc u x) F :=
 let ⟨G, hP, hF⟩ := h
 ⟨G, hP.dec hU hd, fun b' o' => by rw [hF, hU.enc_len, ← hU.dec_len u l x hd]⟩
theorem Step1.newfam (hU : U.Ok) {F n : Nat} {u : U.C} {f : Nat → U.D u} {x : U.D u} {l : List U.S} {vs : List Value} {t : TypeId} (hg : G U c Φ h w) (hk : get h F = some (.fam false u n f)) (hF : F < U.nf)
  (hl : RL U c l vs) {tm : List U.S} (hd : U.dec u (Z2x tm 0 l) = some x) :
  ∃ c' Φ', Step1 U c Φ h nx { v := Rf.sc (.ptr F n 0), rd := [F], w := [(F, .fam false u (n + 1) (fset f n x))] } w c' Φ' (.pointer (some (at_ w.heap.size 0))) (w.alloc (.cells vs.toArray t)) := by
 have hsome : (get h F).isSome := by rw [hk]; rfl
 have hE := hg.ents F _ hk
 obtain ⟨A, Gn, h0, h1, h2, h3, h4, _⟩ := id hE
 let c' : Cx := { L := fun t i => if t = F ∧ i = n then some (w.heap.size, 0) else c.L t i, I := c.I }
 have hcn : c.L F n = none := by
  cases hx : c.L F n with
  | none => rfl
  | some q => have := h1 n q hx; omega
 have hc : c.Le c' := ⟨fun t i q hq => by
  by_cases e : t = F ∧ i = n
  ·obtain ⟨rfl, rfl⟩ := e; rw [hcn] at hq; cases hq
  ·simp [c', e, hq], fun _ _ _ h => h⟩
 have hLo : ∀ t i, t ≠ F → c'.L t i = c.L t i := fun t i ht => by simp [c', ht]
 let N : Nat → Nat → Prop := fun b o => b = w.heap.size ∧ o < l.length
 let F' : Nat → Nat → Prop := fun b o => Φ F b o ∨ N b o
 have hlt : ∀ t b o, (get h t).isSome → Φ t b o → b < w.heap.size := fun t b o ht hf => hg.lt hU ht hf
 refine ⟨c', fup Φ F F', ?_⟩
 refine { le := hc, L := fun s i hs hs2 => hLo s i fun e => hs2 ⟨e ▸ hF, by simp [e]⟩, val := ?_, g := ?_, fr := Fr.alloc _ _ _, foot := fun s hsn => ?_, footw := fun s b o hsn hf => ?_, names := fun s hsn => ?_, inew := fun _ _ _ h => .inl h }
 ·exact .ptr (o := 0) (by simp [c'])
 ·refine hg.put hU hc hLo ?_ (fun t _ h1 => (Fr.alloc (fun _ _ => False) w _).agr (fun b o hf => hlt t b o h1 hf) (fun _ _ _ h => h))
   (fun t b o hne h1 hf hF' => by
    rcases hF' with hF' | hF'
    ·exact hg.apart t F b o hne h1 hsome hf hF'
    ·exact Nat.lt_irrefl _ (hF'.1 ▸ hlt t b o h1 hf))
   (fun b o v hv => (Z16 w _ (Zh (hg.imm b o v hv))).trans (hg.imm b o v hv))
   (fun t b o _ h1 hf => hg.immApart t b o h1 hf)
   (fun b o hF' => ?_)
  ·have hold : Agr (Φ F) w (w.alloc (.cells vs.toArray t)) := (Fr.alloc (fun _ _ => False) w _).agr (fun b o hf => hlt F b o hsome hf) (fun _ _ _ h => h)
   obtain ⟨Gx, hPx, hGx⟩ : PlF c' (w.alloc (.cells vs.toArray t)) w.heap.size 0 (U.enc u x) N :=
    (Z7a hU tm 0 l ⟨fun k b' o' => b' = w.heap.size ∧ o' = 0 + k, Pl.of_RL (hl.mono hc) (fun k v hv => by simpa using hv) (fun k hk => by simp), fun b' o' => ⟨fun hh => ⟨o', hh.2, hh.1, by omega⟩, fun ⟨k, h1, h2, h3⟩ => ⟨h2, by omega⟩⟩⟩).1.dec hU hd
   have hxn : ∀ k b o, k < U.size u → Gx k b o → b = w.heap.size := fun k b o hk hf => ((hGx b o).2 ⟨k, by rw [hU.enc_len]; exact hk, hf⟩).1
   refine ⟨fun i => if i = n then (w.heap.size, 0) else A i, fun i k b o => if i = n then Gx k b o else Gn i k b o, fun i hi => ?_, fun i q hq => ?_, fun i hi => ?_, fun i j k l' b o hi hj hk hl' hne f1 f2 => ?_, fun b o => ?_, fun hh => by cases hh⟩
   ·by_cases e : i = n
    ·subst e; simp [c']
    ·simp only [if_neg e]; rw [show c'.L F i = c.L F i by simp [c', e]]; exact h0 i (by omega)
   ·by_cases e : i = n
    ·omega
    ·rw [show c'.L F i = c.L F i by simp [c', e]] at hq
     have := h1 i q hq; omega
   ·by_cases e : i = n
    ·subst e
     simp only [if_pos rfl, fset]
     exact hPx
    ·simp only [if_neg e, fset]
     exact (h2 i (by omega)).stays hU hc fun k hk => hold.sub fun b o hf => (h4 _ _).2 ⟨i, k, by omega, by rw [← hU.enc_len u (f i)]; exact hk, hf⟩
   ·dsimp only at f1 f2
    have hin : ∀ i k b o, i < n → k < U.size u → Gn i k b o → b < w.heap.size := fun i k b o hi hk hf => hlt F b o hsome ((h4 _ _).2 ⟨i, k, hi, hk, hf⟩)
    by_cases e : i = n
    ·rw [if_pos e] at f1
     rw [if_neg (by omega)] at f2
     have := hin j l' b o (by omega) hl' f2
     have := hxn k b o hk f1
     omega
    ·rw [if_neg e] at f1
     by_cases e2 : j = n
     ·rw [if_pos e2] at f2
      have := hin i k b o (by omega) hk f1
      have := hxn l' b o hl' f2
      omega
     ·rw [if_neg e2] at f2
      exact h3 i j k l' b o (by omega) (by omega) hk hl' hne f1 f2
   ·constructor
    ·rintro (hf | hf)
     ·obtain ⟨i, k, hi, hk, hf⟩ := (h4 _ _).1 hf
      exact ⟨i, k, by omega, hk, by dsimp only; rw [if_neg (by omega)]; exact hf⟩
     ·obtain ⟨k, hk, hf⟩ := (hGx _ _).1 hf
      exact ⟨n, k, by omega, by rw [hU.enc_len] at hk; exact hk, by dsimp only; rw [if_pos rfl]; exact hf⟩
    ·rintro ⟨i, k, hi, hk, hf⟩
     by_cases e : i = n
     ·rw [if_pos e] at hf
      exact .inr ((hGx _ _).2 ⟨k, by rw [hU.enc_len]; exact hk, hf⟩)
     ·rw [if_neg e] at hf
      exact .inl ((h4 _ _).2 ⟨i, k, by omega, hk, hf⟩)
  ·rcases hF' with hF' | hF'
   ·exact hg.immApart F b o hsome hF'
   ·cases hI : c.I b o with
    | none => rfl
    | some v =>
     have := Zh (hg.imm b o v hI)
     rw [hF'.1] at this
     exact absurd this (Nat.lt_irrefl _)
 ·simp at hsn; simp [fup, hsn]
 ·simp at hsn; subst hsn
  simp [fup] at hf
  rcases hf with hf | hf
  ·exact .inr ⟨s, by simp, hsome, hf⟩
  ·exact .inl (by rw [hf.1]; exact Nat.le_refl _)
 ·simp at hsn; subst hsn; exact .inr hsome
theorem new_ok (hU : U.Ok) {t t' : TypeId} {h' : Heap U} {l : List U.S} {vs : List Value} {out : Out U} (ho : (opNew nx t l h').outs = some out) (hag : ∀ s, s ∈ out.rd ∨ s ∈ out.w.map (·.1) → get h s = get h' s)
  (hg : G U c Φ h w) (hf : ∀ s, nx ≤ s → s < nx + out.nw → get h s = none ∧ ∀ i, c.L s i = none) (hl : RL U c l vs) :
  ∃ c' Φ', Step1 U c Φ h nx out w c' Φ' (.pointer (some (at_ w.heap.size 0))) (w.alloc (.cells vs.toArray t')) := by
 have plain : out = { v := Rf.sc (.ptr nx 0 0), w := [(nx, .obj l)], nw := 1 } → ∃ c' Φ', Step1 U c Φ h nx out w c' Φ' (.pointer (some (at_ w.heap.size 0))) (w.alloc (.cells vs.toArray t')) := fun e => by
  subst e
  obtain ⟨h1, h2⟩ := hf nx (Nat.le_refl _) (by simp)
  exact Step1.obj hU hg hl h2 h1
 unfold opNew at ho
 split at ho
 ·rename_i F u hu
  split at ho
  ·rename_i v n f he
   split at ho
   ·rename_i e heq
    subst e
    cases hb : Nat.blt F U.nf with
    | false => rw [hb] at ho; cases ho
    | true =>
     rw [hb] at ho
     simp only [cond_true] at ho
     split at ho
     ·rename_i x hx
      cases ho
      have he' : get h F = some (.fam false v n f) := by rw [hag F (.inl (by simp))]; exact he
      exact Step1.newfam hU hg he' (Nat.le_of_ble_eq_true hb) hl hx
     ·cases ho
   ·cases ho
  ·cases ho; exact plain rfl
 ·cases ho; exact plain rfl
theorem Z8Y (hU : U.Ok) {t : TypeId} {h' : Heap U} {out : Out U} (ho : (Z5g (U := U) P nx t h').outs = some out) (hag : ∀ s, s ∈ out.rd ∨ s ∈ out.w.map (·.1) → get h s = get h' s) (hg : G U c Φ h w)
  (hf : ∀ s, nx ≤ s → s < nx + out.nw → get h s = none ∧ ∀ i, c.L s i = none) :
  ∃ u w' c' Φ', (Instr.alloc t true (.tuple #[])).run P w = .ok u w' ∧ Step1 U c Φ h nx out w c' Φ' u w' := by
 unfold Z5g at ho
 split at ho
 ·rename_i l hl
  obtain ⟨z, hz, hr⟩ := Z13 (c := c) hl
  obtain ⟨c', Φ', hs1⟩ := new_ok (t' := t) hU ho hag hg hf hr
  refine ⟨_, _, c', Φ', ?_, hs1⟩
  simp [Instr.alloc, hz, newVar, newRow, World.alloc_eq]
 ·cases ho
theorem box_ok (hU : U.Ok) {t : TypeId} {h' : Heap U} {a : A U} {out : Out U} {v : Value} (ho : (Z7i nx t a h').outs = some out) (hag : ∀ s, s ∈ out.rd ∨ s ∈ out.w.map (·.1) → get h s = get h' s) (ha : RA U c a v) (hg : G U c Φ h w)
  (hf : ∀ s, nx ≤ s → s < nx + out.nw → get h s = none ∧ ∀ i, c.L s i = none) :
  ∃ u w' c' Φ', (Instr.box t v).run P w = .ok u w' ∧ Step1 U c Φ h nx out w c' Φ' u w' := by
 unfold Z7i at ho
 split at ho
 ·rename_i x
  cases hb : x.l.all Zf with
  | false => rw [hb] at ho; cases ho
  | true =>
   rw [hb] at ho
   obtain ⟨c', Φ', hs1⟩ := new_ok (t' := t) hU ho hag hg hf (RV.cells ha)
   refine ⟨_, _, c', Φ', ?_, hs1⟩
   simp [Instr.box, newVar, newRow, World.alloc_eq]
 ·cases ho
end Go.Rf
namespace Go.Rf
set_option linter.unusedVariables false
set_option linter.unusedSimpArgs false
variable {U : Univ} {P : Program} {c : Cx} {Φ : Nat → Nat → Nat → Prop} {h : Heap U} {nx : Nat} {w : World}
theorem Step1.reval {c' : Cx} {Φ' : Nat → Nat → Nat → Prop} {w' : World} {v v2 : A U} {rd : List Nat} {es : List (Nat × Ent U)} {nw : Nat} {p p2 : Value}
  (h1 : Step1 U c Φ h nx { v := v, rd := rd, w := es, nw := nw } w c' Φ' p w') (hv : RA U c' v2 p2) : Step1 U c Φ h nx { v := v2, rd := rd, w := es, nw := nw } w c' Φ' p2 w' :=
 { le := h1.le, L := h1.L, val := hv, g := h1.g, fr := h1.fr, foot := h1.foot, footw := h1.footw, names := h1.names, inew := h1.inew }
theorem Z6T (hU : U.Ok) {s n : Nat} {u : U.C} {f : Nat → U.D u} {F : Nat → Nat → Prop} (hp : U.plain u = true) (h : EntOK c w s F (.fam true u n f : Ent U)) : EntOK c w s F (.famz u n 0 f : Ent U) := by
 obtain ⟨A, G, h0, h1, h2, h3, h4, h5⟩ := h
 have hc := hU.enc_cell u
 have hcell : ∀ i k x, i < n → (U.enc u (f i))[k]? = some x → (∃ v, w.cell? (at_ (A i).1 ((A i).2 + k)) = some v ∧ R U c x v) ∧ w.frozen? (at_ (A i).1 ((A i).2 + k)) = false ∧ ∀ b' o', G i k b' o' ↔ (b' = (A i).1 ∧ o' = (A i).2 + k) := fun i k x hi hx => by
  have hx' : Zf x = true := by
   have := hc (f i) hp
   rw [List.all_eq_true] at this
   exact this x (List.mem_of_getElem? hx)
  exact (h2 i hi).cell hx hx'
 refine ⟨A, h0, h1, h5 rfl, hp, fun i k x _ hz => absurd hz (Nat.not_lt_zero _), fun i k x hi _ hx => ?_, fun b o => ?_⟩
 ·obtain ⟨⟨v, p1, p2⟩, p3, _⟩ := hcell i k x hi hx
  exact ⟨v, p1, p2, p3⟩
 ·rw [h4]
  constructor
  ·rintro ⟨i, k, hi, hk, hf⟩
   have hlt : k < (U.enc u (f i)).length := by rw [hU.enc_len]; exact hk
   obtain ⟨_, _, h6⟩ := hcell i k _ hi (List.getElem?_eq_getElem hlt)
   obtain ⟨e1, e2⟩ := (h6 b o).1 hf
   exact ⟨i, k, hi, Nat.zero_le _, hk, e1, e2⟩
  ·rintro ⟨i, k, hi, _, hk, e1, e2⟩
   have hlt : k < (U.enc u (f i)).length := by rw [hU.enc_len]; exact hk
   obtain ⟨_, _, h6⟩ := hcell i k _ hi (List.getElem?_eq_getElem hlt)
   exact ⟨i, k, hi, hk, (h6 b o).2 ⟨e1, e2⟩⟩
theorem Z5P (hU : U.Ok) {s n z z' : Nat} {v : U.C} {f : Nat → U.D v} {rd : List Nat} (hg : G U c Φ h w) (hsome : (get h s).isSome) (hE : EntOK c w s (Φ s) (.famz v n z f : Ent U)) (hz : z ≤ z') (hn : z' ≤ n) :
  ∃ c' Φ', Step1 U c Φ h nx { v := .t [], rd := rd, w := [(s, .famz v n z' f)] } w c' Φ' undef w := by
 obtain ⟨A, h0, h1, h2, h3, h4, h5, h6⟩ := hE
 generalize hsz : U.size v = sz at *
 let b := (A 0).1
 let o := (A 0).2 + z * sz
 let N := (z' - z) * sz
 have hin : ∀ o', o ≤ o' → o' < o + N → ∃ i k, z ≤ i ∧ i < z' ∧ k < sz ∧ b = (A i).1 ∧ o' = (A i).2 + k := fun o' ha hb => by
  have hpos : 0 < sz := by
   rcases Nat.eq_zero_or_pos sz with e | e
   ·simp only [N, e, Nat.mul_zero] at hb; omega
   ·exact e
  have hN : z * sz + N = z' * sz := by
   simp only [N]; rw [← Nat.add_mul]; congr 1; omega
  have hq1 : z * sz ≤ o' - (A 0).2 := by simp only [o] at ha; omega
  have hq2 : o' - (A 0).2 < z' * sz := by simp only [o] at ha hb; omega
  have hi1 : z ≤ (o' - (A 0).2) / sz := (Nat.le_div_iff_mul_le hpos).2 hq1
  have hi2 : (o' - (A 0).2) / sz < z' := (Nat.div_lt_iff_lt_mul hpos).2 hq2
  have e := h2 _ (Nat.lt_of_lt_of_le hi2 hn)
  refine ⟨(o' - (A 0).2) / sz, (o' - (A 0).2) % sz, hi1, hi2, Nat.mod_lt _ hpos, by rw [e], ?_⟩
  rw [e]
  have := Nat.div_add_mod (o' - (A 0).2) sz
  rw [Nat.mul_comm] at this
  simp only [o] at ha
  simp only; omega
 have hcell : ∀ i k, z ≤ i → i < z' → k < sz → ∃ u, w.cell? (at_ (A i).1 ((A i).2 + k)) = some u ∧ R U c ((U.enc v (f i)).getD k .hole) u ∧ Φ s (A i).1 ((A i).2 + k) := fun i k p1 p2 p3 => by
  have hlt : k < (U.enc v (f i)).length := by rw [hU.enc_len, hsz]; exact p3
  obtain ⟨u, q1, q2, _⟩ := h5 i k _ (by omega) p1 (List.getElem?_eq_getElem hlt)
  exact ⟨u, q1, by rw [getD_of_getElem? (List.getElem?_eq_getElem hlt)]; exact q2, (h6 _ _).2 ⟨i, k, by omega, p1, p3, rfl, rfl⟩⟩
 have hfoot : ∀ o', o ≤ o' → o' < o + N → ∃ u, w.cell? (at_ b o') = some u ∧ Φ s b o' := fun o' ha hb => by
  obtain ⟨i, k, p1, p2, p3, p4, p5⟩ := hin o' ha hb
  obtain ⟨u, q1, _, q3⟩ := hcell i k p1 p2 p3
  rw [p4, p5]; exact ⟨u, q1, q3⟩
 have hrange : ∀ i k, z ≤ i → i < z' → k < sz → (A i).1 = b ∧ o ≤ (A i).2 + k ∧ (A i).2 + k < o + N := fun i k p1 p2 p3 => by
  have e := h2 i (by omega)
  have h7 : z * sz ≤ i * sz := Nat.mul_le_mul_right _ p1
  have h8 : (i + 1) * sz ≤ z' * sz := Nat.mul_le_mul_right _ p2
  rw [Nat.succ_mul] at h8
  have hN : z * sz + N = z' * sz := by
   simp only [N]; rw [← Nat.add_mul]; congr 1; omega
  rw [e]
  refine ⟨rfl, ?_, ?_⟩ <;> simp only [o] <;> omega
 have hle : c.Le (c.freeze w b o N) := ⟨fun _ _ _ h => h, fun b' o' u hI => by
  show (if _ then _ else _) = _
  by_cases hc : b' = b ∧ o ≤ o' ∧ o' < o + N
  ·obtain ⟨rfl, ha, hb⟩ := hc
   obtain ⟨_, _, h8⟩ := hfoot o' ha hb
   have := hg.immApart s _ _ hsome h8
   rw [this] at hI; cases hI
  ·rw [if_neg hc]; exact hI⟩
 let F' : Nat → Nat → Prop := fun b' o' => ∃ i k, i < n ∧ z' ≤ i ∧ k < sz ∧ b' = (A i).1 ∧ o' = (A i).2 + k
 have hF' : ∀ b' o', F' b' o' → Φ s b' o' := fun b' o' ⟨i, k, p1, p2, p3, p4, p5⟩ => (h6 _ _).2 ⟨i, k, p1, by omega, p3, p4, p5⟩
 have hout : ∀ b' o', F' b' o' → ¬ (b' = b ∧ o ≤ o' ∧ o' < o + N) := fun b' o' ⟨i, k, p1, p2, p3, p4, p5⟩ ⟨q1, q2, q3⟩ => by
  have e := h2 i p1
  rw [e] at p5
  simp only at p5
  have h7 : z' * sz ≤ i * sz := Nat.mul_le_mul_right _ p2
  have hN : z * sz + N = z' * sz := by
   simp only [N]; rw [← Nat.add_mul]; congr 1; omega
  simp only [o] at q3; omega
 refine ⟨c.freeze w b o N, fup Φ s F', ⟨hle, fun _ _ _ _ => rfl, RA.undef, ?_, .refl _ _, ?_, ?_, ?_, ?_⟩⟩
 ·have hE : EntOK (c.freeze w b o N) w s F' (.famz v n z' f : Ent U) := by
   refine ⟨A, h0, h1, fun i hi => by rw [hsz]; exact h2 i hi, h3, fun i k x hi hzi hx => ?_, fun i k x hi hzi hx => ?_, fun _ _ => by rw [hsz]⟩
   ·have hk' : k < sz := by rw [← hsz, ← hU.enc_len v (f i)]; exact (List.getElem?_eq_some_iff.1 hx).1
    by_cases e : i < z
    ·obtain ⟨u, p1, p2⟩ := h4 i k x hi e hx
     exact ⟨u, hle.I _ _ _ p1, p2.mono hle⟩
    ·obtain ⟨u, p1, p2, _⟩ := hcell i k (by omega) hzi hk'
     rw [getD_of_getElem? hx] at p2
     refine ⟨u, ?_, p2.mono hle⟩
     show (if _ then _ else _) = _
     rw [if_pos (hrange i k (by omega) hzi hk')]
     obtain ⟨q1, _⟩ := hrange i k (by omega) hzi hk'
     rw [← q1]
     exact p1
   ·obtain ⟨u, p1, p2, p3⟩ := h5 i k x hi (by omega) hx
    exact ⟨u, p1, p2.mono hle, p3⟩
  refine G.put hU hg hle (fun _ _ _ => rfl) hE (fun _ _ _ => Agr.refl _ _) (fun t b' o' ht h1 hf hF => hg.apart t s b' o' ht h1 hsome hf (hF' _ _ hF)) (fun b' o' u hI => ?_) (fun t b' o' ht h1 hf => ?_) (fun b' o' hF => ?_)
  ·have hI : (if b' = b ∧ o ≤ o' ∧ o' < o + N then w.cell? (at_ b o') else c.I b' o') = some u := hI
   split at hI
   ·rename_i hc; rw [hc.1]; exact hI
   ·exact hg.imm _ _ _ hI
  ·show (if _ then _ else _) = _
   split
   ·rename_i hc
    obtain ⟨rfl, ha, hb⟩ := hc
    obtain ⟨_, _, h8⟩ := hfoot o' ha hb
    exact absurd h8 (hg.apart t s _ _ ht h1 hsome hf)
   ·exact hg.immApart t _ _ h1 hf
  ·show (if _ then _ else _) = _
   rw [if_neg (hout _ _ hF)]
   exact hg.immApart s _ _ hsome (hF' _ _ hF)
 ·intro t ht
  have : t ≠ s := fun e => ht (by simp [e])
  simp [fup, this]
 ·intro t b' o' ht hf
  have : t = s := by simpa using ht
  subst this
  simp [fup] at hf
  exact .inr ⟨t, by simp, hsome, hF' _ _ hf⟩
 ·intro t ht
  have : t = s := by simpa using ht
  subst this
  exact .inr hsome
 ·intro b' o' u hI
  have hI : (if b' = b ∧ o ≤ o' ∧ o' < o + N then w.cell? (at_ b o') else c.I b' o') = some u := hI
  split at hI
  ·rename_i hc
   obtain ⟨rfl, ha, hb⟩ := hc
   obtain ⟨_, _, h8⟩ := hfoot o' ha hb
   exact .inr (.inr ⟨s, by simp, hsome, h8⟩)
  ·exact .inl hI
theorem Z5q {s n z i : Nat} {v : U.C} {f : Nat → U.D v} {F : Nat → Nat → Prop} (hE : EntOK c w s F (.famz v n z f : Ent U)) (hi : i < n) (hz : i < z) {b o : Nat} (hL : c.L s i = some (b, o)) :
  ∀ k x, (U.enc v (f i))[k]? = some x → ∃ u, c.I b (o + k) = some u ∧ R U c x u := by
 obtain ⟨A, h0, _, _, _, h4, _⟩ := hE
 have := h0 i hi
 rw [hL] at this
 simp only [Option.some.injEq] at this
 intro k x hx
 have := h4 i k x hi hz hx
 rw [← ‹(b, o) = A i›] at this
 exact this
theorem Z7z (hU : U.Ok) {h' : Heap U} {t : TypeId} {a v : A U} {r : OpR U} {out : Out U} {p q : Value} (hr : Z5b P t a v h' = some r) (ho : r.outs = some out)
  (hag : ∀ s, s ∈ out.rd ∨ s ∈ out.w.map (·.1) → get h s = get h' s) (hg : G U c Φ h w) (ha : RA U c a p) (hv : RA U c v q) :
  ∃ w' c' Φ', (Instr.storeAt t p q).run P w = .ok () w' ∧ Step1 U c Φ h nx out w c' Φ' undef w' := by
 unfold Z5b at hr
 split at hr
 ·rename_i s i off
  split at hr
  ·rename_i u n z g se he hu
   split at hr
   ·rename_i vv hvv
    split at hr
    ·rename_i y hy
     cases hr
     obtain ⟨o, hO, rfl⟩ := Z4o ho
     have he' : get h s = some (.famz u n z g) := by rw [hag s (.inl (by simp))]; exact he
     have hE := hg.ents s _ he'
     obtain ⟨b, x, hL, rfl⟩ : ∃ b x, c.L s i = some (b, x) ∧ q = .pointer (some (at_ b (x + off))) := by
      cases (show R U c _ q from hv) with | ptr h0 => exact ⟨_, _, h0, rfl⟩
     have hin : i < n := by obtain ⟨A, _, h1, _⟩ := id hE; exact h1 _ _ hL
     have hst : ∃ c' Φ', Step1 U c Φ h nx { v := .t [], rd := [s], w := [(s, .famz u n (Nat.max z (i + 1)) g)] } w c' Φ' undef w := by
      by_cases hzi : i + 1 ≤ z
      ·rw [show Nat.max z (i + 1) = z from Nat.max_eq_left hzi]
       exact ⟨c, Φ, Z1M hg he' fun F hF => hF⟩
      ·exact Z5P hU hg (by rw [he']; rfl) hE (Nat.le_max_left _ _) (Nat.max_le.2 ⟨by omega, hin⟩)
     obtain ⟨c', Φ1, hst⟩ := hst
     have hL' := hst.le.L _ _ _ hL
     have hcs := Z5q (hst.g.ents s (.famz u n (Nat.max z (i + 1)) g) (by show get ((s, _) :: h) s = _; rw [Z5, if_pos rfl])) hin (Nat.lt_of_lt_of_le (Nat.lt_succ_self i) (Nat.le_max_right _ _)) hL'
     have hlen := hU.dec_len _ _ _ hy
     have hk0 : ∀ k, k < U.size vv → ∃ val, c'.I b (x + off + k) = some val ∧ R U c' ((U.enc vv y).getD k .hole) val := fun k hk => by
      have hlt : k < (dropT off (U.size vv) (U.enc u (g i))).length := by rw [hlen]; exact hk
      have hx' := List.getElem?_eq_getElem hlt
      obtain ⟨z', h2, h3⟩ := hU.dec_cell _ _ _ hy k _ hx'
      have h4 : (U.enc u (g i))[off + k]? = some (dropT off (U.size vv) (U.enc u (g i)))[k] := by
       rw [← hx']
       unfold dropT
       rw [List.getElem?_take, if_pos hk, List.getElem?_drop]
      obtain ⟨val, h5, h6⟩ := hcs _ _ h4
      refine ⟨val, by rw [show x + off + k = x + (off + k) by omega]; exact h5, ?_⟩
      rw [getD_of_getElem? h2]
      exact h3.val _ _ h6
     have hv' : RA U c' (Rf.sc (.optr vv (some y))) (.pointer (some (at_ b (x + off)))) :=
      R.osome (fun k => if hk : k < U.size vv then (hk0 k hk).choose else undef) (fun k hk => by
       simp only [dif_pos hk]; exact (hk0 k hk).choose_spec.1) fun k hk => by
       simp only [dif_pos hk]; exact (hk0 k hk).choose_spec.2
     obtain ⟨u', w', ⟨h1, rfl⟩, c2, Φ2, h2⟩ := Z3x (h := (s, .famz u n (Nat.max z (i + 1)) g) :: h) (nx := nx) (post := fun u' w' => (Instr.storeAt t p (.pointer (some (at_ b (x + off))))).run P w = .ok () w' ∧ u' = undef) hU hO (fun x hx => by
       rw [Z5, Z5]
       by_cases e : s = x
       ·rw [if_pos e, if_pos e]
       ·rw [if_neg e, if_neg e]
        refine hag x ?_
        rcases hx with hx | hx
        ·exact .inl (List.mem_append_right _ hx)
        ·exact .inr (by rw [List.map_append]; exact List.mem_append_left _ hx)) hst.g fun h1 h1' Φ1 o h2 h3 h4 => by
      obtain ⟨w', c', Φ', p1, p2⟩ := Z7s (nx := nx) hU h2 h3 h4 (ha.mono hst.le) hv'
      exact ⟨undef, w', ⟨p1, rfl⟩, c', Φ', p2⟩
     refine ⟨w', c2, Φ2, h1, ?_⟩
     have := hst.comp (rd := [s] ++ o.rd) h2
     simp only [Nat.zero_add] at this
     exact this
    ·cases hr
   ·cases hr
  ·cases hr
 ·cases hr
theorem band {a b : Bool} (h : (bif a then b else false) = true) : a = true ∧ b = true := by cases a <;> simp_all
theorem Z9e {s n : Nat} {u : U.C} (hr : Z4K h s = some (u, n)) (hg : G U c Φ h w) : ∃ A : Nat → Nat × Nat, (∀ i, i < n → c.L s i = some (A i)) ∧ (∀ i x, c.L s i = some x → i < n) ∧ ∀ i, i < n → A i = ((A 0).1, (A 0).2 + i * U.size u) := by
 unfold Z4K at hr
 split at hr
 ·rename_i he
  cases hr
  obtain ⟨A, h1, h2, _, h3⟩ := (hg.ents s _ he).fams
  exact ⟨A, h1, h2, h3 rfl⟩
 ·rename_i he
  cases hr
  obtain ⟨A, h1, h2, h3, _⟩ := hg.ents s _ he
  exact ⟨A, h1, h2, h3⟩
 ·cases hr
theorem Z7J {h' : Heap U} {s : Nat} (e : get h s = get h' s) : Z4K h s = Z4K h' s := by unfold Z4K; rw [e]
theorem Z8e {h' : Heap U} {t : TypeId} {a b : A U} {r : OpR U} {out : Out U} {p q : Value} (hr : Z6a P t a b h' = some r) (ho : r.outs = some out)
  (hag : ∀ s, s ∈ out.rd ∨ s ∈ out.w.map (·.1) → get h s = get h' s) (hg : G U c Φ h w) (ha : RA U c a p) (hb : RA U c b q) :
  Quiet U c w P (Instr.indexAt t p q) out := by
 unfold Z6a at hr
 split at hr
 ·rename_i s i0 off k n
  split at hr
  ·rename_i u nn len e hat hu
   split at hr
   ·rename_i m hm
    cases hc : Nat.beq m (U.size u) && Nat.beq i0 0 && Nat.beq off 0 with
    | false => rw [hc] at hr; cases hr
    | true =>
     rw [hc] at hr
     simp only [Bool.and_eq_true] at hc
     obtain ⟨⟨c1, c3⟩, c4⟩ := hc
     have c1 := nbeq c1; have c3 := nbeq c3; have c4 := nbeq c4
     subst c1; subst c3; subst c4
     cases hr
     obtain ⟨hin, rfl⟩ := Zb ho
     obtain ⟨hin, hin2⟩ := band hin
     obtain ⟨h0, h1, _⟩ := ZT hin
     obtain ⟨_, _, h2⟩ := ZT hin2
     rw [← Z7J (hag s (.inl (by simp)))] at hat
     obtain ⟨A, hA, hA1, hct⟩ := Z9e hat hg
     cases R.int (show R U c _ q from hb)
     obtain ⟨b, x, hL, rfl⟩ : ∃ b x, c.L s 0 = some (b, x) ∧ p = .pointer (some (at_ b (x + 0))) := by
      cases (show R U c _ p from ha) with | ptr h0 => exact ⟨_, _, h0, rfl⟩
     have e2 := hA 0 (by omega)
     rw [hL] at e2
     simp only [Option.some.injEq] at e2
     have e3 : A n.toNat = (b, x + n.toNat * U.size u) := by rw [hct _ h2, ← e2]
     refine ⟨.pointer (some (at_ b (x + n.toNat * U.size u + 0))), ?_, ?_, rfl, rfl⟩
     ·simp only [Instr.indexAt, Sem.run_bind, Z19, Result.andThen_ok, run_underlying hu]
      simp [h0, h1, Z7 hm, Zs, Instr.sureAddr]
     ·exact R.ptr (by rw [hA _ h2, e3])
   ·cases hr
  ·cases hr
 ·cases hr
theorem Z7u (hU : U.Ok) {h' : Heap U} {t : TypeId} {a : A U} {xl xh xm : Option (Option (A U))} {yl yh ym : Option Value} {r : OpR U} {out : Out U} {p : Value} (hr : Z5k P t a xl xh xm h' = some r) (ho : r.outs = some out)
  (hag : ∀ s, s ∈ out.rd ∨ s ∈ out.w.map (·.1) → get h s = get h' s) (hg : G U c Φ h w) (ha : RA U c a p) (hl : Z1n U c xl yl) (hh : Z1n U c xh yh) (hm : Z1n U c xm ym) :
  ∃ u w' c' Φ', (Instr.sliceAt t p yl yh ym).run P w = .ok u w' ∧ Step1 U c Φ h nx out w c' Φ' u w' := by
 unfold Z5k at hr
 split at hr
 ·rename_i s i off
  split at hr
  ·rename_i u n g len e he hu
   split at hr
   ·rename_i m rr hm1 hrr
    cases hc : Nat.beq m (U.size u) && U.plain u && Nat.beq i 0 && Nat.beq off 0 with
    | false => rw [hc] at hr; cases hr
    | true =>
     rw [hc] at hr
     simp only [Bool.and_eq_true] at hc
     obtain ⟨⟨⟨c1, cp⟩, c3⟩, c4⟩ := hc
     have c1 := nbeq c1; have c3 := nbeq c3; have c4 := nbeq c4
     subst c1; subst c3; subst c4
     cases hr
     obtain ⟨hin, rfl⟩ := Zb ho
     obtain ⟨hin, hin2⟩ := band hin
     obtain ⟨e0, e1, e2⟩ := ZS hin
     obtain ⟨_, _, e22⟩ := ZS hin2
     have he' : get h s = some (.fam true u n g) := by rw [hag s (.inl (by simp))]; exact he
     have hE := Z6T hU cp (hg.ents s _ he')
     obtain ⟨c', Φ', hst⟩ := Z5P (nx := nx) (rd := [s]) hU hg (by rw [he']; rfl) hE (Nat.zero_le _) (Nat.le_refl _)
     obtain ⟨b, x, hL, rfl⟩ : ∃ b x, c.L s 0 = some (b, x) ∧ p = .pointer (some (at_ b (x + 0))) := by
      cases (show R U c _ p from ha) with | ptr h0 => exact ⟨_, _, h0, rfl⟩
     cases ym with
     | some v => exact hm.elim
     | none =>
      cases yl with
      | some v => exact hl.elim
      | none =>
       have hb := ZX (P := P) (w := w) (isS := false) (l := 0) (.inl ⟨rfl, rfl⟩) (Zi hrr hh) (Int.le_refl _) e1 e2 (Nat.le_refl _)
       have hE' := hst.g.ents s (.famz u n n g) (by show get ((s, _) :: h) s = _; rw [Z5, if_pos rfl])
       obtain ⟨A, hA, hA1, hct, _⟩ := id hE'
       have hlen : ((List.range rr.toNat).map g).length = rr.toNat := by simp
       have hL' := hst.le.L _ _ _ hL
       have hcell : ∀ i k, i < rr.toNat → k < U.size u → ∃ val, c'.I b (x + (i * U.size u + k)) = some val ∧ R U c' ((U.enc u (((List.range rr.toNat).map g).getD i (U.dft u))).getD k .hole) val := fun i k hi hk => by
        have hin' : i < n := by omega
        have e3 := hA 0 (by omega)
        rw [hL'] at e3
        simp only [Option.some.injEq] at e3
        have e4 : c'.L s i = some (b, x + i * U.size u) := by rw [hA i hin', hct i hin', ← e3]
        have hlt : k < (U.enc u (g i)).length := by rw [hU.enc_len]; exact hk
        obtain ⟨val, h5, h6⟩ := Z5q hE' hin' hin' e4 k _ (List.getElem?_eq_getElem hlt)
        refine ⟨val, by rw [← Nat.add_assoc]; exact h5, ?_⟩
        have : ((List.range rr.toNat).map g).getD i (U.dft u) = g i := by simp [List.getD, hi]
        rw [this, getD_of_getElem? (List.getElem?_eq_getElem hlt)]
        exact h6
       refine ⟨_, w, c', Φ', ?_, hst.reval (v2 := Rf.sc (.isl .none u ((List.range rr.toNat).map g))) (p2 := .slice (some (if len = 0 then at_ b (x + 0) else (at_ b (x + 0)).add (0 * U.size u))) rr.toNat len) ?_⟩
       ·simp [Instr.sliceAt, run_underlying hu, Instr.sureAddr, hb, Z7 hm1]
       ·have := R.isl (c := c') (t := .none) (u := u) (xs := (List.range rr.toNat).map g) (a := some (if len = 0 then at_ b (x + 0) else (at_ b (x + 0)).add (0 * U.size u))) (cap := len) (b := b) (o := x)
         (fun i k => if hh : i < rr.toNat ∧ k < U.size u then (hcell i k hh.1 hh.2).choose else undef) (by rw [hlen]; omega) trivial (fun hpos => by
          rw [Zs]; simp) (fun i k hi hk => by
          rw [hlen] at hi; simp only [dif_pos (And.intro hi hk)]; exact (hcell i k hi hk).choose_spec.1) (fun i k hi hk => by
          rw [hlen] at hi; simp only [dif_pos (And.intro hi hk)]; exact (hcell i k hi hk).choose_spec.2)
        rw [hlen] at this
        exact this
   ·cases hr
  ·cases hr
 ·cases hr
theorem Z8N {h' : Heap U} {t : TypeId} {a : A U} {xl xh xm : Option (Option (A U))} {yl yh ym : Option Value} {r : OpR U} {out : Out U} {p : Value} (hr : Z7g P t a xl xh xm h' = some r) (ho : r.outs = some out)
  (hag : ∀ s, s ∈ out.rd ∨ s ∈ out.w.map (·.1) → get h s = get h' s) (hg : G U c Φ h w) (ha : RA U c a p) (hl : Z1n U c xl yl) (hh : Z1n U c xh yh) (hm : Z1n U c xm ym) :
  Quiet U c w P (Instr.sliceAt t p yl yh ym) out := by
 unfold Z7g at hr
 split at hr
 ·rename_i s i off
  split at hr
  ·rename_i u n g len e he hu
   split at hr
   ·rename_i m ll rr hm1 hll hrr
    cases hc : Nat.beq m (U.size u) && Nat.beq i 0 && Nat.beq off 0 with
    | false => rw [hc] at hr; cases hr
    | true =>
     rw [hc] at hr
     simp only [Bool.and_eq_true] at hc
     obtain ⟨⟨c1, c3⟩, c4⟩ := hc
     have c1 := nbeq c1; have c3 := nbeq c3; have c4 := nbeq c4
     subst c1; subst c3; subst c4
     cases hr
     obtain ⟨hin, rfl⟩ := Zb ho
     obtain ⟨hin, hin2⟩ := band hin
     obtain ⟨e0, e1, e2⟩ := ZS hin
     obtain ⟨_, _, e22⟩ := ZS hin2
     have he' : get h s = some (.fam true u n g) := by rw [hag s (.inl (by simp))]; exact he
     obtain ⟨A, hA, hA1, _, hct⟩ := (hg.ents s _ he').fams
     obtain ⟨b, x, hL, rfl⟩ : ∃ b x, c.L s 0 = some (b, x) ∧ p = .pointer (some (at_ b (x + 0))) := by
      cases (show R U c _ p from ha) with | ptr h0 => exact ⟨_, _, h0, rfl⟩
     cases ym with
     | some v => exact hm.elim
     | none =>
      have hb := ZX (P := P) (w := w) (isS := false) (Zi hll hl) (Zi hrr hh) e0 e1 e2 (Nat.le_refl _)
      refine ⟨.slice (some (if len = ll.toNat then at_ b (x + 0) else (at_ b (x + 0)).add (ll.toNat * U.size u))) (rr.toNat - ll.toNat) (len - ll.toNat), ?_, ?_, rfl, rfl⟩
      ·simp [Instr.sliceAt, run_underlying hu, Instr.sureAddr, hb, Z7 hm1]
      ·have hpos := hA1 _ _ hL
       have e3 := hA 0 hpos
       rw [hL] at e3
       simp only [Option.some.injEq] at e3
       refine R.sl (b := b) (o := x + ll.toNat * U.size u) (by omega) (fun h0 => ⟨?_, ?_⟩) fun j hj => ⟨_, hA _ (by omega)⟩
       ·rw [hA _ (by omega), hct rfl _ (by omega), ← e3]
       ·rw [if_neg (by omega), Zs]; simp
   ·cases hr
  ·cases hr
 ·cases hr
theorem Z7y (hU : U.Ok) {f z : Bool} {t : TypeId} {r : OpR U} {out : Out U} (hr : Z5d (U := U) P f z t nx = some r) (ho : r.outs = some out) (hg : G U c Φ h w) (hf : ∀ s, nx ≤ s → s < nx + out.nw → get h s = none ∧ ∀ i, c.L s i = none) :
  ∃ u w' c' Φ', (Instr.alloc t true (.tuple #[])).run P w = .ok u w' ∧ Step1 U c Φ h nx out w c' Φ' u w' := by
 unfold Z5d at hr
 cases hfz : f || z with
 | false => rw [hfz] at hr; cases hr
 | true =>
  rw [hfz] at hr
  simp only [cond_true] at hr
  split at hr
  ·rename_i len e hu
   split at hr
   ·rename_i u l hue hl
    cases hc : U.plain u && Nat.ble 1 len && Nat.beq l.length (len * U.size u) with
    | false => rw [hc] at hr; cases hr
    | true =>
     rw [hc] at hr
     simp only [Bool.and_eq_true] at hc
     obtain ⟨⟨cp, c1⟩, c2⟩ := hc
     have c1 := Nat.le_of_ble_eq_true c1
     have c2 := nbeq c2
     simp only [cond_true] at hr
     split at hr
     ·rename_i xs hxs
      cases hr
      cases ho
      obtain ⟨zv, hz, hrl⟩ := Z13 (c := c) hl
      obtain ⟨hxl, hxa⟩ := Z34 _ _ _ hxs
      obtain ⟨hn, hs0⟩ := hf nx (Nat.le_refl _) (by simp)
      have hvl : zv.cells.toList.length = len * U.size u := by rw [hrl.len, c2]
      have hnew : ∀ (j : Nat) v, zv.cells.toList[j]? = some v → (w.alloc (.cells zv.cells.toList.toArray t)).cell? (at_ w.heap.size j) = some v := fun j v hj => by simpa using hj
      obtain ⟨c', Φ', hst⟩ := Step1.fam (nx := nx) (h := h) (rd := []) (n := len) (f := fun j => xs.getD j (U.dft u)) (vs := zv.cells.toList) (w' := w.alloc (.cells zv.cells.toList.toArray t)) (N := w.heap.size) (a := some (at_ w.heap.size 0)) (cap := len) hU hg hs0 hn
       (Fr.alloc _ _ _) (Nat.le_refl _) cp hvl hnew (fun j hj => by simp) (fun i k hi hk => by
        have h3 := hxa i hi
        have hrow : i * U.size u + U.size u ≤ len * U.size u := by
         have : (i + 1) * U.size u ≤ len * U.size u := Nat.mul_le_mul_right _ hi
         rwa [Nat.succ_mul] at this
        have hlt : k < (dropT (i * U.size u) (U.size u) l).length := by rw [hU.dec_len _ _ _ h3]; exact hk
        have hx' := List.getElem?_eq_getElem hlt
        obtain ⟨z', h4, h5⟩ := hU.dec_cell _ _ _ h3 k _ hx'
        have h6 : l[i * U.size u + k]? = some (dropT (i * U.size u) (U.size u) l)[k] := by
         rw [← hx']
         unfold dropT
         rw [List.getElem?_take, if_pos hk, List.getElem?_drop]
        obtain ⟨v, h7, h8⟩ := hrl.at_ _ _ h6
        refine ⟨v, h7, ?_⟩
        rw [getD_of_getElem? h4]
        exact h5.val _ _ h8) (Nat.le_refl _) (fun _ => rfl)
      have hp : c'.L nx 0 = some (w.heap.size, 0) := by
       cases (show R U c' (.sl nx 0 len) _ from hst.val) with
       | sl hc' ha' hl' =>
        obtain ⟨h1, h2⟩ := ha' (by omega)
        rw [h1]
        simp only [Option.some.injEq, at_, Addr.mk.injEq] at h2
        simp_all
      have hv : RA U c' (Rf.sc (.ptr nx 0 0)) (.pointer (some (at_ w.heap.size 0))) := R.ptr (o := 0) hp
      have hst := hst.reval hv
      cases z with
      | false =>
       refine ⟨_, _, c', Φ', ?_, hst⟩
       simp [Instr.alloc, hz, newVar, newRow, World.alloc_eq]
      | true =>
       have h2 := Z1M (nx := nx + 1) (rd := []) hst.g (s := nx) (e := .fam true u len fun j => xs.getD j (U.dft u)) (by rw [Zd]; simp [Z5]) fun F hF => Z6T hU cp hF
       refine ⟨_, _, c', Φ', ?_, ((hst.comp (rd := []) h2).reval hv)⟩
       simp [Instr.alloc, hz, newVar, newRow, World.alloc_eq]
     ·cases hr
   ·cases hr
  ·cases hr
theorem Z8x (hU : U.Ok) {u : U.C} {xs : List (U.D u)} {v : Value} {rd : List Nat} (hg : G U c Φ h w) (hs : ∀ i, c.L nx i = none) (hn : get h nx = none) (hv : R U c (.isl .full u xs) v) :
  ∃ c' Φ', Step1 U c Φ h nx { v := Rf.sc (.isl (.own nx) u xs), rd := rd, w := [(nx, .tok)], nw := 1 } w c' Φ' v w := by
 cases hv with
 | @isl _ _ _ a cap b o g hc ht ha hi hr =>
  have ht : cap = xs.length := ht
  subst ht
  let c' := c.withL nx fun i => if i = 0 then some (b, o + xs.length * U.size u) else if i = 1 then some (b, o + xs.length * U.size u) else none
  have hle : c.Le c' := Cx.withL_le hs
  have hE : EntOK c' w nx (fun _ _ => False) (.tok : Ent U) := ⟨b, o + xs.length * U.size u, o + xs.length * U.size u, by simp [c', Cx.withL], by simp [c', Cx.withL], fun x h1 h2 => by omega, fun _ _ h => h.elim⟩
  refine ⟨c', fup Φ nx (fun _ _ => False), { le := hle, L := fun s i hsi _ => ?_, val := ?_, g := ?_, fr := .refl _ _, foot := fun s hsn => ?_, footw := fun s b o hsn hf => ?_, names := fun s hsn => ?_, inew := fun _ _ _ h => .inl h }⟩
  ·have : s ≠ nx := fun e => hsi (by subst e; simp)
   simp [c', Cx.withL, this]
  ·exact R.isl (b := b) (o := o) g (Nat.le_refl _) ⟨b, _, _, by simp [c', Cx.withL], by simp [c', Cx.withL], fun hp => ⟨ha hp, rfl, rfl, Nat.le_refl _⟩⟩ ha hi fun i k h1 h2 => (hr i k h1 h2).mono hle
  ·exact hg.put hU hle (fun t i ht => by simp [c', Cx.withL, ht]) hE (fun t _ h1 => Agr.refl _ _) (fun t b o _ h1 hf hF => hF.elim) (fun b o v hv => hg.imm b o v hv) (fun t b o _ h1 hf => hg.immApart t b o h1 hf) (fun b o hF => hF.elim)
  ·simp at hsn; simp [fup, hsn]
  ·simp at hsn; subst hsn
   simp [fup] at hf
  ·simp at hsn; subst hsn; exact .inl (by simp)
theorem Z8P {o o' : Out U} (h : Z5T o nx = some o') : ∃ u xs rd, o = { v := Rf.sc (.isl .full u xs), rd := rd } ∧ o' = { v := Rf.sc (.isl (.own nx) u xs), rd := rd, w := [(nx, .tok)], nw := 1 } := by
 unfold Z5T at h
 split at h
 ·cases h; exact ⟨_, _, _, rfl, rfl⟩
 ·cases h
theorem Z62 {b : Bool} {r : OpR U} {out : Out U} (ho : (Z59 b r nx).outs = some out) : r.outs = some out ∨ ∃ o, r.outs = some o ∧ Z5T o nx = some out := by
 unfold Z59 at ho
 cases b with
 | false => exact .inl ho
 | true =>
  simp only [cond_true] at ho
  split at ho
  ·rename_i c o
   split at ho
   ·rename_i o' h1
    obtain ⟨hc, rfl⟩ := Zb ho
    exact .inr ⟨o, by subst hc; rfl, h1⟩
   ·exact .inl ho
  ·exact .inl ho
end Go.Rf
namespace Go.Rf
set_option linter.unusedVariables false
set_option linter.unusedSimpArgs false
variable {U : Univ} {P : Program} {c : Cx} {Φ : Nat → Nat → Nat → Prop} {h : Heap U} {nx : Nat} {w : World}
theorem Z6N {ρ : Operand → Option (A U)} {a : Act} {x : Option Operand} (h : ∀ y ∈ x.toArray.toList, ∀ v, ρ y = some v → RA U c v (a.eval y)) : Z1n U c (x.map ρ) (x.map a.eval) := by
 cases x with
 | none => trivial
 | some y => exact fun b hb => h y (by simp) b hb
theorem Z7Y (hU : U.Ok) {Γ : Nat → Option (Native U)} (hΓ : ZH U P Γ) {h' : Heap U} {o : Oper} {a : Act} {ρ : Operand → Option (A U)} {out : Out U}
  (ho : (step P Γ nx ρ h' o).outs = some out) (hag : ∀ s, s ∈ out.rd ∨ s ∈ out.w.map (·.1) → get h s = get h' s) (hg : G U c Φ h w)
  (hf : Fresh c h nx out.nw) (hρ : ∀ x ∈ o.op.operands.toList, ∀ v, ρ x = some v → RA U c v (a.eval x)) :
  Does P (Post U c Φ h nx out w) ((execOp a.eval o).run P w) := by
 have wr : ∀ {s : Sem Value} {Q : Value → World → Prop}, (∃ u w' c' Φ', s.run P w = .ok u w' ∧ Step1 U c Φ h nx out w c' Φ' u w') → Does P (Post U c Φ h nx out w) ((do pure (Next.value (← s)) : Sem Next).run P w) := by
  intro s _ ⟨u, w', c', Φ', h1, h2⟩
  exact Does.value h1 ⟨c', Φ', h2⟩
 have mv : ∀ {x : Operand}, (optOk (ρ x)).outs = some out → (∀ v, ρ x = some v → RA U c v (a.eval x)) → Does P (Post U c Φ h nx out w) ((pure (Next.value (a.eval x)) : Sem Next).run P w) := by
  intro x h1 h2
  obtain ⟨v, h3, rfl⟩ := Z8Q h1
  exact ⟨c, Φ, Step1.pure hg (h2 v h3)⟩
 obtain ⟨dst, op, type, pos, after, guard⟩ := o
 cases op <;> simp only [step] at ho <;> simp only [Op.operands] at hρ <;> try (exact (Z1 ho).elim)
 case move x => exact mv ho fun v hv => hρ x (by simp) v hv
 case assign x => exact mv ho fun v hv => hρ x (by simp) v hv
 case pick x y z =>
  obtain ⟨v', rd, w', nw⟩ := out
  obtain ⟨t, h1, h2, h3, h4⟩ := pick_ok ho (fun v hv => hρ x (by simp) v hv) (fun v hv => hρ y (by simp) v hv) (fun v hv => hρ z (by simp) v hv)
  simp only at h2 h3 h4
  subst h3; subst h4
  simp only [execOp, h1]
  show Does P _ (.ok (.value (if t then a.eval y else a.eval z)) w)
  exact ⟨c, Φ, Step1.pure hg h2⟩
 case alloc t =>
  split at ho
  ·rename_i r hr
   exact wr (Q := fun _ _ => True) (Z7y hU hr ho hg hf)
  ·exact wr (Q := fun _ _ => True) (Z8Y hU ho hag hg hf)
 case box t x =>
  split at ho
  ·rename_i v hv
   exact wr (Q := fun _ _ => True) (box_ok hU ho hag (hρ x (by simp) v hv) hg hf)
  ·exact (Z1 ho).elim
 case build t ps => exact (Z9p (ev := a.eval) ho fun p hp v hv => hρ p.2 (by simp; exact ⟨p.1, Array.mem_toList_iff.1 hp⟩) v hv).does hg
 case buildSlice t n ps => exact wr (Q := fun _ _ => True) (Z5Y (ev := a.eval) hU ho hag hg fun p hp v hv => hρ p.2 (by simp; exact ⟨p.1, Array.mem_toList_iff.1 hp⟩) v hv)
 case load t x =>
  split at ho
  ·rename_i v hv
   have hra := hρ x (by simp) v hv
   unfold Z7P at ho
   split at ho
   ·rename_i o hol
    have := Zq ho
    subst this
    split at hol
    ·rename_i hagg
     cases hlk : (Γ Z80).isSome with
     | true =>
      rw [hlk] at hol
      obtain ⟨u, h1, h2⟩ := Z8J (P := P) (nx := nx) hU hol hagg hag hg hra
      exact Does.value h1 ⟨c, Φ, h2⟩
     | false =>
      rw [hlk] at hol
      obtain ⟨u, c', Φ', h1, h2⟩ := Z8m (P := P) hU hol hagg hag hg hf hra
      exact Does.value h1 ⟨c', Φ', h2⟩
    ·cases hol
   obtain ⟨u, w', h1, c', Φ', h2⟩ := Z3x (nx := nx) (post := fun u w' => (Instr.loadAt t (a.eval x)).run P w = .ok u w') hU ho hag hg fun h1 h1' Φ1 o h2 h3 h4 => by
    obtain ⟨v', rd, w1, nw⟩ := o
    obtain ⟨u, p1, p2, p3, p4⟩ := load_ok hU h2 h3 h4 hra
    simp only at p2 p3 p4
    subst p3; subst p4
    exact ⟨u, w, p1, c, Φ1, Step1.pure h4 p2⟩
   exact Does.value h1 ⟨c', Φ', h2⟩
  ·exact (Z1 ho).elim
 case store t x y =>
  split at ho
  ·rename_i u v hu hv
   have hra := hρ x (by simp) u hu
   have hrb := hρ y (by simp) v hv
   split at ho
   ·rename_i r hr
    obtain ⟨w', c', Φ', h1, h2⟩ := Z7z (nx := nx) hU hr ho hag hg hra hrb
    exact Does.unit h1 ⟨c', Φ', h2⟩
   obtain ⟨u', w', ⟨h1, rfl⟩, c', Φ', h2⟩ := Z3x (nx := nx) (post := fun u' w' => (Instr.storeAt t (a.eval x) (a.eval y)).run P w = .ok () w' ∧ u' = undef) hU ho hag hg fun h1 h1' Φ1 o h2 h3 h4 => by
    obtain ⟨w', c', Φ', p1, p2⟩ := Z7s (nx := nx) hU h2 h3 h4 hra hrb
    exact ⟨undef, w', ⟨p1, rfl⟩, c', Φ', p2⟩
   exact Does.unit h1 ⟨c', Φ', h2⟩
  ·exact (Z1 ho).elim
 case nilCheck x =>
  split at ho
  ·rename_i v hv
   obtain ⟨v', rd, w', nw⟩ := out
   obtain ⟨h1, h2, h3, q, h4⟩ := nil_ok ho (hρ x (by simp) v hv)
   simp only at h1 h2 h3
   subst h1; subst h2
   simp only [execOp, h4]
   rw [h4] at h3
   exact ⟨c, Φ, Step1.pure hg h3⟩
  ·exact (Z1 ho).elim
 case binOp op t x y yt =>
  split at ho
  ·rename_i u v hu hv; exact (Z1B ho (hρ x (by simp) u hu) (hρ y (by simp) v hv)).does hg
  ·exact (Z1 ho).elim
 case unOp op t x =>
  split at ho
  ·rename_i v hv; exact (un_ok ho (hρ x (by simp) v hv)).does hg
  ·exact (Z1 ho).elim
 case convert s d x =>
  split at ho
  ·rename_i v hv; exact wr (Q := fun _ _ => True) (Z7F hU ho hag hg (hρ x (by simp) v hv) (fun h0 => hf nx (Nat.le_refl _) (by omega)))
  ·exact (Z1 ho).elim
 case slice t x lo hi mx =>
  split at ho
  ·rename_i v hv
   have q1 := Z6N (U := U) (c := c) (ρ := ρ) (a := a) (x := lo) fun y hy v hv => hρ y (by simp at hy ⊢; simp [hy]) v hv
   have q2 := Z6N (U := U) (c := c) (ρ := ρ) (a := a) (x := hi) fun y hy v hv => hρ y (by simp at hy ⊢; simp [hy]) v hv
   have q3 := Z6N (U := U) (c := c) (ρ := ρ) (a := a) (x := mx) fun y hy v hv => hρ y (by simp at hy ⊢; simp [hy]) v hv
   split at ho
   ·rename_i r hr
    exact wr (Q := fun _ _ => True) (Z7u hU hr ho hag hg (hρ x (by simp) v hv) q1 q2 q3)
   split at ho
   ·rename_i r hr
    exact (Z8N hr ho hag hg (hρ x (by simp) v hv) q1 q2 q3).does hg
   have hslice : ∀ (out : Out U), (Z5a P (Γ (Z4i t)).isSome t v (lo.map ρ) (hi.map ρ) (mx.map ρ) h' nx).outs = some out → (∀ s, s ∈ out.rd ∨ s ∈ out.w.map (·.1) → get h s = get h' s) → Fresh c h nx out.nw →
     ∃ u w' c' Φ', (Instr.sliceAt t (a.eval x) (lo.map a.eval) (hi.map a.eval) (mx.map a.eval)).run P w = .ok u w' ∧ Step1 U c Φ h nx out w c' Φ' u w' := fun out ho hag hf => by
    have quiet : (Z2z P t v (lo.map ρ) (hi.map ρ) (mx.map ρ) h').outs = some out → ∃ u w' c' Φ', (Instr.sliceAt t (a.eval x) (lo.map a.eval) (hi.map a.eval) (mx.map a.eval)).run P w = .ok u w' ∧ Step1 U c Φ h nx out w c' Φ' u w' := fun ho => by
     obtain ⟨u, p1, p2, p3, p4⟩ := Z92 hU ho hag hg (hρ x (by simp) v hv) q1 q2 q3
     obtain ⟨v', rd, w', nw⟩ := out
     simp only at p2 p3 p4
     subst p3; subst p4
     exact ⟨u, w, c, Φ, p1, Step1.pure hg p2⟩
    unfold Z5a at ho
    cases ha0 : Z3I h' v with
    | true => rw [ha0] at ho; exact quiet ho
    | false =>
     rw [ha0] at ho
     simp only [cond_false] at ho
     cases hop : (Γ (Z4i t)).isSome with
     | false => rw [hop] at ho; exact quiet ho
     | true =>
      rw [hop] at ho
      simp only [cond_true] at ho
      split at ho
      ·rename_i r hr
       exact Z75 hU hr ho hag hg hf (hρ x (by simp) v hv) q1 q2 q3
      ·exact quiet ho
   rcases Z62 ho with ho2 | ⟨o, ho2, hoo⟩
   ·exact wr (Q := fun _ _ => True) (hslice out ho2 hag hf)
   ·obtain ⟨uu, xs, rd, rfl, rfl⟩ := Z8P hoo
    obtain ⟨u, w', c', Φ', h1, h2⟩ := hslice _ ho2 (fun s hs => hag s (.inl (by simpa using hs))) (fun s h1 h2 => by simp at h2; omega)
    obtain ⟨hn, hs0⟩ := hf nx (Nat.le_refl _) (by simp)
    obtain ⟨c2, Φ2, h3⟩ := Z8x (nx := nx) (rd := rd) hU h2.g (fun i => by rw [h2.L nx i (by simp) (by simp)]; exact hs0 i) (by simpa using hn) h2.val
    have h4 := h2.comp (rd := rd) h3
    exact wr (Q := fun _ _ => True) ⟨u, w', c2, Φ2, h1, h4⟩
  ·exact (Z1 ho).elim
 case fieldAddr t x f =>
  split at ho
  ·rename_i v hv; exact (Z7h ho (hρ x (by simp) v hv)).does hg
  ·exact (Z1 ho).elim
 case field t x f =>
  split at ho
  ·rename_i v hv; exact (Z98 ho (hρ x (by simp) v hv)).does hg
  ·exact (Z1 ho).elim
 case indexAddr t x i =>
  split at ho
  ·rename_i u v hu hv
   split at ho
   ·rename_i r hr
    exact (Z8e hr ho hag hg (hρ x (by simp) u hu) (hρ i (by simp) v hv)).does hg
   unfold Z4t at ho
   cases ha0 : Z3I h' u with
   | true =>
    rw [ha0] at ho
    exact (Z2S hU ho hag hg (hρ x (by simp) u hu) (hρ i (by simp) v hv)).does hg
   | false =>
   rw [ha0] at ho
   simp only [cond_false] at ho
   cases hop : (Γ (Z4i t)).isSome with
   | false =>
    rw [hop] at ho
    exact (Z2S hU ho hag hg (hρ x (by simp) u hu) (hρ i (by simp) v hv)).does hg
   | true =>
    rw [hop] at ho
    simp only [cond_true] at ho
    split at ho
    ·rename_i r hr
     exact wr (Q := fun _ _ => True) (Z7w hU hr ho hag hg hf (hρ x (by simp) u hu) (hρ i (by simp) v hv))
    ·exact (Z2S hU ho hag hg (hρ x (by simp) u hu) (hρ i (by simp) v hv)).does hg
  ·exact (Z1 ho).elim
 case index t x i =>
  split at ho
  ·rename_i u v hu hv; exact (Z9g ho (hρ x (by simp) u hu) (hρ i (by simp) v hv)).does hg
  ·exact (Z1 ho).elim
 case makeSlice t x y =>
  split at ho
  ·rename_i u v hu hv
   exact wr (Q := fun _ _ => True) (Z9h (ev := a.eval) hU ho hg (hρ x (by simp) u hu) (hρ y (by simp) v hv) rfl rfl (fun h0 => hf nx (Nat.le_refl _) (by omega)))
  ·exact (Z1 ho).elim
 case range t x =>
  split at ho
  ·rename_i v hv
   obtain ⟨hn, hs⟩ := hf nx (Nat.le_refl _) (by rw [Z90 ho]; omega)
   exact wr (Q := fun _ _ => True) (Z94 hU ho (hρ x (by simp) v hv) hg hs hn)
  ·exact (Z1 ho).elim
 case next x str =>
  split at ho
  ·rename_i v hv
   exact wr (Q := fun _ _ => True) (next_ok hU ho hag (hρ x (by simp) v hv) hg)
  ·exact (Z1 ho).elim
 case makeMap t r =>
  cases r with
  | some y => exact (Z1 ho).elim
  | none => exact wr (Q := fun _ _ => True) (Z8j hU ho hag hg)
 case lookup t x i k =>
  split at ho
  ·rename_i u v hu hv
   obtain ⟨v', rd, w1, nw⟩ := out
   obtain ⟨u', p1, p2, p3, p4⟩ := Z8G hU ho hag hg (hρ x (by simp) u hu) (hρ i (by simp) v hv)
   simp only at p2 p3 p4
   subst p3; subst p4
   exact wr (Q := fun _ _ => True) ⟨u', w, c, Φ, p1, Step1.pure hg p2⟩
  ·exact (Z1 ho).elim
 case mapUpdate t m k v =>
  split at ho
  ·rename_i u v v' hu hv hv'
   obtain ⟨w', c', Φ', p1, p2⟩ := Z6G (nx := nx) hU ho hag hg (hρ m (by simp) u hu) (hρ k (by simp) v hv) (hρ _ (by simp) v' hv')
   exact Does.unit p1 ⟨c', Φ', p2⟩
  ·exact (Z1 ho).elim
 case extract x i =>
  split at ho
  ·rename_i v hv; exact (Z86 ho (hρ x (by simp) v hv)).does hg
  ·exact (Z1 ho).elim
 case makeFunc fn first captured => exact (Z7t ho fun x hx v hv => hρ x (by simp [Op.operands]; simp [Array.mem_toList_iff.1 hx]) v hv).does hg
 case call cl => exact call_ok hU hΓ ho hag hg hf (fun x hx v hv => hρ x (by simp [Call.operands]; simp [Array.mem_toList_iff.1 hx]) v hv) fun x hx v hv => hρ x (by simp [Call.operands, hx]) v hv
end Go.Rf
namespace Go.Rf
set_option linter.unusedVariables false
set_option linter.unusedSimpArgs false
variable {U : Univ} {P : Program} {Γ : Nat → Option (Native U)} {ro : Nat} {dr : Bool} {ops : List Oper} {ms : List Nat}
inductive Trace (P : Program) (Γ : Nat → Option (Native U)) (ro : Nat) (dr : Bool) (ops : List Oper) (ms : List Nat) : List Oper → Nat → List (Nat × Info) → St U → List (Out U) → St U → Prop
 | nil {j : Nat} {acc : List (Nat × Info)} {st : St U} : Trace P Γ ro dr ops ms [] j acc st [] st
 | cons {o : Oper} {rest : List Oper} {j : Nat} {acc : List (Nat × Info)} {st st' : St U} {out : Out U} {outs : List (Out U)} (hd : Z2X st.n o.dst = true)
   (hw : (want ops st.env o = .yes ∧ (step P Γ st.nx (opd st.env) st.h o).outs = some out) ∨ (want ops st.env o = .no ∧ out = { v := .t [] }))
   (ho : Z2D dr ms j o (info ops o out) acc = true) (hr : wrOk ro out.w = true)
   (ht : Trace P Γ ro dr ops ms rest (j + 1) ((j, info ops o out) :: acc) (st.apply o.dst out) outs st') : Trace P Γ ro dr ops ms (o :: rest) j acc st (out :: outs) st'
theorem elim_S {ρ : Type} {S : ρ → Prop} {fail : ρ} (hf : ¬ S fail) {r : OpR U} {K : Out U → ρ} (h : S (r.elim fail K)) : ∃ out, r.outs = some out ∧ S (K out) := by
 cases r with
 | fail => exact (hf h).elim
 | ok o => exact ⟨o, rfl, h⟩
 | chk b o => cases b with
  | true => exact ⟨o, rfl, h⟩
  | false => exact (hf h).elim
 | opt α x k => cases x with
  | none => exact (hf h).elim
  | some y => exact ⟨k y, rfl, h⟩
 | two b x y => cases b with
  | true => exact ⟨x, rfl, h⟩
  | false => exact ⟨y, rfl, h⟩
theorem Z7V {ρ : Type} {S : ρ → Prop} {J : Bool → ρ → ρ → ρ} (hJ : ∀ b x y, S (J b x y) → S (bif b then x else y)) {g : Bool} {dst : Option Tmp} {o : Out U} {K : Out U → ρ}
  (h : S (split J g dst o K)) : S (K o) := by
 unfold split at h
 split at h
 ·rename_i b rd w nw
  have := hJ _ _ _ h
  cases b <;> exact this
 ·exact h
theorem Z2F {ρ : Type} {S : ρ → Prop} {J : Bool → ρ → ρ → ρ} {fail : ρ} (hf : ¬ S fail) (hJ : ∀ b x y, S (J b x y) → S (bif b then x else y)) :
  ∀ (rest : List Oper) (j : Nat) (acc : List (Nat × Info)) (st : St U) (K : St U → ρ), S (ZW P Γ ro dr ops ms J fail rest j acc st K) →
   ∃ outs st', Trace P Γ ro dr ops ms rest j acc st outs st' ∧ S (K st')
 | [], j, acc, st, K, h => ⟨[], st, .nil, h⟩
 | o :: rest, j, acc, st, K, h => by
  unfold ZW at h
  cases hd : Z2X st.n o.dst with
  | false => rw [hd] at h; exact (hf h).elim
  | true =>
   rw [hd] at h
   simp only [Bool.not_true, cond_false] at h
   cases hw : want ops st.env o with
   | bad => rw [hw] at h; exact (hf h).elim
   | no =>
    rw [hw] at h
    simp only at h
    cases ho : Z2D dr ms j o (info ops o ({ v := .t [] } : Out U)) acc with
    | false => rw [ho] at h; exact (hf h).elim
    | true =>
     rw [ho] at h
     simp only [cond_true] at h
     obtain ⟨outs, st', h1, h2⟩ := Z2F hf hJ rest _ _ _ K h
     exact ⟨_ :: outs, st', .cons hd (.inr ⟨hw, rfl⟩) ho rfl h1, h2⟩
   | yes =>
    rw [hw] at h
    simp only at h
    obtain ⟨out, h1, h2⟩ := elim_S hf h
    cases ho : Z2D dr ms j o (info ops o out) acc && wrOk ro out.w with
    | false => rw [ho] at h2; exact (hf h2).elim
    | true =>
     rw [ho] at h2
     simp only [cond_true] at h2
     rw [Bool.and_eq_true] at ho
     obtain ⟨outs, st', h3, h4⟩ := Z2F hf hJ rest _ _ _ K (Z7V hJ h2)
     exact ⟨_ :: outs, st', .cons hd (.inl ⟨hw, h1⟩) ho.1 ho.2 h3, h4⟩
theorem Z2Z : ∀ (l m : List Nat), l.Pairwise (· > ·) → m.Pairwise (· > ·) → (∀ x, x ∈ l ↔ x ∈ m) → l = m
 | [], [], _, _, _ => rfl
 | [], y :: m, _, _, h => by have := (h y).2 (List.mem_cons_self ..); cases this
 | x :: l, [], _, _, h => by have := (h x).1 (List.mem_cons_self ..); cases this
 | x :: l, y :: m, hl, hm, h => by
  rw [List.pairwise_cons] at hl hm
  have hxy : x = y := by
   rcases List.mem_cons.1 ((h x).1 (List.mem_cons_self ..)) with e | e
   ·exact e
   ·rcases List.mem_cons.1 ((h y).2 (List.mem_cons_self ..)) with e' | e'
    ·exact e'.symm
    ·have := hl.1 y e'; have := hm.1 x e; omega
  subst hxy
  congr 1
  refine Z2Z l m hl.2 hm.2 fun z => ?_
  constructor
  ·intro hz
   rcases List.mem_cons.1 ((h z).1 (List.mem_cons_of_mem _ hz)) with e | e
   ·subst e; have := hl.1 z hz; omega
   ·exact e
  ·intro hz
   rcases List.mem_cons.1 ((h z).2 (List.mem_cons_of_mem _ hz)) with e | e
   ·subst e; have := hm.1 z hz; omega
   ·exact e
theorem ZE {α β : Type} (f : α → Option β) : ∀ l : List α, l.findSome? f = (l.filter fun x => (f x).isSome).findSome? f
 | [] => rfl
 | x :: l => by
  rw [List.findSome?_cons, List.filter_cons]
  cases hx : f x with
  | none => simp; exact ZE f l
  | some y => simp [List.findSome?_cons, hx]
def down (j : Nat) : List Nat := (List.range j).reverse
theorem Z2U (j : Nat) : down (j + 1) = j :: down j := by simp [down, List.range_succ]
theorem Z1J {i j : Nat} : i ∈ down j ↔ i < j := by simp [down]
theorem Z2c : ∀ j, (down j).Pairwise (· > ·)
 | 0 => by simp [down]
 | j + 1 => by
  rw [Z2U, List.pairwise_cons]
  exact ⟨fun i hi => Z1J.1 hi, Z2c j⟩
theorem Z4T {β : Type} {f : Nat → Option β} {L : List Nat} {j : Nat} (hs : (L.filter fun i => (f i).isSome).Pairwise (· > ·)) (hm : ∀ i, (f i).isSome → (i ∈ L ↔ i < j)) :
  L.findSome? f = (down j).findSome? f := by
 rw [ZE f L, ZE f (down j)]
 congr 1
 refine Z2Z _ _ hs ((Z2c j).filter _) fun x => ?_
 simp only [List.mem_filter, Z1J]
 constructor
 ·rintro ⟨h1, h2⟩; exact ⟨(hm x h2).1 h1, h2⟩
 ·rintro ⟨h1, h2⟩; exact ⟨(hm x h2).2 h1, h2⟩
end Go.Rf
namespace Go.Rf
set_option linter.unusedVariables false
set_option linter.unusedSimpArgs false
variable {U : Univ} {P : Program} {Γ : Nat → Option (Native U)} {ro : Nat} {dr : Bool}
theorem Trace.facts {ops : List Oper} {ms : List Nat} {rest : List Oper} {j : Nat} {acc : List (Nat × Info)} {st st' : St U} {outs : List (Out U)} (h : Trace P Γ ro dr ops ms rest j acc st outs st') :
  ∃ (X : Nat → Out U) (T : Nat → St U), T j = st ∧ T (j + rest.length) = st' ∧ ∀ k o, rest[k]? = some o →
   T (j + k + 1) = (T (j + k)).apply o.dst (X (j + k)) ∧ Z2X (T (j + k)).n o.dst = true ∧
   ((want ops (T (j + k)).env o = .yes ∧ (step P Γ (T (j + k)).nx (opd (T (j + k)).env) (T (j + k)).h o).outs = some (X (j + k))) ∨ (want ops (T (j + k)).env o = .no ∧ X (j + k) = { v := .t [] })) ∧
   wrOk ro (X (j + k)).w = true ∧ (dr = true → Z26 (j + k) o = true ∧
    (∀ p ∈ acc, clash p.2 (info ops o (X (j + k))) = true → (ms.getD (j + k) 0).testBit p.1 = true) ∧
    ∀ i o', rest[i]? = some o' → i < k → clash (info ops o' (X (j + i))) (info ops o (X (j + k))) = true → (ms.getD (j + k) 0).testBit (j + i) = true) := by
 induction h with
 | @nil j acc st => exact ⟨fun _ => { v := .t [] }, fun _ => st, rfl, rfl, fun k o hk => by simp at hk⟩
 | @cons o rest j acc st st' out outs hd hw ho hr ht ih =>
  obtain ⟨X, T, h1, h2, h3⟩ := ih
  let X' : Nat → Out U := fun i => if i = j then out else X i
  let T' : Nat → St U := fun i => if i = j then st else T i
  have hX0 : X' j = out := by simp [X']
  have hT0 : T' j = st := by simp [T']
  have hXs : ∀ i, X' (j + (i + 1)) = X (j + 1 + i) := fun i => by
   simp only [X']; rw [if_neg (by omega)]; congr 1; omega
  have hTs : ∀ i, T' (j + (i + 1)) = T (j + 1 + i) := fun i => by
   simp only [T']; rw [if_neg (by omega)]; congr 1; omega
  have hor : dr = true → Z26 j o = true ∧ ∀ p ∈ acc, clash p.2 (info ops o out) = true → (ms.getD j 0).testBit p.1 = true := fun hdr => by
   subst hdr
   simp only [Z2D, Bool.not_true, Bool.false_or, Bool.and_eq_true, List.all_eq_true] at ho
   refine ⟨ho.1, fun p hp hc => ?_⟩
   have := ho.2 p hp
   simpa [hc] using this
  refine ⟨X', T', hT0, ?_, fun k x hk => ?_⟩
  ·rw [List.length_cons, hTs]; exact h2
  ·cases k with
   | zero =>
    simp at hk; subst hk
    simp only [Nat.add_zero]
    rw [hX0, hT0]
    refine ⟨?_, hd, hw, hr, fun hdr => ⟨(hor hdr).1, (hor hdr).2, fun i o' _ hi => by omega⟩⟩
    have := hTs 0
    simp only [Nat.add_zero, Nat.zero_add] at this
    rw [this, h1]
   | succ k =>
    simp at hk
    obtain ⟨h4, h5, h6, h7, h8⟩ := h3 k x hk
    have e : j + (k + 1) + 1 = j + (k + 1 + 1) := by omega
    rw [e, hTs (k + 1), hTs k, hXs k]
    refine ⟨h4, h5, h6, h7, fun hdr => ?_⟩
    obtain ⟨h9, h10, h11⟩ := h8 hdr
    have e2 : j + (k + 1) = j + 1 + k := by omega
    refine ⟨by rw [e2]; exact h9, fun p hp => by rw [e2]; exact h10 p (List.mem_cons_of_mem _ hp), fun i o' hi hik hc => ?_⟩
    cases i with
    | zero =>
     simp at hi; subst hi
     simp only [Nat.add_zero] at hc ⊢
     rw [hX0] at hc
     rw [e2]
     exact h10 (j, info ops o out) (List.mem_cons_self ..) hc
    | succ i =>
     simp at hi
     rw [hXs i] at hc
     rw [e2, show j + (i + 1) = j + 1 + i by omega]
     exact h11 i o' hi (by omega) hc
structure Reg (U : Univ) (P : Program) (Γ : Nat → Option (Native U)) (ro : Nat) (dr : Bool) (ops : Array Oper) (ms : List Nat) (st0 : St U) (X : Nat → Out U) (T : Nat → St U) : Prop where
 t0 : T 0 = st0
 ts : ∀ (j : Nat) o, ops[j]? = some o → T (j + 1) = (T j).apply o.dst (X j)
 dst : ∀ (j : Nat) o, ops[j]? = some o → Z2X (T j).n o.dst = true
 run : ∀ (j : Nat) o, ops[j]? = some o → (want ops.toList (T j).env o = .yes ∧ (step P Γ (T j).nx (opd (T j).env) (T j).h o).outs = some (X j)) ∨ (want ops.toList (T j).env o = .no ∧ X j = { v := .t [] })
 wr : ∀ (j : Nat) o, ops[j]? = some o → wrOk ro (X j).w = true
 edge : dr = true → ∀ (j : Nat) o, ops[j]? = some o → Z26 j o = true
 clash : dr = true → ∀ (j : Nat) o i o', ops[j]? = some o → ops[i]? = some o' → i < j → Rf.clash (info ops.toList o' (X i)) (info ops.toList o (X j)) = true → (ms.getD j 0).testBit i = true
theorem Trace.reg {ops : Array Oper} {ms : List Nat} {st st' : St U} {outs : List (Out U)} (h : Trace P Γ ro dr ops.toList ms ops.toList 0 [] st outs st') :
  ∃ X T, Reg U P Γ ro dr ops ms st X T ∧ T ops.size = st' := by
 obtain ⟨X, T, h1, h2, h3⟩ := h.facts
 simp only [Nat.zero_add] at h1 h2 h3
 have hl : ∀ (j : Nat) o, ops[j]? = some o → ops.toList[j]? = some o := fun j o hj => by rw [Array.getElem?_toList]; exact hj
 refine ⟨X, T, ⟨h1, fun j o hj => (h3 j o (hl j o hj)).1, fun j o hj => (h3 j o (hl j o hj)).2.1, fun j o hj => (h3 j o (hl j o hj)).2.2.1, fun j o hj => (h3 j o (hl j o hj)).2.2.2.1,
  fun hdr j o hj => ((h3 j o (hl j o hj)).2.2.2.2 hdr).1, fun hdr j o i o' hj hi hlt hc => ((h3 j o (hl j o hj)).2.2.2.2 hdr).2.2 i o' (hl i o' hi) hlt hc⟩, by simpa using h2⟩
structure Ext (U : Univ) (ro : Nat) (c0 : Cx) (Φ0 : Nat → Nat → Nat → Prop) (h0 : Heap U) (nx0 : Nat) (w0 : World) (c : Cx) (Φ : Nat → Nat → Nat → Prop) (h : Heap U) (w : World) : Prop where
 le : c0.Le c
 L : ∀ s i, s < nx0 → (U.nf ≤ s ∨ get h0 s = none ∨ s < ro) → c.L s i = c0.L s i
 old : ∀ s, s < nx0 → (get h s).isSome → (get h0 s).isSome
 fr : Fr (fun b o => ∃ s, ro ≤ s ∧ (get h0 s).isSome ∧ Φ0 s b o) w0 w
 foot : ∀ s, s < ro → Φ s = Φ0 s
 footw : ∀ s b o, ro ≤ s → (get h s).isSome → Φ s b o → w0.heap.size ≤ b ∨ ∃ s', ro ≤ s' ∧ (get h0 s').isSome ∧ Φ0 s' b o
 inew : ∀ b o v, c.I b o = some v → c0.I b o = some v ∨ w0.heap.size ≤ b ∨ ∃ s', ro ≤ s' ∧ (get h0 s').isSome ∧ Φ0 s' b o
section
variable {c0 : Cx} {Φ0 : Nat → Nat → Nat → Prop} {h0 : Heap U} {nx0 : Nat} {w0 : World} {c : Cx} {Φ : Nat → Nat → Nat → Prop} {h : Heap U} {w : World}
theorem Ext.refl : Ext U ro c0 Φ0 h0 nx0 w0 c0 Φ0 h0 w0 :=
 ⟨.refl _, fun _ _ _ _ => rfl, fun _ _ h => h, .refl _ _, fun _ _ => rfl, fun s b o h1 h2 h3 => .inr ⟨s, h1, h2, h3⟩, fun _ _ _ h => .inl h⟩
theorem Ext.less {h' : Heap U} (he : Ext U ro c0 Φ0 h0 nx0 w0 c Φ h w) (hh : ∀ s, (get h' s).isSome → (get h s).isSome) : Ext U ro c0 Φ0 h0 nx0 w0 c Φ h' w :=
 ⟨he.le, he.L, fun s h1 h2 => he.old s h1 (hh s h2), he.fr, he.foot, fun s b o h1 h2 h3 => he.footw s b o h1 (hh s h2) h3, he.inew⟩
theorem Ext.drew (he : Ext U ro c0 Φ0 h0 nx0 w0 c Φ h w) : Ext U ro c0 Φ0 h0 nx0 w0 c Φ h { w with drawn := w.drawn + 1 } :=
 ⟨he.le, he.L, he.old, he.fr.trans (Fr.drew _ w) fun _ _ _ h => h, he.foot, he.footw, he.inew⟩
theorem Z2H {s : Nat} {l : List (Nat × Ent U)} (hw : wrOk ro l = true) (hs : s ∈ l.map (·.1)) : ro ≤ s := by
 unfold wrOk at hw
 rw [List.all_eq_true] at hw
 obtain ⟨p, hp, rfl⟩ := List.mem_map.1 hs
 exact Nat.le_of_ble_eq_true (hw p hp)
theorem Ext.step {nx : Nat} {out : Out U} {c' : Cx} {Φ' : Nat → Nat → Nat → Prop} {v : Value} {w' : World} (he : Ext U ro c0 Φ0 h0 nx0 w0 c Φ h w) (hs : Step1 U c Φ h nx out w c' Φ' v w')
  (hw : wrOk ro out.w = true) (hn : nx0 ≤ nx) : Ext U ro c0 Φ0 h0 nx0 w0 c' Φ' (out.w ++ h) w' where
 le := he.le.trans hs.le
 L s i hsi hf := (hs.L s i (by omega) (fun ⟨h1, h2⟩ => by
  rcases hs.names s h2 with h3 | h3
  ·omega
  ·have := he.old s hsi h3
   rcases hf with h4 | h4 | h4
   ·omega
   ·rw [h4] at this; cases this
   ·have := Z2H hw h2; omega)).trans (he.L s i hsi hf)
 old s hsi h1 := by
  by_cases hm : s ∈ out.w.map (·.1)
  ·rcases hs.names s hm with h3 | h3
   ·omega
   ·exact he.old s hsi h3
  ·rw [Zd, Zc hm] at h1
   exact he.old s hsi h1
 fr := he.fr.trans hs.fr fun b o hb ⟨s, h1, h2, h3⟩ => by
  rcases he.footw s b o (Z2H hw h1) h2 h3 with h4 | h4
  ·exact absurd hb (Nat.not_lt.2 h4)
  ·exact h4
 foot s hsr := by
  rw [hs.foot s fun hm => by have := Z2H hw hm; omega]
  exact he.foot s hsr
 footw s b o hsr h1 h2 := by
  by_cases hm : s ∈ out.w.map (·.1)
  ·rcases hs.footw s b o hm h2 with h3 | ⟨s', h3, h4, h5⟩
   ·exact .inl (Nat.le_trans he.fr.size h3)
   ·exact he.footw s' b o (Z2H hw h3) h4 h5
  ·rw [hs.foot s hm] at h2
   rw [Zd, Zc hm] at h1
   exact he.footw s b o hsr h1 h2
 inew b o v hI := by
  rcases hs.inew b o v hI with h1 | h1 | ⟨s, h1, h2, h3⟩
  ·exact he.inew b o v h1
  ·exact .inr (.inl (Nat.le_trans he.fr.size h1))
  ·rcases he.footw s b o (Z2H hw h1) h2 h3 with h4 | h4
   ·exact .inr (.inl h4)
   ·exact .inr (.inr h4)
theorem G.congr {h' : Heap U} (hg : G U c Φ h w) (hh : ∀ s, get h' s = get h s) : G U c Φ h' w :=
 ⟨fun s e he => hg.ents s e (by rw [← hh]; exact he), fun s s' b o h1 h2 h3 => hg.apart s s' b o h1 (by rw [← hh]; exact h2) (by rw [← hh]; exact h3), hg.imm, fun s b o h1 => hg.immApart s b o (by rw [← hh]; exact h1)⟩
end
end Go.Rf
namespace Go.Rf
set_option linter.unusedVariables false
set_option linter.unusedSimpArgs false
variable {U : Univ} {P : Program} {c : Cx} {Φ : Nat → Nat → Nat → Prop} {h : Heap U} {nx : Nat} {w : World}
theorem Z4V : ∀ (l : List U.S) (k j t : Nat), Z1L l k = some (j, t) → k ≤ j ∧ l[j - k]? = some (.arr t)
 | [], k, j, t, h => by cases h
 | y :: r, k, j, t, h => by
  have rest : Z1L r (k + 1) = some (j, t) → k ≤ j ∧ (y :: r)[j - k]? = some (.arr t) := fun h => by
   obtain ⟨h1, h2⟩ := Z4V r (k + 1) j t h
   refine ⟨by omega, ?_⟩
   rw [show j - k = (j - (k + 1)) + 1 by omega, List.getElem?_cons_succ]
   exact h2
  cases y with
  | arr t' =>
   simp only [Z1L, Option.some.injEq, Prod.mk.injEq] at h
   obtain ⟨rfl, rfl⟩ := h
   exact ⟨Nat.le_refl _, by simp⟩
  | _ => exact rest h
theorem Z7c (hU : U.Ok) (s : Nat) : ∀ (fu : Nat) (h : Heap U) (Φ : Nat → Nat → Nat → Prop), G U c Φ h w → ∃ Φ', Step1 U c Φ h nx { v := .t [], w := Z15 fu s h } w c Φ' undef w
 | 0, h, Φ, hg => ⟨Φ, Step1.pure hg RA.undef⟩
 | fu + 1, h, Φ, hg => by
  unfold Z15
  split
  ·rename_i cells he
   split
   ·rename_i k t hfa
    split
    ·rename_i u m f ht
     have := (Z4V _ _ _ _ hfa).2
     obtain ⟨Φ1, h1⟩ := Z5G (nx := nx) (rd := []) hU hg he (by simpa using this) ht
     obtain ⟨Φ2, h2⟩ := Z7c hU s fu _ Φ1 h1.g
     exact ⟨Φ2, h1.comp (rd := []) h2⟩
    ·exact ⟨Φ, Step1.pure hg RA.undef⟩
   ·exact ⟨Φ, Step1.pure hg RA.undef⟩
  ·exact ⟨Φ, Step1.pure hg RA.undef⟩
theorem shut_in (fu s : Nat) (h : Heap U) : s ∈ Z3z fu s h := by
 induction fu generalizing h with
 | zero => simp [Z3z]
 | succ fu ih =>
  unfold Z3z
  split
  ·split
   ·split
    ·exact List.mem_cons_of_mem _ (ih _)
    ·simp
   ·simp
  ·simp
theorem Z5s (s : Nat) : ∀ (fu : Nat) (h h' : Heap U), (∀ x, x ∈ Z3z fu s h' → get h x = get h' x) → Z15 fu s h = Z15 fu s h'
 | 0, h, h', _ => rfl
 | fu + 1, h, h', ha => by
  have hs := ha s (shut_in _ _ _)
  unfold Z15
  unfold Z3z at ha
  rw [hs]
  cases he : get h' s with
  | none => rfl
  | some e =>
   rw [he] at ha
   cases e with
   | obj cells =>
    simp only at ha ⊢
    cases hfa : Z1L cells 0 with
    | none => rfl
    | some p =>
     obtain ⟨k, t⟩ := p
     rw [hfa] at ha
     simp only at ha ⊢
     have ht : get h t = get h' t := ha t (by
      split
      ·exact List.mem_cons_self ..
      ·simp)
     rw [ht]
     cases htt : get h' t with
     | none => rfl
     | some e =>
      rw [htt] at ha
      cases e with
      | fam ct u m f =>
       cases ct with
       | true =>
        simp only at ha ⊢
        rw [Z5s s fu _ _ fun x hx => ZR (ha x (List.mem_cons_of_mem _ hx))]
       | false => rfl
      | _ => rfl
   | _ => rfl
theorem Z8T (hU : U.Ok) (u : U.C) (s : Nat) (h : Heap U) (hg : G U c Φ h w) : Step1 U c Φ h nx { v := .t [], w := Z21 u s h } w c Φ undef w := by
 unfold Z21
 split
 ·rename_i cells he
  exact Z1M (rd := []) hg he fun F hF => Z54 hU _ _ _ hF
 ·exact Step1.pure hg RA.undef
theorem TokOK.own {k b o n cap sz : Nat} {a : Option Addr} (h : TokOK c (.own k) a b o n cap sz) : ∃ b' o' e, c.L k 0 = some (b', o') ∧ c.L k 1 = some (b', e) ∧ (0 < cap → a = some (at_ b o) ∧ b' = b ∧ o' = o + n * sz ∧ o + cap * sz ≤ e) := h
theorem Z4p {s : Nat} {F : Nat → Nat → Prop} {cells : List U.S} (hE : ∃ b o G, c.L s 0 = some (b, o) ∧ (∀ i x, c.L s i = some x → i = 0) ∧ Pl U c w b o cells G ∧ (∀ b' o', F b' o' ↔ ∃ k, k < cells.length ∧ G k b' o')) {k : Nat} {x : U.S} (hk : k < cells.length)
  {Fk Fx : Nat → Nat → Prop} (hx : ∀ b o G, c.L s 0 = some (b, o) → Pl U c w b o cells G → (∀ b' o', F b' o' ↔ ∃ k, k < cells.length ∧ G k b' o') → Own U c w b (o + k) x (fun b' o' => G k b' o' ∨ Fx b' o') ∧ ∀ b' o', Fx b' o' → F b' o' → False) :
  EntOK c w s (fun b' o' => F b' o' ∨ Fx b' o') (.obj (Zj k x cells) : Ent U) := by
 obtain ⟨b, o, G, e1, e2, hP, hF⟩ := hE
 obtain ⟨h1, h2⟩ := hx b o G e1 hP hF
 have hin : ∀ j b' o', j < cells.length → G j b' o' → F b' o' := fun j b' o' hj hf => (hF _ _).2 ⟨j, hj, hf⟩
 refine ⟨b, o, fun j b' o' => G j b' o' ∨ (j = k ∧ Fx b' o'), e1, e2, ⟨fun j y hj => ?_, fun i j b' o' hi hj hne f1 f2 => ?_⟩, fun b' o' => ?_⟩
 ·rw [setAtG hk] at hj
  by_cases e : j = k
  ·subst e
   rw [if_pos rfl] at hj; cases hj
   exact h1.iff fun b' o' => ⟨fun h => h.imp id fun h => ⟨rfl, h⟩, fun h => h.imp id fun h => h.2⟩
  ·rw [if_neg e] at hj
   exact (hP.own j y hj).iff fun b' o' => ⟨.inl, fun h => h.elim id fun h => absurd h.1 e⟩
 ·rw [Z3l hk] at hi hj
  rcases f1 with f1 | ⟨e1, f1⟩
  ·rcases f2 with f2 | ⟨e2, f2⟩
   ·exact hP.dis i j b' o' hi hj hne f1 f2
   ·exact h2 _ _ f2 (hin i _ _ hi f1)
  ·rcases f2 with f2 | ⟨e2, f2⟩
   ·exact h2 _ _ f1 (hin j _ _ hj f2)
   ·omega
 ·rw [Z3l hk]
  constructor
  ·rintro (hf | hf)
   ·obtain ⟨j, hj, hf⟩ := (hF _ _).1 hf
    exact ⟨j, hj, .inl hf⟩
   ·exact ⟨k, hk, .inr ⟨rfl, hf⟩⟩
  ·rintro ⟨j, hj, hf | ⟨_, hf⟩⟩
   ·exact .inl (hin j _ _ hj hf)
   ·exact .inr hf
theorem olAt_ok (hU : U.Ok) {s k : Nat} {u : U.C} {h : Heap U} {Φ : Nat → Nat → Nat → Prop} (hg : G U c Φ h w) : ∃ Φ', Step1 U c Φ h nx { v := .t [], w := olAt s k u h } w c Φ' undef w := by
 unfold olAt
 split
 ·rename_i cells he
  split
  ·rename_i t v xs hc
   split
   ·rename_i e _
    subst e
    split
    ·rename_i ht
     cases hsb : Nat.beq s t with
     | true => exact ⟨Φ, Step1.pure hg RA.undef⟩
     | false =>
      simp only [cond_false]
      have hne : s ≠ t := fun e => by subst e; simp at hsb
      have hk := (List.getElem?_eq_some_iff.1 hc).1
      obtain ⟨bt, ot, et, t1, t2, t3, t4⟩ := hg.ents t _ ht
      have hss : (get h s).isSome := by rw [he]; rfl
      have hst : (get h t).isSome := by rw [ht]; rfl
      have hE := hg.ents s _ he
      -- the room behind it
      obtain ⟨b, o, Gk, e1, e2, hP, hF⟩ := id hE
      obtain ⟨⟨vv, q1, q2⟩, q3, q4⟩ := (hP.own k _ hc).plain rfl
      cases q2 with
      | @isl _ _ _ a cap b1 o1 g hcap htok ha hi hr =>
       obtain ⟨b', o', e, r1, r2, r3⟩ := htok.own
       rw [t1] at r1; cases r1
       rw [t2] at r2; cases r2
       let Fx : Nat → Nat → Prop := fun b' o' => 0 < cap ∧ b' = b1 ∧ o1 + xs.length * U.size v ≤ o' ∧ o' < o1 + cap * U.size v
       have hFx : ∀ b' o', Fx b' o' → Φ t b' o' := fun b' o' ⟨p0, p1, p2, p3⟩ => by
        obtain ⟨_, r4, r5, r6⟩ := r3 p0
        subst p1
        have := (t3 o' (by omega) (by omega)).2.2
        rwa [← r4]
       refine ⟨_, G.redo (Fs := fun z => if z = s then (fun b' o' => Φ s b' o' ∨ Fx b' o') else fun _ _ => False) (nw := 0) hU hg (.refl c) (fun _ _ _ => rfl) (fun z h1 h2 => by omega) rfl (fun z en hz => ?_) (fun z b' o' hz hf => ?_) (fun z z' b' o' hz hz' hne' h1 h2 => ?_) (fun z hz => ?_) RA.undef⟩
       ·rw [Z5] at hz
        by_cases e : s = z
        ·subst e
         rw [if_pos rfl] at hz; cases hz
         simp only [if_pos rfl]
         refine Z4p (Fk := fun _ _ => False) hE hk fun b2 o2 G2 w1 w2 w3 => ?_
         have hnd : ∀ b' o', Fx b' o' → Φ s b' o' → False := fun b' o' h1 h2 => hg.apart s t b' o' hne hss hst h2 (hFx _ _ h1)
         refine ⟨?_, hnd⟩
         obtain ⟨⟨vv2, p1, p2⟩, p3, p4⟩ := (w2.own k _ hc).plain rfl
         rw [e1] at w1; cases w1
         rw [q1] at p1; cases p1
         have hroom : ∀ x, o1 + xs.length * U.size v ≤ x → x < o1 + cap * U.size v → Fx b1 x := fun x h1 h2 => by
          have : 0 < cap := by
           rcases Nat.eq_zero_or_pos cap with h0 | h0
           ·subst h0; omega
           ·exact h0
          exact ⟨this, rfl, h1, h2⟩
         refine .olist (b1 := b1) (o1 := o1) g q1 p3 hcap (fun hp => (r3 hp).1) hi hr (fun x h1 h2 => ?_) (fun hb h1 h2 => ?_) fun b' o' => ?_
         ·have h3 := hroom x h1 h2
          obtain ⟨p0, _, _, _⟩ := id h3
          obtain ⟨_, r4, r5, r6⟩ := r3 p0
          obtain ⟨h4, h5, _⟩ := t3 x (by omega) (by omega)
          rw [r4] at h4 h5
          exact ⟨h4, h5⟩
         ·refine hnd b1 (o + k) (hroom _ h1 h2) ?_
          rw [← hb]
          exact (w3 _ _).2 ⟨k, hk, (p4 _ _).2 ⟨rfl, rfl⟩⟩
         ·rw [p4]
          refine or_congr Iff.rfl ⟨fun h => ⟨h.2.1, h.2.2⟩, fun ⟨h1, h2, h3⟩ => by subst h1; exact hroom _ h2 h3⟩
        ·rw [if_neg e, Z5] at hz
         by_cases e2 : t = z
         ·subst e2
          rw [if_pos rfl] at hz; cases hz
          rw [if_neg (fun e3 : t = s => e e3.symm)]
          exact fun _ _ h => h
         ·rw [if_neg e2] at hz; cases hz
       ·simp at hz
        by_cases e : z = s
        ·subst e
         simp only [if_pos rfl] at hf
         rcases hf with hf | hf
         ·exact ⟨z, by simp, hss, hf⟩
         ·exact ⟨t, by simp, hst, hFx _ _ hf⟩
        ·simp only [if_neg e] at hf
       ·by_cases e : z = s
        ·have e' : z' ≠ s := fun e2 => hne' (e.trans e2.symm)
         simp only [if_neg e'] at h2
        ·simp only [if_neg e] at h1
       ·simp at hz
        rcases hz with rfl | rfl
        ·exact .inr hss
        ·exact .inr hst
    ·exact ⟨Φ, Step1.pure hg RA.undef⟩
   ·exact ⟨Φ, Step1.pure hg RA.undef⟩
  ·rename_i v xs hc
   split
   ·rename_i e _
    subst e
    have hk := (List.getElem?_eq_some_iff.1 hc).1
    refine ⟨Φ, Z1M (rd := []) hg he fun F hE => ?_⟩
    have := Z4p (Fk := fun _ _ => False) (Fx := fun _ _ => False) (x := .olist v xs) hE hk fun b o G w1 w2 w3 => ⟨Z2t (w2.own k _ hc), fun _ _ h _ => h⟩
    have e : (fun b' o' => F b' o' ∨ False) = F := by funext b' o'; simp
    rwa [e] at this
   ·exact ⟨Φ, Step1.pure hg RA.undef⟩
  ·rename_i hc
   have hk := (List.getElem?_eq_some_iff.1 hc).1
   refine ⟨Φ, Z1M (rd := []) hg he fun F hE => ?_⟩
   have := Z4p (Fk := fun _ _ => False) (Fx := fun _ _ => False) (x := .olist u []) hE hk fun b o G w1 w2 w3 => ⟨Z2t (Own.le (w2.own k _ hc) ⟨rfl, fun c v hr => by
     cases R.valEq hr
     exact R.isl (xs := []) (b := 0) (o := 0) (fun _ _ => undef) (Nat.le_refl _) (by rfl) (fun hh => by simp at hh) (fun i k hi => by simp at hi) (fun i k hi => by simp at hi), fun h => by cases h⟩), fun _ _ h _ => h⟩
   have e : (fun b' o' => F b' o' ∨ False) = F := by funext b' o'; simp
   rwa [e] at this
  ·exact ⟨Φ, Step1.pure hg RA.undef⟩
 ·exact ⟨Φ, Step1.pure hg RA.undef⟩
theorem Z7o (hU : U.Ok) (s : Nat) : ∀ (tm : List U.S) (k : Nat) (h : Heap U) (Φ : Nat → Nat → Nat → Prop), G U c Φ h w → ∃ Φ', Step1 U c Φ h nx { v := .t [], w := olW s tm k h } w c Φ' undef w
 | [], k, h, Φ, hg => ⟨Φ, Step1.pure hg RA.undef⟩
 | x :: r, k, h, Φ, hg => by
  cases x with
  | olist u xs =>
   obtain ⟨Φ1, h1⟩ := olAt_ok (nx := nx) (s := s) (k := k) (u := u) hU hg
   obtain ⟨Φ2, h2⟩ := Z7o hU s r (k + 1) _ Φ1 h1.g
   exact ⟨Φ2, h1.comp (rd := []) h2⟩
  | _ => exact Z7o hU s r (k + 1) h Φ hg
theorem Z8g {s k : Nat} {u : U.C} {h h' : Heap U} (ha : ∀ x, x ∈ olRd s k h' → get h x = get h' x) : olAt s k u h = olAt s k u h' := by
 have hs := ha s (by unfold olRd; split <;> (try split) <;> simp)
 unfold olAt
 rw [hs]
 cases he : get h' s with
 | none => rfl
 | some e =>
  cases e with
  | obj cells =>
   simp only
   cases hc : cells[k]? with
   | none => rfl
   | some x =>
    cases x with
    | isl t v xs =>
     cases t with
     | own t =>
      simp only
      have := ha t (by unfold olRd; rw [he]; simp only; rw [hc]; simp)
      rw [this]
     | _ => rfl
    | val v =>
     cases v with
     | slice a n m =>
      cases a with
      | some a => rfl
      | none =>
       cases n with
       | succ n => rfl
       | zero => cases m <;> rfl
     | _ => rfl
    | _ => rfl
  | _ => rfl
theorem Z4f (s : Nat) : ∀ (tm : List U.S) (k : Nat) (h h' : Heap U), (∀ x, x ∈ olR s tm k h' → get h x = get h' x) → olW s tm k h = olW s tm k h'
 | [], k, h, h', ha => rfl
 | x :: r, k, h, h', ha => by
  cases x with
  | olist u xs =>
   have h1 : olAt s k u h = olAt s k u h' := Z8g fun x hx => ha x (List.mem_append_left _ hx)
   show olW s r (k + 1) (olAt s k u h ++ h) ++ olAt s k u h = olW s r (k + 1) (olAt s k u h' ++ h') ++ olAt s k u h'
   rw [h1, Z4f s r (k + 1) _ _ fun x hx => ZR (ha x (List.mem_append_right _ hx))]
  | _ => exact Z4f s r (k + 1) h h' ha
theorem Z2s (hU : U.Ok) : ∀ (l : List (Nat × U.C)) (h : Heap U) (Φ : Nat → Nat → Nat → Prop), G U c Φ h w → ∃ Φ', Step1 U c Φ h nx { v := .t [], w := Zr l h } w c Φ' undef w
 | [], h, Φ, hg => ⟨Φ, Step1.pure hg RA.undef⟩
 | (s, u) :: r, h, Φ, hg => by
  unfold Zr
  obtain ⟨Φ1, h1⟩ := Z7c (nx := nx) hU s 20 h Φ hg
  have h2 := Z8T (nx := nx) hU u s _ h1.g
  have h3 := h1.comp (rd := []) h2
  obtain ⟨Φ2, h4⟩ := Z7o (nx := nx) hU s (U.enc u (U.dft u)) 0 _ Φ1 h3.g
  have h5 := h3.comp (rd := []) h4
  obtain ⟨Φ3, h6⟩ := Z2s hU r _ Φ2 h5.g
  exact ⟨Φ3, h5.comp (rd := []) h6⟩
theorem Z5B : ∀ (l : List (Nat × U.C)) (h h' : Heap U), (∀ x, x ∈ Z4c l h' → get h x = get h' x) → Zr l h = Zr l h'
 | [], h, h', _ => rfl
 | (s, u) :: r, h, h', ha => by
  unfold Zr
  unfold Z4c at ha
  have h1 := Z5s s 20 h h' fun x hx => ha x (by simp [hx])
  have hs := ha s (by simp)
  have h2 : Z21 u s (Z15 20 s h ++ h) = Z21 u s (Z15 20 s h' ++ h') := by
   unfold Z21
   rw [h1, ZR hs]
  simp only [h1] at h2 ⊢
  rw [h2]
  have h3 : olW s (U.enc u (U.dft u)) 0 (Z21 u s (Z15 20 s h' ++ h') ++ Z15 20 s h' ++ h) = olW s (U.enc u (U.dft u)) 0 (Z21 u s (Z15 20 s h' ++ h') ++ Z15 20 s h' ++ h') :=
   Z4f s _ 0 _ _ fun x hx => ZR (ha x (by
    simp only [List.cons_append, List.mem_cons, List.mem_append]
    exact .inr (.inr (.inl hx))))
  rw [h3, Z5B r _ (olW s (U.enc u (U.dft u)) 0 (Z21 u s (Z15 20 s h' ++ h') ++ Z15 20 s h' ++ h') ++ (Z21 u s (Z15 20 s h' ++ h') ++ Z15 20 s h') ++ h') fun x hx => ZR (ha x (by
   simp only [List.cons_append, List.mem_cons, List.mem_append]
   exact .inr (.inr (.inr hx))))]
end Go.Rf
namespace Go.Rf
set_option linter.unusedVariables false
set_option linter.unusedSimpArgs false
variable {U : Univ} {P : Program} {Γ : Nat → Option (Native U)} {ro : Nat} {dr : Bool}
section
variable {ops : Array Oper} {ms : List Nat} {st0 : St U} {X : Nat → Out U} {T : Nat → St U}
def Z1o (ops : Array Oper) (i : Nat) : Option Nat := (ops[i]?).bind (·.dst)
def wE (ops : Array Oper) (X : Nat → Out U) (t i : Nat) : Option (A U) := if Z1o ops i = some t then some (X i).v else none
def wH (X : Nat → Out U) (s i : Nat) : Option (Ent U) := get (X i).w s
def envL (ops : Array Oper) (X : Nat → Out U) (st0 : St U) (L : List Nat) (t : Nat) : Option (A U) :=
 match L.findSome? (wE ops X t) with
 | some v => some v
 | none => get st0.env t
def hL (X : Nat → Out U) (st0 : St U) (L : List Nat) : Heap U := L.foldr (fun i h => (X i).w ++ h) st0.h
theorem Z5z (L : List Nat) (s : Nat) : get (hL X st0 L) s = match L.findSome? (wH X s) with | some e => some e | none => get st0.h s := by
 induction L with
 | nil => rfl
 | cons i L ih =>
  rw [List.findSome?_cons]
  show get ((X i).w ++ hL X st0 L) s = _
  rw [Zd]
  simp only [wH]
  cases get (X i).w s with
  | some e => rfl
  | none => exact ih
theorem Z6d (hR : Reg U P Γ ro dr ops ms st0 X T) : ∀ j, j ≤ ops.size → (T j).h = hL X st0 (down j)
 | 0, _ => by rw [hR.t0]; rfl
 | j + 1, hj => by
  have ho : ops[j]? = some ops[j] := Array.getElem?_eq_getElem (by omega)
  rw [hR.ts j _ ho, Z2U]
  show (X j).w ++ (T j).h = (X j).w ++ hL X st0 (down j)
  rw [Z6d hR j (by omega)]
theorem Z55 (hR : Reg U P Γ ro dr ops ms st0 X T) (t : Nat) : ∀ j, j ≤ ops.size → get (T j).env t = envL ops X st0 (down j) t
 | 0, _ => by rw [hR.t0]; rfl
 | j + 1, hj => by
  have ho : ops[j]? = some ops[j] := Array.getElem?_eq_getElem (by omega)
  have ih := Z55 hR t j (by omega)
  rw [hR.ts j _ ho, Z2U]
  unfold envL at ih ⊢
  rw [List.findSome?_cons]
  have hd : Z1o ops j = ops[j].dst := by simp [Z1o, ho]
  simp only [St.apply, wE, hd]
  cases hdst : ops[j].dst with
  | none => simpa using ih
  | some d =>
   rw [Z5]
   by_cases e : d = t
   ·subst e; simp
   ·rw [if_neg e, if_neg (fun h => e (Option.some.inj h))]
    exact ih
theorem Z4B (hR : Reg U P Γ ro dr ops ms st0 X T) {i : Nat} : ∀ k, i < k → k ≤ ops.size → (T i).nx + (X i).nw ≤ (T k).nx
 | 0, h, _ => by omega
 | k + 1, h, hk => by
  have ho : ops[k]? = some ops[k] := Array.getElem?_eq_getElem (by omega)
  rw [hR.ts k _ ho]
  show _ ≤ (T k).nx + (X k).nw
  by_cases e : i = k
  ·subst e; exact Nat.le_refl _
  ·have := Z4B (i := i) hR k (by omega) (by omega); omega
theorem nx_ge (hR : Reg U P Γ ro dr ops ms st0 X T) : ∀ k, k ≤ ops.size → st0.nx ≤ (T k).nx
 | 0, _ => by rw [hR.t0]; exact Nat.le_refl _
 | k + 1, hk => by
  have ho : ops[k]? = some ops[k] := Array.getElem?_eq_getElem (by omega)
  rw [hR.ts k _ ho]
  show _ ≤ (T k).nx + (X k).nw
  have := nx_ge hR k (by omega); omega
theorem Z7k (hR : Reg U P Γ ro dr ops ms st0 X T) : ∀ k, k ≤ ops.size → (T k).n = st0.n
 | 0, _ => by rw [hR.t0]
 | k + 1, hk => by
  have ho : ops[k]? = some ops[k] := Array.getElem?_eq_getElem (by omega)
  rw [hR.ts k _ ho]
  exact Z7k hR k (by omega)
structure InvL (U : Univ) (ops : Array Oper) (st0 : St U) (X : Nat → Out U) (T : Nat → St U) (B : Cx → (Nat → Nat → Nat → Prop) → Heap U → World → Prop) (L : List Nat) (c : Cx) (Φ : Nat → Nat → Nat → Prop) (a : Act) (w : World) : Prop where
 size : a.tmps.size = st0.n
 defers : a.defers = []
 env : ∀ t v, envL ops X st0 L t = some v → RA U c v (a.eval (.tmp t))
 g : G U c Φ (hL X st0 L) w
 fresh : ∀ s, st0.nx ≤ s → (∀ i ∈ L, ¬ ((T i).nx ≤ s ∧ s < (T i).nx + (X i).nw)) → get (hL X st0 L) s = none ∧ ∀ k, c.L s k = none
 b : B c Φ (hL X st0 L) w
structure Agree (ops : Array Oper) (st0 : St U) (X : Nat → Out U) (L : List Nat) (j : Nat) (o : Oper) : Prop where
 env : ∀ t, t ∈ Z1l ops.toList o → envL ops X st0 L t = envL ops X st0 (down j) t
 heap : ∀ s, s ∈ (X j).rd ∨ s ∈ (X j).w.map (·.1) → get (hL X st0 L) s = get (hL X st0 (down j)) s
theorem Z3W {c : Cx} {v : Value} {x : A U} (h : Z6e v = some x) : RA U c x v := by
 unfold Z6e at h
 split at h
 ·rename_i cs
  cases hb : cs.toList.all okV with
  | false => simp [hb] at h
  | true =>
   simp [hb] at h
   subst h
   rw [List.all_eq_true] at hb
   refine ⟨cs, rfl, by simp, fun k x hk => ?_⟩
   rw [List.getElem?_map] at hk
   cases hv : cs.toList[k]? with
   | none => simp [hv] at hk
   | some v => simp [hv] at hk; subst hk; exact ⟨v, rfl, .val (hb v (List.mem_of_getElem? hv))⟩
 ·rename_i cs
  cases hb : Nat.beq cs.size 0 with
  | false => simp [hb] at h
  | true =>
   simp [hb] at h
   subst h
   have : cs = #[] := Array.eq_empty_of_size_eq_zero (nbeq hb)
   subst this
   exact RA.undef
 ·rename_i h1 h2
  cases hb : okV v with
  | false => rw [hb] at h; cases h
  | true => rw [hb] at h; cases h; exact R.val hb
theorem Z41 {a : Act} {d : Nat} {v : Value} (hd : d < a.tmps.size) : (a.put (some d) v).eval (.tmp d) = v := by
 simp [Act.eval, Act.put, hd]
theorem Z4X {a : Act} {d t : Nat} {v : Value} (hd : d ≠ t) : (a.put (some d) v).eval (.tmp t) = a.eval (.tmp t) := by
 simp [Act.eval, Act.put, Array.getElem?_setIfInBounds_ne hd]
theorem Z48 {a : Act} {t : Nat} {b : Bool} (h : a.eval (.tmp t) = .bool b) : a.tmps[t]? = some (.bool b) := by
 unfold Act.eval at h
 simp only at h
 cases ht : a.tmps[t]? with
 | none => simp [ht, undef] at h
 | some v => simp [ht] at h; rw [h]
theorem Z6B {a : Act} {t : Nat} {vs : Array Value} (h : a.eval (.tmp t) = .tuple vs) : ∀ b, a.tmps[t]? ≠ some (.bool b) := by
 intro b hb
 unfold Act.eval at h
 simp [hb] at h
theorem Z6u {c : Cx} {a : Act} {o : Oper} {env : Env U} (he : ∀ t, t ∈ Z1l ops.toList o → ∀ v, get env t = some v → RA U c v (a.eval (.tmp t))) :
  (want ops.toList env o = .yes → Region.wanted o (yielded ops a.tmps) = true) ∧ (want ops.toList env o = .no → Region.wanted o (yielded ops a.tmps) = false) := by
 unfold want Region.wanted
 cases hg : o.guard with
 | none => simp
 | some p =>
  obtain ⟨g, b⟩ := p
  simp only [yielded]
  have e1 : ops.toList[g]? = ops[g]? := Array.getElem?_toList ..
  rw [e1]
  cases ht : (ops[g]?).bind (·.dst) with
  | none => simp
  | some t =>
   simp only [Option.bind_some]
   have hl : t ∈ Z1l ops.toList o := by simp [Z1l, hg, e1, ht]
   cases hv : get env t with
   | none => simp
   | some v =>
    have hr := he t hl v hv
    refine ⟨fun h => ?_, fun h => ?_⟩
    ·split at h
     ·rename_i x heq
      cases heq
      have := Z48 (R.valEq (show R U c (.val (.bool x)) _ from hr))
      rw [this]
      cases x <;> cases b <;> simp at h ⊢
     ·cases h
     ·cases h
    ·split at h
     ·rename_i x heq
      cases heq
      have := Z48 (R.valEq (show R U c (.val (.bool x)) _ from hr))
      rw [this]
      cases x <;> cases b <;> simp at h ⊢
     ·rename_i heq
      cases heq
      obtain ⟨vs, h1, h2, h3⟩ := hr
      have := Z6B h1
      split
      ·rename_i b' hb'; exact absurd hb' (this b')
      ·rfl
     ·cases h
end
end Go.Rf
namespace Go.Rf
set_option linter.unusedVariables false
set_option linter.unusedSimpArgs false
variable {U : Univ} {P : Program} {Γ : Nat → Option (Native U)} {ro : Nat} {dr : Bool}
section
variable {ops : Array Oper} {ms : List Nat} {st0 : St U} {X : Nat → Out U} {T : Nat → St U}
variable {c0 : Cx} {Φ0 : Nat → Nat → Nat → Prop} {h0 : Heap U} {nx0 : Nat} {w0 : World}
abbrev BExt (U : Univ) (ro : Nat) (c0 : Cx) (Φ0 : Nat → Nat → Nat → Prop) (h0 : Heap U) (nx0 : Nat) (w0 : World) : Cx → (Nat → Nat → Nat → Prop) → Heap U → World → Prop :=
 fun c Φ h w => Ext U ro c0 Φ0 h0 nx0 w0 c Φ h w
theorem InvL.put (hR : Reg U P Γ ro dr ops ms st0 X T) (hn : nx0 ≤ st0.nx) {L : List Nat} {c : Cx} {Φ : Nat → Nat → Nat → Prop} {a : Act} {w : World} (hI : InvL U ops st0 X T (BExt U ro c0 Φ0 h0 nx0 w0) L c Φ a w)
  {j : Nat} {o : Oper} (ho : ops[j]? = some o) {c' : Cx} {Φ' : Nat → Nat → Nat → Prop} {u : Value} {w' : World} (hS : Step1 U c Φ (hL X st0 L) (T j).nx (X j) w c' Φ' u w') :
  InvL U ops st0 X T (BExt U ro c0 Φ0 h0 nx0 w0) (j :: L) c' Φ' (a.put o.dst u) w' := by
 have hj : j < ops.size := (Array.getElem?_eq_some_iff.1 ho).1
 have hnj := nx_ge hR j (by omega)
 refine ⟨?_, ?_, fun t v hv => ?_, hS.g, fun s hs hall => ?_, hI.b.step hS (hR.wr j o ho) (by omega)⟩
 ·cases o.dst <;> simp [Act.put, hI.size]
 ·cases o.dst <;> simp [Act.put, hI.defers]
 ·have hd : Z1o ops j = o.dst := by simp [Z1o, ho]
  unfold envL at hv
  rw [List.findSome?_cons] at hv
  simp only [wE, hd] at hv
  cases hdst : o.dst with
  | none =>
   simp only [hdst] at hv
   exact (hI.env t v hv).mono hS.le
  | some d =>
   simp only [hdst] at hv
   have hlt : d < a.tmps.size := by
    have := hR.dst j o ho
    rw [hdst] at this
    have := Nat.le_of_ble_eq_true (show Nat.ble (d + 1) (T j).n = true from this)
    rw [Z7k hR j (by omega)] at this
    have h2 := hI.size
    exact h2 ▸ this
   by_cases e : d = t
   ·subst e
    simp at hv
    subst hv
    rw [Z41 hlt]
    exact hS.val
   ·rw [if_neg (fun h => e (Option.some.inj h))] at hv
    rw [Z4X e]
    exact (hI.env t v hv).mono hS.le
 ·have h1 := hall j (List.mem_cons_self ..)
  obtain ⟨h2, h3⟩ := hI.fresh s hs fun i hi => hall i (List.mem_cons_of_mem _ hi)
  have hnm : s ∉ (X j).w.map (·.1) := fun hm => by
   rcases hS.names s hm with h4 | h4
   ·exact h1 h4
   ·rw [h2] at h4; cases h4
  refine ⟨?_, fun k => (hS.L s k h1 fun hh => hnm hh.2).trans (h3 k)⟩
  show get ((X j).w ++ hL X st0 L) s = none
  rw [Zd]
  by_cases hm : s ∈ (X j).w.map (·.1)
  ·rcases hS.names s hm with h4 | h4
   ·exact absurd h4 h1
   ·rw [h2] at h4; cases h4
  ·rw [Zc hm]; exact h2
theorem one_op (hU : U.Ok) (hΓ : ZH U P Γ) (hR : Reg U P Γ ro dr ops ms st0 X T) (hn : nx0 ≤ st0.nx) {L : List Nat} {c : Cx} {Φ : Nat → Nat → Nat → Prop} {a : Act} {w : World}
  (hI : InvL U ops st0 X T (BExt U ro c0 Φ0 h0 nx0 w0) L c Φ a w) {j : Nat} {o : Oper} (ho : ops[j]? = some o) (hjL : j ∉ L) (hLn : ∀ i ∈ L, i < ops.size) (hA : Agree ops st0 X L j o)
  {K : Act → World → Prop} {Q : Exit → Act → World → Prop} (hK : ∀ c' Φ' a' w', InvL U ops st0 X T (BExt U ro c0 Φ0 h0 nx0 w0) (j :: L) c' Φ' a' w' → K a' w') : wpOp P ops Q j K a w := by
 have hj : j < ops.size := (Array.getElem?_eq_some_iff.1 ho).1
 unfold wpOp
 rw [ho]
 show (if Region.wanted o (yielded ops a.tmps) = true then Oper.wp P o a w K Q ∨ Oper.asks P o a w ∧ LetsOut Q else K (a.put o.dst undef) w)
 have henv : ∀ t, t ∈ Z1l ops.toList o → ∀ v, get (T j).env t = some v → RA U c v (a.eval (.tmp t)) := fun t ht v hv => by
  rw [Z55 hR t j (by omega), ← hA.env t ht] at hv
  exact hI.env t v hv
 have hw := Z6u (ops := ops) (a := a) (o := o) henv
 rcases hR.run j o ho with ⟨h1, h2⟩ | ⟨h1, h2⟩
 ·rw [if_pos (hw.1 h1)]
  refine .inl ?_
  have hD := Z7Y (nx := (T j).nx) (h := hL X st0 L) hU hΓ h2 (fun s hs => by rw [Z6d hR j (by omega)]; exact hA.heap s hs) hI.g
   (fun s h3 h4 => hI.fresh s (by have := nx_ge hR j (by omega); omega) fun i hi h5 => by
    have hne : i ≠ j := fun e => hjL (e ▸ hi)
    have hil := hLn i hi
    rcases Nat.lt_or_gt_of_ne hne with h6 | h6
    ·have := Z4B hR j h6 (by omega); omega
    ·have := Z4B hR i h6 (by omega); omega)
   (fun x hx v hv => by
    cases x with
    | tmp t =>
     refine henv t ?_ v hv
     unfold Z1l
     exact List.mem_append_left _ (List.mem_filterMap.2 ⟨.tmp t, hx, rfl⟩)
    | const k => exact Z3W hv
    | func f => cases hv; exact R.val rfl
    | global g => cases hv)
  exact hD.wp fun u w' ⟨c', Φ', hS⟩ => hK _ _ _ _ (hI.put hR hn ho hS)
 ·rw [if_neg (by rw [hw.2 h1]; simp)]
  exact hK _ _ _ _ (hI.put hR hn ho (by rw [h2]; exact Step1.pure hI.g RA.undef))
structure SOK (U : Univ) (c : Cx) (Φ : Nat → Nat → Nat → Prop) (st : St U) (a : Act) (w : World) : Prop where
 size : a.tmps.size = st.n
 defers : a.defers = []
 env : ∀ t v, get st.env t = some v → RA U c v (a.eval (.tmp t))
 g : G U c Φ st.h w
 fresh : ∀ s, st.nx ≤ s → get st.h s = none ∧ ∀ k, c.L s k = none
theorem InvL.start {c : Cx} {Φ : Nat → Nat → Nat → Prop} {a : Act} {w : World} (hS : SOK U c Φ st0 a w) (hB : Ext U ro c0 Φ0 h0 nx0 w0 c Φ st0.h w) : InvL U ops st0 X T (BExt U ro c0 Φ0 h0 nx0 w0) [] c Φ a w where
 size := hS.size
 defers := hS.defers
 env t v hv := hS.env t v hv
 g := hS.g
 fresh s hs _ := hS.fresh s hs
 b := hB
theorem InvL.finish (hR : Reg U P Γ ro dr ops ms st0 X T) {L : List Nat} {c : Cx} {Φ : Nat → Nat → Nat → Prop} {a : Act} {w : World} (hI : InvL U ops st0 X T (BExt U ro c0 Φ0 h0 nx0 w0) L c Φ a w)
  (hLn : ∀ i ∈ L, i < ops.size) (he : ∀ t, envL ops X st0 L t = envL ops X st0 (down ops.size) t) (hh : ∀ s, get (hL X st0 L) s = get (hL X st0 (down ops.size)) s) :
  SOK U c Φ (T ops.size) a w ∧ Ext U ro c0 Φ0 h0 nx0 w0 c Φ (T ops.size).h w := by
 have e1 := Z6d hR ops.size (Nat.le_refl _)
 refine ⟨⟨by rw [hI.size, Z7k hR _ (Nat.le_refl _)], hI.defers, fun t v hv => ?_, by rw [e1]; exact hI.g.congr fun s => (hh s).symm, fun s hs => ?_⟩, by rw [e1]; exact hI.b.less fun s hs => by rw [hh s]; exact hs⟩
 ·rw [Z55 hR t _ (Nat.le_refl _), ← he t] at hv
  exact hI.env t v hv
 ·rw [e1, ← hh s]
  refine hI.fresh s (by have := nx_ge hR ops.size (Nat.le_refl _); omega) fun i hi h1 => ?_
  have := Z4B hR ops.size (hLn i hi) (Nat.le_refl _)
  omega
theorem Z82 (hU : U.Ok) (hΓ : ZH U P Γ) (hR : Reg U P Γ ro dr ops ms st0 X T) (hn : nx0 ≤ st0.nx) {Q : Exit → Act → World → Prop}
  (hQ : ∀ c' Φ' a' w', SOK U c' Φ' (T ops.size) a' w' → Ext U ro c0 Φ0 h0 nx0 w0 c' Φ' (T ops.size).h w' → Q .normal a' w') :
  ∀ (k j : Nat) (c : Cx) (Φ : Nat → Nat → Nat → Prop) (a : Act) (w : World), j + k = ops.size → InvL U ops st0 X T (BExt U ro c0 Φ0 h0 nx0 w0) (down j) c Φ a w → wpOps P ops Q (List.range' j k) a w
 | 0, j, c, Φ, a, w, hk, hI => by
  have hj : j = ops.size := by omega
  subst hj
  obtain ⟨h1, h2⟩ := hI.finish hR (fun i hi => Z1J.1 hi) (fun _ => rfl) (fun _ => rfl)
  exact hQ _ _ _ _ h1 h2
 | k + 1, j, c, Φ, a, w, hk, hI => by
  have ho : ops[j]? = some ops[j] := Array.getElem?_eq_getElem (by omega)
  rw [List.range'_succ, wpOps_cons]
  refine one_op hU hΓ hR hn hI ho (fun h => by have := Z1J.1 h; omega) (fun i hi => by have := Z1J.1 hi; omega) ⟨fun _ _ => rfl, fun _ _ => rfl⟩ fun c' Φ' a' w' hI' => ?_
  rw [← Z2U] at hI'
  exact Z82 hU hΓ hR hn hQ k (j + 1) c' Φ' a' w' (by omega) hI'
end
end Go.Rf
namespace Go.Rf
set_option linter.unusedVariables false
set_option linter.unusedSimpArgs false
variable {U : Univ} {P : Program} {Γ : Nat → Option (Native U)} {ro : Nat} {dr : Bool}
theorem Z5N (ms : List Nat) : ∀ (l : List Edge) (m i : Nat), ((l.foldl (fun m e => bif Region.binds .any e then m ||| 2 ^ e.on ||| ms.getD e.on 0 else m) m).testBit i = true) →
  m.testBit i = true ∨ ∃ e ∈ l, Region.binds .any e = true ∧ (i = e.on ∨ (ms.getD e.on 0).testBit i = true)
 | [], m, i, h => .inl h
 | e :: l, m, i, h => by
  rw [List.foldl_cons] at h
  rcases Z5N ms l _ i h with h1 | ⟨e', h1, h2⟩
  ·cases hb : Region.binds .any e with
   | false => rw [hb] at h1; exact .inl h1
   | true =>
    rw [hb] at h1
    simp only [cond_true, Nat.testBit_or, Bool.or_eq_true, Nat.testBit_two_pow, decide_eq_true_eq] at h1
    rcases h1 with (h1 | h1) | h1
    ·exact .inl h1
    ·exact .inr ⟨e, List.mem_cons_self .., hb, .inl h1.symm⟩
    ·exact .inr ⟨e, List.mem_cons_self .., hb, .inr h1⟩
  ·exact .inr ⟨e', List.mem_cons_of_mem _ h1, h2⟩
theorem Z5L : ∀ (rest : List Oper) (ms0 : List Nat), ∃ r, masks rest ms0 = ms0 ++ r ∧ ∀ (k : Nat) o, rest[k]? = some o → (ms0 ++ r).getD (ms0.length + k) 0 = mask ((ms0 ++ r).take (ms0.length + k)) o
 | [], ms0 => ⟨[], by simp [masks], fun k o hk => by simp at hk⟩
 | x :: rest, ms0 => by
  obtain ⟨r, h1, h2⟩ := Z5L rest (ms0 ++ [mask ms0 x])
  refine ⟨mask ms0 x :: r, by rw [masks, h1]; simp, fun k o hk => ?_⟩
  have e : ms0 ++ [mask ms0 x] ++ r = ms0 ++ mask ms0 x :: r := by simp
  rw [e] at h2
  cases k with
  | zero =>
   simp at hk; subst hk
   simp [List.getD]
  | succ k =>
   simp at hk
   have := h2 k o hk
   rw [List.length_append, List.length_singleton, Nat.add_assoc, Nat.add_comm 1 k] at this
   exact this
theorem Z8H {ops : Array Oper} {j : Nat} {o : Oper} (ho : ops[j]? = some o) (he : Z26 j o = true) {i : Nat} (hb : ((masks ops.toList []).getD j 0).testBit i = true) :
  ∃ e ∈ o.after.toList, Region.binds .any e = true ∧ e.on < j ∧ (i = e.on ∨ ((masks ops.toList []).getD e.on 0).testBit i = true) := by
 obtain ⟨r, h1, h2⟩ := Z5L ops.toList []
 simp only [List.nil_append, List.length_nil, Nat.zero_add] at h1 h2
 rw [h1] at hb ⊢
 rw [h2 j o (by rw [Array.getElem?_toList]; exact ho)] at hb
 unfold mask at hb
 rcases Z5N _ _ _ _ hb with h3 | ⟨e, h3, h4, h5⟩
 ·simp at h3
 ·have hlt : e.on < j := by
   unfold Z26 at he
   rw [List.all_eq_true] at he
   have := he e h3
   rw [h4] at this
   simp at this
   exact this
  refine ⟨e, h3, h4, hlt, ?_⟩
  rcases h5 with h5 | h5
  ·exact .inl h5
  ·refine .inr ?_
   have : (r.take j).getD e.on 0 = r.getD e.on 0 := by simp [List.getD, List.getElem?_take, hlt]
   rwa [this] at h5
theorem pigeon : ∀ (n : Nat) (L : List Nat), L.Nodup → (∀ i ∈ L, i < n) → L.length ≤ n ∧ (L.length = n → ∀ i, i < n → i ∈ L)
 | 0, L, _, h => by
  cases L with
  | nil => exact ⟨Nat.le_refl _, fun _ i hi => by omega⟩
  | cons x L => have := h x (List.mem_cons_self ..); omega
 | n + 1, L, hd, h => by
  by_cases hm : n ∈ L
  ·obtain ⟨h1, h2⟩ := pigeon n (L.erase n) (hd.erase n) fun i hi => by
    have h3 := h i (List.mem_of_mem_erase hi)
    have h4 : i ≠ n := fun e => by subst e; exact (hd.mem_erase_iff.1 hi).1 rfl
    omega
   rw [List.length_erase_of_mem hm] at h1 h2
   have hpos : 0 < L.length := List.length_pos_of_mem hm
   refine ⟨by omega, fun hl i hi => ?_⟩
   by_cases e : i = n
   ·subst e; exact hm
   ·exact List.mem_of_mem_erase (h2 (by omega) i (by omega))
  ·obtain ⟨h1, h2⟩ := pigeon n L hd fun i hi => by
    have := h i hi
    have : i ≠ n := fun e => hm (e ▸ hi)
    omega
   exact ⟨by omega, fun hl => by omega⟩
theorem Z2b {t : Nat} {l : List Nat} : mem t l = true ↔ t ∈ l := by
 unfold mem
 rw [List.any_eq_true]
 constructor
 ·rintro ⟨x, h1, h2⟩; rw [nbeq h2]; exact h1
 ·intro h; exact ⟨t, h, by simp⟩
theorem Z2V {a b : List Nat} {t : Nat} (ha : t ∈ a) (hb : t ∈ b) : meets a b = true := by
 unfold meets
 rw [List.any_eq_true]
 exact ⟨t, ha, Z2b.2 hb⟩
section
variable {ops : Array Oper} {st0 : St U} {X : Nat → Out U} {T : Nat → St U}
variable {c0 : Cx} {Φ0 : Nat → Nat → Nat → Prop} {h0 : Heap U} {nx0 : Nat} {w0 : World}
def Con (ops : Array Oper) (i j : Nat) : Prop := (i < j → ((masks ops.toList []).getD j 0).testBit i = true) ∧ (j < i → ((masks ops.toList []).getD i 0).testBit j = true)
theorem con_of (hR : Reg U P Γ ro true ops (masks ops.toList []) st0 X T) {i j : Nat} {oi oj : Oper} (hi : ops[i]? = some oi) (hj : ops[j]? = some oj)
  (h : clash (info ops.toList oi (X i)) (info ops.toList oj (X j)) = true) (h' : clash (info ops.toList oj (X j)) (info ops.toList oi (X i)) = true) : Con ops i j :=
 ⟨fun hlt => hR.clash rfl j oj i oi hj hi hlt h, fun hlt => hR.clash rfl i oi j oj hi hj hlt h'⟩
theorem Z5V (hR : Reg U P Γ ro true ops (masks ops.toList []) st0 X T) {i j t : Nat} {oj : Oper} (hi : Z1o ops i = some t) (hj : ops[j]? = some oj) (h : t ∈ Z1l ops.toList oj ∨ Z1o ops j = some t) : Con ops i j := by
 cases hoi : ops[i]? with
 | none => simp [Z1o, hoi] at hi
 | some oi =>
  have e1 : oi.dst = some t := by simpa [Z1o, hoi] using hi
  have e2 : Z1o ops j = oj.dst := by simp [Z1o, hj]
  rw [e2] at h
  refine con_of hR hoi hj ?_ ?_
  ·rcases h with h | h
   ·have : memO oi.dst (Z1l ops.toList oj) = true := by rw [e1]; exact Z2b.2 h
    simp [clash, info, this]
   ·have : memO oi.dst oj.dst.toList = true := by rw [e1, h]; exact Z2b.2 (by simp)
    simp [clash, info, this]
  ·rcases h with h | h
   ·have : memO oi.dst (Z1l ops.toList oj) = true := by rw [e1]; exact Z2b.2 h
    simp [clash, info, this]
   ·have : memO oj.dst oi.dst.toList = true := by rw [e1, h]; exact Z2b.2 (by simp)
    simp [clash, info, this]
theorem Z5e (hR : Reg U P Γ ro true ops (masks ops.toList []) st0 X T) {i j s : Nat} {oi oj : Oper} (hoi : ops[i]? = some oi) (hj : ops[j]? = some oj) (hi : s ∈ (X i).w.map (·.1)) (h : s ∈ (X j).rd ∨ s ∈ (X j).w.map (·.1)) : Con ops i j := by
 refine con_of hR hoi hj ?_ ?_
 ·rcases h with h | h
  ·have := Z2V hi h; simp [clash, info, this]
  ·have := Z2V hi h; simp [clash, info, this]
 ·rcases h with h | h
  ·have := Z2V h hi; simp [clash, info, this]
  ·have := Z2V h hi; simp [clash, info, this]
structure DInv (ops : Array Oper) (L : List Nat) (listed : Array Bool) : Prop where
 nodup : L.Nodup
 lt : ∀ i ∈ L, i < ops.size
 listed : ∀ i, i < ops.size → listed[i]? = some (decide (i ∈ L))
 closed : ∀ k ∈ L, ∀ i, ((masks ops.toList []).getD k 0).testBit i = true → i ∈ L
 ord : L.Pairwise fun k i => Con ops i k → i < k
theorem Z1j {p : Nat → Bool} (hp : ∀ i k, p i = true → p k = true → Con ops i k) : ∀ (L : List Nat), L.Pairwise (fun k i => Con ops i k → i < k) → (L.filter p).Pairwise (· > ·)
 | [], _ => by simp
 | k :: L, h => by
  rw [List.pairwise_cons] at h
  rw [List.filter_cons]
  have ih := Z1j hp L h.2
  split
  ·rename_i hk
   rw [List.pairwise_cons]
   refine ⟨fun i hi => ?_, ih⟩
   rw [List.mem_filter] at hi
   exact h.1 i hi.1 (hp i k hi.2 hk)
  ·exact ih
theorem Z2d {listed : Array Bool} {j : Nat} : j ∈ Region.ready .any ops listed ↔ j < ops.size ∧ listed.getD j true = false ∧ ∃ o, ops[j]? = some o ∧ ∀ e ∈ o.after.toList, Region.binds .any e = true → listed.getD e.on false = true := by
 unfold Region.ready
 rw [List.mem_filter, List.mem_range]
 constructor
 ·rintro ⟨h1, h2⟩
  have ho : ops[j]? = some ops[j] := Array.getElem?_eq_getElem h1
  rw [Bool.and_eq_true] at h2
  refine ⟨h1, by simpa using h2.1, ops[j], ho, fun e he hb => ?_⟩
  have h3 := h2.2
  rw [ho] at h3
  simp only [Option.map_some, Option.getD_some] at h3
  rw [Array.all_toList.symm, List.all_eq_true] at h3
  have := h3 e he
  rw [hb] at this
  simpa using this
 ·rintro ⟨h1, h2, o, ho, h3⟩
  refine ⟨h1, ?_⟩
  rw [Bool.and_eq_true]
  refine ⟨by simp [h2], ?_⟩
  rw [ho]
  simp only [Option.map_some, Option.getD_some]
  rw [Array.all_toList.symm, List.all_eq_true]
  intro e he
  cases hb : Region.binds .any e with
  | false => rfl
  | true => rw [h3 e he hb]; rfl
end
end Go.Rf
namespace Go.Rf
set_option linter.unusedVariables false
set_option linter.unusedSimpArgs false
variable {U : Univ} {P : Program} {Γ : Nat → Option (Native U)} {ro : Nat} {dr : Bool}
section
variable {ops : Array Oper} {st0 : St U} {X : Nat → Out U} {T : Nat → St U}
variable {c0 : Cx} {Φ0 : Nat → Nat → Nat → Prop} {h0 : Heap U} {nx0 : Nat} {w0 : World}
theorem wE_lt {t i : Nat} (h : (wE ops X t i).isSome) : Z1o ops i = some t ∧ i < ops.size := by
 unfold wE at h
 by_cases hd : Z1o ops i = some t
 ·refine ⟨hd, ?_⟩
  cases ho : ops[i]? with
  | none => simp [Z1o, ho] at hd
  | some o => exact (Array.getElem?_eq_some_iff.1 ho).1
 ·rw [if_neg hd] at h; cases h
theorem side (hR : Reg U P Γ ro true ops (masks ops.toList []) st0 X T) {L : List Nat} {listed : Array Bool} (hD : DInv ops L listed) {j : Nat} (hj : j ∈ Region.ready .any ops listed) :
  j ∉ L ∧ (∀ i, i < ops.size → i ≠ j → Con ops i j → (i ∈ L ↔ i < j)) ∧ (∀ i, ((masks ops.toList []).getD j 0).testBit i = true → i ∈ L) := by
 obtain ⟨h1, h2, o, ho, h3⟩ := Z2d.1 hj
 have hjL : j ∉ L := fun hm => by
  have := hD.listed j h1
  rw [Array.getD_eq_getD_getElem?, this] at h2
  simp [hm] at h2
 have hbits : ∀ i, ((masks ops.toList []).getD j 0).testBit i = true → i ∈ L := fun i hi => by
  obtain ⟨e, he, hb, hlt, h4⟩ := Z8H ho (hR.edge rfl j o ho) hi
  have h5 := h3 e he hb
  have h6 := hD.listed e.on (by omega)
  rw [Array.getD_eq_getD_getElem?, h6] at h5
  have h7 : e.on ∈ L := by simpa using h5
  rcases h4 with rfl | h4
  ·exact h7
  ·exact hD.closed e.on h7 i h4
 refine ⟨hjL, fun i hi hne hc => ⟨fun hm => ?_, fun hlt => hbits i (hc.1 hlt)⟩, hbits⟩
 rcases Nat.lt_or_gt_of_ne hne with h4 | h4
 ·exact h4
 ·exact absurd (hD.closed i hm j (hc.2 h4)) hjL
theorem DInv.push (hR : Reg U P Γ ro true ops (masks ops.toList []) st0 X T) {L : List Nat} {listed : Array Bool} (hD : DInv ops L listed) {j : Nat} (hj : j ∈ Region.ready .any ops listed) :
  DInv ops (j :: L) (listed.setIfInBounds j true) := by
 obtain ⟨h1, h2, h3⟩ := side hR hD hj
 have hlt := (Z2d.1 hj).1
 refine ⟨List.nodup_cons.2 ⟨h1, hD.nodup⟩, fun i hi => ?_, fun i hi => ?_, fun k hk i hi => ?_, ?_⟩
 ·rcases List.mem_cons.1 hi with rfl | hi
  ·exact hlt
  ·exact hD.lt i hi
 ·by_cases e : j = i
  ·subst e
   have := hD.listed j hi
   have hsz : j < listed.size := (Array.getElem?_eq_some_iff.1 this).1
   simp [Array.getElem?_setIfInBounds, hsz]
  ·rw [Array.getElem?_setIfInBounds_ne e, hD.listed i hi]
   congr 1
   have e' : ¬ i = j := fun h => e h.symm
   simp [e']
 ·rcases List.mem_cons.1 hk with rfl | hk
  ·exact List.mem_cons_of_mem _ (h3 i hi)
  ·exact List.mem_cons_of_mem _ (hD.closed k hk i hi)
 ·rw [List.pairwise_cons]
  refine ⟨fun i hi hc => ?_, hD.ord⟩
  exact (h2 i (hD.lt i hi) (fun e => h1 (e ▸ hi)) hc).1 hi
theorem all_in (hR : Reg U P Γ ro true ops (masks ops.toList []) st0 X T) {L : List Nat} {listed : Array Bool} (hD : DInv ops L listed) (h : Region.ready .any ops listed = []) : ∀ i, i < ops.size → i ∈ L := by
 intro i
 induction i using Nat.strongRecOn with
 | _ i ih =>
  intro hi
  rcases Decidable.em (i ∈ L) with hm | hm
  ·exact hm
  ·exfalso
   have ho : ops[i]? = some ops[i] := Array.getElem?_eq_getElem hi
   have : i ∈ Region.ready .any ops listed := by
    refine Z2d.2 ⟨hi, ?_, ops[i], ho, fun e he hb => ?_⟩
    ·rw [Array.getD_eq_getD_getElem?, hD.listed i hi]; simp [hm]
    ·have hlt : e.on < i := by
      have := hR.edge rfl i _ ho
      unfold Z26 at this
      rw [List.all_eq_true] at this
      have := this e he
      rw [hb] at this
      simp at this
      exact this
     rw [Array.getD_eq_getD_getElem?, hD.listed e.on (by omega)]
     simpa using ih e.on hlt (by omega)
   rw [h] at this; cases this
theorem Z8q (hU : U.Ok) (hΓ : ZH U P Γ) (hR : Reg U P Γ ro true ops (masks ops.toList []) st0 X T) (hn : nx0 ≤ st0.nx) {Q : Exit → Act → World → Prop}
  (hQ : ∀ c' Φ' a' w', SOK U c' Φ' (T ops.size) a' w' → Ext U ro c0 Φ0 h0 nx0 w0 c' Φ' (T ops.size).h w' → Q .normal a' w') :
  ∀ (fuel : Nat) (L : List Nat) (listed : Array Bool) (c : Cx) (Φ : Nat → Nat → Nat → Prop) (a : Act) (w : World), fuel + L.length = ops.size → DInv ops L listed →
   InvL U ops st0 X T (BExt U ro c0 Φ0 h0 nx0 w0) L c Φ a w → wpAny P .any ops Q fuel listed a w := by
 have hfin : ∀ (L : List Nat) (listed : Array Bool) (c : Cx) (Φ : Nat → Nat → Nat → Prop) (a : Act) (w : World), DInv ops L listed → (∀ i, i < ops.size → i ∈ L) →
   InvL U ops st0 X T (BExt U ro c0 Φ0 h0 nx0 w0) L c Φ a w → Q .normal a w := by
  intro L listed c Φ a w hD hall hI
  obtain ⟨h1, h2⟩ := hI.finish hR hD.lt (fun t => by
    unfold envL
    rw [Z4T (j := ops.size) (Z1j (fun i k hi hk => ?_) L hD.ord) (fun i hi => ⟨hD.lt i, hall i⟩)]
    obtain ⟨h3, h4⟩ := wE_lt hi
    obtain ⟨h5, h6⟩ := wE_lt hk
    exact Z5V hR h3 (Array.getElem?_eq_getElem h6) (.inr h5)) (fun s => by
    rw [Z5z, Z5z]
    rw [ZE (wH X s) L, ZE (wH X s) (down ops.size)]
    have : (L.filter fun i => (wH X s i).isSome) = (down ops.size).filter fun i => (wH X s i).isSome := by
     have hs : (L.filter fun i => decide (i < ops.size) && (wH X s i).isSome).Pairwise (· > ·) := Z1j (fun i k hi hk => by
      rw [Bool.and_eq_true] at hi hk
      have hi1 : i < ops.size := of_decide_eq_true hi.1
      have hk1 : k < ops.size := of_decide_eq_true hk.1
      obtain ⟨ei, hei⟩ := Option.isSome_iff_exists.1 hi.2
      obtain ⟨ek, hek⟩ := Option.isSome_iff_exists.1 hk.2
      exact Z5e hR (Array.getElem?_eq_getElem hi1) (Array.getElem?_eq_getElem hk1) (Z2A hei) (.inr (Z2A hek))) L hD.ord
     have e : (L.filter fun i => decide (i < ops.size) && (wH X s i).isSome) = L.filter fun i => (wH X s i).isSome := by
      refine List.filter_congr fun i hi => ?_
      simp [hD.lt i hi]
     rw [e] at hs
     refine Z2Z _ _ hs ((Z2c _).filter _) fun i => ?_
     simp only [List.mem_filter, Z1J]
     exact ⟨fun ⟨h1, h2⟩ => ⟨hD.lt i h1, h2⟩, fun ⟨h1, h2⟩ => ⟨hall i h1, h2⟩⟩
    rw [this])
  exact hQ _ _ _ _ h1 h2
 intro fuel
 induction fuel with
 | zero =>
  intro L listed c Φ a w hf hD hI
  have hall := (pigeon ops.size L hD.nodup hD.lt).2 (by omega)
  refine ⟨?_, hfin L listed c Φ a w hD hall hI⟩
  cases hr : Region.ready .any ops listed with
  | nil => rfl
  | cons i l =>
   have hm : i ∈ Region.ready .any ops listed := by rw [hr]; exact List.mem_cons_self ..
   exact absurd (hall i (Z2d.1 hm).1) (side hR hD hm).1
 | succ fuel ih =>
  intro L listed c Φ a w hf hD hI
  refine ⟨fun hr => hfin L listed c Φ a w hD (all_in hR hD hr) hI, fun j hj => ?_⟩
  obtain ⟨h1, h2, h3⟩ := side hR hD hj
  obtain ⟨hlt, _, o, ho, _⟩ := Z2d.1 hj
  refine one_op hU hΓ hR hn hI ho h1 hD.lt ⟨fun t ht => ?_, fun s hs => ?_⟩ fun c' Φ' a' w' hI' => ih (j :: L) _ c' Φ' a' w' (by simp; omega) (hD.push hR hj) hI'
  ·unfold envL
   rw [Z4T (j := j) (Z1j (fun i k hi hk => ?_) L hD.ord) (fun i hi => ?_)]
   ·obtain ⟨h3, h4⟩ := wE_lt hi
    obtain ⟨h5, h6⟩ := wE_lt hk
    exact Z5V hR h3 (Array.getElem?_eq_getElem h6) (.inr h5)
   ·obtain ⟨h4, h5⟩ := wE_lt hi
    by_cases e : i = j
    ·subst e; exact ⟨fun h => absurd h h1, fun h => by omega⟩
    ·exact h2 i h5 e (Z5V hR h4 ho (.inl ht))
  ·rw [Z5z, Z5z]
   rw [ZE (wH X s) L, ZE (wH X s) (down j)]
   have : (L.filter fun i => (wH X s i).isSome) = (down j).filter fun i => (wH X s i).isSome := by
    have hs' : (L.filter fun i => decide (i < ops.size) && (wH X s i).isSome).Pairwise (· > ·) := Z1j (fun i k hi hk => by
     rw [Bool.and_eq_true] at hi hk
     have hi1 : i < ops.size := of_decide_eq_true hi.1
     have hk1 : k < ops.size := of_decide_eq_true hk.1
     obtain ⟨ei, hei⟩ := Option.isSome_iff_exists.1 hi.2
     obtain ⟨ek, hek⟩ := Option.isSome_iff_exists.1 hk.2
     exact Z5e hR (Array.getElem?_eq_getElem hi1) (Array.getElem?_eq_getElem hk1) (Z2A hei) (.inr (Z2A hek))) L hD.ord
    have e : (L.filter fun i => decide (i < ops.size) && (wH X s i).isSome) = L.filter fun i => (wH X s i).isSome := by
     refine List.filter_congr fun i hi => ?_
     simp [hD.lt i hi]
    rw [e] at hs'
    refine Z2Z _ _ hs' ((Z2c _).filter _) fun i => ?_
    simp only [List.mem_filter, Z1J]
    have hside : i < ops.size → (wH X s i).isSome = true → (i ∈ L ↔ i < j) := fun h5 h4 => by
     obtain ⟨ei, hei⟩ := Option.isSome_iff_exists.1 h4
     by_cases e : i = j
     ·subst e; exact ⟨fun h => absurd h h1, fun h => by omega⟩
     ·exact h2 i h5 e (Z5e hR (Array.getElem?_eq_getElem h5) ho (Z2A hei) hs)
    exact ⟨fun ⟨h5, h6⟩ => ⟨(hside (hD.lt i h5) h6).1 h5, h6⟩, fun ⟨h5, h6⟩ => ⟨(hside (by omega) h6).2 h5, h6⟩⟩
   rw [this]
end
end Go.Rf
namespace Go.Rf
set_option linter.unusedVariables false
set_option linter.unusedSimpArgs false
variable {U : Univ} {P : Program} {Γ : Nat → Option (Native U)} {ro : Nat}
section
variable {c0 : Cx} {Φ0 : Nat → Nat → Nat → Prop} {h0 : Heap U} {nx0 : Nat} {w0 : World}
theorem SOK.drew (hU : U.Ok) {c : Cx} {Φ : Nat → Nat → Nat → Prop} {st : St U} {a : Act} {w : World} (h : SOK U c Φ st a w) : SOK U c Φ st a { w with drawn := w.drawn + 1 } :=
 ⟨h.size, h.defers, h.env, h.g.drew hU, h.fresh⟩
theorem Z2W (hU : U.Ok) (hΓ : ZH U P Γ) (hm : P.follows .mixedOrders = true) {ρ : Type} {S : ρ → Prop} {J : Bool → ρ → ρ → ρ} {fail : ρ} (hf : ¬ S fail) (hJ : ∀ b x y, S (J b x y) → S (bif b then x else y))
  {id : Nat} {ops : Array Oper} {dr : Bool} {st : St U} {K : St U → ρ} (h : S (ZW P Γ ro dr ops.toList (bif dr then masks ops.toList [] else []) J fail ops.toList 0 [] st K))
  {c : Cx} {Φ : Nat → Nat → Nat → Prop} {a : Act} {w : World} (hn : nx0 ≤ st.nx) (hS : SOK U c Φ st a w) (hE : Ext U ro c0 Φ0 h0 nx0 w0 c Φ st.h w) {Q : Exit → Act → World → Prop}
  (hQ : ∀ st' c' Φ' a' w', S (K st') → nx0 ≤ st'.nx → SOK U c' Φ' st' a' w' → Ext U ro c0 Φ0 h0 nx0 w0 c' Φ' st'.h w' → Q .normal a' w') : (Code.region id ops dr).wp P Q a w := by
 obtain ⟨outs, st', hT, hSK⟩ := Z2F hf hJ _ _ _ _ _ h
 obtain ⟨X, T, hR, hTn⟩ := hT.reg
 have hnx : nx0 ≤ st'.nx := by rw [← hTn]; exact Nat.le_trans hn (nx_ge hR _ (Nat.le_refl _))
 have hfin : ∀ c' Φ' a' w', SOK U c' Φ' (T ops.size) a' w' → Ext U ro c0 Φ0 h0 nx0 w0 c' Φ' (T ops.size).h w' → Q .normal a' w' := by
  rw [hTn]; exact fun c' Φ' a' w' h1 h2 => hQ st' c' Φ' a' w' hSK hnx h1 h2
 cases dr with
 | false =>
  refine wp_region ?_
  have := Z82 hU hΓ hR hn hfin ops.size 0 c Φ a w (by omega) (InvL.start hS hE)
  rwa [List.range_eq_range']
 | true =>
  simp only [cond_true] at hR
  refine wp_region_any hm (Z8q hU hΓ hR hn hfin ops.size [] _ c Φ a _ (by simp) ⟨List.nodup_nil, fun i hi => (nomatch hi), fun i hi => ?_, fun k hk => (nomatch hk), List.Pairwise.nil⟩ (InvL.start (hS.drew hU) hE.drew))
  simp [hi]
end
structure Imp (U : Univ) (st st' : St U) : Prop where
 sok : ∀ c Φ a w, SOK U c Φ st a w → SOK U c Φ st' a w
 less : ∀ s, (get st'.h s).isSome → (get st.h s).isSome
 nx : st.nx ≤ st'.nx
theorem Imp.refl (st : St U) : Imp U st st := ⟨fun _ _ _ _ h => h, fun _ h => h, Nat.le_refl _⟩
theorem Imp.trans {x y z : St U} (h : Imp U x y) (h' : Imp U y z) : Imp U x z :=
 ⟨fun c Φ a w hs => h'.sok c Φ a w (h.sok c Φ a w hs), fun s hs => h.less s (h'.less s hs), Nat.le_trans h.nx h'.nx⟩
def EntLe (U : Univ) (e e' : Ent U) : Prop := ∀ c w s F, EntOK c w s F e → EntOK c w s F e'
theorem Imp.of {x y : St U} (hn : x.n = y.n) (he : ∀ t v, get y.env t = some v → ∃ v', get x.env t = some v' ∧ ∀ c u, RA U c v' u → RA U c v u)
  (hh : ∀ s e, get y.h s = some e → ∃ e', get x.h s = some e' ∧ EntLe U e' e) (hx : x.nx ≤ y.nx) : Imp U x y := by
 have hless : ∀ s, (get y.h s).isSome → (get x.h s).isSome := fun s hs => by
  obtain ⟨e, h1⟩ := Option.isSome_iff_exists.1 hs
  obtain ⟨e', h2, _⟩ := hh s e h1
  simp [h2]
 refine ⟨fun c Φ a w hS => ⟨by rw [← hn]; exact hS.size, hS.defers, fun t v hv => ?_, ⟨fun s e hs => ?_, fun s s' b o h1 h2 h3 => hS.g.apart s s' b o h1 (hless s h2) (hless s' h3), hS.g.imm, fun s b o h1 => hS.g.immApart s b o (hless s h1)⟩, fun s hs => ?_⟩, hless, hx⟩
 ·obtain ⟨v', h1, h2⟩ := he t v hv
  exact h2 _ _ (hS.env t v' h1)
 ·obtain ⟨e', h1, h2⟩ := hh s e hs
  exact h2 _ _ _ _ (hS.g.ents s e' h1)
 ·obtain ⟨h1, h2⟩ := hS.fresh s (by omega)
  refine ⟨?_, h2⟩
  cases hg : get y.h s with
  | none => rfl
  | some e =>
   have := hless s (by simp [hg])
   rw [h1] at this; cases this
theorem Z38 (x : Env U) : ∀ (l : List Nat) (t : Nat) (v : A U), get (Z3m x l) t = some v → get x t = some v
 | [], t, v, h => by cases h
 | s :: l, t, v, h => by
  unfold Z3m at h
  split at h
  ·rename_i a ha
   rw [Z5] at h
   by_cases e : s = t
   ·subst e; simp at h; subst h; exact ha
   ·rw [if_neg e] at h; exact Z38 x l t v h
  ·exact Z38 x l t v h
theorem Z2P (x : Heap U) : ∀ (l : List Nat) (t : Nat) (v : Ent U), get (Z2G x l) t = some v → get x t = some v
 | [], t, v, h => by cases h
 | s :: l, t, v, h => by
  unfold Z2G at h
  split at h
  ·rename_i a ha
   rw [Z5] at h
   by_cases e : s = t
   ·subst e; simp at h; subst h; exact ha
   ·rw [if_neg e] at h; exact Z2P x l t v h
  ·exact Z2P x l t v h
theorem Imp.only (st : St U) (l : Live) : Imp U st (st.only l) :=
 Imp.of rfl (fun t v hv => ⟨v, Z38 _ _ _ _ hv, fun _ _ h => h⟩) (fun s e hs => ⟨e, Z2P _ _ _ _ hs, fun _ _ _ _ h => h⟩) (Nat.le_refl _)
theorem Z8s {b : Bool} {x y z : U.S} (h : Z7l b x y = some z) : SLe U (bif b then x else y) z := by
 unfold Z7l at h
 split at h
 ·cases h; cases b <;> exact ⟨rfl, fun _ _ h => h, fun h => by cases h⟩
 ·rename_i j a k c
  cases hjk : decide (j = k) with
  | false => simp [hjk] at h
  | true =>
   simp [hjk] at h
   have := of_decide_eq_true hjk
   subst this; subst h
   cases b <;> exact ⟨rfl, fun _ _ h => h, fun h => by cases h⟩
 ·cases h; cases b <;> exact ⟨rfl, fun _ _ h => h, fun h => by cases h⟩
 ·split at h
  ·rename_i e _
   subst e
   cases h
   have key : ∀ (t : Tok) (u : U.C) (xs : List (U.D u)), SLe U (.isl t u xs) (.isl .none u xs) := fun t u xs => ⟨rfl, fun c v hr => by
    cases hr with
    | isl g hc ht ha hi hr => exact .isl g hc trivial ha hi hr, fun h => by cases h⟩
   cases b
   ·exact key _ _ _
   ·exact key _ _ _
  ·cases h
 ·rename_i s i off s' i' off'
  cases hb : Nat.beq s s' && Nat.beq off off' with
  | false => simp [hb] at h
  | true =>
   simp [hb] at h
   rw [Bool.and_eq_true] at hb
   have e1 := nbeq hb.1
   have e2 := nbeq hb.2
   subst e1; subst e2; subst h
   cases b <;> exact ⟨rfl, fun _ _ h => h, fun h => by cases h⟩
 ·rename_i s off m n i k s' off' m' n' i' k'
  cases hb : Nat.beq s s' && Nat.beq off off' && Nat.beq m m' && Nat.beq n n' && Nat.beq k k' with
  | false => simp [hb] at h
  | true =>
   simp [hb] at h
   simp only [Bool.and_eq_true] at hb
   obtain ⟨⟨⟨⟨e1, e2⟩, e3⟩, e4⟩, e5⟩ := hb
   have e1 := nbeq e1
   have e2 := nbeq e2
   have e3 := nbeq e3
   have e4 := nbeq e4
   have e5 := nbeq e5
   subst e1; subst e2; subst e3; subst e4; subst e5; subst h
   cases b <;> exact ⟨rfl, fun _ _ h => h, fun h => by cases h⟩
 ·cases h; cases b <;> exact ⟨rfl, fun _ _ h => h, fun _ => rfl⟩
 ·rename_i s s'
  cases hb : Nat.beq s s' with
  | false => simp [hb] at h
  | true =>
   simp [hb] at h
   have e1 := nbeq hb
   subst e1; subst h
   cases b <;> exact ⟨rfl, fun _ _ h => h, fun _ => rfl⟩
 ·rename_i f x f' x'
  cases hb : Nat.beq f f' with
  | false => simp [hb] at h
  | true =>
   simp [hb] at h
   have e1 := nbeq hb
   subst e1; subst h
   cases b <;> exact ⟨rfl, fun _ _ h => h, fun h => by cases h⟩
 ·cases h
theorem Z4s {b : Bool} : ∀ (l r m : List U.S), Z2L b l r = some m → m.length = (bif b then l else r).length ∧ ∀ (k : Nat) z, m[k]? = some z → ∃ x, (bif b then l else r)[k]? = some x ∧ SLe U x z
 | [], [], m, h => by
  simp [Z2L] at h; subst h
  cases b <;> exact ⟨rfl, fun k z hk => by simp at hk⟩
 | x :: l, y :: r, m, h => by
  unfold Z2L at h
  split at h
  ·rename_i z m' hz hm
   cases h
   have h1 := Z8s hz
   obtain ⟨h2, h3⟩ := Z4s l r m' hm
   cases b
   ·refine ⟨by simpa using h2, fun k z' hk => ?_⟩
    cases k with
    | zero => simp at hk; subst hk; exact ⟨y, rfl, h1⟩
    | succ k => simp at hk; simpa using h3 k z' hk
   ·refine ⟨by simpa using h2, fun k z' hk => ?_⟩
    cases k with
    | zero => simp at hk; subst hk; exact ⟨x, rfl, h1⟩
    | succ k => simp at hk; simpa using h3 k z' hk
  ·cases h
 | [], y :: r, m, h => by cases h
 | x :: l, [], m, h => by cases h
theorem RL.le {c : Cx} {l m : List U.S} {vs : List Value} (hl : RL U c l vs) (hlen : m.length = l.length) (h : ∀ (k : Nat) z, m[k]? = some z → ∃ x, l[k]? = some x ∧ SLe U x z) : RL U c m vs :=
 ⟨by rw [hlen]; exact hl.len, fun k z hk => let ⟨x, h1, h2⟩ := h k z hk; let ⟨v, h3, h4⟩ := hl.at_ k x h1; ⟨v, h3, h2.val _ _ h4⟩⟩
theorem Z8r {b : Bool} {x y z : V U} (h : Z6J b x y = some z) : ∀ c u, RV U c (bif b then x else y) u → RV U c z u := by
 unfold Z6J at h
 split at h
 ·rename_i l hl
  cases hg : x.g == y.g with
  | false => simp [hg] at h
  | true =>
   simp [hg] at h
   subst h
   have hg' : x.g = y.g := by simpa using hg
   obtain ⟨h1, h2⟩ := Z4s _ _ _ hl
   intro c u hr
   have key : ∀ q : V U, q.g = y.g → l.length = q.l.length → (∀ (k : Nat) z, l[k]? = some z → ∃ x, q.l[k]? = some x ∧ SLe U x z) → RV U c q u → RV U c ⟨y.g, l⟩ u := by
    intro q hq hlen hz hr
    obtain ⟨qg, ql⟩ := q
    simp only at hq hlen hz
    subst hq
    cases hyg : y.g with
    | true =>
     rw [hyg] at hr
     obtain ⟨cs, h3, h4⟩ := hr
     exact ⟨cs, h3, h4.le hlen hz⟩
    | false =>
     rw [hyg] at hr
     match ql, hr with
     | [w], hr =>
      match l, hlen with
      | [z], _ =>
       obtain ⟨x', h3, h4⟩ := hz 0 z rfl
       simp at h3; subst h3
       exact h4.val _ _ hr
   cases b
   ·exact key y rfl h1 h2 hr
   ·exact key x hg' h1 h2 hr
 ·cases h
theorem EntLe.obj {l m : List U.S} (hlen : m.length = l.length) (h : ∀ (k : Nat) z, m[k]? = some z → ∃ x, l[k]? = some x ∧ SLe U x z) : EntLe U (.obj l) (.obj m) := by
 rintro c w s F ⟨b, o, G, h0, h1, h2, h3⟩
 exact ⟨b, o, G, h0, h1, h2.le hlen h, by rw [hlen]; exact h3⟩
theorem Z8M {b : Bool} {x y z : Ent U} (h : Z6W b x y = some z) : EntLe U (bif b then x else y) z := by
 unfold Z6W at h
 split at h
 ·rename_i l r
  cases hm : Z2L b l r with
  | none => simp [hm] at h
  | some m =>
   simp [hm] at h; subst h
   obtain ⟨h1, h2⟩ := Z4s _ _ _ hm
   cases b
   ·exact EntLe.obj h1 h2
   ·exact EntLe.obj h1 h2
 ·rename_i c u n f d v m g
  split at h
  ·rename_i e _
   subst e
   cases hc : c == d && Nat.beq n m with
   | false => simp [hc] at h
   | true =>
    simp [hc] at h
    rw [Bool.and_eq_true] at hc
    have e1 : c = d := by simpa using hc.1
    have e2 := nbeq hc.2
    subst e1; subst e2; subst h
    cases b <;> exact fun _ _ _ _ h => h
  ·cases h
 ·cases h; cases b <;> exact fun _ _ _ _ h => h
 ·cases h
theorem Z1Y {b : Bool} {x y : Env U} : ∀ (l : List Nat) (t : Nat) (v : A U), get (Z29 b x y l) t = some v → ∃ v', get (bif b then x else y) t = some v' ∧ ∀ c u, RA U c v' u → RA U c v u
 | [], t, v, h => by cases h
 | s :: l, t, v, h => by
  unfold Z29 at h
  split at h
  ·rename_i a c ha hc
   split at h
   ·rename_i z hz
    rw [Z5] at h
    by_cases e : s = t
    ·subst e; simp at h; subst h
     have := Z8r hz
     cases b
     ·exact ⟨_, hc, this⟩
     ·exact ⟨_, ha, this⟩
    ·rw [if_neg e] at h; exact Z1Y l t v h
   ·exact Z1Y l t v h
  ·exact Z1Y l t v h
theorem Z1D {b : Bool} {x y : Heap U} : ∀ (l : List Nat) (t : Nat) (v : Ent U), get (Z1Q b x y l) t = some v → ∃ v', get (bif b then x else y) t = some v' ∧ EntLe U v' v
 | [], t, v, h => by cases h
 | s :: l, t, v, h => by
  unfold Z1Q at h
  split at h
  ·rename_i a c ha hc
   split at h
   ·rename_i z hz
    rw [Z5] at h
    by_cases e : s = t
    ·subst e; simp at h; subst h
     have := Z8M hz
     cases b
     ·exact ⟨_, hc, this⟩
     ·exact ⟨_, ha, this⟩
    ·rw [if_neg e] at h; exact Z1D l t v h
   ·exact Z1D l t v h
  ·exact Z1D l t v h
theorem Z5E {b : Bool} {l : Live} {x y z : St U} (h : Z4A b l x y = some z) : Imp U (bif b then x else y) z := by
 unfold Z4A at h
 cases hn : Nat.beq x.n y.n with
 | false => simp [hn] at h
 | true =>
  simp [hn] at h
  have hn := nbeq hn
  subst h
  refine Imp.of ?_ (fun t v hv => ?_) (fun s e hs => ?_) ?_
  ·cases b
   ·rfl
   ·exact hn
  ·have := Z1Y _ _ _ hv
   cases b <;> exact this
  ·have := Z1D _ _ _ hs
   cases b <;> exact this
  ·cases hb : Nat.ble x.nx y.nx with
   | true =>
    have := Nat.le_of_ble_eq_true hb
    cases b
    ·exact Nat.le_refl _
    ·exact this
   | false =>
    have : ¬ x.nx ≤ y.nx := fun h => by rw [Nat.ble_eq_true_of_le h] at hb; cases hb
    cases b
    ·simp only [cond_false]; omega
    ·exact Nat.le_refl _
end Go.Rf
namespace Go.Rf
set_option linter.unusedVariables false
set_option linter.unusedSimpArgs false
variable {U : Univ} {P : Program}
def Z1X : U.S → Bool
 | .val _ => true
 | .isl .none _ _ => true
 | .isl .full _ _ => true
 | .iptr _ _ _ => true
 | .optr _ _ => true
 | .hole => true
 | .box _ _ => true
 | .row _ _ => true
 | .olist _ _ => true
 | .aarr _ _ _ => true
 | .ref _ _ => true
 | .mref _ _ => true
 | _ => false
def Univ.Pure (U : Univ) : Prop := ∀ u x, (U.enc u x).all Z1X = true
theorem R.pure (hP : U.Pure) (hU : U.Ok) {c d : Cx} (hI : Cx.LeI U c d) {x : U.S} {v : Value} (hr : R U c x v) : Z1X x = true → R U d x v := by
 have cellp : ∀ (u : U.C) (y : U.D u) k, k < U.size u → Z1X ((U.enc u y).getD k .hole) = true := fun u y k hk => by
  have h1 := hP u y
  rw [List.all_eq_true] at h1
  have hlt : k < (U.enc u y).length := by rw [hU.enc_len]; exact hk
  rw [getD_of_getElem? (List.getElem?_eq_getElem hlt)]
  exact h1 _ (List.getElem_mem hlt)
 induction hr with
 | val hv => exact fun _ => .val hv
 | ptr h1 => exact fun h => by cases h
 | @isl t u xs a cap b o g hc ht ha hi hr ih =>
  intro hp
  refine .isl g hc ?_ ha (fun i k h1 h2 => hI.I _ _ _ (hi i k h1 h2)) fun i k h1 h2 => ih i k h1 h2 (cellp u _ k h2)
  cases t with
  | none => trivial
  | full => exact ht
  | own k => cases hp
 | @iptr u x off b o g hi hr ih => exact fun _ => .iptr g (fun k h1 => hI.I _ _ _ (hi k h1)) fun k h1 => ih k h1 (cellp u x k h1)
 | onil => exact fun _ => .onil
 | @osome u x b o g hi hr ih => exact fun _ => .osome g (fun k h1 => hI.I _ _ _ (hi k h1)) fun k h1 => ih k h1 (cellp u x k h1)
 | sl => exact fun h => by cases h
 | aptr => exact fun h => by cases h
 | asl => exact fun h => by cases h
 | rnil => exact fun _ => .rnil
 | rsome hf h1 => exact fun _ => .rsome hf (hI.F _ _ _ hf h1)
 | mnil => exact fun _ => .mnil
 | msome hf h1 => exact fun _ => .msome hf (hI.F _ _ _ hf h1)
 | clo => exact fun h => by cases h
theorem Z9c {c : Cx} {f : Nat} {y : U.S} {t : Option Nat} {v : Value} (hd : asRef f y = some t) (hr : R U c y v) : R U c (.ref f t) v := by
 unfold asRef at hd
 split at hd
 ·rename_i g y
  cases hb : Nat.beq g f with
  | false => rw [hb] at hd; cases hd
  | true =>
   rw [hb] at hd; cases hd
   rw [← nbeq hb]; exact hr
 ·rename_i g i off
  cases hb : Nat.beq g f && Nat.beq off 0 && Nat.blt f U.nf with
  | false => rw [hb] at hd; cases hd
  | true =>
   rw [hb] at hd; cases hd
   simp only [Bool.and_eq_true] at hb
   have e1 := nbeq hb.1.1
   have e2 := nbeq hb.1.2
   subst e1; subst e2
   cases hr with
   | ptr h0 => exact .rsome (Nat.le_of_ble_eq_true hb.2) h0
 ·cases hd
  cases R.valEq hr
  exact .rnil
 ·cases hd
theorem Z8z {c : Cx} {f : Nat} {y : U.S} {t : Option Nat} {v : Value} (hd : Z74 f y = some t) (hr : R U c y v) : R U c (.mref f t) v := by
 unfold Z74 at hd
 split at hd
 ·rename_i g y
  cases hb : Nat.beq g f with
  | false => rw [hb] at hd; cases hd
  | true =>
   rw [hb] at hd; cases hd
   rw [← nbeq hb]; exact hr
 ·cases hd
  cases R.valEq hr
  exact .mnil
 ·cases hd
theorem Z8u {c : Cx} {u : U.C} {y : U.S} {t : Option (U.D u)} {v : Value} (hd : Z78 u y = some t) (hr : R U c y v) : R U c (.optr u t) v := by
 unfold Z78 at hd
 split at hd
 ·split at hd
  ·rename_i e _; subst e; cases hd; exact hr
  ·cases hd
 ·rename_i v' y' off
  split at hd
  ·rename_i e _
   subst e
   cases ho : Nat.beq off 0 with
   | false => simp [ho] at hd
   | true =>
    simp [ho] at hd
    have := nbeq ho
    subst this; subst hd
    cases hr with
    | iptr g hi hr => exact R.osome g hi hr
  ·cases hd
 ·cases hd
  cases R.valEq hr
  exact .onil
 ·cases hd
theorem Z68 (hP : U.Pure) (hU : U.Ok) {c d : Cx} (hI : Cx.LeI U c d) {s : Sh U.C} {x : V U} {t : s.T U} {v : Value} (hd : decV s x = some t) (hs : s.isPtr = false) (hs2 : s.isElem = false) (hr : RV U c x v) (p : Nat) :
  RV U d (encV s t p) v := by
 unfold decV at hd
 split at hd
 ·rename_i k j n
  cases hb : decide (j = k) with
  | false => simp [hb] at hd
  | true =>
   simp [hb] at hd
   subst hd
   have := of_decide_eq_true hb
   subst this
   exact (show R U c (.val (.int j _)) v from hr).pure hP hU hI rfl
 ·cases hd; exact (show R U c (.val _) v from hr).pure hP hU hI rfl
 ·cases hd; exact (show R U c (.val _) v from hr).pure hP hU hI rfl
 ·rename_i u y
  split at hd
  ·rename_i tk xs hx
   cases hd
   obtain ⟨a, cap, b, o, g, rfl, hc, hT, ha, hi, hrr⟩ := (Z1T hx (show R U c y v from hr)).ex
   have h1 : R U c (.isl .none u t) (.slice a t.length cap) := R.isl g hc trivial ha hi hrr
   exact h1.pure hP hU hI rfl
  ·cases hd
 ·rename_i u l
  obtain ⟨cs, rfl, hl⟩ := (show ∃ cs : Array Value, v = .agg cs ∧ RL U c l cs.toList from hr)
  have h1 := hU.dec_le u l t hd c _ hl
  have h2 := hP u t
  rw [List.all_eq_true] at h2
  exact ⟨cs, rfl, h1.len, fun k x hk => let ⟨v, h3, h4⟩ := h1.at_ k x hk; ⟨v, h3, h4.pure hP hU hI (h2 _ (List.mem_of_getElem? hk))⟩⟩
 ·cases hs
 ·cases hs
 ·rename_i u v' x' off
  split at hd
  ·rename_i e _
   subst e
   cases ho : Nat.beq off 0 with
   | false => simp [ho] at hd
   | true =>
    simp [ho] at hd
    have := nbeq ho
    subst this; subst hd
    exact (show R U c (.iptr _ _ 0) v from hr).pure hP hU hI rfl
  ·cases hd
 ·rename_i u y
  exact (Z8u hd (show R U c y v from hr)).pure hP hU hI rfl
 ·cases hs
 ·exact (Z9c hd (show R U c _ v from hr)).pure hP hU hI rfl
 ·exact (Z8z hd (show R U c _ v from hr)).pure hP hU hI rfl
 ·cases hs2
 ·cases hs
 ·cases hd; exact (show R U c (.val _) v from hr).pure hP hU hI rfl
 ·cases hd; exact (show R U c (.val _) v from hr).pure hP hU hI rfl
 ·cases hd
structure Base (U : Univ) where
 c : Cx
 Φ : Nat → Nat → Nat → Prop
 h : Heap U
 nx : Nat
 ro : Nat
 w : World
 new : ∀ s, nx ≤ s → ∀ k, c.L s k = none
 rw : ro ≤ nx
def Base.At (B : Base U) (st : St U) (a : Act) (w : World) : Prop :=
 ∃ c Φ, B.nx ≤ st.nx ∧ SOK U c Φ st a w ∧ Ext U B.ro B.c B.Φ B.h B.nx B.w c Φ st.h w
theorem Z8p (hU : U.Ok) {u : U.C} {cells : List U.S} {y : U.D u} (hd : U.dec u cells = some y) : EntLe U (.obj cells) (.obj (U.enc u y)) := by
 rintro c w s F ⟨b, o, G, h0, h1, h2, h3⟩
 have hl : (U.enc u y).length = cells.length := by rw [hU.enc_len, hU.dec_len _ _ _ hd]
 exact ⟨b, o, G, h0, h1, h2.dec hU hd, by rw [hl]; exact h3⟩
theorem Z8f (hU : U.Ok) {u : U.C} {n : Nat} {f : Nat → U.D u} (hpl : U.plain u = true) : EntLe U (.fam true u n f) (.famz u n 0 f) := by
 rintro c w s F ⟨A, G, h0, h1, h2, h3, h4, h5⟩
 have hcl : ∀ i, (U.enc u (f i)).all Zf = true := fun i => hU.enc_cell _ _ hpl
 have key : ∀ i k x, i < n → (U.enc u (f i))[k]? = some x → (∃ v, w.cell? (at_ (A i).1 ((A i).2 + k)) = some v ∧ R U c x v) ∧ w.frozen? (at_ (A i).1 ((A i).2 + k)) = false ∧ ∀ b' o', G i k b' o' ↔ (b' = (A i).1 ∧ o' = (A i).2 + k) := fun i k x hi hx => by
  have := hcl i
  rw [List.all_eq_true] at this
  exact (h2 i hi).cell hx (this _ (List.mem_of_getElem? hx))
 refine ⟨A, h0, h1, h5 rfl, hpl, fun i k x hi hz => by omega, fun i k x hi _ hx => ?_, fun b o => ?_⟩
 ·obtain ⟨⟨v, p1, p2⟩, p3, _⟩ := key i k x hi hx
  exact ⟨v, p1, p2, p3⟩
 ·rw [h4]
  constructor
  ·rintro ⟨i, k, hi, hk, hg⟩
   obtain ⟨_, _, p⟩ := key i k _ hi (List.getElem?_eq_getElem (by rw [hU.enc_len]; exact hk))
   obtain ⟨p1, p2⟩ := (p _ _).1 hg
   exact ⟨i, k, hi, Nat.zero_le _, hk, p1, p2⟩
  ·rintro ⟨i, k, hi, _, hk, p1, p2⟩
   obtain ⟨_, _, p⟩ := key i k _ hi (List.getElem?_eq_getElem (by rw [hU.enc_len]; exact hk))
   exact ⟨i, k, hi, hk, (p _ _).2 ⟨p1, p2⟩⟩
theorem Z8b (hU : U.Ok) {ct : Bool} {u : U.C} {f : Nat → U.D u} : EntLe U (.fam ct u 1 f) (.obj (U.enc u (f 0))) := by
 rintro c w s F ⟨A, G, h0, h1, h2, h3, h4, h5⟩
 refine ⟨(A 0).1, (A 0).2, G 0, h0 0 (by omega), fun i x hx => by have := h1 i x hx; omega, h2 0 (by omega), fun b' o' => ?_⟩
 rw [h4, hU.enc_len]
 constructor
 ·rintro ⟨i, k, hi, hk, hf⟩
  have : i = 0 := by omega
  subst this
  exact ⟨k, hk, hf⟩
 ·rintro ⟨k, hk, hf⟩; exact ⟨0, k, by omega, hk, hf⟩
theorem Z46 {base nx : Nat} {m : List (Nat × Nat)} (h : Z3N base nx m = true) {s t : Nat} (hm : (s, t) ∈ m) :
  s < nx ∧ (s < base ↔ t < base) ∧ (s < base → s = t) ∧ ∀ s' t', (s', t') ∈ m → (s = s' ↔ t = t') := by
 unfold Z3N at h
 rw [List.all_eq_true] at h
 have h1 := h _ hm
 simp only [Bool.and_eq_true] at h1
 obtain ⟨⟨⟨h2, h3⟩, h4⟩, h5⟩ := h1
 have blt : ∀ a b, Nat.blt a b = true ↔ a < b := fun a b => by unfold Nat.blt; exact ⟨fun h => Nat.le_of_ble_eq_true h, fun h => Nat.ble_eq_true_of_le h⟩
 have same : ∀ {a b : Bool}, Z1H a b = true → a = b := fun {a b} h => by cases a <;> cases b <;> simp_all [Z1H]
 refine ⟨(blt _ _).1 h2, ?_, fun hs => ?_, fun s' t' hm' => ?_⟩
 ·have := same h3
  rw [← blt, ← blt, this]
 ·have hb := (blt s base).2 hs
  rw [hb] at h4
  exact nbeq h4
 ·rw [List.all_eq_true] at h5
  have := same (h5 _ hm')
  simp only at this
  constructor
  ·intro e; subst e; simp at this; exact this
  ·intro e; subst e; simp at this; exact this
theorem Z5w {α : Type} {l : List (Nat × α)} {t : Nat} {v : α} (h : get l t = some v) : (t, v) ∈ l := by
 induction l with
 | nil => cases h
 | cons p l ih =>
  obtain ⟨k, u⟩ := p
  rw [Z5] at h
  by_cases e : k = t
  ·subst e; simp at h; subst h; exact List.mem_cons_self ..
  ·rw [if_neg e] at h; exact List.mem_cons_of_mem _ (ih h)
theorem Z9q {a b : Nat} (h : a < b) : Nat.blt a b = true := Nat.ble_eq_true_of_le h
theorem Z6o {a b : Nat} (h : ¬ a < b) : Nat.blt a b = false := by
 cases hb : Nat.blt a b with
 | false => rfl
 | true => exact absurd (Nat.le_of_ble_eq_true hb) h
theorem Z1U {base : Nat} {m : List (Nat × Nat)} {s : Nat} (h : s < base) : ren m base s = some s := by unfold ren; rw [Z9q h]; rfl
theorem Z3f {base nx : Nat} {m : List (Nat × Nat)} (hm : Z3N base nx m = true) {s t : Nat} (h : ¬ s < base) (hr : ren m base s = some t) : ¬ t < base ∧ s < nx ∧ (s, t) ∈ m := by
 unfold ren at hr
 rw [Z6o h] at hr
 have := Z5w hr
 obtain ⟨h1, h2, _⟩ := Z46 hm this
 exact ⟨fun h' => h (h2.2 h'), h1, this⟩
theorem ren_mem {base nx : Nat} {m : List (Nat × Nat)} (hm : Z3N base nx m = true) {s t : Nat} (h : (s, t) ∈ m) : ren m base s = some t := by
 obtain ⟨h1, h2, h3, h4⟩ := Z46 hm h
 by_cases hs : s < base
 ·rw [Z1U hs, h3 hs]
 ·unfold ren
  rw [Z6o hs]
  have : (get m s).isSome := Z1c (List.mem_map.2 ⟨_, h, rfl⟩)
  obtain ⟨t', ht⟩ := Option.isSome_iff_exists.1 this
  have := (h4 s t' (Z5w ht)).1 rfl
  subst this
  exact ht
theorem ren_inj {base nx : Nat} {m : List (Nat × Nat)} (hm : Z3N base nx m = true) {s s' t : Nat} (h : ren m base s = some t) (h' : ren m base s' = some t) : s = s' := by
 by_cases hs : s < base
 ·rw [Z1U hs] at h; cases h
  by_cases hs' : s' < base
  ·rw [Z1U hs'] at h'; cases h'; rfl
  ·exact absurd hs (Z3f hm hs' h').1
 ·by_cases hs' : s' < base
  ·rw [Z1U hs'] at h'; cases h'
   exact absurd hs' (Z3f hm hs h).1
  ·exact ((Z46 hm (Z3f hm hs h).2.2).2.2.2 _ _ (Z3f hm hs' h').2.2).2 rfl
def Cx.ren (c : Cx) (m : List (Nat × Nat)) (base : Nat) : Cx := { L := fun s i => (Rf.ren m base s).bind fun t => c.L t i, I := c.I }
section
variable {c : Cx} {m : List (Nat × Nat)} {base nx : Nat}
theorem Cx.ren_L {s t : Nat} (h : Rf.ren m base s = some t) (i : Nat) : (c.ren m base).L s i = c.L t i := by simp [Cx.ren, h]
theorem Z4r (hU : U.Ok) (hP : U.Pure) (u : U.C) (y : U.D u) (k : Nat) (hk : k < U.size u) : Z1X ((U.enc u y).getD k .hole) = true := by
 have h1 := hP u y
 rw [List.all_eq_true] at h1
 have hlt : k < (U.enc u y).length := by rw [hU.enc_len]; exact hk
 rw [getD_of_getElem? (List.getElem?_eq_getElem hlt)]
 exact h1 _ (List.getElem_mem hlt)
theorem Cx.ren_leI (hnf : U.nf ≤ base) : Cx.LeI U c (c.ren m base) := ⟨fun _ _ _ h => h, fun f i x hf hx => by rw [Cx.ren_L (Z1U (Nat.lt_of_lt_of_le hf hnf))]; exact hx⟩
theorem Z7Q (hU : U.Ok) (hP : U.Pure) (hnf : U.nf ≤ base) {t t' : Tok} {u : U.C} {xs : List (U.D u)} {v : Value} (h : R U c (.isl t u xs) v) (ht : ∀ a b o n cap sz, TokOK c t a b o n cap sz → TokOK (c.ren m base) t' a b o n cap sz) : R U (c.ren m base) (.isl t' u xs) v := by
 cases h with
 | isl g hc hT ha hi hr => exact R.isl g hc (ht _ _ _ _ _ _ hT) ha hi fun i k h1 h2 => R.pure (c := c) (d := c.ren m base) hP hU (Cx.ren_leI hnf) (hr i k h1 h2) (Z4r hU hP u _ k h2)
theorem Z73 : ∀ {ps ps' : List (Nat × Nat × Nat)} {l : List (Nat × Nat)}, zipPs ps ps' = some l → ps'.length = ps.length ∧ ∀ (k : Nat) p, ps[k]? = some p → ∃ s', ps'[k]? = some (s', p.2) ∧ (p.1, s') ∈ l
 | [], [], l, h => by cases h; exact ⟨rfl, fun k p hk => by simp at hk⟩
 | (s, i, off) :: r, (s', i', off') :: r', l, h => by
  unfold zipPs at h
  cases hb : Nat.beq i i' && Nat.beq off off' with
  | false => simp [hb] at h
  | true =>
   simp only [hb, cond_true] at h
   rw [Bool.and_eq_true] at hb
   have e2 := nbeq hb.1
   have e3 := nbeq hb.2
   subst e2; subst e3
   split at h
   ·rename_i l' hl
    cases h
    obtain ⟨h1, h2⟩ := Z73 hl
    refine ⟨by simp [h1], fun k p hk => ?_⟩
    cases k with
    | zero => simp at hk; subst hk; exact ⟨s', rfl, List.mem_cons_self ..⟩
    | succ k =>
     simp at hk
     obtain ⟨s2, h3, h4⟩ := h2 k p hk
     exact ⟨s2, by simpa using h3, List.mem_cons_of_mem _ h4⟩
   ·cases h
 | [], _ :: _, l, h => by cases h
 | _ :: _, [], l, h => by cases h
theorem Z9o {ps ps' : List (Nat × Nat × Nat)} {l : List (Nat × Nat)} {f : Nat} {vs : Array Value} (hz : zipPs ps ps' = some l) (hr : ∀ q ∈ l, Rf.ren m base q.1 = some q.2) (hn : vs.size = ps'.length)
  (hp : ∀ (k : Nat) p, ps'[k]? = some p → ∃ b o, c.L p.1 p.2.1 = some (b, o) ∧ vs[k]? = some (.pointer (some (at_ b (o + p.2.2))))) : R U (c.ren m base) (.clo f ps) (.func (.func f) #[] vs) := by
 obtain ⟨h1, h2⟩ := Z73 hz
 refine R.clo (by rw [hn, h1]) fun k p hk => ?_
 obtain ⟨s', h3, h4⟩ := h2 k p hk
 obtain ⟨b, o, h5, h6⟩ := hp k _ h3
 exact ⟨b, o, by rw [Cx.ren_L (hr _ h4)]; exact h5, h6⟩
theorem ZJ (hU : U.Ok) (hP : U.Pure) (hnf : U.nf ≤ base) : ∀ (l : List (Nat × JV U.C)) (env : Env U) (x : JVs U l) (m0 : List (Nat × Nat)), ZA l env = some x → ZF l env = some m0 → (∀ q ∈ m0, Rf.ren m base q.1 = some q.2) →
  ∀ t v, get (Zp l x) t = some v → ∃ v', get env t = some v' ∧ ∀ u, RA U c v' u → RA U (c.ren m base) v u
 | [], env, x, m0, h, hm, hr, t, v, hg => by cases hg
 | (s, .val sh) :: r, env, x, m0, h, hm, hr, t, v, hg => by
  unfold ZA at h
  split at h
  ·rename_i y ys h1 h2
   cases hp : sh.isPtr || sh.isElem with
   | true => simp [hp] at h
   | false =>
    simp only [hp, cond_false] at h
    rw [Bool.or_eq_false_iff] at hp
    split at h
    ·rename_i z hz
     cases h
     unfold Zp at hg
     rw [Z5] at hg
     by_cases e : s = t
     ·subst e
      rw [if_pos rfl] at hg; cases hg
      exact ⟨_, h1, fun u hr => Z68 (c := c) (d := c.ren m base) hP hU (Cx.ren_leI hnf) hz hp.1 hp.2 hr 0⟩
     ·rw [if_neg e] at hg
      exact ZJ hU hP hnf r env ys m0 h2 hm hr t v hg
    ·cases h
  ·cases h
 | (s, .ptr a i off) :: r, env, x, m0, h, hm, hr, t, v, hg => by
  unfold ZF at hm
  split at hm
  ·rename_i a' i' off' l h1 h2
   cases hb : Nat.beq i i' && Nat.beq off off' with
   | false => simp [hb] at hm
   | true =>
    simp only [hb, cond_true] at hm
    rw [Bool.and_eq_true] at hb
    have e2 := nbeq hb.1
    have e3 := nbeq hb.2
    subst e2; subst e3
    cases hm
    unfold Zp at hg
    rw [Z5] at hg
    by_cases e : s = t
    ·subst e
     rw [if_pos rfl] at hg; cases hg
     refine ⟨_, h1, fun u hu => ?_⟩
     have hra := hr (a, a') (List.mem_cons_self ..)
     cases (show R U c (.ptr a' i off) u from hu) with
     | ptr h0 => exact R.ptr (by rw [Cx.ren_L hra]; exact h0)
    ·rw [if_neg e] at hg
     exact ZJ hU hP hnf r env x l h h2 (fun q hq => hr q (List.mem_cons_of_mem _ hq)) t v hg
  ·cases hm
 | (s, .nilp) :: r, env, x, m0, h, hm, hr, t, v, hg => by
  unfold ZA at h
  split at h
  ·rename_i h1
   unfold Zp at hg
   rw [Z5] at hg
   by_cases e : s = t
   ·subst e
    rw [if_pos rfl] at hg; cases hg
    refine ⟨_, h1, fun u hu => ?_⟩
    cases R.valEq (show R U c (.val (.pointer none)) u from hu)
    exact R.val rfl
   ·rw [if_neg e] at hg
    exact ZJ hU hP hnf r env x m0 h hm hr t v hg
  ·cases h
 | (s, .own u k) :: r, env, x, m0, h, hm, hr, t, v, hg => by
  unfold ZA at h
  split at h
  ·rename_i k' v' xs ys h1 h2
   unfold ZF at hm
   rw [h1] at hm
   split at hm
   ·rename_i k2 _ _ l he h3
    cases hm
    cases he
    split at h
    ·rename_i e' _
     subst e'
     cases h
     unfold Zp at hg
     rw [Z5] at hg
     by_cases e : s = t
     ·subst e
      rw [if_pos rfl] at hg; cases hg
      have hra := hr (k, _) (List.mem_cons_self ..)
      refine ⟨_, h1, fun w hu => Z7Q hU hP hnf (show R U c (.isl _ _ _) w from hu) fun a b o n cap sz ⟨b', o', e, h4, h5, h6⟩ => ⟨b', o', e, ?_, ?_, h6⟩⟩
      ·rw [Cx.ren_L hra]; exact h4
      ·rw [Cx.ren_L hra]; exact h5
     ·rw [if_neg e] at hg
      exact ZJ hU hP hnf r env ys l h2 h3 (fun q hq => hr q (List.mem_cons_of_mem _ hq)) t v hg
    ·cases h
   ·cases hm
  ·cases h
 | (s, .full u) :: r, env, x, m0, h, hm, hr, t, v, hg => by
  unfold ZA at h
  split at h
  ·rename_i y ys h1 h2
   split at h
   ·rename_i xs hx
    cases h
    unfold Zp at hg
    rw [Z5] at hg
    by_cases e : s = t
    ·subst e
     rw [if_pos rfl] at hg; cases hg
     refine ⟨_, h1, fun w hu => ?_⟩
     obtain ⟨a, cap, b, o, g, rfl, hc, hT, ha, hi, hrr⟩ := (Z1T hx (show R U c y w from hu)).ex
     exact Z7Q (c := c) hU hP hnf (R.isl (t := .full) g hc hT ha hi hrr) fun _ _ _ _ _ _ h => h
    ·rw [if_neg e] at hg
     exact ZJ hU hP hnf r env ys m0 h2 hm hr t v hg
   ·cases h
  ·cases h
 | (s, .aptr a off m n k) :: r, env, x, m0, h, hm, hr, t, v, hg => by
  unfold ZA at h
  split at h
  ·rename_i a1 off1 m1 n1 i1 k1 ys h1 h2
   cases h
   unfold ZF at hm
   rw [h1] at hm
   split at hm
   ·rename_i a' off' m' n' i' k' l he h3
    cases he
    cases hb : Nat.beq off off1 && Nat.beq m m1 && Nat.beq n n1 && Nat.beq k k1 with
    | false => simp [hb] at hm
    | true =>
     simp only [hb, cond_true] at hm
     simp only [Bool.and_eq_true] at hb
     obtain ⟨⟨⟨e1, e2⟩, e3⟩, e4⟩ := hb
     have e1 := nbeq e1
     have e2 := nbeq e2
     have e3 := nbeq e3
     have e4 := nbeq e4
     subst e1; subst e2; subst e3; subst e4
     cases hm
     unfold Zp at hg
     rw [Z5] at hg
     by_cases e : s = t
     ·subst e
      rw [if_pos rfl] at hg; cases hg
      refine ⟨_, h1, fun u hu => ?_⟩
      have hra := hr (a, a1) (List.mem_cons_self ..)
      cases (show R U c (.aptr a1 off m n i1 k) u from hu) with
      | aptr hi h0 => exact R.aptr hi (by rw [Cx.ren_L hra]; exact h0)
     ·rw [if_neg e] at hg
      exact ZJ hU hP hnf r env ys l h2 h3 (fun q hq => hr q (List.mem_cons_of_mem _ hq)) t v hg
   ·cases hm
  ·cases h
 | (s, .asl a off m n) :: r, env, x, m0, h, hm, hr, t, v, hg => by
  unfold ZA at h
  split at h
  ·rename_i a1 off1 m1 n1 b1 l1 ys h1 h2
   cases h
   unfold ZF at hm
   rw [h1] at hm
   split at hm
   ·rename_i a' off' m' n' i' k' l he h3
    cases he
    cases hb : Nat.beq off off1 && Nat.beq m m1 && Nat.beq n n1 with
    | false => simp [hb] at hm
    | true =>
     simp only [hb, cond_true] at hm
     simp only [Bool.and_eq_true] at hb
     obtain ⟨⟨e1, e2⟩, e3⟩ := hb
     have e1 := nbeq e1
     have e2 := nbeq e2
     have e3 := nbeq e3
     subst e1; subst e2; subst e3
     cases hm
     unfold Zp at hg
     rw [Z5] at hg
     by_cases e : s = t
     ·subst e
      rw [if_pos rfl] at hg; cases hg
      refine ⟨_, h1, fun u hu => ?_⟩
      have hra := hr (a, a1) (List.mem_cons_self ..)
      cases (show R U c (.asl a1 off m n b1 l1) u from hu) with
      | asl hc hb h0 ha => exact R.asl hc hb (by rw [Cx.ren_L hra]; exact h0) ha
     ·rw [if_neg e] at hg
      exact ZJ hU hP hnf r env ys l h2 h3 (fun q hq => hr q (List.mem_cons_of_mem _ hq)) t v hg
   ·cases hm
  ·cases h
 | (s, .rsl a) :: r, env, x, m0, h, hm, hr, t, v, hg => by
  unfold ZA at h
  split at h
  ·rename_i a1 b1 l1 ys h1 h2
   cases h
   unfold ZF at hm
   rw [h1] at hm
   split at hm
   ·rename_i a' i' k' l he h3
    cases he
    cases hm
    unfold Zp at hg
    rw [Z5] at hg
    by_cases e : s = t
    ·subst e
     rw [if_pos rfl] at hg; cases hg
     refine ⟨_, h1, fun u hu => ?_⟩
     have hra := hr (a, a1) (List.mem_cons_self ..)
     cases (show R U c (.sl a1 b1 l1) u from hu) with
     | sl hc ha hl => exact R.sl hc (fun hn => by rw [Cx.ren_L hra]; exact ha hn) (fun j hj => by rw [Cx.ren_L hra]; exact hl j hj)
    ·rw [if_neg e] at hg
     exact ZJ hU hP hnf r env ys l h2 h3 (fun q hq => hr q (List.mem_cons_of_mem _ hq)) t v hg
   ·cases hm
  ·cases h
 | (s, .clo f ps) :: r, env, x, m0, h, hm, hr, t, v, hg => by
  unfold ZF at hm
  split at hm
  ·rename_i f' ps' l h1 h2
   cases hb : Nat.beq f f' with
   | false => simp [hb] at hm
   | true =>
    simp only [hb, cond_true] at hm
    have e2 := nbeq hb
    subst e2
    split at hm
    ·rename_i mm hz
     cases hm
     unfold Zp at hg
     rw [Z5] at hg
     by_cases e : s = t
     ·subst e
      rw [if_pos rfl] at hg; cases hg
      refine ⟨_, h1, fun u hu => ?_⟩
      cases (show R U c (.clo f ps') u from hu) with
      | clo hn hp => exact Z9o hz (fun q hq => hr q (List.mem_append_left _ hq)) hn hp
     ·rw [if_neg e] at hg
      exact ZJ hU hP hnf r env x l h h2 (fun q hq => hr q (List.mem_append_right _ hq)) t v hg
    ·cases hm
  ·cases hm
def pureE : Ent U → Prop
 | .obj cells => cells.all Z1X = true
 | _ => True
theorem Own.pure (hU : U.Ok) (hP : U.Pure) {c d : Cx} (hI : Cx.LeI U c d) {w : World} {b o : Nat} {x : U.S} {F : Nat → Nat → Prop} (h : Own U c w b o x F) : Z1X x = true → Own U d w b o x F := by
 have hp : ∀ (u : U.C) (y : U.D u) (k : Nat) z, (U.enc u y)[k]? = some z → Z1X z = true := fun u y k z hk => by
  have := hP u y
  rw [List.all_eq_true] at this
  exact this _ (List.mem_of_getElem? hk)
 have hpf : ∀ (u : U.C) (n : Nat) (f : Nat → U.D u) (k : Nat) z, (flat u n f)[k]? = some z → Z1X z = true := fun u n f k z hk => by
  obtain ⟨i, j, _, _, _, h⟩ := Z2C hU u n f hk
  exact hp u (f i) j z h
 induction h with
 | cell hr hc hf hF => intro hx; exact .cell (R.pure hP hU hI hr hx) hc hf hF
 | hole hF => intro _; exact .hole hF
 | arr hL hF => intro hx; cases hx
 | box0 hc hf hF => intro _; exact .box0 hc hf hF
 | box G hc hf hk hd h0 hF ih => intro _; exact .box G hc hf (fun k x hx => ih k x hx (hp _ _ k x hx)) hd h0 hF
 | row G hc hf hl ha hk hd hs h0 h1 hF ih => intro _; exact .row G hc hf hl ha (fun k x hx => ih k x hx (hpf _ _ _ k x hx)) hd hs h0 h1 hF
 | olist g hc hf hl ha hi hr hs h1 hF =>
  intro _
  refine .olist g hc hf hl ha (fun i k h2 h3 => hI.I _ _ _ (hi i k h2 h3)) (fun i k h2 h3 => R.pure hP hU hI (hr i k h2 h3) ?_) hs h1 hF
  exact Z4r hU hP _ _ _ h3
 | aarr G hk hd hF ih => intro _; exact .aarr G (fun k x hx => ih k x hx (hpf _ _ _ k x hx)) hd hF
theorem Pl.pure (hU : U.Ok) (hP : U.Pure) {c d : Cx} (hI : Cx.LeI U c d) {w : World} {b o : Nat} {l : List U.S} {G : Nat → Nat → Nat → Prop} (h : Pl U c w b o l G) (hp : l.all Z1X = true) : Pl U d w b o l G := by
 rw [List.all_eq_true] at hp
 exact ⟨fun k x hx => (h.own k x hx).pure hU hP hI (hp _ (List.mem_of_getElem? hx)), h.dis⟩
theorem RV.pure (hU : U.Ok) (hP : U.Pure) {c d : Cx} (hI : Cx.LeI U c d) {g : Bool} {u : U.C} {x : U.D u} {v : Value} (h : RV U c ⟨g, U.enc u x⟩ v) : RV U d ⟨g, U.enc u x⟩ v := by
 have h1 := hP u x
 rw [List.all_eq_true] at h1
 cases g with
 | true =>
  obtain ⟨cs, rfl, hl⟩ := h
  exact ⟨cs, rfl, hl.len, fun k y hk => let ⟨a, h3, h4⟩ := hl.at_ k y hk; ⟨a, h3, h4.pure hP hU hI (h1 _ (List.mem_of_getElem? hk))⟩⟩
 | false =>
  match hl : U.enc u x, h, h1 with
  | [y], h, h1 => exact (show R U c y v from h).pure hP hU hI (h1 y (by simp))
  | [], h, h1 => exact h.elim
  | a :: b :: r, h, h1 => exact h.elim
theorem MapRel.pure (hU : U.Ok) (hP : U.Pure) {c d : Cx} (hI : Cx.LeI U c d) {gk gv : Bool} {ku vu : U.C} {l : List (U.D ku × U.D vu)} {es : List MapEntry} (h : MapRel U c gk gv l es) : MapRel U d gk gv l es :=
 ⟨h.1, fun k p hk => let ⟨e, h1, h2, h3⟩ := h.2 k p hk; ⟨e, h1, RV.pure hU hP hI h2, RV.pure hU hP hI h3⟩⟩
theorem EntOK.ren (hU : U.Ok) (hP : U.Pure) (hnf : U.nf ≤ base) {w : World} {s t : Nat} {F : Nat → Nat → Prop} {e : Ent U} (h : EntOK c w t F e) (hr : Rf.ren m base s = some t) (hp : pureE e) : EntOK (c.ren m base) w s F e := by
 cases e with
 | obj cells =>
  have hp : cells.all Z1X = true := hp
  obtain ⟨b, o, G, h0, h1, h2, h3⟩ := h
  exact ⟨b, o, G, by rw [Cx.ren_L hr]; exact h0, fun i x hx => h1 i x (by rw [← Cx.ren_L hr]; exact hx), h2.pure (c := c) (d := c.ren m base) hU hP (Cx.ren_leI hnf) hp, h3⟩
 | fam ct u n f =>
  obtain ⟨A, G, h0, h1, h2, h3, h4, h5⟩ := h
  exact ⟨A, G, fun i hi => by rw [Cx.ren_L hr]; exact h0 i hi, fun i x hx => h1 i x (by rw [← Cx.ren_L hr]; exact hx), fun i hi => (h2 i hi).pure (c := c) (d := c.ren m base) hU hP (Cx.ren_leI hnf) (hP _ _), h3, h4, h5⟩
 | tok =>
  obtain ⟨b, o, e, h0, h1, h2, h3⟩ := h
  exact ⟨b, o, e, by rw [Cx.ren_L hr]; exact h0, by rw [Cx.ren_L hr]; exact h1, h2, h3⟩
 | dead => exact h
 | iter t pos =>
  obtain ⟨b, h0, h1, h2, h3⟩ := h
  exact ⟨b, by rw [Cx.ren_L hr]; exact h0, fun i x hx => h1 i x (by rw [← Cx.ren_L hr]; exact hx), h2, h3⟩
 | famz u n z f =>
  obtain ⟨A, h0, h1, h2, h3, h4, h5, h6⟩ := h
  have hpu : ∀ i k x, (U.enc u (f i))[k]? = some x → Z1X x = true := fun i k x hx => by
   have := hP u (f i)
   rw [List.all_eq_true] at this
   exact this _ (List.mem_of_getElem? hx)
  refine ⟨A, fun i hi => by rw [Cx.ren_L hr]; exact h0 i hi, fun i x hx => h1 i x (by rw [← Cx.ren_L hr]; exact hx), h2, h3, fun i k x hi hz hx => ?_, fun i k x hi hz hx => ?_, h6⟩
  ·obtain ⟨v, p1, p2⟩ := h4 i k x hi hz hx
   exact ⟨v, p1, R.pure (c := c) (d := c.ren m base) hP hU (Cx.ren_leI hnf) p2 (hpu i k x hx)⟩
  ·obtain ⟨v, p1, p2, p3⟩ := h5 i k x hi hz hx
   exact ⟨v, p1, R.pure (c := c) (d := c.ren m base) hP hU (Cx.ren_leI hnf) p2 (hpu i k x hx), p3⟩
 | mfam gk gv ku vu n g =>
  obtain ⟨A, h0, h1, h2, h3, h4⟩ := h
  refine ⟨A, fun i hi => by rw [Cx.ren_L hr]; exact h0 i hi, fun i x hx => h1 i x (by rw [← Cx.ren_L hr]; exact hx), fun i hi => ?_, h3, h4⟩
  obtain ⟨es, cl, q1, q2⟩ := h2 i hi
  exact ⟨es, cl, q1, MapRel.pure (c := c) (d := c.ren m base) hU hP (Cx.ren_leI hnf) q2⟩
theorem ZL (hU : U.Ok) (hP : U.Pure) : ∀ (l : List (Nat × JH U.C)) (h : Heap U) (x : JHs U l), ZD base m l h = some x → ∀ s e, get (Zu l x) s = some e → ∃ t e', Rf.ren m base s = some t ∧ get h t = some e' ∧ EntLe U e' e ∧ pureE e ∧ s ∈ l.map (·.1)
 | [], h, x, hd, t, e, hg => by cases hg
 | (s, .obj u) :: r, h, x, hd, t, e, hg => by
  have step : ∀ ys, ZD base m r h = some ys → get (Zu r ys) t = some e → ∃ t' e', Rf.ren m base t = some t' ∧ get h t' = some e' ∧ EntLe U e' e ∧ pureE e ∧ t ∈ ((s, JH.obj u) :: r).map (·.1) := fun ys h2 hg => by
   obtain ⟨t', e', h3, h4, h5, h6, h7⟩ := ZL hU hP r h ys h2 t e hg
   exact ⟨t', e', h3, h4, h5, h6, List.mem_cons_of_mem _ h7⟩
  unfold ZD at hd
  split at hd
  ·rename_i cells ys h1 h2
   split at hd
   ·rename_i y hy
    cases hd
    unfold Zu at hg
    rw [Z5] at hg
    by_cases e' : s = t
    ·subst e'
     rw [if_pos rfl] at hg; cases hg
     rw [Option.bind_eq_some_iff] at h1
     obtain ⟨t', h3, h4⟩ := h1
     exact ⟨t', _, h3, h4, Z8p hU hy, hP u y, List.mem_cons_self ..⟩
    ·rw [if_neg e'] at hg
     exact step ys h2 hg
   ·cases hd
  ·rename_i ct v n f ys h1 h2
   cases hn : Nat.beq n 1 with
   | false => simp [hn] at hd
   | true =>
    simp only [hn, cond_true] at hd
    have := nbeq hn
    subst this
    split at hd
    ·rename_i e1 _
     subst e1
     cases hd
     unfold Zu at hg
     rw [Z5] at hg
     by_cases e' : s = t
     ·subst e'
      rw [if_pos rfl] at hg; cases hg
      rw [Option.bind_eq_some_iff] at h1
      obtain ⟨t', h3, h4⟩ := h1
      exact ⟨t', _, h3, h4, Z8b hU, hP _ _, List.mem_cons_self ..⟩
     ·rw [if_neg e'] at hg
      exact step ys h2 hg
    ·cases hd
  ·cases hd
 | (s, .fam ct u n) :: r, h, x, hd, t, e, hg => by
  unfold ZD at hd
  split at hd
  ·rename_i ct' v n' f ys h1 h2
   cases hb : (ct == ct') && Nat.beq n n' with
   | false => simp [hb] at hd
   | true =>
    simp only [hb, cond_true] at hd
    rw [Bool.and_eq_true] at hb
    have e1 : ct = ct' := by simpa using hb.1
    have e2 := nbeq hb.2
    subst e1; subst e2
    split at hd
    ·rename_i e3 _
     subst e3
     cases hd
     unfold Zu at hg
     rw [Z5] at hg
     by_cases e' : s = t
     ·subst e'
      rw [if_pos rfl] at hg; cases hg
      rw [Option.bind_eq_some_iff] at h1
      obtain ⟨t', h3, h4⟩ := h1
      exact ⟨t', _, h3, h4, fun _ _ _ _ h => h, trivial, List.mem_cons_self ..⟩
     ·rw [if_neg e'] at hg
      obtain ⟨t', e', h3, h4, h5, h6, h7⟩ := ZL hU hP r h ys h2 t e hg
      exact ⟨t', e', h3, h4, h5, h6, List.mem_cons_of_mem _ h7⟩
    ·cases hd
  ·cases hd
 | (s, .famN ct u) :: r, h, x, hd, t, e, hg => by
  unfold ZD at hd
  split at hd
  ·rename_i ct' v n' f ys h1 h2
   cases hb : (ct == ct') with
   | false => simp [hb] at hd
   | true =>
    simp only [hb, cond_true] at hd
    have e1 : ct = ct' := by simpa using hb
    subst e1
    split at hd
    ·rename_i e3 _
     subst e3
     cases hd
     unfold Zu at hg
     rw [Z5] at hg
     by_cases e' : s = t
     ·subst e'
      rw [if_pos rfl] at hg; cases hg
      rw [Option.bind_eq_some_iff] at h1
      obtain ⟨t', h3, h4⟩ := h1
      exact ⟨t', _, h3, h4, fun _ _ _ _ h => h, trivial, List.mem_cons_self ..⟩
     ·rw [if_neg e'] at hg
      obtain ⟨t', e', h3, h4, h5, h6, h7⟩ := ZL hU hP r h ys h2 t e hg
      exact ⟨t', e', h3, h4, h5, h6, List.mem_cons_of_mem _ h7⟩
    ·cases hd
  ·cases hd
 | (s, .tok) :: r, h, x, hd, t, e, hg => by
  unfold ZD at hd
  split at hd
  ·rename_i h1
   unfold Zu at hg
   rw [Z5] at hg
   by_cases e' : s = t
   ·subst e'
    rw [if_pos rfl] at hg; cases hg
    rw [Option.bind_eq_some_iff] at h1
    obtain ⟨t', h3, h4⟩ := h1
    exact ⟨t', _, h3, h4, fun _ _ _ _ h => h, trivial, List.mem_cons_self ..⟩
   ·rw [if_neg e'] at hg
    obtain ⟨t', e', h3, h4, h5, h6, h7⟩ := ZL hU hP r h x hd t e hg
    exact ⟨t', e', h3, h4, h5, h6, List.mem_cons_of_mem _ h7⟩
  ·cases hd
 | (s, .iter) :: r, h, x, hd, t, e, hg => by
  unfold ZD at hd
  split at hd
  ·rename_i t0 pos ys h1 h2
   cases hd
   unfold Zu at hg
   rw [Z5] at hg
   by_cases e' : s = t
   ·subst e'
    rw [if_pos rfl] at hg; cases hg
    rw [Option.bind_eq_some_iff] at h1
    obtain ⟨t', h3, h4⟩ := h1
    exact ⟨t', _, h3, h4, fun _ _ _ _ h => h, trivial, List.mem_cons_self ..⟩
   ·rw [if_neg e'] at hg
    obtain ⟨t', e', h3, h4, h5, h6, h7⟩ := ZL hU hP r h ys h2 t e hg
    exact ⟨t', e', h3, h4, h5, h6, List.mem_cons_of_mem _ h7⟩
  ·cases hd
 | (s, .mfam gk gv ku vu) :: r, h, x, hd, t, e, hg => by
  unfold ZD at hd
  split at hd
  ·rename_i gk' gv' ku' vu' n g ys h1 h2
   cases hb : Z1H gk gk' && Z1H gv gv' with
   | false => rw [hb] at hd; cases hd
   | true =>
    rw [hb] at hd
    simp only [cond_true] at hd
    rw [Bool.and_eq_true] at hb
    have e1 : gk = gk' := by cases gk <;> cases gk' <;> first | rfl | (have := hb.1; cases this)
    have e2 : gv = gv' := by cases gv <;> cases gv' <;> first | rfl | (have := hb.2; cases this)
    subst e1; subst e2
    split at hd
    ·rename_i e3 e4 _ _
     subst e3
     subst e4
     cases hd
     unfold Zu at hg
     rw [Z5] at hg
     by_cases e' : s = t
     ·subst e'
      rw [if_pos rfl] at hg; cases hg
      rw [Option.bind_eq_some_iff] at h1
      obtain ⟨t', h3, h4⟩ := h1
      exact ⟨t', _, h3, h4, fun _ _ _ _ h => h, trivial, List.mem_cons_self ..⟩
     ·rw [if_neg e'] at hg
      obtain ⟨t', e', h3, h4, h5, h6, h7⟩ := ZL hU hP r h ys h2 t e hg
      exact ⟨t', e', h3, h4, h5, h6, List.mem_cons_of_mem _ h7⟩
    ·cases hd
  ·cases hd
 | (s, .famZ u) :: r, h, x, hd, t, e, hg => by
  unfold ZD at hd
  split at hd
  ·rename_i v n z f ys h1 h2
   split at hd
   ·rename_i e3 _
    subst e3
    cases hd
    unfold Zu at hg
    rw [Z5] at hg
    by_cases e' : s = t
    ·subst e'
     rw [if_pos rfl] at hg; cases hg
     rw [Option.bind_eq_some_iff] at h1
     obtain ⟨t', h3, h4⟩ := h1
     exact ⟨t', _, h3, h4, fun _ _ _ _ h => h, trivial, List.mem_cons_self ..⟩
    ·rw [if_neg e'] at hg
     obtain ⟨t', e', h3, h4, h5, h6, h7⟩ := ZL hU hP r h ys h2 t e hg
     exact ⟨t', e', h3, h4, h5, h6, List.mem_cons_of_mem _ h7⟩
   ·cases hd
  ·rename_i v n f ys h1 h2
   cases hpl : U.plain v with
   | false => rw [hpl] at hd; cases hd
   | true =>
    rw [hpl] at hd
    simp only [cond_true] at hd
    split at hd
    ·rename_i e3 _
     subst e3
     cases hd
     unfold Zu at hg
     rw [Z5] at hg
     by_cases e' : s = t
     ·subst e'
      rw [if_pos rfl] at hg; cases hg
      rw [Option.bind_eq_some_iff] at h1
      obtain ⟨t', h3, h4⟩ := h1
      exact ⟨t', _, h3, h4, Z8f hU hpl, trivial, List.mem_cons_self ..⟩
     ·rw [if_neg e'] at hg
      obtain ⟨t', e', h3, h4, h5, h6, h7⟩ := ZL hU hP r h ys h2 t e hg
      exact ⟨t', e', h3, h4, h5, h6, List.mem_cons_of_mem _ h7⟩
    ·cases hd
  ·cases hd
end
theorem Shape.at0 (hU : U.Ok) (hP : U.Pure) {base : Nat} {p : Shape U} {st : St U} {x : p.T} (h : p.dec0 base st = some x) {B : Base U} (hb : B.nx ≤ base) {a : Act} {w : World} (hA : B.At st a w) : B.At (p.enc x) a w := by
 obtain ⟨c, Φ, hn, hS, hE⟩ := hA
 unfold Shape.dec0 at h
 split at h
 ·rename_i m hm
  cases hc : Nat.beq st.n p.n && Nat.ble U.nf base && Nat.ble base p.nx && Z3N base p.nx m && p.heap.all (fun q => Nat.blt q.1 p.nx) with
  | false => simp [hc] at h
  | true =>
   rw [hc] at h
   simp only [cond_true] at h
   simp only [Bool.and_eq_true] at hc
   obtain ⟨⟨⟨⟨hc1, hnf⟩, hc2⟩, hc3⟩, hc4⟩ := hc
   have hnf := Nat.le_of_ble_eq_true hnf
   have hbx := Nat.le_of_ble_eq_true hc2
   rw [List.all_eq_true] at hc4
   split at h
   ·rename_i x1 x2 h1 h2
    cases h
    have hent := ZL (m := m) (base := base) hU hP _ _ _ h2
    have hL : ∀ s i, s < base → (c.ren m base).L s i = c.L s i := fun s i hs => Cx.ren_L (Z1U hs) i
    have hkeep : ∀ s, s < B.nx → ∀ i, (c.ren m base).L s i = c.L s i := fun s hs i => hL s i (by omega)
    let Φ2 : Nat → Nat → Nat → Prop := fun s b o => ∃ t, Rf.ren m base s = some t ∧ Φ t b o
    have hΦ : ∀ s t b o, Rf.ren m base s = some t → (Φ2 s b o ↔ Φ t b o) := fun s t b o hr => ⟨fun ⟨t', h3, h4⟩ => by rw [hr] at h3; cases h3; exact h4, fun h => ⟨t, hr, h⟩⟩
    have hΦ' : ∀ s t, Rf.ren m base s = some t → Φ2 s = Φ t := fun s t hr => by funext b o; exact propext (hΦ s t b o hr)
    have hin : ∀ s, (get (Zu p.heap x2) s).isSome → ∃ t, Rf.ren m base s = some t ∧ (get st.h t).isSome := fun s hs => by
     obtain ⟨e, he⟩ := Option.isSome_iff_exists.1 hs
     obtain ⟨t, e', h3, h4, _⟩ := hent s e he
     exact ⟨t, h3, by simp [h4]⟩
    refine ⟨c.ren m base, Φ2, Nat.le_trans hb hbx, ⟨by rw [hS.size]; exact nbeq hc1, hS.defers, fun t v hv => ?_, ⟨fun s e he => ?_, fun s s' b o hne h3 h4 h5 h6 => ?_, hS.g.imm, fun s b o h3 h4 => ?_⟩, fun s hs => ?_⟩, ⟨⟨fun s i q hq => ?_, hE.le.I⟩, fun s i hs hf => ?_, fun s hs h3 => ?_, hE.fr, fun s hs => ?_, fun s b o hs h3 h4 => ?_, hE.inew⟩⟩
    ·obtain ⟨v', h3, h4⟩ := ZJ (c := c) (m := m) (base := base) hU hP hnf _ _ _ _ h1 hm (fun q hq => ren_mem hc3 hq) t v hv
     exact h4 _ (hS.env t v' h3)
    ·obtain ⟨t, e', h3, h4, h5, h6, _⟩ := hent s e he
     rw [hΦ' s t h3]
     exact EntOK.ren hU hP hnf (h5 _ _ _ _ (hS.g.ents t e' h4)) h3 h6
    ·obtain ⟨t, h7, h8⟩ := hin s h3
     obtain ⟨t', h9, h10⟩ := hin s' h4
     refine hS.g.apart t t' b o (fun e => hne ?_) h8 h10 ((hΦ s t b o h7).1 h5) ((hΦ s' t' b o h9).1 h6)
     subst e
     exact ren_inj hc3 h7 h9
    ·obtain ⟨t, h7, h8⟩ := hin s h3
     exact hS.g.immApart t b o h8 ((hΦ s t b o h7).1 h4)
    ·have hs : p.nx ≤ s := hs
     refine ⟨?_, fun k => ?_⟩
     ·cases hg : get (Zu p.heap x2) s with
      | none => exact hg
      | some e =>
       obtain ⟨t, e', _, _, _, _, h8⟩ := hent s e hg
       obtain ⟨q, hq, rfl⟩ := List.mem_map.1 h8
       have := Nat.le_of_ble_eq_true (hc4 q hq)
       omega
     ·show (Rf.ren m base s).bind _ = none
      cases hr : Rf.ren m base s with
      | none => rfl
      | some t =>
       have := (Z3f hc3 (by omega) hr).2.1
       omega
    ·by_cases hs : s < B.nx
     ·rw [hkeep s hs]; exact hE.le.L s i q hq
     ·rw [B.new s (by omega) i] at hq; cases hq
    ·rw [hkeep s hs]; exact hE.L s i hs hf
    ·obtain ⟨t, h7, h8⟩ := hin s h3
     rw [Z1U (by omega)] at h7; cases h7
     exact hE.old s hs h8
    ·rw [hΦ' s s (Z1U (by have := B.rw; omega))]
     exact hE.foot s hs
    ·obtain ⟨t, h7, h8⟩ := hin s h3
     refine hE.footw t b o ?_ h8 ((hΦ s t b o h7).1 h4)
     by_cases hlt : s < base
     ·rw [Z1U hlt] at h7; cases h7; exact hs
     ·have := (Z3f hc3 hlt h7).1
      have := B.rw
      omega
   ·cases h
 ·cases h
theorem own1_at (hU : U.Ok) {t : Nat} {u : U.C} {st : St U} {B : Base U} {a : Act} {w : World} (hA : B.At st a w) : B.At (own1 t u st) a w := by
 unfold own1
 split
 ·rename_i x hx
  split
  ·rename_i xs hl
   obtain ⟨c, Φ, hn, hS, hE⟩ := hA
   have hr := hS.env t _ hx
   obtain ⟨ad, cap, b, o, g, hv, hc, hT, ha, hi, hrr⟩ := (Z1T hl (show R U c x _ from hr)).ex
   have hT : cap = xs.length := hT
   let c' : Cx := { L := fun s i => if s = st.nx then (if i = 0 ∨ i = 1 then some (b, o + xs.length * U.size u) else none) else c.L s i, I := c.I }
   have hnx : ∀ i, c.L st.nx i = none := (hS.fresh st.nx (Nat.le_refl _)).2
   have hle : c.Le c' := ⟨fun s i q hq => by
    by_cases e : s = st.nx
    ·subst e; rw [hnx] at hq; cases hq
    ·simp only [c', if_neg e]; exact hq, fun _ _ _ h => h⟩
   have hold : ∀ s i, s ≠ st.nx → c'.L s i = c.L s i := fun s i e => by simp only [c', if_neg e]
   let Φ' : Nat → Nat → Nat → Prop := fun s b o => s ≠ st.nx ∧ Φ s b o
   have hΦ : ∀ s, s ≠ st.nx → Φ' s = Φ s := fun s e => by funext b o; exact propext ⟨fun h => h.2, fun h => ⟨e, h⟩⟩
   have hsome : ∀ s, (get st.h s).isSome → s ≠ st.nx := fun s hs e => by subst e; rw [(hS.fresh st.nx (Nat.le_refl _)).1] at hs; cases hs
   have hcase : ∀ s, s ≠ st.nx → get ((st.nx, (Ent.tok : Ent U)) :: st.h) s = get st.h s := fun s e => by rw [Z5, if_neg (fun h => e h.symm)]
   refine ⟨c', Φ', Nat.le_succ_of_le hn, ⟨hS.size, hS.defers, fun t' v hv' => ?_, ⟨fun s e he => ?_, fun s s' b' o' hne h3 h4 h5 h6 => ?_, hS.g.imm, fun s b' o' h3 h4 => ?_⟩, fun s hs => ?_⟩, ⟨hE.le.trans hle, fun s i hs hf => ?_, fun s hs h3 => ?_, hE.fr, fun s hs => ?_, fun s b' o' hs h3 h4 => ?_, hE.inew⟩⟩
   ·rw [Z5] at hv'
    by_cases e : t = t'
    ·subst e
     rw [if_pos rfl] at hv'; cases hv'
     rw [hv]
     refine R.isl (c := c') g hc ⟨b, o + xs.length * U.size u, o + xs.length * U.size u, by simp [c'], by simp [c'], fun hpos => ⟨ha (by omega), rfl, rfl, by rw [hT]; exact Nat.le_refl _⟩⟩ ha hi fun i k h1 h2 => (hrr i k h1 h2).mono hle
    ·rw [if_neg e] at hv'
     exact (hS.env t' v hv').mono hle
   ·by_cases e1 : s = st.nx
    ·subst e1
     rw [Z5, if_pos rfl] at he; cases he
     exact ⟨b, o + xs.length * U.size u, o + xs.length * U.size u, by simp [c'], by simp [c'], fun x h1 h2 => by omega, fun b' x h => absurd rfl h.1⟩
    ·rw [hcase s e1] at he
     rw [hΦ s e1]
     exact (hS.g.ents s e he).stays hU hle (fun i => hold s i e1) (Agr.refl _ _)
   ·exact hS.g.apart s s' b' o' hne (by rw [← hcase s h5.1]; exact h3) (by rw [← hcase s' h6.1]; exact h4) h5.2 h6.2
   ·exact hS.g.immApart s b' o' (by rw [← hcase s h4.1]; exact h3) h4.2
   ·have hs : st.nx + 1 ≤ s := hs
    obtain ⟨h3, h4⟩ := hS.fresh s (by omega)
    exact ⟨by rw [hcase s (by omega)]; exact h3, fun k => by rw [hold s k (by omega)]; exact h4 k⟩
   ·rw [hold s i (by omega)]; exact hE.L s i hs hf
   ·exact hE.old s hs (by rw [← hcase s (by omega)]; exact h3)
   ·have := B.rw
    rw [hΦ s (by omega)]; exact hE.foot s hs
   ·exact hE.footw s b' o' hs (by rw [← hcase s h4.1]; exact h3) h4.2
  ·exact hA
 ·exact hA
theorem ZZ (hU : U.Ok) : ∀ (l : List (Nat × JV U.C)) {st : St U} {B : Base U} {a : Act} {w : World}, B.At st a w → B.At (Z5A l st) a w
 | [], st, B, a, w, h => h
 | (t, .own u k) :: r, st, B, a, w, h => ZZ hU r (own1_at hU h)
 | (t, .val s) :: r, st, B, a, w, h => ZZ hU r h
 | (t, .ptr s i off) :: r, st, B, a, w, h => ZZ hU r h
 | (t, .nilp) :: r, st, B, a, w, h => ZZ hU r h
 | (t, .full u) :: r, st, B, a, w, h => ZZ hU r h
 | (t, .aptr _ _ _ _ _) :: r, st, B, a, w, h => ZZ hU r h
 | (t, .asl _ _ _ _) :: r, st, B, a, w, h => ZZ hU r h
 | (t, .rsl _) :: r, st, B, a, w, h => ZZ hU r h
 | (t, .clo _ _) :: r, st, B, a, w, h => ZZ hU r h
theorem Shape.at1 (hU : U.Ok) (hP : U.Pure) {b : Nat × Nat} {p : Shape U} {st : St U} {x : p.T} (h : p.dec1 b st = some x) {B : Base U} (hb : B.ro = b.1 ∧ B.nx ≤ b.2) {a : Act} {w : World} (hA : B.At st a w) : B.At (p.enc x) a w := by
 unfold Shape.dec1 at h
 split at h
 ·rename_i m hm
  cases hw : wrOk b.1 (Zr (needy (Z1m b.2 m p.heap) st.h) st.h) with
  | false => rw [hw] at h; cases h
  | true =>
   rw [hw] at h
   simp only [cond_true] at h
   refine Shape.at0 hU hP h hb.2 ?_
   obtain ⟨c, Φ, hn, hS, hE⟩ := hA
   obtain ⟨Φ', h1⟩ := Z2s (nx := st.nx) hU (needy (Z1m b.2 m p.heap) st.h) st.h Φ hS.g
   have hE' := hE.step h1 (by rw [hb.1]; exact hw) hn
   refine ⟨c, Φ', hn, ⟨hS.size, hS.defers, hS.env, h1.g, fun s hs => ⟨?_, (hS.fresh s hs).2⟩⟩, hE'⟩
   show get (Zr (needy (Z1m b.2 m p.heap) st.h) st.h ++ st.h) s = none
   rw [Zd]
   have h2 := (hS.fresh s hs).1
   by_cases hm : s ∈ (Zr (needy (Z1m b.2 m p.heap) st.h) st.h).map (·.1)
   ·rcases h1.names s hm with ⟨h3, h4⟩ | h3
    ·have h4 : s < st.nx + 0 := h4
     have hs : st.nx ≤ s := hs
     omega
    ·rw [h2] at h3; cases h3
   ·rw [Zc hm]; exact h2
 ·cases h
theorem Shape.at (hU : U.Ok) (hP : U.Pure) {b : Nat × Nat} {p : Shape U} {st : St U} {x : p.T} (h : p.dec b st = some x) {B : Base U} (hb : B.ro = b.1 ∧ B.nx ≤ b.2) {a : Act} {w : World} (hA : B.At st a w) : B.At (p.enc x) a w :=
 Shape.at1 hU hP h hb (ZZ hU p.env hA)
def Form (ops : List Oper) (st st' : St U) : Prop := ∃ pe ph, st'.env = pe ++ st.env ∧ (∀ p ∈ pe, p.1 ∈ ops.filterMap (·.dst)) ∧ st'.h = ph ++ st.h
theorem Z39 {Γ : Nat → Option (Native U)} {ro : Nat} {dr : Bool} {ops : List Oper} {ms : List Nat} {ρ : Type} {J : Bool → ρ → ρ → ρ} {fail : ρ} : ∀ (rest : List Oper) (j : Nat) (acc : List (Nat × Info)) (st : St U) (K K' : St U → ρ),
  (∀ st', Form rest st st' → K st' = K' st') → ZW P Γ ro dr ops ms J fail rest j acc st K = ZW P Γ ro dr ops ms J fail rest j acc st K'
 | [], j, acc, st, K, K', h => h st ⟨[], [], rfl, fun p hp => (by cases hp), rfl⟩
 | o :: rest, j, acc, st, K, K', h => by
  have ih : ∀ j acc out, ZW P Γ ro dr ops ms J fail rest j acc (st.apply o.dst out) K = ZW P Γ ro dr ops ms J fail rest j acc (st.apply o.dst out) K' := fun j acc out =>
   Z39 rest j acc _ K K' fun st' ⟨pe, ph, h1, h2, h3⟩ => h st' (by
    cases hd : o.dst with
    | none =>
     refine ⟨pe, ph ++ out.w, by rw [h1]; simp [St.apply, hd], fun p hp => ?_, by rw [h3]; simp [St.apply]⟩
     have := h2 p hp
     simp only [List.filterMap_cons, hd]; exact this
    | some d =>
     refine ⟨pe ++ [(d, out.v)], ph ++ out.w, by rw [h1]; simp [St.apply, hd], fun p hp => ?_, by rw [h3]; simp [St.apply]⟩
     simp only [List.filterMap_cons, hd, List.mem_cons]
     rcases List.mem_append.1 hp with hp | hp
     ·exact .inr (h2 p hp)
     ·simp at hp; subst hp; exact .inl rfl)
  unfold ZW
  simp only [ih]
theorem Z3Y {α : Type} (f : Nat → Bool) : ∀ (l : List (Nat × α)) (t : Nat), get (l.filter fun p => f p.1) t = if f t then get l t else none
 | [], t => by simp [get]
 | (k, v) :: l, t => by
  rw [List.filter_cons]
  by_cases hk : f k = true
  ·rw [if_pos hk, Z5, Z5, Z3Y f l t]
   by_cases e : k = t
   ·subst e; simp [hk]
   ·simp [e]
  ·rw [if_neg hk, Z3Y f l t, Z5]
   by_cases e : k = t
   ·subst e; simp [hk]
   ·simp [e]
theorem Z51 (hU : U.Ok) (hP : U.Pure) : ∀ (l : List (Nat × JV U.C)) (env : Env U) (x : JVs U l), ZA l env = some x → l.all (fun p => p.2.isVal) = true →
  ∀ t v, get (Zp l x) t = some v → ∃ v', get env t = some v' ∧ ∀ c u, RA U c v' u → RA U c v u
 | [], env, x, h, ha, t, v, hg => by cases hg
 | (s, .val sh) :: r, env, x, h, ha, t, v, hg => by
  simp only [List.all_cons, JV.isVal, Bool.true_and] at ha
  unfold ZA at h
  split at h
  ·rename_i y ys h1 h2
   cases hp : sh.isPtr || sh.isElem with
   | true => simp [hp] at h
   | false =>
    simp only [hp, cond_false] at h
    rw [Bool.or_eq_false_iff] at hp
    split at h
    ·rename_i z hz
     cases h
     unfold Zp at hg
     rw [Z5] at hg
     by_cases e : s = t
     ·subst e
      rw [if_pos rfl] at hg; cases hg
      exact ⟨_, h1, fun c u hr => Z68 (c := c) (d := c) hP hU (.refl c) hz hp.1 hp.2 hr 0⟩
     ·rw [if_neg e] at hg
      exact Z51 hU hP r env ys h2 ha t v hg
    ·cases h
  ·cases h
 | (s, .ptr a i off) :: r, env, x, h, ha, t, v, hg => by simp [JV.isVal] at ha
 | (s, .nilp) :: r, env, x, h, ha, t, v, hg => by simp [JV.isVal] at ha
 | (s, .own u k) :: r, env, x, h, ha, t, v, hg => by simp [JV.isVal] at ha
 | (s, .full u) :: r, env, x, h, ha, t, v, hg => by simp [JV.isVal] at ha
 | (s, .aptr _ _ _ _ _) :: r, env, x, h, ha, t, v, hg => by simp [JV.isVal] at ha
 | (s, .asl _ _ _ _) :: r, env, x, h, ha, t, v, hg => by simp [JV.isVal] at ha
 | (s, .rsl _) :: r, env, x, h, ha, t, v, hg => by simp [JV.isVal] at ha
 | (s, .clo _ _) :: r, env, x, h, ha, t, v, hg => by simp [JV.isVal] at ha
theorem Z8t (hU : U.Ok) (hP : U.Pure) {l : List (Nat × JV U.C)} {ops : List Oper} {st st' : St U} (hF : Form ops st st') {x : JVs U l}
  (h : Z4e l st st' = some x) :
  Imp U st' { n := st.n, env := Zp l x ++ st.env.filter (fun p => !mem p.1 (ops.filterMap (·.dst))), h := st.h, nx := st.nx } := by
 obtain ⟨pe, ph, h1, h2, h3⟩ := hF
 unfold Z4e at h
 cases hb : l.all (fun p => p.2.isVal) && Nat.beq st'.n st.n && Nat.beq st'.nx st.nx && Nat.beq st'.h.length st.h.length with
 | false => rw [hb] at h; cases h
 | true =>
  rw [hb] at h
  simp only [cond_true] at h
  simp only [Bool.and_eq_true] at hb
  obtain ⟨⟨⟨hb1, hb2⟩, hb3⟩, hb4⟩ := hb
  have hph : ph = [] := by
   have := nbeq hb4
   rw [h3, List.length_append] at this
   exact List.eq_nil_of_length_eq_zero (by omega)
  subst hph
  refine Imp.of (nbeq hb2) (fun t v hv => ?_) (fun s e hs => ⟨e, by rw [h3]; exact hs, fun _ _ _ _ h => h⟩) (Nat.le_of_eq (nbeq hb3))
  rw [Zd] at hv
  cases hg : get (Zp l x) t with
  | some u =>
   rw [hg] at hv
   cases hv
   exact Z51 hU hP l _ x h hb1 t v hg
  | none =>
   rw [hg] at hv
   simp only at hv
   rw [Z3Y (fun k => !mem k (ops.filterMap (·.dst)))] at hv
   split at hv
   ·rename_i hm
    refine ⟨v, ?_, fun _ _ h => h⟩
    rw [h1, Zd, Zc, hv]
    intro hin
    obtain ⟨p, hp, rfl⟩ := List.mem_map.1 hin
    have := Z2b.2 (h2 p hp)
    simp [this] at hm
   ·cases hv
theorem Z7Z {e e' : Exit} (h : exEq e e' = true) : e = e' := by
 cases e <;> cases e' <;> first | rfl | (cases h; done) | (have := nbeq h; subst this; rfl)
theorem Z3A (hU : U.Ok) (hP : U.Pure) {base : Nat × Nat} {ρ : Type} {K : Exit → St U → ρ} : ∀ (l : Exits U) (e : Exit) (st : St U) (x : ExT l), Z1F base l e st = some x →
  ∃ st', exGo l x K = K e st' ∧ ∀ (B : Base U) (a : Act) (w : World), (B.ro = base.1 ∧ B.nx ≤ base.2) → B.At st a w → B.At st' a w
 | [], e, st, x, h => by cases h
 | [(e', p)], e, st, x, h => by
  unfold Z1F at h
  cases hb : exEq e' e with
  | false => simp [hb] at h
  | true =>
   simp only [hb, cond_true] at h
   have := Z7Z hb
   subst this
   exact ⟨_, rfl, fun B a w h1 h2 => Shape.at hU hP h h1 h2⟩
 | (e', p) :: q :: r, e, st, x, h => by
  unfold Z1F at h
  cases hb : exEq e' e with
  | false =>
   simp only [hb, cond_false] at h
   split at h
   ·rename_i y hy
    cases h
    exact Z3A hU hP (q :: r) e st y hy
   ·cases h
  | true =>
   simp only [hb, cond_true] at h
   have := Z7Z hb
   subst this
   split at h
   ·rename_i y hy
    cases h
    exact ⟨_, rfl, fun B a w h1 h2 => Shape.at hU hP hy h1 h2⟩
   ·cases h
end Go.Rf
