/- An evaluator of the model's code, and the proof that it is sound. Own work; no program in it. -/
import Derived.Test.YtcngoomjcoimjaaRfC
import Derived.OpenShut
import Derived.SizedLaws
import Derived.Below
import Derived.Test.YtcngoomjcoimjaaRfB
import Derived.Carry
import Derived.ChangeShapes
namespace Go.Rf
set_option linter.unusedVariables false
set_option linter.unusedSimpArgs false
variable {U : Univ} {P : Program}

theorem okV_wf {k : IntKind} {n : Int} (h : (Lit.int k n).wf = true) : okV (.int k n) = true := by
  cases k <;> first | rfl | exact okV_u8 (by have := bounds_u8 h; omega)

/-- cells that a type's data have -/
inductive Opens (U : Univ) (P : Program) : TypeId → List U.S → Prop
  | int {t : TypeId} {k : IntKind} {n : Int} (ht : P.underlying t = some (.int k)) (hw : (Lit.int k n).wf = true) : Opens U P t [.val (.int k n)]
  | bool {t : TypeId} {b : Bool} (ht : P.underlying t = some .bool) : Opens U P t [.val (.bool b)]
  | str {t : TypeId} {s : ByteArray} (ht : P.underlying t = some .string) (hs : s.size ≤ reachBytes) : Opens U P t [.val (.string s)]
  | sl {t e : TypeId} {u : U.C} {xs : List (U.D u)} (ht : P.underlying t = some (.slice e)) (hu : U.ofType e = some u) (hn : xs.length * P.bytesOf e ≤ reachBytes)
      (hx : ∀ x ∈ xs, Opens U P e (U.enc u x)) : Opens U P t [.isl .none u xs]
  | struct {t : TypeId} {fs : Array Field} {l : List U.S} (ht : P.underlying t = some (.struct fs)) (hl : l.length = P.cellsOf t)
      (hf : ∀ f ∈ fs.toList, Opens U P f.type ((l.drop f.offset).take (P.cellsOf f.type))) : Opens U P t l

theorem Opens.noPtr {t e : TypeId} {l : List U.S} (h : Opens U P t l) (ht : P.underlying t = some (.pointer e)) : False := by
  cases h with
  | int h1 hw => rw [ht] at h1; cases h1
  | bool h1 => rw [ht] at h1; cases h1
  | str h1 => rw [ht] at h1; cases h1
  | sl h1 => rw [ht] at h1; cases h1
  | struct h1 => rw [ht] at h1; cases h1

theorem Opens.toInt {t : TypeId} {k : IntKind} {l : List U.S} (h : Opens U P t l) (ht : P.underlying t = some (.int k)) : ∃ n, l = [.val (.int k n)] ∧ (Lit.int k n).wf = true := by
  cases h with
  | int h1 hw => rw [ht] at h1; cases h1; exact ⟨_, rfl, hw⟩
  | bool h1 => rw [ht] at h1; cases h1
  | str h1 => rw [ht] at h1; cases h1
  | sl h1 => rw [ht] at h1; cases h1
  | struct h1 => rw [ht] at h1; cases h1

theorem Opens.toBool {t : TypeId} {l : List U.S} (h : Opens U P t l) (ht : P.underlying t = some .bool) : ∃ b, l = [.val (.bool b)] := by
  cases h <;> simp_all

theorem Opens.toStr {t : TypeId} {l : List U.S} (h : Opens U P t l) (ht : P.underlying t = some .string) : ∃ s, l = [.val (.string s)] ∧ s.size ≤ reachBytes := by
  cases h <;> simp_all

theorem Opens.toSl {t e : TypeId} {u : U.C} {l : List U.S} (h : Opens U P t l) (ht : P.underlying t = some (.slice e)) (hu : U.ofType e = some u) : ∃ xs : List (U.D u), l = [.isl .none u xs] ∧ xs.length * P.bytesOf e ≤ reachBytes ∧ ∀ x ∈ xs, Opens U P e (U.enc u x) := by
  cases h with
  | sl ht' hu' hn hx =>
    rw [ht] at ht'; cases ht'
    rw [hu] at hu'; cases hu'
    exact ⟨_, rfl, hn, hx⟩
  | int h1 => rw [ht] at h1; cases h1
  | bool h1 => rw [ht] at h1; cases h1
  | str h1 => rw [ht] at h1; cases h1
  | struct h1 => rw [ht] at h1; cases h1

theorem Opens.toStruct {t : TypeId} {fs : Array Field} {l : List U.S} (h : Opens U P t l) (ht : P.underlying t = some (.struct fs)) : l.length = P.cellsOf t ∧ ∀ f ∈ fs.toList, Opens U P f.type ((l.drop f.offset).take (P.cellsOf f.type)) := by
  cases h with
  | struct h1 hl hf => rw [ht] at h1; cases h1; exact ⟨hl, hf⟩
  | int h1 => rw [ht] at h1; cases h1
  | bool h1 => rw [ht] at h1; cases h1
  | str h1 => rw [ht] at h1; cases h1
  | sl h1 => rw [ht] at h1; cases h1

/-- all of the caller's memory, never written -/
def memCx (w : World) : Cx := { L := fun _ _ => none, I := fun b o => w.cell? (at_ b o) }

def tiles (P : Program) : List Field → Nat → Option Nat
  | [], o => some o
  | f :: r, o => bif Nat.beq f.offset o then tiles P r (o + P.cellsOf f.type) else none

/-- the types of arguments -/
def plainT (U : Univ) (P : Program) : Nat → TypeId → Bool
  | 0, _ => false
  | d + 1, t => match P.underlying t with
    | some (.int _) => true
    | some .bool => true
    | some .string => true
    | some (.slice e) => (match U.ofType e with | some u => Nat.beq (U.size u) (P.cellsOf e) && Nat.ble 1 (P.cellsOf e) | none => false) && plainT U P d e
    | some (.struct fs) => (match tiles P fs.toList 0 with | some n => Nat.beq n (P.cellsOf t) | none => false) && fs.toList.all fun f => plainT U P d f.type
    | _ => false

/-- typed elements off cells -/
def Decs (U : Univ) (P : Program) : Prop := ∀ e u l, U.ofType e = some u → Opens U P e l → ∃ x, U.dec u l = some x ∧ Opens U P e (U.enc u x)

theorem cells?_ok {w : World} {a : Addr} {n : Nat} {cs : List Value} (h : w.cells? 0 a n = some cs) : cs.length = n ∧ ∀ i, i < n → w.cell? (a.add i) = cs[i]? := by
  unfold World.cells? at h
  rw [if_pos (Nat.zero_le _)] at h
  refine ⟨by simpa using mapM_some_length h, fun i hi => mapM_some_get h i i (by simp [hi])⟩

theorem RL.of_parts {c : Cx} {l : List U.S} {vs : List Value} (hl : vs.length = l.length) (h : ∀ k, k < l.length → ∃ x v, l[k]? = some x ∧ vs[k]? = some v ∧ R U c x v) : RL U c l vs :=
  ⟨hl, fun k x hk => by
    obtain ⟨x', v, h1, h2, h3⟩ := h k (List.getElem?_eq_some_iff.1 hk).1
    rw [hk] at h1; cases h1
    exact ⟨v, h2, h3⟩⟩
theorem tiles_le : ∀ (fs : List Field) (o n : Nat), tiles P fs o = some n → o ≤ n ∧ ∀ f ∈ fs, o ≤ f.offset ∧ f.offset + P.cellsOf f.type ≤ n
  | [], o, n, h => by cases h; exact ⟨Nat.le_refl _, fun f hf => by cases hf⟩
  | f :: r, o, n, h => by
    unfold tiles at h
    cases hb : Nat.beq f.offset o with
    | false => rw [hb] at h; cases h
    | true =>
      rw [hb] at h
      have e := nbeq hb
      obtain ⟨h1, h2⟩ := tiles_le r _ n h
      refine ⟨by omega, fun g hg => ?_⟩
      rcases List.mem_cons.1 hg with rfl | hg
      · omega
      · have := h2 g hg; omega

theorem assemble {c : Cx} {cs : List Value} : ∀ (fs : List Field) (o n : Nat), tiles P fs o = some n → n ≤ cs.length →
    (∀ f ∈ fs, ∃ l, RL U c l ((cs.drop f.offset).take (P.cellsOf f.type)) ∧ Opens U P f.type l) →
    ∃ l, RL U c l ((cs.drop o).take (n - o)) ∧ ∀ f ∈ fs, Opens U P f.type ((l.drop (f.offset - o)).take (P.cellsOf f.type))
  | [], o, n, h, hn, hf => by
    cases h
    refine ⟨[], ?_, fun f hf => by cases hf⟩
    simp; exact .nil
  | f :: r, o, n, h, hn, hf => by
    unfold tiles at h
    cases hb : Nat.beq f.offset o with
    | false => rw [hb] at h; cases h
    | true =>
      rw [hb] at h
      have e := nbeq hb
      obtain ⟨h1, h2⟩ := tiles_le r _ n h
      obtain ⟨lr, h3, h4⟩ := assemble r _ n h hn fun g hg => hf g (List.mem_cons_of_mem _ hg)
      obtain ⟨lf, h5, h6⟩ := hf f (List.mem_cons_self ..)
      have hlen : lf.length = P.cellsOf f.type := by
        have := h5.len
        simp at this
        omega
      refine ⟨lf ++ lr, ?_, fun g hg => ?_⟩
      · have h7 := h5.append h3
        rw [e] at h7
        have : (cs.drop o).take (P.cellsOf f.type) ++ (cs.drop (o + P.cellsOf f.type)).take (n - (o + P.cellsOf f.type)) = (cs.drop o).take (n - o) := by
          rw [← List.drop_drop, show n - o = P.cellsOf f.type + (n - (o + P.cellsOf f.type)) by omega, List.take_add]
        rwa [this] at h7
      · rcases List.mem_cons.1 hg with rfl | hg
        · rw [e, Nat.sub_self, List.drop_zero, List.take_append_of_le_length (by omega), List.take_of_length_le (by omega)]; exact h6
        · have h8 := (h2 g hg).1
          rw [List.drop_append, List.drop_eq_nil_of_le (by omega), List.nil_append, hlen, show g.offset - o - P.cellsOf f.type = g.offset - (o + P.cellsOf f.type) by omega]
          exact h4 g hg

theorem weights_all {H : Type} : ∀ {e : TypeId} {ds : List (DataW H)} {d : DataW H}, d ∈ ds → ∀ n ∈ d.weights P e, n ∈ DataW.weightsAll P e ds
  | e, [], d, h, n, hn => by cases h
  | e, d0 :: ds, d, h, n, hn => by
    simp only [DataW.weightsAll, List.mem_append]
    rcases List.mem_cons.1 h with rfl | h
    · exact .inl hn
    · exact .inr (weights_all h n hn)

/-- AN ARGUMENT, OPENED. -/
theorem open_ok {H : Type} {enc : TypeId × Value → H} {w : World} {spare : Nat → Bool} {held : Bool} (hU : U.Ok) (hD : Decs U P) : ∀ (fuel d : Nat) (t : TypeId) (cs : List Value) (x : DataW H × List MemPlace),
    DataW.trod enc P w 0 spare held fuel t cs = some x → plainT U P d t = true → (∀ n ∈ x.1.weights P t, n ≤ reachBytes) → ∃ l, RL U (memCx w) l cs ∧ Opens U P t l
  | 0, d, t, cs, x, h, hp, hw => by simp [DataW.trod] at h
  | fuel + 1, 0, t, cs, x, h, hp, hw => by cases hp
  | fuel + 1, d + 1, t, cs, x, h, hp, hw => by
    unfold plainT at hp
    cases hu : P.underlying t with
    | none => rw [hu] at hp; cases hp
    | some desc =>
      rw [hu] at hp
      cases desc <;> simp only at hp <;> try (cases hp; done)
      case int k =>
        unfold DataW.trod at h
        rw [hu] at h
        split at h <;> try (simp_all; done)
        rename_i k2 k' n heq
        simp only [Option.some.injEq, TypeDesc.int.injEq] at heq
        subst heq
        split at h
        · rename_i hc
          obtain ⟨rfl, h1⟩ := hc
          exact ⟨[.val (.int k' n)], .cons (.val (okV_wf h1)) .nil, .int hu h1⟩
        · cases h
      case bool =>
        unfold DataW.trod at h
        rw [hu] at h
        split at h <;> simp_all
        rename_i b
        exact ⟨[.val (.bool b)], .cons (.val rfl) .nil, .bool hu⟩
      case string =>
        unfold DataW.trod at h
        rw [hu] at h
        split at h <;> simp_all
        rename_i s
        obtain ⟨h1, rfl⟩ := h
        refine ⟨[.val (.string s)], .cons (.val rfl) .nil, .str hu ?_⟩
        have := hw s.data.toList.length (by simp [DataW.weights])
        simpa using this
      case slice e =>
        rw [Bool.and_eq_true] at hp
        obtain ⟨hp1, hp2⟩ := hp
        cases hue : U.ofType e with
        | none => rw [hue] at hp1; cases hp1
        | some u =>
          rw [hue] at hp1
          simp only [Bool.and_eq_true] at hp1
          have hsz := nbeq hp1.1
          have hpos := Nat.le_of_ble_eq_true hp1.2
          unfold DataW.trod at h
          rw [hu] at h
          split at h <;> try (simp_all; done)
          · refine ⟨[.isl .none u []], .cons ?_ .nil, .sl hu hue (by simp) (fun x hx => by cases hx)⟩
            exact R.isl (xs := []) (b := 0) (o := 0) (fun _ _ => undef) (Nat.le_refl _) trivial (fun hh => by simp at hh) (fun i k hi => by simp at hi) (fun i k hi => by simp at hi)
          · rename_i a len cap heq
            simp only [Option.some.injEq, TypeDesc.slice.injEq] at heq
            subst heq
            simp only at h
            split at h
            · rename_i hcond
              obtain ⟨hb, hlc, hcm⟩ := hcond
              simp only [Option.bind_eq_some_iff, Option.map_eq_some_iff] at h
              obtain ⟨elems, hel, rest, hrest, rfl⟩ := h
              have helen : elems.length = len := by simpa using mapM_some_length hel
              have hwe : ∀ (i : Nat) y, elems[i]? = some y → ∀ n ∈ y.1.weights P e, n ≤ reachBytes := fun i y hy n hn => by
                refine hw n ?_
                simp only [DataW.weights, hu, List.mem_cons, List.mem_append]
                exact .inr (.inl (weights_all (List.mem_map.2 ⟨y, List.mem_of_getElem? hy, rfl⟩) n hn))
              have hone : ∀ i, i < len → ∃ (x : U.D u) (vs : List Value), Opens U P e (U.enc u x) ∧ RL U (memCx w) (U.enc u x) vs ∧ ∀ k, k < U.size u → w.cell? ((a.add (i * P.cellsOf e)).add k) = vs[k]? := fun i hi => by
                have h1 := mapM_some_get hel i i (by simp [hi])
                have hy : elems[i]? = some elems[i] := List.getElem?_eq_getElem (by omega)
                rw [hy, Option.bind_eq_some_iff] at h1
                obtain ⟨vs, h2, h3⟩ := h1
                obtain ⟨h4, h5⟩ := cells?_ok h2
                obtain ⟨l, h6, h7⟩ := open_ok hU hD fuel d e vs _ h3 hp2 (hwe i _ hy)
                obtain ⟨x, h8, h9⟩ := hD e u l hue h7
                exact ⟨x, vs, h9, hU.dec_le u l x h8 _ _ h6, fun k hk => h5 k (by omega)⟩
              let pick : Nat → U.D u := fun i => if hi : i < len then (hone i hi).choose else U.dft u
              let xs : List (U.D u) := (List.range len).map pick
              have hxl : xs.length = len := by simp [xs]
              have hxi : ∀ i, i < len → xs.getD i (U.dft u) = pick i := fun i hi => by simp [xs, List.getD, hi]
              have hpick : ∀ i (hi : i < len), ∃ vs : List Value, Opens U P e (U.enc u (pick i)) ∧ RL U (memCx w) (U.enc u (pick i)) vs ∧ ∀ k, k < U.size u → w.cell? ((a.add (i * P.cellsOf e)).add k) = vs[k]? := fun i hi => by
                simp only [pick, dif_pos hi]; exact (hone i hi).choose_spec
              have haddr : 0 < len → a = at_ a.block a.off := fun hpos' => by
                obtain ⟨vs, h1, h2, h3⟩ := hpick 0 hpos'
                have h4 := h3 0 (by omega)
                have h5 : 0 < vs.length := by rw [h2.len, hU.enc_len]; omega
                rw [List.getElem?_eq_getElem h5] at h4
                have h6 : w.cell? a = some vs[0] := by simpa [Addr.add] using h4
                unfold World.cell? at h6
                split at h6
                · split at h6
                  · cases h6
                  · rename_i hs
                    obtain ⟨b, o, s⟩ := a
                    cases s with
                    | none => rfl
                    | some _ => simp at hs
                · cases h6
              have hmain : R U (memCx w) (.isl .none u xs) (.slice (some a) xs.length cap) := by
                refine R.isl (b := a.block) (o := a.off) (fun i k => (w.cell? (at_ a.block (a.off + (i * U.size u + k)))).getD undef) (by omega) trivial (fun hh => by rw [← haddr (by omega)]) (fun i k hi hk => ?_) (fun i k hi hk => ?_)
                · rw [hxl] at hi
                  obtain ⟨vs, h1, h2, h3⟩ := hpick i hi
                  have h4 := h3 k hk
                  have h5 : k < vs.length := by rw [h2.len, hU.enc_len]; exact hk
                  rw [List.getElem?_eq_getElem h5, haddr (by omega), at_add, at_add, ← hsz, Nat.add_assoc] at h4
                  show w.cell? _ = _
                  rw [h4]; rfl
                · rw [hxl] at hi
                  obtain ⟨vs, h1, h2, h3⟩ := hpick i hi
                  have h4 := h3 k hk
                  have h5 : k < vs.length := by rw [h2.len, hU.enc_len]; exact hk
                  have h6 : k < (U.enc u (pick i)).length := by rw [hU.enc_len]; exact hk
                  rw [List.getElem?_eq_getElem h5, haddr (by omega), at_add, at_add, ← hsz, Nat.add_assoc] at h4
                  obtain ⟨v, h7, h8⟩ := h2.at_ k _ (List.getElem?_eq_getElem h6)
                  rw [List.getElem?_eq_getElem h5] at h7
                  simp only [Option.some.injEq] at h7
                  subst h7
                  rw [h4, hxi i hi, getD_of_getElem? (List.getElem?_eq_getElem h6)]
                  exact h8
              rw [hxl] at hmain
              refine ⟨[.isl .none u xs], .cons hmain .nil, .sl hu hue ?_ fun y hy => ?_⟩
              · rw [hxl]
                have := hw ((elems.length + rest.length) * P.bytesOf e) (by simp [DataW.weights, hu])
                rw [Nat.add_mul, helen] at this
                omega
              · obtain ⟨i, hi⟩ := List.getElem?_of_mem hy
                have hlt : i < len := by rw [← hxl]; exact (List.getElem?_eq_some_iff.1 hi).1
                have : xs.getD i (U.dft u) = y := getD_of_getElem? hi
                rw [hxi i hlt] at this
                obtain ⟨vs, h1, _⟩ := hpick i hlt
                rw [← this]; exact h1
            · cases h
      case struct fs =>
        rw [Bool.and_eq_true] at hp
        obtain ⟨hp1, hp2⟩ := hp
        obtain ⟨xs, n, hn, rfl, hlen, hxl, hf⟩ := DataW.trod_struct hu h
        simp only [Nat.add_right_cancel_iff] at hn
        subst hn
        rw [List.all_eq_true] at hp2
        cases htl : tiles P fs.toList 0 with
        | none => rw [htl] at hp1; cases hp1
        | some m =>
          rw [htl] at hp1
          have hm := nbeq hp1
          subst hm
          obtain ⟨l, h1, h2⟩ := assemble (U := U) (c := memCx w) (cs := cs) fs.toList 0 (P.cellsOf t) htl (by omega) fun f hfm => by
            obtain ⟨i, hi⟩ := List.getElem?_of_mem hfm
            have hlt := (List.getElem?_eq_some_iff.1 hi).1
            have h3 := hf i f (by rw [← Array.getElem?_toList]; exact hi)
            have hlx : i < xs.length := by rw [hxl]; simpa using hlt
            have hy : xs[i]? = some xs[i] := List.getElem?_eq_getElem hlx
            rw [hy] at h3
            refine open_ok hU hD fuel d f.type _ _ h3 (hp2 f hfm) fun n hn => hw n ?_
            simp only [DataW.weights, hu]
            exact DataW.weights_mem_each (j := i) (t := f.type) (d := xs[i].1) (by rw [List.getElem?_map, hi]; rfl) (by rw [List.getElem?_map, hy]; rfl) n hn
          refine ⟨l, ?_, .struct hu ?_ fun f hfm => by simpa using h2 f hfm⟩
          · rw [List.drop_zero, Nat.sub_zero] at h1
            have : cs.take (P.cellsOf t) = cs := List.take_of_length_le (by omega)
            rwa [this] at h1
          · have := h1.len
            simp at this; omega
end Go.Rf
namespace Go.Rf
set_option linter.unusedVariables false
set_option linter.unusedSimpArgs false
variable {U : Univ} {P : Program}

/-- a parameter's type and its typed face -/
def parOK (U : Univ) (P : Program) (t : TypeId) : Sh U.C → Bool
  | .int k => match P.underlying t with | some (.int k') => decide (k' = k) | _ => false
  | .bool => match P.underlying t with | some .bool => true | _ => false
  | .str => match P.underlying t with | some .string => true | _ => false
  | .isl u => match P.underlying t with | some (.slice e) => (match U.ofType e with | some v => (U.eq? v u).isSome | none => false) | _ => false
  | .data u => match P.underlying t with | some (.struct _) => (match U.ofType t with | some v => (U.eq? v u).isSome | none => false) | _ => false
  | _ => false

def parsOK (U : Univ) (P : Program) (d : Nat) : List TypeId → List (Sh U.C) → Bool
  | [], [] => true
  | t :: ts, s :: ss => parOK U P t s && plainT U P d t && parsOK U P d ts ss
  | _, _ => false

/-- what is known of typed arguments -/
def Fits (U : Univ) (P : Program) : List TypeId → (ss : List (Sh U.C)) → Ts U ss → Prop
  | t :: ts, s :: ss, x => Opens U P t (encV s x.1 0).l ∧ Fits U P ts ss x.2
  | [], [], _ => True
  | _, _, _ => False

section
variable {H : Type} {enc : TypeId × Value → H} {w : World} {spare : Nat → Bool} {held : Bool}

theorem RL.one_inv {c : Cx} {y : U.S} {v : Value} (h : RL U c [y] v.cells.toList) (hv : v.oneCell' = true) : R U c y v := by
  rw [cells_of_one hv] at h
  obtain ⟨u, vs, h1, h2, _⟩ := h.uncons
  simp only [List.cons.injEq] at h1
  rw [h1.1]; exact h2

theorem open_arg (hU : U.Ok) (hD : Decs U P) {d : Nat} {t : TypeId} {s : Sh U.C} {v : Value} {x : DataW H} {p : List MemPlace} {r : Reach} {base : Nat} (h : DataW.Trod enc P w 0 spare held t v x p) (hv : Value.okWide P w r base t v) (ho : parOK U P t s = true)
    (hp : plainT U P d t = true) (hw : ∀ n ∈ x.weights P t, n ≤ reachBytes) : ∃ y : s.T U, RV U (memCx w) (encV s y 0) v ∧ Opens U P t (encV s y 0).l ∧ s.isPtr = false := by
  obtain ⟨fuel, hf⟩ := h
  obtain ⟨l, h1, h2⟩ := open_ok hU hD fuel d t _ _ hf hp hw
  cases s with
  | int k =>
    simp only [parOK] at ho
    split at ho
    · rename_i k' ht
      have := of_decide_eq_true ho
      subst this
      obtain ⟨n, rfl, _⟩ := h2.toInt ht
      obtain ⟨n', rfl⟩ := WideShapes.okWide_int ht hv
      exact ⟨n, h1.one_inv rfl, h2, rfl⟩
    · cases ho
  | bool =>
    simp only [parOK] at ho
    split at ho
    · rename_i ht
      obtain ⟨n, rfl⟩ := h2.toBool ht
      obtain ⟨n', rfl⟩ := WideShapes.okWide_bool ht hv
      exact ⟨n, h1.one_inv rfl, h2, rfl⟩
    · cases ho
  | str =>
    simp only [parOK] at ho
    split at ho
    · rename_i ht
      obtain ⟨n, rfl, _⟩ := h2.toStr ht
      obtain ⟨n', rfl⟩ := WideShapes.okWide_string ht hv
      exact ⟨n, h1.one_inv rfl, h2, rfl⟩
    · cases ho
  | isl u =>
    simp only [parOK] at ho
    split at ho
    · rename_i e ht
      split at ho
      · rename_i v' hu
        cases he : U.eq? v' u with
        | none => rw [he] at ho; cases ho
        | some pl =>
          obtain ⟨e'⟩ := pl
          subst e'
          obtain ⟨xs, rfl, _⟩ := h2.toSl ht hu
          obtain ⟨a, len, cap, rfl⟩ := WideShapes.okWide_slice ht hv
          exact ⟨xs, h1.one_inv rfl, h2, rfl⟩
      · cases ho
    · cases ho
  | data u =>
    simp only [parOK] at ho
    split at ho
    · rename_i fs ht
      split at ho
      · rename_i v' hu
        cases he : U.eq? v' u with
        | none => rw [he] at ho; cases ho
        | some pl =>
          obtain ⟨e'⟩ := pl
          subst e'
          obtain ⟨cs, rfl, _⟩ := WideShapes.okWide_struct ht hv
          obtain ⟨y, h3, h4⟩ := hD t _ l hu h2
          exact ⟨y, ⟨cs, rfl, hU.dec_le _ l y h3 _ _ h1⟩, h4, rfl⟩
      · cases ho
    · cases ho
  | ptr => cases ho
  | iptr u => cases ho
  | optr u => cases ho
  | row u => cases ho

theorem open_args (hU : U.Ok) (hD : Decs U P) {d : Nat} {r : Reach} {base : Nat} : ∀ (ts : List TypeId) (ss : List (Sh U.C)) (vs : List Value) (ds : List (DataW H)) (ps : List MemPlace), DataW.TrodAll enc P w 0 spare held ts vs ds ps →
    (∀ (j : Nat) t v, ts[j]? = some t → vs[j]? = some v → Value.okWide P w r base t v) → parsOK U P d ts ss = true → (∀ n ∈ DataW.weightsEach P ts ds, n ≤ reachBytes) →
    ∃ x : Ts U ss, RVs U (memCx w) (encVs ss x 0) vs ∧ Fits U P ts ss x
  | [], [], vs, ds, ps, h, hv, ho, hw => by
    obtain ⟨rfl, rfl, rfl⟩ := ChangeShapes.trodAll_nil h
    exact ⟨(), ⟨rfl, fun k x hk => by simp [encVs] at hk⟩, trivial⟩
  | t :: ts, s :: ss, vs, ds, ps, h, hv, ho, hw => by
    obtain ⟨v, vs', dd, ds', p, q, rfl, rfl, rfl, h1, h2⟩ := ChangeShapes.trodAll_cons h
    unfold parsOK at ho
    rw [Bool.and_eq_true, Bool.and_eq_true] at ho
    simp only [DataW.weightsEach, List.mem_append] at hw
    obtain ⟨y, h3, h4, h5⟩ := open_arg hU hD h1 (hv 0 t v rfl rfl) ho.1.1 ho.1.2 fun n hn => hw n (.inl hn)
    obtain ⟨x, h6, h7⟩ := open_args hU hD ts ss vs' ds' q h2 (fun j t v h8 h9 => hv (j + 1) t v (by simpa using h8) (by simpa using h9)) ho.2 fun n hn => hw n (.inr hn)
    refine ⟨(y, x), ?_, h4, h7⟩
    unfold encVs
    rw [h5]
    exact .cons h3 h6
  | [], s :: ss, vs, ds, ps, h, hv, ho, hw => by cases ho
  | t :: ts, [], vs, ds, ps, h, hv, ho, hw => by cases ho

/-- a law's face: no memory of its own, a truth handed back -/
def lawSig (U : Univ) (ps : List (Sh U.C)) : Sig U := { pars := ps, heap := [], ress := [.bool], tup := false, new := [] }

theorem decV_bool {z : V U} {b : Bool} (h : decV (Sh.bool : Sh U.C) z = some b) : z = ⟨false, [.val (.bool b)]⟩ := by
  obtain ⟨g, l⟩ := z
  cases g with
  | true => cases h
  | false =>
    cases l with
    | nil => cases h
    | cons y r =>
      cases r with
      | cons y' r => cases y <;> first | (cases h; done) | (rename_i v; cases v <;> cases h)
      | nil => cases y <;> first | (cases h; done) | (rename_i v; cases v <;> first | (cases h; done) | (cases h; rfl))

theorem bool_res {c : Cx} {y : A U} {vs : List (V U)} {v : Value} {b : Bool} (hu : unRes false y = some vs) (hd : decVs [(Sh.bool : Sh U.C)] vs = some (b, ())) (hr : RA U c y v) : v = .bool b := by
  cases y with
  | t zs => cases hu
  | v z =>
    cases hu
    unfold decVs at hd
    split at hd
    · rename_i t ts h4 h5
      cases hd
      have := decV_bool h4
      subst this
      exact R.valEq (show R U c (.val (.bool b)) v from hr)
    · cases hd

/-- A LAW RETURNS TRUE, once its evaluation does. -/
theorem law_walk {ss : List (Sh U.C)} {Hn : Hints U} {L : Code → Prop} (hH : HintsOK U P Hn L) {f : Nat} {fn : Func} {code : Code} (hf : P.funcs[f]? = some fn) (hb : fn.body = some code) (hL : ∀ b, b ∈ loopsOf code → L b)
    {gos : Nat} {x : Ts U ss} (heq : runR P Hn fn gos none (lawSig U ss).fin ((lawSig U ss).args x) [] 0 = some ((true, ()), (), ())) (hn : ss.length ≤ fn.ntmps) (hro : Hn.ro = 0)
    {args : Array Value} (hx : RVs U (memCx w) (encVs ss x 0) args.toList) : Calls P f args w fun e w' => e = .returned (.bool true) ∧ RowKit.Below w.heap.size w w' := by
  have hG : G U (memCx w) (fun _ _ _ => False) [] w := ⟨fun s e he => (by cases he), fun _ _ _ _ _ _ _ h _ => h.elim, fun b o v hv => hv, fun _ _ _ _ h => h.elim⟩
  have hA : RAs U (memCx w) ((lawSig U ss).args x) args.toList := by
    refine ⟨by rw [hx.len]; simp [Sig.args, lawSig], fun k y hk => ?_⟩
    unfold Sig.args at hk
    rw [List.getElem?_map] at hk
    cases hz : (encVs ss x 0)[k]? with
    | none => rw [show (encVs (lawSig U ss).pars x 0)[k]? = none from hz] at hk; cases hk
    | some z => rw [show (encVs (lawSig U ss).pars x 0)[k]? = some z from hz] at hk; cases hk; exact hx.at_ k z hz
  refine (runR_ok (S := fun y => y = some ((true, ()), (), ())) hH hf hb hL (fun h => by cases h) heq (by simp [Sig.args, encVs_length, lawSig]; exact hn) (by rw [hro]; exact Nat.le_refl _) (Nat.zero_le _) hG (fun s _ => ⟨rfl, fun _ => rfl⟩) hA).mono ?_
  rintro e w' ⟨v, rfl, y, h', c', Φ', hfin, hR, hG', hE⟩
  refine ⟨?_, hE.fr.rest.1, hE.fr.rest.2.1, hE.fr.rest.2.2, hE.fr.size, fun b hb => hE.fr.obj b hb fun o ⟨s, _, h1, _⟩ => by cases h1⟩
  have hfin : (lawSig U ss).fin0 y h' = some ((true, ()), (), ()) := by
    unfold Sig.fin at hfin
    split at hfin
    · exact hfin
    · rename_i l hne
      exfalso
      refine hne ?_
      unfold Sig.ends
      simp only [lawSig, List.drop_nil, foldNames, List.nil_append]
      split
      · split
        · rename_i ps _
          cases ps <;> rfl
        · rfl
      · rfl
  obtain ⟨vs, ps, h1, h2, _⟩ := sig_done hfin
  rw [bool_res h1 h2 hR]
end
end Go.Rf
namespace Go.Rf
set_option linter.unusedVariables false
set_option linter.unusedSimpArgs false

/-! ### what a seat's types need -/
def dList {C : Type} {D : C → Type} [DecidableEq C] (u : C) : S C D → Option (List (D u))
  | .isl _ v xs => if h : v = u then some (h ▸ xs) else none
  | .val (.slice none 0 0) => some []
  | _ => none
def dInt {C : Type} {D : C → Type} (k : IntKind) : S C D → Option Int
  | .val (.int j n) => if j = k then some n else none
  | _ => none
def dBool {C : Type} {D : C → Type} : S C D → Option Bool
  | .val (.bool b) => some b
  | _ => none
def dStr {C : Type} {D : C → Type} : S C D → Option ByteArray
  | .val (.string b) => some b
  | _ => none

variable {U : Univ} {P : Program} {c : Cx}

theorem dInt_le {k : IntKind} {x : U.S} {n : Int} {v : Value} (h : dInt k x = some n) (hr : R U c x v) : R U c (.val (.int k n)) v := by
  unfold dInt at h
  split at h
  · split at h
    · rename_i e; subst e; cases h; exact hr
    · cases h
  · cases h
theorem dBool_le {x : U.S} {n : Bool} {v : Value} (h : dBool x = some n) (hr : R U c x v) : R U c (.val (.bool n)) v := by
  unfold dBool at h
  split at h
  · cases h; exact hr
  · cases h
theorem dStr_le {x : U.S} {n : ByteArray} {v : Value} (h : dStr x = some n) (hr : R U c x v) : R U c (.val (.string n)) v := by
  unfold dStr at h
  split at h
  · cases h; exact hr
  · cases h
theorem dList_le {inst : DecidableEq U.C} {u : U.C} {x : U.S} {n : List (U.D u)} {v : Value} (h : @dList _ _ inst u x = some n) (hr : R U c x v) : R U c (.isl .none u n) v := by
  unfold dList at h
  split at h
  · split at h
    · rename_i e
      subst e
      cases h
      cases hr with
      | isl g hc ht ha hi hrr => exact .isl g hc trivial ha hi hrr
    · cases h
  · cases h
    cases R.valEq hr
    exact R.isl (xs := []) (b := 0) (o := 0) (fun _ _ => undef) (Nat.le_refl _) trivial (fun hh => by simp at hh) (fun i k hi => by simp at hi) (fun i k hi => by simp at hi)
  · cases h

def dOptr {C : Type} {D : C → Type} [DecidableEq C] (u : C) : S C D → Option (Option (D u))
  | .optr v x => if h : v = u then some (h ▸ x) else none
  | .iptr v x 0 => if h : v = u then some (some (h ▸ x)) else none
  | .val (.pointer none) => some none
  | _ => none
theorem dOptr_le {inst : DecidableEq U.C} {u : U.C} {x : U.S} {n : Option (U.D u)} {v : Value} (h : @dOptr _ _ inst u x = some n) (hr : R U c x v) : R U c (.optr u n) v := by
  unfold dOptr at h
  split at h
  · split at h
    · rename_i e
      subst e
      cases h
      exact hr
    · cases h
  · split at h
    · rename_i e
      subst e
      cases h
      cases hr with
      | iptr g hi hrr => exact .osome g hi hrr
    · cases h
  · cases h
    cases R.valEq hr
    exact .onil
  · cases h

/-! ### structs, leaf by leaf -/
inductive Lf (C : Type) where
  | int (k : IntKind)
  | bool
  | str
  | list (u : C)
  | box (u : C)
  | row (u : C)
  | olist (u : C)
  | aarr (u : C) (n : Nat)
  | hole

abbrev Lf.T {C : Type} (D : C → Type) : Lf C → Type
  | .int _ => Int
  | .bool => Bool
  | .str => ByteArray
  | .list u => List (D u)
  | .box u => Option (D u)
  | .row u => List (D u)
  | .olist u => List (D u)
  | .aarr u _ => Nat → D u
  | .hole => Unit

abbrev HL {C : Type} (D : C → Type) : List (Lf C) → Type
  | [] => Unit
  | l :: r => l.T D × HL D r

def Lf.enc {C : Type} {D : C → Type} : (l : Lf C) → l.T D → S C D
  | .int k, n => .val (.int k n)
  | .bool, b => .val (.bool b)
  | .str, s => .val (.string s)
  | .list u, xs => .isl .none u xs
  | .box u, x => .box u x
  | .row u, x => .row u x
  | .olist u, x => .olist u x
  | .aarr u n, f => .aarr u n f
  | .hole, _ => .hole

def dBox {C : Type} {D : C → Type} [DecidableEq C] (u : C) : S C D → Option (Option (D u))
  | .box v x => if h : v = u then some (h ▸ x) else none
  | _ => none
def dRow {C : Type} {D : C → Type} [DecidableEq C] (u : C) : S C D → Option (List (D u))
  | .row v x => if h : v = u then some (h ▸ x) else none
  | _ => none
def dOlist {C : Type} {D : C → Type} [DecidableEq C] (u : C) : S C D → Option (List (D u))
  | .olist v x => if h : v = u then some (h ▸ x) else none
  | _ => none
def dAarr {C : Type} {D : C → Type} [DecidableEq C] (u : C) (n : Nat) : S C D → Option (Nat → D u)
  | .aarr v m x => if h : v = u then (if m = n then some (h ▸ x) else none) else none
  | _ => none
def dHole {C : Type} {D : C → Type} : S C D → Option Unit
  | .hole => some ()
  | _ => none

def Lf.dec {C : Type} {D : C → Type} [DecidableEq C] : (l : Lf C) → S C D → Option (l.T D)
  | .int k, x => dInt k x
  | .bool, x => dBool x
  | .str, x => dStr x
  | .list u, x => dList u x
  | .box u, x => dBox u x
  | .row u, x => dRow u x
  | .olist u, x => dOlist u x
  | .aarr u n, x => dAarr u n x
  | .hole, x => dHole x

def encL {C : Type} {D : C → Type} : (ls : List (Lf C)) → HL D ls → List (S C D)
  | [], _ => []
  | l :: r, t => l.enc t.1 :: encL r t.2

def decL {C : Type} {D : C → Type} [DecidableEq C] : (ls : List (Lf C)) → List (S C D) → Option (HL D ls)
  | [], [] => some ()
  | l :: r, x :: xs => match l.dec x, decL r xs with
    | some t, some ts => some (t, ts)
    | _, _ => none
  | _, _ => none

theorem dInt_cell {k : IntKind} {x : U.S} {n : Int} (h : dInt k x = some n) : SLe U x (.val (.int k n)) :=
  ⟨(by unfold dInt at h; split at h <;> first | rfl | cases h), fun c v hr => dInt_le h hr, fun hc => (by unfold dInt at h; split at h <;> first | cases hc | cases h)⟩
theorem dBool_cell {x : U.S} {n : Bool} (h : dBool x = some n) : SLe U x (.val (.bool n)) :=
  ⟨(by unfold dBool at h; split at h <;> first | rfl | cases h), fun c v hr => dBool_le h hr, fun hc => (by unfold dBool at h; split at h <;> first | cases hc | cases h)⟩
theorem dStr_cell {x : U.S} {n : ByteArray} (h : dStr x = some n) : SLe U x (.val (.string n)) :=
  ⟨(by unfold dStr at h; split at h <;> first | rfl | cases h), fun c v hr => dStr_le h hr, fun hc => (by unfold dStr at h; split at h <;> first | cases hc | cases h)⟩
theorem dList_cell {inst : DecidableEq U.C} {u : U.C} {x : U.S} {n : List (U.D u)} (h : @dList _ _ inst u x = some n) : SLe U x (.isl .none u n) :=
  ⟨(by unfold dList at h; split at h <;> first | rfl | cases h), fun c v hr => dList_le h hr, fun hc => (by unfold dList at h; split at h <;> first | cases hc | cases h)⟩
theorem dOptr_cell {inst : DecidableEq U.C} {u : U.C} {x : U.S} {n : Option (U.D u)} (h : @dOptr _ _ inst u x = some n) : SLe U x (.optr u n) :=
  ⟨(by unfold dOptr at h; split at h <;> first | rfl | cases h), fun c v hr => dOptr_le h hr, fun hc => (by unfold dOptr at h; split at h <;> first | cases hc | cases h)⟩

theorem Lf.dec_cell {inst : DecidableEq U.C} {l : Lf U.C} {x : U.S} {t : l.T U.D} (h : @Lf.dec _ _ inst l x = some t) : SLe U x (l.enc t) := by
  cases l with
  | int k => exact dInt_cell h
  | bool => exact dBool_cell h
  | str => exact dStr_cell h
  | list u => exact dList_cell h
  | box u =>
    simp only [Lf.dec] at h
    unfold dBox at h
    split at h
    · split at h
      · rename_i e; subst e; cases h; exact .refl _
      · cases h
    · cases h
  | row u =>
    simp only [Lf.dec] at h
    unfold dRow at h
    split at h
    · split at h
      · rename_i e; subst e; cases h; exact .refl _
      · cases h
    · cases h
  | olist u =>
    simp only [Lf.dec] at h
    unfold dOlist at h
    split at h
    · split at h
      · rename_i e; subst e; cases h; exact .refl _
      · cases h
    · cases h
  | aarr u n =>
    simp only [Lf.dec] at h
    unfold dAarr at h
    split at h
    · split at h
      · rename_i e
        subst e
        split at h
        · rename_i e; subst e; cases h; exact .refl _
        · cases h
      · cases h
    · cases h
  | hole =>
    simp only [Lf.dec] at h
    unfold dHole at h
    split at h
    · cases h; exact .refl _
    · cases h

theorem decL_cell {inst : DecidableEq U.C} : ∀ {ls : List (Lf U.C)} {l : List U.S} {t : HL U.D ls}, @decL _ _ inst ls l = some t →
    l.length = ls.length ∧ ∀ (k : Nat) y, l[k]? = some y → ∃ z, (encL ls t)[k]? = some z ∧ SLe U y z
  | [], [], t, h => ⟨rfl, fun k y hk => by simp at hk⟩
  | f :: r, x :: xs, t, h => by
    unfold decL at h
    split at h
    · rename_i t1 t2 h1 h2
      cases h
      obtain ⟨h3, h4⟩ := decL_cell h2
      refine ⟨by simp [h3], fun k y hk => ?_⟩
      cases k with
      | zero => simp at hk; subst hk; exact ⟨_, rfl, Lf.dec_cell h1⟩
      | succ k => simp at hk; simpa [encL] using h4 k y hk
    · cases h
  | [], x :: xs, t, h => by cases h
  | f :: r, [], t, h => by cases h

/-- one cell -/
theorem one_cell {x z : U.S} (h : SLe U x z) : [x].length = 1 ∧ ∀ (k : Nat) y, [x][k]? = some y → ∃ z', [z][k]? = some z' ∧ SLe U y z' :=
  ⟨rfl, fun k y hk => by
    cases k with
    | zero => simp at hk; subst hk; exact ⟨z, rfl, h⟩
    | succ k => simp at hk⟩

theorem partL {α : Type} (l : List α) (o s o' : Nat) (h : o' = o + s) : l.drop o = (l.drop o).take s ++ l.drop o' := by
  subst h
  rw [← List.drop_drop, List.take_append_drop]

theorem u8_back {n : Int} (hb : 0 ≤ n ∧ n < 256) : ((UInt8.ofNat n.toNat).toNat : Int) = n := by
  have h1 : n.toNat < 256 := by omega
  rw [UInt8.toNat_ofNat_of_lt' (by simpa using h1)]
  omega

theorem byte_le {n : Int} {v : Value} (hr : R U c (.val (.int .u8 n)) v) : R U c (.val (.int .u8 ((UInt8.ofNat n.toNat).toNat : Int))) v := by
  rw [u8_back (u8_okV hr.okV)]; exact hr

theorem byte_cell {n : Int} (hb : True) : SLe U (.val (.int .u8 n)) (.val (.int .u8 ((UInt8.ofNat n.toNat).toNat : Int))) :=
  ⟨rfl, fun c v hr => byte_le hr, fun h => by cases h⟩

theorem u8_le {x : U.S} {b : UInt8} {v : Value} {n : Int} (h : x = .val (.int .u8 n)) (hb : 0 ≤ n ∧ n < 256) (he : b = UInt8.ofNat n.toNat) (hr : R U c x v) : R U c (.val (.int .u8 (b.toNat : Int))) v := by
  subst h; subst he
  have : ((UInt8.ofNat n.toNat).toNat : Int) = n := by
    have h1 : n.toNat < 256 := by omega
    rw [UInt8.toNat_ofNat_of_lt' (by simpa using h1)]
    omega
  rw [this]; exact hr
end Go.Rf
namespace Go.Rf
set_option linter.unusedVariables false
variable {U : Univ} {P : Program}

/-! ### the callees so far -/
def noΓ : Nat → Option (Native U) := fun _ => none
theorem noΓ_ok : GammaOK U P noΓ := fun f N h => by cases h

def addΓ (f : Nat) (N : Native U) (Γ : Nat → Option (Native U)) : Nat → Option (Native U) := fun n => bif Nat.beq n f then some N else Γ n
theorem addΓ_ok {f : Nat} {N : Native U} {Γ : Nat → Option (Native U)} (h : GammaOK U P Γ) (hN : NativeOK U P f N) : GammaOK U P (addΓ f N Γ) := by
  intro n M hM
  unfold addΓ at hM
  cases hb : Nat.beq n f with
  | true => rw [hb] at hM; cases hM; rw [nbeq hb]; exact hN
  | false => rw [hb] at hM; exact h n M hM

/-- no function: a mark that arrays of a type are opened -/
def noNat : Native U := fun _ _ _ => .fail
theorem noNat_ok {f : Nat} : NativeOK U P f noNat := fun as h nx out ho => (outs_fail ho).elim

/-- what never comes to an end in time tells nothing -/
theorem native_none {g : Sig U} {f : Nat} : NativeOK U P f (g.native fun _ _ => none) := by
  have h0 : ∀ as (h : Heap U) nx out, (g.native0 (fun _ _ => none) as h nx).outs = some out → False := fun as h nx out ho => by
    unfold Sig.native0 at ho
    split at ho
    · split at ho
      · split at ho
        · revert ho
          generalize distinct _ = d
          intro ho
          cases d <;> cases ho
        · exact outs_fail ho
      · exact outs_fail ho
    · exact outs_fail ho
  intro as h' nx out ho
  unfold Sig.native at ho
  split at ho
  · exact (h0 _ _ _ _ ho).elim
  · obtain ⟨o, h1, _⟩ := addW_outs ho
    exact (h0 _ _ _ _ h1).elim

theorem some_bif {α : Type} {c : Bool} {x y : α} : (bif c then some x else some y) = some (bif c then x else y) := by cases c <;> rfl

/-- hints with loops -/
theorem hints_of_loops {Hn : Hints U} (hU : U.Ok) (hP : U.Pure) (hm : P.follows .mixedOrders = true) (hΓ : GammaOK U P Hn.Γ) {l : List Code} (hl : ∀ b N, .loop b ∈ l → Hn.loop (firstRegion b) = some N → LoopOK U P Hn.ro Hn.base b N)
    (hs : ∀ b lb rest N, .scope b ∈ l → findLabel b lb = some rest → Hn.label lb = some N → LabelOK U P Hn.ro Hn.base b rest N) (hi : InlOK U P Hn.ro Hn.inl) : HintsOK U P Hn (fun c => c ∈ l) :=
  ⟨hU, hP, hm, hΓ, hl, hs, hi⟩

theorem inl_none {ro : Nat} {I : Nat → Option (NatC U)} (h : ∀ f, I f = none) : InlOK U P ro I := fun f N hN => by rw [h] at hN; cases hN
def addI (f : Nat) (N : NatC U) (I : Nat → Option (NatC U)) : Nat → Option (NatC U) := fun n => bif Nat.beq n f then some N else I n
def noI : Nat → Option (NatC U) := fun _ => none
theorem noI_ok {ro : Nat} : InlOK U P ro noI := fun f N h => by cases h
theorem addI_ok {ro f : Nat} {N : NatC U} {I : Nat → Option (NatC U)} (h : InlOK U P ro I) (hN : NatCOK U P ro f N) : InlOK U P ro (addI f N I) := by
  intro n M hM
  unfold addI at hM
  cases hb : Nat.beq n f with
  | true => rw [hb] at hM; cases hM; rw [nbeq hb]; exact hN
  | false => rw [hb] at hM; exact h n M hM

/-- a loop of a few rounds, round by round -/
def unrollN (P : Program) (Hn : Hints U) (gos : Nat) (b : Code) : Nat → LoopN U
  | 0, ρ, st, fail, K => fail
  | n + 1, ρ, st, fail, K => run P Hn gos ρ fail b st fun e st => match e with
    | .normal => unrollN P Hn gos b n ρ st fail K
    | e => K e st

theorem unrollN_ok {Hn : Hints U} {L : Code → Prop} (hH : HintsOK U P Hn L) {gos : Nat} {b : Code} (hL : ∀ b', b' ∈ loopsOf b → L b') : ∀ (n : Nat), LoopOK U P Hn.ro Hn.base b (unrollN P Hn gos b n)
  | 0 => fun ρ S fail hf st K h => (hf h).elim
  | n + 1 => fun ρ S fail hf st K h B a w hro hA => by
    refine LoopIn.round (wp_mono (run_ok hH gos b hL ρ S fail hf st _ h B a w hro hA) fun e a' w' ⟨st', h1, h2⟩ => ?_)
    cases e with
    | normal => exact unrollN_ok hH hL n ρ S fail hf st' K h1 B a' w' hro h2
    | exit i => exact ⟨st', h1, h2⟩
    | goto l => exact ⟨st', h1, h2⟩
    | ret => exact ⟨st', h1, h2⟩
    | panic ch => exact ⟨st', h1, h2⟩
    | outgrown => exact ⟨st', h1, h2⟩


section
variable {Hn : Hints U} {l : List Code}
theorem loops_nil : ∀ b N, Code.loop b ∈ ([] : List Code) → Hn.loop (firstRegion b) = some N → LoopOK U P Hn.ro Hn.base b N := fun b N h => by cases h
theorem loops_cons {b0 : Code} {N0 : LoopN U} (h0 : Hn.loop (firstRegion b0) = some N0) (hN : LoopOK U P Hn.ro Hn.base b0 N0) (hl : ∀ b N, Code.loop b ∈ l → Hn.loop (firstRegion b) = some N → LoopOK U P Hn.ro Hn.base b N) :
    ∀ b N, Code.loop b ∈ Code.loop b0 :: l → Hn.loop (firstRegion b) = some N → LoopOK U P Hn.ro Hn.base b N := fun b N h hb => by
  rcases List.mem_cons.1 h with h | h
  · cases h
    rw [h0] at hb; cases hb; exact hN
  · exact hl b N h hb
theorem loops_skip {b0 : Code} (hl : ∀ b N, Code.loop b ∈ l → Hn.loop (firstRegion b) = some N → LoopOK U P Hn.ro Hn.base b N) :
    ∀ b N, Code.loop b ∈ Code.scope b0 :: l → Hn.loop (firstRegion b) = some N → LoopOK U P Hn.ro Hn.base b N := fun b N h hb => by
  rcases List.mem_cons.1 h with h | h
  · cases h
  · exact hl b N h hb
theorem labels_none (h : ∀ lb, Hn.label lb = none) : ∀ b lb rest N, Code.scope b ∈ l → findLabel b lb = some rest → Hn.label lb = some N → LabelOK U P Hn.ro Hn.base b rest N := fun b lb rest N _ _ hN => by rw [h] at hN; cases hN
theorem labels_nil : ∀ b lb rest N, Code.scope b ∈ ([] : List Code) → findLabel b lb = some rest → Hn.label lb = some N → LabelOK U P Hn.ro Hn.base b rest N := fun b lb rest N h => by cases h
theorem labels_skip {b0 : Code} (hl : ∀ b lb rest N, Code.scope b ∈ l → findLabel b lb = some rest → Hn.label lb = some N → LabelOK U P Hn.ro Hn.base b rest N) :
    ∀ b lb rest N, Code.scope b ∈ Code.loop b0 :: l → findLabel b lb = some rest → Hn.label lb = some N → LabelOK U P Hn.ro Hn.base b rest N := fun b lb rest N h => by
  rcases List.mem_cons.1 h with h | h
  · cases h
  · exact hl b lb rest N h
theorem labels_cons {b0 : Code} (h0 : ∀ lb rest N, findLabel b0 lb = some rest → Hn.label lb = some N → LabelOK U P Hn.ro Hn.base b0 rest N) (hl : ∀ b lb rest N, Code.scope b ∈ l → findLabel b lb = some rest → Hn.label lb = some N → LabelOK U P Hn.ro Hn.base b rest N) :
    ∀ b lb rest N, Code.scope b ∈ Code.scope b0 :: l → findLabel b lb = some rest → Hn.label lb = some N → LabelOK U P Hn.ro Hn.base b rest N := fun b lb rest N h => by
  rcases List.mem_cons.1 h with h | h
  · cases h; exact h0 lb rest N
  · exact hl b lb rest N h
/-- a scope with one label that is gone back to -/
theorem label_one {b0 r0 : Code} {l0 : Nat} {N0 : LoopN U} (hr : findLabel b0 l0 = some r0) (h0 : ∀ lb, Hn.label lb = bif Nat.beq lb l0 then some N0 else none) (hN : LabelOK U P Hn.ro Hn.base b0 r0 N0) :
    ∀ lb rest N, findLabel b0 lb = some rest → Hn.label lb = some N → LabelOK U P Hn.ro Hn.base b0 rest N := fun lb rest N h1 h2 => by
  rw [h0] at h2
  cases hb : Nat.beq lb l0 with
  | false => rw [hb] at h2; cases h2
  | true =>
    rw [hb] at h2; cases h2
    have := nbeq hb
    subst this
    rw [hr] at h1; cases h1; exact hN
theorem label_other {b0 : Code} {l0 : Nat} {N0 : LoopN U} (hr : findLabel b0 l0 = none) (h0 : ∀ lb, Hn.label lb = bif Nat.beq lb l0 then some N0 else none) :
    ∀ lb rest N, findLabel b0 lb = some rest → Hn.label lb = some N → LabelOK U P Hn.ro Hn.base b0 rest N := fun lb rest N h1 h2 => by
  rw [h0] at h2
  cases hb : Nat.beq lb l0 with
  | false => rw [hb] at h2; cases h2
  | true =>
    have := nbeq hb
    subst this
    rw [hr] at h1; cases h1
end
end Go.Rf
namespace Go.Rf
set_option linter.unusedVariables false
open Go.ChangeShapes Go.RowKit
section
variable {H : Type} {enc : TypeId × Value → H} {P : Program} {W W' : World}

/-- no elements, with their type told -/
abbrev lnil (α : Type) : List α := []
abbrev ofN (n : Nat) : Int := n

theorem trodAll_lt : ∀ {ts : List TypeId} {vs : List Value} {ds : List (DataW H)} {ps : List MemPlace}, DataW.TrodAll enc P W 0 (fun _ => true) true ts vs ds ps → ∀ x ∈ ps, x.block < W.heap.size
  | [], vs, ds, ps, h, x, hx => by
    obtain ⟨rfl, rfl, rfl⟩ := trodAll_nil h
    cases hx
  | t :: ts, vs, ds, ps, h, x, hx => by
    obtain ⟨v, vs', d, ds', p, q, rfl, rfl, rfl, h1, h2⟩ := trodAll_cons h
    rcases List.mem_append.1 hx with hx | hx
    · obtain ⟨m, hm⟩ := h1
      exact DataW.trod_lt m _ _ _ hm x hx
    · exact trodAll_lt h2 x hx

/-- all arguments read behind the call as before -/
theorem trodAll_back (hl : laidOutB P = true) (bel : Below W.heap.size W W') : ∀ {ts : List TypeId} {vs : List Value} {ds : List (DataW H)} {ps : List MemPlace}, (∀ t ∈ ts, P.readableRec t = true ∧ t < P.types.size) →
    DataW.TrodAll enc P W 0 (fun _ => true) true ts vs ds ps → DataW.TrodAll enc P W' 0 (fun b => decide (b < W.heap.size)) true ts vs ds ps
  | [], vs, ds, ps, ht, h => by
    obtain ⟨rfl, rfl, rfl⟩ := trodAll_nil h
    exact trodAll_mk0
  | t :: ts, vs, ds, ps, ht, h => by
    obtain ⟨v, vs', d, ds', p, q, rfl, rfl, rfl, h1, h2⟩ := trodAll_cons h
    refine trodAll_cons_mk ?_ (trodAll_back hl bel (fun t ht' => ht t (List.mem_cons_of_mem _ ht')) h2)
    obtain ⟨h3, h4⟩ := ht t (List.mem_cons_self ..)
    refine Below.trod hl h3 h4 h1 bel fun x hx => ?_
    obtain ⟨m, hm⟩ := h1
    exact DataW.trod_lt m _ _ _ hm x hx
end
end Go.Rf
