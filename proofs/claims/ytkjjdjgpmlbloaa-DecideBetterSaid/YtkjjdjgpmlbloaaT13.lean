/- Typed forms of the functions that these statements reach, proved equal to what the model runs, and laws over them. -/
import Derived.Test.YtkjjdjgpmlbloaaRfD
import Derived.KernelRfl
import Derived.Test.YtkjjdjgpmlbloaaProg
namespace Go.Proofs.Ytkjjdjgpmlbloaa
open Go.Rf
set_option linter.unusedVariables false
set_option linter.unusedSimpArgs false
structure api_Quality where
  fClass : Int
  fAccuracy : Int
  fVariance : Int

structure api_PortID where
  fClock : Int
  fPort : Int

structure api_Vector where
  fPriority1 : Int
  fQuality : api_Quality
  fPriority2 : Int
  fGrand : Int
  fSteps : Int
  fSender : api_PortID
  fReceiver : api_PortID

def api_Quality.zero : api_Quality := ⟨0, 0, 0⟩
def api_PortID.zero : api_PortID := ⟨0, 0⟩
def api_Vector.zero : api_Vector := ⟨0, api_Quality.zero, 0, 0, 0, api_PortID.zero, api_PortID.zero⟩
inductive UC where
  | u8 | bool | t_api_Vector | int | p_t_api_Vector | str | t_api_Quality | t_api_PortID
  deriving DecidableEq
abbrev D : UC → Type
  | .u8 => UInt8
  | .bool => Bool
  | .t_api_Vector => api_Vector
  | .int => Int
  | .p_t_api_Vector => Option (api_Vector)
  | .str => ByteArray
  | .t_api_Quality => api_Quality
  | .t_api_PortID => api_PortID
abbrev Cel := Go.Rf.S UC D
def api_Quality.enc (x : api_Quality) : List (Cel) := [.val (.int .i64 x.fClass), .val (.int .i64 x.fAccuracy), .val (.int .i64 x.fVariance)]
def api_Quality.ls : List (Lf UC) := [.int .i64, .int .i64, .int .i64]
def api_Quality.toS (t : HL D api_Quality.ls) : api_Quality := ⟨t.1, t.2.1, t.2.2.1⟩
def api_Quality.dec (l : List Cel) : Option api_Quality := match decL api_Quality.ls l with
  | some t => some (api_Quality.toS t)
  | none => none
def api_PortID.enc (x : api_PortID) : List (Cel) := [.val (.int .u64 x.fClock), .val (.int .i64 x.fPort)]
def api_PortID.ls : List (Lf UC) := [.int .u64, .int .i64]
def api_PortID.toS (t : HL D api_PortID.ls) : api_PortID := ⟨t.1, t.2.1⟩
def api_PortID.dec (l : List Cel) : Option api_PortID := match decL api_PortID.ls l with
  | some t => some (api_PortID.toS t)
  | none => none
def api_Vector.enc (x : api_Vector) : List (Cel) := [.val (.int .i64 x.fPriority1), .val (.int .i64 x.fQuality.fClass), .val (.int .i64 x.fQuality.fAccuracy), .val (.int .i64 x.fQuality.fVariance), .val (.int .i64 x.fPriority2), .val (.int .u64 x.fGrand), .val (.int .i64 x.fSteps), .val (.int .u64 x.fSender.fClock), .val (.int .i64 x.fSender.fPort), .val (.int .u64 x.fReceiver.fClock), .val (.int .i64 x.fReceiver.fPort)]
def api_Vector.ls : List (Lf UC) := [.int .i64, .int .i64, .int .i64, .int .i64, .int .i64, .int .u64, .int .i64, .int .u64, .int .i64, .int .u64, .int .i64]
def api_Vector.toS (t : HL D api_Vector.ls) : api_Vector := ⟨t.1, ⟨t.2.1, t.2.2.1, t.2.2.2.1⟩, t.2.2.2.2.1, t.2.2.2.2.2.1, t.2.2.2.2.2.2.1, ⟨t.2.2.2.2.2.2.2.1, t.2.2.2.2.2.2.2.2.1⟩, ⟨t.2.2.2.2.2.2.2.2.2.1, t.2.2.2.2.2.2.2.2.2.2.1⟩⟩
def api_Vector.dec (l : List Cel) : Option api_Vector := match decL api_Vector.ls l with
  | some t => some (api_Vector.toS t)
  | none => none
def dec_u8 : List Cel → Option UInt8
  | [.val (.int .u8 n)] => some (UInt8.ofNat n.toNat)
  | _ => none
def dec_bool : List Cel → Option (Bool)
  | [c] => dBool c
  | _ => none
def dec_int : List Cel → Option (Int)
  | [c] => dInt .i64 c
  | _ => none
def dec_p_t_api_Vector : List Cel → Option (Option (api_Vector))
  | [c] => dOptr (C := UC) (D := D) .t_api_Vector c
  | _ => none
def dec_str : List Cel → Option (ByteArray)
  | [c] => dStr c
  | _ => none
def ofT (t : Nat) : Option UC := match t with | 2 => some .int | 3 => some .int | 4 => some .bool | 5 => some .u8 | 6 => some .u8 | 9 => some .str | 10 => some .str | 11 => some .str | 23 => some .t_api_Quality | 26 => some .t_api_PortID | 28 => some .t_api_Vector | 42 => some .p_t_api_Vector | 65 => some .u8 | 66 => some .u8 | _ => none
def U : Univ where
  C := UC
  D := D
  dft := fun u => match u with | .u8 => 0 | .bool => false | .t_api_Vector => api_Vector.zero | .int => 0 | .p_t_api_Vector => none | .str => ByteArray.empty | .t_api_Quality => api_Quality.zero | .t_api_PortID => api_PortID.zero
  size := fun u => match u with | .u8 => 1 | .bool => 1 | .t_api_Vector => 11 | .int => 1 | .p_t_api_Vector => 1 | .str => 1 | .t_api_Quality => 3 | .t_api_PortID => 2
  enc := fun u => match u with
    | .u8 => fun x => [.val (.int .u8 x.toNat)]
    | .bool => fun x => [.val (.bool x)]
    | .t_api_Vector => api_Vector.enc
    | .int => fun x => [.val (.int .i64 x)]
    | .p_t_api_Vector => fun x => [.optr .t_api_Vector x]
    | .str => fun x => [.val (.string x)]
    | .t_api_Quality => api_Quality.enc
    | .t_api_PortID => api_PortID.enc
  dec := fun u => match u with
    | .u8 => dec_u8
    | .bool => dec_bool
    | .t_api_Vector => api_Vector.dec
    | .int => dec_int
    | .p_t_api_Vector => dec_p_t_api_Vector
    | .str => dec_str
    | .t_api_Quality => api_Quality.dec
    | .t_api_PortID => api_PortID.dec
  ofType := ofT
  eq? := fun u v => if h : u = v then some ⟨h⟩ else none
  plain := fun u => match u with  | _ => true
  toBytes := fun u => match u with | .u8 => fun l => some l | _ => fun _ => none
  u8 := .u8
  ofBytes := fun l => l

theorem api_Quality.dec_cell {l : List Cel} {x : api_Quality} (h : api_Quality.dec l = some x) : l.length = api_Quality.ls.length ∧ ∀ (k : Nat) y, l[k]? = some y → ∃ z, x.enc[k]? = some z ∧ SLe U y z := by
  unfold api_Quality.dec at h
  split at h
  · rename_i t ht
    cases h
    have e : (api_Quality.toS t).enc = encL api_Quality.ls t := by kernel_rfl
    rw [e]
    exact decL_cell (U := U) ht
  · cases h
theorem api_PortID.dec_cell {l : List Cel} {x : api_PortID} (h : api_PortID.dec l = some x) : l.length = api_PortID.ls.length ∧ ∀ (k : Nat) y, l[k]? = some y → ∃ z, x.enc[k]? = some z ∧ SLe U y z := by
  unfold api_PortID.dec at h
  split at h
  · rename_i t ht
    cases h
    have e : (api_PortID.toS t).enc = encL api_PortID.ls t := by kernel_rfl
    rw [e]
    exact decL_cell (U := U) ht
  · cases h
theorem api_Vector.dec_cell {l : List Cel} {x : api_Vector} (h : api_Vector.dec l = some x) : l.length = api_Vector.ls.length ∧ ∀ (k : Nat) y, l[k]? = some y → ∃ z, x.enc[k]? = some z ∧ SLe U y z := by
  unfold api_Vector.dec at h
  split at h
  · rename_i t ht
    cases h
    have e : (api_Vector.toS t).enc = encL api_Vector.ls t := by kernel_rfl
    rw [e]
    exact decL_cell (U := U) ht
  · cases h
theorem dec_u8_cell {l : List Cel} {x : UInt8} (h : dec_u8 l = some x) : l.length = 1 ∧ ∀ (k : Nat) y, l[k]? = some y → ∃ z, (U.enc .u8 x)[k]? = some z ∧ SLe U y z := by
  unfold dec_u8 at h
  split at h
  · cases h
    exact one_cell (U := U) (byte_cell (U := U) trivial)
  · cases h
theorem dec_bool_cell {l : List Cel} {x : Bool} (h : dec_bool l = some x) : l.length = 1 ∧ ∀ (k : Nat) y, l[k]? = some y → ∃ z, (U.enc .bool x)[k]? = some z ∧ SLe U y z := by
  unfold dec_bool at h
  split at h
  · exact one_cell (U := U) (dBool_cell (U := U) h)
  · cases h
theorem dec_int_cell {l : List Cel} {x : Int} (h : dec_int l = some x) : l.length = 1 ∧ ∀ (k : Nat) y, l[k]? = some y → ∃ z, (U.enc .int x)[k]? = some z ∧ SLe U y z := by
  unfold dec_int at h
  split at h
  · exact one_cell (U := U) (dInt_cell (U := U) h)
  · cases h
theorem dec_p_t_api_Vector_cell {l : List Cel} {x : Option (api_Vector)} (h : dec_p_t_api_Vector l = some x) : l.length = 1 ∧ ∀ (k : Nat) y, l[k]? = some y → ∃ z, (U.enc .p_t_api_Vector x)[k]? = some z ∧ SLe U y z := by
  unfold dec_p_t_api_Vector at h
  split at h
  · exact one_cell (U := U) (dOptr_cell (U := U) h)
  · cases h
theorem dec_str_cell {l : List Cel} {x : ByteArray} (h : dec_str l = some x) : l.length = 1 ∧ ∀ (k : Nat) y, l[k]? = some y → ∃ z, (U.enc .str x)[k]? = some z ∧ SLe U y z := by
  unfold dec_str at h
  split at h
  · exact one_cell (U := U) (dStr_cell (U := U) h)
  · cases h
theorem U_ok : U.Ok where
  enc_len u x := by cases u <;> rfl
  enc_cell u x hp := by cases u <;> first | rfl | (cases hp; done)
  dec_len u l x h := by
    cases u
    case u8 => exact (dec_u8_cell h).1
    case bool => exact (dec_bool_cell h).1
    case t_api_Vector => exact (api_Vector.dec_cell h).1
    case int => exact (dec_int_cell h).1
    case p_t_api_Vector => exact (dec_p_t_api_Vector_cell h).1
    case str => exact (dec_str_cell h).1
    case t_api_Quality => exact (api_Quality.dec_cell h).1
    case t_api_PortID => exact (api_PortID.dec_cell h).1
  dec_cell u l x h := by
    cases u
    case u8 => exact (dec_u8_cell h).2
    case bool => exact (dec_bool_cell h).2
    case t_api_Vector => exact (api_Vector.dec_cell h).2
    case int => exact (dec_int_cell h).2
    case p_t_api_Vector => exact (dec_p_t_api_Vector_cell h).2
    case str => exact (dec_str_cell h).2
    case t_api_Quality => exact (api_Quality.dec_cell h).2
    case t_api_PortID => exact (api_PortID.dec_cell h).2
  toBytes u xs bs h := by
    cases u <;> first
      | (cases h; done)
      | (cases h; exact ⟨rfl, rfl, fun i hi => rfl⟩)
  u8 := rfl
  ofBytes bs := ⟨rfl, fun i hi => rfl⟩
theorem U_pure : U.Pure := fun u x => by cases u <;> rfl
theorem api_Quality.dec_enc (x : api_Quality) : api_Quality.dec x.enc = some x := by kernel_rfl
theorem api_Quality.enc_inj {x y : api_Quality} (h : x.enc = y.enc) : x = y := by
  have := congrArg api_Quality.dec h
  rw [api_Quality.dec_enc, api_Quality.dec_enc] at this
  exact Option.some.inj this
theorem api_PortID.dec_enc (x : api_PortID) : api_PortID.dec x.enc = some x := by kernel_rfl
theorem api_PortID.enc_inj {x y : api_PortID} (h : x.enc = y.enc) : x = y := by
  have := congrArg api_PortID.dec h
  rw [api_PortID.dec_enc, api_PortID.dec_enc] at this
  exact Option.some.inj this
theorem api_Vector.dec_enc (x : api_Vector) : api_Vector.dec x.enc = some x := by kernel_rfl
theorem api_Vector.enc_inj {x y : api_Vector} (h : x.enc = y.enc) : x = y := by
  have := congrArg api_Vector.dec h
  rw [api_Vector.dec_enc, api_Vector.dec_enc] at this
  exact Option.some.inj this
theorem z3 : Try.prog.cellsOf 3 = 1 := by kernel_rfl
theorem z23 : Try.prog.cellsOf 23 = 3 := by kernel_rfl
def api_Quality.Wf (x : api_Quality) : Prop := (Lit.int .i64 x.fClass).wf = true ∧ (Lit.int .i64 x.fAccuracy).wf = true ∧ (Lit.int .i64 x.fVariance).wf = true
theorem api_Quality.opened {l : List U.S} (h : Opens U Try.prog 23 l) : ∃ x : api_Quality, l = x.enc ∧ x.Wf := by
  obtain ⟨hl, hf⟩ := h.toStruct Try.underlying23
  rw [z23] at hl
  have q0 : Opens U Try.prog 3 ((l.drop 0).take (Try.prog.cellsOf 3)) := hf _ (List.mem_of_getElem? (i := 0) rfl)
  rw [z3] at q0
  obtain ⟨x0, e0, w0⟩ := q0.toInt Try.underlying3
  have q1 : Opens U Try.prog 3 ((l.drop 1).take (Try.prog.cellsOf 3)) := hf _ (List.mem_of_getElem? (i := 1) rfl)
  rw [z3] at q1
  obtain ⟨x1, e1, w1⟩ := q1.toInt Try.underlying3
  have q2 : Opens U Try.prog 3 ((l.drop 2).take (Try.prog.cellsOf 3)) := hf _ (List.mem_of_getElem? (i := 2) rfl)
  rw [z3] at q2
  obtain ⟨x2, e2, w2⟩ := q2.toInt Try.underlying3
  have hnil : l.drop 3 = [] := List.drop_eq_nil_of_le (by omega)
  refine ⟨⟨x0, x1, x2⟩, ?_, w0, w1, w2⟩
  have e : l.drop 0 = l := rfl
  rw [← e]
  rw [partL l 0 1 1 rfl, e0, partL l 1 1 2 rfl, e1, partL l 2 1 3 rfl, e2, hnil]
  rfl
theorem z24 : Try.prog.cellsOf 24 = 1 := by kernel_rfl
theorem z26 : Try.prog.cellsOf 26 = 2 := by kernel_rfl
def api_PortID.Wf (x : api_PortID) : Prop := (Lit.int .u64 x.fClock).wf = true ∧ (Lit.int .i64 x.fPort).wf = true
theorem api_PortID.opened {l : List U.S} (h : Opens U Try.prog 26 l) : ∃ x : api_PortID, l = x.enc ∧ x.Wf := by
  obtain ⟨hl, hf⟩ := h.toStruct Try.underlying26
  rw [z26] at hl
  have q0 : Opens U Try.prog 24 ((l.drop 0).take (Try.prog.cellsOf 24)) := hf _ (List.mem_of_getElem? (i := 0) rfl)
  rw [z24] at q0
  obtain ⟨x0, e0, w0⟩ := q0.toInt Try.underlying24
  have q1 : Opens U Try.prog 3 ((l.drop 1).take (Try.prog.cellsOf 3)) := hf _ (List.mem_of_getElem? (i := 1) rfl)
  rw [z3] at q1
  obtain ⟨x1, e1, w1⟩ := q1.toInt Try.underlying3
  have hnil : l.drop 2 = [] := List.drop_eq_nil_of_le (by omega)
  refine ⟨⟨x0, x1⟩, ?_, w0, w1⟩
  have e : l.drop 0 = l := rfl
  rw [← e]
  rw [partL l 0 1 1 rfl, e0, partL l 1 1 2 rfl, e1, hnil]
  rfl
theorem z28 : Try.prog.cellsOf 28 = 11 := by kernel_rfl
def api_Vector.Wf (x : api_Vector) : Prop := (Lit.int .i64 x.fPriority1).wf = true ∧ api_Quality.Wf x.fQuality ∧ (Lit.int .i64 x.fPriority2).wf = true ∧ (Lit.int .u64 x.fGrand).wf = true ∧ (Lit.int .i64 x.fSteps).wf = true ∧ api_PortID.Wf x.fSender ∧ api_PortID.Wf x.fReceiver
theorem api_Vector.opened {l : List U.S} (h : Opens U Try.prog 28 l) : ∃ x : api_Vector, l = x.enc ∧ x.Wf := by
  obtain ⟨hl, hf⟩ := h.toStruct Try.underlying28
  rw [z28] at hl
  have q0 : Opens U Try.prog 3 ((l.drop 0).take (Try.prog.cellsOf 3)) := hf _ (List.mem_of_getElem? (i := 0) rfl)
  rw [z3] at q0
  obtain ⟨x0, e0, w0⟩ := q0.toInt Try.underlying3
  have q1 : Opens U Try.prog 23 ((l.drop 1).take (Try.prog.cellsOf 23)) := hf _ (List.mem_of_getElem? (i := 1) rfl)
  rw [z23] at q1
  obtain ⟨x1, e1, w1⟩ := api_Quality.opened q1
  have q2 : Opens U Try.prog 3 ((l.drop 4).take (Try.prog.cellsOf 3)) := hf _ (List.mem_of_getElem? (i := 2) rfl)
  rw [z3] at q2
  obtain ⟨x2, e2, w2⟩ := q2.toInt Try.underlying3
  have q3 : Opens U Try.prog 24 ((l.drop 5).take (Try.prog.cellsOf 24)) := hf _ (List.mem_of_getElem? (i := 3) rfl)
  rw [z24] at q3
  obtain ⟨x3, e3, w3⟩ := q3.toInt Try.underlying24
  have q4 : Opens U Try.prog 3 ((l.drop 6).take (Try.prog.cellsOf 3)) := hf _ (List.mem_of_getElem? (i := 4) rfl)
  rw [z3] at q4
  obtain ⟨x4, e4, w4⟩ := q4.toInt Try.underlying3
  have q5 : Opens U Try.prog 26 ((l.drop 7).take (Try.prog.cellsOf 26)) := hf _ (List.mem_of_getElem? (i := 5) rfl)
  rw [z26] at q5
  obtain ⟨x5, e5, w5⟩ := api_PortID.opened q5
  have q6 : Opens U Try.prog 26 ((l.drop 9).take (Try.prog.cellsOf 26)) := hf _ (List.mem_of_getElem? (i := 6) rfl)
  rw [z26] at q6
  obtain ⟨x6, e6, w6⟩ := api_PortID.opened q6
  have hnil : l.drop 11 = [] := List.drop_eq_nil_of_le (by omega)
  refine ⟨⟨x0, x1, x2, x3, x4, x5, x6⟩, ?_, w0, w1, w2, w3, w4, w5, w6⟩
  have e : l.drop 0 = l := rfl
  rw [← e]
  rw [partL l 0 1 1 rfl, e0, partL l 1 3 4 rfl, e1, partL l 4 1 5 rfl, e2, partL l 5 1 6 rfl, e3, partL l 6 1 7 rfl, e4, partL l 7 2 9 rfl, e5, partL l 9 2 11 rfl, e6, hnil]
  rfl
theorem decs_2 {l : List U.S} (h : Opens U Try.prog 2 l) : ∃ x : D .int, U.dec .int l = some x ∧ Opens U Try.prog 2 (U.enc .int x) := by
  obtain ⟨x, rfl, w⟩ := h.toInt Try.underlying2
  exact ⟨x, by kernel_rfl, h⟩
theorem decs_3 {l : List U.S} (h : Opens U Try.prog 3 l) : ∃ x : D .int, U.dec .int l = some x ∧ Opens U Try.prog 3 (U.enc .int x) := by
  obtain ⟨x, rfl, w⟩ := h.toInt Try.underlying3
  exact ⟨x, by kernel_rfl, h⟩
theorem decs_4 {l : List U.S} (h : Opens U Try.prog 4 l) : ∃ x : D .bool, U.dec .bool l = some x ∧ Opens U Try.prog 4 (U.enc .bool x) := by
  obtain ⟨x, rfl⟩ := h.toBool Try.underlying4
  exact ⟨x, by kernel_rfl, h⟩
theorem decs_5 {l : List U.S} (h : Opens U Try.prog 5 l) : ∃ x : D .u8, U.dec .u8 l = some x ∧ Opens U Try.prog 5 (U.enc .u8 x) := by
  obtain ⟨n, rfl, w⟩ := h.toInt Try.underlying5
  have hb := bounds_u8 w
  refine ⟨UInt8.ofNat n.toNat, ?_, ?_⟩
  · rfl
  · show Opens U Try.prog 5 [.val (.int .u8 ((UInt8.ofNat n.toNat).toNat : Int))]
    rw [u8_back (by omega)]; exact h
theorem decs_6 {l : List U.S} (h : Opens U Try.prog 6 l) : ∃ x : D .u8, U.dec .u8 l = some x ∧ Opens U Try.prog 6 (U.enc .u8 x) := by
  obtain ⟨n, rfl, w⟩ := h.toInt Try.underlying6
  have hb := bounds_u8 w
  refine ⟨UInt8.ofNat n.toNat, ?_, ?_⟩
  · rfl
  · show Opens U Try.prog 6 [.val (.int .u8 ((UInt8.ofNat n.toNat).toNat : Int))]
    rw [u8_back (by omega)]; exact h
theorem decs_9 {l : List U.S} (h : Opens U Try.prog 9 l) : ∃ x : D .str, U.dec .str l = some x ∧ Opens U Try.prog 9 (U.enc .str x) := by
  obtain ⟨x, rfl, w⟩ := h.toStr Try.underlying9
  exact ⟨x, by kernel_rfl, h⟩
theorem decs_10 {l : List U.S} (h : Opens U Try.prog 10 l) : ∃ x : D .str, U.dec .str l = some x ∧ Opens U Try.prog 10 (U.enc .str x) := by
  obtain ⟨x, rfl, w⟩ := h.toStr Try.underlying10
  exact ⟨x, by kernel_rfl, h⟩
theorem decs_11 {l : List U.S} (h : Opens U Try.prog 11 l) : ∃ x : D .str, U.dec .str l = some x ∧ Opens U Try.prog 11 (U.enc .str x) := by
  obtain ⟨x, rfl, w⟩ := h.toStr Try.underlying11
  exact ⟨x, by kernel_rfl, h⟩
theorem decs_23 {l : List U.S} (h : Opens U Try.prog 23 l) : ∃ x : D .t_api_Quality, U.dec .t_api_Quality l = some x ∧ Opens U Try.prog 23 (U.enc .t_api_Quality x) := by
  obtain ⟨x, rfl, w⟩ := api_Quality.opened h
  exact ⟨x, api_Quality.dec_enc x, h⟩
theorem decs_26 {l : List U.S} (h : Opens U Try.prog 26 l) : ∃ x : D .t_api_PortID, U.dec .t_api_PortID l = some x ∧ Opens U Try.prog 26 (U.enc .t_api_PortID x) := by
  obtain ⟨x, rfl, w⟩ := api_PortID.opened h
  exact ⟨x, api_PortID.dec_enc x, h⟩
theorem decs_28 {l : List U.S} (h : Opens U Try.prog 28 l) : ∃ x : D .t_api_Vector, U.dec .t_api_Vector l = some x ∧ Opens U Try.prog 28 (U.enc .t_api_Vector x) := by
  obtain ⟨x, rfl, w⟩ := api_Vector.opened h
  exact ⟨x, api_Vector.dec_enc x, h⟩
theorem decs_42 {l : List U.S} (h : Opens U Try.prog 42 l) : ∃ x : D .p_t_api_Vector, U.dec .p_t_api_Vector l = some x ∧ Opens U Try.prog 42 (U.enc .p_t_api_Vector x) := by
  exact (h.noPtr Try.underlying42).elim
theorem decs_65 {l : List U.S} (h : Opens U Try.prog 65 l) : ∃ x : D .u8, U.dec .u8 l = some x ∧ Opens U Try.prog 65 (U.enc .u8 x) := by
  obtain ⟨n, rfl, w⟩ := h.toInt Try.underlying65
  have hb := bounds_u8 w
  refine ⟨UInt8.ofNat n.toNat, ?_, ?_⟩
  · rfl
  · show Opens U Try.prog 65 [.val (.int .u8 ((UInt8.ofNat n.toNat).toNat : Int))]
    rw [u8_back (by omega)]; exact h
theorem decs_66 {l : List U.S} (h : Opens U Try.prog 66 l) : ∃ x : D .u8, U.dec .u8 l = some x ∧ Opens U Try.prog 66 (U.enc .u8 x) := by
  obtain ⟨n, rfl, w⟩ := h.toInt Try.underlying66
  have hb := bounds_u8 w
  refine ⟨UInt8.ofNat n.toNat, ?_, ?_⟩
  · rfl
  · show Opens U Try.prog 66 [.val (.int .u8 ((UInt8.ofNat n.toNat).toNat : Int))]
    rw [u8_back (by omega)]; exact h
theorem decs : Decs U Try.prog := by
  intro e u l hu h
  have hu : ofT e = some u := hu
  unfold ofT at hu
  split at hu
  · cases hu; exact decs_2 h
  · cases hu; exact decs_3 h
  · cases hu; exact decs_4 h
  · cases hu; exact decs_5 h
  · cases hu; exact decs_6 h
  · cases hu; exact decs_9 h
  · cases hu; exact decs_10 h
  · cases hu; exact decs_11 h
  · cases hu; exact decs_23 h
  · cases hu; exact decs_26 h
  · cases hu; exact decs_28 h
  · cases hu; exact decs_42 h
  · cases hu; exact decs_65 h
  · cases hu; exact decs_66 h
  · cases hu
theorem mixed : Try.prog.follows .mixedOrders = true := by kernel_rfl
end Go.Proofs.Ytkjjdjgpmlbloaa
