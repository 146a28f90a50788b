/- Typed forms of the functions that these statements reach, proved equal to what the model runs, and laws over them. -/
import Derived.Test.YtegadjffoighgaaRfC
import Derived.KernelRfl
import Derived.Test.YtegadjffoighgaaProg
namespace Go.Proofs.Ytegadjffoighgaa
open Go.Rf
set_option linter.unusedVariables false
set_option linter.unusedSimpArgs false
structure api_PortID where
  fClock : Int
  fPort : Int

structure api_Quality where
  fClass : Int
  fAccuracy : Int
  fVariance : Int

structure api_Msg where
  fType : Int
  fDomain : Int
  fFlags : Int
  fCorr : Int
  fSource : api_PortID
  fSeq : Int
  fLog : Int
  fStamp : Int
  fTarget : api_PortID
  fUtc : Int
  fPriority1 : Int
  fQuality : api_Quality
  fPriority2 : Int
  fGrand : Int
  fSteps : Int
  fOrigin : Int
  fStartHops : Int
  fHops : Int
  fAction : Int

structure api_Vector where
  fPriority1 : Int
  fQuality : api_Quality
  fPriority2 : Int
  fGrand : Int
  fSteps : Int
  fSender : api_PortID
  fReceiver : api_PortID

structure api_Times where
  fUtc : Int
  fFlags : Int
  fOrigin : Int

structure foreign_Record where
  fVector : api_Vector
  fTimes : api_Times
  fSeq : Int
  fFirst : Int
  fLast : Int

structure foreign_Table where
  fown : api_PortID
  fwindow : Int
  fl : Nat → foreign_Record
  fn : Int

def api_PortID.zero : api_PortID := ⟨0, 0⟩
def api_Quality.zero : api_Quality := ⟨0, 0, 0⟩
def api_Msg.zero : api_Msg := ⟨0, 0, 0, 0, api_PortID.zero, 0, 0, 0, api_PortID.zero, 0, 0, api_Quality.zero, 0, 0, 0, 0, 0, 0, 0⟩
def api_Vector.zero : api_Vector := ⟨0, api_Quality.zero, 0, 0, 0, api_PortID.zero, api_PortID.zero⟩
def api_Times.zero : api_Times := ⟨0, 0, 0⟩
def foreign_Record.zero : foreign_Record := ⟨api_Vector.zero, api_Times.zero, 0, 0, 0⟩
def foreign_Table.zero : foreign_Table := ⟨api_PortID.zero, 0, (fun _ => foreign_Record.zero), 0⟩
inductive UC where
  | u8 | u64 | t_foreign_Record | int | t_api_Vector | t_api_PortID | t_api_Quality | t_api_Msg | t_api_Times | t_foreign_Table
  deriving DecidableEq
abbrev D : UC → Type
  | .u8 => UInt8
  | .u64 => Int
  | .t_foreign_Record => foreign_Record
  | .int => Int
  | .t_api_Vector => api_Vector
  | .t_api_PortID => api_PortID
  | .t_api_Quality => api_Quality
  | .t_api_Msg => api_Msg
  | .t_api_Times => api_Times
  | .t_foreign_Table => foreign_Table
abbrev Cel := Go.Rf.S UC D
def api_PortID.enc (x : api_PortID) : List (Cel) := [.val (.int .u64 x.fClock), .val (.int .i64 x.fPort)]
def api_PortID.ls : List (Lf UC) := [.int .u64, .int .i64]
def api_PortID.toS (t : HL D api_PortID.ls) : api_PortID := ⟨t.1, t.2.1⟩
def api_PortID.dec (l : List Cel) : Option api_PortID := match decL api_PortID.ls l with
  | some t => some (api_PortID.toS t)
  | none => none
def api_Quality.enc (x : api_Quality) : List (Cel) := [.val (.int .i64 x.fClass), .val (.int .i64 x.fAccuracy), .val (.int .i64 x.fVariance)]
def api_Quality.ls : List (Lf UC) := [.int .i64, .int .i64, .int .i64]
def api_Quality.toS (t : HL D api_Quality.ls) : api_Quality := ⟨t.1, t.2.1, t.2.2.1⟩
def api_Quality.dec (l : List Cel) : Option api_Quality := match decL api_Quality.ls l with
  | some t => some (api_Quality.toS t)
  | none => none
def api_Msg.enc (x : api_Msg) : List (Cel) := [.val (.int .i64 x.fType), .val (.int .i64 x.fDomain), .val (.int .i64 x.fFlags), .val (.int .i64 x.fCorr), .val (.int .u64 x.fSource.fClock), .val (.int .i64 x.fSource.fPort), .val (.int .i64 x.fSeq), .val (.int .i64 x.fLog), .val (.int .i64 x.fStamp), .val (.int .u64 x.fTarget.fClock), .val (.int .i64 x.fTarget.fPort), .val (.int .i64 x.fUtc), .val (.int .i64 x.fPriority1), .val (.int .i64 x.fQuality.fClass), .val (.int .i64 x.fQuality.fAccuracy), .val (.int .i64 x.fQuality.fVariance), .val (.int .i64 x.fPriority2), .val (.int .u64 x.fGrand), .val (.int .i64 x.fSteps), .val (.int .i64 x.fOrigin), .val (.int .i64 x.fStartHops), .val (.int .i64 x.fHops), .val (.int .i64 x.fAction)]
def api_Msg.ls : List (Lf UC) := [.int .i64, .int .i64, .int .i64, .int .i64, .int .u64, .int .i64, .int .i64, .int .i64, .int .i64, .int .u64, .int .i64, .int .i64, .int .i64, .int .i64, .int .i64, .int .i64, .int .i64, .int .u64, .int .i64, .int .i64, .int .i64, .int .i64, .int .i64]
def api_Msg.toS (t : HL D api_Msg.ls) : api_Msg := ⟨t.1, t.2.1, t.2.2.1, t.2.2.2.1, ⟨t.2.2.2.2.1, t.2.2.2.2.2.1⟩, t.2.2.2.2.2.2.1, t.2.2.2.2.2.2.2.1, t.2.2.2.2.2.2.2.2.1, ⟨t.2.2.2.2.2.2.2.2.2.1, t.2.2.2.2.2.2.2.2.2.2.1⟩, t.2.2.2.2.2.2.2.2.2.2.2.1, t.2.2.2.2.2.2.2.2.2.2.2.2.1, ⟨t.2.2.2.2.2.2.2.2.2.2.2.2.2.1, t.2.2.2.2.2.2.2.2.2.2.2.2.2.2.1, t.2.2.2.2.2.2.2.2.2.2.2.2.2.2.2.1⟩, t.2.2.2.2.2.2.2.2.2.2.2.2.2.2.2.2.1, t.2.2.2.2.2.2.2.2.2.2.2.2.2.2.2.2.2.1, t.2.2.2.2.2.2.2.2.2.2.2.2.2.2.2.2.2.2.1, t.2.2.2.2.2.2.2.2.2.2.2.2.2.2.2.2.2.2.2.1, t.2.2.2.2.2.2.2.2.2.2.2.2.2.2.2.2.2.2.2.2.1, t.2.2.2.2.2.2.2.2.2.2.2.2.2.2.2.2.2.2.2.2.2.1, t.2.2.2.2.2.2.2.2.2.2.2.2.2.2.2.2.2.2.2.2.2.2.1⟩
def api_Msg.dec (l : List Cel) : Option api_Msg := match decL api_Msg.ls l with
  | some t => some (api_Msg.toS t)
  | none => none
def api_Vector.enc (x : api_Vector) : List (Cel) := [.val (.int .i64 x.fPriority1), .val (.int .i64 x.fQuality.fClass), .val (.int .i64 x.fQuality.fAccuracy), .val (.int .i64 x.fQuality.fVariance), .val (.int .i64 x.fPriority2), .val (.int .u64 x.fGrand), .val (.int .i64 x.fSteps), .val (.int .u64 x.fSender.fClock), .val (.int .i64 x.fSender.fPort), .val (.int .u64 x.fReceiver.fClock), .val (.int .i64 x.fReceiver.fPort)]
def api_Vector.ls : List (Lf UC) := [.int .i64, .int .i64, .int .i64, .int .i64, .int .i64, .int .u64, .int .i64, .int .u64, .int .i64, .int .u64, .int .i64]
def api_Vector.toS (t : HL D api_Vector.ls) : api_Vector := ⟨t.1, ⟨t.2.1, t.2.2.1, t.2.2.2.1⟩, t.2.2.2.2.1, t.2.2.2.2.2.1, t.2.2.2.2.2.2.1, ⟨t.2.2.2.2.2.2.2.1, t.2.2.2.2.2.2.2.2.1⟩, ⟨t.2.2.2.2.2.2.2.2.2.1, t.2.2.2.2.2.2.2.2.2.2.1⟩⟩
def api_Vector.dec (l : List Cel) : Option api_Vector := match decL api_Vector.ls l with
  | some t => some (api_Vector.toS t)
  | none => none
def api_Times.enc (x : api_Times) : List (Cel) := [.val (.int .i64 x.fUtc), .val (.int .i64 x.fFlags), .val (.int .i64 x.fOrigin)]
def api_Times.ls : List (Lf UC) := [.int .i64, .int .i64, .int .i64]
def api_Times.toS (t : HL D api_Times.ls) : api_Times := ⟨t.1, t.2.1, t.2.2.1⟩
def api_Times.dec (l : List Cel) : Option api_Times := match decL api_Times.ls l with
  | some t => some (api_Times.toS t)
  | none => none
def foreign_Record.enc (x : foreign_Record) : List (Cel) := [.val (.int .i64 x.fVector.fPriority1), .val (.int .i64 x.fVector.fQuality.fClass), .val (.int .i64 x.fVector.fQuality.fAccuracy), .val (.int .i64 x.fVector.fQuality.fVariance), .val (.int .i64 x.fVector.fPriority2), .val (.int .u64 x.fVector.fGrand), .val (.int .i64 x.fVector.fSteps), .val (.int .u64 x.fVector.fSender.fClock), .val (.int .i64 x.fVector.fSender.fPort), .val (.int .u64 x.fVector.fReceiver.fClock), .val (.int .i64 x.fVector.fReceiver.fPort), .val (.int .i64 x.fTimes.fUtc), .val (.int .i64 x.fTimes.fFlags), .val (.int .i64 x.fTimes.fOrigin), .val (.int .i64 x.fSeq), .val (.int .i64 x.fFirst), .val (.int .i64 x.fLast)]
def foreign_Record.ls : List (Lf UC) := [.int .i64, .int .i64, .int .i64, .int .i64, .int .i64, .int .u64, .int .i64, .int .u64, .int .i64, .int .u64, .int .i64, .int .i64, .int .i64, .int .i64, .int .i64, .int .i64, .int .i64]
def foreign_Record.toS (t : HL D foreign_Record.ls) : foreign_Record := ⟨⟨t.1, ⟨t.2.1, t.2.2.1, t.2.2.2.1⟩, t.2.2.2.2.1, t.2.2.2.2.2.1, t.2.2.2.2.2.2.1, ⟨t.2.2.2.2.2.2.2.1, t.2.2.2.2.2.2.2.2.1⟩, ⟨t.2.2.2.2.2.2.2.2.2.1, t.2.2.2.2.2.2.2.2.2.2.1⟩⟩, ⟨t.2.2.2.2.2.2.2.2.2.2.2.1, t.2.2.2.2.2.2.2.2.2.2.2.2.1, t.2.2.2.2.2.2.2.2.2.2.2.2.2.1⟩, t.2.2.2.2.2.2.2.2.2.2.2.2.2.2.1, t.2.2.2.2.2.2.2.2.2.2.2.2.2.2.2.1, t.2.2.2.2.2.2.2.2.2.2.2.2.2.2.2.2.1⟩
def foreign_Record.dec (l : List Cel) : Option foreign_Record := match decL foreign_Record.ls l with
  | some t => some (foreign_Record.toS t)
  | none => none
def foreign_Table.enc (x : foreign_Table) : List (Cel) := [.val (.int .u64 x.fown.fClock), .val (.int .i64 x.fown.fPort), .val (.int .i64 x.fwindow), .aarr .t_foreign_Record 5 x.fl, .hole, .hole, .hole, .hole, .hole, .hole, .hole, .hole, .hole, .hole, .hole, .hole, .hole, .hole, .hole, .hole, .hole, .hole, .hole, .hole, .hole, .hole, .hole, .hole, .hole, .hole, .hole, .hole, .hole, .hole, .hole, .hole, .hole, .hole, .hole, .hole, .hole, .hole, .hole, .hole, .hole, .hole, .hole, .hole, .hole, .hole, .hole, .hole, .hole, .hole, .hole, .hole, .hole, .hole, .hole, .hole, .hole, .hole, .hole, .hole, .hole, .hole, .hole, .hole, .hole, .hole, .hole, .hole, .hole, .hole, .hole, .hole, .hole, .hole, .hole, .hole, .hole, .hole, .hole, .hole, .hole, .hole, .hole, .hole, .val (.int .i64 x.fn)]
def foreign_Table.ls : List (Lf UC) := [.int .u64, .int .i64, .int .i64, .aarr .t_foreign_Record 5, .hole, .hole, .hole, .hole, .hole, .hole, .hole, .hole, .hole, .hole, .hole, .hole, .hole, .hole, .hole, .hole, .hole, .hole, .hole, .hole, .hole, .hole, .hole, .hole, .hole, .hole, .hole, .hole, .hole, .hole, .hole, .hole, .hole, .hole, .hole, .hole, .hole, .hole, .hole, .hole, .hole, .hole, .hole, .hole, .hole, .hole, .hole, .hole, .hole, .hole, .hole, .hole, .hole, .hole, .hole, .hole, .hole, .hole, .hole, .hole, .hole, .hole, .hole, .hole, .hole, .hole, .hole, .hole, .hole, .hole, .hole, .hole, .hole, .hole, .hole, .hole, .hole, .hole, .hole, .hole, .hole, .hole, .hole, .hole, .int .i64]
def foreign_Table.toS (t : HL D foreign_Table.ls) : foreign_Table := ⟨⟨t.1, t.2.1⟩, t.2.2.1, t.2.2.2.1, t.2.2.2.2.2.2.2.2.2.2.2.2.2.2.2.2.2.2.2.2.2.2.2.2.2.2.2.2.2.2.2.2.2.2.2.2.2.2.2.2.2.2.2.2.2.2.2.2.2.2.2.2.2.2.2.2.2.2.2.2.2.2.2.2.2.2.2.2.2.2.2.2.2.2.2.2.2.2.2.2.2.2.2.2.2.2.2.2.1⟩
def foreign_Table.dec (l : List Cel) : Option foreign_Table := match decL foreign_Table.ls l with
  | some t => some (foreign_Table.toS t)
  | none => none
def dec_u8 : List Cel → Option UInt8
  | [.val (.int .u8 n)] => some (UInt8.ofNat n.toNat)
  | _ => none
def dec_u64 : List Cel → Option (Int)
  | [c] => dInt .u64 c
  | _ => none
def dec_int : List Cel → Option (Int)
  | [c] => dInt .i64 c
  | _ => none
def ofT (t : Nat) : Option UC := match t with | 2 => some .int | 3 => some .int | 5 => some .u8 | 6 => some .u8 | 12 => some .u64 | 25 => some .u64 | 26 => some .int | 29 => some .t_api_PortID | 31 => some .t_api_Quality | 33 => some .t_api_Msg | 37 => some .t_api_Vector | 39 => some .t_api_Times | 41 => some .t_foreign_Record | 77 => some .u8 | 78 => some .u8 | _ => none
def U : Univ where
  C := UC
  D := D
  dft := fun u => match u with | .u8 => 0 | .u64 => 0 | .t_foreign_Record => foreign_Record.zero | .int => 0 | .t_api_Vector => api_Vector.zero | .t_api_PortID => api_PortID.zero | .t_api_Quality => api_Quality.zero | .t_api_Msg => api_Msg.zero | .t_api_Times => api_Times.zero | .t_foreign_Table => foreign_Table.zero
  size := fun u => match u with | .u8 => 1 | .u64 => 1 | .t_foreign_Record => 17 | .int => 1 | .t_api_Vector => 11 | .t_api_PortID => 2 | .t_api_Quality => 3 | .t_api_Msg => 23 | .t_api_Times => 3 | .t_foreign_Table => 89
  enc := fun u => match u with
    | .u8 => fun x => [.val (.int .u8 x.toNat)]
    | .u64 => fun x => [.val (.int .u64 x)]
    | .t_foreign_Record => foreign_Record.enc
    | .int => fun x => [.val (.int .i64 x)]
    | .t_api_Vector => api_Vector.enc
    | .t_api_PortID => api_PortID.enc
    | .t_api_Quality => api_Quality.enc
    | .t_api_Msg => api_Msg.enc
    | .t_api_Times => api_Times.enc
    | .t_foreign_Table => foreign_Table.enc
  dec := fun u => match u with
    | .u8 => dec_u8
    | .u64 => dec_u64
    | .t_foreign_Record => foreign_Record.dec
    | .int => dec_int
    | .t_api_Vector => api_Vector.dec
    | .t_api_PortID => api_PortID.dec
    | .t_api_Quality => api_Quality.dec
    | .t_api_Msg => api_Msg.dec
    | .t_api_Times => api_Times.dec
    | .t_foreign_Table => foreign_Table.dec
  ofType := ofT
  eq? := fun u v => if h : u = v then some ⟨h⟩ else none
  plain := fun u => match u with | .t_foreign_Table => false | _ => true
  toBytes := fun u => match u with | .u8 => fun l => some l | _ => fun _ => none
  u8 := .u8
  ofBytes := fun l => l

theorem api_PortID.dec_cell {l : List Cel} {x : api_PortID} (h : api_PortID.dec l = some x) : l.length = api_PortID.ls.length ∧ ∀ (k : Nat) y, l[k]? = some y → ∃ z, x.enc[k]? = some z ∧ SLe U y z := by
  unfold api_PortID.dec at h
  split at h
  · rename_i t ht
    cases h
    have e : (api_PortID.toS t).enc = encL api_PortID.ls t := by kernel_rfl
    rw [e]
    exact decL_cell (U := U) ht
  · cases h
theorem api_Quality.dec_cell {l : List Cel} {x : api_Quality} (h : api_Quality.dec l = some x) : l.length = api_Quality.ls.length ∧ ∀ (k : Nat) y, l[k]? = some y → ∃ z, x.enc[k]? = some z ∧ SLe U y z := by
  unfold api_Quality.dec at h
  split at h
  · rename_i t ht
    cases h
    have e : (api_Quality.toS t).enc = encL api_Quality.ls t := by kernel_rfl
    rw [e]
    exact decL_cell (U := U) ht
  · cases h
theorem api_Msg.dec_cell {l : List Cel} {x : api_Msg} (h : api_Msg.dec l = some x) : l.length = api_Msg.ls.length ∧ ∀ (k : Nat) y, l[k]? = some y → ∃ z, x.enc[k]? = some z ∧ SLe U y z := by
  unfold api_Msg.dec at h
  split at h
  · rename_i t ht
    cases h
    have e : (api_Msg.toS t).enc = encL api_Msg.ls t := by kernel_rfl
    rw [e]
    exact decL_cell (U := U) ht
  · cases h
theorem api_Vector.dec_cell {l : List Cel} {x : api_Vector} (h : api_Vector.dec l = some x) : l.length = api_Vector.ls.length ∧ ∀ (k : Nat) y, l[k]? = some y → ∃ z, x.enc[k]? = some z ∧ SLe U y z := by
  unfold api_Vector.dec at h
  split at h
  · rename_i t ht
    cases h
    have e : (api_Vector.toS t).enc = encL api_Vector.ls t := by kernel_rfl
    rw [e]
    exact decL_cell (U := U) ht
  · cases h
theorem api_Times.dec_cell {l : List Cel} {x : api_Times} (h : api_Times.dec l = some x) : l.length = api_Times.ls.length ∧ ∀ (k : Nat) y, l[k]? = some y → ∃ z, x.enc[k]? = some z ∧ SLe U y z := by
  unfold api_Times.dec at h
  split at h
  · rename_i t ht
    cases h
    have e : (api_Times.toS t).enc = encL api_Times.ls t := by kernel_rfl
    rw [e]
    exact decL_cell (U := U) ht
  · cases h
theorem foreign_Record.dec_cell {l : List Cel} {x : foreign_Record} (h : foreign_Record.dec l = some x) : l.length = foreign_Record.ls.length ∧ ∀ (k : Nat) y, l[k]? = some y → ∃ z, x.enc[k]? = some z ∧ SLe U y z := by
  unfold foreign_Record.dec at h
  split at h
  · rename_i t ht
    cases h
    have e : (foreign_Record.toS t).enc = encL foreign_Record.ls t := by kernel_rfl
    rw [e]
    exact decL_cell (U := U) ht
  · cases h
theorem foreign_Table.dec_cell {l : List Cel} {x : foreign_Table} (h : foreign_Table.dec l = some x) : l.length = foreign_Table.ls.length ∧ ∀ (k : Nat) y, l[k]? = some y → ∃ z, x.enc[k]? = some z ∧ SLe U y z := by
  unfold foreign_Table.dec at h
  split at h
  · rename_i t ht
    cases h
    have e : (foreign_Table.toS t).enc = encL foreign_Table.ls t := by kernel_rfl
    rw [e]
    exact decL_cell (U := U) ht
  · cases h
theorem dec_u8_cell {l : List Cel} {x : UInt8} (h : dec_u8 l = some x) : l.length = 1 ∧ ∀ (k : Nat) y, l[k]? = some y → ∃ z, (U.enc .u8 x)[k]? = some z ∧ SLe U y z := by
  unfold dec_u8 at h
  split at h
  · cases h
    exact one_cell (U := U) (byte_cell (U := U) trivial)
  · cases h
theorem dec_u64_cell {l : List Cel} {x : Int} (h : dec_u64 l = some x) : l.length = 1 ∧ ∀ (k : Nat) y, l[k]? = some y → ∃ z, (U.enc .u64 x)[k]? = some z ∧ SLe U y z := by
  unfold dec_u64 at h
  split at h
  · exact one_cell (U := U) (dInt_cell (U := U) h)
  · cases h
theorem dec_int_cell {l : List Cel} {x : Int} (h : dec_int l = some x) : l.length = 1 ∧ ∀ (k : Nat) y, l[k]? = some y → ∃ z, (U.enc .int x)[k]? = some z ∧ SLe U y z := by
  unfold dec_int at h
  split at h
  · exact one_cell (U := U) (dInt_cell (U := U) h)
  · cases h
theorem U_ok : U.Ok where
  enc_len u x := by cases u <;> rfl
  enc_cell u x hp := by cases u <;> first | rfl | (cases hp; done)
  dec_len u l x h := by
    cases u
    case u8 => exact (dec_u8_cell h).1
    case u64 => exact (dec_u64_cell h).1
    case t_foreign_Record => exact (foreign_Record.dec_cell h).1
    case int => exact (dec_int_cell h).1
    case t_api_Vector => exact (api_Vector.dec_cell h).1
    case t_api_PortID => exact (api_PortID.dec_cell h).1
    case t_api_Quality => exact (api_Quality.dec_cell h).1
    case t_api_Msg => exact (api_Msg.dec_cell h).1
    case t_api_Times => exact (api_Times.dec_cell h).1
    case t_foreign_Table => exact (foreign_Table.dec_cell h).1
  dec_cell u l x h := by
    cases u
    case u8 => exact (dec_u8_cell h).2
    case u64 => exact (dec_u64_cell h).2
    case t_foreign_Record => exact (foreign_Record.dec_cell h).2
    case int => exact (dec_int_cell h).2
    case t_api_Vector => exact (api_Vector.dec_cell h).2
    case t_api_PortID => exact (api_PortID.dec_cell h).2
    case t_api_Quality => exact (api_Quality.dec_cell h).2
    case t_api_Msg => exact (api_Msg.dec_cell h).2
    case t_api_Times => exact (api_Times.dec_cell h).2
    case t_foreign_Table => exact (foreign_Table.dec_cell h).2
  toBytes u xs bs h := by
    cases u <;> first
      | (cases h; done)
      | (cases h; exact ⟨rfl, rfl, fun i hi => rfl⟩)
  u8 := rfl
  ofBytes bs := ⟨rfl, fun i hi => rfl⟩
theorem U_pure : U.Pure := fun u x => by cases u <;> rfl
theorem api_PortID.dec_enc (x : api_PortID) : api_PortID.dec x.enc = some x := by kernel_rfl
theorem api_PortID.enc_inj {x y : api_PortID} (h : x.enc = y.enc) : x = y := by
  have := congrArg api_PortID.dec h
  rw [api_PortID.dec_enc, api_PortID.dec_enc] at this
  exact Option.some.inj this
theorem api_Quality.dec_enc (x : api_Quality) : api_Quality.dec x.enc = some x := by kernel_rfl
theorem api_Quality.enc_inj {x y : api_Quality} (h : x.enc = y.enc) : x = y := by
  have := congrArg api_Quality.dec h
  rw [api_Quality.dec_enc, api_Quality.dec_enc] at this
  exact Option.some.inj this
theorem api_Msg.dec_enc (x : api_Msg) : api_Msg.dec x.enc = some x := by kernel_rfl
theorem api_Msg.enc_inj {x y : api_Msg} (h : x.enc = y.enc) : x = y := by
  have := congrArg api_Msg.dec h
  rw [api_Msg.dec_enc, api_Msg.dec_enc] at this
  exact Option.some.inj this
theorem api_Vector.dec_enc (x : api_Vector) : api_Vector.dec x.enc = some x := by kernel_rfl
theorem api_Vector.enc_inj {x y : api_Vector} (h : x.enc = y.enc) : x = y := by
  have := congrArg api_Vector.dec h
  rw [api_Vector.dec_enc, api_Vector.dec_enc] at this
  exact Option.some.inj this
theorem api_Times.dec_enc (x : api_Times) : api_Times.dec x.enc = some x := by kernel_rfl
theorem api_Times.enc_inj {x y : api_Times} (h : x.enc = y.enc) : x = y := by
  have := congrArg api_Times.dec h
  rw [api_Times.dec_enc, api_Times.dec_enc] at this
  exact Option.some.inj this
theorem foreign_Record.dec_enc (x : foreign_Record) : foreign_Record.dec x.enc = some x := by kernel_rfl
theorem foreign_Record.enc_inj {x y : foreign_Record} (h : x.enc = y.enc) : x = y := by
  have := congrArg foreign_Record.dec h
  rw [foreign_Record.dec_enc, foreign_Record.dec_enc] at this
  exact Option.some.inj this
theorem z25 : Try.prog.cellsOf 25 = 1 := by kernel_rfl
theorem z3 : Try.prog.cellsOf 3 = 1 := by kernel_rfl
theorem z29 : Try.prog.cellsOf 29 = 2 := by kernel_rfl
def api_PortID.Wf (x : api_PortID) : Prop := (Lit.int .u64 x.fClock).wf = true ∧ (Lit.int .i64 x.fPort).wf = true
theorem api_PortID.opened {l : List U.S} (h : Opens U Try.prog 29 l) : ∃ x : api_PortID, l = x.enc ∧ x.Wf := by
  obtain ⟨hl, hf⟩ := h.toStruct Try.underlying29
  rw [z29] at hl
  have q0 : Opens U Try.prog 25 ((l.drop 0).take (Try.prog.cellsOf 25)) := hf _ (List.mem_of_getElem? (i := 0) rfl)
  rw [z25] at q0
  obtain ⟨x0, e0, w0⟩ := q0.toInt Try.underlying25
  have q1 : Opens U Try.prog 3 ((l.drop 1).take (Try.prog.cellsOf 3)) := hf _ (List.mem_of_getElem? (i := 1) rfl)
  rw [z3] at q1
  obtain ⟨x1, e1, w1⟩ := q1.toInt Try.underlying3
  have hnil : l.drop 2 = [] := List.drop_eq_nil_of_le (by omega)
  refine ⟨⟨x0, x1⟩, ?_, w0, w1⟩
  have e : l.drop 0 = l := rfl
  rw [← e]
  rw [partL l 0 1 1 rfl, e0, partL l 1 1 2 rfl, e1, hnil]
  rfl
theorem z31 : Try.prog.cellsOf 31 = 3 := by kernel_rfl
def api_Quality.Wf (x : api_Quality) : Prop := (Lit.int .i64 x.fClass).wf = true ∧ (Lit.int .i64 x.fAccuracy).wf = true ∧ (Lit.int .i64 x.fVariance).wf = true
theorem api_Quality.opened {l : List U.S} (h : Opens U Try.prog 31 l) : ∃ x : api_Quality, l = x.enc ∧ x.Wf := by
  obtain ⟨hl, hf⟩ := h.toStruct Try.underlying31
  rw [z31] at hl
  have q0 : Opens U Try.prog 3 ((l.drop 0).take (Try.prog.cellsOf 3)) := hf _ (List.mem_of_getElem? (i := 0) rfl)
  rw [z3] at q0
  obtain ⟨x0, e0, w0⟩ := q0.toInt Try.underlying3
  have q1 : Opens U Try.prog 3 ((l.drop 1).take (Try.prog.cellsOf 3)) := hf _ (List.mem_of_getElem? (i := 1) rfl)
  rw [z3] at q1
  obtain ⟨x1, e1, w1⟩ := q1.toInt Try.underlying3
  have q2 : Opens U Try.prog 3 ((l.drop 2).take (Try.prog.cellsOf 3)) := hf _ (List.mem_of_getElem? (i := 2) rfl)
  rw [z3] at q2
  obtain ⟨x2, e2, w2⟩ := q2.toInt Try.underlying3
  have hnil : l.drop 3 = [] := List.drop_eq_nil_of_le (by omega)
  refine ⟨⟨x0, x1, x2⟩, ?_, w0, w1, w2⟩
  have e : l.drop 0 = l := rfl
  rw [← e]
  rw [partL l 0 1 1 rfl, e0, partL l 1 1 2 rfl, e1, partL l 2 1 3 rfl, e2, hnil]
  rfl
theorem z33 : Try.prog.cellsOf 33 = 23 := by kernel_rfl
def api_Msg.Wf (x : api_Msg) : Prop := (Lit.int .i64 x.fType).wf = true ∧ (Lit.int .i64 x.fDomain).wf = true ∧ (Lit.int .i64 x.fFlags).wf = true ∧ (Lit.int .i64 x.fCorr).wf = true ∧ api_PortID.Wf x.fSource ∧ (Lit.int .i64 x.fSeq).wf = true ∧ (Lit.int .i64 x.fLog).wf = true ∧ (Lit.int .i64 x.fStamp).wf = true ∧ api_PortID.Wf x.fTarget ∧ (Lit.int .i64 x.fUtc).wf = true ∧ (Lit.int .i64 x.fPriority1).wf = true ∧ api_Quality.Wf x.fQuality ∧ (Lit.int .i64 x.fPriority2).wf = true ∧ (Lit.int .u64 x.fGrand).wf = true ∧ (Lit.int .i64 x.fSteps).wf = true ∧ (Lit.int .i64 x.fOrigin).wf = true ∧ (Lit.int .i64 x.fStartHops).wf = true ∧ (Lit.int .i64 x.fHops).wf = true ∧ (Lit.int .i64 x.fAction).wf = true
theorem api_Msg.opened {l : List U.S} (h : Opens U Try.prog 33 l) : ∃ x : api_Msg, l = x.enc ∧ x.Wf := by
  obtain ⟨hl, hf⟩ := h.toStruct Try.underlying33
  rw [z33] at hl
  have q0 : Opens U Try.prog 3 ((l.drop 0).take (Try.prog.cellsOf 3)) := hf _ (List.mem_of_getElem? (i := 0) rfl)
  rw [z3] at q0
  obtain ⟨x0, e0, w0⟩ := q0.toInt Try.underlying3
  have q1 : Opens U Try.prog 3 ((l.drop 1).take (Try.prog.cellsOf 3)) := hf _ (List.mem_of_getElem? (i := 1) rfl)
  rw [z3] at q1
  obtain ⟨x1, e1, w1⟩ := q1.toInt Try.underlying3
  have q2 : Opens U Try.prog 3 ((l.drop 2).take (Try.prog.cellsOf 3)) := hf _ (List.mem_of_getElem? (i := 2) rfl)
  rw [z3] at q2
  obtain ⟨x2, e2, w2⟩ := q2.toInt Try.underlying3
  have q3 : Opens U Try.prog 3 ((l.drop 3).take (Try.prog.cellsOf 3)) := hf _ (List.mem_of_getElem? (i := 3) rfl)
  rw [z3] at q3
  obtain ⟨x3, e3, w3⟩ := q3.toInt Try.underlying3
  have q4 : Opens U Try.prog 29 ((l.drop 4).take (Try.prog.cellsOf 29)) := hf _ (List.mem_of_getElem? (i := 4) rfl)
  rw [z29] at q4
  obtain ⟨x4, e4, w4⟩ := api_PortID.opened q4
  have q5 : Opens U Try.prog 3 ((l.drop 6).take (Try.prog.cellsOf 3)) := hf _ (List.mem_of_getElem? (i := 5) rfl)
  rw [z3] at q5
  obtain ⟨x5, e5, w5⟩ := q5.toInt Try.underlying3
  have q6 : Opens U Try.prog 3 ((l.drop 7).take (Try.prog.cellsOf 3)) := hf _ (List.mem_of_getElem? (i := 6) rfl)
  rw [z3] at q6
  obtain ⟨x6, e6, w6⟩ := q6.toInt Try.underlying3
  have q7 : Opens U Try.prog 3 ((l.drop 8).take (Try.prog.cellsOf 3)) := hf _ (List.mem_of_getElem? (i := 7) rfl)
  rw [z3] at q7
  obtain ⟨x7, e7, w7⟩ := q7.toInt Try.underlying3
  have q8 : Opens U Try.prog 29 ((l.drop 9).take (Try.prog.cellsOf 29)) := hf _ (List.mem_of_getElem? (i := 8) rfl)
  rw [z29] at q8
  obtain ⟨x8, e8, w8⟩ := api_PortID.opened q8
  have q9 : Opens U Try.prog 3 ((l.drop 11).take (Try.prog.cellsOf 3)) := hf _ (List.mem_of_getElem? (i := 9) rfl)
  rw [z3] at q9
  obtain ⟨x9, e9, w9⟩ := q9.toInt Try.underlying3
  have q10 : Opens U Try.prog 3 ((l.drop 12).take (Try.prog.cellsOf 3)) := hf _ (List.mem_of_getElem? (i := 10) rfl)
  rw [z3] at q10
  obtain ⟨x10, e10, w10⟩ := q10.toInt Try.underlying3
  have q11 : Opens U Try.prog 31 ((l.drop 13).take (Try.prog.cellsOf 31)) := hf _ (List.mem_of_getElem? (i := 11) rfl)
  rw [z31] at q11
  obtain ⟨x11, e11, w11⟩ := api_Quality.opened q11
  have q12 : Opens U Try.prog 3 ((l.drop 16).take (Try.prog.cellsOf 3)) := hf _ (List.mem_of_getElem? (i := 12) rfl)
  rw [z3] at q12
  obtain ⟨x12, e12, w12⟩ := q12.toInt Try.underlying3
  have q13 : Opens U Try.prog 25 ((l.drop 17).take (Try.prog.cellsOf 25)) := hf _ (List.mem_of_getElem? (i := 13) rfl)
  rw [z25] at q13
  obtain ⟨x13, e13, w13⟩ := q13.toInt Try.underlying25
  have q14 : Opens U Try.prog 3 ((l.drop 18).take (Try.prog.cellsOf 3)) := hf _ (List.mem_of_getElem? (i := 14) rfl)
  rw [z3] at q14
  obtain ⟨x14, e14, w14⟩ := q14.toInt Try.underlying3
  have q15 : Opens U Try.prog 3 ((l.drop 19).take (Try.prog.cellsOf 3)) := hf _ (List.mem_of_getElem? (i := 15) rfl)
  rw [z3] at q15
  obtain ⟨x15, e15, w15⟩ := q15.toInt Try.underlying3
  have q16 : Opens U Try.prog 3 ((l.drop 20).take (Try.prog.cellsOf 3)) := hf _ (List.mem_of_getElem? (i := 16) rfl)
  rw [z3] at q16
  obtain ⟨x16, e16, w16⟩ := q16.toInt Try.underlying3
  have q17 : Opens U Try.prog 3 ((l.drop 21).take (Try.prog.cellsOf 3)) := hf _ (List.mem_of_getElem? (i := 17) rfl)
  rw [z3] at q17
  obtain ⟨x17, e17, w17⟩ := q17.toInt Try.underlying3
  have q18 : Opens U Try.prog 3 ((l.drop 22).take (Try.prog.cellsOf 3)) := hf _ (List.mem_of_getElem? (i := 18) rfl)
  rw [z3] at q18
  obtain ⟨x18, e18, w18⟩ := q18.toInt Try.underlying3
  have hnil : l.drop 23 = [] := List.drop_eq_nil_of_le (by omega)
  refine ⟨⟨x0, x1, x2, x3, x4, x5, x6, x7, x8, x9, x10, x11, x12, x13, x14, x15, x16, x17, x18⟩, ?_, w0, w1, w2, w3, w4, w5, w6, w7, w8, w9, w10, w11, w12, w13, w14, w15, w16, w17, w18⟩
  have e : l.drop 0 = l := rfl
  rw [← e]
  rw [partL l 0 1 1 rfl, e0, partL l 1 1 2 rfl, e1, partL l 2 1 3 rfl, e2, partL l 3 1 4 rfl, e3, partL l 4 2 6 rfl, e4, partL l 6 1 7 rfl, e5, partL l 7 1 8 rfl, e6, partL l 8 1 9 rfl, e7, partL l 9 2 11 rfl, e8, partL l 11 1 12 rfl, e9, partL l 12 1 13 rfl, e10, partL l 13 3 16 rfl, e11, partL l 16 1 17 rfl, e12, partL l 17 1 18 rfl, e13, partL l 18 1 19 rfl, e14, partL l 19 1 20 rfl, e15, partL l 20 1 21 rfl, e16, partL l 21 1 22 rfl, e17, partL l 22 1 23 rfl, e18, hnil]
  rfl
theorem z37 : Try.prog.cellsOf 37 = 11 := by kernel_rfl
def api_Vector.Wf (x : api_Vector) : Prop := (Lit.int .i64 x.fPriority1).wf = true ∧ api_Quality.Wf x.fQuality ∧ (Lit.int .i64 x.fPriority2).wf = true ∧ (Lit.int .u64 x.fGrand).wf = true ∧ (Lit.int .i64 x.fSteps).wf = true ∧ api_PortID.Wf x.fSender ∧ api_PortID.Wf x.fReceiver
theorem api_Vector.opened {l : List U.S} (h : Opens U Try.prog 37 l) : ∃ x : api_Vector, l = x.enc ∧ x.Wf := by
  obtain ⟨hl, hf⟩ := h.toStruct Try.underlying37
  rw [z37] at hl
  have q0 : Opens U Try.prog 3 ((l.drop 0).take (Try.prog.cellsOf 3)) := hf _ (List.mem_of_getElem? (i := 0) rfl)
  rw [z3] at q0
  obtain ⟨x0, e0, w0⟩ := q0.toInt Try.underlying3
  have q1 : Opens U Try.prog 31 ((l.drop 1).take (Try.prog.cellsOf 31)) := hf _ (List.mem_of_getElem? (i := 1) rfl)
  rw [z31] at q1
  obtain ⟨x1, e1, w1⟩ := api_Quality.opened q1
  have q2 : Opens U Try.prog 3 ((l.drop 4).take (Try.prog.cellsOf 3)) := hf _ (List.mem_of_getElem? (i := 2) rfl)
  rw [z3] at q2
  obtain ⟨x2, e2, w2⟩ := q2.toInt Try.underlying3
  have q3 : Opens U Try.prog 25 ((l.drop 5).take (Try.prog.cellsOf 25)) := hf _ (List.mem_of_getElem? (i := 3) rfl)
  rw [z25] at q3
  obtain ⟨x3, e3, w3⟩ := q3.toInt Try.underlying25
  have q4 : Opens U Try.prog 3 ((l.drop 6).take (Try.prog.cellsOf 3)) := hf _ (List.mem_of_getElem? (i := 4) rfl)
  rw [z3] at q4
  obtain ⟨x4, e4, w4⟩ := q4.toInt Try.underlying3
  have q5 : Opens U Try.prog 29 ((l.drop 7).take (Try.prog.cellsOf 29)) := hf _ (List.mem_of_getElem? (i := 5) rfl)
  rw [z29] at q5
  obtain ⟨x5, e5, w5⟩ := api_PortID.opened q5
  have q6 : Opens U Try.prog 29 ((l.drop 9).take (Try.prog.cellsOf 29)) := hf _ (List.mem_of_getElem? (i := 6) rfl)
  rw [z29] at q6
  obtain ⟨x6, e6, w6⟩ := api_PortID.opened q6
  have hnil : l.drop 11 = [] := List.drop_eq_nil_of_le (by omega)
  refine ⟨⟨x0, x1, x2, x3, x4, x5, x6⟩, ?_, w0, w1, w2, w3, w4, w5, w6⟩
  have e : l.drop 0 = l := rfl
  rw [← e]
  rw [partL l 0 1 1 rfl, e0, partL l 1 3 4 rfl, e1, partL l 4 1 5 rfl, e2, partL l 5 1 6 rfl, e3, partL l 6 1 7 rfl, e4, partL l 7 2 9 rfl, e5, partL l 9 2 11 rfl, e6, hnil]
  rfl
theorem z39 : Try.prog.cellsOf 39 = 3 := by kernel_rfl
def api_Times.Wf (x : api_Times) : Prop := (Lit.int .i64 x.fUtc).wf = true ∧ (Lit.int .i64 x.fFlags).wf = true ∧ (Lit.int .i64 x.fOrigin).wf = true
theorem api_Times.opened {l : List U.S} (h : Opens U Try.prog 39 l) : ∃ x : api_Times, l = x.enc ∧ x.Wf := by
  obtain ⟨hl, hf⟩ := h.toStruct Try.underlying39
  rw [z39] at hl
  have q0 : Opens U Try.prog 3 ((l.drop 0).take (Try.prog.cellsOf 3)) := hf _ (List.mem_of_getElem? (i := 0) rfl)
  rw [z3] at q0
  obtain ⟨x0, e0, w0⟩ := q0.toInt Try.underlying3
  have q1 : Opens U Try.prog 3 ((l.drop 1).take (Try.prog.cellsOf 3)) := hf _ (List.mem_of_getElem? (i := 1) rfl)
  rw [z3] at q1
  obtain ⟨x1, e1, w1⟩ := q1.toInt Try.underlying3
  have q2 : Opens U Try.prog 3 ((l.drop 2).take (Try.prog.cellsOf 3)) := hf _ (List.mem_of_getElem? (i := 2) rfl)
  rw [z3] at q2
  obtain ⟨x2, e2, w2⟩ := q2.toInt Try.underlying3
  have hnil : l.drop 3 = [] := List.drop_eq_nil_of_le (by omega)
  refine ⟨⟨x0, x1, x2⟩, ?_, w0, w1, w2⟩
  have e : l.drop 0 = l := rfl
  rw [← e]
  rw [partL l 0 1 1 rfl, e0, partL l 1 1 2 rfl, e1, partL l 2 1 3 rfl, e2, hnil]
  rfl
theorem z41 : Try.prog.cellsOf 41 = 17 := by kernel_rfl
def foreign_Record.Wf (x : foreign_Record) : Prop := api_Vector.Wf x.fVector ∧ api_Times.Wf x.fTimes ∧ (Lit.int .i64 x.fSeq).wf = true ∧ (Lit.int .i64 x.fFirst).wf = true ∧ (Lit.int .i64 x.fLast).wf = true
theorem foreign_Record.opened {l : List U.S} (h : Opens U Try.prog 41 l) : ∃ x : foreign_Record, l = x.enc ∧ x.Wf := by
  obtain ⟨hl, hf⟩ := h.toStruct Try.underlying41
  rw [z41] at hl
  have q0 : Opens U Try.prog 37 ((l.drop 0).take (Try.prog.cellsOf 37)) := hf _ (List.mem_of_getElem? (i := 0) rfl)
  rw [z37] at q0
  obtain ⟨x0, e0, w0⟩ := api_Vector.opened q0
  have q1 : Opens U Try.prog 39 ((l.drop 11).take (Try.prog.cellsOf 39)) := hf _ (List.mem_of_getElem? (i := 1) rfl)
  rw [z39] at q1
  obtain ⟨x1, e1, w1⟩ := api_Times.opened q1
  have q2 : Opens U Try.prog 3 ((l.drop 14).take (Try.prog.cellsOf 3)) := hf _ (List.mem_of_getElem? (i := 2) rfl)
  rw [z3] at q2
  obtain ⟨x2, e2, w2⟩ := q2.toInt Try.underlying3
  have q3 : Opens U Try.prog 3 ((l.drop 15).take (Try.prog.cellsOf 3)) := hf _ (List.mem_of_getElem? (i := 3) rfl)
  rw [z3] at q3
  obtain ⟨x3, e3, w3⟩ := q3.toInt Try.underlying3
  have q4 : Opens U Try.prog 3 ((l.drop 16).take (Try.prog.cellsOf 3)) := hf _ (List.mem_of_getElem? (i := 4) rfl)
  rw [z3] at q4
  obtain ⟨x4, e4, w4⟩ := q4.toInt Try.underlying3
  have hnil : l.drop 17 = [] := List.drop_eq_nil_of_le (by omega)
  refine ⟨⟨x0, x1, x2, x3, x4⟩, ?_, w0, w1, w2, w3, w4⟩
  have e : l.drop 0 = l := rfl
  rw [← e]
  rw [partL l 0 11 11 rfl, e0, partL l 11 3 14 rfl, e1, partL l 14 1 15 rfl, e2, partL l 15 1 16 rfl, e3, partL l 16 1 17 rfl, e4, hnil]
  rfl
theorem decs_2 {l : List U.S} (h : Opens U Try.prog 2 l) : ∃ x : D .int, U.dec .int l = some x ∧ Opens U Try.prog 2 (U.enc .int x) := by
  obtain ⟨x, rfl, w⟩ := h.toInt Try.underlying2
  exact ⟨x, by kernel_rfl, h⟩
theorem decs_3 {l : List U.S} (h : Opens U Try.prog 3 l) : ∃ x : D .int, U.dec .int l = some x ∧ Opens U Try.prog 3 (U.enc .int x) := by
  obtain ⟨x, rfl, w⟩ := h.toInt Try.underlying3
  exact ⟨x, by kernel_rfl, h⟩
theorem decs_5 {l : List U.S} (h : Opens U Try.prog 5 l) : ∃ x : D .u8, U.dec .u8 l = some x ∧ Opens U Try.prog 5 (U.enc .u8 x) := by
  obtain ⟨n, rfl, w⟩ := h.toInt Try.underlying5
  have hb := bounds_u8 w
  refine ⟨UInt8.ofNat n.toNat, ?_, ?_⟩
  · rfl
  · show Opens U Try.prog 5 [.val (.int .u8 ((UInt8.ofNat n.toNat).toNat : Int))]
    rw [u8_back (by omega)]; exact h
theorem decs_6 {l : List U.S} (h : Opens U Try.prog 6 l) : ∃ x : D .u8, U.dec .u8 l = some x ∧ Opens U Try.prog 6 (U.enc .u8 x) := by
  obtain ⟨n, rfl, w⟩ := h.toInt Try.underlying6
  have hb := bounds_u8 w
  refine ⟨UInt8.ofNat n.toNat, ?_, ?_⟩
  · rfl
  · show Opens U Try.prog 6 [.val (.int .u8 ((UInt8.ofNat n.toNat).toNat : Int))]
    rw [u8_back (by omega)]; exact h
theorem decs_12 {l : List U.S} (h : Opens U Try.prog 12 l) : ∃ x : D .u64, U.dec .u64 l = some x ∧ Opens U Try.prog 12 (U.enc .u64 x) := by
  obtain ⟨x, rfl, w⟩ := h.toInt Try.underlying12
  exact ⟨x, by kernel_rfl, h⟩
theorem decs_25 {l : List U.S} (h : Opens U Try.prog 25 l) : ∃ x : D .u64, U.dec .u64 l = some x ∧ Opens U Try.prog 25 (U.enc .u64 x) := by
  obtain ⟨x, rfl, w⟩ := h.toInt Try.underlying25
  exact ⟨x, by kernel_rfl, h⟩
theorem decs_26 {l : List U.S} (h : Opens U Try.prog 26 l) : ∃ x : D .int, U.dec .int l = some x ∧ Opens U Try.prog 26 (U.enc .int x) := by
  obtain ⟨x, rfl, w⟩ := h.toInt Try.underlying26
  exact ⟨x, by kernel_rfl, h⟩
theorem decs_29 {l : List U.S} (h : Opens U Try.prog 29 l) : ∃ x : D .t_api_PortID, U.dec .t_api_PortID l = some x ∧ Opens U Try.prog 29 (U.enc .t_api_PortID x) := by
  obtain ⟨x, rfl, w⟩ := api_PortID.opened h
  exact ⟨x, api_PortID.dec_enc x, h⟩
theorem decs_31 {l : List U.S} (h : Opens U Try.prog 31 l) : ∃ x : D .t_api_Quality, U.dec .t_api_Quality l = some x ∧ Opens U Try.prog 31 (U.enc .t_api_Quality x) := by
  obtain ⟨x, rfl, w⟩ := api_Quality.opened h
  exact ⟨x, api_Quality.dec_enc x, h⟩
theorem decs_33 {l : List U.S} (h : Opens U Try.prog 33 l) : ∃ x : D .t_api_Msg, U.dec .t_api_Msg l = some x ∧ Opens U Try.prog 33 (U.enc .t_api_Msg x) := by
  obtain ⟨x, rfl, w⟩ := api_Msg.opened h
  exact ⟨x, api_Msg.dec_enc x, h⟩
theorem decs_37 {l : List U.S} (h : Opens U Try.prog 37 l) : ∃ x : D .t_api_Vector, U.dec .t_api_Vector l = some x ∧ Opens U Try.prog 37 (U.enc .t_api_Vector x) := by
  obtain ⟨x, rfl, w⟩ := api_Vector.opened h
  exact ⟨x, api_Vector.dec_enc x, h⟩
theorem decs_39 {l : List U.S} (h : Opens U Try.prog 39 l) : ∃ x : D .t_api_Times, U.dec .t_api_Times l = some x ∧ Opens U Try.prog 39 (U.enc .t_api_Times x) := by
  obtain ⟨x, rfl, w⟩ := api_Times.opened h
  exact ⟨x, api_Times.dec_enc x, h⟩
theorem decs_41 {l : List U.S} (h : Opens U Try.prog 41 l) : ∃ x : D .t_foreign_Record, U.dec .t_foreign_Record l = some x ∧ Opens U Try.prog 41 (U.enc .t_foreign_Record x) := by
  obtain ⟨x, rfl, w⟩ := foreign_Record.opened h
  exact ⟨x, foreign_Record.dec_enc x, h⟩
theorem decs_77 {l : List U.S} (h : Opens U Try.prog 77 l) : ∃ x : D .u8, U.dec .u8 l = some x ∧ Opens U Try.prog 77 (U.enc .u8 x) := by
  obtain ⟨n, rfl, w⟩ := h.toInt Try.underlying77
  have hb := bounds_u8 w
  refine ⟨UInt8.ofNat n.toNat, ?_, ?_⟩
  · rfl
  · show Opens U Try.prog 77 [.val (.int .u8 ((UInt8.ofNat n.toNat).toNat : Int))]
    rw [u8_back (by omega)]; exact h
theorem decs_78 {l : List U.S} (h : Opens U Try.prog 78 l) : ∃ x : D .u8, U.dec .u8 l = some x ∧ Opens U Try.prog 78 (U.enc .u8 x) := by
  obtain ⟨n, rfl, w⟩ := h.toInt Try.underlying78
  have hb := bounds_u8 w
  refine ⟨UInt8.ofNat n.toNat, ?_, ?_⟩
  · rfl
  · show Opens U Try.prog 78 [.val (.int .u8 ((UInt8.ofNat n.toNat).toNat : Int))]
    rw [u8_back (by omega)]; exact h
theorem decs : Decs U Try.prog := by
  intro e u l hu h
  have hu : ofT e = some u := hu
  unfold ofT at hu
  split at hu
  · cases hu; exact decs_2 h
  · cases hu; exact decs_3 h
  · cases hu; exact decs_5 h
  · cases hu; exact decs_6 h
  · cases hu; exact decs_12 h
  · cases hu; exact decs_25 h
  · cases hu; exact decs_26 h
  · cases hu; exact decs_29 h
  · cases hu; exact decs_31 h
  · cases hu; exact decs_33 h
  · cases hu; exact decs_37 h
  · cases hu; exact decs_39 h
  · cases hu; exact decs_41 h
  · cases hu; exact decs_77 h
  · cases hu; exact decs_78 h
  · cases hu
theorem mixed : Try.prog.follows .mixedOrders = true := by kernel_rfl
end Go.Proofs.Ytegadjffoighgaa
