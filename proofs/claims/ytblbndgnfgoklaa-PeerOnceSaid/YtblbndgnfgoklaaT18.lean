/- Typed forms of the functions that these statements reach, proved equal to what the model runs, and laws over them. -/
import Derived.Test.YtblbndgnfgoklaaRfB
import Derived.KernelRfl
import Derived.Test.YtblbndgnfgoklaaProg
namespace Go.Proofs.Ytblbndgnfgoklaa
open Go.Rf
set_option linter.unusedVariables false
set_option linter.unusedSimpArgs false
structure api_PortID where
  fClock : Int
  fPort : Int

structure api_Quality where
  fClass : Int
  fAccuracy : Int
  fVariance : Int

structure api_Msg where
  fType : Int
  fDomain : Int
  fFlags : Int
  fCorr : Int
  fSource : api_PortID
  fSeq : Int
  fLog : Int
  fStamp : Int
  fTarget : api_PortID
  fUtc : Int
  fPriority1 : Int
  fQuality : api_Quality
  fPriority2 : Int
  fGrand : Int
  fSteps : Int
  fOrigin : Int
  fStartHops : Int
  fHops : Int
  fAction : Int

structure peer_Exchange where
  fself : api_PortID
  fdomain : Int
  fseq : Int
  fat : Int
  fout : Bool
  fsent : Bool
  fanswered : Bool
  fspoilt : Bool
  fresponse : api_Msg
  fback : Int

def api_PortID.zero : api_PortID := ⟨0, 0⟩
def api_Quality.zero : api_Quality := ⟨0, 0, 0⟩
def api_Msg.zero : api_Msg := ⟨0, 0, 0, 0, api_PortID.zero, 0, 0, 0, api_PortID.zero, 0, 0, api_Quality.zero, 0, 0, 0, 0, 0, 0, 0⟩
def peer_Exchange.zero : peer_Exchange := ⟨api_PortID.zero, 0, 0, 0, false, false, false, false, api_Msg.zero, 0⟩
inductive UC where
  | u8 | t_api_PortID | t_api_Quality | t_api_Msg | t_peer_Exchange
  deriving DecidableEq
abbrev D : UC → Type
  | .u8 => UInt8
  | .t_api_PortID => api_PortID
  | .t_api_Quality => api_Quality
  | .t_api_Msg => api_Msg
  | .t_peer_Exchange => peer_Exchange
abbrev Cel := Go.Rf.S UC D
def api_PortID.enc (x : api_PortID) : List (Cel) := [.val (.int .u64 x.fClock), .val (.int .i64 x.fPort)]
def api_PortID.ls : List (Lf UC) := [.int .u64, .int .i64]
def api_PortID.toS (t : HL D api_PortID.ls) : api_PortID := ⟨t.1, t.2.1⟩
def api_PortID.dec (l : List Cel) : Option api_PortID := match decL api_PortID.ls l with
  | some t => some (api_PortID.toS t)
  | none => none
def api_Quality.enc (x : api_Quality) : List (Cel) := [.val (.int .i64 x.fClass), .val (.int .i64 x.fAccuracy), .val (.int .i64 x.fVariance)]
def api_Quality.ls : List (Lf UC) := [.int .i64, .int .i64, .int .i64]
def api_Quality.toS (t : HL D api_Quality.ls) : api_Quality := ⟨t.1, t.2.1, t.2.2.1⟩
def api_Quality.dec (l : List Cel) : Option api_Quality := match decL api_Quality.ls l with
  | some t => some (api_Quality.toS t)
  | none => none
def api_Msg.enc (x : api_Msg) : List (Cel) := [.val (.int .i64 x.fType), .val (.int .i64 x.fDomain), .val (.int .i64 x.fFlags), .val (.int .i64 x.fCorr), .val (.int .u64 x.fSource.fClock), .val (.int .i64 x.fSource.fPort), .val (.int .i64 x.fSeq), .val (.int .i64 x.fLog), .val (.int .i64 x.fStamp), .val (.int .u64 x.fTarget.fClock), .val (.int .i64 x.fTarget.fPort), .val (.int .i64 x.fUtc), .val (.int .i64 x.fPriority1), .val (.int .i64 x.fQuality.fClass), .val (.int .i64 x.fQuality.fAccuracy), .val (.int .i64 x.fQuality.fVariance), .val (.int .i64 x.fPriority2), .val (.int .u64 x.fGrand), .val (.int .i64 x.fSteps), .val (.int .i64 x.fOrigin), .val (.int .i64 x.fStartHops), .val (.int .i64 x.fHops), .val (.int .i64 x.fAction)]
def api_Msg.ls : List (Lf UC) := [.int .i64, .int .i64, .int .i64, .int .i64, .int .u64, .int .i64, .int .i64, .int .i64, .int .i64, .int .u64, .int .i64, .int .i64, .int .i64, .int .i64, .int .i64, .int .i64, .int .i64, .int .u64, .int .i64, .int .i64, .int .i64, .int .i64, .int .i64]
def api_Msg.toS (t : HL D api_Msg.ls) : api_Msg := ⟨t.1, t.2.1, t.2.2.1, t.2.2.2.1, ⟨t.2.2.2.2.1, t.2.2.2.2.2.1⟩, t.2.2.2.2.2.2.1, t.2.2.2.2.2.2.2.1, t.2.2.2.2.2.2.2.2.1, ⟨t.2.2.2.2.2.2.2.2.2.1, t.2.2.2.2.2.2.2.2.2.2.1⟩, t.2.2.2.2.2.2.2.2.2.2.2.1, t.2.2.2.2.2.2.2.2.2.2.2.2.1, ⟨t.2.2.2.2.2.2.2.2.2.2.2.2.2.1, t.2.2.2.2.2.2.2.2.2.2.2.2.2.2.1, t.2.2.2.2.2.2.2.2.2.2.2.2.2.2.2.1⟩, t.2.2.2.2.2.2.2.2.2.2.2.2.2.2.2.2.1, t.2.2.2.2.2.2.2.2.2.2.2.2.2.2.2.2.2.1, t.2.2.2.2.2.2.2.2.2.2.2.2.2.2.2.2.2.2.1, t.2.2.2.2.2.2.2.2.2.2.2.2.2.2.2.2.2.2.2.1, t.2.2.2.2.2.2.2.2.2.2.2.2.2.2.2.2.2.2.2.2.1, t.2.2.2.2.2.2.2.2.2.2.2.2.2.2.2.2.2.2.2.2.2.1, t.2.2.2.2.2.2.2.2.2.2.2.2.2.2.2.2.2.2.2.2.2.2.1⟩
def api_Msg.dec (l : List Cel) : Option api_Msg := match decL api_Msg.ls l with
  | some t => some (api_Msg.toS t)
  | none => none
def peer_Exchange.enc (x : peer_Exchange) : List (Cel) := [.val (.int .u64 x.fself.fClock), .val (.int .i64 x.fself.fPort), .val (.int .i64 x.fdomain), .val (.int .i64 x.fseq), .val (.int .i64 x.fat), .val (.bool x.fout), .val (.bool x.fsent), .val (.bool x.fanswered), .val (.bool x.fspoilt), .val (.int .i64 x.fresponse.fType), .val (.int .i64 x.fresponse.fDomain), .val (.int .i64 x.fresponse.fFlags), .val (.int .i64 x.fresponse.fCorr), .val (.int .u64 x.fresponse.fSource.fClock), .val (.int .i64 x.fresponse.fSource.fPort), .val (.int .i64 x.fresponse.fSeq), .val (.int .i64 x.fresponse.fLog), .val (.int .i64 x.fresponse.fStamp), .val (.int .u64 x.fresponse.fTarget.fClock), .val (.int .i64 x.fresponse.fTarget.fPort), .val (.int .i64 x.fresponse.fUtc), .val (.int .i64 x.fresponse.fPriority1), .val (.int .i64 x.fresponse.fQuality.fClass), .val (.int .i64 x.fresponse.fQuality.fAccuracy), .val (.int .i64 x.fresponse.fQuality.fVariance), .val (.int .i64 x.fresponse.fPriority2), .val (.int .u64 x.fresponse.fGrand), .val (.int .i64 x.fresponse.fSteps), .val (.int .i64 x.fresponse.fOrigin), .val (.int .i64 x.fresponse.fStartHops), .val (.int .i64 x.fresponse.fHops), .val (.int .i64 x.fresponse.fAction), .val (.int .i64 x.fback)]
def peer_Exchange.ls : List (Lf UC) := [.int .u64, .int .i64, .int .i64, .int .i64, .int .i64, .bool, .bool, .bool, .bool, .int .i64, .int .i64, .int .i64, .int .i64, .int .u64, .int .i64, .int .i64, .int .i64, .int .i64, .int .u64, .int .i64, .int .i64, .int .i64, .int .i64, .int .i64, .int .i64, .int .i64, .int .u64, .int .i64, .int .i64, .int .i64, .int .i64, .int .i64, .int .i64]
def peer_Exchange.toS (t : HL D peer_Exchange.ls) : peer_Exchange := ⟨⟨t.1, t.2.1⟩, t.2.2.1, t.2.2.2.1, t.2.2.2.2.1, t.2.2.2.2.2.1, t.2.2.2.2.2.2.1, t.2.2.2.2.2.2.2.1, t.2.2.2.2.2.2.2.2.1, ⟨t.2.2.2.2.2.2.2.2.2.1, t.2.2.2.2.2.2.2.2.2.2.1, t.2.2.2.2.2.2.2.2.2.2.2.1, t.2.2.2.2.2.2.2.2.2.2.2.2.1, ⟨t.2.2.2.2.2.2.2.2.2.2.2.2.2.1, t.2.2.2.2.2.2.2.2.2.2.2.2.2.2.1⟩, t.2.2.2.2.2.2.2.2.2.2.2.2.2.2.2.1, t.2.2.2.2.2.2.2.2.2.2.2.2.2.2.2.2.1, t.2.2.2.2.2.2.2.2.2.2.2.2.2.2.2.2.2.1, ⟨t.2.2.2.2.2.2.2.2.2.2.2.2.2.2.2.2.2.2.1, t.2.2.2.2.2.2.2.2.2.2.2.2.2.2.2.2.2.2.2.1⟩, t.2.2.2.2.2.2.2.2.2.2.2.2.2.2.2.2.2.2.2.2.1, t.2.2.2.2.2.2.2.2.2.2.2.2.2.2.2.2.2.2.2.2.2.1, ⟨t.2.2.2.2.2.2.2.2.2.2.2.2.2.2.2.2.2.2.2.2.2.2.1, t.2.2.2.2.2.2.2.2.2.2.2.2.2.2.2.2.2.2.2.2.2.2.2.1, t.2.2.2.2.2.2.2.2.2.2.2.2.2.2.2.2.2.2.2.2.2.2.2.2.1⟩, t.2.2.2.2.2.2.2.2.2.2.2.2.2.2.2.2.2.2.2.2.2.2.2.2.2.1, t.2.2.2.2.2.2.2.2.2.2.2.2.2.2.2.2.2.2.2.2.2.2.2.2.2.2.1, t.2.2.2.2.2.2.2.2.2.2.2.2.2.2.2.2.2.2.2.2.2.2.2.2.2.2.2.1, t.2.2.2.2.2.2.2.2.2.2.2.2.2.2.2.2.2.2.2.2.2.2.2.2.2.2.2.2.1, t.2.2.2.2.2.2.2.2.2.2.2.2.2.2.2.2.2.2.2.2.2.2.2.2.2.2.2.2.2.1, t.2.2.2.2.2.2.2.2.2.2.2.2.2.2.2.2.2.2.2.2.2.2.2.2.2.2.2.2.2.2.1, t.2.2.2.2.2.2.2.2.2.2.2.2.2.2.2.2.2.2.2.2.2.2.2.2.2.2.2.2.2.2.2.1⟩, t.2.2.2.2.2.2.2.2.2.2.2.2.2.2.2.2.2.2.2.2.2.2.2.2.2.2.2.2.2.2.2.2.1⟩
def peer_Exchange.dec (l : List Cel) : Option peer_Exchange := match decL peer_Exchange.ls l with
  | some t => some (peer_Exchange.toS t)
  | none => none
def dec_u8 : List Cel → Option UInt8
  | [.val (.int .u8 n)] => if 0 ≤ n ∧ n < 256 then some (UInt8.ofNat n.toNat) else none
  | _ => none
def ofT (t : Nat) : Option UC := match t with | 5 => some .u8 | 6 => some .u8 | 24 => some .t_api_PortID | 29 => some .t_api_Quality | 31 => some .t_api_Msg | 43 => some .t_peer_Exchange | 55 => some .u8 | 56 => some .u8 | _ => none
def U : Univ where
  C := UC
  D := D
  dft := fun u => match u with | .u8 => 0 | .t_api_PortID => api_PortID.zero | .t_api_Quality => api_Quality.zero | .t_api_Msg => api_Msg.zero | .t_peer_Exchange => peer_Exchange.zero
  size := fun u => match u with | .u8 => 1 | .t_api_PortID => 2 | .t_api_Quality => 3 | .t_api_Msg => 23 | .t_peer_Exchange => 33
  enc := fun u => match u with
    | .u8 => fun x => [.val (.int .u8 x.toNat)]
    | .t_api_PortID => api_PortID.enc
    | .t_api_Quality => api_Quality.enc
    | .t_api_Msg => api_Msg.enc
    | .t_peer_Exchange => peer_Exchange.enc
  dec := fun u => match u with
    | .u8 => dec_u8
    | .t_api_PortID => api_PortID.dec
    | .t_api_Quality => api_Quality.dec
    | .t_api_Msg => api_Msg.dec
    | .t_peer_Exchange => peer_Exchange.dec
  ofType := ofT
  eq? := fun u v => if h : u = v then some ⟨h⟩ else none
  toBytes := fun u => match u with | .u8 => fun l => some l | _ => fun _ => none
  u8 := .u8
  ofBytes := fun l => l

theorem api_PortID.dec_le {c : Cx} {l : List Cel} {x : api_PortID} {vs : List Value} (h : api_PortID.dec l = some x) (hl : RL U c l vs) : RL U c x.enc vs := by
  unfold api_PortID.dec at h
  split at h
  · rename_i t ht
    cases h
    have e : (api_PortID.toS t).enc = encL api_PortID.ls t := by kernel_rfl
    rw [e]
    exact decL_le (U := U) ht hl
  · cases h
theorem api_Quality.dec_le {c : Cx} {l : List Cel} {x : api_Quality} {vs : List Value} (h : api_Quality.dec l = some x) (hl : RL U c l vs) : RL U c x.enc vs := by
  unfold api_Quality.dec at h
  split at h
  · rename_i t ht
    cases h
    have e : (api_Quality.toS t).enc = encL api_Quality.ls t := by kernel_rfl
    rw [e]
    exact decL_le (U := U) ht hl
  · cases h
theorem api_Msg.dec_le {c : Cx} {l : List Cel} {x : api_Msg} {vs : List Value} (h : api_Msg.dec l = some x) (hl : RL U c l vs) : RL U c x.enc vs := by
  unfold api_Msg.dec at h
  split at h
  · rename_i t ht
    cases h
    have e : (api_Msg.toS t).enc = encL api_Msg.ls t := by kernel_rfl
    rw [e]
    exact decL_le (U := U) ht hl
  · cases h
theorem peer_Exchange.dec_le {c : Cx} {l : List Cel} {x : peer_Exchange} {vs : List Value} (h : peer_Exchange.dec l = some x) (hl : RL U c l vs) : RL U c x.enc vs := by
  unfold peer_Exchange.dec at h
  split at h
  · rename_i t ht
    cases h
    have e : (peer_Exchange.toS t).enc = encL peer_Exchange.ls t := by kernel_rfl
    rw [e]
    exact decL_le (U := U) ht hl
  · cases h
theorem dec_u8_le {c : Cx} {l : List Cel} {x : UInt8} {vs : List Value} (h : dec_u8 l = some x) (hl : RL U c l vs) : RL U c (U.enc .u8 x) vs := by
  unfold dec_u8 at h
  split at h
  · rename_i n
    split at h
    · rename_i hb
      cases h
      obtain ⟨v, r, rfl, k, hl⟩ := hl.uncons
      cases hl.unnil
      exact .cons (u8_le rfl hb rfl k) .nil
    · cases h
  · cases h
theorem U_ok : U.Ok where
  enc_len u x := by cases u <;> rfl
  enc_cell u x := by cases u <;> rfl
  dec_le u l x h c vs hl := by
    cases u
    case u8 => exact dec_u8_le h hl
    case t_api_PortID => exact api_PortID.dec_le h hl
    case t_api_Quality => exact api_Quality.dec_le h hl
    case t_api_Msg => exact api_Msg.dec_le h hl
    case t_peer_Exchange => exact peer_Exchange.dec_le h hl
  toBytes u xs bs h := by
    cases u <;> first
      | (cases h; done)
      | (cases h; exact ⟨rfl, rfl, fun i hi => rfl⟩)
  u8 := rfl
  ofBytes bs := ⟨rfl, fun i hi => rfl⟩
theorem U_pure : U.Pure := fun u x => by cases u <;> rfl
theorem api_PortID.dec_enc (x : api_PortID) : api_PortID.dec x.enc = some x := by kernel_rfl
theorem api_PortID.enc_inj {x y : api_PortID} (h : x.enc = y.enc) : x = y := by
  have := congrArg api_PortID.dec h
  rw [api_PortID.dec_enc, api_PortID.dec_enc] at this
  exact Option.some.inj this
theorem api_Quality.dec_enc (x : api_Quality) : api_Quality.dec x.enc = some x := by kernel_rfl
theorem api_Quality.enc_inj {x y : api_Quality} (h : x.enc = y.enc) : x = y := by
  have := congrArg api_Quality.dec h
  rw [api_Quality.dec_enc, api_Quality.dec_enc] at this
  exact Option.some.inj this
theorem api_Msg.dec_enc (x : api_Msg) : api_Msg.dec x.enc = some x := by kernel_rfl
theorem api_Msg.enc_inj {x y : api_Msg} (h : x.enc = y.enc) : x = y := by
  have := congrArg api_Msg.dec h
  rw [api_Msg.dec_enc, api_Msg.dec_enc] at this
  exact Option.some.inj this
theorem peer_Exchange.dec_enc (x : peer_Exchange) : peer_Exchange.dec x.enc = some x := by kernel_rfl
theorem peer_Exchange.enc_inj {x y : peer_Exchange} (h : x.enc = y.enc) : x = y := by
  have := congrArg peer_Exchange.dec h
  rw [peer_Exchange.dec_enc, peer_Exchange.dec_enc] at this
  exact Option.some.inj this
theorem z22 : Try.prog.cellsOf 22 = 1 := by kernel_rfl
theorem z3 : Try.prog.cellsOf 3 = 1 := by kernel_rfl
theorem z24 : Try.prog.cellsOf 24 = 2 := by kernel_rfl
def api_PortID.Wf (x : api_PortID) : Prop := (Lit.int .u64 x.fClock).wf = true ∧ (Lit.int .i64 x.fPort).wf = true
theorem api_PortID.opened {l : List U.S} (h : Opens U Try.prog 24 l) : ∃ x : api_PortID, l = x.enc ∧ x.Wf := by
  obtain ⟨hl, hf⟩ := h.toStruct Try.underlying24
  rw [z24] at hl
  have q0 : Opens U Try.prog 22 ((l.drop 0).take (Try.prog.cellsOf 22)) := hf _ (List.mem_of_getElem? (i := 0) rfl)
  rw [z22] at q0
  obtain ⟨x0, e0, w0⟩ := q0.toInt Try.underlying22
  have q1 : Opens U Try.prog 3 ((l.drop 1).take (Try.prog.cellsOf 3)) := hf _ (List.mem_of_getElem? (i := 1) rfl)
  rw [z3] at q1
  obtain ⟨x1, e1, w1⟩ := q1.toInt Try.underlying3
  have hnil : l.drop 2 = [] := List.drop_eq_nil_of_le (by omega)
  refine ⟨⟨x0, x1⟩, ?_, w0, w1⟩
  have e : l.drop 0 = l := rfl
  rw [← e]
  rw [partL l 0 1 1 rfl, e0, partL l 1 1 2 rfl, e1, hnil]
  rfl
theorem z29 : Try.prog.cellsOf 29 = 3 := by kernel_rfl
def api_Quality.Wf (x : api_Quality) : Prop := (Lit.int .i64 x.fClass).wf = true ∧ (Lit.int .i64 x.fAccuracy).wf = true ∧ (Lit.int .i64 x.fVariance).wf = true
theorem api_Quality.opened {l : List U.S} (h : Opens U Try.prog 29 l) : ∃ x : api_Quality, l = x.enc ∧ x.Wf := by
  obtain ⟨hl, hf⟩ := h.toStruct Try.underlying29
  rw [z29] at hl
  have q0 : Opens U Try.prog 3 ((l.drop 0).take (Try.prog.cellsOf 3)) := hf _ (List.mem_of_getElem? (i := 0) rfl)
  rw [z3] at q0
  obtain ⟨x0, e0, w0⟩ := q0.toInt Try.underlying3
  have q1 : Opens U Try.prog 3 ((l.drop 1).take (Try.prog.cellsOf 3)) := hf _ (List.mem_of_getElem? (i := 1) rfl)
  rw [z3] at q1
  obtain ⟨x1, e1, w1⟩ := q1.toInt Try.underlying3
  have q2 : Opens U Try.prog 3 ((l.drop 2).take (Try.prog.cellsOf 3)) := hf _ (List.mem_of_getElem? (i := 2) rfl)
  rw [z3] at q2
  obtain ⟨x2, e2, w2⟩ := q2.toInt Try.underlying3
  have hnil : l.drop 3 = [] := List.drop_eq_nil_of_le (by omega)
  refine ⟨⟨x0, x1, x2⟩, ?_, w0, w1, w2⟩
  have e : l.drop 0 = l := rfl
  rw [← e]
  rw [partL l 0 1 1 rfl, e0, partL l 1 1 2 rfl, e1, partL l 2 1 3 rfl, e2, hnil]
  rfl
theorem z31 : Try.prog.cellsOf 31 = 23 := by kernel_rfl
def api_Msg.Wf (x : api_Msg) : Prop := (Lit.int .i64 x.fType).wf = true ∧ (Lit.int .i64 x.fDomain).wf = true ∧ (Lit.int .i64 x.fFlags).wf = true ∧ (Lit.int .i64 x.fCorr).wf = true ∧ api_PortID.Wf x.fSource ∧ (Lit.int .i64 x.fSeq).wf = true ∧ (Lit.int .i64 x.fLog).wf = true ∧ (Lit.int .i64 x.fStamp).wf = true ∧ api_PortID.Wf x.fTarget ∧ (Lit.int .i64 x.fUtc).wf = true ∧ (Lit.int .i64 x.fPriority1).wf = true ∧ api_Quality.Wf x.fQuality ∧ (Lit.int .i64 x.fPriority2).wf = true ∧ (Lit.int .u64 x.fGrand).wf = true ∧ (Lit.int .i64 x.fSteps).wf = true ∧ (Lit.int .i64 x.fOrigin).wf = true ∧ (Lit.int .i64 x.fStartHops).wf = true ∧ (Lit.int .i64 x.fHops).wf = true ∧ (Lit.int .i64 x.fAction).wf = true
theorem api_Msg.opened {l : List U.S} (h : Opens U Try.prog 31 l) : ∃ x : api_Msg, l = x.enc ∧ x.Wf := by
  obtain ⟨hl, hf⟩ := h.toStruct Try.underlying31
  rw [z31] at hl
  have q0 : Opens U Try.prog 3 ((l.drop 0).take (Try.prog.cellsOf 3)) := hf _ (List.mem_of_getElem? (i := 0) rfl)
  rw [z3] at q0
  obtain ⟨x0, e0, w0⟩ := q0.toInt Try.underlying3
  have q1 : Opens U Try.prog 3 ((l.drop 1).take (Try.prog.cellsOf 3)) := hf _ (List.mem_of_getElem? (i := 1) rfl)
  rw [z3] at q1
  obtain ⟨x1, e1, w1⟩ := q1.toInt Try.underlying3
  have q2 : Opens U Try.prog 3 ((l.drop 2).take (Try.prog.cellsOf 3)) := hf _ (List.mem_of_getElem? (i := 2) rfl)
  rw [z3] at q2
  obtain ⟨x2, e2, w2⟩ := q2.toInt Try.underlying3
  have q3 : Opens U Try.prog 3 ((l.drop 3).take (Try.prog.cellsOf 3)) := hf _ (List.mem_of_getElem? (i := 3) rfl)
  rw [z3] at q3
  obtain ⟨x3, e3, w3⟩ := q3.toInt Try.underlying3
  have q4 : Opens U Try.prog 24 ((l.drop 4).take (Try.prog.cellsOf 24)) := hf _ (List.mem_of_getElem? (i := 4) rfl)
  rw [z24] at q4
  obtain ⟨x4, e4, w4⟩ := api_PortID.opened q4
  have q5 : Opens U Try.prog 3 ((l.drop 6).take (Try.prog.cellsOf 3)) := hf _ (List.mem_of_getElem? (i := 5) rfl)
  rw [z3] at q5
  obtain ⟨x5, e5, w5⟩ := q5.toInt Try.underlying3
  have q6 : Opens U Try.prog 3 ((l.drop 7).take (Try.prog.cellsOf 3)) := hf _ (List.mem_of_getElem? (i := 6) rfl)
  rw [z3] at q6
  obtain ⟨x6, e6, w6⟩ := q6.toInt Try.underlying3
  have q7 : Opens U Try.prog 3 ((l.drop 8).take (Try.prog.cellsOf 3)) := hf _ (List.mem_of_getElem? (i := 7) rfl)
  rw [z3] at q7
  obtain ⟨x7, e7, w7⟩ := q7.toInt Try.underlying3
  have q8 : Opens U Try.prog 24 ((l.drop 9).take (Try.prog.cellsOf 24)) := hf _ (List.mem_of_getElem? (i := 8) rfl)
  rw [z24] at q8
  obtain ⟨x8, e8, w8⟩ := api_PortID.opened q8
  have q9 : Opens U Try.prog 3 ((l.drop 11).take (Try.prog.cellsOf 3)) := hf _ (List.mem_of_getElem? (i := 9) rfl)
  rw [z3] at q9
  obtain ⟨x9, e9, w9⟩ := q9.toInt Try.underlying3
  have q10 : Opens U Try.prog 3 ((l.drop 12).take (Try.prog.cellsOf 3)) := hf _ (List.mem_of_getElem? (i := 10) rfl)
  rw [z3] at q10
  obtain ⟨x10, e10, w10⟩ := q10.toInt Try.underlying3
  have q11 : Opens U Try.prog 29 ((l.drop 13).take (Try.prog.cellsOf 29)) := hf _ (List.mem_of_getElem? (i := 11) rfl)
  rw [z29] at q11
  obtain ⟨x11, e11, w11⟩ := api_Quality.opened q11
  have q12 : Opens U Try.prog 3 ((l.drop 16).take (Try.prog.cellsOf 3)) := hf _ (List.mem_of_getElem? (i := 12) rfl)
  rw [z3] at q12
  obtain ⟨x12, e12, w12⟩ := q12.toInt Try.underlying3
  have q13 : Opens U Try.prog 22 ((l.drop 17).take (Try.prog.cellsOf 22)) := hf _ (List.mem_of_getElem? (i := 13) rfl)
  rw [z22] at q13
  obtain ⟨x13, e13, w13⟩ := q13.toInt Try.underlying22
  have q14 : Opens U Try.prog 3 ((l.drop 18).take (Try.prog.cellsOf 3)) := hf _ (List.mem_of_getElem? (i := 14) rfl)
  rw [z3] at q14
  obtain ⟨x14, e14, w14⟩ := q14.toInt Try.underlying3
  have q15 : Opens U Try.prog 3 ((l.drop 19).take (Try.prog.cellsOf 3)) := hf _ (List.mem_of_getElem? (i := 15) rfl)
  rw [z3] at q15
  obtain ⟨x15, e15, w15⟩ := q15.toInt Try.underlying3
  have q16 : Opens U Try.prog 3 ((l.drop 20).take (Try.prog.cellsOf 3)) := hf _ (List.mem_of_getElem? (i := 16) rfl)
  rw [z3] at q16
  obtain ⟨x16, e16, w16⟩ := q16.toInt Try.underlying3
  have q17 : Opens U Try.prog 3 ((l.drop 21).take (Try.prog.cellsOf 3)) := hf _ (List.mem_of_getElem? (i := 17) rfl)
  rw [z3] at q17
  obtain ⟨x17, e17, w17⟩ := q17.toInt Try.underlying3
  have q18 : Opens U Try.prog 3 ((l.drop 22).take (Try.prog.cellsOf 3)) := hf _ (List.mem_of_getElem? (i := 18) rfl)
  rw [z3] at q18
  obtain ⟨x18, e18, w18⟩ := q18.toInt Try.underlying3
  have hnil : l.drop 23 = [] := List.drop_eq_nil_of_le (by omega)
  refine ⟨⟨x0, x1, x2, x3, x4, x5, x6, x7, x8, x9, x10, x11, x12, x13, x14, x15, x16, x17, x18⟩, ?_, w0, w1, w2, w3, w4, w5, w6, w7, w8, w9, w10, w11, w12, w13, w14, w15, w16, w17, w18⟩
  have e : l.drop 0 = l := rfl
  rw [← e]
  rw [partL l 0 1 1 rfl, e0, partL l 1 1 2 rfl, e1, partL l 2 1 3 rfl, e2, partL l 3 1 4 rfl, e3, partL l 4 2 6 rfl, e4, partL l 6 1 7 rfl, e5, partL l 7 1 8 rfl, e6, partL l 8 1 9 rfl, e7, partL l 9 2 11 rfl, e8, partL l 11 1 12 rfl, e9, partL l 12 1 13 rfl, e10, partL l 13 3 16 rfl, e11, partL l 16 1 17 rfl, e12, partL l 17 1 18 rfl, e13, partL l 18 1 19 rfl, e14, partL l 19 1 20 rfl, e15, partL l 20 1 21 rfl, e16, partL l 21 1 22 rfl, e17, partL l 22 1 23 rfl, e18, hnil]
  rfl
theorem z4 : Try.prog.cellsOf 4 = 1 := by kernel_rfl
theorem z43 : Try.prog.cellsOf 43 = 33 := by kernel_rfl
def peer_Exchange.Wf (x : peer_Exchange) : Prop := api_PortID.Wf x.fself ∧ (Lit.int .i64 x.fdomain).wf = true ∧ (Lit.int .i64 x.fseq).wf = true ∧ (Lit.int .i64 x.fat).wf = true ∧ True ∧ True ∧ True ∧ True ∧ api_Msg.Wf x.fresponse ∧ (Lit.int .i64 x.fback).wf = true
theorem peer_Exchange.opened {l : List U.S} (h : Opens U Try.prog 43 l) : ∃ x : peer_Exchange, l = x.enc ∧ x.Wf := by
  obtain ⟨hl, hf⟩ := h.toStruct Try.underlying43
  rw [z43] at hl
  have q0 : Opens U Try.prog 24 ((l.drop 0).take (Try.prog.cellsOf 24)) := hf _ (List.mem_of_getElem? (i := 0) rfl)
  rw [z24] at q0
  obtain ⟨x0, e0, w0⟩ := api_PortID.opened q0
  have q1 : Opens U Try.prog 3 ((l.drop 2).take (Try.prog.cellsOf 3)) := hf _ (List.mem_of_getElem? (i := 1) rfl)
  rw [z3] at q1
  obtain ⟨x1, e1, w1⟩ := q1.toInt Try.underlying3
  have q2 : Opens U Try.prog 3 ((l.drop 3).take (Try.prog.cellsOf 3)) := hf _ (List.mem_of_getElem? (i := 2) rfl)
  rw [z3] at q2
  obtain ⟨x2, e2, w2⟩ := q2.toInt Try.underlying3
  have q3 : Opens U Try.prog 3 ((l.drop 4).take (Try.prog.cellsOf 3)) := hf _ (List.mem_of_getElem? (i := 3) rfl)
  rw [z3] at q3
  obtain ⟨x3, e3, w3⟩ := q3.toInt Try.underlying3
  have q4 : Opens U Try.prog 4 ((l.drop 5).take (Try.prog.cellsOf 4)) := hf _ (List.mem_of_getElem? (i := 4) rfl)
  rw [z4] at q4
  obtain ⟨x4, e4⟩ := q4.toBool Try.underlying4
  have w4 := trivial
  have q5 : Opens U Try.prog 4 ((l.drop 6).take (Try.prog.cellsOf 4)) := hf _ (List.mem_of_getElem? (i := 5) rfl)
  rw [z4] at q5
  obtain ⟨x5, e5⟩ := q5.toBool Try.underlying4
  have w5 := trivial
  have q6 : Opens U Try.prog 4 ((l.drop 7).take (Try.prog.cellsOf 4)) := hf _ (List.mem_of_getElem? (i := 6) rfl)
  rw [z4] at q6
  obtain ⟨x6, e6⟩ := q6.toBool Try.underlying4
  have w6 := trivial
  have q7 : Opens U Try.prog 4 ((l.drop 8).take (Try.prog.cellsOf 4)) := hf _ (List.mem_of_getElem? (i := 7) rfl)
  rw [z4] at q7
  obtain ⟨x7, e7⟩ := q7.toBool Try.underlying4
  have w7 := trivial
  have q8 : Opens U Try.prog 31 ((l.drop 9).take (Try.prog.cellsOf 31)) := hf _ (List.mem_of_getElem? (i := 8) rfl)
  rw [z31] at q8
  obtain ⟨x8, e8, w8⟩ := api_Msg.opened q8
  have q9 : Opens U Try.prog 3 ((l.drop 32).take (Try.prog.cellsOf 3)) := hf _ (List.mem_of_getElem? (i := 9) rfl)
  rw [z3] at q9
  obtain ⟨x9, e9, w9⟩ := q9.toInt Try.underlying3
  have hnil : l.drop 33 = [] := List.drop_eq_nil_of_le (by omega)
  refine ⟨⟨x0, x1, x2, x3, x4, x5, x6, x7, x8, x9⟩, ?_, w0, w1, w2, w3, w4, w5, w6, w7, w8, w9⟩
  have e : l.drop 0 = l := rfl
  rw [← e]
  rw [partL l 0 2 2 rfl, e0, partL l 2 1 3 rfl, e1, partL l 3 1 4 rfl, e2, partL l 4 1 5 rfl, e3, partL l 5 1 6 rfl, e4, partL l 6 1 7 rfl, e5, partL l 7 1 8 rfl, e6, partL l 8 1 9 rfl, e7, partL l 9 23 32 rfl, e8, partL l 32 1 33 rfl, e9, hnil]
  rfl
theorem decs_5 {l : List U.S} (h : Opens U Try.prog 5 l) : ∃ x : D .u8, U.dec .u8 l = some x ∧ Opens U Try.prog 5 (U.enc .u8 x) := by
  obtain ⟨n, rfl, w⟩ := h.toInt Try.underlying5
  have hb := bounds_u8 w
  refine ⟨UInt8.ofNat n.toNat, ?_, ?_⟩
  · show (if 0 ≤ n ∧ n < 256 then some (UInt8.ofNat n.toNat) else none) = _
    rw [if_pos (by omega)]
  · show Opens U Try.prog 5 [.val (.int .u8 ((UInt8.ofNat n.toNat).toNat : Int))]
    rw [u8_back (by omega)]; exact h
theorem decs_6 {l : List U.S} (h : Opens U Try.prog 6 l) : ∃ x : D .u8, U.dec .u8 l = some x ∧ Opens U Try.prog 6 (U.enc .u8 x) := by
  obtain ⟨n, rfl, w⟩ := h.toInt Try.underlying6
  have hb := bounds_u8 w
  refine ⟨UInt8.ofNat n.toNat, ?_, ?_⟩
  · show (if 0 ≤ n ∧ n < 256 then some (UInt8.ofNat n.toNat) else none) = _
    rw [if_pos (by omega)]
  · show Opens U Try.prog 6 [.val (.int .u8 ((UInt8.ofNat n.toNat).toNat : Int))]
    rw [u8_back (by omega)]; exact h
theorem decs_24 {l : List U.S} (h : Opens U Try.prog 24 l) : ∃ x : D .t_api_PortID, U.dec .t_api_PortID l = some x ∧ Opens U Try.prog 24 (U.enc .t_api_PortID x) := by
  obtain ⟨x, rfl, w⟩ := api_PortID.opened h
  exact ⟨x, api_PortID.dec_enc x, h⟩
theorem decs_29 {l : List U.S} (h : Opens U Try.prog 29 l) : ∃ x : D .t_api_Quality, U.dec .t_api_Quality l = some x ∧ Opens U Try.prog 29 (U.enc .t_api_Quality x) := by
  obtain ⟨x, rfl, w⟩ := api_Quality.opened h
  exact ⟨x, api_Quality.dec_enc x, h⟩
theorem decs_31 {l : List U.S} (h : Opens U Try.prog 31 l) : ∃ x : D .t_api_Msg, U.dec .t_api_Msg l = some x ∧ Opens U Try.prog 31 (U.enc .t_api_Msg x) := by
  obtain ⟨x, rfl, w⟩ := api_Msg.opened h
  exact ⟨x, api_Msg.dec_enc x, h⟩
theorem decs_43 {l : List U.S} (h : Opens U Try.prog 43 l) : ∃ x : D .t_peer_Exchange, U.dec .t_peer_Exchange l = some x ∧ Opens U Try.prog 43 (U.enc .t_peer_Exchange x) := by
  obtain ⟨x, rfl, w⟩ := peer_Exchange.opened h
  exact ⟨x, peer_Exchange.dec_enc x, h⟩
theorem decs_55 {l : List U.S} (h : Opens U Try.prog 55 l) : ∃ x : D .u8, U.dec .u8 l = some x ∧ Opens U Try.prog 55 (U.enc .u8 x) := by
  obtain ⟨n, rfl, w⟩ := h.toInt Try.underlying55
  have hb := bounds_u8 w
  refine ⟨UInt8.ofNat n.toNat, ?_, ?_⟩
  · show (if 0 ≤ n ∧ n < 256 then some (UInt8.ofNat n.toNat) else none) = _
    rw [if_pos (by omega)]
  · show Opens U Try.prog 55 [.val (.int .u8 ((UInt8.ofNat n.toNat).toNat : Int))]
    rw [u8_back (by omega)]; exact h
theorem decs_56 {l : List U.S} (h : Opens U Try.prog 56 l) : ∃ x : D .u8, U.dec .u8 l = some x ∧ Opens U Try.prog 56 (U.enc .u8 x) := by
  obtain ⟨n, rfl, w⟩ := h.toInt Try.underlying56
  have hb := bounds_u8 w
  refine ⟨UInt8.ofNat n.toNat, ?_, ?_⟩
  · show (if 0 ≤ n ∧ n < 256 then some (UInt8.ofNat n.toNat) else none) = _
    rw [if_pos (by omega)]
  · show Opens U Try.prog 56 [.val (.int .u8 ((UInt8.ofNat n.toNat).toNat : Int))]
    rw [u8_back (by omega)]; exact h
theorem decs : Decs U Try.prog := by
  intro e u l hu h
  have hu : ofT e = some u := hu
  unfold ofT at hu
  split at hu
  · cases hu; exact decs_5 h
  · cases hu; exact decs_6 h
  · cases hu; exact decs_24 h
  · cases hu; exact decs_29 h
  · cases hu; exact decs_31 h
  · cases hu; exact decs_43 h
  · cases hu; exact decs_55 h
  · cases hu; exact decs_56 h
  · cases hu
theorem mixed : Try.prog.follows .mixedOrders = true := by kernel_rfl
end Go.Proofs.Ytblbndgnfgoklaa
