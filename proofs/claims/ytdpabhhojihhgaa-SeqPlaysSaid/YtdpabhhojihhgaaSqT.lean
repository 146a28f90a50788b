/- Typed forms of the functions that these statements reach, proved equal to what the model runs, and laws over them. -/
import Derived.Test.YtdpabhhojihhgaaRfB
import Derived.KernelRfl
import Derived.Test.YtdpabhhojihhgaaProg
namespace Go.Proofs.Ytdpabhhojihhgaa
open Go.Rf
set_option linter.unusedVariables false
set_option linter.unusedSimpArgs false
structure api_PortID where
  fClock : Int
  fPort : Int

structure api_Quality where
  fClass : Int
  fAccuracy : Int
  fVariance : Int

structure api_Msg where
  fType : Int
  fDomain : Int
  fFlags : Int
  fCorr : Int
  fSource : api_PortID
  fSeq : Int
  fLog : Int
  fStamp : Int
  fTarget : api_PortID
  fUtc : Int
  fPriority1 : Int
  fQuality : api_Quality
  fPriority2 : Int
  fGrand : Int
  fSteps : Int
  fOrigin : Int
  fStartHops : Int
  fHops : Int
  fAction : Int

structure ref16_M where
  fS : api_Msg
  fF : api_Msg
  fAt : Int
  fHasS : Bool
  fHasF : Bool

structure law16_Op where
  fKind : Int
  fAt : Int
  fM : api_Msg

structure seq_Match where
  fsync : api_Msg
  ffollow : api_Msg
  fat : Int
  fhasSync : Bool
  fhasFollowUp : Bool

structure seq_sign where
  fsource : api_PortID
  fseq : Int

def api_PortID.zero : api_PortID := ⟨0, 0⟩
def api_Quality.zero : api_Quality := ⟨0, 0, 0⟩
def api_Msg.zero : api_Msg := ⟨0, 0, 0, 0, api_PortID.zero, 0, 0, 0, api_PortID.zero, 0, 0, api_Quality.zero, 0, 0, 0, 0, 0, 0, 0⟩
def ref16_M.zero : ref16_M := ⟨api_Msg.zero, api_Msg.zero, 0, false, false⟩
def law16_Op.zero : law16_Op := ⟨0, 0, api_Msg.zero⟩
def seq_Match.zero : seq_Match := ⟨api_Msg.zero, api_Msg.zero, 0, false, false⟩
def seq_sign.zero : seq_sign := ⟨api_PortID.zero, 0⟩
inductive UC where
  | u8 | t_law16_Op | int | bool | t_api_PortID | t_api_Quality | t_api_Msg | t_ref16_M | t_seq_Match | t_seq_sign
  deriving DecidableEq
abbrev D : UC → Type
  | .u8 => UInt8
  | .t_law16_Op => law16_Op
  | .int => Int
  | .bool => Bool
  | .t_api_PortID => api_PortID
  | .t_api_Quality => api_Quality
  | .t_api_Msg => api_Msg
  | .t_ref16_M => ref16_M
  | .t_seq_Match => seq_Match
  | .t_seq_sign => seq_sign
abbrev Cel := Go.Rf.S UC D
def api_PortID.enc (x : api_PortID) : List (Cel) := [.val (.int .u64 x.fClock), .val (.int .i64 x.fPort)]
def api_PortID.ls : List (Lf UC) := [.int .u64, .int .i64]
def api_PortID.toS (t : HL D api_PortID.ls) : api_PortID := ⟨t.1, t.2.1⟩
def api_PortID.dec (l : List Cel) : Option api_PortID := match decL api_PortID.ls l with
  | some t => some (api_PortID.toS t)
  | none => none
def api_Quality.enc (x : api_Quality) : List (Cel) := [.val (.int .i64 x.fClass), .val (.int .i64 x.fAccuracy), .val (.int .i64 x.fVariance)]
def api_Quality.ls : List (Lf UC) := [.int .i64, .int .i64, .int .i64]
def api_Quality.toS (t : HL D api_Quality.ls) : api_Quality := ⟨t.1, t.2.1, t.2.2.1⟩
def api_Quality.dec (l : List Cel) : Option api_Quality := match decL api_Quality.ls l with
  | some t => some (api_Quality.toS t)
  | none => none
def api_Msg.enc (x : api_Msg) : List (Cel) := [.val (.int .i64 x.fType), .val (.int .i64 x.fDomain), .val (.int .i64 x.fFlags), .val (.int .i64 x.fCorr), .val (.int .u64 x.fSource.fClock), .val (.int .i64 x.fSource.fPort), .val (.int .i64 x.fSeq), .val (.int .i64 x.fLog), .val (.int .i64 x.fStamp), .val (.int .u64 x.fTarget.fClock), .val (.int .i64 x.fTarget.fPort), .val (.int .i64 x.fUtc), .val (.int .i64 x.fPriority1), .val (.int .i64 x.fQuality.fClass), .val (.int .i64 x.fQuality.fAccuracy), .val (.int .i64 x.fQuality.fVariance), .val (.int .i64 x.fPriority2), .val (.int .u64 x.fGrand), .val (.int .i64 x.fSteps), .val (.int .i64 x.fOrigin), .val (.int .i64 x.fStartHops), .val (.int .i64 x.fHops), .val (.int .i64 x.fAction)]
def api_Msg.ls : List (Lf UC) := [.int .i64, .int .i64, .int .i64, .int .i64, .int .u64, .int .i64, .int .i64, .int .i64, .int .i64, .int .u64, .int .i64, .int .i64, .int .i64, .int .i64, .int .i64, .int .i64, .int .i64, .int .u64, .int .i64, .int .i64, .int .i64, .int .i64, .int .i64]
def api_Msg.toS (t : HL D api_Msg.ls) : api_Msg := ⟨t.1, t.2.1, t.2.2.1, t.2.2.2.1, ⟨t.2.2.2.2.1, t.2.2.2.2.2.1⟩, t.2.2.2.2.2.2.1, t.2.2.2.2.2.2.2.1, t.2.2.2.2.2.2.2.2.1, ⟨t.2.2.2.2.2.2.2.2.2.1, t.2.2.2.2.2.2.2.2.2.2.1⟩, t.2.2.2.2.2.2.2.2.2.2.2.1, t.2.2.2.2.2.2.2.2.2.2.2.2.1, ⟨t.2.2.2.2.2.2.2.2.2.2.2.2.2.1, t.2.2.2.2.2.2.2.2.2.2.2.2.2.2.1, t.2.2.2.2.2.2.2.2.2.2.2.2.2.2.2.1⟩, t.2.2.2.2.2.2.2.2.2.2.2.2.2.2.2.2.1, t.2.2.2.2.2.2.2.2.2.2.2.2.2.2.2.2.2.1, t.2.2.2.2.2.2.2.2.2.2.2.2.2.2.2.2.2.2.1, t.2.2.2.2.2.2.2.2.2.2.2.2.2.2.2.2.2.2.2.1, t.2.2.2.2.2.2.2.2.2.2.2.2.2.2.2.2.2.2.2.2.1, t.2.2.2.2.2.2.2.2.2.2.2.2.2.2.2.2.2.2.2.2.2.1, t.2.2.2.2.2.2.2.2.2.2.2.2.2.2.2.2.2.2.2.2.2.2.1⟩
def api_Msg.dec (l : List Cel) : Option api_Msg := match decL api_Msg.ls l with
  | some t => some (api_Msg.toS t)
  | none => none
def ref16_M.enc (x : ref16_M) : List (Cel) := [.val (.int .i64 x.fS.fType), .val (.int .i64 x.fS.fDomain), .val (.int .i64 x.fS.fFlags), .val (.int .i64 x.fS.fCorr), .val (.int .u64 x.fS.fSource.fClock), .val (.int .i64 x.fS.fSource.fPort), .val (.int .i64 x.fS.fSeq), .val (.int .i64 x.fS.fLog), .val (.int .i64 x.fS.fStamp), .val (.int .u64 x.fS.fTarget.fClock), .val (.int .i64 x.fS.fTarget.fPort), .val (.int .i64 x.fS.fUtc), .val (.int .i64 x.fS.fPriority1), .val (.int .i64 x.fS.fQuality.fClass), .val (.int .i64 x.fS.fQuality.fAccuracy), .val (.int .i64 x.fS.fQuality.fVariance), .val (.int .i64 x.fS.fPriority2), .val (.int .u64 x.fS.fGrand), .val (.int .i64 x.fS.fSteps), .val (.int .i64 x.fS.fOrigin), .val (.int .i64 x.fS.fStartHops), .val (.int .i64 x.fS.fHops), .val (.int .i64 x.fS.fAction), .val (.int .i64 x.fF.fType), .val (.int .i64 x.fF.fDomain), .val (.int .i64 x.fF.fFlags), .val (.int .i64 x.fF.fCorr), .val (.int .u64 x.fF.fSource.fClock), .val (.int .i64 x.fF.fSource.fPort), .val (.int .i64 x.fF.fSeq), .val (.int .i64 x.fF.fLog), .val (.int .i64 x.fF.fStamp), .val (.int .u64 x.fF.fTarget.fClock), .val (.int .i64 x.fF.fTarget.fPort), .val (.int .i64 x.fF.fUtc), .val (.int .i64 x.fF.fPriority1), .val (.int .i64 x.fF.fQuality.fClass), .val (.int .i64 x.fF.fQuality.fAccuracy), .val (.int .i64 x.fF.fQuality.fVariance), .val (.int .i64 x.fF.fPriority2), .val (.int .u64 x.fF.fGrand), .val (.int .i64 x.fF.fSteps), .val (.int .i64 x.fF.fOrigin), .val (.int .i64 x.fF.fStartHops), .val (.int .i64 x.fF.fHops), .val (.int .i64 x.fF.fAction), .val (.int .i64 x.fAt), .val (.bool x.fHasS), .val (.bool x.fHasF)]
def ref16_M.ls : List (Lf UC) := [.int .i64, .int .i64, .int .i64, .int .i64, .int .u64, .int .i64, .int .i64, .int .i64, .int .i64, .int .u64, .int .i64, .int .i64, .int .i64, .int .i64, .int .i64, .int .i64, .int .i64, .int .u64, .int .i64, .int .i64, .int .i64, .int .i64, .int .i64, .int .i64, .int .i64, .int .i64, .int .i64, .int .u64, .int .i64, .int .i64, .int .i64, .int .i64, .int .u64, .int .i64, .int .i64, .int .i64, .int .i64, .int .i64, .int .i64, .int .i64, .int .u64, .int .i64, .int .i64, .int .i64, .int .i64, .int .i64, .int .i64, .bool, .bool]
def ref16_M.toS (t : HL D ref16_M.ls) : ref16_M := ⟨⟨t.1, t.2.1, t.2.2.1, t.2.2.2.1, ⟨t.2.2.2.2.1, t.2.2.2.2.2.1⟩, t.2.2.2.2.2.2.1, t.2.2.2.2.2.2.2.1, t.2.2.2.2.2.2.2.2.1, ⟨t.2.2.2.2.2.2.2.2.2.1, t.2.2.2.2.2.2.2.2.2.2.1⟩, t.2.2.2.2.2.2.2.2.2.2.2.1, t.2.2.2.2.2.2.2.2.2.2.2.2.1, ⟨t.2.2.2.2.2.2.2.2.2.2.2.2.2.1, t.2.2.2.2.2.2.2.2.2.2.2.2.2.2.1, t.2.2.2.2.2.2.2.2.2.2.2.2.2.2.2.1⟩, t.2.2.2.2.2.2.2.2.2.2.2.2.2.2.2.2.1, t.2.2.2.2.2.2.2.2.2.2.2.2.2.2.2.2.2.1, t.2.2.2.2.2.2.2.2.2.2.2.2.2.2.2.2.2.2.1, t.2.2.2.2.2.2.2.2.2.2.2.2.2.2.2.2.2.2.2.1, t.2.2.2.2.2.2.2.2.2.2.2.2.2.2.2.2.2.2.2.2.1, t.2.2.2.2.2.2.2.2.2.2.2.2.2.2.2.2.2.2.2.2.2.1, t.2.2.2.2.2.2.2.2.2.2.2.2.2.2.2.2.2.2.2.2.2.2.1⟩, ⟨t.2.2.2.2.2.2.2.2.2.2.2.2.2.2.2.2.2.2.2.2.2.2.2.1, t.2.2.2.2.2.2.2.2.2.2.2.2.2.2.2.2.2.2.2.2.2.2.2.2.1, t.2.2.2.2.2.2.2.2.2.2.2.2.2.2.2.2.2.2.2.2.2.2.2.2.2.1, t.2.2.2.2.2.2.2.2.2.2.2.2.2.2.2.2.2.2.2.2.2.2.2.2.2.2.1, ⟨t.2.2.2.2.2.2.2.2.2.2.2.2.2.2.2.2.2.2.2.2.2.2.2.2.2.2.2.1, t.2.2.2.2.2.2.2.2.2.2.2.2.2.2.2.2.2.2.2.2.2.2.2.2.2.2.2.2.1⟩, t.2.2.2.2.2.2.2.2.2.2.2.2.2.2.2.2.2.2.2.2.2.2.2.2.2.2.2.2.2.1, t.2.2.2.2.2.2.2.2.2.2.2.2.2.2.2.2.2.2.2.2.2.2.2.2.2.2.2.2.2.2.1, t.2.2.2.2.2.2.2.2.2.2.2.2.2.2.2.2.2.2.2.2.2.2.2.2.2.2.2.2.2.2.2.1, ⟨t.2.2.2.2.2.2.2.2.2.2.2.2.2.2.2.2.2.2.2.2.2.2.2.2.2.2.2.2.2.2.2.2.1, t.2.2.2.2.2.2.2.2.2.2.2.2.2.2.2.2.2.2.2.2.2.2.2.2.2.2.2.2.2.2.2.2.2.1⟩, t.2.2.2.2.2.2.2.2.2.2.2.2.2.2.2.2.2.2.2.2.2.2.2.2.2.2.2.2.2.2.2.2.2.2.1, t.2.2.2.2.2.2.2.2.2.2.2.2.2.2.2.2.2.2.2.2.2.2.2.2.2.2.2.2.2.2.2.2.2.2.2.1, ⟨t.2.2.2.2.2.2.2.2.2.2.2.2.2.2.2.2.2.2.2.2.2.2.2.2.2.2.2.2.2.2.2.2.2.2.2.2.1, t.2.2.2.2.2.2.2.2.2.2.2.2.2.2.2.2.2.2.2.2.2.2.2.2.2.2.2.2.2.2.2.2.2.2.2.2.2.1, t.2.2.2.2.2.2.2.2.2.2.2.2.2.2.2.2.2.2.2.2.2.2.2.2.2.2.2.2.2.2.2.2.2.2.2.2.2.2.1⟩, t.2.2.2.2.2.2.2.2.2.2.2.2.2.2.2.2.2.2.2.2.2.2.2.2.2.2.2.2.2.2.2.2.2.2.2.2.2.2.2.1, t.2.2.2.2.2.2.2.2.2.2.2.2.2.2.2.2.2.2.2.2.2.2.2.2.2.2.2.2.2.2.2.2.2.2.2.2.2.2.2.2.1, t.2.2.2.2.2.2.2.2.2.2.2.2.2.2.2.2.2.2.2.2.2.2.2.2.2.2.2.2.2.2.2.2.2.2.2.2.2.2.2.2.2.1, t.2.2.2.2.2.2.2.2.2.2.2.2.2.2.2.2.2.2.2.2.2.2.2.2.2.2.2.2.2.2.2.2.2.2.2.2.2.2.2.2.2.2.1, t.2.2.2.2.2.2.2.2.2.2.2.2.2.2.2.2.2.2.2.2.2.2.2.2.2.2.2.2.2.2.2.2.2.2.2.2.2.2.2.2.2.2.2.1, t.2.2.2.2.2.2.2.2.2.2.2.2.2.2.2.2.2.2.2.2.2.2.2.2.2.2.2.2.2.2.2.2.2.2.2.2.2.2.2.2.2.2.2.2.1, t.2.2.2.2.2.2.2.2.2.2.2.2.2.2.2.2.2.2.2.2.2.2.2.2.2.2.2.2.2.2.2.2.2.2.2.2.2.2.2.2.2.2.2.2.2.1⟩, t.2.2.2.2.2.2.2.2.2.2.2.2.2.2.2.2.2.2.2.2.2.2.2.2.2.2.2.2.2.2.2.2.2.2.2.2.2.2.2.2.2.2.2.2.2.2.1, t.2.2.2.2.2.2.2.2.2.2.2.2.2.2.2.2.2.2.2.2.2.2.2.2.2.2.2.2.2.2.2.2.2.2.2.2.2.2.2.2.2.2.2.2.2.2.2.1, t.2.2.2.2.2.2.2.2.2.2.2.2.2.2.2.2.2.2.2.2.2.2.2.2.2.2.2.2.2.2.2.2.2.2.2.2.2.2.2.2.2.2.2.2.2.2.2.2.1⟩
def ref16_M.dec (l : List Cel) : Option ref16_M := match decL ref16_M.ls l with
  | some t => some (ref16_M.toS t)
  | none => none
def law16_Op.enc (x : law16_Op) : List (Cel) := [.val (.int .i64 x.fKind), .val (.int .i64 x.fAt), .val (.int .i64 x.fM.fType), .val (.int .i64 x.fM.fDomain), .val (.int .i64 x.fM.fFlags), .val (.int .i64 x.fM.fCorr), .val (.int .u64 x.fM.fSource.fClock), .val (.int .i64 x.fM.fSource.fPort), .val (.int .i64 x.fM.fSeq), .val (.int .i64 x.fM.fLog), .val (.int .i64 x.fM.fStamp), .val (.int .u64 x.fM.fTarget.fClock), .val (.int .i64 x.fM.fTarget.fPort), .val (.int .i64 x.fM.fUtc), .val (.int .i64 x.fM.fPriority1), .val (.int .i64 x.fM.fQuality.fClass), .val (.int .i64 x.fM.fQuality.fAccuracy), .val (.int .i64 x.fM.fQuality.fVariance), .val (.int .i64 x.fM.fPriority2), .val (.int .u64 x.fM.fGrand), .val (.int .i64 x.fM.fSteps), .val (.int .i64 x.fM.fOrigin), .val (.int .i64 x.fM.fStartHops), .val (.int .i64 x.fM.fHops), .val (.int .i64 x.fM.fAction)]
def law16_Op.ls : List (Lf UC) := [.int .i64, .int .i64, .int .i64, .int .i64, .int .i64, .int .i64, .int .u64, .int .i64, .int .i64, .int .i64, .int .i64, .int .u64, .int .i64, .int .i64, .int .i64, .int .i64, .int .i64, .int .i64, .int .i64, .int .u64, .int .i64, .int .i64, .int .i64, .int .i64, .int .i64]
def law16_Op.toS (t : HL D law16_Op.ls) : law16_Op := ⟨t.1, t.2.1, ⟨t.2.2.1, t.2.2.2.1, t.2.2.2.2.1, t.2.2.2.2.2.1, ⟨t.2.2.2.2.2.2.1, t.2.2.2.2.2.2.2.1⟩, t.2.2.2.2.2.2.2.2.1, t.2.2.2.2.2.2.2.2.2.1, t.2.2.2.2.2.2.2.2.2.2.1, ⟨t.2.2.2.2.2.2.2.2.2.2.2.1, t.2.2.2.2.2.2.2.2.2.2.2.2.1⟩, t.2.2.2.2.2.2.2.2.2.2.2.2.2.1, t.2.2.2.2.2.2.2.2.2.2.2.2.2.2.1, ⟨t.2.2.2.2.2.2.2.2.2.2.2.2.2.2.2.1, t.2.2.2.2.2.2.2.2.2.2.2.2.2.2.2.2.1, t.2.2.2.2.2.2.2.2.2.2.2.2.2.2.2.2.2.1⟩, t.2.2.2.2.2.2.2.2.2.2.2.2.2.2.2.2.2.2.1, t.2.2.2.2.2.2.2.2.2.2.2.2.2.2.2.2.2.2.2.1, t.2.2.2.2.2.2.2.2.2.2.2.2.2.2.2.2.2.2.2.2.1, t.2.2.2.2.2.2.2.2.2.2.2.2.2.2.2.2.2.2.2.2.2.1, t.2.2.2.2.2.2.2.2.2.2.2.2.2.2.2.2.2.2.2.2.2.2.1, t.2.2.2.2.2.2.2.2.2.2.2.2.2.2.2.2.2.2.2.2.2.2.2.1, t.2.2.2.2.2.2.2.2.2.2.2.2.2.2.2.2.2.2.2.2.2.2.2.2.1⟩⟩
def law16_Op.dec (l : List Cel) : Option law16_Op := match decL law16_Op.ls l with
  | some t => some (law16_Op.toS t)
  | none => none
def seq_Match.enc (x : seq_Match) : List (Cel) := [.val (.int .i64 x.fsync.fType), .val (.int .i64 x.fsync.fDomain), .val (.int .i64 x.fsync.fFlags), .val (.int .i64 x.fsync.fCorr), .val (.int .u64 x.fsync.fSource.fClock), .val (.int .i64 x.fsync.fSource.fPort), .val (.int .i64 x.fsync.fSeq), .val (.int .i64 x.fsync.fLog), .val (.int .i64 x.fsync.fStamp), .val (.int .u64 x.fsync.fTarget.fClock), .val (.int .i64 x.fsync.fTarget.fPort), .val (.int .i64 x.fsync.fUtc), .val (.int .i64 x.fsync.fPriority1), .val (.int .i64 x.fsync.fQuality.fClass), .val (.int .i64 x.fsync.fQuality.fAccuracy), .val (.int .i64 x.fsync.fQuality.fVariance), .val (.int .i64 x.fsync.fPriority2), .val (.int .u64 x.fsync.fGrand), .val (.int .i64 x.fsync.fSteps), .val (.int .i64 x.fsync.fOrigin), .val (.int .i64 x.fsync.fStartHops), .val (.int .i64 x.fsync.fHops), .val (.int .i64 x.fsync.fAction), .val (.int .i64 x.ffollow.fType), .val (.int .i64 x.ffollow.fDomain), .val (.int .i64 x.ffollow.fFlags), .val (.int .i64 x.ffollow.fCorr), .val (.int .u64 x.ffollow.fSource.fClock), .val (.int .i64 x.ffollow.fSource.fPort), .val (.int .i64 x.ffollow.fSeq), .val (.int .i64 x.ffollow.fLog), .val (.int .i64 x.ffollow.fStamp), .val (.int .u64 x.ffollow.fTarget.fClock), .val (.int .i64 x.ffollow.fTarget.fPort), .val (.int .i64 x.ffollow.fUtc), .val (.int .i64 x.ffollow.fPriority1), .val (.int .i64 x.ffollow.fQuality.fClass), .val (.int .i64 x.ffollow.fQuality.fAccuracy), .val (.int .i64 x.ffollow.fQuality.fVariance), .val (.int .i64 x.ffollow.fPriority2), .val (.int .u64 x.ffollow.fGrand), .val (.int .i64 x.ffollow.fSteps), .val (.int .i64 x.ffollow.fOrigin), .val (.int .i64 x.ffollow.fStartHops), .val (.int .i64 x.ffollow.fHops), .val (.int .i64 x.ffollow.fAction), .val (.int .i64 x.fat), .val (.bool x.fhasSync), .val (.bool x.fhasFollowUp)]
def seq_Match.ls : List (Lf UC) := [.int .i64, .int .i64, .int .i64, .int .i64, .int .u64, .int .i64, .int .i64, .int .i64, .int .i64, .int .u64, .int .i64, .int .i64, .int .i64, .int .i64, .int .i64, .int .i64, .int .i64, .int .u64, .int .i64, .int .i64, .int .i64, .int .i64, .int .i64, .int .i64, .int .i64, .int .i64, .int .i64, .int .u64, .int .i64, .int .i64, .int .i64, .int .i64, .int .u64, .int .i64, .int .i64, .int .i64, .int .i64, .int .i64, .int .i64, .int .i64, .int .u64, .int .i64, .int .i64, .int .i64, .int .i64, .int .i64, .int .i64, .bool, .bool]
def seq_Match.toS (t : HL D seq_Match.ls) : seq_Match := ⟨⟨t.1, t.2.1, t.2.2.1, t.2.2.2.1, ⟨t.2.2.2.2.1, t.2.2.2.2.2.1⟩, t.2.2.2.2.2.2.1, t.2.2.2.2.2.2.2.1, t.2.2.2.2.2.2.2.2.1, ⟨t.2.2.2.2.2.2.2.2.2.1, t.2.2.2.2.2.2.2.2.2.2.1⟩, t.2.2.2.2.2.2.2.2.2.2.2.1, t.2.2.2.2.2.2.2.2.2.2.2.2.1, ⟨t.2.2.2.2.2.2.2.2.2.2.2.2.2.1, t.2.2.2.2.2.2.2.2.2.2.2.2.2.2.1, t.2.2.2.2.2.2.2.2.2.2.2.2.2.2.2.1⟩, t.2.2.2.2.2.2.2.2.2.2.2.2.2.2.2.2.1, t.2.2.2.2.2.2.2.2.2.2.2.2.2.2.2.2.2.1, t.2.2.2.2.2.2.2.2.2.2.2.2.2.2.2.2.2.2.1, t.2.2.2.2.2.2.2.2.2.2.2.2.2.2.2.2.2.2.2.1, t.2.2.2.2.2.2.2.2.2.2.2.2.2.2.2.2.2.2.2.2.1, t.2.2.2.2.2.2.2.2.2.2.2.2.2.2.2.2.2.2.2.2.2.1, t.2.2.2.2.2.2.2.2.2.2.2.2.2.2.2.2.2.2.2.2.2.2.1⟩, ⟨t.2.2.2.2.2.2.2.2.2.2.2.2.2.2.2.2.2.2.2.2.2.2.2.1, t.2.2.2.2.2.2.2.2.2.2.2.2.2.2.2.2.2.2.2.2.2.2.2.2.1, t.2.2.2.2.2.2.2.2.2.2.2.2.2.2.2.2.2.2.2.2.2.2.2.2.2.1, t.2.2.2.2.2.2.2.2.2.2.2.2.2.2.2.2.2.2.2.2.2.2.2.2.2.2.1, ⟨t.2.2.2.2.2.2.2.2.2.2.2.2.2.2.2.2.2.2.2.2.2.2.2.2.2.2.2.1, t.2.2.2.2.2.2.2.2.2.2.2.2.2.2.2.2.2.2.2.2.2.2.2.2.2.2.2.2.1⟩, t.2.2.2.2.2.2.2.2.2.2.2.2.2.2.2.2.2.2.2.2.2.2.2.2.2.2.2.2.2.1, t.2.2.2.2.2.2.2.2.2.2.2.2.2.2.2.2.2.2.2.2.2.2.2.2.2.2.2.2.2.2.1, t.2.2.2.2.2.2.2.2.2.2.2.2.2.2.2.2.2.2.2.2.2.2.2.2.2.2.2.2.2.2.2.1, ⟨t.2.2.2.2.2.2.2.2.2.2.2.2.2.2.2.2.2.2.2.2.2.2.2.2.2.2.2.2.2.2.2.2.1, t.2.2.2.2.2.2.2.2.2.2.2.2.2.2.2.2.2.2.2.2.2.2.2.2.2.2.2.2.2.2.2.2.2.1⟩, t.2.2.2.2.2.2.2.2.2.2.2.2.2.2.2.2.2.2.2.2.2.2.2.2.2.2.2.2.2.2.2.2.2.2.1, t.2.2.2.2.2.2.2.2.2.2.2.2.2.2.2.2.2.2.2.2.2.2.2.2.2.2.2.2.2.2.2.2.2.2.2.1, ⟨t.2.2.2.2.2.2.2.2.2.2.2.2.2.2.2.2.2.2.2.2.2.2.2.2.2.2.2.2.2.2.2.2.2.2.2.2.1, t.2.2.2.2.2.2.2.2.2.2.2.2.2.2.2.2.2.2.2.2.2.2.2.2.2.2.2.2.2.2.2.2.2.2.2.2.2.1, t.2.2.2.2.2.2.2.2.2.2.2.2.2.2.2.2.2.2.2.2.2.2.2.2.2.2.2.2.2.2.2.2.2.2.2.2.2.2.1⟩, t.2.2.2.2.2.2.2.2.2.2.2.2.2.2.2.2.2.2.2.2.2.2.2.2.2.2.2.2.2.2.2.2.2.2.2.2.2.2.2.1, t.2.2.2.2.2.2.2.2.2.2.2.2.2.2.2.2.2.2.2.2.2.2.2.2.2.2.2.2.2.2.2.2.2.2.2.2.2.2.2.2.1, t.2.2.2.2.2.2.2.2.2.2.2.2.2.2.2.2.2.2.2.2.2.2.2.2.2.2.2.2.2.2.2.2.2.2.2.2.2.2.2.2.2.1, t.2.2.2.2.2.2.2.2.2.2.2.2.2.2.2.2.2.2.2.2.2.2.2.2.2.2.2.2.2.2.2.2.2.2.2.2.2.2.2.2.2.2.1, t.2.2.2.2.2.2.2.2.2.2.2.2.2.2.2.2.2.2.2.2.2.2.2.2.2.2.2.2.2.2.2.2.2.2.2.2.2.2.2.2.2.2.2.1, t.2.2.2.2.2.2.2.2.2.2.2.2.2.2.2.2.2.2.2.2.2.2.2.2.2.2.2.2.2.2.2.2.2.2.2.2.2.2.2.2.2.2.2.2.1, t.2.2.2.2.2.2.2.2.2.2.2.2.2.2.2.2.2.2.2.2.2.2.2.2.2.2.2.2.2.2.2.2.2.2.2.2.2.2.2.2.2.2.2.2.2.1⟩, t.2.2.2.2.2.2.2.2.2.2.2.2.2.2.2.2.2.2.2.2.2.2.2.2.2.2.2.2.2.2.2.2.2.2.2.2.2.2.2.2.2.2.2.2.2.2.1, t.2.2.2.2.2.2.2.2.2.2.2.2.2.2.2.2.2.2.2.2.2.2.2.2.2.2.2.2.2.2.2.2.2.2.2.2.2.2.2.2.2.2.2.2.2.2.2.1, t.2.2.2.2.2.2.2.2.2.2.2.2.2.2.2.2.2.2.2.2.2.2.2.2.2.2.2.2.2.2.2.2.2.2.2.2.2.2.2.2.2.2.2.2.2.2.2.2.1⟩
def seq_Match.dec (l : List Cel) : Option seq_Match := match decL seq_Match.ls l with
  | some t => some (seq_Match.toS t)
  | none => none
def seq_sign.enc (x : seq_sign) : List (Cel) := [.val (.int .u64 x.fsource.fClock), .val (.int .i64 x.fsource.fPort), .val (.int .i64 x.fseq)]
def seq_sign.ls : List (Lf UC) := [.int .u64, .int .i64, .int .i64]
def seq_sign.toS (t : HL D seq_sign.ls) : seq_sign := ⟨⟨t.1, t.2.1⟩, t.2.2.1⟩
def seq_sign.dec (l : List Cel) : Option seq_sign := match decL seq_sign.ls l with
  | some t => some (seq_sign.toS t)
  | none => none
def dec_u8 : List Cel → Option UInt8
  | [.val (.int .u8 n)] => if 0 ≤ n ∧ n < 256 then some (UInt8.ofNat n.toNat) else none
  | _ => none
def dec_int : List Cel → Option (Int)
  | [c] => dInt .i64 c
  | _ => none
def dec_bool : List Cel → Option (Bool)
  | [c] => dBool c
  | _ => none
def ofT (t : Nat) : Option UC := match t with | 2 => some .int | 3 => some .int | 4 => some .bool | 5 => some .u8 | 6 => some .u8 | 30 => some .t_api_PortID | 32 => some .t_api_Quality | 34 => some .t_api_Msg | 36 => some .t_ref16_M | 38 => some .t_law16_Op | 52 => some .t_seq_Match | 54 => some .t_seq_sign | 67 => some .u8 | 68 => some .u8 | _ => none
def U : Univ where
  C := UC
  D := D
  dft := fun u => match u with | .u8 => 0 | .t_law16_Op => law16_Op.zero | .int => 0 | .bool => false | .t_api_PortID => api_PortID.zero | .t_api_Quality => api_Quality.zero | .t_api_Msg => api_Msg.zero | .t_ref16_M => ref16_M.zero | .t_seq_Match => seq_Match.zero | .t_seq_sign => seq_sign.zero
  size := fun u => match u with | .u8 => 1 | .t_law16_Op => 25 | .int => 1 | .bool => 1 | .t_api_PortID => 2 | .t_api_Quality => 3 | .t_api_Msg => 23 | .t_ref16_M => 49 | .t_seq_Match => 49 | .t_seq_sign => 3
  enc := fun u => match u with
    | .u8 => fun x => [.val (.int .u8 x.toNat)]
    | .t_law16_Op => law16_Op.enc
    | .int => fun x => [.val (.int .i64 x)]
    | .bool => fun x => [.val (.bool x)]
    | .t_api_PortID => api_PortID.enc
    | .t_api_Quality => api_Quality.enc
    | .t_api_Msg => api_Msg.enc
    | .t_ref16_M => ref16_M.enc
    | .t_seq_Match => seq_Match.enc
    | .t_seq_sign => seq_sign.enc
  dec := fun u => match u with
    | .u8 => dec_u8
    | .t_law16_Op => law16_Op.dec
    | .int => dec_int
    | .bool => dec_bool
    | .t_api_PortID => api_PortID.dec
    | .t_api_Quality => api_Quality.dec
    | .t_api_Msg => api_Msg.dec
    | .t_ref16_M => ref16_M.dec
    | .t_seq_Match => seq_Match.dec
    | .t_seq_sign => seq_sign.dec
  ofType := ofT
  eq? := fun u v => if h : u = v then some ⟨h⟩ else none
  toBytes := fun u => match u with | .u8 => fun l => some l | _ => fun _ => none
  u8 := .u8
  ofBytes := fun l => l

theorem api_PortID.dec_le {c : Cx} {l : List Cel} {x : api_PortID} {vs : List Value} (h : api_PortID.dec l = some x) (hl : RL U c l vs) : RL U c x.enc vs := by
  unfold api_PortID.dec at h
  split at h
  · rename_i t ht
    cases h
    have e : (api_PortID.toS t).enc = encL api_PortID.ls t := by kernel_rfl
    rw [e]
    exact decL_le (U := U) ht hl
  · cases h
theorem api_Quality.dec_le {c : Cx} {l : List Cel} {x : api_Quality} {vs : List Value} (h : api_Quality.dec l = some x) (hl : RL U c l vs) : RL U c x.enc vs := by
  unfold api_Quality.dec at h
  split at h
  · rename_i t ht
    cases h
    have e : (api_Quality.toS t).enc = encL api_Quality.ls t := by kernel_rfl
    rw [e]
    exact decL_le (U := U) ht hl
  · cases h
theorem api_Msg.dec_le {c : Cx} {l : List Cel} {x : api_Msg} {vs : List Value} (h : api_Msg.dec l = some x) (hl : RL U c l vs) : RL U c x.enc vs := by
  unfold api_Msg.dec at h
  split at h
  · rename_i t ht
    cases h
    have e : (api_Msg.toS t).enc = encL api_Msg.ls t := by kernel_rfl
    rw [e]
    exact decL_le (U := U) ht hl
  · cases h
theorem ref16_M.dec_le {c : Cx} {l : List Cel} {x : ref16_M} {vs : List Value} (h : ref16_M.dec l = some x) (hl : RL U c l vs) : RL U c x.enc vs := by
  unfold ref16_M.dec at h
  split at h
  · rename_i t ht
    cases h
    have e : (ref16_M.toS t).enc = encL ref16_M.ls t := by kernel_rfl
    rw [e]
    exact decL_le (U := U) ht hl
  · cases h
theorem law16_Op.dec_le {c : Cx} {l : List Cel} {x : law16_Op} {vs : List Value} (h : law16_Op.dec l = some x) (hl : RL U c l vs) : RL U c x.enc vs := by
  unfold law16_Op.dec at h
  split at h
  · rename_i t ht
    cases h
    have e : (law16_Op.toS t).enc = encL law16_Op.ls t := by kernel_rfl
    rw [e]
    exact decL_le (U := U) ht hl
  · cases h
theorem seq_Match.dec_le {c : Cx} {l : List Cel} {x : seq_Match} {vs : List Value} (h : seq_Match.dec l = some x) (hl : RL U c l vs) : RL U c x.enc vs := by
  unfold seq_Match.dec at h
  split at h
  · rename_i t ht
    cases h
    have e : (seq_Match.toS t).enc = encL seq_Match.ls t := by kernel_rfl
    rw [e]
    exact decL_le (U := U) ht hl
  · cases h
theorem seq_sign.dec_le {c : Cx} {l : List Cel} {x : seq_sign} {vs : List Value} (h : seq_sign.dec l = some x) (hl : RL U c l vs) : RL U c x.enc vs := by
  unfold seq_sign.dec at h
  split at h
  · rename_i t ht
    cases h
    have e : (seq_sign.toS t).enc = encL seq_sign.ls t := by kernel_rfl
    rw [e]
    exact decL_le (U := U) ht hl
  · cases h
theorem dec_u8_le {c : Cx} {l : List Cel} {x : UInt8} {vs : List Value} (h : dec_u8 l = some x) (hl : RL U c l vs) : RL U c (U.enc .u8 x) vs := by
  unfold dec_u8 at h
  split at h
  · rename_i n
    split at h
    · rename_i hb
      cases h
      obtain ⟨v, r, rfl, k, hl⟩ := hl.uncons
      cases hl.unnil
      exact .cons (u8_le rfl hb rfl k) .nil
    · cases h
  · cases h
theorem dec_int_le {c : Cx} {l : List Cel} {x : Int} {vs : List Value} (h : dec_int l = some x) (hl : RL U c l vs) : RL U c (U.enc .int x) vs := by
  unfold dec_int at h
  split at h
  · obtain ⟨v, r, rfl, k, hl⟩ := hl.uncons
    cases hl.unnil
    exact .cons (dInt_le h k) .nil
  · cases h
theorem dec_bool_le {c : Cx} {l : List Cel} {x : Bool} {vs : List Value} (h : dec_bool l = some x) (hl : RL U c l vs) : RL U c (U.enc .bool x) vs := by
  unfold dec_bool at h
  split at h
  · obtain ⟨v, r, rfl, k, hl⟩ := hl.uncons
    cases hl.unnil
    exact .cons (dBool_le h k) .nil
  · cases h
theorem U_ok : U.Ok where
  enc_len u x := by cases u <;> rfl
  enc_cell u x := by cases u <;> rfl
  dec_le u l x h c vs hl := by
    cases u
    case u8 => exact dec_u8_le h hl
    case t_law16_Op => exact law16_Op.dec_le h hl
    case int => exact dec_int_le h hl
    case bool => exact dec_bool_le h hl
    case t_api_PortID => exact api_PortID.dec_le h hl
    case t_api_Quality => exact api_Quality.dec_le h hl
    case t_api_Msg => exact api_Msg.dec_le h hl
    case t_ref16_M => exact ref16_M.dec_le h hl
    case t_seq_Match => exact seq_Match.dec_le h hl
    case t_seq_sign => exact seq_sign.dec_le h hl
  toBytes u xs bs h := by
    cases u <;> first
      | (cases h; done)
      | (cases h; exact ⟨rfl, rfl, fun i hi => rfl⟩)
  u8 := rfl
  ofBytes bs := ⟨rfl, fun i hi => rfl⟩
theorem U_pure : U.Pure := fun u x => by cases u <;> rfl
theorem api_PortID.dec_enc (x : api_PortID) : api_PortID.dec x.enc = some x := by kernel_rfl
theorem api_PortID.enc_inj {x y : api_PortID} (h : x.enc = y.enc) : x = y := by
  have := congrArg api_PortID.dec h
  rw [api_PortID.dec_enc, api_PortID.dec_enc] at this
  exact Option.some.inj this
theorem api_Quality.dec_enc (x : api_Quality) : api_Quality.dec x.enc = some x := by kernel_rfl
theorem api_Quality.enc_inj {x y : api_Quality} (h : x.enc = y.enc) : x = y := by
  have := congrArg api_Quality.dec h
  rw [api_Quality.dec_enc, api_Quality.dec_enc] at this
  exact Option.some.inj this
theorem api_Msg.dec_enc (x : api_Msg) : api_Msg.dec x.enc = some x := by kernel_rfl
theorem api_Msg.enc_inj {x y : api_Msg} (h : x.enc = y.enc) : x = y := by
  have := congrArg api_Msg.dec h
  rw [api_Msg.dec_enc, api_Msg.dec_enc] at this
  exact Option.some.inj this
theorem ref16_M.dec_enc (x : ref16_M) : ref16_M.dec x.enc = some x := by kernel_rfl
theorem ref16_M.enc_inj {x y : ref16_M} (h : x.enc = y.enc) : x = y := by
  have := congrArg ref16_M.dec h
  rw [ref16_M.dec_enc, ref16_M.dec_enc] at this
  exact Option.some.inj this
theorem law16_Op.dec_enc (x : law16_Op) : law16_Op.dec x.enc = some x := by kernel_rfl
theorem law16_Op.enc_inj {x y : law16_Op} (h : x.enc = y.enc) : x = y := by
  have := congrArg law16_Op.dec h
  rw [law16_Op.dec_enc, law16_Op.dec_enc] at this
  exact Option.some.inj this
theorem seq_Match.dec_enc (x : seq_Match) : seq_Match.dec x.enc = some x := by kernel_rfl
theorem seq_Match.enc_inj {x y : seq_Match} (h : x.enc = y.enc) : x = y := by
  have := congrArg seq_Match.dec h
  rw [seq_Match.dec_enc, seq_Match.dec_enc] at this
  exact Option.some.inj this
theorem seq_sign.dec_enc (x : seq_sign) : seq_sign.dec x.enc = some x := by kernel_rfl
theorem seq_sign.enc_inj {x y : seq_sign} (h : x.enc = y.enc) : x = y := by
  have := congrArg seq_sign.dec h
  rw [seq_sign.dec_enc, seq_sign.dec_enc] at this
  exact Option.some.inj this
theorem z28 : Try.prog.cellsOf 28 = 1 := by kernel_rfl
theorem z3 : Try.prog.cellsOf 3 = 1 := by kernel_rfl
theorem z30 : Try.prog.cellsOf 30 = 2 := by kernel_rfl
def api_PortID.Wf (x : api_PortID) : Prop := (Lit.int .u64 x.fClock).wf = true ∧ (Lit.int .i64 x.fPort).wf = true
theorem api_PortID.opened {l : List U.S} (h : Opens U Try.prog 30 l) : ∃ x : api_PortID, l = x.enc ∧ x.Wf := by
  obtain ⟨hl, hf⟩ := h.toStruct Try.underlying30
  rw [z30] at hl
  have q0 : Opens U Try.prog 28 ((l.drop 0).take (Try.prog.cellsOf 28)) := hf _ (List.mem_of_getElem? (i := 0) rfl)
  rw [z28] at q0
  obtain ⟨x0, e0, w0⟩ := q0.toInt Try.underlying28
  have q1 : Opens U Try.prog 3 ((l.drop 1).take (Try.prog.cellsOf 3)) := hf _ (List.mem_of_getElem? (i := 1) rfl)
  rw [z3] at q1
  obtain ⟨x1, e1, w1⟩ := q1.toInt Try.underlying3
  have hnil : l.drop 2 = [] := List.drop_eq_nil_of_le (by omega)
  refine ⟨⟨x0, x1⟩, ?_, w0, w1⟩
  have e : l.drop 0 = l := rfl
  rw [← e]
  rw [partL l 0 1 1 rfl, e0, partL l 1 1 2 rfl, e1, hnil]
  rfl
theorem z32 : Try.prog.cellsOf 32 = 3 := by kernel_rfl
def api_Quality.Wf (x : api_Quality) : Prop := (Lit.int .i64 x.fClass).wf = true ∧ (Lit.int .i64 x.fAccuracy).wf = true ∧ (Lit.int .i64 x.fVariance).wf = true
theorem api_Quality.opened {l : List U.S} (h : Opens U Try.prog 32 l) : ∃ x : api_Quality, l = x.enc ∧ x.Wf := by
  obtain ⟨hl, hf⟩ := h.toStruct Try.underlying32
  rw [z32] at hl
  have q0 : Opens U Try.prog 3 ((l.drop 0).take (Try.prog.cellsOf 3)) := hf _ (List.mem_of_getElem? (i := 0) rfl)
  rw [z3] at q0
  obtain ⟨x0, e0, w0⟩ := q0.toInt Try.underlying3
  have q1 : Opens U Try.prog 3 ((l.drop 1).take (Try.prog.cellsOf 3)) := hf _ (List.mem_of_getElem? (i := 1) rfl)
  rw [z3] at q1
  obtain ⟨x1, e1, w1⟩ := q1.toInt Try.underlying3
  have q2 : Opens U Try.prog 3 ((l.drop 2).take (Try.prog.cellsOf 3)) := hf _ (List.mem_of_getElem? (i := 2) rfl)
  rw [z3] at q2
  obtain ⟨x2, e2, w2⟩ := q2.toInt Try.underlying3
  have hnil : l.drop 3 = [] := List.drop_eq_nil_of_le (by omega)
  refine ⟨⟨x0, x1, x2⟩, ?_, w0, w1, w2⟩
  have e : l.drop 0 = l := rfl
  rw [← e]
  rw [partL l 0 1 1 rfl, e0, partL l 1 1 2 rfl, e1, partL l 2 1 3 rfl, e2, hnil]
  rfl
theorem z34 : Try.prog.cellsOf 34 = 23 := by kernel_rfl
def api_Msg.Wf (x : api_Msg) : Prop := (Lit.int .i64 x.fType).wf = true ∧ (Lit.int .i64 x.fDomain).wf = true ∧ (Lit.int .i64 x.fFlags).wf = true ∧ (Lit.int .i64 x.fCorr).wf = true ∧ api_PortID.Wf x.fSource ∧ (Lit.int .i64 x.fSeq).wf = true ∧ (Lit.int .i64 x.fLog).wf = true ∧ (Lit.int .i64 x.fStamp).wf = true ∧ api_PortID.Wf x.fTarget ∧ (Lit.int .i64 x.fUtc).wf = true ∧ (Lit.int .i64 x.fPriority1).wf = true ∧ api_Quality.Wf x.fQuality ∧ (Lit.int .i64 x.fPriority2).wf = true ∧ (Lit.int .u64 x.fGrand).wf = true ∧ (Lit.int .i64 x.fSteps).wf = true ∧ (Lit.int .i64 x.fOrigin).wf = true ∧ (Lit.int .i64 x.fStartHops).wf = true ∧ (Lit.int .i64 x.fHops).wf = true ∧ (Lit.int .i64 x.fAction).wf = true
theorem api_Msg.opened {l : List U.S} (h : Opens U Try.prog 34 l) : ∃ x : api_Msg, l = x.enc ∧ x.Wf := by
  obtain ⟨hl, hf⟩ := h.toStruct Try.underlying34
  rw [z34] at hl
  have q0 : Opens U Try.prog 3 ((l.drop 0).take (Try.prog.cellsOf 3)) := hf _ (List.mem_of_getElem? (i := 0) rfl)
  rw [z3] at q0
  obtain ⟨x0, e0, w0⟩ := q0.toInt Try.underlying3
  have q1 : Opens U Try.prog 3 ((l.drop 1).take (Try.prog.cellsOf 3)) := hf _ (List.mem_of_getElem? (i := 1) rfl)
  rw [z3] at q1
  obtain ⟨x1, e1, w1⟩ := q1.toInt Try.underlying3
  have q2 : Opens U Try.prog 3 ((l.drop 2).take (Try.prog.cellsOf 3)) := hf _ (List.mem_of_getElem? (i := 2) rfl)
  rw [z3] at q2
  obtain ⟨x2, e2, w2⟩ := q2.toInt Try.underlying3
  have q3 : Opens U Try.prog 3 ((l.drop 3).take (Try.prog.cellsOf 3)) := hf _ (List.mem_of_getElem? (i := 3) rfl)
  rw [z3] at q3
  obtain ⟨x3, e3, w3⟩ := q3.toInt Try.underlying3
  have q4 : Opens U Try.prog 30 ((l.drop 4).take (Try.prog.cellsOf 30)) := hf _ (List.mem_of_getElem? (i := 4) rfl)
  rw [z30] at q4
  obtain ⟨x4, e4, w4⟩ := api_PortID.opened q4
  have q5 : Opens U Try.prog 3 ((l.drop 6).take (Try.prog.cellsOf 3)) := hf _ (List.mem_of_getElem? (i := 5) rfl)
  rw [z3] at q5
  obtain ⟨x5, e5, w5⟩ := q5.toInt Try.underlying3
  have q6 : Opens U Try.prog 3 ((l.drop 7).take (Try.prog.cellsOf 3)) := hf _ (List.mem_of_getElem? (i := 6) rfl)
  rw [z3] at q6
  obtain ⟨x6, e6, w6⟩ := q6.toInt Try.underlying3
  have q7 : Opens U Try.prog 3 ((l.drop 8).take (Try.prog.cellsOf 3)) := hf _ (List.mem_of_getElem? (i := 7) rfl)
  rw [z3] at q7
  obtain ⟨x7, e7, w7⟩ := q7.toInt Try.underlying3
  have q8 : Opens U Try.prog 30 ((l.drop 9).take (Try.prog.cellsOf 30)) := hf _ (List.mem_of_getElem? (i := 8) rfl)
  rw [z30] at q8
  obtain ⟨x8, e8, w8⟩ := api_PortID.opened q8
  have q9 : Opens U Try.prog 3 ((l.drop 11).take (Try.prog.cellsOf 3)) := hf _ (List.mem_of_getElem? (i := 9) rfl)
  rw [z3] at q9
  obtain ⟨x9, e9, w9⟩ := q9.toInt Try.underlying3
  have q10 : Opens U Try.prog 3 ((l.drop 12).take (Try.prog.cellsOf 3)) := hf _ (List.mem_of_getElem? (i := 10) rfl)
  rw [z3] at q10
  obtain ⟨x10, e10, w10⟩ := q10.toInt Try.underlying3
  have q11 : Opens U Try.prog 32 ((l.drop 13).take (Try.prog.cellsOf 32)) := hf _ (List.mem_of_getElem? (i := 11) rfl)
  rw [z32] at q11
  obtain ⟨x11, e11, w11⟩ := api_Quality.opened q11
  have q12 : Opens U Try.prog 3 ((l.drop 16).take (Try.prog.cellsOf 3)) := hf _ (List.mem_of_getElem? (i := 12) rfl)
  rw [z3] at q12
  obtain ⟨x12, e12, w12⟩ := q12.toInt Try.underlying3
  have q13 : Opens U Try.prog 28 ((l.drop 17).take (Try.prog.cellsOf 28)) := hf _ (List.mem_of_getElem? (i := 13) rfl)
  rw [z28] at q13
  obtain ⟨x13, e13, w13⟩ := q13.toInt Try.underlying28
  have q14 : Opens U Try.prog 3 ((l.drop 18).take (Try.prog.cellsOf 3)) := hf _ (List.mem_of_getElem? (i := 14) rfl)
  rw [z3] at q14
  obtain ⟨x14, e14, w14⟩ := q14.toInt Try.underlying3
  have q15 : Opens U Try.prog 3 ((l.drop 19).take (Try.prog.cellsOf 3)) := hf _ (List.mem_of_getElem? (i := 15) rfl)
  rw [z3] at q15
  obtain ⟨x15, e15, w15⟩ := q15.toInt Try.underlying3
  have q16 : Opens U Try.prog 3 ((l.drop 20).take (Try.prog.cellsOf 3)) := hf _ (List.mem_of_getElem? (i := 16) rfl)
  rw [z3] at q16
  obtain ⟨x16, e16, w16⟩ := q16.toInt Try.underlying3
  have q17 : Opens U Try.prog 3 ((l.drop 21).take (Try.prog.cellsOf 3)) := hf _ (List.mem_of_getElem? (i := 17) rfl)
  rw [z3] at q17
  obtain ⟨x17, e17, w17⟩ := q17.toInt Try.underlying3
  have q18 : Opens U Try.prog 3 ((l.drop 22).take (Try.prog.cellsOf 3)) := hf _ (List.mem_of_getElem? (i := 18) rfl)
  rw [z3] at q18
  obtain ⟨x18, e18, w18⟩ := q18.toInt Try.underlying3
  have hnil : l.drop 23 = [] := List.drop_eq_nil_of_le (by omega)
  refine ⟨⟨x0, x1, x2, x3, x4, x5, x6, x7, x8, x9, x10, x11, x12, x13, x14, x15, x16, x17, x18⟩, ?_, w0, w1, w2, w3, w4, w5, w6, w7, w8, w9, w10, w11, w12, w13, w14, w15, w16, w17, w18⟩
  have e : l.drop 0 = l := rfl
  rw [← e]
  rw [partL l 0 1 1 rfl, e0, partL l 1 1 2 rfl, e1, partL l 2 1 3 rfl, e2, partL l 3 1 4 rfl, e3, partL l 4 2 6 rfl, e4, partL l 6 1 7 rfl, e5, partL l 7 1 8 rfl, e6, partL l 8 1 9 rfl, e7, partL l 9 2 11 rfl, e8, partL l 11 1 12 rfl, e9, partL l 12 1 13 rfl, e10, partL l 13 3 16 rfl, e11, partL l 16 1 17 rfl, e12, partL l 17 1 18 rfl, e13, partL l 18 1 19 rfl, e14, partL l 19 1 20 rfl, e15, partL l 20 1 21 rfl, e16, partL l 21 1 22 rfl, e17, partL l 22 1 23 rfl, e18, hnil]
  rfl
theorem z4 : Try.prog.cellsOf 4 = 1 := by kernel_rfl
theorem z36 : Try.prog.cellsOf 36 = 49 := by kernel_rfl
def ref16_M.Wf (x : ref16_M) : Prop := api_Msg.Wf x.fS ∧ api_Msg.Wf x.fF ∧ (Lit.int .i64 x.fAt).wf = true ∧ True ∧ True
theorem ref16_M.opened {l : List U.S} (h : Opens U Try.prog 36 l) : ∃ x : ref16_M, l = x.enc ∧ x.Wf := by
  obtain ⟨hl, hf⟩ := h.toStruct Try.underlying36
  rw [z36] at hl
  have q0 : Opens U Try.prog 34 ((l.drop 0).take (Try.prog.cellsOf 34)) := hf _ (List.mem_of_getElem? (i := 0) rfl)
  rw [z34] at q0
  obtain ⟨x0, e0, w0⟩ := api_Msg.opened q0
  have q1 : Opens U Try.prog 34 ((l.drop 23).take (Try.prog.cellsOf 34)) := hf _ (List.mem_of_getElem? (i := 1) rfl)
  rw [z34] at q1
  obtain ⟨x1, e1, w1⟩ := api_Msg.opened q1
  have q2 : Opens U Try.prog 3 ((l.drop 46).take (Try.prog.cellsOf 3)) := hf _ (List.mem_of_getElem? (i := 2) rfl)
  rw [z3] at q2
  obtain ⟨x2, e2, w2⟩ := q2.toInt Try.underlying3
  have q3 : Opens U Try.prog 4 ((l.drop 47).take (Try.prog.cellsOf 4)) := hf _ (List.mem_of_getElem? (i := 3) rfl)
  rw [z4] at q3
  obtain ⟨x3, e3⟩ := q3.toBool Try.underlying4
  have w3 := trivial
  have q4 : Opens U Try.prog 4 ((l.drop 48).take (Try.prog.cellsOf 4)) := hf _ (List.mem_of_getElem? (i := 4) rfl)
  rw [z4] at q4
  obtain ⟨x4, e4⟩ := q4.toBool Try.underlying4
  have w4 := trivial
  have hnil : l.drop 49 = [] := List.drop_eq_nil_of_le (by omega)
  refine ⟨⟨x0, x1, x2, x3, x4⟩, ?_, w0, w1, w2, w3, w4⟩
  have e : l.drop 0 = l := rfl
  rw [← e]
  rw [partL l 0 23 23 rfl, e0, partL l 23 23 46 rfl, e1, partL l 46 1 47 rfl, e2, partL l 47 1 48 rfl, e3, partL l 48 1 49 rfl, e4, hnil]
  rfl
theorem z38 : Try.prog.cellsOf 38 = 25 := by kernel_rfl
def law16_Op.Wf (x : law16_Op) : Prop := (Lit.int .i64 x.fKind).wf = true ∧ (Lit.int .i64 x.fAt).wf = true ∧ api_Msg.Wf x.fM
theorem law16_Op.opened {l : List U.S} (h : Opens U Try.prog 38 l) : ∃ x : law16_Op, l = x.enc ∧ x.Wf := by
  obtain ⟨hl, hf⟩ := h.toStruct Try.underlying38
  rw [z38] at hl
  have q0 : Opens U Try.prog 3 ((l.drop 0).take (Try.prog.cellsOf 3)) := hf _ (List.mem_of_getElem? (i := 0) rfl)
  rw [z3] at q0
  obtain ⟨x0, e0, w0⟩ := q0.toInt Try.underlying3
  have q1 : Opens U Try.prog 3 ((l.drop 1).take (Try.prog.cellsOf 3)) := hf _ (List.mem_of_getElem? (i := 1) rfl)
  rw [z3] at q1
  obtain ⟨x1, e1, w1⟩ := q1.toInt Try.underlying3
  have q2 : Opens U Try.prog 34 ((l.drop 2).take (Try.prog.cellsOf 34)) := hf _ (List.mem_of_getElem? (i := 2) rfl)
  rw [z34] at q2
  obtain ⟨x2, e2, w2⟩ := api_Msg.opened q2
  have hnil : l.drop 25 = [] := List.drop_eq_nil_of_le (by omega)
  refine ⟨⟨x0, x1, x2⟩, ?_, w0, w1, w2⟩
  have e : l.drop 0 = l := rfl
  rw [← e]
  rw [partL l 0 1 1 rfl, e0, partL l 1 1 2 rfl, e1, partL l 2 23 25 rfl, e2, hnil]
  rfl
theorem z52 : Try.prog.cellsOf 52 = 49 := by kernel_rfl
def seq_Match.Wf (x : seq_Match) : Prop := api_Msg.Wf x.fsync ∧ api_Msg.Wf x.ffollow ∧ (Lit.int .i64 x.fat).wf = true ∧ True ∧ True
theorem seq_Match.opened {l : List U.S} (h : Opens U Try.prog 52 l) : ∃ x : seq_Match, l = x.enc ∧ x.Wf := by
  obtain ⟨hl, hf⟩ := h.toStruct Try.underlying52
  rw [z52] at hl
  have q0 : Opens U Try.prog 34 ((l.drop 0).take (Try.prog.cellsOf 34)) := hf _ (List.mem_of_getElem? (i := 0) rfl)
  rw [z34] at q0
  obtain ⟨x0, e0, w0⟩ := api_Msg.opened q0
  have q1 : Opens U Try.prog 34 ((l.drop 23).take (Try.prog.cellsOf 34)) := hf _ (List.mem_of_getElem? (i := 1) rfl)
  rw [z34] at q1
  obtain ⟨x1, e1, w1⟩ := api_Msg.opened q1
  have q2 : Opens U Try.prog 3 ((l.drop 46).take (Try.prog.cellsOf 3)) := hf _ (List.mem_of_getElem? (i := 2) rfl)
  rw [z3] at q2
  obtain ⟨x2, e2, w2⟩ := q2.toInt Try.underlying3
  have q3 : Opens U Try.prog 4 ((l.drop 47).take (Try.prog.cellsOf 4)) := hf _ (List.mem_of_getElem? (i := 3) rfl)
  rw [z4] at q3
  obtain ⟨x3, e3⟩ := q3.toBool Try.underlying4
  have w3 := trivial
  have q4 : Opens U Try.prog 4 ((l.drop 48).take (Try.prog.cellsOf 4)) := hf _ (List.mem_of_getElem? (i := 4) rfl)
  rw [z4] at q4
  obtain ⟨x4, e4⟩ := q4.toBool Try.underlying4
  have w4 := trivial
  have hnil : l.drop 49 = [] := List.drop_eq_nil_of_le (by omega)
  refine ⟨⟨x0, x1, x2, x3, x4⟩, ?_, w0, w1, w2, w3, w4⟩
  have e : l.drop 0 = l := rfl
  rw [← e]
  rw [partL l 0 23 23 rfl, e0, partL l 23 23 46 rfl, e1, partL l 46 1 47 rfl, e2, partL l 47 1 48 rfl, e3, partL l 48 1 49 rfl, e4, hnil]
  rfl
theorem z54 : Try.prog.cellsOf 54 = 3 := by kernel_rfl
def seq_sign.Wf (x : seq_sign) : Prop := api_PortID.Wf x.fsource ∧ (Lit.int .i64 x.fseq).wf = true
theorem seq_sign.opened {l : List U.S} (h : Opens U Try.prog 54 l) : ∃ x : seq_sign, l = x.enc ∧ x.Wf := by
  obtain ⟨hl, hf⟩ := h.toStruct Try.underlying54
  rw [z54] at hl
  have q0 : Opens U Try.prog 30 ((l.drop 0).take (Try.prog.cellsOf 30)) := hf _ (List.mem_of_getElem? (i := 0) rfl)
  rw [z30] at q0
  obtain ⟨x0, e0, w0⟩ := api_PortID.opened q0
  have q1 : Opens U Try.prog 3 ((l.drop 2).take (Try.prog.cellsOf 3)) := hf _ (List.mem_of_getElem? (i := 1) rfl)
  rw [z3] at q1
  obtain ⟨x1, e1, w1⟩ := q1.toInt Try.underlying3
  have hnil : l.drop 3 = [] := List.drop_eq_nil_of_le (by omega)
  refine ⟨⟨x0, x1⟩, ?_, w0, w1⟩
  have e : l.drop 0 = l := rfl
  rw [← e]
  rw [partL l 0 2 2 rfl, e0, partL l 2 1 3 rfl, e1, hnil]
  rfl
theorem decs_2 {l : List U.S} (h : Opens U Try.prog 2 l) : ∃ x : D .int, U.dec .int l = some x ∧ Opens U Try.prog 2 (U.enc .int x) := by
  obtain ⟨x, rfl, w⟩ := h.toInt Try.underlying2
  exact ⟨x, by kernel_rfl, h⟩
theorem decs_3 {l : List U.S} (h : Opens U Try.prog 3 l) : ∃ x : D .int, U.dec .int l = some x ∧ Opens U Try.prog 3 (U.enc .int x) := by
  obtain ⟨x, rfl, w⟩ := h.toInt Try.underlying3
  exact ⟨x, by kernel_rfl, h⟩
theorem decs_4 {l : List U.S} (h : Opens U Try.prog 4 l) : ∃ x : D .bool, U.dec .bool l = some x ∧ Opens U Try.prog 4 (U.enc .bool x) := by
  obtain ⟨x, rfl⟩ := h.toBool Try.underlying4
  exact ⟨x, by kernel_rfl, h⟩
theorem decs_5 {l : List U.S} (h : Opens U Try.prog 5 l) : ∃ x : D .u8, U.dec .u8 l = some x ∧ Opens U Try.prog 5 (U.enc .u8 x) := by
  obtain ⟨n, rfl, w⟩ := h.toInt Try.underlying5
  have hb := bounds_u8 w
  refine ⟨UInt8.ofNat n.toNat, ?_, ?_⟩
  · show (if 0 ≤ n ∧ n < 256 then some (UInt8.ofNat n.toNat) else none) = _
    rw [if_pos (by omega)]
  · show Opens U Try.prog 5 [.val (.int .u8 ((UInt8.ofNat n.toNat).toNat : Int))]
    rw [u8_back (by omega)]; exact h
theorem decs_6 {l : List U.S} (h : Opens U Try.prog 6 l) : ∃ x : D .u8, U.dec .u8 l = some x ∧ Opens U Try.prog 6 (U.enc .u8 x) := by
  obtain ⟨n, rfl, w⟩ := h.toInt Try.underlying6
  have hb := bounds_u8 w
  refine ⟨UInt8.ofNat n.toNat, ?_, ?_⟩
  · show (if 0 ≤ n ∧ n < 256 then some (UInt8.ofNat n.toNat) else none) = _
    rw [if_pos (by omega)]
  · show Opens U Try.prog 6 [.val (.int .u8 ((UInt8.ofNat n.toNat).toNat : Int))]
    rw [u8_back (by omega)]; exact h
theorem decs_30 {l : List U.S} (h : Opens U Try.prog 30 l) : ∃ x : D .t_api_PortID, U.dec .t_api_PortID l = some x ∧ Opens U Try.prog 30 (U.enc .t_api_PortID x) := by
  obtain ⟨x, rfl, w⟩ := api_PortID.opened h
  exact ⟨x, api_PortID.dec_enc x, h⟩
theorem decs_32 {l : List U.S} (h : Opens U Try.prog 32 l) : ∃ x : D .t_api_Quality, U.dec .t_api_Quality l = some x ∧ Opens U Try.prog 32 (U.enc .t_api_Quality x) := by
  obtain ⟨x, rfl, w⟩ := api_Quality.opened h
  exact ⟨x, api_Quality.dec_enc x, h⟩
theorem decs_34 {l : List U.S} (h : Opens U Try.prog 34 l) : ∃ x : D .t_api_Msg, U.dec .t_api_Msg l = some x ∧ Opens U Try.prog 34 (U.enc .t_api_Msg x) := by
  obtain ⟨x, rfl, w⟩ := api_Msg.opened h
  exact ⟨x, api_Msg.dec_enc x, h⟩
theorem decs_36 {l : List U.S} (h : Opens U Try.prog 36 l) : ∃ x : D .t_ref16_M, U.dec .t_ref16_M l = some x ∧ Opens U Try.prog 36 (U.enc .t_ref16_M x) := by
  obtain ⟨x, rfl, w⟩ := ref16_M.opened h
  exact ⟨x, ref16_M.dec_enc x, h⟩
theorem decs_38 {l : List U.S} (h : Opens U Try.prog 38 l) : ∃ x : D .t_law16_Op, U.dec .t_law16_Op l = some x ∧ Opens U Try.prog 38 (U.enc .t_law16_Op x) := by
  obtain ⟨x, rfl, w⟩ := law16_Op.opened h
  exact ⟨x, law16_Op.dec_enc x, h⟩
theorem decs_52 {l : List U.S} (h : Opens U Try.prog 52 l) : ∃ x : D .t_seq_Match, U.dec .t_seq_Match l = some x ∧ Opens U Try.prog 52 (U.enc .t_seq_Match x) := by
  obtain ⟨x, rfl, w⟩ := seq_Match.opened h
  exact ⟨x, seq_Match.dec_enc x, h⟩
theorem decs_54 {l : List U.S} (h : Opens U Try.prog 54 l) : ∃ x : D .t_seq_sign, U.dec .t_seq_sign l = some x ∧ Opens U Try.prog 54 (U.enc .t_seq_sign x) := by
  obtain ⟨x, rfl, w⟩ := seq_sign.opened h
  exact ⟨x, seq_sign.dec_enc x, h⟩
theorem decs_67 {l : List U.S} (h : Opens U Try.prog 67 l) : ∃ x : D .u8, U.dec .u8 l = some x ∧ Opens U Try.prog 67 (U.enc .u8 x) := by
  obtain ⟨n, rfl, w⟩ := h.toInt Try.underlying67
  have hb := bounds_u8 w
  refine ⟨UInt8.ofNat n.toNat, ?_, ?_⟩
  · show (if 0 ≤ n ∧ n < 256 then some (UInt8.ofNat n.toNat) else none) = _
    rw [if_pos (by omega)]
  · show Opens U Try.prog 67 [.val (.int .u8 ((UInt8.ofNat n.toNat).toNat : Int))]
    rw [u8_back (by omega)]; exact h
theorem decs_68 {l : List U.S} (h : Opens U Try.prog 68 l) : ∃ x : D .u8, U.dec .u8 l = some x ∧ Opens U Try.prog 68 (U.enc .u8 x) := by
  obtain ⟨n, rfl, w⟩ := h.toInt Try.underlying68
  have hb := bounds_u8 w
  refine ⟨UInt8.ofNat n.toNat, ?_, ?_⟩
  · show (if 0 ≤ n ∧ n < 256 then some (UInt8.ofNat n.toNat) else none) = _
    rw [if_pos (by omega)]
  · show Opens U Try.prog 68 [.val (.int .u8 ((UInt8.ofNat n.toNat).toNat : Int))]
    rw [u8_back (by omega)]; exact h
theorem decs : Decs U Try.prog := by
  intro e u l hu h
  have hu : ofT e = some u := hu
  unfold ofT at hu
  split at hu
  · cases hu; exact decs_2 h
  · cases hu; exact decs_3 h
  · cases hu; exact decs_4 h
  · cases hu; exact decs_5 h
  · cases hu; exact decs_6 h
  · cases hu; exact decs_30 h
  · cases hu; exact decs_32 h
  · cases hu; exact decs_34 h
  · cases hu; exact decs_36 h
  · cases hu; exact decs_38 h
  · cases hu; exact decs_52 h
  · cases hu; exact decs_54 h
  · cases hu; exact decs_67 h
  · cases hu; exact decs_68 h
  · cases hu
theorem mixed : Try.prog.follows .mixedOrders = true := by kernel_rfl
end Go.Proofs.Ytdpabhhojihhgaa
