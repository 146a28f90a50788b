/- Typed forms of the functions that these statements reach, proved equal to what the model runs, and laws over them. -/
import Derived.Test.YtgnabnhggaondaaGreatRfD
import Derived.KernelRfl
import Derived.Test.YtgnabnhggaondaaGreatProg
namespace Go.Proofs.YtgnabnhggaondaaGreat
open Go.Rf
set_option linter.unusedVariables false
set_option linter.unusedSimpArgs false
set_option maxRecDepth 100000
structure api_PortID where
 fClock : Int
 fPort : Int
structure api_Quality where
 fClass : Int
 fAccuracy : Int
 fVariance : Int
structure api_Times where
 fUtc : Int
 fFlags : Int
 fOrigin : Int
structure api_Conf where
 fClock : Int
 fPorts : Int
 fDomain : Int
 fPriority1 : Int
 fPriority2 : Int
 fQuality : api_Quality
 fSlaveOnly : Bool
 fLogAnn : Int
 fLogSync : Int
 fLogDelay : Int
 fTimeout : Int
 fPeer : Bool
 fOneStep : Bool
 fMedian : Int
 fKp : Int
 fKi : Int
 fStep : Int
 fTimes : api_Times
 fTrace : Bool
structure api_Event where
 fKind : Int
 fPort : Int
 fNow : Int
 fType : Int
 fSeq : Int
 fBytes : ByteArray
 fConf : api_Conf
structure api_Out where
 fKind : Int
 fPort : Int
 fN : Int
 fWant : Bool
 fType : Int
 fSeq : Int
 fBytes : ByteArray
structure api_Msg where
 fType : Int
 fDomain : Int
 fFlags : Int
 fCorr : Int
 fSource : api_PortID
 fSeq : Int
 fLog : Int
 fStamp : Int
 fTarget : api_PortID
 fUtc : Int
 fPriority1 : Int
 fQuality : api_Quality
 fPriority2 : Int
 fGrand : Int
 fSteps : Int
 fOrigin : Int
 fStartHops : Int
 fHops : Int
 fAction : Int
structure api_Parent where
 fPort : api_PortID
 fGrand : Int
 fQuality : api_Quality
 fPriority1 : Int
 fPriority2 : Int
 fSteps : Int
 fTimes : api_Times
structure timer_Timer where
 fleft : Int
structure clock_known where
 fv : Int
 fis : Bool
structure clock_side where
 fstate : Int
 ftable : Option Nat
 fpaths : Option Nat
 freceipt : timer_Timer
 fqualify : timer_Timer
 fannounce : timer_Timer
 fsync : timer_Timer
 fask : timer_Timer
 fannounces : Int
 fsyncs : Int
 frequests : Int
 fmatch : Option Nat
 fdelay : Option Nat
 fpeer : Option Nat
 fdiff : clock_known
 fneighbour : clock_known
 fasked : api_Msg
 fanswered : Bool
structure clock_Clock where
 fconf : api_Conf
 fports : Nat → clock_side
 fticks : Int
 fparent : api_Parent
 fservo : Option Nat
 ffilter : Option Nat
 foffset : Int
 fdelay : clock_known
 fdrops : Int
 fouts : List (api_Out)
structure api_Tlv where
 fType : Int
 fData : ByteArray
structure servo_Servo where
 fkp : Int
 fki : Int
 fstep : Int
 fstate : Int
 ffreq : Int
 fdrift : Int
 fnear : Int
structure api_Vector where
 fPriority1 : Int
 fQuality : api_Quality
 fPriority2 : Int
 fGrand : Int
 fSteps : Int
 fSender : api_PortID
 fReceiver : api_PortID
structure foreign_Record where
 fVector : api_Vector
 fTimes : api_Times
 fSeq : Int
 fFirst : Int
 fLast : Int
structure foreign_Table where
 fown : api_PortID
 fwindow : Int
 fl : Nat → foreign_Record
 fn : Int
structure delay_request where
 fseq : Int
 fat : Int
 fout : Bool
 fsent : Bool
structure delay_Exchange where
 fself : api_PortID
 fdomain : Int
 fr : delay_request
structure peer_Exchange where
 fself : api_PortID
 fdomain : Int
 fseq : Int
 fat : Int
 fout : Bool
 fsent : Bool
 fanswered : Bool
 fspoilt : Bool
 fresponse : api_Msg
 fback : Int
structure median_Filter where
 fl : Nat → Int
 fn : Int
 fmost : Int
structure seq_Match where
 fsync : api_Msg
 ffollow : api_Msg
 fat : Int
 fhasSync : Bool
 fhasFollowUp : Bool
structure seq_sign where
 fsource : api_PortID
 fseq : Int
abbrev api_Conf.set_fPorts (x : api_Conf) (v : Int) : api_Conf := { x with fPorts := v }
abbrev api_Conf.set_fLogAnn (x : api_Conf) (v : Int) : api_Conf := { x with fLogAnn := v }
abbrev api_Conf.set_fLogSync (x : api_Conf) (v : Int) : api_Conf := { x with fLogSync := v }
abbrev api_Conf.set_fLogDelay (x : api_Conf) (v : Int) : api_Conf := { x with fLogDelay := v }
abbrev api_Msg.set_fDomain (x : api_Msg) (v : Int) : api_Msg := { x with fDomain := v }
abbrev api_Msg.set_fFlags (x : api_Msg) (v : Int) : api_Msg := { x with fFlags := v }
abbrev api_Msg.set_fStamp (x : api_Msg) (v : Int) : api_Msg := { x with fStamp := v }
abbrev api_Msg.set_fTarget (x : api_Msg) (v : api_PortID) : api_Msg := { x with fTarget := v }
abbrev api_Msg.set_fUtc (x : api_Msg) (v : Int) : api_Msg := { x with fUtc := v }
abbrev api_Msg.set_fPriority1 (x : api_Msg) (v : Int) : api_Msg := { x with fPriority1 := v }
abbrev api_Msg.set_fQuality (x : api_Msg) (v : api_Quality) : api_Msg := { x with fQuality := v }
abbrev api_Msg.set_fPriority2 (x : api_Msg) (v : Int) : api_Msg := { x with fPriority2 := v }
abbrev api_Msg.set_fGrand (x : api_Msg) (v : Int) : api_Msg := { x with fGrand := v }
abbrev api_Msg.set_fSteps (x : api_Msg) (v : Int) : api_Msg := { x with fSteps := v }
abbrev api_Msg.set_fOrigin (x : api_Msg) (v : Int) : api_Msg := { x with fOrigin := v }
abbrev api_Msg.set_fStartHops (x : api_Msg) (v : Int) : api_Msg := { x with fStartHops := v }
abbrev api_Msg.set_fHops (x : api_Msg) (v : Int) : api_Msg := { x with fHops := v }
abbrev api_Msg.set_fAction (x : api_Msg) (v : Int) : api_Msg := { x with fAction := v }
abbrev clock_side.set_fstate (x : clock_side) (v : Int) : clock_side := { x with fstate := v }
abbrev clock_side.set_fpaths (x : clock_side) (v : Option Nat) : clock_side := { x with fpaths := v }
abbrev clock_side.set_freceipt (x : clock_side) (v : timer_Timer) : clock_side := { x with freceipt := v }
abbrev clock_side.set_fqualify (x : clock_side) (v : timer_Timer) : clock_side := { x with fqualify := v }
abbrev clock_side.set_fannounce (x : clock_side) (v : timer_Timer) : clock_side := { x with fannounce := v }
abbrev clock_side.set_fsync (x : clock_side) (v : timer_Timer) : clock_side := { x with fsync := v }
abbrev clock_side.set_fask (x : clock_side) (v : timer_Timer) : clock_side := { x with fask := v }
abbrev clock_side.set_fannounces (x : clock_side) (v : Int) : clock_side := { x with fannounces := v }
abbrev clock_side.set_fsyncs (x : clock_side) (v : Int) : clock_side := { x with fsyncs := v }
abbrev clock_side.set_frequests (x : clock_side) (v : Int) : clock_side := { x with frequests := v }
abbrev clock_side.set_fdiff (x : clock_side) (v : clock_known) : clock_side := { x with fdiff := v }
abbrev clock_Clock.set_fports (x : clock_Clock) (v : Nat → clock_side) : clock_Clock := { x with fports := v }
abbrev clock_Clock.set_fticks (x : clock_Clock) (v : Int) : clock_Clock := { x with fticks := v }
abbrev clock_Clock.set_fparent (x : clock_Clock) (v : api_Parent) : clock_Clock := { x with fparent := v }
abbrev clock_Clock.set_foffset (x : clock_Clock) (v : Int) : clock_Clock := { x with foffset := v }
abbrev clock_Clock.set_fdelay (x : clock_Clock) (v : clock_known) : clock_Clock := { x with fdelay := v }
abbrev clock_Clock.set_fdrops (x : clock_Clock) (v : Int) : clock_Clock := { x with fdrops := v }
abbrev clock_Clock.set_fouts (x : clock_Clock) (v : List (api_Out)) : clock_Clock := { x with fouts := v }
abbrev servo_Servo.set_fstate (x : servo_Servo) (v : Int) : servo_Servo := { x with fstate := v }
abbrev servo_Servo.set_ffreq (x : servo_Servo) (v : Int) : servo_Servo := { x with ffreq := v }
abbrev servo_Servo.set_fdrift (x : servo_Servo) (v : Int) : servo_Servo := { x with fdrift := v }
abbrev servo_Servo.set_fnear (x : servo_Servo) (v : Int) : servo_Servo := { x with fnear := v }
abbrev foreign_Record.set_fFirst (x : foreign_Record) (v : Int) : foreign_Record := { x with fFirst := v }
abbrev foreign_Table.set_fl (x : foreign_Table) (v : Nat → foreign_Record) : foreign_Table := { x with fl := v }
abbrev foreign_Table.set_fn (x : foreign_Table) (v : Int) : foreign_Table := { x with fn := v }
abbrev delay_request.set_fat (x : delay_request) (v : Int) : delay_request := { x with fat := v }
abbrev delay_request.set_fsent (x : delay_request) (v : Bool) : delay_request := { x with fsent := v }
abbrev delay_Exchange.set_fr (x : delay_Exchange) (v : delay_request) : delay_Exchange := { x with fr := v }
abbrev peer_Exchange.set_fseq (x : peer_Exchange) (v : Int) : peer_Exchange := { x with fseq := v }
abbrev peer_Exchange.set_fat (x : peer_Exchange) (v : Int) : peer_Exchange := { x with fat := v }
abbrev peer_Exchange.set_fout (x : peer_Exchange) (v : Bool) : peer_Exchange := { x with fout := v }
abbrev peer_Exchange.set_fsent (x : peer_Exchange) (v : Bool) : peer_Exchange := { x with fsent := v }
abbrev median_Filter.set_fn (x : median_Filter) (v : Int) : median_Filter := { x with fn := v }
abbrev seq_Match.set_ffollow (x : seq_Match) (v : api_Msg) : seq_Match := { x with ffollow := v }
abbrev seq_Match.set_fhasFollowUp (x : seq_Match) (v : Bool) : seq_Match := { x with fhasFollowUp := v }
def api_PortID.zero : api_PortID := ⟨0, 0⟩
def api_Quality.zero : api_Quality := ⟨0, 0, 0⟩
def api_Times.zero : api_Times := ⟨0, 0, 0⟩
def api_Conf.zero : api_Conf := ⟨0, 0, 0, 0, 0, api_Quality.zero, false, 0, 0, 0, 0, false, false, 0, 0, 0, 0, api_Times.zero, false⟩
def api_Event.zero : api_Event := ⟨0, 0, 0, 0, 0, ByteArray.empty, api_Conf.zero⟩
def api_Out.zero : api_Out := ⟨0, 0, 0, false, 0, 0, ByteArray.empty⟩
def api_Msg.zero : api_Msg := ⟨0, 0, 0, 0, api_PortID.zero, 0, 0, 0, api_PortID.zero, 0, 0, api_Quality.zero, 0, 0, 0, 0, 0, 0, 0⟩
def api_Parent.zero : api_Parent := ⟨api_PortID.zero, 0, api_Quality.zero, 0, 0, 0, api_Times.zero⟩
def timer_Timer.zero : timer_Timer := ⟨0⟩
def clock_known.zero : clock_known := ⟨0, false⟩
def clock_side.zero : clock_side := ⟨0, none, none, timer_Timer.zero, timer_Timer.zero, timer_Timer.zero, timer_Timer.zero, timer_Timer.zero, 0, 0, 0, none, none, none, clock_known.zero, clock_known.zero, api_Msg.zero, false⟩
def clock_Clock.zero : clock_Clock := ⟨api_Conf.zero, (fun _ => clock_side.zero), 0, api_Parent.zero, none, none, 0, clock_known.zero, 0, []⟩
def api_Tlv.zero : api_Tlv := ⟨0, ByteArray.empty⟩
def servo_Servo.zero : servo_Servo := ⟨0, 0, 0, 0, 0, 0, 0⟩
def api_Vector.zero : api_Vector := ⟨0, api_Quality.zero, 0, 0, 0, api_PortID.zero, api_PortID.zero⟩
def foreign_Record.zero : foreign_Record := ⟨api_Vector.zero, api_Times.zero, 0, 0, 0⟩
def foreign_Table.zero : foreign_Table := ⟨api_PortID.zero, 0, (fun _ => foreign_Record.zero), 0⟩
def delay_request.zero : delay_request := ⟨0, 0, false, false⟩
def delay_Exchange.zero : delay_Exchange := ⟨api_PortID.zero, 0, delay_request.zero⟩
def peer_Exchange.zero : peer_Exchange := ⟨api_PortID.zero, 0, 0, 0, false, false, false, false, api_Msg.zero, 0⟩
def median_Filter.zero : median_Filter := ⟨(fun _ => 0), 0, 0⟩
def seq_Match.zero : seq_Match := ⟨api_Msg.zero, api_Msg.zero, 0, false, false⟩
def seq_sign.zero : seq_sign := ⟨api_PortID.zero, 0⟩
inductive UC where
 | u8 | t_api_Out | t_api_Tlv | int | t_api_Event | t_api_Conf | t_api_Quality | t_api_Times | t_foreign_Record | t_api_Vector | t_api_PortID | t_clock_side | t_timer_Timer | t_clock_known | t_api_Msg | u64 | bool | p_t_api_Vector | p_t_clock_Clock | t_api_Parent | t_clock_Clock | t_servo_Servo | t_foreign_Table | t_delay_request | t_delay_Exchange | t_peer_Exchange | t_median_Filter | t_seq_Match | t_seq_sign | l_u64
 deriving DecidableEq
abbrev D : UC → Type
 | .u8 => UInt8
 | .t_api_Out => api_Out
 | .t_api_Tlv => api_Tlv
 | .int => Int
 | .t_api_Event => api_Event
 | .t_api_Conf => api_Conf
 | .t_api_Quality => api_Quality
 | .t_api_Times => api_Times
 | .t_foreign_Record => foreign_Record
 | .t_api_Vector => api_Vector
 | .t_api_PortID => api_PortID
 | .t_clock_side => clock_side
 | .t_timer_Timer => timer_Timer
 | .t_clock_known => clock_known
 | .t_api_Msg => api_Msg
 | .u64 => Int
 | .bool => Bool
 | .p_t_api_Vector => Option (api_Vector)
 | .p_t_clock_Clock => Option Nat
 | .t_api_Parent => api_Parent
 | .t_clock_Clock => clock_Clock
 | .t_servo_Servo => servo_Servo
 | .t_foreign_Table => foreign_Table
 | .t_delay_request => delay_request
 | .t_delay_Exchange => delay_Exchange
 | .t_peer_Exchange => peer_Exchange
 | .t_median_Filter => median_Filter
 | .t_seq_Match => seq_Match
 | .t_seq_sign => seq_sign
 | .l_u64 => List (Int)
abbrev Cel := S UC D
def api_PortID.enc (x : api_PortID) : List (Cel) := [.val (.int .u64 x.fClock), .val (.int .i64 x.fPort)]
def api_PortID.ls : List (Lf UC) := [.int .u64, .int .i64]
def api_PortID.toS (t : HL D api_PortID.ls) : api_PortID := ⟨t.1, t.2.1⟩
def api_PortID.dec (l : List Cel) : Option api_PortID := match decL api_PortID.ls l with
 | some t => some (api_PortID.toS t)
 | none => none
def api_Quality.enc (x : api_Quality) : List (Cel) := [.val (.int .i64 x.fClass), .val (.int .i64 x.fAccuracy), .val (.int .i64 x.fVariance)]
def api_Quality.ls : List (Lf UC) := [.int .i64, .int .i64, .int .i64]
def api_Quality.toS (t : HL D api_Quality.ls) : api_Quality := ⟨t.1, t.2.1, t.2.2.1⟩
def api_Quality.dec (l : List Cel) : Option api_Quality := match decL api_Quality.ls l with
 | some t => some (api_Quality.toS t)
 | none => none
def api_Times.enc (x : api_Times) : List (Cel) := [.val (.int .i64 x.fUtc), .val (.int .i64 x.fFlags), .val (.int .i64 x.fOrigin)]
def api_Times.ls : List (Lf UC) := [.int .i64, .int .i64, .int .i64]
def api_Times.toS (t : HL D api_Times.ls) : api_Times := ⟨t.1, t.2.1, t.2.2.1⟩
def api_Times.dec (l : List Cel) : Option api_Times := match decL api_Times.ls l with
 | some t => some (api_Times.toS t)
 | none => none
def api_Conf.enc (x : api_Conf) : List (Cel) := [.val (.int .u64 x.fClock), .val (.int .i64 x.fPorts), .val (.int .i64 x.fDomain), .val (.int .i64 x.fPriority1), .val (.int .i64 x.fPriority2), .val (.int .i64 x.fQuality.fClass), .val (.int .i64 x.fQuality.fAccuracy), .val (.int .i64 x.fQuality.fVariance), .val (.bool x.fSlaveOnly), .val (.int .i64 x.fLogAnn), .val (.int .i64 x.fLogSync), .val (.int .i64 x.fLogDelay), .val (.int .i64 x.fTimeout), .val (.bool x.fPeer), .val (.bool x.fOneStep), .val (.int .i64 x.fMedian), .val (.int .i64 x.fKp), .val (.int .i64 x.fKi), .val (.int .i64 x.fStep), .val (.int .i64 x.fTimes.fUtc), .val (.int .i64 x.fTimes.fFlags), .val (.int .i64 x.fTimes.fOrigin), .val (.bool x.fTrace)]
def api_Conf.ls : List (Lf UC) := [.int .u64, .int .i64, .int .i64, .int .i64, .int .i64, .int .i64, .int .i64, .int .i64, .bool, .int .i64, .int .i64, .int .i64, .int .i64, .bool, .bool, .int .i64, .int .i64, .int .i64, .int .i64, .int .i64, .int .i64, .int .i64, .bool]
def api_Conf.toS (t : HL D api_Conf.ls) : api_Conf := let t6 := t.2.2.2.2.2.2; let t12 := t6.2.2.2.2.2.2; let t18 := t12.2.2.2.2.2.2; ⟨t.1, t.2.1, t.2.2.1, t.2.2.2.1, t.2.2.2.2.1, ⟨t.2.2.2.2.2.1, t6.1, t6.2.1⟩, t6.2.2.1, t6.2.2.2.1, t6.2.2.2.2.1, t6.2.2.2.2.2.1, t12.1, t12.2.1, t12.2.2.1, t12.2.2.2.1, t12.2.2.2.2.1, t12.2.2.2.2.2.1, t18.1, ⟨t18.2.1, t18.2.2.1, t18.2.2.2.1⟩, t18.2.2.2.2.1⟩
def api_Conf.dec (l : List Cel) : Option api_Conf := match decL api_Conf.ls l with
 | some t => some (api_Conf.toS t)
 | none => none
def api_Event.enc (x : api_Event) : List (Cel) := [.val (.int .i64 x.fKind), .val (.int .i64 x.fPort), .val (.int .i64 x.fNow), .val (.int .i64 x.fType), .val (.int .i64 x.fSeq), .val (.string x.fBytes), .val (.int .u64 x.fConf.fClock), .val (.int .i64 x.fConf.fPorts), .val (.int .i64 x.fConf.fDomain), .val (.int .i64 x.fConf.fPriority1), .val (.int .i64 x.fConf.fPriority2), .val (.int .i64 x.fConf.fQuality.fClass), .val (.int .i64 x.fConf.fQuality.fAccuracy), .val (.int .i64 x.fConf.fQuality.fVariance), .val (.bool x.fConf.fSlaveOnly), .val (.int .i64 x.fConf.fLogAnn), .val (.int .i64 x.fConf.fLogSync), .val (.int .i64 x.fConf.fLogDelay), .val (.int .i64 x.fConf.fTimeout), .val (.bool x.fConf.fPeer), .val (.bool x.fConf.fOneStep), .val (.int .i64 x.fConf.fMedian), .val (.int .i64 x.fConf.fKp), .val (.int .i64 x.fConf.fKi), .val (.int .i64 x.fConf.fStep), .val (.int .i64 x.fConf.fTimes.fUtc), .val (.int .i64 x.fConf.fTimes.fFlags), .val (.int .i64 x.fConf.fTimes.fOrigin), .val (.bool x.fConf.fTrace)]
def api_Event.ls : List (Lf UC) := [.int .i64, .int .i64, .int .i64, .int .i64, .int .i64, .str, .int .u64, .int .i64, .int .i64, .int .i64, .int .i64, .int .i64, .int .i64, .int .i64, .bool, .int .i64, .int .i64, .int .i64, .int .i64, .bool, .bool, .int .i64, .int .i64, .int .i64, .int .i64, .int .i64, .int .i64, .int .i64, .bool]
def api_Event.toS (t : HL D api_Event.ls) : api_Event := let t6 := t.2.2.2.2.2.2; let t12 := t6.2.2.2.2.2.2; let t18 := t12.2.2.2.2.2.2; let t24 := t18.2.2.2.2.2.2; ⟨t.1, t.2.1, t.2.2.1, t.2.2.2.1, t.2.2.2.2.1, t.2.2.2.2.2.1, ⟨t6.1, t6.2.1, t6.2.2.1, t6.2.2.2.1, t6.2.2.2.2.1, ⟨t6.2.2.2.2.2.1, t12.1, t12.2.1⟩, t12.2.2.1, t12.2.2.2.1, t12.2.2.2.2.1, t12.2.2.2.2.2.1, t18.1, t18.2.1, t18.2.2.1, t18.2.2.2.1, t18.2.2.2.2.1, t18.2.2.2.2.2.1, t24.1, ⟨t24.2.1, t24.2.2.1, t24.2.2.2.1⟩, t24.2.2.2.2.1⟩⟩
def api_Event.dec (l : List Cel) : Option api_Event := match decL api_Event.ls l with
 | some t => some (api_Event.toS t)
 | none => none
def api_Out.enc (x : api_Out) : List (Cel) := [.val (.int .i64 x.fKind), .val (.int .i64 x.fPort), .val (.int .i64 x.fN), .val (.bool x.fWant), .val (.int .i64 x.fType), .val (.int .i64 x.fSeq), .val (.string x.fBytes)]
def api_Out.ls : List (Lf UC) := [.int .i64, .int .i64, .int .i64, .bool, .int .i64, .int .i64, .str]
def api_Out.toS (t : HL D api_Out.ls) : api_Out := ⟨t.1, t.2.1, t.2.2.1, t.2.2.2.1, t.2.2.2.2.1, t.2.2.2.2.2.1, t.2.2.2.2.2.2.1⟩
def api_Out.dec (l : List Cel) : Option api_Out := match decL api_Out.ls l with
 | some t => some (api_Out.toS t)
 | none => none
def api_Msg.enc (x : api_Msg) : List (Cel) := [.val (.int .i64 x.fType), .val (.int .i64 x.fDomain), .val (.int .i64 x.fFlags), .val (.int .i64 x.fCorr), .val (.int .u64 x.fSource.fClock), .val (.int .i64 x.fSource.fPort), .val (.int .i64 x.fSeq), .val (.int .i64 x.fLog), .val (.int .i64 x.fStamp), .val (.int .u64 x.fTarget.fClock), .val (.int .i64 x.fTarget.fPort), .val (.int .i64 x.fUtc), .val (.int .i64 x.fPriority1), .val (.int .i64 x.fQuality.fClass), .val (.int .i64 x.fQuality.fAccuracy), .val (.int .i64 x.fQuality.fVariance), .val (.int .i64 x.fPriority2), .val (.int .u64 x.fGrand), .val (.int .i64 x.fSteps), .val (.int .i64 x.fOrigin), .val (.int .i64 x.fStartHops), .val (.int .i64 x.fHops), .val (.int .i64 x.fAction)]
def api_Msg.ls : List (Lf UC) := [.int .i64, .int .i64, .int .i64, .int .i64, .int .u64, .int .i64, .int .i64, .int .i64, .int .i64, .int .u64, .int .i64, .int .i64, .int .i64, .int .i64, .int .i64, .int .i64, .int .i64, .int .u64, .int .i64, .int .i64, .int .i64, .int .i64, .int .i64]
def api_Msg.toS (t : HL D api_Msg.ls) : api_Msg := let t6 := t.2.2.2.2.2.2; let t12 := t6.2.2.2.2.2.2; let t18 := t12.2.2.2.2.2.2; ⟨t.1, t.2.1, t.2.2.1, t.2.2.2.1, ⟨t.2.2.2.2.1, t.2.2.2.2.2.1⟩, t6.1, t6.2.1, t6.2.2.1, ⟨t6.2.2.2.1, t6.2.2.2.2.1⟩, t6.2.2.2.2.2.1, t12.1, ⟨t12.2.1, t12.2.2.1, t12.2.2.2.1⟩, t12.2.2.2.2.1, t12.2.2.2.2.2.1, t18.1, t18.2.1, t18.2.2.1, t18.2.2.2.1, t18.2.2.2.2.1⟩
def api_Msg.dec (l : List Cel) : Option api_Msg := match decL api_Msg.ls l with
 | some t => some (api_Msg.toS t)
 | none => none
def api_Parent.enc (x : api_Parent) : List (Cel) := [.val (.int .u64 x.fPort.fClock), .val (.int .i64 x.fPort.fPort), .val (.int .u64 x.fGrand), .val (.int .i64 x.fQuality.fClass), .val (.int .i64 x.fQuality.fAccuracy), .val (.int .i64 x.fQuality.fVariance), .val (.int .i64 x.fPriority1), .val (.int .i64 x.fPriority2), .val (.int .i64 x.fSteps), .val (.int .i64 x.fTimes.fUtc), .val (.int .i64 x.fTimes.fFlags), .val (.int .i64 x.fTimes.fOrigin)]
def api_Parent.ls : List (Lf UC) := [.int .u64, .int .i64, .int .u64, .int .i64, .int .i64, .int .i64, .int .i64, .int .i64, .int .i64, .int .i64, .int .i64, .int .i64]
def api_Parent.toS (t : HL D api_Parent.ls) : api_Parent := let t6 := t.2.2.2.2.2.2; ⟨⟨t.1, t.2.1⟩, t.2.2.1, ⟨t.2.2.2.1, t.2.2.2.2.1, t.2.2.2.2.2.1⟩, t6.1, t6.2.1, t6.2.2.1, ⟨t6.2.2.2.1, t6.2.2.2.2.1, t6.2.2.2.2.2.1⟩⟩
def api_Parent.dec (l : List Cel) : Option api_Parent := match decL api_Parent.ls l with
 | some t => some (api_Parent.toS t)
 | none => none
def timer_Timer.enc (x : timer_Timer) : List (Cel) := [.val (.int .i64 x.fleft)]
def timer_Timer.ls : List (Lf UC) := [.int .i64]
def timer_Timer.toS (t : HL D timer_Timer.ls) : timer_Timer := ⟨t.1⟩
def timer_Timer.dec (l : List Cel) : Option timer_Timer := match decL timer_Timer.ls l with
 | some t => some (timer_Timer.toS t)
 | none => none
def clock_known.enc (x : clock_known) : List (Cel) := [.val (.int .i64 x.fv), .val (.bool x.fis)]
def clock_known.ls : List (Lf UC) := [.int .i64, .bool]
def clock_known.toS (t : HL D clock_known.ls) : clock_known := ⟨t.1, t.2.1⟩
def clock_known.dec (l : List Cel) : Option clock_known := match decL clock_known.ls l with
 | some t => some (clock_known.toS t)
 | none => none
def clock_side.enc (x : clock_side) : List (Cel) := [.val (.int .i64 x.fstate), .ref 6 x.ftable, .mref 12 x.fpaths, .val (.int .i64 x.freceipt.fleft), .val (.int .i64 x.fqualify.fleft), .val (.int .i64 x.fannounce.fleft), .val (.int .i64 x.fsync.fleft), .val (.int .i64 x.fask.fleft), .val (.int .i64 x.fannounces), .val (.int .i64 x.fsyncs), .val (.int .i64 x.frequests), .ref 10 x.fmatch, .ref 7 x.fdelay, .ref 8 x.fpeer, .val (.int .i64 x.fdiff.fv), .val (.bool x.fdiff.fis), .val (.int .i64 x.fneighbour.fv), .val (.bool x.fneighbour.fis), .val (.int .i64 x.fasked.fType), .val (.int .i64 x.fasked.fDomain), .val (.int .i64 x.fasked.fFlags), .val (.int .i64 x.fasked.fCorr), .val (.int .u64 x.fasked.fSource.fClock), .val (.int .i64 x.fasked.fSource.fPort), .val (.int .i64 x.fasked.fSeq), .val (.int .i64 x.fasked.fLog), .val (.int .i64 x.fasked.fStamp), .val (.int .u64 x.fasked.fTarget.fClock), .val (.int .i64 x.fasked.fTarget.fPort), .val (.int .i64 x.fasked.fUtc), .val (.int .i64 x.fasked.fPriority1), .val (.int .i64 x.fasked.fQuality.fClass), .val (.int .i64 x.fasked.fQuality.fAccuracy), .val (.int .i64 x.fasked.fQuality.fVariance), .val (.int .i64 x.fasked.fPriority2), .val (.int .u64 x.fasked.fGrand), .val (.int .i64 x.fasked.fSteps), .val (.int .i64 x.fasked.fOrigin), .val (.int .i64 x.fasked.fStartHops), .val (.int .i64 x.fasked.fHops), .val (.int .i64 x.fasked.fAction), .val (.bool x.fanswered)]
def clock_side.ls : List (Lf UC) := [.int .i64, .ref 6 13, .mref 12, .int .i64, .int .i64, .int .i64, .int .i64, .int .i64, .int .i64, .int .i64, .int .i64, .ref 10 13, .ref 7 13, .ref 8 13, .int .i64, .bool, .int .i64, .bool, .int .i64, .int .i64, .int .i64, .int .i64, .int .u64, .int .i64, .int .i64, .int .i64, .int .i64, .int .u64, .int .i64, .int .i64, .int .i64, .int .i64, .int .i64, .int .i64, .int .i64, .int .u64, .int .i64, .int .i64, .int .i64, .int .i64, .int .i64, .bool]
def clock_side.toS (t : HL D clock_side.ls) : clock_side := let t6 := t.2.2.2.2.2.2; let t12 := t6.2.2.2.2.2.2; let t18 := t12.2.2.2.2.2.2; let t24 := t18.2.2.2.2.2.2; let t30 := t24.2.2.2.2.2.2; let t36 := t30.2.2.2.2.2.2; ⟨t.1, t.2.1, t.2.2.1, ⟨t.2.2.2.1⟩, ⟨t.2.2.2.2.1⟩, ⟨t.2.2.2.2.2.1⟩, ⟨t6.1⟩, ⟨t6.2.1⟩, t6.2.2.1, t6.2.2.2.1, t6.2.2.2.2.1, t6.2.2.2.2.2.1, t12.1, t12.2.1, ⟨t12.2.2.1, t12.2.2.2.1⟩, ⟨t12.2.2.2.2.1, t12.2.2.2.2.2.1⟩, ⟨t18.1, t18.2.1, t18.2.2.1, t18.2.2.2.1, ⟨t18.2.2.2.2.1, t18.2.2.2.2.2.1⟩, t24.1, t24.2.1, t24.2.2.1, ⟨t24.2.2.2.1, t24.2.2.2.2.1⟩, t24.2.2.2.2.2.1, t30.1, ⟨t30.2.1, t30.2.2.1, t30.2.2.2.1⟩, t30.2.2.2.2.1, t30.2.2.2.2.2.1, t36.1, t36.2.1, t36.2.2.1, t36.2.2.2.1, t36.2.2.2.2.1⟩, t36.2.2.2.2.2.1⟩
def clock_side.dec (l : List Cel) : Option clock_side := match decL clock_side.ls l with
 | some t => some (clock_side.toS t)
 | none => none
def clock_Clock.enc (x : clock_Clock) : List (Cel) := [.val (.int .u64 x.fconf.fClock), .val (.int .i64 x.fconf.fPorts), .val (.int .i64 x.fconf.fDomain), .val (.int .i64 x.fconf.fPriority1), .val (.int .i64 x.fconf.fPriority2), .val (.int .i64 x.fconf.fQuality.fClass), .val (.int .i64 x.fconf.fQuality.fAccuracy), .val (.int .i64 x.fconf.fQuality.fVariance), .val (.bool x.fconf.fSlaveOnly), .val (.int .i64 x.fconf.fLogAnn), .val (.int .i64 x.fconf.fLogSync), .val (.int .i64 x.fconf.fLogDelay), .val (.int .i64 x.fconf.fTimeout), .val (.bool x.fconf.fPeer), .val (.bool x.fconf.fOneStep), .val (.int .i64 x.fconf.fMedian), .val (.int .i64 x.fconf.fKp), .val (.int .i64 x.fconf.fKi), .val (.int .i64 x.fconf.fStep), .val (.int .i64 x.fconf.fTimes.fUtc), .val (.int .i64 x.fconf.fTimes.fFlags), .val (.int .i64 x.fconf.fTimes.fOrigin), .val (.bool x.fconf.fTrace), .aarr .t_clock_side 8 x.fports, .hole, .hole, .hole, .hole, .hole, .hole, .hole, .hole, .hole, .hole, .hole, .hole, .hole, .hole, .hole, .hole, .hole, .hole, .hole, .hole, .hole, .hole, .hole, .hole, .hole, .hole, .hole, .hole, .hole, .hole, .hole, .hole, .hole, .hole, .hole, .hole, .hole, .hole, .hole, .hole, .hole, .hole, .hole, .hole, .hole, .hole, .hole, .hole, .hole, .hole, .hole, .hole, .hole, .hole, .hole, .hole, .hole, .hole, .hole, .hole, .hole, .hole, .hole, .hole, .hole, .hole, .hole, .hole, .hole, .hole, .hole, .hole, .hole, .hole, .hole, .hole, .hole, .hole, .hole, .hole, .hole, .hole, .hole, .hole, .hole, .hole, .hole, .hole, .hole, .hole, .hole, .hole, .hole, .hole, .hole, .hole, .hole, .hole, .hole, .hole, .hole, .hole, .hole, .hole, .hole, .hole, .hole, .hole, .hole, .hole, .hole, .hole, .hole, .hole, .hole, .hole, .hole, .hole, .hole, .hole, .hole, .hole, .hole, .hole, .hole, .hole, .hole, .hole, .hole, .hole, .hole, .hole, .hole, .hole, .hole, .hole, .hole, .hole, .hole, .hole, .hole, .hole, .hole, .hole, .hole, .hole, .hole, .hole, .hole, .hole, .hole, .hole, .hole, .hole, .hole, .hole, .hole, .hole, .hole, .hole, .hole, .hole, .hole, .hole, .hole, .hole, .hole, .hole, .hole, .hole, .hole, .hole, .hole, .hole, .hole, .hole, .hole, .hole, .hole, .hole, .hole, .hole, .hole, .hole, .hole, .hole, .hole, .hole, .hole, .hole, .hole, .hole, .hole, .hole, .hole, .hole, .hole, .hole, .hole, .hole, .hole, .hole, .hole, .hole, .hole, .hole, .hole, .hole, .hole, .hole, .hole, .hole, .hole, .hole, .hole, .hole, .hole, .hole, .hole, .hole, .hole, .hole, .hole, .hole, .hole, .hole, .hole, .hole, .hole, .hole, .hole, .hole, .hole, .hole, .hole, .hole, .hole, .hole, .hole, .hole, .hole, .hole, .hole, .hole, .hole, .hole, .hole, .hole, .hole, .hole, .hole, .hole, .hole, .hole, .hole, .hole, .hole, .hole, .hole, .hole, .hole, .hole, .hole, .hole, .hole, .hole, .hole, .hole, .hole, .hole, .hole, .hole, .hole, .hole, .hole, .hole, .hole, .hole, .hole, .hole, .hole, .hole, .hole, .hole, .hole, .hole, .hole, .hole, .hole, .hole, .hole, .hole, .hole, .hole, .hole, .hole, .hole, .hole, .hole, .hole, .hole, .hole, .hole, .hole, .hole, .hole, .hole, .hole, .hole, .hole, .hole, .hole, .hole, .hole, .hole, .hole, .hole, .hole, .hole, .hole, .hole, .hole, .hole, .hole, .hole, .hole, .hole, .hole, .hole, .hole, .hole, .hole, .hole, .hole, .hole, .val (.int .i64 x.fticks), .val (.int .u64 x.fparent.fPort.fClock), .val (.int .i64 x.fparent.fPort.fPort), .val (.int .u64 x.fparent.fGrand), .val (.int .i64 x.fparent.fQuality.fClass), .val (.int .i64 x.fparent.fQuality.fAccuracy), .val (.int .i64 x.fparent.fQuality.fVariance), .val (.int .i64 x.fparent.fPriority1), .val (.int .i64 x.fparent.fPriority2), .val (.int .i64 x.fparent.fSteps), .val (.int .i64 x.fparent.fTimes.fUtc), .val (.int .i64 x.fparent.fTimes.fFlags), .val (.int .i64 x.fparent.fTimes.fOrigin), .ref 5 x.fservo, .ref 9 x.ffilter, .val (.int .i64 x.foffset), .val (.int .i64 x.fdelay.fv), .val (.bool x.fdelay.fis), .val (.int .i64 x.fdrops), .olist .t_api_Out x.fouts]
def clock_Clock.ls : List (Lf UC) := [.int .u64, .int .i64, .int .i64, .int .i64, .int .i64, .int .i64, .int .i64, .int .i64, .bool, .int .i64, .int .i64, .int .i64, .int .i64, .bool, .bool, .int .i64, .int .i64, .int .i64, .int .i64, .int .i64, .int .i64, .int .i64, .bool, .aarr .t_clock_side 8, .hole, .hole, .hole, .hole, .hole, .hole, .hole, .hole, .hole, .hole, .hole, .hole, .hole, .hole, .hole, .hole, .hole, .hole, .hole, .hole, .hole, .hole, .hole, .hole, .hole, .hole, .hole, .hole, .hole, .hole, .hole, .hole, .hole, .hole, .hole, .hole, .hole, .hole, .hole, .hole, .hole, .hole, .hole, .hole, .hole, .hole, .hole, .hole, .hole, .hole, .hole, .hole, .hole, .hole, .hole, .hole, .hole, .hole, .hole, .hole, .hole, .hole, .hole, .hole, .hole, .hole, .hole, .hole, .hole, .hole, .hole, .hole, .hole, .hole, .hole, .hole, .hole, .hole, .hole, .hole, .hole, .hole, .hole, .hole, .hole, .hole, .hole, .hole, .hole, .hole, .hole, .hole, .hole, .hole, .hole, .hole, .hole, .hole, .hole, .hole, .hole, .hole, .hole, .hole, .hole, .hole, .hole, .hole, .hole, .hole, .hole, .hole, .hole, .hole, .hole, .hole, .hole, .hole, .hole, .hole, .hole, .hole, .hole, .hole, .hole, .hole, .hole, .hole, .hole, .hole, .hole, .hole, .hole, .hole, .hole, .hole, .hole, .hole, .hole, .hole, .hole, .hole, .hole, .hole, .hole, .hole, .hole, .hole, .hole, .hole, .hole, .hole, .hole, .hole, .hole, .hole, .hole, .hole, .hole, .hole, .hole, .hole, .hole, .hole, .hole, .hole, .hole, .hole, .hole, .hole, .hole, .hole, .hole, .hole, .hole, .hole, .hole, .hole, .hole, .hole, .hole, .hole, .hole, .hole, .hole, .hole, .hole, .hole, .hole, .hole, .hole, .hole, .hole, .hole, .hole, .hole, .hole, .hole, .hole, .hole, .hole, .hole, .hole, .hole, .hole, .hole, .hole, .hole, .hole, .hole, .hole, .hole, .hole, .hole, .hole, .hole, .hole, .hole, .hole, .hole, .hole, .hole, .hole, .hole, .hole, .hole, .hole, .hole, .hole, .hole, .hole, .hole, .hole, .hole, .hole, .hole, .hole, .hole, .hole, .hole, .hole, .hole, .hole, .hole, .hole, .hole, .hole, .hole, .hole, .hole, .hole, .hole, .hole, .hole, .hole, .hole, .hole, .hole, .hole, .hole, .hole, .hole, .hole, .hole, .hole, .hole, .hole, .hole, .hole, .hole, .hole, .hole, .hole, .hole, .hole, .hole, .hole, .hole, .hole, .hole, .hole, .hole, .hole, .hole, .hole, .hole, .hole, .hole, .hole, .hole, .hole, .hole, .hole, .hole, .hole, .hole, .hole, .hole, .hole, .hole, .hole, .hole, .hole, .hole, .hole, .hole, .hole, .hole, .hole, .hole, .hole, .hole, .hole, .hole, .hole, .hole, .hole, .hole, .hole, .hole, .hole, .hole, .hole, .hole, .hole, .hole, .hole, .hole, .hole, .hole, .hole, .hole, .hole, .hole, .hole, .int .i64, .int .u64, .int .i64, .int .u64, .int .i64, .int .i64, .int .i64, .int .i64, .int .i64, .int .i64, .int .i64, .int .i64, .int .i64, .ref 5 13, .ref 9 13, .int .i64, .int .i64, .bool, .int .i64, .olist .t_api_Out]
def clock_Clock.toS (t : HL D clock_Clock.ls) : clock_Clock := let t6 := t.2.2.2.2.2.2; let t12 := t6.2.2.2.2.2.2; let t18 := t12.2.2.2.2.2.2; let t24 := t18.2.2.2.2.2.2; let t30 := t24.2.2.2.2.2.2; let t36 := t30.2.2.2.2.2.2; let t42 := t36.2.2.2.2.2.2; let t48 := t42.2.2.2.2.2.2; let t54 := t48.2.2.2.2.2.2; let t60 := t54.2.2.2.2.2.2; let t66 := t60.2.2.2.2.2.2; let t72 := t66.2.2.2.2.2.2; let t78 := t72.2.2.2.2.2.2; let t84 := t78.2.2.2.2.2.2; let t90 := t84.2.2.2.2.2.2; let t96 := t90.2.2.2.2.2.2; let t102 := t96.2.2.2.2.2.2; let t108 := t102.2.2.2.2.2.2; let t114 := t108.2.2.2.2.2.2; let t120 := t114.2.2.2.2.2.2; let t126 := t120.2.2.2.2.2.2; let t132 := t126.2.2.2.2.2.2; let t138 := t132.2.2.2.2.2.2; let t144 := t138.2.2.2.2.2.2; let t150 := t144.2.2.2.2.2.2; let t156 := t150.2.2.2.2.2.2; let t162 := t156.2.2.2.2.2.2; let t168 := t162.2.2.2.2.2.2; let t174 := t168.2.2.2.2.2.2; let t180 := t174.2.2.2.2.2.2; let t186 := t180.2.2.2.2.2.2; let t192 := t186.2.2.2.2.2.2; let t198 := t192.2.2.2.2.2.2; let t204 := t198.2.2.2.2.2.2; let t210 := t204.2.2.2.2.2.2; let t216 := t210.2.2.2.2.2.2; let t222 := t216.2.2.2.2.2.2; let t228 := t222.2.2.2.2.2.2; let t234 := t228.2.2.2.2.2.2; let t240 := t234.2.2.2.2.2.2; let t246 := t240.2.2.2.2.2.2; let t252 := t246.2.2.2.2.2.2; let t258 := t252.2.2.2.2.2.2; let t264 := t258.2.2.2.2.2.2; let t270 := t264.2.2.2.2.2.2; let t276 := t270.2.2.2.2.2.2; let t282 := t276.2.2.2.2.2.2; let t288 := t282.2.2.2.2.2.2; let t294 := t288.2.2.2.2.2.2; let t300 := t294.2.2.2.2.2.2; let t306 := t300.2.2.2.2.2.2; let t312 := t306.2.2.2.2.2.2; let t318 := t312.2.2.2.2.2.2; let t324 := t318.2.2.2.2.2.2; let t330 := t324.2.2.2.2.2.2; let t336 := t330.2.2.2.2.2.2; let t342 := t336.2.2.2.2.2.2; let t348 := t342.2.2.2.2.2.2; let t354 := t348.2.2.2.2.2.2; let t360 := t354.2.2.2.2.2.2; let t366 := t360.2.2.2.2.2.2; let t372 := t366.2.2.2.2.2.2; let t378 := t372.2.2.2.2.2.2; ⟨⟨t.1, t.2.1, t.2.2.1, t.2.2.2.1, t.2.2.2.2.1, ⟨t.2.2.2.2.2.1, t6.1, t6.2.1⟩, t6.2.2.1, t6.2.2.2.1, t6.2.2.2.2.1, t6.2.2.2.2.2.1, t12.1, t12.2.1, t12.2.2.1, t12.2.2.2.1, t12.2.2.2.2.1, t12.2.2.2.2.2.1, t18.1, ⟨t18.2.1, t18.2.2.1, t18.2.2.2.1⟩, t18.2.2.2.2.1⟩, t18.2.2.2.2.2.1, t354.2.2.2.2.2.1, ⟨⟨t360.1, t360.2.1⟩, t360.2.2.1, ⟨t360.2.2.2.1, t360.2.2.2.2.1, t360.2.2.2.2.2.1⟩, t366.1, t366.2.1, t366.2.2.1, ⟨t366.2.2.2.1, t366.2.2.2.2.1, t366.2.2.2.2.2.1⟩⟩, t372.1, t372.2.1, t372.2.2.1, ⟨t372.2.2.2.1, t372.2.2.2.2.1⟩, t372.2.2.2.2.2.1, t378.1⟩
def clock_Clock.dec (l : List Cel) : Option clock_Clock := match decL clock_Clock.ls l with
 | some t => some (clock_Clock.toS t)
 | none => none
def api_Tlv.enc (x : api_Tlv) : List (Cel) := [.val (.int .i64 x.fType), .val (.string x.fData)]
def api_Tlv.ls : List (Lf UC) := [.int .i64, .str]
def api_Tlv.toS (t : HL D api_Tlv.ls) : api_Tlv := ⟨t.1, t.2.1⟩
def api_Tlv.dec (l : List Cel) : Option api_Tlv := match decL api_Tlv.ls l with
 | some t => some (api_Tlv.toS t)
 | none => none
def servo_Servo.enc (x : servo_Servo) : List (Cel) := [.val (.int .i64 x.fkp), .val (.int .i64 x.fki), .val (.int .i64 x.fstep), .val (.int .i64 x.fstate), .val (.int .i64 x.ffreq), .val (.int .i64 x.fdrift), .val (.int .i64 x.fnear)]
def servo_Servo.ls : List (Lf UC) := [.int .i64, .int .i64, .int .i64, .int .i64, .int .i64, .int .i64, .int .i64]
def servo_Servo.toS (t : HL D servo_Servo.ls) : servo_Servo := ⟨t.1, t.2.1, t.2.2.1, t.2.2.2.1, t.2.2.2.2.1, t.2.2.2.2.2.1, t.2.2.2.2.2.2.1⟩
def servo_Servo.dec (l : List Cel) : Option servo_Servo := match decL servo_Servo.ls l with
 | some t => some (servo_Servo.toS t)
 | none => none
def api_Vector.enc (x : api_Vector) : List (Cel) := [.val (.int .i64 x.fPriority1), .val (.int .i64 x.fQuality.fClass), .val (.int .i64 x.fQuality.fAccuracy), .val (.int .i64 x.fQuality.fVariance), .val (.int .i64 x.fPriority2), .val (.int .u64 x.fGrand), .val (.int .i64 x.fSteps), .val (.int .u64 x.fSender.fClock), .val (.int .i64 x.fSender.fPort), .val (.int .u64 x.fReceiver.fClock), .val (.int .i64 x.fReceiver.fPort)]
def api_Vector.ls : List (Lf UC) := [.int .i64, .int .i64, .int .i64, .int .i64, .int .i64, .int .u64, .int .i64, .int .u64, .int .i64, .int .u64, .int .i64]
def api_Vector.toS (t : HL D api_Vector.ls) : api_Vector := let t6 := t.2.2.2.2.2.2; ⟨t.1, ⟨t.2.1, t.2.2.1, t.2.2.2.1⟩, t.2.2.2.2.1, t.2.2.2.2.2.1, t6.1, ⟨t6.2.1, t6.2.2.1⟩, ⟨t6.2.2.2.1, t6.2.2.2.2.1⟩⟩
def api_Vector.dec (l : List Cel) : Option api_Vector := match decL api_Vector.ls l with
 | some t => some (api_Vector.toS t)
 | none => none
def foreign_Record.enc (x : foreign_Record) : List (Cel) := [.val (.int .i64 x.fVector.fPriority1), .val (.int .i64 x.fVector.fQuality.fClass), .val (.int .i64 x.fVector.fQuality.fAccuracy), .val (.int .i64 x.fVector.fQuality.fVariance), .val (.int .i64 x.fVector.fPriority2), .val (.int .u64 x.fVector.fGrand), .val (.int .i64 x.fVector.fSteps), .val (.int .u64 x.fVector.fSender.fClock), .val (.int .i64 x.fVector.fSender.fPort), .val (.int .u64 x.fVector.fReceiver.fClock), .val (.int .i64 x.fVector.fReceiver.fPort), .val (.int .i64 x.fTimes.fUtc), .val (.int .i64 x.fTimes.fFlags), .val (.int .i64 x.fTimes.fOrigin), .val (.int .i64 x.fSeq), .val (.int .i64 x.fFirst), .val (.int .i64 x.fLast)]
def foreign_Record.ls : List (Lf UC) := [.int .i64, .int .i64, .int .i64, .int .i64, .int .i64, .int .u64, .int .i64, .int .u64, .int .i64, .int .u64, .int .i64, .int .i64, .int .i64, .int .i64, .int .i64, .int .i64, .int .i64]
def foreign_Record.toS (t : HL D foreign_Record.ls) : foreign_Record := let t6 := t.2.2.2.2.2.2; let t12 := t6.2.2.2.2.2.2; ⟨⟨t.1, ⟨t.2.1, t.2.2.1, t.2.2.2.1⟩, t.2.2.2.2.1, t.2.2.2.2.2.1, t6.1, ⟨t6.2.1, t6.2.2.1⟩, ⟨t6.2.2.2.1, t6.2.2.2.2.1⟩⟩, ⟨t6.2.2.2.2.2.1, t12.1, t12.2.1⟩, t12.2.2.1, t12.2.2.2.1, t12.2.2.2.2.1⟩
def foreign_Record.dec (l : List Cel) : Option foreign_Record := match decL foreign_Record.ls l with
 | some t => some (foreign_Record.toS t)
 | none => none
def foreign_Table.enc (x : foreign_Table) : List (Cel) := [.val (.int .u64 x.fown.fClock), .val (.int .i64 x.fown.fPort), .val (.int .i64 x.fwindow), .aarr .t_foreign_Record 5 x.fl, .hole, .hole, .hole, .hole, .hole, .hole, .hole, .hole, .hole, .hole, .hole, .hole, .hole, .hole, .hole, .hole, .hole, .hole, .hole, .hole, .hole, .hole, .hole, .hole, .hole, .hole, .hole, .hole, .hole, .hole, .hole, .hole, .hole, .hole, .hole, .hole, .hole, .hole, .hole, .hole, .hole, .hole, .hole, .hole, .hole, .hole, .hole, .hole, .hole, .hole, .hole, .hole, .hole, .hole, .hole, .hole, .hole, .hole, .hole, .hole, .hole, .hole, .hole, .hole, .hole, .hole, .hole, .hole, .hole, .hole, .hole, .hole, .hole, .hole, .hole, .hole, .hole, .hole, .hole, .hole, .hole, .hole, .hole, .hole, .val (.int .i64 x.fn)]
def foreign_Table.ls : List (Lf UC) := [.int .u64, .int .i64, .int .i64, .aarr .t_foreign_Record 5, .hole, .hole, .hole, .hole, .hole, .hole, .hole, .hole, .hole, .hole, .hole, .hole, .hole, .hole, .hole, .hole, .hole, .hole, .hole, .hole, .hole, .hole, .hole, .hole, .hole, .hole, .hole, .hole, .hole, .hole, .hole, .hole, .hole, .hole, .hole, .hole, .hole, .hole, .hole, .hole, .hole, .hole, .hole, .hole, .hole, .hole, .hole, .hole, .hole, .hole, .hole, .hole, .hole, .hole, .hole, .hole, .hole, .hole, .hole, .hole, .hole, .hole, .hole, .hole, .hole, .hole, .hole, .hole, .hole, .hole, .hole, .hole, .hole, .hole, .hole, .hole, .hole, .hole, .hole, .hole, .hole, .hole, .hole, .hole, .int .i64]
def foreign_Table.toS (t : HL D foreign_Table.ls) : foreign_Table := let t6 := t.2.2.2.2.2.2; let t12 := t6.2.2.2.2.2.2; let t18 := t12.2.2.2.2.2.2; let t24 := t18.2.2.2.2.2.2; let t30 := t24.2.2.2.2.2.2; let t36 := t30.2.2.2.2.2.2; let t42 := t36.2.2.2.2.2.2; let t48 := t42.2.2.2.2.2.2; let t54 := t48.2.2.2.2.2.2; let t60 := t54.2.2.2.2.2.2; let t66 := t60.2.2.2.2.2.2; let t72 := t66.2.2.2.2.2.2; let t78 := t72.2.2.2.2.2.2; let t84 := t78.2.2.2.2.2.2; ⟨⟨t.1, t.2.1⟩, t.2.2.1, t.2.2.2.1, t84.2.2.2.2.1⟩
def foreign_Table.dec (l : List Cel) : Option foreign_Table := match decL foreign_Table.ls l with
 | some t => some (foreign_Table.toS t)
 | none => none
def delay_request.enc (x : delay_request) : List (Cel) := [.val (.int .i64 x.fseq), .val (.int .i64 x.fat), .val (.bool x.fout), .val (.bool x.fsent)]
def delay_request.ls : List (Lf UC) := [.int .i64, .int .i64, .bool, .bool]
def delay_request.toS (t : HL D delay_request.ls) : delay_request := ⟨t.1, t.2.1, t.2.2.1, t.2.2.2.1⟩
def delay_request.dec (l : List Cel) : Option delay_request := match decL delay_request.ls l with
 | some t => some (delay_request.toS t)
 | none => none
def delay_Exchange.enc (x : delay_Exchange) : List (Cel) := [.val (.int .u64 x.fself.fClock), .val (.int .i64 x.fself.fPort), .val (.int .i64 x.fdomain), .val (.int .i64 x.fr.fseq), .val (.int .i64 x.fr.fat), .val (.bool x.fr.fout), .val (.bool x.fr.fsent)]
def delay_Exchange.ls : List (Lf UC) := [.int .u64, .int .i64, .int .i64, .int .i64, .int .i64, .bool, .bool]
def delay_Exchange.toS (t : HL D delay_Exchange.ls) : delay_Exchange := ⟨⟨t.1, t.2.1⟩, t.2.2.1, ⟨t.2.2.2.1, t.2.2.2.2.1, t.2.2.2.2.2.1, t.2.2.2.2.2.2.1⟩⟩
def delay_Exchange.dec (l : List Cel) : Option delay_Exchange := match decL delay_Exchange.ls l with
 | some t => some (delay_Exchange.toS t)
 | none => none
def peer_Exchange.enc (x : peer_Exchange) : List (Cel) := [.val (.int .u64 x.fself.fClock), .val (.int .i64 x.fself.fPort), .val (.int .i64 x.fdomain), .val (.int .i64 x.fseq), .val (.int .i64 x.fat), .val (.bool x.fout), .val (.bool x.fsent), .val (.bool x.fanswered), .val (.bool x.fspoilt), .val (.int .i64 x.fresponse.fType), .val (.int .i64 x.fresponse.fDomain), .val (.int .i64 x.fresponse.fFlags), .val (.int .i64 x.fresponse.fCorr), .val (.int .u64 x.fresponse.fSource.fClock), .val (.int .i64 x.fresponse.fSource.fPort), .val (.int .i64 x.fresponse.fSeq), .val (.int .i64 x.fresponse.fLog), .val (.int .i64 x.fresponse.fStamp), .val (.int .u64 x.fresponse.fTarget.fClock), .val (.int .i64 x.fresponse.fTarget.fPort), .val (.int .i64 x.fresponse.fUtc), .val (.int .i64 x.fresponse.fPriority1), .val (.int .i64 x.fresponse.fQuality.fClass), .val (.int .i64 x.fresponse.fQuality.fAccuracy), .val (.int .i64 x.fresponse.fQuality.fVariance), .val (.int .i64 x.fresponse.fPriority2), .val (.int .u64 x.fresponse.fGrand), .val (.int .i64 x.fresponse.fSteps), .val (.int .i64 x.fresponse.fOrigin), .val (.int .i64 x.fresponse.fStartHops), .val (.int .i64 x.fresponse.fHops), .val (.int .i64 x.fresponse.fAction), .val (.int .i64 x.fback)]
def peer_Exchange.ls : List (Lf UC) := [.int .u64, .int .i64, .int .i64, .int .i64, .int .i64, .bool, .bool, .bool, .bool, .int .i64, .int .i64, .int .i64, .int .i64, .int .u64, .int .i64, .int .i64, .int .i64, .int .i64, .int .u64, .int .i64, .int .i64, .int .i64, .int .i64, .int .i64, .int .i64, .int .i64, .int .u64, .int .i64, .int .i64, .int .i64, .int .i64, .int .i64, .int .i64]
def peer_Exchange.toS (t : HL D peer_Exchange.ls) : peer_Exchange := let t6 := t.2.2.2.2.2.2; let t12 := t6.2.2.2.2.2.2; let t18 := t12.2.2.2.2.2.2; let t24 := t18.2.2.2.2.2.2; let t30 := t24.2.2.2.2.2.2; ⟨⟨t.1, t.2.1⟩, t.2.2.1, t.2.2.2.1, t.2.2.2.2.1, t.2.2.2.2.2.1, t6.1, t6.2.1, t6.2.2.1, ⟨t6.2.2.2.1, t6.2.2.2.2.1, t6.2.2.2.2.2.1, t12.1, ⟨t12.2.1, t12.2.2.1⟩, t12.2.2.2.1, t12.2.2.2.2.1, t12.2.2.2.2.2.1, ⟨t18.1, t18.2.1⟩, t18.2.2.1, t18.2.2.2.1, ⟨t18.2.2.2.2.1, t18.2.2.2.2.2.1, t24.1⟩, t24.2.1, t24.2.2.1, t24.2.2.2.1, t24.2.2.2.2.1, t24.2.2.2.2.2.1, t30.1, t30.2.1⟩, t30.2.2.1⟩
def peer_Exchange.dec (l : List Cel) : Option peer_Exchange := match decL peer_Exchange.ls l with
 | some t => some (peer_Exchange.toS t)
 | none => none
def median_Filter.enc (x : median_Filter) : List (Cel) := [.aarr .int 15 x.fl, .hole, .hole, .hole, .hole, .hole, .hole, .hole, .hole, .hole, .hole, .hole, .hole, .hole, .hole, .val (.int .i64 x.fn), .val (.int .i64 x.fmost)]
def median_Filter.ls : List (Lf UC) := [.aarr .int 15, .hole, .hole, .hole, .hole, .hole, .hole, .hole, .hole, .hole, .hole, .hole, .hole, .hole, .hole, .int .i64, .int .i64]
def median_Filter.toS (t : HL D median_Filter.ls) : median_Filter := let t6 := t.2.2.2.2.2.2; let t12 := t6.2.2.2.2.2.2; ⟨t.1, t12.2.2.2.1, t12.2.2.2.2.1⟩
def median_Filter.dec (l : List Cel) : Option median_Filter := match decL median_Filter.ls l with
 | some t => some (median_Filter.toS t)
 | none => none
def seq_Match.enc (x : seq_Match) : List (Cel) := [.val (.int .i64 x.fsync.fType), .val (.int .i64 x.fsync.fDomain), .val (.int .i64 x.fsync.fFlags), .val (.int .i64 x.fsync.fCorr), .val (.int .u64 x.fsync.fSource.fClock), .val (.int .i64 x.fsync.fSource.fPort), .val (.int .i64 x.fsync.fSeq), .val (.int .i64 x.fsync.fLog), .val (.int .i64 x.fsync.fStamp), .val (.int .u64 x.fsync.fTarget.fClock), .val (.int .i64 x.fsync.fTarget.fPort), .val (.int .i64 x.fsync.fUtc), .val (.int .i64 x.fsync.fPriority1), .val (.int .i64 x.fsync.fQuality.fClass), .val (.int .i64 x.fsync.fQuality.fAccuracy), .val (.int .i64 x.fsync.fQuality.fVariance), .val (.int .i64 x.fsync.fPriority2), .val (.int .u64 x.fsync.fGrand), .val (.int .i64 x.fsync.fSteps), .val (.int .i64 x.fsync.fOrigin), .val (.int .i64 x.fsync.fStartHops), .val (.int .i64 x.fsync.fHops), .val (.int .i64 x.fsync.fAction), .val (.int .i64 x.ffollow.fType), .val (.int .i64 x.ffollow.fDomain), .val (.int .i64 x.ffollow.fFlags), .val (.int .i64 x.ffollow.fCorr), .val (.int .u64 x.ffollow.fSource.fClock), .val (.int .i64 x.ffollow.fSource.fPort), .val (.int .i64 x.ffollow.fSeq), .val (.int .i64 x.ffollow.fLog), .val (.int .i64 x.ffollow.fStamp), .val (.int .u64 x.ffollow.fTarget.fClock), .val (.int .i64 x.ffollow.fTarget.fPort), .val (.int .i64 x.ffollow.fUtc), .val (.int .i64 x.ffollow.fPriority1), .val (.int .i64 x.ffollow.fQuality.fClass), .val (.int .i64 x.ffollow.fQuality.fAccuracy), .val (.int .i64 x.ffollow.fQuality.fVariance), .val (.int .i64 x.ffollow.fPriority2), .val (.int .u64 x.ffollow.fGrand), .val (.int .i64 x.ffollow.fSteps), .val (.int .i64 x.ffollow.fOrigin), .val (.int .i64 x.ffollow.fStartHops), .val (.int .i64 x.ffollow.fHops), .val (.int .i64 x.ffollow.fAction), .val (.int .i64 x.fat), .val (.bool x.fhasSync), .val (.bool x.fhasFollowUp)]
def seq_Match.ls : List (Lf UC) := [.int .i64, .int .i64, .int .i64, .int .i64, .int .u64, .int .i64, .int .i64, .int .i64, .int .i64, .int .u64, .int .i64, .int .i64, .int .i64, .int .i64, .int .i64, .int .i64, .int .i64, .int .u64, .int .i64, .int .i64, .int .i64, .int .i64, .int .i64, .int .i64, .int .i64, .int .i64, .int .i64, .int .u64, .int .i64, .int .i64, .int .i64, .int .i64, .int .u64, .int .i64, .int .i64, .int .i64, .int .i64, .int .i64, .int .i64, .int .i64, .int .u64, .int .i64, .int .i64, .int .i64, .int .i64, .int .i64, .int .i64, .bool, .bool]
def seq_Match.toS (t : HL D seq_Match.ls) : seq_Match := let t6 := t.2.2.2.2.2.2; let t12 := t6.2.2.2.2.2.2; let t18 := t12.2.2.2.2.2.2; let t24 := t18.2.2.2.2.2.2; let t30 := t24.2.2.2.2.2.2; let t36 := t30.2.2.2.2.2.2; let t42 := t36.2.2.2.2.2.2; let t48 := t42.2.2.2.2.2.2; ⟨⟨t.1, t.2.1, t.2.2.1, t.2.2.2.1, ⟨t.2.2.2.2.1, t.2.2.2.2.2.1⟩, t6.1, t6.2.1, t6.2.2.1, ⟨t6.2.2.2.1, t6.2.2.2.2.1⟩, t6.2.2.2.2.2.1, t12.1, ⟨t12.2.1, t12.2.2.1, t12.2.2.2.1⟩, t12.2.2.2.2.1, t12.2.2.2.2.2.1, t18.1, t18.2.1, t18.2.2.1, t18.2.2.2.1, t18.2.2.2.2.1⟩, ⟨t18.2.2.2.2.2.1, t24.1, t24.2.1, t24.2.2.1, ⟨t24.2.2.2.1, t24.2.2.2.2.1⟩, t24.2.2.2.2.2.1, t30.1, t30.2.1, ⟨t30.2.2.1, t30.2.2.2.1⟩, t30.2.2.2.2.1, t30.2.2.2.2.2.1, ⟨t36.1, t36.2.1, t36.2.2.1⟩, t36.2.2.2.1, t36.2.2.2.2.1, t36.2.2.2.2.2.1, t42.1, t42.2.1, t42.2.2.1, t42.2.2.2.1⟩, t42.2.2.2.2.1, t42.2.2.2.2.2.1, t48.1⟩
def seq_Match.dec (l : List Cel) : Option seq_Match := match decL seq_Match.ls l with
 | some t => some (seq_Match.toS t)
 | none => none
def seq_sign.enc (x : seq_sign) : List (Cel) := [.val (.int .u64 x.fsource.fClock), .val (.int .i64 x.fsource.fPort), .val (.int .i64 x.fseq)]
def seq_sign.ls : List (Lf UC) := [.int .u64, .int .i64, .int .i64]
def seq_sign.toS (t : HL D seq_sign.ls) : seq_sign := ⟨⟨t.1, t.2.1⟩, t.2.2.1⟩
def seq_sign.dec (l : List Cel) : Option seq_sign := match decL seq_sign.ls l with
 | some t => some (seq_sign.toS t)
 | none => none
def dec_u8 : List Cel → Option UInt8
 | [.val (.int .u8 n)] => some (UInt8.ofNat n.toNat)
 | _ => none
def dec_int : List Cel → Option (Int)
 | [c] => dInt .i64 c
 | _ => none
def dec_u64 : List Cel → Option (Int)
 | [c] => dInt .u64 c
 | _ => none
def dec_bool : List Cel → Option (Bool)
 | [c] => Z3S c
 | _ => none
def dec_p_t_api_Vector : List Cel → Option (Option (api_Vector))
 | [c] => Z4M (C := UC) (D := D) .t_api_Vector c
 | _ => none
def dec_p_t_clock_Clock : List Cel → Option (Option Nat)
 | [c] => dRef (C := UC) (D := D) 0 13 c
 | _ => none
def dec_l_u64 : List Cel → Option (List (Int))
 | [c] => Z3E (C := UC) (D := D) .u64 c
 | _ => none
def ofT (t : Nat) : Option UC := match t with | 2 => some .int | 3 => some .int | 4 => some .bool | 5 => some .u8 | 6 => some .u8 | 12 => some .u64 | 22 => some .p_t_clock_Clock | 24 => some .u64 | 31 => some .t_api_PortID | 33 => some .t_api_Quality | 35 => some .t_api_Times | 37 => some .t_api_Conf | 39 => some .t_api_Event | 42 => some .t_api_Out | 46 => some .int | 50 => some .t_api_Msg | 78 => some .t_api_Parent | 92 => some .t_timer_Timer | 97 => some .t_clock_known | 112 => some .t_api_Tlv | 186 => some .t_servo_Servo | 194 => some .t_api_Vector | 196 => some .t_foreign_Record | 203 => some .l_u64 | 207 => some .p_t_api_Vector | 242 => some .t_delay_request | 244 => some .t_delay_Exchange | 246 => some .t_peer_Exchange | 251 => some .t_seq_Match | 261 => some .u64 | 272 => some .t_seq_sign | 311 => some .u8 | 312 => some .u8 | _ => none
def U : Univ where
 C := UC
 D := D
 dft := fun u => match u with | .u8 => 0 | .t_api_Out => api_Out.zero | .t_api_Tlv => api_Tlv.zero | .int => 0 | .t_api_Event => api_Event.zero | .t_api_Conf => api_Conf.zero | .t_api_Quality => api_Quality.zero | .t_api_Times => api_Times.zero | .t_foreign_Record => foreign_Record.zero | .t_api_Vector => api_Vector.zero | .t_api_PortID => api_PortID.zero | .t_clock_side => clock_side.zero | .t_timer_Timer => timer_Timer.zero | .t_clock_known => clock_known.zero | .t_api_Msg => api_Msg.zero | .u64 => 0 | .bool => false | .p_t_api_Vector => none | .p_t_clock_Clock => none | .t_api_Parent => api_Parent.zero | .t_clock_Clock => clock_Clock.zero | .t_servo_Servo => servo_Servo.zero | .t_foreign_Table => foreign_Table.zero | .t_delay_request => delay_request.zero | .t_delay_Exchange => delay_Exchange.zero | .t_peer_Exchange => peer_Exchange.zero | .t_median_Filter => median_Filter.zero | .t_seq_Match => seq_Match.zero | .t_seq_sign => seq_sign.zero | .l_u64 => []
 size := fun u => match u with | .u8 => 1 | .t_api_Out => 7 | .t_api_Tlv => 2 | .int => 1 | .t_api_Event => 29 | .t_api_Conf => 23 | .t_api_Quality => 3 | .t_api_Times => 3 | .t_foreign_Record => 17 | .t_api_Vector => 11 | .t_api_PortID => 2 | .t_clock_side => 42 | .t_timer_Timer => 1 | .t_clock_known => 2 | .t_api_Msg => 23 | .u64 => 1 | .bool => 1 | .p_t_api_Vector => 1 | .p_t_clock_Clock => 1 | .t_api_Parent => 12 | .t_clock_Clock => 379 | .t_servo_Servo => 7 | .t_foreign_Table => 89 | .t_delay_request => 4 | .t_delay_Exchange => 7 | .t_peer_Exchange => 33 | .t_median_Filter => 17 | .t_seq_Match => 49 | .t_seq_sign => 3 | .l_u64 => 1
 enc := fun u => match u with
  | .u8 => fun x => [.val (.int .u8 x.toNat)]
  | .t_api_Out => api_Out.enc
  | .t_api_Tlv => api_Tlv.enc
  | .int => fun x => [.val (.int .i64 x)]
  | .t_api_Event => api_Event.enc
  | .t_api_Conf => api_Conf.enc
  | .t_api_Quality => api_Quality.enc
  | .t_api_Times => api_Times.enc
  | .t_foreign_Record => foreign_Record.enc
  | .t_api_Vector => api_Vector.enc
  | .t_api_PortID => api_PortID.enc
  | .t_clock_side => clock_side.enc
  | .t_timer_Timer => timer_Timer.enc
  | .t_clock_known => clock_known.enc
  | .t_api_Msg => api_Msg.enc
  | .u64 => fun x => [.val (.int .u64 x)]
  | .bool => fun x => [.val (.bool x)]
  | .p_t_api_Vector => fun x => [.optr .t_api_Vector x]
  | .p_t_clock_Clock => fun x => [.ref 0 x]
  | .t_api_Parent => api_Parent.enc
  | .t_clock_Clock => clock_Clock.enc
  | .t_servo_Servo => servo_Servo.enc
  | .t_foreign_Table => foreign_Table.enc
  | .t_delay_request => delay_request.enc
  | .t_delay_Exchange => delay_Exchange.enc
  | .t_peer_Exchange => peer_Exchange.enc
  | .t_median_Filter => median_Filter.enc
  | .t_seq_Match => seq_Match.enc
  | .t_seq_sign => seq_sign.enc
  | .l_u64 => fun x => [.isl .none .u64 x]
 dec := fun u => match u with
  | .u8 => dec_u8
  | .t_api_Out => api_Out.dec
  | .t_api_Tlv => api_Tlv.dec
  | .int => dec_int
  | .t_api_Event => api_Event.dec
  | .t_api_Conf => api_Conf.dec
  | .t_api_Quality => api_Quality.dec
  | .t_api_Times => api_Times.dec
  | .t_foreign_Record => foreign_Record.dec
  | .t_api_Vector => api_Vector.dec
  | .t_api_PortID => api_PortID.dec
  | .t_clock_side => clock_side.dec
  | .t_timer_Timer => timer_Timer.dec
  | .t_clock_known => clock_known.dec
  | .t_api_Msg => api_Msg.dec
  | .u64 => dec_u64
  | .bool => dec_bool
  | .p_t_api_Vector => dec_p_t_api_Vector
  | .p_t_clock_Clock => dec_p_t_clock_Clock
  | .t_api_Parent => api_Parent.dec
  | .t_clock_Clock => clock_Clock.dec
  | .t_servo_Servo => servo_Servo.dec
  | .t_foreign_Table => foreign_Table.dec
  | .t_delay_request => delay_request.dec
  | .t_delay_Exchange => delay_Exchange.dec
  | .t_peer_Exchange => peer_Exchange.dec
  | .t_median_Filter => median_Filter.dec
  | .t_seq_Match => seq_Match.dec
  | .t_seq_sign => seq_sign.dec
  | .l_u64 => dec_l_u64
 ofType := ofT
 eq? := fun u v => if h : u = v then some ⟨h⟩ else none
 plain := fun u => match u with | .t_clock_Clock => false | .t_foreign_Table => false | .t_median_Filter => false | _ => true
 toBytes := fun u => match u with | .u8 => fun l => some l | _ => fun _ => none
 u8 := .u8
 ofBytes := fun l => l
 mfamT := fun t => match t with | 90 => some 12 | _ => none
 nf := 13
 famT := fun t => match t with | 104 => some (0, .t_clock_Clock) | 186 => some (5, .t_servo_Servo) | 199 => some (6, .t_foreign_Table) | 244 => some (7, .t_delay_Exchange) | 246 => some (8, .t_peer_Exchange) | 249 => some (9, .t_median_Filter) | 251 => some (10, .t_seq_Match) | _ => none
 nn := fun f => match f with  | _ => true
 putF := fun v u k => match v with | .t_clock_side => (match u with | .t_timer_Timer => (bif Nat.beq k 3 then some (fun x y => ({ x with freceipt := y } : clock_side)) else bif Nat.beq k 4 then some (fun x y => ({ x with fqualify := y } : clock_side)) else bif Nat.beq k 5 then some (fun x y => ({ x with fannounce := y } : clock_side)) else bif Nat.beq k 6 then some (fun x y => ({ x with fsync := y } : clock_side)) else bif Nat.beq k 7 then some (fun x y => ({ x with fask := y } : clock_side)) else none) | .t_clock_known => (bif Nat.beq k 14 then some (fun x y => ({ x with fdiff := y } : clock_side)) else bif Nat.beq k 16 then some (fun x y => ({ x with fneighbour := y } : clock_side)) else none) | .t_api_Msg => (bif Nat.beq k 18 then some (fun x y => ({ x with fasked := y } : clock_side)) else none) | _ => none) | _ => none
abbrev DC {α : Type} (enc : α → List Cel) (ls : List (Lf UC)) (dec : List Cel → Option α) : Prop := ∀ {l : List Cel} {x : α}, dec l = some x → l.length = ls.length ∧ ∀ (k : Nat) y, l[k]? = some y → ∃ z, (enc x)[k]? = some z ∧ SLe U y z
theorem dcl {α : Type} {ls : List (Lf UC)} {enc : α → List Cel} {dec : List Cel → Option α} (toS : HL D ls → α) (hd : ∀ l, dec l = match decL ls l with | some t => some (toS t) | none => none) (he : ∀ t, enc (toS t) = encL ls t) (hb : ls.all (Lf.okN U.nf) = true) : DC enc ls dec := by
 intro l x h
 rw [hd] at h
 split at h
 ·rename_i t ht
  cases h
  rw [he]
  exact Z6g (U := U) hb ht
 ·cases h
theorem api_PortID.dec_cell : DC api_PortID.enc api_PortID.ls api_PortID.dec := dcl (enc := api_PortID.enc) (dec := api_PortID.dec) api_PortID.toS (fun _ => by kernel_rfl) (fun t => by kernel_rfl) (by decide)
theorem api_Quality.dec_cell : DC api_Quality.enc api_Quality.ls api_Quality.dec := dcl (enc := api_Quality.enc) (dec := api_Quality.dec) api_Quality.toS (fun _ => by kernel_rfl) (fun t => by kernel_rfl) (by decide)
theorem api_Times.dec_cell : DC api_Times.enc api_Times.ls api_Times.dec := dcl (enc := api_Times.enc) (dec := api_Times.dec) api_Times.toS (fun _ => by kernel_rfl) (fun t => by kernel_rfl) (by decide)
theorem api_Conf.dec_cell : DC api_Conf.enc api_Conf.ls api_Conf.dec := dcl (enc := api_Conf.enc) (dec := api_Conf.dec) api_Conf.toS (fun _ => by kernel_rfl) (fun t => by kernel_rfl) (by decide)
theorem api_Event.dec_cell : DC api_Event.enc api_Event.ls api_Event.dec := dcl (enc := api_Event.enc) (dec := api_Event.dec) api_Event.toS (fun _ => by kernel_rfl) (fun t => by kernel_rfl) (by decide)
theorem api_Out.dec_cell : DC api_Out.enc api_Out.ls api_Out.dec := dcl (enc := api_Out.enc) (dec := api_Out.dec) api_Out.toS (fun _ => by kernel_rfl) (fun t => by kernel_rfl) (by decide)
theorem api_Msg.dec_cell : DC api_Msg.enc api_Msg.ls api_Msg.dec := dcl (enc := api_Msg.enc) (dec := api_Msg.dec) api_Msg.toS (fun _ => by kernel_rfl) (fun t => by kernel_rfl) (by decide)
theorem api_Parent.dec_cell : DC api_Parent.enc api_Parent.ls api_Parent.dec := dcl (enc := api_Parent.enc) (dec := api_Parent.dec) api_Parent.toS (fun _ => by kernel_rfl) (fun t => by kernel_rfl) (by decide)
theorem timer_Timer.dec_cell : DC timer_Timer.enc timer_Timer.ls timer_Timer.dec := dcl (enc := timer_Timer.enc) (dec := timer_Timer.dec) timer_Timer.toS (fun _ => by kernel_rfl) (fun t => by kernel_rfl) (by decide)
theorem clock_known.dec_cell : DC clock_known.enc clock_known.ls clock_known.dec := dcl (enc := clock_known.enc) (dec := clock_known.dec) clock_known.toS (fun _ => by kernel_rfl) (fun t => by kernel_rfl) (by decide)
theorem clock_side.dec_cell : DC clock_side.enc clock_side.ls clock_side.dec := dcl (enc := clock_side.enc) (dec := clock_side.dec) clock_side.toS (fun _ => by kernel_rfl) (fun t => by kernel_rfl) (by decide)
theorem clock_Clock.dec_cell : DC clock_Clock.enc clock_Clock.ls clock_Clock.dec := dcl (enc := clock_Clock.enc) (dec := clock_Clock.dec) clock_Clock.toS (fun _ => by kernel_rfl) (fun t => by kernel_rfl) (by decide)
theorem api_Tlv.dec_cell : DC api_Tlv.enc api_Tlv.ls api_Tlv.dec := dcl (enc := api_Tlv.enc) (dec := api_Tlv.dec) api_Tlv.toS (fun _ => by kernel_rfl) (fun t => by kernel_rfl) (by decide)
theorem servo_Servo.dec_cell : DC servo_Servo.enc servo_Servo.ls servo_Servo.dec := dcl (enc := servo_Servo.enc) (dec := servo_Servo.dec) servo_Servo.toS (fun _ => by kernel_rfl) (fun t => by kernel_rfl) (by decide)
theorem api_Vector.dec_cell : DC api_Vector.enc api_Vector.ls api_Vector.dec := dcl (enc := api_Vector.enc) (dec := api_Vector.dec) api_Vector.toS (fun _ => by kernel_rfl) (fun t => by kernel_rfl) (by decide)
theorem foreign_Record.dec_cell : DC foreign_Record.enc foreign_Record.ls foreign_Record.dec := dcl (enc := foreign_Record.enc) (dec := foreign_Record.dec) foreign_Record.toS (fun _ => by kernel_rfl) (fun t => by kernel_rfl) (by decide)
theorem foreign_Table.dec_cell : DC foreign_Table.enc foreign_Table.ls foreign_Table.dec := dcl (enc := foreign_Table.enc) (dec := foreign_Table.dec) foreign_Table.toS (fun _ => by kernel_rfl) (fun t => by kernel_rfl) (by decide)
theorem delay_request.dec_cell : DC delay_request.enc delay_request.ls delay_request.dec := dcl (enc := delay_request.enc) (dec := delay_request.dec) delay_request.toS (fun _ => by kernel_rfl) (fun t => by kernel_rfl) (by decide)
theorem delay_Exchange.dec_cell : DC delay_Exchange.enc delay_Exchange.ls delay_Exchange.dec := dcl (enc := delay_Exchange.enc) (dec := delay_Exchange.dec) delay_Exchange.toS (fun _ => by kernel_rfl) (fun t => by kernel_rfl) (by decide)
theorem peer_Exchange.dec_cell : DC peer_Exchange.enc peer_Exchange.ls peer_Exchange.dec := dcl (enc := peer_Exchange.enc) (dec := peer_Exchange.dec) peer_Exchange.toS (fun _ => by kernel_rfl) (fun t => by kernel_rfl) (by decide)
theorem median_Filter.dec_cell : DC median_Filter.enc median_Filter.ls median_Filter.dec := dcl (enc := median_Filter.enc) (dec := median_Filter.dec) median_Filter.toS (fun _ => by kernel_rfl) (fun t => by kernel_rfl) (by decide)
theorem seq_Match.dec_cell : DC seq_Match.enc seq_Match.ls seq_Match.dec := dcl (enc := seq_Match.enc) (dec := seq_Match.dec) seq_Match.toS (fun _ => by kernel_rfl) (fun t => by kernel_rfl) (by decide)
theorem seq_sign.dec_cell : DC seq_sign.enc seq_sign.ls seq_sign.dec := dcl (enc := seq_sign.enc) (dec := seq_sign.dec) seq_sign.toS (fun _ => by kernel_rfl) (fun t => by kernel_rfl) (by decide)
theorem dec_u8_cell {l : List Cel} {x : UInt8} (h : dec_u8 l = some x) : l.length = 1 ∧ ∀ (k : Nat) y, l[k]? = some y → ∃ z, (U.enc .u8 x)[k]? = some z ∧ SLe U y z := by
 unfold dec_u8 at h
 split at h
 ·cases h
  exact Z1I (U := U) (Z8B (U := U) trivial)
 ·cases h
theorem dec_int_cell {l : List Cel} {x : Int} (h : dec_int l = some x) : l.length = 1 ∧ ∀ (k : Nat) y, l[k]? = some y → ∃ z, (U.enc .int x)[k]? = some z ∧ SLe U y z := by
 unfold dec_int at h
 split at h
 ·exact Z1I (U := U) (Z49 h)
 ·cases h
theorem dec_u64_cell {l : List Cel} {x : Int} (h : dec_u64 l = some x) : l.length = 1 ∧ ∀ (k : Nat) y, l[k]? = some y → ∃ z, (U.enc .u64 x)[k]? = some z ∧ SLe U y z := by
 unfold dec_u64 at h
 split at h
 ·exact Z1I (U := U) (Z49 h)
 ·cases h
theorem dec_bool_cell {l : List Cel} {x : Bool} (h : dec_bool l = some x) : l.length = 1 ∧ ∀ (k : Nat) y, l[k]? = some y → ∃ z, (U.enc .bool x)[k]? = some z ∧ SLe U y z := by
 unfold dec_bool at h
 split at h
 ·exact Z1I (U := U) (Z5R h)
 ·cases h
theorem dec_p_t_api_Vector_cell {l : List Cel} {x : Option (api_Vector)} (h : dec_p_t_api_Vector l = some x) : l.length = 1 ∧ ∀ (k : Nat) y, l[k]? = some y → ∃ z, (U.enc .p_t_api_Vector x)[k]? = some z ∧ SLe U y z := by
 unfold dec_p_t_api_Vector at h
 split at h
 ·exact Z1I (U := U) (Z87 h)
 ·cases h
theorem dec_p_t_clock_Clock_cell {l : List Cel} {x : Option Nat} (h : dec_p_t_clock_Clock l = some x) : l.length = 1 ∧ ∀ (k : Nat) y, l[k]? = some y → ∃ z, (U.enc .p_t_clock_Clock x)[k]? = some z ∧ SLe U y z := by
 unfold dec_p_t_clock_Clock at h
 split at h
 ·exact Z1I (U := U) (Z6r (Nat.le_refl _) h)
 ·cases h
theorem dec_l_u64_cell {l : List Cel} {x : List (Int)} (h : dec_l_u64 l = some x) : l.length = 1 ∧ ∀ (k : Nat) y, l[k]? = some y → ∃ z, (U.enc .l_u64 x)[k]? = some z ∧ SLe U y z := by
 unfold dec_l_u64 at h
 split at h
 ·exact Z1I (U := U) (Z5m h)
 ·cases h
theorem putF_t_clock_side_t_timer_Timer {k : Nat} {g : D .t_clock_side → D .t_timer_Timer → D .t_clock_side} (h : U.putF .t_clock_side .t_timer_Timer k = some g) : (∀ x y, U.dec .t_clock_side (splice k (U.enc .t_timer_Timer y) (U.enc .t_clock_side x)) = some (g x y)) ∧ k + U.size .t_timer_Timer ≤ U.size .t_clock_side := by
 change (bif Nat.beq k 3 then some (fun (x : D .t_clock_side) (y : D .t_timer_Timer) => ({ x with freceipt := y } : D .t_clock_side)) else bif Nat.beq k 4 then some (fun (x : D .t_clock_side) (y : D .t_timer_Timer) => ({ x with fqualify := y } : D .t_clock_side)) else bif Nat.beq k 5 then some (fun (x : D .t_clock_side) (y : D .t_timer_Timer) => ({ x with fannounce := y } : D .t_clock_side)) else bif Nat.beq k 6 then some (fun (x : D .t_clock_side) (y : D .t_timer_Timer) => ({ x with fsync := y } : D .t_clock_side)) else bif Nat.beq k 7 then some (fun (x : D .t_clock_side) (y : D .t_timer_Timer) => ({ x with fask := y } : D .t_clock_side)) else none) = some g at h
 cases h3 : Nat.beq k 3 with
 | true => rw [h3] at h; cases h; have := nbeq h3; subst this; exact ⟨fun x y => by kernel_rfl, by decide⟩
 | false =>
 rw [h3] at h; simp only [cond_false] at h
 cases h4 : Nat.beq k 4 with
 | true => rw [h4] at h; cases h; have := nbeq h4; subst this; exact ⟨fun x y => by kernel_rfl, by decide⟩
 | false =>
 rw [h4] at h; simp only [cond_false] at h
 cases h5 : Nat.beq k 5 with
 | true => rw [h5] at h; cases h; have := nbeq h5; subst this; exact ⟨fun x y => by kernel_rfl, by decide⟩
 | false =>
 rw [h5] at h; simp only [cond_false] at h
 cases h6 : Nat.beq k 6 with
 | true => rw [h6] at h; cases h; have := nbeq h6; subst this; exact ⟨fun x y => by kernel_rfl, by decide⟩
 | false =>
 rw [h6] at h; simp only [cond_false] at h
 cases h7 : Nat.beq k 7 with
 | true => rw [h7] at h; cases h; have := nbeq h7; subst this; exact ⟨fun x y => by kernel_rfl, by decide⟩
 | false =>
 rw [h7] at h; simp only [cond_false] at h
 cases h
theorem putF_t_clock_side_t_clock_known {k : Nat} {g : D .t_clock_side → D .t_clock_known → D .t_clock_side} (h : U.putF .t_clock_side .t_clock_known k = some g) : (∀ x y, U.dec .t_clock_side (splice k (U.enc .t_clock_known y) (U.enc .t_clock_side x)) = some (g x y)) ∧ k + U.size .t_clock_known ≤ U.size .t_clock_side := by
 change (bif Nat.beq k 14 then some (fun (x : D .t_clock_side) (y : D .t_clock_known) => ({ x with fdiff := y } : D .t_clock_side)) else bif Nat.beq k 16 then some (fun (x : D .t_clock_side) (y : D .t_clock_known) => ({ x with fneighbour := y } : D .t_clock_side)) else none) = some g at h
 cases h14 : Nat.beq k 14 with
 | true => rw [h14] at h; cases h; have := nbeq h14; subst this; exact ⟨fun x y => by kernel_rfl, by decide⟩
 | false =>
 rw [h14] at h; simp only [cond_false] at h
 cases h16 : Nat.beq k 16 with
 | true => rw [h16] at h; cases h; have := nbeq h16; subst this; exact ⟨fun x y => by kernel_rfl, by decide⟩
 | false =>
 rw [h16] at h; simp only [cond_false] at h
 cases h
theorem putF_t_clock_side_t_api_Msg {k : Nat} {g : D .t_clock_side → D .t_api_Msg → D .t_clock_side} (h : U.putF .t_clock_side .t_api_Msg k = some g) : (∀ x y, U.dec .t_clock_side (splice k (U.enc .t_api_Msg y) (U.enc .t_clock_side x)) = some (g x y)) ∧ k + U.size .t_api_Msg ≤ U.size .t_clock_side := by
 change (bif Nat.beq k 18 then some (fun (x : D .t_clock_side) (y : D .t_api_Msg) => ({ x with fasked := y } : D .t_clock_side)) else none) = some g at h
 cases h18 : Nat.beq k 18 with
 | true => rw [h18] at h; cases h; have := nbeq h18; subst this; exact ⟨fun x y => by kernel_rfl, by decide⟩
 | false =>
 rw [h18] at h; simp only [cond_false] at h
 cases h
theorem U_ok : U.Ok where
 enc_len u x := by cases u <;> rfl
 enc_cell u x hp := by cases u <;> first | rfl | (cases hp; done)
 dec_len u l x h := by
  cases u
  case u8 => exact (dec_u8_cell h).1
  case t_api_Out => exact (api_Out.dec_cell h).1
  case t_api_Tlv => exact (api_Tlv.dec_cell h).1
  case int => exact (dec_int_cell h).1
  case t_api_Event => exact (api_Event.dec_cell h).1
  case t_api_Conf => exact (api_Conf.dec_cell h).1
  case t_api_Quality => exact (api_Quality.dec_cell h).1
  case t_api_Times => exact (api_Times.dec_cell h).1
  case t_foreign_Record => exact (foreign_Record.dec_cell h).1
  case t_api_Vector => exact (api_Vector.dec_cell h).1
  case t_api_PortID => exact (api_PortID.dec_cell h).1
  case t_clock_side => exact (clock_side.dec_cell h).1
  case t_timer_Timer => exact (timer_Timer.dec_cell h).1
  case t_clock_known => exact (clock_known.dec_cell h).1
  case t_api_Msg => exact (api_Msg.dec_cell h).1
  case u64 => exact (dec_u64_cell h).1
  case bool => exact (dec_bool_cell h).1
  case p_t_api_Vector => exact (dec_p_t_api_Vector_cell h).1
  case p_t_clock_Clock => exact (dec_p_t_clock_Clock_cell h).1
  case t_api_Parent => exact (api_Parent.dec_cell h).1
  case t_clock_Clock => exact (clock_Clock.dec_cell h).1
  case t_servo_Servo => exact (servo_Servo.dec_cell h).1
  case t_foreign_Table => exact (foreign_Table.dec_cell h).1
  case t_delay_request => exact (delay_request.dec_cell h).1
  case t_delay_Exchange => exact (delay_Exchange.dec_cell h).1
  case t_peer_Exchange => exact (peer_Exchange.dec_cell h).1
  case t_median_Filter => exact (median_Filter.dec_cell h).1
  case t_seq_Match => exact (seq_Match.dec_cell h).1
  case t_seq_sign => exact (seq_sign.dec_cell h).1
  case l_u64 => exact (dec_l_u64_cell h).1
 dec_cell u l x h := by
  cases u
  case u8 => exact (dec_u8_cell h).2
  case t_api_Out => exact (api_Out.dec_cell h).2
  case t_api_Tlv => exact (api_Tlv.dec_cell h).2
  case int => exact (dec_int_cell h).2
  case t_api_Event => exact (api_Event.dec_cell h).2
  case t_api_Conf => exact (api_Conf.dec_cell h).2
  case t_api_Quality => exact (api_Quality.dec_cell h).2
  case t_api_Times => exact (api_Times.dec_cell h).2
  case t_foreign_Record => exact (foreign_Record.dec_cell h).2
  case t_api_Vector => exact (api_Vector.dec_cell h).2
  case t_api_PortID => exact (api_PortID.dec_cell h).2
  case t_clock_side => exact (clock_side.dec_cell h).2
  case t_timer_Timer => exact (timer_Timer.dec_cell h).2
  case t_clock_known => exact (clock_known.dec_cell h).2
  case t_api_Msg => exact (api_Msg.dec_cell h).2
  case u64 => exact (dec_u64_cell h).2
  case bool => exact (dec_bool_cell h).2
  case p_t_api_Vector => exact (dec_p_t_api_Vector_cell h).2
  case p_t_clock_Clock => exact (dec_p_t_clock_Clock_cell h).2
  case t_api_Parent => exact (api_Parent.dec_cell h).2
  case t_clock_Clock => exact (clock_Clock.dec_cell h).2
  case t_servo_Servo => exact (servo_Servo.dec_cell h).2
  case t_foreign_Table => exact (foreign_Table.dec_cell h).2
  case t_delay_request => exact (delay_request.dec_cell h).2
  case t_delay_Exchange => exact (delay_Exchange.dec_cell h).2
  case t_peer_Exchange => exact (peer_Exchange.dec_cell h).2
  case t_median_Filter => exact (median_Filter.dec_cell h).2
  case t_seq_Match => exact (seq_Match.dec_cell h).2
  case t_seq_sign => exact (seq_sign.dec_cell h).2
  case l_u64 => exact (dec_l_u64_cell h).2
 toBytes u xs bs h := by
  cases u <;> first
   | (cases h; done)
   | (cases h; exact ⟨rfl, rfl, fun i hi => rfl⟩)
 putF v u k g h := by
  cases v <;> first
   | (cases h; done)
   | (cases u <;> first | (cases h; done) | exact putF_t_clock_side_t_timer_Timer h | exact putF_t_clock_side_t_clock_known h | exact putF_t_clock_side_t_api_Msg h)
 u8 := rfl
 ofBytes bs := ⟨rfl, fun i hi => rfl⟩
theorem U_pure : U.Pure := fun u x => by cases u <;> rfl
theorem decs : Decs U Tryz.prog (fun _ => false) := fun e u l hd => by cases hd
theorem mixed : Tryz.prog.follows .mixedOrders = true := by kernel_rfl
end Go.Proofs.YtgnabnhggaondaaGreat
