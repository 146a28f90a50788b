/- Typed forms of the functions that these statements reach, proved equal to what the model runs, and laws over them. -/
import Derived.Test.YtgnabnhggaondaaGreatS
import Derived.Test.YtgnabnhggaondaaGreatAr3
import Derived.KernelRfl
namespace Go.Proofs.YtgnabnhggaondaaGreat
open Go.Rf
set_option linter.unusedVariables false
set_option linter.unusedSimpArgs false
set_option maxRecDepth 100000
abbrev e0_ : Nat × (Nat → D .t_clock_Clock) := (0, fun _ => U.dft .t_clock_Clock)
abbrev e1_ : Nat × (Nat → D .t_delay_Exchange) := (0, fun _ => U.dft .t_delay_Exchange)
abbrev e2_ : Nat × (Nat → D .t_foreign_Table) := (0, fun _ => U.dft .t_foreign_Table)
abbrev e3_ : Nat × (Nat → D .t_median_Filter) := (0, fun _ => U.dft .t_median_Filter)
abbrev e4_ : Nat × (Nat → D .t_peer_Exchange) := (0, fun _ => U.dft .t_peer_Exchange)
abbrev e5_ : Nat × (Nat → D .t_seq_Match) := (0, fun _ => U.dft .t_seq_Match)
abbrev e6_ : Nat × (Nat → D .t_servo_Servo) := (0, fun _ => U.dft .t_servo_Servo)
def byteI (e : Int) : UInt8 := UInt8.ofNat (IntKind.u8.wrap e).toNat
def be (v : Int) : Nat → List UInt8
 | 0 => []
 | k + 1 => byteI (ishr .i64 v (8 * (k : Int))) :: be v k
theorem be_length (v : Int) : ∀ k, (be v k).length = k
 | 0 => rfl
 | k + 1 => by simp [be, be_length v k]
theorem put_step (b : List UInt8) (v : Int) (k : Nat) (hk : k < 8) (hb : b.length < 140737488355328) :
  K98.step0 ((b, v, ((k + 1 : Nat) : Int), ()), ()) = some (.inl ((b ++ [byteI (ishr .i64 v (8 * (k : Int)))], v, (k : Int), ()), ())) := by
 have e1 : isub .i64 ((k + 1 : Nat) : Int) 1 = (k : Int) := by have := isub_of (a := ((k + 1 : Nat) : Int)) (b := 1) (by omega); omega
 have e2 : imul .i64 8 (k : Int) = 8 * (k : Int) := imul_of (by omega)
 unfold K98.step0
 simp only [e1, e2, ilt_true (show (0 : Int) < ((k + 1 : Nat) : Int) by omega), ile_true (show (0 : Int) ≤ 8 * (k : Int) by omega), cond_true]
 rw [room_true (by simp; omega)]
 rfl
theorem put_loop (v : Int) : ∀ (k : Nat) (b : List UInt8), k ≤ 8 → b.length + k < 140737488355328 → K98.F0 ((b, v, (k : Int), ()), ()) = some ((b ++ be v k, ()), ()) := by
 intro k b hk hb
 obtain ⟨r, h1, h2⟩ := loopFix_rule (step := K98.step0) (Inv := fun a => ∃ (i : Nat) (c : List UInt8), a = ((c, v, (i : Int), ()), ()) ∧ i ≤ k ∧ c ++ be v i = b ++ be v k)
  (Post := fun r => r = ((b ++ be v k, ()), ())) (m := fun a => a.1.2.2.1.toNat) (by
   rintro x ⟨i, c, rfl, hi, hc⟩
   cases i with
   | zero =>
    refine .inr ⟨_, ?_, rfl⟩
    unfold K98.step0
    simp only [ilt_false (show ¬ (0 : Int) < ((0 : Nat) : Int) by decide), cond_false]
    rw [← hc]; simp [be]
   | succ i =>
    have hcl : c.length + (i + 1) = b.length + k := by
     have := congrArg List.length hc
     simpa [be_length] using this
    refine .inl ⟨_, put_step c v i (by omega) (by omega), ⟨i, _, rfl, by omega, ?_⟩, by simp only [Int.toNat_natCast]; omega⟩
    rw [← hc]; simp [be]) (1000000 + b.length) ((b, v, (k : Int), ()), ()) ⟨k, b, rfl, Nat.le_refl _, rfl⟩ (by simp only [Int.toNat_natCast]; omega)
 subst h2
 exact h1
theorem put_spec (b : List UInt8) (v : Int) (k : Nat) (hk : k ≤ 8) (hb : b.length + k < 140737488355328) : K98 b v (k : Int) = some ((b ++ be v k, ()), ((), ((), ()))) := by
 have e0 : Z7 true 0 (Z7 false (k : Int) 8) = (k : Int) := by
  simp only [Z7, cond_true, cond_false, imin, imax]
  split <;> split <;> omega
 have e3 : (bif le3 (ofN (0 : Nat)) (ofN b.length) b.length then ieq (ofN b.length) (ofN b.length) else false) = true := by
  simp [le3, ile, ieq]
 have e4 : List.drop (ofN (0 : Nat)).toNat (List.take (ofN b.length).toNat b) = b := by simp
 unfold K98 K98.gen
 simp only [e0, e3, e4, cond_true]
 cases k with
 | zero => simp [ilt, be]
 | succ k =>
  have e1 : isub .i64 ((k + 1 : Nat) : Int) 1 = (k : Int) := by have := isub_of (a := ((k + 1 : Nat) : Int)) (b := 1) (by omega); omega
  have e2 : imul .i64 8 (k : Int) = 8 * (k : Int) := imul_of (by omega)
  simp only [e1, e2, ilt_true (show (0 : Int) < ((k + 1 : Nat) : Int) by omega), ile_true (show (0 : Int) ≤ 8 * (k : Int) by omega), cond_true]
  rw [room_true (by simp; omega)]
  have h := put_loop v k (b ++ [byteI (ishr .i64 v (8 * (k : Int)))]) (by omega) (by simp; omega)
  have h : K98.F0 ((b ++ UInt8.ofNat (IntKind.u8.wrap (ishr .i64 v (8 * (k : Int)))).toNat :: lnil UInt8, v, (k : Int), ()), ()) = _ := h
  rw [h]
  simp [oelim_some, be]
theorem put1 (b : List UInt8) (v : Int) (h : b.length < 1000000) : K98 b v 1 = some ((b ++ be v 1, ()), ((), ((), ()))) := put_spec b v 1 (by omega) (by omega)
theorem put2 (b : List UInt8) (v : Int) (h : b.length < 1000000) : K98 b v 2 = some ((b ++ be v 2, ()), ((), ((), ()))) := put_spec b v 2 (by omega) (by omega)
theorem put4 (b : List UInt8) (v : Int) (h : b.length < 1000000) : K98 b v 4 = some ((b ++ be v 4, ()), ((), ((), ()))) := put_spec b v 4 (by omega) (by omega)
theorem put6 (b : List UInt8) (v : Int) (h : b.length < 1000000) : K98 b v 6 = some ((b ++ be v 6, ()), ((), ((), ()))) := put_spec b v 6 (by omega) (by omega)
theorem put8 (b : List UInt8) (v : Int) (h : b.length < 1000000) : K98 b v 8 = some ((b ++ be v 8, ()), ((), ((), ()))) := put_spec b v 8 (by omega) (by omega)
theorem may_stamp {t : Int} (h0 : 0 ≤ t) (h1 : t ≤ 4000000000000000) : K122 t = some ((true, ()), (), ()) := by
 unfold K122 K122.gen
 rw [ile_true h0, ile_true h1]; rfl
theorem putS (b : List UInt8) {t : Int} (h0 : 0 ≤ t) (h1 : t ≤ 4000000000000000) (h : b.length < 900000) : K123 b t = some ((b ++ be (t / 1000000000) 6 ++ be (t % 1000000000) 4, ()), (), ()) := by
 unfold K123 K123.gen
 rw [may_stamp h0 h1]
 simp only [oelim_some, Bool.not_true, cond_false]
 have e1 : iquo .i64 t 1000000000 = t / 1000000000 := by
  unfold iquo
  rw [Int.tdiv_eq_ediv_of_nonneg h0, iwrap]; omega
 have e2 : irem t 1000000000 = t % 1000000000 := by
  unfold irem
  rw [Int.tmod_eq_emod_of_nonneg h0]
 rw [e1, put6 b _ (by omega)]
 simp only [oelim_some]
 rw [e2, put4 _ _ (by rw [List.length_append, be_length]; omega)]
 rfl
theorem putI (b : List UInt8) (p : api_PortID) (h : b.length < 900000) : K74 b p = some ((b ++ be (IntKind.i64.wrap p.fClock) 8 ++ be p.fPort 2, ()), (), ()) := by
 unfold K74 K74.gen K99 K99.gen
 rw [put8 b _ (by omega)]
 simp only [oelim_some]
 rw [put2 _ _ (by rw [List.length_append, be_length]; omega)]
 rfl
abbrev bs (l : List UInt8) : ByteArray := ByteArray.mk l.toArray
theorem bs_data (l : List UInt8) : (bs l).data.toList = l := by show l.toArray.toList = l; simp
theorem bs_eta (s : ByteArray) : bs s.data.toList = s := by cases s; simp [bs]
theorem bs_ext {s t : ByteArray} (h : s.data.toList = t.data.toList) : s = t := by rw [← bs_eta s, ← bs_eta t, h]
theorem bs_size (l : List UInt8) : (bs l).size = l.length := by show l.toArray.size = _; simp
theorem bs_append (a b : List UInt8) : bs a ++ bs b = bs (a ++ b) := by
 apply bs_ext
 rw [ByteArray.data_append, Array.toList_append, bs_data, bs_data, bs_data]
abbrev api_PortID.z : api_PortID := api_PortID.mk 0 0
def msgH (ty ctl len dom fl co cl po sq lg : Int) : List UInt8 :=
 byteI ty :: UInt8.ofNat (Int.toNat 18) :: [] ++ be len 2 ++ be dom 1 ++ be 0 1 ++ be fl 2 ++ be co 8 ++ be 0 4 ++ be (IntKind.i64.wrap cl) 8 ++ be po 2 ++ be sq 2 ++ be ctl 1 ++ be lg 1
def msgS (st : Int) : List UInt8 := [] ++ be (st / 1000000000) 6 ++ be (st % 1000000000) 4
structure HdOk (dom fl co : Int) (src : api_PortID) (sq lg : Int) : Prop where
 d0 : 0 ≤ dom
 d1 : dom ≤ 255
 f0 : 0 ≤ fl
 f1 : fl ≤ 65535
 c0 : -9223372036854775808 ≤ co
 c1 : co < 9223372036854775808
 k0 : 0 ≤ src.fClock
 k1 : src.fClock < 18446744073709551616
 p0 : 0 ≤ src.fPort
 p1 : src.fPort ≤ 65535
 s0 : 0 ≤ sq
 s1 : sq ≤ 65535
 l0 : -128 ≤ lg
 l1 : lg ≤ 127
theorem hin_ok {v a b : Int} (h0 : a ≤ v) (h1 : v ≤ b) : K69 v a b = some ((true, ()), (), ()) := by
 unfold K69 K69.gen
 rw [ile_true h0, ile_true h1]; rfl
theorem Z1a {v a b : Int} (h0 : a ≤ v) (h1 : v ≤ b) : K4 v a b = some ((true, ()), (), ()) := by
 unfold K4 K4.gen
 rw [ile_true h0, ile_true h1]; rfl
theorem imay_ok {p : api_PortID} (h0 : 0 ≤ p.fPort) (h1 : p.fPort ≤ 65535) : K72 p = some ((true, ()), (), ()) := by
 unfold K72 K72.gen
 rw [ile_true h0, ile_true h1]; rfl
theorem hcheck_ok {m : api_Msg} (hk : K66 m.fType = some ((true, ()), (), ())) (h : HdOk m.fDomain m.fFlags m.fCorr m.fSource m.fSeq m.fLog) : K64 m = some ((true, ()), (), ()) := by
 unfold K64 K64.gen
 rw [hk, hin_ok h.d0 h.d1, hin_ok h.f0 h.f1, imay_ok h.p0 h.p1, hin_ok h.s0 h.s1, hin_ok h.l0 h.l1]
 rfl
theorem header_put {m : api_Msg} {len ctl : Int} (hk : K66 m.fType = some ((true, ()), (), ())) (hc : K68 m.fType = some ((ctl, ()), (), ())) (h : HdOk m.fDomain m.fFlags m.fCorr m.fSource m.fSeq m.fLog) (h0 : 34 ≤ len) (h1 : len ≤ 400) :
  K67 m len = some ((msgH m.fType ctl len m.fDomain m.fFlags m.fCorr m.fSource.fClock m.fSource.fPort m.fSeq m.fLog, (true, ())), (), ()) := by
 unfold K67 K67.gen
 rw [hcheck_ok hk h, hin_ok h0 h1]
 simp only [oelim_some, Bool.not_true, cond_false]
 rw [put2 _ _ (by simp)]
 simp only [oelim_some]
 rw [put1 _ _ (by simp [be_length])]
 simp only [oelim_some]
 rw [put1 _ _ (by simp [be_length])]
 simp only [oelim_some]
 rw [put2 _ _ (by simp [be_length])]
 simp only [oelim_some]
 rw [put8 _ _ (by simp [be_length])]
 simp only [oelim_some]
 rw [put4 _ _ (by simp [be_length])]
 simp only [oelim_some]
 rw [putI _ _ (by simp [be_length])]
 simp only [oelim_some]
 rw [put2 _ _ (by simp [be_length]), hc]
 simp only [oelim_some]
 rw [put1 _ _ (by simp [be_length])]
 simp only [oelim_some]
 rw [put1 _ _ (by simp [be_length])]
 rfl
theorem tlv_put_nil (b : List UInt8) : K138 b [] = some ((b, (true, ())), (), ()) := by
 have e3 : (bif le3 (ofN (0 : Nat)) (ofN b.length) b.length then ieq (ofN b.length) (ofN b.length) else false) = true := by
  simp [le3, ile, ieq]
 have e4 : List.drop (ofN (0 : Nat)).toNat (List.take (ofN b.length).toNat b) = b := by simp
 unfold K138 K138.gen
 simp only [e3, e4, cond_true]
 have h : K138.F0 ((b, b, [], ofN ([] : List api_Tlv).length, 0, ()), ()) = some (.inl ((b, ()), ())) := by
  unfold K138.F0
  refine loop_to (fun _ => ((b, b, [], ofN ([] : List api_Tlv).length, 0, ()), ())) 0 _ (by show 0 < 1000000 + _; omega) (fun i hi => absurd hi (Nat.not_lt_zero _)) ?_
  unfold K138.step0
  rw [ilt_false (show ¬ (0 : Int) < ofN ([] : List api_Tlv).length by decide)]
  rfl
 have h8 : ilt 8 (ofN ([] : List api_Tlv).length) = false := by decide
 rw [h8]
 simp only [cond_false]
 rw [h]
 rfl
def msgA (ty ctl dom fl co : Int) (src : api_PortID) (sq lg st : Int) : List UInt8 := msgH ty ctl 44 dom fl co src.fClock src.fPort sq lg ++ msgS st
abbrev msg0 (ty dom fl co : Int) (src : api_PortID) (sq lg st : Int) (tgt : api_PortID) : api_Msg := api_Msg.mk ty dom fl co src sq lg st tgt 0 0 (api_Quality.mk 0 0 0) 0 0 0 0 0 0 0
theorem put_A {ty ctl dom fl co sq lg st : Int} {src : api_PortID} (hty : (ty = 0 ∧ ctl = 0) ∨ (ty = 1 ∧ ctl = 1) ∨ (ty = 8 ∧ ctl = 2)) (h : HdOk dom fl co src sq lg) (ht : 0 ≤ st) (ht2 : st ≤ 4000000000000000) :
  K63 (msg0 ty dom fl co src sq lg st api_PortID.z) [] = some ((bs (msgA ty ctl dom fl co src sq lg st), (true, ())), (), ()) := by
 have hk : K66 ty = some ((true, ()), (), ()) := by rcases hty with ⟨rfl, rfl⟩ | ⟨rfl, rfl⟩ | ⟨rfl, rfl⟩ <;> kernel_rfl
 have hc : K68 ty = some ((ctl, ()), (), ()) := by rcases hty with ⟨rfl, rfl⟩ | ⟨rfl, rfl⟩ | ⟨rfl, rfl⟩ <;> kernel_rfl
 have hst : K6 ty = some ((true, ()), (), ()) := by rcases hty with ⟨rfl, rfl⟩ | ⟨rfl, rfl⟩ | ⟨rfl, rfl⟩ <;> kernel_rfl
 have htg : K7 ty = some ((false, ()), (), ()) := by rcases hty with ⟨rfl, rfl⟩ | ⟨rfl, rfl⟩ | ⟨rfl, rfl⟩ <;> kernel_rfl
 have n2 : ieq ty 2 = false := by rcases hty with ⟨rfl, rfl⟩ | ⟨rfl, rfl⟩ | ⟨rfl, rfl⟩ <;> rfl
 have n11 : ieq ty 11 = false := by rcases hty with ⟨rfl, rfl⟩ | ⟨rfl, rfl⟩ | ⟨rfl, rfl⟩ <;> rfl
 have n13 : ieq ty 13 = false := by rcases hty with ⟨rfl, rfl⟩ | ⟨rfl, rfl⟩ | ⟨rfl, rfl⟩ <;> rfl
 have hown : K5 (msg0 ty dom fl co src sq lg st api_PortID.z) = some ((msg0 ty dom fl co src sq lg st api_PortID.z, ()), (), ()) := by
  rcases hty with ⟨rfl, rfl⟩ | ⟨rfl, rfl⟩ | ⟨rfl, rfl⟩ <;> kernel_rfl
 have hq : K113 (api_Quality.mk 0 0 0) = some ((true, ()), (), ()) := by kernel_rfl
 have hchk : K0 (msg0 ty dom fl co src sq lg st api_PortID.z) = some ((true, ()), (), ()) := by
  unfold K0 K0.gen
  rw [hcheck_ok hk h, hown, may_stamp ht ht2, imay_ok (p := api_PortID.z) (by decide) (by decide), hq]
  simp only [oelim_some, ieq_self, cond_true, Z1a (show (-32768 : Int) ≤ 0 by decide) (show (0 : Int) ≤ 32767 by decide), Z1a (show (0 : Int) ≤ 0 by decide) (show (0 : Int) ≤ 255 by decide), Z1a (show (0 : Int) ≤ 0 by decide) (show (0 : Int) ≤ 65535 by decide), Z1a (show (0 : Int) ≤ 0 by decide) (show (0 : Int) ≤ 15 by decide)]
 have hb : K3 (lnil UInt8) (msg0 ty dom fl co src sq lg st api_PortID.z) = some ((msgS st, (true, ())), (), ()) := by
  unfold K3 K3.gen
  rw [hchk, hst]
  simp only [oelim_some, Bool.not_true, cond_false, cond_true, htg, n2, n11, n13]
  rw [putS _ ht ht2 (by simp)]
  rcases hty with ⟨rfl, rfl⟩ | ⟨rfl, rfl⟩ | ⟨rfl, rfl⟩ <;> kernel_rfl
 unfold K63 K63.gen
 rw [hb]
 simp only [oelim_some, Bool.not_true, cond_false]
 rw [tlv_put_nil]
 simp only [oelim_some, Bool.not_true, cond_false]
 rw [show iadd .i64 34 (ofN (msgS st).length) = 44 by kernel_rfl, header_put (len := 44) hk hc h (by decide) (by decide)]
 simp only [oelim_some, Bool.not_true, cond_false]
 rw [show Nat.ble ((bs (msgH ty ctl 44 dom fl co src.fClock src.fPort sq lg)).size + (bs (msgS st)).size) 9223372036854775807 = true by rw [bs_size, bs_size]; kernel_rfl]
 simp only [cond_true]
 show some ((bs _ ++ bs _, _), _) = _
 rw [bs_append]
 rfl
structure AnnOk (ut p1 : Int) (q : api_Quality) (p2 gr sp og : Int) : Prop where
 u0 : -32768 ≤ ut
 u1 : ut ≤ 32767
 a0 : 0 ≤ p1
 a1 : p1 ≤ 255
 q0 : 0 ≤ q.fClass
 q1 : q.fClass ≤ 255
 q2 : 0 ≤ q.fAccuracy
 q3 : q.fAccuracy ≤ 255
 q4 : 0 ≤ q.fVariance
 q5 : q.fVariance ≤ 65535
 b0 : 0 ≤ p2
 b1 : p2 ≤ 255
 g0 : 0 ≤ gr
 g1 : gr < 18446744073709551616
 s0 : 0 ≤ sp
 s1 : sp ≤ 65535
 o0 : 0 ≤ og
 o1 : og ≤ 255
def msgT (ut p1 : Int) (q : api_Quality) (p2 gr sp og : Int) : List UInt8 := be ut 2 ++ be 0 1 ++ be p1 1 ++ be q.fClass 1 ++ be q.fAccuracy 1 ++ be q.fVariance 2 ++ be p2 1 ++ be (IntKind.i64.wrap gr) 8 ++ be sp 2 ++ be og 1
abbrev msgAn (dom fl co : Int) (src : api_PortID) (sq lg st ut p1 : Int) (q : api_Quality) (p2 gr sp og : Int) : api_Msg := api_Msg.mk 11 dom fl co src sq lg st api_PortID.z ut p1 q p2 gr sp og 0 0 0
theorem qmay_ok {q : api_Quality} (h0 : 0 ≤ q.fClass) (h1 : q.fClass ≤ 255) (h2 : 0 ≤ q.fAccuracy) (h3 : q.fAccuracy ≤ 255) (h4 : 0 ≤ q.fVariance) (h5 : q.fVariance ≤ 65535) : K113 q = some ((true, ()), (), ()) := by
 unfold K113 K113.gen
 simp only [ile_true h0, ile_true h1, ile_true h2, ile_true h3, ile_true h4, ile_true h5, cond_true, oelim_some]
theorem putQ (b : List UInt8) (q : api_Quality) (h : b.length < 900000) : K114 b q = some ((b ++ be q.fClass 1 ++ be q.fAccuracy 1 ++ be q.fVariance 2, ()), (), ()) := by
 unfold K114 K114.gen
 rw [put1 b _ (by omega)]
 simp only [oelim_some]
 rw [put1 _ _ (by rw [List.length_append, be_length]; omega)]
 simp only [oelim_some]
 rw [put2 _ _ (by simp only [List.length_append, be_length]; omega)]
 rfl
def msgN (dom fl co : Int) (src : api_PortID) (sq lg st ut p1 : Int) (q : api_Quality) (p2 gr sp og : Int) : List UInt8 := msgH 11 5 64 dom fl co src.fClock src.fPort sq lg ++ (msgS st ++ msgT ut p1 q p2 gr sp og)
theorem put_N {dom fl co sq lg st ut p1 p2 gr sp og : Int} {src : api_PortID} {q : api_Quality} (ha : AnnOk ut p1 q p2 gr sp og) (h : HdOk dom fl co src sq lg) (ht : 0 ≤ st) (ht2 : st ≤ 4000000000000000) :
  K63 (msgAn dom fl co src sq lg st ut p1 q p2 gr sp og) [] = some ((bs (msgN dom fl co src sq lg st ut p1 q p2 gr sp og), (true, ())), (), ()) := by
 have hk : K66 11 = some ((true, ()), (), ()) := by kernel_rfl
 have hc : K68 11 = some ((5, ()), (), ()) := by kernel_rfl
 have hst : K6 11 = some ((true, ()), (), ()) := by kernel_rfl
 have htg : K7 11 = some ((false, ()), (), ()) := by kernel_rfl
 have n2 : ieq 11 2 = false := by rfl
 have n11 : ieq 11 11 = true := by rfl
 have n13 : ieq 11 13 = false := by rfl
 have hown : K5 (msgAn dom fl co src sq lg st ut p1 q p2 gr sp og) = some ((msgAn dom fl co src sq lg st ut p1 q p2 gr sp og, ()), (), ()) := by
  kernel_rfl
 have hq : K113 q = some ((true, ()), (), ()) := qmay_ok ha.q0 ha.q1 ha.q2 ha.q3 ha.q4 ha.q5
 have hchk : K0 (msgAn dom fl co src sq lg st ut p1 q p2 gr sp og) = some ((true, ()), (), ()) := by
  unfold K0 K0.gen
  rw [hcheck_ok hk h, hown, may_stamp ht ht2, imay_ok (p := api_PortID.z) (by decide) (by decide), hq]
  simp only [oelim_some, ieq_self, cond_true, Z1a ha.u0 ha.u1, Z1a ha.a0 ha.a1, Z1a ha.b0 ha.b1, Z1a ha.o0 ha.o1, Z1a ha.s0 ha.s1, Z1a (show (0 : Int) ≤ 0 by decide) (show (0 : Int) ≤ 255 by decide), Z1a (show (0 : Int) ≤ 0 by decide) (show (0 : Int) ≤ 65535 by decide), Z1a (show (0 : Int) ≤ 0 by decide) (show (0 : Int) ≤ 15 by decide)]
 have hb : K3 (lnil UInt8) (msgAn dom fl co src sq lg st ut p1 q p2 gr sp og) = some ((msgS st ++ msgT ut p1 q p2 gr sp og, (true, ())), (), ()) := by
  unfold K3 K3.gen
  rw [hchk, hst]
  simp only [oelim_some, Bool.not_true, cond_false, cond_true, htg, n2, n11, n13]
  rw [putS _ ht ht2 (by simp)]
  simp only [oelim_some, cond_false, cond_true, htg, n2, n11]
  rw [put2 _ _ (by simp [be_length])]
  simp only [oelim_some]
  rw [put1 _ _ (by simp [be_length])]
  simp only [oelim_some]
  rw [put1 _ _ (by simp [be_length])]
  simp only [oelim_some]
  rw [putQ _ _ (by simp [be_length])]
  simp only [oelim_some]
  rw [put1 _ _ (by simp [be_length])]
  unfold K99 K99.gen
  simp only [oelim_some]
  rw [put8 _ _ (by simp [be_length])]
  simp only [oelim_some]
  rw [put2 _ _ (by simp [be_length])]
  simp only [oelim_some]
  rw [put1 _ _ (by simp [be_length])]
  kernel_rfl
 unfold K63 K63.gen
 rw [hb]
 simp only [oelim_some, Bool.not_true, cond_false]
 rw [tlv_put_nil]
 simp only [oelim_some, Bool.not_true, cond_false]
 rw [show iadd .i64 34 (ofN (msgS st ++ msgT ut p1 q p2 gr sp og).length) = 64 by kernel_rfl, header_put (len := 64) hk hc h (by decide) (by decide)]
 simp only [oelim_some, Bool.not_true, cond_false]
 rw [show Nat.ble ((bs (msgH 11 5 64 dom fl co src.fClock src.fPort sq lg)).size + (bs (msgS st ++ msgT ut p1 q p2 gr sp og)).size) 9223372036854775807 = true by rw [bs_size, bs_size]; kernel_rfl]
 simp only [cond_true]
 show some ((bs _ ++ bs _, _), _) = _
 rw [bs_append]
 rfl
theorem place_spec (v n : Int) (hn : 0 < n) (hn2 : n ≤ 4611686018427387904) : K75 v n = some ((v % n, ()), (), ()) := by
 have h1 : ine n 0 = true := ine_true (by omega)
 have h2 := Int.emod_nonneg v (Int.ne_of_gt hn)
 have h3 := Int.emod_lt_of_pos v hn
 obtain ⟨h4, h5⟩ := tmod_place v n hn
 unfold K75 K75.gen
 rw [h1]
 simp only [cond_true, oelim_some]
 by_cases hc : v.tmod n < 0
 ·have e : iadd .i64 (irem v n) n = v % n := by
   have := h4 hc
   rw [iadd_of] <;> simp only [irem] <;> omega
  rw [show ilt (irem v n) 0 = true from ilt_true hc, e]; simp only [cond_true, oelim_some]
 ·rw [show ilt (irem v n) 0 = false from ilt_false hc, show irem v n = v % n from h5 hc]; simp only [cond_false, oelim_some]
theorem out_ok {n : Int} {m : api_Msg} {want : Bool} {K : clock_Clock} {b : ByteArray} (hp : K63 m [] = some ((b, (true, ())), (), ())) (ho : K.fouts.length < 1000) :
  K22 n m [] want K = some ((), (K.set_fouts (K.fouts ++ [api_Out.mk 1 n 0 want m.fType m.fSeq b]), ()), ()) := by
 unfold K22 K22.gen
 rw [hp]
 simp only [oelim_some, cond_true]
 rw [show room (K.fouts.length + (api_Out.mk 1 n 0 want m.fType m.fSeq b :: lnil api_Out).length) 64 = true from room_true (by show (K.fouts.length + 1) * 64 ≤ _; omega)]
 rfl
theorem now_ok {t : Int} (h0 : 0 ≤ t) (h1 : t ≤ 4000000000000000) : Z7 true 0 (Z7 false t 4000000000000000) = t := by
 simp only [Z7, cond_true, cond_false, imin, imax]
 split <;> split <;> omega
theorem fset_same {α : Type} (f : Nat → α) (i : Nat) (x : α) : fset f i x i = x := by simp [fset]
theorem path_nil {K : clock_Clock} {g12 : Fm (List (api_PortID × List Int))} (h : K.fconf.fTrace = false) : K23 K g12 = some (([], ()), (), ()) := by
 unfold K23 K23.gen
 rw [h]; rfl
theorem i_6_6 : ieq 6 6 = true := rfl
theorem ticks_3 : K124 (-3) = some ((1, ()), (), ()) := by kernel_rfl
theorem start_1 (t : timer_Timer) : K126 1 t = some ((), (timer_Timer.mk 1, ()), ()) := by kernel_rfl
theorem tick_1 : K128 (timer_Timer.mk 1) = some ((true, ()), (timer_Timer.mk 0, ()), ()) := by kernel_rfl
noncomputable def spoken (K : clock_Clock) (i : Nat) (n : Int) (ka ks : Int) (bA bS : ByteArray) : clock_Clock :=
  { K with fports := fset (fset (fset (fset (fset (fset K.fports i { K.fports i with fannounce := timer_Timer.mk 0 }) i { K.fports i with fannounce := timer_Timer.mk 0, fannounces := iand .i64 (iadd .i64 (iand .i64 ka 65535) 1) 65535 }) i { K.fports i with fannounce := timer_Timer.mk 1, fannounces := iand .i64 (iadd .i64 (iand .i64 ka 65535) 1) 65535 }) i { K.fports i with fannounce := timer_Timer.mk 1, fannounces := iand .i64 (iadd .i64 (iand .i64 ka 65535) 1) 65535, fsync := timer_Timer.mk 0 }) i { K.fports i with fannounce := timer_Timer.mk 1, fannounces := iand .i64 (iadd .i64 (iand .i64 ka 65535) 1) 65535, fsync := timer_Timer.mk 0, fsyncs := iand .i64 (iadd .i64 (iand .i64 ks 65535) 1) 65535 }) i { K.fports i with fannounce := timer_Timer.mk 1, fannounces := iand .i64 (iadd .i64 (iand .i64 ka 65535) 1) 65535, fsync := timer_Timer.mk 1, fsyncs := iand .i64 (iadd .i64 (iand .i64 ks 65535) 1) 65535 }
           fouts := (K.fouts ++ [api_Out.mk 1 n 0 false 11 ka bA]) ++ [api_Out.mk 1 n 0 (!K.fconf.fOneStep) 0 ks bS] }
theorem speak_master {K : clock_Clock} {g7 : Fm delay_Exchange} {g8 : Fm peer_Exchange} {g12 : Fm (List (api_PortID × List Int))} {n now : Int} {i : Nat} {bA bS : ByteArray} {ka ks : Int}
  (hs : K26 n K = some ((i, ()), (), ())) (h6 : (K.fports i).fstate = 6) (ha : (K.fports i).fannounce = timer_Timer.mk 1) (hy : (K.fports i).fsync = timer_Timer.mk 1)
  (hp : K.fconf.fPeer = false) (ht : K.fconf.fTrace = false) (hla : K.fconf.fLogAnn = -3) (hls : K.fconf.fLogSync = -3) (hka : (K.fports i).fannounces = ka) (hks : (K.fports i).fsyncs = ks) (ho : K.fouts.length < 500)
  (hA : K63 (msgAn K.fconf.fDomain K.fparent.fTimes.fFlags 0 (api_PortID.mk K.fconf.fClock n) ka (-3) 0 K.fparent.fTimes.fUtc K.fparent.fPriority1 K.fparent.fQuality K.fparent.fPriority2 K.fparent.fGrand K.fparent.fSteps K.fparent.fTimes.fOrigin) [] = some ((bA, (true, ())), (), ()))
  (hS : K63 (msg0 0 K.fconf.fDomain (bif K.fconf.fOneStep then 0 else 512) 0 (api_PortID.mk K.fconf.fClock n) ks (-3) (bif K.fconf.fOneStep then now else 0) api_PortID.z) [] = some ((bS, (true, ())), (), ())) :
  K27 n now K g7 g8 g12 = some ((), (spoken K i n ka ks bA bS, g7, g8, g12, ()), ()) := by
 unfold K27 K27.gen
 rw [hs]
 simp only [oelim_some, h6, i_6_6, cond_true, ha]
 rw [show K128 (timer_Timer.mk 1) = some ((true, ()), (timer_Timer.mk 0, ()), ()) by kernel_rfl]
 simp only [oelim_some, cond_true, fset_same]
 unfold K142 K142.gen
 simp only [oelim_some]
 rw [path_nil (by exact ht)]
 simp only [oelim_some, hla, hka]
 rw [out_ok hA (by show K.fouts.length < 1000; omega)]
 simp only [oelim_some, fset_same]
 unfold K117 K117.gen K10 K10.gen
 simp only [oelim_some, hla, hls, ticks_3, fset_same, h6, i_6_6, cond_true, hka, hy, start_1, tick_1]
 unfold K25 K25.gen
 simp only [oelim_some, hla, hls, hks, h6]
 cases hos : K.fconf.fOneStep with
 | true =>
  simp only [hos, cond_true] at hS
  simp only [oelim_some, hos, cond_true, Bool.not_true]
  rw [out_ok hS (by show (K.fouts ++ [_]).length < 1000; simp; omega)]
  simp only [oelim_some, hla, hls, ticks_3, fset_same, h6, start_1, hp, cond_false, hks]
  rw [show K108 6 = some ((false, ()), (), ()) by kernel_rfl]
  simp only [oelim_some, cond_false]
  unfold spoken
  rw [hos]
  rfl
 | false =>
  simp only [hos, cond_false] at hS
  simp only [oelim_some, hos, cond_false, Bool.not_false]
  rw [out_ok hS (by show (K.fouts ++ [_]).length < 1000; simp; omega)]
  simp only [oelim_some, hla, hls, ticks_3, fset_same, h6, start_1, hp, cond_false, hks]
  rw [show K108 6 = some ((false, ()), (), ()) by kernel_rfl]
  simp only [oelim_some, cond_false]
  unfold spoken
  rw [hos]
  rfl
abbrev Gs := (Fm foreign_Table) × (Fm delay_Exchange) × (Fm peer_Exchange) × (Fm median_Filter) × (Fm seq_Match) × (Fm (List (api_PortID × List Int))) × Unit
theorem tick_of {now : Int} {K K1 K2 K3 : clock_Clock} {g e f o : Gs} {u1 : Unit}
  (h0 : K28.F0 ((now, 1, ()), K.set_fticks (Z7 false (iadd .i64 K.fticks 1) 1099511627776), g) = some ((now, ()), K1, e))
  (h1 : K10 K1 = some ((1, ()), (), ()))
  (h2 : K15 K1 e.1 e.2.1 e.2.2.2.1 e.2.2.2.2.1 = some (u1, (K2, f.1, f.2.1, f.2.2.2.1, f.2.2.2.2.1, ()), ()))
  (h3 : K28.F1 ((now, 1, ()), K2, f.1, f.2.1, e.2.2.1, f.2.2.2.1, f.2.2.2.2.1, e.2.2.2.2.2.1, ()) = some ((), K3, o)) :
  K28 now K g.1 g.2.1 g.2.2.1 g.2.2.2.1 g.2.2.2.2.1 g.2.2.2.2.2.1 = some ((), (K3, o.1, o.2.1, o.2.2.1, o.2.2.2.1, o.2.2.2.2.1, o.2.2.2.2.2.1, ()), ()) := by
 unfold K28 K28.gen
 rw [show K28.F0 ((now, 1, ()), K.set_fticks (Z7 false (iadd .i64 K.fticks 1) 1099511627776), g.1, g.2.1, g.2.2.1, g.2.2.2.1, g.2.2.2.2.1, g.2.2.2.2.2.1, ()) = _ from h0]
 simp only [oelim_some, h1, show ine 1 0 = true from rfl, cond_true]
 have hr : irem K1.fticks 1 = 0 := by unfold irem; rw [Int.tmod_one]
 rw [hr]
 simp only [ieq_self, cond_true]
 rw [h2]
 simp only [oelim_some]
 rw [h3]
 rfl
noncomputable def spk (bA bS : Nat → ByteArray) : Nat → clock_Clock → clock_Clock
 | 0, K => K
 | j + 1, K => spoken (spk bA bS j K) j ((j + 1 : Nat) : Int) (K.fports j).fannounces (K.fports j).fsyncs (bA j) (bS j)
theorem fset_other {α : Type} (f : Nat → α) (i j : Nat) (x : α) (h : j ≠ i) : fset f i x j = f j := by simp [fset, h]
abbrev annOf (K : clock_Clock) (i : Nat) : api_Msg := msgAn K.fconf.fDomain K.fparent.fTimes.fFlags 0 (api_PortID.mk K.fconf.fClock ((i + 1 : Nat) : Int)) (K.fports i).fannounces (-3) 0 K.fparent.fTimes.fUtc K.fparent.fPriority1 K.fparent.fQuality K.fparent.fPriority2 K.fparent.fGrand K.fparent.fSteps K.fparent.fTimes.fOrigin
abbrev synOf (K : clock_Clock) (i : Nat) (now : Int) : api_Msg := msg0 0 K.fconf.fDomain (bif K.fconf.fOneStep then 0 else 512) 0 (api_PortID.mk K.fconf.fClock ((i + 1 : Nat) : Int)) (K.fports i).fsyncs (-3) (bif K.fconf.fOneStep then now else 0) api_PortID.z
theorem F0_step (now n : Int) (x : clock_Clock × Gs) : K28.step0 K26 K14 K10 K15 K27 ((now, n, ()), x) =
  match K28.step0 K26 K14 K10 K15 K27 ((0, n, ()), x) with
  | some (.inl a) => some (.inl ((now, a.1.2.1, ()), a.2))
  | some (.inr b) => some (.inr ((now, ()), b.2))
  | none => none := by
 unfold K28.step0
 simp only []
 cases ile n x.1.fconf.fPorts with
 | false => rfl
 | true =>
  simp only [cond_true]
  cases K26 n x.1 with
  | none => rfl
  | some r =>
   simp only [oelim_some]
   cases K14 r.1.1 x.1 x.2.1 x.2.2.2.2.2.2.1 with
   | none => rfl
   | some q => rfl
theorem F0_fix (now : Int) : ∀ (N : Nat) (n : Int) (x : clock_Clock × Gs), Za N (K28.step0 K26 K14 K10 K15 K27) ((now, n, ()), x) =
  (Za N (K28.step0 K26 K14 K10 K15 K27) ((0, n, ()), x)).map fun b => ((now, ()), b.2)
 | 0, n, x => rfl
 | N + 1, n, x => by
  unfold Za
  rw [F0_step now n x]
  cases K28.step0 K26 K14 K10 K15 K27 ((0, n, ()), x) with
  | none => rfl
  | some r =>
   cases r with
   | inr b => rfl
   | inl a =>
    have h := F0_fix a.1.1 N a.1.2.1 a.2
    have h' : Za N (K28.step0 K26 K14 K10 K15 K27) a = _ := h
    show Za N _ ((now, a.1.2.1, ()), a.2) = Option.map _ (Za N _ a)
    rw [h', F0_fix now N a.1.2.1 a.2]
    cases Za N (K28.step0 K26 K14 K10 K15 K27) ((0, a.1.2.1, ()), a.2) with
    | none => rfl
    | some b => rfl
theorem F0_now (now : Int) (x : clock_Clock × Gs) (y : clock_Clock × Gs) (z : Int × Unit) (h : K28.F0 ((0, 1, ()), x) = some (z, y)) : K28.F0 ((now, 1, ()), x) = some ((now, ()), y) := by
 unfold K28.F0 at h ⊢
 rw [F0_fix, h]; rfl
abbrev R1 := clock_Clock × Gs
noncomputable def mid (s : R1) : Option (clock_Clock × Gs × clock_Clock × Gs) :=
 match K28.F0 ((0, 1, ()), s.1.set_fticks (Z7 false (iadd .i64 s.1.fticks 1) 1099511627776), s.2) with
 | some (_, K1, e) =>
  match K15 K1 e.1 e.2.1 e.2.2.2.1 e.2.2.2.2.1 with
  | some (_, (K2, f), _) => some (K1, e, K2, (f.1, f.2.1, e.2.2.1, f.2.2.1, f.2.2.2.1, e.2.2.2.2.2.1, ()))
  | none => none
 | none => none
noncomputable def hdB (m : api_Msg) : Bool := decide (0 ≤ m.fDomain ∧ m.fDomain ≤ 255 ∧ 0 ≤ m.fFlags ∧ m.fFlags ≤ 65535 ∧ -9223372036854775808 ≤ m.fCorr ∧ m.fCorr < 9223372036854775808 ∧ 0 ≤ m.fSource.fClock ∧ m.fSource.fClock < 18446744073709551616 ∧ 0 ≤ m.fSource.fPort ∧ m.fSource.fPort ≤ 65535 ∧ 0 ≤ m.fSeq ∧ m.fSeq ≤ 65535 ∧ -128 ≤ m.fLog ∧ m.fLog ≤ 127)
noncomputable def anB (m : api_Msg) : Bool := decide (-32768 ≤ m.fUtc ∧ m.fUtc ≤ 32767 ∧ 0 ≤ m.fPriority1 ∧ m.fPriority1 ≤ 255 ∧ 0 ≤ m.fQuality.fClass ∧ m.fQuality.fClass ≤ 255 ∧ 0 ≤ m.fQuality.fAccuracy ∧ m.fQuality.fAccuracy ≤ 255 ∧ 0 ≤ m.fQuality.fVariance ∧ m.fQuality.fVariance ≤ 65535 ∧ 0 ≤ m.fPriority2 ∧ m.fPriority2 ≤ 255 ∧ 0 ≤ m.fGrand ∧ m.fGrand < 18446744073709551616 ∧ 0 ≤ m.fSteps ∧ m.fSteps ≤ 65535 ∧ 0 ≤ m.fOrigin ∧ m.fOrigin ≤ 255)
noncomputable def leadsB (p : Nat) (K : clock_Clock) : Bool :=
 decide (p ≤ 8) && decide (K.fconf.fPorts = (p : Int)) && !K.fconf.fPeer && !K.fconf.fTrace && decide (K.fconf.fLogAnn = -3) && decide (K.fconf.fLogSync = -3) && K.fouts.isEmpty && (List.range p).all fun i => decide ((K.fports i).fstate = 6) && decide ((K.fports i).fannounce.fleft = 1) && decide ((K.fports i).fsync.fleft = 1) && hdB (annOf K i) && anB (annOf K i) && hdB (synOf K i 0)
noncomputable def okAt (p : Nat) (s : R1) : Bool :=
 match mid s with
 | some (K1, _, K2, _) => decide (K1.fconf.fLogAnn = -3) && leadsB p K2 && s.1.fouts.isEmpty
 | none => false
theorem spoken_quiet (K : clock_Clock) (i : Nat) (n ka ks : Int) (bA bS : ByteArray) : (spoken K i n ka ks bA bS).set_fouts [] = (spoken (K.set_fouts []) i n ka ks ByteArray.empty ByteArray.empty).set_fouts [] := rfl
noncomputable def annB (K : clock_Clock) (i : Nat) : ByteArray := bs (msgN K.fconf.fDomain K.fparent.fTimes.fFlags 0 (api_PortID.mk K.fconf.fClock ((i + 1 : Nat) : Int)) (K.fports i).fannounces (-3) 0 K.fparent.fTimes.fUtc K.fparent.fPriority1 K.fparent.fQuality K.fparent.fPriority2 K.fparent.fGrand K.fparent.fSteps K.fparent.fTimes.fOrigin)
noncomputable def synB (K : clock_Clock) (now : Int) (i : Nat) : ByteArray := bs (msgA 0 0 K.fconf.fDomain (bif K.fconf.fOneStep then 0 else 512) 0 (api_PortID.mk K.fconf.fClock ((i + 1 : Nat) : Int)) (K.fports i).fsyncs (-3) (bif K.fconf.fOneStep then now else 0))
noncomputable def quiet (st : Int) : Bool := match K108 st with | some r => !r.1.1 | none => false
theorem quiet_of {st : Int} (h : quiet st = true) : K108 st = some ((false, ()), (), ()) := by
 unfold quiet at h
 split at h
 ·rename_i r hr
  obtain ⟨⟨b, u⟩, v, w⟩ := r
  rw [hr]
  have : b = false := by simpa using h
  subst this; rfl
 ·cases h
theorem speak_quiet {K : clock_Clock} {g7 : Fm delay_Exchange} {g8 : Fm peer_Exchange} {g12 : Fm (List (api_PortID × List Int))} {n now : Int} {i : Nat}
  (hs : K26 n K = some ((i, ()), (), ())) (h6 : ieq (K.fports i).fstate 6 = false) (hp : K.fconf.fPeer = false) (hq : quiet (K.fports i).fstate = true) :
  K27 n now K g7 g8 g12 = some ((), (K, g7, g8, g12, ()), ()) := by
 unfold K27 K27.gen
 rw [hs]
 simp only [oelim_some, h6, cond_false, quiet_of hq, hp]
noncomputable def spkS (bA bS : Nat → ByteArray) : Nat → clock_Clock → clock_Clock
 | 0, K => K
 | j + 1, K => bif ieq (K.fports j).fstate 6 then spoken (spkS bA bS j K) j ((j + 1 : Nat) : Int) (K.fports j).fannounces (K.fports j).fsyncs (bA j) (bS j) else spkS bA bS j K
theorem spkS_facts (bA bS : Nat → ByteArray) (K : clock_Clock) : ∀ j, (spkS bA bS j K).fconf = K.fconf ∧ (spkS bA bS j K).fparent = K.fparent ∧ (spkS bA bS j K).fouts.length ≤ K.fouts.length + 2 * j ∧ ∀ i, j ≤ i → (spkS bA bS j K).fports i = K.fports i
 | 0 => ⟨rfl, rfl, Nat.le_refl _, fun _ _ => rfl⟩
 | j + 1 => by
  obtain ⟨h1, h2, h3, h4⟩ := spkS_facts bA bS K j
  unfold spkS
  cases ieq (K.fports j).fstate 6 with
  | false => exact ⟨h1, h2, Nat.le_trans h3 (by omega), fun i hi => h4 i (by omega)⟩
  | true =>
   refine ⟨h1, h2, ?_, fun i hi => ?_⟩
   ·simp only [cond_true, spoken, List.length_append, List.length_cons, List.length_nil]
    omega
   ·have : i ≠ j := by omega
    simp only [cond_true, spoken, fset_other _ _ _ _ this]
    exact h4 i (by omega)
structure LeadsS (K : clock_Clock) (p : Nat) : Prop where
 p1 : p ≤ 8
 ports : K.fconf.fPorts = (p : Int)
 peer : K.fconf.fPeer = false
 trace : K.fconf.fTrace = false
 la : K.fconf.fLogAnn = -3
 ls : K.fconf.fLogSync = -3
 st : ∀ i, i < p → (ieq (K.fports i).fstate 6 = true ∧ (K.fports i).fannounce = timer_Timer.mk 1 ∧ (K.fports i).fsync = timer_Timer.mk 1) ∨ (ieq (K.fports i).fstate 6 = false ∧ quiet (K.fports i).fstate = true)
 outs : K.fouts = []
theorem ieq_ok {a b : Int} (h : ieq a b = true) : a = b := by unfold ieq at h; simpa using h
theorem speak_allS {K : clock_Clock} {p : Nat} {now : Int} {g : Gs} {bA bS : Nat → ByteArray} (hK : LeadsS K p) (hA : ∀ i, i < p → ieq (K.fports i).fstate 6 = true → K63 (annOf K i) [] = some ((bA i, (true, ())), (), ())) (hS : ∀ i, i < p → ieq (K.fports i).fstate 6 = true → K63 (synOf K i now) [] = some ((bS i, (true, ())), (), ())) :
  K28.F1 ((now, 1, ()), K, g) = some ((), spkS bA bS p K, g) := by
 have hp := hK.p1
 unfold K28.F1
 refine loop_to (step := K28.step1 _ _ _ _ _) (fun j => ((now, ((j + 1 : Nat) : Int), ()), spkS bA bS j K, g)) p _ (by omega) (fun j hj => ?_) ?_
 ·obtain ⟨h1, h2, h3, h4⟩ := spkS_facts bA bS K j
  have hsd : K26 ((j + 1 : Nat) : Int) (spkS bA bS j K) = some ((j, ()), (), ()) := by
   unfold K26 K26.gen
   have : isub .i64 ((j + 1 : Nat) : Int) 1 = (j : Int) := by rw [isub_of (by omega)]; omega
   rw [this, show inR (j : Int) 8 = true by rw [inR_nat]; simp; omega]
   rfl
  unfold K28.step1
  simp only []
  rw [show (spkS bA bS j K).fconf.fPorts = (p : Int) by rw [h1]; exact hK.ports, ile_true (show ((j + 1 : Nat) : Int) ≤ (p : Int) by omega)]
  simp only [cond_true]
  rcases hK.st j hj with hj' | hj'
  ·have e6 := hj'.1
   rw [← h4 j (Nat.le_refl _)] at hj'
   rw [speak_master (K := spkS bA bS j K) (i := j) (bA := bA j) (bS := bS j) (ka := (K.fports j).fannounces) (ks := (K.fports j).fsyncs) hsd (ieq_ok hj'.1) hj'.2.1 hj'.2.2 (by rw [h1]; exact hK.peer) (by rw [h1]; exact hK.trace) (by rw [h1]; exact hK.la) (by rw [h1]; exact hK.ls) (by rw [h4 j (Nat.le_refl _)]) (by rw [h4 j (Nat.le_refl _)]) (by rw [hK.outs] at h3; simp at h3; omega) (by rw [h1, h2]; exact hA j hj e6) (by rw [h1]; exact hS j hj e6)]
   simp only [oelim_some]
   rw [iinc (show j + 1 < 4611686018427387904 by omega)]
   rw [show spkS bA bS (j + 1) K = spoken (spkS bA bS j K) j ((j + 1 : Nat) : Int) (K.fports j).fannounces (K.fports j).fsyncs (bA j) (bS j) by rw [spkS, e6]; rfl]
  ·have e6 := hj'.1
   rw [← h4 j (Nat.le_refl _)] at hj'
   rw [speak_quiet (K := spkS bA bS j K) (i := j) hsd hj'.1 (by rw [h1]; exact hK.peer) hj'.2]
   simp only [oelim_some]
   rw [iinc (show j + 1 < 4611686018427387904 by omega)]
   rw [show spkS bA bS (j + 1) K = spkS bA bS j K by rw [spkS, e6]; rfl]
 ·obtain ⟨h1, h2, h3, h4⟩ := spkS_facts bA bS K p
  unfold K28.step1
  simp only []
  rw [show (spkS bA bS p K).fconf.fPorts = (p : Int) by rw [h1]; exact hK.ports, ile_false (show ¬ ((p + 1 : Nat) : Int) ≤ (p : Int) by omega)]
  rfl
noncomputable def saidS (K : clock_Clock) (bA bS : Nat → ByteArray) : Nat → List api_Out
 | 0 => []
 | j + 1 => bif ieq (K.fports j).fstate 6 then saidS K bA bS j ++ [api_Out.mk 1 ((j + 1 : Nat) : Int) 0 false 11 (K.fports j).fannounces (bA j)] ++ [api_Out.mk 1 ((j + 1 : Nat) : Int) 0 (!K.fconf.fOneStep) 0 (K.fports j).fsyncs (bS j)] else saidS K bA bS j
theorem spkS_outs (bA bS : Nat → ByteArray) (K : clock_Clock) : ∀ j, (spkS bA bS j K).fouts = K.fouts ++ saidS K bA bS j
 | 0 => by simp [spkS, saidS]
 | j + 1 => by
  obtain ⟨h1, _⟩ := spkS_facts bA bS K j
  unfold spkS saidS
  cases ieq (K.fports j).fstate 6 with
  | false => exact spkS_outs bA bS K j
  | true => simp only [cond_true, spoken, spkS_outs bA bS K j, h1, List.append_assoc]
theorem spkS_quiet (bA bS bA' bS' : Nat → ByteArray) (K : clock_Clock) : ∀ j, (spkS bA bS j K).set_fouts [] = (spkS bA' bS' j K).set_fouts []
 | 0 => rfl
 | j + 1 => by
  unfold spkS
  cases ieq (K.fports j).fstate 6 with
  | false => exact spkS_quiet bA bS bA' bS' K j
  | true =>
   simp only [cond_true]
   rw [spoken_quiet, spkS_quiet bA bS bA' bS' K j, ← spoken_quiet]
noncomputable def hdC (m : api_Msg) : Bool := decide (0 ≤ m.fDomain ∧ m.fDomain ≤ 255 ∧ 0 ≤ m.fFlags ∧ m.fFlags ≤ 65535 ∧ 0 ≤ m.fSource.fPort ∧ m.fSource.fPort ≤ 65535 ∧ 0 ≤ m.fSeq ∧ m.fSeq ≤ 65535)
noncomputable def anC (m : api_Msg) : Bool := decide (-32768 ≤ m.fUtc ∧ m.fUtc ≤ 32767 ∧ 0 ≤ m.fPriority1 ∧ m.fPriority1 ≤ 255 ∧ 0 ≤ m.fQuality.fClass ∧ m.fQuality.fClass ≤ 255 ∧ 0 ≤ m.fQuality.fAccuracy ∧ m.fQuality.fAccuracy ≤ 255 ∧ 0 ≤ m.fQuality.fVariance ∧ m.fQuality.fVariance ≤ 65535 ∧ 0 ≤ m.fPriority2 ∧ m.fPriority2 ≤ 255 ∧ 0 ≤ m.fSteps ∧ m.fSteps ≤ 0 ∧ 0 ≤ m.fOrigin ∧ m.fOrigin ≤ 255)
noncomputable def leadsS (p : Nat) (K : clock_Clock) : Bool :=
 decide (p ≤ 8) && decide (K.fconf.fPorts = (p : Int)) && !K.fconf.fPeer && !K.fconf.fTrace && decide (K.fconf.fLogAnn = -3) && decide (K.fconf.fLogSync = -3) && K.fouts.isEmpty && (List.range p).all fun i => bif ieq (K.fports i).fstate 6 then decide ((K.fports i).fannounce.fleft = 1) && decide ((K.fports i).fsync.fleft = 1) && hdC (annOf K i) && anC (annOf K i) && hdC (synOf K i 0) else quiet (K.fports i).fstate
theorem leadsS_of {p : Nat} {K : clock_Clock} (h : leadsS p K = true) : LeadsS K p ∧ ∀ i, i < p → ieq (K.fports i).fstate 6 = true → hdC (annOf K i) = true ∧ anC (annOf K i) = true ∧ hdC (synOf K i 0) = true := by
 unfold leadsS at h
 simp only [Bool.and_eq_true, decide_eq_true_eq, Bool.not_eq_true', List.all_eq_true, List.mem_range, List.isEmpty_iff] at h
 obtain ⟨⟨⟨⟨⟨⟨⟨h1, h2⟩, h3⟩, h4⟩, h5⟩, h6⟩, h7⟩, h8⟩ := h
 refine ⟨⟨h1, h2, h3, h4, h5, h6, fun i hi => ?_, h7⟩, fun i hi e6 => ?_⟩
 ·have h9 := h8 i hi
  cases e6 : ieq (K.fports i).fstate 6 with
  | false => rw [e6] at h9; exact .inr ⟨rfl, h9⟩
  | true =>
   rw [e6] at h9
   simp only [cond_true, Bool.and_eq_true, decide_eq_true_eq] at h9
   obtain ⟨⟨⟨⟨a2, a3⟩, a4⟩, a5⟩, a6⟩ := h9
   refine .inl ⟨rfl, ?_, ?_⟩
   ·revert a2
    generalize (K.fports i).fannounce = x
    intro a2
    cases x; cases a2; rfl
   ·revert a3
    generalize (K.fports i).fsync = x
    intro a3
    cases x; cases a3; rfl
 ·have h9 := h8 i hi
  rw [e6] at h9
  simp only [cond_true, Bool.and_eq_true, decide_eq_true_eq] at h9
  exact ⟨h9.1.1.2, h9.1.2, h9.2⟩
structure IdOk (K : clock_Clock) : Prop where
 c0 : 0 ≤ K.fconf.fClock
 c1 : K.fconf.fClock < 18446744073709551616
 g0 : 0 ≤ K.fparent.fGrand
 g1 : K.fparent.fGrand < 18446744073709551616
theorem hdC_ann {K : clock_Clock} {i : Nat} (h : hdC (annOf K i) = true) (hI : IdOk K) : HdOk K.fconf.fDomain K.fparent.fTimes.fFlags 0 (api_PortID.mk K.fconf.fClock ((i + 1 : Nat) : Int)) (K.fports i).fannounces (-3) := by
 have h := of_decide_eq_true h
 exact ⟨h.1, h.2.1, h.2.2.1, h.2.2.2.1, by decide, by decide, hI.c0, hI.c1, h.2.2.2.2.1, h.2.2.2.2.2.1, h.2.2.2.2.2.2.1, h.2.2.2.2.2.2.2, by decide, by decide⟩
theorem hdC_syn {K : clock_Clock} {i : Nat} (h : hdC (synOf K i 0) = true) (hI : IdOk K) : HdOk K.fconf.fDomain (bif K.fconf.fOneStep then 0 else 512) 0 (api_PortID.mk K.fconf.fClock ((i + 1 : Nat) : Int)) (K.fports i).fsyncs (-3) := by
 have h := of_decide_eq_true h
 exact ⟨h.1, h.2.1, h.2.2.1, h.2.2.2.1, by decide, by decide, hI.c0, hI.c1, h.2.2.2.2.1, h.2.2.2.2.2.1, h.2.2.2.2.2.2.1, h.2.2.2.2.2.2.2, by decide, by decide⟩
theorem anC_ann {K : clock_Clock} {i : Nat} (h : anC (annOf K i) = true) (hI : IdOk K) : AnnOk K.fparent.fTimes.fUtc K.fparent.fPriority1 K.fparent.fQuality K.fparent.fPriority2 K.fparent.fGrand K.fparent.fSteps K.fparent.fTimes.fOrigin := by
 have h := of_decide_eq_true h
 exact ⟨h.1, h.2.1, h.2.2.1, h.2.2.2.1, h.2.2.2.2.1, h.2.2.2.2.2.1, h.2.2.2.2.2.2.1, h.2.2.2.2.2.2.2.1, h.2.2.2.2.2.2.2.2.1, h.2.2.2.2.2.2.2.2.2.1, h.2.2.2.2.2.2.2.2.2.2.1, h.2.2.2.2.2.2.2.2.2.2.2.1, hI.g0, hI.g1, h.2.2.2.2.2.2.2.2.2.2.2.2.1, by have := h.2.2.2.2.2.2.2.2.2.2.2.2.2.1; simp only at this; omega, h.2.2.2.2.2.2.2.2.2.2.2.2.2.2.1, h.2.2.2.2.2.2.2.2.2.2.2.2.2.2.2⟩
theorem step_S {p : Nat} {s : R1} {K K1 K2 : clock_Clock} {e f : Gs} {g5 : Fm servo_Servo} {t a0 a1 a2 : Int} {b : ByteArray} {c : api_Conf} (hK : K.set_fouts [] = s.1) (hm : mid s = some (K1, e, K2, f)) (hla : K1.fconf.fLogAnn = -3) (hl : leadsS p K2 = true) (hI : IdOk K2) (h0 : 0 ≤ t) (h1 : t ≤ 4000000000000000) :
  K9 (api_Event.mk 1 a0 t a1 a2 b c) K g5 s.2.1 s.2.2.1 s.2.2.2.1 s.2.2.2.2.1 s.2.2.2.2.2.1 s.2.2.2.2.2.2.1 = some ((saidS K2 (annB K2) (synB K2 t) p, ()), (spkS (annB K2) (synB K2 t) p K2, g5, f.1, f.2.1, f.2.2.1, f.2.2.2.1, f.2.2.2.2.1, f.2.2.2.2.2.1, ()), ()) := by
 obtain ⟨hL, hR⟩ := leadsS_of hl
 unfold mid at hm
 split at hm
 ·rename_i z K1' e' h00
  split at hm
  ·rename_i u K2' f' w hd
   cases hm
   have hF1 := speak_allS (now := t) (g := (f'.1, f'.2.1, e.2.2.1, f'.2.2.1, f'.2.2.2.1, e.2.2.2.2.2.1, ())) (bA := annB K2) (bS := synB K2 t) hL (fun i hi e6 => put_N (anC_ann (hR i hi e6).2.1 hI) (hdC_ann (hR i hi e6).1 hI) (by decide) (by decide))
    (fun i hi e6 => put_A (.inl ⟨rfl, rfl⟩) (hdC_syn (hR i hi e6).2.2 hI) (by cases K2.fconf.fOneStep <;> simp [h0]) (by cases K2.fconf.fOneStep <;> simp [h1]))
   have ht := tick_of (now := t) (K := s.1) (K1 := K1) (K2 := K2) (g := s.2) (e := e) (f := (f'.1, f'.2.1, e.2.2.1, f'.2.2.1, f'.2.2.2.1, e.2.2.2.2.2.1, ())) (F0_now t _ _ z h00)
    (by unfold K10 K10.gen; rw [hla]; rfl) hd hF1
   unfold K9 K9.gen
   simp only [show ieq 1 1 = true from rfl, cond_true, now_ok h0 h1]
   rw [show clock_Clock.set_fouts K (lnil api_Out) = s.1 from hK]
   rw [ht]
   simp only [oelim_some, spkS_outs, hL.outs]
   rfl
  ·cases hm
 ·cases hm
abbrev MidF := R1 → Option (clock_Clock × Gs × clock_Clock × Gs)
noncomputable def okM (M : MidF) (p : Nat) (s : R1) : Bool :=
 match M s with
 | some (K1, _, K2, _) => decide (K1.fconf.fLogAnn = -3) && leadsS p K2
 | none => false
noncomputable def nxM (M : MidF) (p : Nat) (s : R1) : R1 :=
 match M s with
 | some (_, _, K2, f) => ((spkS (fun _ => ByteArray.empty) (fun _ => ByteArray.empty) p K2).set_fouts [], f)
 | none => s
noncomputable def itM (M : MidF) (p : Nat) : Nat → R1 → R1
 | 0, s => s
 | k + 1, s => nxM M p (itM M p k s)
noncomputable def outM (M : MidF) (p : Nat) (s : R1) : List api_Out :=
 match M s with
 | some (_, _, K2, _) => saidS K2 (annB K2) (synB K2 1000) p
 | none => []
noncomputable def outsM (M : MidF) (p : Nat) : Nat → R1 → List api_Out
 | 0, _ => []
 | k + 1, s => outsM M p k s ++ outM M p (itM M p k s)
noncomputable def clkM (M : MidF) (p : Nat) (s : R1) (K : clock_Clock) : Nat → clock_Clock
 | 0 => K
 | k + 1 => match M (itM M p k s) with
  | some (_, _, K2, _) => spkS (annB K2) (synB K2 1000) p K2
  | none => K
theorem saidS_len (K : clock_Clock) (bA bS : Nat → ByteArray) : ∀ j, (saidS K bA bS j).length ≤ 2 * j
 | 0 => Nat.le_refl _
 | j + 1 => by
  have := saidS_len K bA bS j
  unfold saidS
  cases ieq (K.fports j).fstate 6 with
  | false => exact Nat.le_trans this (by omega)
  | true => simp only [cond_true, List.length_append, List.length_cons, List.length_nil]; omega
theorem outM_len (M : MidF) (p : Nat) (s : R1) : (outM M p s).length ≤ 2 * p := by
 unfold outM
 split
 ·exact saidS_len _ _ _ p
 ·exact Nat.zero_le _
theorem outsM_len (M : MidF) (p : Nat) (s : R1) : ∀ k, (outsM M p k s).length ≤ 2 * p * k
 | 0 => Nat.zero_le _
 | k + 1 => by
  have h1 := outsM_len M p s k
  have h2 := outM_len M p (itM M p k s)
  unfold outsM
  rw [List.length_append, Nat.mul_add]
  omega
theorem ticks_M {M : MidF} {p n : Nat} {s : R1} {g5 : Fm servo_Servo} {K : clock_Clock} (hn : n ≤ 1000) (hmid : ∀ i, i < n → mid (itM M p i s) = M (itM M p i s)) (hok : ∀ i, i < n → okM M p (itM M p i s) = true)
  (hid : ∀ i, i < n → ∀ K1 e K2 f, M (itM M p i s) = some (K1, e, K2, f) → IdOk K2) (hK : K.set_fouts [] = s.1) :
  K81 (n : Int) K g5 s.2.1 s.2.2.1 s.2.2.2.1 s.2.2.2.2.1 s.2.2.2.2.2.1 s.2.2.2.2.2.2.1 = some ((outsM M p n s, ()), (clkM M p s K n, g5, (itM M p n s).2.1, (itM M p n s).2.2.1, (itM M p n s).2.2.2.1, (itM M p n s).2.2.2.2.1, (itM M p n s).2.2.2.2.2.1, (itM M p n s).2.2.2.2.2.2.1, ()), ())
  ∧ (clkM M p s K n).set_fouts [] = (itM M p n s).1 := by
 have key : ∀ j, j ≤ n → (clkM M p s K j).set_fouts [] = (itM M p j s).1 := fun j hj => by
  cases j with
  | zero => exact hK
  | succ j =>
   have h1 := hok j (by omega)
   unfold okM at h1
   cases hm : M (itM M p j s) with
   | none => rw [hm] at h1; cases h1
   | some r =>
    obtain ⟨K1, e, K2, f⟩ := r
    simp only [clkM, itM, nxM, hm]
    exact spkS_quiet _ _ _ _ _ _
 refine ⟨?_, key n (Nat.le_refl _)⟩
 unfold K81 K81.gen
 have : K81.F0 (((n : Int), lnil api_Out, (0 : Int), ()), K, g5, s.2.1, s.2.2.1, s.2.2.2.1, s.2.2.2.2.1, s.2.2.2.2.2.1, s.2.2.2.2.2.2.1, ()) = some ((outsM M p n s, ()), clkM M p s K n, g5, (itM M p n s).2.1, (itM M p n s).2.2.1, (itM M p n s).2.2.2.1, (itM M p n s).2.2.2.2.1, (itM M p n s).2.2.2.2.2.1, (itM M p n s).2.2.2.2.2.2.1, ()) := by
  unfold K81.F0
  refine loop_to (step := K81.step0 K9) (fun j => (((n : Int), outsM M p j s, (j : Int), ()), clkM M p s K j, g5, (itM M p j s).2.1, (itM M p j s).2.2.1, (itM M p j s).2.2.2.1, (itM M p j s).2.2.2.2.1, (itM M p j s).2.2.2.2.2.1, (itM M p j s).2.2.2.2.2.2.1, ())) n _ (by omega) (fun j hj => ?_) ?_
  ·have h1 := hok j hj
   have h2 := hmid j hj
   have h3 := hid j hj
   unfold okM at h1
   cases hm : M (itM M p j s) with
   | none => rw [hm] at h1; cases h1
   | some r =>
    obtain ⟨K1, e, K2, f⟩ := r
    rw [hm] at h1 h2
    simp only [Bool.and_eq_true, decide_eq_true_eq] at h1
    have hst := step_S (p := p) (s := itM M p j s) (K := clkM M p s K j) (g5 := g5) (t := 1000) (a0 := 0) (a1 := 0) (a2 := 0) (b := ByteArray.mk (List.toArray (lnil UInt8))) (c := api_Conf.mk 0 0 0 0 0 (api_Quality.mk 0 0 0) false 0 0 0 0 false false 0 0 0 0 (api_Times.mk 0 0 0) false) (key j (by omega)) h2 h1.1 h1.2 (h3 K1 e K2 f hm) (by decide) (by decide)
    unfold K81.step0
    simp only []
    rw [ilt_true (show (j : Int) < (n : Int) by omega), hst]
    simp only [cond_true, oelim_some]
    have hp8 : p ≤ 8 := (leadsS_of h1.2).1.p1
    have hlen := outsM_len M p s j
    have hlen2 := saidS_len K2 (annB K2) (synB K2 1000) p
    have hb : 2 * p * j ≤ 16 * 1000 := Nat.mul_le_mul (by omega) (by omega)
    rw [show room ((outsM M p j s).length + (saidS K2 (annB K2) (synB K2 1000) p).length) 64 = true by unfold room; exact Nat.ble_eq_true_of_le (by omega)]
    simp only [cond_true, oelim_some]
    rw [iinc (show j < 4611686018427387904 by omega)]
    simp only [outsM, outM, itM, nxM, clkM, hm]
  ·unfold K81.step0
   simp only []
   rw [ilt_false (show ¬ (n : Int) < (n : Int) by omega)]
   rfl
 rw [this]
 rfl
theorem itM_nxM (M : MidF) (p : Nat) : ∀ (k : Nat) (s : R1), itM M p k (nxM M p s) = nxM M p (itM M p k s)
 | 0, _ => rfl
 | k + 1, s => by rw [itM, itM_nxM M p k s, itM]
theorem outsM_mem {M : MidF} {p : Nat} {s : R1} {x : api_Out} : ∀ {n : Nat}, x ∈ outsM M p n s → ∃ i, i < n ∧ x ∈ outM M p (itM M p i s)
 | 0, h => by cases h
 | n + 1, h => by
  unfold outsM at h
  rcases List.mem_append.1 h with h | h
  ·obtain ⟨i, h1, h2⟩ := outsM_mem h
   exact ⟨i, by omega, h2⟩
  ·exact ⟨n, by omega, h⟩
abbrev NT := (Fm clock_Clock) × (Fm servo_Servo) × Gs
abbrev TT := (List api_Out × Unit) × (clock_Clock × (Fm servo_Servo) × Gs) × Unit
noncomputable def aftS (r : TT) : R1 := (r.2.1.1.set_fouts [], r.2.1.2.2)
abbrev cf0 : api_Conf := api_Conf.mk 0 0 0 0 0 (api_Quality.mk 0 0 0) false 0 0 0 0 false false 0 0 0 0 (api_Times.mk 0 0 0) false
noncomputable def tellS (id P Q : Int) (g5 : Fm servo_Servo) (s : R1) : Option TT :=
 oelim (K80 (api_PortID.mk 9 1) (api_PortID.mk 50 P) 0 3 id (ByteArray.mk (List.toArray (lnil UInt8))) 0) none fun r1 => K9 (api_Event.mk 2 Q 6 0 0 r1.1.1 cf0) s.1 g5 s.2.1 s.2.2.1 s.2.2.2.1 s.2.2.2.2.1 s.2.2.2.2.2.1 s.2.2.2.2.2.2.1
noncomputable def idB (K : clock_Clock) : Bool := decide (0 ≤ K.fconf.fClock) && decide (K.fconf.fClock < 18446744073709551616) && decide (0 ≤ K.fparent.fGrand) && decide (K.fparent.fGrand < 18446744073709551616)
noncomputable def okI (p : Nat) (s : R1) : Bool := okM mid p s && (match mid s with | some (_, _, K2, _) => idB K2 | none => false)
noncomputable def chainI (p : Nat) : Nat → R1 → Bool
 | 0, _ => true
 | k + 1, s => okI p s && chainI p k (nxM mid p s)
noncomputable def stB (s : R1) (j : Nat) (v : Int) : Bool := ieq (s.1.fports j).fstate v && ieq s.1.fconf.fPorts 3
noncomputable def enB (j : Nat) (P Q : Int) (g5 : Fm servo_Servo) (s : R1) : Bool :=
 match tellS 8205 P Q g5 s with
 | some r => Nat.beq r.1.1.length 1 && stB (aftS r) j 1 && chainI 3 6 (aftS r) && stB (itM mid 3 6 (aftS r)) j 6
 | none => false
noncomputable def chainD (j k : Nat) (P Q : Int) (g5 : Fm servo_Servo) : Nat → R1 → Bool
 | 0, _ => true
 | n + 1, s => okI 3 s && (match mid s with | some (_, _, K2, _) => !(ieq (K2.fports j).fstate 6) && ieq (K2.fports k).fstate 6 | none => false) && stB (nxM mid 3 s) j 3 && stB (nxM mid 3 s) k 6 && enB j P Q g5 (nxM mid 3 s) && chainD j k P Q g5 n (nxM mid 3 s)
noncomputable def disB (N : NT) (j k n : Nat) (P Q : Int) : Bool :=
 chainI 3 8 ((N.1.2 0).set_fouts [], N.2.2) && (match tellS 8206 P Q N.2.1 (itM mid 3 8 ((N.1.2 0).set_fouts [], N.2.2)) with
 | some r => Nat.beq r.1.1.length 1 && stB (aftS r) j 3 && chainD j k P Q r.2.1.2.1 n (aftS r)
 | none => false)
noncomputable def fr3 := K79 50 3 e0_ e6_ e2_ e1_ e4_ e3_ e5_ (0, fun _ => [])
theorem fr3_some : fr3.isSome = true := by kernel_rfl
noncomputable def nD : NT := (fr3.get fr3_some).2.1
theorem fr3_eq : fr3 = some ((some 0, ()), nD, ()) := by kernel_rfl
theorem dis_0 : disB nD 0 1 20 1 2 = true := by kernel_rfl
theorem dis_1 : disB nD 1 2 20 2 3 = true := by kernel_rfl
theorem dis_2 : disB nD 2 0 20 3 1 = true := by kernel_rfl
theorem awake_true : K78.A = some () := by kernel_rfl
theorem step_outs (e : api_Event) (K : clock_Clock) (g5 : Fm servo_Servo) (g6 : Fm foreign_Table) (g7 : Fm delay_Exchange) (g8 : Fm peer_Exchange) (g9 : Fm median_Filter) (g10 : Fm seq_Match) (g12 : Fm (List (api_PortID × List Int))) :
  K9 e K g5 g6 g7 g8 g9 g10 g12 = K9 e (K.set_fouts []) g5 g6 g7 g8 g9 g10 g12 := rfl
theorem tell_of {id P Q : Int} {g5 : Fm servo_Servo} {s : R1} {r : TT} {G : Fm clock_Clock} (h : tellS id P Q g5 s = some r) (hG : (G.2 0).set_fouts [] = s.1) :
  K77 id (some 0) Q P G g5 s.2.1 s.2.2.1 s.2.2.2.1 s.2.2.2.2.1 s.2.2.2.2.2.1 s.2.2.2.2.2.2.1 = some ((ofN r.1.1.length, ()), (some 0, Q, P, (G.1, fset G.2 0 r.2.1.1), r.2.1.2.1, r.2.1.2.2.1, r.2.1.2.2.2.1, r.2.1.2.2.2.2.1, r.2.1.2.2.2.2.2.1, r.2.1.2.2.2.2.2.2.1, r.2.1.2.2.2.2.2.2.2.1, ()), ()) := by
 unfold K77 K77.gen
 unfold tellS at h
 simp only [oelim_some]
 cases hm : K80 (api_PortID.mk 9 1) (api_PortID.mk 50 P) 0 3 id (ByteArray.mk (List.toArray (lnil UInt8))) 0 with
 | none => rw [hm] at h; cases h
 | some r1 =>
  rw [hm] at h
  simp only [oelim_some] at h ⊢
  rw [step_outs, hG, h]
  rfl
theorem state_of {s : R1} {j : Nat} {v n : Int} {K : clock_Clock} (h : stB s j v = true) (hn : n = ((j + 1 : Nat) : Int)) (hj : j < 3) (hK : K.set_fouts [] = s.1) : K8 n K = some ((v, ()), (), ()) := by
 unfold stB at h
 rw [Bool.and_eq_true] at h
 have h1 := ieq_ok h.1
 have h2 := ieq_ok h.2
 rw [← hK] at h1 h2
 have h1 : (K.fports j).fstate = v := h1
 have h2 : K.fconf.fPorts = 3 := h2
 subst hn
 unfold K8 K8.gen K21 K21.gen K26 K26.gen
 rw [h2]
 rw [show isub .i64 ((j + 1 : Nat) : Int) 1 = (j : Int) by rw [isub_of (by omega)]; omega, show inR (j : Int) 8 = true by rw [inR_nat]; simp; omega]
 rw [ilt_false (show ¬ ((j + 1 : Nat) : Int) < 1 by omega), ilt_false (show ¬ (3 : Int) < ((j + 1 : Nat) : Int) by omega)]
 simp only [cond_false, cond_true, oelim_some, Int.toNat_natCast, h1]
theorem saidS_port {K : clock_Clock} {bA bS : Nat → ByteArray} : ∀ {q : Nat} {x : api_Out}, x ∈ saidS K bA bS q → ∃ i, i < q ∧ x.fPort = ((i + 1 : Nat) : Int) ∧ ieq (K.fports i).fstate 6 = true
 | 0, x, h => by cases h
 | q + 1, x, h => by
  unfold saidS at h
  cases e6 : ieq (K.fports q).fstate 6 with
  | false =>
   rw [e6] at h
   obtain ⟨i, h1, h2⟩ := saidS_port h
   exact ⟨i, by omega, h2⟩
  | true =>
   rw [e6] at h
   simp only [cond_true, List.mem_append, List.mem_singleton] at h
   rcases h with (h | h) | h
   ·obtain ⟨i, h1, h2⟩ := saidS_port h
    exact ⟨i, by omega, h2⟩
   ·subst h; exact ⟨q, by omega, rfl, e6⟩
   ·subst h; exact ⟨q, by omega, rfl, e6⟩
theorem saidS_pos {K : clock_Clock} {bA bS : Nat → ByteArray} {k : Nat} (h6 : ieq (K.fports k).fstate 6 = true) : ∀ {q : Nat}, k < q → 0 < (saidS K bA bS q).length
 | 0, h => absurd h (Nat.not_lt_zero _)
 | q + 1, h => by
  unfold saidS
  by_cases e : k = q
  ·subst e
   rw [h6]; simp
  ·have := saidS_pos h6 (show k < q by omega) (bA := bA) (bS := bS)
   cases ieq (K.fports q).fstate 6 with
   | false => exact this
   | true => simp
theorem okI_of {p : Nat} {s : R1} (h : okI p s = true) : okM mid p s = true ∧ ∀ K1 e K2 f, mid s = some (K1, e, K2, f) → IdOk K2 := by
 unfold okI at h
 rw [Bool.and_eq_true] at h
 refine ⟨h.1, fun K1 e K2 f hm => ?_⟩
 have h2 := h.2
 rw [hm] at h2
 unfold idB at h2
 simp only [Bool.and_eq_true, decide_eq_true_eq] at h2
 exact ⟨h2.1.1.1, h2.1.1.2, h2.1.2, h2.2⟩
theorem chainI_at {p : Nat} : ∀ (n : Nat) {s : R1}, chainI p n s = true → ∀ i, i < n → okI p (itM mid p i s) = true
 | 0, _, _, i, hi => absurd hi (Nat.not_lt_zero _)
 | n + 1, s, h, i, hi => by
  unfold chainI at h
  simp only [Bool.and_eq_true] at h
  cases i with
  | zero => exact h.1
  | succ i =>
   have := chainI_at n h.2 i (by omega)
   rw [itM_nxM] at this
   exact this
theorem chainD_at {j k : Nat} {P Q : Int} {g5 : Fm servo_Servo} : ∀ (n : Nat) {s : R1}, chainD j k P Q g5 n s = true → ∀ i, i < n →
  okI 3 (itM mid 3 i s) = true ∧ (∀ K1 e K2 f, mid (itM mid 3 i s) = some (K1, e, K2, f) → ieq (K2.fports j).fstate 6 = false ∧ ieq (K2.fports k).fstate 6 = true) ∧ stB (itM mid 3 (i + 1) s) j 3 = true ∧ stB (itM mid 3 (i + 1) s) k 6 = true ∧ enB j P Q g5 (itM mid 3 (i + 1) s) = true
 | 0, _, _, i, hi => absurd hi (Nat.not_lt_zero _)
 | n + 1, s, h, i, hi => by
  unfold chainD at h
  simp only [Bool.and_eq_true] at h
  obtain ⟨⟨⟨⟨⟨h1, h2⟩, h3⟩, h4⟩, h5⟩, h6⟩ := h
  cases i with
  | zero =>
   refine ⟨h1, fun K1 e K2 f hm => ?_, h3, h4, h5⟩
   have hm : mid s = some (K1, e, K2, f) := hm
   rw [hm] at h2
   simpa using h2
  | succ i =>
   have := chainD_at n h6 i (by omega)
   rw [itM_nxM, itM_nxM] at this
   exact this
theorem ticks_I {p n : Nat} {s : R1} {g5 : Fm servo_Servo} {K : clock_Clock} (hn : n ≤ 1000) (hok : ∀ i, i < n → okI p (itM mid p i s) = true) (hK : K.set_fouts [] = s.1) :
  K81 (n : Int) K g5 s.2.1 s.2.2.1 s.2.2.2.1 s.2.2.2.2.1 s.2.2.2.2.2.1 s.2.2.2.2.2.2.1 = some ((outsM mid p n s, ()), (clkM mid p s K n, g5, (itM mid p n s).2.1, (itM mid p n s).2.2.1, (itM mid p n s).2.2.2.1, (itM mid p n s).2.2.2.2.1, (itM mid p n s).2.2.2.2.2.1, (itM mid p n s).2.2.2.2.2.2.1, ()), ())
  ∧ (clkM mid p s K n).set_fouts [] = (itM mid p n s).1 :=
 ticks_M hn (fun _ _ => rfl) (fun i hi => (okI_of (hok i hi)).1) (fun i hi => (okI_of (hok i hi)).2) hK
theorem disF0 {l : List api_Out} {k : Option Nat} {P Q : Int} {y : (Fm clock_Clock) × (Fm servo_Servo) × Gs} (h : ∀ x ∈ l, x.fPort ≠ P) (hl : l.length < 4611686018427387904) : K76.F0 ((l, 0, ()), k, P, Q, y) = some (.inl ((l, ()), k, P, Q, y)) := by
 unfold K76.F0
 refine loop_to (step := K76.step0 _ _ _ _ _ _) (fun j => ((l, (j : Int), ()), k, P, Q, y)) l.length _ (by simp only []; omega) (fun j hj => ?_) ?_
 ·unfold K76.step0
  simp only []
  rw [ilt_nat, inR_nat]
  simp only [hj, decide_true, cond_true, Int.toNat_natCast]
  rw [getD_at hj, ieq_false (h _ (List.getElem_mem hj))]
  simp only [cond_false]
  rw [iinc (by omega)]
 ·unfold K76.step0
  simp only []
  rw [ilt_nat]
  simp
theorem dis_end (which n : Int) (N : NT) (hF : K79 50 3 e0_ e6_ e2_ e1_ e4_ e3_ e5_ (0, fun _ => []) = some ((some 0, ()), N, ()))
  (j k : Nat) (hj : j < 3) (hk : k < 3) (hw : which % 3 = (j : Int)) (hq : irem (iadd .i64 1 (j : Int)) 3 = (k : Int)) (hB : disB N j k 20 ((j + 1 : Nat) : Int) ((k + 1 : Nat) : Int) = true) :
  ∃ y, K76 which n e0_ e6_ e2_ e1_ e4_ e3_ e5_ (0, fun _ => []) = some ((true, ()), y, ()) := by
 unfold disB at hB
 rw [Bool.and_eq_true] at hB
 obtain ⟨hB1, hB2⟩ := hB
 obtain ⟨hT8, hK8⟩ := ticks_I (p := 3) (n := 8) (s := ((N.1.2 0).set_fouts [], N.2.2)) (g5 := N.2.1) (K := N.1.2 0) (by decide) (chainI_at 8 hB1) rfl
 generalize h8 : itM mid 3 8 ((N.1.2 0).set_fouts [], N.2.2) = s8 at *
 generalize hc8 : clkM mid 3 ((N.1.2 0).set_fouts [], N.2.2) (N.1.2 0) 8 = K8 at *
 generalize ho8 : outsM mid 3 8 ((N.1.2 0).set_fouts [], N.2.2) = o8 at *
 cases htd : tellS 8206 ((j + 1 : Nat) : Int) ((k + 1 : Nat) : Int) N.2.1 s8 with
 | none => rw [htd] at hB2; cases hB2
 | some rd =>
  rw [htd] at hB2
  simp only [Bool.and_eq_true] at hB2
  obtain ⟨⟨hlen, hst3⟩, hD⟩ := hB2
  have hD := chainD_at 20 hD
  obtain ⟨m, hm⟩ : ∃ m : Nat, n % 20 = (m : Int) := ⟨(n % 20).toNat, by omega⟩
  have hm20 : m < 20 := by omega
  have hp1 : iadd .i64 1 (j : Int) = ((j + 1 : Nat) : Int) := by rw [iadd_of (by omega)]; omega
  have hq1 : iadd .i64 1 (k : Int) = ((k + 1 : Nat) : Int) := by rw [iadd_of (by omega)]; omega
  have hcl := tell_of (G := (N.1.1, fset N.1.2 0 K8)) htd (by show (fset N.1.2 0 K8 0).set_fouts [] = _; rw [fset_same]; exact hK8)
  have hl1 : rd.1.1.length = 1 := nbeq hlen
  unfold K76 K76.gen
  rw [hF]
  simp only [oelim_some]
  rw [show K81 8 (N.1.2 0) N.2.1 N.2.2.1 N.2.2.2.1 N.2.2.2.2.1 N.2.2.2.2.2.1 N.2.2.2.2.2.2.1 N.2.2.2.2.2.2.2.1 = _ from hT8, place_spec which 3 (by decide) (by decide), hw]
  simp only [oelim_some, hp1, hq, hq1]
  rw [← hp1, hq, hp1, hq1, hcl]
  have hfs : ∀ (f : Nat → clock_Clock) (K : clock_Clock), fset f 0 K 0 = K := fun f K => fset_same _ _ _
  simp only [oelim_some, hl1, show ine (ofN 1) 1 = false from rfl, cond_false, hfs]
  rw [state_of hst3 (n := ((j + 1 : Nat) : Int)) rfl hj (K := rd.2.1.1) rfl]
  simp only [oelim_some, ine_self, cond_false, hfs]
  rw [place_spec n 20 (by decide) (by decide), hm]
  simp only [oelim_some]
  rw [show iadd .i64 1 (m : Int) = ((m + 1 : Nat) : Int) by rw [iadd_of (by omega)]; omega]
  obtain ⟨hTm, hKm⟩ := ticks_I (p := 3) (n := m + 1) (s := aftS rd) (g5 := rd.2.1.2.1) (K := rd.2.1.1) (by omega) (fun i hi => (hD i (by omega)).1) rfl
  rw [show K81 ((m + 1 : Nat) : Int) rd.2.1.1 rd.2.1.2.1 rd.2.1.2.2.1 rd.2.1.2.2.2.1 rd.2.1.2.2.2.2.1 rd.2.1.2.2.2.2.2.1 rd.2.1.2.2.2.2.2.2.1 rd.2.1.2.2.2.2.2.2.2.1 = _ from hTm]
  simp only [oelim_some]
  obtain ⟨-, -, hs3, hs6, hen⟩ := hD m hm20
  rw [disF0 (l := outsM mid 3 (m + 1) (aftS rd)) (fun x hx => by
   obtain ⟨i, hi, hx⟩ := outsM_mem hx
   have hDi := hD i (by omega)
   unfold outM at hx
   split at hx
   ·rename_i K1 e K2 f hmd
    obtain ⟨i', h1, h2, h3⟩ := saidS_port hx
    have h4 := (hDi.2.1 K1 e K2 f hmd).1
    rw [h2]
    intro he
    have : i' = j := by omega
    subst this
    rw [h4] at h3; cases h3
   ·cases hx) (by have := outsM_len mid 3 (aftS rd) (m + 1); have h2 : 2 * 3 * (m + 1) ≤ 6 * 21 := Nat.mul_le_mul (Nat.le_refl _) (by omega); omega)]
  simp only [oelim_some, selim, hfs]
  rw [state_of hs3 (n := ((j + 1 : Nat) : Int)) rfl hj (K := clkM mid 3 (aftS rd) rd.2.1.1 (m + 1)) hKm]
  simp only [oelim_some, ine_self, cond_false, hfs]
  rw [state_of hs6 (n := ((k + 1 : Nat) : Int)) rfl hk (K := clkM mid 3 (aftS rd) rd.2.1.1 (m + 1)) hKm]
  simp only [oelim_some, ine_self, cond_false]
  have hne : ieq (ofN (outsM mid 3 (m + 1) (aftS rd)).length) 0 = false := by
   refine ieq_false ?_
   have h1 : 0 < (outM mid 3 (itM mid 3 0 (aftS rd))).length := by
    have h0 := hD 0 (by decide)
    have hok := (okI_of h0.1).1
    unfold okM at hok
    unfold outM
    cases hmd : mid (itM mid 3 0 (aftS rd)) with
    | none => rw [hmd] at hok; cases hok
    | some r =>
     obtain ⟨K1, e, K2, f⟩ := r
     have h4 := (h0.2.1 K1 e K2 f hmd).2
     exact saidS_pos h4 (by omega)
   have h2 : ∀ q, 0 < (outsM mid 3 (q + 1) (aftS rd)).length := fun q => by
    induction q with
    | zero => unfold outsM outsM; simpa using h1
    | succ q ih => unfold outsM; rw [List.length_append]; omega
   have := h2 m
   unfold ofN
   omega
  rw [hne]
  simp only [cond_false]
  unfold enB at hen
  split at hen
  ·rename_i re hte
   simp only [Bool.and_eq_true] at hen
   obtain ⟨⟨⟨hlen', hst1⟩, hch⟩, hst6⟩ := hen
   have hcl2 := tell_of (G := (N.1.1, fset (fset (fset N.1.2 0 K8) 0 rd.2.1.1) 0 (clkM mid 3 (aftS rd) rd.2.1.1 (m + 1)))) hte (by simp only [hfs]; exact hKm)
   have hl2 : re.1.1.length = 1 := nbeq hlen'
   rw [hcl2]
   simp only [oelim_some, hl2, show ine (ofN 1) 1 = false from rfl, cond_false, hfs]
   rw [state_of hst1 (n := ((j + 1 : Nat) : Int)) rfl hj (K := re.2.1.1) rfl]
   simp only [oelim_some, ine_self, cond_false, hfs]
   obtain ⟨hT6, hK6⟩ := ticks_I (p := 3) (n := 6) (s := aftS re) (g5 := re.2.1.2.1) (K := re.2.1.1) (by decide) (chainI_at 6 hch) rfl
   rw [show K81 6 re.2.1.1 re.2.1.2.1 re.2.1.2.2.1 re.2.1.2.2.2.1 re.2.1.2.2.2.2.1 re.2.1.2.2.2.2.2.1 re.2.1.2.2.2.2.2.2.1 re.2.1.2.2.2.2.2.2.2.1 = _ from hT6]
   simp only [oelim_some, hfs]
   rw [state_of hst6 (n := ((j + 1 : Nat) : Int)) rfl hj (K := clkM mid 3 (aftS re) re.2.1.1 6) hK6, awake_true]
   simp only [oelim_some, ieq_self, cond_true]
   exact ⟨_, rfl⟩
  ·cases hen
theorem K76.law : ∀ (which : Int) (n : Int), (Lit.int .i64 which).wf = true → (Lit.int .i64 n).wf = true → ∃ y, K76 which n e0_ e6_ e2_ e1_ e4_ e3_ e5_ (0, fun _ => []) = some ((true, ()), y, ()) := by
 intro which n _ _
 obtain ⟨j, hj⟩ : ∃ j : Nat, which % 3 = (j : Int) := ⟨(which % 3).toNat, by omega⟩
 have hj3 : j < 3 := by omega
 match j, hj3 with
 | 0, _ => exact dis_end which n nD fr3_eq 0 1 (by decide) (by decide) hj rfl dis_0
 | 1, _ => exact dis_end which n nD fr3_eq 1 2 (by decide) (by decide) hj rfl dis_1
 | 2, _ => exact dis_end which n nD fr3_eq 2 0 (by decide) (by decide) hj rfl dis_2
end Go.Proofs.YtgnabnhggaondaaGreat
