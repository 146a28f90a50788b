/- Typed forms of the functions that these statements reach, proved equal to what the model runs, and laws over them. -/
import Derived.Test.YtgnabnhggaondaaGreatSa
namespace Go.Proofs.YtgnabnhggaondaaGreat
open Go.Rf
set_option linter.unusedVariables false
set_option linter.unusedSimpArgs false
set_option maxRecDepth 100000
noncomputable section
def K18.sig : Sig U := ⟨[.ptr, .eptr 0 23 42 8, .data .t_api_Msg, .int .i64], [.obj .t_clock_Clock, fm5_, fm7_, fm8_, fm9_, fm10_], 0, [], true, []⟩
abbrev K18.T : Type := (Nat) → (api_Msg) → (Int) → (clock_Clock) → (Fm servo_Servo) → (Fm delay_Exchange) → (Fm peer_Exchange) → (Fm median_Filter) → (Fm seq_Match) → Option (Unit × (clock_Clock × qT5_) × Unit)
def K18.W (f : K18.T) : K18.sig.F := fun a x => f a.2.1 a.2.2.1 a.2.2.2.1 x.1 x.2.1 x.2.2.1 x.2.2.2.1 x.2.2.2.2.1 x.2.2.2.2.2.1
def K18.JR6 : Exits U := [(.normal, ⟨62, 15, [(0, .ptr 13 0 0), (1, .aptr 13 23 42 8 0), (8, vi_), (10, .ptr 14 0 0)], (13, .obj .t_clock_Clock) :: (14, .obj .t_clock_known) :: hT2_⟩)]
def K18.JR5 : Exits U := [(.normal, ⟨62, 14, [(0, .ptr 13 0 0), (1, .aptr 13 23 42 8 0), (8, vi_)], (13, .obj .t_clock_Clock) :: hT2_⟩)]
def K18.JR1 : Exits U := [(.normal, ⟨62, 15, [(0, .ptr 13 0 0), (1, .aptr 13 23 42 8 0), (6, .ptr 14 0 0), (8, vi_), (9, vb_)], (13, .obj .t_clock_Clock) :: (14, .obj .t_api_Msg) :: hT2_⟩)]
def K18.JC3 : Exits U := [(.normal, ⟨62, 14, [(0, .ptr 13 0 0), (1, .aptr 13 23 42 8 0), (8, vi_), (9, vb_)], (13, .obj .t_clock_Clock) :: hT2_⟩)]
def K18.H (cK119 : K119.T) (cK118 : K118.T) (cK26 : K26.T) : Hints U := { Γ := (addΓ 150 (K26.sig.native (K26.W cK26)) (addΓ 149 (K118.sig.native (K118.W cK118)) (addΓ 148 (K119.sig.native (K119.W cK119)) noΓ))), ro := 0, base := 14, joinR := jt_ [(1, K18.JR1), (5, K18.JR5), (6, K18.JR6)], joinC := jt_ [(3, K18.JC3), (8, K18.JR6)] }
def K18.gen (cK119 : K119.T) (cK118 : K118.T) (cK26 : K26.T) : K18.T := fun p m now h0 g5 g7 g8 g9 g10 =>
 (oelim ((oelim ((h0.fports p).12) none fun r0 => (oelim (cK119 m now (g10.2 r0)) none fun r1 => some ((p, r1.1), (h0, (m, (g5, (g7, (g8, (g9, ((g10.1, fset g10.2 r0 r1.2.1.1), ()))))))))))) none fun r2 => (oelim ((bif ieq r2.2.2.1.fType 8 then (oelim ((r2.2.1.fports r2.1.1).12) none fun r3 => (oelim (cK118 r2.2.2.1 (r2.2.2.2.2.2.2.2.1.2 r3)) none fun r4 => some ((r2.1.1, r4.1), (r2.2.1, (r2.2.2.2.1, (r2.2.2.2.2.1, (r2.2.2.2.2.2.1, (r2.2.2.2.2.2.2.1, ((r2.2.2.2.2.2.2.2.1.1, fset r2.2.2.2.2.2.2.2.1.2 r3 r4.2.1.1), ()))))))))) else some (r2.1, (r2.2.1, r2.2.2.2)))) none fun r5 => (bif !r5.1.2.2.1 then some ((), (r5.2, ())) else (oelim ((bif r5.2.1.fconf.fPeer then some ((r5.1.1, (r5.1.2.1, ())), (clock_Clock.set_fports r5.2.1 (fset r5.2.1.fports r5.1.1 (clock_side.set_fdiff (r5.2.1.fports r5.1.1) (clock_known.mk r5.1.2.1 true))), ((fset r5.2.1.fports r5.1.1 (clock_side.set_fdiff (r5.2.1.fports r5.1.1) (clock_known.mk r5.1.2.1 true)) r5.1.1).fneighbour, r5.2.2))) else some ((r5.1.1, (r5.1.2.1, ())), (clock_Clock.set_fports r5.2.1 (fset r5.2.1.fports r5.1.1 (clock_side.set_fdiff (r5.2.1.fports r5.1.1) (clock_known.mk r5.1.2.1 true))), (r5.2.1.fdelay, r5.2.2))))) none fun r6 => (bif r6.2.2.1.fis then (oelim (cK26 r6.1.1 (isub .i64 r6.1.2.1 r6.2.2.1.fv) r6.2.1 r6.2.2.2.1 r6.2.2.2.2.1 r6.2.2.2.2.2.1 r6.2.2.2.2.2.2.1 r6.2.2.2.2.2.2.2.1) none fun r7 => some ((), r7.2)) else some ((), ((r6.2.1, r6.2.2.2), ())))))))
def K18 : K18.T := K18.gen K119 K118 K26
theorem K18.eq (cK119 : K119.T) (cK118 : K118.T) (cK26 : K26.T) : EqA K18.sig (K18.H cK119 cK118 cK26) Tryz.f77 6 (K18.W (K18.gen cK119 cK118 cK26)) := by intro a x; kernel_rfl
theorem K18.ok : NK_ 77 K18.sig (K18.W K18) := ok_ Tryz.func77 (K18.eq K119 K118 K26) (hn_ (Z0 (Z0 (Z0 Z2 K119.ok) K118.ok) K26.ok))
def K51.sig : Sig U := ⟨[.data .t_api_Msg, .data .t_api_PortID, .int .i64, .int .i64], [], 0, [.data .t_api_Msg, .bool], true, []⟩
abbrev K51.T : Type := (api_Msg) → (api_PortID) → (Int) → (Int) → Option ((api_Msg × Bool × Unit) × Unit × Unit)
def K51.W (f : K51.T) : K51.sig.F := fun a x => f a.1 a.2.1 a.2.2.1 a.2.2.2.1
def K51.H (cK133 : K133.T) : Hints U := { Γ := (K133.N cK133 noΓ), ro := 0, base := 13, joinQ := jt_ [(1, [(17, vb_)])] }
def K51.gen (cK133 : K133.T) : K51.T := fun m self at_2 log =>
 (oelim ((bif ine m.fType 1 then some (true, ()) else (oelim (cK133 at_2) none fun r0 => some (!r0.1.1, ())))) none fun r1 => (bif r1.1 then some ((api_Msg.mk 0 0 0 0 z0_ 0 0 0 z0_ 0 0 z1_ 0 0 0 0 0 0 0, (false, ())), ((), ())) else some ((api_Msg.mk 9 m.fDomain 0 m.fCorr self m.fSeq log at_2 m.fSource 0 0 z1_ 0 0 0 0 0 0 0, (true, ())), ((), ()))))
def K51 : K51.T := K51.gen K133
theorem K51.eq (cK133 : K133.T) : EqA K51.sig (K51.H cK133) Tryz.f78 6 (K51.W (K51.gen cK133)) := by intro a x; kernel_rfl
theorem K51.ok : NK_ 78 K51.sig (K51.W K51) := ok_ Tryz.func78 (K51.eq K133) (hn_ (Z0 Z2 K133.ok))
def K54.sig : Sig U := ⟨[.ptr, .data .t_api_Msg], [.obj .t_delay_Exchange], 0, [.int .i64, .bool], true, []⟩
abbrev K54.T : Type := (api_Msg) → (delay_Exchange) → Option ((Int × Bool × Unit) × (delay_Exchange × Unit) × Unit)
def K54.W (f : K54.T) : K54.sig.F := fun a x => f a.2.1 x.1
def K54.H (cK131 : K131.T) (cK52 : K52.T) : Hints U := { Γ := (K52.N cK52 (K131.N cK131 noΓ)), ro := 0, base := 14, joinQ := jt_ [(1, [(36, vb_)])] }
def K54.gen (cK131 : K131.T) (cK52 : K52.T) : K54.T := fun m h0 =>
 (oelim ((bif ine m.fType 9 then some (true, ()) else (bif !bif ieq m.fTarget.fClock h0.fself.fClock then bif ieq m.fTarget.fPort h0.fself.fPort then true else false else false then some (true, ()) else (bif !h0.fr.fsent then some (true, ()) else some (ine m.fSeq h0.fr.fseq, ()))))) none fun r0 => (bif r0.1 then some (((0 : Int), (false, ())), ((h0, ()), ())) else (oelim (cK131 m.fCorr) none fun r1 => (oelim (cK52 h0) none fun r2 => some ((isub .i64 (isub .i64 m.fStamp h0.fr.fat) r1.1.1, (true, ())), r2.2)))))
def K54 : K54.T := K54.gen K131 K52
theorem K54.eq (cK131 : K131.T) (cK52 : K52.T) : EqA K54.sig (K54.H cK131 cK52) Tryz.f152 6 (K54.W (K54.gen cK131 cK52)) := by intro a x; kernel_rfl
theorem K54.ok : NK_ 152 K54.sig (K54.W K54) := ok_ Tryz.func152 (K54.eq K131 K52) (hn_ (Z0 (Z0 Z2 K131.ok) K52.ok))
def K99.sig : Sig U := ⟨[.int .i64, .int .i64], [], 0, [.cpx, .bool], true, []⟩
abbrev K99.T : Type := (Int) → (Int) → Option ((((Nat × Nat)) × Bool × Unit) × Unit × Unit)
def K99.W (f : K99.T) : K99.sig.F := fun a x => f a.1 a.2.1
def K99.H : Hints U := { Γ := noΓ, ro := 0, base := 13, joinQ := jt_ [(1, [(19, vb_)])] }
def K99.gen : K99.T := fun a b =>
 (oelim ((bif ilt a (-4000000000000000) then some (true, ()) else (bif ilt 4000000000000000 a then some (true, ()) else (bif ilt b (-4000000000000000) then some (true, ()) else some (ilt 4000000000000000 b, ()))))) none fun r0 => (bif r0.1 then some (((0, 0), (false, ())), ((), ())) else some (((Go.floatOfInt Go.FloatKind.f64 a, Go.floatOfInt Go.FloatKind.f64 b), (true, ())), ((), ()))))
def K99 : K99.T := K99.gen
theorem K99.ok : NK_ 153 K99.sig (K99.W K99) := ok_ (H := K99.H) (n := 6) Tryz.func153 (by intro a x; kernel_rfl) (hn_ Z2)
def K86.sig : Sig U := ⟨[.flt], [], 0, [.flt], false, []⟩
abbrev K86.T : Type := (Nat) → Option ((Nat × Unit) × Unit × Unit)
def K86.W (f : K86.T) : K86.sig.F := fun a x => f a.1
def K86.H : Hints U := { Γ := (addΓ 222 Z5c noΓ), ro := 0, base := 13 }
def K86.gen : K86.T := fun x_0 =>
 (oelim ((Z2l (x_0))) none fun r0 => some ((r0, ()), ((), ())))
def K86 : K86.T := K86.gen
theorem K86.ok : NK_ 220 K86.sig (K86.W K86) := ok_ (H := K86.H) (n := 6) Tryz.func220 (by intro a x; kernel_rfl) (hn_ (Z0 Z2 (Z7H Tryz.func222 rfl (by kernel_rfl) (by kernel_rfl) (by kernel_rfl))))
def K85.sig : Sig U := ⟨[.flt], [], 0, [.bool], false, []⟩
abbrev K85.T : Type := (Nat) → Option ((Bool × Unit) × Unit × Unit)
def K85.W (f : K85.T) : K85.sig.F := fun a x => f a.1
def K85.H : Hints U := { Γ := (addΓ 224 Z3D noΓ), ro := 0, base := 13 }
def K85.gen : K85.T := fun x_0 =>
 some ((ilt (IntKind.wrap .i64 (ofN x_0)) 0, ()), ((), ()))
def K85 : K85.T := K85.gen
theorem K85.ok : NK_ 221 K85.sig (K85.W K85) := ok_ (H := K85.H) (n := 6) Tryz.func221 (by intro a x; kernel_rfl) (hn_ (Z0 Z2 (Z6A Tryz.func224 rfl (by kernel_rfl) (by kernel_rfl) (by kernel_rfl))))
def K102.sig : Sig U := ⟨[.flt], [], 0, [.bool], false, []⟩
abbrev K102.T : Type := (Nat) → Option ((Bool × Unit) × Unit × Unit)
def K102.W (f : K102.T) : K102.sig.F := fun a x => f a.1
def K102.H (cK86 : K86.T) (cK85 : K85.T) : Hints U := { Γ := (addΓ 221 (K85.sig.native (K85.W cK85)) (addΓ 220 (K86.sig.native (K86.W cK86)) noΓ)), ro := 0, base := 13 }
def K102.gen (cK86 : K86.T) (cK85 : K85.T) : K102.T := fun f =>
 (bif Ieee.Format.order (Go.FloatKind.format Go.FloatKind.f64) f 14063734437023318016 == some Ordering.gt || Ieee.Format.order (Go.FloatKind.format Go.FloatKind.f64) f 14063734437023318016 == some Ordering.eq then (bif Ieee.Format.order (Go.FloatKind.format Go.FloatKind.f64) f 4840362400168542208 == some Ordering.lt || Ieee.Format.order (Go.FloatKind.format Go.FloatKind.f64) f 4840362400168542208 == some Ordering.eq then (oelim (cK86 f) none fun r0 => (bif Ieee.Format.order (Go.FloatKind.format Go.FloatKind.f64) f r0.1.1 == some Ordering.eq then (bif Ieee.Format.order (Go.FloatKind.format Go.FloatKind.f64) f 0 != some Ordering.eq then some ((true, ()), ((), ())) else (oelim (cK85 f) none fun r1 => some ((!r1.1.1, ()), ((), ())))) else some ((false, ()), ((), ())))) else some ((false, ()), ((), ()))) else some ((false, ()), ((), ())))
def K102 : K102.T := K102.gen K86 K85
theorem K102.eq (cK86 : K86.T) (cK85 : K85.T) : EqA K102.sig (K102.H cK86 cK85) Tryz.f214 6 (K102.W (K102.gen cK86 cK85)) := by intro a x; kernel_rfl
theorem K102.ok : NK_ 214 K102.sig (K102.W K102) := ok_ Tryz.func214 (K102.eq K86 K85) (hn_ (Z0 (Z0 Z2 K86.ok) K85.ok))
def K101.sig : Sig U := ⟨[.cpx], [], 0, [.bool], false, []⟩
abbrev K101.T : Type := ((Nat × Nat)) → Option ((Bool × Unit) × Unit × Unit)
def K101.W (f : K101.T) : K101.sig.F := fun a x => f a.1
def K101.H (cK102 : K102.T) : Hints U := { Γ := (addΓ 214 (K102.sig.native (K102.W cK102)) noΓ), ro := 0, base := 13 }
def K101.gen (cK102 : K102.T) : K101.T := fun z =>
 (oelim (cK102 z.1) none fun r0 => (bif r0.1.1 then (oelim (cK102 z.2) none fun r1 => some (r1.1, ((), ()))) else some ((false, ()), ((), ()))))
def K101 : K101.T := K101.gen K102
theorem K101.eq (cK102 : K102.T) : EqA K101.sig (K101.H cK102) Tryz.f204 6 (K101.W (K101.gen cK102)) := by intro a x; kernel_rfl
theorem K101.ok : NK_ 204 K101.sig (K101.W K101) := ok_ Tryz.func204 (K101.eq K102) (hn_ (Z0 Z2 K102.ok))
def K100.sig : Sig U := ⟨[.cpx], [], 0, [.cpx, .bool], true, []⟩
abbrev K100.T : Type := ((Nat × Nat)) → Option ((((Nat × Nat)) × Bool × Unit) × Unit × Unit)
def K100.W (f : K100.T) : K100.sig.F := fun a x => f a.1
def K100.H (cK101 : K101.T) : Hints U := { Γ := (addΓ 204 (K101.sig.native (K101.W cK101)) noΓ), ro := 0, base := 13 }
def K100.gen (cK101 : K101.T) : K100.T := fun z =>
 (oelim (cK101 z) none fun r0 => (bif !r0.1.1 then some (((0, 0), (false, ())), ((), ())) else (oelim ((Go.cMulBits (z.1) (z.2) (4607182418800017408) (4607182418800017408))) none fun r1 => some ((r1, (true, ())), ((), ())))))
def K100 : K100.T := K100.gen K101
theorem K100.eq (cK101 : K101.T) : EqA K100.sig (K100.H cK101) Tryz.f190 6 (K100.W (K100.gen cK101)) := by intro a x; kernel_rfl
theorem K100.ok : NK_ 190 K100.sig (K100.W K100) := ok_ Tryz.func190 (K100.eq K101) (hn_ (Z0 Z2 K101.ok))
def K98.sig : Sig U := ⟨[.cpx], [], 0, [.int .i64, .bool], true, []⟩
abbrev K98.T : Type := ((Nat × Nat)) → Option ((Int × Bool × Unit) × Unit × Unit)
def K98.W (f : K98.T) : K98.sig.F := fun a x => f a.1
def K98.H (cK100 : K100.T) : Hints U := { Γ := (addΓ 190 (K100.sig.native (K100.W cK100)) noΓ), ro := 0, base := 13 }
def K98.gen (cK100 : K100.T) : K98.T := fun z =>
 (oelim (cK100 z) none fun r0 => (oelim ((Go.floatToIntVal Go.FloatKind.f64 (r0.1.1.2) .i64)) none fun r1 => some ((ishr .i64 r1 1, r0.1.2), ((), ()))))
def K98 : K98.T := K98.gen K100
theorem K98.eq (cK100 : K100.T) : EqA K98.sig (K98.H cK100) Tryz.f154 6 (K98.W (K98.gen cK100)) := by intro a x; kernel_rfl
theorem K98.ok : NK_ 154 K98.sig (K98.W K98) := ok_ Tryz.func154 (K98.eq K100) (hn_ (Z0 Z2 K100.ok))
def K88.sig : Sig U := ⟨[.ptr], [.obj .t_median_Filter], 1, [.int .i64, .bool], true, []⟩
abbrev K88.T : Type := (median_Filter) → Option ((Int × Bool × Unit) × Unit × Unit)
def K88.W (f : K88.T) : K88.sig.F := fun a x => f x.1
def K88.L0 : Shape U := ⟨60, 15, [(0, .ptr 13 0 0), (4, .ptr 14 0 0), (20, .asl 13 0 1 15), (21, vi_), (22, vi_)], [(13, .obj .t_median_Filter), (14, .famN true .int)]⟩
def K88.X0 : Exits U := [(.exit 0, ⟨60, 15, [(0, .ptr 13 0 0), (4, .ptr 14 0 0)], [(13, .obj .t_median_Filter), (14, .famN true .int)]⟩)]
abbrev K88.l0T : Type := (((Nat × Nat) × Int × Int × Unit) × (median_Filter × (Fm Int) × Unit)) → Option ((Unit × (median_Filter × (Fm Int) × Unit)))
def K88.L1 : Shape U := ⟨60, 15, [(0, .ptr 13 0 0), (4, .ptr 14 0 0), (5, vi_), (6, vi_), (7, vi_), (20, .asl 13 0 1 15), (21, vi_), (22, vi_)], [(13, .obj .t_median_Filter), (14, .famN true .int)]⟩
def K88.X1 : Exits U := [(.exit 2, ⟨60, 15, [(0, .ptr 13 0 0), (4, .ptr 14 0 0), (5, vi_), (6, vi_), (7, vi_), (20, .asl 13 0 1 15), (21, vi_), (22, vi_)], [(13, .obj .t_median_Filter), (14, .famN true .int)]⟩)]
abbrev K88.l1T : Type := ((Int × Int × Int × (Nat × Nat) × Int × Int × Unit) × (median_Filter × (Fm Int) × Unit)) → Option (((Int × Int × Int × (Nat × Nat) × Int × Int × Unit) × (median_Filter × (Fm Int) × Unit)))
def K88.C : Code := match Tryz.f191.body with | some c => c | none => .skip
def K88.B0 : Code := match (Z3 K88.C).getD 0 .skip with | .loop b => b | .scope b => b | _ => .skip
def K88.B1 : Code := match (Z3 K88.C).getD 1 .skip with | .loop b => b | .scope b => b | _ => .skip
def K88.H (l0 : K88.l0T) (l1 : K88.l1T) : Hints U := { Γ := (addΓ 3000000266 Z1i noΓ), ro := 14, base := 14, joinQ := jt_ [(8, [(36, vb_)])], loop := jt_ [(5, (Za (14, 14) K88.L0 K88.X0 l0)), (8, (Za (14, 14) K88.L1 K88.X1 l1))] }
def K88.step1 (a : (Int × Int × Int × (Nat × Nat) × Int × Int × Unit) × (median_Filter × (Fm Int) × Unit)) : Option (((Int × Int × Int × (Nat × Nat) × Int × Int × Unit) × (median_Filter × (Fm Int) × Unit)) ⊕ (((Int × Int × Int × (Nat × Nat) × Int × Int × Unit) × (median_Filter × (Fm Int) × Unit)))) :=
 (oelim ((bif ilt a.1.2.2.1 a.1.1 then (bif bif inR a.1.2.2.1 15 then inR a.1.2.2.1 a.2.2.1.1 else false then some (ile (a.2.2.1.2 (Int.toNat a.1.2.2.1)) a.1.2.1, ()) else none) else some (false, ()))) none fun r0 => (bif r0.1 then some (.inl ((a.1.1, (a.1.2.1, (iadd .i64 a.1.2.2.1 1, a.1.2.2.2))), a.2)) else some (.inr a)))
def K88.F1 : K88.l1T := fun a => Z8 (1000000 + (a.1.2.2.2.1.2)) (K88.step1) a
def K88.step0 (l1 : K88.l1T) (a : ((Nat × Nat) × Int × Int × Unit) × (median_Filter × (Fm Int) × Unit)) : Option ((((Nat × Nat) × Int × Int × Unit) × (median_Filter × (Fm Int) × Unit)) ⊕ ((Unit × (median_Filter × (Fm Int) × Unit)))) :=
 (bif ilt a.1.2.2.1 a.1.2.1 then (bif inR a.1.2.2.1 a.1.1.2 then (oelim (l1 ((a.1.2.2.1, a.2.1.fl (a.1.1.1 + Int.toNat a.1.2.2.1), (0 : Int), a.1), a.2)) none fun r0 => (bif bif le3 (iadd .i64 r0.1.2.2.1 1) (iadd .i64 r0.1.1 1) 15 then le3 (iadd .i64 r0.1.2.2.1 1) (iadd .i64 r0.1.1 1) r0.2.2.1.1 else false then (bif bif le3 r0.1.2.2.1 r0.1.1 15 then le3 r0.1.2.2.1 r0.1.1 r0.2.2.1.1 else false then (bif bif inR r0.1.2.2.1 15 then inR r0.1.2.2.1 r0.2.2.1.1 else false then some (.inl ((r0.1.2.2.2.1, (r0.1.2.2.2.2.1, (iadd .i64 r0.1.2.2.2.2.2.1 1, ()))), (r0.2.1, ((r0.2.2.1.1, fset (fun (i : Nat) => bif Nat.ble (Int.toNat (iadd .i64 r0.1.2.2.1 1)) i && Nat.blt i (Int.toNat (iadd .i64 r0.1.2.2.1 1) + Nat.min (Int.toNat r0.1.1 - Int.toNat r0.1.2.2.1) (Int.toNat (iadd .i64 r0.1.1 1) - Int.toNat (iadd .i64 r0.1.2.2.1 1))) then r0.2.2.1.2 (Int.toNat r0.1.2.2.1 + (i - Int.toNat (iadd .i64 r0.1.2.2.1 1))) else r0.2.2.1.2 i) (Int.toNat r0.1.2.2.1) r0.1.2.1), ())))) else none) else none) else none)) else none) else some (.inr ((), a.2)))
def K88.F0 : K88.l0T := fun a => Z8 (1000000 + (a.1.1.2)) (K88.step0 K88.F1) a
def K88.gen (l0 : K88.l0T) (l1 : K88.l1T) : K88.T := fun h0 =>
 (bif ieq h0.fn 0 then some (((0 : Int), (false, ())), ((), ())) else (bif le3 (ofN 0) h0.fn 15 then (oelim (l0 (((Int.toNat (ofN 0), Int.toNat h0.fn - Int.toNat (ofN 0)), ofN (Int.toNat h0.fn - Int.toNat (ofN 0)), (0 : Int), ()), h0, (15, fun (j : Nat) => List.getD ((0 : Int) :: (0 : Int) :: (0 : Int) :: (0 : Int) :: (0 : Int) :: (0 : Int) :: (0 : Int) :: (0 : Int) :: (0 : Int) :: (0 : Int) :: (0 : Int) :: (0 : Int) :: (0 : Int) :: (0 : Int) :: (0 : Int) :: lnil Int) j (0 : D UC.int)), ())) none fun r0 => (bif bif inR (iquo .i64 (isub .i64 r0.2.1.fn 1) 2) 15 then inR (iquo .i64 (isub .i64 r0.2.1.fn 1) 2) r0.2.2.1.1 else false then some ((r0.2.2.1.2 (Int.toNat (iquo .i64 (isub .i64 r0.2.1.fn 1) 2)), (true, ())), ((), ())) else none)) else none))
def K88 : K88.T := K88.gen K88.F0 K88.F1
theorem K88.seq1 (l0 : K88.l0T) (l1 : K88.l1T) (a : K88.L1.T) : run Tryz.prog (K88.H l0 l1) 6 (Option (K88.L1.T ⊕ ExT K88.X1)) none K88.B1 (K88.L1.enc a) (Zn (14, 14) K88.L1 K88.X1) = K88.step1 a := by kernel_rfl
abbrev K88.h := K88.H K88.F0 K88.F1
theorem K88.lok1 : LO_ K88.h K88.B1 (Za (14, 14) K88.L1 K88.X1 K88.F1) := lk_ (hn_ (Z0 Z2 Zg)) (K88.seq1 K88.F0 K88.F1)
theorem K88.seq0 (l0 : K88.l0T) (l1 : K88.l1T) (a : K88.L0.T) : run Tryz.prog (K88.H l0 l1) 6 (Option (K88.L0.T ⊕ ExT K88.X0)) none K88.B0 (K88.L0.enc a) (Zn (14, 14) K88.L0 K88.X0) = K88.step0 l1 a := by kernel_rfl
theorem K88.inner0 : Z3 K88.B0 = [(.loop K88.B1)] := by kernel_rfl
theorem K88.lok0 : ZM U Tryz.prog K88.h.ro K88.h.base K88.B0 (Za (14, 14) K88.L0 K88.X0 K88.F0) :=
 Z58 (Hn := K88.h) U_ok U_pure (Z2k (hq (Z0 Z2 Zg) (Z9 (by kernel_rfl) K88.lok1 Z6) (fun _ => rfl) (fun _ => rfl)) 6) (fun b h => by rw [K88.inner0] at h; exact h) (fun _ => rfl) (K88.seq0 K88.F0 K88.F1)
theorem K88.eq (l0 : K88.l0T) (l1 : K88.l1T) : EqA K88.sig (K88.H l0 l1) Tryz.f191 6 (K88.W (K88.gen l0 l1)) := by intro a x; kernel_rfl
theorem K88.loops : Z3 K88.C = [(.loop K88.B0), (.loop K88.B1)] := by kernel_rfl
theorem K88.ok : NK_ 191 K88.sig (K88.W K88) := ok_ Tryz.func191 (K88.eq K88.F0 K88.F1) (hl_ (Z0 Z2 Zg) (Z9 (by kernel_rfl) K88.lok0 (Z9 (by kernel_rfl) K88.lok1 Z6))) K88.loops
def K89.sig : Sig U := ⟨[.ptr, .int .i64], [.obj .t_median_Filter], 0, [.int .i64], false, []⟩
abbrev K89.T : Type := (Int) → (median_Filter) → Option ((Int × Unit) × (median_Filter × Unit) × Unit)
def K89.W (f : K89.T) : K89.sig.F := fun a x => f a.2.1 x.1
def K89.JC2 : Exits U := [(.normal, ⟨58, 14, [(0, .ptr 13 0 0), (1, vi_)], [(13, .obj .t_median_Filter)]⟩)]
def K89.H (cK88 : K88.T) : Hints U := { Γ := (addΓ 191 (K88.sig.native (K88.W cK88)) noΓ), ro := 0, base := 14, joinC := jt_ [(2, K89.JC2)] }
def K89.gen (cK88 : K88.T) : K89.T := fun v h0 =>
 (oelim ((bif ieq h0.fn h0.fmost then (bif le3 1 h0.fn 15 then some ((v, ()), (median_Filter.mk (fun (i : Nat) => bif Nat.ble (Int.toNat (ofN 0)) i && Nat.blt i (Int.toNat (ofN 0) + Nat.min (Int.toNat h0.fn - Int.toNat 1) (Int.toNat (ofN 15) - Int.toNat (ofN 0))) then h0.fl (Int.toNat 1 + (i - Int.toNat (ofN 0))) else h0.fl i) (isub .i64 h0.fn 1) h0.fmost, ())) else none) else some ((v, ()), (h0, ())))) none fun r0 => (bif inR r0.2.1.fn 15 then (oelim (cK88 (median_Filter.mk (fset r0.2.1.fl (Int.toNat r0.2.1.fn) r0.1.1) (iadd .i64 r0.2.1.fn 1) r0.2.1.fmost)) none fun r1 => some ((r1.1.1, ()), ((median_Filter.mk (fset r0.2.1.fl (Int.toNat r0.2.1.fn) r0.1.1) (iadd .i64 r0.2.1.fn 1) r0.2.1.fmost, ()), ()))) else none))
def K89 : K89.T := K89.gen K88
theorem K89.eq (cK88 : K88.T) : EqA K89.sig (K89.H cK88) Tryz.f155 6 (K89.W (K89.gen cK88)) := by intro a x; kernel_rfl
theorem K89.ok : NK_ 155 K89.sig (K89.W K89) := ok_ Tryz.func155 (K89.eq K88) (hn_ (Z0 Z2 K88.ok))
def K13.sig : Sig U := ⟨[.ptr, .eptr 0 23 42 8, .data .t_api_Msg], [.obj .t_clock_Clock, fm7_, fm9_], 0, [], true, []⟩
abbrev K13.T : Type := (Nat) → (api_Msg) → (clock_Clock) → (Fm delay_Exchange) → (Fm median_Filter) → Option (Unit × (clock_Clock × (Fm delay_Exchange) × (Fm median_Filter) × Unit) × Unit)
def K13.W (f : K13.T) : K13.sig.F := fun a x => f a.2.1 a.2.2.1 x.1 x.2.1 x.2.2.1
def K13.JR1 : Exits U := [(.normal, ⟨57, 14, [(0, .ptr 13 0 0), (1, .aptr 13 23 42 8 0), (6, vi_), (7, vb_)], [(13, .obj .t_clock_Clock), (7, .famN false .t_delay_Exchange), (9, .famN false .t_median_Filter)]⟩)]
def K13.H (cK54 : K54.T) (cK99 : K99.T) (cK98 : K98.T) (cK89 : K89.T) : Hints U := { Γ := (addΓ 155 (K89.sig.native (K89.W cK89)) (addΓ 154 (K98.sig.native (K98.W cK98)) (addΓ 153 (K99.sig.native (K99.W cK99)) (addΓ 152 (K54.sig.native (K54.W cK54)) noΓ)))), ro := 0, base := 14, joinQ := jt_ [(2, [(29, vb_)])], joinR := jt_ [(1, K13.JR1)] }
def K13.gen (cK54 : K54.T) (cK99 : K99.T) (cK98 : K98.T) (cK89 : K89.T) : K13.T := fun p m h0 g7 g9 =>
 (oelim ((oelim ((h0.fports p).13) none fun r0 => (oelim (cK54 m (g7.2 r0)) none fun r1 => some ((p, r1.1), (h0, ((g7.1, fset g7.2 r0 r1.2.1.1), (g9, ()))))))) none fun r2 => (oelim ((bif !r2.1.2.2.1 then some (true, ()) else some (!(r2.2.1.fports r2.1.1).fdiff.fis, ()))) none fun r3 => (bif r3.1 then some ((), (r2.2, ())) else (oelim (cK99 (r2.2.1.fports r2.1.1).fdiff.fv r2.1.2.1) none fun r4 => (bif !r4.1.2.1 then some ((), (r2.2, ())) else (oelim (cK98 r4.1.1) none fun r5 => (oelim (r2.2.1.6) none fun r6 => (oelim (cK89 r5.1.1 (r2.2.2.2.1.2 r6)) none fun r7 => some ((), ((clock_Clock.set_fdelay r2.2.1 (clock_known.mk r7.1.1 true), (r2.2.2.1, ((r2.2.2.2.1.1, fset r2.2.2.2.1.2 r6 r7.2.1.1), ()))), ()))))))))))
def K13 : K13.T := K13.gen K54 K99 K98 K89
theorem K13.eq (cK54 : K54.T) (cK99 : K99.T) (cK98 : K98.T) (cK89 : K89.T) : EqA K13.sig (K13.H cK54 cK99 cK98 cK89) Tryz.f81 6 (K13.W (K13.gen cK54 cK99 cK98 cK89)) := by intro a x; kernel_rfl
theorem K13.ok : NK_ 81 K13.sig (K13.W K13) := ok_ Tryz.func81 (K13.eq K54 K99 K98 K89) (hn_ (Z0 (Z0 (Z0 (Z0 Z2 K54.ok) K99.ok) K98.ok) K89.ok))
def K20.sig : Sig U := ⟨[.ptr, .int .i64, .str, .int .i64], [.obj .t_clock_Clock, fm5_, fm6_, fm7_, fm8_, fm9_, fm10_, .fam 12 (.map true false .t_api_PortID .l_u64)], 0, [], true, []⟩
abbrev K20.T : Type := (Int) → (ByteArray) → (Int) → (clock_Clock) → (Fm servo_Servo) → (Fm foreign_Table) → (Fm delay_Exchange) → (Fm peer_Exchange) → (Fm median_Filter) → (Fm seq_Match) → (Nat × (Nat → List (api_PortID × List (Int)))) → Option (Unit × (clock_Clock × qT1_) × Unit)
def K20.W (f : K20.T) : K20.sig.F := fun a x => f a.2.1 a.2.2.1 a.2.2.2.1 x.1 x.2.1 x.2.2.1 x.2.2.2.1 x.2.2.2.2.1 x.2.2.2.2.2.1 x.2.2.2.2.2.2.1 x.2.2.2.2.2.2.2.1
def K20.C : Code := match Tryz.f45.body with | some c => c | none => .skip
def K20.B0 : Code := match (Z3 K20.C).getD 0 .skip with | .loop b => b | .scope b => b | _ => .skip
def K20.JR14 : Exits U := [(.normal, ⟨177, 15, [(0, .ptr 13 0 0), (1, vi_), (12, .ptr 14 0 0), (13, vb_)], (13, .obj .t_clock_Clock) :: (14, .obj .t_api_Msg) :: hT0_⟩)]
def K20.JR1 : Exits U := [(.normal, ⟨177, 15, [(0, .ptr 13 0 0), (1, vi_), (3, vi_), (9, .ptr 14 0 0), (10, .val (.isl .t_api_Tlv)), (11, vi_)], (13, .obj .t_clock_Clock) :: (14, .obj .t_api_Msg) :: hT0_⟩)]
def K20.JC21 : Exits U := [(.normal, ⟨177, 15, [(0, .ptr 13 0 0), (1, vi_), (3, vi_), (9, .ptr 14 0 0), (10, .val (.isl .t_api_Tlv)), (53, vi_), (148, vb_)], (13, .obj .t_clock_Clock) :: (14, .obj .t_api_Msg) :: hT0_⟩)]
def K20.JC9 : Exits U := [(.normal, ⟨177, 15, [(0, .ptr 13 0 0), (1, vi_), (3, vi_), (8, .aptr 13 23 42 8 0), (9, .ptr 14 0 0), (10, .val (.isl .t_api_Tlv)), (53, vi_), (62, vb_)], (13, .obj .t_clock_Clock) :: (14, .obj .t_api_Msg) :: hT0_⟩)]
def K20.JC7 : Exits U := [(.normal, ⟨177, 14, [], (13, .obj .t_clock_Clock) :: hT0_⟩),
 (.goto 0, ⟨177, 14, [(0, .ptr 13 0 0)], (13, .obj .t_clock_Clock) :: hT0_⟩)]
def K20.H (cK66 : K66.T) (cK22 : K22.T) (cK29 : K29.T) (cK108 : K108.T) (cK21 : K21.T) (cK110 : K110.T) (cK18 : K18.T) (cK27 : K27.T) (cK51 : K51.T) (cK23 : K23.T) (cK13 : K13.T) : Hints U := { Γ := (addΓ 81 (K13.sig.native (K13.W cK13)) (K23.N cK23 (addΓ 78 (K51.sig.native (K51.W cK51)) (K27.N cK27 (addΓ 77 (K18.sig.native (K18.W cK18)) (K110.N cK110 (addΓ 75 (K21.sig.native (K21.W cK21)) (K108.N cK108 (K29.N cK29 (K22.N cK22 (addΓ 73 (K66.sig.native (K66.W cK66)) noΓ))))))))))), ro := 0, base := 14, joinQ := jt_ [(2, [(42, vb_)]), (10, [(79, vb_)]), (13, [(99, vb_)]), (18, [(143, vb_)])], joinR := jt_ [(1, K20.JR1), (14, K20.JR14)], joinC := jt_ [(7, K20.JC7), (9, K20.JC9), (21, K20.JC21)], gotos := 3, loop := fun b => none }
def K20.gen (cK66 : K66.T) (cK22 : K22.T) (cK29 : K29.T) (cK108 : K108.T) (cK21 : K21.T) (cK110 : K110.T) (cK18 : K18.T) (cK27 : K27.T) (cK51 : K51.T) (cK23 : K23.T) (cK13 : K13.T) : K20.T := fun n b now h0 g5 g6 g7 g8 g9 g10 g12 =>
 (oelim ((oelim (cK66 b h0.fconf.fDomain) none fun r0 => some ((n, (now, r0.1.2)), (h0, (r0.1.1, (g5, (g6, (g7, (g8, (g9, (g10, (g12, ())))))))))))) none fun r1 => (oelim ((oelim (cK22 r1.1.1 r1.2.1) none fun r2 => (bif r2.1.1 then some (true, ()) else (bif ine r1.1.2.2.2.1 0 then some (true, ()) else some (ieq r1.2.2.1.fSource.fClock r1.2.1.fconf.fClock, ()))))) none fun r3 => (bif r3.1 then some ((), ((clock_Clock.set_fdrops r1.2.1 (iadd .i64 r1.2.1.fdrops 1), r1.2.2.2), ())) else (oelim (cK29 r1.1.1 r1.2.1) none fun r4 => (oelim (cK108 (r1.2.1.fports r4.1.1).fstate) none fun r5 => (bif !r5.1.1 then some ((), ((clock_Clock.set_fdrops r1.2.1 (iadd .i64 r1.2.1.fdrops 1), r1.2.2.2), ())) else (oelim ((bif ieq r1.2.2.1.fType 11 then (oelim (cK21 r4.1.1 r1.2.2.1 r1.1.2.2.1 r1.2.1 r1.2.2.2.2.1 r1.2.2.2.2.2.2.2.2.2.1) none fun r6 => (bif !r6.1.1 then some (.inr ((), (r6.2.1.1, (r1.2.2.2.1, (r6.2.1.2.1, (r1.2.2.2.2.2.1, (r1.2.2.2.2.2.2.1, (r1.2.2.2.2.2.2.2.1, (r1.2.2.2.2.2.2.2.2.1, r6.2.1.2.2))))))))) else some (.inl ((), (r6.2.1.1, (r1.2.2.2.1, (r6.2.1.2.1, (r1.2.2.2.2.2.1, (r1.2.2.2.2.2.2.1, (r1.2.2.2.2.2.2.2.1, (r1.2.2.2.2.2.2.2.2.1, r6.2.1.2.2))))))))))) else (oelim ((bif ieq r1.2.2.1.fType 0 then some ((r1.1.1, (r1.1.2.1, (r4.1.1, (r1.1.2.2.1, (r1.2.2.1.fType, (ieq r1.2.2.1.fType 0, ())))))), r1.2) else some ((r1.1.1, (r1.1.2.1, (r4.1.1, (r1.1.2.2.1, (r1.2.2.1.fType, (ieq r1.2.2.1.fType 8, ())))))), r1.2))) none fun r7 => (bif r7.1.2.2.2.2.2.1 then (oelim ((oelim (cK110 (r7.2.1.fports r7.1.2.2.1).fstate) none fun r8 => (bif r8.1.1 then some (bif ieq r7.2.2.1.fSource.fClock r7.2.1.fparent.fPort.fClock then bif ieq r7.2.2.1.fSource.fPort r7.2.1.fparent.fPort.fPort then true else false else false, ()) else some (false, ())))) none fun r9 => (bif r9.1 then (oelim (cK18 r7.1.2.2.1 r7.2.2.1 r7.1.2.1 r7.2.1 r7.2.2.2.1 r7.2.2.2.2.2.1 r7.2.2.2.2.2.2.1 r7.2.2.2.2.2.2.2.1 r7.2.2.2.2.2.2.2.2.1) none fun r10 => some (.inl ((), (r10.2.1.1, (r10.2.1.2.1, (r7.2.2.2.2.1, (r10.2.1.2.2.1, (r10.2.1.2.2.2.1, (r10.2.1.2.2.2.2.1, (r10.2.1.2.2.2.2.2.1, r7.2.2.2.2.2.2.2.2.2)))))))))) else some (.inl ((), (r7.2.1, r7.2.2.2))))) else (bif ieq r7.1.2.2.2.2.1 1 then (oelim ((bif ieq (r7.2.1.fports r7.1.2.2.1).fstate 6 then some (!r7.2.1.fconf.fPeer, ()) else some (false, ()))) none fun r11 => (bif r11.1 then (oelim ((oelim (cK27 r7.1.1 r7.2.1) none fun r12 => (oelim (cK51 r7.2.2.1 r12.1.1 r7.1.2.1 r7.2.1.fconf.fLogDelay) none fun r13 => some ((r7.1.1, r13.1.2), (r7.2.1, (r13.1.1, r7.2.2.2)))))) none fun r14 => (bif r14.1.2.1 then (oelim (cK23 r14.1.1 r14.2.2.1 (lnil api_Tlv) false r14.2.1) none fun r15 => some (.inl ((), (r15.2.1.1, r14.2.2.2)))) else some (.inl ((), (r14.2.1, r14.2.2.2))))) else some (.inl ((), (r7.2.1, r7.2.2.2))))) else (bif ieq r7.1.2.2.2.2.1 9 then (oelim ((oelim (cK110 (r7.2.1.fports r7.1.2.2.1).fstate) none fun r16 => (bif r16.1.1 then (bif !r7.2.1.fconf.fPeer then some (bif ieq r7.2.2.1.fSource.fClock r7.2.1.fparent.fPort.fClock then bif ieq r7.2.2.1.fSource.fPort r7.2.1.fparent.fPort.fPort then true else false else false, ()) else some (false, ())) else some (false, ())))) none fun r17 => (bif r17.1 then (oelim (cK13 r7.1.2.2.1 r7.2.2.1 r7.2.1 r7.2.2.2.2.2.1 r7.2.2.2.2.2.2.2.1) none fun r18 => some (.inl ((), (r18.2.1.1, (r7.2.2.2.1, (r7.2.2.2.2.1, (r18.2.1.2.1, (r7.2.2.2.2.2.2.1, (r18.2.1.2.2.1, r7.2.2.2.2.2.2.2.2))))))))) else some (.inl ((), (r7.2.1, r7.2.2.2))))) else (oelim ((bif ieq r7.1.2.2.2.2.1 2 then some ((r7.1.1, (r7.1.2.1, (r7.1.2.2.2.1, (r7.1.2.2.2.2.1, (ieq r7.1.2.2.2.2.1 2, ()))))), r7.2) else (bif ieq r7.1.2.2.2.2.1 3 then some ((r7.1.1, (r7.1.2.1, (r7.1.2.2.2.1, (r7.1.2.2.2.2.1, (ieq r7.1.2.2.2.2.1 3, ()))))), r7.2) else some ((r7.1.1, (r7.1.2.1, (r7.1.2.2.2.1, (r7.1.2.2.2.2.1, (ieq r7.1.2.2.2.2.1 10, ()))))), r7.2)))) none fun r19 => (bif r19.1.2.2.2.2.1 then (bif r19.2.1.fconf.fPeer then none else some (.inl ((), (r19.2.1, r19.2.2.2)))) else (bif ieq r19.1.2.2.2.1 13 then none else some (.inl ((), (r19.2.1, r19.2.2.2)))))))))))) none fun r20 => (selim r20 (fun r21 => some ((), (r21.2, ()))) (fun r21 => some ((), ((clock_Clock.set_fdrops r21.2.1 (iadd .i64 r21.2.1.fdrops 1), r21.2.2), ())))))))))))
def K20 : K20.T := K20.gen K66 K22 K29 K108 K21 K110 K18 K27 K51 K23 K13
theorem K20.eq (cK66 : K66.T) (cK22 : K22.T) (cK29 : K29.T) (cK108 : K108.T) (cK21 : K21.T) (cK110 : K110.T) (cK18 : K18.T) (cK27 : K27.T) (cK51 : K51.T) (cK23 : K23.T) (cK13 : K13.T) : EqA K20.sig (K20.H cK66 cK22 cK29 cK108 cK21 cK110 cK18 cK27 cK51 cK23 cK13) Tryz.f45 6 (K20.W (K20.gen cK66 cK22 cK29 cK108 cK21 cK110 cK18 cK27 cK51 cK23 cK13)) := by intro a x; kernel_rfl
theorem K20.loops : Z3 K20.C = [(.scope K20.B0)] := by kernel_rfl
theorem K20.ok : NK_ 45 K20.sig (K20.W K20) := ok_ Tryz.func45 (K20.eq K66 K22 K29 K108 K21 K110 K18 K27 K51 K23 K13) (hl_ (Z0 (Z0 (Z0 (Z0 (Z0 (Z0 (Z0 (Z0 (Z0 (Z0 (Z0 Z2 K66.ok) K22.ok) K29.ok) K108.ok) K21.ok) K110.ok) K18.ok) K27.ok) K51.ok) K23.ok) K13.ok) (Zx Z6)) K20.loops
def K55.sig : Sig U := ⟨[.ptr, .int .i64, .int .i64], [.obj .t_delay_Exchange], 0, [.bool], false, []⟩
abbrev K55.T : Type := (Int) → (Int) → (delay_Exchange) → Option ((Bool × Unit) × (delay_Exchange × Unit) × Unit)
def K55.W (f : K55.T) : K55.sig.F := fun a x => f a.2.1 a.2.2.1 x.1
def K55.H : Hints U := { Γ := noΓ, ro := 0, base := 14 }
def K55.gen : K55.T := fun seq at_2 h0 =>
 (bif !bif ieq h0.fr.fseq seq then bif ieq h0.fr.fat 0 then bif h0.fr.fout == true then bif h0.fr.fsent == false then true else false else false else false else false then some ((false, ()), ((h0, ()), ())) else some ((true, ()), ((delay_Exchange.set_fr h0 (delay_request.set_fsent (delay_request.set_fat h0.fr at_2) true), ()), ())))
def K55 : K55.T := K55.gen
theorem K55.ok : NK_ 84 K55.sig (K55.W K55) := ok_ (H := K55.H) (n := 6) Tryz.func84 (by intro a x; kernel_rfl) (hn_ Z2)
def K105.sig : Sig U := ⟨[.ptr, .int .i64, .int .i64], [.obj .t_peer_Exchange], 0, [.bool], false, []⟩
abbrev K105.T : Type := (Int) → (Int) → (peer_Exchange) → Option ((Bool × Unit) × (peer_Exchange × Unit) × Unit)
def K105.W (f : K105.T) : K105.sig.F := fun a x => f a.2.1 a.2.2.1 x.1
def K105.H : Hints U := { Γ := noΓ, ro := 0, base := 14, joinQ := jt_ [(1, [(25, vb_)])] }
def K105.gen : K105.T := fun seq at_2 h0 =>
 (oelim ((bif !h0.fout then some (true, ()) else (bif h0.fsent then some (true, ()) else some (ine seq h0.fseq, ())))) none fun r0 => (bif r0.1 then some ((false, ()), ((h0, ()), ())) else some ((true, ()), ((peer_Exchange.set_fsent (peer_Exchange.set_fat h0 at_2) true, ()), ()))))
def K105 : K105.T := K105.gen
theorem K105.ok : NK_ 85 K105.sig (K105.W K105) := ok_ (H := K105.H) (n := 6) Tryz.func85 (by intro a x; kernel_rfl) (hn_ Z2)
def K106.sig : Sig U := ⟨[.data .t_api_Msg, .data .t_api_PortID, .int .i64], [], 0, [.data .t_api_Msg, .bool], true, []⟩
abbrev K106.T : Type := (api_Msg) → (api_PortID) → (Int) → Option ((api_Msg × Bool × Unit) × Unit × Unit)
def K106.W (f : K106.T) : K106.sig.F := fun a x => f a.1 a.2.1 a.2.2.1
def K106.H (cK133 : K133.T) : Hints U := { Γ := (K133.N cK133 noΓ), ro := 0, base := 13, joinQ := jt_ [(1, [(15, vb_)])] }
def K106.gen (cK133 : K133.T) : K106.T := fun m self at_2 =>
 (oelim ((bif ine m.fType 2 then some (true, ()) else (oelim (cK133 at_2) none fun r0 => some (!r0.1.1, ())))) none fun r1 => (bif r1.1 then some ((api_Msg.mk 0 0 0 0 z0_ 0 0 0 z0_ 0 0 z1_ 0 0 0 0 0 0 0, (false, ())), ((), ())) else some ((api_Msg.mk 10 m.fDomain 0 0 self m.fSeq 127 at_2 m.fSource 0 0 z1_ 0 0 0 0 0 0 0, (true, ())), ((), ()))))
def K106 : K106.T := K106.gen K133
theorem K106.eq (cK133 : K133.T) : EqA K106.sig (K106.H cK133) Tryz.f86 6 (K106.W (K106.gen cK133)) := by intro a x; kernel_rfl
theorem K106.ok : NK_ 86 K106.sig (K106.W K106) := ok_ Tryz.func86 (K106.eq K133) (hn_ (Z0 Z2 K133.ok))
def K28.sig : Sig U := ⟨[.ptr, .int .i64, .int .i64, .int .i64, .int .i64], [.obj .t_clock_Clock, fm7_, fm8_], 0, [], true, []⟩
abbrev K28.T : Type := (Int) → (Int) → (Int) → (Int) → (clock_Clock) → (Fm delay_Exchange) → (Fm peer_Exchange) → Option (Unit × (clock_Clock × (Fm delay_Exchange) × (Fm peer_Exchange) × Unit) × Unit)
def K28.W (f : K28.T) : K28.sig.F := fun a x => f a.2.1 a.2.2.1 a.2.2.2.1 a.2.2.2.2.1 x.1 x.2.1 x.2.2.1
def K28.JR11 : Exits U := [(.normal, ⟨100, 15, [(0, .ptr 13 0 0), (1, vi_), (11, .ptr 14 0 0)], [(13, .obj .t_clock_Clock), (14, .obj .t_api_Msg), (7, .famN false .t_delay_Exchange), (8, .famN false .t_peer_Exchange)]⟩)]
def K28.H (cK29 : K29.T) (cK27 : K27.T) (cK23 : K23.T) (cK55 : K55.T) (cK105 : K105.T) (cK106 : K106.T) : Hints U := { Γ := (addΓ 86 (K106.sig.native (K106.W cK106)) (addΓ 85 (K105.sig.native (K105.W cK105)) (addΓ 84 (K55.sig.native (K55.W cK55)) (K23.N cK23 (K27.N cK27 (K29.N cK29 noΓ)))))), ro := 0, base := 14, joinQ := jt_ [(3, [(31, vb_)]), (10, [(83, vb_)])], joinR := jt_ [(11, K28.JR11)] }
def K28.gen (cK29 : K29.T) (cK27 : K27.T) (cK23 : K23.T) (cK55 : K55.T) (cK105 : K105.T) (cK106 : K106.T) : K28.T := fun n typ seq now h0 g7 g8 =>
 (oelim (cK29 n h0) none fun r0 => (bif ieq typ 0 then (oelim ((bif ieq (h0.fports r0.1.1).fstate 6 then some (!h0.fconf.fOneStep, ()) else some (false, ()))) none fun r1 => (bif r1.1 then (oelim (cK27 n h0) none fun r2 => (oelim (cK23 n (api_Msg.mk 8 h0.fconf.fDomain 0 0 r2.1.1 seq h0.fconf.fLogSync now z0_ 0 0 z1_ 0 0 0 0 0 0 0) (lnil api_Tlv) false h0) none fun r3 => some ((), ((r3.2.1.1, (g7, (g8, ()))), ())))) else some ((), ((h0, (g7, (g8, ()))), ())))) else (bif ieq typ 1 then (oelim ((h0.fports r0.1.1).13) none fun r4 => (oelim (cK55 seq now (g7.2 r4)) none fun r5 => some ((), ((h0, ((g7.1, fset g7.2 r4 r5.2.1.1), (g8, ()))), ())))) else (bif ieq typ 2 then (oelim ((h0.fports r0.1.1).14) none fun r6 => (oelim (cK105 seq now (g8.2 r6)) none fun r7 => some ((), ((h0, (g7, ((g8.1, fset g8.2 r6 r7.2.1.1), ()))), ())))) else (bif ieq typ 3 then (oelim ((bif (h0.fports r0.1.1).fanswered then some (ieq (h0.fports r0.1.1).fasked.fSeq seq, ()) else some (false, ()))) none fun r8 => (bif r8.1 then (oelim ((oelim (cK27 n h0) none fun r9 => (oelim (cK106 (h0.fports r0.1.1).fasked r9.1.1 now) none fun r10 => some ((n, ()), (h0, (r10.1.1, (g7, (g8, ())))))))) none fun r11 => (oelim (cK23 r11.1.1 r11.2.2.1 (lnil api_Tlv) false r11.2.1) none fun r12 => some ((), ((r12.2.1.1, r11.2.2.2), ())))) else some ((), ((h0, (g7, (g8, ()))), ())))) else some ((), ((h0, (g7, (g8, ()))), ())))))))
def K28 : K28.T := K28.gen K29 K27 K23 K55 K105 K106
theorem K28.eq (cK29 : K29.T) (cK27 : K27.T) (cK23 : K23.T) (cK55 : K55.T) (cK105 : K105.T) (cK106 : K106.T) : EqA K28.sig (K28.H cK29 cK27 cK23 cK55 cK105 cK106) Tryz.f47 6 (K28.W (K28.gen cK29 cK27 cK23 cK55 cK105 cK106)) := by intro a x; kernel_rfl
theorem K28.ok : NK_ 47 K28.sig (K28.W K28) := ok_ Tryz.func47 (K28.eq K29 K27 K23 K55 K105 K106) (hn_ (Z0 (Z0 (Z0 (Z0 (Z0 (Z0 Z2 K29.ok) K27.ok) K23.ok) K55.ok) K105.ok) K106.ok))
def K11.sig : Sig U := ⟨[.ptr, .data .t_api_Event], [.obj .t_clock_Clock, fm5_, fm6_, fm7_, fm8_, fm9_, fm10_, .fam 12 (.map true false .t_api_PortID .l_u64)], 0, [.isl .t_api_Out], false, []⟩
abbrev K11.T : Type := (api_Event) → (clock_Clock) → (Fm servo_Servo) → (Fm foreign_Table) → (Fm delay_Exchange) → (Fm peer_Exchange) → (Fm median_Filter) → (Fm seq_Match) → (Nat × (Nat → List (api_PortID × List (Int)))) → Option (((List (api_Out)) × Unit) × (clock_Clock × qT1_) × Unit)
def K11.W (f : K11.T) : K11.sig.F := fun a x => f a.2.1 x.1 x.2.1 x.2.2.1 x.2.2.2.1 x.2.2.2.2.1 x.2.2.2.2.2.1 x.2.2.2.2.2.2.1 x.2.2.2.2.2.2.2.1
abbrev K11.N (c : K11.T) := addΓ 19 (K11.sig.native (K11.W c))
def K11.JR20 : Exits U := [(.normal, ⟨107, 14, [(0, .ptr 13 0 0)], (13, .obj .t_clock_Clock) :: hT0_⟩)]
def K11.JR15 : Exits U := [(.normal, ⟨107, 15, [(0, .ptr 13 0 0), (3, .ptr 14 0 0)], (13, .obj .t_clock_Clock) :: (14, .obj .t_api_Event) :: hT0_⟩)]
def K11.H (cK31 : K31.T) (cK20 : K20.T) (cK22 : K22.T) (cK28 : K28.T) (cK47 : K47.T) (cK15 : K15.T) : Hints U := { Γ := (addΓ 49 (K15.sig.native (K15.W cK15)) (addΓ 48 (K47.sig.native (K47.W cK47)) (addΓ 47 (K28.sig.native (K28.W cK28)) (K22.N cK22 (addΓ 45 (K20.sig.native (K20.W cK20)) (addΓ 44 (K31.sig.native (K31.W cK31)) noΓ)))))), ro := 0, base := 14, joinQ := jt_ [(16, [(83, vb_)])], joinR := jt_ [(1, K11.JR15), (11, K11.JR20), (12, K11.JR20), (15, K11.JR15), (17, K11.JR20), (18, K11.JR20), (19, K11.JR20), (20, K11.JR20)], joinC := jt_ [(14, K11.JR20)] }
def K11.gen (cK31 : K31.T) (cK20 : K20.T) (cK22 : K22.T) (cK28 : K28.T) (cK47 : K47.T) (cK15 : K15.T) : K11.T := fun e h0 g5 g6 g7 g8 g9 g10 g12 =>
 (bif ieq e.fKind 1 then (oelim ((oelim (cK31 (Z4 true 0 (Z4 false e.fNow 4000000000000000)) (clock_Clock.set_fouts h0 (lnil api_Out)) g6 g7 g8 g9 g10 g12) none fun r0 => some ((), (r0.2.1.1, (g5, r0.2.1.2))))) none fun r1 => some ((r1.2.1.fouts, ()), (r1.2, ()))) else (bif ieq e.fKind 2 then (oelim ((oelim (cK20 e.fPort e.fBytes (Z4 true 0 (Z4 false e.fNow 4000000000000000)) (clock_Clock.set_fouts h0 (lnil api_Out)) g5 g6 g7 g8 g9 g10 g12) none fun r2 => some ((), r2.2.1))) none fun r3 => some ((r3.2.1.fouts, ()), (r3.2, ()))) else (bif ieq e.fKind 3 then (oelim (cK22 e.fPort (clock_Clock.set_fouts h0 (lnil api_Out))) none fun r4 => (oelim ((bif !r4.1.1 then (oelim (cK28 e.fPort e.fType e.fSeq (Z4 true 0 (Z4 false e.fNow 4000000000000000)) (clock_Clock.set_fouts h0 (lnil api_Out)) g7 g8) none fun r5 => some ((), (r5.2.1.1, (g5, (g6, (r5.2.1.2.1, (r5.2.1.2.2.1, (g9, (g10, (g12, ())))))))))) else some ((), (clock_Clock.set_fouts h0 (lnil api_Out), (g5, (g6, (g7, (g8, (g9, (g10, (g12, ()))))))))))) none fun r6 => some ((r6.2.1.fouts, ()), (r6.2, ())))) else (bif ieq e.fKind 4 then (oelim ((oelim (cK47 h0.fconf) none fun r7 => (bif ine r7.1.1 0 then some (true, ()) else (bif ine h0.fconf.fClock h0.fconf.fClock then some (true, ()) else some (ine h0.fconf.fPorts h0.fconf.fPorts, ()))))) none fun r8 => (bif r8.1 then some ((lnil api_Out, ()), ((clock_Clock.set_fouts (clock_Clock.set_fdrops h0 (iadd .i64 h0.fdrops 1)) (lnil api_Out), (g5, (g6, (g7, (g8, (g9, (g10, (g12, ())))))))), ())) else (oelim ((oelim (cK15 h0.fconf (clock_Clock.set_fouts h0 (lnil api_Out)) g5 g6 g7 g8 g9 g10 g12) none fun r9 => some ((), r9.2.1))) none fun r10 => some ((r10.2.1.fouts, ()), (r10.2, ()))))) else (bif ieq e.fKind 5 then (oelim ((oelim (cK47 e.fConf) none fun r11 => (bif ine r11.1.1 0 then some (true, ()) else (bif ine e.fConf.fClock h0.fconf.fClock then some (true, ()) else some (ine e.fConf.fPorts h0.fconf.fPorts, ()))))) none fun r12 => (bif r12.1 then some ((lnil api_Out, ()), ((clock_Clock.set_fouts (clock_Clock.set_fdrops h0 (iadd .i64 h0.fdrops 1)) (lnil api_Out), (g5, (g6, (g7, (g8, (g9, (g10, (g12, ())))))))), ())) else (oelim ((oelim (cK15 e.fConf (clock_Clock.set_fouts h0 (lnil api_Out)) g5 g6 g7 g8 g9 g10 g12) none fun r13 => some ((), r13.2.1))) none fun r14 => some ((r14.2.1.fouts, ()), (r14.2, ()))))) else (bif ieq e.fKind 6 then none else (bif ieq e.fKind 7 then none else some ((lnil api_Out, ()), ((clock_Clock.set_fouts h0 (lnil api_Out), (g5, (g6, (g7, (g8, (g9, (g10, (g12, ())))))))), ())))))))))
def K11 : K11.T := K11.gen K31 K20 K22 K28 K47 K15
theorem K11.eq (cK31 : K31.T) (cK20 : K20.T) (cK22 : K22.T) (cK28 : K28.T) (cK47 : K47.T) (cK15 : K15.T) : EqA K11.sig (K11.H cK31 cK20 cK22 cK28 cK47 cK15) Tryz.f19 6 (K11.W (K11.gen cK31 cK20 cK22 cK28 cK47 cK15)) := by intro a x; kernel_rfl
theorem K11.ok : NK_ 19 K11.sig (K11.W K11) := ok_ Tryz.func19 (K11.eq K31 K20 K22 K28 K47 K15) (hn_ (Z0 (Z0 (Z0 (Z0 (Z0 (Z0 Z2 K31.ok) K20.ok) K22.ok) K28.ok) K47.ok) K15.ok))
def K84.sig : Sig U := ⟨[.ptr, .int .i64], [.obj .t_clock_Clock, fm5_, fm6_, fm7_, fm8_, fm9_, fm10_, .fam 12 (.map true false .t_api_PortID .l_u64)], 0, [.isl .t_api_Out], false, []⟩
abbrev K84.T : Type := (Int) → (clock_Clock) → (Fm servo_Servo) → (Fm foreign_Table) → (Fm delay_Exchange) → (Fm peer_Exchange) → (Fm median_Filter) → (Fm seq_Match) → (Nat × (Nat → List (api_PortID × List (Int)))) → Option (((List (api_Out)) × Unit) × (clock_Clock × qT1_) × Unit)
def K84.W (f : K84.T) : K84.sig.F := fun a x => f a.2.1 x.1 x.2.1 x.2.2.1 x.2.2.2.1 x.2.2.2.2.1 x.2.2.2.2.2.1 x.2.2.2.2.2.2.1 x.2.2.2.2.2.2.2.1
def K84.L0 : Shape U := ⟨18, 15, [(0, .ptr 13 0 0), (1, vi_), (5, .own .t_api_Out 14), (6, vi_)], (13, .obj .t_clock_Clock) :: (14, .tok) :: hT0_⟩
def K84.X0 : Exits U := [(.exit 0, ⟨18, 15, [(5, .own .t_api_Out 14)], (13, .obj .t_clock_Clock) :: (14, .tok) :: hT0_⟩)]
abbrev K84.l0T : Type := ((Int × (List (api_Out)) × Int × Unit) × (clock_Clock × qT1_)) → Option ((((List (api_Out)) × Unit) × (clock_Clock × qT1_)))
def K84.C : Code := match Tryz.f16.body with | some c => c | none => .skip
def K84.B0 : Code := match (Z3 K84.C).getD 0 .skip with | .loop b => b | .scope b => b | _ => .skip
def K84.JR5 : Exits U := [(.normal, ⟨18, 15, [(0, .ptr 13 0 0), (1, vi_), (5, .own .t_api_Out 14), (6, vi_)], (13, .obj .t_clock_Clock) :: (14, .tok) :: hT0_⟩)]
def K84.H (cK11 : K11.T) (l0 : K84.l0T) : Hints U := { Γ := (K11.N cK11 noΓ), ro := 0, base := 14, joinR := jt_ [(5, K84.JR5)], loop := jt_ [(3, (Za (0, 14) K84.L0 K84.X0 l0))] }
def K84.step0 (cK11 : K11.T) (a : (Int × (List (api_Out)) × Int × Unit) × (clock_Clock × qT1_)) : Option (((Int × (List (api_Out)) × Int × Unit) × (clock_Clock × qT1_)) ⊕ ((((List (api_Out)) × Unit) × (clock_Clock × qT1_)))) :=
 (bif ilt a.1.2.2.1 a.1.1 then (oelim ((oelim (cK11 (api_Event.mk 1 0 1000 0 0 (ByteArray.mk (List.toArray (lnil UInt8))) z7_) a.2.1 a.2.2.1 a.2.2.2.1 a.2.2.2.2.1 a.2.2.2.2.2.1 a.2.2.2.2.2.2.1 a.2.2.2.2.2.2.2.1 a.2.2.2.2.2.2.2.2.1) none fun r0 => (bif room (List.length a.1.2.1 + List.length r0.1.1) 64 then some ((a.1.1, (a.1.2.1 ++ r0.1.1, a.1.2.2)), r0.2.1) else none))) none fun r1 => some (.inl ((r1.1.1, (r1.1.2.1, (iadd .i64 r1.1.2.2.1 1, ()))), r1.2))) else some (.inr ((a.1.2.1, ()), a.2)))
def K84.F0 : K84.l0T := fun a => Z8 (1000000 + (a.1.2.1.length)) (K84.step0 K11) a
def K84.gen (cK11 : K11.T) (l0 : K84.l0T) : K84.T := fun n h0 g5 g6 g7 g8 g9 g10 g12 =>
 (oelim (l0 ((n, lnil api_Out, (0 : Int), ()), h0, g5, g6, g7, g8, g9, g10, g12, ())) none fun r0 => some (r0.1, (r0.2, ())))
def K84 : K84.T := K84.gen K11 K84.F0
theorem K84.seq0 (cK11 : K11.T) (l0 : K84.l0T) (a : K84.L0.T) : run Tryz.prog (K84.H cK11 l0) 6 (Option (K84.L0.T ⊕ ExT K84.X0)) none K84.B0 (K84.L0.enc a) (Zn (0, 14) K84.L0 K84.X0) = K84.step0 cK11 a := by kernel_rfl
abbrev K84.h := K84.H K11 K84.F0
theorem K84.lok0 : LO_ K84.h K84.B0 (Za (0, 14) K84.L0 K84.X0 K84.F0) := lk_ (hn_ (Z0 Z2 K11.ok)) (K84.seq0 K11 K84.F0)
theorem K84.eq (cK11 : K11.T) (l0 : K84.l0T) : EqA K84.sig (K84.H cK11 l0) Tryz.f16 6 (K84.W (K84.gen cK11 l0)) := by intro a x; kernel_rfl
theorem K84.loops : Z3 K84.C = [(.loop K84.B0)] := by kernel_rfl
theorem K84.ok : NK_ 16 K84.sig (K84.W K84) := ok_ Tryz.func16 (K84.eq K11 K84.F0) (hl_ (Z0 Z2 K11.ok) (Z9 (by kernel_rfl) K84.lok0 Z6)) K84.loops
def K81.sig : Sig U := ⟨[.int .u64, .int .i64, .int .i64, .int .i64], [], 0, [.data .t_api_Event], false, []⟩
abbrev K81.T : Type := (Int) → (Int) → (Int) → (Int) → Option ((api_Event × Unit) × Unit × Unit)
def K81.W (f : K81.T) : K81.sig.F := fun a x => f a.1 a.2.1 a.2.2.1 a.2.2.2.1
def K81.H (cK67 : K67.T) : Hints U := { Γ := (K67.N cK67 noΓ), ro := 0, base := 13 }
def K81.gen (cK67 : K67.T) : K81.T := fun id prio seq steps =>
 (oelim (cK67 (api_Msg.mk 11 0 8 0 (api_PortID.mk id 1) seq (-3) 0 z0_ 37 prio (api_Quality.mk 248 254 65535) 128 id steps 160 0 0 0) (lnil api_Tlv)) none fun r0 => some ((api_Event.mk 2 1 1000 0 0 r0.1.1 z7_, ()), ((), ())))
def K81 : K81.T := K81.gen K67
theorem K81.eq (cK67 : K67.T) : EqA K81.sig (K81.H cK67) Tryz.f35 6 (K81.W (K81.gen cK67)) := by intro a x; kernel_rfl
theorem K81.ok : NK_ 35 K81.sig (K81.W K81) := ok_ Tryz.func35 (K81.eq K67) (hn_ (Z0 Z2 K67.ok))
def K10.sig : Sig U := ⟨[.ptr, .int .i64], [.obj .t_clock_Clock], 1, [.int .i64], false, []⟩
abbrev K10.T : Type := (Int) → (clock_Clock) → Option ((Int × Unit) × Unit × Unit)
def K10.W (f : K10.T) : K10.sig.F := fun a x => f a.2.1 x.1
def K10.H (cK22 : K22.T) (cK29 : K29.T) : Hints U := { Γ := (K29.N cK29 (K22.N cK22 (addΓ 5000000021 Z1i noΓ))), ro := 14, base := 14 }
def K10.gen (cK22 : K22.T) (cK29 : K29.T) : K10.T := fun n h0 =>
 (oelim (cK22 n h0) none fun r0 => (bif r0.1.1 then some (((0 : Int), ()), ((), ())) else (oelim (cK29 n h0) none fun r1 => some (((h0.fports r1.1.1).fstate, ()), ((), ())))))
def K10 : K10.T := K10.gen K22 K29
theorem K10.eq (cK22 : K22.T) (cK29 : K29.T) : EqA K10.sig (K10.H cK22 cK29) Tryz.f21 6 (K10.W (K10.gen cK22 cK29)) := by intro a x; kernel_rfl
theorem K10.ok : NK_ 21 K10.sig (K10.W K10) := ok_ Tryz.func21 (K10.eq K22 K29) (hn_ (Z0 (Z0 (Z0 Z2 Zg) K22.ok) K29.ok))
def K80.sig : Sig U := ⟨[.data .t_api_Msg, .int .i64, .ptr], [.obj .p_t_clock_Clock, fm0_, fm5_, fm6_, fm7_, fm8_, fm9_, fm10_, .fam 12 (.map true false .t_api_PortID .l_u64)], 0, [.isl .t_api_Out], false, []⟩
abbrev K80.T : Type := (api_Msg) → (Int) → (Option Nat) → (Fm clock_Clock) → (Fm servo_Servo) → (Fm foreign_Table) → (Fm delay_Exchange) → (Fm peer_Exchange) → (Fm median_Filter) → (Fm seq_Match) → (Nat × (Nat → List (api_PortID × List (Int)))) → Option (((List (api_Out)) × Unit) × ((Option Nat) × qT0_) × Unit)
def K80.W (f : K80.T) : K80.sig.F := fun a x => f a.1 a.2.1 x.1 x.2.1 x.2.2.1 x.2.2.2.1 x.2.2.2.2.1 x.2.2.2.2.2.1 x.2.2.2.2.2.2.1 x.2.2.2.2.2.2.2.1 x.2.2.2.2.2.2.2.2.1
def K80.H (cK67 : K67.T) (cK11 : K11.T) : Hints U := { Γ := (K11.N cK11 (K67.N cK67 noΓ)), ro := 0, base := 14 }
def K80.gen (cK67 : K67.T) (cK11 : K11.T) : K80.T := fun m now h0 g0 g5 g6 g7 g8 g9 g10 g12 =>
 (oelim (cK67 m (lnil api_Tlv)) none fun r0 => (oelim (h0) none fun r1 => (oelim (cK11 (api_Event.mk 2 1 now 0 0 r0.1.1 z7_) (g0.2 r1) g5 g6 g7 g8 g9 g10 g12) none fun r2 => some (r2.1, ((h0, ((g0.1, fset g0.2 r1 r2.2.1.1), r2.2.1.2)), ())))))
def K80 : K80.T := K80.gen K67 K11
theorem K80.eq (cK67 : K67.T) (cK11 : K11.T) : EqA K80.sig (K80.H cK67 cK11) Tryz.f36 6 (K80.W (K80.gen cK67 cK11)) := by intro a x; kernel_rfl
theorem K80.ok : NK_ 36 K80.sig (K80.W K80) := ok_ Tryz.func36 (K80.eq K67 K11) (hn_ (Z0 (Z0 Z2 K67.ok) K11.ok))
def K8.sig : Sig U := ⟨[.ptr], [.obj .t_clock_Clock], 1, [.int .i64], false, []⟩
abbrev K8.T : Type := (clock_Clock) → Option ((Int × Unit) × Unit × Unit)
def K8.W (f : K8.T) : K8.sig.F := fun a x => f x.1
def K8.H : Hints U := { Γ := (addΓ 5000000021 Z1i noΓ), ro := 14, base := 14 }
def K8.gen : K8.T := fun h0 =>
 some ((h0.fdelay.fv, ()), ((), ()))
def K8 : K8.T := K8.gen
theorem K8.ok : NK_ 37 K8.sig (K8.W K8) := ok_ (H := K8.H) (n := 6) Tryz.func37 (by intro a x; kernel_rfl) (hn_ (Z0 Z2 Zg))
def K9.sig : Sig U := ⟨[.ptr], [.obj .t_clock_Clock], 1, [.int .i64], false, []⟩
abbrev K9.T : Type := (clock_Clock) → Option ((Int × Unit) × Unit × Unit)
def K9.W (f : K9.T) : K9.sig.F := fun a x => f x.1
def K9.H : Hints U := { Γ := (addΓ 5000000021 Z1i noΓ), ro := 14, base := 14 }
def K9.gen : K9.T := fun h0 =>
 some ((h0.foffset, ()), ((), ()))
def K9 : K9.T := K9.gen
theorem K9.ok : NK_ 38 K9.sig (K9.W K9) := ok_ (H := K9.H) (n := 6) Tryz.func38 (by intro a x; kernel_rfl) (hn_ (Z0 Z2 Zg))
def K82.sig : Sig U := ⟨[], [fm0_, fm5_, fm6_, fm7_, fm8_, fm9_, fm10_, .fam 12 (.map true false .t_api_PortID .l_u64)], 0, [.bool], false, []⟩
abbrev K82.T : Type := (Fm clock_Clock) → (Fm servo_Servo) → (Fm foreign_Table) → (Fm delay_Exchange) → (Fm peer_Exchange) → (Fm median_Filter) → (Fm seq_Match) → (Nat × (Nat → List (api_PortID × List (Int)))) → Option ((Bool × Unit) × (qT0_) × Unit)
def K82.W (f : K82.T) : K82.sig.F := fun a x => f x.1 x.2.1 x.2.2.1 x.2.2.2.1 x.2.2.2.2.1 x.2.2.2.2.2.1 x.2.2.2.2.2.2.1 x.2.2.2.2.2.2.2.1
def K82.L0 : Shape U := ⟨40, 13, [(1, .val (.ref 0)), (3, vi_), (4, vi_)], hT6_⟩
def K82.X0 : Exits U := [(.exit 0, ⟨40, 13, [(1, .val (.ref 0)), (3, vi_)], hT6_⟩)]
abbrev K82.l0T : Type := (((Option Nat) × Int × Int × Unit) × (qT0_)) → Option ((((Option Nat) × Int × Unit) × (qT0_)))
def K82.C : Code := match Tryz.f22.body with | some c => c | none => .skip
def K82.B0 : Code := match (Z3 K82.C).getD 0 .skip with | .loop b => b | .scope b => b | _ => .skip
def K82.H (cK48 : K48.T) (cK32 : K32.T) (cK10 : K10.T) (cK11 : K11.T) (l0 : K82.l0T) : Hints U := { Γ := (K11.N cK11 (addΓ 21 (K10.sig.native (K10.W cK10)) (addΓ 24 (K32.sig.native (K32.W cK32)) (addΓ 23 (K48.sig.native (K48.W cK48)) noΓ)))), ro := 0, base := 13, joinQ := jt_ [(2, [(20, vb_)])], loop := jt_ [(7, (Za (0, 13) K82.L0 K82.X0 l0))] }
def K82.step0 (cK48 : K48.T) (cK32 : K32.T) (cK10 : K10.T) (cK11 : K11.T) (a : ((Option Nat) × Int × Int × Unit) × (qT0_)) : Option ((((Option Nat) × Int × Int × Unit) × (qT0_)) ⊕ ((((Option Nat) × Int × Unit) × (qT0_)))) :=
 (bif ilt a.1.2.2.1 48 then (oelim ((oelim (a.1.1) none fun r0 => (oelim (cK11 (api_Event.mk 1 0 0 0 0 (ByteArray.mk (List.toArray (lnil UInt8))) z7_) (a.2.1.2 r0) a.2.2.1 a.2.2.2.1 a.2.2.2.2.1 a.2.2.2.2.2.1 a.2.2.2.2.2.2.1 a.2.2.2.2.2.2.2.1 a.2.2.2.2.2.2.2.2.1) none fun r1 => some (r0, r1)))) none fun r2 => some (.inl ((a.1.1, (a.1.2.1, (iadd .i64 a.1.2.2.1 1, ()))), ((a.2.1.1, fset a.2.1.2 r2.1 r2.2.2.1.1), r2.2.2.1.2)))) else some (.inr ((a.1.1, (a.1.2.1, ())), a.2)))
def K82.F0 : K82.l0T := fun a => Z8 (1000000) (K82.step0 K48 K32 K10 K11) a
def K82.gen (cK48 : K48.T) (cK32 : K32.T) (cK10 : K10.T) (cK11 : K11.T) (l0 : K82.l0T) : K82.T := fun g0 g5 g6 g7 g8 g9 g10 g12 =>
 (oelim (cK48 1) none fun r0 => (oelim (cK32 r0.1.1 g0 g5 g6 g7 g8 g9 g10 g12) none fun r1 => (oelim ((bif ine r1.1.2.1 0 then some (true, ()) else (bif !Option.isSome r1.1.1 then some (true, ()) else (oelim ((oelim (r1.1.1) none fun r2 => (oelim (cK10 1 (r1.2.1.1.2 r2)) none fun r3 => some (r2, r3)))) none fun r4 => some (ine r4.2.1.1 1, ()))))) none fun r5 => (bif r5.1 then some ((false, ()), r1.2) else (oelim ((oelim (r1.1.1) none fun r6 => (oelim (cK11 (api_Event.mk 1 0 0 0 0 (ByteArray.mk (List.toArray (lnil UInt8))) z7_) (r1.2.1.1.2 r6) r1.2.1.2.1 r1.2.1.2.2.1 r1.2.1.2.2.2.1 r1.2.1.2.2.2.2.1 r1.2.1.2.2.2.2.2.1 r1.2.1.2.2.2.2.2.2.1 r1.2.1.2.2.2.2.2.2.2.1) none fun r7 => some (r6, r7)))) none fun r8 => (oelim ((oelim (r1.1.1) none fun r9 => (oelim (cK10 1 (fset r1.2.1.1.2 r8.1 r8.2.2.1.1 r9)) none fun r10 => some (r9, r10)))) none fun r11 => (oelim (l0 ((r1.1.1, r11.2.1.1, (0 : Int), ()), (r1.2.1.1.1, fset r1.2.1.1.2 r8.1 r8.2.2.1.1), r8.2.2.1.2)) none fun r12 => (bif ieq r12.1.2.1 4 then (oelim ((oelim (r12.1.1) none fun r13 => (oelim (cK10 1 (r12.2.1.2 r13)) none fun r14 => some (r13, r14)))) none fun r15 => some ((ieq r15.2.1.1 6, ()), (r12.2, ()))) else some ((false, ()), (r12.2, ()))))))))))
def K82 : K82.T := K82.gen K48 K32 K10 K11 K82.F0
def K82.A : Option Unit := Z64 (K82 (0, fun _ => U.dft .t_clock_Clock) (0, fun _ => U.dft .t_servo_Servo) (0, fun _ => U.dft .t_foreign_Table) (0, fun _ => U.dft .t_delay_Exchange) (0, fun _ => U.dft .t_peer_Exchange) (0, fun _ => U.dft .t_median_Filter) (0, fun _ => U.dft .t_seq_Match) (0, fun _ => []))
theorem K82.seq0 (cK48 : K48.T) (cK32 : K32.T) (cK10 : K10.T) (cK11 : K11.T) (l0 : K82.l0T) (a : K82.L0.T) : run Tryz.prog (K82.H cK48 cK32 cK10 cK11 l0) 6 (Option (K82.L0.T ⊕ ExT K82.X0)) none K82.B0 (K82.L0.enc a) (Zn (0, 13) K82.L0 K82.X0) = K82.step0 cK48 cK32 cK10 cK11 a := by kernel_rfl
abbrev K82.h := K82.H K48 K32 K10 K11 K82.F0
theorem K82.lok0 : LO_ K82.h K82.B0 (Za (0, 13) K82.L0 K82.X0 K82.F0) := lk_ (hn_ (Z0 (Z0 (Z0 (Z0 Z2 K48.ok) K32.ok) K10.ok) K11.ok)) (K82.seq0 K48 K32 K10 K11 K82.F0)
theorem K82.eq (cK48 : K48.T) (cK32 : K32.T) (cK10 : K10.T) (cK11 : K11.T) (l0 : K82.l0T) : EqA K82.sig (K82.H cK48 cK32 cK10 cK11 l0) Tryz.f22 6 (K82.W (K82.gen cK48 cK32 cK10 cK11 l0)) := by intro a x; kernel_rfl
theorem K82.loops : Z3 K82.C = [(.loop K82.B0)] := by kernel_rfl
theorem K82.hints : HintsOK U Tryz.prog K82.h (fun c => c ∈ [(.loop K82.B0)]) := (hq (Z0 (Z0 (Z0 (Z0 Z2 K48.ok) K32.ok) K10.ok) K11.ok) (Z9 (by kernel_rfl) K82.lok0 Z6) (fun _ => rfl) (fun _ => rfl))
theorem K82.okA : Zw U Tryz.prog 22 (Z5l K82.A) :=
 Z8U U_ok (fs := [fm0_, fm5_, fm6_, fm7_, fm8_, fm9_, fm10_, .fam 12 (.map true false .t_api_PortID .l_u64)]) (code := K82.C) (gos := 6) K82.hints Tryz.func22 (by kernel_rfl) (by kernel_rfl) (fun b h => by rw [K82.loops] at h; exact h) (fun h => let ⟨y, hy⟩ := Z8d h; ⟨y, (K82.eq K48 K32 K10 K11 K82.F0 () (fam0 (U := U) [fm0_, fm5_, fm6_, fm7_, fm8_, fm9_, fm10_, .fam 12 (.map true false .t_api_PortID .l_u64)])).trans hy⟩) rfl rfl (by decide) (by decide)
def K79.sig : Sig U := ⟨[.int .i64, .int .i64, .int .i64], [fm0_, fm5_, fm6_, fm7_, fm8_, fm9_, fm10_, .fam 12 (.map true false .t_api_PortID .l_u64)], 0, [.bool], false, []⟩
abbrev K79.T : Type := (Int) → (Int) → (Int) → (Fm clock_Clock) → (Fm servo_Servo) → (Fm foreign_Table) → (Fm delay_Exchange) → (Fm peer_Exchange) → (Fm median_Filter) → (Fm seq_Match) → (Nat × (Nat → List (api_PortID × List (Int)))) → Option ((Bool × Unit) × (qT0_) × Unit)
def K79.W (f : K79.T) : K79.sig.F := fun a x => f a.1 a.2.1 a.2.2.1 x.1 x.2.1 x.2.2.1 x.2.2.2.1 x.2.2.2.2.1 x.2.2.2.2.2.1 x.2.2.2.2.2.2.1 x.2.2.2.2.2.2.2.1
def K79.L0 : Shape U := ⟨172, 15, [(7, vi_), (8, vi_), (9, vi_), (10, .ptr 13 0 0), (11, .own .t_api_Out 14), (12, vi_)], (13, .obj .p_t_clock_Clock) :: (14, .tok) :: hT6_⟩
def K79.X0 : Exits U := [(.exit 0, ⟨172, 15, [(7, vi_), (8, vi_), (9, vi_), (10, .ptr 13 0 0), (11, .own .t_api_Out 14)], (13, .obj .p_t_clock_Clock) :: (14, .tok) :: hT6_⟩)]
abbrev K79.l0T : Type := ((Int × Int × Int × (List (api_Out)) × Int × Unit) × ((Option Nat) × qT0_)) → Option (((Int × Int × Int × (List (api_Out)) × Unit) × ((Option Nat) × qT0_)))
def K79.L1 : Shape U := ⟨172, 15, [(7, vi_), (8, vi_), (9, vi_), (10, .ptr 13 0 0), (11, .own .t_api_Out 14), (13, vi_), (14, vi_)], (13, .obj .p_t_clock_Clock) :: (14, .tok) :: hT6_⟩
def K79.X1 : Exits U := [(.exit 2, ⟨172, 14, [(7, vi_), (8, vi_), (9, vi_), (10, .ptr 13 0 0), (13, vi_)], (13, .obj .p_t_clock_Clock) :: hT6_⟩)]
abbrev K79.l1T : Type := ((Int × Int × Int × (List (api_Out)) × Int × Int × Unit) × ((Option Nat) × qT0_)) → Option (((Int × Int × Int × Int × Unit) × ((Option Nat) × qT0_)))
def K79.C : Code := match Tryz.f10.body with | some c => c | none => .skip
def K79.B0 : Code := match (Z3 K79.C).getD 0 .skip with | .loop b => b | .scope b => b | _ => .skip
def K79.B1 : Code := match (Z3 K79.C).getD 1 .skip with | .loop b => b | .scope b => b | _ => .skip
def K79.JC20 : Exits U := [(.normal, ⟨172, 15, [(7, vi_), (8, vi_), (9, vi_), (10, .ptr 13 0 0), (11, .own .t_api_Out 14), (13, vi_), (14, vi_)], (13, .obj .p_t_clock_Clock) :: (14, .tok) :: hT6_⟩)]
def K79.H (cK78 : K78.T) (cK83 : K83.T) (cK84 : K84.T) (cK81 : K81.T) (cK11 : K11.T) (cK10 : K10.T) (cK80 : K80.T) (cK8 : K8.T) (cK9 : K9.T) (cK82 : Option Unit) (l0 : K79.l0T) (l1 : K79.l1T) : Hints U := { Γ := (addΓ 22 (Z5l cK82) (addΓ 38 (K9.sig.native (K9.W cK9)) (addΓ 37 (K8.sig.native (K8.W cK8)) (addΓ 36 (K80.sig.native (K80.W cK80)) (addΓ 21 (K10.sig.native (K10.W cK10)) (K11.N cK11 (addΓ 35 (K81.sig.native (K81.W cK81)) (addΓ 16 (K84.sig.native (K84.W cK84)) (addΓ 15 (K83.sig.native (K83.W cK83)) (addΓ 17 (K78.sig.native (K78.W cK78)) noΓ)))))))))), ro := 0, base := 13, joinQ := jt_ [(19, [(68, vb_)]), (27, [(126, vb_)])], joinC := jt_ [(20, K79.JC20)], loop := jt_ [(9, (Za (0, 13) K79.L0 K79.X0 l0)), (17, (Za (0, 13) K79.L1 K79.X1 l1))] }
def K79.step1 (cK78 : K78.T) (cK83 : K83.T) (cK84 : K84.T) (cK81 : K81.T) (cK11 : K11.T) (cK10 : K10.T) (cK80 : K80.T) (cK8 : K8.T) (cK9 : K9.T) (cK82 : Option Unit) (a : (Int × Int × Int × (List (api_Out)) × Int × Int × Unit) × ((Option Nat) × qT0_)) : Option (((Int × Int × Int × (List (api_Out)) × Int × Int × Unit) × ((Option Nat) × qT0_)) ⊕ (((Int × Int × Int × Int × Unit) × ((Option Nat) × qT0_)))) :=
 (bif ilt a.1.2.2.2.2.2.1 (ofN (List.length a.1.2.2.2.1)) then (oelim ((bif inR a.1.2.2.2.2.2.1 (List.length a.1.2.2.2.1) then (bif ieq (List.getD a.1.2.2.2.1 (Int.toNat a.1.2.2.2.2.2.1) api_Out.zero).fType 1 then (bif inR a.1.2.2.2.2.2.1 (List.length a.1.2.2.2.1) then some (ieq (List.getD a.1.2.2.2.1 (Int.toNat a.1.2.2.2.2.2.1) api_Out.zero).fKind 1, ()) else none) else some (false, ())) else none)) none fun r0 => (oelim ((bif r0.1 then (bif inR a.1.2.2.2.2.2.1 (List.length a.1.2.2.2.1) then some ((a.1.1, (a.1.2.1, (a.1.2.2.1, (a.1.2.2.2.1, ((List.getD a.1.2.2.2.1 (Int.toNat a.1.2.2.2.2.2.1) api_Out.zero).fSeq, a.1.2.2.2.2.2))))), a.2) else none) else some a)) none fun r1 => some (.inl ((r1.1.1, (r1.1.2.1, (r1.1.2.2.1, (r1.1.2.2.2.1, (r1.1.2.2.2.2.1, (iadd .i64 r1.1.2.2.2.2.2.1 1, ())))))), r1.2)))) else some (.inr ((a.1.1, (a.1.2.1, (a.1.2.2.1, (a.1.2.2.2.2.1, ())))), a.2)))
def K79.F1 : K79.l1T := fun a => Z8 (1000000 + (a.1.2.2.2.1.length)) (K79.step1 K78 K83 K84 K81 K11 K10 K80 K8 K9 K82.A) a
def K79.step0 (cK78 : K78.T) (cK83 : K83.T) (cK84 : K84.T) (cK81 : K81.T) (cK11 : K11.T) (cK10 : K10.T) (cK80 : K80.T) (cK8 : K8.T) (cK9 : K9.T) (cK82 : Option Unit) (a : (Int × Int × Int × (List (api_Out)) × Int × Unit) × ((Option Nat) × qT0_)) : Option (((Int × Int × Int × (List (api_Out)) × Int × Unit) × ((Option Nat) × qT0_)) ⊕ (((Int × Int × Int × (List (api_Out)) × Unit) × ((Option Nat) × qT0_)))) :=
 (bif ilt a.1.2.2.2.2.1 3 then (oelim (a.2.1) none fun r0 => (oelim (cK81 77 10 a.1.2.2.2.2.1 0) none fun r1 => (oelim (cK11 r1.1.1 (a.2.2.1.2 r0) a.2.2.2.1 a.2.2.2.2.1 a.2.2.2.2.2.1 a.2.2.2.2.2.2.1 a.2.2.2.2.2.2.2.1 a.2.2.2.2.2.2.2.2.1 a.2.2.2.2.2.2.2.2.2.1) none fun r2 => (oelim (a.2.1) none fun r3 => (oelim (cK84 1 (fset a.2.2.1.2 r0 r2.2.1.1 r3) r2.2.1.2.1 r2.2.1.2.2.1 r2.2.1.2.2.2.1 r2.2.1.2.2.2.2.1 r2.2.1.2.2.2.2.2.1 r2.2.1.2.2.2.2.2.2.1 r2.2.1.2.2.2.2.2.2.2.1) none fun r4 => (bif room (List.length a.1.2.2.2.1 + List.length r4.1.1) 64 then some (.inl ((a.1.1, (a.1.2.1, (a.1.2.2.1, (a.1.2.2.2.1 ++ r4.1.1, (iadd .i64 a.1.2.2.2.2.1 1, ()))))), (a.2.1, ((a.2.2.1.1, fset (fset a.2.2.1.2 r0 r2.2.1.1) r3 r4.2.1.1), r4.2.1.2)))) else none)))))) else some (.inr ((a.1.1, (a.1.2.1, (a.1.2.2.1, (a.1.2.2.2.1, ())))), a.2)))
def K79.F0 : K79.l0T := fun a => Z8 (1000000 + (a.1.2.2.2.1.length)) (K79.step0 K78 K83 K84 K81 K11 K10 K80 K8 K9 K82.A) a
def K79.gen (cK78 : K78.T) (cK83 : K83.T) (cK84 : K84.T) (cK81 : K81.T) (cK11 : K11.T) (cK10 : K10.T) (cK80 : K80.T) (cK8 : K8.T) (cK9 : K9.T) (cK82 : Option Unit) (l0 : K79.l0T) (l1 : K79.l1T) : K79.T := fun d o start g0 g5 g6 g7 g8 g9 g10 g12 =>
 (oelim (cK78 d 1000000) none fun r0 => (oelim (cK78 o 1073741824) none fun r1 => (oelim (cK78 start 1099511627776) none fun r2 => (oelim (cK83 60 1 g0 g5 g6 g7 g8 g9 g10 g12) none fun r3 => (oelim (r3.1.1) none fun r4 => (oelim (r3.1.1) none fun r5 => (oelim (cK84 1 (r3.2.1.1.2 r5) r3.2.1.2.1 r3.2.1.2.2.1 r3.2.1.2.2.2.1 r3.2.1.2.2.2.2.1 r3.2.1.2.2.2.2.2.1 r3.2.1.2.2.2.2.2.2.1 r3.2.1.2.2.2.2.2.2.2.1) none fun r6 => (oelim (l0 ((r0.1.1, iadd .i64 r1.1.1 30000, iadd .i64 r2.1.1 10000000, lnil api_Out, (0 : Int), ()), r3.1.1, (r3.2.1.1.1, fset r3.2.1.1.2 r5 r6.2.1.1), r6.2.1.2)) none fun r7 => (oelim (r7.2.1) none fun r8 => (oelim (cK10 1 (r7.2.2.1.2 r8)) none fun r9 => (bif ine r9.1.1 8 then some ((false, ()), (r7.2.2, ())) else (oelim (l1 ((r7.1.1, r7.1.2.1, r7.1.2.2.1, r7.1.2.2.2.1, (-1 : Int), (0 : Int), ()), r7.2)) none fun r10 => (oelim (cK80 (api_Msg.mk 0 0 0 0 (api_PortID.mk 77 1) 1 0 r10.1.2.2.1 z0_ 0 0 z1_ 0 0 0 0 0 0 0) (iadd .i64 (iadd .i64 r10.1.2.2.1 r10.1.1) r10.1.2.1) r10.2.1 r10.2.2.1 r10.2.2.2.1 r10.2.2.2.2.1 r10.2.2.2.2.2.1 r10.2.2.2.2.2.2.1 r10.2.2.2.2.2.2.2.1 r10.2.2.2.2.2.2.2.2.1 r10.2.2.2.2.2.2.2.2.2.1) none fun r11 => (oelim (r11.2.1.1) none fun r12 => (oelim (cK11 (api_Event.mk 3 1 (iadd .i64 (iadd .i64 r10.1.2.2.1 500) r10.1.2.1) 1 r10.1.2.2.2.1 (ByteArray.mk (List.toArray (lnil UInt8))) z7_) (r11.2.1.2.1.2 r12) r11.2.1.2.2.1 r11.2.1.2.2.2.1 r11.2.1.2.2.2.2.1 r11.2.1.2.2.2.2.2.1 r11.2.1.2.2.2.2.2.2.1 r11.2.1.2.2.2.2.2.2.2.1 r11.2.1.2.2.2.2.2.2.2.2.1) none fun r13 => (oelim (cK80 (api_Msg.mk 9 0 0 0 (api_PortID.mk 77 1) r10.1.2.2.2.1 0 (iadd .i64 (iadd .i64 r10.1.2.2.1 500) r10.1.1) (api_PortID.mk 60 1) 0 0 z1_ 0 0 0 0 0 0 0) (iadd .i64 (iadd .i64 r10.1.2.2.1 2000) r10.1.2.1) r11.2.1.1 (r11.2.1.2.1.1, fset r11.2.1.2.1.2 r12 r13.2.1.1) r13.2.1.2.1 r13.2.1.2.2.1 r13.2.1.2.2.2.1 r13.2.1.2.2.2.2.1 r13.2.1.2.2.2.2.2.1 r13.2.1.2.2.2.2.2.2.1 r13.2.1.2.2.2.2.2.2.2.1) none fun r14 => (oelim ((bif ilt r10.1.2.2.2.1 0 then some (true, ()) else (bif ine (ofN (List.length r11.1.1)) 0 then some (true, ()) else (bif ine (ofN (List.length r14.1.1)) 0 then some (true, ()) else (oelim (r14.2.1.1) none fun r15 => (oelim (cK8 (r14.2.1.2.1.2 r15)) none fun r16 => some (ine r16.1.1 r10.1.1, ()))))))) none fun r17 => (bif r17.1 then some ((false, ()), (r14.2.1.2, ())) else (oelim (cK80 (api_Msg.mk 0 0 0 0 (api_PortID.mk 77 1) 2 0 (iadd .i64 r10.1.2.2.1 9000) z0_ 0 0 z1_ 0 0 0 0 0 0 0) (iadd .i64 (iadd .i64 (iadd .i64 r10.1.2.2.1 9000) r10.1.1) r10.1.2.1) r14.2.1.1 r14.2.1.2.1 r14.2.1.2.2.1 r14.2.1.2.2.2.1 r14.2.1.2.2.2.2.1 r14.2.1.2.2.2.2.2.1 r14.2.1.2.2.2.2.2.2.1 r14.2.1.2.2.2.2.2.2.2.1 r14.2.1.2.2.2.2.2.2.2.2.1) none fun r18 => (bif ieq (ofN (List.length r18.1.1)) 1 then (bif inR 0 (List.length r18.1.1) then (bif ieq (List.getD r18.1.1 (Int.toNat 0) api_Out.zero).fKind 2 then (bif inR 0 (List.length r18.1.1) then (bif ieq (List.getD r18.1.1 (Int.toNat 0) api_Out.zero).fN (IntKind.wrap .i64 ((0 : Int) - r10.1.2.1)) then (oelim (r18.2.1.1) none fun r19 => (oelim (cK9 (r18.2.1.2.1.2 r19)) none fun r20 => (bif ieq r20.1.1 r10.1.2.1 then (oelim (r18.2.1.1) none fun r21 => (oelim (cK10 1 (r18.2.1.2.1.2 r21)) none fun r22 => (bif ieq r22.1.1 9 then (oelim (cK82) none fun r23 => some ((true, ()), (r18.2.1.2, ()))) else some ((false, ()), (r18.2.1.2, ()))))) else some ((false, ()), (r18.2.1.2, ()))))) else some ((false, ()), (r18.2.1.2, ()))) else none) else some ((false, ()), (r18.2.1.2, ()))) else none) else some ((false, ()), (r18.2.1.2, ()))))))))))))))))))))))
def K79 : K79.T := K79.gen K78 K83 K84 K81 K11 K10 K80 K8 K9 K82.A K79.F0 K79.F1
theorem K79.seq1 (cK78 : K78.T) (cK83 : K83.T) (cK84 : K84.T) (cK81 : K81.T) (cK11 : K11.T) (cK10 : K10.T) (cK80 : K80.T) (cK8 : K8.T) (cK9 : K9.T) (cK82 : Option Unit) (l0 : K79.l0T) (l1 : K79.l1T) (a : K79.L1.T) : run Tryz.prog (K79.H cK78 cK83 cK84 cK81 cK11 cK10 cK80 cK8 cK9 cK82 l0 l1) 6 (Option (K79.L1.T ⊕ ExT K79.X1)) none K79.B1 (K79.L1.enc a) (Zn (0, 13) K79.L1 K79.X1) = K79.step1 cK78 cK83 cK84 cK81 cK11 cK10 cK80 cK8 cK9 cK82 a := by kernel_rfl
abbrev K79.h := K79.H K78 K83 K84 K81 K11 K10 K80 K8 K9 K82.A K79.F0 K79.F1
theorem K79.lok1 : LO_ K79.h K79.B1 (Za (0, 13) K79.L1 K79.X1 K79.F1) := lk_ (hn_ (Z0 (Z0 (Z0 (Z0 (Z0 (Z0 (Z0 (Z0 (Z0 (Z0 Z2 K78.ok) K83.ok) K84.ok) K81.ok) K11.ok) K10.ok) K80.ok) K8.ok) K9.ok) K82.okA)) (K79.seq1 K78 K83 K84 K81 K11 K10 K80 K8 K9 K82.A K79.F0 K79.F1)
theorem K79.seq0 (cK78 : K78.T) (cK83 : K83.T) (cK84 : K84.T) (cK81 : K81.T) (cK11 : K11.T) (cK10 : K10.T) (cK80 : K80.T) (cK8 : K8.T) (cK9 : K9.T) (cK82 : Option Unit) (l0 : K79.l0T) (l1 : K79.l1T) (a : K79.L0.T) : run Tryz.prog (K79.H cK78 cK83 cK84 cK81 cK11 cK10 cK80 cK8 cK9 cK82 l0 l1) 6 (Option (K79.L0.T ⊕ ExT K79.X0)) none K79.B0 (K79.L0.enc a) (Zn (0, 13) K79.L0 K79.X0) = K79.step0 cK78 cK83 cK84 cK81 cK11 cK10 cK80 cK8 cK9 cK82 a := by kernel_rfl
theorem K79.lok0 : LO_ K79.h K79.B0 (Za (0, 13) K79.L0 K79.X0 K79.F0) := lk_ (hn_ (Z0 (Z0 (Z0 (Z0 (Z0 (Z0 (Z0 (Z0 (Z0 (Z0 Z2 K78.ok) K83.ok) K84.ok) K81.ok) K11.ok) K10.ok) K80.ok) K8.ok) K9.ok) K82.okA)) (K79.seq0 K78 K83 K84 K81 K11 K10 K80 K8 K9 K82.A K79.F0 K79.F1)
theorem K79.eq (cK78 : K78.T) (cK83 : K83.T) (cK84 : K84.T) (cK81 : K81.T) (cK11 : K11.T) (cK10 : K10.T) (cK80 : K80.T) (cK8 : K8.T) (cK9 : K9.T) (cK82 : Option Unit) (l0 : K79.l0T) (l1 : K79.l1T) : EqA K79.sig (K79.H cK78 cK83 cK84 cK81 cK11 cK10 cK80 cK8 cK9 cK82 l0 l1) Tryz.f10 6 (K79.W (K79.gen cK78 cK83 cK84 cK81 cK11 cK10 cK80 cK8 cK9 cK82 l0 l1)) := by intro a x; kernel_rfl
theorem K79.loops : Z3 K79.C = [(.loop K79.B0), (.loop K79.B1)] := by kernel_rfl
theorem K79.hints : HintsOK U Tryz.prog K79.h (fun c => c ∈ [(.loop K79.B0), (.loop K79.B1)]) := (hq (Z0 (Z0 (Z0 (Z0 (Z0 (Z0 (Z0 (Z0 (Z0 (Z0 Z2 K78.ok) K83.ok) K84.ok) K81.ok) K11.ok) K10.ok) K80.ok) K8.ok) K9.ok) K82.okA) (Z9 (by kernel_rfl) K79.lok0 (Z9 (by kernel_rfl) K79.lok1 Z6)) (fun _ => rfl) (fun _ => rfl))
end
end Go.Proofs.YtgnabnhggaondaaGreat
