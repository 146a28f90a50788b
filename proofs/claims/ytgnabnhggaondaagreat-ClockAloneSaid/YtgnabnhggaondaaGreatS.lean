/- Typed forms of the functions that these statements reach, proved equal to what the model runs, and laws over them. -/
import Derived.Test.YtgnabnhggaondaaGreatSa
namespace Go.Proofs.YtgnabnhggaondaaGreat
open Go.Rf
set_option linter.unusedVariables false
set_option linter.unusedSimpArgs false
set_option maxRecDepth 100000
noncomputable section
def K105.sig : Sig U := ⟨[.isl .u8, .int .i64], [], 0, [.isl .t_api_Tlv, .int .i64], true, []⟩
abbrev K105.T : Type := (List (UInt8)) → (Int) → Option (((List (api_Tlv)) × Int × Unit) × Unit × Unit)
def K105.W (f : K105.T) : K105.sig.F := fun a x => f a.1 a.2.1
def K105.L1 : Shape U := ⟨81, 14, [(0, .val (.isl .u8)), (1, vi_), (6, .own .t_api_Tlv 13), (7, vi_)], [(13, .tok)]⟩
def K105.X1 : Exits U := [(.exit 0, ⟨81, 14, [(6, .own .t_api_Tlv 13), (7, vi_)], [(13, .tok)]⟩)]
abbrev K105.l1T : Type := (((List (UInt8)) × Int × (List (api_Tlv)) × Int × Unit) × Unit) → Option ((((List (api_Tlv)) × Int × Unit) × Unit))
def K105.C : Code := match Tryz.f55.body with | some c => c | none => .skip
def K105.B0 : Code := match (Z4 K105.C).getD 0 .skip with | .loop b => b | .scope b => b | _ => .skip
def K105.B1 : Code := match (Z4 K105.C).getD 1 .skip with | .loop b => b | .scope b => b | _ => .skip
def K105.JC8 : Exits U := [(.normal, ⟨81, 14, [(0, .val (.isl .u8)), (1, vi_), (6, .own .t_api_Tlv 13), (7, vi_), (8, vi_)], [(13, .tok)]⟩)]
def K105.H (cK73 : K73.T) (l1 : K105.l1T) : Hints U := { Γ := (addΓ 101 (K73.sig.native (K73.W cK73)) noΓ), ro := 0, base := 13, joinQ := fun b => (bif Nat.beq b 1 then some [(19, vb_)] else (bif Nat.beq b 9 then some [(35, vb_)] else none)), joinC := fun b => (bif Nat.beq b 8 then some K105.JC8 else none), loop := fun b => (bif Nat.beq b 5 then some (Zd (0, 13) K105.L1 K105.X1 l1) else none) }
def K105.step1 (cK73 : K73.T) (a : ((List (UInt8)) × Int × (List (api_Tlv)) × Int × Unit) × Unit) : Option ((((List (UInt8)) × Int × (List (api_Tlv)) × Int × Unit) × Unit) ⊕ ((((List (api_Tlv)) × Int × Unit) × Unit))) :=
 (bif ilt a.1.2.1 (ofN (List.length a.1.1)) then (oelim (cK73 a.1.1 (iadd .i64 a.1.2.1 2) 2) none fun r0 => (oelim ((bif ieq (ofN (List.length a.1.2.2.1)) 8 then some ((a.1.1, (a.1.2.1, (a.1.2.2.1, ((7 : Int), (r0.1.1, ()))))), ()) else (oelim ((bif !r0.1.2.1 then some (true, ()) else some (ilt (isub .i64 (isub .i64 (ofN (List.length a.1.1)) a.1.2.1) 4) r0.1.1, ()))) none fun r1 => (bif r1.1 then some ((a.1.1, (a.1.2.1, (a.1.2.2.1, ((2 : Int), (r0.1.1, ()))))), ()) else (bif ine (irem r0.1.1 2) 0 then some ((a.1.1, (a.1.2.1, (a.1.2.2.1, ((4 : Int), (r0.1.1, ()))))), ()) else some ((a.1.1, (a.1.2.1, (a.1.2.2.1, (a.1.2.2.2.1, (r0.1.1, ()))))), ())))))) none fun r2 => (bif ine r2.1.2.2.2.1 0 then some (.inr ((r2.1.2.2.1, (r2.1.2.2.2.1, ())), ())) else (oelim (cK73 r2.1.1 r2.1.2.1 2) none fun r3 => (bif le3 (iadd .i64 r2.1.2.1 4) (iadd .i64 (iadd .i64 r2.1.2.1 4) r2.1.2.2.2.2.1) (List.length r2.1.1) then (bif room (List.length r2.1.2.2.1 + List.length (api_Tlv.mk r3.1.1 (ByteArray.mk (List.toArray (List.drop (Int.toNat (iadd .i64 r2.1.2.1 4)) (List.take (Int.toNat (iadd .i64 (iadd .i64 r2.1.2.1 4) r2.1.2.2.2.2.1)) r2.1.1)))) :: lnil api_Tlv)) 24 then some (.inl ((r2.1.1, (iadd .i64 r2.1.2.1 (iadd .i64 4 r2.1.2.2.2.2.1), (r2.1.2.2.1 ++ api_Tlv.mk r3.1.1 (ByteArray.mk (List.toArray (List.drop (Int.toNat (iadd .i64 r2.1.2.1 4)) (List.take (Int.toNat (iadd .i64 (iadd .i64 r2.1.2.1 4) r2.1.2.2.2.2.1)) r2.1.1)))) :: lnil api_Tlv, (r2.1.2.2.2.1, ())))), ())) else none) else none))))) else some (.inr (a.1.2.2, ())))
def K105.F1 : K105.l1T := fun a => Za (1000000 + (a.1.1.length + a.1.2.2.1.length)) (K105.step1 K73) a
def K105.gen (cK73 : K73.T) (l1 : K105.l1T) : K105.T := fun b at_1 =>
 (oelim ((bif ilt at_1 0 then some (true, ()) else some (ilt (ofN (List.length b)) at_1, ()))) none fun r0 => (bif r0.1 then some ((lnil api_Tlv, ((1 : Int), ())), ((), ())) else (oelim (l1 ((b, at_1, lnil api_Tlv, (0 : Int), ()), ())) none fun r1 => (bif ine r1.1.2.1 0 then some ((lnil api_Tlv, r1.1.2), ((), ())) else some ((r1.1.1, ((0 : Int), ())), ((), ()))))))
def K105 : K105.T := K105.gen K73 K105.F1
theorem K105.seq1 (cK73 : K73.T) (l1 : K105.l1T) (a : K105.L1.T) : run Tryz.prog (K105.H cK73 l1) 6 (Option (K105.L1.T ⊕ ExT K105.X1)) none K105.B1 (K105.L1.enc a) (ZA (0, 13) K105.L1 K105.X1) = K105.step1 cK73 a := by kernel_rfl
theorem K105.inner1 : Z4 K105.B1 = ([] : List Code) := by kernel_rfl
abbrev K105.h := K105.H K73 K105.F1
theorem K105.lok1 : Zi U Tryz.prog K105.h.ro K105.h.base K105.B1 (Zd (0, 13) K105.L1 K105.X1 K105.F1) :=
 Zn (Hn := K105.h) U_ok U_pure (Zr (hq (Z0 Z5 K73.ok) Z2 (fun _ => rfl) (fun _ => rfl)) 6) (fun b h => by rw [K105.inner1] at h; exact h) (fun _ => rfl) (K105.seq1 K73 K105.F1)
theorem K105.eq (cK73 : K73.T) (l1 : K105.l1T) : EqA K105.sig (K105.H cK73 l1) Tryz.f55 6 (K105.W (K105.gen cK73 l1)) := by intro a x; kernel_rfl
theorem K105.loops : Z4 K105.C = [(.scope K105.B0), (.loop K105.B1)] := by kernel_rfl
theorem K105.hints : HintsOK U Tryz.prog K105.h (fun c => c ∈ [(.scope K105.B0), (.loop K105.B1)]) := (hq (Z0 Z5 K73.ok) (ZN (Zc (by kernel_rfl) K105.lok1 Z2)) (fun _ => rfl) (fun _ => rfl))
theorem K105.ok : Z3 U Tryz.prog 55 (K105.sig.native (K105.W K105)) :=
 Sig.ok K105.sig (K105.W K105) U_pure (Hn := K105.h) (code := K105.C) (gos := 6) K105.hints Tryz.func55 (by kernel_rfl) (by kernel_rfl) (fun b h => by rw [K105.loops] at h; exact h) rfl rfl (by decide) (K105.eq K73 K105.F1) (by decide)
def K54.sig : Sig U := ⟨[.str], [], 0, [.data .t_api_Msg, .isl .t_api_Tlv, .int .i64], true, []⟩
abbrev K54.T : Type := (ByteArray) → Option ((api_Msg × (List (api_Tlv)) × Int × Unit) × Unit × Unit)
def K54.W (f : K54.T) : K54.sig.F := fun a x => f a.1
def K54.C : Code := match Tryz.f25.body with | some c => c | none => .skip
def K54.B0 : Code := match (Z4 K54.C).getD 0 .skip with | .loop b => b | .scope b => b | _ => .skip
def K54.H (cK57 : K57.T) (cK1 : K1.T) (cK105 : K105.T) : Hints U := { Γ := (addΓ 55 (K105.sig.native (K105.W cK105)) (addΓ 54 (K1.sig.native (K1.W cK1)) (addΓ 53 (K57.sig.native (K57.W cK57)) noΓ))), ro := 0, base := 13, gotos := 3, loop := fun b => none }
def K54.gen (cK57 : K57.T) (cK1 : K1.T) (cK105 : K105.T) : K54.T := fun b =>
 (oelim (cK57 b.data.toList) none fun r0 => (bif ine r0.1.2.2.1 0 then some ((api_Msg.mk 0 0 0 0 z0_ 0 0 0 z0_ 0 0 z1_ 0 0 0 0 0 0 0, (lnil api_Tlv, r0.1.2.2)), ((), ())) else (oelim (cK1 r0.1.1 b.data.toList 34) none fun r1 => (bif ine r1.1.2.2.1 0 then some ((api_Msg.mk 0 0 0 0 z0_ 0 0 0 z0_ 0 0 z1_ 0 0 0 0 0 0 0, (lnil api_Tlv, r1.1.2.2)), ((), ())) else (oelim (cK105 b.data.toList r1.1.2.1) none fun r2 => (bif ine r2.1.2.1 0 then some ((api_Msg.mk 0 0 0 0 z0_ 0 0 0 z0_ 0 0 z1_ 0 0 0 0 0 0 0, (lnil api_Tlv, r2.1.2)), ((), ())) else some ((r1.1.1, (r2.1.1, ((0 : Int), ()))), ((), ()))))))))
def K54 : K54.T := K54.gen K57 K1 K105
theorem K54.eq (cK57 : K57.T) (cK1 : K1.T) (cK105 : K105.T) : EqA K54.sig (K54.H cK57 cK1 cK105) Tryz.f25 6 (K54.W (K54.gen cK57 cK1 cK105)) := by intro a x; kernel_rfl
theorem K54.loops : Z4 K54.C = [(.scope K54.B0)] := by kernel_rfl
abbrev K54.h := K54.H K57 K1 K105
theorem K54.hints : HintsOK U Tryz.prog K54.h (fun c => c ∈ [(.scope K54.B0)]) := (hq (Z0 (Z0 (Z0 Z5 K57.ok) K1.ok) K105.ok) (ZN Z2) (fun _ => rfl) (fun _ => rfl))
theorem K54.ok : Z3 U Tryz.prog 25 (K54.sig.native (K54.W K54)) :=
 Sig.ok K54.sig (K54.W K54) U_pure (Hn := K54.h) (code := K54.C) (gos := 6) K54.hints Tryz.func25 (by kernel_rfl) (by kernel_rfl) (fun b h => by rw [K54.loops] at h; exact h) rfl rfl (by decide) (K54.eq K57 K1 K105) (by decide)
def K8.sig : Sig U := ⟨[.ptr], [.obj .t_clock_Clock], 1, [.data .t_api_Conf], false, []⟩
abbrev K8.T : Type := (clock_Clock) → Option ((api_Conf × Unit) × Unit × Unit)
def K8.W (f : K8.T) : K8.sig.F := fun a x => f x.1
def K8.H : Hints U := { Γ := (addΓ 5000000021 Z1s noΓ), ro := 14, base := 14 }
def K8.gen : K8.T := fun h0 =>
 some ((h0.fconf, ()), ((), ()))
def K8 : K8.T := K8.gen
theorem K8.eq : EqA K8.sig (K8.H) Tryz.f31 6 (K8.W (K8.gen)) := by intro a x; kernel_rfl
theorem K8.hints : HintsOK U Tryz.prog (K8.H) (fun c => c ∈ ([] : List Code)) := (hq (Z0 Z5 Zj) Z2 (fun _ => rfl) (fun _ => rfl))
theorem K8.ok : Z3 U Tryz.prog 31 (K8.sig.native (K8.W K8)) :=
 Sig.ok K8.sig (K8.W (K8.gen)) U_pure (Hn := (K8.H)) (gos := 6) K8.hints Tryz.func31 rfl (by kernel_rfl) (fun b h => h) rfl rfl (by decide) (K8.eq) (by decide)
def K68.sig : Sig U := ⟨[], [fm0_, fm5_, fm6_, fm7_, fm8_, fm9_, fm10_, .fam 12 (.map true false .t_api_PortID .l_u64)], 0, [.bool], false, []⟩
abbrev K68.T : Type := (Fm clock_Clock) → (Fm servo_Servo) → (Fm foreign_Table) → (Fm delay_Exchange) → (Fm peer_Exchange) → (Fm median_Filter) → (Fm seq_Match) → (Nat × (Nat → List (api_PortID × List (Int)))) → Option ((Bool × Unit) × (qT0_) × Unit)
def K68.W (f : K68.T) : K68.sig.F := fun a x => f x.1 x.2.1 x.2.2.1 x.2.2.2.1 x.2.2.2.2.1 x.2.2.2.2.2.1 x.2.2.2.2.2.2.1 x.2.2.2.2.2.2.2.1
def K68.L0 : Shape U := ⟨40, 13, [(1, .val (.ref 0)), (3, vi_), (4, vi_)], hT4_⟩
def K68.X0 : Exits U := [(.exit 0, ⟨40, 13, [(1, .val (.ref 0)), (3, vi_)], hT4_⟩)]
abbrev K68.l0T : Type := (((Option Nat) × Int × Int × Unit) × (qT0_)) → Option ((((Option Nat) × Int × Unit) × (qT0_)))
def K68.C : Code := match Tryz.f22.body with | some c => c | none => .skip
def K68.B0 : Code := match (Z4 K68.C).getD 0 .skip with | .loop b => b | .scope b => b | _ => .skip
def K68.H (cK41 : K41.T) (cK25 : K25.T) (cK9 : K9.T) (cK10 : K10.T) (l0 : K68.l0T) : Hints U := { Γ := (addΓ 19 (K10.sig.native (K10.W cK10)) (addΓ 21 (K9.sig.native (K9.W cK9)) (addΓ 24 (K25.sig.native (K25.W cK25)) (addΓ 23 (K41.sig.native (K41.W cK41)) noΓ)))), ro := 0, base := 13, joinQ := fun b => (bif Nat.beq b 2 then some [(20, vb_)] else none), loop := fun b => (bif Nat.beq b 7 then some (Zd (0, 13) K68.L0 K68.X0 l0) else none) }
def K68.step0 (cK41 : K41.T) (cK25 : K25.T) (cK9 : K9.T) (cK10 : K10.T) (a : ((Option Nat) × Int × Int × Unit) × (qT0_)) : Option ((((Option Nat) × Int × Int × Unit) × (qT0_)) ⊕ ((((Option Nat) × Int × Unit) × (qT0_)))) :=
 (bif ilt a.1.2.2.1 48 then (oelim ((oelim (a.1.1) none fun r0 => (oelim (cK10 (api_Event.mk 1 0 0 0 0 (ByteArray.mk (List.toArray (lnil UInt8))) z7_) (a.2.1.2 r0) a.2.2.1 a.2.2.2.1 a.2.2.2.2.1 a.2.2.2.2.2.1 a.2.2.2.2.2.2.1 a.2.2.2.2.2.2.2.1 a.2.2.2.2.2.2.2.2.1) none fun r1 => some (r0, r1)))) none fun r2 => some (.inl ((a.1.1, (a.1.2.1, (iadd .i64 a.1.2.2.1 1, ()))), ((a.2.1.1, fset a.2.1.2 r2.1 r2.2.2.1.1), r2.2.2.1.2)))) else some (.inr ((a.1.1, (a.1.2.1, ())), a.2)))
def K68.F0 : K68.l0T := fun a => Za (1000000) (K68.step0 K41 K25 K9 K10) a
def K68.gen (cK41 : K41.T) (cK25 : K25.T) (cK9 : K9.T) (cK10 : K10.T) (l0 : K68.l0T) : K68.T := fun g0 g5 g6 g7 g8 g9 g10 g12 =>
 (oelim (cK41 1) none fun r0 => (oelim (cK25 r0.1.1 g0 g5 g6 g7 g8 g9 g10 g12) none fun r1 => (oelim ((bif ine r1.1.2.1 0 then some (true, ()) else (bif !Option.isSome r1.1.1 then some (true, ()) else (oelim ((oelim (r1.1.1) none fun r2 => (oelim (cK9 1 (r1.2.1.1.2 r2)) none fun r3 => some (r2, r3)))) none fun r4 => some (ine r4.2.1.1 1, ()))))) none fun r5 => (bif r5.1 then some ((false, ()), r1.2) else (oelim ((oelim (r1.1.1) none fun r6 => (oelim (cK10 (api_Event.mk 1 0 0 0 0 (ByteArray.mk (List.toArray (lnil UInt8))) z7_) (r1.2.1.1.2 r6) r1.2.1.2.1 r1.2.1.2.2.1 r1.2.1.2.2.2.1 r1.2.1.2.2.2.2.1 r1.2.1.2.2.2.2.2.1 r1.2.1.2.2.2.2.2.2.1 r1.2.1.2.2.2.2.2.2.2.1) none fun r7 => some (r6, r7)))) none fun r8 => (oelim ((oelim (r1.1.1) none fun r9 => (oelim (cK9 1 (fset r1.2.1.1.2 r8.1 r8.2.2.1.1 r9)) none fun r10 => some (r9, r10)))) none fun r11 => (oelim (l0 ((r1.1.1, r11.2.1.1, (0 : Int), ()), (r1.2.1.1.1, fset r1.2.1.1.2 r8.1 r8.2.2.1.1), r8.2.2.1.2)) none fun r12 => (bif ieq r12.1.2.1 4 then (oelim ((oelim (r12.1.1) none fun r13 => (oelim (cK9 1 (r12.2.1.2 r13)) none fun r14 => some (r13, r14)))) none fun r15 => some ((ieq r15.2.1.1 6, ()), (r12.2, ()))) else some ((false, ()), (r12.2, ()))))))))))
def K68 : K68.T := K68.gen K41 K25 K9 K10 K68.F0
def K68.A : Option Unit := Z68 (K68 (0, fun _ => U.dft .t_clock_Clock) (0, fun _ => U.dft .t_servo_Servo) (0, fun _ => U.dft .t_foreign_Table) (0, fun _ => U.dft .t_delay_Exchange) (0, fun _ => U.dft .t_peer_Exchange) (0, fun _ => U.dft .t_median_Filter) (0, fun _ => U.dft .t_seq_Match) (0, fun _ => []))
theorem K68.seq0 (cK41 : K41.T) (cK25 : K25.T) (cK9 : K9.T) (cK10 : K10.T) (l0 : K68.l0T) (a : K68.L0.T) : run Tryz.prog (K68.H cK41 cK25 cK9 cK10 l0) 6 (Option (K68.L0.T ⊕ ExT K68.X0)) none K68.B0 (K68.L0.enc a) (ZA (0, 13) K68.L0 K68.X0) = K68.step0 cK41 cK25 cK9 cK10 a := by kernel_rfl
theorem K68.inner0 : Z4 K68.B0 = ([] : List Code) := by kernel_rfl
abbrev K68.h := K68.H K41 K25 K9 K10 K68.F0
theorem K68.lok0 : Zi U Tryz.prog K68.h.ro K68.h.base K68.B0 (Zd (0, 13) K68.L0 K68.X0 K68.F0) :=
 Zn (Hn := K68.h) U_ok U_pure (Zr (hq (Z0 (Z0 (Z0 (Z0 Z5 K41.ok) K25.ok) K9.ok) K10.ok) Z2 (fun _ => rfl) (fun _ => rfl)) 6) (fun b h => by rw [K68.inner0] at h; exact h) (fun _ => rfl) (K68.seq0 K41 K25 K9 K10 K68.F0)
theorem K68.eq (cK41 : K41.T) (cK25 : K25.T) (cK9 : K9.T) (cK10 : K10.T) (l0 : K68.l0T) : EqA K68.sig (K68.H cK41 cK25 cK9 cK10 l0) Tryz.f22 6 (K68.W (K68.gen cK41 cK25 cK9 cK10 l0)) := by intro a x; kernel_rfl
theorem K68.loops : Z4 K68.C = [(.loop K68.B0)] := by kernel_rfl
theorem K68.hints : HintsOK U Tryz.prog K68.h (fun c => c ∈ [(.loop K68.B0)]) := (hq (Z0 (Z0 (Z0 (Z0 Z5 K41.ok) K25.ok) K9.ok) K10.ok) (Zc (by kernel_rfl) K68.lok0 Z2) (fun _ => rfl) (fun _ => rfl))
theorem K68.okA : Z3 U Tryz.prog 22 (Z5R K68.A) :=
 Z99 U_ok (fs := [fm0_, fm5_, fm6_, fm7_, fm8_, fm9_, fm10_, .fam 12 (.map true false .t_api_PortID .l_u64)]) (code := K68.C) (gos := 6) K68.hints Tryz.func22 (by kernel_rfl) (by kernel_rfl) (fun b h => by rw [K68.loops] at h; exact h) (fun h => let ⟨y, hy⟩ := Z89 h; ⟨y, (K68.eq K41 K25 K9 K10 K68.F0 () (fam0 (U := U) [fm0_, fm5_, fm6_, fm7_, fm8_, fm9_, fm10_, .fam 12 (.map true false .t_api_PortID .l_u64)])).trans hy⟩) rfl rfl (by decide) (by decide)
def K67.sig : Sig U := ⟨[.int .i64, .int .i64, .int .i64], [fm0_, fm5_, fm6_, fm7_, fm8_, fm9_, fm10_, .fam 12 (.map true false .t_api_PortID .l_u64)], 0, [.bool], false, []⟩
abbrev K67.T : Type := (Int) → (Int) → (Int) → (Fm clock_Clock) → (Fm servo_Servo) → (Fm foreign_Table) → (Fm delay_Exchange) → (Fm peer_Exchange) → (Fm median_Filter) → (Fm seq_Match) → (Nat × (Nat → List (api_PortID × List (Int)))) → Option ((Bool × Unit) × (qT0_) × Unit)
def K67.W (f : K67.T) : K67.sig.F := fun a x => f a.1 a.2.1 a.2.2.1 x.1 x.2.1 x.2.2.1 x.2.2.2.1 x.2.2.2.2.1 x.2.2.2.2.2.1 x.2.2.2.2.2.2.1 x.2.2.2.2.2.2.2.1
def K67.L0 : Shape U := ⟨134, 13, [(2, vi_), (7, vi_), (8, .val (.ref 0)), (9, vi_)], hT4_⟩
def K67.X0 : Exits U := [(.exit 0, ⟨134, 13, [(2, vi_), (7, vi_), (8, .val (.ref 0))], hT4_⟩),
 (.ret, ⟨134, 13, [(6, vb_)], hT4_⟩)]
abbrev K67.l0T : Type := ((Int × Int × (Option Nat) × Int × Unit) × (qT0_)) → Option (((Int × Int × (Option Nat) × Unit) × (qT0_)) ⊕ ((Bool × Unit) × (qT0_)))
def K67.L1 : Shape U := ⟨134, 14, [(7, vi_), (8, .val (.ref 0)), (10, vi_), (11, .val (.isl .t_api_Out)), (12, .rsl 13), (13, vi_)], (13, .famN true .int) :: hT4_⟩
def K67.X1 : Exits U := [(.exit 2, ⟨134, 14, [(7, vi_), (8, .val (.ref 0)), (10, vi_), (12, .rsl 13)], (13, .famN true .int) :: hT4_⟩),
 (.ret, ⟨134, 13, [(6, vb_)], hT4_⟩)]
abbrev K67.l1T : Type := ((Int × (Option Nat) × Int × (List (api_Out)) × (Nat × Nat) × Int × Unit) × (qT5_)) → Option (((Int × (Option Nat) × Int × (Nat × Nat) × Unit) × (qT5_)) ⊕ ((Bool × Unit) × (qT0_)))
def K67.L2 : Shape U := ⟨134, 14, [(7, vi_), (8, .val (.ref 0)), (10, vi_), (12, .rsl 13), (17, vi_)], (13, .famN true .int) :: hT4_⟩
def K67.X2 : Exits U := [(.exit 4, ⟨134, 13, [], hT4_⟩),
 (.ret, ⟨134, 13, [(6, vb_)], hT4_⟩)]
abbrev K67.l2T : Type := ((Int × (Option Nat) × Int × (Nat × Nat) × Int × Unit) × (qT5_)) → Option ((Unit × (qT0_)) ⊕ ((Bool × Unit) × (qT0_)))
def K67.C : Code := match Tryz.f7.body with | some c => c | none => .skip
def K67.B0 : Code := match (Z4 K67.C).getD 0 .skip with | .loop b => b | .scope b => b | _ => .skip
def K67.B1 : Code := match (Z4 K67.C).getD 1 .skip with | .loop b => b | .scope b => b | _ => .skip
def K67.B2 : Code := match (Z4 K67.C).getD 2 .skip with | .loop b => b | .scope b => b | _ => .skip
def K67.JC22 : Exits U := [(.normal, ⟨134, 14, [(7, vi_), (8, .val (.ref 0)), (10, vi_), (11, .val (.isl .t_api_Out)), (12, .rsl 13), (13, vi_)], (13, .famN true .int) :: hT4_⟩)]
def K67.H (cK66 : K66.T) (cK69 : K69.T) (cK70 : K70.T) (cK9 : K9.T) (cK54 : K54.T) (cK8 : K8.T) (cK68 : Option Unit) (l0 : K67.l0T) (l1 : K67.l1T) (l2 : K67.l2T) : Hints U := { Γ := (addΓ 22 (Z5R cK68) (addΓ 31 (K8.sig.native (K8.W cK8)) (addΓ 25 (K54.sig.native (K54.W cK54)) (addΓ 21 (K9.sig.native (K9.W cK9)) (addΓ 16 (K70.sig.native (K70.W cK70)) (addΓ 15 (K69.sig.native (K69.W cK69)) (addΓ 17 (K66.sig.native (K66.W cK66)) (addΓ 8000000064 Z1s noΓ)))))))), ro := 0, base := 13, joinQ := fun b => (bif Nat.beq b 19 then some [(102, vb_)] else (bif Nat.beq b 26 then some [(132, vb_)] else none)), joinC := fun b => (bif Nat.beq b 22 then some K67.JC22 else none), loop := fun b => (bif Nat.beq b 7 then some (Zd (0, 13) K67.L0 K67.X0 l0) else (bif Nat.beq b 16 then some (Zd (0, 13) K67.L1 K67.X1 l1) else (bif Nat.beq b 24 then some (Zd (0, 13) K67.L2 K67.X2 l2) else none))) }
def K67.step2 (cK66 : K66.T) (cK69 : K69.T) (cK70 : K70.T) (cK9 : K9.T) (cK54 : K54.T) (cK8 : K8.T) (cK68 : Option Unit) (a : (Int × (Option Nat) × Int × (Nat × Nat) × Int × Unit) × (qT5_)) : Option (((Int × (Option Nat) × Int × (Nat × Nat) × Int × Unit) × (qT5_)) ⊕ ((Unit × (qT0_)) ⊕ ((Bool × Unit) × (qT0_)))) :=
 (bif ile a.1.2.2.2.2.1 a.1.1 then (oelim ((oelim ((oelim (a.1.2.1) none fun r0 => (oelim (cK9 a.1.2.2.2.2.1 (a.2.2.1.2 r0)) none fun r1 => some (r0, r1)))) none fun r2 => (bif ine r2.2.1.1 6 then some (true, ()) else (bif inR a.1.2.2.2.2.1 a.1.2.2.2.1.2 then some (ine (a.2.1.2 (a.1.2.2.2.1.1 + Int.toNat a.1.2.2.2.2.1)) a.1.2.2.1, ()) else none)))) none fun r3 => (bif r3.1 then some (.inr (.inr ((false, ()), a.2.2))) else some (.inl ((a.1.1, (a.1.2.1, (a.1.2.2.1, (a.1.2.2.2.1, (iadd .i64 a.1.2.2.2.2.1 1, ()))))), a.2)))) else some (.inr (.inl ((), a.2.2))))
def K67.F2 : K67.l2T := fun a => Za (1000000 + (a.1.2.2.2.1.2)) (K67.step2 K66 K69 K70 K9 K54 K8 K68.A) a
def K67.step1 (cK66 : K66.T) (cK69 : K69.T) (cK70 : K70.T) (cK9 : K9.T) (cK54 : K54.T) (cK8 : K8.T) (cK68 : Option Unit) (a : (Int × (Option Nat) × Int × (List (api_Out)) × (Nat × Nat) × Int × Unit) × (qT5_)) : Option (((Int × (Option Nat) × Int × (List (api_Out)) × (Nat × Nat) × Int × Unit) × (qT5_)) ⊕ (((Int × (Option Nat) × Int × (Nat × Nat) × Unit) × (qT5_)) ⊕ ((Bool × Unit) × (qT0_)))) :=
 (bif ilt a.1.2.2.2.2.2.1 (ofN (List.length a.1.2.2.2.1)) then (bif inR a.1.2.2.2.2.2.1 (List.length a.1.2.2.2.1) then (oelim (cK54 (List.getD a.1.2.2.2.1 (Int.toNat a.1.2.2.2.2.2.1) api_Out.zero).fBytes) none fun r0 => (oelim ((bif ine r0.1.2.2.1 0 then some (true, ()) else (bif inR a.1.2.2.2.2.2.1 (List.length a.1.2.2.2.1) then (bif ilt (List.getD a.1.2.2.2.1 (Int.toNat a.1.2.2.2.2.2.1) api_Out.zero).fPort 1 then some (true, ()) else (bif inR a.1.2.2.2.2.2.1 (List.length a.1.2.2.2.1) then (bif ilt a.1.1 (List.getD a.1.2.2.2.1 (Int.toNat a.1.2.2.2.2.2.1) api_Out.zero).fPort then some (true, ()) else (bif ieq r0.1.1.fType 11 then (oelim ((oelim (a.1.2.1) none fun r1 => (oelim (cK8 (a.2.2.1.2 r1)) none fun r2 => some (r1, r2)))) none fun r3 => (bif ine r0.1.1.fGrand r3.2.1.1.fClock then some (true, ()) else some (ine r0.1.1.fSteps 0, ()))) else some (false, ()))) else none)) else none))) none fun r4 => (bif r4.1 then some (.inr (.inr ((false, ()), a.2.2))) else (oelim ((bif ieq r0.1.1.fType 11 then (bif inR a.1.2.2.2.2.2.1 (List.length a.1.2.2.2.1) then (bif inR (List.getD a.1.2.2.2.1 (Int.toNat a.1.2.2.2.2.2.1) api_Out.zero).fPort a.1.2.2.2.2.1.2 then (bif inR (List.getD a.1.2.2.2.1 (Int.toNat a.1.2.2.2.2.2.1) api_Out.zero).fPort a.1.2.2.2.2.1.2 then some (a.1, ((a.2.1.1, fset a.2.1.2 (a.1.2.2.2.2.1.1 + Int.toNat (List.getD a.1.2.2.2.1 (Int.toNat a.1.2.2.2.2.2.1) api_Out.zero).fPort) (iadd .i64 (a.2.1.2 (a.1.2.2.2.2.1.1 + Int.toNat (List.getD a.1.2.2.2.1 (Int.toNat a.1.2.2.2.2.2.1) api_Out.zero).fPort)) 1)), a.2.2)) else none) else none) else none) else some a)) none fun r5 => some (.inl ((r5.1.1, (r5.1.2.1, (r5.1.2.2.1, (r5.1.2.2.2.1, (r5.1.2.2.2.2.1, (iadd .i64 r5.1.2.2.2.2.2.1 1, ())))))), r5.2)))))) else none) else some (.inr (.inl ((a.1.1, (a.1.2.1, (a.1.2.2.1, (a.1.2.2.2.2.1, ())))), a.2))))
def K67.F1 : K67.l1T := fun a => Za (1000000 + (a.1.2.2.2.1.length + a.1.2.2.2.2.1.2)) (K67.step1 K66 K69 K70 K9 K54 K8 K68.A) a
def K67.step0 (cK66 : K66.T) (cK69 : K69.T) (cK70 : K70.T) (cK9 : K9.T) (cK54 : K54.T) (cK8 : K8.T) (cK68 : Option Unit) (a : (Int × Int × (Option Nat) × Int × Unit) × (qT0_)) : Option (((Int × Int × (Option Nat) × Int × Unit) × (qT0_)) ⊕ (((Int × Int × (Option Nat) × Unit) × (qT0_)) ⊕ ((Bool × Unit) × (qT0_)))) :=
 (bif ile a.1.2.2.2.1 a.1.2.1 then (oelim ((oelim (a.1.2.2.1) none fun r0 => (oelim (cK9 a.1.2.2.2.1 (a.2.1.2 r0)) none fun r1 => some (r0, r1)))) none fun r2 => (bif ine r2.2.1.1 4 then some (.inr (.inr ((false, ()), a.2))) else some (.inl ((a.1.1, (a.1.2.1, (a.1.2.2.1, (iadd .i64 a.1.2.2.2.1 1, ())))), a.2)))) else some (.inr (.inl ((a.1.1, (a.1.2.1, (a.1.2.2.1, ()))), a.2))))
def K67.F0 : K67.l0T := fun a => Za (1000000) (K67.step0 K66 K69 K70 K9 K54 K8 K68.A) a
def K67.gen (cK66 : K66.T) (cK69 : K69.T) (cK70 : K70.T) (cK9 : K9.T) (cK54 : K54.T) (cK8 : K8.T) (cK68 : Option Unit) (l0 : K67.l0T) (l1 : K67.l1T) (l2 : K67.l2T) : K67.T := fun id ports n g0 g5 g6 g7 g8 g9 g10 g12 =>
 (oelim (cK66 ports 8) none fun r0 => (oelim (cK66 id 1000) none fun r1 => (oelim (cK69 (IntKind.wrap .u64 (iadd .i64 1 r1.1.1)) (iadd .i64 1 r0.1.1) g0 g5 g6 g7 g8 g9 g10 g12) none fun r2 => (bif !Option.isSome r2.1.1 then some ((false, ()), r2.2) else (oelim ((oelim (r2.1.1) none fun r3 => (oelim (cK70 3 (r2.2.1.1.2 r3) r2.2.1.2.1 r2.2.1.2.2.1 r2.2.1.2.2.2.1 r2.2.1.2.2.2.2.1 r2.2.1.2.2.2.2.2.1 r2.2.1.2.2.2.2.2.2.1 r2.2.1.2.2.2.2.2.2.2.1) none fun r4 => some (r3, r4)))) none fun r5 => (oelim (l0 ((n, iadd .i64 1 r0.1.1, r2.1.1, (1 : Int), ()), (r2.2.1.1.1, fset r2.2.1.1.2 r5.1 r5.2.2.1.1), r5.2.2.1.2)) none fun r6 => (selim r6 (fun r7 => (oelim ((oelim (r7.1.2.2.1) none fun r8 => (oelim (cK70 2 (r7.2.1.2 r8) r7.2.2.1 r7.2.2.2.1 r7.2.2.2.2.1 r7.2.2.2.2.2.1 r7.2.2.2.2.2.2.1 r7.2.2.2.2.2.2.2.1 r7.2.2.2.2.2.2.2.2.1) none fun r9 => some (r8, r9)))) none fun r10 => (oelim (cK66 r7.1.1 30) none fun r11 => (oelim ((oelim (r7.1.2.2.1) none fun r12 => (oelim (cK70 r11.1.1 (fset r7.2.1.2 r10.1 r10.2.2.1.1 r12) r10.2.2.1.2.1 r10.2.2.1.2.2.1 r10.2.2.1.2.2.2.1 r10.2.2.1.2.2.2.2.1 r10.2.2.1.2.2.2.2.2.1 r10.2.2.1.2.2.2.2.2.2.1 r10.2.2.1.2.2.2.2.2.2.2.1) none fun r13 => some (r12, r13)))) none fun r14 => (bif bif ile 0 (iadd .i64 r7.1.2.1 1) then bif ile (iadd .i64 r7.1.2.1 1) 9223372036854775807 then room (Int.toNat (iadd .i64 r7.1.2.1 1)) 8 else false else false then (oelim (l1 ((r7.1.2.1, r7.1.2.2.1, r11.1.1, r14.2.1.1, (0, Int.toNat (iadd .i64 r7.1.2.1 1)), (0 : Int), ()), (Int.toNat (iadd .i64 r7.1.2.1 1), fun (x : Nat) => (0 : Int)), (r7.2.1.1, fset (fset r7.2.1.2 r10.1 r10.2.2.1.1) r14.1 r14.2.2.1.1), r14.2.2.1.2)) none fun r15 => (selim r15 (fun r16 => (oelim (l2 ((r16.1.1, r16.1.2.1, r16.1.2.2.1, r16.1.2.2.2.1, (1 : Int), ()), r16.2)) none fun r17 => (selim r17 (fun r18 => (oelim (cK68) none fun r19 => some ((true, ()), (r18.2, ())))) (fun r18 => some (r18.1, (r18.2, ())))))) (fun r16 => some (r16.1, (r16.2, ()))))) else none))))) (fun r7 => some (r7.1, (r7.2, ()))))))))))
def K67 : K67.T := K67.gen K66 K69 K70 K9 K54 K8 K68.A K67.F0 K67.F1 K67.F2
theorem K67.seq2 (cK66 : K66.T) (cK69 : K69.T) (cK70 : K70.T) (cK9 : K9.T) (cK54 : K54.T) (cK8 : K8.T) (cK68 : Option Unit) (l0 : K67.l0T) (l1 : K67.l1T) (l2 : K67.l2T) (a : K67.L2.T) : run Tryz.prog (K67.H cK66 cK69 cK70 cK9 cK54 cK8 cK68 l0 l1 l2) 6 (Option (K67.L2.T ⊕ ExT K67.X2)) none K67.B2 (K67.L2.enc a) (ZA (0, 13) K67.L2 K67.X2) = K67.step2 cK66 cK69 cK70 cK9 cK54 cK8 cK68 a := by kernel_rfl
theorem K67.inner2 : Z4 K67.B2 = ([] : List Code) := by kernel_rfl
abbrev K67.h := K67.H K66 K69 K70 K9 K54 K8 K68.A K67.F0 K67.F1 K67.F2
theorem K67.lok2 : Zi U Tryz.prog K67.h.ro K67.h.base K67.B2 (Zd (0, 13) K67.L2 K67.X2 K67.F2) :=
 Zn (Hn := K67.h) U_ok U_pure (Zr (hq (Z0 (Z0 (Z0 (Z0 (Z0 (Z0 (Z0 (Z0 Z5 Zj) K66.ok) K69.ok) K70.ok) K9.ok) K54.ok) K8.ok) K68.okA) Z2 (fun _ => rfl) (fun _ => rfl)) 6) (fun b h => by rw [K67.inner2] at h; exact h) (fun _ => rfl) (K67.seq2 K66 K69 K70 K9 K54 K8 K68.A K67.F0 K67.F1 K67.F2)
theorem K67.seq1 (cK66 : K66.T) (cK69 : K69.T) (cK70 : K70.T) (cK9 : K9.T) (cK54 : K54.T) (cK8 : K8.T) (cK68 : Option Unit) (l0 : K67.l0T) (l1 : K67.l1T) (l2 : K67.l2T) (a : K67.L1.T) : run Tryz.prog (K67.H cK66 cK69 cK70 cK9 cK54 cK8 cK68 l0 l1 l2) 6 (Option (K67.L1.T ⊕ ExT K67.X1)) none K67.B1 (K67.L1.enc a) (ZA (0, 13) K67.L1 K67.X1) = K67.step1 cK66 cK69 cK70 cK9 cK54 cK8 cK68 a := by kernel_rfl
theorem K67.inner1 : Z4 K67.B1 = ([] : List Code) := by kernel_rfl
theorem K67.lok1 : Zi U Tryz.prog K67.h.ro K67.h.base K67.B1 (Zd (0, 13) K67.L1 K67.X1 K67.F1) :=
 Zn (Hn := K67.h) U_ok U_pure (Zr (hq (Z0 (Z0 (Z0 (Z0 (Z0 (Z0 (Z0 (Z0 Z5 Zj) K66.ok) K69.ok) K70.ok) K9.ok) K54.ok) K8.ok) K68.okA) Z2 (fun _ => rfl) (fun _ => rfl)) 6) (fun b h => by rw [K67.inner1] at h; exact h) (fun _ => rfl) (K67.seq1 K66 K69 K70 K9 K54 K8 K68.A K67.F0 K67.F1 K67.F2)
theorem K67.seq0 (cK66 : K66.T) (cK69 : K69.T) (cK70 : K70.T) (cK9 : K9.T) (cK54 : K54.T) (cK8 : K8.T) (cK68 : Option Unit) (l0 : K67.l0T) (l1 : K67.l1T) (l2 : K67.l2T) (a : K67.L0.T) : run Tryz.prog (K67.H cK66 cK69 cK70 cK9 cK54 cK8 cK68 l0 l1 l2) 6 (Option (K67.L0.T ⊕ ExT K67.X0)) none K67.B0 (K67.L0.enc a) (ZA (0, 13) K67.L0 K67.X0) = K67.step0 cK66 cK69 cK70 cK9 cK54 cK8 cK68 a := by kernel_rfl
theorem K67.inner0 : Z4 K67.B0 = ([] : List Code) := by kernel_rfl
theorem K67.lok0 : Zi U Tryz.prog K67.h.ro K67.h.base K67.B0 (Zd (0, 13) K67.L0 K67.X0 K67.F0) :=
 Zn (Hn := K67.h) U_ok U_pure (Zr (hq (Z0 (Z0 (Z0 (Z0 (Z0 (Z0 (Z0 (Z0 Z5 Zj) K66.ok) K69.ok) K70.ok) K9.ok) K54.ok) K8.ok) K68.okA) Z2 (fun _ => rfl) (fun _ => rfl)) 6) (fun b h => by rw [K67.inner0] at h; exact h) (fun _ => rfl) (K67.seq0 K66 K69 K70 K9 K54 K8 K68.A K67.F0 K67.F1 K67.F2)
theorem K67.eq (cK66 : K66.T) (cK69 : K69.T) (cK70 : K70.T) (cK9 : K9.T) (cK54 : K54.T) (cK8 : K8.T) (cK68 : Option Unit) (l0 : K67.l0T) (l1 : K67.l1T) (l2 : K67.l2T) : EqA K67.sig (K67.H cK66 cK69 cK70 cK9 cK54 cK8 cK68 l0 l1 l2) Tryz.f7 6 (K67.W (K67.gen cK66 cK69 cK70 cK9 cK54 cK8 cK68 l0 l1 l2)) := by intro a x; kernel_rfl
theorem K67.loops : Z4 K67.C = [(.loop K67.B0), (.loop K67.B1), (.loop K67.B2)] := by kernel_rfl
theorem K67.hints : HintsOK U Tryz.prog K67.h (fun c => c ∈ [(.loop K67.B0), (.loop K67.B1), (.loop K67.B2)]) := (hq (Z0 (Z0 (Z0 (Z0 (Z0 (Z0 (Z0 (Z0 Z5 Zj) K66.ok) K69.ok) K70.ok) K9.ok) K54.ok) K8.ok) K68.okA) (Zc (by kernel_rfl) K67.lok0 (Zc (by kernel_rfl) K67.lok1 (Zc (by kernel_rfl) K67.lok2 Z2))) (fun _ => rfl) (fun _ => rfl))
end
end Go.Proofs.YtgnabnhggaondaaGreat
