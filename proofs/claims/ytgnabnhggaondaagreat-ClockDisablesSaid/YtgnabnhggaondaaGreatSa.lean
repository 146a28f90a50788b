/- Typed forms of the functions that these statements reach, proved equal to what the model runs, and laws over them. -/
import Derived.Test.YtgnabnhggaondaaGreatT
namespace Go.Proofs.YtgnabnhggaondaaGreat
open Go.Rf
set_option linter.unusedVariables false
set_option linter.unusedSimpArgs false
set_option maxRecDepth 100000
noncomputable section
abbrev vi_ : JV UC := .val (.int .i64)
abbrev vb_ : JV UC := .val (.bool)
abbrev fm0_ : NK UC := .fam 0 (.obj .t_clock_Clock)
abbrev fm10_ : NK UC := .fam 10 (.obj .t_seq_Match)
abbrev fm5_ : NK UC := .fam 5 (.obj .t_servo_Servo)
abbrev fm6_ : NK UC := .fam 6 (.obj .t_foreign_Table)
abbrev fm7_ : NK UC := .fam 7 (.obj .t_delay_Exchange)
abbrev fm8_ : NK UC := .fam 8 (.obj .t_peer_Exchange)
abbrev fm9_ : NK UC := .fam 9 (.obj .t_median_Filter)
abbrev EqA (s : Sig U) (H : Hints U) (f : Func) (n : Nat) (g : s.F) : Prop := ∀ (a : Ts U s.pars) (x : HTs U s.heap), runR Tryz.prog H f n none s.fin (s.args a) (s.start x) s.base = g a x
theorem hq {Hn : Hints U} (hΓ : Z13 U Tryz.prog Hn.Γ) {l : List Code} (hl : ∀ b N, .loop b ∈ l → Hn.loop (Zj b) = some N → Ze U Tryz.prog Hn.ro Hn.base b N) (h1 : ∀ lb, Hn.label lb = none) (h2 : ∀ f, Hn.inl f = none) : HintsOK U Tryz.prog Hn (fun c => c ∈ l) := Z14 U_ok U_pure mixed hΓ hl (Z7E h1) (Z29 h2)
abbrev Fm (α : Type) := Nat × (Nat → α)
abbrev z0_ := api_PortID.mk (0 : Int) (0 : Int)
abbrev z1_ := api_Quality.mk (0 : Int) (0 : Int) (0 : Int)
abbrev z2_ := api_Msg.mk (0 : Int) (0 : Int) (0 : Int) (0 : Int) z0_ (0 : Int) (0 : Int) (0 : Int) z0_ (0 : Int) (0 : Int) z1_ (0 : Int) (0 : Int) (0 : Int) (0 : Int) (0 : Int) (0 : Int) (0 : Int)
abbrev z3_ := timer_Timer.mk (0 : Int)
abbrev z4_ := api_Times.mk (0 : Int) (0 : Int) (0 : Int)
abbrev z5_ := clock_known.mk (0 : Int) false
abbrev z6_ := api_Vector.mk (0 : Int) z1_ (0 : Int) (0 : Int) (0 : Int) z0_ z0_
abbrev z7_ := api_Conf.mk (0 : Int) (0 : Int) (0 : Int) (0 : Int) (0 : Int) z1_ false (0 : Int) (0 : Int) (0 : Int) (0 : Int) false false (0 : Int) (0 : Int) (0 : Int) (0 : Int) z4_ false
abbrev z8_ := (1 : Int) :: (0 : Int) :: (0 : Int) :: (0 : Int) :: (-3 : Int) :: (-3 : Int) :: (-3 : Int) :: (2 : Int) :: (1 : Int) :: (0 : Int) :: (0 : Int) :: (0 : Int) :: (-32768 : Int) :: (0 : Int) :: (0 : Int) :: lnil Int
abbrev z9_ := (8 : Int) :: (127 : Int) :: (255 : Int) :: (255 : Int) :: (4 : Int) :: (4 : Int) :: (4 : Int) :: (10 : Int) :: (15 : Int) :: (2000 : Int) :: (2000 : Int) :: (1000000000 : Int) :: (32767 : Int) :: (63 : Int) :: (255 : Int) :: lnil Int
abbrev z10_ (c : api_Conf) := c.fPorts :: c.fDomain :: c.fPriority1 :: c.fPriority2 :: c.fLogAnn :: c.fLogSync :: c.fLogDelay :: c.fTimeout :: c.fMedian :: c.fKp :: c.fKi :: c.fStep :: c.fTimes.fUtc :: c.fTimes.fFlags :: c.fTimes.fOrigin :: lnil Int
abbrev hT0_ : List (Nat × JH UC) := [(5, .famN false .t_servo_Servo), (6, .famN false .t_foreign_Table), (7, .famN false .t_delay_Exchange), (8, .famN false .t_peer_Exchange), (9, .famN false .t_median_Filter), (10, .famN false .t_seq_Match), (12, .mfam true false .t_api_PortID .l_u64)]
abbrev hT1_ : List (Nat × JH UC) := [(6, .famN false .t_foreign_Table), (12, .mfam true false .t_api_PortID .l_u64)]
abbrev hT2_ : List (Nat × JH UC) := [(6, .famN false .t_foreign_Table), (7, .famN false .t_delay_Exchange), (9, .famN false .t_median_Filter), (10, .famN false .t_seq_Match)]
abbrev hT3_ : List (Nat × JH UC) := [(7, .famN false .t_delay_Exchange), (8, .famN false .t_peer_Exchange), (12, .mfam true false .t_api_PortID .l_u64)]
abbrev hT4_ : List (Nat × JH UC) := [(6, .famN false .t_foreign_Table), (7, .famN false .t_delay_Exchange), (8, .famN false .t_peer_Exchange), (9, .famN false .t_median_Filter), (10, .famN false .t_seq_Match), (12, .mfam true false .t_api_PortID .l_u64)]
abbrev hT5_ : List (Nat × JH UC) := [(0, .famN false .t_clock_Clock), (5, .famN false .t_servo_Servo), (6, .famN false .t_foreign_Table), (7, .famN false .t_delay_Exchange), (8, .famN false .t_peer_Exchange), (9, .famN false .t_median_Filter), (10, .famN false .t_seq_Match), (12, .mfam true false .t_api_PortID .l_u64)]
abbrev hT6_ : List (Nat × JH UC) := [(6, .famN false .t_foreign_Table), (7, .famN false .t_delay_Exchange), (8, .famN false .t_peer_Exchange), (10, .famN false .t_seq_Match), (12, .mfam true false .t_api_PortID .l_u64)]
abbrev hT7_ : List (Nat × JH UC) := [(7, .famN false .t_delay_Exchange), (10, .famN false .t_seq_Match)]
abbrev qT0_ : Type := (Fm servo_Servo) × (Fm foreign_Table) × (Fm delay_Exchange) × (Fm peer_Exchange) × (Fm median_Filter) × (Fm seq_Match) × (Nat × (Nat → List (api_PortID × List (Int)))) × Unit
abbrev qT1_ : Type := (Fm clock_Clock) × (Fm servo_Servo) × (Fm foreign_Table) × (Fm delay_Exchange) × (Fm peer_Exchange) × (Fm median_Filter) × (Fm seq_Match) × (Nat × (Nat → List (api_PortID × List (Int)))) × Unit
abbrev qT2_ : Type := (Fm foreign_Table) × (Fm delay_Exchange) × (Fm median_Filter) × (Fm seq_Match) × Unit
abbrev qT3_ : Type := (Fm foreign_Table) × (Fm delay_Exchange) × (Fm peer_Exchange) × (Fm median_Filter) × (Fm seq_Match) × (Nat × (Nat → List (api_PortID × List (Int)))) × Unit
abbrev qT4_ : Type := (Fm foreign_Table) × (Nat × (Nat → List (api_PortID × List (Int)))) × Unit
abbrev qT5_ : Type := (Fm Bool) × (Fm foreign_Table) × (Fm delay_Exchange) × (Fm median_Filter) × (Fm seq_Match) × Unit
def K46.sig : Sig U := ⟨[.int .u64], [], 0, [.data .t_api_Conf], false, []⟩
abbrev K46.T : Type := (Int) → Option ((api_Conf × Unit) × Unit × Unit)
def K46.W (f : K46.T) : K46.sig.F := fun a x => f a.1
def K46.H : Hints U := { Γ := noΓ, ro := 0, base := 13 }
def K46.gen : K46.T := fun clock =>
 some ((api_Conf.mk clock 1 0 128 128 (api_Quality.mk 248 254 65535) false 1 0 0 3 false false 5 700 300 20000 (api_Times.mk 37 8 160) false, ()), ((), ()))
def K46 : K46.T := K46.gen
theorem K46.eq : EqA K46.sig (K46.H) Tryz.f23 6 (K46.W (K46.gen)) := by intro a x; kernel_rfl
theorem K46.hints : HintsOK U Tryz.prog (K46.H) (fun c => c ∈ ([] : List Code)) := (hq Z4 Z1 (fun _ => rfl) (fun _ => rfl))
theorem K46.ok : Z3 U Tryz.prog 23 (K46.sig.native (K46.W K46)) :=
 Sig.ok K46.sig (K46.W (K46.gen)) U_pure (Hn := (K46.H)) (gos := 6) K46.hints Tryz.func23 rfl (by kernel_rfl) (fun b h => h) rfl rfl (by decide) (K46.eq) (by decide)
def K113.sig : Sig U := ⟨[.data .t_api_Quality], [], 0, [.bool], false, []⟩
abbrev K113.T : Type := (api_Quality) → Option ((Bool × Unit) × Unit × Unit)
def K113.W (f : K113.T) : K113.sig.F := fun a x => f a.1
def K113.H : Hints U := { Γ := noΓ, ro := 0, base := 13 }
def K113.gen : K113.T := fun q =>
 (bif ile 0 q.fClass then (bif ile q.fClass 255 then (bif ile 0 q.fAccuracy then (bif ile q.fAccuracy 255 then (bif ile 0 q.fVariance then some ((ile q.fVariance 65535, ()), ((), ())) else some ((false, ()), ((), ()))) else some ((false, ()), ((), ()))) else some ((false, ()), ((), ()))) else some ((false, ()), ((), ()))) else some ((false, ()), ((), ())))
def K113 : K113.T := K113.gen
theorem K113.eq : EqA K113.sig (K113.H) Tryz.f87 6 (K113.W (K113.gen)) := by intro a x; kernel_rfl
theorem K113.hints : HintsOK U Tryz.prog (K113.H) (fun c => c ∈ ([] : List Code)) := (hq Z4 Z1 (fun _ => rfl) (fun _ => rfl))
theorem K113.ok : Z3 U Tryz.prog 87 (K113.sig.native (K113.W K113)) :=
 Sig.ok K113.sig (K113.W (K113.gen)) U_pure (Hn := (K113.H)) (gos := 6) K113.hints Tryz.func87 rfl (by kernel_rfl) (fun b h => h) rfl rfl (by decide) (K113.eq) (by decide)
def K45.sig : Sig U := ⟨[.data .t_api_Conf], [], 0, [.int .i64], false, []⟩
abbrev K45.T : Type := (api_Conf) → Option ((Int × Unit) × Unit × Unit)
def K45.W (f : K45.T) : K45.sig.F := fun a x => f a.1
def K45.C : Code := match Tryz.f48.body with | some c => c | none => .skip
def K45.B0 : Code := match (Z5 K45.C).getD 0 .skip with | .loop b => b | .scope b => b | _ => .skip
def K45.U0 (cK113 : K113.T) : Hints U := { Γ := (addΓ 87 (K113.sig.native (K113.W cK113)) noΓ), ro := 0, base := 13, joinQ := fun b => (bif Nat.beq b 4 then some [(68, vb_)] else (bif Nat.beq b 7 then some [(70, vb_)] else (bif Nat.beq b 9 then some [(85, vb_)] else none))), loop := fun b => none }
def K45.H (cK113 : K113.T) : Hints U := { Γ := (addΓ 87 (K113.sig.native (K113.W cK113)) noΓ), ro := 0, base := 13, joinQ := fun b => (bif Nat.beq b 4 then some [(68, vb_)] else (bif Nat.beq b 7 then some [(70, vb_)] else (bif Nat.beq b 9 then some [(85, vb_)] else none))), loop := fun b => (bif Nat.beq b 2 then some (Z1S Tryz.prog (K45.U0 cK113) 6 K45.B0 17) else none) }
def K45.gen (cK113 : K113.T) : K45.T := fun c =>
 (oelim ((bif ilt (List.getD (z10_ c) (Int.toNat 0) 0) (List.getD z8_ (Int.toNat 0) 0) then some (true, ()) else some (ilt (List.getD z9_ (Int.toNat 0) 0) (List.getD (z10_ c) (Int.toNat 0) 0), ()))) none fun r0 => (bif r0.1 then some (((15 : Int), ()), ((), ())) else (oelim ((bif ilt (List.getD (z10_ c) (Int.toNat (iadd .i64 0 1)) 0) (List.getD z8_ (Int.toNat (iadd .i64 0 1)) 0) then some (true, ()) else some (ilt (List.getD z9_ (Int.toNat (iadd .i64 0 1)) 0) (List.getD (z10_ c) (Int.toNat (iadd .i64 0 1)) 0), ()))) none fun r1 => (bif r1.1 then some (((15 : Int), ()), ((), ())) else (oelim ((bif ilt (List.getD (z10_ c) (Int.toNat (iadd .i64 (iadd .i64 0 1) 1)) 0) (List.getD z8_ (Int.toNat (iadd .i64 (iadd .i64 0 1) 1)) 0) then some (true, ()) else some (ilt (List.getD z9_ (Int.toNat (iadd .i64 (iadd .i64 0 1) 1)) 0) (List.getD (z10_ c) (Int.toNat (iadd .i64 (iadd .i64 0 1) 1)) 0), ()))) none fun r2 => (bif r2.1 then some (((15 : Int), ()), ((), ())) else (oelim ((bif ilt (List.getD (z10_ c) (Int.toNat (iadd .i64 (iadd .i64 (iadd .i64 0 1) 1) 1)) 0) (List.getD z8_ (Int.toNat (iadd .i64 (iadd .i64 (iadd .i64 0 1) 1) 1)) 0) then some (true, ()) else some (ilt (List.getD z9_ (Int.toNat (iadd .i64 (iadd .i64 (iadd .i64 0 1) 1) 1)) 0) (List.getD (z10_ c) (Int.toNat (iadd .i64 (iadd .i64 (iadd .i64 0 1) 1) 1)) 0), ()))) none fun r3 => (bif r3.1 then some (((15 : Int), ()), ((), ())) else (oelim ((bif ilt (List.getD (z10_ c) (Int.toNat (iadd .i64 (iadd .i64 (iadd .i64 (iadd .i64 0 1) 1) 1) 1)) 0) (List.getD z8_ (Int.toNat (iadd .i64 (iadd .i64 (iadd .i64 (iadd .i64 0 1) 1) 1) 1)) 0) then some (true, ()) else some (ilt (List.getD z9_ (Int.toNat (iadd .i64 (iadd .i64 (iadd .i64 (iadd .i64 0 1) 1) 1) 1)) 0) (List.getD (z10_ c) (Int.toNat (iadd .i64 (iadd .i64 (iadd .i64 (iadd .i64 0 1) 1) 1) 1)) 0), ()))) none fun r4 => (bif r4.1 then some (((15 : Int), ()), ((), ())) else (oelim ((bif ilt (List.getD (z10_ c) (Int.toNat (iadd .i64 (iadd .i64 (iadd .i64 (iadd .i64 (iadd .i64 0 1) 1) 1) 1) 1)) 0) (List.getD z8_ (Int.toNat (iadd .i64 (iadd .i64 (iadd .i64 (iadd .i64 (iadd .i64 0 1) 1) 1) 1) 1)) 0) then some (true, ()) else some (ilt (List.getD z9_ (Int.toNat (iadd .i64 (iadd .i64 (iadd .i64 (iadd .i64 (iadd .i64 0 1) 1) 1) 1) 1)) 0) (List.getD (z10_ c) (Int.toNat (iadd .i64 (iadd .i64 (iadd .i64 (iadd .i64 (iadd .i64 0 1) 1) 1) 1) 1)) 0), ()))) none fun r5 => (bif r5.1 then some (((15 : Int), ()), ((), ())) else (oelim ((bif ilt (List.getD (z10_ c) (Int.toNat (iadd .i64 (iadd .i64 (iadd .i64 (iadd .i64 (iadd .i64 (iadd .i64 0 1) 1) 1) 1) 1) 1)) 0) (List.getD z8_ (Int.toNat (iadd .i64 (iadd .i64 (iadd .i64 (iadd .i64 (iadd .i64 (iadd .i64 0 1) 1) 1) 1) 1) 1)) 0) then some (true, ()) else some (ilt (List.getD z9_ (Int.toNat (iadd .i64 (iadd .i64 (iadd .i64 (iadd .i64 (iadd .i64 (iadd .i64 0 1) 1) 1) 1) 1) 1)) 0) (List.getD (z10_ c) (Int.toNat (iadd .i64 (iadd .i64 (iadd .i64 (iadd .i64 (iadd .i64 (iadd .i64 0 1) 1) 1) 1) 1) 1)) 0), ()))) none fun r6 => (bif r6.1 then some (((15 : Int), ()), ((), ())) else (oelim ((bif ilt (List.getD (z10_ c) (Int.toNat (iadd .i64 (iadd .i64 (iadd .i64 (iadd .i64 (iadd .i64 (iadd .i64 (iadd .i64 0 1) 1) 1) 1) 1) 1) 1)) 0) (List.getD z8_ (Int.toNat (iadd .i64 (iadd .i64 (iadd .i64 (iadd .i64 (iadd .i64 (iadd .i64 (iadd .i64 0 1) 1) 1) 1) 1) 1) 1)) 0) then some (true, ()) else some (ilt (List.getD z9_ (Int.toNat (iadd .i64 (iadd .i64 (iadd .i64 (iadd .i64 (iadd .i64 (iadd .i64 (iadd .i64 0 1) 1) 1) 1) 1) 1) 1)) 0) (List.getD (z10_ c) (Int.toNat (iadd .i64 (iadd .i64 (iadd .i64 (iadd .i64 (iadd .i64 (iadd .i64 (iadd .i64 0 1) 1) 1) 1) 1) 1) 1)) 0), ()))) none fun r7 => (bif r7.1 then some (((15 : Int), ()), ((), ())) else (oelim ((bif ilt (List.getD (z10_ c) (Int.toNat (iadd .i64 (iadd .i64 (iadd .i64 (iadd .i64 (iadd .i64 (iadd .i64 (iadd .i64 (iadd .i64 0 1) 1) 1) 1) 1) 1) 1) 1)) 0) (List.getD z8_ (Int.toNat (iadd .i64 (iadd .i64 (iadd .i64 (iadd .i64 (iadd .i64 (iadd .i64 (iadd .i64 (iadd .i64 0 1) 1) 1) 1) 1) 1) 1) 1)) 0) then some (true, ()) else some (ilt (List.getD z9_ (Int.toNat (iadd .i64 (iadd .i64 (iadd .i64 (iadd .i64 (iadd .i64 (iadd .i64 (iadd .i64 (iadd .i64 0 1) 1) 1) 1) 1) 1) 1) 1)) 0) (List.getD (z10_ c) (Int.toNat (iadd .i64 (iadd .i64 (iadd .i64 (iadd .i64 (iadd .i64 (iadd .i64 (iadd .i64 (iadd .i64 0 1) 1) 1) 1) 1) 1) 1) 1)) 0), ()))) none fun r8 => (bif r8.1 then some (((15 : Int), ()), ((), ())) else (oelim ((bif ilt (List.getD (z10_ c) (Int.toNat (iadd .i64 (iadd .i64 (iadd .i64 (iadd .i64 (iadd .i64 (iadd .i64 (iadd .i64 (iadd .i64 (iadd .i64 0 1) 1) 1) 1) 1) 1) 1) 1) 1)) 0) (List.getD z8_ (Int.toNat (iadd .i64 (iadd .i64 (iadd .i64 (iadd .i64 (iadd .i64 (iadd .i64 (iadd .i64 (iadd .i64 (iadd .i64 0 1) 1) 1) 1) 1) 1) 1) 1) 1)) 0) then some (true, ()) else some (ilt (List.getD z9_ (Int.toNat (iadd .i64 (iadd .i64 (iadd .i64 (iadd .i64 (iadd .i64 (iadd .i64 (iadd .i64 (iadd .i64 (iadd .i64 0 1) 1) 1) 1) 1) 1) 1) 1) 1)) 0) (List.getD (z10_ c) (Int.toNat (iadd .i64 (iadd .i64 (iadd .i64 (iadd .i64 (iadd .i64 (iadd .i64 (iadd .i64 (iadd .i64 (iadd .i64 0 1) 1) 1) 1) 1) 1) 1) 1) 1)) 0), ()))) none fun r9 => (bif r9.1 then some (((15 : Int), ()), ((), ())) else (oelim ((bif ilt (List.getD (z10_ c) (Int.toNat (iadd .i64 (iadd .i64 (iadd .i64 (iadd .i64 (iadd .i64 (iadd .i64 (iadd .i64 (iadd .i64 (iadd .i64 (iadd .i64 0 1) 1) 1) 1) 1) 1) 1) 1) 1) 1)) 0) (List.getD z8_ (Int.toNat (iadd .i64 (iadd .i64 (iadd .i64 (iadd .i64 (iadd .i64 (iadd .i64 (iadd .i64 (iadd .i64 (iadd .i64 (iadd .i64 0 1) 1) 1) 1) 1) 1) 1) 1) 1) 1)) 0) then some (true, ()) else some (ilt (List.getD z9_ (Int.toNat (iadd .i64 (iadd .i64 (iadd .i64 (iadd .i64 (iadd .i64 (iadd .i64 (iadd .i64 (iadd .i64 (iadd .i64 (iadd .i64 0 1) 1) 1) 1) 1) 1) 1) 1) 1) 1)) 0) (List.getD (z10_ c) (Int.toNat (iadd .i64 (iadd .i64 (iadd .i64 (iadd .i64 (iadd .i64 (iadd .i64 (iadd .i64 (iadd .i64 (iadd .i64 (iadd .i64 0 1) 1) 1) 1) 1) 1) 1) 1) 1) 1)) 0), ()))) none fun r10 => (bif r10.1 then some (((15 : Int), ()), ((), ())) else (oelim ((bif ilt (List.getD (z10_ c) (Int.toNat (iadd .i64 (iadd .i64 (iadd .i64 (iadd .i64 (iadd .i64 (iadd .i64 (iadd .i64 (iadd .i64 (iadd .i64 (iadd .i64 (iadd .i64 0 1) 1) 1) 1) 1) 1) 1) 1) 1) 1) 1)) 0) (List.getD z8_ (Int.toNat (iadd .i64 (iadd .i64 (iadd .i64 (iadd .i64 (iadd .i64 (iadd .i64 (iadd .i64 (iadd .i64 (iadd .i64 (iadd .i64 (iadd .i64 0 1) 1) 1) 1) 1) 1) 1) 1) 1) 1) 1)) 0) then some (true, ()) else some (ilt (List.getD z9_ (Int.toNat (iadd .i64 (iadd .i64 (iadd .i64 (iadd .i64 (iadd .i64 (iadd .i64 (iadd .i64 (iadd .i64 (iadd .i64 (iadd .i64 (iadd .i64 0 1) 1) 1) 1) 1) 1) 1) 1) 1) 1) 1)) 0) (List.getD (z10_ c) (Int.toNat (iadd .i64 (iadd .i64 (iadd .i64 (iadd .i64 (iadd .i64 (iadd .i64 (iadd .i64 (iadd .i64 (iadd .i64 (iadd .i64 (iadd .i64 0 1) 1) 1) 1) 1) 1) 1) 1) 1) 1) 1)) 0), ()))) none fun r11 => (bif r11.1 then some (((15 : Int), ()), ((), ())) else (oelim ((bif ilt (List.getD (z10_ c) (Int.toNat (iadd .i64 (iadd .i64 (iadd .i64 (iadd .i64 (iadd .i64 (iadd .i64 (iadd .i64 (iadd .i64 (iadd .i64 (iadd .i64 (iadd .i64 (iadd .i64 0 1) 1) 1) 1) 1) 1) 1) 1) 1) 1) 1) 1)) 0) (List.getD z8_ (Int.toNat (iadd .i64 (iadd .i64 (iadd .i64 (iadd .i64 (iadd .i64 (iadd .i64 (iadd .i64 (iadd .i64 (iadd .i64 (iadd .i64 (iadd .i64 (iadd .i64 0 1) 1) 1) 1) 1) 1) 1) 1) 1) 1) 1) 1)) 0) then some (true, ()) else some (ilt (List.getD z9_ (Int.toNat (iadd .i64 (iadd .i64 (iadd .i64 (iadd .i64 (iadd .i64 (iadd .i64 (iadd .i64 (iadd .i64 (iadd .i64 (iadd .i64 (iadd .i64 (iadd .i64 0 1) 1) 1) 1) 1) 1) 1) 1) 1) 1) 1) 1)) 0) (List.getD (z10_ c) (Int.toNat (iadd .i64 (iadd .i64 (iadd .i64 (iadd .i64 (iadd .i64 (iadd .i64 (iadd .i64 (iadd .i64 (iadd .i64 (iadd .i64 (iadd .i64 (iadd .i64 0 1) 1) 1) 1) 1) 1) 1) 1) 1) 1) 1) 1)) 0), ()))) none fun r12 => (bif r12.1 then some (((15 : Int), ()), ((), ())) else (oelim ((bif ilt (List.getD (z10_ c) (Int.toNat (iadd .i64 (iadd .i64 (iadd .i64 (iadd .i64 (iadd .i64 (iadd .i64 (iadd .i64 (iadd .i64 (iadd .i64 (iadd .i64 (iadd .i64 (iadd .i64 (iadd .i64 0 1) 1) 1) 1) 1) 1) 1) 1) 1) 1) 1) 1) 1)) 0) (List.getD z8_ (Int.toNat (iadd .i64 (iadd .i64 (iadd .i64 (iadd .i64 (iadd .i64 (iadd .i64 (iadd .i64 (iadd .i64 (iadd .i64 (iadd .i64 (iadd .i64 (iadd .i64 (iadd .i64 0 1) 1) 1) 1) 1) 1) 1) 1) 1) 1) 1) 1) 1)) 0) then some (true, ()) else some (ilt (List.getD z9_ (Int.toNat (iadd .i64 (iadd .i64 (iadd .i64 (iadd .i64 (iadd .i64 (iadd .i64 (iadd .i64 (iadd .i64 (iadd .i64 (iadd .i64 (iadd .i64 (iadd .i64 (iadd .i64 0 1) 1) 1) 1) 1) 1) 1) 1) 1) 1) 1) 1) 1)) 0) (List.getD (z10_ c) (Int.toNat (iadd .i64 (iadd .i64 (iadd .i64 (iadd .i64 (iadd .i64 (iadd .i64 (iadd .i64 (iadd .i64 (iadd .i64 (iadd .i64 (iadd .i64 (iadd .i64 (iadd .i64 0 1) 1) 1) 1) 1) 1) 1) 1) 1) 1) 1) 1) 1)) 0), ()))) none fun r13 => (bif r13.1 then some (((15 : Int), ()), ((), ())) else (oelim ((bif ilt (List.getD (z10_ c) (Int.toNat (iadd .i64 (iadd .i64 (iadd .i64 (iadd .i64 (iadd .i64 (iadd .i64 (iadd .i64 (iadd .i64 (iadd .i64 (iadd .i64 (iadd .i64 (iadd .i64 (iadd .i64 (iadd .i64 0 1) 1) 1) 1) 1) 1) 1) 1) 1) 1) 1) 1) 1) 1)) 0) (List.getD z8_ (Int.toNat (iadd .i64 (iadd .i64 (iadd .i64 (iadd .i64 (iadd .i64 (iadd .i64 (iadd .i64 (iadd .i64 (iadd .i64 (iadd .i64 (iadd .i64 (iadd .i64 (iadd .i64 (iadd .i64 0 1) 1) 1) 1) 1) 1) 1) 1) 1) 1) 1) 1) 1) 1)) 0) then some (true, ()) else some (ilt (List.getD z9_ (Int.toNat (iadd .i64 (iadd .i64 (iadd .i64 (iadd .i64 (iadd .i64 (iadd .i64 (iadd .i64 (iadd .i64 (iadd .i64 (iadd .i64 (iadd .i64 (iadd .i64 (iadd .i64 (iadd .i64 0 1) 1) 1) 1) 1) 1) 1) 1) 1) 1) 1) 1) 1) 1)) 0) (List.getD (z10_ c) (Int.toNat (iadd .i64 (iadd .i64 (iadd .i64 (iadd .i64 (iadd .i64 (iadd .i64 (iadd .i64 (iadd .i64 (iadd .i64 (iadd .i64 (iadd .i64 (iadd .i64 (iadd .i64 (iadd .i64 0 1) 1) 1) 1) 1) 1) 1) 1) 1) 1) 1) 1) 1) 1)) 0), ()))) none fun r14 => (bif r14.1 then some (((15 : Int), ()), ((), ())) else (oelim ((bif ieq c.fClock 0 then some (true, ()) else (bif ieq c.fClock 18446744073709551615 then some (true, ()) else (oelim (cK113 c.fQuality) none fun r15 => some (!r15.1.1, ()))))) none fun r16 => (bif r16.1 then some (((15 : Int), ()), ((), ())) else (oelim ((bif c.fSlaveOnly then (bif ilt 1 c.fPorts then some (true, ()) else some (ine c.fQuality.fClass 255, ())) else some (false, ()))) none fun r17 => (bif r17.1 then some (((15 : Int), ()), ((), ())) else some (((0 : Int), ()), ((), ()))))))))))))))))))))))))))))))))))))
def K45 : K45.T := K45.gen K113
theorem K45.inner0 : Z5 K45.B0 = [] := by kernel_rfl
abbrev K45.h := K45.H K113
theorem K45.lok0 : Ze U Tryz.prog K45.h.ro K45.h.base K45.B0 (Z1S Tryz.prog (K45.U0 K113) 6 K45.B0 17) :=
 Z2x (Hn := (K45.U0 K113)) (L := fun c => c ∈ ([] : List Code)) (hq (Z0 Z4 K113.ok) Z1 (fun _ => rfl) (fun _ => rfl)) (fun b h => by rw [K45.inner0] at h; exact h) 17
theorem K45.eq (cK113 : K113.T) : EqA K45.sig (K45.H cK113) Tryz.f48 6 (K45.W (K45.gen cK113)) := by intro a x; kernel_rfl
theorem K45.loops : Z5 K45.C = [(.loop K45.B0)] := by kernel_rfl
theorem K45.hints : HintsOK U Tryz.prog K45.h (fun c => c ∈ [(.loop K45.B0)]) := (hq (Z0 Z4 K113.ok) (Zb (by kernel_rfl) K45.lok0 Z1) (fun _ => rfl) (fun _ => rfl))
theorem K45.ok : Z3 U Tryz.prog 48 (K45.sig.native (K45.W K45)) :=
 Sig.ok K45.sig (K45.W K45) U_pure (Hn := K45.h) (code := K45.C) (gos := 6) K45.hints Tryz.func48 (by kernel_rfl) (by kernel_rfl) (fun b h => by rw [K45.loops] at h; exact h) rfl rfl (by decide) (K45.eq K113) (by decide)
def K141.sig : Sig U := ⟨[.data .t_api_Conf], [], 0, [.data .t_api_Parent], false, []⟩
abbrev K141.T : Type := (api_Conf) → Option ((api_Parent × Unit) × Unit × Unit)
def K141.W (f : K141.T) : K141.sig.F := fun a x => f a.1
def K141.H : Hints U := { Γ := noΓ, ro := 0, base := 13 }
def K141.gen : K141.T := fun c =>
 some ((api_Parent.mk (api_PortID.mk c.fClock 0) c.fClock c.fQuality c.fPriority1 c.fPriority2 0 c.fTimes, ()), ((), ()))
def K141 : K141.T := K141.gen
theorem K141.eq : EqA K141.sig (K141.H) Tryz.f88 6 (K141.W (K141.gen)) := by intro a x; kernel_rfl
theorem K141.hints : HintsOK U Tryz.prog (K141.H) (fun c => c ∈ ([] : List Code)) := (hq Z4 Z1 (fun _ => rfl) (fun _ => rfl))
theorem K141.ok : Z3 U Tryz.prog 88 (K141.sig.native (K141.W K141)) :=
 Sig.ok K141.sig (K141.W (K141.gen)) U_pure (Hn := (K141.H)) (gos := 6) K141.hints Tryz.func88 rfl (by kernel_rfl) (fun b h => h) rfl rfl (by decide) (K141.eq) (by decide)
def K118.sig : Sig U := ⟨[.int .i64, .int .i64, .int .i64], [fm5_], 0, [.ref 5], false, []⟩
abbrev K118.T : Type := (Int) → (Int) → (Int) → (Fm servo_Servo) → Option (((Option Nat) × Unit) × ((Fm servo_Servo) × Unit) × Unit)
def K118.W (f : K118.T) : K118.sig.F := fun a x => f a.1 a.2.1 a.2.2.1 x.1
def K118.H : Hints U := { Γ := noΓ, ro := 0, base := 13 }
def K118.gen : K118.T := fun kp ki step g5 =>
 some ((some g5.1, ()), (((g5.1 + 1, fset g5.2 g5.1 (servo_Servo.mk (Z7 true 0 (Z7 false kp 2000)) (Z7 true 0 (Z7 false ki 2000)) (Z7 true 0 (Z7 false step 1000000000)) 0 0 0 0)), ()), ()))
def K118 : K118.T := K118.gen
theorem K118.eq : EqA K118.sig (K118.H) Tryz.f89 6 (K118.W (K118.gen)) := by intro a x; kernel_rfl
theorem K118.hints : HintsOK U Tryz.prog (K118.H) (fun c => c ∈ ([] : List Code)) := (hq Z4 Z1 (fun _ => rfl) (fun _ => rfl))
theorem K118.ok : Z3 U Tryz.prog 89 (K118.sig.native (K118.W K118)) :=
 Sig.ok K118.sig (K118.W (K118.gen)) U_pure (Hn := (K118.H)) (gos := 6) K118.hints Tryz.func89 rfl (by kernel_rfl) (fun b h => h) rfl rfl (by decide) (K118.eq) (by decide)
def K83.sig : Sig U := ⟨[.int .i64], [fm9_], 0, [.ref 9], false, []⟩
abbrev K83.T : Type := (Int) → (Fm median_Filter) → Option (((Option Nat) × Unit) × ((Fm median_Filter) × Unit) × Unit)
def K83.W (f : K83.T) : K83.sig.F := fun a x => f a.1 x.1
def K83.H : Hints U := { Γ := noΓ, ro := 0, base := 13 }
def K83.gen : K83.T := fun n g9 =>
 some ((some g9.1, ()), (((g9.1 + 1, fset g9.2 g9.1 (median_Filter.mk (fun (j : Nat) => List.getD ((0 : Int) :: (0 : Int) :: (0 : Int) :: (0 : Int) :: (0 : Int) :: (0 : Int) :: (0 : Int) :: (0 : Int) :: (0 : Int) :: (0 : Int) :: (0 : Int) :: (0 : Int) :: (0 : Int) :: (0 : Int) :: (0 : Int) :: lnil Int) j (0 : D UC.int)) 0 (Z7 true 1 (Z7 false n 15)))), ()), ()))
def K83 : K83.T := K83.gen
theorem K83.eq : EqA K83.sig (K83.H) Tryz.f90 6 (K83.W (K83.gen)) := by intro a x; kernel_rfl
theorem K83.hints : HintsOK U Tryz.prog (K83.H) (fun c => c ∈ ([] : List Code)) := (hq Z4 Z1 (fun _ => rfl) (fun _ => rfl))
theorem K83.ok : Z3 U Tryz.prog 90 (K83.sig.native (K83.W K83)) :=
 Sig.ok K83.sig (K83.W (K83.gen)) U_pure (Hn := (K83.H)) (gos := 6) K83.hints Tryz.func90 rfl (by kernel_rfl) (fun b h => h) rfl rfl (by decide) (K83.eq) (by decide)
def K25.sig : Sig U := ⟨[.ptr, .int .i64], [.obj .t_clock_Clock], 1, [.data .t_api_PortID], false, []⟩
abbrev K25.T : Type := (Int) → (clock_Clock) → Option ((api_PortID × Unit) × Unit × Unit)
def K25.W (f : K25.T) : K25.sig.F := fun a x => f a.2.1 x.1
def K25.H : Hints U := { Γ := (addΓ 5000000021 Z1x noΓ), ro := 14, base := 14 }
def K25.gen : K25.T := fun n h0 =>
 some ((api_PortID.mk h0.fconf.fClock n, ()), ((), ()))
def K25 : K25.T := K25.gen
theorem K25.eq : EqA K25.sig (K25.H) Tryz.f79 6 (K25.W (K25.gen)) := by intro a x; kernel_rfl
theorem K25.hints : HintsOK U Tryz.prog (K25.H) (fun c => c ∈ ([] : List Code)) := (hq (Z0 Z4 Zo) Z1 (fun _ => rfl) (fun _ => rfl))
theorem K25.ok : Z3 U Tryz.prog 79 (K25.sig.native (K25.W K25)) :=
 Sig.ok K25.sig (K25.W (K25.gen)) U_pure (Hn := (K25.H)) (gos := 6) K25.hints Tryz.func79 rfl (by kernel_rfl) (fun b h => h) rfl rfl (by decide) (K25.eq) (by decide)
def K26.sig : Sig U := ⟨[.ptr, .int .i64], [.obj .t_clock_Clock], 1, [.eptr 0 23 42 8], false, []⟩
abbrev K26.T : Type := (Int) → (clock_Clock) → Option ((Nat × Unit) × Unit × Unit)
def K26.W (f : K26.T) : K26.sig.F := fun a x => f a.2.1 x.1
def K26.H : Hints U := { Γ := (addΓ 5000000021 Z1x noΓ), ro := 14, base := 14 }
def K26.gen : K26.T := fun n h0 =>
 (bif inR (isub .i64 n 1) 8 then some ((Int.toNat (isub .i64 n 1), ()), ((), ())) else none)
def K26 : K26.T := K26.gen
theorem K26.eq : EqA K26.sig (K26.H) Tryz.f52 6 (K26.W (K26.gen)) := by intro a x; kernel_rfl
theorem K26.hints : HintsOK U Tryz.prog (K26.H) (fun c => c ∈ ([] : List Code)) := (hq (Z0 Z4 Zo) Z1 (fun _ => rfl) (fun _ => rfl))
theorem K26.ok : Z3 U Tryz.prog 52 (K26.sig.native (K26.W K26)) :=
 Sig.ok K26.sig (K26.W (K26.gen)) U_pure (Hn := (K26.H)) (gos := 6) K26.hints Tryz.func52 rfl (by kernel_rfl) (fun b h => h) rfl rfl (by decide) (K26.eq) (by decide)
def K125.sig : Sig U := ⟨[.int .i64, .int .i64], [], 0, [.int .i64], false, []⟩
abbrev K125.T : Type := (Int) → (Int) → Option ((Int × Unit) × Unit × Unit)
def K125.W (f : K125.T) : K125.sig.F := fun a x => f a.1 a.2.1
def K125.H : Hints U := { Γ := noΓ, ro := 0, base := 13 }
def K125.gen : K125.T := fun n log =>
 (bif ieq (Z7 true (-3) (Z7 false log 4)) (-3) then some ((iquo .i64 (iquo .i64 (iquo .i64 n 2) 2) 2, ()), ((), ())) else (bif ieq (Z7 true (-3) (Z7 false log 4)) (-2) then some ((iquo .i64 (iquo .i64 n 2) 2, ()), ((), ())) else (bif ieq (Z7 true (-3) (Z7 false log 4)) (-1) then some ((iquo .i64 n 2, ()), ((), ())) else (bif ile 0 (Z7 true (-3) (Z7 false log 4)) then some ((ishl .i64 n (Z7 true (-3) (Z7 false log 4)), ()), ((), ())) else none))))
def K125 : K125.T := K125.gen
theorem K125.eq : EqA K125.sig (K125.H) Tryz.f175 6 (K125.W (K125.gen)) := by intro a x; kernel_rfl
theorem K125.hints : HintsOK U Tryz.prog (K125.H) (fun c => c ∈ ([] : List Code)) := (hq Z4 Z1 (fun _ => rfl) (fun _ => rfl))
theorem K125.ok : Z3 U Tryz.prog 175 (K125.sig.native (K125.W K125)) :=
 Sig.ok K125.sig (K125.W (K125.gen)) U_pure (Hn := (K125.H)) (gos := 6) K125.hints Tryz.func175 rfl (by kernel_rfl) (fun b h => h) rfl rfl (by decide) (K125.eq) (by decide)
def K124.sig : Sig U := ⟨[.int .i64], [], 0, [.int .i64], false, []⟩
abbrev K124.T : Type := (Int) → Option ((Int × Unit) × Unit × Unit)
def K124.W (f : K124.T) : K124.sig.F := fun a x => f a.1
def K124.H (cK125 : K125.T) : Hints U := { Γ := (addΓ 175 (K125.sig.native (K125.W cK125)) noΓ), ro := 0, base := 13 }
def K124.gen (cK125 : K125.T) : K124.T := fun log =>
 (oelim (cK125 8 log) none fun r0 => some (r0.1, ((), ())))
def K124 : K124.T := K124.gen K125
theorem K124.eq (cK125 : K125.T) : EqA K124.sig (K124.H cK125) Tryz.f132 6 (K124.W (K124.gen cK125)) := by intro a x; kernel_rfl
abbrev K124.h := K124.H K125
theorem K124.hints : HintsOK U Tryz.prog K124.h (fun c => c ∈ ([] : List Code)) := (hq (Z0 Z4 K125.ok) Z1 (fun _ => rfl) (fun _ => rfl))
theorem K124.ok : Z3 U Tryz.prog 132 (K124.sig.native (K124.W K124)) :=
 Sig.ok K124.sig (K124.W K124) U_pure (Hn := K124.h) (gos := 6) K124.hints Tryz.func132 rfl (by kernel_rfl) (fun b h => h) rfl rfl (by decide) (K124.eq K125) (by decide)
def K10.sig : Sig U := ⟨[.ptr], [.obj .t_clock_Clock], 1, [.int .i64], false, []⟩
abbrev K10.T : Type := (clock_Clock) → Option ((Int × Unit) × Unit × Unit)
def K10.W (f : K10.T) : K10.sig.F := fun a x => f x.1
def K10.H (cK124 : K124.T) : Hints U := { Γ := (addΓ 132 (K124.sig.native (K124.W cK124)) (addΓ 5000000021 Z1x noΓ)), ro := 14, base := 14 }
def K10.gen (cK124 : K124.T) : K10.T := fun h0 =>
 (oelim (cK124 h0.fconf.fLogAnn) none fun r0 => some (r0.1, ((), ())))
def K10 : K10.T := K10.gen K124
theorem K10.eq (cK124 : K124.T) : EqA K10.sig (K10.H cK124) Tryz.f70 6 (K10.W (K10.gen cK124)) := by intro a x; kernel_rfl
abbrev K10.h := K10.H K124
theorem K10.hints : HintsOK U Tryz.prog K10.h (fun c => c ∈ ([] : List Code)) := (hq (Z0 (Z0 Z4 Zo) K124.ok) Z1 (fun _ => rfl) (fun _ => rfl))
theorem K10.ok : Z3 U Tryz.prog 70 (K10.sig.native (K10.W K10)) :=
 Sig.ok K10.sig (K10.W K10) U_pure (Hn := K10.h) (gos := 6) K10.hints Tryz.func70 rfl (by kernel_rfl) (fun b h => h) rfl rfl (by decide) (K10.eq K124) (by decide)
def K53.sig : Sig U := ⟨[.int .u64, .int .i64, .int .i64], [fm6_], 0, [.ref 6], false, []⟩
abbrev K53.T : Type := (Int) → (Int) → (Int) → (Fm foreign_Table) → Option (((Option Nat) × Unit) × ((Fm foreign_Table) × Unit) × Unit)
def K53.W (f : K53.T) : K53.sig.F := fun a x => f a.1 a.2.1 a.2.2.1 x.1
def K53.H : Hints U := { Γ := noΓ, ro := 0, base := 13 }
def K53.gen : K53.T := fun own port window g6 =>
 some ((some g6.1, ()), (((g6.1 + 1, fset g6.2 g6.1 (foreign_Table.mk (api_PortID.mk own port) (Z7 true 1 (Z7 false window 1048576)) (fun (j : Nat) => List.getD (foreign_Record.mk z6_ z4_ 0 0 0 :: foreign_Record.mk z6_ z4_ 0 0 0 :: foreign_Record.mk z6_ z4_ 0 0 0 :: foreign_Record.mk z6_ z4_ 0 0 0 :: foreign_Record.mk z6_ z4_ 0 0 0 :: lnil foreign_Record) j foreign_Record.zero) 0)), ()), ()))
def K53 : K53.T := K53.gen
theorem K53.eq : EqA K53.sig (K53.H) Tryz.f91 6 (K53.W (K53.gen)) := by intro a x; kernel_rfl
theorem K53.hints : HintsOK U Tryz.prog (K53.H) (fun c => c ∈ ([] : List Code)) := (hq Z4 Z1 (fun _ => rfl) (fun _ => rfl))
theorem K53.ok : Z3 U Tryz.prog 91 (K53.sig.native (K53.W K53)) :=
 Sig.ok K53.sig (K53.W (K53.gen)) U_pure (Hn := (K53.H)) (gos := 6) K53.hints Tryz.func91 rfl (by kernel_rfl) (fun b h => h) rfl rfl (by decide) (K53.eq) (by decide)
def K116.sig : Sig U := ⟨[], [fm10_], 0, [.ref 10], false, []⟩
abbrev K116.T : Type := (Fm seq_Match) → Option (((Option Nat) × Unit) × ((Fm seq_Match) × Unit) × Unit)
def K116.W (f : K116.T) : K116.sig.F := fun a x => f x.1
def K116.H : Hints U := { Γ := noΓ, ro := 0, base := 13 }
def K116.gen : K116.T := fun g10 =>
 some ((some g10.1, ()), (((g10.1 + 1, fset g10.2 g10.1 (seq_Match.mk z2_ z2_ 0 false false)), ()), ()))
def K116 : K116.T := K116.gen
theorem K116.eq : EqA K116.sig (K116.H) Tryz.f92 6 (K116.W (K116.gen)) := by intro a x; kernel_rfl
theorem K116.hints : HintsOK U Tryz.prog (K116.H) (fun c => c ∈ ([] : List Code)) := (hq Z4 Z1 (fun _ => rfl) (fun _ => rfl))
theorem K116.ok : Z3 U Tryz.prog 92 (K116.sig.native (K116.W K116)) :=
 Sig.ok K116.sig (K116.W (K116.gen)) U_pure (Hn := (K116.H)) (gos := 6) K116.hints Tryz.func92 rfl (by kernel_rfl) (fun b h => h) rfl rfl (by decide) (K116.eq) (by decide)
def K52.sig : Sig U := ⟨[.data .t_api_PortID, .int .i64], [fm7_], 0, [.ref 7], false, []⟩
abbrev K52.T : Type := (api_PortID) → (Int) → (Fm delay_Exchange) → Option (((Option Nat) × Unit) × ((Fm delay_Exchange) × Unit) × Unit)
def K52.W (f : K52.T) : K52.sig.F := fun a x => f a.1 a.2.1 x.1
def K52.H : Hints U := { Γ := noΓ, ro := 0, base := 13 }
def K52.gen : K52.T := fun self domain g7 =>
 some ((some g7.1, ()), (((g7.1 + 1, fset g7.2 g7.1 (delay_Exchange.mk self domain (delay_request.mk 0 0 false false))), ()), ()))
def K52 : K52.T := K52.gen
theorem K52.eq : EqA K52.sig (K52.H) Tryz.f93 6 (K52.W (K52.gen)) := by intro a x; kernel_rfl
theorem K52.hints : HintsOK U Tryz.prog (K52.H) (fun c => c ∈ ([] : List Code)) := (hq Z4 Z1 (fun _ => rfl) (fun _ => rfl))
theorem K52.ok : Z3 U Tryz.prog 93 (K52.sig.native (K52.W K52)) :=
 Sig.ok K52.sig (K52.W (K52.gen)) U_pure (Hn := (K52.H)) (gos := 6) K52.hints Tryz.func93 rfl (by kernel_rfl) (fun b h => h) rfl rfl (by decide) (K52.eq) (by decide)
def K105.sig : Sig U := ⟨[.data .t_api_PortID, .int .i64], [fm8_], 0, [.ref 8], false, []⟩
abbrev K105.T : Type := (api_PortID) → (Int) → (Fm peer_Exchange) → Option (((Option Nat) × Unit) × ((Fm peer_Exchange) × Unit) × Unit)
def K105.W (f : K105.T) : K105.sig.F := fun a x => f a.1 a.2.1 x.1
def K105.H : Hints U := { Γ := noΓ, ro := 0, base := 13 }
def K105.gen : K105.T := fun self domain g8 =>
 some ((some g8.1, ()), (((g8.1 + 1, fset g8.2 g8.1 (peer_Exchange.mk self domain 0 0 false false false false z2_ 0)), ()), ()))
def K105 : K105.T := K105.gen
theorem K105.eq : EqA K105.sig (K105.H) Tryz.f94 6 (K105.W (K105.gen)) := by intro a x; kernel_rfl
theorem K105.hints : HintsOK U Tryz.prog (K105.H) (fun c => c ∈ ([] : List Code)) := (hq Z4 Z1 (fun _ => rfl) (fun _ => rfl))
theorem K105.ok : Z3 U Tryz.prog 94 (K105.sig.native (K105.W K105)) :=
 Sig.ok K105.sig (K105.W (K105.gen)) U_pure (Hn := (K105.H)) (gos := 6) K105.hints Tryz.func94 rfl (by kernel_rfl) (fun b h => h) rfl rfl (by decide) (K105.eq) (by decide)
def K13.sig : Sig U := ⟨[.ptr, .data .t_api_Conf], [.obj .t_clock_Clock, fm5_, fm6_, fm7_, fm8_, fm9_, fm10_, .fam 12 (.map true false .t_api_PortID .l_u64)], 0, [], true, []⟩
abbrev K13.T : Type := (api_Conf) → (clock_Clock) → (Fm servo_Servo) → (Fm foreign_Table) → (Fm delay_Exchange) → (Fm peer_Exchange) → (Fm median_Filter) → (Fm seq_Match) → (Nat × (Nat → List (api_PortID × List (Int)))) → Option (Unit × (clock_Clock × qT0_) × Unit)
def K13.W (f : K13.T) : K13.sig.F := fun a x => f a.2.1 x.1 x.2.1 x.2.2.1 x.2.2.2.1 x.2.2.2.2.1 x.2.2.2.2.2.1 x.2.2.2.2.2.2.1 x.2.2.2.2.2.2.2.1
def K13.L0 : Shape U := ⟨57, 15, [(0, .ptr 13 0 0), (3, .ptr 14 0 0), (4, vi_)], (13, .obj .t_clock_Clock) :: (14, .obj .t_api_Conf) :: hT0_⟩
def K13.X0 : Exits U := [(.exit 0, ⟨57, 14, [], (13, .obj .t_clock_Clock) :: hT0_⟩)]
abbrev K13.l0T : Type := ((Int × Unit) × (clock_Clock × api_Conf × qT0_)) → Option ((Unit × (clock_Clock × qT0_)))
def K13.C : Code := match Tryz.f49.body with | some c => c | none => .skip
def K13.B0 : Code := match (Z5 K13.C).getD 0 .skip with | .loop b => b | .scope b => b | _ => .skip
def K13.JR6 : Exits U := [(.normal, ⟨57, 15, [(0, .ptr 13 0 0), (3, .ptr 14 0 0), (4, vi_)], (13, .obj .t_clock_Clock) :: (14, .obj .t_api_Conf) :: hT0_⟩)]
def K13.JR5 : Exits U := [(.normal, ⟨57, 16, [(0, .ptr 13 0 0), (3, .ptr 14 0 0), (4, vi_), (5, .ptr 15 0 0)], (13, .obj .t_clock_Clock) :: (14, .obj .t_api_Conf) :: (15, .obj .t_api_PortID) :: hT0_⟩)]
def K13.JR1 : Exits U := [(.normal, ⟨57, 15, [(0, .ptr 13 0 0), (3, .ptr 14 0 0)], (13, .obj .t_clock_Clock) :: (14, .obj .t_api_Conf) :: hT0_⟩)]
def K13.H (cK141 : K141.T) (cK118 : K118.T) (cK83 : K83.T) (cK25 : K25.T) (cK26 : K26.T) (cK10 : K10.T) (cK53 : K53.T) (cK116 : K116.T) (cK52 : K52.T) (cK105 : K105.T) (l0 : K13.l0T) : Hints U := { Γ := (addΓ 94 (K105.sig.native (K105.W cK105)) (addΓ 93 (K52.sig.native (K52.W cK52)) (addΓ 92 (K116.sig.native (K116.W cK116)) (addΓ 91 (K53.sig.native (K53.W cK53)) (addΓ 70 (K10.sig.native (K10.W cK10)) (addΓ 52 (K26.sig.native (K26.W cK26)) (addΓ 79 (K25.sig.native (K25.W cK25)) (addΓ 90 (K83.sig.native (K83.W cK83)) (addΓ 89 (K118.sig.native (K118.W cK118)) (addΓ 88 (K141.sig.native (K141.W cK141)) noΓ)))))))))), ro := 0, base := 14, joinR := fun b => (bif Nat.beq b 1 then some K13.JR1 else (bif Nat.beq b 5 then some K13.JR5 else (bif Nat.beq b 6 then some K13.JR6 else none))), loop := fun b => (bif Nat.beq b 3 then some (Zc (0, 14) K13.L0 K13.X0 l0) else none) }
def K13.step0 (cK141 : K141.T) (cK118 : K118.T) (cK83 : K83.T) (cK25 : K25.T) (cK26 : K26.T) (cK10 : K10.T) (cK53 : K53.T) (cK116 : K116.T) (cK52 : K52.T) (cK105 : K105.T) (a : (Int × Unit) × (clock_Clock × api_Conf × qT0_)) : Option (((Int × Unit) × (clock_Clock × api_Conf × qT0_)) ⊕ ((Unit × (clock_Clock × qT0_)))) :=
 (bif ile a.1.1 a.2.2.1.fPorts then (oelim ((oelim (cK25 a.1.1 a.2.1) none fun r0 => some (a.1, (a.2.1, (a.2.2.1, (r0.1.1, a.2.2.2)))))) none fun r1 => (oelim ((oelim (cK26 r1.1.1 r1.2.1) none fun r2 => (oelim (cK10 r1.2.1) none fun r3 => (oelim (cK53 r1.2.2.1.fClock r1.1.1 (imul .i64 4 r3.1.1) r1.2.2.2.2.2.1) none fun r4 => (oelim (cK116 r1.2.2.2.2.2.2.2.2.2.1) none fun r5 => (oelim (cK52 r1.2.2.2.1 r1.2.2.1.fDomain r1.2.2.2.2.2.2.1) none fun r6 => (oelim (cK105 r1.2.2.2.1 r1.2.2.1.fDomain r1.2.2.2.2.2.2.2.1) none fun r7 => some (r1.1, (clock_Clock.set_fports r1.2.1 (fset r1.2.1.fports r2.1.1 (clock_side.mk 1 r4.1.1 (some r1.2.2.2.2.2.2.2.2.2.2.1.1) z3_ z3_ z3_ z3_ z3_ 0 0 0 r5.1.1 r6.1.1 r7.1.1 z5_ z5_ z2_ false)), (r1.2.2.1, (r1.2.2.2.2.1, (r4.2.1.1, (r6.2.1.1, (r7.2.1.1, (r1.2.2.2.2.2.2.2.2.1, (r5.2.1.1, ((r1.2.2.2.2.2.2.2.2.2.2.1.1 + 1, fset r1.2.2.2.2.2.2.2.2.2.2.1.2 r1.2.2.2.2.2.2.2.2.2.2.1.1 (lnil (D UC.t_api_PortID × D UC.l_u64))), ()))))))))))))))))) none fun r8 => some (.inl ((iadd .i64 r8.1.1 1, ()), r8.2)))) else some (.inr ((), (a.2.1, a.2.2.2))))
def K13.F0 : K13.l0T := fun a => Za (1000000) (K13.step0 K141 K118 K83 K25 K26 K10 K53 K116 K52 K105) a
def K13.gen (cK141 : K141.T) (cK118 : K118.T) (cK83 : K83.T) (cK25 : K25.T) (cK26 : K26.T) (cK10 : K10.T) (cK53 : K53.T) (cK116 : K116.T) (cK52 : K52.T) (cK105 : K105.T) (l0 : K13.l0T) : K13.T := fun c h0 g5 g6 g7 g8 g9 g10 g12 =>
 (oelim ((oelim (cK141 c) none fun r0 => (oelim (cK118 c.fKp c.fKi c.fStep g5) none fun r1 => (oelim (cK83 c.fMedian g9) none fun r2 => some ((), (clock_Clock.mk c (fun (j : Nat) => List.getD (clock_side.mk 0 none none z3_ z3_ z3_ z3_ z3_ 0 0 0 none none none z5_ z5_ z2_ false :: clock_side.mk 0 none none z3_ z3_ z3_ z3_ z3_ 0 0 0 none none none z5_ z5_ z2_ false :: clock_side.mk 0 none none z3_ z3_ z3_ z3_ z3_ 0 0 0 none none none z5_ z5_ z2_ false :: clock_side.mk 0 none none z3_ z3_ z3_ z3_ z3_ 0 0 0 none none none z5_ z5_ z2_ false :: clock_side.mk 0 none none z3_ z3_ z3_ z3_ z3_ 0 0 0 none none none z5_ z5_ z2_ false :: clock_side.mk 0 none none z3_ z3_ z3_ z3_ z3_ 0 0 0 none none none z5_ z5_ z2_ false :: clock_side.mk 0 none none z3_ z3_ z3_ z3_ z3_ 0 0 0 none none none z5_ z5_ z2_ false :: clock_side.mk 0 none none z3_ z3_ z3_ z3_ z3_ 0 0 0 none none none z5_ z5_ z2_ false :: lnil clock_side) j clock_side.zero) 0 r0.1.1 r1.1.1 r2.1.1 0 z5_ 0 h0.fouts, (c, (r1.2.1.1, (g6, (g7, (g8, (r2.2.1.1, (g10, (g12, ())))))))))))))) none fun r3 => (oelim (l0 (((1 : Int), ()), r3.2)) none fun r4 => some ((), (r4.2, ()))))
def K13 : K13.T := K13.gen K141 K118 K83 K25 K26 K10 K53 K116 K52 K105 K13.F0
theorem K13.seq0 (cK141 : K141.T) (cK118 : K118.T) (cK83 : K83.T) (cK25 : K25.T) (cK26 : K26.T) (cK10 : K10.T) (cK53 : K53.T) (cK116 : K116.T) (cK52 : K52.T) (cK105 : K105.T) (l0 : K13.l0T) (a : K13.L0.T) : run Tryz.prog (K13.H cK141 cK118 cK83 cK25 cK26 cK10 cK53 cK116 cK52 cK105 l0) 6 (Option (K13.L0.T ⊕ ExT K13.X0)) none K13.B0 (K13.L0.enc a) (Zs (0, 14) K13.L0 K13.X0) = K13.step0 cK141 cK118 cK83 cK25 cK26 cK10 cK53 cK116 cK52 cK105 a := by kernel_rfl
theorem K13.inner0 : Z5 K13.B0 = ([] : List Code) := by kernel_rfl
abbrev K13.h := K13.H K141 K118 K83 K25 K26 K10 K53 K116 K52 K105 K13.F0
theorem K13.lok0 : Ze U Tryz.prog K13.h.ro K13.h.base K13.B0 (Zc (0, 14) K13.L0 K13.X0 K13.F0) :=
 Zh (Hn := K13.h) U_ok U_pure (Zl (hq (Z0 (Z0 (Z0 (Z0 (Z0 (Z0 (Z0 (Z0 (Z0 (Z0 Z4 K141.ok) K118.ok) K83.ok) K25.ok) K26.ok) K10.ok) K53.ok) K116.ok) K52.ok) K105.ok) Z1 (fun _ => rfl) (fun _ => rfl)) 6) (fun b h => by rw [K13.inner0] at h; exact h) (fun _ => rfl) (K13.seq0 K141 K118 K83 K25 K26 K10 K53 K116 K52 K105 K13.F0)
theorem K13.eq (cK141 : K141.T) (cK118 : K118.T) (cK83 : K83.T) (cK25 : K25.T) (cK26 : K26.T) (cK10 : K10.T) (cK53 : K53.T) (cK116 : K116.T) (cK52 : K52.T) (cK105 : K105.T) (l0 : K13.l0T) : EqA K13.sig (K13.H cK141 cK118 cK83 cK25 cK26 cK10 cK53 cK116 cK52 cK105 l0) Tryz.f49 6 (K13.W (K13.gen cK141 cK118 cK83 cK25 cK26 cK10 cK53 cK116 cK52 cK105 l0)) := by intro a x; kernel_rfl
theorem K13.loops : Z5 K13.C = [(.loop K13.B0)] := by kernel_rfl
theorem K13.hints : HintsOK U Tryz.prog K13.h (fun c => c ∈ [(.loop K13.B0)]) := (hq (Z0 (Z0 (Z0 (Z0 (Z0 (Z0 (Z0 (Z0 (Z0 (Z0 Z4 K141.ok) K118.ok) K83.ok) K25.ok) K26.ok) K10.ok) K53.ok) K116.ok) K52.ok) K105.ok) (Zb (by kernel_rfl) K13.lok0 Z1) (fun _ => rfl) (fun _ => rfl))
theorem K13.ok : Z3 U Tryz.prog 49 (K13.sig.native (K13.W K13)) :=
 Sig.ok K13.sig (K13.W K13) U_pure (Hn := K13.h) (code := K13.C) (gos := 6) K13.hints Tryz.func49 (by kernel_rfl) (by kernel_rfl) (fun b h => by rw [K13.loops] at h; exact h) rfl rfl (by decide) (K13.eq K141 K118 K83 K25 K26 K10 K53 K116 K52 K105 K13.F0) (by decide)
def K30.sig : Sig U := ⟨[.data .t_api_Conf], [fm0_, fm5_, fm6_, fm7_, fm8_, fm9_, fm10_, .fam 12 (.map true false .t_api_PortID .l_u64)], 0, [.ref 0, .int .i64], true, []⟩
abbrev K30.T : Type := (api_Conf) → (Fm clock_Clock) → (Fm servo_Servo) → (Fm foreign_Table) → (Fm delay_Exchange) → (Fm peer_Exchange) → (Fm median_Filter) → (Fm seq_Match) → (Nat × (Nat → List (api_PortID × List (Int)))) → Option (((Option Nat) × Int × Unit) × (qT1_) × Unit)
def K30.W (f : K30.T) : K30.sig.F := fun a x => f a.1 x.1 x.2.1 x.2.2.1 x.2.2.2.1 x.2.2.2.2.1 x.2.2.2.2.2.1 x.2.2.2.2.2.2.1 x.2.2.2.2.2.2.2.1
def K30.H (cK45 : K45.T) (cK13 : K13.T) : Hints U := { Γ := (addΓ 49 (K13.sig.native (K13.W cK13)) (addΓ 48 (K45.sig.native (K45.W cK45)) noΓ)), ro := 0, base := 13 }
def K30.gen (cK45 : K45.T) (cK13 : K13.T) : K30.T := fun c g0 g5 g6 g7 g8 g9 g10 g12 =>
 (oelim (cK45 c) none fun r0 => (bif ine r0.1.1 0 then some ((none, r0.1), ((g0, (g5, (g6, (g7, (g8, (g9, (g10, (g12, ())))))))), ())) else (oelim (cK13 c (fset g0.2 g0.1 (clock_Clock.mk z7_ (fun (j : Nat) => List.getD (clock_side.mk 0 none none z3_ z3_ z3_ z3_ z3_ 0 0 0 none none none z5_ z5_ z2_ false :: clock_side.mk 0 none none z3_ z3_ z3_ z3_ z3_ 0 0 0 none none none z5_ z5_ z2_ false :: clock_side.mk 0 none none z3_ z3_ z3_ z3_ z3_ 0 0 0 none none none z5_ z5_ z2_ false :: clock_side.mk 0 none none z3_ z3_ z3_ z3_ z3_ 0 0 0 none none none z5_ z5_ z2_ false :: clock_side.mk 0 none none z3_ z3_ z3_ z3_ z3_ 0 0 0 none none none z5_ z5_ z2_ false :: clock_side.mk 0 none none z3_ z3_ z3_ z3_ z3_ 0 0 0 none none none z5_ z5_ z2_ false :: clock_side.mk 0 none none z3_ z3_ z3_ z3_ z3_ 0 0 0 none none none z5_ z5_ z2_ false :: clock_side.mk 0 none none z3_ z3_ z3_ z3_ z3_ 0 0 0 none none none z5_ z5_ z2_ false :: lnil clock_side) j clock_side.zero) 0 (api_Parent.mk z0_ 0 z1_ 0 0 0 z4_) none none (0 : Int) z5_ 0 (lnil api_Out)) g0.1) g5 g6 g7 g8 g9 g10 g12) none fun r1 => some ((some g0.1, ((0 : Int), ())), (((g0.1 + 1, fset (fset g0.2 g0.1 (clock_Clock.mk z7_ (fun (j : Nat) => List.getD (clock_side.mk 0 none none z3_ z3_ z3_ z3_ z3_ 0 0 0 none none none z5_ z5_ z2_ false :: clock_side.mk 0 none none z3_ z3_ z3_ z3_ z3_ 0 0 0 none none none z5_ z5_ z2_ false :: clock_side.mk 0 none none z3_ z3_ z3_ z3_ z3_ 0 0 0 none none none z5_ z5_ z2_ false :: clock_side.mk 0 none none z3_ z3_ z3_ z3_ z3_ 0 0 0 none none none z5_ z5_ z2_ false :: clock_side.mk 0 none none z3_ z3_ z3_ z3_ z3_ 0 0 0 none none none z5_ z5_ z2_ false :: clock_side.mk 0 none none z3_ z3_ z3_ z3_ z3_ 0 0 0 none none none z5_ z5_ z2_ false :: clock_side.mk 0 none none z3_ z3_ z3_ z3_ z3_ 0 0 0 none none none z5_ z5_ z2_ false :: clock_side.mk 0 none none z3_ z3_ z3_ z3_ z3_ 0 0 0 none none none z5_ z5_ z2_ false :: lnil clock_side) j clock_side.zero) 0 (api_Parent.mk z0_ 0 z1_ 0 0 0 z4_) none none (0 : Int) z5_ 0 (lnil api_Out))) g0.1 r1.2.1.1), r1.2.1.2), ())))))
def K30 : K30.T := K30.gen K45 K13
theorem K30.eq (cK45 : K45.T) (cK13 : K13.T) : EqA K30.sig (K30.H cK45 cK13) Tryz.f24 6 (K30.W (K30.gen cK45 cK13)) := by intro a x; kernel_rfl
abbrev K30.h := K30.H K45 K13
theorem K30.hints : HintsOK U Tryz.prog K30.h (fun c => c ∈ ([] : List Code)) := (hq (Z0 (Z0 Z4 K45.ok) K13.ok) Z1 (fun _ => rfl) (fun _ => rfl))
theorem K30.ok : Z3 U Tryz.prog 24 (K30.sig.native (K30.W K30)) :=
 Sig.ok K30.sig (K30.W K30) U_pure (Hn := K30.h) (gos := 6) K30.hints Tryz.func24 rfl (by kernel_rfl) (fun b h => h) rfl rfl (by decide) (K30.eq K45 K13) (by decide)
def K79.sig : Sig U := ⟨[.int .u64, .int .i64], [fm0_, fm5_, fm6_, fm7_, fm8_, fm9_, fm10_, .fam 12 (.map true false .t_api_PortID .l_u64)], 0, [.ref 0], false, []⟩
abbrev K79.T : Type := (Int) → (Int) → (Fm clock_Clock) → (Fm servo_Servo) → (Fm foreign_Table) → (Fm delay_Exchange) → (Fm peer_Exchange) → (Fm median_Filter) → (Fm seq_Match) → (Nat × (Nat → List (api_PortID × List (Int)))) → Option (((Option Nat) × Unit) × (qT1_) × Unit)
def K79.W (f : K79.T) : K79.sig.F := fun a x => f a.1 a.2.1 x.1 x.2.1 x.2.2.1 x.2.2.2.1 x.2.2.2.2.1 x.2.2.2.2.2.1 x.2.2.2.2.2.2.1 x.2.2.2.2.2.2.2.1
def K79.H (cK46 : K46.T) (cK30 : K30.T) : Hints U := { Γ := (addΓ 24 (K30.sig.native (K30.W cK30)) (addΓ 23 (K46.sig.native (K46.W cK46)) noΓ)), ro := 0, base := 13 }
def K79.gen (cK46 : K46.T) (cK30 : K30.T) : K79.T := fun id ports g0 g5 g6 g7 g8 g9 g10 g12 =>
 (oelim (cK46 id) none fun r0 => (oelim (cK30 (api_Conf.set_fLogDelay (api_Conf.set_fLogSync (api_Conf.set_fLogAnn (api_Conf.set_fPorts r0.1.1 ports) (-3)) (-3)) (-3)) g0 g5 g6 g7 g8 g9 g10 g12) none fun r1 => (bif ine r1.1.2.1 0 then some ((none, ()), r1.2) else some ((r1.1.1, ()), r1.2))))
def K79 : K79.T := K79.gen K46 K30
theorem K79.eq (cK46 : K46.T) (cK30 : K30.T) : EqA K79.sig (K79.H cK46 cK30) Tryz.f15 6 (K79.W (K79.gen cK46 cK30)) := by intro a x; kernel_rfl
abbrev K79.h := K79.H K46 K30
theorem K79.hints : HintsOK U Tryz.prog K79.h (fun c => c ∈ ([] : List Code)) := (hq (Z0 (Z0 Z4 K46.ok) K30.ok) Z1 (fun _ => rfl) (fun _ => rfl))
theorem K79.ok : Z3 U Tryz.prog 15 (K79.sig.native (K79.W K79)) :=
 Sig.ok K79.sig (K79.W K79) U_pure (Hn := K79.h) (gos := 6) K79.hints Tryz.func15 rfl (by kernel_rfl) (fun b h => h) rfl rfl (by decide) (K79.eq K46 K30) (by decide)
def K108.sig : Sig U := ⟨[.int .i64], [], 0, [.bool], false, []⟩
abbrev K108.T : Type := (Int) → Option ((Bool × Unit) × Unit × Unit)
def K108.W (f : K108.T) : K108.sig.F := fun a x => f a.1
def K108.H : Hints U := { Γ := noΓ, ro := 0, base := 13 }
def K108.gen : K108.T := fun state =>
 (bif ieq state 8 then some ((true, ()), ((), ())) else some ((ieq state 9, ()), ((), ())))
def K108 : K108.T := K108.gen
theorem K108.eq : EqA K108.sig (K108.H) Tryz.f76 6 (K108.W (K108.gen)) := by intro a x; kernel_rfl
theorem K108.hints : HintsOK U Tryz.prog (K108.H) (fun c => c ∈ ([] : List Code)) := (hq Z4 Z1 (fun _ => rfl) (fun _ => rfl))
theorem K108.ok : Z3 U Tryz.prog 76 (K108.sig.native (K108.W K108)) :=
 Sig.ok K108.sig (K108.W (K108.gen)) U_pure (Hn := (K108.H)) (gos := 6) K108.hints Tryz.func76 rfl (by kernel_rfl) (fun b h => h) rfl rfl (by decide) (K108.eq) (by decide)
def K109.sig : Sig U := ⟨[.int .i64], [], 0, [.bool], false, []⟩
abbrev K109.T : Type := (Int) → Option ((Bool × Unit) × Unit × Unit)
def K109.W (f : K109.T) : K109.sig.F := fun a x => f a.1
def K109.H (cK108 : K108.T) : Hints U := { Γ := (addΓ 76 (K108.sig.native (K108.W cK108)) noΓ), ro := 0, base := 13 }
def K109.gen (cK108 : K108.T) : K109.T := fun state =>
 (bif ieq state 4 then some ((true, ()), ((), ())) else (bif ieq state 7 then some ((true, ()), ((), ())) else (oelim (cK108 state) none fun r0 => some (r0.1, ((), ())))))
def K109 : K109.T := K109.gen K108
theorem K109.eq (cK108 : K108.T) : EqA K109.sig (K109.H cK108) Tryz.f129 6 (K109.W (K109.gen cK108)) := by intro a x; kernel_rfl
abbrev K109.h := K109.H K108
theorem K109.hints : HintsOK U Tryz.prog K109.h (fun c => c ∈ ([] : List Code)) := (hq (Z0 Z4 K108.ok) Z1 (fun _ => rfl) (fun _ => rfl))
theorem K109.ok : Z3 U Tryz.prog 129 (K109.sig.native (K109.W K109)) :=
 Sig.ok K109.sig (K109.W K109) U_pure (Hn := K109.h) (gos := 6) K109.hints Tryz.func129 rfl (by kernel_rfl) (fun b h => h) rfl rfl (by decide) (K109.eq K108) (by decide)
def K110.sig : Sig U := ⟨[.int .i64, .int .i64, .bool], [], 0, [.int .i64], false, []⟩
abbrev K110.T : Type := (Int) → (Int) → (Bool) → Option ((Int × Unit) × Unit × Unit)
def K110.W (f : K110.T) : K110.sig.F := fun a x => f a.1 a.2.1 a.2.2.1
def K110.JC6 : Exits U := [(.normal, ⟨60, 13, [(0, vi_), (1, vi_), (2, vb_), (21, vb_)], []⟩)]
def K110.JC2 : Exits U := [(.normal, ⟨60, 13, [(0, vi_)], []⟩),
 (.ret, ⟨60, 13, [(6, vi_)], []⟩)]
def K110.H (cK109 : K109.T) : Hints U := { Γ := (addΓ 129 (K109.sig.native (K109.W cK109)) noΓ), ro := 0, base := 13, joinQ := fun b => (bif Nat.beq b 1 then some [(7, vb_)] else (bif Nat.beq b 3 then some [(14, vb_)] else (bif Nat.beq b 5 then some [(21, vb_)] else (bif Nat.beq b 6 then some [(21, vb_)] else (bif Nat.beq b 8 then some [(34, vb_)] else (bif Nat.beq b 12 then some [(42, vb_)] else (bif Nat.beq b 14 then some [(49, vb_)] else none))))))), joinC := fun b => (bif Nat.beq b 2 then some K110.JC2 else (bif Nat.beq b 6 then some K110.JC6 else none)) }
def K110.gen (cK109 : K109.T) : K110.T := fun state event slaveOnly =>
 (oelim ((bif ieq event 1 then some (ieq state 1, ()) else some (false, ()))) none fun r0 => (oelim ((bif r0.1 then some (.inr (((4 : Int), ()), ())) else (oelim ((bif ieq event 2 then some (ine state 3, ()) else some (false, ()))) none fun r1 => (bif r1.1 then some (.inr (((2 : Int), ()), ())) else (oelim ((bif ieq event 3 then some (ieq state 2, ()) else some (false, ()))) none fun r2 => (oelim ((bif r2.1 then some ((state, (event, (slaveOnly, r2))), ()) else (oelim ((bif ieq event 8 then some (ieq state 3, ()) else some (false, ()))) none fun r3 => some ((state, (event, (slaveOnly, r3))), ())))) none fun r4 => (bif r4.1.2.2.2.1 then some (.inr (((1 : Int), ()), ())) else (oelim ((bif ieq r4.1.2.1 4 then (oelim (cK109 r4.1.1) none fun r5 => some r5.1) else some (false, ()))) none fun r6 => (bif r6.1 then (bif r4.1.2.2.1 then some (.inr (((4 : Int), ()), ())) else some (.inr (((6 : Int), ()), ()))) else (oelim ((bif ieq r4.1.2.1 5 then some (ieq r4.1.1 5, ()) else some (false, ()))) none fun r7 => (bif r7.1 then some (.inr (((6 : Int), ()), ())) else (oelim ((bif ieq r4.1.2.1 6 then some (ieq r4.1.1 8, ()) else some (false, ()))) none fun r8 => (bif r8.1 then some (.inr (((9 : Int), ()), ())) else (bif ieq r4.1.2.1 7 then some (.inr (((3 : Int), ()), ())) else some (.inl ((r4.1.1, ()), ())))))))))))))))) none fun r9 => (selim r9 (fun r10 => some (r10.1, ((), ()))) (fun r10 => some (r10.1, ((), ()))))))
def K110 : K110.T := K110.gen K109
theorem K110.eq (cK109 : K109.T) : EqA K110.sig (K110.H cK109) Tryz.f95 6 (K110.W (K110.gen cK109)) := by intro a x; kernel_rfl
abbrev K110.h := K110.H K109
theorem K110.hints : HintsOK U Tryz.prog K110.h (fun c => c ∈ ([] : List Code)) := (hq (Z0 Z4 K109.ok) Z1 (fun _ => rfl) (fun _ => rfl))
theorem K110.ok : Z3 U Tryz.prog 95 (K110.sig.native (K110.W K110)) :=
 Sig.ok K110.sig (K110.W K110) U_pure (Hn := K110.h) (gos := 6) K110.hints Tryz.func95 rfl (by kernel_rfl) (fun b h => h) rfl rfl (by decide) (K110.eq K109) (by decide)
def K24.sig : Sig U := ⟨[.ptr], [.obj .t_clock_Clock], 1, [.int .i64], false, []⟩
abbrev K24.T : Type := (clock_Clock) → Option ((Int × Unit) × Unit × Unit)
def K24.W (f : K24.T) : K24.sig.F := fun a x => f x.1
def K24.H (cK10 : K10.T) : Hints U := { Γ := (addΓ 70 (K10.sig.native (K10.W cK10)) (addΓ 5000000021 Z1x noΓ)), ro := 14, base := 14 }
def K24.gen (cK10 : K10.T) : K24.T := fun h0 =>
 (oelim (cK10 h0) none fun r0 => some ((imul .i64 h0.fconf.fTimeout r0.1.1, ()), ((), ())))
def K24 : K24.T := K24.gen K10
theorem K24.eq (cK10 : K10.T) : EqA K24.sig (K24.H cK10) Tryz.f127 6 (K24.W (K24.gen cK10)) := by intro a x; kernel_rfl
abbrev K24.h := K24.H K10
theorem K24.hints : HintsOK U Tryz.prog K24.h (fun c => c ∈ ([] : List Code)) := (hq (Z0 (Z0 Z4 Zo) K10.ok) Z1 (fun _ => rfl) (fun _ => rfl))
theorem K24.ok : Z3 U Tryz.prog 127 (K24.sig.native (K24.W K24)) :=
 Sig.ok K24.sig (K24.W K24) U_pure (Hn := K24.h) (gos := 6) K24.hints Tryz.func127 rfl (by kernel_rfl) (fun b h => h) rfl rfl (by decide) (K24.eq K10) (by decide)
def K126.sig : Sig U := ⟨[.ptr, .int .i64], [.obj .t_timer_Timer], 0, [], true, []⟩
abbrev K126.T : Type := (Int) → (timer_Timer) → Option (Unit × (timer_Timer × Unit) × Unit)
def K126.W (f : K126.T) : K126.sig.F := fun a x => f a.2.1 x.1
def K126.H : Hints U := { Γ := noΓ, ro := 0, base := 14 }
def K126.gen : K126.T := fun n h0 =>
 some ((), ((timer_Timer.mk (Z7 true 1 (Z7 false n 1073741824)), ()), ()))
def K126 : K126.T := K126.gen
theorem K126.eq : EqA K126.sig (K126.H) Tryz.f126 6 (K126.W (K126.gen)) := by intro a x; kernel_rfl
theorem K126.hints : HintsOK U Tryz.prog (K126.H) (fun c => c ∈ ([] : List Code)) := (hq Z4 Z1 (fun _ => rfl) (fun _ => rfl))
theorem K126.ok : Z3 U Tryz.prog 126 (K126.sig.native (K126.W K126)) :=
 Sig.ok K126.sig (K126.W (K126.gen)) U_pure (Hn := (K126.H)) (gos := 6) K126.hints Tryz.func126 rfl (by kernel_rfl) (fun b h => h) rfl rfl (by decide) (K126.eq) (by decide)
def K106.sig : Sig U := ⟨[.int .i64], [], 0, [.bool], false, []⟩
abbrev K106.T : Type := (Int) → Option ((Bool × Unit) × Unit × Unit)
def K106.W (f : K106.T) : K106.sig.F := fun a x => f a.1
def K106.H : Hints U := { Γ := noΓ, ro := 0, base := 13 }
def K106.gen : K106.T := fun state =>
 (bif ile 4 state then some ((ile state 9, ()), ((), ())) else some ((false, ()), ((), ())))
def K106 : K106.T := K106.gen
theorem K106.eq : EqA K106.sig (K106.H) Tryz.f74 6 (K106.W (K106.gen)) := by intro a x; kernel_rfl
theorem K106.hints : HintsOK U Tryz.prog (K106.H) (fun c => c ∈ ([] : List Code)) := (hq Z4 Z1 (fun _ => rfl) (fun _ => rfl))
theorem K106.ok : Z3 U Tryz.prog 74 (K106.sig.native (K106.W K106)) :=
 Sig.ok K106.sig (K106.W (K106.gen)) U_pure (Hn := (K106.H)) (gos := 6) K106.hints Tryz.func74 rfl (by kernel_rfl) (fun b h => h) rfl rfl (by decide) (K106.eq) (by decide)
def K60.sig : Sig U := ⟨[.ptr, .int .i64, .int .i64], [.obj .t_foreign_Table], 1, [.bool], false, []⟩
abbrev K60.T : Type := (Int) → (Int) → (foreign_Table) → Option ((Bool × Unit) × Unit × Unit)
def K60.W (f : K60.T) : K60.sig.F := fun a x => f a.2.1 a.2.2.1 x.1
def K60.H : Hints U := { Γ := noΓ, ro := 14, base := 14 }
def K60.gen : K60.T := fun at_1 now h0 =>
 (bif ile at_1 now then some ((ile h0.fwindow (isub .i64 now at_1), ()), ((), ())) else some ((false, ()), ((), ())))
def K60 : K60.T := K60.gen
theorem K60.eq : EqA K60.sig (K60.H) Tryz.f197 6 (K60.W (K60.gen)) := by intro a x; kernel_rfl
theorem K60.hints : HintsOK U Tryz.prog (K60.H) (fun c => c ∈ ([] : List Code)) := (hq Z4 Z1 (fun _ => rfl) (fun _ => rfl))
theorem K60.ok : Z3 U Tryz.prog 197 (K60.sig.native (K60.W K60)) :=
 Sig.ok K60.sig (K60.W (K60.gen)) U_pure (Hn := (K60.H)) (gos := 6) K60.hints Tryz.func197 rfl (by kernel_rfl) (fun b h => h) rfl rfl (by decide) (K60.eq) (by decide)
def K54.sig : Sig U := ⟨[.ptr, .int .i64], [.obj .t_foreign_Table], 0, [], true, []⟩
abbrev K54.T : Type := (Int) → (foreign_Table) → Option (Unit × (foreign_Table × Unit) × Unit)
def K54.W (f : K54.T) : K54.sig.F := fun a x => f a.2.1 x.1
def K54.L0 : Shape U := ⟨60, 14, [(0, .ptr 13 0 0), (1, vi_), (4, vi_)], [(13, .obj .t_foreign_Table)]⟩
def K54.X0 : Exits U := [(.exit 0, ⟨60, 14, [], [(13, .obj .t_foreign_Table)]⟩)]
abbrev K54.l0T : Type := ((Int × Int × Unit) × (foreign_Table × Unit)) → Option ((Unit × (foreign_Table × Unit)))
def K54.C : Code := match Tryz.f174.body with | some c => c | none => .skip
def K54.B0 : Code := match (Z5 K54.C).getD 0 .skip with | .loop b => b | .scope b => b | _ => .skip
def K54.JR5 : Exits U := [(.normal, ⟨60, 14, [(0, .ptr 13 0 0), (1, vi_), (4, vi_)], [(13, .obj .t_foreign_Table)]⟩)]
def K54.H (cK60 : K60.T) (l0 : K54.l0T) : Hints U := { Γ := (addΓ 197 (K60.sig.native (K60.W cK60)) noΓ), ro := 0, base := 14, joinR := fun b => (bif Nat.beq b 5 then some K54.JR5 else none), loop := fun b => (bif Nat.beq b 1 then some (Zc (0, 14) K54.L0 K54.X0 l0) else none) }
def K54.step0 (cK60 : K60.T) (a : (Int × Int × Unit) × (foreign_Table × Unit)) : Option (((Int × Int × Unit) × (foreign_Table × Unit)) ⊕ ((Unit × (foreign_Table × Unit)))) :=
 (bif ilt a.1.2.1 a.2.1.fn then (bif inR a.1.2.1 5 then (oelim (cK60 (a.2.1.fl (Int.toNat a.1.2.1)).fLast a.1.1 a.2.1) none fun r0 => (bif !r0.1.1 then some (.inl ((a.1.1, (iadd .i64 a.1.2.1 1, ())), a.2)) else (bif le3 a.1.2.1 a.2.1.fn 5 then (bif le3 (iadd .i64 a.1.2.1 1) a.2.1.fn 5 then (bif inR (isub .i64 a.2.1.fn 1) 5 then some (.inl (a.1, (foreign_Table.set_fn (foreign_Table.set_fl a.2.1 (fset (fun (i : Nat) => bif Nat.ble (Int.toNat a.1.2.1) i && Nat.blt i (Int.toNat a.1.2.1 + Nat.min (Int.toNat a.2.1.fn - Int.toNat (iadd .i64 a.1.2.1 1)) (Int.toNat a.2.1.fn - Int.toNat a.1.2.1)) then a.2.1.fl (Int.toNat (iadd .i64 a.1.2.1 1) + (i - Int.toNat a.1.2.1)) else a.2.1.fl i) (Int.toNat (isub .i64 a.2.1.fn 1)) (foreign_Record.mk z6_ z4_ 0 0 0))) (isub .i64 a.2.1.fn 1), ()))) else none) else none) else none))) else none) else some (.inr ((), a.2)))
def K54.F0 : K54.l0T := fun a => Za (1000000) (K54.step0 K60) a
def K54.gen (cK60 : K60.T) (l0 : K54.l0T) : K54.T := fun now h0 =>
 (oelim (l0 ((now, (0 : Int), ()), h0, ())) none fun r0 => some ((), (r0.2, ())))
def K54 : K54.T := K54.gen K60 K54.F0
theorem K54.seq0 (cK60 : K60.T) (l0 : K54.l0T) (a : K54.L0.T) : run Tryz.prog (K54.H cK60 l0) 6 (Option (K54.L0.T ⊕ ExT K54.X0)) none K54.B0 (K54.L0.enc a) (Zs (0, 14) K54.L0 K54.X0) = K54.step0 cK60 a := by kernel_rfl
theorem K54.inner0 : Z5 K54.B0 = ([] : List Code) := by kernel_rfl
abbrev K54.h := K54.H K60 K54.F0
theorem K54.lok0 : Ze U Tryz.prog K54.h.ro K54.h.base K54.B0 (Zc (0, 14) K54.L0 K54.X0 K54.F0) :=
 Zh (Hn := K54.h) U_ok U_pure (Zl (hq (Z0 Z4 K60.ok) Z1 (fun _ => rfl) (fun _ => rfl)) 6) (fun b h => by rw [K54.inner0] at h; exact h) (fun _ => rfl) (K54.seq0 K60 K54.F0)
theorem K54.eq (cK60 : K60.T) (l0 : K54.l0T) : EqA K54.sig (K54.H cK60 l0) Tryz.f174 6 (K54.W (K54.gen cK60 l0)) := by intro a x; kernel_rfl
theorem K54.loops : Z5 K54.C = [(.loop K54.B0)] := by kernel_rfl
theorem K54.hints : HintsOK U Tryz.prog K54.h (fun c => c ∈ [(.loop K54.B0)]) := (hq (Z0 Z4 K60.ok) (Zb (by kernel_rfl) K54.lok0 Z1) (fun _ => rfl) (fun _ => rfl))
theorem K54.ok : Z3 U Tryz.prog 174 (K54.sig.native (K54.W K54)) :=
 Sig.ok K54.sig (K54.W K54) U_pure (Hn := K54.h) (code := K54.C) (gos := 6) K54.hints Tryz.func174 (by kernel_rfl) (by kernel_rfl) (fun b h => by rw [K54.loops] at h; exact h) rfl rfl (by decide) (K54.eq K60 K54.F0) (by decide)
def K59.sig : Sig U := ⟨[.ptr], [.obj .t_foreign_Table], 1, [.isl .t_foreign_Record], false, []⟩
abbrev K59.T : Type := (foreign_Table) → Option (((List (foreign_Record)) × Unit) × Unit × Unit)
def K59.W (f : K59.T) : K59.sig.F := fun a x => f x.1
def K59.H : Hints U := { Γ := noΓ, ro := 14, base := 14 }
def K59.gen : K59.T := fun h0 =>
 (bif le3 (ofN 0) h0.fn 5 then (bif room (List.length (lnil foreign_Record) + List.length (List.map (fun (j : Nat) => h0.fl (Int.toNat (ofN 0) + j)) (List.range (Int.toNat h0.fn - Int.toNat (ofN 0))))) 136 then some ((lnil foreign_Record ++ List.map (fun (j : Nat) => h0.fl (Int.toNat (ofN 0) + j)) (List.range (Int.toNat h0.fn - Int.toNat (ofN 0))), ()), ((), ())) else none) else none)
def K59 : K59.T := K59.gen
theorem K59.eq : EqA K59.sig (K59.H) Tryz.f64 6 (K59.W (K59.gen)) := by intro a x; kernel_rfl
theorem K59.hints : HintsOK U Tryz.prog (K59.H) (fun c => c ∈ ([] : List Code)) := (hq Z4 Z1 (fun _ => rfl) (fun _ => rfl))
theorem K59.ok : Z3 U Tryz.prog 64 (K59.sig.native (K59.W K59)) :=
 Sig.ok K59.sig (K59.W (K59.gen)) U_pure (Hn := (K59.H)) (gos := 6) K59.hints Tryz.func64 rfl (by kernel_rfl) (fun b h => h) rfl rfl (by decide) (K59.eq) (by decide)
def K31.sig : Sig U := ⟨[.ptr, .int .i64], [.obj .t_clock_side, fm6_, .fam 12 (.map true false .t_api_PortID .l_u64)], 0, [], true, []⟩
abbrev K31.T : Type := (Int) → (clock_side) → (Fm foreign_Table) → (Nat × (Nat → List (api_PortID × List (Int)))) → Option (Unit × (clock_side × qT4_) × Unit)
def K31.W (f : K31.T) : K31.sig.F := fun a x => f a.2.1 x.1 x.2.1 x.2.2.1
def K31.L0 : Shape U := ⟨41, 14, [(0, .ptr 13 0 0), (4, .val (.mref 12)), (18, .val (.isl .t_foreign_Record)), (19, vi_), (20, vi_)], (13, .obj .t_clock_side) :: hT1_⟩
def K31.X0 : Exits U := [(.exit 0, ⟨41, 14, [(0, .ptr 13 0 0), (4, .val (.mref 12))], (13, .obj .t_clock_side) :: hT1_⟩)]
abbrev K31.l0T : Type := (((Option Nat) × (List (foreign_Record)) × Int × Int × Unit) × (clock_side × qT4_)) → Option ((((Option Nat) × Unit) × (clock_side × qT4_)))
def K31.C : Code := match Tryz.f128.body with | some c => c | none => .skip
def K31.B0 : Code := match (Z5 K31.C).getD 0 .skip with | .loop b => b | .scope b => b | _ => .skip
def K31.JR5 : Exits U := [(.normal, ⟨41, 14, [(0, .ptr 13 0 0), (4, .val (.mref 12)), (18, .val (.isl .t_foreign_Record)), (19, vi_), (20, vi_)], (13, .obj .t_clock_side) :: hT1_⟩)]
def K31.JR4 : Exits U := [(.normal, ⟨41, 15, [(0, .ptr 13 0 0), (4, .val (.mref 12)), (6, .ptr 14 0 0), (18, .val (.isl .t_foreign_Record)), (19, vi_), (20, vi_)], (13, .obj .t_clock_side) :: (14, .obj .t_foreign_Record) :: hT1_⟩)]
def K31.JR0 : Exits U := [(.normal, ⟨41, 14, [(0, .ptr 13 0 0)], (13, .obj .t_clock_side) :: hT1_⟩)]
def K31.H (cK54 : K54.T) (cK59 : K59.T) (l0 : K31.l0T) : Hints U := { Γ := (addΓ 64 (K59.sig.native (K59.W cK59)) (addΓ 174 (K54.sig.native (K54.W cK54)) noΓ)), ro := 0, base := 14, joinR := fun b => (bif Nat.beq b 0 then some K31.JR0 else (bif Nat.beq b 4 then some K31.JR4 else (bif Nat.beq b 5 then some K31.JR5 else none))), loop := fun b => (bif Nat.beq b 3 then some (Zc (0, 14) K31.L0 K31.X0 l0) else none) }
def K31.step0 (cK54 : K54.T) (cK59 : K59.T) (a : ((Option Nat) × (List (foreign_Record)) × Int × Int × Unit) × (clock_side × qT4_)) : Option ((((Option Nat) × (List (foreign_Record)) × Int × Int × Unit) × (clock_side × qT4_)) ⊕ ((((Option Nat) × Unit) × (clock_side × qT4_)))) :=
 (bif ilt a.1.2.2.2.1 a.1.2.2.1 then (oelim ((bif inR a.1.2.2.2.1 (List.length a.1.2.1) then some (a.1, (a.2.1, (List.getD a.1.2.1 (Int.toNat a.1.2.2.2.1) foreign_Record.zero, a.2.2))) else none)) none fun r0 => (oelim ((oelim ((oelim (r0.2.1.3) none fun r1 => ((@Z3f U Go.Proofs.Tryz.prog 31 UC.t_api_PortID UC.l_u64 (r0.2.2.1.fVector.fSender) (r0.2.2.2.2.1.2 r1)) : Option (Option (List Int))))) none fun (r2 : Option (List Int)) => (oelim ((oelim (r0.1.1) none fun r3 => (oelim ((@Z3v U Go.Proofs.Tryz.prog 31 UC.t_api_PortID UC.l_u64 (r0.2.2.1.fVector.fSender) (Option.getD r2 (lnil Int)) (r0.2.2.2.2.1.2 r3))) none fun (r4 : List (api_PortID × List Int)) => some (r3, r4)))) none fun (r5 : Nat × List (api_PortID × List Int)) => some (r0.1, (r0.2.1, (r0.2.2.2.1, ((r0.2.2.2.2.1.1, fset r0.2.2.2.2.1.2 r5.1 r5.2), ()))))))) none fun r6 => some (.inl ((r6.1.1, (r6.1.2.1, (r6.1.2.2.1, (iadd .i64 r6.1.2.2.2.1 1, ())))), r6.2)))) else some (.inr ((a.1.1, ()), a.2)))
def K31.F0 : K31.l0T := fun a => Za (1000000 + (a.1.2.1.length)) (K31.step0 K54 K59) a
def K31.gen (cK54 : K54.T) (cK59 : K59.T) (l0 : K31.l0T) : K31.T := fun now h0 g6 g12 =>
 (oelim ((oelim (h0.2) none fun r0 => (oelim (cK54 now (g6.2 r0)) none fun r1 => some ((), (h0, ((g6.1, fset g6.2 r0 r1.2.1.1), (g12, ()))))))) none fun r2 => (oelim (r2.2.1.2) none fun r3 => (oelim (cK59 (r2.2.2.1.2 r3)) none fun r4 => (oelim (l0 ((some r2.2.2.2.1.1, r4.1.1, ofN (List.length r4.1.1), (0 : Int), ()), r2.2.1, r2.2.2.1, (r2.2.2.2.1.1 + 1, fset r2.2.2.2.1.2 r2.2.2.2.1.1 (lnil (D UC.t_api_PortID × D UC.l_u64))), ())) none fun r5 => some ((), ((clock_side.set_fpaths r5.2.1 r5.1.1, r5.2.2), ()))))))
def K31 : K31.T := K31.gen K54 K59 K31.F0
theorem K31.seq0 (cK54 : K54.T) (cK59 : K59.T) (l0 : K31.l0T) (a : K31.L0.T) : run Tryz.prog (K31.H cK54 cK59 l0) 6 (Option (K31.L0.T ⊕ ExT K31.X0)) none K31.B0 (K31.L0.enc a) (Zs (0, 14) K31.L0 K31.X0) = K31.step0 cK54 cK59 a := by kernel_rfl
theorem K31.inner0 : Z5 K31.B0 = ([] : List Code) := by kernel_rfl
abbrev K31.h := K31.H K54 K59 K31.F0
theorem K31.lok0 : Ze U Tryz.prog K31.h.ro K31.h.base K31.B0 (Zc (0, 14) K31.L0 K31.X0 K31.F0) :=
 Zh (Hn := K31.h) U_ok U_pure (Zl (hq (Z0 (Z0 Z4 K54.ok) K59.ok) Z1 (fun _ => rfl) (fun _ => rfl)) 6) (fun b h => by rw [K31.inner0] at h; exact h) (fun _ => rfl) (K31.seq0 K54 K59 K31.F0)
theorem K31.eq (cK54 : K54.T) (cK59 : K59.T) (l0 : K31.l0T) : EqA K31.sig (K31.H cK54 cK59 l0) Tryz.f128 6 (K31.W (K31.gen cK54 cK59 l0)) := by intro a x; kernel_rfl
theorem K31.loops : Z5 K31.C = [(.loop K31.B0)] := by kernel_rfl
theorem K31.hints : HintsOK U Tryz.prog K31.h (fun c => c ∈ [(.loop K31.B0)]) := (hq (Z0 (Z0 Z4 K54.ok) K59.ok) (Zb (by kernel_rfl) K31.lok0 Z1) (fun _ => rfl) (fun _ => rfl))
theorem K31.ok : Z3 U Tryz.prog 128 (K31.sig.native (K31.W K31)) :=
 Sig.ok K31.sig (K31.W K31) U_pure (Hn := K31.h) (code := K31.C) (gos := 6) K31.hints Tryz.func128 (by kernel_rfl) (by kernel_rfl) (fun b h => by rw [K31.loops] at h; exact h) rfl rfl (by decide) (K31.eq K54 K59 K31.F0) (by decide)
def K128.sig : Sig U := ⟨[.ptr], [.obj .t_timer_Timer], 0, [.bool], false, []⟩
abbrev K128.T : Type := (timer_Timer) → Option ((Bool × Unit) × (timer_Timer × Unit) × Unit)
def K128.W (f : K128.T) : K128.sig.F := fun a x => f x.1
def K128.C : Code := match Tryz.f130.body with | some c => c | none => .skip
def K128.B0 : Code := match (Z5 K128.C).getD 0 .skip with | .loop b => b | .scope b => b | _ => .skip
def K128.H : Hints U := { Γ := noΓ, ro := 0, base := 14, gotos := 3, loop := fun b => none }
def K128.gen : K128.T := fun h0 =>
 (bif ieq h0.fleft 0 then some ((false, ()), ((h0, ()), ())) else some ((ieq (isub .i64 h0.fleft 1) 0, ()), ((timer_Timer.mk (isub .i64 h0.fleft 1), ()), ())))
def K128 : K128.T := K128.gen
theorem K128.eq : EqA K128.sig (K128.H) Tryz.f130 6 (K128.W (K128.gen)) := by intro a x; kernel_rfl
theorem K128.loops : Z5 K128.C = [(.scope K128.B0)] := by kernel_rfl
theorem K128.hints : HintsOK U Tryz.prog (K128.H) (fun c => c ∈ [(.scope K128.B0)]) := (hq Z4 (ZH Z1) (fun _ => rfl) (fun _ => rfl))
theorem K128.ok : Z3 U Tryz.prog 130 (K128.sig.native (K128.W K128)) :=
 Sig.ok K128.sig (K128.W (K128.gen)) U_pure (Hn := (K128.H)) (code := K128.C) (gos := 6) K128.hints Tryz.func130 (by kernel_rfl) (by kernel_rfl) (fun b h => by rw [K128.loops] at h; exact h) rfl rfl (by decide) (K128.eq) (by decide)
def K56.sig : Sig U := ⟨[.ptr], [.obj .t_foreign_Table], 0, [], true, []⟩
abbrev K56.T : Type := (foreign_Table) → Option (Unit × (foreign_Table × Unit) × Unit)
def K56.W (f : K56.T) : K56.sig.F := fun a x => f x.1
def K56.H : Hints U := { Γ := noΓ, ro := 0, base := 14 }
def K56.gen : K56.T := fun h0 =>
 some ((), ((foreign_Table.set_fn (foreign_Table.set_fl h0 fun (j : Nat) => List.getD (foreign_Record.mk z6_ z4_ 0 0 0 :: foreign_Record.mk z6_ z4_ 0 0 0 :: foreign_Record.mk z6_ z4_ 0 0 0 :: foreign_Record.mk z6_ z4_ 0 0 0 :: foreign_Record.mk z6_ z4_ 0 0 0 :: lnil foreign_Record) j foreign_Record.zero) 0, ()), ()))
def K56 : K56.T := K56.gen
theorem K56.eq : EqA K56.sig (K56.H) Tryz.f163 6 (K56.W (K56.gen)) := by intro a x; kernel_rfl
theorem K56.hints : HintsOK U Tryz.prog (K56.H) (fun c => c ∈ ([] : List Code)) := (hq Z4 Z1 (fun _ => rfl) (fun _ => rfl))
theorem K56.ok : Z3 U Tryz.prog 163 (K56.sig.native (K56.W K56)) :=
 Sig.ok K56.sig (K56.W (K56.gen)) U_pure (Hn := (K56.H)) (gos := 6) K56.hints Tryz.func163 rfl (by kernel_rfl) (fun b h => h) rfl rfl (by decide) (K56.eq) (by decide)
def K32.sig : Sig U := ⟨[.ptr], [.obj .t_clock_side, fm6_, .fam 12 (.map true false .t_api_PortID .l_u64)], 0, [], true, []⟩
abbrev K32.T : Type := (clock_side) → (Fm foreign_Table) → (Nat × (Nat → List (api_PortID × List (Int)))) → Option (Unit × (clock_side × qT4_) × Unit)
def K32.W (f : K32.T) : K32.sig.F := fun a x => f x.1 x.2.1 x.2.2.1
def K32.JR0 : Exits U := [(.normal, ⟨11, 14, [(0, .ptr 13 0 0)], (13, .obj .t_clock_side) :: hT1_⟩)]
def K32.H (cK56 : K56.T) : Hints U := { Γ := (addΓ 163 (K56.sig.native (K56.W cK56)) noΓ), ro := 0, base := 14, joinR := fun b => (bif Nat.beq b 0 then some K32.JR0 else none) }
def K32.gen (cK56 : K56.T) : K32.T := fun h0 g6 g12 =>
 (oelim ((oelim (h0.2) none fun r0 => (oelim (cK56 (g6.2 r0)) none fun r1 => some ((), (h0, ((g6.1, fset g6.2 r0 r1.2.1.1), (g12, ()))))))) none fun r2 => some ((), ((clock_side.set_fpaths r2.2.1 (some r2.2.2.2.1.1), (r2.2.2.1, ((r2.2.2.2.1.1 + 1, fset r2.2.2.2.1.2 r2.2.2.2.1.1 (lnil (D UC.t_api_PortID × D UC.l_u64))), ()))), ())))
def K32 : K32.T := K32.gen K56
theorem K32.eq (cK56 : K56.T) : EqA K32.sig (K32.H cK56) Tryz.f96 6 (K32.W (K32.gen cK56)) := by intro a x; kernel_rfl
abbrev K32.h := K32.H K56
theorem K32.hints : HintsOK U Tryz.prog K32.h (fun c => c ∈ ([] : List Code)) := (hq (Z0 Z4 K56.ok) Z1 (fun _ => rfl) (fun _ => rfl))
theorem K32.ok : Z3 U Tryz.prog 96 (K32.sig.native (K32.W K32)) :=
 Sig.ok K32.sig (K32.W K32) U_pure (Hn := K32.h) (gos := 6) K32.hints Tryz.func96 rfl (by kernel_rfl) (fun b h => h) rfl rfl (by decide) (K32.eq K56) (by decide)
def K127.sig : Sig U := ⟨[.ptr], [.obj .t_timer_Timer], 0, [], true, []⟩
abbrev K127.T : Type := (timer_Timer) → Option (Unit × (timer_Timer × Unit) × Unit)
def K127.W (f : K127.T) : K127.sig.F := fun a x => f x.1
def K127.H : Hints U := { Γ := noΓ, ro := 0, base := 14 }
def K127.gen : K127.T := fun h0 =>
 some ((), ((timer_Timer.mk 0, ()), ()))
def K127 : K127.T := K127.gen
theorem K127.eq : EqA K127.sig (K127.H) Tryz.f166 6 (K127.W (K127.gen)) := by intro a x; kernel_rfl
theorem K127.hints : HintsOK U Tryz.prog (K127.H) (fun c => c ∈ ([] : List Code)) := (hq Z4 Z1 (fun _ => rfl) (fun _ => rfl))
theorem K127.ok : Z3 U Tryz.prog 166 (K127.sig.native (K127.W K127)) :=
 Sig.ok K127.sig (K127.W (K127.gen)) U_pure (Hn := (K127.H)) (gos := 6) K127.hints Tryz.func166 rfl (by kernel_rfl) (fun b h => h) rfl rfl (by decide) (K127.eq) (by decide)
def K16.sig : Sig U := ⟨[.ptr, .eptr 0 23 42 8], [.obj .t_clock_Clock], 0, [], true, []⟩
abbrev K16.T : Type := (Nat) → (clock_Clock) → Option (Unit × (clock_Clock × Unit) × Unit)
def K16.W (f : K16.T) : K16.sig.F := fun a x => f a.2.1 x.1
def K16.JR4 : Exits U := [(.normal, ⟨30, 14, [(1, .aptr 13 23 42 8 0)], [(13, .obj .t_clock_Clock)]⟩)]
def K16.JR1 : Exits U := [(.normal, ⟨30, 14, [(0, .ptr 13 0 0), (1, .aptr 13 23 42 8 0)], [(13, .obj .t_clock_Clock)]⟩)]
def K16.JR0 : Exits U := [(.normal, ⟨30, 14, [(0, .ptr 13 0 0), (1, .aptr 13 23 42 8 0)], [(13, .obj .t_clock_Clock)]⟩)]
def K16.JC3 : Exits U := [(.normal, ⟨30, 14, [(1, .aptr 13 23 42 8 0)], [(13, .obj .t_clock_Clock)]⟩)]
def K16.H (cK127 : K127.T) (cK126 : K126.T) : Hints U := { Γ := (addΓ 126 (K126.sig.native (K126.W cK126)) (addΓ 166 (K127.sig.native (K127.W cK127)) noΓ)), ro := 0, base := 14, joinR := fun b => (bif Nat.beq b 0 then some K16.JR0 else (bif Nat.beq b 1 then some K16.JR1 else (bif Nat.beq b 4 then some K16.JR4 else none))), joinC := fun b => (bif Nat.beq b 3 then some K16.JC3 else none) }
def K16.gen (cK127 : K127.T) (cK126 : K126.T) : K16.T := fun p h0 =>
 (oelim ((oelim (cK127 (h0.fports p).freceipt) none fun r0 => some ((p, ()), (clock_Clock.set_fports h0 (fset h0.fports p (clock_side.set_freceipt (h0.fports p) r0.2.1.1)), ())))) none fun r1 => (oelim ((oelim (cK127 (r1.2.1.fports r1.1.1).fqualify) none fun r2 => some (r1.1, (clock_Clock.set_fports r1.2.1 (fset r1.2.1.fports r1.1.1 (clock_side.set_fqualify (r1.2.1.fports r1.1.1) r2.2.1.1)), ())))) none fun r3 => (oelim ((bif !r3.2.1.fconf.fPeer then (oelim (cK127 (r3.2.1.fports r3.1.1).fask) none fun r4 => some (r3.1, (clock_Clock.set_fports r3.2.1 (fset r3.2.1.fports r3.1.1 (clock_side.set_fask (r3.2.1.fports r3.1.1) r4.2.1.1)), ()))) else some r3)) none fun r5 => (oelim ((oelim (cK126 1 (r5.2.1.fports r5.1.1).fannounce) none fun r6 => some (r5.1, (clock_Clock.set_fports r5.2.1 (fset r5.2.1.fports r5.1.1 (clock_side.set_fannounce (r5.2.1.fports r5.1.1) r6.2.1.1)), ())))) none fun r7 => (oelim (cK126 1 (r7.2.1.fports r7.1.1).fsync) none fun r8 => some ((), ((clock_Clock.set_fports r7.2.1 (fset r7.2.1.fports r7.1.1 (clock_side.set_fsync (r7.2.1.fports r7.1.1) r8.2.1.1)), ()), ())))))))
def K16 : K16.T := K16.gen K127 K126
theorem K16.eq (cK127 : K127.T) (cK126 : K126.T) : EqA K16.sig (K16.H cK127 cK126) Tryz.f131 6 (K16.W (K16.gen cK127 cK126)) := by intro a x; kernel_rfl
abbrev K16.h := K16.H K127 K126
theorem K16.hints : HintsOK U Tryz.prog K16.h (fun c => c ∈ ([] : List Code)) := (hq (Z0 (Z0 Z4 K127.ok) K126.ok) Z1 (fun _ => rfl) (fun _ => rfl))
theorem K16.ok : Z3 U Tryz.prog 131 (K16.sig.native (K16.W K16)) :=
 Sig.ok K16.sig (K16.W K16) U_pure (Hn := K16.h) (gos := 6) K16.hints Tryz.func131 rfl (by kernel_rfl) (fun b h => h) rfl rfl (by decide) (K16.eq K127 K126) (by decide)
def K14.sig : Sig U := ⟨[.ptr, .eptr 0 23 42 8], [.obj .t_clock_Clock, fm6_, .fam 12 (.map true false .t_api_PortID .l_u64)], 0, [], true, []⟩
abbrev K14.T : Type := (Nat) → (clock_Clock) → (Fm foreign_Table) → (Nat × (Nat → List (api_PortID × List (Int)))) → Option (Unit × (clock_Clock × qT4_) × Unit)
def K14.W (f : K14.T) : K14.sig.F := fun a x => f a.2.1 x.1 x.2.1 x.2.2.1
def K14.C : Code := match Tryz.f69.body with | some c => c | none => .skip
def K14.B0 : Code := match (Z5 K14.C).getD 0 .skip with | .loop b => b | .scope b => b | _ => .skip
def K14.JR16 : Exits U := [(.normal, ⟨128, 14, [(0, .ptr 13 0 0), (1, .aptr 13 23 42 8 0)], (13, .obj .t_clock_Clock) :: hT1_⟩)]
def K14.JR15 : Exits U := [(.normal, ⟨128, 14, [(0, .ptr 13 0 0), (1, .aptr 13 23 42 8 0), (111, vb_)], (13, .obj .t_clock_Clock) :: hT1_⟩)]
def K14.JR11 : Exits U := [(.normal, ⟨128, 14, [(0, .ptr 13 0 0), (1, .aptr 13 23 42 8 0)], (13, .obj .t_clock_Clock) :: hT1_⟩)]
def K14.JR10 : Exits U := [(.normal, ⟨128, 14, [(0, .ptr 13 0 0), (1, .aptr 13 23 42 8 0)], (13, .obj .t_clock_Clock) :: hT1_⟩)]
def K14.JR7 : Exits U := [(.normal, ⟨128, 14, [(0, .ptr 13 0 0), (1, .aptr 13 23 42 8 0), (58, vb_)], (13, .obj .t_clock_Clock) :: hT1_⟩)]
def K14.JR2 : Exits U := [(.normal, ⟨128, 14, [(0, .ptr 13 0 0), (1, .aptr 13 23 42 8 0)], (13, .obj .t_clock_Clock) :: hT1_⟩)]
def K14.JR1 : Exits U := [(.normal, ⟨128, 14, [(0, .ptr 13 0 0), (1, .aptr 13 23 42 8 0)], (13, .obj .t_clock_Clock) :: hT1_⟩)]
def K14.JC9 : Exits U := [(.normal, ⟨128, 14, [(0, .ptr 13 0 0), (1, .aptr 13 23 42 8 0)], (13, .obj .t_clock_Clock) :: hT1_⟩)]
def K14.JC8 : Exits U := [(.normal, ⟨128, 14, [(0, .ptr 13 0 0), (1, .aptr 13 23 42 8 0)], (13, .obj .t_clock_Clock) :: hT1_⟩)]
def K14.JC6 : Exits U := [(.normal, ⟨128, 14, [(0, .ptr 13 0 0), (1, .aptr 13 23 42 8 0)], (13, .obj .t_clock_Clock) :: hT1_⟩)]
def K14.JC4 : Exits U := [(.normal, ⟨128, 14, [], (13, .obj .t_clock_Clock) :: hT1_⟩)]
def K14.H (cK110 : K110.T) (cK24 : K24.T) (cK126 : K126.T) (cK106 : K106.T) (cK31 : K31.T) (cK109 : K109.T) (cK128 : K128.T) (cK108 : K108.T) (cK141 : K141.T) (cK32 : K32.T) (cK16 : K16.T) : Hints U := { Γ := (addΓ 131 (K16.sig.native (K16.W cK16)) (addΓ 96 (K32.sig.native (K32.W cK32)) (addΓ 88 (K141.sig.native (K141.W cK141)) (addΓ 76 (K108.sig.native (K108.W cK108)) (addΓ 130 (K128.sig.native (K128.W cK128)) (addΓ 129 (K109.sig.native (K109.W cK109)) (addΓ 128 (K31.sig.native (K31.W cK31)) (addΓ 74 (K106.sig.native (K106.W cK106)) (addΓ 126 (K126.sig.native (K126.W cK126)) (addΓ 127 (K24.sig.native (K24.W cK24)) (addΓ 95 (K110.sig.native (K110.W cK110)) noΓ))))))))))), ro := 0, base := 14, joinR := fun b => (bif Nat.beq b 1 then some K14.JR1 else (bif Nat.beq b 2 then some K14.JR2 else (bif Nat.beq b 7 then some K14.JR7 else (bif Nat.beq b 10 then some K14.JR10 else (bif Nat.beq b 11 then some K14.JR11 else (bif Nat.beq b 15 then some K14.JR15 else (bif Nat.beq b 16 then some K14.JR16 else none))))))), joinC := fun b => (bif Nat.beq b 4 then some K14.JC4 else (bif Nat.beq b 6 then some K14.JC6 else (bif Nat.beq b 8 then some K14.JC8 else (bif Nat.beq b 9 then some K14.JC9 else none)))), gotos := 3, loop := fun b => none }
def K14.gen (cK110 : K110.T) (cK24 : K24.T) (cK126 : K126.T) (cK106 : K106.T) (cK31 : K31.T) (cK109 : K109.T) (cK128 : K128.T) (cK108 : K108.T) (cK141 : K141.T) (cK32 : K32.T) (cK16 : K16.T) : K14.T := fun p h0 g6 g12 =>
 (bif ieq (h0.fports p).fstate 1 then (oelim ((oelim (cK110 (h0.fports p).fstate 1 h0.fconf.fSlaveOnly) none fun r0 => some ((p, ()), (clock_Clock.set_fports h0 (fset h0.fports p (clock_side.set_fstate (h0.fports p) r0.1.1)), (g6, (g12, ())))))) none fun r1 => (oelim ((oelim (cK24 r1.2.1) none fun r2 => (oelim (cK126 r2.1.1 (r1.2.1.fports r1.1.1).freceipt) none fun r3 => some (r1.1, (clock_Clock.set_fports r1.2.1 (fset r1.2.1.fports r1.1.1 (clock_side.set_freceipt (r1.2.1.fports r1.1.1) r3.2.1.1)), r1.2.2))))) none fun r4 => (oelim ((bif r4.2.1.fconf.fPeer then (oelim (cK126 1 (r4.2.1.fports r4.1.1).fask) none fun r5 => some ((), (clock_Clock.set_fports r4.2.1 (fset r4.2.1.fports r4.1.1 (clock_side.set_fask (r4.2.1.fports r4.1.1) r5.2.1.1)), r4.2.2))) else some ((), r4.2))) none fun r6 => some ((), (r6.2, ()))))) else (oelim (cK106 (h0.fports p).fstate) none fun r7 => (oelim ((bif r7.1.1 then (oelim (cK31 h0.fticks (h0.fports p) g6 g12) none fun r8 => some ((p, ()), (clock_Clock.set_fports h0 (fset h0.fports p r8.2.1.1), r8.2.1.2))) else some ((p, ()), (h0, (g6, (g12, ())))))) none fun r9 => (oelim ((oelim (cK109 (r9.2.1.fports r9.1.1).fstate) none fun r10 => (bif r10.1.1 then (oelim (cK128 (r9.2.1.fports r9.1.1).freceipt) none fun r11 => some ((r9.1.1, r11.1), (clock_Clock.set_fports r9.2.1 (fset r9.2.1.fports r9.1.1 (clock_side.set_freceipt (r9.2.1.fports r9.1.1) r11.2.1.1)), r9.2.2))) else some ((r9.1.1, (false, ())), r9.2)))) none fun r12 => (oelim ((bif r12.1.2.1 then (oelim (cK108 (r12.2.1.fports r12.1.1).fstate) none fun r13 => (oelim ((bif r13.1.1 then (oelim (cK141 r12.2.1.fconf) none fun r14 => some ((r12.1.1, ()), (clock_Clock.set_fparent r12.2.1 r14.1.1, r12.2.2))) else some ((r12.1.1, ()), r12.2))) none fun r15 => (oelim ((oelim (cK32 (r15.2.1.fports r15.1.1) r15.2.2.1 r15.2.2.2.1) none fun r16 => some (r15.1, (clock_Clock.set_fports r15.2.1 (fset r15.2.1.fports r15.1.1 r16.2.1.1), r16.2.1.2)))) none fun r17 => (oelim ((oelim (cK110 (r17.2.1.fports r17.1.1).fstate 4 r17.2.1.fconf.fSlaveOnly) none fun r18 => some (r17.1, (clock_Clock.set_fports r17.2.1 (fset r17.2.1.fports r17.1.1 (clock_side.set_fstate (r17.2.1.fports r17.1.1) r18.1.1)), r17.2.2)))) none fun r19 => (bif ieq (r19.2.1.fports r19.1.1).fstate 6 then (oelim (cK16 r19.1.1 r19.2.1) none fun r20 => some (r19.1, (r20.2.1.1, r19.2.2))) else (oelim (cK24 r19.2.1) none fun r21 => (oelim (cK126 r21.1.1 (r19.2.1.fports r19.1.1).freceipt) none fun r22 => some (r19.1, (clock_Clock.set_fports r19.2.1 (fset r19.2.1.fports r19.1.1 (clock_side.set_freceipt (r19.2.1.fports r19.1.1) r22.2.1.1)), r19.2.2))))))))) else some ((r12.1.1, ()), r12.2))) none fun r23 => (oelim ((bif ieq (r23.2.1.fports r23.1.1).fstate 5 then (oelim (cK128 (r23.2.1.fports r23.1.1).fqualify) none fun r24 => some ((r23.1.1, r24.1), (clock_Clock.set_fports r23.2.1 (fset r23.2.1.fports r23.1.1 (clock_side.set_fqualify (r23.2.1.fports r23.1.1) r24.2.1.1)), r23.2.2))) else some ((r23.1.1, (false, ())), r23.2))) none fun r25 => (bif r25.1.2.1 then (oelim ((oelim (cK110 (r25.2.1.fports r25.1.1).fstate 5 r25.2.1.fconf.fSlaveOnly) none fun r26 => some ((r25.1.1, ()), (clock_Clock.set_fports r25.2.1 (fset r25.2.1.fports r25.1.1 (clock_side.set_fstate (r25.2.1.fports r25.1.1) r26.1.1)), r25.2.2)))) none fun r27 => (oelim (cK16 r27.1.1 r27.2.1) none fun r28 => some ((), ((r28.2.1.1, r27.2.2), ())))) else some ((), (r25.2, ())))))))))
def K14 : K14.T := K14.gen K110 K24 K126 K106 K31 K109 K128 K108 K141 K32 K16
theorem K14.eq (cK110 : K110.T) (cK24 : K24.T) (cK126 : K126.T) (cK106 : K106.T) (cK31 : K31.T) (cK109 : K109.T) (cK128 : K128.T) (cK108 : K108.T) (cK141 : K141.T) (cK32 : K32.T) (cK16 : K16.T) : EqA K14.sig (K14.H cK110 cK24 cK126 cK106 cK31 cK109 cK128 cK108 cK141 cK32 cK16) Tryz.f69 6 (K14.W (K14.gen cK110 cK24 cK126 cK106 cK31 cK109 cK128 cK108 cK141 cK32 cK16)) := by intro a x; kernel_rfl
theorem K14.loops : Z5 K14.C = [(.scope K14.B0)] := by kernel_rfl
abbrev K14.h := K14.H K110 K24 K126 K106 K31 K109 K128 K108 K141 K32 K16
theorem K14.hints : HintsOK U Tryz.prog K14.h (fun c => c ∈ [(.scope K14.B0)]) := (hq (Z0 (Z0 (Z0 (Z0 (Z0 (Z0 (Z0 (Z0 (Z0 (Z0 (Z0 Z4 K110.ok) K24.ok) K126.ok) K106.ok) K31.ok) K109.ok) K128.ok) K108.ok) K141.ok) K32.ok) K16.ok) (ZH Z1) (fun _ => rfl) (fun _ => rfl))
theorem K14.ok : Z3 U Tryz.prog 69 (K14.sig.native (K14.W K14)) :=
 Sig.ok K14.sig (K14.W K14) U_pure (Hn := K14.h) (code := K14.C) (gos := 6) K14.hints Tryz.func69 (by kernel_rfl) (by kernel_rfl) (fun b h => by rw [K14.loops] at h; exact h) rfl rfl (by decide) (K14.eq K110 K24 K126 K106 K31 K109 K128 K108 K141 K32 K16) (by decide)
def K58.sig : Sig U := ⟨[.ptr, .int .i64], [.obj .t_foreign_Table], 1, [.isl .t_foreign_Record], false, []⟩
abbrev K58.T : Type := (Int) → (foreign_Table) → Option (((List (foreign_Record)) × Unit) × Unit × Unit)
def K58.W (f : K58.T) : K58.sig.F := fun a x => f a.2.1 x.1
def K58.L0 : Shape U := ⟨38, 15, [(0, .ptr 13 0 0), (1, vi_), (5, .own .t_foreign_Record 14), (15, .asl 13 3 17 5), (16, vi_), (17, vi_)], [(13, .obj .t_foreign_Table), (14, .tok)]⟩
def K58.X0 : Exits U := [(.exit 0, ⟨38, 15, [(5, .own .t_foreign_Record 14)], [(13, .obj .t_foreign_Table), (14, .tok)]⟩)]
abbrev K58.l0T : Type := ((Int × (List (foreign_Record)) × (Nat × Nat) × Int × Int × Unit) × (foreign_Table × Unit)) → Option ((((List (foreign_Record)) × Unit) × (foreign_Table × Unit)))
def K58.C : Code := match Tryz.f176.body with | some c => c | none => .skip
def K58.B0 : Code := match (Z5 K58.C).getD 0 .skip with | .loop b => b | .scope b => b | _ => .skip
def K58.JR4 : Exits U := [(.normal, ⟨38, 16, [(0, .ptr 13 0 0), (1, vi_), (5, .own .t_foreign_Record 14), (7, .ptr 15 0 0), (15, .asl 13 3 17 5), (16, vi_), (17, vi_)], [(13, .obj .t_foreign_Table), (14, .tok), (15, .obj .t_foreign_Record)]⟩)]
def K58.JC6 : Exits U := [(.normal, ⟨38, 15, [(0, .ptr 13 0 0), (1, vi_), (5, .own .t_foreign_Record 14), (15, .asl 13 3 17 5), (16, vi_), (17, vi_)], [(13, .obj .t_foreign_Table), (14, .tok)]⟩)]
def K58.H (cK60 : K60.T) (l0 : K58.l0T) : Hints U := { Γ := (addΓ 197 (K60.sig.native (K60.W cK60)) noΓ), ro := 14, base := 14, joinQ := fun b => (bif Nat.beq b 5 then some [(31, vb_)] else none), joinR := fun b => (bif Nat.beq b 4 then some K58.JR4 else none), joinC := fun b => (bif Nat.beq b 6 then some K58.JC6 else none), loop := fun b => (bif Nat.beq b 3 then some (Zc (14, 14) K58.L0 K58.X0 l0) else none) }
def K58.step0 (cK60 : K60.T) (a : (Int × (List (foreign_Record)) × (Nat × Nat) × Int × Int × Unit) × (foreign_Table × Unit)) : Option (((Int × (List (foreign_Record)) × (Nat × Nat) × Int × Int × Unit) × (foreign_Table × Unit)) ⊕ ((((List (foreign_Record)) × Unit) × (foreign_Table × Unit)))) :=
 (bif ilt a.1.2.2.2.2.1 a.1.2.2.2.1 then (oelim ((bif inR a.1.2.2.2.2.1 a.1.2.2.1.2 then some (a.1, (a.2.1, (a.2.1.fl (a.1.2.2.1.1 + Int.toNat a.1.2.2.2.2.1), ()))) else none)) none fun r0 => (oelim ((bif ine r0.2.2.1.fFirst (-1) then (oelim (cK60 r0.2.2.1.fFirst r0.1.1 r0.2.1) none fun r1 => some (!r1.1.1, ())) else some (false, ()))) none fun r2 => (oelim ((bif r2.1 then (bif room (List.length r0.1.2.1 + List.length (r0.2.2.1 :: lnil foreign_Record)) 136 then some ((r0.1.1, (r0.1.2.1 ++ r0.2.2.1 :: lnil foreign_Record, r0.1.2.2)), (r0.2.1, ())) else none) else some (r0.1, (r0.2.1, ())))) none fun r3 => some (.inl ((r3.1.1, (r3.1.2.1, (r3.1.2.2.1, (r3.1.2.2.2.1, (iadd .i64 r3.1.2.2.2.2.1 1, ()))))), r3.2))))) else some (.inr ((a.1.2.1, ()), a.2)))
def K58.F0 : K58.l0T := fun a => Za (1000000 + (a.1.2.1.length + a.1.2.2.1.2)) (K58.step0 K60) a
def K58.gen (cK60 : K60.T) (l0 : K58.l0T) : K58.T := fun now h0 =>
 (bif le3 (ofN 0) h0.fn 5 then (oelim (l0 ((now, lnil foreign_Record, (Int.toNat (ofN 0), Int.toNat h0.fn - Int.toNat (ofN 0)), ofN (Int.toNat h0.fn - Int.toNat (ofN 0)), (0 : Int), ()), h0, ())) none fun r0 => some (r0.1, ((), ()))) else none)
def K58 : K58.T := K58.gen K60 K58.F0
theorem K58.seq0 (cK60 : K60.T) (l0 : K58.l0T) (a : K58.L0.T) : run Tryz.prog (K58.H cK60 l0) 6 (Option (K58.L0.T ⊕ ExT K58.X0)) none K58.B0 (K58.L0.enc a) (Zs (14, 14) K58.L0 K58.X0) = K58.step0 cK60 a := by kernel_rfl
theorem K58.inner0 : Z5 K58.B0 = ([] : List Code) := by kernel_rfl
abbrev K58.h := K58.H K60 K58.F0
theorem K58.lok0 : Ze U Tryz.prog K58.h.ro K58.h.base K58.B0 (Zc (14, 14) K58.L0 K58.X0 K58.F0) :=
 Zh (Hn := K58.h) U_ok U_pure (Zl (hq (Z0 Z4 K60.ok) Z1 (fun _ => rfl) (fun _ => rfl)) 6) (fun b h => by rw [K58.inner0] at h; exact h) (fun _ => rfl) (K58.seq0 K60 K58.F0)
theorem K58.eq (cK60 : K60.T) (l0 : K58.l0T) : EqA K58.sig (K58.H cK60 l0) Tryz.f176 6 (K58.W (K58.gen cK60 l0)) := by intro a x; kernel_rfl
theorem K58.loops : Z5 K58.C = [(.loop K58.B0)] := by kernel_rfl
theorem K58.hints : HintsOK U Tryz.prog K58.h (fun c => c ∈ [(.loop K58.B0)]) := (hq (Z0 Z4 K60.ok) (Zb (by kernel_rfl) K58.lok0 Z1) (fun _ => rfl) (fun _ => rfl))
theorem K58.ok : Z3 U Tryz.prog 176 (K58.sig.native (K58.W K58)) :=
 Sig.ok K58.sig (K58.W K58) U_pure (Hn := K58.h) (code := K58.C) (gos := 6) K58.hints Tryz.func176 (by kernel_rfl) (by kernel_rfl) (fun b h => by rw [K58.loops] at h; exact h) rfl rfl (by decide) (K58.eq K60 K58.F0) (by decide)
def K38.sig : Sig U := ⟨[.int .i64], [], 0, [.bool], false, []⟩
abbrev K38.T : Type := (Int) → Option ((Bool × Unit) × Unit × Unit)
def K38.W (f : K38.T) : K38.sig.F := fun a x => f a.1
def K38.H : Hints U := { Γ := noΓ, ro := 0, base := 13 }
def K38.gen : K38.T := fun x_0 =>
 some ((ine x_0 x_0, ()), ((), ()))
def K38 : K38.T := K38.gen
theorem K38.eq : EqA K38.sig (K38.H) Tryz.f213 6 (K38.W (K38.gen)) := by intro a x; kernel_rfl
theorem K38.hints : HintsOK U Tryz.prog (K38.H) (fun c => c ∈ ([] : List Code)) := (hq Z4 Z1 (fun _ => rfl) (fun _ => rfl))
theorem K38.ok : Z3 U Tryz.prog 213 (K38.sig.native (K38.W K38)) :=
 Sig.ok K38.sig (K38.W (K38.gen)) U_pure (Hn := (K38.H)) (gos := 6) K38.hints Tryz.func213 rfl (by kernel_rfl) (fun b h => h) rfl rfl (by decide) (K38.eq) (by decide)
def K35.sig : Sig U := ⟨[.int .i64, .int .i64], [], 0, [.int .i64], false, []⟩
abbrev K35.T : Type := (Int) → (Int) → Option ((Int × Unit) × Unit × Unit)
def K35.W (f : K35.T) : K35.sig.F := fun a x => f a.1 a.2.1
def K35.H (cK38 : K38.T) : Hints U := { Γ := (addΓ 213 (K38.sig.native (K38.W cK38)) noΓ), ro := 0, base := 13 }
def K35.gen (cK38 : K38.T) : K35.T := fun x_0 y =>
 (oelim (cK38 x_0) none fun r0 => (oelim (cK38 y) none fun r1 => (bif r0.1.1 then (bif r1.1.1 then some (((0 : Int), ()), ((), ())) else some (((-1 : Int), ()), ((), ()))) else (bif r1.1.1 then some (((1 : Int), ()), ((), ())) else (bif ilt x_0 y then some (((-1 : Int), ()), ((), ())) else (bif ilt y x_0 then some (((1 : Int), ()), ((), ())) else some (((0 : Int), ()), ((), ()))))))))
def K35 : K35.T := K35.gen K38
theorem K35.eq (cK38 : K38.T) : EqA K35.sig (K35.H cK38) Tryz.f199 6 (K35.W (K35.gen cK38)) := by intro a x; kernel_rfl
abbrev K35.h := K35.H K38
theorem K35.hints : HintsOK U Tryz.prog K35.h (fun c => c ∈ ([] : List Code)) := (hq (Z0 Z4 K38.ok) Z1 (fun _ => rfl) (fun _ => rfl))
theorem K35.ok : Z3 U Tryz.prog 199 (K35.sig.native (K35.W K35)) :=
 Sig.ok K35.sig (K35.W K35) U_pure (Hn := K35.h) (gos := 6) K35.hints Tryz.func199 rfl (by kernel_rfl) (fun b h => h) rfl rfl (by decide) (K35.eq K38) (by decide)
def K37.sig : Sig U := ⟨[.isl .int], [], 0, [.int .i64], false, []⟩
abbrev K37.T : Type := (List (Int)) → Option ((Int × Unit) × Unit × Unit)
def K37.W (f : K37.T) : K37.sig.F := fun a x => f a.1
def K37.L0 : Shape U := ⟨18, 13, [(3, vi_), (6, .val (.isl .int)), (7, vi_), (8, vi_)], []⟩
def K37.X0 : Exits U := [(.exit 0, ⟨18, 13, [(3, vi_)], []⟩),
 (.ret, ⟨18, 13, [(2, vi_)], []⟩)]
abbrev K37.l0T : Type := ((Int × (List (Int)) × Int × Int × Unit) × Unit) → Option (((Int × Unit) × Unit) ⊕ ((Int × Unit) × Unit))
def K37.C : Code := match Tryz.f201.body with | some c => c | none => .skip
def K37.B0 : Code := match (Z5 K37.C).getD 0 .skip with | .loop b => b | .scope b => b | _ => .skip
def K37.H (l0 : K37.l0T) : Hints U := { Γ := noΓ, ro := 0, base := 13, loop := fun b => (bif Nat.beq b 3 then some (Zc (0, 13) K37.L0 K37.X0 l0) else none) }
def K37.step0 (a : (Int × (List (Int)) × Int × Int × Unit) × Unit) : Option (((Int × (List (Int)) × Int × Int × Unit) × Unit) ⊕ (((Int × Unit) × Unit) ⊕ ((Int × Unit) × Unit))) :=
 (bif ilt a.1.2.2.2.1 a.1.2.2.1 then (bif inR a.1.2.2.2.1 (List.length a.1.2.1) then (bif ine (List.getD a.1.2.1 (Int.toNat a.1.2.2.2.1) (0 : D UC.int)) a.1.1 then some (.inr (.inr ((List.getD a.1.2.1 (Int.toNat a.1.2.2.2.1) (0 : D UC.int), ()), ()))) else some (.inl ((a.1.1, (a.1.2.1, (a.1.2.2.1, (iadd .i64 a.1.2.2.2.1 1, ())))), ()))) else none) else some (.inr (.inl ((a.1.1, ()), ()))))
def K37.F0 : K37.l0T := fun a => Za (1000000 + (a.1.2.1.length)) (K37.step0) a
def K37.gen (l0 : K37.l0T) : K37.T := fun vals =>
 (oelim (l0 (((0 : Int), vals, ofN (List.length vals), (0 : Int), ()), ())) none fun r0 => (selim r0 (fun r1 => some (r1.1, ((), ()))) (fun r1 => some (r1.1, ((), ())))))
def K37 : K37.T := K37.gen K37.F0
theorem K37.seq0 (l0 : K37.l0T) (a : K37.L0.T) : run Tryz.prog (K37.H l0) 6 (Option (K37.L0.T ⊕ ExT K37.X0)) none K37.B0 (K37.L0.enc a) (Zs (0, 13) K37.L0 K37.X0) = K37.step0 a := by kernel_rfl
theorem K37.inner0 : Z5 K37.B0 = ([] : List Code) := by kernel_rfl
abbrev K37.h := K37.H K37.F0
theorem K37.lok0 : Ze U Tryz.prog K37.h.ro K37.h.base K37.B0 (Zc (0, 13) K37.L0 K37.X0 K37.F0) :=
 Zh (Hn := K37.h) U_ok U_pure (Zl (hq Z4 Z1 (fun _ => rfl) (fun _ => rfl)) 6) (fun b h => by rw [K37.inner0] at h; exact h) (fun _ => rfl) (K37.seq0 K37.F0)
theorem K37.eq (l0 : K37.l0T) : EqA K37.sig (K37.H l0) Tryz.f201 6 (K37.W (K37.gen l0)) := by intro a x; kernel_rfl
theorem K37.loops : Z5 K37.C = [(.loop K37.B0)] := by kernel_rfl
theorem K37.hints : HintsOK U Tryz.prog K37.h (fun c => c ∈ [(.loop K37.B0)]) := (hq Z4 (Zb (by kernel_rfl) K37.lok0 Z1) (fun _ => rfl) (fun _ => rfl))
theorem K37.ok : Z3 U Tryz.prog 201 (K37.sig.native (K37.W K37)) :=
 Sig.ok K37.sig (K37.W K37) U_pure (Hn := K37.h) (code := K37.C) (gos := 6) K37.hints Tryz.func201 (by kernel_rfl) (by kernel_rfl) (fun b h => by rw [K37.loops] at h; exact h) rfl rfl (by decide) (K37.eq K37.F0) (by decide)
def K111.sig : Sig U := ⟨[.data .t_api_Quality, .data .t_api_Quality], [], 0, [.int .i64], false, []⟩
abbrev K111.T : Type := (api_Quality) → (api_Quality) → Option ((Int × Unit) × Unit × Unit)
def K111.W (f : K111.T) : K111.sig.F := fun a x => f a.1 a.2.1
def K111.H (cK35 : K35.T) (cK37 : K37.T) : Hints U := { Γ := (addΓ 201 (K37.sig.native (K37.W cK37)) (addΓ 199 (K35.sig.native (K35.W cK35)) noΓ)), ro := 0, base := 13 }
def K111.gen (cK35 : K35.T) (cK37 : K37.T) : K111.T := fun a b =>
 (oelim (cK35 a.fClass b.fClass) none fun r0 => (oelim (cK35 a.fAccuracy b.fAccuracy) none fun r1 => (oelim (cK35 a.fVariance b.fVariance) none fun r2 => (oelim (cK37 (r0.1.1 :: r1.1.1 :: r2.1.1 :: lnil Int)) none fun r3 => some (r3.1, ((), ()))))))
def K111 : K111.T := K111.gen K35 K37
theorem K111.eq (cK35 : K35.T) (cK37 : K37.T) : EqA K111.sig (K111.H cK35 cK37) Tryz.f211 6 (K111.W (K111.gen cK35 cK37)) := by intro a x; kernel_rfl
abbrev K111.h := K111.H K35 K37
theorem K111.hints : HintsOK U Tryz.prog K111.h (fun c => c ∈ ([] : List Code)) := (hq (Z0 (Z0 Z4 K35.ok) K37.ok) Z1 (fun _ => rfl) (fun _ => rfl))
theorem K111.ok : Z3 U Tryz.prog 211 (K111.sig.native (K111.W K111)) :=
 Sig.ok K111.sig (K111.W K111) U_pure (Hn := K111.h) (gos := 6) K111.hints Tryz.func211 rfl (by kernel_rfl) (fun b h => h) rfl rfl (by decide) (K111.eq K35 K37) (by decide)
def K39.sig : Sig U := ⟨[.int .u64], [], 0, [.bool], false, []⟩
abbrev K39.T : Type := (Int) → Option ((Bool × Unit) × Unit × Unit)
def K39.W (f : K39.T) : K39.sig.F := fun a x => f a.1
def K39.H : Hints U := { Γ := noΓ, ro := 0, base := 13 }
def K39.gen : K39.T := fun x_0 =>
 some ((ine x_0 x_0, ()), ((), ()))
def K39 : K39.T := K39.gen
theorem K39.eq : EqA K39.sig (K39.H) Tryz.f219 6 (K39.W (K39.gen)) := by intro a x; kernel_rfl
theorem K39.hints : HintsOK U Tryz.prog (K39.H) (fun c => c ∈ ([] : List Code)) := (hq Z4 Z1 (fun _ => rfl) (fun _ => rfl))
theorem K39.ok : Z3 U Tryz.prog 219 (K39.sig.native (K39.W K39)) :=
 Sig.ok K39.sig (K39.W (K39.gen)) U_pure (Hn := (K39.H)) (gos := 6) K39.hints Tryz.func219 rfl (by kernel_rfl) (fun b h => h) rfl rfl (by decide) (K39.eq) (by decide)
def K36.sig : Sig U := ⟨[.int .u64, .int .u64], [], 0, [.int .i64], false, []⟩
abbrev K36.T : Type := (Int) → (Int) → Option ((Int × Unit) × Unit × Unit)
def K36.W (f : K36.T) : K36.sig.F := fun a x => f a.1 a.2.1
def K36.H (cK39 : K39.T) : Hints U := { Γ := (addΓ 219 (K39.sig.native (K39.W cK39)) noΓ), ro := 0, base := 13 }
def K36.gen (cK39 : K39.T) : K36.T := fun x_0 y =>
 (oelim (cK39 x_0) none fun r0 => (oelim (cK39 y) none fun r1 => (bif r0.1.1 then (bif r1.1.1 then some (((0 : Int), ()), ((), ())) else some (((-1 : Int), ()), ((), ()))) else (bif r1.1.1 then some (((1 : Int), ()), ((), ())) else (bif ilt x_0 y then some (((-1 : Int), ()), ((), ())) else (bif ilt y x_0 then some (((1 : Int), ()), ((), ())) else some (((0 : Int), ()), ((), ()))))))))
def K36 : K36.T := K36.gen K39
theorem K36.eq (cK39 : K39.T) : EqA K36.sig (K36.H cK39) Tryz.f212 6 (K36.W (K36.gen cK39)) := by intro a x; kernel_rfl
abbrev K36.h := K36.H K39
theorem K36.hints : HintsOK U Tryz.prog K36.h (fun c => c ∈ ([] : List Code)) := (hq (Z0 Z4 K39.ok) Z1 (fun _ => rfl) (fun _ => rfl))
theorem K36.ok : Z3 U Tryz.prog 212 (K36.sig.native (K36.W K36)) :=
 Sig.ok K36.sig (K36.W K36) U_pure (Hn := K36.h) (gos := 6) K36.hints Tryz.func212 rfl (by kernel_rfl) (fun b h => h) rfl rfl (by decide) (K36.eq K39) (by decide)
def K42.sig : Sig U := ⟨[.data .t_api_Vector, .data .t_api_Vector], [], 0, [.int .i64], false, []⟩
abbrev K42.T : Type := (api_Vector) → (api_Vector) → Option ((Int × Unit) × Unit × Unit)
def K42.W (f : K42.T) : K42.sig.F := fun a x => f a.1 a.2.1
def K42.C : Code := match Tryz.f198.body with | some c => c | none => .skip
def K42.B0 : Code := match (Z5 K42.C).getD 0 .skip with | .loop b => b | .scope b => b | _ => .skip
def K42.U0 (cK35 : K35.T) (cK111 : K111.T) (cK36 : K36.T) : Hints U := { Γ := (addΓ 212 (K36.sig.native (K36.W cK36)) (addΓ 211 (K111.sig.native (K111.W cK111)) (addΓ 199 (K35.sig.native (K35.W cK35)) noΓ))), ro := 0, base := 13, loop := fun b => none }
def K42.H (cK35 : K35.T) (cK111 : K111.T) (cK36 : K36.T) : Hints U := { Γ := (addΓ 212 (K36.sig.native (K36.W cK36)) (addΓ 211 (K111.sig.native (K111.W cK111)) (addΓ 199 (K35.sig.native (K35.W cK35)) noΓ))), ro := 0, base := 13, loop := fun b => (bif Nat.beq b 2 then some (Z1S Tryz.prog (K42.U0 cK35 cK111 cK36) 6 K42.B0 6) else none) }
def K42.gen (cK35 : K35.T) (cK111 : K111.T) (cK36 : K36.T) : K42.T := fun a b =>
 (oelim (cK35 a.fPriority1 b.fPriority1) none fun r0 => (oelim (cK111 a.fQuality b.fQuality) none fun r1 => (oelim (cK35 a.fPriority2 b.fPriority2) none fun r2 => (oelim (cK36 a.fGrand b.fGrand) none fun r3 => (bif ine (List.getD (r0.1.1 :: r1.1.1 :: r2.1.1 :: r3.1.1 :: lnil Int) (Int.toNat 0) 0) 0 then some ((List.getD (r0.1.1 :: r1.1.1 :: r2.1.1 :: r3.1.1 :: lnil Int) (Int.toNat 0) 0, ()), ((), ())) else (bif ine (List.getD (r0.1.1 :: r1.1.1 :: r2.1.1 :: r3.1.1 :: lnil Int) (Int.toNat (iadd .i64 0 1)) 0) 0 then some ((List.getD (r0.1.1 :: r1.1.1 :: r2.1.1 :: r3.1.1 :: lnil Int) (Int.toNat (iadd .i64 0 1)) 0, ()), ((), ())) else (bif ine (List.getD (r0.1.1 :: r1.1.1 :: r2.1.1 :: r3.1.1 :: lnil Int) (Int.toNat (iadd .i64 (iadd .i64 0 1) 1)) 0) 0 then some ((List.getD (r0.1.1 :: r1.1.1 :: r2.1.1 :: r3.1.1 :: lnil Int) (Int.toNat (iadd .i64 (iadd .i64 0 1) 1)) 0, ()), ((), ())) else (bif ine (List.getD (r0.1.1 :: r1.1.1 :: r2.1.1 :: r3.1.1 :: lnil Int) (Int.toNat (iadd .i64 (iadd .i64 (iadd .i64 0 1) 1) 1)) 0) 0 then some ((List.getD (r0.1.1 :: r1.1.1 :: r2.1.1 :: r3.1.1 :: lnil Int) (Int.toNat (iadd .i64 (iadd .i64 (iadd .i64 0 1) 1) 1)) 0, ()), ((), ())) else some (((0 : Int), ()), ((), ()))))))))))
def K42 : K42.T := K42.gen K35 K111 K36
theorem K42.inner0 : Z5 K42.B0 = [] := by kernel_rfl
abbrev K42.h := K42.H K35 K111 K36
theorem K42.lok0 : Ze U Tryz.prog K42.h.ro K42.h.base K42.B0 (Z1S Tryz.prog (K42.U0 K35 K111 K36) 6 K42.B0 6) :=
 Z2x (Hn := (K42.U0 K35 K111 K36)) (L := fun c => c ∈ ([] : List Code)) (hq (Z0 (Z0 (Z0 Z4 K35.ok) K111.ok) K36.ok) Z1 (fun _ => rfl) (fun _ => rfl)) (fun b h => by rw [K42.inner0] at h; exact h) 6
theorem K42.eq (cK35 : K35.T) (cK111 : K111.T) (cK36 : K36.T) : EqA K42.sig (K42.H cK35 cK111 cK36) Tryz.f198 6 (K42.W (K42.gen cK35 cK111 cK36)) := by intro a x; kernel_rfl
theorem K42.loops : Z5 K42.C = [(.loop K42.B0)] := by kernel_rfl
theorem K42.hints : HintsOK U Tryz.prog K42.h (fun c => c ∈ [(.loop K42.B0)]) := (hq (Z0 (Z0 (Z0 Z4 K35.ok) K111.ok) K36.ok) (Zb (by kernel_rfl) K42.lok0 Z1) (fun _ => rfl) (fun _ => rfl))
theorem K42.ok : Z3 U Tryz.prog 198 (K42.sig.native (K42.W K42)) :=
 Sig.ok K42.sig (K42.W K42) U_pure (Hn := K42.h) (code := K42.C) (gos := 6) K42.hints Tryz.func198 (by kernel_rfl) (by kernel_rfl) (fun b h => by rw [K42.loops] at h; exact h) rfl rfl (by decide) (K42.eq K35 K111 K36) (by decide)
def K70.sig : Sig U := ⟨[.data .t_api_PortID, .data .t_api_PortID], [], 0, [.int .i64], false, []⟩
abbrev K70.T : Type := (api_PortID) → (api_PortID) → Option ((Int × Unit) × Unit × Unit)
def K70.W (f : K70.T) : K70.sig.F := fun a x => f a.1 a.2.1
def K70.H (cK36 : K36.T) (cK35 : K35.T) (cK37 : K37.T) : Hints U := { Γ := (addΓ 201 (K37.sig.native (K37.W cK37)) (addΓ 199 (K35.sig.native (K35.W cK35)) (addΓ 212 (K36.sig.native (K36.W cK36)) noΓ))), ro := 0, base := 13 }
def K70.gen (cK36 : K36.T) (cK35 : K35.T) (cK37 : K37.T) : K70.T := fun a b =>
 (bif bif ieq a.fClock b.fClock then bif ieq a.fPort b.fPort then true else false else false then some (((0 : Int), ()), ((), ())) else (oelim (cK36 a.fClock b.fClock) none fun r0 => (oelim (cK35 a.fPort b.fPort) none fun r1 => (oelim (cK37 (r0.1.1 :: r1.1.1 :: lnil Int)) none fun r2 => some (r2.1, ((), ()))))))
def K70 : K70.T := K70.gen K36 K35 K37
theorem K70.eq (cK36 : K36.T) (cK35 : K35.T) (cK37 : K37.T) : EqA K70.sig (K70.H cK36 cK35 cK37) Tryz.f202 6 (K70.W (K70.gen cK36 cK35 cK37)) := by intro a x; kernel_rfl
abbrev K70.h := K70.H K36 K35 K37
theorem K70.hints : HintsOK U Tryz.prog K70.h (fun c => c ∈ ([] : List Code)) := (hq (Z0 (Z0 (Z0 Z4 K36.ok) K35.ok) K37.ok) Z1 (fun _ => rfl) (fun _ => rfl))
theorem K70.ok : Z3 U Tryz.prog 202 (K70.sig.native (K70.W K70)) :=
 Sig.ok K70.sig (K70.W K70) U_pure (Hn := K70.h) (gos := 6) K70.hints Tryz.func202 rfl (by kernel_rfl) (fun b h => h) rfl rfl (by decide) (K70.eq K36 K35 K37) (by decide)
def K44.sig : Sig U := ⟨[.data .t_api_Vector], [], 0, [.int .i64], false, []⟩
abbrev K44.T : Type := (api_Vector) → Option ((Int × Unit) × Unit × Unit)
def K44.W (f : K44.T) : K44.sig.F := fun a x => f a.1
def K44.H (cK70 : K70.T) : Hints U := { Γ := (addΓ 202 (K70.sig.native (K70.W cK70)) noΓ), ro := 0, base := 13 }
def K44.gen (cK70 : K70.T) : K44.T := fun a =>
 (oelim (cK70 a.fReceiver a.fSender) none fun r0 => (bif inR (iadd .i64 r0.1.1 1) 3 then some ((List.getD ((2 : Int) :: (0 : Int) :: (1 : Int) :: lnil Int) (Int.toNat (iadd .i64 r0.1.1 1)) 0, ()), ((), ())) else none))
def K44 : K44.T := K44.gen K70
theorem K44.eq (cK70 : K70.T) : EqA K44.sig (K44.H cK70) Tryz.f200 6 (K44.W (K44.gen cK70)) := by intro a x; kernel_rfl
abbrev K44.h := K44.H K70
theorem K44.hints : HintsOK U Tryz.prog K44.h (fun c => c ∈ ([] : List Code)) := (hq (Z0 Z4 K70.ok) Z1 (fun _ => rfl) (fun _ => rfl))
theorem K44.ok : Z3 U Tryz.prog 200 (K44.sig.native (K44.W K44)) :=
 Sig.ok K44.sig (K44.W K44) U_pure (Hn := K44.h) (gos := 6) K44.hints Tryz.func200 rfl (by kernel_rfl) (fun b h => h) rfl rfl (by decide) (K44.eq K70) (by decide)
def K41.sig : Sig U := ⟨[.data .t_api_Vector, .data .t_api_Vector], [], 0, [.int .i64], false, []⟩
abbrev K41.T : Type := (api_Vector) → (api_Vector) → Option ((Int × Unit) × Unit × Unit)
def K41.W (f : K41.T) : K41.sig.F := fun a x => f a.1 a.2.1
def K41.C : Code := match Tryz.f178.body with | some c => c | none => .skip
def K41.B0 : Code := match (Z5 K41.C).getD 0 .skip with | .loop b => b | .scope b => b | _ => .skip
def K41.JC9 : Exits U := [(.normal, ⟨60, 13, [(5, vi_)], []⟩)]
def K41.H (cK42 : K42.T) (cK35 : K35.T) (cK44 : K44.T) (cK70 : K70.T) (cK37 : K37.T) : Hints U := { Γ := (addΓ 201 (K37.sig.native (K37.W cK37)) (addΓ 202 (K70.sig.native (K70.W cK70)) (addΓ 200 (K44.sig.native (K44.W cK44)) (addΓ 199 (K35.sig.native (K35.W cK35)) (addΓ 198 (K42.sig.native (K42.W cK42)) noΓ))))), ro := 0, base := 13, joinQ := fun b => (bif Nat.beq b 4 then some [(27, vb_)] else (bif Nat.beq b 6 then some [(39, vb_)] else none)), joinC := fun b => (bif Nat.beq b 9 then some K41.JC9 else none), gotos := 3, loop := fun b => none }
def K41.gen (cK42 : K42.T) (cK35 : K35.T) (cK44 : K44.T) (cK70 : K70.T) (cK37 : K37.T) : K41.T := fun a b =>
 (oelim (cK42 a b) none fun r0 => (bif ine (imul .i64 2 r0.1.1) 0 then some ((imul .i64 2 r0.1.1, ()), ((), ())) else (oelim (cK35 a.fSteps b.fSteps) none fun r1 => (oelim ((bif ilt 0 (imul .i64 2 r1.1.1) then some (ieq (isub .i64 a.fSteps 1) b.fSteps, ()) else some (false, ()))) none fun r2 => (bif r2.1 then (oelim (cK44 a) none fun r3 => some (r3.1, ((), ()))) else (oelim ((bif ilt (imul .i64 2 r1.1.1) 0 then some (ieq (isub .i64 b.fSteps 1) a.fSteps, ()) else some (false, ()))) none fun r4 => (bif r4.1 then (oelim (cK44 b) none fun r5 => some ((IntKind.wrap .i64 ((0 : Int) - r5.1.1), ()), ((), ()))) else (oelim ((bif ieq (imul .i64 2 r1.1.1) 0 then (oelim (cK70 a.fSender b.fSender) none fun r6 => (oelim (cK35 a.fReceiver.fPort b.fReceiver.fPort) none fun r7 => (oelim (cK37 (r6.1.1 :: r7.1.1 :: lnil Int)) none fun r8 => some (r8.1, ())))) else some ((imul .i64 2 r1.1.1, ()), ()))) none fun r9 => some (r9.1, ((), ()))))))))))
def K41 : K41.T := K41.gen K42 K35 K44 K70 K37
theorem K41.eq (cK42 : K42.T) (cK35 : K35.T) (cK44 : K44.T) (cK70 : K70.T) (cK37 : K37.T) : EqA K41.sig (K41.H cK42 cK35 cK44 cK70 cK37) Tryz.f178 6 (K41.W (K41.gen cK42 cK35 cK44 cK70 cK37)) := by intro a x; kernel_rfl
theorem K41.loops : Z5 K41.C = [(.scope K41.B0)] := by kernel_rfl
abbrev K41.h := K41.H K42 K35 K44 K70 K37
theorem K41.hints : HintsOK U Tryz.prog K41.h (fun c => c ∈ [(.scope K41.B0)]) := (hq (Z0 (Z0 (Z0 (Z0 (Z0 Z4 K42.ok) K35.ok) K44.ok) K70.ok) K37.ok) (ZH Z1) (fun _ => rfl) (fun _ => rfl))
theorem K41.ok : Z3 U Tryz.prog 178 (K41.sig.native (K41.W K41)) :=
 Sig.ok K41.sig (K41.W K41) U_pure (Hn := K41.h) (code := K41.C) (gos := 6) K41.hints Tryz.func178 (by kernel_rfl) (by kernel_rfl) (fun b h => by rw [K41.loops] at h; exact h) rfl rfl (by decide) (K41.eq K42 K35 K44 K70 K37) (by decide)
def K40.sig : Sig U := ⟨[.isl .t_api_Vector], [], 0, [.int .i64], false, []⟩
abbrev K40.T : Type := (List (api_Vector)) → Option ((Int × Unit) × Unit × Unit)
def K40.W (f : K40.T) : K40.sig.F := fun a x => f a.1
def K40.L0 : Shape U := ⟨27, 13, [(0, .val (.isl .t_api_Vector)), (3, vi_), (6, .val (.isl .t_api_Vector)), (7, vi_), (8, vi_)], []⟩
def K40.X0 : Exits U := [(.exit 0, ⟨27, 13, [(3, vi_)], []⟩)]
abbrev K40.l0T : Type := (((List (api_Vector)) × Int × (List (api_Vector)) × Int × Int × Unit) × Unit) → Option (((Int × Unit) × Unit))
def K40.C : Code := match Tryz.f177.body with | some c => c | none => .skip
def K40.B0 : Code := match (Z5 K40.C).getD 0 .skip with | .loop b => b | .scope b => b | _ => .skip
def K40.JC6 : Exits U := [(.normal, ⟨27, 13, [(0, .val (.isl .t_api_Vector)), (3, vi_), (6, .val (.isl .t_api_Vector)), (7, vi_), (8, vi_)], []⟩)]
def K40.H (cK41 : K41.T) (l0 : K40.l0T) : Hints U := { Γ := (addΓ 178 (K41.sig.native (K41.W cK41)) noΓ), ro := 0, base := 13, joinQ := fun b => (bif Nat.beq b 5 then some [(23, vb_)] else none), joinC := fun b => (bif Nat.beq b 6 then some K40.JC6 else none), loop := fun b => (bif Nat.beq b 3 then some (Zc (0, 13) K40.L0 K40.X0 l0) else none) }
def K40.step0 (cK41 : K41.T) (a : ((List (api_Vector)) × Int × (List (api_Vector)) × Int × Int × Unit) × Unit) : Option ((((List (api_Vector)) × Int × (List (api_Vector)) × Int × Int × Unit) × Unit) ⊕ (((Int × Unit) × Unit))) :=
 (bif ilt a.1.2.2.2.2.1 a.1.2.2.2.1 then (bif inR a.1.2.2.2.2.1 (List.length a.1.2.2.1) then (oelim ((bif ilt a.1.2.1 0 then some (true, ()) else (bif inR a.1.2.1 (List.length a.1.1) then (oelim (cK41 (List.getD a.1.1 (Int.toNat a.1.2.1) api_Vector.zero) (List.getD a.1.2.2.1 (Int.toNat a.1.2.2.2.2.1) api_Vector.zero)) none fun r0 => some (ilt 0 r0.1.1, ())) else none))) none fun r1 => (oelim ((bif r1.1 then some ((a.1.1, (a.1.2.2.2.2.1, a.1.2.2)), ()) else some a)) none fun r2 => some (.inl ((r2.1.1, (r2.1.2.1, (r2.1.2.2.1, (r2.1.2.2.2.1, (iadd .i64 r2.1.2.2.2.2.1 1, ()))))), ())))) else none) else some (.inr ((a.1.2.1, ()), ())))
def K40.F0 : K40.l0T := fun a => Za (1000000 + (a.1.1.length + a.1.2.2.1.length)) (K40.step0 K41) a
def K40.gen (cK41 : K41.T) (l0 : K40.l0T) : K40.T := fun l =>
 (oelim (l0 ((l, (-1 : Int), l, ofN (List.length l), (0 : Int), ()), ())) none fun r0 => some (r0.1, ((), ())))
def K40 : K40.T := K40.gen K41 K40.F0
theorem K40.seq0 (cK41 : K41.T) (l0 : K40.l0T) (a : K40.L0.T) : run Tryz.prog (K40.H cK41 l0) 6 (Option (K40.L0.T ⊕ ExT K40.X0)) none K40.B0 (K40.L0.enc a) (Zs (0, 13) K40.L0 K40.X0) = K40.step0 cK41 a := by kernel_rfl
theorem K40.inner0 : Z5 K40.B0 = ([] : List Code) := by kernel_rfl
abbrev K40.h := K40.H K41 K40.F0
theorem K40.lok0 : Ze U Tryz.prog K40.h.ro K40.h.base K40.B0 (Zc (0, 13) K40.L0 K40.X0 K40.F0) :=
 Zh (Hn := K40.h) U_ok U_pure (Zl (hq (Z0 Z4 K41.ok) Z1 (fun _ => rfl) (fun _ => rfl)) 6) (fun b h => by rw [K40.inner0] at h; exact h) (fun _ => rfl) (K40.seq0 K41 K40.F0)
theorem K40.eq (cK41 : K41.T) (l0 : K40.l0T) : EqA K40.sig (K40.H cK41 l0) Tryz.f177 6 (K40.W (K40.gen cK41 l0)) := by intro a x; kernel_rfl
theorem K40.loops : Z5 K40.C = [(.loop K40.B0)] := by kernel_rfl
theorem K40.hints : HintsOK U Tryz.prog K40.h (fun c => c ∈ [(.loop K40.B0)]) := (hq (Z0 Z4 K41.ok) (Zb (by kernel_rfl) K40.lok0 Z1) (fun _ => rfl) (fun _ => rfl))
theorem K40.ok : Z3 U Tryz.prog 177 (K40.sig.native (K40.W K40)) :=
 Sig.ok K40.sig (K40.W K40) U_pure (Hn := K40.h) (code := K40.C) (gos := 6) K40.hints Tryz.func177 (by kernel_rfl) (by kernel_rfl) (fun b h => by rw [K40.loops] at h; exact h) rfl rfl (by decide) (K40.eq K41 K40.F0) (by decide)
def K55.sig : Sig U := ⟨[.ptr, .int .i64], [.obj .t_foreign_Table], 1, [.data .t_foreign_Record, .bool], true, []⟩
abbrev K55.T : Type := (Int) → (foreign_Table) → Option ((foreign_Record × Bool × Unit) × Unit × Unit)
def K55.W (f : K55.T) : K55.sig.F := fun a x => f a.2.1 x.1
def K55.L0 : Shape U := ⟨35, 16, [(4, .ptr 14 0 0), (6, .val (.isl .t_foreign_Record)), (7, .own .t_api_Vector 15), (14, .val (.isl .t_foreign_Record)), (15, vi_), (16, vi_)], [(13, .obj .t_foreign_Table), (14, .obj .t_foreign_Record), (15, .tok)]⟩
def K55.X0 : Exits U := [(.exit 0, ⟨35, 16, [(4, .ptr 14 0 0), (6, .val (.isl .t_foreign_Record)), (7, .own .t_api_Vector 15)], [(13, .obj .t_foreign_Table), (14, .obj .t_foreign_Record), (15, .tok)]⟩)]
abbrev K55.l0T : Type := (((List (foreign_Record)) × (List (api_Vector)) × (List (foreign_Record)) × Int × Int × Unit) × (foreign_Table × foreign_Record × Unit)) → Option ((((List (foreign_Record)) × (List (api_Vector)) × Unit) × (foreign_Table × foreign_Record × Unit)))
def K55.C : Code := match Tryz.f133.body with | some c => c | none => .skip
def K55.B0 : Code := match (Z5 K55.C).getD 0 .skip with | .loop b => b | .scope b => b | _ => .skip
def K55.JR10 : Exits U := [(.normal, ⟨35, 15, [(4, .ptr 14 0 0), (5, vb_)], [(13, .obj .t_foreign_Table), (14, .obj .t_foreign_Record)]⟩)]
def K55.JR5 : Exits U := [(.normal, ⟨35, 17, [(4, .ptr 14 0 0), (6, .val (.isl .t_foreign_Record)), (7, .own .t_api_Vector 15), (9, .ptr 16 0 0), (14, .val (.isl .t_foreign_Record)), (15, vi_), (16, vi_)], [(13, .obj .t_foreign_Table), (14, .obj .t_foreign_Record), (15, .tok), (16, .obj .t_foreign_Record)]⟩)]
def K55.H (cK58 : K58.T) (cK40 : K40.T) (l0 : K55.l0T) : Hints U := { Γ := (addΓ 177 (K40.sig.native (K40.W cK40)) (addΓ 176 (K58.sig.native (K58.W cK58)) noΓ)), ro := 14, base := 14, joinR := fun b => (bif Nat.beq b 5 then some K55.JR5 else (bif Nat.beq b 10 then some K55.JR10 else none)), loop := fun b => (bif Nat.beq b 4 then some (Zc (14, 14) K55.L0 K55.X0 l0) else none) }
def K55.step0 (cK58 : K58.T) (cK40 : K40.T) (a : ((List (foreign_Record)) × (List (api_Vector)) × (List (foreign_Record)) × Int × Int × Unit) × (foreign_Table × foreign_Record × Unit)) : Option ((((List (foreign_Record)) × (List (api_Vector)) × (List (foreign_Record)) × Int × Int × Unit) × (foreign_Table × foreign_Record × Unit)) ⊕ ((((List (foreign_Record)) × (List (api_Vector)) × Unit) × (foreign_Table × foreign_Record × Unit)))) :=
 (bif ilt a.1.2.2.2.2.1 a.1.2.2.2.1 then (oelim ((bif inR a.1.2.2.2.2.1 (List.length a.1.2.2.1) then some (a.1, (a.2.1, (a.2.2.1, (List.getD a.1.2.2.1 (Int.toNat a.1.2.2.2.2.1) foreign_Record.zero, ())))) else none)) none fun r0 => (bif room (List.length r0.1.2.1 + List.length (r0.2.2.2.1.fVector :: lnil api_Vector)) 88 then some (.inl ((r0.1.1, (r0.1.2.1 ++ r0.2.2.2.1.fVector :: lnil api_Vector, (r0.1.2.2.1, (r0.1.2.2.2.1, (iadd .i64 r0.1.2.2.2.2.1 1, ()))))), (r0.2.1, (r0.2.2.1, ())))) else none)) else some (.inr ((a.1.1, (a.1.2.1, ())), a.2)))
def K55.F0 : K55.l0T := fun a => Za (1000000 + (a.1.1.length + a.1.2.1.length + a.1.2.2.1.length)) (K55.step0 K58 K40) a
def K55.gen (cK58 : K58.T) (cK40 : K40.T) (l0 : K55.l0T) : K55.T := fun now h0 =>
 (oelim (cK58 now h0) none fun r0 => (oelim (l0 ((r0.1.1, lnil api_Vector, r0.1.1, ofN (List.length r0.1.1), (0 : Int), ()), h0, foreign_Record.mk z6_ z4_ 0 0 0, ())) none fun r1 => (oelim (cK40 r1.1.2.1) none fun r2 => (bif ilt r2.1.1 0 then some ((foreign_Record.mk z6_ z4_ 0 0 0, (false, ())), ((), ())) else (bif inR r2.1.1 (List.length r1.1.1) then some ((List.getD r1.1.1 (Int.toNat r2.1.1) foreign_Record.zero, (true, ())), ((), ())) else none)))))
def K55 : K55.T := K55.gen K58 K40 K55.F0
theorem K55.seq0 (cK58 : K58.T) (cK40 : K40.T) (l0 : K55.l0T) (a : K55.L0.T) : run Tryz.prog (K55.H cK58 cK40 l0) 6 (Option (K55.L0.T ⊕ ExT K55.X0)) none K55.B0 (K55.L0.enc a) (Zs (14, 14) K55.L0 K55.X0) = K55.step0 cK58 cK40 a := by kernel_rfl
theorem K55.inner0 : Z5 K55.B0 = ([] : List Code) := by kernel_rfl
abbrev K55.h := K55.H K58 K40 K55.F0
theorem K55.lok0 : Ze U Tryz.prog K55.h.ro K55.h.base K55.B0 (Zc (14, 14) K55.L0 K55.X0 K55.F0) :=
 Zh (Hn := K55.h) U_ok U_pure (Zl (hq (Z0 (Z0 Z4 K58.ok) K40.ok) Z1 (fun _ => rfl) (fun _ => rfl)) 6) (fun b h => by rw [K55.inner0] at h; exact h) (fun _ => rfl) (K55.seq0 K58 K40 K55.F0)
theorem K55.eq (cK58 : K58.T) (cK40 : K40.T) (l0 : K55.l0T) : EqA K55.sig (K55.H cK58 cK40 l0) Tryz.f133 6 (K55.W (K55.gen cK58 cK40 l0)) := by intro a x; kernel_rfl
theorem K55.loops : Z5 K55.C = [(.loop K55.B0)] := by kernel_rfl
theorem K55.hints : HintsOK U Tryz.prog K55.h (fun c => c ∈ [(.loop K55.B0)]) := (hq (Z0 (Z0 Z4 K58.ok) K40.ok) (Zb (by kernel_rfl) K55.lok0 Z1) (fun _ => rfl) (fun _ => rfl))
theorem K55.ok : Z3 U Tryz.prog 133 (K55.sig.native (K55.W K55)) :=
 Sig.ok K55.sig (K55.W K55) U_pure (Hn := K55.h) (code := K55.C) (gos := 6) K55.hints Tryz.func133 (by kernel_rfl) (by kernel_rfl) (fun b h => by rw [K55.loops] at h; exact h) rfl rfl (by decide) (K55.eq K58 K40 K55.F0) (by decide)
def K43.sig : Sig U := ⟨[.data .t_api_Conf], [], 0, [.data .t_api_Vector], false, []⟩
abbrev K43.T : Type := (api_Conf) → Option ((api_Vector × Unit) × Unit × Unit)
def K43.W (f : K43.T) : K43.sig.F := fun a x => f a.1
def K43.H : Hints U := { Γ := noΓ, ro := 0, base := 13 }
def K43.gen : K43.T := fun c =>
 some ((api_Vector.mk c.fPriority1 c.fQuality c.fPriority2 c.fClock 0 (api_PortID.mk c.fClock 0) (api_PortID.mk c.fClock 0), ()), ((), ()))
def K43 : K43.T := K43.gen
theorem K43.eq : EqA K43.sig (K43.H) Tryz.f135 6 (K43.W (K43.gen)) := by intro a x; kernel_rfl
theorem K43.hints : HintsOK U Tryz.prog (K43.H) (fun c => c ∈ ([] : List Code)) := (hq Z4 Z1 (fun _ => rfl) (fun _ => rfl))
theorem K43.ok : Z3 U Tryz.prog 135 (K43.sig.native (K43.W K43)) :=
 Sig.ok K43.sig (K43.W (K43.gen)) U_pure (Hn := (K43.H)) (gos := 6) K43.hints Tryz.func135 rfl (by kernel_rfl) (fun b h => h) rfl rfl (by decide) (K43.eq) (by decide)
def K48.sig : Sig U := ⟨[.data .t_api_Vector, .bool, .optr .t_api_Vector, .optr .t_api_Vector, .bool], [], 0, [.int .i64], false, []⟩
abbrev K48.T : Type := (api_Vector) → (Bool) → (Option (api_Vector)) → (Option (api_Vector)) → (Bool) → Option ((Int × Unit) × Unit × Unit)
def K48.W (f : K48.T) : K48.sig.F := fun a x => f a.1 a.2.1 a.2.2.1 a.2.2.2.1 a.2.2.2.2.1
def K48.JC2 : Exits U := [(.normal, ⟨58, 13, [], []⟩),
 (.ret, ⟨58, 13, [(10, vi_)], []⟩)]
def K48.H (cK41 : K41.T) : Hints U := { Γ := (addΓ 178 (K41.sig.native (K41.W cK41)) noΓ), ro := 0, base := 13, joinQ := fun b => (bif Nat.beq b 1 then some [(11, vb_)] else (bif Nat.beq b 4 then some [(31, vb_)] else (bif Nat.beq b 7 then some [(32, vb_)] else (bif Nat.beq b 11 then some [(45, vb_)] else none)))), joinC := fun b => (bif Nat.beq b 2 then some K48.JC2 else none) }
def K48.gen (cK41 : K41.T) : K48.T := fun d0 listening best port here =>
 (oelim ((bif !Option.isSome port then some (listening, ()) else some (false, ()))) none fun r0 => (oelim ((bif r0.1 then some (.inr (((7 : Int), ()), ())) else (bif ile d0.fQuality.fClass 127 then (oelim ((bif !Option.isSome port then some (true, ()) else (oelim (port) none fun r1 => (oelim (cK41 d0 r1) none fun r2 => some (ilt r2.1.1 0, ()))))) none fun r3 => (bif r3.1 then some (.inr (((1 : Int), ()), ())) else some (.inr (((4 : Int), ()), ())))) else (oelim ((bif !Option.isSome best then some (true, ()) else (oelim (best) none fun r4 => (oelim (cK41 d0 r4) none fun r5 => some (ilt r5.1.1 0, ()))))) none fun r6 => (bif r6.1 then some (.inr (((2 : Int), ()), ())) else (bif here then some (.inr (((6 : Int), ()), ())) else (oelim ((bif Option.isSome port then (oelim (best) none fun r7 => (oelim (port) none fun r8 => (oelim (cK41 r7 r8) none fun r9 => some (ieq r9.1.1 (-1), ())))) else some (false, ()))) none fun r10 => (bif r10.1 then some (.inr (((5 : Int), ()), ())) else some (.inl ((), ())))))))))) none fun r11 => (selim r11 (fun r12 => some (((3 : Int), ()), ((), ()))) (fun r12 => some (r12.1, ((), ()))))))
def K48 : K48.T := K48.gen K41
theorem K48.eq (cK41 : K41.T) : EqA K48.sig (K48.H cK41) Tryz.f179 6 (K48.W (K48.gen cK41)) := by intro a x; kernel_rfl
abbrev K48.h := K48.H K41
theorem K48.hints : HintsOK U Tryz.prog K48.h (fun c => c ∈ ([] : List Code)) := (hq (Z0 Z4 K41.ok) Z1 (fun _ => rfl) (fun _ => rfl))
theorem K48.ok : Z3 U Tryz.prog 179 (K48.sig.native (K48.W K48)) :=
 Sig.ok K48.sig (K48.W K48) U_pure (Hn := K48.h) (gos := 6) K48.hints Tryz.func179 rfl (by kernel_rfl) (fun b h => h) rfl rfl (by decide) (K48.eq K41) (by decide)
def K47.sig : Sig U := ⟨[.data .t_api_Vector, .isl .bool, .isl .p_t_api_Vector], [], 0, [.isl .int, .int .i64], true, []⟩
abbrev K47.T : Type := (api_Vector) → (List (Bool)) → (List (Option (api_Vector))) → Option (((List (Int)) × Int × Unit) × Unit × Unit)
def K47.W (f : K47.T) : K47.sig.F := fun a x => f a.1 a.2.1 a.2.2.1
def K47.L0 : Shape U := ⟨78, 14, [(1, .val (.isl .bool)), (2, .val (.isl .p_t_api_Vector)), (3, .ptr 13 0 0), (8, vi_), (9, vi_), (10, .val (.optr .t_api_Vector)), (11, .full .int)], [(13, .obj .t_api_Vector)]⟩
def K47.X0 : Exits U := [(.ret, ⟨78, 14, [(6, .own .int 13), (7, vi_)], [(13, .tok)]⟩)]
abbrev K47.l0T : Type := (((List (Bool)) × (List (Option (api_Vector))) × Int × Int × (Option (api_Vector)) × (List (Int)) × Unit) × (api_Vector × Unit)) → Option ((((List (Int)) × Int × Unit) × Unit))
def K47.L1 : Shape U := ⟨78, 15, [(1, .val (.isl .bool)), (3, .ptr 13 0 0), (8, vi_), (10, .val (.optr .t_api_Vector)), (11, .own .int 14), (48, .val (.isl .p_t_api_Vector)), (49, vi_), (50, vi_)], [(13, .obj .t_api_Vector), (14, .tok)]⟩
def K47.X1 : Exits U := [(.exit 0, ⟨78, 14, [(8, vi_), (11, .own .int 13)], [(13, .tok)]⟩)]
abbrev K47.l1T : Type := (((List (Bool)) × Int × (Option (api_Vector)) × (List (Int)) × (List (Option (api_Vector))) × Int × Int × Unit) × (api_Vector × Unit)) → Option (((Int × (List (Int)) × Unit) × Unit))
def K47.C : Code := match Tryz.f134.body with | some c => c | none => .skip
def K47.B0 : Code := match (Z5 K47.C).getD 0 .skip with | .loop b => b | .scope b => b | _ => .skip
def K47.B1 : Code := match (Z5 K47.C).getD 1 .skip with | .loop b => b | .scope b => b | _ => .skip
def K47.R0 : Code := (findLabel K47.B0 0).getD .skip
def K47.JR13 : Exits U := [(.normal, ⟨78, 15, [(1, .val (.isl .bool)), (3, .ptr 13 0 0), (8, vi_), (10, .val (.optr .t_api_Vector)), (11, .own .int 14), (48, .val (.isl .p_t_api_Vector)), (49, vi_), (50, vi_)], [(13, .obj .t_api_Vector), (14, .tok)]⟩)]
def K47.JC8 : Exits U := [(.normal, ⟨78, 14, [(1, .val (.isl .bool)), (2, .val (.isl .p_t_api_Vector)), (3, .ptr 13 0 0), (8, vi_), (9, vi_), (10, .val (.optr .t_api_Vector)), (11, .full .int)], [(13, .obj .t_api_Vector)]⟩)]
def K47.H (cK41 : K41.T) (cK48 : K48.T) (l0 : K47.l0T) (l1 : K47.l1T) : Hints U := { Γ := (addΓ 179 (K48.sig.native (K48.W cK48)) (addΓ 178 (K41.sig.native (K41.W cK41)) noΓ)), ro := 0, base := 13, joinQ := fun b => (bif Nat.beq b 7 then some [(43, vb_)] else none), joinR := fun b => (bif Nat.beq b 13 then some K47.JR13 else none), joinC := fun b => (bif Nat.beq b 8 then some K47.JC8 else none), label := fun b => bif Nat.beq b 0 then some (Zc (0, 13) K47.L0 K47.X0 l0) else none, gotos := 3, loop := fun b => (bif Nat.beq b 11 then some (Zc (0, 13) K47.L1 K47.X1 l1) else none) }
def K47.step1 (cK41 : K41.T) (cK48 : K48.T) (a : ((List (Bool)) × Int × (Option (api_Vector)) × (List (Int)) × (List (Option (api_Vector))) × Int × Int × Unit) × (api_Vector × Unit)) : Option ((((List (Bool)) × Int × (Option (api_Vector)) × (List (Int)) × (List (Option (api_Vector))) × Int × Int × Unit) × (api_Vector × Unit)) ⊕ (((Int × (List (Int)) × Unit) × Unit))) :=
 (bif ilt a.1.2.2.2.2.2.2.1 a.1.2.2.2.2.2.1 then (bif inR a.1.2.2.2.2.2.2.1 (List.length a.1.2.2.2.2.1) then (oelim ((bif ilt a.1.2.2.2.2.2.2.1 (ofN (List.length a.1.1)) then (bif inR a.1.2.2.2.2.2.2.1 (List.length a.1.1) then (oelim (cK48 a.2.1 (List.getD a.1.1 (Int.toNat a.1.2.2.2.2.2.2.1) false) a.1.2.2.1 (List.getD a.1.2.2.2.2.1 (Int.toNat a.1.2.2.2.2.2.2.1) none) (ieq a.1.2.2.2.2.2.2.1 a.1.2.1)) none fun r0 => (bif room (List.length a.1.2.2.2.1 + List.length (r0.1.1 :: lnil Int)) 8 then some ((a.1.1, (a.1.2.1, (a.1.2.2.1, (a.1.2.2.2.1 ++ r0.1.1 :: lnil Int, a.1.2.2.2.2)))), a.2) else none)) else none) else (oelim (cK48 a.2.1 false a.1.2.2.1 (List.getD a.1.2.2.2.2.1 (Int.toNat a.1.2.2.2.2.2.2.1) none) (ieq a.1.2.2.2.2.2.2.1 a.1.2.1)) none fun r1 => (bif room (List.length a.1.2.2.2.1 + List.length (r1.1.1 :: lnil Int)) 8 then some ((a.1.1, (a.1.2.1, (a.1.2.2.1, (a.1.2.2.2.1 ++ r1.1.1 :: lnil Int, a.1.2.2.2.2)))), a.2) else none)))) none fun r2 => some (.inl ((r2.1.1, (r2.1.2.1, (r2.1.2.2.1, (r2.1.2.2.2.1, (r2.1.2.2.2.2.1, (r2.1.2.2.2.2.2.1, (iadd .i64 r2.1.2.2.2.2.2.2.1 1, ()))))))), r2.2))) else none) else some (.inr ((a.1.2.1, (a.1.2.2.2.1, ())), ())))
def K47.F1 : K47.l1T := fun a => Za (1000000 + (a.1.1.length + a.1.2.2.2.1.length + a.1.2.2.2.2.1.length)) (K47.step1 K41 K48) a
def K47.step0 (cK41 : K41.T) (cK48 : K48.T) (l1 : K47.l1T) (a : ((List (Bool)) × (List (Option (api_Vector))) × Int × Int × (Option (api_Vector)) × (List (Int)) × Unit) × (api_Vector × Unit)) : Option ((((List (Bool)) × (List (Option (api_Vector))) × Int × Int × (Option (api_Vector)) × (List (Int)) × Unit) × (api_Vector × Unit)) ⊕ ((((List (Int)) × Int × Unit) × Unit))) :=
 (bif ilt a.1.2.2.2.1 (ofN (List.length a.1.2.1)) then (bif inR a.1.2.2.2.1 (List.length a.1.2.1) then (oelim ((bif Option.isSome (List.getD a.1.2.1 (Int.toNat a.1.2.2.2.1) none) then (bif !Option.isSome a.1.2.2.2.2.1 then some (true, ()) else (oelim (a.1.2.2.2.2.1) none fun (r0 : api_Vector) => (oelim (List.getD a.1.2.1 (Int.toNat a.1.2.2.2.1) none) none fun r1 => (oelim (cK41 r0 r1) none fun r2 => some (ilt 0 r2.1.1, ()))))) else some (false, ()))) none fun r3 => (oelim ((bif r3.1 then some ((a.1.1, (a.1.2.1, (a.1.2.2.2.1, (a.1.2.2.2.1, (List.getD a.1.2.1 (Int.toNat a.1.2.2.2.1) none, a.1.2.2.2.2.2))))), a.2) else some a)) none fun r4 => some (.inl ((r4.1.1, (r4.1.2.1, (r4.1.2.2.1, (iadd .i64 r4.1.2.2.2.1 1, r4.1.2.2.2.2)))), r4.2)))) else none) else (oelim (l1 ((a.1.1, a.1.2.2.1, a.1.2.2.2.2.1, a.1.2.2.2.2.2.1, a.1.2.1, ofN (List.length a.1.2.1), (0 : Int), ()), a.2)) none fun r5 => some (.inr ((r5.1.2.1, (r5.1.1, ())), ()))))
def K47.F0 : K47.l0T := fun a => Za (1000000 + (a.1.1.length + a.1.2.1.length + a.1.2.2.2.2.2.1.length)) (K47.step0 K41 K48 K47.F1) a
def K47.gen (cK41 : K41.T) (cK48 : K48.T) (l0 : K47.l0T) (l1 : K47.l1T) : K47.T := fun d0 listening ports =>
 (bif le3 (ofN 0) (Z7 false (ofN (List.length ports)) 8) (List.length ports) then (bif ilt 0 (ofN (List.length (List.drop (Int.toNat (ofN 0)) (List.take (Int.toNat (Z7 false (ofN (List.length ports)) 8)) ports)))) then (bif inR 0 (List.length (List.drop (Int.toNat (ofN 0)) (List.take (Int.toNat (Z7 false (ofN (List.length ports)) 8)) ports))) then (oelim ((bif Option.isSome (List.getD (List.drop (Int.toNat (ofN 0)) (List.take (Int.toNat (Z7 false (ofN (List.length ports)) 8)) ports)) (Int.toNat 0) none) then some (true, ()) else some (false, ()))) none fun r0 => (oelim ((bif r0.1 then some ((listening, (List.drop (Int.toNat (ofN 0)) (List.take (Int.toNat (Z7 false (ofN (List.length ports)) 8)) ports), ((0 : Int), ((0 : Int), (List.getD (List.drop (Int.toNat (ofN 0)) (List.take (Int.toNat (Z7 false (ofN (List.length ports)) 8)) ports)) (Int.toNat 0) none, (lnil Int, ())))))), (d0, ())) else some ((listening, (List.drop (Int.toNat (ofN 0)) (List.take (Int.toNat (Z7 false (ofN (List.length ports)) 8)) ports), ((-1 : Int), ((0 : Int), (none, (lnil Int, ())))))), (d0, ())))) none fun r1 => (oelim (l0 ((r1.1.1, r1.1.2.1, r1.1.2.2.1, iadd .i64 r1.1.2.2.2.1 1, r1.1.2.2.2.2), r1.2)) none fun r2 => some (r2.1, ((), ()))))) else none) else (oelim (l1 ((listening, (-1 : Int), none, lnil Int, List.drop (Int.toNat (ofN 0)) (List.take (Int.toNat (Z7 false (ofN (List.length ports)) 8)) ports), ofN (List.length (List.drop (Int.toNat (ofN 0)) (List.take (Int.toNat (Z7 false (ofN (List.length ports)) 8)) ports))), (0 : Int), ()), d0, ())) none fun r3 => some ((r3.1.2.1, (r3.1.1, ())), ((), ())))) else none)
def K47 : K47.T := K47.gen K41 K48 K47.F0 K47.F1
theorem K47.seq1 (cK41 : K41.T) (cK48 : K48.T) (l0 : K47.l0T) (l1 : K47.l1T) (a : K47.L1.T) : run Tryz.prog (K47.H cK41 cK48 l0 l1) 6 (Option (K47.L1.T ⊕ ExT K47.X1)) none K47.B1 (K47.L1.enc a) (Zs (0, 13) K47.L1 K47.X1) = K47.step1 cK41 cK48 a := by kernel_rfl
theorem K47.inner1 : Z5 K47.B1 = ([] : List Code) := by kernel_rfl
abbrev K47.h := K47.H K41 K48 K47.F0 K47.F1
theorem K47.lok1 : Ze U Tryz.prog K47.h.ro K47.h.base K47.B1 (Zc (0, 13) K47.L1 K47.X1 K47.F1) :=
 Zh (Hn := K47.h) U_ok U_pure (Zl (Z14 U_ok U_pure mixed (Z0 (Z0 Z4 K41.ok) K48.ok) Z1 Z1Y (Z29 fun _ => rfl)) 6) (fun b h => by rw [K47.inner1] at h; exact h) (fun _ => rfl) (K47.seq1 K41 K48 K47.F0 K47.F1)
theorem K47.seq0 (cK41 : K41.T) (cK48 : K48.T) (l0 : K47.l0T) (l1 : K47.l1T) (a : K47.L0.T) : run Tryz.prog (K47.H cK41 cK48 l0 l1) 6 (Option (K47.L0.T ⊕ ExT K47.X0)) none K47.R0 (K47.L0.enc a) (Z2Q (0, 13) 0 K47.L0 K47.X0) = K47.step0 cK41 cK48 l1 a := by kernel_rfl
theorem K47.inner0 : Z5 K47.R0 = [(.loop K47.B1)] := by kernel_rfl
theorem K47.lok0 : ZR U Tryz.prog K47.h.ro K47.h.base K47.B0 K47.R0 (Zc (0, 13) K47.L0 K47.X0 K47.F0) :=
 Z6j (Hn := K47.h) (lb := 0) U_ok U_pure (Zl (Z14 U_ok U_pure mixed (Z0 (Z0 Z4 K41.ok) K48.ok) (Zb (by kernel_rfl) K47.lok1 Z1) (Z4R Z1Y) (Z29 fun _ => rfl)) 6) (by kernel_rfl) (fun b h => by rw [K47.inner0] at h; exact h) (fun _ => rfl) (K47.seq0 K41 K48 K47.F0 K47.F1)
theorem K47.eq (cK41 : K41.T) (cK48 : K48.T) (l0 : K47.l0T) (l1 : K47.l1T) : EqA K47.sig (K47.H cK41 cK48 l0 l1) Tryz.f134 6 (K47.W (K47.gen cK41 cK48 l0 l1)) := by intro a x; kernel_rfl
theorem K47.loops : Z5 K47.C = [(.scope K47.B0), (.loop K47.B1)] := by kernel_rfl
theorem K47.hints : HintsOK U Tryz.prog K47.h (fun c => c ∈ [(.scope K47.B0), (.loop K47.B1)]) := (Z14 U_ok U_pure mixed (Z0 (Z0 Z4 K41.ok) K48.ok) (ZH (Zb (by kernel_rfl) K47.lok1 Z1)) (Z51 (Z6i (r0 := K47.R0) (l0 := 0) (by kernel_rfl) (fun _ => rfl) K47.lok0) (Z4R Z1Y)) (Z29 fun _ => rfl))
theorem K47.ok : Z3 U Tryz.prog 134 (K47.sig.native (K47.W K47)) :=
 Sig.ok K47.sig (K47.W K47) U_pure (Hn := K47.h) (code := K47.C) (gos := 6) K47.hints Tryz.func134 (by kernel_rfl) (by kernel_rfl) (fun b h => by rw [K47.loops] at h; exact h) rfl rfl (by decide) (K47.eq K41 K48 K47.F0 K47.F1) (by decide)
def K140.sig : Sig U := ⟨[.data .t_api_Vector, .data .t_api_Times], [], 0, [.data .t_api_Parent], false, []⟩
abbrev K140.T : Type := (api_Vector) → (api_Times) → Option ((api_Parent × Unit) × Unit × Unit)
def K140.W (f : K140.T) : K140.sig.F := fun a x => f a.1 a.2.1
def K140.H : Hints U := { Γ := noΓ, ro := 0, base := 13 }
def K140.gen : K140.T := fun v t =>
 some ((api_Parent.mk v.fSender v.fGrand v.fQuality v.fPriority1 v.fPriority2 (iadd .i64 v.fSteps 1) t, ()), ((), ()))
def K140 : K140.T := K140.gen
theorem K140.eq : EqA K140.sig (K140.H) Tryz.f136 6 (K140.W (K140.gen)) := by intro a x; kernel_rfl
theorem K140.hints : HintsOK U Tryz.prog (K140.H) (fun c => c ∈ ([] : List Code)) := (hq Z4 Z1 (fun _ => rfl) (fun _ => rfl))
theorem K140.ok : Z3 U Tryz.prog 136 (K140.sig.native (K140.W K140)) :=
 Sig.ok K140.sig (K140.W (K140.gen)) U_pure (Hn := (K140.H)) (gos := 6) K140.hints Tryz.func136 rfl (by kernel_rfl) (fun b h => h) rfl rfl (by decide) (K140.eq) (by decide)
def K107.sig : Sig U := ⟨[.int .i64, .int .i64, .bool, .bool], [], 0, [.int .i64], false, []⟩
abbrev K107.T : Type := (Int) → (Int) → (Bool) → (Bool) → Option ((Int × Unit) × Unit × Unit)
def K107.W (f : K107.T) : K107.sig.F := fun a x => f a.1 a.2.1 a.2.2.1 a.2.2.2.1
def K107.H (cK106 : K106.T) (cK108 : K108.T) : Hints U := { Γ := (addΓ 76 (K108.sig.native (K108.W cK108)) (addΓ 74 (K106.sig.native (K106.W cK106)) noΓ)), ro := 0, base := 13, joinQ := fun b => (bif Nat.beq b 1 then some [(19, vb_)] else (bif Nat.beq b 3 then some [(25, vb_)] else (bif Nat.beq b 14 then some [(42, vb_)] else none))) }
def K107.gen (cK106 : K106.T) (cK108 : K108.T) : K107.T := fun state decision same slaveOnly =>
 (oelim ((oelim (cK106 state) none fun r0 => (bif !r0.1.1 then some (true, ()) else (bif ilt decision 1 then some (true, ()) else some (ilt 6 decision, ()))))) none fun r1 => (bif r1.1 then some ((state, ()), ((), ())) else (oelim ((bif slaveOnly then some (ine decision 6, ()) else some (false, ()))) none fun r2 => (bif r2.1 then some (((4 : Int), ()), ((), ())) else (bif ieq decision 4 then some (((7 : Int), ()), ((), ())) else (bif ieq decision 5 then some (((7 : Int), ()), ((), ())) else (bif ieq decision 3 then (bif ine state 6 then some (((5 : Int), ()), ((), ())) else some ((state, ()), ((), ()))) else (bif ieq decision 6 then (oelim ((bif same then (oelim (cK108 state) none fun r3 => some r3.1) else some (false, ()))) none fun r4 => (bif r4.1 then some ((state, ()), ((), ())) else some (((8 : Int), ()), ((), ())))) else some (((6 : Int), ()), ((), ()))))))))))
def K107 : K107.T := K107.gen K106 K108
theorem K107.eq (cK106 : K106.T) (cK108 : K108.T) : EqA K107.sig (K107.H cK106 cK108) Tryz.f137 6 (K107.W (K107.gen cK106 cK108)) := by intro a x; kernel_rfl
abbrev K107.h := K107.H K106 K108
theorem K107.hints : HintsOK U Tryz.prog K107.h (fun c => c ∈ ([] : List Code)) := (hq (Z0 (Z0 Z4 K106.ok) K108.ok) Z1 (fun _ => rfl) (fun _ => rfl))
theorem K107.ok : Z3 U Tryz.prog 137 (K107.sig.native (K107.W K107)) :=
 Sig.ok K107.sig (K107.W K107) U_pure (Hn := K107.h) (gos := 6) K107.hints Tryz.func137 rfl (by kernel_rfl) (fun b h => h) rfl rfl (by decide) (K107.eq K106 K108) (by decide)
def K115.sig : Sig U := ⟨[.ptr], [.obj .t_seq_Match], 0, [], true, []⟩
abbrev K115.T : Type := (seq_Match) → Option (Unit × (seq_Match × Unit) × Unit)
def K115.W (f : K115.T) : K115.sig.F := fun a x => f x.1
def K115.H : Hints U := { Γ := noΓ, ro := 0, base := 14 }
def K115.gen : K115.T := fun h0 =>
 some ((), ((seq_Match.mk z2_ z2_ 0 false false, ()), ()))
def K115 : K115.T := K115.gen
theorem K115.eq : EqA K115.sig (K115.H) Tryz.f164 6 (K115.W (K115.gen)) := by intro a x; kernel_rfl
theorem K115.hints : HintsOK U Tryz.prog (K115.H) (fun c => c ∈ ([] : List Code)) := (hq Z4 Z1 (fun _ => rfl) (fun _ => rfl))
theorem K115.ok : Z3 U Tryz.prog 164 (K115.sig.native (K115.W K115)) :=
 Sig.ok K115.sig (K115.W (K115.gen)) U_pure (Hn := (K115.H)) (gos := 6) K115.hints Tryz.func164 rfl (by kernel_rfl) (fun b h => h) rfl rfl (by decide) (K115.eq) (by decide)
def K50.sig : Sig U := ⟨[.ptr], [.obj .t_delay_Exchange], 0, [], true, []⟩
abbrev K50.T : Type := (delay_Exchange) → Option (Unit × (delay_Exchange × Unit) × Unit)
def K50.W (f : K50.T) : K50.sig.F := fun a x => f x.1
def K50.H : Hints U := { Γ := noΓ, ro := 0, base := 14 }
def K50.gen : K50.T := fun h0 =>
 some ((), ((delay_Exchange.set_fr h0 (delay_request.mk 0 0 false false), ()), ()))
def K50 : K50.T := K50.gen
theorem K50.eq : EqA K50.sig (K50.H) Tryz.f165 6 (K50.W (K50.gen)) := by intro a x; kernel_rfl
theorem K50.hints : HintsOK U Tryz.prog (K50.H) (fun c => c ∈ ([] : List Code)) := (hq Z4 Z1 (fun _ => rfl) (fun _ => rfl))
theorem K50.ok : Z3 U Tryz.prog 165 (K50.sig.native (K50.W K50)) :=
 Sig.ok K50.sig (K50.W (K50.gen)) U_pure (Hn := (K50.H)) (gos := 6) K50.hints Tryz.func165 rfl (by kernel_rfl) (fun b h => h) rfl rfl (by decide) (K50.eq) (by decide)
def K33.sig : Sig U := ⟨[.ptr, .bool], [.obj .t_clock_side, fm7_, fm10_], 0, [], true, []⟩
abbrev K33.T : Type := (Bool) → (clock_side) → (Fm delay_Exchange) → (Fm seq_Match) → Option (Unit × (clock_side × (Fm delay_Exchange) × (Fm seq_Match) × Unit) × Unit)
def K33.W (f : K33.T) : K33.sig.F := fun a x => f a.2.1 x.1 x.2.1 x.2.2.1
def K33.C : Code := match Tryz.f97.body with | some c => c | none => .skip
def K33.B0 : Code := match (Z5 K33.C).getD 0 .skip with | .loop b => b | .scope b => b | _ => .skip
def K33.JR2 : Exits U := [(.normal, ⟨44, 14, [(0, .ptr 13 0 0), (1, vb_)], (13, .obj .t_clock_side) :: hT7_⟩)]
def K33.JR1 : Exits U := [(.normal, ⟨44, 14, [(0, .ptr 13 0 0), (1, vb_)], (13, .obj .t_clock_side) :: hT7_⟩)]
def K33.JR0 : Exits U := [(.normal, ⟨44, 14, [(0, .ptr 13 0 0), (1, vb_)], (13, .obj .t_clock_side) :: hT7_⟩)]
def K33.U0 (cK115 : K115.T) (cK50 : K50.T) (cK127 : K127.T) : Hints U := { Γ := (addΓ 166 (K127.sig.native (K127.W cK127)) (addΓ 165 (K50.sig.native (K50.W cK50)) (addΓ 164 (K115.sig.native (K115.W cK115)) noΓ))), ro := 0, base := 14, joinR := fun b => (bif Nat.beq b 0 then some K33.JR0 else (bif Nat.beq b 1 then some K33.JR1 else (bif Nat.beq b 2 then some K33.JR2 else none))), loop := fun b => none }
def K33.H (cK115 : K115.T) (cK50 : K50.T) (cK127 : K127.T) : Hints U := { Γ := (addΓ 166 (K127.sig.native (K127.W cK127)) (addΓ 165 (K50.sig.native (K50.W cK50)) (addΓ 164 (K115.sig.native (K115.W cK115)) noΓ))), ro := 0, base := 14, joinR := fun b => (bif Nat.beq b 0 then some K33.JR0 else (bif Nat.beq b 1 then some K33.JR1 else (bif Nat.beq b 2 then some K33.JR2 else none))), loop := fun b => (bif Nat.beq b 4 then some (Z1S Tryz.prog (K33.U0 cK115 cK50 cK127) 6 K33.B0 6) else none) }
def K33.gen (cK115 : K115.T) (cK50 : K50.T) (cK127 : K127.T) : K33.T := fun ask h0 g7 g10 =>
 (oelim ((oelim (h0.12) none fun r0 => (oelim (cK115 (g10.2 r0)) none fun r1 => some ((ask, ()), (h0, (g7, ((g10.1, fset g10.2 r0 r1.2.1.1), ()))))))) none fun r2 => (oelim ((oelim (r2.2.1.13) none fun r3 => (oelim (cK50 (r2.2.2.1.2 r3)) none fun r4 => some (r2.1, (r2.2.1, ((r2.2.2.1.1, fset r2.2.2.1.2 r3 r4.2.1.1), r2.2.2.2)))))) none fun r5 => (oelim (cK127 r5.2.1.freceipt) none fun r6 => (oelim (cK127 r5.2.1.fqualify) none fun r7 => (oelim (cK127 r5.2.1.fannounce) none fun r8 => (oelim (cK127 r5.2.1.fsync) none fun r9 => (bif r5.1.1 then (oelim (cK127 r5.2.1.fask) none fun r10 => some ((), ((clock_side.set_fdiff (clock_side.set_fask (clock_side.set_fsync (clock_side.set_fannounce (clock_side.set_fqualify (clock_side.set_freceipt r5.2.1 r6.2.1.1) r7.2.1.1) r8.2.1.1) r9.2.1.1) r10.2.1.1) z5_, r5.2.2), ()))) else some ((), ((clock_side.set_fdiff (clock_side.set_fsync (clock_side.set_fannounce (clock_side.set_fqualify (clock_side.set_freceipt r5.2.1 r6.2.1.1) r7.2.1.1) r8.2.1.1) r9.2.1.1) z5_, r5.2.2), ())))))))))
def K33 : K33.T := K33.gen K115 K50 K127
theorem K33.inner0 : Z5 K33.B0 = [] := by kernel_rfl
abbrev K33.h := K33.H K115 K50 K127
theorem K33.lok0 : Ze U Tryz.prog K33.h.ro K33.h.base K33.B0 (Z1S Tryz.prog (K33.U0 K115 K50 K127) 6 K33.B0 6) :=
 Z2x (Hn := (K33.U0 K115 K50 K127)) (L := fun c => c ∈ ([] : List Code)) (hq (Z0 (Z0 (Z0 Z4 K115.ok) K50.ok) K127.ok) Z1 (fun _ => rfl) (fun _ => rfl)) (fun b h => by rw [K33.inner0] at h; exact h) 6
theorem K33.eq (cK115 : K115.T) (cK50 : K50.T) (cK127 : K127.T) : EqA K33.sig (K33.H cK115 cK50 cK127) Tryz.f97 6 (K33.W (K33.gen cK115 cK50 cK127)) := by intro a x; kernel_rfl
theorem K33.loops : Z5 K33.C = [(.loop K33.B0)] := by kernel_rfl
theorem K33.hints : HintsOK U Tryz.prog K33.h (fun c => c ∈ [(.loop K33.B0)]) := (hq (Z0 (Z0 (Z0 Z4 K115.ok) K50.ok) K127.ok) (Zb (by kernel_rfl) K33.lok0 Z1) (fun _ => rfl) (fun _ => rfl))
theorem K33.ok : Z3 U Tryz.prog 97 (K33.sig.native (K33.W K33)) :=
 Sig.ok K33.sig (K33.W K33) U_pure (Hn := K33.h) (code := K33.C) (gos := 6) K33.hints Tryz.func97 (by kernel_rfl) (by kernel_rfl) (fun b h => by rw [K33.loops] at h; exact h) rfl rfl (by decide) (K33.eq K115 K50 K127) (by decide)
def K12.sig : Sig U := ⟨[.ptr, .eptr 0 23 42 8, .data .t_api_Parent], [.obj .t_clock_Clock], 0, [], true, []⟩
abbrev K12.T : Type := (Nat) → (api_Parent) → (clock_Clock) → Option (Unit × (clock_Clock × Unit) × Unit)
def K12.W (f : K12.T) : K12.sig.F := fun a x => f a.2.1 a.2.2.1 x.1
def K12.JR8 : Exits U := [(.normal, ⟨48, 14, [], [(13, .obj .t_clock_Clock)]⟩)]
def K12.JR7 : Exits U := [(.normal, ⟨48, 14, [], [(13, .obj .t_clock_Clock)]⟩)]
def K12.JC10 : Exits U := [(.normal, ⟨48, 14, [(0, .ptr 13 0 0), (1, .aptr 13 23 42 8 0)], [(13, .obj .t_clock_Clock)]⟩)]
def K12.JC6 : Exits U := [(.normal, ⟨48, 14, [(0, .ptr 13 0 0), (1, .aptr 13 23 42 8 0), (16, vb_)], [(13, .obj .t_clock_Clock)]⟩)]
def K12.H (cK16 : K16.T) (cK10 : K10.T) (cK126 : K126.T) (cK24 : K24.T) : Hints U := { Γ := (addΓ 127 (K24.sig.native (K24.W cK24)) (addΓ 126 (K126.sig.native (K126.W cK126)) (addΓ 70 (K10.sig.native (K10.W cK10)) (addΓ 131 (K16.sig.native (K16.W cK16)) noΓ)))), ro := 0, base := 14, joinR := fun b => (bif Nat.beq b 7 then some K12.JR7 else (bif Nat.beq b 8 then some K12.JR8 else none)), joinC := fun b => (bif Nat.beq b 6 then some K12.JC6 else (bif Nat.beq b 10 then some K12.JC10 else none)) }
def K12.gen (cK16 : K16.T) (cK10 : K10.T) (cK126 : K126.T) (cK24 : K24.T) : K12.T := fun p parent h0 =>
 (bif ieq (h0.fports p).fstate 6 then (oelim ((oelim (cK16 p h0) none fun r0 => some ((), r0.2.1))) none fun r1 => some ((), (r1.2, ()))) else (bif ieq (h0.fports p).fstate 5 then (oelim ((oelim (cK10 h0) none fun r2 => (oelim (cK126 (imul .i64 (iadd .i64 parent.fSteps 1) r2.1.1) (h0.fports p).fqualify) none fun r3 => some ((), (clock_Clock.set_fports h0 (fset h0.fports p (clock_side.set_fqualify (h0.fports p) r3.2.1.1)), ()))))) none fun r4 => some ((), (r4.2, ()))) else (bif ieq (h0.fports p).fstate 8 then (oelim ((bif !h0.fconf.fPeer then (oelim (cK126 1 (h0.fports p).fask) none fun r5 => some ((p, ()), (clock_Clock.set_fports h0 (fset h0.fports p (clock_side.set_fask (h0.fports p) r5.2.1.1)), ()))) else some ((p, ()), (h0, ())))) none fun r6 => (oelim (cK24 r6.2.1) none fun r7 => (oelim (cK126 r7.1.1 (r6.2.1.fports r6.1.1).freceipt) none fun r8 => some ((), ((clock_Clock.set_fports r6.2.1 (fset r6.2.1.fports r6.1.1 (clock_side.set_freceipt (r6.2.1.fports r6.1.1) r8.2.1.1)), ()), ()))))) else (oelim ((bif ieq (h0.fports p).fstate 7 then some ((p, (ieq (h0.fports p).fstate 7, ())), (h0, ())) else some ((p, (ieq (h0.fports p).fstate 4, ())), (h0, ())))) none fun r9 => (bif r9.1.2.1 then (oelim (cK24 r9.2.1) none fun r10 => (oelim (cK126 r10.1.1 (r9.2.1.fports r9.1.1).freceipt) none fun r11 => some ((), ((clock_Clock.set_fports r9.2.1 (fset r9.2.1.fports r9.1.1 (clock_side.set_freceipt (r9.2.1.fports r9.1.1) r11.2.1.1)), ()), ())))) else some ((), (r9.2, ())))))))
def K12 : K12.T := K12.gen K16 K10 K126 K24
theorem K12.eq (cK16 : K16.T) (cK10 : K10.T) (cK126 : K126.T) (cK24 : K24.T) : EqA K12.sig (K12.H cK16 cK10 cK126 cK24) Tryz.f138 6 (K12.W (K12.gen cK16 cK10 cK126 cK24)) := by intro a x; kernel_rfl
abbrev K12.h := K12.H K16 K10 K126 K24
theorem K12.hints : HintsOK U Tryz.prog K12.h (fun c => c ∈ ([] : List Code)) := (hq (Z0 (Z0 (Z0 (Z0 Z4 K16.ok) K10.ok) K126.ok) K24.ok) Z1 (fun _ => rfl) (fun _ => rfl))
theorem K12.ok : Z3 U Tryz.prog 138 (K12.sig.native (K12.W K12)) :=
 Sig.ok K12.sig (K12.W K12) U_pure (Hn := K12.h) (gos := 6) K12.hints Tryz.func138 rfl (by kernel_rfl) (fun b h => h) rfl rfl (by decide) (K12.eq K16 K10 K126 K24) (by decide)
def K82.sig : Sig U := ⟨[.ptr], [.obj .t_median_Filter], 0, [], true, []⟩
abbrev K82.T : Type := (median_Filter) → Option (Unit × (median_Filter × Unit) × Unit)
def K82.W (f : K82.T) : K82.sig.F := fun a x => f x.1
def K82.H : Hints U := { Γ := noΓ, ro := 0, base := 14 }
def K82.gen : K82.T := fun h0 =>
 some ((), ((median_Filter.set_fn h0 0, ()), ()))
def K82 : K82.T := K82.gen
theorem K82.eq : EqA K82.sig (K82.H) Tryz.f139 6 (K82.W (K82.gen)) := by intro a x; kernel_rfl
theorem K82.hints : HintsOK U Tryz.prog (K82.H) (fun c => c ∈ ([] : List Code)) := (hq Z4 Z1 (fun _ => rfl) (fun _ => rfl))
theorem K82.ok : Z3 U Tryz.prog 139 (K82.sig.native (K82.W K82)) :=
 Sig.ok K82.sig (K82.W (K82.gen)) U_pure (Hn := (K82.H)) (gos := 6) K82.hints Tryz.func139 rfl (by kernel_rfl) (fun b h => h) rfl rfl (by decide) (K82.eq) (by decide)
def K15.sig : Sig U := ⟨[.ptr], [.obj .t_clock_Clock, fm6_, fm7_, fm9_, fm10_], 0, [], true, []⟩
abbrev K15.T : Type := (clock_Clock) → (Fm foreign_Table) → (Fm delay_Exchange) → (Fm median_Filter) → (Fm seq_Match) → Option (Unit × (clock_Clock × qT2_) × Unit)
def K15.W (f : K15.T) : K15.sig.F := fun a x => f x.1 x.2.1 x.2.2.1 x.2.2.2.1 x.2.2.2.2.1
def K15.L0 : Shape U := ⟨200, 17, [(0, .ptr 13 0 0), (2, .ptr 14 0 0), (3, .ptr 15 0 0), (4, .ptr 16 0 0), (5, .asl 13 23 42 8), (30, vi_), (31, vi_)], (13, .obj .t_clock_Clock) :: (14, .famZ .t_foreign_Record) :: (15, .famN true .p_t_api_Vector) :: (16, .famN true .bool) :: hT2_⟩
def K15.X0 : Exits U := [(.exit 0, ⟨200, 17, [(0, .ptr 13 0 0), (2, .ptr 14 0 0), (3, .ptr 15 0 0), (4, .ptr 16 0 0), (5, .asl 13 23 42 8)], (13, .obj .t_clock_Clock) :: (14, .famZ .t_foreign_Record) :: (15, .famN true .p_t_api_Vector) :: (16, .famN true .bool) :: hT2_⟩)]
abbrev K15.l0T : Type := (((Nat × Nat) × Int × Int × Unit) × (clock_Clock × (Nat × Nat × (Nat → foreign_Record)) × (Nat × (Nat → Option (api_Vector))) × qT5_)) → Option ((((Nat × Nat) × Unit) × (clock_Clock × (Nat × Nat × (Nat → foreign_Record)) × (Nat × (Nat → Option (api_Vector))) × qT5_)))
def K15.L1 : Shape U := ⟨200, 16, [(0, .ptr 13 0 0), (2, .ptr 14 0 0), (5, .asl 13 23 42 8), (10, .val (.isl .int)), (12, .ptr 15 0 0), (92, .val (.isl .int)), (93, vi_), (94, vi_)], (13, .obj .t_clock_Clock) :: (14, .famZ .t_foreign_Record) :: (15, .obj .t_api_Parent) :: hT2_⟩
def K15.X1 : Exits U := [(.exit 2, ⟨200, 15, [(0, .ptr 13 0 0), (5, .asl 13 23 42 8), (10, .val (.isl .int)), (12, .ptr 14 0 0)], (13, .obj .t_clock_Clock) :: (14, .obj .t_api_Parent) :: hT2_⟩)]
abbrev K15.l1T : Type := (((Nat × Nat) × (List (Int)) × (List (Int)) × Int × Int × Unit) × (clock_Clock × (Nat × Nat × (Nat → foreign_Record)) × api_Parent × qT2_)) → Option ((((Nat × Nat) × (List (Int)) × Unit) × (clock_Clock × api_Parent × qT2_)))
def K15.L2 : Shape U := ⟨200, 15, [(0, .ptr 13 0 0), (5, .asl 13 23 42 8), (12, .ptr 14 0 0), (15, vb_), (119, .val (.isl .int)), (120, vi_), (121, vi_)], (13, .obj .t_clock_Clock) :: (14, .obj .t_api_Parent) :: hT2_⟩
def K15.X2 : Exits U := [(.exit 4, ⟨200, 15, [(0, .ptr 13 0 0), (12, .ptr 14 0 0), (15, vb_)], (13, .obj .t_clock_Clock) :: (14, .obj .t_api_Parent) :: hT2_⟩)]
abbrev K15.l2T : Type := (((Nat × Nat) × Bool × (List (Int)) × Int × Int × Unit) × (clock_Clock × api_Parent × qT2_)) → Option (((Bool × Unit) × (clock_Clock × api_Parent × qT2_)))
def K15.C : Code := match Tryz.f71.body with | some c => c | none => .skip
def K15.B0 : Code := match (Z5 K15.C).getD 0 .skip with | .loop b => b | .scope b => b | _ => .skip
def K15.B1 : Code := match (Z5 K15.C).getD 1 .skip with | .loop b => b | .scope b => b | _ => .skip
def K15.B2 : Code := match (Z5 K15.C).getD 2 .skip with | .loop b => b | .scope b => b | _ => .skip
def K15.JR35 : Exits U := [(.normal, ⟨200, 15, [(0, .ptr 13 0 0), (12, .ptr 14 0 0)], (13, .obj .t_clock_Clock) :: (14, .obj .t_api_Parent) :: hT2_⟩)]
def K15.JR31 : Exits U := [(.normal, ⟨200, 15, [(0, .ptr 13 0 0), (5, .asl 13 23 42 8), (12, .ptr 14 0 0), (15, vb_), (18, .aptr 13 23 42 8 0), (119, .val (.isl .int)), (120, vi_), (121, vi_)], (13, .obj .t_clock_Clock) :: (14, .obj .t_api_Parent) :: hT2_⟩)]
def K15.JR29 : Exits U := [(.normal, ⟨200, 15, [(0, .ptr 13 0 0), (5, .asl 13 23 42 8), (12, .ptr 14 0 0), (15, vb_), (17, vi_), (18, .aptr 13 23 42 8 0), (19, vi_), (119, .val (.isl .int)), (120, vi_), (121, vi_)], (13, .obj .t_clock_Clock) :: (14, .obj .t_api_Parent) :: hT2_⟩)]
def K15.JR15 : Exits U := [(.normal, ⟨200, 16, [(0, .ptr 13 0 0), (2, .ptr 14 0 0), (5, .asl 13 23 42 8), (10, .val (.isl .int)), (12, .ptr 15 0 0)], (13, .obj .t_clock_Clock) :: (14, .famZ .t_foreign_Record) :: (15, .obj .t_api_Parent) :: hT2_⟩)]
def K15.JR10 : Exits U := [(.normal, ⟨200, 17, [(0, .ptr 13 0 0), (2, .ptr 14 0 0), (3, .ptr 15 0 0), (4, .ptr 16 0 0), (5, .asl 13 23 42 8), (6, vi_), (9, vb_), (30, vi_), (31, vi_)], (13, .obj .t_clock_Clock) :: (14, .famZ .t_foreign_Record) :: (15, .famN true .p_t_api_Vector) :: (16, .famN true .bool) :: hT2_⟩)]
def K15.JR9 : Exits U := [(.normal, ⟨200, 18, [(0, .ptr 13 0 0), (2, .ptr 14 0 0), (3, .ptr 15 0 0), (4, .ptr 16 0 0), (5, .asl 13 23 42 8), (6, vi_), (7, .aptr 13 23 42 8 0), (8, .ptr 17 0 0), (9, vb_), (30, vi_), (31, vi_)], (13, .obj .t_clock_Clock) :: (14, .famZ .t_foreign_Record) :: (15, .famN true .p_t_api_Vector) :: (16, .famN true .bool) :: (17, .obj .t_foreign_Record) :: hT2_⟩)]
def K15.JC35 : Exits U := [(.normal, ⟨200, 15, [(0, .ptr 13 0 0), (12, .ptr 14 0 0)], (13, .obj .t_clock_Clock) :: (14, .obj .t_api_Parent) :: hT2_⟩)]
def K15.JC31 : Exits U := [(.normal, ⟨200, 15, [(0, .ptr 13 0 0), (5, .asl 13 23 42 8), (12, .ptr 14 0 0), (15, vb_), (119, .val (.isl .int)), (120, vi_), (121, vi_)], (13, .obj .t_clock_Clock) :: (14, .obj .t_api_Parent) :: hT2_⟩)]
def K15.JC20 : Exits U := [(.normal, ⟨200, 16, [(0, .ptr 13 0 0), (2, .ptr 14 0 0), (5, .asl 13 23 42 8), (10, .val (.isl .int)), (12, .ptr 15 0 0), (92, .val (.isl .int)), (93, vi_), (94, vi_)], (13, .obj .t_clock_Clock) :: (14, .famZ .t_foreign_Record) :: (15, .obj .t_api_Parent) :: hT2_⟩)]
def K15.JC12 : Exits U := [(.normal, ⟨200, 17, [(0, .ptr 13 0 0), (2, .ptr 14 0 0), (3, .ptr 15 0 0), (4, .ptr 16 0 0), (5, .asl 13 23 42 8), (30, vi_), (31, vi_)], (13, .obj .t_clock_Clock) :: (14, .famZ .t_foreign_Record) :: (15, .famN true .p_t_api_Vector) :: (16, .famN true .bool) :: hT2_⟩)]
def K15.H (cK106 : K106.T) (cK55 : K55.T) (cK43 : K43.T) (cK47 : K47.T) (cK141 : K141.T) (cK140 : K140.T) (cK107 : K107.T) (cK33 : K33.T) (cK12 : K12.T) (cK82 : K82.T) (l0 : K15.l0T) (l1 : K15.l1T) (l2 : K15.l2T) : Hints U := { Γ := (addΓ 139 (K82.sig.native (K82.W cK82)) (addΓ 138 (K12.sig.native (K12.W cK12)) (addΓ 97 (K33.sig.native (K33.W cK33)) (addΓ 137 (K107.sig.native (K107.W cK107)) (addΓ 136 (K140.sig.native (K140.W cK140)) (addΓ 88 (K141.sig.native (K141.W cK141)) (addΓ 134 (K47.sig.native (K47.W cK47)) (addΓ 135 (K43.sig.native (K43.W cK43)) (addΓ 133 (K55.sig.native (K55.W cK55)) (addΓ 74 (K106.sig.native (K106.W cK106)) (addΓ 3000000228 Z1x (addΓ 3000000227 Z1x (addΓ 4000000213 Z1x noΓ))))))))))))), ro := 0, base := 14, joinQ := fun b => (bif Nat.beq b 30 then some [(171, vb_)] else none), joinR := fun b => (bif Nat.beq b 9 then some K15.JR9 else (bif Nat.beq b 10 then some K15.JR10 else (bif Nat.beq b 15 then some K15.JR15 else (bif Nat.beq b 29 then some K15.JR29 else (bif Nat.beq b 31 then some K15.JR31 else (bif Nat.beq b 35 then some K15.JR35 else none)))))), joinC := fun b => (bif Nat.beq b 12 then some K15.JC12 else (bif Nat.beq b 20 then some K15.JC20 else (bif Nat.beq b 31 then some K15.JC31 else (bif Nat.beq b 35 then some K15.JC35 else none)))), loop := fun b => (bif Nat.beq b 5 then some (Zc (0, 14) K15.L0 K15.X0 l0) else (bif Nat.beq b 17 then some (Zc (0, 14) K15.L1 K15.X1 l1) else (bif Nat.beq b 24 then some (Zc (0, 14) K15.L2 K15.X2 l2) else none))) }
def K15.step2 (cK106 : K106.T) (cK55 : K55.T) (cK43 : K43.T) (cK47 : K47.T) (cK141 : K141.T) (cK140 : K140.T) (cK107 : K107.T) (cK33 : K33.T) (cK12 : K12.T) (cK82 : K82.T) (a : ((Nat × Nat) × Bool × (List (Int)) × Int × Int × Unit) × (clock_Clock × api_Parent × qT2_)) : Option ((((Nat × Nat) × Bool × (List (Int)) × Int × Int × Unit) × (clock_Clock × api_Parent × qT2_)) ⊕ (((Bool × Unit) × (clock_Clock × api_Parent × qT2_)))) :=
 (bif ilt a.1.2.2.2.2.1 a.1.2.2.2.1 then (bif inR a.1.2.2.2.2.1 (List.length a.1.2.2.1) then (bif inR a.1.2.2.2.2.1 a.1.1.2 then (oelim (cK106 (a.2.1.fports (a.1.1.1 + Int.toNat a.1.2.2.2.2.1)).fstate) none fun r0 => (bif !r0.1.1 then some (.inl ((a.1.1, (a.1.2.1, (a.1.2.2.1, (a.1.2.2.2.1, (iadd .i64 a.1.2.2.2.2.1 1, ()))))), a.2)) else (oelim ((oelim (cK107 (a.2.1.fports (a.1.1.1 + Int.toNat a.1.2.2.2.2.1)).fstate (List.getD a.1.2.2.1 (Int.toNat a.1.2.2.2.2.1) (0 : D UC.int)) a.1.2.1 a.2.1.fconf.fSlaveOnly) none fun r1 => some ((a.1.1, (a.1.2.1, (List.getD a.1.2.2.1 (Int.toNat a.1.2.2.2.2.1) (0 : D UC.int), (a.1.1.1 + Int.toNat a.1.2.2.2.2.1, ((a.2.1.fports (a.1.1.1 + Int.toNat a.1.2.2.2.2.1)).fstate, a.1.2.2))))), (clock_Clock.set_fports a.2.1 (fset a.2.1.fports (a.1.1.1 + Int.toNat a.1.2.2.2.2.1) (clock_side.set_fstate (a.2.1.fports (a.1.1.1 + Int.toNat a.1.2.2.2.2.1)) r1.1.1)), a.2.2)))) none fun r2 => (oelim ((bif ine (r2.2.1.fports r2.1.2.2.2.1).fstate r2.1.2.2.2.2.1 then some (true, ()) else (bif ieq (r2.2.1.fports r2.1.2.2.2.1).fstate 8 then (bif ieq r2.1.2.2.1 6 then some (!r2.1.2.1, ()) else some (false, ())) else some (false, ())))) none fun r3 => (oelim ((bif r3.1 then (oelim ((oelim (cK33 (!r2.2.1.fconf.fPeer) (r2.2.1.fports r2.1.2.2.2.1) r2.2.2.2.2.1 r2.2.2.2.2.2.2.1) none fun r4 => some ((r2.1.1, (r2.1.2.1, (r2.1.2.2.2.1, r2.1.2.2.2.2.2))), (clock_Clock.set_fports r2.2.1 (fset r2.2.1.fports r2.1.2.2.2.1 r4.2.1.1), (r2.2.2.1, (r2.2.2.2.1, (r4.2.1.2.1, (r2.2.2.2.2.2.1, r4.2.1.2.2)))))))) none fun r5 => (oelim (cK12 r5.1.2.2.1 r5.2.2.1 r5.2.1) none fun r6 => some ((r5.1.1, (r5.1.2.1, r5.1.2.2.2)), (r6.2.1.1, r5.2.2)))) else some ((r2.1.1, (r2.1.2.1, r2.1.2.2.2.2.2)), r2.2))) none fun r7 => some (.inl ((r7.1.1, (r7.1.2.1, (r7.1.2.2.1, (r7.1.2.2.2.1, (iadd .i64 r7.1.2.2.2.2.1 1, ()))))), r7.2))))))) else none) else none) else some (.inr ((a.1.2.1, ()), a.2)))
def K15.F2 : K15.l2T := fun a => Za (1000000 + (a.1.1.2 + a.1.2.2.1.length)) (K15.step2 K106 K55 K43 K47 K141 K140 K107 K33 K12 K82) a
def K15.step1 (cK106 : K106.T) (cK55 : K55.T) (cK43 : K43.T) (cK47 : K47.T) (cK141 : K141.T) (cK140 : K140.T) (cK107 : K107.T) (cK33 : K33.T) (cK12 : K12.T) (cK82 : K82.T) (a : ((Nat × Nat) × (List (Int)) × (List (Int)) × Int × Int × Unit) × (clock_Clock × (Nat × Nat × (Nat → foreign_Record)) × api_Parent × qT2_)) : Option ((((Nat × Nat) × (List (Int)) × (List (Int)) × Int × Int × Unit) × (clock_Clock × (Nat × Nat × (Nat → foreign_Record)) × api_Parent × qT2_)) ⊕ ((((Nat × Nat) × (List (Int)) × Unit) × (clock_Clock × api_Parent × qT2_)))) :=
 (bif ilt a.1.2.2.2.2.1 a.1.2.2.2.1 then (bif inR a.1.2.2.2.2.1 (List.length a.1.2.2.1) then (oelim ((bif ieq (List.getD a.1.2.2.1 (Int.toNat a.1.2.2.2.2.1) (0 : D UC.int)) 6 then (bif bif inR a.1.2.2.2.2.1 8 then inR a.1.2.2.2.2.1 a.2.2.1.1 else false then (bif bif inR a.1.2.2.2.2.1 8 then inR a.1.2.2.2.2.1 a.2.2.1.1 else false then (oelim (cK140 (a.2.2.1.2.2 (Int.toNat a.1.2.2.2.2.1)).fVector (a.2.2.1.2.2 (Int.toNat a.1.2.2.2.2.1)).fTimes) none fun r0 => some (a.1, (a.2.1, (a.2.2.1, (r0.1.1, a.2.2.2.2))))) else none) else none) else some a)) none fun r1 => some (.inl ((r1.1.1, (r1.1.2.1, (r1.1.2.2.1, (r1.1.2.2.2.1, (iadd .i64 r1.1.2.2.2.2.1 1, ()))))), r1.2))) else none) else some (.inr ((a.1.1, (a.1.2.1, ())), (a.2.1, a.2.2.2))))
def K15.F1 : K15.l1T := fun a => Za (1000000 + (a.1.1.2 + a.1.2.1.length + a.1.2.2.1.length)) (K15.step1 K106 K55 K43 K47 K141 K140 K107 K33 K12 K82) a
def K15.step0 (cK106 : K106.T) (cK55 : K55.T) (cK43 : K43.T) (cK47 : K47.T) (cK141 : K141.T) (cK140 : K140.T) (cK107 : K107.T) (cK33 : K33.T) (cK12 : K12.T) (cK82 : K82.T) (a : ((Nat × Nat) × Int × Int × Unit) × (clock_Clock × (Nat × Nat × (Nat → foreign_Record)) × (Nat × (Nat → Option (api_Vector))) × qT5_)) : Option ((((Nat × Nat) × Int × Int × Unit) × (clock_Clock × (Nat × Nat × (Nat → foreign_Record)) × (Nat × (Nat → Option (api_Vector))) × qT5_)) ⊕ ((((Nat × Nat) × Unit) × (clock_Clock × (Nat × Nat × (Nat → foreign_Record)) × (Nat × (Nat → Option (api_Vector))) × qT5_)))) :=
 (bif ilt a.1.2.2.1 a.1.2.1 then (bif inR a.1.2.2.1 a.1.1.2 then (oelim (cK106 (a.2.1.fports (a.1.1.1 + Int.toNat a.1.2.2.1)).fstate) none fun r0 => (bif !r0.1.1 then some (.inl ((a.1.1, (a.1.2.1, (iadd .i64 a.1.2.2.1 1, ()))), a.2)) else (oelim ((oelim ((a.2.1.fports (a.1.1.1 + Int.toNat a.1.2.2.1)).2) none fun r1 => (oelim (cK55 a.2.1.fticks (a.2.2.2.2.2.1.2 r1)) none fun r2 => some ((a.1.1, (a.1.2.2.1, (a.1.1.1 + Int.toNat a.1.2.2.1, (r2.1.2.1, a.1.2)))), (a.2.1, (a.2.2.1, (a.2.2.2.1, (a.2.2.2.2.1, (r2.1.1, a.2.2.2.2.2))))))))) none fun r3 => (oelim ((bif bif inR r3.1.2.1 8 then inR r3.1.2.1 r3.2.2.1.1 else false then (bif Nat.ble r3.2.2.1.2.1 (Int.toNat r3.1.2.1) then (bif bif inR r3.1.2.1 8 then inR r3.1.2.1 r3.2.2.2.2.1.1 else false then some ((r3.1.1, (r3.1.2.1, r3.1.2.2.2)), (r3.2.1, ((r3.2.2.1.1, (r3.2.2.1.2.1, fset r3.2.2.1.2.2 (Int.toNat r3.1.2.1) r3.2.2.2.2.2.1)), (r3.2.2.2.1, ((r3.2.2.2.2.1.1, fset r3.2.2.2.2.1.2 (Int.toNat r3.1.2.1) (ieq (r3.2.1.fports r3.1.2.2.1).fstate 4)), r3.2.2.2.2.2.2))))) else none) else none) else none)) none fun r4 => (oelim ((bif r4.1.2.2.1 then (bif bif inR r4.1.2.1 8 then inR r4.1.2.1 r4.2.2.1.1 else false then (bif bif inR r4.1.2.1 8 then inR r4.1.2.1 r4.2.2.2.1.1 else false then some ((r4.1.1, r4.1.2.2.2), (r4.2.1, ((r4.2.2.1.1, (Nat.max r4.2.2.1.2.1 (Int.toNat r4.1.2.1 + 1), r4.2.2.1.2.2)), ((r4.2.2.2.1.1, fset r4.2.2.2.1.2 (Int.toNat r4.1.2.1) (some (r4.2.2.1.2.2 (Int.toNat r4.1.2.1)).fVector)), r4.2.2.2.2)))) else none) else none) else some ((r4.1.1, r4.1.2.2.2), r4.2))) none fun r5 => some (.inl ((r5.1.1, (r5.1.2.1, (iadd .i64 r5.1.2.2.1 1, ()))), r5.2))))))) else none) else some (.inr ((a.1.1, ()), a.2)))
def K15.F0 : K15.l0T := fun a => Za (1000000 + (a.1.1.2)) (K15.step0 K106 K55 K43 K47 K141 K140 K107 K33 K12 K82) a
def K15.gen (cK106 : K106.T) (cK55 : K55.T) (cK43 : K43.T) (cK47 : K47.T) (cK141 : K141.T) (cK140 : K140.T) (cK107 : K107.T) (cK33 : K33.T) (cK12 : K12.T) (cK82 : K82.T) (l0 : K15.l0T) (l1 : K15.l1T) (l2 : K15.l2T) : K15.T := fun h0 g6 g7 g9 g10 =>
 (bif le3 (ofN 0) h0.fconf.fPorts 8 then (oelim (l0 (((Int.toNat (ofN 0), Int.toNat h0.fconf.fPorts - Int.toNat (ofN 0)), ofN (Int.toNat h0.fconf.fPorts - Int.toNat (ofN 0)), (0 : Int), ()), h0, (8, 0, fun (j : Nat) => List.getD (foreign_Record.mk z6_ z4_ 0 0 0 :: foreign_Record.mk z6_ z4_ 0 0 0 :: foreign_Record.mk z6_ z4_ 0 0 0 :: foreign_Record.mk z6_ z4_ 0 0 0 :: foreign_Record.mk z6_ z4_ 0 0 0 :: foreign_Record.mk z6_ z4_ 0 0 0 :: foreign_Record.mk z6_ z4_ 0 0 0 :: foreign_Record.mk z6_ z4_ 0 0 0 :: lnil foreign_Record) j foreign_Record.zero), (8, fun (j : Nat) => List.getD (none :: none :: none :: none :: none :: none :: none :: none :: lnil (Option api_Vector)) j none), (8, fun (j : Nat) => List.getD (false :: false :: false :: false :: false :: false :: false :: false :: lnil Bool) j false), g6, g7, g9, g10, ())) none fun r0 => (oelim (cK43 r0.2.1.fconf) none fun r1 => (bif bif le3 0 (ofN r0.1.1.2) 8 then le3 0 (ofN r0.1.1.2) r0.2.2.2.2.1.1 else false then (bif bif le3 0 (ofN r0.1.1.2) 8 then le3 0 (ofN r0.1.1.2) r0.2.2.2.1.1 else false then (oelim (cK47 r1.1.1 (List.map r0.2.2.2.2.1.2 (List.range (Int.toNat (ofN r0.1.1.2)))) (List.map r0.2.2.2.1.2 (List.range (Int.toNat (ofN r0.1.1.2))))) none fun r2 => (oelim ((oelim (cK141 r0.2.1.fconf) none fun r3 => some ((r0.1.1, (r2.1.1, ())), (r0.2.1, (r0.2.2.1, (r3.1.1, r0.2.2.2.2.2)))))) none fun r4 => (oelim (l1 ((r4.1.1, r4.1.2.1, r4.1.2.1, ofN (List.length r4.1.2.1), (0 : Int), ()), r4.2)) none fun r5 => (oelim (l2 ((r5.1.1, bif ieq r5.2.2.1.fPort.fClock r5.2.1.fparent.fPort.fClock then bif ieq r5.2.2.1.fPort.fPort r5.2.1.fparent.fPort.fPort then true else false else false, r5.1.2.1, ofN (List.length r5.1.2.1), (0 : Int), ()), r5.2)) none fun r6 => (oelim ((bif !r6.1.1 then (oelim ((oelim (r6.2.1.6) none fun r7 => (oelim (cK82 (r6.2.2.2.2.2.1.2 r7)) none fun r8 => some ((), (r6.2.1, (r6.2.2.1, (r6.2.2.2.1, (r6.2.2.2.2.1, ((r6.2.2.2.2.2.1.1, fset r6.2.2.2.2.2.1.2 r7 r8.2.1.1), r6.2.2.2.2.2.2))))))))) none fun r9 => some ((), (clock_Clock.set_fdelay r9.2.1 z5_, r9.2.2))) else some ((), r6.2))) none fun r10 => some ((), ((clock_Clock.set_fparent r10.2.1 r10.2.2.1, r10.2.2.2), ()))))))) else none) else none))) else none)
def K15 : K15.T := K15.gen K106 K55 K43 K47 K141 K140 K107 K33 K12 K82 K15.F0 K15.F1 K15.F2
theorem K15.seq2 (cK106 : K106.T) (cK55 : K55.T) (cK43 : K43.T) (cK47 : K47.T) (cK141 : K141.T) (cK140 : K140.T) (cK107 : K107.T) (cK33 : K33.T) (cK12 : K12.T) (cK82 : K82.T) (l0 : K15.l0T) (l1 : K15.l1T) (l2 : K15.l2T) (a : K15.L2.T) : run Tryz.prog (K15.H cK106 cK55 cK43 cK47 cK141 cK140 cK107 cK33 cK12 cK82 l0 l1 l2) 6 (Option (K15.L2.T ⊕ ExT K15.X2)) none K15.B2 (K15.L2.enc a) (Zs (0, 14) K15.L2 K15.X2) = K15.step2 cK106 cK55 cK43 cK47 cK141 cK140 cK107 cK33 cK12 cK82 a := by kernel_rfl
theorem K15.inner2 : Z5 K15.B2 = ([] : List Code) := by kernel_rfl
abbrev K15.h := K15.H K106 K55 K43 K47 K141 K140 K107 K33 K12 K82 K15.F0 K15.F1 K15.F2
theorem K15.lok2 : Ze U Tryz.prog K15.h.ro K15.h.base K15.B2 (Zc (0, 14) K15.L2 K15.X2 K15.F2) :=
 Zh (Hn := K15.h) U_ok U_pure (Zl (hq (Z0 (Z0 (Z0 (Z0 (Z0 (Z0 (Z0 (Z0 (Z0 (Z0 (Z0 (Z0 (Z0 Z4 Zo) Zo) Zo) K106.ok) K55.ok) K43.ok) K47.ok) K141.ok) K140.ok) K107.ok) K33.ok) K12.ok) K82.ok) Z1 (fun _ => rfl) (fun _ => rfl)) 6) (fun b h => by rw [K15.inner2] at h; exact h) (fun _ => rfl) (K15.seq2 K106 K55 K43 K47 K141 K140 K107 K33 K12 K82 K15.F0 K15.F1 K15.F2)
theorem K15.seq1 (cK106 : K106.T) (cK55 : K55.T) (cK43 : K43.T) (cK47 : K47.T) (cK141 : K141.T) (cK140 : K140.T) (cK107 : K107.T) (cK33 : K33.T) (cK12 : K12.T) (cK82 : K82.T) (l0 : K15.l0T) (l1 : K15.l1T) (l2 : K15.l2T) (a : K15.L1.T) : run Tryz.prog (K15.H cK106 cK55 cK43 cK47 cK141 cK140 cK107 cK33 cK12 cK82 l0 l1 l2) 6 (Option (K15.L1.T ⊕ ExT K15.X1)) none K15.B1 (K15.L1.enc a) (Zs (0, 14) K15.L1 K15.X1) = K15.step1 cK106 cK55 cK43 cK47 cK141 cK140 cK107 cK33 cK12 cK82 a := by kernel_rfl
theorem K15.inner1 : Z5 K15.B1 = ([] : List Code) := by kernel_rfl
theorem K15.lok1 : Ze U Tryz.prog K15.h.ro K15.h.base K15.B1 (Zc (0, 14) K15.L1 K15.X1 K15.F1) :=
 Zh (Hn := K15.h) U_ok U_pure (Zl (hq (Z0 (Z0 (Z0 (Z0 (Z0 (Z0 (Z0 (Z0 (Z0 (Z0 (Z0 (Z0 (Z0 Z4 Zo) Zo) Zo) K106.ok) K55.ok) K43.ok) K47.ok) K141.ok) K140.ok) K107.ok) K33.ok) K12.ok) K82.ok) Z1 (fun _ => rfl) (fun _ => rfl)) 6) (fun b h => by rw [K15.inner1] at h; exact h) (fun _ => rfl) (K15.seq1 K106 K55 K43 K47 K141 K140 K107 K33 K12 K82 K15.F0 K15.F1 K15.F2)
theorem K15.seq0 (cK106 : K106.T) (cK55 : K55.T) (cK43 : K43.T) (cK47 : K47.T) (cK141 : K141.T) (cK140 : K140.T) (cK107 : K107.T) (cK33 : K33.T) (cK12 : K12.T) (cK82 : K82.T) (l0 : K15.l0T) (l1 : K15.l1T) (l2 : K15.l2T) (a : K15.L0.T) : run Tryz.prog (K15.H cK106 cK55 cK43 cK47 cK141 cK140 cK107 cK33 cK12 cK82 l0 l1 l2) 6 (Option (K15.L0.T ⊕ ExT K15.X0)) none K15.B0 (K15.L0.enc a) (Zs (0, 14) K15.L0 K15.X0) = K15.step0 cK106 cK55 cK43 cK47 cK141 cK140 cK107 cK33 cK12 cK82 a := by kernel_rfl
theorem K15.inner0 : Z5 K15.B0 = ([] : List Code) := by kernel_rfl
theorem K15.lok0 : Ze U Tryz.prog K15.h.ro K15.h.base K15.B0 (Zc (0, 14) K15.L0 K15.X0 K15.F0) :=
 Zh (Hn := K15.h) U_ok U_pure (Zl (hq (Z0 (Z0 (Z0 (Z0 (Z0 (Z0 (Z0 (Z0 (Z0 (Z0 (Z0 (Z0 (Z0 Z4 Zo) Zo) Zo) K106.ok) K55.ok) K43.ok) K47.ok) K141.ok) K140.ok) K107.ok) K33.ok) K12.ok) K82.ok) Z1 (fun _ => rfl) (fun _ => rfl)) 6) (fun b h => by rw [K15.inner0] at h; exact h) (fun _ => rfl) (K15.seq0 K106 K55 K43 K47 K141 K140 K107 K33 K12 K82 K15.F0 K15.F1 K15.F2)
theorem K15.eq (cK106 : K106.T) (cK55 : K55.T) (cK43 : K43.T) (cK47 : K47.T) (cK141 : K141.T) (cK140 : K140.T) (cK107 : K107.T) (cK33 : K33.T) (cK12 : K12.T) (cK82 : K82.T) (l0 : K15.l0T) (l1 : K15.l1T) (l2 : K15.l2T) : EqA K15.sig (K15.H cK106 cK55 cK43 cK47 cK141 cK140 cK107 cK33 cK12 cK82 l0 l1 l2) Tryz.f71 6 (K15.W (K15.gen cK106 cK55 cK43 cK47 cK141 cK140 cK107 cK33 cK12 cK82 l0 l1 l2)) := by intro a x; kernel_rfl
theorem K15.loops : Z5 K15.C = [(.loop K15.B0), (.loop K15.B1), (.loop K15.B2)] := by kernel_rfl
theorem K15.hints : HintsOK U Tryz.prog K15.h (fun c => c ∈ [(.loop K15.B0), (.loop K15.B1), (.loop K15.B2)]) := (hq (Z0 (Z0 (Z0 (Z0 (Z0 (Z0 (Z0 (Z0 (Z0 (Z0 (Z0 (Z0 (Z0 Z4 Zo) Zo) Zo) K106.ok) K55.ok) K43.ok) K47.ok) K141.ok) K140.ok) K107.ok) K33.ok) K12.ok) K82.ok) (Zb (by kernel_rfl) K15.lok0 (Zb (by kernel_rfl) K15.lok1 (Zb (by kernel_rfl) K15.lok2 Z1))) (fun _ => rfl) (fun _ => rfl))
theorem K15.ok : Z3 U Tryz.prog 71 (K15.sig.native (K15.W K15)) :=
 Sig.ok K15.sig (K15.W K15) U_pure (Hn := K15.h) (code := K15.C) (gos := 6) K15.hints Tryz.func71 (by kernel_rfl) (by kernel_rfl) (fun b h => by rw [K15.loops] at h; exact h) rfl rfl (by decide) (K15.eq K106 K55 K43 K47 K141 K140 K107 K33 K12 K82 K15.F0 K15.F1 K15.F2) (by decide)
def K142.sig : Sig U := ⟨[.data .t_api_Conf, .data .t_api_Parent, .int .i64, .int .i64], [], 0, [.data .t_api_Msg], false, []⟩
abbrev K142.T : Type := (api_Conf) → (api_Parent) → (Int) → (Int) → Option ((api_Msg × Unit) × Unit × Unit)
def K142.W (f : K142.T) : K142.sig.F := fun a x => f a.1 a.2.1 a.2.2.1 a.2.2.2.1
def K142.H : Hints U := { Γ := noΓ, ro := 0, base := 13 }
def K142.gen : K142.T := fun c p port seq =>
 some ((api_Msg.mk 11 c.fDomain p.fTimes.fFlags 0 (api_PortID.mk c.fClock port) seq c.fLogAnn 0 z0_ p.fTimes.fUtc p.fPriority1 p.fQuality p.fPriority2 p.fGrand p.fSteps p.fTimes.fOrigin 0 0 0, ()), ((), ()))
def K142 : K142.T := K142.gen
theorem K142.eq : EqA K142.sig (K142.H) Tryz.f140 6 (K142.W (K142.gen)) := by intro a x; kernel_rfl
theorem K142.hints : HintsOK U Tryz.prog (K142.H) (fun c => c ∈ ([] : List Code)) := (hq Z4 Z1 (fun _ => rfl) (fun _ => rfl))
theorem K142.ok : Z3 U Tryz.prog 140 (K142.sig.native (K142.W K142)) :=
 Sig.ok K142.sig (K142.W (K142.gen)) U_pure (Hn := (K142.H)) (gos := 6) K142.hints Tryz.func140 rfl (by kernel_rfl) (fun b h => h) rfl rfl (by decide) (K142.eq) (by decide)
def K98.sig : Sig U := ⟨[.isl .u8, .int .i64, .int .i64], [], 0, [.own .u8], false, [.tok]⟩
abbrev K98.T : Type := (List (UInt8)) → (Int) → (Int) → Option (((List (UInt8)) × Unit) × Unit × (Unit × Unit))
def K98.W (f : K98.T) : K98.sig.F := fun a x => f a.1 a.2.1 a.2.2.1
def K98.L0 : Shape U := ⟨30, 14, [(0, .own .u8 13), (1, vi_), (7, vi_)], [(13, .tok)]⟩
def K98.X0 : Exits U := [(.ret, ⟨30, 14, [(6, .own .u8 13)], [(13, .tok)]⟩)]
abbrev K98.l0T : Type := (((List (UInt8)) × Int × Int × Unit) × Unit) → Option ((((List (UInt8)) × Unit) × Unit))
def K98.C : Code := match Tryz.f100.body with | some c => c | none => .skip
def K98.B0 : Code := match (Z5 K98.C).getD 0 .skip with | .loop b => b | .scope b => b | _ => .skip
def K98.R0 : Code := (findLabel K98.B0 0).getD .skip
def K98.H (l0 : K98.l0T) : Hints U := { Γ := (addΓ 6000000029 Z1x noΓ), ro := 0, base := 13, label := fun b => bif Nat.beq b 0 then some (Zc (0, 13) K98.L0 K98.X0 l0) else none, gotos := 3, loop := fun b => none }
def K98.step0 (a : ((List (UInt8)) × Int × Int × Unit) × Unit) : Option ((((List (UInt8)) × Int × Int × Unit) × Unit) ⊕ ((((List (UInt8)) × Unit) × Unit))) :=
 (bif ilt 0 a.1.2.2.1 then (bif ile 0 (imul .i64 8 (isub .i64 a.1.2.2.1 1)) then (bif room (List.length a.1.1 + List.length (UInt8.ofNat (Int.toNat (IntKind.wrap .u8 (ishr .i64 a.1.2.1 (imul .i64 8 (isub .i64 a.1.2.2.1 1))))) :: lnil UInt8)) 1 then some (.inl ((a.1.1 ++ UInt8.ofNat (Int.toNat (IntKind.wrap .u8 (ishr .i64 a.1.2.1 (imul .i64 8 (isub .i64 a.1.2.2.1 1))))) :: lnil UInt8, (a.1.2.1, (isub .i64 a.1.2.2.1 1, ()))), ())) else none) else none) else some (.inr ((a.1.1, ()), ())))
def K98.F0 : K98.l0T := fun a => Za (1000000 + (a.1.1.length)) (K98.step0) a
def K98.gen (l0 : K98.l0T) : K98.T := fun b v n =>
 (bif bif le3 (ofN 0) (ofN (List.length b)) (List.length b) then ieq (ofN (List.length b)) (ofN (List.length b)) else false then (bif ilt 0 (Z7 true 0 (Z7 false n 8)) then (bif ile 0 (imul .i64 8 (isub .i64 (Z7 true 0 (Z7 false n 8)) 1)) then (bif room (List.length (List.drop (Int.toNat (ofN 0)) (List.take (Int.toNat (ofN (List.length b))) b)) + List.length (UInt8.ofNat (Int.toNat (IntKind.wrap .u8 (ishr .i64 v (imul .i64 8 (isub .i64 (Z7 true 0 (Z7 false n 8)) 1))))) :: lnil UInt8)) 1 then (oelim (l0 ((List.drop (Int.toNat (ofN 0)) (List.take (Int.toNat (ofN (List.length b))) b) ++ UInt8.ofNat (Int.toNat (IntKind.wrap .u8 (ishr .i64 v (imul .i64 8 (isub .i64 (Z7 true 0 (Z7 false n 8)) 1))))) :: lnil UInt8, v, isub .i64 (Z7 true 0 (Z7 false n 8)) 1, ()), ())) none fun r0 => some (r0.1, ((), ((), ())))) else none) else none) else some ((List.drop (Int.toNat (ofN 0)) (List.take (Int.toNat (ofN (List.length b))) b), ()), ((), ((), ())))) else none)
def K98 : K98.T := K98.gen K98.F0
theorem K98.seq0 (l0 : K98.l0T) (a : K98.L0.T) : run Tryz.prog (K98.H l0) 6 (Option (K98.L0.T ⊕ ExT K98.X0)) none K98.R0 (K98.L0.enc a) (Z2Q (0, 13) 0 K98.L0 K98.X0) = K98.step0 a := by kernel_rfl
theorem K98.inner0 : Z5 K98.R0 = ([] : List Code) := by kernel_rfl
abbrev K98.h := K98.H K98.F0
theorem K98.lok0 : ZR U Tryz.prog K98.h.ro K98.h.base K98.B0 K98.R0 (Zc (0, 13) K98.L0 K98.X0 K98.F0) :=
 Z6j (Hn := K98.h) (lb := 0) U_ok U_pure (Zl (Z14 U_ok U_pure mixed (Z0 Z4 Zo) Z1 Z1Y (Z29 fun _ => rfl)) 6) (by kernel_rfl) (fun b h => by rw [K98.inner0] at h; exact h) (fun _ => rfl) (K98.seq0 K98.F0)
theorem K98.eq (l0 : K98.l0T) : EqA K98.sig (K98.H l0) Tryz.f100 6 (K98.W (K98.gen l0)) := by intro a x; kernel_rfl
theorem K98.loops : Z5 K98.C = [(.scope K98.B0)] := by kernel_rfl
theorem K98.hints : HintsOK U Tryz.prog K98.h (fun c => c ∈ [(.scope K98.B0)]) := (Z14 U_ok U_pure mixed (Z0 Z4 Zo) (ZH Z1) (Z51 (Z6i (r0 := K98.R0) (l0 := 0) (by kernel_rfl) (fun _ => rfl) K98.lok0) Z1Y) (Z29 fun _ => rfl))
theorem K98.ok : Z3 U Tryz.prog 100 (K98.sig.native (K98.W K98)) :=
 Sig.ok K98.sig (K98.W K98) U_pure (Hn := K98.h) (code := K98.C) (gos := 6) K98.hints Tryz.func100 (by kernel_rfl) (by kernel_rfl) (fun b h => by rw [K98.loops] at h; exact h) rfl rfl (by decide) (K98.eq K98.F0) (by decide)
def K99.sig : Sig U := ⟨[.isl .u8, .int .u64], [], 0, [.isl .u8], false, []⟩
abbrev K99.T : Type := (List (UInt8)) → (Int) → Option (((List (UInt8)) × Unit) × Unit × Unit)
def K99.W (f : K99.T) : K99.sig.F := fun a x => f a.1 a.2.1
def K99.H (cK98 : K98.T) : Hints U := { Γ := (addΓ 100 (K98.sig.native (K98.W cK98)) noΓ), ro := 0, base := 13 }
def K99.gen (cK98 : K98.T) : K99.T := fun b v =>
 (oelim (cK98 b (IntKind.wrap .i64 v) 8) none fun r0 => some (r0.1, ((), ())))
def K99 : K99.T := K99.gen K98
theorem K99.eq (cK98 : K98.T) : EqA K99.sig (K99.H cK98) Tryz.f116 6 (K99.W (K99.gen cK98)) := by intro a x; kernel_rfl
abbrev K99.h := K99.H K98
theorem K99.hints : HintsOK U Tryz.prog K99.h (fun c => c ∈ ([] : List Code)) := (hq (Z0 Z4 K98.ok) Z1 (fun _ => rfl) (fun _ => rfl))
theorem K99.ok : Z3 U Tryz.prog 116 (K99.sig.native (K99.W K99)) :=
 Sig.ok K99.sig (K99.W K99) U_pure (Hn := K99.h) (gos := 6) K99.hints Tryz.func116 rfl (by kernel_rfl) (fun b h => h) rfl rfl (by decide) (K99.eq K98) (by decide)
def K136.sig : Sig U := ⟨[.isl .u64], [], 0, [.data .t_api_Tlv, .bool], true, []⟩
abbrev K136.T : Type := (List (Int)) → Option ((api_Tlv × Bool × Unit) × Unit × Unit)
def K136.W (f : K136.T) : K136.sig.F := fun a x => f a.1
def K136.L0 : Shape U := ⟨24, 14, [(2, .ptr 13 0 0), (4, .val (.isl .u8)), (11, .val (.isl .u64)), (12, vi_), (13, vi_)], [(13, .obj .t_api_Tlv)]⟩
def K136.X0 : Exits U := [(.exit 0, ⟨24, 14, [(2, .ptr 13 0 0), (4, .val (.isl .u8))], [(13, .obj .t_api_Tlv)]⟩)]
abbrev K136.l0T : Type := (((List (UInt8)) × (List (Int)) × Int × Int × Unit) × (api_Tlv × Unit)) → Option ((((List (UInt8)) × Unit) × (api_Tlv × Unit)))
def K136.C : Code := match Tryz.f180.body with | some c => c | none => .skip
def K136.B0 : Code := match (Z5 K136.C).getD 0 .skip with | .loop b => b | .scope b => b | _ => .skip
def K136.H (cK99 : K99.T) (l0 : K136.l0T) : Hints U := { Γ := (addΓ 116 (K99.sig.native (K99.W cK99)) noΓ), ro := 0, base := 13, loop := fun b => (bif Nat.beq b 5 then some (Zc (0, 13) K136.L0 K136.X0 l0) else none) }
def K136.step0 (cK99 : K99.T) (a : ((List (UInt8)) × (List (Int)) × Int × Int × Unit) × (api_Tlv × Unit)) : Option ((((List (UInt8)) × (List (Int)) × Int × Int × Unit) × (api_Tlv × Unit)) ⊕ ((((List (UInt8)) × Unit) × (api_Tlv × Unit)))) :=
 (bif ilt a.1.2.2.2.1 a.1.2.2.1 then (bif inR a.1.2.2.2.1 (List.length a.1.2.1) then (oelim (cK99 a.1.1 (List.getD a.1.2.1 (Int.toNat a.1.2.2.2.1) (0 : D UC.u64))) none fun r0 => some (.inl ((r0.1.1, (a.1.2.1, (a.1.2.2.1, (iadd .i64 a.1.2.2.2.1 1, ())))), a.2))) else none) else some (.inr ((a.1.1, ()), a.2)))
def K136.F0 : K136.l0T := fun a => Za (1000000 + (a.1.1.length + a.1.2.1.length)) (K136.step0 K99) a
def K136.gen (cK99 : K99.T) (l0 : K136.l0T) : K136.T := fun l =>
 (bif ilt 16 (ofN (List.length l)) then some ((api_Tlv.mk 0 (ByteArray.mk (List.toArray (lnil UInt8))), (false, ())), ((), ())) else (oelim (l0 ((lnil UInt8, l, ofN (List.length l), (0 : Int), ()), api_Tlv.mk 0 (ByteArray.mk (List.toArray (lnil UInt8))), ())) none fun r0 => some ((api_Tlv.mk 8 (ByteArray.mk (List.toArray r0.1.1)), (true, ())), ((), ()))))
def K136 : K136.T := K136.gen K99 K136.F0
theorem K136.seq0 (cK99 : K99.T) (l0 : K136.l0T) (a : K136.L0.T) : run Tryz.prog (K136.H cK99 l0) 6 (Option (K136.L0.T ⊕ ExT K136.X0)) none K136.B0 (K136.L0.enc a) (Zs (0, 13) K136.L0 K136.X0) = K136.step0 cK99 a := by kernel_rfl
theorem K136.inner0 : Z5 K136.B0 = ([] : List Code) := by kernel_rfl
abbrev K136.h := K136.H K99 K136.F0
theorem K136.lok0 : Ze U Tryz.prog K136.h.ro K136.h.base K136.B0 (Zc (0, 13) K136.L0 K136.X0 K136.F0) :=
 Zh (Hn := K136.h) U_ok U_pure (Zl (hq (Z0 Z4 K99.ok) Z1 (fun _ => rfl) (fun _ => rfl)) 6) (fun b h => by rw [K136.inner0] at h; exact h) (fun _ => rfl) (K136.seq0 K99 K136.F0)
theorem K136.eq (cK99 : K99.T) (l0 : K136.l0T) : EqA K136.sig (K136.H cK99 l0) Tryz.f180 6 (K136.W (K136.gen cK99 l0)) := by intro a x; kernel_rfl
theorem K136.loops : Z5 K136.C = [(.loop K136.B0)] := by kernel_rfl
theorem K136.hints : HintsOK U Tryz.prog K136.h (fun c => c ∈ [(.loop K136.B0)]) := (hq (Z0 Z4 K99.ok) (Zb (by kernel_rfl) K136.lok0 Z1) (fun _ => rfl) (fun _ => rfl))
theorem K136.ok : Z3 U Tryz.prog 180 (K136.sig.native (K136.W K136)) :=
 Sig.ok K136.sig (K136.W K136) U_pure (Hn := K136.h) (code := K136.C) (gos := 6) K136.hints Tryz.func180 (by kernel_rfl) (by kernel_rfl) (fun b h => by rw [K136.loops] at h; exact h) rfl rfl (by decide) (K136.eq K99 K136.F0) (by decide)
def K23.sig : Sig U := ⟨[.ptr], [.obj .t_clock_Clock, .fam 12 (.map true false .t_api_PortID .l_u64)], 2, [.isl .t_api_Tlv], false, []⟩
abbrev K23.T : Type := (clock_Clock) → (Nat × (Nat → List (api_PortID × List (Int)))) → Option (((List (api_Tlv)) × Unit) × Unit × Unit)
def K23.W (f : K23.T) : K23.sig.F := fun a x => f x.1 x.2.1
def K23.L1 : Shape U := ⟨65, 14, [(0, .ptr 13 0 0), (3, .full .u64), (24, vi_), (25, vi_)], [(13, .obj .t_clock_Clock), (12, .mfam true false .t_api_PortID .l_u64)]⟩
def K23.X1 : Exits U := [(.exit 0, ⟨65, 15, [(0, .ptr 13 0 0), (3, .own .u64 14)], [(13, .obj .t_clock_Clock), (14, .tok), (12, .mfam true false .t_api_PortID .l_u64)]⟩)]
abbrev K23.l1T : Type := (((List (Int)) × Int × Int × Unit) × (clock_Clock × (Nat × (Nat → List (api_PortID × List (Int)))) × Unit)) → Option ((((List (Int)) × Unit) × (clock_Clock × (Nat × (Nat → List (api_PortID × List (Int)))) × Unit)))
def K23.C : Code := match Tryz.f141.body with | some c => c | none => .skip
def K23.B0 : Code := match (Z5 K23.C).getD 0 .skip with | .loop b => b | .scope b => b | _ => .skip
def K23.B1 : Code := match (Z5 K23.C).getD 1 .skip with | .loop b => b | .scope b => b | _ => .skip
def K23.JR11 : Exits U := [(.normal, ⟨65, 15, [(7, .ptr 14 0 0), (8, vb_)], [(13, .obj .t_clock_Clock), (14, .obj .t_api_Tlv), (12, .mfam true false .t_api_PortID .l_u64)]⟩)]
def K23.H (cK136 : K136.T) (l1 : K23.l1T) : Hints U := { Γ := (addΓ 180 (K136.sig.native (K136.W cK136)) (addΓ 5000000021 Z1x noΓ)), ro := 14, base := 14, joinR := fun b => (bif Nat.beq b 11 then some K23.JR11 else none), loop := fun b => (bif Nat.beq b 5 then some (Zc (14, 14) K23.L1 K23.X1 l1) else none) }
def K23.step1 (cK136 : K136.T) (a : ((List (Int)) × Int × Int × Unit) × (clock_Clock × (Nat × (Nat → List (api_PortID × List (Int)))) × Unit)) : Option ((((List (Int)) × Int × Int × Unit) × (clock_Clock × (Nat × (Nat → List (api_PortID × List (Int)))) × Unit)) ⊕ ((((List (Int)) × Unit) × (clock_Clock × (Nat × (Nat → List (api_PortID × List (Int)))) × Unit)))) :=
 (bif ilt a.1.2.2.1 a.1.2.1 then (bif inR a.1.2.2.1 8 then (oelim ((oelim ((a.2.1.fports (Int.toNat a.1.2.2.1)).3) none fun r0 => ((@Z3f U Go.Proofs.Tryz.prog 31 UC.t_api_PortID UC.l_u64 (a.2.1.fparent.fPort) (a.2.2.1.2 r0)) : Option (Option (List Int))))) none fun (r1 : Option (List Int)) => (bif Option.isSome r1 then (bif room (List.length a.1.1 + List.length (Option.getD r1 (lnil Int))) 8 then some (.inr ((a.1.1 ++ Option.getD r1 (lnil Int), ()), a.2)) else none) else some (.inl ((a.1.1, (a.1.2.1, (iadd .i64 a.1.2.2.1 1, ()))), a.2)))) else none) else some (.inr ((a.1.1, ()), a.2)))
def K23.F1 : K23.l1T := fun a => Za (1000000 + (a.1.1.length)) (K23.step1 K136) a
def K23.gen (cK136 : K136.T) (l1 : K23.l1T) : K23.T := fun h0 g12 =>
 (bif !h0.fconf.fTrace then some ((lnil api_Tlv, ()), ((), ())) else (bif le3 (ofN 0) h0.fconf.fPorts 8 then (oelim (l1 ((lnil Int, ofN (Int.toNat h0.fconf.fPorts - Int.toNat (ofN 0)), (0 : Int), ()), h0, g12, ())) none fun r0 => (oelim ((bif room (List.length r0.1.1 + List.length (r0.2.1.fconf.fClock :: lnil Int)) 8 then (oelim (cK136 (r0.1.1 ++ r0.2.1.fconf.fClock :: lnil Int)) none fun r1 => some (r1.1.2, (r0.2.1, (r1.1.1, r0.2.2)))) else none)) none fun r2 => (bif !r2.1.1 then some ((lnil api_Tlv, ()), ((), ())) else some ((r2.2.2.1 :: lnil api_Tlv, ()), ((), ()))))) else none))
def K23 : K23.T := K23.gen K136 K23.F1
theorem K23.seq1 (cK136 : K136.T) (l1 : K23.l1T) (a : K23.L1.T) : run Tryz.prog (K23.H cK136 l1) 6 (Option (K23.L1.T ⊕ ExT K23.X1)) none K23.B1 (K23.L1.enc a) (Zs (14, 14) K23.L1 K23.X1) = K23.step1 cK136 a := by kernel_rfl
theorem K23.inner1 : Z5 K23.B1 = ([] : List Code) := by kernel_rfl
abbrev K23.h := K23.H K136 K23.F1
theorem K23.lok1 : Ze U Tryz.prog K23.h.ro K23.h.base K23.B1 (Zc (14, 14) K23.L1 K23.X1 K23.F1) :=
 Zh (Hn := K23.h) U_ok U_pure (Zl (hq (Z0 (Z0 Z4 Zo) K136.ok) Z1 (fun _ => rfl) (fun _ => rfl)) 6) (fun b h => by rw [K23.inner1] at h; exact h) (fun _ => rfl) (K23.seq1 K136 K23.F1)
theorem K23.eq (cK136 : K136.T) (l1 : K23.l1T) : EqA K23.sig (K23.H cK136 l1) Tryz.f141 6 (K23.W (K23.gen cK136 l1)) := by intro a x; kernel_rfl
theorem K23.loops : Z5 K23.C = [(.scope K23.B0), (.loop K23.B1)] := by kernel_rfl
theorem K23.hints : HintsOK U Tryz.prog K23.h (fun c => c ∈ [(.scope K23.B0), (.loop K23.B1)]) := (hq (Z0 (Z0 Z4 Zo) K136.ok) (ZH (Zb (by kernel_rfl) K23.lok1 Z1)) (fun _ => rfl) (fun _ => rfl))
theorem K23.ok : Z3 U Tryz.prog 141 (K23.sig.native (K23.W K23)) :=
 Sig.ok K23.sig (K23.W K23) U_pure (Hn := K23.h) (code := K23.C) (gos := 6) K23.hints Tryz.func141 (by kernel_rfl) (by kernel_rfl) (fun b h => by rw [K23.loops] at h; exact h) rfl rfl (by decide) (K23.eq K136 K23.F1) (by decide)
def K66.sig : Sig U := ⟨[.int .i64], [], 0, [.bool], false, []⟩
abbrev K66.T : Type := (Int) → Option ((Bool × Unit) × Unit × Unit)
def K66.W (f : K66.T) : K66.sig.F := fun a x => f a.1
def K66.JC7 : Exits U := [(.normal, ⟨16, 13, [(9, vb_)], []⟩)]
def K66.JC3 : Exits U := [(.normal, ⟨16, 13, [(3, vi_), (4, vb_)], []⟩)]
def K66.H : Hints U := { Γ := noΓ, ro := 0, base := 13, joinC := fun b => (bif Nat.beq b 3 then some K66.JC3 else (bif Nat.beq b 7 then some K66.JC7 else none)) }
def K66.gen : K66.T := fun typ =>
 (oelim ((bif ieq typ 0 then some ((typ, (ieq typ 0, ())), ()) else (bif ieq typ 1 then some ((typ, (ieq typ 1, ())), ()) else (bif ieq typ 2 then some ((typ, (ieq typ 2, ())), ()) else some ((typ, (ieq typ 3, ())), ()))))) none fun r0 => (bif r0.1.2.1 then some ((true, ()), ((), ())) else (oelim ((bif ieq r0.1.1 8 then some ((ieq r0.1.1 8, ()), ()) else (bif ieq r0.1.1 9 then some ((ieq r0.1.1 9, ()), ()) else (bif ieq r0.1.1 10 then some ((ieq r0.1.1 10, ()), ()) else (bif ieq r0.1.1 11 then some ((ieq r0.1.1 11, ()), ()) else (bif ieq r0.1.1 12 then some ((ieq r0.1.1 12, ()), ()) else some ((ieq r0.1.1 13, ()), ()))))))) none fun r1 => (bif r1.1.1 then some ((true, ()), ((), ())) else some ((false, ()), ((), ()))))))
def K66 : K66.T := K66.gen
theorem K66.eq : EqA K66.sig (K66.H) Tryz.f102 6 (K66.W (K66.gen)) := by intro a x; kernel_rfl
theorem K66.hints : HintsOK U Tryz.prog (K66.H) (fun c => c ∈ ([] : List Code)) := (hq Z4 Z1 (fun _ => rfl) (fun _ => rfl))
theorem K66.ok : Z3 U Tryz.prog 102 (K66.sig.native (K66.W K66)) :=
 Sig.ok K66.sig (K66.W (K66.gen)) U_pure (Hn := (K66.H)) (gos := 6) K66.hints Tryz.func102 rfl (by kernel_rfl) (fun b h => h) rfl rfl (by decide) (K66.eq) (by decide)
def K69.sig : Sig U := ⟨[.int .i64, .int .i64, .int .i64], [], 0, [.bool], false, []⟩
abbrev K69.T : Type := (Int) → (Int) → (Int) → Option ((Bool × Unit) × Unit × Unit)
def K69.W (f : K69.T) : K69.sig.F := fun a x => f a.1 a.2.1 a.2.2.1
def K69.H : Hints U := { Γ := noΓ, ro := 0, base := 13 }
def K69.gen : K69.T := fun v least most =>
 (bif ile least v then some ((ile v most, ()), ((), ())) else some ((false, ()), ((), ())))
def K69 : K69.T := K69.gen
theorem K69.eq : EqA K69.sig (K69.H) Tryz.f103 6 (K69.W (K69.gen)) := by intro a x; kernel_rfl
theorem K69.hints : HintsOK U Tryz.prog (K69.H) (fun c => c ∈ ([] : List Code)) := (hq Z4 Z1 (fun _ => rfl) (fun _ => rfl))
theorem K69.ok : Z3 U Tryz.prog 103 (K69.sig.native (K69.W K69)) :=
 Sig.ok K69.sig (K69.W (K69.gen)) U_pure (Hn := (K69.H)) (gos := 6) K69.hints Tryz.func103 rfl (by kernel_rfl) (fun b h => h) rfl rfl (by decide) (K69.eq) (by decide)
def K72.sig : Sig U := ⟨[.data .t_api_PortID], [], 0, [.bool], false, []⟩
abbrev K72.T : Type := (api_PortID) → Option ((Bool × Unit) × Unit × Unit)
def K72.W (f : K72.T) : K72.sig.F := fun a x => f a.1
def K72.H : Hints U := { Γ := noΓ, ro := 0, base := 13 }
def K72.gen : K72.T := fun p =>
 (bif ile 0 p.fPort then some ((ile p.fPort 65535, ()), ((), ())) else some ((false, ()), ((), ())))
def K72 : K72.T := K72.gen
theorem K72.eq : EqA K72.sig (K72.H) Tryz.f170 6 (K72.W (K72.gen)) := by intro a x; kernel_rfl
theorem K72.hints : HintsOK U Tryz.prog (K72.H) (fun c => c ∈ ([] : List Code)) := (hq Z4 Z1 (fun _ => rfl) (fun _ => rfl))
theorem K72.ok : Z3 U Tryz.prog 170 (K72.sig.native (K72.W K72)) :=
 Sig.ok K72.sig (K72.W (K72.gen)) U_pure (Hn := (K72.H)) (gos := 6) K72.hints Tryz.func170 rfl (by kernel_rfl) (fun b h => h) rfl rfl (by decide) (K72.eq) (by decide)
def K64.sig : Sig U := ⟨[.data .t_api_Msg], [], 0, [.bool], false, []⟩
abbrev K64.T : Type := (api_Msg) → Option ((Bool × Unit) × Unit × Unit)
def K64.W (f : K64.T) : K64.sig.F := fun a x => f a.1
def K64.H (cK66 : K66.T) (cK69 : K69.T) (cK72 : K72.T) : Hints U := { Γ := (addΓ 170 (K72.sig.native (K72.W cK72)) (addΓ 103 (K69.sig.native (K69.W cK69)) (addΓ 102 (K66.sig.native (K66.W cK66)) noΓ))), ro := 0, base := 13 }
def K64.gen (cK66 : K66.T) (cK69 : K69.T) (cK72 : K72.T) : K64.T := fun m =>
 (oelim (cK66 m.fType) none fun r0 => (bif r0.1.1 then (oelim (cK69 m.fDomain 0 255) none fun r1 => (bif r1.1.1 then (oelim (cK69 m.fFlags 0 65535) none fun r2 => (bif r2.1.1 then (oelim (cK72 m.fSource) none fun r3 => (bif r3.1.1 then (oelim (cK69 m.fSeq 0 65535) none fun r4 => (bif r4.1.1 then (oelim (cK69 m.fLog (-128) 127) none fun r5 => some (r5.1, ((), ()))) else some ((false, ()), ((), ())))) else some ((false, ()), ((), ())))) else some ((false, ()), ((), ())))) else some ((false, ()), ((), ())))) else some ((false, ()), ((), ()))))
def K64 : K64.T := K64.gen K66 K69 K72
theorem K64.eq (cK66 : K66.T) (cK69 : K69.T) (cK72 : K72.T) : EqA K64.sig (K64.H cK66 cK69 cK72) Tryz.f118 6 (K64.W (K64.gen cK66 cK69 cK72)) := by intro a x; kernel_rfl
abbrev K64.h := K64.H K66 K69 K72
theorem K64.hints : HintsOK U Tryz.prog K64.h (fun c => c ∈ ([] : List Code)) := (hq (Z0 (Z0 (Z0 Z4 K66.ok) K69.ok) K72.ok) Z1 (fun _ => rfl) (fun _ => rfl))
theorem K64.ok : Z3 U Tryz.prog 118 (K64.sig.native (K64.W K64)) :=
 Sig.ok K64.sig (K64.W K64) U_pure (Hn := K64.h) (gos := 6) K64.hints Tryz.func118 rfl (by kernel_rfl) (fun b h => h) rfl rfl (by decide) (K64.eq K66 K69 K72) (by decide)
def K6.sig : Sig U := ⟨[.int .i64], [], 0, [.bool], false, []⟩
abbrev K6.T : Type := (Int) → Option ((Bool × Unit) × Unit × Unit)
def K6.W (f : K6.T) : K6.sig.F := fun a x => f a.1
def K6.H : Hints U := { Γ := noΓ, ro := 0, base := 13 }
def K6.gen : K6.T := fun typ =>
 (bif ine typ 12 then some ((ine typ 13, ()), ((), ())) else some ((false, ()), ((), ())))
def K6 : K6.T := K6.gen
theorem K6.eq : EqA K6.sig (K6.H) Tryz.f107 6 (K6.W (K6.gen)) := by intro a x; kernel_rfl
theorem K6.hints : HintsOK U Tryz.prog (K6.H) (fun c => c ∈ ([] : List Code)) := (hq Z4 Z1 (fun _ => rfl) (fun _ => rfl))
theorem K6.ok : Z3 U Tryz.prog 107 (K6.sig.native (K6.W K6)) :=
 Sig.ok K6.sig (K6.W (K6.gen)) U_pure (Hn := (K6.H)) (gos := 6) K6.hints Tryz.func107 rfl (by kernel_rfl) (fun b h => h) rfl rfl (by decide) (K6.eq) (by decide)
def K7.sig : Sig U := ⟨[.int .i64], [], 0, [.bool], false, []⟩
abbrev K7.T : Type := (Int) → Option ((Bool × Unit) × Unit × Unit)
def K7.W (f : K7.T) : K7.sig.F := fun a x => f a.1
def K7.JC3 : Exits U := [(.normal, ⟨10, 13, [(4, vb_)], []⟩)]
def K7.H : Hints U := { Γ := noΓ, ro := 0, base := 13, joinC := fun b => (bif Nat.beq b 3 then some K7.JC3 else none) }
def K7.gen : K7.T := fun typ =>
 (oelim ((bif ieq typ 9 then some ((ieq typ 9, ()), ()) else (bif ieq typ 3 then some ((ieq typ 3, ()), ()) else (bif ieq typ 10 then some ((ieq typ 10, ()), ()) else (bif ieq typ 12 then some ((ieq typ 12, ()), ()) else some ((ieq typ 13, ()), ())))))) none fun r0 => (bif r0.1.1 then some ((true, ()), ((), ())) else some ((false, ()), ((), ()))))
def K7 : K7.T := K7.gen
theorem K7.eq : EqA K7.sig (K7.H) Tryz.f109 6 (K7.W (K7.gen)) := by intro a x; kernel_rfl
theorem K7.hints : HintsOK U Tryz.prog (K7.H) (fun c => c ∈ ([] : List Code)) := (hq Z4 Z1 (fun _ => rfl) (fun _ => rfl))
theorem K7.ok : Z3 U Tryz.prog 109 (K7.sig.native (K7.W K7)) :=
 Sig.ok K7.sig (K7.W (K7.gen)) U_pure (Hn := (K7.H)) (gos := 6) K7.hints Tryz.func109 rfl (by kernel_rfl) (fun b h => h) rfl rfl (by decide) (K7.eq) (by decide)
def K5.sig : Sig U := ⟨[.data .t_api_Msg], [], 0, [.data .t_api_Msg], false, []⟩
abbrev K5.T : Type := (api_Msg) → Option ((api_Msg × Unit) × Unit × Unit)
def K5.W (f : K5.T) : K5.sig.F := fun a x => f a.1
def K5.JC8 : Exits U := [(.normal, ⟨68, 15, [(2, .ptr 13 0 0), (3, .ptr 14 0 0)], [(13, .obj .t_api_Msg), (14, .obj .t_api_Msg)]⟩)]
def K5.JC5 : Exits U := [(.normal, ⟨68, 16, [(1, .ptr 13 0 0), (2, .ptr 14 0 0), (3, .ptr 15 0 0)], [(13, .obj .t_api_Msg), (14, .obj .t_api_Msg), (15, .obj .t_api_Msg)]⟩)]
def K5.JC3 : Exits U := [(.normal, ⟨68, 16, [(1, .ptr 13 0 0), (2, .ptr 14 0 0), (3, .ptr 15 0 0)], [(13, .obj .t_api_Msg), (14, .obj .t_api_Msg), (15, .obj .t_api_Msg)]⟩)]
def K5.H (cK6 : K6.T) (cK7 : K7.T) : Hints U := { Γ := (addΓ 109 (K7.sig.native (K7.W cK7)) (addΓ 107 (K6.sig.native (K6.W cK6)) noΓ)), ro := 0, base := 13, joinC := fun b => (bif Nat.beq b 3 then some K5.JC3 else (bif Nat.beq b 5 then some K5.JC5 else (bif Nat.beq b 8 then some K5.JC8 else none))) }
def K5.gen (cK6 : K6.T) (cK7 : K7.T) : K5.T := fun m =>
 (oelim (cK6 m.fType) none fun r0 => (oelim ((bif r0.1.1 then some ((), (m, (api_Msg.mk 0 0 0 0 z0_ 0 0 0 z0_ 0 0 z1_ 0 0 0 0 0 0 0, (api_Msg.mk m.fType m.fDomain m.fFlags m.fCorr m.fSource m.fSeq m.fLog m.fStamp z0_ 0 0 z1_ 0 0 0 0 0 0 0, ())))) else some ((), (m, (api_Msg.mk 0 0 0 0 z0_ 0 0 0 z0_ 0 0 z1_ 0 0 0 0 0 0 0, (api_Msg.mk m.fType m.fDomain m.fFlags m.fCorr m.fSource m.fSeq m.fLog 0 z0_ 0 0 z1_ 0 0 0 0 0 0 0, ())))))) none fun r1 => (oelim (cK7 r1.2.1.fType) none fun r2 => (oelim ((bif r2.1.1 then some ((), (r1.2.1, (r1.2.2.1, (api_Msg.set_fTarget r1.2.2.2.1 r1.2.1.fTarget, ())))) else some ((), r1.2))) none fun r3 => (oelim ((bif ieq r3.2.1.fType 11 then some ((), (r3.2.2.1, (api_Msg.set_fOrigin (api_Msg.set_fSteps (api_Msg.set_fGrand (api_Msg.set_fPriority2 (api_Msg.set_fQuality (api_Msg.set_fPriority1 (api_Msg.set_fUtc r3.2.2.2.1 r3.2.1.fUtc) r3.2.1.fPriority1) r3.2.1.fQuality) r3.2.1.fPriority2) r3.2.1.fGrand) r3.2.1.fSteps) r3.2.1.fOrigin, ()))) else (bif ieq r3.2.1.fType 13 then some ((), (r3.2.2.1, (api_Msg.set_fAction (api_Msg.set_fHops (api_Msg.set_fStartHops r3.2.2.2.1 r3.2.1.fStartHops) r3.2.1.fHops) r3.2.1.fAction, ()))) else some ((), r3.2.2)))) none fun r4 => some (r4.2.2, ((), ())))))))
def K5 : K5.T := K5.gen K6 K7
theorem K5.eq (cK6 : K6.T) (cK7 : K7.T) : EqA K5.sig (K5.H cK6 cK7) Tryz.f169 6 (K5.W (K5.gen cK6 cK7)) := by intro a x; kernel_rfl
abbrev K5.h := K5.H K6 K7
theorem K5.hints : HintsOK U Tryz.prog K5.h (fun c => c ∈ ([] : List Code)) := (hq (Z0 (Z0 Z4 K6.ok) K7.ok) Z1 (fun _ => rfl) (fun _ => rfl))
theorem K5.ok : Z3 U Tryz.prog 169 (K5.sig.native (K5.W K5)) :=
 Sig.ok K5.sig (K5.W K5) U_pure (Hn := K5.h) (gos := 6) K5.hints Tryz.func169 rfl (by kernel_rfl) (fun b h => h) rfl rfl (by decide) (K5.eq K6 K7) (by decide)
def K122.sig : Sig U := ⟨[.int .i64], [], 0, [.bool], false, []⟩
abbrev K122.T : Type := (Int) → Option ((Bool × Unit) × Unit × Unit)
def K122.W (f : K122.T) : K122.sig.F := fun a x => f a.1
def K122.H : Hints U := { Γ := noΓ, ro := 0, base := 13 }
def K122.gen : K122.T := fun t =>
 (bif ile 0 t then some ((ile t 4000000000000000, ()), ((), ())) else some ((false, ()), ((), ())))
def K122 : K122.T := K122.gen
theorem K122.eq : EqA K122.sig (K122.H) Tryz.f151 6 (K122.W (K122.gen)) := by intro a x; kernel_rfl
theorem K122.hints : HintsOK U Tryz.prog (K122.H) (fun c => c ∈ ([] : List Code)) := (hq Z4 Z1 (fun _ => rfl) (fun _ => rfl))
theorem K122.ok : Z3 U Tryz.prog 151 (K122.sig.native (K122.W K122)) :=
 Sig.ok K122.sig (K122.W (K122.gen)) U_pure (Hn := (K122.H)) (gos := 6) K122.hints Tryz.func151 rfl (by kernel_rfl) (fun b h => h) rfl rfl (by decide) (K122.eq) (by decide)
def K4.sig : Sig U := ⟨[.int .i64, .int .i64, .int .i64], [], 0, [.bool], false, []⟩
abbrev K4.T : Type := (Int) → (Int) → (Int) → Option ((Bool × Unit) × Unit × Unit)
def K4.W (f : K4.T) : K4.sig.F := fun a x => f a.1 a.2.1 a.2.2.1
def K4.H : Hints U := { Γ := noΓ, ro := 0, base := 13 }
def K4.gen : K4.T := fun v least most =>
 (bif ile least v then some ((ile v most, ()), ((), ())) else some ((false, ()), ((), ())))
def K4 : K4.T := K4.gen
theorem K4.eq : EqA K4.sig (K4.H) Tryz.f171 6 (K4.W (K4.gen)) := by intro a x; kernel_rfl
theorem K4.hints : HintsOK U Tryz.prog (K4.H) (fun c => c ∈ ([] : List Code)) := (hq Z4 Z1 (fun _ => rfl) (fun _ => rfl))
theorem K4.ok : Z3 U Tryz.prog 171 (K4.sig.native (K4.W K4)) :=
 Sig.ok K4.sig (K4.W (K4.gen)) U_pure (Hn := (K4.H)) (gos := 6) K4.hints Tryz.func171 rfl (by kernel_rfl) (fun b h => h) rfl rfl (by decide) (K4.eq) (by decide)
def K0.sig : Sig U := ⟨[.data .t_api_Msg], [], 0, [.bool], false, []⟩
abbrev K0.T : Type := (api_Msg) → Option ((Bool × Unit) × Unit × Unit)
def K0.W (f : K0.T) : K0.sig.F := fun a x => f a.1
def K0.H (cK64 : K64.T) (cK5 : K5.T) (cK122 : K122.T) (cK72 : K72.T) (cK4 : K4.T) (cK113 : K113.T) : Hints U := { Γ := (addΓ 87 (K113.sig.native (K113.W cK113)) (addΓ 171 (K4.sig.native (K4.W cK4)) (addΓ 170 (K72.sig.native (K72.W cK72)) (addΓ 151 (K122.sig.native (K122.W cK122)) (addΓ 169 (K5.sig.native (K5.W cK5)) (addΓ 118 (K64.sig.native (K64.W cK64)) noΓ)))))), ro := 0, base := 13 }
def K0.gen (cK64 : K64.T) (cK5 : K5.T) (cK122 : K122.T) (cK72 : K72.T) (cK4 : K4.T) (cK113 : K113.T) : K0.T := fun m =>
 (oelim (cK64 m) none fun r0 => (bif r0.1.1 then (oelim (cK5 m) none fun r1 => (bif bif ieq m.fType r1.1.1.fType then bif ieq m.fDomain r1.1.1.fDomain then bif ieq m.fFlags r1.1.1.fFlags then bif ieq m.fCorr r1.1.1.fCorr then bif bif ieq m.fSource.fClock r1.1.1.fSource.fClock then bif ieq m.fSource.fPort r1.1.1.fSource.fPort then true else false else false then bif ieq m.fSeq r1.1.1.fSeq then bif ieq m.fLog r1.1.1.fLog then bif ieq m.fStamp r1.1.1.fStamp then bif bif ieq m.fTarget.fClock r1.1.1.fTarget.fClock then bif ieq m.fTarget.fPort r1.1.1.fTarget.fPort then true else false else false then bif ieq m.fUtc r1.1.1.fUtc then bif ieq m.fPriority1 r1.1.1.fPriority1 then bif bif ieq m.fQuality.fClass r1.1.1.fQuality.fClass then bif ieq m.fQuality.fAccuracy r1.1.1.fQuality.fAccuracy then bif ieq m.fQuality.fVariance r1.1.1.fQuality.fVariance then true else false else false else false then bif ieq m.fPriority2 r1.1.1.fPriority2 then bif ieq m.fGrand r1.1.1.fGrand then bif ieq m.fSteps r1.1.1.fSteps then bif ieq m.fOrigin r1.1.1.fOrigin then bif ieq m.fStartHops r1.1.1.fStartHops then bif ieq m.fHops r1.1.1.fHops then bif ieq m.fAction r1.1.1.fAction then true else false else false else false else false else false else false else false else false else false else false else false else false else false else false else false else false else false else false else false then (oelim (cK122 m.fStamp) none fun r2 => (bif r2.1.1 then (oelim (cK72 m.fTarget) none fun r3 => (bif r3.1.1 then (oelim (cK4 m.fUtc (-32768) 32767) none fun r4 => (bif r4.1.1 then (oelim (cK4 m.fPriority1 0 255) none fun r5 => (bif r5.1.1 then (oelim (cK4 m.fPriority2 0 255) none fun r6 => (bif r6.1.1 then (oelim (cK4 m.fOrigin 0 255) none fun r7 => (bif r7.1.1 then (oelim (cK113 m.fQuality) none fun r8 => (bif r8.1.1 then (oelim (cK4 m.fSteps 0 65535) none fun r9 => (bif r9.1.1 then (oelim (cK4 m.fStartHops 0 255) none fun r10 => (bif r10.1.1 then (oelim (cK4 m.fHops 0 255) none fun r11 => (bif r11.1.1 then (oelim (cK4 m.fAction 0 15) none fun r12 => some (r12.1, ((), ()))) else some ((false, ()), ((), ())))) else some ((false, ()), ((), ())))) else some ((false, ()), ((), ())))) else some ((false, ()), ((), ())))) else some ((false, ()), ((), ())))) else some ((false, ()), ((), ())))) else some ((false, ()), ((), ())))) else some ((false, ()), ((), ())))) else some ((false, ()), ((), ())))) else some ((false, ()), ((), ())))) else some ((false, ()), ((), ())))) else some ((false, ()), ((), ()))))
def K0 : K0.T := K0.gen K64 K5 K122 K72 K4 K113
theorem K0.eq (cK64 : K64.T) (cK5 : K5.T) (cK122 : K122.T) (cK72 : K72.T) (cK4 : K4.T) (cK113 : K113.T) : EqA K0.sig (K0.H cK64 cK5 cK122 cK72 cK4 cK113) Tryz.f112 6 (K0.W (K0.gen cK64 cK5 cK122 cK72 cK4 cK113)) := by intro a x; kernel_rfl
abbrev K0.h := K0.H K64 K5 K122 K72 K4 K113
theorem K0.hints : HintsOK U Tryz.prog K0.h (fun c => c ∈ ([] : List Code)) := (hq (Z0 (Z0 (Z0 (Z0 (Z0 (Z0 Z4 K64.ok) K5.ok) K122.ok) K72.ok) K4.ok) K113.ok) Z1 (fun _ => rfl) (fun _ => rfl))
theorem K0.ok : Z3 U Tryz.prog 112 (K0.sig.native (K0.W K0)) :=
 Sig.ok K0.sig (K0.W K0) U_pure (Hn := K0.h) (gos := 6) K0.hints Tryz.func112 rfl (by kernel_rfl) (fun b h => h) rfl rfl (by decide) (K0.eq K64 K5 K122 K72 K4 K113) (by decide)
def K123.sig : Sig U := ⟨[.isl .u8, .int .i64], [], 0, [.isl .u8], false, []⟩
abbrev K123.T : Type := (List (UInt8)) → (Int) → Option (((List (UInt8)) × Unit) × Unit × Unit)
def K123.W (f : K123.T) : K123.sig.F := fun a x => f a.1 a.2.1
def K123.JC2 : Exits U := [(.normal, ⟨15, 13, [(0, .val (.isl .u8)), (1, vi_)], []⟩)]
def K123.H (cK122 : K122.T) (cK98 : K98.T) : Hints U := { Γ := (addΓ 100 (K98.sig.native (K98.W cK98)) (addΓ 151 (K122.sig.native (K122.W cK122)) noΓ)), ro := 0, base := 13, joinC := fun b => (bif Nat.beq b 2 then some K123.JC2 else none) }
def K123.gen (cK122 : K122.T) (cK98 : K98.T) : K123.T := fun b t =>
 (oelim (cK122 t) none fun r0 => (oelim ((bif !r0.1.1 then some ((b, ((0 : Int), ())), ()) else some ((b, (t, ())), ()))) none fun r1 => (oelim (cK98 r1.1.1 (iquo .i64 r1.1.2.1 1000000000) 6) none fun r2 => (oelim (cK98 r2.1.1 (irem r1.1.2.1 1000000000) 4) none fun r3 => some (r3.1, ((), ()))))))
def K123 : K123.T := K123.gen K122 K98
theorem K123.eq (cK122 : K122.T) (cK98 : K98.T) : EqA K123.sig (K123.H cK122 cK98) Tryz.f113 6 (K123.W (K123.gen cK122 cK98)) := by intro a x; kernel_rfl
abbrev K123.h := K123.H K122 K98
theorem K123.hints : HintsOK U Tryz.prog K123.h (fun c => c ∈ ([] : List Code)) := (hq (Z0 (Z0 Z4 K122.ok) K98.ok) Z1 (fun _ => rfl) (fun _ => rfl))
theorem K123.ok : Z3 U Tryz.prog 113 (K123.sig.native (K123.W K123)) :=
 Sig.ok K123.sig (K123.W K123) U_pure (Hn := K123.h) (gos := 6) K123.hints Tryz.func113 rfl (by kernel_rfl) (fun b h => h) rfl rfl (by decide) (K123.eq K122 K98) (by decide)
def K74.sig : Sig U := ⟨[.isl .u8, .data .t_api_PortID], [], 0, [.isl .u8], false, []⟩
abbrev K74.T : Type := (List (UInt8)) → (api_PortID) → Option (((List (UInt8)) × Unit) × Unit × Unit)
def K74.W (f : K74.T) : K74.sig.F := fun a x => f a.1 a.2.1
def K74.H (cK99 : K99.T) (cK98 : K98.T) : Hints U := { Γ := (addΓ 100 (K98.sig.native (K98.W cK98)) (addΓ 116 (K99.sig.native (K99.W cK99)) noΓ)), ro := 0, base := 13 }
def K74.gen (cK99 : K99.T) (cK98 : K98.T) : K74.T := fun b p =>
 (oelim (cK99 b p.fClock) none fun r0 => (oelim (cK98 r0.1.1 p.fPort 2) none fun r1 => some (r1.1, ((), ()))))
def K74 : K74.T := K74.gen K99 K98
theorem K74.eq (cK99 : K99.T) (cK98 : K98.T) : EqA K74.sig (K74.H cK99 cK98) Tryz.f114 6 (K74.W (K74.gen cK99 cK98)) := by intro a x; kernel_rfl
abbrev K74.h := K74.H K99 K98
theorem K74.hints : HintsOK U Tryz.prog K74.h (fun c => c ∈ ([] : List Code)) := (hq (Z0 (Z0 Z4 K99.ok) K98.ok) Z1 (fun _ => rfl) (fun _ => rfl))
theorem K74.ok : Z3 U Tryz.prog 114 (K74.sig.native (K74.W K74)) :=
 Sig.ok K74.sig (K74.W K74) U_pure (Hn := K74.h) (gos := 6) K74.hints Tryz.func114 rfl (by kernel_rfl) (fun b h => h) rfl rfl (by decide) (K74.eq K99 K98) (by decide)
def K114.sig : Sig U := ⟨[.isl .u8, .data .t_api_Quality], [], 0, [.isl .u8], false, []⟩
abbrev K114.T : Type := (List (UInt8)) → (api_Quality) → Option (((List (UInt8)) × Unit) × Unit × Unit)
def K114.W (f : K114.T) : K114.sig.F := fun a x => f a.1 a.2.1
def K114.H (cK98 : K98.T) : Hints U := { Γ := (addΓ 100 (K98.sig.native (K98.W cK98)) noΓ), ro := 0, base := 13 }
def K114.gen (cK98 : K98.T) : K114.T := fun b q =>
 (oelim (cK98 b q.fClass 1) none fun r0 => (oelim (cK98 r0.1.1 q.fAccuracy 1) none fun r1 => (oelim (cK98 r1.1.1 q.fVariance 2) none fun r2 => some (r2.1, ((), ())))))
def K114 : K114.T := K114.gen K98
theorem K114.eq (cK98 : K98.T) : EqA K114.sig (K114.H cK98) Tryz.f115 6 (K114.W (K114.gen cK98)) := by intro a x; kernel_rfl
abbrev K114.h := K114.H K98
theorem K114.hints : HintsOK U Tryz.prog K114.h (fun c => c ∈ ([] : List Code)) := (hq (Z0 Z4 K98.ok) Z1 (fun _ => rfl) (fun _ => rfl))
theorem K114.ok : Z3 U Tryz.prog 115 (K114.sig.native (K114.W K114)) :=
 Sig.ok K114.sig (K114.W K114) U_pure (Hn := K114.h) (gos := 6) K114.hints Tryz.func115 rfl (by kernel_rfl) (fun b h => h) rfl rfl (by decide) (K114.eq K98) (by decide)
def K3.sig : Sig U := ⟨[.isl .u8, .data .t_api_Msg], [], 0, [.isl .u8, .bool], true, []⟩
abbrev K3.T : Type := (List (UInt8)) → (api_Msg) → Option (((List (UInt8)) × Bool × Unit) × Unit × Unit)
def K3.W (f : K3.T) : K3.sig.F := fun a x => f a.1 a.2.1
def K3.JC10 : Exits U := [(.normal, ⟨80, 13, [(6, .val (.isl .u8))], []⟩)]
def K3.JC7 : Exits U := [(.normal, ⟨80, 14, [(3, .ptr 13 0 0), (6, .val (.isl .u8))], [(13, .obj .t_api_Msg)]⟩)]
def K3.JC5 : Exits U := [(.normal, ⟨80, 14, [(3, .ptr 13 0 0), (6, .val (.isl .u8))], [(13, .obj .t_api_Msg)]⟩)]
def K3.H (cK0 : K0.T) (cK6 : K6.T) (cK123 : K123.T) (cK7 : K7.T) (cK74 : K74.T) (cK98 : K98.T) (cK114 : K114.T) (cK99 : K99.T) : Hints U := { Γ := (addΓ 116 (K99.sig.native (K99.W cK99)) (addΓ 115 (K114.sig.native (K114.W cK114)) (addΓ 100 (K98.sig.native (K98.W cK98)) (addΓ 114 (K74.sig.native (K74.W cK74)) (addΓ 109 (K7.sig.native (K7.W cK7)) (addΓ 113 (K123.sig.native (K123.W cK123)) (addΓ 107 (K6.sig.native (K6.W cK6)) (addΓ 112 (K0.sig.native (K0.W cK0)) noΓ)))))))), ro := 0, base := 13, joinC := fun b => (bif Nat.beq b 5 then some K3.JC5 else (bif Nat.beq b 7 then some K3.JC7 else (bif Nat.beq b 10 then some K3.JC10 else none))) }
def K3.gen (cK0 : K0.T) (cK6 : K6.T) (cK123 : K123.T) (cK7 : K7.T) (cK74 : K74.T) (cK98 : K98.T) (cK114 : K114.T) (cK99 : K99.T) : K3.T := fun b m =>
 (oelim (cK0 m) none fun r0 => (bif !r0.1.1 then some ((b, (false, ())), ((), ())) else (bif bif le3 (ofN 0) (ofN (List.length b)) (List.length b) then ieq (ofN (List.length b)) (ofN (List.length b)) else false then (oelim (cK6 m.fType) none fun r1 => (oelim ((bif r1.1.1 then (oelim (cK123 (List.drop (Int.toNat (ofN 0)) (List.take (Int.toNat (ofN (List.length b))) b)) m.fStamp) none fun r2 => some (r2.1, (m, ()))) else some ((List.drop (Int.toNat (ofN 0)) (List.take (Int.toNat (ofN (List.length b))) b), ()), (m, ())))) none fun r3 => (oelim (cK7 r3.2.1.fType) none fun r4 => (oelim ((bif r4.1.1 then (oelim (cK74 r3.1.1 r3.2.1.fTarget) none fun r5 => some (r5.1, r3.2)) else some r3)) none fun r6 => (oelim ((bif ieq r6.2.1.fType 2 then (oelim (cK74 r6.1.1 z0_) none fun r7 => some (r7.1, ())) else (bif ieq r6.2.1.fType 11 then (oelim (cK98 r6.1.1 r6.2.1.fUtc 2) none fun r8 => (oelim (cK98 r8.1.1 0 1) none fun r9 => (oelim (cK98 r9.1.1 r6.2.1.fPriority1 1) none fun r10 => (oelim (cK114 r10.1.1 r6.2.1.fQuality) none fun r11 => (oelim (cK98 r11.1.1 r6.2.1.fPriority2 1) none fun r12 => (oelim (cK99 r12.1.1 r6.2.1.fGrand) none fun r13 => (oelim (cK98 r13.1.1 r6.2.1.fSteps 2) none fun r14 => (oelim (cK98 r14.1.1 r6.2.1.fOrigin 1) none fun r15 => some (r15.1, ()))))))))) else (bif ieq r6.2.1.fType 13 then (oelim (cK98 r6.1.1 r6.2.1.fStartHops 1) none fun r16 => (oelim (cK98 r16.1.1 r6.2.1.fHops 1) none fun r17 => (oelim (cK98 r17.1.1 r6.2.1.fAction 1) none fun r18 => (oelim (cK98 r18.1.1 0 1) none fun r19 => some (r19.1, ()))))) else some (r6.1, ()))))) none fun r20 => some ((r20.1.1, (true, ())), ((), ()))))))) else none)))
def K3 : K3.T := K3.gen K0 K6 K123 K7 K74 K98 K114 K99
theorem K3.eq (cK0 : K0.T) (cK6 : K6.T) (cK123 : K123.T) (cK7 : K7.T) (cK74 : K74.T) (cK98 : K98.T) (cK114 : K114.T) (cK99 : K99.T) : EqA K3.sig (K3.H cK0 cK6 cK123 cK7 cK74 cK98 cK114 cK99) Tryz.f61 6 (K3.W (K3.gen cK0 cK6 cK123 cK7 cK74 cK98 cK114 cK99)) := by intro a x; kernel_rfl
abbrev K3.h := K3.H K0 K6 K123 K7 K74 K98 K114 K99
theorem K3.hints : HintsOK U Tryz.prog K3.h (fun c => c ∈ ([] : List Code)) := (hq (Z0 (Z0 (Z0 (Z0 (Z0 (Z0 (Z0 (Z0 Z4 K0.ok) K6.ok) K123.ok) K7.ok) K74.ok) K98.ok) K114.ok) K99.ok) Z1 (fun _ => rfl) (fun _ => rfl))
theorem K3.ok : Z3 U Tryz.prog 61 (K3.sig.native (K3.W K3)) :=
 Sig.ok K3.sig (K3.W K3) U_pure (Hn := K3.h) (gos := 6) K3.hints Tryz.func61 rfl (by kernel_rfl) (fun b h => h) rfl rfl (by decide) (K3.eq K0 K6 K123 K7 K74 K98 K114 K99) (by decide)
def K139.sig : Sig U := ⟨[.int .i64, .int .i64, .int .i64], [], 0, [.bool], false, []⟩
abbrev K139.T : Type := (Int) → (Int) → (Int) → Option ((Bool × Unit) × Unit × Unit)
def K139.W (f : K139.T) : K139.sig.F := fun a x => f a.1 a.2.1 a.2.2.1
def K139.H : Hints U := { Γ := noΓ, ro := 0, base := 13 }
def K139.gen : K139.T := fun v least most =>
 (bif ile least v then some ((ile v most, ()), ((), ())) else some ((false, ()), ((), ())))
def K139 : K139.T := K139.gen
theorem K139.eq : EqA K139.sig (K139.H) Tryz.f99 6 (K139.W (K139.gen)) := by intro a x; kernel_rfl
theorem K139.hints : HintsOK U Tryz.prog (K139.H) (fun c => c ∈ ([] : List Code)) := (hq Z4 Z1 (fun _ => rfl) (fun _ => rfl))
theorem K139.ok : Z3 U Tryz.prog 99 (K139.sig.native (K139.W K139)) :=
 Sig.ok K139.sig (K139.W (K139.gen)) U_pure (Hn := (K139.H)) (gos := 6) K139.hints Tryz.func99 rfl (by kernel_rfl) (fun b h => h) rfl rfl (by decide) (K139.eq) (by decide)
def K129.sig : Sig U := ⟨[.data .t_api_Tlv], [], 0, [.bool], false, []⟩
abbrev K129.T : Type := (api_Tlv) → Option ((Bool × Unit) × Unit × Unit)
def K129.W (f : K129.T) : K129.sig.F := fun a x => f a.1
def K129.H (cK139 : K139.T) : Hints U := { Γ := (addΓ 99 (K139.sig.native (K139.W cK139)) noΓ), ro := 0, base := 13 }
def K129.gen (cK139 : K139.T) : K129.T := fun t =>
 (oelim (cK139 t.fType 0 65535) none fun r0 => (bif r0.1.1 then (bif ieq (irem (ofN (ByteArray.size t.fData)) 2) 0 then some ((ile (ofN (ByteArray.size t.fData)) 400, ()), ((), ())) else some ((false, ()), ((), ()))) else some ((false, ()), ((), ()))))
def K129 : K129.T := K129.gen K139
theorem K129.eq (cK139 : K139.T) : EqA K129.sig (K129.H cK139) Tryz.f117 6 (K129.W (K129.gen cK139)) := by intro a x; kernel_rfl
abbrev K129.h := K129.H K139
theorem K129.hints : HintsOK U Tryz.prog K129.h (fun c => c ∈ ([] : List Code)) := (hq (Z0 Z4 K139.ok) Z1 (fun _ => rfl) (fun _ => rfl))
theorem K129.ok : Z3 U Tryz.prog 117 (K129.sig.native (K129.W K129)) :=
 Sig.ok K129.sig (K129.W K129) U_pure (Hn := K129.h) (gos := 6) K129.hints Tryz.func117 rfl (by kernel_rfl) (fun b h => h) rfl rfl (by decide) (K129.eq K139) (by decide)
def K138.sig : Sig U := ⟨[.isl .u8, .isl .t_api_Tlv], [], 0, [.isl .u8, .bool], true, []⟩
abbrev K138.T : Type := (List (UInt8)) → (List (api_Tlv)) → Option (((List (UInt8)) × Bool × Unit) × Unit × Unit)
def K138.W (f : K138.T) : K138.sig.F := fun a x => f a.1 a.2.1
def K138.L0 : Shape U := ⟨42, 13, [(0, .val (.isl .u8)), (6, .val (.isl .u8)), (19, .val (.isl .t_api_Tlv)), (20, vi_), (21, vi_)], []⟩
def K138.X0 : Exits U := [(.exit 0, ⟨42, 13, [(6, .val (.isl .u8))], []⟩),
 (.ret, ⟨42, 13, [(4, .val (.isl .u8)), (5, vb_)], []⟩)]
abbrev K138.l0T : Type := (((List (UInt8)) × (List (UInt8)) × (List (api_Tlv)) × Int × Int × Unit) × Unit) → Option ((((List (UInt8)) × Unit) × Unit) ⊕ (((List (UInt8)) × Bool × Unit) × Unit))
def K138.C : Code := match Tryz.f62.body with | some c => c | none => .skip
def K138.B0 : Code := match (Z5 K138.C).getD 0 .skip with | .loop b => b | .scope b => b | _ => .skip
def K138.H (cK129 : K129.T) (cK98 : K98.T) (l0 : K138.l0T) : Hints U := { Γ := (addΓ 100 (K98.sig.native (K98.W cK98)) (addΓ 117 (K129.sig.native (K129.W cK129)) noΓ)), ro := 0, base := 13, loop := fun b => (bif Nat.beq b 5 then some (Zc (0, 13) K138.L0 K138.X0 l0) else none) }
def K138.step0 (cK129 : K129.T) (cK98 : K98.T) (a : ((List (UInt8)) × (List (UInt8)) × (List (api_Tlv)) × Int × Int × Unit) × Unit) : Option ((((List (UInt8)) × (List (UInt8)) × (List (api_Tlv)) × Int × Int × Unit) × Unit) ⊕ ((((List (UInt8)) × Unit) × Unit) ⊕ (((List (UInt8)) × Bool × Unit) × Unit))) :=
 (bif ilt a.1.2.2.2.2.1 a.1.2.2.2.1 then (bif inR a.1.2.2.2.2.1 (List.length a.1.2.2.1) then (oelim (cK129 (List.getD a.1.2.2.1 (Int.toNat a.1.2.2.2.2.1) api_Tlv.zero)) none fun r0 => (bif !r0.1.1 then some (.inr (.inr ((a.1.1, (false, ())), ()))) else (oelim (cK98 a.1.2.1 (List.getD a.1.2.2.1 (Int.toNat a.1.2.2.2.2.1) api_Tlv.zero).fType 2) none fun r1 => (oelim (cK98 r1.1.1 (ofN (ByteArray.size (List.getD a.1.2.2.1 (Int.toNat a.1.2.2.2.2.1) api_Tlv.zero).fData)) 2) none fun r2 => (bif room (List.length r2.1.1 + List.length (List.getD a.1.2.2.1 (Int.toNat a.1.2.2.2.2.1) api_Tlv.zero).fData.data.toList) 1 then some (.inl ((a.1.1, (r2.1.1 ++ (List.getD a.1.2.2.1 (Int.toNat a.1.2.2.2.2.1) api_Tlv.zero).fData.data.toList, (a.1.2.2.1, (a.1.2.2.2.1, (iadd .i64 a.1.2.2.2.2.1 1, ()))))), ())) else none))))) else none) else some (.inr (.inl ((a.1.2.1, ()), ()))))
def K138.F0 : K138.l0T := fun a => Za (1000000 + (a.1.1.length + a.1.2.1.length + a.1.2.2.1.length)) (K138.step0 K129 K98) a
def K138.gen (cK129 : K129.T) (cK98 : K98.T) (l0 : K138.l0T) : K138.T := fun b l =>
 (bif ilt 8 (ofN (List.length l)) then some ((b, (false, ())), ((), ())) else (bif bif le3 (ofN 0) (ofN (List.length b)) (List.length b) then ieq (ofN (List.length b)) (ofN (List.length b)) else false then (oelim (l0 ((b, List.drop (Int.toNat (ofN 0)) (List.take (Int.toNat (ofN (List.length b))) b), l, ofN (List.length l), (0 : Int), ()), ())) none fun r0 => (selim r0 (fun r1 => some ((r1.1.1, (true, ())), ((), ()))) (fun r1 => some (r1.1, ((), ()))))) else none))
def K138 : K138.T := K138.gen K129 K98 K138.F0
theorem K138.seq0 (cK129 : K129.T) (cK98 : K98.T) (l0 : K138.l0T) (a : K138.L0.T) : run Tryz.prog (K138.H cK129 cK98 l0) 6 (Option (K138.L0.T ⊕ ExT K138.X0)) none K138.B0 (K138.L0.enc a) (Zs (0, 13) K138.L0 K138.X0) = K138.step0 cK129 cK98 a := by kernel_rfl
theorem K138.inner0 : Z5 K138.B0 = ([] : List Code) := by kernel_rfl
abbrev K138.h := K138.H K129 K98 K138.F0
theorem K138.lok0 : Ze U Tryz.prog K138.h.ro K138.h.base K138.B0 (Zc (0, 13) K138.L0 K138.X0 K138.F0) :=
 Zh (Hn := K138.h) U_ok U_pure (Zl (hq (Z0 (Z0 Z4 K129.ok) K98.ok) Z1 (fun _ => rfl) (fun _ => rfl)) 6) (fun b h => by rw [K138.inner0] at h; exact h) (fun _ => rfl) (K138.seq0 K129 K98 K138.F0)
theorem K138.eq (cK129 : K129.T) (cK98 : K98.T) (l0 : K138.l0T) : EqA K138.sig (K138.H cK129 cK98 l0) Tryz.f62 6 (K138.W (K138.gen cK129 cK98 l0)) := by intro a x; kernel_rfl
theorem K138.loops : Z5 K138.C = [(.loop K138.B0)] := by kernel_rfl
theorem K138.hints : HintsOK U Tryz.prog K138.h (fun c => c ∈ [(.loop K138.B0)]) := (hq (Z0 (Z0 Z4 K129.ok) K98.ok) (Zb (by kernel_rfl) K138.lok0 Z1) (fun _ => rfl) (fun _ => rfl))
theorem K138.ok : Z3 U Tryz.prog 62 (K138.sig.native (K138.W K138)) :=
 Sig.ok K138.sig (K138.W K138) U_pure (Hn := K138.h) (code := K138.C) (gos := 6) K138.hints Tryz.func62 (by kernel_rfl) (by kernel_rfl) (fun b h => by rw [K138.loops] at h; exact h) rfl rfl (by decide) (K138.eq K129 K98 K138.F0) (by decide)
def K68.sig : Sig U := ⟨[.int .i64], [], 0, [.int .i64], false, []⟩
abbrev K68.T : Type := (Int) → Option ((Int × Unit) × Unit × Unit)
def K68.W (f : K68.T) : K68.sig.F := fun a x => f a.1
def K68.H : Hints U := { Γ := noΓ, ro := 0, base := 13 }
def K68.gen : K68.T := fun typ =>
 (bif ieq typ 0 then some (((0 : Int), ()), ((), ())) else (bif ieq typ 1 then some (((1 : Int), ()), ((), ())) else (bif ieq typ 8 then some (((2 : Int), ()), ((), ())) else (bif ieq typ 9 then some (((3 : Int), ()), ((), ())) else (bif ieq typ 13 then some (((4 : Int), ()), ((), ())) else some (((5 : Int), ()), ((), ())))))))
def K68 : K68.T := K68.gen
theorem K68.eq : EqA K68.sig (K68.H) Tryz.f119 6 (K68.W (K68.gen)) := by intro a x; kernel_rfl
theorem K68.hints : HintsOK U Tryz.prog (K68.H) (fun c => c ∈ ([] : List Code)) := (hq Z4 Z1 (fun _ => rfl) (fun _ => rfl))
theorem K68.ok : Z3 U Tryz.prog 119 (K68.sig.native (K68.W K68)) :=
 Sig.ok K68.sig (K68.W (K68.gen)) U_pure (Hn := (K68.H)) (gos := 6) K68.hints Tryz.func119 rfl (by kernel_rfl) (fun b h => h) rfl rfl (by decide) (K68.eq) (by decide)
def K67.sig : Sig U := ⟨[.data .t_api_Msg, .int .i64], [], 0, [.isl .u8, .bool], true, []⟩
abbrev K67.T : Type := (api_Msg) → (Int) → Option (((List (UInt8)) × Bool × Unit) × Unit × Unit)
def K67.W (f : K67.T) : K67.sig.F := fun a x => f a.1 a.2.1
def K67.H (cK64 : K64.T) (cK69 : K69.T) (cK98 : K98.T) (cK74 : K74.T) (cK68 : K68.T) : Hints U := { Γ := (addΓ 119 (K68.sig.native (K68.W cK68)) (addΓ 114 (K74.sig.native (K74.W cK74)) (addΓ 100 (K98.sig.native (K98.W cK98)) (addΓ 103 (K69.sig.native (K69.W cK69)) (addΓ 118 (K64.sig.native (K64.W cK64)) noΓ))))), ro := 0, base := 13, joinQ := fun b => (bif Nat.beq b 1 then some [(14, vb_)] else none) }
def K67.gen (cK64 : K64.T) (cK69 : K69.T) (cK98 : K98.T) (cK74 : K74.T) (cK68 : K68.T) : K67.T := fun m length =>
 (oelim ((oelim (cK64 m) none fun r0 => (bif !r0.1.1 then some (true, ()) else (oelim (cK69 length 34 400) none fun r1 => some (!r1.1.1, ()))))) none fun r2 => (bif r2.1 then some ((lnil UInt8, (false, ())), ((), ())) else (oelim (cK98 (UInt8.ofNat (Int.toNat (IntKind.wrap .u8 m.fType)) :: UInt8.ofNat (Int.toNat 18) :: lnil UInt8) length 2) none fun r3 => (oelim (cK98 r3.1.1 m.fDomain 1) none fun r4 => (oelim (cK98 r4.1.1 0 1) none fun r5 => (oelim (cK98 r5.1.1 m.fFlags 2) none fun r6 => (oelim (cK98 r6.1.1 m.fCorr 8) none fun r7 => (oelim (cK98 r7.1.1 0 4) none fun r8 => (oelim (cK74 r8.1.1 m.fSource) none fun r9 => (oelim (cK98 r9.1.1 m.fSeq 2) none fun r10 => (oelim (cK68 m.fType) none fun r11 => (oelim (cK98 r10.1.1 r11.1.1 1) none fun r12 => (oelim (cK98 r12.1.1 m.fLog 1) none fun r13 => some ((r13.1.1, (true, ())), ((), ())))))))))))))))
def K67 : K67.T := K67.gen K64 K69 K98 K74 K68
theorem K67.eq (cK64 : K64.T) (cK69 : K69.T) (cK98 : K98.T) (cK74 : K74.T) (cK68 : K68.T) : EqA K67.sig (K67.H cK64 cK69 cK98 cK74 cK68) Tryz.f63 6 (K67.W (K67.gen cK64 cK69 cK98 cK74 cK68)) := by intro a x; kernel_rfl
abbrev K67.h := K67.H K64 K69 K98 K74 K68
theorem K67.hints : HintsOK U Tryz.prog K67.h (fun c => c ∈ ([] : List Code)) := (hq (Z0 (Z0 (Z0 (Z0 (Z0 Z4 K64.ok) K69.ok) K98.ok) K74.ok) K68.ok) Z1 (fun _ => rfl) (fun _ => rfl))
theorem K67.ok : Z3 U Tryz.prog 63 (K67.sig.native (K67.W K67)) :=
 Sig.ok K67.sig (K67.W K67) U_pure (Hn := K67.h) (gos := 6) K67.hints Tryz.func63 rfl (by kernel_rfl) (fun b h => h) rfl rfl (by decide) (K67.eq K64 K69 K98 K74 K68) (by decide)
def K63.sig : Sig U := ⟨[.data .t_api_Msg, .isl .t_api_Tlv], [], 0, [.str, .bool], true, []⟩
abbrev K63.T : Type := (api_Msg) → (List (api_Tlv)) → Option ((ByteArray × Bool × Unit) × Unit × Unit)
def K63.W (f : K63.T) : K63.sig.F := fun a x => f a.1 a.2.1
def K63.C : Code := match Tryz.f33.body with | some c => c | none => .skip
def K63.B0 : Code := match (Z5 K63.C).getD 0 .skip with | .loop b => b | .scope b => b | _ => .skip
def K63.H (cK3 : K3.T) (cK138 : K138.T) (cK67 : K67.T) : Hints U := { Γ := (addΓ 63 (K67.sig.native (K67.W cK67)) (addΓ 62 (K138.sig.native (K138.W cK138)) (addΓ 61 (K3.sig.native (K3.W cK3)) noΓ))), ro := 0, base := 13, gotos := 3, loop := fun b => none }
def K63.gen (cK3 : K3.T) (cK138 : K138.T) (cK67 : K67.T) : K63.T := fun m l =>
 (oelim (cK3 (lnil UInt8) m) none fun r0 => (bif !r0.1.2.1 then some ((ByteArray.mk (List.toArray (lnil UInt8)), (false, ())), ((), ())) else (oelim (cK138 r0.1.1 l) none fun r1 => (bif !r1.1.2.1 then some ((ByteArray.mk (List.toArray (lnil UInt8)), (false, ())), ((), ())) else (oelim (cK67 m (iadd .i64 34 (ofN (List.length r1.1.1)))) none fun r2 => (bif !r2.1.2.1 then some ((ByteArray.mk (List.toArray (lnil UInt8)), (false, ())), ((), ())) else (bif Nat.ble (ByteArray.size (ByteArray.mk (List.toArray r2.1.1)) + ByteArray.size (ByteArray.mk (List.toArray r1.1.1))) 9223372036854775807 then some ((ByteArray.mk (List.toArray r2.1.1) ++ ByteArray.mk (List.toArray r1.1.1), (true, ())), ((), ())) else none)))))))
def K63 : K63.T := K63.gen K3 K138 K67
theorem K63.eq (cK3 : K3.T) (cK138 : K138.T) (cK67 : K67.T) : EqA K63.sig (K63.H cK3 cK138 cK67) Tryz.f33 6 (K63.W (K63.gen cK3 cK138 cK67)) := by intro a x; kernel_rfl
theorem K63.loops : Z5 K63.C = [(.scope K63.B0)] := by kernel_rfl
abbrev K63.h := K63.H K3 K138 K67
theorem K63.hints : HintsOK U Tryz.prog K63.h (fun c => c ∈ [(.scope K63.B0)]) := (hq (Z0 (Z0 (Z0 Z4 K3.ok) K138.ok) K67.ok) (ZH Z1) (fun _ => rfl) (fun _ => rfl))
theorem K63.ok : Z3 U Tryz.prog 33 (K63.sig.native (K63.W K63)) :=
 Sig.ok K63.sig (K63.W K63) U_pure (Hn := K63.h) (code := K63.C) (gos := 6) K63.hints Tryz.func33 (by kernel_rfl) (by kernel_rfl) (fun b h => by rw [K63.loops] at h; exact h) rfl rfl (by decide) (K63.eq K3 K138 K67) (by decide)
def K22.sig : Sig U := ⟨[.ptr, .int .i64, .data .t_api_Msg, .isl .t_api_Tlv, .bool], [.obj .t_clock_Clock], 0, [], true, []⟩
abbrev K22.T : Type := (Int) → (api_Msg) → (List (api_Tlv)) → (Bool) → (clock_Clock) → Option (Unit × (clock_Clock × Unit) × Unit)
def K22.W (f : K22.T) : K22.sig.F := fun a x => f a.2.1 a.2.2.1 a.2.2.2.1 a.2.2.2.2.1 x.1
def K22.H (cK63 : K63.T) : Hints U := { Γ := (addΓ 33 (K63.sig.native (K63.W cK63)) noΓ), ro := 0, base := 14 }
def K22.gen (cK63 : K63.T) : K22.T := fun n m l want h0 =>
 (oelim (cK63 m l) none fun r0 => (bif r0.1.2.1 then (bif room (List.length h0.fouts + List.length (api_Out.mk 1 n 0 want m.fType m.fSeq r0.1.1 :: lnil api_Out)) 64 then some ((), ((clock_Clock.set_fouts h0 (h0.fouts ++ api_Out.mk 1 n 0 want m.fType m.fSeq r0.1.1 :: lnil api_Out), ()), ())) else none) else some ((), ((h0, ()), ()))))
def K22 : K22.T := K22.gen K63
theorem K22.eq (cK63 : K63.T) : EqA K22.sig (K22.H cK63) Tryz.f80 6 (K22.W (K22.gen cK63)) := by intro a x; kernel_rfl
abbrev K22.h := K22.H K63
theorem K22.hints : HintsOK U Tryz.prog K22.h (fun c => c ∈ ([] : List Code)) := (hq (Z0 Z4 K63.ok) Z1 (fun _ => rfl) (fun _ => rfl))
theorem K22.ok : Z3 U Tryz.prog 80 (K22.sig.native (K22.W K22)) :=
 Sig.ok K22.sig (K22.W K22) U_pure (Hn := K22.h) (gos := 6) K22.hints Tryz.func80 rfl (by kernel_rfl) (fun b h => h) rfl rfl (by decide) (K22.eq K63) (by decide)
def K117.sig : Sig U := ⟨[.int .i64], [], 0, [.int .i64], false, []⟩
abbrev K117.T : Type := (Int) → Option ((Int × Unit) × Unit × Unit)
def K117.W (f : K117.T) : K117.sig.F := fun a x => f a.1
def K117.H : Hints U := { Γ := noΓ, ro := 0, base := 13 }
def K117.gen : K117.T := fun seq =>
 some ((iand .i64 (iadd .i64 (iand .i64 seq 65535) 1) 65535, ()), ((), ()))
def K117 : K117.T := K117.gen
theorem K117.eq : EqA K117.sig (K117.H) Tryz.f142 6 (K117.W (K117.gen)) := by intro a x; kernel_rfl
theorem K117.hints : HintsOK U Tryz.prog (K117.H) (fun c => c ∈ ([] : List Code)) := (hq Z4 Z1 (fun _ => rfl) (fun _ => rfl))
theorem K117.ok : Z3 U Tryz.prog 142 (K117.sig.native (K117.W K117)) :=
 Sig.ok K117.sig (K117.W (K117.gen)) U_pure (Hn := (K117.H)) (gos := 6) K117.hints Tryz.func142 rfl (by kernel_rfl) (fun b h => h) rfl rfl (by decide) (K117.eq) (by decide)
def K103.sig : Sig U := ⟨[.ptr], [.obj .t_peer_Exchange], 0, [], true, []⟩
abbrev K103.T : Type := (peer_Exchange) → Option (Unit × (peer_Exchange × Unit) × Unit)
def K103.W (f : K103.T) : K103.sig.F := fun a x => f x.1
def K103.H : Hints U := { Γ := noΓ, ro := 0, base := 14 }
def K103.gen : K103.T := fun h0 =>
 some ((), ((peer_Exchange.mk h0.fself h0.fdomain 0 0 false false false false z2_ 0, ()), ()))
def K103 : K103.T := K103.gen
theorem K103.eq : EqA K103.sig (K103.H) Tryz.f98 6 (K103.W (K103.gen)) := by intro a x; kernel_rfl
theorem K103.hints : HintsOK U Tryz.prog (K103.H) (fun c => c ∈ ([] : List Code)) := (hq Z4 Z1 (fun _ => rfl) (fun _ => rfl))
theorem K103.ok : Z3 U Tryz.prog 98 (K103.sig.native (K103.W K103)) :=
 Sig.ok K103.sig (K103.W (K103.gen)) U_pure (Hn := (K103.H)) (gos := 6) K103.hints Tryz.func98 rfl (by kernel_rfl) (fun b h => h) rfl rfl (by decide) (K103.eq) (by decide)
def K104.sig : Sig U := ⟨[.ptr, .int .i64], [.obj .t_peer_Exchange], 0, [.data .t_api_Msg], false, []⟩
abbrev K104.T : Type := (Int) → (peer_Exchange) → Option ((api_Msg × Unit) × (peer_Exchange × Unit) × Unit)
def K104.W (f : K104.T) : K104.sig.F := fun a x => f a.2.1 x.1
def K104.H (cK103 : K103.T) : Hints U := { Γ := (addΓ 98 (K103.sig.native (K103.W cK103)) noΓ), ro := 0, base := 14 }
def K104.gen (cK103 : K103.T) : K104.T := fun seq h0 =>
 (oelim (cK103 h0) none fun r0 => some ((api_Msg.mk 2 r0.2.1.1.fdomain 0 0 r0.2.1.1.fself (iand .i64 seq 65535) 127 0 z0_ 0 0 z1_ 0 0 0 0 0 0 0, ()), ((peer_Exchange.set_fout (peer_Exchange.set_fseq r0.2.1.1 (iand .i64 seq 65535)) true, ()), ())))
def K104 : K104.T := K104.gen K103
theorem K104.eq (cK103 : K103.T) : EqA K104.sig (K104.H cK103) Tryz.f181 6 (K104.W (K104.gen cK103)) := by intro a x; kernel_rfl
abbrev K104.h := K104.H K103
theorem K104.hints : HintsOK U Tryz.prog K104.h (fun c => c ∈ ([] : List Code)) := (hq (Z0 Z4 K103.ok) Z1 (fun _ => rfl) (fun _ => rfl))
theorem K104.ok : Z3 U Tryz.prog 181 (K104.sig.native (K104.W K104)) :=
 Sig.ok K104.sig (K104.W K104) U_pure (Hn := K104.h) (gos := 6) K104.hints Tryz.func181 rfl (by kernel_rfl) (fun b h => h) rfl rfl (by decide) (K104.eq K103) (by decide)
def K51.sig : Sig U := ⟨[.ptr, .int .i64, .int .i64], [.obj .t_delay_Exchange], 0, [.data .t_api_Msg], false, []⟩
abbrev K51.T : Type := (Int) → (Int) → (delay_Exchange) → Option ((api_Msg × Unit) × (delay_Exchange × Unit) × Unit)
def K51.W (f : K51.T) : K51.sig.F := fun a x => f a.2.1 a.2.2.1 x.1
def K51.H : Hints U := { Γ := noΓ, ro := 0, base := 14 }
def K51.gen : K51.T := fun seq a_2 h0 =>
 some ((api_Msg.mk 1 h0.fdomain 0 0 h0.fself (iand .i64 seq 65535) 127 0 z0_ 0 0 z1_ 0 0 0 0 0 0 0, ()), ((delay_Exchange.set_fr h0 (delay_request.mk (iand .i64 seq 65535) 0 true false), ()), ()))
def K51 : K51.T := K51.gen
theorem K51.eq : EqA K51.sig (K51.H) Tryz.f182 6 (K51.W (K51.gen)) := by intro a x; kernel_rfl
theorem K51.hints : HintsOK U Tryz.prog (K51.H) (fun c => c ∈ ([] : List Code)) := (hq Z4 Z1 (fun _ => rfl) (fun _ => rfl))
theorem K51.ok : Z3 U Tryz.prog 182 (K51.sig.native (K51.W K51)) :=
 Sig.ok K51.sig (K51.W (K51.gen)) U_pure (Hn := (K51.H)) (gos := 6) K51.hints Tryz.func182 rfl (by kernel_rfl) (fun b h => h) rfl rfl (by decide) (K51.eq) (by decide)
def K34.sig : Sig U := ⟨[.ptr, .bool], [.obj .t_clock_side, fm7_, fm8_], 0, [.data .t_api_Msg], false, []⟩
abbrev K34.T : Type := (Bool) → (clock_side) → (Fm delay_Exchange) → (Fm peer_Exchange) → Option ((api_Msg × Unit) × (clock_side × (Fm delay_Exchange) × (Fm peer_Exchange) × Unit) × Unit)
def K34.W (f : K34.T) : K34.sig.F := fun a x => f a.2.1 x.1 x.2.1 x.2.2.1
def K34.JR2 : Exits U := [(.normal, ⟨24, 15, [(4, .ptr 14 0 0)], [(13, .obj .t_clock_side), (14, .obj .t_api_Msg), (7, .famN false .t_delay_Exchange), (8, .famN false .t_peer_Exchange)]⟩)]
def K34.H (cK104 : K104.T) (cK51 : K51.T) : Hints U := { Γ := (addΓ 182 (K51.sig.native (K51.W cK51)) (addΓ 181 (K104.sig.native (K104.W cK104)) noΓ)), ro := 0, base := 14, joinR := fun b => (bif Nat.beq b 2 then some K34.JR2 else none) }
def K34.gen (cK104 : K104.T) (cK51 : K51.T) : K34.T := fun peer h0 g7 g8 =>
 (bif peer then (oelim ((oelim (h0.14) none fun r0 => (oelim (cK104 h0.frequests (g8.2 r0)) none fun r1 => some ((), (h0, (r1.1.1, (g7, ((g8.1, fset g8.2 r0 r1.2.1.1), ())))))))) none fun r2 => some ((r2.2.2.1, ()), ((r2.2.1, r2.2.2.2), ()))) else (oelim (h0.13) none fun r3 => (oelim (cK51 h0.frequests 0 (g7.2 r3)) none fun r4 => some (r4.1, ((h0, ((g7.1, fset g7.2 r3 r4.2.1.1), (g8, ()))), ())))))
def K34 : K34.T := K34.gen K104 K51
theorem K34.eq (cK104 : K104.T) (cK51 : K51.T) : EqA K34.sig (K34.H cK104 cK51) Tryz.f143 6 (K34.W (K34.gen cK104 cK51)) := by intro a x; kernel_rfl
abbrev K34.h := K34.H K104 K51
theorem K34.hints : HintsOK U Tryz.prog K34.h (fun c => c ∈ ([] : List Code)) := (hq (Z0 (Z0 Z4 K104.ok) K51.ok) Z1 (fun _ => rfl) (fun _ => rfl))
theorem K34.ok : Z3 U Tryz.prog 143 (K34.sig.native (K34.W K34)) :=
 Sig.ok K34.sig (K34.W K34) U_pure (Hn := K34.h) (gos := 6) K34.hints Tryz.func143 rfl (by kernel_rfl) (fun b h => h) rfl rfl (by decide) (K34.eq K104 K51) (by decide)
def K27.sig : Sig U := ⟨[.ptr, .int .i64, .int .i64], [.obj .t_clock_Clock, fm7_, fm8_, .fam 12 (.map true false .t_api_PortID .l_u64)], 0, [], true, []⟩
abbrev K27.T : Type := (Int) → (Int) → (clock_Clock) → (Fm delay_Exchange) → (Fm peer_Exchange) → (Nat × (Nat → List (api_PortID × List (Int)))) → Option (Unit × (clock_Clock × (Fm delay_Exchange) × (Fm peer_Exchange) × (Nat × (Nat → List (api_PortID × List (Int)))) × Unit) × Unit)
def K27.W (f : K27.T) : K27.sig.F := fun a x => f a.2.1 a.2.2.1 x.1 x.2.1 x.2.2.1 x.2.2.2.1
def K27.JR20 : Exits U := [(.normal, ⟨179, 14, [(0, .ptr 13 0 0), (6, .aptr 13 23 42 8 0)], (13, .obj .t_clock_Clock) :: hT3_⟩)]
def K27.JR19 : Exits U := [(.normal, ⟨179, 14, [(0, .ptr 13 0 0), (6, .aptr 13 23 42 8 0)], (13, .obj .t_clock_Clock) :: hT3_⟩)]
def K27.JR18 : Exits U := [(.normal, ⟨179, 15, [(0, .ptr 13 0 0), (1, vi_), (6, .aptr 13 23 42 8 0), (9, .ptr 14 0 0)], (13, .obj .t_clock_Clock) :: (14, .obj .t_api_Msg) :: hT3_⟩)]
def K27.JR17 : Exits U := [(.normal, ⟨179, 15, [(0, .ptr 13 0 0), (1, vi_), (6, .aptr 13 23 42 8 0), (9, .ptr 14 0 0)], (13, .obj .t_clock_Clock) :: (14, .obj .t_api_Msg) :: hT3_⟩)]
def K27.JR16 : Exits U := [(.normal, ⟨179, 14, [(0, .ptr 13 0 0), (1, vi_), (6, .aptr 13 23 42 8 0), (143, vb_)], (13, .obj .t_clock_Clock) :: hT3_⟩)]
def K27.JR11 : Exits U := [(.normal, ⟨179, 14, [(0, .ptr 13 0 0), (1, vi_), (6, .aptr 13 23 42 8 0)], (13, .obj .t_clock_Clock) :: hT3_⟩)]
def K27.JR10 : Exits U := [(.normal, ⟨179, 14, [(0, .ptr 13 0 0), (1, vi_), (6, .aptr 13 23 42 8 0)], (13, .obj .t_clock_Clock) :: hT3_⟩)]
def K27.JR6 : Exits U := [(.normal, ⟨179, 15, [(0, .ptr 13 0 0), (1, vi_), (2, vi_), (6, .aptr 13 23 42 8 0), (7, .ptr 14 0 0)], (13, .obj .t_clock_Clock) :: (14, .obj .t_api_Msg) :: hT3_⟩)]
def K27.JR5 : Exits U := [(.normal, ⟨179, 14, [(0, .ptr 13 0 0), (1, vi_), (2, vi_), (6, .aptr 13 23 42 8 0), (67, vb_)], (13, .obj .t_clock_Clock) :: hT3_⟩)]
def K27.JR3 : Exits U := [(.normal, ⟨179, 14, [(0, .ptr 13 0 0), (1, vi_), (2, vi_), (6, .aptr 13 23 42 8 0)], (13, .obj .t_clock_Clock) :: hT3_⟩)]
def K27.JR2 : Exits U := [(.normal, ⟨179, 14, [(0, .ptr 13 0 0), (1, vi_), (2, vi_), (6, .aptr 13 23 42 8 0)], (13, .obj .t_clock_Clock) :: hT3_⟩)]
def K27.JR1 : Exits U := [(.normal, ⟨179, 14, [(0, .ptr 13 0 0), (1, vi_), (2, vi_), (6, .aptr 13 23 42 8 0), (23, vb_)], (13, .obj .t_clock_Clock) :: hT3_⟩)]
def K27.JC15 : Exits U := [(.normal, ⟨179, 14, [(0, .ptr 13 0 0), (1, vi_), (6, .aptr 13 23 42 8 0), (8, vb_)], (13, .obj .t_clock_Clock) :: hT3_⟩)]
def K27.JC8 : Exits U := [(.normal, ⟨179, 15, [(0, .ptr 13 0 0), (1, vi_), (6, .aptr 13 23 42 8 0), (7, .ptr 14 0 0)], (13, .obj .t_clock_Clock) :: (14, .obj .t_api_Msg) :: hT3_⟩)]
def K27.JC6 : Exits U := [(.normal, ⟨179, 14, [(0, .ptr 13 0 0), (1, vi_), (6, .aptr 13 23 42 8 0)], (13, .obj .t_clock_Clock) :: hT3_⟩)]
def K27.JC2 : Exits U := [(.normal, ⟨179, 14, [(0, .ptr 13 0 0), (1, vi_), (2, vi_), (6, .aptr 13 23 42 8 0)], (13, .obj .t_clock_Clock) :: hT3_⟩)]
def K27.H (cK26 : K26.T) (cK128 : K128.T) (cK142 : K142.T) (cK23 : K23.T) (cK22 : K22.T) (cK117 : K117.T) (cK10 : K10.T) (cK126 : K126.T) (cK25 : K25.T) (cK124 : K124.T) (cK108 : K108.T) (cK106 : K106.T) (cK34 : K34.T) : Hints U := { Γ := (addΓ 143 (K34.sig.native (K34.W cK34)) (addΓ 74 (K106.sig.native (K106.W cK106)) (addΓ 76 (K108.sig.native (K108.W cK108)) (addΓ 132 (K124.sig.native (K124.W cK124)) (addΓ 79 (K25.sig.native (K25.W cK25)) (addΓ 126 (K126.sig.native (K126.W cK126)) (addΓ 70 (K10.sig.native (K10.W cK10)) (addΓ 142 (K117.sig.native (K117.W cK117)) (addΓ 80 (K22.sig.native (K22.W cK22)) (addΓ 141 (K23.sig.native (K23.W cK23)) (addΓ 140 (K142.sig.native (K142.W cK142)) (addΓ 130 (K128.sig.native (K128.W cK128)) (addΓ 52 (K26.sig.native (K26.W cK26)) noΓ))))))))))))), ro := 0, base := 14, joinR := fun b => (bif Nat.beq b 1 then some K27.JR1 else (bif Nat.beq b 2 then some K27.JR2 else (bif Nat.beq b 3 then some K27.JR3 else (bif Nat.beq b 5 then some K27.JR5 else (bif Nat.beq b 6 then some K27.JR6 else (bif Nat.beq b 10 then some K27.JR10 else (bif Nat.beq b 11 then some K27.JR11 else (bif Nat.beq b 16 then some K27.JR16 else (bif Nat.beq b 17 then some K27.JR17 else (bif Nat.beq b 18 then some K27.JR18 else (bif Nat.beq b 19 then some K27.JR19 else (bif Nat.beq b 20 then some K27.JR20 else none)))))))))))), joinC := fun b => (bif Nat.beq b 2 then some K27.JC2 else (bif Nat.beq b 6 then some K27.JC6 else (bif Nat.beq b 8 then some K27.JC8 else (bif Nat.beq b 15 then some K27.JC15 else none)))) }
def K27.gen (cK26 : K26.T) (cK128 : K128.T) (cK142 : K142.T) (cK23 : K23.T) (cK22 : K22.T) (cK117 : K117.T) (cK10 : K10.T) (cK126 : K126.T) (cK25 : K25.T) (cK124 : K124.T) (cK108 : K108.T) (cK106 : K106.T) (cK34 : K34.T) : K27.T := fun n now h0 g7 g8 g12 =>
 (oelim (cK26 n h0) none fun r0 => (oelim ((bif ieq (h0.fports r0.1.1).fstate 6 then (oelim (cK128 (h0.fports r0.1.1).fannounce) none fun r1 => some ((n, (now, (r0.1.1, r1.1))), (clock_Clock.set_fports h0 (fset h0.fports r0.1.1 (clock_side.set_fannounce (h0.fports r0.1.1) r1.2.1.1)), (g7, (g8, (g12, ())))))) else some ((n, (now, (r0.1.1, (false, ())))), (h0, (g7, (g8, (g12, ()))))))) none fun r2 => (oelim ((bif r2.1.2.2.2.1 then (oelim ((oelim (cK142 r2.2.1.fconf r2.2.1.fparent r2.1.1 (r2.2.1.fports r2.1.2.2.1).fannounces) none fun r3 => (oelim (cK23 r2.2.1 r2.2.2.2.2.1) none fun r4 => (oelim (cK22 r2.1.1 r3.1.1 r4.1.1 false r2.2.1) none fun r5 => some ((r2.1.1, (r2.1.2.1, (r2.1.2.2.1, ()))), (r5.2.1.1, r2.2.2)))))) none fun r6 => (oelim ((oelim (cK117 (r6.2.1.fports r6.1.2.2.1).fannounces) none fun r7 => some (r6.1, (clock_Clock.set_fports r6.2.1 (fset r6.2.1.fports r6.1.2.2.1 (clock_side.set_fannounces (r6.2.1.fports r6.1.2.2.1) r7.1.1)), r6.2.2)))) none fun r8 => (oelim (cK10 r8.2.1) none fun r9 => (oelim (cK126 r9.1.1 (r8.2.1.fports r8.1.2.2.1).fannounce) none fun r10 => some (r8.1, (clock_Clock.set_fports r8.2.1 (fset r8.2.1.fports r8.1.2.2.1 (clock_side.set_fannounce (r8.2.1.fports r8.1.2.2.1) r10.2.1.1)), r8.2.2)))))) else some ((r2.1.1, (r2.1.2.1, (r2.1.2.2.1, ()))), r2.2))) none fun r11 => (oelim ((bif ieq (r11.2.1.fports r11.1.2.2.1).fstate 6 then (oelim (cK128 (r11.2.1.fports r11.1.2.2.1).fsync) none fun r12 => some ((r11.1.1, (r11.1.2.1, (r11.1.2.2.1, r12.1))), (clock_Clock.set_fports r11.2.1 (fset r11.2.1.fports r11.1.2.2.1 (clock_side.set_fsync (r11.2.1.fports r11.1.2.2.1) r12.2.1.1)), r11.2.2))) else some ((r11.1.1, (r11.1.2.1, (r11.1.2.2.1, (false, ())))), r11.2))) none fun r13 => (oelim ((bif r13.1.2.2.2.1 then (oelim ((oelim (cK25 r13.1.1 r13.2.1) none fun r14 => some ((r13.1.1, (r13.1.2.1, (r13.1.2.2.1, ()))), (r13.2.1, (api_Msg.mk 0 r13.2.1.fconf.fDomain 0 0 r14.1.1 (r13.2.1.fports r13.1.2.2.1).fsyncs r13.2.1.fconf.fLogSync 0 z0_ 0 0 z1_ 0 0 0 0 0 0 0, r13.2.2))))) none fun r15 => (oelim ((bif r15.2.1.fconf.fOneStep then some ((r15.1.1, r15.1.2.2), (r15.2.1, (api_Msg.set_fStamp r15.2.2.1 r15.1.2.1, r15.2.2.2))) else some ((r15.1.1, r15.1.2.2), (r15.2.1, (api_Msg.set_fFlags r15.2.2.1 512, r15.2.2.2))))) none fun r16 => (oelim ((oelim (cK22 r16.1.1 r16.2.2.1 (lnil api_Tlv) (!r16.2.1.fconf.fOneStep) r16.2.1) none fun r17 => some (r16.1, (r17.2.1.1, r16.2.2.2)))) none fun r18 => (oelim ((oelim (cK117 (r18.2.1.fports r18.1.2.1).fsyncs) none fun r19 => some (r18.1, (clock_Clock.set_fports r18.2.1 (fset r18.2.1.fports r18.1.2.1 (clock_side.set_fsyncs (r18.2.1.fports r18.1.2.1) r19.1.1)), r18.2.2)))) none fun r20 => (oelim (cK124 r20.2.1.fconf.fLogSync) none fun r21 => (oelim (cK126 r21.1.1 (r20.2.1.fports r20.1.2.1).fsync) none fun r22 => some (r20.1, (clock_Clock.set_fports r20.2.1 (fset r20.2.1.fports r20.1.2.1 (clock_side.set_fsync (r20.2.1.fports r20.1.2.1) r22.2.1.1)), r20.2.2)))))))) else some ((r13.1.1, (r13.1.2.2.1, ())), r13.2))) none fun r23 => (oelim (cK108 (r23.2.1.fports r23.1.2.1).fstate) none fun r24 => (oelim ((bif r23.2.1.fconf.fPeer then (oelim (cK106 (r23.2.1.fports r23.1.2.1).fstate) none fun r25 => some ((r23.1.1, (r23.1.2.1, r25.1)), r23.2)) else some ((r23.1.1, (r23.1.2.1, r24.1)), r23.2))) none fun r26 => (oelim ((bif r26.1.2.2.1 then (oelim (cK128 (r26.2.1.fports r26.1.2.1).fask) none fun r27 => some ((r26.1.1, (r26.1.2.1, r27.1)), (clock_Clock.set_fports r26.2.1 (fset r26.2.1.fports r26.1.2.1 (clock_side.set_fask (r26.2.1.fports r26.1.2.1) r27.2.1.1)), r26.2.2))) else some ((r26.1.1, (r26.1.2.1, (false, ()))), r26.2))) none fun r28 => (bif r28.1.2.2.1 then (oelim ((oelim (cK34 r28.2.1.fconf.fPeer (r28.2.1.fports r28.1.2.1) r28.2.2.1 r28.2.2.2.1) none fun r29 => some ((r28.1.1, (r28.1.2.1, ())), (clock_Clock.set_fports r28.2.1 (fset r28.2.1.fports r28.1.2.1 r29.2.1.1), (r29.1.1, (r29.2.1.2.1, (r29.2.1.2.2.1, r28.2.2.2.2))))))) none fun r30 => (oelim ((oelim (cK22 r30.1.1 (api_Msg.set_fDomain r30.2.2.1 r30.2.1.fconf.fDomain) (lnil api_Tlv) true r30.2.1) none fun r31 => some (r30.1.2, (r31.2.1.1, r30.2.2.2)))) none fun r32 => (oelim ((oelim (cK117 (r32.2.1.fports r32.1.1).frequests) none fun r33 => some (r32.1, (clock_Clock.set_fports r32.2.1 (fset r32.2.1.fports r32.1.1 (clock_side.set_frequests (r32.2.1.fports r32.1.1) r33.1.1)), r32.2.2)))) none fun r34 => (oelim (cK124 r34.2.1.fconf.fLogDelay) none fun r35 => (oelim (cK126 r35.1.1 (r34.2.1.fports r34.1.1).fask) none fun r36 => some ((), ((clock_Clock.set_fports r34.2.1 (fset r34.2.1.fports r34.1.1 (clock_side.set_fask (r34.2.1.fports r34.1.1) r36.2.1.1)), r34.2.2), ()))))))) else some ((), (r28.2, ())))))))))))
def K27 : K27.T := K27.gen K26 K128 K142 K23 K22 K117 K10 K126 K25 K124 K108 K106 K34
theorem K27.eq (cK26 : K26.T) (cK128 : K128.T) (cK142 : K142.T) (cK23 : K23.T) (cK22 : K22.T) (cK117 : K117.T) (cK10 : K10.T) (cK126 : K126.T) (cK25 : K25.T) (cK124 : K124.T) (cK108 : K108.T) (cK106 : K106.T) (cK34 : K34.T) : EqA K27.sig (K27.H cK26 cK128 cK142 cK23 cK22 cK117 cK10 cK126 cK25 cK124 cK108 cK106 cK34) Tryz.f72 6 (K27.W (K27.gen cK26 cK128 cK142 cK23 cK22 cK117 cK10 cK126 cK25 cK124 cK108 cK106 cK34)) := by intro a x; kernel_rfl
abbrev K27.h := K27.H K26 K128 K142 K23 K22 K117 K10 K126 K25 K124 K108 K106 K34
theorem K27.hints : HintsOK U Tryz.prog K27.h (fun c => c ∈ ([] : List Code)) := (hq (Z0 (Z0 (Z0 (Z0 (Z0 (Z0 (Z0 (Z0 (Z0 (Z0 (Z0 (Z0 (Z0 Z4 K26.ok) K128.ok) K142.ok) K23.ok) K22.ok) K117.ok) K10.ok) K126.ok) K25.ok) K124.ok) K108.ok) K106.ok) K34.ok) Z1 (fun _ => rfl) (fun _ => rfl))
theorem K27.ok : Z3 U Tryz.prog 72 (K27.sig.native (K27.W K27)) :=
 Sig.ok K27.sig (K27.W K27) U_pure (Hn := K27.h) (gos := 6) K27.hints Tryz.func72 rfl (by kernel_rfl) (fun b h => h) rfl rfl (by decide) (K27.eq K26 K128 K142 K23 K22 K117 K10 K126 K25 K124 K108 K106 K34) (by decide)
def K28.sig : Sig U := ⟨[.ptr, .int .i64], [.obj .t_clock_Clock, fm6_, fm7_, fm8_, fm9_, fm10_, .fam 12 (.map true false .t_api_PortID .l_u64)], 0, [], true, []⟩
abbrev K28.T : Type := (Int) → (clock_Clock) → (Fm foreign_Table) → (Fm delay_Exchange) → (Fm peer_Exchange) → (Fm median_Filter) → (Fm seq_Match) → (Nat × (Nat → List (api_PortID × List (Int)))) → Option (Unit × (clock_Clock × qT3_) × Unit)
def K28.W (f : K28.T) : K28.sig.F := fun a x => f a.2.1 x.1 x.2.1 x.2.2.1 x.2.2.2.1 x.2.2.2.2.1 x.2.2.2.2.2.1 x.2.2.2.2.2.2.1
def K28.L0 : Shape U := ⟨52, 14, [(0, .ptr 13 0 0), (1, vi_), (4, vi_)], (13, .obj .t_clock_Clock) :: hT4_⟩
def K28.X0 : Exits U := [(.exit 0, ⟨52, 14, [(0, .ptr 13 0 0), (1, vi_)], (13, .obj .t_clock_Clock) :: hT4_⟩)]
abbrev K28.l0T : Type := ((Int × Int × Unit) × (clock_Clock × qT3_)) → Option (((Int × Unit) × (clock_Clock × qT3_)))
def K28.L1 : Shape U := ⟨52, 14, [(0, .ptr 13 0 0), (1, vi_), (5, vi_)], (13, .obj .t_clock_Clock) :: hT4_⟩
def K28.X1 : Exits U := [(.exit 2, ⟨52, 14, [], (13, .obj .t_clock_Clock) :: hT4_⟩)]
abbrev K28.l1T : Type := ((Int × Int × Unit) × (clock_Clock × qT3_)) → Option ((Unit × (clock_Clock × qT3_)))
def K28.C : Code := match Tryz.f44.body with | some c => c | none => .skip
def K28.B0 : Code := match (Z5 K28.C).getD 0 .skip with | .loop b => b | .scope b => b | _ => .skip
def K28.B1 : Code := match (Z5 K28.C).getD 1 .skip with | .loop b => b | .scope b => b | _ => .skip
def K28.JR10 : Exits U := [(.normal, ⟨52, 14, [(0, .ptr 13 0 0), (1, vi_), (5, vi_)], (13, .obj .t_clock_Clock) :: hT4_⟩)]
def K28.JR4 : Exits U := [(.normal, ⟨52, 14, [(0, .ptr 13 0 0), (1, vi_), (4, vi_)], (13, .obj .t_clock_Clock) :: hT4_⟩)]
def K28.JR0 : Exits U := [(.normal, ⟨52, 14, [(0, .ptr 13 0 0), (1, vi_)], (13, .obj .t_clock_Clock) :: hT4_⟩)]
def K28.JC6 : Exits U := [(.normal, ⟨52, 14, [(0, .ptr 13 0 0), (1, vi_)], (13, .obj .t_clock_Clock) :: hT4_⟩)]
def K28.H (cK26 : K26.T) (cK14 : K14.T) (cK10 : K10.T) (cK15 : K15.T) (cK27 : K27.T) (l0 : K28.l0T) (l1 : K28.l1T) : Hints U := { Γ := (addΓ 72 (K27.sig.native (K27.W cK27)) (addΓ 71 (K15.sig.native (K15.W cK15)) (addΓ 70 (K10.sig.native (K10.W cK10)) (addΓ 69 (K14.sig.native (K14.W cK14)) (addΓ 52 (K26.sig.native (K26.W cK26)) noΓ))))), ro := 0, base := 14, joinR := fun b => (bif Nat.beq b 0 then some K28.JR0 else (bif Nat.beq b 4 then some K28.JR4 else (bif Nat.beq b 10 then some K28.JR10 else none))), joinC := fun b => (bif Nat.beq b 6 then some K28.JC6 else none), loop := fun b => (bif Nat.beq b 2 then some (Zc (0, 14) K28.L0 K28.X0 l0) else (bif Nat.beq b 8 then some (Zc (0, 14) K28.L1 K28.X1 l1) else none)) }
def K28.step1 (cK26 : K26.T) (cK14 : K14.T) (cK10 : K10.T) (cK15 : K15.T) (cK27 : K27.T) (a : (Int × Int × Unit) × (clock_Clock × qT3_)) : Option (((Int × Int × Unit) × (clock_Clock × qT3_)) ⊕ ((Unit × (clock_Clock × qT3_)))) :=
 (bif ile a.1.2.1 a.2.1.fconf.fPorts then (oelim ((oelim (cK27 a.1.2.1 a.1.1 a.2.1 a.2.2.2.1 a.2.2.2.2.1 a.2.2.2.2.2.2.2.1) none fun r0 => some (a.1, (r0.2.1.1, (a.2.2.1, (r0.2.1.2.1, (r0.2.1.2.2.1, (a.2.2.2.2.2.1, (a.2.2.2.2.2.2.1, r0.2.1.2.2.2))))))))) none fun r1 => some (.inl ((r1.1.1, (iadd .i64 r1.1.2.1 1, ())), r1.2))) else some (.inr ((), a.2)))
def K28.F1 : K28.l1T := fun a => Za (1000000) (K28.step1 K26 K14 K10 K15 K27) a
def K28.step0 (cK26 : K26.T) (cK14 : K14.T) (cK10 : K10.T) (cK15 : K15.T) (cK27 : K27.T) (a : (Int × Int × Unit) × (clock_Clock × qT3_)) : Option (((Int × Int × Unit) × (clock_Clock × qT3_)) ⊕ (((Int × Unit) × (clock_Clock × qT3_)))) :=
 (bif ile a.1.2.1 a.2.1.fconf.fPorts then (oelim ((oelim (cK26 a.1.2.1 a.2.1) none fun r0 => (oelim (cK14 r0.1.1 a.2.1 a.2.2.1 a.2.2.2.2.2.2.2.1) none fun r1 => some (a.1, (r1.2.1.1, (r1.2.1.2.1, (a.2.2.2.1, (a.2.2.2.2.1, (a.2.2.2.2.2.1, (a.2.2.2.2.2.2.1, r1.2.1.2.2)))))))))) none fun r2 => some (.inl ((r2.1.1, (iadd .i64 r2.1.2.1 1, ())), r2.2))) else some (.inr ((a.1.1, ()), a.2)))
def K28.F0 : K28.l0T := fun a => Za (1000000) (K28.step0 K26 K14 K10 K15 K27) a
def K28.gen (cK26 : K26.T) (cK14 : K14.T) (cK10 : K10.T) (cK15 : K15.T) (cK27 : K27.T) (l0 : K28.l0T) (l1 : K28.l1T) : K28.T := fun now h0 g6 g7 g8 g9 g10 g12 =>
 (oelim (l0 ((now, (1 : Int), ()), clock_Clock.set_fticks h0 (Z7 false (iadd .i64 h0.fticks 1) 1099511627776), g6, g7, g8, g9, g10, g12, ())) none fun r0 => (oelim (cK10 r0.2.1) none fun r1 => (bif ine r1.1.1 0 then (oelim ((bif ieq (irem r0.2.1.fticks r1.1.1) 0 then (oelim (cK15 r0.2.1 r0.2.2.1 r0.2.2.2.1 r0.2.2.2.2.2.1 r0.2.2.2.2.2.2.1) none fun r2 => some (r0.1, (r2.2.1.1, (r2.2.1.2.1, (r2.2.1.2.2.1, (r0.2.2.2.2.1, (r2.2.1.2.2.2.1, (r2.2.1.2.2.2.2.1, r0.2.2.2.2.2.2.2)))))))) else some r0)) none fun r3 => (oelim (l1 ((r3.1.1, (1 : Int), ()), r3.2)) none fun r4 => some ((), (r4.2, ())))) else none)))
def K28 : K28.T := K28.gen K26 K14 K10 K15 K27 K28.F0 K28.F1
theorem K28.seq1 (cK26 : K26.T) (cK14 : K14.T) (cK10 : K10.T) (cK15 : K15.T) (cK27 : K27.T) (l0 : K28.l0T) (l1 : K28.l1T) (a : K28.L1.T) : run Tryz.prog (K28.H cK26 cK14 cK10 cK15 cK27 l0 l1) 6 (Option (K28.L1.T ⊕ ExT K28.X1)) none K28.B1 (K28.L1.enc a) (Zs (0, 14) K28.L1 K28.X1) = K28.step1 cK26 cK14 cK10 cK15 cK27 a := by kernel_rfl
theorem K28.inner1 : Z5 K28.B1 = ([] : List Code) := by kernel_rfl
abbrev K28.h := K28.H K26 K14 K10 K15 K27 K28.F0 K28.F1
theorem K28.lok1 : Ze U Tryz.prog K28.h.ro K28.h.base K28.B1 (Zc (0, 14) K28.L1 K28.X1 K28.F1) :=
 Zh (Hn := K28.h) U_ok U_pure (Zl (hq (Z0 (Z0 (Z0 (Z0 (Z0 Z4 K26.ok) K14.ok) K10.ok) K15.ok) K27.ok) Z1 (fun _ => rfl) (fun _ => rfl)) 6) (fun b h => by rw [K28.inner1] at h; exact h) (fun _ => rfl) (K28.seq1 K26 K14 K10 K15 K27 K28.F0 K28.F1)
theorem K28.seq0 (cK26 : K26.T) (cK14 : K14.T) (cK10 : K10.T) (cK15 : K15.T) (cK27 : K27.T) (l0 : K28.l0T) (l1 : K28.l1T) (a : K28.L0.T) : run Tryz.prog (K28.H cK26 cK14 cK10 cK15 cK27 l0 l1) 6 (Option (K28.L0.T ⊕ ExT K28.X0)) none K28.B0 (K28.L0.enc a) (Zs (0, 14) K28.L0 K28.X0) = K28.step0 cK26 cK14 cK10 cK15 cK27 a := by kernel_rfl
theorem K28.inner0 : Z5 K28.B0 = ([] : List Code) := by kernel_rfl
theorem K28.lok0 : Ze U Tryz.prog K28.h.ro K28.h.base K28.B0 (Zc (0, 14) K28.L0 K28.X0 K28.F0) :=
 Zh (Hn := K28.h) U_ok U_pure (Zl (hq (Z0 (Z0 (Z0 (Z0 (Z0 Z4 K26.ok) K14.ok) K10.ok) K15.ok) K27.ok) Z1 (fun _ => rfl) (fun _ => rfl)) 6) (fun b h => by rw [K28.inner0] at h; exact h) (fun _ => rfl) (K28.seq0 K26 K14 K10 K15 K27 K28.F0 K28.F1)
theorem K28.eq (cK26 : K26.T) (cK14 : K14.T) (cK10 : K10.T) (cK15 : K15.T) (cK27 : K27.T) (l0 : K28.l0T) (l1 : K28.l1T) : EqA K28.sig (K28.H cK26 cK14 cK10 cK15 cK27 l0 l1) Tryz.f44 6 (K28.W (K28.gen cK26 cK14 cK10 cK15 cK27 l0 l1)) := by intro a x; kernel_rfl
theorem K28.loops : Z5 K28.C = [(.loop K28.B0), (.loop K28.B1)] := by kernel_rfl
theorem K28.hints : HintsOK U Tryz.prog K28.h (fun c => c ∈ [(.loop K28.B0), (.loop K28.B1)]) := (hq (Z0 (Z0 (Z0 (Z0 (Z0 Z4 K26.ok) K14.ok) K10.ok) K15.ok) K27.ok) (Zb (by kernel_rfl) K28.lok0 (Zb (by kernel_rfl) K28.lok1 Z1)) (fun _ => rfl) (fun _ => rfl))
theorem K28.ok : Z3 U Tryz.prog 44 (K28.sig.native (K28.W K28)) :=
 Sig.ok K28.sig (K28.W K28) U_pure (Hn := K28.h) (code := K28.C) (gos := 6) K28.hints Tryz.func44 (by kernel_rfl) (by kernel_rfl) (fun b h => by rw [K28.loops] at h; exact h) rfl rfl (by decide) (K28.eq K26 K14 K10 K15 K27 K28.F0 K28.F1) (by decide)
def K101.sig : Sig U := ⟨[.isl .u8, .int .i64, .int .i64], [], 0, [.bool], false, []⟩
abbrev K101.T : Type := (List (UInt8)) → (Int) → (Int) → Option ((Bool × Unit) × Unit × Unit)
def K101.W (f : K101.T) : K101.sig.F := fun a x => f a.1 a.2.1 a.2.2.1
def K101.H : Hints U := { Γ := noΓ, ro := 0, base := 13 }
def K101.gen : K101.T := fun b at_1 n =>
 (bif ilt n 0 then some ((true, ()), ((), ())) else (bif ilt at_1 0 then some ((true, ()), ((), ())) else (bif ilt (ofN (List.length b)) at_1 then some ((true, ()), ((), ())) else some ((ilt (isub .i64 (ofN (List.length b)) at_1) n, ()), ((), ())))))
def K101 : K101.T := K101.gen
theorem K101.eq : EqA K101.sig (K101.H) Tryz.f167 6 (K101.W (K101.gen)) := by intro a x; kernel_rfl
theorem K101.hints : HintsOK U Tryz.prog (K101.H) (fun c => c ∈ ([] : List Code)) := (hq Z4 Z1 (fun _ => rfl) (fun _ => rfl))
theorem K101.ok : Z3 U Tryz.prog 167 (K101.sig.native (K101.W K101)) :=
 Sig.ok K101.sig (K101.W (K101.gen)) U_pure (Hn := (K101.H)) (gos := 6) K101.hints Tryz.func167 rfl (by kernel_rfl) (fun b h => h) rfl rfl (by decide) (K101.eq) (by decide)
def K102.sig : Sig U := ⟨[.isl .u8], [], 0, [.int .u64], false, []⟩
abbrev K102.T : Type := (List (UInt8)) → Option ((Int × Unit) × Unit × Unit)
def K102.W (f : K102.T) : K102.sig.F := fun a x => f a.1
def K102.L0 : Shape U := ⟨19, 13, [(3, .val (.int .u64)), (6, .val (.isl .u8)), (7, vi_), (8, vi_)], []⟩
def K102.X0 : Exits U := [(.exit 0, ⟨19, 13, [(3, .val (.int .u64))], []⟩)]
abbrev K102.l0T : Type := ((Int × (List (UInt8)) × Int × Int × Unit) × Unit) → Option (((Int × Unit) × Unit))
def K102.C : Code := match Tryz.f168.body with | some c => c | none => .skip
def K102.B0 : Code := match (Z5 K102.C).getD 0 .skip with | .loop b => b | .scope b => b | _ => .skip
def K102.H (l0 : K102.l0T) : Hints U := { Γ := noΓ, ro := 0, base := 13, loop := fun b => (bif Nat.beq b 3 then some (Zc (0, 13) K102.L0 K102.X0 l0) else none) }
def K102.step0 (a : (Int × (List (UInt8)) × Int × Int × Unit) × Unit) : Option (((Int × (List (UInt8)) × Int × Int × Unit) × Unit) ⊕ (((Int × Unit) × Unit))) :=
 (bif ilt a.1.2.2.2.1 a.1.2.2.1 then (bif inR a.1.2.2.2.1 (List.length a.1.2.1) then some (.inl ((ior .u64 (ishl .u64 a.1.1 8) (IntKind.wrap .u64 (ofN (UInt8.toNat (List.getD a.1.2.1 (Int.toNat a.1.2.2.2.1) (0 : D UC.u8))))), (a.1.2.1, (a.1.2.2.1, (iadd .i64 a.1.2.2.2.1 1, ())))), ())) else none) else some (.inr ((a.1.1, ()), ())))
def K102.F0 : K102.l0T := fun a => Za (1000000 + (a.1.2.1.length)) (K102.step0) a
def K102.gen (l0 : K102.l0T) : K102.T := fun b =>
 (oelim (l0 (((0 : Int), b, ofN (List.length b), (0 : Int), ()), ())) none fun r0 => some (r0.1, ((), ())))
def K102 : K102.T := K102.gen K102.F0
theorem K102.seq0 (l0 : K102.l0T) (a : K102.L0.T) : run Tryz.prog (K102.H l0) 6 (Option (K102.L0.T ⊕ ExT K102.X0)) none K102.B0 (K102.L0.enc a) (Zs (0, 13) K102.L0 K102.X0) = K102.step0 a := by kernel_rfl
theorem K102.inner0 : Z5 K102.B0 = ([] : List Code) := by kernel_rfl
abbrev K102.h := K102.H K102.F0
theorem K102.lok0 : Ze U Tryz.prog K102.h.ro K102.h.base K102.B0 (Zc (0, 13) K102.L0 K102.X0 K102.F0) :=
 Zh (Hn := K102.h) U_ok U_pure (Zl (hq Z4 Z1 (fun _ => rfl) (fun _ => rfl)) 6) (fun b h => by rw [K102.inner0] at h; exact h) (fun _ => rfl) (K102.seq0 K102.F0)
theorem K102.eq (l0 : K102.l0T) : EqA K102.sig (K102.H l0) Tryz.f168 6 (K102.W (K102.gen l0)) := by intro a x; kernel_rfl
theorem K102.loops : Z5 K102.C = [(.loop K102.B0)] := by kernel_rfl
theorem K102.hints : HintsOK U Tryz.prog K102.h (fun c => c ∈ [(.loop K102.B0)]) := (hq Z4 (Zb (by kernel_rfl) K102.lok0 Z1) (fun _ => rfl) (fun _ => rfl))
theorem K102.ok : Z3 U Tryz.prog 168 (K102.sig.native (K102.W K102)) :=
 Sig.ok K102.sig (K102.W K102) U_pure (Hn := K102.h) (code := K102.C) (gos := 6) K102.hints Tryz.func168 (by kernel_rfl) (by kernel_rfl) (fun b h => by rw [K102.loops] at h; exact h) rfl rfl (by decide) (K102.eq K102.F0) (by decide)
def K96.sig : Sig U := ⟨[.isl .u8, .int .i64, .int .i64], [], 0, [.int .i64, .bool], true, []⟩
abbrev K96.T : Type := (List (UInt8)) → (Int) → (Int) → Option ((Int × Bool × Unit) × Unit × Unit)
def K96.W (f : K96.T) : K96.sig.F := fun a x => f a.1 a.2.1 a.2.2.1
def K96.H (cK101 : K101.T) (cK102 : K102.T) : Hints U := { Γ := (addΓ 168 (K102.sig.native (K102.W cK102)) (addΓ 167 (K101.sig.native (K101.W cK101)) noΓ)), ro := 0, base := 13, joinQ := fun b => (bif Nat.beq b 1 then some [(19, vb_)] else none) }
def K96.gen (cK101 : K101.T) (cK102 : K102.T) : K96.T := fun b at_1 n =>
 (oelim ((bif ilt n 1 then some (true, ()) else (bif ilt 7 n then some (true, ()) else (oelim (cK101 b at_1 n) none fun r0 => some r0.1)))) none fun r1 => (bif r1.1 then some (((0 : Int), (false, ())), ((), ())) else (bif le3 at_1 (iadd .i64 at_1 n) (List.length b) then (oelim (cK102 (List.drop (Int.toNat at_1) (List.take (Int.toNat (iadd .i64 at_1 n)) b))) none fun r2 => some ((IntKind.wrap .i64 r2.1.1, (true, ())), ((), ()))) else none)))
def K96 : K96.T := K96.gen K101 K102
theorem K96.eq (cK101 : K101.T) (cK102 : K102.T) : EqA K96.sig (K96.H cK101 cK102) Tryz.f101 6 (K96.W (K96.gen cK101 cK102)) := by intro a x; kernel_rfl
abbrev K96.h := K96.H K101 K102
theorem K96.hints : HintsOK U Tryz.prog K96.h (fun c => c ∈ ([] : List Code)) := (hq (Z0 (Z0 Z4 K101.ok) K102.ok) Z1 (fun _ => rfl) (fun _ => rfl))
theorem K96.ok : Z3 U Tryz.prog 101 (K96.sig.native (K96.W K96)) :=
 Sig.ok K96.sig (K96.W K96) U_pure (Hn := K96.h) (gos := 6) K96.hints Tryz.func101 rfl (by kernel_rfl) (fun b h => h) rfl rfl (by decide) (K96.eq K101 K102) (by decide)
def K100.sig : Sig U := ⟨[.isl .u8, .int .i64, .int .i64], [], 0, [.int .i64, .bool], true, []⟩
abbrev K100.T : Type := (List (UInt8)) → (Int) → (Int) → Option ((Int × Bool × Unit) × Unit × Unit)
def K100.W (f : K100.T) : K100.sig.F := fun a x => f a.1 a.2.1 a.2.2.1
def K100.H (cK101 : K101.T) (cK102 : K102.T) : Hints U := { Γ := (addΓ 168 (K102.sig.native (K102.W cK102)) (addΓ 167 (K101.sig.native (K101.W cK101)) noΓ)), ro := 0, base := 13, joinQ := fun b => (bif Nat.beq b 1 then some [(20, vb_)] else none) }
def K100.gen (cK101 : K101.T) (cK102 : K102.T) : K100.T := fun b at_1 n =>
 (oelim ((bif ilt n 1 then some (true, ()) else (bif ilt 8 n then some (true, ()) else (oelim (cK101 b at_1 n) none fun r0 => some r0.1)))) none fun r1 => (bif r1.1 then some (((0 : Int), (false, ())), ((), ())) else (bif le3 at_1 (iadd .i64 at_1 n) (List.length b) then (oelim (cK102 (List.drop (Int.toNat at_1) (List.take (Int.toNat (iadd .i64 at_1 n)) b))) none fun r2 => (bif ile 0 (isub .i64 64 (imul .i64 8 n)) then (bif ile 0 (isub .i64 64 (imul .i64 8 n)) then some ((ishr .i64 (IntKind.wrap .i64 (ishl .u64 r2.1.1 (isub .i64 64 (imul .i64 8 n)))) (isub .i64 64 (imul .i64 8 n)), (true, ())), ((), ())) else none) else none)) else none)))
def K100 : K100.T := K100.gen K101 K102
theorem K100.eq (cK101 : K101.T) (cK102 : K102.T) : EqA K100.sig (K100.H cK101 cK102) Tryz.f104 6 (K100.W (K100.gen cK101 cK102)) := by intro a x; kernel_rfl
abbrev K100.h := K100.H K101 K102
theorem K100.hints : HintsOK U Tryz.prog K100.h (fun c => c ∈ ([] : List Code)) := (hq (Z0 (Z0 Z4 K101.ok) K102.ok) Z1 (fun _ => rfl) (fun _ => rfl))
theorem K100.ok : Z3 U Tryz.prog 104 (K100.sig.native (K100.W K100)) :=
 Sig.ok K100.sig (K100.W K100) U_pure (Hn := K100.h) (gos := 6) K100.hints Tryz.func104 rfl (by kernel_rfl) (fun b h => h) rfl rfl (by decide) (K100.eq K101 K102) (by decide)
def K97.sig : Sig U := ⟨[.isl .u8, .int .i64], [], 0, [.int .u64, .bool], true, []⟩
abbrev K97.T : Type := (List (UInt8)) → (Int) → Option ((Int × Bool × Unit) × Unit × Unit)
def K97.W (f : K97.T) : K97.sig.F := fun a x => f a.1 a.2.1
def K97.H (cK100 : K100.T) : Hints U := { Γ := (addΓ 104 (K100.sig.native (K100.W cK100)) noΓ), ro := 0, base := 13 }
def K97.gen (cK100 : K100.T) : K97.T := fun b at_1 =>
 (oelim (cK100 b at_1 8) none fun r0 => some ((IntKind.wrap .u64 r0.1.1, r0.1.2), ((), ())))
def K97 : K97.T := K97.gen K100
theorem K97.eq (cK100 : K100.T) : EqA K97.sig (K97.H cK100) Tryz.f111 6 (K97.W (K97.gen cK100)) := by intro a x; kernel_rfl
abbrev K97.h := K97.H K100
theorem K97.hints : HintsOK U Tryz.prog K97.h (fun c => c ∈ ([] : List Code)) := (hq (Z0 Z4 K100.ok) Z1 (fun _ => rfl) (fun _ => rfl))
theorem K97.ok : Z3 U Tryz.prog 111 (K97.sig.native (K97.W K97)) :=
 Sig.ok K97.sig (K97.W K97) U_pure (Hn := K97.h) (gos := 6) K97.hints Tryz.func111 rfl (by kernel_rfl) (fun b h => h) rfl rfl (by decide) (K97.eq K100) (by decide)
def K71.sig : Sig U := ⟨[.isl .u8, .int .i64], [], 0, [.data .t_api_PortID, .bool], true, []⟩
abbrev K71.T : Type := (List (UInt8)) → (Int) → Option ((api_PortID × Bool × Unit) × Unit × Unit)
def K71.W (f : K71.T) : K71.sig.F := fun a x => f a.1 a.2.1
def K71.H (cK97 : K97.T) (cK96 : K96.T) : Hints U := { Γ := (addΓ 101 (K96.sig.native (K96.W cK96)) (addΓ 111 (K97.sig.native (K97.W cK97)) noΓ)), ro := 0, base := 13, joinQ := fun b => (bif Nat.beq b 1 then some [(24, vb_)] else none) }
def K71.gen (cK97 : K97.T) (cK96 : K96.T) : K71.T := fun b at_1 =>
 (oelim ((bif ilt at_1 0 then some (true, ()) else (bif ilt (ofN (List.length b)) at_1 then some (true, ()) else some (ilt (isub .i64 (ofN (List.length b)) at_1) 10, ())))) none fun r0 => (bif r0.1 then some ((api_PortID.mk 0 0, (false, ())), ((), ())) else (oelim (cK97 b at_1) none fun r1 => (oelim (cK96 b (iadd .i64 at_1 8) 2) none fun r2 => some ((api_PortID.mk r1.1.1 r2.1.1, (true, ())), ((), ()))))))
def K71 : K71.T := K71.gen K97 K96
theorem K71.eq (cK97 : K97.T) (cK96 : K96.T) : EqA K71.sig (K71.H cK97 cK96) Tryz.f105 6 (K71.W (K71.gen cK97 cK96)) := by intro a x; kernel_rfl
abbrev K71.h := K71.H K97 K96
theorem K71.hints : HintsOK U Tryz.prog K71.h (fun c => c ∈ ([] : List Code)) := (hq (Z0 (Z0 Z4 K97.ok) K96.ok) Z1 (fun _ => rfl) (fun _ => rfl))
theorem K71.ok : Z3 U Tryz.prog 105 (K71.sig.native (K71.W K71)) :=
 Sig.ok K71.sig (K71.W K71) U_pure (Hn := K71.h) (gos := 6) K71.hints Tryz.func105 rfl (by kernel_rfl) (fun b h => h) rfl rfl (by decide) (K71.eq K97 K96) (by decide)
def K65.sig : Sig U := ⟨[.isl .u8], [], 0, [.data .t_api_Msg, .int .i64, .int .i64], true, []⟩
abbrev K65.T : Type := (List (UInt8)) → Option ((api_Msg × Int × Int × Unit) × Unit × Unit)
def K65.W (f : K65.T) : K65.sig.F := fun a x => f a.1
def K65.H (cK96 : K96.T) (cK66 : K66.T) (cK69 : K69.T) (cK100 : K100.T) (cK71 : K71.T) : Hints U := { Γ := (addΓ 105 (K71.sig.native (K71.W cK71)) (addΓ 104 (K100.sig.native (K100.W cK100)) (addΓ 103 (K69.sig.native (K69.W cK69)) (addΓ 102 (K66.sig.native (K66.W cK66)) (addΓ 101 (K96.sig.native (K96.W cK96)) noΓ))))), ro := 0, base := 13, joinQ := fun b => (bif Nat.beq b 4 then some [(17, vb_)] else none) }
def K65.gen (cK96 : K96.T) (cK66 : K66.T) (cK69 : K69.T) (cK100 : K100.T) (cK71 : K71.T) : K65.T := fun b =>
 (bif ilt (ofN (List.length b)) 34 then some ((api_Msg.mk 0 0 0 0 z0_ 0 0 0 z0_ 0 0 z1_ 0 0 0 0 0 0 0, ((0 : Int), ((2 : Int), ()))), ((), ())) else (oelim (cK96 b 2 2) none fun r0 => (oelim ((bif inR 0 (List.length b) then (oelim (cK66 (IntKind.wrap .i64 (ofN (UInt8.toNat (List.getD b (Int.toNat 0) (0 : D UC.u8)))))) none fun r1 => (bif !r1.1.1 then some (true, ()) else (bif inR 1 (List.length b) then (bif ine (iand .u8 (ofN (UInt8.toNat (List.getD b (Int.toNat 1) (0 : D UC.u8)))) 15) 2 then some (true, ()) else (oelim (cK69 r0.1.1 34 400) none fun r2 => some (!r2.1.1, ()))) else none))) else none)) none fun r3 => (bif r3.1 then some ((api_Msg.mk 0 0 0 0 z0_ 0 0 0 z0_ 0 0 z1_ 0 0 0 0 0 0 0, ((0 : Int), ((4 : Int), ()))), ((), ())) else (bif ilt (ofN (List.length b)) r0.1.1 then some ((api_Msg.mk 0 0 0 0 z0_ 0 0 0 z0_ 0 0 z1_ 0 0 0 0 0 0 0, ((0 : Int), ((2 : Int), ()))), ((), ())) else (bif ilt r0.1.1 (ofN (List.length b)) then some ((api_Msg.mk 0 0 0 0 z0_ 0 0 0 z0_ 0 0 z1_ 0 0 0 0 0 0 0, ((0 : Int), ((3 : Int), ()))), ((), ())) else (bif inR 0 (List.length b) then (bif inR 4 (List.length b) then (oelim (cK96 b 6 2) none fun r4 => (oelim (cK100 b 8 8) none fun r5 => (oelim (cK71 b 20) none fun r6 => (oelim (cK96 b 30 2) none fun r7 => (oelim (cK100 b 33 1) none fun r8 => some ((api_Msg.mk (IntKind.wrap .i64 (ofN (UInt8.toNat (List.getD b (Int.toNat 0) (0 : D UC.u8))))) (IntKind.wrap .i64 (ofN (UInt8.toNat (List.getD b (Int.toNat 4) (0 : D UC.u8))))) r4.1.1 r5.1.1 r6.1.1 r7.1.1 r8.1.1 0 z0_ 0 0 z1_ 0 0 0 0 0 0 0, (r0.1.1, ((0 : Int), ()))), ((), ()))))))) else none) else none)))))))
def K65 : K65.T := K65.gen K96 K66 K69 K100 K71
theorem K65.eq (cK96 : K96.T) (cK66 : K66.T) (cK69 : K69.T) (cK100 : K100.T) (cK71 : K71.T) : EqA K65.sig (K65.H cK96 cK66 cK69 cK100 cK71) Tryz.f53 6 (K65.W (K65.gen cK96 cK66 cK69 cK100 cK71)) := by intro a x; kernel_rfl
abbrev K65.h := K65.H K96 K66 K69 K100 K71
theorem K65.hints : HintsOK U Tryz.prog K65.h (fun c => c ∈ ([] : List Code)) := (hq (Z0 (Z0 (Z0 (Z0 (Z0 Z4 K96.ok) K66.ok) K69.ok) K100.ok) K71.ok) Z1 (fun _ => rfl) (fun _ => rfl))
theorem K65.ok : Z3 U Tryz.prog 53 (K65.sig.native (K65.W K65)) :=
 Sig.ok K65.sig (K65.W K65) U_pure (Hn := K65.h) (gos := 6) K65.hints Tryz.func53 rfl (by kernel_rfl) (fun b h => h) rfl rfl (by decide) (K65.eq K96 K66 K69 K100 K71) (by decide)
def K2.sig : Sig U := ⟨[.int .i64], [], 0, [.int .i64], false, []⟩
abbrev K2.T : Type := (Int) → Option ((Int × Unit) × Unit × Unit)
def K2.W (f : K2.T) : K2.sig.F := fun a x => f a.1
def K2.JC8 : Exits U := [(.normal, ⟨18, 13, [(3, vi_), (9, vb_)], []⟩)]
def K2.JC6 : Exits U := [(.normal, ⟨18, 13, [], []⟩),
 (.ret, ⟨18, 13, [(2, vi_)], []⟩)]
def K2.JC3 : Exits U := [(.normal, ⟨18, 13, [(3, vi_), (4, vb_)], []⟩)]
def K2.H : Hints U := { Γ := noΓ, ro := 0, base := 13, joinC := fun b => (bif Nat.beq b 3 then some K2.JC3 else (bif Nat.beq b 6 then some K2.JC6 else (bif Nat.beq b 8 then some K2.JC8 else none))) }
def K2.gen : K2.T := fun typ =>
 (oelim ((bif ieq typ 0 then some ((typ, (ieq typ 0, ())), ()) else (bif ieq typ 1 then some ((typ, (ieq typ 1, ())), ()) else (bif ieq typ 8 then some ((typ, (ieq typ 8, ())), ()) else some ((typ, (ieq typ 12, ())), ()))))) none fun r0 => (oelim ((bif r0.1.2.1 then some (.inr (((10 : Int), ()), ())) else (oelim ((bif ieq r0.1.1 2 then some ((r0.1.1, (ieq r0.1.1 2, ())), ()) else (bif ieq r0.1.1 3 then some ((r0.1.1, (ieq r0.1.1 3, ())), ()) else (bif ieq r0.1.1 10 then some ((r0.1.1, (ieq r0.1.1 10, ())), ()) else some ((r0.1.1, (ieq r0.1.1 9, ())), ()))))) none fun r1 => (bif r1.1.2.1 then some (.inr (((20 : Int), ()), ())) else (bif ieq r1.1.1 11 then some (.inr (((30 : Int), ()), ())) else (bif ieq r1.1.1 13 then some (.inr (((14 : Int), ()), ())) else some (.inl ((), ())))))))) none fun r2 => (selim r2 (fun r3 => some (((0 : Int), ()), ((), ()))) (fun r3 => some (r3.1, ((), ()))))))
def K2 : K2.T := K2.gen
theorem K2.eq : EqA K2.sig (K2.H) Tryz.f106 6 (K2.W (K2.gen)) := by intro a x; kernel_rfl
theorem K2.hints : HintsOK U Tryz.prog (K2.H) (fun c => c ∈ ([] : List Code)) := (hq Z4 Z1 (fun _ => rfl) (fun _ => rfl))
theorem K2.ok : Z3 U Tryz.prog 106 (K2.sig.native (K2.W K2)) :=
 Sig.ok K2.sig (K2.W (K2.gen)) U_pure (Hn := (K2.H)) (gos := 6) K2.hints Tryz.func106 rfl (by kernel_rfl) (fun b h => h) rfl rfl (by decide) (K2.eq) (by decide)
def K121.sig : Sig U := ⟨[.isl .u8, .int .i64], [], 0, [.int .i64, .bool], true, []⟩
abbrev K121.T : Type := (List (UInt8)) → (Int) → Option ((Int × Bool × Unit) × Unit × Unit)
def K121.W (f : K121.T) : K121.sig.F := fun a x => f a.1 a.2.1
def K121.H (cK96 : K96.T) (cK122 : K122.T) : Hints U := { Γ := (addΓ 151 (K122.sig.native (K122.W cK122)) (addΓ 101 (K96.sig.native (K96.W cK96)) noΓ)), ro := 0, base := 13, joinQ := fun b => (bif Nat.beq b 1 then some [(24, vb_)] else (bif Nat.beq b 5 then some [(51, vb_)] else none)) }
def K121.gen (cK96 : K96.T) (cK122 : K122.T) : K121.T := fun b at_1 =>
 (oelim ((bif ilt at_1 0 then some (true, ()) else (bif ilt (ofN (List.length b)) at_1 then some (true, ()) else some (ilt (isub .i64 (ofN (List.length b)) at_1) 10, ())))) none fun r0 => (bif r0.1 then some (((0 : Int), (false, ())), ((), ())) else (oelim (cK96 b at_1 6) none fun r1 => (oelim (cK96 b (iadd .i64 at_1 6) 4) none fun r2 => (oelim ((bif ile 1000000000 r2.1.1 then some (true, ()) else (bif ilt 4000000 r1.1.1 then some (true, ()) else (oelim (cK122 (iadd .i64 (imul .i64 r1.1.1 1000000000) r2.1.1)) none fun r3 => some (!r3.1.1, ()))))) none fun r4 => (bif r4.1 then some (((0 : Int), (false, ())), ((), ())) else some ((iadd .i64 (imul .i64 r1.1.1 1000000000) r2.1.1, (true, ())), ((), ()))))))))
def K121 : K121.T := K121.gen K96 K122
theorem K121.eq (cK96 : K96.T) (cK122 : K122.T) : EqA K121.sig (K121.H cK96 cK122) Tryz.f108 6 (K121.W (K121.gen cK96 cK122)) := by intro a x; kernel_rfl
abbrev K121.h := K121.H K96 K122
theorem K121.hints : HintsOK U Tryz.prog K121.h (fun c => c ∈ ([] : List Code)) := (hq (Z0 (Z0 Z4 K96.ok) K122.ok) Z1 (fun _ => rfl) (fun _ => rfl))
theorem K121.ok : Z3 U Tryz.prog 108 (K121.sig.native (K121.W K121)) :=
 Sig.ok K121.sig (K121.W K121) U_pure (Hn := K121.h) (gos := 6) K121.hints Tryz.func108 rfl (by kernel_rfl) (fun b h => h) rfl rfl (by decide) (K121.eq K96 K122) (by decide)
def K112.sig : Sig U := ⟨[.isl .u8, .int .i64], [], 0, [.data .t_api_Quality, .bool], true, []⟩
abbrev K112.T : Type := (List (UInt8)) → (Int) → Option ((api_Quality × Bool × Unit) × Unit × Unit)
def K112.W (f : K112.T) : K112.sig.F := fun a x => f a.1 a.2.1
def K112.H (cK96 : K96.T) : Hints U := { Γ := (addΓ 101 (K96.sig.native (K96.W cK96)) noΓ), ro := 0, base := 13, joinQ := fun b => (bif Nat.beq b 1 then some [(21, vb_)] else none) }
def K112.gen (cK96 : K96.T) : K112.T := fun b at_1 =>
 (oelim ((bif ilt at_1 0 then some (true, ()) else (bif ilt (ofN (List.length b)) at_1 then some (true, ()) else some (ilt (isub .i64 (ofN (List.length b)) at_1) 4, ())))) none fun r0 => (bif r0.1 then some ((api_Quality.mk 0 0 0, (false, ())), ((), ())) else (oelim (cK96 b at_1 1) none fun r1 => (oelim (cK96 b (iadd .i64 at_1 1) 1) none fun r2 => (oelim (cK96 b (iadd .i64 at_1 2) 2) none fun r3 => some ((api_Quality.mk r1.1.1 r2.1.1 r3.1.1, (true, ())), ((), ())))))))
def K112 : K112.T := K112.gen K96
theorem K112.eq (cK96 : K96.T) : EqA K112.sig (K112.H cK96) Tryz.f110 6 (K112.W (K112.gen cK96)) := by intro a x; kernel_rfl
abbrev K112.h := K112.H K96
theorem K112.hints : HintsOK U Tryz.prog K112.h (fun c => c ∈ ([] : List Code)) := (hq (Z0 Z4 K96.ok) Z1 (fun _ => rfl) (fun _ => rfl))
theorem K112.ok : Z3 U Tryz.prog 110 (K112.sig.native (K112.W K112)) :=
 Sig.ok K112.sig (K112.W K112) U_pure (Hn := K112.h) (gos := 6) K112.hints Tryz.func110 rfl (by kernel_rfl) (fun b h => h) rfl rfl (by decide) (K112.eq K96) (by decide)
def K1.sig : Sig U := ⟨[.data .t_api_Msg, .isl .u8, .int .i64], [], 0, [.data .t_api_Msg, .int .i64, .int .i64], true, []⟩
abbrev K1.T : Type := (api_Msg) → (List (UInt8)) → (Int) → Option ((api_Msg × Int × Int × Unit) × Unit × Unit)
def K1.W (f : K1.T) : K1.sig.F := fun a x => f a.1 a.2.1 a.2.2.1
def K1.C : Code := match Tryz.f54.body with | some c => c | none => .skip
def K1.B0 : Code := match (Z5 K1.C).getD 0 .skip with | .loop b => b | .scope b => b | _ => .skip
def K1.JC14 : Exits U := [(.normal, ⟨151, 15, [(3, .ptr 13 0 0), (6, .ptr 14 0 0), (9, vi_), (10, vi_)], [(13, .obj .t_api_Msg), (14, .obj .t_api_Msg)]⟩)]
def K1.JC10 : Exits U := [(.normal, ⟨151, 15, [(1, .val (.isl .u8)), (2, vi_), (3, .ptr 13 0 0), (6, .ptr 14 0 0), (9, vi_), (10, vi_)], [(13, .obj .t_api_Msg), (14, .obj .t_api_Msg)]⟩)]
def K1.H (cK2 : K2.T) (cK6 : K6.T) (cK121 : K121.T) (cK7 : K7.T) (cK71 : K71.T) (cK100 : K100.T) (cK96 : K96.T) (cK112 : K112.T) (cK97 : K97.T) : Hints U := { Γ := (addΓ 111 (K97.sig.native (K97.W cK97)) (addΓ 110 (K112.sig.native (K112.W cK112)) (addΓ 101 (K96.sig.native (K96.W cK96)) (addΓ 104 (K100.sig.native (K100.W cK100)) (addΓ 105 (K71.sig.native (K71.W cK71)) (addΓ 109 (K7.sig.native (K7.W cK7)) (addΓ 108 (K121.sig.native (K121.W cK121)) (addΓ 107 (K6.sig.native (K6.W cK6)) (addΓ 106 (K2.sig.native (K2.W cK2)) noΓ))))))))), ro := 0, base := 13, joinQ := fun b => (bif Nat.beq b 2 then some [(31, vb_)] else (bif Nat.beq b 4 then some [(40, vb_)] else none)), joinC := fun b => (bif Nat.beq b 10 then some K1.JC10 else (bif Nat.beq b 14 then some K1.JC14 else none)), gotos := 3, loop := fun b => none }
def K1.gen (cK2 : K2.T) (cK6 : K6.T) (cK121 : K121.T) (cK7 : K7.T) (cK71 : K71.T) (cK100 : K100.T) (cK96 : K96.T) (cK112 : K112.T) (cK97 : K97.T) : K1.T := fun m b at_2 =>
 (oelim (cK2 m.fType) none fun r0 => (oelim ((bif ilt at_2 0 then some (true, ()) else (bif ilt (ofN (List.length b)) at_2 then some (true, ()) else some (ilt (isub .i64 (ofN (List.length b)) at_2) r0.1.1, ())))) none fun r1 => (bif r1.1 then some ((api_Msg.mk 0 0 0 0 z0_ 0 0 0 z0_ 0 0 z1_ 0 0 0 0 0 0 0, ((0 : Int), ((2 : Int), ()))), ((), ())) else (oelim ((bif ieq r0.1.1 0 then some (true, ()) else (oelim (cK6 m.fType) none fun r2 => some (!r2.1.1, ())))) none fun r3 => (bif r3.1 then (oelim (cK7 m.fType) none fun r4 => (oelim ((bif r4.1.1 then (oelim (cK71 b at_2) none fun r5 => some ((b, (iadd .i64 at_2 10, (at_2, r0.1))), (api_Msg.set_fTarget m r5.1.1, (api_Msg.mk 0 0 0 0 z0_ 0 0 0 z0_ 0 0 z1_ 0 0 0 0 0 0 0, ())))) else some ((b, (at_2, (at_2, r0.1))), (m, (api_Msg.mk 0 0 0 0 z0_ 0 0 0 z0_ 0 0 z1_ 0 0 0 0 0 0 0, ()))))) none fun r6 => (oelim ((bif ieq r6.2.1.fType 11 then (oelim (cK100 r6.1.1 r6.1.2.1 2) none fun r7 => (oelim (cK96 r6.1.1 (iadd .i64 r6.1.2.1 3) 1) none fun r8 => (oelim (cK112 r6.1.1 (iadd .i64 r6.1.2.1 4)) none fun r9 => (oelim (cK96 r6.1.1 (iadd .i64 r6.1.2.1 8) 1) none fun r10 => (oelim (cK97 r6.1.1 (iadd .i64 r6.1.2.1 9)) none fun r11 => (oelim (cK96 r6.1.1 (iadd .i64 r6.1.2.1 17) 2) none fun r12 => (oelim (cK96 r6.1.1 (iadd .i64 r6.1.2.1 19) 1) none fun r13 => some (r6.1.2.2, (api_Msg.set_fOrigin (api_Msg.set_fSteps (api_Msg.set_fGrand (api_Msg.set_fPriority2 (api_Msg.set_fQuality (api_Msg.set_fPriority1 (api_Msg.set_fUtc r6.2.1 r7.1.1) r8.1.1) r9.1.1) r10.1.1) r11.1.1) r12.1.1) r13.1.1, r6.2.2))))))))) else (bif ieq r6.2.1.fType 13 then (bif inR r6.1.2.1 (List.length r6.1.1) then (bif inR (iadd .i64 r6.1.2.1 1) (List.length r6.1.1) then (bif inR (iadd .i64 r6.1.2.1 2) (List.length r6.1.1) then some (r6.1.2.2, (api_Msg.set_fAction (api_Msg.set_fHops (api_Msg.set_fStartHops r6.2.1 (IntKind.wrap .i64 (ofN (UInt8.toNat (List.getD r6.1.1 (Int.toNat r6.1.2.1) (0 : D UC.u8)))))) (IntKind.wrap .i64 (ofN (UInt8.toNat (List.getD r6.1.1 (Int.toNat (iadd .i64 r6.1.2.1 1)) (0 : D UC.u8)))))) (IntKind.wrap .i64 (iand .u8 (ofN (UInt8.toNat (List.getD r6.1.1 (Int.toNat (iadd .i64 r6.1.2.1 2)) (0 : D UC.u8)))) 15)), r6.2.2)) else none) else none) else none) else some (r6.1.2.2, r6.2)))) none fun r14 => some ((r14.2.1, (iadd .i64 r14.1.1 r14.1.2.1, ((0 : Int), ()))), ((), ()))))) else (oelim (cK121 b at_2) none fun r15 => (bif !r15.1.2.1 then some ((api_Msg.mk 0 0 0 0 z0_ 0 0 0 z0_ 0 0 z1_ 0 0 0 0 0 0 0, ((0 : Int), ((10 : Int), ()))), ((), ())) else (oelim (cK7 m.fType) none fun r16 => (oelim ((bif r16.1.1 then (oelim (cK71 b (iadd .i64 at_2 10)) none fun r17 => some ((b, (iadd .i64 (iadd .i64 at_2 10) 10, (at_2, r0.1))), (api_Msg.set_fTarget (api_Msg.set_fStamp m r15.1.1) r17.1.1, (api_Msg.mk 0 0 0 0 z0_ 0 0 0 z0_ 0 0 z1_ 0 0 0 0 0 0 0, ())))) else some ((b, (iadd .i64 at_2 10, (at_2, r0.1))), (api_Msg.set_fStamp m r15.1.1, (api_Msg.mk 0 0 0 0 z0_ 0 0 0 z0_ 0 0 z1_ 0 0 0 0 0 0 0, ()))))) none fun r18 => (oelim ((bif ieq r18.2.1.fType 11 then (oelim (cK100 r18.1.1 r18.1.2.1 2) none fun r19 => (oelim (cK96 r18.1.1 (iadd .i64 r18.1.2.1 3) 1) none fun r20 => (oelim (cK112 r18.1.1 (iadd .i64 r18.1.2.1 4)) none fun r21 => (oelim (cK96 r18.1.1 (iadd .i64 r18.1.2.1 8) 1) none fun r22 => (oelim (cK97 r18.1.1 (iadd .i64 r18.1.2.1 9)) none fun r23 => (oelim (cK96 r18.1.1 (iadd .i64 r18.1.2.1 17) 2) none fun r24 => (oelim (cK96 r18.1.1 (iadd .i64 r18.1.2.1 19) 1) none fun r25 => some (r18.1.2.2, (api_Msg.set_fOrigin (api_Msg.set_fSteps (api_Msg.set_fGrand (api_Msg.set_fPriority2 (api_Msg.set_fQuality (api_Msg.set_fPriority1 (api_Msg.set_fUtc r18.2.1 r19.1.1) r20.1.1) r21.1.1) r22.1.1) r23.1.1) r24.1.1) r25.1.1, r18.2.2))))))))) else (bif ieq r18.2.1.fType 13 then (bif inR r18.1.2.1 (List.length r18.1.1) then (bif inR (iadd .i64 r18.1.2.1 1) (List.length r18.1.1) then (bif inR (iadd .i64 r18.1.2.1 2) (List.length r18.1.1) then some (r18.1.2.2, (api_Msg.set_fAction (api_Msg.set_fHops (api_Msg.set_fStartHops r18.2.1 (IntKind.wrap .i64 (ofN (UInt8.toNat (List.getD r18.1.1 (Int.toNat r18.1.2.1) (0 : D UC.u8)))))) (IntKind.wrap .i64 (ofN (UInt8.toNat (List.getD r18.1.1 (Int.toNat (iadd .i64 r18.1.2.1 1)) (0 : D UC.u8)))))) (IntKind.wrap .i64 (iand .u8 (ofN (UInt8.toNat (List.getD r18.1.1 (Int.toNat (iadd .i64 r18.1.2.1 2)) (0 : D UC.u8)))) 15)), r18.2.2)) else none) else none) else none) else some (r18.1.2.2, r18.2)))) none fun r26 => some ((r26.2.1, (iadd .i64 r26.1.1 r26.1.2.1, ((0 : Int), ()))), ((), ()))))))))))))
def K1 : K1.T := K1.gen K2 K6 K121 K7 K71 K100 K96 K112 K97
theorem K1.eq (cK2 : K2.T) (cK6 : K6.T) (cK121 : K121.T) (cK7 : K7.T) (cK71 : K71.T) (cK100 : K100.T) (cK96 : K96.T) (cK112 : K112.T) (cK97 : K97.T) : EqA K1.sig (K1.H cK2 cK6 cK121 cK7 cK71 cK100 cK96 cK112 cK97) Tryz.f54 6 (K1.W (K1.gen cK2 cK6 cK121 cK7 cK71 cK100 cK96 cK112 cK97)) := by intro a x; kernel_rfl
theorem K1.loops : Z5 K1.C = [(.scope K1.B0)] := by kernel_rfl
abbrev K1.h := K1.H K2 K6 K121 K7 K71 K100 K96 K112 K97
theorem K1.hints : HintsOK U Tryz.prog K1.h (fun c => c ∈ [(.scope K1.B0)]) := (hq (Z0 (Z0 (Z0 (Z0 (Z0 (Z0 (Z0 (Z0 (Z0 Z4 K2.ok) K6.ok) K121.ok) K7.ok) K71.ok) K100.ok) K96.ok) K112.ok) K97.ok) (ZH Z1) (fun _ => rfl) (fun _ => rfl))
theorem K1.ok : Z3 U Tryz.prog 54 (K1.sig.native (K1.W K1)) :=
 Sig.ok K1.sig (K1.W K1) U_pure (Hn := K1.h) (code := K1.C) (gos := 6) K1.hints Tryz.func54 (by kernel_rfl) (by kernel_rfl) (fun b h => by rw [K1.loops] at h; exact h) rfl rfl (by decide) (K1.eq K2 K6 K121 K7 K71 K100 K96 K112 K97) (by decide)
def K132.sig : Sig U := ⟨[.isl .u8, .int .i64], [], 0, [.isl .t_api_Tlv, .int .i64], true, []⟩
abbrev K132.T : Type := (List (UInt8)) → (Int) → Option (((List (api_Tlv)) × Int × Unit) × Unit × Unit)
def K132.W (f : K132.T) : K132.sig.F := fun a x => f a.1 a.2.1
def K132.L1 : Shape U := ⟨81, 14, [(0, .val (.isl .u8)), (1, vi_), (6, .own .t_api_Tlv 13), (7, vi_)], [(13, .tok)]⟩
def K132.X1 : Exits U := [(.exit 0, ⟨81, 14, [(6, .own .t_api_Tlv 13), (7, vi_)], [(13, .tok)]⟩)]
abbrev K132.l1T : Type := (((List (UInt8)) × Int × (List (api_Tlv)) × Int × Unit) × Unit) → Option ((((List (api_Tlv)) × Int × Unit) × Unit))
def K132.C : Code := match Tryz.f55.body with | some c => c | none => .skip
def K132.B0 : Code := match (Z5 K132.C).getD 0 .skip with | .loop b => b | .scope b => b | _ => .skip
def K132.B1 : Code := match (Z5 K132.C).getD 1 .skip with | .loop b => b | .scope b => b | _ => .skip
def K132.JC8 : Exits U := [(.normal, ⟨81, 14, [(0, .val (.isl .u8)), (1, vi_), (6, .own .t_api_Tlv 13), (7, vi_), (8, vi_)], [(13, .tok)]⟩)]
def K132.H (cK96 : K96.T) (l1 : K132.l1T) : Hints U := { Γ := (addΓ 101 (K96.sig.native (K96.W cK96)) noΓ), ro := 0, base := 13, joinQ := fun b => (bif Nat.beq b 1 then some [(19, vb_)] else (bif Nat.beq b 9 then some [(35, vb_)] else none)), joinC := fun b => (bif Nat.beq b 8 then some K132.JC8 else none), loop := fun b => (bif Nat.beq b 5 then some (Zc (0, 13) K132.L1 K132.X1 l1) else none) }
def K132.step1 (cK96 : K96.T) (a : ((List (UInt8)) × Int × (List (api_Tlv)) × Int × Unit) × Unit) : Option ((((List (UInt8)) × Int × (List (api_Tlv)) × Int × Unit) × Unit) ⊕ ((((List (api_Tlv)) × Int × Unit) × Unit))) :=
 (bif ilt a.1.2.1 (ofN (List.length a.1.1)) then (oelim (cK96 a.1.1 (iadd .i64 a.1.2.1 2) 2) none fun r0 => (oelim ((bif ieq (ofN (List.length a.1.2.2.1)) 8 then some ((a.1.1, (a.1.2.1, (a.1.2.2.1, ((7 : Int), (r0.1.1, ()))))), ()) else (oelim ((bif !r0.1.2.1 then some (true, ()) else some (ilt (isub .i64 (isub .i64 (ofN (List.length a.1.1)) a.1.2.1) 4) r0.1.1, ()))) none fun r1 => (bif r1.1 then some ((a.1.1, (a.1.2.1, (a.1.2.2.1, ((2 : Int), (r0.1.1, ()))))), ()) else (bif ine (irem r0.1.1 2) 0 then some ((a.1.1, (a.1.2.1, (a.1.2.2.1, ((4 : Int), (r0.1.1, ()))))), ()) else some ((a.1.1, (a.1.2.1, (a.1.2.2.1, (a.1.2.2.2.1, (r0.1.1, ()))))), ())))))) none fun r2 => (bif ine r2.1.2.2.2.1 0 then some (.inr ((r2.1.2.2.1, (r2.1.2.2.2.1, ())), ())) else (oelim (cK96 r2.1.1 r2.1.2.1 2) none fun r3 => (bif le3 (iadd .i64 r2.1.2.1 4) (iadd .i64 (iadd .i64 r2.1.2.1 4) r2.1.2.2.2.2.1) (List.length r2.1.1) then (bif room (List.length r2.1.2.2.1 + List.length (api_Tlv.mk r3.1.1 (ByteArray.mk (List.toArray (List.drop (Int.toNat (iadd .i64 r2.1.2.1 4)) (List.take (Int.toNat (iadd .i64 (iadd .i64 r2.1.2.1 4) r2.1.2.2.2.2.1)) r2.1.1)))) :: lnil api_Tlv)) 24 then some (.inl ((r2.1.1, (iadd .i64 r2.1.2.1 (iadd .i64 4 r2.1.2.2.2.2.1), (r2.1.2.2.1 ++ api_Tlv.mk r3.1.1 (ByteArray.mk (List.toArray (List.drop (Int.toNat (iadd .i64 r2.1.2.1 4)) (List.take (Int.toNat (iadd .i64 (iadd .i64 r2.1.2.1 4) r2.1.2.2.2.2.1)) r2.1.1)))) :: lnil api_Tlv, (r2.1.2.2.2.1, ())))), ())) else none) else none))))) else some (.inr (a.1.2.2, ())))
def K132.F1 : K132.l1T := fun a => Za (1000000 + (a.1.1.length + a.1.2.2.1.length)) (K132.step1 K96) a
def K132.gen (cK96 : K96.T) (l1 : K132.l1T) : K132.T := fun b at_1 =>
 (oelim ((bif ilt at_1 0 then some (true, ()) else some (ilt (ofN (List.length b)) at_1, ()))) none fun r0 => (bif r0.1 then some ((lnil api_Tlv, ((1 : Int), ())), ((), ())) else (oelim (l1 ((b, at_1, lnil api_Tlv, (0 : Int), ()), ())) none fun r1 => (bif ine r1.1.2.1 0 then some ((lnil api_Tlv, r1.1.2), ((), ())) else some ((r1.1.1, ((0 : Int), ())), ((), ()))))))
def K132 : K132.T := K132.gen K96 K132.F1
theorem K132.seq1 (cK96 : K96.T) (l1 : K132.l1T) (a : K132.L1.T) : run Tryz.prog (K132.H cK96 l1) 6 (Option (K132.L1.T ⊕ ExT K132.X1)) none K132.B1 (K132.L1.enc a) (Zs (0, 13) K132.L1 K132.X1) = K132.step1 cK96 a := by kernel_rfl
theorem K132.inner1 : Z5 K132.B1 = ([] : List Code) := by kernel_rfl
abbrev K132.h := K132.H K96 K132.F1
theorem K132.lok1 : Ze U Tryz.prog K132.h.ro K132.h.base K132.B1 (Zc (0, 13) K132.L1 K132.X1 K132.F1) :=
 Zh (Hn := K132.h) U_ok U_pure (Zl (hq (Z0 Z4 K96.ok) Z1 (fun _ => rfl) (fun _ => rfl)) 6) (fun b h => by rw [K132.inner1] at h; exact h) (fun _ => rfl) (K132.seq1 K96 K132.F1)
theorem K132.eq (cK96 : K96.T) (l1 : K132.l1T) : EqA K132.sig (K132.H cK96 l1) Tryz.f55 6 (K132.W (K132.gen cK96 l1)) := by intro a x; kernel_rfl
theorem K132.loops : Z5 K132.C = [(.scope K132.B0), (.loop K132.B1)] := by kernel_rfl
theorem K132.hints : HintsOK U Tryz.prog K132.h (fun c => c ∈ [(.scope K132.B0), (.loop K132.B1)]) := (hq (Z0 Z4 K96.ok) (ZH (Zb (by kernel_rfl) K132.lok1 Z1)) (fun _ => rfl) (fun _ => rfl))
theorem K132.ok : Z3 U Tryz.prog 55 (K132.sig.native (K132.W K132)) :=
 Sig.ok K132.sig (K132.W K132) U_pure (Hn := K132.h) (code := K132.C) (gos := 6) K132.hints Tryz.func55 (by kernel_rfl) (by kernel_rfl) (fun b h => by rw [K132.loops] at h; exact h) rfl rfl (by decide) (K132.eq K96 K132.F1) (by decide)
def K61.sig : Sig U := ⟨[.str], [], 0, [.data .t_api_Msg, .isl .t_api_Tlv, .int .i64], true, []⟩
abbrev K61.T : Type := (ByteArray) → Option ((api_Msg × (List (api_Tlv)) × Int × Unit) × Unit × Unit)
def K61.W (f : K61.T) : K61.sig.F := fun a x => f a.1
def K61.C : Code := match Tryz.f25.body with | some c => c | none => .skip
def K61.B0 : Code := match (Z5 K61.C).getD 0 .skip with | .loop b => b | .scope b => b | _ => .skip
def K61.H (cK65 : K65.T) (cK1 : K1.T) (cK132 : K132.T) : Hints U := { Γ := (addΓ 55 (K132.sig.native (K132.W cK132)) (addΓ 54 (K1.sig.native (K1.W cK1)) (addΓ 53 (K65.sig.native (K65.W cK65)) noΓ))), ro := 0, base := 13, gotos := 3, loop := fun b => none }
def K61.gen (cK65 : K65.T) (cK1 : K1.T) (cK132 : K132.T) : K61.T := fun b =>
 (oelim (cK65 b.data.toList) none fun r0 => (bif ine r0.1.2.2.1 0 then some ((api_Msg.mk 0 0 0 0 z0_ 0 0 0 z0_ 0 0 z1_ 0 0 0 0 0 0 0, (lnil api_Tlv, r0.1.2.2)), ((), ())) else (oelim (cK1 r0.1.1 b.data.toList 34) none fun r1 => (bif ine r1.1.2.2.1 0 then some ((api_Msg.mk 0 0 0 0 z0_ 0 0 0 z0_ 0 0 z1_ 0 0 0 0 0 0 0, (lnil api_Tlv, r1.1.2.2)), ((), ())) else (oelim (cK132 b.data.toList r1.1.2.1) none fun r2 => (bif ine r2.1.2.1 0 then some ((api_Msg.mk 0 0 0 0 z0_ 0 0 0 z0_ 0 0 z1_ 0 0 0 0 0 0 0, (lnil api_Tlv, r2.1.2)), ((), ())) else some ((r1.1.1, (r2.1.1, ((0 : Int), ()))), ((), ()))))))))
def K61 : K61.T := K61.gen K65 K1 K132
theorem K61.eq (cK65 : K65.T) (cK1 : K1.T) (cK132 : K132.T) : EqA K61.sig (K61.H cK65 cK1 cK132) Tryz.f25 6 (K61.W (K61.gen cK65 cK1 cK132)) := by intro a x; kernel_rfl
theorem K61.loops : Z5 K61.C = [(.scope K61.B0)] := by kernel_rfl
abbrev K61.h := K61.H K65 K1 K132
theorem K61.hints : HintsOK U Tryz.prog K61.h (fun c => c ∈ [(.scope K61.B0)]) := (hq (Z0 (Z0 (Z0 Z4 K65.ok) K1.ok) K132.ok) (ZH Z1) (fun _ => rfl) (fun _ => rfl))
theorem K61.ok : Z3 U Tryz.prog 25 (K61.sig.native (K61.W K61)) :=
 Sig.ok K61.sig (K61.W K61) U_pure (Hn := K61.h) (code := K61.C) (gos := 6) K61.hints Tryz.func25 (by kernel_rfl) (by kernel_rfl) (fun b h => by rw [K61.loops] at h; exact h) rfl rfl (by decide) (K61.eq K65 K1 K132) (by decide)
def K62.sig : Sig U := ⟨[.str, .int .i64], [], 0, [.data .t_api_Msg, .isl .t_api_Tlv, .int .i64], true, []⟩
abbrev K62.T : Type := (ByteArray) → (Int) → Option ((api_Msg × (List (api_Tlv)) × Int × Unit) × Unit × Unit)
def K62.W (f : K62.T) : K62.sig.F := fun a x => f a.1 a.2.1
def K62.H (cK61 : K61.T) : Hints U := { Γ := (addΓ 25 (K61.sig.native (K61.W cK61)) noΓ), ro := 0, base := 13, joinQ := fun b => (bif Nat.beq b 2 then some [(23, vb_)] else none) }
def K62.gen (cK61 : K61.T) : K62.T := fun b domain =>
 (oelim (cK61 b) none fun r0 => (oelim ((bif ieq r0.1.2.2.1 0 then some (ine r0.1.1.fDomain domain, ()) else some (false, ()))) none fun r1 => (bif r1.1 then some ((api_Msg.mk 0 0 0 0 z0_ 0 0 0 z0_ 0 0 z1_ 0 0 0 0 0 0 0, (lnil api_Tlv, ((6 : Int), ()))), ((), ())) else some (r0.1, ((), ())))))
def K62 : K62.T := K62.gen K61
theorem K62.eq (cK61 : K61.T) : EqA K62.sig (K62.H cK61) Tryz.f73 6 (K62.W (K62.gen cK61)) := by intro a x; kernel_rfl
abbrev K62.h := K62.H K61
theorem K62.hints : HintsOK U Tryz.prog K62.h (fun c => c ∈ ([] : List Code)) := (hq (Z0 Z4 K61.ok) Z1 (fun _ => rfl) (fun _ => rfl))
theorem K62.ok : Z3 U Tryz.prog 73 (K62.sig.native (K62.W K62)) :=
 Sig.ok K62.sig (K62.W K62) U_pure (Hn := K62.h) (gos := 6) K62.hints Tryz.func73 rfl (by kernel_rfl) (fun b h => h) rfl rfl (by decide) (K62.eq K61) (by decide)
end
end Go.Proofs.YtgnabnhggaondaaGreat
