/- Typed forms of the functions that these statements reach, proved equal to what the model runs, and laws over them. -/
import Derived.Test.YtgnabnhggaondaaGreatT
namespace Go.Proofs.YtgnabnhggaondaaGreat
open Go.Rf
set_option linter.unusedVariables false
set_option linter.unusedSimpArgs false
set_option maxRecDepth 100000
abbrev vi_ : JV UC := .val (.int .i64)
abbrev vb_ : JV UC := .val (.bool)
abbrev fm0_ : NK UC := .fam 0 (.obj .t_clock_Clock)
abbrev fm10_ : NK UC := .fam 10 (.obj .t_seq_Match)
abbrev fm5_ : NK UC := .fam 5 (.obj .t_servo_Servo)
abbrev fm6_ : NK UC := .fam 6 (.obj .t_foreign_Table)
abbrev fm7_ : NK UC := .fam 7 (.obj .t_delay_Exchange)
abbrev fm8_ : NK UC := .fam 8 (.obj .t_peer_Exchange)
abbrev fm9_ : NK UC := .fam 9 (.obj .t_median_Filter)
abbrev EqA (s : Sig U) (H : Hints U) (f : Func) (n : Nat) (g : s.F) : Prop := ∀ (a : Ts U s.pars) (x : HTs U s.heap), runR Tryz.prog H f n none s.fin (s.args a) (s.start x) s.base = g a x
theorem hq {Hn : Hints U} (hΓ : GammaOK U Tryz.prog Hn.Γ) {l : List Code} (hl : ∀ b N, .loop b ∈ l → Hn.loop (firstRegion b) = some N → LoopOK U Tryz.prog Hn.ro Hn.base b N) (h1 : ∀ lb, Hn.label lb = none) (h2 : ∀ f, Hn.inl f = none) : HintsOK U Tryz.prog Hn (fun c => c ∈ l) := hints_of_loops U_ok U_pure mixed hΓ hl (labels_none h1) (inl_none h2)
abbrev Fm (α : Type) := Nat × (Nat → α)
abbrev z0_ := api_PortID.mk (0 : Int) (0 : Int)
abbrev z1_ := api_Quality.mk (0 : Int) (0 : Int) (0 : Int)
abbrev z2_ := api_Msg.mk (0 : Int) (0 : Int) (0 : Int) (0 : Int) z0_ (0 : Int) (0 : Int) (0 : Int) z0_ (0 : Int) (0 : Int) z1_ (0 : Int) (0 : Int) (0 : Int) (0 : Int) (0 : Int) (0 : Int) (0 : Int)
abbrev z3_ := timer_Timer.mk (0 : Int)
abbrev z4_ := clock_known.mk (0 : Int) false
abbrev z5_ := api_Vector.mk (0 : Int) z1_ (0 : Int) (0 : Int) (0 : Int) z0_ z0_
abbrev z6_ := api_Times.mk (0 : Int) (0 : Int) (0 : Int)
abbrev z7_ := api_Conf.mk (0 : Int) (0 : Int) (0 : Int) (0 : Int) (0 : Int) z1_ false (0 : Int) (0 : Int) (0 : Int) (0 : Int) false false (0 : Int) (0 : Int) (0 : Int) (0 : Int) z6_ false
abbrev z8_ := (1 : Int) :: (0 : Int) :: (0 : Int) :: (0 : Int) :: (-3 : Int) :: (-3 : Int) :: (-3 : Int) :: (2 : Int) :: (1 : Int) :: (0 : Int) :: (0 : Int) :: (0 : Int) :: (-32768 : Int) :: (0 : Int) :: (0 : Int) :: lnil Int
abbrev z9_ := (8 : Int) :: (127 : Int) :: (255 : Int) :: (255 : Int) :: (4 : Int) :: (4 : Int) :: (4 : Int) :: (10 : Int) :: (15 : Int) :: (2000 : Int) :: (2000 : Int) :: (1000000000 : Int) :: (32767 : Int) :: (63 : Int) :: (255 : Int) :: lnil Int
abbrev z10_ (c : api_Conf) := c.fPorts :: c.fDomain :: c.fPriority1 :: c.fPriority2 :: c.fLogAnn :: c.fLogSync :: c.fLogDelay :: c.fTimeout :: c.fMedian :: c.fKp :: c.fKi :: c.fStep :: c.fTimes.fUtc :: c.fTimes.fFlags :: c.fTimes.fOrigin :: lnil Int
noncomputable def K73.sig : Sig U := ⟨[.int .i64, .int .i64], [], 0, [.int .i64], false, []⟩
abbrev K73.T : Type := (Int) → (Int) → Option ((Int × Unit) × Unit × Unit)
noncomputable def K73.W (f : K73.T) : K73.sig.F := fun a x => f a.1 a.2.1
noncomputable def K73.JC3 : Exits U := [(.normal, ⟨15, 13, [(5, vi_)], []⟩)]
noncomputable def K73.H : Hints U := { Γ := noΓ, ro := 0, base := 13, joinC := fun b => (bif Nat.beq b 3 then some K73.JC3 else none) }
noncomputable def K73.gen : K73.T := fun v n =>
 (bif ine n 0 then (oelim ((bif ilt (irem v n) 0 then some ((iadd .i64 (irem v n) n, ()), ()) else some ((irem v n, ()), ()))) none fun r0 => some ((r0.1.1, ()), ((), ()))) else none)
noncomputable def K73 : K73.T := K73.gen
theorem K73.eq : EqA K73.sig (K73.H) Tryz.f17 6 (K73.W (K73.gen)) := by intro a x; kernel_rfl
theorem K73.hints : HintsOK U Tryz.prog (K73.H) (fun c => c ∈ ([] : List Code)) := (hq noΓ_ok loops_nil (fun _ => rfl) (fun _ => rfl))
theorem K73.ok : NativeOK U Tryz.prog 17 (K73.sig.native (K73.W K73)) :=
 Sig.ok K73.sig (K73.W (K73.gen)) U_pure (Hn := (K73.H)) (gos := 6) K73.hints Tryz.func17 rfl (by kernel_rfl) (fun b h => h) rfl rfl (by decide) (K73.eq) (by decide)
noncomputable def K45.sig : Sig U := ⟨[.int .u64], [], 0, [.data .t_api_Conf], false, []⟩
abbrev K45.T : Type := (Int) → Option ((api_Conf × Unit) × Unit × Unit)
noncomputable def K45.W (f : K45.T) : K45.sig.F := fun a x => f a.1
noncomputable def K45.H : Hints U := { Γ := noΓ, ro := 0, base := 13 }
noncomputable def K45.gen : K45.T := fun clock =>
 some ((api_Conf.mk clock 1 0 128 128 (api_Quality.mk 248 254 65535) false 1 0 0 3 false false 5 700 300 20000 (api_Times.mk 37 8 160) false, ()), ((), ()))
noncomputable def K45 : K45.T := K45.gen
theorem K45.eq : EqA K45.sig (K45.H) Tryz.f23 6 (K45.W (K45.gen)) := by intro a x; kernel_rfl
theorem K45.hints : HintsOK U Tryz.prog (K45.H) (fun c => c ∈ ([] : List Code)) := (hq noΓ_ok loops_nil (fun _ => rfl) (fun _ => rfl))
theorem K45.ok : NativeOK U Tryz.prog 23 (K45.sig.native (K45.W K45)) :=
 Sig.ok K45.sig (K45.W (K45.gen)) U_pure (Hn := (K45.H)) (gos := 6) K45.hints Tryz.func23 rfl (by kernel_rfl) (fun b h => h) rfl rfl (by decide) (K45.eq) (by decide)
noncomputable def K98.sig : Sig U := ⟨[.data .t_api_Quality], [], 0, [.bool], false, []⟩
abbrev K98.T : Type := (api_Quality) → Option ((Bool × Unit) × Unit × Unit)
noncomputable def K98.W (f : K98.T) : K98.sig.F := fun a x => f a.1
noncomputable def K98.H : Hints U := { Γ := noΓ, ro := 0, base := 13 }
noncomputable def K98.gen : K98.T := fun q =>
 (bif ile 0 q.fClass then (bif ile q.fClass 255 then (bif ile 0 q.fAccuracy then (bif ile q.fAccuracy 255 then (bif ile 0 q.fVariance then some ((ile q.fVariance 65535, ()), ((), ())) else some ((false, ()), ((), ()))) else some ((false, ()), ((), ()))) else some ((false, ()), ((), ()))) else some ((false, ()), ((), ()))) else some ((false, ()), ((), ())))
noncomputable def K98 : K98.T := K98.gen
theorem K98.eq : EqA K98.sig (K98.H) Tryz.f87 6 (K98.W (K98.gen)) := by intro a x; kernel_rfl
theorem K98.hints : HintsOK U Tryz.prog (K98.H) (fun c => c ∈ ([] : List Code)) := (hq noΓ_ok loops_nil (fun _ => rfl) (fun _ => rfl))
theorem K98.ok : NativeOK U Tryz.prog 87 (K98.sig.native (K98.W K98)) :=
 Sig.ok K98.sig (K98.W (K98.gen)) U_pure (Hn := (K98.H)) (gos := 6) K98.hints Tryz.func87 rfl (by kernel_rfl) (fun b h => h) rfl rfl (by decide) (K98.eq) (by decide)
noncomputable def K44.sig : Sig U := ⟨[.data .t_api_Conf], [], 0, [.int .i64], false, []⟩
abbrev K44.T : Type := (api_Conf) → Option ((Int × Unit) × Unit × Unit)
noncomputable def K44.W (f : K44.T) : K44.sig.F := fun a x => f a.1
noncomputable def K44.C : Code := match Tryz.f48.body with | some c => c | none => .skip
noncomputable def K44.B0 : Code := match (loopsOf K44.C).getD 0 .skip with | .loop b => b | .scope b => b | _ => .skip
noncomputable def K44.U0 (cK98 : K98.T) : Hints U := { Γ := (addΓ 87 (K98.sig.native (K98.W cK98)) noΓ), ro := 0, base := 13, joinQ := fun b => (bif Nat.beq b 4 then some [(68, vb_)] else (bif Nat.beq b 7 then some [(70, vb_)] else (bif Nat.beq b 9 then some [(85, vb_)] else none))), loop := fun b => none }
noncomputable def K44.H (cK98 : K98.T) : Hints U := { Γ := (addΓ 87 (K98.sig.native (K98.W cK98)) noΓ), ro := 0, base := 13, joinQ := fun b => (bif Nat.beq b 4 then some [(68, vb_)] else (bif Nat.beq b 7 then some [(70, vb_)] else (bif Nat.beq b 9 then some [(85, vb_)] else none))), loop := fun b => (bif Nat.beq b 2 then some (unrollN Tryz.prog (K44.U0 cK98) 6 K44.B0 17) else none) }
noncomputable def K44.gen (cK98 : K98.T) : K44.T := fun c =>
 (oelim ((bif ilt (List.getD (z10_ c) (Int.toNat 0) 0) (List.getD z8_ (Int.toNat 0) 0) then some (true, ()) else some (ilt (List.getD z9_ (Int.toNat 0) 0) (List.getD (z10_ c) (Int.toNat 0) 0), ()))) none fun r0 => (bif r0.1 then some (((15 : Int), ()), ((), ())) else (oelim ((bif ilt (List.getD (z10_ c) (Int.toNat (iadd .i64 0 1)) 0) (List.getD z8_ (Int.toNat (iadd .i64 0 1)) 0) then some (true, ()) else some (ilt (List.getD z9_ (Int.toNat (iadd .i64 0 1)) 0) (List.getD (z10_ c) (Int.toNat (iadd .i64 0 1)) 0), ()))) none fun r1 => (bif r1.1 then some (((15 : Int), ()), ((), ())) else (oelim ((bif ilt (List.getD (z10_ c) (Int.toNat (iadd .i64 (iadd .i64 0 1) 1)) 0) (List.getD z8_ (Int.toNat (iadd .i64 (iadd .i64 0 1) 1)) 0) then some (true, ()) else some (ilt (List.getD z9_ (Int.toNat (iadd .i64 (iadd .i64 0 1) 1)) 0) (List.getD (z10_ c) (Int.toNat (iadd .i64 (iadd .i64 0 1) 1)) 0), ()))) none fun r2 => (bif r2.1 then some (((15 : Int), ()), ((), ())) else (oelim ((bif ilt (List.getD (z10_ c) (Int.toNat (iadd .i64 (iadd .i64 (iadd .i64 0 1) 1) 1)) 0) (List.getD z8_ (Int.toNat (iadd .i64 (iadd .i64 (iadd .i64 0 1) 1) 1)) 0) then some (true, ()) else some (ilt (List.getD z9_ (Int.toNat (iadd .i64 (iadd .i64 (iadd .i64 0 1) 1) 1)) 0) (List.getD (z10_ c) (Int.toNat (iadd .i64 (iadd .i64 (iadd .i64 0 1) 1) 1)) 0), ()))) none fun r3 => (bif r3.1 then some (((15 : Int), ()), ((), ())) else (oelim ((bif ilt (List.getD (z10_ c) (Int.toNat (iadd .i64 (iadd .i64 (iadd .i64 (iadd .i64 0 1) 1) 1) 1)) 0) (List.getD z8_ (Int.toNat (iadd .i64 (iadd .i64 (iadd .i64 (iadd .i64 0 1) 1) 1) 1)) 0) then some (true, ()) else some (ilt (List.getD z9_ (Int.toNat (iadd .i64 (iadd .i64 (iadd .i64 (iadd .i64 0 1) 1) 1) 1)) 0) (List.getD (z10_ c) (Int.toNat (iadd .i64 (iadd .i64 (iadd .i64 (iadd .i64 0 1) 1) 1) 1)) 0), ()))) none fun r4 => (bif r4.1 then some (((15 : Int), ()), ((), ())) else (oelim ((bif ilt (List.getD (z10_ c) (Int.toNat (iadd .i64 (iadd .i64 (iadd .i64 (iadd .i64 (iadd .i64 0 1) 1) 1) 1) 1)) 0) (List.getD z8_ (Int.toNat (iadd .i64 (iadd .i64 (iadd .i64 (iadd .i64 (iadd .i64 0 1) 1) 1) 1) 1)) 0) then some (true, ()) else some (ilt (List.getD z9_ (Int.toNat (iadd .i64 (iadd .i64 (iadd .i64 (iadd .i64 (iadd .i64 0 1) 1) 1) 1) 1)) 0) (List.getD (z10_ c) (Int.toNat (iadd .i64 (iadd .i64 (iadd .i64 (iadd .i64 (iadd .i64 0 1) 1) 1) 1) 1)) 0), ()))) none fun r5 => (bif r5.1 then some (((15 : Int), ()), ((), ())) else (oelim ((bif ilt (List.getD (z10_ c) (Int.toNat (iadd .i64 (iadd .i64 (iadd .i64 (iadd .i64 (iadd .i64 (iadd .i64 0 1) 1) 1) 1) 1) 1)) 0) (List.getD z8_ (Int.toNat (iadd .i64 (iadd .i64 (iadd .i64 (iadd .i64 (iadd .i64 (iadd .i64 0 1) 1) 1) 1) 1) 1)) 0) then some (true, ()) else some (ilt (List.getD z9_ (Int.toNat (iadd .i64 (iadd .i64 (iadd .i64 (iadd .i64 (iadd .i64 (iadd .i64 0 1) 1) 1) 1) 1) 1)) 0) (List.getD (z10_ c) (Int.toNat (iadd .i64 (iadd .i64 (iadd .i64 (iadd .i64 (iadd .i64 (iadd .i64 0 1) 1) 1) 1) 1) 1)) 0), ()))) none fun r6 => (bif r6.1 then some (((15 : Int), ()), ((), ())) else (oelim ((bif ilt (List.getD (z10_ c) (Int.toNat (iadd .i64 (iadd .i64 (iadd .i64 (iadd .i64 (iadd .i64 (iadd .i64 (iadd .i64 0 1) 1) 1) 1) 1) 1) 1)) 0) (List.getD z8_ (Int.toNat (iadd .i64 (iadd .i64 (iadd .i64 (iadd .i64 (iadd .i64 (iadd .i64 (iadd .i64 0 1) 1) 1) 1) 1) 1) 1)) 0) then some (true, ()) else some (ilt (List.getD z9_ (Int.toNat (iadd .i64 (iadd .i64 (iadd .i64 (iadd .i64 (iadd .i64 (iadd .i64 (iadd .i64 0 1) 1) 1) 1) 1) 1) 1)) 0) (List.getD (z10_ c) (Int.toNat (iadd .i64 (iadd .i64 (iadd .i64 (iadd .i64 (iadd .i64 (iadd .i64 (iadd .i64 0 1) 1) 1) 1) 1) 1) 1)) 0), ()))) none fun r7 => (bif r7.1 then some (((15 : Int), ()), ((), ())) else (oelim ((bif ilt (List.getD (z10_ c) (Int.toNat (iadd .i64 (iadd .i64 (iadd .i64 (iadd .i64 (iadd .i64 (iadd .i64 (iadd .i64 (iadd .i64 0 1) 1) 1) 1) 1) 1) 1) 1)) 0) (List.getD z8_ (Int.toNat (iadd .i64 (iadd .i64 (iadd .i64 (iadd .i64 (iadd .i64 (iadd .i64 (iadd .i64 (iadd .i64 0 1) 1) 1) 1) 1) 1) 1) 1)) 0) then some (true, ()) else some (ilt (List.getD z9_ (Int.toNat (iadd .i64 (iadd .i64 (iadd .i64 (iadd .i64 (iadd .i64 (iadd .i64 (iadd .i64 (iadd .i64 0 1) 1) 1) 1) 1) 1) 1) 1)) 0) (List.getD (z10_ c) (Int.toNat (iadd .i64 (iadd .i64 (iadd .i64 (iadd .i64 (iadd .i64 (iadd .i64 (iadd .i64 (iadd .i64 0 1) 1) 1) 1) 1) 1) 1) 1)) 0), ()))) none fun r8 => (bif r8.1 then some (((15 : Int), ()), ((), ())) else (oelim ((bif ilt (List.getD (z10_ c) (Int.toNat (iadd .i64 (iadd .i64 (iadd .i64 (iadd .i64 (iadd .i64 (iadd .i64 (iadd .i64 (iadd .i64 (iadd .i64 0 1) 1) 1) 1) 1) 1) 1) 1) 1)) 0) (List.getD z8_ (Int.toNat (iadd .i64 (iadd .i64 (iadd .i64 (iadd .i64 (iadd .i64 (iadd .i64 (iadd .i64 (iadd .i64 (iadd .i64 0 1) 1) 1) 1) 1) 1) 1) 1) 1)) 0) then some (true, ()) else some (ilt (List.getD z9_ (Int.toNat (iadd .i64 (iadd .i64 (iadd .i64 (iadd .i64 (iadd .i64 (iadd .i64 (iadd .i64 (iadd .i64 (iadd .i64 0 1) 1) 1) 1) 1) 1) 1) 1) 1)) 0) (List.getD (z10_ c) (Int.toNat (iadd .i64 (iadd .i64 (iadd .i64 (iadd .i64 (iadd .i64 (iadd .i64 (iadd .i64 (iadd .i64 (iadd .i64 0 1) 1) 1) 1) 1) 1) 1) 1) 1)) 0), ()))) none fun r9 => (bif r9.1 then some (((15 : Int), ()), ((), ())) else (oelim ((bif ilt (List.getD (z10_ c) (Int.toNat (iadd .i64 (iadd .i64 (iadd .i64 (iadd .i64 (iadd .i64 (iadd .i64 (iadd .i64 (iadd .i64 (iadd .i64 (iadd .i64 0 1) 1) 1) 1) 1) 1) 1) 1) 1) 1)) 0) (List.getD z8_ (Int.toNat (iadd .i64 (iadd .i64 (iadd .i64 (iadd .i64 (iadd .i64 (iadd .i64 (iadd .i64 (iadd .i64 (iadd .i64 (iadd .i64 0 1) 1) 1) 1) 1) 1) 1) 1) 1) 1)) 0) then some (true, ()) else some (ilt (List.getD z9_ (Int.toNat (iadd .i64 (iadd .i64 (iadd .i64 (iadd .i64 (iadd .i64 (iadd .i64 (iadd .i64 (iadd .i64 (iadd .i64 (iadd .i64 0 1) 1) 1) 1) 1) 1) 1) 1) 1) 1)) 0) (List.getD (z10_ c) (Int.toNat (iadd .i64 (iadd .i64 (iadd .i64 (iadd .i64 (iadd .i64 (iadd .i64 (iadd .i64 (iadd .i64 (iadd .i64 (iadd .i64 0 1) 1) 1) 1) 1) 1) 1) 1) 1) 1)) 0), ()))) none fun r10 => (bif r10.1 then some (((15 : Int), ()), ((), ())) else (oelim ((bif ilt (List.getD (z10_ c) (Int.toNat (iadd .i64 (iadd .i64 (iadd .i64 (iadd .i64 (iadd .i64 (iadd .i64 (iadd .i64 (iadd .i64 (iadd .i64 (iadd .i64 (iadd .i64 0 1) 1) 1) 1) 1) 1) 1) 1) 1) 1) 1)) 0) (List.getD z8_ (Int.toNat (iadd .i64 (iadd .i64 (iadd .i64 (iadd .i64 (iadd .i64 (iadd .i64 (iadd .i64 (iadd .i64 (iadd .i64 (iadd .i64 (iadd .i64 0 1) 1) 1) 1) 1) 1) 1) 1) 1) 1) 1)) 0) then some (true, ()) else some (ilt (List.getD z9_ (Int.toNat (iadd .i64 (iadd .i64 (iadd .i64 (iadd .i64 (iadd .i64 (iadd .i64 (iadd .i64 (iadd .i64 (iadd .i64 (iadd .i64 (iadd .i64 0 1) 1) 1) 1) 1) 1) 1) 1) 1) 1) 1)) 0) (List.getD (z10_ c) (Int.toNat (iadd .i64 (iadd .i64 (iadd .i64 (iadd .i64 (iadd .i64 (iadd .i64 (iadd .i64 (iadd .i64 (iadd .i64 (iadd .i64 (iadd .i64 0 1) 1) 1) 1) 1) 1) 1) 1) 1) 1) 1)) 0), ()))) none fun r11 => (bif r11.1 then some (((15 : Int), ()), ((), ())) else (oelim ((bif ilt (List.getD (z10_ c) (Int.toNat (iadd .i64 (iadd .i64 (iadd .i64 (iadd .i64 (iadd .i64 (iadd .i64 (iadd .i64 (iadd .i64 (iadd .i64 (iadd .i64 (iadd .i64 (iadd .i64 0 1) 1) 1) 1) 1) 1) 1) 1) 1) 1) 1) 1)) 0) (List.getD z8_ (Int.toNat (iadd .i64 (iadd .i64 (iadd .i64 (iadd .i64 (iadd .i64 (iadd .i64 (iadd .i64 (iadd .i64 (iadd .i64 (iadd .i64 (iadd .i64 (iadd .i64 0 1) 1) 1) 1) 1) 1) 1) 1) 1) 1) 1) 1)) 0) then some (true, ()) else some (ilt (List.getD z9_ (Int.toNat (iadd .i64 (iadd .i64 (iadd .i64 (iadd .i64 (iadd .i64 (iadd .i64 (iadd .i64 (iadd .i64 (iadd .i64 (iadd .i64 (iadd .i64 (iadd .i64 0 1) 1) 1) 1) 1) 1) 1) 1) 1) 1) 1) 1)) 0) (List.getD (z10_ c) (Int.toNat (iadd .i64 (iadd .i64 (iadd .i64 (iadd .i64 (iadd .i64 (iadd .i64 (iadd .i64 (iadd .i64 (iadd .i64 (iadd .i64 (iadd .i64 (iadd .i64 0 1) 1) 1) 1) 1) 1) 1) 1) 1) 1) 1) 1)) 0), ()))) none fun r12 => (bif r12.1 then some (((15 : Int), ()), ((), ())) else (oelim ((bif ilt (List.getD (z10_ c) (Int.toNat (iadd .i64 (iadd .i64 (iadd .i64 (iadd .i64 (iadd .i64 (iadd .i64 (iadd .i64 (iadd .i64 (iadd .i64 (iadd .i64 (iadd .i64 (iadd .i64 (iadd .i64 0 1) 1) 1) 1) 1) 1) 1) 1) 1) 1) 1) 1) 1)) 0) (List.getD z8_ (Int.toNat (iadd .i64 (iadd .i64 (iadd .i64 (iadd .i64 (iadd .i64 (iadd .i64 (iadd .i64 (iadd .i64 (iadd .i64 (iadd .i64 (iadd .i64 (iadd .i64 (iadd .i64 0 1) 1) 1) 1) 1) 1) 1) 1) 1) 1) 1) 1) 1)) 0) then some (true, ()) else some (ilt (List.getD z9_ (Int.toNat (iadd .i64 (iadd .i64 (iadd .i64 (iadd .i64 (iadd .i64 (iadd .i64 (iadd .i64 (iadd .i64 (iadd .i64 (iadd .i64 (iadd .i64 (iadd .i64 (iadd .i64 0 1) 1) 1) 1) 1) 1) 1) 1) 1) 1) 1) 1) 1)) 0) (List.getD (z10_ c) (Int.toNat (iadd .i64 (iadd .i64 (iadd .i64 (iadd .i64 (iadd .i64 (iadd .i64 (iadd .i64 (iadd .i64 (iadd .i64 (iadd .i64 (iadd .i64 (iadd .i64 (iadd .i64 0 1) 1) 1) 1) 1) 1) 1) 1) 1) 1) 1) 1) 1)) 0), ()))) none fun r13 => (bif r13.1 then some (((15 : Int), ()), ((), ())) else (oelim ((bif ilt (List.getD (z10_ c) (Int.toNat (iadd .i64 (iadd .i64 (iadd .i64 (iadd .i64 (iadd .i64 (iadd .i64 (iadd .i64 (iadd .i64 (iadd .i64 (iadd .i64 (iadd .i64 (iadd .i64 (iadd .i64 (iadd .i64 0 1) 1) 1) 1) 1) 1) 1) 1) 1) 1) 1) 1) 1) 1)) 0) (List.getD z8_ (Int.toNat (iadd .i64 (iadd .i64 (iadd .i64 (iadd .i64 (iadd .i64 (iadd .i64 (iadd .i64 (iadd .i64 (iadd .i64 (iadd .i64 (iadd .i64 (iadd .i64 (iadd .i64 (iadd .i64 0 1) 1) 1) 1) 1) 1) 1) 1) 1) 1) 1) 1) 1) 1)) 0) then some (true, ()) else some (ilt (List.getD z9_ (Int.toNat (iadd .i64 (iadd .i64 (iadd .i64 (iadd .i64 (iadd .i64 (iadd .i64 (iadd .i64 (iadd .i64 (iadd .i64 (iadd .i64 (iadd .i64 (iadd .i64 (iadd .i64 (iadd .i64 0 1) 1) 1) 1) 1) 1) 1) 1) 1) 1) 1) 1) 1) 1)) 0) (List.getD (z10_ c) (Int.toNat (iadd .i64 (iadd .i64 (iadd .i64 (iadd .i64 (iadd .i64 (iadd .i64 (iadd .i64 (iadd .i64 (iadd .i64 (iadd .i64 (iadd .i64 (iadd .i64 (iadd .i64 (iadd .i64 0 1) 1) 1) 1) 1) 1) 1) 1) 1) 1) 1) 1) 1) 1)) 0), ()))) none fun r14 => (bif r14.1 then some (((15 : Int), ()), ((), ())) else (oelim ((bif ieq c.fClock 0 then some (true, ()) else (bif ieq c.fClock 18446744073709551615 then some (true, ()) else (oelim (cK98 c.fQuality) none fun r15 => some (!r15.1.1, ()))))) none fun r16 => (bif r16.1 then some (((15 : Int), ()), ((), ())) else (oelim ((bif c.fSlaveOnly then (bif ilt 1 c.fPorts then some (true, ()) else some (ine c.fQuality.fClass 255, ())) else some (false, ()))) none fun r17 => (bif r17.1 then some (((15 : Int), ()), ((), ())) else some (((0 : Int), ()), ((), ()))))))))))))))))))))))))))))))))))))
noncomputable def K44 : K44.T := K44.gen K98
theorem K44.inner0 : loopsOf K44.B0 = [] := by kernel_rfl
noncomputable abbrev K44.h := K44.H K98
theorem K44.lok0 : LoopOK U Tryz.prog K44.h.ro K44.h.base K44.B0 (unrollN Tryz.prog (K44.U0 K98) 6 K44.B0 17) :=
 unrollN_ok (Hn := (K44.U0 K98)) (L := fun c => c ∈ ([] : List Code)) (hq (addΓ_ok noΓ_ok K98.ok) loops_nil (fun _ => rfl) (fun _ => rfl)) (fun b h => by rw [K44.inner0] at h; exact h) 17
theorem K44.eq (cK98 : K98.T) : EqA K44.sig (K44.H cK98) Tryz.f48 6 (K44.W (K44.gen cK98)) := by intro a x; kernel_rfl
theorem K44.loops : loopsOf K44.C = [(.loop K44.B0)] := by kernel_rfl
theorem K44.hints : HintsOK U Tryz.prog K44.h (fun c => c ∈ [(.loop K44.B0)]) := (hq (addΓ_ok noΓ_ok K98.ok) (loops_cons (by kernel_rfl) K44.lok0 loops_nil) (fun _ => rfl) (fun _ => rfl))
theorem K44.ok : NativeOK U Tryz.prog 48 (K44.sig.native (K44.W K44)) :=
 Sig.ok K44.sig (K44.W K44) U_pure (Hn := K44.h) (code := K44.C) (gos := 6) K44.hints Tryz.func48 (by kernel_rfl) (by kernel_rfl) (fun b h => by rw [K44.loops] at h; exact h) rfl rfl (by decide) (K44.eq K98) (by decide)
noncomputable def K123.sig : Sig U := ⟨[.data .t_api_Conf], [], 0, [.data .t_api_Parent], false, []⟩
abbrev K123.T : Type := (api_Conf) → Option ((api_Parent × Unit) × Unit × Unit)
noncomputable def K123.W (f : K123.T) : K123.sig.F := fun a x => f a.1
noncomputable def K123.H : Hints U := { Γ := noΓ, ro := 0, base := 13 }
noncomputable def K123.gen : K123.T := fun c =>
 some ((api_Parent.mk (api_PortID.mk c.fClock 0) c.fClock c.fQuality c.fPriority1 c.fPriority2 0 c.fTimes, ()), ((), ()))
noncomputable def K123 : K123.T := K123.gen
theorem K123.eq : EqA K123.sig (K123.H) Tryz.f88 6 (K123.W (K123.gen)) := by intro a x; kernel_rfl
theorem K123.hints : HintsOK U Tryz.prog (K123.H) (fun c => c ∈ ([] : List Code)) := (hq noΓ_ok loops_nil (fun _ => rfl) (fun _ => rfl))
theorem K123.ok : NativeOK U Tryz.prog 88 (K123.sig.native (K123.W K123)) :=
 Sig.ok K123.sig (K123.W (K123.gen)) U_pure (Hn := (K123.H)) (gos := 6) K123.hints Tryz.func88 rfl (by kernel_rfl) (fun b h => h) rfl rfl (by decide) (K123.eq) (by decide)
noncomputable def K103.sig : Sig U := ⟨[.int .i64, .int .i64, .int .i64], [fm5_], 0, [.ref 5], false, []⟩
abbrev K103.T : Type := (Int) → (Int) → (Int) → (Fm servo_Servo) → Option (((Option Nat) × Unit) × ((Fm servo_Servo) × Unit) × Unit)
noncomputable def K103.W (f : K103.T) : K103.sig.F := fun a x => f a.1 a.2.1 a.2.2.1 x.1
noncomputable def K103.H : Hints U := { Γ := noΓ, ro := 0, base := 13 }
noncomputable def K103.gen : K103.T := fun kp ki step g5 =>
 some ((some g5.1, ()), (((g5.1 + 1, fset g5.2 g5.1 (servo_Servo.mk (opMinMax true 0 (opMinMax false kp 2000)) (opMinMax true 0 (opMinMax false ki 2000)) (opMinMax true 0 (opMinMax false step 1000000000)) 0 0 0 0)), ()), ()))
noncomputable def K103 : K103.T := K103.gen
theorem K103.eq : EqA K103.sig (K103.H) Tryz.f89 6 (K103.W (K103.gen)) := by intro a x; kernel_rfl
theorem K103.hints : HintsOK U Tryz.prog (K103.H) (fun c => c ∈ ([] : List Code)) := (hq noΓ_ok loops_nil (fun _ => rfl) (fun _ => rfl))
theorem K103.ok : NativeOK U Tryz.prog 89 (K103.sig.native (K103.W K103)) :=
 Sig.ok K103.sig (K103.W (K103.gen)) U_pure (Hn := (K103.H)) (gos := 6) K103.hints Tryz.func89 rfl (by kernel_rfl) (fun b h => h) rfl rfl (by decide) (K103.eq) (by decide)
noncomputable def K80.sig : Sig U := ⟨[.int .i64], [fm9_], 0, [.ref 9], false, []⟩
abbrev K80.T : Type := (Int) → (Fm median_Filter) → Option (((Option Nat) × Unit) × ((Fm median_Filter) × Unit) × Unit)
noncomputable def K80.W (f : K80.T) : K80.sig.F := fun a x => f a.1 x.1
noncomputable def K80.H : Hints U := { Γ := noΓ, ro := 0, base := 13 }
noncomputable def K80.gen : K80.T := fun n g9 =>
 some ((some g9.1, ()), (((g9.1 + 1, fset g9.2 g9.1 (median_Filter.mk (fun (j : Nat) => List.getD ((0 : Int) :: (0 : Int) :: (0 : Int) :: (0 : Int) :: (0 : Int) :: (0 : Int) :: (0 : Int) :: (0 : Int) :: (0 : Int) :: (0 : Int) :: (0 : Int) :: (0 : Int) :: (0 : Int) :: (0 : Int) :: (0 : Int) :: lnil Int) j (0 : D UC.int)) 0 (opMinMax true 1 (opMinMax false n 15)))), ()), ()))
noncomputable def K80 : K80.T := K80.gen
theorem K80.eq : EqA K80.sig (K80.H) Tryz.f90 6 (K80.W (K80.gen)) := by intro a x; kernel_rfl
theorem K80.hints : HintsOK U Tryz.prog (K80.H) (fun c => c ∈ ([] : List Code)) := (hq noΓ_ok loops_nil (fun _ => rfl) (fun _ => rfl))
theorem K80.ok : NativeOK U Tryz.prog 90 (K80.sig.native (K80.W K80)) :=
 Sig.ok K80.sig (K80.W (K80.gen)) U_pure (Hn := (K80.H)) (gos := 6) K80.hints Tryz.func90 rfl (by kernel_rfl) (fun b h => h) rfl rfl (by decide) (K80.eq) (by decide)
noncomputable def K25.sig : Sig U := ⟨[.ptr, .int .i64], [.obj .t_clock_Clock], 1, [.data .t_api_PortID], false, []⟩
abbrev K25.T : Type := (Int) → (clock_Clock) → Option ((api_PortID × Unit) × Unit × Unit)
noncomputable def K25.W (f : K25.T) : K25.sig.F := fun a x => f a.2.1 x.1
noncomputable def K25.H : Hints U := { Γ := (addΓ 5000000021 noNat noΓ), ro := 14, base := 14 }
noncomputable def K25.gen : K25.T := fun n h0 =>
 some ((api_PortID.mk h0.fconf.fClock n, ()), ((), ()))
noncomputable def K25 : K25.T := K25.gen
theorem K25.eq : EqA K25.sig (K25.H) Tryz.f79 6 (K25.W (K25.gen)) := by intro a x; kernel_rfl
theorem K25.hints : HintsOK U Tryz.prog (K25.H) (fun c => c ∈ ([] : List Code)) := (hq (addΓ_ok noΓ_ok noNat_ok) loops_nil (fun _ => rfl) (fun _ => rfl))
theorem K25.ok : NativeOK U Tryz.prog 79 (K25.sig.native (K25.W K25)) :=
 Sig.ok K25.sig (K25.W (K25.gen)) U_pure (Hn := (K25.H)) (gos := 6) K25.hints Tryz.func79 rfl (by kernel_rfl) (fun b h => h) rfl rfl (by decide) (K25.eq) (by decide)
noncomputable def K26.sig : Sig U := ⟨[.ptr, .int .i64], [.obj .t_clock_Clock], 1, [.eptr 0 23 42 8], false, []⟩
abbrev K26.T : Type := (Int) → (clock_Clock) → Option ((Nat × Unit) × Unit × Unit)
noncomputable def K26.W (f : K26.T) : K26.sig.F := fun a x => f a.2.1 x.1
noncomputable def K26.H : Hints U := { Γ := (addΓ 5000000021 noNat noΓ), ro := 14, base := 14 }
noncomputable def K26.gen : K26.T := fun n h0 =>
 (bif inR (isub .i64 n 1) 8 then some ((Int.toNat (isub .i64 n 1), ()), ((), ())) else none)
noncomputable def K26 : K26.T := K26.gen
theorem K26.eq : EqA K26.sig (K26.H) Tryz.f52 6 (K26.W (K26.gen)) := by intro a x; kernel_rfl
theorem K26.hints : HintsOK U Tryz.prog (K26.H) (fun c => c ∈ ([] : List Code)) := (hq (addΓ_ok noΓ_ok noNat_ok) loops_nil (fun _ => rfl) (fun _ => rfl))
theorem K26.ok : NativeOK U Tryz.prog 52 (K26.sig.native (K26.W K26)) :=
 Sig.ok K26.sig (K26.W (K26.gen)) U_pure (Hn := (K26.H)) (gos := 6) K26.hints Tryz.func52 rfl (by kernel_rfl) (fun b h => h) rfl rfl (by decide) (K26.eq) (by decide)
noncomputable def K110.sig : Sig U := ⟨[.int .i64, .int .i64], [], 0, [.int .i64], false, []⟩
abbrev K110.T : Type := (Int) → (Int) → Option ((Int × Unit) × Unit × Unit)
noncomputable def K110.W (f : K110.T) : K110.sig.F := fun a x => f a.1 a.2.1
noncomputable def K110.H : Hints U := { Γ := noΓ, ro := 0, base := 13 }
noncomputable def K110.gen : K110.T := fun n log =>
 (bif ieq (opMinMax true (-3) (opMinMax false log 4)) (-3) then some ((iquo .i64 (iquo .i64 (iquo .i64 n 2) 2) 2, ()), ((), ())) else (bif ieq (opMinMax true (-3) (opMinMax false log 4)) (-2) then some ((iquo .i64 (iquo .i64 n 2) 2, ()), ((), ())) else (bif ieq (opMinMax true (-3) (opMinMax false log 4)) (-1) then some ((iquo .i64 n 2, ()), ((), ())) else (bif ile 0 (opMinMax true (-3) (opMinMax false log 4)) then some ((ishl .i64 n (opMinMax true (-3) (opMinMax false log 4)), ()), ((), ())) else none))))
noncomputable def K110 : K110.T := K110.gen
theorem K110.eq : EqA K110.sig (K110.H) Tryz.f175 6 (K110.W (K110.gen)) := by intro a x; kernel_rfl
theorem K110.hints : HintsOK U Tryz.prog (K110.H) (fun c => c ∈ ([] : List Code)) := (hq noΓ_ok loops_nil (fun _ => rfl) (fun _ => rfl))
theorem K110.ok : NativeOK U Tryz.prog 175 (K110.sig.native (K110.W K110)) :=
 Sig.ok K110.sig (K110.W (K110.gen)) U_pure (Hn := (K110.H)) (gos := 6) K110.hints Tryz.func175 rfl (by kernel_rfl) (fun b h => h) rfl rfl (by decide) (K110.eq) (by decide)
noncomputable def K109.sig : Sig U := ⟨[.int .i64], [], 0, [.int .i64], false, []⟩
abbrev K109.T : Type := (Int) → Option ((Int × Unit) × Unit × Unit)
noncomputable def K109.W (f : K109.T) : K109.sig.F := fun a x => f a.1
noncomputable def K109.H (cK110 : K110.T) : Hints U := { Γ := (addΓ 175 (K110.sig.native (K110.W cK110)) noΓ), ro := 0, base := 13 }
noncomputable def K109.gen (cK110 : K110.T) : K109.T := fun log =>
 (oelim (cK110 8 log) none fun r0 => some ((r0.1.1, ()), ((), ())))
noncomputable def K109 : K109.T := K109.gen K110
theorem K109.eq (cK110 : K110.T) : EqA K109.sig (K109.H cK110) Tryz.f132 6 (K109.W (K109.gen cK110)) := by intro a x; kernel_rfl
noncomputable abbrev K109.h := K109.H K110
theorem K109.hints : HintsOK U Tryz.prog K109.h (fun c => c ∈ ([] : List Code)) := (hq (addΓ_ok noΓ_ok K110.ok) loops_nil (fun _ => rfl) (fun _ => rfl))
theorem K109.ok : NativeOK U Tryz.prog 132 (K109.sig.native (K109.W K109)) :=
 Sig.ok K109.sig (K109.W K109) U_pure (Hn := K109.h) (gos := 6) K109.hints Tryz.func132 rfl (by kernel_rfl) (fun b h => h) rfl rfl (by decide) (K109.eq K110) (by decide)
noncomputable def K13.sig : Sig U := ⟨[.ptr], [.obj .t_clock_Clock], 1, [.int .i64], false, []⟩
abbrev K13.T : Type := (clock_Clock) → Option ((Int × Unit) × Unit × Unit)
noncomputable def K13.W (f : K13.T) : K13.sig.F := fun a x => f x.1
noncomputable def K13.H (cK109 : K109.T) : Hints U := { Γ := (addΓ 132 (K109.sig.native (K109.W cK109)) (addΓ 5000000021 noNat noΓ)), ro := 14, base := 14 }
noncomputable def K13.gen (cK109 : K109.T) : K13.T := fun h0 =>
 (oelim (cK109 h0.fconf.fLogAnn) none fun r0 => some ((r0.1.1, ()), ((), ())))
noncomputable def K13 : K13.T := K13.gen K109
theorem K13.eq (cK109 : K109.T) : EqA K13.sig (K13.H cK109) Tryz.f70 6 (K13.W (K13.gen cK109)) := by intro a x; kernel_rfl
noncomputable abbrev K13.h := K13.H K109
theorem K13.hints : HintsOK U Tryz.prog K13.h (fun c => c ∈ ([] : List Code)) := (hq (addΓ_ok (addΓ_ok noΓ_ok noNat_ok) K109.ok) loops_nil (fun _ => rfl) (fun _ => rfl))
theorem K13.ok : NativeOK U Tryz.prog 70 (K13.sig.native (K13.W K13)) :=
 Sig.ok K13.sig (K13.W K13) U_pure (Hn := K13.h) (gos := 6) K13.hints Tryz.func70 rfl (by kernel_rfl) (fun b h => h) rfl rfl (by decide) (K13.eq K109) (by decide)
noncomputable def K52.sig : Sig U := ⟨[.int .u64, .int .i64, .int .i64], [fm6_], 0, [.ref 6], false, []⟩
abbrev K52.T : Type := (Int) → (Int) → (Int) → (Fm foreign_Table) → Option (((Option Nat) × Unit) × ((Fm foreign_Table) × Unit) × Unit)
noncomputable def K52.W (f : K52.T) : K52.sig.F := fun a x => f a.1 a.2.1 a.2.2.1 x.1
noncomputable def K52.H : Hints U := { Γ := noΓ, ro := 0, base := 13 }
noncomputable def K52.gen : K52.T := fun own port window g6 =>
 some ((some g6.1, ()), (((g6.1 + 1, fset g6.2 g6.1 (foreign_Table.mk (api_PortID.mk own port) (opMinMax true 1 (opMinMax false window 1048576)) (fun (j : Nat) => List.getD (foreign_Record.mk z5_ z6_ 0 0 0 :: foreign_Record.mk z5_ z6_ 0 0 0 :: foreign_Record.mk z5_ z6_ 0 0 0 :: foreign_Record.mk z5_ z6_ 0 0 0 :: foreign_Record.mk z5_ z6_ 0 0 0 :: lnil foreign_Record) j foreign_Record.zero) 0)), ()), ()))
noncomputable def K52 : K52.T := K52.gen
theorem K52.eq : EqA K52.sig (K52.H) Tryz.f91 6 (K52.W (K52.gen)) := by intro a x; kernel_rfl
theorem K52.hints : HintsOK U Tryz.prog (K52.H) (fun c => c ∈ ([] : List Code)) := (hq noΓ_ok loops_nil (fun _ => rfl) (fun _ => rfl))
theorem K52.ok : NativeOK U Tryz.prog 91 (K52.sig.native (K52.W K52)) :=
 Sig.ok K52.sig (K52.W (K52.gen)) U_pure (Hn := (K52.H)) (gos := 6) K52.hints Tryz.func91 rfl (by kernel_rfl) (fun b h => h) rfl rfl (by decide) (K52.eq) (by decide)
noncomputable def K101.sig : Sig U := ⟨[], [fm10_], 0, [.ref 10], false, []⟩
abbrev K101.T : Type := (Fm seq_Match) → Option (((Option Nat) × Unit) × ((Fm seq_Match) × Unit) × Unit)
noncomputable def K101.W (f : K101.T) : K101.sig.F := fun a x => f x.1
noncomputable def K101.H : Hints U := { Γ := noΓ, ro := 0, base := 13 }
noncomputable def K101.gen : K101.T := fun g10 =>
 some ((some g10.1, ()), (((g10.1 + 1, fset g10.2 g10.1 (seq_Match.mk z2_ z2_ 0 false false)), ()), ()))
noncomputable def K101 : K101.T := K101.gen
theorem K101.eq : EqA K101.sig (K101.H) Tryz.f92 6 (K101.W (K101.gen)) := by intro a x; kernel_rfl
theorem K101.hints : HintsOK U Tryz.prog (K101.H) (fun c => c ∈ ([] : List Code)) := (hq noΓ_ok loops_nil (fun _ => rfl) (fun _ => rfl))
theorem K101.ok : NativeOK U Tryz.prog 92 (K101.sig.native (K101.W K101)) :=
 Sig.ok K101.sig (K101.W (K101.gen)) U_pure (Hn := (K101.H)) (gos := 6) K101.hints Tryz.func92 rfl (by kernel_rfl) (fun b h => h) rfl rfl (by decide) (K101.eq) (by decide)
noncomputable def K51.sig : Sig U := ⟨[.data .t_api_PortID, .int .i64], [fm7_], 0, [.ref 7], false, []⟩
abbrev K51.T : Type := (api_PortID) → (Int) → (Fm delay_Exchange) → Option (((Option Nat) × Unit) × ((Fm delay_Exchange) × Unit) × Unit)
noncomputable def K51.W (f : K51.T) : K51.sig.F := fun a x => f a.1 a.2.1 x.1
noncomputable def K51.H : Hints U := { Γ := noΓ, ro := 0, base := 13 }
noncomputable def K51.gen : K51.T := fun self domain g7 =>
 some ((some g7.1, ()), (((g7.1 + 1, fset g7.2 g7.1 (delay_Exchange.mk self domain (delay_request.mk 0 0 false false))), ()), ()))
noncomputable def K51 : K51.T := K51.gen
theorem K51.eq : EqA K51.sig (K51.H) Tryz.f93 6 (K51.W (K51.gen)) := by intro a x; kernel_rfl
theorem K51.hints : HintsOK U Tryz.prog (K51.H) (fun c => c ∈ ([] : List Code)) := (hq noΓ_ok loops_nil (fun _ => rfl) (fun _ => rfl))
theorem K51.ok : NativeOK U Tryz.prog 93 (K51.sig.native (K51.W K51)) :=
 Sig.ok K51.sig (K51.W (K51.gen)) U_pure (Hn := (K51.H)) (gos := 6) K51.hints Tryz.func93 rfl (by kernel_rfl) (fun b h => h) rfl rfl (by decide) (K51.eq) (by decide)
noncomputable def K90.sig : Sig U := ⟨[.data .t_api_PortID, .int .i64], [fm8_], 0, [.ref 8], false, []⟩
abbrev K90.T : Type := (api_PortID) → (Int) → (Fm peer_Exchange) → Option (((Option Nat) × Unit) × ((Fm peer_Exchange) × Unit) × Unit)
noncomputable def K90.W (f : K90.T) : K90.sig.F := fun a x => f a.1 a.2.1 x.1
noncomputable def K90.H : Hints U := { Γ := noΓ, ro := 0, base := 13 }
noncomputable def K90.gen : K90.T := fun self domain g8 =>
 some ((some g8.1, ()), (((g8.1 + 1, fset g8.2 g8.1 (peer_Exchange.mk self domain 0 0 false false false false z2_ 0)), ()), ()))
noncomputable def K90 : K90.T := K90.gen
theorem K90.eq : EqA K90.sig (K90.H) Tryz.f94 6 (K90.W (K90.gen)) := by intro a x; kernel_rfl
theorem K90.hints : HintsOK U Tryz.prog (K90.H) (fun c => c ∈ ([] : List Code)) := (hq noΓ_ok loops_nil (fun _ => rfl) (fun _ => rfl))
theorem K90.ok : NativeOK U Tryz.prog 94 (K90.sig.native (K90.W K90)) :=
 Sig.ok K90.sig (K90.W (K90.gen)) U_pure (Hn := (K90.H)) (gos := 6) K90.hints Tryz.func94 rfl (by kernel_rfl) (fun b h => h) rfl rfl (by decide) (K90.eq) (by decide)
noncomputable def K15.sig : Sig U := ⟨[.ptr, .data .t_api_Conf], [.obj .t_clock_Clock, fm5_, fm6_, fm7_, fm8_, fm9_, fm10_, .fam 12 (.map true false .t_api_PortID .l_u64)], 0, [], true, []⟩
abbrev K15.T : Type := (api_Conf) → (clock_Clock) → (Fm servo_Servo) → (Fm foreign_Table) → (Fm delay_Exchange) → (Fm peer_Exchange) → (Fm median_Filter) → (Fm seq_Match) → (Nat × (Nat → List (api_PortID × List (Int)))) → Option (Unit × (clock_Clock × (Fm servo_Servo) × (Fm foreign_Table) × (Fm delay_Exchange) × (Fm peer_Exchange) × (Fm median_Filter) × (Fm seq_Match) × (Nat × (Nat → List (api_PortID × List (Int)))) × Unit) × Unit)
noncomputable def K15.W (f : K15.T) : K15.sig.F := fun a x => f a.2.1 x.1 x.2.1 x.2.2.1 x.2.2.2.1 x.2.2.2.2.1 x.2.2.2.2.2.1 x.2.2.2.2.2.2.1 x.2.2.2.2.2.2.2.1
noncomputable def K15.L0 : Shape U := ⟨57, 15, [(0, .ptr 13 0 0), (3, .ptr 14 0 0), (4, vi_)], [(13, .obj .t_clock_Clock), (14, .obj .t_api_Conf), (5, .famN false .t_servo_Servo), (6, .famN false .t_foreign_Table), (7, .famN false .t_delay_Exchange), (8, .famN false .t_peer_Exchange), (9, .famN false .t_median_Filter), (10, .famN false .t_seq_Match), (12, .mfam true false .t_api_PortID .l_u64)]⟩
noncomputable def K15.X0 : Exits U := [(.exit 0, ⟨57, 14, [], [(13, .obj .t_clock_Clock), (5, .famN false .t_servo_Servo), (6, .famN false .t_foreign_Table), (7, .famN false .t_delay_Exchange), (8, .famN false .t_peer_Exchange), (9, .famN false .t_median_Filter), (10, .famN false .t_seq_Match), (12, .mfam true false .t_api_PortID .l_u64)]⟩)]
abbrev K15.l0T : Type := ((Int × Unit) × (clock_Clock × api_Conf × (Fm servo_Servo) × (Fm foreign_Table) × (Fm delay_Exchange) × (Fm peer_Exchange) × (Fm median_Filter) × (Fm seq_Match) × (Nat × (Nat → List (api_PortID × List (Int)))) × Unit)) → Option ((Unit × (clock_Clock × (Fm servo_Servo) × (Fm foreign_Table) × (Fm delay_Exchange) × (Fm peer_Exchange) × (Fm median_Filter) × (Fm seq_Match) × (Nat × (Nat → List (api_PortID × List (Int)))) × Unit)))
noncomputable def K15.C : Code := match Tryz.f49.body with | some c => c | none => .skip
noncomputable def K15.B0 : Code := match (loopsOf K15.C).getD 0 .skip with | .loop b => b | .scope b => b | _ => .skip
noncomputable def K15.JR6 : Exits U := [(.normal, ⟨57, 15, [(0, .ptr 13 0 0), (3, .ptr 14 0 0), (4, vi_)], [(13, .obj .t_clock_Clock), (14, .obj .t_api_Conf), (5, .famN false .t_servo_Servo), (6, .famN false .t_foreign_Table), (7, .famN false .t_delay_Exchange), (8, .famN false .t_peer_Exchange), (9, .famN false .t_median_Filter), (10, .famN false .t_seq_Match), (12, .mfam true false .t_api_PortID .l_u64)]⟩)]
noncomputable def K15.JR5 : Exits U := [(.normal, ⟨57, 16, [(0, .ptr 13 0 0), (3, .ptr 14 0 0), (4, vi_), (5, .ptr 15 0 0)], [(13, .obj .t_clock_Clock), (14, .obj .t_api_Conf), (15, .obj .t_api_PortID), (5, .famN false .t_servo_Servo), (6, .famN false .t_foreign_Table), (7, .famN false .t_delay_Exchange), (8, .famN false .t_peer_Exchange), (9, .famN false .t_median_Filter), (10, .famN false .t_seq_Match), (12, .mfam true false .t_api_PortID .l_u64)]⟩)]
noncomputable def K15.JR1 : Exits U := [(.normal, ⟨57, 15, [(0, .ptr 13 0 0), (3, .ptr 14 0 0)], [(13, .obj .t_clock_Clock), (14, .obj .t_api_Conf), (5, .famN false .t_servo_Servo), (6, .famN false .t_foreign_Table), (7, .famN false .t_delay_Exchange), (8, .famN false .t_peer_Exchange), (9, .famN false .t_median_Filter), (10, .famN false .t_seq_Match), (12, .mfam true false .t_api_PortID .l_u64)]⟩)]
noncomputable def K15.H (cK123 : K123.T) (cK103 : K103.T) (cK80 : K80.T) (cK25 : K25.T) (cK26 : K26.T) (cK13 : K13.T) (cK52 : K52.T) (cK101 : K101.T) (cK51 : K51.T) (cK90 : K90.T) (l0 : K15.l0T) : Hints U := { Γ := (addΓ 94 (K90.sig.native (K90.W cK90)) (addΓ 93 (K51.sig.native (K51.W cK51)) (addΓ 92 (K101.sig.native (K101.W cK101)) (addΓ 91 (K52.sig.native (K52.W cK52)) (addΓ 70 (K13.sig.native (K13.W cK13)) (addΓ 52 (K26.sig.native (K26.W cK26)) (addΓ 79 (K25.sig.native (K25.W cK25)) (addΓ 90 (K80.sig.native (K80.W cK80)) (addΓ 89 (K103.sig.native (K103.W cK103)) (addΓ 88 (K123.sig.native (K123.W cK123)) noΓ)))))))))), ro := 0, base := 14, joinR := fun b => (bif Nat.beq b 1 then some K15.JR1 else (bif Nat.beq b 5 then some K15.JR5 else (bif Nat.beq b 6 then some K15.JR6 else none))), loop := fun b => (bif Nat.beq b 3 then some (loopN (0, 14) K15.L0 K15.X0 l0) else none) }
noncomputable def K15.step0 (cK123 : K123.T) (cK103 : K103.T) (cK80 : K80.T) (cK25 : K25.T) (cK26 : K26.T) (cK13 : K13.T) (cK52 : K52.T) (cK101 : K101.T) (cK51 : K51.T) (cK90 : K90.T) (a : (Int × Unit) × (clock_Clock × api_Conf × (Fm servo_Servo) × (Fm foreign_Table) × (Fm delay_Exchange) × (Fm peer_Exchange) × (Fm median_Filter) × (Fm seq_Match) × (Nat × (Nat → List (api_PortID × List (Int)))) × Unit)) : Option (((Int × Unit) × (clock_Clock × api_Conf × (Fm servo_Servo) × (Fm foreign_Table) × (Fm delay_Exchange) × (Fm peer_Exchange) × (Fm median_Filter) × (Fm seq_Match) × (Nat × (Nat → List (api_PortID × List (Int)))) × Unit)) ⊕ ((Unit × (clock_Clock × (Fm servo_Servo) × (Fm foreign_Table) × (Fm delay_Exchange) × (Fm peer_Exchange) × (Fm median_Filter) × (Fm seq_Match) × (Nat × (Nat → List (api_PortID × List (Int)))) × Unit)))) :=
 (bif ile a.1.1 a.2.2.1.fPorts then (oelim ((oelim (cK25 a.1.1 a.2.1) none fun r0 => some ((a.1.1, ()), (a.2.1, (a.2.2.1, (r0.1.1, (a.2.2.2.1, (a.2.2.2.2.1, (a.2.2.2.2.2.1, (a.2.2.2.2.2.2.1, (a.2.2.2.2.2.2.2.1, (a.2.2.2.2.2.2.2.2.1, (a.2.2.2.2.2.2.2.2.2.1, ()))))))))))))) none fun r1 => (oelim ((oelim (cK26 r1.1.1 r1.2.1) none fun r2 => (oelim (cK13 r1.2.1) none fun r3 => (oelim (cK52 r1.2.2.1.fClock r1.1.1 (imul .i64 4 r3.1.1) r1.2.2.2.2.2.1) none fun r4 => (oelim (cK101 r1.2.2.2.2.2.2.2.2.2.1) none fun r5 => (oelim (cK51 r1.2.2.2.1 r1.2.2.1.fDomain r1.2.2.2.2.2.2.1) none fun r6 => (oelim (cK90 r1.2.2.2.1 r1.2.2.1.fDomain r1.2.2.2.2.2.2.2.1) none fun r7 => some ((r1.1.1, ()), (clock_Clock.set_fports r1.2.1 (fset r1.2.1.fports r2.1.1 (clock_side.mk 1 r4.1.1 (some r1.2.2.2.2.2.2.2.2.2.2.1.1) z3_ z3_ z3_ z3_ z3_ 0 0 0 r5.1.1 r6.1.1 r7.1.1 z4_ z4_ z2_ false)), (r1.2.2.1, (r1.2.2.2.2.1, (r4.2.1.1, (r6.2.1.1, (r7.2.1.1, (r1.2.2.2.2.2.2.2.2.1, (r5.2.1.1, ((r1.2.2.2.2.2.2.2.2.2.2.1.1 + 1, fset r1.2.2.2.2.2.2.2.2.2.2.1.2 r1.2.2.2.2.2.2.2.2.2.2.1.1 (lnil (D UC.t_api_PortID × D UC.l_u64))), ()))))))))))))))))) none fun r8 => some (.inl ((iadd .i64 r8.1.1 1, ()), (r8.2.1, (r8.2.2.1, (r8.2.2.2.1, (r8.2.2.2.2.1, (r8.2.2.2.2.2.1, (r8.2.2.2.2.2.2.1, (r8.2.2.2.2.2.2.2.1, (r8.2.2.2.2.2.2.2.2.1, (r8.2.2.2.2.2.2.2.2.2.1, ()))))))))))))) else some (.inr ((), (a.2.1, (a.2.2.2.1, (a.2.2.2.2.1, (a.2.2.2.2.2.1, (a.2.2.2.2.2.2.1, (a.2.2.2.2.2.2.2.1, (a.2.2.2.2.2.2.2.2.1, (a.2.2.2.2.2.2.2.2.2.1, ())))))))))))
noncomputable def K15.F0 : K15.l0T := fun a => loopFix (1000000) (K15.step0 K123 K103 K80 K25 K26 K13 K52 K101 K51 K90) a
noncomputable def K15.gen (cK123 : K123.T) (cK103 : K103.T) (cK80 : K80.T) (cK25 : K25.T) (cK26 : K26.T) (cK13 : K13.T) (cK52 : K52.T) (cK101 : K101.T) (cK51 : K51.T) (cK90 : K90.T) (l0 : K15.l0T) : K15.T := fun c h0 g5 g6 g7 g8 g9 g10 g12 =>
 (oelim ((oelim (cK123 c) none fun r0 => (oelim (cK103 c.fKp c.fKi c.fStep g5) none fun r1 => (oelim (cK80 c.fMedian g9) none fun r2 => some ((), (clock_Clock.mk c (fun (j : Nat) => List.getD (clock_side.mk 0 none none z3_ z3_ z3_ z3_ z3_ 0 0 0 none none none z4_ z4_ z2_ false :: clock_side.mk 0 none none z3_ z3_ z3_ z3_ z3_ 0 0 0 none none none z4_ z4_ z2_ false :: clock_side.mk 0 none none z3_ z3_ z3_ z3_ z3_ 0 0 0 none none none z4_ z4_ z2_ false :: clock_side.mk 0 none none z3_ z3_ z3_ z3_ z3_ 0 0 0 none none none z4_ z4_ z2_ false :: clock_side.mk 0 none none z3_ z3_ z3_ z3_ z3_ 0 0 0 none none none z4_ z4_ z2_ false :: clock_side.mk 0 none none z3_ z3_ z3_ z3_ z3_ 0 0 0 none none none z4_ z4_ z2_ false :: clock_side.mk 0 none none z3_ z3_ z3_ z3_ z3_ 0 0 0 none none none z4_ z4_ z2_ false :: clock_side.mk 0 none none z3_ z3_ z3_ z3_ z3_ 0 0 0 none none none z4_ z4_ z2_ false :: lnil clock_side) j clock_side.zero) 0 r0.1.1 r1.1.1 r2.1.1 0 z4_ 0 h0.fouts, (c, (r1.2.1.1, (g6, (g7, (g8, (r2.2.1.1, (g10, (g12, ())))))))))))))) none fun r3 => (oelim (l0 (((1 : Int), ()), r3.2)) none fun r4 => some ((), ((r4.2.1, (r4.2.2.1, (r4.2.2.2.1, (r4.2.2.2.2.1, (r4.2.2.2.2.2.1, (r4.2.2.2.2.2.2.1, (r4.2.2.2.2.2.2.2.1, (r4.2.2.2.2.2.2.2.2.1, ())))))))), ()))))
noncomputable def K15 : K15.T := K15.gen K123 K103 K80 K25 K26 K13 K52 K101 K51 K90 K15.F0
theorem K15.seq0 (cK123 : K123.T) (cK103 : K103.T) (cK80 : K80.T) (cK25 : K25.T) (cK26 : K26.T) (cK13 : K13.T) (cK52 : K52.T) (cK101 : K101.T) (cK51 : K51.T) (cK90 : K90.T) (l0 : K15.l0T) (a : K15.L0.T) : run Tryz.prog (K15.H cK123 cK103 cK80 cK25 cK26 cK13 cK52 cK101 cK51 cK90 l0) 6 (Option (K15.L0.T ⊕ ExT K15.X0)) none K15.B0 (K15.L0.enc a) (loopK (0, 14) K15.L0 K15.X0) = K15.step0 cK123 cK103 cK80 cK25 cK26 cK13 cK52 cK101 cK51 cK90 a := by kernel_rfl
theorem K15.inner0 : loopsOf K15.B0 = ([] : List Code) := by kernel_rfl
noncomputable abbrev K15.h := K15.H K123 K103 K80 K25 K26 K13 K52 K101 K51 K90 K15.F0
theorem K15.lok0 : LoopOK U Tryz.prog K15.h.ro K15.h.base K15.B0 (loopN (0, 14) K15.L0 K15.X0 K15.F0) :=
 loopN_ok (Hn := K15.h) U_ok U_pure (run_ok (hq (addΓ_ok (addΓ_ok (addΓ_ok (addΓ_ok (addΓ_ok (addΓ_ok (addΓ_ok (addΓ_ok (addΓ_ok (addΓ_ok noΓ_ok K123.ok) K103.ok) K80.ok) K25.ok) K26.ok) K13.ok) K52.ok) K101.ok) K51.ok) K90.ok) loops_nil (fun _ => rfl) (fun _ => rfl)) 6) (fun b h => by rw [K15.inner0] at h; exact h) (fun _ => rfl) (K15.seq0 K123 K103 K80 K25 K26 K13 K52 K101 K51 K90 K15.F0)
theorem K15.eq (cK123 : K123.T) (cK103 : K103.T) (cK80 : K80.T) (cK25 : K25.T) (cK26 : K26.T) (cK13 : K13.T) (cK52 : K52.T) (cK101 : K101.T) (cK51 : K51.T) (cK90 : K90.T) (l0 : K15.l0T) : EqA K15.sig (K15.H cK123 cK103 cK80 cK25 cK26 cK13 cK52 cK101 cK51 cK90 l0) Tryz.f49 6 (K15.W (K15.gen cK123 cK103 cK80 cK25 cK26 cK13 cK52 cK101 cK51 cK90 l0)) := by intro a x; kernel_rfl
theorem K15.loops : loopsOf K15.C = [(.loop K15.B0)] := by kernel_rfl
theorem K15.hints : HintsOK U Tryz.prog K15.h (fun c => c ∈ [(.loop K15.B0)]) := (hq (addΓ_ok (addΓ_ok (addΓ_ok (addΓ_ok (addΓ_ok (addΓ_ok (addΓ_ok (addΓ_ok (addΓ_ok (addΓ_ok noΓ_ok K123.ok) K103.ok) K80.ok) K25.ok) K26.ok) K13.ok) K52.ok) K101.ok) K51.ok) K90.ok) (loops_cons (by kernel_rfl) K15.lok0 loops_nil) (fun _ => rfl) (fun _ => rfl))
theorem K15.ok : NativeOK U Tryz.prog 49 (K15.sig.native (K15.W K15)) :=
 Sig.ok K15.sig (K15.W K15) U_pure (Hn := K15.h) (code := K15.C) (gos := 6) K15.hints Tryz.func49 (by kernel_rfl) (by kernel_rfl) (fun b h => by rw [K15.loops] at h; exact h) rfl rfl (by decide) (K15.eq K123 K103 K80 K25 K26 K13 K52 K101 K51 K90 K15.F0) (by decide)
noncomputable def K29.sig : Sig U := ⟨[.data .t_api_Conf], [fm0_, fm5_, fm6_, fm7_, fm8_, fm9_, fm10_, .fam 12 (.map true false .t_api_PortID .l_u64)], 0, [.ref 0, .int .i64], true, []⟩
abbrev K29.T : Type := (api_Conf) → (Fm clock_Clock) → (Fm servo_Servo) → (Fm foreign_Table) → (Fm delay_Exchange) → (Fm peer_Exchange) → (Fm median_Filter) → (Fm seq_Match) → (Nat × (Nat → List (api_PortID × List (Int)))) → Option (((Option Nat) × Int × Unit) × ((Fm clock_Clock) × (Fm servo_Servo) × (Fm foreign_Table) × (Fm delay_Exchange) × (Fm peer_Exchange) × (Fm median_Filter) × (Fm seq_Match) × (Nat × (Nat → List (api_PortID × List (Int)))) × Unit) × Unit)
noncomputable def K29.W (f : K29.T) : K29.sig.F := fun a x => f a.1 x.1 x.2.1 x.2.2.1 x.2.2.2.1 x.2.2.2.2.1 x.2.2.2.2.2.1 x.2.2.2.2.2.2.1 x.2.2.2.2.2.2.2.1
noncomputable def K29.H (cK44 : K44.T) (cK15 : K15.T) : Hints U := { Γ := (addΓ 49 (K15.sig.native (K15.W cK15)) (addΓ 48 (K44.sig.native (K44.W cK44)) noΓ)), ro := 0, base := 13 }
noncomputable def K29.gen (cK44 : K44.T) (cK15 : K15.T) : K29.T := fun c g0 g5 g6 g7 g8 g9 g10 g12 =>
 (oelim (cK44 c) none fun r0 => (bif ine r0.1.1 0 then some ((none, (r0.1.1, ())), ((g0, (g5, (g6, (g7, (g8, (g9, (g10, (g12, ())))))))), ())) else (oelim (cK15 c (fset g0.2 g0.1 (clock_Clock.mk z7_ (fun (j : Nat) => List.getD (clock_side.mk 0 none none z3_ z3_ z3_ z3_ z3_ 0 0 0 none none none z4_ z4_ z2_ false :: clock_side.mk 0 none none z3_ z3_ z3_ z3_ z3_ 0 0 0 none none none z4_ z4_ z2_ false :: clock_side.mk 0 none none z3_ z3_ z3_ z3_ z3_ 0 0 0 none none none z4_ z4_ z2_ false :: clock_side.mk 0 none none z3_ z3_ z3_ z3_ z3_ 0 0 0 none none none z4_ z4_ z2_ false :: clock_side.mk 0 none none z3_ z3_ z3_ z3_ z3_ 0 0 0 none none none z4_ z4_ z2_ false :: clock_side.mk 0 none none z3_ z3_ z3_ z3_ z3_ 0 0 0 none none none z4_ z4_ z2_ false :: clock_side.mk 0 none none z3_ z3_ z3_ z3_ z3_ 0 0 0 none none none z4_ z4_ z2_ false :: clock_side.mk 0 none none z3_ z3_ z3_ z3_ z3_ 0 0 0 none none none z4_ z4_ z2_ false :: lnil clock_side) j clock_side.zero) 0 (api_Parent.mk z0_ 0 z1_ 0 0 0 z6_) none none (0 : Int) z4_ 0 (lnil api_Out)) g0.1) g5 g6 g7 g8 g9 g10 g12) none fun r1 => some ((some g0.1, ((0 : Int), ())), (((g0.1 + 1, fset (fset g0.2 g0.1 (clock_Clock.mk z7_ (fun (j : Nat) => List.getD (clock_side.mk 0 none none z3_ z3_ z3_ z3_ z3_ 0 0 0 none none none z4_ z4_ z2_ false :: clock_side.mk 0 none none z3_ z3_ z3_ z3_ z3_ 0 0 0 none none none z4_ z4_ z2_ false :: clock_side.mk 0 none none z3_ z3_ z3_ z3_ z3_ 0 0 0 none none none z4_ z4_ z2_ false :: clock_side.mk 0 none none z3_ z3_ z3_ z3_ z3_ 0 0 0 none none none z4_ z4_ z2_ false :: clock_side.mk 0 none none z3_ z3_ z3_ z3_ z3_ 0 0 0 none none none z4_ z4_ z2_ false :: clock_side.mk 0 none none z3_ z3_ z3_ z3_ z3_ 0 0 0 none none none z4_ z4_ z2_ false :: clock_side.mk 0 none none z3_ z3_ z3_ z3_ z3_ 0 0 0 none none none z4_ z4_ z2_ false :: clock_side.mk 0 none none z3_ z3_ z3_ z3_ z3_ 0 0 0 none none none z4_ z4_ z2_ false :: lnil clock_side) j clock_side.zero) 0 (api_Parent.mk z0_ 0 z1_ 0 0 0 z6_) none none (0 : Int) z4_ 0 (lnil api_Out))) g0.1 r1.2.1.1), (r1.2.1.2.1, (r1.2.1.2.2.1, (r1.2.1.2.2.2.1, (r1.2.1.2.2.2.2.1, (r1.2.1.2.2.2.2.2.1, (r1.2.1.2.2.2.2.2.2.1, (r1.2.1.2.2.2.2.2.2.2.1, ())))))))), ())))))
noncomputable def K29 : K29.T := K29.gen K44 K15
theorem K29.eq (cK44 : K44.T) (cK15 : K15.T) : EqA K29.sig (K29.H cK44 cK15) Tryz.f24 6 (K29.W (K29.gen cK44 cK15)) := by intro a x; kernel_rfl
noncomputable abbrev K29.h := K29.H K44 K15
theorem K29.hints : HintsOK U Tryz.prog K29.h (fun c => c ∈ ([] : List Code)) := (hq (addΓ_ok (addΓ_ok noΓ_ok K44.ok) K15.ok) loops_nil (fun _ => rfl) (fun _ => rfl))
theorem K29.ok : NativeOK U Tryz.prog 24 (K29.sig.native (K29.W K29)) :=
 Sig.ok K29.sig (K29.W K29) U_pure (Hn := K29.h) (gos := 6) K29.hints Tryz.func24 rfl (by kernel_rfl) (fun b h => h) rfl rfl (by decide) (K29.eq K44 K15) (by decide)
noncomputable def K77.sig : Sig U := ⟨[.int .u64, .int .i64], [fm0_, fm5_, fm6_, fm7_, fm8_, fm9_, fm10_, .fam 12 (.map true false .t_api_PortID .l_u64)], 0, [.ref 0], false, []⟩
abbrev K77.T : Type := (Int) → (Int) → (Fm clock_Clock) → (Fm servo_Servo) → (Fm foreign_Table) → (Fm delay_Exchange) → (Fm peer_Exchange) → (Fm median_Filter) → (Fm seq_Match) → (Nat × (Nat → List (api_PortID × List (Int)))) → Option (((Option Nat) × Unit) × ((Fm clock_Clock) × (Fm servo_Servo) × (Fm foreign_Table) × (Fm delay_Exchange) × (Fm peer_Exchange) × (Fm median_Filter) × (Fm seq_Match) × (Nat × (Nat → List (api_PortID × List (Int)))) × Unit) × Unit)
noncomputable def K77.W (f : K77.T) : K77.sig.F := fun a x => f a.1 a.2.1 x.1 x.2.1 x.2.2.1 x.2.2.2.1 x.2.2.2.2.1 x.2.2.2.2.2.1 x.2.2.2.2.2.2.1 x.2.2.2.2.2.2.2.1
noncomputable def K77.H (cK45 : K45.T) (cK29 : K29.T) : Hints U := { Γ := (addΓ 24 (K29.sig.native (K29.W cK29)) (addΓ 23 (K45.sig.native (K45.W cK45)) noΓ)), ro := 0, base := 13 }
noncomputable def K77.gen (cK45 : K45.T) (cK29 : K29.T) : K77.T := fun id ports g0 g5 g6 g7 g8 g9 g10 g12 =>
 (oelim (cK45 id) none fun r0 => (oelim (cK29 (api_Conf.set_fLogDelay (api_Conf.set_fLogSync (api_Conf.set_fLogAnn (api_Conf.set_fPorts r0.1.1 ports) (-3)) (-3)) (-3)) g0 g5 g6 g7 g8 g9 g10 g12) none fun r1 => (bif ine r1.1.2.1 0 then some ((none, ()), ((r1.2.1.1, (r1.2.1.2.1, (r1.2.1.2.2.1, (r1.2.1.2.2.2.1, (r1.2.1.2.2.2.2.1, (r1.2.1.2.2.2.2.2.1, (r1.2.1.2.2.2.2.2.2.1, (r1.2.1.2.2.2.2.2.2.2.1, ())))))))), ())) else some ((r1.1.1, ()), ((r1.2.1.1, (r1.2.1.2.1, (r1.2.1.2.2.1, (r1.2.1.2.2.2.1, (r1.2.1.2.2.2.2.1, (r1.2.1.2.2.2.2.2.1, (r1.2.1.2.2.2.2.2.2.1, (r1.2.1.2.2.2.2.2.2.2.1, ())))))))), ())))))
noncomputable def K77 : K77.T := K77.gen K45 K29
theorem K77.eq (cK45 : K45.T) (cK29 : K29.T) : EqA K77.sig (K77.H cK45 cK29) Tryz.f15 6 (K77.W (K77.gen cK45 cK29)) := by intro a x; kernel_rfl
noncomputable abbrev K77.h := K77.H K45 K29
theorem K77.hints : HintsOK U Tryz.prog K77.h (fun c => c ∈ ([] : List Code)) := (hq (addΓ_ok (addΓ_ok noΓ_ok K45.ok) K29.ok) loops_nil (fun _ => rfl) (fun _ => rfl))
theorem K77.ok : NativeOK U Tryz.prog 15 (K77.sig.native (K77.W K77)) :=
 Sig.ok K77.sig (K77.W K77) U_pure (Hn := K77.h) (gos := 6) K77.hints Tryz.func15 rfl (by kernel_rfl) (fun b h => h) rfl rfl (by decide) (K77.eq K45 K29) (by decide)
noncomputable def K93.sig : Sig U := ⟨[.int .i64], [], 0, [.bool], false, []⟩
abbrev K93.T : Type := (Int) → Option ((Bool × Unit) × Unit × Unit)
noncomputable def K93.W (f : K93.T) : K93.sig.F := fun a x => f a.1
noncomputable def K93.H : Hints U := { Γ := noΓ, ro := 0, base := 13 }
noncomputable def K93.gen : K93.T := fun state =>
 (bif ieq state 8 then some ((true, ()), ((), ())) else some ((ieq state 9, ()), ((), ())))
noncomputable def K93 : K93.T := K93.gen
theorem K93.eq : EqA K93.sig (K93.H) Tryz.f76 6 (K93.W (K93.gen)) := by intro a x; kernel_rfl
theorem K93.hints : HintsOK U Tryz.prog (K93.H) (fun c => c ∈ ([] : List Code)) := (hq noΓ_ok loops_nil (fun _ => rfl) (fun _ => rfl))
theorem K93.ok : NativeOK U Tryz.prog 76 (K93.sig.native (K93.W K93)) :=
 Sig.ok K93.sig (K93.W (K93.gen)) U_pure (Hn := (K93.H)) (gos := 6) K93.hints Tryz.func76 rfl (by kernel_rfl) (fun b h => h) rfl rfl (by decide) (K93.eq) (by decide)
noncomputable def K94.sig : Sig U := ⟨[.int .i64], [], 0, [.bool], false, []⟩
abbrev K94.T : Type := (Int) → Option ((Bool × Unit) × Unit × Unit)
noncomputable def K94.W (f : K94.T) : K94.sig.F := fun a x => f a.1
noncomputable def K94.H (cK93 : K93.T) : Hints U := { Γ := (addΓ 76 (K93.sig.native (K93.W cK93)) noΓ), ro := 0, base := 13 }
noncomputable def K94.gen (cK93 : K93.T) : K94.T := fun state =>
 (bif ieq state 4 then some ((true, ()), ((), ())) else (bif ieq state 7 then some ((true, ()), ((), ())) else (oelim (cK93 state) none fun r0 => some ((r0.1.1, ()), ((), ())))))
noncomputable def K94 : K94.T := K94.gen K93
theorem K94.eq (cK93 : K93.T) : EqA K94.sig (K94.H cK93) Tryz.f129 6 (K94.W (K94.gen cK93)) := by intro a x; kernel_rfl
noncomputable abbrev K94.h := K94.H K93
theorem K94.hints : HintsOK U Tryz.prog K94.h (fun c => c ∈ ([] : List Code)) := (hq (addΓ_ok noΓ_ok K93.ok) loops_nil (fun _ => rfl) (fun _ => rfl))
theorem K94.ok : NativeOK U Tryz.prog 129 (K94.sig.native (K94.W K94)) :=
 Sig.ok K94.sig (K94.W K94) U_pure (Hn := K94.h) (gos := 6) K94.hints Tryz.func129 rfl (by kernel_rfl) (fun b h => h) rfl rfl (by decide) (K94.eq K93) (by decide)
noncomputable def K95.sig : Sig U := ⟨[.int .i64, .int .i64, .bool], [], 0, [.int .i64], false, []⟩
abbrev K95.T : Type := (Int) → (Int) → (Bool) → Option ((Int × Unit) × Unit × Unit)
noncomputable def K95.W (f : K95.T) : K95.sig.F := fun a x => f a.1 a.2.1 a.2.2.1
noncomputable def K95.JC6 : Exits U := [(.normal, ⟨60, 13, [(0, vi_), (1, vi_), (2, vb_), (21, vb_)], []⟩)]
noncomputable def K95.JC2 : Exits U := [(.normal, ⟨60, 13, [(0, vi_)], []⟩),
 (.ret, ⟨60, 13, [(6, vi_)], []⟩)]
noncomputable def K95.H (cK94 : K94.T) : Hints U := { Γ := (addΓ 129 (K94.sig.native (K94.W cK94)) noΓ), ro := 0, base := 13, joinQ := fun b => (bif Nat.beq b 1 then some [(7, vb_)] else (bif Nat.beq b 3 then some [(14, vb_)] else (bif Nat.beq b 5 then some [(21, vb_)] else (bif Nat.beq b 6 then some [(21, vb_)] else (bif Nat.beq b 8 then some [(34, vb_)] else (bif Nat.beq b 12 then some [(42, vb_)] else (bif Nat.beq b 14 then some [(49, vb_)] else none))))))), joinC := fun b => (bif Nat.beq b 2 then some K95.JC2 else (bif Nat.beq b 6 then some K95.JC6 else none)) }
noncomputable def K95.gen (cK94 : K94.T) : K95.T := fun state event slaveOnly =>
 (oelim ((bif ieq event 1 then some (ieq state 1, ()) else some (false, ()))) none fun r0 => (oelim ((bif r0.1 then some (.inr (((4 : Int), ()), ())) else (oelim ((bif ieq event 2 then some (ine state 3, ()) else some (false, ()))) none fun r1 => (bif r1.1 then some (.inr (((2 : Int), ()), ())) else (oelim ((bif ieq event 3 then some (ieq state 2, ()) else some (false, ()))) none fun r2 => (oelim ((bif r2.1 then some ((state, (event, (slaveOnly, (r2.1, ())))), ()) else (oelim ((bif ieq event 8 then some (ieq state 3, ()) else some (false, ()))) none fun r3 => some ((state, (event, (slaveOnly, (r3.1, ())))), ())))) none fun r4 => (bif r4.1.2.2.2.1 then some (.inr (((1 : Int), ()), ())) else (oelim ((bif ieq r4.1.2.1 4 then (oelim (cK94 r4.1.1) none fun r5 => some (r5.1.1, ())) else some (false, ()))) none fun r6 => (bif r6.1 then (bif r4.1.2.2.1 then some (.inr (((4 : Int), ()), ())) else some (.inr (((6 : Int), ()), ()))) else (oelim ((bif ieq r4.1.2.1 5 then some (ieq r4.1.1 5, ()) else some (false, ()))) none fun r7 => (bif r7.1 then some (.inr (((6 : Int), ()), ())) else (oelim ((bif ieq r4.1.2.1 6 then some (ieq r4.1.1 8, ()) else some (false, ()))) none fun r8 => (bif r8.1 then some (.inr (((9 : Int), ()), ())) else (bif ieq r4.1.2.1 7 then some (.inr (((3 : Int), ()), ())) else some (.inl ((r4.1.1, ()), ())))))))))))))))) none fun r9 => (selim r9 (fun r10 => some ((r10.1.1, ()), ((), ()))) (fun r10 => some ((r10.1.1, ()), ((), ()))))))
noncomputable def K95 : K95.T := K95.gen K94
theorem K95.eq (cK94 : K94.T) : EqA K95.sig (K95.H cK94) Tryz.f95 6 (K95.W (K95.gen cK94)) := by intro a x; kernel_rfl
noncomputable abbrev K95.h := K95.H K94
theorem K95.hints : HintsOK U Tryz.prog K95.h (fun c => c ∈ ([] : List Code)) := (hq (addΓ_ok noΓ_ok K94.ok) loops_nil (fun _ => rfl) (fun _ => rfl))
theorem K95.ok : NativeOK U Tryz.prog 95 (K95.sig.native (K95.W K95)) :=
 Sig.ok K95.sig (K95.W K95) U_pure (Hn := K95.h) (gos := 6) K95.hints Tryz.func95 rfl (by kernel_rfl) (fun b h => h) rfl rfl (by decide) (K95.eq K94) (by decide)
noncomputable def K24.sig : Sig U := ⟨[.ptr], [.obj .t_clock_Clock], 1, [.int .i64], false, []⟩
abbrev K24.T : Type := (clock_Clock) → Option ((Int × Unit) × Unit × Unit)
noncomputable def K24.W (f : K24.T) : K24.sig.F := fun a x => f x.1
noncomputable def K24.H (cK13 : K13.T) : Hints U := { Γ := (addΓ 70 (K13.sig.native (K13.W cK13)) (addΓ 5000000021 noNat noΓ)), ro := 14, base := 14 }
noncomputable def K24.gen (cK13 : K13.T) : K24.T := fun h0 =>
 (oelim (cK13 h0) none fun r0 => some ((imul .i64 h0.fconf.fTimeout r0.1.1, ()), ((), ())))
noncomputable def K24 : K24.T := K24.gen K13
theorem K24.eq (cK13 : K13.T) : EqA K24.sig (K24.H cK13) Tryz.f127 6 (K24.W (K24.gen cK13)) := by intro a x; kernel_rfl
noncomputable abbrev K24.h := K24.H K13
theorem K24.hints : HintsOK U Tryz.prog K24.h (fun c => c ∈ ([] : List Code)) := (hq (addΓ_ok (addΓ_ok noΓ_ok noNat_ok) K13.ok) loops_nil (fun _ => rfl) (fun _ => rfl))
theorem K24.ok : NativeOK U Tryz.prog 127 (K24.sig.native (K24.W K24)) :=
 Sig.ok K24.sig (K24.W K24) U_pure (Hn := K24.h) (gos := 6) K24.hints Tryz.func127 rfl (by kernel_rfl) (fun b h => h) rfl rfl (by decide) (K24.eq K13) (by decide)
noncomputable def K111.sig : Sig U := ⟨[.ptr, .int .i64], [.obj .t_timer_Timer], 0, [], true, []⟩
abbrev K111.T : Type := (Int) → (timer_Timer) → Option (Unit × (timer_Timer × Unit) × Unit)
noncomputable def K111.W (f : K111.T) : K111.sig.F := fun a x => f a.2.1 x.1
noncomputable def K111.H : Hints U := { Γ := noΓ, ro := 0, base := 14 }
noncomputable def K111.gen : K111.T := fun n h0 =>
 some ((), ((timer_Timer.mk (opMinMax true 1 (opMinMax false n 1073741824)), ()), ()))
noncomputable def K111 : K111.T := K111.gen
theorem K111.eq : EqA K111.sig (K111.H) Tryz.f126 6 (K111.W (K111.gen)) := by intro a x; kernel_rfl
theorem K111.hints : HintsOK U Tryz.prog (K111.H) (fun c => c ∈ ([] : List Code)) := (hq noΓ_ok loops_nil (fun _ => rfl) (fun _ => rfl))
theorem K111.ok : NativeOK U Tryz.prog 126 (K111.sig.native (K111.W K111)) :=
 Sig.ok K111.sig (K111.W (K111.gen)) U_pure (Hn := (K111.H)) (gos := 6) K111.hints Tryz.func126 rfl (by kernel_rfl) (fun b h => h) rfl rfl (by decide) (K111.eq) (by decide)
noncomputable def K91.sig : Sig U := ⟨[.int .i64], [], 0, [.bool], false, []⟩
abbrev K91.T : Type := (Int) → Option ((Bool × Unit) × Unit × Unit)
noncomputable def K91.W (f : K91.T) : K91.sig.F := fun a x => f a.1
noncomputable def K91.H : Hints U := { Γ := noΓ, ro := 0, base := 13 }
noncomputable def K91.gen : K91.T := fun state =>
 (bif ile 4 state then some ((ile state 9, ()), ((), ())) else some ((false, ()), ((), ())))
noncomputable def K91 : K91.T := K91.gen
theorem K91.eq : EqA K91.sig (K91.H) Tryz.f74 6 (K91.W (K91.gen)) := by intro a x; kernel_rfl
theorem K91.hints : HintsOK U Tryz.prog (K91.H) (fun c => c ∈ ([] : List Code)) := (hq noΓ_ok loops_nil (fun _ => rfl) (fun _ => rfl))
theorem K91.ok : NativeOK U Tryz.prog 74 (K91.sig.native (K91.W K91)) :=
 Sig.ok K91.sig (K91.W (K91.gen)) U_pure (Hn := (K91.H)) (gos := 6) K91.hints Tryz.func74 rfl (by kernel_rfl) (fun b h => h) rfl rfl (by decide) (K91.eq) (by decide)
noncomputable def K59.sig : Sig U := ⟨[.ptr, .int .i64, .int .i64], [.obj .t_foreign_Table], 1, [.bool], false, []⟩
abbrev K59.T : Type := (Int) → (Int) → (foreign_Table) → Option ((Bool × Unit) × Unit × Unit)
noncomputable def K59.W (f : K59.T) : K59.sig.F := fun a x => f a.2.1 a.2.2.1 x.1
noncomputable def K59.H : Hints U := { Γ := noΓ, ro := 14, base := 14 }
noncomputable def K59.gen : K59.T := fun at_1 now h0 =>
 (bif ile at_1 now then some ((ile h0.fwindow (isub .i64 now at_1), ()), ((), ())) else some ((false, ()), ((), ())))
noncomputable def K59 : K59.T := K59.gen
theorem K59.eq : EqA K59.sig (K59.H) Tryz.f197 6 (K59.W (K59.gen)) := by intro a x; kernel_rfl
theorem K59.hints : HintsOK U Tryz.prog (K59.H) (fun c => c ∈ ([] : List Code)) := (hq noΓ_ok loops_nil (fun _ => rfl) (fun _ => rfl))
theorem K59.ok : NativeOK U Tryz.prog 197 (K59.sig.native (K59.W K59)) :=
 Sig.ok K59.sig (K59.W (K59.gen)) U_pure (Hn := (K59.H)) (gos := 6) K59.hints Tryz.func197 rfl (by kernel_rfl) (fun b h => h) rfl rfl (by decide) (K59.eq) (by decide)
noncomputable def K53.sig : Sig U := ⟨[.ptr, .int .i64], [.obj .t_foreign_Table], 0, [], true, []⟩
abbrev K53.T : Type := (Int) → (foreign_Table) → Option (Unit × (foreign_Table × Unit) × Unit)
noncomputable def K53.W (f : K53.T) : K53.sig.F := fun a x => f a.2.1 x.1
noncomputable def K53.L0 : Shape U := ⟨60, 14, [(0, .ptr 13 0 0), (1, vi_), (4, vi_)], [(13, .obj .t_foreign_Table)]⟩
noncomputable def K53.X0 : Exits U := [(.exit 0, ⟨60, 14, [], [(13, .obj .t_foreign_Table)]⟩)]
abbrev K53.l0T : Type := ((Int × Int × Unit) × (foreign_Table × Unit)) → Option ((Unit × (foreign_Table × Unit)))
noncomputable def K53.C : Code := match Tryz.f174.body with | some c => c | none => .skip
noncomputable def K53.B0 : Code := match (loopsOf K53.C).getD 0 .skip with | .loop b => b | .scope b => b | _ => .skip
noncomputable def K53.JR5 : Exits U := [(.normal, ⟨60, 14, [(0, .ptr 13 0 0), (1, vi_), (4, vi_)], [(13, .obj .t_foreign_Table)]⟩)]
noncomputable def K53.H (cK59 : K59.T) (l0 : K53.l0T) : Hints U := { Γ := (addΓ 197 (K59.sig.native (K59.W cK59)) noΓ), ro := 0, base := 14, joinR := fun b => (bif Nat.beq b 5 then some K53.JR5 else none), loop := fun b => (bif Nat.beq b 1 then some (loopN (0, 14) K53.L0 K53.X0 l0) else none) }
noncomputable def K53.step0 (cK59 : K59.T) (a : (Int × Int × Unit) × (foreign_Table × Unit)) : Option (((Int × Int × Unit) × (foreign_Table × Unit)) ⊕ ((Unit × (foreign_Table × Unit)))) :=
 (bif ilt a.1.2.1 a.2.1.fn then (bif inR a.1.2.1 5 then (oelim (cK59 (a.2.1.fl (Int.toNat a.1.2.1)).fLast a.1.1 a.2.1) none fun r0 => (bif !r0.1.1 then some (.inl ((a.1.1, (iadd .i64 a.1.2.1 1, ())), (a.2.1, ()))) else (bif le3 a.1.2.1 a.2.1.fn 5 then (bif le3 (iadd .i64 a.1.2.1 1) a.2.1.fn 5 then (bif inR (isub .i64 a.2.1.fn 1) 5 then some (.inl ((a.1.1, (a.1.2.1, ())), (foreign_Table.set_fn (foreign_Table.set_fl a.2.1 (fset (fun (i : Nat) => bif Nat.ble (Int.toNat a.1.2.1) i && Nat.blt i (Int.toNat a.1.2.1 + Nat.min (Int.toNat a.2.1.fn - Int.toNat (iadd .i64 a.1.2.1 1)) (Int.toNat a.2.1.fn - Int.toNat a.1.2.1)) then a.2.1.fl (Int.toNat (iadd .i64 a.1.2.1 1) + (i - Int.toNat a.1.2.1)) else a.2.1.fl i) (Int.toNat (isub .i64 a.2.1.fn 1)) (foreign_Record.mk z5_ z6_ 0 0 0))) (isub .i64 a.2.1.fn 1), ()))) else none) else none) else none))) else none) else some (.inr ((), (a.2.1, ()))))
noncomputable def K53.F0 : K53.l0T := fun a => loopFix (1000000) (K53.step0 K59) a
noncomputable def K53.gen (cK59 : K59.T) (l0 : K53.l0T) : K53.T := fun now h0 =>
 (oelim (l0 ((now, (0 : Int), ()), h0, ())) none fun r0 => some ((), ((r0.2.1, ()), ())))
noncomputable def K53 : K53.T := K53.gen K59 K53.F0
theorem K53.seq0 (cK59 : K59.T) (l0 : K53.l0T) (a : K53.L0.T) : run Tryz.prog (K53.H cK59 l0) 6 (Option (K53.L0.T ⊕ ExT K53.X0)) none K53.B0 (K53.L0.enc a) (loopK (0, 14) K53.L0 K53.X0) = K53.step0 cK59 a := by kernel_rfl
theorem K53.inner0 : loopsOf K53.B0 = ([] : List Code) := by kernel_rfl
noncomputable abbrev K53.h := K53.H K59 K53.F0
theorem K53.lok0 : LoopOK U Tryz.prog K53.h.ro K53.h.base K53.B0 (loopN (0, 14) K53.L0 K53.X0 K53.F0) :=
 loopN_ok (Hn := K53.h) U_ok U_pure (run_ok (hq (addΓ_ok noΓ_ok K59.ok) loops_nil (fun _ => rfl) (fun _ => rfl)) 6) (fun b h => by rw [K53.inner0] at h; exact h) (fun _ => rfl) (K53.seq0 K59 K53.F0)
theorem K53.eq (cK59 : K59.T) (l0 : K53.l0T) : EqA K53.sig (K53.H cK59 l0) Tryz.f174 6 (K53.W (K53.gen cK59 l0)) := by intro a x; kernel_rfl
theorem K53.loops : loopsOf K53.C = [(.loop K53.B0)] := by kernel_rfl
theorem K53.hints : HintsOK U Tryz.prog K53.h (fun c => c ∈ [(.loop K53.B0)]) := (hq (addΓ_ok noΓ_ok K59.ok) (loops_cons (by kernel_rfl) K53.lok0 loops_nil) (fun _ => rfl) (fun _ => rfl))
theorem K53.ok : NativeOK U Tryz.prog 174 (K53.sig.native (K53.W K53)) :=
 Sig.ok K53.sig (K53.W K53) U_pure (Hn := K53.h) (code := K53.C) (gos := 6) K53.hints Tryz.func174 (by kernel_rfl) (by kernel_rfl) (fun b h => by rw [K53.loops] at h; exact h) rfl rfl (by decide) (K53.eq K59 K53.F0) (by decide)
noncomputable def K58.sig : Sig U := ⟨[.ptr], [.obj .t_foreign_Table], 1, [.isl .t_foreign_Record], false, []⟩
abbrev K58.T : Type := (foreign_Table) → Option (((List (foreign_Record)) × Unit) × Unit × Unit)
noncomputable def K58.W (f : K58.T) : K58.sig.F := fun a x => f x.1
noncomputable def K58.H : Hints U := { Γ := noΓ, ro := 14, base := 14 }
noncomputable def K58.gen : K58.T := fun h0 =>
 (bif le3 (ofN 0) h0.fn 5 then (bif room (List.length (lnil foreign_Record) + List.length (List.map (fun (j : Nat) => h0.fl (Int.toNat (ofN 0) + j)) (List.range (Int.toNat h0.fn - Int.toNat (ofN 0))))) 136 then some ((lnil foreign_Record ++ List.map (fun (j : Nat) => h0.fl (Int.toNat (ofN 0) + j)) (List.range (Int.toNat h0.fn - Int.toNat (ofN 0))), ()), ((), ())) else none) else none)
noncomputable def K58 : K58.T := K58.gen
theorem K58.eq : EqA K58.sig (K58.H) Tryz.f64 6 (K58.W (K58.gen)) := by intro a x; kernel_rfl
theorem K58.hints : HintsOK U Tryz.prog (K58.H) (fun c => c ∈ ([] : List Code)) := (hq noΓ_ok loops_nil (fun _ => rfl) (fun _ => rfl))
theorem K58.ok : NativeOK U Tryz.prog 64 (K58.sig.native (K58.W K58)) :=
 Sig.ok K58.sig (K58.W (K58.gen)) U_pure (Hn := (K58.H)) (gos := 6) K58.hints Tryz.func64 rfl (by kernel_rfl) (fun b h => h) rfl rfl (by decide) (K58.eq) (by decide)
noncomputable def K30.sig : Sig U := ⟨[.ptr, .int .i64], [.obj .t_clock_side, fm6_, .fam 12 (.map true false .t_api_PortID .l_u64)], 0, [], true, []⟩
abbrev K30.T : Type := (Int) → (clock_side) → (Fm foreign_Table) → (Nat × (Nat → List (api_PortID × List (Int)))) → Option (Unit × (clock_side × (Fm foreign_Table) × (Nat × (Nat → List (api_PortID × List (Int)))) × Unit) × Unit)
noncomputable def K30.W (f : K30.T) : K30.sig.F := fun a x => f a.2.1 x.1 x.2.1 x.2.2.1
noncomputable def K30.L0 : Shape U := ⟨41, 14, [(0, .ptr 13 0 0), (4, .val (.mref 12)), (18, .val (.isl .t_foreign_Record)), (19, vi_), (20, vi_)], [(13, .obj .t_clock_side), (6, .famN false .t_foreign_Table), (12, .mfam true false .t_api_PortID .l_u64)]⟩
noncomputable def K30.X0 : Exits U := [(.exit 0, ⟨41, 14, [(0, .ptr 13 0 0), (4, .val (.mref 12))], [(13, .obj .t_clock_side), (6, .famN false .t_foreign_Table), (12, .mfam true false .t_api_PortID .l_u64)]⟩)]
abbrev K30.l0T : Type := (((Option Nat) × (List (foreign_Record)) × Int × Int × Unit) × (clock_side × (Fm foreign_Table) × (Nat × (Nat → List (api_PortID × List (Int)))) × Unit)) → Option ((((Option Nat) × Unit) × (clock_side × (Fm foreign_Table) × (Nat × (Nat → List (api_PortID × List (Int)))) × Unit)))
noncomputable def K30.C : Code := match Tryz.f128.body with | some c => c | none => .skip
noncomputable def K30.B0 : Code := match (loopsOf K30.C).getD 0 .skip with | .loop b => b | .scope b => b | _ => .skip
noncomputable def K30.JR5 : Exits U := [(.normal, ⟨41, 14, [(0, .ptr 13 0 0), (4, .val (.mref 12)), (18, .val (.isl .t_foreign_Record)), (19, vi_), (20, vi_)], [(13, .obj .t_clock_side), (6, .famN false .t_foreign_Table), (12, .mfam true false .t_api_PortID .l_u64)]⟩)]
noncomputable def K30.JR4 : Exits U := [(.normal, ⟨41, 15, [(0, .ptr 13 0 0), (4, .val (.mref 12)), (6, .ptr 14 0 0), (18, .val (.isl .t_foreign_Record)), (19, vi_), (20, vi_)], [(13, .obj .t_clock_side), (14, .obj .t_foreign_Record), (6, .famN false .t_foreign_Table), (12, .mfam true false .t_api_PortID .l_u64)]⟩)]
noncomputable def K30.JR0 : Exits U := [(.normal, ⟨41, 14, [(0, .ptr 13 0 0)], [(13, .obj .t_clock_side), (6, .famN false .t_foreign_Table), (12, .mfam true false .t_api_PortID .l_u64)]⟩)]
noncomputable def K30.H (cK53 : K53.T) (cK58 : K58.T) (l0 : K30.l0T) : Hints U := { Γ := (addΓ 64 (K58.sig.native (K58.W cK58)) (addΓ 174 (K53.sig.native (K53.W cK53)) noΓ)), ro := 0, base := 14, joinR := fun b => (bif Nat.beq b 0 then some K30.JR0 else (bif Nat.beq b 4 then some K30.JR4 else (bif Nat.beq b 5 then some K30.JR5 else none))), loop := fun b => (bif Nat.beq b 3 then some (loopN (0, 14) K30.L0 K30.X0 l0) else none) }
noncomputable def K30.step0 (cK53 : K53.T) (cK58 : K58.T) (a : ((Option Nat) × (List (foreign_Record)) × Int × Int × Unit) × (clock_side × (Fm foreign_Table) × (Nat × (Nat → List (api_PortID × List (Int)))) × Unit)) : Option ((((Option Nat) × (List (foreign_Record)) × Int × Int × Unit) × (clock_side × (Fm foreign_Table) × (Nat × (Nat → List (api_PortID × List (Int)))) × Unit)) ⊕ ((((Option Nat) × Unit) × (clock_side × (Fm foreign_Table) × (Nat × (Nat → List (api_PortID × List (Int)))) × Unit)))) :=
 (bif ilt a.1.2.2.2.1 a.1.2.2.1 then (oelim ((bif inR a.1.2.2.2.1 (List.length a.1.2.1) then some ((a.1.1, (a.1.2.1, (a.1.2.2.1, (a.1.2.2.2.1, ())))), (a.2.1, (List.getD a.1.2.1 (Int.toNat a.1.2.2.2.1) foreign_Record.zero, (a.2.2.1, (a.2.2.2.1, ()))))) else none)) none fun r0 => (oelim ((oelim ((oelim (r0.2.1.3) none fun r1 => ((@mapGet U Go.Proofs.Tryz.prog 31 UC.t_api_PortID UC.l_u64 (r0.2.2.1.fVector.fSender) (r0.2.2.2.2.1.2 r1)) : Option (Option (List Int))))) none fun (r2 : Option (List Int)) => (oelim ((oelim (r0.1.1) none fun r3 => (oelim ((@mapPut U Go.Proofs.Tryz.prog 31 UC.t_api_PortID UC.l_u64 (r0.2.2.1.fVector.fSender) (Option.getD r2 (lnil Int)) (r0.2.2.2.2.1.2 r3))) none fun (r4 : List (api_PortID × List Int)) => some (r3, r4)))) none fun (r5 : Nat × List (api_PortID × List Int)) => some ((r0.1.1, (r0.1.2.1, (r0.1.2.2.1, (r0.1.2.2.2.1, ())))), (r0.2.1, (r0.2.2.2.1, ((r0.2.2.2.2.1.1, fset r0.2.2.2.2.1.2 r5.1 r5.2), ()))))))) none fun r6 => some (.inl ((r6.1.1, (r6.1.2.1, (r6.1.2.2.1, (iadd .i64 r6.1.2.2.2.1 1, ())))), (r6.2.1, (r6.2.2.1, (r6.2.2.2.1, ()))))))) else some (.inr ((a.1.1, ()), (a.2.1, (a.2.2.1, (a.2.2.2.1, ()))))))
noncomputable def K30.F0 : K30.l0T := fun a => loopFix (1000000 + (a.1.2.1.length)) (K30.step0 K53 K58) a
noncomputable def K30.gen (cK53 : K53.T) (cK58 : K58.T) (l0 : K30.l0T) : K30.T := fun now h0 g6 g12 =>
 (oelim ((oelim (h0.2) none fun r0 => (oelim (cK53 now (g6.2 r0)) none fun r1 => some ((), (h0, ((g6.1, fset g6.2 r0 r1.2.1.1), (g12, ()))))))) none fun r2 => (oelim (r2.2.1.2) none fun r3 => (oelim (cK58 (r2.2.2.1.2 r3)) none fun r4 => (oelim (l0 ((some r2.2.2.2.1.1, r4.1.1, ofN (List.length r4.1.1), (0 : Int), ()), r2.2.1, r2.2.2.1, (r2.2.2.2.1.1 + 1, fset r2.2.2.2.1.2 r2.2.2.2.1.1 (lnil (D UC.t_api_PortID × D UC.l_u64))), ())) none fun r5 => some ((), ((clock_side.set_fpaths r5.2.1 r5.1.1, (r5.2.2.1, (r5.2.2.2.1, ()))), ()))))))
noncomputable def K30 : K30.T := K30.gen K53 K58 K30.F0
theorem K30.seq0 (cK53 : K53.T) (cK58 : K58.T) (l0 : K30.l0T) (a : K30.L0.T) : run Tryz.prog (K30.H cK53 cK58 l0) 6 (Option (K30.L0.T ⊕ ExT K30.X0)) none K30.B0 (K30.L0.enc a) (loopK (0, 14) K30.L0 K30.X0) = K30.step0 cK53 cK58 a := by kernel_rfl
theorem K30.inner0 : loopsOf K30.B0 = ([] : List Code) := by kernel_rfl
noncomputable abbrev K30.h := K30.H K53 K58 K30.F0
theorem K30.lok0 : LoopOK U Tryz.prog K30.h.ro K30.h.base K30.B0 (loopN (0, 14) K30.L0 K30.X0 K30.F0) :=
 loopN_ok (Hn := K30.h) U_ok U_pure (run_ok (hq (addΓ_ok (addΓ_ok noΓ_ok K53.ok) K58.ok) loops_nil (fun _ => rfl) (fun _ => rfl)) 6) (fun b h => by rw [K30.inner0] at h; exact h) (fun _ => rfl) (K30.seq0 K53 K58 K30.F0)
theorem K30.eq (cK53 : K53.T) (cK58 : K58.T) (l0 : K30.l0T) : EqA K30.sig (K30.H cK53 cK58 l0) Tryz.f128 6 (K30.W (K30.gen cK53 cK58 l0)) := by intro a x; kernel_rfl
theorem K30.loops : loopsOf K30.C = [(.loop K30.B0)] := by kernel_rfl
theorem K30.hints : HintsOK U Tryz.prog K30.h (fun c => c ∈ [(.loop K30.B0)]) := (hq (addΓ_ok (addΓ_ok noΓ_ok K53.ok) K58.ok) (loops_cons (by kernel_rfl) K30.lok0 loops_nil) (fun _ => rfl) (fun _ => rfl))
theorem K30.ok : NativeOK U Tryz.prog 128 (K30.sig.native (K30.W K30)) :=
 Sig.ok K30.sig (K30.W K30) U_pure (Hn := K30.h) (code := K30.C) (gos := 6) K30.hints Tryz.func128 (by kernel_rfl) (by kernel_rfl) (fun b h => by rw [K30.loops] at h; exact h) rfl rfl (by decide) (K30.eq K53 K58 K30.F0) (by decide)
noncomputable def K113.sig : Sig U := ⟨[.ptr], [.obj .t_timer_Timer], 0, [.bool], false, []⟩
abbrev K113.T : Type := (timer_Timer) → Option ((Bool × Unit) × (timer_Timer × Unit) × Unit)
noncomputable def K113.W (f : K113.T) : K113.sig.F := fun a x => f x.1
noncomputable def K113.C : Code := match Tryz.f130.body with | some c => c | none => .skip
noncomputable def K113.B0 : Code := match (loopsOf K113.C).getD 0 .skip with | .loop b => b | .scope b => b | _ => .skip
noncomputable def K113.H : Hints U := { Γ := noΓ, ro := 0, base := 14, gotos := 3, loop := fun b => none }
noncomputable def K113.gen : K113.T := fun h0 =>
 (bif ieq h0.fleft 0 then some ((false, ()), ((h0, ()), ())) else some ((ieq (isub .i64 h0.fleft 1) 0, ()), ((timer_Timer.mk (isub .i64 h0.fleft 1), ()), ())))
noncomputable def K113 : K113.T := K113.gen
theorem K113.eq : EqA K113.sig (K113.H) Tryz.f130 6 (K113.W (K113.gen)) := by intro a x; kernel_rfl
theorem K113.loops : loopsOf K113.C = [(.scope K113.B0)] := by kernel_rfl
theorem K113.hints : HintsOK U Tryz.prog (K113.H) (fun c => c ∈ [(.scope K113.B0)]) := (hq noΓ_ok (loops_skip loops_nil) (fun _ => rfl) (fun _ => rfl))
theorem K113.ok : NativeOK U Tryz.prog 130 (K113.sig.native (K113.W K113)) :=
 Sig.ok K113.sig (K113.W (K113.gen)) U_pure (Hn := (K113.H)) (code := K113.C) (gos := 6) K113.hints Tryz.func130 (by kernel_rfl) (by kernel_rfl) (fun b h => by rw [K113.loops] at h; exact h) rfl rfl (by decide) (K113.eq) (by decide)
noncomputable def K55.sig : Sig U := ⟨[.ptr], [.obj .t_foreign_Table], 0, [], true, []⟩
abbrev K55.T : Type := (foreign_Table) → Option (Unit × (foreign_Table × Unit) × Unit)
noncomputable def K55.W (f : K55.T) : K55.sig.F := fun a x => f x.1
noncomputable def K55.H : Hints U := { Γ := noΓ, ro := 0, base := 14 }
noncomputable def K55.gen : K55.T := fun h0 =>
 some ((), ((foreign_Table.set_fn (foreign_Table.set_fl h0 fun (j : Nat) => List.getD (foreign_Record.mk z5_ z6_ 0 0 0 :: foreign_Record.mk z5_ z6_ 0 0 0 :: foreign_Record.mk z5_ z6_ 0 0 0 :: foreign_Record.mk z5_ z6_ 0 0 0 :: foreign_Record.mk z5_ z6_ 0 0 0 :: lnil foreign_Record) j foreign_Record.zero) 0, ()), ()))
noncomputable def K55 : K55.T := K55.gen
theorem K55.eq : EqA K55.sig (K55.H) Tryz.f163 6 (K55.W (K55.gen)) := by intro a x; kernel_rfl
theorem K55.hints : HintsOK U Tryz.prog (K55.H) (fun c => c ∈ ([] : List Code)) := (hq noΓ_ok loops_nil (fun _ => rfl) (fun _ => rfl))
theorem K55.ok : NativeOK U Tryz.prog 163 (K55.sig.native (K55.W K55)) :=
 Sig.ok K55.sig (K55.W (K55.gen)) U_pure (Hn := (K55.H)) (gos := 6) K55.hints Tryz.func163 rfl (by kernel_rfl) (fun b h => h) rfl rfl (by decide) (K55.eq) (by decide)
noncomputable def K31.sig : Sig U := ⟨[.ptr], [.obj .t_clock_side, fm6_, .fam 12 (.map true false .t_api_PortID .l_u64)], 0, [], true, []⟩
abbrev K31.T : Type := (clock_side) → (Fm foreign_Table) → (Nat × (Nat → List (api_PortID × List (Int)))) → Option (Unit × (clock_side × (Fm foreign_Table) × (Nat × (Nat → List (api_PortID × List (Int)))) × Unit) × Unit)
noncomputable def K31.W (f : K31.T) : K31.sig.F := fun a x => f x.1 x.2.1 x.2.2.1
noncomputable def K31.JR0 : Exits U := [(.normal, ⟨11, 14, [(0, .ptr 13 0 0)], [(13, .obj .t_clock_side), (6, .famN false .t_foreign_Table), (12, .mfam true false .t_api_PortID .l_u64)]⟩)]
noncomputable def K31.H (cK55 : K55.T) : Hints U := { Γ := (addΓ 163 (K55.sig.native (K55.W cK55)) noΓ), ro := 0, base := 14, joinR := fun b => (bif Nat.beq b 0 then some K31.JR0 else none) }
noncomputable def K31.gen (cK55 : K55.T) : K31.T := fun h0 g6 g12 =>
 (oelim ((oelim (h0.2) none fun r0 => (oelim (cK55 (g6.2 r0)) none fun r1 => some ((), (h0, ((g6.1, fset g6.2 r0 r1.2.1.1), (g12, ()))))))) none fun r2 => some ((), ((clock_side.set_fpaths r2.2.1 (some r2.2.2.2.1.1), (r2.2.2.1, ((r2.2.2.2.1.1 + 1, fset r2.2.2.2.1.2 r2.2.2.2.1.1 (lnil (D UC.t_api_PortID × D UC.l_u64))), ()))), ())))
noncomputable def K31 : K31.T := K31.gen K55
theorem K31.eq (cK55 : K55.T) : EqA K31.sig (K31.H cK55) Tryz.f96 6 (K31.W (K31.gen cK55)) := by intro a x; kernel_rfl
noncomputable abbrev K31.h := K31.H K55
theorem K31.hints : HintsOK U Tryz.prog K31.h (fun c => c ∈ ([] : List Code)) := (hq (addΓ_ok noΓ_ok K55.ok) loops_nil (fun _ => rfl) (fun _ => rfl))
theorem K31.ok : NativeOK U Tryz.prog 96 (K31.sig.native (K31.W K31)) :=
 Sig.ok K31.sig (K31.W K31) U_pure (Hn := K31.h) (gos := 6) K31.hints Tryz.func96 rfl (by kernel_rfl) (fun b h => h) rfl rfl (by decide) (K31.eq K55) (by decide)
noncomputable def K112.sig : Sig U := ⟨[.ptr], [.obj .t_timer_Timer], 0, [], true, []⟩
abbrev K112.T : Type := (timer_Timer) → Option (Unit × (timer_Timer × Unit) × Unit)
noncomputable def K112.W (f : K112.T) : K112.sig.F := fun a x => f x.1
noncomputable def K112.H : Hints U := { Γ := noΓ, ro := 0, base := 14 }
noncomputable def K112.gen : K112.T := fun h0 =>
 some ((), ((timer_Timer.mk 0, ()), ()))
noncomputable def K112 : K112.T := K112.gen
theorem K112.eq : EqA K112.sig (K112.H) Tryz.f166 6 (K112.W (K112.gen)) := by intro a x; kernel_rfl
theorem K112.hints : HintsOK U Tryz.prog (K112.H) (fun c => c ∈ ([] : List Code)) := (hq noΓ_ok loops_nil (fun _ => rfl) (fun _ => rfl))
theorem K112.ok : NativeOK U Tryz.prog 166 (K112.sig.native (K112.W K112)) :=
 Sig.ok K112.sig (K112.W (K112.gen)) U_pure (Hn := (K112.H)) (gos := 6) K112.hints Tryz.func166 rfl (by kernel_rfl) (fun b h => h) rfl rfl (by decide) (K112.eq) (by decide)
noncomputable def K18.sig : Sig U := ⟨[.ptr, .eptr 0 23 42 8], [.obj .t_clock_Clock], 0, [], true, []⟩
abbrev K18.T : Type := (Nat) → (clock_Clock) → Option (Unit × (clock_Clock × Unit) × Unit)
noncomputable def K18.W (f : K18.T) : K18.sig.F := fun a x => f a.2.1 x.1
noncomputable def K18.JR4 : Exits U := [(.normal, ⟨30, 14, [(1, .aptr 13 23 42 8 0)], [(13, .obj .t_clock_Clock)]⟩)]
noncomputable def K18.JR1 : Exits U := [(.normal, ⟨30, 14, [(0, .ptr 13 0 0), (1, .aptr 13 23 42 8 0)], [(13, .obj .t_clock_Clock)]⟩)]
noncomputable def K18.JR0 : Exits U := [(.normal, ⟨30, 14, [(0, .ptr 13 0 0), (1, .aptr 13 23 42 8 0)], [(13, .obj .t_clock_Clock)]⟩)]
noncomputable def K18.JC3 : Exits U := [(.normal, ⟨30, 14, [(1, .aptr 13 23 42 8 0)], [(13, .obj .t_clock_Clock)]⟩)]
noncomputable def K18.H (cK112 : K112.T) (cK111 : K111.T) : Hints U := { Γ := (addΓ 126 (K111.sig.native (K111.W cK111)) (addΓ 166 (K112.sig.native (K112.W cK112)) noΓ)), ro := 0, base := 14, joinR := fun b => (bif Nat.beq b 0 then some K18.JR0 else (bif Nat.beq b 1 then some K18.JR1 else (bif Nat.beq b 4 then some K18.JR4 else none))), joinC := fun b => (bif Nat.beq b 3 then some K18.JC3 else none) }
noncomputable def K18.gen (cK112 : K112.T) (cK111 : K111.T) : K18.T := fun p h0 =>
 (oelim ((oelim (cK112 (h0.fports p).freceipt) none fun r0 => some ((p, ()), (clock_Clock.set_fports h0 (fset h0.fports p (clock_side.set_freceipt (h0.fports p) r0.2.1.1)), ())))) none fun r1 => (oelim ((oelim (cK112 (r1.2.1.fports r1.1.1).fqualify) none fun r2 => some ((r1.1.1, ()), (clock_Clock.set_fports r1.2.1 (fset r1.2.1.fports r1.1.1 (clock_side.set_fqualify (r1.2.1.fports r1.1.1) r2.2.1.1)), ())))) none fun r3 => (oelim ((bif !r3.2.1.fconf.fPeer then (oelim (cK112 (r3.2.1.fports r3.1.1).fask) none fun r4 => some ((r3.1.1, ()), (clock_Clock.set_fports r3.2.1 (fset r3.2.1.fports r3.1.1 (clock_side.set_fask (r3.2.1.fports r3.1.1) r4.2.1.1)), ()))) else some ((r3.1.1, ()), (r3.2.1, ())))) none fun r5 => (oelim ((oelim (cK111 1 (r5.2.1.fports r5.1.1).fannounce) none fun r6 => some ((r5.1.1, ()), (clock_Clock.set_fports r5.2.1 (fset r5.2.1.fports r5.1.1 (clock_side.set_fannounce (r5.2.1.fports r5.1.1) r6.2.1.1)), ())))) none fun r7 => (oelim (cK111 1 (r7.2.1.fports r7.1.1).fsync) none fun r8 => some ((), ((clock_Clock.set_fports r7.2.1 (fset r7.2.1.fports r7.1.1 (clock_side.set_fsync (r7.2.1.fports r7.1.1) r8.2.1.1)), ()), ())))))))
noncomputable def K18 : K18.T := K18.gen K112 K111
theorem K18.eq (cK112 : K112.T) (cK111 : K111.T) : EqA K18.sig (K18.H cK112 cK111) Tryz.f131 6 (K18.W (K18.gen cK112 cK111)) := by intro a x; kernel_rfl
noncomputable abbrev K18.h := K18.H K112 K111
theorem K18.hints : HintsOK U Tryz.prog K18.h (fun c => c ∈ ([] : List Code)) := (hq (addΓ_ok (addΓ_ok noΓ_ok K112.ok) K111.ok) loops_nil (fun _ => rfl) (fun _ => rfl))
theorem K18.ok : NativeOK U Tryz.prog 131 (K18.sig.native (K18.W K18)) :=
 Sig.ok K18.sig (K18.W K18) U_pure (Hn := K18.h) (gos := 6) K18.hints Tryz.func131 rfl (by kernel_rfl) (fun b h => h) rfl rfl (by decide) (K18.eq K112 K111) (by decide)
noncomputable def K16.sig : Sig U := ⟨[.ptr, .eptr 0 23 42 8], [.obj .t_clock_Clock, fm6_, .fam 12 (.map true false .t_api_PortID .l_u64)], 0, [], true, []⟩
abbrev K16.T : Type := (Nat) → (clock_Clock) → (Fm foreign_Table) → (Nat × (Nat → List (api_PortID × List (Int)))) → Option (Unit × (clock_Clock × (Fm foreign_Table) × (Nat × (Nat → List (api_PortID × List (Int)))) × Unit) × Unit)
noncomputable def K16.W (f : K16.T) : K16.sig.F := fun a x => f a.2.1 x.1 x.2.1 x.2.2.1
noncomputable def K16.C : Code := match Tryz.f69.body with | some c => c | none => .skip
noncomputable def K16.B0 : Code := match (loopsOf K16.C).getD 0 .skip with | .loop b => b | .scope b => b | _ => .skip
noncomputable def K16.JR16 : Exits U := [(.normal, ⟨128, 14, [(0, .ptr 13 0 0), (1, .aptr 13 23 42 8 0)], [(13, .obj .t_clock_Clock), (6, .famN false .t_foreign_Table), (12, .mfam true false .t_api_PortID .l_u64)]⟩)]
noncomputable def K16.JR15 : Exits U := [(.normal, ⟨128, 14, [(0, .ptr 13 0 0), (1, .aptr 13 23 42 8 0), (111, vb_)], [(13, .obj .t_clock_Clock), (6, .famN false .t_foreign_Table), (12, .mfam true false .t_api_PortID .l_u64)]⟩)]
noncomputable def K16.JR11 : Exits U := [(.normal, ⟨128, 14, [(0, .ptr 13 0 0), (1, .aptr 13 23 42 8 0)], [(13, .obj .t_clock_Clock), (6, .famN false .t_foreign_Table), (12, .mfam true false .t_api_PortID .l_u64)]⟩)]
noncomputable def K16.JR10 : Exits U := [(.normal, ⟨128, 14, [(0, .ptr 13 0 0), (1, .aptr 13 23 42 8 0)], [(13, .obj .t_clock_Clock), (6, .famN false .t_foreign_Table), (12, .mfam true false .t_api_PortID .l_u64)]⟩)]
noncomputable def K16.JR7 : Exits U := [(.normal, ⟨128, 14, [(0, .ptr 13 0 0), (1, .aptr 13 23 42 8 0), (58, vb_)], [(13, .obj .t_clock_Clock), (6, .famN false .t_foreign_Table), (12, .mfam true false .t_api_PortID .l_u64)]⟩)]
noncomputable def K16.JR2 : Exits U := [(.normal, ⟨128, 14, [(0, .ptr 13 0 0), (1, .aptr 13 23 42 8 0)], [(13, .obj .t_clock_Clock), (6, .famN false .t_foreign_Table), (12, .mfam true false .t_api_PortID .l_u64)]⟩)]
noncomputable def K16.JR1 : Exits U := [(.normal, ⟨128, 14, [(0, .ptr 13 0 0), (1, .aptr 13 23 42 8 0)], [(13, .obj .t_clock_Clock), (6, .famN false .t_foreign_Table), (12, .mfam true false .t_api_PortID .l_u64)]⟩)]
noncomputable def K16.JC9 : Exits U := [(.normal, ⟨128, 14, [(0, .ptr 13 0 0), (1, .aptr 13 23 42 8 0)], [(13, .obj .t_clock_Clock), (6, .famN false .t_foreign_Table), (12, .mfam true false .t_api_PortID .l_u64)]⟩)]
noncomputable def K16.JC8 : Exits U := [(.normal, ⟨128, 14, [(0, .ptr 13 0 0), (1, .aptr 13 23 42 8 0)], [(13, .obj .t_clock_Clock), (6, .famN false .t_foreign_Table), (12, .mfam true false .t_api_PortID .l_u64)]⟩)]
noncomputable def K16.JC6 : Exits U := [(.normal, ⟨128, 14, [(0, .ptr 13 0 0), (1, .aptr 13 23 42 8 0)], [(13, .obj .t_clock_Clock), (6, .famN false .t_foreign_Table), (12, .mfam true false .t_api_PortID .l_u64)]⟩)]
noncomputable def K16.JC4 : Exits U := [(.normal, ⟨128, 14, [], [(13, .obj .t_clock_Clock), (6, .famN false .t_foreign_Table), (12, .mfam true false .t_api_PortID .l_u64)]⟩)]
noncomputable def K16.H (cK95 : K95.T) (cK24 : K24.T) (cK111 : K111.T) (cK91 : K91.T) (cK30 : K30.T) (cK94 : K94.T) (cK113 : K113.T) (cK93 : K93.T) (cK123 : K123.T) (cK31 : K31.T) (cK18 : K18.T) : Hints U := { Γ := (addΓ 131 (K18.sig.native (K18.W cK18)) (addΓ 96 (K31.sig.native (K31.W cK31)) (addΓ 88 (K123.sig.native (K123.W cK123)) (addΓ 76 (K93.sig.native (K93.W cK93)) (addΓ 130 (K113.sig.native (K113.W cK113)) (addΓ 129 (K94.sig.native (K94.W cK94)) (addΓ 128 (K30.sig.native (K30.W cK30)) (addΓ 74 (K91.sig.native (K91.W cK91)) (addΓ 126 (K111.sig.native (K111.W cK111)) (addΓ 127 (K24.sig.native (K24.W cK24)) (addΓ 95 (K95.sig.native (K95.W cK95)) noΓ))))))))))), ro := 0, base := 14, joinR := fun b => (bif Nat.beq b 1 then some K16.JR1 else (bif Nat.beq b 2 then some K16.JR2 else (bif Nat.beq b 7 then some K16.JR7 else (bif Nat.beq b 10 then some K16.JR10 else (bif Nat.beq b 11 then some K16.JR11 else (bif Nat.beq b 15 then some K16.JR15 else (bif Nat.beq b 16 then some K16.JR16 else none))))))), joinC := fun b => (bif Nat.beq b 4 then some K16.JC4 else (bif Nat.beq b 6 then some K16.JC6 else (bif Nat.beq b 8 then some K16.JC8 else (bif Nat.beq b 9 then some K16.JC9 else none)))), gotos := 3, loop := fun b => none }
noncomputable def K16.gen (cK95 : K95.T) (cK24 : K24.T) (cK111 : K111.T) (cK91 : K91.T) (cK30 : K30.T) (cK94 : K94.T) (cK113 : K113.T) (cK93 : K93.T) (cK123 : K123.T) (cK31 : K31.T) (cK18 : K18.T) : K16.T := fun p h0 g6 g12 =>
 (bif ieq (h0.fports p).fstate 1 then (oelim ((oelim (cK95 (h0.fports p).fstate 1 h0.fconf.fSlaveOnly) none fun r0 => some ((p, ()), (clock_Clock.set_fports h0 (fset h0.fports p (clock_side.set_fstate (h0.fports p) r0.1.1)), (g6, (g12, ())))))) none fun r1 => (oelim ((oelim (cK24 r1.2.1) none fun r2 => (oelim (cK111 r2.1.1 (r1.2.1.fports r1.1.1).freceipt) none fun r3 => some ((r1.1.1, ()), (clock_Clock.set_fports r1.2.1 (fset r1.2.1.fports r1.1.1 (clock_side.set_freceipt (r1.2.1.fports r1.1.1) r3.2.1.1)), (r1.2.2.1, (r1.2.2.2.1, ()))))))) none fun r4 => (oelim ((bif r4.2.1.fconf.fPeer then (oelim (cK111 1 (r4.2.1.fports r4.1.1).fask) none fun r5 => some ((), (clock_Clock.set_fports r4.2.1 (fset r4.2.1.fports r4.1.1 (clock_side.set_fask (r4.2.1.fports r4.1.1) r5.2.1.1)), (r4.2.2.1, (r4.2.2.2.1, ()))))) else some ((), (r4.2.1, (r4.2.2.1, (r4.2.2.2.1, ())))))) none fun r6 => some ((), ((r6.2.1, (r6.2.2.1, (r6.2.2.2.1, ()))), ()))))) else (oelim (cK91 (h0.fports p).fstate) none fun r7 => (oelim ((bif r7.1.1 then (oelim (cK30 h0.fticks (h0.fports p) g6 g12) none fun r8 => some ((p, ()), (clock_Clock.set_fports h0 (fset h0.fports p r8.2.1.1), (r8.2.1.2.1, (r8.2.1.2.2.1, ()))))) else some ((p, ()), (h0, (g6, (g12, ())))))) none fun r9 => (oelim ((oelim (cK94 (r9.2.1.fports r9.1.1).fstate) none fun r10 => (bif r10.1.1 then (oelim (cK113 (r9.2.1.fports r9.1.1).freceipt) none fun r11 => some ((r9.1.1, (r11.1.1, ())), (clock_Clock.set_fports r9.2.1 (fset r9.2.1.fports r9.1.1 (clock_side.set_freceipt (r9.2.1.fports r9.1.1) r11.2.1.1)), (r9.2.2.1, (r9.2.2.2.1, ()))))) else some ((r9.1.1, (false, ())), (r9.2.1, (r9.2.2.1, (r9.2.2.2.1, ()))))))) none fun r12 => (oelim ((bif r12.1.2.1 then (oelim (cK93 (r12.2.1.fports r12.1.1).fstate) none fun r13 => (oelim ((bif r13.1.1 then (oelim (cK123 r12.2.1.fconf) none fun r14 => some ((r12.1.1, ()), (clock_Clock.set_fparent r12.2.1 r14.1.1, (r12.2.2.1, (r12.2.2.2.1, ()))))) else some ((r12.1.1, ()), (r12.2.1, (r12.2.2.1, (r12.2.2.2.1, ())))))) none fun r15 => (oelim ((oelim (cK31 (r15.2.1.fports r15.1.1) r15.2.2.1 r15.2.2.2.1) none fun r16 => some ((r15.1.1, ()), (clock_Clock.set_fports r15.2.1 (fset r15.2.1.fports r15.1.1 r16.2.1.1), (r16.2.1.2.1, (r16.2.1.2.2.1, ())))))) none fun r17 => (oelim ((oelim (cK95 (r17.2.1.fports r17.1.1).fstate 4 r17.2.1.fconf.fSlaveOnly) none fun r18 => some ((r17.1.1, ()), (clock_Clock.set_fports r17.2.1 (fset r17.2.1.fports r17.1.1 (clock_side.set_fstate (r17.2.1.fports r17.1.1) r18.1.1)), (r17.2.2.1, (r17.2.2.2.1, ())))))) none fun r19 => (bif ieq (r19.2.1.fports r19.1.1).fstate 6 then (oelim (cK18 r19.1.1 r19.2.1) none fun r20 => some ((r19.1.1, ()), (r20.2.1.1, (r19.2.2.1, (r19.2.2.2.1, ()))))) else (oelim (cK24 r19.2.1) none fun r21 => (oelim (cK111 r21.1.1 (r19.2.1.fports r19.1.1).freceipt) none fun r22 => some ((r19.1.1, ()), (clock_Clock.set_fports r19.2.1 (fset r19.2.1.fports r19.1.1 (clock_side.set_freceipt (r19.2.1.fports r19.1.1) r22.2.1.1)), (r19.2.2.1, (r19.2.2.2.1, ()))))))))))) else some ((r12.1.1, ()), (r12.2.1, (r12.2.2.1, (r12.2.2.2.1, ())))))) none fun r23 => (oelim ((bif ieq (r23.2.1.fports r23.1.1).fstate 5 then (oelim (cK113 (r23.2.1.fports r23.1.1).fqualify) none fun r24 => some ((r23.1.1, (r24.1.1, ())), (clock_Clock.set_fports r23.2.1 (fset r23.2.1.fports r23.1.1 (clock_side.set_fqualify (r23.2.1.fports r23.1.1) r24.2.1.1)), (r23.2.2.1, (r23.2.2.2.1, ()))))) else some ((r23.1.1, (false, ())), (r23.2.1, (r23.2.2.1, (r23.2.2.2.1, ())))))) none fun r25 => (bif r25.1.2.1 then (oelim ((oelim (cK95 (r25.2.1.fports r25.1.1).fstate 5 r25.2.1.fconf.fSlaveOnly) none fun r26 => some ((r25.1.1, ()), (clock_Clock.set_fports r25.2.1 (fset r25.2.1.fports r25.1.1 (clock_side.set_fstate (r25.2.1.fports r25.1.1) r26.1.1)), (r25.2.2.1, (r25.2.2.2.1, ())))))) none fun r27 => (oelim (cK18 r27.1.1 r27.2.1) none fun r28 => some ((), ((r28.2.1.1, (r27.2.2.1, (r27.2.2.2.1, ()))), ())))) else some ((), ((r25.2.1, (r25.2.2.1, (r25.2.2.2.1, ()))), ())))))))))
noncomputable def K16 : K16.T := K16.gen K95 K24 K111 K91 K30 K94 K113 K93 K123 K31 K18
theorem K16.eq (cK95 : K95.T) (cK24 : K24.T) (cK111 : K111.T) (cK91 : K91.T) (cK30 : K30.T) (cK94 : K94.T) (cK113 : K113.T) (cK93 : K93.T) (cK123 : K123.T) (cK31 : K31.T) (cK18 : K18.T) : EqA K16.sig (K16.H cK95 cK24 cK111 cK91 cK30 cK94 cK113 cK93 cK123 cK31 cK18) Tryz.f69 6 (K16.W (K16.gen cK95 cK24 cK111 cK91 cK30 cK94 cK113 cK93 cK123 cK31 cK18)) := by intro a x; kernel_rfl
theorem K16.loops : loopsOf K16.C = [(.scope K16.B0)] := by kernel_rfl
noncomputable abbrev K16.h := K16.H K95 K24 K111 K91 K30 K94 K113 K93 K123 K31 K18
theorem K16.hints : HintsOK U Tryz.prog K16.h (fun c => c ∈ [(.scope K16.B0)]) := (hq (addΓ_ok (addΓ_ok (addΓ_ok (addΓ_ok (addΓ_ok (addΓ_ok (addΓ_ok (addΓ_ok (addΓ_ok (addΓ_ok (addΓ_ok noΓ_ok K95.ok) K24.ok) K111.ok) K91.ok) K30.ok) K94.ok) K113.ok) K93.ok) K123.ok) K31.ok) K18.ok) (loops_skip loops_nil) (fun _ => rfl) (fun _ => rfl))
theorem K16.ok : NativeOK U Tryz.prog 69 (K16.sig.native (K16.W K16)) :=
 Sig.ok K16.sig (K16.W K16) U_pure (Hn := K16.h) (code := K16.C) (gos := 6) K16.hints Tryz.func69 (by kernel_rfl) (by kernel_rfl) (fun b h => by rw [K16.loops] at h; exact h) rfl rfl (by decide) (K16.eq K95 K24 K111 K91 K30 K94 K113 K93 K123 K31 K18) (by decide)
noncomputable def K57.sig : Sig U := ⟨[.ptr, .int .i64], [.obj .t_foreign_Table], 1, [.isl .t_foreign_Record], false, []⟩
abbrev K57.T : Type := (Int) → (foreign_Table) → Option (((List (foreign_Record)) × Unit) × Unit × Unit)
noncomputable def K57.W (f : K57.T) : K57.sig.F := fun a x => f a.2.1 x.1
noncomputable def K57.L0 : Shape U := ⟨38, 15, [(0, .ptr 13 0 0), (1, vi_), (5, .own .t_foreign_Record 14), (15, .asl 13 3 17 5), (16, vi_), (17, vi_)], [(13, .obj .t_foreign_Table), (14, .tok)]⟩
noncomputable def K57.X0 : Exits U := [(.exit 0, ⟨38, 15, [(5, .own .t_foreign_Record 14)], [(13, .obj .t_foreign_Table), (14, .tok)]⟩)]
abbrev K57.l0T : Type := ((Int × (List (foreign_Record)) × (Nat × Nat) × Int × Int × Unit) × (foreign_Table × Unit)) → Option ((((List (foreign_Record)) × Unit) × (foreign_Table × Unit)))
noncomputable def K57.C : Code := match Tryz.f176.body with | some c => c | none => .skip
noncomputable def K57.B0 : Code := match (loopsOf K57.C).getD 0 .skip with | .loop b => b | .scope b => b | _ => .skip
noncomputable def K57.JR4 : Exits U := [(.normal, ⟨38, 16, [(0, .ptr 13 0 0), (1, vi_), (5, .own .t_foreign_Record 14), (7, .ptr 15 0 0), (15, .asl 13 3 17 5), (16, vi_), (17, vi_)], [(13, .obj .t_foreign_Table), (14, .tok), (15, .obj .t_foreign_Record)]⟩)]
noncomputable def K57.JC6 : Exits U := [(.normal, ⟨38, 15, [(0, .ptr 13 0 0), (1, vi_), (5, .own .t_foreign_Record 14), (15, .asl 13 3 17 5), (16, vi_), (17, vi_)], [(13, .obj .t_foreign_Table), (14, .tok)]⟩)]
noncomputable def K57.H (cK59 : K59.T) (l0 : K57.l0T) : Hints U := { Γ := (addΓ 197 (K59.sig.native (K59.W cK59)) noΓ), ro := 14, base := 14, joinQ := fun b => (bif Nat.beq b 5 then some [(31, vb_)] else none), joinR := fun b => (bif Nat.beq b 4 then some K57.JR4 else none), joinC := fun b => (bif Nat.beq b 6 then some K57.JC6 else none), loop := fun b => (bif Nat.beq b 3 then some (loopN (14, 14) K57.L0 K57.X0 l0) else none) }
noncomputable def K57.step0 (cK59 : K59.T) (a : (Int × (List (foreign_Record)) × (Nat × Nat) × Int × Int × Unit) × (foreign_Table × Unit)) : Option (((Int × (List (foreign_Record)) × (Nat × Nat) × Int × Int × Unit) × (foreign_Table × Unit)) ⊕ ((((List (foreign_Record)) × Unit) × (foreign_Table × Unit)))) :=
 (bif ilt a.1.2.2.2.2.1 a.1.2.2.2.1 then (oelim ((bif inR a.1.2.2.2.2.1 a.1.2.2.1.2 then some ((a.1.1, (a.1.2.1, (a.1.2.2.1, (a.1.2.2.2.1, (a.1.2.2.2.2.1, ()))))), (a.2.1, (a.2.1.fl (a.1.2.2.1.1 + Int.toNat a.1.2.2.2.2.1), ()))) else none)) none fun r0 => (oelim ((bif ine r0.2.2.1.fFirst (-1) then (oelim (cK59 r0.2.2.1.fFirst r0.1.1 r0.2.1) none fun r1 => some (!r1.1.1, ())) else some (false, ()))) none fun r2 => (oelim ((bif r2.1 then (bif room (List.length r0.1.2.1 + List.length (r0.2.2.1 :: lnil foreign_Record)) 136 then some ((r0.1.1, (r0.1.2.1 ++ r0.2.2.1 :: lnil foreign_Record, (r0.1.2.2.1, (r0.1.2.2.2.1, (r0.1.2.2.2.2.1, ()))))), (r0.2.1, ())) else none) else some ((r0.1.1, (r0.1.2.1, (r0.1.2.2.1, (r0.1.2.2.2.1, (r0.1.2.2.2.2.1, ()))))), (r0.2.1, ())))) none fun r3 => some (.inl ((r3.1.1, (r3.1.2.1, (r3.1.2.2.1, (r3.1.2.2.2.1, (iadd .i64 r3.1.2.2.2.2.1 1, ()))))), (r3.2.1, ())))))) else some (.inr ((a.1.2.1, ()), (a.2.1, ()))))
noncomputable def K57.F0 : K57.l0T := fun a => loopFix (1000000 + (a.1.2.1.length + a.1.2.2.1.2)) (K57.step0 K59) a
noncomputable def K57.gen (cK59 : K59.T) (l0 : K57.l0T) : K57.T := fun now h0 =>
 (bif le3 (ofN 0) h0.fn 5 then (oelim (l0 ((now, lnil foreign_Record, (Int.toNat (ofN 0), Int.toNat h0.fn - Int.toNat (ofN 0)), ofN (Int.toNat h0.fn - Int.toNat (ofN 0)), (0 : Int), ()), h0, ())) none fun r0 => some ((r0.1.1, ()), ((), ()))) else none)
noncomputable def K57 : K57.T := K57.gen K59 K57.F0
theorem K57.seq0 (cK59 : K59.T) (l0 : K57.l0T) (a : K57.L0.T) : run Tryz.prog (K57.H cK59 l0) 6 (Option (K57.L0.T ⊕ ExT K57.X0)) none K57.B0 (K57.L0.enc a) (loopK (14, 14) K57.L0 K57.X0) = K57.step0 cK59 a := by kernel_rfl
theorem K57.inner0 : loopsOf K57.B0 = ([] : List Code) := by kernel_rfl
noncomputable abbrev K57.h := K57.H K59 K57.F0
theorem K57.lok0 : LoopOK U Tryz.prog K57.h.ro K57.h.base K57.B0 (loopN (14, 14) K57.L0 K57.X0 K57.F0) :=
 loopN_ok (Hn := K57.h) U_ok U_pure (run_ok (hq (addΓ_ok noΓ_ok K59.ok) loops_nil (fun _ => rfl) (fun _ => rfl)) 6) (fun b h => by rw [K57.inner0] at h; exact h) (fun _ => rfl) (K57.seq0 K59 K57.F0)
theorem K57.eq (cK59 : K59.T) (l0 : K57.l0T) : EqA K57.sig (K57.H cK59 l0) Tryz.f176 6 (K57.W (K57.gen cK59 l0)) := by intro a x; kernel_rfl
theorem K57.loops : loopsOf K57.C = [(.loop K57.B0)] := by kernel_rfl
theorem K57.hints : HintsOK U Tryz.prog K57.h (fun c => c ∈ [(.loop K57.B0)]) := (hq (addΓ_ok noΓ_ok K59.ok) (loops_cons (by kernel_rfl) K57.lok0 loops_nil) (fun _ => rfl) (fun _ => rfl))
theorem K57.ok : NativeOK U Tryz.prog 176 (K57.sig.native (K57.W K57)) :=
 Sig.ok K57.sig (K57.W K57) U_pure (Hn := K57.h) (code := K57.C) (gos := 6) K57.hints Tryz.func176 (by kernel_rfl) (by kernel_rfl) (fun b h => by rw [K57.loops] at h; exact h) rfl rfl (by decide) (K57.eq K59 K57.F0) (by decide)
noncomputable def K37.sig : Sig U := ⟨[.int .i64], [], 0, [.bool], false, []⟩
abbrev K37.T : Type := (Int) → Option ((Bool × Unit) × Unit × Unit)
noncomputable def K37.W (f : K37.T) : K37.sig.F := fun a x => f a.1
noncomputable def K37.H : Hints U := { Γ := noΓ, ro := 0, base := 13 }
noncomputable def K37.gen : K37.T := fun x_0 =>
 some ((ine x_0 x_0, ()), ((), ()))
noncomputable def K37 : K37.T := K37.gen
theorem K37.eq : EqA K37.sig (K37.H) Tryz.f213 6 (K37.W (K37.gen)) := by intro a x; kernel_rfl
theorem K37.hints : HintsOK U Tryz.prog (K37.H) (fun c => c ∈ ([] : List Code)) := (hq noΓ_ok loops_nil (fun _ => rfl) (fun _ => rfl))
theorem K37.ok : NativeOK U Tryz.prog 213 (K37.sig.native (K37.W K37)) :=
 Sig.ok K37.sig (K37.W (K37.gen)) U_pure (Hn := (K37.H)) (gos := 6) K37.hints Tryz.func213 rfl (by kernel_rfl) (fun b h => h) rfl rfl (by decide) (K37.eq) (by decide)
noncomputable def K34.sig : Sig U := ⟨[.int .i64, .int .i64], [], 0, [.int .i64], false, []⟩
abbrev K34.T : Type := (Int) → (Int) → Option ((Int × Unit) × Unit × Unit)
noncomputable def K34.W (f : K34.T) : K34.sig.F := fun a x => f a.1 a.2.1
noncomputable def K34.H (cK37 : K37.T) : Hints U := { Γ := (addΓ 213 (K37.sig.native (K37.W cK37)) noΓ), ro := 0, base := 13 }
noncomputable def K34.gen (cK37 : K37.T) : K34.T := fun x_0 y =>
 (oelim (cK37 x_0) none fun r0 => (oelim (cK37 y) none fun r1 => (bif r0.1.1 then (bif r1.1.1 then some (((0 : Int), ()), ((), ())) else some (((-1 : Int), ()), ((), ()))) else (bif r1.1.1 then some (((1 : Int), ()), ((), ())) else (bif ilt x_0 y then some (((-1 : Int), ()), ((), ())) else (bif ilt y x_0 then some (((1 : Int), ()), ((), ())) else some (((0 : Int), ()), ((), ()))))))))
noncomputable def K34 : K34.T := K34.gen K37
theorem K34.eq (cK37 : K37.T) : EqA K34.sig (K34.H cK37) Tryz.f199 6 (K34.W (K34.gen cK37)) := by intro a x; kernel_rfl
noncomputable abbrev K34.h := K34.H K37
theorem K34.hints : HintsOK U Tryz.prog K34.h (fun c => c ∈ ([] : List Code)) := (hq (addΓ_ok noΓ_ok K37.ok) loops_nil (fun _ => rfl) (fun _ => rfl))
theorem K34.ok : NativeOK U Tryz.prog 199 (K34.sig.native (K34.W K34)) :=
 Sig.ok K34.sig (K34.W K34) U_pure (Hn := K34.h) (gos := 6) K34.hints Tryz.func199 rfl (by kernel_rfl) (fun b h => h) rfl rfl (by decide) (K34.eq K37) (by decide)
noncomputable def K36.sig : Sig U := ⟨[.isl .int], [], 0, [.int .i64], false, []⟩
abbrev K36.T : Type := (List (Int)) → Option ((Int × Unit) × Unit × Unit)
noncomputable def K36.W (f : K36.T) : K36.sig.F := fun a x => f a.1
noncomputable def K36.L0 : Shape U := ⟨18, 13, [(3, vi_), (6, .val (.isl .int)), (7, vi_), (8, vi_)], []⟩
noncomputable def K36.X0 : Exits U := [(.exit 0, ⟨18, 13, [(3, vi_)], []⟩),
 (.ret, ⟨18, 13, [(2, vi_)], []⟩)]
abbrev K36.l0T : Type := ((Int × (List (Int)) × Int × Int × Unit) × Unit) → Option (((Int × Unit) × Unit) ⊕ ((Int × Unit) × Unit))
noncomputable def K36.C : Code := match Tryz.f201.body with | some c => c | none => .skip
noncomputable def K36.B0 : Code := match (loopsOf K36.C).getD 0 .skip with | .loop b => b | .scope b => b | _ => .skip
noncomputable def K36.H (l0 : K36.l0T) : Hints U := { Γ := noΓ, ro := 0, base := 13, loop := fun b => (bif Nat.beq b 3 then some (loopN (0, 13) K36.L0 K36.X0 l0) else none) }
noncomputable def K36.step0 (a : (Int × (List (Int)) × Int × Int × Unit) × Unit) : Option (((Int × (List (Int)) × Int × Int × Unit) × Unit) ⊕ (((Int × Unit) × Unit) ⊕ ((Int × Unit) × Unit))) :=
 (bif ilt a.1.2.2.2.1 a.1.2.2.1 then (bif inR a.1.2.2.2.1 (List.length a.1.2.1) then (bif ine (List.getD a.1.2.1 (Int.toNat a.1.2.2.2.1) (0 : D UC.int)) a.1.1 then some (.inr (.inr ((List.getD a.1.2.1 (Int.toNat a.1.2.2.2.1) (0 : D UC.int), ()), ()))) else some (.inl ((a.1.1, (a.1.2.1, (a.1.2.2.1, (iadd .i64 a.1.2.2.2.1 1, ())))), ()))) else none) else some (.inr (.inl ((a.1.1, ()), ()))))
noncomputable def K36.F0 : K36.l0T := fun a => loopFix (1000000 + (a.1.2.1.length)) (K36.step0) a
noncomputable def K36.gen (l0 : K36.l0T) : K36.T := fun vals =>
 (oelim (l0 (((0 : Int), vals, ofN (List.length vals), (0 : Int), ()), ())) none fun r0 => (selim r0 (fun r1 => some ((r1.1.1, ()), ((), ()))) (fun r1 => some ((r1.1.1, ()), ((), ())))))
noncomputable def K36 : K36.T := K36.gen K36.F0
theorem K36.seq0 (l0 : K36.l0T) (a : K36.L0.T) : run Tryz.prog (K36.H l0) 6 (Option (K36.L0.T ⊕ ExT K36.X0)) none K36.B0 (K36.L0.enc a) (loopK (0, 13) K36.L0 K36.X0) = K36.step0 a := by kernel_rfl
theorem K36.inner0 : loopsOf K36.B0 = ([] : List Code) := by kernel_rfl
noncomputable abbrev K36.h := K36.H K36.F0
theorem K36.lok0 : LoopOK U Tryz.prog K36.h.ro K36.h.base K36.B0 (loopN (0, 13) K36.L0 K36.X0 K36.F0) :=
 loopN_ok (Hn := K36.h) U_ok U_pure (run_ok (hq noΓ_ok loops_nil (fun _ => rfl) (fun _ => rfl)) 6) (fun b h => by rw [K36.inner0] at h; exact h) (fun _ => rfl) (K36.seq0 K36.F0)
theorem K36.eq (l0 : K36.l0T) : EqA K36.sig (K36.H l0) Tryz.f201 6 (K36.W (K36.gen l0)) := by intro a x; kernel_rfl
theorem K36.loops : loopsOf K36.C = [(.loop K36.B0)] := by kernel_rfl
theorem K36.hints : HintsOK U Tryz.prog K36.h (fun c => c ∈ [(.loop K36.B0)]) := (hq noΓ_ok (loops_cons (by kernel_rfl) K36.lok0 loops_nil) (fun _ => rfl) (fun _ => rfl))
theorem K36.ok : NativeOK U Tryz.prog 201 (K36.sig.native (K36.W K36)) :=
 Sig.ok K36.sig (K36.W K36) U_pure (Hn := K36.h) (code := K36.C) (gos := 6) K36.hints Tryz.func201 (by kernel_rfl) (by kernel_rfl) (fun b h => by rw [K36.loops] at h; exact h) rfl rfl (by decide) (K36.eq K36.F0) (by decide)
noncomputable def K96.sig : Sig U := ⟨[.data .t_api_Quality, .data .t_api_Quality], [], 0, [.int .i64], false, []⟩
abbrev K96.T : Type := (api_Quality) → (api_Quality) → Option ((Int × Unit) × Unit × Unit)
noncomputable def K96.W (f : K96.T) : K96.sig.F := fun a x => f a.1 a.2.1
noncomputable def K96.H (cK34 : K34.T) (cK36 : K36.T) : Hints U := { Γ := (addΓ 201 (K36.sig.native (K36.W cK36)) (addΓ 199 (K34.sig.native (K34.W cK34)) noΓ)), ro := 0, base := 13 }
noncomputable def K96.gen (cK34 : K34.T) (cK36 : K36.T) : K96.T := fun a b =>
 (oelim (cK34 a.fClass b.fClass) none fun r0 => (oelim (cK34 a.fAccuracy b.fAccuracy) none fun r1 => (oelim (cK34 a.fVariance b.fVariance) none fun r2 => (oelim (cK36 (r0.1.1 :: r1.1.1 :: r2.1.1 :: lnil Int)) none fun r3 => some ((r3.1.1, ()), ((), ()))))))
noncomputable def K96 : K96.T := K96.gen K34 K36
theorem K96.eq (cK34 : K34.T) (cK36 : K36.T) : EqA K96.sig (K96.H cK34 cK36) Tryz.f211 6 (K96.W (K96.gen cK34 cK36)) := by intro a x; kernel_rfl
noncomputable abbrev K96.h := K96.H K34 K36
theorem K96.hints : HintsOK U Tryz.prog K96.h (fun c => c ∈ ([] : List Code)) := (hq (addΓ_ok (addΓ_ok noΓ_ok K34.ok) K36.ok) loops_nil (fun _ => rfl) (fun _ => rfl))
theorem K96.ok : NativeOK U Tryz.prog 211 (K96.sig.native (K96.W K96)) :=
 Sig.ok K96.sig (K96.W K96) U_pure (Hn := K96.h) (gos := 6) K96.hints Tryz.func211 rfl (by kernel_rfl) (fun b h => h) rfl rfl (by decide) (K96.eq K34 K36) (by decide)
noncomputable def K38.sig : Sig U := ⟨[.int .u64], [], 0, [.bool], false, []⟩
abbrev K38.T : Type := (Int) → Option ((Bool × Unit) × Unit × Unit)
noncomputable def K38.W (f : K38.T) : K38.sig.F := fun a x => f a.1
noncomputable def K38.H : Hints U := { Γ := noΓ, ro := 0, base := 13 }
noncomputable def K38.gen : K38.T := fun x_0 =>
 some ((ine x_0 x_0, ()), ((), ()))
noncomputable def K38 : K38.T := K38.gen
theorem K38.eq : EqA K38.sig (K38.H) Tryz.f219 6 (K38.W (K38.gen)) := by intro a x; kernel_rfl
theorem K38.hints : HintsOK U Tryz.prog (K38.H) (fun c => c ∈ ([] : List Code)) := (hq noΓ_ok loops_nil (fun _ => rfl) (fun _ => rfl))
theorem K38.ok : NativeOK U Tryz.prog 219 (K38.sig.native (K38.W K38)) :=
 Sig.ok K38.sig (K38.W (K38.gen)) U_pure (Hn := (K38.H)) (gos := 6) K38.hints Tryz.func219 rfl (by kernel_rfl) (fun b h => h) rfl rfl (by decide) (K38.eq) (by decide)
noncomputable def K35.sig : Sig U := ⟨[.int .u64, .int .u64], [], 0, [.int .i64], false, []⟩
abbrev K35.T : Type := (Int) → (Int) → Option ((Int × Unit) × Unit × Unit)
noncomputable def K35.W (f : K35.T) : K35.sig.F := fun a x => f a.1 a.2.1
noncomputable def K35.H (cK38 : K38.T) : Hints U := { Γ := (addΓ 219 (K38.sig.native (K38.W cK38)) noΓ), ro := 0, base := 13 }
noncomputable def K35.gen (cK38 : K38.T) : K35.T := fun x_0 y =>
 (oelim (cK38 x_0) none fun r0 => (oelim (cK38 y) none fun r1 => (bif r0.1.1 then (bif r1.1.1 then some (((0 : Int), ()), ((), ())) else some (((-1 : Int), ()), ((), ()))) else (bif r1.1.1 then some (((1 : Int), ()), ((), ())) else (bif ilt x_0 y then some (((-1 : Int), ()), ((), ())) else (bif ilt y x_0 then some (((1 : Int), ()), ((), ())) else some (((0 : Int), ()), ((), ()))))))))
noncomputable def K35 : K35.T := K35.gen K38
theorem K35.eq (cK38 : K38.T) : EqA K35.sig (K35.H cK38) Tryz.f212 6 (K35.W (K35.gen cK38)) := by intro a x; kernel_rfl
noncomputable abbrev K35.h := K35.H K38
theorem K35.hints : HintsOK U Tryz.prog K35.h (fun c => c ∈ ([] : List Code)) := (hq (addΓ_ok noΓ_ok K38.ok) loops_nil (fun _ => rfl) (fun _ => rfl))
theorem K35.ok : NativeOK U Tryz.prog 212 (K35.sig.native (K35.W K35)) :=
 Sig.ok K35.sig (K35.W K35) U_pure (Hn := K35.h) (gos := 6) K35.hints Tryz.func212 rfl (by kernel_rfl) (fun b h => h) rfl rfl (by decide) (K35.eq K38) (by decide)
noncomputable def K41.sig : Sig U := ⟨[.data .t_api_Vector, .data .t_api_Vector], [], 0, [.int .i64], false, []⟩
abbrev K41.T : Type := (api_Vector) → (api_Vector) → Option ((Int × Unit) × Unit × Unit)
noncomputable def K41.W (f : K41.T) : K41.sig.F := fun a x => f a.1 a.2.1
noncomputable def K41.C : Code := match Tryz.f198.body with | some c => c | none => .skip
noncomputable def K41.B0 : Code := match (loopsOf K41.C).getD 0 .skip with | .loop b => b | .scope b => b | _ => .skip
noncomputable def K41.U0 (cK34 : K34.T) (cK96 : K96.T) (cK35 : K35.T) : Hints U := { Γ := (addΓ 212 (K35.sig.native (K35.W cK35)) (addΓ 211 (K96.sig.native (K96.W cK96)) (addΓ 199 (K34.sig.native (K34.W cK34)) noΓ))), ro := 0, base := 13, loop := fun b => none }
noncomputable def K41.H (cK34 : K34.T) (cK96 : K96.T) (cK35 : K35.T) : Hints U := { Γ := (addΓ 212 (K35.sig.native (K35.W cK35)) (addΓ 211 (K96.sig.native (K96.W cK96)) (addΓ 199 (K34.sig.native (K34.W cK34)) noΓ))), ro := 0, base := 13, loop := fun b => (bif Nat.beq b 2 then some (unrollN Tryz.prog (K41.U0 cK34 cK96 cK35) 6 K41.B0 6) else none) }
noncomputable def K41.gen (cK34 : K34.T) (cK96 : K96.T) (cK35 : K35.T) : K41.T := fun a b =>
 (oelim (cK34 a.fPriority1 b.fPriority1) none fun r0 => (oelim (cK96 a.fQuality b.fQuality) none fun r1 => (oelim (cK34 a.fPriority2 b.fPriority2) none fun r2 => (oelim (cK35 a.fGrand b.fGrand) none fun r3 => (bif ine (List.getD (r0.1.1 :: r1.1.1 :: r2.1.1 :: r3.1.1 :: lnil Int) (Int.toNat 0) 0) 0 then some ((List.getD (r0.1.1 :: r1.1.1 :: r2.1.1 :: r3.1.1 :: lnil Int) (Int.toNat 0) 0, ()), ((), ())) else (bif ine (List.getD (r0.1.1 :: r1.1.1 :: r2.1.1 :: r3.1.1 :: lnil Int) (Int.toNat (iadd .i64 0 1)) 0) 0 then some ((List.getD (r0.1.1 :: r1.1.1 :: r2.1.1 :: r3.1.1 :: lnil Int) (Int.toNat (iadd .i64 0 1)) 0, ()), ((), ())) else (bif ine (List.getD (r0.1.1 :: r1.1.1 :: r2.1.1 :: r3.1.1 :: lnil Int) (Int.toNat (iadd .i64 (iadd .i64 0 1) 1)) 0) 0 then some ((List.getD (r0.1.1 :: r1.1.1 :: r2.1.1 :: r3.1.1 :: lnil Int) (Int.toNat (iadd .i64 (iadd .i64 0 1) 1)) 0, ()), ((), ())) else (bif ine (List.getD (r0.1.1 :: r1.1.1 :: r2.1.1 :: r3.1.1 :: lnil Int) (Int.toNat (iadd .i64 (iadd .i64 (iadd .i64 0 1) 1) 1)) 0) 0 then some ((List.getD (r0.1.1 :: r1.1.1 :: r2.1.1 :: r3.1.1 :: lnil Int) (Int.toNat (iadd .i64 (iadd .i64 (iadd .i64 0 1) 1) 1)) 0, ()), ((), ())) else some (((0 : Int), ()), ((), ()))))))))))
noncomputable def K41 : K41.T := K41.gen K34 K96 K35
theorem K41.inner0 : loopsOf K41.B0 = [] := by kernel_rfl
noncomputable abbrev K41.h := K41.H K34 K96 K35
theorem K41.lok0 : LoopOK U Tryz.prog K41.h.ro K41.h.base K41.B0 (unrollN Tryz.prog (K41.U0 K34 K96 K35) 6 K41.B0 6) :=
 unrollN_ok (Hn := (K41.U0 K34 K96 K35)) (L := fun c => c ∈ ([] : List Code)) (hq (addΓ_ok (addΓ_ok (addΓ_ok noΓ_ok K34.ok) K96.ok) K35.ok) loops_nil (fun _ => rfl) (fun _ => rfl)) (fun b h => by rw [K41.inner0] at h; exact h) 6
theorem K41.eq (cK34 : K34.T) (cK96 : K96.T) (cK35 : K35.T) : EqA K41.sig (K41.H cK34 cK96 cK35) Tryz.f198 6 (K41.W (K41.gen cK34 cK96 cK35)) := by intro a x; kernel_rfl
theorem K41.loops : loopsOf K41.C = [(.loop K41.B0)] := by kernel_rfl
theorem K41.hints : HintsOK U Tryz.prog K41.h (fun c => c ∈ [(.loop K41.B0)]) := (hq (addΓ_ok (addΓ_ok (addΓ_ok noΓ_ok K34.ok) K96.ok) K35.ok) (loops_cons (by kernel_rfl) K41.lok0 loops_nil) (fun _ => rfl) (fun _ => rfl))
theorem K41.ok : NativeOK U Tryz.prog 198 (K41.sig.native (K41.W K41)) :=
 Sig.ok K41.sig (K41.W K41) U_pure (Hn := K41.h) (code := K41.C) (gos := 6) K41.hints Tryz.func198 (by kernel_rfl) (by kernel_rfl) (fun b h => by rw [K41.loops] at h; exact h) rfl rfl (by decide) (K41.eq K34 K96 K35) (by decide)
noncomputable def K69.sig : Sig U := ⟨[.data .t_api_PortID, .data .t_api_PortID], [], 0, [.int .i64], false, []⟩
abbrev K69.T : Type := (api_PortID) → (api_PortID) → Option ((Int × Unit) × Unit × Unit)
noncomputable def K69.W (f : K69.T) : K69.sig.F := fun a x => f a.1 a.2.1
noncomputable def K69.H (cK35 : K35.T) (cK34 : K34.T) (cK36 : K36.T) : Hints U := { Γ := (addΓ 201 (K36.sig.native (K36.W cK36)) (addΓ 199 (K34.sig.native (K34.W cK34)) (addΓ 212 (K35.sig.native (K35.W cK35)) noΓ))), ro := 0, base := 13 }
noncomputable def K69.gen (cK35 : K35.T) (cK34 : K34.T) (cK36 : K36.T) : K69.T := fun a b =>
 (bif bif ieq a.fClock b.fClock then bif ieq a.fPort b.fPort then true else false else false then some (((0 : Int), ()), ((), ())) else (oelim (cK35 a.fClock b.fClock) none fun r0 => (oelim (cK34 a.fPort b.fPort) none fun r1 => (oelim (cK36 (r0.1.1 :: r1.1.1 :: lnil Int)) none fun r2 => some ((r2.1.1, ()), ((), ()))))))
noncomputable def K69 : K69.T := K69.gen K35 K34 K36
theorem K69.eq (cK35 : K35.T) (cK34 : K34.T) (cK36 : K36.T) : EqA K69.sig (K69.H cK35 cK34 cK36) Tryz.f202 6 (K69.W (K69.gen cK35 cK34 cK36)) := by intro a x; kernel_rfl
noncomputable abbrev K69.h := K69.H K35 K34 K36
theorem K69.hints : HintsOK U Tryz.prog K69.h (fun c => c ∈ ([] : List Code)) := (hq (addΓ_ok (addΓ_ok (addΓ_ok noΓ_ok K35.ok) K34.ok) K36.ok) loops_nil (fun _ => rfl) (fun _ => rfl))
theorem K69.ok : NativeOK U Tryz.prog 202 (K69.sig.native (K69.W K69)) :=
 Sig.ok K69.sig (K69.W K69) U_pure (Hn := K69.h) (gos := 6) K69.hints Tryz.func202 rfl (by kernel_rfl) (fun b h => h) rfl rfl (by decide) (K69.eq K35 K34 K36) (by decide)
noncomputable def K43.sig : Sig U := ⟨[.data .t_api_Vector], [], 0, [.int .i64], false, []⟩
abbrev K43.T : Type := (api_Vector) → Option ((Int × Unit) × Unit × Unit)
noncomputable def K43.W (f : K43.T) : K43.sig.F := fun a x => f a.1
noncomputable def K43.H (cK69 : K69.T) : Hints U := { Γ := (addΓ 202 (K69.sig.native (K69.W cK69)) noΓ), ro := 0, base := 13 }
noncomputable def K43.gen (cK69 : K69.T) : K43.T := fun a =>
 (oelim (cK69 a.fReceiver a.fSender) none fun r0 => (bif inR (iadd .i64 r0.1.1 1) 3 then some ((List.getD ((2 : Int) :: (0 : Int) :: (1 : Int) :: lnil Int) (Int.toNat (iadd .i64 r0.1.1 1)) 0, ()), ((), ())) else none))
noncomputable def K43 : K43.T := K43.gen K69
theorem K43.eq (cK69 : K69.T) : EqA K43.sig (K43.H cK69) Tryz.f200 6 (K43.W (K43.gen cK69)) := by intro a x; kernel_rfl
noncomputable abbrev K43.h := K43.H K69
theorem K43.hints : HintsOK U Tryz.prog K43.h (fun c => c ∈ ([] : List Code)) := (hq (addΓ_ok noΓ_ok K69.ok) loops_nil (fun _ => rfl) (fun _ => rfl))
theorem K43.ok : NativeOK U Tryz.prog 200 (K43.sig.native (K43.W K43)) :=
 Sig.ok K43.sig (K43.W K43) U_pure (Hn := K43.h) (gos := 6) K43.hints Tryz.func200 rfl (by kernel_rfl) (fun b h => h) rfl rfl (by decide) (K43.eq K69) (by decide)
noncomputable def K40.sig : Sig U := ⟨[.data .t_api_Vector, .data .t_api_Vector], [], 0, [.int .i64], false, []⟩
abbrev K40.T : Type := (api_Vector) → (api_Vector) → Option ((Int × Unit) × Unit × Unit)
noncomputable def K40.W (f : K40.T) : K40.sig.F := fun a x => f a.1 a.2.1
noncomputable def K40.C : Code := match Tryz.f178.body with | some c => c | none => .skip
noncomputable def K40.B0 : Code := match (loopsOf K40.C).getD 0 .skip with | .loop b => b | .scope b => b | _ => .skip
noncomputable def K40.JC9 : Exits U := [(.normal, ⟨60, 13, [(5, vi_)], []⟩)]
noncomputable def K40.H (cK41 : K41.T) (cK34 : K34.T) (cK43 : K43.T) (cK69 : K69.T) (cK36 : K36.T) : Hints U := { Γ := (addΓ 201 (K36.sig.native (K36.W cK36)) (addΓ 202 (K69.sig.native (K69.W cK69)) (addΓ 200 (K43.sig.native (K43.W cK43)) (addΓ 199 (K34.sig.native (K34.W cK34)) (addΓ 198 (K41.sig.native (K41.W cK41)) noΓ))))), ro := 0, base := 13, joinQ := fun b => (bif Nat.beq b 4 then some [(27, vb_)] else (bif Nat.beq b 6 then some [(39, vb_)] else none)), joinC := fun b => (bif Nat.beq b 9 then some K40.JC9 else none), gotos := 3, loop := fun b => none }
noncomputable def K40.gen (cK41 : K41.T) (cK34 : K34.T) (cK43 : K43.T) (cK69 : K69.T) (cK36 : K36.T) : K40.T := fun a b =>
 (oelim (cK41 a b) none fun r0 => (bif ine (imul .i64 2 r0.1.1) 0 then some ((imul .i64 2 r0.1.1, ()), ((), ())) else (oelim (cK34 a.fSteps b.fSteps) none fun r1 => (oelim ((bif ilt 0 (imul .i64 2 r1.1.1) then some (ieq (isub .i64 a.fSteps 1) b.fSteps, ()) else some (false, ()))) none fun r2 => (bif r2.1 then (oelim (cK43 a) none fun r3 => some ((r3.1.1, ()), ((), ()))) else (oelim ((bif ilt (imul .i64 2 r1.1.1) 0 then some (ieq (isub .i64 b.fSteps 1) a.fSteps, ()) else some (false, ()))) none fun r4 => (bif r4.1 then (oelim (cK43 b) none fun r5 => some ((IntKind.wrap .i64 ((0 : Int) - r5.1.1), ()), ((), ()))) else (oelim ((bif ieq (imul .i64 2 r1.1.1) 0 then (oelim (cK69 a.fSender b.fSender) none fun r6 => (oelim (cK34 a.fReceiver.fPort b.fReceiver.fPort) none fun r7 => (oelim (cK36 (r6.1.1 :: r7.1.1 :: lnil Int)) none fun r8 => some ((r8.1.1, ()), ())))) else some ((imul .i64 2 r1.1.1, ()), ()))) none fun r9 => some ((r9.1.1, ()), ((), ()))))))))))
noncomputable def K40 : K40.T := K40.gen K41 K34 K43 K69 K36
theorem K40.eq (cK41 : K41.T) (cK34 : K34.T) (cK43 : K43.T) (cK69 : K69.T) (cK36 : K36.T) : EqA K40.sig (K40.H cK41 cK34 cK43 cK69 cK36) Tryz.f178 6 (K40.W (K40.gen cK41 cK34 cK43 cK69 cK36)) := by intro a x; kernel_rfl
theorem K40.loops : loopsOf K40.C = [(.scope K40.B0)] := by kernel_rfl
noncomputable abbrev K40.h := K40.H K41 K34 K43 K69 K36
theorem K40.hints : HintsOK U Tryz.prog K40.h (fun c => c ∈ [(.scope K40.B0)]) := (hq (addΓ_ok (addΓ_ok (addΓ_ok (addΓ_ok (addΓ_ok noΓ_ok K41.ok) K34.ok) K43.ok) K69.ok) K36.ok) (loops_skip loops_nil) (fun _ => rfl) (fun _ => rfl))
theorem K40.ok : NativeOK U Tryz.prog 178 (K40.sig.native (K40.W K40)) :=
 Sig.ok K40.sig (K40.W K40) U_pure (Hn := K40.h) (code := K40.C) (gos := 6) K40.hints Tryz.func178 (by kernel_rfl) (by kernel_rfl) (fun b h => by rw [K40.loops] at h; exact h) rfl rfl (by decide) (K40.eq K41 K34 K43 K69 K36) (by decide)
noncomputable def K39.sig : Sig U := ⟨[.isl .t_api_Vector], [], 0, [.int .i64], false, []⟩
abbrev K39.T : Type := (List (api_Vector)) → Option ((Int × Unit) × Unit × Unit)
noncomputable def K39.W (f : K39.T) : K39.sig.F := fun a x => f a.1
noncomputable def K39.L0 : Shape U := ⟨27, 13, [(0, .val (.isl .t_api_Vector)), (3, vi_), (6, .val (.isl .t_api_Vector)), (7, vi_), (8, vi_)], []⟩
noncomputable def K39.X0 : Exits U := [(.exit 0, ⟨27, 13, [(3, vi_)], []⟩)]
abbrev K39.l0T : Type := (((List (api_Vector)) × Int × (List (api_Vector)) × Int × Int × Unit) × Unit) → Option (((Int × Unit) × Unit))
noncomputable def K39.C : Code := match Tryz.f177.body with | some c => c | none => .skip
noncomputable def K39.B0 : Code := match (loopsOf K39.C).getD 0 .skip with | .loop b => b | .scope b => b | _ => .skip
noncomputable def K39.JC6 : Exits U := [(.normal, ⟨27, 13, [(0, .val (.isl .t_api_Vector)), (3, vi_), (6, .val (.isl .t_api_Vector)), (7, vi_), (8, vi_)], []⟩)]
noncomputable def K39.H (cK40 : K40.T) (l0 : K39.l0T) : Hints U := { Γ := (addΓ 178 (K40.sig.native (K40.W cK40)) noΓ), ro := 0, base := 13, joinQ := fun b => (bif Nat.beq b 5 then some [(23, vb_)] else none), joinC := fun b => (bif Nat.beq b 6 then some K39.JC6 else none), loop := fun b => (bif Nat.beq b 3 then some (loopN (0, 13) K39.L0 K39.X0 l0) else none) }
noncomputable def K39.step0 (cK40 : K40.T) (a : ((List (api_Vector)) × Int × (List (api_Vector)) × Int × Int × Unit) × Unit) : Option ((((List (api_Vector)) × Int × (List (api_Vector)) × Int × Int × Unit) × Unit) ⊕ (((Int × Unit) × Unit))) :=
 (bif ilt a.1.2.2.2.2.1 a.1.2.2.2.1 then (bif inR a.1.2.2.2.2.1 (List.length a.1.2.2.1) then (oelim ((bif ilt a.1.2.1 0 then some (true, ()) else (bif inR a.1.2.1 (List.length a.1.1) then (oelim (cK40 (List.getD a.1.1 (Int.toNat a.1.2.1) api_Vector.zero) (List.getD a.1.2.2.1 (Int.toNat a.1.2.2.2.2.1) api_Vector.zero)) none fun r0 => some (ilt 0 r0.1.1, ())) else none))) none fun r1 => (oelim ((bif r1.1 then some ((a.1.1, (a.1.2.2.2.2.1, (a.1.2.2.1, (a.1.2.2.2.1, (a.1.2.2.2.2.1, ()))))), ()) else some ((a.1.1, (a.1.2.1, (a.1.2.2.1, (a.1.2.2.2.1, (a.1.2.2.2.2.1, ()))))), ()))) none fun r2 => some (.inl ((r2.1.1, (r2.1.2.1, (r2.1.2.2.1, (r2.1.2.2.2.1, (iadd .i64 r2.1.2.2.2.2.1 1, ()))))), ())))) else none) else some (.inr ((a.1.2.1, ()), ())))
noncomputable def K39.F0 : K39.l0T := fun a => loopFix (1000000 + (a.1.1.length + a.1.2.2.1.length)) (K39.step0 K40) a
noncomputable def K39.gen (cK40 : K40.T) (l0 : K39.l0T) : K39.T := fun l =>
 (oelim (l0 ((l, (-1 : Int), l, ofN (List.length l), (0 : Int), ()), ())) none fun r0 => some ((r0.1.1, ()), ((), ())))
noncomputable def K39 : K39.T := K39.gen K40 K39.F0
theorem K39.seq0 (cK40 : K40.T) (l0 : K39.l0T) (a : K39.L0.T) : run Tryz.prog (K39.H cK40 l0) 6 (Option (K39.L0.T ⊕ ExT K39.X0)) none K39.B0 (K39.L0.enc a) (loopK (0, 13) K39.L0 K39.X0) = K39.step0 cK40 a := by kernel_rfl
theorem K39.inner0 : loopsOf K39.B0 = ([] : List Code) := by kernel_rfl
noncomputable abbrev K39.h := K39.H K40 K39.F0
theorem K39.lok0 : LoopOK U Tryz.prog K39.h.ro K39.h.base K39.B0 (loopN (0, 13) K39.L0 K39.X0 K39.F0) :=
 loopN_ok (Hn := K39.h) U_ok U_pure (run_ok (hq (addΓ_ok noΓ_ok K40.ok) loops_nil (fun _ => rfl) (fun _ => rfl)) 6) (fun b h => by rw [K39.inner0] at h; exact h) (fun _ => rfl) (K39.seq0 K40 K39.F0)
theorem K39.eq (cK40 : K40.T) (l0 : K39.l0T) : EqA K39.sig (K39.H cK40 l0) Tryz.f177 6 (K39.W (K39.gen cK40 l0)) := by intro a x; kernel_rfl
theorem K39.loops : loopsOf K39.C = [(.loop K39.B0)] := by kernel_rfl
theorem K39.hints : HintsOK U Tryz.prog K39.h (fun c => c ∈ [(.loop K39.B0)]) := (hq (addΓ_ok noΓ_ok K40.ok) (loops_cons (by kernel_rfl) K39.lok0 loops_nil) (fun _ => rfl) (fun _ => rfl))
theorem K39.ok : NativeOK U Tryz.prog 177 (K39.sig.native (K39.W K39)) :=
 Sig.ok K39.sig (K39.W K39) U_pure (Hn := K39.h) (code := K39.C) (gos := 6) K39.hints Tryz.func177 (by kernel_rfl) (by kernel_rfl) (fun b h => by rw [K39.loops] at h; exact h) rfl rfl (by decide) (K39.eq K40 K39.F0) (by decide)
noncomputable def K54.sig : Sig U := ⟨[.ptr, .int .i64], [.obj .t_foreign_Table], 1, [.data .t_foreign_Record, .bool], true, []⟩
abbrev K54.T : Type := (Int) → (foreign_Table) → Option ((foreign_Record × Bool × Unit) × Unit × Unit)
noncomputable def K54.W (f : K54.T) : K54.sig.F := fun a x => f a.2.1 x.1
noncomputable def K54.L0 : Shape U := ⟨35, 16, [(4, .ptr 14 0 0), (6, .val (.isl .t_foreign_Record)), (7, .own .t_api_Vector 15), (14, .val (.isl .t_foreign_Record)), (15, vi_), (16, vi_)], [(13, .obj .t_foreign_Table), (14, .obj .t_foreign_Record), (15, .tok)]⟩
noncomputable def K54.X0 : Exits U := [(.exit 0, ⟨35, 16, [(4, .ptr 14 0 0), (6, .val (.isl .t_foreign_Record)), (7, .own .t_api_Vector 15)], [(13, .obj .t_foreign_Table), (14, .obj .t_foreign_Record), (15, .tok)]⟩)]
abbrev K54.l0T : Type := (((List (foreign_Record)) × (List (api_Vector)) × (List (foreign_Record)) × Int × Int × Unit) × (foreign_Table × foreign_Record × Unit)) → Option ((((List (foreign_Record)) × (List (api_Vector)) × Unit) × (foreign_Table × foreign_Record × Unit)))
noncomputable def K54.C : Code := match Tryz.f133.body with | some c => c | none => .skip
noncomputable def K54.B0 : Code := match (loopsOf K54.C).getD 0 .skip with | .loop b => b | .scope b => b | _ => .skip
noncomputable def K54.JR10 : Exits U := [(.normal, ⟨35, 15, [(4, .ptr 14 0 0), (5, vb_)], [(13, .obj .t_foreign_Table), (14, .obj .t_foreign_Record)]⟩)]
noncomputable def K54.JR5 : Exits U := [(.normal, ⟨35, 17, [(4, .ptr 14 0 0), (6, .val (.isl .t_foreign_Record)), (7, .own .t_api_Vector 15), (9, .ptr 16 0 0), (14, .val (.isl .t_foreign_Record)), (15, vi_), (16, vi_)], [(13, .obj .t_foreign_Table), (14, .obj .t_foreign_Record), (15, .tok), (16, .obj .t_foreign_Record)]⟩)]
noncomputable def K54.H (cK57 : K57.T) (cK39 : K39.T) (l0 : K54.l0T) : Hints U := { Γ := (addΓ 177 (K39.sig.native (K39.W cK39)) (addΓ 176 (K57.sig.native (K57.W cK57)) noΓ)), ro := 14, base := 14, joinR := fun b => (bif Nat.beq b 5 then some K54.JR5 else (bif Nat.beq b 10 then some K54.JR10 else none)), loop := fun b => (bif Nat.beq b 4 then some (loopN (14, 14) K54.L0 K54.X0 l0) else none) }
noncomputable def K54.step0 (cK57 : K57.T) (cK39 : K39.T) (a : ((List (foreign_Record)) × (List (api_Vector)) × (List (foreign_Record)) × Int × Int × Unit) × (foreign_Table × foreign_Record × Unit)) : Option ((((List (foreign_Record)) × (List (api_Vector)) × (List (foreign_Record)) × Int × Int × Unit) × (foreign_Table × foreign_Record × Unit)) ⊕ ((((List (foreign_Record)) × (List (api_Vector)) × Unit) × (foreign_Table × foreign_Record × Unit)))) :=
 (bif ilt a.1.2.2.2.2.1 a.1.2.2.2.1 then (oelim ((bif inR a.1.2.2.2.2.1 (List.length a.1.2.2.1) then some ((a.1.1, (a.1.2.1, (a.1.2.2.1, (a.1.2.2.2.1, (a.1.2.2.2.2.1, ()))))), (a.2.1, (a.2.2.1, (List.getD a.1.2.2.1 (Int.toNat a.1.2.2.2.2.1) foreign_Record.zero, ())))) else none)) none fun r0 => (bif room (List.length r0.1.2.1 + List.length (r0.2.2.2.1.fVector :: lnil api_Vector)) 88 then some (.inl ((r0.1.1, (r0.1.2.1 ++ r0.2.2.2.1.fVector :: lnil api_Vector, (r0.1.2.2.1, (r0.1.2.2.2.1, (iadd .i64 r0.1.2.2.2.2.1 1, ()))))), (r0.2.1, (r0.2.2.1, ())))) else none)) else some (.inr ((a.1.1, (a.1.2.1, ())), (a.2.1, (a.2.2.1, ())))))
noncomputable def K54.F0 : K54.l0T := fun a => loopFix (1000000 + (a.1.1.length + a.1.2.1.length + a.1.2.2.1.length)) (K54.step0 K57 K39) a
noncomputable def K54.gen (cK57 : K57.T) (cK39 : K39.T) (l0 : K54.l0T) : K54.T := fun now h0 =>
 (oelim (cK57 now h0) none fun r0 => (oelim (l0 ((r0.1.1, lnil api_Vector, r0.1.1, ofN (List.length r0.1.1), (0 : Int), ()), h0, foreign_Record.mk z5_ z6_ 0 0 0, ())) none fun r1 => (oelim (cK39 r1.1.2.1) none fun r2 => (bif ilt r2.1.1 0 then some ((foreign_Record.mk z5_ z6_ 0 0 0, (false, ())), ((), ())) else (bif inR r2.1.1 (List.length r1.1.1) then some ((List.getD r1.1.1 (Int.toNat r2.1.1) foreign_Record.zero, (true, ())), ((), ())) else none)))))
noncomputable def K54 : K54.T := K54.gen K57 K39 K54.F0
theorem K54.seq0 (cK57 : K57.T) (cK39 : K39.T) (l0 : K54.l0T) (a : K54.L0.T) : run Tryz.prog (K54.H cK57 cK39 l0) 6 (Option (K54.L0.T ⊕ ExT K54.X0)) none K54.B0 (K54.L0.enc a) (loopK (14, 14) K54.L0 K54.X0) = K54.step0 cK57 cK39 a := by kernel_rfl
theorem K54.inner0 : loopsOf K54.B0 = ([] : List Code) := by kernel_rfl
noncomputable abbrev K54.h := K54.H K57 K39 K54.F0
theorem K54.lok0 : LoopOK U Tryz.prog K54.h.ro K54.h.base K54.B0 (loopN (14, 14) K54.L0 K54.X0 K54.F0) :=
 loopN_ok (Hn := K54.h) U_ok U_pure (run_ok (hq (addΓ_ok (addΓ_ok noΓ_ok K57.ok) K39.ok) loops_nil (fun _ => rfl) (fun _ => rfl)) 6) (fun b h => by rw [K54.inner0] at h; exact h) (fun _ => rfl) (K54.seq0 K57 K39 K54.F0)
theorem K54.eq (cK57 : K57.T) (cK39 : K39.T) (l0 : K54.l0T) : EqA K54.sig (K54.H cK57 cK39 l0) Tryz.f133 6 (K54.W (K54.gen cK57 cK39 l0)) := by intro a x; kernel_rfl
theorem K54.loops : loopsOf K54.C = [(.loop K54.B0)] := by kernel_rfl
theorem K54.hints : HintsOK U Tryz.prog K54.h (fun c => c ∈ [(.loop K54.B0)]) := (hq (addΓ_ok (addΓ_ok noΓ_ok K57.ok) K39.ok) (loops_cons (by kernel_rfl) K54.lok0 loops_nil) (fun _ => rfl) (fun _ => rfl))
theorem K54.ok : NativeOK U Tryz.prog 133 (K54.sig.native (K54.W K54)) :=
 Sig.ok K54.sig (K54.W K54) U_pure (Hn := K54.h) (code := K54.C) (gos := 6) K54.hints Tryz.func133 (by kernel_rfl) (by kernel_rfl) (fun b h => by rw [K54.loops] at h; exact h) rfl rfl (by decide) (K54.eq K57 K39 K54.F0) (by decide)
noncomputable def K42.sig : Sig U := ⟨[.data .t_api_Conf], [], 0, [.data .t_api_Vector], false, []⟩
abbrev K42.T : Type := (api_Conf) → Option ((api_Vector × Unit) × Unit × Unit)
noncomputable def K42.W (f : K42.T) : K42.sig.F := fun a x => f a.1
noncomputable def K42.H : Hints U := { Γ := noΓ, ro := 0, base := 13 }
noncomputable def K42.gen : K42.T := fun c =>
 some ((api_Vector.mk c.fPriority1 c.fQuality c.fPriority2 c.fClock 0 (api_PortID.mk c.fClock 0) (api_PortID.mk c.fClock 0), ()), ((), ()))
noncomputable def K42 : K42.T := K42.gen
theorem K42.eq : EqA K42.sig (K42.H) Tryz.f135 6 (K42.W (K42.gen)) := by intro a x; kernel_rfl
theorem K42.hints : HintsOK U Tryz.prog (K42.H) (fun c => c ∈ ([] : List Code)) := (hq noΓ_ok loops_nil (fun _ => rfl) (fun _ => rfl))
theorem K42.ok : NativeOK U Tryz.prog 135 (K42.sig.native (K42.W K42)) :=
 Sig.ok K42.sig (K42.W (K42.gen)) U_pure (Hn := (K42.H)) (gos := 6) K42.hints Tryz.func135 rfl (by kernel_rfl) (fun b h => h) rfl rfl (by decide) (K42.eq) (by decide)
noncomputable def K47.sig : Sig U := ⟨[.data .t_api_Vector, .bool, .optr .t_api_Vector, .optr .t_api_Vector, .bool], [], 0, [.int .i64], false, []⟩
abbrev K47.T : Type := (api_Vector) → (Bool) → (Option (api_Vector)) → (Option (api_Vector)) → (Bool) → Option ((Int × Unit) × Unit × Unit)
noncomputable def K47.W (f : K47.T) : K47.sig.F := fun a x => f a.1 a.2.1 a.2.2.1 a.2.2.2.1 a.2.2.2.2.1
noncomputable def K47.JC2 : Exits U := [(.normal, ⟨58, 13, [], []⟩),
 (.ret, ⟨58, 13, [(10, vi_)], []⟩)]
noncomputable def K47.H (cK40 : K40.T) : Hints U := { Γ := (addΓ 178 (K40.sig.native (K40.W cK40)) noΓ), ro := 0, base := 13, joinQ := fun b => (bif Nat.beq b 1 then some [(11, vb_)] else (bif Nat.beq b 4 then some [(31, vb_)] else (bif Nat.beq b 7 then some [(32, vb_)] else (bif Nat.beq b 11 then some [(45, vb_)] else none)))), joinC := fun b => (bif Nat.beq b 2 then some K47.JC2 else none) }
noncomputable def K47.gen (cK40 : K40.T) : K47.T := fun d0 listening best port here =>
 (oelim ((bif !Option.isSome port then some (listening, ()) else some (false, ()))) none fun r0 => (oelim ((bif r0.1 then some (.inr (((7 : Int), ()), ())) else (bif ile d0.fQuality.fClass 127 then (oelim ((bif !Option.isSome port then some (true, ()) else (oelim (port) none fun r1 => (oelim (cK40 d0 r1) none fun r2 => some (ilt r2.1.1 0, ()))))) none fun r3 => (bif r3.1 then some (.inr (((1 : Int), ()), ())) else some (.inr (((4 : Int), ()), ())))) else (oelim ((bif !Option.isSome best then some (true, ()) else (oelim (best) none fun r4 => (oelim (cK40 d0 r4) none fun r5 => some (ilt r5.1.1 0, ()))))) none fun r6 => (bif r6.1 then some (.inr (((2 : Int), ()), ())) else (bif here then some (.inr (((6 : Int), ()), ())) else (oelim ((bif Option.isSome port then (oelim (best) none fun r7 => (oelim (port) none fun r8 => (oelim (cK40 r7 r8) none fun r9 => some (ieq r9.1.1 (-1), ())))) else some (false, ()))) none fun r10 => (bif r10.1 then some (.inr (((5 : Int), ()), ())) else some (.inl ((), ())))))))))) none fun r11 => (selim r11 (fun r12 => some (((3 : Int), ()), ((), ()))) (fun r12 => some ((r12.1.1, ()), ((), ()))))))
noncomputable def K47 : K47.T := K47.gen K40
theorem K47.eq (cK40 : K40.T) : EqA K47.sig (K47.H cK40) Tryz.f179 6 (K47.W (K47.gen cK40)) := by intro a x; kernel_rfl
noncomputable abbrev K47.h := K47.H K40
theorem K47.hints : HintsOK U Tryz.prog K47.h (fun c => c ∈ ([] : List Code)) := (hq (addΓ_ok noΓ_ok K40.ok) loops_nil (fun _ => rfl) (fun _ => rfl))
theorem K47.ok : NativeOK U Tryz.prog 179 (K47.sig.native (K47.W K47)) :=
 Sig.ok K47.sig (K47.W K47) U_pure (Hn := K47.h) (gos := 6) K47.hints Tryz.func179 rfl (by kernel_rfl) (fun b h => h) rfl rfl (by decide) (K47.eq K40) (by decide)
noncomputable def K46.sig : Sig U := ⟨[.data .t_api_Vector, .isl .bool, .isl .p_t_api_Vector], [], 0, [.isl .int, .int .i64], true, []⟩
abbrev K46.T : Type := (api_Vector) → (List (Bool)) → (List (Option (api_Vector))) → Option (((List (Int)) × Int × Unit) × Unit × Unit)
noncomputable def K46.W (f : K46.T) : K46.sig.F := fun a x => f a.1 a.2.1 a.2.2.1
noncomputable def K46.L0 : Shape U := ⟨78, 14, [(1, .val (.isl .bool)), (2, .val (.isl .p_t_api_Vector)), (3, .ptr 13 0 0), (8, vi_), (9, vi_), (10, .val (.optr .t_api_Vector)), (11, .full .int)], [(13, .obj .t_api_Vector)]⟩
noncomputable def K46.X0 : Exits U := [(.ret, ⟨78, 14, [(6, .own .int 13), (7, vi_)], [(13, .tok)]⟩)]
abbrev K46.l0T : Type := (((List (Bool)) × (List (Option (api_Vector))) × Int × Int × (Option (api_Vector)) × (List (Int)) × Unit) × (api_Vector × Unit)) → Option ((((List (Int)) × Int × Unit) × Unit))
noncomputable def K46.L1 : Shape U := ⟨78, 15, [(1, .val (.isl .bool)), (3, .ptr 13 0 0), (8, vi_), (10, .val (.optr .t_api_Vector)), (11, .own .int 14), (48, .val (.isl .p_t_api_Vector)), (49, vi_), (50, vi_)], [(13, .obj .t_api_Vector), (14, .tok)]⟩
noncomputable def K46.X1 : Exits U := [(.exit 0, ⟨78, 14, [(8, vi_), (11, .own .int 13)], [(13, .tok)]⟩)]
abbrev K46.l1T : Type := (((List (Bool)) × Int × (Option (api_Vector)) × (List (Int)) × (List (Option (api_Vector))) × Int × Int × Unit) × (api_Vector × Unit)) → Option (((Int × (List (Int)) × Unit) × Unit))
noncomputable def K46.C : Code := match Tryz.f134.body with | some c => c | none => .skip
noncomputable def K46.B0 : Code := match (loopsOf K46.C).getD 0 .skip with | .loop b => b | .scope b => b | _ => .skip
noncomputable def K46.B1 : Code := match (loopsOf K46.C).getD 1 .skip with | .loop b => b | .scope b => b | _ => .skip
noncomputable def K46.R0 : Code := (findLabel K46.B0 0).getD .skip
noncomputable def K46.JR13 : Exits U := [(.normal, ⟨78, 15, [(1, .val (.isl .bool)), (3, .ptr 13 0 0), (8, vi_), (10, .val (.optr .t_api_Vector)), (11, .own .int 14), (48, .val (.isl .p_t_api_Vector)), (49, vi_), (50, vi_)], [(13, .obj .t_api_Vector), (14, .tok)]⟩)]
noncomputable def K46.JC8 : Exits U := [(.normal, ⟨78, 14, [(1, .val (.isl .bool)), (2, .val (.isl .p_t_api_Vector)), (3, .ptr 13 0 0), (8, vi_), (9, vi_), (10, .val (.optr .t_api_Vector)), (11, .full .int)], [(13, .obj .t_api_Vector)]⟩)]
noncomputable def K46.H (cK40 : K40.T) (cK47 : K47.T) (l0 : K46.l0T) (l1 : K46.l1T) : Hints U := { Γ := (addΓ 179 (K47.sig.native (K47.W cK47)) (addΓ 178 (K40.sig.native (K40.W cK40)) noΓ)), ro := 0, base := 13, joinQ := fun b => (bif Nat.beq b 7 then some [(43, vb_)] else none), joinR := fun b => (bif Nat.beq b 13 then some K46.JR13 else none), joinC := fun b => (bif Nat.beq b 8 then some K46.JC8 else none), label := fun b => bif Nat.beq b 0 then some (loopN (0, 13) K46.L0 K46.X0 l0) else none, gotos := 3, loop := fun b => (bif Nat.beq b 11 then some (loopN (0, 13) K46.L1 K46.X1 l1) else none) }
noncomputable def K46.step1 (cK40 : K40.T) (cK47 : K47.T) (a : ((List (Bool)) × Int × (Option (api_Vector)) × (List (Int)) × (List (Option (api_Vector))) × Int × Int × Unit) × (api_Vector × Unit)) : Option ((((List (Bool)) × Int × (Option (api_Vector)) × (List (Int)) × (List (Option (api_Vector))) × Int × Int × Unit) × (api_Vector × Unit)) ⊕ (((Int × (List (Int)) × Unit) × Unit))) :=
 (bif ilt a.1.2.2.2.2.2.2.1 a.1.2.2.2.2.2.1 then (bif inR a.1.2.2.2.2.2.2.1 (List.length a.1.2.2.2.2.1) then (oelim ((bif ilt a.1.2.2.2.2.2.2.1 (ofN (List.length a.1.1)) then (bif inR a.1.2.2.2.2.2.2.1 (List.length a.1.1) then (oelim (cK47 a.2.1 (List.getD a.1.1 (Int.toNat a.1.2.2.2.2.2.2.1) false) a.1.2.2.1 (List.getD a.1.2.2.2.2.1 (Int.toNat a.1.2.2.2.2.2.2.1) none) (ieq a.1.2.2.2.2.2.2.1 a.1.2.1)) none fun r0 => (bif room (List.length a.1.2.2.2.1 + List.length (r0.1.1 :: lnil Int)) 8 then some ((a.1.1, (a.1.2.1, (a.1.2.2.1, (a.1.2.2.2.1 ++ r0.1.1 :: lnil Int, (a.1.2.2.2.2.1, (a.1.2.2.2.2.2.1, (a.1.2.2.2.2.2.2.1, ()))))))), (a.2.1, ())) else none)) else none) else (oelim (cK47 a.2.1 false a.1.2.2.1 (List.getD a.1.2.2.2.2.1 (Int.toNat a.1.2.2.2.2.2.2.1) none) (ieq a.1.2.2.2.2.2.2.1 a.1.2.1)) none fun r1 => (bif room (List.length a.1.2.2.2.1 + List.length (r1.1.1 :: lnil Int)) 8 then some ((a.1.1, (a.1.2.1, (a.1.2.2.1, (a.1.2.2.2.1 ++ r1.1.1 :: lnil Int, (a.1.2.2.2.2.1, (a.1.2.2.2.2.2.1, (a.1.2.2.2.2.2.2.1, ()))))))), (a.2.1, ())) else none)))) none fun r2 => some (.inl ((r2.1.1, (r2.1.2.1, (r2.1.2.2.1, (r2.1.2.2.2.1, (r2.1.2.2.2.2.1, (r2.1.2.2.2.2.2.1, (iadd .i64 r2.1.2.2.2.2.2.2.1 1, ()))))))), (r2.2.1, ())))) else none) else some (.inr ((a.1.2.1, (a.1.2.2.2.1, ())), ())))
noncomputable def K46.F1 : K46.l1T := fun a => loopFix (1000000 + (a.1.1.length + a.1.2.2.2.1.length + a.1.2.2.2.2.1.length)) (K46.step1 K40 K47) a
noncomputable def K46.step0 (cK40 : K40.T) (cK47 : K47.T) (l1 : K46.l1T) (a : ((List (Bool)) × (List (Option (api_Vector))) × Int × Int × (Option (api_Vector)) × (List (Int)) × Unit) × (api_Vector × Unit)) : Option ((((List (Bool)) × (List (Option (api_Vector))) × Int × Int × (Option (api_Vector)) × (List (Int)) × Unit) × (api_Vector × Unit)) ⊕ ((((List (Int)) × Int × Unit) × Unit))) :=
 (bif ilt a.1.2.2.2.1 (ofN (List.length a.1.2.1)) then (bif inR a.1.2.2.2.1 (List.length a.1.2.1) then (oelim ((bif Option.isSome (List.getD a.1.2.1 (Int.toNat a.1.2.2.2.1) none) then (bif !Option.isSome a.1.2.2.2.2.1 then some (true, ()) else (oelim (a.1.2.2.2.2.1) none fun (r0 : api_Vector) => (oelim (List.getD a.1.2.1 (Int.toNat a.1.2.2.2.1) none) none fun r1 => (oelim (cK40 r0 r1) none fun r2 => some (ilt 0 r2.1.1, ()))))) else some (false, ()))) none fun r3 => (oelim ((bif r3.1 then some ((a.1.1, (a.1.2.1, (a.1.2.2.2.1, (a.1.2.2.2.1, (List.getD a.1.2.1 (Int.toNat a.1.2.2.2.1) none, (a.1.2.2.2.2.2.1, ())))))), (a.2.1, ())) else some ((a.1.1, (a.1.2.1, (a.1.2.2.1, (a.1.2.2.2.1, (a.1.2.2.2.2.1, (a.1.2.2.2.2.2.1, ())))))), (a.2.1, ())))) none fun r4 => some (.inl ((r4.1.1, (r4.1.2.1, (r4.1.2.2.1, (iadd .i64 r4.1.2.2.2.1 1, (r4.1.2.2.2.2.1, (r4.1.2.2.2.2.2.1, ())))))), (r4.2.1, ()))))) else none) else (oelim (l1 ((a.1.1, a.1.2.2.1, a.1.2.2.2.2.1, a.1.2.2.2.2.2.1, a.1.2.1, ofN (List.length a.1.2.1), (0 : Int), ()), a.2)) none fun r5 => some (.inr ((r5.1.2.1, (r5.1.1, ())), ()))))
noncomputable def K46.F0 : K46.l0T := fun a => loopFix (1000000 + (a.1.1.length + a.1.2.1.length + a.1.2.2.2.2.2.1.length)) (K46.step0 K40 K47 K46.F1) a
noncomputable def K46.gen (cK40 : K40.T) (cK47 : K47.T) (l0 : K46.l0T) (l1 : K46.l1T) : K46.T := fun d0 listening ports =>
 (bif le3 (ofN 0) (opMinMax false (ofN (List.length ports)) 8) (List.length ports) then (bif ilt 0 (ofN (List.length (List.drop (Int.toNat (ofN 0)) (List.take (Int.toNat (opMinMax false (ofN (List.length ports)) 8)) ports)))) then (bif inR 0 (List.length (List.drop (Int.toNat (ofN 0)) (List.take (Int.toNat (opMinMax false (ofN (List.length ports)) 8)) ports))) then (oelim ((bif Option.isSome (List.getD (List.drop (Int.toNat (ofN 0)) (List.take (Int.toNat (opMinMax false (ofN (List.length ports)) 8)) ports)) (Int.toNat 0) none) then some (true, ()) else some (false, ()))) none fun r0 => (oelim ((bif r0.1 then some ((listening, (List.drop (Int.toNat (ofN 0)) (List.take (Int.toNat (opMinMax false (ofN (List.length ports)) 8)) ports), ((0 : Int), ((0 : Int), (List.getD (List.drop (Int.toNat (ofN 0)) (List.take (Int.toNat (opMinMax false (ofN (List.length ports)) 8)) ports)) (Int.toNat 0) none, (lnil Int, ())))))), (d0, ())) else some ((listening, (List.drop (Int.toNat (ofN 0)) (List.take (Int.toNat (opMinMax false (ofN (List.length ports)) 8)) ports), ((-1 : Int), ((0 : Int), (none, (lnil Int, ())))))), (d0, ())))) none fun r1 => (oelim (l0 ((r1.1.1, r1.1.2.1, r1.1.2.2.1, iadd .i64 r1.1.2.2.2.1 1, r1.1.2.2.2.2), r1.2)) none fun r2 => some ((r2.1.1, (r2.1.2.1, ())), ((), ()))))) else none) else (oelim (l1 ((listening, (-1 : Int), none, lnil Int, List.drop (Int.toNat (ofN 0)) (List.take (Int.toNat (opMinMax false (ofN (List.length ports)) 8)) ports), ofN (List.length (List.drop (Int.toNat (ofN 0)) (List.take (Int.toNat (opMinMax false (ofN (List.length ports)) 8)) ports))), (0 : Int), ()), d0, ())) none fun r3 => some ((r3.1.2.1, (r3.1.1, ())), ((), ())))) else none)
noncomputable def K46 : K46.T := K46.gen K40 K47 K46.F0 K46.F1
theorem K46.seq1 (cK40 : K40.T) (cK47 : K47.T) (l0 : K46.l0T) (l1 : K46.l1T) (a : K46.L1.T) : run Tryz.prog (K46.H cK40 cK47 l0 l1) 6 (Option (K46.L1.T ⊕ ExT K46.X1)) none K46.B1 (K46.L1.enc a) (loopK (0, 13) K46.L1 K46.X1) = K46.step1 cK40 cK47 a := by kernel_rfl
theorem K46.inner1 : loopsOf K46.B1 = ([] : List Code) := by kernel_rfl
noncomputable abbrev K46.h := K46.H K40 K47 K46.F0 K46.F1
theorem K46.lok1 : LoopOK U Tryz.prog K46.h.ro K46.h.base K46.B1 (loopN (0, 13) K46.L1 K46.X1 K46.F1) :=
 loopN_ok (Hn := K46.h) U_ok U_pure (run_ok (hints_of_loops U_ok U_pure mixed (addΓ_ok (addΓ_ok noΓ_ok K40.ok) K47.ok) loops_nil labels_nil (inl_none fun _ => rfl)) 6) (fun b h => by rw [K46.inner1] at h; exact h) (fun _ => rfl) (K46.seq1 K40 K47 K46.F0 K46.F1)
theorem K46.seq0 (cK40 : K40.T) (cK47 : K47.T) (l0 : K46.l0T) (l1 : K46.l1T) (a : K46.L0.T) : run Tryz.prog (K46.H cK40 cK47 l0 l1) 6 (Option (K46.L0.T ⊕ ExT K46.X0)) none K46.R0 (K46.L0.enc a) (labelK (0, 13) 0 K46.L0 K46.X0) = K46.step0 cK40 cK47 l1 a := by kernel_rfl
theorem K46.inner0 : loopsOf K46.R0 = [(.loop K46.B1)] := by kernel_rfl
theorem K46.lok0 : LabelOK U Tryz.prog K46.h.ro K46.h.base K46.B0 K46.R0 (loopN (0, 13) K46.L0 K46.X0 K46.F0) :=
 labelN_ok (Hn := K46.h) (lb := 0) U_ok U_pure (run_ok (hints_of_loops U_ok U_pure mixed (addΓ_ok (addΓ_ok noΓ_ok K40.ok) K47.ok) (loops_cons (by kernel_rfl) K46.lok1 loops_nil) (labels_skip labels_nil) (inl_none fun _ => rfl)) 6) (by kernel_rfl) (fun b h => by rw [K46.inner0] at h; exact h) (fun _ => rfl) (K46.seq0 K40 K47 K46.F0 K46.F1)
theorem K46.eq (cK40 : K40.T) (cK47 : K47.T) (l0 : K46.l0T) (l1 : K46.l1T) : EqA K46.sig (K46.H cK40 cK47 l0 l1) Tryz.f134 6 (K46.W (K46.gen cK40 cK47 l0 l1)) := by intro a x; kernel_rfl
theorem K46.loops : loopsOf K46.C = [(.scope K46.B0), (.loop K46.B1)] := by kernel_rfl
theorem K46.hints : HintsOK U Tryz.prog K46.h (fun c => c ∈ [(.scope K46.B0), (.loop K46.B1)]) := (hints_of_loops U_ok U_pure mixed (addΓ_ok (addΓ_ok noΓ_ok K40.ok) K47.ok) (loops_skip (loops_cons (by kernel_rfl) K46.lok1 loops_nil)) (labels_cons (label_one (r0 := K46.R0) (l0 := 0) (by kernel_rfl) (fun _ => rfl) K46.lok0) (labels_skip labels_nil)) (inl_none fun _ => rfl))
theorem K46.ok : NativeOK U Tryz.prog 134 (K46.sig.native (K46.W K46)) :=
 Sig.ok K46.sig (K46.W K46) U_pure (Hn := K46.h) (code := K46.C) (gos := 6) K46.hints Tryz.func134 (by kernel_rfl) (by kernel_rfl) (fun b h => by rw [K46.loops] at h; exact h) rfl rfl (by decide) (K46.eq K40 K47 K46.F0 K46.F1) (by decide)
noncomputable def K122.sig : Sig U := ⟨[.data .t_api_Vector, .data .t_api_Times], [], 0, [.data .t_api_Parent], false, []⟩
abbrev K122.T : Type := (api_Vector) → (api_Times) → Option ((api_Parent × Unit) × Unit × Unit)
noncomputable def K122.W (f : K122.T) : K122.sig.F := fun a x => f a.1 a.2.1
noncomputable def K122.H : Hints U := { Γ := noΓ, ro := 0, base := 13 }
noncomputable def K122.gen : K122.T := fun v t =>
 some ((api_Parent.mk v.fSender v.fGrand v.fQuality v.fPriority1 v.fPriority2 (iadd .i64 v.fSteps 1) t, ()), ((), ()))
noncomputable def K122 : K122.T := K122.gen
theorem K122.eq : EqA K122.sig (K122.H) Tryz.f136 6 (K122.W (K122.gen)) := by intro a x; kernel_rfl
theorem K122.hints : HintsOK U Tryz.prog (K122.H) (fun c => c ∈ ([] : List Code)) := (hq noΓ_ok loops_nil (fun _ => rfl) (fun _ => rfl))
theorem K122.ok : NativeOK U Tryz.prog 136 (K122.sig.native (K122.W K122)) :=
 Sig.ok K122.sig (K122.W (K122.gen)) U_pure (Hn := (K122.H)) (gos := 6) K122.hints Tryz.func136 rfl (by kernel_rfl) (fun b h => h) rfl rfl (by decide) (K122.eq) (by decide)
noncomputable def K92.sig : Sig U := ⟨[.int .i64, .int .i64, .bool, .bool], [], 0, [.int .i64], false, []⟩
abbrev K92.T : Type := (Int) → (Int) → (Bool) → (Bool) → Option ((Int × Unit) × Unit × Unit)
noncomputable def K92.W (f : K92.T) : K92.sig.F := fun a x => f a.1 a.2.1 a.2.2.1 a.2.2.2.1
noncomputable def K92.H (cK91 : K91.T) (cK93 : K93.T) : Hints U := { Γ := (addΓ 76 (K93.sig.native (K93.W cK93)) (addΓ 74 (K91.sig.native (K91.W cK91)) noΓ)), ro := 0, base := 13, joinQ := fun b => (bif Nat.beq b 1 then some [(19, vb_)] else (bif Nat.beq b 3 then some [(25, vb_)] else (bif Nat.beq b 14 then some [(42, vb_)] else none))) }
noncomputable def K92.gen (cK91 : K91.T) (cK93 : K93.T) : K92.T := fun state decision same slaveOnly =>
 (oelim ((oelim (cK91 state) none fun r0 => (bif !r0.1.1 then some (true, ()) else (bif ilt decision 1 then some (true, ()) else some (ilt 6 decision, ()))))) none fun r1 => (bif r1.1 then some ((state, ()), ((), ())) else (oelim ((bif slaveOnly then some (ine decision 6, ()) else some (false, ()))) none fun r2 => (bif r2.1 then some (((4 : Int), ()), ((), ())) else (bif ieq decision 4 then some (((7 : Int), ()), ((), ())) else (bif ieq decision 5 then some (((7 : Int), ()), ((), ())) else (bif ieq decision 3 then (bif ine state 6 then some (((5 : Int), ()), ((), ())) else some ((state, ()), ((), ()))) else (bif ieq decision 6 then (oelim ((bif same then (oelim (cK93 state) none fun r3 => some (r3.1.1, ())) else some (false, ()))) none fun r4 => (bif r4.1 then some ((state, ()), ((), ())) else some (((8 : Int), ()), ((), ())))) else some (((6 : Int), ()), ((), ()))))))))))
noncomputable def K92 : K92.T := K92.gen K91 K93
theorem K92.eq (cK91 : K91.T) (cK93 : K93.T) : EqA K92.sig (K92.H cK91 cK93) Tryz.f137 6 (K92.W (K92.gen cK91 cK93)) := by intro a x; kernel_rfl
noncomputable abbrev K92.h := K92.H K91 K93
theorem K92.hints : HintsOK U Tryz.prog K92.h (fun c => c ∈ ([] : List Code)) := (hq (addΓ_ok (addΓ_ok noΓ_ok K91.ok) K93.ok) loops_nil (fun _ => rfl) (fun _ => rfl))
theorem K92.ok : NativeOK U Tryz.prog 137 (K92.sig.native (K92.W K92)) :=
 Sig.ok K92.sig (K92.W K92) U_pure (Hn := K92.h) (gos := 6) K92.hints Tryz.func137 rfl (by kernel_rfl) (fun b h => h) rfl rfl (by decide) (K92.eq K91 K93) (by decide)
noncomputable def K100.sig : Sig U := ⟨[.ptr], [.obj .t_seq_Match], 0, [], true, []⟩
abbrev K100.T : Type := (seq_Match) → Option (Unit × (seq_Match × Unit) × Unit)
noncomputable def K100.W (f : K100.T) : K100.sig.F := fun a x => f x.1
noncomputable def K100.H : Hints U := { Γ := noΓ, ro := 0, base := 14 }
noncomputable def K100.gen : K100.T := fun h0 =>
 some ((), ((seq_Match.mk z2_ z2_ 0 false false, ()), ()))
noncomputable def K100 : K100.T := K100.gen
theorem K100.eq : EqA K100.sig (K100.H) Tryz.f164 6 (K100.W (K100.gen)) := by intro a x; kernel_rfl
theorem K100.hints : HintsOK U Tryz.prog (K100.H) (fun c => c ∈ ([] : List Code)) := (hq noΓ_ok loops_nil (fun _ => rfl) (fun _ => rfl))
theorem K100.ok : NativeOK U Tryz.prog 164 (K100.sig.native (K100.W K100)) :=
 Sig.ok K100.sig (K100.W (K100.gen)) U_pure (Hn := (K100.H)) (gos := 6) K100.hints Tryz.func164 rfl (by kernel_rfl) (fun b h => h) rfl rfl (by decide) (K100.eq) (by decide)
noncomputable def K49.sig : Sig U := ⟨[.ptr], [.obj .t_delay_Exchange], 0, [], true, []⟩
abbrev K49.T : Type := (delay_Exchange) → Option (Unit × (delay_Exchange × Unit) × Unit)
noncomputable def K49.W (f : K49.T) : K49.sig.F := fun a x => f x.1
noncomputable def K49.H : Hints U := { Γ := noΓ, ro := 0, base := 14 }
noncomputable def K49.gen : K49.T := fun h0 =>
 some ((), ((delay_Exchange.set_fr h0 (delay_request.mk 0 0 false false), ()), ()))
noncomputable def K49 : K49.T := K49.gen
theorem K49.eq : EqA K49.sig (K49.H) Tryz.f165 6 (K49.W (K49.gen)) := by intro a x; kernel_rfl
theorem K49.hints : HintsOK U Tryz.prog (K49.H) (fun c => c ∈ ([] : List Code)) := (hq noΓ_ok loops_nil (fun _ => rfl) (fun _ => rfl))
theorem K49.ok : NativeOK U Tryz.prog 165 (K49.sig.native (K49.W K49)) :=
 Sig.ok K49.sig (K49.W (K49.gen)) U_pure (Hn := (K49.H)) (gos := 6) K49.hints Tryz.func165 rfl (by kernel_rfl) (fun b h => h) rfl rfl (by decide) (K49.eq) (by decide)
noncomputable def K32.sig : Sig U := ⟨[.ptr, .bool], [.obj .t_clock_side, fm7_, fm10_], 0, [], true, []⟩
abbrev K32.T : Type := (Bool) → (clock_side) → (Fm delay_Exchange) → (Fm seq_Match) → Option (Unit × (clock_side × (Fm delay_Exchange) × (Fm seq_Match) × Unit) × Unit)
noncomputable def K32.W (f : K32.T) : K32.sig.F := fun a x => f a.2.1 x.1 x.2.1 x.2.2.1
noncomputable def K32.C : Code := match Tryz.f97.body with | some c => c | none => .skip
noncomputable def K32.B0 : Code := match (loopsOf K32.C).getD 0 .skip with | .loop b => b | .scope b => b | _ => .skip
noncomputable def K32.JR2 : Exits U := [(.normal, ⟨44, 14, [(0, .ptr 13 0 0), (1, vb_)], [(13, .obj .t_clock_side), (7, .famN false .t_delay_Exchange), (10, .famN false .t_seq_Match)]⟩)]
noncomputable def K32.JR1 : Exits U := [(.normal, ⟨44, 14, [(0, .ptr 13 0 0), (1, vb_)], [(13, .obj .t_clock_side), (7, .famN false .t_delay_Exchange), (10, .famN false .t_seq_Match)]⟩)]
noncomputable def K32.JR0 : Exits U := [(.normal, ⟨44, 14, [(0, .ptr 13 0 0), (1, vb_)], [(13, .obj .t_clock_side), (7, .famN false .t_delay_Exchange), (10, .famN false .t_seq_Match)]⟩)]
noncomputable def K32.U0 (cK100 : K100.T) (cK49 : K49.T) (cK112 : K112.T) : Hints U := { Γ := (addΓ 166 (K112.sig.native (K112.W cK112)) (addΓ 165 (K49.sig.native (K49.W cK49)) (addΓ 164 (K100.sig.native (K100.W cK100)) noΓ))), ro := 0, base := 14, joinR := fun b => (bif Nat.beq b 0 then some K32.JR0 else (bif Nat.beq b 1 then some K32.JR1 else (bif Nat.beq b 2 then some K32.JR2 else none))), loop := fun b => none }
noncomputable def K32.H (cK100 : K100.T) (cK49 : K49.T) (cK112 : K112.T) : Hints U := { Γ := (addΓ 166 (K112.sig.native (K112.W cK112)) (addΓ 165 (K49.sig.native (K49.W cK49)) (addΓ 164 (K100.sig.native (K100.W cK100)) noΓ))), ro := 0, base := 14, joinR := fun b => (bif Nat.beq b 0 then some K32.JR0 else (bif Nat.beq b 1 then some K32.JR1 else (bif Nat.beq b 2 then some K32.JR2 else none))), loop := fun b => (bif Nat.beq b 4 then some (unrollN Tryz.prog (K32.U0 cK100 cK49 cK112) 6 K32.B0 6) else none) }
noncomputable def K32.gen (cK100 : K100.T) (cK49 : K49.T) (cK112 : K112.T) : K32.T := fun ask h0 g7 g10 =>
 (oelim ((oelim (h0.12) none fun r0 => (oelim (cK100 (g10.2 r0)) none fun r1 => some ((ask, ()), (h0, (g7, ((g10.1, fset g10.2 r0 r1.2.1.1), ()))))))) none fun r2 => (oelim ((oelim (r2.2.1.13) none fun r3 => (oelim (cK49 (r2.2.2.1.2 r3)) none fun r4 => some ((r2.1.1, ()), (r2.2.1, ((r2.2.2.1.1, fset r2.2.2.1.2 r3 r4.2.1.1), (r2.2.2.2.1, ()))))))) none fun r5 => (oelim (cK112 r5.2.1.freceipt) none fun r6 => (oelim (cK112 r5.2.1.fqualify) none fun r7 => (oelim (cK112 r5.2.1.fannounce) none fun r8 => (oelim (cK112 r5.2.1.fsync) none fun r9 => (bif r5.1.1 then (oelim (cK112 r5.2.1.fask) none fun r10 => some ((), ((clock_side.set_fdiff (clock_side.set_fask (clock_side.set_fsync (clock_side.set_fannounce (clock_side.set_fqualify (clock_side.set_freceipt r5.2.1 r6.2.1.1) r7.2.1.1) r8.2.1.1) r9.2.1.1) r10.2.1.1) z4_, (r5.2.2.1, (r5.2.2.2.1, ()))), ()))) else some ((), ((clock_side.set_fdiff (clock_side.set_fsync (clock_side.set_fannounce (clock_side.set_fqualify (clock_side.set_freceipt r5.2.1 r6.2.1.1) r7.2.1.1) r8.2.1.1) r9.2.1.1) z4_, (r5.2.2.1, (r5.2.2.2.1, ()))), ())))))))))
noncomputable def K32 : K32.T := K32.gen K100 K49 K112
theorem K32.inner0 : loopsOf K32.B0 = [] := by kernel_rfl
noncomputable abbrev K32.h := K32.H K100 K49 K112
theorem K32.lok0 : LoopOK U Tryz.prog K32.h.ro K32.h.base K32.B0 (unrollN Tryz.prog (K32.U0 K100 K49 K112) 6 K32.B0 6) :=
 unrollN_ok (Hn := (K32.U0 K100 K49 K112)) (L := fun c => c ∈ ([] : List Code)) (hq (addΓ_ok (addΓ_ok (addΓ_ok noΓ_ok K100.ok) K49.ok) K112.ok) loops_nil (fun _ => rfl) (fun _ => rfl)) (fun b h => by rw [K32.inner0] at h; exact h) 6
theorem K32.eq (cK100 : K100.T) (cK49 : K49.T) (cK112 : K112.T) : EqA K32.sig (K32.H cK100 cK49 cK112) Tryz.f97 6 (K32.W (K32.gen cK100 cK49 cK112)) := by intro a x; kernel_rfl
theorem K32.loops : loopsOf K32.C = [(.loop K32.B0)] := by kernel_rfl
theorem K32.hints : HintsOK U Tryz.prog K32.h (fun c => c ∈ [(.loop K32.B0)]) := (hq (addΓ_ok (addΓ_ok (addΓ_ok noΓ_ok K100.ok) K49.ok) K112.ok) (loops_cons (by kernel_rfl) K32.lok0 loops_nil) (fun _ => rfl) (fun _ => rfl))
theorem K32.ok : NativeOK U Tryz.prog 97 (K32.sig.native (K32.W K32)) :=
 Sig.ok K32.sig (K32.W K32) U_pure (Hn := K32.h) (code := K32.C) (gos := 6) K32.hints Tryz.func97 (by kernel_rfl) (by kernel_rfl) (fun b h => by rw [K32.loops] at h; exact h) rfl rfl (by decide) (K32.eq K100 K49 K112) (by decide)
noncomputable def K14.sig : Sig U := ⟨[.ptr, .eptr 0 23 42 8, .data .t_api_Parent], [.obj .t_clock_Clock], 0, [], true, []⟩
abbrev K14.T : Type := (Nat) → (api_Parent) → (clock_Clock) → Option (Unit × (clock_Clock × Unit) × Unit)
noncomputable def K14.W (f : K14.T) : K14.sig.F := fun a x => f a.2.1 a.2.2.1 x.1
noncomputable def K14.JR8 : Exits U := [(.normal, ⟨48, 14, [], [(13, .obj .t_clock_Clock)]⟩)]
noncomputable def K14.JR7 : Exits U := [(.normal, ⟨48, 14, [], [(13, .obj .t_clock_Clock)]⟩)]
noncomputable def K14.JC10 : Exits U := [(.normal, ⟨48, 14, [(0, .ptr 13 0 0), (1, .aptr 13 23 42 8 0)], [(13, .obj .t_clock_Clock)]⟩)]
noncomputable def K14.JC6 : Exits U := [(.normal, ⟨48, 14, [(0, .ptr 13 0 0), (1, .aptr 13 23 42 8 0), (16, vb_)], [(13, .obj .t_clock_Clock)]⟩)]
noncomputable def K14.H (cK18 : K18.T) (cK13 : K13.T) (cK111 : K111.T) (cK24 : K24.T) : Hints U := { Γ := (addΓ 127 (K24.sig.native (K24.W cK24)) (addΓ 126 (K111.sig.native (K111.W cK111)) (addΓ 70 (K13.sig.native (K13.W cK13)) (addΓ 131 (K18.sig.native (K18.W cK18)) noΓ)))), ro := 0, base := 14, joinR := fun b => (bif Nat.beq b 7 then some K14.JR7 else (bif Nat.beq b 8 then some K14.JR8 else none)), joinC := fun b => (bif Nat.beq b 6 then some K14.JC6 else (bif Nat.beq b 10 then some K14.JC10 else none)) }
noncomputable def K14.gen (cK18 : K18.T) (cK13 : K13.T) (cK111 : K111.T) (cK24 : K24.T) : K14.T := fun p parent h0 =>
 (bif ieq (h0.fports p).fstate 6 then (oelim ((oelim (cK18 p h0) none fun r0 => some ((), (r0.2.1.1, ())))) none fun r1 => some ((), ((r1.2.1, ()), ()))) else (bif ieq (h0.fports p).fstate 5 then (oelim ((oelim (cK13 h0) none fun r2 => (oelim (cK111 (imul .i64 (iadd .i64 parent.fSteps 1) r2.1.1) (h0.fports p).fqualify) none fun r3 => some ((), (clock_Clock.set_fports h0 (fset h0.fports p (clock_side.set_fqualify (h0.fports p) r3.2.1.1)), ()))))) none fun r4 => some ((), ((r4.2.1, ()), ()))) else (bif ieq (h0.fports p).fstate 8 then (oelim ((bif !h0.fconf.fPeer then (oelim (cK111 1 (h0.fports p).fask) none fun r5 => some ((p, ()), (clock_Clock.set_fports h0 (fset h0.fports p (clock_side.set_fask (h0.fports p) r5.2.1.1)), ()))) else some ((p, ()), (h0, ())))) none fun r6 => (oelim (cK24 r6.2.1) none fun r7 => (oelim (cK111 r7.1.1 (r6.2.1.fports r6.1.1).freceipt) none fun r8 => some ((), ((clock_Clock.set_fports r6.2.1 (fset r6.2.1.fports r6.1.1 (clock_side.set_freceipt (r6.2.1.fports r6.1.1) r8.2.1.1)), ()), ()))))) else (oelim ((bif ieq (h0.fports p).fstate 7 then some ((p, (ieq (h0.fports p).fstate 7, ())), (h0, ())) else some ((p, (ieq (h0.fports p).fstate 4, ())), (h0, ())))) none fun r9 => (bif r9.1.2.1 then (oelim (cK24 r9.2.1) none fun r10 => (oelim (cK111 r10.1.1 (r9.2.1.fports r9.1.1).freceipt) none fun r11 => some ((), ((clock_Clock.set_fports r9.2.1 (fset r9.2.1.fports r9.1.1 (clock_side.set_freceipt (r9.2.1.fports r9.1.1) r11.2.1.1)), ()), ())))) else some ((), ((r9.2.1, ()), ())))))))
noncomputable def K14 : K14.T := K14.gen K18 K13 K111 K24
theorem K14.eq (cK18 : K18.T) (cK13 : K13.T) (cK111 : K111.T) (cK24 : K24.T) : EqA K14.sig (K14.H cK18 cK13 cK111 cK24) Tryz.f138 6 (K14.W (K14.gen cK18 cK13 cK111 cK24)) := by intro a x; kernel_rfl
noncomputable abbrev K14.h := K14.H K18 K13 K111 K24
theorem K14.hints : HintsOK U Tryz.prog K14.h (fun c => c ∈ ([] : List Code)) := (hq (addΓ_ok (addΓ_ok (addΓ_ok (addΓ_ok noΓ_ok K18.ok) K13.ok) K111.ok) K24.ok) loops_nil (fun _ => rfl) (fun _ => rfl))
theorem K14.ok : NativeOK U Tryz.prog 138 (K14.sig.native (K14.W K14)) :=
 Sig.ok K14.sig (K14.W K14) U_pure (Hn := K14.h) (gos := 6) K14.hints Tryz.func138 rfl (by kernel_rfl) (fun b h => h) rfl rfl (by decide) (K14.eq K18 K13 K111 K24) (by decide)
noncomputable def K79.sig : Sig U := ⟨[.ptr], [.obj .t_median_Filter], 0, [], true, []⟩
abbrev K79.T : Type := (median_Filter) → Option (Unit × (median_Filter × Unit) × Unit)
noncomputable def K79.W (f : K79.T) : K79.sig.F := fun a x => f x.1
noncomputable def K79.H : Hints U := { Γ := noΓ, ro := 0, base := 14 }
noncomputable def K79.gen : K79.T := fun h0 =>
 some ((), ((median_Filter.set_fn h0 0, ()), ()))
noncomputable def K79 : K79.T := K79.gen
theorem K79.eq : EqA K79.sig (K79.H) Tryz.f139 6 (K79.W (K79.gen)) := by intro a x; kernel_rfl
theorem K79.hints : HintsOK U Tryz.prog (K79.H) (fun c => c ∈ ([] : List Code)) := (hq noΓ_ok loops_nil (fun _ => rfl) (fun _ => rfl))
theorem K79.ok : NativeOK U Tryz.prog 139 (K79.sig.native (K79.W K79)) :=
 Sig.ok K79.sig (K79.W (K79.gen)) U_pure (Hn := (K79.H)) (gos := 6) K79.hints Tryz.func139 rfl (by kernel_rfl) (fun b h => h) rfl rfl (by decide) (K79.eq) (by decide)
noncomputable def K17.sig : Sig U := ⟨[.ptr], [.obj .t_clock_Clock, fm6_, fm7_, fm9_, fm10_], 0, [], true, []⟩
abbrev K17.T : Type := (clock_Clock) → (Fm foreign_Table) → (Fm delay_Exchange) → (Fm median_Filter) → (Fm seq_Match) → Option (Unit × (clock_Clock × (Fm foreign_Table) × (Fm delay_Exchange) × (Fm median_Filter) × (Fm seq_Match) × Unit) × Unit)
noncomputable def K17.W (f : K17.T) : K17.sig.F := fun a x => f x.1 x.2.1 x.2.2.1 x.2.2.2.1 x.2.2.2.2.1
noncomputable def K17.L0 : Shape U := ⟨200, 17, [(0, .ptr 13 0 0), (2, .ptr 14 0 0), (3, .ptr 15 0 0), (4, .ptr 16 0 0), (5, .asl 13 23 42 8), (30, vi_), (31, vi_)], [(13, .obj .t_clock_Clock), (14, .famZ .t_foreign_Record), (15, .famN true .p_t_api_Vector), (16, .famN true .bool), (6, .famN false .t_foreign_Table), (7, .famN false .t_delay_Exchange), (9, .famN false .t_median_Filter), (10, .famN false .t_seq_Match)]⟩
noncomputable def K17.X0 : Exits U := [(.exit 0, ⟨200, 17, [(0, .ptr 13 0 0), (2, .ptr 14 0 0), (3, .ptr 15 0 0), (4, .ptr 16 0 0), (5, .asl 13 23 42 8)], [(13, .obj .t_clock_Clock), (14, .famZ .t_foreign_Record), (15, .famN true .p_t_api_Vector), (16, .famN true .bool), (6, .famN false .t_foreign_Table), (7, .famN false .t_delay_Exchange), (9, .famN false .t_median_Filter), (10, .famN false .t_seq_Match)]⟩)]
abbrev K17.l0T : Type := (((Nat × Nat) × Int × Int × Unit) × (clock_Clock × (Nat × Nat × (Nat → foreign_Record)) × (Nat × (Nat → Option (api_Vector))) × (Fm Bool) × (Fm foreign_Table) × (Fm delay_Exchange) × (Fm median_Filter) × (Fm seq_Match) × Unit)) → Option ((((Nat × Nat) × Unit) × (clock_Clock × (Nat × Nat × (Nat → foreign_Record)) × (Nat × (Nat → Option (api_Vector))) × (Fm Bool) × (Fm foreign_Table) × (Fm delay_Exchange) × (Fm median_Filter) × (Fm seq_Match) × Unit)))
noncomputable def K17.L1 : Shape U := ⟨200, 16, [(0, .ptr 13 0 0), (2, .ptr 14 0 0), (5, .asl 13 23 42 8), (10, .val (.isl .int)), (12, .ptr 15 0 0), (92, .val (.isl .int)), (93, vi_), (94, vi_)], [(13, .obj .t_clock_Clock), (14, .famZ .t_foreign_Record), (15, .obj .t_api_Parent), (6, .famN false .t_foreign_Table), (7, .famN false .t_delay_Exchange), (9, .famN false .t_median_Filter), (10, .famN false .t_seq_Match)]⟩
noncomputable def K17.X1 : Exits U := [(.exit 2, ⟨200, 15, [(0, .ptr 13 0 0), (5, .asl 13 23 42 8), (10, .val (.isl .int)), (12, .ptr 14 0 0)], [(13, .obj .t_clock_Clock), (14, .obj .t_api_Parent), (6, .famN false .t_foreign_Table), (7, .famN false .t_delay_Exchange), (9, .famN false .t_median_Filter), (10, .famN false .t_seq_Match)]⟩)]
abbrev K17.l1T : Type := (((Nat × Nat) × (List (Int)) × (List (Int)) × Int × Int × Unit) × (clock_Clock × (Nat × Nat × (Nat → foreign_Record)) × api_Parent × (Fm foreign_Table) × (Fm delay_Exchange) × (Fm median_Filter) × (Fm seq_Match) × Unit)) → Option ((((Nat × Nat) × (List (Int)) × Unit) × (clock_Clock × api_Parent × (Fm foreign_Table) × (Fm delay_Exchange) × (Fm median_Filter) × (Fm seq_Match) × Unit)))
noncomputable def K17.L2 : Shape U := ⟨200, 15, [(0, .ptr 13 0 0), (5, .asl 13 23 42 8), (12, .ptr 14 0 0), (15, vb_), (119, .val (.isl .int)), (120, vi_), (121, vi_)], [(13, .obj .t_clock_Clock), (14, .obj .t_api_Parent), (6, .famN false .t_foreign_Table), (7, .famN false .t_delay_Exchange), (9, .famN false .t_median_Filter), (10, .famN false .t_seq_Match)]⟩
noncomputable def K17.X2 : Exits U := [(.exit 4, ⟨200, 15, [(0, .ptr 13 0 0), (12, .ptr 14 0 0), (15, vb_)], [(13, .obj .t_clock_Clock), (14, .obj .t_api_Parent), (6, .famN false .t_foreign_Table), (7, .famN false .t_delay_Exchange), (9, .famN false .t_median_Filter), (10, .famN false .t_seq_Match)]⟩)]
abbrev K17.l2T : Type := (((Nat × Nat) × Bool × (List (Int)) × Int × Int × Unit) × (clock_Clock × api_Parent × (Fm foreign_Table) × (Fm delay_Exchange) × (Fm median_Filter) × (Fm seq_Match) × Unit)) → Option (((Bool × Unit) × (clock_Clock × api_Parent × (Fm foreign_Table) × (Fm delay_Exchange) × (Fm median_Filter) × (Fm seq_Match) × Unit)))
noncomputable def K17.C : Code := match Tryz.f71.body with | some c => c | none => .skip
noncomputable def K17.B0 : Code := match (loopsOf K17.C).getD 0 .skip with | .loop b => b | .scope b => b | _ => .skip
noncomputable def K17.B1 : Code := match (loopsOf K17.C).getD 1 .skip with | .loop b => b | .scope b => b | _ => .skip
noncomputable def K17.B2 : Code := match (loopsOf K17.C).getD 2 .skip with | .loop b => b | .scope b => b | _ => .skip
noncomputable def K17.JR35 : Exits U := [(.normal, ⟨200, 15, [(0, .ptr 13 0 0), (12, .ptr 14 0 0)], [(13, .obj .t_clock_Clock), (14, .obj .t_api_Parent), (6, .famN false .t_foreign_Table), (7, .famN false .t_delay_Exchange), (9, .famN false .t_median_Filter), (10, .famN false .t_seq_Match)]⟩)]
noncomputable def K17.JR31 : Exits U := [(.normal, ⟨200, 15, [(0, .ptr 13 0 0), (5, .asl 13 23 42 8), (12, .ptr 14 0 0), (15, vb_), (18, .aptr 13 23 42 8 0), (119, .val (.isl .int)), (120, vi_), (121, vi_)], [(13, .obj .t_clock_Clock), (14, .obj .t_api_Parent), (6, .famN false .t_foreign_Table), (7, .famN false .t_delay_Exchange), (9, .famN false .t_median_Filter), (10, .famN false .t_seq_Match)]⟩)]
noncomputable def K17.JR29 : Exits U := [(.normal, ⟨200, 15, [(0, .ptr 13 0 0), (5, .asl 13 23 42 8), (12, .ptr 14 0 0), (15, vb_), (17, vi_), (18, .aptr 13 23 42 8 0), (19, vi_), (119, .val (.isl .int)), (120, vi_), (121, vi_)], [(13, .obj .t_clock_Clock), (14, .obj .t_api_Parent), (6, .famN false .t_foreign_Table), (7, .famN false .t_delay_Exchange), (9, .famN false .t_median_Filter), (10, .famN false .t_seq_Match)]⟩)]
noncomputable def K17.JR15 : Exits U := [(.normal, ⟨200, 16, [(0, .ptr 13 0 0), (2, .ptr 14 0 0), (5, .asl 13 23 42 8), (10, .val (.isl .int)), (12, .ptr 15 0 0)], [(13, .obj .t_clock_Clock), (14, .famZ .t_foreign_Record), (15, .obj .t_api_Parent), (6, .famN false .t_foreign_Table), (7, .famN false .t_delay_Exchange), (9, .famN false .t_median_Filter), (10, .famN false .t_seq_Match)]⟩)]
noncomputable def K17.JR10 : Exits U := [(.normal, ⟨200, 17, [(0, .ptr 13 0 0), (2, .ptr 14 0 0), (3, .ptr 15 0 0), (4, .ptr 16 0 0), (5, .asl 13 23 42 8), (6, vi_), (9, vb_), (30, vi_), (31, vi_)], [(13, .obj .t_clock_Clock), (14, .famZ .t_foreign_Record), (15, .famN true .p_t_api_Vector), (16, .famN true .bool), (6, .famN false .t_foreign_Table), (7, .famN false .t_delay_Exchange), (9, .famN false .t_median_Filter), (10, .famN false .t_seq_Match)]⟩)]
noncomputable def K17.JR9 : Exits U := [(.normal, ⟨200, 18, [(0, .ptr 13 0 0), (2, .ptr 14 0 0), (3, .ptr 15 0 0), (4, .ptr 16 0 0), (5, .asl 13 23 42 8), (6, vi_), (7, .aptr 13 23 42 8 0), (8, .ptr 17 0 0), (9, vb_), (30, vi_), (31, vi_)], [(13, .obj .t_clock_Clock), (14, .famZ .t_foreign_Record), (15, .famN true .p_t_api_Vector), (16, .famN true .bool), (17, .obj .t_foreign_Record), (6, .famN false .t_foreign_Table), (7, .famN false .t_delay_Exchange), (9, .famN false .t_median_Filter), (10, .famN false .t_seq_Match)]⟩)]
noncomputable def K17.JC35 : Exits U := [(.normal, ⟨200, 15, [(0, .ptr 13 0 0), (12, .ptr 14 0 0)], [(13, .obj .t_clock_Clock), (14, .obj .t_api_Parent), (6, .famN false .t_foreign_Table), (7, .famN false .t_delay_Exchange), (9, .famN false .t_median_Filter), (10, .famN false .t_seq_Match)]⟩)]
noncomputable def K17.JC31 : Exits U := [(.normal, ⟨200, 15, [(0, .ptr 13 0 0), (5, .asl 13 23 42 8), (12, .ptr 14 0 0), (15, vb_), (119, .val (.isl .int)), (120, vi_), (121, vi_)], [(13, .obj .t_clock_Clock), (14, .obj .t_api_Parent), (6, .famN false .t_foreign_Table), (7, .famN false .t_delay_Exchange), (9, .famN false .t_median_Filter), (10, .famN false .t_seq_Match)]⟩)]
noncomputable def K17.JC20 : Exits U := [(.normal, ⟨200, 16, [(0, .ptr 13 0 0), (2, .ptr 14 0 0), (5, .asl 13 23 42 8), (10, .val (.isl .int)), (12, .ptr 15 0 0), (92, .val (.isl .int)), (93, vi_), (94, vi_)], [(13, .obj .t_clock_Clock), (14, .famZ .t_foreign_Record), (15, .obj .t_api_Parent), (6, .famN false .t_foreign_Table), (7, .famN false .t_delay_Exchange), (9, .famN false .t_median_Filter), (10, .famN false .t_seq_Match)]⟩)]
noncomputable def K17.JC12 : Exits U := [(.normal, ⟨200, 17, [(0, .ptr 13 0 0), (2, .ptr 14 0 0), (3, .ptr 15 0 0), (4, .ptr 16 0 0), (5, .asl 13 23 42 8), (30, vi_), (31, vi_)], [(13, .obj .t_clock_Clock), (14, .famZ .t_foreign_Record), (15, .famN true .p_t_api_Vector), (16, .famN true .bool), (6, .famN false .t_foreign_Table), (7, .famN false .t_delay_Exchange), (9, .famN false .t_median_Filter), (10, .famN false .t_seq_Match)]⟩)]
noncomputable def K17.H (cK91 : K91.T) (cK54 : K54.T) (cK42 : K42.T) (cK46 : K46.T) (cK123 : K123.T) (cK122 : K122.T) (cK92 : K92.T) (cK32 : K32.T) (cK14 : K14.T) (cK79 : K79.T) (l0 : K17.l0T) (l1 : K17.l1T) (l2 : K17.l2T) : Hints U := { Γ := (addΓ 139 (K79.sig.native (K79.W cK79)) (addΓ 138 (K14.sig.native (K14.W cK14)) (addΓ 97 (K32.sig.native (K32.W cK32)) (addΓ 137 (K92.sig.native (K92.W cK92)) (addΓ 136 (K122.sig.native (K122.W cK122)) (addΓ 88 (K123.sig.native (K123.W cK123)) (addΓ 134 (K46.sig.native (K46.W cK46)) (addΓ 135 (K42.sig.native (K42.W cK42)) (addΓ 133 (K54.sig.native (K54.W cK54)) (addΓ 74 (K91.sig.native (K91.W cK91)) (addΓ 3000000228 noNat (addΓ 3000000227 noNat (addΓ 4000000213 noNat noΓ))))))))))))), ro := 0, base := 14, joinQ := fun b => (bif Nat.beq b 30 then some [(171, vb_)] else none), joinR := fun b => (bif Nat.beq b 9 then some K17.JR9 else (bif Nat.beq b 10 then some K17.JR10 else (bif Nat.beq b 15 then some K17.JR15 else (bif Nat.beq b 29 then some K17.JR29 else (bif Nat.beq b 31 then some K17.JR31 else (bif Nat.beq b 35 then some K17.JR35 else none)))))), joinC := fun b => (bif Nat.beq b 12 then some K17.JC12 else (bif Nat.beq b 20 then some K17.JC20 else (bif Nat.beq b 31 then some K17.JC31 else (bif Nat.beq b 35 then some K17.JC35 else none)))), loop := fun b => (bif Nat.beq b 5 then some (loopN (0, 14) K17.L0 K17.X0 l0) else (bif Nat.beq b 17 then some (loopN (0, 14) K17.L1 K17.X1 l1) else (bif Nat.beq b 24 then some (loopN (0, 14) K17.L2 K17.X2 l2) else none))) }
noncomputable def K17.step2 (cK91 : K91.T) (cK54 : K54.T) (cK42 : K42.T) (cK46 : K46.T) (cK123 : K123.T) (cK122 : K122.T) (cK92 : K92.T) (cK32 : K32.T) (cK14 : K14.T) (cK79 : K79.T) (a : ((Nat × Nat) × Bool × (List (Int)) × Int × Int × Unit) × (clock_Clock × api_Parent × (Fm foreign_Table) × (Fm delay_Exchange) × (Fm median_Filter) × (Fm seq_Match) × Unit)) : Option ((((Nat × Nat) × Bool × (List (Int)) × Int × Int × Unit) × (clock_Clock × api_Parent × (Fm foreign_Table) × (Fm delay_Exchange) × (Fm median_Filter) × (Fm seq_Match) × Unit)) ⊕ (((Bool × Unit) × (clock_Clock × api_Parent × (Fm foreign_Table) × (Fm delay_Exchange) × (Fm median_Filter) × (Fm seq_Match) × Unit)))) :=
 (bif ilt a.1.2.2.2.2.1 a.1.2.2.2.1 then (bif inR a.1.2.2.2.2.1 (List.length a.1.2.2.1) then (bif inR a.1.2.2.2.2.1 a.1.1.2 then (oelim (cK91 (a.2.1.fports (a.1.1.1 + Int.toNat a.1.2.2.2.2.1)).fstate) none fun r0 => (bif !r0.1.1 then some (.inl ((a.1.1, (a.1.2.1, (a.1.2.2.1, (a.1.2.2.2.1, (iadd .i64 a.1.2.2.2.2.1 1, ()))))), (a.2.1, (a.2.2.1, (a.2.2.2.1, (a.2.2.2.2.1, (a.2.2.2.2.2.1, (a.2.2.2.2.2.2.1, ())))))))) else (oelim ((oelim (cK92 (a.2.1.fports (a.1.1.1 + Int.toNat a.1.2.2.2.2.1)).fstate (List.getD a.1.2.2.1 (Int.toNat a.1.2.2.2.2.1) (0 : D UC.int)) a.1.2.1 a.2.1.fconf.fSlaveOnly) none fun r1 => some ((a.1.1, (a.1.2.1, (List.getD a.1.2.2.1 (Int.toNat a.1.2.2.2.2.1) (0 : D UC.int), (a.1.1.1 + Int.toNat a.1.2.2.2.2.1, ((a.2.1.fports (a.1.1.1 + Int.toNat a.1.2.2.2.2.1)).fstate, (a.1.2.2.1, (a.1.2.2.2.1, (a.1.2.2.2.2.1, ())))))))), (clock_Clock.set_fports a.2.1 (fset a.2.1.fports (a.1.1.1 + Int.toNat a.1.2.2.2.2.1) (clock_side.set_fstate (a.2.1.fports (a.1.1.1 + Int.toNat a.1.2.2.2.2.1)) r1.1.1)), (a.2.2.1, (a.2.2.2.1, (a.2.2.2.2.1, (a.2.2.2.2.2.1, (a.2.2.2.2.2.2.1, ()))))))))) none fun r2 => (oelim ((bif ine (r2.2.1.fports r2.1.2.2.2.1).fstate r2.1.2.2.2.2.1 then some (true, ()) else (bif ieq (r2.2.1.fports r2.1.2.2.2.1).fstate 8 then (bif ieq r2.1.2.2.1 6 then some (!r2.1.2.1, ()) else some (false, ())) else some (false, ())))) none fun r3 => (oelim ((bif r3.1 then (oelim ((oelim (cK32 (!r2.2.1.fconf.fPeer) (r2.2.1.fports r2.1.2.2.2.1) r2.2.2.2.2.1 r2.2.2.2.2.2.2.1) none fun r4 => some ((r2.1.1, (r2.1.2.1, (r2.1.2.2.2.1, (r2.1.2.2.2.2.2.1, (r2.1.2.2.2.2.2.2.1, (r2.1.2.2.2.2.2.2.2.1, ())))))), (clock_Clock.set_fports r2.2.1 (fset r2.2.1.fports r2.1.2.2.2.1 r4.2.1.1), (r2.2.2.1, (r2.2.2.2.1, (r4.2.1.2.1, (r2.2.2.2.2.2.1, (r4.2.1.2.2.1, ()))))))))) none fun r5 => (oelim (cK14 r5.1.2.2.1 r5.2.2.1 r5.2.1) none fun r6 => some ((r5.1.1, (r5.1.2.1, (r5.1.2.2.2.1, (r5.1.2.2.2.2.1, (r5.1.2.2.2.2.2.1, ()))))), (r6.2.1.1, (r5.2.2.1, (r5.2.2.2.1, (r5.2.2.2.2.1, (r5.2.2.2.2.2.1, (r5.2.2.2.2.2.2.1, ()))))))))) else some ((r2.1.1, (r2.1.2.1, (r2.1.2.2.2.2.2.1, (r2.1.2.2.2.2.2.2.1, (r2.1.2.2.2.2.2.2.2.1, ()))))), (r2.2.1, (r2.2.2.1, (r2.2.2.2.1, (r2.2.2.2.2.1, (r2.2.2.2.2.2.1, (r2.2.2.2.2.2.2.1, ()))))))))) none fun r7 => some (.inl ((r7.1.1, (r7.1.2.1, (r7.1.2.2.1, (r7.1.2.2.2.1, (iadd .i64 r7.1.2.2.2.2.1 1, ()))))), (r7.2.1, (r7.2.2.1, (r7.2.2.2.1, (r7.2.2.2.2.1, (r7.2.2.2.2.2.1, (r7.2.2.2.2.2.2.1, ()))))))))))))) else none) else none) else some (.inr ((a.1.2.1, ()), (a.2.1, (a.2.2.1, (a.2.2.2.1, (a.2.2.2.2.1, (a.2.2.2.2.2.1, (a.2.2.2.2.2.2.1, ())))))))))
noncomputable def K17.F2 : K17.l2T := fun a => loopFix (1000000 + (a.1.1.2 + a.1.2.2.1.length)) (K17.step2 K91 K54 K42 K46 K123 K122 K92 K32 K14 K79) a
noncomputable def K17.step1 (cK91 : K91.T) (cK54 : K54.T) (cK42 : K42.T) (cK46 : K46.T) (cK123 : K123.T) (cK122 : K122.T) (cK92 : K92.T) (cK32 : K32.T) (cK14 : K14.T) (cK79 : K79.T) (a : ((Nat × Nat) × (List (Int)) × (List (Int)) × Int × Int × Unit) × (clock_Clock × (Nat × Nat × (Nat → foreign_Record)) × api_Parent × (Fm foreign_Table) × (Fm delay_Exchange) × (Fm median_Filter) × (Fm seq_Match) × Unit)) : Option ((((Nat × Nat) × (List (Int)) × (List (Int)) × Int × Int × Unit) × (clock_Clock × (Nat × Nat × (Nat → foreign_Record)) × api_Parent × (Fm foreign_Table) × (Fm delay_Exchange) × (Fm median_Filter) × (Fm seq_Match) × Unit)) ⊕ ((((Nat × Nat) × (List (Int)) × Unit) × (clock_Clock × api_Parent × (Fm foreign_Table) × (Fm delay_Exchange) × (Fm median_Filter) × (Fm seq_Match) × Unit)))) :=
 (bif ilt a.1.2.2.2.2.1 a.1.2.2.2.1 then (bif inR a.1.2.2.2.2.1 (List.length a.1.2.2.1) then (oelim ((bif ieq (List.getD a.1.2.2.1 (Int.toNat a.1.2.2.2.2.1) (0 : D UC.int)) 6 then (bif bif inR a.1.2.2.2.2.1 8 then inR a.1.2.2.2.2.1 a.2.2.1.1 else false then (bif bif inR a.1.2.2.2.2.1 8 then inR a.1.2.2.2.2.1 a.2.2.1.1 else false then (oelim (cK122 (a.2.2.1.2.2 (Int.toNat a.1.2.2.2.2.1)).fVector (a.2.2.1.2.2 (Int.toNat a.1.2.2.2.2.1)).fTimes) none fun r0 => some ((a.1.1, (a.1.2.1, (a.1.2.2.1, (a.1.2.2.2.1, (a.1.2.2.2.2.1, ()))))), (a.2.1, (a.2.2.1, (r0.1.1, (a.2.2.2.2.1, (a.2.2.2.2.2.1, (a.2.2.2.2.2.2.1, (a.2.2.2.2.2.2.2.1, ()))))))))) else none) else none) else some ((a.1.1, (a.1.2.1, (a.1.2.2.1, (a.1.2.2.2.1, (a.1.2.2.2.2.1, ()))))), (a.2.1, (a.2.2.1, (a.2.2.2.1, (a.2.2.2.2.1, (a.2.2.2.2.2.1, (a.2.2.2.2.2.2.1, (a.2.2.2.2.2.2.2.1, ())))))))))) none fun r1 => some (.inl ((r1.1.1, (r1.1.2.1, (r1.1.2.2.1, (r1.1.2.2.2.1, (iadd .i64 r1.1.2.2.2.2.1 1, ()))))), (r1.2.1, (r1.2.2.1, (r1.2.2.2.1, (r1.2.2.2.2.1, (r1.2.2.2.2.2.1, (r1.2.2.2.2.2.2.1, (r1.2.2.2.2.2.2.2.1, ())))))))))) else none) else some (.inr ((a.1.1, (a.1.2.1, ())), (a.2.1, (a.2.2.2.1, (a.2.2.2.2.1, (a.2.2.2.2.2.1, (a.2.2.2.2.2.2.1, (a.2.2.2.2.2.2.2.1, ())))))))))
noncomputable def K17.F1 : K17.l1T := fun a => loopFix (1000000 + (a.1.1.2 + a.1.2.1.length + a.1.2.2.1.length)) (K17.step1 K91 K54 K42 K46 K123 K122 K92 K32 K14 K79) a
noncomputable def K17.step0 (cK91 : K91.T) (cK54 : K54.T) (cK42 : K42.T) (cK46 : K46.T) (cK123 : K123.T) (cK122 : K122.T) (cK92 : K92.T) (cK32 : K32.T) (cK14 : K14.T) (cK79 : K79.T) (a : ((Nat × Nat) × Int × Int × Unit) × (clock_Clock × (Nat × Nat × (Nat → foreign_Record)) × (Nat × (Nat → Option (api_Vector))) × (Fm Bool) × (Fm foreign_Table) × (Fm delay_Exchange) × (Fm median_Filter) × (Fm seq_Match) × Unit)) : Option ((((Nat × Nat) × Int × Int × Unit) × (clock_Clock × (Nat × Nat × (Nat → foreign_Record)) × (Nat × (Nat → Option (api_Vector))) × (Fm Bool) × (Fm foreign_Table) × (Fm delay_Exchange) × (Fm median_Filter) × (Fm seq_Match) × Unit)) ⊕ ((((Nat × Nat) × Unit) × (clock_Clock × (Nat × Nat × (Nat → foreign_Record)) × (Nat × (Nat → Option (api_Vector))) × (Fm Bool) × (Fm foreign_Table) × (Fm delay_Exchange) × (Fm median_Filter) × (Fm seq_Match) × Unit)))) :=
 (bif ilt a.1.2.2.1 a.1.2.1 then (bif inR a.1.2.2.1 a.1.1.2 then (oelim (cK91 (a.2.1.fports (a.1.1.1 + Int.toNat a.1.2.2.1)).fstate) none fun r0 => (bif !r0.1.1 then some (.inl ((a.1.1, (a.1.2.1, (iadd .i64 a.1.2.2.1 1, ()))), (a.2.1, (a.2.2.1, (a.2.2.2.1, (a.2.2.2.2.1, (a.2.2.2.2.2.1, (a.2.2.2.2.2.2.1, (a.2.2.2.2.2.2.2.1, (a.2.2.2.2.2.2.2.2.1, ())))))))))) else (oelim ((oelim ((a.2.1.fports (a.1.1.1 + Int.toNat a.1.2.2.1)).2) none fun r1 => (oelim (cK54 a.2.1.fticks (a.2.2.2.2.2.1.2 r1)) none fun r2 => some ((a.1.1, (a.1.2.2.1, (a.1.1.1 + Int.toNat a.1.2.2.1, (r2.1.2.1, (a.1.2.1, (a.1.2.2.1, ())))))), (a.2.1, (a.2.2.1, (a.2.2.2.1, (a.2.2.2.2.1, (r2.1.1, (a.2.2.2.2.2.1, (a.2.2.2.2.2.2.1, (a.2.2.2.2.2.2.2.1, (a.2.2.2.2.2.2.2.2.1, ()))))))))))))) none fun r3 => (oelim ((bif bif inR r3.1.2.1 8 then inR r3.1.2.1 r3.2.2.1.1 else false then (bif Nat.ble r3.2.2.1.2.1 (Int.toNat r3.1.2.1) then (bif bif inR r3.1.2.1 8 then inR r3.1.2.1 r3.2.2.2.2.1.1 else false then some ((r3.1.1, (r3.1.2.1, (r3.1.2.2.2.1, (r3.1.2.2.2.2.1, (r3.1.2.2.2.2.2.1, ()))))), (r3.2.1, ((r3.2.2.1.1, (r3.2.2.1.2.1, fset r3.2.2.1.2.2 (Int.toNat r3.1.2.1) r3.2.2.2.2.2.1)), (r3.2.2.2.1, ((r3.2.2.2.2.1.1, fset r3.2.2.2.2.1.2 (Int.toNat r3.1.2.1) (ieq (r3.2.1.fports r3.1.2.2.1).fstate 4)), (r3.2.2.2.2.2.2.1, (r3.2.2.2.2.2.2.2.1, (r3.2.2.2.2.2.2.2.2.1, (r3.2.2.2.2.2.2.2.2.2.1, ()))))))))) else none) else none) else none)) none fun r4 => (oelim ((bif r4.1.2.2.1 then (bif bif inR r4.1.2.1 8 then inR r4.1.2.1 r4.2.2.1.1 else false then (bif bif inR r4.1.2.1 8 then inR r4.1.2.1 r4.2.2.2.1.1 else false then some ((r4.1.1, (r4.1.2.2.2.1, (r4.1.2.2.2.2.1, ()))), (r4.2.1, ((r4.2.2.1.1, (Nat.max r4.2.2.1.2.1 (Int.toNat r4.1.2.1 + 1), r4.2.2.1.2.2)), ((r4.2.2.2.1.1, fset r4.2.2.2.1.2 (Int.toNat r4.1.2.1) (some (r4.2.2.1.2.2 (Int.toNat r4.1.2.1)).fVector)), (r4.2.2.2.2.1, (r4.2.2.2.2.2.1, (r4.2.2.2.2.2.2.1, (r4.2.2.2.2.2.2.2.1, (r4.2.2.2.2.2.2.2.2.1, ()))))))))) else none) else none) else some ((r4.1.1, (r4.1.2.2.2.1, (r4.1.2.2.2.2.1, ()))), (r4.2.1, (r4.2.2.1, (r4.2.2.2.1, (r4.2.2.2.2.1, (r4.2.2.2.2.2.1, (r4.2.2.2.2.2.2.1, (r4.2.2.2.2.2.2.2.1, (r4.2.2.2.2.2.2.2.2.1, ()))))))))))) none fun r5 => some (.inl ((r5.1.1, (r5.1.2.1, (iadd .i64 r5.1.2.2.1 1, ()))), (r5.2.1, (r5.2.2.1, (r5.2.2.2.1, (r5.2.2.2.2.1, (r5.2.2.2.2.2.1, (r5.2.2.2.2.2.2.1, (r5.2.2.2.2.2.2.2.1, (r5.2.2.2.2.2.2.2.2.1, ()))))))))))))))) else none) else some (.inr ((a.1.1, ()), (a.2.1, (a.2.2.1, (a.2.2.2.1, (a.2.2.2.2.1, (a.2.2.2.2.2.1, (a.2.2.2.2.2.2.1, (a.2.2.2.2.2.2.2.1, (a.2.2.2.2.2.2.2.2.1, ())))))))))))
noncomputable def K17.F0 : K17.l0T := fun a => loopFix (1000000 + (a.1.1.2)) (K17.step0 K91 K54 K42 K46 K123 K122 K92 K32 K14 K79) a
noncomputable def K17.gen (cK91 : K91.T) (cK54 : K54.T) (cK42 : K42.T) (cK46 : K46.T) (cK123 : K123.T) (cK122 : K122.T) (cK92 : K92.T) (cK32 : K32.T) (cK14 : K14.T) (cK79 : K79.T) (l0 : K17.l0T) (l1 : K17.l1T) (l2 : K17.l2T) : K17.T := fun h0 g6 g7 g9 g10 =>
 (bif le3 (ofN 0) h0.fconf.fPorts 8 then (oelim (l0 (((Int.toNat (ofN 0), Int.toNat h0.fconf.fPorts - Int.toNat (ofN 0)), ofN (Int.toNat h0.fconf.fPorts - Int.toNat (ofN 0)), (0 : Int), ()), h0, (8, 0, fun (j : Nat) => List.getD (foreign_Record.mk z5_ z6_ 0 0 0 :: foreign_Record.mk z5_ z6_ 0 0 0 :: foreign_Record.mk z5_ z6_ 0 0 0 :: foreign_Record.mk z5_ z6_ 0 0 0 :: foreign_Record.mk z5_ z6_ 0 0 0 :: foreign_Record.mk z5_ z6_ 0 0 0 :: foreign_Record.mk z5_ z6_ 0 0 0 :: foreign_Record.mk z5_ z6_ 0 0 0 :: lnil foreign_Record) j foreign_Record.zero), (8, fun (j : Nat) => List.getD (none :: none :: none :: none :: none :: none :: none :: none :: lnil (Option api_Vector)) j none), (8, fun (j : Nat) => List.getD (false :: false :: false :: false :: false :: false :: false :: false :: lnil Bool) j false), g6, g7, g9, g10, ())) none fun r0 => (oelim (cK42 r0.2.1.fconf) none fun r1 => (bif bif le3 0 (ofN r0.1.1.2) 8 then le3 0 (ofN r0.1.1.2) r0.2.2.2.2.1.1 else false then (bif bif le3 0 (ofN r0.1.1.2) 8 then le3 0 (ofN r0.1.1.2) r0.2.2.2.1.1 else false then (oelim (cK46 r1.1.1 (List.map r0.2.2.2.2.1.2 (List.range (Int.toNat (ofN r0.1.1.2)))) (List.map r0.2.2.2.1.2 (List.range (Int.toNat (ofN r0.1.1.2))))) none fun r2 => (oelim ((oelim (cK123 r0.2.1.fconf) none fun r3 => some ((r0.1.1, (r2.1.1, ())), (r0.2.1, (r0.2.2.1, (r3.1.1, (r0.2.2.2.2.2.1, (r0.2.2.2.2.2.2.1, (r0.2.2.2.2.2.2.2.1, (r0.2.2.2.2.2.2.2.2.1, ())))))))))) none fun r4 => (oelim (l1 ((r4.1.1, r4.1.2.1, r4.1.2.1, ofN (List.length r4.1.2.1), (0 : Int), ()), r4.2)) none fun r5 => (oelim (l2 ((r5.1.1, bif ieq r5.2.2.1.fPort.fClock r5.2.1.fparent.fPort.fClock then bif ieq r5.2.2.1.fPort.fPort r5.2.1.fparent.fPort.fPort then true else false else false, r5.1.2.1, ofN (List.length r5.1.2.1), (0 : Int), ()), r5.2)) none fun r6 => (oelim ((bif !r6.1.1 then (oelim ((oelim (r6.2.1.6) none fun r7 => (oelim (cK79 (r6.2.2.2.2.2.1.2 r7)) none fun r8 => some ((), (r6.2.1, (r6.2.2.1, (r6.2.2.2.1, (r6.2.2.2.2.1, ((r6.2.2.2.2.2.1.1, fset r6.2.2.2.2.2.1.2 r7 r8.2.1.1), (r6.2.2.2.2.2.2.1, ())))))))))) none fun r9 => some ((), (clock_Clock.set_fdelay r9.2.1 z4_, (r9.2.2.1, (r9.2.2.2.1, (r9.2.2.2.2.1, (r9.2.2.2.2.2.1, (r9.2.2.2.2.2.2.1, ())))))))) else some ((), (r6.2.1, (r6.2.2.1, (r6.2.2.2.1, (r6.2.2.2.2.1, (r6.2.2.2.2.2.1, (r6.2.2.2.2.2.2.1, ()))))))))) none fun r10 => some ((), ((clock_Clock.set_fparent r10.2.1 r10.2.2.1, (r10.2.2.2.1, (r10.2.2.2.2.1, (r10.2.2.2.2.2.1, (r10.2.2.2.2.2.2.1, ()))))), ()))))))) else none) else none))) else none)
noncomputable def K17 : K17.T := K17.gen K91 K54 K42 K46 K123 K122 K92 K32 K14 K79 K17.F0 K17.F1 K17.F2
theorem K17.seq2 (cK91 : K91.T) (cK54 : K54.T) (cK42 : K42.T) (cK46 : K46.T) (cK123 : K123.T) (cK122 : K122.T) (cK92 : K92.T) (cK32 : K32.T) (cK14 : K14.T) (cK79 : K79.T) (l0 : K17.l0T) (l1 : K17.l1T) (l2 : K17.l2T) (a : K17.L2.T) : run Tryz.prog (K17.H cK91 cK54 cK42 cK46 cK123 cK122 cK92 cK32 cK14 cK79 l0 l1 l2) 6 (Option (K17.L2.T ⊕ ExT K17.X2)) none K17.B2 (K17.L2.enc a) (loopK (0, 14) K17.L2 K17.X2) = K17.step2 cK91 cK54 cK42 cK46 cK123 cK122 cK92 cK32 cK14 cK79 a := by kernel_rfl
theorem K17.inner2 : loopsOf K17.B2 = ([] : List Code) := by kernel_rfl
noncomputable abbrev K17.h := K17.H K91 K54 K42 K46 K123 K122 K92 K32 K14 K79 K17.F0 K17.F1 K17.F2
theorem K17.lok2 : LoopOK U Tryz.prog K17.h.ro K17.h.base K17.B2 (loopN (0, 14) K17.L2 K17.X2 K17.F2) :=
 loopN_ok (Hn := K17.h) U_ok U_pure (run_ok (hq (addΓ_ok (addΓ_ok (addΓ_ok (addΓ_ok (addΓ_ok (addΓ_ok (addΓ_ok (addΓ_ok (addΓ_ok (addΓ_ok (addΓ_ok (addΓ_ok (addΓ_ok noΓ_ok noNat_ok) noNat_ok) noNat_ok) K91.ok) K54.ok) K42.ok) K46.ok) K123.ok) K122.ok) K92.ok) K32.ok) K14.ok) K79.ok) loops_nil (fun _ => rfl) (fun _ => rfl)) 6) (fun b h => by rw [K17.inner2] at h; exact h) (fun _ => rfl) (K17.seq2 K91 K54 K42 K46 K123 K122 K92 K32 K14 K79 K17.F0 K17.F1 K17.F2)
theorem K17.seq1 (cK91 : K91.T) (cK54 : K54.T) (cK42 : K42.T) (cK46 : K46.T) (cK123 : K123.T) (cK122 : K122.T) (cK92 : K92.T) (cK32 : K32.T) (cK14 : K14.T) (cK79 : K79.T) (l0 : K17.l0T) (l1 : K17.l1T) (l2 : K17.l2T) (a : K17.L1.T) : run Tryz.prog (K17.H cK91 cK54 cK42 cK46 cK123 cK122 cK92 cK32 cK14 cK79 l0 l1 l2) 6 (Option (K17.L1.T ⊕ ExT K17.X1)) none K17.B1 (K17.L1.enc a) (loopK (0, 14) K17.L1 K17.X1) = K17.step1 cK91 cK54 cK42 cK46 cK123 cK122 cK92 cK32 cK14 cK79 a := by kernel_rfl
theorem K17.inner1 : loopsOf K17.B1 = ([] : List Code) := by kernel_rfl
theorem K17.lok1 : LoopOK U Tryz.prog K17.h.ro K17.h.base K17.B1 (loopN (0, 14) K17.L1 K17.X1 K17.F1) :=
 loopN_ok (Hn := K17.h) U_ok U_pure (run_ok (hq (addΓ_ok (addΓ_ok (addΓ_ok (addΓ_ok (addΓ_ok (addΓ_ok (addΓ_ok (addΓ_ok (addΓ_ok (addΓ_ok (addΓ_ok (addΓ_ok (addΓ_ok noΓ_ok noNat_ok) noNat_ok) noNat_ok) K91.ok) K54.ok) K42.ok) K46.ok) K123.ok) K122.ok) K92.ok) K32.ok) K14.ok) K79.ok) loops_nil (fun _ => rfl) (fun _ => rfl)) 6) (fun b h => by rw [K17.inner1] at h; exact h) (fun _ => rfl) (K17.seq1 K91 K54 K42 K46 K123 K122 K92 K32 K14 K79 K17.F0 K17.F1 K17.F2)
theorem K17.seq0 (cK91 : K91.T) (cK54 : K54.T) (cK42 : K42.T) (cK46 : K46.T) (cK123 : K123.T) (cK122 : K122.T) (cK92 : K92.T) (cK32 : K32.T) (cK14 : K14.T) (cK79 : K79.T) (l0 : K17.l0T) (l1 : K17.l1T) (l2 : K17.l2T) (a : K17.L0.T) : run Tryz.prog (K17.H cK91 cK54 cK42 cK46 cK123 cK122 cK92 cK32 cK14 cK79 l0 l1 l2) 6 (Option (K17.L0.T ⊕ ExT K17.X0)) none K17.B0 (K17.L0.enc a) (loopK (0, 14) K17.L0 K17.X0) = K17.step0 cK91 cK54 cK42 cK46 cK123 cK122 cK92 cK32 cK14 cK79 a := by kernel_rfl
theorem K17.inner0 : loopsOf K17.B0 = ([] : List Code) := by kernel_rfl
theorem K17.lok0 : LoopOK U Tryz.prog K17.h.ro K17.h.base K17.B0 (loopN (0, 14) K17.L0 K17.X0 K17.F0) :=
 loopN_ok (Hn := K17.h) U_ok U_pure (run_ok (hq (addΓ_ok (addΓ_ok (addΓ_ok (addΓ_ok (addΓ_ok (addΓ_ok (addΓ_ok (addΓ_ok (addΓ_ok (addΓ_ok (addΓ_ok (addΓ_ok (addΓ_ok noΓ_ok noNat_ok) noNat_ok) noNat_ok) K91.ok) K54.ok) K42.ok) K46.ok) K123.ok) K122.ok) K92.ok) K32.ok) K14.ok) K79.ok) loops_nil (fun _ => rfl) (fun _ => rfl)) 6) (fun b h => by rw [K17.inner0] at h; exact h) (fun _ => rfl) (K17.seq0 K91 K54 K42 K46 K123 K122 K92 K32 K14 K79 K17.F0 K17.F1 K17.F2)
theorem K17.eq (cK91 : K91.T) (cK54 : K54.T) (cK42 : K42.T) (cK46 : K46.T) (cK123 : K123.T) (cK122 : K122.T) (cK92 : K92.T) (cK32 : K32.T) (cK14 : K14.T) (cK79 : K79.T) (l0 : K17.l0T) (l1 : K17.l1T) (l2 : K17.l2T) : EqA K17.sig (K17.H cK91 cK54 cK42 cK46 cK123 cK122 cK92 cK32 cK14 cK79 l0 l1 l2) Tryz.f71 6 (K17.W (K17.gen cK91 cK54 cK42 cK46 cK123 cK122 cK92 cK32 cK14 cK79 l0 l1 l2)) := by intro a x; kernel_rfl
theorem K17.loops : loopsOf K17.C = [(.loop K17.B0), (.loop K17.B1), (.loop K17.B2)] := by kernel_rfl
theorem K17.hints : HintsOK U Tryz.prog K17.h (fun c => c ∈ [(.loop K17.B0), (.loop K17.B1), (.loop K17.B2)]) := (hq (addΓ_ok (addΓ_ok (addΓ_ok (addΓ_ok (addΓ_ok (addΓ_ok (addΓ_ok (addΓ_ok (addΓ_ok (addΓ_ok (addΓ_ok (addΓ_ok (addΓ_ok noΓ_ok noNat_ok) noNat_ok) noNat_ok) K91.ok) K54.ok) K42.ok) K46.ok) K123.ok) K122.ok) K92.ok) K32.ok) K14.ok) K79.ok) (loops_cons (by kernel_rfl) K17.lok0 (loops_cons (by kernel_rfl) K17.lok1 (loops_cons (by kernel_rfl) K17.lok2 loops_nil))) (fun _ => rfl) (fun _ => rfl))
theorem K17.ok : NativeOK U Tryz.prog 71 (K17.sig.native (K17.W K17)) :=
 Sig.ok K17.sig (K17.W K17) U_pure (Hn := K17.h) (code := K17.C) (gos := 6) K17.hints Tryz.func71 (by kernel_rfl) (by kernel_rfl) (fun b h => by rw [K17.loops] at h; exact h) rfl rfl (by decide) (K17.eq K91 K54 K42 K46 K123 K122 K92 K32 K14 K79 K17.F0 K17.F1 K17.F2) (by decide)
noncomputable def K124.sig : Sig U := ⟨[.data .t_api_Conf, .data .t_api_Parent, .int .i64, .int .i64], [], 0, [.data .t_api_Msg], false, []⟩
abbrev K124.T : Type := (api_Conf) → (api_Parent) → (Int) → (Int) → Option ((api_Msg × Unit) × Unit × Unit)
noncomputable def K124.W (f : K124.T) : K124.sig.F := fun a x => f a.1 a.2.1 a.2.2.1 a.2.2.2.1
noncomputable def K124.H : Hints U := { Γ := noΓ, ro := 0, base := 13 }
noncomputable def K124.gen : K124.T := fun c p port seq =>
 some ((api_Msg.mk 11 c.fDomain p.fTimes.fFlags 0 (api_PortID.mk c.fClock port) seq c.fLogAnn 0 z0_ p.fTimes.fUtc p.fPriority1 p.fQuality p.fPriority2 p.fGrand p.fSteps p.fTimes.fOrigin 0 0 0, ()), ((), ()))
noncomputable def K124 : K124.T := K124.gen
theorem K124.eq : EqA K124.sig (K124.H) Tryz.f140 6 (K124.W (K124.gen)) := by intro a x; kernel_rfl
theorem K124.hints : HintsOK U Tryz.prog (K124.H) (fun c => c ∈ ([] : List Code)) := (hq noΓ_ok loops_nil (fun _ => rfl) (fun _ => rfl))
theorem K124.ok : NativeOK U Tryz.prog 140 (K124.sig.native (K124.W K124)) :=
 Sig.ok K124.sig (K124.W (K124.gen)) U_pure (Hn := (K124.H)) (gos := 6) K124.hints Tryz.func140 rfl (by kernel_rfl) (fun b h => h) rfl rfl (by decide) (K124.eq) (by decide)
noncomputable def K83.sig : Sig U := ⟨[.isl .u8, .int .i64, .int .i64], [], 0, [.own .u8], false, [.tok]⟩
abbrev K83.T : Type := (List (UInt8)) → (Int) → (Int) → Option (((List (UInt8)) × Unit) × Unit × (Unit × Unit))
noncomputable def K83.W (f : K83.T) : K83.sig.F := fun a x => f a.1 a.2.1 a.2.2.1
noncomputable def K83.L0 : Shape U := ⟨30, 14, [(0, .own .u8 13), (1, vi_), (7, vi_)], [(13, .tok)]⟩
noncomputable def K83.X0 : Exits U := [(.ret, ⟨30, 14, [(6, .own .u8 13)], [(13, .tok)]⟩)]
abbrev K83.l0T : Type := (((List (UInt8)) × Int × Int × Unit) × Unit) → Option ((((List (UInt8)) × Unit) × Unit))
noncomputable def K83.C : Code := match Tryz.f100.body with | some c => c | none => .skip
noncomputable def K83.B0 : Code := match (loopsOf K83.C).getD 0 .skip with | .loop b => b | .scope b => b | _ => .skip
noncomputable def K83.R0 : Code := (findLabel K83.B0 0).getD .skip
noncomputable def K83.H (l0 : K83.l0T) : Hints U := { Γ := (addΓ 6000000029 noNat noΓ), ro := 0, base := 13, label := fun b => bif Nat.beq b 0 then some (loopN (0, 13) K83.L0 K83.X0 l0) else none, gotos := 3, loop := fun b => none }
noncomputable def K83.step0 (a : ((List (UInt8)) × Int × Int × Unit) × Unit) : Option ((((List (UInt8)) × Int × Int × Unit) × Unit) ⊕ ((((List (UInt8)) × Unit) × Unit))) :=
 (bif ilt 0 a.1.2.2.1 then (bif ile 0 (imul .i64 8 (isub .i64 a.1.2.2.1 1)) then (bif room (List.length a.1.1 + List.length (UInt8.ofNat (Int.toNat (IntKind.wrap .u8 (ishr .i64 a.1.2.1 (imul .i64 8 (isub .i64 a.1.2.2.1 1))))) :: lnil UInt8)) 1 then some (.inl ((a.1.1 ++ UInt8.ofNat (Int.toNat (IntKind.wrap .u8 (ishr .i64 a.1.2.1 (imul .i64 8 (isub .i64 a.1.2.2.1 1))))) :: lnil UInt8, (a.1.2.1, (isub .i64 a.1.2.2.1 1, ()))), ())) else none) else none) else some (.inr ((a.1.1, ()), ())))
noncomputable def K83.F0 : K83.l0T := fun a => loopFix (1000000 + (a.1.1.length)) (K83.step0) a
noncomputable def K83.gen (l0 : K83.l0T) : K83.T := fun b v n =>
 (bif bif le3 (ofN 0) (ofN (List.length b)) (List.length b) then ieq (ofN (List.length b)) (ofN (List.length b)) else false then (bif ilt 0 (opMinMax true 0 (opMinMax false n 8)) then (bif ile 0 (imul .i64 8 (isub .i64 (opMinMax true 0 (opMinMax false n 8)) 1)) then (bif room (List.length (List.drop (Int.toNat (ofN 0)) (List.take (Int.toNat (ofN (List.length b))) b)) + List.length (UInt8.ofNat (Int.toNat (IntKind.wrap .u8 (ishr .i64 v (imul .i64 8 (isub .i64 (opMinMax true 0 (opMinMax false n 8)) 1))))) :: lnil UInt8)) 1 then (oelim (l0 ((List.drop (Int.toNat (ofN 0)) (List.take (Int.toNat (ofN (List.length b))) b) ++ UInt8.ofNat (Int.toNat (IntKind.wrap .u8 (ishr .i64 v (imul .i64 8 (isub .i64 (opMinMax true 0 (opMinMax false n 8)) 1))))) :: lnil UInt8, v, isub .i64 (opMinMax true 0 (opMinMax false n 8)) 1, ()), ())) none fun r0 => some ((r0.1.1, ()), ((), ((), ())))) else none) else none) else some ((List.drop (Int.toNat (ofN 0)) (List.take (Int.toNat (ofN (List.length b))) b), ()), ((), ((), ())))) else none)
noncomputable def K83 : K83.T := K83.gen K83.F0
theorem K83.seq0 (l0 : K83.l0T) (a : K83.L0.T) : run Tryz.prog (K83.H l0) 6 (Option (K83.L0.T ⊕ ExT K83.X0)) none K83.R0 (K83.L0.enc a) (labelK (0, 13) 0 K83.L0 K83.X0) = K83.step0 a := by kernel_rfl
theorem K83.inner0 : loopsOf K83.R0 = ([] : List Code) := by kernel_rfl
noncomputable abbrev K83.h := K83.H K83.F0
theorem K83.lok0 : LabelOK U Tryz.prog K83.h.ro K83.h.base K83.B0 K83.R0 (loopN (0, 13) K83.L0 K83.X0 K83.F0) :=
 labelN_ok (Hn := K83.h) (lb := 0) U_ok U_pure (run_ok (hints_of_loops U_ok U_pure mixed (addΓ_ok noΓ_ok noNat_ok) loops_nil labels_nil (inl_none fun _ => rfl)) 6) (by kernel_rfl) (fun b h => by rw [K83.inner0] at h; exact h) (fun _ => rfl) (K83.seq0 K83.F0)
theorem K83.eq (l0 : K83.l0T) : EqA K83.sig (K83.H l0) Tryz.f100 6 (K83.W (K83.gen l0)) := by intro a x; kernel_rfl
theorem K83.loops : loopsOf K83.C = [(.scope K83.B0)] := by kernel_rfl
theorem K83.hints : HintsOK U Tryz.prog K83.h (fun c => c ∈ [(.scope K83.B0)]) := (hints_of_loops U_ok U_pure mixed (addΓ_ok noΓ_ok noNat_ok) (loops_skip loops_nil) (labels_cons (label_one (r0 := K83.R0) (l0 := 0) (by kernel_rfl) (fun _ => rfl) K83.lok0) labels_nil) (inl_none fun _ => rfl))
theorem K83.ok : NativeOK U Tryz.prog 100 (K83.sig.native (K83.W K83)) :=
 Sig.ok K83.sig (K83.W K83) U_pure (Hn := K83.h) (code := K83.C) (gos := 6) K83.hints Tryz.func100 (by kernel_rfl) (by kernel_rfl) (fun b h => by rw [K83.loops] at h; exact h) rfl rfl (by decide) (K83.eq K83.F0) (by decide)
noncomputable def K84.sig : Sig U := ⟨[.isl .u8, .int .u64], [], 0, [.isl .u8], false, []⟩
abbrev K84.T : Type := (List (UInt8)) → (Int) → Option (((List (UInt8)) × Unit) × Unit × Unit)
noncomputable def K84.W (f : K84.T) : K84.sig.F := fun a x => f a.1 a.2.1
noncomputable def K84.H (cK83 : K83.T) : Hints U := { Γ := (addΓ 100 (K83.sig.native (K83.W cK83)) noΓ), ro := 0, base := 13 }
noncomputable def K84.gen (cK83 : K83.T) : K84.T := fun b v =>
 (oelim (cK83 b (IntKind.wrap .i64 v) 8) none fun r0 => some ((r0.1.1, ()), ((), ())))
noncomputable def K84 : K84.T := K84.gen K83
theorem K84.eq (cK83 : K83.T) : EqA K84.sig (K84.H cK83) Tryz.f116 6 (K84.W (K84.gen cK83)) := by intro a x; kernel_rfl
noncomputable abbrev K84.h := K84.H K83
theorem K84.hints : HintsOK U Tryz.prog K84.h (fun c => c ∈ ([] : List Code)) := (hq (addΓ_ok noΓ_ok K83.ok) loops_nil (fun _ => rfl) (fun _ => rfl))
theorem K84.ok : NativeOK U Tryz.prog 116 (K84.sig.native (K84.W K84)) :=
 Sig.ok K84.sig (K84.W K84) U_pure (Hn := K84.h) (gos := 6) K84.hints Tryz.func116 rfl (by kernel_rfl) (fun b h => h) rfl rfl (by decide) (K84.eq K83) (by decide)
noncomputable def K118.sig : Sig U := ⟨[.isl .u64], [], 0, [.data .t_api_Tlv, .bool], true, []⟩
abbrev K118.T : Type := (List (Int)) → Option ((api_Tlv × Bool × Unit) × Unit × Unit)
noncomputable def K118.W (f : K118.T) : K118.sig.F := fun a x => f a.1
noncomputable def K118.L0 : Shape U := ⟨24, 14, [(2, .ptr 13 0 0), (4, .val (.isl .u8)), (11, .val (.isl .u64)), (12, vi_), (13, vi_)], [(13, .obj .t_api_Tlv)]⟩
noncomputable def K118.X0 : Exits U := [(.exit 0, ⟨24, 14, [(2, .ptr 13 0 0), (4, .val (.isl .u8))], [(13, .obj .t_api_Tlv)]⟩)]
abbrev K118.l0T : Type := (((List (UInt8)) × (List (Int)) × Int × Int × Unit) × (api_Tlv × Unit)) → Option ((((List (UInt8)) × Unit) × (api_Tlv × Unit)))
noncomputable def K118.C : Code := match Tryz.f180.body with | some c => c | none => .skip
noncomputable def K118.B0 : Code := match (loopsOf K118.C).getD 0 .skip with | .loop b => b | .scope b => b | _ => .skip
noncomputable def K118.H (cK84 : K84.T) (l0 : K118.l0T) : Hints U := { Γ := (addΓ 116 (K84.sig.native (K84.W cK84)) noΓ), ro := 0, base := 13, loop := fun b => (bif Nat.beq b 5 then some (loopN (0, 13) K118.L0 K118.X0 l0) else none) }
noncomputable def K118.step0 (cK84 : K84.T) (a : ((List (UInt8)) × (List (Int)) × Int × Int × Unit) × (api_Tlv × Unit)) : Option ((((List (UInt8)) × (List (Int)) × Int × Int × Unit) × (api_Tlv × Unit)) ⊕ ((((List (UInt8)) × Unit) × (api_Tlv × Unit)))) :=
 (bif ilt a.1.2.2.2.1 a.1.2.2.1 then (bif inR a.1.2.2.2.1 (List.length a.1.2.1) then (oelim (cK84 a.1.1 (List.getD a.1.2.1 (Int.toNat a.1.2.2.2.1) (0 : D UC.u64))) none fun r0 => some (.inl ((r0.1.1, (a.1.2.1, (a.1.2.2.1, (iadd .i64 a.1.2.2.2.1 1, ())))), (a.2.1, ())))) else none) else some (.inr ((a.1.1, ()), (a.2.1, ()))))
noncomputable def K118.F0 : K118.l0T := fun a => loopFix (1000000 + (a.1.1.length + a.1.2.1.length)) (K118.step0 K84) a
noncomputable def K118.gen (cK84 : K84.T) (l0 : K118.l0T) : K118.T := fun l =>
 (bif ilt 16 (ofN (List.length l)) then some ((api_Tlv.mk 0 (ByteArray.mk (List.toArray (lnil UInt8))), (false, ())), ((), ())) else (oelim (l0 ((lnil UInt8, l, ofN (List.length l), (0 : Int), ()), api_Tlv.mk 0 (ByteArray.mk (List.toArray (lnil UInt8))), ())) none fun r0 => some ((api_Tlv.mk 8 (ByteArray.mk (List.toArray r0.1.1)), (true, ())), ((), ()))))
noncomputable def K118 : K118.T := K118.gen K84 K118.F0
theorem K118.seq0 (cK84 : K84.T) (l0 : K118.l0T) (a : K118.L0.T) : run Tryz.prog (K118.H cK84 l0) 6 (Option (K118.L0.T ⊕ ExT K118.X0)) none K118.B0 (K118.L0.enc a) (loopK (0, 13) K118.L0 K118.X0) = K118.step0 cK84 a := by kernel_rfl
theorem K118.inner0 : loopsOf K118.B0 = ([] : List Code) := by kernel_rfl
noncomputable abbrev K118.h := K118.H K84 K118.F0
theorem K118.lok0 : LoopOK U Tryz.prog K118.h.ro K118.h.base K118.B0 (loopN (0, 13) K118.L0 K118.X0 K118.F0) :=
 loopN_ok (Hn := K118.h) U_ok U_pure (run_ok (hq (addΓ_ok noΓ_ok K84.ok) loops_nil (fun _ => rfl) (fun _ => rfl)) 6) (fun b h => by rw [K118.inner0] at h; exact h) (fun _ => rfl) (K118.seq0 K84 K118.F0)
theorem K118.eq (cK84 : K84.T) (l0 : K118.l0T) : EqA K118.sig (K118.H cK84 l0) Tryz.f180 6 (K118.W (K118.gen cK84 l0)) := by intro a x; kernel_rfl
theorem K118.loops : loopsOf K118.C = [(.loop K118.B0)] := by kernel_rfl
theorem K118.hints : HintsOK U Tryz.prog K118.h (fun c => c ∈ [(.loop K118.B0)]) := (hq (addΓ_ok noΓ_ok K84.ok) (loops_cons (by kernel_rfl) K118.lok0 loops_nil) (fun _ => rfl) (fun _ => rfl))
theorem K118.ok : NativeOK U Tryz.prog 180 (K118.sig.native (K118.W K118)) :=
 Sig.ok K118.sig (K118.W K118) U_pure (Hn := K118.h) (code := K118.C) (gos := 6) K118.hints Tryz.func180 (by kernel_rfl) (by kernel_rfl) (fun b h => by rw [K118.loops] at h; exact h) rfl rfl (by decide) (K118.eq K84 K118.F0) (by decide)
noncomputable def K23.sig : Sig U := ⟨[.ptr], [.obj .t_clock_Clock, .fam 12 (.map true false .t_api_PortID .l_u64)], 2, [.isl .t_api_Tlv], false, []⟩
abbrev K23.T : Type := (clock_Clock) → (Nat × (Nat → List (api_PortID × List (Int)))) → Option (((List (api_Tlv)) × Unit) × Unit × Unit)
noncomputable def K23.W (f : K23.T) : K23.sig.F := fun a x => f x.1 x.2.1
noncomputable def K23.L1 : Shape U := ⟨65, 14, [(0, .ptr 13 0 0), (3, .full .u64), (24, vi_), (25, vi_)], [(13, .obj .t_clock_Clock), (12, .mfam true false .t_api_PortID .l_u64)]⟩
noncomputable def K23.X1 : Exits U := [(.exit 0, ⟨65, 15, [(0, .ptr 13 0 0), (3, .own .u64 14)], [(13, .obj .t_clock_Clock), (14, .tok), (12, .mfam true false .t_api_PortID .l_u64)]⟩)]
abbrev K23.l1T : Type := (((List (Int)) × Int × Int × Unit) × (clock_Clock × (Nat × (Nat → List (api_PortID × List (Int)))) × Unit)) → Option ((((List (Int)) × Unit) × (clock_Clock × (Nat × (Nat → List (api_PortID × List (Int)))) × Unit)))
noncomputable def K23.C : Code := match Tryz.f141.body with | some c => c | none => .skip
noncomputable def K23.B0 : Code := match (loopsOf K23.C).getD 0 .skip with | .loop b => b | .scope b => b | _ => .skip
noncomputable def K23.B1 : Code := match (loopsOf K23.C).getD 1 .skip with | .loop b => b | .scope b => b | _ => .skip
noncomputable def K23.JR11 : Exits U := [(.normal, ⟨65, 15, [(7, .ptr 14 0 0), (8, vb_)], [(13, .obj .t_clock_Clock), (14, .obj .t_api_Tlv), (12, .mfam true false .t_api_PortID .l_u64)]⟩)]
noncomputable def K23.H (cK118 : K118.T) (l1 : K23.l1T) : Hints U := { Γ := (addΓ 180 (K118.sig.native (K118.W cK118)) (addΓ 5000000021 noNat noΓ)), ro := 14, base := 14, joinR := fun b => (bif Nat.beq b 11 then some K23.JR11 else none), loop := fun b => (bif Nat.beq b 5 then some (loopN (14, 14) K23.L1 K23.X1 l1) else none) }
noncomputable def K23.step1 (cK118 : K118.T) (a : ((List (Int)) × Int × Int × Unit) × (clock_Clock × (Nat × (Nat → List (api_PortID × List (Int)))) × Unit)) : Option ((((List (Int)) × Int × Int × Unit) × (clock_Clock × (Nat × (Nat → List (api_PortID × List (Int)))) × Unit)) ⊕ ((((List (Int)) × Unit) × (clock_Clock × (Nat × (Nat → List (api_PortID × List (Int)))) × Unit)))) :=
 (bif ilt a.1.2.2.1 a.1.2.1 then (bif inR a.1.2.2.1 8 then (oelim ((oelim ((a.2.1.fports (Int.toNat a.1.2.2.1)).3) none fun r0 => ((@mapGet U Go.Proofs.Tryz.prog 31 UC.t_api_PortID UC.l_u64 (a.2.1.fparent.fPort) (a.2.2.1.2 r0)) : Option (Option (List Int))))) none fun (r1 : Option (List Int)) => (bif Option.isSome r1 then (bif room (List.length a.1.1 + List.length (Option.getD r1 (lnil Int))) 8 then some (.inr ((a.1.1 ++ Option.getD r1 (lnil Int), ()), (a.2.1, (a.2.2.1, ())))) else none) else some (.inl ((a.1.1, (a.1.2.1, (iadd .i64 a.1.2.2.1 1, ()))), (a.2.1, (a.2.2.1, ())))))) else none) else some (.inr ((a.1.1, ()), (a.2.1, (a.2.2.1, ())))))
noncomputable def K23.F1 : K23.l1T := fun a => loopFix (1000000 + (a.1.1.length)) (K23.step1 K118) a
noncomputable def K23.gen (cK118 : K118.T) (l1 : K23.l1T) : K23.T := fun h0 g12 =>
 (bif !h0.fconf.fTrace then some ((lnil api_Tlv, ()), ((), ())) else (bif le3 (ofN 0) h0.fconf.fPorts 8 then (oelim (l1 ((lnil Int, ofN (Int.toNat h0.fconf.fPorts - Int.toNat (ofN 0)), (0 : Int), ()), h0, g12, ())) none fun r0 => (oelim ((bif room (List.length r0.1.1 + List.length (r0.2.1.fconf.fClock :: lnil Int)) 8 then (oelim (cK118 (r0.1.1 ++ r0.2.1.fconf.fClock :: lnil Int)) none fun r1 => some ((r1.1.2.1, ()), (r0.2.1, (r1.1.1, (r0.2.2.1, ()))))) else none)) none fun r2 => (bif !r2.1.1 then some ((lnil api_Tlv, ()), ((), ())) else some ((r2.2.2.1 :: lnil api_Tlv, ()), ((), ()))))) else none))
noncomputable def K23 : K23.T := K23.gen K118 K23.F1
theorem K23.seq1 (cK118 : K118.T) (l1 : K23.l1T) (a : K23.L1.T) : run Tryz.prog (K23.H cK118 l1) 6 (Option (K23.L1.T ⊕ ExT K23.X1)) none K23.B1 (K23.L1.enc a) (loopK (14, 14) K23.L1 K23.X1) = K23.step1 cK118 a := by kernel_rfl
theorem K23.inner1 : loopsOf K23.B1 = ([] : List Code) := by kernel_rfl
noncomputable abbrev K23.h := K23.H K118 K23.F1
theorem K23.lok1 : LoopOK U Tryz.prog K23.h.ro K23.h.base K23.B1 (loopN (14, 14) K23.L1 K23.X1 K23.F1) :=
 loopN_ok (Hn := K23.h) U_ok U_pure (run_ok (hq (addΓ_ok (addΓ_ok noΓ_ok noNat_ok) K118.ok) loops_nil (fun _ => rfl) (fun _ => rfl)) 6) (fun b h => by rw [K23.inner1] at h; exact h) (fun _ => rfl) (K23.seq1 K118 K23.F1)
theorem K23.eq (cK118 : K118.T) (l1 : K23.l1T) : EqA K23.sig (K23.H cK118 l1) Tryz.f141 6 (K23.W (K23.gen cK118 l1)) := by intro a x; kernel_rfl
theorem K23.loops : loopsOf K23.C = [(.scope K23.B0), (.loop K23.B1)] := by kernel_rfl
theorem K23.hints : HintsOK U Tryz.prog K23.h (fun c => c ∈ [(.scope K23.B0), (.loop K23.B1)]) := (hq (addΓ_ok (addΓ_ok noΓ_ok noNat_ok) K118.ok) (loops_skip (loops_cons (by kernel_rfl) K23.lok1 loops_nil)) (fun _ => rfl) (fun _ => rfl))
theorem K23.ok : NativeOK U Tryz.prog 141 (K23.sig.native (K23.W K23)) :=
 Sig.ok K23.sig (K23.W K23) U_pure (Hn := K23.h) (code := K23.C) (gos := 6) K23.hints Tryz.func141 (by kernel_rfl) (by kernel_rfl) (fun b h => by rw [K23.loops] at h; exact h) rfl rfl (by decide) (K23.eq K118 K23.F1) (by decide)
noncomputable def K65.sig : Sig U := ⟨[.int .i64], [], 0, [.bool], false, []⟩
abbrev K65.T : Type := (Int) → Option ((Bool × Unit) × Unit × Unit)
noncomputable def K65.W (f : K65.T) : K65.sig.F := fun a x => f a.1
noncomputable def K65.JC7 : Exits U := [(.normal, ⟨16, 13, [(9, vb_)], []⟩)]
noncomputable def K65.JC3 : Exits U := [(.normal, ⟨16, 13, [(3, vi_), (4, vb_)], []⟩)]
noncomputable def K65.H : Hints U := { Γ := noΓ, ro := 0, base := 13, joinC := fun b => (bif Nat.beq b 3 then some K65.JC3 else (bif Nat.beq b 7 then some K65.JC7 else none)) }
noncomputable def K65.gen : K65.T := fun typ =>
 (oelim ((bif ieq typ 0 then some ((typ, (ieq typ 0, ())), ()) else (bif ieq typ 1 then some ((typ, (ieq typ 1, ())), ()) else (bif ieq typ 2 then some ((typ, (ieq typ 2, ())), ()) else some ((typ, (ieq typ 3, ())), ()))))) none fun r0 => (bif r0.1.2.1 then some ((true, ()), ((), ())) else (oelim ((bif ieq r0.1.1 8 then some ((ieq r0.1.1 8, ()), ()) else (bif ieq r0.1.1 9 then some ((ieq r0.1.1 9, ()), ()) else (bif ieq r0.1.1 10 then some ((ieq r0.1.1 10, ()), ()) else (bif ieq r0.1.1 11 then some ((ieq r0.1.1 11, ()), ()) else (bif ieq r0.1.1 12 then some ((ieq r0.1.1 12, ()), ()) else some ((ieq r0.1.1 13, ()), ()))))))) none fun r1 => (bif r1.1.1 then some ((true, ()), ((), ())) else some ((false, ()), ((), ()))))))
noncomputable def K65 : K65.T := K65.gen
theorem K65.eq : EqA K65.sig (K65.H) Tryz.f102 6 (K65.W (K65.gen)) := by intro a x; kernel_rfl
theorem K65.hints : HintsOK U Tryz.prog (K65.H) (fun c => c ∈ ([] : List Code)) := (hq noΓ_ok loops_nil (fun _ => rfl) (fun _ => rfl))
theorem K65.ok : NativeOK U Tryz.prog 102 (K65.sig.native (K65.W K65)) :=
 Sig.ok K65.sig (K65.W (K65.gen)) U_pure (Hn := (K65.H)) (gos := 6) K65.hints Tryz.func102 rfl (by kernel_rfl) (fun b h => h) rfl rfl (by decide) (K65.eq) (by decide)
noncomputable def K68.sig : Sig U := ⟨[.int .i64, .int .i64, .int .i64], [], 0, [.bool], false, []⟩
abbrev K68.T : Type := (Int) → (Int) → (Int) → Option ((Bool × Unit) × Unit × Unit)
noncomputable def K68.W (f : K68.T) : K68.sig.F := fun a x => f a.1 a.2.1 a.2.2.1
noncomputable def K68.H : Hints U := { Γ := noΓ, ro := 0, base := 13 }
noncomputable def K68.gen : K68.T := fun v least most =>
 (bif ile least v then some ((ile v most, ()), ((), ())) else some ((false, ()), ((), ())))
noncomputable def K68 : K68.T := K68.gen
theorem K68.eq : EqA K68.sig (K68.H) Tryz.f103 6 (K68.W (K68.gen)) := by intro a x; kernel_rfl
theorem K68.hints : HintsOK U Tryz.prog (K68.H) (fun c => c ∈ ([] : List Code)) := (hq noΓ_ok loops_nil (fun _ => rfl) (fun _ => rfl))
theorem K68.ok : NativeOK U Tryz.prog 103 (K68.sig.native (K68.W K68)) :=
 Sig.ok K68.sig (K68.W (K68.gen)) U_pure (Hn := (K68.H)) (gos := 6) K68.hints Tryz.func103 rfl (by kernel_rfl) (fun b h => h) rfl rfl (by decide) (K68.eq) (by decide)
noncomputable def K71.sig : Sig U := ⟨[.data .t_api_PortID], [], 0, [.bool], false, []⟩
abbrev K71.T : Type := (api_PortID) → Option ((Bool × Unit) × Unit × Unit)
noncomputable def K71.W (f : K71.T) : K71.sig.F := fun a x => f a.1
noncomputable def K71.H : Hints U := { Γ := noΓ, ro := 0, base := 13 }
noncomputable def K71.gen : K71.T := fun p =>
 (bif ile 0 p.fPort then some ((ile p.fPort 65535, ()), ((), ())) else some ((false, ()), ((), ())))
noncomputable def K71 : K71.T := K71.gen
theorem K71.eq : EqA K71.sig (K71.H) Tryz.f170 6 (K71.W (K71.gen)) := by intro a x; kernel_rfl
theorem K71.hints : HintsOK U Tryz.prog (K71.H) (fun c => c ∈ ([] : List Code)) := (hq noΓ_ok loops_nil (fun _ => rfl) (fun _ => rfl))
theorem K71.ok : NativeOK U Tryz.prog 170 (K71.sig.native (K71.W K71)) :=
 Sig.ok K71.sig (K71.W (K71.gen)) U_pure (Hn := (K71.H)) (gos := 6) K71.hints Tryz.func170 rfl (by kernel_rfl) (fun b h => h) rfl rfl (by decide) (K71.eq) (by decide)
noncomputable def K63.sig : Sig U := ⟨[.data .t_api_Msg], [], 0, [.bool], false, []⟩
abbrev K63.T : Type := (api_Msg) → Option ((Bool × Unit) × Unit × Unit)
noncomputable def K63.W (f : K63.T) : K63.sig.F := fun a x => f a.1
noncomputable def K63.H (cK65 : K65.T) (cK68 : K68.T) (cK71 : K71.T) : Hints U := { Γ := (addΓ 170 (K71.sig.native (K71.W cK71)) (addΓ 103 (K68.sig.native (K68.W cK68)) (addΓ 102 (K65.sig.native (K65.W cK65)) noΓ))), ro := 0, base := 13 }
noncomputable def K63.gen (cK65 : K65.T) (cK68 : K68.T) (cK71 : K71.T) : K63.T := fun m =>
 (oelim (cK65 m.fType) none fun r0 => (bif r0.1.1 then (oelim (cK68 m.fDomain 0 255) none fun r1 => (bif r1.1.1 then (oelim (cK68 m.fFlags 0 65535) none fun r2 => (bif r2.1.1 then (oelim (cK71 m.fSource) none fun r3 => (bif r3.1.1 then (oelim (cK68 m.fSeq 0 65535) none fun r4 => (bif r4.1.1 then (oelim (cK68 m.fLog (-128) 127) none fun r5 => some ((r5.1.1, ()), ((), ()))) else some ((false, ()), ((), ())))) else some ((false, ()), ((), ())))) else some ((false, ()), ((), ())))) else some ((false, ()), ((), ())))) else some ((false, ()), ((), ()))))
noncomputable def K63 : K63.T := K63.gen K65 K68 K71
theorem K63.eq (cK65 : K65.T) (cK68 : K68.T) (cK71 : K71.T) : EqA K63.sig (K63.H cK65 cK68 cK71) Tryz.f118 6 (K63.W (K63.gen cK65 cK68 cK71)) := by intro a x; kernel_rfl
noncomputable abbrev K63.h := K63.H K65 K68 K71
theorem K63.hints : HintsOK U Tryz.prog K63.h (fun c => c ∈ ([] : List Code)) := (hq (addΓ_ok (addΓ_ok (addΓ_ok noΓ_ok K65.ok) K68.ok) K71.ok) loops_nil (fun _ => rfl) (fun _ => rfl))
theorem K63.ok : NativeOK U Tryz.prog 118 (K63.sig.native (K63.W K63)) :=
 Sig.ok K63.sig (K63.W K63) U_pure (Hn := K63.h) (gos := 6) K63.hints Tryz.func118 rfl (by kernel_rfl) (fun b h => h) rfl rfl (by decide) (K63.eq K65 K68 K71) (by decide)
noncomputable def K6.sig : Sig U := ⟨[.int .i64], [], 0, [.bool], false, []⟩
abbrev K6.T : Type := (Int) → Option ((Bool × Unit) × Unit × Unit)
noncomputable def K6.W (f : K6.T) : K6.sig.F := fun a x => f a.1
noncomputable def K6.H : Hints U := { Γ := noΓ, ro := 0, base := 13 }
noncomputable def K6.gen : K6.T := fun typ =>
 (bif ine typ 12 then some ((ine typ 13, ()), ((), ())) else some ((false, ()), ((), ())))
noncomputable def K6 : K6.T := K6.gen
theorem K6.eq : EqA K6.sig (K6.H) Tryz.f107 6 (K6.W (K6.gen)) := by intro a x; kernel_rfl
theorem K6.hints : HintsOK U Tryz.prog (K6.H) (fun c => c ∈ ([] : List Code)) := (hq noΓ_ok loops_nil (fun _ => rfl) (fun _ => rfl))
theorem K6.ok : NativeOK U Tryz.prog 107 (K6.sig.native (K6.W K6)) :=
 Sig.ok K6.sig (K6.W (K6.gen)) U_pure (Hn := (K6.H)) (gos := 6) K6.hints Tryz.func107 rfl (by kernel_rfl) (fun b h => h) rfl rfl (by decide) (K6.eq) (by decide)
noncomputable def K7.sig : Sig U := ⟨[.int .i64], [], 0, [.bool], false, []⟩
abbrev K7.T : Type := (Int) → Option ((Bool × Unit) × Unit × Unit)
noncomputable def K7.W (f : K7.T) : K7.sig.F := fun a x => f a.1
noncomputable def K7.JC3 : Exits U := [(.normal, ⟨10, 13, [(4, vb_)], []⟩)]
noncomputable def K7.H : Hints U := { Γ := noΓ, ro := 0, base := 13, joinC := fun b => (bif Nat.beq b 3 then some K7.JC3 else none) }
noncomputable def K7.gen : K7.T := fun typ =>
 (oelim ((bif ieq typ 9 then some ((ieq typ 9, ()), ()) else (bif ieq typ 3 then some ((ieq typ 3, ()), ()) else (bif ieq typ 10 then some ((ieq typ 10, ()), ()) else (bif ieq typ 12 then some ((ieq typ 12, ()), ()) else some ((ieq typ 13, ()), ())))))) none fun r0 => (bif r0.1.1 then some ((true, ()), ((), ())) else some ((false, ()), ((), ()))))
noncomputable def K7 : K7.T := K7.gen
theorem K7.eq : EqA K7.sig (K7.H) Tryz.f109 6 (K7.W (K7.gen)) := by intro a x; kernel_rfl
theorem K7.hints : HintsOK U Tryz.prog (K7.H) (fun c => c ∈ ([] : List Code)) := (hq noΓ_ok loops_nil (fun _ => rfl) (fun _ => rfl))
theorem K7.ok : NativeOK U Tryz.prog 109 (K7.sig.native (K7.W K7)) :=
 Sig.ok K7.sig (K7.W (K7.gen)) U_pure (Hn := (K7.H)) (gos := 6) K7.hints Tryz.func109 rfl (by kernel_rfl) (fun b h => h) rfl rfl (by decide) (K7.eq) (by decide)
noncomputable def K5.sig : Sig U := ⟨[.data .t_api_Msg], [], 0, [.data .t_api_Msg], false, []⟩
abbrev K5.T : Type := (api_Msg) → Option ((api_Msg × Unit) × Unit × Unit)
noncomputable def K5.W (f : K5.T) : K5.sig.F := fun a x => f a.1
noncomputable def K5.JC8 : Exits U := [(.normal, ⟨68, 15, [(2, .ptr 13 0 0), (3, .ptr 14 0 0)], [(13, .obj .t_api_Msg), (14, .obj .t_api_Msg)]⟩)]
noncomputable def K5.JC5 : Exits U := [(.normal, ⟨68, 16, [(1, .ptr 13 0 0), (2, .ptr 14 0 0), (3, .ptr 15 0 0)], [(13, .obj .t_api_Msg), (14, .obj .t_api_Msg), (15, .obj .t_api_Msg)]⟩)]
noncomputable def K5.JC3 : Exits U := [(.normal, ⟨68, 16, [(1, .ptr 13 0 0), (2, .ptr 14 0 0), (3, .ptr 15 0 0)], [(13, .obj .t_api_Msg), (14, .obj .t_api_Msg), (15, .obj .t_api_Msg)]⟩)]
noncomputable def K5.H (cK6 : K6.T) (cK7 : K7.T) : Hints U := { Γ := (addΓ 109 (K7.sig.native (K7.W cK7)) (addΓ 107 (K6.sig.native (K6.W cK6)) noΓ)), ro := 0, base := 13, joinC := fun b => (bif Nat.beq b 3 then some K5.JC3 else (bif Nat.beq b 5 then some K5.JC5 else (bif Nat.beq b 8 then some K5.JC8 else none))) }
noncomputable def K5.gen (cK6 : K6.T) (cK7 : K7.T) : K5.T := fun m =>
 (oelim (cK6 m.fType) none fun r0 => (oelim ((bif r0.1.1 then some ((), (m, (api_Msg.mk 0 0 0 0 z0_ 0 0 0 z0_ 0 0 z1_ 0 0 0 0 0 0 0, (api_Msg.mk m.fType m.fDomain m.fFlags m.fCorr m.fSource m.fSeq m.fLog m.fStamp z0_ 0 0 z1_ 0 0 0 0 0 0 0, ())))) else some ((), (m, (api_Msg.mk 0 0 0 0 z0_ 0 0 0 z0_ 0 0 z1_ 0 0 0 0 0 0 0, (api_Msg.mk m.fType m.fDomain m.fFlags m.fCorr m.fSource m.fSeq m.fLog 0 z0_ 0 0 z1_ 0 0 0 0 0 0 0, ())))))) none fun r1 => (oelim (cK7 r1.2.1.fType) none fun r2 => (oelim ((bif r2.1.1 then some ((), (r1.2.1, (r1.2.2.1, (api_Msg.set_fTarget r1.2.2.2.1 r1.2.1.fTarget, ())))) else some ((), (r1.2.1, (r1.2.2.1, (r1.2.2.2.1, ())))))) none fun r3 => (oelim ((bif ieq r3.2.1.fType 11 then some ((), (r3.2.2.1, (api_Msg.set_fOrigin (api_Msg.set_fSteps (api_Msg.set_fGrand (api_Msg.set_fPriority2 (api_Msg.set_fQuality (api_Msg.set_fPriority1 (api_Msg.set_fUtc r3.2.2.2.1 r3.2.1.fUtc) r3.2.1.fPriority1) r3.2.1.fQuality) r3.2.1.fPriority2) r3.2.1.fGrand) r3.2.1.fSteps) r3.2.1.fOrigin, ()))) else (bif ieq r3.2.1.fType 13 then some ((), (r3.2.2.1, (api_Msg.set_fAction (api_Msg.set_fHops (api_Msg.set_fStartHops r3.2.2.2.1 r3.2.1.fStartHops) r3.2.1.fHops) r3.2.1.fAction, ()))) else some ((), (r3.2.2.1, (r3.2.2.2.1, ())))))) none fun r4 => some ((r4.2.2.1, ()), ((), ())))))))
noncomputable def K5 : K5.T := K5.gen K6 K7
theorem K5.eq (cK6 : K6.T) (cK7 : K7.T) : EqA K5.sig (K5.H cK6 cK7) Tryz.f169 6 (K5.W (K5.gen cK6 cK7)) := by intro a x; kernel_rfl
noncomputable abbrev K5.h := K5.H K6 K7
theorem K5.hints : HintsOK U Tryz.prog K5.h (fun c => c ∈ ([] : List Code)) := (hq (addΓ_ok (addΓ_ok noΓ_ok K6.ok) K7.ok) loops_nil (fun _ => rfl) (fun _ => rfl))
theorem K5.ok : NativeOK U Tryz.prog 169 (K5.sig.native (K5.W K5)) :=
 Sig.ok K5.sig (K5.W K5) U_pure (Hn := K5.h) (gos := 6) K5.hints Tryz.func169 rfl (by kernel_rfl) (fun b h => h) rfl rfl (by decide) (K5.eq K6 K7) (by decide)
noncomputable def K107.sig : Sig U := ⟨[.int .i64], [], 0, [.bool], false, []⟩
abbrev K107.T : Type := (Int) → Option ((Bool × Unit) × Unit × Unit)
noncomputable def K107.W (f : K107.T) : K107.sig.F := fun a x => f a.1
noncomputable def K107.H : Hints U := { Γ := noΓ, ro := 0, base := 13 }
noncomputable def K107.gen : K107.T := fun t =>
 (bif ile 0 t then some ((ile t 4000000000000000, ()), ((), ())) else some ((false, ()), ((), ())))
noncomputable def K107 : K107.T := K107.gen
theorem K107.eq : EqA K107.sig (K107.H) Tryz.f151 6 (K107.W (K107.gen)) := by intro a x; kernel_rfl
theorem K107.hints : HintsOK U Tryz.prog (K107.H) (fun c => c ∈ ([] : List Code)) := (hq noΓ_ok loops_nil (fun _ => rfl) (fun _ => rfl))
theorem K107.ok : NativeOK U Tryz.prog 151 (K107.sig.native (K107.W K107)) :=
 Sig.ok K107.sig (K107.W (K107.gen)) U_pure (Hn := (K107.H)) (gos := 6) K107.hints Tryz.func151 rfl (by kernel_rfl) (fun b h => h) rfl rfl (by decide) (K107.eq) (by decide)
noncomputable def K4.sig : Sig U := ⟨[.int .i64, .int .i64, .int .i64], [], 0, [.bool], false, []⟩
abbrev K4.T : Type := (Int) → (Int) → (Int) → Option ((Bool × Unit) × Unit × Unit)
noncomputable def K4.W (f : K4.T) : K4.sig.F := fun a x => f a.1 a.2.1 a.2.2.1
noncomputable def K4.H : Hints U := { Γ := noΓ, ro := 0, base := 13 }
noncomputable def K4.gen : K4.T := fun v least most =>
 (bif ile least v then some ((ile v most, ()), ((), ())) else some ((false, ()), ((), ())))
noncomputable def K4 : K4.T := K4.gen
theorem K4.eq : EqA K4.sig (K4.H) Tryz.f171 6 (K4.W (K4.gen)) := by intro a x; kernel_rfl
theorem K4.hints : HintsOK U Tryz.prog (K4.H) (fun c => c ∈ ([] : List Code)) := (hq noΓ_ok loops_nil (fun _ => rfl) (fun _ => rfl))
theorem K4.ok : NativeOK U Tryz.prog 171 (K4.sig.native (K4.W K4)) :=
 Sig.ok K4.sig (K4.W (K4.gen)) U_pure (Hn := (K4.H)) (gos := 6) K4.hints Tryz.func171 rfl (by kernel_rfl) (fun b h => h) rfl rfl (by decide) (K4.eq) (by decide)
noncomputable def K0.sig : Sig U := ⟨[.data .t_api_Msg], [], 0, [.bool], false, []⟩
abbrev K0.T : Type := (api_Msg) → Option ((Bool × Unit) × Unit × Unit)
noncomputable def K0.W (f : K0.T) : K0.sig.F := fun a x => f a.1
noncomputable def K0.H (cK63 : K63.T) (cK5 : K5.T) (cK107 : K107.T) (cK71 : K71.T) (cK4 : K4.T) (cK98 : K98.T) : Hints U := { Γ := (addΓ 87 (K98.sig.native (K98.W cK98)) (addΓ 171 (K4.sig.native (K4.W cK4)) (addΓ 170 (K71.sig.native (K71.W cK71)) (addΓ 151 (K107.sig.native (K107.W cK107)) (addΓ 169 (K5.sig.native (K5.W cK5)) (addΓ 118 (K63.sig.native (K63.W cK63)) noΓ)))))), ro := 0, base := 13 }
noncomputable def K0.gen (cK63 : K63.T) (cK5 : K5.T) (cK107 : K107.T) (cK71 : K71.T) (cK4 : K4.T) (cK98 : K98.T) : K0.T := fun m =>
 (oelim (cK63 m) none fun r0 => (bif r0.1.1 then (oelim (cK5 m) none fun r1 => (bif bif ieq m.fType r1.1.1.fType then bif ieq m.fDomain r1.1.1.fDomain then bif ieq m.fFlags r1.1.1.fFlags then bif ieq m.fCorr r1.1.1.fCorr then bif bif ieq m.fSource.fClock r1.1.1.fSource.fClock then bif ieq m.fSource.fPort r1.1.1.fSource.fPort then true else false else false then bif ieq m.fSeq r1.1.1.fSeq then bif ieq m.fLog r1.1.1.fLog then bif ieq m.fStamp r1.1.1.fStamp then bif bif ieq m.fTarget.fClock r1.1.1.fTarget.fClock then bif ieq m.fTarget.fPort r1.1.1.fTarget.fPort then true else false else false then bif ieq m.fUtc r1.1.1.fUtc then bif ieq m.fPriority1 r1.1.1.fPriority1 then bif bif ieq m.fQuality.fClass r1.1.1.fQuality.fClass then bif ieq m.fQuality.fAccuracy r1.1.1.fQuality.fAccuracy then bif ieq m.fQuality.fVariance r1.1.1.fQuality.fVariance then true else false else false else false then bif ieq m.fPriority2 r1.1.1.fPriority2 then bif ieq m.fGrand r1.1.1.fGrand then bif ieq m.fSteps r1.1.1.fSteps then bif ieq m.fOrigin r1.1.1.fOrigin then bif ieq m.fStartHops r1.1.1.fStartHops then bif ieq m.fHops r1.1.1.fHops then bif ieq m.fAction r1.1.1.fAction then true else false else false else false else false else false else false else false else false else false else false else false else false else false else false else false else false else false else false else false then (oelim (cK107 m.fStamp) none fun r2 => (bif r2.1.1 then (oelim (cK71 m.fTarget) none fun r3 => (bif r3.1.1 then (oelim (cK4 m.fUtc (-32768) 32767) none fun r4 => (bif r4.1.1 then (oelim (cK4 m.fPriority1 0 255) none fun r5 => (bif r5.1.1 then (oelim (cK4 m.fPriority2 0 255) none fun r6 => (bif r6.1.1 then (oelim (cK4 m.fOrigin 0 255) none fun r7 => (bif r7.1.1 then (oelim (cK98 m.fQuality) none fun r8 => (bif r8.1.1 then (oelim (cK4 m.fSteps 0 65535) none fun r9 => (bif r9.1.1 then (oelim (cK4 m.fStartHops 0 255) none fun r10 => (bif r10.1.1 then (oelim (cK4 m.fHops 0 255) none fun r11 => (bif r11.1.1 then (oelim (cK4 m.fAction 0 15) none fun r12 => some ((r12.1.1, ()), ((), ()))) else some ((false, ()), ((), ())))) else some ((false, ()), ((), ())))) else some ((false, ()), ((), ())))) else some ((false, ()), ((), ())))) else some ((false, ()), ((), ())))) else some ((false, ()), ((), ())))) else some ((false, ()), ((), ())))) else some ((false, ()), ((), ())))) else some ((false, ()), ((), ())))) else some ((false, ()), ((), ())))) else some ((false, ()), ((), ())))) else some ((false, ()), ((), ()))))
noncomputable def K0 : K0.T := K0.gen K63 K5 K107 K71 K4 K98
theorem K0.eq (cK63 : K63.T) (cK5 : K5.T) (cK107 : K107.T) (cK71 : K71.T) (cK4 : K4.T) (cK98 : K98.T) : EqA K0.sig (K0.H cK63 cK5 cK107 cK71 cK4 cK98) Tryz.f112 6 (K0.W (K0.gen cK63 cK5 cK107 cK71 cK4 cK98)) := by intro a x; kernel_rfl
noncomputable abbrev K0.h := K0.H K63 K5 K107 K71 K4 K98
theorem K0.hints : HintsOK U Tryz.prog K0.h (fun c => c ∈ ([] : List Code)) := (hq (addΓ_ok (addΓ_ok (addΓ_ok (addΓ_ok (addΓ_ok (addΓ_ok noΓ_ok K63.ok) K5.ok) K107.ok) K71.ok) K4.ok) K98.ok) loops_nil (fun _ => rfl) (fun _ => rfl))
theorem K0.ok : NativeOK U Tryz.prog 112 (K0.sig.native (K0.W K0)) :=
 Sig.ok K0.sig (K0.W K0) U_pure (Hn := K0.h) (gos := 6) K0.hints Tryz.func112 rfl (by kernel_rfl) (fun b h => h) rfl rfl (by decide) (K0.eq K63 K5 K107 K71 K4 K98) (by decide)
noncomputable def K108.sig : Sig U := ⟨[.isl .u8, .int .i64], [], 0, [.isl .u8], false, []⟩
abbrev K108.T : Type := (List (UInt8)) → (Int) → Option (((List (UInt8)) × Unit) × Unit × Unit)
noncomputable def K108.W (f : K108.T) : K108.sig.F := fun a x => f a.1 a.2.1
noncomputable def K108.JC2 : Exits U := [(.normal, ⟨15, 13, [(0, .val (.isl .u8)), (1, vi_)], []⟩)]
noncomputable def K108.H (cK107 : K107.T) (cK83 : K83.T) : Hints U := { Γ := (addΓ 100 (K83.sig.native (K83.W cK83)) (addΓ 151 (K107.sig.native (K107.W cK107)) noΓ)), ro := 0, base := 13, joinC := fun b => (bif Nat.beq b 2 then some K108.JC2 else none) }
noncomputable def K108.gen (cK107 : K107.T) (cK83 : K83.T) : K108.T := fun b t =>
 (oelim (cK107 t) none fun r0 => (oelim ((bif !r0.1.1 then some ((b, ((0 : Int), ())), ()) else some ((b, (t, ())), ()))) none fun r1 => (oelim (cK83 r1.1.1 (iquo .i64 r1.1.2.1 1000000000) 6) none fun r2 => (oelim (cK83 r2.1.1 (irem r1.1.2.1 1000000000) 4) none fun r3 => some ((r3.1.1, ()), ((), ()))))))
noncomputable def K108 : K108.T := K108.gen K107 K83
theorem K108.eq (cK107 : K107.T) (cK83 : K83.T) : EqA K108.sig (K108.H cK107 cK83) Tryz.f113 6 (K108.W (K108.gen cK107 cK83)) := by intro a x; kernel_rfl
noncomputable abbrev K108.h := K108.H K107 K83
theorem K108.hints : HintsOK U Tryz.prog K108.h (fun c => c ∈ ([] : List Code)) := (hq (addΓ_ok (addΓ_ok noΓ_ok K107.ok) K83.ok) loops_nil (fun _ => rfl) (fun _ => rfl))
theorem K108.ok : NativeOK U Tryz.prog 113 (K108.sig.native (K108.W K108)) :=
 Sig.ok K108.sig (K108.W K108) U_pure (Hn := K108.h) (gos := 6) K108.hints Tryz.func113 rfl (by kernel_rfl) (fun b h => h) rfl rfl (by decide) (K108.eq K107 K83) (by decide)
noncomputable def K72.sig : Sig U := ⟨[.isl .u8, .data .t_api_PortID], [], 0, [.isl .u8], false, []⟩
abbrev K72.T : Type := (List (UInt8)) → (api_PortID) → Option (((List (UInt8)) × Unit) × Unit × Unit)
noncomputable def K72.W (f : K72.T) : K72.sig.F := fun a x => f a.1 a.2.1
noncomputable def K72.H (cK84 : K84.T) (cK83 : K83.T) : Hints U := { Γ := (addΓ 100 (K83.sig.native (K83.W cK83)) (addΓ 116 (K84.sig.native (K84.W cK84)) noΓ)), ro := 0, base := 13 }
noncomputable def K72.gen (cK84 : K84.T) (cK83 : K83.T) : K72.T := fun b p =>
 (oelim (cK84 b p.fClock) none fun r0 => (oelim (cK83 r0.1.1 p.fPort 2) none fun r1 => some ((r1.1.1, ()), ((), ()))))
noncomputable def K72 : K72.T := K72.gen K84 K83
theorem K72.eq (cK84 : K84.T) (cK83 : K83.T) : EqA K72.sig (K72.H cK84 cK83) Tryz.f114 6 (K72.W (K72.gen cK84 cK83)) := by intro a x; kernel_rfl
noncomputable abbrev K72.h := K72.H K84 K83
theorem K72.hints : HintsOK U Tryz.prog K72.h (fun c => c ∈ ([] : List Code)) := (hq (addΓ_ok (addΓ_ok noΓ_ok K84.ok) K83.ok) loops_nil (fun _ => rfl) (fun _ => rfl))
theorem K72.ok : NativeOK U Tryz.prog 114 (K72.sig.native (K72.W K72)) :=
 Sig.ok K72.sig (K72.W K72) U_pure (Hn := K72.h) (gos := 6) K72.hints Tryz.func114 rfl (by kernel_rfl) (fun b h => h) rfl rfl (by decide) (K72.eq K84 K83) (by decide)
noncomputable def K99.sig : Sig U := ⟨[.isl .u8, .data .t_api_Quality], [], 0, [.isl .u8], false, []⟩
abbrev K99.T : Type := (List (UInt8)) → (api_Quality) → Option (((List (UInt8)) × Unit) × Unit × Unit)
noncomputable def K99.W (f : K99.T) : K99.sig.F := fun a x => f a.1 a.2.1
noncomputable def K99.H (cK83 : K83.T) : Hints U := { Γ := (addΓ 100 (K83.sig.native (K83.W cK83)) noΓ), ro := 0, base := 13 }
noncomputable def K99.gen (cK83 : K83.T) : K99.T := fun b q =>
 (oelim (cK83 b q.fClass 1) none fun r0 => (oelim (cK83 r0.1.1 q.fAccuracy 1) none fun r1 => (oelim (cK83 r1.1.1 q.fVariance 2) none fun r2 => some ((r2.1.1, ()), ((), ())))))
noncomputable def K99 : K99.T := K99.gen K83
theorem K99.eq (cK83 : K83.T) : EqA K99.sig (K99.H cK83) Tryz.f115 6 (K99.W (K99.gen cK83)) := by intro a x; kernel_rfl
noncomputable abbrev K99.h := K99.H K83
theorem K99.hints : HintsOK U Tryz.prog K99.h (fun c => c ∈ ([] : List Code)) := (hq (addΓ_ok noΓ_ok K83.ok) loops_nil (fun _ => rfl) (fun _ => rfl))
theorem K99.ok : NativeOK U Tryz.prog 115 (K99.sig.native (K99.W K99)) :=
 Sig.ok K99.sig (K99.W K99) U_pure (Hn := K99.h) (gos := 6) K99.hints Tryz.func115 rfl (by kernel_rfl) (fun b h => h) rfl rfl (by decide) (K99.eq K83) (by decide)
noncomputable def K3.sig : Sig U := ⟨[.isl .u8, .data .t_api_Msg], [], 0, [.isl .u8, .bool], true, []⟩
abbrev K3.T : Type := (List (UInt8)) → (api_Msg) → Option (((List (UInt8)) × Bool × Unit) × Unit × Unit)
noncomputable def K3.W (f : K3.T) : K3.sig.F := fun a x => f a.1 a.2.1
noncomputable def K3.JC10 : Exits U := [(.normal, ⟨80, 13, [(6, .val (.isl .u8))], []⟩)]
noncomputable def K3.JC7 : Exits U := [(.normal, ⟨80, 14, [(3, .ptr 13 0 0), (6, .val (.isl .u8))], [(13, .obj .t_api_Msg)]⟩)]
noncomputable def K3.JC5 : Exits U := [(.normal, ⟨80, 14, [(3, .ptr 13 0 0), (6, .val (.isl .u8))], [(13, .obj .t_api_Msg)]⟩)]
noncomputable def K3.H (cK0 : K0.T) (cK6 : K6.T) (cK108 : K108.T) (cK7 : K7.T) (cK72 : K72.T) (cK83 : K83.T) (cK99 : K99.T) (cK84 : K84.T) : Hints U := { Γ := (addΓ 116 (K84.sig.native (K84.W cK84)) (addΓ 115 (K99.sig.native (K99.W cK99)) (addΓ 100 (K83.sig.native (K83.W cK83)) (addΓ 114 (K72.sig.native (K72.W cK72)) (addΓ 109 (K7.sig.native (K7.W cK7)) (addΓ 113 (K108.sig.native (K108.W cK108)) (addΓ 107 (K6.sig.native (K6.W cK6)) (addΓ 112 (K0.sig.native (K0.W cK0)) noΓ)))))))), ro := 0, base := 13, joinC := fun b => (bif Nat.beq b 5 then some K3.JC5 else (bif Nat.beq b 7 then some K3.JC7 else (bif Nat.beq b 10 then some K3.JC10 else none))) }
noncomputable def K3.gen (cK0 : K0.T) (cK6 : K6.T) (cK108 : K108.T) (cK7 : K7.T) (cK72 : K72.T) (cK83 : K83.T) (cK99 : K99.T) (cK84 : K84.T) : K3.T := fun b m =>
 (oelim (cK0 m) none fun r0 => (bif !r0.1.1 then some ((b, (false, ())), ((), ())) else (bif bif le3 (ofN 0) (ofN (List.length b)) (List.length b) then ieq (ofN (List.length b)) (ofN (List.length b)) else false then (oelim (cK6 m.fType) none fun r1 => (oelim ((bif r1.1.1 then (oelim (cK108 (List.drop (Int.toNat (ofN 0)) (List.take (Int.toNat (ofN (List.length b))) b)) m.fStamp) none fun r2 => some ((r2.1.1, ()), (m, ()))) else some ((List.drop (Int.toNat (ofN 0)) (List.take (Int.toNat (ofN (List.length b))) b), ()), (m, ())))) none fun r3 => (oelim (cK7 r3.2.1.fType) none fun r4 => (oelim ((bif r4.1.1 then (oelim (cK72 r3.1.1 r3.2.1.fTarget) none fun r5 => some ((r5.1.1, ()), (r3.2.1, ()))) else some ((r3.1.1, ()), (r3.2.1, ())))) none fun r6 => (oelim ((bif ieq r6.2.1.fType 2 then (oelim (cK72 r6.1.1 z0_) none fun r7 => some ((r7.1.1, ()), ())) else (bif ieq r6.2.1.fType 11 then (oelim (cK83 r6.1.1 r6.2.1.fUtc 2) none fun r8 => (oelim (cK83 r8.1.1 0 1) none fun r9 => (oelim (cK83 r9.1.1 r6.2.1.fPriority1 1) none fun r10 => (oelim (cK99 r10.1.1 r6.2.1.fQuality) none fun r11 => (oelim (cK83 r11.1.1 r6.2.1.fPriority2 1) none fun r12 => (oelim (cK84 r12.1.1 r6.2.1.fGrand) none fun r13 => (oelim (cK83 r13.1.1 r6.2.1.fSteps 2) none fun r14 => (oelim (cK83 r14.1.1 r6.2.1.fOrigin 1) none fun r15 => some ((r15.1.1, ()), ()))))))))) else (bif ieq r6.2.1.fType 13 then (oelim (cK83 r6.1.1 r6.2.1.fStartHops 1) none fun r16 => (oelim (cK83 r16.1.1 r6.2.1.fHops 1) none fun r17 => (oelim (cK83 r17.1.1 r6.2.1.fAction 1) none fun r18 => (oelim (cK83 r18.1.1 0 1) none fun r19 => some ((r19.1.1, ()), ()))))) else some ((r6.1.1, ()), ()))))) none fun r20 => some ((r20.1.1, (true, ())), ((), ()))))))) else none)))
noncomputable def K3 : K3.T := K3.gen K0 K6 K108 K7 K72 K83 K99 K84
theorem K3.eq (cK0 : K0.T) (cK6 : K6.T) (cK108 : K108.T) (cK7 : K7.T) (cK72 : K72.T) (cK83 : K83.T) (cK99 : K99.T) (cK84 : K84.T) : EqA K3.sig (K3.H cK0 cK6 cK108 cK7 cK72 cK83 cK99 cK84) Tryz.f61 6 (K3.W (K3.gen cK0 cK6 cK108 cK7 cK72 cK83 cK99 cK84)) := by intro a x; kernel_rfl
noncomputable abbrev K3.h := K3.H K0 K6 K108 K7 K72 K83 K99 K84
theorem K3.hints : HintsOK U Tryz.prog K3.h (fun c => c ∈ ([] : List Code)) := (hq (addΓ_ok (addΓ_ok (addΓ_ok (addΓ_ok (addΓ_ok (addΓ_ok (addΓ_ok (addΓ_ok noΓ_ok K0.ok) K6.ok) K108.ok) K7.ok) K72.ok) K83.ok) K99.ok) K84.ok) loops_nil (fun _ => rfl) (fun _ => rfl))
theorem K3.ok : NativeOK U Tryz.prog 61 (K3.sig.native (K3.W K3)) :=
 Sig.ok K3.sig (K3.W K3) U_pure (Hn := K3.h) (gos := 6) K3.hints Tryz.func61 rfl (by kernel_rfl) (fun b h => h) rfl rfl (by decide) (K3.eq K0 K6 K108 K7 K72 K83 K99 K84) (by decide)
noncomputable def K121.sig : Sig U := ⟨[.int .i64, .int .i64, .int .i64], [], 0, [.bool], false, []⟩
abbrev K121.T : Type := (Int) → (Int) → (Int) → Option ((Bool × Unit) × Unit × Unit)
noncomputable def K121.W (f : K121.T) : K121.sig.F := fun a x => f a.1 a.2.1 a.2.2.1
noncomputable def K121.H : Hints U := { Γ := noΓ, ro := 0, base := 13 }
noncomputable def K121.gen : K121.T := fun v least most =>
 (bif ile least v then some ((ile v most, ()), ((), ())) else some ((false, ()), ((), ())))
noncomputable def K121 : K121.T := K121.gen
theorem K121.eq : EqA K121.sig (K121.H) Tryz.f99 6 (K121.W (K121.gen)) := by intro a x; kernel_rfl
theorem K121.hints : HintsOK U Tryz.prog (K121.H) (fun c => c ∈ ([] : List Code)) := (hq noΓ_ok loops_nil (fun _ => rfl) (fun _ => rfl))
theorem K121.ok : NativeOK U Tryz.prog 99 (K121.sig.native (K121.W K121)) :=
 Sig.ok K121.sig (K121.W (K121.gen)) U_pure (Hn := (K121.H)) (gos := 6) K121.hints Tryz.func99 rfl (by kernel_rfl) (fun b h => h) rfl rfl (by decide) (K121.eq) (by decide)
noncomputable def K114.sig : Sig U := ⟨[.data .t_api_Tlv], [], 0, [.bool], false, []⟩
abbrev K114.T : Type := (api_Tlv) → Option ((Bool × Unit) × Unit × Unit)
noncomputable def K114.W (f : K114.T) : K114.sig.F := fun a x => f a.1
noncomputable def K114.H (cK121 : K121.T) : Hints U := { Γ := (addΓ 99 (K121.sig.native (K121.W cK121)) noΓ), ro := 0, base := 13 }
noncomputable def K114.gen (cK121 : K121.T) : K114.T := fun t =>
 (oelim (cK121 t.fType 0 65535) none fun r0 => (bif r0.1.1 then (bif ieq (irem (ofN (ByteArray.size t.fData)) 2) 0 then some ((ile (ofN (ByteArray.size t.fData)) 400, ()), ((), ())) else some ((false, ()), ((), ()))) else some ((false, ()), ((), ()))))
noncomputable def K114 : K114.T := K114.gen K121
theorem K114.eq (cK121 : K121.T) : EqA K114.sig (K114.H cK121) Tryz.f117 6 (K114.W (K114.gen cK121)) := by intro a x; kernel_rfl
noncomputable abbrev K114.h := K114.H K121
theorem K114.hints : HintsOK U Tryz.prog K114.h (fun c => c ∈ ([] : List Code)) := (hq (addΓ_ok noΓ_ok K121.ok) loops_nil (fun _ => rfl) (fun _ => rfl))
theorem K114.ok : NativeOK U Tryz.prog 117 (K114.sig.native (K114.W K114)) :=
 Sig.ok K114.sig (K114.W K114) U_pure (Hn := K114.h) (gos := 6) K114.hints Tryz.func117 rfl (by kernel_rfl) (fun b h => h) rfl rfl (by decide) (K114.eq K121) (by decide)
noncomputable def K120.sig : Sig U := ⟨[.isl .u8, .isl .t_api_Tlv], [], 0, [.isl .u8, .bool], true, []⟩
abbrev K120.T : Type := (List (UInt8)) → (List (api_Tlv)) → Option (((List (UInt8)) × Bool × Unit) × Unit × Unit)
noncomputable def K120.W (f : K120.T) : K120.sig.F := fun a x => f a.1 a.2.1
noncomputable def K120.L0 : Shape U := ⟨42, 13, [(0, .val (.isl .u8)), (6, .val (.isl .u8)), (19, .val (.isl .t_api_Tlv)), (20, vi_), (21, vi_)], []⟩
noncomputable def K120.X0 : Exits U := [(.exit 0, ⟨42, 13, [(6, .val (.isl .u8))], []⟩),
 (.ret, ⟨42, 13, [(4, .val (.isl .u8)), (5, vb_)], []⟩)]
abbrev K120.l0T : Type := (((List (UInt8)) × (List (UInt8)) × (List (api_Tlv)) × Int × Int × Unit) × Unit) → Option ((((List (UInt8)) × Unit) × Unit) ⊕ (((List (UInt8)) × Bool × Unit) × Unit))
noncomputable def K120.C : Code := match Tryz.f62.body with | some c => c | none => .skip
noncomputable def K120.B0 : Code := match (loopsOf K120.C).getD 0 .skip with | .loop b => b | .scope b => b | _ => .skip
noncomputable def K120.H (cK114 : K114.T) (cK83 : K83.T) (l0 : K120.l0T) : Hints U := { Γ := (addΓ 100 (K83.sig.native (K83.W cK83)) (addΓ 117 (K114.sig.native (K114.W cK114)) noΓ)), ro := 0, base := 13, loop := fun b => (bif Nat.beq b 5 then some (loopN (0, 13) K120.L0 K120.X0 l0) else none) }
noncomputable def K120.step0 (cK114 : K114.T) (cK83 : K83.T) (a : ((List (UInt8)) × (List (UInt8)) × (List (api_Tlv)) × Int × Int × Unit) × Unit) : Option ((((List (UInt8)) × (List (UInt8)) × (List (api_Tlv)) × Int × Int × Unit) × Unit) ⊕ ((((List (UInt8)) × Unit) × Unit) ⊕ (((List (UInt8)) × Bool × Unit) × Unit))) :=
 (bif ilt a.1.2.2.2.2.1 a.1.2.2.2.1 then (bif inR a.1.2.2.2.2.1 (List.length a.1.2.2.1) then (oelim (cK114 (List.getD a.1.2.2.1 (Int.toNat a.1.2.2.2.2.1) api_Tlv.zero)) none fun r0 => (bif !r0.1.1 then some (.inr (.inr ((a.1.1, (false, ())), ()))) else (oelim (cK83 a.1.2.1 (List.getD a.1.2.2.1 (Int.toNat a.1.2.2.2.2.1) api_Tlv.zero).fType 2) none fun r1 => (oelim (cK83 r1.1.1 (ofN (ByteArray.size (List.getD a.1.2.2.1 (Int.toNat a.1.2.2.2.2.1) api_Tlv.zero).fData)) 2) none fun r2 => (bif room (List.length r2.1.1 + List.length (List.getD a.1.2.2.1 (Int.toNat a.1.2.2.2.2.1) api_Tlv.zero).fData.data.toList) 1 then some (.inl ((a.1.1, (r2.1.1 ++ (List.getD a.1.2.2.1 (Int.toNat a.1.2.2.2.2.1) api_Tlv.zero).fData.data.toList, (a.1.2.2.1, (a.1.2.2.2.1, (iadd .i64 a.1.2.2.2.2.1 1, ()))))), ())) else none))))) else none) else some (.inr (.inl ((a.1.2.1, ()), ()))))
noncomputable def K120.F0 : K120.l0T := fun a => loopFix (1000000 + (a.1.1.length + a.1.2.1.length + a.1.2.2.1.length)) (K120.step0 K114 K83) a
noncomputable def K120.gen (cK114 : K114.T) (cK83 : K83.T) (l0 : K120.l0T) : K120.T := fun b l =>
 (bif ilt 8 (ofN (List.length l)) then some ((b, (false, ())), ((), ())) else (bif bif le3 (ofN 0) (ofN (List.length b)) (List.length b) then ieq (ofN (List.length b)) (ofN (List.length b)) else false then (oelim (l0 ((b, List.drop (Int.toNat (ofN 0)) (List.take (Int.toNat (ofN (List.length b))) b), l, ofN (List.length l), (0 : Int), ()), ())) none fun r0 => (selim r0 (fun r1 => some ((r1.1.1, (true, ())), ((), ()))) (fun r1 => some ((r1.1.1, (r1.1.2.1, ())), ((), ()))))) else none))
noncomputable def K120 : K120.T := K120.gen K114 K83 K120.F0
theorem K120.seq0 (cK114 : K114.T) (cK83 : K83.T) (l0 : K120.l0T) (a : K120.L0.T) : run Tryz.prog (K120.H cK114 cK83 l0) 6 (Option (K120.L0.T ⊕ ExT K120.X0)) none K120.B0 (K120.L0.enc a) (loopK (0, 13) K120.L0 K120.X0) = K120.step0 cK114 cK83 a := by kernel_rfl
theorem K120.inner0 : loopsOf K120.B0 = ([] : List Code) := by kernel_rfl
noncomputable abbrev K120.h := K120.H K114 K83 K120.F0
theorem K120.lok0 : LoopOK U Tryz.prog K120.h.ro K120.h.base K120.B0 (loopN (0, 13) K120.L0 K120.X0 K120.F0) :=
 loopN_ok (Hn := K120.h) U_ok U_pure (run_ok (hq (addΓ_ok (addΓ_ok noΓ_ok K114.ok) K83.ok) loops_nil (fun _ => rfl) (fun _ => rfl)) 6) (fun b h => by rw [K120.inner0] at h; exact h) (fun _ => rfl) (K120.seq0 K114 K83 K120.F0)
theorem K120.eq (cK114 : K114.T) (cK83 : K83.T) (l0 : K120.l0T) : EqA K120.sig (K120.H cK114 cK83 l0) Tryz.f62 6 (K120.W (K120.gen cK114 cK83 l0)) := by intro a x; kernel_rfl
theorem K120.loops : loopsOf K120.C = [(.loop K120.B0)] := by kernel_rfl
theorem K120.hints : HintsOK U Tryz.prog K120.h (fun c => c ∈ [(.loop K120.B0)]) := (hq (addΓ_ok (addΓ_ok noΓ_ok K114.ok) K83.ok) (loops_cons (by kernel_rfl) K120.lok0 loops_nil) (fun _ => rfl) (fun _ => rfl))
theorem K120.ok : NativeOK U Tryz.prog 62 (K120.sig.native (K120.W K120)) :=
 Sig.ok K120.sig (K120.W K120) U_pure (Hn := K120.h) (code := K120.C) (gos := 6) K120.hints Tryz.func62 (by kernel_rfl) (by kernel_rfl) (fun b h => by rw [K120.loops] at h; exact h) rfl rfl (by decide) (K120.eq K114 K83 K120.F0) (by decide)
noncomputable def K67.sig : Sig U := ⟨[.int .i64], [], 0, [.int .i64], false, []⟩
abbrev K67.T : Type := (Int) → Option ((Int × Unit) × Unit × Unit)
noncomputable def K67.W (f : K67.T) : K67.sig.F := fun a x => f a.1
noncomputable def K67.H : Hints U := { Γ := noΓ, ro := 0, base := 13 }
noncomputable def K67.gen : K67.T := fun typ =>
 (bif ieq typ 0 then some (((0 : Int), ()), ((), ())) else (bif ieq typ 1 then some (((1 : Int), ()), ((), ())) else (bif ieq typ 8 then some (((2 : Int), ()), ((), ())) else (bif ieq typ 9 then some (((3 : Int), ()), ((), ())) else (bif ieq typ 13 then some (((4 : Int), ()), ((), ())) else some (((5 : Int), ()), ((), ())))))))
noncomputable def K67 : K67.T := K67.gen
theorem K67.eq : EqA K67.sig (K67.H) Tryz.f119 6 (K67.W (K67.gen)) := by intro a x; kernel_rfl
theorem K67.hints : HintsOK U Tryz.prog (K67.H) (fun c => c ∈ ([] : List Code)) := (hq noΓ_ok loops_nil (fun _ => rfl) (fun _ => rfl))
theorem K67.ok : NativeOK U Tryz.prog 119 (K67.sig.native (K67.W K67)) :=
 Sig.ok K67.sig (K67.W (K67.gen)) U_pure (Hn := (K67.H)) (gos := 6) K67.hints Tryz.func119 rfl (by kernel_rfl) (fun b h => h) rfl rfl (by decide) (K67.eq) (by decide)
noncomputable def K66.sig : Sig U := ⟨[.data .t_api_Msg, .int .i64], [], 0, [.isl .u8, .bool], true, []⟩
abbrev K66.T : Type := (api_Msg) → (Int) → Option (((List (UInt8)) × Bool × Unit) × Unit × Unit)
noncomputable def K66.W (f : K66.T) : K66.sig.F := fun a x => f a.1 a.2.1
noncomputable def K66.H (cK63 : K63.T) (cK68 : K68.T) (cK83 : K83.T) (cK72 : K72.T) (cK67 : K67.T) : Hints U := { Γ := (addΓ 119 (K67.sig.native (K67.W cK67)) (addΓ 114 (K72.sig.native (K72.W cK72)) (addΓ 100 (K83.sig.native (K83.W cK83)) (addΓ 103 (K68.sig.native (K68.W cK68)) (addΓ 118 (K63.sig.native (K63.W cK63)) noΓ))))), ro := 0, base := 13, joinQ := fun b => (bif Nat.beq b 1 then some [(14, vb_)] else none) }
noncomputable def K66.gen (cK63 : K63.T) (cK68 : K68.T) (cK83 : K83.T) (cK72 : K72.T) (cK67 : K67.T) : K66.T := fun m length =>
 (oelim ((oelim (cK63 m) none fun r0 => (bif !r0.1.1 then some (true, ()) else (oelim (cK68 length 34 400) none fun r1 => some (!r1.1.1, ()))))) none fun r2 => (bif r2.1 then some ((lnil UInt8, (false, ())), ((), ())) else (oelim (cK83 (UInt8.ofNat (Int.toNat (IntKind.wrap .u8 m.fType)) :: UInt8.ofNat (Int.toNat 18) :: lnil UInt8) length 2) none fun r3 => (oelim (cK83 r3.1.1 m.fDomain 1) none fun r4 => (oelim (cK83 r4.1.1 0 1) none fun r5 => (oelim (cK83 r5.1.1 m.fFlags 2) none fun r6 => (oelim (cK83 r6.1.1 m.fCorr 8) none fun r7 => (oelim (cK83 r7.1.1 0 4) none fun r8 => (oelim (cK72 r8.1.1 m.fSource) none fun r9 => (oelim (cK83 r9.1.1 m.fSeq 2) none fun r10 => (oelim (cK67 m.fType) none fun r11 => (oelim (cK83 r10.1.1 r11.1.1 1) none fun r12 => (oelim (cK83 r12.1.1 m.fLog 1) none fun r13 => some ((r13.1.1, (true, ())), ((), ())))))))))))))))
noncomputable def K66 : K66.T := K66.gen K63 K68 K83 K72 K67
theorem K66.eq (cK63 : K63.T) (cK68 : K68.T) (cK83 : K83.T) (cK72 : K72.T) (cK67 : K67.T) : EqA K66.sig (K66.H cK63 cK68 cK83 cK72 cK67) Tryz.f63 6 (K66.W (K66.gen cK63 cK68 cK83 cK72 cK67)) := by intro a x; kernel_rfl
noncomputable abbrev K66.h := K66.H K63 K68 K83 K72 K67
theorem K66.hints : HintsOK U Tryz.prog K66.h (fun c => c ∈ ([] : List Code)) := (hq (addΓ_ok (addΓ_ok (addΓ_ok (addΓ_ok (addΓ_ok noΓ_ok K63.ok) K68.ok) K83.ok) K72.ok) K67.ok) loops_nil (fun _ => rfl) (fun _ => rfl))
theorem K66.ok : NativeOK U Tryz.prog 63 (K66.sig.native (K66.W K66)) :=
 Sig.ok K66.sig (K66.W K66) U_pure (Hn := K66.h) (gos := 6) K66.hints Tryz.func63 rfl (by kernel_rfl) (fun b h => h) rfl rfl (by decide) (K66.eq K63 K68 K83 K72 K67) (by decide)
noncomputable def K62.sig : Sig U := ⟨[.data .t_api_Msg, .isl .t_api_Tlv], [], 0, [.str, .bool], true, []⟩
abbrev K62.T : Type := (api_Msg) → (List (api_Tlv)) → Option ((ByteArray × Bool × Unit) × Unit × Unit)
noncomputable def K62.W (f : K62.T) : K62.sig.F := fun a x => f a.1 a.2.1
noncomputable def K62.C : Code := match Tryz.f33.body with | some c => c | none => .skip
noncomputable def K62.B0 : Code := match (loopsOf K62.C).getD 0 .skip with | .loop b => b | .scope b => b | _ => .skip
noncomputable def K62.H (cK3 : K3.T) (cK120 : K120.T) (cK66 : K66.T) : Hints U := { Γ := (addΓ 63 (K66.sig.native (K66.W cK66)) (addΓ 62 (K120.sig.native (K120.W cK120)) (addΓ 61 (K3.sig.native (K3.W cK3)) noΓ))), ro := 0, base := 13, gotos := 3, loop := fun b => none }
noncomputable def K62.gen (cK3 : K3.T) (cK120 : K120.T) (cK66 : K66.T) : K62.T := fun m l =>
 (oelim (cK3 (lnil UInt8) m) none fun r0 => (bif !r0.1.2.1 then some ((ByteArray.mk (List.toArray (lnil UInt8)), (false, ())), ((), ())) else (oelim (cK120 r0.1.1 l) none fun r1 => (bif !r1.1.2.1 then some ((ByteArray.mk (List.toArray (lnil UInt8)), (false, ())), ((), ())) else (oelim (cK66 m (iadd .i64 34 (ofN (List.length r1.1.1)))) none fun r2 => (bif !r2.1.2.1 then some ((ByteArray.mk (List.toArray (lnil UInt8)), (false, ())), ((), ())) else (bif Nat.ble (ByteArray.size (ByteArray.mk (List.toArray r2.1.1)) + ByteArray.size (ByteArray.mk (List.toArray r1.1.1))) 9223372036854775807 then some ((ByteArray.mk (List.toArray r2.1.1) ++ ByteArray.mk (List.toArray r1.1.1), (true, ())), ((), ())) else none)))))))
noncomputable def K62 : K62.T := K62.gen K3 K120 K66
theorem K62.eq (cK3 : K3.T) (cK120 : K120.T) (cK66 : K66.T) : EqA K62.sig (K62.H cK3 cK120 cK66) Tryz.f33 6 (K62.W (K62.gen cK3 cK120 cK66)) := by intro a x; kernel_rfl
theorem K62.loops : loopsOf K62.C = [(.scope K62.B0)] := by kernel_rfl
noncomputable abbrev K62.h := K62.H K3 K120 K66
theorem K62.hints : HintsOK U Tryz.prog K62.h (fun c => c ∈ [(.scope K62.B0)]) := (hq (addΓ_ok (addΓ_ok (addΓ_ok noΓ_ok K3.ok) K120.ok) K66.ok) (loops_skip loops_nil) (fun _ => rfl) (fun _ => rfl))
theorem K62.ok : NativeOK U Tryz.prog 33 (K62.sig.native (K62.W K62)) :=
 Sig.ok K62.sig (K62.W K62) U_pure (Hn := K62.h) (code := K62.C) (gos := 6) K62.hints Tryz.func33 (by kernel_rfl) (by kernel_rfl) (fun b h => by rw [K62.loops] at h; exact h) rfl rfl (by decide) (K62.eq K3 K120 K66) (by decide)
noncomputable def K22.sig : Sig U := ⟨[.ptr, .int .i64, .data .t_api_Msg, .isl .t_api_Tlv, .bool], [.obj .t_clock_Clock], 0, [], true, []⟩
abbrev K22.T : Type := (Int) → (api_Msg) → (List (api_Tlv)) → (Bool) → (clock_Clock) → Option (Unit × (clock_Clock × Unit) × Unit)
noncomputable def K22.W (f : K22.T) : K22.sig.F := fun a x => f a.2.1 a.2.2.1 a.2.2.2.1 a.2.2.2.2.1 x.1
noncomputable def K22.H (cK62 : K62.T) : Hints U := { Γ := (addΓ 33 (K62.sig.native (K62.W cK62)) noΓ), ro := 0, base := 14 }
noncomputable def K22.gen (cK62 : K62.T) : K22.T := fun n m l want h0 =>
 (oelim (cK62 m l) none fun r0 => (bif r0.1.2.1 then (bif room (List.length h0.fouts + List.length (api_Out.mk 1 n 0 want m.fType m.fSeq r0.1.1 :: lnil api_Out)) 64 then some ((), ((clock_Clock.set_fouts h0 (h0.fouts ++ api_Out.mk 1 n 0 want m.fType m.fSeq r0.1.1 :: lnil api_Out), ()), ())) else none) else some ((), ((h0, ()), ()))))
noncomputable def K22 : K22.T := K22.gen K62
theorem K22.eq (cK62 : K62.T) : EqA K22.sig (K22.H cK62) Tryz.f80 6 (K22.W (K22.gen cK62)) := by intro a x; kernel_rfl
noncomputable abbrev K22.h := K22.H K62
theorem K22.hints : HintsOK U Tryz.prog K22.h (fun c => c ∈ ([] : List Code)) := (hq (addΓ_ok noΓ_ok K62.ok) loops_nil (fun _ => rfl) (fun _ => rfl))
theorem K22.ok : NativeOK U Tryz.prog 80 (K22.sig.native (K22.W K22)) :=
 Sig.ok K22.sig (K22.W K22) U_pure (Hn := K22.h) (gos := 6) K22.hints Tryz.func80 rfl (by kernel_rfl) (fun b h => h) rfl rfl (by decide) (K22.eq K62) (by decide)
noncomputable def K102.sig : Sig U := ⟨[.int .i64], [], 0, [.int .i64], false, []⟩
abbrev K102.T : Type := (Int) → Option ((Int × Unit) × Unit × Unit)
noncomputable def K102.W (f : K102.T) : K102.sig.F := fun a x => f a.1
noncomputable def K102.H : Hints U := { Γ := noΓ, ro := 0, base := 13 }
noncomputable def K102.gen : K102.T := fun seq =>
 some ((iand .i64 (iadd .i64 (iand .i64 seq 65535) 1) 65535, ()), ((), ()))
noncomputable def K102 : K102.T := K102.gen
theorem K102.eq : EqA K102.sig (K102.H) Tryz.f142 6 (K102.W (K102.gen)) := by intro a x; kernel_rfl
theorem K102.hints : HintsOK U Tryz.prog (K102.H) (fun c => c ∈ ([] : List Code)) := (hq noΓ_ok loops_nil (fun _ => rfl) (fun _ => rfl))
theorem K102.ok : NativeOK U Tryz.prog 142 (K102.sig.native (K102.W K102)) :=
 Sig.ok K102.sig (K102.W (K102.gen)) U_pure (Hn := (K102.H)) (gos := 6) K102.hints Tryz.func142 rfl (by kernel_rfl) (fun b h => h) rfl rfl (by decide) (K102.eq) (by decide)
noncomputable def K88.sig : Sig U := ⟨[.ptr], [.obj .t_peer_Exchange], 0, [], true, []⟩
abbrev K88.T : Type := (peer_Exchange) → Option (Unit × (peer_Exchange × Unit) × Unit)
noncomputable def K88.W (f : K88.T) : K88.sig.F := fun a x => f x.1
noncomputable def K88.H : Hints U := { Γ := noΓ, ro := 0, base := 14 }
noncomputable def K88.gen : K88.T := fun h0 =>
 some ((), ((peer_Exchange.mk h0.fself h0.fdomain 0 0 false false false false z2_ 0, ()), ()))
noncomputable def K88 : K88.T := K88.gen
theorem K88.eq : EqA K88.sig (K88.H) Tryz.f98 6 (K88.W (K88.gen)) := by intro a x; kernel_rfl
theorem K88.hints : HintsOK U Tryz.prog (K88.H) (fun c => c ∈ ([] : List Code)) := (hq noΓ_ok loops_nil (fun _ => rfl) (fun _ => rfl))
theorem K88.ok : NativeOK U Tryz.prog 98 (K88.sig.native (K88.W K88)) :=
 Sig.ok K88.sig (K88.W (K88.gen)) U_pure (Hn := (K88.H)) (gos := 6) K88.hints Tryz.func98 rfl (by kernel_rfl) (fun b h => h) rfl rfl (by decide) (K88.eq) (by decide)
noncomputable def K89.sig : Sig U := ⟨[.ptr, .int .i64], [.obj .t_peer_Exchange], 0, [.data .t_api_Msg], false, []⟩
abbrev K89.T : Type := (Int) → (peer_Exchange) → Option ((api_Msg × Unit) × (peer_Exchange × Unit) × Unit)
noncomputable def K89.W (f : K89.T) : K89.sig.F := fun a x => f a.2.1 x.1
noncomputable def K89.H (cK88 : K88.T) : Hints U := { Γ := (addΓ 98 (K88.sig.native (K88.W cK88)) noΓ), ro := 0, base := 14 }
noncomputable def K89.gen (cK88 : K88.T) : K89.T := fun seq h0 =>
 (oelim (cK88 h0) none fun r0 => some ((api_Msg.mk 2 r0.2.1.1.fdomain 0 0 r0.2.1.1.fself (iand .i64 seq 65535) 127 0 z0_ 0 0 z1_ 0 0 0 0 0 0 0, ()), ((peer_Exchange.set_fout (peer_Exchange.set_fseq r0.2.1.1 (iand .i64 seq 65535)) true, ()), ())))
noncomputable def K89 : K89.T := K89.gen K88
theorem K89.eq (cK88 : K88.T) : EqA K89.sig (K89.H cK88) Tryz.f181 6 (K89.W (K89.gen cK88)) := by intro a x; kernel_rfl
noncomputable abbrev K89.h := K89.H K88
theorem K89.hints : HintsOK U Tryz.prog K89.h (fun c => c ∈ ([] : List Code)) := (hq (addΓ_ok noΓ_ok K88.ok) loops_nil (fun _ => rfl) (fun _ => rfl))
theorem K89.ok : NativeOK U Tryz.prog 181 (K89.sig.native (K89.W K89)) :=
 Sig.ok K89.sig (K89.W K89) U_pure (Hn := K89.h) (gos := 6) K89.hints Tryz.func181 rfl (by kernel_rfl) (fun b h => h) rfl rfl (by decide) (K89.eq K88) (by decide)
noncomputable def K50.sig : Sig U := ⟨[.ptr, .int .i64, .int .i64], [.obj .t_delay_Exchange], 0, [.data .t_api_Msg], false, []⟩
abbrev K50.T : Type := (Int) → (Int) → (delay_Exchange) → Option ((api_Msg × Unit) × (delay_Exchange × Unit) × Unit)
noncomputable def K50.W (f : K50.T) : K50.sig.F := fun a x => f a.2.1 a.2.2.1 x.1
noncomputable def K50.H : Hints U := { Γ := noΓ, ro := 0, base := 14 }
noncomputable def K50.gen : K50.T := fun seq a_2 h0 =>
 some ((api_Msg.mk 1 h0.fdomain 0 0 h0.fself (iand .i64 seq 65535) 127 0 z0_ 0 0 z1_ 0 0 0 0 0 0 0, ()), ((delay_Exchange.set_fr h0 (delay_request.mk (iand .i64 seq 65535) 0 true false), ()), ()))
noncomputable def K50 : K50.T := K50.gen
theorem K50.eq : EqA K50.sig (K50.H) Tryz.f182 6 (K50.W (K50.gen)) := by intro a x; kernel_rfl
theorem K50.hints : HintsOK U Tryz.prog (K50.H) (fun c => c ∈ ([] : List Code)) := (hq noΓ_ok loops_nil (fun _ => rfl) (fun _ => rfl))
theorem K50.ok : NativeOK U Tryz.prog 182 (K50.sig.native (K50.W K50)) :=
 Sig.ok K50.sig (K50.W (K50.gen)) U_pure (Hn := (K50.H)) (gos := 6) K50.hints Tryz.func182 rfl (by kernel_rfl) (fun b h => h) rfl rfl (by decide) (K50.eq) (by decide)
noncomputable def K33.sig : Sig U := ⟨[.ptr, .bool], [.obj .t_clock_side, fm7_, fm8_], 0, [.data .t_api_Msg], false, []⟩
abbrev K33.T : Type := (Bool) → (clock_side) → (Fm delay_Exchange) → (Fm peer_Exchange) → Option ((api_Msg × Unit) × (clock_side × (Fm delay_Exchange) × (Fm peer_Exchange) × Unit) × Unit)
noncomputable def K33.W (f : K33.T) : K33.sig.F := fun a x => f a.2.1 x.1 x.2.1 x.2.2.1
noncomputable def K33.JR2 : Exits U := [(.normal, ⟨24, 15, [(4, .ptr 14 0 0)], [(13, .obj .t_clock_side), (14, .obj .t_api_Msg), (7, .famN false .t_delay_Exchange), (8, .famN false .t_peer_Exchange)]⟩)]
noncomputable def K33.H (cK89 : K89.T) (cK50 : K50.T) : Hints U := { Γ := (addΓ 182 (K50.sig.native (K50.W cK50)) (addΓ 181 (K89.sig.native (K89.W cK89)) noΓ)), ro := 0, base := 14, joinR := fun b => (bif Nat.beq b 2 then some K33.JR2 else none) }
noncomputable def K33.gen (cK89 : K89.T) (cK50 : K50.T) : K33.T := fun peer h0 g7 g8 =>
 (bif peer then (oelim ((oelim (h0.14) none fun r0 => (oelim (cK89 h0.frequests (g8.2 r0)) none fun r1 => some ((), (h0, (r1.1.1, (g7, ((g8.1, fset g8.2 r0 r1.2.1.1), ())))))))) none fun r2 => some ((r2.2.2.1, ()), ((r2.2.1, (r2.2.2.2.1, (r2.2.2.2.2.1, ()))), ()))) else (oelim (h0.13) none fun r3 => (oelim (cK50 h0.frequests 0 (g7.2 r3)) none fun r4 => some ((r4.1.1, ()), ((h0, ((g7.1, fset g7.2 r3 r4.2.1.1), (g8, ()))), ())))))
noncomputable def K33 : K33.T := K33.gen K89 K50
theorem K33.eq (cK89 : K89.T) (cK50 : K50.T) : EqA K33.sig (K33.H cK89 cK50) Tryz.f143 6 (K33.W (K33.gen cK89 cK50)) := by intro a x; kernel_rfl
noncomputable abbrev K33.h := K33.H K89 K50
theorem K33.hints : HintsOK U Tryz.prog K33.h (fun c => c ∈ ([] : List Code)) := (hq (addΓ_ok (addΓ_ok noΓ_ok K89.ok) K50.ok) loops_nil (fun _ => rfl) (fun _ => rfl))
theorem K33.ok : NativeOK U Tryz.prog 143 (K33.sig.native (K33.W K33)) :=
 Sig.ok K33.sig (K33.W K33) U_pure (Hn := K33.h) (gos := 6) K33.hints Tryz.func143 rfl (by kernel_rfl) (fun b h => h) rfl rfl (by decide) (K33.eq K89 K50) (by decide)
noncomputable def K27.sig : Sig U := ⟨[.ptr, .int .i64, .int .i64], [.obj .t_clock_Clock, fm7_, fm8_, .fam 12 (.map true false .t_api_PortID .l_u64)], 0, [], true, []⟩
abbrev K27.T : Type := (Int) → (Int) → (clock_Clock) → (Fm delay_Exchange) → (Fm peer_Exchange) → (Nat × (Nat → List (api_PortID × List (Int)))) → Option (Unit × (clock_Clock × (Fm delay_Exchange) × (Fm peer_Exchange) × (Nat × (Nat → List (api_PortID × List (Int)))) × Unit) × Unit)
noncomputable def K27.W (f : K27.T) : K27.sig.F := fun a x => f a.2.1 a.2.2.1 x.1 x.2.1 x.2.2.1 x.2.2.2.1
noncomputable def K27.JR20 : Exits U := [(.normal, ⟨179, 14, [(0, .ptr 13 0 0), (6, .aptr 13 23 42 8 0)], [(13, .obj .t_clock_Clock), (7, .famN false .t_delay_Exchange), (8, .famN false .t_peer_Exchange), (12, .mfam true false .t_api_PortID .l_u64)]⟩)]
noncomputable def K27.JR19 : Exits U := [(.normal, ⟨179, 14, [(0, .ptr 13 0 0), (6, .aptr 13 23 42 8 0)], [(13, .obj .t_clock_Clock), (7, .famN false .t_delay_Exchange), (8, .famN false .t_peer_Exchange), (12, .mfam true false .t_api_PortID .l_u64)]⟩)]
noncomputable def K27.JR18 : Exits U := [(.normal, ⟨179, 15, [(0, .ptr 13 0 0), (1, vi_), (6, .aptr 13 23 42 8 0), (9, .ptr 14 0 0)], [(13, .obj .t_clock_Clock), (14, .obj .t_api_Msg), (7, .famN false .t_delay_Exchange), (8, .famN false .t_peer_Exchange), (12, .mfam true false .t_api_PortID .l_u64)]⟩)]
noncomputable def K27.JR17 : Exits U := [(.normal, ⟨179, 15, [(0, .ptr 13 0 0), (1, vi_), (6, .aptr 13 23 42 8 0), (9, .ptr 14 0 0)], [(13, .obj .t_clock_Clock), (14, .obj .t_api_Msg), (7, .famN false .t_delay_Exchange), (8, .famN false .t_peer_Exchange), (12, .mfam true false .t_api_PortID .l_u64)]⟩)]
noncomputable def K27.JR16 : Exits U := [(.normal, ⟨179, 14, [(0, .ptr 13 0 0), (1, vi_), (6, .aptr 13 23 42 8 0), (143, vb_)], [(13, .obj .t_clock_Clock), (7, .famN false .t_delay_Exchange), (8, .famN false .t_peer_Exchange), (12, .mfam true false .t_api_PortID .l_u64)]⟩)]
noncomputable def K27.JR11 : Exits U := [(.normal, ⟨179, 14, [(0, .ptr 13 0 0), (1, vi_), (6, .aptr 13 23 42 8 0)], [(13, .obj .t_clock_Clock), (7, .famN false .t_delay_Exchange), (8, .famN false .t_peer_Exchange), (12, .mfam true false .t_api_PortID .l_u64)]⟩)]
noncomputable def K27.JR10 : Exits U := [(.normal, ⟨179, 14, [(0, .ptr 13 0 0), (1, vi_), (6, .aptr 13 23 42 8 0)], [(13, .obj .t_clock_Clock), (7, .famN false .t_delay_Exchange), (8, .famN false .t_peer_Exchange), (12, .mfam true false .t_api_PortID .l_u64)]⟩)]
noncomputable def K27.JR6 : Exits U := [(.normal, ⟨179, 15, [(0, .ptr 13 0 0), (1, vi_), (2, vi_), (6, .aptr 13 23 42 8 0), (7, .ptr 14 0 0)], [(13, .obj .t_clock_Clock), (14, .obj .t_api_Msg), (7, .famN false .t_delay_Exchange), (8, .famN false .t_peer_Exchange), (12, .mfam true false .t_api_PortID .l_u64)]⟩)]
noncomputable def K27.JR5 : Exits U := [(.normal, ⟨179, 14, [(0, .ptr 13 0 0), (1, vi_), (2, vi_), (6, .aptr 13 23 42 8 0), (67, vb_)], [(13, .obj .t_clock_Clock), (7, .famN false .t_delay_Exchange), (8, .famN false .t_peer_Exchange), (12, .mfam true false .t_api_PortID .l_u64)]⟩)]
noncomputable def K27.JR3 : Exits U := [(.normal, ⟨179, 14, [(0, .ptr 13 0 0), (1, vi_), (2, vi_), (6, .aptr 13 23 42 8 0)], [(13, .obj .t_clock_Clock), (7, .famN false .t_delay_Exchange), (8, .famN false .t_peer_Exchange), (12, .mfam true false .t_api_PortID .l_u64)]⟩)]
noncomputable def K27.JR2 : Exits U := [(.normal, ⟨179, 14, [(0, .ptr 13 0 0), (1, vi_), (2, vi_), (6, .aptr 13 23 42 8 0)], [(13, .obj .t_clock_Clock), (7, .famN false .t_delay_Exchange), (8, .famN false .t_peer_Exchange), (12, .mfam true false .t_api_PortID .l_u64)]⟩)]
noncomputable def K27.JR1 : Exits U := [(.normal, ⟨179, 14, [(0, .ptr 13 0 0), (1, vi_), (2, vi_), (6, .aptr 13 23 42 8 0), (23, vb_)], [(13, .obj .t_clock_Clock), (7, .famN false .t_delay_Exchange), (8, .famN false .t_peer_Exchange), (12, .mfam true false .t_api_PortID .l_u64)]⟩)]
noncomputable def K27.JC15 : Exits U := [(.normal, ⟨179, 14, [(0, .ptr 13 0 0), (1, vi_), (6, .aptr 13 23 42 8 0), (8, vb_)], [(13, .obj .t_clock_Clock), (7, .famN false .t_delay_Exchange), (8, .famN false .t_peer_Exchange), (12, .mfam true false .t_api_PortID .l_u64)]⟩)]
noncomputable def K27.JC8 : Exits U := [(.normal, ⟨179, 15, [(0, .ptr 13 0 0), (1, vi_), (6, .aptr 13 23 42 8 0), (7, .ptr 14 0 0)], [(13, .obj .t_clock_Clock), (14, .obj .t_api_Msg), (7, .famN false .t_delay_Exchange), (8, .famN false .t_peer_Exchange), (12, .mfam true false .t_api_PortID .l_u64)]⟩)]
noncomputable def K27.JC6 : Exits U := [(.normal, ⟨179, 14, [(0, .ptr 13 0 0), (1, vi_), (6, .aptr 13 23 42 8 0)], [(13, .obj .t_clock_Clock), (7, .famN false .t_delay_Exchange), (8, .famN false .t_peer_Exchange), (12, .mfam true false .t_api_PortID .l_u64)]⟩)]
noncomputable def K27.JC2 : Exits U := [(.normal, ⟨179, 14, [(0, .ptr 13 0 0), (1, vi_), (2, vi_), (6, .aptr 13 23 42 8 0)], [(13, .obj .t_clock_Clock), (7, .famN false .t_delay_Exchange), (8, .famN false .t_peer_Exchange), (12, .mfam true false .t_api_PortID .l_u64)]⟩)]
noncomputable def K27.H (cK26 : K26.T) (cK113 : K113.T) (cK124 : K124.T) (cK23 : K23.T) (cK22 : K22.T) (cK102 : K102.T) (cK13 : K13.T) (cK111 : K111.T) (cK25 : K25.T) (cK109 : K109.T) (cK93 : K93.T) (cK91 : K91.T) (cK33 : K33.T) : Hints U := { Γ := (addΓ 143 (K33.sig.native (K33.W cK33)) (addΓ 74 (K91.sig.native (K91.W cK91)) (addΓ 76 (K93.sig.native (K93.W cK93)) (addΓ 132 (K109.sig.native (K109.W cK109)) (addΓ 79 (K25.sig.native (K25.W cK25)) (addΓ 126 (K111.sig.native (K111.W cK111)) (addΓ 70 (K13.sig.native (K13.W cK13)) (addΓ 142 (K102.sig.native (K102.W cK102)) (addΓ 80 (K22.sig.native (K22.W cK22)) (addΓ 141 (K23.sig.native (K23.W cK23)) (addΓ 140 (K124.sig.native (K124.W cK124)) (addΓ 130 (K113.sig.native (K113.W cK113)) (addΓ 52 (K26.sig.native (K26.W cK26)) noΓ))))))))))))), ro := 0, base := 14, joinR := fun b => (bif Nat.beq b 1 then some K27.JR1 else (bif Nat.beq b 2 then some K27.JR2 else (bif Nat.beq b 3 then some K27.JR3 else (bif Nat.beq b 5 then some K27.JR5 else (bif Nat.beq b 6 then some K27.JR6 else (bif Nat.beq b 10 then some K27.JR10 else (bif Nat.beq b 11 then some K27.JR11 else (bif Nat.beq b 16 then some K27.JR16 else (bif Nat.beq b 17 then some K27.JR17 else (bif Nat.beq b 18 then some K27.JR18 else (bif Nat.beq b 19 then some K27.JR19 else (bif Nat.beq b 20 then some K27.JR20 else none)))))))))))), joinC := fun b => (bif Nat.beq b 2 then some K27.JC2 else (bif Nat.beq b 6 then some K27.JC6 else (bif Nat.beq b 8 then some K27.JC8 else (bif Nat.beq b 15 then some K27.JC15 else none)))) }
noncomputable def K27.gen (cK26 : K26.T) (cK113 : K113.T) (cK124 : K124.T) (cK23 : K23.T) (cK22 : K22.T) (cK102 : K102.T) (cK13 : K13.T) (cK111 : K111.T) (cK25 : K25.T) (cK109 : K109.T) (cK93 : K93.T) (cK91 : K91.T) (cK33 : K33.T) : K27.T := fun n now h0 g7 g8 g12 =>
 (oelim (cK26 n h0) none fun r0 => (oelim ((bif ieq (h0.fports r0.1.1).fstate 6 then (oelim (cK113 (h0.fports r0.1.1).fannounce) none fun r1 => some ((n, (now, (r0.1.1, (r1.1.1, ())))), (clock_Clock.set_fports h0 (fset h0.fports r0.1.1 (clock_side.set_fannounce (h0.fports r0.1.1) r1.2.1.1)), (g7, (g8, (g12, ())))))) else some ((n, (now, (r0.1.1, (false, ())))), (h0, (g7, (g8, (g12, ()))))))) none fun r2 => (oelim ((bif r2.1.2.2.2.1 then (oelim ((oelim (cK124 r2.2.1.fconf r2.2.1.fparent r2.1.1 (r2.2.1.fports r2.1.2.2.1).fannounces) none fun r3 => (oelim (cK23 r2.2.1 r2.2.2.2.2.1) none fun r4 => (oelim (cK22 r2.1.1 r3.1.1 r4.1.1 false r2.2.1) none fun r5 => some ((r2.1.1, (r2.1.2.1, (r2.1.2.2.1, ()))), (r5.2.1.1, (r2.2.2.1, (r2.2.2.2.1, (r2.2.2.2.2.1, ()))))))))) none fun r6 => (oelim ((oelim (cK102 (r6.2.1.fports r6.1.2.2.1).fannounces) none fun r7 => some ((r6.1.1, (r6.1.2.1, (r6.1.2.2.1, ()))), (clock_Clock.set_fports r6.2.1 (fset r6.2.1.fports r6.1.2.2.1 (clock_side.set_fannounces (r6.2.1.fports r6.1.2.2.1) r7.1.1)), (r6.2.2.1, (r6.2.2.2.1, (r6.2.2.2.2.1, ()))))))) none fun r8 => (oelim (cK13 r8.2.1) none fun r9 => (oelim (cK111 r9.1.1 (r8.2.1.fports r8.1.2.2.1).fannounce) none fun r10 => some ((r8.1.1, (r8.1.2.1, (r8.1.2.2.1, ()))), (clock_Clock.set_fports r8.2.1 (fset r8.2.1.fports r8.1.2.2.1 (clock_side.set_fannounce (r8.2.1.fports r8.1.2.2.1) r10.2.1.1)), (r8.2.2.1, (r8.2.2.2.1, (r8.2.2.2.2.1, ()))))))))) else some ((r2.1.1, (r2.1.2.1, (r2.1.2.2.1, ()))), (r2.2.1, (r2.2.2.1, (r2.2.2.2.1, (r2.2.2.2.2.1, ()))))))) none fun r11 => (oelim ((bif ieq (r11.2.1.fports r11.1.2.2.1).fstate 6 then (oelim (cK113 (r11.2.1.fports r11.1.2.2.1).fsync) none fun r12 => some ((r11.1.1, (r11.1.2.1, (r11.1.2.2.1, (r12.1.1, ())))), (clock_Clock.set_fports r11.2.1 (fset r11.2.1.fports r11.1.2.2.1 (clock_side.set_fsync (r11.2.1.fports r11.1.2.2.1) r12.2.1.1)), (r11.2.2.1, (r11.2.2.2.1, (r11.2.2.2.2.1, ())))))) else some ((r11.1.1, (r11.1.2.1, (r11.1.2.2.1, (false, ())))), (r11.2.1, (r11.2.2.1, (r11.2.2.2.1, (r11.2.2.2.2.1, ()))))))) none fun r13 => (oelim ((bif r13.1.2.2.2.1 then (oelim ((oelim (cK25 r13.1.1 r13.2.1) none fun r14 => some ((r13.1.1, (r13.1.2.1, (r13.1.2.2.1, ()))), (r13.2.1, (api_Msg.mk 0 r13.2.1.fconf.fDomain 0 0 r14.1.1 (r13.2.1.fports r13.1.2.2.1).fsyncs r13.2.1.fconf.fLogSync 0 z0_ 0 0 z1_ 0 0 0 0 0 0 0, (r13.2.2.1, (r13.2.2.2.1, (r13.2.2.2.2.1, ())))))))) none fun r15 => (oelim ((bif r15.2.1.fconf.fOneStep then some ((r15.1.1, (r15.1.2.2.1, ())), (r15.2.1, (api_Msg.set_fStamp r15.2.2.1 r15.1.2.1, (r15.2.2.2.1, (r15.2.2.2.2.1, (r15.2.2.2.2.2.1, ())))))) else some ((r15.1.1, (r15.1.2.2.1, ())), (r15.2.1, (api_Msg.set_fFlags r15.2.2.1 512, (r15.2.2.2.1, (r15.2.2.2.2.1, (r15.2.2.2.2.2.1, ())))))))) none fun r16 => (oelim ((oelim (cK22 r16.1.1 r16.2.2.1 (lnil api_Tlv) (!r16.2.1.fconf.fOneStep) r16.2.1) none fun r17 => some ((r16.1.1, (r16.1.2.1, ())), (r17.2.1.1, (r16.2.2.2.1, (r16.2.2.2.2.1, (r16.2.2.2.2.2.1, ()))))))) none fun r18 => (oelim ((oelim (cK102 (r18.2.1.fports r18.1.2.1).fsyncs) none fun r19 => some ((r18.1.1, (r18.1.2.1, ())), (clock_Clock.set_fports r18.2.1 (fset r18.2.1.fports r18.1.2.1 (clock_side.set_fsyncs (r18.2.1.fports r18.1.2.1) r19.1.1)), (r18.2.2.1, (r18.2.2.2.1, (r18.2.2.2.2.1, ()))))))) none fun r20 => (oelim (cK109 r20.2.1.fconf.fLogSync) none fun r21 => (oelim (cK111 r21.1.1 (r20.2.1.fports r20.1.2.1).fsync) none fun r22 => some ((r20.1.1, (r20.1.2.1, ())), (clock_Clock.set_fports r20.2.1 (fset r20.2.1.fports r20.1.2.1 (clock_side.set_fsync (r20.2.1.fports r20.1.2.1) r22.2.1.1)), (r20.2.2.1, (r20.2.2.2.1, (r20.2.2.2.2.1, ()))))))))))) else some ((r13.1.1, (r13.1.2.2.1, ())), (r13.2.1, (r13.2.2.1, (r13.2.2.2.1, (r13.2.2.2.2.1, ()))))))) none fun r23 => (oelim (cK93 (r23.2.1.fports r23.1.2.1).fstate) none fun r24 => (oelim ((bif r23.2.1.fconf.fPeer then (oelim (cK91 (r23.2.1.fports r23.1.2.1).fstate) none fun r25 => some ((r23.1.1, (r23.1.2.1, (r25.1.1, ()))), (r23.2.1, (r23.2.2.1, (r23.2.2.2.1, (r23.2.2.2.2.1, ())))))) else some ((r23.1.1, (r23.1.2.1, (r24.1.1, ()))), (r23.2.1, (r23.2.2.1, (r23.2.2.2.1, (r23.2.2.2.2.1, ()))))))) none fun r26 => (oelim ((bif r26.1.2.2.1 then (oelim (cK113 (r26.2.1.fports r26.1.2.1).fask) none fun r27 => some ((r26.1.1, (r26.1.2.1, (r27.1.1, ()))), (clock_Clock.set_fports r26.2.1 (fset r26.2.1.fports r26.1.2.1 (clock_side.set_fask (r26.2.1.fports r26.1.2.1) r27.2.1.1)), (r26.2.2.1, (r26.2.2.2.1, (r26.2.2.2.2.1, ())))))) else some ((r26.1.1, (r26.1.2.1, (false, ()))), (r26.2.1, (r26.2.2.1, (r26.2.2.2.1, (r26.2.2.2.2.1, ()))))))) none fun r28 => (bif r28.1.2.2.1 then (oelim ((oelim (cK33 r28.2.1.fconf.fPeer (r28.2.1.fports r28.1.2.1) r28.2.2.1 r28.2.2.2.1) none fun r29 => some ((r28.1.1, (r28.1.2.1, ())), (clock_Clock.set_fports r28.2.1 (fset r28.2.1.fports r28.1.2.1 r29.2.1.1), (r29.1.1, (r29.2.1.2.1, (r29.2.1.2.2.1, (r28.2.2.2.2.1, ())))))))) none fun r30 => (oelim ((oelim (cK22 r30.1.1 (api_Msg.set_fDomain r30.2.2.1 r30.2.1.fconf.fDomain) (lnil api_Tlv) true r30.2.1) none fun r31 => some ((r30.1.2.1, ()), (r31.2.1.1, (r30.2.2.2.1, (r30.2.2.2.2.1, (r30.2.2.2.2.2.1, ()))))))) none fun r32 => (oelim ((oelim (cK102 (r32.2.1.fports r32.1.1).frequests) none fun r33 => some ((r32.1.1, ()), (clock_Clock.set_fports r32.2.1 (fset r32.2.1.fports r32.1.1 (clock_side.set_frequests (r32.2.1.fports r32.1.1) r33.1.1)), (r32.2.2.1, (r32.2.2.2.1, (r32.2.2.2.2.1, ()))))))) none fun r34 => (oelim (cK109 r34.2.1.fconf.fLogDelay) none fun r35 => (oelim (cK111 r35.1.1 (r34.2.1.fports r34.1.1).fask) none fun r36 => some ((), ((clock_Clock.set_fports r34.2.1 (fset r34.2.1.fports r34.1.1 (clock_side.set_fask (r34.2.1.fports r34.1.1) r36.2.1.1)), (r34.2.2.1, (r34.2.2.2.1, (r34.2.2.2.2.1, ())))), ()))))))) else some ((), ((r28.2.1, (r28.2.2.1, (r28.2.2.2.1, (r28.2.2.2.2.1, ())))), ())))))))))))
noncomputable def K27 : K27.T := K27.gen K26 K113 K124 K23 K22 K102 K13 K111 K25 K109 K93 K91 K33
theorem K27.eq (cK26 : K26.T) (cK113 : K113.T) (cK124 : K124.T) (cK23 : K23.T) (cK22 : K22.T) (cK102 : K102.T) (cK13 : K13.T) (cK111 : K111.T) (cK25 : K25.T) (cK109 : K109.T) (cK93 : K93.T) (cK91 : K91.T) (cK33 : K33.T) : EqA K27.sig (K27.H cK26 cK113 cK124 cK23 cK22 cK102 cK13 cK111 cK25 cK109 cK93 cK91 cK33) Tryz.f72 6 (K27.W (K27.gen cK26 cK113 cK124 cK23 cK22 cK102 cK13 cK111 cK25 cK109 cK93 cK91 cK33)) := by intro a x; kernel_rfl
noncomputable abbrev K27.h := K27.H K26 K113 K124 K23 K22 K102 K13 K111 K25 K109 K93 K91 K33
theorem K27.hints : HintsOK U Tryz.prog K27.h (fun c => c ∈ ([] : List Code)) := (hq (addΓ_ok (addΓ_ok (addΓ_ok (addΓ_ok (addΓ_ok (addΓ_ok (addΓ_ok (addΓ_ok (addΓ_ok (addΓ_ok (addΓ_ok (addΓ_ok (addΓ_ok noΓ_ok K26.ok) K113.ok) K124.ok) K23.ok) K22.ok) K102.ok) K13.ok) K111.ok) K25.ok) K109.ok) K93.ok) K91.ok) K33.ok) loops_nil (fun _ => rfl) (fun _ => rfl))
theorem K27.ok : NativeOK U Tryz.prog 72 (K27.sig.native (K27.W K27)) :=
 Sig.ok K27.sig (K27.W K27) U_pure (Hn := K27.h) (gos := 6) K27.hints Tryz.func72 rfl (by kernel_rfl) (fun b h => h) rfl rfl (by decide) (K27.eq K26 K113 K124 K23 K22 K102 K13 K111 K25 K109 K93 K91 K33) (by decide)
noncomputable def K28.sig : Sig U := ⟨[.ptr, .int .i64], [.obj .t_clock_Clock, fm6_, fm7_, fm8_, fm9_, fm10_, .fam 12 (.map true false .t_api_PortID .l_u64)], 0, [], true, []⟩
abbrev K28.T : Type := (Int) → (clock_Clock) → (Fm foreign_Table) → (Fm delay_Exchange) → (Fm peer_Exchange) → (Fm median_Filter) → (Fm seq_Match) → (Nat × (Nat → List (api_PortID × List (Int)))) → Option (Unit × (clock_Clock × (Fm foreign_Table) × (Fm delay_Exchange) × (Fm peer_Exchange) × (Fm median_Filter) × (Fm seq_Match) × (Nat × (Nat → List (api_PortID × List (Int)))) × Unit) × Unit)
noncomputable def K28.W (f : K28.T) : K28.sig.F := fun a x => f a.2.1 x.1 x.2.1 x.2.2.1 x.2.2.2.1 x.2.2.2.2.1 x.2.2.2.2.2.1 x.2.2.2.2.2.2.1
noncomputable def K28.L0 : Shape U := ⟨52, 14, [(0, .ptr 13 0 0), (1, vi_), (4, vi_)], [(13, .obj .t_clock_Clock), (6, .famN false .t_foreign_Table), (7, .famN false .t_delay_Exchange), (8, .famN false .t_peer_Exchange), (9, .famN false .t_median_Filter), (10, .famN false .t_seq_Match), (12, .mfam true false .t_api_PortID .l_u64)]⟩
noncomputable def K28.X0 : Exits U := [(.exit 0, ⟨52, 14, [(0, .ptr 13 0 0), (1, vi_)], [(13, .obj .t_clock_Clock), (6, .famN false .t_foreign_Table), (7, .famN false .t_delay_Exchange), (8, .famN false .t_peer_Exchange), (9, .famN false .t_median_Filter), (10, .famN false .t_seq_Match), (12, .mfam true false .t_api_PortID .l_u64)]⟩)]
abbrev K28.l0T : Type := ((Int × Int × Unit) × (clock_Clock × (Fm foreign_Table) × (Fm delay_Exchange) × (Fm peer_Exchange) × (Fm median_Filter) × (Fm seq_Match) × (Nat × (Nat → List (api_PortID × List (Int)))) × Unit)) → Option (((Int × Unit) × (clock_Clock × (Fm foreign_Table) × (Fm delay_Exchange) × (Fm peer_Exchange) × (Fm median_Filter) × (Fm seq_Match) × (Nat × (Nat → List (api_PortID × List (Int)))) × Unit)))
noncomputable def K28.L1 : Shape U := ⟨52, 14, [(0, .ptr 13 0 0), (1, vi_), (5, vi_)], [(13, .obj .t_clock_Clock), (6, .famN false .t_foreign_Table), (7, .famN false .t_delay_Exchange), (8, .famN false .t_peer_Exchange), (9, .famN false .t_median_Filter), (10, .famN false .t_seq_Match), (12, .mfam true false .t_api_PortID .l_u64)]⟩
noncomputable def K28.X1 : Exits U := [(.exit 2, ⟨52, 14, [], [(13, .obj .t_clock_Clock), (6, .famN false .t_foreign_Table), (7, .famN false .t_delay_Exchange), (8, .famN false .t_peer_Exchange), (9, .famN false .t_median_Filter), (10, .famN false .t_seq_Match), (12, .mfam true false .t_api_PortID .l_u64)]⟩)]
abbrev K28.l1T : Type := ((Int × Int × Unit) × (clock_Clock × (Fm foreign_Table) × (Fm delay_Exchange) × (Fm peer_Exchange) × (Fm median_Filter) × (Fm seq_Match) × (Nat × (Nat → List (api_PortID × List (Int)))) × Unit)) → Option ((Unit × (clock_Clock × (Fm foreign_Table) × (Fm delay_Exchange) × (Fm peer_Exchange) × (Fm median_Filter) × (Fm seq_Match) × (Nat × (Nat → List (api_PortID × List (Int)))) × Unit)))
noncomputable def K28.C : Code := match Tryz.f44.body with | some c => c | none => .skip
noncomputable def K28.B0 : Code := match (loopsOf K28.C).getD 0 .skip with | .loop b => b | .scope b => b | _ => .skip
noncomputable def K28.B1 : Code := match (loopsOf K28.C).getD 1 .skip with | .loop b => b | .scope b => b | _ => .skip
noncomputable def K28.JR10 : Exits U := [(.normal, ⟨52, 14, [(0, .ptr 13 0 0), (1, vi_), (5, vi_)], [(13, .obj .t_clock_Clock), (6, .famN false .t_foreign_Table), (7, .famN false .t_delay_Exchange), (8, .famN false .t_peer_Exchange), (9, .famN false .t_median_Filter), (10, .famN false .t_seq_Match), (12, .mfam true false .t_api_PortID .l_u64)]⟩)]
noncomputable def K28.JR4 : Exits U := [(.normal, ⟨52, 14, [(0, .ptr 13 0 0), (1, vi_), (4, vi_)], [(13, .obj .t_clock_Clock), (6, .famN false .t_foreign_Table), (7, .famN false .t_delay_Exchange), (8, .famN false .t_peer_Exchange), (9, .famN false .t_median_Filter), (10, .famN false .t_seq_Match), (12, .mfam true false .t_api_PortID .l_u64)]⟩)]
noncomputable def K28.JR0 : Exits U := [(.normal, ⟨52, 14, [(0, .ptr 13 0 0), (1, vi_)], [(13, .obj .t_clock_Clock), (6, .famN false .t_foreign_Table), (7, .famN false .t_delay_Exchange), (8, .famN false .t_peer_Exchange), (9, .famN false .t_median_Filter), (10, .famN false .t_seq_Match), (12, .mfam true false .t_api_PortID .l_u64)]⟩)]
noncomputable def K28.JC6 : Exits U := [(.normal, ⟨52, 14, [(0, .ptr 13 0 0), (1, vi_)], [(13, .obj .t_clock_Clock), (6, .famN false .t_foreign_Table), (7, .famN false .t_delay_Exchange), (8, .famN false .t_peer_Exchange), (9, .famN false .t_median_Filter), (10, .famN false .t_seq_Match), (12, .mfam true false .t_api_PortID .l_u64)]⟩)]
noncomputable def K28.H (cK26 : K26.T) (cK16 : K16.T) (cK13 : K13.T) (cK17 : K17.T) (cK27 : K27.T) (l0 : K28.l0T) (l1 : K28.l1T) : Hints U := { Γ := (addΓ 72 (K27.sig.native (K27.W cK27)) (addΓ 71 (K17.sig.native (K17.W cK17)) (addΓ 70 (K13.sig.native (K13.W cK13)) (addΓ 69 (K16.sig.native (K16.W cK16)) (addΓ 52 (K26.sig.native (K26.W cK26)) noΓ))))), ro := 0, base := 14, joinR := fun b => (bif Nat.beq b 0 then some K28.JR0 else (bif Nat.beq b 4 then some K28.JR4 else (bif Nat.beq b 10 then some K28.JR10 else none))), joinC := fun b => (bif Nat.beq b 6 then some K28.JC6 else none), loop := fun b => (bif Nat.beq b 2 then some (loopN (0, 14) K28.L0 K28.X0 l0) else (bif Nat.beq b 8 then some (loopN (0, 14) K28.L1 K28.X1 l1) else none)) }
noncomputable def K28.step1 (cK26 : K26.T) (cK16 : K16.T) (cK13 : K13.T) (cK17 : K17.T) (cK27 : K27.T) (a : (Int × Int × Unit) × (clock_Clock × (Fm foreign_Table) × (Fm delay_Exchange) × (Fm peer_Exchange) × (Fm median_Filter) × (Fm seq_Match) × (Nat × (Nat → List (api_PortID × List (Int)))) × Unit)) : Option (((Int × Int × Unit) × (clock_Clock × (Fm foreign_Table) × (Fm delay_Exchange) × (Fm peer_Exchange) × (Fm median_Filter) × (Fm seq_Match) × (Nat × (Nat → List (api_PortID × List (Int)))) × Unit)) ⊕ ((Unit × (clock_Clock × (Fm foreign_Table) × (Fm delay_Exchange) × (Fm peer_Exchange) × (Fm median_Filter) × (Fm seq_Match) × (Nat × (Nat → List (api_PortID × List (Int)))) × Unit)))) :=
 (bif ile a.1.2.1 a.2.1.fconf.fPorts then (oelim ((oelim (cK27 a.1.2.1 a.1.1 a.2.1 a.2.2.2.1 a.2.2.2.2.1 a.2.2.2.2.2.2.2.1) none fun r0 => some ((a.1.1, (a.1.2.1, ())), (r0.2.1.1, (a.2.2.1, (r0.2.1.2.1, (r0.2.1.2.2.1, (a.2.2.2.2.2.1, (a.2.2.2.2.2.2.1, (r0.2.1.2.2.2.1, ())))))))))) none fun r1 => some (.inl ((r1.1.1, (iadd .i64 r1.1.2.1 1, ())), (r1.2.1, (r1.2.2.1, (r1.2.2.2.1, (r1.2.2.2.2.1, (r1.2.2.2.2.2.1, (r1.2.2.2.2.2.2.1, (r1.2.2.2.2.2.2.2.1, ())))))))))) else some (.inr ((), (a.2.1, (a.2.2.1, (a.2.2.2.1, (a.2.2.2.2.1, (a.2.2.2.2.2.1, (a.2.2.2.2.2.2.1, (a.2.2.2.2.2.2.2.1, ()))))))))))
noncomputable def K28.F1 : K28.l1T := fun a => loopFix (1000000) (K28.step1 K26 K16 K13 K17 K27) a
noncomputable def K28.step0 (cK26 : K26.T) (cK16 : K16.T) (cK13 : K13.T) (cK17 : K17.T) (cK27 : K27.T) (a : (Int × Int × Unit) × (clock_Clock × (Fm foreign_Table) × (Fm delay_Exchange) × (Fm peer_Exchange) × (Fm median_Filter) × (Fm seq_Match) × (Nat × (Nat → List (api_PortID × List (Int)))) × Unit)) : Option (((Int × Int × Unit) × (clock_Clock × (Fm foreign_Table) × (Fm delay_Exchange) × (Fm peer_Exchange) × (Fm median_Filter) × (Fm seq_Match) × (Nat × (Nat → List (api_PortID × List (Int)))) × Unit)) ⊕ (((Int × Unit) × (clock_Clock × (Fm foreign_Table) × (Fm delay_Exchange) × (Fm peer_Exchange) × (Fm median_Filter) × (Fm seq_Match) × (Nat × (Nat → List (api_PortID × List (Int)))) × Unit)))) :=
 (bif ile a.1.2.1 a.2.1.fconf.fPorts then (oelim ((oelim (cK26 a.1.2.1 a.2.1) none fun r0 => (oelim (cK16 r0.1.1 a.2.1 a.2.2.1 a.2.2.2.2.2.2.2.1) none fun r1 => some ((a.1.1, (a.1.2.1, ())), (r1.2.1.1, (r1.2.1.2.1, (a.2.2.2.1, (a.2.2.2.2.1, (a.2.2.2.2.2.1, (a.2.2.2.2.2.2.1, (r1.2.1.2.2.1, ()))))))))))) none fun r2 => some (.inl ((r2.1.1, (iadd .i64 r2.1.2.1 1, ())), (r2.2.1, (r2.2.2.1, (r2.2.2.2.1, (r2.2.2.2.2.1, (r2.2.2.2.2.2.1, (r2.2.2.2.2.2.2.1, (r2.2.2.2.2.2.2.2.1, ())))))))))) else some (.inr ((a.1.1, ()), (a.2.1, (a.2.2.1, (a.2.2.2.1, (a.2.2.2.2.1, (a.2.2.2.2.2.1, (a.2.2.2.2.2.2.1, (a.2.2.2.2.2.2.2.1, ()))))))))))
noncomputable def K28.F0 : K28.l0T := fun a => loopFix (1000000) (K28.step0 K26 K16 K13 K17 K27) a
noncomputable def K28.gen (cK26 : K26.T) (cK16 : K16.T) (cK13 : K13.T) (cK17 : K17.T) (cK27 : K27.T) (l0 : K28.l0T) (l1 : K28.l1T) : K28.T := fun now h0 g6 g7 g8 g9 g10 g12 =>
 (oelim (l0 ((now, (1 : Int), ()), clock_Clock.set_fticks h0 (opMinMax false (iadd .i64 h0.fticks 1) 1099511627776), g6, g7, g8, g9, g10, g12, ())) none fun r0 => (oelim (cK13 r0.2.1) none fun r1 => (bif ine r1.1.1 0 then (oelim ((bif ieq (irem r0.2.1.fticks r1.1.1) 0 then (oelim (cK17 r0.2.1 r0.2.2.1 r0.2.2.2.1 r0.2.2.2.2.2.1 r0.2.2.2.2.2.2.1) none fun r2 => some ((r0.1.1, ()), (r2.2.1.1, (r2.2.1.2.1, (r2.2.1.2.2.1, (r0.2.2.2.2.1, (r2.2.1.2.2.2.1, (r2.2.1.2.2.2.2.1, (r0.2.2.2.2.2.2.2.1, ()))))))))) else some ((r0.1.1, ()), (r0.2.1, (r0.2.2.1, (r0.2.2.2.1, (r0.2.2.2.2.1, (r0.2.2.2.2.2.1, (r0.2.2.2.2.2.2.1, (r0.2.2.2.2.2.2.2.1, ())))))))))) none fun r3 => (oelim (l1 ((r3.1.1, (1 : Int), ()), r3.2)) none fun r4 => some ((), ((r4.2.1, (r4.2.2.1, (r4.2.2.2.1, (r4.2.2.2.2.1, (r4.2.2.2.2.2.1, (r4.2.2.2.2.2.2.1, (r4.2.2.2.2.2.2.2.1, ()))))))), ())))) else none)))
noncomputable def K28 : K28.T := K28.gen K26 K16 K13 K17 K27 K28.F0 K28.F1
theorem K28.seq1 (cK26 : K26.T) (cK16 : K16.T) (cK13 : K13.T) (cK17 : K17.T) (cK27 : K27.T) (l0 : K28.l0T) (l1 : K28.l1T) (a : K28.L1.T) : run Tryz.prog (K28.H cK26 cK16 cK13 cK17 cK27 l0 l1) 6 (Option (K28.L1.T ⊕ ExT K28.X1)) none K28.B1 (K28.L1.enc a) (loopK (0, 14) K28.L1 K28.X1) = K28.step1 cK26 cK16 cK13 cK17 cK27 a := by kernel_rfl
theorem K28.inner1 : loopsOf K28.B1 = ([] : List Code) := by kernel_rfl
noncomputable abbrev K28.h := K28.H K26 K16 K13 K17 K27 K28.F0 K28.F1
theorem K28.lok1 : LoopOK U Tryz.prog K28.h.ro K28.h.base K28.B1 (loopN (0, 14) K28.L1 K28.X1 K28.F1) :=
 loopN_ok (Hn := K28.h) U_ok U_pure (run_ok (hq (addΓ_ok (addΓ_ok (addΓ_ok (addΓ_ok (addΓ_ok noΓ_ok K26.ok) K16.ok) K13.ok) K17.ok) K27.ok) loops_nil (fun _ => rfl) (fun _ => rfl)) 6) (fun b h => by rw [K28.inner1] at h; exact h) (fun _ => rfl) (K28.seq1 K26 K16 K13 K17 K27 K28.F0 K28.F1)
theorem K28.seq0 (cK26 : K26.T) (cK16 : K16.T) (cK13 : K13.T) (cK17 : K17.T) (cK27 : K27.T) (l0 : K28.l0T) (l1 : K28.l1T) (a : K28.L0.T) : run Tryz.prog (K28.H cK26 cK16 cK13 cK17 cK27 l0 l1) 6 (Option (K28.L0.T ⊕ ExT K28.X0)) none K28.B0 (K28.L0.enc a) (loopK (0, 14) K28.L0 K28.X0) = K28.step0 cK26 cK16 cK13 cK17 cK27 a := by kernel_rfl
theorem K28.inner0 : loopsOf K28.B0 = ([] : List Code) := by kernel_rfl
theorem K28.lok0 : LoopOK U Tryz.prog K28.h.ro K28.h.base K28.B0 (loopN (0, 14) K28.L0 K28.X0 K28.F0) :=
 loopN_ok (Hn := K28.h) U_ok U_pure (run_ok (hq (addΓ_ok (addΓ_ok (addΓ_ok (addΓ_ok (addΓ_ok noΓ_ok K26.ok) K16.ok) K13.ok) K17.ok) K27.ok) loops_nil (fun _ => rfl) (fun _ => rfl)) 6) (fun b h => by rw [K28.inner0] at h; exact h) (fun _ => rfl) (K28.seq0 K26 K16 K13 K17 K27 K28.F0 K28.F1)
theorem K28.eq (cK26 : K26.T) (cK16 : K16.T) (cK13 : K13.T) (cK17 : K17.T) (cK27 : K27.T) (l0 : K28.l0T) (l1 : K28.l1T) : EqA K28.sig (K28.H cK26 cK16 cK13 cK17 cK27 l0 l1) Tryz.f44 6 (K28.W (K28.gen cK26 cK16 cK13 cK17 cK27 l0 l1)) := by intro a x; kernel_rfl
theorem K28.loops : loopsOf K28.C = [(.loop K28.B0), (.loop K28.B1)] := by kernel_rfl
theorem K28.hints : HintsOK U Tryz.prog K28.h (fun c => c ∈ [(.loop K28.B0), (.loop K28.B1)]) := (hq (addΓ_ok (addΓ_ok (addΓ_ok (addΓ_ok (addΓ_ok noΓ_ok K26.ok) K16.ok) K13.ok) K17.ok) K27.ok) (loops_cons (by kernel_rfl) K28.lok0 (loops_cons (by kernel_rfl) K28.lok1 loops_nil)) (fun _ => rfl) (fun _ => rfl))
theorem K28.ok : NativeOK U Tryz.prog 44 (K28.sig.native (K28.W K28)) :=
 Sig.ok K28.sig (K28.W K28) U_pure (Hn := K28.h) (code := K28.C) (gos := 6) K28.hints Tryz.func44 (by kernel_rfl) (by kernel_rfl) (fun b h => by rw [K28.loops] at h; exact h) rfl rfl (by decide) (K28.eq K26 K16 K13 K17 K27 K28.F0 K28.F1) (by decide)
noncomputable def K86.sig : Sig U := ⟨[.isl .u8, .int .i64, .int .i64], [], 0, [.bool], false, []⟩
abbrev K86.T : Type := (List (UInt8)) → (Int) → (Int) → Option ((Bool × Unit) × Unit × Unit)
noncomputable def K86.W (f : K86.T) : K86.sig.F := fun a x => f a.1 a.2.1 a.2.2.1
noncomputable def K86.H : Hints U := { Γ := noΓ, ro := 0, base := 13 }
noncomputable def K86.gen : K86.T := fun b at_1 n =>
 (bif ilt n 0 then some ((true, ()), ((), ())) else (bif ilt at_1 0 then some ((true, ()), ((), ())) else (bif ilt (ofN (List.length b)) at_1 then some ((true, ()), ((), ())) else some ((ilt (isub .i64 (ofN (List.length b)) at_1) n, ()), ((), ())))))
noncomputable def K86 : K86.T := K86.gen
theorem K86.eq : EqA K86.sig (K86.H) Tryz.f167 6 (K86.W (K86.gen)) := by intro a x; kernel_rfl
theorem K86.hints : HintsOK U Tryz.prog (K86.H) (fun c => c ∈ ([] : List Code)) := (hq noΓ_ok loops_nil (fun _ => rfl) (fun _ => rfl))
theorem K86.ok : NativeOK U Tryz.prog 167 (K86.sig.native (K86.W K86)) :=
 Sig.ok K86.sig (K86.W (K86.gen)) U_pure (Hn := (K86.H)) (gos := 6) K86.hints Tryz.func167 rfl (by kernel_rfl) (fun b h => h) rfl rfl (by decide) (K86.eq) (by decide)
end Go.Proofs.YtgnabnhggaondaaGreat
