/- Typed forms of the functions that these statements reach, proved equal to what the model runs, and laws over them. -/
import Derived.Test.YtgnabnhggaondaaGreatT
namespace Go.Proofs.YtgnabnhggaondaaGreat
open Go.Rf
set_option linter.unusedVariables false
set_option linter.unusedSimpArgs false
set_option maxRecDepth 100000
abbrev vi_ : JV UC := .val (.int .i64)
abbrev vb_ : JV UC := .val (.bool)
abbrev fm0_ : NK UC := .fam 0 (.obj .t_clock_Clock)
abbrev fm10_ : NK UC := .fam 10 (.obj .t_seq_Match)
abbrev fm5_ : NK UC := .fam 5 (.obj .t_servo_Servo)
abbrev fm6_ : NK UC := .fam 6 (.obj .t_foreign_Table)
abbrev fm7_ : NK UC := .fam 7 (.obj .t_delay_Exchange)
abbrev fm8_ : NK UC := .fam 8 (.obj .t_peer_Exchange)
abbrev fm9_ : NK UC := .fam 9 (.obj .t_median_Filter)
abbrev EqA (s : Sig U) (H : Hints U) (f : Func) (n : Nat) (g : s.F) : Prop := ∀ (a : Ts U s.pars) (x : HTs U s.heap), runR Tryz.prog H f n none s.fin (s.args a) (s.start x) s.base = g a x
theorem hq {Hn : Hints U} (hΓ : GammaOK U Tryz.prog Hn.Γ) {l : List Code} (hl : ∀ b N, .loop b ∈ l → Hn.loop (firstRegion b) = some N → LoopOK U Tryz.prog Hn.ro Hn.base b N) (h1 : ∀ lb, Hn.label lb = none) (h2 : ∀ f, Hn.inl f = none) : HintsOK U Tryz.prog Hn (fun c => c ∈ l) := hints_of_loops U_ok U_pure mixed hΓ hl (labels_none h1) (inl_none h2)
abbrev Fm (α : Type) := Nat × (Nat → α)
abbrev z0_ := api_PortID.mk (0 : Int) (0 : Int)
abbrev z1_ := api_Quality.mk (0 : Int) (0 : Int) (0 : Int)
abbrev z2_ := api_Msg.mk (0 : Int) (0 : Int) (0 : Int) (0 : Int) z0_ (0 : Int) (0 : Int) (0 : Int) z0_ (0 : Int) (0 : Int) z1_ (0 : Int) (0 : Int) (0 : Int) (0 : Int) (0 : Int) (0 : Int) (0 : Int)
abbrev z3_ := timer_Timer.mk (0 : Int)
abbrev z4_ := clock_known.mk (0 : Int) false
abbrev z5_ := api_Vector.mk (0 : Int) z1_ (0 : Int) (0 : Int) (0 : Int) z0_ z0_
abbrev z6_ := api_Times.mk (0 : Int) (0 : Int) (0 : Int)
abbrev z7_ := api_Conf.mk (0 : Int) (0 : Int) (0 : Int) (0 : Int) (0 : Int) z1_ false (0 : Int) (0 : Int) (0 : Int) (0 : Int) false false (0 : Int) (0 : Int) (0 : Int) (0 : Int) z6_ false
abbrev z8_ := (1 : Int) :: (0 : Int) :: (0 : Int) :: (0 : Int) :: (-3 : Int) :: (-3 : Int) :: (-3 : Int) :: (2 : Int) :: (1 : Int) :: (0 : Int) :: (0 : Int) :: (0 : Int) :: (-32768 : Int) :: (0 : Int) :: (0 : Int) :: lnil Int
abbrev z9_ := (8 : Int) :: (127 : Int) :: (255 : Int) :: (255 : Int) :: (4 : Int) :: (4 : Int) :: (4 : Int) :: (10 : Int) :: (15 : Int) :: (2000 : Int) :: (2000 : Int) :: (1000000000 : Int) :: (32767 : Int) :: (63 : Int) :: (255 : Int) :: lnil Int
abbrev z10_ (c : api_Conf) := c.fPorts :: c.fDomain :: c.fPriority1 :: c.fPriority2 :: c.fLogAnn :: c.fLogSync :: c.fLogDelay :: c.fTimeout :: c.fMedian :: c.fKp :: c.fKi :: c.fStep :: c.fTimes.fUtc :: c.fTimes.fFlags :: c.fTimes.fOrigin :: lnil Int
noncomputable def K72.sig : Sig U := ⟨[.int .i64, .int .i64], [], 0, [.int .i64], false, []⟩
abbrev K72.T : Type := (Int) → (Int) → Option ((Int × Unit) × Unit × Unit)
noncomputable def K72.W (f : K72.T) : K72.sig.F := fun a x => f a.1 a.2.1
noncomputable def K72.JC3 : Exits U := [(.normal, ⟨15, 13, [(5, vi_)], []⟩)]
noncomputable def K72.H : Hints U := { Γ := noΓ, ro := 0, base := 13, joinC := fun b => (bif Nat.beq b 3 then some K72.JC3 else none) }
noncomputable def K72.gen : K72.T := fun v n =>
 (bif ine n 0 then (oelim ((bif ilt (irem v n) 0 then some ((iadd .i64 (irem v n) n, ()), ()) else some ((irem v n, ()), ()))) none fun r0 => some ((r0.1.1, ()), ((), ()))) else none)
noncomputable def K72 : K72.T := K72.gen
theorem K72.eq : EqA K72.sig (K72.H) Tryz.f17 6 (K72.W (K72.gen)) := by intro a x; kernel_rfl
theorem K72.hints : HintsOK U Tryz.prog (K72.H) (fun c => c ∈ ([] : List Code)) := (hq noΓ_ok loops_nil (fun _ => rfl) (fun _ => rfl))
theorem K72.ok : NativeOK U Tryz.prog 17 (K72.sig.native (K72.W K72)) :=
 Sig.ok K72.sig (K72.W (K72.gen)) U_pure (Hn := (K72.H)) (gos := 6) K72.hints Tryz.func17 rfl (by kernel_rfl) (fun b h => h) rfl rfl (by decide) (K72.eq) (by decide)
noncomputable def K44.sig : Sig U := ⟨[.int .u64], [], 0, [.data .t_api_Conf], false, []⟩
abbrev K44.T : Type := (Int) → Option ((api_Conf × Unit) × Unit × Unit)
noncomputable def K44.W (f : K44.T) : K44.sig.F := fun a x => f a.1
noncomputable def K44.H : Hints U := { Γ := noΓ, ro := 0, base := 13 }
noncomputable def K44.gen : K44.T := fun clock =>
 some ((api_Conf.mk clock 1 0 128 128 (api_Quality.mk 248 254 65535) false 1 0 0 3 false false 5 700 300 20000 (api_Times.mk 37 8 160) false, ()), ((), ()))
noncomputable def K44 : K44.T := K44.gen
theorem K44.eq : EqA K44.sig (K44.H) Tryz.f23 6 (K44.W (K44.gen)) := by intro a x; kernel_rfl
theorem K44.hints : HintsOK U Tryz.prog (K44.H) (fun c => c ∈ ([] : List Code)) := (hq noΓ_ok loops_nil (fun _ => rfl) (fun _ => rfl))
theorem K44.ok : NativeOK U Tryz.prog 23 (K44.sig.native (K44.W K44)) :=
 Sig.ok K44.sig (K44.W (K44.gen)) U_pure (Hn := (K44.H)) (gos := 6) K44.hints Tryz.func23 rfl (by kernel_rfl) (fun b h => h) rfl rfl (by decide) (K44.eq) (by decide)
noncomputable def K96.sig : Sig U := ⟨[.data .t_api_Quality], [], 0, [.bool], false, []⟩
abbrev K96.T : Type := (api_Quality) → Option ((Bool × Unit) × Unit × Unit)
noncomputable def K96.W (f : K96.T) : K96.sig.F := fun a x => f a.1
noncomputable def K96.H : Hints U := { Γ := noΓ, ro := 0, base := 13 }
noncomputable def K96.gen : K96.T := fun q =>
 (bif ile 0 q.fClass then (bif ile q.fClass 255 then (bif ile 0 q.fAccuracy then (bif ile q.fAccuracy 255 then (bif ile 0 q.fVariance then some ((ile q.fVariance 65535, ()), ((), ())) else some ((false, ()), ((), ()))) else some ((false, ()), ((), ()))) else some ((false, ()), ((), ()))) else some ((false, ()), ((), ()))) else some ((false, ()), ((), ())))
noncomputable def K96 : K96.T := K96.gen
theorem K96.eq : EqA K96.sig (K96.H) Tryz.f87 6 (K96.W (K96.gen)) := by intro a x; kernel_rfl
theorem K96.hints : HintsOK U Tryz.prog (K96.H) (fun c => c ∈ ([] : List Code)) := (hq noΓ_ok loops_nil (fun _ => rfl) (fun _ => rfl))
theorem K96.ok : NativeOK U Tryz.prog 87 (K96.sig.native (K96.W K96)) :=
 Sig.ok K96.sig (K96.W (K96.gen)) U_pure (Hn := (K96.H)) (gos := 6) K96.hints Tryz.func87 rfl (by kernel_rfl) (fun b h => h) rfl rfl (by decide) (K96.eq) (by decide)
noncomputable def K43.sig : Sig U := ⟨[.data .t_api_Conf], [], 0, [.int .i64], false, []⟩
abbrev K43.T : Type := (api_Conf) → Option ((Int × Unit) × Unit × Unit)
noncomputable def K43.W (f : K43.T) : K43.sig.F := fun a x => f a.1
noncomputable def K43.C : Code := match Tryz.f48.body with | some c => c | none => .skip
noncomputable def K43.B0 : Code := match (loopsOf K43.C).getD 0 .skip with | .loop b => b | .scope b => b | _ => .skip
noncomputable def K43.U0 (cK96 : K96.T) : Hints U := { Γ := (addΓ 87 (K96.sig.native (K96.W cK96)) noΓ), ro := 0, base := 13, joinQ := fun b => (bif Nat.beq b 4 then some [(68, vb_)] else (bif Nat.beq b 7 then some [(70, vb_)] else (bif Nat.beq b 9 then some [(85, vb_)] else none))), loop := fun b => none }
noncomputable def K43.H (cK96 : K96.T) : Hints U := { Γ := (addΓ 87 (K96.sig.native (K96.W cK96)) noΓ), ro := 0, base := 13, joinQ := fun b => (bif Nat.beq b 4 then some [(68, vb_)] else (bif Nat.beq b 7 then some [(70, vb_)] else (bif Nat.beq b 9 then some [(85, vb_)] else none))), loop := fun b => (bif Nat.beq b 2 then some (unrollN Tryz.prog (K43.U0 cK96) 6 K43.B0 17) else none) }
noncomputable def K43.gen (cK96 : K96.T) : K43.T := fun c =>
 (oelim ((bif ilt (List.getD (z10_ c) (Int.toNat 0) 0) (List.getD z8_ (Int.toNat 0) 0) then some (true, ()) else some (ilt (List.getD z9_ (Int.toNat 0) 0) (List.getD (z10_ c) (Int.toNat 0) 0), ()))) none fun r0 => (bif r0.1 then some (((15 : Int), ()), ((), ())) else (oelim ((bif ilt (List.getD (z10_ c) (Int.toNat (iadd .i64 0 1)) 0) (List.getD z8_ (Int.toNat (iadd .i64 0 1)) 0) then some (true, ()) else some (ilt (List.getD z9_ (Int.toNat (iadd .i64 0 1)) 0) (List.getD (z10_ c) (Int.toNat (iadd .i64 0 1)) 0), ()))) none fun r1 => (bif r1.1 then some (((15 : Int), ()), ((), ())) else (oelim ((bif ilt (List.getD (z10_ c) (Int.toNat (iadd .i64 (iadd .i64 0 1) 1)) 0) (List.getD z8_ (Int.toNat (iadd .i64 (iadd .i64 0 1) 1)) 0) then some (true, ()) else some (ilt (List.getD z9_ (Int.toNat (iadd .i64 (iadd .i64 0 1) 1)) 0) (List.getD (z10_ c) (Int.toNat (iadd .i64 (iadd .i64 0 1) 1)) 0), ()))) none fun r2 => (bif r2.1 then some (((15 : Int), ()), ((), ())) else (oelim ((bif ilt (List.getD (z10_ c) (Int.toNat (iadd .i64 (iadd .i64 (iadd .i64 0 1) 1) 1)) 0) (List.getD z8_ (Int.toNat (iadd .i64 (iadd .i64 (iadd .i64 0 1) 1) 1)) 0) then some (true, ()) else some (ilt (List.getD z9_ (Int.toNat (iadd .i64 (iadd .i64 (iadd .i64 0 1) 1) 1)) 0) (List.getD (z10_ c) (Int.toNat (iadd .i64 (iadd .i64 (iadd .i64 0 1) 1) 1)) 0), ()))) none fun r3 => (bif r3.1 then some (((15 : Int), ()), ((), ())) else (oelim ((bif ilt (List.getD (z10_ c) (Int.toNat (iadd .i64 (iadd .i64 (iadd .i64 (iadd .i64 0 1) 1) 1) 1)) 0) (List.getD z8_ (Int.toNat (iadd .i64 (iadd .i64 (iadd .i64 (iadd .i64 0 1) 1) 1) 1)) 0) then some (true, ()) else some (ilt (List.getD z9_ (Int.toNat (iadd .i64 (iadd .i64 (iadd .i64 (iadd .i64 0 1) 1) 1) 1)) 0) (List.getD (z10_ c) (Int.toNat (iadd .i64 (iadd .i64 (iadd .i64 (iadd .i64 0 1) 1) 1) 1)) 0), ()))) none fun r4 => (bif r4.1 then some (((15 : Int), ()), ((), ())) else (oelim ((bif ilt (List.getD (z10_ c) (Int.toNat (iadd .i64 (iadd .i64 (iadd .i64 (iadd .i64 (iadd .i64 0 1) 1) 1) 1) 1)) 0) (List.getD z8_ (Int.toNat (iadd .i64 (iadd .i64 (iadd .i64 (iadd .i64 (iadd .i64 0 1) 1) 1) 1) 1)) 0) then some (true, ()) else some (ilt (List.getD z9_ (Int.toNat (iadd .i64 (iadd .i64 (iadd .i64 (iadd .i64 (iadd .i64 0 1) 1) 1) 1) 1)) 0) (List.getD (z10_ c) (Int.toNat (iadd .i64 (iadd .i64 (iadd .i64 (iadd .i64 (iadd .i64 0 1) 1) 1) 1) 1)) 0), ()))) none fun r5 => (bif r5.1 then some (((15 : Int), ()), ((), ())) else (oelim ((bif ilt (List.getD (z10_ c) (Int.toNat (iadd .i64 (iadd .i64 (iadd .i64 (iadd .i64 (iadd .i64 (iadd .i64 0 1) 1) 1) 1) 1) 1)) 0) (List.getD z8_ (Int.toNat (iadd .i64 (iadd .i64 (iadd .i64 (iadd .i64 (iadd .i64 (iadd .i64 0 1) 1) 1) 1) 1) 1)) 0) then some (true, ()) else some (ilt (List.getD z9_ (Int.toNat (iadd .i64 (iadd .i64 (iadd .i64 (iadd .i64 (iadd .i64 (iadd .i64 0 1) 1) 1) 1) 1) 1)) 0) (List.getD (z10_ c) (Int.toNat (iadd .i64 (iadd .i64 (iadd .i64 (iadd .i64 (iadd .i64 (iadd .i64 0 1) 1) 1) 1) 1) 1)) 0), ()))) none fun r6 => (bif r6.1 then some (((15 : Int), ()), ((), ())) else (oelim ((bif ilt (List.getD (z10_ c) (Int.toNat (iadd .i64 (iadd .i64 (iadd .i64 (iadd .i64 (iadd .i64 (iadd .i64 (iadd .i64 0 1) 1) 1) 1) 1) 1) 1)) 0) (List.getD z8_ (Int.toNat (iadd .i64 (iadd .i64 (iadd .i64 (iadd .i64 (iadd .i64 (iadd .i64 (iadd .i64 0 1) 1) 1) 1) 1) 1) 1)) 0) then some (true, ()) else some (ilt (List.getD z9_ (Int.toNat (iadd .i64 (iadd .i64 (iadd .i64 (iadd .i64 (iadd .i64 (iadd .i64 (iadd .i64 0 1) 1) 1) 1) 1) 1) 1)) 0) (List.getD (z10_ c) (Int.toNat (iadd .i64 (iadd .i64 (iadd .i64 (iadd .i64 (iadd .i64 (iadd .i64 (iadd .i64 0 1) 1) 1) 1) 1) 1) 1)) 0), ()))) none fun r7 => (bif r7.1 then some (((15 : Int), ()), ((), ())) else (oelim ((bif ilt (List.getD (z10_ c) (Int.toNat (iadd .i64 (iadd .i64 (iadd .i64 (iadd .i64 (iadd .i64 (iadd .i64 (iadd .i64 (iadd .i64 0 1) 1) 1) 1) 1) 1) 1) 1)) 0) (List.getD z8_ (Int.toNat (iadd .i64 (iadd .i64 (iadd .i64 (iadd .i64 (iadd .i64 (iadd .i64 (iadd .i64 (iadd .i64 0 1) 1) 1) 1) 1) 1) 1) 1)) 0) then some (true, ()) else some (ilt (List.getD z9_ (Int.toNat (iadd .i64 (iadd .i64 (iadd .i64 (iadd .i64 (iadd .i64 (iadd .i64 (iadd .i64 (iadd .i64 0 1) 1) 1) 1) 1) 1) 1) 1)) 0) (List.getD (z10_ c) (Int.toNat (iadd .i64 (iadd .i64 (iadd .i64 (iadd .i64 (iadd .i64 (iadd .i64 (iadd .i64 (iadd .i64 0 1) 1) 1) 1) 1) 1) 1) 1)) 0), ()))) none fun r8 => (bif r8.1 then some (((15 : Int), ()), ((), ())) else (oelim ((bif ilt (List.getD (z10_ c) (Int.toNat (iadd .i64 (iadd .i64 (iadd .i64 (iadd .i64 (iadd .i64 (iadd .i64 (iadd .i64 (iadd .i64 (iadd .i64 0 1) 1) 1) 1) 1) 1) 1) 1) 1)) 0) (List.getD z8_ (Int.toNat (iadd .i64 (iadd .i64 (iadd .i64 (iadd .i64 (iadd .i64 (iadd .i64 (iadd .i64 (iadd .i64 (iadd .i64 0 1) 1) 1) 1) 1) 1) 1) 1) 1)) 0) then some (true, ()) else some (ilt (List.getD z9_ (Int.toNat (iadd .i64 (iadd .i64 (iadd .i64 (iadd .i64 (iadd .i64 (iadd .i64 (iadd .i64 (iadd .i64 (iadd .i64 0 1) 1) 1) 1) 1) 1) 1) 1) 1)) 0) (List.getD (z10_ c) (Int.toNat (iadd .i64 (iadd .i64 (iadd .i64 (iadd .i64 (iadd .i64 (iadd .i64 (iadd .i64 (iadd .i64 (iadd .i64 0 1) 1) 1) 1) 1) 1) 1) 1) 1)) 0), ()))) none fun r9 => (bif r9.1 then some (((15 : Int), ()), ((), ())) else (oelim ((bif ilt (List.getD (z10_ c) (Int.toNat (iadd .i64 (iadd .i64 (iadd .i64 (iadd .i64 (iadd .i64 (iadd .i64 (iadd .i64 (iadd .i64 (iadd .i64 (iadd .i64 0 1) 1) 1) 1) 1) 1) 1) 1) 1) 1)) 0) (List.getD z8_ (Int.toNat (iadd .i64 (iadd .i64 (iadd .i64 (iadd .i64 (iadd .i64 (iadd .i64 (iadd .i64 (iadd .i64 (iadd .i64 (iadd .i64 0 1) 1) 1) 1) 1) 1) 1) 1) 1) 1)) 0) then some (true, ()) else some (ilt (List.getD z9_ (Int.toNat (iadd .i64 (iadd .i64 (iadd .i64 (iadd .i64 (iadd .i64 (iadd .i64 (iadd .i64 (iadd .i64 (iadd .i64 (iadd .i64 0 1) 1) 1) 1) 1) 1) 1) 1) 1) 1)) 0) (List.getD (z10_ c) (Int.toNat (iadd .i64 (iadd .i64 (iadd .i64 (iadd .i64 (iadd .i64 (iadd .i64 (iadd .i64 (iadd .i64 (iadd .i64 (iadd .i64 0 1) 1) 1) 1) 1) 1) 1) 1) 1) 1)) 0), ()))) none fun r10 => (bif r10.1 then some (((15 : Int), ()), ((), ())) else (oelim ((bif ilt (List.getD (z10_ c) (Int.toNat (iadd .i64 (iadd .i64 (iadd .i64 (iadd .i64 (iadd .i64 (iadd .i64 (iadd .i64 (iadd .i64 (iadd .i64 (iadd .i64 (iadd .i64 0 1) 1) 1) 1) 1) 1) 1) 1) 1) 1) 1)) 0) (List.getD z8_ (Int.toNat (iadd .i64 (iadd .i64 (iadd .i64 (iadd .i64 (iadd .i64 (iadd .i64 (iadd .i64 (iadd .i64 (iadd .i64 (iadd .i64 (iadd .i64 0 1) 1) 1) 1) 1) 1) 1) 1) 1) 1) 1)) 0) then some (true, ()) else some (ilt (List.getD z9_ (Int.toNat (iadd .i64 (iadd .i64 (iadd .i64 (iadd .i64 (iadd .i64 (iadd .i64 (iadd .i64 (iadd .i64 (iadd .i64 (iadd .i64 (iadd .i64 0 1) 1) 1) 1) 1) 1) 1) 1) 1) 1) 1)) 0) (List.getD (z10_ c) (Int.toNat (iadd .i64 (iadd .i64 (iadd .i64 (iadd .i64 (iadd .i64 (iadd .i64 (iadd .i64 (iadd .i64 (iadd .i64 (iadd .i64 (iadd .i64 0 1) 1) 1) 1) 1) 1) 1) 1) 1) 1) 1)) 0), ()))) none fun r11 => (bif r11.1 then some (((15 : Int), ()), ((), ())) else (oelim ((bif ilt (List.getD (z10_ c) (Int.toNat (iadd .i64 (iadd .i64 (iadd .i64 (iadd .i64 (iadd .i64 (iadd .i64 (iadd .i64 (iadd .i64 (iadd .i64 (iadd .i64 (iadd .i64 (iadd .i64 0 1) 1) 1) 1) 1) 1) 1) 1) 1) 1) 1) 1)) 0) (List.getD z8_ (Int.toNat (iadd .i64 (iadd .i64 (iadd .i64 (iadd .i64 (iadd .i64 (iadd .i64 (iadd .i64 (iadd .i64 (iadd .i64 (iadd .i64 (iadd .i64 (iadd .i64 0 1) 1) 1) 1) 1) 1) 1) 1) 1) 1) 1) 1)) 0) then some (true, ()) else some (ilt (List.getD z9_ (Int.toNat (iadd .i64 (iadd .i64 (iadd .i64 (iadd .i64 (iadd .i64 (iadd .i64 (iadd .i64 (iadd .i64 (iadd .i64 (iadd .i64 (iadd .i64 (iadd .i64 0 1) 1) 1) 1) 1) 1) 1) 1) 1) 1) 1) 1)) 0) (List.getD (z10_ c) (Int.toNat (iadd .i64 (iadd .i64 (iadd .i64 (iadd .i64 (iadd .i64 (iadd .i64 (iadd .i64 (iadd .i64 (iadd .i64 (iadd .i64 (iadd .i64 (iadd .i64 0 1) 1) 1) 1) 1) 1) 1) 1) 1) 1) 1) 1)) 0), ()))) none fun r12 => (bif r12.1 then some (((15 : Int), ()), ((), ())) else (oelim ((bif ilt (List.getD (z10_ c) (Int.toNat (iadd .i64 (iadd .i64 (iadd .i64 (iadd .i64 (iadd .i64 (iadd .i64 (iadd .i64 (iadd .i64 (iadd .i64 (iadd .i64 (iadd .i64 (iadd .i64 (iadd .i64 0 1) 1) 1) 1) 1) 1) 1) 1) 1) 1) 1) 1) 1)) 0) (List.getD z8_ (Int.toNat (iadd .i64 (iadd .i64 (iadd .i64 (iadd .i64 (iadd .i64 (iadd .i64 (iadd .i64 (iadd .i64 (iadd .i64 (iadd .i64 (iadd .i64 (iadd .i64 (iadd .i64 0 1) 1) 1) 1) 1) 1) 1) 1) 1) 1) 1) 1) 1)) 0) then some (true, ()) else some (ilt (List.getD z9_ (Int.toNat (iadd .i64 (iadd .i64 (iadd .i64 (iadd .i64 (iadd .i64 (iadd .i64 (iadd .i64 (iadd .i64 (iadd .i64 (iadd .i64 (iadd .i64 (iadd .i64 (iadd .i64 0 1) 1) 1) 1) 1) 1) 1) 1) 1) 1) 1) 1) 1)) 0) (List.getD (z10_ c) (Int.toNat (iadd .i64 (iadd .i64 (iadd .i64 (iadd .i64 (iadd .i64 (iadd .i64 (iadd .i64 (iadd .i64 (iadd .i64 (iadd .i64 (iadd .i64 (iadd .i64 (iadd .i64 0 1) 1) 1) 1) 1) 1) 1) 1) 1) 1) 1) 1) 1)) 0), ()))) none fun r13 => (bif r13.1 then some (((15 : Int), ()), ((), ())) else (oelim ((bif ilt (List.getD (z10_ c) (Int.toNat (iadd .i64 (iadd .i64 (iadd .i64 (iadd .i64 (iadd .i64 (iadd .i64 (iadd .i64 (iadd .i64 (iadd .i64 (iadd .i64 (iadd .i64 (iadd .i64 (iadd .i64 (iadd .i64 0 1) 1) 1) 1) 1) 1) 1) 1) 1) 1) 1) 1) 1) 1)) 0) (List.getD z8_ (Int.toNat (iadd .i64 (iadd .i64 (iadd .i64 (iadd .i64 (iadd .i64 (iadd .i64 (iadd .i64 (iadd .i64 (iadd .i64 (iadd .i64 (iadd .i64 (iadd .i64 (iadd .i64 (iadd .i64 0 1) 1) 1) 1) 1) 1) 1) 1) 1) 1) 1) 1) 1) 1)) 0) then some (true, ()) else some (ilt (List.getD z9_ (Int.toNat (iadd .i64 (iadd .i64 (iadd .i64 (iadd .i64 (iadd .i64 (iadd .i64 (iadd .i64 (iadd .i64 (iadd .i64 (iadd .i64 (iadd .i64 (iadd .i64 (iadd .i64 (iadd .i64 0 1) 1) 1) 1) 1) 1) 1) 1) 1) 1) 1) 1) 1) 1)) 0) (List.getD (z10_ c) (Int.toNat (iadd .i64 (iadd .i64 (iadd .i64 (iadd .i64 (iadd .i64 (iadd .i64 (iadd .i64 (iadd .i64 (iadd .i64 (iadd .i64 (iadd .i64 (iadd .i64 (iadd .i64 (iadd .i64 0 1) 1) 1) 1) 1) 1) 1) 1) 1) 1) 1) 1) 1) 1)) 0), ()))) none fun r14 => (bif r14.1 then some (((15 : Int), ()), ((), ())) else (oelim ((bif ieq c.fClock 0 then some (true, ()) else (bif ieq c.fClock 18446744073709551615 then some (true, ()) else (oelim (cK96 c.fQuality) none fun r15 => some (!r15.1.1, ()))))) none fun r16 => (bif r16.1 then some (((15 : Int), ()), ((), ())) else (oelim ((bif c.fSlaveOnly then (bif ilt 1 c.fPorts then some (true, ()) else some (ine c.fQuality.fClass 255, ())) else some (false, ()))) none fun r17 => (bif r17.1 then some (((15 : Int), ()), ((), ())) else some (((0 : Int), ()), ((), ()))))))))))))))))))))))))))))))))))))
noncomputable def K43 : K43.T := K43.gen K96
theorem K43.inner0 : loopsOf K43.B0 = [] := by kernel_rfl
noncomputable abbrev K43.h := K43.H K96
theorem K43.lok0 : LoopOK U Tryz.prog K43.h.ro K43.h.base K43.B0 (unrollN Tryz.prog (K43.U0 K96) 6 K43.B0 17) :=
 unrollN_ok (Hn := (K43.U0 K96)) (L := fun c => c ∈ ([] : List Code)) (hq (addΓ_ok noΓ_ok K96.ok) loops_nil (fun _ => rfl) (fun _ => rfl)) (fun b h => by rw [K43.inner0] at h; exact h) 17
theorem K43.eq (cK96 : K96.T) : EqA K43.sig (K43.H cK96) Tryz.f48 6 (K43.W (K43.gen cK96)) := by intro a x; kernel_rfl
theorem K43.loops : loopsOf K43.C = [(.loop K43.B0)] := by kernel_rfl
theorem K43.hints : HintsOK U Tryz.prog K43.h (fun c => c ∈ [(.loop K43.B0)]) := (hq (addΓ_ok noΓ_ok K96.ok) (loops_cons (by kernel_rfl) K43.lok0 loops_nil) (fun _ => rfl) (fun _ => rfl))
theorem K43.ok : NativeOK U Tryz.prog 48 (K43.sig.native (K43.W K43)) :=
 Sig.ok K43.sig (K43.W K43) U_pure (Hn := K43.h) (code := K43.C) (gos := 6) K43.hints Tryz.func48 (by kernel_rfl) (by kernel_rfl) (fun b h => by rw [K43.loops] at h; exact h) rfl rfl (by decide) (K43.eq K96) (by decide)
noncomputable def K120.sig : Sig U := ⟨[.data .t_api_Conf], [], 0, [.data .t_api_Parent], false, []⟩
abbrev K120.T : Type := (api_Conf) → Option ((api_Parent × Unit) × Unit × Unit)
noncomputable def K120.W (f : K120.T) : K120.sig.F := fun a x => f a.1
noncomputable def K120.H : Hints U := { Γ := noΓ, ro := 0, base := 13 }
noncomputable def K120.gen : K120.T := fun c =>
 some ((api_Parent.mk (api_PortID.mk c.fClock 0) c.fClock c.fQuality c.fPriority1 c.fPriority2 0 c.fTimes, ()), ((), ()))
noncomputable def K120 : K120.T := K120.gen
theorem K120.eq : EqA K120.sig (K120.H) Tryz.f88 6 (K120.W (K120.gen)) := by intro a x; kernel_rfl
theorem K120.hints : HintsOK U Tryz.prog (K120.H) (fun c => c ∈ ([] : List Code)) := (hq noΓ_ok loops_nil (fun _ => rfl) (fun _ => rfl))
theorem K120.ok : NativeOK U Tryz.prog 88 (K120.sig.native (K120.W K120)) :=
 Sig.ok K120.sig (K120.W (K120.gen)) U_pure (Hn := (K120.H)) (gos := 6) K120.hints Tryz.func88 rfl (by kernel_rfl) (fun b h => h) rfl rfl (by decide) (K120.eq) (by decide)
noncomputable def K101.sig : Sig U := ⟨[.int .i64, .int .i64, .int .i64], [fm5_], 0, [.ref 5], false, []⟩
abbrev K101.T : Type := (Int) → (Int) → (Int) → (Fm servo_Servo) → Option (((Option Nat) × Unit) × ((Fm servo_Servo) × Unit) × Unit)
noncomputable def K101.W (f : K101.T) : K101.sig.F := fun a x => f a.1 a.2.1 a.2.2.1 x.1
noncomputable def K101.H : Hints U := { Γ := noΓ, ro := 0, base := 13 }
noncomputable def K101.gen : K101.T := fun kp ki step g5 =>
 some ((some g5.1, ()), (((g5.1 + 1, fset g5.2 g5.1 (servo_Servo.mk (opMinMax true 0 (opMinMax false kp 2000)) (opMinMax true 0 (opMinMax false ki 2000)) (opMinMax true 0 (opMinMax false step 1000000000)) 0 0 0 0)), ()), ()))
noncomputable def K101 : K101.T := K101.gen
theorem K101.eq : EqA K101.sig (K101.H) Tryz.f89 6 (K101.W (K101.gen)) := by intro a x; kernel_rfl
theorem K101.hints : HintsOK U Tryz.prog (K101.H) (fun c => c ∈ ([] : List Code)) := (hq noΓ_ok loops_nil (fun _ => rfl) (fun _ => rfl))
theorem K101.ok : NativeOK U Tryz.prog 89 (K101.sig.native (K101.W K101)) :=
 Sig.ok K101.sig (K101.W (K101.gen)) U_pure (Hn := (K101.H)) (gos := 6) K101.hints Tryz.func89 rfl (by kernel_rfl) (fun b h => h) rfl rfl (by decide) (K101.eq) (by decide)
noncomputable def K78.sig : Sig U := ⟨[.int .i64], [fm9_], 0, [.ref 9], false, []⟩
abbrev K78.T : Type := (Int) → (Fm median_Filter) → Option (((Option Nat) × Unit) × ((Fm median_Filter) × Unit) × Unit)
noncomputable def K78.W (f : K78.T) : K78.sig.F := fun a x => f a.1 x.1
noncomputable def K78.H : Hints U := { Γ := noΓ, ro := 0, base := 13 }
noncomputable def K78.gen : K78.T := fun n g9 =>
 some ((some g9.1, ()), (((g9.1 + 1, fset g9.2 g9.1 (median_Filter.mk (fun (j : Nat) => List.getD ((0 : Int) :: (0 : Int) :: (0 : Int) :: (0 : Int) :: (0 : Int) :: (0 : Int) :: (0 : Int) :: (0 : Int) :: (0 : Int) :: (0 : Int) :: (0 : Int) :: (0 : Int) :: (0 : Int) :: (0 : Int) :: (0 : Int) :: lnil Int) j (0 : D UC.int)) 0 (opMinMax true 1 (opMinMax false n 15)))), ()), ()))
noncomputable def K78 : K78.T := K78.gen
theorem K78.eq : EqA K78.sig (K78.H) Tryz.f90 6 (K78.W (K78.gen)) := by intro a x; kernel_rfl
theorem K78.hints : HintsOK U Tryz.prog (K78.H) (fun c => c ∈ ([] : List Code)) := (hq noΓ_ok loops_nil (fun _ => rfl) (fun _ => rfl))
theorem K78.ok : NativeOK U Tryz.prog 90 (K78.sig.native (K78.W K78)) :=
 Sig.ok K78.sig (K78.W (K78.gen)) U_pure (Hn := (K78.H)) (gos := 6) K78.hints Tryz.func90 rfl (by kernel_rfl) (fun b h => h) rfl rfl (by decide) (K78.eq) (by decide)
noncomputable def K24.sig : Sig U := ⟨[.ptr, .int .i64], [.obj .t_clock_Clock], 1, [.data .t_api_PortID], false, []⟩
abbrev K24.T : Type := (Int) → (clock_Clock) → Option ((api_PortID × Unit) × Unit × Unit)
noncomputable def K24.W (f : K24.T) : K24.sig.F := fun a x => f a.2.1 x.1
noncomputable def K24.H : Hints U := { Γ := (addΓ 5000000021 noNat noΓ), ro := 14, base := 14 }
noncomputable def K24.gen : K24.T := fun n h0 =>
 some ((api_PortID.mk h0.fconf.fClock n, ()), ((), ()))
noncomputable def K24 : K24.T := K24.gen
theorem K24.eq : EqA K24.sig (K24.H) Tryz.f79 6 (K24.W (K24.gen)) := by intro a x; kernel_rfl
theorem K24.hints : HintsOK U Tryz.prog (K24.H) (fun c => c ∈ ([] : List Code)) := (hq (addΓ_ok noΓ_ok noNat_ok) loops_nil (fun _ => rfl) (fun _ => rfl))
theorem K24.ok : NativeOK U Tryz.prog 79 (K24.sig.native (K24.W K24)) :=
 Sig.ok K24.sig (K24.W (K24.gen)) U_pure (Hn := (K24.H)) (gos := 6) K24.hints Tryz.func79 rfl (by kernel_rfl) (fun b h => h) rfl rfl (by decide) (K24.eq) (by decide)
noncomputable def K25.sig : Sig U := ⟨[.ptr, .int .i64], [.obj .t_clock_Clock], 1, [.eptr 0 23 42 8], false, []⟩
abbrev K25.T : Type := (Int) → (clock_Clock) → Option ((Nat × Unit) × Unit × Unit)
noncomputable def K25.W (f : K25.T) : K25.sig.F := fun a x => f a.2.1 x.1
noncomputable def K25.H : Hints U := { Γ := (addΓ 5000000021 noNat noΓ), ro := 14, base := 14 }
noncomputable def K25.gen : K25.T := fun n h0 =>
 (bif inR (isub .i64 n 1) 8 then some ((Int.toNat (isub .i64 n 1), ()), ((), ())) else none)
noncomputable def K25 : K25.T := K25.gen
theorem K25.eq : EqA K25.sig (K25.H) Tryz.f52 6 (K25.W (K25.gen)) := by intro a x; kernel_rfl
theorem K25.hints : HintsOK U Tryz.prog (K25.H) (fun c => c ∈ ([] : List Code)) := (hq (addΓ_ok noΓ_ok noNat_ok) loops_nil (fun _ => rfl) (fun _ => rfl))
theorem K25.ok : NativeOK U Tryz.prog 52 (K25.sig.native (K25.W K25)) :=
 Sig.ok K25.sig (K25.W (K25.gen)) U_pure (Hn := (K25.H)) (gos := 6) K25.hints Tryz.func52 rfl (by kernel_rfl) (fun b h => h) rfl rfl (by decide) (K25.eq) (by decide)
noncomputable def K108.sig : Sig U := ⟨[.int .i64, .int .i64], [], 0, [.int .i64], false, []⟩
abbrev K108.T : Type := (Int) → (Int) → Option ((Int × Unit) × Unit × Unit)
noncomputable def K108.W (f : K108.T) : K108.sig.F := fun a x => f a.1 a.2.1
noncomputable def K108.H : Hints U := { Γ := noΓ, ro := 0, base := 13 }
noncomputable def K108.gen : K108.T := fun n log =>
 (bif ieq (opMinMax true (-3) (opMinMax false log 4)) (-3) then some ((iquo .i64 (iquo .i64 (iquo .i64 n 2) 2) 2, ()), ((), ())) else (bif ieq (opMinMax true (-3) (opMinMax false log 4)) (-2) then some ((iquo .i64 (iquo .i64 n 2) 2, ()), ((), ())) else (bif ieq (opMinMax true (-3) (opMinMax false log 4)) (-1) then some ((iquo .i64 n 2, ()), ((), ())) else (bif ile 0 (opMinMax true (-3) (opMinMax false log 4)) then some ((ishl .i64 n (opMinMax true (-3) (opMinMax false log 4)), ()), ((), ())) else none))))
noncomputable def K108 : K108.T := K108.gen
theorem K108.eq : EqA K108.sig (K108.H) Tryz.f175 6 (K108.W (K108.gen)) := by intro a x; kernel_rfl
theorem K108.hints : HintsOK U Tryz.prog (K108.H) (fun c => c ∈ ([] : List Code)) := (hq noΓ_ok loops_nil (fun _ => rfl) (fun _ => rfl))
theorem K108.ok : NativeOK U Tryz.prog 175 (K108.sig.native (K108.W K108)) :=
 Sig.ok K108.sig (K108.W (K108.gen)) U_pure (Hn := (K108.H)) (gos := 6) K108.hints Tryz.func175 rfl (by kernel_rfl) (fun b h => h) rfl rfl (by decide) (K108.eq) (by decide)
noncomputable def K107.sig : Sig U := ⟨[.int .i64], [], 0, [.int .i64], false, []⟩
abbrev K107.T : Type := (Int) → Option ((Int × Unit) × Unit × Unit)
noncomputable def K107.W (f : K107.T) : K107.sig.F := fun a x => f a.1
noncomputable def K107.H (cK108 : K108.T) : Hints U := { Γ := (addΓ 175 (K108.sig.native (K108.W cK108)) noΓ), ro := 0, base := 13 }
noncomputable def K107.gen (cK108 : K108.T) : K107.T := fun log =>
 (oelim (cK108 8 log) none fun r0 => some ((r0.1.1, ()), ((), ())))
noncomputable def K107 : K107.T := K107.gen K108
theorem K107.eq (cK108 : K108.T) : EqA K107.sig (K107.H cK108) Tryz.f132 6 (K107.W (K107.gen cK108)) := by intro a x; kernel_rfl
noncomputable abbrev K107.h := K107.H K108
theorem K107.hints : HintsOK U Tryz.prog K107.h (fun c => c ∈ ([] : List Code)) := (hq (addΓ_ok noΓ_ok K108.ok) loops_nil (fun _ => rfl) (fun _ => rfl))
theorem K107.ok : NativeOK U Tryz.prog 132 (K107.sig.native (K107.W K107)) :=
 Sig.ok K107.sig (K107.W K107) U_pure (Hn := K107.h) (gos := 6) K107.hints Tryz.func132 rfl (by kernel_rfl) (fun b h => h) rfl rfl (by decide) (K107.eq K108) (by decide)
noncomputable def K12.sig : Sig U := ⟨[.ptr], [.obj .t_clock_Clock], 1, [.int .i64], false, []⟩
abbrev K12.T : Type := (clock_Clock) → Option ((Int × Unit) × Unit × Unit)
noncomputable def K12.W (f : K12.T) : K12.sig.F := fun a x => f x.1
noncomputable def K12.H (cK107 : K107.T) : Hints U := { Γ := (addΓ 132 (K107.sig.native (K107.W cK107)) (addΓ 5000000021 noNat noΓ)), ro := 14, base := 14 }
noncomputable def K12.gen (cK107 : K107.T) : K12.T := fun h0 =>
 (oelim (cK107 h0.fconf.fLogAnn) none fun r0 => some ((r0.1.1, ()), ((), ())))
noncomputable def K12 : K12.T := K12.gen K107
theorem K12.eq (cK107 : K107.T) : EqA K12.sig (K12.H cK107) Tryz.f70 6 (K12.W (K12.gen cK107)) := by intro a x; kernel_rfl
noncomputable abbrev K12.h := K12.H K107
theorem K12.hints : HintsOK U Tryz.prog K12.h (fun c => c ∈ ([] : List Code)) := (hq (addΓ_ok (addΓ_ok noΓ_ok noNat_ok) K107.ok) loops_nil (fun _ => rfl) (fun _ => rfl))
theorem K12.ok : NativeOK U Tryz.prog 70 (K12.sig.native (K12.W K12)) :=
 Sig.ok K12.sig (K12.W K12) U_pure (Hn := K12.h) (gos := 6) K12.hints Tryz.func70 rfl (by kernel_rfl) (fun b h => h) rfl rfl (by decide) (K12.eq K107) (by decide)
noncomputable def K51.sig : Sig U := ⟨[.int .u64, .int .i64, .int .i64], [fm6_], 0, [.ref 6], false, []⟩
abbrev K51.T : Type := (Int) → (Int) → (Int) → (Fm foreign_Table) → Option (((Option Nat) × Unit) × ((Fm foreign_Table) × Unit) × Unit)
noncomputable def K51.W (f : K51.T) : K51.sig.F := fun a x => f a.1 a.2.1 a.2.2.1 x.1
noncomputable def K51.H : Hints U := { Γ := noΓ, ro := 0, base := 13 }
noncomputable def K51.gen : K51.T := fun own port window g6 =>
 some ((some g6.1, ()), (((g6.1 + 1, fset g6.2 g6.1 (foreign_Table.mk (api_PortID.mk own port) (opMinMax true 1 (opMinMax false window 1048576)) (fun (j : Nat) => List.getD (foreign_Record.mk z5_ z6_ 0 0 0 :: foreign_Record.mk z5_ z6_ 0 0 0 :: foreign_Record.mk z5_ z6_ 0 0 0 :: foreign_Record.mk z5_ z6_ 0 0 0 :: foreign_Record.mk z5_ z6_ 0 0 0 :: lnil foreign_Record) j foreign_Record.zero) 0)), ()), ()))
noncomputable def K51 : K51.T := K51.gen
theorem K51.eq : EqA K51.sig (K51.H) Tryz.f91 6 (K51.W (K51.gen)) := by intro a x; kernel_rfl
theorem K51.hints : HintsOK U Tryz.prog (K51.H) (fun c => c ∈ ([] : List Code)) := (hq noΓ_ok loops_nil (fun _ => rfl) (fun _ => rfl))
theorem K51.ok : NativeOK U Tryz.prog 91 (K51.sig.native (K51.W K51)) :=
 Sig.ok K51.sig (K51.W (K51.gen)) U_pure (Hn := (K51.H)) (gos := 6) K51.hints Tryz.func91 rfl (by kernel_rfl) (fun b h => h) rfl rfl (by decide) (K51.eq) (by decide)
noncomputable def K99.sig : Sig U := ⟨[], [fm10_], 0, [.ref 10], false, []⟩
abbrev K99.T : Type := (Fm seq_Match) → Option (((Option Nat) × Unit) × ((Fm seq_Match) × Unit) × Unit)
noncomputable def K99.W (f : K99.T) : K99.sig.F := fun a x => f x.1
noncomputable def K99.H : Hints U := { Γ := noΓ, ro := 0, base := 13 }
noncomputable def K99.gen : K99.T := fun g10 =>
 some ((some g10.1, ()), (((g10.1 + 1, fset g10.2 g10.1 (seq_Match.mk z2_ z2_ 0 false false)), ()), ()))
noncomputable def K99 : K99.T := K99.gen
theorem K99.eq : EqA K99.sig (K99.H) Tryz.f92 6 (K99.W (K99.gen)) := by intro a x; kernel_rfl
theorem K99.hints : HintsOK U Tryz.prog (K99.H) (fun c => c ∈ ([] : List Code)) := (hq noΓ_ok loops_nil (fun _ => rfl) (fun _ => rfl))
theorem K99.ok : NativeOK U Tryz.prog 92 (K99.sig.native (K99.W K99)) :=
 Sig.ok K99.sig (K99.W (K99.gen)) U_pure (Hn := (K99.H)) (gos := 6) K99.hints Tryz.func92 rfl (by kernel_rfl) (fun b h => h) rfl rfl (by decide) (K99.eq) (by decide)
noncomputable def K50.sig : Sig U := ⟨[.data .t_api_PortID, .int .i64], [fm7_], 0, [.ref 7], false, []⟩
abbrev K50.T : Type := (api_PortID) → (Int) → (Fm delay_Exchange) → Option (((Option Nat) × Unit) × ((Fm delay_Exchange) × Unit) × Unit)
noncomputable def K50.W (f : K50.T) : K50.sig.F := fun a x => f a.1 a.2.1 x.1
noncomputable def K50.H : Hints U := { Γ := noΓ, ro := 0, base := 13 }
noncomputable def K50.gen : K50.T := fun self domain g7 =>
 some ((some g7.1, ()), (((g7.1 + 1, fset g7.2 g7.1 (delay_Exchange.mk self domain (delay_request.mk 0 0 false false))), ()), ()))
noncomputable def K50 : K50.T := K50.gen
theorem K50.eq : EqA K50.sig (K50.H) Tryz.f93 6 (K50.W (K50.gen)) := by intro a x; kernel_rfl
theorem K50.hints : HintsOK U Tryz.prog (K50.H) (fun c => c ∈ ([] : List Code)) := (hq noΓ_ok loops_nil (fun _ => rfl) (fun _ => rfl))
theorem K50.ok : NativeOK U Tryz.prog 93 (K50.sig.native (K50.W K50)) :=
 Sig.ok K50.sig (K50.W (K50.gen)) U_pure (Hn := (K50.H)) (gos := 6) K50.hints Tryz.func93 rfl (by kernel_rfl) (fun b h => h) rfl rfl (by decide) (K50.eq) (by decide)
noncomputable def K88.sig : Sig U := ⟨[.data .t_api_PortID, .int .i64], [fm8_], 0, [.ref 8], false, []⟩
abbrev K88.T : Type := (api_PortID) → (Int) → (Fm peer_Exchange) → Option (((Option Nat) × Unit) × ((Fm peer_Exchange) × Unit) × Unit)
noncomputable def K88.W (f : K88.T) : K88.sig.F := fun a x => f a.1 a.2.1 x.1
noncomputable def K88.H : Hints U := { Γ := noΓ, ro := 0, base := 13 }
noncomputable def K88.gen : K88.T := fun self domain g8 =>
 some ((some g8.1, ()), (((g8.1 + 1, fset g8.2 g8.1 (peer_Exchange.mk self domain 0 0 false false false false z2_ 0)), ()), ()))
noncomputable def K88 : K88.T := K88.gen
theorem K88.eq : EqA K88.sig (K88.H) Tryz.f94 6 (K88.W (K88.gen)) := by intro a x; kernel_rfl
theorem K88.hints : HintsOK U Tryz.prog (K88.H) (fun c => c ∈ ([] : List Code)) := (hq noΓ_ok loops_nil (fun _ => rfl) (fun _ => rfl))
theorem K88.ok : NativeOK U Tryz.prog 94 (K88.sig.native (K88.W K88)) :=
 Sig.ok K88.sig (K88.W (K88.gen)) U_pure (Hn := (K88.H)) (gos := 6) K88.hints Tryz.func94 rfl (by kernel_rfl) (fun b h => h) rfl rfl (by decide) (K88.eq) (by decide)
noncomputable def K14.sig : Sig U := ⟨[.ptr, .data .t_api_Conf], [.obj .t_clock_Clock, fm5_, fm6_, fm7_, fm8_, fm9_, fm10_, .fam 12 (.map true false .t_api_PortID .l_u64)], 0, [], true, []⟩
abbrev K14.T : Type := (api_Conf) → (clock_Clock) → (Fm servo_Servo) → (Fm foreign_Table) → (Fm delay_Exchange) → (Fm peer_Exchange) → (Fm median_Filter) → (Fm seq_Match) → (Nat × (Nat → List (api_PortID × List (Int)))) → Option (Unit × (clock_Clock × (Fm servo_Servo) × (Fm foreign_Table) × (Fm delay_Exchange) × (Fm peer_Exchange) × (Fm median_Filter) × (Fm seq_Match) × (Nat × (Nat → List (api_PortID × List (Int)))) × Unit) × Unit)
noncomputable def K14.W (f : K14.T) : K14.sig.F := fun a x => f a.2.1 x.1 x.2.1 x.2.2.1 x.2.2.2.1 x.2.2.2.2.1 x.2.2.2.2.2.1 x.2.2.2.2.2.2.1 x.2.2.2.2.2.2.2.1
noncomputable def K14.L0 : Shape U := ⟨57, 15, [(0, .ptr 13 0 0), (3, .ptr 14 0 0), (4, vi_)], [(13, .obj .t_clock_Clock), (14, .obj .t_api_Conf), (5, .famN false .t_servo_Servo), (6, .famN false .t_foreign_Table), (7, .famN false .t_delay_Exchange), (8, .famN false .t_peer_Exchange), (9, .famN false .t_median_Filter), (10, .famN false .t_seq_Match), (12, .mfam true false .t_api_PortID .l_u64)]⟩
noncomputable def K14.X0 : Exits U := [(.exit 0, ⟨57, 14, [], [(13, .obj .t_clock_Clock), (5, .famN false .t_servo_Servo), (6, .famN false .t_foreign_Table), (7, .famN false .t_delay_Exchange), (8, .famN false .t_peer_Exchange), (9, .famN false .t_median_Filter), (10, .famN false .t_seq_Match), (12, .mfam true false .t_api_PortID .l_u64)]⟩)]
abbrev K14.l0T : Type := ((Int × Unit) × (clock_Clock × api_Conf × (Fm servo_Servo) × (Fm foreign_Table) × (Fm delay_Exchange) × (Fm peer_Exchange) × (Fm median_Filter) × (Fm seq_Match) × (Nat × (Nat → List (api_PortID × List (Int)))) × Unit)) → Option ((Unit × (clock_Clock × (Fm servo_Servo) × (Fm foreign_Table) × (Fm delay_Exchange) × (Fm peer_Exchange) × (Fm median_Filter) × (Fm seq_Match) × (Nat × (Nat → List (api_PortID × List (Int)))) × Unit)))
noncomputable def K14.C : Code := match Tryz.f49.body with | some c => c | none => .skip
noncomputable def K14.B0 : Code := match (loopsOf K14.C).getD 0 .skip with | .loop b => b | .scope b => b | _ => .skip
noncomputable def K14.JR6 : Exits U := [(.normal, ⟨57, 15, [(0, .ptr 13 0 0), (3, .ptr 14 0 0), (4, vi_)], [(13, .obj .t_clock_Clock), (14, .obj .t_api_Conf), (5, .famN false .t_servo_Servo), (6, .famN false .t_foreign_Table), (7, .famN false .t_delay_Exchange), (8, .famN false .t_peer_Exchange), (9, .famN false .t_median_Filter), (10, .famN false .t_seq_Match), (12, .mfam true false .t_api_PortID .l_u64)]⟩)]
noncomputable def K14.JR5 : Exits U := [(.normal, ⟨57, 16, [(0, .ptr 13 0 0), (3, .ptr 14 0 0), (4, vi_), (5, .ptr 15 0 0)], [(13, .obj .t_clock_Clock), (14, .obj .t_api_Conf), (15, .obj .t_api_PortID), (5, .famN false .t_servo_Servo), (6, .famN false .t_foreign_Table), (7, .famN false .t_delay_Exchange), (8, .famN false .t_peer_Exchange), (9, .famN false .t_median_Filter), (10, .famN false .t_seq_Match), (12, .mfam true false .t_api_PortID .l_u64)]⟩)]
noncomputable def K14.JR1 : Exits U := [(.normal, ⟨57, 15, [(0, .ptr 13 0 0), (3, .ptr 14 0 0)], [(13, .obj .t_clock_Clock), (14, .obj .t_api_Conf), (5, .famN false .t_servo_Servo), (6, .famN false .t_foreign_Table), (7, .famN false .t_delay_Exchange), (8, .famN false .t_peer_Exchange), (9, .famN false .t_median_Filter), (10, .famN false .t_seq_Match), (12, .mfam true false .t_api_PortID .l_u64)]⟩)]
noncomputable def K14.H (cK120 : K120.T) (cK101 : K101.T) (cK78 : K78.T) (cK24 : K24.T) (cK25 : K25.T) (cK12 : K12.T) (cK51 : K51.T) (cK99 : K99.T) (cK50 : K50.T) (cK88 : K88.T) (l0 : K14.l0T) : Hints U := { Γ := (addΓ 94 (K88.sig.native (K88.W cK88)) (addΓ 93 (K50.sig.native (K50.W cK50)) (addΓ 92 (K99.sig.native (K99.W cK99)) (addΓ 91 (K51.sig.native (K51.W cK51)) (addΓ 70 (K12.sig.native (K12.W cK12)) (addΓ 52 (K25.sig.native (K25.W cK25)) (addΓ 79 (K24.sig.native (K24.W cK24)) (addΓ 90 (K78.sig.native (K78.W cK78)) (addΓ 89 (K101.sig.native (K101.W cK101)) (addΓ 88 (K120.sig.native (K120.W cK120)) noΓ)))))))))), ro := 0, base := 14, joinR := fun b => (bif Nat.beq b 1 then some K14.JR1 else (bif Nat.beq b 5 then some K14.JR5 else (bif Nat.beq b 6 then some K14.JR6 else none))), loop := fun b => (bif Nat.beq b 3 then some (loopN (0, 14) K14.L0 K14.X0 l0) else none) }
noncomputable def K14.step0 (cK120 : K120.T) (cK101 : K101.T) (cK78 : K78.T) (cK24 : K24.T) (cK25 : K25.T) (cK12 : K12.T) (cK51 : K51.T) (cK99 : K99.T) (cK50 : K50.T) (cK88 : K88.T) (a : (Int × Unit) × (clock_Clock × api_Conf × (Fm servo_Servo) × (Fm foreign_Table) × (Fm delay_Exchange) × (Fm peer_Exchange) × (Fm median_Filter) × (Fm seq_Match) × (Nat × (Nat → List (api_PortID × List (Int)))) × Unit)) : Option (((Int × Unit) × (clock_Clock × api_Conf × (Fm servo_Servo) × (Fm foreign_Table) × (Fm delay_Exchange) × (Fm peer_Exchange) × (Fm median_Filter) × (Fm seq_Match) × (Nat × (Nat → List (api_PortID × List (Int)))) × Unit)) ⊕ ((Unit × (clock_Clock × (Fm servo_Servo) × (Fm foreign_Table) × (Fm delay_Exchange) × (Fm peer_Exchange) × (Fm median_Filter) × (Fm seq_Match) × (Nat × (Nat → List (api_PortID × List (Int)))) × Unit)))) :=
 (bif ile a.1.1 a.2.2.1.fPorts then (oelim ((oelim (cK24 a.1.1 a.2.1) none fun r0 => some ((a.1.1, ()), (a.2.1, (a.2.2.1, (r0.1.1, (a.2.2.2.1, (a.2.2.2.2.1, (a.2.2.2.2.2.1, (a.2.2.2.2.2.2.1, (a.2.2.2.2.2.2.2.1, (a.2.2.2.2.2.2.2.2.1, (a.2.2.2.2.2.2.2.2.2.1, ()))))))))))))) none fun r1 => (oelim ((oelim (cK25 r1.1.1 r1.2.1) none fun r2 => (oelim (cK12 r1.2.1) none fun r3 => (oelim (cK51 r1.2.2.1.fClock r1.1.1 (imul .i64 4 r3.1.1) r1.2.2.2.2.2.1) none fun r4 => (oelim (cK99 r1.2.2.2.2.2.2.2.2.2.1) none fun r5 => (oelim (cK50 r1.2.2.2.1 r1.2.2.1.fDomain r1.2.2.2.2.2.2.1) none fun r6 => (oelim (cK88 r1.2.2.2.1 r1.2.2.1.fDomain r1.2.2.2.2.2.2.2.1) none fun r7 => some ((r1.1.1, ()), (clock_Clock.set_fports r1.2.1 (fset r1.2.1.fports r2.1.1 (clock_side.mk 1 r4.1.1 (some r1.2.2.2.2.2.2.2.2.2.2.1.1) z3_ z3_ z3_ z3_ z3_ 0 0 0 r5.1.1 r6.1.1 r7.1.1 z4_ z4_ z2_ false)), (r1.2.2.1, (r1.2.2.2.2.1, (r4.2.1.1, (r6.2.1.1, (r7.2.1.1, (r1.2.2.2.2.2.2.2.2.1, (r5.2.1.1, ((r1.2.2.2.2.2.2.2.2.2.2.1.1 + 1, fset r1.2.2.2.2.2.2.2.2.2.2.1.2 r1.2.2.2.2.2.2.2.2.2.2.1.1 (lnil (D UC.t_api_PortID × D UC.l_u64))), ()))))))))))))))))) none fun r8 => some (.inl ((iadd .i64 r8.1.1 1, ()), (r8.2.1, (r8.2.2.1, (r8.2.2.2.1, (r8.2.2.2.2.1, (r8.2.2.2.2.2.1, (r8.2.2.2.2.2.2.1, (r8.2.2.2.2.2.2.2.1, (r8.2.2.2.2.2.2.2.2.1, (r8.2.2.2.2.2.2.2.2.2.1, ()))))))))))))) else some (.inr ((), (a.2.1, (a.2.2.2.1, (a.2.2.2.2.1, (a.2.2.2.2.2.1, (a.2.2.2.2.2.2.1, (a.2.2.2.2.2.2.2.1, (a.2.2.2.2.2.2.2.2.1, (a.2.2.2.2.2.2.2.2.2.1, ())))))))))))
noncomputable def K14.F0 : K14.l0T := fun a => loopFix (1000000) (K14.step0 K120 K101 K78 K24 K25 K12 K51 K99 K50 K88) a
noncomputable def K14.gen (cK120 : K120.T) (cK101 : K101.T) (cK78 : K78.T) (cK24 : K24.T) (cK25 : K25.T) (cK12 : K12.T) (cK51 : K51.T) (cK99 : K99.T) (cK50 : K50.T) (cK88 : K88.T) (l0 : K14.l0T) : K14.T := fun c h0 g5 g6 g7 g8 g9 g10 g12 =>
 (oelim ((oelim (cK120 c) none fun r0 => (oelim (cK101 c.fKp c.fKi c.fStep g5) none fun r1 => (oelim (cK78 c.fMedian g9) none fun r2 => some ((), (clock_Clock.mk c (fun (j : Nat) => List.getD (clock_side.mk 0 none none z3_ z3_ z3_ z3_ z3_ 0 0 0 none none none z4_ z4_ z2_ false :: clock_side.mk 0 none none z3_ z3_ z3_ z3_ z3_ 0 0 0 none none none z4_ z4_ z2_ false :: clock_side.mk 0 none none z3_ z3_ z3_ z3_ z3_ 0 0 0 none none none z4_ z4_ z2_ false :: clock_side.mk 0 none none z3_ z3_ z3_ z3_ z3_ 0 0 0 none none none z4_ z4_ z2_ false :: clock_side.mk 0 none none z3_ z3_ z3_ z3_ z3_ 0 0 0 none none none z4_ z4_ z2_ false :: clock_side.mk 0 none none z3_ z3_ z3_ z3_ z3_ 0 0 0 none none none z4_ z4_ z2_ false :: clock_side.mk 0 none none z3_ z3_ z3_ z3_ z3_ 0 0 0 none none none z4_ z4_ z2_ false :: clock_side.mk 0 none none z3_ z3_ z3_ z3_ z3_ 0 0 0 none none none z4_ z4_ z2_ false :: lnil clock_side) j clock_side.zero) 0 r0.1.1 r1.1.1 r2.1.1 0 z4_ 0 h0.fouts, (c, (r1.2.1.1, (g6, (g7, (g8, (r2.2.1.1, (g10, (g12, ())))))))))))))) none fun r3 => (oelim (l0 (((1 : Int), ()), r3.2)) none fun r4 => some ((), ((r4.2.1, (r4.2.2.1, (r4.2.2.2.1, (r4.2.2.2.2.1, (r4.2.2.2.2.2.1, (r4.2.2.2.2.2.2.1, (r4.2.2.2.2.2.2.2.1, (r4.2.2.2.2.2.2.2.2.1, ())))))))), ()))))
noncomputable def K14 : K14.T := K14.gen K120 K101 K78 K24 K25 K12 K51 K99 K50 K88 K14.F0
theorem K14.seq0 (cK120 : K120.T) (cK101 : K101.T) (cK78 : K78.T) (cK24 : K24.T) (cK25 : K25.T) (cK12 : K12.T) (cK51 : K51.T) (cK99 : K99.T) (cK50 : K50.T) (cK88 : K88.T) (l0 : K14.l0T) (a : K14.L0.T) : run Tryz.prog (K14.H cK120 cK101 cK78 cK24 cK25 cK12 cK51 cK99 cK50 cK88 l0) 6 (Option (K14.L0.T ⊕ ExT K14.X0)) none K14.B0 (K14.L0.enc a) (loopK (0, 14) K14.L0 K14.X0) = K14.step0 cK120 cK101 cK78 cK24 cK25 cK12 cK51 cK99 cK50 cK88 a := by kernel_rfl
theorem K14.inner0 : loopsOf K14.B0 = ([] : List Code) := by kernel_rfl
noncomputable abbrev K14.h := K14.H K120 K101 K78 K24 K25 K12 K51 K99 K50 K88 K14.F0
theorem K14.lok0 : LoopOK U Tryz.prog K14.h.ro K14.h.base K14.B0 (loopN (0, 14) K14.L0 K14.X0 K14.F0) :=
 loopN_ok (Hn := K14.h) U_ok U_pure (run_ok (hq (addΓ_ok (addΓ_ok (addΓ_ok (addΓ_ok (addΓ_ok (addΓ_ok (addΓ_ok (addΓ_ok (addΓ_ok (addΓ_ok noΓ_ok K120.ok) K101.ok) K78.ok) K24.ok) K25.ok) K12.ok) K51.ok) K99.ok) K50.ok) K88.ok) loops_nil (fun _ => rfl) (fun _ => rfl)) 6) (fun b h => by rw [K14.inner0] at h; exact h) (fun _ => rfl) (K14.seq0 K120 K101 K78 K24 K25 K12 K51 K99 K50 K88 K14.F0)
theorem K14.eq (cK120 : K120.T) (cK101 : K101.T) (cK78 : K78.T) (cK24 : K24.T) (cK25 : K25.T) (cK12 : K12.T) (cK51 : K51.T) (cK99 : K99.T) (cK50 : K50.T) (cK88 : K88.T) (l0 : K14.l0T) : EqA K14.sig (K14.H cK120 cK101 cK78 cK24 cK25 cK12 cK51 cK99 cK50 cK88 l0) Tryz.f49 6 (K14.W (K14.gen cK120 cK101 cK78 cK24 cK25 cK12 cK51 cK99 cK50 cK88 l0)) := by intro a x; kernel_rfl
theorem K14.loops : loopsOf K14.C = [(.loop K14.B0)] := by kernel_rfl
theorem K14.hints : HintsOK U Tryz.prog K14.h (fun c => c ∈ [(.loop K14.B0)]) := (hq (addΓ_ok (addΓ_ok (addΓ_ok (addΓ_ok (addΓ_ok (addΓ_ok (addΓ_ok (addΓ_ok (addΓ_ok (addΓ_ok noΓ_ok K120.ok) K101.ok) K78.ok) K24.ok) K25.ok) K12.ok) K51.ok) K99.ok) K50.ok) K88.ok) (loops_cons (by kernel_rfl) K14.lok0 loops_nil) (fun _ => rfl) (fun _ => rfl))
theorem K14.ok : NativeOK U Tryz.prog 49 (K14.sig.native (K14.W K14)) :=
 Sig.ok K14.sig (K14.W K14) U_pure (Hn := K14.h) (code := K14.C) (gos := 6) K14.hints Tryz.func49 (by kernel_rfl) (by kernel_rfl) (fun b h => by rw [K14.loops] at h; exact h) rfl rfl (by decide) (K14.eq K120 K101 K78 K24 K25 K12 K51 K99 K50 K88 K14.F0) (by decide)
noncomputable def K28.sig : Sig U := ⟨[.data .t_api_Conf], [fm0_, fm5_, fm6_, fm7_, fm8_, fm9_, fm10_, .fam 12 (.map true false .t_api_PortID .l_u64)], 0, [.ref 0, .int .i64], true, []⟩
abbrev K28.T : Type := (api_Conf) → (Fm clock_Clock) → (Fm servo_Servo) → (Fm foreign_Table) → (Fm delay_Exchange) → (Fm peer_Exchange) → (Fm median_Filter) → (Fm seq_Match) → (Nat × (Nat → List (api_PortID × List (Int)))) → Option (((Option Nat) × Int × Unit) × ((Fm clock_Clock) × (Fm servo_Servo) × (Fm foreign_Table) × (Fm delay_Exchange) × (Fm peer_Exchange) × (Fm median_Filter) × (Fm seq_Match) × (Nat × (Nat → List (api_PortID × List (Int)))) × Unit) × Unit)
noncomputable def K28.W (f : K28.T) : K28.sig.F := fun a x => f a.1 x.1 x.2.1 x.2.2.1 x.2.2.2.1 x.2.2.2.2.1 x.2.2.2.2.2.1 x.2.2.2.2.2.2.1 x.2.2.2.2.2.2.2.1
noncomputable def K28.H (cK43 : K43.T) (cK14 : K14.T) : Hints U := { Γ := (addΓ 49 (K14.sig.native (K14.W cK14)) (addΓ 48 (K43.sig.native (K43.W cK43)) noΓ)), ro := 0, base := 13 }
noncomputable def K28.gen (cK43 : K43.T) (cK14 : K14.T) : K28.T := fun c g0 g5 g6 g7 g8 g9 g10 g12 =>
 (oelim (cK43 c) none fun r0 => (bif ine r0.1.1 0 then some ((none, (r0.1.1, ())), ((g0, (g5, (g6, (g7, (g8, (g9, (g10, (g12, ())))))))), ())) else (oelim (cK14 c (fset g0.2 g0.1 (clock_Clock.mk z7_ (fun (j : Nat) => List.getD (clock_side.mk 0 none none z3_ z3_ z3_ z3_ z3_ 0 0 0 none none none z4_ z4_ z2_ false :: clock_side.mk 0 none none z3_ z3_ z3_ z3_ z3_ 0 0 0 none none none z4_ z4_ z2_ false :: clock_side.mk 0 none none z3_ z3_ z3_ z3_ z3_ 0 0 0 none none none z4_ z4_ z2_ false :: clock_side.mk 0 none none z3_ z3_ z3_ z3_ z3_ 0 0 0 none none none z4_ z4_ z2_ false :: clock_side.mk 0 none none z3_ z3_ z3_ z3_ z3_ 0 0 0 none none none z4_ z4_ z2_ false :: clock_side.mk 0 none none z3_ z3_ z3_ z3_ z3_ 0 0 0 none none none z4_ z4_ z2_ false :: clock_side.mk 0 none none z3_ z3_ z3_ z3_ z3_ 0 0 0 none none none z4_ z4_ z2_ false :: clock_side.mk 0 none none z3_ z3_ z3_ z3_ z3_ 0 0 0 none none none z4_ z4_ z2_ false :: lnil clock_side) j clock_side.zero) 0 (api_Parent.mk z0_ 0 z1_ 0 0 0 z6_) none none (0 : Int) z4_ 0 (lnil api_Out)) g0.1) g5 g6 g7 g8 g9 g10 g12) none fun r1 => some ((some g0.1, ((0 : Int), ())), (((g0.1 + 1, fset (fset g0.2 g0.1 (clock_Clock.mk z7_ (fun (j : Nat) => List.getD (clock_side.mk 0 none none z3_ z3_ z3_ z3_ z3_ 0 0 0 none none none z4_ z4_ z2_ false :: clock_side.mk 0 none none z3_ z3_ z3_ z3_ z3_ 0 0 0 none none none z4_ z4_ z2_ false :: clock_side.mk 0 none none z3_ z3_ z3_ z3_ z3_ 0 0 0 none none none z4_ z4_ z2_ false :: clock_side.mk 0 none none z3_ z3_ z3_ z3_ z3_ 0 0 0 none none none z4_ z4_ z2_ false :: clock_side.mk 0 none none z3_ z3_ z3_ z3_ z3_ 0 0 0 none none none z4_ z4_ z2_ false :: clock_side.mk 0 none none z3_ z3_ z3_ z3_ z3_ 0 0 0 none none none z4_ z4_ z2_ false :: clock_side.mk 0 none none z3_ z3_ z3_ z3_ z3_ 0 0 0 none none none z4_ z4_ z2_ false :: clock_side.mk 0 none none z3_ z3_ z3_ z3_ z3_ 0 0 0 none none none z4_ z4_ z2_ false :: lnil clock_side) j clock_side.zero) 0 (api_Parent.mk z0_ 0 z1_ 0 0 0 z6_) none none (0 : Int) z4_ 0 (lnil api_Out))) g0.1 r1.2.1.1), (r1.2.1.2.1, (r1.2.1.2.2.1, (r1.2.1.2.2.2.1, (r1.2.1.2.2.2.2.1, (r1.2.1.2.2.2.2.2.1, (r1.2.1.2.2.2.2.2.2.1, (r1.2.1.2.2.2.2.2.2.2.1, ())))))))), ())))))
noncomputable def K28 : K28.T := K28.gen K43 K14
theorem K28.eq (cK43 : K43.T) (cK14 : K14.T) : EqA K28.sig (K28.H cK43 cK14) Tryz.f24 6 (K28.W (K28.gen cK43 cK14)) := by intro a x; kernel_rfl
noncomputable abbrev K28.h := K28.H K43 K14
theorem K28.hints : HintsOK U Tryz.prog K28.h (fun c => c ∈ ([] : List Code)) := (hq (addΓ_ok (addΓ_ok noΓ_ok K43.ok) K14.ok) loops_nil (fun _ => rfl) (fun _ => rfl))
theorem K28.ok : NativeOK U Tryz.prog 24 (K28.sig.native (K28.W K28)) :=
 Sig.ok K28.sig (K28.W K28) U_pure (Hn := K28.h) (gos := 6) K28.hints Tryz.func24 rfl (by kernel_rfl) (fun b h => h) rfl rfl (by decide) (K28.eq K43 K14) (by decide)
noncomputable def K75.sig : Sig U := ⟨[.int .u64, .int .i64], [fm0_, fm5_, fm6_, fm7_, fm8_, fm9_, fm10_, .fam 12 (.map true false .t_api_PortID .l_u64)], 0, [.ref 0], false, []⟩
abbrev K75.T : Type := (Int) → (Int) → (Fm clock_Clock) → (Fm servo_Servo) → (Fm foreign_Table) → (Fm delay_Exchange) → (Fm peer_Exchange) → (Fm median_Filter) → (Fm seq_Match) → (Nat × (Nat → List (api_PortID × List (Int)))) → Option (((Option Nat) × Unit) × ((Fm clock_Clock) × (Fm servo_Servo) × (Fm foreign_Table) × (Fm delay_Exchange) × (Fm peer_Exchange) × (Fm median_Filter) × (Fm seq_Match) × (Nat × (Nat → List (api_PortID × List (Int)))) × Unit) × Unit)
noncomputable def K75.W (f : K75.T) : K75.sig.F := fun a x => f a.1 a.2.1 x.1 x.2.1 x.2.2.1 x.2.2.2.1 x.2.2.2.2.1 x.2.2.2.2.2.1 x.2.2.2.2.2.2.1 x.2.2.2.2.2.2.2.1
noncomputable def K75.H (cK44 : K44.T) (cK28 : K28.T) : Hints U := { Γ := (addΓ 24 (K28.sig.native (K28.W cK28)) (addΓ 23 (K44.sig.native (K44.W cK44)) noΓ)), ro := 0, base := 13 }
noncomputable def K75.gen (cK44 : K44.T) (cK28 : K28.T) : K75.T := fun id ports g0 g5 g6 g7 g8 g9 g10 g12 =>
 (oelim (cK44 id) none fun r0 => (oelim (cK28 (api_Conf.set_fLogDelay (api_Conf.set_fLogSync (api_Conf.set_fLogAnn (api_Conf.set_fPorts r0.1.1 ports) (-3)) (-3)) (-3)) g0 g5 g6 g7 g8 g9 g10 g12) none fun r1 => (bif ine r1.1.2.1 0 then some ((none, ()), ((r1.2.1.1, (r1.2.1.2.1, (r1.2.1.2.2.1, (r1.2.1.2.2.2.1, (r1.2.1.2.2.2.2.1, (r1.2.1.2.2.2.2.2.1, (r1.2.1.2.2.2.2.2.2.1, (r1.2.1.2.2.2.2.2.2.2.1, ())))))))), ())) else some ((r1.1.1, ()), ((r1.2.1.1, (r1.2.1.2.1, (r1.2.1.2.2.1, (r1.2.1.2.2.2.1, (r1.2.1.2.2.2.2.1, (r1.2.1.2.2.2.2.2.1, (r1.2.1.2.2.2.2.2.2.1, (r1.2.1.2.2.2.2.2.2.2.1, ())))))))), ())))))
noncomputable def K75 : K75.T := K75.gen K44 K28
theorem K75.eq (cK44 : K44.T) (cK28 : K28.T) : EqA K75.sig (K75.H cK44 cK28) Tryz.f15 6 (K75.W (K75.gen cK44 cK28)) := by intro a x; kernel_rfl
noncomputable abbrev K75.h := K75.H K44 K28
theorem K75.hints : HintsOK U Tryz.prog K75.h (fun c => c ∈ ([] : List Code)) := (hq (addΓ_ok (addΓ_ok noΓ_ok K44.ok) K28.ok) loops_nil (fun _ => rfl) (fun _ => rfl))
theorem K75.ok : NativeOK U Tryz.prog 15 (K75.sig.native (K75.W K75)) :=
 Sig.ok K75.sig (K75.W K75) U_pure (Hn := K75.h) (gos := 6) K75.hints Tryz.func15 rfl (by kernel_rfl) (fun b h => h) rfl rfl (by decide) (K75.eq K44 K28) (by decide)
noncomputable def K91.sig : Sig U := ⟨[.int .i64], [], 0, [.bool], false, []⟩
abbrev K91.T : Type := (Int) → Option ((Bool × Unit) × Unit × Unit)
noncomputable def K91.W (f : K91.T) : K91.sig.F := fun a x => f a.1
noncomputable def K91.H : Hints U := { Γ := noΓ, ro := 0, base := 13 }
noncomputable def K91.gen : K91.T := fun state =>
 (bif ieq state 8 then some ((true, ()), ((), ())) else some ((ieq state 9, ()), ((), ())))
noncomputable def K91 : K91.T := K91.gen
theorem K91.eq : EqA K91.sig (K91.H) Tryz.f76 6 (K91.W (K91.gen)) := by intro a x; kernel_rfl
theorem K91.hints : HintsOK U Tryz.prog (K91.H) (fun c => c ∈ ([] : List Code)) := (hq noΓ_ok loops_nil (fun _ => rfl) (fun _ => rfl))
theorem K91.ok : NativeOK U Tryz.prog 76 (K91.sig.native (K91.W K91)) :=
 Sig.ok K91.sig (K91.W (K91.gen)) U_pure (Hn := (K91.H)) (gos := 6) K91.hints Tryz.func76 rfl (by kernel_rfl) (fun b h => h) rfl rfl (by decide) (K91.eq) (by decide)
noncomputable def K92.sig : Sig U := ⟨[.int .i64], [], 0, [.bool], false, []⟩
abbrev K92.T : Type := (Int) → Option ((Bool × Unit) × Unit × Unit)
noncomputable def K92.W (f : K92.T) : K92.sig.F := fun a x => f a.1
noncomputable def K92.H (cK91 : K91.T) : Hints U := { Γ := (addΓ 76 (K91.sig.native (K91.W cK91)) noΓ), ro := 0, base := 13 }
noncomputable def K92.gen (cK91 : K91.T) : K92.T := fun state =>
 (bif ieq state 4 then some ((true, ()), ((), ())) else (bif ieq state 7 then some ((true, ()), ((), ())) else (oelim (cK91 state) none fun r0 => some ((r0.1.1, ()), ((), ())))))
noncomputable def K92 : K92.T := K92.gen K91
theorem K92.eq (cK91 : K91.T) : EqA K92.sig (K92.H cK91) Tryz.f129 6 (K92.W (K92.gen cK91)) := by intro a x; kernel_rfl
noncomputable abbrev K92.h := K92.H K91
theorem K92.hints : HintsOK U Tryz.prog K92.h (fun c => c ∈ ([] : List Code)) := (hq (addΓ_ok noΓ_ok K91.ok) loops_nil (fun _ => rfl) (fun _ => rfl))
theorem K92.ok : NativeOK U Tryz.prog 129 (K92.sig.native (K92.W K92)) :=
 Sig.ok K92.sig (K92.W K92) U_pure (Hn := K92.h) (gos := 6) K92.hints Tryz.func129 rfl (by kernel_rfl) (fun b h => h) rfl rfl (by decide) (K92.eq K91) (by decide)
noncomputable def K93.sig : Sig U := ⟨[.int .i64, .int .i64, .bool], [], 0, [.int .i64], false, []⟩
abbrev K93.T : Type := (Int) → (Int) → (Bool) → Option ((Int × Unit) × Unit × Unit)
noncomputable def K93.W (f : K93.T) : K93.sig.F := fun a x => f a.1 a.2.1 a.2.2.1
noncomputable def K93.JC6 : Exits U := [(.normal, ⟨60, 13, [(0, vi_), (1, vi_), (2, vb_), (21, vb_)], []⟩)]
noncomputable def K93.JC2 : Exits U := [(.normal, ⟨60, 13, [(0, vi_)], []⟩),
 (.ret, ⟨60, 13, [(6, vi_)], []⟩)]
noncomputable def K93.H (cK92 : K92.T) : Hints U := { Γ := (addΓ 129 (K92.sig.native (K92.W cK92)) noΓ), ro := 0, base := 13, joinQ := fun b => (bif Nat.beq b 1 then some [(7, vb_)] else (bif Nat.beq b 3 then some [(14, vb_)] else (bif Nat.beq b 5 then some [(21, vb_)] else (bif Nat.beq b 6 then some [(21, vb_)] else (bif Nat.beq b 8 then some [(34, vb_)] else (bif Nat.beq b 12 then some [(42, vb_)] else (bif Nat.beq b 14 then some [(49, vb_)] else none))))))), joinC := fun b => (bif Nat.beq b 2 then some K93.JC2 else (bif Nat.beq b 6 then some K93.JC6 else none)) }
noncomputable def K93.gen (cK92 : K92.T) : K93.T := fun state event slaveOnly =>
 (oelim ((bif ieq event 1 then some (ieq state 1, ()) else some (false, ()))) none fun r0 => (oelim ((bif r0.1 then some (.inr (((4 : Int), ()), ())) else (oelim ((bif ieq event 2 then some (ine state 3, ()) else some (false, ()))) none fun r1 => (bif r1.1 then some (.inr (((2 : Int), ()), ())) else (oelim ((bif ieq event 3 then some (ieq state 2, ()) else some (false, ()))) none fun r2 => (oelim ((bif r2.1 then some ((state, (event, (slaveOnly, (r2.1, ())))), ()) else (oelim ((bif ieq event 8 then some (ieq state 3, ()) else some (false, ()))) none fun r3 => some ((state, (event, (slaveOnly, (r3.1, ())))), ())))) none fun r4 => (bif r4.1.2.2.2.1 then some (.inr (((1 : Int), ()), ())) else (oelim ((bif ieq r4.1.2.1 4 then (oelim (cK92 r4.1.1) none fun r5 => some (r5.1.1, ())) else some (false, ()))) none fun r6 => (bif r6.1 then (bif r4.1.2.2.1 then some (.inr (((4 : Int), ()), ())) else some (.inr (((6 : Int), ()), ()))) else (oelim ((bif ieq r4.1.2.1 5 then some (ieq r4.1.1 5, ()) else some (false, ()))) none fun r7 => (bif r7.1 then some (.inr (((6 : Int), ()), ())) else (oelim ((bif ieq r4.1.2.1 6 then some (ieq r4.1.1 8, ()) else some (false, ()))) none fun r8 => (bif r8.1 then some (.inr (((9 : Int), ()), ())) else (bif ieq r4.1.2.1 7 then some (.inr (((3 : Int), ()), ())) else some (.inl ((r4.1.1, ()), ())))))))))))))))) none fun r9 => (selim r9 (fun r10 => some ((r10.1.1, ()), ((), ()))) (fun r10 => some ((r10.1.1, ()), ((), ()))))))
noncomputable def K93 : K93.T := K93.gen K92
theorem K93.eq (cK92 : K92.T) : EqA K93.sig (K93.H cK92) Tryz.f95 6 (K93.W (K93.gen cK92)) := by intro a x; kernel_rfl
noncomputable abbrev K93.h := K93.H K92
theorem K93.hints : HintsOK U Tryz.prog K93.h (fun c => c ∈ ([] : List Code)) := (hq (addΓ_ok noΓ_ok K92.ok) loops_nil (fun _ => rfl) (fun _ => rfl))
theorem K93.ok : NativeOK U Tryz.prog 95 (K93.sig.native (K93.W K93)) :=
 Sig.ok K93.sig (K93.W K93) U_pure (Hn := K93.h) (gos := 6) K93.hints Tryz.func95 rfl (by kernel_rfl) (fun b h => h) rfl rfl (by decide) (K93.eq K92) (by decide)
noncomputable def K23.sig : Sig U := ⟨[.ptr], [.obj .t_clock_Clock], 1, [.int .i64], false, []⟩
abbrev K23.T : Type := (clock_Clock) → Option ((Int × Unit) × Unit × Unit)
noncomputable def K23.W (f : K23.T) : K23.sig.F := fun a x => f x.1
noncomputable def K23.H (cK12 : K12.T) : Hints U := { Γ := (addΓ 70 (K12.sig.native (K12.W cK12)) (addΓ 5000000021 noNat noΓ)), ro := 14, base := 14 }
noncomputable def K23.gen (cK12 : K12.T) : K23.T := fun h0 =>
 (oelim (cK12 h0) none fun r0 => some ((imul .i64 h0.fconf.fTimeout r0.1.1, ()), ((), ())))
noncomputable def K23 : K23.T := K23.gen K12
theorem K23.eq (cK12 : K12.T) : EqA K23.sig (K23.H cK12) Tryz.f127 6 (K23.W (K23.gen cK12)) := by intro a x; kernel_rfl
noncomputable abbrev K23.h := K23.H K12
theorem K23.hints : HintsOK U Tryz.prog K23.h (fun c => c ∈ ([] : List Code)) := (hq (addΓ_ok (addΓ_ok noΓ_ok noNat_ok) K12.ok) loops_nil (fun _ => rfl) (fun _ => rfl))
theorem K23.ok : NativeOK U Tryz.prog 127 (K23.sig.native (K23.W K23)) :=
 Sig.ok K23.sig (K23.W K23) U_pure (Hn := K23.h) (gos := 6) K23.hints Tryz.func127 rfl (by kernel_rfl) (fun b h => h) rfl rfl (by decide) (K23.eq K12) (by decide)
noncomputable def K109.sig : Sig U := ⟨[.ptr, .int .i64], [.obj .t_timer_Timer], 0, [], true, []⟩
abbrev K109.T : Type := (Int) → (timer_Timer) → Option (Unit × (timer_Timer × Unit) × Unit)
noncomputable def K109.W (f : K109.T) : K109.sig.F := fun a x => f a.2.1 x.1
noncomputable def K109.H : Hints U := { Γ := noΓ, ro := 0, base := 14 }
noncomputable def K109.gen : K109.T := fun n h0 =>
 some ((), ((timer_Timer.mk (opMinMax true 1 (opMinMax false n 1073741824)), ()), ()))
noncomputable def K109 : K109.T := K109.gen
theorem K109.eq : EqA K109.sig (K109.H) Tryz.f126 6 (K109.W (K109.gen)) := by intro a x; kernel_rfl
theorem K109.hints : HintsOK U Tryz.prog (K109.H) (fun c => c ∈ ([] : List Code)) := (hq noΓ_ok loops_nil (fun _ => rfl) (fun _ => rfl))
theorem K109.ok : NativeOK U Tryz.prog 126 (K109.sig.native (K109.W K109)) :=
 Sig.ok K109.sig (K109.W (K109.gen)) U_pure (Hn := (K109.H)) (gos := 6) K109.hints Tryz.func126 rfl (by kernel_rfl) (fun b h => h) rfl rfl (by decide) (K109.eq) (by decide)
noncomputable def K89.sig : Sig U := ⟨[.int .i64], [], 0, [.bool], false, []⟩
abbrev K89.T : Type := (Int) → Option ((Bool × Unit) × Unit × Unit)
noncomputable def K89.W (f : K89.T) : K89.sig.F := fun a x => f a.1
noncomputable def K89.H : Hints U := { Γ := noΓ, ro := 0, base := 13 }
noncomputable def K89.gen : K89.T := fun state =>
 (bif ile 4 state then some ((ile state 9, ()), ((), ())) else some ((false, ()), ((), ())))
noncomputable def K89 : K89.T := K89.gen
theorem K89.eq : EqA K89.sig (K89.H) Tryz.f74 6 (K89.W (K89.gen)) := by intro a x; kernel_rfl
theorem K89.hints : HintsOK U Tryz.prog (K89.H) (fun c => c ∈ ([] : List Code)) := (hq noΓ_ok loops_nil (fun _ => rfl) (fun _ => rfl))
theorem K89.ok : NativeOK U Tryz.prog 74 (K89.sig.native (K89.W K89)) :=
 Sig.ok K89.sig (K89.W (K89.gen)) U_pure (Hn := (K89.H)) (gos := 6) K89.hints Tryz.func74 rfl (by kernel_rfl) (fun b h => h) rfl rfl (by decide) (K89.eq) (by decide)
noncomputable def K58.sig : Sig U := ⟨[.ptr, .int .i64, .int .i64], [.obj .t_foreign_Table], 1, [.bool], false, []⟩
abbrev K58.T : Type := (Int) → (Int) → (foreign_Table) → Option ((Bool × Unit) × Unit × Unit)
noncomputable def K58.W (f : K58.T) : K58.sig.F := fun a x => f a.2.1 a.2.2.1 x.1
noncomputable def K58.H : Hints U := { Γ := noΓ, ro := 14, base := 14 }
noncomputable def K58.gen : K58.T := fun at_1 now h0 =>
 (bif ile at_1 now then some ((ile h0.fwindow (isub .i64 now at_1), ()), ((), ())) else some ((false, ()), ((), ())))
noncomputable def K58 : K58.T := K58.gen
theorem K58.eq : EqA K58.sig (K58.H) Tryz.f197 6 (K58.W (K58.gen)) := by intro a x; kernel_rfl
theorem K58.hints : HintsOK U Tryz.prog (K58.H) (fun c => c ∈ ([] : List Code)) := (hq noΓ_ok loops_nil (fun _ => rfl) (fun _ => rfl))
theorem K58.ok : NativeOK U Tryz.prog 197 (K58.sig.native (K58.W K58)) :=
 Sig.ok K58.sig (K58.W (K58.gen)) U_pure (Hn := (K58.H)) (gos := 6) K58.hints Tryz.func197 rfl (by kernel_rfl) (fun b h => h) rfl rfl (by decide) (K58.eq) (by decide)
noncomputable def K52.sig : Sig U := ⟨[.ptr, .int .i64], [.obj .t_foreign_Table], 0, [], true, []⟩
abbrev K52.T : Type := (Int) → (foreign_Table) → Option (Unit × (foreign_Table × Unit) × Unit)
noncomputable def K52.W (f : K52.T) : K52.sig.F := fun a x => f a.2.1 x.1
noncomputable def K52.L0 : Shape U := ⟨60, 14, [(0, .ptr 13 0 0), (1, vi_), (4, vi_)], [(13, .obj .t_foreign_Table)]⟩
noncomputable def K52.X0 : Exits U := [(.exit 0, ⟨60, 14, [], [(13, .obj .t_foreign_Table)]⟩)]
abbrev K52.l0T : Type := ((Int × Int × Unit) × (foreign_Table × Unit)) → Option ((Unit × (foreign_Table × Unit)))
noncomputable def K52.C : Code := match Tryz.f174.body with | some c => c | none => .skip
noncomputable def K52.B0 : Code := match (loopsOf K52.C).getD 0 .skip with | .loop b => b | .scope b => b | _ => .skip
noncomputable def K52.JR5 : Exits U := [(.normal, ⟨60, 14, [(0, .ptr 13 0 0), (1, vi_), (4, vi_)], [(13, .obj .t_foreign_Table)]⟩)]
noncomputable def K52.H (cK58 : K58.T) (l0 : K52.l0T) : Hints U := { Γ := (addΓ 197 (K58.sig.native (K58.W cK58)) noΓ), ro := 0, base := 14, joinR := fun b => (bif Nat.beq b 5 then some K52.JR5 else none), loop := fun b => (bif Nat.beq b 1 then some (loopN (0, 14) K52.L0 K52.X0 l0) else none) }
noncomputable def K52.step0 (cK58 : K58.T) (a : (Int × Int × Unit) × (foreign_Table × Unit)) : Option (((Int × Int × Unit) × (foreign_Table × Unit)) ⊕ ((Unit × (foreign_Table × Unit)))) :=
 (bif ilt a.1.2.1 a.2.1.fn then (bif inR a.1.2.1 5 then (oelim (cK58 (a.2.1.fl (Int.toNat a.1.2.1)).fLast a.1.1 a.2.1) none fun r0 => (bif !r0.1.1 then some (.inl ((a.1.1, (iadd .i64 a.1.2.1 1, ())), (a.2.1, ()))) else (bif le3 a.1.2.1 a.2.1.fn 5 then (bif le3 (iadd .i64 a.1.2.1 1) a.2.1.fn 5 then (bif inR (isub .i64 a.2.1.fn 1) 5 then some (.inl ((a.1.1, (a.1.2.1, ())), (foreign_Table.set_fn (foreign_Table.set_fl a.2.1 (fset (fun (i : Nat) => bif Nat.ble (Int.toNat a.1.2.1) i && Nat.blt i (Int.toNat a.1.2.1 + Nat.min (Int.toNat a.2.1.fn - Int.toNat (iadd .i64 a.1.2.1 1)) (Int.toNat a.2.1.fn - Int.toNat a.1.2.1)) then a.2.1.fl (Int.toNat (iadd .i64 a.1.2.1 1) + (i - Int.toNat a.1.2.1)) else a.2.1.fl i) (Int.toNat (isub .i64 a.2.1.fn 1)) (foreign_Record.mk z5_ z6_ 0 0 0))) (isub .i64 a.2.1.fn 1), ()))) else none) else none) else none))) else none) else some (.inr ((), (a.2.1, ()))))
noncomputable def K52.F0 : K52.l0T := fun a => loopFix (1000000) (K52.step0 K58) a
noncomputable def K52.gen (cK58 : K58.T) (l0 : K52.l0T) : K52.T := fun now h0 =>
 (oelim (l0 ((now, (0 : Int), ()), h0, ())) none fun r0 => some ((), ((r0.2.1, ()), ())))
noncomputable def K52 : K52.T := K52.gen K58 K52.F0
theorem K52.seq0 (cK58 : K58.T) (l0 : K52.l0T) (a : K52.L0.T) : run Tryz.prog (K52.H cK58 l0) 6 (Option (K52.L0.T ⊕ ExT K52.X0)) none K52.B0 (K52.L0.enc a) (loopK (0, 14) K52.L0 K52.X0) = K52.step0 cK58 a := by kernel_rfl
theorem K52.inner0 : loopsOf K52.B0 = ([] : List Code) := by kernel_rfl
noncomputable abbrev K52.h := K52.H K58 K52.F0
theorem K52.lok0 : LoopOK U Tryz.prog K52.h.ro K52.h.base K52.B0 (loopN (0, 14) K52.L0 K52.X0 K52.F0) :=
 loopN_ok (Hn := K52.h) U_ok U_pure (run_ok (hq (addΓ_ok noΓ_ok K58.ok) loops_nil (fun _ => rfl) (fun _ => rfl)) 6) (fun b h => by rw [K52.inner0] at h; exact h) (fun _ => rfl) (K52.seq0 K58 K52.F0)
theorem K52.eq (cK58 : K58.T) (l0 : K52.l0T) : EqA K52.sig (K52.H cK58 l0) Tryz.f174 6 (K52.W (K52.gen cK58 l0)) := by intro a x; kernel_rfl
theorem K52.loops : loopsOf K52.C = [(.loop K52.B0)] := by kernel_rfl
theorem K52.hints : HintsOK U Tryz.prog K52.h (fun c => c ∈ [(.loop K52.B0)]) := (hq (addΓ_ok noΓ_ok K58.ok) (loops_cons (by kernel_rfl) K52.lok0 loops_nil) (fun _ => rfl) (fun _ => rfl))
theorem K52.ok : NativeOK U Tryz.prog 174 (K52.sig.native (K52.W K52)) :=
 Sig.ok K52.sig (K52.W K52) U_pure (Hn := K52.h) (code := K52.C) (gos := 6) K52.hints Tryz.func174 (by kernel_rfl) (by kernel_rfl) (fun b h => by rw [K52.loops] at h; exact h) rfl rfl (by decide) (K52.eq K58 K52.F0) (by decide)
noncomputable def K57.sig : Sig U := ⟨[.ptr], [.obj .t_foreign_Table], 1, [.isl .t_foreign_Record], false, []⟩
abbrev K57.T : Type := (foreign_Table) → Option (((List (foreign_Record)) × Unit) × Unit × Unit)
noncomputable def K57.W (f : K57.T) : K57.sig.F := fun a x => f x.1
noncomputable def K57.H : Hints U := { Γ := noΓ, ro := 14, base := 14 }
noncomputable def K57.gen : K57.T := fun h0 =>
 (bif le3 (ofN 0) h0.fn 5 then (bif room (List.length (lnil foreign_Record) + List.length (List.map (fun (j : Nat) => h0.fl (Int.toNat (ofN 0) + j)) (List.range (Int.toNat h0.fn - Int.toNat (ofN 0))))) 136 then some ((lnil foreign_Record ++ List.map (fun (j : Nat) => h0.fl (Int.toNat (ofN 0) + j)) (List.range (Int.toNat h0.fn - Int.toNat (ofN 0))), ()), ((), ())) else none) else none)
noncomputable def K57 : K57.T := K57.gen
theorem K57.eq : EqA K57.sig (K57.H) Tryz.f64 6 (K57.W (K57.gen)) := by intro a x; kernel_rfl
theorem K57.hints : HintsOK U Tryz.prog (K57.H) (fun c => c ∈ ([] : List Code)) := (hq noΓ_ok loops_nil (fun _ => rfl) (fun _ => rfl))
theorem K57.ok : NativeOK U Tryz.prog 64 (K57.sig.native (K57.W K57)) :=
 Sig.ok K57.sig (K57.W (K57.gen)) U_pure (Hn := (K57.H)) (gos := 6) K57.hints Tryz.func64 rfl (by kernel_rfl) (fun b h => h) rfl rfl (by decide) (K57.eq) (by decide)
noncomputable def K29.sig : Sig U := ⟨[.ptr, .int .i64], [.obj .t_clock_side, fm6_, .fam 12 (.map true false .t_api_PortID .l_u64)], 0, [], true, []⟩
abbrev K29.T : Type := (Int) → (clock_side) → (Fm foreign_Table) → (Nat × (Nat → List (api_PortID × List (Int)))) → Option (Unit × (clock_side × (Fm foreign_Table) × (Nat × (Nat → List (api_PortID × List (Int)))) × Unit) × Unit)
noncomputable def K29.W (f : K29.T) : K29.sig.F := fun a x => f a.2.1 x.1 x.2.1 x.2.2.1
noncomputable def K29.L0 : Shape U := ⟨41, 14, [(0, .ptr 13 0 0), (4, .val (.mref 12)), (18, .val (.isl .t_foreign_Record)), (19, vi_), (20, vi_)], [(13, .obj .t_clock_side), (6, .famN false .t_foreign_Table), (12, .mfam true false .t_api_PortID .l_u64)]⟩
noncomputable def K29.X0 : Exits U := [(.exit 0, ⟨41, 14, [(0, .ptr 13 0 0), (4, .val (.mref 12))], [(13, .obj .t_clock_side), (6, .famN false .t_foreign_Table), (12, .mfam true false .t_api_PortID .l_u64)]⟩)]
abbrev K29.l0T : Type := (((Option Nat) × (List (foreign_Record)) × Int × Int × Unit) × (clock_side × (Fm foreign_Table) × (Nat × (Nat → List (api_PortID × List (Int)))) × Unit)) → Option ((((Option Nat) × Unit) × (clock_side × (Fm foreign_Table) × (Nat × (Nat → List (api_PortID × List (Int)))) × Unit)))
noncomputable def K29.C : Code := match Tryz.f128.body with | some c => c | none => .skip
noncomputable def K29.B0 : Code := match (loopsOf K29.C).getD 0 .skip with | .loop b => b | .scope b => b | _ => .skip
noncomputable def K29.JR5 : Exits U := [(.normal, ⟨41, 14, [(0, .ptr 13 0 0), (4, .val (.mref 12)), (18, .val (.isl .t_foreign_Record)), (19, vi_), (20, vi_)], [(13, .obj .t_clock_side), (6, .famN false .t_foreign_Table), (12, .mfam true false .t_api_PortID .l_u64)]⟩)]
noncomputable def K29.JR4 : Exits U := [(.normal, ⟨41, 15, [(0, .ptr 13 0 0), (4, .val (.mref 12)), (6, .ptr 14 0 0), (18, .val (.isl .t_foreign_Record)), (19, vi_), (20, vi_)], [(13, .obj .t_clock_side), (14, .obj .t_foreign_Record), (6, .famN false .t_foreign_Table), (12, .mfam true false .t_api_PortID .l_u64)]⟩)]
noncomputable def K29.JR0 : Exits U := [(.normal, ⟨41, 14, [(0, .ptr 13 0 0)], [(13, .obj .t_clock_side), (6, .famN false .t_foreign_Table), (12, .mfam true false .t_api_PortID .l_u64)]⟩)]
noncomputable def K29.H (cK52 : K52.T) (cK57 : K57.T) (l0 : K29.l0T) : Hints U := { Γ := (addΓ 64 (K57.sig.native (K57.W cK57)) (addΓ 174 (K52.sig.native (K52.W cK52)) noΓ)), ro := 0, base := 14, joinR := fun b => (bif Nat.beq b 0 then some K29.JR0 else (bif Nat.beq b 4 then some K29.JR4 else (bif Nat.beq b 5 then some K29.JR5 else none))), loop := fun b => (bif Nat.beq b 3 then some (loopN (0, 14) K29.L0 K29.X0 l0) else none) }
noncomputable def K29.step0 (cK52 : K52.T) (cK57 : K57.T) (a : ((Option Nat) × (List (foreign_Record)) × Int × Int × Unit) × (clock_side × (Fm foreign_Table) × (Nat × (Nat → List (api_PortID × List (Int)))) × Unit)) : Option ((((Option Nat) × (List (foreign_Record)) × Int × Int × Unit) × (clock_side × (Fm foreign_Table) × (Nat × (Nat → List (api_PortID × List (Int)))) × Unit)) ⊕ ((((Option Nat) × Unit) × (clock_side × (Fm foreign_Table) × (Nat × (Nat → List (api_PortID × List (Int)))) × Unit)))) :=
 (bif ilt a.1.2.2.2.1 a.1.2.2.1 then (oelim ((bif inR a.1.2.2.2.1 (List.length a.1.2.1) then some ((a.1.1, (a.1.2.1, (a.1.2.2.1, (a.1.2.2.2.1, ())))), (a.2.1, (List.getD a.1.2.1 (Int.toNat a.1.2.2.2.1) foreign_Record.zero, (a.2.2.1, (a.2.2.2.1, ()))))) else none)) none fun r0 => (oelim ((oelim ((oelim (r0.2.1.3) none fun r1 => ((@mapGet U Go.Proofs.Tryz.prog 31 UC.t_api_PortID UC.l_u64 (r0.2.2.1.fVector.fSender) (r0.2.2.2.2.1.2 r1)) : Option (Option (List Int))))) none fun (r2 : Option (List Int)) => (oelim ((oelim (r0.1.1) none fun r3 => (oelim ((@mapPut U Go.Proofs.Tryz.prog 31 UC.t_api_PortID UC.l_u64 (r0.2.2.1.fVector.fSender) (Option.getD r2 (lnil Int)) (r0.2.2.2.2.1.2 r3))) none fun (r4 : List (api_PortID × List Int)) => some (r3, r4)))) none fun (r5 : Nat × List (api_PortID × List Int)) => some ((r0.1.1, (r0.1.2.1, (r0.1.2.2.1, (r0.1.2.2.2.1, ())))), (r0.2.1, (r0.2.2.2.1, ((r0.2.2.2.2.1.1, fset r0.2.2.2.2.1.2 r5.1 r5.2), ()))))))) none fun r6 => some (.inl ((r6.1.1, (r6.1.2.1, (r6.1.2.2.1, (iadd .i64 r6.1.2.2.2.1 1, ())))), (r6.2.1, (r6.2.2.1, (r6.2.2.2.1, ()))))))) else some (.inr ((a.1.1, ()), (a.2.1, (a.2.2.1, (a.2.2.2.1, ()))))))
noncomputable def K29.F0 : K29.l0T := fun a => loopFix (1000000 + (a.1.2.1.length)) (K29.step0 K52 K57) a
noncomputable def K29.gen (cK52 : K52.T) (cK57 : K57.T) (l0 : K29.l0T) : K29.T := fun now h0 g6 g12 =>
 (oelim ((oelim (h0.2) none fun r0 => (oelim (cK52 now (g6.2 r0)) none fun r1 => some ((), (h0, ((g6.1, fset g6.2 r0 r1.2.1.1), (g12, ()))))))) none fun r2 => (oelim (r2.2.1.2) none fun r3 => (oelim (cK57 (r2.2.2.1.2 r3)) none fun r4 => (oelim (l0 ((some r2.2.2.2.1.1, r4.1.1, ofN (List.length r4.1.1), (0 : Int), ()), r2.2.1, r2.2.2.1, (r2.2.2.2.1.1 + 1, fset r2.2.2.2.1.2 r2.2.2.2.1.1 (lnil (D UC.t_api_PortID × D UC.l_u64))), ())) none fun r5 => some ((), ((clock_side.set_fpaths r5.2.1 r5.1.1, (r5.2.2.1, (r5.2.2.2.1, ()))), ()))))))
noncomputable def K29 : K29.T := K29.gen K52 K57 K29.F0
theorem K29.seq0 (cK52 : K52.T) (cK57 : K57.T) (l0 : K29.l0T) (a : K29.L0.T) : run Tryz.prog (K29.H cK52 cK57 l0) 6 (Option (K29.L0.T ⊕ ExT K29.X0)) none K29.B0 (K29.L0.enc a) (loopK (0, 14) K29.L0 K29.X0) = K29.step0 cK52 cK57 a := by kernel_rfl
theorem K29.inner0 : loopsOf K29.B0 = ([] : List Code) := by kernel_rfl
noncomputable abbrev K29.h := K29.H K52 K57 K29.F0
theorem K29.lok0 : LoopOK U Tryz.prog K29.h.ro K29.h.base K29.B0 (loopN (0, 14) K29.L0 K29.X0 K29.F0) :=
 loopN_ok (Hn := K29.h) U_ok U_pure (run_ok (hq (addΓ_ok (addΓ_ok noΓ_ok K52.ok) K57.ok) loops_nil (fun _ => rfl) (fun _ => rfl)) 6) (fun b h => by rw [K29.inner0] at h; exact h) (fun _ => rfl) (K29.seq0 K52 K57 K29.F0)
theorem K29.eq (cK52 : K52.T) (cK57 : K57.T) (l0 : K29.l0T) : EqA K29.sig (K29.H cK52 cK57 l0) Tryz.f128 6 (K29.W (K29.gen cK52 cK57 l0)) := by intro a x; kernel_rfl
theorem K29.loops : loopsOf K29.C = [(.loop K29.B0)] := by kernel_rfl
theorem K29.hints : HintsOK U Tryz.prog K29.h (fun c => c ∈ [(.loop K29.B0)]) := (hq (addΓ_ok (addΓ_ok noΓ_ok K52.ok) K57.ok) (loops_cons (by kernel_rfl) K29.lok0 loops_nil) (fun _ => rfl) (fun _ => rfl))
theorem K29.ok : NativeOK U Tryz.prog 128 (K29.sig.native (K29.W K29)) :=
 Sig.ok K29.sig (K29.W K29) U_pure (Hn := K29.h) (code := K29.C) (gos := 6) K29.hints Tryz.func128 (by kernel_rfl) (by kernel_rfl) (fun b h => by rw [K29.loops] at h; exact h) rfl rfl (by decide) (K29.eq K52 K57 K29.F0) (by decide)
noncomputable def K111.sig : Sig U := ⟨[.ptr], [.obj .t_timer_Timer], 0, [.bool], false, []⟩
abbrev K111.T : Type := (timer_Timer) → Option ((Bool × Unit) × (timer_Timer × Unit) × Unit)
noncomputable def K111.W (f : K111.T) : K111.sig.F := fun a x => f x.1
noncomputable def K111.C : Code := match Tryz.f130.body with | some c => c | none => .skip
noncomputable def K111.B0 : Code := match (loopsOf K111.C).getD 0 .skip with | .loop b => b | .scope b => b | _ => .skip
noncomputable def K111.H : Hints U := { Γ := noΓ, ro := 0, base := 14, gotos := 3, loop := fun b => none }
noncomputable def K111.gen : K111.T := fun h0 =>
 (bif ieq h0.fleft 0 then some ((false, ()), ((h0, ()), ())) else some ((ieq (isub .i64 h0.fleft 1) 0, ()), ((timer_Timer.mk (isub .i64 h0.fleft 1), ()), ())))
noncomputable def K111 : K111.T := K111.gen
theorem K111.eq : EqA K111.sig (K111.H) Tryz.f130 6 (K111.W (K111.gen)) := by intro a x; kernel_rfl
theorem K111.loops : loopsOf K111.C = [(.scope K111.B0)] := by kernel_rfl
theorem K111.hints : HintsOK U Tryz.prog (K111.H) (fun c => c ∈ [(.scope K111.B0)]) := (hq noΓ_ok (loops_skip loops_nil) (fun _ => rfl) (fun _ => rfl))
theorem K111.ok : NativeOK U Tryz.prog 130 (K111.sig.native (K111.W K111)) :=
 Sig.ok K111.sig (K111.W (K111.gen)) U_pure (Hn := (K111.H)) (code := K111.C) (gos := 6) K111.hints Tryz.func130 (by kernel_rfl) (by kernel_rfl) (fun b h => by rw [K111.loops] at h; exact h) rfl rfl (by decide) (K111.eq) (by decide)
noncomputable def K54.sig : Sig U := ⟨[.ptr], [.obj .t_foreign_Table], 0, [], true, []⟩
abbrev K54.T : Type := (foreign_Table) → Option (Unit × (foreign_Table × Unit) × Unit)
noncomputable def K54.W (f : K54.T) : K54.sig.F := fun a x => f x.1
noncomputable def K54.H : Hints U := { Γ := noΓ, ro := 0, base := 14 }
noncomputable def K54.gen : K54.T := fun h0 =>
 some ((), ((foreign_Table.set_fn (foreign_Table.set_fl h0 fun (j : Nat) => List.getD (foreign_Record.mk z5_ z6_ 0 0 0 :: foreign_Record.mk z5_ z6_ 0 0 0 :: foreign_Record.mk z5_ z6_ 0 0 0 :: foreign_Record.mk z5_ z6_ 0 0 0 :: foreign_Record.mk z5_ z6_ 0 0 0 :: lnil foreign_Record) j foreign_Record.zero) 0, ()), ()))
noncomputable def K54 : K54.T := K54.gen
theorem K54.eq : EqA K54.sig (K54.H) Tryz.f163 6 (K54.W (K54.gen)) := by intro a x; kernel_rfl
theorem K54.hints : HintsOK U Tryz.prog (K54.H) (fun c => c ∈ ([] : List Code)) := (hq noΓ_ok loops_nil (fun _ => rfl) (fun _ => rfl))
theorem K54.ok : NativeOK U Tryz.prog 163 (K54.sig.native (K54.W K54)) :=
 Sig.ok K54.sig (K54.W (K54.gen)) U_pure (Hn := (K54.H)) (gos := 6) K54.hints Tryz.func163 rfl (by kernel_rfl) (fun b h => h) rfl rfl (by decide) (K54.eq) (by decide)
noncomputable def K30.sig : Sig U := ⟨[.ptr], [.obj .t_clock_side, fm6_, .fam 12 (.map true false .t_api_PortID .l_u64)], 0, [], true, []⟩
abbrev K30.T : Type := (clock_side) → (Fm foreign_Table) → (Nat × (Nat → List (api_PortID × List (Int)))) → Option (Unit × (clock_side × (Fm foreign_Table) × (Nat × (Nat → List (api_PortID × List (Int)))) × Unit) × Unit)
noncomputable def K30.W (f : K30.T) : K30.sig.F := fun a x => f x.1 x.2.1 x.2.2.1
noncomputable def K30.JR0 : Exits U := [(.normal, ⟨11, 14, [(0, .ptr 13 0 0)], [(13, .obj .t_clock_side), (6, .famN false .t_foreign_Table), (12, .mfam true false .t_api_PortID .l_u64)]⟩)]
noncomputable def K30.H (cK54 : K54.T) : Hints U := { Γ := (addΓ 163 (K54.sig.native (K54.W cK54)) noΓ), ro := 0, base := 14, joinR := fun b => (bif Nat.beq b 0 then some K30.JR0 else none) }
noncomputable def K30.gen (cK54 : K54.T) : K30.T := fun h0 g6 g12 =>
 (oelim ((oelim (h0.2) none fun r0 => (oelim (cK54 (g6.2 r0)) none fun r1 => some ((), (h0, ((g6.1, fset g6.2 r0 r1.2.1.1), (g12, ()))))))) none fun r2 => some ((), ((clock_side.set_fpaths r2.2.1 (some r2.2.2.2.1.1), (r2.2.2.1, ((r2.2.2.2.1.1 + 1, fset r2.2.2.2.1.2 r2.2.2.2.1.1 (lnil (D UC.t_api_PortID × D UC.l_u64))), ()))), ())))
noncomputable def K30 : K30.T := K30.gen K54
theorem K30.eq (cK54 : K54.T) : EqA K30.sig (K30.H cK54) Tryz.f96 6 (K30.W (K30.gen cK54)) := by intro a x; kernel_rfl
noncomputable abbrev K30.h := K30.H K54
theorem K30.hints : HintsOK U Tryz.prog K30.h (fun c => c ∈ ([] : List Code)) := (hq (addΓ_ok noΓ_ok K54.ok) loops_nil (fun _ => rfl) (fun _ => rfl))
theorem K30.ok : NativeOK U Tryz.prog 96 (K30.sig.native (K30.W K30)) :=
 Sig.ok K30.sig (K30.W K30) U_pure (Hn := K30.h) (gos := 6) K30.hints Tryz.func96 rfl (by kernel_rfl) (fun b h => h) rfl rfl (by decide) (K30.eq K54) (by decide)
noncomputable def K110.sig : Sig U := ⟨[.ptr], [.obj .t_timer_Timer], 0, [], true, []⟩
abbrev K110.T : Type := (timer_Timer) → Option (Unit × (timer_Timer × Unit) × Unit)
noncomputable def K110.W (f : K110.T) : K110.sig.F := fun a x => f x.1
noncomputable def K110.H : Hints U := { Γ := noΓ, ro := 0, base := 14 }
noncomputable def K110.gen : K110.T := fun h0 =>
 some ((), ((timer_Timer.mk 0, ()), ()))
noncomputable def K110 : K110.T := K110.gen
theorem K110.eq : EqA K110.sig (K110.H) Tryz.f166 6 (K110.W (K110.gen)) := by intro a x; kernel_rfl
theorem K110.hints : HintsOK U Tryz.prog (K110.H) (fun c => c ∈ ([] : List Code)) := (hq noΓ_ok loops_nil (fun _ => rfl) (fun _ => rfl))
theorem K110.ok : NativeOK U Tryz.prog 166 (K110.sig.native (K110.W K110)) :=
 Sig.ok K110.sig (K110.W (K110.gen)) U_pure (Hn := (K110.H)) (gos := 6) K110.hints Tryz.func166 rfl (by kernel_rfl) (fun b h => h) rfl rfl (by decide) (K110.eq) (by decide)
noncomputable def K17.sig : Sig U := ⟨[.ptr, .eptr 0 23 42 8], [.obj .t_clock_Clock], 0, [], true, []⟩
abbrev K17.T : Type := (Nat) → (clock_Clock) → Option (Unit × (clock_Clock × Unit) × Unit)
noncomputable def K17.W (f : K17.T) : K17.sig.F := fun a x => f a.2.1 x.1
noncomputable def K17.JR4 : Exits U := [(.normal, ⟨30, 14, [(1, .aptr 13 23 42 8 0)], [(13, .obj .t_clock_Clock)]⟩)]
noncomputable def K17.JR1 : Exits U := [(.normal, ⟨30, 14, [(0, .ptr 13 0 0), (1, .aptr 13 23 42 8 0)], [(13, .obj .t_clock_Clock)]⟩)]
noncomputable def K17.JR0 : Exits U := [(.normal, ⟨30, 14, [(0, .ptr 13 0 0), (1, .aptr 13 23 42 8 0)], [(13, .obj .t_clock_Clock)]⟩)]
noncomputable def K17.JC3 : Exits U := [(.normal, ⟨30, 14, [(1, .aptr 13 23 42 8 0)], [(13, .obj .t_clock_Clock)]⟩)]
noncomputable def K17.H (cK110 : K110.T) (cK109 : K109.T) : Hints U := { Γ := (addΓ 126 (K109.sig.native (K109.W cK109)) (addΓ 166 (K110.sig.native (K110.W cK110)) noΓ)), ro := 0, base := 14, joinR := fun b => (bif Nat.beq b 0 then some K17.JR0 else (bif Nat.beq b 1 then some K17.JR1 else (bif Nat.beq b 4 then some K17.JR4 else none))), joinC := fun b => (bif Nat.beq b 3 then some K17.JC3 else none) }
noncomputable def K17.gen (cK110 : K110.T) (cK109 : K109.T) : K17.T := fun p h0 =>
 (oelim ((oelim (cK110 (h0.fports p).freceipt) none fun r0 => some ((p, ()), (clock_Clock.set_fports h0 (fset h0.fports p (clock_side.set_freceipt (h0.fports p) r0.2.1.1)), ())))) none fun r1 => (oelim ((oelim (cK110 (r1.2.1.fports r1.1.1).fqualify) none fun r2 => some ((r1.1.1, ()), (clock_Clock.set_fports r1.2.1 (fset r1.2.1.fports r1.1.1 (clock_side.set_fqualify (r1.2.1.fports r1.1.1) r2.2.1.1)), ())))) none fun r3 => (oelim ((bif !r3.2.1.fconf.fPeer then (oelim (cK110 (r3.2.1.fports r3.1.1).fask) none fun r4 => some ((r3.1.1, ()), (clock_Clock.set_fports r3.2.1 (fset r3.2.1.fports r3.1.1 (clock_side.set_fask (r3.2.1.fports r3.1.1) r4.2.1.1)), ()))) else some ((r3.1.1, ()), (r3.2.1, ())))) none fun r5 => (oelim ((oelim (cK109 1 (r5.2.1.fports r5.1.1).fannounce) none fun r6 => some ((r5.1.1, ()), (clock_Clock.set_fports r5.2.1 (fset r5.2.1.fports r5.1.1 (clock_side.set_fannounce (r5.2.1.fports r5.1.1) r6.2.1.1)), ())))) none fun r7 => (oelim (cK109 1 (r7.2.1.fports r7.1.1).fsync) none fun r8 => some ((), ((clock_Clock.set_fports r7.2.1 (fset r7.2.1.fports r7.1.1 (clock_side.set_fsync (r7.2.1.fports r7.1.1) r8.2.1.1)), ()), ())))))))
noncomputable def K17 : K17.T := K17.gen K110 K109
theorem K17.eq (cK110 : K110.T) (cK109 : K109.T) : EqA K17.sig (K17.H cK110 cK109) Tryz.f131 6 (K17.W (K17.gen cK110 cK109)) := by intro a x; kernel_rfl
noncomputable abbrev K17.h := K17.H K110 K109
theorem K17.hints : HintsOK U Tryz.prog K17.h (fun c => c ∈ ([] : List Code)) := (hq (addΓ_ok (addΓ_ok noΓ_ok K110.ok) K109.ok) loops_nil (fun _ => rfl) (fun _ => rfl))
theorem K17.ok : NativeOK U Tryz.prog 131 (K17.sig.native (K17.W K17)) :=
 Sig.ok K17.sig (K17.W K17) U_pure (Hn := K17.h) (gos := 6) K17.hints Tryz.func131 rfl (by kernel_rfl) (fun b h => h) rfl rfl (by decide) (K17.eq K110 K109) (by decide)
noncomputable def K15.sig : Sig U := ⟨[.ptr, .eptr 0 23 42 8], [.obj .t_clock_Clock, fm6_, .fam 12 (.map true false .t_api_PortID .l_u64)], 0, [], true, []⟩
abbrev K15.T : Type := (Nat) → (clock_Clock) → (Fm foreign_Table) → (Nat × (Nat → List (api_PortID × List (Int)))) → Option (Unit × (clock_Clock × (Fm foreign_Table) × (Nat × (Nat → List (api_PortID × List (Int)))) × Unit) × Unit)
noncomputable def K15.W (f : K15.T) : K15.sig.F := fun a x => f a.2.1 x.1 x.2.1 x.2.2.1
noncomputable def K15.C : Code := match Tryz.f69.body with | some c => c | none => .skip
noncomputable def K15.B0 : Code := match (loopsOf K15.C).getD 0 .skip with | .loop b => b | .scope b => b | _ => .skip
noncomputable def K15.JR16 : Exits U := [(.normal, ⟨128, 14, [(0, .ptr 13 0 0), (1, .aptr 13 23 42 8 0)], [(13, .obj .t_clock_Clock), (6, .famN false .t_foreign_Table), (12, .mfam true false .t_api_PortID .l_u64)]⟩)]
noncomputable def K15.JR15 : Exits U := [(.normal, ⟨128, 14, [(0, .ptr 13 0 0), (1, .aptr 13 23 42 8 0), (111, vb_)], [(13, .obj .t_clock_Clock), (6, .famN false .t_foreign_Table), (12, .mfam true false .t_api_PortID .l_u64)]⟩)]
noncomputable def K15.JR11 : Exits U := [(.normal, ⟨128, 14, [(0, .ptr 13 0 0), (1, .aptr 13 23 42 8 0)], [(13, .obj .t_clock_Clock), (6, .famN false .t_foreign_Table), (12, .mfam true false .t_api_PortID .l_u64)]⟩)]
noncomputable def K15.JR10 : Exits U := [(.normal, ⟨128, 14, [(0, .ptr 13 0 0), (1, .aptr 13 23 42 8 0)], [(13, .obj .t_clock_Clock), (6, .famN false .t_foreign_Table), (12, .mfam true false .t_api_PortID .l_u64)]⟩)]
noncomputable def K15.JR7 : Exits U := [(.normal, ⟨128, 14, [(0, .ptr 13 0 0), (1, .aptr 13 23 42 8 0), (58, vb_)], [(13, .obj .t_clock_Clock), (6, .famN false .t_foreign_Table), (12, .mfam true false .t_api_PortID .l_u64)]⟩)]
noncomputable def K15.JR2 : Exits U := [(.normal, ⟨128, 14, [(0, .ptr 13 0 0), (1, .aptr 13 23 42 8 0)], [(13, .obj .t_clock_Clock), (6, .famN false .t_foreign_Table), (12, .mfam true false .t_api_PortID .l_u64)]⟩)]
noncomputable def K15.JR1 : Exits U := [(.normal, ⟨128, 14, [(0, .ptr 13 0 0), (1, .aptr 13 23 42 8 0)], [(13, .obj .t_clock_Clock), (6, .famN false .t_foreign_Table), (12, .mfam true false .t_api_PortID .l_u64)]⟩)]
noncomputable def K15.JC9 : Exits U := [(.normal, ⟨128, 14, [(0, .ptr 13 0 0), (1, .aptr 13 23 42 8 0)], [(13, .obj .t_clock_Clock), (6, .famN false .t_foreign_Table), (12, .mfam true false .t_api_PortID .l_u64)]⟩)]
noncomputable def K15.JC8 : Exits U := [(.normal, ⟨128, 14, [(0, .ptr 13 0 0), (1, .aptr 13 23 42 8 0)], [(13, .obj .t_clock_Clock), (6, .famN false .t_foreign_Table), (12, .mfam true false .t_api_PortID .l_u64)]⟩)]
noncomputable def K15.JC6 : Exits U := [(.normal, ⟨128, 14, [(0, .ptr 13 0 0), (1, .aptr 13 23 42 8 0)], [(13, .obj .t_clock_Clock), (6, .famN false .t_foreign_Table), (12, .mfam true false .t_api_PortID .l_u64)]⟩)]
noncomputable def K15.JC4 : Exits U := [(.normal, ⟨128, 14, [], [(13, .obj .t_clock_Clock), (6, .famN false .t_foreign_Table), (12, .mfam true false .t_api_PortID .l_u64)]⟩)]
noncomputable def K15.H (cK93 : K93.T) (cK23 : K23.T) (cK109 : K109.T) (cK89 : K89.T) (cK29 : K29.T) (cK92 : K92.T) (cK111 : K111.T) (cK91 : K91.T) (cK120 : K120.T) (cK30 : K30.T) (cK17 : K17.T) : Hints U := { Γ := (addΓ 131 (K17.sig.native (K17.W cK17)) (addΓ 96 (K30.sig.native (K30.W cK30)) (addΓ 88 (K120.sig.native (K120.W cK120)) (addΓ 76 (K91.sig.native (K91.W cK91)) (addΓ 130 (K111.sig.native (K111.W cK111)) (addΓ 129 (K92.sig.native (K92.W cK92)) (addΓ 128 (K29.sig.native (K29.W cK29)) (addΓ 74 (K89.sig.native (K89.W cK89)) (addΓ 126 (K109.sig.native (K109.W cK109)) (addΓ 127 (K23.sig.native (K23.W cK23)) (addΓ 95 (K93.sig.native (K93.W cK93)) noΓ))))))))))), ro := 0, base := 14, joinR := fun b => (bif Nat.beq b 1 then some K15.JR1 else (bif Nat.beq b 2 then some K15.JR2 else (bif Nat.beq b 7 then some K15.JR7 else (bif Nat.beq b 10 then some K15.JR10 else (bif Nat.beq b 11 then some K15.JR11 else (bif Nat.beq b 15 then some K15.JR15 else (bif Nat.beq b 16 then some K15.JR16 else none))))))), joinC := fun b => (bif Nat.beq b 4 then some K15.JC4 else (bif Nat.beq b 6 then some K15.JC6 else (bif Nat.beq b 8 then some K15.JC8 else (bif Nat.beq b 9 then some K15.JC9 else none)))), gotos := 3, loop := fun b => none }
noncomputable def K15.gen (cK93 : K93.T) (cK23 : K23.T) (cK109 : K109.T) (cK89 : K89.T) (cK29 : K29.T) (cK92 : K92.T) (cK111 : K111.T) (cK91 : K91.T) (cK120 : K120.T) (cK30 : K30.T) (cK17 : K17.T) : K15.T := fun p h0 g6 g12 =>
 (bif ieq (h0.fports p).fstate 1 then (oelim ((oelim (cK93 (h0.fports p).fstate 1 h0.fconf.fSlaveOnly) none fun r0 => some ((p, ()), (clock_Clock.set_fports h0 (fset h0.fports p (clock_side.set_fstate (h0.fports p) r0.1.1)), (g6, (g12, ())))))) none fun r1 => (oelim ((oelim (cK23 r1.2.1) none fun r2 => (oelim (cK109 r2.1.1 (r1.2.1.fports r1.1.1).freceipt) none fun r3 => some ((r1.1.1, ()), (clock_Clock.set_fports r1.2.1 (fset r1.2.1.fports r1.1.1 (clock_side.set_freceipt (r1.2.1.fports r1.1.1) r3.2.1.1)), (r1.2.2.1, (r1.2.2.2.1, ()))))))) none fun r4 => (oelim ((bif r4.2.1.fconf.fPeer then (oelim (cK109 1 (r4.2.1.fports r4.1.1).fask) none fun r5 => some ((), (clock_Clock.set_fports r4.2.1 (fset r4.2.1.fports r4.1.1 (clock_side.set_fask (r4.2.1.fports r4.1.1) r5.2.1.1)), (r4.2.2.1, (r4.2.2.2.1, ()))))) else some ((), (r4.2.1, (r4.2.2.1, (r4.2.2.2.1, ())))))) none fun r6 => some ((), ((r6.2.1, (r6.2.2.1, (r6.2.2.2.1, ()))), ()))))) else (oelim (cK89 (h0.fports p).fstate) none fun r7 => (oelim ((bif r7.1.1 then (oelim (cK29 h0.fticks (h0.fports p) g6 g12) none fun r8 => some ((p, ()), (clock_Clock.set_fports h0 (fset h0.fports p r8.2.1.1), (r8.2.1.2.1, (r8.2.1.2.2.1, ()))))) else some ((p, ()), (h0, (g6, (g12, ())))))) none fun r9 => (oelim ((oelim (cK92 (r9.2.1.fports r9.1.1).fstate) none fun r10 => (bif r10.1.1 then (oelim (cK111 (r9.2.1.fports r9.1.1).freceipt) none fun r11 => some ((r9.1.1, (r11.1.1, ())), (clock_Clock.set_fports r9.2.1 (fset r9.2.1.fports r9.1.1 (clock_side.set_freceipt (r9.2.1.fports r9.1.1) r11.2.1.1)), (r9.2.2.1, (r9.2.2.2.1, ()))))) else some ((r9.1.1, (false, ())), (r9.2.1, (r9.2.2.1, (r9.2.2.2.1, ()))))))) none fun r12 => (oelim ((bif r12.1.2.1 then (oelim (cK91 (r12.2.1.fports r12.1.1).fstate) none fun r13 => (oelim ((bif r13.1.1 then (oelim (cK120 r12.2.1.fconf) none fun r14 => some ((r12.1.1, ()), (clock_Clock.set_fparent r12.2.1 r14.1.1, (r12.2.2.1, (r12.2.2.2.1, ()))))) else some ((r12.1.1, ()), (r12.2.1, (r12.2.2.1, (r12.2.2.2.1, ())))))) none fun r15 => (oelim ((oelim (cK30 (r15.2.1.fports r15.1.1) r15.2.2.1 r15.2.2.2.1) none fun r16 => some ((r15.1.1, ()), (clock_Clock.set_fports r15.2.1 (fset r15.2.1.fports r15.1.1 r16.2.1.1), (r16.2.1.2.1, (r16.2.1.2.2.1, ())))))) none fun r17 => (oelim ((oelim (cK93 (r17.2.1.fports r17.1.1).fstate 4 r17.2.1.fconf.fSlaveOnly) none fun r18 => some ((r17.1.1, ()), (clock_Clock.set_fports r17.2.1 (fset r17.2.1.fports r17.1.1 (clock_side.set_fstate (r17.2.1.fports r17.1.1) r18.1.1)), (r17.2.2.1, (r17.2.2.2.1, ())))))) none fun r19 => (bif ieq (r19.2.1.fports r19.1.1).fstate 6 then (oelim (cK17 r19.1.1 r19.2.1) none fun r20 => some ((r19.1.1, ()), (r20.2.1.1, (r19.2.2.1, (r19.2.2.2.1, ()))))) else (oelim (cK23 r19.2.1) none fun r21 => (oelim (cK109 r21.1.1 (r19.2.1.fports r19.1.1).freceipt) none fun r22 => some ((r19.1.1, ()), (clock_Clock.set_fports r19.2.1 (fset r19.2.1.fports r19.1.1 (clock_side.set_freceipt (r19.2.1.fports r19.1.1) r22.2.1.1)), (r19.2.2.1, (r19.2.2.2.1, ()))))))))))) else some ((r12.1.1, ()), (r12.2.1, (r12.2.2.1, (r12.2.2.2.1, ())))))) none fun r23 => (oelim ((bif ieq (r23.2.1.fports r23.1.1).fstate 5 then (oelim (cK111 (r23.2.1.fports r23.1.1).fqualify) none fun r24 => some ((r23.1.1, (r24.1.1, ())), (clock_Clock.set_fports r23.2.1 (fset r23.2.1.fports r23.1.1 (clock_side.set_fqualify (r23.2.1.fports r23.1.1) r24.2.1.1)), (r23.2.2.1, (r23.2.2.2.1, ()))))) else some ((r23.1.1, (false, ())), (r23.2.1, (r23.2.2.1, (r23.2.2.2.1, ())))))) none fun r25 => (bif r25.1.2.1 then (oelim ((oelim (cK93 (r25.2.1.fports r25.1.1).fstate 5 r25.2.1.fconf.fSlaveOnly) none fun r26 => some ((r25.1.1, ()), (clock_Clock.set_fports r25.2.1 (fset r25.2.1.fports r25.1.1 (clock_side.set_fstate (r25.2.1.fports r25.1.1) r26.1.1)), (r25.2.2.1, (r25.2.2.2.1, ())))))) none fun r27 => (oelim (cK17 r27.1.1 r27.2.1) none fun r28 => some ((), ((r28.2.1.1, (r27.2.2.1, (r27.2.2.2.1, ()))), ())))) else some ((), ((r25.2.1, (r25.2.2.1, (r25.2.2.2.1, ()))), ())))))))))
noncomputable def K15 : K15.T := K15.gen K93 K23 K109 K89 K29 K92 K111 K91 K120 K30 K17
theorem K15.eq (cK93 : K93.T) (cK23 : K23.T) (cK109 : K109.T) (cK89 : K89.T) (cK29 : K29.T) (cK92 : K92.T) (cK111 : K111.T) (cK91 : K91.T) (cK120 : K120.T) (cK30 : K30.T) (cK17 : K17.T) : EqA K15.sig (K15.H cK93 cK23 cK109 cK89 cK29 cK92 cK111 cK91 cK120 cK30 cK17) Tryz.f69 6 (K15.W (K15.gen cK93 cK23 cK109 cK89 cK29 cK92 cK111 cK91 cK120 cK30 cK17)) := by intro a x; kernel_rfl
theorem K15.loops : loopsOf K15.C = [(.scope K15.B0)] := by kernel_rfl
noncomputable abbrev K15.h := K15.H K93 K23 K109 K89 K29 K92 K111 K91 K120 K30 K17
theorem K15.hints : HintsOK U Tryz.prog K15.h (fun c => c ∈ [(.scope K15.B0)]) := (hq (addΓ_ok (addΓ_ok (addΓ_ok (addΓ_ok (addΓ_ok (addΓ_ok (addΓ_ok (addΓ_ok (addΓ_ok (addΓ_ok (addΓ_ok noΓ_ok K93.ok) K23.ok) K109.ok) K89.ok) K29.ok) K92.ok) K111.ok) K91.ok) K120.ok) K30.ok) K17.ok) (loops_skip loops_nil) (fun _ => rfl) (fun _ => rfl))
theorem K15.ok : NativeOK U Tryz.prog 69 (K15.sig.native (K15.W K15)) :=
 Sig.ok K15.sig (K15.W K15) U_pure (Hn := K15.h) (code := K15.C) (gos := 6) K15.hints Tryz.func69 (by kernel_rfl) (by kernel_rfl) (fun b h => by rw [K15.loops] at h; exact h) rfl rfl (by decide) (K15.eq K93 K23 K109 K89 K29 K92 K111 K91 K120 K30 K17) (by decide)
noncomputable def K56.sig : Sig U := ⟨[.ptr, .int .i64], [.obj .t_foreign_Table], 1, [.isl .t_foreign_Record], false, []⟩
abbrev K56.T : Type := (Int) → (foreign_Table) → Option (((List (foreign_Record)) × Unit) × Unit × Unit)
noncomputable def K56.W (f : K56.T) : K56.sig.F := fun a x => f a.2.1 x.1
noncomputable def K56.L0 : Shape U := ⟨38, 15, [(0, .ptr 13 0 0), (1, vi_), (5, .own .t_foreign_Record 14), (15, .asl 13 3 17 5), (16, vi_), (17, vi_)], [(13, .obj .t_foreign_Table), (14, .tok)]⟩
noncomputable def K56.X0 : Exits U := [(.exit 0, ⟨38, 15, [(5, .own .t_foreign_Record 14)], [(13, .obj .t_foreign_Table), (14, .tok)]⟩)]
abbrev K56.l0T : Type := ((Int × (List (foreign_Record)) × (Nat × Nat) × Int × Int × Unit) × (foreign_Table × Unit)) → Option ((((List (foreign_Record)) × Unit) × (foreign_Table × Unit)))
noncomputable def K56.C : Code := match Tryz.f176.body with | some c => c | none => .skip
noncomputable def K56.B0 : Code := match (loopsOf K56.C).getD 0 .skip with | .loop b => b | .scope b => b | _ => .skip
noncomputable def K56.JR4 : Exits U := [(.normal, ⟨38, 16, [(0, .ptr 13 0 0), (1, vi_), (5, .own .t_foreign_Record 14), (7, .ptr 15 0 0), (15, .asl 13 3 17 5), (16, vi_), (17, vi_)], [(13, .obj .t_foreign_Table), (14, .tok), (15, .obj .t_foreign_Record)]⟩)]
noncomputable def K56.JC6 : Exits U := [(.normal, ⟨38, 15, [(0, .ptr 13 0 0), (1, vi_), (5, .own .t_foreign_Record 14), (15, .asl 13 3 17 5), (16, vi_), (17, vi_)], [(13, .obj .t_foreign_Table), (14, .tok)]⟩)]
noncomputable def K56.H (cK58 : K58.T) (l0 : K56.l0T) : Hints U := { Γ := (addΓ 197 (K58.sig.native (K58.W cK58)) noΓ), ro := 14, base := 14, joinQ := fun b => (bif Nat.beq b 5 then some [(31, vb_)] else none), joinR := fun b => (bif Nat.beq b 4 then some K56.JR4 else none), joinC := fun b => (bif Nat.beq b 6 then some K56.JC6 else none), loop := fun b => (bif Nat.beq b 3 then some (loopN (14, 14) K56.L0 K56.X0 l0) else none) }
noncomputable def K56.step0 (cK58 : K58.T) (a : (Int × (List (foreign_Record)) × (Nat × Nat) × Int × Int × Unit) × (foreign_Table × Unit)) : Option (((Int × (List (foreign_Record)) × (Nat × Nat) × Int × Int × Unit) × (foreign_Table × Unit)) ⊕ ((((List (foreign_Record)) × Unit) × (foreign_Table × Unit)))) :=
 (bif ilt a.1.2.2.2.2.1 a.1.2.2.2.1 then (oelim ((bif inR a.1.2.2.2.2.1 a.1.2.2.1.2 then some ((a.1.1, (a.1.2.1, (a.1.2.2.1, (a.1.2.2.2.1, (a.1.2.2.2.2.1, ()))))), (a.2.1, (a.2.1.fl (a.1.2.2.1.1 + Int.toNat a.1.2.2.2.2.1), ()))) else none)) none fun r0 => (oelim ((bif ine r0.2.2.1.fFirst (-1) then (oelim (cK58 r0.2.2.1.fFirst r0.1.1 r0.2.1) none fun r1 => some (!r1.1.1, ())) else some (false, ()))) none fun r2 => (oelim ((bif r2.1 then (bif room (List.length r0.1.2.1 + List.length (r0.2.2.1 :: lnil foreign_Record)) 136 then some ((r0.1.1, (r0.1.2.1 ++ r0.2.2.1 :: lnil foreign_Record, (r0.1.2.2.1, (r0.1.2.2.2.1, (r0.1.2.2.2.2.1, ()))))), (r0.2.1, ())) else none) else some ((r0.1.1, (r0.1.2.1, (r0.1.2.2.1, (r0.1.2.2.2.1, (r0.1.2.2.2.2.1, ()))))), (r0.2.1, ())))) none fun r3 => some (.inl ((r3.1.1, (r3.1.2.1, (r3.1.2.2.1, (r3.1.2.2.2.1, (iadd .i64 r3.1.2.2.2.2.1 1, ()))))), (r3.2.1, ())))))) else some (.inr ((a.1.2.1, ()), (a.2.1, ()))))
noncomputable def K56.F0 : K56.l0T := fun a => loopFix (1000000 + (a.1.2.1.length + a.1.2.2.1.2)) (K56.step0 K58) a
noncomputable def K56.gen (cK58 : K58.T) (l0 : K56.l0T) : K56.T := fun now h0 =>
 (bif le3 (ofN 0) h0.fn 5 then (oelim (l0 ((now, lnil foreign_Record, (Int.toNat (ofN 0), Int.toNat h0.fn - Int.toNat (ofN 0)), ofN (Int.toNat h0.fn - Int.toNat (ofN 0)), (0 : Int), ()), h0, ())) none fun r0 => some ((r0.1.1, ()), ((), ()))) else none)
noncomputable def K56 : K56.T := K56.gen K58 K56.F0
theorem K56.seq0 (cK58 : K58.T) (l0 : K56.l0T) (a : K56.L0.T) : run Tryz.prog (K56.H cK58 l0) 6 (Option (K56.L0.T ⊕ ExT K56.X0)) none K56.B0 (K56.L0.enc a) (loopK (14, 14) K56.L0 K56.X0) = K56.step0 cK58 a := by kernel_rfl
theorem K56.inner0 : loopsOf K56.B0 = ([] : List Code) := by kernel_rfl
noncomputable abbrev K56.h := K56.H K58 K56.F0
theorem K56.lok0 : LoopOK U Tryz.prog K56.h.ro K56.h.base K56.B0 (loopN (14, 14) K56.L0 K56.X0 K56.F0) :=
 loopN_ok (Hn := K56.h) U_ok U_pure (run_ok (hq (addΓ_ok noΓ_ok K58.ok) loops_nil (fun _ => rfl) (fun _ => rfl)) 6) (fun b h => by rw [K56.inner0] at h; exact h) (fun _ => rfl) (K56.seq0 K58 K56.F0)
theorem K56.eq (cK58 : K58.T) (l0 : K56.l0T) : EqA K56.sig (K56.H cK58 l0) Tryz.f176 6 (K56.W (K56.gen cK58 l0)) := by intro a x; kernel_rfl
theorem K56.loops : loopsOf K56.C = [(.loop K56.B0)] := by kernel_rfl
theorem K56.hints : HintsOK U Tryz.prog K56.h (fun c => c ∈ [(.loop K56.B0)]) := (hq (addΓ_ok noΓ_ok K58.ok) (loops_cons (by kernel_rfl) K56.lok0 loops_nil) (fun _ => rfl) (fun _ => rfl))
theorem K56.ok : NativeOK U Tryz.prog 176 (K56.sig.native (K56.W K56)) :=
 Sig.ok K56.sig (K56.W K56) U_pure (Hn := K56.h) (code := K56.C) (gos := 6) K56.hints Tryz.func176 (by kernel_rfl) (by kernel_rfl) (fun b h => by rw [K56.loops] at h; exact h) rfl rfl (by decide) (K56.eq K58 K56.F0) (by decide)
noncomputable def K36.sig : Sig U := ⟨[.int .i64], [], 0, [.bool], false, []⟩
abbrev K36.T : Type := (Int) → Option ((Bool × Unit) × Unit × Unit)
noncomputable def K36.W (f : K36.T) : K36.sig.F := fun a x => f a.1
noncomputable def K36.H : Hints U := { Γ := noΓ, ro := 0, base := 13 }
noncomputable def K36.gen : K36.T := fun x_0 =>
 some ((ine x_0 x_0, ()), ((), ()))
noncomputable def K36 : K36.T := K36.gen
theorem K36.eq : EqA K36.sig (K36.H) Tryz.f213 6 (K36.W (K36.gen)) := by intro a x; kernel_rfl
theorem K36.hints : HintsOK U Tryz.prog (K36.H) (fun c => c ∈ ([] : List Code)) := (hq noΓ_ok loops_nil (fun _ => rfl) (fun _ => rfl))
theorem K36.ok : NativeOK U Tryz.prog 213 (K36.sig.native (K36.W K36)) :=
 Sig.ok K36.sig (K36.W (K36.gen)) U_pure (Hn := (K36.H)) (gos := 6) K36.hints Tryz.func213 rfl (by kernel_rfl) (fun b h => h) rfl rfl (by decide) (K36.eq) (by decide)
noncomputable def K33.sig : Sig U := ⟨[.int .i64, .int .i64], [], 0, [.int .i64], false, []⟩
abbrev K33.T : Type := (Int) → (Int) → Option ((Int × Unit) × Unit × Unit)
noncomputable def K33.W (f : K33.T) : K33.sig.F := fun a x => f a.1 a.2.1
noncomputable def K33.H (cK36 : K36.T) : Hints U := { Γ := (addΓ 213 (K36.sig.native (K36.W cK36)) noΓ), ro := 0, base := 13 }
noncomputable def K33.gen (cK36 : K36.T) : K33.T := fun x_0 y =>
 (oelim (cK36 x_0) none fun r0 => (oelim (cK36 y) none fun r1 => (bif r0.1.1 then (bif r1.1.1 then some (((0 : Int), ()), ((), ())) else some (((-1 : Int), ()), ((), ()))) else (bif r1.1.1 then some (((1 : Int), ()), ((), ())) else (bif ilt x_0 y then some (((-1 : Int), ()), ((), ())) else (bif ilt y x_0 then some (((1 : Int), ()), ((), ())) else some (((0 : Int), ()), ((), ()))))))))
noncomputable def K33 : K33.T := K33.gen K36
theorem K33.eq (cK36 : K36.T) : EqA K33.sig (K33.H cK36) Tryz.f199 6 (K33.W (K33.gen cK36)) := by intro a x; kernel_rfl
noncomputable abbrev K33.h := K33.H K36
theorem K33.hints : HintsOK U Tryz.prog K33.h (fun c => c ∈ ([] : List Code)) := (hq (addΓ_ok noΓ_ok K36.ok) loops_nil (fun _ => rfl) (fun _ => rfl))
theorem K33.ok : NativeOK U Tryz.prog 199 (K33.sig.native (K33.W K33)) :=
 Sig.ok K33.sig (K33.W K33) U_pure (Hn := K33.h) (gos := 6) K33.hints Tryz.func199 rfl (by kernel_rfl) (fun b h => h) rfl rfl (by decide) (K33.eq K36) (by decide)
noncomputable def K35.sig : Sig U := ⟨[.isl .int], [], 0, [.int .i64], false, []⟩
abbrev K35.T : Type := (List (Int)) → Option ((Int × Unit) × Unit × Unit)
noncomputable def K35.W (f : K35.T) : K35.sig.F := fun a x => f a.1
noncomputable def K35.L0 : Shape U := ⟨18, 13, [(3, vi_), (6, .val (.isl .int)), (7, vi_), (8, vi_)], []⟩
noncomputable def K35.X0 : Exits U := [(.exit 0, ⟨18, 13, [(3, vi_)], []⟩),
 (.ret, ⟨18, 13, [(2, vi_)], []⟩)]
abbrev K35.l0T : Type := ((Int × (List (Int)) × Int × Int × Unit) × Unit) → Option (((Int × Unit) × Unit) ⊕ ((Int × Unit) × Unit))
noncomputable def K35.C : Code := match Tryz.f201.body with | some c => c | none => .skip
noncomputable def K35.B0 : Code := match (loopsOf K35.C).getD 0 .skip with | .loop b => b | .scope b => b | _ => .skip
noncomputable def K35.H (l0 : K35.l0T) : Hints U := { Γ := noΓ, ro := 0, base := 13, loop := fun b => (bif Nat.beq b 3 then some (loopN (0, 13) K35.L0 K35.X0 l0) else none) }
noncomputable def K35.step0 (a : (Int × (List (Int)) × Int × Int × Unit) × Unit) : Option (((Int × (List (Int)) × Int × Int × Unit) × Unit) ⊕ (((Int × Unit) × Unit) ⊕ ((Int × Unit) × Unit))) :=
 (bif ilt a.1.2.2.2.1 a.1.2.2.1 then (bif inR a.1.2.2.2.1 (List.length a.1.2.1) then (bif ine (List.getD a.1.2.1 (Int.toNat a.1.2.2.2.1) (0 : D UC.int)) a.1.1 then some (.inr (.inr ((List.getD a.1.2.1 (Int.toNat a.1.2.2.2.1) (0 : D UC.int), ()), ()))) else some (.inl ((a.1.1, (a.1.2.1, (a.1.2.2.1, (iadd .i64 a.1.2.2.2.1 1, ())))), ()))) else none) else some (.inr (.inl ((a.1.1, ()), ()))))
noncomputable def K35.F0 : K35.l0T := fun a => loopFix (1000000 + (a.1.2.1.length)) (K35.step0) a
noncomputable def K35.gen (l0 : K35.l0T) : K35.T := fun vals =>
 (oelim (l0 (((0 : Int), vals, ofN (List.length vals), (0 : Int), ()), ())) none fun r0 => (selim r0 (fun r1 => some ((r1.1.1, ()), ((), ()))) (fun r1 => some ((r1.1.1, ()), ((), ())))))
noncomputable def K35 : K35.T := K35.gen K35.F0
theorem K35.seq0 (l0 : K35.l0T) (a : K35.L0.T) : run Tryz.prog (K35.H l0) 6 (Option (K35.L0.T ⊕ ExT K35.X0)) none K35.B0 (K35.L0.enc a) (loopK (0, 13) K35.L0 K35.X0) = K35.step0 a := by kernel_rfl
theorem K35.inner0 : loopsOf K35.B0 = ([] : List Code) := by kernel_rfl
noncomputable abbrev K35.h := K35.H K35.F0
theorem K35.lok0 : LoopOK U Tryz.prog K35.h.ro K35.h.base K35.B0 (loopN (0, 13) K35.L0 K35.X0 K35.F0) :=
 loopN_ok (Hn := K35.h) U_ok U_pure (run_ok (hq noΓ_ok loops_nil (fun _ => rfl) (fun _ => rfl)) 6) (fun b h => by rw [K35.inner0] at h; exact h) (fun _ => rfl) (K35.seq0 K35.F0)
theorem K35.eq (l0 : K35.l0T) : EqA K35.sig (K35.H l0) Tryz.f201 6 (K35.W (K35.gen l0)) := by intro a x; kernel_rfl
theorem K35.loops : loopsOf K35.C = [(.loop K35.B0)] := by kernel_rfl
theorem K35.hints : HintsOK U Tryz.prog K35.h (fun c => c ∈ [(.loop K35.B0)]) := (hq noΓ_ok (loops_cons (by kernel_rfl) K35.lok0 loops_nil) (fun _ => rfl) (fun _ => rfl))
theorem K35.ok : NativeOK U Tryz.prog 201 (K35.sig.native (K35.W K35)) :=
 Sig.ok K35.sig (K35.W K35) U_pure (Hn := K35.h) (code := K35.C) (gos := 6) K35.hints Tryz.func201 (by kernel_rfl) (by kernel_rfl) (fun b h => by rw [K35.loops] at h; exact h) rfl rfl (by decide) (K35.eq K35.F0) (by decide)
noncomputable def K94.sig : Sig U := ⟨[.data .t_api_Quality, .data .t_api_Quality], [], 0, [.int .i64], false, []⟩
abbrev K94.T : Type := (api_Quality) → (api_Quality) → Option ((Int × Unit) × Unit × Unit)
noncomputable def K94.W (f : K94.T) : K94.sig.F := fun a x => f a.1 a.2.1
noncomputable def K94.H (cK33 : K33.T) (cK35 : K35.T) : Hints U := { Γ := (addΓ 201 (K35.sig.native (K35.W cK35)) (addΓ 199 (K33.sig.native (K33.W cK33)) noΓ)), ro := 0, base := 13 }
noncomputable def K94.gen (cK33 : K33.T) (cK35 : K35.T) : K94.T := fun a b =>
 (oelim (cK33 a.fClass b.fClass) none fun r0 => (oelim (cK33 a.fAccuracy b.fAccuracy) none fun r1 => (oelim (cK33 a.fVariance b.fVariance) none fun r2 => (oelim (cK35 (r0.1.1 :: r1.1.1 :: r2.1.1 :: lnil Int)) none fun r3 => some ((r3.1.1, ()), ((), ()))))))
noncomputable def K94 : K94.T := K94.gen K33 K35
theorem K94.eq (cK33 : K33.T) (cK35 : K35.T) : EqA K94.sig (K94.H cK33 cK35) Tryz.f211 6 (K94.W (K94.gen cK33 cK35)) := by intro a x; kernel_rfl
noncomputable abbrev K94.h := K94.H K33 K35
theorem K94.hints : HintsOK U Tryz.prog K94.h (fun c => c ∈ ([] : List Code)) := (hq (addΓ_ok (addΓ_ok noΓ_ok K33.ok) K35.ok) loops_nil (fun _ => rfl) (fun _ => rfl))
theorem K94.ok : NativeOK U Tryz.prog 211 (K94.sig.native (K94.W K94)) :=
 Sig.ok K94.sig (K94.W K94) U_pure (Hn := K94.h) (gos := 6) K94.hints Tryz.func211 rfl (by kernel_rfl) (fun b h => h) rfl rfl (by decide) (K94.eq K33 K35) (by decide)
noncomputable def K37.sig : Sig U := ⟨[.int .u64], [], 0, [.bool], false, []⟩
abbrev K37.T : Type := (Int) → Option ((Bool × Unit) × Unit × Unit)
noncomputable def K37.W (f : K37.T) : K37.sig.F := fun a x => f a.1
noncomputable def K37.H : Hints U := { Γ := noΓ, ro := 0, base := 13 }
noncomputable def K37.gen : K37.T := fun x_0 =>
 some ((ine x_0 x_0, ()), ((), ()))
noncomputable def K37 : K37.T := K37.gen
theorem K37.eq : EqA K37.sig (K37.H) Tryz.f219 6 (K37.W (K37.gen)) := by intro a x; kernel_rfl
theorem K37.hints : HintsOK U Tryz.prog (K37.H) (fun c => c ∈ ([] : List Code)) := (hq noΓ_ok loops_nil (fun _ => rfl) (fun _ => rfl))
theorem K37.ok : NativeOK U Tryz.prog 219 (K37.sig.native (K37.W K37)) :=
 Sig.ok K37.sig (K37.W (K37.gen)) U_pure (Hn := (K37.H)) (gos := 6) K37.hints Tryz.func219 rfl (by kernel_rfl) (fun b h => h) rfl rfl (by decide) (K37.eq) (by decide)
noncomputable def K34.sig : Sig U := ⟨[.int .u64, .int .u64], [], 0, [.int .i64], false, []⟩
abbrev K34.T : Type := (Int) → (Int) → Option ((Int × Unit) × Unit × Unit)
noncomputable def K34.W (f : K34.T) : K34.sig.F := fun a x => f a.1 a.2.1
noncomputable def K34.H (cK37 : K37.T) : Hints U := { Γ := (addΓ 219 (K37.sig.native (K37.W cK37)) noΓ), ro := 0, base := 13 }
noncomputable def K34.gen (cK37 : K37.T) : K34.T := fun x_0 y =>
 (oelim (cK37 x_0) none fun r0 => (oelim (cK37 y) none fun r1 => (bif r0.1.1 then (bif r1.1.1 then some (((0 : Int), ()), ((), ())) else some (((-1 : Int), ()), ((), ()))) else (bif r1.1.1 then some (((1 : Int), ()), ((), ())) else (bif ilt x_0 y then some (((-1 : Int), ()), ((), ())) else (bif ilt y x_0 then some (((1 : Int), ()), ((), ())) else some (((0 : Int), ()), ((), ()))))))))
noncomputable def K34 : K34.T := K34.gen K37
theorem K34.eq (cK37 : K37.T) : EqA K34.sig (K34.H cK37) Tryz.f212 6 (K34.W (K34.gen cK37)) := by intro a x; kernel_rfl
noncomputable abbrev K34.h := K34.H K37
theorem K34.hints : HintsOK U Tryz.prog K34.h (fun c => c ∈ ([] : List Code)) := (hq (addΓ_ok noΓ_ok K37.ok) loops_nil (fun _ => rfl) (fun _ => rfl))
theorem K34.ok : NativeOK U Tryz.prog 212 (K34.sig.native (K34.W K34)) :=
 Sig.ok K34.sig (K34.W K34) U_pure (Hn := K34.h) (gos := 6) K34.hints Tryz.func212 rfl (by kernel_rfl) (fun b h => h) rfl rfl (by decide) (K34.eq K37) (by decide)
noncomputable def K40.sig : Sig U := ⟨[.data .t_api_Vector, .data .t_api_Vector], [], 0, [.int .i64], false, []⟩
abbrev K40.T : Type := (api_Vector) → (api_Vector) → Option ((Int × Unit) × Unit × Unit)
noncomputable def K40.W (f : K40.T) : K40.sig.F := fun a x => f a.1 a.2.1
noncomputable def K40.C : Code := match Tryz.f198.body with | some c => c | none => .skip
noncomputable def K40.B0 : Code := match (loopsOf K40.C).getD 0 .skip with | .loop b => b | .scope b => b | _ => .skip
noncomputable def K40.U0 (cK33 : K33.T) (cK94 : K94.T) (cK34 : K34.T) : Hints U := { Γ := (addΓ 212 (K34.sig.native (K34.W cK34)) (addΓ 211 (K94.sig.native (K94.W cK94)) (addΓ 199 (K33.sig.native (K33.W cK33)) noΓ))), ro := 0, base := 13, loop := fun b => none }
noncomputable def K40.H (cK33 : K33.T) (cK94 : K94.T) (cK34 : K34.T) : Hints U := { Γ := (addΓ 212 (K34.sig.native (K34.W cK34)) (addΓ 211 (K94.sig.native (K94.W cK94)) (addΓ 199 (K33.sig.native (K33.W cK33)) noΓ))), ro := 0, base := 13, loop := fun b => (bif Nat.beq b 2 then some (unrollN Tryz.prog (K40.U0 cK33 cK94 cK34) 6 K40.B0 6) else none) }
noncomputable def K40.gen (cK33 : K33.T) (cK94 : K94.T) (cK34 : K34.T) : K40.T := fun a b =>
 (oelim (cK33 a.fPriority1 b.fPriority1) none fun r0 => (oelim (cK94 a.fQuality b.fQuality) none fun r1 => (oelim (cK33 a.fPriority2 b.fPriority2) none fun r2 => (oelim (cK34 a.fGrand b.fGrand) none fun r3 => (bif ine (List.getD (r0.1.1 :: r1.1.1 :: r2.1.1 :: r3.1.1 :: lnil Int) (Int.toNat 0) 0) 0 then some ((List.getD (r0.1.1 :: r1.1.1 :: r2.1.1 :: r3.1.1 :: lnil Int) (Int.toNat 0) 0, ()), ((), ())) else (bif ine (List.getD (r0.1.1 :: r1.1.1 :: r2.1.1 :: r3.1.1 :: lnil Int) (Int.toNat (iadd .i64 0 1)) 0) 0 then some ((List.getD (r0.1.1 :: r1.1.1 :: r2.1.1 :: r3.1.1 :: lnil Int) (Int.toNat (iadd .i64 0 1)) 0, ()), ((), ())) else (bif ine (List.getD (r0.1.1 :: r1.1.1 :: r2.1.1 :: r3.1.1 :: lnil Int) (Int.toNat (iadd .i64 (iadd .i64 0 1) 1)) 0) 0 then some ((List.getD (r0.1.1 :: r1.1.1 :: r2.1.1 :: r3.1.1 :: lnil Int) (Int.toNat (iadd .i64 (iadd .i64 0 1) 1)) 0, ()), ((), ())) else (bif ine (List.getD (r0.1.1 :: r1.1.1 :: r2.1.1 :: r3.1.1 :: lnil Int) (Int.toNat (iadd .i64 (iadd .i64 (iadd .i64 0 1) 1) 1)) 0) 0 then some ((List.getD (r0.1.1 :: r1.1.1 :: r2.1.1 :: r3.1.1 :: lnil Int) (Int.toNat (iadd .i64 (iadd .i64 (iadd .i64 0 1) 1) 1)) 0, ()), ((), ())) else some (((0 : Int), ()), ((), ()))))))))))
noncomputable def K40 : K40.T := K40.gen K33 K94 K34
theorem K40.inner0 : loopsOf K40.B0 = [] := by kernel_rfl
noncomputable abbrev K40.h := K40.H K33 K94 K34
theorem K40.lok0 : LoopOK U Tryz.prog K40.h.ro K40.h.base K40.B0 (unrollN Tryz.prog (K40.U0 K33 K94 K34) 6 K40.B0 6) :=
 unrollN_ok (Hn := (K40.U0 K33 K94 K34)) (L := fun c => c ∈ ([] : List Code)) (hq (addΓ_ok (addΓ_ok (addΓ_ok noΓ_ok K33.ok) K94.ok) K34.ok) loops_nil (fun _ => rfl) (fun _ => rfl)) (fun b h => by rw [K40.inner0] at h; exact h) 6
theorem K40.eq (cK33 : K33.T) (cK94 : K94.T) (cK34 : K34.T) : EqA K40.sig (K40.H cK33 cK94 cK34) Tryz.f198 6 (K40.W (K40.gen cK33 cK94 cK34)) := by intro a x; kernel_rfl
theorem K40.loops : loopsOf K40.C = [(.loop K40.B0)] := by kernel_rfl
theorem K40.hints : HintsOK U Tryz.prog K40.h (fun c => c ∈ [(.loop K40.B0)]) := (hq (addΓ_ok (addΓ_ok (addΓ_ok noΓ_ok K33.ok) K94.ok) K34.ok) (loops_cons (by kernel_rfl) K40.lok0 loops_nil) (fun _ => rfl) (fun _ => rfl))
theorem K40.ok : NativeOK U Tryz.prog 198 (K40.sig.native (K40.W K40)) :=
 Sig.ok K40.sig (K40.W K40) U_pure (Hn := K40.h) (code := K40.C) (gos := 6) K40.hints Tryz.func198 (by kernel_rfl) (by kernel_rfl) (fun b h => by rw [K40.loops] at h; exact h) rfl rfl (by decide) (K40.eq K33 K94 K34) (by decide)
noncomputable def K68.sig : Sig U := ⟨[.data .t_api_PortID, .data .t_api_PortID], [], 0, [.int .i64], false, []⟩
abbrev K68.T : Type := (api_PortID) → (api_PortID) → Option ((Int × Unit) × Unit × Unit)
noncomputable def K68.W (f : K68.T) : K68.sig.F := fun a x => f a.1 a.2.1
noncomputable def K68.H (cK34 : K34.T) (cK33 : K33.T) (cK35 : K35.T) : Hints U := { Γ := (addΓ 201 (K35.sig.native (K35.W cK35)) (addΓ 199 (K33.sig.native (K33.W cK33)) (addΓ 212 (K34.sig.native (K34.W cK34)) noΓ))), ro := 0, base := 13 }
noncomputable def K68.gen (cK34 : K34.T) (cK33 : K33.T) (cK35 : K35.T) : K68.T := fun a b =>
 (bif bif ieq a.fClock b.fClock then bif ieq a.fPort b.fPort then true else false else false then some (((0 : Int), ()), ((), ())) else (oelim (cK34 a.fClock b.fClock) none fun r0 => (oelim (cK33 a.fPort b.fPort) none fun r1 => (oelim (cK35 (r0.1.1 :: r1.1.1 :: lnil Int)) none fun r2 => some ((r2.1.1, ()), ((), ()))))))
noncomputable def K68 : K68.T := K68.gen K34 K33 K35
theorem K68.eq (cK34 : K34.T) (cK33 : K33.T) (cK35 : K35.T) : EqA K68.sig (K68.H cK34 cK33 cK35) Tryz.f202 6 (K68.W (K68.gen cK34 cK33 cK35)) := by intro a x; kernel_rfl
noncomputable abbrev K68.h := K68.H K34 K33 K35
theorem K68.hints : HintsOK U Tryz.prog K68.h (fun c => c ∈ ([] : List Code)) := (hq (addΓ_ok (addΓ_ok (addΓ_ok noΓ_ok K34.ok) K33.ok) K35.ok) loops_nil (fun _ => rfl) (fun _ => rfl))
theorem K68.ok : NativeOK U Tryz.prog 202 (K68.sig.native (K68.W K68)) :=
 Sig.ok K68.sig (K68.W K68) U_pure (Hn := K68.h) (gos := 6) K68.hints Tryz.func202 rfl (by kernel_rfl) (fun b h => h) rfl rfl (by decide) (K68.eq K34 K33 K35) (by decide)
noncomputable def K42.sig : Sig U := ⟨[.data .t_api_Vector], [], 0, [.int .i64], false, []⟩
abbrev K42.T : Type := (api_Vector) → Option ((Int × Unit) × Unit × Unit)
noncomputable def K42.W (f : K42.T) : K42.sig.F := fun a x => f a.1
noncomputable def K42.H (cK68 : K68.T) : Hints U := { Γ := (addΓ 202 (K68.sig.native (K68.W cK68)) noΓ), ro := 0, base := 13 }
noncomputable def K42.gen (cK68 : K68.T) : K42.T := fun a =>
 (oelim (cK68 a.fReceiver a.fSender) none fun r0 => (bif inR (iadd .i64 r0.1.1 1) 3 then some ((List.getD ((2 : Int) :: (0 : Int) :: (1 : Int) :: lnil Int) (Int.toNat (iadd .i64 r0.1.1 1)) 0, ()), ((), ())) else none))
noncomputable def K42 : K42.T := K42.gen K68
theorem K42.eq (cK68 : K68.T) : EqA K42.sig (K42.H cK68) Tryz.f200 6 (K42.W (K42.gen cK68)) := by intro a x; kernel_rfl
noncomputable abbrev K42.h := K42.H K68
theorem K42.hints : HintsOK U Tryz.prog K42.h (fun c => c ∈ ([] : List Code)) := (hq (addΓ_ok noΓ_ok K68.ok) loops_nil (fun _ => rfl) (fun _ => rfl))
theorem K42.ok : NativeOK U Tryz.prog 200 (K42.sig.native (K42.W K42)) :=
 Sig.ok K42.sig (K42.W K42) U_pure (Hn := K42.h) (gos := 6) K42.hints Tryz.func200 rfl (by kernel_rfl) (fun b h => h) rfl rfl (by decide) (K42.eq K68) (by decide)
noncomputable def K39.sig : Sig U := ⟨[.data .t_api_Vector, .data .t_api_Vector], [], 0, [.int .i64], false, []⟩
abbrev K39.T : Type := (api_Vector) → (api_Vector) → Option ((Int × Unit) × Unit × Unit)
noncomputable def K39.W (f : K39.T) : K39.sig.F := fun a x => f a.1 a.2.1
noncomputable def K39.C : Code := match Tryz.f178.body with | some c => c | none => .skip
noncomputable def K39.B0 : Code := match (loopsOf K39.C).getD 0 .skip with | .loop b => b | .scope b => b | _ => .skip
noncomputable def K39.JC9 : Exits U := [(.normal, ⟨60, 13, [(5, vi_)], []⟩)]
noncomputable def K39.H (cK40 : K40.T) (cK33 : K33.T) (cK42 : K42.T) (cK68 : K68.T) (cK35 : K35.T) : Hints U := { Γ := (addΓ 201 (K35.sig.native (K35.W cK35)) (addΓ 202 (K68.sig.native (K68.W cK68)) (addΓ 200 (K42.sig.native (K42.W cK42)) (addΓ 199 (K33.sig.native (K33.W cK33)) (addΓ 198 (K40.sig.native (K40.W cK40)) noΓ))))), ro := 0, base := 13, joinQ := fun b => (bif Nat.beq b 4 then some [(27, vb_)] else (bif Nat.beq b 6 then some [(39, vb_)] else none)), joinC := fun b => (bif Nat.beq b 9 then some K39.JC9 else none), gotos := 3, loop := fun b => none }
noncomputable def K39.gen (cK40 : K40.T) (cK33 : K33.T) (cK42 : K42.T) (cK68 : K68.T) (cK35 : K35.T) : K39.T := fun a b =>
 (oelim (cK40 a b) none fun r0 => (bif ine (imul .i64 2 r0.1.1) 0 then some ((imul .i64 2 r0.1.1, ()), ((), ())) else (oelim (cK33 a.fSteps b.fSteps) none fun r1 => (oelim ((bif ilt 0 (imul .i64 2 r1.1.1) then some (ieq (isub .i64 a.fSteps 1) b.fSteps, ()) else some (false, ()))) none fun r2 => (bif r2.1 then (oelim (cK42 a) none fun r3 => some ((r3.1.1, ()), ((), ()))) else (oelim ((bif ilt (imul .i64 2 r1.1.1) 0 then some (ieq (isub .i64 b.fSteps 1) a.fSteps, ()) else some (false, ()))) none fun r4 => (bif r4.1 then (oelim (cK42 b) none fun r5 => some ((IntKind.wrap .i64 ((0 : Int) - r5.1.1), ()), ((), ()))) else (oelim ((bif ieq (imul .i64 2 r1.1.1) 0 then (oelim (cK68 a.fSender b.fSender) none fun r6 => (oelim (cK33 a.fReceiver.fPort b.fReceiver.fPort) none fun r7 => (oelim (cK35 (r6.1.1 :: r7.1.1 :: lnil Int)) none fun r8 => some ((r8.1.1, ()), ())))) else some ((imul .i64 2 r1.1.1, ()), ()))) none fun r9 => some ((r9.1.1, ()), ((), ()))))))))))
noncomputable def K39 : K39.T := K39.gen K40 K33 K42 K68 K35
theorem K39.eq (cK40 : K40.T) (cK33 : K33.T) (cK42 : K42.T) (cK68 : K68.T) (cK35 : K35.T) : EqA K39.sig (K39.H cK40 cK33 cK42 cK68 cK35) Tryz.f178 6 (K39.W (K39.gen cK40 cK33 cK42 cK68 cK35)) := by intro a x; kernel_rfl
theorem K39.loops : loopsOf K39.C = [(.scope K39.B0)] := by kernel_rfl
noncomputable abbrev K39.h := K39.H K40 K33 K42 K68 K35
theorem K39.hints : HintsOK U Tryz.prog K39.h (fun c => c ∈ [(.scope K39.B0)]) := (hq (addΓ_ok (addΓ_ok (addΓ_ok (addΓ_ok (addΓ_ok noΓ_ok K40.ok) K33.ok) K42.ok) K68.ok) K35.ok) (loops_skip loops_nil) (fun _ => rfl) (fun _ => rfl))
theorem K39.ok : NativeOK U Tryz.prog 178 (K39.sig.native (K39.W K39)) :=
 Sig.ok K39.sig (K39.W K39) U_pure (Hn := K39.h) (code := K39.C) (gos := 6) K39.hints Tryz.func178 (by kernel_rfl) (by kernel_rfl) (fun b h => by rw [K39.loops] at h; exact h) rfl rfl (by decide) (K39.eq K40 K33 K42 K68 K35) (by decide)
noncomputable def K38.sig : Sig U := ⟨[.isl .t_api_Vector], [], 0, [.int .i64], false, []⟩
abbrev K38.T : Type := (List (api_Vector)) → Option ((Int × Unit) × Unit × Unit)
noncomputable def K38.W (f : K38.T) : K38.sig.F := fun a x => f a.1
noncomputable def K38.L0 : Shape U := ⟨27, 13, [(0, .val (.isl .t_api_Vector)), (3, vi_), (6, .val (.isl .t_api_Vector)), (7, vi_), (8, vi_)], []⟩
noncomputable def K38.X0 : Exits U := [(.exit 0, ⟨27, 13, [(3, vi_)], []⟩)]
abbrev K38.l0T : Type := (((List (api_Vector)) × Int × (List (api_Vector)) × Int × Int × Unit) × Unit) → Option (((Int × Unit) × Unit))
noncomputable def K38.C : Code := match Tryz.f177.body with | some c => c | none => .skip
noncomputable def K38.B0 : Code := match (loopsOf K38.C).getD 0 .skip with | .loop b => b | .scope b => b | _ => .skip
noncomputable def K38.JC6 : Exits U := [(.normal, ⟨27, 13, [(0, .val (.isl .t_api_Vector)), (3, vi_), (6, .val (.isl .t_api_Vector)), (7, vi_), (8, vi_)], []⟩)]
noncomputable def K38.H (cK39 : K39.T) (l0 : K38.l0T) : Hints U := { Γ := (addΓ 178 (K39.sig.native (K39.W cK39)) noΓ), ro := 0, base := 13, joinQ := fun b => (bif Nat.beq b 5 then some [(23, vb_)] else none), joinC := fun b => (bif Nat.beq b 6 then some K38.JC6 else none), loop := fun b => (bif Nat.beq b 3 then some (loopN (0, 13) K38.L0 K38.X0 l0) else none) }
noncomputable def K38.step0 (cK39 : K39.T) (a : ((List (api_Vector)) × Int × (List (api_Vector)) × Int × Int × Unit) × Unit) : Option ((((List (api_Vector)) × Int × (List (api_Vector)) × Int × Int × Unit) × Unit) ⊕ (((Int × Unit) × Unit))) :=
 (bif ilt a.1.2.2.2.2.1 a.1.2.2.2.1 then (bif inR a.1.2.2.2.2.1 (List.length a.1.2.2.1) then (oelim ((bif ilt a.1.2.1 0 then some (true, ()) else (bif inR a.1.2.1 (List.length a.1.1) then (oelim (cK39 (List.getD a.1.1 (Int.toNat a.1.2.1) api_Vector.zero) (List.getD a.1.2.2.1 (Int.toNat a.1.2.2.2.2.1) api_Vector.zero)) none fun r0 => some (ilt 0 r0.1.1, ())) else none))) none fun r1 => (oelim ((bif r1.1 then some ((a.1.1, (a.1.2.2.2.2.1, (a.1.2.2.1, (a.1.2.2.2.1, (a.1.2.2.2.2.1, ()))))), ()) else some ((a.1.1, (a.1.2.1, (a.1.2.2.1, (a.1.2.2.2.1, (a.1.2.2.2.2.1, ()))))), ()))) none fun r2 => some (.inl ((r2.1.1, (r2.1.2.1, (r2.1.2.2.1, (r2.1.2.2.2.1, (iadd .i64 r2.1.2.2.2.2.1 1, ()))))), ())))) else none) else some (.inr ((a.1.2.1, ()), ())))
noncomputable def K38.F0 : K38.l0T := fun a => loopFix (1000000 + (a.1.1.length + a.1.2.2.1.length)) (K38.step0 K39) a
noncomputable def K38.gen (cK39 : K39.T) (l0 : K38.l0T) : K38.T := fun l =>
 (oelim (l0 ((l, (-1 : Int), l, ofN (List.length l), (0 : Int), ()), ())) none fun r0 => some ((r0.1.1, ()), ((), ())))
noncomputable def K38 : K38.T := K38.gen K39 K38.F0
theorem K38.seq0 (cK39 : K39.T) (l0 : K38.l0T) (a : K38.L0.T) : run Tryz.prog (K38.H cK39 l0) 6 (Option (K38.L0.T ⊕ ExT K38.X0)) none K38.B0 (K38.L0.enc a) (loopK (0, 13) K38.L0 K38.X0) = K38.step0 cK39 a := by kernel_rfl
theorem K38.inner0 : loopsOf K38.B0 = ([] : List Code) := by kernel_rfl
noncomputable abbrev K38.h := K38.H K39 K38.F0
theorem K38.lok0 : LoopOK U Tryz.prog K38.h.ro K38.h.base K38.B0 (loopN (0, 13) K38.L0 K38.X0 K38.F0) :=
 loopN_ok (Hn := K38.h) U_ok U_pure (run_ok (hq (addΓ_ok noΓ_ok K39.ok) loops_nil (fun _ => rfl) (fun _ => rfl)) 6) (fun b h => by rw [K38.inner0] at h; exact h) (fun _ => rfl) (K38.seq0 K39 K38.F0)
theorem K38.eq (cK39 : K39.T) (l0 : K38.l0T) : EqA K38.sig (K38.H cK39 l0) Tryz.f177 6 (K38.W (K38.gen cK39 l0)) := by intro a x; kernel_rfl
theorem K38.loops : loopsOf K38.C = [(.loop K38.B0)] := by kernel_rfl
theorem K38.hints : HintsOK U Tryz.prog K38.h (fun c => c ∈ [(.loop K38.B0)]) := (hq (addΓ_ok noΓ_ok K39.ok) (loops_cons (by kernel_rfl) K38.lok0 loops_nil) (fun _ => rfl) (fun _ => rfl))
theorem K38.ok : NativeOK U Tryz.prog 177 (K38.sig.native (K38.W K38)) :=
 Sig.ok K38.sig (K38.W K38) U_pure (Hn := K38.h) (code := K38.C) (gos := 6) K38.hints Tryz.func177 (by kernel_rfl) (by kernel_rfl) (fun b h => by rw [K38.loops] at h; exact h) rfl rfl (by decide) (K38.eq K39 K38.F0) (by decide)
noncomputable def K53.sig : Sig U := ⟨[.ptr, .int .i64], [.obj .t_foreign_Table], 1, [.data .t_foreign_Record, .bool], true, []⟩
abbrev K53.T : Type := (Int) → (foreign_Table) → Option ((foreign_Record × Bool × Unit) × Unit × Unit)
noncomputable def K53.W (f : K53.T) : K53.sig.F := fun a x => f a.2.1 x.1
noncomputable def K53.L0 : Shape U := ⟨35, 16, [(4, .ptr 14 0 0), (6, .val (.isl .t_foreign_Record)), (7, .own .t_api_Vector 15), (14, .val (.isl .t_foreign_Record)), (15, vi_), (16, vi_)], [(13, .obj .t_foreign_Table), (14, .obj .t_foreign_Record), (15, .tok)]⟩
noncomputable def K53.X0 : Exits U := [(.exit 0, ⟨35, 16, [(4, .ptr 14 0 0), (6, .val (.isl .t_foreign_Record)), (7, .own .t_api_Vector 15)], [(13, .obj .t_foreign_Table), (14, .obj .t_foreign_Record), (15, .tok)]⟩)]
abbrev K53.l0T : Type := (((List (foreign_Record)) × (List (api_Vector)) × (List (foreign_Record)) × Int × Int × Unit) × (foreign_Table × foreign_Record × Unit)) → Option ((((List (foreign_Record)) × (List (api_Vector)) × Unit) × (foreign_Table × foreign_Record × Unit)))
noncomputable def K53.C : Code := match Tryz.f133.body with | some c => c | none => .skip
noncomputable def K53.B0 : Code := match (loopsOf K53.C).getD 0 .skip with | .loop b => b | .scope b => b | _ => .skip
noncomputable def K53.JR10 : Exits U := [(.normal, ⟨35, 15, [(4, .ptr 14 0 0), (5, vb_)], [(13, .obj .t_foreign_Table), (14, .obj .t_foreign_Record)]⟩)]
noncomputable def K53.JR5 : Exits U := [(.normal, ⟨35, 17, [(4, .ptr 14 0 0), (6, .val (.isl .t_foreign_Record)), (7, .own .t_api_Vector 15), (9, .ptr 16 0 0), (14, .val (.isl .t_foreign_Record)), (15, vi_), (16, vi_)], [(13, .obj .t_foreign_Table), (14, .obj .t_foreign_Record), (15, .tok), (16, .obj .t_foreign_Record)]⟩)]
noncomputable def K53.H (cK56 : K56.T) (cK38 : K38.T) (l0 : K53.l0T) : Hints U := { Γ := (addΓ 177 (K38.sig.native (K38.W cK38)) (addΓ 176 (K56.sig.native (K56.W cK56)) noΓ)), ro := 14, base := 14, joinR := fun b => (bif Nat.beq b 5 then some K53.JR5 else (bif Nat.beq b 10 then some K53.JR10 else none)), loop := fun b => (bif Nat.beq b 4 then some (loopN (14, 14) K53.L0 K53.X0 l0) else none) }
noncomputable def K53.step0 (cK56 : K56.T) (cK38 : K38.T) (a : ((List (foreign_Record)) × (List (api_Vector)) × (List (foreign_Record)) × Int × Int × Unit) × (foreign_Table × foreign_Record × Unit)) : Option ((((List (foreign_Record)) × (List (api_Vector)) × (List (foreign_Record)) × Int × Int × Unit) × (foreign_Table × foreign_Record × Unit)) ⊕ ((((List (foreign_Record)) × (List (api_Vector)) × Unit) × (foreign_Table × foreign_Record × Unit)))) :=
 (bif ilt a.1.2.2.2.2.1 a.1.2.2.2.1 then (oelim ((bif inR a.1.2.2.2.2.1 (List.length a.1.2.2.1) then some ((a.1.1, (a.1.2.1, (a.1.2.2.1, (a.1.2.2.2.1, (a.1.2.2.2.2.1, ()))))), (a.2.1, (a.2.2.1, (List.getD a.1.2.2.1 (Int.toNat a.1.2.2.2.2.1) foreign_Record.zero, ())))) else none)) none fun r0 => (bif room (List.length r0.1.2.1 + List.length (r0.2.2.2.1.fVector :: lnil api_Vector)) 88 then some (.inl ((r0.1.1, (r0.1.2.1 ++ r0.2.2.2.1.fVector :: lnil api_Vector, (r0.1.2.2.1, (r0.1.2.2.2.1, (iadd .i64 r0.1.2.2.2.2.1 1, ()))))), (r0.2.1, (r0.2.2.1, ())))) else none)) else some (.inr ((a.1.1, (a.1.2.1, ())), (a.2.1, (a.2.2.1, ())))))
noncomputable def K53.F0 : K53.l0T := fun a => loopFix (1000000 + (a.1.1.length + a.1.2.1.length + a.1.2.2.1.length)) (K53.step0 K56 K38) a
noncomputable def K53.gen (cK56 : K56.T) (cK38 : K38.T) (l0 : K53.l0T) : K53.T := fun now h0 =>
 (oelim (cK56 now h0) none fun r0 => (oelim (l0 ((r0.1.1, lnil api_Vector, r0.1.1, ofN (List.length r0.1.1), (0 : Int), ()), h0, foreign_Record.mk z5_ z6_ 0 0 0, ())) none fun r1 => (oelim (cK38 r1.1.2.1) none fun r2 => (bif ilt r2.1.1 0 then some ((foreign_Record.mk z5_ z6_ 0 0 0, (false, ())), ((), ())) else (bif inR r2.1.1 (List.length r1.1.1) then some ((List.getD r1.1.1 (Int.toNat r2.1.1) foreign_Record.zero, (true, ())), ((), ())) else none)))))
noncomputable def K53 : K53.T := K53.gen K56 K38 K53.F0
theorem K53.seq0 (cK56 : K56.T) (cK38 : K38.T) (l0 : K53.l0T) (a : K53.L0.T) : run Tryz.prog (K53.H cK56 cK38 l0) 6 (Option (K53.L0.T ⊕ ExT K53.X0)) none K53.B0 (K53.L0.enc a) (loopK (14, 14) K53.L0 K53.X0) = K53.step0 cK56 cK38 a := by kernel_rfl
theorem K53.inner0 : loopsOf K53.B0 = ([] : List Code) := by kernel_rfl
noncomputable abbrev K53.h := K53.H K56 K38 K53.F0
theorem K53.lok0 : LoopOK U Tryz.prog K53.h.ro K53.h.base K53.B0 (loopN (14, 14) K53.L0 K53.X0 K53.F0) :=
 loopN_ok (Hn := K53.h) U_ok U_pure (run_ok (hq (addΓ_ok (addΓ_ok noΓ_ok K56.ok) K38.ok) loops_nil (fun _ => rfl) (fun _ => rfl)) 6) (fun b h => by rw [K53.inner0] at h; exact h) (fun _ => rfl) (K53.seq0 K56 K38 K53.F0)
theorem K53.eq (cK56 : K56.T) (cK38 : K38.T) (l0 : K53.l0T) : EqA K53.sig (K53.H cK56 cK38 l0) Tryz.f133 6 (K53.W (K53.gen cK56 cK38 l0)) := by intro a x; kernel_rfl
theorem K53.loops : loopsOf K53.C = [(.loop K53.B0)] := by kernel_rfl
theorem K53.hints : HintsOK U Tryz.prog K53.h (fun c => c ∈ [(.loop K53.B0)]) := (hq (addΓ_ok (addΓ_ok noΓ_ok K56.ok) K38.ok) (loops_cons (by kernel_rfl) K53.lok0 loops_nil) (fun _ => rfl) (fun _ => rfl))
theorem K53.ok : NativeOK U Tryz.prog 133 (K53.sig.native (K53.W K53)) :=
 Sig.ok K53.sig (K53.W K53) U_pure (Hn := K53.h) (code := K53.C) (gos := 6) K53.hints Tryz.func133 (by kernel_rfl) (by kernel_rfl) (fun b h => by rw [K53.loops] at h; exact h) rfl rfl (by decide) (K53.eq K56 K38 K53.F0) (by decide)
noncomputable def K41.sig : Sig U := ⟨[.data .t_api_Conf], [], 0, [.data .t_api_Vector], false, []⟩
abbrev K41.T : Type := (api_Conf) → Option ((api_Vector × Unit) × Unit × Unit)
noncomputable def K41.W (f : K41.T) : K41.sig.F := fun a x => f a.1
noncomputable def K41.H : Hints U := { Γ := noΓ, ro := 0, base := 13 }
noncomputable def K41.gen : K41.T := fun c =>
 some ((api_Vector.mk c.fPriority1 c.fQuality c.fPriority2 c.fClock 0 (api_PortID.mk c.fClock 0) (api_PortID.mk c.fClock 0), ()), ((), ()))
noncomputable def K41 : K41.T := K41.gen
theorem K41.eq : EqA K41.sig (K41.H) Tryz.f135 6 (K41.W (K41.gen)) := by intro a x; kernel_rfl
theorem K41.hints : HintsOK U Tryz.prog (K41.H) (fun c => c ∈ ([] : List Code)) := (hq noΓ_ok loops_nil (fun _ => rfl) (fun _ => rfl))
theorem K41.ok : NativeOK U Tryz.prog 135 (K41.sig.native (K41.W K41)) :=
 Sig.ok K41.sig (K41.W (K41.gen)) U_pure (Hn := (K41.H)) (gos := 6) K41.hints Tryz.func135 rfl (by kernel_rfl) (fun b h => h) rfl rfl (by decide) (K41.eq) (by decide)
noncomputable def K46.sig : Sig U := ⟨[.data .t_api_Vector, .bool, .optr .t_api_Vector, .optr .t_api_Vector, .bool], [], 0, [.int .i64], false, []⟩
abbrev K46.T : Type := (api_Vector) → (Bool) → (Option (api_Vector)) → (Option (api_Vector)) → (Bool) → Option ((Int × Unit) × Unit × Unit)
noncomputable def K46.W (f : K46.T) : K46.sig.F := fun a x => f a.1 a.2.1 a.2.2.1 a.2.2.2.1 a.2.2.2.2.1
noncomputable def K46.JC2 : Exits U := [(.normal, ⟨58, 13, [], []⟩),
 (.ret, ⟨58, 13, [(10, vi_)], []⟩)]
noncomputable def K46.H (cK39 : K39.T) : Hints U := { Γ := (addΓ 178 (K39.sig.native (K39.W cK39)) noΓ), ro := 0, base := 13, joinQ := fun b => (bif Nat.beq b 1 then some [(11, vb_)] else (bif Nat.beq b 4 then some [(31, vb_)] else (bif Nat.beq b 7 then some [(32, vb_)] else (bif Nat.beq b 11 then some [(45, vb_)] else none)))), joinC := fun b => (bif Nat.beq b 2 then some K46.JC2 else none) }
noncomputable def K46.gen (cK39 : K39.T) : K46.T := fun d0 listening best port here =>
 (oelim ((bif !Option.isSome port then some (listening, ()) else some (false, ()))) none fun r0 => (oelim ((bif r0.1 then some (.inr (((7 : Int), ()), ())) else (bif ile d0.fQuality.fClass 127 then (oelim ((bif !Option.isSome port then some (true, ()) else (oelim (port) none fun r1 => (oelim (cK39 d0 r1) none fun r2 => some (ilt r2.1.1 0, ()))))) none fun r3 => (bif r3.1 then some (.inr (((1 : Int), ()), ())) else some (.inr (((4 : Int), ()), ())))) else (oelim ((bif !Option.isSome best then some (true, ()) else (oelim (best) none fun r4 => (oelim (cK39 d0 r4) none fun r5 => some (ilt r5.1.1 0, ()))))) none fun r6 => (bif r6.1 then some (.inr (((2 : Int), ()), ())) else (bif here then some (.inr (((6 : Int), ()), ())) else (oelim ((bif Option.isSome port then (oelim (best) none fun r7 => (oelim (port) none fun r8 => (oelim (cK39 r7 r8) none fun r9 => some (ieq r9.1.1 (-1), ())))) else some (false, ()))) none fun r10 => (bif r10.1 then some (.inr (((5 : Int), ()), ())) else some (.inl ((), ())))))))))) none fun r11 => (selim r11 (fun r12 => some (((3 : Int), ()), ((), ()))) (fun r12 => some ((r12.1.1, ()), ((), ()))))))
noncomputable def K46 : K46.T := K46.gen K39
theorem K46.eq (cK39 : K39.T) : EqA K46.sig (K46.H cK39) Tryz.f179 6 (K46.W (K46.gen cK39)) := by intro a x; kernel_rfl
noncomputable abbrev K46.h := K46.H K39
theorem K46.hints : HintsOK U Tryz.prog K46.h (fun c => c ∈ ([] : List Code)) := (hq (addΓ_ok noΓ_ok K39.ok) loops_nil (fun _ => rfl) (fun _ => rfl))
theorem K46.ok : NativeOK U Tryz.prog 179 (K46.sig.native (K46.W K46)) :=
 Sig.ok K46.sig (K46.W K46) U_pure (Hn := K46.h) (gos := 6) K46.hints Tryz.func179 rfl (by kernel_rfl) (fun b h => h) rfl rfl (by decide) (K46.eq K39) (by decide)
noncomputable def K45.sig : Sig U := ⟨[.data .t_api_Vector, .isl .bool, .isl .p_t_api_Vector], [], 0, [.isl .int, .int .i64], true, []⟩
abbrev K45.T : Type := (api_Vector) → (List (Bool)) → (List (Option (api_Vector))) → Option (((List (Int)) × Int × Unit) × Unit × Unit)
noncomputable def K45.W (f : K45.T) : K45.sig.F := fun a x => f a.1 a.2.1 a.2.2.1
noncomputable def K45.L0 : Shape U := ⟨78, 14, [(1, .val (.isl .bool)), (2, .val (.isl .p_t_api_Vector)), (3, .ptr 13 0 0), (8, vi_), (9, vi_), (10, .val (.optr .t_api_Vector)), (11, .full .int)], [(13, .obj .t_api_Vector)]⟩
noncomputable def K45.X0 : Exits U := [(.ret, ⟨78, 14, [(6, .own .int 13), (7, vi_)], [(13, .tok)]⟩)]
abbrev K45.l0T : Type := (((List (Bool)) × (List (Option (api_Vector))) × Int × Int × (Option (api_Vector)) × (List (Int)) × Unit) × (api_Vector × Unit)) → Option ((((List (Int)) × Int × Unit) × Unit))
noncomputable def K45.L1 : Shape U := ⟨78, 15, [(1, .val (.isl .bool)), (3, .ptr 13 0 0), (8, vi_), (10, .val (.optr .t_api_Vector)), (11, .own .int 14), (48, .val (.isl .p_t_api_Vector)), (49, vi_), (50, vi_)], [(13, .obj .t_api_Vector), (14, .tok)]⟩
noncomputable def K45.X1 : Exits U := [(.exit 0, ⟨78, 14, [(8, vi_), (11, .own .int 13)], [(13, .tok)]⟩)]
abbrev K45.l1T : Type := (((List (Bool)) × Int × (Option (api_Vector)) × (List (Int)) × (List (Option (api_Vector))) × Int × Int × Unit) × (api_Vector × Unit)) → Option (((Int × (List (Int)) × Unit) × Unit))
noncomputable def K45.C : Code := match Tryz.f134.body with | some c => c | none => .skip
noncomputable def K45.B0 : Code := match (loopsOf K45.C).getD 0 .skip with | .loop b => b | .scope b => b | _ => .skip
noncomputable def K45.B1 : Code := match (loopsOf K45.C).getD 1 .skip with | .loop b => b | .scope b => b | _ => .skip
noncomputable def K45.R0 : Code := (findLabel K45.B0 0).getD .skip
noncomputable def K45.JR13 : Exits U := [(.normal, ⟨78, 15, [(1, .val (.isl .bool)), (3, .ptr 13 0 0), (8, vi_), (10, .val (.optr .t_api_Vector)), (11, .own .int 14), (48, .val (.isl .p_t_api_Vector)), (49, vi_), (50, vi_)], [(13, .obj .t_api_Vector), (14, .tok)]⟩)]
noncomputable def K45.JC8 : Exits U := [(.normal, ⟨78, 14, [(1, .val (.isl .bool)), (2, .val (.isl .p_t_api_Vector)), (3, .ptr 13 0 0), (8, vi_), (9, vi_), (10, .val (.optr .t_api_Vector)), (11, .full .int)], [(13, .obj .t_api_Vector)]⟩)]
noncomputable def K45.H (cK39 : K39.T) (cK46 : K46.T) (l0 : K45.l0T) (l1 : K45.l1T) : Hints U := { Γ := (addΓ 179 (K46.sig.native (K46.W cK46)) (addΓ 178 (K39.sig.native (K39.W cK39)) noΓ)), ro := 0, base := 13, joinQ := fun b => (bif Nat.beq b 7 then some [(43, vb_)] else none), joinR := fun b => (bif Nat.beq b 13 then some K45.JR13 else none), joinC := fun b => (bif Nat.beq b 8 then some K45.JC8 else none), label := fun b => bif Nat.beq b 0 then some (loopN (0, 13) K45.L0 K45.X0 l0) else none, gotos := 3, loop := fun b => (bif Nat.beq b 11 then some (loopN (0, 13) K45.L1 K45.X1 l1) else none) }
noncomputable def K45.step1 (cK39 : K39.T) (cK46 : K46.T) (a : ((List (Bool)) × Int × (Option (api_Vector)) × (List (Int)) × (List (Option (api_Vector))) × Int × Int × Unit) × (api_Vector × Unit)) : Option ((((List (Bool)) × Int × (Option (api_Vector)) × (List (Int)) × (List (Option (api_Vector))) × Int × Int × Unit) × (api_Vector × Unit)) ⊕ (((Int × (List (Int)) × Unit) × Unit))) :=
 (bif ilt a.1.2.2.2.2.2.2.1 a.1.2.2.2.2.2.1 then (bif inR a.1.2.2.2.2.2.2.1 (List.length a.1.2.2.2.2.1) then (oelim ((bif ilt a.1.2.2.2.2.2.2.1 (ofN (List.length a.1.1)) then (bif inR a.1.2.2.2.2.2.2.1 (List.length a.1.1) then (oelim (cK46 a.2.1 (List.getD a.1.1 (Int.toNat a.1.2.2.2.2.2.2.1) false) a.1.2.2.1 (List.getD a.1.2.2.2.2.1 (Int.toNat a.1.2.2.2.2.2.2.1) none) (ieq a.1.2.2.2.2.2.2.1 a.1.2.1)) none fun r0 => (bif room (List.length a.1.2.2.2.1 + List.length (r0.1.1 :: lnil Int)) 8 then some ((a.1.1, (a.1.2.1, (a.1.2.2.1, (a.1.2.2.2.1 ++ r0.1.1 :: lnil Int, (a.1.2.2.2.2.1, (a.1.2.2.2.2.2.1, (a.1.2.2.2.2.2.2.1, ()))))))), (a.2.1, ())) else none)) else none) else (oelim (cK46 a.2.1 false a.1.2.2.1 (List.getD a.1.2.2.2.2.1 (Int.toNat a.1.2.2.2.2.2.2.1) none) (ieq a.1.2.2.2.2.2.2.1 a.1.2.1)) none fun r1 => (bif room (List.length a.1.2.2.2.1 + List.length (r1.1.1 :: lnil Int)) 8 then some ((a.1.1, (a.1.2.1, (a.1.2.2.1, (a.1.2.2.2.1 ++ r1.1.1 :: lnil Int, (a.1.2.2.2.2.1, (a.1.2.2.2.2.2.1, (a.1.2.2.2.2.2.2.1, ()))))))), (a.2.1, ())) else none)))) none fun r2 => some (.inl ((r2.1.1, (r2.1.2.1, (r2.1.2.2.1, (r2.1.2.2.2.1, (r2.1.2.2.2.2.1, (r2.1.2.2.2.2.2.1, (iadd .i64 r2.1.2.2.2.2.2.2.1 1, ()))))))), (r2.2.1, ())))) else none) else some (.inr ((a.1.2.1, (a.1.2.2.2.1, ())), ())))
noncomputable def K45.F1 : K45.l1T := fun a => loopFix (1000000 + (a.1.1.length + a.1.2.2.2.1.length + a.1.2.2.2.2.1.length)) (K45.step1 K39 K46) a
noncomputable def K45.step0 (cK39 : K39.T) (cK46 : K46.T) (l1 : K45.l1T) (a : ((List (Bool)) × (List (Option (api_Vector))) × Int × Int × (Option (api_Vector)) × (List (Int)) × Unit) × (api_Vector × Unit)) : Option ((((List (Bool)) × (List (Option (api_Vector))) × Int × Int × (Option (api_Vector)) × (List (Int)) × Unit) × (api_Vector × Unit)) ⊕ ((((List (Int)) × Int × Unit) × Unit))) :=
 (bif ilt a.1.2.2.2.1 (ofN (List.length a.1.2.1)) then (bif inR a.1.2.2.2.1 (List.length a.1.2.1) then (oelim ((bif Option.isSome (List.getD a.1.2.1 (Int.toNat a.1.2.2.2.1) none) then (bif !Option.isSome a.1.2.2.2.2.1 then some (true, ()) else (oelim (a.1.2.2.2.2.1) none fun (r0 : api_Vector) => (oelim (List.getD a.1.2.1 (Int.toNat a.1.2.2.2.1) none) none fun r1 => (oelim (cK39 r0 r1) none fun r2 => some (ilt 0 r2.1.1, ()))))) else some (false, ()))) none fun r3 => (oelim ((bif r3.1 then some ((a.1.1, (a.1.2.1, (a.1.2.2.2.1, (a.1.2.2.2.1, (List.getD a.1.2.1 (Int.toNat a.1.2.2.2.1) none, (a.1.2.2.2.2.2.1, ())))))), (a.2.1, ())) else some ((a.1.1, (a.1.2.1, (a.1.2.2.1, (a.1.2.2.2.1, (a.1.2.2.2.2.1, (a.1.2.2.2.2.2.1, ())))))), (a.2.1, ())))) none fun r4 => some (.inl ((r4.1.1, (r4.1.2.1, (r4.1.2.2.1, (iadd .i64 r4.1.2.2.2.1 1, (r4.1.2.2.2.2.1, (r4.1.2.2.2.2.2.1, ())))))), (r4.2.1, ()))))) else none) else (oelim (l1 ((a.1.1, a.1.2.2.1, a.1.2.2.2.2.1, a.1.2.2.2.2.2.1, a.1.2.1, ofN (List.length a.1.2.1), (0 : Int), ()), a.2)) none fun r5 => some (.inr ((r5.1.2.1, (r5.1.1, ())), ()))))
noncomputable def K45.F0 : K45.l0T := fun a => loopFix (1000000 + (a.1.1.length + a.1.2.1.length + a.1.2.2.2.2.2.1.length)) (K45.step0 K39 K46 K45.F1) a
noncomputable def K45.gen (cK39 : K39.T) (cK46 : K46.T) (l0 : K45.l0T) (l1 : K45.l1T) : K45.T := fun d0 listening ports =>
 (bif le3 (ofN 0) (opMinMax false (ofN (List.length ports)) 8) (List.length ports) then (bif ilt 0 (ofN (List.length (List.drop (Int.toNat (ofN 0)) (List.take (Int.toNat (opMinMax false (ofN (List.length ports)) 8)) ports)))) then (bif inR 0 (List.length (List.drop (Int.toNat (ofN 0)) (List.take (Int.toNat (opMinMax false (ofN (List.length ports)) 8)) ports))) then (oelim ((bif Option.isSome (List.getD (List.drop (Int.toNat (ofN 0)) (List.take (Int.toNat (opMinMax false (ofN (List.length ports)) 8)) ports)) (Int.toNat 0) none) then some (true, ()) else some (false, ()))) none fun r0 => (oelim ((bif r0.1 then some ((listening, (List.drop (Int.toNat (ofN 0)) (List.take (Int.toNat (opMinMax false (ofN (List.length ports)) 8)) ports), ((0 : Int), ((0 : Int), (List.getD (List.drop (Int.toNat (ofN 0)) (List.take (Int.toNat (opMinMax false (ofN (List.length ports)) 8)) ports)) (Int.toNat 0) none, (lnil Int, ())))))), (d0, ())) else some ((listening, (List.drop (Int.toNat (ofN 0)) (List.take (Int.toNat (opMinMax false (ofN (List.length ports)) 8)) ports), ((-1 : Int), ((0 : Int), (none, (lnil Int, ())))))), (d0, ())))) none fun r1 => (oelim (l0 ((r1.1.1, r1.1.2.1, r1.1.2.2.1, iadd .i64 r1.1.2.2.2.1 1, r1.1.2.2.2.2), r1.2)) none fun r2 => some ((r2.1.1, (r2.1.2.1, ())), ((), ()))))) else none) else (oelim (l1 ((listening, (-1 : Int), none, lnil Int, List.drop (Int.toNat (ofN 0)) (List.take (Int.toNat (opMinMax false (ofN (List.length ports)) 8)) ports), ofN (List.length (List.drop (Int.toNat (ofN 0)) (List.take (Int.toNat (opMinMax false (ofN (List.length ports)) 8)) ports))), (0 : Int), ()), d0, ())) none fun r3 => some ((r3.1.2.1, (r3.1.1, ())), ((), ())))) else none)
noncomputable def K45 : K45.T := K45.gen K39 K46 K45.F0 K45.F1
theorem K45.seq1 (cK39 : K39.T) (cK46 : K46.T) (l0 : K45.l0T) (l1 : K45.l1T) (a : K45.L1.T) : run Tryz.prog (K45.H cK39 cK46 l0 l1) 6 (Option (K45.L1.T ⊕ ExT K45.X1)) none K45.B1 (K45.L1.enc a) (loopK (0, 13) K45.L1 K45.X1) = K45.step1 cK39 cK46 a := by kernel_rfl
theorem K45.inner1 : loopsOf K45.B1 = ([] : List Code) := by kernel_rfl
noncomputable abbrev K45.h := K45.H K39 K46 K45.F0 K45.F1
theorem K45.lok1 : LoopOK U Tryz.prog K45.h.ro K45.h.base K45.B1 (loopN (0, 13) K45.L1 K45.X1 K45.F1) :=
 loopN_ok (Hn := K45.h) U_ok U_pure (run_ok (hints_of_loops U_ok U_pure mixed (addΓ_ok (addΓ_ok noΓ_ok K39.ok) K46.ok) loops_nil labels_nil (inl_none fun _ => rfl)) 6) (fun b h => by rw [K45.inner1] at h; exact h) (fun _ => rfl) (K45.seq1 K39 K46 K45.F0 K45.F1)
theorem K45.seq0 (cK39 : K39.T) (cK46 : K46.T) (l0 : K45.l0T) (l1 : K45.l1T) (a : K45.L0.T) : run Tryz.prog (K45.H cK39 cK46 l0 l1) 6 (Option (K45.L0.T ⊕ ExT K45.X0)) none K45.R0 (K45.L0.enc a) (labelK (0, 13) 0 K45.L0 K45.X0) = K45.step0 cK39 cK46 l1 a := by kernel_rfl
theorem K45.inner0 : loopsOf K45.R0 = [(.loop K45.B1)] := by kernel_rfl
theorem K45.lok0 : LabelOK U Tryz.prog K45.h.ro K45.h.base K45.B0 K45.R0 (loopN (0, 13) K45.L0 K45.X0 K45.F0) :=
 labelN_ok (Hn := K45.h) (lb := 0) U_ok U_pure (run_ok (hints_of_loops U_ok U_pure mixed (addΓ_ok (addΓ_ok noΓ_ok K39.ok) K46.ok) (loops_cons (by kernel_rfl) K45.lok1 loops_nil) (labels_skip labels_nil) (inl_none fun _ => rfl)) 6) (by kernel_rfl) (fun b h => by rw [K45.inner0] at h; exact h) (fun _ => rfl) (K45.seq0 K39 K46 K45.F0 K45.F1)
theorem K45.eq (cK39 : K39.T) (cK46 : K46.T) (l0 : K45.l0T) (l1 : K45.l1T) : EqA K45.sig (K45.H cK39 cK46 l0 l1) Tryz.f134 6 (K45.W (K45.gen cK39 cK46 l0 l1)) := by intro a x; kernel_rfl
theorem K45.loops : loopsOf K45.C = [(.scope K45.B0), (.loop K45.B1)] := by kernel_rfl
theorem K45.hints : HintsOK U Tryz.prog K45.h (fun c => c ∈ [(.scope K45.B0), (.loop K45.B1)]) := (hints_of_loops U_ok U_pure mixed (addΓ_ok (addΓ_ok noΓ_ok K39.ok) K46.ok) (loops_skip (loops_cons (by kernel_rfl) K45.lok1 loops_nil)) (labels_cons (label_one (r0 := K45.R0) (l0 := 0) (by kernel_rfl) (fun _ => rfl) K45.lok0) (labels_skip labels_nil)) (inl_none fun _ => rfl))
theorem K45.ok : NativeOK U Tryz.prog 134 (K45.sig.native (K45.W K45)) :=
 Sig.ok K45.sig (K45.W K45) U_pure (Hn := K45.h) (code := K45.C) (gos := 6) K45.hints Tryz.func134 (by kernel_rfl) (by kernel_rfl) (fun b h => by rw [K45.loops] at h; exact h) rfl rfl (by decide) (K45.eq K39 K46 K45.F0 K45.F1) (by decide)
noncomputable def K90.sig : Sig U := ⟨[.int .i64, .int .i64, .bool, .bool], [], 0, [.int .i64], false, []⟩
abbrev K90.T : Type := (Int) → (Int) → (Bool) → (Bool) → Option ((Int × Unit) × Unit × Unit)
noncomputable def K90.W (f : K90.T) : K90.sig.F := fun a x => f a.1 a.2.1 a.2.2.1 a.2.2.2.1
noncomputable def K90.H (cK89 : K89.T) (cK91 : K91.T) : Hints U := { Γ := (addΓ 76 (K91.sig.native (K91.W cK91)) (addΓ 74 (K89.sig.native (K89.W cK89)) noΓ)), ro := 0, base := 13, joinQ := fun b => (bif Nat.beq b 1 then some [(19, vb_)] else (bif Nat.beq b 3 then some [(25, vb_)] else (bif Nat.beq b 14 then some [(42, vb_)] else none))) }
noncomputable def K90.gen (cK89 : K89.T) (cK91 : K91.T) : K90.T := fun state decision same slaveOnly =>
 (oelim ((oelim (cK89 state) none fun r0 => (bif !r0.1.1 then some (true, ()) else (bif ilt decision 1 then some (true, ()) else some (ilt 6 decision, ()))))) none fun r1 => (bif r1.1 then some ((state, ()), ((), ())) else (oelim ((bif slaveOnly then some (ine decision 6, ()) else some (false, ()))) none fun r2 => (bif r2.1 then some (((4 : Int), ()), ((), ())) else (bif ieq decision 4 then some (((7 : Int), ()), ((), ())) else (bif ieq decision 5 then some (((7 : Int), ()), ((), ())) else (bif ieq decision 3 then (bif ine state 6 then some (((5 : Int), ()), ((), ())) else some ((state, ()), ((), ()))) else (bif ieq decision 6 then (oelim ((bif same then (oelim (cK91 state) none fun r3 => some (r3.1.1, ())) else some (false, ()))) none fun r4 => (bif r4.1 then some ((state, ()), ((), ())) else some (((8 : Int), ()), ((), ())))) else some (((6 : Int), ()), ((), ()))))))))))
noncomputable def K90 : K90.T := K90.gen K89 K91
theorem K90.eq (cK89 : K89.T) (cK91 : K91.T) : EqA K90.sig (K90.H cK89 cK91) Tryz.f137 6 (K90.W (K90.gen cK89 cK91)) := by intro a x; kernel_rfl
noncomputable abbrev K90.h := K90.H K89 K91
theorem K90.hints : HintsOK U Tryz.prog K90.h (fun c => c ∈ ([] : List Code)) := (hq (addΓ_ok (addΓ_ok noΓ_ok K89.ok) K91.ok) loops_nil (fun _ => rfl) (fun _ => rfl))
theorem K90.ok : NativeOK U Tryz.prog 137 (K90.sig.native (K90.W K90)) :=
 Sig.ok K90.sig (K90.W K90) U_pure (Hn := K90.h) (gos := 6) K90.hints Tryz.func137 rfl (by kernel_rfl) (fun b h => h) rfl rfl (by decide) (K90.eq K89 K91) (by decide)
noncomputable def K98.sig : Sig U := ⟨[.ptr], [.obj .t_seq_Match], 0, [], true, []⟩
abbrev K98.T : Type := (seq_Match) → Option (Unit × (seq_Match × Unit) × Unit)
noncomputable def K98.W (f : K98.T) : K98.sig.F := fun a x => f x.1
noncomputable def K98.H : Hints U := { Γ := noΓ, ro := 0, base := 14 }
noncomputable def K98.gen : K98.T := fun h0 =>
 some ((), ((seq_Match.mk z2_ z2_ 0 false false, ()), ()))
noncomputable def K98 : K98.T := K98.gen
theorem K98.eq : EqA K98.sig (K98.H) Tryz.f164 6 (K98.W (K98.gen)) := by intro a x; kernel_rfl
theorem K98.hints : HintsOK U Tryz.prog (K98.H) (fun c => c ∈ ([] : List Code)) := (hq noΓ_ok loops_nil (fun _ => rfl) (fun _ => rfl))
theorem K98.ok : NativeOK U Tryz.prog 164 (K98.sig.native (K98.W K98)) :=
 Sig.ok K98.sig (K98.W (K98.gen)) U_pure (Hn := (K98.H)) (gos := 6) K98.hints Tryz.func164 rfl (by kernel_rfl) (fun b h => h) rfl rfl (by decide) (K98.eq) (by decide)
noncomputable def K48.sig : Sig U := ⟨[.ptr], [.obj .t_delay_Exchange], 0, [], true, []⟩
abbrev K48.T : Type := (delay_Exchange) → Option (Unit × (delay_Exchange × Unit) × Unit)
noncomputable def K48.W (f : K48.T) : K48.sig.F := fun a x => f x.1
noncomputable def K48.H : Hints U := { Γ := noΓ, ro := 0, base := 14 }
noncomputable def K48.gen : K48.T := fun h0 =>
 some ((), ((delay_Exchange.set_fr h0 (delay_request.mk 0 0 false false), ()), ()))
noncomputable def K48 : K48.T := K48.gen
theorem K48.eq : EqA K48.sig (K48.H) Tryz.f165 6 (K48.W (K48.gen)) := by intro a x; kernel_rfl
theorem K48.hints : HintsOK U Tryz.prog (K48.H) (fun c => c ∈ ([] : List Code)) := (hq noΓ_ok loops_nil (fun _ => rfl) (fun _ => rfl))
theorem K48.ok : NativeOK U Tryz.prog 165 (K48.sig.native (K48.W K48)) :=
 Sig.ok K48.sig (K48.W (K48.gen)) U_pure (Hn := (K48.H)) (gos := 6) K48.hints Tryz.func165 rfl (by kernel_rfl) (fun b h => h) rfl rfl (by decide) (K48.eq) (by decide)
noncomputable def K31.sig : Sig U := ⟨[.ptr, .bool], [.obj .t_clock_side, fm7_, fm10_], 0, [], true, []⟩
abbrev K31.T : Type := (Bool) → (clock_side) → (Fm delay_Exchange) → (Fm seq_Match) → Option (Unit × (clock_side × (Fm delay_Exchange) × (Fm seq_Match) × Unit) × Unit)
noncomputable def K31.W (f : K31.T) : K31.sig.F := fun a x => f a.2.1 x.1 x.2.1 x.2.2.1
noncomputable def K31.C : Code := match Tryz.f97.body with | some c => c | none => .skip
noncomputable def K31.B0 : Code := match (loopsOf K31.C).getD 0 .skip with | .loop b => b | .scope b => b | _ => .skip
noncomputable def K31.JR2 : Exits U := [(.normal, ⟨44, 14, [(0, .ptr 13 0 0), (1, vb_)], [(13, .obj .t_clock_side), (7, .famN false .t_delay_Exchange), (10, .famN false .t_seq_Match)]⟩)]
noncomputable def K31.JR1 : Exits U := [(.normal, ⟨44, 14, [(0, .ptr 13 0 0), (1, vb_)], [(13, .obj .t_clock_side), (7, .famN false .t_delay_Exchange), (10, .famN false .t_seq_Match)]⟩)]
noncomputable def K31.JR0 : Exits U := [(.normal, ⟨44, 14, [(0, .ptr 13 0 0), (1, vb_)], [(13, .obj .t_clock_side), (7, .famN false .t_delay_Exchange), (10, .famN false .t_seq_Match)]⟩)]
noncomputable def K31.U0 (cK98 : K98.T) (cK48 : K48.T) (cK110 : K110.T) : Hints U := { Γ := (addΓ 166 (K110.sig.native (K110.W cK110)) (addΓ 165 (K48.sig.native (K48.W cK48)) (addΓ 164 (K98.sig.native (K98.W cK98)) noΓ))), ro := 0, base := 14, joinR := fun b => (bif Nat.beq b 0 then some K31.JR0 else (bif Nat.beq b 1 then some K31.JR1 else (bif Nat.beq b 2 then some K31.JR2 else none))), loop := fun b => none }
noncomputable def K31.H (cK98 : K98.T) (cK48 : K48.T) (cK110 : K110.T) : Hints U := { Γ := (addΓ 166 (K110.sig.native (K110.W cK110)) (addΓ 165 (K48.sig.native (K48.W cK48)) (addΓ 164 (K98.sig.native (K98.W cK98)) noΓ))), ro := 0, base := 14, joinR := fun b => (bif Nat.beq b 0 then some K31.JR0 else (bif Nat.beq b 1 then some K31.JR1 else (bif Nat.beq b 2 then some K31.JR2 else none))), loop := fun b => (bif Nat.beq b 4 then some (unrollN Tryz.prog (K31.U0 cK98 cK48 cK110) 6 K31.B0 6) else none) }
noncomputable def K31.gen (cK98 : K98.T) (cK48 : K48.T) (cK110 : K110.T) : K31.T := fun ask h0 g7 g10 =>
 (oelim ((oelim (h0.12) none fun r0 => (oelim (cK98 (g10.2 r0)) none fun r1 => some ((ask, ()), (h0, (g7, ((g10.1, fset g10.2 r0 r1.2.1.1), ()))))))) none fun r2 => (oelim ((oelim (r2.2.1.13) none fun r3 => (oelim (cK48 (r2.2.2.1.2 r3)) none fun r4 => some ((r2.1.1, ()), (r2.2.1, ((r2.2.2.1.1, fset r2.2.2.1.2 r3 r4.2.1.1), (r2.2.2.2.1, ()))))))) none fun r5 => (oelim (cK110 r5.2.1.freceipt) none fun r6 => (oelim (cK110 r5.2.1.fqualify) none fun r7 => (oelim (cK110 r5.2.1.fannounce) none fun r8 => (oelim (cK110 r5.2.1.fsync) none fun r9 => (bif r5.1.1 then (oelim (cK110 r5.2.1.fask) none fun r10 => some ((), ((clock_side.set_fdiff (clock_side.set_fask (clock_side.set_fsync (clock_side.set_fannounce (clock_side.set_fqualify (clock_side.set_freceipt r5.2.1 r6.2.1.1) r7.2.1.1) r8.2.1.1) r9.2.1.1) r10.2.1.1) z4_, (r5.2.2.1, (r5.2.2.2.1, ()))), ()))) else some ((), ((clock_side.set_fdiff (clock_side.set_fsync (clock_side.set_fannounce (clock_side.set_fqualify (clock_side.set_freceipt r5.2.1 r6.2.1.1) r7.2.1.1) r8.2.1.1) r9.2.1.1) z4_, (r5.2.2.1, (r5.2.2.2.1, ()))), ())))))))))
noncomputable def K31 : K31.T := K31.gen K98 K48 K110
theorem K31.inner0 : loopsOf K31.B0 = [] := by kernel_rfl
noncomputable abbrev K31.h := K31.H K98 K48 K110
theorem K31.lok0 : LoopOK U Tryz.prog K31.h.ro K31.h.base K31.B0 (unrollN Tryz.prog (K31.U0 K98 K48 K110) 6 K31.B0 6) :=
 unrollN_ok (Hn := (K31.U0 K98 K48 K110)) (L := fun c => c ∈ ([] : List Code)) (hq (addΓ_ok (addΓ_ok (addΓ_ok noΓ_ok K98.ok) K48.ok) K110.ok) loops_nil (fun _ => rfl) (fun _ => rfl)) (fun b h => by rw [K31.inner0] at h; exact h) 6
theorem K31.eq (cK98 : K98.T) (cK48 : K48.T) (cK110 : K110.T) : EqA K31.sig (K31.H cK98 cK48 cK110) Tryz.f97 6 (K31.W (K31.gen cK98 cK48 cK110)) := by intro a x; kernel_rfl
theorem K31.loops : loopsOf K31.C = [(.loop K31.B0)] := by kernel_rfl
theorem K31.hints : HintsOK U Tryz.prog K31.h (fun c => c ∈ [(.loop K31.B0)]) := (hq (addΓ_ok (addΓ_ok (addΓ_ok noΓ_ok K98.ok) K48.ok) K110.ok) (loops_cons (by kernel_rfl) K31.lok0 loops_nil) (fun _ => rfl) (fun _ => rfl))
theorem K31.ok : NativeOK U Tryz.prog 97 (K31.sig.native (K31.W K31)) :=
 Sig.ok K31.sig (K31.W K31) U_pure (Hn := K31.h) (code := K31.C) (gos := 6) K31.hints Tryz.func97 (by kernel_rfl) (by kernel_rfl) (fun b h => by rw [K31.loops] at h; exact h) rfl rfl (by decide) (K31.eq K98 K48 K110) (by decide)
noncomputable def K13.sig : Sig U := ⟨[.ptr, .eptr 0 23 42 8, .data .t_api_Parent], [.obj .t_clock_Clock], 0, [], true, []⟩
abbrev K13.T : Type := (Nat) → (api_Parent) → (clock_Clock) → Option (Unit × (clock_Clock × Unit) × Unit)
noncomputable def K13.W (f : K13.T) : K13.sig.F := fun a x => f a.2.1 a.2.2.1 x.1
noncomputable def K13.JR8 : Exits U := [(.normal, ⟨48, 14, [], [(13, .obj .t_clock_Clock)]⟩)]
noncomputable def K13.JR7 : Exits U := [(.normal, ⟨48, 14, [], [(13, .obj .t_clock_Clock)]⟩)]
noncomputable def K13.JC10 : Exits U := [(.normal, ⟨48, 14, [(0, .ptr 13 0 0), (1, .aptr 13 23 42 8 0)], [(13, .obj .t_clock_Clock)]⟩)]
noncomputable def K13.JC6 : Exits U := [(.normal, ⟨48, 14, [(0, .ptr 13 0 0), (1, .aptr 13 23 42 8 0), (16, vb_)], [(13, .obj .t_clock_Clock)]⟩)]
noncomputable def K13.H (cK17 : K17.T) (cK12 : K12.T) (cK109 : K109.T) (cK23 : K23.T) : Hints U := { Γ := (addΓ 127 (K23.sig.native (K23.W cK23)) (addΓ 126 (K109.sig.native (K109.W cK109)) (addΓ 70 (K12.sig.native (K12.W cK12)) (addΓ 131 (K17.sig.native (K17.W cK17)) noΓ)))), ro := 0, base := 14, joinR := fun b => (bif Nat.beq b 7 then some K13.JR7 else (bif Nat.beq b 8 then some K13.JR8 else none)), joinC := fun b => (bif Nat.beq b 6 then some K13.JC6 else (bif Nat.beq b 10 then some K13.JC10 else none)) }
noncomputable def K13.gen (cK17 : K17.T) (cK12 : K12.T) (cK109 : K109.T) (cK23 : K23.T) : K13.T := fun p parent h0 =>
 (bif ieq (h0.fports p).fstate 6 then (oelim ((oelim (cK17 p h0) none fun r0 => some ((), (r0.2.1.1, ())))) none fun r1 => some ((), ((r1.2.1, ()), ()))) else (bif ieq (h0.fports p).fstate 5 then (oelim ((oelim (cK12 h0) none fun r2 => (oelim (cK109 (imul .i64 (iadd .i64 parent.fSteps 1) r2.1.1) (h0.fports p).fqualify) none fun r3 => some ((), (clock_Clock.set_fports h0 (fset h0.fports p (clock_side.set_fqualify (h0.fports p) r3.2.1.1)), ()))))) none fun r4 => some ((), ((r4.2.1, ()), ()))) else (bif ieq (h0.fports p).fstate 8 then (oelim ((bif !h0.fconf.fPeer then (oelim (cK109 1 (h0.fports p).fask) none fun r5 => some ((p, ()), (clock_Clock.set_fports h0 (fset h0.fports p (clock_side.set_fask (h0.fports p) r5.2.1.1)), ()))) else some ((p, ()), (h0, ())))) none fun r6 => (oelim (cK23 r6.2.1) none fun r7 => (oelim (cK109 r7.1.1 (r6.2.1.fports r6.1.1).freceipt) none fun r8 => some ((), ((clock_Clock.set_fports r6.2.1 (fset r6.2.1.fports r6.1.1 (clock_side.set_freceipt (r6.2.1.fports r6.1.1) r8.2.1.1)), ()), ()))))) else (oelim ((bif ieq (h0.fports p).fstate 7 then some ((p, (ieq (h0.fports p).fstate 7, ())), (h0, ())) else some ((p, (ieq (h0.fports p).fstate 4, ())), (h0, ())))) none fun r9 => (bif r9.1.2.1 then (oelim (cK23 r9.2.1) none fun r10 => (oelim (cK109 r10.1.1 (r9.2.1.fports r9.1.1).freceipt) none fun r11 => some ((), ((clock_Clock.set_fports r9.2.1 (fset r9.2.1.fports r9.1.1 (clock_side.set_freceipt (r9.2.1.fports r9.1.1) r11.2.1.1)), ()), ())))) else some ((), ((r9.2.1, ()), ())))))))
noncomputable def K13 : K13.T := K13.gen K17 K12 K109 K23
theorem K13.eq (cK17 : K17.T) (cK12 : K12.T) (cK109 : K109.T) (cK23 : K23.T) : EqA K13.sig (K13.H cK17 cK12 cK109 cK23) Tryz.f138 6 (K13.W (K13.gen cK17 cK12 cK109 cK23)) := by intro a x; kernel_rfl
noncomputable abbrev K13.h := K13.H K17 K12 K109 K23
theorem K13.hints : HintsOK U Tryz.prog K13.h (fun c => c ∈ ([] : List Code)) := (hq (addΓ_ok (addΓ_ok (addΓ_ok (addΓ_ok noΓ_ok K17.ok) K12.ok) K109.ok) K23.ok) loops_nil (fun _ => rfl) (fun _ => rfl))
theorem K13.ok : NativeOK U Tryz.prog 138 (K13.sig.native (K13.W K13)) :=
 Sig.ok K13.sig (K13.W K13) U_pure (Hn := K13.h) (gos := 6) K13.hints Tryz.func138 rfl (by kernel_rfl) (fun b h => h) rfl rfl (by decide) (K13.eq K17 K12 K109 K23) (by decide)
noncomputable def K77.sig : Sig U := ⟨[.ptr], [.obj .t_median_Filter], 0, [], true, []⟩
abbrev K77.T : Type := (median_Filter) → Option (Unit × (median_Filter × Unit) × Unit)
noncomputable def K77.W (f : K77.T) : K77.sig.F := fun a x => f x.1
noncomputable def K77.H : Hints U := { Γ := noΓ, ro := 0, base := 14 }
noncomputable def K77.gen : K77.T := fun h0 =>
 some ((), ((median_Filter.set_fn h0 0, ()), ()))
noncomputable def K77 : K77.T := K77.gen
theorem K77.eq : EqA K77.sig (K77.H) Tryz.f139 6 (K77.W (K77.gen)) := by intro a x; kernel_rfl
theorem K77.hints : HintsOK U Tryz.prog (K77.H) (fun c => c ∈ ([] : List Code)) := (hq noΓ_ok loops_nil (fun _ => rfl) (fun _ => rfl))
theorem K77.ok : NativeOK U Tryz.prog 139 (K77.sig.native (K77.W K77)) :=
 Sig.ok K77.sig (K77.W (K77.gen)) U_pure (Hn := (K77.H)) (gos := 6) K77.hints Tryz.func139 rfl (by kernel_rfl) (fun b h => h) rfl rfl (by decide) (K77.eq) (by decide)
noncomputable def K16.sig : Sig U := ⟨[.ptr], [.obj .t_clock_Clock, fm6_, fm7_, fm9_, fm10_], 0, [], true, []⟩
abbrev K16.T : Type := (clock_Clock) → (Fm foreign_Table) → (Fm delay_Exchange) → (Fm median_Filter) → (Fm seq_Match) → Option (Unit × (clock_Clock × (Fm foreign_Table) × (Fm delay_Exchange) × (Fm median_Filter) × (Fm seq_Match) × Unit) × Unit)
noncomputable def K16.W (f : K16.T) : K16.sig.F := fun a x => f x.1 x.2.1 x.2.2.1 x.2.2.2.1 x.2.2.2.2.1
noncomputable def K16.L0 : Shape U := ⟨200, 17, [(0, .ptr 13 0 0), (2, .ptr 14 0 0), (3, .ptr 15 0 0), (4, .ptr 16 0 0), (5, .asl 13 23 42 8), (30, vi_), (31, vi_)], [(13, .obj .t_clock_Clock), (14, .famZ .t_foreign_Record), (15, .famN true .p_t_api_Vector), (16, .famN true .bool), (6, .famN false .t_foreign_Table), (7, .famN false .t_delay_Exchange), (9, .famN false .t_median_Filter), (10, .famN false .t_seq_Match)]⟩
noncomputable def K16.X0 : Exits U := [(.exit 0, ⟨200, 17, [(0, .ptr 13 0 0), (2, .ptr 14 0 0), (3, .ptr 15 0 0), (4, .ptr 16 0 0), (5, .asl 13 23 42 8)], [(13, .obj .t_clock_Clock), (14, .famZ .t_foreign_Record), (15, .famN true .p_t_api_Vector), (16, .famN true .bool), (6, .famN false .t_foreign_Table), (7, .famN false .t_delay_Exchange), (9, .famN false .t_median_Filter), (10, .famN false .t_seq_Match)]⟩)]
abbrev K16.l0T : Type := (((Nat × Nat) × Int × Int × Unit) × (clock_Clock × (Nat × Nat × (Nat → foreign_Record)) × (Nat × (Nat → Option (api_Vector))) × (Fm Bool) × (Fm foreign_Table) × (Fm delay_Exchange) × (Fm median_Filter) × (Fm seq_Match) × Unit)) → Option ((((Nat × Nat) × Unit) × (clock_Clock × (Nat × Nat × (Nat → foreign_Record)) × (Nat × (Nat → Option (api_Vector))) × (Fm Bool) × (Fm foreign_Table) × (Fm delay_Exchange) × (Fm median_Filter) × (Fm seq_Match) × Unit)))
noncomputable def K16.L1 : Shape U := ⟨200, 16, [(0, .ptr 13 0 0), (2, .ptr 14 0 0), (5, .asl 13 23 42 8), (10, .val (.isl .int)), (12, .ptr 15 0 0), (92, .val (.isl .int)), (93, vi_), (94, vi_)], [(13, .obj .t_clock_Clock), (14, .famZ .t_foreign_Record), (15, .obj .t_api_Parent), (6, .famN false .t_foreign_Table), (7, .famN false .t_delay_Exchange), (9, .famN false .t_median_Filter), (10, .famN false .t_seq_Match)]⟩
noncomputable def K16.X1 : Exits U := [(.exit 2, ⟨200, 15, [(0, .ptr 13 0 0), (5, .asl 13 23 42 8), (10, .val (.isl .int)), (12, .ptr 14 0 0)], [(13, .obj .t_clock_Clock), (14, .obj .t_api_Parent), (6, .famN false .t_foreign_Table), (7, .famN false .t_delay_Exchange), (9, .famN false .t_median_Filter), (10, .famN false .t_seq_Match)]⟩)]
abbrev K16.l1T : Type := (((Nat × Nat) × (List (Int)) × (List (Int)) × Int × Int × Unit) × (clock_Clock × (Nat × Nat × (Nat → foreign_Record)) × api_Parent × (Fm foreign_Table) × (Fm delay_Exchange) × (Fm median_Filter) × (Fm seq_Match) × Unit)) → Option ((((Nat × Nat) × (List (Int)) × Unit) × (clock_Clock × api_Parent × (Fm foreign_Table) × (Fm delay_Exchange) × (Fm median_Filter) × (Fm seq_Match) × Unit)))
noncomputable def K16.L2 : Shape U := ⟨200, 15, [(0, .ptr 13 0 0), (5, .asl 13 23 42 8), (12, .ptr 14 0 0), (15, vb_), (119, .val (.isl .int)), (120, vi_), (121, vi_)], [(13, .obj .t_clock_Clock), (14, .obj .t_api_Parent), (6, .famN false .t_foreign_Table), (7, .famN false .t_delay_Exchange), (9, .famN false .t_median_Filter), (10, .famN false .t_seq_Match)]⟩
noncomputable def K16.X2 : Exits U := [(.exit 4, ⟨200, 15, [(0, .ptr 13 0 0), (12, .ptr 14 0 0), (15, vb_)], [(13, .obj .t_clock_Clock), (14, .obj .t_api_Parent), (6, .famN false .t_foreign_Table), (7, .famN false .t_delay_Exchange), (9, .famN false .t_median_Filter), (10, .famN false .t_seq_Match)]⟩)]
abbrev K16.l2T : Type := (((Nat × Nat) × Bool × (List (Int)) × Int × Int × Unit) × (clock_Clock × api_Parent × (Fm foreign_Table) × (Fm delay_Exchange) × (Fm median_Filter) × (Fm seq_Match) × Unit)) → Option (((Bool × Unit) × (clock_Clock × api_Parent × (Fm foreign_Table) × (Fm delay_Exchange) × (Fm median_Filter) × (Fm seq_Match) × Unit)))
noncomputable def K16.C : Code := match Tryz.f71.body with | some c => c | none => .skip
noncomputable def K16.B0 : Code := match (loopsOf K16.C).getD 0 .skip with | .loop b => b | .scope b => b | _ => .skip
noncomputable def K16.B1 : Code := match (loopsOf K16.C).getD 1 .skip with | .loop b => b | .scope b => b | _ => .skip
noncomputable def K16.B2 : Code := match (loopsOf K16.C).getD 2 .skip with | .loop b => b | .scope b => b | _ => .skip
noncomputable def K16.JR35 : Exits U := [(.normal, ⟨200, 15, [(0, .ptr 13 0 0), (12, .ptr 14 0 0)], [(13, .obj .t_clock_Clock), (14, .obj .t_api_Parent), (6, .famN false .t_foreign_Table), (7, .famN false .t_delay_Exchange), (9, .famN false .t_median_Filter), (10, .famN false .t_seq_Match)]⟩)]
noncomputable def K16.JR31 : Exits U := [(.normal, ⟨200, 15, [(0, .ptr 13 0 0), (5, .asl 13 23 42 8), (12, .ptr 14 0 0), (15, vb_), (18, .aptr 13 23 42 8 0), (119, .val (.isl .int)), (120, vi_), (121, vi_)], [(13, .obj .t_clock_Clock), (14, .obj .t_api_Parent), (6, .famN false .t_foreign_Table), (7, .famN false .t_delay_Exchange), (9, .famN false .t_median_Filter), (10, .famN false .t_seq_Match)]⟩)]
noncomputable def K16.JR29 : Exits U := [(.normal, ⟨200, 15, [(0, .ptr 13 0 0), (5, .asl 13 23 42 8), (12, .ptr 14 0 0), (15, vb_), (17, vi_), (18, .aptr 13 23 42 8 0), (19, vi_), (119, .val (.isl .int)), (120, vi_), (121, vi_)], [(13, .obj .t_clock_Clock), (14, .obj .t_api_Parent), (6, .famN false .t_foreign_Table), (7, .famN false .t_delay_Exchange), (9, .famN false .t_median_Filter), (10, .famN false .t_seq_Match)]⟩)]
noncomputable def K16.JR15 : Exits U := [(.normal, ⟨200, 16, [(0, .ptr 13 0 0), (2, .ptr 14 0 0), (5, .asl 13 23 42 8), (10, .val (.isl .int)), (12, .ptr 15 0 0)], [(13, .obj .t_clock_Clock), (14, .famZ .t_foreign_Record), (15, .obj .t_api_Parent), (6, .famN false .t_foreign_Table), (7, .famN false .t_delay_Exchange), (9, .famN false .t_median_Filter), (10, .famN false .t_seq_Match)]⟩)]
noncomputable def K16.JR10 : Exits U := [(.normal, ⟨200, 17, [(0, .ptr 13 0 0), (2, .ptr 14 0 0), (3, .ptr 15 0 0), (4, .ptr 16 0 0), (5, .asl 13 23 42 8), (6, vi_), (9, vb_), (30, vi_), (31, vi_)], [(13, .obj .t_clock_Clock), (14, .famZ .t_foreign_Record), (15, .famN true .p_t_api_Vector), (16, .famN true .bool), (6, .famN false .t_foreign_Table), (7, .famN false .t_delay_Exchange), (9, .famN false .t_median_Filter), (10, .famN false .t_seq_Match)]⟩)]
noncomputable def K16.JR9 : Exits U := [(.normal, ⟨200, 18, [(0, .ptr 13 0 0), (2, .ptr 14 0 0), (3, .ptr 15 0 0), (4, .ptr 16 0 0), (5, .asl 13 23 42 8), (6, vi_), (7, .aptr 13 23 42 8 0), (8, .ptr 17 0 0), (9, vb_), (30, vi_), (31, vi_)], [(13, .obj .t_clock_Clock), (14, .famZ .t_foreign_Record), (15, .famN true .p_t_api_Vector), (16, .famN true .bool), (17, .obj .t_foreign_Record), (6, .famN false .t_foreign_Table), (7, .famN false .t_delay_Exchange), (9, .famN false .t_median_Filter), (10, .famN false .t_seq_Match)]⟩)]
noncomputable def K16.JC35 : Exits U := [(.normal, ⟨200, 15, [(0, .ptr 13 0 0), (12, .ptr 14 0 0)], [(13, .obj .t_clock_Clock), (14, .obj .t_api_Parent), (6, .famN false .t_foreign_Table), (7, .famN false .t_delay_Exchange), (9, .famN false .t_median_Filter), (10, .famN false .t_seq_Match)]⟩)]
noncomputable def K16.JC31 : Exits U := [(.normal, ⟨200, 15, [(0, .ptr 13 0 0), (5, .asl 13 23 42 8), (12, .ptr 14 0 0), (15, vb_), (119, .val (.isl .int)), (120, vi_), (121, vi_)], [(13, .obj .t_clock_Clock), (14, .obj .t_api_Parent), (6, .famN false .t_foreign_Table), (7, .famN false .t_delay_Exchange), (9, .famN false .t_median_Filter), (10, .famN false .t_seq_Match)]⟩)]
noncomputable def K16.JC20 : Exits U := [(.normal, ⟨200, 16, [(0, .ptr 13 0 0), (2, .ptr 14 0 0), (5, .asl 13 23 42 8), (10, .val (.isl .int)), (12, .ptr 15 0 0), (92, .val (.isl .int)), (93, vi_), (94, vi_)], [(13, .obj .t_clock_Clock), (14, .famZ .t_foreign_Record), (15, .obj .t_api_Parent), (6, .famN false .t_foreign_Table), (7, .famN false .t_delay_Exchange), (9, .famN false .t_median_Filter), (10, .famN false .t_seq_Match)]⟩)]
noncomputable def K16.JC12 : Exits U := [(.normal, ⟨200, 17, [(0, .ptr 13 0 0), (2, .ptr 14 0 0), (3, .ptr 15 0 0), (4, .ptr 16 0 0), (5, .asl 13 23 42 8), (30, vi_), (31, vi_)], [(13, .obj .t_clock_Clock), (14, .famZ .t_foreign_Record), (15, .famN true .p_t_api_Vector), (16, .famN true .bool), (6, .famN false .t_foreign_Table), (7, .famN false .t_delay_Exchange), (9, .famN false .t_median_Filter), (10, .famN false .t_seq_Match)]⟩)]
noncomputable def K16.H (cK89 : K89.T) (cK53 : K53.T) (cK41 : K41.T) (cK45 : K45.T) (cK120 : K120.T) (cK90 : K90.T) (cK31 : K31.T) (cK13 : K13.T) (cK77 : K77.T) (l0 : K16.l0T) (l1 : K16.l1T) (l2 : K16.l2T) : Hints U := { Γ := (addΓ 139 (K77.sig.native (K77.W cK77)) (addΓ 138 (K13.sig.native (K13.W cK13)) (addΓ 97 (K31.sig.native (K31.W cK31)) (addΓ 137 (K90.sig.native (K90.W cK90)) (addΓ 88 (K120.sig.native (K120.W cK120)) (addΓ 134 (K45.sig.native (K45.W cK45)) (addΓ 135 (K41.sig.native (K41.W cK41)) (addΓ 133 (K53.sig.native (K53.W cK53)) (addΓ 74 (K89.sig.native (K89.W cK89)) (addΓ 3000000228 noNat (addΓ 3000000227 noNat (addΓ 4000000213 noNat noΓ)))))))))))), ro := 0, base := 14, joinQ := fun b => (bif Nat.beq b 30 then some [(171, vb_)] else none), joinR := fun b => (bif Nat.beq b 9 then some K16.JR9 else (bif Nat.beq b 10 then some K16.JR10 else (bif Nat.beq b 15 then some K16.JR15 else (bif Nat.beq b 29 then some K16.JR29 else (bif Nat.beq b 31 then some K16.JR31 else (bif Nat.beq b 35 then some K16.JR35 else none)))))), joinC := fun b => (bif Nat.beq b 12 then some K16.JC12 else (bif Nat.beq b 20 then some K16.JC20 else (bif Nat.beq b 31 then some K16.JC31 else (bif Nat.beq b 35 then some K16.JC35 else none)))), loop := fun b => (bif Nat.beq b 5 then some (loopN (0, 14) K16.L0 K16.X0 l0) else (bif Nat.beq b 17 then some (loopN (0, 14) K16.L1 K16.X1 l1) else (bif Nat.beq b 24 then some (loopN (0, 14) K16.L2 K16.X2 l2) else none))) }
noncomputable def K16.step2 (cK89 : K89.T) (cK53 : K53.T) (cK41 : K41.T) (cK45 : K45.T) (cK120 : K120.T) (cK90 : K90.T) (cK31 : K31.T) (cK13 : K13.T) (cK77 : K77.T) (a : ((Nat × Nat) × Bool × (List (Int)) × Int × Int × Unit) × (clock_Clock × api_Parent × (Fm foreign_Table) × (Fm delay_Exchange) × (Fm median_Filter) × (Fm seq_Match) × Unit)) : Option ((((Nat × Nat) × Bool × (List (Int)) × Int × Int × Unit) × (clock_Clock × api_Parent × (Fm foreign_Table) × (Fm delay_Exchange) × (Fm median_Filter) × (Fm seq_Match) × Unit)) ⊕ (((Bool × Unit) × (clock_Clock × api_Parent × (Fm foreign_Table) × (Fm delay_Exchange) × (Fm median_Filter) × (Fm seq_Match) × Unit)))) :=
 (bif ilt a.1.2.2.2.2.1 a.1.2.2.2.1 then (bif inR a.1.2.2.2.2.1 (List.length a.1.2.2.1) then (bif inR a.1.2.2.2.2.1 a.1.1.2 then (oelim (cK89 (a.2.1.fports (a.1.1.1 + Int.toNat a.1.2.2.2.2.1)).fstate) none fun r0 => (bif !r0.1.1 then some (.inl ((a.1.1, (a.1.2.1, (a.1.2.2.1, (a.1.2.2.2.1, (iadd .i64 a.1.2.2.2.2.1 1, ()))))), (a.2.1, (a.2.2.1, (a.2.2.2.1, (a.2.2.2.2.1, (a.2.2.2.2.2.1, (a.2.2.2.2.2.2.1, ())))))))) else (oelim ((oelim (cK90 (a.2.1.fports (a.1.1.1 + Int.toNat a.1.2.2.2.2.1)).fstate (List.getD a.1.2.2.1 (Int.toNat a.1.2.2.2.2.1) (0 : D UC.int)) a.1.2.1 a.2.1.fconf.fSlaveOnly) none fun r1 => some ((a.1.1, (a.1.2.1, (List.getD a.1.2.2.1 (Int.toNat a.1.2.2.2.2.1) (0 : D UC.int), (a.1.1.1 + Int.toNat a.1.2.2.2.2.1, ((a.2.1.fports (a.1.1.1 + Int.toNat a.1.2.2.2.2.1)).fstate, (a.1.2.2.1, (a.1.2.2.2.1, (a.1.2.2.2.2.1, ())))))))), (clock_Clock.set_fports a.2.1 (fset a.2.1.fports (a.1.1.1 + Int.toNat a.1.2.2.2.2.1) (clock_side.set_fstate (a.2.1.fports (a.1.1.1 + Int.toNat a.1.2.2.2.2.1)) r1.1.1)), (a.2.2.1, (a.2.2.2.1, (a.2.2.2.2.1, (a.2.2.2.2.2.1, (a.2.2.2.2.2.2.1, ()))))))))) none fun r2 => (oelim ((bif ine (r2.2.1.fports r2.1.2.2.2.1).fstate r2.1.2.2.2.2.1 then some (true, ()) else (bif ieq (r2.2.1.fports r2.1.2.2.2.1).fstate 8 then (bif ieq r2.1.2.2.1 6 then some (!r2.1.2.1, ()) else some (false, ())) else some (false, ())))) none fun r3 => (oelim ((bif r3.1 then (oelim ((oelim (cK31 (!r2.2.1.fconf.fPeer) (r2.2.1.fports r2.1.2.2.2.1) r2.2.2.2.2.1 r2.2.2.2.2.2.2.1) none fun r4 => some ((r2.1.1, (r2.1.2.1, (r2.1.2.2.2.1, (r2.1.2.2.2.2.2.1, (r2.1.2.2.2.2.2.2.1, (r2.1.2.2.2.2.2.2.2.1, ())))))), (clock_Clock.set_fports r2.2.1 (fset r2.2.1.fports r2.1.2.2.2.1 r4.2.1.1), (r2.2.2.1, (r2.2.2.2.1, (r4.2.1.2.1, (r2.2.2.2.2.2.1, (r4.2.1.2.2.1, ()))))))))) none fun r5 => (oelim (cK13 r5.1.2.2.1 r5.2.2.1 r5.2.1) none fun r6 => some ((r5.1.1, (r5.1.2.1, (r5.1.2.2.2.1, (r5.1.2.2.2.2.1, (r5.1.2.2.2.2.2.1, ()))))), (r6.2.1.1, (r5.2.2.1, (r5.2.2.2.1, (r5.2.2.2.2.1, (r5.2.2.2.2.2.1, (r5.2.2.2.2.2.2.1, ()))))))))) else some ((r2.1.1, (r2.1.2.1, (r2.1.2.2.2.2.2.1, (r2.1.2.2.2.2.2.2.1, (r2.1.2.2.2.2.2.2.2.1, ()))))), (r2.2.1, (r2.2.2.1, (r2.2.2.2.1, (r2.2.2.2.2.1, (r2.2.2.2.2.2.1, (r2.2.2.2.2.2.2.1, ()))))))))) none fun r7 => some (.inl ((r7.1.1, (r7.1.2.1, (r7.1.2.2.1, (r7.1.2.2.2.1, (iadd .i64 r7.1.2.2.2.2.1 1, ()))))), (r7.2.1, (r7.2.2.1, (r7.2.2.2.1, (r7.2.2.2.2.1, (r7.2.2.2.2.2.1, (r7.2.2.2.2.2.2.1, ()))))))))))))) else none) else none) else some (.inr ((a.1.2.1, ()), (a.2.1, (a.2.2.1, (a.2.2.2.1, (a.2.2.2.2.1, (a.2.2.2.2.2.1, (a.2.2.2.2.2.2.1, ())))))))))
noncomputable def K16.F2 : K16.l2T := fun a => loopFix (1000000 + (a.1.1.2 + a.1.2.2.1.length)) (K16.step2 K89 K53 K41 K45 K120 K90 K31 K13 K77) a
noncomputable def K16.step1 (cK89 : K89.T) (cK53 : K53.T) (cK41 : K41.T) (cK45 : K45.T) (cK120 : K120.T) (cK90 : K90.T) (cK31 : K31.T) (cK13 : K13.T) (cK77 : K77.T) (a : ((Nat × Nat) × (List (Int)) × (List (Int)) × Int × Int × Unit) × (clock_Clock × (Nat × Nat × (Nat → foreign_Record)) × api_Parent × (Fm foreign_Table) × (Fm delay_Exchange) × (Fm median_Filter) × (Fm seq_Match) × Unit)) : Option ((((Nat × Nat) × (List (Int)) × (List (Int)) × Int × Int × Unit) × (clock_Clock × (Nat × Nat × (Nat → foreign_Record)) × api_Parent × (Fm foreign_Table) × (Fm delay_Exchange) × (Fm median_Filter) × (Fm seq_Match) × Unit)) ⊕ ((((Nat × Nat) × (List (Int)) × Unit) × (clock_Clock × api_Parent × (Fm foreign_Table) × (Fm delay_Exchange) × (Fm median_Filter) × (Fm seq_Match) × Unit)))) :=
 (bif ilt a.1.2.2.2.2.1 a.1.2.2.2.1 then (bif inR a.1.2.2.2.2.1 (List.length a.1.2.2.1) then (oelim ((bif ieq (List.getD a.1.2.2.1 (Int.toNat a.1.2.2.2.2.1) (0 : D UC.int)) 6 then (bif bif inR a.1.2.2.2.2.1 8 then inR a.1.2.2.2.2.1 a.2.2.1.1 else false then (bif bif inR a.1.2.2.2.2.1 8 then inR a.1.2.2.2.2.1 a.2.2.1.1 else false then none else none) else none) else some ((a.1.1, (a.1.2.1, (a.1.2.2.1, (a.1.2.2.2.1, (a.1.2.2.2.2.1, ()))))), (a.2.1, (a.2.2.1, (a.2.2.2.1, (a.2.2.2.2.1, (a.2.2.2.2.2.1, (a.2.2.2.2.2.2.1, (a.2.2.2.2.2.2.2.1, ())))))))))) none fun r0 => some (.inl ((r0.1.1, (r0.1.2.1, (r0.1.2.2.1, (r0.1.2.2.2.1, (iadd .i64 r0.1.2.2.2.2.1 1, ()))))), (r0.2.1, (r0.2.2.1, (r0.2.2.2.1, (r0.2.2.2.2.1, (r0.2.2.2.2.2.1, (r0.2.2.2.2.2.2.1, (r0.2.2.2.2.2.2.2.1, ())))))))))) else none) else some (.inr ((a.1.1, (a.1.2.1, ())), (a.2.1, (a.2.2.2.1, (a.2.2.2.2.1, (a.2.2.2.2.2.1, (a.2.2.2.2.2.2.1, (a.2.2.2.2.2.2.2.1, ())))))))))
noncomputable def K16.F1 : K16.l1T := fun a => loopFix (1000000 + (a.1.1.2 + a.1.2.1.length + a.1.2.2.1.length)) (K16.step1 K89 K53 K41 K45 K120 K90 K31 K13 K77) a
noncomputable def K16.step0 (cK89 : K89.T) (cK53 : K53.T) (cK41 : K41.T) (cK45 : K45.T) (cK120 : K120.T) (cK90 : K90.T) (cK31 : K31.T) (cK13 : K13.T) (cK77 : K77.T) (a : ((Nat × Nat) × Int × Int × Unit) × (clock_Clock × (Nat × Nat × (Nat → foreign_Record)) × (Nat × (Nat → Option (api_Vector))) × (Fm Bool) × (Fm foreign_Table) × (Fm delay_Exchange) × (Fm median_Filter) × (Fm seq_Match) × Unit)) : Option ((((Nat × Nat) × Int × Int × Unit) × (clock_Clock × (Nat × Nat × (Nat → foreign_Record)) × (Nat × (Nat → Option (api_Vector))) × (Fm Bool) × (Fm foreign_Table) × (Fm delay_Exchange) × (Fm median_Filter) × (Fm seq_Match) × Unit)) ⊕ ((((Nat × Nat) × Unit) × (clock_Clock × (Nat × Nat × (Nat → foreign_Record)) × (Nat × (Nat → Option (api_Vector))) × (Fm Bool) × (Fm foreign_Table) × (Fm delay_Exchange) × (Fm median_Filter) × (Fm seq_Match) × Unit)))) :=
 (bif ilt a.1.2.2.1 a.1.2.1 then (bif inR a.1.2.2.1 a.1.1.2 then (oelim (cK89 (a.2.1.fports (a.1.1.1 + Int.toNat a.1.2.2.1)).fstate) none fun r0 => (bif !r0.1.1 then some (.inl ((a.1.1, (a.1.2.1, (iadd .i64 a.1.2.2.1 1, ()))), (a.2.1, (a.2.2.1, (a.2.2.2.1, (a.2.2.2.2.1, (a.2.2.2.2.2.1, (a.2.2.2.2.2.2.1, (a.2.2.2.2.2.2.2.1, (a.2.2.2.2.2.2.2.2.1, ())))))))))) else (oelim ((oelim ((a.2.1.fports (a.1.1.1 + Int.toNat a.1.2.2.1)).2) none fun r1 => (oelim (cK53 a.2.1.fticks (a.2.2.2.2.2.1.2 r1)) none fun r2 => some ((a.1.1, (a.1.2.2.1, (a.1.1.1 + Int.toNat a.1.2.2.1, (r2.1.2.1, (a.1.2.1, (a.1.2.2.1, ())))))), (a.2.1, (a.2.2.1, (a.2.2.2.1, (a.2.2.2.2.1, (r2.1.1, (a.2.2.2.2.2.1, (a.2.2.2.2.2.2.1, (a.2.2.2.2.2.2.2.1, (a.2.2.2.2.2.2.2.2.1, ()))))))))))))) none fun r3 => (oelim ((bif bif inR r3.1.2.1 8 then inR r3.1.2.1 r3.2.2.1.1 else false then (bif Nat.ble r3.2.2.1.2.1 (Int.toNat r3.1.2.1) then (bif bif inR r3.1.2.1 8 then inR r3.1.2.1 r3.2.2.2.2.1.1 else false then some ((r3.1.1, (r3.1.2.1, (r3.1.2.2.2.1, (r3.1.2.2.2.2.1, (r3.1.2.2.2.2.2.1, ()))))), (r3.2.1, ((r3.2.2.1.1, (r3.2.2.1.2.1, fset r3.2.2.1.2.2 (Int.toNat r3.1.2.1) r3.2.2.2.2.2.1)), (r3.2.2.2.1, ((r3.2.2.2.2.1.1, fset r3.2.2.2.2.1.2 (Int.toNat r3.1.2.1) (ieq (r3.2.1.fports r3.1.2.2.1).fstate 4)), (r3.2.2.2.2.2.2.1, (r3.2.2.2.2.2.2.2.1, (r3.2.2.2.2.2.2.2.2.1, (r3.2.2.2.2.2.2.2.2.2.1, ()))))))))) else none) else none) else none)) none fun r4 => (oelim ((bif r4.1.2.2.1 then (bif bif inR r4.1.2.1 8 then inR r4.1.2.1 r4.2.2.1.1 else false then (bif bif inR r4.1.2.1 8 then inR r4.1.2.1 r4.2.2.2.1.1 else false then some ((r4.1.1, (r4.1.2.2.2.1, (r4.1.2.2.2.2.1, ()))), (r4.2.1, ((r4.2.2.1.1, (Nat.max r4.2.2.1.2.1 (Int.toNat r4.1.2.1 + 1), r4.2.2.1.2.2)), ((r4.2.2.2.1.1, fset r4.2.2.2.1.2 (Int.toNat r4.1.2.1) (some (r4.2.2.1.2.2 (Int.toNat r4.1.2.1)).fVector)), (r4.2.2.2.2.1, (r4.2.2.2.2.2.1, (r4.2.2.2.2.2.2.1, (r4.2.2.2.2.2.2.2.1, (r4.2.2.2.2.2.2.2.2.1, ()))))))))) else none) else none) else some ((r4.1.1, (r4.1.2.2.2.1, (r4.1.2.2.2.2.1, ()))), (r4.2.1, (r4.2.2.1, (r4.2.2.2.1, (r4.2.2.2.2.1, (r4.2.2.2.2.2.1, (r4.2.2.2.2.2.2.1, (r4.2.2.2.2.2.2.2.1, (r4.2.2.2.2.2.2.2.2.1, ()))))))))))) none fun r5 => some (.inl ((r5.1.1, (r5.1.2.1, (iadd .i64 r5.1.2.2.1 1, ()))), (r5.2.1, (r5.2.2.1, (r5.2.2.2.1, (r5.2.2.2.2.1, (r5.2.2.2.2.2.1, (r5.2.2.2.2.2.2.1, (r5.2.2.2.2.2.2.2.1, (r5.2.2.2.2.2.2.2.2.1, ()))))))))))))))) else none) else some (.inr ((a.1.1, ()), (a.2.1, (a.2.2.1, (a.2.2.2.1, (a.2.2.2.2.1, (a.2.2.2.2.2.1, (a.2.2.2.2.2.2.1, (a.2.2.2.2.2.2.2.1, (a.2.2.2.2.2.2.2.2.1, ())))))))))))
noncomputable def K16.F0 : K16.l0T := fun a => loopFix (1000000 + (a.1.1.2)) (K16.step0 K89 K53 K41 K45 K120 K90 K31 K13 K77) a
noncomputable def K16.gen (cK89 : K89.T) (cK53 : K53.T) (cK41 : K41.T) (cK45 : K45.T) (cK120 : K120.T) (cK90 : K90.T) (cK31 : K31.T) (cK13 : K13.T) (cK77 : K77.T) (l0 : K16.l0T) (l1 : K16.l1T) (l2 : K16.l2T) : K16.T := fun h0 g6 g7 g9 g10 =>
 (bif le3 (ofN 0) h0.fconf.fPorts 8 then (oelim (l0 (((Int.toNat (ofN 0), Int.toNat h0.fconf.fPorts - Int.toNat (ofN 0)), ofN (Int.toNat h0.fconf.fPorts - Int.toNat (ofN 0)), (0 : Int), ()), h0, (8, 0, fun (j : Nat) => List.getD (foreign_Record.mk z5_ z6_ 0 0 0 :: foreign_Record.mk z5_ z6_ 0 0 0 :: foreign_Record.mk z5_ z6_ 0 0 0 :: foreign_Record.mk z5_ z6_ 0 0 0 :: foreign_Record.mk z5_ z6_ 0 0 0 :: foreign_Record.mk z5_ z6_ 0 0 0 :: foreign_Record.mk z5_ z6_ 0 0 0 :: foreign_Record.mk z5_ z6_ 0 0 0 :: lnil foreign_Record) j foreign_Record.zero), (8, fun (j : Nat) => List.getD (none :: none :: none :: none :: none :: none :: none :: none :: lnil (Option api_Vector)) j none), (8, fun (j : Nat) => List.getD (false :: false :: false :: false :: false :: false :: false :: false :: lnil Bool) j false), g6, g7, g9, g10, ())) none fun r0 => (oelim (cK41 r0.2.1.fconf) none fun r1 => (bif bif le3 0 (ofN r0.1.1.2) 8 then le3 0 (ofN r0.1.1.2) r0.2.2.2.2.1.1 else false then (bif bif le3 0 (ofN r0.1.1.2) 8 then le3 0 (ofN r0.1.1.2) r0.2.2.2.1.1 else false then (oelim (cK45 r1.1.1 (List.map r0.2.2.2.2.1.2 (List.range (Int.toNat (ofN r0.1.1.2)))) (List.map r0.2.2.2.1.2 (List.range (Int.toNat (ofN r0.1.1.2))))) none fun r2 => (oelim ((oelim (cK120 r0.2.1.fconf) none fun r3 => some ((r0.1.1, (r2.1.1, ())), (r0.2.1, (r0.2.2.1, (r3.1.1, (r0.2.2.2.2.2.1, (r0.2.2.2.2.2.2.1, (r0.2.2.2.2.2.2.2.1, (r0.2.2.2.2.2.2.2.2.1, ())))))))))) none fun r4 => (oelim (l1 ((r4.1.1, r4.1.2.1, r4.1.2.1, ofN (List.length r4.1.2.1), (0 : Int), ()), r4.2)) none fun r5 => (oelim (l2 ((r5.1.1, bif ieq r5.2.2.1.fPort.fClock r5.2.1.fparent.fPort.fClock then bif ieq r5.2.2.1.fPort.fPort r5.2.1.fparent.fPort.fPort then true else false else false, r5.1.2.1, ofN (List.length r5.1.2.1), (0 : Int), ()), r5.2)) none fun r6 => (oelim ((bif !r6.1.1 then (oelim ((oelim (r6.2.1.6) none fun r7 => (oelim (cK77 (r6.2.2.2.2.2.1.2 r7)) none fun r8 => some ((), (r6.2.1, (r6.2.2.1, (r6.2.2.2.1, (r6.2.2.2.2.1, ((r6.2.2.2.2.2.1.1, fset r6.2.2.2.2.2.1.2 r7 r8.2.1.1), (r6.2.2.2.2.2.2.1, ())))))))))) none fun r9 => some ((), (clock_Clock.set_fdelay r9.2.1 z4_, (r9.2.2.1, (r9.2.2.2.1, (r9.2.2.2.2.1, (r9.2.2.2.2.2.1, (r9.2.2.2.2.2.2.1, ())))))))) else some ((), (r6.2.1, (r6.2.2.1, (r6.2.2.2.1, (r6.2.2.2.2.1, (r6.2.2.2.2.2.1, (r6.2.2.2.2.2.2.1, ()))))))))) none fun r10 => some ((), ((clock_Clock.set_fparent r10.2.1 r10.2.2.1, (r10.2.2.2.1, (r10.2.2.2.2.1, (r10.2.2.2.2.2.1, (r10.2.2.2.2.2.2.1, ()))))), ()))))))) else none) else none))) else none)
noncomputable def K16 : K16.T := K16.gen K89 K53 K41 K45 K120 K90 K31 K13 K77 K16.F0 K16.F1 K16.F2
theorem K16.seq2 (cK89 : K89.T) (cK53 : K53.T) (cK41 : K41.T) (cK45 : K45.T) (cK120 : K120.T) (cK90 : K90.T) (cK31 : K31.T) (cK13 : K13.T) (cK77 : K77.T) (l0 : K16.l0T) (l1 : K16.l1T) (l2 : K16.l2T) (a : K16.L2.T) : run Tryz.prog (K16.H cK89 cK53 cK41 cK45 cK120 cK90 cK31 cK13 cK77 l0 l1 l2) 6 (Option (K16.L2.T ⊕ ExT K16.X2)) none K16.B2 (K16.L2.enc a) (loopK (0, 14) K16.L2 K16.X2) = K16.step2 cK89 cK53 cK41 cK45 cK120 cK90 cK31 cK13 cK77 a := by kernel_rfl
theorem K16.inner2 : loopsOf K16.B2 = ([] : List Code) := by kernel_rfl
noncomputable abbrev K16.h := K16.H K89 K53 K41 K45 K120 K90 K31 K13 K77 K16.F0 K16.F1 K16.F2
theorem K16.lok2 : LoopOK U Tryz.prog K16.h.ro K16.h.base K16.B2 (loopN (0, 14) K16.L2 K16.X2 K16.F2) :=
 loopN_ok (Hn := K16.h) U_ok U_pure (run_ok (hq (addΓ_ok (addΓ_ok (addΓ_ok (addΓ_ok (addΓ_ok (addΓ_ok (addΓ_ok (addΓ_ok (addΓ_ok (addΓ_ok (addΓ_ok (addΓ_ok noΓ_ok noNat_ok) noNat_ok) noNat_ok) K89.ok) K53.ok) K41.ok) K45.ok) K120.ok) K90.ok) K31.ok) K13.ok) K77.ok) loops_nil (fun _ => rfl) (fun _ => rfl)) 6) (fun b h => by rw [K16.inner2] at h; exact h) (fun _ => rfl) (K16.seq2 K89 K53 K41 K45 K120 K90 K31 K13 K77 K16.F0 K16.F1 K16.F2)
theorem K16.seq1 (cK89 : K89.T) (cK53 : K53.T) (cK41 : K41.T) (cK45 : K45.T) (cK120 : K120.T) (cK90 : K90.T) (cK31 : K31.T) (cK13 : K13.T) (cK77 : K77.T) (l0 : K16.l0T) (l1 : K16.l1T) (l2 : K16.l2T) (a : K16.L1.T) : run Tryz.prog (K16.H cK89 cK53 cK41 cK45 cK120 cK90 cK31 cK13 cK77 l0 l1 l2) 6 (Option (K16.L1.T ⊕ ExT K16.X1)) none K16.B1 (K16.L1.enc a) (loopK (0, 14) K16.L1 K16.X1) = K16.step1 cK89 cK53 cK41 cK45 cK120 cK90 cK31 cK13 cK77 a := by kernel_rfl
theorem K16.inner1 : loopsOf K16.B1 = ([] : List Code) := by kernel_rfl
theorem K16.lok1 : LoopOK U Tryz.prog K16.h.ro K16.h.base K16.B1 (loopN (0, 14) K16.L1 K16.X1 K16.F1) :=
 loopN_ok (Hn := K16.h) U_ok U_pure (run_ok (hq (addΓ_ok (addΓ_ok (addΓ_ok (addΓ_ok (addΓ_ok (addΓ_ok (addΓ_ok (addΓ_ok (addΓ_ok (addΓ_ok (addΓ_ok (addΓ_ok noΓ_ok noNat_ok) noNat_ok) noNat_ok) K89.ok) K53.ok) K41.ok) K45.ok) K120.ok) K90.ok) K31.ok) K13.ok) K77.ok) loops_nil (fun _ => rfl) (fun _ => rfl)) 6) (fun b h => by rw [K16.inner1] at h; exact h) (fun _ => rfl) (K16.seq1 K89 K53 K41 K45 K120 K90 K31 K13 K77 K16.F0 K16.F1 K16.F2)
theorem K16.seq0 (cK89 : K89.T) (cK53 : K53.T) (cK41 : K41.T) (cK45 : K45.T) (cK120 : K120.T) (cK90 : K90.T) (cK31 : K31.T) (cK13 : K13.T) (cK77 : K77.T) (l0 : K16.l0T) (l1 : K16.l1T) (l2 : K16.l2T) (a : K16.L0.T) : run Tryz.prog (K16.H cK89 cK53 cK41 cK45 cK120 cK90 cK31 cK13 cK77 l0 l1 l2) 6 (Option (K16.L0.T ⊕ ExT K16.X0)) none K16.B0 (K16.L0.enc a) (loopK (0, 14) K16.L0 K16.X0) = K16.step0 cK89 cK53 cK41 cK45 cK120 cK90 cK31 cK13 cK77 a := by kernel_rfl
theorem K16.inner0 : loopsOf K16.B0 = ([] : List Code) := by kernel_rfl
theorem K16.lok0 : LoopOK U Tryz.prog K16.h.ro K16.h.base K16.B0 (loopN (0, 14) K16.L0 K16.X0 K16.F0) :=
 loopN_ok (Hn := K16.h) U_ok U_pure (run_ok (hq (addΓ_ok (addΓ_ok (addΓ_ok (addΓ_ok (addΓ_ok (addΓ_ok (addΓ_ok (addΓ_ok (addΓ_ok (addΓ_ok (addΓ_ok (addΓ_ok noΓ_ok noNat_ok) noNat_ok) noNat_ok) K89.ok) K53.ok) K41.ok) K45.ok) K120.ok) K90.ok) K31.ok) K13.ok) K77.ok) loops_nil (fun _ => rfl) (fun _ => rfl)) 6) (fun b h => by rw [K16.inner0] at h; exact h) (fun _ => rfl) (K16.seq0 K89 K53 K41 K45 K120 K90 K31 K13 K77 K16.F0 K16.F1 K16.F2)
theorem K16.eq (cK89 : K89.T) (cK53 : K53.T) (cK41 : K41.T) (cK45 : K45.T) (cK120 : K120.T) (cK90 : K90.T) (cK31 : K31.T) (cK13 : K13.T) (cK77 : K77.T) (l0 : K16.l0T) (l1 : K16.l1T) (l2 : K16.l2T) : EqA K16.sig (K16.H cK89 cK53 cK41 cK45 cK120 cK90 cK31 cK13 cK77 l0 l1 l2) Tryz.f71 6 (K16.W (K16.gen cK89 cK53 cK41 cK45 cK120 cK90 cK31 cK13 cK77 l0 l1 l2)) := by intro a x; kernel_rfl
theorem K16.loops : loopsOf K16.C = [(.loop K16.B0), (.loop K16.B1), (.loop K16.B2)] := by kernel_rfl
theorem K16.hints : HintsOK U Tryz.prog K16.h (fun c => c ∈ [(.loop K16.B0), (.loop K16.B1), (.loop K16.B2)]) := (hq (addΓ_ok (addΓ_ok (addΓ_ok (addΓ_ok (addΓ_ok (addΓ_ok (addΓ_ok (addΓ_ok (addΓ_ok (addΓ_ok (addΓ_ok (addΓ_ok noΓ_ok noNat_ok) noNat_ok) noNat_ok) K89.ok) K53.ok) K41.ok) K45.ok) K120.ok) K90.ok) K31.ok) K13.ok) K77.ok) (loops_cons (by kernel_rfl) K16.lok0 (loops_cons (by kernel_rfl) K16.lok1 (loops_cons (by kernel_rfl) K16.lok2 loops_nil))) (fun _ => rfl) (fun _ => rfl))
theorem K16.ok : NativeOK U Tryz.prog 71 (K16.sig.native (K16.W K16)) :=
 Sig.ok K16.sig (K16.W K16) U_pure (Hn := K16.h) (code := K16.C) (gos := 6) K16.hints Tryz.func71 (by kernel_rfl) (by kernel_rfl) (fun b h => by rw [K16.loops] at h; exact h) rfl rfl (by decide) (K16.eq K89 K53 K41 K45 K120 K90 K31 K13 K77 K16.F0 K16.F1 K16.F2) (by decide)
noncomputable def K121.sig : Sig U := ⟨[.data .t_api_Conf, .data .t_api_Parent, .int .i64, .int .i64], [], 0, [.data .t_api_Msg], false, []⟩
abbrev K121.T : Type := (api_Conf) → (api_Parent) → (Int) → (Int) → Option ((api_Msg × Unit) × Unit × Unit)
noncomputable def K121.W (f : K121.T) : K121.sig.F := fun a x => f a.1 a.2.1 a.2.2.1 a.2.2.2.1
noncomputable def K121.H : Hints U := { Γ := noΓ, ro := 0, base := 13 }
noncomputable def K121.gen : K121.T := fun c p port seq =>
 some ((api_Msg.mk 11 c.fDomain p.fTimes.fFlags 0 (api_PortID.mk c.fClock port) seq c.fLogAnn 0 z0_ p.fTimes.fUtc p.fPriority1 p.fQuality p.fPriority2 p.fGrand p.fSteps p.fTimes.fOrigin 0 0 0, ()), ((), ()))
noncomputable def K121 : K121.T := K121.gen
theorem K121.eq : EqA K121.sig (K121.H) Tryz.f140 6 (K121.W (K121.gen)) := by intro a x; kernel_rfl
theorem K121.hints : HintsOK U Tryz.prog (K121.H) (fun c => c ∈ ([] : List Code)) := (hq noΓ_ok loops_nil (fun _ => rfl) (fun _ => rfl))
theorem K121.ok : NativeOK U Tryz.prog 140 (K121.sig.native (K121.W K121)) :=
 Sig.ok K121.sig (K121.W (K121.gen)) U_pure (Hn := (K121.H)) (gos := 6) K121.hints Tryz.func140 rfl (by kernel_rfl) (fun b h => h) rfl rfl (by decide) (K121.eq) (by decide)
noncomputable def K81.sig : Sig U := ⟨[.isl .u8, .int .i64, .int .i64], [], 0, [.own .u8], false, [.tok]⟩
abbrev K81.T : Type := (List (UInt8)) → (Int) → (Int) → Option (((List (UInt8)) × Unit) × Unit × (Unit × Unit))
noncomputable def K81.W (f : K81.T) : K81.sig.F := fun a x => f a.1 a.2.1 a.2.2.1
noncomputable def K81.L0 : Shape U := ⟨30, 14, [(0, .own .u8 13), (1, vi_), (7, vi_)], [(13, .tok)]⟩
noncomputable def K81.X0 : Exits U := [(.ret, ⟨30, 14, [(6, .own .u8 13)], [(13, .tok)]⟩)]
abbrev K81.l0T : Type := (((List (UInt8)) × Int × Int × Unit) × Unit) → Option ((((List (UInt8)) × Unit) × Unit))
noncomputable def K81.C : Code := match Tryz.f100.body with | some c => c | none => .skip
noncomputable def K81.B0 : Code := match (loopsOf K81.C).getD 0 .skip with | .loop b => b | .scope b => b | _ => .skip
noncomputable def K81.R0 : Code := (findLabel K81.B0 0).getD .skip
noncomputable def K81.H (l0 : K81.l0T) : Hints U := { Γ := (addΓ 6000000029 noNat noΓ), ro := 0, base := 13, label := fun b => bif Nat.beq b 0 then some (loopN (0, 13) K81.L0 K81.X0 l0) else none, gotos := 3, loop := fun b => none }
noncomputable def K81.step0 (a : ((List (UInt8)) × Int × Int × Unit) × Unit) : Option ((((List (UInt8)) × Int × Int × Unit) × Unit) ⊕ ((((List (UInt8)) × Unit) × Unit))) :=
 (bif ilt 0 a.1.2.2.1 then (bif ile 0 (imul .i64 8 (isub .i64 a.1.2.2.1 1)) then (bif room (List.length a.1.1 + List.length (UInt8.ofNat (Int.toNat (IntKind.wrap .u8 (ishr .i64 a.1.2.1 (imul .i64 8 (isub .i64 a.1.2.2.1 1))))) :: lnil UInt8)) 1 then some (.inl ((a.1.1 ++ UInt8.ofNat (Int.toNat (IntKind.wrap .u8 (ishr .i64 a.1.2.1 (imul .i64 8 (isub .i64 a.1.2.2.1 1))))) :: lnil UInt8, (a.1.2.1, (isub .i64 a.1.2.2.1 1, ()))), ())) else none) else none) else some (.inr ((a.1.1, ()), ())))
noncomputable def K81.F0 : K81.l0T := fun a => loopFix (1000000 + (a.1.1.length)) (K81.step0) a
noncomputable def K81.gen (l0 : K81.l0T) : K81.T := fun b v n =>
 (bif bif le3 (ofN 0) (ofN (List.length b)) (List.length b) then ieq (ofN (List.length b)) (ofN (List.length b)) else false then (bif ilt 0 (opMinMax true 0 (opMinMax false n 8)) then (bif ile 0 (imul .i64 8 (isub .i64 (opMinMax true 0 (opMinMax false n 8)) 1)) then (bif room (List.length (List.drop (Int.toNat (ofN 0)) (List.take (Int.toNat (ofN (List.length b))) b)) + List.length (UInt8.ofNat (Int.toNat (IntKind.wrap .u8 (ishr .i64 v (imul .i64 8 (isub .i64 (opMinMax true 0 (opMinMax false n 8)) 1))))) :: lnil UInt8)) 1 then (oelim (l0 ((List.drop (Int.toNat (ofN 0)) (List.take (Int.toNat (ofN (List.length b))) b) ++ UInt8.ofNat (Int.toNat (IntKind.wrap .u8 (ishr .i64 v (imul .i64 8 (isub .i64 (opMinMax true 0 (opMinMax false n 8)) 1))))) :: lnil UInt8, v, isub .i64 (opMinMax true 0 (opMinMax false n 8)) 1, ()), ())) none fun r0 => some ((r0.1.1, ()), ((), ((), ())))) else none) else none) else some ((List.drop (Int.toNat (ofN 0)) (List.take (Int.toNat (ofN (List.length b))) b), ()), ((), ((), ())))) else none)
noncomputable def K81 : K81.T := K81.gen K81.F0
theorem K81.seq0 (l0 : K81.l0T) (a : K81.L0.T) : run Tryz.prog (K81.H l0) 6 (Option (K81.L0.T ⊕ ExT K81.X0)) none K81.R0 (K81.L0.enc a) (labelK (0, 13) 0 K81.L0 K81.X0) = K81.step0 a := by kernel_rfl
theorem K81.inner0 : loopsOf K81.R0 = ([] : List Code) := by kernel_rfl
noncomputable abbrev K81.h := K81.H K81.F0
theorem K81.lok0 : LabelOK U Tryz.prog K81.h.ro K81.h.base K81.B0 K81.R0 (loopN (0, 13) K81.L0 K81.X0 K81.F0) :=
 labelN_ok (Hn := K81.h) (lb := 0) U_ok U_pure (run_ok (hints_of_loops U_ok U_pure mixed (addΓ_ok noΓ_ok noNat_ok) loops_nil labels_nil (inl_none fun _ => rfl)) 6) (by kernel_rfl) (fun b h => by rw [K81.inner0] at h; exact h) (fun _ => rfl) (K81.seq0 K81.F0)
theorem K81.eq (l0 : K81.l0T) : EqA K81.sig (K81.H l0) Tryz.f100 6 (K81.W (K81.gen l0)) := by intro a x; kernel_rfl
theorem K81.loops : loopsOf K81.C = [(.scope K81.B0)] := by kernel_rfl
theorem K81.hints : HintsOK U Tryz.prog K81.h (fun c => c ∈ [(.scope K81.B0)]) := (hints_of_loops U_ok U_pure mixed (addΓ_ok noΓ_ok noNat_ok) (loops_skip loops_nil) (labels_cons (label_one (r0 := K81.R0) (l0 := 0) (by kernel_rfl) (fun _ => rfl) K81.lok0) labels_nil) (inl_none fun _ => rfl))
theorem K81.ok : NativeOK U Tryz.prog 100 (K81.sig.native (K81.W K81)) :=
 Sig.ok K81.sig (K81.W K81) U_pure (Hn := K81.h) (code := K81.C) (gos := 6) K81.hints Tryz.func100 (by kernel_rfl) (by kernel_rfl) (fun b h => by rw [K81.loops] at h; exact h) rfl rfl (by decide) (K81.eq K81.F0) (by decide)
noncomputable def K82.sig : Sig U := ⟨[.isl .u8, .int .u64], [], 0, [.isl .u8], false, []⟩
abbrev K82.T : Type := (List (UInt8)) → (Int) → Option (((List (UInt8)) × Unit) × Unit × Unit)
noncomputable def K82.W (f : K82.T) : K82.sig.F := fun a x => f a.1 a.2.1
noncomputable def K82.H (cK81 : K81.T) : Hints U := { Γ := (addΓ 100 (K81.sig.native (K81.W cK81)) noΓ), ro := 0, base := 13 }
noncomputable def K82.gen (cK81 : K81.T) : K82.T := fun b v =>
 (oelim (cK81 b (IntKind.wrap .i64 v) 8) none fun r0 => some ((r0.1.1, ()), ((), ())))
noncomputable def K82 : K82.T := K82.gen K81
theorem K82.eq (cK81 : K81.T) : EqA K82.sig (K82.H cK81) Tryz.f116 6 (K82.W (K82.gen cK81)) := by intro a x; kernel_rfl
noncomputable abbrev K82.h := K82.H K81
theorem K82.hints : HintsOK U Tryz.prog K82.h (fun c => c ∈ ([] : List Code)) := (hq (addΓ_ok noΓ_ok K81.ok) loops_nil (fun _ => rfl) (fun _ => rfl))
theorem K82.ok : NativeOK U Tryz.prog 116 (K82.sig.native (K82.W K82)) :=
 Sig.ok K82.sig (K82.W K82) U_pure (Hn := K82.h) (gos := 6) K82.hints Tryz.func116 rfl (by kernel_rfl) (fun b h => h) rfl rfl (by decide) (K82.eq K81) (by decide)
noncomputable def K116.sig : Sig U := ⟨[.isl .u64], [], 0, [.data .t_api_Tlv, .bool], true, []⟩
abbrev K116.T : Type := (List (Int)) → Option ((api_Tlv × Bool × Unit) × Unit × Unit)
noncomputable def K116.W (f : K116.T) : K116.sig.F := fun a x => f a.1
noncomputable def K116.L0 : Shape U := ⟨24, 14, [(2, .ptr 13 0 0), (4, .val (.isl .u8)), (11, .val (.isl .u64)), (12, vi_), (13, vi_)], [(13, .obj .t_api_Tlv)]⟩
noncomputable def K116.X0 : Exits U := [(.exit 0, ⟨24, 14, [(2, .ptr 13 0 0), (4, .val (.isl .u8))], [(13, .obj .t_api_Tlv)]⟩)]
abbrev K116.l0T : Type := (((List (UInt8)) × (List (Int)) × Int × Int × Unit) × (api_Tlv × Unit)) → Option ((((List (UInt8)) × Unit) × (api_Tlv × Unit)))
noncomputable def K116.C : Code := match Tryz.f180.body with | some c => c | none => .skip
noncomputable def K116.B0 : Code := match (loopsOf K116.C).getD 0 .skip with | .loop b => b | .scope b => b | _ => .skip
noncomputable def K116.H (cK82 : K82.T) (l0 : K116.l0T) : Hints U := { Γ := (addΓ 116 (K82.sig.native (K82.W cK82)) noΓ), ro := 0, base := 13, loop := fun b => (bif Nat.beq b 5 then some (loopN (0, 13) K116.L0 K116.X0 l0) else none) }
noncomputable def K116.step0 (cK82 : K82.T) (a : ((List (UInt8)) × (List (Int)) × Int × Int × Unit) × (api_Tlv × Unit)) : Option ((((List (UInt8)) × (List (Int)) × Int × Int × Unit) × (api_Tlv × Unit)) ⊕ ((((List (UInt8)) × Unit) × (api_Tlv × Unit)))) :=
 (bif ilt a.1.2.2.2.1 a.1.2.2.1 then (bif inR a.1.2.2.2.1 (List.length a.1.2.1) then (oelim (cK82 a.1.1 (List.getD a.1.2.1 (Int.toNat a.1.2.2.2.1) (0 : D UC.u64))) none fun r0 => some (.inl ((r0.1.1, (a.1.2.1, (a.1.2.2.1, (iadd .i64 a.1.2.2.2.1 1, ())))), (a.2.1, ())))) else none) else some (.inr ((a.1.1, ()), (a.2.1, ()))))
noncomputable def K116.F0 : K116.l0T := fun a => loopFix (1000000 + (a.1.1.length + a.1.2.1.length)) (K116.step0 K82) a
noncomputable def K116.gen (cK82 : K82.T) (l0 : K116.l0T) : K116.T := fun l =>
 (bif ilt 16 (ofN (List.length l)) then some ((api_Tlv.mk 0 (ByteArray.mk (List.toArray (lnil UInt8))), (false, ())), ((), ())) else (oelim (l0 ((lnil UInt8, l, ofN (List.length l), (0 : Int), ()), api_Tlv.mk 0 (ByteArray.mk (List.toArray (lnil UInt8))), ())) none fun r0 => some ((api_Tlv.mk 8 (ByteArray.mk (List.toArray r0.1.1)), (true, ())), ((), ()))))
noncomputable def K116 : K116.T := K116.gen K82 K116.F0
theorem K116.seq0 (cK82 : K82.T) (l0 : K116.l0T) (a : K116.L0.T) : run Tryz.prog (K116.H cK82 l0) 6 (Option (K116.L0.T ⊕ ExT K116.X0)) none K116.B0 (K116.L0.enc a) (loopK (0, 13) K116.L0 K116.X0) = K116.step0 cK82 a := by kernel_rfl
theorem K116.inner0 : loopsOf K116.B0 = ([] : List Code) := by kernel_rfl
noncomputable abbrev K116.h := K116.H K82 K116.F0
theorem K116.lok0 : LoopOK U Tryz.prog K116.h.ro K116.h.base K116.B0 (loopN (0, 13) K116.L0 K116.X0 K116.F0) :=
 loopN_ok (Hn := K116.h) U_ok U_pure (run_ok (hq (addΓ_ok noΓ_ok K82.ok) loops_nil (fun _ => rfl) (fun _ => rfl)) 6) (fun b h => by rw [K116.inner0] at h; exact h) (fun _ => rfl) (K116.seq0 K82 K116.F0)
theorem K116.eq (cK82 : K82.T) (l0 : K116.l0T) : EqA K116.sig (K116.H cK82 l0) Tryz.f180 6 (K116.W (K116.gen cK82 l0)) := by intro a x; kernel_rfl
theorem K116.loops : loopsOf K116.C = [(.loop K116.B0)] := by kernel_rfl
theorem K116.hints : HintsOK U Tryz.prog K116.h (fun c => c ∈ [(.loop K116.B0)]) := (hq (addΓ_ok noΓ_ok K82.ok) (loops_cons (by kernel_rfl) K116.lok0 loops_nil) (fun _ => rfl) (fun _ => rfl))
theorem K116.ok : NativeOK U Tryz.prog 180 (K116.sig.native (K116.W K116)) :=
 Sig.ok K116.sig (K116.W K116) U_pure (Hn := K116.h) (code := K116.C) (gos := 6) K116.hints Tryz.func180 (by kernel_rfl) (by kernel_rfl) (fun b h => by rw [K116.loops] at h; exact h) rfl rfl (by decide) (K116.eq K82 K116.F0) (by decide)
noncomputable def K22.sig : Sig U := ⟨[.ptr], [.obj .t_clock_Clock, .fam 12 (.map true false .t_api_PortID .l_u64)], 2, [.isl .t_api_Tlv], false, []⟩
abbrev K22.T : Type := (clock_Clock) → (Nat × (Nat → List (api_PortID × List (Int)))) → Option (((List (api_Tlv)) × Unit) × Unit × Unit)
noncomputable def K22.W (f : K22.T) : K22.sig.F := fun a x => f x.1 x.2.1
noncomputable def K22.L1 : Shape U := ⟨65, 14, [(0, .ptr 13 0 0), (3, .full .u64), (24, vi_), (25, vi_)], [(13, .obj .t_clock_Clock), (12, .mfam true false .t_api_PortID .l_u64)]⟩
noncomputable def K22.X1 : Exits U := [(.exit 0, ⟨65, 15, [(0, .ptr 13 0 0), (3, .own .u64 14)], [(13, .obj .t_clock_Clock), (14, .tok), (12, .mfam true false .t_api_PortID .l_u64)]⟩)]
abbrev K22.l1T : Type := (((List (Int)) × Int × Int × Unit) × (clock_Clock × (Nat × (Nat → List (api_PortID × List (Int)))) × Unit)) → Option ((((List (Int)) × Unit) × (clock_Clock × (Nat × (Nat → List (api_PortID × List (Int)))) × Unit)))
noncomputable def K22.C : Code := match Tryz.f141.body with | some c => c | none => .skip
noncomputable def K22.B0 : Code := match (loopsOf K22.C).getD 0 .skip with | .loop b => b | .scope b => b | _ => .skip
noncomputable def K22.B1 : Code := match (loopsOf K22.C).getD 1 .skip with | .loop b => b | .scope b => b | _ => .skip
noncomputable def K22.JR11 : Exits U := [(.normal, ⟨65, 15, [(7, .ptr 14 0 0), (8, vb_)], [(13, .obj .t_clock_Clock), (14, .obj .t_api_Tlv), (12, .mfam true false .t_api_PortID .l_u64)]⟩)]
noncomputable def K22.H (cK116 : K116.T) (l1 : K22.l1T) : Hints U := { Γ := (addΓ 180 (K116.sig.native (K116.W cK116)) (addΓ 5000000021 noNat noΓ)), ro := 14, base := 14, joinR := fun b => (bif Nat.beq b 11 then some K22.JR11 else none), loop := fun b => (bif Nat.beq b 5 then some (loopN (14, 14) K22.L1 K22.X1 l1) else none) }
noncomputable def K22.step1 (cK116 : K116.T) (a : ((List (Int)) × Int × Int × Unit) × (clock_Clock × (Nat × (Nat → List (api_PortID × List (Int)))) × Unit)) : Option ((((List (Int)) × Int × Int × Unit) × (clock_Clock × (Nat × (Nat → List (api_PortID × List (Int)))) × Unit)) ⊕ ((((List (Int)) × Unit) × (clock_Clock × (Nat × (Nat → List (api_PortID × List (Int)))) × Unit)))) :=
 (bif ilt a.1.2.2.1 a.1.2.1 then (bif inR a.1.2.2.1 8 then (oelim ((oelim ((a.2.1.fports (Int.toNat a.1.2.2.1)).3) none fun r0 => ((@mapGet U Go.Proofs.Tryz.prog 31 UC.t_api_PortID UC.l_u64 (a.2.1.fparent.fPort) (a.2.2.1.2 r0)) : Option (Option (List Int))))) none fun (r1 : Option (List Int)) => (bif Option.isSome r1 then (bif room (List.length a.1.1 + List.length (Option.getD r1 (lnil Int))) 8 then some (.inr ((a.1.1 ++ Option.getD r1 (lnil Int), ()), (a.2.1, (a.2.2.1, ())))) else none) else some (.inl ((a.1.1, (a.1.2.1, (iadd .i64 a.1.2.2.1 1, ()))), (a.2.1, (a.2.2.1, ())))))) else none) else some (.inr ((a.1.1, ()), (a.2.1, (a.2.2.1, ())))))
noncomputable def K22.F1 : K22.l1T := fun a => loopFix (1000000 + (a.1.1.length)) (K22.step1 K116) a
noncomputable def K22.gen (cK116 : K116.T) (l1 : K22.l1T) : K22.T := fun h0 g12 =>
 (bif !h0.fconf.fTrace then some ((lnil api_Tlv, ()), ((), ())) else (bif le3 (ofN 0) h0.fconf.fPorts 8 then (oelim (l1 ((lnil Int, ofN (Int.toNat h0.fconf.fPorts - Int.toNat (ofN 0)), (0 : Int), ()), h0, g12, ())) none fun r0 => (oelim ((bif room (List.length r0.1.1 + List.length (r0.2.1.fconf.fClock :: lnil Int)) 8 then (oelim (cK116 (r0.1.1 ++ r0.2.1.fconf.fClock :: lnil Int)) none fun r1 => some ((r1.1.2.1, ()), (r0.2.1, (r1.1.1, (r0.2.2.1, ()))))) else none)) none fun r2 => (bif !r2.1.1 then some ((lnil api_Tlv, ()), ((), ())) else some ((r2.2.2.1 :: lnil api_Tlv, ()), ((), ()))))) else none))
noncomputable def K22 : K22.T := K22.gen K116 K22.F1
theorem K22.seq1 (cK116 : K116.T) (l1 : K22.l1T) (a : K22.L1.T) : run Tryz.prog (K22.H cK116 l1) 6 (Option (K22.L1.T ⊕ ExT K22.X1)) none K22.B1 (K22.L1.enc a) (loopK (14, 14) K22.L1 K22.X1) = K22.step1 cK116 a := by kernel_rfl
theorem K22.inner1 : loopsOf K22.B1 = ([] : List Code) := by kernel_rfl
noncomputable abbrev K22.h := K22.H K116 K22.F1
theorem K22.lok1 : LoopOK U Tryz.prog K22.h.ro K22.h.base K22.B1 (loopN (14, 14) K22.L1 K22.X1 K22.F1) :=
 loopN_ok (Hn := K22.h) U_ok U_pure (run_ok (hq (addΓ_ok (addΓ_ok noΓ_ok noNat_ok) K116.ok) loops_nil (fun _ => rfl) (fun _ => rfl)) 6) (fun b h => by rw [K22.inner1] at h; exact h) (fun _ => rfl) (K22.seq1 K116 K22.F1)
theorem K22.eq (cK116 : K116.T) (l1 : K22.l1T) : EqA K22.sig (K22.H cK116 l1) Tryz.f141 6 (K22.W (K22.gen cK116 l1)) := by intro a x; kernel_rfl
theorem K22.loops : loopsOf K22.C = [(.scope K22.B0), (.loop K22.B1)] := by kernel_rfl
theorem K22.hints : HintsOK U Tryz.prog K22.h (fun c => c ∈ [(.scope K22.B0), (.loop K22.B1)]) := (hq (addΓ_ok (addΓ_ok noΓ_ok noNat_ok) K116.ok) (loops_skip (loops_cons (by kernel_rfl) K22.lok1 loops_nil)) (fun _ => rfl) (fun _ => rfl))
theorem K22.ok : NativeOK U Tryz.prog 141 (K22.sig.native (K22.W K22)) :=
 Sig.ok K22.sig (K22.W K22) U_pure (Hn := K22.h) (code := K22.C) (gos := 6) K22.hints Tryz.func141 (by kernel_rfl) (by kernel_rfl) (fun b h => by rw [K22.loops] at h; exact h) rfl rfl (by decide) (K22.eq K116 K22.F1) (by decide)
noncomputable def K64.sig : Sig U := ⟨[.int .i64], [], 0, [.bool], false, []⟩
abbrev K64.T : Type := (Int) → Option ((Bool × Unit) × Unit × Unit)
noncomputable def K64.W (f : K64.T) : K64.sig.F := fun a x => f a.1
noncomputable def K64.JC7 : Exits U := [(.normal, ⟨16, 13, [(9, vb_)], []⟩)]
noncomputable def K64.JC3 : Exits U := [(.normal, ⟨16, 13, [(3, vi_), (4, vb_)], []⟩)]
noncomputable def K64.H : Hints U := { Γ := noΓ, ro := 0, base := 13, joinC := fun b => (bif Nat.beq b 3 then some K64.JC3 else (bif Nat.beq b 7 then some K64.JC7 else none)) }
noncomputable def K64.gen : K64.T := fun typ =>
 (oelim ((bif ieq typ 0 then some ((typ, (ieq typ 0, ())), ()) else (bif ieq typ 1 then some ((typ, (ieq typ 1, ())), ()) else (bif ieq typ 2 then some ((typ, (ieq typ 2, ())), ()) else some ((typ, (ieq typ 3, ())), ()))))) none fun r0 => (bif r0.1.2.1 then some ((true, ()), ((), ())) else (oelim ((bif ieq r0.1.1 8 then some ((ieq r0.1.1 8, ()), ()) else (bif ieq r0.1.1 9 then some ((ieq r0.1.1 9, ()), ()) else (bif ieq r0.1.1 10 then some ((ieq r0.1.1 10, ()), ()) else (bif ieq r0.1.1 11 then some ((ieq r0.1.1 11, ()), ()) else (bif ieq r0.1.1 12 then some ((ieq r0.1.1 12, ()), ()) else some ((ieq r0.1.1 13, ()), ()))))))) none fun r1 => (bif r1.1.1 then some ((true, ()), ((), ())) else some ((false, ()), ((), ()))))))
noncomputable def K64 : K64.T := K64.gen
theorem K64.eq : EqA K64.sig (K64.H) Tryz.f102 6 (K64.W (K64.gen)) := by intro a x; kernel_rfl
theorem K64.hints : HintsOK U Tryz.prog (K64.H) (fun c => c ∈ ([] : List Code)) := (hq noΓ_ok loops_nil (fun _ => rfl) (fun _ => rfl))
theorem K64.ok : NativeOK U Tryz.prog 102 (K64.sig.native (K64.W K64)) :=
 Sig.ok K64.sig (K64.W (K64.gen)) U_pure (Hn := (K64.H)) (gos := 6) K64.hints Tryz.func102 rfl (by kernel_rfl) (fun b h => h) rfl rfl (by decide) (K64.eq) (by decide)
noncomputable def K67.sig : Sig U := ⟨[.int .i64, .int .i64, .int .i64], [], 0, [.bool], false, []⟩
abbrev K67.T : Type := (Int) → (Int) → (Int) → Option ((Bool × Unit) × Unit × Unit)
noncomputable def K67.W (f : K67.T) : K67.sig.F := fun a x => f a.1 a.2.1 a.2.2.1
noncomputable def K67.H : Hints U := { Γ := noΓ, ro := 0, base := 13 }
noncomputable def K67.gen : K67.T := fun v least most =>
 (bif ile least v then some ((ile v most, ()), ((), ())) else some ((false, ()), ((), ())))
noncomputable def K67 : K67.T := K67.gen
theorem K67.eq : EqA K67.sig (K67.H) Tryz.f103 6 (K67.W (K67.gen)) := by intro a x; kernel_rfl
theorem K67.hints : HintsOK U Tryz.prog (K67.H) (fun c => c ∈ ([] : List Code)) := (hq noΓ_ok loops_nil (fun _ => rfl) (fun _ => rfl))
theorem K67.ok : NativeOK U Tryz.prog 103 (K67.sig.native (K67.W K67)) :=
 Sig.ok K67.sig (K67.W (K67.gen)) U_pure (Hn := (K67.H)) (gos := 6) K67.hints Tryz.func103 rfl (by kernel_rfl) (fun b h => h) rfl rfl (by decide) (K67.eq) (by decide)
noncomputable def K70.sig : Sig U := ⟨[.data .t_api_PortID], [], 0, [.bool], false, []⟩
abbrev K70.T : Type := (api_PortID) → Option ((Bool × Unit) × Unit × Unit)
noncomputable def K70.W (f : K70.T) : K70.sig.F := fun a x => f a.1
noncomputable def K70.H : Hints U := { Γ := noΓ, ro := 0, base := 13 }
noncomputable def K70.gen : K70.T := fun p =>
 (bif ile 0 p.fPort then some ((ile p.fPort 65535, ()), ((), ())) else some ((false, ()), ((), ())))
noncomputable def K70 : K70.T := K70.gen
theorem K70.eq : EqA K70.sig (K70.H) Tryz.f170 6 (K70.W (K70.gen)) := by intro a x; kernel_rfl
theorem K70.hints : HintsOK U Tryz.prog (K70.H) (fun c => c ∈ ([] : List Code)) := (hq noΓ_ok loops_nil (fun _ => rfl) (fun _ => rfl))
theorem K70.ok : NativeOK U Tryz.prog 170 (K70.sig.native (K70.W K70)) :=
 Sig.ok K70.sig (K70.W (K70.gen)) U_pure (Hn := (K70.H)) (gos := 6) K70.hints Tryz.func170 rfl (by kernel_rfl) (fun b h => h) rfl rfl (by decide) (K70.eq) (by decide)
noncomputable def K62.sig : Sig U := ⟨[.data .t_api_Msg], [], 0, [.bool], false, []⟩
abbrev K62.T : Type := (api_Msg) → Option ((Bool × Unit) × Unit × Unit)
noncomputable def K62.W (f : K62.T) : K62.sig.F := fun a x => f a.1
noncomputable def K62.H (cK64 : K64.T) (cK67 : K67.T) (cK70 : K70.T) : Hints U := { Γ := (addΓ 170 (K70.sig.native (K70.W cK70)) (addΓ 103 (K67.sig.native (K67.W cK67)) (addΓ 102 (K64.sig.native (K64.W cK64)) noΓ))), ro := 0, base := 13 }
noncomputable def K62.gen (cK64 : K64.T) (cK67 : K67.T) (cK70 : K70.T) : K62.T := fun m =>
 (oelim (cK64 m.fType) none fun r0 => (bif r0.1.1 then (oelim (cK67 m.fDomain 0 255) none fun r1 => (bif r1.1.1 then (oelim (cK67 m.fFlags 0 65535) none fun r2 => (bif r2.1.1 then (oelim (cK70 m.fSource) none fun r3 => (bif r3.1.1 then (oelim (cK67 m.fSeq 0 65535) none fun r4 => (bif r4.1.1 then (oelim (cK67 m.fLog (-128) 127) none fun r5 => some ((r5.1.1, ()), ((), ()))) else some ((false, ()), ((), ())))) else some ((false, ()), ((), ())))) else some ((false, ()), ((), ())))) else some ((false, ()), ((), ())))) else some ((false, ()), ((), ()))))
noncomputable def K62 : K62.T := K62.gen K64 K67 K70
theorem K62.eq (cK64 : K64.T) (cK67 : K67.T) (cK70 : K70.T) : EqA K62.sig (K62.H cK64 cK67 cK70) Tryz.f118 6 (K62.W (K62.gen cK64 cK67 cK70)) := by intro a x; kernel_rfl
noncomputable abbrev K62.h := K62.H K64 K67 K70
theorem K62.hints : HintsOK U Tryz.prog K62.h (fun c => c ∈ ([] : List Code)) := (hq (addΓ_ok (addΓ_ok (addΓ_ok noΓ_ok K64.ok) K67.ok) K70.ok) loops_nil (fun _ => rfl) (fun _ => rfl))
theorem K62.ok : NativeOK U Tryz.prog 118 (K62.sig.native (K62.W K62)) :=
 Sig.ok K62.sig (K62.W K62) U_pure (Hn := K62.h) (gos := 6) K62.hints Tryz.func118 rfl (by kernel_rfl) (fun b h => h) rfl rfl (by decide) (K62.eq K64 K67 K70) (by decide)
noncomputable def K6.sig : Sig U := ⟨[.int .i64], [], 0, [.bool], false, []⟩
abbrev K6.T : Type := (Int) → Option ((Bool × Unit) × Unit × Unit)
noncomputable def K6.W (f : K6.T) : K6.sig.F := fun a x => f a.1
noncomputable def K6.H : Hints U := { Γ := noΓ, ro := 0, base := 13 }
noncomputable def K6.gen : K6.T := fun typ =>
 (bif ine typ 12 then some ((ine typ 13, ()), ((), ())) else some ((false, ()), ((), ())))
noncomputable def K6 : K6.T := K6.gen
theorem K6.eq : EqA K6.sig (K6.H) Tryz.f107 6 (K6.W (K6.gen)) := by intro a x; kernel_rfl
theorem K6.hints : HintsOK U Tryz.prog (K6.H) (fun c => c ∈ ([] : List Code)) := (hq noΓ_ok loops_nil (fun _ => rfl) (fun _ => rfl))
theorem K6.ok : NativeOK U Tryz.prog 107 (K6.sig.native (K6.W K6)) :=
 Sig.ok K6.sig (K6.W (K6.gen)) U_pure (Hn := (K6.H)) (gos := 6) K6.hints Tryz.func107 rfl (by kernel_rfl) (fun b h => h) rfl rfl (by decide) (K6.eq) (by decide)
noncomputable def K7.sig : Sig U := ⟨[.int .i64], [], 0, [.bool], false, []⟩
abbrev K7.T : Type := (Int) → Option ((Bool × Unit) × Unit × Unit)
noncomputable def K7.W (f : K7.T) : K7.sig.F := fun a x => f a.1
noncomputable def K7.JC3 : Exits U := [(.normal, ⟨10, 13, [(4, vb_)], []⟩)]
noncomputable def K7.H : Hints U := { Γ := noΓ, ro := 0, base := 13, joinC := fun b => (bif Nat.beq b 3 then some K7.JC3 else none) }
noncomputable def K7.gen : K7.T := fun typ =>
 (oelim ((bif ieq typ 9 then some ((ieq typ 9, ()), ()) else (bif ieq typ 3 then some ((ieq typ 3, ()), ()) else (bif ieq typ 10 then some ((ieq typ 10, ()), ()) else (bif ieq typ 12 then some ((ieq typ 12, ()), ()) else some ((ieq typ 13, ()), ())))))) none fun r0 => (bif r0.1.1 then some ((true, ()), ((), ())) else some ((false, ()), ((), ()))))
noncomputable def K7 : K7.T := K7.gen
theorem K7.eq : EqA K7.sig (K7.H) Tryz.f109 6 (K7.W (K7.gen)) := by intro a x; kernel_rfl
theorem K7.hints : HintsOK U Tryz.prog (K7.H) (fun c => c ∈ ([] : List Code)) := (hq noΓ_ok loops_nil (fun _ => rfl) (fun _ => rfl))
theorem K7.ok : NativeOK U Tryz.prog 109 (K7.sig.native (K7.W K7)) :=
 Sig.ok K7.sig (K7.W (K7.gen)) U_pure (Hn := (K7.H)) (gos := 6) K7.hints Tryz.func109 rfl (by kernel_rfl) (fun b h => h) rfl rfl (by decide) (K7.eq) (by decide)
noncomputable def K5.sig : Sig U := ⟨[.data .t_api_Msg], [], 0, [.data .t_api_Msg], false, []⟩
abbrev K5.T : Type := (api_Msg) → Option ((api_Msg × Unit) × Unit × Unit)
noncomputable def K5.W (f : K5.T) : K5.sig.F := fun a x => f a.1
noncomputable def K5.JC8 : Exits U := [(.normal, ⟨68, 15, [(2, .ptr 13 0 0), (3, .ptr 14 0 0)], [(13, .obj .t_api_Msg), (14, .obj .t_api_Msg)]⟩)]
noncomputable def K5.JC5 : Exits U := [(.normal, ⟨68, 16, [(1, .ptr 13 0 0), (2, .ptr 14 0 0), (3, .ptr 15 0 0)], [(13, .obj .t_api_Msg), (14, .obj .t_api_Msg), (15, .obj .t_api_Msg)]⟩)]
noncomputable def K5.JC3 : Exits U := [(.normal, ⟨68, 16, [(1, .ptr 13 0 0), (2, .ptr 14 0 0), (3, .ptr 15 0 0)], [(13, .obj .t_api_Msg), (14, .obj .t_api_Msg), (15, .obj .t_api_Msg)]⟩)]
noncomputable def K5.H (cK6 : K6.T) (cK7 : K7.T) : Hints U := { Γ := (addΓ 109 (K7.sig.native (K7.W cK7)) (addΓ 107 (K6.sig.native (K6.W cK6)) noΓ)), ro := 0, base := 13, joinC := fun b => (bif Nat.beq b 3 then some K5.JC3 else (bif Nat.beq b 5 then some K5.JC5 else (bif Nat.beq b 8 then some K5.JC8 else none))) }
noncomputable def K5.gen (cK6 : K6.T) (cK7 : K7.T) : K5.T := fun m =>
 (oelim (cK6 m.fType) none fun r0 => (oelim ((bif r0.1.1 then some ((), (m, (api_Msg.mk 0 0 0 0 z0_ 0 0 0 z0_ 0 0 z1_ 0 0 0 0 0 0 0, (api_Msg.mk m.fType m.fDomain m.fFlags m.fCorr m.fSource m.fSeq m.fLog m.fStamp z0_ 0 0 z1_ 0 0 0 0 0 0 0, ())))) else some ((), (m, (api_Msg.mk 0 0 0 0 z0_ 0 0 0 z0_ 0 0 z1_ 0 0 0 0 0 0 0, (api_Msg.mk m.fType m.fDomain m.fFlags m.fCorr m.fSource m.fSeq m.fLog 0 z0_ 0 0 z1_ 0 0 0 0 0 0 0, ())))))) none fun r1 => (oelim (cK7 r1.2.1.fType) none fun r2 => (oelim ((bif r2.1.1 then some ((), (r1.2.1, (r1.2.2.1, (api_Msg.set_fTarget r1.2.2.2.1 r1.2.1.fTarget, ())))) else some ((), (r1.2.1, (r1.2.2.1, (r1.2.2.2.1, ())))))) none fun r3 => (oelim ((bif ieq r3.2.1.fType 11 then some ((), (r3.2.2.1, (api_Msg.set_fOrigin (api_Msg.set_fSteps (api_Msg.set_fGrand (api_Msg.set_fPriority2 (api_Msg.set_fQuality (api_Msg.set_fPriority1 (api_Msg.set_fUtc r3.2.2.2.1 r3.2.1.fUtc) r3.2.1.fPriority1) r3.2.1.fQuality) r3.2.1.fPriority2) r3.2.1.fGrand) r3.2.1.fSteps) r3.2.1.fOrigin, ()))) else (bif ieq r3.2.1.fType 13 then some ((), (r3.2.2.1, (api_Msg.set_fAction (api_Msg.set_fHops (api_Msg.set_fStartHops r3.2.2.2.1 r3.2.1.fStartHops) r3.2.1.fHops) r3.2.1.fAction, ()))) else some ((), (r3.2.2.1, (r3.2.2.2.1, ())))))) none fun r4 => some ((r4.2.2.1, ()), ((), ())))))))
noncomputable def K5 : K5.T := K5.gen K6 K7
theorem K5.eq (cK6 : K6.T) (cK7 : K7.T) : EqA K5.sig (K5.H cK6 cK7) Tryz.f169 6 (K5.W (K5.gen cK6 cK7)) := by intro a x; kernel_rfl
noncomputable abbrev K5.h := K5.H K6 K7
theorem K5.hints : HintsOK U Tryz.prog K5.h (fun c => c ∈ ([] : List Code)) := (hq (addΓ_ok (addΓ_ok noΓ_ok K6.ok) K7.ok) loops_nil (fun _ => rfl) (fun _ => rfl))
theorem K5.ok : NativeOK U Tryz.prog 169 (K5.sig.native (K5.W K5)) :=
 Sig.ok K5.sig (K5.W K5) U_pure (Hn := K5.h) (gos := 6) K5.hints Tryz.func169 rfl (by kernel_rfl) (fun b h => h) rfl rfl (by decide) (K5.eq K6 K7) (by decide)
noncomputable def K105.sig : Sig U := ⟨[.int .i64], [], 0, [.bool], false, []⟩
abbrev K105.T : Type := (Int) → Option ((Bool × Unit) × Unit × Unit)
noncomputable def K105.W (f : K105.T) : K105.sig.F := fun a x => f a.1
noncomputable def K105.H : Hints U := { Γ := noΓ, ro := 0, base := 13 }
noncomputable def K105.gen : K105.T := fun t =>
 (bif ile 0 t then some ((ile t 4000000000000000, ()), ((), ())) else some ((false, ()), ((), ())))
noncomputable def K105 : K105.T := K105.gen
theorem K105.eq : EqA K105.sig (K105.H) Tryz.f151 6 (K105.W (K105.gen)) := by intro a x; kernel_rfl
theorem K105.hints : HintsOK U Tryz.prog (K105.H) (fun c => c ∈ ([] : List Code)) := (hq noΓ_ok loops_nil (fun _ => rfl) (fun _ => rfl))
theorem K105.ok : NativeOK U Tryz.prog 151 (K105.sig.native (K105.W K105)) :=
 Sig.ok K105.sig (K105.W (K105.gen)) U_pure (Hn := (K105.H)) (gos := 6) K105.hints Tryz.func151 rfl (by kernel_rfl) (fun b h => h) rfl rfl (by decide) (K105.eq) (by decide)
noncomputable def K4.sig : Sig U := ⟨[.int .i64, .int .i64, .int .i64], [], 0, [.bool], false, []⟩
abbrev K4.T : Type := (Int) → (Int) → (Int) → Option ((Bool × Unit) × Unit × Unit)
noncomputable def K4.W (f : K4.T) : K4.sig.F := fun a x => f a.1 a.2.1 a.2.2.1
noncomputable def K4.H : Hints U := { Γ := noΓ, ro := 0, base := 13 }
noncomputable def K4.gen : K4.T := fun v least most =>
 (bif ile least v then some ((ile v most, ()), ((), ())) else some ((false, ()), ((), ())))
noncomputable def K4 : K4.T := K4.gen
theorem K4.eq : EqA K4.sig (K4.H) Tryz.f171 6 (K4.W (K4.gen)) := by intro a x; kernel_rfl
theorem K4.hints : HintsOK U Tryz.prog (K4.H) (fun c => c ∈ ([] : List Code)) := (hq noΓ_ok loops_nil (fun _ => rfl) (fun _ => rfl))
theorem K4.ok : NativeOK U Tryz.prog 171 (K4.sig.native (K4.W K4)) :=
 Sig.ok K4.sig (K4.W (K4.gen)) U_pure (Hn := (K4.H)) (gos := 6) K4.hints Tryz.func171 rfl (by kernel_rfl) (fun b h => h) rfl rfl (by decide) (K4.eq) (by decide)
noncomputable def K0.sig : Sig U := ⟨[.data .t_api_Msg], [], 0, [.bool], false, []⟩
abbrev K0.T : Type := (api_Msg) → Option ((Bool × Unit) × Unit × Unit)
noncomputable def K0.W (f : K0.T) : K0.sig.F := fun a x => f a.1
noncomputable def K0.H (cK62 : K62.T) (cK5 : K5.T) (cK105 : K105.T) (cK70 : K70.T) (cK4 : K4.T) (cK96 : K96.T) : Hints U := { Γ := (addΓ 87 (K96.sig.native (K96.W cK96)) (addΓ 171 (K4.sig.native (K4.W cK4)) (addΓ 170 (K70.sig.native (K70.W cK70)) (addΓ 151 (K105.sig.native (K105.W cK105)) (addΓ 169 (K5.sig.native (K5.W cK5)) (addΓ 118 (K62.sig.native (K62.W cK62)) noΓ)))))), ro := 0, base := 13 }
noncomputable def K0.gen (cK62 : K62.T) (cK5 : K5.T) (cK105 : K105.T) (cK70 : K70.T) (cK4 : K4.T) (cK96 : K96.T) : K0.T := fun m =>
 (oelim (cK62 m) none fun r0 => (bif r0.1.1 then (oelim (cK5 m) none fun r1 => (bif bif ieq m.fType r1.1.1.fType then bif ieq m.fDomain r1.1.1.fDomain then bif ieq m.fFlags r1.1.1.fFlags then bif ieq m.fCorr r1.1.1.fCorr then bif bif ieq m.fSource.fClock r1.1.1.fSource.fClock then bif ieq m.fSource.fPort r1.1.1.fSource.fPort then true else false else false then bif ieq m.fSeq r1.1.1.fSeq then bif ieq m.fLog r1.1.1.fLog then bif ieq m.fStamp r1.1.1.fStamp then bif bif ieq m.fTarget.fClock r1.1.1.fTarget.fClock then bif ieq m.fTarget.fPort r1.1.1.fTarget.fPort then true else false else false then bif ieq m.fUtc r1.1.1.fUtc then bif ieq m.fPriority1 r1.1.1.fPriority1 then bif bif ieq m.fQuality.fClass r1.1.1.fQuality.fClass then bif ieq m.fQuality.fAccuracy r1.1.1.fQuality.fAccuracy then bif ieq m.fQuality.fVariance r1.1.1.fQuality.fVariance then true else false else false else false then bif ieq m.fPriority2 r1.1.1.fPriority2 then bif ieq m.fGrand r1.1.1.fGrand then bif ieq m.fSteps r1.1.1.fSteps then bif ieq m.fOrigin r1.1.1.fOrigin then bif ieq m.fStartHops r1.1.1.fStartHops then bif ieq m.fHops r1.1.1.fHops then bif ieq m.fAction r1.1.1.fAction then true else false else false else false else false else false else false else false else false else false else false else false else false else false else false else false else false else false else false else false then (oelim (cK105 m.fStamp) none fun r2 => (bif r2.1.1 then (oelim (cK70 m.fTarget) none fun r3 => (bif r3.1.1 then (oelim (cK4 m.fUtc (-32768) 32767) none fun r4 => (bif r4.1.1 then (oelim (cK4 m.fPriority1 0 255) none fun r5 => (bif r5.1.1 then (oelim (cK4 m.fPriority2 0 255) none fun r6 => (bif r6.1.1 then (oelim (cK4 m.fOrigin 0 255) none fun r7 => (bif r7.1.1 then (oelim (cK96 m.fQuality) none fun r8 => (bif r8.1.1 then (oelim (cK4 m.fSteps 0 65535) none fun r9 => (bif r9.1.1 then (oelim (cK4 m.fStartHops 0 255) none fun r10 => (bif r10.1.1 then (oelim (cK4 m.fHops 0 255) none fun r11 => (bif r11.1.1 then (oelim (cK4 m.fAction 0 15) none fun r12 => some ((r12.1.1, ()), ((), ()))) else some ((false, ()), ((), ())))) else some ((false, ()), ((), ())))) else some ((false, ()), ((), ())))) else some ((false, ()), ((), ())))) else some ((false, ()), ((), ())))) else some ((false, ()), ((), ())))) else some ((false, ()), ((), ())))) else some ((false, ()), ((), ())))) else some ((false, ()), ((), ())))) else some ((false, ()), ((), ())))) else some ((false, ()), ((), ())))) else some ((false, ()), ((), ()))))
noncomputable def K0 : K0.T := K0.gen K62 K5 K105 K70 K4 K96
theorem K0.eq (cK62 : K62.T) (cK5 : K5.T) (cK105 : K105.T) (cK70 : K70.T) (cK4 : K4.T) (cK96 : K96.T) : EqA K0.sig (K0.H cK62 cK5 cK105 cK70 cK4 cK96) Tryz.f112 6 (K0.W (K0.gen cK62 cK5 cK105 cK70 cK4 cK96)) := by intro a x; kernel_rfl
noncomputable abbrev K0.h := K0.H K62 K5 K105 K70 K4 K96
theorem K0.hints : HintsOK U Tryz.prog K0.h (fun c => c ∈ ([] : List Code)) := (hq (addΓ_ok (addΓ_ok (addΓ_ok (addΓ_ok (addΓ_ok (addΓ_ok noΓ_ok K62.ok) K5.ok) K105.ok) K70.ok) K4.ok) K96.ok) loops_nil (fun _ => rfl) (fun _ => rfl))
theorem K0.ok : NativeOK U Tryz.prog 112 (K0.sig.native (K0.W K0)) :=
 Sig.ok K0.sig (K0.W K0) U_pure (Hn := K0.h) (gos := 6) K0.hints Tryz.func112 rfl (by kernel_rfl) (fun b h => h) rfl rfl (by decide) (K0.eq K62 K5 K105 K70 K4 K96) (by decide)
noncomputable def K106.sig : Sig U := ⟨[.isl .u8, .int .i64], [], 0, [.isl .u8], false, []⟩
abbrev K106.T : Type := (List (UInt8)) → (Int) → Option (((List (UInt8)) × Unit) × Unit × Unit)
noncomputable def K106.W (f : K106.T) : K106.sig.F := fun a x => f a.1 a.2.1
noncomputable def K106.JC2 : Exits U := [(.normal, ⟨15, 13, [(0, .val (.isl .u8)), (1, vi_)], []⟩)]
noncomputable def K106.H (cK105 : K105.T) (cK81 : K81.T) : Hints U := { Γ := (addΓ 100 (K81.sig.native (K81.W cK81)) (addΓ 151 (K105.sig.native (K105.W cK105)) noΓ)), ro := 0, base := 13, joinC := fun b => (bif Nat.beq b 2 then some K106.JC2 else none) }
noncomputable def K106.gen (cK105 : K105.T) (cK81 : K81.T) : K106.T := fun b t =>
 (oelim (cK105 t) none fun r0 => (oelim ((bif !r0.1.1 then some ((b, ((0 : Int), ())), ()) else some ((b, (t, ())), ()))) none fun r1 => (oelim (cK81 r1.1.1 (iquo .i64 r1.1.2.1 1000000000) 6) none fun r2 => (oelim (cK81 r2.1.1 (irem r1.1.2.1 1000000000) 4) none fun r3 => some ((r3.1.1, ()), ((), ()))))))
noncomputable def K106 : K106.T := K106.gen K105 K81
theorem K106.eq (cK105 : K105.T) (cK81 : K81.T) : EqA K106.sig (K106.H cK105 cK81) Tryz.f113 6 (K106.W (K106.gen cK105 cK81)) := by intro a x; kernel_rfl
noncomputable abbrev K106.h := K106.H K105 K81
theorem K106.hints : HintsOK U Tryz.prog K106.h (fun c => c ∈ ([] : List Code)) := (hq (addΓ_ok (addΓ_ok noΓ_ok K105.ok) K81.ok) loops_nil (fun _ => rfl) (fun _ => rfl))
theorem K106.ok : NativeOK U Tryz.prog 113 (K106.sig.native (K106.W K106)) :=
 Sig.ok K106.sig (K106.W K106) U_pure (Hn := K106.h) (gos := 6) K106.hints Tryz.func113 rfl (by kernel_rfl) (fun b h => h) rfl rfl (by decide) (K106.eq K105 K81) (by decide)
noncomputable def K71.sig : Sig U := ⟨[.isl .u8, .data .t_api_PortID], [], 0, [.isl .u8], false, []⟩
abbrev K71.T : Type := (List (UInt8)) → (api_PortID) → Option (((List (UInt8)) × Unit) × Unit × Unit)
noncomputable def K71.W (f : K71.T) : K71.sig.F := fun a x => f a.1 a.2.1
noncomputable def K71.H (cK82 : K82.T) (cK81 : K81.T) : Hints U := { Γ := (addΓ 100 (K81.sig.native (K81.W cK81)) (addΓ 116 (K82.sig.native (K82.W cK82)) noΓ)), ro := 0, base := 13 }
noncomputable def K71.gen (cK82 : K82.T) (cK81 : K81.T) : K71.T := fun b p =>
 (oelim (cK82 b p.fClock) none fun r0 => (oelim (cK81 r0.1.1 p.fPort 2) none fun r1 => some ((r1.1.1, ()), ((), ()))))
noncomputable def K71 : K71.T := K71.gen K82 K81
theorem K71.eq (cK82 : K82.T) (cK81 : K81.T) : EqA K71.sig (K71.H cK82 cK81) Tryz.f114 6 (K71.W (K71.gen cK82 cK81)) := by intro a x; kernel_rfl
noncomputable abbrev K71.h := K71.H K82 K81
theorem K71.hints : HintsOK U Tryz.prog K71.h (fun c => c ∈ ([] : List Code)) := (hq (addΓ_ok (addΓ_ok noΓ_ok K82.ok) K81.ok) loops_nil (fun _ => rfl) (fun _ => rfl))
theorem K71.ok : NativeOK U Tryz.prog 114 (K71.sig.native (K71.W K71)) :=
 Sig.ok K71.sig (K71.W K71) U_pure (Hn := K71.h) (gos := 6) K71.hints Tryz.func114 rfl (by kernel_rfl) (fun b h => h) rfl rfl (by decide) (K71.eq K82 K81) (by decide)
noncomputable def K97.sig : Sig U := ⟨[.isl .u8, .data .t_api_Quality], [], 0, [.isl .u8], false, []⟩
abbrev K97.T : Type := (List (UInt8)) → (api_Quality) → Option (((List (UInt8)) × Unit) × Unit × Unit)
noncomputable def K97.W (f : K97.T) : K97.sig.F := fun a x => f a.1 a.2.1
noncomputable def K97.H (cK81 : K81.T) : Hints U := { Γ := (addΓ 100 (K81.sig.native (K81.W cK81)) noΓ), ro := 0, base := 13 }
noncomputable def K97.gen (cK81 : K81.T) : K97.T := fun b q =>
 (oelim (cK81 b q.fClass 1) none fun r0 => (oelim (cK81 r0.1.1 q.fAccuracy 1) none fun r1 => (oelim (cK81 r1.1.1 q.fVariance 2) none fun r2 => some ((r2.1.1, ()), ((), ())))))
noncomputable def K97 : K97.T := K97.gen K81
theorem K97.eq (cK81 : K81.T) : EqA K97.sig (K97.H cK81) Tryz.f115 6 (K97.W (K97.gen cK81)) := by intro a x; kernel_rfl
noncomputable abbrev K97.h := K97.H K81
theorem K97.hints : HintsOK U Tryz.prog K97.h (fun c => c ∈ ([] : List Code)) := (hq (addΓ_ok noΓ_ok K81.ok) loops_nil (fun _ => rfl) (fun _ => rfl))
theorem K97.ok : NativeOK U Tryz.prog 115 (K97.sig.native (K97.W K97)) :=
 Sig.ok K97.sig (K97.W K97) U_pure (Hn := K97.h) (gos := 6) K97.hints Tryz.func115 rfl (by kernel_rfl) (fun b h => h) rfl rfl (by decide) (K97.eq K81) (by decide)
noncomputable def K3.sig : Sig U := ⟨[.isl .u8, .data .t_api_Msg], [], 0, [.isl .u8, .bool], true, []⟩
abbrev K3.T : Type := (List (UInt8)) → (api_Msg) → Option (((List (UInt8)) × Bool × Unit) × Unit × Unit)
noncomputable def K3.W (f : K3.T) : K3.sig.F := fun a x => f a.1 a.2.1
noncomputable def K3.JC10 : Exits U := [(.normal, ⟨80, 13, [(6, .val (.isl .u8))], []⟩)]
noncomputable def K3.JC7 : Exits U := [(.normal, ⟨80, 14, [(3, .ptr 13 0 0), (6, .val (.isl .u8))], [(13, .obj .t_api_Msg)]⟩)]
noncomputable def K3.JC5 : Exits U := [(.normal, ⟨80, 14, [(3, .ptr 13 0 0), (6, .val (.isl .u8))], [(13, .obj .t_api_Msg)]⟩)]
noncomputable def K3.H (cK0 : K0.T) (cK6 : K6.T) (cK106 : K106.T) (cK7 : K7.T) (cK71 : K71.T) (cK81 : K81.T) (cK97 : K97.T) (cK82 : K82.T) : Hints U := { Γ := (addΓ 116 (K82.sig.native (K82.W cK82)) (addΓ 115 (K97.sig.native (K97.W cK97)) (addΓ 100 (K81.sig.native (K81.W cK81)) (addΓ 114 (K71.sig.native (K71.W cK71)) (addΓ 109 (K7.sig.native (K7.W cK7)) (addΓ 113 (K106.sig.native (K106.W cK106)) (addΓ 107 (K6.sig.native (K6.W cK6)) (addΓ 112 (K0.sig.native (K0.W cK0)) noΓ)))))))), ro := 0, base := 13, joinC := fun b => (bif Nat.beq b 5 then some K3.JC5 else (bif Nat.beq b 7 then some K3.JC7 else (bif Nat.beq b 10 then some K3.JC10 else none))) }
noncomputable def K3.gen (cK0 : K0.T) (cK6 : K6.T) (cK106 : K106.T) (cK7 : K7.T) (cK71 : K71.T) (cK81 : K81.T) (cK97 : K97.T) (cK82 : K82.T) : K3.T := fun b m =>
 (oelim (cK0 m) none fun r0 => (bif !r0.1.1 then some ((b, (false, ())), ((), ())) else (bif bif le3 (ofN 0) (ofN (List.length b)) (List.length b) then ieq (ofN (List.length b)) (ofN (List.length b)) else false then (oelim (cK6 m.fType) none fun r1 => (oelim ((bif r1.1.1 then (oelim (cK106 (List.drop (Int.toNat (ofN 0)) (List.take (Int.toNat (ofN (List.length b))) b)) m.fStamp) none fun r2 => some ((r2.1.1, ()), (m, ()))) else some ((List.drop (Int.toNat (ofN 0)) (List.take (Int.toNat (ofN (List.length b))) b), ()), (m, ())))) none fun r3 => (oelim (cK7 r3.2.1.fType) none fun r4 => (oelim ((bif r4.1.1 then (oelim (cK71 r3.1.1 r3.2.1.fTarget) none fun r5 => some ((r5.1.1, ()), (r3.2.1, ()))) else some ((r3.1.1, ()), (r3.2.1, ())))) none fun r6 => (oelim ((bif ieq r6.2.1.fType 2 then (oelim (cK71 r6.1.1 z0_) none fun r7 => some ((r7.1.1, ()), ())) else (bif ieq r6.2.1.fType 11 then (oelim (cK81 r6.1.1 r6.2.1.fUtc 2) none fun r8 => (oelim (cK81 r8.1.1 0 1) none fun r9 => (oelim (cK81 r9.1.1 r6.2.1.fPriority1 1) none fun r10 => (oelim (cK97 r10.1.1 r6.2.1.fQuality) none fun r11 => (oelim (cK81 r11.1.1 r6.2.1.fPriority2 1) none fun r12 => (oelim (cK82 r12.1.1 r6.2.1.fGrand) none fun r13 => (oelim (cK81 r13.1.1 r6.2.1.fSteps 2) none fun r14 => (oelim (cK81 r14.1.1 r6.2.1.fOrigin 1) none fun r15 => some ((r15.1.1, ()), ()))))))))) else (bif ieq r6.2.1.fType 13 then (oelim (cK81 r6.1.1 r6.2.1.fStartHops 1) none fun r16 => (oelim (cK81 r16.1.1 r6.2.1.fHops 1) none fun r17 => (oelim (cK81 r17.1.1 r6.2.1.fAction 1) none fun r18 => (oelim (cK81 r18.1.1 0 1) none fun r19 => some ((r19.1.1, ()), ()))))) else some ((r6.1.1, ()), ()))))) none fun r20 => some ((r20.1.1, (true, ())), ((), ()))))))) else none)))
noncomputable def K3 : K3.T := K3.gen K0 K6 K106 K7 K71 K81 K97 K82
theorem K3.eq (cK0 : K0.T) (cK6 : K6.T) (cK106 : K106.T) (cK7 : K7.T) (cK71 : K71.T) (cK81 : K81.T) (cK97 : K97.T) (cK82 : K82.T) : EqA K3.sig (K3.H cK0 cK6 cK106 cK7 cK71 cK81 cK97 cK82) Tryz.f61 6 (K3.W (K3.gen cK0 cK6 cK106 cK7 cK71 cK81 cK97 cK82)) := by intro a x; kernel_rfl
noncomputable abbrev K3.h := K3.H K0 K6 K106 K7 K71 K81 K97 K82
theorem K3.hints : HintsOK U Tryz.prog K3.h (fun c => c ∈ ([] : List Code)) := (hq (addΓ_ok (addΓ_ok (addΓ_ok (addΓ_ok (addΓ_ok (addΓ_ok (addΓ_ok (addΓ_ok noΓ_ok K0.ok) K6.ok) K106.ok) K7.ok) K71.ok) K81.ok) K97.ok) K82.ok) loops_nil (fun _ => rfl) (fun _ => rfl))
theorem K3.ok : NativeOK U Tryz.prog 61 (K3.sig.native (K3.W K3)) :=
 Sig.ok K3.sig (K3.W K3) U_pure (Hn := K3.h) (gos := 6) K3.hints Tryz.func61 rfl (by kernel_rfl) (fun b h => h) rfl rfl (by decide) (K3.eq K0 K6 K106 K7 K71 K81 K97 K82) (by decide)
noncomputable def K119.sig : Sig U := ⟨[.int .i64, .int .i64, .int .i64], [], 0, [.bool], false, []⟩
abbrev K119.T : Type := (Int) → (Int) → (Int) → Option ((Bool × Unit) × Unit × Unit)
noncomputable def K119.W (f : K119.T) : K119.sig.F := fun a x => f a.1 a.2.1 a.2.2.1
noncomputable def K119.H : Hints U := { Γ := noΓ, ro := 0, base := 13 }
noncomputable def K119.gen : K119.T := fun v least most =>
 (bif ile least v then some ((ile v most, ()), ((), ())) else some ((false, ()), ((), ())))
noncomputable def K119 : K119.T := K119.gen
theorem K119.eq : EqA K119.sig (K119.H) Tryz.f99 6 (K119.W (K119.gen)) := by intro a x; kernel_rfl
theorem K119.hints : HintsOK U Tryz.prog (K119.H) (fun c => c ∈ ([] : List Code)) := (hq noΓ_ok loops_nil (fun _ => rfl) (fun _ => rfl))
theorem K119.ok : NativeOK U Tryz.prog 99 (K119.sig.native (K119.W K119)) :=
 Sig.ok K119.sig (K119.W (K119.gen)) U_pure (Hn := (K119.H)) (gos := 6) K119.hints Tryz.func99 rfl (by kernel_rfl) (fun b h => h) rfl rfl (by decide) (K119.eq) (by decide)
noncomputable def K112.sig : Sig U := ⟨[.data .t_api_Tlv], [], 0, [.bool], false, []⟩
abbrev K112.T : Type := (api_Tlv) → Option ((Bool × Unit) × Unit × Unit)
noncomputable def K112.W (f : K112.T) : K112.sig.F := fun a x => f a.1
noncomputable def K112.H (cK119 : K119.T) : Hints U := { Γ := (addΓ 99 (K119.sig.native (K119.W cK119)) noΓ), ro := 0, base := 13 }
noncomputable def K112.gen (cK119 : K119.T) : K112.T := fun t =>
 (oelim (cK119 t.fType 0 65535) none fun r0 => (bif r0.1.1 then (bif ieq (irem (ofN (ByteArray.size t.fData)) 2) 0 then some ((ile (ofN (ByteArray.size t.fData)) 400, ()), ((), ())) else some ((false, ()), ((), ()))) else some ((false, ()), ((), ()))))
noncomputable def K112 : K112.T := K112.gen K119
theorem K112.eq (cK119 : K119.T) : EqA K112.sig (K112.H cK119) Tryz.f117 6 (K112.W (K112.gen cK119)) := by intro a x; kernel_rfl
noncomputable abbrev K112.h := K112.H K119
theorem K112.hints : HintsOK U Tryz.prog K112.h (fun c => c ∈ ([] : List Code)) := (hq (addΓ_ok noΓ_ok K119.ok) loops_nil (fun _ => rfl) (fun _ => rfl))
theorem K112.ok : NativeOK U Tryz.prog 117 (K112.sig.native (K112.W K112)) :=
 Sig.ok K112.sig (K112.W K112) U_pure (Hn := K112.h) (gos := 6) K112.hints Tryz.func117 rfl (by kernel_rfl) (fun b h => h) rfl rfl (by decide) (K112.eq K119) (by decide)
noncomputable def K118.sig : Sig U := ⟨[.isl .u8, .isl .t_api_Tlv], [], 0, [.isl .u8, .bool], true, []⟩
abbrev K118.T : Type := (List (UInt8)) → (List (api_Tlv)) → Option (((List (UInt8)) × Bool × Unit) × Unit × Unit)
noncomputable def K118.W (f : K118.T) : K118.sig.F := fun a x => f a.1 a.2.1
noncomputable def K118.L0 : Shape U := ⟨42, 13, [(0, .val (.isl .u8)), (6, .val (.isl .u8)), (19, .val (.isl .t_api_Tlv)), (20, vi_), (21, vi_)], []⟩
noncomputable def K118.X0 : Exits U := [(.exit 0, ⟨42, 13, [(6, .val (.isl .u8))], []⟩),
 (.ret, ⟨42, 13, [(4, .val (.isl .u8)), (5, vb_)], []⟩)]
abbrev K118.l0T : Type := (((List (UInt8)) × (List (UInt8)) × (List (api_Tlv)) × Int × Int × Unit) × Unit) → Option ((((List (UInt8)) × Unit) × Unit) ⊕ (((List (UInt8)) × Bool × Unit) × Unit))
noncomputable def K118.C : Code := match Tryz.f62.body with | some c => c | none => .skip
noncomputable def K118.B0 : Code := match (loopsOf K118.C).getD 0 .skip with | .loop b => b | .scope b => b | _ => .skip
noncomputable def K118.H (cK112 : K112.T) (cK81 : K81.T) (l0 : K118.l0T) : Hints U := { Γ := (addΓ 100 (K81.sig.native (K81.W cK81)) (addΓ 117 (K112.sig.native (K112.W cK112)) noΓ)), ro := 0, base := 13, loop := fun b => (bif Nat.beq b 5 then some (loopN (0, 13) K118.L0 K118.X0 l0) else none) }
noncomputable def K118.step0 (cK112 : K112.T) (cK81 : K81.T) (a : ((List (UInt8)) × (List (UInt8)) × (List (api_Tlv)) × Int × Int × Unit) × Unit) : Option ((((List (UInt8)) × (List (UInt8)) × (List (api_Tlv)) × Int × Int × Unit) × Unit) ⊕ ((((List (UInt8)) × Unit) × Unit) ⊕ (((List (UInt8)) × Bool × Unit) × Unit))) :=
 (bif ilt a.1.2.2.2.2.1 a.1.2.2.2.1 then (bif inR a.1.2.2.2.2.1 (List.length a.1.2.2.1) then (oelim (cK112 (List.getD a.1.2.2.1 (Int.toNat a.1.2.2.2.2.1) api_Tlv.zero)) none fun r0 => (bif !r0.1.1 then some (.inr (.inr ((a.1.1, (false, ())), ()))) else (oelim (cK81 a.1.2.1 (List.getD a.1.2.2.1 (Int.toNat a.1.2.2.2.2.1) api_Tlv.zero).fType 2) none fun r1 => (oelim (cK81 r1.1.1 (ofN (ByteArray.size (List.getD a.1.2.2.1 (Int.toNat a.1.2.2.2.2.1) api_Tlv.zero).fData)) 2) none fun r2 => (bif room (List.length r2.1.1 + List.length (List.getD a.1.2.2.1 (Int.toNat a.1.2.2.2.2.1) api_Tlv.zero).fData.data.toList) 1 then some (.inl ((a.1.1, (r2.1.1 ++ (List.getD a.1.2.2.1 (Int.toNat a.1.2.2.2.2.1) api_Tlv.zero).fData.data.toList, (a.1.2.2.1, (a.1.2.2.2.1, (iadd .i64 a.1.2.2.2.2.1 1, ()))))), ())) else none))))) else none) else some (.inr (.inl ((a.1.2.1, ()), ()))))
noncomputable def K118.F0 : K118.l0T := fun a => loopFix (1000000 + (a.1.1.length + a.1.2.1.length + a.1.2.2.1.length)) (K118.step0 K112 K81) a
noncomputable def K118.gen (cK112 : K112.T) (cK81 : K81.T) (l0 : K118.l0T) : K118.T := fun b l =>
 (bif ilt 8 (ofN (List.length l)) then some ((b, (false, ())), ((), ())) else (bif bif le3 (ofN 0) (ofN (List.length b)) (List.length b) then ieq (ofN (List.length b)) (ofN (List.length b)) else false then (oelim (l0 ((b, List.drop (Int.toNat (ofN 0)) (List.take (Int.toNat (ofN (List.length b))) b), l, ofN (List.length l), (0 : Int), ()), ())) none fun r0 => (selim r0 (fun r1 => some ((r1.1.1, (true, ())), ((), ()))) (fun r1 => some ((r1.1.1, (r1.1.2.1, ())), ((), ()))))) else none))
noncomputable def K118 : K118.T := K118.gen K112 K81 K118.F0
theorem K118.seq0 (cK112 : K112.T) (cK81 : K81.T) (l0 : K118.l0T) (a : K118.L0.T) : run Tryz.prog (K118.H cK112 cK81 l0) 6 (Option (K118.L0.T ⊕ ExT K118.X0)) none K118.B0 (K118.L0.enc a) (loopK (0, 13) K118.L0 K118.X0) = K118.step0 cK112 cK81 a := by kernel_rfl
theorem K118.inner0 : loopsOf K118.B0 = ([] : List Code) := by kernel_rfl
noncomputable abbrev K118.h := K118.H K112 K81 K118.F0
theorem K118.lok0 : LoopOK U Tryz.prog K118.h.ro K118.h.base K118.B0 (loopN (0, 13) K118.L0 K118.X0 K118.F0) :=
 loopN_ok (Hn := K118.h) U_ok U_pure (run_ok (hq (addΓ_ok (addΓ_ok noΓ_ok K112.ok) K81.ok) loops_nil (fun _ => rfl) (fun _ => rfl)) 6) (fun b h => by rw [K118.inner0] at h; exact h) (fun _ => rfl) (K118.seq0 K112 K81 K118.F0)
theorem K118.eq (cK112 : K112.T) (cK81 : K81.T) (l0 : K118.l0T) : EqA K118.sig (K118.H cK112 cK81 l0) Tryz.f62 6 (K118.W (K118.gen cK112 cK81 l0)) := by intro a x; kernel_rfl
theorem K118.loops : loopsOf K118.C = [(.loop K118.B0)] := by kernel_rfl
theorem K118.hints : HintsOK U Tryz.prog K118.h (fun c => c ∈ [(.loop K118.B0)]) := (hq (addΓ_ok (addΓ_ok noΓ_ok K112.ok) K81.ok) (loops_cons (by kernel_rfl) K118.lok0 loops_nil) (fun _ => rfl) (fun _ => rfl))
theorem K118.ok : NativeOK U Tryz.prog 62 (K118.sig.native (K118.W K118)) :=
 Sig.ok K118.sig (K118.W K118) U_pure (Hn := K118.h) (code := K118.C) (gos := 6) K118.hints Tryz.func62 (by kernel_rfl) (by kernel_rfl) (fun b h => by rw [K118.loops] at h; exact h) rfl rfl (by decide) (K118.eq K112 K81 K118.F0) (by decide)
noncomputable def K66.sig : Sig U := ⟨[.int .i64], [], 0, [.int .i64], false, []⟩
abbrev K66.T : Type := (Int) → Option ((Int × Unit) × Unit × Unit)
noncomputable def K66.W (f : K66.T) : K66.sig.F := fun a x => f a.1
noncomputable def K66.H : Hints U := { Γ := noΓ, ro := 0, base := 13 }
noncomputable def K66.gen : K66.T := fun typ =>
 (bif ieq typ 0 then some (((0 : Int), ()), ((), ())) else (bif ieq typ 1 then some (((1 : Int), ()), ((), ())) else (bif ieq typ 8 then some (((2 : Int), ()), ((), ())) else (bif ieq typ 9 then some (((3 : Int), ()), ((), ())) else (bif ieq typ 13 then some (((4 : Int), ()), ((), ())) else some (((5 : Int), ()), ((), ())))))))
noncomputable def K66 : K66.T := K66.gen
theorem K66.eq : EqA K66.sig (K66.H) Tryz.f119 6 (K66.W (K66.gen)) := by intro a x; kernel_rfl
theorem K66.hints : HintsOK U Tryz.prog (K66.H) (fun c => c ∈ ([] : List Code)) := (hq noΓ_ok loops_nil (fun _ => rfl) (fun _ => rfl))
theorem K66.ok : NativeOK U Tryz.prog 119 (K66.sig.native (K66.W K66)) :=
 Sig.ok K66.sig (K66.W (K66.gen)) U_pure (Hn := (K66.H)) (gos := 6) K66.hints Tryz.func119 rfl (by kernel_rfl) (fun b h => h) rfl rfl (by decide) (K66.eq) (by decide)
noncomputable def K65.sig : Sig U := ⟨[.data .t_api_Msg, .int .i64], [], 0, [.isl .u8, .bool], true, []⟩
abbrev K65.T : Type := (api_Msg) → (Int) → Option (((List (UInt8)) × Bool × Unit) × Unit × Unit)
noncomputable def K65.W (f : K65.T) : K65.sig.F := fun a x => f a.1 a.2.1
noncomputable def K65.H (cK62 : K62.T) (cK67 : K67.T) (cK81 : K81.T) (cK71 : K71.T) (cK66 : K66.T) : Hints U := { Γ := (addΓ 119 (K66.sig.native (K66.W cK66)) (addΓ 114 (K71.sig.native (K71.W cK71)) (addΓ 100 (K81.sig.native (K81.W cK81)) (addΓ 103 (K67.sig.native (K67.W cK67)) (addΓ 118 (K62.sig.native (K62.W cK62)) noΓ))))), ro := 0, base := 13, joinQ := fun b => (bif Nat.beq b 1 then some [(14, vb_)] else none) }
noncomputable def K65.gen (cK62 : K62.T) (cK67 : K67.T) (cK81 : K81.T) (cK71 : K71.T) (cK66 : K66.T) : K65.T := fun m length =>
 (oelim ((oelim (cK62 m) none fun r0 => (bif !r0.1.1 then some (true, ()) else (oelim (cK67 length 34 400) none fun r1 => some (!r1.1.1, ()))))) none fun r2 => (bif r2.1 then some ((lnil UInt8, (false, ())), ((), ())) else (oelim (cK81 (UInt8.ofNat (Int.toNat (IntKind.wrap .u8 m.fType)) :: UInt8.ofNat (Int.toNat 18) :: lnil UInt8) length 2) none fun r3 => (oelim (cK81 r3.1.1 m.fDomain 1) none fun r4 => (oelim (cK81 r4.1.1 0 1) none fun r5 => (oelim (cK81 r5.1.1 m.fFlags 2) none fun r6 => (oelim (cK81 r6.1.1 m.fCorr 8) none fun r7 => (oelim (cK81 r7.1.1 0 4) none fun r8 => (oelim (cK71 r8.1.1 m.fSource) none fun r9 => (oelim (cK81 r9.1.1 m.fSeq 2) none fun r10 => (oelim (cK66 m.fType) none fun r11 => (oelim (cK81 r10.1.1 r11.1.1 1) none fun r12 => (oelim (cK81 r12.1.1 m.fLog 1) none fun r13 => some ((r13.1.1, (true, ())), ((), ())))))))))))))))
noncomputable def K65 : K65.T := K65.gen K62 K67 K81 K71 K66
theorem K65.eq (cK62 : K62.T) (cK67 : K67.T) (cK81 : K81.T) (cK71 : K71.T) (cK66 : K66.T) : EqA K65.sig (K65.H cK62 cK67 cK81 cK71 cK66) Tryz.f63 6 (K65.W (K65.gen cK62 cK67 cK81 cK71 cK66)) := by intro a x; kernel_rfl
noncomputable abbrev K65.h := K65.H K62 K67 K81 K71 K66
theorem K65.hints : HintsOK U Tryz.prog K65.h (fun c => c ∈ ([] : List Code)) := (hq (addΓ_ok (addΓ_ok (addΓ_ok (addΓ_ok (addΓ_ok noΓ_ok K62.ok) K67.ok) K81.ok) K71.ok) K66.ok) loops_nil (fun _ => rfl) (fun _ => rfl))
theorem K65.ok : NativeOK U Tryz.prog 63 (K65.sig.native (K65.W K65)) :=
 Sig.ok K65.sig (K65.W K65) U_pure (Hn := K65.h) (gos := 6) K65.hints Tryz.func63 rfl (by kernel_rfl) (fun b h => h) rfl rfl (by decide) (K65.eq K62 K67 K81 K71 K66) (by decide)
noncomputable def K61.sig : Sig U := ⟨[.data .t_api_Msg, .isl .t_api_Tlv], [], 0, [.str, .bool], true, []⟩
abbrev K61.T : Type := (api_Msg) → (List (api_Tlv)) → Option ((ByteArray × Bool × Unit) × Unit × Unit)
noncomputable def K61.W (f : K61.T) : K61.sig.F := fun a x => f a.1 a.2.1
noncomputable def K61.C : Code := match Tryz.f33.body with | some c => c | none => .skip
noncomputable def K61.B0 : Code := match (loopsOf K61.C).getD 0 .skip with | .loop b => b | .scope b => b | _ => .skip
noncomputable def K61.H (cK3 : K3.T) (cK118 : K118.T) (cK65 : K65.T) : Hints U := { Γ := (addΓ 63 (K65.sig.native (K65.W cK65)) (addΓ 62 (K118.sig.native (K118.W cK118)) (addΓ 61 (K3.sig.native (K3.W cK3)) noΓ))), ro := 0, base := 13, gotos := 3, loop := fun b => none }
noncomputable def K61.gen (cK3 : K3.T) (cK118 : K118.T) (cK65 : K65.T) : K61.T := fun m l =>
 (oelim (cK3 (lnil UInt8) m) none fun r0 => (bif !r0.1.2.1 then some ((ByteArray.mk (List.toArray (lnil UInt8)), (false, ())), ((), ())) else (oelim (cK118 r0.1.1 l) none fun r1 => (bif !r1.1.2.1 then some ((ByteArray.mk (List.toArray (lnil UInt8)), (false, ())), ((), ())) else (oelim (cK65 m (iadd .i64 34 (ofN (List.length r1.1.1)))) none fun r2 => (bif !r2.1.2.1 then some ((ByteArray.mk (List.toArray (lnil UInt8)), (false, ())), ((), ())) else (bif Nat.ble (ByteArray.size (ByteArray.mk (List.toArray r2.1.1)) + ByteArray.size (ByteArray.mk (List.toArray r1.1.1))) 9223372036854775807 then some ((ByteArray.mk (List.toArray r2.1.1) ++ ByteArray.mk (List.toArray r1.1.1), (true, ())), ((), ())) else none)))))))
noncomputable def K61 : K61.T := K61.gen K3 K118 K65
theorem K61.eq (cK3 : K3.T) (cK118 : K118.T) (cK65 : K65.T) : EqA K61.sig (K61.H cK3 cK118 cK65) Tryz.f33 6 (K61.W (K61.gen cK3 cK118 cK65)) := by intro a x; kernel_rfl
theorem K61.loops : loopsOf K61.C = [(.scope K61.B0)] := by kernel_rfl
noncomputable abbrev K61.h := K61.H K3 K118 K65
theorem K61.hints : HintsOK U Tryz.prog K61.h (fun c => c ∈ [(.scope K61.B0)]) := (hq (addΓ_ok (addΓ_ok (addΓ_ok noΓ_ok K3.ok) K118.ok) K65.ok) (loops_skip loops_nil) (fun _ => rfl) (fun _ => rfl))
theorem K61.ok : NativeOK U Tryz.prog 33 (K61.sig.native (K61.W K61)) :=
 Sig.ok K61.sig (K61.W K61) U_pure (Hn := K61.h) (code := K61.C) (gos := 6) K61.hints Tryz.func33 (by kernel_rfl) (by kernel_rfl) (fun b h => by rw [K61.loops] at h; exact h) rfl rfl (by decide) (K61.eq K3 K118 K65) (by decide)
noncomputable def K21.sig : Sig U := ⟨[.ptr, .int .i64, .data .t_api_Msg, .isl .t_api_Tlv, .bool], [.obj .t_clock_Clock], 0, [], true, []⟩
abbrev K21.T : Type := (Int) → (api_Msg) → (List (api_Tlv)) → (Bool) → (clock_Clock) → Option (Unit × (clock_Clock × Unit) × Unit)
noncomputable def K21.W (f : K21.T) : K21.sig.F := fun a x => f a.2.1 a.2.2.1 a.2.2.2.1 a.2.2.2.2.1 x.1
noncomputable def K21.H (cK61 : K61.T) : Hints U := { Γ := (addΓ 33 (K61.sig.native (K61.W cK61)) noΓ), ro := 0, base := 14 }
noncomputable def K21.gen (cK61 : K61.T) : K21.T := fun n m l want h0 =>
 (oelim (cK61 m l) none fun r0 => (bif r0.1.2.1 then (bif room (List.length h0.fouts + List.length (api_Out.mk 1 n 0 want m.fType m.fSeq r0.1.1 :: lnil api_Out)) 64 then some ((), ((clock_Clock.set_fouts h0 (h0.fouts ++ api_Out.mk 1 n 0 want m.fType m.fSeq r0.1.1 :: lnil api_Out), ()), ())) else none) else some ((), ((h0, ()), ()))))
noncomputable def K21 : K21.T := K21.gen K61
theorem K21.eq (cK61 : K61.T) : EqA K21.sig (K21.H cK61) Tryz.f80 6 (K21.W (K21.gen cK61)) := by intro a x; kernel_rfl
noncomputable abbrev K21.h := K21.H K61
theorem K21.hints : HintsOK U Tryz.prog K21.h (fun c => c ∈ ([] : List Code)) := (hq (addΓ_ok noΓ_ok K61.ok) loops_nil (fun _ => rfl) (fun _ => rfl))
theorem K21.ok : NativeOK U Tryz.prog 80 (K21.sig.native (K21.W K21)) :=
 Sig.ok K21.sig (K21.W K21) U_pure (Hn := K21.h) (gos := 6) K21.hints Tryz.func80 rfl (by kernel_rfl) (fun b h => h) rfl rfl (by decide) (K21.eq K61) (by decide)
noncomputable def K100.sig : Sig U := ⟨[.int .i64], [], 0, [.int .i64], false, []⟩
abbrev K100.T : Type := (Int) → Option ((Int × Unit) × Unit × Unit)
noncomputable def K100.W (f : K100.T) : K100.sig.F := fun a x => f a.1
noncomputable def K100.H : Hints U := { Γ := noΓ, ro := 0, base := 13 }
noncomputable def K100.gen : K100.T := fun seq =>
 some ((iand .i64 (iadd .i64 (iand .i64 seq 65535) 1) 65535, ()), ((), ()))
noncomputable def K100 : K100.T := K100.gen
theorem K100.eq : EqA K100.sig (K100.H) Tryz.f142 6 (K100.W (K100.gen)) := by intro a x; kernel_rfl
theorem K100.hints : HintsOK U Tryz.prog (K100.H) (fun c => c ∈ ([] : List Code)) := (hq noΓ_ok loops_nil (fun _ => rfl) (fun _ => rfl))
theorem K100.ok : NativeOK U Tryz.prog 142 (K100.sig.native (K100.W K100)) :=
 Sig.ok K100.sig (K100.W (K100.gen)) U_pure (Hn := (K100.H)) (gos := 6) K100.hints Tryz.func142 rfl (by kernel_rfl) (fun b h => h) rfl rfl (by decide) (K100.eq) (by decide)
noncomputable def K86.sig : Sig U := ⟨[.ptr], [.obj .t_peer_Exchange], 0, [], true, []⟩
abbrev K86.T : Type := (peer_Exchange) → Option (Unit × (peer_Exchange × Unit) × Unit)
noncomputable def K86.W (f : K86.T) : K86.sig.F := fun a x => f x.1
noncomputable def K86.H : Hints U := { Γ := noΓ, ro := 0, base := 14 }
noncomputable def K86.gen : K86.T := fun h0 =>
 some ((), ((peer_Exchange.mk h0.fself h0.fdomain 0 0 false false false false z2_ 0, ()), ()))
noncomputable def K86 : K86.T := K86.gen
theorem K86.eq : EqA K86.sig (K86.H) Tryz.f98 6 (K86.W (K86.gen)) := by intro a x; kernel_rfl
theorem K86.hints : HintsOK U Tryz.prog (K86.H) (fun c => c ∈ ([] : List Code)) := (hq noΓ_ok loops_nil (fun _ => rfl) (fun _ => rfl))
theorem K86.ok : NativeOK U Tryz.prog 98 (K86.sig.native (K86.W K86)) :=
 Sig.ok K86.sig (K86.W (K86.gen)) U_pure (Hn := (K86.H)) (gos := 6) K86.hints Tryz.func98 rfl (by kernel_rfl) (fun b h => h) rfl rfl (by decide) (K86.eq) (by decide)
noncomputable def K87.sig : Sig U := ⟨[.ptr, .int .i64], [.obj .t_peer_Exchange], 0, [.data .t_api_Msg], false, []⟩
abbrev K87.T : Type := (Int) → (peer_Exchange) → Option ((api_Msg × Unit) × (peer_Exchange × Unit) × Unit)
noncomputable def K87.W (f : K87.T) : K87.sig.F := fun a x => f a.2.1 x.1
noncomputable def K87.H (cK86 : K86.T) : Hints U := { Γ := (addΓ 98 (K86.sig.native (K86.W cK86)) noΓ), ro := 0, base := 14 }
noncomputable def K87.gen (cK86 : K86.T) : K87.T := fun seq h0 =>
 (oelim (cK86 h0) none fun r0 => some ((api_Msg.mk 2 r0.2.1.1.fdomain 0 0 r0.2.1.1.fself (iand .i64 seq 65535) 127 0 z0_ 0 0 z1_ 0 0 0 0 0 0 0, ()), ((peer_Exchange.set_fout (peer_Exchange.set_fseq r0.2.1.1 (iand .i64 seq 65535)) true, ()), ())))
noncomputable def K87 : K87.T := K87.gen K86
theorem K87.eq (cK86 : K86.T) : EqA K87.sig (K87.H cK86) Tryz.f181 6 (K87.W (K87.gen cK86)) := by intro a x; kernel_rfl
noncomputable abbrev K87.h := K87.H K86
theorem K87.hints : HintsOK U Tryz.prog K87.h (fun c => c ∈ ([] : List Code)) := (hq (addΓ_ok noΓ_ok K86.ok) loops_nil (fun _ => rfl) (fun _ => rfl))
theorem K87.ok : NativeOK U Tryz.prog 181 (K87.sig.native (K87.W K87)) :=
 Sig.ok K87.sig (K87.W K87) U_pure (Hn := K87.h) (gos := 6) K87.hints Tryz.func181 rfl (by kernel_rfl) (fun b h => h) rfl rfl (by decide) (K87.eq K86) (by decide)
noncomputable def K49.sig : Sig U := ⟨[.ptr, .int .i64, .int .i64], [.obj .t_delay_Exchange], 0, [.data .t_api_Msg], false, []⟩
abbrev K49.T : Type := (Int) → (Int) → (delay_Exchange) → Option ((api_Msg × Unit) × (delay_Exchange × Unit) × Unit)
noncomputable def K49.W (f : K49.T) : K49.sig.F := fun a x => f a.2.1 a.2.2.1 x.1
noncomputable def K49.H : Hints U := { Γ := noΓ, ro := 0, base := 14 }
noncomputable def K49.gen : K49.T := fun seq a_2 h0 =>
 some ((api_Msg.mk 1 h0.fdomain 0 0 h0.fself (iand .i64 seq 65535) 127 0 z0_ 0 0 z1_ 0 0 0 0 0 0 0, ()), ((delay_Exchange.set_fr h0 (delay_request.mk (iand .i64 seq 65535) 0 true false), ()), ()))
noncomputable def K49 : K49.T := K49.gen
theorem K49.eq : EqA K49.sig (K49.H) Tryz.f182 6 (K49.W (K49.gen)) := by intro a x; kernel_rfl
theorem K49.hints : HintsOK U Tryz.prog (K49.H) (fun c => c ∈ ([] : List Code)) := (hq noΓ_ok loops_nil (fun _ => rfl) (fun _ => rfl))
theorem K49.ok : NativeOK U Tryz.prog 182 (K49.sig.native (K49.W K49)) :=
 Sig.ok K49.sig (K49.W (K49.gen)) U_pure (Hn := (K49.H)) (gos := 6) K49.hints Tryz.func182 rfl (by kernel_rfl) (fun b h => h) rfl rfl (by decide) (K49.eq) (by decide)
noncomputable def K32.sig : Sig U := ⟨[.ptr, .bool], [.obj .t_clock_side, fm7_, fm8_], 0, [.data .t_api_Msg], false, []⟩
abbrev K32.T : Type := (Bool) → (clock_side) → (Fm delay_Exchange) → (Fm peer_Exchange) → Option ((api_Msg × Unit) × (clock_side × (Fm delay_Exchange) × (Fm peer_Exchange) × Unit) × Unit)
noncomputable def K32.W (f : K32.T) : K32.sig.F := fun a x => f a.2.1 x.1 x.2.1 x.2.2.1
noncomputable def K32.JR2 : Exits U := [(.normal, ⟨24, 15, [(4, .ptr 14 0 0)], [(13, .obj .t_clock_side), (14, .obj .t_api_Msg), (7, .famN false .t_delay_Exchange), (8, .famN false .t_peer_Exchange)]⟩)]
noncomputable def K32.H (cK87 : K87.T) (cK49 : K49.T) : Hints U := { Γ := (addΓ 182 (K49.sig.native (K49.W cK49)) (addΓ 181 (K87.sig.native (K87.W cK87)) noΓ)), ro := 0, base := 14, joinR := fun b => (bif Nat.beq b 2 then some K32.JR2 else none) }
noncomputable def K32.gen (cK87 : K87.T) (cK49 : K49.T) : K32.T := fun peer h0 g7 g8 =>
 (bif peer then (oelim ((oelim (h0.14) none fun r0 => (oelim (cK87 h0.frequests (g8.2 r0)) none fun r1 => some ((), (h0, (r1.1.1, (g7, ((g8.1, fset g8.2 r0 r1.2.1.1), ())))))))) none fun r2 => some ((r2.2.2.1, ()), ((r2.2.1, (r2.2.2.2.1, (r2.2.2.2.2.1, ()))), ()))) else (oelim (h0.13) none fun r3 => (oelim (cK49 h0.frequests 0 (g7.2 r3)) none fun r4 => some ((r4.1.1, ()), ((h0, ((g7.1, fset g7.2 r3 r4.2.1.1), (g8, ()))), ())))))
noncomputable def K32 : K32.T := K32.gen K87 K49
theorem K32.eq (cK87 : K87.T) (cK49 : K49.T) : EqA K32.sig (K32.H cK87 cK49) Tryz.f143 6 (K32.W (K32.gen cK87 cK49)) := by intro a x; kernel_rfl
noncomputable abbrev K32.h := K32.H K87 K49
theorem K32.hints : HintsOK U Tryz.prog K32.h (fun c => c ∈ ([] : List Code)) := (hq (addΓ_ok (addΓ_ok noΓ_ok K87.ok) K49.ok) loops_nil (fun _ => rfl) (fun _ => rfl))
theorem K32.ok : NativeOK U Tryz.prog 143 (K32.sig.native (K32.W K32)) :=
 Sig.ok K32.sig (K32.W K32) U_pure (Hn := K32.h) (gos := 6) K32.hints Tryz.func143 rfl (by kernel_rfl) (fun b h => h) rfl rfl (by decide) (K32.eq K87 K49) (by decide)
noncomputable def K26.sig : Sig U := ⟨[.ptr, .int .i64, .int .i64], [.obj .t_clock_Clock, fm7_, fm8_, .fam 12 (.map true false .t_api_PortID .l_u64)], 0, [], true, []⟩
abbrev K26.T : Type := (Int) → (Int) → (clock_Clock) → (Fm delay_Exchange) → (Fm peer_Exchange) → (Nat × (Nat → List (api_PortID × List (Int)))) → Option (Unit × (clock_Clock × (Fm delay_Exchange) × (Fm peer_Exchange) × (Nat × (Nat → List (api_PortID × List (Int)))) × Unit) × Unit)
noncomputable def K26.W (f : K26.T) : K26.sig.F := fun a x => f a.2.1 a.2.2.1 x.1 x.2.1 x.2.2.1 x.2.2.2.1
noncomputable def K26.JR20 : Exits U := [(.normal, ⟨179, 14, [(0, .ptr 13 0 0), (6, .aptr 13 23 42 8 0)], [(13, .obj .t_clock_Clock), (7, .famN false .t_delay_Exchange), (8, .famN false .t_peer_Exchange), (12, .mfam true false .t_api_PortID .l_u64)]⟩)]
noncomputable def K26.JR19 : Exits U := [(.normal, ⟨179, 14, [(0, .ptr 13 0 0), (6, .aptr 13 23 42 8 0)], [(13, .obj .t_clock_Clock), (7, .famN false .t_delay_Exchange), (8, .famN false .t_peer_Exchange), (12, .mfam true false .t_api_PortID .l_u64)]⟩)]
noncomputable def K26.JR18 : Exits U := [(.normal, ⟨179, 15, [(0, .ptr 13 0 0), (1, vi_), (6, .aptr 13 23 42 8 0), (9, .ptr 14 0 0)], [(13, .obj .t_clock_Clock), (14, .obj .t_api_Msg), (7, .famN false .t_delay_Exchange), (8, .famN false .t_peer_Exchange), (12, .mfam true false .t_api_PortID .l_u64)]⟩)]
noncomputable def K26.JR17 : Exits U := [(.normal, ⟨179, 15, [(0, .ptr 13 0 0), (1, vi_), (6, .aptr 13 23 42 8 0), (9, .ptr 14 0 0)], [(13, .obj .t_clock_Clock), (14, .obj .t_api_Msg), (7, .famN false .t_delay_Exchange), (8, .famN false .t_peer_Exchange), (12, .mfam true false .t_api_PortID .l_u64)]⟩)]
noncomputable def K26.JR16 : Exits U := [(.normal, ⟨179, 14, [(0, .ptr 13 0 0), (1, vi_), (6, .aptr 13 23 42 8 0), (143, vb_)], [(13, .obj .t_clock_Clock), (7, .famN false .t_delay_Exchange), (8, .famN false .t_peer_Exchange), (12, .mfam true false .t_api_PortID .l_u64)]⟩)]
noncomputable def K26.JR11 : Exits U := [(.normal, ⟨179, 14, [(0, .ptr 13 0 0), (1, vi_), (6, .aptr 13 23 42 8 0)], [(13, .obj .t_clock_Clock), (7, .famN false .t_delay_Exchange), (8, .famN false .t_peer_Exchange), (12, .mfam true false .t_api_PortID .l_u64)]⟩)]
noncomputable def K26.JR10 : Exits U := [(.normal, ⟨179, 14, [(0, .ptr 13 0 0), (1, vi_), (6, .aptr 13 23 42 8 0)], [(13, .obj .t_clock_Clock), (7, .famN false .t_delay_Exchange), (8, .famN false .t_peer_Exchange), (12, .mfam true false .t_api_PortID .l_u64)]⟩)]
noncomputable def K26.JR6 : Exits U := [(.normal, ⟨179, 15, [(0, .ptr 13 0 0), (1, vi_), (2, vi_), (6, .aptr 13 23 42 8 0), (7, .ptr 14 0 0)], [(13, .obj .t_clock_Clock), (14, .obj .t_api_Msg), (7, .famN false .t_delay_Exchange), (8, .famN false .t_peer_Exchange), (12, .mfam true false .t_api_PortID .l_u64)]⟩)]
noncomputable def K26.JR5 : Exits U := [(.normal, ⟨179, 14, [(0, .ptr 13 0 0), (1, vi_), (2, vi_), (6, .aptr 13 23 42 8 0), (67, vb_)], [(13, .obj .t_clock_Clock), (7, .famN false .t_delay_Exchange), (8, .famN false .t_peer_Exchange), (12, .mfam true false .t_api_PortID .l_u64)]⟩)]
noncomputable def K26.JR3 : Exits U := [(.normal, ⟨179, 14, [(0, .ptr 13 0 0), (1, vi_), (2, vi_), (6, .aptr 13 23 42 8 0)], [(13, .obj .t_clock_Clock), (7, .famN false .t_delay_Exchange), (8, .famN false .t_peer_Exchange), (12, .mfam true false .t_api_PortID .l_u64)]⟩)]
noncomputable def K26.JR2 : Exits U := [(.normal, ⟨179, 14, [(0, .ptr 13 0 0), (1, vi_), (2, vi_), (6, .aptr 13 23 42 8 0)], [(13, .obj .t_clock_Clock), (7, .famN false .t_delay_Exchange), (8, .famN false .t_peer_Exchange), (12, .mfam true false .t_api_PortID .l_u64)]⟩)]
noncomputable def K26.JR1 : Exits U := [(.normal, ⟨179, 14, [(0, .ptr 13 0 0), (1, vi_), (2, vi_), (6, .aptr 13 23 42 8 0), (23, vb_)], [(13, .obj .t_clock_Clock), (7, .famN false .t_delay_Exchange), (8, .famN false .t_peer_Exchange), (12, .mfam true false .t_api_PortID .l_u64)]⟩)]
noncomputable def K26.JC15 : Exits U := [(.normal, ⟨179, 14, [(0, .ptr 13 0 0), (1, vi_), (6, .aptr 13 23 42 8 0), (8, vb_)], [(13, .obj .t_clock_Clock), (7, .famN false .t_delay_Exchange), (8, .famN false .t_peer_Exchange), (12, .mfam true false .t_api_PortID .l_u64)]⟩)]
noncomputable def K26.JC8 : Exits U := [(.normal, ⟨179, 15, [(0, .ptr 13 0 0), (1, vi_), (6, .aptr 13 23 42 8 0), (7, .ptr 14 0 0)], [(13, .obj .t_clock_Clock), (14, .obj .t_api_Msg), (7, .famN false .t_delay_Exchange), (8, .famN false .t_peer_Exchange), (12, .mfam true false .t_api_PortID .l_u64)]⟩)]
noncomputable def K26.JC6 : Exits U := [(.normal, ⟨179, 14, [(0, .ptr 13 0 0), (1, vi_), (6, .aptr 13 23 42 8 0)], [(13, .obj .t_clock_Clock), (7, .famN false .t_delay_Exchange), (8, .famN false .t_peer_Exchange), (12, .mfam true false .t_api_PortID .l_u64)]⟩)]
noncomputable def K26.JC2 : Exits U := [(.normal, ⟨179, 14, [(0, .ptr 13 0 0), (1, vi_), (2, vi_), (6, .aptr 13 23 42 8 0)], [(13, .obj .t_clock_Clock), (7, .famN false .t_delay_Exchange), (8, .famN false .t_peer_Exchange), (12, .mfam true false .t_api_PortID .l_u64)]⟩)]
noncomputable def K26.H (cK25 : K25.T) (cK111 : K111.T) (cK121 : K121.T) (cK22 : K22.T) (cK21 : K21.T) (cK100 : K100.T) (cK12 : K12.T) (cK109 : K109.T) (cK24 : K24.T) (cK107 : K107.T) (cK91 : K91.T) (cK89 : K89.T) (cK32 : K32.T) : Hints U := { Γ := (addΓ 143 (K32.sig.native (K32.W cK32)) (addΓ 74 (K89.sig.native (K89.W cK89)) (addΓ 76 (K91.sig.native (K91.W cK91)) (addΓ 132 (K107.sig.native (K107.W cK107)) (addΓ 79 (K24.sig.native (K24.W cK24)) (addΓ 126 (K109.sig.native (K109.W cK109)) (addΓ 70 (K12.sig.native (K12.W cK12)) (addΓ 142 (K100.sig.native (K100.W cK100)) (addΓ 80 (K21.sig.native (K21.W cK21)) (addΓ 141 (K22.sig.native (K22.W cK22)) (addΓ 140 (K121.sig.native (K121.W cK121)) (addΓ 130 (K111.sig.native (K111.W cK111)) (addΓ 52 (K25.sig.native (K25.W cK25)) noΓ))))))))))))), ro := 0, base := 14, joinR := fun b => (bif Nat.beq b 1 then some K26.JR1 else (bif Nat.beq b 2 then some K26.JR2 else (bif Nat.beq b 3 then some K26.JR3 else (bif Nat.beq b 5 then some K26.JR5 else (bif Nat.beq b 6 then some K26.JR6 else (bif Nat.beq b 10 then some K26.JR10 else (bif Nat.beq b 11 then some K26.JR11 else (bif Nat.beq b 16 then some K26.JR16 else (bif Nat.beq b 17 then some K26.JR17 else (bif Nat.beq b 18 then some K26.JR18 else (bif Nat.beq b 19 then some K26.JR19 else (bif Nat.beq b 20 then some K26.JR20 else none)))))))))))), joinC := fun b => (bif Nat.beq b 2 then some K26.JC2 else (bif Nat.beq b 6 then some K26.JC6 else (bif Nat.beq b 8 then some K26.JC8 else (bif Nat.beq b 15 then some K26.JC15 else none)))) }
noncomputable def K26.gen (cK25 : K25.T) (cK111 : K111.T) (cK121 : K121.T) (cK22 : K22.T) (cK21 : K21.T) (cK100 : K100.T) (cK12 : K12.T) (cK109 : K109.T) (cK24 : K24.T) (cK107 : K107.T) (cK91 : K91.T) (cK89 : K89.T) (cK32 : K32.T) : K26.T := fun n now h0 g7 g8 g12 =>
 (oelim (cK25 n h0) none fun r0 => (oelim ((bif ieq (h0.fports r0.1.1).fstate 6 then (oelim (cK111 (h0.fports r0.1.1).fannounce) none fun r1 => some ((n, (now, (r0.1.1, (r1.1.1, ())))), (clock_Clock.set_fports h0 (fset h0.fports r0.1.1 (clock_side.set_fannounce (h0.fports r0.1.1) r1.2.1.1)), (g7, (g8, (g12, ())))))) else some ((n, (now, (r0.1.1, (false, ())))), (h0, (g7, (g8, (g12, ()))))))) none fun r2 => (oelim ((bif r2.1.2.2.2.1 then (oelim ((oelim (cK121 r2.2.1.fconf r2.2.1.fparent r2.1.1 (r2.2.1.fports r2.1.2.2.1).fannounces) none fun r3 => (oelim (cK22 r2.2.1 r2.2.2.2.2.1) none fun r4 => (oelim (cK21 r2.1.1 r3.1.1 r4.1.1 false r2.2.1) none fun r5 => some ((r2.1.1, (r2.1.2.1, (r2.1.2.2.1, ()))), (r5.2.1.1, (r2.2.2.1, (r2.2.2.2.1, (r2.2.2.2.2.1, ()))))))))) none fun r6 => (oelim ((oelim (cK100 (r6.2.1.fports r6.1.2.2.1).fannounces) none fun r7 => some ((r6.1.1, (r6.1.2.1, (r6.1.2.2.1, ()))), (clock_Clock.set_fports r6.2.1 (fset r6.2.1.fports r6.1.2.2.1 (clock_side.set_fannounces (r6.2.1.fports r6.1.2.2.1) r7.1.1)), (r6.2.2.1, (r6.2.2.2.1, (r6.2.2.2.2.1, ()))))))) none fun r8 => (oelim (cK12 r8.2.1) none fun r9 => (oelim (cK109 r9.1.1 (r8.2.1.fports r8.1.2.2.1).fannounce) none fun r10 => some ((r8.1.1, (r8.1.2.1, (r8.1.2.2.1, ()))), (clock_Clock.set_fports r8.2.1 (fset r8.2.1.fports r8.1.2.2.1 (clock_side.set_fannounce (r8.2.1.fports r8.1.2.2.1) r10.2.1.1)), (r8.2.2.1, (r8.2.2.2.1, (r8.2.2.2.2.1, ()))))))))) else some ((r2.1.1, (r2.1.2.1, (r2.1.2.2.1, ()))), (r2.2.1, (r2.2.2.1, (r2.2.2.2.1, (r2.2.2.2.2.1, ()))))))) none fun r11 => (oelim ((bif ieq (r11.2.1.fports r11.1.2.2.1).fstate 6 then (oelim (cK111 (r11.2.1.fports r11.1.2.2.1).fsync) none fun r12 => some ((r11.1.1, (r11.1.2.1, (r11.1.2.2.1, (r12.1.1, ())))), (clock_Clock.set_fports r11.2.1 (fset r11.2.1.fports r11.1.2.2.1 (clock_side.set_fsync (r11.2.1.fports r11.1.2.2.1) r12.2.1.1)), (r11.2.2.1, (r11.2.2.2.1, (r11.2.2.2.2.1, ())))))) else some ((r11.1.1, (r11.1.2.1, (r11.1.2.2.1, (false, ())))), (r11.2.1, (r11.2.2.1, (r11.2.2.2.1, (r11.2.2.2.2.1, ()))))))) none fun r13 => (oelim ((bif r13.1.2.2.2.1 then (oelim ((oelim (cK24 r13.1.1 r13.2.1) none fun r14 => some ((r13.1.1, (r13.1.2.1, (r13.1.2.2.1, ()))), (r13.2.1, (api_Msg.mk 0 r13.2.1.fconf.fDomain 0 0 r14.1.1 (r13.2.1.fports r13.1.2.2.1).fsyncs r13.2.1.fconf.fLogSync 0 z0_ 0 0 z1_ 0 0 0 0 0 0 0, (r13.2.2.1, (r13.2.2.2.1, (r13.2.2.2.2.1, ())))))))) none fun r15 => (oelim ((bif r15.2.1.fconf.fOneStep then some ((r15.1.1, (r15.1.2.2.1, ())), (r15.2.1, (api_Msg.set_fStamp r15.2.2.1 r15.1.2.1, (r15.2.2.2.1, (r15.2.2.2.2.1, (r15.2.2.2.2.2.1, ())))))) else some ((r15.1.1, (r15.1.2.2.1, ())), (r15.2.1, (api_Msg.set_fFlags r15.2.2.1 512, (r15.2.2.2.1, (r15.2.2.2.2.1, (r15.2.2.2.2.2.1, ())))))))) none fun r16 => (oelim ((oelim (cK21 r16.1.1 r16.2.2.1 (lnil api_Tlv) (!r16.2.1.fconf.fOneStep) r16.2.1) none fun r17 => some ((r16.1.1, (r16.1.2.1, ())), (r17.2.1.1, (r16.2.2.2.1, (r16.2.2.2.2.1, (r16.2.2.2.2.2.1, ()))))))) none fun r18 => (oelim ((oelim (cK100 (r18.2.1.fports r18.1.2.1).fsyncs) none fun r19 => some ((r18.1.1, (r18.1.2.1, ())), (clock_Clock.set_fports r18.2.1 (fset r18.2.1.fports r18.1.2.1 (clock_side.set_fsyncs (r18.2.1.fports r18.1.2.1) r19.1.1)), (r18.2.2.1, (r18.2.2.2.1, (r18.2.2.2.2.1, ()))))))) none fun r20 => (oelim (cK107 r20.2.1.fconf.fLogSync) none fun r21 => (oelim (cK109 r21.1.1 (r20.2.1.fports r20.1.2.1).fsync) none fun r22 => some ((r20.1.1, (r20.1.2.1, ())), (clock_Clock.set_fports r20.2.1 (fset r20.2.1.fports r20.1.2.1 (clock_side.set_fsync (r20.2.1.fports r20.1.2.1) r22.2.1.1)), (r20.2.2.1, (r20.2.2.2.1, (r20.2.2.2.2.1, ()))))))))))) else some ((r13.1.1, (r13.1.2.2.1, ())), (r13.2.1, (r13.2.2.1, (r13.2.2.2.1, (r13.2.2.2.2.1, ()))))))) none fun r23 => (oelim (cK91 (r23.2.1.fports r23.1.2.1).fstate) none fun r24 => (oelim ((bif r23.2.1.fconf.fPeer then (oelim (cK89 (r23.2.1.fports r23.1.2.1).fstate) none fun r25 => some ((r23.1.1, (r23.1.2.1, (r25.1.1, ()))), (r23.2.1, (r23.2.2.1, (r23.2.2.2.1, (r23.2.2.2.2.1, ())))))) else some ((r23.1.1, (r23.1.2.1, (r24.1.1, ()))), (r23.2.1, (r23.2.2.1, (r23.2.2.2.1, (r23.2.2.2.2.1, ()))))))) none fun r26 => (oelim ((bif r26.1.2.2.1 then (oelim (cK111 (r26.2.1.fports r26.1.2.1).fask) none fun r27 => some ((r26.1.1, (r26.1.2.1, (r27.1.1, ()))), (clock_Clock.set_fports r26.2.1 (fset r26.2.1.fports r26.1.2.1 (clock_side.set_fask (r26.2.1.fports r26.1.2.1) r27.2.1.1)), (r26.2.2.1, (r26.2.2.2.1, (r26.2.2.2.2.1, ())))))) else some ((r26.1.1, (r26.1.2.1, (false, ()))), (r26.2.1, (r26.2.2.1, (r26.2.2.2.1, (r26.2.2.2.2.1, ()))))))) none fun r28 => (bif r28.1.2.2.1 then (oelim ((oelim (cK32 r28.2.1.fconf.fPeer (r28.2.1.fports r28.1.2.1) r28.2.2.1 r28.2.2.2.1) none fun r29 => some ((r28.1.1, (r28.1.2.1, ())), (clock_Clock.set_fports r28.2.1 (fset r28.2.1.fports r28.1.2.1 r29.2.1.1), (r29.1.1, (r29.2.1.2.1, (r29.2.1.2.2.1, (r28.2.2.2.2.1, ())))))))) none fun r30 => (oelim ((oelim (cK21 r30.1.1 (api_Msg.set_fDomain r30.2.2.1 r30.2.1.fconf.fDomain) (lnil api_Tlv) true r30.2.1) none fun r31 => some ((r30.1.2.1, ()), (r31.2.1.1, (r30.2.2.2.1, (r30.2.2.2.2.1, (r30.2.2.2.2.2.1, ()))))))) none fun r32 => (oelim ((oelim (cK100 (r32.2.1.fports r32.1.1).frequests) none fun r33 => some ((r32.1.1, ()), (clock_Clock.set_fports r32.2.1 (fset r32.2.1.fports r32.1.1 (clock_side.set_frequests (r32.2.1.fports r32.1.1) r33.1.1)), (r32.2.2.1, (r32.2.2.2.1, (r32.2.2.2.2.1, ()))))))) none fun r34 => (oelim (cK107 r34.2.1.fconf.fLogDelay) none fun r35 => (oelim (cK109 r35.1.1 (r34.2.1.fports r34.1.1).fask) none fun r36 => some ((), ((clock_Clock.set_fports r34.2.1 (fset r34.2.1.fports r34.1.1 (clock_side.set_fask (r34.2.1.fports r34.1.1) r36.2.1.1)), (r34.2.2.1, (r34.2.2.2.1, (r34.2.2.2.2.1, ())))), ()))))))) else some ((), ((r28.2.1, (r28.2.2.1, (r28.2.2.2.1, (r28.2.2.2.2.1, ())))), ())))))))))))
noncomputable def K26 : K26.T := K26.gen K25 K111 K121 K22 K21 K100 K12 K109 K24 K107 K91 K89 K32
theorem K26.eq (cK25 : K25.T) (cK111 : K111.T) (cK121 : K121.T) (cK22 : K22.T) (cK21 : K21.T) (cK100 : K100.T) (cK12 : K12.T) (cK109 : K109.T) (cK24 : K24.T) (cK107 : K107.T) (cK91 : K91.T) (cK89 : K89.T) (cK32 : K32.T) : EqA K26.sig (K26.H cK25 cK111 cK121 cK22 cK21 cK100 cK12 cK109 cK24 cK107 cK91 cK89 cK32) Tryz.f72 6 (K26.W (K26.gen cK25 cK111 cK121 cK22 cK21 cK100 cK12 cK109 cK24 cK107 cK91 cK89 cK32)) := by intro a x; kernel_rfl
noncomputable abbrev K26.h := K26.H K25 K111 K121 K22 K21 K100 K12 K109 K24 K107 K91 K89 K32
theorem K26.hints : HintsOK U Tryz.prog K26.h (fun c => c ∈ ([] : List Code)) := (hq (addΓ_ok (addΓ_ok (addΓ_ok (addΓ_ok (addΓ_ok (addΓ_ok (addΓ_ok (addΓ_ok (addΓ_ok (addΓ_ok (addΓ_ok (addΓ_ok (addΓ_ok noΓ_ok K25.ok) K111.ok) K121.ok) K22.ok) K21.ok) K100.ok) K12.ok) K109.ok) K24.ok) K107.ok) K91.ok) K89.ok) K32.ok) loops_nil (fun _ => rfl) (fun _ => rfl))
theorem K26.ok : NativeOK U Tryz.prog 72 (K26.sig.native (K26.W K26)) :=
 Sig.ok K26.sig (K26.W K26) U_pure (Hn := K26.h) (gos := 6) K26.hints Tryz.func72 rfl (by kernel_rfl) (fun b h => h) rfl rfl (by decide) (K26.eq K25 K111 K121 K22 K21 K100 K12 K109 K24 K107 K91 K89 K32) (by decide)
noncomputable def K27.sig : Sig U := ⟨[.ptr, .int .i64], [.obj .t_clock_Clock, fm6_, fm7_, fm8_, fm9_, fm10_, .fam 12 (.map true false .t_api_PortID .l_u64)], 0, [], true, []⟩
abbrev K27.T : Type := (Int) → (clock_Clock) → (Fm foreign_Table) → (Fm delay_Exchange) → (Fm peer_Exchange) → (Fm median_Filter) → (Fm seq_Match) → (Nat × (Nat → List (api_PortID × List (Int)))) → Option (Unit × (clock_Clock × (Fm foreign_Table) × (Fm delay_Exchange) × (Fm peer_Exchange) × (Fm median_Filter) × (Fm seq_Match) × (Nat × (Nat → List (api_PortID × List (Int)))) × Unit) × Unit)
noncomputable def K27.W (f : K27.T) : K27.sig.F := fun a x => f a.2.1 x.1 x.2.1 x.2.2.1 x.2.2.2.1 x.2.2.2.2.1 x.2.2.2.2.2.1 x.2.2.2.2.2.2.1
noncomputable def K27.L0 : Shape U := ⟨52, 14, [(0, .ptr 13 0 0), (1, vi_), (4, vi_)], [(13, .obj .t_clock_Clock), (6, .famN false .t_foreign_Table), (7, .famN false .t_delay_Exchange), (8, .famN false .t_peer_Exchange), (9, .famN false .t_median_Filter), (10, .famN false .t_seq_Match), (12, .mfam true false .t_api_PortID .l_u64)]⟩
noncomputable def K27.X0 : Exits U := [(.exit 0, ⟨52, 14, [(0, .ptr 13 0 0), (1, vi_)], [(13, .obj .t_clock_Clock), (6, .famN false .t_foreign_Table), (7, .famN false .t_delay_Exchange), (8, .famN false .t_peer_Exchange), (9, .famN false .t_median_Filter), (10, .famN false .t_seq_Match), (12, .mfam true false .t_api_PortID .l_u64)]⟩)]
abbrev K27.l0T : Type := ((Int × Int × Unit) × (clock_Clock × (Fm foreign_Table) × (Fm delay_Exchange) × (Fm peer_Exchange) × (Fm median_Filter) × (Fm seq_Match) × (Nat × (Nat → List (api_PortID × List (Int)))) × Unit)) → Option (((Int × Unit) × (clock_Clock × (Fm foreign_Table) × (Fm delay_Exchange) × (Fm peer_Exchange) × (Fm median_Filter) × (Fm seq_Match) × (Nat × (Nat → List (api_PortID × List (Int)))) × Unit)))
noncomputable def K27.L1 : Shape U := ⟨52, 14, [(0, .ptr 13 0 0), (1, vi_), (5, vi_)], [(13, .obj .t_clock_Clock), (6, .famN false .t_foreign_Table), (7, .famN false .t_delay_Exchange), (8, .famN false .t_peer_Exchange), (9, .famN false .t_median_Filter), (10, .famN false .t_seq_Match), (12, .mfam true false .t_api_PortID .l_u64)]⟩
noncomputable def K27.X1 : Exits U := [(.exit 2, ⟨52, 14, [], [(13, .obj .t_clock_Clock), (6, .famN false .t_foreign_Table), (7, .famN false .t_delay_Exchange), (8, .famN false .t_peer_Exchange), (9, .famN false .t_median_Filter), (10, .famN false .t_seq_Match), (12, .mfam true false .t_api_PortID .l_u64)]⟩)]
abbrev K27.l1T : Type := ((Int × Int × Unit) × (clock_Clock × (Fm foreign_Table) × (Fm delay_Exchange) × (Fm peer_Exchange) × (Fm median_Filter) × (Fm seq_Match) × (Nat × (Nat → List (api_PortID × List (Int)))) × Unit)) → Option ((Unit × (clock_Clock × (Fm foreign_Table) × (Fm delay_Exchange) × (Fm peer_Exchange) × (Fm median_Filter) × (Fm seq_Match) × (Nat × (Nat → List (api_PortID × List (Int)))) × Unit)))
noncomputable def K27.C : Code := match Tryz.f44.body with | some c => c | none => .skip
noncomputable def K27.B0 : Code := match (loopsOf K27.C).getD 0 .skip with | .loop b => b | .scope b => b | _ => .skip
noncomputable def K27.B1 : Code := match (loopsOf K27.C).getD 1 .skip with | .loop b => b | .scope b => b | _ => .skip
noncomputable def K27.JR10 : Exits U := [(.normal, ⟨52, 14, [(0, .ptr 13 0 0), (1, vi_), (5, vi_)], [(13, .obj .t_clock_Clock), (6, .famN false .t_foreign_Table), (7, .famN false .t_delay_Exchange), (8, .famN false .t_peer_Exchange), (9, .famN false .t_median_Filter), (10, .famN false .t_seq_Match), (12, .mfam true false .t_api_PortID .l_u64)]⟩)]
noncomputable def K27.JR4 : Exits U := [(.normal, ⟨52, 14, [(0, .ptr 13 0 0), (1, vi_), (4, vi_)], [(13, .obj .t_clock_Clock), (6, .famN false .t_foreign_Table), (7, .famN false .t_delay_Exchange), (8, .famN false .t_peer_Exchange), (9, .famN false .t_median_Filter), (10, .famN false .t_seq_Match), (12, .mfam true false .t_api_PortID .l_u64)]⟩)]
noncomputable def K27.JR0 : Exits U := [(.normal, ⟨52, 14, [(0, .ptr 13 0 0), (1, vi_)], [(13, .obj .t_clock_Clock), (6, .famN false .t_foreign_Table), (7, .famN false .t_delay_Exchange), (8, .famN false .t_peer_Exchange), (9, .famN false .t_median_Filter), (10, .famN false .t_seq_Match), (12, .mfam true false .t_api_PortID .l_u64)]⟩)]
noncomputable def K27.JC6 : Exits U := [(.normal, ⟨52, 14, [(0, .ptr 13 0 0), (1, vi_)], [(13, .obj .t_clock_Clock), (6, .famN false .t_foreign_Table), (7, .famN false .t_delay_Exchange), (8, .famN false .t_peer_Exchange), (9, .famN false .t_median_Filter), (10, .famN false .t_seq_Match), (12, .mfam true false .t_api_PortID .l_u64)]⟩)]
noncomputable def K27.H (cK25 : K25.T) (cK15 : K15.T) (cK12 : K12.T) (cK16 : K16.T) (cK26 : K26.T) (l0 : K27.l0T) (l1 : K27.l1T) : Hints U := { Γ := (addΓ 72 (K26.sig.native (K26.W cK26)) (addΓ 71 (K16.sig.native (K16.W cK16)) (addΓ 70 (K12.sig.native (K12.W cK12)) (addΓ 69 (K15.sig.native (K15.W cK15)) (addΓ 52 (K25.sig.native (K25.W cK25)) noΓ))))), ro := 0, base := 14, joinR := fun b => (bif Nat.beq b 0 then some K27.JR0 else (bif Nat.beq b 4 then some K27.JR4 else (bif Nat.beq b 10 then some K27.JR10 else none))), joinC := fun b => (bif Nat.beq b 6 then some K27.JC6 else none), loop := fun b => (bif Nat.beq b 2 then some (loopN (0, 14) K27.L0 K27.X0 l0) else (bif Nat.beq b 8 then some (loopN (0, 14) K27.L1 K27.X1 l1) else none)) }
noncomputable def K27.step1 (cK25 : K25.T) (cK15 : K15.T) (cK12 : K12.T) (cK16 : K16.T) (cK26 : K26.T) (a : (Int × Int × Unit) × (clock_Clock × (Fm foreign_Table) × (Fm delay_Exchange) × (Fm peer_Exchange) × (Fm median_Filter) × (Fm seq_Match) × (Nat × (Nat → List (api_PortID × List (Int)))) × Unit)) : Option (((Int × Int × Unit) × (clock_Clock × (Fm foreign_Table) × (Fm delay_Exchange) × (Fm peer_Exchange) × (Fm median_Filter) × (Fm seq_Match) × (Nat × (Nat → List (api_PortID × List (Int)))) × Unit)) ⊕ ((Unit × (clock_Clock × (Fm foreign_Table) × (Fm delay_Exchange) × (Fm peer_Exchange) × (Fm median_Filter) × (Fm seq_Match) × (Nat × (Nat → List (api_PortID × List (Int)))) × Unit)))) :=
 (bif ile a.1.2.1 a.2.1.fconf.fPorts then (oelim ((oelim (cK26 a.1.2.1 a.1.1 a.2.1 a.2.2.2.1 a.2.2.2.2.1 a.2.2.2.2.2.2.2.1) none fun r0 => some ((a.1.1, (a.1.2.1, ())), (r0.2.1.1, (a.2.2.1, (r0.2.1.2.1, (r0.2.1.2.2.1, (a.2.2.2.2.2.1, (a.2.2.2.2.2.2.1, (r0.2.1.2.2.2.1, ())))))))))) none fun r1 => some (.inl ((r1.1.1, (iadd .i64 r1.1.2.1 1, ())), (r1.2.1, (r1.2.2.1, (r1.2.2.2.1, (r1.2.2.2.2.1, (r1.2.2.2.2.2.1, (r1.2.2.2.2.2.2.1, (r1.2.2.2.2.2.2.2.1, ())))))))))) else some (.inr ((), (a.2.1, (a.2.2.1, (a.2.2.2.1, (a.2.2.2.2.1, (a.2.2.2.2.2.1, (a.2.2.2.2.2.2.1, (a.2.2.2.2.2.2.2.1, ()))))))))))
noncomputable def K27.F1 : K27.l1T := fun a => loopFix (1000000) (K27.step1 K25 K15 K12 K16 K26) a
noncomputable def K27.step0 (cK25 : K25.T) (cK15 : K15.T) (cK12 : K12.T) (cK16 : K16.T) (cK26 : K26.T) (a : (Int × Int × Unit) × (clock_Clock × (Fm foreign_Table) × (Fm delay_Exchange) × (Fm peer_Exchange) × (Fm median_Filter) × (Fm seq_Match) × (Nat × (Nat → List (api_PortID × List (Int)))) × Unit)) : Option (((Int × Int × Unit) × (clock_Clock × (Fm foreign_Table) × (Fm delay_Exchange) × (Fm peer_Exchange) × (Fm median_Filter) × (Fm seq_Match) × (Nat × (Nat → List (api_PortID × List (Int)))) × Unit)) ⊕ (((Int × Unit) × (clock_Clock × (Fm foreign_Table) × (Fm delay_Exchange) × (Fm peer_Exchange) × (Fm median_Filter) × (Fm seq_Match) × (Nat × (Nat → List (api_PortID × List (Int)))) × Unit)))) :=
 (bif ile a.1.2.1 a.2.1.fconf.fPorts then (oelim ((oelim (cK25 a.1.2.1 a.2.1) none fun r0 => (oelim (cK15 r0.1.1 a.2.1 a.2.2.1 a.2.2.2.2.2.2.2.1) none fun r1 => some ((a.1.1, (a.1.2.1, ())), (r1.2.1.1, (r1.2.1.2.1, (a.2.2.2.1, (a.2.2.2.2.1, (a.2.2.2.2.2.1, (a.2.2.2.2.2.2.1, (r1.2.1.2.2.1, ()))))))))))) none fun r2 => some (.inl ((r2.1.1, (iadd .i64 r2.1.2.1 1, ())), (r2.2.1, (r2.2.2.1, (r2.2.2.2.1, (r2.2.2.2.2.1, (r2.2.2.2.2.2.1, (r2.2.2.2.2.2.2.1, (r2.2.2.2.2.2.2.2.1, ())))))))))) else some (.inr ((a.1.1, ()), (a.2.1, (a.2.2.1, (a.2.2.2.1, (a.2.2.2.2.1, (a.2.2.2.2.2.1, (a.2.2.2.2.2.2.1, (a.2.2.2.2.2.2.2.1, ()))))))))))
noncomputable def K27.F0 : K27.l0T := fun a => loopFix (1000000) (K27.step0 K25 K15 K12 K16 K26) a
noncomputable def K27.gen (cK25 : K25.T) (cK15 : K15.T) (cK12 : K12.T) (cK16 : K16.T) (cK26 : K26.T) (l0 : K27.l0T) (l1 : K27.l1T) : K27.T := fun now h0 g6 g7 g8 g9 g10 g12 =>
 (oelim (l0 ((now, (1 : Int), ()), clock_Clock.set_fticks h0 (opMinMax false (iadd .i64 h0.fticks 1) 1099511627776), g6, g7, g8, g9, g10, g12, ())) none fun r0 => (oelim (cK12 r0.2.1) none fun r1 => (bif ine r1.1.1 0 then (oelim ((bif ieq (irem r0.2.1.fticks r1.1.1) 0 then (oelim (cK16 r0.2.1 r0.2.2.1 r0.2.2.2.1 r0.2.2.2.2.2.1 r0.2.2.2.2.2.2.1) none fun r2 => some ((r0.1.1, ()), (r2.2.1.1, (r2.2.1.2.1, (r2.2.1.2.2.1, (r0.2.2.2.2.1, (r2.2.1.2.2.2.1, (r2.2.1.2.2.2.2.1, (r0.2.2.2.2.2.2.2.1, ()))))))))) else some ((r0.1.1, ()), (r0.2.1, (r0.2.2.1, (r0.2.2.2.1, (r0.2.2.2.2.1, (r0.2.2.2.2.2.1, (r0.2.2.2.2.2.2.1, (r0.2.2.2.2.2.2.2.1, ())))))))))) none fun r3 => (oelim (l1 ((r3.1.1, (1 : Int), ()), r3.2)) none fun r4 => some ((), ((r4.2.1, (r4.2.2.1, (r4.2.2.2.1, (r4.2.2.2.2.1, (r4.2.2.2.2.2.1, (r4.2.2.2.2.2.2.1, (r4.2.2.2.2.2.2.2.1, ()))))))), ())))) else none)))
noncomputable def K27 : K27.T := K27.gen K25 K15 K12 K16 K26 K27.F0 K27.F1
theorem K27.seq1 (cK25 : K25.T) (cK15 : K15.T) (cK12 : K12.T) (cK16 : K16.T) (cK26 : K26.T) (l0 : K27.l0T) (l1 : K27.l1T) (a : K27.L1.T) : run Tryz.prog (K27.H cK25 cK15 cK12 cK16 cK26 l0 l1) 6 (Option (K27.L1.T ⊕ ExT K27.X1)) none K27.B1 (K27.L1.enc a) (loopK (0, 14) K27.L1 K27.X1) = K27.step1 cK25 cK15 cK12 cK16 cK26 a := by kernel_rfl
theorem K27.inner1 : loopsOf K27.B1 = ([] : List Code) := by kernel_rfl
noncomputable abbrev K27.h := K27.H K25 K15 K12 K16 K26 K27.F0 K27.F1
theorem K27.lok1 : LoopOK U Tryz.prog K27.h.ro K27.h.base K27.B1 (loopN (0, 14) K27.L1 K27.X1 K27.F1) :=
 loopN_ok (Hn := K27.h) U_ok U_pure (run_ok (hq (addΓ_ok (addΓ_ok (addΓ_ok (addΓ_ok (addΓ_ok noΓ_ok K25.ok) K15.ok) K12.ok) K16.ok) K26.ok) loops_nil (fun _ => rfl) (fun _ => rfl)) 6) (fun b h => by rw [K27.inner1] at h; exact h) (fun _ => rfl) (K27.seq1 K25 K15 K12 K16 K26 K27.F0 K27.F1)
theorem K27.seq0 (cK25 : K25.T) (cK15 : K15.T) (cK12 : K12.T) (cK16 : K16.T) (cK26 : K26.T) (l0 : K27.l0T) (l1 : K27.l1T) (a : K27.L0.T) : run Tryz.prog (K27.H cK25 cK15 cK12 cK16 cK26 l0 l1) 6 (Option (K27.L0.T ⊕ ExT K27.X0)) none K27.B0 (K27.L0.enc a) (loopK (0, 14) K27.L0 K27.X0) = K27.step0 cK25 cK15 cK12 cK16 cK26 a := by kernel_rfl
theorem K27.inner0 : loopsOf K27.B0 = ([] : List Code) := by kernel_rfl
theorem K27.lok0 : LoopOK U Tryz.prog K27.h.ro K27.h.base K27.B0 (loopN (0, 14) K27.L0 K27.X0 K27.F0) :=
 loopN_ok (Hn := K27.h) U_ok U_pure (run_ok (hq (addΓ_ok (addΓ_ok (addΓ_ok (addΓ_ok (addΓ_ok noΓ_ok K25.ok) K15.ok) K12.ok) K16.ok) K26.ok) loops_nil (fun _ => rfl) (fun _ => rfl)) 6) (fun b h => by rw [K27.inner0] at h; exact h) (fun _ => rfl) (K27.seq0 K25 K15 K12 K16 K26 K27.F0 K27.F1)
theorem K27.eq (cK25 : K25.T) (cK15 : K15.T) (cK12 : K12.T) (cK16 : K16.T) (cK26 : K26.T) (l0 : K27.l0T) (l1 : K27.l1T) : EqA K27.sig (K27.H cK25 cK15 cK12 cK16 cK26 l0 l1) Tryz.f44 6 (K27.W (K27.gen cK25 cK15 cK12 cK16 cK26 l0 l1)) := by intro a x; kernel_rfl
theorem K27.loops : loopsOf K27.C = [(.loop K27.B0), (.loop K27.B1)] := by kernel_rfl
theorem K27.hints : HintsOK U Tryz.prog K27.h (fun c => c ∈ [(.loop K27.B0), (.loop K27.B1)]) := (hq (addΓ_ok (addΓ_ok (addΓ_ok (addΓ_ok (addΓ_ok noΓ_ok K25.ok) K15.ok) K12.ok) K16.ok) K26.ok) (loops_cons (by kernel_rfl) K27.lok0 (loops_cons (by kernel_rfl) K27.lok1 loops_nil)) (fun _ => rfl) (fun _ => rfl))
theorem K27.ok : NativeOK U Tryz.prog 44 (K27.sig.native (K27.W K27)) :=
 Sig.ok K27.sig (K27.W K27) U_pure (Hn := K27.h) (code := K27.C) (gos := 6) K27.hints Tryz.func44 (by kernel_rfl) (by kernel_rfl) (fun b h => by rw [K27.loops] at h; exact h) rfl rfl (by decide) (K27.eq K25 K15 K12 K16 K26 K27.F0 K27.F1) (by decide)
noncomputable def K84.sig : Sig U := ⟨[.isl .u8, .int .i64, .int .i64], [], 0, [.bool], false, []⟩
abbrev K84.T : Type := (List (UInt8)) → (Int) → (Int) → Option ((Bool × Unit) × Unit × Unit)
noncomputable def K84.W (f : K84.T) : K84.sig.F := fun a x => f a.1 a.2.1 a.2.2.1
noncomputable def K84.H : Hints U := { Γ := noΓ, ro := 0, base := 13 }
noncomputable def K84.gen : K84.T := fun b at_1 n =>
 (bif ilt n 0 then some ((true, ()), ((), ())) else (bif ilt at_1 0 then some ((true, ()), ((), ())) else (bif ilt (ofN (List.length b)) at_1 then some ((true, ()), ((), ())) else some ((ilt (isub .i64 (ofN (List.length b)) at_1) n, ()), ((), ())))))
noncomputable def K84 : K84.T := K84.gen
theorem K84.eq : EqA K84.sig (K84.H) Tryz.f167 6 (K84.W (K84.gen)) := by intro a x; kernel_rfl
theorem K84.hints : HintsOK U Tryz.prog (K84.H) (fun c => c ∈ ([] : List Code)) := (hq noΓ_ok loops_nil (fun _ => rfl) (fun _ => rfl))
theorem K84.ok : NativeOK U Tryz.prog 167 (K84.sig.native (K84.W K84)) :=
 Sig.ok K84.sig (K84.W (K84.gen)) U_pure (Hn := (K84.H)) (gos := 6) K84.hints Tryz.func167 rfl (by kernel_rfl) (fun b h => h) rfl rfl (by decide) (K84.eq) (by decide)
noncomputable def K85.sig : Sig U := ⟨[.isl .u8], [], 0, [.int .u64], false, []⟩
abbrev K85.T : Type := (List (UInt8)) → Option ((Int × Unit) × Unit × Unit)
noncomputable def K85.W (f : K85.T) : K85.sig.F := fun a x => f a.1
noncomputable def K85.L0 : Shape U := ⟨19, 13, [(3, .val (.int .u64)), (6, .val (.isl .u8)), (7, vi_), (8, vi_)], []⟩
noncomputable def K85.X0 : Exits U := [(.exit 0, ⟨19, 13, [(3, .val (.int .u64))], []⟩)]
abbrev K85.l0T : Type := ((Int × (List (UInt8)) × Int × Int × Unit) × Unit) → Option (((Int × Unit) × Unit))
noncomputable def K85.C : Code := match Tryz.f168.body with | some c => c | none => .skip
noncomputable def K85.B0 : Code := match (loopsOf K85.C).getD 0 .skip with | .loop b => b | .scope b => b | _ => .skip
noncomputable def K85.H (l0 : K85.l0T) : Hints U := { Γ := noΓ, ro := 0, base := 13, loop := fun b => (bif Nat.beq b 3 then some (loopN (0, 13) K85.L0 K85.X0 l0) else none) }
noncomputable def K85.step0 (a : (Int × (List (UInt8)) × Int × Int × Unit) × Unit) : Option (((Int × (List (UInt8)) × Int × Int × Unit) × Unit) ⊕ (((Int × Unit) × Unit))) :=
 (bif ilt a.1.2.2.2.1 a.1.2.2.1 then (bif inR a.1.2.2.2.1 (List.length a.1.2.1) then some (.inl ((ior .u64 (ishl .u64 a.1.1 8) (IntKind.wrap .u64 (ofN (UInt8.toNat (List.getD a.1.2.1 (Int.toNat a.1.2.2.2.1) (0 : D UC.u8))))), (a.1.2.1, (a.1.2.2.1, (iadd .i64 a.1.2.2.2.1 1, ())))), ())) else none) else some (.inr ((a.1.1, ()), ())))
noncomputable def K85.F0 : K85.l0T := fun a => loopFix (1000000 + (a.1.2.1.length)) (K85.step0) a
noncomputable def K85.gen (l0 : K85.l0T) : K85.T := fun b =>
 (oelim (l0 (((0 : Int), b, ofN (List.length b), (0 : Int), ()), ())) none fun r0 => some ((r0.1.1, ()), ((), ())))
noncomputable def K85 : K85.T := K85.gen K85.F0
theorem K85.seq0 (l0 : K85.l0T) (a : K85.L0.T) : run Tryz.prog (K85.H l0) 6 (Option (K85.L0.T ⊕ ExT K85.X0)) none K85.B0 (K85.L0.enc a) (loopK (0, 13) K85.L0 K85.X0) = K85.step0 a := by kernel_rfl
theorem K85.inner0 : loopsOf K85.B0 = ([] : List Code) := by kernel_rfl
noncomputable abbrev K85.h := K85.H K85.F0
theorem K85.lok0 : LoopOK U Tryz.prog K85.h.ro K85.h.base K85.B0 (loopN (0, 13) K85.L0 K85.X0 K85.F0) :=
 loopN_ok (Hn := K85.h) U_ok U_pure (run_ok (hq noΓ_ok loops_nil (fun _ => rfl) (fun _ => rfl)) 6) (fun b h => by rw [K85.inner0] at h; exact h) (fun _ => rfl) (K85.seq0 K85.F0)
theorem K85.eq (l0 : K85.l0T) : EqA K85.sig (K85.H l0) Tryz.f168 6 (K85.W (K85.gen l0)) := by intro a x; kernel_rfl
theorem K85.loops : loopsOf K85.C = [(.loop K85.B0)] := by kernel_rfl
theorem K85.hints : HintsOK U Tryz.prog K85.h (fun c => c ∈ [(.loop K85.B0)]) := (hq noΓ_ok (loops_cons (by kernel_rfl) K85.lok0 loops_nil) (fun _ => rfl) (fun _ => rfl))
theorem K85.ok : NativeOK U Tryz.prog 168 (K85.sig.native (K85.W K85)) :=
 Sig.ok K85.sig (K85.W K85) U_pure (Hn := K85.h) (code := K85.C) (gos := 6) K85.hints Tryz.func168 (by kernel_rfl) (by kernel_rfl) (fun b h => by rw [K85.loops] at h; exact h) rfl rfl (by decide) (K85.eq K85.F0) (by decide)
end Go.Proofs.YtgnabnhggaondaaGreat
