/- Typed forms of the functions that these statements reach, proved equal to what the model runs, and laws over them. -/
import Derived.Test.YtgnabnhggaondaaGreatT
namespace Go.Proofs.YtgnabnhggaondaaGreat
open Go.Rf
set_option linter.unusedVariables false
set_option linter.unusedSimpArgs false
set_option maxRecDepth 100000
noncomputable section
abbrev vi_ : JV UC := .val (.int .i64)
abbrev vb_ : JV UC := .val (.bool)
abbrev fm0_ : NK UC := .fam 0 (.obj .t_clock_Clock)
abbrev fm10_ : NK UC := .fam 10 (.obj .t_seq_Match)
abbrev fm5_ : NK UC := .fam 5 (.obj .t_servo_Servo)
abbrev fm6_ : NK UC := .fam 6 (.obj .t_foreign_Table)
abbrev fm7_ : NK UC := .fam 7 (.obj .t_delay_Exchange)
abbrev fm8_ : NK UC := .fam 8 (.obj .t_peer_Exchange)
abbrev fm9_ : NK UC := .fam 9 (.obj .t_median_Filter)
abbrev EqA (s : Sig U) (H : Hints U) (f : Func) (n : Nat) (g : s.F) : Prop := ∀ (a : Ts U s.pars) (x : HTs U s.heap), runR Tryz.prog H f n none s.fin (s.args a) (s.start x) s.base = g a x
theorem hq {Hn : Hints U} (hΓ : ZH U Tryz.prog Hn.Γ) {l : List Code} (hl : ∀ b N, .loop b ∈ l → Hn.loop (Ze b) = some N → ZM U Tryz.prog Hn.ro Hn.base b N) (h1 : ∀ lb, Hn.label lb = none) (h2 : ∀ f, Hn.inl f = none) : HintsOK U Tryz.prog Hn (fun c => c ∈ l) := Z11 U_ok U_pure mixed hΓ hl (Z7B h1) (Z27 h2)
abbrev NK_ (k : Nat) (s : Sig U) (F : s.F) : Prop := Zw U Tryz.prog k (s.native F)
abbrev HO_ (H : Hints U) (l : List Code) : Prop := HintsOK U Tryz.prog H (fun c => c ∈ l)
abbrev LO_ (H : Hints U) (b : Code) (N : Z2r U) : Prop := ZM U Tryz.prog H.ro H.base b N
theorem hl_ {H : Hints U} (hΓ : ZH U Tryz.prog H.Γ) {l : List Code} (hl : ∀ b N, .loop b ∈ l → H.loop (Ze b) = some N → LO_ H b N) (h1 : ∀ lb, H.label lb = none := by exact fun _ => rfl) (h2 : ∀ f, H.inl f = none := by exact fun _ => rfl) : HO_ H l := hq hΓ hl h1 h2
theorem hn_ {H : Hints U} (hΓ : ZH U Tryz.prog H.Γ) (h1 : ∀ lb, H.label lb = none := by exact fun _ => rfl) (h2 : ∀ f, H.inl f = none := by exact fun _ => rfl) : HO_ H [] := hq hΓ Z6 h1 h2
def cd_ (f : Func) : Code := match f.body with | some c => c | none => .skip
def jt_ {α : Type _} : List (Nat × α) → Nat → Option α
 | [], _ => none
 | (k, v) :: r, b => bif Nat.beq b k then some v else jt_ r b
theorem ok_ {s : Sig U} {F : s.F} {H : Hints U} {k n : Nat} {f : Func} {l : List Code} (hf : Tryz.prog.funcs[k]? = some f) (he : EqA s H f n F) (hH : HO_ H l) (hl : Z3 (cd_ f) = l := by kernel_rfl) (hb : f.body = some (cd_ f) := by kernel_rfl) (hn : (f.name == "runtime.NumGoroutine") = false := by kernel_rfl) (h1 : H.ro = s.roN := by rfl) (h2 : H.base = s.base := by rfl) (h3 : s.good = true := by decide) (h4 : s.pars.length ≤ f.ntmps := by decide) : NK_ k s F := Sig.ok s F U_pure hH hf hb hn (fun b h => by rw [hl] at h; exact h) h1 h2 h3 he h4
theorem lk_ {H : Hints U} {b : Code} {p : Shape U} {l : Exits U} {F : p.T → Option (ExT l)} {rounds : p.T → Nat} {round : p.T → Option (p.T ⊕ ExT l)} {n : Nat} (hH : HO_ H []) (hs : ∀ x, run Tryz.prog H n (Option (p.T ⊕ ExT l)) none b (p.enc x) (Zn (H.ro, H.base) p l) = round x) (hi : Z3 b = [] := by kernel_rfl) (hF : ∀ x, F x = Z8 (rounds x) round x := by exact fun _ => rfl) : LO_ H b (Za (H.ro, H.base) p l F) := Z58 U_ok U_pure (Z2k hH n) (fun b h => by rw [hi] at h; exact h) hF hs
abbrev Fm (α : Type) := Nat × (Nat → α)
abbrev z0_ := api_PortID.mk (0 : Int) (0 : Int)
abbrev z1_ := api_Quality.mk (0 : Int) (0 : Int) (0 : Int)
abbrev z2_ := api_Msg.mk (0 : Int) (0 : Int) (0 : Int) (0 : Int) z0_ (0 : Int) (0 : Int) (0 : Int) z0_ (0 : Int) (0 : Int) z1_ (0 : Int) (0 : Int) (0 : Int) (0 : Int) (0 : Int) (0 : Int) (0 : Int)
abbrev z3_ := timer_Timer.mk (0 : Int)
abbrev z4_ := clock_known.mk (0 : Int) false
abbrev z5_ := api_Vector.mk (0 : Int) z1_ (0 : Int) (0 : Int) (0 : Int) z0_ z0_
abbrev z6_ := api_Times.mk (0 : Int) (0 : Int) (0 : Int)
abbrev z7_ := api_Conf.mk (0 : Int) (0 : Int) (0 : Int) (0 : Int) (0 : Int) z1_ false (0 : Int) (0 : Int) (0 : Int) (0 : Int) false false (0 : Int) (0 : Int) (0 : Int) (0 : Int) z6_ false
abbrev z8_ := (1 : Int) :: (0 : Int) :: (0 : Int) :: (0 : Int) :: (-3 : Int) :: (-3 : Int) :: (-3 : Int) :: (2 : Int) :: (1 : Int) :: (0 : Int) :: (0 : Int) :: (0 : Int) :: (-32768 : Int) :: (0 : Int) :: (0 : Int) :: lnil Int
abbrev z9_ := (8 : Int) :: (127 : Int) :: (255 : Int) :: (255 : Int) :: (4 : Int) :: (4 : Int) :: (4 : Int) :: (10 : Int) :: (15 : Int) :: (2000 : Int) :: (2000 : Int) :: (1000000000 : Int) :: (32767 : Int) :: (63 : Int) :: (255 : Int) :: lnil Int
abbrev z10_ (c : api_Conf) := c.fPorts :: c.fDomain :: c.fPriority1 :: c.fPriority2 :: c.fLogAnn :: c.fLogSync :: c.fLogDelay :: c.fTimeout :: c.fMedian :: c.fKp :: c.fKi :: c.fStep :: c.fTimes.fUtc :: c.fTimes.fFlags :: c.fTimes.fOrigin :: lnil Int
abbrev hT0_ : List (Nat × JH UC) := [(5, .famN false .t_servo_Servo), (6, .famN false .t_foreign_Table), (7, .famN false .t_delay_Exchange), (8, .famN false .t_peer_Exchange), (9, .famN false .t_median_Filter), (10, .famN false .t_seq_Match), (12, .mfam true false .t_api_PortID .l_u64)]
abbrev hT1_ : List (Nat × JH UC) := [(6, .famN false .t_foreign_Table), (12, .mfam true false .t_api_PortID .l_u64)]
abbrev hT2_ : List (Nat × JH UC) := [(5, .famN false .t_servo_Servo), (7, .famN false .t_delay_Exchange), (8, .famN false .t_peer_Exchange), (9, .famN false .t_median_Filter), (10, .famN false .t_seq_Match)]
abbrev hT3_ : List (Nat × JH UC) := [(6, .famN false .t_foreign_Table), (7, .famN false .t_delay_Exchange), (9, .famN false .t_median_Filter), (10, .famN false .t_seq_Match)]
abbrev hT4_ : List (Nat × JH UC) := [(7, .famN false .t_delay_Exchange), (8, .famN false .t_peer_Exchange), (12, .mfam true false .t_api_PortID .l_u64)]
abbrev hT5_ : List (Nat × JH UC) := [(6, .famN false .t_foreign_Table), (7, .famN false .t_delay_Exchange), (8, .famN false .t_peer_Exchange), (9, .famN false .t_median_Filter), (10, .famN false .t_seq_Match), (12, .mfam true false .t_api_PortID .l_u64)]
abbrev hT6_ : List (Nat × JH UC) := [(0, .famN false .t_clock_Clock), (5, .famN false .t_servo_Servo), (6, .famN false .t_foreign_Table), (7, .famN false .t_delay_Exchange), (8, .famN false .t_peer_Exchange), (9, .famN false .t_median_Filter), (10, .famN false .t_seq_Match), (12, .mfam true false .t_api_PortID .l_u64)]
abbrev hT7_ : List (Nat × JH UC) := [(7, .famN false .t_delay_Exchange), (10, .famN false .t_seq_Match)]
abbrev qT0_ : Type := (Fm clock_Clock) × (Fm servo_Servo) × (Fm foreign_Table) × (Fm delay_Exchange) × (Fm peer_Exchange) × (Fm median_Filter) × (Fm seq_Match) × (Nat × (Nat → List (api_PortID × List (Int)))) × Unit
abbrev qT1_ : Type := (Fm servo_Servo) × (Fm foreign_Table) × (Fm delay_Exchange) × (Fm peer_Exchange) × (Fm median_Filter) × (Fm seq_Match) × (Nat × (Nat → List (api_PortID × List (Int)))) × Unit
abbrev qT2_ : Type := (Fm foreign_Table) × (Fm delay_Exchange) × (Fm median_Filter) × (Fm seq_Match) × Unit
abbrev qT3_ : Type := (Fm foreign_Table) × (Fm delay_Exchange) × (Fm peer_Exchange) × (Fm median_Filter) × (Fm seq_Match) × (Nat × (Nat → List (api_PortID × List (Int)))) × Unit
abbrev qT4_ : Type := (Fm foreign_Table) × (Nat × (Nat → List (api_PortID × List (Int)))) × Unit
abbrev qT5_ : Type := (Fm servo_Servo) × (Fm delay_Exchange) × (Fm peer_Exchange) × (Fm median_Filter) × (Fm seq_Match) × Unit
abbrev qT6_ : Type := (Fm Bool) × (Fm foreign_Table) × (Fm delay_Exchange) × (Fm median_Filter) × (Fm seq_Match) × Unit
def K78.sig : Sig U := ⟨[.int .i64, .int .i64], [], 0, [.int .i64], false, []⟩
abbrev K78.T : Type := (Int) → (Int) → Option ((Int × Unit) × Unit × Unit)
def K78.W (f : K78.T) : K78.sig.F := fun a x => f a.1 a.2.1
def K78.JC3 : Exits U := [(.normal, ⟨15, 13, [(5, vi_)], []⟩)]
def K78.H : Hints U := { Γ := noΓ, ro := 0, base := 13, joinC := jt_ [(3, K78.JC3)] }
def K78.gen : K78.T := fun v n =>
 (bif ine n 0 then (oelim ((bif ilt (irem v n) 0 then some ((iadd .i64 (irem v n) n, ()), ()) else some ((irem v n, ()), ()))) none fun r0 => some (r0.1, ((), ()))) else none)
def K78 : K78.T := K78.gen
theorem K78.ok : NK_ 17 K78.sig (K78.W K78) := ok_ (H := K78.H) (n := 6) Tryz.func17 (by intro a x; kernel_rfl) (hn_ Z2)
def K48.sig : Sig U := ⟨[.int .u64], [], 0, [.data .t_api_Conf], false, []⟩
abbrev K48.T : Type := (Int) → Option ((api_Conf × Unit) × Unit × Unit)
def K48.W (f : K48.T) : K48.sig.F := fun a x => f a.1
def K48.H : Hints U := { Γ := noΓ, ro := 0, base := 13 }
def K48.gen : K48.T := fun clock =>
 some ((api_Conf.mk clock 1 0 128 128 (api_Quality.mk 248 254 65535) false 1 0 0 3 false false 5 700 300 20000 (api_Times.mk 37 8 160) false, ()), ((), ()))
def K48 : K48.T := K48.gen
theorem K48.ok : NK_ 23 K48.sig (K48.W K48) := ok_ (H := K48.H) (n := 6) Tryz.func23 (by intro a x; kernel_rfl) (hn_ Z2)
def K115.sig : Sig U := ⟨[.data .t_api_Quality], [], 0, [.bool], false, []⟩
abbrev K115.T : Type := (api_Quality) → Option ((Bool × Unit) × Unit × Unit)
def K115.W (f : K115.T) : K115.sig.F := fun a x => f a.1
abbrev K115.N (c : K115.T) := addΓ 87 (K115.sig.native (K115.W c))
def K115.H : Hints U := { Γ := noΓ, ro := 0, base := 13 }
def K115.gen : K115.T := fun q =>
 (bif ile 0 q.fClass then (bif ile q.fClass 255 then (bif ile 0 q.fAccuracy then (bif ile q.fAccuracy 255 then (bif ile 0 q.fVariance then some ((ile q.fVariance 65535, ()), ((), ())) else some ((false, ()), ((), ()))) else some ((false, ()), ((), ()))) else some ((false, ()), ((), ()))) else some ((false, ()), ((), ()))) else some ((false, ()), ((), ())))
def K115 : K115.T := K115.gen
theorem K115.ok : NK_ 87 K115.sig (K115.W K115) := ok_ (H := K115.H) (n := 6) Tryz.func87 (by intro a x; kernel_rfl) (hn_ Z2)
def K47.sig : Sig U := ⟨[.data .t_api_Conf], [], 0, [.int .i64], false, []⟩
abbrev K47.T : Type := (api_Conf) → Option ((Int × Unit) × Unit × Unit)
def K47.W (f : K47.T) : K47.sig.F := fun a x => f a.1
def K47.C : Code := match Tryz.f48.body with | some c => c | none => .skip
def K47.B0 : Code := match (Z3 K47.C).getD 0 .skip with | .loop b => b | .scope b => b | _ => .skip
def K47.U0 (cK115 : K115.T) : Hints U := { Γ := (K115.N cK115 noΓ), ro := 0, base := 13, joinQ := jt_ [(4, [(68, vb_)]), (7, [(70, vb_)]), (9, [(85, vb_)])], loop := fun b => none }
def K47.H (cK115 : K115.T) : Hints U := { Γ := (K115.N cK115 noΓ), ro := 0, base := 13, joinQ := jt_ [(4, [(68, vb_)]), (7, [(70, vb_)]), (9, [(85, vb_)])], loop := jt_ [(2, (Z1N Tryz.prog (K47.U0 cK115) 6 K47.B0 17))] }
def K47.gen (cK115 : K115.T) : K47.T := fun c =>
 (oelim ((bif ilt (List.getD (z10_ c) (Int.toNat 0) 0) (List.getD z8_ (Int.toNat 0) 0) then some (true, ()) else some (ilt (List.getD z9_ (Int.toNat 0) 0) (List.getD (z10_ c) (Int.toNat 0) 0), ()))) none fun r0 => (bif r0.1 then some (((15 : Int), ()), ((), ())) else (oelim ((bif ilt (List.getD (z10_ c) (Int.toNat (iadd .i64 0 1)) 0) (List.getD z8_ (Int.toNat (iadd .i64 0 1)) 0) then some (true, ()) else some (ilt (List.getD z9_ (Int.toNat (iadd .i64 0 1)) 0) (List.getD (z10_ c) (Int.toNat (iadd .i64 0 1)) 0), ()))) none fun r1 => (bif r1.1 then some (((15 : Int), ()), ((), ())) else (oelim ((bif ilt (List.getD (z10_ c) (Int.toNat (iadd .i64 (iadd .i64 0 1) 1)) 0) (List.getD z8_ (Int.toNat (iadd .i64 (iadd .i64 0 1) 1)) 0) then some (true, ()) else some (ilt (List.getD z9_ (Int.toNat (iadd .i64 (iadd .i64 0 1) 1)) 0) (List.getD (z10_ c) (Int.toNat (iadd .i64 (iadd .i64 0 1) 1)) 0), ()))) none fun r2 => (bif r2.1 then some (((15 : Int), ()), ((), ())) else (oelim ((bif ilt (List.getD (z10_ c) (Int.toNat (iadd .i64 (iadd .i64 (iadd .i64 0 1) 1) 1)) 0) (List.getD z8_ (Int.toNat (iadd .i64 (iadd .i64 (iadd .i64 0 1) 1) 1)) 0) then some (true, ()) else some (ilt (List.getD z9_ (Int.toNat (iadd .i64 (iadd .i64 (iadd .i64 0 1) 1) 1)) 0) (List.getD (z10_ c) (Int.toNat (iadd .i64 (iadd .i64 (iadd .i64 0 1) 1) 1)) 0), ()))) none fun r3 => (bif r3.1 then some (((15 : Int), ()), ((), ())) else (oelim ((bif ilt (List.getD (z10_ c) (Int.toNat (iadd .i64 (iadd .i64 (iadd .i64 (iadd .i64 0 1) 1) 1) 1)) 0) (List.getD z8_ (Int.toNat (iadd .i64 (iadd .i64 (iadd .i64 (iadd .i64 0 1) 1) 1) 1)) 0) then some (true, ()) else some (ilt (List.getD z9_ (Int.toNat (iadd .i64 (iadd .i64 (iadd .i64 (iadd .i64 0 1) 1) 1) 1)) 0) (List.getD (z10_ c) (Int.toNat (iadd .i64 (iadd .i64 (iadd .i64 (iadd .i64 0 1) 1) 1) 1)) 0), ()))) none fun r4 => (bif r4.1 then some (((15 : Int), ()), ((), ())) else (oelim ((bif ilt (List.getD (z10_ c) (Int.toNat (iadd .i64 (iadd .i64 (iadd .i64 (iadd .i64 (iadd .i64 0 1) 1) 1) 1) 1)) 0) (List.getD z8_ (Int.toNat (iadd .i64 (iadd .i64 (iadd .i64 (iadd .i64 (iadd .i64 0 1) 1) 1) 1) 1)) 0) then some (true, ()) else some (ilt (List.getD z9_ (Int.toNat (iadd .i64 (iadd .i64 (iadd .i64 (iadd .i64 (iadd .i64 0 1) 1) 1) 1) 1)) 0) (List.getD (z10_ c) (Int.toNat (iadd .i64 (iadd .i64 (iadd .i64 (iadd .i64 (iadd .i64 0 1) 1) 1) 1) 1)) 0), ()))) none fun r5 => (bif r5.1 then some (((15 : Int), ()), ((), ())) else (oelim ((bif ilt (List.getD (z10_ c) (Int.toNat (iadd .i64 (iadd .i64 (iadd .i64 (iadd .i64 (iadd .i64 (iadd .i64 0 1) 1) 1) 1) 1) 1)) 0) (List.getD z8_ (Int.toNat (iadd .i64 (iadd .i64 (iadd .i64 (iadd .i64 (iadd .i64 (iadd .i64 0 1) 1) 1) 1) 1) 1)) 0) then some (true, ()) else some (ilt (List.getD z9_ (Int.toNat (iadd .i64 (iadd .i64 (iadd .i64 (iadd .i64 (iadd .i64 (iadd .i64 0 1) 1) 1) 1) 1) 1)) 0) (List.getD (z10_ c) (Int.toNat (iadd .i64 (iadd .i64 (iadd .i64 (iadd .i64 (iadd .i64 (iadd .i64 0 1) 1) 1) 1) 1) 1)) 0), ()))) none fun r6 => (bif r6.1 then some (((15 : Int), ()), ((), ())) else (oelim ((bif ilt (List.getD (z10_ c) (Int.toNat (iadd .i64 (iadd .i64 (iadd .i64 (iadd .i64 (iadd .i64 (iadd .i64 (iadd .i64 0 1) 1) 1) 1) 1) 1) 1)) 0) (List.getD z8_ (Int.toNat (iadd .i64 (iadd .i64 (iadd .i64 (iadd .i64 (iadd .i64 (iadd .i64 (iadd .i64 0 1) 1) 1) 1) 1) 1) 1)) 0) then some (true, ()) else some (ilt (List.getD z9_ (Int.toNat (iadd .i64 (iadd .i64 (iadd .i64 (iadd .i64 (iadd .i64 (iadd .i64 (iadd .i64 0 1) 1) 1) 1) 1) 1) 1)) 0) (List.getD (z10_ c) (Int.toNat (iadd .i64 (iadd .i64 (iadd .i64 (iadd .i64 (iadd .i64 (iadd .i64 (iadd .i64 0 1) 1) 1) 1) 1) 1) 1)) 0), ()))) none fun r7 => (bif r7.1 then some (((15 : Int), ()), ((), ())) else (oelim ((bif ilt (List.getD (z10_ c) (Int.toNat (iadd .i64 (iadd .i64 (iadd .i64 (iadd .i64 (iadd .i64 (iadd .i64 (iadd .i64 (iadd .i64 0 1) 1) 1) 1) 1) 1) 1) 1)) 0) (List.getD z8_ (Int.toNat (iadd .i64 (iadd .i64 (iadd .i64 (iadd .i64 (iadd .i64 (iadd .i64 (iadd .i64 (iadd .i64 0 1) 1) 1) 1) 1) 1) 1) 1)) 0) then some (true, ()) else some (ilt (List.getD z9_ (Int.toNat (iadd .i64 (iadd .i64 (iadd .i64 (iadd .i64 (iadd .i64 (iadd .i64 (iadd .i64 (iadd .i64 0 1) 1) 1) 1) 1) 1) 1) 1)) 0) (List.getD (z10_ c) (Int.toNat (iadd .i64 (iadd .i64 (iadd .i64 (iadd .i64 (iadd .i64 (iadd .i64 (iadd .i64 (iadd .i64 0 1) 1) 1) 1) 1) 1) 1) 1)) 0), ()))) none fun r8 => (bif r8.1 then some (((15 : Int), ()), ((), ())) else (oelim ((bif ilt (List.getD (z10_ c) (Int.toNat (iadd .i64 (iadd .i64 (iadd .i64 (iadd .i64 (iadd .i64 (iadd .i64 (iadd .i64 (iadd .i64 (iadd .i64 0 1) 1) 1) 1) 1) 1) 1) 1) 1)) 0) (List.getD z8_ (Int.toNat (iadd .i64 (iadd .i64 (iadd .i64 (iadd .i64 (iadd .i64 (iadd .i64 (iadd .i64 (iadd .i64 (iadd .i64 0 1) 1) 1) 1) 1) 1) 1) 1) 1)) 0) then some (true, ()) else some (ilt (List.getD z9_ (Int.toNat (iadd .i64 (iadd .i64 (iadd .i64 (iadd .i64 (iadd .i64 (iadd .i64 (iadd .i64 (iadd .i64 (iadd .i64 0 1) 1) 1) 1) 1) 1) 1) 1) 1)) 0) (List.getD (z10_ c) (Int.toNat (iadd .i64 (iadd .i64 (iadd .i64 (iadd .i64 (iadd .i64 (iadd .i64 (iadd .i64 (iadd .i64 (iadd .i64 0 1) 1) 1) 1) 1) 1) 1) 1) 1)) 0), ()))) none fun r9 => (bif r9.1 then some (((15 : Int), ()), ((), ())) else (oelim ((bif ilt (List.getD (z10_ c) (Int.toNat (iadd .i64 (iadd .i64 (iadd .i64 (iadd .i64 (iadd .i64 (iadd .i64 (iadd .i64 (iadd .i64 (iadd .i64 (iadd .i64 0 1) 1) 1) 1) 1) 1) 1) 1) 1) 1)) 0) (List.getD z8_ (Int.toNat (iadd .i64 (iadd .i64 (iadd .i64 (iadd .i64 (iadd .i64 (iadd .i64 (iadd .i64 (iadd .i64 (iadd .i64 (iadd .i64 0 1) 1) 1) 1) 1) 1) 1) 1) 1) 1)) 0) then some (true, ()) else some (ilt (List.getD z9_ (Int.toNat (iadd .i64 (iadd .i64 (iadd .i64 (iadd .i64 (iadd .i64 (iadd .i64 (iadd .i64 (iadd .i64 (iadd .i64 (iadd .i64 0 1) 1) 1) 1) 1) 1) 1) 1) 1) 1)) 0) (List.getD (z10_ c) (Int.toNat (iadd .i64 (iadd .i64 (iadd .i64 (iadd .i64 (iadd .i64 (iadd .i64 (iadd .i64 (iadd .i64 (iadd .i64 (iadd .i64 0 1) 1) 1) 1) 1) 1) 1) 1) 1) 1)) 0), ()))) none fun r10 => (bif r10.1 then some (((15 : Int), ()), ((), ())) else (oelim ((bif ilt (List.getD (z10_ c) (Int.toNat (iadd .i64 (iadd .i64 (iadd .i64 (iadd .i64 (iadd .i64 (iadd .i64 (iadd .i64 (iadd .i64 (iadd .i64 (iadd .i64 (iadd .i64 0 1) 1) 1) 1) 1) 1) 1) 1) 1) 1) 1)) 0) (List.getD z8_ (Int.toNat (iadd .i64 (iadd .i64 (iadd .i64 (iadd .i64 (iadd .i64 (iadd .i64 (iadd .i64 (iadd .i64 (iadd .i64 (iadd .i64 (iadd .i64 0 1) 1) 1) 1) 1) 1) 1) 1) 1) 1) 1)) 0) then some (true, ()) else some (ilt (List.getD z9_ (Int.toNat (iadd .i64 (iadd .i64 (iadd .i64 (iadd .i64 (iadd .i64 (iadd .i64 (iadd .i64 (iadd .i64 (iadd .i64 (iadd .i64 (iadd .i64 0 1) 1) 1) 1) 1) 1) 1) 1) 1) 1) 1)) 0) (List.getD (z10_ c) (Int.toNat (iadd .i64 (iadd .i64 (iadd .i64 (iadd .i64 (iadd .i64 (iadd .i64 (iadd .i64 (iadd .i64 (iadd .i64 (iadd .i64 (iadd .i64 0 1) 1) 1) 1) 1) 1) 1) 1) 1) 1) 1)) 0), ()))) none fun r11 => (bif r11.1 then some (((15 : Int), ()), ((), ())) else (oelim ((bif ilt (List.getD (z10_ c) (Int.toNat (iadd .i64 (iadd .i64 (iadd .i64 (iadd .i64 (iadd .i64 (iadd .i64 (iadd .i64 (iadd .i64 (iadd .i64 (iadd .i64 (iadd .i64 (iadd .i64 0 1) 1) 1) 1) 1) 1) 1) 1) 1) 1) 1) 1)) 0) (List.getD z8_ (Int.toNat (iadd .i64 (iadd .i64 (iadd .i64 (iadd .i64 (iadd .i64 (iadd .i64 (iadd .i64 (iadd .i64 (iadd .i64 (iadd .i64 (iadd .i64 (iadd .i64 0 1) 1) 1) 1) 1) 1) 1) 1) 1) 1) 1) 1)) 0) then some (true, ()) else some (ilt (List.getD z9_ (Int.toNat (iadd .i64 (iadd .i64 (iadd .i64 (iadd .i64 (iadd .i64 (iadd .i64 (iadd .i64 (iadd .i64 (iadd .i64 (iadd .i64 (iadd .i64 (iadd .i64 0 1) 1) 1) 1) 1) 1) 1) 1) 1) 1) 1) 1)) 0) (List.getD (z10_ c) (Int.toNat (iadd .i64 (iadd .i64 (iadd .i64 (iadd .i64 (iadd .i64 (iadd .i64 (iadd .i64 (iadd .i64 (iadd .i64 (iadd .i64 (iadd .i64 (iadd .i64 0 1) 1) 1) 1) 1) 1) 1) 1) 1) 1) 1) 1)) 0), ()))) none fun r12 => (bif r12.1 then some (((15 : Int), ()), ((), ())) else (oelim ((bif ilt (List.getD (z10_ c) (Int.toNat (iadd .i64 (iadd .i64 (iadd .i64 (iadd .i64 (iadd .i64 (iadd .i64 (iadd .i64 (iadd .i64 (iadd .i64 (iadd .i64 (iadd .i64 (iadd .i64 (iadd .i64 0 1) 1) 1) 1) 1) 1) 1) 1) 1) 1) 1) 1) 1)) 0) (List.getD z8_ (Int.toNat (iadd .i64 (iadd .i64 (iadd .i64 (iadd .i64 (iadd .i64 (iadd .i64 (iadd .i64 (iadd .i64 (iadd .i64 (iadd .i64 (iadd .i64 (iadd .i64 (iadd .i64 0 1) 1) 1) 1) 1) 1) 1) 1) 1) 1) 1) 1) 1)) 0) then some (true, ()) else some (ilt (List.getD z9_ (Int.toNat (iadd .i64 (iadd .i64 (iadd .i64 (iadd .i64 (iadd .i64 (iadd .i64 (iadd .i64 (iadd .i64 (iadd .i64 (iadd .i64 (iadd .i64 (iadd .i64 (iadd .i64 0 1) 1) 1) 1) 1) 1) 1) 1) 1) 1) 1) 1) 1)) 0) (List.getD (z10_ c) (Int.toNat (iadd .i64 (iadd .i64 (iadd .i64 (iadd .i64 (iadd .i64 (iadd .i64 (iadd .i64 (iadd .i64 (iadd .i64 (iadd .i64 (iadd .i64 (iadd .i64 (iadd .i64 0 1) 1) 1) 1) 1) 1) 1) 1) 1) 1) 1) 1) 1)) 0), ()))) none fun r13 => (bif r13.1 then some (((15 : Int), ()), ((), ())) else (oelim ((bif ilt (List.getD (z10_ c) (Int.toNat (iadd .i64 (iadd .i64 (iadd .i64 (iadd .i64 (iadd .i64 (iadd .i64 (iadd .i64 (iadd .i64 (iadd .i64 (iadd .i64 (iadd .i64 (iadd .i64 (iadd .i64 (iadd .i64 0 1) 1) 1) 1) 1) 1) 1) 1) 1) 1) 1) 1) 1) 1)) 0) (List.getD z8_ (Int.toNat (iadd .i64 (iadd .i64 (iadd .i64 (iadd .i64 (iadd .i64 (iadd .i64 (iadd .i64 (iadd .i64 (iadd .i64 (iadd .i64 (iadd .i64 (iadd .i64 (iadd .i64 (iadd .i64 0 1) 1) 1) 1) 1) 1) 1) 1) 1) 1) 1) 1) 1) 1)) 0) then some (true, ()) else some (ilt (List.getD z9_ (Int.toNat (iadd .i64 (iadd .i64 (iadd .i64 (iadd .i64 (iadd .i64 (iadd .i64 (iadd .i64 (iadd .i64 (iadd .i64 (iadd .i64 (iadd .i64 (iadd .i64 (iadd .i64 (iadd .i64 0 1) 1) 1) 1) 1) 1) 1) 1) 1) 1) 1) 1) 1) 1)) 0) (List.getD (z10_ c) (Int.toNat (iadd .i64 (iadd .i64 (iadd .i64 (iadd .i64 (iadd .i64 (iadd .i64 (iadd .i64 (iadd .i64 (iadd .i64 (iadd .i64 (iadd .i64 (iadd .i64 (iadd .i64 (iadd .i64 0 1) 1) 1) 1) 1) 1) 1) 1) 1) 1) 1) 1) 1) 1)) 0), ()))) none fun r14 => (bif r14.1 then some (((15 : Int), ()), ((), ())) else (oelim ((bif ieq c.fClock 0 then some (true, ()) else (bif ieq c.fClock 18446744073709551615 then some (true, ()) else (oelim (cK115 c.fQuality) none fun r15 => some (!r15.1.1, ()))))) none fun r16 => (bif r16.1 then some (((15 : Int), ()), ((), ())) else (oelim ((bif c.fSlaveOnly then (bif ilt 1 c.fPorts then some (true, ()) else some (ine c.fQuality.fClass 255, ())) else some (false, ()))) none fun r17 => (bif r17.1 then some (((15 : Int), ()), ((), ())) else some (((0 : Int), ()), ((), ()))))))))))))))))))))))))))))))))))))
def K47 : K47.T := K47.gen K115
theorem K47.inner0 : Z3 K47.B0 = [] := by kernel_rfl
abbrev K47.h := K47.H K115
theorem K47.lok0 : ZM U Tryz.prog K47.h.ro K47.h.base K47.B0 (Z1N Tryz.prog (K47.U0 K115) 6 K47.B0 17) :=
 Z2y (Hn := (K47.U0 K115)) (L := fun c => c ∈ ([] : List Code)) (hq (Z0 Z2 K115.ok) Z6 (fun _ => rfl) (fun _ => rfl)) (fun b h => by rw [K47.inner0] at h; exact h) 17
theorem K47.eq (cK115 : K115.T) : EqA K47.sig (K47.H cK115) Tryz.f48 6 (K47.W (K47.gen cK115)) := by intro a x; kernel_rfl
theorem K47.loops : Z3 K47.C = [(.loop K47.B0)] := by kernel_rfl
theorem K47.ok : NK_ 48 K47.sig (K47.W K47) := ok_ Tryz.func48 (K47.eq K115) (hl_ (Z0 Z2 K115.ok) (Z9 (by kernel_rfl) K47.lok0 Z6)) K47.loops
def K150.sig : Sig U := ⟨[.data .t_api_Conf], [], 0, [.data .t_api_Parent], false, []⟩
abbrev K150.T : Type := (api_Conf) → Option ((api_Parent × Unit) × Unit × Unit)
def K150.W (f : K150.T) : K150.sig.F := fun a x => f a.1
abbrev K150.N (c : K150.T) := addΓ 88 (K150.sig.native (K150.W c))
def K150.H : Hints U := { Γ := noΓ, ro := 0, base := 13 }
def K150.gen : K150.T := fun c =>
 some ((api_Parent.mk (api_PortID.mk c.fClock 0) c.fClock c.fQuality c.fPriority1 c.fPriority2 0 c.fTimes, ()), ((), ()))
def K150 : K150.T := K150.gen
theorem K150.ok : NK_ 88 K150.sig (K150.W K150) := ok_ (H := K150.H) (n := 6) Tryz.func88 (by intro a x; kernel_rfl) (hn_ Z2)
def K124.sig : Sig U := ⟨[.int .i64, .int .i64, .int .i64], [fm5_], 0, [.ref 5], false, []⟩
abbrev K124.T : Type := (Int) → (Int) → (Int) → (Fm servo_Servo) → Option (((Option Nat) × Unit) × ((Fm servo_Servo) × Unit) × Unit)
def K124.W (f : K124.T) : K124.sig.F := fun a x => f a.1 a.2.1 a.2.2.1 x.1
def K124.H : Hints U := { Γ := noΓ, ro := 0, base := 13 }
def K124.gen : K124.T := fun kp ki step g5 =>
 some ((some g5.1, ()), (((g5.1 + 1, fset g5.2 g5.1 (servo_Servo.mk (Z4 true 0 (Z4 false kp 2000)) (Z4 true 0 (Z4 false ki 2000)) (Z4 true 0 (Z4 false step 1000000000)) 0 0 0 0)), ()), ()))
def K124 : K124.T := K124.gen
theorem K124.ok : NK_ 89 K124.sig (K124.W K124) := ok_ (H := K124.H) (n := 6) Tryz.func89 (by intro a x; kernel_rfl) (hn_ Z2)
def K90.sig : Sig U := ⟨[.int .i64], [fm9_], 0, [.ref 9], false, []⟩
abbrev K90.T : Type := (Int) → (Fm median_Filter) → Option (((Option Nat) × Unit) × ((Fm median_Filter) × Unit) × Unit)
def K90.W (f : K90.T) : K90.sig.F := fun a x => f a.1 x.1
def K90.H : Hints U := { Γ := noΓ, ro := 0, base := 13 }
def K90.gen : K90.T := fun n g9 =>
 some ((some g9.1, ()), (((g9.1 + 1, fset g9.2 g9.1 (median_Filter.mk (fun (j : Nat) => List.getD ((0 : Int) :: (0 : Int) :: (0 : Int) :: (0 : Int) :: (0 : Int) :: (0 : Int) :: (0 : Int) :: (0 : Int) :: (0 : Int) :: (0 : Int) :: (0 : Int) :: (0 : Int) :: (0 : Int) :: (0 : Int) :: (0 : Int) :: lnil Int) j (0 : D UC.int)) 0 (Z4 true 1 (Z4 false n 15)))), ()), ()))
def K90 : K90.T := K90.gen
theorem K90.ok : NK_ 90 K90.sig (K90.W K90) := ok_ (H := K90.H) (n := 6) Tryz.func90 (by intro a x; kernel_rfl) (hn_ Z2)
def K27.sig : Sig U := ⟨[.ptr, .int .i64], [.obj .t_clock_Clock], 1, [.data .t_api_PortID], false, []⟩
abbrev K27.T : Type := (Int) → (clock_Clock) → Option ((api_PortID × Unit) × Unit × Unit)
def K27.W (f : K27.T) : K27.sig.F := fun a x => f a.2.1 x.1
abbrev K27.N (c : K27.T) := addΓ 79 (K27.sig.native (K27.W c))
def K27.H : Hints U := { Γ := (addΓ 5000000021 Z1i noΓ), ro := 14, base := 14 }
def K27.gen : K27.T := fun n h0 =>
 some ((api_PortID.mk h0.fconf.fClock n, ()), ((), ()))
def K27 : K27.T := K27.gen
theorem K27.ok : NK_ 79 K27.sig (K27.W K27) := ok_ (H := K27.H) (n := 6) Tryz.func79 (by intro a x; kernel_rfl) (hn_ (Z0 Z2 Zg))
def K29.sig : Sig U := ⟨[.ptr, .int .i64], [.obj .t_clock_Clock], 1, [.eptr 0 23 42 8], false, []⟩
abbrev K29.T : Type := (Int) → (clock_Clock) → Option ((Nat × Unit) × Unit × Unit)
def K29.W (f : K29.T) : K29.sig.F := fun a x => f a.2.1 x.1
abbrev K29.N (c : K29.T) := addΓ 52 (K29.sig.native (K29.W c))
def K29.H : Hints U := { Γ := (addΓ 5000000021 Z1i noΓ), ro := 14, base := 14 }
def K29.gen : K29.T := fun n h0 =>
 (bif inR (isub .i64 n 1) 8 then some ((Int.toNat (isub .i64 n 1), ()), ((), ())) else none)
def K29 : K29.T := K29.gen
theorem K29.ok : NK_ 52 K29.sig (K29.W K29) := ok_ (H := K29.H) (n := 6) Tryz.func52 (by intro a x; kernel_rfl) (hn_ (Z0 Z2 Zg))
def K137.sig : Sig U := ⟨[.int .i64, .int .i64], [], 0, [.int .i64], false, []⟩
abbrev K137.T : Type := (Int) → (Int) → Option ((Int × Unit) × Unit × Unit)
def K137.W (f : K137.T) : K137.sig.F := fun a x => f a.1 a.2.1
def K137.H : Hints U := { Γ := noΓ, ro := 0, base := 13 }
def K137.gen : K137.T := fun n log =>
 (bif ieq (Z4 true (-3) (Z4 false log 4)) (-3) then some ((iquo .i64 (iquo .i64 (iquo .i64 n 2) 2) 2, ()), ((), ())) else (bif ieq (Z4 true (-3) (Z4 false log 4)) (-2) then some ((iquo .i64 (iquo .i64 n 2) 2, ()), ((), ())) else (bif ieq (Z4 true (-3) (Z4 false log 4)) (-1) then some ((iquo .i64 n 2, ()), ((), ())) else (bif ile 0 (Z4 true (-3) (Z4 false log 4)) then some ((ishl .i64 n (Z4 true (-3) (Z4 false log 4)), ()), ((), ())) else none))))
def K137 : K137.T := K137.gen
theorem K137.ok : NK_ 175 K137.sig (K137.W K137) := ok_ (H := K137.H) (n := 6) Tryz.func175 (by intro a x; kernel_rfl) (hn_ Z2)
def K136.sig : Sig U := ⟨[.int .i64], [], 0, [.int .i64], false, []⟩
abbrev K136.T : Type := (Int) → Option ((Int × Unit) × Unit × Unit)
def K136.W (f : K136.T) : K136.sig.F := fun a x => f a.1
def K136.H (cK137 : K137.T) : Hints U := { Γ := (addΓ 175 (K137.sig.native (K137.W cK137)) noΓ), ro := 0, base := 13 }
def K136.gen (cK137 : K137.T) : K136.T := fun log =>
 (oelim (cK137 8 log) none fun r0 => some (r0.1, ((), ())))
def K136 : K136.T := K136.gen K137
theorem K136.eq (cK137 : K137.T) : EqA K136.sig (K136.H cK137) Tryz.f132 6 (K136.W (K136.gen cK137)) := by intro a x; kernel_rfl
theorem K136.ok : NK_ 132 K136.sig (K136.W K136) := ok_ Tryz.func132 (K136.eq K137) (hn_ (Z0 Z2 K137.ok))
def K12.sig : Sig U := ⟨[.ptr], [.obj .t_clock_Clock], 1, [.int .i64], false, []⟩
abbrev K12.T : Type := (clock_Clock) → Option ((Int × Unit) × Unit × Unit)
def K12.W (f : K12.T) : K12.sig.F := fun a x => f x.1
abbrev K12.N (c : K12.T) := addΓ 70 (K12.sig.native (K12.W c))
def K12.H (cK136 : K136.T) : Hints U := { Γ := (addΓ 132 (K136.sig.native (K136.W cK136)) (addΓ 5000000021 Z1i noΓ)), ro := 14, base := 14 }
def K12.gen (cK136 : K136.T) : K12.T := fun h0 =>
 (oelim (cK136 h0.fconf.fLogAnn) none fun r0 => some (r0.1, ((), ())))
def K12 : K12.T := K12.gen K136
theorem K12.eq (cK136 : K136.T) : EqA K12.sig (K12.H cK136) Tryz.f70 6 (K12.W (K12.gen cK136)) := by intro a x; kernel_rfl
theorem K12.ok : NK_ 70 K12.sig (K12.W K12) := ok_ Tryz.func70 (K12.eq K136) (hn_ (Z0 (Z0 Z2 Zg) K136.ok))
def K57.sig : Sig U := ⟨[.int .u64, .int .i64, .int .i64], [fm6_], 0, [.ref 6], false, []⟩
abbrev K57.T : Type := (Int) → (Int) → (Int) → (Fm foreign_Table) → Option (((Option Nat) × Unit) × ((Fm foreign_Table) × Unit) × Unit)
def K57.W (f : K57.T) : K57.sig.F := fun a x => f a.1 a.2.1 a.2.2.1 x.1
def K57.H : Hints U := { Γ := noΓ, ro := 0, base := 13 }
def K57.gen : K57.T := fun own port window g6 =>
 some ((some g6.1, ()), (((g6.1 + 1, fset g6.2 g6.1 (foreign_Table.mk (api_PortID.mk own port) (Z4 true 1 (Z4 false window 1048576)) (fun (j : Nat) => List.getD (foreign_Record.mk z5_ z6_ 0 0 0 :: foreign_Record.mk z5_ z6_ 0 0 0 :: foreign_Record.mk z5_ z6_ 0 0 0 :: foreign_Record.mk z5_ z6_ 0 0 0 :: foreign_Record.mk z5_ z6_ 0 0 0 :: lnil foreign_Record) j foreign_Record.zero) 0)), ()), ()))
def K57 : K57.T := K57.gen
theorem K57.ok : NK_ 91 K57.sig (K57.W K57) := ok_ (H := K57.H) (n := 6) Tryz.func91 (by intro a x; kernel_rfl) (hn_ Z2)
def K121.sig : Sig U := ⟨[], [fm10_], 0, [.ref 10], false, []⟩
abbrev K121.T : Type := (Fm seq_Match) → Option (((Option Nat) × Unit) × ((Fm seq_Match) × Unit) × Unit)
def K121.W (f : K121.T) : K121.sig.F := fun a x => f x.1
def K121.H : Hints U := { Γ := noΓ, ro := 0, base := 13 }
def K121.gen : K121.T := fun g10 =>
 some ((some g10.1, ()), (((g10.1 + 1, fset g10.2 g10.1 (seq_Match.mk z2_ z2_ 0 false false)), ()), ()))
def K121 : K121.T := K121.gen
theorem K121.ok : NK_ 92 K121.sig (K121.W K121) := ok_ (H := K121.H) (n := 6) Tryz.func92 (by intro a x; kernel_rfl) (hn_ Z2)
def K56.sig : Sig U := ⟨[.data .t_api_PortID, .int .i64], [fm7_], 0, [.ref 7], false, []⟩
abbrev K56.T : Type := (api_PortID) → (Int) → (Fm delay_Exchange) → Option (((Option Nat) × Unit) × ((Fm delay_Exchange) × Unit) × Unit)
def K56.W (f : K56.T) : K56.sig.F := fun a x => f a.1 a.2.1 x.1
def K56.H : Hints U := { Γ := noΓ, ro := 0, base := 13 }
def K56.gen : K56.T := fun self domain g7 =>
 some ((some g7.1, ()), (((g7.1 + 1, fset g7.2 g7.1 (delay_Exchange.mk self domain (delay_request.mk 0 0 false false))), ()), ()))
def K56 : K56.T := K56.gen
theorem K56.ok : NK_ 93 K56.sig (K56.W K56) := ok_ (H := K56.H) (n := 6) Tryz.func93 (by intro a x; kernel_rfl) (hn_ Z2)
def K107.sig : Sig U := ⟨[.data .t_api_PortID, .int .i64], [fm8_], 0, [.ref 8], false, []⟩
abbrev K107.T : Type := (api_PortID) → (Int) → (Fm peer_Exchange) → Option (((Option Nat) × Unit) × ((Fm peer_Exchange) × Unit) × Unit)
def K107.W (f : K107.T) : K107.sig.F := fun a x => f a.1 a.2.1 x.1
def K107.H : Hints U := { Γ := noΓ, ro := 0, base := 13 }
def K107.gen : K107.T := fun self domain g8 =>
 some ((some g8.1, ()), (((g8.1 + 1, fset g8.2 g8.1 (peer_Exchange.mk self domain 0 0 false false false false z2_ 0)), ()), ()))
def K107 : K107.T := K107.gen
theorem K107.ok : NK_ 94 K107.sig (K107.W K107) := ok_ (H := K107.H) (n := 6) Tryz.func94 (by intro a x; kernel_rfl) (hn_ Z2)
def K15.sig : Sig U := ⟨[.ptr, .data .t_api_Conf], [.obj .t_clock_Clock, fm5_, fm6_, fm7_, fm8_, fm9_, fm10_, .fam 12 (.map true false .t_api_PortID .l_u64)], 0, [], true, []⟩
abbrev K15.T : Type := (api_Conf) → (clock_Clock) → (Fm servo_Servo) → (Fm foreign_Table) → (Fm delay_Exchange) → (Fm peer_Exchange) → (Fm median_Filter) → (Fm seq_Match) → (Nat × (Nat → List (api_PortID × List (Int)))) → Option (Unit × (clock_Clock × qT1_) × Unit)
def K15.W (f : K15.T) : K15.sig.F := fun a x => f a.2.1 x.1 x.2.1 x.2.2.1 x.2.2.2.1 x.2.2.2.2.1 x.2.2.2.2.2.1 x.2.2.2.2.2.2.1 x.2.2.2.2.2.2.2.1
def K15.L0 : Shape U := ⟨57, 15, [(0, .ptr 13 0 0), (3, .ptr 14 0 0), (4, vi_)], (13, .obj .t_clock_Clock) :: (14, .obj .t_api_Conf) :: hT0_⟩
def K15.X0 : Exits U := [(.exit 0, ⟨57, 14, [], (13, .obj .t_clock_Clock) :: hT0_⟩)]
abbrev K15.l0T : Type := ((Int × Unit) × (clock_Clock × api_Conf × qT1_)) → Option ((Unit × (clock_Clock × qT1_)))
def K15.C : Code := match Tryz.f49.body with | some c => c | none => .skip
def K15.B0 : Code := match (Z3 K15.C).getD 0 .skip with | .loop b => b | .scope b => b | _ => .skip
def K15.JR6 : Exits U := [(.normal, ⟨57, 15, [(0, .ptr 13 0 0), (3, .ptr 14 0 0), (4, vi_)], (13, .obj .t_clock_Clock) :: (14, .obj .t_api_Conf) :: hT0_⟩)]
def K15.JR5 : Exits U := [(.normal, ⟨57, 16, [(0, .ptr 13 0 0), (3, .ptr 14 0 0), (4, vi_), (5, .ptr 15 0 0)], (13, .obj .t_clock_Clock) :: (14, .obj .t_api_Conf) :: (15, .obj .t_api_PortID) :: hT0_⟩)]
def K15.JR1 : Exits U := [(.normal, ⟨57, 15, [(0, .ptr 13 0 0), (3, .ptr 14 0 0)], (13, .obj .t_clock_Clock) :: (14, .obj .t_api_Conf) :: hT0_⟩)]
def K15.H (cK150 : K150.T) (cK124 : K124.T) (cK90 : K90.T) (cK27 : K27.T) (cK29 : K29.T) (cK12 : K12.T) (cK57 : K57.T) (cK121 : K121.T) (cK56 : K56.T) (cK107 : K107.T) (l0 : K15.l0T) : Hints U := { Γ := (addΓ 94 (K107.sig.native (K107.W cK107)) (addΓ 93 (K56.sig.native (K56.W cK56)) (addΓ 92 (K121.sig.native (K121.W cK121)) (addΓ 91 (K57.sig.native (K57.W cK57)) (K12.N cK12 (K29.N cK29 (K27.N cK27 (addΓ 90 (K90.sig.native (K90.W cK90)) (addΓ 89 (K124.sig.native (K124.W cK124)) (K150.N cK150 noΓ)))))))))), ro := 0, base := 14, joinR := jt_ [(1, K15.JR1), (5, K15.JR5), (6, K15.JR6)], loop := jt_ [(3, (Za (0, 14) K15.L0 K15.X0 l0))] }
def K15.step0 (cK150 : K150.T) (cK124 : K124.T) (cK90 : K90.T) (cK27 : K27.T) (cK29 : K29.T) (cK12 : K12.T) (cK57 : K57.T) (cK121 : K121.T) (cK56 : K56.T) (cK107 : K107.T) (a : (Int × Unit) × (clock_Clock × api_Conf × qT1_)) : Option (((Int × Unit) × (clock_Clock × api_Conf × qT1_)) ⊕ ((Unit × (clock_Clock × qT1_)))) :=
 (bif ile a.1.1 a.2.2.1.fPorts then (oelim ((oelim (cK27 a.1.1 a.2.1) none fun r0 => some (a.1, (a.2.1, (a.2.2.1, (r0.1.1, a.2.2.2)))))) none fun r1 => (oelim ((oelim (cK29 r1.1.1 r1.2.1) none fun r2 => (oelim (cK12 r1.2.1) none fun r3 => (oelim (cK57 r1.2.2.1.fClock r1.1.1 (imul .i64 4 r3.1.1) r1.2.2.2.2.2.1) none fun r4 => (oelim (cK121 r1.2.2.2.2.2.2.2.2.2.1) none fun r5 => (oelim (cK56 r1.2.2.2.1 r1.2.2.1.fDomain r1.2.2.2.2.2.2.1) none fun r6 => (oelim (cK107 r1.2.2.2.1 r1.2.2.1.fDomain r1.2.2.2.2.2.2.2.1) none fun r7 => some (r1.1, (clock_Clock.set_fports r1.2.1 (fset r1.2.1.fports r2.1.1 (clock_side.mk 1 r4.1.1 (some r1.2.2.2.2.2.2.2.2.2.2.1.1) z3_ z3_ z3_ z3_ z3_ 0 0 0 r5.1.1 r6.1.1 r7.1.1 z4_ z4_ z2_ false)), (r1.2.2.1, (r1.2.2.2.2.1, (r4.2.1.1, (r6.2.1.1, (r7.2.1.1, (r1.2.2.2.2.2.2.2.2.1, (r5.2.1.1, ((r1.2.2.2.2.2.2.2.2.2.2.1.1 + 1, fset r1.2.2.2.2.2.2.2.2.2.2.1.2 r1.2.2.2.2.2.2.2.2.2.2.1.1 (lnil (D UC.t_api_PortID × D UC.l_u64))), ()))))))))))))))))) none fun r8 => some (.inl ((iadd .i64 r8.1.1 1, ()), r8.2)))) else some (.inr ((), (a.2.1, a.2.2.2))))
def K15.F0 : K15.l0T := fun a => Z8 (1000000) (K15.step0 K150 K124 K90 K27 K29 K12 K57 K121 K56 K107) a
def K15.gen (cK150 : K150.T) (cK124 : K124.T) (cK90 : K90.T) (cK27 : K27.T) (cK29 : K29.T) (cK12 : K12.T) (cK57 : K57.T) (cK121 : K121.T) (cK56 : K56.T) (cK107 : K107.T) (l0 : K15.l0T) : K15.T := fun c h0 g5 g6 g7 g8 g9 g10 g12 =>
 (oelim ((oelim (cK150 c) none fun r0 => (oelim (cK124 c.fKp c.fKi c.fStep g5) none fun r1 => (oelim (cK90 c.fMedian g9) none fun r2 => some ((), (clock_Clock.mk c (fun (j : Nat) => List.getD (clock_side.mk 0 none none z3_ z3_ z3_ z3_ z3_ 0 0 0 none none none z4_ z4_ z2_ false :: clock_side.mk 0 none none z3_ z3_ z3_ z3_ z3_ 0 0 0 none none none z4_ z4_ z2_ false :: clock_side.mk 0 none none z3_ z3_ z3_ z3_ z3_ 0 0 0 none none none z4_ z4_ z2_ false :: clock_side.mk 0 none none z3_ z3_ z3_ z3_ z3_ 0 0 0 none none none z4_ z4_ z2_ false :: clock_side.mk 0 none none z3_ z3_ z3_ z3_ z3_ 0 0 0 none none none z4_ z4_ z2_ false :: clock_side.mk 0 none none z3_ z3_ z3_ z3_ z3_ 0 0 0 none none none z4_ z4_ z2_ false :: clock_side.mk 0 none none z3_ z3_ z3_ z3_ z3_ 0 0 0 none none none z4_ z4_ z2_ false :: clock_side.mk 0 none none z3_ z3_ z3_ z3_ z3_ 0 0 0 none none none z4_ z4_ z2_ false :: lnil clock_side) j clock_side.zero) 0 r0.1.1 r1.1.1 r2.1.1 0 z4_ 0 h0.fouts, (c, (r1.2.1.1, (g6, (g7, (g8, (r2.2.1.1, (g10, (g12, ())))))))))))))) none fun r3 => (oelim (l0 (((1 : Int), ()), r3.2)) none fun r4 => some ((), (r4.2, ()))))
def K15 : K15.T := K15.gen K150 K124 K90 K27 K29 K12 K57 K121 K56 K107 K15.F0
theorem K15.seq0 (cK150 : K150.T) (cK124 : K124.T) (cK90 : K90.T) (cK27 : K27.T) (cK29 : K29.T) (cK12 : K12.T) (cK57 : K57.T) (cK121 : K121.T) (cK56 : K56.T) (cK107 : K107.T) (l0 : K15.l0T) (a : K15.L0.T) : run Tryz.prog (K15.H cK150 cK124 cK90 cK27 cK29 cK12 cK57 cK121 cK56 cK107 l0) 6 (Option (K15.L0.T ⊕ ExT K15.X0)) none K15.B0 (K15.L0.enc a) (Zn (0, 14) K15.L0 K15.X0) = K15.step0 cK150 cK124 cK90 cK27 cK29 cK12 cK57 cK121 cK56 cK107 a := by kernel_rfl
abbrev K15.h := K15.H K150 K124 K90 K27 K29 K12 K57 K121 K56 K107 K15.F0
theorem K15.lok0 : LO_ K15.h K15.B0 (Za (0, 14) K15.L0 K15.X0 K15.F0) := lk_ (hn_ (Z0 (Z0 (Z0 (Z0 (Z0 (Z0 (Z0 (Z0 (Z0 (Z0 Z2 K150.ok) K124.ok) K90.ok) K27.ok) K29.ok) K12.ok) K57.ok) K121.ok) K56.ok) K107.ok)) (K15.seq0 K150 K124 K90 K27 K29 K12 K57 K121 K56 K107 K15.F0)
theorem K15.eq (cK150 : K150.T) (cK124 : K124.T) (cK90 : K90.T) (cK27 : K27.T) (cK29 : K29.T) (cK12 : K12.T) (cK57 : K57.T) (cK121 : K121.T) (cK56 : K56.T) (cK107 : K107.T) (l0 : K15.l0T) : EqA K15.sig (K15.H cK150 cK124 cK90 cK27 cK29 cK12 cK57 cK121 cK56 cK107 l0) Tryz.f49 6 (K15.W (K15.gen cK150 cK124 cK90 cK27 cK29 cK12 cK57 cK121 cK56 cK107 l0)) := by intro a x; kernel_rfl
theorem K15.loops : Z3 K15.C = [(.loop K15.B0)] := by kernel_rfl
theorem K15.ok : NK_ 49 K15.sig (K15.W K15) := ok_ Tryz.func49 (K15.eq K150 K124 K90 K27 K29 K12 K57 K121 K56 K107 K15.F0) (hl_ (Z0 (Z0 (Z0 (Z0 (Z0 (Z0 (Z0 (Z0 (Z0 (Z0 Z2 K150.ok) K124.ok) K90.ok) K27.ok) K29.ok) K12.ok) K57.ok) K121.ok) K56.ok) K107.ok) (Z9 (by kernel_rfl) K15.lok0 Z6)) K15.loops
def K32.sig : Sig U := ⟨[.data .t_api_Conf], [fm0_, fm5_, fm6_, fm7_, fm8_, fm9_, fm10_, .fam 12 (.map true false .t_api_PortID .l_u64)], 0, [.ref 0, .int .i64], true, []⟩
abbrev K32.T : Type := (api_Conf) → (Fm clock_Clock) → (Fm servo_Servo) → (Fm foreign_Table) → (Fm delay_Exchange) → (Fm peer_Exchange) → (Fm median_Filter) → (Fm seq_Match) → (Nat × (Nat → List (api_PortID × List (Int)))) → Option (((Option Nat) × Int × Unit) × (qT0_) × Unit)
def K32.W (f : K32.T) : K32.sig.F := fun a x => f a.1 x.1 x.2.1 x.2.2.1 x.2.2.2.1 x.2.2.2.2.1 x.2.2.2.2.2.1 x.2.2.2.2.2.2.1 x.2.2.2.2.2.2.2.1
def K32.H (cK47 : K47.T) (cK15 : K15.T) : Hints U := { Γ := (addΓ 49 (K15.sig.native (K15.W cK15)) (addΓ 48 (K47.sig.native (K47.W cK47)) noΓ)), ro := 0, base := 13 }
def K32.gen (cK47 : K47.T) (cK15 : K15.T) : K32.T := fun c g0 g5 g6 g7 g8 g9 g10 g12 =>
 (oelim (cK47 c) none fun r0 => (bif ine r0.1.1 0 then some ((none, r0.1), ((g0, (g5, (g6, (g7, (g8, (g9, (g10, (g12, ())))))))), ())) else (oelim (cK15 c (fset g0.2 g0.1 (clock_Clock.mk z7_ (fun (j : Nat) => List.getD (clock_side.mk 0 none none z3_ z3_ z3_ z3_ z3_ 0 0 0 none none none z4_ z4_ z2_ false :: clock_side.mk 0 none none z3_ z3_ z3_ z3_ z3_ 0 0 0 none none none z4_ z4_ z2_ false :: clock_side.mk 0 none none z3_ z3_ z3_ z3_ z3_ 0 0 0 none none none z4_ z4_ z2_ false :: clock_side.mk 0 none none z3_ z3_ z3_ z3_ z3_ 0 0 0 none none none z4_ z4_ z2_ false :: clock_side.mk 0 none none z3_ z3_ z3_ z3_ z3_ 0 0 0 none none none z4_ z4_ z2_ false :: clock_side.mk 0 none none z3_ z3_ z3_ z3_ z3_ 0 0 0 none none none z4_ z4_ z2_ false :: clock_side.mk 0 none none z3_ z3_ z3_ z3_ z3_ 0 0 0 none none none z4_ z4_ z2_ false :: clock_side.mk 0 none none z3_ z3_ z3_ z3_ z3_ 0 0 0 none none none z4_ z4_ z2_ false :: lnil clock_side) j clock_side.zero) 0 (api_Parent.mk z0_ 0 z1_ 0 0 0 z6_) none none (0 : Int) z4_ 0 (lnil api_Out)) g0.1) g5 g6 g7 g8 g9 g10 g12) none fun r1 => some ((some g0.1, ((0 : Int), ())), (((g0.1 + 1, fset (fset g0.2 g0.1 (clock_Clock.mk z7_ (fun (j : Nat) => List.getD (clock_side.mk 0 none none z3_ z3_ z3_ z3_ z3_ 0 0 0 none none none z4_ z4_ z2_ false :: clock_side.mk 0 none none z3_ z3_ z3_ z3_ z3_ 0 0 0 none none none z4_ z4_ z2_ false :: clock_side.mk 0 none none z3_ z3_ z3_ z3_ z3_ 0 0 0 none none none z4_ z4_ z2_ false :: clock_side.mk 0 none none z3_ z3_ z3_ z3_ z3_ 0 0 0 none none none z4_ z4_ z2_ false :: clock_side.mk 0 none none z3_ z3_ z3_ z3_ z3_ 0 0 0 none none none z4_ z4_ z2_ false :: clock_side.mk 0 none none z3_ z3_ z3_ z3_ z3_ 0 0 0 none none none z4_ z4_ z2_ false :: clock_side.mk 0 none none z3_ z3_ z3_ z3_ z3_ 0 0 0 none none none z4_ z4_ z2_ false :: clock_side.mk 0 none none z3_ z3_ z3_ z3_ z3_ 0 0 0 none none none z4_ z4_ z2_ false :: lnil clock_side) j clock_side.zero) 0 (api_Parent.mk z0_ 0 z1_ 0 0 0 z6_) none none (0 : Int) z4_ 0 (lnil api_Out))) g0.1 r1.2.1.1), r1.2.1.2), ())))))
def K32 : K32.T := K32.gen K47 K15
theorem K32.eq (cK47 : K47.T) (cK15 : K15.T) : EqA K32.sig (K32.H cK47 cK15) Tryz.f24 6 (K32.W (K32.gen cK47 cK15)) := by intro a x; kernel_rfl
theorem K32.ok : NK_ 24 K32.sig (K32.W K32) := ok_ Tryz.func24 (K32.eq K47 K15) (hn_ (Z0 (Z0 Z2 K47.ok) K15.ok))
def K83.sig : Sig U := ⟨[.int .u64, .int .i64], [fm0_, fm5_, fm6_, fm7_, fm8_, fm9_, fm10_, .fam 12 (.map true false .t_api_PortID .l_u64)], 0, [.ref 0], false, []⟩
abbrev K83.T : Type := (Int) → (Int) → (Fm clock_Clock) → (Fm servo_Servo) → (Fm foreign_Table) → (Fm delay_Exchange) → (Fm peer_Exchange) → (Fm median_Filter) → (Fm seq_Match) → (Nat × (Nat → List (api_PortID × List (Int)))) → Option (((Option Nat) × Unit) × (qT0_) × Unit)
def K83.W (f : K83.T) : K83.sig.F := fun a x => f a.1 a.2.1 x.1 x.2.1 x.2.2.1 x.2.2.2.1 x.2.2.2.2.1 x.2.2.2.2.2.1 x.2.2.2.2.2.2.1 x.2.2.2.2.2.2.2.1
def K83.H (cK48 : K48.T) (cK32 : K32.T) : Hints U := { Γ := (addΓ 24 (K32.sig.native (K32.W cK32)) (addΓ 23 (K48.sig.native (K48.W cK48)) noΓ)), ro := 0, base := 13 }
def K83.gen (cK48 : K48.T) (cK32 : K32.T) : K83.T := fun id ports g0 g5 g6 g7 g8 g9 g10 g12 =>
 (oelim (cK48 id) none fun r0 => (oelim (cK32 (api_Conf.set_fLogDelay (api_Conf.set_fLogSync (api_Conf.set_fLogAnn (api_Conf.set_fPorts r0.1.1 ports) (-3)) (-3)) (-3)) g0 g5 g6 g7 g8 g9 g10 g12) none fun r1 => (bif ine r1.1.2.1 0 then some ((none, ()), r1.2) else some ((r1.1.1, ()), r1.2))))
def K83 : K83.T := K83.gen K48 K32
theorem K83.eq (cK48 : K48.T) (cK32 : K32.T) : EqA K83.sig (K83.H cK48 cK32) Tryz.f15 6 (K83.W (K83.gen cK48 cK32)) := by intro a x; kernel_rfl
theorem K83.ok : NK_ 15 K83.sig (K83.W K83) := ok_ Tryz.func15 (K83.eq K48 K32) (hn_ (Z0 (Z0 Z2 K48.ok) K32.ok))
def K110.sig : Sig U := ⟨[.int .i64], [], 0, [.bool], false, []⟩
abbrev K110.T : Type := (Int) → Option ((Bool × Unit) × Unit × Unit)
def K110.W (f : K110.T) : K110.sig.F := fun a x => f a.1
abbrev K110.N (c : K110.T) := addΓ 76 (K110.sig.native (K110.W c))
def K110.H : Hints U := { Γ := noΓ, ro := 0, base := 13 }
def K110.gen : K110.T := fun state =>
 (bif ieq state 8 then some ((true, ()), ((), ())) else some ((ieq state 9, ()), ((), ())))
def K110 : K110.T := K110.gen
theorem K110.ok : NK_ 76 K110.sig (K110.W K110) := ok_ (H := K110.H) (n := 6) Tryz.func76 (by intro a x; kernel_rfl) (hn_ Z2)
def K111.sig : Sig U := ⟨[.int .i64], [], 0, [.bool], false, []⟩
abbrev K111.T : Type := (Int) → Option ((Bool × Unit) × Unit × Unit)
def K111.W (f : K111.T) : K111.sig.F := fun a x => f a.1
abbrev K111.N (c : K111.T) := addΓ 129 (K111.sig.native (K111.W c))
def K111.H (cK110 : K110.T) : Hints U := { Γ := (K110.N cK110 noΓ), ro := 0, base := 13 }
def K111.gen (cK110 : K110.T) : K111.T := fun state =>
 (bif ieq state 4 then some ((true, ()), ((), ())) else (bif ieq state 7 then some ((true, ()), ((), ())) else (oelim (cK110 state) none fun r0 => some (r0.1, ((), ())))))
def K111 : K111.T := K111.gen K110
theorem K111.eq (cK110 : K110.T) : EqA K111.sig (K111.H cK110) Tryz.f129 6 (K111.W (K111.gen cK110)) := by intro a x; kernel_rfl
theorem K111.ok : NK_ 129 K111.sig (K111.W K111) := ok_ Tryz.func129 (K111.eq K110) (hn_ (Z0 Z2 K110.ok))
def K112.sig : Sig U := ⟨[.int .i64, .int .i64, .bool], [], 0, [.int .i64], false, []⟩
abbrev K112.T : Type := (Int) → (Int) → (Bool) → Option ((Int × Unit) × Unit × Unit)
def K112.W (f : K112.T) : K112.sig.F := fun a x => f a.1 a.2.1 a.2.2.1
def K112.JC6 : Exits U := [(.normal, ⟨60, 13, [(0, vi_), (1, vi_), (2, vb_), (21, vb_)], []⟩)]
def K112.JC2 : Exits U := [(.normal, ⟨60, 13, [(0, vi_)], []⟩),
 (.ret, ⟨60, 13, [(6, vi_)], []⟩)]
def K112.H (cK111 : K111.T) : Hints U := { Γ := (K111.N cK111 noΓ), ro := 0, base := 13, joinQ := jt_ [(1, [(7, vb_)]), (3, [(14, vb_)]), (5, [(21, vb_)]), (6, [(21, vb_)]), (8, [(34, vb_)]), (12, [(42, vb_)]), (14, [(49, vb_)])], joinC := jt_ [(2, K112.JC2), (6, K112.JC6)] }
def K112.gen (cK111 : K111.T) : K112.T := fun state event slaveOnly =>
 (oelim ((bif ieq event 1 then some (ieq state 1, ()) else some (false, ()))) none fun r0 => (oelim ((bif r0.1 then some (.inr (((4 : Int), ()), ())) else (oelim ((bif ieq event 2 then some (ine state 3, ()) else some (false, ()))) none fun r1 => (bif r1.1 then some (.inr (((2 : Int), ()), ())) else (oelim ((bif ieq event 3 then some (ieq state 2, ()) else some (false, ()))) none fun r2 => (oelim ((bif r2.1 then some ((state, (event, (slaveOnly, r2))), ()) else (oelim ((bif ieq event 8 then some (ieq state 3, ()) else some (false, ()))) none fun r3 => some ((state, (event, (slaveOnly, r3))), ())))) none fun r4 => (bif r4.1.2.2.2.1 then some (.inr (((1 : Int), ()), ())) else (oelim ((bif ieq r4.1.2.1 4 then (oelim (cK111 r4.1.1) none fun r5 => some r5.1) else some (false, ()))) none fun r6 => (bif r6.1 then (bif r4.1.2.2.1 then some (.inr (((4 : Int), ()), ())) else some (.inr (((6 : Int), ()), ()))) else (oelim ((bif ieq r4.1.2.1 5 then some (ieq r4.1.1 5, ()) else some (false, ()))) none fun r7 => (bif r7.1 then some (.inr (((6 : Int), ()), ())) else (oelim ((bif ieq r4.1.2.1 6 then some (ieq r4.1.1 8, ()) else some (false, ()))) none fun r8 => (bif r8.1 then some (.inr (((9 : Int), ()), ())) else (bif ieq r4.1.2.1 7 then some (.inr (((3 : Int), ()), ())) else some (.inl ((r4.1.1, ()), ())))))))))))))))) none fun r9 => (selim r9 (fun r10 => some (r10.1, ((), ()))) (fun r10 => some (r10.1, ((), ()))))))
def K112 : K112.T := K112.gen K111
theorem K112.eq (cK111 : K111.T) : EqA K112.sig (K112.H cK111) Tryz.f95 6 (K112.W (K112.gen cK111)) := by intro a x; kernel_rfl
theorem K112.ok : NK_ 95 K112.sig (K112.W K112) := ok_ Tryz.func95 (K112.eq K111) (hn_ (Z0 Z2 K111.ok))
def K25.sig : Sig U := ⟨[.ptr], [.obj .t_clock_Clock], 1, [.int .i64], false, []⟩
abbrev K25.T : Type := (clock_Clock) → Option ((Int × Unit) × Unit × Unit)
def K25.W (f : K25.T) : K25.sig.F := fun a x => f x.1
abbrev K25.N (c : K25.T) := addΓ 127 (K25.sig.native (K25.W c))
def K25.H (cK12 : K12.T) : Hints U := { Γ := (K12.N cK12 (addΓ 5000000021 Z1i noΓ)), ro := 14, base := 14 }
def K25.gen (cK12 : K12.T) : K25.T := fun h0 =>
 (oelim (cK12 h0) none fun r0 => some ((imul .i64 h0.fconf.fTimeout r0.1.1, ()), ((), ())))
def K25 : K25.T := K25.gen K12
theorem K25.eq (cK12 : K12.T) : EqA K25.sig (K25.H cK12) Tryz.f127 6 (K25.W (K25.gen cK12)) := by intro a x; kernel_rfl
theorem K25.ok : NK_ 127 K25.sig (K25.W K25) := ok_ Tryz.func127 (K25.eq K12) (hn_ (Z0 (Z0 Z2 Zg) K12.ok))
def K138.sig : Sig U := ⟨[.ptr, .int .i64], [.obj .t_timer_Timer], 0, [], true, []⟩
abbrev K138.T : Type := (Int) → (timer_Timer) → Option (Unit × (timer_Timer × Unit) × Unit)
def K138.W (f : K138.T) : K138.sig.F := fun a x => f a.2.1 x.1
abbrev K138.N (c : K138.T) := addΓ 126 (K138.sig.native (K138.W c))
def K138.H : Hints U := { Γ := noΓ, ro := 0, base := 14 }
def K138.gen : K138.T := fun n h0 =>
 some ((), ((timer_Timer.mk (Z4 true 1 (Z4 false n 1073741824)), ()), ()))
def K138 : K138.T := K138.gen
theorem K138.ok : NK_ 126 K138.sig (K138.W K138) := ok_ (H := K138.H) (n := 6) Tryz.func126 (by intro a x; kernel_rfl) (hn_ Z2)
def K108.sig : Sig U := ⟨[.int .i64], [], 0, [.bool], false, []⟩
abbrev K108.T : Type := (Int) → Option ((Bool × Unit) × Unit × Unit)
def K108.W (f : K108.T) : K108.sig.F := fun a x => f a.1
abbrev K108.N (c : K108.T) := addΓ 74 (K108.sig.native (K108.W c))
def K108.H : Hints U := { Γ := noΓ, ro := 0, base := 13 }
def K108.gen : K108.T := fun state =>
 (bif ile 4 state then some ((ile state 9, ()), ((), ())) else some ((false, ()), ((), ())))
def K108 : K108.T := K108.gen
theorem K108.ok : NK_ 74 K108.sig (K108.W K108) := ok_ (H := K108.H) (n := 6) Tryz.func74 (by intro a x; kernel_rfl) (hn_ Z2)
def K64.sig : Sig U := ⟨[.ptr, .int .i64, .int .i64], [.obj .t_foreign_Table], 1, [.bool], false, []⟩
abbrev K64.T : Type := (Int) → (Int) → (foreign_Table) → Option ((Bool × Unit) × Unit × Unit)
def K64.W (f : K64.T) : K64.sig.F := fun a x => f a.2.1 a.2.2.1 x.1
def K64.H : Hints U := { Γ := noΓ, ro := 14, base := 14 }
def K64.gen : K64.T := fun at_1 now h0 =>
 (bif ile at_1 now then some ((ile h0.fwindow (isub .i64 now at_1), ()), ((), ())) else some ((false, ()), ((), ())))
def K64 : K64.T := K64.gen
theorem K64.ok : NK_ 197 K64.sig (K64.W K64) := ok_ (H := K64.H) (n := 6) Tryz.func197 (by intro a x; kernel_rfl) (hn_ Z2)
def K58.sig : Sig U := ⟨[.ptr, .int .i64], [.obj .t_foreign_Table], 0, [], true, []⟩
abbrev K58.T : Type := (Int) → (foreign_Table) → Option (Unit × (foreign_Table × Unit) × Unit)
def K58.W (f : K58.T) : K58.sig.F := fun a x => f a.2.1 x.1
def K58.L0 : Shape U := ⟨60, 14, [(0, .ptr 13 0 0), (1, vi_), (4, vi_)], [(13, .obj .t_foreign_Table)]⟩
def K58.X0 : Exits U := [(.exit 0, ⟨60, 14, [], [(13, .obj .t_foreign_Table)]⟩)]
abbrev K58.l0T : Type := ((Int × Int × Unit) × (foreign_Table × Unit)) → Option ((Unit × (foreign_Table × Unit)))
def K58.C : Code := match Tryz.f174.body with | some c => c | none => .skip
def K58.B0 : Code := match (Z3 K58.C).getD 0 .skip with | .loop b => b | .scope b => b | _ => .skip
def K58.JR5 : Exits U := [(.normal, ⟨60, 14, [(0, .ptr 13 0 0), (1, vi_), (4, vi_)], [(13, .obj .t_foreign_Table)]⟩)]
def K58.H (cK64 : K64.T) (l0 : K58.l0T) : Hints U := { Γ := (addΓ 197 (K64.sig.native (K64.W cK64)) noΓ), ro := 0, base := 14, joinR := jt_ [(5, K58.JR5)], loop := jt_ [(1, (Za (0, 14) K58.L0 K58.X0 l0))] }
def K58.step0 (cK64 : K64.T) (a : (Int × Int × Unit) × (foreign_Table × Unit)) : Option (((Int × Int × Unit) × (foreign_Table × Unit)) ⊕ ((Unit × (foreign_Table × Unit)))) :=
 (bif ilt a.1.2.1 a.2.1.fn then (bif inR a.1.2.1 5 then (oelim (cK64 (a.2.1.fl (Int.toNat a.1.2.1)).fLast a.1.1 a.2.1) none fun r0 => (bif !r0.1.1 then some (.inl ((a.1.1, (iadd .i64 a.1.2.1 1, ())), a.2)) else (bif le3 a.1.2.1 a.2.1.fn 5 then (bif le3 (iadd .i64 a.1.2.1 1) a.2.1.fn 5 then (bif inR (isub .i64 a.2.1.fn 1) 5 then some (.inl (a.1, (foreign_Table.set_fn (foreign_Table.set_fl a.2.1 (fset (fun (i : Nat) => bif Nat.ble (Int.toNat a.1.2.1) i && Nat.blt i (Int.toNat a.1.2.1 + Nat.min (Int.toNat a.2.1.fn - Int.toNat (iadd .i64 a.1.2.1 1)) (Int.toNat a.2.1.fn - Int.toNat a.1.2.1)) then a.2.1.fl (Int.toNat (iadd .i64 a.1.2.1 1) + (i - Int.toNat a.1.2.1)) else a.2.1.fl i) (Int.toNat (isub .i64 a.2.1.fn 1)) (foreign_Record.mk z5_ z6_ 0 0 0))) (isub .i64 a.2.1.fn 1), ()))) else none) else none) else none))) else none) else some (.inr ((), a.2)))
def K58.F0 : K58.l0T := fun a => Z8 (1000000) (K58.step0 K64) a
def K58.gen (cK64 : K64.T) (l0 : K58.l0T) : K58.T := fun now h0 =>
 (oelim (l0 ((now, (0 : Int), ()), h0, ())) none fun r0 => some ((), (r0.2, ())))
def K58 : K58.T := K58.gen K64 K58.F0
theorem K58.seq0 (cK64 : K64.T) (l0 : K58.l0T) (a : K58.L0.T) : run Tryz.prog (K58.H cK64 l0) 6 (Option (K58.L0.T ⊕ ExT K58.X0)) none K58.B0 (K58.L0.enc a) (Zn (0, 14) K58.L0 K58.X0) = K58.step0 cK64 a := by kernel_rfl
abbrev K58.h := K58.H K64 K58.F0
theorem K58.lok0 : LO_ K58.h K58.B0 (Za (0, 14) K58.L0 K58.X0 K58.F0) := lk_ (hn_ (Z0 Z2 K64.ok)) (K58.seq0 K64 K58.F0)
theorem K58.eq (cK64 : K64.T) (l0 : K58.l0T) : EqA K58.sig (K58.H cK64 l0) Tryz.f174 6 (K58.W (K58.gen cK64 l0)) := by intro a x; kernel_rfl
theorem K58.loops : Z3 K58.C = [(.loop K58.B0)] := by kernel_rfl
theorem K58.ok : NK_ 174 K58.sig (K58.W K58) := ok_ Tryz.func174 (K58.eq K64 K58.F0) (hl_ (Z0 Z2 K64.ok) (Z9 (by kernel_rfl) K58.lok0 Z6)) K58.loops
def K63.sig : Sig U := ⟨[.ptr], [.obj .t_foreign_Table], 1, [.isl .t_foreign_Record], false, []⟩
abbrev K63.T : Type := (foreign_Table) → Option (((List (foreign_Record)) × Unit) × Unit × Unit)
def K63.W (f : K63.T) : K63.sig.F := fun a x => f x.1
def K63.H : Hints U := { Γ := noΓ, ro := 14, base := 14 }
def K63.gen : K63.T := fun h0 =>
 (bif le3 (ofN 0) h0.fn 5 then (bif room (List.length (lnil foreign_Record) + List.length (List.map (fun (j : Nat) => h0.fl (Int.toNat (ofN 0) + j)) (List.range (Int.toNat h0.fn - Int.toNat (ofN 0))))) 136 then some ((lnil foreign_Record ++ List.map (fun (j : Nat) => h0.fl (Int.toNat (ofN 0) + j)) (List.range (Int.toNat h0.fn - Int.toNat (ofN 0))), ()), ((), ())) else none) else none)
def K63 : K63.T := K63.gen
theorem K63.ok : NK_ 64 K63.sig (K63.W K63) := ok_ (H := K63.H) (n := 6) Tryz.func64 (by intro a x; kernel_rfl) (hn_ Z2)
def K33.sig : Sig U := ⟨[.ptr, .int .i64], [.obj .t_clock_side, fm6_, .fam 12 (.map true false .t_api_PortID .l_u64)], 0, [], true, []⟩
abbrev K33.T : Type := (Int) → (clock_side) → (Fm foreign_Table) → (Nat × (Nat → List (api_PortID × List (Int)))) → Option (Unit × (clock_side × qT4_) × Unit)
def K33.W (f : K33.T) : K33.sig.F := fun a x => f a.2.1 x.1 x.2.1 x.2.2.1
def K33.L0 : Shape U := ⟨41, 14, [(0, .ptr 13 0 0), (4, .val (.mref 12)), (18, .val (.isl .t_foreign_Record)), (19, vi_), (20, vi_)], (13, .obj .t_clock_side) :: hT1_⟩
def K33.X0 : Exits U := [(.exit 0, ⟨41, 14, [(0, .ptr 13 0 0), (4, .val (.mref 12))], (13, .obj .t_clock_side) :: hT1_⟩)]
abbrev K33.l0T : Type := (((Option Nat) × (List (foreign_Record)) × Int × Int × Unit) × (clock_side × qT4_)) → Option ((((Option Nat) × Unit) × (clock_side × qT4_)))
def K33.C : Code := match Tryz.f128.body with | some c => c | none => .skip
def K33.B0 : Code := match (Z3 K33.C).getD 0 .skip with | .loop b => b | .scope b => b | _ => .skip
def K33.JR5 : Exits U := [(.normal, ⟨41, 14, [(0, .ptr 13 0 0), (4, .val (.mref 12)), (18, .val (.isl .t_foreign_Record)), (19, vi_), (20, vi_)], (13, .obj .t_clock_side) :: hT1_⟩)]
def K33.JR4 : Exits U := [(.normal, ⟨41, 15, [(0, .ptr 13 0 0), (4, .val (.mref 12)), (6, .ptr 14 0 0), (18, .val (.isl .t_foreign_Record)), (19, vi_), (20, vi_)], (13, .obj .t_clock_side) :: (14, .obj .t_foreign_Record) :: hT1_⟩)]
def K33.JR0 : Exits U := [(.normal, ⟨41, 14, [(0, .ptr 13 0 0)], (13, .obj .t_clock_side) :: hT1_⟩)]
def K33.H (cK58 : K58.T) (cK63 : K63.T) (l0 : K33.l0T) : Hints U := { Γ := (addΓ 64 (K63.sig.native (K63.W cK63)) (addΓ 174 (K58.sig.native (K58.W cK58)) noΓ)), ro := 0, base := 14, joinR := jt_ [(0, K33.JR0), (4, K33.JR4), (5, K33.JR5)], loop := jt_ [(3, (Za (0, 14) K33.L0 K33.X0 l0))] }
def K33.step0 (cK58 : K58.T) (cK63 : K63.T) (a : ((Option Nat) × (List (foreign_Record)) × Int × Int × Unit) × (clock_side × qT4_)) : Option ((((Option Nat) × (List (foreign_Record)) × Int × Int × Unit) × (clock_side × qT4_)) ⊕ ((((Option Nat) × Unit) × (clock_side × qT4_)))) :=
 (bif ilt a.1.2.2.2.1 a.1.2.2.1 then (oelim ((bif inR a.1.2.2.2.1 (List.length a.1.2.1) then some (a.1, (a.2.1, (List.getD a.1.2.1 (Int.toNat a.1.2.2.2.1) foreign_Record.zero, a.2.2))) else none)) none fun r0 => (oelim ((oelim ((oelim (r0.2.1.3) none fun r1 => ((@Z3c U Go.Proofs.Tryz.prog 31 UC.t_api_PortID UC.l_u64 (r0.2.2.1.fVector.fSender) (r0.2.2.2.2.1.2 r1)) : Option (Option (List Int))))) none fun (r2 : Option (List Int)) => (oelim ((oelim (r0.1.1) none fun r3 => (oelim ((@Z3d U Go.Proofs.Tryz.prog 31 UC.t_api_PortID UC.l_u64 (r0.2.2.1.fVector.fSender) (Option.getD r2 (lnil Int)) (r0.2.2.2.2.1.2 r3))) none fun (r4 : List (api_PortID × List Int)) => some (r3, r4)))) none fun (r5 : Nat × List (api_PortID × List Int)) => some (r0.1, (r0.2.1, (r0.2.2.2.1, ((r0.2.2.2.2.1.1, fset r0.2.2.2.2.1.2 r5.1 r5.2), ()))))))) none fun r6 => some (.inl ((r6.1.1, (r6.1.2.1, (r6.1.2.2.1, (iadd .i64 r6.1.2.2.2.1 1, ())))), r6.2)))) else some (.inr ((a.1.1, ()), a.2)))
def K33.F0 : K33.l0T := fun a => Z8 (1000000 + (a.1.2.1.length)) (K33.step0 K58 K63) a
def K33.gen (cK58 : K58.T) (cK63 : K63.T) (l0 : K33.l0T) : K33.T := fun now h0 g6 g12 =>
 (oelim ((oelim (h0.2) none fun r0 => (oelim (cK58 now (g6.2 r0)) none fun r1 => some ((), (h0, ((g6.1, fset g6.2 r0 r1.2.1.1), (g12, ()))))))) none fun r2 => (oelim (r2.2.1.2) none fun r3 => (oelim (cK63 (r2.2.2.1.2 r3)) none fun r4 => (oelim (l0 ((some r2.2.2.2.1.1, r4.1.1, ofN (List.length r4.1.1), (0 : Int), ()), r2.2.1, r2.2.2.1, (r2.2.2.2.1.1 + 1, fset r2.2.2.2.1.2 r2.2.2.2.1.1 (lnil (D UC.t_api_PortID × D UC.l_u64))), ())) none fun r5 => some ((), ((clock_side.set_fpaths r5.2.1 r5.1.1, r5.2.2), ()))))))
def K33 : K33.T := K33.gen K58 K63 K33.F0
theorem K33.seq0 (cK58 : K58.T) (cK63 : K63.T) (l0 : K33.l0T) (a : K33.L0.T) : run Tryz.prog (K33.H cK58 cK63 l0) 6 (Option (K33.L0.T ⊕ ExT K33.X0)) none K33.B0 (K33.L0.enc a) (Zn (0, 14) K33.L0 K33.X0) = K33.step0 cK58 cK63 a := by kernel_rfl
abbrev K33.h := K33.H K58 K63 K33.F0
theorem K33.lok0 : LO_ K33.h K33.B0 (Za (0, 14) K33.L0 K33.X0 K33.F0) := lk_ (hn_ (Z0 (Z0 Z2 K58.ok) K63.ok)) (K33.seq0 K58 K63 K33.F0)
theorem K33.eq (cK58 : K58.T) (cK63 : K63.T) (l0 : K33.l0T) : EqA K33.sig (K33.H cK58 cK63 l0) Tryz.f128 6 (K33.W (K33.gen cK58 cK63 l0)) := by intro a x; kernel_rfl
theorem K33.loops : Z3 K33.C = [(.loop K33.B0)] := by kernel_rfl
theorem K33.ok : NK_ 128 K33.sig (K33.W K33) := ok_ Tryz.func128 (K33.eq K58 K63 K33.F0) (hl_ (Z0 (Z0 Z2 K58.ok) K63.ok) (Z9 (by kernel_rfl) K33.lok0 Z6)) K33.loops
def K140.sig : Sig U := ⟨[.ptr], [.obj .t_timer_Timer], 0, [.bool], false, []⟩
abbrev K140.T : Type := (timer_Timer) → Option ((Bool × Unit) × (timer_Timer × Unit) × Unit)
def K140.W (f : K140.T) : K140.sig.F := fun a x => f x.1
def K140.C : Code := match Tryz.f130.body with | some c => c | none => .skip
def K140.B0 : Code := match (Z3 K140.C).getD 0 .skip with | .loop b => b | .scope b => b | _ => .skip
def K140.H : Hints U := { Γ := noΓ, ro := 0, base := 14, gotos := 3, loop := fun b => none }
def K140.gen : K140.T := fun h0 =>
 (bif ieq h0.fleft 0 then some ((false, ()), ((h0, ()), ())) else some ((ieq (isub .i64 h0.fleft 1) 0, ()), ((timer_Timer.mk (isub .i64 h0.fleft 1), ()), ())))
def K140 : K140.T := K140.gen
theorem K140.loops : Z3 K140.C = [(.scope K140.B0)] := by kernel_rfl
theorem K140.ok : NK_ 130 K140.sig (K140.W K140) := ok_ (H := K140.H) (n := 6) Tryz.func130 (by intro a x; kernel_rfl) (hl_ Z2 (Zx Z6)) K140.loops
def K60.sig : Sig U := ⟨[.ptr], [.obj .t_foreign_Table], 0, [], true, []⟩
abbrev K60.T : Type := (foreign_Table) → Option (Unit × (foreign_Table × Unit) × Unit)
def K60.W (f : K60.T) : K60.sig.F := fun a x => f x.1
def K60.H : Hints U := { Γ := noΓ, ro := 0, base := 14 }
def K60.gen : K60.T := fun h0 =>
 some ((), ((foreign_Table.set_fn (foreign_Table.set_fl h0 fun (j : Nat) => List.getD (foreign_Record.mk z5_ z6_ 0 0 0 :: foreign_Record.mk z5_ z6_ 0 0 0 :: foreign_Record.mk z5_ z6_ 0 0 0 :: foreign_Record.mk z5_ z6_ 0 0 0 :: foreign_Record.mk z5_ z6_ 0 0 0 :: lnil foreign_Record) j foreign_Record.zero) 0, ()), ()))
def K60 : K60.T := K60.gen
theorem K60.ok : NK_ 163 K60.sig (K60.W K60) := ok_ (H := K60.H) (n := 6) Tryz.func163 (by intro a x; kernel_rfl) (hn_ Z2)
def K34.sig : Sig U := ⟨[.ptr], [.obj .t_clock_side, fm6_, .fam 12 (.map true false .t_api_PortID .l_u64)], 0, [], true, []⟩
abbrev K34.T : Type := (clock_side) → (Fm foreign_Table) → (Nat × (Nat → List (api_PortID × List (Int)))) → Option (Unit × (clock_side × qT4_) × Unit)
def K34.W (f : K34.T) : K34.sig.F := fun a x => f x.1 x.2.1 x.2.2.1
def K34.JR0 : Exits U := [(.normal, ⟨11, 14, [(0, .ptr 13 0 0)], (13, .obj .t_clock_side) :: hT1_⟩)]
def K34.H (cK60 : K60.T) : Hints U := { Γ := (addΓ 163 (K60.sig.native (K60.W cK60)) noΓ), ro := 0, base := 14, joinR := jt_ [(0, K34.JR0)] }
def K34.gen (cK60 : K60.T) : K34.T := fun h0 g6 g12 =>
 (oelim ((oelim (h0.2) none fun r0 => (oelim (cK60 (g6.2 r0)) none fun r1 => some ((), (h0, ((g6.1, fset g6.2 r0 r1.2.1.1), (g12, ()))))))) none fun r2 => some ((), ((clock_side.set_fpaths r2.2.1 (some r2.2.2.2.1.1), (r2.2.2.1, ((r2.2.2.2.1.1 + 1, fset r2.2.2.2.1.2 r2.2.2.2.1.1 (lnil (D UC.t_api_PortID × D UC.l_u64))), ()))), ())))
def K34 : K34.T := K34.gen K60
theorem K34.eq (cK60 : K60.T) : EqA K34.sig (K34.H cK60) Tryz.f96 6 (K34.W (K34.gen cK60)) := by intro a x; kernel_rfl
theorem K34.ok : NK_ 96 K34.sig (K34.W K34) := ok_ Tryz.func96 (K34.eq K60) (hn_ (Z0 Z2 K60.ok))
def K139.sig : Sig U := ⟨[.ptr], [.obj .t_timer_Timer], 0, [], true, []⟩
abbrev K139.T : Type := (timer_Timer) → Option (Unit × (timer_Timer × Unit) × Unit)
def K139.W (f : K139.T) : K139.sig.F := fun a x => f x.1
abbrev K139.N (c : K139.T) := addΓ 166 (K139.sig.native (K139.W c))
def K139.H : Hints U := { Γ := noΓ, ro := 0, base := 14 }
def K139.gen : K139.T := fun h0 =>
 some ((), ((timer_Timer.mk 0, ()), ()))
def K139 : K139.T := K139.gen
theorem K139.ok : NK_ 166 K139.sig (K139.W K139) := ok_ (H := K139.H) (n := 6) Tryz.func166 (by intro a x; kernel_rfl) (hn_ Z2)
def K19.sig : Sig U := ⟨[.ptr, .eptr 0 23 42 8], [.obj .t_clock_Clock], 0, [], true, []⟩
abbrev K19.T : Type := (Nat) → (clock_Clock) → Option (Unit × (clock_Clock × Unit) × Unit)
def K19.W (f : K19.T) : K19.sig.F := fun a x => f a.2.1 x.1
def K19.JR4 : Exits U := [(.normal, ⟨30, 14, [(1, .aptr 13 23 42 8 0)], [(13, .obj .t_clock_Clock)]⟩)]
def K19.JR1 : Exits U := [(.normal, ⟨30, 14, [(0, .ptr 13 0 0), (1, .aptr 13 23 42 8 0)], [(13, .obj .t_clock_Clock)]⟩)]
def K19.H (cK139 : K139.T) (cK138 : K138.T) : Hints U := { Γ := (K138.N cK138 (K139.N cK139 noΓ)), ro := 0, base := 14, joinR := jt_ [(0, K19.JR1), (1, K19.JR1), (4, K19.JR4)], joinC := jt_ [(3, K19.JR4)] }
def K19.gen (cK139 : K139.T) (cK138 : K138.T) : K19.T := fun p h0 =>
 (oelim ((oelim (cK139 (h0.fports p).freceipt) none fun r0 => some ((p, ()), (clock_Clock.set_fports h0 (fset h0.fports p (clock_side.set_freceipt (h0.fports p) r0.2.1.1)), ())))) none fun r1 => (oelim ((oelim (cK139 (r1.2.1.fports r1.1.1).fqualify) none fun r2 => some (r1.1, (clock_Clock.set_fports r1.2.1 (fset r1.2.1.fports r1.1.1 (clock_side.set_fqualify (r1.2.1.fports r1.1.1) r2.2.1.1)), ())))) none fun r3 => (oelim ((bif !r3.2.1.fconf.fPeer then (oelim (cK139 (r3.2.1.fports r3.1.1).fask) none fun r4 => some (r3.1, (clock_Clock.set_fports r3.2.1 (fset r3.2.1.fports r3.1.1 (clock_side.set_fask (r3.2.1.fports r3.1.1) r4.2.1.1)), ()))) else some r3)) none fun r5 => (oelim ((oelim (cK138 1 (r5.2.1.fports r5.1.1).fannounce) none fun r6 => some (r5.1, (clock_Clock.set_fports r5.2.1 (fset r5.2.1.fports r5.1.1 (clock_side.set_fannounce (r5.2.1.fports r5.1.1) r6.2.1.1)), ())))) none fun r7 => (oelim (cK138 1 (r7.2.1.fports r7.1.1).fsync) none fun r8 => some ((), ((clock_Clock.set_fports r7.2.1 (fset r7.2.1.fports r7.1.1 (clock_side.set_fsync (r7.2.1.fports r7.1.1) r8.2.1.1)), ()), ())))))))
def K19 : K19.T := K19.gen K139 K138
theorem K19.eq (cK139 : K139.T) (cK138 : K138.T) : EqA K19.sig (K19.H cK139 cK138) Tryz.f131 6 (K19.W (K19.gen cK139 cK138)) := by intro a x; kernel_rfl
theorem K19.ok : NK_ 131 K19.sig (K19.W K19) := ok_ Tryz.func131 (K19.eq K139 K138) (hn_ (Z0 (Z0 Z2 K139.ok) K138.ok))
def K16.sig : Sig U := ⟨[.ptr, .eptr 0 23 42 8], [.obj .t_clock_Clock, fm6_, .fam 12 (.map true false .t_api_PortID .l_u64)], 0, [], true, []⟩
abbrev K16.T : Type := (Nat) → (clock_Clock) → (Fm foreign_Table) → (Nat × (Nat → List (api_PortID × List (Int)))) → Option (Unit × (clock_Clock × qT4_) × Unit)
def K16.W (f : K16.T) : K16.sig.F := fun a x => f a.2.1 x.1 x.2.1 x.2.2.1
def K16.C : Code := match Tryz.f69.body with | some c => c | none => .skip
def K16.B0 : Code := match (Z3 K16.C).getD 0 .skip with | .loop b => b | .scope b => b | _ => .skip
def K16.JR16 : Exits U := [(.normal, ⟨128, 14, [(0, .ptr 13 0 0), (1, .aptr 13 23 42 8 0)], (13, .obj .t_clock_Clock) :: hT1_⟩)]
def K16.JR15 : Exits U := [(.normal, ⟨128, 14, [(0, .ptr 13 0 0), (1, .aptr 13 23 42 8 0), (111, vb_)], (13, .obj .t_clock_Clock) :: hT1_⟩)]
def K16.JR7 : Exits U := [(.normal, ⟨128, 14, [(0, .ptr 13 0 0), (1, .aptr 13 23 42 8 0), (58, vb_)], (13, .obj .t_clock_Clock) :: hT1_⟩)]
def K16.JC4 : Exits U := [(.normal, ⟨128, 14, [], (13, .obj .t_clock_Clock) :: hT1_⟩)]
def K16.H (cK112 : K112.T) (cK25 : K25.T) (cK138 : K138.T) (cK108 : K108.T) (cK33 : K33.T) (cK111 : K111.T) (cK140 : K140.T) (cK110 : K110.T) (cK150 : K150.T) (cK34 : K34.T) (cK19 : K19.T) : Hints U := { Γ := (addΓ 131 (K19.sig.native (K19.W cK19)) (addΓ 96 (K34.sig.native (K34.W cK34)) (K150.N cK150 (K110.N cK110 (addΓ 130 (K140.sig.native (K140.W cK140)) (K111.N cK111 (addΓ 128 (K33.sig.native (K33.W cK33)) (K108.N cK108 (K138.N cK138 (K25.N cK25 (addΓ 95 (K112.sig.native (K112.W cK112)) noΓ))))))))))), ro := 0, base := 14, joinR := jt_ [(1, K16.JR16), (2, K16.JR16), (7, K16.JR7), (10, K16.JR16), (11, K16.JR16), (15, K16.JR15), (16, K16.JR16)], joinC := jt_ [(4, K16.JC4), (6, K16.JR16), (8, K16.JR16), (9, K16.JR16)], gotos := 3, loop := fun b => none }
def K16.gen (cK112 : K112.T) (cK25 : K25.T) (cK138 : K138.T) (cK108 : K108.T) (cK33 : K33.T) (cK111 : K111.T) (cK140 : K140.T) (cK110 : K110.T) (cK150 : K150.T) (cK34 : K34.T) (cK19 : K19.T) : K16.T := fun p h0 g6 g12 =>
 (bif ieq (h0.fports p).fstate 1 then (oelim ((oelim (cK112 (h0.fports p).fstate 1 h0.fconf.fSlaveOnly) none fun r0 => some ((p, ()), (clock_Clock.set_fports h0 (fset h0.fports p (clock_side.set_fstate (h0.fports p) r0.1.1)), (g6, (g12, ())))))) none fun r1 => (oelim ((oelim (cK25 r1.2.1) none fun r2 => (oelim (cK138 r2.1.1 (r1.2.1.fports r1.1.1).freceipt) none fun r3 => some (r1.1, (clock_Clock.set_fports r1.2.1 (fset r1.2.1.fports r1.1.1 (clock_side.set_freceipt (r1.2.1.fports r1.1.1) r3.2.1.1)), r1.2.2))))) none fun r4 => (oelim ((bif r4.2.1.fconf.fPeer then (oelim (cK138 1 (r4.2.1.fports r4.1.1).fask) none fun r5 => some ((), (clock_Clock.set_fports r4.2.1 (fset r4.2.1.fports r4.1.1 (clock_side.set_fask (r4.2.1.fports r4.1.1) r5.2.1.1)), r4.2.2))) else some ((), r4.2))) none fun r6 => some ((), (r6.2, ()))))) else (oelim (cK108 (h0.fports p).fstate) none fun r7 => (oelim ((bif r7.1.1 then (oelim (cK33 h0.fticks (h0.fports p) g6 g12) none fun r8 => some ((p, ()), (clock_Clock.set_fports h0 (fset h0.fports p r8.2.1.1), r8.2.1.2))) else some ((p, ()), (h0, (g6, (g12, ())))))) none fun r9 => (oelim ((oelim (cK111 (r9.2.1.fports r9.1.1).fstate) none fun r10 => (bif r10.1.1 then (oelim (cK140 (r9.2.1.fports r9.1.1).freceipt) none fun r11 => some ((r9.1.1, r11.1), (clock_Clock.set_fports r9.2.1 (fset r9.2.1.fports r9.1.1 (clock_side.set_freceipt (r9.2.1.fports r9.1.1) r11.2.1.1)), r9.2.2))) else some ((r9.1.1, (false, ())), r9.2)))) none fun r12 => (oelim ((bif r12.1.2.1 then (oelim (cK110 (r12.2.1.fports r12.1.1).fstate) none fun r13 => (oelim ((bif r13.1.1 then (oelim (cK150 r12.2.1.fconf) none fun r14 => some ((r12.1.1, ()), (clock_Clock.set_fparent r12.2.1 r14.1.1, r12.2.2))) else some ((r12.1.1, ()), r12.2))) none fun r15 => (oelim ((oelim (cK34 (r15.2.1.fports r15.1.1) r15.2.2.1 r15.2.2.2.1) none fun r16 => some (r15.1, (clock_Clock.set_fports r15.2.1 (fset r15.2.1.fports r15.1.1 r16.2.1.1), r16.2.1.2)))) none fun r17 => (oelim ((oelim (cK112 (r17.2.1.fports r17.1.1).fstate 4 r17.2.1.fconf.fSlaveOnly) none fun r18 => some (r17.1, (clock_Clock.set_fports r17.2.1 (fset r17.2.1.fports r17.1.1 (clock_side.set_fstate (r17.2.1.fports r17.1.1) r18.1.1)), r17.2.2)))) none fun r19 => (bif ieq (r19.2.1.fports r19.1.1).fstate 6 then (oelim (cK19 r19.1.1 r19.2.1) none fun r20 => some (r19.1, (r20.2.1.1, r19.2.2))) else (oelim (cK25 r19.2.1) none fun r21 => (oelim (cK138 r21.1.1 (r19.2.1.fports r19.1.1).freceipt) none fun r22 => some (r19.1, (clock_Clock.set_fports r19.2.1 (fset r19.2.1.fports r19.1.1 (clock_side.set_freceipt (r19.2.1.fports r19.1.1) r22.2.1.1)), r19.2.2))))))))) else some ((r12.1.1, ()), r12.2))) none fun r23 => (oelim ((bif ieq (r23.2.1.fports r23.1.1).fstate 5 then (oelim (cK140 (r23.2.1.fports r23.1.1).fqualify) none fun r24 => some ((r23.1.1, r24.1), (clock_Clock.set_fports r23.2.1 (fset r23.2.1.fports r23.1.1 (clock_side.set_fqualify (r23.2.1.fports r23.1.1) r24.2.1.1)), r23.2.2))) else some ((r23.1.1, (false, ())), r23.2))) none fun r25 => (bif r25.1.2.1 then (oelim ((oelim (cK112 (r25.2.1.fports r25.1.1).fstate 5 r25.2.1.fconf.fSlaveOnly) none fun r26 => some ((r25.1.1, ()), (clock_Clock.set_fports r25.2.1 (fset r25.2.1.fports r25.1.1 (clock_side.set_fstate (r25.2.1.fports r25.1.1) r26.1.1)), r25.2.2)))) none fun r27 => (oelim (cK19 r27.1.1 r27.2.1) none fun r28 => some ((), ((r28.2.1.1, r27.2.2), ())))) else some ((), (r25.2, ())))))))))
def K16 : K16.T := K16.gen K112 K25 K138 K108 K33 K111 K140 K110 K150 K34 K19
theorem K16.eq (cK112 : K112.T) (cK25 : K25.T) (cK138 : K138.T) (cK108 : K108.T) (cK33 : K33.T) (cK111 : K111.T) (cK140 : K140.T) (cK110 : K110.T) (cK150 : K150.T) (cK34 : K34.T) (cK19 : K19.T) : EqA K16.sig (K16.H cK112 cK25 cK138 cK108 cK33 cK111 cK140 cK110 cK150 cK34 cK19) Tryz.f69 6 (K16.W (K16.gen cK112 cK25 cK138 cK108 cK33 cK111 cK140 cK110 cK150 cK34 cK19)) := by intro a x; kernel_rfl
theorem K16.loops : Z3 K16.C = [(.scope K16.B0)] := by kernel_rfl
theorem K16.ok : NK_ 69 K16.sig (K16.W K16) := ok_ Tryz.func69 (K16.eq K112 K25 K138 K108 K33 K111 K140 K110 K150 K34 K19) (hl_ (Z0 (Z0 (Z0 (Z0 (Z0 (Z0 (Z0 (Z0 (Z0 (Z0 (Z0 Z2 K112.ok) K25.ok) K138.ok) K108.ok) K33.ok) K111.ok) K140.ok) K110.ok) K150.ok) K34.ok) K19.ok) (Zx Z6)) K16.loops
def K62.sig : Sig U := ⟨[.ptr, .int .i64], [.obj .t_foreign_Table], 1, [.isl .t_foreign_Record], false, []⟩
abbrev K62.T : Type := (Int) → (foreign_Table) → Option (((List (foreign_Record)) × Unit) × Unit × Unit)
def K62.W (f : K62.T) : K62.sig.F := fun a x => f a.2.1 x.1
def K62.L0 : Shape U := ⟨38, 15, [(0, .ptr 13 0 0), (1, vi_), (5, .own .t_foreign_Record 14), (15, .asl 13 3 17 5), (16, vi_), (17, vi_)], [(13, .obj .t_foreign_Table), (14, .tok)]⟩
def K62.X0 : Exits U := [(.exit 0, ⟨38, 15, [(5, .own .t_foreign_Record 14)], [(13, .obj .t_foreign_Table), (14, .tok)]⟩)]
abbrev K62.l0T : Type := ((Int × (List (foreign_Record)) × (Nat × Nat) × Int × Int × Unit) × (foreign_Table × Unit)) → Option ((((List (foreign_Record)) × Unit) × (foreign_Table × Unit)))
def K62.C : Code := match Tryz.f176.body with | some c => c | none => .skip
def K62.B0 : Code := match (Z3 K62.C).getD 0 .skip with | .loop b => b | .scope b => b | _ => .skip
def K62.JR4 : Exits U := [(.normal, ⟨38, 16, [(0, .ptr 13 0 0), (1, vi_), (5, .own .t_foreign_Record 14), (7, .ptr 15 0 0), (15, .asl 13 3 17 5), (16, vi_), (17, vi_)], [(13, .obj .t_foreign_Table), (14, .tok), (15, .obj .t_foreign_Record)]⟩)]
def K62.JC6 : Exits U := [(.normal, ⟨38, 15, [(0, .ptr 13 0 0), (1, vi_), (5, .own .t_foreign_Record 14), (15, .asl 13 3 17 5), (16, vi_), (17, vi_)], [(13, .obj .t_foreign_Table), (14, .tok)]⟩)]
def K62.H (cK64 : K64.T) (l0 : K62.l0T) : Hints U := { Γ := (addΓ 197 (K64.sig.native (K64.W cK64)) noΓ), ro := 14, base := 14, joinQ := jt_ [(5, [(31, vb_)])], joinR := jt_ [(4, K62.JR4)], joinC := jt_ [(6, K62.JC6)], loop := jt_ [(3, (Za (14, 14) K62.L0 K62.X0 l0))] }
def K62.step0 (cK64 : K64.T) (a : (Int × (List (foreign_Record)) × (Nat × Nat) × Int × Int × Unit) × (foreign_Table × Unit)) : Option (((Int × (List (foreign_Record)) × (Nat × Nat) × Int × Int × Unit) × (foreign_Table × Unit)) ⊕ ((((List (foreign_Record)) × Unit) × (foreign_Table × Unit)))) :=
 (bif ilt a.1.2.2.2.2.1 a.1.2.2.2.1 then (oelim ((bif inR a.1.2.2.2.2.1 a.1.2.2.1.2 then some (a.1, (a.2.1, (a.2.1.fl (a.1.2.2.1.1 + Int.toNat a.1.2.2.2.2.1), ()))) else none)) none fun r0 => (oelim ((bif ine r0.2.2.1.fFirst (-1) then (oelim (cK64 r0.2.2.1.fFirst r0.1.1 r0.2.1) none fun r1 => some (!r1.1.1, ())) else some (false, ()))) none fun r2 => (oelim ((bif r2.1 then (bif room (List.length r0.1.2.1 + List.length (r0.2.2.1 :: lnil foreign_Record)) 136 then some ((r0.1.1, (r0.1.2.1 ++ r0.2.2.1 :: lnil foreign_Record, r0.1.2.2)), (r0.2.1, ())) else none) else some (r0.1, (r0.2.1, ())))) none fun r3 => some (.inl ((r3.1.1, (r3.1.2.1, (r3.1.2.2.1, (r3.1.2.2.2.1, (iadd .i64 r3.1.2.2.2.2.1 1, ()))))), r3.2))))) else some (.inr ((a.1.2.1, ()), a.2)))
def K62.F0 : K62.l0T := fun a => Z8 (1000000 + (a.1.2.1.length + a.1.2.2.1.2)) (K62.step0 K64) a
def K62.gen (cK64 : K64.T) (l0 : K62.l0T) : K62.T := fun now h0 =>
 (bif le3 (ofN 0) h0.fn 5 then (oelim (l0 ((now, lnil foreign_Record, (Int.toNat (ofN 0), Int.toNat h0.fn - Int.toNat (ofN 0)), ofN (Int.toNat h0.fn - Int.toNat (ofN 0)), (0 : Int), ()), h0, ())) none fun r0 => some (r0.1, ((), ()))) else none)
def K62 : K62.T := K62.gen K64 K62.F0
theorem K62.seq0 (cK64 : K64.T) (l0 : K62.l0T) (a : K62.L0.T) : run Tryz.prog (K62.H cK64 l0) 6 (Option (K62.L0.T ⊕ ExT K62.X0)) none K62.B0 (K62.L0.enc a) (Zn (14, 14) K62.L0 K62.X0) = K62.step0 cK64 a := by kernel_rfl
abbrev K62.h := K62.H K64 K62.F0
theorem K62.lok0 : LO_ K62.h K62.B0 (Za (14, 14) K62.L0 K62.X0 K62.F0) := lk_ (hn_ (Z0 Z2 K64.ok)) (K62.seq0 K64 K62.F0)
theorem K62.eq (cK64 : K64.T) (l0 : K62.l0T) : EqA K62.sig (K62.H cK64 l0) Tryz.f176 6 (K62.W (K62.gen cK64 l0)) := by intro a x; kernel_rfl
theorem K62.loops : Z3 K62.C = [(.loop K62.B0)] := by kernel_rfl
theorem K62.ok : NK_ 176 K62.sig (K62.W K62) := ok_ Tryz.func176 (K62.eq K64 K62.F0) (hl_ (Z0 Z2 K64.ok) (Z9 (by kernel_rfl) K62.lok0 Z6)) K62.loops
def K40.sig : Sig U := ⟨[.int .i64], [], 0, [.bool], false, []⟩
abbrev K40.T : Type := (Int) → Option ((Bool × Unit) × Unit × Unit)
def K40.W (f : K40.T) : K40.sig.F := fun a x => f a.1
def K40.H : Hints U := { Γ := noΓ, ro := 0, base := 13 }
def K40.gen : K40.T := fun x_0 =>
 some ((ine x_0 x_0, ()), ((), ()))
def K40 : K40.T := K40.gen
theorem K40.ok : NK_ 213 K40.sig (K40.W K40) := ok_ (H := K40.H) (n := 6) Tryz.func213 (by intro a x; kernel_rfl) (hn_ Z2)
def K37.sig : Sig U := ⟨[.int .i64, .int .i64], [], 0, [.int .i64], false, []⟩
abbrev K37.T : Type := (Int) → (Int) → Option ((Int × Unit) × Unit × Unit)
def K37.W (f : K37.T) : K37.sig.F := fun a x => f a.1 a.2.1
abbrev K37.N (c : K37.T) := addΓ 199 (K37.sig.native (K37.W c))
def K37.H (cK40 : K40.T) : Hints U := { Γ := (addΓ 213 (K40.sig.native (K40.W cK40)) noΓ), ro := 0, base := 13 }
def K37.gen (cK40 : K40.T) : K37.T := fun x_0 y =>
 (oelim (cK40 x_0) none fun r0 => (oelim (cK40 y) none fun r1 => (bif r0.1.1 then (bif r1.1.1 then some (((0 : Int), ()), ((), ())) else some (((-1 : Int), ()), ((), ()))) else (bif r1.1.1 then some (((1 : Int), ()), ((), ())) else (bif ilt x_0 y then some (((-1 : Int), ()), ((), ())) else (bif ilt y x_0 then some (((1 : Int), ()), ((), ())) else some (((0 : Int), ()), ((), ()))))))))
def K37 : K37.T := K37.gen K40
theorem K37.eq (cK40 : K40.T) : EqA K37.sig (K37.H cK40) Tryz.f199 6 (K37.W (K37.gen cK40)) := by intro a x; kernel_rfl
theorem K37.ok : NK_ 199 K37.sig (K37.W K37) := ok_ Tryz.func199 (K37.eq K40) (hn_ (Z0 Z2 K40.ok))
def K39.sig : Sig U := ⟨[.isl .int], [], 0, [.int .i64], false, []⟩
abbrev K39.T : Type := (List (Int)) → Option ((Int × Unit) × Unit × Unit)
def K39.W (f : K39.T) : K39.sig.F := fun a x => f a.1
abbrev K39.N (c : K39.T) := addΓ 201 (K39.sig.native (K39.W c))
def K39.L0 : Shape U := ⟨18, 13, [(3, vi_), (6, .val (.isl .int)), (7, vi_), (8, vi_)], []⟩
def K39.X0 : Exits U := [(.exit 0, ⟨18, 13, [(3, vi_)], []⟩),
 (.ret, ⟨18, 13, [(2, vi_)], []⟩)]
abbrev K39.l0T : Type := ((Int × (List (Int)) × Int × Int × Unit) × Unit) → Option (((Int × Unit) × Unit) ⊕ ((Int × Unit) × Unit))
def K39.C : Code := match Tryz.f201.body with | some c => c | none => .skip
def K39.B0 : Code := match (Z3 K39.C).getD 0 .skip with | .loop b => b | .scope b => b | _ => .skip
def K39.H (l0 : K39.l0T) : Hints U := { Γ := noΓ, ro := 0, base := 13, loop := jt_ [(3, (Za (0, 13) K39.L0 K39.X0 l0))] }
def K39.step0 (a : (Int × (List (Int)) × Int × Int × Unit) × Unit) : Option (((Int × (List (Int)) × Int × Int × Unit) × Unit) ⊕ (((Int × Unit) × Unit) ⊕ ((Int × Unit) × Unit))) :=
 (bif ilt a.1.2.2.2.1 a.1.2.2.1 then (bif inR a.1.2.2.2.1 (List.length a.1.2.1) then (bif ine (List.getD a.1.2.1 (Int.toNat a.1.2.2.2.1) (0 : D UC.int)) a.1.1 then some (.inr (.inr ((List.getD a.1.2.1 (Int.toNat a.1.2.2.2.1) (0 : D UC.int), ()), ()))) else some (.inl ((a.1.1, (a.1.2.1, (a.1.2.2.1, (iadd .i64 a.1.2.2.2.1 1, ())))), ()))) else none) else some (.inr (.inl ((a.1.1, ()), ()))))
def K39.F0 : K39.l0T := fun a => Z8 (1000000 + (a.1.2.1.length)) (K39.step0) a
def K39.gen (l0 : K39.l0T) : K39.T := fun vals =>
 (oelim (l0 (((0 : Int), vals, ofN (List.length vals), (0 : Int), ()), ())) none fun r0 => (selim r0 (fun r1 => some (r1.1, ((), ()))) (fun r1 => some (r1.1, ((), ())))))
def K39 : K39.T := K39.gen K39.F0
theorem K39.seq0 (l0 : K39.l0T) (a : K39.L0.T) : run Tryz.prog (K39.H l0) 6 (Option (K39.L0.T ⊕ ExT K39.X0)) none K39.B0 (K39.L0.enc a) (Zn (0, 13) K39.L0 K39.X0) = K39.step0 a := by kernel_rfl
abbrev K39.h := K39.H K39.F0
theorem K39.lok0 : LO_ K39.h K39.B0 (Za (0, 13) K39.L0 K39.X0 K39.F0) := lk_ (hn_ Z2) (K39.seq0 K39.F0)
theorem K39.eq (l0 : K39.l0T) : EqA K39.sig (K39.H l0) Tryz.f201 6 (K39.W (K39.gen l0)) := by intro a x; kernel_rfl
theorem K39.loops : Z3 K39.C = [(.loop K39.B0)] := by kernel_rfl
theorem K39.ok : NK_ 201 K39.sig (K39.W K39) := ok_ Tryz.func201 (K39.eq K39.F0) (hl_ Z2 (Z9 (by kernel_rfl) K39.lok0 Z6)) K39.loops
def K113.sig : Sig U := ⟨[.data .t_api_Quality, .data .t_api_Quality], [], 0, [.int .i64], false, []⟩
abbrev K113.T : Type := (api_Quality) → (api_Quality) → Option ((Int × Unit) × Unit × Unit)
def K113.W (f : K113.T) : K113.sig.F := fun a x => f a.1 a.2.1
def K113.H (cK37 : K37.T) (cK39 : K39.T) : Hints U := { Γ := (K39.N cK39 (K37.N cK37 noΓ)), ro := 0, base := 13 }
def K113.gen (cK37 : K37.T) (cK39 : K39.T) : K113.T := fun a b =>
 (oelim (cK37 a.fClass b.fClass) none fun r0 => (oelim (cK37 a.fAccuracy b.fAccuracy) none fun r1 => (oelim (cK37 a.fVariance b.fVariance) none fun r2 => (oelim (cK39 (r0.1.1 :: r1.1.1 :: r2.1.1 :: lnil Int)) none fun r3 => some (r3.1, ((), ()))))))
def K113 : K113.T := K113.gen K37 K39
theorem K113.eq (cK37 : K37.T) (cK39 : K39.T) : EqA K113.sig (K113.H cK37 cK39) Tryz.f211 6 (K113.W (K113.gen cK37 cK39)) := by intro a x; kernel_rfl
theorem K113.ok : NK_ 211 K113.sig (K113.W K113) := ok_ Tryz.func211 (K113.eq K37 K39) (hn_ (Z0 (Z0 Z2 K37.ok) K39.ok))
def K41.sig : Sig U := ⟨[.int .u64], [], 0, [.bool], false, []⟩
abbrev K41.T : Type := (Int) → Option ((Bool × Unit) × Unit × Unit)
def K41.W (f : K41.T) : K41.sig.F := fun a x => f a.1
def K41.H : Hints U := { Γ := noΓ, ro := 0, base := 13 }
def K41.gen : K41.T := fun x_0 =>
 some ((ine x_0 x_0, ()), ((), ()))
def K41 : K41.T := K41.gen
theorem K41.ok : NK_ 219 K41.sig (K41.W K41) := ok_ (H := K41.H) (n := 6) Tryz.func219 (by intro a x; kernel_rfl) (hn_ Z2)
def K38.sig : Sig U := ⟨[.int .u64, .int .u64], [], 0, [.int .i64], false, []⟩
abbrev K38.T : Type := (Int) → (Int) → Option ((Int × Unit) × Unit × Unit)
def K38.W (f : K38.T) : K38.sig.F := fun a x => f a.1 a.2.1
abbrev K38.N (c : K38.T) := addΓ 212 (K38.sig.native (K38.W c))
def K38.H (cK41 : K41.T) : Hints U := { Γ := (addΓ 219 (K41.sig.native (K41.W cK41)) noΓ), ro := 0, base := 13 }
def K38.gen (cK41 : K41.T) : K38.T := fun x_0 y =>
 (oelim (cK41 x_0) none fun r0 => (oelim (cK41 y) none fun r1 => (bif r0.1.1 then (bif r1.1.1 then some (((0 : Int), ()), ((), ())) else some (((-1 : Int), ()), ((), ()))) else (bif r1.1.1 then some (((1 : Int), ()), ((), ())) else (bif ilt x_0 y then some (((-1 : Int), ()), ((), ())) else (bif ilt y x_0 then some (((1 : Int), ()), ((), ())) else some (((0 : Int), ()), ((), ()))))))))
def K38 : K38.T := K38.gen K41
theorem K38.eq (cK41 : K41.T) : EqA K38.sig (K38.H cK41) Tryz.f212 6 (K38.W (K38.gen cK41)) := by intro a x; kernel_rfl
theorem K38.ok : NK_ 212 K38.sig (K38.W K38) := ok_ Tryz.func212 (K38.eq K41) (hn_ (Z0 Z2 K41.ok))
def K44.sig : Sig U := ⟨[.data .t_api_Vector, .data .t_api_Vector], [], 0, [.int .i64], false, []⟩
abbrev K44.T : Type := (api_Vector) → (api_Vector) → Option ((Int × Unit) × Unit × Unit)
def K44.W (f : K44.T) : K44.sig.F := fun a x => f a.1 a.2.1
def K44.C : Code := match Tryz.f198.body with | some c => c | none => .skip
def K44.B0 : Code := match (Z3 K44.C).getD 0 .skip with | .loop b => b | .scope b => b | _ => .skip
def K44.U0 (cK37 : K37.T) (cK113 : K113.T) (cK38 : K38.T) : Hints U := { Γ := (K38.N cK38 (addΓ 211 (K113.sig.native (K113.W cK113)) (K37.N cK37 noΓ))), ro := 0, base := 13, loop := fun b => none }
def K44.H (cK37 : K37.T) (cK113 : K113.T) (cK38 : K38.T) : Hints U := { Γ := (K38.N cK38 (addΓ 211 (K113.sig.native (K113.W cK113)) (K37.N cK37 noΓ))), ro := 0, base := 13, loop := jt_ [(2, (Z1N Tryz.prog (K44.U0 cK37 cK113 cK38) 6 K44.B0 6))] }
def K44.gen (cK37 : K37.T) (cK113 : K113.T) (cK38 : K38.T) : K44.T := fun a b =>
 (oelim (cK37 a.fPriority1 b.fPriority1) none fun r0 => (oelim (cK113 a.fQuality b.fQuality) none fun r1 => (oelim (cK37 a.fPriority2 b.fPriority2) none fun r2 => (oelim (cK38 a.fGrand b.fGrand) none fun r3 => (bif ine (List.getD (r0.1.1 :: r1.1.1 :: r2.1.1 :: r3.1.1 :: lnil Int) (Int.toNat 0) 0) 0 then some ((List.getD (r0.1.1 :: r1.1.1 :: r2.1.1 :: r3.1.1 :: lnil Int) (Int.toNat 0) 0, ()), ((), ())) else (bif ine (List.getD (r0.1.1 :: r1.1.1 :: r2.1.1 :: r3.1.1 :: lnil Int) (Int.toNat (iadd .i64 0 1)) 0) 0 then some ((List.getD (r0.1.1 :: r1.1.1 :: r2.1.1 :: r3.1.1 :: lnil Int) (Int.toNat (iadd .i64 0 1)) 0, ()), ((), ())) else (bif ine (List.getD (r0.1.1 :: r1.1.1 :: r2.1.1 :: r3.1.1 :: lnil Int) (Int.toNat (iadd .i64 (iadd .i64 0 1) 1)) 0) 0 then some ((List.getD (r0.1.1 :: r1.1.1 :: r2.1.1 :: r3.1.1 :: lnil Int) (Int.toNat (iadd .i64 (iadd .i64 0 1) 1)) 0, ()), ((), ())) else (bif ine (List.getD (r0.1.1 :: r1.1.1 :: r2.1.1 :: r3.1.1 :: lnil Int) (Int.toNat (iadd .i64 (iadd .i64 (iadd .i64 0 1) 1) 1)) 0) 0 then some ((List.getD (r0.1.1 :: r1.1.1 :: r2.1.1 :: r3.1.1 :: lnil Int) (Int.toNat (iadd .i64 (iadd .i64 (iadd .i64 0 1) 1) 1)) 0, ()), ((), ())) else some (((0 : Int), ()), ((), ()))))))))))
def K44 : K44.T := K44.gen K37 K113 K38
theorem K44.inner0 : Z3 K44.B0 = [] := by kernel_rfl
abbrev K44.h := K44.H K37 K113 K38
theorem K44.lok0 : ZM U Tryz.prog K44.h.ro K44.h.base K44.B0 (Z1N Tryz.prog (K44.U0 K37 K113 K38) 6 K44.B0 6) :=
 Z2y (Hn := (K44.U0 K37 K113 K38)) (L := fun c => c ∈ ([] : List Code)) (hq (Z0 (Z0 (Z0 Z2 K37.ok) K113.ok) K38.ok) Z6 (fun _ => rfl) (fun _ => rfl)) (fun b h => by rw [K44.inner0] at h; exact h) 6
theorem K44.eq (cK37 : K37.T) (cK113 : K113.T) (cK38 : K38.T) : EqA K44.sig (K44.H cK37 cK113 cK38) Tryz.f198 6 (K44.W (K44.gen cK37 cK113 cK38)) := by intro a x; kernel_rfl
theorem K44.loops : Z3 K44.C = [(.loop K44.B0)] := by kernel_rfl
theorem K44.ok : NK_ 198 K44.sig (K44.W K44) := ok_ Tryz.func198 (K44.eq K37 K113 K38) (hl_ (Z0 (Z0 (Z0 Z2 K37.ok) K113.ok) K38.ok) (Z9 (by kernel_rfl) K44.lok0 Z6)) K44.loops
def K74.sig : Sig U := ⟨[.data .t_api_PortID, .data .t_api_PortID], [], 0, [.int .i64], false, []⟩
abbrev K74.T : Type := (api_PortID) → (api_PortID) → Option ((Int × Unit) × Unit × Unit)
def K74.W (f : K74.T) : K74.sig.F := fun a x => f a.1 a.2.1
def K74.H (cK38 : K38.T) (cK37 : K37.T) (cK39 : K39.T) : Hints U := { Γ := (K39.N cK39 (K37.N cK37 (K38.N cK38 noΓ))), ro := 0, base := 13 }
def K74.gen (cK38 : K38.T) (cK37 : K37.T) (cK39 : K39.T) : K74.T := fun a b =>
 (bif bif ieq a.fClock b.fClock then bif ieq a.fPort b.fPort then true else false else false then some (((0 : Int), ()), ((), ())) else (oelim (cK38 a.fClock b.fClock) none fun r0 => (oelim (cK37 a.fPort b.fPort) none fun r1 => (oelim (cK39 (r0.1.1 :: r1.1.1 :: lnil Int)) none fun r2 => some (r2.1, ((), ()))))))
def K74 : K74.T := K74.gen K38 K37 K39
theorem K74.eq (cK38 : K38.T) (cK37 : K37.T) (cK39 : K39.T) : EqA K74.sig (K74.H cK38 cK37 cK39) Tryz.f202 6 (K74.W (K74.gen cK38 cK37 cK39)) := by intro a x; kernel_rfl
theorem K74.ok : NK_ 202 K74.sig (K74.W K74) := ok_ Tryz.func202 (K74.eq K38 K37 K39) (hn_ (Z0 (Z0 (Z0 Z2 K38.ok) K37.ok) K39.ok))
def K46.sig : Sig U := ⟨[.data .t_api_Vector], [], 0, [.int .i64], false, []⟩
abbrev K46.T : Type := (api_Vector) → Option ((Int × Unit) × Unit × Unit)
def K46.W (f : K46.T) : K46.sig.F := fun a x => f a.1
def K46.H (cK74 : K74.T) : Hints U := { Γ := (addΓ 202 (K74.sig.native (K74.W cK74)) noΓ), ro := 0, base := 13 }
def K46.gen (cK74 : K74.T) : K46.T := fun a =>
 (oelim (cK74 a.fReceiver a.fSender) none fun r0 => (bif inR (iadd .i64 r0.1.1 1) 3 then some ((List.getD ((2 : Int) :: (0 : Int) :: (1 : Int) :: lnil Int) (Int.toNat (iadd .i64 r0.1.1 1)) 0, ()), ((), ())) else none))
def K46 : K46.T := K46.gen K74
theorem K46.eq (cK74 : K74.T) : EqA K46.sig (K46.H cK74) Tryz.f200 6 (K46.W (K46.gen cK74)) := by intro a x; kernel_rfl
theorem K46.ok : NK_ 200 K46.sig (K46.W K46) := ok_ Tryz.func200 (K46.eq K74) (hn_ (Z0 Z2 K74.ok))
def K43.sig : Sig U := ⟨[.data .t_api_Vector, .data .t_api_Vector], [], 0, [.int .i64], false, []⟩
abbrev K43.T : Type := (api_Vector) → (api_Vector) → Option ((Int × Unit) × Unit × Unit)
def K43.W (f : K43.T) : K43.sig.F := fun a x => f a.1 a.2.1
abbrev K43.N (c : K43.T) := addΓ 178 (K43.sig.native (K43.W c))
def K43.C : Code := match Tryz.f178.body with | some c => c | none => .skip
def K43.B0 : Code := match (Z3 K43.C).getD 0 .skip with | .loop b => b | .scope b => b | _ => .skip
def K43.JC9 : Exits U := [(.normal, ⟨60, 13, [(5, vi_)], []⟩)]
def K43.H (cK44 : K44.T) (cK37 : K37.T) (cK46 : K46.T) (cK74 : K74.T) (cK39 : K39.T) : Hints U := { Γ := (K39.N cK39 (addΓ 202 (K74.sig.native (K74.W cK74)) (addΓ 200 (K46.sig.native (K46.W cK46)) (K37.N cK37 (addΓ 198 (K44.sig.native (K44.W cK44)) noΓ))))), ro := 0, base := 13, joinQ := jt_ [(4, [(27, vb_)]), (6, [(39, vb_)])], joinC := jt_ [(9, K43.JC9)], gotos := 3, loop := fun b => none }
def K43.gen (cK44 : K44.T) (cK37 : K37.T) (cK46 : K46.T) (cK74 : K74.T) (cK39 : K39.T) : K43.T := fun a b =>
 (oelim (cK44 a b) none fun r0 => (bif ine (imul .i64 2 r0.1.1) 0 then some ((imul .i64 2 r0.1.1, ()), ((), ())) else (oelim (cK37 a.fSteps b.fSteps) none fun r1 => (oelim ((bif ilt 0 (imul .i64 2 r1.1.1) then some (ieq (isub .i64 a.fSteps 1) b.fSteps, ()) else some (false, ()))) none fun r2 => (bif r2.1 then (oelim (cK46 a) none fun r3 => some (r3.1, ((), ()))) else (oelim ((bif ilt (imul .i64 2 r1.1.1) 0 then some (ieq (isub .i64 b.fSteps 1) a.fSteps, ()) else some (false, ()))) none fun r4 => (bif r4.1 then (oelim (cK46 b) none fun r5 => some ((IntKind.wrap .i64 ((0 : Int) - r5.1.1), ()), ((), ()))) else (oelim ((bif ieq (imul .i64 2 r1.1.1) 0 then (oelim (cK74 a.fSender b.fSender) none fun r6 => (oelim (cK37 a.fReceiver.fPort b.fReceiver.fPort) none fun r7 => (oelim (cK39 (r6.1.1 :: r7.1.1 :: lnil Int)) none fun r8 => some (r8.1, ())))) else some ((imul .i64 2 r1.1.1, ()), ()))) none fun r9 => some (r9.1, ((), ()))))))))))
def K43 : K43.T := K43.gen K44 K37 K46 K74 K39
theorem K43.eq (cK44 : K44.T) (cK37 : K37.T) (cK46 : K46.T) (cK74 : K74.T) (cK39 : K39.T) : EqA K43.sig (K43.H cK44 cK37 cK46 cK74 cK39) Tryz.f178 6 (K43.W (K43.gen cK44 cK37 cK46 cK74 cK39)) := by intro a x; kernel_rfl
theorem K43.loops : Z3 K43.C = [(.scope K43.B0)] := by kernel_rfl
theorem K43.ok : NK_ 178 K43.sig (K43.W K43) := ok_ Tryz.func178 (K43.eq K44 K37 K46 K74 K39) (hl_ (Z0 (Z0 (Z0 (Z0 (Z0 Z2 K44.ok) K37.ok) K46.ok) K74.ok) K39.ok) (Zx Z6)) K43.loops
def K42.sig : Sig U := ⟨[.isl .t_api_Vector], [], 0, [.int .i64], false, []⟩
abbrev K42.T : Type := (List (api_Vector)) → Option ((Int × Unit) × Unit × Unit)
def K42.W (f : K42.T) : K42.sig.F := fun a x => f a.1
def K42.L0 : Shape U := ⟨27, 13, [(0, .val (.isl .t_api_Vector)), (3, vi_), (6, .val (.isl .t_api_Vector)), (7, vi_), (8, vi_)], []⟩
def K42.X0 : Exits U := [(.exit 0, ⟨27, 13, [(3, vi_)], []⟩)]
abbrev K42.l0T : Type := (((List (api_Vector)) × Int × (List (api_Vector)) × Int × Int × Unit) × Unit) → Option (((Int × Unit) × Unit))
def K42.C : Code := match Tryz.f177.body with | some c => c | none => .skip
def K42.B0 : Code := match (Z3 K42.C).getD 0 .skip with | .loop b => b | .scope b => b | _ => .skip
def K42.JC6 : Exits U := [(.normal, ⟨27, 13, [(0, .val (.isl .t_api_Vector)), (3, vi_), (6, .val (.isl .t_api_Vector)), (7, vi_), (8, vi_)], []⟩)]
def K42.H (cK43 : K43.T) (l0 : K42.l0T) : Hints U := { Γ := (K43.N cK43 noΓ), ro := 0, base := 13, joinQ := jt_ [(5, [(23, vb_)])], joinC := jt_ [(6, K42.JC6)], loop := jt_ [(3, (Za (0, 13) K42.L0 K42.X0 l0))] }
def K42.step0 (cK43 : K43.T) (a : ((List (api_Vector)) × Int × (List (api_Vector)) × Int × Int × Unit) × Unit) : Option ((((List (api_Vector)) × Int × (List (api_Vector)) × Int × Int × Unit) × Unit) ⊕ (((Int × Unit) × Unit))) :=
 (bif ilt a.1.2.2.2.2.1 a.1.2.2.2.1 then (bif inR a.1.2.2.2.2.1 (List.length a.1.2.2.1) then (oelim ((bif ilt a.1.2.1 0 then some (true, ()) else (bif inR a.1.2.1 (List.length a.1.1) then (oelim (cK43 (List.getD a.1.1 (Int.toNat a.1.2.1) api_Vector.zero) (List.getD a.1.2.2.1 (Int.toNat a.1.2.2.2.2.1) api_Vector.zero)) none fun r0 => some (ilt 0 r0.1.1, ())) else none))) none fun r1 => (oelim ((bif r1.1 then some ((a.1.1, (a.1.2.2.2.2.1, a.1.2.2)), ()) else some a)) none fun r2 => some (.inl ((r2.1.1, (r2.1.2.1, (r2.1.2.2.1, (r2.1.2.2.2.1, (iadd .i64 r2.1.2.2.2.2.1 1, ()))))), ())))) else none) else some (.inr ((a.1.2.1, ()), ())))
def K42.F0 : K42.l0T := fun a => Z8 (1000000 + (a.1.1.length + a.1.2.2.1.length)) (K42.step0 K43) a
def K42.gen (cK43 : K43.T) (l0 : K42.l0T) : K42.T := fun l =>
 (oelim (l0 ((l, (-1 : Int), l, ofN (List.length l), (0 : Int), ()), ())) none fun r0 => some (r0.1, ((), ())))
def K42 : K42.T := K42.gen K43 K42.F0
theorem K42.seq0 (cK43 : K43.T) (l0 : K42.l0T) (a : K42.L0.T) : run Tryz.prog (K42.H cK43 l0) 6 (Option (K42.L0.T ⊕ ExT K42.X0)) none K42.B0 (K42.L0.enc a) (Zn (0, 13) K42.L0 K42.X0) = K42.step0 cK43 a := by kernel_rfl
abbrev K42.h := K42.H K43 K42.F0
theorem K42.lok0 : LO_ K42.h K42.B0 (Za (0, 13) K42.L0 K42.X0 K42.F0) := lk_ (hn_ (Z0 Z2 K43.ok)) (K42.seq0 K43 K42.F0)
theorem K42.eq (cK43 : K43.T) (l0 : K42.l0T) : EqA K42.sig (K42.H cK43 l0) Tryz.f177 6 (K42.W (K42.gen cK43 l0)) := by intro a x; kernel_rfl
theorem K42.loops : Z3 K42.C = [(.loop K42.B0)] := by kernel_rfl
theorem K42.ok : NK_ 177 K42.sig (K42.W K42) := ok_ Tryz.func177 (K42.eq K43 K42.F0) (hl_ (Z0 Z2 K43.ok) (Z9 (by kernel_rfl) K42.lok0 Z6)) K42.loops
def K59.sig : Sig U := ⟨[.ptr, .int .i64], [.obj .t_foreign_Table], 1, [.data .t_foreign_Record, .bool], true, []⟩
abbrev K59.T : Type := (Int) → (foreign_Table) → Option ((foreign_Record × Bool × Unit) × Unit × Unit)
def K59.W (f : K59.T) : K59.sig.F := fun a x => f a.2.1 x.1
def K59.L0 : Shape U := ⟨35, 16, [(4, .ptr 14 0 0), (6, .val (.isl .t_foreign_Record)), (7, .own .t_api_Vector 15), (14, .val (.isl .t_foreign_Record)), (15, vi_), (16, vi_)], [(13, .obj .t_foreign_Table), (14, .obj .t_foreign_Record), (15, .tok)]⟩
def K59.X0 : Exits U := [(.exit 0, ⟨35, 16, [(4, .ptr 14 0 0), (6, .val (.isl .t_foreign_Record)), (7, .own .t_api_Vector 15)], [(13, .obj .t_foreign_Table), (14, .obj .t_foreign_Record), (15, .tok)]⟩)]
abbrev K59.l0T : Type := (((List (foreign_Record)) × (List (api_Vector)) × (List (foreign_Record)) × Int × Int × Unit) × (foreign_Table × foreign_Record × Unit)) → Option ((((List (foreign_Record)) × (List (api_Vector)) × Unit) × (foreign_Table × foreign_Record × Unit)))
def K59.C : Code := match Tryz.f133.body with | some c => c | none => .skip
def K59.B0 : Code := match (Z3 K59.C).getD 0 .skip with | .loop b => b | .scope b => b | _ => .skip
def K59.JR10 : Exits U := [(.normal, ⟨35, 15, [(4, .ptr 14 0 0), (5, vb_)], [(13, .obj .t_foreign_Table), (14, .obj .t_foreign_Record)]⟩)]
def K59.JR5 : Exits U := [(.normal, ⟨35, 17, [(4, .ptr 14 0 0), (6, .val (.isl .t_foreign_Record)), (7, .own .t_api_Vector 15), (9, .ptr 16 0 0), (14, .val (.isl .t_foreign_Record)), (15, vi_), (16, vi_)], [(13, .obj .t_foreign_Table), (14, .obj .t_foreign_Record), (15, .tok), (16, .obj .t_foreign_Record)]⟩)]
def K59.H (cK62 : K62.T) (cK42 : K42.T) (l0 : K59.l0T) : Hints U := { Γ := (addΓ 177 (K42.sig.native (K42.W cK42)) (addΓ 176 (K62.sig.native (K62.W cK62)) noΓ)), ro := 14, base := 14, joinR := jt_ [(5, K59.JR5), (10, K59.JR10)], loop := jt_ [(4, (Za (14, 14) K59.L0 K59.X0 l0))] }
def K59.step0 (cK62 : K62.T) (cK42 : K42.T) (a : ((List (foreign_Record)) × (List (api_Vector)) × (List (foreign_Record)) × Int × Int × Unit) × (foreign_Table × foreign_Record × Unit)) : Option ((((List (foreign_Record)) × (List (api_Vector)) × (List (foreign_Record)) × Int × Int × Unit) × (foreign_Table × foreign_Record × Unit)) ⊕ ((((List (foreign_Record)) × (List (api_Vector)) × Unit) × (foreign_Table × foreign_Record × Unit)))) :=
 (bif ilt a.1.2.2.2.2.1 a.1.2.2.2.1 then (oelim ((bif inR a.1.2.2.2.2.1 (List.length a.1.2.2.1) then some (a.1, (a.2.1, (a.2.2.1, (List.getD a.1.2.2.1 (Int.toNat a.1.2.2.2.2.1) foreign_Record.zero, ())))) else none)) none fun r0 => (bif room (List.length r0.1.2.1 + List.length (r0.2.2.2.1.fVector :: lnil api_Vector)) 88 then some (.inl ((r0.1.1, (r0.1.2.1 ++ r0.2.2.2.1.fVector :: lnil api_Vector, (r0.1.2.2.1, (r0.1.2.2.2.1, (iadd .i64 r0.1.2.2.2.2.1 1, ()))))), (r0.2.1, (r0.2.2.1, ())))) else none)) else some (.inr ((a.1.1, (a.1.2.1, ())), a.2)))
def K59.F0 : K59.l0T := fun a => Z8 (1000000 + (a.1.1.length + a.1.2.1.length + a.1.2.2.1.length)) (K59.step0 K62 K42) a
def K59.gen (cK62 : K62.T) (cK42 : K42.T) (l0 : K59.l0T) : K59.T := fun now h0 =>
 (oelim (cK62 now h0) none fun r0 => (oelim (l0 ((r0.1.1, lnil api_Vector, r0.1.1, ofN (List.length r0.1.1), (0 : Int), ()), h0, foreign_Record.mk z5_ z6_ 0 0 0, ())) none fun r1 => (oelim (cK42 r1.1.2.1) none fun r2 => (bif ilt r2.1.1 0 then some ((foreign_Record.mk z5_ z6_ 0 0 0, (false, ())), ((), ())) else (bif inR r2.1.1 (List.length r1.1.1) then some ((List.getD r1.1.1 (Int.toNat r2.1.1) foreign_Record.zero, (true, ())), ((), ())) else none)))))
def K59 : K59.T := K59.gen K62 K42 K59.F0
theorem K59.seq0 (cK62 : K62.T) (cK42 : K42.T) (l0 : K59.l0T) (a : K59.L0.T) : run Tryz.prog (K59.H cK62 cK42 l0) 6 (Option (K59.L0.T ⊕ ExT K59.X0)) none K59.B0 (K59.L0.enc a) (Zn (14, 14) K59.L0 K59.X0) = K59.step0 cK62 cK42 a := by kernel_rfl
abbrev K59.h := K59.H K62 K42 K59.F0
theorem K59.lok0 : LO_ K59.h K59.B0 (Za (14, 14) K59.L0 K59.X0 K59.F0) := lk_ (hn_ (Z0 (Z0 Z2 K62.ok) K42.ok)) (K59.seq0 K62 K42 K59.F0)
theorem K59.eq (cK62 : K62.T) (cK42 : K42.T) (l0 : K59.l0T) : EqA K59.sig (K59.H cK62 cK42 l0) Tryz.f133 6 (K59.W (K59.gen cK62 cK42 l0)) := by intro a x; kernel_rfl
theorem K59.loops : Z3 K59.C = [(.loop K59.B0)] := by kernel_rfl
theorem K59.ok : NK_ 133 K59.sig (K59.W K59) := ok_ Tryz.func133 (K59.eq K62 K42 K59.F0) (hl_ (Z0 (Z0 Z2 K62.ok) K42.ok) (Z9 (by kernel_rfl) K59.lok0 Z6)) K59.loops
def K45.sig : Sig U := ⟨[.data .t_api_Conf], [], 0, [.data .t_api_Vector], false, []⟩
abbrev K45.T : Type := (api_Conf) → Option ((api_Vector × Unit) × Unit × Unit)
def K45.W (f : K45.T) : K45.sig.F := fun a x => f a.1
def K45.H : Hints U := { Γ := noΓ, ro := 0, base := 13 }
def K45.gen : K45.T := fun c =>
 some ((api_Vector.mk c.fPriority1 c.fQuality c.fPriority2 c.fClock 0 (api_PortID.mk c.fClock 0) (api_PortID.mk c.fClock 0), ()), ((), ()))
def K45 : K45.T := K45.gen
theorem K45.ok : NK_ 135 K45.sig (K45.W K45) := ok_ (H := K45.H) (n := 6) Tryz.func135 (by intro a x; kernel_rfl) (hn_ Z2)
def K50.sig : Sig U := ⟨[.data .t_api_Vector, .bool, .optr .t_api_Vector, .optr .t_api_Vector, .bool], [], 0, [.int .i64], false, []⟩
abbrev K50.T : Type := (api_Vector) → (Bool) → (Option (api_Vector)) → (Option (api_Vector)) → (Bool) → Option ((Int × Unit) × Unit × Unit)
def K50.W (f : K50.T) : K50.sig.F := fun a x => f a.1 a.2.1 a.2.2.1 a.2.2.2.1 a.2.2.2.2.1
def K50.JC2 : Exits U := [(.normal, ⟨58, 13, [], []⟩),
 (.ret, ⟨58, 13, [(10, vi_)], []⟩)]
def K50.H (cK43 : K43.T) : Hints U := { Γ := (K43.N cK43 noΓ), ro := 0, base := 13, joinQ := jt_ [(1, [(11, vb_)]), (4, [(31, vb_)]), (7, [(32, vb_)]), (11, [(45, vb_)])], joinC := jt_ [(2, K50.JC2)] }
def K50.gen (cK43 : K43.T) : K50.T := fun d0 listening best port here =>
 (oelim ((bif !Option.isSome port then some (listening, ()) else some (false, ()))) none fun r0 => (oelim ((bif r0.1 then some (.inr (((7 : Int), ()), ())) else (bif ile d0.fQuality.fClass 127 then (oelim ((bif !Option.isSome port then some (true, ()) else (oelim (port) none fun r1 => (oelim (cK43 d0 r1) none fun r2 => some (ilt r2.1.1 0, ()))))) none fun r3 => (bif r3.1 then some (.inr (((1 : Int), ()), ())) else some (.inr (((4 : Int), ()), ())))) else (oelim ((bif !Option.isSome best then some (true, ()) else (oelim (best) none fun r4 => (oelim (cK43 d0 r4) none fun r5 => some (ilt r5.1.1 0, ()))))) none fun r6 => (bif r6.1 then some (.inr (((2 : Int), ()), ())) else (bif here then some (.inr (((6 : Int), ()), ())) else (oelim ((bif Option.isSome port then (oelim (best) none fun r7 => (oelim (port) none fun r8 => (oelim (cK43 r7 r8) none fun r9 => some (ieq r9.1.1 (-1), ())))) else some (false, ()))) none fun r10 => (bif r10.1 then some (.inr (((5 : Int), ()), ())) else some (.inl ((), ())))))))))) none fun r11 => (selim r11 (fun r12 => some (((3 : Int), ()), ((), ()))) (fun r12 => some (r12.1, ((), ()))))))
def K50 : K50.T := K50.gen K43
theorem K50.eq (cK43 : K43.T) : EqA K50.sig (K50.H cK43) Tryz.f179 6 (K50.W (K50.gen cK43)) := by intro a x; kernel_rfl
theorem K50.ok : NK_ 179 K50.sig (K50.W K50) := ok_ Tryz.func179 (K50.eq K43) (hn_ (Z0 Z2 K43.ok))
def K49.sig : Sig U := ⟨[.data .t_api_Vector, .isl .bool, .isl .p_t_api_Vector], [], 0, [.isl .int, .int .i64], true, []⟩
abbrev K49.T : Type := (api_Vector) → (List (Bool)) → (List (Option (api_Vector))) → Option (((List (Int)) × Int × Unit) × Unit × Unit)
def K49.W (f : K49.T) : K49.sig.F := fun a x => f a.1 a.2.1 a.2.2.1
def K49.L0 : Shape U := ⟨78, 14, [(1, .val (.isl .bool)), (2, .val (.isl .p_t_api_Vector)), (3, .ptr 13 0 0), (8, vi_), (9, vi_), (10, .val (.optr .t_api_Vector)), (11, .full .int)], [(13, .obj .t_api_Vector)]⟩
def K49.X0 : Exits U := [(.ret, ⟨78, 14, [(6, .own .int 13), (7, vi_)], [(13, .tok)]⟩)]
abbrev K49.l0T : Type := (((List (Bool)) × (List (Option (api_Vector))) × Int × Int × (Option (api_Vector)) × (List (Int)) × Unit) × (api_Vector × Unit)) → Option ((((List (Int)) × Int × Unit) × Unit))
def K49.L1 : Shape U := ⟨78, 15, [(1, .val (.isl .bool)), (3, .ptr 13 0 0), (8, vi_), (10, .val (.optr .t_api_Vector)), (11, .own .int 14), (48, .val (.isl .p_t_api_Vector)), (49, vi_), (50, vi_)], [(13, .obj .t_api_Vector), (14, .tok)]⟩
def K49.X1 : Exits U := [(.exit 0, ⟨78, 14, [(8, vi_), (11, .own .int 13)], [(13, .tok)]⟩)]
abbrev K49.l1T : Type := (((List (Bool)) × Int × (Option (api_Vector)) × (List (Int)) × (List (Option (api_Vector))) × Int × Int × Unit) × (api_Vector × Unit)) → Option (((Int × (List (Int)) × Unit) × Unit))
def K49.C : Code := match Tryz.f134.body with | some c => c | none => .skip
def K49.B0 : Code := match (Z3 K49.C).getD 0 .skip with | .loop b => b | .scope b => b | _ => .skip
def K49.B1 : Code := match (Z3 K49.C).getD 1 .skip with | .loop b => b | .scope b => b | _ => .skip
def K49.R0 : Code := (findLabel K49.B0 0).getD .skip
def K49.JR13 : Exits U := [(.normal, ⟨78, 15, [(1, .val (.isl .bool)), (3, .ptr 13 0 0), (8, vi_), (10, .val (.optr .t_api_Vector)), (11, .own .int 14), (48, .val (.isl .p_t_api_Vector)), (49, vi_), (50, vi_)], [(13, .obj .t_api_Vector), (14, .tok)]⟩)]
def K49.JC8 : Exits U := [(.normal, ⟨78, 14, [(1, .val (.isl .bool)), (2, .val (.isl .p_t_api_Vector)), (3, .ptr 13 0 0), (8, vi_), (9, vi_), (10, .val (.optr .t_api_Vector)), (11, .full .int)], [(13, .obj .t_api_Vector)]⟩)]
def K49.H (cK43 : K43.T) (cK50 : K50.T) (l0 : K49.l0T) (l1 : K49.l1T) : Hints U := { Γ := (addΓ 179 (K50.sig.native (K50.W cK50)) (K43.N cK43 noΓ)), ro := 0, base := 13, joinQ := jt_ [(7, [(43, vb_)])], joinR := jt_ [(13, K49.JR13)], joinC := jt_ [(8, K49.JC8)], label := fun b => bif Nat.beq b 0 then some (Za (0, 13) K49.L0 K49.X0 l0) else none, gotos := 3, loop := jt_ [(11, (Za (0, 13) K49.L1 K49.X1 l1))] }
def K49.step1 (cK43 : K43.T) (cK50 : K50.T) (a : ((List (Bool)) × Int × (Option (api_Vector)) × (List (Int)) × (List (Option (api_Vector))) × Int × Int × Unit) × (api_Vector × Unit)) : Option ((((List (Bool)) × Int × (Option (api_Vector)) × (List (Int)) × (List (Option (api_Vector))) × Int × Int × Unit) × (api_Vector × Unit)) ⊕ (((Int × (List (Int)) × Unit) × Unit))) :=
 (bif ilt a.1.2.2.2.2.2.2.1 a.1.2.2.2.2.2.1 then (bif inR a.1.2.2.2.2.2.2.1 (List.length a.1.2.2.2.2.1) then (oelim ((bif ilt a.1.2.2.2.2.2.2.1 (ofN (List.length a.1.1)) then (bif inR a.1.2.2.2.2.2.2.1 (List.length a.1.1) then (oelim (cK50 a.2.1 (List.getD a.1.1 (Int.toNat a.1.2.2.2.2.2.2.1) false) a.1.2.2.1 (List.getD a.1.2.2.2.2.1 (Int.toNat a.1.2.2.2.2.2.2.1) none) (ieq a.1.2.2.2.2.2.2.1 a.1.2.1)) none fun r0 => (bif room (List.length a.1.2.2.2.1 + List.length (r0.1.1 :: lnil Int)) 8 then some ((a.1.1, (a.1.2.1, (a.1.2.2.1, (a.1.2.2.2.1 ++ r0.1.1 :: lnil Int, a.1.2.2.2.2)))), a.2) else none)) else none) else (oelim (cK50 a.2.1 false a.1.2.2.1 (List.getD a.1.2.2.2.2.1 (Int.toNat a.1.2.2.2.2.2.2.1) none) (ieq a.1.2.2.2.2.2.2.1 a.1.2.1)) none fun r1 => (bif room (List.length a.1.2.2.2.1 + List.length (r1.1.1 :: lnil Int)) 8 then some ((a.1.1, (a.1.2.1, (a.1.2.2.1, (a.1.2.2.2.1 ++ r1.1.1 :: lnil Int, a.1.2.2.2.2)))), a.2) else none)))) none fun r2 => some (.inl ((r2.1.1, (r2.1.2.1, (r2.1.2.2.1, (r2.1.2.2.2.1, (r2.1.2.2.2.2.1, (r2.1.2.2.2.2.2.1, (iadd .i64 r2.1.2.2.2.2.2.2.1 1, ()))))))), r2.2))) else none) else some (.inr ((a.1.2.1, (a.1.2.2.2.1, ())), ())))
def K49.F1 : K49.l1T := fun a => Z8 (1000000 + (a.1.1.length + a.1.2.2.2.1.length + a.1.2.2.2.2.1.length)) (K49.step1 K43 K50) a
def K49.step0 (cK43 : K43.T) (cK50 : K50.T) (l1 : K49.l1T) (a : ((List (Bool)) × (List (Option (api_Vector))) × Int × Int × (Option (api_Vector)) × (List (Int)) × Unit) × (api_Vector × Unit)) : Option ((((List (Bool)) × (List (Option (api_Vector))) × Int × Int × (Option (api_Vector)) × (List (Int)) × Unit) × (api_Vector × Unit)) ⊕ ((((List (Int)) × Int × Unit) × Unit))) :=
 (bif ilt a.1.2.2.2.1 (ofN (List.length a.1.2.1)) then (bif inR a.1.2.2.2.1 (List.length a.1.2.1) then (oelim ((bif Option.isSome (List.getD a.1.2.1 (Int.toNat a.1.2.2.2.1) none) then (bif !Option.isSome a.1.2.2.2.2.1 then some (true, ()) else (oelim (a.1.2.2.2.2.1) none fun (r0 : api_Vector) => (oelim (List.getD a.1.2.1 (Int.toNat a.1.2.2.2.1) none) none fun r1 => (oelim (cK43 r0 r1) none fun r2 => some (ilt 0 r2.1.1, ()))))) else some (false, ()))) none fun r3 => (oelim ((bif r3.1 then some ((a.1.1, (a.1.2.1, (a.1.2.2.2.1, (a.1.2.2.2.1, (List.getD a.1.2.1 (Int.toNat a.1.2.2.2.1) none, a.1.2.2.2.2.2))))), a.2) else some a)) none fun r4 => some (.inl ((r4.1.1, (r4.1.2.1, (r4.1.2.2.1, (iadd .i64 r4.1.2.2.2.1 1, r4.1.2.2.2.2)))), r4.2)))) else none) else (oelim (l1 ((a.1.1, a.1.2.2.1, a.1.2.2.2.2.1, a.1.2.2.2.2.2.1, a.1.2.1, ofN (List.length a.1.2.1), (0 : Int), ()), a.2)) none fun r5 => some (.inr ((r5.1.2.1, (r5.1.1, ())), ()))))
def K49.F0 : K49.l0T := fun a => Z8 (1000000 + (a.1.1.length + a.1.2.1.length + a.1.2.2.2.2.2.1.length)) (K49.step0 K43 K50 K49.F1) a
def K49.gen (cK43 : K43.T) (cK50 : K50.T) (l0 : K49.l0T) (l1 : K49.l1T) : K49.T := fun d0 listening ports =>
 (bif le3 (ofN 0) (Z4 false (ofN (List.length ports)) 8) (List.length ports) then (bif ilt 0 (ofN (List.length (List.drop (Int.toNat (ofN 0)) (List.take (Int.toNat (Z4 false (ofN (List.length ports)) 8)) ports)))) then (bif inR 0 (List.length (List.drop (Int.toNat (ofN 0)) (List.take (Int.toNat (Z4 false (ofN (List.length ports)) 8)) ports))) then (oelim ((bif Option.isSome (List.getD (List.drop (Int.toNat (ofN 0)) (List.take (Int.toNat (Z4 false (ofN (List.length ports)) 8)) ports)) (Int.toNat 0) none) then some (true, ()) else some (false, ()))) none fun r0 => (oelim ((bif r0.1 then some ((listening, (List.drop (Int.toNat (ofN 0)) (List.take (Int.toNat (Z4 false (ofN (List.length ports)) 8)) ports), ((0 : Int), ((0 : Int), (List.getD (List.drop (Int.toNat (ofN 0)) (List.take (Int.toNat (Z4 false (ofN (List.length ports)) 8)) ports)) (Int.toNat 0) none, (lnil Int, ())))))), (d0, ())) else some ((listening, (List.drop (Int.toNat (ofN 0)) (List.take (Int.toNat (Z4 false (ofN (List.length ports)) 8)) ports), ((-1 : Int), ((0 : Int), (none, (lnil Int, ())))))), (d0, ())))) none fun r1 => (oelim (l0 ((r1.1.1, r1.1.2.1, r1.1.2.2.1, iadd .i64 r1.1.2.2.2.1 1, r1.1.2.2.2.2), r1.2)) none fun r2 => some (r2.1, ((), ()))))) else none) else (oelim (l1 ((listening, (-1 : Int), none, lnil Int, List.drop (Int.toNat (ofN 0)) (List.take (Int.toNat (Z4 false (ofN (List.length ports)) 8)) ports), ofN (List.length (List.drop (Int.toNat (ofN 0)) (List.take (Int.toNat (Z4 false (ofN (List.length ports)) 8)) ports))), (0 : Int), ()), d0, ())) none fun r3 => some ((r3.1.2.1, (r3.1.1, ())), ((), ())))) else none)
def K49 : K49.T := K49.gen K43 K50 K49.F0 K49.F1
theorem K49.seq1 (cK43 : K43.T) (cK50 : K50.T) (l0 : K49.l0T) (l1 : K49.l1T) (a : K49.L1.T) : run Tryz.prog (K49.H cK43 cK50 l0 l1) 6 (Option (K49.L1.T ⊕ ExT K49.X1)) none K49.B1 (K49.L1.enc a) (Zn (0, 13) K49.L1 K49.X1) = K49.step1 cK43 cK50 a := by kernel_rfl
theorem K49.inner1 : Z3 K49.B1 = ([] : List Code) := by kernel_rfl
abbrev K49.h := K49.H K43 K50 K49.F0 K49.F1
theorem K49.lok1 : ZM U Tryz.prog K49.h.ro K49.h.base K49.B1 (Za (0, 13) K49.L1 K49.X1 K49.F1) :=
 Z58 (Hn := K49.h) U_ok U_pure (Z2k (Z11 U_ok U_pure mixed (Z0 (Z0 Z2 K43.ok) K50.ok) Z6 Z20 (Z27 fun _ => rfl)) 6) (fun b h => by rw [K49.inner1] at h; exact h) (fun _ => rfl) (K49.seq1 K43 K50 K49.F0 K49.F1)
theorem K49.seq0 (cK43 : K43.T) (cK50 : K50.T) (l0 : K49.l0T) (l1 : K49.l1T) (a : K49.L0.T) : run Tryz.prog (K49.H cK43 cK50 l0 l1) 6 (Option (K49.L0.T ⊕ ExT K49.X0)) none K49.R0 (K49.L0.enc a) (Z2J (0, 13) 0 K49.L0 K49.X0) = K49.step0 cK43 cK50 l1 a := by kernel_rfl
theorem K49.inner0 : Z3 K49.R0 = [(.loop K49.B1)] := by kernel_rfl
theorem K49.lok0 : ZQ U Tryz.prog K49.h.ro K49.h.base K49.B0 K49.R0 (Za (0, 13) K49.L0 K49.X0 K49.F0) :=
 Z6h (Hn := K49.h) (lb := 0) U_ok U_pure (Z2k (Z11 U_ok U_pure mixed (Z0 (Z0 Z2 K43.ok) K50.ok) (Z9 (by kernel_rfl) K49.lok1 Z6) (Z4N Z20) (Z27 fun _ => rfl)) 6) (by kernel_rfl) (fun b h => by rw [K49.inner0] at h; exact h) (fun _ => rfl) (K49.seq0 K43 K50 K49.F0 K49.F1)
theorem K49.eq (cK43 : K43.T) (cK50 : K50.T) (l0 : K49.l0T) (l1 : K49.l1T) : EqA K49.sig (K49.H cK43 cK50 l0 l1) Tryz.f134 6 (K49.W (K49.gen cK43 cK50 l0 l1)) := by intro a x; kernel_rfl
theorem K49.loops : Z3 K49.C = [(.scope K49.B0), (.loop K49.B1)] := by kernel_rfl
theorem K49.hints : HintsOK U Tryz.prog K49.h (fun c => c ∈ [(.scope K49.B0), (.loop K49.B1)]) := (Z11 U_ok U_pure mixed (Z0 (Z0 Z2 K43.ok) K50.ok) (Zx (Z9 (by kernel_rfl) K49.lok1 Z6)) (Z50 (Z6w (r0 := K49.R0) (l0 := 0) (by kernel_rfl) (fun _ => rfl) K49.lok0) (Z4N Z20)) (Z27 fun _ => rfl))
theorem K49.ok : Zw U Tryz.prog 134 (K49.sig.native (K49.W K49)) :=
 Sig.ok K49.sig (K49.W K49) U_pure (Hn := K49.h) (code := K49.C) (gos := 6) K49.hints Tryz.func134 (by kernel_rfl) (by kernel_rfl) (fun b h => by rw [K49.loops] at h; exact h) rfl rfl (by decide) (K49.eq K43 K50 K49.F0 K49.F1) (by decide)
def K149.sig : Sig U := ⟨[.data .t_api_Vector, .data .t_api_Times], [], 0, [.data .t_api_Parent], false, []⟩
abbrev K149.T : Type := (api_Vector) → (api_Times) → Option ((api_Parent × Unit) × Unit × Unit)
def K149.W (f : K149.T) : K149.sig.F := fun a x => f a.1 a.2.1
def K149.H : Hints U := { Γ := noΓ, ro := 0, base := 13 }
def K149.gen : K149.T := fun v t =>
 some ((api_Parent.mk v.fSender v.fGrand v.fQuality v.fPriority1 v.fPriority2 (iadd .i64 v.fSteps 1) t, ()), ((), ()))
def K149 : K149.T := K149.gen
theorem K149.ok : NK_ 136 K149.sig (K149.W K149) := ok_ (H := K149.H) (n := 6) Tryz.func136 (by intro a x; kernel_rfl) (hn_ Z2)
def K109.sig : Sig U := ⟨[.int .i64, .int .i64, .bool, .bool], [], 0, [.int .i64], false, []⟩
abbrev K109.T : Type := (Int) → (Int) → (Bool) → (Bool) → Option ((Int × Unit) × Unit × Unit)
def K109.W (f : K109.T) : K109.sig.F := fun a x => f a.1 a.2.1 a.2.2.1 a.2.2.2.1
def K109.H (cK108 : K108.T) (cK110 : K110.T) : Hints U := { Γ := (K110.N cK110 (K108.N cK108 noΓ)), ro := 0, base := 13, joinQ := jt_ [(1, [(19, vb_)]), (3, [(25, vb_)]), (14, [(42, vb_)])] }
def K109.gen (cK108 : K108.T) (cK110 : K110.T) : K109.T := fun state decision same slaveOnly =>
 (oelim ((oelim (cK108 state) none fun r0 => (bif !r0.1.1 then some (true, ()) else (bif ilt decision 1 then some (true, ()) else some (ilt 6 decision, ()))))) none fun r1 => (bif r1.1 then some ((state, ()), ((), ())) else (oelim ((bif slaveOnly then some (ine decision 6, ()) else some (false, ()))) none fun r2 => (bif r2.1 then some (((4 : Int), ()), ((), ())) else (bif ieq decision 4 then some (((7 : Int), ()), ((), ())) else (bif ieq decision 5 then some (((7 : Int), ()), ((), ())) else (bif ieq decision 3 then (bif ine state 6 then some (((5 : Int), ()), ((), ())) else some ((state, ()), ((), ()))) else (bif ieq decision 6 then (oelim ((bif same then (oelim (cK110 state) none fun r3 => some r3.1) else some (false, ()))) none fun r4 => (bif r4.1 then some ((state, ()), ((), ())) else some (((8 : Int), ()), ((), ())))) else some (((6 : Int), ()), ((), ()))))))))))
def K109 : K109.T := K109.gen K108 K110
theorem K109.eq (cK108 : K108.T) (cK110 : K110.T) : EqA K109.sig (K109.H cK108 cK110) Tryz.f137 6 (K109.W (K109.gen cK108 cK110)) := by intro a x; kernel_rfl
theorem K109.ok : NK_ 137 K109.sig (K109.W K109) := ok_ Tryz.func137 (K109.eq K108 K110) (hn_ (Z0 (Z0 Z2 K108.ok) K110.ok))
def K117.sig : Sig U := ⟨[.ptr], [.obj .t_seq_Match], 0, [], true, []⟩
abbrev K117.T : Type := (seq_Match) → Option (Unit × (seq_Match × Unit) × Unit)
def K117.W (f : K117.T) : K117.sig.F := fun a x => f x.1
abbrev K117.N (c : K117.T) := addΓ 164 (K117.sig.native (K117.W c))
def K117.H : Hints U := { Γ := noΓ, ro := 0, base := 14 }
def K117.gen : K117.T := fun h0 =>
 some ((), ((seq_Match.mk z2_ z2_ 0 false false, ()), ()))
def K117 : K117.T := K117.gen
theorem K117.ok : NK_ 164 K117.sig (K117.W K117) := ok_ (H := K117.H) (n := 6) Tryz.func164 (by intro a x; kernel_rfl) (hn_ Z2)
def K52.sig : Sig U := ⟨[.ptr], [.obj .t_delay_Exchange], 0, [], true, []⟩
abbrev K52.T : Type := (delay_Exchange) → Option (Unit × (delay_Exchange × Unit) × Unit)
def K52.W (f : K52.T) : K52.sig.F := fun a x => f x.1
abbrev K52.N (c : K52.T) := addΓ 165 (K52.sig.native (K52.W c))
def K52.H : Hints U := { Γ := noΓ, ro := 0, base := 14 }
def K52.gen : K52.T := fun h0 =>
 some ((), ((delay_Exchange.set_fr h0 (delay_request.mk 0 0 false false), ()), ()))
def K52 : K52.T := K52.gen
theorem K52.ok : NK_ 165 K52.sig (K52.W K52) := ok_ (H := K52.H) (n := 6) Tryz.func165 (by intro a x; kernel_rfl) (hn_ Z2)
def K35.sig : Sig U := ⟨[.ptr, .bool], [.obj .t_clock_side, fm7_, fm10_], 0, [], true, []⟩
abbrev K35.T : Type := (Bool) → (clock_side) → (Fm delay_Exchange) → (Fm seq_Match) → Option (Unit × (clock_side × (Fm delay_Exchange) × (Fm seq_Match) × Unit) × Unit)
def K35.W (f : K35.T) : K35.sig.F := fun a x => f a.2.1 x.1 x.2.1 x.2.2.1
def K35.C : Code := match Tryz.f97.body with | some c => c | none => .skip
def K35.B0 : Code := match (Z3 K35.C).getD 0 .skip with | .loop b => b | .scope b => b | _ => .skip
def K35.JR2 : Exits U := [(.normal, ⟨44, 14, [(0, .ptr 13 0 0), (1, vb_)], (13, .obj .t_clock_side) :: hT7_⟩)]
def K35.U0 (cK117 : K117.T) (cK52 : K52.T) (cK139 : K139.T) : Hints U := { Γ := (K139.N cK139 (K52.N cK52 (K117.N cK117 noΓ))), ro := 0, base := 14, joinR := jt_ [(0, K35.JR2), (1, K35.JR2), (2, K35.JR2)], loop := fun b => none }
def K35.H (cK117 : K117.T) (cK52 : K52.T) (cK139 : K139.T) : Hints U := { Γ := (K139.N cK139 (K52.N cK52 (K117.N cK117 noΓ))), ro := 0, base := 14, joinR := jt_ [(0, K35.JR2), (1, K35.JR2), (2, K35.JR2)], loop := jt_ [(4, (Z1N Tryz.prog (K35.U0 cK117 cK52 cK139) 6 K35.B0 6))] }
def K35.gen (cK117 : K117.T) (cK52 : K52.T) (cK139 : K139.T) : K35.T := fun ask h0 g7 g10 =>
 (oelim ((oelim (h0.12) none fun r0 => (oelim (cK117 (g10.2 r0)) none fun r1 => some ((ask, ()), (h0, (g7, ((g10.1, fset g10.2 r0 r1.2.1.1), ()))))))) none fun r2 => (oelim ((oelim (r2.2.1.13) none fun r3 => (oelim (cK52 (r2.2.2.1.2 r3)) none fun r4 => some (r2.1, (r2.2.1, ((r2.2.2.1.1, fset r2.2.2.1.2 r3 r4.2.1.1), r2.2.2.2)))))) none fun r5 => (oelim (cK139 r5.2.1.freceipt) none fun r6 => (oelim (cK139 r5.2.1.fqualify) none fun r7 => (oelim (cK139 r5.2.1.fannounce) none fun r8 => (oelim (cK139 r5.2.1.fsync) none fun r9 => (bif r5.1.1 then (oelim (cK139 r5.2.1.fask) none fun r10 => some ((), ((clock_side.set_fdiff (clock_side.set_fask (clock_side.set_fsync (clock_side.set_fannounce (clock_side.set_fqualify (clock_side.set_freceipt r5.2.1 r6.2.1.1) r7.2.1.1) r8.2.1.1) r9.2.1.1) r10.2.1.1) z4_, r5.2.2), ()))) else some ((), ((clock_side.set_fdiff (clock_side.set_fsync (clock_side.set_fannounce (clock_side.set_fqualify (clock_side.set_freceipt r5.2.1 r6.2.1.1) r7.2.1.1) r8.2.1.1) r9.2.1.1) z4_, r5.2.2), ())))))))))
def K35 : K35.T := K35.gen K117 K52 K139
theorem K35.inner0 : Z3 K35.B0 = [] := by kernel_rfl
abbrev K35.h := K35.H K117 K52 K139
theorem K35.lok0 : ZM U Tryz.prog K35.h.ro K35.h.base K35.B0 (Z1N Tryz.prog (K35.U0 K117 K52 K139) 6 K35.B0 6) :=
 Z2y (Hn := (K35.U0 K117 K52 K139)) (L := fun c => c ∈ ([] : List Code)) (hq (Z0 (Z0 (Z0 Z2 K117.ok) K52.ok) K139.ok) Z6 (fun _ => rfl) (fun _ => rfl)) (fun b h => by rw [K35.inner0] at h; exact h) 6
theorem K35.eq (cK117 : K117.T) (cK52 : K52.T) (cK139 : K139.T) : EqA K35.sig (K35.H cK117 cK52 cK139) Tryz.f97 6 (K35.W (K35.gen cK117 cK52 cK139)) := by intro a x; kernel_rfl
theorem K35.loops : Z3 K35.C = [(.loop K35.B0)] := by kernel_rfl
theorem K35.ok : NK_ 97 K35.sig (K35.W K35) := ok_ Tryz.func97 (K35.eq K117 K52 K139) (hl_ (Z0 (Z0 (Z0 Z2 K117.ok) K52.ok) K139.ok) (Z9 (by kernel_rfl) K35.lok0 Z6)) K35.loops
def K14.sig : Sig U := ⟨[.ptr, .eptr 0 23 42 8, .data .t_api_Parent], [.obj .t_clock_Clock], 0, [], true, []⟩
abbrev K14.T : Type := (Nat) → (api_Parent) → (clock_Clock) → Option (Unit × (clock_Clock × Unit) × Unit)
def K14.W (f : K14.T) : K14.sig.F := fun a x => f a.2.1 a.2.2.1 x.1
def K14.JR8 : Exits U := [(.normal, ⟨48, 14, [], [(13, .obj .t_clock_Clock)]⟩)]
def K14.JC10 : Exits U := [(.normal, ⟨48, 14, [(0, .ptr 13 0 0), (1, .aptr 13 23 42 8 0)], [(13, .obj .t_clock_Clock)]⟩)]
def K14.JC6 : Exits U := [(.normal, ⟨48, 14, [(0, .ptr 13 0 0), (1, .aptr 13 23 42 8 0), (16, vb_)], [(13, .obj .t_clock_Clock)]⟩)]
def K14.H (cK19 : K19.T) (cK12 : K12.T) (cK138 : K138.T) (cK25 : K25.T) : Hints U := { Γ := (K25.N cK25 (K138.N cK138 (K12.N cK12 (addΓ 131 (K19.sig.native (K19.W cK19)) noΓ)))), ro := 0, base := 14, joinR := jt_ [(7, K14.JR8), (8, K14.JR8)], joinC := jt_ [(6, K14.JC6), (10, K14.JC10)] }
def K14.gen (cK19 : K19.T) (cK12 : K12.T) (cK138 : K138.T) (cK25 : K25.T) : K14.T := fun p parent h0 =>
 (bif ieq (h0.fports p).fstate 6 then (oelim ((oelim (cK19 p h0) none fun r0 => some ((), r0.2.1))) none fun r1 => some ((), (r1.2, ()))) else (bif ieq (h0.fports p).fstate 5 then (oelim ((oelim (cK12 h0) none fun r2 => (oelim (cK138 (imul .i64 (iadd .i64 parent.fSteps 1) r2.1.1) (h0.fports p).fqualify) none fun r3 => some ((), (clock_Clock.set_fports h0 (fset h0.fports p (clock_side.set_fqualify (h0.fports p) r3.2.1.1)), ()))))) none fun r4 => some ((), (r4.2, ()))) else (bif ieq (h0.fports p).fstate 8 then (oelim ((bif !h0.fconf.fPeer then (oelim (cK138 1 (h0.fports p).fask) none fun r5 => some ((p, ()), (clock_Clock.set_fports h0 (fset h0.fports p (clock_side.set_fask (h0.fports p) r5.2.1.1)), ()))) else some ((p, ()), (h0, ())))) none fun r6 => (oelim (cK25 r6.2.1) none fun r7 => (oelim (cK138 r7.1.1 (r6.2.1.fports r6.1.1).freceipt) none fun r8 => some ((), ((clock_Clock.set_fports r6.2.1 (fset r6.2.1.fports r6.1.1 (clock_side.set_freceipt (r6.2.1.fports r6.1.1) r8.2.1.1)), ()), ()))))) else (oelim ((bif ieq (h0.fports p).fstate 7 then some ((p, (ieq (h0.fports p).fstate 7, ())), (h0, ())) else some ((p, (ieq (h0.fports p).fstate 4, ())), (h0, ())))) none fun r9 => (bif r9.1.2.1 then (oelim (cK25 r9.2.1) none fun r10 => (oelim (cK138 r10.1.1 (r9.2.1.fports r9.1.1).freceipt) none fun r11 => some ((), ((clock_Clock.set_fports r9.2.1 (fset r9.2.1.fports r9.1.1 (clock_side.set_freceipt (r9.2.1.fports r9.1.1) r11.2.1.1)), ()), ())))) else some ((), (r9.2, ())))))))
def K14 : K14.T := K14.gen K19 K12 K138 K25
theorem K14.eq (cK19 : K19.T) (cK12 : K12.T) (cK138 : K138.T) (cK25 : K25.T) : EqA K14.sig (K14.H cK19 cK12 cK138 cK25) Tryz.f138 6 (K14.W (K14.gen cK19 cK12 cK138 cK25)) := by intro a x; kernel_rfl
theorem K14.ok : NK_ 138 K14.sig (K14.W K14) := ok_ Tryz.func138 (K14.eq K19 K12 K138 K25) (hn_ (Z0 (Z0 (Z0 (Z0 Z2 K19.ok) K12.ok) K138.ok) K25.ok))
def K87.sig : Sig U := ⟨[.ptr], [.obj .t_median_Filter], 0, [], true, []⟩
abbrev K87.T : Type := (median_Filter) → Option (Unit × (median_Filter × Unit) × Unit)
def K87.W (f : K87.T) : K87.sig.F := fun a x => f x.1
def K87.H : Hints U := { Γ := noΓ, ro := 0, base := 14 }
def K87.gen : K87.T := fun h0 =>
 some ((), ((median_Filter.set_fn h0 0, ()), ()))
def K87 : K87.T := K87.gen
theorem K87.ok : NK_ 139 K87.sig (K87.W K87) := ok_ (H := K87.H) (n := 6) Tryz.func139 (by intro a x; kernel_rfl) (hn_ Z2)
def K17.sig : Sig U := ⟨[.ptr], [.obj .t_clock_Clock, fm6_, fm7_, fm9_, fm10_], 0, [], true, []⟩
abbrev K17.T : Type := (clock_Clock) → (Fm foreign_Table) → (Fm delay_Exchange) → (Fm median_Filter) → (Fm seq_Match) → Option (Unit × (clock_Clock × qT2_) × Unit)
def K17.W (f : K17.T) : K17.sig.F := fun a x => f x.1 x.2.1 x.2.2.1 x.2.2.2.1 x.2.2.2.2.1
def K17.L0 : Shape U := ⟨200, 17, [(0, .ptr 13 0 0), (2, .ptr 14 0 0), (3, .ptr 15 0 0), (4, .ptr 16 0 0), (5, .asl 13 23 42 8), (30, vi_), (31, vi_)], (13, .obj .t_clock_Clock) :: (14, .famZ .t_foreign_Record) :: (15, .famN true .p_t_api_Vector) :: (16, .famN true .bool) :: hT3_⟩
def K17.X0 : Exits U := [(.exit 0, ⟨200, 17, [(0, .ptr 13 0 0), (2, .ptr 14 0 0), (3, .ptr 15 0 0), (4, .ptr 16 0 0), (5, .asl 13 23 42 8)], (13, .obj .t_clock_Clock) :: (14, .famZ .t_foreign_Record) :: (15, .famN true .p_t_api_Vector) :: (16, .famN true .bool) :: hT3_⟩)]
abbrev K17.l0T : Type := (((Nat × Nat) × Int × Int × Unit) × (clock_Clock × (Nat × Nat × (Nat → foreign_Record)) × (Nat × (Nat → Option (api_Vector))) × qT6_)) → Option ((((Nat × Nat) × Unit) × (clock_Clock × (Nat × Nat × (Nat → foreign_Record)) × (Nat × (Nat → Option (api_Vector))) × qT6_)))
def K17.L1 : Shape U := ⟨200, 16, [(0, .ptr 13 0 0), (2, .ptr 14 0 0), (5, .asl 13 23 42 8), (10, .val (.isl .int)), (12, .ptr 15 0 0), (92, .val (.isl .int)), (93, vi_), (94, vi_)], (13, .obj .t_clock_Clock) :: (14, .famZ .t_foreign_Record) :: (15, .obj .t_api_Parent) :: hT3_⟩
def K17.X1 : Exits U := [(.exit 2, ⟨200, 15, [(0, .ptr 13 0 0), (5, .asl 13 23 42 8), (10, .val (.isl .int)), (12, .ptr 14 0 0)], (13, .obj .t_clock_Clock) :: (14, .obj .t_api_Parent) :: hT3_⟩)]
abbrev K17.l1T : Type := (((Nat × Nat) × (List (Int)) × (List (Int)) × Int × Int × Unit) × (clock_Clock × (Nat × Nat × (Nat → foreign_Record)) × api_Parent × qT2_)) → Option ((((Nat × Nat) × (List (Int)) × Unit) × (clock_Clock × api_Parent × qT2_)))
def K17.L2 : Shape U := ⟨200, 15, [(0, .ptr 13 0 0), (5, .asl 13 23 42 8), (12, .ptr 14 0 0), (15, vb_), (119, .val (.isl .int)), (120, vi_), (121, vi_)], (13, .obj .t_clock_Clock) :: (14, .obj .t_api_Parent) :: hT3_⟩
def K17.X2 : Exits U := [(.exit 4, ⟨200, 15, [(0, .ptr 13 0 0), (12, .ptr 14 0 0), (15, vb_)], (13, .obj .t_clock_Clock) :: (14, .obj .t_api_Parent) :: hT3_⟩)]
abbrev K17.l2T : Type := (((Nat × Nat) × Bool × (List (Int)) × Int × Int × Unit) × (clock_Clock × api_Parent × qT2_)) → Option (((Bool × Unit) × (clock_Clock × api_Parent × qT2_)))
def K17.C : Code := match Tryz.f71.body with | some c => c | none => .skip
def K17.B0 : Code := match (Z3 K17.C).getD 0 .skip with | .loop b => b | .scope b => b | _ => .skip
def K17.B1 : Code := match (Z3 K17.C).getD 1 .skip with | .loop b => b | .scope b => b | _ => .skip
def K17.B2 : Code := match (Z3 K17.C).getD 2 .skip with | .loop b => b | .scope b => b | _ => .skip
def K17.JR35 : Exits U := [(.normal, ⟨200, 15, [(0, .ptr 13 0 0), (12, .ptr 14 0 0)], (13, .obj .t_clock_Clock) :: (14, .obj .t_api_Parent) :: hT3_⟩)]
def K17.JR31 : Exits U := [(.normal, ⟨200, 15, [(0, .ptr 13 0 0), (5, .asl 13 23 42 8), (12, .ptr 14 0 0), (15, vb_), (18, .aptr 13 23 42 8 0), (119, .val (.isl .int)), (120, vi_), (121, vi_)], (13, .obj .t_clock_Clock) :: (14, .obj .t_api_Parent) :: hT3_⟩)]
def K17.JR29 : Exits U := [(.normal, ⟨200, 15, [(0, .ptr 13 0 0), (5, .asl 13 23 42 8), (12, .ptr 14 0 0), (15, vb_), (17, vi_), (18, .aptr 13 23 42 8 0), (19, vi_), (119, .val (.isl .int)), (120, vi_), (121, vi_)], (13, .obj .t_clock_Clock) :: (14, .obj .t_api_Parent) :: hT3_⟩)]
def K17.JR15 : Exits U := [(.normal, ⟨200, 16, [(0, .ptr 13 0 0), (2, .ptr 14 0 0), (5, .asl 13 23 42 8), (10, .val (.isl .int)), (12, .ptr 15 0 0)], (13, .obj .t_clock_Clock) :: (14, .famZ .t_foreign_Record) :: (15, .obj .t_api_Parent) :: hT3_⟩)]
def K17.JR10 : Exits U := [(.normal, ⟨200, 17, [(0, .ptr 13 0 0), (2, .ptr 14 0 0), (3, .ptr 15 0 0), (4, .ptr 16 0 0), (5, .asl 13 23 42 8), (6, vi_), (9, vb_), (30, vi_), (31, vi_)], (13, .obj .t_clock_Clock) :: (14, .famZ .t_foreign_Record) :: (15, .famN true .p_t_api_Vector) :: (16, .famN true .bool) :: hT3_⟩)]
def K17.JR9 : Exits U := [(.normal, ⟨200, 18, [(0, .ptr 13 0 0), (2, .ptr 14 0 0), (3, .ptr 15 0 0), (4, .ptr 16 0 0), (5, .asl 13 23 42 8), (6, vi_), (7, .aptr 13 23 42 8 0), (8, .ptr 17 0 0), (9, vb_), (30, vi_), (31, vi_)], (13, .obj .t_clock_Clock) :: (14, .famZ .t_foreign_Record) :: (15, .famN true .p_t_api_Vector) :: (16, .famN true .bool) :: (17, .obj .t_foreign_Record) :: hT3_⟩)]
def K17.JC31 : Exits U := [(.normal, ⟨200, 15, [(0, .ptr 13 0 0), (5, .asl 13 23 42 8), (12, .ptr 14 0 0), (15, vb_), (119, .val (.isl .int)), (120, vi_), (121, vi_)], (13, .obj .t_clock_Clock) :: (14, .obj .t_api_Parent) :: hT3_⟩)]
def K17.JC20 : Exits U := [(.normal, ⟨200, 16, [(0, .ptr 13 0 0), (2, .ptr 14 0 0), (5, .asl 13 23 42 8), (10, .val (.isl .int)), (12, .ptr 15 0 0), (92, .val (.isl .int)), (93, vi_), (94, vi_)], (13, .obj .t_clock_Clock) :: (14, .famZ .t_foreign_Record) :: (15, .obj .t_api_Parent) :: hT3_⟩)]
def K17.JC12 : Exits U := [(.normal, ⟨200, 17, [(0, .ptr 13 0 0), (2, .ptr 14 0 0), (3, .ptr 15 0 0), (4, .ptr 16 0 0), (5, .asl 13 23 42 8), (30, vi_), (31, vi_)], (13, .obj .t_clock_Clock) :: (14, .famZ .t_foreign_Record) :: (15, .famN true .p_t_api_Vector) :: (16, .famN true .bool) :: hT3_⟩)]
def K17.H (cK108 : K108.T) (cK59 : K59.T) (cK45 : K45.T) (cK49 : K49.T) (cK150 : K150.T) (cK149 : K149.T) (cK109 : K109.T) (cK35 : K35.T) (cK14 : K14.T) (cK87 : K87.T) (l0 : K17.l0T) (l1 : K17.l1T) (l2 : K17.l2T) : Hints U := { Γ := (addΓ 139 (K87.sig.native (K87.W cK87)) (addΓ 138 (K14.sig.native (K14.W cK14)) (addΓ 97 (K35.sig.native (K35.W cK35)) (addΓ 137 (K109.sig.native (K109.W cK109)) (addΓ 136 (K149.sig.native (K149.W cK149)) (K150.N cK150 (addΓ 134 (K49.sig.native (K49.W cK49)) (addΓ 135 (K45.sig.native (K45.W cK45)) (addΓ 133 (K59.sig.native (K59.W cK59)) (K108.N cK108 (addΓ 3000000228 Z1i (addΓ 3000000227 Z1i (addΓ 4000000213 Z1i noΓ))))))))))))), ro := 0, base := 14, joinQ := jt_ [(30, [(171, vb_)])], joinR := jt_ [(9, K17.JR9), (10, K17.JR10), (15, K17.JR15), (29, K17.JR29), (31, K17.JR31), (35, K17.JR35)], joinC := jt_ [(12, K17.JC12), (20, K17.JC20), (31, K17.JC31), (35, K17.JR35)], loop := jt_ [(5, (Za (0, 14) K17.L0 K17.X0 l0)), (17, (Za (0, 14) K17.L1 K17.X1 l1)), (24, (Za (0, 14) K17.L2 K17.X2 l2))] }
def K17.step2 (cK108 : K108.T) (cK59 : K59.T) (cK45 : K45.T) (cK49 : K49.T) (cK150 : K150.T) (cK149 : K149.T) (cK109 : K109.T) (cK35 : K35.T) (cK14 : K14.T) (cK87 : K87.T) (a : ((Nat × Nat) × Bool × (List (Int)) × Int × Int × Unit) × (clock_Clock × api_Parent × qT2_)) : Option ((((Nat × Nat) × Bool × (List (Int)) × Int × Int × Unit) × (clock_Clock × api_Parent × qT2_)) ⊕ (((Bool × Unit) × (clock_Clock × api_Parent × qT2_)))) :=
 (bif ilt a.1.2.2.2.2.1 a.1.2.2.2.1 then (bif inR a.1.2.2.2.2.1 (List.length a.1.2.2.1) then (bif inR a.1.2.2.2.2.1 a.1.1.2 then (oelim (cK108 (a.2.1.fports (a.1.1.1 + Int.toNat a.1.2.2.2.2.1)).fstate) none fun r0 => (bif !r0.1.1 then some (.inl ((a.1.1, (a.1.2.1, (a.1.2.2.1, (a.1.2.2.2.1, (iadd .i64 a.1.2.2.2.2.1 1, ()))))), a.2)) else (oelim ((oelim (cK109 (a.2.1.fports (a.1.1.1 + Int.toNat a.1.2.2.2.2.1)).fstate (List.getD a.1.2.2.1 (Int.toNat a.1.2.2.2.2.1) (0 : D UC.int)) a.1.2.1 a.2.1.fconf.fSlaveOnly) none fun r1 => some ((a.1.1, (a.1.2.1, (List.getD a.1.2.2.1 (Int.toNat a.1.2.2.2.2.1) (0 : D UC.int), (a.1.1.1 + Int.toNat a.1.2.2.2.2.1, ((a.2.1.fports (a.1.1.1 + Int.toNat a.1.2.2.2.2.1)).fstate, a.1.2.2))))), (clock_Clock.set_fports a.2.1 (fset a.2.1.fports (a.1.1.1 + Int.toNat a.1.2.2.2.2.1) (clock_side.set_fstate (a.2.1.fports (a.1.1.1 + Int.toNat a.1.2.2.2.2.1)) r1.1.1)), a.2.2)))) none fun r2 => (oelim ((bif ine (r2.2.1.fports r2.1.2.2.2.1).fstate r2.1.2.2.2.2.1 then some (true, ()) else (bif ieq (r2.2.1.fports r2.1.2.2.2.1).fstate 8 then (bif ieq r2.1.2.2.1 6 then some (!r2.1.2.1, ()) else some (false, ())) else some (false, ())))) none fun r3 => (oelim ((bif r3.1 then (oelim ((oelim (cK35 (!r2.2.1.fconf.fPeer) (r2.2.1.fports r2.1.2.2.2.1) r2.2.2.2.2.1 r2.2.2.2.2.2.2.1) none fun r4 => some ((r2.1.1, (r2.1.2.1, (r2.1.2.2.2.1, r2.1.2.2.2.2.2))), (clock_Clock.set_fports r2.2.1 (fset r2.2.1.fports r2.1.2.2.2.1 r4.2.1.1), (r2.2.2.1, (r2.2.2.2.1, (r4.2.1.2.1, (r2.2.2.2.2.2.1, r4.2.1.2.2)))))))) none fun r5 => (oelim (cK14 r5.1.2.2.1 r5.2.2.1 r5.2.1) none fun r6 => some ((r5.1.1, (r5.1.2.1, r5.1.2.2.2)), (r6.2.1.1, r5.2.2)))) else some ((r2.1.1, (r2.1.2.1, r2.1.2.2.2.2.2)), r2.2))) none fun r7 => some (.inl ((r7.1.1, (r7.1.2.1, (r7.1.2.2.1, (r7.1.2.2.2.1, (iadd .i64 r7.1.2.2.2.2.1 1, ()))))), r7.2))))))) else none) else none) else some (.inr ((a.1.2.1, ()), a.2)))
def K17.F2 : K17.l2T := fun a => Z8 (1000000 + (a.1.1.2 + a.1.2.2.1.length)) (K17.step2 K108 K59 K45 K49 K150 K149 K109 K35 K14 K87) a
def K17.step1 (cK108 : K108.T) (cK59 : K59.T) (cK45 : K45.T) (cK49 : K49.T) (cK150 : K150.T) (cK149 : K149.T) (cK109 : K109.T) (cK35 : K35.T) (cK14 : K14.T) (cK87 : K87.T) (a : ((Nat × Nat) × (List (Int)) × (List (Int)) × Int × Int × Unit) × (clock_Clock × (Nat × Nat × (Nat → foreign_Record)) × api_Parent × qT2_)) : Option ((((Nat × Nat) × (List (Int)) × (List (Int)) × Int × Int × Unit) × (clock_Clock × (Nat × Nat × (Nat → foreign_Record)) × api_Parent × qT2_)) ⊕ ((((Nat × Nat) × (List (Int)) × Unit) × (clock_Clock × api_Parent × qT2_)))) :=
 (bif ilt a.1.2.2.2.2.1 a.1.2.2.2.1 then (bif inR a.1.2.2.2.2.1 (List.length a.1.2.2.1) then (oelim ((bif ieq (List.getD a.1.2.2.1 (Int.toNat a.1.2.2.2.2.1) (0 : D UC.int)) 6 then (bif bif inR a.1.2.2.2.2.1 8 then inR a.1.2.2.2.2.1 a.2.2.1.1 else false then (bif bif inR a.1.2.2.2.2.1 8 then inR a.1.2.2.2.2.1 a.2.2.1.1 else false then (oelim (cK149 (a.2.2.1.2.2 (Int.toNat a.1.2.2.2.2.1)).fVector (a.2.2.1.2.2 (Int.toNat a.1.2.2.2.2.1)).fTimes) none fun r0 => some (a.1, (a.2.1, (a.2.2.1, (r0.1.1, a.2.2.2.2))))) else none) else none) else some a)) none fun r1 => some (.inl ((r1.1.1, (r1.1.2.1, (r1.1.2.2.1, (r1.1.2.2.2.1, (iadd .i64 r1.1.2.2.2.2.1 1, ()))))), r1.2))) else none) else some (.inr ((a.1.1, (a.1.2.1, ())), (a.2.1, a.2.2.2))))
def K17.F1 : K17.l1T := fun a => Z8 (1000000 + (a.1.1.2 + a.1.2.1.length + a.1.2.2.1.length)) (K17.step1 K108 K59 K45 K49 K150 K149 K109 K35 K14 K87) a
def K17.step0 (cK108 : K108.T) (cK59 : K59.T) (cK45 : K45.T) (cK49 : K49.T) (cK150 : K150.T) (cK149 : K149.T) (cK109 : K109.T) (cK35 : K35.T) (cK14 : K14.T) (cK87 : K87.T) (a : ((Nat × Nat) × Int × Int × Unit) × (clock_Clock × (Nat × Nat × (Nat → foreign_Record)) × (Nat × (Nat → Option (api_Vector))) × qT6_)) : Option ((((Nat × Nat) × Int × Int × Unit) × (clock_Clock × (Nat × Nat × (Nat → foreign_Record)) × (Nat × (Nat → Option (api_Vector))) × qT6_)) ⊕ ((((Nat × Nat) × Unit) × (clock_Clock × (Nat × Nat × (Nat → foreign_Record)) × (Nat × (Nat → Option (api_Vector))) × qT6_)))) :=
 (bif ilt a.1.2.2.1 a.1.2.1 then (bif inR a.1.2.2.1 a.1.1.2 then (oelim (cK108 (a.2.1.fports (a.1.1.1 + Int.toNat a.1.2.2.1)).fstate) none fun r0 => (bif !r0.1.1 then some (.inl ((a.1.1, (a.1.2.1, (iadd .i64 a.1.2.2.1 1, ()))), a.2)) else (oelim ((oelim ((a.2.1.fports (a.1.1.1 + Int.toNat a.1.2.2.1)).2) none fun r1 => (oelim (cK59 a.2.1.fticks (a.2.2.2.2.2.1.2 r1)) none fun r2 => some ((a.1.1, (a.1.2.2.1, (a.1.1.1 + Int.toNat a.1.2.2.1, (r2.1.2.1, a.1.2)))), (a.2.1, (a.2.2.1, (a.2.2.2.1, (a.2.2.2.2.1, (r2.1.1, a.2.2.2.2.2))))))))) none fun r3 => (oelim ((bif bif inR r3.1.2.1 8 then inR r3.1.2.1 r3.2.2.1.1 else false then (bif Nat.ble r3.2.2.1.2.1 (Int.toNat r3.1.2.1) then (bif bif inR r3.1.2.1 8 then inR r3.1.2.1 r3.2.2.2.2.1.1 else false then some ((r3.1.1, (r3.1.2.1, r3.1.2.2.2)), (r3.2.1, ((r3.2.2.1.1, (r3.2.2.1.2.1, fset r3.2.2.1.2.2 (Int.toNat r3.1.2.1) r3.2.2.2.2.2.1)), (r3.2.2.2.1, ((r3.2.2.2.2.1.1, fset r3.2.2.2.2.1.2 (Int.toNat r3.1.2.1) (ieq (r3.2.1.fports r3.1.2.2.1).fstate 4)), r3.2.2.2.2.2.2))))) else none) else none) else none)) none fun r4 => (oelim ((bif r4.1.2.2.1 then (bif bif inR r4.1.2.1 8 then inR r4.1.2.1 r4.2.2.1.1 else false then (bif bif inR r4.1.2.1 8 then inR r4.1.2.1 r4.2.2.2.1.1 else false then some ((r4.1.1, r4.1.2.2.2), (r4.2.1, ((r4.2.2.1.1, (Nat.max r4.2.2.1.2.1 (Int.toNat r4.1.2.1 + 1), r4.2.2.1.2.2)), ((r4.2.2.2.1.1, fset r4.2.2.2.1.2 (Int.toNat r4.1.2.1) (some (r4.2.2.1.2.2 (Int.toNat r4.1.2.1)).fVector)), r4.2.2.2.2)))) else none) else none) else some ((r4.1.1, r4.1.2.2.2), r4.2))) none fun r5 => some (.inl ((r5.1.1, (r5.1.2.1, (iadd .i64 r5.1.2.2.1 1, ()))), r5.2))))))) else none) else some (.inr ((a.1.1, ()), a.2)))
def K17.F0 : K17.l0T := fun a => Z8 (1000000 + (a.1.1.2)) (K17.step0 K108 K59 K45 K49 K150 K149 K109 K35 K14 K87) a
def K17.gen (cK108 : K108.T) (cK59 : K59.T) (cK45 : K45.T) (cK49 : K49.T) (cK150 : K150.T) (cK149 : K149.T) (cK109 : K109.T) (cK35 : K35.T) (cK14 : K14.T) (cK87 : K87.T) (l0 : K17.l0T) (l1 : K17.l1T) (l2 : K17.l2T) : K17.T := fun h0 g6 g7 g9 g10 =>
 (bif le3 (ofN 0) h0.fconf.fPorts 8 then (oelim (l0 (((Int.toNat (ofN 0), Int.toNat h0.fconf.fPorts - Int.toNat (ofN 0)), ofN (Int.toNat h0.fconf.fPorts - Int.toNat (ofN 0)), (0 : Int), ()), h0, (8, 0, fun (j : Nat) => List.getD (foreign_Record.mk z5_ z6_ 0 0 0 :: foreign_Record.mk z5_ z6_ 0 0 0 :: foreign_Record.mk z5_ z6_ 0 0 0 :: foreign_Record.mk z5_ z6_ 0 0 0 :: foreign_Record.mk z5_ z6_ 0 0 0 :: foreign_Record.mk z5_ z6_ 0 0 0 :: foreign_Record.mk z5_ z6_ 0 0 0 :: foreign_Record.mk z5_ z6_ 0 0 0 :: lnil foreign_Record) j foreign_Record.zero), (8, fun (j : Nat) => List.getD (none :: none :: none :: none :: none :: none :: none :: none :: lnil (Option api_Vector)) j none), (8, fun (j : Nat) => List.getD (false :: false :: false :: false :: false :: false :: false :: false :: lnil Bool) j false), g6, g7, g9, g10, ())) none fun r0 => (oelim (cK45 r0.2.1.fconf) none fun r1 => (bif bif le3 0 (ofN r0.1.1.2) 8 then le3 0 (ofN r0.1.1.2) r0.2.2.2.2.1.1 else false then (bif bif le3 0 (ofN r0.1.1.2) 8 then le3 0 (ofN r0.1.1.2) r0.2.2.2.1.1 else false then (oelim (cK49 r1.1.1 (List.map r0.2.2.2.2.1.2 (List.range (Int.toNat (ofN r0.1.1.2)))) (List.map r0.2.2.2.1.2 (List.range (Int.toNat (ofN r0.1.1.2))))) none fun r2 => (oelim ((oelim (cK150 r0.2.1.fconf) none fun r3 => some ((r0.1.1, (r2.1.1, ())), (r0.2.1, (r0.2.2.1, (r3.1.1, r0.2.2.2.2.2)))))) none fun r4 => (oelim (l1 ((r4.1.1, r4.1.2.1, r4.1.2.1, ofN (List.length r4.1.2.1), (0 : Int), ()), r4.2)) none fun r5 => (oelim (l2 ((r5.1.1, bif ieq r5.2.2.1.fPort.fClock r5.2.1.fparent.fPort.fClock then bif ieq r5.2.2.1.fPort.fPort r5.2.1.fparent.fPort.fPort then true else false else false, r5.1.2.1, ofN (List.length r5.1.2.1), (0 : Int), ()), r5.2)) none fun r6 => (oelim ((bif !r6.1.1 then (oelim ((oelim (r6.2.1.6) none fun r7 => (oelim (cK87 (r6.2.2.2.2.2.1.2 r7)) none fun r8 => some ((), (r6.2.1, (r6.2.2.1, (r6.2.2.2.1, (r6.2.2.2.2.1, ((r6.2.2.2.2.2.1.1, fset r6.2.2.2.2.2.1.2 r7 r8.2.1.1), r6.2.2.2.2.2.2))))))))) none fun r9 => some ((), (clock_Clock.set_fdelay r9.2.1 z4_, r9.2.2))) else some ((), r6.2))) none fun r10 => some ((), ((clock_Clock.set_fparent r10.2.1 r10.2.2.1, r10.2.2.2), ()))))))) else none) else none))) else none)
def K17 : K17.T := K17.gen K108 K59 K45 K49 K150 K149 K109 K35 K14 K87 K17.F0 K17.F1 K17.F2
theorem K17.seq2 (cK108 : K108.T) (cK59 : K59.T) (cK45 : K45.T) (cK49 : K49.T) (cK150 : K150.T) (cK149 : K149.T) (cK109 : K109.T) (cK35 : K35.T) (cK14 : K14.T) (cK87 : K87.T) (l0 : K17.l0T) (l1 : K17.l1T) (l2 : K17.l2T) (a : K17.L2.T) : run Tryz.prog (K17.H cK108 cK59 cK45 cK49 cK150 cK149 cK109 cK35 cK14 cK87 l0 l1 l2) 6 (Option (K17.L2.T ⊕ ExT K17.X2)) none K17.B2 (K17.L2.enc a) (Zn (0, 14) K17.L2 K17.X2) = K17.step2 cK108 cK59 cK45 cK49 cK150 cK149 cK109 cK35 cK14 cK87 a := by kernel_rfl
abbrev K17.h := K17.H K108 K59 K45 K49 K150 K149 K109 K35 K14 K87 K17.F0 K17.F1 K17.F2
theorem K17.lok2 : LO_ K17.h K17.B2 (Za (0, 14) K17.L2 K17.X2 K17.F2) := lk_ (hn_ (Z0 (Z0 (Z0 (Z0 (Z0 (Z0 (Z0 (Z0 (Z0 (Z0 (Z0 (Z0 (Z0 Z2 Zg) Zg) Zg) K108.ok) K59.ok) K45.ok) K49.ok) K150.ok) K149.ok) K109.ok) K35.ok) K14.ok) K87.ok)) (K17.seq2 K108 K59 K45 K49 K150 K149 K109 K35 K14 K87 K17.F0 K17.F1 K17.F2)
theorem K17.seq1 (cK108 : K108.T) (cK59 : K59.T) (cK45 : K45.T) (cK49 : K49.T) (cK150 : K150.T) (cK149 : K149.T) (cK109 : K109.T) (cK35 : K35.T) (cK14 : K14.T) (cK87 : K87.T) (l0 : K17.l0T) (l1 : K17.l1T) (l2 : K17.l2T) (a : K17.L1.T) : run Tryz.prog (K17.H cK108 cK59 cK45 cK49 cK150 cK149 cK109 cK35 cK14 cK87 l0 l1 l2) 6 (Option (K17.L1.T ⊕ ExT K17.X1)) none K17.B1 (K17.L1.enc a) (Zn (0, 14) K17.L1 K17.X1) = K17.step1 cK108 cK59 cK45 cK49 cK150 cK149 cK109 cK35 cK14 cK87 a := by kernel_rfl
theorem K17.lok1 : LO_ K17.h K17.B1 (Za (0, 14) K17.L1 K17.X1 K17.F1) := lk_ (hn_ (Z0 (Z0 (Z0 (Z0 (Z0 (Z0 (Z0 (Z0 (Z0 (Z0 (Z0 (Z0 (Z0 Z2 Zg) Zg) Zg) K108.ok) K59.ok) K45.ok) K49.ok) K150.ok) K149.ok) K109.ok) K35.ok) K14.ok) K87.ok)) (K17.seq1 K108 K59 K45 K49 K150 K149 K109 K35 K14 K87 K17.F0 K17.F1 K17.F2)
theorem K17.seq0 (cK108 : K108.T) (cK59 : K59.T) (cK45 : K45.T) (cK49 : K49.T) (cK150 : K150.T) (cK149 : K149.T) (cK109 : K109.T) (cK35 : K35.T) (cK14 : K14.T) (cK87 : K87.T) (l0 : K17.l0T) (l1 : K17.l1T) (l2 : K17.l2T) (a : K17.L0.T) : run Tryz.prog (K17.H cK108 cK59 cK45 cK49 cK150 cK149 cK109 cK35 cK14 cK87 l0 l1 l2) 6 (Option (K17.L0.T ⊕ ExT K17.X0)) none K17.B0 (K17.L0.enc a) (Zn (0, 14) K17.L0 K17.X0) = K17.step0 cK108 cK59 cK45 cK49 cK150 cK149 cK109 cK35 cK14 cK87 a := by kernel_rfl
theorem K17.lok0 : LO_ K17.h K17.B0 (Za (0, 14) K17.L0 K17.X0 K17.F0) := lk_ (hn_ (Z0 (Z0 (Z0 (Z0 (Z0 (Z0 (Z0 (Z0 (Z0 (Z0 (Z0 (Z0 (Z0 Z2 Zg) Zg) Zg) K108.ok) K59.ok) K45.ok) K49.ok) K150.ok) K149.ok) K109.ok) K35.ok) K14.ok) K87.ok)) (K17.seq0 K108 K59 K45 K49 K150 K149 K109 K35 K14 K87 K17.F0 K17.F1 K17.F2)
theorem K17.eq (cK108 : K108.T) (cK59 : K59.T) (cK45 : K45.T) (cK49 : K49.T) (cK150 : K150.T) (cK149 : K149.T) (cK109 : K109.T) (cK35 : K35.T) (cK14 : K14.T) (cK87 : K87.T) (l0 : K17.l0T) (l1 : K17.l1T) (l2 : K17.l2T) : EqA K17.sig (K17.H cK108 cK59 cK45 cK49 cK150 cK149 cK109 cK35 cK14 cK87 l0 l1 l2) Tryz.f71 6 (K17.W (K17.gen cK108 cK59 cK45 cK49 cK150 cK149 cK109 cK35 cK14 cK87 l0 l1 l2)) := by intro a x; kernel_rfl
theorem K17.loops : Z3 K17.C = [(.loop K17.B0), (.loop K17.B1), (.loop K17.B2)] := by kernel_rfl
theorem K17.ok : NK_ 71 K17.sig (K17.W K17) := ok_ Tryz.func71 (K17.eq K108 K59 K45 K49 K150 K149 K109 K35 K14 K87 K17.F0 K17.F1 K17.F2) (hl_ (Z0 (Z0 (Z0 (Z0 (Z0 (Z0 (Z0 (Z0 (Z0 (Z0 (Z0 (Z0 (Z0 Z2 Zg) Zg) Zg) K108.ok) K59.ok) K45.ok) K49.ok) K150.ok) K149.ok) K109.ok) K35.ok) K14.ok) K87.ok) (Z9 (by kernel_rfl) K17.lok0 (Z9 (by kernel_rfl) K17.lok1 (Z9 (by kernel_rfl) K17.lok2 Z6)))) K17.loops
def K151.sig : Sig U := ⟨[.data .t_api_Conf, .data .t_api_Parent, .int .i64, .int .i64], [], 0, [.data .t_api_Msg], false, []⟩
abbrev K151.T : Type := (api_Conf) → (api_Parent) → (Int) → (Int) → Option ((api_Msg × Unit) × Unit × Unit)
def K151.W (f : K151.T) : K151.sig.F := fun a x => f a.1 a.2.1 a.2.2.1 a.2.2.2.1
def K151.H : Hints U := { Γ := noΓ, ro := 0, base := 13 }
def K151.gen : K151.T := fun c p port seq =>
 some ((api_Msg.mk 11 c.fDomain p.fTimes.fFlags 0 (api_PortID.mk c.fClock port) seq c.fLogAnn 0 z0_ p.fTimes.fUtc p.fPriority1 p.fQuality p.fPriority2 p.fGrand p.fSteps p.fTimes.fOrigin 0 0 0, ()), ((), ()))
def K151 : K151.T := K151.gen
theorem K151.ok : NK_ 140 K151.sig (K151.W K151) := ok_ (H := K151.H) (n := 6) Tryz.func140 (by intro a x; kernel_rfl) (hn_ Z2)
def K93.sig : Sig U := ⟨[.isl .u8, .int .i64, .int .i64], [], 0, [.own .u8], false, [.tok]⟩
abbrev K93.T : Type := (List (UInt8)) → (Int) → (Int) → Option (((List (UInt8)) × Unit) × Unit × (Unit × Unit))
def K93.W (f : K93.T) : K93.sig.F := fun a x => f a.1 a.2.1 a.2.2.1
abbrev K93.N (c : K93.T) := addΓ 100 (K93.sig.native (K93.W c))
def K93.L0 : Shape U := ⟨30, 14, [(0, .own .u8 13), (1, vi_), (7, vi_)], [(13, .tok)]⟩
def K93.X0 : Exits U := [(.ret, ⟨30, 14, [(6, .own .u8 13)], [(13, .tok)]⟩)]
abbrev K93.l0T : Type := (((List (UInt8)) × Int × Int × Unit) × Unit) → Option ((((List (UInt8)) × Unit) × Unit))
def K93.C : Code := match Tryz.f100.body with | some c => c | none => .skip
def K93.B0 : Code := match (Z3 K93.C).getD 0 .skip with | .loop b => b | .scope b => b | _ => .skip
def K93.R0 : Code := (findLabel K93.B0 0).getD .skip
def K93.H (l0 : K93.l0T) : Hints U := { Γ := (addΓ 6000000029 Z1i noΓ), ro := 0, base := 13, label := fun b => bif Nat.beq b 0 then some (Za (0, 13) K93.L0 K93.X0 l0) else none, gotos := 3, loop := fun b => none }
def K93.step0 (a : ((List (UInt8)) × Int × Int × Unit) × Unit) : Option ((((List (UInt8)) × Int × Int × Unit) × Unit) ⊕ ((((List (UInt8)) × Unit) × Unit))) :=
 (bif ilt 0 a.1.2.2.1 then (bif ile 0 (imul .i64 8 (isub .i64 a.1.2.2.1 1)) then (bif room (List.length a.1.1 + List.length (UInt8.ofNat (Int.toNat (IntKind.wrap .u8 (ishr .i64 a.1.2.1 (imul .i64 8 (isub .i64 a.1.2.2.1 1))))) :: lnil UInt8)) 1 then some (.inl ((a.1.1 ++ UInt8.ofNat (Int.toNat (IntKind.wrap .u8 (ishr .i64 a.1.2.1 (imul .i64 8 (isub .i64 a.1.2.2.1 1))))) :: lnil UInt8, (a.1.2.1, (isub .i64 a.1.2.2.1 1, ()))), ())) else none) else none) else some (.inr ((a.1.1, ()), ())))
def K93.F0 : K93.l0T := fun a => Z8 (1000000 + (a.1.1.length)) (K93.step0) a
def K93.gen (l0 : K93.l0T) : K93.T := fun b v n =>
 (bif bif le3 (ofN 0) (ofN (List.length b)) (List.length b) then ieq (ofN (List.length b)) (ofN (List.length b)) else false then (bif ilt 0 (Z4 true 0 (Z4 false n 8)) then (bif ile 0 (imul .i64 8 (isub .i64 (Z4 true 0 (Z4 false n 8)) 1)) then (bif room (List.length (List.drop (Int.toNat (ofN 0)) (List.take (Int.toNat (ofN (List.length b))) b)) + List.length (UInt8.ofNat (Int.toNat (IntKind.wrap .u8 (ishr .i64 v (imul .i64 8 (isub .i64 (Z4 true 0 (Z4 false n 8)) 1))))) :: lnil UInt8)) 1 then (oelim (l0 ((List.drop (Int.toNat (ofN 0)) (List.take (Int.toNat (ofN (List.length b))) b) ++ UInt8.ofNat (Int.toNat (IntKind.wrap .u8 (ishr .i64 v (imul .i64 8 (isub .i64 (Z4 true 0 (Z4 false n 8)) 1))))) :: lnil UInt8, v, isub .i64 (Z4 true 0 (Z4 false n 8)) 1, ()), ())) none fun r0 => some (r0.1, ((), ((), ())))) else none) else none) else some ((List.drop (Int.toNat (ofN 0)) (List.take (Int.toNat (ofN (List.length b))) b), ()), ((), ((), ())))) else none)
def K93 : K93.T := K93.gen K93.F0
theorem K93.seq0 (l0 : K93.l0T) (a : K93.L0.T) : run Tryz.prog (K93.H l0) 6 (Option (K93.L0.T ⊕ ExT K93.X0)) none K93.R0 (K93.L0.enc a) (Z2J (0, 13) 0 K93.L0 K93.X0) = K93.step0 a := by kernel_rfl
theorem K93.inner0 : Z3 K93.R0 = ([] : List Code) := by kernel_rfl
abbrev K93.h := K93.H K93.F0
theorem K93.lok0 : ZQ U Tryz.prog K93.h.ro K93.h.base K93.B0 K93.R0 (Za (0, 13) K93.L0 K93.X0 K93.F0) :=
 Z6h (Hn := K93.h) (lb := 0) U_ok U_pure (Z2k (Z11 U_ok U_pure mixed (Z0 Z2 Zg) Z6 Z20 (Z27 fun _ => rfl)) 6) (by kernel_rfl) (fun b h => by rw [K93.inner0] at h; exact h) (fun _ => rfl) (K93.seq0 K93.F0)
theorem K93.eq (l0 : K93.l0T) : EqA K93.sig (K93.H l0) Tryz.f100 6 (K93.W (K93.gen l0)) := by intro a x; kernel_rfl
theorem K93.loops : Z3 K93.C = [(.scope K93.B0)] := by kernel_rfl
theorem K93.hints : HintsOK U Tryz.prog K93.h (fun c => c ∈ [(.scope K93.B0)]) := (Z11 U_ok U_pure mixed (Z0 Z2 Zg) (Zx Z6) (Z50 (Z6w (r0 := K93.R0) (l0 := 0) (by kernel_rfl) (fun _ => rfl) K93.lok0) Z20) (Z27 fun _ => rfl))
theorem K93.ok : Zw U Tryz.prog 100 (K93.sig.native (K93.W K93)) :=
 Sig.ok K93.sig (K93.W K93) U_pure (Hn := K93.h) (code := K93.C) (gos := 6) K93.hints Tryz.func100 (by kernel_rfl) (by kernel_rfl) (fun b h => by rw [K93.loops] at h; exact h) rfl rfl (by decide) (K93.eq K93.F0) (by decide)
def K94.sig : Sig U := ⟨[.isl .u8, .int .u64], [], 0, [.isl .u8], false, []⟩
abbrev K94.T : Type := (List (UInt8)) → (Int) → Option (((List (UInt8)) × Unit) × Unit × Unit)
def K94.W (f : K94.T) : K94.sig.F := fun a x => f a.1 a.2.1
abbrev K94.N (c : K94.T) := addΓ 116 (K94.sig.native (K94.W c))
def K94.H (cK93 : K93.T) : Hints U := { Γ := (K93.N cK93 noΓ), ro := 0, base := 13 }
def K94.gen (cK93 : K93.T) : K94.T := fun b v =>
 (oelim (cK93 b (IntKind.wrap .i64 v) 8) none fun r0 => some (r0.1, ((), ())))
def K94 : K94.T := K94.gen K93
theorem K94.eq (cK93 : K93.T) : EqA K94.sig (K94.H cK93) Tryz.f116 6 (K94.W (K94.gen cK93)) := by intro a x; kernel_rfl
theorem K94.ok : NK_ 116 K94.sig (K94.W K94) := ok_ Tryz.func116 (K94.eq K93) (hn_ (Z0 Z2 K93.ok))
def K145.sig : Sig U := ⟨[.isl .u64], [], 0, [.data .t_api_Tlv, .bool], true, []⟩
abbrev K145.T : Type := (List (Int)) → Option ((api_Tlv × Bool × Unit) × Unit × Unit)
def K145.W (f : K145.T) : K145.sig.F := fun a x => f a.1
def K145.L0 : Shape U := ⟨24, 14, [(2, .ptr 13 0 0), (4, .val (.isl .u8)), (11, .val (.isl .u64)), (12, vi_), (13, vi_)], [(13, .obj .t_api_Tlv)]⟩
def K145.X0 : Exits U := [(.exit 0, ⟨24, 14, [(2, .ptr 13 0 0), (4, .val (.isl .u8))], [(13, .obj .t_api_Tlv)]⟩)]
abbrev K145.l0T : Type := (((List (UInt8)) × (List (Int)) × Int × Int × Unit) × (api_Tlv × Unit)) → Option ((((List (UInt8)) × Unit) × (api_Tlv × Unit)))
def K145.C : Code := match Tryz.f180.body with | some c => c | none => .skip
def K145.B0 : Code := match (Z3 K145.C).getD 0 .skip with | .loop b => b | .scope b => b | _ => .skip
def K145.H (cK94 : K94.T) (l0 : K145.l0T) : Hints U := { Γ := (K94.N cK94 noΓ), ro := 0, base := 13, loop := jt_ [(5, (Za (0, 13) K145.L0 K145.X0 l0))] }
def K145.step0 (cK94 : K94.T) (a : ((List (UInt8)) × (List (Int)) × Int × Int × Unit) × (api_Tlv × Unit)) : Option ((((List (UInt8)) × (List (Int)) × Int × Int × Unit) × (api_Tlv × Unit)) ⊕ ((((List (UInt8)) × Unit) × (api_Tlv × Unit)))) :=
 (bif ilt a.1.2.2.2.1 a.1.2.2.1 then (bif inR a.1.2.2.2.1 (List.length a.1.2.1) then (oelim (cK94 a.1.1 (List.getD a.1.2.1 (Int.toNat a.1.2.2.2.1) (0 : D UC.u64))) none fun r0 => some (.inl ((r0.1.1, (a.1.2.1, (a.1.2.2.1, (iadd .i64 a.1.2.2.2.1 1, ())))), a.2))) else none) else some (.inr ((a.1.1, ()), a.2)))
def K145.F0 : K145.l0T := fun a => Z8 (1000000 + (a.1.1.length + a.1.2.1.length)) (K145.step0 K94) a
def K145.gen (cK94 : K94.T) (l0 : K145.l0T) : K145.T := fun l =>
 (bif ilt 16 (ofN (List.length l)) then some ((api_Tlv.mk 0 (ByteArray.mk (List.toArray (lnil UInt8))), (false, ())), ((), ())) else (oelim (l0 ((lnil UInt8, l, ofN (List.length l), (0 : Int), ()), api_Tlv.mk 0 (ByteArray.mk (List.toArray (lnil UInt8))), ())) none fun r0 => some ((api_Tlv.mk 8 (ByteArray.mk (List.toArray r0.1.1)), (true, ())), ((), ()))))
def K145 : K145.T := K145.gen K94 K145.F0
theorem K145.seq0 (cK94 : K94.T) (l0 : K145.l0T) (a : K145.L0.T) : run Tryz.prog (K145.H cK94 l0) 6 (Option (K145.L0.T ⊕ ExT K145.X0)) none K145.B0 (K145.L0.enc a) (Zn (0, 13) K145.L0 K145.X0) = K145.step0 cK94 a := by kernel_rfl
abbrev K145.h := K145.H K94 K145.F0
theorem K145.lok0 : LO_ K145.h K145.B0 (Za (0, 13) K145.L0 K145.X0 K145.F0) := lk_ (hn_ (Z0 Z2 K94.ok)) (K145.seq0 K94 K145.F0)
theorem K145.eq (cK94 : K94.T) (l0 : K145.l0T) : EqA K145.sig (K145.H cK94 l0) Tryz.f180 6 (K145.W (K145.gen cK94 l0)) := by intro a x; kernel_rfl
theorem K145.loops : Z3 K145.C = [(.loop K145.B0)] := by kernel_rfl
theorem K145.ok : NK_ 180 K145.sig (K145.W K145) := ok_ Tryz.func180 (K145.eq K94 K145.F0) (hl_ (Z0 Z2 K94.ok) (Z9 (by kernel_rfl) K145.lok0 Z6)) K145.loops
def K24.sig : Sig U := ⟨[.ptr], [.obj .t_clock_Clock, .fam 12 (.map true false .t_api_PortID .l_u64)], 2, [.isl .t_api_Tlv], false, []⟩
abbrev K24.T : Type := (clock_Clock) → (Nat × (Nat → List (api_PortID × List (Int)))) → Option (((List (api_Tlv)) × Unit) × Unit × Unit)
def K24.W (f : K24.T) : K24.sig.F := fun a x => f x.1 x.2.1
def K24.L1 : Shape U := ⟨65, 14, [(0, .ptr 13 0 0), (3, .full .u64), (24, vi_), (25, vi_)], [(13, .obj .t_clock_Clock), (12, .mfam true false .t_api_PortID .l_u64)]⟩
def K24.X1 : Exits U := [(.exit 0, ⟨65, 15, [(0, .ptr 13 0 0), (3, .own .u64 14)], [(13, .obj .t_clock_Clock), (14, .tok), (12, .mfam true false .t_api_PortID .l_u64)]⟩)]
abbrev K24.l1T : Type := (((List (Int)) × Int × Int × Unit) × (clock_Clock × (Nat × (Nat → List (api_PortID × List (Int)))) × Unit)) → Option ((((List (Int)) × Unit) × (clock_Clock × (Nat × (Nat → List (api_PortID × List (Int)))) × Unit)))
def K24.C : Code := match Tryz.f141.body with | some c => c | none => .skip
def K24.B0 : Code := match (Z3 K24.C).getD 0 .skip with | .loop b => b | .scope b => b | _ => .skip
def K24.B1 : Code := match (Z3 K24.C).getD 1 .skip with | .loop b => b | .scope b => b | _ => .skip
def K24.JR11 : Exits U := [(.normal, ⟨65, 15, [(7, .ptr 14 0 0), (8, vb_)], [(13, .obj .t_clock_Clock), (14, .obj .t_api_Tlv), (12, .mfam true false .t_api_PortID .l_u64)]⟩)]
def K24.H (cK145 : K145.T) (l1 : K24.l1T) : Hints U := { Γ := (addΓ 180 (K145.sig.native (K145.W cK145)) (addΓ 5000000021 Z1i noΓ)), ro := 14, base := 14, joinR := jt_ [(11, K24.JR11)], loop := jt_ [(5, (Za (14, 14) K24.L1 K24.X1 l1))] }
def K24.step1 (cK145 : K145.T) (a : ((List (Int)) × Int × Int × Unit) × (clock_Clock × (Nat × (Nat → List (api_PortID × List (Int)))) × Unit)) : Option ((((List (Int)) × Int × Int × Unit) × (clock_Clock × (Nat × (Nat → List (api_PortID × List (Int)))) × Unit)) ⊕ ((((List (Int)) × Unit) × (clock_Clock × (Nat × (Nat → List (api_PortID × List (Int)))) × Unit)))) :=
 (bif ilt a.1.2.2.1 a.1.2.1 then (bif inR a.1.2.2.1 8 then (oelim ((oelim ((a.2.1.fports (Int.toNat a.1.2.2.1)).3) none fun r0 => ((@Z3c U Go.Proofs.Tryz.prog 31 UC.t_api_PortID UC.l_u64 (a.2.1.fparent.fPort) (a.2.2.1.2 r0)) : Option (Option (List Int))))) none fun (r1 : Option (List Int)) => (bif Option.isSome r1 then (bif room (List.length a.1.1 + List.length (Option.getD r1 (lnil Int))) 8 then some (.inr ((a.1.1 ++ Option.getD r1 (lnil Int), ()), a.2)) else none) else some (.inl ((a.1.1, (a.1.2.1, (iadd .i64 a.1.2.2.1 1, ()))), a.2)))) else none) else some (.inr ((a.1.1, ()), a.2)))
def K24.F1 : K24.l1T := fun a => Z8 (1000000 + (a.1.1.length)) (K24.step1 K145) a
def K24.gen (cK145 : K145.T) (l1 : K24.l1T) : K24.T := fun h0 g12 =>
 (bif !h0.fconf.fTrace then some ((lnil api_Tlv, ()), ((), ())) else (bif le3 (ofN 0) h0.fconf.fPorts 8 then (oelim (l1 ((lnil Int, ofN (Int.toNat h0.fconf.fPorts - Int.toNat (ofN 0)), (0 : Int), ()), h0, g12, ())) none fun r0 => (oelim ((bif room (List.length r0.1.1 + List.length (r0.2.1.fconf.fClock :: lnil Int)) 8 then (oelim (cK145 (r0.1.1 ++ r0.2.1.fconf.fClock :: lnil Int)) none fun r1 => some (r1.1.2, (r0.2.1, (r1.1.1, r0.2.2)))) else none)) none fun r2 => (bif !r2.1.1 then some ((lnil api_Tlv, ()), ((), ())) else some ((r2.2.2.1 :: lnil api_Tlv, ()), ((), ()))))) else none))
def K24 : K24.T := K24.gen K145 K24.F1
theorem K24.seq1 (cK145 : K145.T) (l1 : K24.l1T) (a : K24.L1.T) : run Tryz.prog (K24.H cK145 l1) 6 (Option (K24.L1.T ⊕ ExT K24.X1)) none K24.B1 (K24.L1.enc a) (Zn (14, 14) K24.L1 K24.X1) = K24.step1 cK145 a := by kernel_rfl
abbrev K24.h := K24.H K145 K24.F1
theorem K24.lok1 : LO_ K24.h K24.B1 (Za (14, 14) K24.L1 K24.X1 K24.F1) := lk_ (hn_ (Z0 (Z0 Z2 Zg) K145.ok)) (K24.seq1 K145 K24.F1)
theorem K24.eq (cK145 : K145.T) (l1 : K24.l1T) : EqA K24.sig (K24.H cK145 l1) Tryz.f141 6 (K24.W (K24.gen cK145 l1)) := by intro a x; kernel_rfl
theorem K24.loops : Z3 K24.C = [(.scope K24.B0), (.loop K24.B1)] := by kernel_rfl
theorem K24.ok : NK_ 141 K24.sig (K24.W K24) := ok_ Tryz.func141 (K24.eq K145 K24.F1) (hl_ (Z0 (Z0 Z2 Zg) K145.ok) (Zx (Z9 (by kernel_rfl) K24.lok1 Z6))) K24.loops
def K70.sig : Sig U := ⟨[.int .i64], [], 0, [.bool], false, []⟩
abbrev K70.T : Type := (Int) → Option ((Bool × Unit) × Unit × Unit)
def K70.W (f : K70.T) : K70.sig.F := fun a x => f a.1
def K70.JC7 : Exits U := [(.normal, ⟨16, 13, [(9, vb_)], []⟩)]
def K70.JC3 : Exits U := [(.normal, ⟨16, 13, [(3, vi_), (4, vb_)], []⟩)]
def K70.H : Hints U := { Γ := noΓ, ro := 0, base := 13, joinC := jt_ [(3, K70.JC3), (7, K70.JC7)] }
def K70.gen : K70.T := fun typ =>
 (oelim ((bif ieq typ 0 then some ((typ, (ieq typ 0, ())), ()) else (bif ieq typ 1 then some ((typ, (ieq typ 1, ())), ()) else (bif ieq typ 2 then some ((typ, (ieq typ 2, ())), ()) else some ((typ, (ieq typ 3, ())), ()))))) none fun r0 => (bif r0.1.2.1 then some ((true, ()), ((), ())) else (oelim ((bif ieq r0.1.1 8 then some ((ieq r0.1.1 8, ()), ()) else (bif ieq r0.1.1 9 then some ((ieq r0.1.1 9, ()), ()) else (bif ieq r0.1.1 10 then some ((ieq r0.1.1 10, ()), ()) else (bif ieq r0.1.1 11 then some ((ieq r0.1.1 11, ()), ()) else (bif ieq r0.1.1 12 then some ((ieq r0.1.1 12, ()), ()) else some ((ieq r0.1.1 13, ()), ()))))))) none fun r1 => (bif r1.1.1 then some ((true, ()), ((), ())) else some ((false, ()), ((), ()))))))
def K70 : K70.T := K70.gen
theorem K70.ok : NK_ 102 K70.sig (K70.W K70) := ok_ (H := K70.H) (n := 6) Tryz.func102 (by intro a x; kernel_rfl) (hn_ Z2)
def K73.sig : Sig U := ⟨[.int .i64, .int .i64, .int .i64], [], 0, [.bool], false, []⟩
abbrev K73.T : Type := (Int) → (Int) → (Int) → Option ((Bool × Unit) × Unit × Unit)
def K73.W (f : K73.T) : K73.sig.F := fun a x => f a.1 a.2.1 a.2.2.1
abbrev K73.N (c : K73.T) := addΓ 103 (K73.sig.native (K73.W c))
def K73.H : Hints U := { Γ := noΓ, ro := 0, base := 13 }
def K73.gen : K73.T := fun v least most =>
 (bif ile least v then some ((ile v most, ()), ((), ())) else some ((false, ()), ((), ())))
def K73 : K73.T := K73.gen
theorem K73.ok : NK_ 103 K73.sig (K73.W K73) := ok_ (H := K73.H) (n := 6) Tryz.func103 (by intro a x; kernel_rfl) (hn_ Z2)
def K76.sig : Sig U := ⟨[.data .t_api_PortID], [], 0, [.bool], false, []⟩
abbrev K76.T : Type := (api_PortID) → Option ((Bool × Unit) × Unit × Unit)
def K76.W (f : K76.T) : K76.sig.F := fun a x => f a.1
def K76.H : Hints U := { Γ := noΓ, ro := 0, base := 13 }
def K76.gen : K76.T := fun p =>
 (bif ile 0 p.fPort then some ((ile p.fPort 65535, ()), ((), ())) else some ((false, ()), ((), ())))
def K76 : K76.T := K76.gen
theorem K76.ok : NK_ 170 K76.sig (K76.W K76) := ok_ (H := K76.H) (n := 6) Tryz.func170 (by intro a x; kernel_rfl) (hn_ Z2)
def K68.sig : Sig U := ⟨[.data .t_api_Msg], [], 0, [.bool], false, []⟩
abbrev K68.T : Type := (api_Msg) → Option ((Bool × Unit) × Unit × Unit)
def K68.W (f : K68.T) : K68.sig.F := fun a x => f a.1
def K68.H (cK70 : K70.T) (cK73 : K73.T) (cK76 : K76.T) : Hints U := { Γ := (addΓ 170 (K76.sig.native (K76.W cK76)) (K73.N cK73 (addΓ 102 (K70.sig.native (K70.W cK70)) noΓ))), ro := 0, base := 13 }
def K68.gen (cK70 : K70.T) (cK73 : K73.T) (cK76 : K76.T) : K68.T := fun m =>
 (oelim (cK70 m.fType) none fun r0 => (bif r0.1.1 then (oelim (cK73 m.fDomain 0 255) none fun r1 => (bif r1.1.1 then (oelim (cK73 m.fFlags 0 65535) none fun r2 => (bif r2.1.1 then (oelim (cK76 m.fSource) none fun r3 => (bif r3.1.1 then (oelim (cK73 m.fSeq 0 65535) none fun r4 => (bif r4.1.1 then (oelim (cK73 m.fLog (-128) 127) none fun r5 => some (r5.1, ((), ()))) else some ((false, ()), ((), ())))) else some ((false, ()), ((), ())))) else some ((false, ()), ((), ())))) else some ((false, ()), ((), ())))) else some ((false, ()), ((), ()))))
def K68 : K68.T := K68.gen K70 K73 K76
theorem K68.eq (cK70 : K70.T) (cK73 : K73.T) (cK76 : K76.T) : EqA K68.sig (K68.H cK70 cK73 cK76) Tryz.f118 6 (K68.W (K68.gen cK70 cK73 cK76)) := by intro a x; kernel_rfl
theorem K68.ok : NK_ 118 K68.sig (K68.W K68) := ok_ Tryz.func118 (K68.eq K70 K73 K76) (hn_ (Z0 (Z0 (Z0 Z2 K70.ok) K73.ok) K76.ok))
def K6.sig : Sig U := ⟨[.int .i64], [], 0, [.bool], false, []⟩
abbrev K6.T : Type := (Int) → Option ((Bool × Unit) × Unit × Unit)
def K6.W (f : K6.T) : K6.sig.F := fun a x => f a.1
abbrev K6.N (c : K6.T) := addΓ 107 (K6.sig.native (K6.W c))
def K6.H : Hints U := { Γ := noΓ, ro := 0, base := 13 }
def K6.gen : K6.T := fun typ =>
 (bif ine typ 12 then some ((ine typ 13, ()), ((), ())) else some ((false, ()), ((), ())))
def K6 : K6.T := K6.gen
theorem K6.ok : NK_ 107 K6.sig (K6.W K6) := ok_ (H := K6.H) (n := 6) Tryz.func107 (by intro a x; kernel_rfl) (hn_ Z2)
def K7.sig : Sig U := ⟨[.int .i64], [], 0, [.bool], false, []⟩
abbrev K7.T : Type := (Int) → Option ((Bool × Unit) × Unit × Unit)
def K7.W (f : K7.T) : K7.sig.F := fun a x => f a.1
abbrev K7.N (c : K7.T) := addΓ 109 (K7.sig.native (K7.W c))
def K7.JC3 : Exits U := [(.normal, ⟨10, 13, [(4, vb_)], []⟩)]
def K7.H : Hints U := { Γ := noΓ, ro := 0, base := 13, joinC := jt_ [(3, K7.JC3)] }
def K7.gen : K7.T := fun typ =>
 (oelim ((bif ieq typ 9 then some ((ieq typ 9, ()), ()) else (bif ieq typ 3 then some ((ieq typ 3, ()), ()) else (bif ieq typ 10 then some ((ieq typ 10, ()), ()) else (bif ieq typ 12 then some ((ieq typ 12, ()), ()) else some ((ieq typ 13, ()), ())))))) none fun r0 => (bif r0.1.1 then some ((true, ()), ((), ())) else some ((false, ()), ((), ()))))
def K7 : K7.T := K7.gen
theorem K7.ok : NK_ 109 K7.sig (K7.W K7) := ok_ (H := K7.H) (n := 6) Tryz.func109 (by intro a x; kernel_rfl) (hn_ Z2)
def K5.sig : Sig U := ⟨[.data .t_api_Msg], [], 0, [.data .t_api_Msg], false, []⟩
abbrev K5.T : Type := (api_Msg) → Option ((api_Msg × Unit) × Unit × Unit)
def K5.W (f : K5.T) : K5.sig.F := fun a x => f a.1
def K5.JC8 : Exits U := [(.normal, ⟨68, 15, [(2, .ptr 13 0 0), (3, .ptr 14 0 0)], [(13, .obj .t_api_Msg), (14, .obj .t_api_Msg)]⟩)]
def K5.JC5 : Exits U := [(.normal, ⟨68, 16, [(1, .ptr 13 0 0), (2, .ptr 14 0 0), (3, .ptr 15 0 0)], [(13, .obj .t_api_Msg), (14, .obj .t_api_Msg), (15, .obj .t_api_Msg)]⟩)]
def K5.H (cK6 : K6.T) (cK7 : K7.T) : Hints U := { Γ := (K7.N cK7 (K6.N cK6 noΓ)), ro := 0, base := 13, joinC := jt_ [(3, K5.JC5), (5, K5.JC5), (8, K5.JC8)] }
def K5.gen (cK6 : K6.T) (cK7 : K7.T) : K5.T := fun m =>
 (oelim (cK6 m.fType) none fun r0 => (oelim ((bif r0.1.1 then some ((), (m, (api_Msg.mk 0 0 0 0 z0_ 0 0 0 z0_ 0 0 z1_ 0 0 0 0 0 0 0, (api_Msg.mk m.fType m.fDomain m.fFlags m.fCorr m.fSource m.fSeq m.fLog m.fStamp z0_ 0 0 z1_ 0 0 0 0 0 0 0, ())))) else some ((), (m, (api_Msg.mk 0 0 0 0 z0_ 0 0 0 z0_ 0 0 z1_ 0 0 0 0 0 0 0, (api_Msg.mk m.fType m.fDomain m.fFlags m.fCorr m.fSource m.fSeq m.fLog 0 z0_ 0 0 z1_ 0 0 0 0 0 0 0, ())))))) none fun r1 => (oelim (cK7 r1.2.1.fType) none fun r2 => (oelim ((bif r2.1.1 then some ((), (r1.2.1, (r1.2.2.1, (api_Msg.set_fTarget r1.2.2.2.1 r1.2.1.fTarget, ())))) else some ((), r1.2))) none fun r3 => (oelim ((bif ieq r3.2.1.fType 11 then some ((), (r3.2.2.1, (api_Msg.set_fOrigin (api_Msg.set_fSteps (api_Msg.set_fGrand (api_Msg.set_fPriority2 (api_Msg.set_fQuality (api_Msg.set_fPriority1 (api_Msg.set_fUtc r3.2.2.2.1 r3.2.1.fUtc) r3.2.1.fPriority1) r3.2.1.fQuality) r3.2.1.fPriority2) r3.2.1.fGrand) r3.2.1.fSteps) r3.2.1.fOrigin, ()))) else (bif ieq r3.2.1.fType 13 then some ((), (r3.2.2.1, (api_Msg.set_fAction (api_Msg.set_fHops (api_Msg.set_fStartHops r3.2.2.2.1 r3.2.1.fStartHops) r3.2.1.fHops) r3.2.1.fAction, ()))) else some ((), r3.2.2)))) none fun r4 => some (r4.2.2, ((), ())))))))
def K5 : K5.T := K5.gen K6 K7
theorem K5.eq (cK6 : K6.T) (cK7 : K7.T) : EqA K5.sig (K5.H cK6 cK7) Tryz.f169 6 (K5.W (K5.gen cK6 cK7)) := by intro a x; kernel_rfl
theorem K5.ok : NK_ 169 K5.sig (K5.W K5) := ok_ Tryz.func169 (K5.eq K6 K7) (hn_ (Z0 (Z0 Z2 K6.ok) K7.ok))
def K133.sig : Sig U := ⟨[.int .i64], [], 0, [.bool], false, []⟩
abbrev K133.T : Type := (Int) → Option ((Bool × Unit) × Unit × Unit)
def K133.W (f : K133.T) : K133.sig.F := fun a x => f a.1
abbrev K133.N (c : K133.T) := addΓ 151 (K133.sig.native (K133.W c))
def K133.H : Hints U := { Γ := noΓ, ro := 0, base := 13 }
def K133.gen : K133.T := fun t =>
 (bif ile 0 t then some ((ile t 4000000000000000, ()), ((), ())) else some ((false, ()), ((), ())))
def K133 : K133.T := K133.gen
theorem K133.ok : NK_ 151 K133.sig (K133.W K133) := ok_ (H := K133.H) (n := 6) Tryz.func151 (by intro a x; kernel_rfl) (hn_ Z2)
def K4.sig : Sig U := ⟨[.int .i64, .int .i64, .int .i64], [], 0, [.bool], false, []⟩
abbrev K4.T : Type := (Int) → (Int) → (Int) → Option ((Bool × Unit) × Unit × Unit)
def K4.W (f : K4.T) : K4.sig.F := fun a x => f a.1 a.2.1 a.2.2.1
def K4.H : Hints U := { Γ := noΓ, ro := 0, base := 13 }
def K4.gen : K4.T := fun v least most =>
 (bif ile least v then some ((ile v most, ()), ((), ())) else some ((false, ()), ((), ())))
def K4 : K4.T := K4.gen
theorem K4.ok : NK_ 171 K4.sig (K4.W K4) := ok_ (H := K4.H) (n := 6) Tryz.func171 (by intro a x; kernel_rfl) (hn_ Z2)
def K0.sig : Sig U := ⟨[.data .t_api_Msg], [], 0, [.bool], false, []⟩
abbrev K0.T : Type := (api_Msg) → Option ((Bool × Unit) × Unit × Unit)
def K0.W (f : K0.T) : K0.sig.F := fun a x => f a.1
def K0.H (cK68 : K68.T) (cK5 : K5.T) (cK133 : K133.T) (cK76 : K76.T) (cK4 : K4.T) (cK115 : K115.T) : Hints U := { Γ := (K115.N cK115 (addΓ 171 (K4.sig.native (K4.W cK4)) (addΓ 170 (K76.sig.native (K76.W cK76)) (K133.N cK133 (addΓ 169 (K5.sig.native (K5.W cK5)) (addΓ 118 (K68.sig.native (K68.W cK68)) noΓ)))))), ro := 0, base := 13 }
def K0.gen (cK68 : K68.T) (cK5 : K5.T) (cK133 : K133.T) (cK76 : K76.T) (cK4 : K4.T) (cK115 : K115.T) : K0.T := fun m =>
 (oelim (cK68 m) none fun r0 => (bif r0.1.1 then (oelim (cK5 m) none fun r1 => (bif bif ieq m.fType r1.1.1.fType then bif ieq m.fDomain r1.1.1.fDomain then bif ieq m.fFlags r1.1.1.fFlags then bif ieq m.fCorr r1.1.1.fCorr then bif bif ieq m.fSource.fClock r1.1.1.fSource.fClock then bif ieq m.fSource.fPort r1.1.1.fSource.fPort then true else false else false then bif ieq m.fSeq r1.1.1.fSeq then bif ieq m.fLog r1.1.1.fLog then bif ieq m.fStamp r1.1.1.fStamp then bif bif ieq m.fTarget.fClock r1.1.1.fTarget.fClock then bif ieq m.fTarget.fPort r1.1.1.fTarget.fPort then true else false else false then bif ieq m.fUtc r1.1.1.fUtc then bif ieq m.fPriority1 r1.1.1.fPriority1 then bif bif ieq m.fQuality.fClass r1.1.1.fQuality.fClass then bif ieq m.fQuality.fAccuracy r1.1.1.fQuality.fAccuracy then bif ieq m.fQuality.fVariance r1.1.1.fQuality.fVariance then true else false else false else false then bif ieq m.fPriority2 r1.1.1.fPriority2 then bif ieq m.fGrand r1.1.1.fGrand then bif ieq m.fSteps r1.1.1.fSteps then bif ieq m.fOrigin r1.1.1.fOrigin then bif ieq m.fStartHops r1.1.1.fStartHops then bif ieq m.fHops r1.1.1.fHops then bif ieq m.fAction r1.1.1.fAction then true else false else false else false else false else false else false else false else false else false else false else false else false else false else false else false else false else false else false else false then (oelim (cK133 m.fStamp) none fun r2 => (bif r2.1.1 then (oelim (cK76 m.fTarget) none fun r3 => (bif r3.1.1 then (oelim (cK4 m.fUtc (-32768) 32767) none fun r4 => (bif r4.1.1 then (oelim (cK4 m.fPriority1 0 255) none fun r5 => (bif r5.1.1 then (oelim (cK4 m.fPriority2 0 255) none fun r6 => (bif r6.1.1 then (oelim (cK4 m.fOrigin 0 255) none fun r7 => (bif r7.1.1 then (oelim (cK115 m.fQuality) none fun r8 => (bif r8.1.1 then (oelim (cK4 m.fSteps 0 65535) none fun r9 => (bif r9.1.1 then (oelim (cK4 m.fStartHops 0 255) none fun r10 => (bif r10.1.1 then (oelim (cK4 m.fHops 0 255) none fun r11 => (bif r11.1.1 then (oelim (cK4 m.fAction 0 15) none fun r12 => some (r12.1, ((), ()))) else some ((false, ()), ((), ())))) else some ((false, ()), ((), ())))) else some ((false, ()), ((), ())))) else some ((false, ()), ((), ())))) else some ((false, ()), ((), ())))) else some ((false, ()), ((), ())))) else some ((false, ()), ((), ())))) else some ((false, ()), ((), ())))) else some ((false, ()), ((), ())))) else some ((false, ()), ((), ())))) else some ((false, ()), ((), ())))) else some ((false, ()), ((), ()))))
def K0 : K0.T := K0.gen K68 K5 K133 K76 K4 K115
theorem K0.eq (cK68 : K68.T) (cK5 : K5.T) (cK133 : K133.T) (cK76 : K76.T) (cK4 : K4.T) (cK115 : K115.T) : EqA K0.sig (K0.H cK68 cK5 cK133 cK76 cK4 cK115) Tryz.f112 6 (K0.W (K0.gen cK68 cK5 cK133 cK76 cK4 cK115)) := by intro a x; kernel_rfl
theorem K0.ok : NK_ 112 K0.sig (K0.W K0) := ok_ Tryz.func112 (K0.eq K68 K5 K133 K76 K4 K115) (hn_ (Z0 (Z0 (Z0 (Z0 (Z0 (Z0 Z2 K68.ok) K5.ok) K133.ok) K76.ok) K4.ok) K115.ok))
def K135.sig : Sig U := ⟨[.isl .u8, .int .i64], [], 0, [.isl .u8], false, []⟩
abbrev K135.T : Type := (List (UInt8)) → (Int) → Option (((List (UInt8)) × Unit) × Unit × Unit)
def K135.W (f : K135.T) : K135.sig.F := fun a x => f a.1 a.2.1
def K135.JC2 : Exits U := [(.normal, ⟨15, 13, [(0, .val (.isl .u8)), (1, vi_)], []⟩)]
def K135.H (cK133 : K133.T) (cK93 : K93.T) : Hints U := { Γ := (K93.N cK93 (K133.N cK133 noΓ)), ro := 0, base := 13, joinC := jt_ [(2, K135.JC2)] }
def K135.gen (cK133 : K133.T) (cK93 : K93.T) : K135.T := fun b t =>
 (oelim (cK133 t) none fun r0 => (oelim ((bif !r0.1.1 then some ((b, ((0 : Int), ())), ()) else some ((b, (t, ())), ()))) none fun r1 => (oelim (cK93 r1.1.1 (iquo .i64 r1.1.2.1 1000000000) 6) none fun r2 => (oelim (cK93 r2.1.1 (irem r1.1.2.1 1000000000) 4) none fun r3 => some (r3.1, ((), ()))))))
def K135 : K135.T := K135.gen K133 K93
theorem K135.eq (cK133 : K133.T) (cK93 : K93.T) : EqA K135.sig (K135.H cK133 cK93) Tryz.f113 6 (K135.W (K135.gen cK133 cK93)) := by intro a x; kernel_rfl
theorem K135.ok : NK_ 113 K135.sig (K135.W K135) := ok_ Tryz.func113 (K135.eq K133 K93) (hn_ (Z0 (Z0 Z2 K133.ok) K93.ok))
def K77.sig : Sig U := ⟨[.isl .u8, .data .t_api_PortID], [], 0, [.isl .u8], false, []⟩
abbrev K77.T : Type := (List (UInt8)) → (api_PortID) → Option (((List (UInt8)) × Unit) × Unit × Unit)
def K77.W (f : K77.T) : K77.sig.F := fun a x => f a.1 a.2.1
def K77.H (cK94 : K94.T) (cK93 : K93.T) : Hints U := { Γ := (K93.N cK93 (K94.N cK94 noΓ)), ro := 0, base := 13 }
def K77.gen (cK94 : K94.T) (cK93 : K93.T) : K77.T := fun b p =>
 (oelim (cK94 b p.fClock) none fun r0 => (oelim (cK93 r0.1.1 p.fPort 2) none fun r1 => some (r1.1, ((), ()))))
def K77 : K77.T := K77.gen K94 K93
theorem K77.eq (cK94 : K94.T) (cK93 : K93.T) : EqA K77.sig (K77.H cK94 cK93) Tryz.f114 6 (K77.W (K77.gen cK94 cK93)) := by intro a x; kernel_rfl
theorem K77.ok : NK_ 114 K77.sig (K77.W K77) := ok_ Tryz.func114 (K77.eq K94 K93) (hn_ (Z0 (Z0 Z2 K94.ok) K93.ok))
def K116.sig : Sig U := ⟨[.isl .u8, .data .t_api_Quality], [], 0, [.isl .u8], false, []⟩
abbrev K116.T : Type := (List (UInt8)) → (api_Quality) → Option (((List (UInt8)) × Unit) × Unit × Unit)
def K116.W (f : K116.T) : K116.sig.F := fun a x => f a.1 a.2.1
def K116.H (cK93 : K93.T) : Hints U := { Γ := (K93.N cK93 noΓ), ro := 0, base := 13 }
def K116.gen (cK93 : K93.T) : K116.T := fun b q =>
 (oelim (cK93 b q.fClass 1) none fun r0 => (oelim (cK93 r0.1.1 q.fAccuracy 1) none fun r1 => (oelim (cK93 r1.1.1 q.fVariance 2) none fun r2 => some (r2.1, ((), ())))))
def K116 : K116.T := K116.gen K93
theorem K116.eq (cK93 : K93.T) : EqA K116.sig (K116.H cK93) Tryz.f115 6 (K116.W (K116.gen cK93)) := by intro a x; kernel_rfl
theorem K116.ok : NK_ 115 K116.sig (K116.W K116) := ok_ Tryz.func115 (K116.eq K93) (hn_ (Z0 Z2 K93.ok))
def K3.sig : Sig U := ⟨[.isl .u8, .data .t_api_Msg], [], 0, [.isl .u8, .bool], true, []⟩
abbrev K3.T : Type := (List (UInt8)) → (api_Msg) → Option (((List (UInt8)) × Bool × Unit) × Unit × Unit)
def K3.W (f : K3.T) : K3.sig.F := fun a x => f a.1 a.2.1
def K3.JC10 : Exits U := [(.normal, ⟨80, 13, [(6, .val (.isl .u8))], []⟩)]
def K3.JC7 : Exits U := [(.normal, ⟨80, 14, [(3, .ptr 13 0 0), (6, .val (.isl .u8))], [(13, .obj .t_api_Msg)]⟩)]
def K3.H (cK0 : K0.T) (cK6 : K6.T) (cK135 : K135.T) (cK7 : K7.T) (cK77 : K77.T) (cK93 : K93.T) (cK116 : K116.T) (cK94 : K94.T) : Hints U := { Γ := (K94.N cK94 (addΓ 115 (K116.sig.native (K116.W cK116)) (K93.N cK93 (addΓ 114 (K77.sig.native (K77.W cK77)) (K7.N cK7 (addΓ 113 (K135.sig.native (K135.W cK135)) (K6.N cK6 (addΓ 112 (K0.sig.native (K0.W cK0)) noΓ)))))))), ro := 0, base := 13, joinC := jt_ [(5, K3.JC7), (7, K3.JC7), (10, K3.JC10)] }
def K3.gen (cK0 : K0.T) (cK6 : K6.T) (cK135 : K135.T) (cK7 : K7.T) (cK77 : K77.T) (cK93 : K93.T) (cK116 : K116.T) (cK94 : K94.T) : K3.T := fun b m =>
 (oelim (cK0 m) none fun r0 => (bif !r0.1.1 then some ((b, (false, ())), ((), ())) else (bif bif le3 (ofN 0) (ofN (List.length b)) (List.length b) then ieq (ofN (List.length b)) (ofN (List.length b)) else false then (oelim (cK6 m.fType) none fun r1 => (oelim ((bif r1.1.1 then (oelim (cK135 (List.drop (Int.toNat (ofN 0)) (List.take (Int.toNat (ofN (List.length b))) b)) m.fStamp) none fun r2 => some (r2.1, (m, ()))) else some ((List.drop (Int.toNat (ofN 0)) (List.take (Int.toNat (ofN (List.length b))) b), ()), (m, ())))) none fun r3 => (oelim (cK7 r3.2.1.fType) none fun r4 => (oelim ((bif r4.1.1 then (oelim (cK77 r3.1.1 r3.2.1.fTarget) none fun r5 => some (r5.1, r3.2)) else some r3)) none fun r6 => (oelim ((bif ieq r6.2.1.fType 2 then (oelim (cK77 r6.1.1 z0_) none fun r7 => some (r7.1, ())) else (bif ieq r6.2.1.fType 11 then (oelim (cK93 r6.1.1 r6.2.1.fUtc 2) none fun r8 => (oelim (cK93 r8.1.1 0 1) none fun r9 => (oelim (cK93 r9.1.1 r6.2.1.fPriority1 1) none fun r10 => (oelim (cK116 r10.1.1 r6.2.1.fQuality) none fun r11 => (oelim (cK93 r11.1.1 r6.2.1.fPriority2 1) none fun r12 => (oelim (cK94 r12.1.1 r6.2.1.fGrand) none fun r13 => (oelim (cK93 r13.1.1 r6.2.1.fSteps 2) none fun r14 => (oelim (cK93 r14.1.1 r6.2.1.fOrigin 1) none fun r15 => some (r15.1, ()))))))))) else (bif ieq r6.2.1.fType 13 then (oelim (cK93 r6.1.1 r6.2.1.fStartHops 1) none fun r16 => (oelim (cK93 r16.1.1 r6.2.1.fHops 1) none fun r17 => (oelim (cK93 r17.1.1 r6.2.1.fAction 1) none fun r18 => (oelim (cK93 r18.1.1 0 1) none fun r19 => some (r19.1, ()))))) else some (r6.1, ()))))) none fun r20 => some ((r20.1.1, (true, ())), ((), ()))))))) else none)))
def K3 : K3.T := K3.gen K0 K6 K135 K7 K77 K93 K116 K94
theorem K3.eq (cK0 : K0.T) (cK6 : K6.T) (cK135 : K135.T) (cK7 : K7.T) (cK77 : K77.T) (cK93 : K93.T) (cK116 : K116.T) (cK94 : K94.T) : EqA K3.sig (K3.H cK0 cK6 cK135 cK7 cK77 cK93 cK116 cK94) Tryz.f61 6 (K3.W (K3.gen cK0 cK6 cK135 cK7 cK77 cK93 cK116 cK94)) := by intro a x; kernel_rfl
theorem K3.ok : NK_ 61 K3.sig (K3.W K3) := ok_ Tryz.func61 (K3.eq K0 K6 K135 K7 K77 K93 K116 K94) (hn_ (Z0 (Z0 (Z0 (Z0 (Z0 (Z0 (Z0 (Z0 Z2 K0.ok) K6.ok) K135.ok) K7.ok) K77.ok) K93.ok) K116.ok) K94.ok))
def K148.sig : Sig U := ⟨[.int .i64, .int .i64, .int .i64], [], 0, [.bool], false, []⟩
abbrev K148.T : Type := (Int) → (Int) → (Int) → Option ((Bool × Unit) × Unit × Unit)
def K148.W (f : K148.T) : K148.sig.F := fun a x => f a.1 a.2.1 a.2.2.1
def K148.H : Hints U := { Γ := noΓ, ro := 0, base := 13 }
def K148.gen : K148.T := fun v least most =>
 (bif ile least v then some ((ile v most, ()), ((), ())) else some ((false, ()), ((), ())))
def K148 : K148.T := K148.gen
theorem K148.ok : NK_ 99 K148.sig (K148.W K148) := ok_ (H := K148.H) (n := 6) Tryz.func99 (by intro a x; kernel_rfl) (hn_ Z2)
def K141.sig : Sig U := ⟨[.data .t_api_Tlv], [], 0, [.bool], false, []⟩
abbrev K141.T : Type := (api_Tlv) → Option ((Bool × Unit) × Unit × Unit)
def K141.W (f : K141.T) : K141.sig.F := fun a x => f a.1
def K141.H (cK148 : K148.T) : Hints U := { Γ := (addΓ 99 (K148.sig.native (K148.W cK148)) noΓ), ro := 0, base := 13 }
def K141.gen (cK148 : K148.T) : K141.T := fun t =>
 (oelim (cK148 t.fType 0 65535) none fun r0 => (bif r0.1.1 then (bif ieq (irem (ofN (ByteArray.size t.fData)) 2) 0 then some ((ile (ofN (ByteArray.size t.fData)) 400, ()), ((), ())) else some ((false, ()), ((), ()))) else some ((false, ()), ((), ()))))
def K141 : K141.T := K141.gen K148
theorem K141.eq (cK148 : K148.T) : EqA K141.sig (K141.H cK148) Tryz.f117 6 (K141.W (K141.gen cK148)) := by intro a x; kernel_rfl
theorem K141.ok : NK_ 117 K141.sig (K141.W K141) := ok_ Tryz.func117 (K141.eq K148) (hn_ (Z0 Z2 K148.ok))
def K147.sig : Sig U := ⟨[.isl .u8, .isl .t_api_Tlv], [], 0, [.isl .u8, .bool], true, []⟩
abbrev K147.T : Type := (List (UInt8)) → (List (api_Tlv)) → Option (((List (UInt8)) × Bool × Unit) × Unit × Unit)
def K147.W (f : K147.T) : K147.sig.F := fun a x => f a.1 a.2.1
def K147.L0 : Shape U := ⟨42, 13, [(0, .val (.isl .u8)), (6, .val (.isl .u8)), (19, .val (.isl .t_api_Tlv)), (20, vi_), (21, vi_)], []⟩
def K147.X0 : Exits U := [(.exit 0, ⟨42, 13, [(6, .val (.isl .u8))], []⟩),
 (.ret, ⟨42, 13, [(4, .val (.isl .u8)), (5, vb_)], []⟩)]
abbrev K147.l0T : Type := (((List (UInt8)) × (List (UInt8)) × (List (api_Tlv)) × Int × Int × Unit) × Unit) → Option ((((List (UInt8)) × Unit) × Unit) ⊕ (((List (UInt8)) × Bool × Unit) × Unit))
def K147.C : Code := match Tryz.f62.body with | some c => c | none => .skip
def K147.B0 : Code := match (Z3 K147.C).getD 0 .skip with | .loop b => b | .scope b => b | _ => .skip
def K147.H (cK141 : K141.T) (cK93 : K93.T) (l0 : K147.l0T) : Hints U := { Γ := (K93.N cK93 (addΓ 117 (K141.sig.native (K141.W cK141)) noΓ)), ro := 0, base := 13, loop := jt_ [(5, (Za (0, 13) K147.L0 K147.X0 l0))] }
def K147.step0 (cK141 : K141.T) (cK93 : K93.T) (a : ((List (UInt8)) × (List (UInt8)) × (List (api_Tlv)) × Int × Int × Unit) × Unit) : Option ((((List (UInt8)) × (List (UInt8)) × (List (api_Tlv)) × Int × Int × Unit) × Unit) ⊕ ((((List (UInt8)) × Unit) × Unit) ⊕ (((List (UInt8)) × Bool × Unit) × Unit))) :=
 (bif ilt a.1.2.2.2.2.1 a.1.2.2.2.1 then (bif inR a.1.2.2.2.2.1 (List.length a.1.2.2.1) then (oelim (cK141 (List.getD a.1.2.2.1 (Int.toNat a.1.2.2.2.2.1) api_Tlv.zero)) none fun r0 => (bif !r0.1.1 then some (.inr (.inr ((a.1.1, (false, ())), ()))) else (oelim (cK93 a.1.2.1 (List.getD a.1.2.2.1 (Int.toNat a.1.2.2.2.2.1) api_Tlv.zero).fType 2) none fun r1 => (oelim (cK93 r1.1.1 (ofN (ByteArray.size (List.getD a.1.2.2.1 (Int.toNat a.1.2.2.2.2.1) api_Tlv.zero).fData)) 2) none fun r2 => (bif room (List.length r2.1.1 + List.length (List.getD a.1.2.2.1 (Int.toNat a.1.2.2.2.2.1) api_Tlv.zero).fData.data.toList) 1 then some (.inl ((a.1.1, (r2.1.1 ++ (List.getD a.1.2.2.1 (Int.toNat a.1.2.2.2.2.1) api_Tlv.zero).fData.data.toList, (a.1.2.2.1, (a.1.2.2.2.1, (iadd .i64 a.1.2.2.2.2.1 1, ()))))), ())) else none))))) else none) else some (.inr (.inl ((a.1.2.1, ()), ()))))
def K147.F0 : K147.l0T := fun a => Z8 (1000000 + (a.1.1.length + a.1.2.1.length + a.1.2.2.1.length)) (K147.step0 K141 K93) a
def K147.gen (cK141 : K141.T) (cK93 : K93.T) (l0 : K147.l0T) : K147.T := fun b l =>
 (bif ilt 8 (ofN (List.length l)) then some ((b, (false, ())), ((), ())) else (bif bif le3 (ofN 0) (ofN (List.length b)) (List.length b) then ieq (ofN (List.length b)) (ofN (List.length b)) else false then (oelim (l0 ((b, List.drop (Int.toNat (ofN 0)) (List.take (Int.toNat (ofN (List.length b))) b), l, ofN (List.length l), (0 : Int), ()), ())) none fun r0 => (selim r0 (fun r1 => some ((r1.1.1, (true, ())), ((), ()))) (fun r1 => some (r1.1, ((), ()))))) else none))
def K147 : K147.T := K147.gen K141 K93 K147.F0
theorem K147.seq0 (cK141 : K141.T) (cK93 : K93.T) (l0 : K147.l0T) (a : K147.L0.T) : run Tryz.prog (K147.H cK141 cK93 l0) 6 (Option (K147.L0.T ⊕ ExT K147.X0)) none K147.B0 (K147.L0.enc a) (Zn (0, 13) K147.L0 K147.X0) = K147.step0 cK141 cK93 a := by kernel_rfl
abbrev K147.h := K147.H K141 K93 K147.F0
theorem K147.lok0 : LO_ K147.h K147.B0 (Za (0, 13) K147.L0 K147.X0 K147.F0) := lk_ (hn_ (Z0 (Z0 Z2 K141.ok) K93.ok)) (K147.seq0 K141 K93 K147.F0)
theorem K147.eq (cK141 : K141.T) (cK93 : K93.T) (l0 : K147.l0T) : EqA K147.sig (K147.H cK141 cK93 l0) Tryz.f62 6 (K147.W (K147.gen cK141 cK93 l0)) := by intro a x; kernel_rfl
theorem K147.loops : Z3 K147.C = [(.loop K147.B0)] := by kernel_rfl
theorem K147.ok : NK_ 62 K147.sig (K147.W K147) := ok_ Tryz.func62 (K147.eq K141 K93 K147.F0) (hl_ (Z0 (Z0 Z2 K141.ok) K93.ok) (Z9 (by kernel_rfl) K147.lok0 Z6)) K147.loops
def K72.sig : Sig U := ⟨[.int .i64], [], 0, [.int .i64], false, []⟩
abbrev K72.T : Type := (Int) → Option ((Int × Unit) × Unit × Unit)
def K72.W (f : K72.T) : K72.sig.F := fun a x => f a.1
def K72.H : Hints U := { Γ := noΓ, ro := 0, base := 13 }
def K72.gen : K72.T := fun typ =>
 (bif ieq typ 0 then some (((0 : Int), ()), ((), ())) else (bif ieq typ 1 then some (((1 : Int), ()), ((), ())) else (bif ieq typ 8 then some (((2 : Int), ()), ((), ())) else (bif ieq typ 9 then some (((3 : Int), ()), ((), ())) else (bif ieq typ 13 then some (((4 : Int), ()), ((), ())) else some (((5 : Int), ()), ((), ())))))))
def K72 : K72.T := K72.gen
theorem K72.ok : NK_ 119 K72.sig (K72.W K72) := ok_ (H := K72.H) (n := 6) Tryz.func119 (by intro a x; kernel_rfl) (hn_ Z2)
def K71.sig : Sig U := ⟨[.data .t_api_Msg, .int .i64], [], 0, [.isl .u8, .bool], true, []⟩
abbrev K71.T : Type := (api_Msg) → (Int) → Option (((List (UInt8)) × Bool × Unit) × Unit × Unit)
def K71.W (f : K71.T) : K71.sig.F := fun a x => f a.1 a.2.1
def K71.H (cK68 : K68.T) (cK73 : K73.T) (cK93 : K93.T) (cK77 : K77.T) (cK72 : K72.T) : Hints U := { Γ := (addΓ 119 (K72.sig.native (K72.W cK72)) (addΓ 114 (K77.sig.native (K77.W cK77)) (K93.N cK93 (K73.N cK73 (addΓ 118 (K68.sig.native (K68.W cK68)) noΓ))))), ro := 0, base := 13, joinQ := jt_ [(1, [(14, vb_)])] }
def K71.gen (cK68 : K68.T) (cK73 : K73.T) (cK93 : K93.T) (cK77 : K77.T) (cK72 : K72.T) : K71.T := fun m length =>
 (oelim ((oelim (cK68 m) none fun r0 => (bif !r0.1.1 then some (true, ()) else (oelim (cK73 length 34 400) none fun r1 => some (!r1.1.1, ()))))) none fun r2 => (bif r2.1 then some ((lnil UInt8, (false, ())), ((), ())) else (oelim (cK93 (UInt8.ofNat (Int.toNat (IntKind.wrap .u8 m.fType)) :: UInt8.ofNat (Int.toNat 18) :: lnil UInt8) length 2) none fun r3 => (oelim (cK93 r3.1.1 m.fDomain 1) none fun r4 => (oelim (cK93 r4.1.1 0 1) none fun r5 => (oelim (cK93 r5.1.1 m.fFlags 2) none fun r6 => (oelim (cK93 r6.1.1 m.fCorr 8) none fun r7 => (oelim (cK93 r7.1.1 0 4) none fun r8 => (oelim (cK77 r8.1.1 m.fSource) none fun r9 => (oelim (cK93 r9.1.1 m.fSeq 2) none fun r10 => (oelim (cK72 m.fType) none fun r11 => (oelim (cK93 r10.1.1 r11.1.1 1) none fun r12 => (oelim (cK93 r12.1.1 m.fLog 1) none fun r13 => some ((r13.1.1, (true, ())), ((), ())))))))))))))))
def K71 : K71.T := K71.gen K68 K73 K93 K77 K72
theorem K71.eq (cK68 : K68.T) (cK73 : K73.T) (cK93 : K93.T) (cK77 : K77.T) (cK72 : K72.T) : EqA K71.sig (K71.H cK68 cK73 cK93 cK77 cK72) Tryz.f63 6 (K71.W (K71.gen cK68 cK73 cK93 cK77 cK72)) := by intro a x; kernel_rfl
theorem K71.ok : NK_ 63 K71.sig (K71.W K71) := ok_ Tryz.func63 (K71.eq K68 K73 K93 K77 K72) (hn_ (Z0 (Z0 (Z0 (Z0 (Z0 Z2 K68.ok) K73.ok) K93.ok) K77.ok) K72.ok))
def K67.sig : Sig U := ⟨[.data .t_api_Msg, .isl .t_api_Tlv], [], 0, [.str, .bool], true, []⟩
abbrev K67.T : Type := (api_Msg) → (List (api_Tlv)) → Option ((ByteArray × Bool × Unit) × Unit × Unit)
def K67.W (f : K67.T) : K67.sig.F := fun a x => f a.1 a.2.1
abbrev K67.N (c : K67.T) := addΓ 33 (K67.sig.native (K67.W c))
def K67.C : Code := match Tryz.f33.body with | some c => c | none => .skip
def K67.B0 : Code := match (Z3 K67.C).getD 0 .skip with | .loop b => b | .scope b => b | _ => .skip
def K67.H (cK3 : K3.T) (cK147 : K147.T) (cK71 : K71.T) : Hints U := { Γ := (addΓ 63 (K71.sig.native (K71.W cK71)) (addΓ 62 (K147.sig.native (K147.W cK147)) (addΓ 61 (K3.sig.native (K3.W cK3)) noΓ))), ro := 0, base := 13, gotos := 3, loop := fun b => none }
def K67.gen (cK3 : K3.T) (cK147 : K147.T) (cK71 : K71.T) : K67.T := fun m l =>
 (oelim (cK3 (lnil UInt8) m) none fun r0 => (bif !r0.1.2.1 then some ((ByteArray.mk (List.toArray (lnil UInt8)), (false, ())), ((), ())) else (oelim (cK147 r0.1.1 l) none fun r1 => (bif !r1.1.2.1 then some ((ByteArray.mk (List.toArray (lnil UInt8)), (false, ())), ((), ())) else (oelim (cK71 m (iadd .i64 34 (ofN (List.length r1.1.1)))) none fun r2 => (bif !r2.1.2.1 then some ((ByteArray.mk (List.toArray (lnil UInt8)), (false, ())), ((), ())) else (bif Nat.ble (ByteArray.size (ByteArray.mk (List.toArray r2.1.1)) + ByteArray.size (ByteArray.mk (List.toArray r1.1.1))) 9223372036854775807 then some ((ByteArray.mk (List.toArray r2.1.1) ++ ByteArray.mk (List.toArray r1.1.1), (true, ())), ((), ())) else none)))))))
def K67 : K67.T := K67.gen K3 K147 K71
theorem K67.eq (cK3 : K3.T) (cK147 : K147.T) (cK71 : K71.T) : EqA K67.sig (K67.H cK3 cK147 cK71) Tryz.f33 6 (K67.W (K67.gen cK3 cK147 cK71)) := by intro a x; kernel_rfl
theorem K67.loops : Z3 K67.C = [(.scope K67.B0)] := by kernel_rfl
theorem K67.ok : NK_ 33 K67.sig (K67.W K67) := ok_ Tryz.func33 (K67.eq K3 K147 K71) (hl_ (Z0 (Z0 (Z0 Z2 K3.ok) K147.ok) K71.ok) (Zx Z6)) K67.loops
def K23.sig : Sig U := ⟨[.ptr, .int .i64, .data .t_api_Msg, .isl .t_api_Tlv, .bool], [.obj .t_clock_Clock], 0, [], true, []⟩
abbrev K23.T : Type := (Int) → (api_Msg) → (List (api_Tlv)) → (Bool) → (clock_Clock) → Option (Unit × (clock_Clock × Unit) × Unit)
def K23.W (f : K23.T) : K23.sig.F := fun a x => f a.2.1 a.2.2.1 a.2.2.2.1 a.2.2.2.2.1 x.1
abbrev K23.N (c : K23.T) := addΓ 80 (K23.sig.native (K23.W c))
def K23.H (cK67 : K67.T) : Hints U := { Γ := (K67.N cK67 noΓ), ro := 0, base := 14 }
def K23.gen (cK67 : K67.T) : K23.T := fun n m l want h0 =>
 (oelim (cK67 m l) none fun r0 => (bif r0.1.2.1 then (bif room (List.length h0.fouts + List.length (api_Out.mk 1 n 0 want m.fType m.fSeq r0.1.1 :: lnil api_Out)) 64 then some ((), ((clock_Clock.set_fouts h0 (h0.fouts ++ api_Out.mk 1 n 0 want m.fType m.fSeq r0.1.1 :: lnil api_Out), ()), ())) else none) else some ((), ((h0, ()), ()))))
def K23 : K23.T := K23.gen K67
theorem K23.eq (cK67 : K67.T) : EqA K23.sig (K23.H cK67) Tryz.f80 6 (K23.W (K23.gen cK67)) := by intro a x; kernel_rfl
theorem K23.ok : NK_ 80 K23.sig (K23.W K23) := ok_ Tryz.func80 (K23.eq K67) (hn_ (Z0 Z2 K67.ok))
def K122.sig : Sig U := ⟨[.int .i64], [], 0, [.int .i64], false, []⟩
abbrev K122.T : Type := (Int) → Option ((Int × Unit) × Unit × Unit)
def K122.W (f : K122.T) : K122.sig.F := fun a x => f a.1
def K122.H : Hints U := { Γ := noΓ, ro := 0, base := 13 }
def K122.gen : K122.T := fun seq =>
 some ((iand .i64 (iadd .i64 (iand .i64 seq 65535) 1) 65535, ()), ((), ()))
def K122 : K122.T := K122.gen
theorem K122.ok : NK_ 142 K122.sig (K122.W K122) := ok_ (H := K122.H) (n := 6) Tryz.func142 (by intro a x; kernel_rfl) (hn_ Z2)
def K103.sig : Sig U := ⟨[.ptr], [.obj .t_peer_Exchange], 0, [], true, []⟩
abbrev K103.T : Type := (peer_Exchange) → Option (Unit × (peer_Exchange × Unit) × Unit)
def K103.W (f : K103.T) : K103.sig.F := fun a x => f x.1
def K103.H : Hints U := { Γ := noΓ, ro := 0, base := 14 }
def K103.gen : K103.T := fun h0 =>
 some ((), ((peer_Exchange.mk h0.fself h0.fdomain 0 0 false false false false z2_ 0, ()), ()))
def K103 : K103.T := K103.gen
theorem K103.ok : NK_ 98 K103.sig (K103.W K103) := ok_ (H := K103.H) (n := 6) Tryz.func98 (by intro a x; kernel_rfl) (hn_ Z2)
def K104.sig : Sig U := ⟨[.ptr, .int .i64], [.obj .t_peer_Exchange], 0, [.data .t_api_Msg], false, []⟩
abbrev K104.T : Type := (Int) → (peer_Exchange) → Option ((api_Msg × Unit) × (peer_Exchange × Unit) × Unit)
def K104.W (f : K104.T) : K104.sig.F := fun a x => f a.2.1 x.1
def K104.H (cK103 : K103.T) : Hints U := { Γ := (addΓ 98 (K103.sig.native (K103.W cK103)) noΓ), ro := 0, base := 14 }
def K104.gen (cK103 : K103.T) : K104.T := fun seq h0 =>
 (oelim (cK103 h0) none fun r0 => some ((api_Msg.mk 2 r0.2.1.1.fdomain 0 0 r0.2.1.1.fself (iand .i64 seq 65535) 127 0 z0_ 0 0 z1_ 0 0 0 0 0 0 0, ()), ((peer_Exchange.set_fout (peer_Exchange.set_fseq r0.2.1.1 (iand .i64 seq 65535)) true, ()), ())))
def K104 : K104.T := K104.gen K103
theorem K104.eq (cK103 : K103.T) : EqA K104.sig (K104.H cK103) Tryz.f181 6 (K104.W (K104.gen cK103)) := by intro a x; kernel_rfl
theorem K104.ok : NK_ 181 K104.sig (K104.W K104) := ok_ Tryz.func181 (K104.eq K103) (hn_ (Z0 Z2 K103.ok))
def K53.sig : Sig U := ⟨[.ptr, .int .i64, .int .i64], [.obj .t_delay_Exchange], 0, [.data .t_api_Msg], false, []⟩
abbrev K53.T : Type := (Int) → (Int) → (delay_Exchange) → Option ((api_Msg × Unit) × (delay_Exchange × Unit) × Unit)
def K53.W (f : K53.T) : K53.sig.F := fun a x => f a.2.1 a.2.2.1 x.1
def K53.H : Hints U := { Γ := noΓ, ro := 0, base := 14 }
def K53.gen : K53.T := fun seq a_2 h0 =>
 some ((api_Msg.mk 1 h0.fdomain 0 0 h0.fself (iand .i64 seq 65535) 127 0 z0_ 0 0 z1_ 0 0 0 0 0 0 0, ()), ((delay_Exchange.set_fr h0 (delay_request.mk (iand .i64 seq 65535) 0 true false), ()), ()))
def K53 : K53.T := K53.gen
theorem K53.ok : NK_ 182 K53.sig (K53.W K53) := ok_ (H := K53.H) (n := 6) Tryz.func182 (by intro a x; kernel_rfl) (hn_ Z2)
def K36.sig : Sig U := ⟨[.ptr, .bool], [.obj .t_clock_side, fm7_, fm8_], 0, [.data .t_api_Msg], false, []⟩
abbrev K36.T : Type := (Bool) → (clock_side) → (Fm delay_Exchange) → (Fm peer_Exchange) → Option ((api_Msg × Unit) × (clock_side × (Fm delay_Exchange) × (Fm peer_Exchange) × Unit) × Unit)
def K36.W (f : K36.T) : K36.sig.F := fun a x => f a.2.1 x.1 x.2.1 x.2.2.1
def K36.JR2 : Exits U := [(.normal, ⟨24, 15, [(4, .ptr 14 0 0)], [(13, .obj .t_clock_side), (14, .obj .t_api_Msg), (7, .famN false .t_delay_Exchange), (8, .famN false .t_peer_Exchange)]⟩)]
def K36.H (cK104 : K104.T) (cK53 : K53.T) : Hints U := { Γ := (addΓ 182 (K53.sig.native (K53.W cK53)) (addΓ 181 (K104.sig.native (K104.W cK104)) noΓ)), ro := 0, base := 14, joinR := jt_ [(2, K36.JR2)] }
def K36.gen (cK104 : K104.T) (cK53 : K53.T) : K36.T := fun peer h0 g7 g8 =>
 (bif peer then (oelim ((oelim (h0.14) none fun r0 => (oelim (cK104 h0.frequests (g8.2 r0)) none fun r1 => some ((), (h0, (r1.1.1, (g7, ((g8.1, fset g8.2 r0 r1.2.1.1), ())))))))) none fun r2 => some ((r2.2.2.1, ()), ((r2.2.1, r2.2.2.2), ()))) else (oelim (h0.13) none fun r3 => (oelim (cK53 h0.frequests 0 (g7.2 r3)) none fun r4 => some (r4.1, ((h0, ((g7.1, fset g7.2 r3 r4.2.1.1), (g8, ()))), ())))))
def K36 : K36.T := K36.gen K104 K53
theorem K36.eq (cK104 : K104.T) (cK53 : K53.T) : EqA K36.sig (K36.H cK104 cK53) Tryz.f143 6 (K36.W (K36.gen cK104 cK53)) := by intro a x; kernel_rfl
theorem K36.ok : NK_ 143 K36.sig (K36.W K36) := ok_ Tryz.func143 (K36.eq K104 K53) (hn_ (Z0 (Z0 Z2 K104.ok) K53.ok))
def K30.sig : Sig U := ⟨[.ptr, .int .i64, .int .i64], [.obj .t_clock_Clock, fm7_, fm8_, .fam 12 (.map true false .t_api_PortID .l_u64)], 0, [], true, []⟩
abbrev K30.T : Type := (Int) → (Int) → (clock_Clock) → (Fm delay_Exchange) → (Fm peer_Exchange) → (Nat × (Nat → List (api_PortID × List (Int)))) → Option (Unit × (clock_Clock × (Fm delay_Exchange) × (Fm peer_Exchange) × (Nat × (Nat → List (api_PortID × List (Int)))) × Unit) × Unit)
def K30.W (f : K30.T) : K30.sig.F := fun a x => f a.2.1 a.2.2.1 x.1 x.2.1 x.2.2.1 x.2.2.2.1
def K30.JR20 : Exits U := [(.normal, ⟨179, 14, [(0, .ptr 13 0 0), (6, .aptr 13 23 42 8 0)], (13, .obj .t_clock_Clock) :: hT4_⟩)]
def K30.JR18 : Exits U := [(.normal, ⟨179, 15, [(0, .ptr 13 0 0), (1, vi_), (6, .aptr 13 23 42 8 0), (9, .ptr 14 0 0)], (13, .obj .t_clock_Clock) :: (14, .obj .t_api_Msg) :: hT4_⟩)]
def K30.JR16 : Exits U := [(.normal, ⟨179, 14, [(0, .ptr 13 0 0), (1, vi_), (6, .aptr 13 23 42 8 0), (143, vb_)], (13, .obj .t_clock_Clock) :: hT4_⟩)]
def K30.JR11 : Exits U := [(.normal, ⟨179, 14, [(0, .ptr 13 0 0), (1, vi_), (6, .aptr 13 23 42 8 0)], (13, .obj .t_clock_Clock) :: hT4_⟩)]
def K30.JR6 : Exits U := [(.normal, ⟨179, 15, [(0, .ptr 13 0 0), (1, vi_), (2, vi_), (6, .aptr 13 23 42 8 0), (7, .ptr 14 0 0)], (13, .obj .t_clock_Clock) :: (14, .obj .t_api_Msg) :: hT4_⟩)]
def K30.JR5 : Exits U := [(.normal, ⟨179, 14, [(0, .ptr 13 0 0), (1, vi_), (2, vi_), (6, .aptr 13 23 42 8 0), (67, vb_)], (13, .obj .t_clock_Clock) :: hT4_⟩)]
def K30.JR3 : Exits U := [(.normal, ⟨179, 14, [(0, .ptr 13 0 0), (1, vi_), (2, vi_), (6, .aptr 13 23 42 8 0)], (13, .obj .t_clock_Clock) :: hT4_⟩)]
def K30.JR1 : Exits U := [(.normal, ⟨179, 14, [(0, .ptr 13 0 0), (1, vi_), (2, vi_), (6, .aptr 13 23 42 8 0), (23, vb_)], (13, .obj .t_clock_Clock) :: hT4_⟩)]
def K30.JC15 : Exits U := [(.normal, ⟨179, 14, [(0, .ptr 13 0 0), (1, vi_), (6, .aptr 13 23 42 8 0), (8, vb_)], (13, .obj .t_clock_Clock) :: hT4_⟩)]
def K30.JC8 : Exits U := [(.normal, ⟨179, 15, [(0, .ptr 13 0 0), (1, vi_), (6, .aptr 13 23 42 8 0), (7, .ptr 14 0 0)], (13, .obj .t_clock_Clock) :: (14, .obj .t_api_Msg) :: hT4_⟩)]
def K30.H (cK29 : K29.T) (cK140 : K140.T) (cK151 : K151.T) (cK24 : K24.T) (cK23 : K23.T) (cK122 : K122.T) (cK12 : K12.T) (cK138 : K138.T) (cK27 : K27.T) (cK136 : K136.T) (cK110 : K110.T) (cK108 : K108.T) (cK36 : K36.T) : Hints U := { Γ := (addΓ 143 (K36.sig.native (K36.W cK36)) (K108.N cK108 (K110.N cK110 (addΓ 132 (K136.sig.native (K136.W cK136)) (K27.N cK27 (K138.N cK138 (K12.N cK12 (addΓ 142 (K122.sig.native (K122.W cK122)) (K23.N cK23 (addΓ 141 (K24.sig.native (K24.W cK24)) (addΓ 140 (K151.sig.native (K151.W cK151)) (addΓ 130 (K140.sig.native (K140.W cK140)) (K29.N cK29 noΓ))))))))))))), ro := 0, base := 14, joinR := jt_ [(1, K30.JR1), (2, K30.JR3), (3, K30.JR3), (5, K30.JR5), (6, K30.JR6), (10, K30.JR11), (11, K30.JR11), (16, K30.JR16), (17, K30.JR18), (18, K30.JR18), (19, K30.JR20), (20, K30.JR20)], joinC := jt_ [(2, K30.JR3), (6, K30.JR11), (8, K30.JC8), (15, K30.JC15)] }
def K30.gen (cK29 : K29.T) (cK140 : K140.T) (cK151 : K151.T) (cK24 : K24.T) (cK23 : K23.T) (cK122 : K122.T) (cK12 : K12.T) (cK138 : K138.T) (cK27 : K27.T) (cK136 : K136.T) (cK110 : K110.T) (cK108 : K108.T) (cK36 : K36.T) : K30.T := fun n now h0 g7 g8 g12 =>
 (oelim (cK29 n h0) none fun r0 => (oelim ((bif ieq (h0.fports r0.1.1).fstate 6 then (oelim (cK140 (h0.fports r0.1.1).fannounce) none fun r1 => some ((n, (now, (r0.1.1, r1.1))), (clock_Clock.set_fports h0 (fset h0.fports r0.1.1 (clock_side.set_fannounce (h0.fports r0.1.1) r1.2.1.1)), (g7, (g8, (g12, ())))))) else some ((n, (now, (r0.1.1, (false, ())))), (h0, (g7, (g8, (g12, ()))))))) none fun r2 => (oelim ((bif r2.1.2.2.2.1 then (oelim ((oelim (cK151 r2.2.1.fconf r2.2.1.fparent r2.1.1 (r2.2.1.fports r2.1.2.2.1).fannounces) none fun r3 => (oelim (cK24 r2.2.1 r2.2.2.2.2.1) none fun r4 => (oelim (cK23 r2.1.1 r3.1.1 r4.1.1 false r2.2.1) none fun r5 => some ((r2.1.1, (r2.1.2.1, (r2.1.2.2.1, ()))), (r5.2.1.1, r2.2.2)))))) none fun r6 => (oelim ((oelim (cK122 (r6.2.1.fports r6.1.2.2.1).fannounces) none fun r7 => some (r6.1, (clock_Clock.set_fports r6.2.1 (fset r6.2.1.fports r6.1.2.2.1 (clock_side.set_fannounces (r6.2.1.fports r6.1.2.2.1) r7.1.1)), r6.2.2)))) none fun r8 => (oelim (cK12 r8.2.1) none fun r9 => (oelim (cK138 r9.1.1 (r8.2.1.fports r8.1.2.2.1).fannounce) none fun r10 => some (r8.1, (clock_Clock.set_fports r8.2.1 (fset r8.2.1.fports r8.1.2.2.1 (clock_side.set_fannounce (r8.2.1.fports r8.1.2.2.1) r10.2.1.1)), r8.2.2)))))) else some ((r2.1.1, (r2.1.2.1, (r2.1.2.2.1, ()))), r2.2))) none fun r11 => (oelim ((bif ieq (r11.2.1.fports r11.1.2.2.1).fstate 6 then (oelim (cK140 (r11.2.1.fports r11.1.2.2.1).fsync) none fun r12 => some ((r11.1.1, (r11.1.2.1, (r11.1.2.2.1, r12.1))), (clock_Clock.set_fports r11.2.1 (fset r11.2.1.fports r11.1.2.2.1 (clock_side.set_fsync (r11.2.1.fports r11.1.2.2.1) r12.2.1.1)), r11.2.2))) else some ((r11.1.1, (r11.1.2.1, (r11.1.2.2.1, (false, ())))), r11.2))) none fun r13 => (oelim ((bif r13.1.2.2.2.1 then (oelim ((oelim (cK27 r13.1.1 r13.2.1) none fun r14 => some ((r13.1.1, (r13.1.2.1, (r13.1.2.2.1, ()))), (r13.2.1, (api_Msg.mk 0 r13.2.1.fconf.fDomain 0 0 r14.1.1 (r13.2.1.fports r13.1.2.2.1).fsyncs r13.2.1.fconf.fLogSync 0 z0_ 0 0 z1_ 0 0 0 0 0 0 0, r13.2.2))))) none fun r15 => (oelim ((bif r15.2.1.fconf.fOneStep then some ((r15.1.1, r15.1.2.2), (r15.2.1, (api_Msg.set_fStamp r15.2.2.1 r15.1.2.1, r15.2.2.2))) else some ((r15.1.1, r15.1.2.2), (r15.2.1, (api_Msg.set_fFlags r15.2.2.1 512, r15.2.2.2))))) none fun r16 => (oelim ((oelim (cK23 r16.1.1 r16.2.2.1 (lnil api_Tlv) (!r16.2.1.fconf.fOneStep) r16.2.1) none fun r17 => some (r16.1, (r17.2.1.1, r16.2.2.2)))) none fun r18 => (oelim ((oelim (cK122 (r18.2.1.fports r18.1.2.1).fsyncs) none fun r19 => some (r18.1, (clock_Clock.set_fports r18.2.1 (fset r18.2.1.fports r18.1.2.1 (clock_side.set_fsyncs (r18.2.1.fports r18.1.2.1) r19.1.1)), r18.2.2)))) none fun r20 => (oelim (cK136 r20.2.1.fconf.fLogSync) none fun r21 => (oelim (cK138 r21.1.1 (r20.2.1.fports r20.1.2.1).fsync) none fun r22 => some (r20.1, (clock_Clock.set_fports r20.2.1 (fset r20.2.1.fports r20.1.2.1 (clock_side.set_fsync (r20.2.1.fports r20.1.2.1) r22.2.1.1)), r20.2.2)))))))) else some ((r13.1.1, (r13.1.2.2.1, ())), r13.2))) none fun r23 => (oelim (cK110 (r23.2.1.fports r23.1.2.1).fstate) none fun r24 => (oelim ((bif r23.2.1.fconf.fPeer then (oelim (cK108 (r23.2.1.fports r23.1.2.1).fstate) none fun r25 => some ((r23.1.1, (r23.1.2.1, r25.1)), r23.2)) else some ((r23.1.1, (r23.1.2.1, r24.1)), r23.2))) none fun r26 => (oelim ((bif r26.1.2.2.1 then (oelim (cK140 (r26.2.1.fports r26.1.2.1).fask) none fun r27 => some ((r26.1.1, (r26.1.2.1, r27.1)), (clock_Clock.set_fports r26.2.1 (fset r26.2.1.fports r26.1.2.1 (clock_side.set_fask (r26.2.1.fports r26.1.2.1) r27.2.1.1)), r26.2.2))) else some ((r26.1.1, (r26.1.2.1, (false, ()))), r26.2))) none fun r28 => (bif r28.1.2.2.1 then (oelim ((oelim (cK36 r28.2.1.fconf.fPeer (r28.2.1.fports r28.1.2.1) r28.2.2.1 r28.2.2.2.1) none fun r29 => some ((r28.1.1, (r28.1.2.1, ())), (clock_Clock.set_fports r28.2.1 (fset r28.2.1.fports r28.1.2.1 r29.2.1.1), (r29.1.1, (r29.2.1.2.1, (r29.2.1.2.2.1, r28.2.2.2.2))))))) none fun r30 => (oelim ((oelim (cK23 r30.1.1 (api_Msg.set_fDomain r30.2.2.1 r30.2.1.fconf.fDomain) (lnil api_Tlv) true r30.2.1) none fun r31 => some (r30.1.2, (r31.2.1.1, r30.2.2.2)))) none fun r32 => (oelim ((oelim (cK122 (r32.2.1.fports r32.1.1).frequests) none fun r33 => some (r32.1, (clock_Clock.set_fports r32.2.1 (fset r32.2.1.fports r32.1.1 (clock_side.set_frequests (r32.2.1.fports r32.1.1) r33.1.1)), r32.2.2)))) none fun r34 => (oelim (cK136 r34.2.1.fconf.fLogDelay) none fun r35 => (oelim (cK138 r35.1.1 (r34.2.1.fports r34.1.1).fask) none fun r36 => some ((), ((clock_Clock.set_fports r34.2.1 (fset r34.2.1.fports r34.1.1 (clock_side.set_fask (r34.2.1.fports r34.1.1) r36.2.1.1)), r34.2.2), ()))))))) else some ((), (r28.2, ())))))))))))
def K30 : K30.T := K30.gen K29 K140 K151 K24 K23 K122 K12 K138 K27 K136 K110 K108 K36
theorem K30.eq (cK29 : K29.T) (cK140 : K140.T) (cK151 : K151.T) (cK24 : K24.T) (cK23 : K23.T) (cK122 : K122.T) (cK12 : K12.T) (cK138 : K138.T) (cK27 : K27.T) (cK136 : K136.T) (cK110 : K110.T) (cK108 : K108.T) (cK36 : K36.T) : EqA K30.sig (K30.H cK29 cK140 cK151 cK24 cK23 cK122 cK12 cK138 cK27 cK136 cK110 cK108 cK36) Tryz.f72 6 (K30.W (K30.gen cK29 cK140 cK151 cK24 cK23 cK122 cK12 cK138 cK27 cK136 cK110 cK108 cK36)) := by intro a x; kernel_rfl
theorem K30.ok : NK_ 72 K30.sig (K30.W K30) := ok_ Tryz.func72 (K30.eq K29 K140 K151 K24 K23 K122 K12 K138 K27 K136 K110 K108 K36) (hn_ (Z0 (Z0 (Z0 (Z0 (Z0 (Z0 (Z0 (Z0 (Z0 (Z0 (Z0 (Z0 (Z0 Z2 K29.ok) K140.ok) K151.ok) K24.ok) K23.ok) K122.ok) K12.ok) K138.ok) K27.ok) K136.ok) K110.ok) K108.ok) K36.ok))
def K31.sig : Sig U := ⟨[.ptr, .int .i64], [.obj .t_clock_Clock, fm6_, fm7_, fm8_, fm9_, fm10_, .fam 12 (.map true false .t_api_PortID .l_u64)], 0, [], true, []⟩
abbrev K31.T : Type := (Int) → (clock_Clock) → (Fm foreign_Table) → (Fm delay_Exchange) → (Fm peer_Exchange) → (Fm median_Filter) → (Fm seq_Match) → (Nat × (Nat → List (api_PortID × List (Int)))) → Option (Unit × (clock_Clock × qT3_) × Unit)
def K31.W (f : K31.T) : K31.sig.F := fun a x => f a.2.1 x.1 x.2.1 x.2.2.1 x.2.2.2.1 x.2.2.2.2.1 x.2.2.2.2.2.1 x.2.2.2.2.2.2.1
def K31.L0 : Shape U := ⟨52, 14, [(0, .ptr 13 0 0), (1, vi_), (4, vi_)], (13, .obj .t_clock_Clock) :: hT5_⟩
def K31.X0 : Exits U := [(.exit 0, ⟨52, 14, [(0, .ptr 13 0 0), (1, vi_)], (13, .obj .t_clock_Clock) :: hT5_⟩)]
abbrev K31.l0T : Type := ((Int × Int × Unit) × (clock_Clock × qT3_)) → Option (((Int × Unit) × (clock_Clock × qT3_)))
def K31.L1 : Shape U := ⟨52, 14, [(0, .ptr 13 0 0), (1, vi_), (5, vi_)], (13, .obj .t_clock_Clock) :: hT5_⟩
def K31.X1 : Exits U := [(.exit 2, ⟨52, 14, [], (13, .obj .t_clock_Clock) :: hT5_⟩)]
abbrev K31.l1T : Type := ((Int × Int × Unit) × (clock_Clock × qT3_)) → Option ((Unit × (clock_Clock × qT3_)))
def K31.C : Code := match Tryz.f44.body with | some c => c | none => .skip
def K31.B0 : Code := match (Z3 K31.C).getD 0 .skip with | .loop b => b | .scope b => b | _ => .skip
def K31.B1 : Code := match (Z3 K31.C).getD 1 .skip with | .loop b => b | .scope b => b | _ => .skip
def K31.JR10 : Exits U := [(.normal, ⟨52, 14, [(0, .ptr 13 0 0), (1, vi_), (5, vi_)], (13, .obj .t_clock_Clock) :: hT5_⟩)]
def K31.JR4 : Exits U := [(.normal, ⟨52, 14, [(0, .ptr 13 0 0), (1, vi_), (4, vi_)], (13, .obj .t_clock_Clock) :: hT5_⟩)]
def K31.JR0 : Exits U := [(.normal, ⟨52, 14, [(0, .ptr 13 0 0), (1, vi_)], (13, .obj .t_clock_Clock) :: hT5_⟩)]
def K31.H (cK29 : K29.T) (cK16 : K16.T) (cK12 : K12.T) (cK17 : K17.T) (cK30 : K30.T) (l0 : K31.l0T) (l1 : K31.l1T) : Hints U := { Γ := (addΓ 72 (K30.sig.native (K30.W cK30)) (addΓ 71 (K17.sig.native (K17.W cK17)) (K12.N cK12 (addΓ 69 (K16.sig.native (K16.W cK16)) (K29.N cK29 noΓ))))), ro := 0, base := 14, joinR := jt_ [(0, K31.JR0), (4, K31.JR4), (10, K31.JR10)], joinC := jt_ [(6, K31.JR0)], loop := jt_ [(2, (Za (0, 14) K31.L0 K31.X0 l0)), (8, (Za (0, 14) K31.L1 K31.X1 l1))] }
def K31.step1 (cK29 : K29.T) (cK16 : K16.T) (cK12 : K12.T) (cK17 : K17.T) (cK30 : K30.T) (a : (Int × Int × Unit) × (clock_Clock × qT3_)) : Option (((Int × Int × Unit) × (clock_Clock × qT3_)) ⊕ ((Unit × (clock_Clock × qT3_)))) :=
 (bif ile a.1.2.1 a.2.1.fconf.fPorts then (oelim ((oelim (cK30 a.1.2.1 a.1.1 a.2.1 a.2.2.2.1 a.2.2.2.2.1 a.2.2.2.2.2.2.2.1) none fun r0 => some (a.1, (r0.2.1.1, (a.2.2.1, (r0.2.1.2.1, (r0.2.1.2.2.1, (a.2.2.2.2.2.1, (a.2.2.2.2.2.2.1, r0.2.1.2.2.2))))))))) none fun r1 => some (.inl ((r1.1.1, (iadd .i64 r1.1.2.1 1, ())), r1.2))) else some (.inr ((), a.2)))
def K31.F1 : K31.l1T := fun a => Z8 (1000000) (K31.step1 K29 K16 K12 K17 K30) a
def K31.step0 (cK29 : K29.T) (cK16 : K16.T) (cK12 : K12.T) (cK17 : K17.T) (cK30 : K30.T) (a : (Int × Int × Unit) × (clock_Clock × qT3_)) : Option (((Int × Int × Unit) × (clock_Clock × qT3_)) ⊕ (((Int × Unit) × (clock_Clock × qT3_)))) :=
 (bif ile a.1.2.1 a.2.1.fconf.fPorts then (oelim ((oelim (cK29 a.1.2.1 a.2.1) none fun r0 => (oelim (cK16 r0.1.1 a.2.1 a.2.2.1 a.2.2.2.2.2.2.2.1) none fun r1 => some (a.1, (r1.2.1.1, (r1.2.1.2.1, (a.2.2.2.1, (a.2.2.2.2.1, (a.2.2.2.2.2.1, (a.2.2.2.2.2.2.1, r1.2.1.2.2)))))))))) none fun r2 => some (.inl ((r2.1.1, (iadd .i64 r2.1.2.1 1, ())), r2.2))) else some (.inr ((a.1.1, ()), a.2)))
def K31.F0 : K31.l0T := fun a => Z8 (1000000) (K31.step0 K29 K16 K12 K17 K30) a
def K31.gen (cK29 : K29.T) (cK16 : K16.T) (cK12 : K12.T) (cK17 : K17.T) (cK30 : K30.T) (l0 : K31.l0T) (l1 : K31.l1T) : K31.T := fun now h0 g6 g7 g8 g9 g10 g12 =>
 (oelim (l0 ((now, (1 : Int), ()), clock_Clock.set_fticks h0 (Z4 false (iadd .i64 h0.fticks 1) 1099511627776), g6, g7, g8, g9, g10, g12, ())) none fun r0 => (oelim (cK12 r0.2.1) none fun r1 => (bif ine r1.1.1 0 then (oelim ((bif ieq (irem r0.2.1.fticks r1.1.1) 0 then (oelim (cK17 r0.2.1 r0.2.2.1 r0.2.2.2.1 r0.2.2.2.2.2.1 r0.2.2.2.2.2.2.1) none fun r2 => some (r0.1, (r2.2.1.1, (r2.2.1.2.1, (r2.2.1.2.2.1, (r0.2.2.2.2.1, (r2.2.1.2.2.2.1, (r2.2.1.2.2.2.2.1, r0.2.2.2.2.2.2.2)))))))) else some r0)) none fun r3 => (oelim (l1 ((r3.1.1, (1 : Int), ()), r3.2)) none fun r4 => some ((), (r4.2, ())))) else none)))
def K31 : K31.T := K31.gen K29 K16 K12 K17 K30 K31.F0 K31.F1
theorem K31.seq1 (cK29 : K29.T) (cK16 : K16.T) (cK12 : K12.T) (cK17 : K17.T) (cK30 : K30.T) (l0 : K31.l0T) (l1 : K31.l1T) (a : K31.L1.T) : run Tryz.prog (K31.H cK29 cK16 cK12 cK17 cK30 l0 l1) 6 (Option (K31.L1.T ⊕ ExT K31.X1)) none K31.B1 (K31.L1.enc a) (Zn (0, 14) K31.L1 K31.X1) = K31.step1 cK29 cK16 cK12 cK17 cK30 a := by kernel_rfl
abbrev K31.h := K31.H K29 K16 K12 K17 K30 K31.F0 K31.F1
theorem K31.lok1 : LO_ K31.h K31.B1 (Za (0, 14) K31.L1 K31.X1 K31.F1) := lk_ (hn_ (Z0 (Z0 (Z0 (Z0 (Z0 Z2 K29.ok) K16.ok) K12.ok) K17.ok) K30.ok)) (K31.seq1 K29 K16 K12 K17 K30 K31.F0 K31.F1)
theorem K31.seq0 (cK29 : K29.T) (cK16 : K16.T) (cK12 : K12.T) (cK17 : K17.T) (cK30 : K30.T) (l0 : K31.l0T) (l1 : K31.l1T) (a : K31.L0.T) : run Tryz.prog (K31.H cK29 cK16 cK12 cK17 cK30 l0 l1) 6 (Option (K31.L0.T ⊕ ExT K31.X0)) none K31.B0 (K31.L0.enc a) (Zn (0, 14) K31.L0 K31.X0) = K31.step0 cK29 cK16 cK12 cK17 cK30 a := by kernel_rfl
theorem K31.lok0 : LO_ K31.h K31.B0 (Za (0, 14) K31.L0 K31.X0 K31.F0) := lk_ (hn_ (Z0 (Z0 (Z0 (Z0 (Z0 Z2 K29.ok) K16.ok) K12.ok) K17.ok) K30.ok)) (K31.seq0 K29 K16 K12 K17 K30 K31.F0 K31.F1)
theorem K31.eq (cK29 : K29.T) (cK16 : K16.T) (cK12 : K12.T) (cK17 : K17.T) (cK30 : K30.T) (l0 : K31.l0T) (l1 : K31.l1T) : EqA K31.sig (K31.H cK29 cK16 cK12 cK17 cK30 l0 l1) Tryz.f44 6 (K31.W (K31.gen cK29 cK16 cK12 cK17 cK30 l0 l1)) := by intro a x; kernel_rfl
theorem K31.loops : Z3 K31.C = [(.loop K31.B0), (.loop K31.B1)] := by kernel_rfl
theorem K31.ok : NK_ 44 K31.sig (K31.W K31) := ok_ Tryz.func44 (K31.eq K29 K16 K12 K17 K30 K31.F0 K31.F1) (hl_ (Z0 (Z0 (Z0 (Z0 (Z0 Z2 K29.ok) K16.ok) K12.ok) K17.ok) K30.ok) (Z9 (by kernel_rfl) K31.lok0 (Z9 (by kernel_rfl) K31.lok1 Z6))) K31.loops
def K96.sig : Sig U := ⟨[.isl .u8, .int .i64, .int .i64], [], 0, [.bool], false, []⟩
abbrev K96.T : Type := (List (UInt8)) → (Int) → (Int) → Option ((Bool × Unit) × Unit × Unit)
def K96.W (f : K96.T) : K96.sig.F := fun a x => f a.1 a.2.1 a.2.2.1
def K96.H : Hints U := { Γ := noΓ, ro := 0, base := 13 }
def K96.gen : K96.T := fun b at_1 n =>
 (bif ilt n 0 then some ((true, ()), ((), ())) else (bif ilt at_1 0 then some ((true, ()), ((), ())) else (bif ilt (ofN (List.length b)) at_1 then some ((true, ()), ((), ())) else some ((ilt (isub .i64 (ofN (List.length b)) at_1) n, ()), ((), ())))))
def K96 : K96.T := K96.gen
theorem K96.ok : NK_ 167 K96.sig (K96.W K96) := ok_ (H := K96.H) (n := 6) Tryz.func167 (by intro a x; kernel_rfl) (hn_ Z2)
def K97.sig : Sig U := ⟨[.isl .u8], [], 0, [.int .u64], false, []⟩
abbrev K97.T : Type := (List (UInt8)) → Option ((Int × Unit) × Unit × Unit)
def K97.W (f : K97.T) : K97.sig.F := fun a x => f a.1
def K97.L0 : Shape U := ⟨19, 13, [(3, .val (.int .u64)), (6, .val (.isl .u8)), (7, vi_), (8, vi_)], []⟩
def K97.X0 : Exits U := [(.exit 0, ⟨19, 13, [(3, .val (.int .u64))], []⟩)]
abbrev K97.l0T : Type := ((Int × (List (UInt8)) × Int × Int × Unit) × Unit) → Option (((Int × Unit) × Unit))
def K97.C : Code := match Tryz.f168.body with | some c => c | none => .skip
def K97.B0 : Code := match (Z3 K97.C).getD 0 .skip with | .loop b => b | .scope b => b | _ => .skip
def K97.H (l0 : K97.l0T) : Hints U := { Γ := noΓ, ro := 0, base := 13, loop := jt_ [(3, (Za (0, 13) K97.L0 K97.X0 l0))] }
def K97.step0 (a : (Int × (List (UInt8)) × Int × Int × Unit) × Unit) : Option (((Int × (List (UInt8)) × Int × Int × Unit) × Unit) ⊕ (((Int × Unit) × Unit))) :=
 (bif ilt a.1.2.2.2.1 a.1.2.2.1 then (bif inR a.1.2.2.2.1 (List.length a.1.2.1) then some (.inl ((ior .u64 (ishl .u64 a.1.1 8) (IntKind.wrap .u64 (ofN (UInt8.toNat (List.getD a.1.2.1 (Int.toNat a.1.2.2.2.1) (0 : D UC.u8))))), (a.1.2.1, (a.1.2.2.1, (iadd .i64 a.1.2.2.2.1 1, ())))), ())) else none) else some (.inr ((a.1.1, ()), ())))
def K97.F0 : K97.l0T := fun a => Z8 (1000000 + (a.1.2.1.length)) (K97.step0) a
def K97.gen (l0 : K97.l0T) : K97.T := fun b =>
 (oelim (l0 (((0 : Int), b, ofN (List.length b), (0 : Int), ()), ())) none fun r0 => some (r0.1, ((), ())))
def K97 : K97.T := K97.gen K97.F0
theorem K97.seq0 (l0 : K97.l0T) (a : K97.L0.T) : run Tryz.prog (K97.H l0) 6 (Option (K97.L0.T ⊕ ExT K97.X0)) none K97.B0 (K97.L0.enc a) (Zn (0, 13) K97.L0 K97.X0) = K97.step0 a := by kernel_rfl
abbrev K97.h := K97.H K97.F0
theorem K97.lok0 : LO_ K97.h K97.B0 (Za (0, 13) K97.L0 K97.X0 K97.F0) := lk_ (hn_ Z2) (K97.seq0 K97.F0)
theorem K97.eq (l0 : K97.l0T) : EqA K97.sig (K97.H l0) Tryz.f168 6 (K97.W (K97.gen l0)) := by intro a x; kernel_rfl
theorem K97.loops : Z3 K97.C = [(.loop K97.B0)] := by kernel_rfl
theorem K97.ok : NK_ 168 K97.sig (K97.W K97) := ok_ Tryz.func168 (K97.eq K97.F0) (hl_ Z2 (Z9 (by kernel_rfl) K97.lok0 Z6)) K97.loops
def K91.sig : Sig U := ⟨[.isl .u8, .int .i64, .int .i64], [], 0, [.int .i64, .bool], true, []⟩
abbrev K91.T : Type := (List (UInt8)) → (Int) → (Int) → Option ((Int × Bool × Unit) × Unit × Unit)
def K91.W (f : K91.T) : K91.sig.F := fun a x => f a.1 a.2.1 a.2.2.1
abbrev K91.N (c : K91.T) := addΓ 101 (K91.sig.native (K91.W c))
def K91.H (cK96 : K96.T) (cK97 : K97.T) : Hints U := { Γ := (addΓ 168 (K97.sig.native (K97.W cK97)) (addΓ 167 (K96.sig.native (K96.W cK96)) noΓ)), ro := 0, base := 13, joinQ := jt_ [(1, [(19, vb_)])] }
def K91.gen (cK96 : K96.T) (cK97 : K97.T) : K91.T := fun b at_1 n =>
 (oelim ((bif ilt n 1 then some (true, ()) else (bif ilt 7 n then some (true, ()) else (oelim (cK96 b at_1 n) none fun r0 => some r0.1)))) none fun r1 => (bif r1.1 then some (((0 : Int), (false, ())), ((), ())) else (bif le3 at_1 (iadd .i64 at_1 n) (List.length b) then (oelim (cK97 (List.drop (Int.toNat at_1) (List.take (Int.toNat (iadd .i64 at_1 n)) b))) none fun r2 => some ((IntKind.wrap .i64 r2.1.1, (true, ())), ((), ()))) else none)))
def K91 : K91.T := K91.gen K96 K97
theorem K91.eq (cK96 : K96.T) (cK97 : K97.T) : EqA K91.sig (K91.H cK96 cK97) Tryz.f101 6 (K91.W (K91.gen cK96 cK97)) := by intro a x; kernel_rfl
theorem K91.ok : NK_ 101 K91.sig (K91.W K91) := ok_ Tryz.func101 (K91.eq K96 K97) (hn_ (Z0 (Z0 Z2 K96.ok) K97.ok))
def K95.sig : Sig U := ⟨[.isl .u8, .int .i64, .int .i64], [], 0, [.int .i64, .bool], true, []⟩
abbrev K95.T : Type := (List (UInt8)) → (Int) → (Int) → Option ((Int × Bool × Unit) × Unit × Unit)
def K95.W (f : K95.T) : K95.sig.F := fun a x => f a.1 a.2.1 a.2.2.1
abbrev K95.N (c : K95.T) := addΓ 104 (K95.sig.native (K95.W c))
def K95.H (cK96 : K96.T) (cK97 : K97.T) : Hints U := { Γ := (addΓ 168 (K97.sig.native (K97.W cK97)) (addΓ 167 (K96.sig.native (K96.W cK96)) noΓ)), ro := 0, base := 13, joinQ := jt_ [(1, [(20, vb_)])] }
def K95.gen (cK96 : K96.T) (cK97 : K97.T) : K95.T := fun b at_1 n =>
 (oelim ((bif ilt n 1 then some (true, ()) else (bif ilt 8 n then some (true, ()) else (oelim (cK96 b at_1 n) none fun r0 => some r0.1)))) none fun r1 => (bif r1.1 then some (((0 : Int), (false, ())), ((), ())) else (bif le3 at_1 (iadd .i64 at_1 n) (List.length b) then (oelim (cK97 (List.drop (Int.toNat at_1) (List.take (Int.toNat (iadd .i64 at_1 n)) b))) none fun r2 => (bif ile 0 (isub .i64 64 (imul .i64 8 n)) then (bif ile 0 (isub .i64 64 (imul .i64 8 n)) then some ((ishr .i64 (IntKind.wrap .i64 (ishl .u64 r2.1.1 (isub .i64 64 (imul .i64 8 n)))) (isub .i64 64 (imul .i64 8 n)), (true, ())), ((), ())) else none) else none)) else none)))
def K95 : K95.T := K95.gen K96 K97
theorem K95.eq (cK96 : K96.T) (cK97 : K97.T) : EqA K95.sig (K95.H cK96 cK97) Tryz.f104 6 (K95.W (K95.gen cK96 cK97)) := by intro a x; kernel_rfl
theorem K95.ok : NK_ 104 K95.sig (K95.W K95) := ok_ Tryz.func104 (K95.eq K96 K97) (hn_ (Z0 (Z0 Z2 K96.ok) K97.ok))
def K92.sig : Sig U := ⟨[.isl .u8, .int .i64], [], 0, [.int .u64, .bool], true, []⟩
abbrev K92.T : Type := (List (UInt8)) → (Int) → Option ((Int × Bool × Unit) × Unit × Unit)
def K92.W (f : K92.T) : K92.sig.F := fun a x => f a.1 a.2.1
abbrev K92.N (c : K92.T) := addΓ 111 (K92.sig.native (K92.W c))
def K92.H (cK95 : K95.T) : Hints U := { Γ := (K95.N cK95 noΓ), ro := 0, base := 13 }
def K92.gen (cK95 : K95.T) : K92.T := fun b at_1 =>
 (oelim (cK95 b at_1 8) none fun r0 => some ((IntKind.wrap .u64 r0.1.1, r0.1.2), ((), ())))
def K92 : K92.T := K92.gen K95
theorem K92.eq (cK95 : K95.T) : EqA K92.sig (K92.H cK95) Tryz.f111 6 (K92.W (K92.gen cK95)) := by intro a x; kernel_rfl
theorem K92.ok : NK_ 111 K92.sig (K92.W K92) := ok_ Tryz.func111 (K92.eq K95) (hn_ (Z0 Z2 K95.ok))
def K75.sig : Sig U := ⟨[.isl .u8, .int .i64], [], 0, [.data .t_api_PortID, .bool], true, []⟩
abbrev K75.T : Type := (List (UInt8)) → (Int) → Option ((api_PortID × Bool × Unit) × Unit × Unit)
def K75.W (f : K75.T) : K75.sig.F := fun a x => f a.1 a.2.1
def K75.H (cK92 : K92.T) (cK91 : K91.T) : Hints U := { Γ := (K91.N cK91 (K92.N cK92 noΓ)), ro := 0, base := 13, joinQ := jt_ [(1, [(24, vb_)])] }
def K75.gen (cK92 : K92.T) (cK91 : K91.T) : K75.T := fun b at_1 =>
 (oelim ((bif ilt at_1 0 then some (true, ()) else (bif ilt (ofN (List.length b)) at_1 then some (true, ()) else some (ilt (isub .i64 (ofN (List.length b)) at_1) 10, ())))) none fun r0 => (bif r0.1 then some ((api_PortID.mk 0 0, (false, ())), ((), ())) else (oelim (cK92 b at_1) none fun r1 => (oelim (cK91 b (iadd .i64 at_1 8) 2) none fun r2 => some ((api_PortID.mk r1.1.1 r2.1.1, (true, ())), ((), ()))))))
def K75 : K75.T := K75.gen K92 K91
theorem K75.eq (cK92 : K92.T) (cK91 : K91.T) : EqA K75.sig (K75.H cK92 cK91) Tryz.f105 6 (K75.W (K75.gen cK92 cK91)) := by intro a x; kernel_rfl
theorem K75.ok : NK_ 105 K75.sig (K75.W K75) := ok_ Tryz.func105 (K75.eq K92 K91) (hn_ (Z0 (Z0 Z2 K92.ok) K91.ok))
def K69.sig : Sig U := ⟨[.isl .u8], [], 0, [.data .t_api_Msg, .int .i64, .int .i64], true, []⟩
abbrev K69.T : Type := (List (UInt8)) → Option ((api_Msg × Int × Int × Unit) × Unit × Unit)
def K69.W (f : K69.T) : K69.sig.F := fun a x => f a.1
def K69.H (cK91 : K91.T) (cK70 : K70.T) (cK73 : K73.T) (cK95 : K95.T) (cK75 : K75.T) : Hints U := { Γ := (addΓ 105 (K75.sig.native (K75.W cK75)) (K95.N cK95 (K73.N cK73 (addΓ 102 (K70.sig.native (K70.W cK70)) (K91.N cK91 noΓ))))), ro := 0, base := 13, joinQ := jt_ [(4, [(17, vb_)])] }
def K69.gen (cK91 : K91.T) (cK70 : K70.T) (cK73 : K73.T) (cK95 : K95.T) (cK75 : K75.T) : K69.T := fun b =>
 (bif ilt (ofN (List.length b)) 34 then some ((api_Msg.mk 0 0 0 0 z0_ 0 0 0 z0_ 0 0 z1_ 0 0 0 0 0 0 0, ((0 : Int), ((2 : Int), ()))), ((), ())) else (oelim (cK91 b 2 2) none fun r0 => (oelim ((bif inR 0 (List.length b) then (oelim (cK70 (IntKind.wrap .i64 (ofN (UInt8.toNat (List.getD b (Int.toNat 0) (0 : D UC.u8)))))) none fun r1 => (bif !r1.1.1 then some (true, ()) else (bif inR 1 (List.length b) then (bif ine (iand .u8 (ofN (UInt8.toNat (List.getD b (Int.toNat 1) (0 : D UC.u8)))) 15) 2 then some (true, ()) else (oelim (cK73 r0.1.1 34 400) none fun r2 => some (!r2.1.1, ()))) else none))) else none)) none fun r3 => (bif r3.1 then some ((api_Msg.mk 0 0 0 0 z0_ 0 0 0 z0_ 0 0 z1_ 0 0 0 0 0 0 0, ((0 : Int), ((4 : Int), ()))), ((), ())) else (bif ilt (ofN (List.length b)) r0.1.1 then some ((api_Msg.mk 0 0 0 0 z0_ 0 0 0 z0_ 0 0 z1_ 0 0 0 0 0 0 0, ((0 : Int), ((2 : Int), ()))), ((), ())) else (bif ilt r0.1.1 (ofN (List.length b)) then some ((api_Msg.mk 0 0 0 0 z0_ 0 0 0 z0_ 0 0 z1_ 0 0 0 0 0 0 0, ((0 : Int), ((3 : Int), ()))), ((), ())) else (bif inR 0 (List.length b) then (bif inR 4 (List.length b) then (oelim (cK91 b 6 2) none fun r4 => (oelim (cK95 b 8 8) none fun r5 => (oelim (cK75 b 20) none fun r6 => (oelim (cK91 b 30 2) none fun r7 => (oelim (cK95 b 33 1) none fun r8 => some ((api_Msg.mk (IntKind.wrap .i64 (ofN (UInt8.toNat (List.getD b (Int.toNat 0) (0 : D UC.u8))))) (IntKind.wrap .i64 (ofN (UInt8.toNat (List.getD b (Int.toNat 4) (0 : D UC.u8))))) r4.1.1 r5.1.1 r6.1.1 r7.1.1 r8.1.1 0 z0_ 0 0 z1_ 0 0 0 0 0 0 0, (r0.1.1, ((0 : Int), ()))), ((), ()))))))) else none) else none)))))))
def K69 : K69.T := K69.gen K91 K70 K73 K95 K75
theorem K69.eq (cK91 : K91.T) (cK70 : K70.T) (cK73 : K73.T) (cK95 : K95.T) (cK75 : K75.T) : EqA K69.sig (K69.H cK91 cK70 cK73 cK95 cK75) Tryz.f53 6 (K69.W (K69.gen cK91 cK70 cK73 cK95 cK75)) := by intro a x; kernel_rfl
theorem K69.ok : NK_ 53 K69.sig (K69.W K69) := ok_ Tryz.func53 (K69.eq K91 K70 K73 K95 K75) (hn_ (Z0 (Z0 (Z0 (Z0 (Z0 Z2 K91.ok) K70.ok) K73.ok) K95.ok) K75.ok))
def K2.sig : Sig U := ⟨[.int .i64], [], 0, [.int .i64], false, []⟩
abbrev K2.T : Type := (Int) → Option ((Int × Unit) × Unit × Unit)
def K2.W (f : K2.T) : K2.sig.F := fun a x => f a.1
def K2.JC8 : Exits U := [(.normal, ⟨18, 13, [(3, vi_), (9, vb_)], []⟩)]
def K2.JC6 : Exits U := [(.normal, ⟨18, 13, [], []⟩),
 (.ret, ⟨18, 13, [(2, vi_)], []⟩)]
def K2.JC3 : Exits U := [(.normal, ⟨18, 13, [(3, vi_), (4, vb_)], []⟩)]
def K2.H : Hints U := { Γ := noΓ, ro := 0, base := 13, joinC := jt_ [(3, K2.JC3), (6, K2.JC6), (8, K2.JC8)] }
def K2.gen : K2.T := fun typ =>
 (oelim ((bif ieq typ 0 then some ((typ, (ieq typ 0, ())), ()) else (bif ieq typ 1 then some ((typ, (ieq typ 1, ())), ()) else (bif ieq typ 8 then some ((typ, (ieq typ 8, ())), ()) else some ((typ, (ieq typ 12, ())), ()))))) none fun r0 => (oelim ((bif r0.1.2.1 then some (.inr (((10 : Int), ()), ())) else (oelim ((bif ieq r0.1.1 2 then some ((r0.1.1, (ieq r0.1.1 2, ())), ()) else (bif ieq r0.1.1 3 then some ((r0.1.1, (ieq r0.1.1 3, ())), ()) else (bif ieq r0.1.1 10 then some ((r0.1.1, (ieq r0.1.1 10, ())), ()) else some ((r0.1.1, (ieq r0.1.1 9, ())), ()))))) none fun r1 => (bif r1.1.2.1 then some (.inr (((20 : Int), ()), ())) else (bif ieq r1.1.1 11 then some (.inr (((30 : Int), ()), ())) else (bif ieq r1.1.1 13 then some (.inr (((14 : Int), ()), ())) else some (.inl ((), ())))))))) none fun r2 => (selim r2 (fun r3 => some (((0 : Int), ()), ((), ()))) (fun r3 => some (r3.1, ((), ()))))))
def K2 : K2.T := K2.gen
theorem K2.ok : NK_ 106 K2.sig (K2.W K2) := ok_ (H := K2.H) (n := 6) Tryz.func106 (by intro a x; kernel_rfl) (hn_ Z2)
def K132.sig : Sig U := ⟨[.isl .u8, .int .i64], [], 0, [.int .i64, .bool], true, []⟩
abbrev K132.T : Type := (List (UInt8)) → (Int) → Option ((Int × Bool × Unit) × Unit × Unit)
def K132.W (f : K132.T) : K132.sig.F := fun a x => f a.1 a.2.1
def K132.H (cK91 : K91.T) (cK133 : K133.T) : Hints U := { Γ := (K133.N cK133 (K91.N cK91 noΓ)), ro := 0, base := 13, joinQ := jt_ [(1, [(24, vb_)]), (5, [(51, vb_)])] }
def K132.gen (cK91 : K91.T) (cK133 : K133.T) : K132.T := fun b at_1 =>
 (oelim ((bif ilt at_1 0 then some (true, ()) else (bif ilt (ofN (List.length b)) at_1 then some (true, ()) else some (ilt (isub .i64 (ofN (List.length b)) at_1) 10, ())))) none fun r0 => (bif r0.1 then some (((0 : Int), (false, ())), ((), ())) else (oelim (cK91 b at_1 6) none fun r1 => (oelim (cK91 b (iadd .i64 at_1 6) 4) none fun r2 => (oelim ((bif ile 1000000000 r2.1.1 then some (true, ()) else (bif ilt 4000000 r1.1.1 then some (true, ()) else (oelim (cK133 (iadd .i64 (imul .i64 r1.1.1 1000000000) r2.1.1)) none fun r3 => some (!r3.1.1, ()))))) none fun r4 => (bif r4.1 then some (((0 : Int), (false, ())), ((), ())) else some ((iadd .i64 (imul .i64 r1.1.1 1000000000) r2.1.1, (true, ())), ((), ()))))))))
def K132 : K132.T := K132.gen K91 K133
theorem K132.eq (cK91 : K91.T) (cK133 : K133.T) : EqA K132.sig (K132.H cK91 cK133) Tryz.f108 6 (K132.W (K132.gen cK91 cK133)) := by intro a x; kernel_rfl
theorem K132.ok : NK_ 108 K132.sig (K132.W K132) := ok_ Tryz.func108 (K132.eq K91 K133) (hn_ (Z0 (Z0 Z2 K91.ok) K133.ok))
def K114.sig : Sig U := ⟨[.isl .u8, .int .i64], [], 0, [.data .t_api_Quality, .bool], true, []⟩
abbrev K114.T : Type := (List (UInt8)) → (Int) → Option ((api_Quality × Bool × Unit) × Unit × Unit)
def K114.W (f : K114.T) : K114.sig.F := fun a x => f a.1 a.2.1
def K114.H (cK91 : K91.T) : Hints U := { Γ := (K91.N cK91 noΓ), ro := 0, base := 13, joinQ := jt_ [(1, [(21, vb_)])] }
def K114.gen (cK91 : K91.T) : K114.T := fun b at_1 =>
 (oelim ((bif ilt at_1 0 then some (true, ()) else (bif ilt (ofN (List.length b)) at_1 then some (true, ()) else some (ilt (isub .i64 (ofN (List.length b)) at_1) 4, ())))) none fun r0 => (bif r0.1 then some ((api_Quality.mk 0 0 0, (false, ())), ((), ())) else (oelim (cK91 b at_1 1) none fun r1 => (oelim (cK91 b (iadd .i64 at_1 1) 1) none fun r2 => (oelim (cK91 b (iadd .i64 at_1 2) 2) none fun r3 => some ((api_Quality.mk r1.1.1 r2.1.1 r3.1.1, (true, ())), ((), ())))))))
def K114 : K114.T := K114.gen K91
theorem K114.eq (cK91 : K91.T) : EqA K114.sig (K114.H cK91) Tryz.f110 6 (K114.W (K114.gen cK91)) := by intro a x; kernel_rfl
theorem K114.ok : NK_ 110 K114.sig (K114.W K114) := ok_ Tryz.func110 (K114.eq K91) (hn_ (Z0 Z2 K91.ok))
def K1.sig : Sig U := ⟨[.data .t_api_Msg, .isl .u8, .int .i64], [], 0, [.data .t_api_Msg, .int .i64, .int .i64], true, []⟩
abbrev K1.T : Type := (api_Msg) → (List (UInt8)) → (Int) → Option ((api_Msg × Int × Int × Unit) × Unit × Unit)
def K1.W (f : K1.T) : K1.sig.F := fun a x => f a.1 a.2.1 a.2.2.1
def K1.C : Code := match Tryz.f54.body with | some c => c | none => .skip
def K1.B0 : Code := match (Z3 K1.C).getD 0 .skip with | .loop b => b | .scope b => b | _ => .skip
def K1.JC14 : Exits U := [(.normal, ⟨151, 15, [(3, .ptr 13 0 0), (6, .ptr 14 0 0), (9, vi_), (10, vi_)], [(13, .obj .t_api_Msg), (14, .obj .t_api_Msg)]⟩)]
def K1.JC10 : Exits U := [(.normal, ⟨151, 15, [(1, .val (.isl .u8)), (2, vi_), (3, .ptr 13 0 0), (6, .ptr 14 0 0), (9, vi_), (10, vi_)], [(13, .obj .t_api_Msg), (14, .obj .t_api_Msg)]⟩)]
def K1.H (cK2 : K2.T) (cK6 : K6.T) (cK132 : K132.T) (cK7 : K7.T) (cK75 : K75.T) (cK95 : K95.T) (cK91 : K91.T) (cK114 : K114.T) (cK92 : K92.T) : Hints U := { Γ := (K92.N cK92 (addΓ 110 (K114.sig.native (K114.W cK114)) (K91.N cK91 (K95.N cK95 (addΓ 105 (K75.sig.native (K75.W cK75)) (K7.N cK7 (addΓ 108 (K132.sig.native (K132.W cK132)) (K6.N cK6 (addΓ 106 (K2.sig.native (K2.W cK2)) noΓ))))))))), ro := 0, base := 13, joinQ := jt_ [(2, [(31, vb_)]), (4, [(40, vb_)])], joinC := jt_ [(10, K1.JC10), (14, K1.JC14)], gotos := 3, loop := fun b => none }
def K1.gen (cK2 : K2.T) (cK6 : K6.T) (cK132 : K132.T) (cK7 : K7.T) (cK75 : K75.T) (cK95 : K95.T) (cK91 : K91.T) (cK114 : K114.T) (cK92 : K92.T) : K1.T := fun m b at_2 =>
 (oelim (cK2 m.fType) none fun r0 => (oelim ((bif ilt at_2 0 then some (true, ()) else (bif ilt (ofN (List.length b)) at_2 then some (true, ()) else some (ilt (isub .i64 (ofN (List.length b)) at_2) r0.1.1, ())))) none fun r1 => (bif r1.1 then some ((api_Msg.mk 0 0 0 0 z0_ 0 0 0 z0_ 0 0 z1_ 0 0 0 0 0 0 0, ((0 : Int), ((2 : Int), ()))), ((), ())) else (oelim ((bif ieq r0.1.1 0 then some (true, ()) else (oelim (cK6 m.fType) none fun r2 => some (!r2.1.1, ())))) none fun r3 => (bif r3.1 then (oelim (cK7 m.fType) none fun r4 => (oelim ((bif r4.1.1 then (oelim (cK75 b at_2) none fun r5 => some ((b, (iadd .i64 at_2 10, (at_2, r0.1))), (api_Msg.set_fTarget m r5.1.1, (api_Msg.mk 0 0 0 0 z0_ 0 0 0 z0_ 0 0 z1_ 0 0 0 0 0 0 0, ())))) else some ((b, (at_2, (at_2, r0.1))), (m, (api_Msg.mk 0 0 0 0 z0_ 0 0 0 z0_ 0 0 z1_ 0 0 0 0 0 0 0, ()))))) none fun r6 => (oelim ((bif ieq r6.2.1.fType 11 then (oelim (cK95 r6.1.1 r6.1.2.1 2) none fun r7 => (oelim (cK91 r6.1.1 (iadd .i64 r6.1.2.1 3) 1) none fun r8 => (oelim (cK114 r6.1.1 (iadd .i64 r6.1.2.1 4)) none fun r9 => (oelim (cK91 r6.1.1 (iadd .i64 r6.1.2.1 8) 1) none fun r10 => (oelim (cK92 r6.1.1 (iadd .i64 r6.1.2.1 9)) none fun r11 => (oelim (cK91 r6.1.1 (iadd .i64 r6.1.2.1 17) 2) none fun r12 => (oelim (cK91 r6.1.1 (iadd .i64 r6.1.2.1 19) 1) none fun r13 => some (r6.1.2.2, (api_Msg.set_fOrigin (api_Msg.set_fSteps (api_Msg.set_fGrand (api_Msg.set_fPriority2 (api_Msg.set_fQuality (api_Msg.set_fPriority1 (api_Msg.set_fUtc r6.2.1 r7.1.1) r8.1.1) r9.1.1) r10.1.1) r11.1.1) r12.1.1) r13.1.1, r6.2.2))))))))) else (bif ieq r6.2.1.fType 13 then (bif inR r6.1.2.1 (List.length r6.1.1) then (bif inR (iadd .i64 r6.1.2.1 1) (List.length r6.1.1) then (bif inR (iadd .i64 r6.1.2.1 2) (List.length r6.1.1) then some (r6.1.2.2, (api_Msg.set_fAction (api_Msg.set_fHops (api_Msg.set_fStartHops r6.2.1 (IntKind.wrap .i64 (ofN (UInt8.toNat (List.getD r6.1.1 (Int.toNat r6.1.2.1) (0 : D UC.u8)))))) (IntKind.wrap .i64 (ofN (UInt8.toNat (List.getD r6.1.1 (Int.toNat (iadd .i64 r6.1.2.1 1)) (0 : D UC.u8)))))) (IntKind.wrap .i64 (iand .u8 (ofN (UInt8.toNat (List.getD r6.1.1 (Int.toNat (iadd .i64 r6.1.2.1 2)) (0 : D UC.u8)))) 15)), r6.2.2)) else none) else none) else none) else some (r6.1.2.2, r6.2)))) none fun r14 => some ((r14.2.1, (iadd .i64 r14.1.1 r14.1.2.1, ((0 : Int), ()))), ((), ()))))) else (oelim (cK132 b at_2) none fun r15 => (bif !r15.1.2.1 then some ((api_Msg.mk 0 0 0 0 z0_ 0 0 0 z0_ 0 0 z1_ 0 0 0 0 0 0 0, ((0 : Int), ((10 : Int), ()))), ((), ())) else (oelim (cK7 m.fType) none fun r16 => (oelim ((bif r16.1.1 then (oelim (cK75 b (iadd .i64 at_2 10)) none fun r17 => some ((b, (iadd .i64 (iadd .i64 at_2 10) 10, (at_2, r0.1))), (api_Msg.set_fTarget (api_Msg.set_fStamp m r15.1.1) r17.1.1, (api_Msg.mk 0 0 0 0 z0_ 0 0 0 z0_ 0 0 z1_ 0 0 0 0 0 0 0, ())))) else some ((b, (iadd .i64 at_2 10, (at_2, r0.1))), (api_Msg.set_fStamp m r15.1.1, (api_Msg.mk 0 0 0 0 z0_ 0 0 0 z0_ 0 0 z1_ 0 0 0 0 0 0 0, ()))))) none fun r18 => (oelim ((bif ieq r18.2.1.fType 11 then (oelim (cK95 r18.1.1 r18.1.2.1 2) none fun r19 => (oelim (cK91 r18.1.1 (iadd .i64 r18.1.2.1 3) 1) none fun r20 => (oelim (cK114 r18.1.1 (iadd .i64 r18.1.2.1 4)) none fun r21 => (oelim (cK91 r18.1.1 (iadd .i64 r18.1.2.1 8) 1) none fun r22 => (oelim (cK92 r18.1.1 (iadd .i64 r18.1.2.1 9)) none fun r23 => (oelim (cK91 r18.1.1 (iadd .i64 r18.1.2.1 17) 2) none fun r24 => (oelim (cK91 r18.1.1 (iadd .i64 r18.1.2.1 19) 1) none fun r25 => some (r18.1.2.2, (api_Msg.set_fOrigin (api_Msg.set_fSteps (api_Msg.set_fGrand (api_Msg.set_fPriority2 (api_Msg.set_fQuality (api_Msg.set_fPriority1 (api_Msg.set_fUtc r18.2.1 r19.1.1) r20.1.1) r21.1.1) r22.1.1) r23.1.1) r24.1.1) r25.1.1, r18.2.2))))))))) else (bif ieq r18.2.1.fType 13 then (bif inR r18.1.2.1 (List.length r18.1.1) then (bif inR (iadd .i64 r18.1.2.1 1) (List.length r18.1.1) then (bif inR (iadd .i64 r18.1.2.1 2) (List.length r18.1.1) then some (r18.1.2.2, (api_Msg.set_fAction (api_Msg.set_fHops (api_Msg.set_fStartHops r18.2.1 (IntKind.wrap .i64 (ofN (UInt8.toNat (List.getD r18.1.1 (Int.toNat r18.1.2.1) (0 : D UC.u8)))))) (IntKind.wrap .i64 (ofN (UInt8.toNat (List.getD r18.1.1 (Int.toNat (iadd .i64 r18.1.2.1 1)) (0 : D UC.u8)))))) (IntKind.wrap .i64 (iand .u8 (ofN (UInt8.toNat (List.getD r18.1.1 (Int.toNat (iadd .i64 r18.1.2.1 2)) (0 : D UC.u8)))) 15)), r18.2.2)) else none) else none) else none) else some (r18.1.2.2, r18.2)))) none fun r26 => some ((r26.2.1, (iadd .i64 r26.1.1 r26.1.2.1, ((0 : Int), ()))), ((), ()))))))))))))
def K1 : K1.T := K1.gen K2 K6 K132 K7 K75 K95 K91 K114 K92
theorem K1.eq (cK2 : K2.T) (cK6 : K6.T) (cK132 : K132.T) (cK7 : K7.T) (cK75 : K75.T) (cK95 : K95.T) (cK91 : K91.T) (cK114 : K114.T) (cK92 : K92.T) : EqA K1.sig (K1.H cK2 cK6 cK132 cK7 cK75 cK95 cK91 cK114 cK92) Tryz.f54 6 (K1.W (K1.gen cK2 cK6 cK132 cK7 cK75 cK95 cK91 cK114 cK92)) := by intro a x; kernel_rfl
theorem K1.loops : Z3 K1.C = [(.scope K1.B0)] := by kernel_rfl
theorem K1.ok : NK_ 54 K1.sig (K1.W K1) := ok_ Tryz.func54 (K1.eq K2 K6 K132 K7 K75 K95 K91 K114 K92) (hl_ (Z0 (Z0 (Z0 (Z0 (Z0 (Z0 (Z0 (Z0 (Z0 Z2 K2.ok) K6.ok) K132.ok) K7.ok) K75.ok) K95.ok) K91.ok) K114.ok) K92.ok) (Zx Z6)) K1.loops
def K143.sig : Sig U := ⟨[.isl .u8, .int .i64], [], 0, [.isl .t_api_Tlv, .int .i64], true, []⟩
abbrev K143.T : Type := (List (UInt8)) → (Int) → Option (((List (api_Tlv)) × Int × Unit) × Unit × Unit)
def K143.W (f : K143.T) : K143.sig.F := fun a x => f a.1 a.2.1
def K143.L1 : Shape U := ⟨81, 14, [(0, .val (.isl .u8)), (1, vi_), (6, .own .t_api_Tlv 13), (7, vi_)], [(13, .tok)]⟩
def K143.X1 : Exits U := [(.exit 0, ⟨81, 14, [(6, .own .t_api_Tlv 13), (7, vi_)], [(13, .tok)]⟩)]
abbrev K143.l1T : Type := (((List (UInt8)) × Int × (List (api_Tlv)) × Int × Unit) × Unit) → Option ((((List (api_Tlv)) × Int × Unit) × Unit))
def K143.C : Code := match Tryz.f55.body with | some c => c | none => .skip
def K143.B0 : Code := match (Z3 K143.C).getD 0 .skip with | .loop b => b | .scope b => b | _ => .skip
def K143.B1 : Code := match (Z3 K143.C).getD 1 .skip with | .loop b => b | .scope b => b | _ => .skip
def K143.JC8 : Exits U := [(.normal, ⟨81, 14, [(0, .val (.isl .u8)), (1, vi_), (6, .own .t_api_Tlv 13), (7, vi_), (8, vi_)], [(13, .tok)]⟩)]
def K143.H (cK91 : K91.T) (l1 : K143.l1T) : Hints U := { Γ := (K91.N cK91 noΓ), ro := 0, base := 13, joinQ := jt_ [(1, [(19, vb_)]), (9, [(35, vb_)])], joinC := jt_ [(8, K143.JC8)], loop := jt_ [(5, (Za (0, 13) K143.L1 K143.X1 l1))] }
def K143.step1 (cK91 : K91.T) (a : ((List (UInt8)) × Int × (List (api_Tlv)) × Int × Unit) × Unit) : Option ((((List (UInt8)) × Int × (List (api_Tlv)) × Int × Unit) × Unit) ⊕ ((((List (api_Tlv)) × Int × Unit) × Unit))) :=
 (bif ilt a.1.2.1 (ofN (List.length a.1.1)) then (oelim (cK91 a.1.1 (iadd .i64 a.1.2.1 2) 2) none fun r0 => (oelim ((bif ieq (ofN (List.length a.1.2.2.1)) 8 then some ((a.1.1, (a.1.2.1, (a.1.2.2.1, ((7 : Int), (r0.1.1, ()))))), ()) else (oelim ((bif !r0.1.2.1 then some (true, ()) else some (ilt (isub .i64 (isub .i64 (ofN (List.length a.1.1)) a.1.2.1) 4) r0.1.1, ()))) none fun r1 => (bif r1.1 then some ((a.1.1, (a.1.2.1, (a.1.2.2.1, ((2 : Int), (r0.1.1, ()))))), ()) else (bif ine (irem r0.1.1 2) 0 then some ((a.1.1, (a.1.2.1, (a.1.2.2.1, ((4 : Int), (r0.1.1, ()))))), ()) else some ((a.1.1, (a.1.2.1, (a.1.2.2.1, (a.1.2.2.2.1, (r0.1.1, ()))))), ())))))) none fun r2 => (bif ine r2.1.2.2.2.1 0 then some (.inr ((r2.1.2.2.1, (r2.1.2.2.2.1, ())), ())) else (oelim (cK91 r2.1.1 r2.1.2.1 2) none fun r3 => (bif le3 (iadd .i64 r2.1.2.1 4) (iadd .i64 (iadd .i64 r2.1.2.1 4) r2.1.2.2.2.2.1) (List.length r2.1.1) then (bif room (List.length r2.1.2.2.1 + List.length (api_Tlv.mk r3.1.1 (ByteArray.mk (List.toArray (List.drop (Int.toNat (iadd .i64 r2.1.2.1 4)) (List.take (Int.toNat (iadd .i64 (iadd .i64 r2.1.2.1 4) r2.1.2.2.2.2.1)) r2.1.1)))) :: lnil api_Tlv)) 24 then some (.inl ((r2.1.1, (iadd .i64 r2.1.2.1 (iadd .i64 4 r2.1.2.2.2.2.1), (r2.1.2.2.1 ++ api_Tlv.mk r3.1.1 (ByteArray.mk (List.toArray (List.drop (Int.toNat (iadd .i64 r2.1.2.1 4)) (List.take (Int.toNat (iadd .i64 (iadd .i64 r2.1.2.1 4) r2.1.2.2.2.2.1)) r2.1.1)))) :: lnil api_Tlv, (r2.1.2.2.2.1, ())))), ())) else none) else none))))) else some (.inr (a.1.2.2, ())))
def K143.F1 : K143.l1T := fun a => Z8 (1000000 + (a.1.1.length + a.1.2.2.1.length)) (K143.step1 K91) a
def K143.gen (cK91 : K91.T) (l1 : K143.l1T) : K143.T := fun b at_1 =>
 (oelim ((bif ilt at_1 0 then some (true, ()) else some (ilt (ofN (List.length b)) at_1, ()))) none fun r0 => (bif r0.1 then some ((lnil api_Tlv, ((1 : Int), ())), ((), ())) else (oelim (l1 ((b, at_1, lnil api_Tlv, (0 : Int), ()), ())) none fun r1 => (bif ine r1.1.2.1 0 then some ((lnil api_Tlv, r1.1.2), ((), ())) else some ((r1.1.1, ((0 : Int), ())), ((), ()))))))
def K143 : K143.T := K143.gen K91 K143.F1
theorem K143.seq1 (cK91 : K91.T) (l1 : K143.l1T) (a : K143.L1.T) : run Tryz.prog (K143.H cK91 l1) 6 (Option (K143.L1.T ⊕ ExT K143.X1)) none K143.B1 (K143.L1.enc a) (Zn (0, 13) K143.L1 K143.X1) = K143.step1 cK91 a := by kernel_rfl
abbrev K143.h := K143.H K91 K143.F1
theorem K143.lok1 : LO_ K143.h K143.B1 (Za (0, 13) K143.L1 K143.X1 K143.F1) := lk_ (hn_ (Z0 Z2 K91.ok)) (K143.seq1 K91 K143.F1)
theorem K143.eq (cK91 : K91.T) (l1 : K143.l1T) : EqA K143.sig (K143.H cK91 l1) Tryz.f55 6 (K143.W (K143.gen cK91 l1)) := by intro a x; kernel_rfl
theorem K143.loops : Z3 K143.C = [(.scope K143.B0), (.loop K143.B1)] := by kernel_rfl
theorem K143.ok : NK_ 55 K143.sig (K143.W K143) := ok_ Tryz.func55 (K143.eq K91 K143.F1) (hl_ (Z0 Z2 K91.ok) (Zx (Z9 (by kernel_rfl) K143.lok1 Z6))) K143.loops
def K65.sig : Sig U := ⟨[.str], [], 0, [.data .t_api_Msg, .isl .t_api_Tlv, .int .i64], true, []⟩
abbrev K65.T : Type := (ByteArray) → Option ((api_Msg × (List (api_Tlv)) × Int × Unit) × Unit × Unit)
def K65.W (f : K65.T) : K65.sig.F := fun a x => f a.1
def K65.C : Code := match Tryz.f25.body with | some c => c | none => .skip
def K65.B0 : Code := match (Z3 K65.C).getD 0 .skip with | .loop b => b | .scope b => b | _ => .skip
def K65.H (cK69 : K69.T) (cK1 : K1.T) (cK143 : K143.T) : Hints U := { Γ := (addΓ 55 (K143.sig.native (K143.W cK143)) (addΓ 54 (K1.sig.native (K1.W cK1)) (addΓ 53 (K69.sig.native (K69.W cK69)) noΓ))), ro := 0, base := 13, gotos := 3, loop := fun b => none }
def K65.gen (cK69 : K69.T) (cK1 : K1.T) (cK143 : K143.T) : K65.T := fun b =>
 (oelim (cK69 b.data.toList) none fun r0 => (bif ine r0.1.2.2.1 0 then some ((api_Msg.mk 0 0 0 0 z0_ 0 0 0 z0_ 0 0 z1_ 0 0 0 0 0 0 0, (lnil api_Tlv, r0.1.2.2)), ((), ())) else (oelim (cK1 r0.1.1 b.data.toList 34) none fun r1 => (bif ine r1.1.2.2.1 0 then some ((api_Msg.mk 0 0 0 0 z0_ 0 0 0 z0_ 0 0 z1_ 0 0 0 0 0 0 0, (lnil api_Tlv, r1.1.2.2)), ((), ())) else (oelim (cK143 b.data.toList r1.1.2.1) none fun r2 => (bif ine r2.1.2.1 0 then some ((api_Msg.mk 0 0 0 0 z0_ 0 0 0 z0_ 0 0 z1_ 0 0 0 0 0 0 0, (lnil api_Tlv, r2.1.2)), ((), ())) else some ((r1.1.1, (r2.1.1, ((0 : Int), ()))), ((), ()))))))))
def K65 : K65.T := K65.gen K69 K1 K143
theorem K65.eq (cK69 : K69.T) (cK1 : K1.T) (cK143 : K143.T) : EqA K65.sig (K65.H cK69 cK1 cK143) Tryz.f25 6 (K65.W (K65.gen cK69 cK1 cK143)) := by intro a x; kernel_rfl
theorem K65.loops : Z3 K65.C = [(.scope K65.B0)] := by kernel_rfl
theorem K65.ok : NK_ 25 K65.sig (K65.W K65) := ok_ Tryz.func25 (K65.eq K69 K1 K143) (hl_ (Z0 (Z0 (Z0 Z2 K69.ok) K1.ok) K143.ok) (Zx Z6)) K65.loops
def K66.sig : Sig U := ⟨[.str, .int .i64], [], 0, [.data .t_api_Msg, .isl .t_api_Tlv, .int .i64], true, []⟩
abbrev K66.T : Type := (ByteArray) → (Int) → Option ((api_Msg × (List (api_Tlv)) × Int × Unit) × Unit × Unit)
def K66.W (f : K66.T) : K66.sig.F := fun a x => f a.1 a.2.1
def K66.H (cK65 : K65.T) : Hints U := { Γ := (addΓ 25 (K65.sig.native (K65.W cK65)) noΓ), ro := 0, base := 13, joinQ := jt_ [(2, [(23, vb_)])] }
def K66.gen (cK65 : K65.T) : K66.T := fun b domain =>
 (oelim (cK65 b) none fun r0 => (oelim ((bif ieq r0.1.2.2.1 0 then some (ine r0.1.1.fDomain domain, ()) else some (false, ()))) none fun r1 => (bif r1.1 then some ((api_Msg.mk 0 0 0 0 z0_ 0 0 0 z0_ 0 0 z1_ 0 0 0 0 0 0 0, (lnil api_Tlv, ((6 : Int), ()))), ((), ())) else some (r0.1, ((), ())))))
def K66 : K66.T := K66.gen K65
theorem K66.eq (cK65 : K65.T) : EqA K66.sig (K66.H cK65) Tryz.f73 6 (K66.W (K66.gen cK65)) := by intro a x; kernel_rfl
theorem K66.ok : NK_ 73 K66.sig (K66.W K66) := ok_ Tryz.func73 (K66.eq K65) (hn_ (Z0 Z2 K65.ok))
def K22.sig : Sig U := ⟨[.ptr, .int .i64], [.obj .t_clock_Clock], 1, [.bool], false, []⟩
abbrev K22.T : Type := (Int) → (clock_Clock) → Option ((Bool × Unit) × Unit × Unit)
def K22.W (f : K22.T) : K22.sig.F := fun a x => f a.2.1 x.1
abbrev K22.N (c : K22.T) := addΓ 46 (K22.sig.native (K22.W c))
def K22.H : Hints U := { Γ := (addΓ 5000000021 Z1i noΓ), ro := 14, base := 14 }
def K22.gen : K22.T := fun n h0 =>
 (bif ilt n 1 then some ((true, ()), ((), ())) else some ((ilt h0.fconf.fPorts n, ()), ((), ())))
def K22 : K22.T := K22.gen
theorem K22.ok : NK_ 46 K22.sig (K22.W K22) := ok_ (H := K22.H) (n := 6) Tryz.func46 (by intro a x; kernel_rfl) (hn_ (Z0 Z2 Zg))
def K142.sig : Sig U := ⟨[.isl .t_api_Tlv, .int .i64], [], 0, [.data .t_api_Tlv, .bool], true, []⟩
abbrev K142.T : Type := (List (api_Tlv)) → (Int) → Option ((api_Tlv × Bool × Unit) × Unit × Unit)
def K142.W (f : K142.T) : K142.sig.F := fun a x => f a.1 a.2.1
def K142.L0 : Shape U := ⟨21, 14, [(1, vi_), (4, .ptr 13 0 0), (8, .val (.isl .t_api_Tlv)), (9, vi_), (10, vi_)], [(13, .obj .t_api_Tlv)]⟩
def K142.X0 : Exits U := [(.exit 0, ⟨21, 14, [(4, .ptr 13 0 0)], [(13, .obj .t_api_Tlv)]⟩),
 (.ret, ⟨21, 14, [(4, .ptr 13 0 0), (5, vb_)], [(13, .obj .t_api_Tlv)]⟩)]
abbrev K142.l0T : Type := ((Int × (List (api_Tlv)) × Int × Int × Unit) × (api_Tlv × Unit)) → Option ((Unit × (api_Tlv × Unit)) ⊕ ((Bool × Unit) × (api_Tlv × Unit)))
def K142.C : Code := match Tryz.f144.body with | some c => c | none => .skip
def K142.B0 : Code := match (Z3 K142.C).getD 0 .skip with | .loop b => b | .scope b => b | _ => .skip
def K142.H (l0 : K142.l0T) : Hints U := { Γ := noΓ, ro := 0, base := 13, loop := jt_ [(2, (Za (0, 13) K142.L0 K142.X0 l0))] }
def K142.step0 (a : (Int × (List (api_Tlv)) × Int × Int × Unit) × (api_Tlv × Unit)) : Option (((Int × (List (api_Tlv)) × Int × Int × Unit) × (api_Tlv × Unit)) ⊕ ((Unit × (api_Tlv × Unit)) ⊕ ((Bool × Unit) × (api_Tlv × Unit)))) :=
 (bif ilt a.1.2.2.2.1 a.1.2.2.1 then (bif inR a.1.2.2.2.1 (List.length a.1.2.1) then (bif ieq (List.getD a.1.2.1 (Int.toNat a.1.2.2.2.1) api_Tlv.zero).fType a.1.1 then some (.inr (.inr ((true, ()), (List.getD a.1.2.1 (Int.toNat a.1.2.2.2.1) api_Tlv.zero, ())))) else some (.inl ((a.1.1, (a.1.2.1, (a.1.2.2.1, (iadd .i64 a.1.2.2.2.1 1, ())))), a.2))) else none) else some (.inr (.inl ((), a.2))))
def K142.F0 : K142.l0T := fun a => Z8 (1000000 + (a.1.2.1.length)) (K142.step0) a
def K142.gen (l0 : K142.l0T) : K142.T := fun l typ =>
 (oelim (l0 ((typ, l, ofN (List.length l), (0 : Int), ()), api_Tlv.mk 0 (ByteArray.mk (List.toArray (lnil UInt8))), ())) none fun r0 => (selim r0 (fun r1 => some ((api_Tlv.mk 0 (ByteArray.mk (List.toArray (lnil UInt8))), (false, ())), ((), ()))) (fun r1 => some ((r1.2.1, r1.1), ((), ())))))
def K142 : K142.T := K142.gen K142.F0
theorem K142.seq0 (l0 : K142.l0T) (a : K142.L0.T) : run Tryz.prog (K142.H l0) 6 (Option (K142.L0.T ⊕ ExT K142.X0)) none K142.B0 (K142.L0.enc a) (Zn (0, 13) K142.L0 K142.X0) = K142.step0 a := by kernel_rfl
abbrev K142.h := K142.H K142.F0
theorem K142.lok0 : LO_ K142.h K142.B0 (Za (0, 13) K142.L0 K142.X0 K142.F0) := lk_ (hn_ Z2) (K142.seq0 K142.F0)
theorem K142.eq (l0 : K142.l0T) : EqA K142.sig (K142.H l0) Tryz.f144 6 (K142.W (K142.gen l0)) := by intro a x; kernel_rfl
theorem K142.loops : Z3 K142.C = [(.loop K142.B0)] := by kernel_rfl
theorem K142.ok : NK_ 144 K142.sig (K142.W K142) := ok_ Tryz.func144 (K142.eq K142.F0) (hl_ Z2 (Z9 (by kernel_rfl) K142.lok0 Z6)) K142.loops
def K144.sig : Sig U := ⟨[.data .t_api_Tlv], [], 0, [.bool], false, []⟩
abbrev K144.T : Type := (api_Tlv) → Option ((Bool × Unit) × Unit × Unit)
def K144.W (f : K144.T) : K144.sig.F := fun a x => f a.1
def K144.JC14 : Exits U := [(.normal, ⟨50, 14, [(1, .ptr 13 0 0), (3, vi_), (8, vi_), (29, vb_)], [(13, .obj .t_api_Tlv)]⟩)]
def K144.JC4 : Exits U := [(.normal, ⟨50, 14, [(1, .ptr 13 0 0)], [(13, .obj .t_api_Tlv)]⟩),
 (.ret, ⟨50, 13, [(2, vb_)], []⟩)]
def K144.H : Hints U := { Γ := noΓ, ro := 0, base := 13, joinC := jt_ [(4, K144.JC4), (14, K144.JC14)] }
def K144.gen : K144.T := fun t =>
 (oelim ((bif ieq t.fType 1 then some (.inr ((ile 2 (ofN (ByteArray.size t.fData)), ()), ())) else (bif ieq t.fType 2 then some (.inr ((ile 8 (ofN (ByteArray.size t.fData)), ()), ())) else (bif ieq t.fType 3 then some (.inr ((ile 6 (ofN (ByteArray.size t.fData)), ()), ())) else (bif ieq t.fType 4 then some (.inr ((ieq (ofN (ByteArray.size t.fData)) 6, ()), ())) else (bif ieq t.fType 5 then some (.inr ((ieq (ofN (ByteArray.size t.fData)) 8, ()), ())) else (oelim ((bif ieq t.fType 6 then some ((ofN (ByteArray.size t.fData), (t.fType, (ieq t.fType 6, ()))), (t, ())) else some ((ofN (ByteArray.size t.fData), (t.fType, (ieq t.fType 7, ()))), (t, ())))) none fun r0 => (bif r0.1.2.2.1 then some (.inr ((ieq r0.1.1 2, ()), ())) else (bif ieq r0.1.2.1 8 then (bif ieq (irem r0.1.1 8) 0 then some (.inr ((ile r0.1.1 128, ()), ())) else some (.inr ((false, ()), ()))) else (bif ieq r0.1.2.1 9 then some (.inr ((ile 16 r0.1.1, ()), ())) else some (.inl ((), r0.2)))))))))))) none fun r1 => (selim r1 (fun r2 => some ((ieq r2.2.1.fType 32776, ()), ((), ()))) (fun r2 => some (r2.1, ((), ())))))
def K144 : K144.T := K144.gen
theorem K144.ok : NK_ 183 K144.sig (K144.W K144) := ok_ (H := K144.H) (n := 6) Tryz.func183 (by intro a x; kernel_rfl) (hn_ Z2)
def K146.sig : Sig U := ⟨[.data .t_api_Tlv], [], 0, [.isl .u64, .bool], true, []⟩
abbrev K146.T : Type := (api_Tlv) → Option (((List (Int)) × Bool × Unit) × Unit × Unit)
def K146.W (f : K146.T) : K146.sig.F := fun a x => f a.1
def K146.L0 : Shape U := ⟨36, 15, [(1, .ptr 13 0 0), (4, .own .u64 14), (5, vi_)], [(13, .obj .t_api_Tlv), (14, .tok)]⟩
def K146.X0 : Exits U := [(.exit 0, ⟨36, 14, [(4, .own .u64 13)], [(13, .tok)]⟩)]
abbrev K146.l0T : Type := (((List (Int)) × Int × Unit) × (api_Tlv × Unit)) → Option ((((List (Int)) × Unit) × Unit))
def K146.C : Code := match Tryz.f145.body with | some c => c | none => .skip
def K146.B0 : Code := match (Z3 K146.C).getD 0 .skip with | .loop b => b | .scope b => b | _ => .skip
def K146.H (cK144 : K144.T) (cK92 : K92.T) (l0 : K146.l0T) : Hints U := { Γ := (K92.N cK92 (addΓ 183 (K144.sig.native (K144.W cK144)) noΓ)), ro := 0, base := 13, joinQ := jt_ [(1, [(15, vb_)])], loop := jt_ [(5, (Za (0, 13) K146.L0 K146.X0 l0))] }
def K146.step0 (cK144 : K144.T) (cK92 : K92.T) (a : ((List (Int)) × Int × Unit) × (api_Tlv × Unit)) : Option ((((List (Int)) × Int × Unit) × (api_Tlv × Unit)) ⊕ ((((List (Int)) × Unit) × Unit))) :=
 (bif ilt a.1.2.1 (ofN (ByteArray.size a.2.1.fData)) then (oelim (cK92 a.2.1.fData.data.toList a.1.2.1) none fun r0 => (bif room (List.length a.1.1 + List.length (r0.1.1 :: lnil Int)) 8 then some (.inl ((a.1.1 ++ r0.1.1 :: lnil Int, (iadd .i64 a.1.2.1 8, ())), a.2)) else none)) else some (.inr ((a.1.1, ()), ())))
def K146.F0 : K146.l0T := fun a => Z8 (1000000 + (a.1.1.length)) (K146.step0 K144 K92) a
def K146.gen (cK144 : K144.T) (cK92 : K92.T) (l0 : K146.l0T) : K146.T := fun t =>
 (oelim ((bif ine t.fType 8 then some (true, ()) else (oelim (cK144 t) none fun r0 => some (!r0.1.1, ())))) none fun r1 => (bif r1.1 then some ((lnil Int, (false, ())), ((), ())) else (oelim (l0 ((lnil Int, (0 : Int), ()), t, ())) none fun r2 => some ((r2.1.1, (true, ())), ((), ())))))
def K146 : K146.T := K146.gen K144 K92 K146.F0
theorem K146.seq0 (cK144 : K144.T) (cK92 : K92.T) (l0 : K146.l0T) (a : K146.L0.T) : run Tryz.prog (K146.H cK144 cK92 l0) 6 (Option (K146.L0.T ⊕ ExT K146.X0)) none K146.B0 (K146.L0.enc a) (Zn (0, 13) K146.L0 K146.X0) = K146.step0 cK144 cK92 a := by kernel_rfl
abbrev K146.h := K146.H K144 K92 K146.F0
theorem K146.lok0 : LO_ K146.h K146.B0 (Za (0, 13) K146.L0 K146.X0 K146.F0) := lk_ (hn_ (Z0 (Z0 Z2 K144.ok) K92.ok)) (K146.seq0 K144 K92 K146.F0)
theorem K146.eq (cK144 : K144.T) (cK92 : K92.T) (l0 : K146.l0T) : EqA K146.sig (K146.H cK144 cK92 l0) Tryz.f145 6 (K146.W (K146.gen cK144 cK92 l0)) := by intro a x; kernel_rfl
theorem K146.loops : Z3 K146.C = [(.loop K146.B0)] := by kernel_rfl
theorem K146.ok : NK_ 145 K146.sig (K146.W K146) := ok_ Tryz.func145 (K146.eq K144 K92 K146.F0) (hl_ (Z0 (Z0 Z2 K144.ok) K92.ok) (Z9 (by kernel_rfl) K146.lok0 Z6)) K146.loops
def K129.sig : Sig U := ⟨[.isl .u64, .int .u64], [], 0, [.int .i64], false, []⟩
abbrev K129.T : Type := (List (Int)) → (Int) → Option ((Int × Unit) × Unit × Unit)
def K129.W (f : K129.T) : K129.sig.F := fun a x => f a.1 a.2.1
def K129.L0 : Shape U := ⟨19, 13, [(0, .val (.isl .u64)), (1, .val (.int .u64)), (7, vi_), (8, vi_)], []⟩
def K129.X0 : Exits U := [(.exit 0, ⟨19, 13, [], []⟩),
 (.ret, ⟨19, 13, [(4, vi_)], []⟩)]
abbrev K129.l0T : Type := (((List (Int)) × Int × Int × Int × Unit) × Unit) → Option ((Unit × Unit) ⊕ ((Int × Unit) × Unit))
def K129.C : Code := match Tryz.f184.body with | some c => c | none => .skip
def K129.B0 : Code := match (Z3 K129.C).getD 0 .skip with | .loop b => b | .scope b => b | _ => .skip
def K129.H (l0 : K129.l0T) : Hints U := { Γ := noΓ, ro := 0, base := 13, loop := jt_ [(2, (Za (0, 13) K129.L0 K129.X0 l0))] }
def K129.step0 (a : ((List (Int)) × Int × Int × Int × Unit) × Unit) : Option ((((List (Int)) × Int × Int × Int × Unit) × Unit) ⊕ ((Unit × Unit) ⊕ ((Int × Unit) × Unit))) :=
 (bif ilt a.1.2.2.2.1 a.1.2.2.1 then (bif inR a.1.2.2.2.1 (List.length a.1.1) then (bif ieq a.1.2.1 (List.getD a.1.1 (Int.toNat a.1.2.2.2.1) (0 : D UC.u64)) then some (.inr (.inr (a.1.2.2.2, ()))) else some (.inl ((a.1.1, (a.1.2.1, (a.1.2.2.1, (iadd .i64 a.1.2.2.2.1 1, ())))), ()))) else none) else some (.inr (.inl ((), ()))))
def K129.F0 : K129.l0T := fun a => Z8 (1000000 + (a.1.1.length)) (K129.step0) a
def K129.gen (l0 : K129.l0T) : K129.T := fun s v =>
 (oelim (l0 ((s, v, ofN (List.length s), (0 : Int), ()), ())) none fun r0 => (selim r0 (fun r1 => some (((-1 : Int), ()), ((), ()))) (fun r1 => some (r1.1, ((), ())))))
def K129 : K129.T := K129.gen K129.F0
theorem K129.seq0 (l0 : K129.l0T) (a : K129.L0.T) : run Tryz.prog (K129.H l0) 6 (Option (K129.L0.T ⊕ ExT K129.X0)) none K129.B0 (K129.L0.enc a) (Zn (0, 13) K129.L0 K129.X0) = K129.step0 a := by kernel_rfl
abbrev K129.h := K129.H K129.F0
theorem K129.lok0 : LO_ K129.h K129.B0 (Za (0, 13) K129.L0 K129.X0 K129.F0) := lk_ (hn_ Z2) (K129.seq0 K129.F0)
theorem K129.eq (l0 : K129.l0T) : EqA K129.sig (K129.H l0) Tryz.f184 6 (K129.W (K129.gen l0)) := by intro a x; kernel_rfl
theorem K129.loops : Z3 K129.C = [(.loop K129.B0)] := by kernel_rfl
theorem K129.ok : NK_ 184 K129.sig (K129.W K129) := ok_ Tryz.func184 (K129.eq K129.F0) (hl_ Z2 (Z9 (by kernel_rfl) K129.lok0 Z6)) K129.loops
def K128.sig : Sig U := ⟨[.isl .u64, .int .u64], [], 0, [.bool], false, []⟩
abbrev K128.T : Type := (List (Int)) → (Int) → Option ((Bool × Unit) × Unit × Unit)
def K128.W (f : K128.T) : K128.sig.F := fun a x => f a.1 a.2.1
def K128.H (cK129 : K129.T) : Hints U := { Γ := (addΓ 184 (K129.sig.native (K129.W cK129)) noΓ), ro := 0, base := 13 }
def K128.gen (cK129 : K129.T) : K128.T := fun s v =>
 (oelim (cK129 s v) none fun r0 => some ((ile 0 r0.1.1, ()), ((), ())))
def K128 : K128.T := K128.gen K129
theorem K128.eq (cK129 : K129.T) : EqA K128.sig (K128.H cK129) Tryz.f146 6 (K128.W (K128.gen cK129)) := by intro a x; kernel_rfl
theorem K128.ok : NK_ 146 K128.sig (K128.W K128) := ok_ Tryz.func146 (K128.eq K129) (hn_ (Z0 Z2 K129.ok))
def K61.sig : Sig U := ⟨[.ptr, .data .t_api_Msg, .int .i64], [.obj .t_foreign_Table], 0, [.int .i64], false, []⟩
abbrev K61.T : Type := (api_Msg) → (Int) → (foreign_Table) → Option ((Int × Unit) × (foreign_Table × Unit) × Unit)
def K61.W (f : K61.T) : K61.sig.F := fun a x => f a.2.1 a.2.2.1 x.1
def K61.L0 : Shape U := ⟨143, 15, [(0, .ptr 13 0 0), (2, vi_), (4, .ptr 14 0 0), (7, vi_)], [(13, .obj .t_foreign_Table), (14, .obj .t_api_Msg)]⟩
def K61.X0 : Exits U := [(.exit 1, ⟨143, 15, [(0, .ptr 13 0 0), (2, vi_), (4, .ptr 14 0 0), (7, vi_)], [(13, .obj .t_foreign_Table), (14, .obj .t_api_Msg)]⟩)]
abbrev K61.l0T : Type := ((Int × Int × Unit) × (foreign_Table × api_Msg × Unit)) → Option (((Int × Int × Unit) × (foreign_Table × api_Msg × Unit)))
def K61.C : Code := match Tryz.f147.body with | some c => c | none => .skip
def K61.B0 : Code := match (Z3 K61.C).getD 0 .skip with | .loop b => b | .scope b => b | _ => .skip
def K61.JR22 : Exits U := [(.normal, ⟨143, 14, [], [(13, .obj .t_foreign_Table)]⟩)]
def K61.JR21 : Exits U := [(.normal, ⟨143, 15, [(0, .ptr 13 0 0), (7, vi_), (8, .ptr 14 0 0)], [(13, .obj .t_foreign_Table), (14, .obj .t_foreign_Record)]⟩)]
def K61.JR20 : Exits U := [(.normal, ⟨143, 16, [(0, .ptr 13 0 0), (2, vi_), (4, .ptr 14 0 0), (7, vi_), (8, .ptr 15 0 0)], [(13, .obj .t_foreign_Table), (14, .obj .t_api_Msg), (15, .obj .t_foreign_Record)]⟩)]
def K61.JC13 : Exits U := [(.normal, ⟨143, 16, [(0, .ptr 13 0 0), (2, vi_), (4, .ptr 14 0 0), (7, vi_), (8, .ptr 15 0 0)], [(13, .obj .t_foreign_Table), (14, .obj .t_api_Msg), (15, .obj .t_foreign_Record)]⟩),
 (.ret, ⟨143, 14, [(6, vi_)], [(13, .obj .t_foreign_Table)]⟩)]
def K61.JC2 : Exits U := [(.normal, ⟨143, 15, [(0, .ptr 13 0 0), (2, vi_), (4, .ptr 14 0 0)], [(13, .obj .t_foreign_Table), (14, .obj .t_api_Msg)]⟩),
 (.ret, ⟨143, 14, [(6, vi_)], [(13, .obj .t_foreign_Table)]⟩)]
def K61.H (l0 : K61.l0T) : Hints U := { Γ := noΓ, ro := 0, base := 14, joinQ := jt_ [(3, [(13, vb_)]), (5, [(20, vb_)]), (8, [(59, vb_)]), (14, [(95, vb_)])], joinR := jt_ [(10, K61.JR20), (13, K61.JR20), (19, K61.JR20), (20, K61.JR20), (21, K61.JR21), (22, K61.JR22)], joinC := jt_ [(2, K61.JC2), (13, K61.JC13)], loop := jt_ [(8, (Za (0, 14) K61.L0 K61.X0 l0))] }
def K61.step0 (a : (Int × Int × Unit) × (foreign_Table × api_Msg × Unit)) : Option (((Int × Int × Unit) × (foreign_Table × api_Msg × Unit)) ⊕ (((Int × Int × Unit) × (foreign_Table × api_Msg × Unit)))) :=
 (oelim ((bif ilt a.1.2.1 a.2.1.fn then (bif inR a.1.2.1 5 then some (!bif ieq (a.2.1.fl (Int.toNat a.1.2.1)).fVector.fSender.fClock a.2.2.1.fSource.fClock then bif ieq (a.2.1.fl (Int.toNat a.1.2.1)).fVector.fSender.fPort a.2.2.1.fSource.fPort then true else false else false, ()) else none) else some (false, ()))) none fun r0 => (bif r0.1 then some (.inl ((a.1.1, (iadd .i64 a.1.2.1 1, ())), a.2)) else some (.inr a)))
def K61.F0 : K61.l0T := fun a => Z8 (1000000) (K61.step0) a
def K61.gen (l0 : K61.l0T) : K61.T := fun m now h0 =>
 (oelim ((bif ine m.fType 11 then some (.inr (((5 : Int), ()), (h0, ()))) else (oelim ((bif ilt now 0 then some (true, ()) else some (ilt 1099511627776 now, ()))) none fun r0 => (bif r0.1 then some (.inr (((1 : Int), ()), (h0, ()))) else (oelim ((bif ieq m.fSource.fClock h0.fown.fClock then some (true, ()) else (bif ile 255 m.fSteps then some (true, ()) else some (ine (iand .i64 m.fFlags 256) 0, ())))) none fun r1 => (bif r1.1 then some (.inr (((11 : Int), ()), (h0, ()))) else some (.inl ((now, ()), (h0, (m, ())))))))))) none fun r2 => (selim r2 (fun r3 => (oelim (l0 ((r3.1.1, (0 : Int), ()), r3.2)) none fun r4 => (oelim ((bif ilt r4.1.2.1 r4.2.1.fn then (oelim ((bif inR r4.1.2.1 5 then some (r4.1, (r4.2.1, (r4.2.2.1, (r4.2.1.fl (Int.toNat r4.1.2.1), ())))) else none)) none fun r5 => (oelim ((bif ilt (iand .i64 (isub .i64 r5.2.2.2.1.fSeq r5.2.2.1.fSeq) 65535) 32768 then some (true, ()) else some (ilt r5.1.1 r5.2.2.2.1.fLast, ()))) none fun r6 => (bif r6.1 then some (.inr (((9 : Int), ()), (r5.2.1, ()))) else some (.inl (r5.1, (r5.2.1, (r5.2.2.1, (foreign_Record.set_fFirst r5.2.2.2.1 r5.2.2.2.1.fLast, ())))))))) else (bif ieq r4.2.1.fn 5 then some (.inr (((7 : Int), ()), (r4.2.1, ()))) else some (.inl (r4.1, (foreign_Table.set_fn r4.2.1 (iadd .i64 r4.2.1.fn 1), (r4.2.2.1, (foreign_Record.mk z5_ z6_ 0 (-1) 0, ())))))))) none fun r7 => (selim r7 (fun r8 => (oelim ((bif inR r8.1.2.1 5 then some ((), (foreign_Table.set_fl r8.2.1 (fset r8.2.1.fl (Int.toNat r8.1.2.1) (foreign_Record.mk (api_Vector.mk r8.2.2.1.fPriority1 r8.2.2.1.fQuality r8.2.2.1.fPriority2 r8.2.2.1.fGrand r8.2.2.1.fSteps r8.2.2.1.fSource r8.2.1.fown) (api_Times.mk r8.2.2.1.fUtc (iand .i64 r8.2.2.1.fFlags 63) r8.2.2.1.fOrigin) r8.2.2.1.fSeq r8.2.2.2.1.fFirst r8.1.1)), ())) else none)) none fun r9 => some (((0 : Int), ()), (r9.2, ())))) (fun r8 => some (r8.1, (r8.2, ()))))))) (fun r3 => some (r3.1, (r3.2, ())))))
def K61 : K61.T := K61.gen K61.F0
theorem K61.seq0 (l0 : K61.l0T) (a : K61.L0.T) : run Tryz.prog (K61.H l0) 6 (Option (K61.L0.T ⊕ ExT K61.X0)) none K61.B0 (K61.L0.enc a) (Zn (0, 14) K61.L0 K61.X0) = K61.step0 a := by kernel_rfl
abbrev K61.h := K61.H K61.F0
theorem K61.lok0 : LO_ K61.h K61.B0 (Za (0, 14) K61.L0 K61.X0 K61.F0) := lk_ (hn_ Z2) (K61.seq0 K61.F0)
theorem K61.eq (l0 : K61.l0T) : EqA K61.sig (K61.H l0) Tryz.f147 6 (K61.W (K61.gen l0)) := by intro a x; kernel_rfl
theorem K61.loops : Z3 K61.C = [(.loop K61.B0)] := by kernel_rfl
theorem K61.ok : NK_ 147 K61.sig (K61.W K61) := ok_ Tryz.func147 (K61.eq K61.F0) (hl_ Z2 (Z9 (by kernel_rfl) K61.lok0 Z6)) K61.loops
def K21.sig : Sig U := ⟨[.ptr, .eptr 0 23 42 8, .data .t_api_Msg, .isl .t_api_Tlv], [.obj .t_clock_Clock, fm6_, .fam 12 (.map true false .t_api_PortID .l_u64)], 0, [.bool], false, []⟩
abbrev K21.T : Type := (Nat) → (api_Msg) → (List (api_Tlv)) → (clock_Clock) → (Fm foreign_Table) → (Nat × (Nat → List (api_PortID × List (Int)))) → Option ((Bool × Unit) × (clock_Clock × qT4_) × Unit)
def K21.W (f : K21.T) : K21.sig.F := fun a x => f a.2.1 a.2.2.1 a.2.2.2.1 x.1 x.2.1 x.2.2.1
def K21.JR5 : Exits U := [(.normal, ⟨61, 14, [(0, .ptr 13 0 0), (1, .aptr 13 23 42 8 0)], (13, .obj .t_clock_Clock) :: hT1_⟩)]
def K21.JR3 : Exits U := [(.normal, ⟨61, 15, [(0, .ptr 13 0 0), (1, .aptr 13 23 42 8 0), (6, .ptr 14 0 0), (11, .val (.isl .u64)), (42, vb_)], (13, .obj .t_clock_Clock) :: (14, .obj .t_api_Msg) :: hT1_⟩)]
def K21.JR1 : Exits U := [(.normal, ⟨61, 16, [(0, .ptr 13 0 0), (1, .aptr 13 23 42 8 0), (6, .ptr 14 0 0), (9, .ptr 15 0 0)], (13, .obj .t_clock_Clock) :: (14, .obj .t_api_Msg) :: (15, .obj .t_api_Tlv) :: hT1_⟩)]
def K21.JC7 : Exits U := [(.normal, ⟨61, 14, [], (13, .obj .t_clock_Clock) :: hT1_⟩)]
def K21.H (cK142 : K142.T) (cK146 : K146.T) (cK128 : K128.T) (cK61 : K61.T) (cK111 : K111.T) (cK25 : K25.T) (cK138 : K138.T) : Hints U := { Γ := (K138.N cK138 (K25.N cK25 (K111.N cK111 (addΓ 147 (K61.sig.native (K61.W cK61)) (addΓ 146 (K128.sig.native (K128.W cK128)) (addΓ 145 (K146.sig.native (K146.W cK146)) (addΓ 144 (K142.sig.native (K142.W cK142)) noΓ))))))), ro := 0, base := 14, joinR := jt_ [(1, K21.JR1), (3, K21.JR3), (5, K21.JR5)], joinC := jt_ [(7, K21.JC7)] }
def K21.gen (cK142 : K142.T) (cK146 : K146.T) (cK128 : K128.T) (cK61 : K61.T) (cK111 : K111.T) (cK25 : K25.T) (cK138 : K138.T) : K21.T := fun p m l h0 g6 g12 =>
 (oelim ((oelim (cK142 l 8) none fun r0 => some ((p, ()), (h0, (m, (r0.1.1, (g6, (g12, ())))))))) none fun r1 => (oelim (cK146 r1.2.2.2.1) none fun r2 => (oelim ((oelim (cK128 r2.1.1 r1.2.1.fconf.fClock) none fun r3 => (bif r3.1.1 then some ((r1.1.1, (r2.1.1, (true, ()))), (r1.2.1, (r1.2.2.1, r1.2.2.2.2))) else (oelim ((r1.2.1.fports r1.1.1).2) none fun r4 => (oelim (cK61 r1.2.2.1 r1.2.1.fticks (r1.2.2.2.2.1.2 r4)) none fun r5 => some ((r1.1.1, (r2.1.1, (ine r5.1.1 0, ()))), (r1.2.1, (r1.2.2.1, ((r1.2.2.2.2.1.1, fset r1.2.2.2.2.1.2 r4 r5.2.1.1), r1.2.2.2.2.2))))))))) none fun r6 => (bif r6.1.2.2.1 then some ((false, ()), ((r6.2.1, r6.2.2.2), ())) else (oelim ((oelim ((oelim ((r6.2.1.fports r6.1.1).3) none fun r7 => (oelim ((@Z3d U Go.Proofs.Tryz.prog 31 UC.t_api_PortID UC.l_u64 (r6.2.2.1.fSource) (r6.1.2.1) (r6.2.2.2.2.1.2 r7))) none fun (r8 : List (api_PortID × List Int)) => some (r7, r8)))) none fun (r9 : Nat × List (api_PortID × List Int)) => some ((r6.1.1, ()), (r6.2.1, (r6.2.2.2.1, ((r6.2.2.2.2.1.1, fset r6.2.2.2.2.1.2 r9.1 r9.2), ())))))) none fun r10 => (oelim (cK111 (r10.2.1.fports r10.1.1).fstate) none fun r11 => (oelim ((bif r11.1.1 then (oelim (cK25 r10.2.1) none fun r12 => (oelim (cK138 r12.1.1 (r10.2.1.fports r10.1.1).freceipt) none fun r13 => some ((), (clock_Clock.set_fports r10.2.1 (fset r10.2.1.fports r10.1.1 (clock_side.set_freceipt (r10.2.1.fports r10.1.1) r13.2.1.1)), r10.2.2)))) else some ((), r10.2))) none fun r14 => some ((true, ()), (r14.2, ())))))))))
def K21 : K21.T := K21.gen K142 K146 K128 K61 K111 K25 K138
theorem K21.eq (cK142 : K142.T) (cK146 : K146.T) (cK128 : K128.T) (cK61 : K61.T) (cK111 : K111.T) (cK25 : K25.T) (cK138 : K138.T) : EqA K21.sig (K21.H cK142 cK146 cK128 cK61 cK111 cK25 cK138) Tryz.f75 6 (K21.W (K21.gen cK142 cK146 cK128 cK61 cK111 cK25 cK138)) := by intro a x; kernel_rfl
theorem K21.ok : NK_ 75 K21.sig (K21.W K21) := ok_ Tryz.func75 (K21.eq K142 K146 K128 K61 K111 K25 K138) (hn_ (Z0 (Z0 (Z0 (Z0 (Z0 (Z0 (Z0 Z2 K142.ok) K146.ok) K128.ok) K61.ok) K111.ok) K25.ok) K138.ok))
def K131.sig : Sig U := ⟨[.int .i64], [], 0, [.int .i64], false, []⟩
abbrev K131.T : Type := (Int) → Option ((Int × Unit) × Unit × Unit)
def K131.W (f : K131.T) : K131.sig.F := fun a x => f a.1
abbrev K131.N (c : K131.T) := addΓ 185 (K131.sig.native (K131.W c))
def K131.H : Hints U := { Γ := noΓ, ro := 0, base := 13 }
def K131.gen : K131.T := fun corr =>
 some ((ishr .i64 corr 16, ()), ((), ()))
def K131 : K131.T := K131.gen
theorem K131.ok : NK_ 185 K131.sig (K131.W K131) := ok_ (H := K131.H) (n := 6) Tryz.func185 (by intro a x; kernel_rfl) (hn_ Z2)
def K123.sig : Sig U := ⟨[.data .t_api_Msg], [], 0, [.data .t_seq_sign], false, []⟩
abbrev K123.T : Type := (api_Msg) → Option ((seq_sign × Unit) × Unit × Unit)
def K123.W (f : K123.T) : K123.sig.F := fun a x => f a.1
def K123.H : Hints U := { Γ := noΓ, ro := 0, base := 13 }
def K123.gen : K123.T := fun m =>
 some ((seq_sign.mk m.fSource m.fSeq, ()), ((), ()))
def K123 : K123.T := K123.gen
theorem K123.ok : NK_ 186 K123.sig (K123.W K123) := ok_ (H := K123.H) (n := 6) Tryz.func186 (by intro a x; kernel_rfl) (hn_ Z2)
def K130.sig : Sig U := ⟨[.int .i64, .int .i64], [], 0, [.int .i64], false, []⟩
abbrev K130.T : Type := (Int) → (Int) → Option ((Int × Unit) × Unit × Unit)
def K130.W (f : K130.T) : K130.sig.F := fun a x => f a.1 a.2.1
def K130.JC2 : Exits U := [(.normal, ⟨26, 13, [(0, vi_), (1, vi_)], []⟩),
 (.ret, ⟨26, 13, [(4, vi_)], []⟩)]
def K130.H : Hints U := { Γ := noΓ, ro := 0, base := 13, joinQ := jt_ [(1, [(5, vb_)]), (3, [(14, vb_)])], joinC := jt_ [(2, K130.JC2)] }
def K130.gen : K130.T := fun a b =>
 (oelim ((bif ilt 0 b then some (ilt (isub .i64 9223372036854775807 b) a, ()) else some (false, ()))) none fun r0 => (oelim ((bif r0.1 then some (.inr (((9223372036854775807 : Int), ()), ())) else (oelim ((bif ilt b 0 then some (ilt a (isub .i64 (-9223372036854775808) b), ()) else some (false, ()))) none fun r1 => (bif r1.1 then some (.inr (((-9223372036854775808 : Int), ()), ())) else some (.inl ((a, (b, ())), ())))))) none fun r2 => (selim r2 (fun r3 => some ((iadd .i64 r3.1.1 r3.1.2.1, ()), ((), ()))) (fun r3 => some (r3.1, ((), ()))))))
def K130 : K130.T := K130.gen
theorem K130.ok : NK_ 193 K130.sig (K130.W K130) := ok_ (H := K130.H) (n := 6) Tryz.func193 (by intro a x; kernel_rfl) (hn_ Z2)
def K120.sig : Sig U := ⟨[.ptr, .data .t_api_Msg, .data .t_api_Msg, .int .i64], [.obj .t_seq_Match], 0, [.int .i64, .bool], true, []⟩
abbrev K120.T : Type := (api_Msg) → (api_Msg) → (Int) → (seq_Match) → Option ((Int × Bool × Unit) × (seq_Match × Unit) × Unit)
def K120.W (f : K120.T) : K120.sig.F := fun a x => f a.2.1 a.2.2.1 a.2.2.2.1 x.1
def K120.JR1 : Exits U := [(.normal, ⟨23, 16, [(3, vi_), (5, .ptr 14 0 0), (6, .ptr 15 0 0)], [(13, .obj .t_seq_Match), (14, .obj .t_api_Msg), (15, .obj .t_api_Msg)]⟩)]
def K120.H (cK117 : K117.T) (cK130 : K130.T) (cK131 : K131.T) : Hints U := { Γ := (K131.N cK131 (addΓ 193 (K130.sig.native (K130.W cK130)) (K117.N cK117 noΓ))), ro := 0, base := 14, joinR := jt_ [(1, K120.JR1)] }
def K120.gen (cK117 : K117.T) (cK130 : K130.T) (cK131 : K131.T) : K120.T := fun sync follow at_3 h0 =>
 (oelim ((oelim (cK117 h0) none fun r0 => some ((at_3, ()), (r0.2.1.1, (sync, (follow, ())))))) none fun r1 => (oelim (cK130 r1.2.2.1.fCorr r1.2.2.2.1.fCorr) none fun r2 => (oelim (cK131 r2.1.1) none fun r3 => some ((isub .i64 (isub .i64 r1.1.1 r1.2.2.2.1.fStamp) r3.1.1, (true, ())), ((r1.2.1, ()), ())))))
def K120 : K120.T := K120.gen K117 K130 K131
theorem K120.eq (cK117 : K117.T) (cK130 : K130.T) (cK131 : K131.T) : EqA K120.sig (K120.H cK117 cK130 cK131) Tryz.f187 6 (K120.W (K120.gen cK117 cK130 cK131)) := by intro a x; kernel_rfl
theorem K120.ok : NK_ 187 K120.sig (K120.W K120) := ok_ Tryz.func187 (K120.eq K117 K130 K131) (hn_ (Z0 (Z0 (Z0 Z2 K117.ok) K130.ok) K131.ok))
def K119.sig : Sig U := ⟨[.ptr, .data .t_api_Msg, .int .i64], [.obj .t_seq_Match], 0, [.int .i64, .bool], true, []⟩
abbrev K119.T : Type := (api_Msg) → (Int) → (seq_Match) → Option ((Int × Bool × Unit) × (seq_Match × Unit) × Unit)
def K119.W (f : K119.T) : K119.sig.F := fun a x => f a.2.1 a.2.2.1 x.1
def K119.C : Code := match Tryz.f148.body with | some c => c | none => .skip
def K119.B0 : Code := match (Z3 K119.C).getD 0 .skip with | .loop b => b | .scope b => b | _ => .skip
def K119.JR7 : Exits U := [(.normal, ⟨63, 14, [(8, vi_), (9, vb_)], [(13, .obj .t_seq_Match)]⟩)]
def K119.H (cK131 : K131.T) (cK123 : K123.T) (cK120 : K120.T) : Hints U := { Γ := (addΓ 187 (K120.sig.native (K120.W cK120)) (addΓ 186 (K123.sig.native (K123.W cK123)) (K131.N cK131 noΓ))), ro := 0, base := 14, joinQ := jt_ [(5, [(38, vb_)])], joinR := jt_ [(6, K119.JR7), (7, K119.JR7)], gotos := 3, loop := fun b => none }
def K119.gen (cK131 : K131.T) (cK123 : K123.T) (cK120 : K120.T) : K119.T := fun x_1 at_2 h0 =>
 (bif ine x_1.fType 0 then some (((0 : Int), (false, ())), ((h0, ()), ())) else (bif ieq (iand .i64 x_1.fFlags 512) 0 then (oelim (cK131 x_1.fCorr) none fun r0 => some ((isub .i64 (isub .i64 at_2 x_1.fStamp) r0.1.1, (true, ())), ((h0, ()), ()))) else (oelim ((bif h0.fhasFollowUp then (oelim (cK123 h0.ffollow) none fun r1 => (oelim (cK123 x_1) none fun r2 => some (bif bif ieq r1.1.1.fsource.fClock r2.1.1.fsource.fClock then bif ieq r1.1.1.fsource.fPort r2.1.1.fsource.fPort then true else false else false then bif ieq r1.1.1.fseq r2.1.1.fseq then true else false else false, ()))) else some (false, ()))) none fun r3 => (bif r3.1 then (oelim ((oelim (cK120 x_1 h0.ffollow at_2 h0) none fun r4 => some (r4.1, r4.2.1))) none fun r5 => some (r5.1, (r5.2, ()))) else some (((0 : Int), (false, ())), ((seq_Match.mk x_1 h0.ffollow at_2 true h0.fhasFollowUp, ()), ()))))))
def K119 : K119.T := K119.gen K131 K123 K120
theorem K119.eq (cK131 : K131.T) (cK123 : K123.T) (cK120 : K120.T) : EqA K119.sig (K119.H cK131 cK123 cK120) Tryz.f148 6 (K119.W (K119.gen cK131 cK123 cK120)) := by intro a x; kernel_rfl
theorem K119.loops : Z3 K119.C = [(.scope K119.B0)] := by kernel_rfl
theorem K119.ok : NK_ 148 K119.sig (K119.W K119) := ok_ Tryz.func148 (K119.eq K131 K123 K120) (hl_ (Z0 (Z0 (Z0 Z2 K131.ok) K123.ok) K120.ok) (Zx Z6)) K119.loops
def K118.sig : Sig U := ⟨[.ptr, .data .t_api_Msg], [.obj .t_seq_Match], 0, [.int .i64, .bool], true, []⟩
abbrev K118.T : Type := (api_Msg) → (seq_Match) → Option ((Int × Bool × Unit) × (seq_Match × Unit) × Unit)
def K118.W (f : K118.T) : K118.sig.F := fun a x => f a.2.1 x.1
def K118.JR5 : Exits U := [(.normal, ⟨45, 14, [], [(13, .obj .t_seq_Match)]⟩)]
def K118.JC2 : Exits U := [(.normal, ⟨45, 15, [(0, .ptr 13 0 0), (3, .ptr 14 0 0)], [(13, .obj .t_seq_Match), (14, .obj .t_api_Msg)]⟩),
 (.ret, ⟨45, 14, [(4, vi_), (5, vb_)], [(13, .obj .t_seq_Match)]⟩)]
def K118.H (cK123 : K123.T) (cK120 : K120.T) : Hints U := { Γ := (addΓ 187 (K120.sig.native (K120.W cK120)) (addΓ 186 (K123.sig.native (K123.W cK123)) noΓ)), ro := 0, base := 14, joinQ := jt_ [(3, [(10, vb_)])], joinR := jt_ [(5, K118.JR5)], joinC := jt_ [(2, K118.JC2)] }
def K118.gen (cK123 : K123.T) (cK120 : K120.T) : K118.T := fun x_1 h0 =>
 (oelim ((bif ine x_1.fType 8 then some (.inr (((0 : Int), (false, ())), (h0, ()))) else (oelim ((bif h0.fhasSync then (oelim (cK123 h0.fsync) none fun r0 => (oelim (cK123 x_1) none fun r1 => some (bif bif ieq r0.1.1.fsource.fClock r1.1.1.fsource.fClock then bif ieq r0.1.1.fsource.fPort r1.1.1.fsource.fPort then true else false else false then bif ieq r0.1.1.fseq r1.1.1.fseq then true else false else false, ()))) else some (false, ()))) none fun r2 => (bif r2.1 then (oelim (cK120 h0.fsync x_1 h0.fat h0) none fun r3 => some (.inr (r3.1, r3.2.1))) else some (.inl ((), (h0, (x_1, ())))))))) none fun r4 => (selim r4 (fun r5 => some (((0 : Int), (false, ())), ((seq_Match.set_fhasFollowUp (seq_Match.set_ffollow r5.2.1 r5.2.2.1) true, ()), ()))) (fun r5 => some (r5.1, (r5.2, ())))))
def K118 : K118.T := K118.gen K123 K120
theorem K118.eq (cK123 : K123.T) (cK120 : K120.T) : EqA K118.sig (K118.H cK123 cK120) Tryz.f149 6 (K118.W (K118.gen cK123 cK120)) := by intro a x; kernel_rfl
theorem K118.ok : NK_ 149 K118.sig (K118.W K118) := ok_ Tryz.func149 (K118.eq K123 K120) (hn_ (Z0 (Z0 Z2 K123.ok) K120.ok))
def K125.sig : Sig U := ⟨[.ptr], [.obj .t_servo_Servo], 1, [.int .i64], false, []⟩
abbrev K125.T : Type := (servo_Servo) → Option ((Int × Unit) × Unit × Unit)
def K125.W (f : K125.T) : K125.sig.F := fun a x => f x.1
def K125.H : Hints U := { Γ := noΓ, ro := 14, base := 14 }
def K125.gen : K125.T := fun h0 =>
 some ((h0.ffreq, ()), ((), ()))
def K125 : K125.T := K125.gen
theorem K125.ok : NK_ 58 K125.sig (K125.W K125) := ok_ (H := K125.H) (n := 6) Tryz.func58 (by intro a x; kernel_rfl) (hn_ Z2)
def K134.sig : Sig U := ⟨[.int .i64], [], 0, [.int .i64], false, []⟩
abbrev K134.T : Type := (Int) → Option ((Int × Unit) × Unit × Unit)
def K134.W (f : K134.T) : K134.sig.F := fun a x => f a.1
def K134.H (cK137 : K137.T) : Hints U := { Γ := (addΓ 175 (K137.sig.native (K137.W cK137)) noΓ), ro := 0, base := 13 }
def K134.gen (cK137 : K137.T) : K134.T := fun log =>
 (oelim (cK137 1000000000 log) none fun r0 => some (r0.1, ((), ())))
def K134 : K134.T := K134.gen K137
theorem K134.eq (cK137 : K137.T) : EqA K134.sig (K134.H cK137) Tryz.f189 6 (K134.W (K134.gen cK137)) := by intro a x; kernel_rfl
theorem K134.ok : NK_ 189 K134.sig (K134.W K134) := ok_ Tryz.func189 (K134.eq K137) (hn_ (Z0 Z2 K137.ok))
def K127.sig : Sig U := ⟨[.int .i64, .int .i64], [], 0, [.int .i64], false, []⟩
abbrev K127.T : Type := (Int) → (Int) → Option ((Int × Unit) × Unit × Unit)
def K127.W (f : K127.T) : K127.sig.F := fun a x => f a.1 a.2.1
def K127.H : Hints U := { Γ := noΓ, ro := 0, base := 13 }
def K127.gen : K127.T := fun v most =>
 some ((Z4 true (IntKind.wrap .i64 ((0 : Int) - most)) (Z4 false v most), ()), ((), ()))
def K127 : K127.T := K127.gen
theorem K127.ok : NK_ 203 K127.sig (K127.W K127) := ok_ (H := K127.H) (n := 6) Tryz.func203 (by intro a x; kernel_rfl) (hn_ Z2)
def K126.sig : Sig U := ⟨[.ptr, .int .i64, .int .i64], [.obj .t_servo_Servo], 0, [.int .i64, .bool, .int .i64], true, []⟩
abbrev K126.T : Type := (Int) → (Int) → (servo_Servo) → Option ((Int × Bool × Int × Unit) × (servo_Servo × Unit) × Unit)
def K126.W (f : K126.T) : K126.sig.F := fun a x => f a.2.1 a.2.2.1 x.1
def K126.C : Code := match Tryz.f188.body with | some c => c | none => .skip
def K126.B0 : Code := match (Z3 K126.C).getD 0 .skip with | .loop b => b | .scope b => b | _ => .skip
def K126.JC18 : Exits U := [(.normal, ⟨141, 14, [(0, .ptr 13 0 0)], [(13, .obj .t_servo_Servo)]⟩)]
def K126.JC16 : Exits U := [(.normal, ⟨141, 14, [(0, .ptr 13 0 0), (1, vi_)], [(13, .obj .t_servo_Servo)]⟩)]
def K126.H (cK127 : K127.T) : Hints U := { Γ := (addΓ 203 (K127.sig.native (K127.W cK127)) noΓ), ro := 0, base := 14, joinQ := jt_ [(4, [(45, vb_)]), (10, [(91, vb_)]), (15, [(114, vb_)]), (19, [(127, vb_)])], joinC := jt_ [(16, K126.JC16), (18, K126.JC18)], gotos := 3, loop := fun b => none }
def K126.gen (cK127 : K127.T) : K126.T := fun offset interval h0 =>
 (oelim (cK127 offset 4000000000000000) none fun r0 => (oelim ((bif ieq h0.fstate 0 then some (true, ()) else (bif ieq h0.fstep 0 then some (true, ()) else (bif ilt h0.fstep r0.1.1 then some (true, ()) else some (ilt r0.1.1 (IntKind.wrap .i64 ((0 : Int) - h0.fstep)), ()))))) none fun r1 => (bif r1.1 then some ((IntKind.wrap .i64 ((0 : Int) - r0.1.1), (true, (h0.ffreq, ()))), ((servo_Servo.set_fnear (servo_Servo.set_fstate h0 1) 0, ()), ())) else (bif ine (Z4 true 1 (Z4 false interval 16000000000)) 0 then (oelim (cK127 (iquo .i64 (imul .i64 r0.1.1 1000000000) (Z4 true 1 (Z4 false interval 16000000000))) 512000000) none fun r2 => (oelim (cK127 (iadd .i64 h0.fdrift (iquo .i64 (imul .i64 h0.fki r2.1.1) 1000)) 512000) none fun r3 => (oelim ((bif ilt 512000 (isub .i64 (IntKind.wrap .i64 ((0 : Int) - iquo .i64 (imul .i64 h0.fkp r2.1.1) 1000)) r3.1.1) then some (true, ()) else some (ilt (isub .i64 (IntKind.wrap .i64 ((0 : Int) - iquo .i64 (imul .i64 h0.fkp r2.1.1) 1000)) r3.1.1) (-512000), ()))) none fun r4 => (bif r4.1 then (oelim (cK127 (isub .i64 (IntKind.wrap .i64 ((0 : Int) - iquo .i64 (imul .i64 h0.fkp r2.1.1) 1000)) r3.1.1) 512000) none fun r5 => (oelim ((bif ilt 100 r0.1.1 then some (true, ()) else some (ilt r0.1.1 (-100), ()))) none fun r6 => (oelim ((bif r6.1 then some (r0.1, (servo_Servo.set_fnear (servo_Servo.set_ffreq h0 r5.1.1) 0, ())) else some (r0.1, (servo_Servo.set_fnear (servo_Servo.set_ffreq h0 r5.1.1) (iadd .i64 h0.fnear 1), ())))) none fun r7 => (oelim ((bif ile 3 r7.2.1.fnear then some ((), (servo_Servo.set_fstate r7.2.1 2, ())) else (oelim ((bif ilt 1000 r7.1.1 then some (true, ()) else some (ilt r7.1.1 (-1000), ()))) none fun r8 => (bif r8.1 then some ((), (servo_Servo.set_fstate r7.2.1 1, ())) else some ((), r7.2))))) none fun r9 => some (((0 : Int), (false, (r9.2.1.ffreq, ()))), (r9.2, ())))))) else (oelim ((bif ilt 100 r0.1.1 then some (true, ()) else some (ilt r0.1.1 (-100), ()))) none fun r10 => (oelim ((bif r10.1 then some (r0.1, (servo_Servo.set_fnear (servo_Servo.set_fdrift (servo_Servo.set_ffreq h0 (isub .i64 (IntKind.wrap .i64 ((0 : Int) - iquo .i64 (imul .i64 h0.fkp r2.1.1) 1000)) r3.1.1)) r3.1.1) 0, ())) else some (r0.1, (servo_Servo.set_fnear (servo_Servo.set_fdrift (servo_Servo.set_ffreq h0 (isub .i64 (IntKind.wrap .i64 ((0 : Int) - iquo .i64 (imul .i64 h0.fkp r2.1.1) 1000)) r3.1.1)) r3.1.1) (iadd .i64 h0.fnear 1), ())))) none fun r11 => (oelim ((bif ile 3 r11.2.1.fnear then some ((), (servo_Servo.set_fstate r11.2.1 2, ())) else (oelim ((bif ilt 1000 r11.1.1 then some (true, ()) else some (ilt r11.1.1 (-1000), ()))) none fun r12 => (bif r12.1 then some ((), (servo_Servo.set_fstate r11.2.1 1, ())) else some ((), r11.2))))) none fun r13 => some (((0 : Int), (false, (r13.2.1.ffreq, ()))), (r13.2, ()))))))))) else none))))
def K126 : K126.T := K126.gen K127
theorem K126.eq (cK127 : K127.T) : EqA K126.sig (K126.H cK127) Tryz.f188 6 (K126.W (K126.gen cK127)) := by intro a x; kernel_rfl
theorem K126.loops : Z3 K126.C = [(.scope K126.B0)] := by kernel_rfl
theorem K126.ok : NK_ 188 K126.sig (K126.W K126) := ok_ Tryz.func188 (K126.eq K127) (hl_ (Z0 Z2 K127.ok) (Zx Z6)) K126.loops
def K26.sig : Sig U := ⟨[.ptr, .eptr 0 23 42 8, .int .i64], [.obj .t_clock_Clock, fm5_, fm7_, fm8_, fm9_, fm10_], 0, [], true, []⟩
abbrev K26.T : Type := (Nat) → (Int) → (clock_Clock) → (Fm servo_Servo) → (Fm delay_Exchange) → (Fm peer_Exchange) → (Fm median_Filter) → (Fm seq_Match) → Option (Unit × (clock_Clock × qT5_) × Unit)
def K26.W (f : K26.T) : K26.sig.F := fun a x => f a.2.1 a.2.2.1 x.1 x.2.1 x.2.2.1 x.2.2.2.1 x.2.2.2.2.1 x.2.2.2.2.2.1
def K26.L0 : Shape U := ⟨125, 14, [(0, .ptr 13 0 0), (1, .aptr 13 23 42 8 0), (68, vi_), (69, vi_)], (13, .obj .t_clock_Clock) :: hT2_⟩
def K26.X0 : Exits U := [(.exit 1, ⟨125, 14, [(0, .ptr 13 0 0), (1, .aptr 13 23 42 8 0)], (13, .obj .t_clock_Clock) :: hT2_⟩)]
abbrev K26.l0T : Type := ((Nat × Int × Int × Unit) × (clock_Clock × qT5_)) → Option (((Nat × Unit) × (clock_Clock × qT5_)))
def K26.C : Code := match Tryz.f150.body with | some c => c | none => .skip
def K26.B0 : Code := match (Z3 K26.C).getD 0 .skip with | .loop b => b | .scope b => b | _ => .skip
def K26.JR14 : Exits U := [(.normal, ⟨125, 14, [(0, .ptr 13 0 0), (1, .aptr 13 23 42 8 0), (68, vi_), (69, vi_)], (13, .obj .t_clock_Clock) :: hT2_⟩)]
def K26.JR13 : Exits U := [(.normal, ⟨125, 14, [(0, .ptr 13 0 0), (1, .aptr 13 23 42 8 0), (11, .aptr 13 23 42 8 0), (68, vi_), (69, vi_)], (13, .obj .t_clock_Clock) :: hT2_⟩)]
def K26.JR6 : Exits U := [(.normal, ⟨125, 14, [(0, .ptr 13 0 0), (1, .aptr 13 23 42 8 0)], (13, .obj .t_clock_Clock) :: hT2_⟩)]
def K26.JR2 : Exits U := [(.normal, ⟨125, 14, [(0, .ptr 13 0 0), (1, .aptr 13 23 42 8 0), (6, vi_), (7, vi_), (8, vb_), (9, vi_)], (13, .obj .t_clock_Clock) :: hT2_⟩)]
def K26.JR0 : Exits U := [(.normal, ⟨125, 14, [(0, .ptr 13 0 0), (1, .aptr 13 23 42 8 0), (2, vi_)], (13, .obj .t_clock_Clock) :: hT2_⟩)]
def K26.H (cK125 : K125.T) (cK134 : K134.T) (cK126 : K126.T) (cK87 : K87.T) (cK117 : K117.T) (cK52 : K52.T) (cK103 : K103.T) (cK112 : K112.T) (l0 : K26.l0T) : Hints U := { Γ := (addΓ 95 (K112.sig.native (K112.W cK112)) (addΓ 98 (K103.sig.native (K103.W cK103)) (K52.N cK52 (K117.N cK117 (addΓ 139 (K87.sig.native (K87.W cK87)) (addΓ 188 (K126.sig.native (K126.W cK126)) (addΓ 189 (K134.sig.native (K134.W cK134)) (addΓ 58 (K125.sig.native (K125.W cK125)) noΓ)))))))), ro := 0, base := 14, joinR := jt_ [(0, K26.JR0), (2, K26.JR2), (4, K26.JR6), (5, K26.JR6), (6, K26.JR6), (11, K26.JR13), (12, K26.JR13), (13, K26.JR13), (14, K26.JR14)], joinC := jt_ [(4, K26.JR6)], loop := jt_ [(8, (Za (0, 14) K26.L0 K26.X0 l0))] }
def K26.step0 (cK125 : K125.T) (cK134 : K134.T) (cK126 : K126.T) (cK87 : K87.T) (cK117 : K117.T) (cK52 : K52.T) (cK103 : K103.T) (cK112 : K112.T) (a : (Nat × Int × Int × Unit) × (clock_Clock × qT5_)) : Option (((Nat × Int × Int × Unit) × (clock_Clock × qT5_)) ⊕ (((Nat × Unit) × (clock_Clock × qT5_)))) :=
 (bif ilt a.1.2.2.1 a.1.2.1 then (bif inR a.1.2.2.1 8 then (oelim ((oelim ((a.2.1.fports (Int.toNat a.1.2.2.1)).12) none fun r0 => (oelim (cK117 (a.2.2.2.2.2.2.1.2 r0)) none fun r1 => some ((a.1.1, (Int.toNat a.1.2.2.1, a.1.2)), (a.2.1, (a.2.2.1, (a.2.2.2.1, (a.2.2.2.2.1, (a.2.2.2.2.2.1, ((a.2.2.2.2.2.2.1.1, fset a.2.2.2.2.2.2.1.2 r0 r1.2.1.1), ())))))))))) none fun r2 => (oelim ((oelim ((r2.2.1.fports r2.1.2.1).13) none fun r3 => (oelim (cK52 (r2.2.2.2.1.2 r3)) none fun r4 => some (r2.1, (r2.2.1, (r2.2.2.1, ((r2.2.2.2.1.1, fset r2.2.2.2.1.2 r3 r4.2.1.1), r2.2.2.2.2))))))) none fun r5 => (oelim ((oelim ((r5.2.1.fports r5.1.2.1).14) none fun r6 => (oelim (cK103 (r5.2.2.2.2.1.2 r6)) none fun r7 => some (r5.1, (r5.2.1, (r5.2.2.1, (r5.2.2.2.1, ((r5.2.2.2.2.1.1, fset r5.2.2.2.2.1.2 r6 r7.2.1.1), r5.2.2.2.2.2)))))))) none fun r8 => some (.inl ((r8.1.1, (r8.1.2.2.1, (iadd .i64 r8.1.2.2.2.1 1, ()))), (clock_Clock.set_fports r8.2.1 (fset r8.2.1.fports r8.1.2.1 (clock_side.set_fdiff (r8.2.1.fports r8.1.2.1) z4_)), r8.2.2)))))) else none) else some (.inr ((a.1.1, ()), a.2)))
def K26.F0 : K26.l0T := fun a => Z8 (1000000) (K26.step0 K125 K134 K126 K87 K117 K52 K103 K112) a
def K26.gen (cK125 : K125.T) (cK134 : K134.T) (cK126 : K126.T) (cK87 : K87.T) (cK117 : K117.T) (cK52 : K52.T) (cK103 : K103.T) (cK112 : K112.T) (l0 : K26.l0T) : K26.T := fun p offset h0 g5 g7 g8 g9 g10 =>
 (oelim (h0.5) none fun r0 => (oelim (cK125 (g5.2 r0)) none fun r1 => (oelim ((oelim (h0.5) none fun r2 => (oelim (cK134 h0.fconf.fLogSync) none fun r3 => (oelim (cK126 offset r3.1.1 (g5.2 r2)) none fun r4 => some ((p, (r1.1.1, r4.1)), (clock_Clock.set_foffset h0 offset, ((g5.1, fset g5.2 r2 r4.2.1.1), (g7, (g8, (g9, (g10, ()))))))))))) none fun r5 => (oelim ((bif r5.1.2.2.2.1 then (oelim ((bif room (List.length r5.2.1.fouts + List.length (api_Out.mk 2 0 r5.1.2.2.1 false 0 0 (ByteArray.mk (List.toArray (lnil UInt8))) :: lnil api_Out)) 64 then some ((r5.1.1, ()), (clock_Clock.set_fouts r5.2.1 (r5.2.1.fouts ++ api_Out.mk 2 0 r5.1.2.2.1 false 0 0 (ByteArray.mk (List.toArray (lnil UInt8))) :: lnil api_Out), r5.2.2)) else none)) none fun r6 => (oelim ((oelim (r6.2.1.6) none fun r7 => (oelim (cK87 (r6.2.2.2.2.2.1.2 r7)) none fun r8 => some (r6.1, (r6.2.1, (r6.2.2.1, (r6.2.2.2.1, (r6.2.2.2.2.1, ((r6.2.2.2.2.2.1.1, fset r6.2.2.2.2.2.1.2 r7 r8.2.1.1), r6.2.2.2.2.2.2))))))))) none fun r9 => (bif le3 (ofN 0) r9.2.1.fconf.fPorts 8 then (oelim (l0 ((r9.1.1, ofN (Int.toNat r9.2.1.fconf.fPorts - Int.toNat (ofN 0)), (0 : Int), ()), clock_Clock.set_fdelay r9.2.1 z4_, r9.2.2)) none fun r10 => some r10) else none))) else (bif ine r5.1.2.2.2.2.1 r5.1.2.1 then (bif room (List.length r5.2.1.fouts + List.length (api_Out.mk 3 0 r5.1.2.2.2.2.1 false 0 0 (ByteArray.mk (List.toArray (lnil UInt8))) :: lnil api_Out)) 64 then some ((r5.1.1, ()), (clock_Clock.set_fouts r5.2.1 (r5.2.1.fouts ++ api_Out.mk 3 0 r5.1.2.2.2.2.1 false 0 0 (ByteArray.mk (List.toArray (lnil UInt8))) :: lnil api_Out), r5.2.2)) else none) else some ((r5.1.1, ()), r5.2)))) none fun r11 => (oelim (cK112 (r11.2.1.fports r11.1.1).fstate 6 r11.2.1.fconf.fSlaveOnly) none fun r12 => some ((), ((clock_Clock.set_fports r11.2.1 (fset r11.2.1.fports r11.1.1 (clock_side.set_fstate (r11.2.1.fports r11.1.1) r12.1.1)), r11.2.2), ())))))))
def K26 : K26.T := K26.gen K125 K134 K126 K87 K117 K52 K103 K112 K26.F0
theorem K26.seq0 (cK125 : K125.T) (cK134 : K134.T) (cK126 : K126.T) (cK87 : K87.T) (cK117 : K117.T) (cK52 : K52.T) (cK103 : K103.T) (cK112 : K112.T) (l0 : K26.l0T) (a : K26.L0.T) : run Tryz.prog (K26.H cK125 cK134 cK126 cK87 cK117 cK52 cK103 cK112 l0) 6 (Option (K26.L0.T ⊕ ExT K26.X0)) none K26.B0 (K26.L0.enc a) (Zn (0, 14) K26.L0 K26.X0) = K26.step0 cK125 cK134 cK126 cK87 cK117 cK52 cK103 cK112 a := by kernel_rfl
abbrev K26.h := K26.H K125 K134 K126 K87 K117 K52 K103 K112 K26.F0
theorem K26.lok0 : LO_ K26.h K26.B0 (Za (0, 14) K26.L0 K26.X0 K26.F0) := lk_ (hn_ (Z0 (Z0 (Z0 (Z0 (Z0 (Z0 (Z0 (Z0 Z2 K125.ok) K134.ok) K126.ok) K87.ok) K117.ok) K52.ok) K103.ok) K112.ok)) (K26.seq0 K125 K134 K126 K87 K117 K52 K103 K112 K26.F0)
theorem K26.eq (cK125 : K125.T) (cK134 : K134.T) (cK126 : K126.T) (cK87 : K87.T) (cK117 : K117.T) (cK52 : K52.T) (cK103 : K103.T) (cK112 : K112.T) (l0 : K26.l0T) : EqA K26.sig (K26.H cK125 cK134 cK126 cK87 cK117 cK52 cK103 cK112 l0) Tryz.f150 6 (K26.W (K26.gen cK125 cK134 cK126 cK87 cK117 cK52 cK103 cK112 l0)) := by intro a x; kernel_rfl
theorem K26.loops : Z3 K26.C = [(.loop K26.B0)] := by kernel_rfl
theorem K26.ok : NK_ 150 K26.sig (K26.W K26) := ok_ Tryz.func150 (K26.eq K125 K134 K126 K87 K117 K52 K103 K112 K26.F0) (hl_ (Z0 (Z0 (Z0 (Z0 (Z0 (Z0 (Z0 (Z0 Z2 K125.ok) K134.ok) K126.ok) K87.ok) K117.ok) K52.ok) K103.ok) K112.ok) (Z9 (by kernel_rfl) K26.lok0 Z6)) K26.loops
end
end Go.Proofs.YtgnabnhggaondaaGreat
