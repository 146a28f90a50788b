/- Typed forms of the functions that these statements reach, proved equal to what the model runs, and laws over them. -/
import Derived.Test.YtgnabnhggaondaaGreatSa
namespace Go.Proofs.YtgnabnhggaondaaGreat
open Go.Rf
set_option linter.unusedVariables false
set_option linter.unusedSimpArgs false
set_option maxRecDepth 100000
noncomputable section
def K21.sig : Sig U := ⟨[.ptr, .int .i64], [.obj .t_clock_Clock], 1, [.bool], false, []⟩
abbrev K21.T : Type := (Int) → (clock_Clock) → Option ((Bool × Unit) × Unit × Unit)
def K21.W (f : K21.T) : K21.sig.F := fun a x => f a.2.1 x.1
def K21.H : Hints U := { Γ := (addΓ 5000000021 Z1x noΓ), ro := 14, base := 14 }
def K21.gen : K21.T := fun n h0 =>
 (bif ilt n 1 then some ((true, ()), ((), ())) else some ((ilt h0.fconf.fPorts n, ()), ((), ())))
def K21 : K21.T := K21.gen
theorem K21.eq : EqA K21.sig (K21.H) Tryz.f46 6 (K21.W (K21.gen)) := by intro a x; kernel_rfl
theorem K21.hints : HintsOK U Tryz.prog (K21.H) (fun c => c ∈ ([] : List Code)) := (hq (Z0 Z4 Zo) Z1 (fun _ => rfl) (fun _ => rfl))
theorem K21.ok : Z3 U Tryz.prog 46 (K21.sig.native (K21.W K21)) :=
 Sig.ok K21.sig (K21.W (K21.gen)) U_pure (Hn := (K21.H)) (gos := 6) K21.hints Tryz.func46 rfl (by kernel_rfl) (fun b h => h) rfl rfl (by decide) (K21.eq) (by decide)
def K131.sig : Sig U := ⟨[.isl .t_api_Tlv, .int .i64], [], 0, [.data .t_api_Tlv, .bool], true, []⟩
abbrev K131.T : Type := (List (api_Tlv)) → (Int) → Option ((api_Tlv × Bool × Unit) × Unit × Unit)
def K131.W (f : K131.T) : K131.sig.F := fun a x => f a.1 a.2.1
def K131.L0 : Shape U := ⟨21, 14, [(1, vi_), (4, .ptr 13 0 0), (8, .val (.isl .t_api_Tlv)), (9, vi_), (10, vi_)], [(13, .obj .t_api_Tlv)]⟩
def K131.X0 : Exits U := [(.exit 0, ⟨21, 14, [(4, .ptr 13 0 0)], [(13, .obj .t_api_Tlv)]⟩),
 (.ret, ⟨21, 14, [(4, .ptr 13 0 0), (5, vb_)], [(13, .obj .t_api_Tlv)]⟩)]
abbrev K131.l0T : Type := ((Int × (List (api_Tlv)) × Int × Int × Unit) × (api_Tlv × Unit)) → Option ((Unit × (api_Tlv × Unit)) ⊕ ((Bool × Unit) × (api_Tlv × Unit)))
def K131.C : Code := match Tryz.f144.body with | some c => c | none => .skip
def K131.B0 : Code := match (Z5 K131.C).getD 0 .skip with | .loop b => b | .scope b => b | _ => .skip
def K131.H (l0 : K131.l0T) : Hints U := { Γ := noΓ, ro := 0, base := 13, loop := fun b => (bif Nat.beq b 2 then some (Zc (0, 13) K131.L0 K131.X0 l0) else none) }
def K131.step0 (a : (Int × (List (api_Tlv)) × Int × Int × Unit) × (api_Tlv × Unit)) : Option (((Int × (List (api_Tlv)) × Int × Int × Unit) × (api_Tlv × Unit)) ⊕ ((Unit × (api_Tlv × Unit)) ⊕ ((Bool × Unit) × (api_Tlv × Unit)))) :=
 (bif ilt a.1.2.2.2.1 a.1.2.2.1 then (bif inR a.1.2.2.2.1 (List.length a.1.2.1) then (bif ieq (List.getD a.1.2.1 (Int.toNat a.1.2.2.2.1) api_Tlv.zero).fType a.1.1 then some (.inr (.inr ((true, ()), (List.getD a.1.2.1 (Int.toNat a.1.2.2.2.1) api_Tlv.zero, ())))) else some (.inl ((a.1.1, (a.1.2.1, (a.1.2.2.1, (iadd .i64 a.1.2.2.2.1 1, ())))), a.2))) else none) else some (.inr (.inl ((), a.2))))
def K131.F0 : K131.l0T := fun a => Za (1000000 + (a.1.2.1.length)) (K131.step0) a
def K131.gen (l0 : K131.l0T) : K131.T := fun l typ =>
 (oelim (l0 ((typ, l, ofN (List.length l), (0 : Int), ()), api_Tlv.mk 0 (ByteArray.mk (List.toArray (lnil UInt8))), ())) none fun r0 => (selim r0 (fun r1 => some ((api_Tlv.mk 0 (ByteArray.mk (List.toArray (lnil UInt8))), (false, ())), ((), ()))) (fun r1 => some ((r1.2.1, r1.1), ((), ())))))
def K131 : K131.T := K131.gen K131.F0
theorem K131.seq0 (l0 : K131.l0T) (a : K131.L0.T) : run Tryz.prog (K131.H l0) 6 (Option (K131.L0.T ⊕ ExT K131.X0)) none K131.B0 (K131.L0.enc a) (Zs (0, 13) K131.L0 K131.X0) = K131.step0 a := by kernel_rfl
theorem K131.inner0 : Z5 K131.B0 = ([] : List Code) := by kernel_rfl
abbrev K131.h := K131.H K131.F0
theorem K131.lok0 : Ze U Tryz.prog K131.h.ro K131.h.base K131.B0 (Zc (0, 13) K131.L0 K131.X0 K131.F0) :=
 Zh (Hn := K131.h) U_ok U_pure (Zl (hq Z4 Z1 (fun _ => rfl) (fun _ => rfl)) 6) (fun b h => by rw [K131.inner0] at h; exact h) (fun _ => rfl) (K131.seq0 K131.F0)
theorem K131.eq (l0 : K131.l0T) : EqA K131.sig (K131.H l0) Tryz.f144 6 (K131.W (K131.gen l0)) := by intro a x; kernel_rfl
theorem K131.loops : Z5 K131.C = [(.loop K131.B0)] := by kernel_rfl
theorem K131.hints : HintsOK U Tryz.prog K131.h (fun c => c ∈ [(.loop K131.B0)]) := (hq Z4 (Zb (by kernel_rfl) K131.lok0 Z1) (fun _ => rfl) (fun _ => rfl))
theorem K131.ok : Z3 U Tryz.prog 144 (K131.sig.native (K131.W K131)) :=
 Sig.ok K131.sig (K131.W K131) U_pure (Hn := K131.h) (code := K131.C) (gos := 6) K131.hints Tryz.func144 (by kernel_rfl) (by kernel_rfl) (fun b h => by rw [K131.loops] at h; exact h) rfl rfl (by decide) (K131.eq K131.F0) (by decide)
def K133.sig : Sig U := ⟨[.data .t_api_Tlv], [], 0, [.bool], false, []⟩
abbrev K133.T : Type := (api_Tlv) → Option ((Bool × Unit) × Unit × Unit)
def K133.W (f : K133.T) : K133.sig.F := fun a x => f a.1
def K133.JC14 : Exits U := [(.normal, ⟨50, 14, [(1, .ptr 13 0 0), (3, vi_), (8, vi_), (29, vb_)], [(13, .obj .t_api_Tlv)]⟩)]
def K133.JC4 : Exits U := [(.normal, ⟨50, 14, [(1, .ptr 13 0 0)], [(13, .obj .t_api_Tlv)]⟩),
 (.ret, ⟨50, 13, [(2, vb_)], []⟩)]
def K133.H : Hints U := { Γ := noΓ, ro := 0, base := 13, joinC := fun b => (bif Nat.beq b 4 then some K133.JC4 else (bif Nat.beq b 14 then some K133.JC14 else none)) }
def K133.gen : K133.T := fun t =>
 (oelim ((bif ieq t.fType 1 then some (.inr ((ile 2 (ofN (ByteArray.size t.fData)), ()), ())) else (bif ieq t.fType 2 then some (.inr ((ile 8 (ofN (ByteArray.size t.fData)), ()), ())) else (bif ieq t.fType 3 then some (.inr ((ile 6 (ofN (ByteArray.size t.fData)), ()), ())) else (bif ieq t.fType 4 then some (.inr ((ieq (ofN (ByteArray.size t.fData)) 6, ()), ())) else (bif ieq t.fType 5 then some (.inr ((ieq (ofN (ByteArray.size t.fData)) 8, ()), ())) else (oelim ((bif ieq t.fType 6 then some ((ofN (ByteArray.size t.fData), (t.fType, (ieq t.fType 6, ()))), (t, ())) else some ((ofN (ByteArray.size t.fData), (t.fType, (ieq t.fType 7, ()))), (t, ())))) none fun r0 => (bif r0.1.2.2.1 then some (.inr ((ieq r0.1.1 2, ()), ())) else (bif ieq r0.1.2.1 8 then (bif ieq (irem r0.1.1 8) 0 then some (.inr ((ile r0.1.1 128, ()), ())) else some (.inr ((false, ()), ()))) else (bif ieq r0.1.2.1 9 then some (.inr ((ile 16 r0.1.1, ()), ())) else some (.inl ((), r0.2)))))))))))) none fun r1 => (selim r1 (fun r2 => some ((ieq r2.2.1.fType 32776, ()), ((), ()))) (fun r2 => some (r2.1, ((), ())))))
def K133 : K133.T := K133.gen
theorem K133.eq : EqA K133.sig (K133.H) Tryz.f183 6 (K133.W (K133.gen)) := by intro a x; kernel_rfl
theorem K133.hints : HintsOK U Tryz.prog (K133.H) (fun c => c ∈ ([] : List Code)) := (hq Z4 Z1 (fun _ => rfl) (fun _ => rfl))
theorem K133.ok : Z3 U Tryz.prog 183 (K133.sig.native (K133.W K133)) :=
 Sig.ok K133.sig (K133.W (K133.gen)) U_pure (Hn := (K133.H)) (gos := 6) K133.hints Tryz.func183 rfl (by kernel_rfl) (fun b h => h) rfl rfl (by decide) (K133.eq) (by decide)
def K137.sig : Sig U := ⟨[.data .t_api_Tlv], [], 0, [.isl .u64, .bool], true, []⟩
abbrev K137.T : Type := (api_Tlv) → Option (((List (Int)) × Bool × Unit) × Unit × Unit)
def K137.W (f : K137.T) : K137.sig.F := fun a x => f a.1
def K137.L0 : Shape U := ⟨36, 15, [(1, .ptr 13 0 0), (4, .own .u64 14), (5, vi_)], [(13, .obj .t_api_Tlv), (14, .tok)]⟩
def K137.X0 : Exits U := [(.exit 0, ⟨36, 14, [(4, .own .u64 13)], [(13, .tok)]⟩)]
abbrev K137.l0T : Type := (((List (Int)) × Int × Unit) × (api_Tlv × Unit)) → Option ((((List (Int)) × Unit) × Unit))
def K137.C : Code := match Tryz.f145.body with | some c => c | none => .skip
def K137.B0 : Code := match (Z5 K137.C).getD 0 .skip with | .loop b => b | .scope b => b | _ => .skip
def K137.H (cK133 : K133.T) (cK97 : K97.T) (l0 : K137.l0T) : Hints U := { Γ := (addΓ 111 (K97.sig.native (K97.W cK97)) (addΓ 183 (K133.sig.native (K133.W cK133)) noΓ)), ro := 0, base := 13, joinQ := fun b => (bif Nat.beq b 1 then some [(15, vb_)] else none), loop := fun b => (bif Nat.beq b 5 then some (Zc (0, 13) K137.L0 K137.X0 l0) else none) }
def K137.step0 (cK133 : K133.T) (cK97 : K97.T) (a : ((List (Int)) × Int × Unit) × (api_Tlv × Unit)) : Option ((((List (Int)) × Int × Unit) × (api_Tlv × Unit)) ⊕ ((((List (Int)) × Unit) × Unit))) :=
 (bif ilt a.1.2.1 (ofN (ByteArray.size a.2.1.fData)) then (oelim (cK97 a.2.1.fData.data.toList a.1.2.1) none fun r0 => (bif room (List.length a.1.1 + List.length (r0.1.1 :: lnil Int)) 8 then some (.inl ((a.1.1 ++ r0.1.1 :: lnil Int, (iadd .i64 a.1.2.1 8, ())), a.2)) else none)) else some (.inr ((a.1.1, ()), ())))
def K137.F0 : K137.l0T := fun a => Za (1000000 + (a.1.1.length)) (K137.step0 K133 K97) a
def K137.gen (cK133 : K133.T) (cK97 : K97.T) (l0 : K137.l0T) : K137.T := fun t =>
 (oelim ((bif ine t.fType 8 then some (true, ()) else (oelim (cK133 t) none fun r0 => some (!r0.1.1, ())))) none fun r1 => (bif r1.1 then some ((lnil Int, (false, ())), ((), ())) else (oelim (l0 ((lnil Int, (0 : Int), ()), t, ())) none fun r2 => some ((r2.1.1, (true, ())), ((), ())))))
def K137 : K137.T := K137.gen K133 K97 K137.F0
theorem K137.seq0 (cK133 : K133.T) (cK97 : K97.T) (l0 : K137.l0T) (a : K137.L0.T) : run Tryz.prog (K137.H cK133 cK97 l0) 6 (Option (K137.L0.T ⊕ ExT K137.X0)) none K137.B0 (K137.L0.enc a) (Zs (0, 13) K137.L0 K137.X0) = K137.step0 cK133 cK97 a := by kernel_rfl
theorem K137.inner0 : Z5 K137.B0 = ([] : List Code) := by kernel_rfl
abbrev K137.h := K137.H K133 K97 K137.F0
theorem K137.lok0 : Ze U Tryz.prog K137.h.ro K137.h.base K137.B0 (Zc (0, 13) K137.L0 K137.X0 K137.F0) :=
 Zh (Hn := K137.h) U_ok U_pure (Zl (hq (Z0 (Z0 Z4 K133.ok) K97.ok) Z1 (fun _ => rfl) (fun _ => rfl)) 6) (fun b h => by rw [K137.inner0] at h; exact h) (fun _ => rfl) (K137.seq0 K133 K97 K137.F0)
theorem K137.eq (cK133 : K133.T) (cK97 : K97.T) (l0 : K137.l0T) : EqA K137.sig (K137.H cK133 cK97 l0) Tryz.f145 6 (K137.W (K137.gen cK133 cK97 l0)) := by intro a x; kernel_rfl
theorem K137.loops : Z5 K137.C = [(.loop K137.B0)] := by kernel_rfl
theorem K137.hints : HintsOK U Tryz.prog K137.h (fun c => c ∈ [(.loop K137.B0)]) := (hq (Z0 (Z0 Z4 K133.ok) K97.ok) (Zb (by kernel_rfl) K137.lok0 Z1) (fun _ => rfl) (fun _ => rfl))
theorem K137.ok : Z3 U Tryz.prog 145 (K137.sig.native (K137.W K137)) :=
 Sig.ok K137.sig (K137.W K137) U_pure (Hn := K137.h) (code := K137.C) (gos := 6) K137.hints Tryz.func145 (by kernel_rfl) (by kernel_rfl) (fun b h => by rw [K137.loops] at h; exact h) rfl rfl (by decide) (K137.eq K133 K97 K137.F0) (by decide)
def K120.sig : Sig U := ⟨[.isl .u64, .int .u64], [], 0, [.int .i64], false, []⟩
abbrev K120.T : Type := (List (Int)) → (Int) → Option ((Int × Unit) × Unit × Unit)
def K120.W (f : K120.T) : K120.sig.F := fun a x => f a.1 a.2.1
def K120.L0 : Shape U := ⟨19, 13, [(0, .val (.isl .u64)), (1, .val (.int .u64)), (7, vi_), (8, vi_)], []⟩
def K120.X0 : Exits U := [(.exit 0, ⟨19, 13, [], []⟩),
 (.ret, ⟨19, 13, [(4, vi_)], []⟩)]
abbrev K120.l0T : Type := (((List (Int)) × Int × Int × Int × Unit) × Unit) → Option ((Unit × Unit) ⊕ ((Int × Unit) × Unit))
def K120.C : Code := match Tryz.f184.body with | some c => c | none => .skip
def K120.B0 : Code := match (Z5 K120.C).getD 0 .skip with | .loop b => b | .scope b => b | _ => .skip
def K120.H (l0 : K120.l0T) : Hints U := { Γ := noΓ, ro := 0, base := 13, loop := fun b => (bif Nat.beq b 2 then some (Zc (0, 13) K120.L0 K120.X0 l0) else none) }
def K120.step0 (a : ((List (Int)) × Int × Int × Int × Unit) × Unit) : Option ((((List (Int)) × Int × Int × Int × Unit) × Unit) ⊕ ((Unit × Unit) ⊕ ((Int × Unit) × Unit))) :=
 (bif ilt a.1.2.2.2.1 a.1.2.2.1 then (bif inR a.1.2.2.2.1 (List.length a.1.1) then (bif ieq a.1.2.1 (List.getD a.1.1 (Int.toNat a.1.2.2.2.1) (0 : D UC.u64)) then some (.inr (.inr (a.1.2.2.2, ()))) else some (.inl ((a.1.1, (a.1.2.1, (a.1.2.2.1, (iadd .i64 a.1.2.2.2.1 1, ())))), ()))) else none) else some (.inr (.inl ((), ()))))
def K120.F0 : K120.l0T := fun a => Za (1000000 + (a.1.1.length)) (K120.step0) a
def K120.gen (l0 : K120.l0T) : K120.T := fun s v =>
 (oelim (l0 ((s, v, ofN (List.length s), (0 : Int), ()), ())) none fun r0 => (selim r0 (fun r1 => some (((-1 : Int), ()), ((), ()))) (fun r1 => some (r1.1, ((), ())))))
def K120 : K120.T := K120.gen K120.F0
theorem K120.seq0 (l0 : K120.l0T) (a : K120.L0.T) : run Tryz.prog (K120.H l0) 6 (Option (K120.L0.T ⊕ ExT K120.X0)) none K120.B0 (K120.L0.enc a) (Zs (0, 13) K120.L0 K120.X0) = K120.step0 a := by kernel_rfl
theorem K120.inner0 : Z5 K120.B0 = ([] : List Code) := by kernel_rfl
abbrev K120.h := K120.H K120.F0
theorem K120.lok0 : Ze U Tryz.prog K120.h.ro K120.h.base K120.B0 (Zc (0, 13) K120.L0 K120.X0 K120.F0) :=
 Zh (Hn := K120.h) U_ok U_pure (Zl (hq Z4 Z1 (fun _ => rfl) (fun _ => rfl)) 6) (fun b h => by rw [K120.inner0] at h; exact h) (fun _ => rfl) (K120.seq0 K120.F0)
theorem K120.eq (l0 : K120.l0T) : EqA K120.sig (K120.H l0) Tryz.f184 6 (K120.W (K120.gen l0)) := by intro a x; kernel_rfl
theorem K120.loops : Z5 K120.C = [(.loop K120.B0)] := by kernel_rfl
theorem K120.hints : HintsOK U Tryz.prog K120.h (fun c => c ∈ [(.loop K120.B0)]) := (hq Z4 (Zb (by kernel_rfl) K120.lok0 Z1) (fun _ => rfl) (fun _ => rfl))
theorem K120.ok : Z3 U Tryz.prog 184 (K120.sig.native (K120.W K120)) :=
 Sig.ok K120.sig (K120.W K120) U_pure (Hn := K120.h) (code := K120.C) (gos := 6) K120.hints Tryz.func184 (by kernel_rfl) (by kernel_rfl) (fun b h => by rw [K120.loops] at h; exact h) rfl rfl (by decide) (K120.eq K120.F0) (by decide)
def K119.sig : Sig U := ⟨[.isl .u64, .int .u64], [], 0, [.bool], false, []⟩
abbrev K119.T : Type := (List (Int)) → (Int) → Option ((Bool × Unit) × Unit × Unit)
def K119.W (f : K119.T) : K119.sig.F := fun a x => f a.1 a.2.1
def K119.H (cK120 : K120.T) : Hints U := { Γ := (addΓ 184 (K120.sig.native (K120.W cK120)) noΓ), ro := 0, base := 13 }
def K119.gen (cK120 : K120.T) : K119.T := fun s v =>
 (oelim (cK120 s v) none fun r0 => some ((ile 0 r0.1.1, ()), ((), ())))
def K119 : K119.T := K119.gen K120
theorem K119.eq (cK120 : K120.T) : EqA K119.sig (K119.H cK120) Tryz.f146 6 (K119.W (K119.gen cK120)) := by intro a x; kernel_rfl
abbrev K119.h := K119.H K120
theorem K119.hints : HintsOK U Tryz.prog K119.h (fun c => c ∈ ([] : List Code)) := (hq (Z0 Z4 K120.ok) Z1 (fun _ => rfl) (fun _ => rfl))
theorem K119.ok : Z3 U Tryz.prog 146 (K119.sig.native (K119.W K119)) :=
 Sig.ok K119.sig (K119.W K119) U_pure (Hn := K119.h) (gos := 6) K119.hints Tryz.func146 rfl (by kernel_rfl) (fun b h => h) rfl rfl (by decide) (K119.eq K120) (by decide)
def K57.sig : Sig U := ⟨[.ptr, .data .t_api_Msg, .int .i64], [.obj .t_foreign_Table], 0, [.int .i64], false, []⟩
abbrev K57.T : Type := (api_Msg) → (Int) → (foreign_Table) → Option ((Int × Unit) × (foreign_Table × Unit) × Unit)
def K57.W (f : K57.T) : K57.sig.F := fun a x => f a.2.1 a.2.2.1 x.1
def K57.L0 : Shape U := ⟨143, 15, [(0, .ptr 13 0 0), (2, vi_), (4, .ptr 14 0 0), (7, vi_)], [(13, .obj .t_foreign_Table), (14, .obj .t_api_Msg)]⟩
def K57.X0 : Exits U := [(.exit 1, ⟨143, 15, [(0, .ptr 13 0 0), (2, vi_), (4, .ptr 14 0 0), (7, vi_)], [(13, .obj .t_foreign_Table), (14, .obj .t_api_Msg)]⟩)]
abbrev K57.l0T : Type := ((Int × Int × Unit) × (foreign_Table × api_Msg × Unit)) → Option (((Int × Int × Unit) × (foreign_Table × api_Msg × Unit)))
def K57.C : Code := match Tryz.f147.body with | some c => c | none => .skip
def K57.B0 : Code := match (Z5 K57.C).getD 0 .skip with | .loop b => b | .scope b => b | _ => .skip
def K57.JR22 : Exits U := [(.normal, ⟨143, 14, [], [(13, .obj .t_foreign_Table)]⟩)]
def K57.JR21 : Exits U := [(.normal, ⟨143, 15, [(0, .ptr 13 0 0), (7, vi_), (8, .ptr 14 0 0)], [(13, .obj .t_foreign_Table), (14, .obj .t_foreign_Record)]⟩)]
def K57.JR20 : Exits U := [(.normal, ⟨143, 16, [(0, .ptr 13 0 0), (2, vi_), (4, .ptr 14 0 0), (7, vi_), (8, .ptr 15 0 0)], [(13, .obj .t_foreign_Table), (14, .obj .t_api_Msg), (15, .obj .t_foreign_Record)]⟩)]
def K57.JR19 : Exits U := [(.normal, ⟨143, 16, [(0, .ptr 13 0 0), (2, vi_), (4, .ptr 14 0 0), (7, vi_), (8, .ptr 15 0 0)], [(13, .obj .t_foreign_Table), (14, .obj .t_api_Msg), (15, .obj .t_foreign_Record)]⟩)]
def K57.JR13 : Exits U := [(.normal, ⟨143, 16, [(0, .ptr 13 0 0), (2, vi_), (4, .ptr 14 0 0), (7, vi_), (8, .ptr 15 0 0)], [(13, .obj .t_foreign_Table), (14, .obj .t_api_Msg), (15, .obj .t_foreign_Record)]⟩)]
def K57.JR10 : Exits U := [(.normal, ⟨143, 16, [(0, .ptr 13 0 0), (2, vi_), (4, .ptr 14 0 0), (7, vi_), (8, .ptr 15 0 0)], [(13, .obj .t_foreign_Table), (14, .obj .t_api_Msg), (15, .obj .t_foreign_Record)]⟩)]
def K57.JC13 : Exits U := [(.normal, ⟨143, 16, [(0, .ptr 13 0 0), (2, vi_), (4, .ptr 14 0 0), (7, vi_), (8, .ptr 15 0 0)], [(13, .obj .t_foreign_Table), (14, .obj .t_api_Msg), (15, .obj .t_foreign_Record)]⟩),
 (.ret, ⟨143, 14, [(6, vi_)], [(13, .obj .t_foreign_Table)]⟩)]
def K57.JC2 : Exits U := [(.normal, ⟨143, 15, [(0, .ptr 13 0 0), (2, vi_), (4, .ptr 14 0 0)], [(13, .obj .t_foreign_Table), (14, .obj .t_api_Msg)]⟩),
 (.ret, ⟨143, 14, [(6, vi_)], [(13, .obj .t_foreign_Table)]⟩)]
def K57.H (l0 : K57.l0T) : Hints U := { Γ := noΓ, ro := 0, base := 14, joinQ := fun b => (bif Nat.beq b 3 then some [(13, vb_)] else (bif Nat.beq b 5 then some [(20, vb_)] else (bif Nat.beq b 8 then some [(59, vb_)] else (bif Nat.beq b 14 then some [(95, vb_)] else none)))), joinR := fun b => (bif Nat.beq b 10 then some K57.JR10 else (bif Nat.beq b 13 then some K57.JR13 else (bif Nat.beq b 19 then some K57.JR19 else (bif Nat.beq b 20 then some K57.JR20 else (bif Nat.beq b 21 then some K57.JR21 else (bif Nat.beq b 22 then some K57.JR22 else none)))))), joinC := fun b => (bif Nat.beq b 2 then some K57.JC2 else (bif Nat.beq b 13 then some K57.JC13 else none)), loop := fun b => (bif Nat.beq b 8 then some (Zc (0, 14) K57.L0 K57.X0 l0) else none) }
def K57.step0 (a : (Int × Int × Unit) × (foreign_Table × api_Msg × Unit)) : Option (((Int × Int × Unit) × (foreign_Table × api_Msg × Unit)) ⊕ (((Int × Int × Unit) × (foreign_Table × api_Msg × Unit)))) :=
 (oelim ((bif ilt a.1.2.1 a.2.1.fn then (bif inR a.1.2.1 5 then some (!bif ieq (a.2.1.fl (Int.toNat a.1.2.1)).fVector.fSender.fClock a.2.2.1.fSource.fClock then bif ieq (a.2.1.fl (Int.toNat a.1.2.1)).fVector.fSender.fPort a.2.2.1.fSource.fPort then true else false else false, ()) else none) else some (false, ()))) none fun r0 => (bif r0.1 then some (.inl ((a.1.1, (iadd .i64 a.1.2.1 1, ())), a.2)) else some (.inr a)))
def K57.F0 : K57.l0T := fun a => Za (1000000) (K57.step0) a
def K57.gen (l0 : K57.l0T) : K57.T := fun m now h0 =>
 (oelim ((bif ine m.fType 11 then some (.inr (((5 : Int), ()), (h0, ()))) else (oelim ((bif ilt now 0 then some (true, ()) else some (ilt 1099511627776 now, ()))) none fun r0 => (bif r0.1 then some (.inr (((1 : Int), ()), (h0, ()))) else (oelim ((bif ieq m.fSource.fClock h0.fown.fClock then some (true, ()) else (bif ile 255 m.fSteps then some (true, ()) else some (ine (iand .i64 m.fFlags 256) 0, ())))) none fun r1 => (bif r1.1 then some (.inr (((11 : Int), ()), (h0, ()))) else some (.inl ((now, ()), (h0, (m, ())))))))))) none fun r2 => (selim r2 (fun r3 => (oelim (l0 ((r3.1.1, (0 : Int), ()), r3.2)) none fun r4 => (oelim ((bif ilt r4.1.2.1 r4.2.1.fn then (oelim ((bif inR r4.1.2.1 5 then some (r4.1, (r4.2.1, (r4.2.2.1, (r4.2.1.fl (Int.toNat r4.1.2.1), ())))) else none)) none fun r5 => (oelim ((bif ilt (iand .i64 (isub .i64 r5.2.2.2.1.fSeq r5.2.2.1.fSeq) 65535) 32768 then some (true, ()) else some (ilt r5.1.1 r5.2.2.2.1.fLast, ()))) none fun r6 => (bif r6.1 then some (.inr (((9 : Int), ()), (r5.2.1, ()))) else some (.inl (r5.1, (r5.2.1, (r5.2.2.1, (foreign_Record.set_fFirst r5.2.2.2.1 r5.2.2.2.1.fLast, ())))))))) else (bif ieq r4.2.1.fn 5 then some (.inr (((7 : Int), ()), (r4.2.1, ()))) else some (.inl (r4.1, (foreign_Table.set_fn r4.2.1 (iadd .i64 r4.2.1.fn 1), (r4.2.2.1, (foreign_Record.mk z6_ z4_ 0 (-1) 0, ())))))))) none fun r7 => (selim r7 (fun r8 => (oelim ((bif inR r8.1.2.1 5 then some ((), (foreign_Table.set_fl r8.2.1 (fset r8.2.1.fl (Int.toNat r8.1.2.1) (foreign_Record.mk (api_Vector.mk r8.2.2.1.fPriority1 r8.2.2.1.fQuality r8.2.2.1.fPriority2 r8.2.2.1.fGrand r8.2.2.1.fSteps r8.2.2.1.fSource r8.2.1.fown) (api_Times.mk r8.2.2.1.fUtc (iand .i64 r8.2.2.1.fFlags 63) r8.2.2.1.fOrigin) r8.2.2.1.fSeq r8.2.2.2.1.fFirst r8.1.1)), ())) else none)) none fun r9 => some (((0 : Int), ()), (r9.2, ())))) (fun r8 => some (r8.1, (r8.2, ()))))))) (fun r3 => some (r3.1, (r3.2, ())))))
def K57 : K57.T := K57.gen K57.F0
theorem K57.seq0 (l0 : K57.l0T) (a : K57.L0.T) : run Tryz.prog (K57.H l0) 6 (Option (K57.L0.T ⊕ ExT K57.X0)) none K57.B0 (K57.L0.enc a) (Zs (0, 14) K57.L0 K57.X0) = K57.step0 a := by kernel_rfl
theorem K57.inner0 : Z5 K57.B0 = ([] : List Code) := by kernel_rfl
abbrev K57.h := K57.H K57.F0
theorem K57.lok0 : Ze U Tryz.prog K57.h.ro K57.h.base K57.B0 (Zc (0, 14) K57.L0 K57.X0 K57.F0) :=
 Zh (Hn := K57.h) U_ok U_pure (Zl (hq Z4 Z1 (fun _ => rfl) (fun _ => rfl)) 6) (fun b h => by rw [K57.inner0] at h; exact h) (fun _ => rfl) (K57.seq0 K57.F0)
theorem K57.eq (l0 : K57.l0T) : EqA K57.sig (K57.H l0) Tryz.f147 6 (K57.W (K57.gen l0)) := by intro a x; kernel_rfl
theorem K57.loops : Z5 K57.C = [(.loop K57.B0)] := by kernel_rfl
theorem K57.hints : HintsOK U Tryz.prog K57.h (fun c => c ∈ [(.loop K57.B0)]) := (hq Z4 (Zb (by kernel_rfl) K57.lok0 Z1) (fun _ => rfl) (fun _ => rfl))
theorem K57.ok : Z3 U Tryz.prog 147 (K57.sig.native (K57.W K57)) :=
 Sig.ok K57.sig (K57.W K57) U_pure (Hn := K57.h) (code := K57.C) (gos := 6) K57.hints Tryz.func147 (by kernel_rfl) (by kernel_rfl) (fun b h => by rw [K57.loops] at h; exact h) rfl rfl (by decide) (K57.eq K57.F0) (by decide)
def K18.sig : Sig U := ⟨[.ptr, .eptr 0 23 42 8, .data .t_api_Msg, .isl .t_api_Tlv], [.obj .t_clock_Clock, fm6_, .fam 12 (.map true false .t_api_PortID .l_u64)], 0, [.bool], false, []⟩
abbrev K18.T : Type := (Nat) → (api_Msg) → (List (api_Tlv)) → (clock_Clock) → (Fm foreign_Table) → (Nat × (Nat → List (api_PortID × List (Int)))) → Option ((Bool × Unit) × (clock_Clock × qT4_) × Unit)
def K18.W (f : K18.T) : K18.sig.F := fun a x => f a.2.1 a.2.2.1 a.2.2.2.1 x.1 x.2.1 x.2.2.1
def K18.JR5 : Exits U := [(.normal, ⟨61, 14, [(0, .ptr 13 0 0), (1, .aptr 13 23 42 8 0)], (13, .obj .t_clock_Clock) :: hT1_⟩)]
def K18.JR3 : Exits U := [(.normal, ⟨61, 15, [(0, .ptr 13 0 0), (1, .aptr 13 23 42 8 0), (6, .ptr 14 0 0), (11, .val (.isl .u64)), (42, vb_)], (13, .obj .t_clock_Clock) :: (14, .obj .t_api_Msg) :: hT1_⟩)]
def K18.JR1 : Exits U := [(.normal, ⟨61, 16, [(0, .ptr 13 0 0), (1, .aptr 13 23 42 8 0), (6, .ptr 14 0 0), (9, .ptr 15 0 0)], (13, .obj .t_clock_Clock) :: (14, .obj .t_api_Msg) :: (15, .obj .t_api_Tlv) :: hT1_⟩)]
def K18.JC7 : Exits U := [(.normal, ⟨61, 14, [], (13, .obj .t_clock_Clock) :: hT1_⟩)]
def K18.H (cK131 : K131.T) (cK137 : K137.T) (cK119 : K119.T) (cK57 : K57.T) (cK109 : K109.T) (cK24 : K24.T) (cK126 : K126.T) : Hints U := { Γ := (addΓ 126 (K126.sig.native (K126.W cK126)) (addΓ 127 (K24.sig.native (K24.W cK24)) (addΓ 129 (K109.sig.native (K109.W cK109)) (addΓ 147 (K57.sig.native (K57.W cK57)) (addΓ 146 (K119.sig.native (K119.W cK119)) (addΓ 145 (K137.sig.native (K137.W cK137)) (addΓ 144 (K131.sig.native (K131.W cK131)) noΓ))))))), ro := 0, base := 14, joinR := fun b => (bif Nat.beq b 1 then some K18.JR1 else (bif Nat.beq b 3 then some K18.JR3 else (bif Nat.beq b 5 then some K18.JR5 else none))), joinC := fun b => (bif Nat.beq b 7 then some K18.JC7 else none) }
def K18.gen (cK131 : K131.T) (cK137 : K137.T) (cK119 : K119.T) (cK57 : K57.T) (cK109 : K109.T) (cK24 : K24.T) (cK126 : K126.T) : K18.T := fun p m l h0 g6 g12 =>
 (oelim ((oelim (cK131 l 8) none fun r0 => some ((p, ()), (h0, (m, (r0.1.1, (g6, (g12, ())))))))) none fun r1 => (oelim (cK137 r1.2.2.2.1) none fun r2 => (oelim ((oelim (cK119 r2.1.1 r1.2.1.fconf.fClock) none fun r3 => (bif r3.1.1 then some ((r1.1.1, (r2.1.1, (true, ()))), (r1.2.1, (r1.2.2.1, r1.2.2.2.2))) else (oelim ((r1.2.1.fports r1.1.1).2) none fun r4 => (oelim (cK57 r1.2.2.1 r1.2.1.fticks (r1.2.2.2.2.1.2 r4)) none fun r5 => some ((r1.1.1, (r2.1.1, (ine r5.1.1 0, ()))), (r1.2.1, (r1.2.2.1, ((r1.2.2.2.2.1.1, fset r1.2.2.2.2.1.2 r4 r5.2.1.1), r1.2.2.2.2.2))))))))) none fun r6 => (bif r6.1.2.2.1 then some ((false, ()), ((r6.2.1, r6.2.2.2), ())) else (oelim ((oelim ((oelim ((r6.2.1.fports r6.1.1).3) none fun r7 => (oelim ((@Z3v U Go.Proofs.Tryz.prog 31 UC.t_api_PortID UC.l_u64 (r6.2.2.1.fSource) (r6.1.2.1) (r6.2.2.2.2.1.2 r7))) none fun (r8 : List (api_PortID × List Int)) => some (r7, r8)))) none fun (r9 : Nat × List (api_PortID × List Int)) => some ((r6.1.1, ()), (r6.2.1, (r6.2.2.2.1, ((r6.2.2.2.2.1.1, fset r6.2.2.2.2.1.2 r9.1 r9.2), ())))))) none fun r10 => (oelim (cK109 (r10.2.1.fports r10.1.1).fstate) none fun r11 => (oelim ((bif r11.1.1 then (oelim (cK24 r10.2.1) none fun r12 => (oelim (cK126 r12.1.1 (r10.2.1.fports r10.1.1).freceipt) none fun r13 => some ((), (clock_Clock.set_fports r10.2.1 (fset r10.2.1.fports r10.1.1 (clock_side.set_freceipt (r10.2.1.fports r10.1.1) r13.2.1.1)), r10.2.2)))) else some ((), r10.2))) none fun r14 => some ((true, ()), (r14.2, ())))))))))
def K18 : K18.T := K18.gen K131 K137 K119 K57 K109 K24 K126
theorem K18.eq (cK131 : K131.T) (cK137 : K137.T) (cK119 : K119.T) (cK57 : K57.T) (cK109 : K109.T) (cK24 : K24.T) (cK126 : K126.T) : EqA K18.sig (K18.H cK131 cK137 cK119 cK57 cK109 cK24 cK126) Tryz.f75 6 (K18.W (K18.gen cK131 cK137 cK119 cK57 cK109 cK24 cK126)) := by intro a x; kernel_rfl
abbrev K18.h := K18.H K131 K137 K119 K57 K109 K24 K126
theorem K18.hints : HintsOK U Tryz.prog K18.h (fun c => c ∈ ([] : List Code)) := (hq (Z0 (Z0 (Z0 (Z0 (Z0 (Z0 (Z0 Z4 K131.ok) K137.ok) K119.ok) K57.ok) K109.ok) K24.ok) K126.ok) Z1 (fun _ => rfl) (fun _ => rfl))
theorem K18.ok : Z3 U Tryz.prog 75 (K18.sig.native (K18.W K18)) :=
 Sig.ok K18.sig (K18.W K18) U_pure (Hn := K18.h) (gos := 6) K18.hints Tryz.func75 rfl (by kernel_rfl) (fun b h => h) rfl rfl (by decide) (K18.eq K131 K137 K119 K57 K109 K24 K126) (by decide)
def K49.sig : Sig U := ⟨[.data .t_api_Msg, .data .t_api_PortID, .int .i64, .int .i64], [], 0, [.data .t_api_Msg, .bool], true, []⟩
abbrev K49.T : Type := (api_Msg) → (api_PortID) → (Int) → (Int) → Option ((api_Msg × Bool × Unit) × Unit × Unit)
def K49.W (f : K49.T) : K49.sig.F := fun a x => f a.1 a.2.1 a.2.2.1 a.2.2.2.1
def K49.H (cK122 : K122.T) : Hints U := { Γ := (addΓ 151 (K122.sig.native (K122.W cK122)) noΓ), ro := 0, base := 13, joinQ := fun b => (bif Nat.beq b 1 then some [(17, vb_)] else none) }
def K49.gen (cK122 : K122.T) : K49.T := fun m self at_2 log =>
 (oelim ((bif ine m.fType 1 then some (true, ()) else (oelim (cK122 at_2) none fun r0 => some (!r0.1.1, ())))) none fun r1 => (bif r1.1 then some ((api_Msg.mk 0 0 0 0 z0_ 0 0 0 z0_ 0 0 z1_ 0 0 0 0 0 0 0, (false, ())), ((), ())) else some ((api_Msg.mk 9 m.fDomain 0 m.fCorr self m.fSeq log at_2 m.fSource 0 0 z1_ 0 0 0 0 0 0 0, (true, ())), ((), ()))))
def K49 : K49.T := K49.gen K122
theorem K49.eq (cK122 : K122.T) : EqA K49.sig (K49.H cK122) Tryz.f78 6 (K49.W (K49.gen cK122)) := by intro a x; kernel_rfl
abbrev K49.h := K49.H K122
theorem K49.hints : HintsOK U Tryz.prog K49.h (fun c => c ∈ ([] : List Code)) := (hq (Z0 Z4 K122.ok) Z1 (fun _ => rfl) (fun _ => rfl))
theorem K49.ok : Z3 U Tryz.prog 78 (K49.sig.native (K49.W K49)) :=
 Sig.ok K49.sig (K49.W K49) U_pure (Hn := K49.h) (gos := 6) K49.hints Tryz.func78 rfl (by kernel_rfl) (fun b h => h) rfl rfl (by decide) (K49.eq K122) (by decide)
def K135.sig : Sig U := ⟨[.data .t_api_Tlv], [], 0, [.int .i64, .str, .bool], true, []⟩
abbrev K135.T : Type := (api_Tlv) → Option ((Int × ByteArray × Bool × Unit) × Unit × Unit)
def K135.W (f : K135.T) : K135.sig.F := fun a x => f a.1
def K135.H (cK133 : K133.T) (cK96 : K96.T) : Hints U := { Γ := (addΓ 101 (K96.sig.native (K96.W cK96)) (addΓ 183 (K133.sig.native (K133.W cK133)) noΓ)), ro := 0, base := 13, joinQ := fun b => (bif Nat.beq b 1 then some [(14, vb_)] else none) }
def K135.gen (cK133 : K133.T) (cK96 : K96.T) : K135.T := fun t =>
 (oelim ((bif ine t.fType 1 then some (true, ()) else (oelim (cK133 t) none fun r0 => some (!r0.1.1, ())))) none fun r1 => (bif r1.1 then some (((0 : Int), (ByteArray.mk (List.toArray (lnil UInt8)), (false, ()))), ((), ())) else (oelim (cK96 t.fData.data.toList 0 2) none fun r2 => (bif le3 2 (ofN (ByteArray.size t.fData)) (ByteArray.size t.fData) then some ((r2.1.1, (ByteArray.extract t.fData (Int.toNat 2) (Int.toNat (ofN (ByteArray.size t.fData))), (true, ()))), ((), ())) else none))))
def K135 : K135.T := K135.gen K133 K96
theorem K135.eq (cK133 : K133.T) (cK96 : K96.T) : EqA K135.sig (K135.H cK133 cK96) Tryz.f159 6 (K135.W (K135.gen cK133 cK96)) := by intro a x; kernel_rfl
abbrev K135.h := K135.H K133 K96
theorem K135.hints : HintsOK U Tryz.prog K135.h (fun c => c ∈ ([] : List Code)) := (hq (Z0 (Z0 Z4 K133.ok) K96.ok) Z1 (fun _ => rfl) (fun _ => rfl))
theorem K135.ok : Z3 U Tryz.prog 159 (K135.sig.native (K135.W K135)) :=
 Sig.ok K135.sig (K135.W K135) U_pure (Hn := K135.h) (gos := 6) K135.hints Tryz.func159 rfl (by kernel_rfl) (fun b h => h) rfl rfl (by decide) (K135.eq K133 K96) (by decide)
def K8.sig : Sig U := ⟨[.ptr, .int .i64], [.obj .t_clock_Clock], 1, [.int .i64], false, []⟩
abbrev K8.T : Type := (Int) → (clock_Clock) → Option ((Int × Unit) × Unit × Unit)
def K8.W (f : K8.T) : K8.sig.F := fun a x => f a.2.1 x.1
def K8.H (cK21 : K21.T) (cK26 : K26.T) : Hints U := { Γ := (addΓ 52 (K26.sig.native (K26.W cK26)) (addΓ 46 (K21.sig.native (K21.W cK21)) (addΓ 5000000021 Z1x noΓ))), ro := 14, base := 14 }
def K8.gen (cK21 : K21.T) (cK26 : K26.T) : K8.T := fun n h0 =>
 (oelim (cK21 n h0) none fun r0 => (bif r0.1.1 then some (((0 : Int), ()), ((), ())) else (oelim (cK26 n h0) none fun r1 => some (((h0.fports r1.1.1).fstate, ()), ((), ())))))
def K8 : K8.T := K8.gen K21 K26
theorem K8.eq (cK21 : K21.T) (cK26 : K26.T) : EqA K8.sig (K8.H cK21 cK26) Tryz.f21 6 (K8.W (K8.gen cK21 cK26)) := by intro a x; kernel_rfl
abbrev K8.h := K8.H K21 K26
theorem K8.hints : HintsOK U Tryz.prog K8.h (fun c => c ∈ ([] : List Code)) := (hq (Z0 (Z0 (Z0 Z4 Zo) K21.ok) K26.ok) Z1 (fun _ => rfl) (fun _ => rfl))
theorem K8.ok : Z3 U Tryz.prog 21 (K8.sig.native (K8.W K8)) :=
 Sig.ok K8.sig (K8.W K8) U_pure (Hn := K8.h) (gos := 6) K8.hints Tryz.func21 rfl (by kernel_rfl) (fun b h => h) rfl rfl (by decide) (K8.eq K21 K26) (by decide)
def K86.sig : Sig U := ⟨[.int .i64], [], 0, [.bool], false, []⟩
abbrev K86.T : Type := (Int) → Option ((Bool × Unit) × Unit × Unit)
def K86.W (f : K86.T) : K86.sig.F := fun a x => f a.1
def K86.H : Hints U := { Γ := noΓ, ro := 0, base := 13 }
def K86.gen : K86.T := fun id =>
 (bif ieq id 8205 then some ((true, ()), ((), ())) else (bif ieq id 8206 then some ((true, ()), ((), ())) else (bif ieq id 8196 then some ((true, ()), ((), ())) else some ((false, ()), ((), ())))))
def K86 : K86.T := K86.gen
theorem K86.eq : EqA K86.sig (K86.H) Tryz.f161 6 (K86.W (K86.gen)) := by intro a x; kernel_rfl
theorem K86.hints : HintsOK U Tryz.prog (K86.H) (fun c => c ∈ ([] : List Code)) := (hq Z4 Z1 (fun _ => rfl) (fun _ => rfl))
theorem K86.ok : Z3 U Tryz.prog 161 (K86.sig.native (K86.W K86)) :=
 Sig.ok K86.sig (K86.W (K86.gen)) U_pure (Hn := (K86.H)) (gos := 6) K86.hints Tryz.func161 rfl (by kernel_rfl) (fun b h => h) rfl rfl (by decide) (K86.eq) (by decide)
def K73.sig : Sig U := ⟨[.data .t_api_PortID, .data .t_api_PortID], [], 0, [.bool], false, []⟩
abbrev K73.T : Type := (api_PortID) → (api_PortID) → Option ((Bool × Unit) × Unit × Unit)
def K73.W (f : K73.T) : K73.sig.F := fun a x => f a.1 a.2.1
def K73.H : Hints U := { Γ := noΓ, ro := 0, base := 13 }
def K73.gen : K73.T := fun target port =>
 (bif bif ieq target.fClock port.fClock then bif ieq target.fPort port.fPort then true else false else false then some ((true, ()), ((), ())) else (bif ieq target.fClock 18446744073709551615 then (bif ieq target.fPort 65535 then some ((true, ()), ((), ())) else some ((ieq target.fPort port.fPort, ()), ((), ()))) else (bif ieq target.fClock port.fClock then (bif ieq target.fPort 65535 then some ((true, ()), ((), ())) else some ((ieq target.fPort port.fPort, ()), ((), ()))) else some ((false, ()), ((), ())))))
def K73 : K73.T := K73.gen
theorem K73.eq : EqA K73.sig (K73.H) Tryz.f194 6 (K73.W (K73.gen)) := by intro a x; kernel_rfl
theorem K73.hints : HintsOK U Tryz.prog (K73.H) (fun c => c ∈ ([] : List Code)) := (hq Z4 Z1 (fun _ => rfl) (fun _ => rfl))
theorem K73.ok : Z3 U Tryz.prog 194 (K73.sig.native (K73.W K73)) :=
 Sig.ok K73.sig (K73.W (K73.gen)) U_pure (Hn := (K73.H)) (gos := 6) K73.hints Tryz.func194 rfl (by kernel_rfl) (fun b h => h) rfl rfl (by decide) (K73.eq) (by decide)
def K20.sig : Sig U := ⟨[.ptr, .int .i64, .data .t_api_PortID, .bool], [.obj .t_clock_Clock], 1, [.isl .int], false, []⟩
abbrev K20.T : Type := (Int) → (api_PortID) → (Bool) → (clock_Clock) → Option (((List (Int)) × Unit) × Unit × Unit)
def K20.W (f : K20.T) : K20.sig.F := fun a x => f a.2.1 a.2.2.1 a.2.2.2.1 x.1
def K20.L0 : Shape U := ⟨45, 16, [(0, .ptr 13 0 0), (1, vi_), (3, vb_), (6, .ptr 14 0 0), (9, .own .int 15), (10, vi_)], [(13, .obj .t_clock_Clock), (14, .obj .t_api_PortID), (15, .tok)]⟩
def K20.X0 : Exits U := [(.exit 0, ⟨45, 16, [(0, .ptr 13 0 0), (1, vi_), (3, vb_), (6, .ptr 14 0 0), (9, .own .int 15)], [(13, .obj .t_clock_Clock), (14, .obj .t_api_PortID), (15, .tok)]⟩)]
abbrev K20.l0T : Type := ((Int × Bool × (List (Int)) × Int × Unit) × (clock_Clock × api_PortID × Unit)) → Option (((Int × Bool × (List (Int)) × Unit) × (clock_Clock × api_PortID × Unit)))
def K20.C : Code := match Tryz.f160.body with | some c => c | none => .skip
def K20.B0 : Code := match (Z5 K20.C).getD 0 .skip with | .loop b => b | .scope b => b | _ => .skip
def K20.JC6 : Exits U := [(.normal, ⟨45, 16, [(0, .ptr 13 0 0), (1, vi_), (3, vb_), (6, .ptr 14 0 0), (9, .own .int 15), (10, vi_)], [(13, .obj .t_clock_Clock), (14, .obj .t_api_PortID), (15, .tok)]⟩)]
def K20.H (cK25 : K25.T) (cK73 : K73.T) (l0 : K20.l0T) : Hints U := { Γ := (addΓ 194 (K73.sig.native (K73.W cK73)) (addΓ 79 (K25.sig.native (K25.W cK25)) (addΓ 5000000021 Z1x noΓ))), ro := 14, base := 14, joinQ := fun b => (bif Nat.beq b 7 then some [(34, vb_)] else none), joinC := fun b => (bif Nat.beq b 6 then some K20.JC6 else none), loop := fun b => (bif Nat.beq b 3 then some (Zc (14, 14) K20.L0 K20.X0 l0) else none) }
def K20.step0 (cK25 : K25.T) (cK73 : K73.T) (a : (Int × Bool × (List (Int)) × Int × Unit) × (clock_Clock × api_PortID × Unit)) : Option (((Int × Bool × (List (Int)) × Int × Unit) × (clock_Clock × api_PortID × Unit)) ⊕ (((Int × Bool × (List (Int)) × Unit) × (clock_Clock × api_PortID × Unit)))) :=
 (bif ile a.1.2.2.2.1 a.2.1.fconf.fPorts then (oelim (cK25 a.1.2.2.2.1 a.2.1) none fun r0 => (oelim (cK73 a.2.2.1 r0.1.1) none fun r1 => (oelim ((bif r1.1.1 then (bif room (List.length a.1.2.2.1 + List.length (a.1.2.2.2.1 :: lnil Int)) 8 then some ((a.1.1, (a.1.2.1, (a.1.2.2.1 ++ a.1.2.2.2.1 :: lnil Int, a.1.2.2.2))), a.2) else none) else some a)) none fun r2 => some (.inl ((r2.1.1, (r2.1.2.1, (r2.1.2.2.1, (iadd .i64 r2.1.2.2.2.1 1, ())))), r2.2))))) else some (.inr ((a.1.1, (a.1.2.1, (a.1.2.2.1, ()))), a.2)))
def K20.F0 : K20.l0T := fun a => Za (1000000 + (a.1.2.2.1.length)) (K20.step0 K25 K73) a
def K20.gen (cK25 : K25.T) (cK73 : K73.T) (l0 : K20.l0T) : K20.T := fun i target all h0 =>
 (oelim (l0 ((i, all, lnil Int, (1 : Int), ()), h0, target, ())) none fun r0 => (oelim ((bif r0.1.2.1 then some (true, ()) else some (ieq (ofN (List.length r0.1.2.2.1)) 0, ()))) none fun r1 => (bif r1.1 then some (r0.1.2.2, ((), ())) else (oelim (cK25 r0.1.1 r0.2.1) none fun r2 => (oelim (cK73 r0.2.2.1 r2.1.1) none fun r3 => (bif r3.1.1 then some ((r0.1.1 :: lnil Int, ()), ((), ())) else (bif le3 (ofN 0) 1 (List.length r0.1.2.2.1) then some ((List.drop (Int.toNat (ofN 0)) (List.take (Int.toNat 1) r0.1.2.2.1), ()), ((), ())) else none)))))))
def K20 : K20.T := K20.gen K25 K73 K20.F0
theorem K20.seq0 (cK25 : K25.T) (cK73 : K73.T) (l0 : K20.l0T) (a : K20.L0.T) : run Tryz.prog (K20.H cK25 cK73 l0) 6 (Option (K20.L0.T ⊕ ExT K20.X0)) none K20.B0 (K20.L0.enc a) (Zs (14, 14) K20.L0 K20.X0) = K20.step0 cK25 cK73 a := by kernel_rfl
theorem K20.inner0 : Z5 K20.B0 = ([] : List Code) := by kernel_rfl
abbrev K20.h := K20.H K25 K73 K20.F0
theorem K20.lok0 : Ze U Tryz.prog K20.h.ro K20.h.base K20.B0 (Zc (14, 14) K20.L0 K20.X0 K20.F0) :=
 Zh (Hn := K20.h) U_ok U_pure (Zl (hq (Z0 (Z0 (Z0 Z4 Zo) K25.ok) K73.ok) Z1 (fun _ => rfl) (fun _ => rfl)) 6) (fun b h => by rw [K20.inner0] at h; exact h) (fun _ => rfl) (K20.seq0 K25 K73 K20.F0)
theorem K20.eq (cK25 : K25.T) (cK73 : K73.T) (l0 : K20.l0T) : EqA K20.sig (K20.H cK25 cK73 l0) Tryz.f160 6 (K20.W (K20.gen cK25 cK73 l0)) := by intro a x; kernel_rfl
theorem K20.loops : Z5 K20.C = [(.loop K20.B0)] := by kernel_rfl
theorem K20.hints : HintsOK U Tryz.prog K20.h (fun c => c ∈ [(.loop K20.B0)]) := (hq (Z0 (Z0 (Z0 Z4 Zo) K25.ok) K73.ok) (Zb (by kernel_rfl) K20.lok0 Z1) (fun _ => rfl) (fun _ => rfl))
theorem K20.ok : Z3 U Tryz.prog 160 (K20.sig.native (K20.W K20)) :=
 Sig.ok K20.sig (K20.W K20) U_pure (Hn := K20.h) (code := K20.C) (gos := 6) K20.hints Tryz.func160 (by kernel_rfl) (by kernel_rfl) (fun b h => by rw [K20.loops] at h; exact h) rfl rfl (by decide) (K20.eq K25 K73 K20.F0) (by decide)
def K85.sig : Sig U := ⟨[.int .i64], [], 0, [.bool], false, []⟩
abbrev K85.T : Type := (Int) → Option ((Bool × Unit) × Unit × Unit)
def K85.W (f : K85.T) : K85.sig.F := fun a x => f a.1
def K85.H : Hints U := { Γ := noΓ, ro := 0, base := 13 }
def K85.gen : K85.T := fun id =>
 (bif ieq id 0 then some ((true, ()), ((), ())) else (bif ieq id 5 then some ((true, ()), ((), ())) else (bif ile 8192 id then some ((ile id 8208, ()), ((), ())) else some ((false, ()), ((), ())))))
def K85 : K85.T := K85.gen
theorem K85.eq : EqA K85.sig (K85.H) Tryz.f205 6 (K85.W (K85.gen)) := by intro a x; kernel_rfl
theorem K85.hints : HintsOK U Tryz.prog (K85.H) (fun c => c ∈ ([] : List Code)) := (hq Z4 Z1 (fun _ => rfl) (fun _ => rfl))
theorem K85.ok : Z3 U Tryz.prog 205 (K85.sig.native (K85.W K85)) :=
 Sig.ok K85.sig (K85.W (K85.gen)) U_pure (Hn := (K85.H)) (gos := 6) K85.hints Tryz.func205 rfl (by kernel_rfl) (fun b h => h) rfl rfl (by decide) (K85.eq) (by decide)
def K88.sig : Sig U := ⟨[.int .i64], [], 0, [.bool], false, []⟩
abbrev K88.T : Type := (Int) → Option ((Bool × Unit) × Unit × Unit)
def K88.W (f : K88.T) : K88.sig.F := fun a x => f a.1
def K88.H : Hints U := { Γ := noΓ, ro := 0, base := 13 }
def K88.gen : K88.T := fun id =>
 (bif ieq id 0 then some ((true, ()), ((), ())) else (bif ieq id 5 then some ((true, ()), ((), ())) else (bif ieq id 8205 then some ((true, ()), ((), ())) else some ((ieq id 8206, ()), ((), ())))))
def K88 : K88.T := K88.gen
theorem K88.eq : EqA K88.sig (K88.H) Tryz.f206 6 (K88.W (K88.gen)) := by intro a x; kernel_rfl
theorem K88.hints : HintsOK U Tryz.prog (K88.H) (fun c => c ∈ ([] : List Code)) := (hq Z4 Z1 (fun _ => rfl) (fun _ => rfl))
theorem K88.ok : Z3 U Tryz.prog 206 (K88.sig.native (K88.W K88)) :=
 Sig.ok K88.sig (K88.W (K88.gen)) U_pure (Hn := (K88.H)) (gos := 6) K88.hints Tryz.func206 rfl (by kernel_rfl) (fun b h => h) rfl rfl (by decide) (K88.eq) (by decide)
def K89.sig : Sig U := ⟨[.int .i64], [], 0, [.bool], false, []⟩
abbrev K89.T : Type := (Int) → Option ((Bool × Unit) × Unit × Unit)
def K89.W (f : K89.T) : K89.sig.F := fun a x => f a.1
def K89.H : Hints U := { Γ := noΓ, ro := 0, base := 13 }
def K89.gen : K89.T := fun id =>
 (bif ile 8192 id then (bif ile id 8196 then some ((true, ()), ((), ())) else (bif ieq id 8204 then some ((true, ()), ((), ())) else some ((ieq id 8207, ()), ((), ())))) else (bif ieq id 8204 then some ((true, ()), ((), ())) else some ((ieq id 8207, ()), ((), ()))))
def K89 : K89.T := K89.gen
theorem K89.eq : EqA K89.sig (K89.H) Tryz.f207 6 (K89.W (K89.gen)) := by intro a x; kernel_rfl
theorem K89.hints : HintsOK U Tryz.prog (K89.H) (fun c => c ∈ ([] : List Code)) := (hq Z4 Z1 (fun _ => rfl) (fun _ => rfl))
theorem K89.ok : Z3 U Tryz.prog 207 (K89.sig.native (K89.W K89)) :=
 Sig.ok K89.sig (K89.W (K89.gen)) U_pure (Hn := (K89.H)) (gos := 6) K89.hints Tryz.func207 rfl (by kernel_rfl) (fun b h => h) rfl rfl (by decide) (K89.eq) (by decide)
def K93.sig : Sig U := ⟨[.int .i64], [], 0, [.int .i64], false, []⟩
abbrev K93.T : Type := (Int) → Option ((Int × Unit) × Unit × Unit)
def K93.W (f : K93.T) : K93.sig.F := fun a x => f a.1
def K93.JC3 : Exits U := [(.normal, ⟨8, 13, [(4, vb_)], []⟩)]
def K93.H : Hints U := { Γ := noΓ, ro := 0, base := 13, joinC := fun b => (bif Nat.beq b 3 then some K93.JC3 else none) }
def K93.gen : K93.T := fun id =>
 (oelim ((bif ieq id 0 then some ((ieq id 0, ()), ()) else (bif ieq id 8205 then some ((ieq id 8205, ()), ()) else some ((ieq id 8206, ()), ())))) none fun r0 => (bif r0.1.1 then some (((0 : Int), ()), ((), ())) else some (((2 : Int), ()), ((), ()))))
def K93 : K93.T := K93.gen
theorem K93.eq : EqA K93.sig (K93.H) Tryz.f208 6 (K93.W (K93.gen)) := by intro a x; kernel_rfl
theorem K93.hints : HintsOK U Tryz.prog (K93.H) (fun c => c ∈ ([] : List Code)) := (hq Z4 Z1 (fun _ => rfl) (fun _ => rfl))
theorem K93.ok : Z3 U Tryz.prog 208 (K93.sig.native (K93.W K93)) :=
 Sig.ok K93.sig (K93.W (K93.gen)) U_pure (Hn := (K93.H)) (gos := 6) K93.hints Tryz.func208 rfl (by kernel_rfl) (fun b h => h) rfl rfl (by decide) (K93.eq) (by decide)
def K92.sig : Sig U := ⟨[.data .t_api_Conf, .int .i64, .str], [], 0, [.data .t_api_Conf], false, []⟩
abbrev K92.T : Type := (api_Conf) → (Int) → (ByteArray) → Option ((api_Conf × Unit) × Unit × Unit)
def K92.W (f : K92.T) : K92.sig.F := fun a x => f a.1 a.2.1 a.2.2.1
def K92.JC5 : Exits U := [(.normal, ⟨53, 15, [(3, .ptr 13 0 0), (6, .ptr 14 0 0)], [(13, .obj .t_api_Conf), (14, .obj .t_api_Conf)]⟩)]
def K92.H : Hints U := { Γ := noΓ, ro := 0, base := 13, joinC := fun b => (bif Nat.beq b 5 then some K92.JC5 else none) }
def K92.gen : K92.T := fun c id data =>
 (bif inR 0 (ByteArray.size data) then (bif inR 0 (ByteArray.size data) then (oelim ((bif ieq id 8197 then some ((), (api_Conf.set_fPriority1 c (IntKind.wrap .i64 (ofN (UInt8.toNat (List.getD data.data.toList (Int.toNat 0) (0 : UInt8))))), (api_Conf.mk 0 0 0 0 0 z1_ false 0 0 0 0 false false 0 0 0 0 z4_ false, ()))) else (bif ieq id 8198 then some ((), (api_Conf.set_fPriority2 c (IntKind.wrap .i64 (ofN (UInt8.toNat (List.getD data.data.toList (Int.toNat 0) (0 : UInt8))))), (api_Conf.mk 0 0 0 0 0 z1_ false 0 0 0 0 false false 0 0 0 0 z4_ false, ()))) else (bif ieq id 8199 then some ((), (api_Conf.set_fDomain c (IntKind.wrap .i64 (ofN (UInt8.toNat (List.getD data.data.toList (Int.toNat 0) (0 : UInt8))))), (api_Conf.mk 0 0 0 0 0 z1_ false 0 0 0 0 false false 0 0 0 0 z4_ false, ()))) else (bif ieq id 8200 then some ((), (api_Conf.set_fSlaveOnly c (ieq (iand .i64 (IntKind.wrap .i64 (ofN (UInt8.toNat (List.getD data.data.toList (Int.toNat 0) (0 : UInt8))))) 1) 1), (api_Conf.mk 0 0 0 0 0 z1_ false 0 0 0 0 false false 0 0 0 0 z4_ false, ()))) else (bif ieq id 8201 then some ((), (api_Conf.set_fLogAnn c (IntKind.wrap .i64 (IntKind.wrap .i8 (ofN (UInt8.toNat (List.getD data.data.toList (Int.toNat 0) (0 : UInt8)))))), (api_Conf.mk 0 0 0 0 0 z1_ false 0 0 0 0 false false 0 0 0 0 z4_ false, ()))) else (bif ieq id 8202 then some ((), (api_Conf.set_fTimeout c (IntKind.wrap .i64 (ofN (UInt8.toNat (List.getD data.data.toList (Int.toNat 0) (0 : UInt8))))), (api_Conf.mk 0 0 0 0 0 z1_ false 0 0 0 0 false false 0 0 0 0 z4_ false, ()))) else (bif ieq id 8203 then some ((), (api_Conf.set_fLogSync c (IntKind.wrap .i64 (IntKind.wrap .i8 (ofN (UInt8.toNat (List.getD data.data.toList (Int.toNat 0) (0 : UInt8)))))), (api_Conf.mk 0 0 0 0 0 z1_ false 0 0 0 0 false false 0 0 0 0 z4_ false, ()))) else (bif ieq id 8208 then some ((), (api_Conf.set_fQuality c (api_Quality.set_fAccuracy c.fQuality (IntKind.wrap .i64 (ofN (UInt8.toNat (List.getD data.data.toList (Int.toNat 0) (0 : UInt8)))))), (api_Conf.mk 0 0 0 0 0 z1_ false 0 0 0 0 false false 0 0 0 0 z4_ false, ()))) else some ((), (c, (api_Conf.mk 0 0 0 0 0 z1_ false 0 0 0 0 false false 0 0 0 0 z4_ false, ())))))))))))) none fun r0 => some ((r0.2.1, ()), ((), ()))) else none) else none)
def K92 : K92.T := K92.gen
theorem K92.eq : EqA K92.sig (K92.H) Tryz.f209 6 (K92.W (K92.gen)) := by intro a x; kernel_rfl
theorem K92.hints : HintsOK U Tryz.prog (K92.H) (fun c => c ∈ ([] : List Code)) := (hq Z4 Z1 (fun _ => rfl) (fun _ => rfl))
theorem K92.ok : Z3 U Tryz.prog 209 (K92.sig.native (K92.W K92)) :=
 Sig.ok K92.sig (K92.W (K92.gen)) U_pure (Hn := (K92.H)) (gos := 6) K92.hints Tryz.func209 rfl (by kernel_rfl) (fun b h => h) rfl rfl (by decide) (K92.eq) (by decide)
def K87.sig : Sig U := ⟨[.isl .bool], [], 0, [.int .i64], false, []⟩
abbrev K87.T : Type := (List (Bool)) → Option ((Int × Unit) × Unit × Unit)
def K87.W (f : K87.T) : K87.sig.F := fun a x => f a.1
def K87.L0 : Shape U := ⟨20, 13, [(3, vi_), (6, .val (.isl .bool)), (7, vi_), (8, vi_)], []⟩
def K87.X0 : Exits U := [(.exit 0, ⟨20, 13, [(3, vi_)], []⟩)]
abbrev K87.l0T : Type := ((Int × (List (Bool)) × Int × Int × Unit) × Unit) → Option (((Int × Unit) × Unit))
def K87.C : Code := match Tryz.f216.body with | some c => c | none => .skip
def K87.B0 : Code := match (Z5 K87.C).getD 0 .skip with | .loop b => b | .scope b => b | _ => .skip
def K87.JC6 : Exits U := [(.normal, ⟨20, 13, [(3, vi_), (6, .val (.isl .bool)), (7, vi_), (8, vi_)], []⟩)]
def K87.H (l0 : K87.l0T) : Hints U := { Γ := noΓ, ro := 0, base := 13, joinC := fun b => (bif Nat.beq b 6 then some K87.JC6 else none), loop := fun b => (bif Nat.beq b 3 then some (Zc (0, 13) K87.L0 K87.X0 l0) else none) }
def K87.step0 (a : (Int × (List (Bool)) × Int × Int × Unit) × Unit) : Option (((Int × (List (Bool)) × Int × Int × Unit) × Unit) ⊕ (((Int × Unit) × Unit))) :=
 (bif ilt a.1.2.2.2.1 a.1.2.2.1 then (bif inR a.1.2.2.2.1 (List.length a.1.2.1) then (oelim ((bif List.getD a.1.2.1 (Int.toNat a.1.2.2.2.1) false then (bif ile 0 a.1.2.2.2.1 then some ((ior .i64 a.1.1 (ishl .i64 1 a.1.2.2.2.1), a.1.2), ()) else none) else some a)) none fun r0 => some (.inl ((r0.1.1, (r0.1.2.1, (r0.1.2.2.1, (iadd .i64 r0.1.2.2.2.1 1, ())))), ()))) else none) else some (.inr ((a.1.1, ()), ())))
def K87.F0 : K87.l0T := fun a => Za (1000000 + (a.1.2.1.length)) (K87.step0) a
def K87.gen (l0 : K87.l0T) : K87.T := fun l =>
 (oelim (l0 (((0 : Int), l, ofN (List.length l), (0 : Int), ()), ())) none fun r0 => some (r0.1, ((), ())))
def K87 : K87.T := K87.gen K87.F0
theorem K87.seq0 (l0 : K87.l0T) (a : K87.L0.T) : run Tryz.prog (K87.H l0) 6 (Option (K87.L0.T ⊕ ExT K87.X0)) none K87.B0 (K87.L0.enc a) (Zs (0, 13) K87.L0 K87.X0) = K87.step0 a := by kernel_rfl
theorem K87.inner0 : Z5 K87.B0 = ([] : List Code) := by kernel_rfl
abbrev K87.h := K87.H K87.F0
theorem K87.lok0 : Ze U Tryz.prog K87.h.ro K87.h.base K87.B0 (Zc (0, 13) K87.L0 K87.X0 K87.F0) :=
 Zh (Hn := K87.h) U_ok U_pure (Zl (hq Z4 Z1 (fun _ => rfl) (fun _ => rfl)) 6) (fun b h => by rw [K87.inner0] at h; exact h) (fun _ => rfl) (K87.seq0 K87.F0)
theorem K87.eq (l0 : K87.l0T) : EqA K87.sig (K87.H l0) Tryz.f216 6 (K87.W (K87.gen l0)) := by intro a x; kernel_rfl
theorem K87.loops : Z5 K87.C = [(.loop K87.B0)] := by kernel_rfl
theorem K87.hints : HintsOK U Tryz.prog K87.h (fun c => c ∈ [(.loop K87.B0)]) := (hq Z4 (Zb (by kernel_rfl) K87.lok0 Z1) (fun _ => rfl) (fun _ => rfl))
theorem K87.ok : Z3 U Tryz.prog 216 (K87.sig.native (K87.W K87)) :=
 Sig.ok K87.sig (K87.W K87) U_pure (Hn := K87.h) (code := K87.C) (gos := 6) K87.hints Tryz.func216 (by kernel_rfl) (by kernel_rfl) (fun b h => by rw [K87.loops] at h; exact h) rfl rfl (by decide) (K87.eq K87.F0) (by decide)
def K90.sig : Sig U := ⟨[.isl .u8, .int .i64], [], 0, [.isl .u8], false, []⟩
abbrev K90.T : Type := (List (UInt8)) → (Int) → Option (((List (UInt8)) × Unit) × Unit × Unit)
def K90.W (f : K90.T) : K90.sig.F := fun a x => f a.1 a.2.1
def K90.H (cK98 : K98.T) : Hints U := { Γ := (addΓ 100 (K98.sig.native (K98.W cK98)) noΓ), ro := 0, base := 13 }
def K90.gen (cK98 : K98.T) : K90.T := fun b v =>
 (oelim (cK98 b v 1) none fun r0 => some (r0.1, ((), ())))
def K90 : K90.T := K90.gen K98
theorem K90.eq (cK98 : K98.T) : EqA K90.sig (K90.H cK98) Tryz.f215 6 (K90.W (K90.gen cK98)) := by intro a x; kernel_rfl
abbrev K90.h := K90.H K98
theorem K90.hints : HintsOK U Tryz.prog K90.h (fun c => c ∈ ([] : List Code)) := (hq (Z0 Z4 K98.ok) Z1 (fun _ => rfl) (fun _ => rfl))
theorem K90.ok : Z3 U Tryz.prog 215 (K90.sig.native (K90.W K90)) :=
 Sig.ok K90.sig (K90.W K90) U_pure (Hn := K90.h) (gos := 6) K90.hints Tryz.func215 rfl (by kernel_rfl) (fun b h => h) rfl rfl (by decide) (K90.eq K98) (by decide)
def K91.sig : Sig U := ⟨[.int .i64], [], 0, [.int .i64], false, []⟩
abbrev K91.T : Type := (Int) → Option ((Int × Unit) × Unit × Unit)
def K91.W (f : K91.T) : K91.sig.F := fun a x => f a.1
def K91.H : Hints U := { Γ := noΓ, ro := 0, base := 13 }
def K91.gen : K91.T := fun v =>
 (bif ilt 140737488355327 v then some (((9223372036854775807 : Int), ()), ((), ())) else (bif ilt v (-140737488355328) then some (((-9223372036854775808 : Int), ()), ((), ())) else some ((imul .i64 v 65536, ()), ((), ()))))
def K91 : K91.T := K91.gen
theorem K91.eq : EqA K91.sig (K91.H) Tryz.f217 6 (K91.W (K91.gen)) := by intro a x; kernel_rfl
theorem K91.hints : HintsOK U Tryz.prog (K91.H) (fun c => c ∈ ([] : List Code)) := (hq Z4 Z1 (fun _ => rfl) (fun _ => rfl))
theorem K91.ok : Z3 U Tryz.prog 217 (K91.sig.native (K91.W K91)) :=
 Sig.ok K91.sig (K91.W (K91.gen)) U_pure (Hn := (K91.H)) (gos := 6) K91.hints Tryz.func217 rfl (by kernel_rfl) (fun b h => h) rfl rfl (by decide) (K91.eq) (by decide)
def K94.sig : Sig U := ⟨[.data .t_api_Conf, .int .i64], [], 0, [.isl .u8], false, []⟩
abbrev K94.T : Type := (api_Conf) → (Int) → Option (((List (UInt8)) × Unit) × Unit × Unit)
def K94.W (f : K94.T) : K94.sig.F := fun a x => f a.1 a.2.1
def K94.JC5 : Exits U := [(.normal, ⟨47, 13, [(5, vi_)], []⟩),
 (.ret, ⟨47, 13, [(4, .full .u8)], []⟩)]
def K94.H (cK87 : K87.T) (cK90 : K90.T) : Hints U := { Γ := (addΓ 215 (K90.sig.native (K90.W cK90)) (addΓ 216 (K87.sig.native (K87.W cK87)) noΓ)), ro := 0, base := 13, joinC := fun b => (bif Nat.beq b 5 then some K94.JC5 else none) }
def K94.gen (cK87 : K87.T) (cK90 : K90.T) : K94.T := fun c id =>
 (oelim ((bif ieq id 8197 then some (.inl ((c.fPriority1, ()), ())) else (bif ieq id 8198 then some (.inl ((c.fPriority2, ()), ())) else (bif ieq id 8199 then some (.inl ((c.fDomain, ()), ())) else (bif ieq id 8200 then (oelim (cK87 (c.fSlaveOnly :: lnil Bool)) none fun r0 => some (.inl (r0.1, ()))) else (bif ieq id 8201 then some (.inl ((c.fLogAnn, ()), ())) else (bif ieq id 8202 then some (.inl ((c.fTimeout, ()), ())) else (bif ieq id 8203 then some (.inl ((c.fLogSync, ()), ())) else (bif ieq id 8204 then some (.inl (((2 : Int), ()), ())) else (bif ieq id 8208 then some (.inl ((c.fQuality.fAccuracy, ()), ())) else some (.inr ((lnil UInt8, ()), ())))))))))))) none fun r1 => (selim r1 (fun r2 => (oelim (cK90 (lnil UInt8) r2.1.1) none fun r3 => (oelim (cK90 r3.1.1 0) none fun r4 => some (r4.1, ((), ()))))) (fun r2 => some (r2.1, ((), ())))))
def K94 : K94.T := K94.gen K87 K90
theorem K94.eq (cK87 : K87.T) (cK90 : K90.T) : EqA K94.sig (K94.H cK87 cK90) Tryz.f218 6 (K94.W (K94.gen cK87 cK90)) := by intro a x; kernel_rfl
abbrev K94.h := K94.H K87 K90
theorem K94.hints : HintsOK U Tryz.prog K94.h (fun c => c ∈ ([] : List Code)) := (hq (Z0 (Z0 Z4 K87.ok) K90.ok) Z1 (fun _ => rfl) (fun _ => rfl))
theorem K94.ok : Z3 U Tryz.prog 218 (K94.sig.native (K94.W K94)) :=
 Sig.ok K94.sig (K94.W K94) U_pure (Hn := K94.h) (gos := 6) K94.hints Tryz.func218 rfl (by kernel_rfl) (fun b h => h) rfl rfl (by decide) (K94.eq K87 K90) (by decide)
def K95.sig : Sig U := ⟨[.data .t_mgmt_View, .int .i64], [], 0, [.isl .u8], false, []⟩
abbrev K95.T : Type := (mgmt_View) → (Int) → Option (((List (UInt8)) × Unit) × Unit × Unit)
def K95.W (f : K95.T) : K95.sig.F := fun a x => f a.1 a.2.1
def K95.H (cK87 : K87.T) (cK90 : K90.T) (cK98 : K98.T) (cK114 : K114.T) (cK99 : K99.T) (cK91 : K91.T) (cK74 : K74.T) (cK123 : K123.T) (cK94 : K94.T) : Hints U := { Γ := (addΓ 218 (K94.sig.native (K94.W cK94)) (addΓ 113 (K123.sig.native (K123.W cK123)) (addΓ 114 (K74.sig.native (K74.W cK74)) (addΓ 217 (K91.sig.native (K91.W cK91)) (addΓ 116 (K99.sig.native (K99.W cK99)) (addΓ 115 (K114.sig.native (K114.W cK114)) (addΓ 100 (K98.sig.native (K98.W cK98)) (addΓ 215 (K90.sig.native (K90.W cK90)) (addΓ 216 (K87.sig.native (K87.W cK87)) noΓ))))))))), ro := 0, base := 13 }
def K95.gen (cK87 : K87.T) (cK90 : K90.T) (cK98 : K98.T) (cK114 : K114.T) (cK99 : K99.T) (cK91 : K91.T) (cK74 : K74.T) (cK123 : K123.T) (cK94 : K94.T) : K95.T := fun v id =>
 (bif ieq id 8192 then (oelim (cK87 ((!v.fConf.fOneStep) :: v.fConf.fSlaveOnly :: lnil Bool)) none fun r0 => (oelim (cK90 (lnil UInt8) r0.1.1) none fun r1 => (oelim (cK90 r1.1.1 0) none fun r2 => (oelim (cK98 r2.1.1 v.fConf.fPorts 2) none fun r3 => (oelim (cK90 r3.1.1 v.fConf.fPriority1) none fun r4 => (oelim (cK114 r4.1.1 v.fConf.fQuality) none fun r5 => (oelim (cK90 r5.1.1 v.fConf.fPriority2) none fun r6 => (oelim (cK99 r6.1.1 v.fConf.fClock) none fun r7 => (oelim (cK90 r7.1.1 v.fConf.fDomain) none fun r8 => (oelim (cK90 r8.1.1 0) none fun r9 => some (r9.1, ((), ())))))))))))) else (bif ieq id 8193 then (oelim (cK98 (lnil UInt8) v.fParent.fSteps 2) none fun r10 => (oelim (cK91 v.fOffset) none fun r11 => (oelim (cK98 r10.1.1 r11.1.1 8) none fun r12 => (oelim (cK91 v.fDelay) none fun r13 => (oelim (cK98 r12.1.1 r13.1.1 8) none fun r14 => some (r14.1, ((), ()))))))) else (bif ieq id 8194 then (oelim (cK74 (lnil UInt8) v.fParent.fPort) none fun r15 => (oelim (cK98 r15.1.1 65535 4) none fun r16 => (oelim (cK98 r16.1.1 2147483647 4) none fun r17 => (oelim (cK90 r17.1.1 v.fParent.fPriority1) none fun r18 => (oelim (cK114 r18.1.1 v.fParent.fQuality) none fun r19 => (oelim (cK90 r19.1.1 v.fParent.fPriority2) none fun r20 => (oelim (cK99 r20.1.1 v.fParent.fGrand) none fun r21 => some (r21.1, ((), ()))))))))) else (bif ieq id 8195 then (oelim (cK98 (lnil UInt8) v.fParent.fTimes.fUtc 2) none fun r22 => (oelim (cK90 r22.1.1 (iand .i64 v.fParent.fTimes.fFlags 63)) none fun r23 => (oelim (cK90 r23.1.1 v.fParent.fTimes.fOrigin) none fun r24 => some (r24.1, ((), ()))))) else (bif ieq id 8196 then (oelim (cK74 (lnil UInt8) (api_PortID.mk v.fConf.fClock v.fPort)) none fun r25 => (oelim (cK90 r25.1.1 v.fState) none fun r26 => (oelim (cK90 r26.1.1 v.fConf.fLogDelay) none fun r27 => (oelim (cK91 v.fPeer) none fun r28 => (oelim (cK98 r27.1.1 r28.1.1 8) none fun r29 => (oelim (cK90 r29.1.1 v.fConf.fLogAnn) none fun r30 => (oelim (cK90 r30.1.1 v.fConf.fTimeout) none fun r31 => (oelim (cK90 r31.1.1 v.fConf.fLogSync) none fun r32 => (oelim (cK87 (v.fConf.fPeer :: lnil Bool)) none fun r33 => (oelim (cK90 r32.1.1 (iadd .i64 1 r33.1.1)) none fun r34 => (oelim (cK90 r34.1.1 v.fConf.fLogDelay) none fun r35 => (oelim (cK90 r35.1.1 2) none fun r36 => some (r36.1, ((), ())))))))))))))) else (bif ieq id 8207 then (oelim (cK123 (lnil UInt8) v.fNow) none fun r37 => some (r37.1, ((), ()))) else (oelim (cK94 v.fConf id) none fun r38 => some (r38.1, ((), ())))))))))
def K95 : K95.T := K95.gen K87 K90 K98 K114 K99 K91 K74 K123 K94
theorem K95.eq (cK87 : K87.T) (cK90 : K90.T) (cK98 : K98.T) (cK114 : K114.T) (cK99 : K99.T) (cK91 : K91.T) (cK74 : K74.T) (cK123 : K123.T) (cK94 : K94.T) : EqA K95.sig (K95.H cK87 cK90 cK98 cK114 cK99 cK91 cK74 cK123 cK94) Tryz.f210 6 (K95.W (K95.gen cK87 cK90 cK98 cK114 cK99 cK91 cK74 cK123 cK94)) := by intro a x; kernel_rfl
abbrev K95.h := K95.H K87 K90 K98 K114 K99 K91 K74 K123 K94
theorem K95.hints : HintsOK U Tryz.prog K95.h (fun c => c ∈ ([] : List Code)) := (hq (Z0 (Z0 (Z0 (Z0 (Z0 (Z0 (Z0 (Z0 (Z0 Z4 K87.ok) K90.ok) K98.ok) K114.ok) K99.ok) K91.ok) K74.ok) K123.ok) K94.ok) Z1 (fun _ => rfl) (fun _ => rfl))
theorem K95.ok : Z3 U Tryz.prog 210 (K95.sig.native (K95.W K95)) :=
 Sig.ok K95.sig (K95.W K95) U_pure (Hn := K95.h) (gos := 6) K95.hints Tryz.func210 rfl (by kernel_rfl) (fun b h => h) rfl rfl (by decide) (K95.eq K87 K90 K98 K114 K99 K91 K74 K123 K94) (by decide)
def K84.sig : Sig U := ⟨[.data .t_mgmt_View, .int .i64, .int .i64, .str], [], 0, [.str, .data .t_api_Conf, .int .i64], true, []⟩
abbrev K84.T : Type := (mgmt_View) → (Int) → (Int) → (ByteArray) → Option ((ByteArray × api_Conf × Int × Unit) × Unit × Unit)
def K84.W (f : K84.T) : K84.sig.F := fun a x => f a.1 a.2.1 a.2.2.1 a.2.2.2.1
def K84.JC6 : Exits U := [(.normal, ⟨103, 15, [(1, vi_), (2, vi_), (3, .val (.str)), (4, .ptr 13 0 0), (9, .ptr 14 0 0), (31, vb_)], [(13, .obj .t_mgmt_View), (14, .obj .t_api_Conf)]⟩)]
def K84.JC2 : Exits U := [(.normal, ⟨103, 15, [(2, vi_), (4, .ptr 13 0 0), (9, .ptr 14 0 0)], [(13, .obj .t_mgmt_View), (14, .obj .t_api_Conf)]⟩),
 (.ret, ⟨103, 14, [(8, .val (.str)), (9, .ptr 13 0 0), (10, vi_)], [(13, .obj .t_api_Conf)]⟩)]
def K84.H (cK85 : K85.T) (cK88 : K88.T) (cK89 : K89.T) (cK93 : K93.T) (cK92 : K92.T) (cK45 : K45.T) (cK95 : K95.T) : Hints U := { Γ := (addΓ 210 (K95.sig.native (K95.W cK95)) (addΓ 48 (K45.sig.native (K45.W cK45)) (addΓ 209 (K92.sig.native (K92.W cK92)) (addΓ 208 (K93.sig.native (K93.W cK93)) (addΓ 207 (K89.sig.native (K89.W cK89)) (addΓ 206 (K88.sig.native (K88.W cK88)) (addΓ 205 (K85.sig.native (K85.W cK85)) noΓ))))))), ro := 0, base := 13, joinQ := fun b => (bif Nat.beq b 3 then some [(18, vb_)] else (bif Nat.beq b 5 then some [(31, vb_)] else (bif Nat.beq b 6 then some [(31, vb_)] else (bif Nat.beq b 8 then some [(51, vb_)] else (bif Nat.beq b 10 then some [(60, vb_)] else (bif Nat.beq b 14 then some [(78, vb_)] else none)))))), joinC := fun b => (bif Nat.beq b 2 then some K84.JC2 else (bif Nat.beq b 6 then some K84.JC6 else none)) }
def K84.gen (cK85 : K85.T) (cK88 : K88.T) (cK89 : K89.T) (cK93 : K93.T) (cK92 : K92.T) (cK45 : K45.T) (cK95 : K95.T) : K84.T := fun v action id data =>
 (oelim (cK85 id) none fun r0 => (oelim ((bif !r0.1.1 then some (.inr ((ByteArray.mk (List.toArray (lnil UInt8)), ((2 : Int), ())), (v.fConf, ()))) else (oelim ((bif ine action 0 then (bif ine action 1 then some (ine action 3, ()) else some (false, ())) else some (false, ()))) none fun r1 => (bif r1.1 then some (.inr ((ByteArray.mk (List.toArray (lnil UInt8)), ((6 : Int), ())), (v.fConf, ()))) else (oelim ((bif ieq action 3 then (oelim (cK88 id) none fun r2 => some (!r2.1.1, ())) else some (false, ()))) none fun r3 => (oelim ((bif r3.1 then some ((action, (id, (data, r3))), (v, (api_Conf.mk 0 0 0 0 0 z1_ false 0 0 0 0 false false 0 0 0 0 z4_ false, ()))) else (oelim ((bif ine action 3 then (oelim (cK88 id) none fun r4 => (bif r4.1.1 then some (ine id 0, ()) else some (false, ()))) else some (false, ()))) none fun r5 => some ((action, (id, (data, r5))), (v, (api_Conf.mk 0 0 0 0 0 z1_ false 0 0 0 0 false false 0 0 0 0 z4_ false, ())))))) none fun r6 => (bif r6.1.2.2.2.1 then some (.inr ((ByteArray.mk (List.toArray (lnil UInt8)), ((6 : Int), ())), (r6.2.1.fConf, ()))) else (oelim ((bif ieq r6.1.1 1 then (oelim (cK89 r6.1.2.1) none fun r7 => some r7.1) else some (false, ()))) none fun r8 => (bif r8.1 then some (.inr ((ByteArray.mk (List.toArray (lnil UInt8)), ((5 : Int), ())), (r6.2.1.fConf, ()))) else (oelim ((bif ine r6.1.1 0 then (oelim (cK93 r6.1.2.1) none fun r9 => some (ine (ofN (ByteArray.size r6.1.2.2.1)) r9.1.1, ())) else some (false, ()))) none fun r10 => (bif r10.1 then some (.inr ((ByteArray.mk (List.toArray (lnil UInt8)), ((3 : Int), ())), (r6.2.1.fConf, ()))) else (bif ieq r6.1.1 3 then some (.inr ((r6.1.2.2.1, ((0 : Int), ())), (r6.2.1.fConf, ()))) else (oelim ((bif ieq r6.1.1 1 then some (ine r6.1.2.1 0, ()) else some (false, ()))) none fun r11 => (bif r11.1 then (oelim (cK92 r6.2.1.fConf r6.1.2.1 r6.1.2.2.1) none fun r12 => (oelim (cK45 r12.1.1) none fun r13 => (bif ine r13.1.1 0 then some (.inr ((ByteArray.mk (List.toArray (lnil UInt8)), ((4 : Int), ())), (r6.2.1.fConf, ()))) else some (.inl ((r6.1.2.1, ()), (mgmt_View.set_fConf r6.2.1 r12.1.1, r6.2.2)))))) else some (.inl ((r6.1.2.1, ()), r6.2)))))))))))))))) none fun r14 => (selim r14 (fun r15 => (oelim (cK95 r15.2.1 r15.1.1) none fun r16 => some ((ByteArray.mk (List.toArray r16.1.1), (r15.2.1.fConf, ((0 : Int), ()))), ((), ())))) (fun r15 => some ((r15.1.1, (r15.2.1, r15.1.2)), ((), ()))))))
def K84 : K84.T := K84.gen K85 K88 K89 K93 K92 K45 K95
theorem K84.eq (cK85 : K85.T) (cK88 : K88.T) (cK89 : K89.T) (cK93 : K93.T) (cK92 : K92.T) (cK45 : K45.T) (cK95 : K95.T) : EqA K84.sig (K84.H cK85 cK88 cK89 cK93 cK92 cK45 cK95) Tryz.f195 6 (K84.W (K84.gen cK85 cK88 cK89 cK93 cK92 cK45 cK95)) := by intro a x; kernel_rfl
abbrev K84.h := K84.H K85 K88 K89 K93 K92 K45 K95
theorem K84.hints : HintsOK U Tryz.prog K84.h (fun c => c ∈ ([] : List Code)) := (hq (Z0 (Z0 (Z0 (Z0 (Z0 (Z0 (Z0 Z4 K85.ok) K88.ok) K89.ok) K93.ok) K92.ok) K45.ok) K95.ok) Z1 (fun _ => rfl) (fun _ => rfl))
theorem K84.ok : Z3 U Tryz.prog 195 (K84.sig.native (K84.W K84)) :=
 Sig.ok K84.sig (K84.W K84) U_pure (Hn := K84.h) (gos := 6) K84.hints Tryz.func195 rfl (by kernel_rfl) (fun b h => h) rfl rfl (by decide) (K84.eq K85 K88 K89 K93 K92 K45 K95) (by decide)
def K130.sig : Sig U := ⟨[.int .i64, .int .i64], [], 0, [.data .t_api_Tlv, .bool], true, []⟩
abbrev K130.T : Type := (Int) → (Int) → Option ((api_Tlv × Bool × Unit) × Unit × Unit)
def K130.W (f : K130.T) : K130.sig.F := fun a x => f a.1 a.2.1
def K130.H (cK139 : K139.T) (cK98 : K98.T) : Hints U := { Γ := (addΓ 100 (K98.sig.native (K98.W cK98)) (addΓ 99 (K139.sig.native (K139.W cK139)) noΓ)), ro := 0, base := 13, joinQ := fun b => (bif Nat.beq b 1 then some [(14, vb_)] else none) }
def K130.gen (cK139 : K139.T) (cK98 : K98.T) : K130.T := fun err id =>
 (oelim ((oelim (cK139 err 0 65535) none fun r0 => (bif !r0.1.1 then some (true, ()) else (oelim (cK139 id 0 65535) none fun r1 => some (!r1.1.1, ()))))) none fun r2 => (bif r2.1 then some ((api_Tlv.mk 0 (ByteArray.mk (List.toArray (lnil UInt8))), (false, ())), ((), ())) else (oelim (cK98 (lnil UInt8) err 2) none fun r3 => (oelim (cK98 r3.1.1 id 2) none fun r4 => (oelim (cK98 r4.1.1 0 4) none fun r5 => some ((api_Tlv.mk 2 (ByteArray.mk (List.toArray r5.1.1)), (true, ())), ((), ())))))))
def K130 : K130.T := K130.gen K139 K98
theorem K130.eq (cK139 : K139.T) (cK98 : K98.T) : EqA K130.sig (K130.H cK139 cK98) Tryz.f196 6 (K130.W (K130.gen cK139 cK98)) := by intro a x; kernel_rfl
abbrev K130.h := K130.H K139 K98
theorem K130.hints : HintsOK U Tryz.prog K130.h (fun c => c ∈ ([] : List Code)) := (hq (Z0 (Z0 Z4 K139.ok) K98.ok) Z1 (fun _ => rfl) (fun _ => rfl))
theorem K130.ok : Z3 U Tryz.prog 196 (K130.sig.native (K130.W K130)) :=
 Sig.ok K130.sig (K130.W K130) U_pure (Hn := K130.h) (gos := 6) K130.hints Tryz.func196 rfl (by kernel_rfl) (fun b h => h) rfl rfl (by decide) (K130.eq K139 K98) (by decide)
def K134.sig : Sig U := ⟨[.int .i64, .str], [], 0, [.data .t_api_Tlv, .bool], true, []⟩
abbrev K134.T : Type := (Int) → (ByteArray) → Option ((api_Tlv × Bool × Unit) × Unit × Unit)
def K134.W (f : K134.T) : K134.sig.F := fun a x => f a.1 a.2.1
def K134.JC5 : Exits U := [(.normal, ⟨39, 15, [(4, .ptr 13 0 0), (6, .own .u8 14)], [(13, .obj .t_api_Tlv), (14, .tok)]⟩)]
def K134.H (cK139 : K139.T) (cK98 : K98.T) : Hints U := { Γ := (addΓ 100 (K98.sig.native (K98.W cK98)) (addΓ 99 (K139.sig.native (K139.W cK139)) noΓ)), ro := 0, base := 13, joinQ := fun b => (bif Nat.beq b 1 then some [(14, vb_)] else none), joinC := fun b => (bif Nat.beq b 5 then some K134.JC5 else none) }
def K134.gen (cK139 : K139.T) (cK98 : K98.T) : K134.T := fun id data =>
 (oelim ((oelim (cK139 id 0 65535) none fun r0 => (bif !r0.1.1 then some (true, ()) else some (ilt 400 (ofN (ByteArray.size data)), ())))) none fun r1 => (bif r1.1 then some ((api_Tlv.mk 0 (ByteArray.mk (List.toArray (lnil UInt8))), (false, ())), ((), ())) else (oelim (cK98 (lnil UInt8) id 2) none fun r2 => (bif room (List.length r2.1.1 + List.length data.data.toList) 1 then (oelim ((bif ine (irem (ofN (List.length (r2.1.1 ++ data.data.toList))) 2) 0 then (bif bif le3 (ofN 0) (ofN (List.length (r2.1.1 ++ data.data.toList))) (List.length (r2.1.1 ++ data.data.toList)) then ieq (ofN (List.length (r2.1.1 ++ data.data.toList))) (ofN (List.length (r2.1.1 ++ data.data.toList))) else false then (bif room (List.length (List.drop (Int.toNat (ofN 0)) (List.take (Int.toNat (ofN (List.length (r2.1.1 ++ data.data.toList)))) (r2.1.1 ++ data.data.toList))) + List.length (UInt8.ofNat (Int.toNat 0) :: lnil UInt8)) 1 then some ((List.drop (Int.toNat (ofN 0)) (List.take (Int.toNat (ofN (List.length (r2.1.1 ++ data.data.toList)))) (r2.1.1 ++ data.data.toList)) ++ UInt8.ofNat (Int.toNat 0) :: lnil UInt8, ()), (api_Tlv.mk 0 (ByteArray.mk (List.toArray (lnil UInt8))), ())) else none) else none) else some ((r2.1.1 ++ data.data.toList, ()), (api_Tlv.mk 0 (ByteArray.mk (List.toArray (lnil UInt8))), ())))) none fun r3 => (bif ilt 400 (ofN (List.length r3.1.1)) then some ((api_Tlv.mk 0 (ByteArray.mk (List.toArray (lnil UInt8))), (false, ())), ((), ())) else some ((api_Tlv.mk 1 (ByteArray.mk (List.toArray r3.1.1)), (true, ())), ((), ())))) else none))))
def K134 : K134.T := K134.gen K139 K98
theorem K134.eq (cK139 : K139.T) (cK98 : K98.T) : EqA K134.sig (K134.H cK139 cK98) Tryz.f51 6 (K134.W (K134.gen cK139 cK98)) := by intro a x; kernel_rfl
abbrev K134.h := K134.H K139 K98
theorem K134.hints : HintsOK U Tryz.prog K134.h (fun c => c ∈ ([] : List Code)) := (hq (Z0 (Z0 Z4 K139.ok) K98.ok) Z1 (fun _ => rfl) (fun _ => rfl))
theorem K134.ok : Z3 U Tryz.prog 51 (K134.sig.native (K134.W K134)) :=
 Sig.ok K134.sig (K134.W K134) U_pure (Hn := K134.h) (gos := 6) K134.hints Tryz.func51 rfl (by kernel_rfl) (fun b h => h) rfl rfl (by decide) (K134.eq K139 K98) (by decide)
def K11.sig : Sig U := ⟨[.ptr, .int .i64, .int .i64, .data .t_api_Msg, .int .i64, .str, .int .i64], [.obj .t_clock_Clock], 0, [.bool], false, []⟩
abbrev K11.T : Type := (Int) → (Int) → (api_Msg) → (Int) → (ByteArray) → (Int) → (clock_Clock) → Option ((Bool × Unit) × (clock_Clock × Unit) × Unit)
def K11.W (f : K11.T) : K11.sig.F := fun a x => f a.2.1 a.2.2.1 a.2.2.2.1 a.2.2.2.2.1 a.2.2.2.2.2.1 a.2.2.2.2.2.2.1 x.1
def K11.JR12 : Exits U := [(.normal, ⟨114, 14, [(19, vi_)], [(13, .obj .t_clock_Clock)]⟩)]
def K11.JR9 : Exits U := [(.normal, ⟨114, 17, [(0, .ptr 13 0 0), (1, vi_), (10, .ptr 14 0 0), (19, vi_), (21, .ptr 15 0 0), (22, .ptr 16 0 0)], [(13, .obj .t_clock_Clock), (14, .obj .t_api_Msg), (15, .obj .t_api_Msg), (16, .obj .t_api_Tlv)]⟩)]
def K11.JR8 : Exits U := [(.normal, ⟨114, 17, [(0, .ptr 13 0 0), (1, vi_), (4, vi_), (10, .ptr 14 0 0), (17, .val (.str)), (19, vi_), (21, .ptr 15 0 0), (22, .ptr 16 0 0)], [(13, .obj .t_clock_Clock), (14, .obj .t_api_Msg), (15, .obj .t_api_Msg), (16, .obj .t_api_Tlv)]⟩)]
def K11.JR6 : Exits U := [(.normal, ⟨114, 18, [(0, .ptr 13 0 0), (1, vi_), (4, vi_), (10, .ptr 14 0 0), (17, .val (.str)), (18, .ptr 15 0 0), (19, vi_), (21, .ptr 16 0 0), (22, .ptr 17 0 0)], [(13, .obj .t_clock_Clock), (14, .obj .t_api_Msg), (15, .obj .t_api_Conf), (16, .obj .t_api_Msg), (17, .obj .t_api_Tlv)]⟩)]
def K11.JR5 : Exits U := [(.normal, ⟨114, 17, [(0, .ptr 13 0 0), (1, vi_), (4, vi_), (10, .ptr 14 0 0), (17, .val (.str)), (18, .ptr 15 0 0), (19, vi_), (21, .ptr 16 0 0)], [(13, .obj .t_clock_Clock), (14, .obj .t_api_Msg), (15, .obj .t_api_Conf), (16, .obj .t_api_Msg)]⟩)]
def K11.JR3 : Exits U := [(.normal, ⟨114, 16, [(0, .ptr 13 0 0), (1, vi_), (4, vi_), (10, .ptr 14 0 0), (17, .val (.str)), (18, .ptr 15 0 0), (19, vi_)], [(13, .obj .t_clock_Clock), (14, .obj .t_api_Msg), (15, .obj .t_api_Conf)]⟩)]
def K11.JR2 : Exits U := [(.normal, ⟨114, 16, [(0, .ptr 13 0 0), (1, vi_), (4, vi_), (5, .val (.str)), (10, .ptr 14 0 0), (16, .ptr 15 0 0)], [(13, .obj .t_clock_Clock), (14, .obj .t_api_Msg), (15, .obj .t_mgmt_View)]⟩)]
def K11.JC8 : Exits U := [(.normal, ⟨114, 16, [(0, .ptr 13 0 0), (1, vi_), (19, vi_), (21, .ptr 14 0 0), (22, .ptr 15 0 0)], [(13, .obj .t_clock_Clock), (14, .obj .t_api_Msg), (15, .obj .t_api_Tlv)]⟩)]
def K11.H (cK26 : K26.T) (cK84 : K84.T) (cK25 : K25.T) (cK130 : K130.T) (cK134 : K134.T) (cK22 : K22.T) : Hints U := { Γ := (addΓ 80 (K22.sig.native (K22.W cK22)) (addΓ 51 (K134.sig.native (K134.W cK134)) (addΓ 196 (K130.sig.native (K130.W cK130)) (addΓ 79 (K25.sig.native (K25.W cK25)) (addΓ 195 (K84.sig.native (K84.W cK84)) (addΓ 52 (K26.sig.native (K26.W cK26)) noΓ)))))), ro := 0, base := 14, joinR := fun b => (bif Nat.beq b 2 then some K11.JR2 else (bif Nat.beq b 3 then some K11.JR3 else (bif Nat.beq b 5 then some K11.JR5 else (bif Nat.beq b 6 then some K11.JR6 else (bif Nat.beq b 8 then some K11.JR8 else (bif Nat.beq b 9 then some K11.JR9 else (bif Nat.beq b 12 then some K11.JR12 else none))))))), joinC := fun b => (bif Nat.beq b 8 then some K11.JC8 else none) }
def K11.gen (cK26 : K26.T) (cK84 : K84.T) (cK25 : K25.T) (cK130 : K130.T) (cK134 : K134.T) (cK22 : K22.T) : K11.T := fun i n m id data now h0 =>
 (oelim (cK26 n h0) none fun r0 => (oelim ((oelim (cK84 (mgmt_View.mk h0.fconf h0.fparent h0.foffset h0.fdelay.fv now (h0.fports r0.1.1).fstate (h0.fports r0.1.1).fneighbour.fv n) m.fAction id data) none fun r1 => some ((i, (id, (r1.1.1, r1.1.2.2))), (h0, (m, (r1.1.2.1, ())))))) none fun r2 => (oelim ((oelim (cK25 r2.1.1 r2.2.1) none fun r3 => some (r2.1, (r2.2.1, (r2.2.2.1, (r2.2.2.2.1, (api_Msg.mk 13 r2.2.2.1.fDomain 0 0 r3.1.1 r2.2.2.1.fSeq 127 0 r2.2.2.1.fSource 0 0 z1_ 0 0 0 0 (Z7 true 0 (isub .i64 r2.2.2.1.fStartHops r2.2.2.1.fHops)) (Z7 true 0 (isub .i64 r2.2.2.1.fStartHops r2.2.2.1.fHops)) 2, ()))))))) none fun r4 => (oelim ((oelim (cK130 r4.1.2.2.2.1 r4.1.2.1) none fun r5 => some (r4.1, (r4.2.1, (r4.2.2.1, (r4.2.2.2.1, (r4.2.2.2.2.1, (r5.1.1, ())))))))) none fun r6 => (oelim ((bif ieq r6.1.2.2.2.1 0 then (oelim ((oelim (cK134 r6.1.2.1 r6.1.2.2.1) none fun r7 => some ((r6.1.1, r6.1.2.2.2), (clock_Clock.set_fconf r6.2.1 r6.2.2.2.1, (r6.2.2.1, (r6.2.2.2.2.1, (r7.1.1, ()))))))) none fun r8 => (bif ieq r8.2.2.1.fAction 3 then some (r8.1, (r8.2.1, (api_Msg.set_fAction r8.2.2.2.1 4, r8.2.2.2.2))) else some (r8.1, (r8.2.1, r8.2.2.2)))) else some ((r6.1.1, r6.1.2.2.2), (r6.2.1, r6.2.2.2.2)))) none fun r9 => (oelim ((oelim (cK22 r9.1.1 r9.2.2.1 (r9.2.2.2.1 :: lnil api_Tlv) false r9.2.1) none fun r10 => some (r9.1.2, r10.2.1))) none fun r11 => some ((ieq r11.1.1 0, ()), (r11.2, ()))))))))
def K11 : K11.T := K11.gen K26 K84 K25 K130 K134 K22
theorem K11.eq (cK26 : K26.T) (cK84 : K84.T) (cK25 : K25.T) (cK130 : K130.T) (cK134 : K134.T) (cK22 : K22.T) : EqA K11.sig (K11.H cK26 cK84 cK25 cK130 cK134 cK22) Tryz.f162 6 (K11.W (K11.gen cK26 cK84 cK25 cK130 cK134 cK22)) := by intro a x; kernel_rfl
abbrev K11.h := K11.H K26 K84 K25 K130 K134 K22
theorem K11.hints : HintsOK U Tryz.prog K11.h (fun c => c ∈ ([] : List Code)) := (hq (Z0 (Z0 (Z0 (Z0 (Z0 (Z0 Z4 K26.ok) K84.ok) K25.ok) K130.ok) K134.ok) K22.ok) Z1 (fun _ => rfl) (fun _ => rfl))
theorem K11.ok : Z3 U Tryz.prog 162 (K11.sig.native (K11.W K11)) :=
 Sig.ok K11.sig (K11.W K11) U_pure (Hn := K11.h) (gos := 6) K11.hints Tryz.func162 rfl (by kernel_rfl) (fun b h => h) rfl rfl (by decide) (K11.eq K26 K84 K25 K130 K134 K22) (by decide)
def K29.sig : Sig U := ⟨[.ptr, .int .i64, .int .i64], [.obj .t_clock_Clock, fm6_, fm7_, fm8_, fm10_, .fam 12 (.map true false .t_api_PortID .l_u64)], 0, [], true, []⟩
abbrev K29.T : Type := (Int) → (Int) → (clock_Clock) → (Fm foreign_Table) → (Fm delay_Exchange) → (Fm peer_Exchange) → (Fm seq_Match) → (Nat × (Nat → List (api_PortID × List (Int)))) → Option (Unit × (clock_Clock × (Fm foreign_Table) × (Fm delay_Exchange) × (Fm peer_Exchange) × (Fm seq_Match) × (Nat × (Nat → List (api_PortID × List (Int)))) × Unit) × Unit)
def K29.W (f : K29.T) : K29.sig.F := fun a x => f a.2.1 a.2.2.1 x.1 x.2.1 x.2.2.1 x.2.2.2.1 x.2.2.2.2.1 x.2.2.2.2.2.1
def K29.JR8 : Exits U := [(.normal, ⟨58, 14, [(0, .ptr 13 0 0), (7, vi_)], (13, .obj .t_clock_Clock) :: hT6_⟩)]
def K29.JR7 : Exits U := [(.normal, ⟨58, 14, [(0, .ptr 13 0 0), (6, .aptr 13 23 42 8 0), (7, vi_)], (13, .obj .t_clock_Clock) :: hT6_⟩)]
def K29.JR6 : Exits U := [(.normal, ⟨58, 14, [(0, .ptr 13 0 0), (6, .aptr 13 23 42 8 0), (7, vi_)], (13, .obj .t_clock_Clock) :: hT6_⟩)]
def K29.JR5 : Exits U := [(.normal, ⟨58, 14, [(0, .ptr 13 0 0), (6, .aptr 13 23 42 8 0), (7, vi_)], (13, .obj .t_clock_Clock) :: hT6_⟩)]
def K29.JR3 : Exits U := [(.normal, ⟨58, 14, [(0, .ptr 13 0 0), (6, .aptr 13 23 42 8 0), (7, vi_)], (13, .obj .t_clock_Clock) :: hT6_⟩)]
def K29.H (cK21 : K21.T) (cK26 : K26.T) (cK110 : K110.T) (cK32 : K32.T) (cK33 : K33.T) (cK103 : K103.T) (cK108 : K108.T) (cK141 : K141.T) : Hints U := { Γ := (addΓ 88 (K141.sig.native (K141.W cK141)) (addΓ 76 (K108.sig.native (K108.W cK108)) (addΓ 98 (K103.sig.native (K103.W cK103)) (addΓ 97 (K33.sig.native (K33.W cK33)) (addΓ 96 (K32.sig.native (K32.W cK32)) (addΓ 95 (K110.sig.native (K110.W cK110)) (addΓ 52 (K26.sig.native (K26.W cK26)) (addΓ 46 (K21.sig.native (K21.W cK21)) noΓ)))))))), ro := 0, base := 14, joinR := fun b => (bif Nat.beq b 3 then some K29.JR3 else (bif Nat.beq b 5 then some K29.JR5 else (bif Nat.beq b 6 then some K29.JR6 else (bif Nat.beq b 7 then some K29.JR7 else (bif Nat.beq b 8 then some K29.JR8 else none))))) }
def K29.gen (cK21 : K21.T) (cK26 : K26.T) (cK110 : K110.T) (cK32 : K32.T) (cK33 : K33.T) (cK103 : K103.T) (cK108 : K108.T) (cK141 : K141.T) : K29.T := fun n event h0 g6 g7 g8 g10 g12 =>
 (oelim (cK21 n h0) none fun r0 => (bif r0.1.1 then some ((), ((h0, (g6, (g7, (g8, (g10, (g12, ())))))), ())) else (oelim (cK26 n h0) none fun r1 => (oelim ((oelim (cK110 (h0.fports r1.1.1).fstate event h0.fconf.fSlaveOnly) none fun r2 => some ((r1.1.1, ((h0.fports r1.1.1).fstate, ())), (clock_Clock.set_fports h0 (fset h0.fports r1.1.1 (clock_side.set_fstate (h0.fports r1.1.1) r2.1.1)), (g6, (g7, (g8, (g10, (g12, ()))))))))) none fun r3 => (bif ieq (r3.2.1.fports r3.1.1).fstate r3.1.2.1 then some ((), (r3.2, ())) else (oelim ((oelim (cK32 (r3.2.1.fports r3.1.1) r3.2.2.1 r3.2.2.2.2.2.2.1) none fun r4 => some (r3.1, (clock_Clock.set_fports r3.2.1 (fset r3.2.1.fports r3.1.1 r4.2.1.1), (r4.2.1.2.1, (r3.2.2.2.1, (r3.2.2.2.2.1, (r3.2.2.2.2.2.1, r4.2.1.2.2)))))))) none fun r5 => (oelim ((oelim (cK33 true (r5.2.1.fports r5.1.1) r5.2.2.2.1 r5.2.2.2.2.2.1) none fun r6 => some (r5.1, (clock_Clock.set_fports r5.2.1 (fset r5.2.1.fports r5.1.1 r6.2.1.1), (r5.2.2.1, (r6.2.1.2.1, (r5.2.2.2.2.1, (r6.2.1.2.2.1, r5.2.2.2.2.2.2)))))))) none fun r7 => (oelim ((oelim ((r7.2.1.fports r7.1.1).14) none fun r8 => (oelim (cK103 (r7.2.2.2.2.1.2 r8)) none fun r9 => some (r7.1, (r7.2.1, (r7.2.2.1, (r7.2.2.2.1, ((r7.2.2.2.2.1.1, fset r7.2.2.2.2.1.2 r8 r9.2.1.1), r7.2.2.2.2.2)))))))) none fun r10 => (oelim (cK108 r10.1.2.1) none fun r11 => (bif r11.1.1 then (oelim (cK141 r10.2.1.fconf) none fun r12 => some ((), ((clock_Clock.set_fparent (clock_Clock.set_fports r10.2.1 (fset r10.2.1.fports r10.1.1 (clock_side.set_fneighbour (r10.2.1.fports r10.1.1) z5_))) r12.1.1, r10.2.2), ()))) else some ((), ((clock_Clock.set_fports r10.2.1 (fset r10.2.1.fports r10.1.1 (clock_side.set_fneighbour (r10.2.1.fports r10.1.1) z5_)), r10.2.2), ()))))))))))))
def K29 : K29.T := K29.gen K21 K26 K110 K32 K33 K103 K108 K141
theorem K29.eq (cK21 : K21.T) (cK26 : K26.T) (cK110 : K110.T) (cK32 : K32.T) (cK33 : K33.T) (cK103 : K103.T) (cK108 : K108.T) (cK141 : K141.T) : EqA K29.sig (K29.H cK21 cK26 cK110 cK32 cK33 cK103 cK108 cK141) Tryz.f50 6 (K29.W (K29.gen cK21 cK26 cK110 cK32 cK33 cK103 cK108 cK141)) := by intro a x; kernel_rfl
abbrev K29.h := K29.H K21 K26 K110 K32 K33 K103 K108 K141
theorem K29.hints : HintsOK U Tryz.prog K29.h (fun c => c ∈ ([] : List Code)) := (hq (Z0 (Z0 (Z0 (Z0 (Z0 (Z0 (Z0 (Z0 Z4 K21.ok) K26.ok) K110.ok) K32.ok) K33.ok) K103.ok) K108.ok) K141.ok) Z1 (fun _ => rfl) (fun _ => rfl))
theorem K29.ok : Z3 U Tryz.prog 50 (K29.sig.native (K29.W K29)) :=
 Sig.ok K29.sig (K29.W K29) U_pure (Hn := K29.h) (gos := 6) K29.hints Tryz.func50 rfl (by kernel_rfl) (fun b h => h) rfl rfl (by decide) (K29.eq K21 K26 K110 K32 K33 K103 K108 K141) (by decide)
def K19.sig : Sig U := ⟨[.ptr, .int .i64, .data .t_api_Msg, .isl .t_api_Tlv, .int .i64], [.obj .t_clock_Clock, fm5_, fm6_, fm7_, fm8_, fm9_, fm10_, .fam 12 (.map true false .t_api_PortID .l_u64)], 0, [], true, []⟩
abbrev K19.T : Type := (Int) → (api_Msg) → (List (api_Tlv)) → (Int) → (clock_Clock) → (Fm servo_Servo) → (Fm foreign_Table) → (Fm delay_Exchange) → (Fm peer_Exchange) → (Fm median_Filter) → (Fm seq_Match) → (Nat × (Nat → List (api_PortID × List (Int)))) → Option (Unit × (clock_Clock × qT0_) × Unit)
def K19.W (f : K19.T) : K19.sig.F := fun a x => f a.2.1 a.2.2.1 a.2.2.2.1 a.2.2.2.2.1 x.1 x.2.1 x.2.2.1 x.2.2.2.1 x.2.2.2.2.1 x.2.2.2.2.2.1 x.2.2.2.2.2.2.1 x.2.2.2.2.2.2.2.1
def K19.L0 : Shape U := ⟨137, 16, [(0, .ptr 13 0 0), (1, vi_), (3, .val (.isl .t_api_Tlv)), (4, vi_), (7, .ptr 14 0 0), (12, vi_), (13, .val (.str)), (15, .ptr 15 0 0), (16, vi_)], (13, .obj .t_clock_Clock) :: (14, .obj .t_api_Msg) :: (15, .obj .t_api_Msg) :: hT0_⟩
def K19.X0 : Exits U := [(.exit 0, ⟨137, 15, [(0, .ptr 13 0 0), (1, vi_), (4, vi_), (7, .ptr 14 0 0), (12, vi_), (13, .val (.str))], (13, .obj .t_clock_Clock) :: (14, .obj .t_api_Msg) :: hT0_⟩)]
abbrev K19.l0T : Type := ((Int × (List (api_Tlv)) × Int × Int × ByteArray × Int × Unit) × (clock_Clock × api_Msg × api_Msg × qT0_)) → Option (((Int × Int × Int × ByteArray × Unit) × (clock_Clock × api_Msg × qT0_)))
def K19.L1 : Shape U := ⟨137, 15, [(0, .ptr 13 0 0), (1, vi_), (4, vi_), (7, .ptr 14 0 0), (12, vi_), (13, .val (.str)), (17, vb_), (94, .val (.isl .int)), (95, vi_), (96, vi_)], (13, .obj .t_clock_Clock) :: (14, .obj .t_api_Msg) :: hT0_⟩
def K19.X1 : Exits U := [(.exit 2, ⟨137, 14, [(0, .ptr 13 0 0), (17, vb_)], (13, .obj .t_clock_Clock) :: hT0_⟩)]
abbrev K19.l1T : Type := ((Int × Int × Int × ByteArray × Bool × (List (Int)) × Int × Int × Unit) × (clock_Clock × api_Msg × qT0_)) → Option (((Bool × Unit) × (clock_Clock × qT0_)))
def K19.C : Code := match Tryz.f83.body with | some c => c | none => .skip
def K19.B0 : Code := match (Z5 K19.C).getD 0 .skip with | .loop b => b | .scope b => b | _ => .skip
def K19.B1 : Code := match (Z5 K19.C).getD 1 .skip with | .loop b => b | .scope b => b | _ => .skip
def K19.JR17 : Exits U := [(.normal, ⟨137, 15, [(0, .ptr 13 0 0), (1, vi_), (4, vi_), (7, .ptr 14 0 0), (12, vi_), (13, .val (.str)), (17, vb_), (19, vi_), (94, .val (.isl .int)), (95, vi_), (96, vi_), (112, vb_)], (13, .obj .t_clock_Clock) :: (14, .obj .t_api_Msg) :: hT0_⟩)]
def K19.JR6 : Exits U := [(.normal, ⟨137, 16, [(0, .ptr 13 0 0), (1, vi_), (3, .val (.isl .t_api_Tlv)), (4, vi_), (7, .ptr 14 0 0), (12, vi_), (13, .val (.str)), (15, .ptr 15 0 0)], (13, .obj .t_clock_Clock) :: (14, .obj .t_api_Msg) :: (15, .obj .t_api_Msg) :: hT0_⟩)]
def K19.JR5 : Exits U := [(.normal, ⟨137, 16, [(0, .ptr 13 0 0), (1, vi_), (3, .val (.isl .t_api_Tlv)), (4, vi_), (7, .ptr 14 0 0), (12, vi_), (13, .val (.str)), (15, .ptr 15 0 0)], (13, .obj .t_clock_Clock) :: (14, .obj .t_api_Msg) :: (15, .obj .t_api_Msg) :: hT0_⟩)]
def K19.JR1 : Exits U := [(.normal, ⟨137, 16, [(0, .ptr 13 0 0), (1, vi_), (3, .val (.isl .t_api_Tlv)), (4, vi_), (7, .ptr 14 0 0), (10, .ptr 15 0 0)], (13, .obj .t_clock_Clock) :: (14, .obj .t_api_Msg) :: (15, .obj .t_api_Tlv) :: hT0_⟩)]
def K19.JC18 : Exits U := [(.normal, ⟨137, 15, [(0, .ptr 13 0 0), (1, vi_), (4, vi_), (7, .ptr 14 0 0), (12, vi_), (13, .val (.str)), (17, vb_), (94, .val (.isl .int)), (95, vi_), (96, vi_)], (13, .obj .t_clock_Clock) :: (14, .obj .t_api_Msg) :: hT0_⟩)]
def K19.JC11 : Exits U := [(.normal, ⟨137, 16, [(0, .ptr 13 0 0), (1, vi_), (3, .val (.isl .t_api_Tlv)), (4, vi_), (7, .ptr 14 0 0), (12, vi_), (13, .val (.str)), (15, .ptr 15 0 0), (16, vi_)], (13, .obj .t_clock_Clock) :: (14, .obj .t_api_Msg) :: (15, .obj .t_api_Msg) :: hT0_⟩)]
def K19.JC5 : Exits U := [(.normal, ⟨137, 15, [(0, .ptr 13 0 0), (1, vi_), (4, vi_), (7, .ptr 14 0 0), (12, vi_), (13, .val (.str))], (13, .obj .t_clock_Clock) :: (14, .obj .t_api_Msg) :: hT0_⟩)]
def K19.H (cK131 : K131.T) (cK135 : K135.T) (cK8 : K8.T) (cK106 : K106.T) (cK22 : K22.T) (cK86 : K86.T) (cK20 : K20.T) (cK11 : K11.T) (cK29 : K29.T) (cK13 : K13.T) (l0 : K19.l0T) (l1 : K19.l1T) : Hints U := { Γ := (addΓ 49 (K13.sig.native (K13.W cK13)) (addΓ 50 (K29.sig.native (K29.W cK29)) (addΓ 162 (K11.sig.native (K11.W cK11)) (addΓ 160 (K20.sig.native (K20.W cK20)) (addΓ 161 (K86.sig.native (K86.W cK86)) (addΓ 80 (K22.sig.native (K22.W cK22)) (addΓ 74 (K106.sig.native (K106.W cK106)) (addΓ 21 (K8.sig.native (K8.W cK8)) (addΓ 159 (K135.sig.native (K135.W cK135)) (addΓ 144 (K131.sig.native (K131.W cK131)) noΓ)))))))))), ro := 0, base := 14, joinQ := fun b => (bif Nat.beq b 4 then some [(46, vb_)] else (bif Nat.beq b 10 then some [(69, vb_)] else (bif Nat.beq b 12 then some [(87, vb_)] else (bif Nat.beq b 18 then some [(17, vb_)] else none)))), joinR := fun b => (bif Nat.beq b 1 then some K19.JR1 else (bif Nat.beq b 5 then some K19.JR5 else (bif Nat.beq b 6 then some K19.JR6 else (bif Nat.beq b 17 then some K19.JR17 else none)))), joinC := fun b => (bif Nat.beq b 5 then some K19.JC5 else (bif Nat.beq b 11 then some K19.JC11 else (bif Nat.beq b 18 then some K19.JC18 else none))), loop := fun b => (bif Nat.beq b 8 then some (Zc (0, 14) K19.L0 K19.X0 l0) else (bif Nat.beq b 15 then some (Zc (0, 14) K19.L1 K19.X1 l1) else none)) }
def K19.step1 (cK131 : K131.T) (cK135 : K135.T) (cK8 : K8.T) (cK106 : K106.T) (cK22 : K22.T) (cK86 : K86.T) (cK20 : K20.T) (cK11 : K11.T) (cK29 : K29.T) (cK13 : K13.T) (a : (Int × Int × Int × ByteArray × Bool × (List (Int)) × Int × Int × Unit) × (clock_Clock × api_Msg × qT0_)) : Option (((Int × Int × Int × ByteArray × Bool × (List (Int)) × Int × Int × Unit) × (clock_Clock × api_Msg × qT0_)) ⊕ (((Bool × Unit) × (clock_Clock × qT0_)))) :=
 (bif ilt a.1.2.2.2.2.2.2.2.1 a.1.2.2.2.2.2.2.1 then (bif inR a.1.2.2.2.2.2.2.2.1 (List.length a.1.2.2.2.2.2.1) then (oelim ((oelim (cK11 a.1.1 (List.getD a.1.2.2.2.2.2.1 (Int.toNat a.1.2.2.2.2.2.2.2.1) (0 : D UC.int)) a.2.2.1 a.1.2.2.1 a.1.2.2.2.1 a.1.2.1 a.2.1) none fun r0 => (bif r0.1.1 then some ((a.1.1, (a.1.2.1, (a.1.2.2.1, (a.1.2.2.2.1, (a.1.2.2.2.2.1, (List.getD a.1.2.2.2.2.2.1 (Int.toNat a.1.2.2.2.2.2.2.2.1) (0 : D UC.int), (a.1.2.2.2.2.2.1, (a.1.2.2.2.2.2.2.1, (a.1.2.2.2.2.2.2.2.1, (ieq a.2.2.1.fAction 3, ())))))))))), (r0.2.1.1, a.2.2)) else some ((a.1.1, (a.1.2.1, (a.1.2.2.1, (a.1.2.2.2.1, (a.1.2.2.2.2.1, (List.getD a.1.2.2.2.2.2.1 (Int.toNat a.1.2.2.2.2.2.2.2.1) (0 : D UC.int), (a.1.2.2.2.2.2.1, (a.1.2.2.2.2.2.2.1, (a.1.2.2.2.2.2.2.2.1, (false, ())))))))))), (r0.2.1.1, a.2.2))))) none fun r1 => (oelim ((bif r1.1.2.2.2.2.2.2.2.2.2.1 then (oelim ((bif r1.1.2.2.2.2.1 then some (true, ()) else some (ieq r1.1.2.2.1 5, ()))) none fun r2 => (bif ieq r1.1.2.2.1 8205 then (oelim (cK29 r1.1.2.2.2.2.2.1 8 r1.2.1 r1.2.2.2.2.1 r1.2.2.2.2.2.1 r1.2.2.2.2.2.2.1 r1.2.2.2.2.2.2.2.2.1 r1.2.2.2.2.2.2.2.2.2.1) none fun r3 => some ((r1.1.1, (r1.1.2.1, (r1.1.2.2.1, (r1.1.2.2.2.1, (r2.1, (r1.1.2.2.2.2.2.2.1, (r1.1.2.2.2.2.2.2.2.1, (r1.1.2.2.2.2.2.2.2.2.1, ())))))))), (r3.2.1.1, (r1.2.2.1, (r1.2.2.2.1, (r3.2.1.2.1, (r3.2.1.2.2.1, (r3.2.1.2.2.2.1, (r1.2.2.2.2.2.2.2.1, r3.2.1.2.2.2.2))))))))) else (bif ieq r1.1.2.2.1 8206 then (oelim (cK29 r1.1.2.2.2.2.2.1 7 r1.2.1 r1.2.2.2.2.1 r1.2.2.2.2.2.1 r1.2.2.2.2.2.2.1 r1.2.2.2.2.2.2.2.2.1 r1.2.2.2.2.2.2.2.2.2.1) none fun r4 => some ((r1.1.1, (r1.1.2.1, (r1.1.2.2.1, (r1.1.2.2.2.1, (r2.1, (r1.1.2.2.2.2.2.2.1, (r1.1.2.2.2.2.2.2.2.1, (r1.1.2.2.2.2.2.2.2.2.1, ())))))))), (r4.2.1.1, (r1.2.2.1, (r1.2.2.2.1, (r4.2.1.2.1, (r4.2.1.2.2.1, (r4.2.1.2.2.2.1, (r1.2.2.2.2.2.2.2.1, r4.2.1.2.2.2.2))))))))) else some ((r1.1.1, (r1.1.2.1, (r1.1.2.2.1, (r1.1.2.2.2.1, (r2.1, (r1.1.2.2.2.2.2.2.1, (r1.1.2.2.2.2.2.2.2.1, (r1.1.2.2.2.2.2.2.2.2.1, ())))))))), r1.2)))) else some ((r1.1.1, (r1.1.2.1, (r1.1.2.2.1, (r1.1.2.2.2.1, (r1.1.2.2.2.2.1, (r1.1.2.2.2.2.2.2.1, (r1.1.2.2.2.2.2.2.2.1, (r1.1.2.2.2.2.2.2.2.2.1, ())))))))), r1.2))) none fun r5 => some (.inl ((r5.1.1, (r5.1.2.1, (r5.1.2.2.1, (r5.1.2.2.2.1, (r5.1.2.2.2.2.1, (r5.1.2.2.2.2.2.1, (r5.1.2.2.2.2.2.2.1, (iadd .i64 r5.1.2.2.2.2.2.2.2.1 1, ())))))))), r5.2)))) else none) else some (.inr ((a.1.2.2.2.2.1, ()), (a.2.1, a.2.2.2))))
def K19.F1 : K19.l1T := fun a => Za (1000000 + (a.1.2.2.2.1.size + a.1.2.2.2.2.2.1.length)) (K19.step1 K131 K135 K8 K106 K22 K86 K20 K11 K29 K13) a
def K19.step0 (cK131 : K131.T) (cK135 : K135.T) (cK8 : K8.T) (cK106 : K106.T) (cK22 : K22.T) (cK86 : K86.T) (cK20 : K20.T) (cK11 : K11.T) (cK29 : K29.T) (cK13 : K13.T) (a : (Int × (List (api_Tlv)) × Int × Int × ByteArray × Int × Unit) × (clock_Clock × api_Msg × api_Msg × qT0_)) : Option (((Int × (List (api_Tlv)) × Int × Int × ByteArray × Int × Unit) × (clock_Clock × api_Msg × api_Msg × qT0_)) ⊕ (((Int × Int × Int × ByteArray × Unit) × (clock_Clock × api_Msg × qT0_)))) :=
 (bif ile a.1.2.2.2.2.2.1 a.2.1.fconf.fPorts then (oelim ((bif ine a.1.2.2.2.2.2.1 a.1.1 then (oelim (cK8 a.1.2.2.2.2.2.1 a.2.1) none fun r0 => (oelim (cK106 r0.1.1) none fun r1 => some r1.1)) else some (false, ()))) none fun r2 => (oelim ((bif r2.1 then (oelim (cK22 a.1.2.2.2.2.2.1 a.2.2.2.1 a.1.2.1 false a.2.1) none fun r3 => some (a.1, (r3.2.1.1, a.2.2))) else some a)) none fun r4 => some (.inl ((r4.1.1, (r4.1.2.1, (r4.1.2.2.1, (r4.1.2.2.2.1, (r4.1.2.2.2.2.1, (iadd .i64 r4.1.2.2.2.2.2.1 1, ())))))), r4.2)))) else some (.inr ((a.1.1, (a.1.2.2.1, (a.1.2.2.2.1, (a.1.2.2.2.2.1, ())))), (a.2.1, (a.2.2.1, a.2.2.2.2)))))
def K19.F0 : K19.l0T := fun a => Za (1000000 + (a.1.2.1.length + a.1.2.2.2.2.1.size)) (K19.step0 K131 K135 K8 K106 K22 K86 K20 K11 K29 K13) a
def K19.gen (cK131 : K131.T) (cK135 : K135.T) (cK8 : K8.T) (cK106 : K106.T) (cK22 : K22.T) (cK86 : K86.T) (cK20 : K20.T) (cK11 : K11.T) (cK29 : K29.T) (cK13 : K13.T) (l0 : K19.l0T) (l1 : K19.l1T) : K19.T := fun i m l now h0 g5 g6 g7 g8 g9 g10 g12 =>
 (oelim ((oelim (cK131 l 1) none fun r0 => some ((i, (l, (now, ()))), (h0, (m, (r0.1.1, (g5, (g6, (g7, (g8, (g9, (g10, (g12, ()))))))))))))) none fun r1 => (oelim (cK135 r1.2.2.2.1) none fun r2 => (bif !r2.1.2.2.1 then some ((), ((r1.2.1, r1.2.2.2.2), ())) else (oelim ((bif ine r1.2.2.1.fTarget.fClock r1.2.1.fconf.fClock then some (ilt 0 r1.2.2.1.fHops, ()) else some (false, ()))) none fun r3 => (oelim ((bif r3.1 then (oelim (l0 ((r1.1.1, r1.1.2.1, r1.1.2.2.1, r2.1.1, r2.1.2.1, (1 : Int), ()), r1.2.1, r1.2.2.1, api_Msg.set_fHops r1.2.2.1 (isub .i64 r1.2.2.1.fHops 1), r1.2.2.2.2)) none fun r4 => some r4) else some ((r1.1.1, (r1.1.2.2.1, (r2.1.1, (r2.1.2.1, ())))), (r1.2.1, (r1.2.2.1, r1.2.2.2.2))))) none fun r5 => (oelim ((bif ine r5.2.2.1.fAction 0 then (bif ine r5.2.2.1.fAction 1 then some (ine r5.2.2.1.fAction 3, ()) else some (false, ())) else some (false, ()))) none fun r6 => (bif r6.1 then some ((), ((r5.2.1, r5.2.2.2), ())) else (oelim (cK86 r5.1.2.2.1) none fun r7 => (oelim (cK20 r5.1.1 r5.2.2.1.fTarget r7.1.1 r5.2.1) none fun r8 => (oelim (l1 ((r5.1.1, r5.1.2.1, r5.1.2.2.1, r5.1.2.2.2.1, false, r8.1.1, ofN (List.length r8.1.1), (0 : Int), ()), r5.2)) none fun r9 => (bif r9.1.1 then (oelim (cK13 r9.2.1.fconf r9.2.1 r9.2.2.1 r9.2.2.2.1 r9.2.2.2.2.1 r9.2.2.2.2.2.1 r9.2.2.2.2.2.2.1 r9.2.2.2.2.2.2.2.1 r9.2.2.2.2.2.2.2.2.1) none fun r10 => some ((), r10.2)) else some ((), (r9.2, ())))))))))))))
def K19 : K19.T := K19.gen K131 K135 K8 K106 K22 K86 K20 K11 K29 K13 K19.F0 K19.F1
theorem K19.seq1 (cK131 : K131.T) (cK135 : K135.T) (cK8 : K8.T) (cK106 : K106.T) (cK22 : K22.T) (cK86 : K86.T) (cK20 : K20.T) (cK11 : K11.T) (cK29 : K29.T) (cK13 : K13.T) (l0 : K19.l0T) (l1 : K19.l1T) (a : K19.L1.T) : run Tryz.prog (K19.H cK131 cK135 cK8 cK106 cK22 cK86 cK20 cK11 cK29 cK13 l0 l1) 6 (Option (K19.L1.T ⊕ ExT K19.X1)) none K19.B1 (K19.L1.enc a) (Zs (0, 14) K19.L1 K19.X1) = K19.step1 cK131 cK135 cK8 cK106 cK22 cK86 cK20 cK11 cK29 cK13 a := by kernel_rfl
theorem K19.inner1 : Z5 K19.B1 = ([] : List Code) := by kernel_rfl
abbrev K19.h := K19.H K131 K135 K8 K106 K22 K86 K20 K11 K29 K13 K19.F0 K19.F1
theorem K19.lok1 : Ze U Tryz.prog K19.h.ro K19.h.base K19.B1 (Zc (0, 14) K19.L1 K19.X1 K19.F1) :=
 Zh (Hn := K19.h) U_ok U_pure (Zl (hq (Z0 (Z0 (Z0 (Z0 (Z0 (Z0 (Z0 (Z0 (Z0 (Z0 Z4 K131.ok) K135.ok) K8.ok) K106.ok) K22.ok) K86.ok) K20.ok) K11.ok) K29.ok) K13.ok) Z1 (fun _ => rfl) (fun _ => rfl)) 6) (fun b h => by rw [K19.inner1] at h; exact h) (fun _ => rfl) (K19.seq1 K131 K135 K8 K106 K22 K86 K20 K11 K29 K13 K19.F0 K19.F1)
theorem K19.seq0 (cK131 : K131.T) (cK135 : K135.T) (cK8 : K8.T) (cK106 : K106.T) (cK22 : K22.T) (cK86 : K86.T) (cK20 : K20.T) (cK11 : K11.T) (cK29 : K29.T) (cK13 : K13.T) (l0 : K19.l0T) (l1 : K19.l1T) (a : K19.L0.T) : run Tryz.prog (K19.H cK131 cK135 cK8 cK106 cK22 cK86 cK20 cK11 cK29 cK13 l0 l1) 6 (Option (K19.L0.T ⊕ ExT K19.X0)) none K19.B0 (K19.L0.enc a) (Zs (0, 14) K19.L0 K19.X0) = K19.step0 cK131 cK135 cK8 cK106 cK22 cK86 cK20 cK11 cK29 cK13 a := by kernel_rfl
theorem K19.inner0 : Z5 K19.B0 = ([] : List Code) := by kernel_rfl
theorem K19.lok0 : Ze U Tryz.prog K19.h.ro K19.h.base K19.B0 (Zc (0, 14) K19.L0 K19.X0 K19.F0) :=
 Zh (Hn := K19.h) U_ok U_pure (Zl (hq (Z0 (Z0 (Z0 (Z0 (Z0 (Z0 (Z0 (Z0 (Z0 (Z0 Z4 K131.ok) K135.ok) K8.ok) K106.ok) K22.ok) K86.ok) K20.ok) K11.ok) K29.ok) K13.ok) Z1 (fun _ => rfl) (fun _ => rfl)) 6) (fun b h => by rw [K19.inner0] at h; exact h) (fun _ => rfl) (K19.seq0 K131 K135 K8 K106 K22 K86 K20 K11 K29 K13 K19.F0 K19.F1)
theorem K19.eq (cK131 : K131.T) (cK135 : K135.T) (cK8 : K8.T) (cK106 : K106.T) (cK22 : K22.T) (cK86 : K86.T) (cK20 : K20.T) (cK11 : K11.T) (cK29 : K29.T) (cK13 : K13.T) (l0 : K19.l0T) (l1 : K19.l1T) : EqA K19.sig (K19.H cK131 cK135 cK8 cK106 cK22 cK86 cK20 cK11 cK29 cK13 l0 l1) Tryz.f83 6 (K19.W (K19.gen cK131 cK135 cK8 cK106 cK22 cK86 cK20 cK11 cK29 cK13 l0 l1)) := by intro a x; kernel_rfl
theorem K19.loops : Z5 K19.C = [(.loop K19.B0), (.loop K19.B1)] := by kernel_rfl
theorem K19.hints : HintsOK U Tryz.prog K19.h (fun c => c ∈ [(.loop K19.B0), (.loop K19.B1)]) := (hq (Z0 (Z0 (Z0 (Z0 (Z0 (Z0 (Z0 (Z0 (Z0 (Z0 Z4 K131.ok) K135.ok) K8.ok) K106.ok) K22.ok) K86.ok) K20.ok) K11.ok) K29.ok) K13.ok) (Zb (by kernel_rfl) K19.lok0 (Zb (by kernel_rfl) K19.lok1 Z1)) (fun _ => rfl) (fun _ => rfl))
theorem K19.ok : Z3 U Tryz.prog 83 (K19.sig.native (K19.W K19)) :=
 Sig.ok K19.sig (K19.W K19) U_pure (Hn := K19.h) (code := K19.C) (gos := 6) K19.hints Tryz.func83 (by kernel_rfl) (by kernel_rfl) (fun b h => by rw [K19.loops] at h; exact h) rfl rfl (by decide) (K19.eq K131 K135 K8 K106 K22 K86 K20 K11 K29 K13 K19.F0 K19.F1) (by decide)
def K17.sig : Sig U := ⟨[.ptr, .int .i64, .str, .int .i64], [.obj .t_clock_Clock, fm5_, fm6_, fm7_, fm8_, fm9_, fm10_, .fam 12 (.map true false .t_api_PortID .l_u64)], 0, [], true, []⟩
abbrev K17.T : Type := (Int) → (ByteArray) → (Int) → (clock_Clock) → (Fm servo_Servo) → (Fm foreign_Table) → (Fm delay_Exchange) → (Fm peer_Exchange) → (Fm median_Filter) → (Fm seq_Match) → (Nat × (Nat → List (api_PortID × List (Int)))) → Option (Unit × (clock_Clock × qT0_) × Unit)
def K17.W (f : K17.T) : K17.sig.F := fun a x => f a.2.1 a.2.2.1 a.2.2.2.1 x.1 x.2.1 x.2.2.1 x.2.2.2.1 x.2.2.2.2.1 x.2.2.2.2.2.1 x.2.2.2.2.2.2.1 x.2.2.2.2.2.2.2.1
def K17.C : Code := match Tryz.f45.body with | some c => c | none => .skip
def K17.B0 : Code := match (Z5 K17.C).getD 0 .skip with | .loop b => b | .scope b => b | _ => .skip
def K17.JR14 : Exits U := [(.normal, ⟨177, 15, [(0, .ptr 13 0 0), (1, vi_), (12, .ptr 14 0 0), (13, vb_)], (13, .obj .t_clock_Clock) :: (14, .obj .t_api_Msg) :: hT0_⟩)]
def K17.JR1 : Exits U := [(.normal, ⟨177, 15, [(0, .ptr 13 0 0), (1, vi_), (3, vi_), (9, .ptr 14 0 0), (10, .val (.isl .t_api_Tlv)), (11, vi_)], (13, .obj .t_clock_Clock) :: (14, .obj .t_api_Msg) :: hT0_⟩)]
def K17.JC21 : Exits U := [(.normal, ⟨177, 15, [(0, .ptr 13 0 0), (1, vi_), (3, vi_), (9, .ptr 14 0 0), (10, .val (.isl .t_api_Tlv)), (53, vi_), (148, vb_)], (13, .obj .t_clock_Clock) :: (14, .obj .t_api_Msg) :: hT0_⟩)]
def K17.JC9 : Exits U := [(.normal, ⟨177, 15, [(0, .ptr 13 0 0), (1, vi_), (3, vi_), (8, .aptr 13 23 42 8 0), (9, .ptr 14 0 0), (10, .val (.isl .t_api_Tlv)), (53, vi_), (62, vb_)], (13, .obj .t_clock_Clock) :: (14, .obj .t_api_Msg) :: hT0_⟩)]
def K17.JC7 : Exits U := [(.normal, ⟨177, 14, [], (13, .obj .t_clock_Clock) :: hT0_⟩),
 (.goto 0, ⟨177, 14, [(0, .ptr 13 0 0)], (13, .obj .t_clock_Clock) :: hT0_⟩)]
def K17.H (cK62 : K62.T) (cK21 : K21.T) (cK26 : K26.T) (cK106 : K106.T) (cK18 : K18.T) (cK108 : K108.T) (cK25 : K25.T) (cK49 : K49.T) (cK22 : K22.T) (cK19 : K19.T) : Hints U := { Γ := (addΓ 83 (K19.sig.native (K19.W cK19)) (addΓ 80 (K22.sig.native (K22.W cK22)) (addΓ 78 (K49.sig.native (K49.W cK49)) (addΓ 79 (K25.sig.native (K25.W cK25)) (addΓ 76 (K108.sig.native (K108.W cK108)) (addΓ 75 (K18.sig.native (K18.W cK18)) (addΓ 74 (K106.sig.native (K106.W cK106)) (addΓ 52 (K26.sig.native (K26.W cK26)) (addΓ 46 (K21.sig.native (K21.W cK21)) (addΓ 73 (K62.sig.native (K62.W cK62)) noΓ)))))))))), ro := 0, base := 14, joinQ := fun b => (bif Nat.beq b 2 then some [(42, vb_)] else (bif Nat.beq b 10 then some [(79, vb_)] else (bif Nat.beq b 13 then some [(99, vb_)] else (bif Nat.beq b 18 then some [(143, vb_)] else none)))), joinR := fun b => (bif Nat.beq b 1 then some K17.JR1 else (bif Nat.beq b 14 then some K17.JR14 else none)), joinC := fun b => (bif Nat.beq b 7 then some K17.JC7 else (bif Nat.beq b 9 then some K17.JC9 else (bif Nat.beq b 21 then some K17.JC21 else none))), gotos := 3, loop := fun b => none }
def K17.gen (cK62 : K62.T) (cK21 : K21.T) (cK26 : K26.T) (cK106 : K106.T) (cK18 : K18.T) (cK108 : K108.T) (cK25 : K25.T) (cK49 : K49.T) (cK22 : K22.T) (cK19 : K19.T) : K17.T := fun n b now h0 g5 g6 g7 g8 g9 g10 g12 =>
 (oelim ((oelim (cK62 b h0.fconf.fDomain) none fun r0 => some ((n, (now, r0.1.2)), (h0, (r0.1.1, (g5, (g6, (g7, (g8, (g9, (g10, (g12, ())))))))))))) none fun r1 => (oelim ((oelim (cK21 r1.1.1 r1.2.1) none fun r2 => (bif r2.1.1 then some (true, ()) else (bif ine r1.1.2.2.2.1 0 then some (true, ()) else some (ieq r1.2.2.1.fSource.fClock r1.2.1.fconf.fClock, ()))))) none fun r3 => (bif r3.1 then some ((), ((clock_Clock.set_fdrops r1.2.1 (iadd .i64 r1.2.1.fdrops 1), r1.2.2.2), ())) else (oelim (cK26 r1.1.1 r1.2.1) none fun r4 => (oelim (cK106 (r1.2.1.fports r4.1.1).fstate) none fun r5 => (bif !r5.1.1 then some ((), ((clock_Clock.set_fdrops r1.2.1 (iadd .i64 r1.2.1.fdrops 1), r1.2.2.2), ())) else (oelim ((bif ieq r1.2.2.1.fType 11 then (oelim (cK18 r4.1.1 r1.2.2.1 r1.1.2.2.1 r1.2.1 r1.2.2.2.2.1 r1.2.2.2.2.2.2.2.2.2.1) none fun r6 => (bif !r6.1.1 then some (.inr ((), (r6.2.1.1, (r1.2.2.2.1, (r6.2.1.2.1, (r1.2.2.2.2.2.1, (r1.2.2.2.2.2.2.1, (r1.2.2.2.2.2.2.2.1, (r1.2.2.2.2.2.2.2.2.1, r6.2.1.2.2))))))))) else some (.inl ((), (r6.2.1.1, (r1.2.2.2.1, (r6.2.1.2.1, (r1.2.2.2.2.2.1, (r1.2.2.2.2.2.2.1, (r1.2.2.2.2.2.2.2.1, (r1.2.2.2.2.2.2.2.2.1, r6.2.1.2.2))))))))))) else (oelim ((bif ieq r1.2.2.1.fType 0 then some ((r1.1.1, (r1.1.2.1, (r4.1.1, (r1.1.2.2.1, (r1.2.2.1.fType, (ieq r1.2.2.1.fType 0, ())))))), r1.2) else some ((r1.1.1, (r1.1.2.1, (r4.1.1, (r1.1.2.2.1, (r1.2.2.1.fType, (ieq r1.2.2.1.fType 8, ())))))), r1.2))) none fun r7 => (bif r7.1.2.2.2.2.2.1 then (oelim ((oelim (cK108 (r7.2.1.fports r7.1.2.2.1).fstate) none fun r8 => (bif r8.1.1 then some (bif ieq r7.2.2.1.fSource.fClock r7.2.1.fparent.fPort.fClock then bif ieq r7.2.2.1.fSource.fPort r7.2.1.fparent.fPort.fPort then true else false else false, ()) else some (false, ())))) none fun r9 => (bif r9.1 then none else some (.inl ((), (r7.2.1, r7.2.2.2))))) else (bif ieq r7.1.2.2.2.2.1 1 then (oelim ((bif ieq (r7.2.1.fports r7.1.2.2.1).fstate 6 then some (!r7.2.1.fconf.fPeer, ()) else some (false, ()))) none fun r10 => (bif r10.1 then (oelim ((oelim (cK25 r7.1.1 r7.2.1) none fun r11 => (oelim (cK49 r7.2.2.1 r11.1.1 r7.1.2.1 r7.2.1.fconf.fLogDelay) none fun r12 => some ((r7.1.1, r12.1.2), (r7.2.1, (r12.1.1, r7.2.2.2)))))) none fun r13 => (bif r13.1.2.1 then (oelim (cK22 r13.1.1 r13.2.2.1 (lnil api_Tlv) false r13.2.1) none fun r14 => some (.inl ((), (r14.2.1.1, r13.2.2.2)))) else some (.inl ((), (r13.2.1, r13.2.2.2))))) else some (.inl ((), (r7.2.1, r7.2.2.2))))) else (bif ieq r7.1.2.2.2.2.1 9 then (oelim ((oelim (cK108 (r7.2.1.fports r7.1.2.2.1).fstate) none fun r15 => (bif r15.1.1 then (bif !r7.2.1.fconf.fPeer then some (bif ieq r7.2.2.1.fSource.fClock r7.2.1.fparent.fPort.fClock then bif ieq r7.2.2.1.fSource.fPort r7.2.1.fparent.fPort.fPort then true else false else false, ()) else some (false, ())) else some (false, ())))) none fun r16 => (bif r16.1 then none else some (.inl ((), (r7.2.1, r7.2.2.2))))) else (oelim ((bif ieq r7.1.2.2.2.2.1 2 then some ((r7.1.1, (r7.1.2.1, (r7.1.2.2.2.1, (r7.1.2.2.2.2.1, (ieq r7.1.2.2.2.2.1 2, ()))))), r7.2) else (bif ieq r7.1.2.2.2.2.1 3 then some ((r7.1.1, (r7.1.2.1, (r7.1.2.2.2.1, (r7.1.2.2.2.2.1, (ieq r7.1.2.2.2.2.1 3, ()))))), r7.2) else some ((r7.1.1, (r7.1.2.1, (r7.1.2.2.2.1, (r7.1.2.2.2.2.1, (ieq r7.1.2.2.2.2.1 10, ()))))), r7.2)))) none fun r17 => (bif r17.1.2.2.2.2.1 then (bif r17.2.1.fconf.fPeer then none else some (.inl ((), (r17.2.1, r17.2.2.2)))) else (bif ieq r17.1.2.2.2.1 13 then (oelim (cK19 r17.1.1 r17.2.2.1 r17.1.2.2.1 r17.1.2.1 r17.2.1 r17.2.2.2.1 r17.2.2.2.2.1 r17.2.2.2.2.2.1 r17.2.2.2.2.2.2.1 r17.2.2.2.2.2.2.2.1 r17.2.2.2.2.2.2.2.2.1 r17.2.2.2.2.2.2.2.2.2.1) none fun r18 => some (.inl ((), r18.2.1))) else some (.inl ((), (r17.2.1, r17.2.2.2)))))))))))) none fun r19 => (selim r19 (fun r20 => some ((), (r20.2, ()))) (fun r20 => some ((), ((clock_Clock.set_fdrops r20.2.1 (iadd .i64 r20.2.1.fdrops 1), r20.2.2), ())))))))))))
def K17 : K17.T := K17.gen K62 K21 K26 K106 K18 K108 K25 K49 K22 K19
theorem K17.eq (cK62 : K62.T) (cK21 : K21.T) (cK26 : K26.T) (cK106 : K106.T) (cK18 : K18.T) (cK108 : K108.T) (cK25 : K25.T) (cK49 : K49.T) (cK22 : K22.T) (cK19 : K19.T) : EqA K17.sig (K17.H cK62 cK21 cK26 cK106 cK18 cK108 cK25 cK49 cK22 cK19) Tryz.f45 6 (K17.W (K17.gen cK62 cK21 cK26 cK106 cK18 cK108 cK25 cK49 cK22 cK19)) := by intro a x; kernel_rfl
theorem K17.loops : Z5 K17.C = [(.scope K17.B0)] := by kernel_rfl
abbrev K17.h := K17.H K62 K21 K26 K106 K18 K108 K25 K49 K22 K19
theorem K17.hints : HintsOK U Tryz.prog K17.h (fun c => c ∈ [(.scope K17.B0)]) := (hq (Z0 (Z0 (Z0 (Z0 (Z0 (Z0 (Z0 (Z0 (Z0 (Z0 Z4 K62.ok) K21.ok) K26.ok) K106.ok) K18.ok) K108.ok) K25.ok) K49.ok) K22.ok) K19.ok) (ZH Z1) (fun _ => rfl) (fun _ => rfl))
theorem K17.ok : Z3 U Tryz.prog 45 (K17.sig.native (K17.W K17)) :=
 Sig.ok K17.sig (K17.W K17) U_pure (Hn := K17.h) (code := K17.C) (gos := 6) K17.hints Tryz.func45 (by kernel_rfl) (by kernel_rfl) (fun b h => by rw [K17.loops] at h; exact h) rfl rfl (by decide) (K17.eq K62 K21 K26 K106 K18 K108 K25 K49 K22 K19) (by decide)
def K9.sig : Sig U := ⟨[.ptr, .data .t_api_Event], [.obj .t_clock_Clock, fm5_, fm6_, fm7_, fm8_, fm9_, fm10_, .fam 12 (.map true false .t_api_PortID .l_u64)], 0, [.isl .t_api_Out], false, []⟩
abbrev K9.T : Type := (api_Event) → (clock_Clock) → (Fm servo_Servo) → (Fm foreign_Table) → (Fm delay_Exchange) → (Fm peer_Exchange) → (Fm median_Filter) → (Fm seq_Match) → (Nat × (Nat → List (api_PortID × List (Int)))) → Option (((List (api_Out)) × Unit) × (clock_Clock × qT0_) × Unit)
def K9.W (f : K9.T) : K9.sig.F := fun a x => f a.2.1 x.1 x.2.1 x.2.2.1 x.2.2.2.1 x.2.2.2.2.1 x.2.2.2.2.2.1 x.2.2.2.2.2.2.1 x.2.2.2.2.2.2.2.1
def K9.JR20 : Exits U := [(.normal, ⟨107, 14, [(0, .ptr 13 0 0)], (13, .obj .t_clock_Clock) :: hT0_⟩)]
def K9.JR19 : Exits U := [(.normal, ⟨107, 14, [(0, .ptr 13 0 0)], (13, .obj .t_clock_Clock) :: hT0_⟩)]
def K9.JR18 : Exits U := [(.normal, ⟨107, 14, [(0, .ptr 13 0 0)], (13, .obj .t_clock_Clock) :: hT0_⟩)]
def K9.JR17 : Exits U := [(.normal, ⟨107, 14, [(0, .ptr 13 0 0)], (13, .obj .t_clock_Clock) :: hT0_⟩)]
def K9.JR15 : Exits U := [(.normal, ⟨107, 15, [(0, .ptr 13 0 0), (3, .ptr 14 0 0)], (13, .obj .t_clock_Clock) :: (14, .obj .t_api_Event) :: hT0_⟩)]
def K9.JR12 : Exits U := [(.normal, ⟨107, 14, [(0, .ptr 13 0 0)], (13, .obj .t_clock_Clock) :: hT0_⟩)]
def K9.JR11 : Exits U := [(.normal, ⟨107, 14, [(0, .ptr 13 0 0)], (13, .obj .t_clock_Clock) :: hT0_⟩)]
def K9.JR1 : Exits U := [(.normal, ⟨107, 15, [(0, .ptr 13 0 0), (3, .ptr 14 0 0)], (13, .obj .t_clock_Clock) :: (14, .obj .t_api_Event) :: hT0_⟩)]
def K9.JC14 : Exits U := [(.normal, ⟨107, 14, [(0, .ptr 13 0 0)], (13, .obj .t_clock_Clock) :: hT0_⟩)]
def K9.H (cK28 : K28.T) (cK17 : K17.T) (cK21 : K21.T) (cK45 : K45.T) (cK13 : K13.T) (cK29 : K29.T) : Hints U := { Γ := (addΓ 50 (K29.sig.native (K29.W cK29)) (addΓ 49 (K13.sig.native (K13.W cK13)) (addΓ 48 (K45.sig.native (K45.W cK45)) (addΓ 46 (K21.sig.native (K21.W cK21)) (addΓ 45 (K17.sig.native (K17.W cK17)) (addΓ 44 (K28.sig.native (K28.W cK28)) noΓ)))))), ro := 0, base := 14, joinQ := fun b => (bif Nat.beq b 16 then some [(83, vb_)] else none), joinR := fun b => (bif Nat.beq b 1 then some K9.JR1 else (bif Nat.beq b 11 then some K9.JR11 else (bif Nat.beq b 12 then some K9.JR12 else (bif Nat.beq b 15 then some K9.JR15 else (bif Nat.beq b 17 then some K9.JR17 else (bif Nat.beq b 18 then some K9.JR18 else (bif Nat.beq b 19 then some K9.JR19 else (bif Nat.beq b 20 then some K9.JR20 else none)))))))), joinC := fun b => (bif Nat.beq b 14 then some K9.JC14 else none) }
def K9.gen (cK28 : K28.T) (cK17 : K17.T) (cK21 : K21.T) (cK45 : K45.T) (cK13 : K13.T) (cK29 : K29.T) : K9.T := fun e h0 g5 g6 g7 g8 g9 g10 g12 =>
 (bif ieq e.fKind 1 then (oelim ((oelim (cK28 (Z7 true 0 (Z7 false e.fNow 4000000000000000)) (clock_Clock.set_fouts h0 (lnil api_Out)) g6 g7 g8 g9 g10 g12) none fun r0 => some ((), (r0.2.1.1, (g5, r0.2.1.2))))) none fun r1 => some ((r1.2.1.fouts, ()), (r1.2, ()))) else (bif ieq e.fKind 2 then (oelim ((oelim (cK17 e.fPort e.fBytes (Z7 true 0 (Z7 false e.fNow 4000000000000000)) (clock_Clock.set_fouts h0 (lnil api_Out)) g5 g6 g7 g8 g9 g10 g12) none fun r2 => some ((), r2.2.1))) none fun r3 => some ((r3.2.1.fouts, ()), (r3.2, ()))) else (bif ieq e.fKind 3 then (oelim (cK21 e.fPort (clock_Clock.set_fouts h0 (lnil api_Out))) none fun r4 => (oelim ((bif !r4.1.1 then none else some ((), (clock_Clock.set_fouts h0 (lnil api_Out), (g5, (g6, (g7, (g8, (g9, (g10, (g12, ()))))))))))) none fun r5 => some ((r5.2.1.fouts, ()), (r5.2, ())))) else (bif ieq e.fKind 4 then (oelim ((oelim (cK45 h0.fconf) none fun r6 => (bif ine r6.1.1 0 then some (true, ()) else (bif ine h0.fconf.fClock h0.fconf.fClock then some (true, ()) else some (ine h0.fconf.fPorts h0.fconf.fPorts, ()))))) none fun r7 => (bif r7.1 then some ((lnil api_Out, ()), ((clock_Clock.set_fouts (clock_Clock.set_fdrops h0 (iadd .i64 h0.fdrops 1)) (lnil api_Out), (g5, (g6, (g7, (g8, (g9, (g10, (g12, ())))))))), ())) else (oelim ((oelim (cK13 h0.fconf (clock_Clock.set_fouts h0 (lnil api_Out)) g5 g6 g7 g8 g9 g10 g12) none fun r8 => some ((), r8.2.1))) none fun r9 => some ((r9.2.1.fouts, ()), (r9.2, ()))))) else (bif ieq e.fKind 5 then (oelim ((oelim (cK45 e.fConf) none fun r10 => (bif ine r10.1.1 0 then some (true, ()) else (bif ine e.fConf.fClock h0.fconf.fClock then some (true, ()) else some (ine e.fConf.fPorts h0.fconf.fPorts, ()))))) none fun r11 => (bif r11.1 then some ((lnil api_Out, ()), ((clock_Clock.set_fouts (clock_Clock.set_fdrops h0 (iadd .i64 h0.fdrops 1)) (lnil api_Out), (g5, (g6, (g7, (g8, (g9, (g10, (g12, ())))))))), ())) else (oelim ((oelim (cK13 e.fConf (clock_Clock.set_fouts h0 (lnil api_Out)) g5 g6 g7 g8 g9 g10 g12) none fun r12 => some ((), r12.2.1))) none fun r13 => some ((r13.2.1.fouts, ()), (r13.2, ()))))) else (bif ieq e.fKind 6 then (oelim ((oelim (cK29 e.fPort 2 (clock_Clock.set_fouts h0 (lnil api_Out)) g6 g7 g8 g10 g12) none fun r14 => some ((), (r14.2.1.1, (g5, (r14.2.1.2.1, (r14.2.1.2.2.1, (r14.2.1.2.2.2.1, (g9, r14.2.1.2.2.2.2))))))))) none fun r15 => some ((r15.2.1.fouts, ()), (r15.2, ()))) else (bif ieq e.fKind 7 then (oelim ((oelim (cK29 e.fPort 3 (clock_Clock.set_fouts h0 (lnil api_Out)) g6 g7 g8 g10 g12) none fun r16 => some ((), (r16.2.1.1, (g5, (r16.2.1.2.1, (r16.2.1.2.2.1, (r16.2.1.2.2.2.1, (g9, r16.2.1.2.2.2.2))))))))) none fun r17 => some ((r17.2.1.fouts, ()), (r17.2, ()))) else some ((lnil api_Out, ()), ((clock_Clock.set_fouts h0 (lnil api_Out), (g5, (g6, (g7, (g8, (g9, (g10, (g12, ())))))))), ())))))))))
def K9 : K9.T := K9.gen K28 K17 K21 K45 K13 K29
theorem K9.eq (cK28 : K28.T) (cK17 : K17.T) (cK21 : K21.T) (cK45 : K45.T) (cK13 : K13.T) (cK29 : K29.T) : EqA K9.sig (K9.H cK28 cK17 cK21 cK45 cK13 cK29) Tryz.f19 6 (K9.W (K9.gen cK28 cK17 cK21 cK45 cK13 cK29)) := by intro a x; kernel_rfl
abbrev K9.h := K9.H K28 K17 K21 K45 K13 K29
theorem K9.hints : HintsOK U Tryz.prog K9.h (fun c => c ∈ ([] : List Code)) := (hq (Z0 (Z0 (Z0 (Z0 (Z0 (Z0 Z4 K28.ok) K17.ok) K21.ok) K45.ok) K13.ok) K29.ok) Z1 (fun _ => rfl) (fun _ => rfl))
theorem K9.ok : Z3 U Tryz.prog 19 (K9.sig.native (K9.W K9)) :=
 Sig.ok K9.sig (K9.W K9) U_pure (Hn := K9.h) (gos := 6) K9.hints Tryz.func19 rfl (by kernel_rfl) (fun b h => h) rfl rfl (by decide) (K9.eq K28 K17 K21 K45 K13 K29) (by decide)
def K81.sig : Sig U := ⟨[.ptr, .int .i64], [.obj .t_clock_Clock, fm5_, fm6_, fm7_, fm8_, fm9_, fm10_, .fam 12 (.map true false .t_api_PortID .l_u64)], 0, [.isl .t_api_Out], false, []⟩
abbrev K81.T : Type := (Int) → (clock_Clock) → (Fm servo_Servo) → (Fm foreign_Table) → (Fm delay_Exchange) → (Fm peer_Exchange) → (Fm median_Filter) → (Fm seq_Match) → (Nat × (Nat → List (api_PortID × List (Int)))) → Option (((List (api_Out)) × Unit) × (clock_Clock × qT0_) × Unit)
def K81.W (f : K81.T) : K81.sig.F := fun a x => f a.2.1 x.1 x.2.1 x.2.2.1 x.2.2.2.1 x.2.2.2.2.1 x.2.2.2.2.2.1 x.2.2.2.2.2.2.1 x.2.2.2.2.2.2.2.1
def K81.L0 : Shape U := ⟨18, 15, [(0, .ptr 13 0 0), (1, vi_), (5, .own .t_api_Out 14), (6, vi_)], (13, .obj .t_clock_Clock) :: (14, .tok) :: hT0_⟩
def K81.X0 : Exits U := [(.exit 0, ⟨18, 15, [(5, .own .t_api_Out 14)], (13, .obj .t_clock_Clock) :: (14, .tok) :: hT0_⟩)]
abbrev K81.l0T : Type := ((Int × (List (api_Out)) × Int × Unit) × (clock_Clock × qT0_)) → Option ((((List (api_Out)) × Unit) × (clock_Clock × qT0_)))
def K81.C : Code := match Tryz.f16.body with | some c => c | none => .skip
def K81.B0 : Code := match (Z5 K81.C).getD 0 .skip with | .loop b => b | .scope b => b | _ => .skip
def K81.JR5 : Exits U := [(.normal, ⟨18, 15, [(0, .ptr 13 0 0), (1, vi_), (5, .own .t_api_Out 14), (6, vi_)], (13, .obj .t_clock_Clock) :: (14, .tok) :: hT0_⟩)]
def K81.H (cK9 : K9.T) (l0 : K81.l0T) : Hints U := { Γ := (addΓ 19 (K9.sig.native (K9.W cK9)) noΓ), ro := 0, base := 14, joinR := fun b => (bif Nat.beq b 5 then some K81.JR5 else none), loop := fun b => (bif Nat.beq b 3 then some (Zc (0, 14) K81.L0 K81.X0 l0) else none) }
def K81.step0 (cK9 : K9.T) (a : (Int × (List (api_Out)) × Int × Unit) × (clock_Clock × qT0_)) : Option (((Int × (List (api_Out)) × Int × Unit) × (clock_Clock × qT0_)) ⊕ ((((List (api_Out)) × Unit) × (clock_Clock × qT0_)))) :=
 (bif ilt a.1.2.2.1 a.1.1 then (oelim ((oelim (cK9 (api_Event.mk 1 0 1000 0 0 (ByteArray.mk (List.toArray (lnil UInt8))) z7_) a.2.1 a.2.2.1 a.2.2.2.1 a.2.2.2.2.1 a.2.2.2.2.2.1 a.2.2.2.2.2.2.1 a.2.2.2.2.2.2.2.1 a.2.2.2.2.2.2.2.2.1) none fun r0 => (bif room (List.length a.1.2.1 + List.length r0.1.1) 64 then some ((a.1.1, (a.1.2.1 ++ r0.1.1, a.1.2.2)), r0.2.1) else none))) none fun r1 => some (.inl ((r1.1.1, (r1.1.2.1, (iadd .i64 r1.1.2.2.1 1, ()))), r1.2))) else some (.inr ((a.1.2.1, ()), a.2)))
def K81.F0 : K81.l0T := fun a => Za (1000000 + (a.1.2.1.length)) (K81.step0 K9) a
def K81.gen (cK9 : K9.T) (l0 : K81.l0T) : K81.T := fun n h0 g5 g6 g7 g8 g9 g10 g12 =>
 (oelim (l0 ((n, lnil api_Out, (0 : Int), ()), h0, g5, g6, g7, g8, g9, g10, g12, ())) none fun r0 => some (r0.1, (r0.2, ())))
def K81 : K81.T := K81.gen K9 K81.F0
theorem K81.seq0 (cK9 : K9.T) (l0 : K81.l0T) (a : K81.L0.T) : run Tryz.prog (K81.H cK9 l0) 6 (Option (K81.L0.T ⊕ ExT K81.X0)) none K81.B0 (K81.L0.enc a) (Zs (0, 14) K81.L0 K81.X0) = K81.step0 cK9 a := by kernel_rfl
theorem K81.inner0 : Z5 K81.B0 = ([] : List Code) := by kernel_rfl
abbrev K81.h := K81.H K9 K81.F0
theorem K81.lok0 : Ze U Tryz.prog K81.h.ro K81.h.base K81.B0 (Zc (0, 14) K81.L0 K81.X0 K81.F0) :=
 Zh (Hn := K81.h) U_ok U_pure (Zl (hq (Z0 Z4 K9.ok) Z1 (fun _ => rfl) (fun _ => rfl)) 6) (fun b h => by rw [K81.inner0] at h; exact h) (fun _ => rfl) (K81.seq0 K9 K81.F0)
theorem K81.eq (cK9 : K9.T) (l0 : K81.l0T) : EqA K81.sig (K81.H cK9 l0) Tryz.f16 6 (K81.W (K81.gen cK9 l0)) := by intro a x; kernel_rfl
theorem K81.loops : Z5 K81.C = [(.loop K81.B0)] := by kernel_rfl
theorem K81.hints : HintsOK U Tryz.prog K81.h (fun c => c ∈ [(.loop K81.B0)]) := (hq (Z0 Z4 K9.ok) (Zb (by kernel_rfl) K81.lok0 Z1) (fun _ => rfl) (fun _ => rfl))
theorem K81.ok : Z3 U Tryz.prog 16 (K81.sig.native (K81.W K81)) :=
 Sig.ok K81.sig (K81.W K81) U_pure (Hn := K81.h) (code := K81.C) (gos := 6) K81.hints Tryz.func16 (by kernel_rfl) (by kernel_rfl) (fun b h => by rw [K81.loops] at h; exact h) rfl rfl (by decide) (K81.eq K9 K81.F0) (by decide)
def K75.sig : Sig U := ⟨[.int .i64, .int .i64], [], 0, [.int .i64], false, []⟩
abbrev K75.T : Type := (Int) → (Int) → Option ((Int × Unit) × Unit × Unit)
def K75.W (f : K75.T) : K75.sig.F := fun a x => f a.1 a.2.1
def K75.JC3 : Exits U := [(.normal, ⟨15, 13, [(5, vi_)], []⟩)]
def K75.H : Hints U := { Γ := noΓ, ro := 0, base := 13, joinC := fun b => (bif Nat.beq b 3 then some K75.JC3 else none) }
def K75.gen : K75.T := fun v n =>
 (bif ine n 0 then (oelim ((bif ilt (irem v n) 0 then some ((iadd .i64 (irem v n) n, ()), ()) else some ((irem v n, ()), ()))) none fun r0 => some (r0.1, ((), ()))) else none)
def K75 : K75.T := K75.gen
theorem K75.eq : EqA K75.sig (K75.H) Tryz.f17 6 (K75.W (K75.gen)) := by intro a x; kernel_rfl
theorem K75.hints : HintsOK U Tryz.prog (K75.H) (fun c => c ∈ ([] : List Code)) := (hq Z4 Z1 (fun _ => rfl) (fun _ => rfl))
theorem K75.ok : Z3 U Tryz.prog 17 (K75.sig.native (K75.W K75)) :=
 Sig.ok K75.sig (K75.W (K75.gen)) U_pure (Hn := (K75.H)) (gos := 6) K75.hints Tryz.func17 rfl (by kernel_rfl) (fun b h => h) rfl rfl (by decide) (K75.eq) (by decide)
def K80.sig : Sig U := ⟨[.data .t_api_PortID, .data .t_api_PortID, .int .i64, .int .i64, .int .i64, .str, .int .i64], [], 0, [.str], false, []⟩
abbrev K80.T : Type := (api_PortID) → (api_PortID) → (Int) → (Int) → (Int) → (ByteArray) → (Int) → Option ((ByteArray × Unit) × Unit × Unit)
def K80.W (f : K80.T) : K80.sig.F := fun a x => f a.1 a.2.1 a.2.2.1 a.2.2.2.1 a.2.2.2.2.1 a.2.2.2.2.2.1 a.2.2.2.2.2.2.1
def K80.H (cK134 : K134.T) (cK63 : K63.T) : Hints U := { Γ := (addΓ 33 (K63.sig.native (K63.W cK63)) (addΓ 51 (K134.sig.native (K134.W cK134)) noΓ)), ro := 0, base := 13 }
def K80.gen (cK134 : K134.T) (cK63 : K63.T) : K80.T := fun from_0 target hops action id data domain =>
 (oelim (cK134 id data) none fun r0 => (oelim (cK63 (api_Msg.mk 13 domain 0 0 from_0 9 0 0 target 0 0 z1_ 0 0 0 0 hops hops action) (r0.1.1 :: lnil api_Tlv)) none fun r1 => some ((r1.1.1, ()), ((), ()))))
def K80 : K80.T := K80.gen K134 K63
theorem K80.eq (cK134 : K134.T) (cK63 : K63.T) : EqA K80.sig (K80.H cK134 cK63) Tryz.f20 6 (K80.W (K80.gen cK134 cK63)) := by intro a x; kernel_rfl
abbrev K80.h := K80.H K134 K63
theorem K80.hints : HintsOK U Tryz.prog K80.h (fun c => c ∈ ([] : List Code)) := (hq (Z0 (Z0 Z4 K134.ok) K63.ok) Z1 (fun _ => rfl) (fun _ => rfl))
theorem K80.ok : Z3 U Tryz.prog 20 (K80.sig.native (K80.W K80)) :=
 Sig.ok K80.sig (K80.W K80) U_pure (Hn := K80.h) (gos := 6) K80.hints Tryz.func20 rfl (by kernel_rfl) (fun b h => h) rfl rfl (by decide) (K80.eq K134 K63) (by decide)
def K77.sig : Sig U := ⟨[.int .i64, .ptr, .ptr, .ptr], [.obj .p_t_clock_Clock, .obj .int, .obj .int, fm0_, fm5_, fm6_, fm7_, fm8_, fm9_, fm10_, .fam 12 (.map true false .t_api_PortID .l_u64)], 0, [.int .i64], false, []⟩
abbrev K77.T : Type := (Int) → (Option Nat) → (Int) → (Int) → (Fm clock_Clock) → (Fm servo_Servo) → (Fm foreign_Table) → (Fm delay_Exchange) → (Fm peer_Exchange) → (Fm median_Filter) → (Fm seq_Match) → (Nat × (Nat → List (api_PortID × List (Int)))) → Option ((Int × Unit) × ((Option Nat) × Int × Int × qT1_) × Unit)
def K77.W (f : K77.T) : K77.sig.F := fun a x => f a.1 x.1 x.2.1 x.2.2.1 x.2.2.2.1 x.2.2.2.2.1 x.2.2.2.2.2.1 x.2.2.2.2.2.2.1 x.2.2.2.2.2.2.2.1 x.2.2.2.2.2.2.2.2.1 x.2.2.2.2.2.2.2.2.2.1 x.2.2.2.2.2.2.2.2.2.2.1
def K77.H (cK80 : K80.T) (cK9 : K9.T) : Hints U := { Γ := (addΓ 19 (K9.sig.native (K9.W cK9)) (addΓ 20 (K80.sig.native (K80.W cK80)) noΓ)), ro := 0, base := 16 }
def K77.gen (cK80 : K80.T) (cK9 : K9.T) : K77.T := fun id h0 h1 h2 g0 g5 g6 g7 g8 g9 g10 g12 =>
 (oelim (h0) none fun r0 => (oelim (cK80 (api_PortID.mk 9 1) (api_PortID.mk 50 h2) 0 3 id (ByteArray.mk (List.toArray (lnil UInt8))) 0) none fun r1 => (oelim (cK9 (api_Event.mk 2 h1 6 0 0 r1.1.1 z7_) (g0.2 r0) g5 g6 g7 g8 g9 g10 g12) none fun r2 => some ((ofN (List.length r2.1.1), ()), ((h0, (h1, (h2, ((g0.1, fset g0.2 r0 r2.2.1.1), r2.2.1.2)))), ())))))
def K77 : K77.T := K77.gen K80 K9
theorem K77.eq (cK80 : K80.T) (cK9 : K9.T) : EqA K77.sig (K77.H cK80 cK9) Tryz.f18 6 (K77.W (K77.gen cK80 cK9)) := by intro a x; kernel_rfl
abbrev K77.h := K77.H K80 K9
theorem K77.hints : HintsOK U Tryz.prog K77.h (fun c => c ∈ ([] : List Code)) := (hq (Z0 (Z0 Z4 K80.ok) K9.ok) Z1 (fun _ => rfl) (fun _ => rfl))
theorem K77.ok : Z3 U Tryz.prog 18 (K77.sig.native (K77.W K77)) :=
 Sig.ok K77.sig (K77.W K77) U_pure (Hn := K77.h) (gos := 6) K77.hints Tryz.func18 rfl (by kernel_rfl) (fun b h => h) rfl rfl (by decide) (K77.eq K80 K9) (by decide)
def K78.sig : Sig U := ⟨[], [fm0_, fm5_, fm6_, fm7_, fm8_, fm9_, fm10_, .fam 12 (.map true false .t_api_PortID .l_u64)], 0, [.bool], false, []⟩
abbrev K78.T : Type := (Fm clock_Clock) → (Fm servo_Servo) → (Fm foreign_Table) → (Fm delay_Exchange) → (Fm peer_Exchange) → (Fm median_Filter) → (Fm seq_Match) → (Nat × (Nat → List (api_PortID × List (Int)))) → Option ((Bool × Unit) × (qT1_) × Unit)
def K78.W (f : K78.T) : K78.sig.F := fun a x => f x.1 x.2.1 x.2.2.1 x.2.2.2.1 x.2.2.2.2.1 x.2.2.2.2.2.1 x.2.2.2.2.2.2.1 x.2.2.2.2.2.2.2.1
def K78.L0 : Shape U := ⟨40, 13, [(1, .val (.ref 0)), (3, vi_), (4, vi_)], hT5_⟩
def K78.X0 : Exits U := [(.exit 0, ⟨40, 13, [(1, .val (.ref 0)), (3, vi_)], hT5_⟩)]
abbrev K78.l0T : Type := (((Option Nat) × Int × Int × Unit) × (qT1_)) → Option ((((Option Nat) × Int × Unit) × (qT1_)))
def K78.C : Code := match Tryz.f22.body with | some c => c | none => .skip
def K78.B0 : Code := match (Z5 K78.C).getD 0 .skip with | .loop b => b | .scope b => b | _ => .skip
def K78.H (cK46 : K46.T) (cK30 : K30.T) (cK8 : K8.T) (cK9 : K9.T) (l0 : K78.l0T) : Hints U := { Γ := (addΓ 19 (K9.sig.native (K9.W cK9)) (addΓ 21 (K8.sig.native (K8.W cK8)) (addΓ 24 (K30.sig.native (K30.W cK30)) (addΓ 23 (K46.sig.native (K46.W cK46)) noΓ)))), ro := 0, base := 13, joinQ := fun b => (bif Nat.beq b 2 then some [(20, vb_)] else none), loop := fun b => (bif Nat.beq b 7 then some (Zc (0, 13) K78.L0 K78.X0 l0) else none) }
def K78.step0 (cK46 : K46.T) (cK30 : K30.T) (cK8 : K8.T) (cK9 : K9.T) (a : ((Option Nat) × Int × Int × Unit) × (qT1_)) : Option ((((Option Nat) × Int × Int × Unit) × (qT1_)) ⊕ ((((Option Nat) × Int × Unit) × (qT1_)))) :=
 (bif ilt a.1.2.2.1 48 then (oelim ((oelim (a.1.1) none fun r0 => (oelim (cK9 (api_Event.mk 1 0 0 0 0 (ByteArray.mk (List.toArray (lnil UInt8))) z7_) (a.2.1.2 r0) a.2.2.1 a.2.2.2.1 a.2.2.2.2.1 a.2.2.2.2.2.1 a.2.2.2.2.2.2.1 a.2.2.2.2.2.2.2.1 a.2.2.2.2.2.2.2.2.1) none fun r1 => some (r0, r1)))) none fun r2 => some (.inl ((a.1.1, (a.1.2.1, (iadd .i64 a.1.2.2.1 1, ()))), ((a.2.1.1, fset a.2.1.2 r2.1 r2.2.2.1.1), r2.2.2.1.2)))) else some (.inr ((a.1.1, (a.1.2.1, ())), a.2)))
def K78.F0 : K78.l0T := fun a => Za (1000000) (K78.step0 K46 K30 K8 K9) a
def K78.gen (cK46 : K46.T) (cK30 : K30.T) (cK8 : K8.T) (cK9 : K9.T) (l0 : K78.l0T) : K78.T := fun g0 g5 g6 g7 g8 g9 g10 g12 =>
 (oelim (cK46 1) none fun r0 => (oelim (cK30 r0.1.1 g0 g5 g6 g7 g8 g9 g10 g12) none fun r1 => (oelim ((bif ine r1.1.2.1 0 then some (true, ()) else (bif !Option.isSome r1.1.1 then some (true, ()) else (oelim ((oelim (r1.1.1) none fun r2 => (oelim (cK8 1 (r1.2.1.1.2 r2)) none fun r3 => some (r2, r3)))) none fun r4 => some (ine r4.2.1.1 1, ()))))) none fun r5 => (bif r5.1 then some ((false, ()), r1.2) else (oelim ((oelim (r1.1.1) none fun r6 => (oelim (cK9 (api_Event.mk 1 0 0 0 0 (ByteArray.mk (List.toArray (lnil UInt8))) z7_) (r1.2.1.1.2 r6) r1.2.1.2.1 r1.2.1.2.2.1 r1.2.1.2.2.2.1 r1.2.1.2.2.2.2.1 r1.2.1.2.2.2.2.2.1 r1.2.1.2.2.2.2.2.2.1 r1.2.1.2.2.2.2.2.2.2.1) none fun r7 => some (r6, r7)))) none fun r8 => (oelim ((oelim (r1.1.1) none fun r9 => (oelim (cK8 1 (fset r1.2.1.1.2 r8.1 r8.2.2.1.1 r9)) none fun r10 => some (r9, r10)))) none fun r11 => (oelim (l0 ((r1.1.1, r11.2.1.1, (0 : Int), ()), (r1.2.1.1.1, fset r1.2.1.1.2 r8.1 r8.2.2.1.1), r8.2.2.1.2)) none fun r12 => (bif ieq r12.1.2.1 4 then (oelim ((oelim (r12.1.1) none fun r13 => (oelim (cK8 1 (r12.2.1.2 r13)) none fun r14 => some (r13, r14)))) none fun r15 => some ((ieq r15.2.1.1 6, ()), (r12.2, ()))) else some ((false, ()), (r12.2, ()))))))))))
def K78 : K78.T := K78.gen K46 K30 K8 K9 K78.F0
def K78.A : Option Unit := Z60 (K78 (0, fun _ => U.dft .t_clock_Clock) (0, fun _ => U.dft .t_servo_Servo) (0, fun _ => U.dft .t_foreign_Table) (0, fun _ => U.dft .t_delay_Exchange) (0, fun _ => U.dft .t_peer_Exchange) (0, fun _ => U.dft .t_median_Filter) (0, fun _ => U.dft .t_seq_Match) (0, fun _ => []))
theorem K78.seq0 (cK46 : K46.T) (cK30 : K30.T) (cK8 : K8.T) (cK9 : K9.T) (l0 : K78.l0T) (a : K78.L0.T) : run Tryz.prog (K78.H cK46 cK30 cK8 cK9 l0) 6 (Option (K78.L0.T ⊕ ExT K78.X0)) none K78.B0 (K78.L0.enc a) (Zs (0, 13) K78.L0 K78.X0) = K78.step0 cK46 cK30 cK8 cK9 a := by kernel_rfl
theorem K78.inner0 : Z5 K78.B0 = ([] : List Code) := by kernel_rfl
abbrev K78.h := K78.H K46 K30 K8 K9 K78.F0
theorem K78.lok0 : Ze U Tryz.prog K78.h.ro K78.h.base K78.B0 (Zc (0, 13) K78.L0 K78.X0 K78.F0) :=
 Zh (Hn := K78.h) U_ok U_pure (Zl (hq (Z0 (Z0 (Z0 (Z0 Z4 K46.ok) K30.ok) K8.ok) K9.ok) Z1 (fun _ => rfl) (fun _ => rfl)) 6) (fun b h => by rw [K78.inner0] at h; exact h) (fun _ => rfl) (K78.seq0 K46 K30 K8 K9 K78.F0)
theorem K78.eq (cK46 : K46.T) (cK30 : K30.T) (cK8 : K8.T) (cK9 : K9.T) (l0 : K78.l0T) : EqA K78.sig (K78.H cK46 cK30 cK8 cK9 l0) Tryz.f22 6 (K78.W (K78.gen cK46 cK30 cK8 cK9 l0)) := by intro a x; kernel_rfl
theorem K78.loops : Z5 K78.C = [(.loop K78.B0)] := by kernel_rfl
theorem K78.hints : HintsOK U Tryz.prog K78.h (fun c => c ∈ [(.loop K78.B0)]) := (hq (Z0 (Z0 (Z0 (Z0 Z4 K46.ok) K30.ok) K8.ok) K9.ok) (Zb (by kernel_rfl) K78.lok0 Z1) (fun _ => rfl) (fun _ => rfl))
theorem K78.okA : Z3 U Tryz.prog 22 (Z5k K78.A) :=
 Z8M U_ok (fs := [fm0_, fm5_, fm6_, fm7_, fm8_, fm9_, fm10_, .fam 12 (.map true false .t_api_PortID .l_u64)]) (code := K78.C) (gos := 6) K78.hints Tryz.func22 (by kernel_rfl) (by kernel_rfl) (fun b h => by rw [K78.loops] at h; exact h) (fun h => let ⟨y, hy⟩ := Z81 h; ⟨y, (K78.eq K46 K30 K8 K9 K78.F0 () (fam0 (U := U) [fm0_, fm5_, fm6_, fm7_, fm8_, fm9_, fm10_, .fam 12 (.map true false .t_api_PortID .l_u64)])).trans hy⟩) rfl rfl (by decide) (by decide)
def K76.sig : Sig U := ⟨[.int .i64, .int .i64], [fm0_, fm5_, fm6_, fm7_, fm8_, fm9_, fm10_, .fam 12 (.map true false .t_api_PortID .l_u64)], 0, [.bool], false, []⟩
abbrev K76.T : Type := (Int) → (Int) → (Fm clock_Clock) → (Fm servo_Servo) → (Fm foreign_Table) → (Fm delay_Exchange) → (Fm peer_Exchange) → (Fm median_Filter) → (Fm seq_Match) → (Nat × (Nat → List (api_PortID × List (Int)))) → Option ((Bool × Unit) × (qT1_) × Unit)
def K76.W (f : K76.T) : K76.sig.F := fun a x => f a.1 a.2.1 x.1 x.2.1 x.2.2.1 x.2.2.2.1 x.2.2.2.2.1 x.2.2.2.2.2.1 x.2.2.2.2.2.2.1 x.2.2.2.2.2.2.2.1
def K76.L0 : Shape U := ⟨85, 16, [(5, .ptr 13 0 0), (6, .ptr 14 0 0), (7, .ptr 15 0 0), (8, .clo 18 [(13, 0, 0), (15, 0, 0), (14, 0, 0)]), (9, .val (.isl .t_api_Out)), (10, vi_)], (13, .obj .p_t_clock_Clock) :: (14, .obj .int) :: (15, .obj .int) :: hT5_⟩
def K76.X0 : Exits U := [(.exit 0, ⟨85, 16, [(5, .ptr 13 0 0), (6, .ptr 14 0 0), (7, .ptr 15 0 0), (8, .clo 18 [(13, 0, 0), (15, 0, 0), (14, 0, 0)]), (9, .val (.isl .t_api_Out))], (13, .obj .p_t_clock_Clock) :: (14, .obj .int) :: (15, .obj .int) :: hT5_⟩),
 (.ret, ⟨85, 13, [(4, vb_)], hT5_⟩)]
abbrev K76.l0T : Type := (((List (api_Out)) × Int × Unit) × ((Option Nat) × Int × Int × qT1_)) → Option ((((List (api_Out)) × Unit) × ((Option Nat) × Int × Int × qT1_)) ⊕ ((Bool × Unit) × (qT1_)))
def K76.C : Code := match Tryz.f3.body with | some c => c | none => .skip
def K76.B0 : Code := match (Z5 K76.C).getD 0 .skip with | .loop b => b | .scope b => b | _ => .skip
def K76.JR16 : Exits U := [(.normal, ⟨85, 15, [(5, .ptr 13 0 0), (6, .ptr 14 0 0), (75, vb_)], (13, .obj .p_t_clock_Clock) :: (14, .obj .int) :: hT5_⟩)]
def K76.JR8 : Exits U := [(.normal, ⟨85, 16, [(1, vi_), (5, .ptr 13 0 0), (6, .ptr 14 0 0), (7, .ptr 15 0 0), (8, .clo 18 [(13, 0, 0), (15, 0, 0), (14, 0, 0)]), (31, vb_)], (13, .obj .p_t_clock_Clock) :: (14, .obj .int) :: (15, .obj .int) :: hT5_⟩)]
def K76.H (cK79 : K79.T) (cK81 : K81.T) (cK75 : K75.T) (cK77 : K77.T) (cK8 : K8.T) (cK78 : Option Unit) (l0 : K76.l0T) : Hints U := { Γ := (addΓ 22 (Z5k cK78) (addΓ 21 (K8.sig.native (K8.W cK8)) (addΓ 18 (K77.sig.native (K77.W cK77)) (addΓ 17 (K75.sig.native (K75.W cK75)) (addΓ 16 (K81.sig.native (K81.W cK81)) (addΓ 15 (K79.sig.native (K79.W cK79)) noΓ)))))), ro := 0, base := 13, joinR := fun b => (bif Nat.beq b 8 then some K76.JR8 else (bif Nat.beq b 16 then some K76.JR16 else none)), loop := fun b => (bif Nat.beq b 12 then some (Zc (0, 13) K76.L0 K76.X0 l0) else none) }
def K76.step0 (cK79 : K79.T) (cK81 : K81.T) (cK75 : K75.T) (cK77 : K77.T) (cK8 : K8.T) (cK78 : Option Unit) (a : ((List (api_Out)) × Int × Unit) × ((Option Nat) × Int × Int × qT1_)) : Option ((((List (api_Out)) × Int × Unit) × ((Option Nat) × Int × Int × qT1_)) ⊕ ((((List (api_Out)) × Unit) × ((Option Nat) × Int × Int × qT1_)) ⊕ ((Bool × Unit) × (qT1_)))) :=
 (bif ilt a.1.2.1 (ofN (List.length a.1.1)) then (bif inR a.1.2.1 (List.length a.1.1) then (bif ieq (List.getD a.1.1 (Int.toNat a.1.2.1) api_Out.zero).fPort a.2.2.1 then some (.inr (.inr ((false, ()), a.2.2.2.2))) else some (.inl ((a.1.1, (iadd .i64 a.1.2.1 1, ())), a.2))) else none) else some (.inr (.inl ((a.1.1, ()), a.2))))
def K76.F0 : K76.l0T := fun a => Za (1000000 + (a.1.1.length)) (K76.step0 K79 K81 K75 K77 K8 K78.A) a
def K76.gen (cK79 : K79.T) (cK81 : K81.T) (cK75 : K75.T) (cK77 : K77.T) (cK8 : K8.T) (cK78 : Option Unit) (l0 : K76.l0T) : K76.T := fun which n g0 g5 g6 g7 g8 g9 g10 g12 =>
 (oelim (cK79 50 3 g0 g5 g6 g7 g8 g9 g10 g12) none fun r0 => (oelim (r0.1.1) none fun r1 => (oelim (r0.1.1) none fun r2 => (oelim (cK81 8 (r0.2.1.1.2 r2) r0.2.1.2.1 r0.2.1.2.2.1 r0.2.1.2.2.2.1 r0.2.1.2.2.2.2.1 r0.2.1.2.2.2.2.2.1 r0.2.1.2.2.2.2.2.2.1 r0.2.1.2.2.2.2.2.2.2.1) none fun r3 => (oelim (cK75 which 3) none fun r4 => (oelim ((oelim (cK77 8206 r0.1.1 (iadd .i64 1 (irem (iadd .i64 1 r4.1.1) 3)) (iadd .i64 1 r4.1.1) (r0.2.1.1.1, fset r0.2.1.1.2 r2 r3.2.1.1) r3.2.1.2.1 r3.2.1.2.2.1 r3.2.1.2.2.2.1 r3.2.1.2.2.2.2.1 r3.2.1.2.2.2.2.2.1 r3.2.1.2.2.2.2.2.2.1 r3.2.1.2.2.2.2.2.2.2.1) none fun r5 => (bif ine r5.1.1 1 then some ((n, (true, ())), (r5.2.1.1, (r5.2.1.2.2.1, (r5.2.1.2.1, r5.2.1.2.2.2)))) else (oelim (r5.2.1.1) none fun r6 => (oelim (cK8 r5.2.1.2.2.1 (r5.2.1.2.2.2.1.2 r6)) none fun r7 => some ((n, (ine r7.1.1 3, ())), (r5.2.1.1, (r5.2.1.2.2.1, (r5.2.1.2.1, r5.2.1.2.2.2))))))))) none fun r8 => (bif r8.1.2.1 then some ((false, ()), (r8.2.2.2.2, ())) else (oelim (r8.2.1) none fun r9 => (oelim (cK75 r8.1.1 20) none fun r10 => (oelim (cK81 (iadd .i64 1 r10.1.1) (r8.2.2.2.2.1.2 r9) r8.2.2.2.2.2.1 r8.2.2.2.2.2.2.1 r8.2.2.2.2.2.2.2.1 r8.2.2.2.2.2.2.2.2.1 r8.2.2.2.2.2.2.2.2.2.1 r8.2.2.2.2.2.2.2.2.2.2.1 r8.2.2.2.2.2.2.2.2.2.2.2.1) none fun r11 => (oelim (l0 ((r11.1.1, (0 : Int), ()), r8.2.1, r8.2.2.1, r8.2.2.2.1, (r8.2.2.2.2.1.1, fset r8.2.2.2.2.1.2 r9 r11.2.1.1), r11.2.1.2)) none fun r12 => (selim r12 (fun r13 => (oelim ((oelim (r13.2.1) none fun r14 => (oelim (cK8 r13.2.2.1 (r13.2.2.2.2.1.2 r14)) none fun r15 => (bif ine r15.1.1 3 then some ((true, ()), (r13.2.1, (r13.2.2.1, r13.2.2.2.2))) else (oelim (r13.2.1) none fun r16 => (oelim (cK8 r13.2.2.2.1 (r13.2.2.2.2.1.2 r16)) none fun r17 => (bif ine r17.1.1 6 then some ((true, ()), (r13.2.1, (r13.2.2.1, r13.2.2.2.2))) else (bif ieq (ofN (List.length r13.1.1)) 0 then some ((true, ()), (r13.2.1, (r13.2.2.1, r13.2.2.2.2))) else (oelim (cK77 8205 r13.2.1 r13.2.2.2.1 r13.2.2.1 r13.2.2.2.2.1 r13.2.2.2.2.2.1 r13.2.2.2.2.2.2.1 r13.2.2.2.2.2.2.2.1 r13.2.2.2.2.2.2.2.2.1 r13.2.2.2.2.2.2.2.2.2.1 r13.2.2.2.2.2.2.2.2.2.2.1 r13.2.2.2.2.2.2.2.2.2.2.2.1) none fun r18 => (bif ine r18.1.1 1 then some ((true, ()), (r18.2.1.1, r18.2.1.2.2)) else (oelim (r18.2.1.1) none fun r19 => (oelim (cK8 r18.2.1.2.2.1 (r18.2.1.2.2.2.1.2 r19)) none fun r20 => some ((ine r20.1.1 1, ()), (r18.2.1.1, r18.2.1.2.2)))))))))))))) none fun r21 => (bif r21.1.1 then some ((false, ()), (r21.2.2.2, ())) else (oelim (r21.2.1) none fun r22 => (oelim (cK81 6 (r21.2.2.2.1.2 r22) r21.2.2.2.2.1 r21.2.2.2.2.2.1 r21.2.2.2.2.2.2.1 r21.2.2.2.2.2.2.2.1 r21.2.2.2.2.2.2.2.2.1 r21.2.2.2.2.2.2.2.2.2.1 r21.2.2.2.2.2.2.2.2.2.2.1) none fun r23 => (oelim (r21.2.1) none fun r24 => (oelim (cK8 r21.2.2.1 (fset r21.2.2.2.1.2 r22 r23.2.1.1 r24)) none fun r25 => (bif ieq r25.1.1 6 then (oelim (cK78) none fun r26 => some ((true, ()), (((r21.2.2.2.1.1, fset r21.2.2.2.1.2 r22 r23.2.1.1), r23.2.1.2), ()))) else some ((false, ()), (((r21.2.2.2.1.1, fset r21.2.2.2.1.2 r22 r23.2.1.1), r23.2.1.2), ())))))))))) (fun r13 => some (r13.1, (r13.2, ())))))))))))))))
def K76 : K76.T := K76.gen K79 K81 K75 K77 K8 K78.A K76.F0
theorem K76.seq0 (cK79 : K79.T) (cK81 : K81.T) (cK75 : K75.T) (cK77 : K77.T) (cK8 : K8.T) (cK78 : Option Unit) (l0 : K76.l0T) (a : K76.L0.T) : run Tryz.prog (K76.H cK79 cK81 cK75 cK77 cK8 cK78 l0) 6 (Option (K76.L0.T ⊕ ExT K76.X0)) none K76.B0 (K76.L0.enc a) (Zs (0, 13) K76.L0 K76.X0) = K76.step0 cK79 cK81 cK75 cK77 cK8 cK78 a := by kernel_rfl
theorem K76.inner0 : Z5 K76.B0 = ([] : List Code) := by kernel_rfl
abbrev K76.h := K76.H K79 K81 K75 K77 K8 K78.A K76.F0
theorem K76.lok0 : Ze U Tryz.prog K76.h.ro K76.h.base K76.B0 (Zc (0, 13) K76.L0 K76.X0 K76.F0) :=
 Zh (Hn := K76.h) U_ok U_pure (Zl (hq (Z0 (Z0 (Z0 (Z0 (Z0 (Z0 Z4 K79.ok) K81.ok) K75.ok) K77.ok) K8.ok) K78.okA) Z1 (fun _ => rfl) (fun _ => rfl)) 6) (fun b h => by rw [K76.inner0] at h; exact h) (fun _ => rfl) (K76.seq0 K79 K81 K75 K77 K8 K78.A K76.F0)
theorem K76.eq (cK79 : K79.T) (cK81 : K81.T) (cK75 : K75.T) (cK77 : K77.T) (cK8 : K8.T) (cK78 : Option Unit) (l0 : K76.l0T) : EqA K76.sig (K76.H cK79 cK81 cK75 cK77 cK8 cK78 l0) Tryz.f3 6 (K76.W (K76.gen cK79 cK81 cK75 cK77 cK8 cK78 l0)) := by intro a x; kernel_rfl
theorem K76.loops : Z5 K76.C = [(.loop K76.B0)] := by kernel_rfl
theorem K76.hints : HintsOK U Tryz.prog K76.h (fun c => c ∈ [(.loop K76.B0)]) := (hq (Z0 (Z0 (Z0 (Z0 (Z0 (Z0 Z4 K79.ok) K81.ok) K75.ok) K77.ok) K8.ok) K78.okA) (Zb (by kernel_rfl) K76.lok0 Z1) (fun _ => rfl) (fun _ => rfl))
end
end Go.Proofs.YtgnabnhggaondaaGreat
