/- An evaluator of the model's code, and the proof that it is sound. Own work; no program in it. -/
import Derived.Test.YtkjjdjgpmlbloaaRfC
import Derived.OpenShut
import Derived.SizedLaws
import Derived.Below
import Derived.Test.YtkjjdjgpmlbloaaRfB
import Derived.Carry
import Derived.ChangeShapes
namespace Go.Rf
set_option linter.unusedVariables false
set_option linter.unusedSimpArgs false
variable {U : Univ} {P : Program}

theorem own_get {us : List (NK U.C)} {j : Nat} {k : NK U.C} (h : us[j]? = some k) : (ownRefs us)[j]? = some ⟨j, 0, 0, k.isRow⟩ := by simp [ownRefs, h]
theorem own_drop {us : List (NK U.C)} {ro j : Nat} {k : NK U.C} {p : Ref} (hk : us[ro + j]? = some k) (h : ((ownRefs us).drop ro)[j]? = some p) : p = ⟨ro + j, 0, 0, k.isRow⟩ := by
  rw [List.getElem?_drop, own_get hk] at h
  cases h; rfl

theorem view_row {h : Heap U} {p : Ref} {k : NK U.C} {x : k.T U} (hv : view h p k = some x) : p.row = k.isRow := by
  cases k with
  | obj u =>
    unfold view at hv
    cases hr : p.row with
    | true => rw [hr] at hv; cases hv
    | false => rfl
  | row u =>
    unfold view at hv
    cases hr : p.row with
    | true => rfl
    | false => rw [hr] at hv; cases hv

theorem sig_done {g : Sig U} {x : A U} {h : Heap U} {r : Ts U g.ress × HTs U (g.heap.drop g.ro) × HTs U g.new} (hf : g.fin0 x h = some r) :
    ∃ vs ps, unRes g.tup x = some vs ∧ decVs g.ress vs = some r.1 ∧ ptrs g.ress vs = some ps ∧ views (g.heap.drop g.ro) ((ownRefs g.heap).drop g.ro) h = some r.2.1 ∧ views g.new ps h = some r.2.2 ∧ freshRefs g.heap.length ps = true := by
  unfold Sig.fin0 at hf
  split at hf
  · rename_i rx hrx
    split at hf
    · rename_i rt pr yt hdr hpr hvy
      split at hf
      · rename_i zt hvz
        cases hfrs : freshRefs g.heap.length pr with
        | false => rw [hfrs] at hf; cases hf
        | true =>
          rw [hfrs] at hf
          cases hf
          exact ⟨rx, pr, hrx, hdr, hpr, hvy, hvz, hfrs⟩
      · cases hf
    · cases hf
  · cases hf

/-- what stands at a call's end, folded -/
theorem fin_fold (hU : U.Ok) {g : Sig U} {x : A U} {hh : Heap U} {r : Ts U g.ress × HTs U (g.heap.drop g.ro) × HTs U g.new} (hf : g.fin x hh = some r) {c0 c' : Cx} {Φ0 Φ' : Nat → Nat → Nat → Prop} {h0 : Heap U} {nx : Nat} {w w' : World} (hG : G U c' Φ' hh w') (hE : Ext U g.ro c0 Φ0 h0 nx w c' Φ' hh w') :
    ∃ hh' Φ'', g.fin0 x hh' = some r ∧ G U c' Φ'' hh' w' ∧ Ext U g.ro c0 Φ0 h0 nx w c' Φ'' hh' w' := by
  unfold Sig.fin at hf
  split at hf
  · exact ⟨hh, Φ', hf, hG, hE⟩
  · rename_i l hne
    cases hw : wrOk g.ro (foldAll (g.ends x) hh) with
    | false => rw [hw] at hf; cases hf
    | true =>
      rw [hw] at hf
      obtain ⟨Φ'', h1⟩ := foldAll_ok (nx := nx) hU (g.ends x) hh Φ' hG
      exact ⟨_, Φ'', hf, h1.g, hE.step h1 hw (Nat.le_refl _)⟩

/-- A TYPED SUMMARY HOLDS, once the evaluation of the body says so. -/
theorem Sig.ok0 (g : Sig U) (F : g.F) (hP : U.Pure) {Hn : Hints U} {L : Code → Prop} (hH : HintsOK U P Hn L) {f : Nat} {fn : Func} {code : Code} (hf : P.funcs[f]? = some fn) (hb : fn.body = some code)
    (hname : (fn.name == "runtime.NumGoroutine") = false) (hL : ∀ b, b ∈ loopsOf code → L b) {gos : Nat} (hro : Hn.ro = g.ro) (hbase : Hn.base = g.heap.length) (hrm : g.ro ≤ g.heap.length)
    (heq : ∀ a xs, runR P Hn fn gos none g.fin (g.args a) (news g.heap xs 0) g.heap.length = F a xs) (hn : g.pars.length ≤ fn.ntmps) : NativeOK U P f (g.native0 F) := by
  have hU := hH.u
  intro as h' nx out ho c Φ h w vs hg hag hfresh hRA
  rw [callFunc_enter hf hname (by rw [hb]; rfl)]
  show Calls P f vs w fun e w' => ∃ v, e = .returned v ∧ Post U c Φ h nx out w v w'
  unfold Sig.native0 at ho
  split at ho
  · rename_i vxs hun
    split at ho
    · rename_i a ps hdec hptr
      split at ho
      · rename_i xs hvs
        cases hdist : distinct (ps.map (·.s)) with
        | false => rw [hdist] at ho; exact (outs_fail ho).elim
        | true =>
          rw [hdist] at ho
          simp only [cond_true] at ho
          cases hF : F a xs with
          | none => rw [hF] at ho; cases ho
          | some r =>
            rw [hF] at ho
            have hout : out = g.outOf ps h' nx r := by simp [OpR.outs] at ho; exact ho.symm
            have hrd : out.rd = ps.map (·.s) := by rw [hout]; rfl
            have hagp : ∀ p ∈ ps, get h p.s = get h' p.s := fun p hp => hag p.s (.inl (by rw [hrd]; exact List.mem_map.2 ⟨p, hp, rfl⟩))
            have hvs : views g.heap ps h = some xs := by rw [views_congr _ _ hagp]; exact hvs
            have hout : out = g.outOf ps h nx r := by
              rw [hout]; unfold Sig.outOf
              rw [puts_congr _ _ _ fun p hp => (hagp p (List.mem_of_mem_drop hp)).symm]
            clear ho hag
            have hasv := unA_ok as vxs hun
            have hRV : RVs U c vxs vs.toList := by
              refine ⟨by rw [hRA.len, hasv]; simp, fun k x hk => ?_⟩
              obtain ⟨v, h1, h2⟩ := hRA.at_ k (.v x) (by rw [hasv, List.getElem?_map, hk]; rfl)
              exact ⟨v, h1, h2⟩
            obtain ⟨hplen, hview⟩ := views_ok _ _ _ _ hvs
            have hinj := distinct_inj _ hdist
            have hinj' : ∀ (i j : Nat) (p p' : Ref), ps[i]? = some p → ps[j]? = some p' → p.s = p'.s → i = j := fun i j p p' hi hj e =>
              hinj i j p.s (by rw [List.getElem?_map, hi]; rfl) (by rw [List.getElem?_map, hj, e]; rfl)
            -- the callee's start
            let c0 : Cx := { L := fun s i => match ps[s]? with | some p => Lof c p i | none => none, I := c.I }
            have hc0 : ∀ (j : Nat) (p : Ref), ps[j]? = some p → ∀ i, c0.L j i = Lof c p i := fun j p h1 i => by simp only [c0, h1]
            have hm0 : Moves c c0 ps 0 := fun j p hj i => by rw [Nat.zero_add]; exact hc0 j p hj i
            obtain ⟨hRV0, hpL⟩ := decVs_ok (c := c) (d := c0) hP hU (fun _ _ _ h => h) g.pars vxs a ps vs.toList 0 hdec hptr hRV hm0
            have hpl : ∀ j, ∃ F0 : Nat → Nat → Prop, ∀ x, hget g.heap xs j = some x → ∃ p, ps[j]? = some p ∧ view h p x.1 = some x.2 ∧ PlaceOK U c Φ h w p x.1 x.2 F0 := fun j => by
              cases hx : hget g.heap xs j with
              | none => exact ⟨fun _ _ => False, fun x h => by cases h⟩
              | some x =>
                obtain ⟨p, h1, h2⟩ := hview j x hx
                obtain ⟨F0, h3⟩ := view_place hU hP h2 hg (hpL j p h1)
                exact ⟨F0, fun y hy => by cases hy; exact ⟨p, h1, h2, h3⟩⟩
            let Φ0 : Nat → Nat → Nat → Prop := fun j => (hpl j).choose
            have hΦ0 : ∀ j x, hget g.heap xs j = some x → ∃ p, ps[j]? = some p ∧ view h p x.1 = some x.2 ∧ PlaceOK U c Φ h w p x.1 x.2 (Φ0 j) := fun j => (hpl j).choose_spec
            have hin0 : ∀ {s}, (get (news g.heap xs 0) s).isSome → ∃ x p, hget g.heap xs s = some x ∧ ps[s]? = some p ∧ view h p x.1 = some x.2 ∧ PlaceOK U c Φ h w p x.1 x.2 (Φ0 s) := fun {s} hs => by
              rw [get_news, if_pos (Nat.zero_le _)] at hs
              cases hx : hget g.heap xs (s - 0) with
              | none => rw [hx] at hs; cases hs
              | some x =>
                obtain ⟨p, h1, h2⟩ := hΦ0 s x hx
                exact ⟨x, p, rfl, h1, h2⟩
            have hG0 : G U c0 Φ0 (news g.heap xs 0) w := by
              refine ⟨fun s e he => ?_, fun s s' b o hne h1 h2 h3 h4 => ?_, hg.imm, fun s b o h1 h2 => ?_⟩
              · obtain ⟨x, p, h1, h2, _, h3⟩ := hin0 (s := s) (by simp [he])
                rw [get_news, if_pos (Nat.zero_le _), Nat.sub_zero, h1] at he
                cases he
                exact h3.is_ c0 s (fun _ _ _ h => h) (hc0 s p h2)
              · obtain ⟨x, p, _, h5, _, h6⟩ := hin0 h1
                obtain ⟨x', p', _, h7, _, h8⟩ := hin0 h2
                exact hg.apart p.s p'.s b o (fun e => hne (hinj' s s' p p' h5 h7 e)) h6.here h8.here (h6.sub _ _ h3) (h8.sub _ _ h4)
              · obtain ⟨x, p, _, _, _, h6⟩ := hin0 h1
                exact hg.immApart p.s b o h6.here (h6.sub _ _ h2)
            have hfr0 : ∀ s, g.heap.length ≤ s → get (news g.heap xs 0) s = none ∧ ∀ k, c0.L s k = none := fun s hs => by
              refine ⟨get_none_of_notMem fun hm => by have := (names_news _ _ _ _).1 hm; omega, fun k => ?_⟩
              have : ps[s]? = none := List.getElem?_eq_none (by omega)
              simp only [c0, this]
            have hargs : RAs U c0 (g.args a) vs.toList := by
              refine ⟨by rw [hRV0.len]; simp [Sig.args], fun k x hk => ?_⟩
              unfold Sig.args at hk
              rw [List.getElem?_map] at hk
              cases hz : (encVs g.pars a 0)[k]? with
              | none => rw [hz] at hk; cases hk
              | some z => rw [hz] at hk; cases hk; exact hRV0.at_ k z hz
            have hcall := runR_ok (S := fun y => y = some r) hH hf hb hL (fun h => by cases h) ((heq a xs).trans hF) (by simp [Sig.args, encVs_length]; exact hn) (by rw [hro]; exact hrm) (Nat.le_of_eq hbase.symm) hG0 hfr0 hargs
            refine hcall.mono ?_
            rintro e w' ⟨v, rfl, x, hh0, c', Φ'0, hfin, hRx, hG'0, hE0⟩
            refine ⟨v, rfl, ?_⟩
            rw [hro] at hE0
            obtain ⟨hh, Φ', hfin, hG', hE⟩ := fin_fold hU hfin hG'0 hE0
            -- what the results are
            obtain ⟨rx, pr, hrx, hdr, hpr, hvy, hvz, hfrs⟩ := sig_done hfin
            obtain ⟨rvs, hRVr, hback⟩ := mkRes_ok hrx hRx
            unfold freshRefs at hfrs
            rw [Bool.and_eq_true, List.all_eq_true] at hfrs
            have hprf : ∀ (j : Nat) (p : Ref), pr[j]? = some p → g.heap.length ≤ p.s := fun j p hj => by
              have := hfrs.1 p (List.mem_of_getElem? hj)
              simp only [Bool.and_eq_true] at this
              exact Nat.le_of_ble_eq_true this.1.1
            have hprinj : ∀ (i j : Nat) (p p' : Ref), pr[i]? = some p → pr[j]? = some p' → p.s = p'.s → i = j := fun i j p p' hi hj e =>
              distinct_inj _ hfrs.2 i j p.s (by rw [List.getElem?_map, hi]; rfl) (by rw [List.getElem?_map, hj, e]; rfl)
            obtain ⟨hzlen, hzview⟩ := views_ok _ _ _ _ hvz
            obtain ⟨hylen, hyview⟩ := views_ok _ _ _ _ hvy
            -- the caller's end
            let c2 : Cx := { L := fun s i => if nx ≤ s ∧ s < nx + g.new.length then (match pr[s - nx]? with | some p => Lof c' p i | none => none) else c.L s i, I := c'.I }
            have hnw : out.nw = g.new.length := by rw [hout]; rfl
            rw [hnw] at hfresh
            have hc2n : ∀ (j : Nat) (p : Ref), pr[j]? = some p → ∀ i, c2.L (nx + j) i = Lof c' p i := fun j p h1 i => by
              have hj : j < g.new.length := by rw [← hzlen]; exact (List.getElem?_eq_some_iff.1 h1).1
              simp only [c2]
              rw [if_pos ⟨by omega, by omega⟩, show nx + j - nx = j by omega, h1]
            obtain ⟨hRr, hprL⟩ := decVs_ok (c := c') (d := c2) hP hU (fun _ _ _ h => h) g.ress rx r.1 pr rvs nx hdr hpr hRVr hc2n
            have hleI : ∀ b o v, c.I b o = some v → c'.I b o = some v := hE.le.I
            have hle : c.Le c2 := ⟨fun s i q hq => by
              simp only [c2]
              by_cases hs : nx ≤ s ∧ s < nx + g.new.length
              · rw [(hfresh s hs.1 hs.2).2 i] at hq; cases hq
              · rw [if_neg hs]; exact hq, hleI⟩
            have hnotnew : ∀ t, (get h t).isSome → ¬ (nx ≤ t ∧ t < nx + g.new.length) := fun t ht hn => by rw [(hfresh t hn.1 hn.2).1] at ht; cases ht
            -- the places that are handed back
            have hzp : ∀ i, ∃ Fz : Nat → Nat → Prop, ∀ z, hget g.new r.2.2 i = some z → ∃ p, pr[i]? = some p ∧ PlaceOK U c' Φ' hh w' p z.1 z.2 Fz := fun i => by
              cases hz : hget g.new r.2.2 i with
              | none => exact ⟨fun _ _ => False, fun z h => by cases h⟩
              | some z =>
                obtain ⟨p, h1, h2⟩ := hzview i z hz
                obtain ⟨Fz, h3⟩ := view_place hU hP h2 hG' (hprL i p h1)
                exact ⟨Fz, fun y hy => by cases hy; exact ⟨p, h1, h3⟩⟩
            let Fz : Nat → Nat → Nat → Prop := fun i => (hzp i).choose
            have hFz : ∀ i z, hget g.new r.2.2 i = some z → ∃ p, pr[i]? = some p ∧ PlaceOK U c' Φ' hh w' p z.1 z.2 (Fz i) := fun i => (hzp i).choose_spec
            have hLown : ∀ j y p, g.heap[g.ro + j]? = some y → ps[g.ro + j]? = some p → p.row = NK.isRow y → ∀ i, Lof c' ⟨g.ro + j, 0, 0, NK.isRow y⟩ i = Lof c p i ∧ c'.L (g.ro + j) i = Lof c p i := fun j y p h1 h2 h3 i => by
              have hlt : g.ro + j < g.heap.length := (List.getElem?_eq_some_iff.1 h1).1
              have h4 : ∀ i, c'.L (g.ro + j) i = Lof c p i := fun i => by rw [hE.L _ _ hlt]; exact hc0 _ p h2 i
              refine ⟨?_, h4 i⟩
              unfold Lof
              simp only
              rw [h4, h4]
              cases hr : NK.isRow y with
              | true => rw [if_pos rfl]; rw [hr] at h3; simp [Lof, h3]
              | false =>
                rw [if_neg (by simp)]
                rw [hr] at h3
                simp only [Lof, h3]
                by_cases hi : i = 0
                · subst hi; cases c.L p.s p.i <;> simp
                · simp [hi]
            have hyp : ∀ j, ∃ Fy : Nat → Nat → Prop, ∀ y, hget (g.heap.drop g.ro) r.2.1 j = some y → g.heap[g.ro + j]? = some y.1 ∧ PlaceOK U c' Φ' hh w' ⟨g.ro + j, 0, 0, NK.isRow y.1⟩ y.1 y.2 Fy := fun j => by
              cases hy : hget (g.heap.drop g.ro) r.2.1 j with
              | none => exact ⟨fun _ _ => False, fun z h => by cases h⟩
              | some y =>
                obtain ⟨p0, h1, h2⟩ := hyview j y hy
                have h3 := (hget_lt _ _ _ _ hy).2
                rw [List.getElem?_drop] at h3
                have h4 := own_drop h3 h1
                subst h4
                have hlt := (List.getElem?_eq_some_iff.1 h3).1
                obtain ⟨x0, h5, h6⟩ := hget_some g.heap xs (g.ro + j) hlt
                obtain ⟨p, h7, h8, h9⟩ := hΦ0 _ _ h5
                rw [h3] at h6
                simp only [Option.some.injEq] at h6
                obtain ⟨Fy, h10⟩ := view_place hU hP h2 hG' (fun hr => by
                  simp only at hr ⊢
                  have hpr : p.row = false := by rw [view_row h8, ← h6]; exact hr
                  obtain ⟨q, hq⟩ := hpL _ p h7 hpr
                  rw [(hLown j y.1 p h3 h7 (by rw [view_row h8, h6]) 0).2]
                  exact ⟨_, by simp [Lof, hpr, hq]; rfl⟩)
                exact ⟨Fy, fun z hz => by cases hz; exact ⟨h3, h10⟩⟩
            let Fy : Nat → Nat → Nat → Prop := fun j => (hyp j).choose
            have hFy : ∀ j y, hget (g.heap.drop g.ro) r.2.1 j = some y → g.heap[g.ro + j]? = some y.1 ∧ PlaceOK U c' Φ' hh w' ⟨g.ro + j, 0, 0, NK.isRow y.1⟩ y.1 y.2 (Fy j) := fun j => (hyp j).choose_spec
            -- one written receiver, all that is known of it
            have hrw : ∀ (j : Nat) (p : Ref), g.ro ≤ j → ps[j]? = some p → ∃ (k : NK U.C) (x : k.T U) (y : k.T U), hget (g.heap.drop g.ro) r.2.1 (j - g.ro) = some ⟨k, y⟩ ∧ g.heap[j]? = some k ∧ view h p k = some x ∧ PlaceOK U c Φ h w p k x (Φ0 j) ∧
                PlaceOK U c' Φ' hh w' ⟨j, 0, 0, NK.isRow k⟩ k y (Fy (j - g.ro)) ∧ (∀ i, Lof c' ⟨j, 0, 0, NK.isRow k⟩ i = Lof c p i ∧ c'.L j i = Lof c p i) := fun j p hj hp => by
              have hlt : j < g.heap.length := by rw [← hplen]; exact (List.getElem?_eq_some_iff.1 hp).1
              obtain ⟨x, h1, h2⟩ := hget_some g.heap xs j hlt
              obtain ⟨p', h3, h4, h5⟩ := hΦ0 j x h1
              rw [hp] at h3; cases h3
              obtain ⟨y, h6, h7⟩ := hget_some (g.heap.drop g.ro) r.2.1 (j - g.ro) (by simp; omega)
              obtain ⟨h8, h9⟩ := hFy _ _ h6
              rw [show g.ro + (j - g.ro) = j by omega] at h8 h9
              rw [h2] at h8
              simp only [Option.some.injEq] at h8
              obtain ⟨k, x⟩ := x
              obtain ⟨k', y⟩ := y
              simp only at h8 h4 h5 h9 h2
              subst h8
              refine ⟨k, x, y, h6, h2, h4, h5, h9, fun i => ?_⟩
              have := hLown (j - g.ro) k p (by rw [show g.ro + (j - g.ro) = j by omega]; exact h2) (by rw [show g.ro + (j - g.ro) = j by omega]; exact hp) (view_row h4) i
              rwa [show g.ro + (j - g.ro) = j by omega] at this
            have hznew : ∀ {i b o}, i < g.new.length → Fz i b o → ∃ p, pr[i]? = some p ∧ (get hh p.s).isSome ∧ Φ' p.s b o := fun {i b o} hi hf => by
              obtain ⟨z, h1, _⟩ := hget_some g.new r.2.2 i hi
              obtain ⟨p, h2, h3⟩ := hFz i z h1
              exact ⟨p, h2, h3.here, h3.sub _ _ hf⟩
            have hynew : ∀ {j p b o}, g.ro ≤ j → ps[j]? = some p → Fy (j - g.ro) b o → (get hh j).isSome ∧ Φ' j b o := fun {j p b o} hj hp hf => by
              obtain ⟨k, x, y, _, _, _, _, h5, _⟩ := hrw j p hj hp
              exact ⟨h5.here, h5.sub _ _ hf⟩
            -- where it comes from
            let From : Nat → Nat → Prop := fun b o => w.heap.size ≤ b ∨ ∃ s', g.ro ≤ s' ∧ (get (news g.heap xs 0) s').isSome ∧ Φ0 s' b o
            have hzfrom : ∀ {i b o}, i < g.new.length → Fz i b o → From b o := fun {i b o} hi hf => by
              obtain ⟨p, h1, h2, h3⟩ := hznew hi hf
              exact hE.footw p.s b o (by have := hprf _ _ h1; omega) h2 h3
            have hyfrom : ∀ {j p b o}, g.ro ≤ j → ps[j]? = some p → Fy (j - g.ro) b o → From b o := fun {j p b o} hj hp hf => by
              obtain ⟨h1, h2⟩ := hynew hj hp hf
              exact hE.footw j b o hj h1 h2
            -- what was not handed over is elsewhere
            have hkeep : ∀ {t b o}, (get h t).isSome → Φ t b o → (∀ (j : Nat) (p : Ref), g.ro ≤ j → ps[j]? = some p → p.s = t → ¬ Φ0 j b o) → ¬ From b o := fun {t b o} ht hf hno hfrom => by
              rcases hfrom with h1 | ⟨s', h1, h2, h3⟩
              · have := hg.lt hU ht hf; omega
              · obtain ⟨x, p, _, h4, _, h5⟩ := hin0 h2
                by_cases e : p.s = t
                · exact hno s' p h1 h4 e h3
                · exact hg.apart p.s t b o e h5.here ht (h5.sub _ _ h3) hf
            have hagr : ∀ {t} {R : Nat → Nat → Prop}, (get h t).isSome → (∀ b o, R b o → Φ t b o ∧ ∀ (j : Nat) (p : Ref), g.ro ≤ j → ps[j]? = some p → p.s = t → ¬ Φ0 j b o) → Agr R w w' := fun {t R} ht hR =>
              hE.fr.agr (fun b o hf => hg.lt hU ht (hR b o hf).1) fun b o hf hn => hkeep ht (hR b o hf).1 (hR b o hf).2 (.inr hn)
            have hwn : ∀ s, s ∈ out.w.map (·.1) ↔ (nx ≤ s ∧ s < nx + g.new.length) ∨ ∃ (j : Nat) (p : Ref), g.ro ≤ j ∧ ps[j]? = some p ∧ p.s = s := fun s => by
              rw [hout]
              simp only [Sig.outOf, List.map_append, List.mem_append]
              rw [names_news, names_puts _ _ _ _ (by simp [hplen])]
              refine or_congr Iff.rfl ⟨fun hm => ?_, fun ⟨j, p, h1, h2, h3⟩ => ?_⟩
              · obtain ⟨p, hp, rfl⟩ := List.mem_map.1 hm
                obtain ⟨j, hj⟩ := List.getElem?_of_mem hp
                rw [List.getElem?_drop] at hj
                exact ⟨g.ro + j, p, by omega, hj, rfl⟩
              · refine List.mem_map.2 ⟨p, ?_, h3⟩
                refine List.mem_of_getElem? (i := j - g.ro) ?_
                rw [List.getElem?_drop, show g.ro + (j - g.ro) = j by omega]; exact h2
            have hsomeps : ∀ (j : Nat) (p : Ref), ps[j]? = some p → (get h p.s).isSome := fun j p hj => by
              have hlt : j < g.heap.length := by rw [← hplen]; exact (List.getElem?_eq_some_iff.1 hj).1
              obtain ⟨x, h1, _⟩ := hget_some g.heap xs j hlt
              obtain ⟨p', h2, _, h3⟩ := hΦ0 j x h1
              rw [hj] at h2; cases h2
              exact h3.here
            let Φ2 : Nat → Nat → Nat → Prop := fun s b o => if nx ≤ s ∧ s < nx + g.new.length then Fz (s - nx) b o else
              (Φ s b o ∧ ∀ (j : Nat) (p : Ref), g.ro ≤ j → ps[j]? = some p → p.s = s → ¬ Φ0 j b o) ∨ ∃ (j : Nat) (p : Ref), g.ro ≤ j ∧ ps[j]? = some p ∧ p.s = s ∧ Fy (j - g.ro) b o
            have hΦn : ∀ {s}, nx ≤ s ∧ s < nx + g.new.length → Φ2 s = Fz (s - nx) := fun {s} hs => by funext b o; simp only [Φ2, if_pos hs]
            have hΦo : ∀ {s}, ¬ (nx ≤ s ∧ s < nx + g.new.length) → ∀ b o, Φ2 s b o ↔ ((Φ s b o ∧ ∀ (j : Nat) (p : Ref), g.ro ≤ j → ps[j]? = some p → p.s = s → ¬ Φ0 j b o) ∨ ∃ (j : Nat) (p : Ref), g.ro ≤ j ∧ ps[j]? = some p ∧ p.s = s ∧ Fy (j - g.ro) b o) :=
              fun {s} hs b o => by simp only [Φ2, if_neg hs]
            have hcase : ∀ t, (get (out.w ++ h) t).isSome → ¬ (nx ≤ t ∧ t < nx + g.new.length) → (get h t).isSome := fun t ht hn => by
              rw [get_append] at ht
              cases hg2 : get out.w t with
              | none => rw [hg2] at ht; exact ht
              | some e =>
                rcases (hwn t).1 (get_mem hg2) with h5 | ⟨j, p, _, h6, rfl⟩
                · exact absurd h5 hn
                · exact hsomeps j p h6
            refine ⟨c2, Φ2, hle, fun s i hs => ?_, ?_, ⟨fun t e he => ?_, fun t t' b o hne h1 h2 h3 h4 => ?_, hG'.imm, fun t b o h1 h2 => ?_⟩, hE.fr.mono fun b o hb hF => ?_, fun s hs => ?_, fun s b o hs hF => ?_, fun s hs => ?_, fun b o v hI => ?_⟩
            · rw [hnw] at hs; simp only [c2]; rw [if_neg hs]
            · rw [hout]
              exact hback (by rw [encVs_length, decVs_length _ _ _ hdr]) hRr
            · -- the entries
              rw [hout] at he
              simp only [Sig.outOf, List.append_assoc] at he
              rw [get_append] at he
              by_cases hnewt : nx ≤ t ∧ t < nx + g.new.length
              · rw [get_news, if_pos hnewt.1] at he
                obtain ⟨z, h1, h2⟩ := hget_some g.new r.2.2 (t - nx) (by omega)
                rw [h1] at he
                cases he
                rw [hΦn hnewt]
                obtain ⟨p, h3, h4⟩ := hFz _ _ h1
                refine h4.is_ c2 t (fun _ _ _ h => h) fun i => ?_
                have := hc2n _ p h3 i
                rwa [show nx + (t - nx) = t by omega] at this
              · have hnn : get (news g.new r.2.2 nx) t = none := get_none_of_notMem fun hm => hnewt ((names_news _ _ _ _).1 hm)
                rw [hnn] at he
                simp only at he
                rw [get_append] at he
                have hc2o : ∀ i, c2.L t i = c.L t i := fun i => by simp only [c2]; rw [if_neg hnewt]
                cases hpt : get (puts (g.heap.drop g.ro) (ps.drop g.ro) r.2.1 h) t with
                | some e' =>
                  rw [hpt] at he
                  cases he
                  obtain ⟨j, p, y, h1, h2, rfl, rfl⟩ := get_puts _ _ _ _ _ _ (by simp [hplen]) hpt
                  rw [List.getElem?_drop] at h1
                  obtain ⟨k, x, y', h3, h4, h5, h6, h7, h8⟩ := hrw (g.ro + j) p (by omega) h1
                  rw [show g.ro + j - g.ro = j by omega, h2] at h3
                  cases h3
                  have hR : ∀ b o, (Φ p.s b o ∧ ¬ Φ0 (g.ro + j) b o) → Φ p.s b o ∧ ∀ (j' : Nat) (p' : Ref), g.ro ≤ j' → ps[j']? = some p' → p'.s = p.s → ¬ Φ0 j' b o := fun b o ⟨q1, q2⟩ =>
                    ⟨q1, fun j' p' _ q4 q5 => by rw [hinj' _ _ _ _ q4 h1 q5]; exact q2⟩
                  have := h6.back c2 c' w' (g.ro + j) y' (Fy (g.ro + j - g.ro)) hle hc2o (fun _ _ _ h => h) (fun i => (h8 i).2)
                    (h7.is_ c' (g.ro + j) (fun _ _ _ h => h) fun i => by rw [(h8 i).1, (h8 i).2]) (hagr (hsomeps _ _ h1) hR)
                    fun b o q1 q2 q3 => hkeep (hsomeps _ _ h1) q1 (hR b o ⟨q1, q2⟩).2 (hyfrom (by omega) h1 q3)
                  refine this.iff fun b o => ?_
                  rw [hΦo hnewt]
                  constructor
                  · rintro (q | q)
                    · exact .inl (hR b o q)
                    · exact .inr ⟨g.ro + j, p, by omega, h1, rfl, q⟩
                  · rintro (⟨q1, q2⟩ | ⟨j', p', q1, q2, q3, q4⟩)
                    · exact .inl ⟨q1, q2 _ p (by omega) h1 rfl⟩
                    · have := hinj' _ _ _ _ q2 h1 q3
                      subst this
                      exact .inr q4
                | none =>
                  rw [hpt] at he
                  simp only at he
                  have ht : (get h t).isSome := by simp [he]
                  have hno : ∀ (j : Nat) (p : Ref), g.ro ≤ j → ps[j]? = some p → p.s = t → False := fun j p h1 h2 h3 => by
                    have : t ∈ (puts (g.heap.drop g.ro) (ps.drop g.ro) r.2.1 h).map (·.1) := by
                      rw [names_puts _ _ _ _ (by simp [hplen])]
                      refine List.mem_map.2 ⟨p, List.mem_of_getElem? (i := j - g.ro) ?_, h3⟩
                      rw [List.getElem?_drop, show g.ro + (j - g.ro) = j by omega]; exact h2
                    have := get_isSome_of_mem this
                    rw [hpt] at this; cases this
                  refine ((hg.ents t e he).stays hU hle hc2o (hagr ht fun b o hf => ⟨hf, fun j p h1 h2 h3 => (hno j p h1 h2 h3).elim⟩)).iff fun b o => ?_
                  rw [hΦo hnewt]
                  constructor
                  · intro q; exact .inl ⟨q, fun j p h1 h2 h3 => (hno j p h1 h2 h3).elim⟩
                  · rintro (⟨q1, _⟩ | ⟨j, p, h1, h2, h3, _⟩)
                    · exact q1
                    · exact (hno j p h1 h2 h3).elim
            · -- apart
              have mixed : ∀ {s s' : Nat}, (nx ≤ s ∧ s < nx + g.new.length) → ¬ (nx ≤ s' ∧ s' < nx + g.new.length) → (get h s').isSome → Φ2 s b o → Φ2 s' b o → False := fun {s s'} q1 q2 q3 q4 q5 => by
                rw [hΦn q1] at q4
                rcases (hΦo q2 b o).1 q5 with ⟨q6, q7⟩ | ⟨j, p, q6, q7, _, q9⟩
                · exact hkeep q3 q6 q7 (hzfrom (by omega) q4)
                · obtain ⟨p1, r1, r2, r3⟩ := hznew (by omega) q4
                  obtain ⟨r4, r5⟩ := hynew q6 q7 q9
                  have hlt : j < g.heap.length := by rw [← hplen]; exact (List.getElem?_eq_some_iff.1 q7).1
                  have := hprf _ _ r1
                  exact hG'.apart p1.s j b o (by omega) r2 r4 r3 r5
              by_cases ht : nx ≤ t ∧ t < nx + g.new.length
              · by_cases ht' : nx ≤ t' ∧ t' < nx + g.new.length
                · rw [hΦn ht] at h3
                  rw [hΦn ht'] at h4
                  obtain ⟨p, h5, h6, h7⟩ := hznew (by omega) h3
                  obtain ⟨p', h8, h9, h10⟩ := hznew (by omega) h4
                  by_cases e : p.s = p'.s
                  · have := hprinj _ _ _ _ h5 h8 e; omega
                  · exact hG'.apart p.s p'.s b o e h6 h9 h7 h10
                · exact mixed ht ht' (hcase t' h2 ht') h3 h4
              · by_cases ht' : nx ≤ t' ∧ t' < nx + g.new.length
                · exact mixed ht' ht (hcase t h1 ht) h4 h3
                · rcases (hΦo ht b o).1 h3 with ⟨q1, q2⟩ | ⟨j, p, q1, q2, q3, q4⟩
                  · rcases (hΦo ht' b o).1 h4 with ⟨q5, _⟩ | ⟨j', p', q5, q6, _, q8⟩
                    · exact hg.apart t t' b o hne (hcase t h1 ht) (hcase t' h2 ht') q1 q5
                    · exact hkeep (hcase t h1 ht) q1 q2 (hyfrom q5 q6 q8)
                  · rcases (hΦo ht' b o).1 h4 with ⟨q5, q6⟩ | ⟨j', p', q5, q6, q7, q8⟩
                    · exact hkeep (hcase t' h2 ht') q5 q6 (hyfrom q1 q2 q4)
                    · obtain ⟨r1, r2⟩ := hynew q1 q2 q4
                      obtain ⟨r3, r4⟩ := hynew q5 q6 q8
                      refine hG'.apart j j' b o (fun e => hne ?_) r1 r3 r2 r4
                      subst e
                      rw [q2] at q6; cases q6
                      rw [← q3, ← q7]
            · -- what is never written again
              show c'.I b o = none
              by_cases ht : nx ≤ t ∧ t < nx + g.new.length
              · rw [hΦn ht] at h2
                obtain ⟨p, h5, h6, h7⟩ := hznew (by omega) h2
                exact hG'.immApart p.s b o h6 h7
              · have hts := hcase t h1 ht
                rcases (hΦo ht b o).1 h2 with ⟨q1, q2⟩ | ⟨j, p, q1, q2, q3, q4⟩
                · cases hI : c'.I b o with
                  | none => rfl
                  | some v =>
                    exfalso
                    rcases hE.inew b o v hI with h3 | h3
                    · rw [show c0.I = c.I from rfl, hg.immApart t b o hts q1] at h3; cases h3
                    · exact hkeep hts q1 q2 h3
                · obtain ⟨r1, r2⟩ := hynew q1 q2 q4
                  exact hG'.immApart j b o r1 r2
            · obtain ⟨s, h1, h2, h3⟩ := hF
              obtain ⟨x, p, _, h4, _, h5⟩ := hin0 h2
              exact ⟨p.s, (hwn p.s).2 (.inr ⟨s, p, h1, h4, rfl⟩), h5.here, h5.sub _ _ h3⟩
            · have h1 : ¬ (nx ≤ s ∧ s < nx + g.new.length) := fun hn => hs ((hwn s).2 (.inl hn))
              funext b o
              refine propext ((hΦo h1 b o).trans ⟨?_, fun q => .inl ⟨q, fun j p q1 q2 q3 => (hs ((hwn s).2 (.inr ⟨j, p, q1, q2, q3⟩))).elim⟩⟩)
              rintro (⟨q, _⟩ | ⟨j, p, q1, q2, q3, _⟩)
              · exact q
              · exact (hs ((hwn s).2 (.inr ⟨j, p, q1, q2, q3⟩))).elim
            · have hfrom : From b o → w.heap.size ≤ b ∨ ∃ s', s' ∈ out.w.map (·.1) ∧ (get h s').isSome ∧ Φ s' b o := fun hf => by
                rcases hf with h1 | ⟨s', h1, h2, h3⟩
                · exact .inl h1
                · obtain ⟨x, p, _, h4, _, h5⟩ := hin0 h2
                  exact .inr ⟨p.s, (hwn p.s).2 (.inr ⟨s', p, h1, h4, rfl⟩), h5.here, h5.sub _ _ h3⟩
              by_cases ht : nx ≤ s ∧ s < nx + g.new.length
              · rw [hΦn ht] at hF; exact hfrom (hzfrom (by omega) hF)
              · rcases (hΦo ht b o).1 hF with ⟨q1, _⟩ | ⟨j, p, q1, q2, _, q4⟩
                · rcases (hwn s).1 hs with h5 | ⟨j, p, h5, h6, rfl⟩
                  · exact absurd h5 ht
                  · exact .inr ⟨p.s, hs, hsomeps j p h6, q1⟩
                · exact hfrom (hyfrom q1 q2 q4)
            · rw [hnw]
              rcases (hwn s).1 hs with h5 | ⟨j, p, h5, h6, rfl⟩
              · exact .inl h5
              · exact .inr (hsomeps j p h6)
            · rcases hE.inew b o v hI with h3 | h3 | ⟨s', h3, h4, h5⟩
              · exact .inl h3
              · exact .inr (.inl h3)
              · obtain ⟨x, p, _, h6, _, h7⟩ := hin0 h4
                exact .inr (.inr ⟨p.s, (hwn p.s).2 (.inr ⟨s', p, h3, h6, rfl⟩), h7.here, h7.sub _ _ h5⟩)
      · exact (outs_fail ho).elim
    · exact (outs_fail ho).elim
  · exact (outs_fail ho).elim
theorem Sig.fold_ok (hU : U.Ok) {g : Sig U} {F : g.F} {f : Nat} (h0 : NativeOK U P f (g.native0 F)) : NativeOK U P f (g.native F) := by
  intro as h' nx out ho c Φ h w vs hg hag hfresh hRA
  unfold Sig.native at ho
  split at ho
  · exact h0 as h' nx out ho c Φ h w vs hg hag hfresh hRA
  · rename_i l hne
    obtain ⟨o, h1, rfl⟩ := addW_outs ho
    have hc : foldAll (g.folds as) h = foldAll (g.folds as) h' := fold_congr _ h h' fun x hx => hag x (.inl (List.mem_append_left _ hx))
    obtain ⟨Φ1, h2⟩ := foldAll_ok (nx := nx) hU (g.folds as) h Φ hg
    rw [hc] at h2
    have h4 := h0 as _ nx o h1 c Φ1 (foldAll (g.folds as) h' ++ h) w vs h2.g (fun x hx => by
      rw [get_append, get_append]
      cases hm : get (foldAll (g.folds as) h') x with
      | some e => rfl
      | none =>
        refine hag x ?_
        rcases hx with hx | hx
        · exact .inl (List.mem_append_right _ hx)
        · exact .inr (by rw [List.map_append]; exact List.mem_append_left _ hx)) (fun s h5 h6 => by
      obtain ⟨h7, h8⟩ := hfresh s h5 h6
      refine ⟨?_, h8⟩
      rw [get_append]
      by_cases hm : s ∈ (foldAll (g.folds as) h').map (·.1)
      · rcases h2.names s hm with ⟨h9, h10⟩ | h9
        · have h10 : s < nx + 0 := h10
          omega
        · rw [h7] at h9; cases h9
      · rw [get_none_of_notMem hm]; exact h7) hRA
    refine h4.mono ?_
    rintro v w' ⟨c', Φ', h5⟩
    have := h2.comp (rd := foldRd (g.folds as) h' ++ o.rd) h5
    simp only [Nat.zero_add] at this
    exact ⟨c', Φ', this⟩

theorem Sig.ok (g : Sig U) (F : g.F) (hP : U.Pure) {Hn : Hints U} {L : Code → Prop} (hH : HintsOK U P Hn L) {f : Nat} {fn : Func} {code : Code} (hf : P.funcs[f]? = some fn) (hb : fn.body = some code)
    (hname : (fn.name == "runtime.NumGoroutine") = false) (hL : ∀ b, b ∈ loopsOf code → L b) {gos : Nat} (hro : Hn.ro = g.ro) (hbase : Hn.base = g.heap.length) (hrm : g.ro ≤ g.heap.length)
    (heq : ∀ a xs, runR P Hn fn gos none g.fin (g.args a) (news g.heap xs 0) g.heap.length = F a xs) (hn : g.pars.length ≤ fn.ntmps) : NativeOK U P f (g.native F) :=
  Sig.fold_ok hH.u (Sig.ok0 g F hP hH hf hb hname hL hro hbase hrm heq hn)
end Go.Rf
namespace Go.Rf
set_option linter.unusedVariables false
set_option linter.unusedSimpArgs false
variable {U : Univ} {P : Program}

theorem okV_wf {k : IntKind} {n : Int} (h : (Lit.int k n).wf = true) : okV (.int k n) = true := by
  cases k <;> first | rfl | exact okV_u8 (by have := bounds_u8 h; omega)

/-- cells that a type's data have -/
inductive Opens (U : Univ) (P : Program) : TypeId → List U.S → Prop
  | int {t : TypeId} {k : IntKind} {n : Int} (ht : P.underlying t = some (.int k)) (hw : (Lit.int k n).wf = true) : Opens U P t [.val (.int k n)]
  | bool {t : TypeId} {b : Bool} (ht : P.underlying t = some .bool) : Opens U P t [.val (.bool b)]
  | str {t : TypeId} {s : ByteArray} (ht : P.underlying t = some .string) (hs : s.size ≤ reachBytes) : Opens U P t [.val (.string s)]
  | sl {t e : TypeId} {u : U.C} {xs : List (U.D u)} (ht : P.underlying t = some (.slice e)) (hu : U.ofType e = some u) (hn : xs.length * P.bytesOf e ≤ reachBytes)
      (hx : ∀ x ∈ xs, Opens U P e (U.enc u x)) : Opens U P t [.isl .none u xs]
  | struct {t : TypeId} {fs : Array Field} {l : List U.S} (ht : P.underlying t = some (.struct fs)) (hl : l.length = P.cellsOf t)
      (hf : ∀ f ∈ fs.toList, Opens U P f.type ((l.drop f.offset).take (P.cellsOf f.type))) : Opens U P t l

theorem Opens.noPtr {t e : TypeId} {l : List U.S} (h : Opens U P t l) (ht : P.underlying t = some (.pointer e)) : False := by
  cases h with
  | int h1 hw => rw [ht] at h1; cases h1
  | bool h1 => rw [ht] at h1; cases h1
  | str h1 => rw [ht] at h1; cases h1
  | sl h1 => rw [ht] at h1; cases h1
  | struct h1 => rw [ht] at h1; cases h1

theorem Opens.toInt {t : TypeId} {k : IntKind} {l : List U.S} (h : Opens U P t l) (ht : P.underlying t = some (.int k)) : ∃ n, l = [.val (.int k n)] ∧ (Lit.int k n).wf = true := by
  cases h with
  | int h1 hw => rw [ht] at h1; cases h1; exact ⟨_, rfl, hw⟩
  | bool h1 => rw [ht] at h1; cases h1
  | str h1 => rw [ht] at h1; cases h1
  | sl h1 => rw [ht] at h1; cases h1
  | struct h1 => rw [ht] at h1; cases h1

theorem Opens.toBool {t : TypeId} {l : List U.S} (h : Opens U P t l) (ht : P.underlying t = some .bool) : ∃ b, l = [.val (.bool b)] := by
  cases h <;> simp_all

theorem Opens.toStr {t : TypeId} {l : List U.S} (h : Opens U P t l) (ht : P.underlying t = some .string) : ∃ s, l = [.val (.string s)] ∧ s.size ≤ reachBytes := by
  cases h <;> simp_all

theorem Opens.toSl {t e : TypeId} {u : U.C} {l : List U.S} (h : Opens U P t l) (ht : P.underlying t = some (.slice e)) (hu : U.ofType e = some u) : ∃ xs : List (U.D u), l = [.isl .none u xs] ∧ xs.length * P.bytesOf e ≤ reachBytes ∧ ∀ x ∈ xs, Opens U P e (U.enc u x) := by
  cases h with
  | sl ht' hu' hn hx =>
    rw [ht] at ht'; cases ht'
    rw [hu] at hu'; cases hu'
    exact ⟨_, rfl, hn, hx⟩
  | int h1 => rw [ht] at h1; cases h1
  | bool h1 => rw [ht] at h1; cases h1
  | str h1 => rw [ht] at h1; cases h1
  | struct h1 => rw [ht] at h1; cases h1

theorem Opens.toStruct {t : TypeId} {fs : Array Field} {l : List U.S} (h : Opens U P t l) (ht : P.underlying t = some (.struct fs)) : l.length = P.cellsOf t ∧ ∀ f ∈ fs.toList, Opens U P f.type ((l.drop f.offset).take (P.cellsOf f.type)) := by
  cases h with
  | struct h1 hl hf => rw [ht] at h1; cases h1; exact ⟨hl, hf⟩
  | int h1 => rw [ht] at h1; cases h1
  | bool h1 => rw [ht] at h1; cases h1
  | str h1 => rw [ht] at h1; cases h1
  | sl h1 => rw [ht] at h1; cases h1

/-- all of the caller's memory, never written -/
def memCx (w : World) : Cx := { L := fun _ _ => none, I := fun b o => w.cell? (at_ b o) }

def tiles (P : Program) : List Field → Nat → Option Nat
  | [], o => some o
  | f :: r, o => bif Nat.beq f.offset o then tiles P r (o + P.cellsOf f.type) else none

/-- the types of arguments -/
def plainT (U : Univ) (P : Program) : Nat → TypeId → Bool
  | 0, _ => false
  | d + 1, t => match P.underlying t with
    | some (.int _) => true
    | some .bool => true
    | some .string => true
    | some (.slice e) => (match U.ofType e with | some u => Nat.beq (U.size u) (P.cellsOf e) && Nat.ble 1 (P.cellsOf e) | none => false) && plainT U P d e
    | some (.struct fs) => (match tiles P fs.toList 0 with | some n => Nat.beq n (P.cellsOf t) | none => false) && fs.toList.all fun f => plainT U P d f.type
    | _ => false

/-- typed elements off cells -/
def Decs (U : Univ) (P : Program) : Prop := ∀ e u l, U.ofType e = some u → Opens U P e l → ∃ x, U.dec u l = some x ∧ Opens U P e (U.enc u x)

theorem cells?_ok {w : World} {a : Addr} {n : Nat} {cs : List Value} (h : w.cells? 0 a n = some cs) : cs.length = n ∧ ∀ i, i < n → w.cell? (a.add i) = cs[i]? := by
  unfold World.cells? at h
  rw [if_pos (Nat.zero_le _)] at h
  refine ⟨by simpa using mapM_some_length h, fun i hi => mapM_some_get h i i (by simp [hi])⟩

theorem RL.of_parts {c : Cx} {l : List U.S} {vs : List Value} (hl : vs.length = l.length) (h : ∀ k, k < l.length → ∃ x v, l[k]? = some x ∧ vs[k]? = some v ∧ R U c x v) : RL U c l vs :=
  ⟨hl, fun k x hk => by
    obtain ⟨x', v, h1, h2, h3⟩ := h k (List.getElem?_eq_some_iff.1 hk).1
    rw [hk] at h1; cases h1
    exact ⟨v, h2, h3⟩⟩
theorem tiles_le : ∀ (fs : List Field) (o n : Nat), tiles P fs o = some n → o ≤ n ∧ ∀ f ∈ fs, o ≤ f.offset ∧ f.offset + P.cellsOf f.type ≤ n
  | [], o, n, h => by cases h; exact ⟨Nat.le_refl _, fun f hf => by cases hf⟩
  | f :: r, o, n, h => by
    unfold tiles at h
    cases hb : Nat.beq f.offset o with
    | false => rw [hb] at h; cases h
    | true =>
      rw [hb] at h
      have e := nbeq hb
      obtain ⟨h1, h2⟩ := tiles_le r _ n h
      refine ⟨by omega, fun g hg => ?_⟩
      rcases List.mem_cons.1 hg with rfl | hg
      · omega
      · have := h2 g hg; omega

theorem assemble {c : Cx} {cs : List Value} : ∀ (fs : List Field) (o n : Nat), tiles P fs o = some n → n ≤ cs.length →
    (∀ f ∈ fs, ∃ l, RL U c l ((cs.drop f.offset).take (P.cellsOf f.type)) ∧ Opens U P f.type l) →
    ∃ l, RL U c l ((cs.drop o).take (n - o)) ∧ ∀ f ∈ fs, Opens U P f.type ((l.drop (f.offset - o)).take (P.cellsOf f.type))
  | [], o, n, h, hn, hf => by
    cases h
    refine ⟨[], ?_, fun f hf => by cases hf⟩
    simp; exact .nil
  | f :: r, o, n, h, hn, hf => by
    unfold tiles at h
    cases hb : Nat.beq f.offset o with
    | false => rw [hb] at h; cases h
    | true =>
      rw [hb] at h
      have e := nbeq hb
      obtain ⟨h1, h2⟩ := tiles_le r _ n h
      obtain ⟨lr, h3, h4⟩ := assemble r _ n h hn fun g hg => hf g (List.mem_cons_of_mem _ hg)
      obtain ⟨lf, h5, h6⟩ := hf f (List.mem_cons_self ..)
      have hlen : lf.length = P.cellsOf f.type := by
        have := h5.len
        simp at this
        omega
      refine ⟨lf ++ lr, ?_, fun g hg => ?_⟩
      · have h7 := h5.append h3
        rw [e] at h7
        have : (cs.drop o).take (P.cellsOf f.type) ++ (cs.drop (o + P.cellsOf f.type)).take (n - (o + P.cellsOf f.type)) = (cs.drop o).take (n - o) := by
          rw [← List.drop_drop, show n - o = P.cellsOf f.type + (n - (o + P.cellsOf f.type)) by omega, List.take_add]
        rwa [this] at h7
      · rcases List.mem_cons.1 hg with rfl | hg
        · rw [e, Nat.sub_self, List.drop_zero, List.take_append_of_le_length (by omega), List.take_of_length_le (by omega)]; exact h6
        · have h8 := (h2 g hg).1
          rw [List.drop_append, List.drop_eq_nil_of_le (by omega), List.nil_append, hlen, show g.offset - o - P.cellsOf f.type = g.offset - (o + P.cellsOf f.type) by omega]
          exact h4 g hg

theorem weights_all {H : Type} : ∀ {e : TypeId} {ds : List (DataW H)} {d : DataW H}, d ∈ ds → ∀ n ∈ d.weights P e, n ∈ DataW.weightsAll P e ds
  | e, [], d, h, n, hn => by cases h
  | e, d0 :: ds, d, h, n, hn => by
    simp only [DataW.weightsAll, List.mem_append]
    rcases List.mem_cons.1 h with rfl | h
    · exact .inl hn
    · exact .inr (weights_all h n hn)

/-- AN ARGUMENT, OPENED. -/
theorem open_ok {H : Type} {enc : TypeId × Value → H} {w : World} {spare : Nat → Bool} {held : Bool} (hU : U.Ok) (hD : Decs U P) : ∀ (fuel d : Nat) (t : TypeId) (cs : List Value) (x : DataW H × List MemPlace),
    DataW.trod enc P w 0 spare held fuel t cs = some x → plainT U P d t = true → (∀ n ∈ x.1.weights P t, n ≤ reachBytes) → ∃ l, RL U (memCx w) l cs ∧ Opens U P t l
  | 0, d, t, cs, x, h, hp, hw => by simp [DataW.trod] at h
  | fuel + 1, 0, t, cs, x, h, hp, hw => by cases hp
  | fuel + 1, d + 1, t, cs, x, h, hp, hw => by
    unfold plainT at hp
    cases hu : P.underlying t with
    | none => rw [hu] at hp; cases hp
    | some desc =>
      rw [hu] at hp
      cases desc <;> simp only at hp <;> try (cases hp; done)
      case int k =>
        unfold DataW.trod at h
        rw [hu] at h
        split at h <;> try (simp_all; done)
        rename_i k2 k' n heq
        simp only [Option.some.injEq, TypeDesc.int.injEq] at heq
        subst heq
        split at h
        · rename_i hc
          obtain ⟨rfl, h1⟩ := hc
          exact ⟨[.val (.int k' n)], .cons (.val (okV_wf h1)) .nil, .int hu h1⟩
        · cases h
      case bool =>
        unfold DataW.trod at h
        rw [hu] at h
        split at h <;> simp_all
        rename_i b
        exact ⟨[.val (.bool b)], .cons (.val rfl) .nil, .bool hu⟩
      case string =>
        unfold DataW.trod at h
        rw [hu] at h
        split at h <;> simp_all
        rename_i s
        obtain ⟨h1, rfl⟩ := h
        refine ⟨[.val (.string s)], .cons (.val rfl) .nil, .str hu ?_⟩
        have := hw s.data.toList.length (by simp [DataW.weights])
        simpa using this
      case slice e =>
        rw [Bool.and_eq_true] at hp
        obtain ⟨hp1, hp2⟩ := hp
        cases hue : U.ofType e with
        | none => rw [hue] at hp1; cases hp1
        | some u =>
          rw [hue] at hp1
          simp only [Bool.and_eq_true] at hp1
          have hsz := nbeq hp1.1
          have hpos := Nat.le_of_ble_eq_true hp1.2
          unfold DataW.trod at h
          rw [hu] at h
          split at h <;> try (simp_all; done)
          · refine ⟨[.isl .none u []], .cons ?_ .nil, .sl hu hue (by simp) (fun x hx => by cases hx)⟩
            exact R.isl (xs := []) (b := 0) (o := 0) (fun _ _ => undef) (Nat.le_refl _) trivial (fun hh => by simp at hh) (fun i k hi => by simp at hi) (fun i k hi => by simp at hi)
          · rename_i a len cap heq
            simp only [Option.some.injEq, TypeDesc.slice.injEq] at heq
            subst heq
            simp only at h
            split at h
            · rename_i hcond
              obtain ⟨hb, hlc, hcm⟩ := hcond
              simp only [Option.bind_eq_some_iff, Option.map_eq_some_iff] at h
              obtain ⟨elems, hel, rest, hrest, rfl⟩ := h
              have helen : elems.length = len := by simpa using mapM_some_length hel
              have hwe : ∀ (i : Nat) y, elems[i]? = some y → ∀ n ∈ y.1.weights P e, n ≤ reachBytes := fun i y hy n hn => by
                refine hw n ?_
                simp only [DataW.weights, hu, List.mem_cons, List.mem_append]
                exact .inr (.inl (weights_all (List.mem_map.2 ⟨y, List.mem_of_getElem? hy, rfl⟩) n hn))
              have hone : ∀ i, i < len → ∃ (x : U.D u) (vs : List Value), Opens U P e (U.enc u x) ∧ RL U (memCx w) (U.enc u x) vs ∧ ∀ k, k < U.size u → w.cell? ((a.add (i * P.cellsOf e)).add k) = vs[k]? := fun i hi => by
                have h1 := mapM_some_get hel i i (by simp [hi])
                have hy : elems[i]? = some elems[i] := List.getElem?_eq_getElem (by omega)
                rw [hy, Option.bind_eq_some_iff] at h1
                obtain ⟨vs, h2, h3⟩ := h1
                obtain ⟨h4, h5⟩ := cells?_ok h2
                obtain ⟨l, h6, h7⟩ := open_ok hU hD fuel d e vs _ h3 hp2 (hwe i _ hy)
                obtain ⟨x, h8, h9⟩ := hD e u l hue h7
                exact ⟨x, vs, h9, hU.dec_le u l x h8 _ _ h6, fun k hk => h5 k (by omega)⟩
              let pick : Nat → U.D u := fun i => if hi : i < len then (hone i hi).choose else U.dft u
              let xs : List (U.D u) := (List.range len).map pick
              have hxl : xs.length = len := by simp [xs]
              have hxi : ∀ i, i < len → xs.getD i (U.dft u) = pick i := fun i hi => by simp [xs, List.getD, hi]
              have hpick : ∀ i (hi : i < len), ∃ vs : List Value, Opens U P e (U.enc u (pick i)) ∧ RL U (memCx w) (U.enc u (pick i)) vs ∧ ∀ k, k < U.size u → w.cell? ((a.add (i * P.cellsOf e)).add k) = vs[k]? := fun i hi => by
                simp only [pick, dif_pos hi]; exact (hone i hi).choose_spec
              have haddr : 0 < len → a = at_ a.block a.off := fun hpos' => by
                obtain ⟨vs, h1, h2, h3⟩ := hpick 0 hpos'
                have h4 := h3 0 (by omega)
                have h5 : 0 < vs.length := by rw [h2.len, hU.enc_len]; omega
                rw [List.getElem?_eq_getElem h5] at h4
                have h6 : w.cell? a = some vs[0] := by simpa [Addr.add] using h4
                unfold World.cell? at h6
                split at h6
                · split at h6
                  · cases h6
                  · rename_i hs
                    obtain ⟨b, o, s⟩ := a
                    cases s with
                    | none => rfl
                    | some _ => simp at hs
                · cases h6
              have hmain : R U (memCx w) (.isl .none u xs) (.slice (some a) xs.length cap) := by
                refine R.isl (b := a.block) (o := a.off) (fun i k => (w.cell? (at_ a.block (a.off + (i * U.size u + k)))).getD undef) (by omega) trivial (fun hh => by rw [← haddr (by omega)]) (fun i k hi hk => ?_) (fun i k hi hk => ?_)
                · rw [hxl] at hi
                  obtain ⟨vs, h1, h2, h3⟩ := hpick i hi
                  have h4 := h3 k hk
                  have h5 : k < vs.length := by rw [h2.len, hU.enc_len]; exact hk
                  rw [List.getElem?_eq_getElem h5, haddr (by omega), at_add, at_add, ← hsz, Nat.add_assoc] at h4
                  show w.cell? _ = _
                  rw [h4]; rfl
                · rw [hxl] at hi
                  obtain ⟨vs, h1, h2, h3⟩ := hpick i hi
                  have h4 := h3 k hk
                  have h5 : k < vs.length := by rw [h2.len, hU.enc_len]; exact hk
                  have h6 : k < (U.enc u (pick i)).length := by rw [hU.enc_len]; exact hk
                  rw [List.getElem?_eq_getElem h5, haddr (by omega), at_add, at_add, ← hsz, Nat.add_assoc] at h4
                  obtain ⟨v, h7, h8⟩ := h2.at_ k _ (List.getElem?_eq_getElem h6)
                  rw [List.getElem?_eq_getElem h5] at h7
                  simp only [Option.some.injEq] at h7
                  subst h7
                  rw [h4, hxi i hi, getD_of_getElem? (List.getElem?_eq_getElem h6)]
                  exact h8
              rw [hxl] at hmain
              refine ⟨[.isl .none u xs], .cons hmain .nil, .sl hu hue ?_ fun y hy => ?_⟩
              · rw [hxl]
                have := hw ((elems.length + rest.length) * P.bytesOf e) (by simp [DataW.weights, hu])
                rw [Nat.add_mul, helen] at this
                omega
              · obtain ⟨i, hi⟩ := List.getElem?_of_mem hy
                have hlt : i < len := by rw [← hxl]; exact (List.getElem?_eq_some_iff.1 hi).1
                have : xs.getD i (U.dft u) = y := getD_of_getElem? hi
                rw [hxi i hlt] at this
                obtain ⟨vs, h1, _⟩ := hpick i hlt
                rw [← this]; exact h1
            · cases h
      case struct fs =>
        rw [Bool.and_eq_true] at hp
        obtain ⟨hp1, hp2⟩ := hp
        obtain ⟨xs, n, hn, rfl, hlen, hxl, hf⟩ := DataW.trod_struct hu h
        simp only [Nat.add_right_cancel_iff] at hn
        subst hn
        rw [List.all_eq_true] at hp2
        cases htl : tiles P fs.toList 0 with
        | none => rw [htl] at hp1; cases hp1
        | some m =>
          rw [htl] at hp1
          have hm := nbeq hp1
          subst hm
          obtain ⟨l, h1, h2⟩ := assemble (U := U) (c := memCx w) (cs := cs) fs.toList 0 (P.cellsOf t) htl (by omega) fun f hfm => by
            obtain ⟨i, hi⟩ := List.getElem?_of_mem hfm
            have hlt := (List.getElem?_eq_some_iff.1 hi).1
            have h3 := hf i f (by rw [← Array.getElem?_toList]; exact hi)
            have hlx : i < xs.length := by rw [hxl]; simpa using hlt
            have hy : xs[i]? = some xs[i] := List.getElem?_eq_getElem hlx
            rw [hy] at h3
            refine open_ok hU hD fuel d f.type _ _ h3 (hp2 f hfm) fun n hn => hw n ?_
            simp only [DataW.weights, hu]
            exact DataW.weights_mem_each (j := i) (t := f.type) (d := xs[i].1) (by rw [List.getElem?_map, hi]; rfl) (by rw [List.getElem?_map, hy]; rfl) n hn
          refine ⟨l, ?_, .struct hu ?_ fun f hfm => by simpa using h2 f hfm⟩
          · rw [List.drop_zero, Nat.sub_zero] at h1
            have : cs.take (P.cellsOf t) = cs := List.take_of_length_le (by omega)
            rwa [this] at h1
          · have := h1.len
            simp at this; omega
end Go.Rf
namespace Go.Rf
set_option linter.unusedVariables false
set_option linter.unusedSimpArgs false
variable {U : Univ} {P : Program}

/-- a parameter's type and its typed face -/
def parOK (U : Univ) (P : Program) (t : TypeId) : Sh U.C → Bool
  | .int k => match P.underlying t with | some (.int k') => decide (k' = k) | _ => false
  | .bool => match P.underlying t with | some .bool => true | _ => false
  | .str => match P.underlying t with | some .string => true | _ => false
  | .isl u => match P.underlying t with | some (.slice e) => (match U.ofType e with | some v => (U.eq? v u).isSome | none => false) | _ => false
  | .data u => match P.underlying t with | some (.struct _) => (match U.ofType t with | some v => (U.eq? v u).isSome | none => false) | _ => false
  | _ => false

def parsOK (U : Univ) (P : Program) (d : Nat) : List TypeId → List (Sh U.C) → Bool
  | [], [] => true
  | t :: ts, s :: ss => parOK U P t s && plainT U P d t && parsOK U P d ts ss
  | _, _ => false

/-- what is known of typed arguments -/
def Fits (U : Univ) (P : Program) : List TypeId → (ss : List (Sh U.C)) → Ts U ss → Prop
  | t :: ts, s :: ss, x => Opens U P t (encV s x.1 0).l ∧ Fits U P ts ss x.2
  | [], [], _ => True
  | _, _, _ => False

section
variable {H : Type} {enc : TypeId × Value → H} {w : World} {spare : Nat → Bool} {held : Bool}

theorem RL.one_inv {c : Cx} {y : U.S} {v : Value} (h : RL U c [y] v.cells.toList) (hv : v.oneCell' = true) : R U c y v := by
  rw [cells_of_one hv] at h
  obtain ⟨u, vs, h1, h2, _⟩ := h.uncons
  simp only [List.cons.injEq] at h1
  rw [h1.1]; exact h2

theorem open_arg (hU : U.Ok) (hD : Decs U P) {d : Nat} {t : TypeId} {s : Sh U.C} {v : Value} {x : DataW H} {p : List MemPlace} {r : Reach} {base : Nat} (h : DataW.Trod enc P w 0 spare held t v x p) (hv : Value.okWide P w r base t v) (ho : parOK U P t s = true)
    (hp : plainT U P d t = true) (hw : ∀ n ∈ x.weights P t, n ≤ reachBytes) : ∃ y : s.T U, RV U (memCx w) (encV s y 0) v ∧ Opens U P t (encV s y 0).l ∧ s.isPtr = false := by
  obtain ⟨fuel, hf⟩ := h
  obtain ⟨l, h1, h2⟩ := open_ok hU hD fuel d t _ _ hf hp hw
  cases s with
  | int k =>
    simp only [parOK] at ho
    split at ho
    · rename_i k' ht
      have := of_decide_eq_true ho
      subst this
      obtain ⟨n, rfl, _⟩ := h2.toInt ht
      obtain ⟨n', rfl⟩ := WideShapes.okWide_int ht hv
      exact ⟨n, h1.one_inv rfl, h2, rfl⟩
    · cases ho
  | bool =>
    simp only [parOK] at ho
    split at ho
    · rename_i ht
      obtain ⟨n, rfl⟩ := h2.toBool ht
      obtain ⟨n', rfl⟩ := WideShapes.okWide_bool ht hv
      exact ⟨n, h1.one_inv rfl, h2, rfl⟩
    · cases ho
  | str =>
    simp only [parOK] at ho
    split at ho
    · rename_i ht
      obtain ⟨n, rfl, _⟩ := h2.toStr ht
      obtain ⟨n', rfl⟩ := WideShapes.okWide_string ht hv
      exact ⟨n, h1.one_inv rfl, h2, rfl⟩
    · cases ho
  | isl u =>
    simp only [parOK] at ho
    split at ho
    · rename_i e ht
      split at ho
      · rename_i v' hu
        cases he : U.eq? v' u with
        | none => rw [he] at ho; cases ho
        | some pl =>
          obtain ⟨e'⟩ := pl
          subst e'
          obtain ⟨xs, rfl, _⟩ := h2.toSl ht hu
          obtain ⟨a, len, cap, rfl⟩ := WideShapes.okWide_slice ht hv
          exact ⟨xs, h1.one_inv rfl, h2, rfl⟩
      · cases ho
    · cases ho
  | data u =>
    simp only [parOK] at ho
    split at ho
    · rename_i fs ht
      split at ho
      · rename_i v' hu
        cases he : U.eq? v' u with
        | none => rw [he] at ho; cases ho
        | some pl =>
          obtain ⟨e'⟩ := pl
          subst e'
          obtain ⟨cs, rfl, _⟩ := WideShapes.okWide_struct ht hv
          obtain ⟨y, h3, h4⟩ := hD t _ l hu h2
          exact ⟨y, ⟨cs, rfl, hU.dec_le _ l y h3 _ _ h1⟩, h4, rfl⟩
      · cases ho
    · cases ho
  | ptr => cases ho
  | iptr u => cases ho
  | optr u => cases ho
  | row u => cases ho

theorem open_args (hU : U.Ok) (hD : Decs U P) {d : Nat} {r : Reach} {base : Nat} : ∀ (ts : List TypeId) (ss : List (Sh U.C)) (vs : List Value) (ds : List (DataW H)) (ps : List MemPlace), DataW.TrodAll enc P w 0 spare held ts vs ds ps →
    (∀ (j : Nat) t v, ts[j]? = some t → vs[j]? = some v → Value.okWide P w r base t v) → parsOK U P d ts ss = true → (∀ n ∈ DataW.weightsEach P ts ds, n ≤ reachBytes) →
    ∃ x : Ts U ss, RVs U (memCx w) (encVs ss x 0) vs ∧ Fits U P ts ss x
  | [], [], vs, ds, ps, h, hv, ho, hw => by
    obtain ⟨rfl, rfl, rfl⟩ := ChangeShapes.trodAll_nil h
    exact ⟨(), ⟨rfl, fun k x hk => by simp [encVs] at hk⟩, trivial⟩
  | t :: ts, s :: ss, vs, ds, ps, h, hv, ho, hw => by
    obtain ⟨v, vs', dd, ds', p, q, rfl, rfl, rfl, h1, h2⟩ := ChangeShapes.trodAll_cons h
    unfold parsOK at ho
    rw [Bool.and_eq_true, Bool.and_eq_true] at ho
    simp only [DataW.weightsEach, List.mem_append] at hw
    obtain ⟨y, h3, h4, h5⟩ := open_arg hU hD h1 (hv 0 t v rfl rfl) ho.1.1 ho.1.2 fun n hn => hw n (.inl hn)
    obtain ⟨x, h6, h7⟩ := open_args hU hD ts ss vs' ds' q h2 (fun j t v h8 h9 => hv (j + 1) t v (by simpa using h8) (by simpa using h9)) ho.2 fun n hn => hw n (.inr hn)
    refine ⟨(y, x), ?_, h4, h7⟩
    unfold encVs
    rw [h5]
    exact .cons h3 h6
  | [], s :: ss, vs, ds, ps, h, hv, ho, hw => by cases ho
  | t :: ts, [], vs, ds, ps, h, hv, ho, hw => by cases ho

/-- a law's face: no memory of its own, a truth handed back -/
def lawSig (U : Univ) (ps : List (Sh U.C)) : Sig U := { pars := ps, heap := [], ress := [.bool], tup := false, new := [] }

theorem decV_bool {z : V U} {b : Bool} (h : decV (Sh.bool : Sh U.C) z = some b) : z = ⟨false, [.val (.bool b)]⟩ := by
  obtain ⟨g, l⟩ := z
  cases g with
  | true => cases h
  | false =>
    cases l with
    | nil => cases h
    | cons y r =>
      cases r with
      | cons y' r => cases y <;> first | (cases h; done) | (rename_i v; cases v <;> cases h)
      | nil => cases y <;> first | (cases h; done) | (rename_i v; cases v <;> first | (cases h; done) | (cases h; rfl))

theorem bool_res {c : Cx} {y : A U} {vs : List (V U)} {v : Value} {b : Bool} (hu : unRes false y = some vs) (hd : decVs [(Sh.bool : Sh U.C)] vs = some (b, ())) (hr : RA U c y v) : v = .bool b := by
  cases y with
  | t zs => cases hu
  | v z =>
    cases hu
    unfold decVs at hd
    split at hd
    · rename_i t ts h4 h5
      cases hd
      have := decV_bool h4
      subst this
      exact R.valEq (show R U c (.val (.bool b)) v from hr)
    · cases hd

/-- A LAW RETURNS TRUE, once its evaluation does. -/
theorem law_walk {ss : List (Sh U.C)} {Hn : Hints U} {L : Code → Prop} (hH : HintsOK U P Hn L) {f : Nat} {fn : Func} {code : Code} (hf : P.funcs[f]? = some fn) (hb : fn.body = some code) (hL : ∀ b, b ∈ loopsOf code → L b)
    {gos : Nat} {x : Ts U ss} (heq : runR P Hn fn gos none (lawSig U ss).fin ((lawSig U ss).args x) [] 0 = some ((true, ()), (), ())) (hn : ss.length ≤ fn.ntmps) (hro : Hn.ro = 0)
    {args : Array Value} (hx : RVs U (memCx w) (encVs ss x 0) args.toList) : Calls P f args w fun e w' => e = .returned (.bool true) ∧ RowKit.Below w.heap.size w w' := by
  have hG : G U (memCx w) (fun _ _ _ => False) [] w := ⟨fun s e he => (by cases he), fun _ _ _ _ _ _ _ h _ => h.elim, fun b o v hv => hv, fun _ _ _ _ h => h.elim⟩
  have hA : RAs U (memCx w) ((lawSig U ss).args x) args.toList := by
    refine ⟨by rw [hx.len]; simp [Sig.args, lawSig], fun k y hk => ?_⟩
    unfold Sig.args at hk
    rw [List.getElem?_map] at hk
    cases hz : (encVs ss x 0)[k]? with
    | none => rw [show (encVs (lawSig U ss).pars x 0)[k]? = none from hz] at hk; cases hk
    | some z => rw [show (encVs (lawSig U ss).pars x 0)[k]? = some z from hz] at hk; cases hk; exact hx.at_ k z hz
  refine (runR_ok (S := fun y => y = some ((true, ()), (), ())) hH hf hb hL (fun h => by cases h) heq (by simp [Sig.args, encVs_length, lawSig]; exact hn) (by rw [hro]; exact Nat.le_refl _) (Nat.zero_le _) hG (fun s _ => ⟨rfl, fun _ => rfl⟩) hA).mono ?_
  rintro e w' ⟨v, rfl, y, h', c', Φ', hfin, hR, hG', hE⟩
  refine ⟨?_, hE.fr.rest.1, hE.fr.rest.2.1, hE.fr.rest.2.2, hE.fr.size, fun b hb => hE.fr.obj b hb fun o ⟨s, _, h1, _⟩ => by cases h1⟩
  have hfin : (lawSig U ss).fin0 y h' = some ((true, ()), (), ()) := by
    unfold Sig.fin at hfin
    split at hfin
    · exact hfin
    · rename_i l hne
      exfalso
      refine hne ?_
      unfold Sig.ends
      simp only [lawSig, List.drop_nil, foldNames, List.nil_append]
      split
      · split
        · rename_i ps _
          cases ps <;> rfl
        · rfl
      · rfl
  obtain ⟨vs, ps, h1, h2, _⟩ := sig_done hfin
  rw [bool_res h1 h2 hR]
end
end Go.Rf
namespace Go.Rf
set_option linter.unusedVariables false
set_option linter.unusedSimpArgs false

/-! ### what a seat's types need -/
def dList {C : Type} {D : C → Type} [DecidableEq C] (u : C) : S C D → Option (List (D u))
  | .isl _ v xs => if h : v = u then some (h ▸ xs) else none
  | .val (.slice none 0 0) => some []
  | _ => none
def dInt {C : Type} {D : C → Type} (k : IntKind) : S C D → Option Int
  | .val (.int j n) => if j = k then some n else none
  | _ => none
def dBool {C : Type} {D : C → Type} : S C D → Option Bool
  | .val (.bool b) => some b
  | _ => none
def dStr {C : Type} {D : C → Type} : S C D → Option ByteArray
  | .val (.string b) => some b
  | _ => none

variable {U : Univ} {P : Program} {c : Cx}

theorem dInt_le {k : IntKind} {x : U.S} {n : Int} {v : Value} (h : dInt k x = some n) (hr : R U c x v) : R U c (.val (.int k n)) v := by
  unfold dInt at h
  split at h
  · split at h
    · rename_i e; subst e; cases h; exact hr
    · cases h
  · cases h
theorem dBool_le {x : U.S} {n : Bool} {v : Value} (h : dBool x = some n) (hr : R U c x v) : R U c (.val (.bool n)) v := by
  unfold dBool at h
  split at h
  · cases h; exact hr
  · cases h
theorem dStr_le {x : U.S} {n : ByteArray} {v : Value} (h : dStr x = some n) (hr : R U c x v) : R U c (.val (.string n)) v := by
  unfold dStr at h
  split at h
  · cases h; exact hr
  · cases h
theorem dList_le {inst : DecidableEq U.C} {u : U.C} {x : U.S} {n : List (U.D u)} {v : Value} (h : @dList _ _ inst u x = some n) (hr : R U c x v) : R U c (.isl .none u n) v := by
  unfold dList at h
  split at h
  · split at h
    · rename_i e
      subst e
      cases h
      cases hr with
      | isl g hc ht ha hi hrr => exact .isl g hc trivial ha hi hrr
    · cases h
  · cases h
    cases R.valEq hr
    exact R.isl (xs := []) (b := 0) (o := 0) (fun _ _ => undef) (Nat.le_refl _) trivial (fun hh => by simp at hh) (fun i k hi => by simp at hi) (fun i k hi => by simp at hi)
  · cases h

def dOptr {C : Type} {D : C → Type} [DecidableEq C] (u : C) : S C D → Option (Option (D u))
  | .optr v x => if h : v = u then some (h ▸ x) else none
  | .iptr v x 0 => if h : v = u then some (some (h ▸ x)) else none
  | .val (.pointer none) => some none
  | _ => none
theorem dOptr_le {inst : DecidableEq U.C} {u : U.C} {x : U.S} {n : Option (U.D u)} {v : Value} (h : @dOptr _ _ inst u x = some n) (hr : R U c x v) : R U c (.optr u n) v := by
  unfold dOptr at h
  split at h
  · split at h
    · rename_i e
      subst e
      cases h
      exact hr
    · cases h
  · split at h
    · rename_i e
      subst e
      cases h
      cases hr with
      | iptr g hi hrr => exact .osome g hi hrr
    · cases h
  · cases h
    cases R.valEq hr
    exact .onil
  · cases h

/-! ### structs, leaf by leaf -/
inductive Lf (C : Type) where
  | int (k : IntKind)
  | bool
  | str
  | list (u : C)
  | box (u : C)
  | row (u : C)
  | olist (u : C)
  | aarr (u : C) (n : Nat)
  | hole

abbrev Lf.T {C : Type} (D : C → Type) : Lf C → Type
  | .int _ => Int
  | .bool => Bool
  | .str => ByteArray
  | .list u => List (D u)
  | .box u => Option (D u)
  | .row u => List (D u)
  | .olist u => List (D u)
  | .aarr u _ => Nat → D u
  | .hole => Unit

abbrev HL {C : Type} (D : C → Type) : List (Lf C) → Type
  | [] => Unit
  | l :: r => l.T D × HL D r

def Lf.enc {C : Type} {D : C → Type} : (l : Lf C) → l.T D → S C D
  | .int k, n => .val (.int k n)
  | .bool, b => .val (.bool b)
  | .str, s => .val (.string s)
  | .list u, xs => .isl .none u xs
  | .box u, x => .box u x
  | .row u, x => .row u x
  | .olist u, x => .olist u x
  | .aarr u n, f => .aarr u n f
  | .hole, _ => .hole

def dBox {C : Type} {D : C → Type} [DecidableEq C] (u : C) : S C D → Option (Option (D u))
  | .box v x => if h : v = u then some (h ▸ x) else none
  | _ => none
def dRow {C : Type} {D : C → Type} [DecidableEq C] (u : C) : S C D → Option (List (D u))
  | .row v x => if h : v = u then some (h ▸ x) else none
  | _ => none
def dOlist {C : Type} {D : C → Type} [DecidableEq C] (u : C) : S C D → Option (List (D u))
  | .olist v x => if h : v = u then some (h ▸ x) else none
  | _ => none
def dAarr {C : Type} {D : C → Type} [DecidableEq C] (u : C) (n : Nat) : S C D → Option (Nat → D u)
  | .aarr v m x => if h : v = u then (if m = n then some (h ▸ x) else none) else none
  | _ => none
def dHole {C : Type} {D : C → Type} : S C D → Option Unit
  | .hole => some ()
  | _ => none

def Lf.dec {C : Type} {D : C → Type} [DecidableEq C] : (l : Lf C) → S C D → Option (l.T D)
  | .int k, x => dInt k x
  | .bool, x => dBool x
  | .str, x => dStr x
  | .list u, x => dList u x
  | .box u, x => dBox u x
  | .row u, x => dRow u x
  | .olist u, x => dOlist u x
  | .aarr u n, x => dAarr u n x
  | .hole, x => dHole x

def encL {C : Type} {D : C → Type} : (ls : List (Lf C)) → HL D ls → List (S C D)
  | [], _ => []
  | l :: r, t => l.enc t.1 :: encL r t.2

def decL {C : Type} {D : C → Type} [DecidableEq C] : (ls : List (Lf C)) → List (S C D) → Option (HL D ls)
  | [], [] => some ()
  | l :: r, x :: xs => match l.dec x, decL r xs with
    | some t, some ts => some (t, ts)
    | _, _ => none
  | _, _ => none

theorem dInt_cell {k : IntKind} {x : U.S} {n : Int} (h : dInt k x = some n) : SLe U x (.val (.int k n)) :=
  ⟨(by unfold dInt at h; split at h <;> first | rfl | cases h), fun c v hr => dInt_le h hr, fun hc => (by unfold dInt at h; split at h <;> first | cases hc | cases h)⟩
theorem dBool_cell {x : U.S} {n : Bool} (h : dBool x = some n) : SLe U x (.val (.bool n)) :=
  ⟨(by unfold dBool at h; split at h <;> first | rfl | cases h), fun c v hr => dBool_le h hr, fun hc => (by unfold dBool at h; split at h <;> first | cases hc | cases h)⟩
theorem dStr_cell {x : U.S} {n : ByteArray} (h : dStr x = some n) : SLe U x (.val (.string n)) :=
  ⟨(by unfold dStr at h; split at h <;> first | rfl | cases h), fun c v hr => dStr_le h hr, fun hc => (by unfold dStr at h; split at h <;> first | cases hc | cases h)⟩
theorem dList_cell {inst : DecidableEq U.C} {u : U.C} {x : U.S} {n : List (U.D u)} (h : @dList _ _ inst u x = some n) : SLe U x (.isl .none u n) :=
  ⟨(by unfold dList at h; split at h <;> first | rfl | cases h), fun c v hr => dList_le h hr, fun hc => (by unfold dList at h; split at h <;> first | cases hc | cases h)⟩
theorem dOptr_cell {inst : DecidableEq U.C} {u : U.C} {x : U.S} {n : Option (U.D u)} (h : @dOptr _ _ inst u x = some n) : SLe U x (.optr u n) :=
  ⟨(by unfold dOptr at h; split at h <;> first | rfl | cases h), fun c v hr => dOptr_le h hr, fun hc => (by unfold dOptr at h; split at h <;> first | cases hc | cases h)⟩

theorem Lf.dec_cell {inst : DecidableEq U.C} {l : Lf U.C} {x : U.S} {t : l.T U.D} (h : @Lf.dec _ _ inst l x = some t) : SLe U x (l.enc t) := by
  cases l with
  | int k => exact dInt_cell h
  | bool => exact dBool_cell h
  | str => exact dStr_cell h
  | list u => exact dList_cell h
  | box u =>
    simp only [Lf.dec] at h
    unfold dBox at h
    split at h
    · split at h
      · rename_i e; subst e; cases h; exact .refl _
      · cases h
    · cases h
  | row u =>
    simp only [Lf.dec] at h
    unfold dRow at h
    split at h
    · split at h
      · rename_i e; subst e; cases h; exact .refl _
      · cases h
    · cases h
  | olist u =>
    simp only [Lf.dec] at h
    unfold dOlist at h
    split at h
    · split at h
      · rename_i e; subst e; cases h; exact .refl _
      · cases h
    · cases h
  | aarr u n =>
    simp only [Lf.dec] at h
    unfold dAarr at h
    split at h
    · split at h
      · rename_i e
        subst e
        split at h
        · rename_i e; subst e; cases h; exact .refl _
        · cases h
      · cases h
    · cases h
  | hole =>
    simp only [Lf.dec] at h
    unfold dHole at h
    split at h
    · cases h; exact .refl _
    · cases h

theorem decL_cell {inst : DecidableEq U.C} : ∀ {ls : List (Lf U.C)} {l : List U.S} {t : HL U.D ls}, @decL _ _ inst ls l = some t →
    l.length = ls.length ∧ ∀ (k : Nat) y, l[k]? = some y → ∃ z, (encL ls t)[k]? = some z ∧ SLe U y z
  | [], [], t, h => ⟨rfl, fun k y hk => by simp at hk⟩
  | f :: r, x :: xs, t, h => by
    unfold decL at h
    split at h
    · rename_i t1 t2 h1 h2
      cases h
      obtain ⟨h3, h4⟩ := decL_cell h2
      refine ⟨by simp [h3], fun k y hk => ?_⟩
      cases k with
      | zero => simp at hk; subst hk; exact ⟨_, rfl, Lf.dec_cell h1⟩
      | succ k => simp at hk; simpa [encL] using h4 k y hk
    · cases h
  | [], x :: xs, t, h => by cases h
  | f :: r, [], t, h => by cases h

/-- one cell -/
theorem one_cell {x z : U.S} (h : SLe U x z) : [x].length = 1 ∧ ∀ (k : Nat) y, [x][k]? = some y → ∃ z', [z][k]? = some z' ∧ SLe U y z' :=
  ⟨rfl, fun k y hk => by
    cases k with
    | zero => simp at hk; subst hk; exact ⟨z, rfl, h⟩
    | succ k => simp at hk⟩

theorem partL {α : Type} (l : List α) (o s o' : Nat) (h : o' = o + s) : l.drop o = (l.drop o).take s ++ l.drop o' := by
  subst h
  rw [← List.drop_drop, List.take_append_drop]

theorem u8_back {n : Int} (hb : 0 ≤ n ∧ n < 256) : ((UInt8.ofNat n.toNat).toNat : Int) = n := by
  have h1 : n.toNat < 256 := by omega
  rw [UInt8.toNat_ofNat_of_lt' (by simpa using h1)]
  omega

theorem byte_le {n : Int} {v : Value} (hr : R U c (.val (.int .u8 n)) v) : R U c (.val (.int .u8 ((UInt8.ofNat n.toNat).toNat : Int))) v := by
  rw [u8_back (u8_okV hr.okV)]; exact hr

theorem byte_cell {n : Int} (hb : True) : SLe U (.val (.int .u8 n)) (.val (.int .u8 ((UInt8.ofNat n.toNat).toNat : Int))) :=
  ⟨rfl, fun c v hr => byte_le hr, fun h => by cases h⟩

theorem u8_le {x : U.S} {b : UInt8} {v : Value} {n : Int} (h : x = .val (.int .u8 n)) (hb : 0 ≤ n ∧ n < 256) (he : b = UInt8.ofNat n.toNat) (hr : R U c x v) : R U c (.val (.int .u8 (b.toNat : Int))) v := by
  subst h; subst he
  have : ((UInt8.ofNat n.toNat).toNat : Int) = n := by
    have h1 : n.toNat < 256 := by omega
    rw [UInt8.toNat_ofNat_of_lt' (by simpa using h1)]
    omega
  rw [this]; exact hr
end Go.Rf
namespace Go.Rf
set_option linter.unusedVariables false
variable {U : Univ} {P : Program}

/-! ### the callees so far -/
def noΓ : Nat → Option (Native U) := fun _ => none
theorem noΓ_ok : GammaOK U P noΓ := fun f N h => by cases h

def addΓ (f : Nat) (N : Native U) (Γ : Nat → Option (Native U)) : Nat → Option (Native U) := fun n => bif Nat.beq n f then some N else Γ n
theorem addΓ_ok {f : Nat} {N : Native U} {Γ : Nat → Option (Native U)} (h : GammaOK U P Γ) (hN : NativeOK U P f N) : GammaOK U P (addΓ f N Γ) := by
  intro n M hM
  unfold addΓ at hM
  cases hb : Nat.beq n f with
  | true => rw [hb] at hM; cases hM; rw [nbeq hb]; exact hN
  | false => rw [hb] at hM; exact h n M hM

/-- no function: a mark that arrays of a type are opened -/
def noNat : Native U := fun _ _ _ => .fail
theorem noNat_ok {f : Nat} : NativeOK U P f noNat := fun as h nx out ho => (outs_fail ho).elim

/-- what never comes to an end in time tells nothing -/
theorem native_none {g : Sig U} {f : Nat} : NativeOK U P f (g.native fun _ _ => none) := by
  have h0 : ∀ as (h : Heap U) nx out, (g.native0 (fun _ _ => none) as h nx).outs = some out → False := fun as h nx out ho => by
    unfold Sig.native0 at ho
    split at ho
    · split at ho
      · split at ho
        · revert ho
          generalize distinct _ = d
          intro ho
          cases d <;> cases ho
        · exact outs_fail ho
      · exact outs_fail ho
    · exact outs_fail ho
  intro as h' nx out ho
  unfold Sig.native at ho
  split at ho
  · exact (h0 _ _ _ _ ho).elim
  · obtain ⟨o, h1, _⟩ := addW_outs ho
    exact (h0 _ _ _ _ h1).elim

theorem some_bif {α : Type} {c : Bool} {x y : α} : (bif c then some x else some y) = some (bif c then x else y) := by cases c <;> rfl

/-- hints with loops -/
theorem hints_of_loops {Hn : Hints U} (hU : U.Ok) (hP : U.Pure) (hm : P.follows .mixedOrders = true) (hΓ : GammaOK U P Hn.Γ) {l : List Code} (hl : ∀ b N, .loop b ∈ l → Hn.loop (firstRegion b) = some N → LoopOK U P Hn.ro Hn.base b N)
    (hs : ∀ b lb rest N, .scope b ∈ l → findLabel b lb = some rest → Hn.label lb = some N → LabelOK U P Hn.ro Hn.base b rest N) (hi : InlOK U P Hn.ro Hn.inl) : HintsOK U P Hn (fun c => c ∈ l) :=
  ⟨hU, hP, hm, hΓ, hl, hs, hi⟩

theorem inl_none {ro : Nat} {I : Nat → Option (NatC U)} (h : ∀ f, I f = none) : InlOK U P ro I := fun f N hN => by rw [h] at hN; cases hN
def addI (f : Nat) (N : NatC U) (I : Nat → Option (NatC U)) : Nat → Option (NatC U) := fun n => bif Nat.beq n f then some N else I n
def noI : Nat → Option (NatC U) := fun _ => none
theorem noI_ok {ro : Nat} : InlOK U P ro noI := fun f N h => by cases h
theorem addI_ok {ro f : Nat} {N : NatC U} {I : Nat → Option (NatC U)} (h : InlOK U P ro I) (hN : NatCOK U P ro f N) : InlOK U P ro (addI f N I) := by
  intro n M hM
  unfold addI at hM
  cases hb : Nat.beq n f with
  | true => rw [hb] at hM; cases hM; rw [nbeq hb]; exact hN
  | false => rw [hb] at hM; exact h n M hM

/-- a loop of a few rounds, round by round -/
def unrollN (P : Program) (Hn : Hints U) (gos : Nat) (b : Code) : Nat → LoopN U
  | 0, ρ, st, fail, K => fail
  | n + 1, ρ, st, fail, K => run P Hn gos ρ fail b st fun e st => match e with
    | .normal => unrollN P Hn gos b n ρ st fail K
    | e => K e st

theorem unrollN_ok {Hn : Hints U} {L : Code → Prop} (hH : HintsOK U P Hn L) {gos : Nat} {b : Code} (hL : ∀ b', b' ∈ loopsOf b → L b') : ∀ (n : Nat), LoopOK U P Hn.ro Hn.base b (unrollN P Hn gos b n)
  | 0 => fun ρ S fail hf st K h => (hf h).elim
  | n + 1 => fun ρ S fail hf st K h B a w hro hA => by
    refine LoopIn.round (wp_mono (run_ok hH gos b hL ρ S fail hf st _ h B a w hro hA) fun e a' w' ⟨st', h1, h2⟩ => ?_)
    cases e with
    | normal => exact unrollN_ok hH hL n ρ S fail hf st' K h1 B a' w' hro h2
    | exit i => exact ⟨st', h1, h2⟩
    | goto l => exact ⟨st', h1, h2⟩
    | ret => exact ⟨st', h1, h2⟩
    | panic ch => exact ⟨st', h1, h2⟩
    | outgrown => exact ⟨st', h1, h2⟩


section
variable {Hn : Hints U} {l : List Code}
theorem loops_nil : ∀ b N, Code.loop b ∈ ([] : List Code) → Hn.loop (firstRegion b) = some N → LoopOK U P Hn.ro Hn.base b N := fun b N h => by cases h
theorem loops_cons {b0 : Code} {N0 : LoopN U} (h0 : Hn.loop (firstRegion b0) = some N0) (hN : LoopOK U P Hn.ro Hn.base b0 N0) (hl : ∀ b N, Code.loop b ∈ l → Hn.loop (firstRegion b) = some N → LoopOK U P Hn.ro Hn.base b N) :
    ∀ b N, Code.loop b ∈ Code.loop b0 :: l → Hn.loop (firstRegion b) = some N → LoopOK U P Hn.ro Hn.base b N := fun b N h hb => by
  rcases List.mem_cons.1 h with h | h
  · cases h
    rw [h0] at hb; cases hb; exact hN
  · exact hl b N h hb
theorem loops_skip {b0 : Code} (hl : ∀ b N, Code.loop b ∈ l → Hn.loop (firstRegion b) = some N → LoopOK U P Hn.ro Hn.base b N) :
    ∀ b N, Code.loop b ∈ Code.scope b0 :: l → Hn.loop (firstRegion b) = some N → LoopOK U P Hn.ro Hn.base b N := fun b N h hb => by
  rcases List.mem_cons.1 h with h | h
  · cases h
  · exact hl b N h hb
theorem labels_none (h : ∀ lb, Hn.label lb = none) : ∀ b lb rest N, Code.scope b ∈ l → findLabel b lb = some rest → Hn.label lb = some N → LabelOK U P Hn.ro Hn.base b rest N := fun b lb rest N _ _ hN => by rw [h] at hN; cases hN
theorem labels_nil : ∀ b lb rest N, Code.scope b ∈ ([] : List Code) → findLabel b lb = some rest → Hn.label lb = some N → LabelOK U P Hn.ro Hn.base b rest N := fun b lb rest N h => by cases h
theorem labels_skip {b0 : Code} (hl : ∀ b lb rest N, Code.scope b ∈ l → findLabel b lb = some rest → Hn.label lb = some N → LabelOK U P Hn.ro Hn.base b rest N) :
    ∀ b lb rest N, Code.scope b ∈ Code.loop b0 :: l → findLabel b lb = some rest → Hn.label lb = some N → LabelOK U P Hn.ro Hn.base b rest N := fun b lb rest N h => by
  rcases List.mem_cons.1 h with h | h
  · cases h
  · exact hl b lb rest N h
theorem labels_cons {b0 : Code} (h0 : ∀ lb rest N, findLabel b0 lb = some rest → Hn.label lb = some N → LabelOK U P Hn.ro Hn.base b0 rest N) (hl : ∀ b lb rest N, Code.scope b ∈ l → findLabel b lb = some rest → Hn.label lb = some N → LabelOK U P Hn.ro Hn.base b rest N) :
    ∀ b lb rest N, Code.scope b ∈ Code.scope b0 :: l → findLabel b lb = some rest → Hn.label lb = some N → LabelOK U P Hn.ro Hn.base b rest N := fun b lb rest N h => by
  rcases List.mem_cons.1 h with h | h
  · cases h; exact h0 lb rest N
  · exact hl b lb rest N h
/-- a scope with one label that is gone back to -/
theorem label_one {b0 r0 : Code} {l0 : Nat} {N0 : LoopN U} (hr : findLabel b0 l0 = some r0) (h0 : ∀ lb, Hn.label lb = bif Nat.beq lb l0 then some N0 else none) (hN : LabelOK U P Hn.ro Hn.base b0 r0 N0) :
    ∀ lb rest N, findLabel b0 lb = some rest → Hn.label lb = some N → LabelOK U P Hn.ro Hn.base b0 rest N := fun lb rest N h1 h2 => by
  rw [h0] at h2
  cases hb : Nat.beq lb l0 with
  | false => rw [hb] at h2; cases h2
  | true =>
    rw [hb] at h2; cases h2
    have := nbeq hb
    subst this
    rw [hr] at h1; cases h1; exact hN
theorem label_other {b0 : Code} {l0 : Nat} {N0 : LoopN U} (hr : findLabel b0 l0 = none) (h0 : ∀ lb, Hn.label lb = bif Nat.beq lb l0 then some N0 else none) :
    ∀ lb rest N, findLabel b0 lb = some rest → Hn.label lb = some N → LabelOK U P Hn.ro Hn.base b0 rest N := fun lb rest N h1 h2 => by
  rw [h0] at h2
  cases hb : Nat.beq lb l0 with
  | false => rw [hb] at h2; cases h2
  | true =>
    have := nbeq hb
    subst this
    rw [hr] at h1; cases h1
end
end Go.Rf
namespace Go.Rf
set_option linter.unusedVariables false
open Go.ChangeShapes Go.RowKit
section
variable {H : Type} {enc : TypeId × Value → H} {P : Program} {W W' : World}

/-- no elements, with their type told -/
abbrev lnil (α : Type) : List α := []
abbrev ofN (n : Nat) : Int := n

theorem trodAll_lt : ∀ {ts : List TypeId} {vs : List Value} {ds : List (DataW H)} {ps : List MemPlace}, DataW.TrodAll enc P W 0 (fun _ => true) true ts vs ds ps → ∀ x ∈ ps, x.block < W.heap.size
  | [], vs, ds, ps, h, x, hx => by
    obtain ⟨rfl, rfl, rfl⟩ := trodAll_nil h
    cases hx
  | t :: ts, vs, ds, ps, h, x, hx => by
    obtain ⟨v, vs', d, ds', p, q, rfl, rfl, rfl, h1, h2⟩ := trodAll_cons h
    rcases List.mem_append.1 hx with hx | hx
    · obtain ⟨m, hm⟩ := h1
      exact DataW.trod_lt m _ _ _ hm x hx
    · exact trodAll_lt h2 x hx

/-- all arguments read behind the call as before -/
theorem trodAll_back (hl : laidOutB P = true) (bel : Below W.heap.size W W') : ∀ {ts : List TypeId} {vs : List Value} {ds : List (DataW H)} {ps : List MemPlace}, (∀ t ∈ ts, P.readableRec t = true ∧ t < P.types.size) →
    DataW.TrodAll enc P W 0 (fun _ => true) true ts vs ds ps → DataW.TrodAll enc P W' 0 (fun b => decide (b < W.heap.size)) true ts vs ds ps
  | [], vs, ds, ps, ht, h => by
    obtain ⟨rfl, rfl, rfl⟩ := trodAll_nil h
    exact trodAll_mk0
  | t :: ts, vs, ds, ps, ht, h => by
    obtain ⟨v, vs', d, ds', p, q, rfl, rfl, rfl, h1, h2⟩ := trodAll_cons h
    refine trodAll_cons_mk ?_ (trodAll_back hl bel (fun t ht' => ht t (List.mem_cons_of_mem _ ht')) h2)
    obtain ⟨h3, h4⟩ := ht t (List.mem_cons_self ..)
    refine Below.trod hl h3 h4 h1 bel fun x hx => ?_
    obtain ⟨m, hm⟩ := h1
    exact DataW.trod_lt m _ _ _ hm x hx
end
end Go.Rf
