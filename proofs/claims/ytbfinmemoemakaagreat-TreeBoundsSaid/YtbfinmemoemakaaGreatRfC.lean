/- An evaluator of the model's code, and the proof that it is sound. Own work; no program in it. -/
import Derived.Test.YtbfinmemoemakaaGreatRfB
namespace Go.Rf
set_option linter.unusedVariables false
set_option linter.unusedSimpArgs false
variable {U : QV} {P : Program} {c : Cx} {Φ : Nat -> Nat -> Nat -> Prop} {h : Qr U} {nx : Nat} {w : World}
def PlF (c:Cx) (w:World) (b o:Nat) (cells:List U.S) (F:Nat->Nat->Prop):Prop:=
 ∃G,Pl U c w b o cells G/\∀b' o',F b' o'↔∃k,k < cells.length/\G k b' o'
theorem Qa6 (hU:U.Ok) {b o k n:Nat} {F:Nat->Nat->Prop} {v:U.C} {cells cells':List U.S} (hp:Z4o k v n cells=some cells') (hE:PlF c w b o cells F):PlF c w b o cells' F/\cells'.length=cells.length:=by
 unfold Z4o at hp
 cases hb:Nat.beq (QM k (n*U.size v) cells).length (n*U.size v) && (QM k (n*U.size v) cells).all Z25 && Nat.ble 1 (n*U.size v) with
 |false=>rw [hb] at hp;cases hp
 |true=>
  rw [hb] at hp
  simp only [cond_true] at hp
  simp only [Bool.and_eq_true] at hb
  obtain ⟨⟨h1,_⟩,h2⟩:=hb
  have h1:=QH h1
  have h2:=Nat.le_of_ble_eq_true h2
  split at hp
  ·rename_i xs hx
   cases hp
   obtain ⟨Gk,hP,hΦ⟩:=hE
   obtain ⟨hxl,hxa⟩:=Z3b _ _ _ hx
   have hcl:k+n*U.size v<=cells.length:=by
    have:=h1;unfold QM at this;simp at this;omega
   have hnl:(S.Q1n v n (λj=>xs.getD j (U.dft v))::List.replicate (n*U.size v - 1) S.hole:List U.S).length=n*U.size v:=by simp;omega
   have hle:k+(S.Q1n v n (λj=>xs.getD j (U.dft v))::List.replicate (n*U.size v - 1) S.hole:List U.S).length<=cells.length:=by rw [hnl];exact hcl
   refine ⟨⟨λj b' o'=>if k<=j/\j < k+n*U.size v then (j=k/\∃i,i < n*U.size v/\Gk (k+i) b' o') else Gk j b' o',⟨λj x hj=>?_,λi j b' o' hi hj hne f1 f2=>?_⟩,λb' o'=>?_⟩,Zo hle⟩
   ·try dsimp only
    by_cases hin:k<=j/\j < k+n*U.size v
    ·obtain ⟨i,rfl⟩:∃i,j=k+i:=⟨j - k,by omega⟩
     rw [Zw hle (by rw [hnl];omega)] at hj
     simp only [if_pos hin]
     cases i with
     |zero=>
      simp at hj;subst hj
      refine .Q1n (λj=>Gk (k+j)) (λq x hq=>?_) (λj1 j2 b' o' q1 q2 q3=>hP.dis _ _ b' o' (by omega) (by omega) (by omega)) λb' o'=>⟨λhh=>hh.2,λhh=>⟨by omega,hh⟩⟩
      obtain ⟨i,k',hi,hk',rfl,hx'⟩:=Z2K hU v n _ hq
      have hle2:i*U.size v+U.size v<=n*U.size v:=by
       have:(i+1)*U.size v<=n*U.size v:=Nat.mul_le_mul_right _ hi
       rwa [Nat.succ_mul] at this
      have h3:=hxa i hi
      rw [Z58 hle2] at h3
      have h4:=((hP.sub (off:=k+i*U.size v) (n:=U.size v) (hU.Q49 _ _ _ h3)).dec hU h3).own k' x hx'
      rw [show o+(k+0)+(i*U.size v+k')=o+(k+i*U.size v)+k' by omega,show k+(i*U.size v+k')=k+i*U.size v+k' by omega]
      exact h4
     |succ i=>
      have hj':i < n*U.size v - 1:=by omega
      simp [List.getElem?_replicate,hj'] at hj
      subst hj
      exact .hole λ_ _ hh=>by have:=hh.1;omega
    ·rw [Zp hle (by rw [hnl];omega)] at hj
     simp only [if_neg hin]
     exact hP.own j x hj
   ·rw [Zo hle] at hi hj
    try dsimp only at f1 f2
    by_cases hi':k<=i/\i < k+n*U.size v
    ·rw [if_pos hi'] at f1
     obtain ⟨rfl,q,hq,f1⟩:=f1
     by_cases hj':i<=j/\j < i+n*U.size v
     ·rw [if_pos hj'] at f2
      exact hne f2.1.symm
     ·rw [if_neg hj'] at f2
      exact hP.dis (i+q) j b' o' (by omega) hj (by omega) f1 f2
    ·rw [if_neg hi'] at f1
     by_cases hj':k<=j/\j < k+n*U.size v
     ·rw [if_pos hj'] at f2
      obtain ⟨rfl,q,hq,f2⟩:=f2
      exact hP.dis i (j+q) b' o' hi (by omega) (by omega) f1 f2
     ·rw [if_neg hj'] at f2
      exact hP.dis i j b' o' hi hj hne f1 f2
   ·rw [Zo hle,hΦ]
    constructor
    ·rintro ⟨j,hj,hf⟩
     by_cases hin:k<=j/\j < k+n*U.size v
     ·exact ⟨k,by omega,by dsimp only;rw [if_pos ⟨Nat.le_refl _,by omega⟩];exact ⟨rfl,j - k,by omega,by rw [show k+(j - k)=j by omega];exact hf⟩⟩
     ·exact ⟨j,hj,by dsimp only;rw [if_neg hin];exact hf⟩
    ·rintro ⟨j,hj,hf⟩
     try dsimp only at hf
     by_cases hin:k<=j/\j < k+n*U.size v
     ·rw [if_pos hin] at hf
      obtain ⟨_,q,hq,hf⟩:=hf
      exact ⟨k+q,by omega,hf⟩
     ·rw [if_neg hin] at hf
      exact ⟨j,hj,hf⟩
  ·cases hp
theorem QaD (hU:U.Ok) {s k n:Nat} {F:Nat->Nat->Prop} {v:U.C} {cells cells':List U.S} (hp:Z4o k v n cells=some cells') (hE:Q1s c w s F (.obj cells:Ent U)):Q1s c w s F (.obj cells':Ent U):=by
 obtain ⟨b,o,G,e1,e2,hP,hF⟩:=hE
 obtain ⟨⟨G',h1,h2⟩,_⟩:=Qa6 hU hp ⟨G,hP,hF⟩
 exact ⟨b,o,G',e1,e2,h1,h2⟩
theorem Z5l (hU:U.Ok) {s:Nat} {F:Nat->Nat->Prop}:∀(tm:List U.S) (k:Nat) (cells:List U.S),Q1s c w s F (.obj cells:Ent U)->Q1s c w s F (.obj (Q7B tm k cells):Ent U)
 | [],k,cells,h=>h
 |x::r,k,cells,h=>by
  unfold Q7B
  split
  ·rename_i h1;cases h1
  ·rename_i v n f r' k' cells' heq
   cases heq
   refine Z5l hU _ _ _ ?_
   split
   ·exact h
   ·split
    ·rename_i l hl;exact QaD hU hl h
    ·exact h
  ·rename_i x' r' k' cells' hne heq
   cases heq
   exact Z5l hU _ _ _ h
theorem Q9E {α:Type} {k j:Nat} {x:α} {l:List α} (hk:k < l.length):(Zn k x l)[j]? =if j=k then some x else l[j]? :=by
 unfold Zn
 by_cases e:j=k
 ·subst e
  rw [if_pos rfl]
  have:=Zw (off:=j) (k:=0) (new:= [x]) (l:=l) (by simp;omega) (by simp)
  rw [Nat.add_zero] at this
  rw [this];rfl
 ·rw [if_neg e,Zp (by simp;omega) (by simp;omega)]
theorem Z3q {α:Type} {k:Nat} {x:α} {l:List α} (hk:k < l.length):(Zn k x l).length=l.length:=by unfold Zn;exact Zo (by simp;omega)
theorem Z2D {b o:Nat} {u:U.C} {xs:List (U.D u)} {Gk:Nat->Nat->Prop} (h:Own U c w b o (.isl .full u xs) Gk):Own U c w b o (.Q2d u xs) (λb' o'=>Gk b' o'\/False):=by
 obtain ⟨⟨v,h1,h2⟩,h3,h4⟩:=h.plain rfl
 cases h2 with
 | @isl _ _ _ a cap b1 o1 g hc ht ha hi hr=>
  have ht:cap=xs.length:=ht
  subst ht
  exact .Q2d (b1:=b1) (o1:=o1) g h1 h3 (Nat.le_refl _) (λhpos=>ha hpos) hi hr (λx q1 q2=>by omega) (λ_ q1 q2=>by omega) λb' o'=>by
   rw [h4]
   constructor
   ·rintro (h|h)
    ·exact .inl h
    ·exact h.elim
   ·rintro (h|h)
    ·exact .inl h
    ·omega
theorem Z85 {b o:Nat} {F:Nat->Nat->Prop} {cells:List U.S} (hE:PlF c w b o cells F) {k:Nat} {x:U.S} (hk:k < cells.length)
  (hx:∀G,Pl U c w b o cells G->Own U c w b (o+k) x (G k)):PlF c w b o (Zn k x cells) F:=by
 obtain ⟨G,hP,hF⟩:=hE
 refine ⟨G,⟨λj y hj=>?_,λi j b' o' hi hj hne f1 f2=>?_⟩,λb' o'=>?_⟩
 ·rw [Q9E hk] at hj
  by_cases e:j=k
  ·subst e
   rw [if_pos rfl] at hj;cases hj
   exact hx G hP
  ·rw [if_neg e] at hj
   exact hP.own j y hj
 ·rw [Z3q hk] at hi hj
  exact hP.dis i j b' o' hi hj hne f1 f2
 ·rw [Z3q hk];exact hF b' o'
theorem Z84 {G:Nat->Nat->Prop}:(λb' o'=>G b' o'\/False)=G:=by funext b' o';simp
theorem Z70 (hU:U.Ok) {b o:Nat} {F:Nat->Nat->Prop}:∀(tm:List U.S) (k:Nat) (cells:List U.S),PlF c w b o cells F->PlF c w b o (Z2B tm k cells) F/\(Z2B tm k cells).length=cells.length
 | [],k,cells,h=>⟨h,rfl⟩
 |x::r,k,cells,h=>by
  have step:∀l:List U.S,PlF c w b o l F/\l.length=cells.length->PlF c w b o (Z2B r (k+1) l) F/\(Z2B r (k+1) l).length=cells.length:=λl ⟨h1,h2⟩=>by
   obtain ⟨h3,h4⟩:=Z70 hU r (k+1) l h1
   exact ⟨h3,h4.trans h2⟩
  cases x with
  |Q1n v n f=>
   refine step _ ?_
   split
   ·rename_i l hl;exact Qa6 hU hl h
   ·exact ⟨h,rfl⟩
  |Q2d u ys=>
   refine step _ ?_
   split
   ·rename_i v xs hc
    split
    ·rename_i e _
     subst e
     have hk:=(List.getElem?_eq_some_iff.1 hc).1
     exact ⟨Z85 h hk λG hP=>Z84 (G:=G k)▸Z2D (hP.own k _ hc),Z3q hk⟩
    ·exact ⟨h,rfl⟩
   ·rename_i hc
    have hk:=(List.getElem?_eq_some_iff.1 hc).1
    exact ⟨Z85 h hk λG hP=>Z84 (G:=G k)▸Z2D (Own.le (hP.own k _ hc) ⟨rfl,λc v hr=>by
     cases R.Q1z hr
     exact R.isl (xs:= []) (b:=0) (o:=0) (λ_ _=>undef) (Nat.le_refl _) (by rfl) (λhh=>by simp at hh) (λi k hi=>by simp at hi) (λi k hi=>by simp at hi),λh=>by cases h⟩),Z3q hk⟩
   ·exact ⟨h,rfl⟩
  |_=>exact step _ ⟨h,rfl⟩
theorem PlF.dec (hU:U.Ok) {b o:Nat} {l:List U.S} {u:U.C} {x:U.D u} {F:Nat->Nat->Prop} (h:PlF c w b o l F) (hd:U.dec u l=some x):PlF c w b o (U.enc u x) F:=
 let ⟨G,hP,hF⟩:=h
 ⟨G,hP.dec hU hd,λb' o'=>by rw [hF,hU.QD,←hU.Q49 u l x hd]⟩
theorem QB.QaQ (hU:U.Ok) {F n:Nat} {u:U.C} {f:Nat->U.D u} {x:U.D u} {l:List U.S} {vs:List Value} {t:TypeId} (hg:G U c Φ h w) (hk:get h F=some (.fam false u n f)) (hF:F < U.nf)
  (hl:RL U c l vs) {tm:List U.S} (hd:U.dec u (Z2B tm 0 l)=some x):
  ∃c' Φ',QB U c Φ h nx { v:=Rf.sc (.ptr F n 0),rd:= [F],w:= [(F,.fam false u (n+1) (QA f n x))]} w c' Φ' (.pointer (some (at_ w.heap.size 0))) (w.alloc (.cells vs.toArray t)):=by
 have hsome:(get h F).isSome:=by rw [hk];rfl
 have hE:=hg.Q1M F _ hk
 obtain ⟨A,Gn,h0,h1,h2,h3,h4,_⟩:=id hE
 let c':Cx:={ L:=λt i=>if t=F/\i=n then some (w.heap.size,0) else c.L t i,I:=c.I}
 have hcn:c.L F n=none:=by
  cases hx:c.L F n with
  |none=>rfl
  |some q=>have:=h1 n q hx;omega
 have hc:c.Le c':=⟨λt i q hq=>by
  by_cases e:t=F/\i=n
  ·obtain ⟨rfl,rfl⟩:=e;rw [hcn] at hq;cases hq
  ·simp [c',e,hq],λ_ _ _ h=>h⟩
 have hLo:∀t i,t≠F->c'.L t i=c.L t i:=λt i ht=>by simp [c',ht]
 let N:Nat->Nat->Prop:=λb o=>b=w.heap.size/\o < l.length
 let F':Nat->Nat->Prop:=λb o=>Φ F b o\/N b o
 have hlt:∀t b o,(get h t).isSome->Φ t b o->b < w.heap.size:=λt b o ht hf=>hg.lt hU ht hf
 refine ⟨c',fup Φ F F',?_⟩
 refine { le:=hc,L:=λs i hs hs2=>hLo s i λe=>hs2 ⟨e▸hF,by simp [e]⟩,val:= ?_,g:= ?_,fr:=Fr.alloc _ _ _,Q2p:=λs hsn=>?_,Q2g:=λs b o hsn hf=>?_,names:=λs hsn=>?_,Q32:=λ_ _ _ h=>.inl h}
 ·exact .ptr (o:=0) (by simp [c'])
 ·refine hg.put hU hc hLo ?_ (λt _ h1=>(Fr.alloc (λ_ _=>False) w _).agr (λb o hf=>hlt t b o h1 hf) (λ_ _ _ h=>h))
   (λt b o hne h1 hf hF'=>by
    rcases hF' with hF'|hF'
    ·exact hg.apart t F b o hne h1 hsome hf hF'
    ·exact Nat.lt_irrefl _ (hF'.1▸hlt t b o h1 hf))
   (λb o v hv=>(ZN w _ (Zf (hg.imm b o v hv))).trans (hg.imm b o v hv))
   (λt b o _ h1 hf=>hg.Q15 t b o h1 hf)
   (λb o hF'=>?_)
  ·have hold:Agr (Φ F) w (w.alloc (.cells vs.toArray t)):=(Fr.alloc (λ_ _=>False) w _).agr (λb o hf=>hlt F b o hsome hf) (λ_ _ _ h=>h)
   obtain ⟨Gx,hPx,hGx⟩:PlF c' (w.alloc (.cells vs.toArray t)) w.heap.size 0 (U.enc u x) N:=
    (Z70 hU tm 0 l ⟨λk b' o'=>b'=w.heap.size/\o'=0+k,Pl.Qa8 (hl.mono hc) (λk v hv=>by simpa using hv) (λk hk=>by simp),λb' o'=>⟨λhh=>⟨o',hh.2,hh.1,by omega⟩,λ⟨k,h1,h2,h3⟩=>⟨h2,by omega⟩⟩⟩).1.dec hU hd
   have hxn:∀k b o,k < U.size u->Gx k b o->b=w.heap.size:=λk b o hk hf=>((hGx b o).2 ⟨k,by rw [hU.QD];exact hk,hf⟩).1
   refine ⟨λi=>if i=n then (w.heap.size,0) else A i,λi k b o=>if i=n then Gx k b o else Gn i k b o,λi hi=>?_,λi q hq=>?_,λi hi=>?_,λi j k l' b o hi hj hk hl' hne f1 f2=>?_,λb o=>?_,λhh=>by cases hh⟩
   ·by_cases e:i=n
    ·subst e;simp [c']
    ·simp only [if_neg e];rw [show c'.L F i=c.L F i by simp [c',e]];exact h0 i (by omega)
   ·by_cases e:i=n
    ·omega
    ·rw [show c'.L F i=c.L F i by simp [c',e]] at hq
     have:=h1 i q hq;omega
   ·by_cases e:i=n
    ·subst e
     simp only [if_pos rfl,QA]
     exact hPx
    ·simp only [if_neg e,QA]
     exact (h2 i (by omega)).stays hU hc λk hk=>hold.sub λb o hf=>(h4 _ _).2 ⟨i,k,by omega,by rw [←hU.QD u (f i)];exact hk,hf⟩
   ·dsimp only at f1 f2
    have hin:∀i k b o,i < n->k < U.size u->Gn i k b o->b < w.heap.size:=λi k b o hi hk hf=>hlt F b o hsome ((h4 _ _).2 ⟨i,k,hi,hk,hf⟩)
    by_cases e:i=n
    ·rw [if_pos e] at f1
     rw [if_neg (by omega)] at f2
     have:=hin j l' b o (by omega) hl' f2
     have:=hxn k b o hk f1
     omega
    ·rw [if_neg e] at f1
     by_cases e2:j=n
     ·rw [if_pos e2] at f2
      have:=hin i k b o (by omega) hk f1
      have:=hxn l' b o hl' f2
      omega
     ·rw [if_neg e2] at f2
      exact h3 i j k l' b o (by omega) (by omega) hk hl' hne f1 f2
   ·constructor
    ·rintro (hf|hf)
     ·obtain ⟨i,k,hi,hk,hf⟩:=(h4 _ _).1 hf
      exact ⟨i,k,by omega,hk,by dsimp only;rw [if_neg (by omega)];exact hf⟩
     ·obtain ⟨k,hk,hf⟩:=(hGx _ _).1 hf
      exact ⟨n,k,by omega,by rw [hU.QD] at hk;exact hk,by dsimp only;rw [if_pos rfl];exact hf⟩
    ·rintro ⟨i,k,hi,hk,hf⟩
     by_cases e:i=n
     ·rw [if_pos e] at hf
      exact .inr ((hGx _ _).2 ⟨k,by rw [hU.QD];exact hk,hf⟩)
     ·rw [if_neg e] at hf
      exact .inl ((h4 _ _).2 ⟨i,k,by omega,hk,hf⟩)
  ·rcases hF' with hF'|hF'
   ·exact hg.Q15 F b o hsome hF'
   ·cases hI:c.I b o with
    |none=>rfl
    |some v=>
     have:=Zf (hg.imm b o v hI)
     rw [hF'.1] at this
     exact absurd this (Nat.lt_irrefl _)
 ·simp at hsn;simp [fup,hsn]
 ·simp at hsn;subst hsn
  simp [fup] at hf
  rcases hf with hf|hf
  ·exact .inr ⟨s,by simp,hsome,hf⟩
  ·exact .inl (by rw [hf.1];exact Nat.le_refl _)
 ·simp at hsn;subst hsn;exact .inr hsome
theorem Q9A (hU:U.Ok) {t t':TypeId} {h':Qr U} {l:List U.S} {vs:List Value} {out:Out U} (ho:(Q8e nx t l h').outs=some out) (hag:∀s,s∈out.rd\/s∈out.w.map (·.1)->get h s=get h' s)
  (hg:G U c Φ h w) (hf:∀s,nx<=s->s < nx+out.nw->get h s=none/\∀i,c.L s i=none) (hl:RL U c l vs):
  ∃c' Φ',QB U c Φ h nx out w c' Φ' (.pointer (some (at_ w.heap.size 0))) (w.alloc (.cells vs.toArray t')):=by
 have plain:out={ v:=Rf.sc (.ptr nx 0 0),w:= [(nx,.obj l)],nw:=1}->∃c' Φ',QB U c Φ h nx out w c' Φ' (.pointer (some (at_ w.heap.size 0))) (w.alloc (.cells vs.toArray t')):=λe=>by
  subst e
  obtain ⟨h1,h2⟩:=hf nx (Nat.le_refl _) (by simp)
  exact QB.obj hU hg hl h2 h1
 unfold Q8e at ho
 split at ho
 ·rename_i F u hu
  split at ho
  ·rename_i v n f he
   split at ho
   ·rename_i e heq
    subst e
    cases hb:Nat.blt F U.nf with
    |false=>rw [hb] at ho;cases ho
    |true=>
     rw [hb] at ho
     simp only [cond_true] at ho
     split at ho
     ·rename_i x hx
      cases ho
      have he':get h F=some (.fam false v n f):=by rw [hag F (.inl (by simp))];exact he
      exact QB.QaQ hU hg he' (Nat.le_of_ble_eq_true hb) hl hx
     ·cases ho
   ·cases ho
  ·cases ho;exact plain rfl
 ·cases ho;exact plain rfl
theorem Z9U (hU:U.Ok) {t:TypeId} {h':Qr U} {out:Out U} (ho:(Z5m (U:=U) P nx t h').outs=some out) (hag:∀s,s∈out.rd\/s∈out.w.map (·.1)->get h s=get h' s) (hg:G U c Φ h w)
  (hf:∀s,nx<=s->s < nx+out.nw->get h s=none/\∀i,c.L s i=none):
  ∃u w' c' Φ',(Instr.alloc t true (.tuple #[])).run P w= .ok u w'/\QB U c Φ h nx out w c' Φ' u w':=by
 unfold Z5m at ho
 split at ho
 ·rename_i l hl
  obtain ⟨z,hz,hr⟩:=ZZ (c:=c) hl
  obtain ⟨c',Φ',hs1⟩:=Q9A (t':=t) hU ho hag hg hf hr
  refine ⟨_,_,c',Φ',?_,hs1⟩
  simp [Instr.alloc,hz,newVar,newRow,World.alloc_eq]
 ·cases ho
theorem Qb8 (hU:U.Ok) {t:TypeId} {h':Qr U} {a:A U} {out:Out U} {v:Value} (ho:(Z76 nx t a h').outs=some out) (hag:∀s,s∈out.rd\/s∈out.w.map (·.1)->get h s=get h' s) (ha:RA U c a v) (hg:G U c Φ h w)
  (hf:∀s,nx<=s->s < nx+out.nw->get h s=none/\∀i,c.L s i=none):
  ∃u w' c' Φ',(Instr.box t v).run P w= .ok u w'/\QB U c Φ h nx out w c' Φ' u w':=by
 unfold Z76 at ho
 split at ho
 ·rename_i x
  cases hb:x.l.all Ze with
  |false=>rw [hb] at ho;cases ho
  |true=>
   rw [hb] at ho
   obtain ⟨c',Φ',hs1⟩:=Q9A (t':=t) hU ho hag hg hf (RV.cells ha)
   refine ⟨_,_,c',Φ',?_,hs1⟩
   simp [Instr.box,newVar,newRow,World.alloc_eq]
 ·cases ho
end Go.Rf
namespace Go.Rf
set_option linter.unusedVariables false
set_option linter.unusedSimpArgs false
variable {U : QV} {P : Program} {c : Cx} {Φ : Nat -> Nat -> Nat -> Prop} {h : Qr U} {nx : Nat} {w : World}
theorem QB.Q9k {c':Cx} {Φ':Nat->Nat->Nat->Prop} {w':World} {v v2:A U} {rd:List Nat} {es:List (Nat×Ent U)} {nw:Nat} {p p2:Value}
  (h1:QB U c Φ h nx { v:=v,rd:=rd,w:=es,nw:=nw} w c' Φ' p w') (hv:RA U c' v2 p2):QB U c Φ h nx { v:=v2,rd:=rd,w:=es,nw:=nw} w c' Φ' p2 w':=
 { le:=h1.le,L:=h1.L,val:=hv,g:=h1.g,fr:=h1.fr,Q2p:=h1.Q2p,Q2g:=h1.Q2g,names:=h1.names,Q32:=h1.Q32}
theorem Z7B (hU:U.Ok) {s n:Nat} {u:U.C} {f:Nat->U.D u} {F:Nat->Nat->Prop} (hp:U.plain u=true) (h:Q1s c w s F (.fam true u n f:Ent U)):Q1s c w s F (.Q30 u n 0 f:Ent U):=by
 obtain ⟨A,G,h0,h1,h2,h3,h4,h5⟩:=h
 have hc:=hU.Q52 u
 have hcell:∀i k x,i < n->(U.enc u (f i))[k]? =some x->(∃v,w.cell? (at_ (A i).1 ((A i).2+k))=some v/\R U c x v)/\w.frozen? (at_ (A i).1 ((A i).2+k))=false/\∀b' o',G i k b' o'↔(b'=(A i).1/\o'=(A i).2+k):=λi k x hi hx=>by
  have hx':Ze x=true:=by
   have:=hc (f i) hp
   rw [List.all_eq_true] at this
   exact this x (List.mem_of_getElem? hx)
  exact (h2 i hi).cell hx hx'
 refine ⟨A,h0,h1,h5 rfl,hp,λi k x _ hz=>absurd hz (Nat.not_lt_zero _),λi k x hi _ hx=>?_,λb o=>?_⟩
 ·obtain ⟨⟨v,p1,p2⟩,p3,_⟩:=hcell i k x hi hx
  exact ⟨v,p1,p2,p3⟩
 ·rw [h4]
  constructor
  ·rintro ⟨i,k,hi,hk,hf⟩
   have hlt:k < (U.enc u (f i)).length:=by rw [hU.QD];exact hk
   obtain ⟨_,_,h6⟩:=hcell i k _ hi (List.getElem?_eq_getElem hlt)
   obtain ⟨e1,e2⟩:=(h6 b o).1 hf
   exact ⟨i,k,hi,Nat.zero_le _,hk,e1,e2⟩
  ·rintro ⟨i,k,hi,_,hk,e1,e2⟩
   have hlt:k < (U.enc u (f i)).length:=by rw [hU.QD];exact hk
   obtain ⟨_,_,h6⟩:=hcell i k _ hi (List.getElem?_eq_getElem hlt)
   exact ⟨i,k,hi,hk,(h6 b o).2 ⟨e1,e2⟩⟩
theorem Z5J (hU:U.Ok) {s n z z':Nat} {v:U.C} {f:Nat->U.D v} {rd:List Nat} (hg:G U c Φ h w) (hsome:(get h s).isSome) (hE:Q1s c w s (Φ s) (.Q30 v n z f:Ent U)) (hz:z<=z') (hn:z'<=n):
  ∃c' Φ',QB U c Φ h nx { v:= .t [],rd:=rd,w:= [(s,.Q30 v n z' f)]} w c' Φ' undef w:=by
 obtain ⟨A,h0,h1,h2,h3,h4,h5,h6⟩:=hE
 generalize hsz:U.size v=sz at*
 let b:=(A 0).1
 let o:=(A 0).2+z*sz
 let N:=(z' - z)*sz
 have hin:∀o',o<=o'->o' < o+N->∃i k,z<=i/\i < z'/\k < sz/\b=(A i).1/\o'=(A i).2+k:=λo' ha hb=>by
  have hpos:0 < sz:=by
   rcases Nat.eq_zero_or_pos sz with e|e
   ·simp only [N,e,Nat.mul_zero] at hb;omega
   ·exact e
  have hN:z*sz+N=z'*sz:=by
   simp only [N];rw [←Nat.add_mul];congr 1;omega
  have hq1:z*sz<=o' - (A 0).2:=by simp only [o] at ha;omega
  have hq2:o' - (A 0).2 < z'*sz:=by simp only [o] at ha hb;omega
  have hi1:z<=(o' - (A 0).2) / sz:=(Nat.le_div_iff_mul_le hpos).2 hq1
  have hi2:(o' - (A 0).2) / sz < z':=(Nat.div_lt_iff_lt_mul hpos).2 hq2
  have e:=h2 _ (Nat.lt_of_lt_of_le hi2 hn)
  refine ⟨(o' - (A 0).2) / sz,(o' - (A 0).2) % sz,hi1,hi2,Nat.mod_lt _ hpos,by rw [e],?_⟩
  rw [e]
  have:=Nat.div_add_mod (o' - (A 0).2) sz
  rw [Nat.mul_comm] at this
  simp only [o] at ha
  simp only;omega
 have hcell:∀i k,z<=i->i < z'->k < sz->∃u,w.cell? (at_ (A i).1 ((A i).2+k))=some u/\R U c ((U.enc v (f i)).getD k .hole) u/\Φ s (A i).1 ((A i).2+k):=λi k p1 p2 p3=>by
  have hlt:k < (U.enc v (f i)).length:=by rw [hU.QD,hsz];exact p3
  obtain ⟨u,q1,q2,_⟩:=h5 i k _ (by omega) p1 (List.getElem?_eq_getElem hlt)
  exact ⟨u,q1,by rw [getD_of_getElem? (List.getElem?_eq_getElem hlt)];exact q2,(h6 _ _).2 ⟨i,k,by omega,p1,p3,rfl,rfl⟩⟩
 have hfoot:∀o',o<=o'->o' < o+N->∃u,w.cell? (at_ b o')=some u/\Φ s b o':=λo' ha hb=>by
  obtain ⟨i,k,p1,p2,p3,p4,p5⟩:=hin o' ha hb
  obtain ⟨u,q1,_,q3⟩:=hcell i k p1 p2 p3
  rw [p4,p5];exact ⟨u,q1,q3⟩
 have hrange:∀i k,z<=i->i < z'->k < sz->(A i).1=b/\o<=(A i).2+k/\(A i).2+k < o+N:=λi k p1 p2 p3=>by
  have e:=h2 i (by omega)
  have h7:z*sz<=i*sz:=Nat.mul_le_mul_right _ p1
  have h8:(i+1)*sz<=z'*sz:=Nat.mul_le_mul_right _ p2
  rw [Nat.succ_mul] at h8
  have hN:z*sz+N=z'*sz:=by
   simp only [N];rw [←Nat.add_mul];congr 1;omega
  rw [e]
  refine ⟨rfl,?_,?_⟩ <;> simp only [o] <;> omega
 have hle:c.Le (c.freeze w b o N):=⟨λ_ _ _ h=>h,λb' o' u hI=>by
  show (if _ then _ else _)=_
  by_cases hc:b'=b/\o<=o'/\o' < o+N
  ·obtain ⟨rfl,ha,hb⟩:=hc
   obtain ⟨_,_,h8⟩:=hfoot o' ha hb
   have:=hg.Q15 s _ _ hsome h8
   rw [this] at hI;cases hI
  ·rw [if_neg hc];exact hI⟩
 let F':Nat->Nat->Prop:=λb' o'=>∃i k,i < n/\z'<=i/\k < sz/\b'=(A i).1/\o'=(A i).2+k
 have hF':∀b' o',F' b' o'->Φ s b' o':=λb' o' ⟨i,k,p1,p2,p3,p4,p5⟩=>(h6 _ _).2 ⟨i,k,p1,by omega,p3,p4,p5⟩
 have hout:∀b' o',F' b' o'->¬(b'=b/\o<=o'/\o' < o+N):=λb' o' ⟨i,k,p1,p2,p3,p4,p5⟩ ⟨q1,q2,q3⟩=>by
  have e:=h2 i p1
  rw [e] at p5
  simp only at p5
  have h7:z'*sz<=i*sz:=Nat.mul_le_mul_right _ p2
  have hN:z*sz+N=z'*sz:=by
   simp only [N];rw [←Nat.add_mul];congr 1;omega
  simp only [o] at q3;omega
 refine ⟨c.freeze w b o N,fup Φ s F',⟨hle,λ_ _ _ _=>rfl,RA.undef,?_,.refl _ _,?_,?_,?_,?_⟩⟩
 ·have hE:Q1s (c.freeze w b o N) w s F' (.Q30 v n z' f:Ent U):=by
   refine ⟨A,h0,h1,λi hi=>by rw [hsz];exact h2 i hi,h3,λi k x hi hzi hx=>?_,λi k x hi hzi hx=>?_,λ_ _=>by rw [hsz]⟩
   ·have hk':k < sz:=by rw [←hsz,←hU.QD v (f i)];exact (List.getElem?_eq_some_iff.1 hx).1
    by_cases e:i < z
    ·obtain ⟨u,p1,p2⟩:=h4 i k x hi e hx
     exact ⟨u,hle.I _ _ _ p1,p2.mono hle⟩
    ·obtain ⟨u,p1,p2,_⟩:=hcell i k (by omega) hzi hk'
     rw [getD_of_getElem? hx] at p2
     refine ⟨u,?_,p2.mono hle⟩
     show (if _ then _ else _)=_
     rw [if_pos (hrange i k (by omega) hzi hk')]
     obtain ⟨q1,_⟩:=hrange i k (by omega) hzi hk'
     rw [←q1]
     exact p1
   ·obtain ⟨u,p1,p2,p3⟩:=h5 i k x hi (by omega) hx
    exact ⟨u,p1,p2.mono hle,p3⟩
  refine G.put hU hg hle (λ_ _ _=>rfl) hE (λ_ _ _=>Agr.refl _ _) (λt b' o' ht h1 hf hF=>hg.apart t s b' o' ht h1 hsome hf (hF' _ _ hF)) (λb' o' u hI=>?_) (λt b' o' ht h1 hf=>?_) (λb' o' hF=>?_)
  ·have hI:(if b'=b/\o<=o'/\o' < o+N then w.cell? (at_ b o') else c.I b' o')=some u:=hI
   split at hI
   ·rename_i hc;rw [hc.1];exact hI
   ·exact hg.imm _ _ _ hI
  ·show (if _ then _ else _)=_
   split
   ·rename_i hc
    obtain ⟨rfl,ha,hb⟩:=hc
    obtain ⟨_,_,h8⟩:=hfoot o' ha hb
    exact absurd h8 (hg.apart t s _ _ ht h1 hsome hf)
   ·exact hg.Q15 t _ _ h1 hf
  ·show (if _ then _ else _)=_
   rw [if_neg (hout _ _ hF)]
   exact hg.Q15 s _ _ hsome (hF' _ _ hF)
 ·intro t ht
  have:t≠s:=λe=>ht (by simp [e])
  simp [fup,this]
 ·intro t b' o' ht hf
  have:t=s:=by simpa using ht
  subst this
  simp [fup] at hf
  exact .inr ⟨t,by simp,hsome,hF' _ _ hf⟩
 ·intro t ht
  have:t=s:=by simpa using ht
  subst this
  exact .inr hsome
 ·intro b' o' u hI
  have hI:(if b'=b/\o<=o'/\o' < o+N then w.cell? (at_ b o') else c.I b' o')=some u:=hI
  split at hI
  ·rename_i hc
   obtain ⟨rfl,ha,hb⟩:=hc
   obtain ⟨_,_,h8⟩:=hfoot o' ha hb
   exact .inr (.inr ⟨s,by simp,hsome,h8⟩)
  ·exact .inl hI
theorem Z5W {s n z i:Nat} {v:U.C} {f:Nat->U.D v} {F:Nat->Nat->Prop} (hE:Q1s c w s F (.Q30 v n z f:Ent U)) (hi:i < n) (hz:i < z) {b o:Nat} (hL:c.L s i=some (b,o)):
  ∀k x,(U.enc v (f i))[k]? =some x->∃u,c.I b (o+k)=some u/\R U c x u:=by
 obtain ⟨A,h0,_,_,_,h4,_⟩:=hE
 have:=h0 i hi
 rw [hL] at this
 simp only [Option.some.injEq] at this
 intro k x hx
 have:=h4 i k x hi hz hx
 rw [←‹(b,o)=A i›] at this
 exact this
theorem Z7O (hU:U.Ok) {h':Qr U} {t:TypeId} {a v:A U} {r:OpR U} {out:Out U} {p q:Value} (hr:Z5k P t a v h'=some r) (ho:r.outs=some out)
  (hag:∀s,s∈out.rd\/s∈out.w.map (·.1)->get h s=get h' s) (hg:G U c Φ h w) (ha:RA U c a p) (hv:RA U c v q):
  ∃w' c' Φ',(Instr.storeAt t p q).run P w= .ok () w'/\QB U c Φ h nx out w c' Φ' undef w':=by
 unfold Z5k at hr
 split at hr
 ·rename_i s i off
  split at hr
  ·rename_i u n z g se he hu
   split at hr
   ·rename_i vv hvv
    split at hr
    ·rename_i y hy
     cases hr
     obtain ⟨o,hO,rfl⟩:=Z34 ho
     have he':get h s=some (.Q30 u n z g):=by rw [hag s (.inl (by simp))];exact he
     have hE:=hg.Q1M s _ he'
     obtain ⟨b,x,hL,rfl⟩:∃b x,c.L s i=some (b,x)/\q= .pointer (some (at_ b (x+off))):=by
      cases (show R U c _ q from hv) with|ptr h0=>exact ⟨_,_,h0,rfl⟩
     have hin:i < n:=by obtain ⟨A,_,h1,_⟩:=id hE;exact h1 _ _ hL
     have hst:∃c' Φ',QB U c Φ h nx { v:= .t [],rd:= [s],w:= [(s,.Q30 u n (Nat.max z (i+1)) g)]} w c' Φ' undef w:=by
      by_cases hzi:i+1<=z
      ·rw [show Nat.max z (i+1)=z from Nat.max_eq_left hzi]
       exact ⟨c,Φ,Z1Z hg he' λF hF=>hF⟩
      ·exact Z5J hU hg (by rw [he'];rfl) hE (Nat.le_max_left _ _) (Nat.max_le.2 ⟨by omega,hin⟩)
     obtain ⟨c',Φ1,hst⟩:=hst
     have hL':=hst.le.L _ _ _ hL
     have hcs:=Z5W (hst.g.Q1M s (.Q30 u n (Nat.max z (i+1)) g) (by show get ((s,_)::h) s=_;rw [Z9,if_pos rfl])) hin (Nat.lt_of_lt_of_le (Nat.lt_succ_self i) (Nat.le_max_right _ _)) hL'
     have hlen:=hU.Q49 _ _ _ hy
     have hk0:∀k,k < U.size vv->∃val,c'.I b (x+off+k)=some val/\R U c' ((U.enc vv y).getD k .hole) val:=λk hk=>by
      have hlt:k < (QM off (U.size vv) (U.enc u (g i))).length:=by rw [hlen];exact hk
      have hx':=List.getElem?_eq_getElem hlt
      obtain ⟨z',h2,h3⟩:=hU.Qz _ _ _ hy k _ hx'
      have h4:(U.enc u (g i))[off+k]? =some (QM off (U.size vv) (U.enc u (g i)))[k]:=by
       rw [←hx']
       unfold QM
       rw [List.getElem?_take,if_pos hk,List.getElem?_drop]
      obtain ⟨val,h5,h6⟩:=hcs _ _ h4
      refine ⟨val,by rw [show x+off+k=x+(off+k) by omega];exact h5,?_⟩
      rw [getD_of_getElem? h2]
      exact h3.val _ _ h6
     have hv':RA U c' (Rf.sc (.Q37 vv (some y))) (.pointer (some (at_ b (x+off)))):=
      R.Q56 (λk=>if hk:k < U.size vv then (hk0 k hk).choose else undef) (λk hk=>by
       simp only [dif_pos hk];exact (hk0 k hk).choose_spec.1) λk hk=>by
       simp only [dif_pos hk];exact (hk0 k hk).choose_spec.2
     obtain ⟨u',w',⟨h1,rfl⟩,c2,Φ2,h2⟩:=Z3X (h:=(s,.Q30 u n (Nat.max z (i+1)) g)::h) (nx:=nx) (post:=λu' w'=>(Instr.storeAt t p (.pointer (some (at_ b (x+off))))).run P w= .ok () w'/\u'=undef) hU hO (λx hx=>by
       rw [Z9,Z9]
       by_cases e:s=x
       ·rw [if_pos e,if_pos e]
       ·rw [if_neg e,if_neg e]
        refine hag x ?_
        rcases hx with hx|hx
        ·exact .inl (List.mem_append_right _ hx)
        ·exact .inr (by rw [List.map_append];exact List.mem_append_left _ hx)) hst.g λh1 h1' Φ1 o h2 h3 h4=>by
      obtain ⟨w',c',Φ',p1,p2⟩:=Z7A (nx:=nx) hU h2 h3 h4 (ha.mono hst.le) hv'
      exact ⟨undef,w',⟨p1,rfl⟩,c',Φ',p2⟩
     refine ⟨w',c2,Φ2,h1,?_⟩
     have:=hst.comp (rd:= [s]++o.rd) h2
     simp only [Nat.zero_add] at this
     exact this
    ·cases hr
   ·cases hr
  ·cases hr
 ·cases hr
theorem band {a b:Bool} (h:(bif a then b else false)=true):a=true/\b=true:=by cases a <;> simp_all
theorem Z9X {s n:Nat} {u:U.C} (hr:Z4W h s=some (u,n)) (hg:G U c Φ h w):∃A:Nat->Nat×Nat,(∀i,i < n->c.L s i=some (A i))/\(∀i x,c.L s i=some x->i < n)/\∀i,i < n->A i=((A 0).1,(A 0).2+i*U.size u):=by
 unfold Z4W at hr
 split at hr
 ·rename_i he
  cases hr
  obtain ⟨A,h1,h2,_,h3⟩:=(hg.Q1M s _ he).Q6y
  exact ⟨A,h1,h2,h3 rfl⟩
 ·rename_i he
  cases hr
  obtain ⟨A,h1,h2,h3,_⟩:=hg.Q1M s _ he
  exact ⟨A,h1,h2,h3⟩
 ·cases hr
theorem Z7P {h':Qr U} {s:Nat} (e:get h s=get h' s):Z4W h s=Z4W h' s:=by unfold Z4W;rw [e]
theorem Z8o {h':Qr U} {t:TypeId} {a b:A U} {r:OpR U} {out:Out U} {p q:Value} (hr:Z63 P t a b h'=some r) (ho:r.outs=some out)
  (hag:∀s,s∈out.rd\/s∈out.w.map (·.1)->get h s=get h' s) (hg:G U c Φ h w) (ha:RA U c a p) (hb:RA U c b q):
  Q3C U c w P (Instr.indexAt t p q) out:=by
 unfold Z63 at hr
 split at hr
 ·rename_i s i0 off k n
  split at hr
  ·rename_i u nn len e hat hu
   split at hr
   ·rename_i m hm
    cases hc:Nat.beq m (U.size u) && Nat.beq i0 0 && Nat.beq off 0 with
    |false=>rw [hc] at hr;cases hr
    |true=>
     rw [hc] at hr
     simp only [Bool.and_eq_true] at hc
     obtain ⟨⟨c1,c3⟩,c4⟩:=hc
     have c1:=QH c1;have c3:=QH c3;have c4:=QH c4
     subst c1;subst c3;subst c4
     cases hr
     obtain ⟨hin,rfl⟩:=Zb ho
     obtain ⟨hin,hin2⟩:=band hin
     obtain ⟨h0,h1,_⟩:=ZS hin
     obtain ⟨_,_,h2⟩:=ZS hin2
     rw [←Z7P (hag s (.inl (by simp)))] at hat
     obtain ⟨A,hA,hA1,hct⟩:=Z9X hat hg
     cases R.int (show R U c _ q from hb)
     obtain ⟨b,x,hL,rfl⟩:∃b x,c.L s 0=some (b,x)/\p= .pointer (some (at_ b (x+0))):=by
      cases (show R U c _ p from ha) with|ptr h0=>exact ⟨_,_,h0,rfl⟩
     have e2:=hA 0 (by omega)
     rw [hL] at e2
     simp only [Option.some.injEq] at e2
     have e3:A n.toNat=(b,x+n.toNat*U.size u):=by rw [hct _ h2,←e2]
     refine ⟨.pointer (some (at_ b (x+n.toNat*U.size u+0))),?_,?_,rfl,rfl⟩
     ·simp only [Instr.indexAt,Sem.run_bind,Z16,Result.andThen_ok,run_underlying hu]
      simp [h0,h1,Za hm,Zq,Instr.sureAddr]
     ·exact R.ptr (by rw [hA _ h2,e3])
   ·cases hr
  ·cases hr
 ·cases hr
theorem Z7N (hU:U.Ok) {h':Qr U} {t:TypeId} {a:A U} {xl xh xm:Option (Option (A U))} {yl yh ym:Option Value} {r:OpR U} {out:Out U} {p:Value} (hr:Z5h P t a xl xh xm h'=some r) (ho:r.outs=some out)
  (hag:∀s,s∈out.rd\/s∈out.w.map (·.1)->get h s=get h' s) (hg:G U c Φ h w) (ha:RA U c a p) (hl:Z1g U c xl yl) (hh:Z1g U c xh yh) (hm:Z1g U c xm ym):
  ∃u w' c' Φ',(Instr.sliceAt t p yl yh ym).run P w= .ok u w'/\QB U c Φ h nx out w c' Φ' u w':=by
 unfold Z5h at hr
 split at hr
 ·rename_i s i off
  split at hr
  ·rename_i u n g len e he hu
   split at hr
   ·rename_i m rr hm1 hrr
    cases hc:Nat.beq m (U.size u) && U.plain u && Nat.beq i 0 && Nat.beq off 0 with
    |false=>rw [hc] at hr;cases hr
    |true=>
     rw [hc] at hr
     simp only [Bool.and_eq_true] at hc
     obtain ⟨⟨⟨c1,cp⟩,c3⟩,c4⟩:=hc
     have c1:=QH c1;have c3:=QH c3;have c4:=QH c4
     subst c1;subst c3;subst c4
     cases hr
     obtain ⟨hin,rfl⟩:=Zb ho
     obtain ⟨hin,hin2⟩:=band hin
     obtain ⟨e0,e1,e2⟩:=ZK hin
     obtain ⟨_,_,e22⟩:=ZK hin2
     have he':get h s=some (.fam true u n g):=by rw [hag s (.inl (by simp))];exact he
     have hE:=Z7B hU cp (hg.Q1M s _ he')
     obtain ⟨c',Φ',hst⟩:=Z5J (nx:=nx) (rd:= [s]) hU hg (by rw [he'];rfl) hE (Nat.zero_le _) (Nat.le_refl _)
     obtain ⟨b,x,hL,rfl⟩:∃b x,c.L s 0=some (b,x)/\p= .pointer (some (at_ b (x+0))):=by
      cases (show R U c _ p from ha) with|ptr h0=>exact ⟨_,_,h0,rfl⟩
     cases ym with
     |some v=>exact hm.elim
     |none=>
      cases yl with
      |some v=>exact hl.elim
      |none=>
       have hb:=ZV (P:=P) (w:=w) (isS:=false) (l:=0) (.inl ⟨rfl,rfl⟩) (Zk hrr hh) (Int.le_refl _) e1 e2 (Nat.le_refl _)
       have hE':=hst.g.Q1M s (.Q30 u n n g) (by show get ((s,_)::h) s=_;rw [Z9,if_pos rfl])
       obtain ⟨A,hA,hA1,hct,_⟩:=id hE'
       have hlen:((List.range rr.toNat).map g).length=rr.toNat:=by simp
       have hL':=hst.le.L _ _ _ hL
       have hcell:∀i k,i < rr.toNat->k < U.size u->∃val,c'.I b (x+(i*U.size u+k))=some val/\R U c' ((U.enc u (((List.range rr.toNat).map g).getD i (U.dft u))).getD k .hole) val:=λi k hi hk=>by
        have hin':i < n:=by omega
        have e3:=hA 0 (by omega)
        rw [hL'] at e3
        simp only [Option.some.injEq] at e3
        have e4:c'.L s i=some (b,x+i*U.size u):=by rw [hA i hin',hct i hin',←e3]
        have hlt:k < (U.enc u (g i)).length:=by rw [hU.QD];exact hk
        obtain ⟨val,h5,h6⟩:=Z5W hE' hin' hin' e4 k _ (List.getElem?_eq_getElem hlt)
        refine ⟨val,by rw [←Nat.add_assoc];exact h5,?_⟩
        have:((List.range rr.toNat).map g).getD i (U.dft u)=g i:=by simp [List.getD,hi]
        rw [this,getD_of_getElem? (List.getElem?_eq_getElem hlt)]
        exact h6
       refine ⟨_,w,c',Φ',?_,hst.Q9k (v2:=Rf.sc (.isl .none u ((List.range rr.toNat).map g))) (p2:= .slice (some (if len=0 then at_ b (x+0) else (at_ b (x+0)).add (0*U.size u))) rr.toNat len) ?_⟩
       ·simp [Instr.sliceAt,run_underlying hu,Instr.sureAddr,hb,Za hm1]
       ·have:=R.isl (c:=c') (t:= .none) (u:=u) (xs:=(List.range rr.toNat).map g) (a:=some (if len=0 then at_ b (x+0) else (at_ b (x+0)).add (0*U.size u))) (cap:=len) (b:=b) (o:=x)
         (λi k=>if hh:i < rr.toNat/\k < U.size u then (hcell i k hh.1 hh.2).choose else undef) (by rw [hlen];omega) trivial (λhpos=>by
          rw [Zq];simp) (λi k hi hk=>by
          rw [hlen] at hi;simp only [dif_pos (And.intro hi hk)];exact (hcell i k hi hk).choose_spec.1) (λi k hi hk=>by
          rw [hlen] at hi;simp only [dif_pos (And.intro hi hk)];exact (hcell i k hi hk).choose_spec.2)
        rw [hlen] at this
        exact this
   ·cases hr
  ·cases hr
 ·cases hr
theorem Z8Y {h':Qr U} {t:TypeId} {a:A U} {xl xh xm:Option (Option (A U))} {yl yh ym:Option Value} {r:OpR U} {out:Out U} {p:Value} (hr:Z79 P t a xl xh xm h'=some r) (ho:r.outs=some out)
  (hag:∀s,s∈out.rd\/s∈out.w.map (·.1)->get h s=get h' s) (hg:G U c Φ h w) (ha:RA U c a p) (hl:Z1g U c xl yl) (hh:Z1g U c xh yh) (hm:Z1g U c xm ym):
  Q3C U c w P (Instr.sliceAt t p yl yh ym) out:=by
 unfold Z79 at hr
 split at hr
 ·rename_i s i off
  split at hr
  ·rename_i u n g len e he hu
   split at hr
   ·rename_i m ll rr hm1 hll hrr
    cases hc:Nat.beq m (U.size u) && Nat.beq i 0 && Nat.beq off 0 with
    |false=>rw [hc] at hr;cases hr
    |true=>
     rw [hc] at hr
     simp only [Bool.and_eq_true] at hc
     obtain ⟨⟨c1,c3⟩,c4⟩:=hc
     have c1:=QH c1;have c3:=QH c3;have c4:=QH c4
     subst c1;subst c3;subst c4
     cases hr
     obtain ⟨hin,rfl⟩:=Zb ho
     obtain ⟨hin,hin2⟩:=band hin
     obtain ⟨e0,e1,e2⟩:=ZK hin
     obtain ⟨_,_,e22⟩:=ZK hin2
     have he':get h s=some (.fam true u n g):=by rw [hag s (.inl (by simp))];exact he
     obtain ⟨A,hA,hA1,_,hct⟩:=(hg.Q1M s _ he').Q6y
     obtain ⟨b,x,hL,rfl⟩:∃b x,c.L s 0=some (b,x)/\p= .pointer (some (at_ b (x+0))):=by
      cases (show R U c _ p from ha) with|ptr h0=>exact ⟨_,_,h0,rfl⟩
     cases ym with
     |some v=>exact hm.elim
     |none=>
      have hb:=ZV (P:=P) (w:=w) (isS:=false) (Zk hll hl) (Zk hrr hh) e0 e1 e2 (Nat.le_refl _)
      refine ⟨.slice (some (if len=ll.toNat then at_ b (x+0) else (at_ b (x+0)).add (ll.toNat*U.size u))) (rr.toNat - ll.toNat) (len - ll.toNat),?_,?_,rfl,rfl⟩
      ·simp [Instr.sliceAt,run_underlying hu,Instr.sureAddr,hb,Za hm1]
      ·have hpos:=hA1 _ _ hL
       have e3:=hA 0 hpos
       rw [hL] at e3
       simp only [Option.some.injEq] at e3
       refine R.sl (b:=b) (o:=x+ll.toNat*U.size u) (by omega) (λh0=>⟨?_,?_⟩) λj hj=>⟨_,hA _ (by omega)⟩
       ·rw [hA _ (by omega),hct rfl _ (by omega),←e3]
       ·rw [if_neg (by omega),Zq];simp
   ·cases hr
  ·cases hr
 ·cases hr
theorem Z7W (hU:U.Ok) {f z:Bool} {t:TypeId} {r:OpR U} {out:Out U} (hr:Z5j (U:=U) P f z t nx=some r) (ho:r.outs=some out) (hg:G U c Φ h w) (hf:∀s,nx<=s->s < nx+out.nw->get h s=none/\∀i,c.L s i=none):
  ∃u w' c' Φ',(Instr.alloc t true (.tuple #[])).run P w= .ok u w'/\QB U c Φ h nx out w c' Φ' u w':=by
 unfold Z5j at hr
 cases hfz:f||z with
 |false=>rw [hfz] at hr;cases hr
 |true=>
  rw [hfz] at hr
  simp only [cond_true] at hr
  split at hr
  ·rename_i len e hu
   split at hr
   ·rename_i u l hue hl
    cases hc:U.plain u && Nat.ble 1 len && Nat.beq l.length (len*U.size u) with
    |false=>rw [hc] at hr;cases hr
    |true=>
     rw [hc] at hr
     simp only [Bool.and_eq_true] at hc
     obtain ⟨⟨cp,c1⟩,c2⟩:=hc
     have c1:=Nat.le_of_ble_eq_true c1
     have c2:=QH c2
     simp only [cond_true] at hr
     split at hr
     ·rename_i xs hxs
      cases hr
      cases ho
      obtain ⟨zv,hz,hrl⟩:=ZZ (c:=c) hl
      obtain ⟨hxl,hxa⟩:=Z3b _ _ _ hxs
      obtain ⟨hn,hs0⟩:=hf nx (Nat.le_refl _) (by simp)
      have hvl:zv.cells.toList.length=len*U.size u:=by rw [hrl.len,c2]
      have hnew:∀(j:Nat) v,zv.cells.toList[j]? =some v->(w.alloc (.cells zv.cells.toList.toArray t)).cell? (at_ w.heap.size j)=some v:=λj v hj=>by simpa using hj
      obtain ⟨c',Φ',hst⟩:=QB.fam (nx:=nx) (h:=h) (rd:= []) (n:=len) (f:=λj=>xs.getD j (U.dft u)) (vs:=zv.cells.toList) (w':=w.alloc (.cells zv.cells.toList.toArray t)) (N:=w.heap.size) (a:=some (at_ w.heap.size 0)) (cap:=len) hU hg hs0 hn
       (Fr.alloc _ _ _) (Nat.le_refl _) cp hvl hnew (λj hj=>by simp) (λi k hi hk=>by
        have h3:=hxa i hi
        have hrow:i*U.size u+U.size u<=len*U.size u:=by
         have:(i+1)*U.size u<=len*U.size u:=Nat.mul_le_mul_right _ hi
         rwa [Nat.succ_mul] at this
        have hlt:k < (QM (i*U.size u) (U.size u) l).length:=by rw [hU.Q49 _ _ _ h3];exact hk
        have hx':=List.getElem?_eq_getElem hlt
        obtain ⟨z',h4,h5⟩:=hU.Qz _ _ _ h3 k _ hx'
        have h6:l[i*U.size u+k]? =some (QM (i*U.size u) (U.size u) l)[k]:=by
         rw [←hx']
         unfold QM
         rw [List.getElem?_take,if_pos hk,List.getElem?_drop]
        obtain ⟨v,h7,h8⟩:=hrl.at_ _ _ h6
        refine ⟨v,h7,?_⟩
        rw [getD_of_getElem? h4]
        exact h5.val _ _ h8) (Nat.le_refl _) (λ_=>rfl)
      have hp:c'.L nx 0=some (w.heap.size,0):=by
       cases (show R U c' (.sl nx 0 len) _ from hst.val) with
       |sl hc' ha' hl'=>
        obtain ⟨h1,h2⟩:=ha' (by omega)
        rw [h1]
        simp only [Option.some.injEq,at_,Addr.mk.injEq] at h2
        simp_all
      have hv:RA U c' (Rf.sc (.ptr nx 0 0)) (.pointer (some (at_ w.heap.size 0))):=R.ptr (o:=0) hp
      have hst:=hst.Q9k hv
      cases z with
      |false=>
       refine ⟨_,_,c',Φ',?_,hst⟩
       simp [Instr.alloc,hz,newVar,newRow,World.alloc_eq]
      |true=>
       have h2:=Z1Z (nx:=nx+1) (rd:= []) hst.g (s:=nx) (e:= .fam true u len λj=>xs.getD j (U.dft u)) (by rw [Zh];simp [Z9]) λF hF=>Z7B hU cp hF
       refine ⟨_,_,c',Φ',?_,((hst.comp (rd:= []) h2).Q9k hv)⟩
       simp [Instr.alloc,hz,newVar,newRow,World.alloc_eq]
     ·cases hr
   ·cases hr
  ·cases hr
theorem Z8O (hU:U.Ok) {u:U.C} {xs:List (U.D u)} {v:Value} {rd:List Nat} (hg:G U c Φ h w) (hs:∀i,c.L nx i=none) (hn:get h nx=none) (hv:R U c (.isl .full u xs) v):
  ∃c' Φ',QB U c Φ h nx { v:=Rf.sc (.isl (.own nx) u xs),rd:=rd,w:= [(nx,.tok)],nw:=1} w c' Φ' v w:=by
 cases hv with
 | @isl _ _ _ a cap b o g hc ht ha hi hr=>
  have ht:cap=xs.length:=ht
  subst ht
  let c':=c.Q21 nx λi=>if i=0 then some (b,o+xs.length*U.size u) else if i=1 then some (b,o+xs.length*U.size u) else none
  have hle:c.Le c':=Cx.Q4F hs
  have hE:Q1s c' w nx (λ_ _=>False) (.tok:Ent U):=⟨b,o+xs.length*U.size u,o+xs.length*U.size u,by simp [c',Cx.Q21],by simp [c',Cx.Q21],λx h1 h2=>by omega,λ_ _ h=>h.elim⟩
  refine ⟨c',fup Φ nx (λ_ _=>False),{ le:=hle,L:=λs i hsi _=>?_,val:= ?_,g:= ?_,fr:= .refl _ _,Q2p:=λs hsn=>?_,Q2g:=λs b o hsn hf=>?_,names:=λs hsn=>?_,Q32:=λ_ _ _ h=>.inl h}⟩
  ·have:s≠nx:=λe=>hsi (by subst e;simp)
   simp [c',Cx.Q21,this]
  ·exact R.isl (b:=b) (o:=o) g (Nat.le_refl _) ⟨b,_,_,by simp [c',Cx.Q21],by simp [c',Cx.Q21],λhp=>⟨ha hp,rfl,rfl,Nat.le_refl _⟩⟩ ha hi λi k h1 h2=>(hr i k h1 h2).mono hle
  ·exact hg.put hU hle (λt i ht=>by simp [c',Cx.Q21,ht]) hE (λt _ h1=>Agr.refl _ _) (λt b o _ h1 hf hF=>hF.elim) (λb o v hv=>hg.imm b o v hv) (λt b o _ h1 hf=>hg.Q15 t b o h1 hf) (λb o hF=>hF.elim)
  ·simp at hsn;simp [fup,hsn]
  ·simp at hsn;subst hsn
   simp [fup] at hf
  ·simp at hsn;subst hsn;exact .inl (by simp)
theorem Z9b {o o':Out U} (h:Z5I o nx=some o'):∃u xs rd,o={ v:=Rf.sc (.isl .full u xs),rd:=rd}/\o'={ v:=Rf.sc (.isl (.own nx) u xs),rd:=rd,w:= [(nx,.tok)],nw:=1}:=by
 unfold Z5I at h
 split at h
 ·cases h;exact ⟨_,_,_,rfl,rfl⟩
 ·cases h
theorem Z6i {b:Bool} {r:OpR U} {out:Out U} (ho:(Z5r b r nx).outs=some out):r.outs=some out\/∃o,r.outs=some o/\Z5I o nx=some out:=by
 unfold Z5r at ho
 cases b with
 |false=>exact .inl ho
 |true=>
  simp only [cond_true] at ho
  split at ho
  ·rename_i c o
   split at ho
   ·rename_i o' h1
    obtain ⟨hc,rfl⟩:=Zb ho
    exact .inr ⟨o,by subst hc;rfl,h1⟩
   ·exact .inl ho
  ·exact .inl ho
end Go.Rf
namespace Go.Rf
set_option linter.unusedVariables false
set_option linter.unusedSimpArgs false
variable {U : QV} {P : Program} {c : Cx} {Φ : Nat -> Nat -> Nat -> Prop} {h : Qr U} {nx : Nat} {w : World}
structure Q5J (U:QV) (c:Cx) (w:World) (s:Nat) (F:Nat->Nat->Prop) (u:U.C) (n:Nat) (g:Nat->List (U.D u)) (A:Nat->Nat×Nat) (E:Nat->Nat):Prop where
 L:∀r,r < n->c.L s (2*r)=some (A r)/\c.L s (2*r+1)=some ((A r).1,E r)
 N:∀i x,c.L s i=some x->i < 2*n
 pl:0 < n->U.plain u=true
 con:∀r i k x,r < n->i < (g r).length->(U.enc u ((g r).getD i (U.dft u)))[k]? =some x->∃v,w.cell? (at_ (A r).1 ((A r).2+(i*U.size u+k)))=some v/\R U c x v
 len:∀r,r < n->0 < (g r).length->(A r).2+(g r).length*U.size u<=E r
 mem:∀r x,r < n->0 < (g r).length->(A r).2<=x->x < E r->(∃v,w.cell? (at_ (A r).1 x)=some v)/\w.frozen? (at_ (A r).1 x)=false
 dis:∀r r' b o,r < n->r' < n->r≠r'->Q4t A E (λr=>(g r).length) r b o->¬Q4t A E (λr=>(g r).length) r' b o
 Q2p:∀b o,F b o↔∃r,r < n/\Q4t A E (λr=>(g r).length) r b o
theorem Q1s.rows {s:Nat} {F:Nat->Nat->Prop} {u:U.C} {n:Nat} {g:Nat->List (U.D u)}:Q1s c w s F (.Q1a u n g:Ent U)↔∃A E,Q5J U c w s F u n g A E:=
 ⟨λ⟨A,E,h0,h1,h2,h3,h4,h5,h6,h7⟩=>⟨A,E,h0,h1,h2,h3,h4,h5,h6,h7⟩,λ⟨A,E,h0,h1,h2,h3,h4,h5,h6,h7⟩=>⟨A,E,h0,h1,h2,h3,h4,h5,h6,h7⟩⟩
theorem Q5J.atL {s:Nat} {F:Nat->Nat->Prop} {u:U.C} {n:Nat} {g:Nat->List (U.D u)} {A:Nat->Nat×Nat} {E:Nat->Nat} (h:Q5J U c w s F u n g A E) {r b o:Nat} (hL:c.L s (2*r)=some (b,o)):r < n/\A r=(b,o):=by
 have h1:=h.N _ _ hL
 have h2:r < n:=by omega
 have h3:=(h.L r h2).1
 rw [hL] at h3
 exact ⟨h2,(Option.some.inj h3).symm⟩
theorem Z9S {α:Type} {l:List α} {i j:Nat} {x d:α} (hi:i < l.length):(l.set i x).getD j d=if j=i then x else l.getD j d:=by
 simp only [List.getD,List.getElem?_set]
 by_cases e:i=j
 ·subst e;simp [hi]
 ·simp [e,Ne.symm e]
theorem Q5J.set (hU:U.Ok) {s:Nat} {F:Nat->Nat->Prop} {u:U.C} {n:Nat} {g:Nat->List (U.D u)} {A:Nat->Nat×Nat} {E:Nat->Nat} (h:Q5J U c w s F u n g A E) {r off:Nat} {vs:List Value} {L:List (U.D u)}
  (hr:r < n) (hb:off+vs.length<=(g r).length*U.size u) (hL:L.length=(g r).length)
  (hc:∀i k x,i < L.length->(U.enc u (L.getD i (U.dft u)))[k]? =some x->if off<=i*U.size u+k/\i*U.size u+k < off+vs.length then ∃v,vs[i*U.size u+k - off]? =some v/\R U c x v else ∃y,(U.enc u ((g r).getD i (U.dft u)))[k]? =some y/\∀v,R U c y v->R U c x v):
  w.there (A r).1 ((A r).2+off) vs.length/\Q5J U c (w.setCells (A r).1 ((A r).2+off) vs) s F u n (QA g r L) A E/\∀j,j < vs.length->F (A r).1 ((A r).2+off+j):=by
 have hpos:0 < vs.length->0 < (g r).length:=λh0=>by
  rcases Nat.eq_zero_or_pos (g r).length with e|e
  ·rw [e] at hb;omega
  ·exact e
 have hF:∀j,j < vs.length->F (A r).1 ((A r).2+off+j):=λj hj=>by
  have:=h.len r hr (hpos (by omega))
  exact (h.Q2p _ _).2 ⟨r,hr,hpos (by omega),rfl,by omega,by omega⟩
 have hth:w.there (A r).1 ((A r).2+off) vs.length:=λj hj=>by
  have h2:=h.len r hr (hpos (by omega))
  obtain ⟨⟨v,hv⟩,hf⟩:=h.mem r ((A r).2+off+j) hr (hpos (by omega)) (by omega) (by omega)
  exact ⟨by rw [hv];rfl,hf⟩
 have hlen:∀r',(QA g r L r').length=(g r').length:=λr'=>by
  by_cases e:r'=r
  ·subst e;simp [QA,hL]
  ·simp [QA,e]
 have hRF:∀r' b o,Q4t A E (λr'=>(QA g r L r').length) r' b o↔Q4t A E (λr=>(g r).length) r' b o:=λr' b o=>by
  unfold Q4t;simp only [hlen]
 refine ⟨hth,⟨h.L,h.N,h.pl,λr' i k x hr' hi hx=>?_,λr' hr' h0=>?_,λr' x hr' h0 h1 h2=>?_,λr1 r2 b o h1 h2 hne hf hf'=>?_,λb o=>?_⟩,hF⟩
 ·rw [hlen] at hi
  have hk:k < U.size u:=by rw [←hU.QD u];exact (List.getElem?_eq_some_iff.1 hx).1
  have hlt:i*U.size u+k < (g r').length*U.size u:=by
   calc i*U.size u+k < i*U.size u+U.size u:=by omega
    _=(i+1)*U.size u:=by rw [Nat.succ_mul]
    _<=(g r').length*U.size u:=Nat.mul_le_mul_right _ hi
  by_cases e:r'=r
  ·subst e
   simp only [QA,if_true] at hx
   have:=hc i k x (by omega) hx
   split at this
   ·rename_i hin
    obtain ⟨v,h1,h2⟩:=this
    refine ⟨v,?_,h2⟩
    have hcs:=Zy (λj hj=>(hth j hj).1) h1
    rwa [show (A r').2+off+(i*U.size u+k - off)=(A r').2+(i*U.size u+k) by omega] at hcs
   ·rename_i hin
    obtain ⟨y,h1,h2⟩:=this
    obtain ⟨v,h3,h4⟩:=h.con r' i k y hr' hi h1
    exact ⟨v,by rw [Zm (λ_=>by omega)];exact h3,h2 v h4⟩
  ·simp only [QA,if_neg e] at hx
   obtain ⟨v,h3,h4⟩:=h.con r' i k x hr' hi hx
   refine ⟨v,?_,h4⟩
   rw [Zm ?_]
   ·exact h3
   ·intro eb
    by_cases h5:(A r').2+(i*U.size u+k) < (A r).2+off
    ·exact .inl h5
    ·by_cases h6:(A r).2+off+vs.length<=(A r').2+(i*U.size u+k)
     ·exact .inr h6
     ·have q1:=h.len r' hr' (by omega)
      have q2:=h.len r hr (hpos (by omega))
      exact absurd ⟨hpos (by omega),eb,by omega,by omega⟩ (h.dis r' r (A r').1 ((A r').2+(i*U.size u+k)) hr' hr e ⟨by show 0 < (g r').length;omega,rfl,by omega,by omega⟩)
 ·rw [hlen] at h0 ⊢;exact h.len r' hr' h0
 ·rw [hlen] at h0
  obtain ⟨⟨v,hv⟩,hf⟩:=h.mem r' x hr' h0 h1 h2
  refine ⟨?_,by rw [World.frozen?_setCells];exact hf⟩
  by_cases hin:(A r').1=(A r).1/\(A r).2+off<=x/\x < (A r).2+off+vs.length
  ·have hj:x - ((A r).2+off) < vs.length:=by omega
   have hcs:=Zy (λj hj=>(hth j hj).1) (List.getElem?_eq_getElem hj)
   rw [show (A r).2+off+(x - ((A r).2+off))=x by omega] at hcs
   rw [hin.1]
   exact ⟨_,hcs⟩
  ·refine ⟨v,?_⟩
   rw [Zm (λe=>by omega)]
   exact hv
 ·exact h.dis r1 r2 b o h1 h2 hne ((hRF _ _ _).1 hf) ((hRF _ _ _).1 hf')
 ·rw [h.Q2p]
  exact ⟨λ⟨r',h1,h2⟩=>⟨r',h1,(hRF _ _ _).2 h2⟩,λ⟨r',h1,h2⟩=>⟨r',h1,(hRF _ _ _).1 h2⟩⟩
theorem Z8A {b:Bool} {v:A U} {rd:List Nat} {out:Out U} (ho:(Z6a b v rd).outs=some out):b=true/\out.rd=rd/\out.w= []/\out.nw=0/\∀c u,RA U c v u->RA U c out.v u:=by
 unfold Z6a at ho
 split at ho
 ·rename_i f x
  cases hn:U.nn f with
  |true=>
   rw [hn] at ho
   simp only [cond_true] at ho
   cases b with
   |false=>cases ho
   |true=>
    cases x with
    |none=>cases ho
    |some i=>
     cases ho
     refine ⟨rfl,rfl,rfl,rfl,λc u hr=>?_⟩
     cases (show R U c _ u from hr) with
     |Q5c hlt h0=>exact R.ptr (off:=0) h0
  |false=>
   rw [hn] at ho
   simp only [cond_false] at ho
   obtain ⟨h1,rfl⟩:=Zb ho
   exact ⟨h1,rfl,rfl,rfl,λ_ _ h=>h⟩
 ·obtain ⟨h1,rfl⟩:=Zb ho
  exact ⟨h1,rfl,rfl,rfl,λ_ _ h=>h⟩
theorem Z9F (hU:U.Ok) {h':Qr U} {t:TypeId} {a:A U} {r:OpR U} {out:Out U} {p:Value} (hr:Q9r P t a h'=some r) (ho:r.outs=some out)
  (hag:∀s,s∈out.rd\/s∈out.w.map (·.1)->get h s=get h' s) (hg:G U c Φ h w) (ha:RA U c a p):
  ∃u w' c' Φ',(Instr.loadAt t p).run P w= .ok u w'/\QB U c Φ h nx out w c' Φ' u w':=by
 unfold Q9r at hr
 split at hr
 ·rename_i F m r i k
  split at hr
  ·rename_i g n h1 h2
   split at hr
   ·rename_i b l hl
    split at hr
    ·rename_i v hv
     cases hr
     obtain ⟨q0,q1,q2,q3,q4⟩:=Z8A ho
     subst q0
     unfold ldR at hl
     split at hl
     ·rename_i u N gg he
      dsimp only at hl
      cases hb:Nat.beq m (U.size u) && Nat.beq (QM k n (U.enc u ((gg r).getD i (U.dft u)))).length n && (QM k n (U.enc u ((gg r).getD i (U.dft u)))).all Ze with
      |false=>rw [hb] at hl;cases hl
      |true=>
       rw [hb] at hl
       simp only [cond_true,Option.some.injEq,Prod.mk.injEq] at hl
       obtain ⟨hi,rfl⟩:=hl
       have hi:i < (gg r).length:=Nat.le_of_ble_eq_true hi
       simp only [Bool.and_eq_true] at hb
       have b1:=QH hb.1.1
       subst b1
       have hlen:=QH hb.1.2
       have he':get h F=some (.Q1a u N gg):=by rw [hag F (.inl (by rw [q1];simp))];exact he
       obtain ⟨A,E,hO⟩:=Q1s.rows.1 (hg.Q1M F _ he')
       cases (show R U c _ p from ha) with
       | @Q4Q _ _ _ _ _ bb oo hL=>
        obtain ⟨hr,hA⟩:=hO.atL hL
        obtain ⟨vs,g1,g2⟩:=Q8D (c:=c) (l:=QM k n (U.enc u ((gg r).getD i (U.dft u)))) (f:=λj v=>w.cell? (at_ bb (oo+(i*U.size u+k)+j))=some v) λj x hj=>by
         obtain ⟨_,hk'⟩:=ZW hj
         obtain ⟨v,p1,p2⟩:=hO.con r i (k+j) x hr hi hk'
         rw [hA] at p1
         simp only at p1
         rw [show oo+(i*U.size u+(k+j))=oo+(i*U.size u+k)+j by omega] at p1
         exact ⟨v,p1,p2⟩
        obtain ⟨uu,hu,hru⟩:=Z1p (P:=P) h1 h2 g1 hlen (λj v hj=>g2 j v hj) hv
        obtain ⟨v',rd,w',nw⟩:=out
        simp only at q2 q3 q4
        subst q2;subst q3
        exact ⟨uu,w,c,Φ,by simp [Instr.loadAt,Instr.sureAddr,hu],QB.pure hg (q4 _ _ hru)⟩
     ·cases hl
    ·cases hr
   ·cases hr
  ·cases hr
 ·cases hr
theorem Z8Z (hU:U.Ok) {h':Qr U} {t:TypeId} {a x:A U} {ro:OpR U} {out:Out U} {p q:Value} (hr:Z74 P t a x h'=some ro) (ho:ro.outs=some out)
  (hag:∀s,s∈out.rd\/s∈out.w.map (·.1)->get h s=get h' s) (hg:G U c Φ h w) (ha:RA U c a p) (hx:RA U c x q):
  ∃w' c' Φ',(Instr.storeAt t p q).run P w= .ok () w'/\QB U c Φ h nx out w c' Φ' undef w':=by
 unfold Z74 at hr
 split at hr
 ·rename_i F m r i k xv
  split at hr
  ·rename_i n hn
   cases hb:Nat.beq xv.l.length n with
   |false=>rw [hb] at hr;cases hr
   |true=>
    rw [hb] at hr
    simp only [cond_true] at hr
    split at hr
    ·rename_i b e hs
     cases hr
     obtain ⟨hbt,rfl⟩:=Zb ho
     subst hbt
     unfold stR at hs
     split at hs
     ·rename_i u N gg he
      dsimp only at hs
      cases hb2:Nat.beq m (U.size u) && Nat.ble (k+xv.l.length) (U.enc u ((gg r).getD i (U.dft u))).length && xv.l.all Ze with
      |false=>rw [hb2] at hs;cases hs
      |true=>
       rw [hb2] at hs
       simp only [cond_true] at hs
       split at hs
       ·rename_i y hy
        simp only [Option.some.injEq,Prod.mk.injEq] at hs
        obtain ⟨hi,rfl⟩:=hs
        have hi:i < (gg r).length:=Nat.le_of_ble_eq_true hi
        simp only [Bool.and_eq_true] at hb2
        have b1:=QH hb2.1.1
        subst b1
        have hkl:=Nat.le_of_ble_eq_true hb2.1.2
        have hel:=hU.QD u ((gg r).getD i (U.dft u))
        have he':get h F=some (.Q1a u N gg):=by rw [hag F (.inr (by simp))];exact he
        obtain ⟨A,E,hO⟩:=Q1s.rows.1 (hg.Q1M F _ he')
        have hxl:=RV.cells (show RV U c xv q from hx)
        have hvl:=hxl.len
        cases (show R U c _ p from ha) with
        | @Q4Q _ _ _ _ _ bb oo hL=>
         obtain ⟨hrN,hA⟩:=hO.atL hL
         have hrow:i*U.size u+U.size u<=(gg r).length*U.size u:=by
          have:(i+1)*U.size u<=(gg r).length*U.size u:=Nat.mul_le_mul_right _ hi
          rwa [Nat.succ_mul] at this
         obtain ⟨g1,g2,g3⟩:=hO.set hU (r:=r) (off:=i*U.size u+k) (vs:=q.cells.toList) (L:=(gg r).set i y) hrN (by omega) (by simp) (λj l z hj hz=>by
          rw [Z9S hi] at hz
          have hl:l < U.size u:=by rw [←hU.QD u];exact (List.getElem?_eq_some_iff.1 hz).1
          by_cases e:j=i
          ·subst e
           rw [if_pos rfl] at hz
           have hsl:(Rf.Q1v k xv.l (U.enc u ((gg r).getD j (U.dft u)))).length=U.size u:=by rw [Zo hkl,hel]
           obtain ⟨y',q1,q2⟩:=hU.Qz u _ y hy l _ (List.getElem?_eq_getElem (by rw [hsl];exact hl))
           rw [hz] at q1;cases q1
           split
           ·rename_i hin
            obtain ⟨d,rfl⟩:∃d,l=k+d:=⟨l - k,by omega⟩
            have hd:d < xv.l.length:=by omega
            obtain ⟨v,r1,r2⟩:=hxl.at_ d _ (List.getElem?_eq_getElem hd)
            have hsp:(Rf.Q1v k xv.l (U.enc u ((gg r).getD j (U.dft u))))[k+d]? =xv.l[d]? :=Zw hkl hd
            have e1:(Rf.Q1v k xv.l (U.enc u ((gg r).getD j (U.dft u))))[k+d]=xv.l[d]:=by
             have:=hsp
             rw [List.getElem?_eq_getElem (by rw [hsl];exact hl),List.getElem?_eq_getElem hd] at this
             exact Option.some.inj this
            rw [e1] at q2
            exact ⟨v,by rw [show j*U.size u+(k+d) - (j*U.size u+k)=d by omega];exact r1,q2.val _ _ r2⟩
           ·rename_i hin
            have hsp:(Rf.Q1v k xv.l (U.enc u ((gg r).getD j (U.dft u))))[l]? =(U.enc u ((gg r).getD j (U.dft u)))[l]? :=Zp hkl (by omega)
            refine ⟨_,hsp.symm.trans (List.getElem?_eq_getElem (by rw [hsl];exact hl)),λv hv=>q2.val _ _ hv⟩
          ·rw [if_neg e] at hz
           rw [if_neg]
           ·exact ⟨z,hz,λ_ h=>h⟩
           ·intro hin
            rcases Nat.lt_or_gt_of_ne e with h4|h4
            ·have:(j+1)*U.size u<=i*U.size u:=Nat.mul_le_mul_right _ h4
             rw [Nat.succ_mul] at this;omega
            ·have:(i+1)*U.size u<=j*U.size u:=Nat.mul_le_mul_right _ h4
             rw [Nat.succ_mul] at this;omega)
         rw [hA] at g1 g2 g3
         simp only at g1 g2 g3
         exact Z4Y hU hn hg hx (QH hb) ⟨g1,⟨Φ F,Q1s.rows.2 ⟨A,E,g2⟩,λ_ _ h=>h⟩,g3,by rw [he'];rfl⟩
       ·cases hs
     ·cases hs
    ·cases hr
  ·cases hr
 ·cases hr
theorem Z6O {t f o:Nat} (hf:Z2m P t f=some o) (b x:Nat):(Instr.fieldAt t (.pointer (some (at_ b x))) f).run P w= .ok (.pointer (some (at_ b (x+o)))) w:=by
 unfold Z2m at hf
 split at hf
 ·rename_i fs hfs
  split at hf
  ·rename_i fl hfl
   split at hf
   ·rename_i i hi
    cases hz:Nat.beq i.size 0 with
    |true=>simp [hz] at hf
    |false=>
     simp [hz] at hf
     have hz':i.size≠0:=λe=>by rw [e] at hz;cases hz
     have hsz:(sizeOf fl.type).run P w= .ok i.size w:=Za (by simp [size?,hi]) w
     simp [Instr.fieldAt,run_underlying hfs,hfl,Instr.sureAddr,fieldPlace,hsz,hz',Zq,hf]
   ·cases hf
  ·cases hf
 ·cases hf
theorem Z90 {t f:Nat} {a:A U} {r:OpR U} {out:Out U} {p:Value} (hr:Z6V P t a f=some r) (ho:r.outs=some out) (ha:RA U c a p):
  Q3C U c w P (Instr.fieldAt t p f) out:=by
 unfold Z6V at hr
 split at hr
 ·rename_i F m r i k
  split at hr
  ·rename_i o hf
   cases hr
   rw [Zl ho]
   cases (show R U c _ p from ha) with
   | @Q4Q _ _ _ _ _ b x h0=>
    refine ⟨_,Z6O hf _ _,?_,rfl,rfl⟩
    rw [show x+(i*m+k)+o=x+(i*m+(k+o)) by omega]
    exact R.Q4Q h0
  ·cases hr
 ·cases hr
theorem Qaw {a:A U} {r:OpR U} {out:Out U} {p:Value} (hr:nilR a=some r) (ho:r.outs=some out) (ha:RA U c a p):
  out.w= []/\out.nw=0/\RA U c out.v p/\∃x,p= .pointer (some x):=by
 unfold nilR at hr
 split at hr
 ·cases hr
  rw [Zl ho]
  refine ⟨rfl,rfl,ha,?_⟩
  cases (show R U c _ p from ha) with
  |Q4Q h0=>exact ⟨_,rfl⟩
 ·cases hr
theorem Z9O {t:TypeId} {a b:A U} {r:OpR U} {out:Out U} {p q:Value} (hro:Q8X P t a b=some r) (ho:r.outs=some out) (ha:RA U c a p) (hb:RA U c b q):
  Q3C U c w P (Instr.indexAt t p q) out:=by
 unfold Q8X at hro
 split at hro
 ·rename_i own F m' r bb len k n
  split at hro
  ·rename_i e hu
   split at hro
   ·rename_i m hm
    cases hmu:Nat.beq m m' with
    |false=>rw [hmu] at hro;cases hro
    |true=>
     rw [hmu] at hro
     cases hro
     obtain ⟨hr,rfl⟩:=Zb ho
     obtain ⟨h0,h1,h2⟩:=ZS hr
     have hmu':=QH hmu
     subst hmu'
     cases R.int (show R U c _ q from hb)
     cases (show R U c _ p from ha) with
     | @rsl _ _ _ _ _ _ cap b o a' hc ha' hw=>
      obtain ⟨hF,hL,rfl⟩:=ha' (by omega)
      refine ⟨.pointer (some (at_ b (o+((bb+n.toNat)*m+0)))),?_,R.Q4Q hL,rfl,rfl⟩
      simp only [Instr.indexAt,Sem.run_bind,Z16,Result.andThen_ok,run_underlying hu]
      simp [h0,h1,Za hm,Zq,Nat.add_mul,Nat.add_assoc]
   ·cases hro
  ·cases hro
 ·cases hro
theorem Qak {a:A U} {r:OpR U} {out:Out U} {p:Value} {t ty:TypeId} {ts:Array TypeId} (hr:lenR P t a=some r) (ho:r.outs=some out) (ha:RA U c a p)
  (ht:ts[0]? =some t):Q3C U c w P (Builtin.len_ ts ty #[p]) out:=by
 unfold lenR at hr
 split at hr
 ·rename_i own F m r b n
  split at hr
  ·rename_i e hu
   cases hr
   rw [Zl ho]
   cases (show R U c _ p from ha) with
   |rsl hc ha' hw=>exact ⟨.int .i64 n,by simp [Builtin.len_,ht,run_underlying hu,goInt],.val rfl,rfl,rfl⟩
  ·cases hr
 ·cases hr
theorem Z8V {t:TypeId} {a:A U} {xl xh xm:Option (Option (A U))} {yl yh ym:Option Value} {ro:OpR U} {out:Out U} {p:Value}
  (hro:Z7D P t a xl xh xm=some ro) (ho:ro.outs=some out) (ha:RA U c a p)
  (hl:Z1g U c xl yl) (hh:Z1g U c xh yh) (hm:Z1g U c xm ym):Q3C U c w P (Instr.sliceAt t p yl yh ym) out:=by
 unfold Z7D at hro
 split at hro
 ·rename_i own F m' r bb n
  split at hro
  ·rename_i e hu
   split at hro
   ·rename_i m l q hs h1 h2
    cases hmu:Nat.beq m m' with
    |false=>rw [hmu] at hro;cases hro
    |true=>
     rw [hmu] at hro
     simp only [cond_true] at hro
     have hmu':=QH hmu
     subst hmu'
     cases (show R U c _ p from ha) with
     | @rsl _ _ _ _ _ _ cap b o a' hc ha' hw=>
      have mk:∀(own':Bool) (M:Nat),0<=l->l<=q->q<=(n:Int)->q.toNat<=M->M<=cap->(own'=true->own=true/\M=q.toNat)->
        R U c (.rsl own' F m r (bb+l.toNat) (q.toNat - l.toNat)) (.slice (if M=l.toNat then a' else a'.map (·.add (l.toNat*m))) (q.toNat - l.toNat) (M - l.toNat)):=by
       intro own' M e0 e1 e2 e3 e4 e5
       refine R.rsl (b:=b) (o:=o) (by omega) (λhpos=>?_) (λhow=>⟨λhz=>?_,λhpos=>?_⟩)
       ·obtain ⟨hF,hL,rfl⟩:=ha' (by omega)
        refine ⟨hF,hL,?_⟩
        rw [if_neg (by omega)]
        simp [Zq,Nat.add_mul,Nat.add_assoc]
       ·have:=(e5 how).2;omega
       ·obtain ⟨w1,w2⟩:=e5 how
        obtain ⟨e,q1,q2⟩:=(hw w1).2 (by omega)
        refine ⟨e,q1,Nat.le_trans (Nat.add_le_add_left (Nat.mul_le_mul_right _ ?_) _) q2⟩
        omega
      split at hro
      ·cases hro
       obtain ⟨hr,rfl⟩:=Zb ho
       obtain ⟨e0,e1,e2⟩:=ZK hr
       cases ym with
       |some v=>exact hm.elim
       |none=>
        have hb:=ZV (P:=P) (w:=w) (isS:=true) (Zk h1 hl) (Zk h2 hh) e0 e1 e2 hc
        refine ⟨_,?_,mk false cap e0 e1 e2 (by omega) (Nat.le_refl _) (λhh=>by cases hh),rfl,rfl⟩
        simp [Instr.sliceAt,run_underlying hu,Instr.slice,hb,Za hs]
      ·rename_i k cc
       cases hsx:xh.isSome with
       |false=>rw [hsx] at hro;cases hro
       |true=>
        rw [hsx] at hro
        cases hro
        obtain ⟨hr,rfl⟩:=Zb ho
        have hr1:le3 l q n=true/\ieq q cc=true:=by
         cases h3:le3 l q n <;> simp [h3] at hr
         exact ⟨rfl,hr⟩
        obtain ⟨e0,e1,e2⟩:=ZK hr1.1
        have e3:q=cc:=by simpa [ieq] using hr1.2
        subst e3
        cases ym with
        |none=>exact hm.elim
        |some v=>
         cases R.int (show R U c _ v from hm _ rfl)
         ·have hsome:yh.isSome:=by
           cases yh with
           |none=>cases xh with
            |none=>cases hsx
            |some a=>exact hh.elim
           |some v=>rfl
          have hb:=Z51 (P:=P) (w:=w) (km:=k) (m:=q) (cap:=cap) (Zk h1 hl) (Zk h2 hh) hsome e0 e1 (Int.le_refl _) (by omega)
          refine ⟨_,?_,mk own q.toNat e0 e1 e2 (Nat.le_refl _) (by omega) (λh=>⟨h,rfl⟩),rfl,rfl⟩
          simp [Instr.sliceAt,run_underlying hu,Instr.slice,hb,Za hs]
      ·cases hro
   ·cases hro
  ·cases hro
 ·cases hro
theorem QB.rows (hU:U.Ok) {w':World} {c':Cx} {F:Nat} {e:Ent U} {F':Nat->Nat->Prop} {v:A U} {u:Value} {rd:List Nat}
  (hg:G U c Φ h w) (hF:F < U.nf) (hs:(get h F).isSome) (hle:c.Le c') (hL:∀t i,t≠F->c'.L t i=c.L t i) (hI:c'.I=c.I)
  (hfr:Fr (Φ F) w w') (hE:Q1s c' w' F F' e) (hsub:∀b o,F' b o->w.heap.size<=b\/Φ F b o) (hv:RA U c' v u):
  QB U c Φ h nx { v:=v,rd:=rd,w:= [(F,e)]} w c' (fup Φ F F') u w':=by
 have hlt:∀t b o,(get h t).isSome->Φ t b o->b < w.heap.size:=λt b o ht hf=>hg.lt hU ht hf
 refine { le:=hle,L:=λs i _ hs2=>hL s i λe=>hs2 ⟨e▸hF,by simp [e]⟩,val:=hv,g:= ?_,fr:= ?_,Q2p:=λt ht=>?_,Q2g:=λt b' o' ht hf=>?_,names:=λt ht=>?_,Q32:=λ_ _ _ h=>by rw [hI] at h;exact .inl h}
 ·refine hg.put hU hle hL hE (λt hts h1=>hfr.agr (λb' o' hf=>hlt t b' o' h1 hf) λb' o' hf hn=>hg.apart t F b' o' hts h1 hs hf hn)
   (λt b' o' hts h1 hf hF'=>by
    rcases hsub _ _ hF' with h2|h2
    ·have:=hlt t b' o' h1 hf;omega
    ·exact hg.apart t F b' o' hts h1 hs hf h2) (λb' o' u hu=>?_) (λt b' o' _ h1 hf=>by rw [hI];exact hg.Q15 t b' o' h1 hf) (λb' o' hf=>?_)
  ·rw [hI] at hu
   refine (hfr.cell b' o' (Zf (hg.imm b' o' u hu)) λhn=>?_).trans (hg.imm b' o' u hu)
   have:=hg.Q15 F b' o' hs hn
   rw [hu] at this;cases this
  ·rw [hI]
   rcases hsub _ _ hf with h2|h2
   ·cases hc:c.I b' o' with
    |none=>rfl
    |some v=>have:=Zf (hg.imm b' o' v hc);omega
   ·exact hg.Q15 F b' o' hs h2
 ·exact hfr.mono λb' o' _ hn=>⟨F,by simp,hs,hn⟩
 ·simp at ht;simp [fup,ht]
 ·simp at ht;subst ht
  simp [fup] at hf
  rcases hsub _ _ hf with h2|h2
  ·exact .inl h2
  ·exact .inr ⟨t,by simp,hs,h2⟩
 ·simp at ht;subst ht;exact .inr hs
def Cx.row (c:Cx) (F n b o e:Nat):Cx:={ L:=λs i=>if s=F/\i=2*n then some (b,o) else if s=F/\i=2*n+1 then some (b,e) else c.L s i,I:=c.I}
theorem Cx.Q7w {F n b o e:Nat} (h:∀i x,c.L F i=some x->i < 2*n):c.Le (c.row F n b o e):=
 ⟨λs i q hq=>by
  simp only [Cx.row]
  by_cases e1:s=F/\i=2*n
  ·obtain ⟨rfl,rfl⟩:=e1;have:=h _ _ hq;omega
  ·by_cases e2:s=F/\i=2*n+1
   ·obtain ⟨rfl,rfl⟩:=e2;have:=h _ _ hq;omega
   ·rw [if_neg e1,if_neg e2];exact hq,λ_ _ _ h=>h⟩
theorem Cx.Q84 {F n b o e:Nat} {t i:Nat} (h:t≠F):(c.row F n b o e).L t i=c.L t i:=by simp [Cx.row,h]
theorem Cx.Q89 {F n b o e:Nat}:(c.row F n b o e).L F (2*n)=some (b,o):=by simp [Cx.row]
theorem Cx.Q8c {F n b o e:Nat}:(c.row F n b o e).L F (2*n+1)=some (b,e):=by simp [Cx.row]
theorem Cx.Q8O {F n b o e r:Nat} (h:r < n):(c.row F n b o e).L F (2*r)=c.L F (2*r)/\(c.row F n b o e).L F (2*r+1)=c.L F (2*r+1):=
 ⟨by simp only [Cx.row];rw [if_neg (by omega),if_neg (by omega)],by simp only [Cx.row];rw [if_neg (by omega),if_neg (by omega)]⟩
theorem Cx.row_N {F n b o e i:Nat} {x:Nat×Nat} (h:∀i x,c.L F i=some x->i < 2*n) (hx:(c.row F n b o e).L F i=some x):i < 2*(n+1):=by
 simp only [Cx.row,true_and] at hx
 by_cases e1:i=2*n
 ·omega
 ·rw [if_neg e1] at hx
  by_cases e2:i=2*n+1
  ·omega
  ·rw [if_neg e2] at hx
   have:=h _ _ hx;omega
theorem Q5J.add (hU:U.Ok) {s:Nat} {F:Nat->Nat->Prop} {u:U.C} {n:Nat} {g g0:Nat->List (U.D u)} {A:Nat->Nat×Nat} {E:Nat->Nat} (h:Q5J U c w s F u n g A E) {w':World} {b o e:Nat} {L:List (U.D u)}
  (hpl:U.plain u=true) (hle:c.Le (c.row s n b o e))
  (h0:∀r,r < n->g0 r=g r\/g0 r= [])
  (hsame:∀r x,r < n->0 < (g0 r).length->(A r).2<=x->x < E r->w'.cell? (at_ (A r).1 x)=w.cell? (at_ (A r).1 x)/\w'.frozen? (at_ (A r).1 x)=w.frozen? (at_ (A r).1 x))
  (hcon:∀i k x,i < L.length->(U.enc u (L.getD i (U.dft u)))[k]? =some x->∃v,w'.cell? (at_ b (o+(i*U.size u+k)))=some v/\R U (c.row s n b o e) x v)
  (hlen:0 < L.length->o+L.length*U.size u<=e)
  (hmem:∀x,0 < L.length->o<=x->x < e->(∃v,w'.cell? (at_ b x)=some v)/\w'.frozen? (at_ b x)=false)
  (hdis:∀r b' o',r < n->Q4t A E (λr=>(g0 r).length) r b' o'->0 < L.length->b'=b->o<=o'->o' < e->False):
  ∃F',Q1s (c.row s n b o e) w' s F' (.Q1a u (n+1) (QA g0 n L):Ent U)/\∀b' o',F' b' o'->F b' o'\/(b'=b/\o<=o'/\o' < e/\0 < L.length):=by
 let A':Nat->Nat×Nat:=QA A n (b,o)
 let E':Nat->Nat:=QA E n e
 have en:∀r,r < n->A' r=A r/\E' r=E r/\QA g0 n L r=g0 r:=λr hr=>by
  have:r≠n:=by omega
  simp [A',E',QA,this]
 have ee:A' n=(b,o)/\E' n=e/\QA g0 n L n=L:=by simp [A',E',QA]
 have sub:∀r,r < n->∀b' o',Q4t A' E' (λr=>(QA g0 n L r).length) r b' o'↔Q4t A E (λr=>(g0 r).length) r b' o':=λr hr b' o'=>by
  obtain ⟨q1,q2,q3⟩:=en r hr
  simp only [Q4t,q1,q2,q3]
 have subn:∀b' o',Q4t A' E' (λr=>(QA g0 n L r).length) n b' o'↔0 < L.length/\b'=b/\o<=o'/\o' < e:=λb' o'=>by
  obtain ⟨q1,q2,q3⟩:=ee
  simp only [Q4t,q1,q2,q3]
 have sub0:∀r,r < n->∀b' o',Q4t A E (λr=>(g0 r).length) r b' o'->Q4t A E (λr=>(g r).length) r b' o':=λr hr b' o' hf=>by
  rcases h0 r hr with q|q
  ·unfold Q4t at hf ⊢;simp only [q] at hf;exact hf
  ·unfold Q4t at hf;simp [q] at hf
 refine ⟨λb' o'=>∃r,r < n+1/\Q4t A' E' (λr=>(QA g0 n L r).length) r b' o',Q1s.rows.2 ⟨A',E',?_⟩,λb' o' ⟨r,hr,hf⟩=>?_⟩
 ·refine ⟨λr hr=>?_,λi x hx=>Cx.row_N h.N hx,λ_=>hpl,λr i k x hr hi hx=>?_,λr hr hp=>?_,λr x hr hp h1 h2=>?_,λr r' b' o' hr hr' hne hf hf'=>?_,λ_ _=>Iff.rfl⟩
  ·by_cases q:r=n
   ·subst q;rw [ee.1,ee.2.1];exact ⟨Cx.Q89,Cx.Q8c⟩
   ·have hr:r < n:=by omega
    rw [(en r hr).1,(en r hr).2.1,(Cx.Q8O hr).1,(Cx.Q8O hr).2];exact h.L r hr
  ·by_cases q:r=n
   ·subst q
    rw [ee.2.2] at hi hx
    rw [ee.1]
    exact hcon i k x hi hx
   ·have hr:r < n:=by omega
    obtain ⟨q1,q2,q3⟩:=en r hr
    rw [q3] at hi hx
    rw [q1]
    rcases h0 r hr with z|z
    ·have hk:k < U.size u:=by rw [←hU.QD u];exact (List.getElem?_eq_some_iff.1 hx).1
     rw [z] at hi hx
     have hlt:i*U.size u+k < (g r).length*U.size u:=by
      calc i*U.size u+k < i*U.size u+U.size u:=by omega
       _=(i+1)*U.size u:=by rw [Nat.succ_mul]
       _<=(g r).length*U.size u:=Nat.mul_le_mul_right _ hi
     have:=h.len r hr (by omega)
     obtain ⟨v,p1,p2⟩:=h.con r i k x hr hi hx
     exact ⟨v,(hsame r _ hr (by rw [z];omega) (by omega) (by omega)).1.trans p1,p2.mono hle⟩
    ·rw [z] at hi;simp at hi
  ·by_cases q:r=n
   ·subst q;rw [ee.2.2] at hp ⊢;rw [ee.1,ee.2.1];exact hlen hp
   ·have hr:r < n:=by omega
    obtain ⟨q1,q2,q3⟩:=en r hr
    rw [q3] at hp ⊢;rw [q1,q2]
    rcases h0 r hr with z|z
    ·rw [z] at hp ⊢;exact h.len r hr hp
    ·rw [z] at hp;simp at hp
  ·by_cases q:r=n
   ·subst q;rw [ee.2.2] at hp;rw [ee.1] at h1 ⊢;rw [ee.2.1] at h2;exact hmem x hp h1 h2
   ·have hr:r < n:=by omega
    obtain ⟨q1,q2,q3⟩:=en r hr
    rw [q3] at hp;rw [q1] at h1 ⊢;rw [q2] at h2
    obtain ⟨s1,s2⟩:=hsame r x hr hp h1 h2
    rw [s1,s2]
    rcases h0 r hr with z|z
    ·rw [z] at hp;exact h.mem r x hr hp h1 h2
    ·rw [z] at hp;simp at hp
  ·by_cases q:r=n
   ·have hr'':r' < n:=by omega
    rw [q] at hf
    obtain ⟨p1,p2,p3,p4⟩:=(subn _ _).1 hf
    exact hdis r' b' o' hr'' ((sub r' hr'' _ _).1 hf') p1 p2 p3 p4
   ·have hr1:r < n:=by omega
    by_cases q':r'=n
    ·rw [q'] at hf'
     obtain ⟨p1,p2,p3,p4⟩:=(subn _ _).1 hf'
     exact hdis r b' o' hr1 ((sub r hr1 _ _).1 hf) p1 p2 p3 p4
    ·have hr2:r' < n:=by omega
     exact h.dis r r' b' o' hr1 hr2 hne (sub0 r hr1 _ _ ((sub r hr1 _ _).1 hf)) (sub0 r' hr2 _ _ ((sub r' hr2 _ _).1 hf'))
 ·by_cases q:r=n
  ·rw [q] at hf
   obtain ⟨p1,p2,p3,p4⟩:=(subn _ _).1 hf
   exact .inr ⟨p2,p3,p4,p1⟩
  ·have hr1:r < n:=by omega
   exact .inl ((h.Q2p _ _).2 ⟨r,hr1,sub0 r hr1 _ _ ((sub r hr1 _ _).1 hf)⟩)
theorem Z9P {F m r n:Nat} {x:U.S} {p:Value} (h:Q8W F m x=some (r,n)) (hr:R U c x p):
  ∃a cap,p= .slice a n cap/\n<=cap/\(0 < n->∃b o e,c.L F (2*r)=some (b,o)/\a=some (at_ b o)/\c.L F (2*r+1)=some (b,e)/\o+cap*m<=e)/\(n=0->cap=0):=by
 unfold Q8W at h
 split at h
 ·rename_i F' m' r' b' n'
  cases hb:Nat.beq F' F && Nat.beq m' m && Nat.beq b' 0 with
  |false=>rw [hb] at h;cases h
  |true=>
   rw [hb] at h
   cases h
   simp only [Bool.and_eq_true] at hb
   have e1:=QH hb.1.1
   have e2:=QH hb.1.2
   have e3:=QH hb.2
   subst e1;subst e2;subst e3
   cases hr with
   | @rsl _ _ _ _ _ _ cap b o a hc ha ho=>
    obtain ⟨o1,o2⟩:=ho rfl
    refine ⟨a,cap,rfl,hc,λhn=>?_,o1⟩
    obtain ⟨_,q1,q2⟩:=ha hn
    obtain ⟨e,q3,q4⟩:=o2 hn
    exact ⟨b,o,e,q1,by simpa using q2,q3,by simpa using q4⟩
 ·rename_i u xs
  split at h
  ·cases h
   cases hr with
   |isl g hc ht ha hi hr=>exact ⟨_,_,rfl,Nat.zero_le _,λhh=>absurd hh (Nat.lt_irrefl _),λ_=>ht⟩
  ·cases h
 ·cases h
  cases R.Q1z hr
  exact ⟨_,_,rfl,Nat.le_refl _,λhh=>absurd hh (Nat.lt_irrefl _),λ_=>rfl⟩
 ·cases h
theorem Z7l {n m sz k:Nat} {i:Nat} (hi:i < n) (hk:k < sz):i*sz+k < n*sz:=by
 calc i*sz+k < i*sz+sz:=by omega
  _=(i+1)*sz:=by rw [Nat.succ_mul]
  _<=n*sz:=Nat.mul_le_mul_right _ hi
theorem Z8P (hU:U.Ok) {F N n r cap:Nat} {v:U.C} {g g0:Nat->List (U.D v)} {xs ys:List (U.D v)} {a:Option Addr} {t t2 ty e:TypeId} {d2:TypeDesc} {i:TypeInfo} {z q:Value} {rd:List Nat}
  (hpl:U.plain v=true) (hg:G U c Φ h w) (hF:F < U.nf) (he:get h F=some (.Q1a v N g)) (hxs:xs.length=n) (hn:(n=0/\g0=g)\/(0 < n/\xs=g r/\g0=QA g r []))
  (hcap:n<=cap) (h1:0 < n->∃b o e,c.L F (2*r)=some (b,o)/\a=some (at_ b o)/\c.L F (2*r+1)=some (b,e)/\o+cap*U.size v<=e) (h2:n=0->cap=0)
  (ht:P.underlying t=some (.slice e)) (ht2:P.underlying t2=some d2) (hd2:ZI d2=true)
  (hi:P.info? e=some i) (hz:i.zero=some z) (hsz:i.size=U.size v) (hzs:z.cells.size=i.size) (hb1:1<=i.bytes) (hs1:1<=i.size) (hroom:(n+ys.length)*i.bytes<=140737488355328)
  (hq:Z1t U c w P v ys q) (hqd:Z1t U c w.drew P v ys q):
  ∃u w' c' Φ',(Builtin.append_ #[t,t2] ty #[.slice a n cap,q]).run P w= .ok u w'/\
   QB U c Φ h nx { v:=Rf.sc (.rsl true F (U.size v) N 0 (n+ys.length)),rd:=rd,w:= [(F,.Q1a v (N+1) (QA g0 N (xs++ys)))]} w c' Φ' u w':=by
 obtain ⟨A,E,hO⟩:=Q1s.rows.1 (hg.Q1M F _ he)
 have hsome:(get h F).isSome:=by rw [he];rfl
 have hsize:size? P e=some (U.size v):=by simp [size?,hi,hsz]
 have hg0:∀r',r' < N->g0 r'=g r'\/g0 r'= []:=λr' _=>by
  rcases hn with ⟨_,q⟩|⟨_,_,q⟩
  ·rw [q];exact .inl rfl
  ·rw [q]
   by_cases e':r'=r
   ·simp [QA,e']
   ·simp [QA,e']
 have hlt:∀r',r' < N->0 < (g r').length->(A r').1 < w.heap.size:=λr' hr' hp=>by
  have:=hO.len r' hr' hp
  have hs:0 < (g r').length*U.size v:=Nat.mul_pos hp (by omega)
  obtain ⟨⟨u,hu⟩,_⟩:=hO.mem r' (A r').2 hr' hp (Nat.le_refl _) (by omega)
  exact Zf hu
 have hpos0:∀r',r' < N->0 < (g0 r').length->g0 r'=g r':=λr' hr' hp=>by
  rcases hg0 r' hr' with q|q
  ·exact q
  ·rw [q] at hp;simp at hp
 by_cases hin:n+ys.length<=cap
 ·-- there is room
  obtain ⟨hlen,vs,hvl,hfc,hone,hrows⟩:=hq
  rcases Nat.eq_zero_or_pos n with hz0|hpos
  ·have hc0:=h2 hz0
   have hy0:ys= []:=List.eq_nil_of_length_eq_zero (by omega)
   have hx0:xs= []:=List.eq_nil_of_length_eq_zero (by omega)
   subst hy0;subst hx0
   have hv0:vs= []:=List.eq_nil_of_length_eq_zero (by rw [hvl];simp)
   subst hv0
   have hrun:(Builtin.append_ #[t,t2] ty #[.slice a n cap,q]).run P w= .ok (.slice a (n+0) cap) w:=
    Z1V ht ht2 hd2 hsize hlen hfc hin (λx hx'=>by simp [storeCells]) (λhn=>rfl)
   have hle:c.Le (c.row F N 0 0 0):=Cx.Q7w hO.N
   obtain ⟨F',hE,hsub⟩:=hO.add hU (w':=w) (g0:=g0) (b:=0) (o:=0) (e:=0) (L:= []) hpl hle hg0 (λr x _ _ _ _=>⟨rfl,rfl⟩) (λi k x hi=>by simp at hi) (λh=>by simp at h) (λx h=>by simp at h) (λr b' o' _ _ h=>by simp at h)
   refine ⟨_,w,_,_,hrun,QB.rows hU hg hF hsome hle (λt i ht=>Cx.Q84 ht) rfl (.refl _ _) hE (λb o hf=>?_) ?_⟩
   ·rcases hsub _ _ hf with h|⟨_,_,_,h⟩
    ·exact .inr h
    ·simp at h
   ·have hn0:n+([]:List (U.D v)).length=0:=by simp;exact hz0
    rw [hn0,show n+0=0 by omega]
    exact R.rsl (b:=0) (o:=0) (Nat.zero_le _) (λh=>absurd h (Nat.lt_irrefl _)) λ_=>⟨λ_=>hc0,λh=>absurd h (Nat.lt_irrefl _)⟩
  ·rcases hn with ⟨hn,_⟩|⟨_,hxg,hgg⟩
   ·omega
   obtain ⟨b,o,e',hL,rfl,hL1,hce⟩:=h1 hpos
   obtain ⟨hrN,hA⟩:=hO.atL hL
   have hE1:E r=e':=by
    have:=(hO.L r hrN).2
    rw [hL1] at this
    simp only [Option.some.injEq,Prod.mk.injEq] at this
    exact this.2.symm
   subst hE1
   have hgl:(g r).length=n:=by rw [←hxg];exact hxs
   have hmem:=λx=>hO.mem r x hrN (by omega)
   rw [hA] at hmem
   simp only at hmem
   have hcapm:(n+ys.length)*U.size v<=cap*U.size v:=Nat.mul_le_mul_right _ hin
   have hsum:(n+ys.length)*U.size v=n*U.size v+ys.length*U.size v:=Nat.add_mul _ _ _
   have hth:∀j,j < vs.length->(∃u,w.cell? (at_ b (o+n*U.size v+j))=some u)/\w.frozen? (at_ b (o+n*U.size v+j))=false:=λj hj=>hmem _ (by omega) (by omega)
   have hrun:(Builtin.append_ #[t,t2] ty #[.slice (some (at_ b o)) n cap,q]).run P w= .ok (.slice (some (at_ b o)) (n+ys.length) cap) (w.setCells b (o+n*U.size v) vs):=
    Z1V ht ht2 hd2 hsize hlen hfc hin (λx hx'=>by
     cases hx'
     rw [Zq]
     have:=run_storeCells_cells (P:=P) b (o+n*U.size v) vs 0 w (λj hj=>by
      obtain ⟨⟨u,hu⟩,_⟩:=hth j hj
      simp [hu]) (λj hj=>by simpa using (hth j hj).2) hone
     simpa using this) (λhn=>by cases hn)
   have hle:c.Le (c.row F N b o (E r)):=Cx.Q7w hO.N
   have hrow:∀o',o<=o'->o' < E r->Q4t A E (λr=>(g r).length) r b o':=λo' q1 q2=>⟨by show 0 < (g r).length;omega,by rw [hA],by rw [hA];exact q1,q2⟩
   have hfar:∀r' x,r' < N->0 < (g0 r').length->(A r').2<=x->x < E r'->¬((A r').1=b/\o<=x/\x < E r):=λr' x hr' hp q1 q2 q3=>by
    have hne:r'≠r:=λe'=>by rw [hgg,e'] at hp;simp [QA] at hp
    have hp':=hp
    rw [hpos0 r' hr' hp] at hp'
    exact hO.dis r' r (A r').1 x hr' hrN hne ⟨hp',rfl,q1,q2⟩ (by rw [q3.1];exact hrow x q3.2.1 q3.2.2)
   have hLl:(xs++ys).length=n+ys.length:=by rw [List.length_append,hxs]
   obtain ⟨F',hE,hsub⟩:=hO.add hU (w':=w.setCells b (o+n*U.size v) vs) (g0:=g0) (b:=b) (o:=o) (e:=E r) (L:=xs++ys) hpl hle hg0
    (λr' x hr' hp q1 q2=>⟨Zm λeb=>by
     have:=hfar r' x hr' hp q1 q2
     by_cases h3:x < o+n*U.size v
     ·exact .inl h3
     ·by_cases h4:o+n*U.size v+vs.length<=x
      ·exact .inr h4
      ·exact absurd ⟨eb,by omega,by omega⟩ this,World.frozen?_setCells _ _ _ _ _⟩)
    (λi k x hi hx=>by
     have hk:k < U.size v:=by rw [←hU.QD v];exact (List.getElem?_eq_some_iff.1 hx).1
     rw [hLl] at hi
     by_cases h3:i < n
     ·rw [Z1w (by omega)] at hx
      rw [hxg] at hx
      obtain ⟨u,p1,p2⟩:=hO.con r i k x hrN (by omega) hx
      rw [hA] at p1
      simp only at p1
      have hlt:=Z7l (n:=n) (m:=0) h3 hk
      exact ⟨u,by rw [Zm (λ_=>.inl (by omega))];exact p1,p2.mono hle⟩
     ·rw [Z1m (by omega),hxs] at hx
      obtain ⟨u,p1,p2⟩:=hrows (i - n) k (by omega) hk
      rw [getD_of_getElem? hx] at p2
      have hcs:=Zy (w:=w) (b:=b) (o:=o+n*U.size v) (vs:=vs) (λj hj=>by
       obtain ⟨⟨u,hu⟩,_⟩:=hth j hj
       simp [hu]) p1
      refine ⟨u,?_,p2.mono hle⟩
      have hsp:i*U.size v=n*U.size v+(i - n)*U.size v:=by rw [←Nat.add_mul];congr 1;omega
      rw [show o+(i*U.size v+k)=o+n*U.size v+((i - n)*U.size v+k) by omega]
      exact hcs)
    (λ_=>by rw [hLl];omega)
    (λx _ q1 q2=>by
     obtain ⟨⟨u,hu⟩,hf⟩:=hmem x q1 q2
     refine ⟨?_,by rw [World.frozen?_setCells];exact hf⟩
     by_cases hh:o+n*U.size v<=x/\x < o+n*U.size v+vs.length
     ·have hj:x - (o+n*U.size v) < vs.length:=by omega
      have hcs:=Zy (w:=w) (b:=b) (o:=o+n*U.size v) (vs:=vs) (λj hj=>by
       obtain ⟨⟨u,hu⟩,_⟩:=hth j hj
       simp [hu]) (List.getElem?_eq_getElem hj)
      rw [show o+n*U.size v+(x - (o+n*U.size v))=x by omega] at hcs
      exact ⟨_,hcs⟩
     ·exact ⟨u,by rw [Zm (λ_=>by omega)];exact hu⟩)
    (λr' b' o' hr' ⟨p1,p2,p3,p4⟩ _ q1 q2 q3=>by
     subst p2
     exact hfar r' o' hr' p1 p3 p4 ⟨q1,q2,q3⟩)
   have hΦ:∀b' o',b'=b/\o<=o'/\o' < E r->Φ F b' o':=λb' o' ⟨q1,q2,q3⟩=>(hO.Q2p _ _).2 ⟨r,hrN,by rw [q1];exact hrow o' q2 q3⟩
   refine ⟨_,_,_,_,hrun,QB.rows hU hg hF hsome hle (λt i ht=>Cx.Q84 ht) rfl (Fr.setCells λj hj=>hΦ _ _ ⟨rfl,by omega,by omega⟩) hE (λb' o' hf=>?_) ?_⟩
   ·rcases hsub _ _ hf with h|⟨q1,q2,q3,_⟩
    ·exact .inr h
    ·exact .inr (hΦ _ _ ⟨q1,q2,q3⟩)
   ·refine R.rsl (b:=b) (o:=o) (by omega) (λ_=>⟨hF,Cx.Q89,by simp⟩) λ_=>⟨λ_=>by omega,λ_=>⟨E r,Cx.Q8c,by simpa using hce⟩⟩
 ·-- there is none
  have hold:Z1t U c w.drew P v xs (.slice a xs.length cap):=by
   rcases Nat.eq_zero_or_pos n with hz0|hpos
   ·have hx0:xs= []:=List.eq_nil_of_length_eq_zero (by omega)
    subst hx0
    exact Z1f (ys:= []) (b:=0) (o:=0) (λh=>by simp at h) λi k hi=>by simp at hi
   ·rcases hn with ⟨hn,_⟩|⟨_,hxg,hgg⟩
    ·omega
    obtain ⟨b,o,e',hL,rfl,hL1,hce⟩:=h1 hpos
    obtain ⟨hrN,hA⟩:=hO.atL hL
    refine Z1f (b:=b) (o:=o) (λ_=>rfl) λi k hi hk=>?_
    have hkl:k < (U.enc v (xs.getD i (U.dft v))).length:=by rw [hU.QD];exact hk
    obtain ⟨u,p1,p2⟩:=hO.con r i k _ hrN (by rw [←hxg];exact hi) (by rw [←hxg];exact List.getElem?_eq_getElem hkl)
    rw [hA] at p1
    refine ⟨u,p1,?_⟩
    rw [getD_of_getElem? (List.getElem?_eq_getElem hkl)]
    exact p2
  obtain ⟨_,os,hol,hoc,_,horows⟩:=hold
  have hl:=hq.1
  obtain ⟨_,vs,hvl,hfc,_,hrows⟩:=hqd
  have h63:n+ys.length<=9223372036854775807:=by
   have:(n+ys.length)*1<=(n+ys.length)*i.bytes:=Nat.mul_le_mul_left _ hb1
   omega
  rw [hxs] at hoc
  have hrun:=Z2i (P:=P) (w:=w) (t:=t) (t2:=t2) (ty:=ty) ht ht2 hd2 hi hz hl (by rw [hsz];exact hfc) (by rw [hsz];exact hoc) (by omega) (by omega) h63
  have hge:=grownCap_ge w (n+ys.length) cap e
  generalize hC:grownCap w (n+ys.length) cap e=C at hrun hge
  generalize hB:w.heap.size=B at hrun
  have hlen:(os++vs).length=(n+ys.length)*U.size v:=by rw [List.length_append,hol,hvl,Nat.add_mul,hxs]
  let arr:Array Value:=os.toArray++vs.toArray++Builtin.zeroCells z.cells (C - (n+ys.length))
  have hasz:arr.size=C*U.size v:=by
   simp only [arr,Array.size_append,List.size_toArray,Builtin.zeroCells,Array.size_map,Array.size_range,hzs,hsz]
   rw [hol,hvl,hxs,←Nat.add_mul,←Nat.add_mul]
   congr 1;omega
  have harr:∀(j:Nat) u,(os++vs)[j]? =some u->arr[j]? =some u:=λj u hu=>by
   have hlt:=(List.getElem?_eq_some_iff.1 hu).1
   simp only [arr]
   rw [Array.getElem?_append_left (by simpa using hlt)]
   simpa using hu
  have hcell:∀x,(w.drew.alloc (.cells arr e)).cell? (at_ B x)=arr[x]? :=λx=>by
   have:=World.cell?_alloc_new w.drew arr e x
   rw [show w.drew.heap.size=B from hB] at this
   exact this
  have hle:c.Le (c.row F N B 0 (C*U.size v)):=Cx.Q7w hO.N
  have hLl:(xs++ys).length=n+ys.length:=by rw [List.length_append,hxs]
  have hCm:(n+ys.length)*U.size v<=C*U.size v:=Nat.mul_le_mul_right _ hge
  obtain ⟨F',hE,hsub⟩:=hO.add hU (w':=w.drew.alloc (.cells arr e)) (g0:=g0) (b:=B) (o:=0) (e:=C*U.size v) (L:=xs++ys) hpl hle hg0
   (λr' x hr' hp q1 q2=>by
    have:=hlt r' hr' (by rw [hpos0 r' hr' hp] at hp;exact hp)
    exact ⟨ZN w.drew (.cells arr e) this,Z2b w.drew (.cells arr e) this⟩)
   (λi k x hi hx=>by
    have hk:k < U.size v:=by rw [←hU.QD v];exact (List.getElem?_eq_some_iff.1 hx).1
    rw [hLl] at hi
    by_cases h3:i < n
    ·rw [Z1w (by omega)] at hx
     obtain ⟨u,p1,p2⟩:=horows i k (by omega) hk
     rw [getD_of_getElem? hx] at p2
     refine ⟨u,?_,p2.mono hle⟩
     rw [hcell,Nat.zero_add]
     exact harr _ _ (by rw [List.getElem?_append_left (List.getElem?_eq_some_iff.1 p1).1];exact p1)
    ·rw [Z1m (by omega),hxs] at hx
     obtain ⟨u,p1,p2⟩:=hrows (i - n) k (by omega) hk
     rw [getD_of_getElem? hx] at p2
     refine ⟨u,?_,p2.mono hle⟩
     rw [hcell,Nat.zero_add]
     refine harr _ _ ?_
     have hsp:i*U.size v=n*U.size v+(i - n)*U.size v:=by rw [←Nat.add_mul];congr 1;omega
     rw [List.getElem?_append_right (by rw [hol,hxs];omega),hol,hxs,show i*U.size v+k - n*U.size v=(i - n)*U.size v+k by omega]
     exact p1)
   (λ_=>by rw [hLl];omega)
   (λx _ q1 q2=>⟨⟨arr[x]'(by rw [hasz];exact q2),by rw [hcell];simp [hasz,q2]⟩,World.frozen?_alloc_at (w:=w.drew) arr e B x hB.symm⟩)
   (λr' b' o' hr' ⟨p1,p2,p3,p4⟩ _ q1 _ _=>by
    have:=hlt r' hr' (by rw [←hpos0 r' hr' p1];exact p1)
    omega)
  refine ⟨_,_,_,_,hrun,QB.rows hU hg hF hsome hle (λt i ht=>Cx.Q84 ht) rfl ((Fr.drew _ w).trans (Fr.alloc _ w.drew _) (λb o hb hf=>hf)) hE (λb' o' hf=>?_) ?_⟩
  ·rcases hsub _ _ hf with h|⟨q1,q2,q3,_⟩
   ·exact .inr h
   ·exact .inl (by omega)
  ·exact R.rsl (b:=B) (o:=0) hge (λ_=>⟨hF,Cx.Q89,by simp⟩) λ_=>⟨λ_=>by omega,λ_=>⟨_,Cx.Q8c,by simp⟩⟩
theorem Z8y (hU:U.Ok) {h':Qr U} {t t2 ty:TypeId} {x y:A U} {ro:OpR U} {out:Out U} {p q:Value} (hro:Z69 P t t2 x y h'=some ro) (ho:ro.outs=some out)
  (hag:∀s,s∈out.rd\/s∈out.w.map (·.1)->get h s=get h' s) (hg:G U c Φ h w) (hx:RA U c x p) (hy:RA U c y q):
  ∃u w' c' Φ',(Builtin.append_ #[t,t2] ty #[p,q]).run P w= .ok u w'/\QB U c Φ h nx out w c' Φ' u w':=by
 unfold Z69 at hro
 split at hro
 ·rename_i e cx ht ht2
  split at hro
  ·rename_i F u i hrt hi
   split at hro
   ·rename_i v N g he
    split at hro
    ·rename_i r n ys rd h1 h2 h3
     cases hb:Nat.blt F U.nf && Z1u.elems? y && Nat.beq i.size (U.size v) && Nat.ble 1 i.size && Nat.ble 1 i.bytes && i.zero.any (λz=>Nat.beq z.cells.size i.size) && U.plain v with
     |false=>rw [hb] at hro;cases hro
     |true=>
      rw [hb] at hro
      cases hro
      obtain ⟨hchk,rfl⟩:=Zb ho
      simp only [Bool.and_eq_true] at hb
      obtain ⟨⟨⟨⟨⟨⟨b0,_⟩,b1⟩,b2⟩,b3⟩,b4⟩,b5⟩:=hb
      have hFnf:F < U.nf:=Nat.le_of_ble_eq_true b0
      have b1:=QH b1
      have b2:=Nat.le_of_ble_eq_true b2
      have b3:=Nat.le_of_ble_eq_true b3
      obtain ⟨iz,hiz⟩:∃v,i.zero=some v:=by
       cases hiz:i.zero with
       |none=>rw [hiz] at b4;cases b4
       |some v=>exact ⟨v,rfl⟩
      rw [hiz] at b4
      have b4:iz.cells.size=i.size:=QH b4
      have hroom:room (n+ys.length) i.bytes=true/\(Nat.beq n 0=true\/Nat.beq n (g r).length=true):=by
       cases hr:room (n+ys.length) i.bytes with
       |false=>rw [hr] at hchk;cases hchk
       |true=>
        rw [hr] at hchk
        simp only [cond_true] at hchk
        cases hz:Nat.beq n 0 with
        |true=>exact ⟨rfl,.inl rfl⟩
        |false=>rw [hz] at hchk;exact ⟨rfl,.inr hchk⟩
      obtain ⟨hr1,hr2⟩:=hroom
      obtain ⟨a,cap,rfl,q1,q2,q3⟩:=Z9P h2 (show R U c cx p from hx)
      have he':get h F=some (.Q1a v N g):=by rw [hag F (.inl (by simp))];exact he
      have hsrc:Z1t U c w P v ys q:=Z1G hU h3 (λs hs=>hag s (.inl (by simp [hs]))) hg hy
      have hsrcd:Z1t U c w.drew P v ys q:=Z1G hU h3 (λs hs=>hag s (.inl (by simp [hs]))) (hg.drew hU) hy
      have hd2:∃d2,P.underlying t2=some d2/\ZI d2=true:=by
       cases hu:P.underlying t2 with
       |none=>rw [hu] at ht2;cases ht2
       |some d2=>
        rw [hu] at ht2
        refine ⟨d2,rfl,?_⟩
        cases d2 <;> first|rfl|cases ht2
      obtain ⟨d2,hd2,hd2'⟩:=hd2
      have hcase:((bif Nat.beq n 0 then ([]:List (U.D v)) else g r).length=n)/\((n=0/\(bif Nat.beq n 0 then g else QA g r [])=g)\/(0 < n/\(bif Nat.beq n 0 then ([]:List (U.D v)) else g r)=g r/\(bif Nat.beq n 0 then g else QA g r [])=QA g r [])):=by
       cases hz:Nat.beq n 0 with
       |true=>have:=QH hz;subst this;exact ⟨rfl,.inl ⟨rfl,rfl⟩⟩
       |false=>
        have hne:0 < n:=by
         rcases Nat.eq_zero_or_pos n with q|q
         ·subst q;cases hz
         ·exact q
        rcases hr2 with q|q
        ·rw [q] at hz;cases hz
        ·exact ⟨(QH q).symm,.inr ⟨hne,rfl,rfl⟩⟩
      exact Z8P hU b5 hg hFnf he' hcase.1 hcase.2 q1 q2 q3 ht hd2 hd2' hi hiz b1 b4 b3 b2 (Nat.le_of_ble_eq_true hr1) hsrc hsrcd
    ·cases hro
   ·cases hro
  ·cases hro
 ·cases hro
theorem Z9R (hU:U.Ok) {h':Qr U} {t:TypeId} {lo co:Operand} {x y:A U} {p q:Value} {ev:Operand->Value} {ro:OpR U} {out:Out U} (hro:Q9i P t (Z19 lo co) x y h'=some ro) (ho:ro.outs=some out)
  (hag:∀s,s∈out.rd\/s∈out.w.map (·.1)->get h s=get h' s) (hg:G U c Φ h w) (hx:RA U c x p) (hy:RA U c y q) (hp:p=ev lo) (hq:q=ev co):
  ∃u w' c' Φ',(Instr.makeSlice t p q).run P w= .ok u w'/\QB U c Φ h nx out w c' Φ' u w':=by
 unfold Q9i at hro
 split at hro
 ·rename_i e k1 n k2 m hu
  split at hro
  ·rename_i F u0 i z hrt hi hz
   split at hro
   ·rename_i u M g he
    split at hro
    ·rename_i d heq hd
     cases hb:Z19 lo co && Nat.blt F U.nf && Nat.beq i.size (U.size u) && Nat.ble 1 i.size && i.zero.any (λv=>Nat.beq v.cells.size i.size) && U.plain u with
     |false=>rw [hb] at hro;cases hro
     |true=>
      rw [hb] at hro
      cases hro
      obtain ⟨hr,rfl⟩:=Zb ho
      simp only [Bool.and_eq_true] at hb
      obtain ⟨⟨⟨⟨⟨e0,eF⟩,e1⟩,e2⟩,e3⟩,e5⟩:=hb
      have hF:F < U.nf:=Nat.le_of_ble_eq_true eF
      have e1:=QH e1
      have e2:=Nat.le_of_ble_eq_true e2
      have hpq:p=q:=by
       rw [hp,hq]
       unfold Z19 at e0
       split at e0
       ·rw [QH e0]
       ·cases e0
      have hp':=R.int (show R U c _ p from hx)
      have hq':=R.int (show R U c _ q from hy)
      rw [hp',hq'] at hpq
      simp only [Value.int.injEq] at hpq
      obtain ⟨rfl,rfl⟩:=hpq
      subst hp';subst hq'
      have h0:0<=n/\n<=9223372036854775807/\room n.toNat i.bytes=true:=by
       cases h1:ile 0 n with
       |false=>rw [h1] at hr;cases hr
       |true=>
        rw [h1] at hr
        simp only [cond_true] at hr
        cases h2:ile n 9223372036854775807 with
        |false=>rw [h2] at hr;cases hr
        |true=>
         rw [h2] at hr
         exact ⟨by simpa [ile] using h1,by simpa [ile] using h2,hr⟩
      obtain ⟨h0,h63,hroom⟩:=h0
      have hroom:=Nat.le_of_ble_eq_true hroom
      obtain ⟨zv,hzr,hzl⟩:=ZZ (c:=c) hz
      obtain ⟨iz,hiz⟩:∃v,i.zero=some v:=by
       cases hiz:i.zero with
       |none=>rw [hiz] at e3;cases e3
       |some v=>exact ⟨v,rfl⟩
      have hzv:zv=iz:=by
       have:=Z18 (P:=P) hi hiz w
       rw [hzr w] at this
       cases this;rfl
      subst hzv
      rw [hiz] at e3
      have e3:zv.cells.size=i.size:=QH e3
      obtain ⟨N,rfl⟩:∃N:Nat,n=(N:Int):=⟨n.toNat,by omega⟩
      simp only [Int.toNat_natCast] at hroom ⊢
      have hb':(i.bytes:Int)*(N:Int)<=281474976710656:=by
       have h:((i.bytes*N:Nat):Int)<=281474976710656:=by rw [Nat.mul_comm] at hroom;omega
       rwa [Int.natCast_mul] at h
      have hrun:=run_make (P:=P) w t e i zv hu hi hiz k1 k1 N N (by omega) (Int.le_refl _) hb' h63
      simp only [Int.toNat_natCast] at hrun
      generalize hrr:madeCells zv.cells (N*i.size)=r at hrun
      have hrl:r.toList=(List.replicate N zv.cells.toList).flatten:=by
       rw [←hrr,←e3];exact Z3I _ _ (by omega)
      have hsz:r.size=N*i.size:=by rw [←hrr];exact size_madeCells _ _
      have hcell:∀(o:Nat),(w.alloc (.cells r e)).cell? (at_ w.heap.size o)=r[o]? :=λo=>World.cell?_alloc_new w r e o
      have hds:=hU.Q4M u z d hd c _ hzl
      have hzlen:zv.cells.toList.length=U.size u:=by rw [←e1,←e3];simp
      have he':get h F=some (.Q1a u M g):=by rw [hag F (.inl (by simp))];exact he
      obtain ⟨A,E,hO⟩:=Q1s.rows.1 (hg.Q1M F _ he')
      have hsome:(get h F).isSome:=by rw [he'];rfl
      have hle:c.Le (c.row F M w.heap.size 0 (N*U.size u)):=Cx.Q7w hO.N
      have hlt:∀r',r' < M->0 < (g r').length->(A r').1 < w.heap.size:=λr' hr' hp=>by
       have:=hO.len r' hr' hp
       have hs:0 < (g r').length*U.size u:=Nat.mul_pos hp (by omega)
       obtain ⟨⟨v,hv⟩,_⟩:=hO.mem r' (A r').2 hr' hp (Nat.le_refl _) (by omega)
       exact Zf hv
      obtain ⟨F',hE,hsub⟩:=hO.add hU (w':=w.alloc (.cells r e)) (g0:=g) (b:=w.heap.size) (o:=0) (e:=N*U.size u) (L:=List.replicate N d) e5 hle (λ_ _=>.inl rfl)
       (λr' x hr' hp q1 q2=>⟨ZN w (.cells r e) (hlt r' hr' hp),Z2b w (.cells r e) (hlt r' hr' hp)⟩)
       (λj k x hj hx=>by
        have hk:k < U.size u:=by rw [←hU.QD u];exact (List.getElem?_eq_some_iff.1 hx).1
        rw [List.length_replicate] at hj
        have hrep:(List.replicate N d).getD j (U.dft u)=d:=by simp [List.getD,hj]
        rw [hrep] at hx
        obtain ⟨v,hv,hr⟩:=hds.at_ k _ hx
        refine ⟨v,?_,hr.mono hle⟩
        rw [hcell,Nat.zero_add,←Array.getElem?_toList,hrl,←hzlen,Z6p _ _ _ _ hj (by rw [hzlen];exact hk)]
        exact hv)
       (λ_=>by simp)
       (λx _ q1 q2=>⟨⟨r[x]'(by rw [hsz,e1];exact q2),by rw [hcell];simp [hsz,e1,q2]⟩,World.frozen?_alloc_at (w:=w) r e w.heap.size x rfl⟩)
       (λr' b' o' hr' ⟨p1,p2,p3,p4⟩ _ q1 _ _=>by
        have:=hlt r' hr' p1
        omega)
      refine ⟨_,_,_,_,hrun,QB.rows hU hg hF hsome hle (λt i ht=>Cx.Q84 ht) rfl (Fr.alloc _ w _) hE (λb' o' hf=>?_) ?_⟩
      ·rcases hsub _ _ hf with h|⟨q1,q2,q3,_⟩
       ·exact .inr h
       ·exact .inl (by omega)
      ·exact R.rsl (b:=w.heap.size) (o:=0) (Nat.le_refl _) (λ_=>⟨hF,Cx.Q89,by simp⟩) λ_=>⟨λh=>h,λ_=>⟨_,Cx.Q8c,by simp⟩⟩
    ·cases hro
   ·cases hro
  ·cases hro
 ·cases hro
theorem Z8m {α:Type} {l ys:List α} {b:Nat} (h:b+ys.length<=l.length):(Z1i l b ys).length=l.length:=by
 simp only [Z1i,List.length_append,List.length_take,List.length_drop];omega
theorem Z8D {α:Type} {l ys:List α} {b i:Nat} {d:α} (h:b+ys.length<=l.length):(Z1i l b ys).getD i d=if b<=i/\i < b+ys.length then ys.getD (i - b) d else l.getD i d:=by
 simp only [Z1i,List.getD]
 have ht:(l.take b).length=b:=by rw [List.length_take];omega
 by_cases h1:i < b
 ·rw [List.getElem?_append_left (by omega),List.getElem?_take,if_pos h1,if_neg (by omega)]
 ·rw [List.getElem?_append_right (by omega),ht]
  by_cases h2:i < b+ys.length
  ·rw [List.getElem?_append_left (by omega),if_pos (by omega)]
  ·rw [List.getElem?_append_right (by omega),if_neg (by omega),List.getElem?_drop,show b+ys.length+(i - b - ys.length)=i by omega]
theorem Z9G (hU:U.Ok) {h':Qr U} {t t2 ty:TypeId} {x y:A U} {ro:OpR U} {out:Out U} {p q:Value} (hro:Q9w P t x y h'=some ro) (ho:ro.outs=some out)
  (hag:∀s,s∈out.rd\/s∈out.w.map (·.1)->get h s=get h' s) (hg:G U c Φ h w) (hx:RA U c x p) (hy:RA U c y q):
  ∃u w' c' Φ',(Builtin.copy_ #[t,t2] ty #[p,q]).run P w= .ok u w'/\QB U c Φ h nx out w c' Φ' u w':=by
 unfold Q9w at hro
 split at hro
 ·rename_i e own F m r bb n own' F' m' r' bb' n' hu
  split at hro
  ·rename_i sz v N g hsz he
   cases hb:Nat.beq F F' && Nat.beq m m' && Nat.beq sz m && Nat.beq m (U.size v) && Nat.ble 1 m && U.plain v with
   |false=>rw [hb] at hro;cases hro
   |true=>
    rw [hb] at hro
    cases hro
    obtain ⟨hchk,rfl⟩:=Zb ho
    simp only [Bool.and_eq_true] at hb hchk
    obtain ⟨⟨⟨⟨⟨b1,b2⟩,b3⟩,b4⟩,b5⟩,b6⟩:=hb
    have b1:=QH b1
    have b2:=QH b2
    have b3:=QH b3
    subst b1;subst b2;subst b3
    have b4:=QH b4
    subst b4
    have b5:=Nat.le_of_ble_eq_true b5
    have hyl:=QH hchk.1
    have hbl:=Nat.le_of_ble_eq_true hchk.2
    generalize hys:((g r').drop bb').take (Nat.min n' n)=ys at*
    generalize hM:Nat.min n' n=M at*
    have hMn:M<=n:=by rw [←hM];exact Nat.min_le_right _ _
    have hMn':M<=n':=by rw [←hM];exact Nat.min_le_left _ _
    have he':get h F=some (.Q1a v N g):=by rw [hag F (.inl (by simp))];exact he
    obtain ⟨A,E,hO⟩:=Q1s.rows.1 (hg.Q1M F _ he')
    cases (show R U c _ p from hx) with
    | @rsl _ _ _ _ _ _ cap b o a hc ha hw=>
    cases (show R U c _ q from hy) with
    | @rsl _ _ _ _ _ _ cap' b' o' a' hc' ha' hw'=>
    have hsrc:Z1t U c w P v ys (.slice a' ys.length cap'):=by
     refine Z1f (b:=b') (o:=o'+bb'*U.size v) (λhp=>(ha' (by omega)).2.2) λi k hi hk=>?_
     obtain ⟨hF,hL,_⟩:=ha' (by omega)
     obtain ⟨hrN,hA⟩:=hO.atL hL
     have hkl:k < (U.enc v (ys.getD i (U.dft v))).length:=by rw [hU.QD];exact hk
     have hyi:ys.getD i (U.dft v)=(g r').getD (bb'+i) (U.dft v):=by
      rw [←hys]
      simp only [List.getD,List.getElem?_take,List.getElem?_drop]
      rw [if_pos (by omega)]
     have hgl:bb'+i < (g r').length:=by
      have:ys.length<=(g r').length - bb':=by rw [←hys,List.length_take,List.length_drop];exact Nat.min_le_right _ _
      omega
     obtain ⟨u,p1,p2⟩:=hO.con r' (bb'+i) k _ hrN hgl (by rw [←hyi];exact List.getElem?_eq_getElem hkl)
     rw [hA] at p1
     refine ⟨u,?_,by rw [getD_of_getElem? (List.getElem?_eq_getElem hkl)];exact p2⟩
     have hsp:(bb'+i)*U.size v=bb'*U.size v+i*U.size v:=Nat.add_mul _ _ _
     simp only at p1
     rw [show o'+bb'*U.size v+(i*U.size v+k)=o'+((bb'+i)*U.size v+k) by omega]
     exact p1
    obtain ⟨_,vs,hvl,hfc,hone,hrows⟩:=hsrc
    rw [hyl] at hfc
    have hfc':(Builtin.firstCells (U.size v) M (.slice a' n' cap')).run P w= .ok vs.toArray w:=by
     cases a' <;> exact hfc
    rcases Nat.eq_zero_or_pos M with hz|hpos
    ·have hys0:ys= []:=List.eq_nil_of_length_eq_zero (by omega)
     have hvs:vs= []:=List.eq_nil_of_length_eq_zero (by rw [hvl,hyl,hz];simp)
     subst hvs
     have hrun:(Builtin.copy_ #[t,t2] ty #[.slice a n cap,.slice a' n' cap']).run P w= .ok (goInt M) w:=by
      unfold Builtin.copy_
      cases a with
      |none=>simp [run_underlying hu,Builtin.lenOf,Za hsz,hM,hfc']
      |some ad=>simp [run_underlying hu,Builtin.lenOf,Za hsz,hM,hfc',storeCells]
     have hsame:QA g r (Z1i (g r) bb ys)=g:=by
      rw [hys0]
      funext r1
      by_cases e1:r1=r
      ·subst e1;simp [QA,Z1i]
      ·simp [QA,e1]
     have hsome:(get h F).isSome:=by rw [he'];rfl
     rw [hsame]
     have hlt:∀t b o,(get h t).isSome->Φ t b o->b < w.heap.size:=λt b o ht hf=>hg.lt hU ht hf
     refine ⟨_,w,c,fup Φ F (Φ F),hrun,{ le:= .refl c,L:=λ_ _ _ _=>rfl,val:=R.val rfl,g:= ?_,fr:= .refl _ _,Q2p:=λt ht=>?_,Q2g:=λt b' o' ht hf=>?_,names:=λt ht=>?_,Q32:=λ_ _ _ h=>.inl h}⟩
     ·exact hg.put hU (.refl c) (λ_ _ _=>rfl) (hg.Q1M F _ he') (λt hts h1=>.refl _ _) (λt b' o' hts h1 hf hF=>hg.apart t F b' o' hts h1 hsome hf hF) hg.imm (λt b' o' _ h1 hf=>hg.Q15 t b' o' h1 hf) (λb' o' hf=>hg.Q15 F b' o' hsome hf)
     ·simp at ht;simp [fup,ht]
     ·simp at ht;subst ht
      simp [fup] at hf
      exact .inr ⟨t,by simp,hsome,hf⟩
     ·simp at ht;subst ht;exact .inr hsome
    ·obtain ⟨hF,hL,rfl⟩:=ha (by omega)
     obtain ⟨hrN,hA⟩:=hO.atL hL
     have hvl':vs.length=M*U.size v:=by rw [hvl,hyl]
     have hbm:(bb+M)*U.size v<=(g r).length*U.size v:=Nat.mul_le_mul_right _ hbl
     have hbs:(bb+M)*U.size v=bb*U.size v+M*U.size v:=Nat.add_mul _ _ _
     obtain ⟨g1,g2,g3⟩:=hO.set hU (r:=r) (off:=bb*U.size v) (vs:=vs) (L:=Z1i (g r) bb ys) hrN (by omega) (Z8m (by omega)) (λi k z hi hz=>by
      have hk:k < U.size v:=by rw [←hU.QD v];exact (List.getElem?_eq_some_iff.1 hz).1
      rw [Z8D (by omega)] at hz
      by_cases hin:bb<=i/\i < bb+M
      ·rw [hyl,if_pos hin] at hz
       have hsp:i*U.size v=bb*U.size v+(i - bb)*U.size v:=by rw [←Nat.add_mul];congr 1;omega
       have hlt:=Z7l (n:=M) (m:=0) (show i - bb < M by omega) hk
       rw [if_pos (by omega)]
       obtain ⟨u,p1,p2⟩:=hrows (i - bb) k (by omega) hk
       rw [getD_of_getElem? hz] at p2
       exact ⟨u,by rw [show i*U.size v+k - bb*U.size v=(i - bb)*U.size v+k by omega];exact p1,p2⟩
      ·rw [hyl,if_neg hin] at hz
       rw [if_neg]
       ·exact ⟨z,hz,λ_ h=>h⟩
       ·intro hin2
        by_cases h3:i < bb
        ·have:=Z7l (n:=bb) (m:=0) h3 hk;omega
        ·have:(bb+M)*U.size v<=i*U.size v:=Nat.mul_le_mul_right _ (by omega)
         omega)
     rw [hA] at g1 g2 g3
     simp only at g1 g2 g3
     have hrun:(Builtin.copy_ #[t,t2] ty #[.slice (some (at_ b (o+bb*U.size v))) n cap,.slice a' n' cap']).run P w= .ok (goInt M) (w.setCells b (o+bb*U.size v) vs):=by
      unfold Builtin.copy_
      have hst:=run_storeCells_cells (P:=P) b (o+bb*U.size v) vs 0 w (λj hj=>by simpa using (g1 j hj).1) (λj hj=>by simpa using (g1 j hj).2) hone
      simp only [Nat.add_zero] at hst
      simp [run_underlying hu,Builtin.lenOf,Za hsz,hM,hfc',hst]
     have hsome:(get h F).isSome:=by rw [he'];rfl
     exact ⟨_,_,c,fup Φ F (Φ F),hrun,QB.rows hU hg hF hsome (.refl c) (λ_ _ _=>rfl) rfl (Fr.setCells λj hj=>g3 j hj) (Q1s.rows.2 ⟨A,E,g2⟩) (λ_ _ h=>.inr h) (R.val rfl)⟩
  ·cases hro
 ·cases hro
end Go.Rf
namespace Go.Rf
set_option linter.unusedVariables false
set_option linter.unusedSimpArgs false
variable {U : QV} {P : Program} {c : Cx} {Φ : Nat -> Nat -> Nat -> Prop} {h : Qr U} {nx : Nat} {w : World}
theorem Z3E {ρ:Operand->Option (A U)} {a:Act} {x:Option Operand} (h:∀y∈x.toArray.toList,∀v,ρ y=some v->RA U c v (a.eval y)):Z1g U c (x.map ρ) (x.map a.eval):=by
 cases x with
 |none=>trivial
 |some y=>exact λb hb=>h y (by simp) b hb
theorem Z9A (hU:U.Ok) {Γ:Nat->Option (Native U)} (hΓ:ZM U P Γ) {h':Qr U} {o:Oper} {a:Act} {ρ:Operand->Option (A U)} {out:Out U}
  (ho:(Q9p P Γ nx ρ h' o).outs=some out) (hag:∀s,s∈out.rd\/s∈out.w.map (·.1)->get h s=get h' s) (hg:G U c Φ h w)
  (hf:Q5R c h nx out.nw) (hρ:∀x∈o.op.operands.toList,∀v,ρ x=some v->RA U c v (a.eval x)):
  Q2B P (Q5N U c Φ h nx out w) ((execOp a.eval o).run P w):=by
 have wr:∀{s:Sem Value} {Q:Value->World->Prop},(∃u w' c' Φ',s.run P w= .ok u w'/\QB U c Φ h nx out w c' Φ' u w')->Q2B P (Q5N U c Φ h nx out w) ((do pure (Next.value (←s)):Sem Next).run P w):=by
  intro s _ ⟨u,w',c',Φ',h1,h2⟩
  exact Q2B.value h1 ⟨c',Φ',h2⟩
 have mv:∀{x:Operand},(Q87 (ρ x)).outs=some out->(∀v,ρ x=some v->RA U c v (a.eval x))->Q2B P (Q5N U c Φ h nx out w) ((pure (Next.value (a.eval x)):Sem Next).run P w):=by
  intro x h1 h2
  obtain ⟨v,h3,rfl⟩:=Z9E h1
  exact ⟨c,Φ,QB.pure hg (h2 v h3)⟩
 obtain ⟨dst,op,type,pos,after,guard⟩:=o
 cases op <;> simp only [Q9p] at ho <;> simp only [Op.operands] at hρ <;> try (exact (Z1 ho).elim)
 case move x=>exact mv ho λv hv=>hρ x (by simp) v hv
 case assign x=>exact mv ho λv hv=>hρ x (by simp) v hv
 case pick x y z=>
  obtain ⟨v',rd,w',nw⟩:=out
  obtain ⟨t,h1,h2,h3,h4⟩:=Qav ho (λv hv=>hρ x (by simp) v hv) (λv hv=>hρ y (by simp) v hv) (λv hv=>hρ z (by simp) v hv)
  simp only at h2 h3 h4
  subst h3;subst h4
  simp only [execOp,h1]
  show Q2B P _ (.ok (.value (if t then a.eval y else a.eval z)) w)
  exact ⟨c,Φ,QB.pure hg h2⟩
 case alloc t=>
  split at ho
  ·rename_i r hr
   exact wr (Q:=λ_ _=>True) (Z7W hU hr ho hg hf)
  ·exact wr (Q:=λ_ _=>True) (Z9U hU ho hag hg hf)
 case box t x=>
  split at ho
  ·rename_i v hv
   exact wr (Q:=λ_ _=>True) (Qb8 hU ho hag (hρ x (by simp) v hv) hg hf)
  ·exact (Z1 ho).elim
 case build t ps=>exact (Z9p (ev:=a.eval) ho λp hp v hv=>hρ p.2 (by simp;exact ⟨p.1,Array.mem_toList_iff.1 hp⟩) v hv).Q4R hg
 case buildSlice t n ps=>exact wr (Q:=λ_ _=>True) (Z66 (ev:=a.eval) hU ho hag hg λp hp v hv=>hρ p.2 (by simp;exact ⟨p.1,Array.mem_toList_iff.1 hp⟩) v hv)
 case load t x=>
  split at ho
  ·rename_i v hv
   have hra:=hρ x (by simp) v hv
   unfold Z8d at ho
   split at ho
   ·rename_i o hol
    have:=Zx ho
    subst this
    split at hol
    ·rename_i hagg
     cases hlk:(Γ Z80).isSome with
     |true=>
      rw [hlk] at hol
      obtain ⟨u,h1,h2⟩:=Z8G (P:=P) (nx:=nx) hU hol hagg hag hg hra
      exact Q2B.value h1 ⟨c,Φ,h2⟩
     |false=>
      rw [hlk] at hol
      obtain ⟨u,c',Φ',h1,h2⟩:=Z92 (P:=P) hU hol hagg hag hg hf hra
      exact Q2B.value h1 ⟨c',Φ',h2⟩
    ·cases hol
   obtain ⟨u,w',h1,c',Φ',h2⟩:=Z3X (nx:=nx) (post:=λu w'=>(Instr.loadAt t (a.eval x)).run P w= .ok u w') hU ho hag hg λh1 h1' Φ1 o h2 h3 h4=>by
    obtain ⟨v',rd,w1,nw⟩:=o
    obtain ⟨u,p1,p2,p3,p4⟩:=Qaf hU h2 h3 h4 hra
    simp only at p2 p3 p4
    subst p3;subst p4
    exact ⟨u,w,p1,c,Φ1,QB.pure h4 p2⟩
   exact Q2B.value h1 ⟨c',Φ',h2⟩
  ·exact (Z1 ho).elim
 case store t x y=>
  split at ho
  ·rename_i u v hu hv
   have hra:=hρ x (by simp) u hu
   have hrb:=hρ y (by simp) v hv
   split at ho
   ·rename_i r hr
    obtain ⟨w',c',Φ',h1,h2⟩:=Z7O (nx:=nx) hU hr ho hag hg hra hrb
    exact Q2B.unit h1 ⟨c',Φ',h2⟩
   obtain ⟨u',w',⟨h1,rfl⟩,c',Φ',h2⟩:=Z3X (nx:=nx) (post:=λu' w'=>(Instr.storeAt t (a.eval x) (a.eval y)).run P w= .ok () w'/\u'=undef) hU ho hag hg λh1 h1' Φ1 o h2 h3 h4=>by
    obtain ⟨w',c',Φ',p1,p2⟩:=Z7A (nx:=nx) hU h2 h3 h4 hra hrb
    exact ⟨undef,w',⟨p1,rfl⟩,c',Φ',p2⟩
   exact Q2B.unit h1 ⟨c',Φ',h2⟩
  ·exact (Z1 ho).elim
 case nilCheck x=>
  split at ho
  ·rename_i v hv
   obtain ⟨v',rd,w',nw⟩:=out
   obtain ⟨h1,h2,h3,q,h4⟩:=Qb1 ho (hρ x (by simp) v hv)
   simp only at h1 h2 h3
   subst h1;subst h2
   simp only [execOp,h4]
   rw [h4] at h3
   exact ⟨c,Φ,QB.pure hg h3⟩
  ·exact (Z1 ho).elim
 case binOp op t x y yt=>
  split at ho
  ·rename_i u v hu hv;exact (Qb6 ho (hρ x (by simp) u hu) (hρ y (by simp) v hv)).Q4R hg
  ·exact (Z1 ho).elim
 case unOp op t x=>
  split at ho
  ·rename_i v hv;exact (un_ok ho (hρ x (by simp) v hv)).Q4R hg
  ·exact (Z1 ho).elim
 case convert s d x=>
  split at ho
  ·rename_i v hv;exact wr (Q:=λ_ _=>True) (Z7T hU ho hag hg (hρ x (by simp) v hv) (λh0=>hf nx (Nat.le_refl _) (by omega)))
  ·exact (Z1 ho).elim
 case slice t x lo hi mx=>
  split at ho
  ·rename_i v hv
   have q1:=Z3E (U:=U) (c:=c) (ρ:=ρ) (a:=a) (x:=lo) λy hy v hv=>hρ y (by simp at hy ⊢;simp [hy]) v hv
   have q2:=Z3E (U:=U) (c:=c) (ρ:=ρ) (a:=a) (x:=hi) λy hy v hv=>hρ y (by simp at hy ⊢;simp [hy]) v hv
   have q3:=Z3E (U:=U) (c:=c) (ρ:=ρ) (a:=a) (x:=mx) λy hy v hv=>hρ y (by simp at hy ⊢;simp [hy]) v hv
   split at ho
   ·rename_i r hr
    exact wr (Q:=λ_ _=>True) (Z7N hU hr ho hag hg (hρ x (by simp) v hv) q1 q2 q3)
   split at ho
   ·rename_i r hr
    exact (Z8Y hr ho hag hg (hρ x (by simp) v hv) q1 q2 q3).Q4R hg
   have hslice:∀(out:Out U),(Z5u P (Γ (Z4D t)).isSome t v (lo.map ρ) (hi.map ρ) (mx.map ρ) h' nx).outs=some out->(∀s,s∈out.rd\/s∈out.w.map (·.1)->get h s=get h' s)->Q5R c h nx out.nw->
     ∃u w' c' Φ',(Instr.sliceAt t (a.eval x) (lo.map a.eval) (hi.map a.eval) (mx.map a.eval)).run P w= .ok u w'/\QB U c Φ h nx out w c' Φ' u w':=λout ho hag hf=>by
    have quiet:(Z2J P t v (lo.map ρ) (hi.map ρ) (mx.map ρ) h').outs=some out->∃u w' c' Φ',(Instr.sliceAt t (a.eval x) (lo.map a.eval) (hi.map a.eval) (mx.map a.eval)).run P w= .ok u w'/\QB U c Φ h nx out w c' Φ' u w':=λho=>by
     obtain ⟨u,p1,p2,p3,p4⟩:=Z9v hU ho hag hg (hρ x (by simp) v hv) q1 q2 q3
     obtain ⟨v',rd,w',nw⟩:=out
     simp only at p2 p3 p4
     subst p3;subst p4
     exact ⟨u,w,c,Φ,p1,QB.pure hg p2⟩
    unfold Z5u at ho
    cases ha0:Z3O h' v with
    |true=>rw [ha0] at ho;exact quiet ho
    |false=>
     rw [ha0] at ho
     simp only [cond_false] at ho
     cases hop:(Γ (Z4D t)).isSome with
     |false=>rw [hop] at ho;exact quiet ho
     |true=>
      rw [hop] at ho
      simp only [cond_true] at ho
      split at ho
      ·rename_i r hr
       exact Z78 hU hr ho hag hg hf (hρ x (by simp) v hv) q1 q2 q3
      ·exact quiet ho
   rcases Z6i ho with ho2|⟨o,ho2,hoo⟩
   ·exact wr (Q:=λ_ _=>True) (hslice out ho2 hag hf)
   ·obtain ⟨uu,xs,rd,rfl,rfl⟩:=Z9b hoo
    obtain ⟨u,w',c',Φ',h1,h2⟩:=hslice _ ho2 (λs hs=>hag s (.inl (by simpa using hs))) (λs h1 h2=>by simp at h2;omega)
    obtain ⟨hn,hs0⟩:=hf nx (Nat.le_refl _) (by simp)
    obtain ⟨c2,Φ2,h3⟩:=Z8O (nx:=nx) (rd:=rd) hU h2.g (λi=>by rw [h2.L nx i (by simp) (by simp)];exact hs0 i) (by simpa using hn) h2.val
    have h4:=h2.comp (rd:=rd) h3
    exact wr (Q:=λ_ _=>True) ⟨u,w',c2,Φ2,h1,h4⟩
  ·exact (Z1 ho).elim
 case fieldAddr t x f=>
  split at ho
  ·rename_i v hv;exact (Z6S ho (hρ x (by simp) v hv)).Q4R hg
  ·exact (Z1 ho).elim
 case field t x f=>
  split at ho
  ·rename_i v hv;exact (Z9g ho (hρ x (by simp) v hv)).Q4R hg
  ·exact (Z1 ho).elim
 case indexAddr t x i=>
  split at ho
  ·rename_i u v hu hv
   split at ho
   ·rename_i r hr
    exact (Z8o hr ho hag hg (hρ x (by simp) u hu) (hρ i (by simp) v hv)).Q4R hg
   unfold Z4E at ho
   cases ha0:Z3O h' u with
   |true=>
    rw [ha0] at ho
    exact (Z2R hU ho hag hg (hρ x (by simp) u hu) (hρ i (by simp) v hv)).Q4R hg
   |false=>
   rw [ha0] at ho
   simp only [cond_false] at ho
   cases hop:(Γ (Z4D t)).isSome with
   |false=>
    rw [hop] at ho
    exact (Z2R hU ho hag hg (hρ x (by simp) u hu) (hρ i (by simp) v hv)).Q4R hg
   |true=>
    rw [hop] at ho
    simp only [cond_true] at ho
    split at ho
    ·rename_i r hr
     exact wr (Q:=λ_ _=>True) (Z7V hU hr ho hag hg hf (hρ x (by simp) u hu) (hρ i (by simp) v hv))
    ·exact (Z2R hU ho hag hg (hρ x (by simp) u hu) (hρ i (by simp) v hv)).Q4R hg
  ·exact (Z1 ho).elim
 case index t x i=>
  split at ho
  ·rename_i u v hu hv;exact (Z9x ho (hρ x (by simp) u hu) (hρ i (by simp) v hv)).Q4R hg
  ·exact (Z1 ho).elim
 case makeSlice t x y=>
  split at ho
  ·rename_i u v hu hv
   exact wr (Q:=λ_ _=>True) (Z9N (ev:=a.eval) hU ho hg (hρ x (by simp) u hu) (hρ y (by simp) v hv) rfl rfl (λh0=>hf nx (Nat.le_refl _) (by omega)))
  ·exact (Z1 ho).elim
 case range t x=>
  split at ho
  ·rename_i v hv
   obtain ⟨hn,hs⟩:=hf nx (Nat.le_refl _) (by rw [Z9L ho];omega)
   exact wr (Q:=λ_ _=>True) (Z9f hU ho (hρ x (by simp) v hv) hg hs hn)
  ·exact (Z1 ho).elim
 case next x str=>
  split at ho
  ·rename_i v hv
   exact wr (Q:=λ_ _=>True) (QaB hU ho hag (hρ x (by simp) v hv) hg)
  ·exact (Z1 ho).elim
 case makeMap t r=>
  cases r with
  |some y=>exact (Z1 ho).elim
  |none=>exact wr (Q:=λ_ _=>True) (Z8z hU ho hag hg)
 case lookup t x i k=>
  split at ho
  ·rename_i u v hu hv
   obtain ⟨v',rd,w1,nw⟩:=out
   obtain ⟨u',p1,p2,p3,p4⟩:=Z8U hU ho hag hg (hρ x (by simp) u hu) (hρ i (by simp) v hv)
   simp only at p2 p3 p4
   subst p3;subst p4
   exact wr (Q:=λ_ _=>True) ⟨u',w,c,Φ,p1,QB.pure hg p2⟩
  ·exact (Z1 ho).elim
 case mapUpdate t m k v=>
  split at ho
  ·rename_i u v v' hu hv hv'
   obtain ⟨w',c',Φ',p1,p2⟩:=Z6W (nx:=nx) hU ho hag hg (hρ m (by simp) u hu) (hρ k (by simp) v hv) (hρ _ (by simp) v' hv')
   exact Q2B.unit p1 ⟨c',Φ',p2⟩
  ·exact (Z1 ho).elim
 case extract x i=>
  split at ho
  ·rename_i v hv;exact (Z8x ho (hρ x (by simp) v hv)).Q4R hg
  ·exact (Z1 ho).elim
 case makeFunc fn first captured=>exact (Z7J ho λx hx v hv=>hρ x (by simp [Op.operands];simp [Array.mem_toList_iff.1 hx]) v hv).Q4R hg
 case call cl=>exact QaG hU hΓ ho hag hg hf (λx hx v hv=>hρ x (by simp [Call.operands];simp [Array.mem_toList_iff.1 hx]) v hv) λx hx v hv=>hρ x (by simp [Call.operands,hx]) v hv
theorem Z9J (hU:U.Ok) {h':Qr U} {o:Oper} {a:Act} {ρ:Operand->Option (A U)} {r:OpR U} {out:Out U}
  (hr:Q9b P ρ h' o=some r) (ho:r.outs=some out) (hag:∀s,s∈out.rd\/s∈out.w.map (·.1)->get h s=get h' s) (hg:G U c Φ h w)
  (hρ:∀x∈o.op.operands.toList,∀v,ρ x=some v->RA U c v (a.eval x)):
  Q2B P (Q5N U c Φ h nx out w) ((execOp a.eval o).run P w):=by
 have wr:∀{s:Sem Value} {Q:Value->World->Prop},(∃u w' c' Φ',s.run P w= .ok u w'/\QB U c Φ h nx out w c' Φ' u w')->Q2B P (Q5N U c Φ h nx out w) ((do pure (Next.value (←s)):Sem Next).run P w):=by
  intro s _ ⟨u,w',c',Φ',h1,h2⟩
  exact Q2B.value h1 ⟨c',Φ',h2⟩
 obtain ⟨dst,op,type,pos,after,guard⟩:=o
 cases op <;> simp only [Q9b] at hr <;> simp only [Op.operands] at hρ <;> try (cases hr;done)
 case load t x=>
  split at hr
  ·rename_i v hv
   exact wr (Q:=λ_ _=>True) (Z9F hU hr ho hag hg (hρ x (by simp) v hv))
  ·cases hr
 case store t x y=>
  split at hr
  ·rename_i u v hu hv
   obtain ⟨w',c',Φ',h1,h2⟩:=Z8Z (nx:=nx) hU hr ho hag hg (hρ x (by simp) u hu) (hρ y (by simp) v hv)
   exact Q2B.unit h1 ⟨c',Φ',h2⟩
  ·cases hr
 case nilCheck x=>
  split at hr
  ·rename_i v hv
   obtain ⟨v',rd,w',nw⟩:=out
   obtain ⟨h1,h2,h3,q,h4⟩:=Qaw hr ho (hρ x (by simp) v hv)
   simp only at h1 h2 h3
   subst h1;subst h2
   simp only [execOp,h4]
   rw [h4] at h3
   exact ⟨c,Φ,QB.pure hg h3⟩
  ·cases hr
 case fieldAddr t x f=>
  split at hr
  ·rename_i v hv;exact (Z90 hr ho (hρ x (by simp) v hv)).Q4R hg
  ·cases hr
 case indexAddr t x i=>
  split at hr
  ·rename_i u v hu hv;exact (Z9O hr ho (hρ x (by simp) u hu) (hρ i (by simp) v hv)).Q4R hg
  ·cases hr
 case slice t x lo hi mx=>
  split at hr
  ·rename_i v hv
   have q1:=Z3E (U:=U) (c:=c) (ρ:=ρ) (a:=a) (x:=lo) λy hy v hv=>hρ y (by simp at hy ⊢;simp [hy]) v hv
   have q2:=Z3E (U:=U) (c:=c) (ρ:=ρ) (a:=a) (x:=hi) λy hy v hv=>hρ y (by simp at hy ⊢;simp [hy]) v hv
   have q3:=Z3E (U:=U) (c:=c) (ρ:=ρ) (a:=a) (x:=mx) λy hy v hv=>hρ y (by simp at hy ⊢;simp [hy]) v hv
   exact (Z8V hr ho (hρ x (by simp) v hv) q1 q2 q3).Q4R hg
  ·cases hr
 case makeSlice t x y=>
  split at hr
  ·rename_i u v hu hv
   exact wr (Q:=λ_ _=>True) (Z9R (ev:=a.eval) hU hr ho hag hg (hρ x (by simp) u hu) (hρ y (by simp) v hv) rfl rfl)
  ·cases hr
 case call cl=>
  have hρ':∀x∈cl.args.toList,∀v,ρ x=some v->RA U c v (a.eval x):=λx hx v hv=>hρ x (by simp [Call.operands];simp [Array.mem_toList_iff.1 hx]) v hv
  have two:∀x y,cl.args.toList.map ρ= [some x,some y]->∃x' y',cl.args= #[x',y']/\ρ x'=some x/\ρ y'=some y:=λx y hx=>by
   cases hl:cl.args.toList with
   |nil=>rw [hl] at hx;cases hx
   |cons x' ys=>
    rw [hl] at hx
    cases ys with
    |nil=>simp at hx
    |cons y' zs=>
     simp at hx
     obtain ⟨h1,h2,h3⟩:=hx
     subst h3
     exact ⟨x',y',by rw [←Array.toArray_toList (xs:=cl.args),hl],h1,h2⟩
  split at hr
  ·rename_i x y t t2 hc hx ht
   obtain ⟨x',y',hl,h1,h2⟩:=two _ _ hx
   have htt:cl.argTypes= #[t,t2]:=by rw [←Array.toArray_toList (xs:=cl.argTypes),ht]
   obtain ⟨v,w',c',Φ',hrun,hS⟩:=Z8y (ty:=type) (nx:=nx) hU hr ho hag hg (hρ' x' (by rw [hl];simp) _ h1) (hρ' y' (by rw [hl];simp) _ h2)
   simp only [execOp]
   rw [Zr hc,show cl.args.map a.eval= #[a.eval x',a.eval y'] by rw [hl];simp,htt]
   exact Q2B.value hrun ⟨c',Φ',hS⟩
  ·rename_i x y t t2 hc hx ht
   obtain ⟨x',y',hl,h1,h2⟩:=two _ _ hx
   have htt:cl.argTypes= #[t,t2]:=by rw [←Array.toArray_toList (xs:=cl.argTypes),ht]
   obtain ⟨v,w',c',Φ',hrun,hS⟩:=Z9G (t2:=t2) (ty:=type) (nx:=nx) hU hr ho hag hg (hρ' x' (by rw [hl];simp) _ h1) (hρ' y' (by rw [hl];simp) _ h2)
   simp only [execOp]
   rw [Zr hc,show cl.args.map a.eval= #[a.eval x',a.eval y'] by rw [hl];simp,htt]
   exact Q2B.value hrun ⟨c',Φ',hS⟩
  ·rename_i x t hc hx ht
   have hl:∃y,cl.args= #[y]/\ρ y=some x:=by
    cases hl:cl.args.toList with
    |nil=>rw [hl] at hx;cases hx
    |cons y ys=>
     rw [hl] at hx
     simp at hx
     obtain ⟨h1,h2⟩:=hx
     subst h2
     exact ⟨y,by rw [←Array.toArray_toList (xs:=cl.args),hl],h1⟩
   obtain ⟨y,hy,hy2⟩:=hl
   have hq:=Qak (P:=P) (w:=w) (c:=c) (ty:=type) (ts:=cl.argTypes) hr ho (hρ' y (by rw [hy];simp) _ hy2) (by rw [←Array.getElem?_toList,ht];rfl)
   have:=hq.Q4R (nx:=nx) hg
   simp only [execOp]
   rw [Zr hc,show cl.args.map a.eval= #[a.eval y] by rw [hy];simp]
   exact this
  ·cases hr
theorem Z8f (hU:U.Ok) {Γ:Nat->Option (Native U)} (hΓ:ZM U P Γ) {h':Qr U} {o:Oper} {a:Act} {ρ:Operand->Option (A U)} {out:Out U}
  (ho:(step P Γ nx ρ h' o).outs=some out) (hag:∀s,s∈out.rd\/s∈out.w.map (·.1)->get h s=get h' s) (hg:G U c Φ h w)
  (hf:Q5R c h nx out.nw) (hρ:∀x∈o.op.operands.toList,∀v,ρ x=some v->RA U c v (a.eval x)):
  Q2B P (Q5N U c Φ h nx out w) ((execOp a.eval o).run P w):=by
 unfold step at ho
 split at ho
 ·rename_i r hr
  exact Z9J hU hr ho hag hg hρ
 ·exact Z9A hU hΓ ho hag hg hf hρ
end Go.Rf
namespace Go.Rf
set_option linter.unusedVariables false
set_option linter.unusedSimpArgs false
variable {U : QV} {P : Program} {Γ : Nat -> Option (Native U)} {ro : Nat} {dr : Bool} {ops : List Oper} {ms : List Nat}
inductive Trace (P:Program) (Γ:Nat->Option (Native U)) (ro:Nat) (dr:Bool) (ops:List Oper) (ms:List Nat):List Oper->Nat->List (Nat×Info)->St U->List (Out U)->St U->Prop
 |nil {j:Nat} {acc:List (Nat×Info)} {st:St U}:Trace P Γ ro dr ops ms [] j acc st [] st
 |cons {o:Oper} {rest:List Oper} {j:Nat} {acc:List (Nat×Info)} {st st':St U} {out:Out U} {outs:List (Out U)} (hd:Z3d st.n o.dst=true)
   (hw:(want ops st.env o= .yes/\(step P Γ st.nx (opd st.env) st.h o).outs=some out)\/(want ops st.env o= .no/\out={ v:= .t []}))
   (ho:Z2M dr ms j o (info ops o out) acc=true) (hr:Q4U ro out.w=true)
   (ht:Trace P Γ ro dr ops ms rest (j+1) ((j,info ops o out)::acc) (st.apply o.dst out) outs st'):Trace P Γ ro dr ops ms (o::rest) j acc st (out::outs) st'
theorem Q9G {ρ:Type} {S:ρ->Prop} {fail:ρ} (hf:¬S fail) {r:OpR U} {K:Out U->ρ} (h:S (r.elim fail K)):∃out,r.outs=some out/\S (K out):=by
 cases r with
 |fail=>exact (hf h).elim
 |ok o=>exact ⟨o,rfl,h⟩
 |chk b o=>cases b with
  |true=>exact ⟨o,rfl,h⟩
  |false=>exact (hf h).elim
 |opt α x k=>cases x with
  |none=>exact (hf h).elim
  |some y=>exact ⟨k y,rfl,h⟩
 |two b x y=>cases b with
  |true=>exact ⟨x,rfl,h⟩
  |false=>exact ⟨y,rfl,h⟩
theorem Z8i {ρ:Type} {S:ρ->Prop} {J:Bool->ρ->ρ->ρ} (hJ:∀b x y,S (J b x y)->S (bif b then x else y)) {g:Bool} {dst:Option Tmp} {o:Out U} {K:Out U->ρ}
  (h:S (split J g dst o K)):S (K o):=by
 unfold split at h
 split at h
 ·rename_i b rd w nw
  have:=hJ _ _ _ h
  cases b <;> exact this
 ·exact h
theorem Z2Y {ρ:Type} {S:ρ->Prop} {J:Bool->ρ->ρ->ρ} {fail:ρ} (hf:¬S fail) (hJ:∀b x y,S (J b x y)->S (bif b then x else y)):
  ∀(rest:List Oper) (j:Nat) (acc:List (Nat×Info)) (st:St U) (K:St U->ρ),S (Z12 P Γ ro dr ops ms J fail rest j acc st K)->
   ∃outs st',Trace P Γ ro dr ops ms rest j acc st outs st'/\S (K st')
 | [],j,acc,st,K,h=>⟨[],st,.nil,h⟩
 |o::rest,j,acc,st,K,h=>by
  unfold Z12 at h
  cases hd:Z3d st.n o.dst with
  |false=>rw [hd] at h;exact (hf h).elim
  |true=>
   rw [hd] at h
   simp only [Bool.not_true,cond_false] at h
   cases hw:want ops st.env o with
   |bad=>rw [hw] at h;exact (hf h).elim
   |no=>
    rw [hw] at h
    simp only at h
    cases ho:Z2M dr ms j o (info ops o ({ v:= .t []}:Out U)) acc with
    |false=>rw [ho] at h;exact (hf h).elim
    |true=>
     rw [ho] at h
     simp only [cond_true] at h
     obtain ⟨outs,st',h1,h2⟩:=Z2Y hf hJ rest _ _ _ K h
     exact ⟨_::outs,st',.cons hd (.inr ⟨hw,rfl⟩) ho rfl h1,h2⟩
   |yes=>
    rw [hw] at h
    simp only at h
    obtain ⟨out,h1,h2⟩:=Q9G hf h
    cases ho:Z2M dr ms j o (info ops o out) acc && Q4U ro out.w with
    |false=>rw [ho] at h2;exact (hf h2).elim
    |true=>
     rw [ho] at h2
     simp only [cond_true] at h2
     rw [Bool.and_eq_true] at ho
     obtain ⟨outs,st',h3,h4⟩:=Z2Y hf hJ rest _ _ _ K (Z8i hJ h2)
     exact ⟨_::outs,st',.cons hd (.inl ⟨hw,h1⟩) ho.1 ho.2 h3,h4⟩
theorem Z3a:∀(l m:List Nat),l.Pairwise (· > ·)->m.Pairwise (· > ·)->(∀x,x∈l↔x∈m)->l=m
 | [],[],_,_,_=>rfl
 | [],y::m,_,_,h=>by have:=(h y).2 (List.mem_cons_self ..);cases this
 |x::l,[],_,_,h=>by have:=(h x).1 (List.mem_cons_self ..);cases this
 |x::l,y::m,hl,hm,h=>by
  rw [List.pairwise_cons] at hl hm
  have hxy:x=y:=by
   rcases List.mem_cons.1 ((h x).1 (List.mem_cons_self ..)) with e|e
   ·exact e
   ·rcases List.mem_cons.1 ((h y).2 (List.mem_cons_self ..)) with e'|e'
    ·exact e'.symm
    ·have:=hl.1 y e';have:=hm.1 x e;omega
  subst hxy
  congr 1
  refine Z3a l m hl.2 hm.2 λz=>?_
  constructor
  ·intro hz
   rcases List.mem_cons.1 ((h z).1 (List.mem_cons_of_mem _ hz)) with e|e
   ·subst e;have:=hl.1 z hz;omega
   ·exact e
  ·intro hz
   rcases List.mem_cons.1 ((h z).2 (List.mem_cons_of_mem _ hz)) with e|e
   ·subst e;have:=hm.1 z hz;omega
   ·exact e
theorem ZL {α β:Type} (f:α->Option β):∀l:List α,l.findSome? f=(l.filter λx=>(f x).isSome).findSome? f
 | []=>rfl
 |x::l=>by
  rw [List.findSome?_cons,List.filter_cons]
  cases hx:f x with
  |none=>simp;exact ZL f l
  |some y=>simp [List.findSome?_cons,hx]
def down (j:Nat):List Nat:=(List.range j).reverse
theorem Z39 (j:Nat):down (j+1)=j::down j:=by simp [down,List.range_succ]
theorem Z1X {i j:Nat}:i∈down j↔i < j:=by simp [down]
theorem Z2n:∀j,(down j).Pairwise (· > ·)
 |0=>by simp [down]
 |j+1=>by
  rw [Z39,List.pairwise_cons]
  exact ⟨λi hi=>Z1X.1 hi,Z2n j⟩
theorem Z5b {β:Type} {f:Nat->Option β} {L:List Nat} {j:Nat} (hs:(L.filter λi=>(f i).isSome).Pairwise (· > ·)) (hm:∀i,(f i).isSome->(i∈L↔i < j)):
  L.findSome? f=(down j).findSome? f:=by
 rw [ZL f L,ZL f (down j)]
 congr 1
 refine Z3a _ _ hs ((Z2n j).filter _) λx=>?_
 simp only [List.mem_filter,Z1X]
 constructor
 ·rintro ⟨h1,h2⟩;exact ⟨(hm x h2).1 h1,h2⟩
 ·rintro ⟨h1,h2⟩;exact ⟨(hm x h2).2 h1,h2⟩
end Go.Rf
namespace Go.Rf
set_option linter.unusedVariables false
set_option linter.unusedSimpArgs false
variable {U : QV} {P : Program} {Γ : Nat -> Option (Native U)} {ro : Nat} {dr : Bool}
theorem Trace.facts {ops:List Oper} {ms:List Nat} {rest:List Oper} {j:Nat} {acc:List (Nat×Info)} {st st':St U} {outs:List (Out U)} (h:Trace P Γ ro dr ops ms rest j acc st outs st'):
  ∃(X:Nat->Out U) (T:Nat->St U),T j=st/\T (j+rest.length)=st'/\∀k o,rest[k]? =some o->
   T (j+k+1)=(T (j+k)).apply o.dst (X (j+k))/\Z3d (T (j+k)).n o.dst=true/\
   ((want ops (T (j+k)).env o= .yes/\(step P Γ (T (j+k)).nx (opd (T (j+k)).env) (T (j+k)).h o).outs=some (X (j+k)))\/(want ops (T (j+k)).env o= .no/\X (j+k)={ v:= .t []}))/\
   Q4U ro (X (j+k)).w=true/\(dr=true->Z2g (j+k) o=true/\
    (∀p∈acc,Q4k p.2 (info ops o (X (j+k)))=true->(ms.getD (j+k) 0).testBit p.1=true)/\
    ∀i o',rest[i]? =some o'->i < k->Q4k (info ops o' (X (j+i))) (info ops o (X (j+k)))=true->(ms.getD (j+k) 0).testBit (j+i)=true):=by
 induction h with
 | @nil j acc st=>exact ⟨λ_=>{ v:= .t []},λ_=>st,rfl,rfl,λk o hk=>by simp at hk⟩
 | @cons o rest j acc st st' out outs hd hw ho hr ht ih=>
  obtain ⟨X,T,h1,h2,h3⟩:=ih
  let X':Nat->Out U:=λi=>if i=j then out else X i
  let T':Nat->St U:=λi=>if i=j then st else T i
  have hX0:X' j=out:=by simp [X']
  have hT0:T' j=st:=by simp [T']
  have hXs:∀i,X' (j+(i+1))=X (j+1+i):=λi=>by
   simp only [X'];rw [if_neg (by omega)];congr 1;omega
  have hTs:∀i,T' (j+(i+1))=T (j+1+i):=λi=>by
   simp only [T'];rw [if_neg (by omega)];congr 1;omega
  have hor:dr=true->Z2g j o=true/\∀p∈acc,Q4k p.2 (info ops o out)=true->(ms.getD j 0).testBit p.1=true:=λhdr=>by
   subst hdr
   simp only [Z2M,Bool.not_true,Bool.false_or,Bool.and_eq_true,List.all_eq_true] at ho
   refine ⟨ho.1,λp hp hc=>?_⟩
   have:=ho.2 p hp
   simpa [hc] using this
  refine ⟨X',T',hT0,?_,λk x hk=>?_⟩
  ·rw [List.length_cons,hTs];exact h2
  ·cases k with
   |zero=>
    simp at hk;subst hk
    simp only [Nat.add_zero]
    rw [hX0,hT0]
    refine ⟨?_,hd,hw,hr,λhdr=>⟨(hor hdr).1,(hor hdr).2,λi o' _ hi=>by omega⟩⟩
    have:=hTs 0
    simp only [Nat.add_zero,Nat.zero_add] at this
    rw [this,h1]
   |succ k=>
    simp at hk
    obtain ⟨h4,h5,h6,h7,h8⟩:=h3 k x hk
    have e:j+(k+1)+1=j+(k+1+1):=by omega
    rw [e,hTs (k+1),hTs k,hXs k]
    refine ⟨h4,h5,h6,h7,λhdr=>?_⟩
    obtain ⟨h9,h10,h11⟩:=h8 hdr
    have e2:j+(k+1)=j+1+k:=by omega
    refine ⟨by rw [e2];exact h9,λp hp=>by rw [e2];exact h10 p (List.mem_cons_of_mem _ hp),λi o' hi hik hc=>?_⟩
    cases i with
    |zero=>
     simp at hi;subst hi
     simp only [Nat.add_zero] at hc ⊢
     rw [hX0] at hc
     rw [e2]
     exact h10 (j,info ops o out) (List.mem_cons_self ..) hc
    |succ i=>
     simp at hi
     rw [hXs i] at hc
     rw [e2,show j+(i+1)=j+1+i by omega]
     exact h11 i o' hi (by omega) hc
structure Reg (U:QV) (P:Program) (Γ:Nat->Option (Native U)) (ro:Nat) (dr:Bool) (ops:Array Oper) (ms:List Nat) (st0:St U) (X:Nat->Out U) (T:Nat->St U):Prop where
 t0:T 0=st0
 ts:∀(j:Nat) o,ops[j]? =some o->T (j+1)=(T j).apply o.dst (X j)
 dst:∀(j:Nat) o,ops[j]? =some o->Z3d (T j).n o.dst=true
 run:∀(j:Nat) o,ops[j]? =some o->(want ops.toList (T j).env o= .yes/\(step P Γ (T j).nx (opd (T j).env) (T j).h o).outs=some (X j))\/(want ops.toList (T j).env o= .no/\X j={ v:= .t []})
 wr:∀(j:Nat) o,ops[j]? =some o->Q4U ro (X j).w=true
 edge:dr=true->∀(j:Nat) o,ops[j]? =some o->Z2g j o=true
 Q4k:dr=true->∀(j:Nat) o i o',ops[j]? =some o->ops[i]? =some o'->i < j->Rf.Q4k (info ops.toList o' (X i)) (info ops.toList o (X j))=true->(ms.getD j 0).testBit i=true
theorem Trace.reg {ops:Array Oper} {ms:List Nat} {st st':St U} {outs:List (Out U)} (h:Trace P Γ ro dr ops.toList ms ops.toList 0 [] st outs st'):
  ∃X T,Reg U P Γ ro dr ops ms st X T/\T ops.size=st':=by
 obtain ⟨X,T,h1,h2,h3⟩:=h.facts
 simp only [Nat.zero_add] at h1 h2 h3
 have hl:∀(j:Nat) o,ops[j]? =some o->ops.toList[j]? =some o:=λj o hj=>by rw [Array.getElem?_toList];exact hj
 refine ⟨X,T,⟨h1,λj o hj=>(h3 j o (hl j o hj)).1,λj o hj=>(h3 j o (hl j o hj)).2.1,λj o hj=>(h3 j o (hl j o hj)).2.2.1,λj o hj=>(h3 j o (hl j o hj)).2.2.2.1,
  λhdr j o hj=>((h3 j o (hl j o hj)).2.2.2.2 hdr).1,λhdr j o i o' hj hi hlt hc=>((h3 j o (hl j o hj)).2.2.2.2 hdr).2.2 i o' (hl i o' hi) hlt hc⟩,by simpa using h2⟩
structure Ext (U:QV) (ro:Nat) (c0:Cx) (Φ0:Nat->Nat->Nat->Prop) (h0:Qr U) (nx0:Nat) (w0:World) (c:Cx) (Φ:Nat->Nat->Nat->Prop) (h:Qr U) (w:World):Prop where
 le:c0.Le c
 L:∀s i,s < nx0->(U.nf<=s\/get h0 s=none\/s < ro)->c.L s i=c0.L s i
 old:∀s,s < nx0->(get h s).isSome->(get h0 s).isSome
 fr:Fr (λb o=>∃s,ro<=s/\(get h0 s).isSome/\Φ0 s b o) w0 w
 Q2p:∀s,s < ro->Φ s=Φ0 s
 Q2g:∀s b o,ro<=s->(get h s).isSome->Φ s b o->w0.heap.size<=b\/∃s',ro<=s'/\(get h0 s').isSome/\Φ0 s' b o
 Q32:∀b o v,c.I b o=some v->c0.I b o=some v\/w0.heap.size<=b\/∃s',ro<=s'/\(get h0 s').isSome/\Φ0 s' b o
section
variable {c0 : Cx} {Φ0 : Nat -> Nat -> Nat -> Prop} {h0 : Qr U} {nx0 : Nat} {w0 : World} {c : Cx} {Φ : Nat -> Nat -> Nat -> Prop} {h : Qr U} {w : World}
theorem Ext.refl:Ext U ro c0 Φ0 h0 nx0 w0 c0 Φ0 h0 w0:=
 ⟨.refl _,λ_ _ _ _=>rfl,λ_ _ h=>h,.refl _ _,λ_ _=>rfl,λs b o h1 h2 h3=>.inr ⟨s,h1,h2,h3⟩,λ_ _ _ h=>.inl h⟩
theorem Ext.less {h':Qr U} (he:Ext U ro c0 Φ0 h0 nx0 w0 c Φ h w) (hh:∀s,(get h' s).isSome->(get h s).isSome):Ext U ro c0 Φ0 h0 nx0 w0 c Φ h' w:=
 ⟨he.le,he.L,λs h1 h2=>he.old s h1 (hh s h2),he.fr,he.Q2p,λs b o h1 h2 h3=>he.Q2g s b o h1 (hh s h2) h3,he.Q32⟩
theorem Ext.drew (he:Ext U ro c0 Φ0 h0 nx0 w0 c Φ h w):Ext U ro c0 Φ0 h0 nx0 w0 c Φ h { w with drawn:=w.drawn+1}:=
 ⟨he.le,he.L,he.old,he.fr.trans (Fr.drew _ w) λ_ _ _ h=>h,he.Q2p,he.Q2g,he.Q32⟩
theorem Z2X {s:Nat} {l:List (Nat×Ent U)} (hw:Q4U ro l=true) (hs:s∈l.map (·.1)):ro<=s:=by
 unfold Q4U at hw
 rw [List.all_eq_true] at hw
 obtain ⟨p,hp,rfl⟩:=List.mem_map.1 hs
 exact Nat.le_of_ble_eq_true (hw p hp)
theorem Ext.step {nx:Nat} {out:Out U} {c':Cx} {Φ':Nat->Nat->Nat->Prop} {v:Value} {w':World} (he:Ext U ro c0 Φ0 h0 nx0 w0 c Φ h w) (hs:QB U c Φ h nx out w c' Φ' v w')
  (hw:Q4U ro out.w=true) (hn:nx0<=nx):Ext U ro c0 Φ0 h0 nx0 w0 c' Φ' (out.w++h) w' where
 le:=he.le.trans hs.le
 L s i hsi hf:=(hs.L s i (by omega) (λ⟨h1,h2⟩=>by
  rcases hs.names s h2 with h3|h3
  ·omega
  ·have:=he.old s hsi h3
   rcases hf with h4|h4|h4
   ·omega
   ·rw [h4] at this;cases this
   ·have:=Z2X hw h2;omega)).trans (he.L s i hsi hf)
 old s hsi h1:=by
  by_cases hm:s∈out.w.map (·.1)
  ·rcases hs.names s hm with h3|h3
   ·omega
   ·exact he.old s hsi h3
  ·rw [Zh,Zg hm] at h1
   exact he.old s hsi h1
 fr:=he.fr.trans hs.fr λb o hb ⟨s,h1,h2,h3⟩=>by
  rcases he.Q2g s b o (Z2X hw h1) h2 h3 with h4|h4
  ·exact absurd hb (Nat.not_lt.2 h4)
  ·exact h4
 Q2p s hsr:=by
  rw [hs.Q2p s λhm=>by have:=Z2X hw hm;omega]
  exact he.Q2p s hsr
 Q2g s b o hsr h1 h2:=by
  by_cases hm:s∈out.w.map (·.1)
  ·rcases hs.Q2g s b o hm h2 with h3|⟨s',h3,h4,h5⟩
   ·exact .inl (Nat.le_trans he.fr.size h3)
   ·exact he.Q2g s' b o (Z2X hw h3) h4 h5
  ·rw [hs.Q2p s hm] at h2
   rw [Zh,Zg hm] at h1
   exact he.Q2g s b o hsr h1 h2
 Q32 b o v hI:=by
  rcases hs.Q32 b o v hI with h1|h1|⟨s,h1,h2,h3⟩
  ·exact he.Q32 b o v h1
  ·exact .inr (.inl (Nat.le_trans he.fr.size h1))
  ·rcases he.Q2g s b o (Z2X hw h1) h2 h3 with h4|h4
   ·exact .inr (.inl h4)
   ·exact .inr (.inr h4)
theorem G.congr {h':Qr U} (hg:G U c Φ h w) (hh:∀s,get h' s=get h s):G U c Φ h' w:=
 ⟨λs e he=>hg.Q1M s e (by rw [←hh];exact he),λs s' b o h1 h2 h3=>hg.apart s s' b o h1 (by rw [←hh];exact h2) (by rw [←hh];exact h3),hg.imm,λs b o h1=>hg.Q15 s b o (by rw [←hh];exact h1)⟩
end
end Go.Rf
namespace Go.Rf
set_option linter.unusedVariables false
set_option linter.unusedSimpArgs false
variable {U : QV} {P : Program} {c : Cx} {Φ : Nat -> Nat -> Nat -> Prop} {h : Qr U} {nx : Nat} {w : World}
theorem Z55:∀(l:List U.S) (k j t:Nat),Z1W l k=some (j,t)->k<=j/\l[j - k]? =some (.arr t)
 | [],k,j,t,h=>by cases h
 |y::r,k,j,t,h=>by
  have rest:Z1W r (k+1)=some (j,t)->k<=j/\(y::r)[j - k]? =some (.arr t):=λh=>by
   obtain ⟨h1,h2⟩:=Z55 r (k+1) j t h
   refine ⟨by omega,?_⟩
   rw [show j - k=(j - (k+1))+1 by omega,List.getElem?_cons_succ]
   exact h2
  cases y with
  |arr t'=>
   simp only [Z1W,Option.some.injEq,Prod.mk.injEq] at h
   obtain ⟨rfl,rfl⟩:=h
   exact ⟨Nat.le_refl _,by simp⟩
  |_=>exact rest h
theorem Z7t (hU:U.Ok) (s:Nat):∀(fu:Nat) (h:Qr U) (Φ:Nat->Nat->Nat->Prop),G U c Φ h w->∃Φ',QB U c Φ h nx { v:= .t [],w:=Z1c fu s h} w c Φ' undef w
 |0,h,Φ,hg=>⟨Φ,QB.pure hg RA.undef⟩
 |fu+1,h,Φ,hg=>by
  unfold Z1c
  split
  ·rename_i cells he
   split
   ·rename_i k t hfa
    split
    ·rename_i u m f ht
     have:=(Z55 _ _ _ _ hfa).2
     obtain ⟨Φ1,h1⟩:=Z5M (nx:=nx) (rd:= []) hU hg he (by simpa using this) ht
     obtain ⟨Φ2,h2⟩:=Z7t hU s fu _ Φ1 h1.g
     exact ⟨Φ2,h1.comp (rd:= []) h2⟩
    ·exact ⟨Φ,QB.pure hg RA.undef⟩
   ·exact ⟨Φ,QB.pure hg RA.undef⟩
  ·exact ⟨Φ,QB.pure hg RA.undef⟩
theorem Qay (fu s:Nat) (h:Qr U):s∈Z4b fu s h:=by
 induction fu generalizing h with
 |zero=>simp [Z4b]
 |succ fu ih=>
  unfold Z4b
  split
  ·split
   ·split
    ·exact List.mem_cons_of_mem _ (ih _)
    ·simp
   ·simp
  ·simp
theorem Z5x (s:Nat):∀(fu:Nat) (h h':Qr U),(∀x,x∈Z4b fu s h'->get h x=get h' x)->Z1c fu s h=Z1c fu s h'
 |0,h,h',_=>rfl
 |fu+1,h,h',ha=>by
  have hs:=ha s (Qay _ _ _)
  unfold Z1c
  unfold Z4b at ha
  rw [hs]
  cases he:get h' s with
  |none=>rfl
  |some e=>
   rw [he] at ha
   cases e with
   |obj cells=>
    simp only at ha ⊢
    cases hfa:Z1W cells 0 with
    |none=>rfl
    |some p=>
     obtain ⟨k,t⟩:=p
     rw [hfa] at ha
     simp only at ha ⊢
     have ht:get h t=get h' t:=ha t (by
      split
      ·exact List.mem_cons_self ..
      ·simp)
     rw [ht]
     cases htt:get h' t with
     |none=>rfl
     |some e=>
      rw [htt] at ha
      cases e with
      |fam ct u m f=>
       cases ct with
       |true=>
        simp only at ha ⊢
        rw [Z5x s fu _ _ λx hx=>Z11 (ha x (List.mem_cons_of_mem _ hx))]
       |false=>rfl
      |_=>rfl
   |_=>rfl
theorem Z9T (hU:U.Ok) (u:U.C) (s:Nat) (h:Qr U) (hg:G U c Φ h w):QB U c Φ h nx { v:= .t [],w:=Z27 u s h} w c Φ undef w:=by
 unfold Z27
 split
 ·rename_i cells he
  exact Z1Z (rd:= []) hg he λF hF=>Z5l hU _ _ _ hF
 ·exact QB.pure hg RA.undef
theorem Q5q.own {k b o n cap sz:Nat} {a:Option Addr} (h:Q5q c (.own k) a b o n cap sz):∃b' o' e,c.L k 0=some (b',o')/\c.L k 1=some (b',e)/\(0 < cap->a=some (at_ b o)/\b'=b/\o'=o+n*sz/\o+cap*sz<=e):=h
theorem Z4M {s:Nat} {F:Nat->Nat->Prop} {cells:List U.S} (hE:∃b o G,c.L s 0=some (b,o)/\(∀i x,c.L s i=some x->i=0)/\Pl U c w b o cells G/\(∀b' o',F b' o'↔∃k,k < cells.length/\G k b' o')) {k:Nat} {x:U.S} (hk:k < cells.length)
  {Fk Fx:Nat->Nat->Prop} (hx:∀b o G,c.L s 0=some (b,o)->Pl U c w b o cells G->(∀b' o',F b' o'↔∃k,k < cells.length/\G k b' o')->Own U c w b (o+k) x (λb' o'=>G k b' o'\/Fx b' o')/\∀b' o',Fx b' o'->F b' o'->False):
  Q1s c w s (λb' o'=>F b' o'\/Fx b' o') (.obj (Zn k x cells):Ent U):=by
 obtain ⟨b,o,G,e1,e2,hP,hF⟩:=hE
 obtain ⟨h1,h2⟩:=hx b o G e1 hP hF
 have hin:∀j b' o',j < cells.length->G j b' o'->F b' o':=λj b' o' hj hf=>(hF _ _).2 ⟨j,hj,hf⟩
 refine ⟨b,o,λj b' o'=>G j b' o'\/(j=k/\Fx b' o'),e1,e2,⟨λj y hj=>?_,λi j b' o' hi hj hne f1 f2=>?_⟩,λb' o'=>?_⟩
 ·rw [Q9E hk] at hj
  by_cases e:j=k
  ·subst e
   rw [if_pos rfl] at hj;cases hj
   exact h1.iff λb' o'=>⟨λh=>h.imp id λh=>⟨rfl,h⟩,λh=>h.imp id λh=>h.2⟩
  ·rw [if_neg e] at hj
   exact (hP.own j y hj).iff λb' o'=>⟨.inl,λh=>h.elim id λh=>absurd h.1 e⟩
 ·rw [Z3q hk] at hi hj
  rcases f1 with f1|⟨e1,f1⟩
  ·rcases f2 with f2|⟨e2,f2⟩
   ·exact hP.dis i j b' o' hi hj hne f1 f2
   ·exact h2 _ _ f2 (hin i _ _ hi f1)
  ·rcases f2 with f2|⟨e2,f2⟩
   ·exact h2 _ _ f1 (hin j _ _ hj f2)
   ·omega
 ·rw [Z3q hk]
  constructor
  ·rintro (hf|hf)
   ·obtain ⟨j,hj,hf⟩:=(hF _ _).1 hf
    exact ⟨j,hj,.inl hf⟩
   ·exact ⟨k,hk,.inr ⟨rfl,hf⟩⟩
  ·rintro ⟨j,hj,hf|⟨_,hf⟩⟩
   ·exact .inl (hin j _ _ hj hf)
   ·exact .inr hf
theorem Qas (hU:U.Ok) {s k:Nat} {u:U.C} {h:Qr U} {Φ:Nat->Nat->Nat->Prop} (hg:G U c Φ h w):∃Φ',QB U c Φ h nx { v:= .t [],w:=Q5v s k u h} w c Φ' undef w:=by
 unfold Q5v
 split
 ·rename_i cells he
  split
  ·rename_i t v xs hc
   split
   ·rename_i e _
    subst e
    split
    ·rename_i ht
     cases hsb:Nat.beq s t with
     |true=>exact ⟨Φ,QB.pure hg RA.undef⟩
     |false=>
      simp only [cond_false]
      have hne:s≠t:=λe=>by subst e;simp at hsb
      have hk:=(List.getElem?_eq_some_iff.1 hc).1
      obtain ⟨bt,ot,et,t1,t2,t3,t4⟩:=hg.Q1M t _ ht
      have hss:(get h s).isSome:=by rw [he];rfl
      have hst:(get h t).isSome:=by rw [ht];rfl
      have hE:=hg.Q1M s _ he

      obtain ⟨b,o,Gk,e1,e2,hP,hF⟩:=id hE
      obtain ⟨⟨vv,q1,q2⟩,q3,q4⟩:=(hP.own k _ hc).plain rfl
      cases q2 with
      | @isl _ _ _ a cap b1 o1 g hcap htok ha hi hr=>
       obtain ⟨b',o',e,r1,r2,r3⟩:=htok.own
       rw [t1] at r1;cases r1
       rw [t2] at r2;cases r2
       let Fx:Nat->Nat->Prop:=λb' o'=>0 < cap/\b'=b1/\o1+xs.length*U.size v<=o'/\o' < o1+cap*U.size v
       have hFx:∀b' o',Fx b' o'->Φ t b' o':=λb' o' ⟨p0,p1,p2,p3⟩=>by
        obtain ⟨_,r4,r5,r6⟩:=r3 p0
        subst p1
        have:=(t3 o' (by omega) (by omega)).2.2
        rwa [←r4]
       refine ⟨_,G.Q97 (Fs:=λz=>if z=s then (λb' o'=>Φ s b' o'\/Fx b' o') else λ_ _=>False) (nw:=0) hU hg (.refl c) (λ_ _ _=>rfl) (λz h1 h2=>by omega) rfl (λz en hz=>?_) (λz b' o' hz hf=>?_) (λz z' b' o' hz hz' hne' h1 h2=>?_) (λz hz=>?_) RA.undef⟩
       ·rw [Z9] at hz
        by_cases e:s=z
        ·subst e
         rw [if_pos rfl] at hz;cases hz
         simp only [if_pos rfl]
         refine Z4M (Fk:=λ_ _=>False) hE hk λb2 o2 G2 w1 w2 w3=>?_
         have hnd:∀b' o',Fx b' o'->Φ s b' o'->False:=λb' o' h1 h2=>hg.apart s t b' o' hne hss hst h2 (hFx _ _ h1)
         refine ⟨?_,hnd⟩
         obtain ⟨⟨vv2,p1,p2⟩,p3,p4⟩:=(w2.own k _ hc).plain rfl
         rw [e1] at w1;cases w1
         rw [q1] at p1;cases p1
         have hroom:∀x,o1+xs.length*U.size v<=x->x < o1+cap*U.size v->Fx b1 x:=λx h1 h2=>by
          have:0 < cap:=by
           rcases Nat.eq_zero_or_pos cap with h0|h0
           ·subst h0;omega
           ·exact h0
          exact ⟨this,rfl,h1,h2⟩
         refine .Q2d (b1:=b1) (o1:=o1) g q1 p3 hcap (λhp=>(r3 hp).1) hi hr (λx h1 h2=>?_) (λhb h1 h2=>?_) λb' o'=>?_
         ·have h3:=hroom x h1 h2
          obtain ⟨p0,_,_,_⟩:=id h3
          obtain ⟨_,r4,r5,r6⟩:=r3 p0
          obtain ⟨h4,h5,_⟩:=t3 x (by omega) (by omega)
          rw [r4] at h4 h5
          exact ⟨h4,h5⟩
         ·refine hnd b1 (o+k) (hroom _ h1 h2) ?_
          rw [←hb]
          exact (w3 _ _).2 ⟨k,hk,(p4 _ _).2 ⟨rfl,rfl⟩⟩
         ·rw [p4]
          refine or_congr Iff.rfl ⟨λh=>⟨h.2.1,h.2.2⟩,λ⟨h1,h2,h3⟩=>by subst h1;exact hroom _ h2 h3⟩
        ·rw [if_neg e,Z9] at hz
         by_cases e2:t=z
         ·subst e2
          rw [if_pos rfl] at hz;cases hz
          rw [if_neg (λe3:t=s=>e e3.symm)]
          exact λ_ _ h=>h
         ·rw [if_neg e2] at hz;cases hz
       ·simp at hz
        by_cases e:z=s
        ·subst e
         simp only [if_pos rfl] at hf
         rcases hf with hf|hf
         ·exact ⟨z,by simp,hss,hf⟩
         ·exact ⟨t,by simp,hst,hFx _ _ hf⟩
        ·simp only [if_neg e] at hf
       ·by_cases e:z=s
        ·have e':z'≠s:=λe2=>hne' (e.trans e2.symm)
         simp only [if_neg e'] at h2
        ·simp only [if_neg e] at h1
       ·simp at hz
        rcases hz with rfl|rfl
        ·exact .inr hss
        ·exact .inr hst
    ·exact ⟨Φ,QB.pure hg RA.undef⟩
   ·exact ⟨Φ,QB.pure hg RA.undef⟩
  ·rename_i v xs hc
   split
   ·rename_i e _
    subst e
    have hk:=(List.getElem?_eq_some_iff.1 hc).1
    refine ⟨Φ,Z1Z (rd:= []) hg he λF hE=>?_⟩
    have:=Z4M (Fk:=λ_ _=>False) (Fx:=λ_ _=>False) (x:= .Q2d v xs) hE hk λb o G w1 w2 w3=>⟨Z2D (w2.own k _ hc),λ_ _ h _=>h⟩
    have e:(λb' o'=>F b' o'\/False)=F:=by funext b' o';simp
    rwa [e] at this
   ·exact ⟨Φ,QB.pure hg RA.undef⟩
  ·rename_i hc
   have hk:=(List.getElem?_eq_some_iff.1 hc).1
   refine ⟨Φ,Z1Z (rd:= []) hg he λF hE=>?_⟩
   have:=Z4M (Fk:=λ_ _=>False) (Fx:=λ_ _=>False) (x:= .Q2d u []) hE hk λb o G w1 w2 w3=>⟨Z2D (Own.le (w2.own k _ hc) ⟨rfl,λc v hr=>by
     cases R.Q1z hr
     exact R.isl (xs:= []) (b:=0) (o:=0) (λ_ _=>undef) (Nat.le_refl _) (by rfl) (λhh=>by simp at hh) (λi k hi=>by simp at hi) (λi k hi=>by simp at hi),λh=>by cases h⟩),λ_ _ h _=>h⟩
   have e:(λb' o'=>F b' o'\/False)=F:=by funext b' o';simp
   rwa [e] at this
  ·exact ⟨Φ,QB.pure hg RA.undef⟩
 ·exact ⟨Φ,QB.pure hg RA.undef⟩
theorem Z7v (hU:U.Ok) (s:Nat):∀(tm:List U.S) (k:Nat) (h:Qr U) (Φ:Nat->Nat->Nat->Prop),G U c Φ h w->∃Φ',QB U c Φ h nx { v:= .t [],w:=olW s tm k h} w c Φ' undef w
 | [],k,h,Φ,hg=>⟨Φ,QB.pure hg RA.undef⟩
 |x::r,k,h,Φ,hg=>by
  cases x with
  |Q2d u xs=>
   obtain ⟨Φ1,h1⟩:=Qas (nx:=nx) (s:=s) (k:=k) (u:=u) hU hg
   obtain ⟨Φ2,h2⟩:=Z7v hU s r (k+1) _ Φ1 h1.g
   exact ⟨Φ2,h1.comp (rd:= []) h2⟩
  |_=>exact Z7v hU s r (k+1) h Φ hg
theorem Z8l {s k:Nat} {u:U.C} {h h':Qr U} (ha:∀x,x∈Q96 s k h'->get h x=get h' x):Q5v s k u h=Q5v s k u h':=by
 have hs:=ha s (by unfold Q96;split <;> (try split) <;> simp)
 unfold Q5v
 rw [hs]
 cases he:get h' s with
 |none=>rfl
 |some e=>
  cases e with
  |obj cells=>
   simp only
   cases hc:cells[k]? with
   |none=>rfl
   |some x=>
    cases x with
    |isl t v xs=>
     cases t with
     |own t=>
      simp only
      have:=ha t (by unfold Q96;rw [he];simp only;rw [hc];simp)
      rw [this]
     |_=>rfl
    |val v=>
     cases v with
     |slice a n m=>
      cases a with
      |some a=>rfl
      |none=>
       cases n with
       |succ n=>rfl
       |zero=>cases m <;> rfl
     |_=>rfl
    |_=>rfl
  |_=>rfl
theorem Z4t (s:Nat):∀(tm:List U.S) (k:Nat) (h h':Qr U),(∀x,x∈olR s tm k h'->get h x=get h' x)->olW s tm k h=olW s tm k h'
 | [],k,h,h',ha=>rfl
 |x::r,k,h,h',ha=>by
  cases x with
  |Q2d u xs=>
   have h1:Q5v s k u h=Q5v s k u h':=Z8l λx hx=>ha x (List.mem_append_left _ hx)
   show olW s r (k+1) (Q5v s k u h++h)++Q5v s k u h=olW s r (k+1) (Q5v s k u h'++h')++Q5v s k u h'
   rw [h1,Z4t s r (k+1) _ _ λx hx=>Z11 (ha x (List.mem_append_right _ hx))]
  |_=>exact Z4t s r (k+1) h h' ha
theorem Z2G (hU:U.Ok):∀(l:List (Nat×U.C)) (h:Qr U) (Φ:Nat->Nat->Nat->Prop),G U c Φ h w->∃Φ',QB U c Φ h nx { v:= .t [],w:=ZC l h} w c Φ' undef w
 | [],h,Φ,hg=>⟨Φ,QB.pure hg RA.undef⟩
 |(s,u)::r,h,Φ,hg=>by
  unfold ZC
  obtain ⟨Φ1,h1⟩:=Z7t (nx:=nx) hU s 20 h Φ hg
  have h2:=Z9T (nx:=nx) hU u s _ h1.g
  have h3:=h1.comp (rd:= []) h2
  obtain ⟨Φ2,h4⟩:=Z7v (nx:=nx) hU s (U.enc u (U.dft u)) 0 _ Φ1 h3.g
  have h5:=h3.comp (rd:= []) h4
  obtain ⟨Φ3,h6⟩:=Z2G hU r _ Φ2 h5.g
  exact ⟨Φ3,h5.comp (rd:= []) h6⟩
theorem Z5K:∀(l:List (Nat×U.C)) (h h':Qr U),(∀x,x∈Z4p l h'->get h x=get h' x)->ZC l h=ZC l h'
 | [],h,h',_=>rfl
 |(s,u)::r,h,h',ha=>by
  unfold ZC
  unfold Z4p at ha
  have h1:=Z5x s 20 h h' λx hx=>ha x (by simp [hx])
  have hs:=ha s (by simp)
  have h2:Z27 u s (Z1c 20 s h++h)=Z27 u s (Z1c 20 s h'++h'):=by
   unfold Z27
   rw [h1,Z11 hs]
  simp only [h1] at h2 ⊢
  rw [h2]
  have h3:olW s (U.enc u (U.dft u)) 0 (Z27 u s (Z1c 20 s h'++h')++Z1c 20 s h'++h)=olW s (U.enc u (U.dft u)) 0 (Z27 u s (Z1c 20 s h'++h')++Z1c 20 s h'++h'):=
   Z4t s _ 0 _ _ λx hx=>Z11 (ha x (by
    simp only [List.cons_append,List.mem_cons,List.mem_append]
    exact .inr (.inr (.inl hx))))
  rw [h3,Z5K r _ (olW s (U.enc u (U.dft u)) 0 (Z27 u s (Z1c 20 s h'++h')++Z1c 20 s h'++h')++(Z27 u s (Z1c 20 s h'++h')++Z1c 20 s h')++h') λx hx=>Z11 (ha x (by
   simp only [List.cons_append,List.mem_cons,List.mem_append]
   exact .inr (.inr (.inr hx))))]
end Go.Rf
namespace Go.Rf
set_option linter.unusedVariables false
set_option linter.unusedSimpArgs false
variable {U : QV} {P : Program} {Γ : Nat -> Option (Native U)} {ro : Nat} {dr : Bool}
section
variable {ops : Array Oper} {ms : List Nat} {st0 : St U} {X : Nat -> Out U} {T : Nat -> St U}
def Z1C (ops:Array Oper) (i:Nat):Option Nat:=(ops[i]?).bind (·.dst)
def wE (ops:Array Oper) (X:Nat->Out U) (t i:Nat):Option (A U):=if Z1C ops i=some t then some (X i).v else none
def wH (X:Nat->Out U) (s i:Nat):Option (Ent U):=get (X i).w s
def Q6h (ops:Array Oper) (X:Nat->Out U) (st0:St U) (L:List Nat) (t:Nat):Option (A U):=
 match L.findSome? (wE ops X t) with
 |some v=>some v
 |none=>get st0.env t
def hL (X:Nat->Out U) (st0:St U) (L:List Nat):Qr U:=L.foldr (λi h=>(X i).w++h) st0.h
theorem Z5O (L:List Nat) (s:Nat):get (hL X st0 L) s=match L.findSome? (wH X s) with|some e=>some e|none=>get st0.h s:=by
 induction L with
 |nil=>rfl
 |cons i L ih=>
  rw [List.findSome?_cons]
  show get ((X i).w++hL X st0 L) s=_
  rw [Zh]
  simp only [wH]
  cases get (X i).w s with
  |some e=>rfl
  |none=>exact ih
theorem Z65 (hR:Reg U P Γ ro dr ops ms st0 X T):∀j,j<=ops.size->(T j).h=hL X st0 (down j)
 |0,_=>by rw [hR.t0];rfl
 |j+1,hj=>by
  have ho:ops[j]? =some ops[j]:=Array.getElem?_eq_getElem (by omega)
  rw [hR.ts j _ ho,Z39]
  show (X j).w++(T j).h=(X j).w++hL X st0 (down j)
  rw [Z65 hR j (by omega)]
theorem Z5n (hR:Reg U P Γ ro dr ops ms st0 X T) (t:Nat):∀j,j<=ops.size->get (T j).env t=Q6h ops X st0 (down j) t
 |0,_=>by rw [hR.t0];rfl
 |j+1,hj=>by
  have ho:ops[j]? =some ops[j]:=Array.getElem?_eq_getElem (by omega)
  have ih:=Z5n hR t j (by omega)
  rw [hR.ts j _ ho,Z39]
  unfold Q6h at ih ⊢
  rw [List.findSome?_cons]
  have hd:Z1C ops j=ops[j].dst:=by simp [Z1C,ho]
  simp only [St.apply,wE,hd]
  cases hdst:ops[j].dst with
  |none=>simpa using ih
  |some d=>
   rw [Z9]
   by_cases e:d=t
   ·subst e;simp
   ·rw [if_neg e,if_neg (λh=>e (Option.some.inj h))]
    exact ih
theorem Z4N (hR:Reg U P Γ ro dr ops ms st0 X T) {i:Nat}:∀k,i < k->k<=ops.size->(T i).nx+(X i).nw<=(T k).nx
 |0,h,_=>by omega
 |k+1,h,hk=>by
  have ho:ops[k]? =some ops[k]:=Array.getElem?_eq_getElem (by omega)
  rw [hR.ts k _ ho]
  show _<=(T k).nx+(X k).nw
  by_cases e:i=k
  ·subst e;exact Nat.le_refl _
  ·have:=Z4N (i:=i) hR k (by omega) (by omega);omega
theorem Q7z (hR:Reg U P Γ ro dr ops ms st0 X T):∀k,k<=ops.size->st0.nx<=(T k).nx
 |0,_=>by rw [hR.t0];exact Nat.le_refl _
 |k+1,hk=>by
  have ho:ops[k]? =some ops[k]:=Array.getElem?_eq_getElem (by omega)
  rw [hR.ts k _ ho]
  show _<=(T k).nx+(X k).nw
  have:=Q7z hR k (by omega);omega
theorem Z7z (hR:Reg U P Γ ro dr ops ms st0 X T):∀k,k<=ops.size->(T k).n=st0.n
 |0,_=>by rw [hR.t0]
 |k+1,hk=>by
  have ho:ops[k]? =some ops[k]:=Array.getElem?_eq_getElem (by omega)
  rw [hR.ts k _ ho]
  exact Z7z hR k (by omega)
structure Q5u (U:QV) (ops:Array Oper) (st0:St U) (X:Nat->Out U) (T:Nat->St U) (B:Cx->(Nat->Nat->Nat->Prop)->Qr U->World->Prop) (L:List Nat) (c:Cx) (Φ:Nat->Nat->Nat->Prop) (a:Act) (w:World):Prop where
 size:a.tmps.size=st0.n
 defers:a.defers= []
 env:∀t v,Q6h ops X st0 L t=some v->RA U c v (a.eval (.tmp t))
 g:G U c Φ (hL X st0 L) w
 fresh:∀s,st0.nx<=s->(∀i∈L,¬((T i).nx<=s/\s < (T i).nx+(X i).nw))->get (hL X st0 L) s=none/\∀k,c.L s k=none
 b:B c Φ (hL X st0 L) w
structure Agree (ops:Array Oper) (st0:St U) (X:Nat->Out U) (L:List Nat) (j:Nat) (o:Oper):Prop where
 env:∀t,t∈Z1z ops.toList o->Q6h ops X st0 L t=Q6h ops X st0 (down j) t
 heap:∀s,s∈(X j).rd\/s∈(X j).w.map (·.1)->get (hL X st0 L) s=get (hL X st0 (down j)) s
theorem Z3Y {c:Cx} {v:Value} {x:A U} (h:Z6g v=some x):RA U c x v:=by
 unfold Z6g at h
 split at h
 ·rename_i cs
  cases hb:cs.toList.all okV with
  |false=>simp [hb] at h
  |true=>
   simp [hb] at h
   subst h
   rw [List.all_eq_true] at hb
   refine ⟨cs,rfl,by simp,λk x hk=>?_⟩
   rw [List.getElem?_map] at hk
   cases hv:cs.toList[k]? with
   |none=>simp [hv] at hk
   |some v=>simp [hv] at hk;subst hk;exact ⟨v,rfl,.val (hb v (List.mem_of_getElem? hv))⟩
 ·rename_i cs
  cases hb:Nat.beq cs.size 0 with
  |false=>simp [hb] at h
  |true=>
   simp [hb] at h
   subst h
   have:cs= #[]:=Array.eq_empty_of_size_eq_zero (QH hb)
   subst this
   exact RA.undef
 ·rename_i h1 h2
  cases hb:okV v with
  |false=>rw [hb] at h;cases h
  |true=>rw [hb] at h;cases h;exact R.val hb
theorem Z4d {a:Act} {d:Nat} {v:Value} (hd:d < a.tmps.size):(a.put (some d) v).eval (.tmp d)=v:=by
 simp [Act.eval,Act.put,hd]
theorem Z52 {a:Act} {d t:Nat} {v:Value} (hd:d≠t):(a.put (some d) v).eval (.tmp t)=a.eval (.tmp t):=by
 simp [Act.eval,Act.put,Array.getElem?_setIfInBounds_ne hd]
theorem Z4m {a:Act} {t:Nat} {b:Bool} (h:a.eval (.tmp t)= .bool b):a.tmps[t]? =some (.bool b):=by
 unfold Act.eval at h
 simp only at h
 cases ht:a.tmps[t]? with
 |none=>simp [ht,undef] at h
 |some v=>simp [ht] at h;rw [h]
theorem Z6J {a:Act} {t:Nat} {vs:Array Value} (h:a.eval (.tmp t)= .tuple vs):∀b,a.tmps[t]? ≠some (.bool b):=by
 intro b hb
 unfold Act.eval at h
 simp [hb] at h
theorem Z6s {c:Cx} {a:Act} {o:Oper} {env:Env U} (he:∀t,t∈Z1z ops.toList o->∀v,get env t=some v->RA U c v (a.eval (.tmp t))):
  (want ops.toList env o= .yes->Region.wanted o (yielded ops a.tmps)=true)/\(want ops.toList env o= .no->Region.wanted o (yielded ops a.tmps)=false):=by
 unfold want Region.wanted
 cases hg:o.guard with
 |none=>simp
 |some p=>
  obtain ⟨g,b⟩:=p
  simp only [yielded]
  have e1:ops.toList[g]? =ops[g]? :=Array.getElem?_toList ..
  rw [e1]
  cases ht:(ops[g]?).bind (·.dst) with
  |none=>simp
  |some t=>
   simp only [Option.bind_some]
   have hl:t∈Z1z ops.toList o:=by simp [Z1z,hg,e1,ht]
   cases hv:get env t with
   |none=>simp
   |some v=>
    have hr:=he t hl v hv
    refine ⟨λh=>?_,λh=>?_⟩
    ·split at h
     ·rename_i x heq
      cases heq
      have:=Z4m (R.Q1z (show R U c (.val (.bool x)) _ from hr))
      rw [this]
      cases x <;> cases b <;> simp at h ⊢
     ·cases h
     ·cases h
    ·split at h
     ·rename_i x heq
      cases heq
      have:=Z4m (R.Q1z (show R U c (.val (.bool x)) _ from hr))
      rw [this]
      cases x <;> cases b <;> simp at h ⊢
     ·rename_i heq
      cases heq
      obtain ⟨vs,h1,h2,h3⟩:=hr
      have:=Z6J h1
      split
      ·rename_i b' hb';exact absurd hb' (this b')
      ·rfl
     ·cases h
end
end Go.Rf
namespace Go.Rf
set_option linter.unusedVariables false
set_option linter.unusedSimpArgs false
variable {U : QV} {P : Program} {Γ : Nat -> Option (Native U)} {ro : Nat} {dr : Bool}
section
variable {ops : Array Oper} {ms : List Nat} {st0 : St U} {X : Nat -> Out U} {T : Nat -> St U}
variable {c0 : Cx} {Φ0 : Nat -> Nat -> Nat -> Prop} {h0 : Qr U} {nx0 : Nat} {w0 : World}
abbrev Q6E (U:QV) (ro:Nat) (c0:Cx) (Φ0:Nat->Nat->Nat->Prop) (h0:Qr U) (nx0:Nat) (w0:World):Cx->(Nat->Nat->Nat->Prop)->Qr U->World->Prop:=
 λc Φ h w=>Ext U ro c0 Φ0 h0 nx0 w0 c Φ h w
theorem Q5u.put (hR:Reg U P Γ ro dr ops ms st0 X T) (hn:nx0<=st0.nx) {L:List Nat} {c:Cx} {Φ:Nat->Nat->Nat->Prop} {a:Act} {w:World} (hI:Q5u U ops st0 X T (Q6E U ro c0 Φ0 h0 nx0 w0) L c Φ a w)
  {j:Nat} {o:Oper} (ho:ops[j]? =some o) {c':Cx} {Φ':Nat->Nat->Nat->Prop} {u:Value} {w':World} (hS:QB U c Φ (hL X st0 L) (T j).nx (X j) w c' Φ' u w'):
  Q5u U ops st0 X T (Q6E U ro c0 Φ0 h0 nx0 w0) (j::L) c' Φ' (a.put o.dst u) w':=by
 have hj:j < ops.size:=(Array.getElem?_eq_some_iff.1 ho).1
 have hnj:=Q7z hR j (by omega)
 refine ⟨?_,?_,λt v hv=>?_,hS.g,λs hs hall=>?_,hI.b.step hS (hR.wr j o ho) (by omega)⟩
 ·cases o.dst <;> simp [Act.put,hI.size]
 ·cases o.dst <;> simp [Act.put,hI.defers]
 ·have hd:Z1C ops j=o.dst:=by simp [Z1C,ho]
  unfold Q6h at hv
  rw [List.findSome?_cons] at hv
  simp only [wE,hd] at hv
  cases hdst:o.dst with
  |none=>
   simp only [hdst] at hv
   exact (hI.env t v hv).mono hS.le
  |some d=>
   simp only [hdst] at hv
   have hlt:d < a.tmps.size:=by
    have:=hR.dst j o ho
    rw [hdst] at this
    have:=Nat.le_of_ble_eq_true (show Nat.ble (d+1) (T j).n=true from this)
    rw [Z7z hR j (by omega)] at this
    have h2:=hI.size
    exact h2▸this
   by_cases e:d=t
   ·subst e
    simp at hv
    subst hv
    rw [Z4d hlt]
    exact hS.val
   ·rw [if_neg (λh=>e (Option.some.inj h))] at hv
    rw [Z52 e]
    exact (hI.env t v hv).mono hS.le
 ·have h1:=hall j (List.mem_cons_self ..)
  obtain ⟨h2,h3⟩:=hI.fresh s hs λi hi=>hall i (List.mem_cons_of_mem _ hi)
  have hnm:s∉(X j).w.map (·.1):=λhm=>by
   rcases hS.names s hm with h4|h4
   ·exact h1 h4
   ·rw [h2] at h4;cases h4
  refine ⟨?_,λk=>(hS.L s k h1 λhh=>hnm hh.2).trans (h3 k)⟩
  show get ((X j).w++hL X st0 L) s=none
  rw [Zh]
  by_cases hm:s∈(X j).w.map (·.1)
  ·rcases hS.names s hm with h4|h4
   ·exact absurd h4 h1
   ·rw [h2] at h4;cases h4
  ·rw [Zg hm];exact h2
theorem Q9B (hU:U.Ok) (hΓ:ZM U P Γ) (hR:Reg U P Γ ro dr ops ms st0 X T) (hn:nx0<=st0.nx) {L:List Nat} {c:Cx} {Φ:Nat->Nat->Nat->Prop} {a:Act} {w:World}
  (hI:Q5u U ops st0 X T (Q6E U ro c0 Φ0 h0 nx0 w0) L c Φ a w) {j:Nat} {o:Oper} (ho:ops[j]? =some o) (hjL:j∉L) (hLn:∀i∈L,i < ops.size) (hA:Agree ops st0 X L j o)
  {K:Act->World->Prop} {Q:Exit->Act->World->Prop} (hK:∀c' Φ' a' w',Q5u U ops st0 X T (Q6E U ro c0 Φ0 h0 nx0 w0) (j::L) c' Φ' a' w'->K a' w'):wpOp P ops Q j K a w:=by
 have hj:j < ops.size:=(Array.getElem?_eq_some_iff.1 ho).1
 unfold wpOp
 rw [ho]
 show (if Region.wanted o (yielded ops a.tmps)=true then Oper.wp P o a w K Q\/Oper.asks P o a w/\LetsOut Q else K (a.put o.dst undef) w)
 have henv:∀t,t∈Z1z ops.toList o->∀v,get (T j).env t=some v->RA U c v (a.eval (.tmp t)):=λt ht v hv=>by
  rw [Z5n hR t j (by omega),←hA.env t ht] at hv
  exact hI.env t v hv
 have hw:=Z6s (ops:=ops) (a:=a) (o:=o) henv
 rcases hR.run j o ho with ⟨h1,h2⟩|⟨h1,h2⟩
 ·rw [if_pos (hw.1 h1)]
  refine .inl ?_
  have hD:=Z8f (nx:=(T j).nx) (h:=hL X st0 L) hU hΓ h2 (λs hs=>by rw [Z65 hR j (by omega)];exact hA.heap s hs) hI.g
   (λs h3 h4=>hI.fresh s (by have:=Q7z hR j (by omega);omega) λi hi h5=>by
    have hne:i≠j:=λe=>hjL (e▸hi)
    have hil:=hLn i hi
    rcases Nat.lt_or_gt_of_ne hne with h6|h6
    ·have:=Z4N hR j h6 (by omega);omega
    ·have:=Z4N hR i h6 (by omega);omega)
   (λx hx v hv=>by
    cases x with
    |tmp t=>
     refine henv t ?_ v hv
     unfold Z1z
     exact List.mem_append_left _ (List.mem_filterMap.2 ⟨.tmp t,hx,rfl⟩)
    |const k=>exact Z3Y hv
    |func f=>cases hv;exact R.val rfl
    |global g=>cases hv)
  exact hD.wp λu w' ⟨c',Φ',hS⟩=>hK _ _ _ _ (hI.put hR hn ho hS)
 ·rw [if_neg (by rw [hw.2 h1];simp)]
  exact hK _ _ _ _ (hI.put hR hn ho (by rw [h2];exact QB.pure hI.g RA.undef))
structure SOK (U:QV) (c:Cx) (Φ:Nat->Nat->Nat->Prop) (st:St U) (a:Act) (w:World):Prop where
 size:a.tmps.size=st.n
 defers:a.defers= []
 env:∀t v,get st.env t=some v->RA U c v (a.eval (.tmp t))
 g:G U c Φ st.h w
 fresh:∀s,st.nx<=s->get st.h s=none/\∀k,c.L s k=none
theorem Q5u.start {c:Cx} {Φ:Nat->Nat->Nat->Prop} {a:Act} {w:World} (hS:SOK U c Φ st0 a w) (hB:Ext U ro c0 Φ0 h0 nx0 w0 c Φ st0.h w):Q5u U ops st0 X T (Q6E U ro c0 Φ0 h0 nx0 w0) [] c Φ a w where
 size:=hS.size
 defers:=hS.defers
 env t v hv:=hS.env t v hv
 g:=hS.g
 fresh s hs _:=hS.fresh s hs
 b:=hB
theorem Q5u.finish (hR:Reg U P Γ ro dr ops ms st0 X T) {L:List Nat} {c:Cx} {Φ:Nat->Nat->Nat->Prop} {a:Act} {w:World} (hI:Q5u U ops st0 X T (Q6E U ro c0 Φ0 h0 nx0 w0) L c Φ a w)
  (hLn:∀i∈L,i < ops.size) (he:∀t,Q6h ops X st0 L t=Q6h ops X st0 (down ops.size) t) (hh:∀s,get (hL X st0 L) s=get (hL X st0 (down ops.size)) s):
  SOK U c Φ (T ops.size) a w/\Ext U ro c0 Φ0 h0 nx0 w0 c Φ (T ops.size).h w:=by
 have e1:=Z65 hR ops.size (Nat.le_refl _)
 refine ⟨⟨by rw [hI.size,Z7z hR _ (Nat.le_refl _)],hI.defers,λt v hv=>?_,by rw [e1];exact hI.g.congr λs=>(hh s).symm,λs hs=>?_⟩,by rw [e1];exact hI.b.less λs hs=>by rw [hh s];exact hs⟩
 ·rw [Z5n hR t _ (Nat.le_refl _),←he t] at hv
  exact hI.env t v hv
 ·rw [e1,←hh s]
  refine hI.fresh s (by have:=Q7z hR ops.size (Nat.le_refl _);omega) λi hi h1=>?_
  have:=Z4N hR ops.size (hLn i hi) (Nat.le_refl _)
  omega
theorem Z8e (hU:U.Ok) (hΓ:ZM U P Γ) (hR:Reg U P Γ ro dr ops ms st0 X T) (hn:nx0<=st0.nx) {Q:Exit->Act->World->Prop}
  (hQ:∀c' Φ' a' w',SOK U c' Φ' (T ops.size) a' w'->Ext U ro c0 Φ0 h0 nx0 w0 c' Φ' (T ops.size).h w'->Q .normal a' w'):
  ∀(k j:Nat) (c:Cx) (Φ:Nat->Nat->Nat->Prop) (a:Act) (w:World),j+k=ops.size->Q5u U ops st0 X T (Q6E U ro c0 Φ0 h0 nx0 w0) (down j) c Φ a w->wpOps P ops Q (List.range' j k) a w
 |0,j,c,Φ,a,w,hk,hI=>by
  have hj:j=ops.size:=by omega
  subst hj
  obtain ⟨h1,h2⟩:=hI.finish hR (λi hi=>Z1X.1 hi) (λ_=>rfl) (λ_=>rfl)
  exact hQ _ _ _ _ h1 h2
 |k+1,j,c,Φ,a,w,hk,hI=>by
  have ho:ops[j]? =some ops[j]:=Array.getElem?_eq_getElem (by omega)
  rw [List.range'_succ,wpOps_cons]
  refine Q9B hU hΓ hR hn hI ho (λh=>by have:=Z1X.1 h;omega) (λi hi=>by have:=Z1X.1 hi;omega) ⟨λ_ _=>rfl,λ_ _=>rfl⟩ λc' Φ' a' w' hI'=>?_
  rw [←Z39] at hI'
  exact Z8e hU hΓ hR hn hQ k (j+1) c' Φ' a' w' (by omega) hI'
end
end Go.Rf
namespace Go.Rf
set_option linter.unusedVariables false
set_option linter.unusedSimpArgs false
variable {U : QV} {P : Program} {Γ : Nat -> Option (Native U)} {ro : Nat} {dr : Bool}
theorem Z5A (ms:List Nat):∀(l:List Edge) (m i:Nat),((l.foldl (λm e=>bif Region.binds .any e then m|||2^e.on|||ms.getD e.on 0 else m) m).testBit i=true)->
  m.testBit i=true\/∃e∈l,Region.binds .any e=true/\(i=e.on\/(ms.getD e.on 0).testBit i=true)
 | [],m,i,h=>.inl h
 |e::l,m,i,h=>by
  rw [List.foldl_cons] at h
  rcases Z5A ms l _ i h with h1|⟨e',h1,h2⟩
  ·cases hb:Region.binds .any e with
   |false=>rw [hb] at h1;exact .inl h1
   |true=>
    rw [hb] at h1
    simp only [cond_true,Nat.testBit_or,Bool.or_eq_true,Nat.testBit_two_pow,decide_eq_true_eq] at h1
    rcases h1 with (h1|h1)|h1
    ·exact .inl h1
    ·exact .inr ⟨e,List.mem_cons_self ..,hb,.inl h1.symm⟩
    ·exact .inr ⟨e,List.mem_cons_self ..,hb,.inr h1⟩
  ·exact .inr ⟨e',List.mem_cons_of_mem _ h1,h2⟩
theorem Z5Q:∀(rest:List Oper) (ms0:List Nat),∃r,Q3S rest ms0=ms0++r/\∀(k:Nat) o,rest[k]? =some o->(ms0++r).getD (ms0.length+k) 0=mask ((ms0++r).take (ms0.length+k)) o
 | [],ms0=>⟨[],by simp [Q3S],λk o hk=>by simp at hk⟩
 |x::rest,ms0=>by
  obtain ⟨r,h1,h2⟩:=Z5Q rest (ms0++ [mask ms0 x])
  refine ⟨mask ms0 x::r,by rw [Q3S,h1];simp,λk o hk=>?_⟩
  have e:ms0++ [mask ms0 x]++r=ms0++mask ms0 x::r:=by simp
  rw [e] at h2
  cases k with
  |zero=>
   simp at hk;subst hk
   simp [List.getD]
  |succ k=>
   simp at hk
   have:=h2 k o hk
   rw [List.length_append,List.length_singleton,Nat.add_assoc,Nat.add_comm 1 k] at this
   exact this
theorem Z8K {ops:Array Oper} {j:Nat} {o:Oper} (ho:ops[j]? =some o) (he:Z2g j o=true) {i:Nat} (hb:((Q3S ops.toList []).getD j 0).testBit i=true):
  ∃e∈o.after.toList,Region.binds .any e=true/\e.on < j/\(i=e.on\/((Q3S ops.toList []).getD e.on 0).testBit i=true):=by
 obtain ⟨r,h1,h2⟩:=Z5Q ops.toList []
 simp only [List.nil_append,List.length_nil,Nat.zero_add] at h1 h2
 rw [h1] at hb ⊢
 rw [h2 j o (by rw [Array.getElem?_toList];exact ho)] at hb
 unfold mask at hb
 rcases Z5A _ _ _ _ hb with h3|⟨e,h3,h4,h5⟩
 ·simp at h3
 ·have hlt:e.on < j:=by
   unfold Z2g at he
   rw [List.all_eq_true] at he
   have:=he e h3
   rw [h4] at this
   simp at this
   exact this
  refine ⟨e,h3,h4,hlt,?_⟩
  rcases h5 with h5|h5
  ·exact .inl h5
  ·refine .inr ?_
   have:(r.take j).getD e.on 0=r.getD e.on 0:=by simp [List.getD,List.getElem?_take,hlt]
   rwa [this] at h5
theorem Q8x:∀(n:Nat) (L:List Nat),L.Nodup->(∀i∈L,i < n)->L.length<=n/\(L.length=n->∀i,i < n->i∈L)
 |0,L,_,h=>by
  cases L with
  |nil=>exact ⟨Nat.le_refl _,λ_ i hi=>by omega⟩
  |cons x L=>have:=h x (List.mem_cons_self ..);omega
 |n+1,L,hd,h=>by
  by_cases hm:n∈L
  ·obtain ⟨h1,h2⟩:=Q8x n (L.erase n) (hd.erase n) λi hi=>by
    have h3:=h i (List.mem_of_mem_erase hi)
    have h4:i≠n:=λe=>by subst e;exact (hd.mem_erase_iff.1 hi).1 rfl
    omega
   rw [List.length_erase_of_mem hm] at h1 h2
   have hpos:0 < L.length:=List.length_pos_of_mem hm
   refine ⟨by omega,λhl i hi=>?_⟩
   by_cases e:i=n
   ·subst e;exact hm
   ·exact List.mem_of_mem_erase (h2 (by omega) i (by omega))
  ·obtain ⟨h1,h2⟩:=Q8x n L hd λi hi=>by
    have:=h i hi
    have:i≠n:=λe=>hm (e▸hi)
    omega
   exact ⟨by omega,λhl=>by omega⟩
theorem Z2k {t:Nat} {l:List Nat}:mem t l=true↔t∈l:=by
 unfold mem
 rw [List.any_eq_true]
 constructor
 ·rintro ⟨x,h1,h2⟩;rw [QH h2];exact h1
 ·intro h;exact ⟨t,h,by simp⟩
theorem Z32 {a b:List Nat} {t:Nat} (ha:t∈a) (hb:t∈b):meets a b=true:=by
 unfold meets
 rw [List.any_eq_true]
 exact ⟨t,ha,Z2k.2 hb⟩
section
variable {ops : Array Oper} {st0 : St U} {X : Nat -> Out U} {T : Nat -> St U}
variable {c0 : Cx} {Φ0 : Nat -> Nat -> Nat -> Prop} {h0 : Qr U} {nx0 : Nat} {w0 : World}
def Con (ops:Array Oper) (i j:Nat):Prop:=(i < j->((Q3S ops.toList []).getD j 0).testBit i=true)/\(j < i->((Q3S ops.toList []).getD i 0).testBit j=true)
theorem Q9F (hR:Reg U P Γ ro true ops (Q3S ops.toList []) st0 X T) {i j:Nat} {oi oj:Oper} (hi:ops[i]? =some oi) (hj:ops[j]? =some oj)
  (h:Q4k (info ops.toList oi (X i)) (info ops.toList oj (X j))=true) (h':Q4k (info ops.toList oj (X j)) (info ops.toList oi (X i))=true):Con ops i j:=
 ⟨λhlt=>hR.Q4k rfl j oj i oi hj hi hlt h,λhlt=>hR.Q4k rfl i oi j oj hi hj hlt h'⟩
theorem Z6m (hR:Reg U P Γ ro true ops (Q3S ops.toList []) st0 X T) {i j t:Nat} {oj:Oper} (hi:Z1C ops i=some t) (hj:ops[j]? =some oj) (h:t∈Z1z ops.toList oj\/Z1C ops j=some t):Con ops i j:=by
 cases hoi:ops[i]? with
 |none=>simp [Z1C,hoi] at hi
 |some oi=>
  have e1:oi.dst=some t:=by simpa [Z1C,hoi] using hi
  have e2:Z1C ops j=oj.dst:=by simp [Z1C,hj]
  rw [e2] at h
  refine Q9F hR hoi hj ?_ ?_
  ·rcases h with h|h
   ·have:Q7h oi.dst (Z1z ops.toList oj)=true:=by rw [e1];exact Z2k.2 h
    simp [Q4k,info,this]
   ·have:Q7h oi.dst oj.dst.toList=true:=by rw [e1,h];exact Z2k.2 (by simp)
    simp [Q4k,info,this]
  ·rcases h with h|h
   ·have:Q7h oi.dst (Z1z ops.toList oj)=true:=by rw [e1];exact Z2k.2 h
    simp [Q4k,info,this]
   ·have:Q7h oj.dst oi.dst.toList=true:=by rw [e1,h];exact Z2k.2 (by simp)
    simp [Q4k,info,this]
theorem Z5p (hR:Reg U P Γ ro true ops (Q3S ops.toList []) st0 X T) {i j s:Nat} {oi oj:Oper} (hoi:ops[i]? =some oi) (hj:ops[j]? =some oj) (hi:s∈(X i).w.map (·.1)) (h:s∈(X j).rd\/s∈(X j).w.map (·.1)):Con ops i j:=by
 refine Q9F hR hoi hj ?_ ?_
 ·rcases h with h|h
  ·have:=Z32 hi h;simp [Q4k,info,this]
  ·have:=Z32 hi h;simp [Q4k,info,this]
 ·rcases h with h|h
  ·have:=Z32 h hi;simp [Q4k,info,this]
  ·have:=Z32 h hi;simp [Q4k,info,this]
structure Q7p (ops:Array Oper) (L:List Nat) (Q26:Array Bool):Prop where
 nodup:L.Nodup
 lt:∀i∈L,i < ops.size
 Q26:∀i,i < ops.size->Q26[i]? =some (decide (i∈L))
 closed:∀k∈L,∀i,((Q3S ops.toList []).getD k 0).testBit i=true->i∈L
 ord:L.Pairwise λk i=>Con ops i k->i < k
theorem Z1x {p:Nat->Bool} (hp:∀i k,p i=true->p k=true->Con ops i k):∀(L:List Nat),L.Pairwise (λk i=>Con ops i k->i < k)->(L.filter p).Pairwise (· > ·)
 | [],_=>by simp
 |k::L,h=>by
  rw [List.pairwise_cons] at h
  rw [List.filter_cons]
  have ih:=Z1x hp L h.2
  split
  ·rename_i hk
   rw [List.pairwise_cons]
   refine ⟨λi hi=>?_,ih⟩
   rw [List.mem_filter] at hi
   exact h.1 i hi.1 (hp i k hi.2 hk)
  ·exact ih
theorem Z2t {Q26:Array Bool} {j:Nat}:j∈Region.ready .any ops Q26↔j < ops.size/\Q26.getD j true=false/\∃o,ops[j]? =some o/\∀e∈o.after.toList,Region.binds .any e=true->Q26.getD e.on false=true:=by
 unfold Region.ready
 rw [List.mem_filter,List.mem_range]
 constructor
 ·rintro ⟨h1,h2⟩
  have ho:ops[j]? =some ops[j]:=Array.getElem?_eq_getElem h1
  rw [Bool.and_eq_true] at h2
  refine ⟨h1,by simpa using h2.1,ops[j],ho,λe he hb=>?_⟩
  have h3:=h2.2
  rw [ho] at h3
  simp only [Option.map_some,Option.getD_some] at h3
  rw [Array.all_toList.symm,List.all_eq_true] at h3
  have:=h3 e he
  rw [hb] at this
  simpa using this
 ·rintro ⟨h1,h2,o,ho,h3⟩
  refine ⟨h1,?_⟩
  rw [Bool.and_eq_true]
  refine ⟨by simp [h2],?_⟩
  rw [ho]
  simp only [Option.map_some,Option.getD_some]
  rw [Array.all_toList.symm,List.all_eq_true]
  intro e he
  cases hb:Region.binds .any e with
  |false=>rfl
  |true=>rw [h3 e he hb];rfl
end
end Go.Rf
namespace Go.Rf
set_option linter.unusedVariables false
set_option linter.unusedSimpArgs false
variable {U : QV} {P : Program} {Γ : Nat -> Option (Native U)} {ro : Nat} {dr : Bool}
section
variable {ops : Array Oper} {st0 : St U} {X : Nat -> Out U} {T : Nat -> St U}
variable {c0 : Cx} {Φ0 : Nat -> Nat -> Nat -> Prop} {h0 : Qr U} {nx0 : Nat} {w0 : World}
theorem Q7v {t i:Nat} (h:(wE ops X t i).isSome):Z1C ops i=some t/\i < ops.size:=by
 unfold wE at h
 by_cases hd:Z1C ops i=some t
 ·refine ⟨hd,?_⟩
  cases ho:ops[i]? with
  |none=>simp [Z1C,ho] at hd
  |some o=>exact (Array.getElem?_eq_some_iff.1 ho).1
 ·rw [if_neg hd] at h;cases h
theorem side (hR:Reg U P Γ ro true ops (Q3S ops.toList []) st0 X T) {L:List Nat} {Q26:Array Bool} (hD:Q7p ops L Q26) {j:Nat} (hj:j∈Region.ready .any ops Q26):
  j∉L/\(∀i,i < ops.size->i≠j->Con ops i j->(i∈L↔i < j))/\(∀i,((Q3S ops.toList []).getD j 0).testBit i=true->i∈L):=by
 obtain ⟨h1,h2,o,ho,h3⟩:=Z2t.1 hj
 have hjL:j∉L:=λhm=>by
  have:=hD.Q26 j h1
  rw [Array.getD_eq_getD_getElem?,this] at h2
  simp [hm] at h2
 have hbits:∀i,((Q3S ops.toList []).getD j 0).testBit i=true->i∈L:=λi hi=>by
  obtain ⟨e,he,hb,hlt,h4⟩:=Z8K ho (hR.edge rfl j o ho) hi
  have h5:=h3 e he hb
  have h6:=hD.Q26 e.on (by omega)
  rw [Array.getD_eq_getD_getElem?,h6] at h5
  have h7:e.on∈L:=by simpa using h5
  rcases h4 with rfl|h4
  ·exact h7
  ·exact hD.closed e.on h7 i h4
 refine ⟨hjL,λi hi hne hc=>⟨λhm=>?_,λhlt=>hbits i (hc.1 hlt)⟩,hbits⟩
 rcases Nat.lt_or_gt_of_ne hne with h4|h4
 ·exact h4
 ·exact absurd (hD.closed i hm j (hc.2 h4)) hjL
theorem Q7p.push (hR:Reg U P Γ ro true ops (Q3S ops.toList []) st0 X T) {L:List Nat} {Q26:Array Bool} (hD:Q7p ops L Q26) {j:Nat} (hj:j∈Region.ready .any ops Q26):
  Q7p ops (j::L) (Q26.setIfInBounds j true):=by
 obtain ⟨h1,h2,h3⟩:=side hR hD hj
 have hlt:=(Z2t.1 hj).1
 refine ⟨List.nodup_cons.2 ⟨h1,hD.nodup⟩,λi hi=>?_,λi hi=>?_,λk hk i hi=>?_,?_⟩
 ·rcases List.mem_cons.1 hi with rfl|hi
  ·exact hlt
  ·exact hD.lt i hi
 ·by_cases e:j=i
  ·subst e
   have:=hD.Q26 j hi
   have hsz:j < Q26.size:=(Array.getElem?_eq_some_iff.1 this).1
   simp [Array.getElem?_setIfInBounds,hsz]
  ·rw [Array.getElem?_setIfInBounds_ne e,hD.Q26 i hi]
   congr 1
   have e':¬i=j:=λh=>e h.symm
   simp [e']
 ·rcases List.mem_cons.1 hk with rfl|hk
  ·exact List.mem_cons_of_mem _ (h3 i hi)
  ·exact List.mem_cons_of_mem _ (hD.closed k hk i hi)
 ·rw [List.pairwise_cons]
  refine ⟨λi hi hc=>?_,hD.ord⟩
  exact (h2 i (hD.lt i hi) (λe=>h1 (e▸hi)) hc).1 hi
theorem QaX (hR:Reg U P Γ ro true ops (Q3S ops.toList []) st0 X T) {L:List Nat} {Q26:Array Bool} (hD:Q7p ops L Q26) (h:Region.ready .any ops Q26= []):∀i,i < ops.size->i∈L:=by
 intro i
 induction i using Nat.strongRecOn with
 |_ i ih=>
  intro hi
  rcases Decidable.em (i∈L) with hm|hm
  ·exact hm
  ·exfalso
   have ho:ops[i]? =some ops[i]:=Array.getElem?_eq_getElem hi
   have:i∈Region.ready .any ops Q26:=by
    refine Z2t.2 ⟨hi,?_,ops[i],ho,λe he hb=>?_⟩
    ·rw [Array.getD_eq_getD_getElem?,hD.Q26 i hi];simp [hm]
    ·have hlt:e.on < i:=by
      have:=hR.edge rfl i _ ho
      unfold Z2g at this
      rw [List.all_eq_true] at this
      have:=this e he
      rw [hb] at this
      simp at this
      exact this
     rw [Array.getD_eq_getD_getElem?,hD.Q26 e.on (by omega)]
     simpa using ih e.on hlt (by omega)
   rw [h] at this;cases this
theorem Z8T (hU:U.Ok) (hΓ:ZM U P Γ) (hR:Reg U P Γ ro true ops (Q3S ops.toList []) st0 X T) (hn:nx0<=st0.nx) {Q:Exit->Act->World->Prop}
  (hQ:∀c' Φ' a' w',SOK U c' Φ' (T ops.size) a' w'->Ext U ro c0 Φ0 h0 nx0 w0 c' Φ' (T ops.size).h w'->Q .normal a' w'):
  ∀(fuel:Nat) (L:List Nat) (Q26:Array Bool) (c:Cx) (Φ:Nat->Nat->Nat->Prop) (a:Act) (w:World),fuel+L.length=ops.size->Q7p ops L Q26->
   Q5u U ops st0 X T (Q6E U ro c0 Φ0 h0 nx0 w0) L c Φ a w->wpAny P .any ops Q fuel Q26 a w:=by
 have hfin:∀(L:List Nat) (Q26:Array Bool) (c:Cx) (Φ:Nat->Nat->Nat->Prop) (a:Act) (w:World),Q7p ops L Q26->(∀i,i < ops.size->i∈L)->
   Q5u U ops st0 X T (Q6E U ro c0 Φ0 h0 nx0 w0) L c Φ a w->Q .normal a w:=by
  intro L Q26 c Φ a w hD hall hI
  obtain ⟨h1,h2⟩:=hI.finish hR hD.lt (λt=>by
    unfold Q6h
    rw [Z5b (j:=ops.size) (Z1x (λi k hi hk=>?_) L hD.ord) (λi hi=>⟨hD.lt i,hall i⟩)]
    obtain ⟨h3,h4⟩:=Q7v hi
    obtain ⟨h5,h6⟩:=Q7v hk
    exact Z6m hR h3 (Array.getElem?_eq_getElem h6) (.inr h5)) (λs=>by
    rw [Z5O,Z5O]
    rw [ZL (wH X s) L,ZL (wH X s) (down ops.size)]
    have:(L.filter λi=>(wH X s i).isSome)=(down ops.size).filter λi=>(wH X s i).isSome:=by
     have hs:(L.filter λi=>decide (i < ops.size) && (wH X s i).isSome).Pairwise (· > ·):=Z1x (λi k hi hk=>by
      rw [Bool.and_eq_true] at hi hk
      have hi1:i < ops.size:=of_decide_eq_true hi.1
      have hk1:k < ops.size:=of_decide_eq_true hk.1
      obtain ⟨ei,hei⟩:=Option.isSome_iff_exists.1 hi.2
      obtain ⟨ek,hek⟩:=Option.isSome_iff_exists.1 hk.2
      exact Z5p hR (Array.getElem?_eq_getElem hi1) (Array.getElem?_eq_getElem hk1) (Z2L hei) (.inr (Z2L hek))) L hD.ord
     have e:(L.filter λi=>decide (i < ops.size) && (wH X s i).isSome)=L.filter λi=>(wH X s i).isSome:=by
      refine List.filter_congr λi hi=>?_
      simp [hD.lt i hi]
     rw [e] at hs
     refine Z3a _ _ hs ((Z2n _).filter _) λi=>?_
     simp only [List.mem_filter,Z1X]
     exact ⟨λ⟨h1,h2⟩=>⟨hD.lt i h1,h2⟩,λ⟨h1,h2⟩=>⟨hall i h1,h2⟩⟩
    rw [this])
  exact hQ _ _ _ _ h1 h2
 intro fuel
 induction fuel with
 |zero=>
  intro L Q26 c Φ a w hf hD hI
  have hall:=(Q8x ops.size L hD.nodup hD.lt).2 (by omega)
  refine ⟨?_,hfin L Q26 c Φ a w hD hall hI⟩
  cases hr:Region.ready .any ops Q26 with
  |nil=>rfl
  |cons i l=>
   have hm:i∈Region.ready .any ops Q26:=by rw [hr];exact List.mem_cons_self ..
   exact absurd (hall i (Z2t.1 hm).1) (side hR hD hm).1
 |succ fuel ih=>
  intro L Q26 c Φ a w hf hD hI
  refine ⟨λhr=>hfin L Q26 c Φ a w hD (QaX hR hD hr) hI,λj hj=>?_⟩
  obtain ⟨h1,h2,h3⟩:=side hR hD hj
  obtain ⟨hlt,_,o,ho,_⟩:=Z2t.1 hj
  refine Q9B hU hΓ hR hn hI ho h1 hD.lt ⟨λt ht=>?_,λs hs=>?_⟩ λc' Φ' a' w' hI'=>ih (j::L) _ c' Φ' a' w' (by simp;omega) (hD.push hR hj) hI'
  ·unfold Q6h
   rw [Z5b (j:=j) (Z1x (λi k hi hk=>?_) L hD.ord) (λi hi=>?_)]
   ·obtain ⟨h3,h4⟩:=Q7v hi
    obtain ⟨h5,h6⟩:=Q7v hk
    exact Z6m hR h3 (Array.getElem?_eq_getElem h6) (.inr h5)
   ·obtain ⟨h4,h5⟩:=Q7v hi
    by_cases e:i=j
    ·subst e;exact ⟨λh=>absurd h h1,λh=>by omega⟩
    ·exact h2 i h5 e (Z6m hR h4 ho (.inl ht))
  ·rw [Z5O,Z5O]
   rw [ZL (wH X s) L,ZL (wH X s) (down j)]
   have:(L.filter λi=>(wH X s i).isSome)=(down j).filter λi=>(wH X s i).isSome:=by
    have hs':(L.filter λi=>decide (i < ops.size) && (wH X s i).isSome).Pairwise (· > ·):=Z1x (λi k hi hk=>by
     rw [Bool.and_eq_true] at hi hk
     have hi1:i < ops.size:=of_decide_eq_true hi.1
     have hk1:k < ops.size:=of_decide_eq_true hk.1
     obtain ⟨ei,hei⟩:=Option.isSome_iff_exists.1 hi.2
     obtain ⟨ek,hek⟩:=Option.isSome_iff_exists.1 hk.2
     exact Z5p hR (Array.getElem?_eq_getElem hi1) (Array.getElem?_eq_getElem hk1) (Z2L hei) (.inr (Z2L hek))) L hD.ord
    have e:(L.filter λi=>decide (i < ops.size) && (wH X s i).isSome)=L.filter λi=>(wH X s i).isSome:=by
     refine List.filter_congr λi hi=>?_
     simp [hD.lt i hi]
    rw [e] at hs'
    refine Z3a _ _ hs' ((Z2n _).filter _) λi=>?_
    simp only [List.mem_filter,Z1X]
    have hside:i < ops.size->(wH X s i).isSome=true->(i∈L↔i < j):=λh5 h4=>by
     obtain ⟨ei,hei⟩:=Option.isSome_iff_exists.1 h4
     by_cases e:i=j
     ·subst e;exact ⟨λh=>absurd h h1,λh=>by omega⟩
     ·exact h2 i h5 e (Z5p hR (Array.getElem?_eq_getElem h5) ho (Z2L hei) hs)
    exact ⟨λ⟨h5,h6⟩=>⟨(hside (hD.lt i h5) h6).1 h5,h6⟩,λ⟨h5,h6⟩=>⟨(hside (by omega) h6).2 h5,h6⟩⟩
   rw [this]
end
end Go.Rf
namespace Go.Rf
set_option linter.unusedVariables false
set_option linter.unusedSimpArgs false
variable {U : QV} {P : Program} {Γ : Nat -> Option (Native U)} {ro : Nat}
section
variable {c0 : Cx} {Φ0 : Nat -> Nat -> Nat -> Prop} {h0 : Qr U} {nx0 : Nat} {w0 : World}
theorem SOK.drew (hU:U.Ok) {c:Cx} {Φ:Nat->Nat->Nat->Prop} {st:St U} {a:Act} {w:World} (h:SOK U c Φ st a w):SOK U c Φ st a { w with drawn:=w.drawn+1}:=
 ⟨h.size,h.defers,h.env,h.g.drew hU,h.fresh⟩
theorem Z33 (hU:U.Ok) (hΓ:ZM U P Γ) (hm:P.follows .mixedOrders=true) {ρ:Type} {S:ρ->Prop} {J:Bool->ρ->ρ->ρ} {fail:ρ} (hf:¬S fail) (hJ:∀b x y,S (J b x y)->S (bif b then x else y))
  {id:Nat} {ops:Array Oper} {dr:Bool} {st:St U} {K:St U->ρ} (h:S (Z12 P Γ ro dr ops.toList (bif dr then Q3S ops.toList [] else []) J fail ops.toList 0 [] st K))
  {c:Cx} {Φ:Nat->Nat->Nat->Prop} {a:Act} {w:World} (hn:nx0<=st.nx) (hS:SOK U c Φ st a w) (hE:Ext U ro c0 Φ0 h0 nx0 w0 c Φ st.h w) {Q:Exit->Act->World->Prop}
  (hQ:∀st' c' Φ' a' w',S (K st')->nx0<=st'.nx->SOK U c' Φ' st' a' w'->Ext U ro c0 Φ0 h0 nx0 w0 c' Φ' st'.h w'->Q .normal a' w'):(Code.region id ops dr).wp P Q a w:=by
 obtain ⟨outs,st',hT,hSK⟩:=Z2Y hf hJ _ _ _ _ _ h
 obtain ⟨X,T,hR,hTn⟩:=hT.reg
 have hnx:nx0<=st'.nx:=by rw [←hTn];exact Nat.le_trans hn (Q7z hR _ (Nat.le_refl _))
 have hfin:∀c' Φ' a' w',SOK U c' Φ' (T ops.size) a' w'->Ext U ro c0 Φ0 h0 nx0 w0 c' Φ' (T ops.size).h w'->Q .normal a' w':=by
  rw [hTn];exact λc' Φ' a' w' h1 h2=>hQ st' c' Φ' a' w' hSK hnx h1 h2
 cases dr with
 |false=>
  refine wp_region ?_
  have:=Z8e hU hΓ hR hn hfin ops.size 0 c Φ a w (by omega) (Q5u.start hS hE)
  rwa [List.range_eq_range']
 |true=>
  simp only [cond_true] at hR
  refine wp_region_any hm (Z8T hU hΓ hR hn hfin ops.size [] _ c Φ a _ (by simp) ⟨List.nodup_nil,λi hi=>(nomatch hi),λi hi=>?_,λk hk=>(nomatch hk),List.Pairwise.nil⟩ (Q5u.start (hS.drew hU) hE.drew))
  simp [hi]
end
structure Imp (U:QV) (st st':St U):Prop where
 sok:∀c Φ a w,SOK U c Φ st a w->SOK U c Φ st' a w
 less:∀s,(get st'.h s).isSome->(get st.h s).isSome
 nx:st.nx<=st'.nx
theorem Imp.refl (st:St U):Imp U st st:=⟨λ_ _ _ _ h=>h,λ_ h=>h,Nat.le_refl _⟩
theorem Imp.trans {x y z:St U} (h:Imp U x y) (h':Imp U y z):Imp U x z:=
 ⟨λc Φ a w hs=>h'.sok c Φ a w (h.sok c Φ a w hs),λs hs=>h.less s (h'.less s hs),Nat.le_trans h.nx h'.nx⟩
def Q5d (U:QV) (e e':Ent U):Prop:=∀c w s F,Q1s c w s F e->Q1s c w s F e'
theorem Imp.of {x y:St U} (hn:x.n=y.n) (he:∀t v,get y.env t=some v->∃v',get x.env t=some v'/\∀c u,RA U c v' u->RA U c v u)
  (hh:∀s e,get y.h s=some e->∃e',get x.h s=some e'/\Q5d U e' e) (hx:x.nx<=y.nx):Imp U x y:=by
 have hless:∀s,(get y.h s).isSome->(get x.h s).isSome:=λs hs=>by
  obtain ⟨e,h1⟩:=Option.isSome_iff_exists.1 hs
  obtain ⟨e',h2,_⟩:=hh s e h1
  simp [h2]
 refine ⟨λc Φ a w hS=>⟨by rw [←hn];exact hS.size,hS.defers,λt v hv=>?_,⟨λs e hs=>?_,λs s' b o h1 h2 h3=>hS.g.apart s s' b o h1 (hless s h2) (hless s' h3),hS.g.imm,λs b o h1=>hS.g.Q15 s b o (hless s h1)⟩,λs hs=>?_⟩,hless,hx⟩
 ·obtain ⟨v',h1,h2⟩:=he t v hv
  exact h2 _ _ (hS.env t v' h1)
 ·obtain ⟨e',h1,h2⟩:=hh s e hs
  exact h2 _ _ _ _ (hS.g.Q1M s e' h1)
 ·obtain ⟨h1,h2⟩:=hS.fresh s (by omega)
  refine ⟨?_,h2⟩
  cases hg:get y.h s with
  |none=>rfl
  |some e=>
   have:=hless s (by simp [hg])
   rw [h1] at this;cases this
theorem Z3j (x:Env U):∀(l:List Nat) (t:Nat) (v:A U),get (Z3u x l) t=some v->get x t=some v
 | [],t,v,h=>by cases h
 |s::l,t,v,h=>by
  unfold Z3u at h
  split at h
  ·rename_i a ha
   rw [Z9] at h
   by_cases e:s=t
   ·subst e;simp at h;subst h;exact ha
   ·rw [if_neg e] at h;exact Z3j x l t v h
  ·exact Z3j x l t v h
theorem Z30 (x:Qr U):∀(l:List Nat) (t:Nat) (v:Ent U),get (Z2S x l) t=some v->get x t=some v
 | [],t,v,h=>by cases h
 |s::l,t,v,h=>by
  unfold Z2S at h
  split at h
  ·rename_i a ha
   rw [Z9] at h
   by_cases e:s=t
   ·subst e;simp at h;subst h;exact ha
   ·rw [if_neg e] at h;exact Z30 x l t v h
  ·exact Z30 x l t v h
theorem Imp.only (st:St U) (l:Live):Imp U st (st.only l):=
 Imp.of rfl (λt v hv=>⟨v,Z3j _ _ _ _ hv,λ_ _ h=>h⟩) (λs e hs=>⟨e,Z30 _ _ _ _ hs,λ_ _ _ _ h=>h⟩) (Nat.le_refl _)
theorem Z9d {b:Bool} {x y z:U.S} (h:Z73 b x y=some z):SLe U (bif b then x else y) z:=by
 unfold Z73 at h
 split at h
 ·cases h;cases b <;> exact ⟨rfl,λ_ _ h=>h,λh=>by cases h⟩
 ·rename_i j a k c
  cases hjk:decide (j=k) with
  |false=>simp [hjk] at h
  |true=>
   simp [hjk] at h
   have:=of_decide_eq_true hjk
   subst this;subst h
   cases b <;> exact ⟨rfl,λ_ _ h=>h,λh=>by cases h⟩
 ·cases h;cases b <;> exact ⟨rfl,λ_ _ h=>h,λh=>by cases h⟩
 ·split at h
  ·rename_i e _
   subst e
   cases h
   have key:∀(t:Tok) (u:U.C) (xs:List (U.D u)),SLe U (.isl t u xs) (.isl .none u xs):=λt u xs=>⟨rfl,λc v hr=>by
    cases hr with
    |isl g hc ht ha hi hr=>exact .isl g hc trivial ha hi hr,λh=>by cases h⟩
   cases b
   ·exact key _ _ _
   ·exact key _ _ _
  ·cases h
 ·rename_i s i off s' i' off'
  cases hb:Nat.beq s s' && Nat.beq off off' with
  |false=>simp [hb] at h
  |true=>
   simp [hb] at h
   rw [Bool.and_eq_true] at hb
   have e1:=QH hb.1
   have e2:=QH hb.2
   subst e1;subst e2;subst h
   cases b <;> exact ⟨rfl,λ_ _ h=>h,λh=>by cases h⟩
 ·rename_i s off m n i k s' off' m' n' i' k'
  cases hb:Nat.beq s s' && Nat.beq off off' && Nat.beq m m' && Nat.beq n n' && Nat.beq k k' with
  |false=>simp [hb] at h
  |true=>
   simp [hb] at h
   simp only [Bool.and_eq_true] at hb
   obtain ⟨⟨⟨⟨e1,e2⟩,e3⟩,e4⟩,e5⟩:=hb
   have e1:=QH e1
   have e2:=QH e2
   have e3:=QH e3
   have e4:=QH e4
   have e5:=QH e5
   subst e1;subst e2;subst e3;subst e4;subst e5;subst h
   cases b <;> exact ⟨rfl,λ_ _ h=>h,λh=>by cases h⟩
 ·cases h;cases b <;> exact ⟨rfl,λ_ _ h=>h,λ_=>rfl⟩
 ·rename_i s s'
  cases hb:Nat.beq s s' with
  |false=>simp [hb] at h
  |true=>
   simp [hb] at h
   have e1:=QH hb
   subst e1;subst h
   cases b <;> exact ⟨rfl,λ_ _ h=>h,λ_=>rfl⟩
 ·rename_i f x f' x'
  cases hb:Nat.beq f f' with
  |false=>simp [hb] at h
  |true=>
   simp [hb] at h
   have e1:=QH hb
   subst e1;subst h
   cases b <;> exact ⟨rfl,λ_ _ h=>h,λh=>by cases h⟩
 ·cases h
theorem Z4i {b:Bool}:∀(l r m:List U.S),Z2Q b l r=some m->m.length=(bif b then l else r).length/\∀(k:Nat) z,m[k]? =some z->∃x,(bif b then l else r)[k]? =some x/\SLe U x z
 | [],[],m,h=>by
  simp [Z2Q] at h;subst h
  cases b <;> exact ⟨rfl,λk z hk=>by simp at hk⟩
 |x::l,y::r,m,h=>by
  unfold Z2Q at h
  split at h
  ·rename_i z m' hz hm
   cases h
   have h1:=Z9d hz
   obtain ⟨h2,h3⟩:=Z4i l r m' hm
   cases b
   ·refine ⟨by simpa using h2,λk z' hk=>?_⟩
    cases k with
    |zero=>simp at hk;subst hk;exact ⟨y,rfl,h1⟩
    |succ k=>simp at hk;simpa using h3 k z' hk
   ·refine ⟨by simpa using h2,λk z' hk=>?_⟩
    cases k with
    |zero=>simp at hk;subst hk;exact ⟨x,rfl,h1⟩
    |succ k=>simp at hk;simpa using h3 k z' hk
  ·cases h
 | [],y::r,m,h=>by cases h
 |x::l,[],m,h=>by cases h
theorem RL.le {c:Cx} {l m:List U.S} {vs:List Value} (hl:RL U c l vs) (hlen:m.length=l.length) (h:∀(k:Nat) z,m[k]? =some z->∃x,l[k]? =some x/\SLe U x z):RL U c m vs:=
 ⟨by rw [hlen];exact hl.len,λk z hk=>let ⟨x,h1,h2⟩:=h k z hk;let ⟨v,h3,h4⟩:=hl.at_ k x h1;⟨v,h3,h2.val _ _ h4⟩⟩
theorem Z8H {b:Bool} {x y z:V U} (h:Z6Q b x y=some z):∀c u,RV U c (bif b then x else y) u->RV U c z u:=by
 unfold Z6Q at h
 split at h
 ·rename_i l hl
  cases hg:x.g==y.g with
  |false=>simp [hg] at h
  |true=>
   simp [hg] at h
   subst h
   have hg':x.g=y.g:=by simpa using hg
   obtain ⟨h1,h2⟩:=Z4i _ _ _ hl
   intro c u hr
   have key:∀q:V U,q.g=y.g->l.length=q.l.length->(∀(k:Nat) z,l[k]? =some z->∃x,q.l[k]? =some x/\SLe U x z)->RV U c q u->RV U c ⟨y.g,l⟩ u:=by
    intro q hq hlen hz hr
    obtain ⟨qg,ql⟩:=q
    simp only at hq hlen hz
    subst hq
    cases hyg:y.g with
    |true=>
     rw [hyg] at hr
     obtain ⟨cs,h3,h4⟩:=hr
     exact ⟨cs,h3,h4.le hlen hz⟩
    |false=>
     rw [hyg] at hr
     match ql,hr with
     | [w],hr=>
      match l,hlen with
      | [z],_=>
       obtain ⟨x',h3,h4⟩:=hz 0 z rfl
       simp at h3;subst h3
       exact h4.val _ _ hr
   cases b
   ·exact key y rfl h1 h2 hr
   ·exact key x hg' h1 h2 hr
 ·cases h
theorem Q5d.obj {l m:List U.S} (hlen:m.length=l.length) (h:∀(k:Nat) z,m[k]? =some z->∃x,l[k]? =some x/\SLe U x z):Q5d U (.obj l) (.obj m):=by
 rintro c w s F ⟨b,o,G,h0,h1,h2,h3⟩
 exact ⟨b,o,G,h0,h1,h2.le hlen h,by rw [hlen];exact h3⟩
theorem Z8L {b:Bool} {x y z:Ent U} (h:Z7w b x y=some z):Q5d U (bif b then x else y) z:=by
 unfold Z7w at h
 split at h
 ·rename_i l r
  cases hm:Z2Q b l r with
  |none=>simp [hm] at h
  |some m=>
   simp [hm] at h;subst h
   obtain ⟨h1,h2⟩:=Z4i _ _ _ hm
   cases b
   ·exact Q5d.obj h1 h2
   ·exact Q5d.obj h1 h2
 ·rename_i c u n f d v m g
  split at h
  ·rename_i e _
   subst e
   cases hc:c==d && Nat.beq n m with
   |false=>simp [hc] at h
   |true=>
    simp [hc] at h
    rw [Bool.and_eq_true] at hc
    have e1:c=d:=by simpa using hc.1
    have e2:=QH hc.2
    subst e1;subst e2;subst h
    cases b <;> exact λ_ _ _ _ h=>h
  ·cases h
 ·cases h;cases b <;> exact λ_ _ _ _ h=>h
 ·cases h
theorem Z29 {b:Bool} {x y:Env U}:∀(l:List Nat) (t:Nat) (v:A U),get (Z2j b x y l) t=some v->∃v',get (bif b then x else y) t=some v'/\∀c u,RA U c v' u->RA U c v u
 | [],t,v,h=>by cases h
 |s::l,t,v,h=>by
  unfold Z2j at h
  split at h
  ·rename_i a c ha hc
   split at h
   ·rename_i z hz
    rw [Z9] at h
    by_cases e:s=t
    ·subst e;simp at h;subst h
     have:=Z8H hz
     cases b
     ·exact ⟨_,hc,this⟩
     ·exact ⟨_,ha,this⟩
    ·rw [if_neg e] at h;exact Z29 l t v h
   ·exact Z29 l t v h
  ·exact Z29 l t v h
theorem Z1Q {b:Bool} {x y:Qr U}:∀(l:List Nat) (t:Nat) (v:Ent U),get (Z20 b x y l) t=some v->∃v',get (bif b then x else y) t=some v'/\Q5d U v' v
 | [],t,v,h=>by cases h
 |s::l,t,v,h=>by
  unfold Z20 at h
  split at h
  ·rename_i a c ha hc
   split at h
   ·rename_i z hz
    rw [Z9] at h
    by_cases e:s=t
    ·subst e;simp at h;subst h
     have:=Z8L hz
     cases b
     ·exact ⟨_,hc,this⟩
     ·exact ⟨_,ha,this⟩
    ·rw [if_neg e] at h;exact Z1Q l t v h
   ·exact Z1Q l t v h
  ·exact Z1Q l t v h
theorem Z5w {b:Bool} {l:Live} {x y z:St U} (h:Z4U b l x y=some z):Imp U (bif b then x else y) z:=by
 unfold Z4U at h
 cases hn:Nat.beq x.n y.n with
 |false=>simp [hn] at h
 |true=>
  simp [hn] at h
  have hn:=QH hn
  subst h
  refine Imp.of ?_ (λt v hv=>?_) (λs e hs=>?_) ?_
  ·cases b
   ·rfl
   ·exact hn
  ·have:=Z29 _ _ _ hv
   cases b <;> exact this
  ·have:=Z1Q _ _ _ hs
   cases b <;> exact this
  ·cases hb:Nat.ble x.nx y.nx with
   |true=>
    have:=Nat.le_of_ble_eq_true hb
    cases b
    ·exact Nat.le_refl _
    ·exact this
   |false=>
    have:¬x.nx<=y.nx:=λh=>by rw [Nat.ble_eq_true_of_le h] at hb;cases hb
    cases b
    ·simp only [cond_false];omega
    ·exact Nat.le_refl _
end Go.Rf
namespace Go.Rf
set_option linter.unusedVariables false
set_option linter.unusedSimpArgs false
variable {U : QV} {P : Program}
def Z1I:U.S->Bool
 | .val _=>true
 | .isl .none _ _=>true
 | .isl .full _ _=>true
 | .Q31 _ _ _=>true
 | .Q37 _ _=>true
 | .hole=>true
 | .box _ _=>true
 | .row _ _=>true
 | .Q2d _ _=>true
 | .Q1n _ _ _=>true
 | .ref _ _=>true
 | .Q3p _ _=>true
 | .rsl _ _ _ _ _ _=>true
 |_=>false
def QV.Pure (U:QV):Prop:=∀u x,(U.enc u x).all Z1I=true
theorem R.pure (hP:U.Pure) (hU:U.Ok) {c d:Cx} (hI:Cx.LeI U c d) {x:U.S} {v:Value} (hr:R U c x v):Z1I x=true->R U d x v:=by
 have cellp:∀(u:U.C) (y:U.D u) k,k < U.size u->Z1I ((U.enc u y).getD k .hole)=true:=λu y k hk=>by
  have h1:=hP u y
  rw [List.all_eq_true] at h1
  have hlt:k < (U.enc u y).length:=by rw [hU.QD];exact hk
  rw [getD_of_getElem? (List.getElem?_eq_getElem hlt)]
  exact h1 _ (List.getElem_mem hlt)
 induction hr with
 |val hv=>exact λ_=>.val hv
 |ptr h1=>exact λh=>by cases h
 | @isl t u xs a cap b o g hc ht ha hi hr ih=>
  intro hp
  refine .isl g hc ?_ ha (λi k h1 h2=>hI.I _ _ _ (hi i k h1 h2)) λi k h1 h2=>ih i k h1 h2 (cellp u _ k h2)
  cases t with
  |none=>trivial
  |full=>exact ht
  |own k=>cases hp
 | @Q31 u x off b o g hi hr ih=>exact λ_=>.Q31 g (λk h1=>hI.I _ _ _ (hi k h1)) λk h1=>ih k h1 (cellp u x k h1)
 |Q7r=>exact λ_=>.Q7r
 | @Q56 u x b o g hi hr ih=>exact λ_=>.Q56 g (λk h1=>hI.I _ _ _ (hi k h1)) λk h1=>ih k h1 (cellp u x k h1)
 |sl=>exact λh=>by cases h
 |Q1q=>exact λh=>by cases h
 |asl=>exact λh=>by cases h
 |Q7i=>exact λ_=>.Q7i
 |Q5c hf h1=>exact λ_=>.Q5c hf (hI.F _ _ _ hf h1)
 |Q7X=>exact λ_=>.Q7X
 |Q6C hf h1=>exact λ_=>.Q6C hf (hI.F _ _ _ hf h1)
 |Q4Q=>exact λh=>by cases h
 |rsl hc ha ho=>exact λ_=>.rsl hc (λhn=>⟨(ha hn).1,hI.F _ _ _ (ha hn).1 (ha hn).2.1,(ha hn).2.2⟩) λhw=>⟨(ho hw).1,λhn=>let ⟨e,h1,h2⟩:=(ho hw).2 hn;⟨e,hI.F _ _ _ (ha hn).1 h1,h2⟩⟩
 |clo=>exact λh=>by cases h
theorem Z9k {c:Cx} {f:Nat} {y:U.S} {t:Option Nat} {v:Value} (hd:Q9l f y=some t) (hr:R U c y v):R U c (.ref f t) v:=by
 unfold Q9l at hd
 split at hd
 ·rename_i g y
  cases hb:Nat.beq g f with
  |false=>rw [hb] at hd;cases hd
  |true=>
   rw [hb] at hd;cases hd
   rw [←QH hb];exact hr
 ·rename_i g i off
  cases hb:Nat.beq g f && Nat.beq off 0 && Nat.blt f U.nf with
  |false=>rw [hb] at hd;cases hd
  |true=>
   rw [hb] at hd;cases hd
   simp only [Bool.and_eq_true] at hb
   have e1:=QH hb.1.1
   have e2:=QH hb.1.2
   subst e1;subst e2
   cases hr with
   |ptr h0=>exact .Q5c (Nat.le_of_ble_eq_true hb.2) h0
 ·cases hd
  cases R.Q1z hr
  exact .Q7i
 ·cases hd
theorem Z96 {c:Cx} {f:Nat} {y:U.S} {t:Option Nat} {v:Value} (hd:Z7j f y=some t) (hr:R U c y v):R U c (.Q3p f t) v:=by
 unfold Z7j at hd
 split at hd
 ·rename_i g y
  cases hb:Nat.beq g f with
  |false=>rw [hb] at hd;cases hd
  |true=>
   rw [hb] at hd;cases hd
   rw [←QH hb];exact hr
 ·cases hd
  cases R.Q1z hr
  exact .Q7X
 ·cases hd
theorem Z8M {c:Cx} {u:U.C} {y:U.S} {t:Option (U.D u)} {v:Value} (hd:Z7G u y=some t) (hr:R U c y v):R U c (.Q37 u t) v:=by
 unfold Z7G at hd
 split at hd
 ·split at hd
  ·rename_i e _;subst e;cases hd;exact hr
  ·cases hd
 ·rename_i v' y' off
  split at hd
  ·rename_i e _
   subst e
   cases ho:Nat.beq off 0 with
   |false=>simp [ho] at hd
   |true=>
    simp [ho] at hd
    have:=QH ho
    subst this;subst hd
    cases hr with
    |Q31 g hi hr=>exact R.Q56 g hi hr
  ·cases hd
 ·cases hd
  cases R.Q1z hr
  exact .Q7r
 ·cases hd
theorem Z6n (hP:U.Pure) (hU:U.Ok) {c d:Cx} (hI:Cx.LeI U c d) {s:Sh U.C} {x:V U} {t:s.T U} {v:Value} (hd:Q6Y s x=some t) (hs:s.Q4S=false) (hs2:s.Q5w=false) (hr:RV U c x v) (p:Nat):
  RV U d (Q64 s t p) v:=by
 unfold Q6Y at hd
 split at hd
 ·rename_i k j n
  cases hb:decide (j=k) with
  |false=>simp [hb] at hd
  |true=>
   simp [hb] at hd
   subst hd
   have:=of_decide_eq_true hb
   subst this
   exact (show R U c (.val (.int j _)) v from hr).pure hP hU hI rfl
 ·cases hd;exact (show R U c (.val _) v from hr).pure hP hU hI rfl
 ·cases hd;exact (show R U c (.val _) v from hr).pure hP hU hI rfl
 ·rename_i u y
  split at hd
  ·rename_i tk xs hx
   cases hd
   obtain ⟨a,cap,b,o,g,rfl,hc,hT,ha,hi,hrr⟩:=(Z1Y hx (show R U c y v from hr)).ex
   have h1:R U c (.isl .none u t) (.slice a t.length cap):=R.isl g hc trivial ha hi hrr
   exact h1.pure hP hU hI rfl
  ·cases hd
 ·rename_i u l
  obtain ⟨cs,rfl,hl⟩:=(show ∃cs:Array Value,v= .agg cs/\RL U c l cs.toList from hr)
  have h1:=hU.Q4M u l t hd c _ hl
  have h2:=hP u t
  rw [List.all_eq_true] at h2
  exact ⟨cs,rfl,h1.len,λk x hk=>let ⟨v,h3,h4⟩:=h1.at_ k x hk;⟨v,h3,h4.pure hP hU hI (h2 _ (List.mem_of_getElem? hk))⟩⟩
 ·cases hs
 ·cases hs
 ·rename_i u v' x' off
  split at hd
  ·rename_i e _
   subst e
   cases ho:Nat.beq off 0 with
   |false=>simp [ho] at hd
   |true=>
    simp [ho] at hd
    have:=QH ho
    subst this;subst hd
    exact (show R U c (.Q31 _ _ 0) v from hr).pure hP hU hI rfl
  ·cases hd
 ·rename_i u y
  exact (Z8M hd (show R U c y v from hr)).pure hP hU hI rfl
 ·cases hs
 ·exact (Z9k hd (show R U c _ v from hr)).pure hP hU hI rfl
 ·exact (Z96 hd (show R U c _ v from hr)).pure hP hU hI rfl
 ·cases hs2
 ·cases hs
 ·cases hd;exact (show R U c (.val _) v from hr).pure hP hU hI rfl
 ·cases hd;exact (show R U c (.val _) v from hr).pure hP hU hI rfl
 ·cases hd
structure Q4A (U:QV) where
 c:Cx
 Φ:Nat->Nat->Nat->Prop
 h:Qr U
 nx:Nat
 ro:Nat
 w:World
 new:∀s,nx<=s->∀k,c.L s k=none
 rw:ro<=nx
def Q4A.At (B:Q4A U) (st:St U) (a:Act) (w:World):Prop:=
 ∃c Φ,B.nx<=st.nx/\SOK U c Φ st a w/\Ext U B.ro B.c B.Φ B.h B.nx B.w c Φ st.h w
theorem Z9c (hU:U.Ok) {u:U.C} {cells:List U.S} {y:U.D u} (hd:U.dec u cells=some y):Q5d U (.obj cells) (.obj (U.enc u y)):=by
 rintro c w s F ⟨b,o,G,h0,h1,h2,h3⟩
 have hl:(U.enc u y).length=cells.length:=by rw [hU.QD,hU.Q49 _ _ _ hd]
 exact ⟨b,o,G,h0,h1,h2.dec hU hd,by rw [hl];exact h3⟩
theorem Z8B (hU:U.Ok) {u:U.C} {n:Nat} {f:Nat->U.D u} (hpl:U.plain u=true):Q5d U (.fam true u n f) (.Q30 u n 0 f):=by
 rintro c w s F ⟨A,G,h0,h1,h2,h3,h4,h5⟩
 have hcl:∀i,(U.enc u (f i)).all Ze=true:=λi=>hU.Q52 _ _ hpl
 have key:∀i k x,i < n->(U.enc u (f i))[k]? =some x->(∃v,w.cell? (at_ (A i).1 ((A i).2+k))=some v/\R U c x v)/\w.frozen? (at_ (A i).1 ((A i).2+k))=false/\∀b' o',G i k b' o'↔(b'=(A i).1/\o'=(A i).2+k):=λi k x hi hx=>by
  have:=hcl i
  rw [List.all_eq_true] at this
  exact (h2 i hi).cell hx (this _ (List.mem_of_getElem? hx))
 refine ⟨A,h0,h1,h5 rfl,hpl,λi k x hi hz=>by omega,λi k x hi _ hx=>?_,λb o=>?_⟩
 ·obtain ⟨⟨v,p1,p2⟩,p3,_⟩:=key i k x hi hx
  exact ⟨v,p1,p2,p3⟩
 ·rw [h4]
  constructor
  ·rintro ⟨i,k,hi,hk,hg⟩
   obtain ⟨_,_,p⟩:=key i k _ hi (List.getElem?_eq_getElem (by rw [hU.QD];exact hk))
   obtain ⟨p1,p2⟩:=(p _ _).1 hg
   exact ⟨i,k,hi,Nat.zero_le _,hk,p1,p2⟩
  ·rintro ⟨i,k,hi,_,hk,p1,p2⟩
   obtain ⟨_,_,p⟩:=key i k _ hi (List.getElem?_eq_getElem (by rw [hU.QD];exact hk))
   exact ⟨i,k,hi,hk,(p _ _).2 ⟨p1,p2⟩⟩
theorem Z8E (hU:U.Ok) {ct:Bool} {u:U.C} {f:Nat->U.D u}:Q5d U (.fam ct u 1 f) (.obj (U.enc u (f 0))):=by
 rintro c w s F ⟨A,G,h0,h1,h2,h3,h4,h5⟩
 refine ⟨(A 0).1,(A 0).2,G 0,h0 0 (by omega),λi x hx=>by have:=h1 i x hx;omega,h2 0 (by omega),λb' o'=>?_⟩
 rw [h4,hU.QD]
 constructor
 ·rintro ⟨i,k,hi,hk,hf⟩
  have:i=0:=by omega
  subst this
  exact ⟨k,hk,hf⟩
 ·rintro ⟨k,hk,hf⟩;exact ⟨0,k,by omega,hk,hf⟩
theorem Z4A {base nx:Nat} {m:List (Nat×Nat)} (h:Z3N base nx m=true) {s t:Nat} (hm:(s,t)∈m):
  s < nx/\(s < base↔t < base)/\(s < base->s=t)/\∀s' t',(s',t')∈m->(s=s'↔t=t'):=by
 unfold Z3N at h
 rw [List.all_eq_true] at h
 have h1:=h _ hm
 simp only [Bool.and_eq_true] at h1
 obtain ⟨⟨⟨h2,h3⟩,h4⟩,h5⟩:=h1
 have blt:∀a b,Nat.blt a b=true↔a < b:=λa b=>by unfold Nat.blt;exact ⟨λh=>Nat.le_of_ble_eq_true h,λh=>Nat.ble_eq_true_of_le h⟩
 have same:∀{a b:Bool},Z1T a b=true->a=b:=λ{a b} h=>by cases a <;> cases b <;> simp_all [Z1T]
 refine ⟨(blt _ _).1 h2,?_,λhs=>?_,λs' t' hm'=>?_⟩
 ·have:=same h3
  rw [←blt,←blt,this]
 ·have hb:=(blt s base).2 hs
  rw [hb] at h4
  exact QH h4
 ·rw [List.all_eq_true] at h5
  have:=same (h5 _ hm')
  simp only at this
  constructor
  ·intro e;subst e;simp at this;exact this
  ·intro e;subst e;simp at this;exact this
theorem Z5D {α:Type} {l:List (Nat×α)} {t:Nat} {v:α} (h:get l t=some v):(t,v)∈l:=by
 induction l with
 |nil=>cases h
 |cons p l ih=>
  obtain ⟨k,u⟩:=p
  rw [Z9] at h
  by_cases e:k=t
  ·subst e;simp at h;subst h;exact List.mem_cons_self ..
  ·rw [if_neg e] at h;exact List.mem_cons_of_mem _ (ih h)
theorem Z9W {a b:Nat} (h:a < b):Nat.blt a b=true:=Nat.ble_eq_true_of_le h
theorem Z6z {a b:Nat} (h:¬a < b):Nat.blt a b=false:=by
 cases hb:Nat.blt a b with
 |false=>rfl
 |true=>exact absurd (Nat.le_of_ble_eq_true hb) h
theorem Z2a {base:Nat} {m:List (Nat×Nat)} {s:Nat} (h:s < base):ren m base s=some s:=by unfold ren;rw [Z9W h];rfl
theorem Z3C {base nx:Nat} {m:List (Nat×Nat)} (hm:Z3N base nx m=true) {s t:Nat} (h:¬s < base) (hr:ren m base s=some t):¬t < base/\s < nx/\(s,t)∈m:=by
 unfold ren at hr
 rw [Z6z h] at hr
 have:=Z5D hr
 obtain ⟨h1,h2,_⟩:=Z4A hm this
 exact ⟨λh'=>h (h2.2 h'),h1,this⟩
theorem QaL {base nx:Nat} {m:List (Nat×Nat)} (hm:Z3N base nx m=true) {s t:Nat} (h:(s,t)∈m):ren m base s=some t:=by
 obtain ⟨h1,h2,h3,h4⟩:=Z4A hm h
 by_cases hs:s < base
 ·rw [Z2a hs,h3 hs]
 ·unfold ren
  rw [Z6z hs]
  have:(get m s).isSome:=Z1n (List.mem_map.2 ⟨_,h,rfl⟩)
  obtain ⟨t',ht⟩:=Option.isSome_iff_exists.1 this
  have:=(h4 s t' (Z5D ht)).1 rfl
  subst this
  exact ht
theorem QaH {base nx:Nat} {m:List (Nat×Nat)} (hm:Z3N base nx m=true) {s s' t:Nat} (h:ren m base s=some t) (h':ren m base s'=some t):s=s':=by
 by_cases hs:s < base
 ·rw [Z2a hs] at h;cases h
  by_cases hs':s' < base
  ·rw [Z2a hs'] at h';cases h';rfl
  ·exact absurd hs (Z3C hm hs' h').1
 ·by_cases hs':s' < base
  ·rw [Z2a hs'] at h';cases h'
   exact absurd hs' (Z3C hm hs h).1
  ·exact ((Z4A hm (Z3C hm hs h).2.2).2.2.2 _ _ (Z3C hm hs' h').2.2).2 rfl
def Cx.ren (c:Cx) (m:List (Nat×Nat)) (base:Nat):Cx:={ L:=λs i=>(Rf.ren m base s).bind λt=>c.L t i,I:=c.I}
section
variable {c : Cx} {m : List (Nat × Nat)} {base nx : Nat}
theorem Cx.Q3m {s t:Nat} (h:Rf.ren m base s=some t) (i:Nat):(c.ren m base).L s i=c.L t i:=by simp [Cx.ren,h]
theorem Z4J (hU:U.Ok) (hP:U.Pure) (u:U.C) (y:U.D u) (k:Nat) (hk:k < U.size u):Z1I ((U.enc u y).getD k .hole)=true:=by
 have h1:=hP u y
 rw [List.all_eq_true] at h1
 have hlt:k < (U.enc u y).length:=by rw [hU.QD];exact hk
 rw [getD_of_getElem? (List.getElem?_eq_getElem hlt)]
 exact h1 _ (List.getElem_mem hlt)
theorem Cx.Q5j (hnf:U.nf<=base):Cx.LeI U c (c.ren m base):=⟨λ_ _ _ h=>h,λf i x hf hx=>by rw [Cx.Q3m (Z2a (Nat.lt_of_lt_of_le hf hnf))];exact hx⟩
theorem Z8g (hU:U.Ok) (hP:U.Pure) (hnf:U.nf<=base) {t t':Tok} {u:U.C} {xs:List (U.D u)} {v:Value} (h:R U c (.isl t u xs) v) (ht:∀a b o n cap sz,Q5q c t a b o n cap sz->Q5q (c.ren m base) t' a b o n cap sz):R U (c.ren m base) (.isl t' u xs) v:=by
 cases h with
 |isl g hc hT ha hi hr=>exact R.isl g hc (ht _ _ _ _ _ _ hT) ha hi λi k h1 h2=>R.pure (c:=c) (d:=c.ren m base) hP hU (Cx.Q5j hnf) (hr i k h1 h2) (Z4J hU hP u _ k h2)
theorem Z7p:∀{ps ps':List (Nat×Nat×Nat)} {l:List (Nat×Nat)},Q7I ps ps'=some l->ps'.length=ps.length/\∀(k:Nat) p,ps[k]? =some p->∃s',ps'[k]? =some (s',p.2)/\(p.1,s')∈l
 | [],[],l,h=>by cases h;exact ⟨rfl,λk p hk=>by simp at hk⟩
 |(s,i,off)::r,(s',i',off')::r',l,h=>by
  unfold Q7I at h
  cases hb:Nat.beq i i' && Nat.beq off off' with
  |false=>simp [hb] at h
  |true=>
   simp only [hb,cond_true] at h
   rw [Bool.and_eq_true] at hb
   have e2:=QH hb.1
   have e3:=QH hb.2
   subst e2;subst e3
   split at h
   ·rename_i l' hl
    cases h
    obtain ⟨h1,h2⟩:=Z7p hl
    refine ⟨by simp [h1],λk p hk=>?_⟩
    cases k with
    |zero=>simp at hk;subst hk;exact ⟨s',rfl,List.mem_cons_self ..⟩
    |succ k=>
     simp at hk
     obtain ⟨s2,h3,h4⟩:=h2 k p hk
     exact ⟨s2,by simpa using h3,List.mem_cons_of_mem _ h4⟩
   ·cases h
 | [],_::_,l,h=>by cases h
 |_::_,[],l,h=>by cases h
theorem Z9y {ps ps':List (Nat×Nat×Nat)} {l:List (Nat×Nat)} {f:Nat} {vs:Array Value} (hz:Q7I ps ps'=some l) (hr:∀q∈l,Rf.ren m base q.1=some q.2) (hn:vs.size=ps'.length)
  (hp:∀(k:Nat) p,ps'[k]? =some p->∃b o,c.L p.1 p.2.1=some (b,o)/\vs[k]? =some (.pointer (some (at_ b (o+p.2.2))))):R U (c.ren m base) (.clo f ps) (.func (.func f) #[] vs):=by
 obtain ⟨h1,h2⟩:=Z7p hz
 refine R.clo (by rw [hn,h1]) λk p hk=>?_
 obtain ⟨s',h3,h4⟩:=h2 k p hk
 obtain ⟨b,o,h5,h6⟩:=hp k _ h3
 exact ⟨b,o,by rw [Cx.Q3m (hr _ h4)];exact h5,h6⟩
theorem ZT (hU:U.Ok) (hP:U.Pure) (hnf:U.nf<=base):∀(l:List (Nat×JV U.C)) (env:Env U) (x:JVs U l) (m0:List (Nat×Nat)),ZG l env=some x->ZP l env=some m0->(∀q∈m0,Rf.ren m base q.1=some q.2)->
  ∀t v,get (Zv l x) t=some v->∃v',get env t=some v'/\∀u,RA U c v' u->RA U (c.ren m base) v u
 | [],env,x,m0,h,hm,hr,t,v,hg=>by cases hg
 |(s,.val sh)::r,env,x,m0,h,hm,hr,t,v,hg=>by
  unfold ZG at h
  split at h
  ·rename_i y ys h1 h2
   cases hp:sh.Q4S||sh.Q5w with
   |true=>simp [hp] at h
   |false=>
    simp only [hp,cond_false] at h
    rw [Bool.or_eq_false_iff] at hp
    split at h
    ·rename_i z hz
     cases h
     unfold Zv at hg
     rw [Z9] at hg
     by_cases e:s=t
     ·subst e
      rw [if_pos rfl] at hg;cases hg
      exact ⟨_,h1,λu hr=>Z6n (c:=c) (d:=c.ren m base) hP hU (Cx.Q5j hnf) hz hp.1 hp.2 hr 0⟩
     ·rw [if_neg e] at hg
      exact ZT hU hP hnf r env ys m0 h2 hm hr t v hg
    ·cases h
  ·cases h
 |(s,.ptr a i off)::r,env,x,m0,h,hm,hr,t,v,hg=>by
  unfold ZP at hm
  split at hm
  ·rename_i a' i' off' l h1 h2
   cases hb:Nat.beq i i' && Nat.beq off off' with
   |false=>simp [hb] at hm
   |true=>
    simp only [hb,cond_true] at hm
    rw [Bool.and_eq_true] at hb
    have e2:=QH hb.1
    have e3:=QH hb.2
    subst e2;subst e3
    cases hm
    unfold Zv at hg
    rw [Z9] at hg
    by_cases e:s=t
    ·subst e
     rw [if_pos rfl] at hg;cases hg
     refine ⟨_,h1,λu hu=>?_⟩
     have hra:=hr (a,a') (List.mem_cons_self ..)
     cases (show R U c (.ptr a' i off) u from hu) with
     |ptr h0=>exact R.ptr (by rw [Cx.Q3m hra];exact h0)
    ·rw [if_neg e] at hg
     exact ZT hU hP hnf r env x l h h2 (λq hq=>hr q (List.mem_cons_of_mem _ hq)) t v hg
  ·cases hm
 |(s,.Q6S)::r,env,x,m0,h,hm,hr,t,v,hg=>by
  unfold ZG at h
  split at h
  ·rename_i h1
   unfold Zv at hg
   rw [Z9] at hg
   by_cases e:s=t
   ·subst e
    rw [if_pos rfl] at hg;cases hg
    refine ⟨_,h1,λu hu=>?_⟩
    cases R.Q1z (show R U c (.val (.pointer none)) u from hu)
    exact R.val rfl
   ·rw [if_neg e] at hg
    exact ZT hU hP hnf r env x m0 h hm hr t v hg
  ·cases h
 |(s,.own u k)::r,env,x,m0,h,hm,hr,t,v,hg=>by
  unfold ZG at h
  split at h
  ·rename_i k' v' xs ys h1 h2
   unfold ZP at hm
   rw [h1] at hm
   split at hm
   ·rename_i k2 _ _ l he h3
    cases hm
    cases he
    split at h
    ·rename_i e' _
     subst e'
     cases h
     unfold Zv at hg
     rw [Z9] at hg
     by_cases e:s=t
     ·subst e
      rw [if_pos rfl] at hg;cases hg
      have hra:=hr (k,_) (List.mem_cons_self ..)
      refine ⟨_,h1,λw hu=>Z8g hU hP hnf (show R U c (.isl _ _ _) w from hu) λa b o n cap sz ⟨b',o',e,h4,h5,h6⟩=>⟨b',o',e,?_,?_,h6⟩⟩
      ·rw [Cx.Q3m hra];exact h4
      ·rw [Cx.Q3m hra];exact h5
     ·rw [if_neg e] at hg
      exact ZT hU hP hnf r env ys l h2 h3 (λq hq=>hr q (List.mem_cons_of_mem _ hq)) t v hg
    ·cases h
   ·cases hm
  ·cases h
 |(s,.full u)::r,env,x,m0,h,hm,hr,t,v,hg=>by
  unfold ZG at h
  split at h
  ·rename_i y ys h1 h2
   split at h
   ·rename_i xs hx
    cases h
    unfold Zv at hg
    rw [Z9] at hg
    by_cases e:s=t
    ·subst e
     rw [if_pos rfl] at hg;cases hg
     refine ⟨_,h1,λw hu=>?_⟩
     obtain ⟨a,cap,b,o,g,rfl,hc,hT,ha,hi,hrr⟩:=(Z1Y hx (show R U c y w from hu)).ex
     exact Z8g (c:=c) hU hP hnf (R.isl (t:= .full) g hc hT ha hi hrr) λ_ _ _ _ _ _ h=>h
    ·rw [if_neg e] at hg
     exact ZT hU hP hnf r env ys m0 h2 hm hr t v hg
   ·cases h
  ·cases h
 |(s,.Q1q a off m n k)::r,env,x,m0,h,hm,hr,t,v,hg=>by
  unfold ZG at h
  split at h
  ·rename_i a1 off1 m1 n1 i1 k1 ys h1 h2
   cases h
   unfold ZP at hm
   rw [h1] at hm
   split at hm
   ·rename_i a' off' m' n' i' k' l he h3
    cases he
    cases hb:Nat.beq off off1 && Nat.beq m m1 && Nat.beq n n1 && Nat.beq k k1 with
    |false=>simp [hb] at hm
    |true=>
     simp only [hb,cond_true] at hm
     simp only [Bool.and_eq_true] at hb
     obtain ⟨⟨⟨e1,e2⟩,e3⟩,e4⟩:=hb
     have e1:=QH e1
     have e2:=QH e2
     have e3:=QH e3
     have e4:=QH e4
     subst e1;subst e2;subst e3;subst e4
     cases hm
     unfold Zv at hg
     rw [Z9] at hg
     by_cases e:s=t
     ·subst e
      rw [if_pos rfl] at hg;cases hg
      refine ⟨_,h1,λu hu=>?_⟩
      have hra:=hr (a,a1) (List.mem_cons_self ..)
      cases (show R U c (.Q1q a1 off m n i1 k) u from hu) with
      |Q1q hi h0=>exact R.Q1q hi (by rw [Cx.Q3m hra];exact h0)
     ·rw [if_neg e] at hg
      exact ZT hU hP hnf r env ys l h2 h3 (λq hq=>hr q (List.mem_cons_of_mem _ hq)) t v hg
   ·cases hm
  ·cases h
 |(s,.asl a off m n)::r,env,x,m0,h,hm,hr,t,v,hg=>by
  unfold ZG at h
  split at h
  ·rename_i a1 off1 m1 n1 b1 l1 ys h1 h2
   cases h
   unfold ZP at hm
   rw [h1] at hm
   split at hm
   ·rename_i a' off' m' n' i' k' l he h3
    cases he
    cases hb:Nat.beq off off1 && Nat.beq m m1 && Nat.beq n n1 with
    |false=>simp [hb] at hm
    |true=>
     simp only [hb,cond_true] at hm
     simp only [Bool.and_eq_true] at hb
     obtain ⟨⟨e1,e2⟩,e3⟩:=hb
     have e1:=QH e1
     have e2:=QH e2
     have e3:=QH e3
     subst e1;subst e2;subst e3
     cases hm
     unfold Zv at hg
     rw [Z9] at hg
     by_cases e:s=t
     ·subst e
      rw [if_pos rfl] at hg;cases hg
      refine ⟨_,h1,λu hu=>?_⟩
      have hra:=hr (a,a1) (List.mem_cons_self ..)
      cases (show R U c (.asl a1 off m n b1 l1) u from hu) with
      |asl hc hb h0 ha=>exact R.asl hc hb (by rw [Cx.Q3m hra];exact h0) ha
     ·rw [if_neg e] at hg
      exact ZT hU hP hnf r env ys l h2 h3 (λq hq=>hr q (List.mem_cons_of_mem _ hq)) t v hg
   ·cases hm
  ·cases h
 |(s,.rsl a)::r,env,x,m0,h,hm,hr,t,v,hg=>by
  unfold ZG at h
  split at h
  ·rename_i a1 b1 l1 ys h1 h2
   cases h
   unfold ZP at hm
   rw [h1] at hm
   split at hm
   ·rename_i a' i' k' l he h3
    cases he
    cases hm
    unfold Zv at hg
    rw [Z9] at hg
    by_cases e:s=t
    ·subst e
     rw [if_pos rfl] at hg;cases hg
     refine ⟨_,h1,λu hu=>?_⟩
     have hra:=hr (a,a1) (List.mem_cons_self ..)
     cases (show R U c (.sl a1 b1 l1) u from hu) with
     |sl hc ha hl=>exact R.sl hc (λhn=>by rw [Cx.Q3m hra];exact ha hn) (λj hj=>by rw [Cx.Q3m hra];exact hl j hj)
    ·rw [if_neg e] at hg
     exact ZT hU hP hnf r env ys l h2 h3 (λq hq=>hr q (List.mem_cons_of_mem _ hq)) t v hg
   ·cases hm
  ·cases h
 |(s,.clo f ps)::r,env,x,m0,h,hm,hr,t,v,hg=>by
  unfold ZP at hm
  split at hm
  ·rename_i f' ps' l h1 h2
   cases hb:Nat.beq f f' with
   |false=>simp [hb] at hm
   |true=>
    simp only [hb,cond_true] at hm
    have e2:=QH hb
    subst e2
    split at hm
    ·rename_i mm hz
     cases hm
     unfold Zv at hg
     rw [Z9] at hg
     by_cases e:s=t
     ·subst e
      rw [if_pos rfl] at hg;cases hg
      refine ⟨_,h1,λu hu=>?_⟩
      cases (show R U c (.clo f ps') u from hu) with
      |clo hn hp=>exact Z9y hz (λq hq=>hr q (List.mem_append_left _ hq)) hn hp
     ·rw [if_neg e] at hg
      exact ZT hU hP hnf r env x l h h2 (λq hq=>hr q (List.mem_append_right _ hq)) t v hg
    ·cases hm
  ·cases hm
def Q90:Ent U->Prop
 | .obj cells=>cells.all Z1I=true
 |_=>True
theorem Own.pure (hU:U.Ok) (hP:U.Pure) {c d:Cx} (hI:Cx.LeI U c d) {w:World} {b o:Nat} {x:U.S} {F:Nat->Nat->Prop} (h:Own U c w b o x F):Z1I x=true->Own U d w b o x F:=by
 have hp:∀(u:U.C) (y:U.D u) (k:Nat) z,(U.enc u y)[k]? =some z->Z1I z=true:=λu y k z hk=>by
  have:=hP u y
  rw [List.all_eq_true] at this
  exact this _ (List.mem_of_getElem? hk)
 have hpf:∀(u:U.C) (n:Nat) (f:Nat->U.D u) (k:Nat) z,(flat u n f)[k]? =some z->Z1I z=true:=λu n f k z hk=>by
  obtain ⟨i,j,_,_,_,h⟩:=Z2K hU u n f hk
  exact hp u (f i) j z h
 induction h with
 |cell hr hc hf hF=>intro hx;exact .cell (R.pure hP hU hI hr hx) hc hf hF
 |hole hF=>intro _;exact .hole hF
 |arr hL hF=>intro hx;cases hx
 |Q7L hc hf hF=>intro _;exact .Q7L hc hf hF
 |box G hc hf hk hd h0 hF ih=>intro _;exact .box G hc hf (λk x hx=>ih k x hx (hp _ _ k x hx)) hd h0 hF
 |row G hc hf hl ha hk hd hs h0 h1 hF ih=>intro _;exact .row G hc hf hl ha (λk x hx=>ih k x hx (hpf _ _ _ k x hx)) hd hs h0 h1 hF
 |Q2d g hc hf hl ha hi hr hs h1 hF=>
  intro _
  refine .Q2d g hc hf hl ha (λi k h2 h3=>hI.I _ _ _ (hi i k h2 h3)) (λi k h2 h3=>R.pure hP hU hI (hr i k h2 h3) ?_) hs h1 hF
  exact Z4J hU hP _ _ _ h3
 |Q1n G hk hd hF ih=>intro _;exact .Q1n G (λk x hx=>ih k x hx (hpf _ _ _ k x hx)) hd hF
theorem Pl.pure (hU:U.Ok) (hP:U.Pure) {c d:Cx} (hI:Cx.LeI U c d) {w:World} {b o:Nat} {l:List U.S} {G:Nat->Nat->Nat->Prop} (h:Pl U c w b o l G) (hp:l.all Z1I=true):Pl U d w b o l G:=by
 rw [List.all_eq_true] at hp
 exact ⟨λk x hx=>(h.own k x hx).pure hU hP hI (hp _ (List.mem_of_getElem? hx)),h.dis⟩
theorem RV.pure (hU:U.Ok) (hP:U.Pure) {c d:Cx} (hI:Cx.LeI U c d) {g:Bool} {u:U.C} {x:U.D u} {v:Value} (h:RV U c ⟨g,U.enc u x⟩ v):RV U d ⟨g,U.enc u x⟩ v:=by
 have h1:=hP u x
 rw [List.all_eq_true] at h1
 cases g with
 |true=>
  obtain ⟨cs,rfl,hl⟩:=h
  exact ⟨cs,rfl,hl.len,λk y hk=>let ⟨a,h3,h4⟩:=hl.at_ k y hk;⟨a,h3,h4.pure hP hU hI (h1 _ (List.mem_of_getElem? hk))⟩⟩
 |false=>
  match hl:U.enc u x,h,h1 with
  | [y],h,h1=>exact (show R U c y v from h).pure hP hU hI (h1 y (by simp))
  | [],h,h1=>exact h.elim
  |a::b::r,h,h1=>exact h.elim
theorem Q4w.pure (hU:U.Ok) (hP:U.Pure) {c d:Cx} (hI:Cx.LeI U c d) {gk gv:Bool} {ku vu:U.C} {l:List (U.D ku×U.D vu)} {es:List MapEntry} (h:Q4w U c gk gv l es):Q4w U d gk gv l es:=
 ⟨h.1,λk p hk=>let ⟨e,h1,h2,h3⟩:=h.2 k p hk;⟨e,h1,RV.pure hU hP hI h2,RV.pure hU hP hI h3⟩⟩
theorem Q1s.ren (hU:U.Ok) (hP:U.Pure) (hnf:U.nf<=base) {w:World} {s t:Nat} {F:Nat->Nat->Prop} {e:Ent U} (h:Q1s c w t F e) (hr:Rf.ren m base s=some t) (hp:Q90 e):Q1s (c.ren m base) w s F e:=by
 cases e with
 |obj cells=>
  have hp:cells.all Z1I=true:=hp
  obtain ⟨b,o,G,h0,h1,h2,h3⟩:=h
  exact ⟨b,o,G,by rw [Cx.Q3m hr];exact h0,λi x hx=>h1 i x (by rw [←Cx.Q3m hr];exact hx),h2.pure (c:=c) (d:=c.ren m base) hU hP (Cx.Q5j hnf) hp,h3⟩
 |fam ct u n f=>
  obtain ⟨A,G,h0,h1,h2,h3,h4,h5⟩:=h
  exact ⟨A,G,λi hi=>by rw [Cx.Q3m hr];exact h0 i hi,λi x hx=>h1 i x (by rw [←Cx.Q3m hr];exact hx),λi hi=>(h2 i hi).pure (c:=c) (d:=c.ren m base) hU hP (Cx.Q5j hnf) (hP _ _),h3,h4,h5⟩
 |tok=>
  obtain ⟨b,o,e,h0,h1,h2,h3⟩:=h
  exact ⟨b,o,e,by rw [Cx.Q3m hr];exact h0,by rw [Cx.Q3m hr];exact h1,h2,h3⟩
 |dead=>exact h
 |iter t pos=>
  obtain ⟨b,h0,h1,h2,h3⟩:=h
  exact ⟨b,by rw [Cx.Q3m hr];exact h0,λi x hx=>h1 i x (by rw [←Cx.Q3m hr];exact hx),h2,h3⟩
 |Q30 u n z f=>
  obtain ⟨A,h0,h1,h2,h3,h4,h5,h6⟩:=h
  have hpu:∀i k x,(U.enc u (f i))[k]? =some x->Z1I x=true:=λi k x hx=>by
   have:=hP u (f i)
   rw [List.all_eq_true] at this
   exact this _ (List.mem_of_getElem? hx)
  refine ⟨A,λi hi=>by rw [Cx.Q3m hr];exact h0 i hi,λi x hx=>h1 i x (by rw [←Cx.Q3m hr];exact hx),h2,h3,λi k x hi hz hx=>?_,λi k x hi hz hx=>?_,h6⟩
  ·obtain ⟨v,p1,p2⟩:=h4 i k x hi hz hx
   exact ⟨v,p1,R.pure (c:=c) (d:=c.ren m base) hP hU (Cx.Q5j hnf) p2 (hpu i k x hx)⟩
  ·obtain ⟨v,p1,p2,p3⟩:=h5 i k x hi hz hx
   exact ⟨v,p1,R.pure (c:=c) (d:=c.ren m base) hP hU (Cx.Q5j hnf) p2 (hpu i k x hx),p3⟩
 |Q20 gk gv ku vu n g=>
  obtain ⟨A,h0,h1,h2,h3,h4⟩:=h
  refine ⟨A,λi hi=>by rw [Cx.Q3m hr];exact h0 i hi,λi x hx=>h1 i x (by rw [←Cx.Q3m hr];exact hx),λi hi=>?_,h3,h4⟩
  obtain ⟨es,cl,q1,q2⟩:=h2 i hi
  exact ⟨es,cl,q1,Q4w.pure (c:=c) (d:=c.ren m base) hU hP (Cx.Q5j hnf) q2⟩
 |Q1a u n g=>
  obtain ⟨A,E,h0,h1,h2,h3,h4,h5,h6,h7⟩:=h
  refine ⟨A,E,λr hr'=>by rw [Cx.Q3m hr,Cx.Q3m hr];exact h0 r hr',λi x hx=>h1 i x (by rw [←Cx.Q3m hr];exact hx),h2,λr i k x hr' hi hx=>?_,h4,h5,h6,h7⟩
  obtain ⟨v,p1,p2⟩:=h3 r i k x hr' hi hx
  have hpu:Z1I x=true:=by
   have:=hP u ((g r).getD i (U.dft u))
   rw [List.all_eq_true] at this
   exact this _ (List.mem_of_getElem? hx)
  exact ⟨v,p1,R.pure (c:=c) (d:=c.ren m base) hP hU (Cx.Q5j hnf) p2 hpu⟩
theorem ZJ (hU:U.Ok) (hP:U.Pure):∀(l:List (Nat×JH U.C)) (h:Qr U) (x:JHs U l),ZE base m l h=some x->∀s e,get (Zu l x) s=some e->∃t e',Rf.ren m base s=some t/\get h t=some e'/\Q5d U e' e/\Q90 e/\s∈l.map (·.1)
 | [],h,x,hd,t,e,hg=>by cases hg
 |(s,.obj u)::r,h,x,hd,t,e,hg=>by
  have step:∀ys,ZE base m r h=some ys->get (Zu r ys) t=some e->∃t' e',Rf.ren m base t=some t'/\get h t'=some e'/\Q5d U e' e/\Q90 e/\t∈((s,JH.obj u)::r).map (·.1):=λys h2 hg=>by
   obtain ⟨t',e',h3,h4,h5,h6,h7⟩:=ZJ hU hP r h ys h2 t e hg
   exact ⟨t',e',h3,h4,h5,h6,List.mem_cons_of_mem _ h7⟩
  unfold ZE at hd
  split at hd
  ·rename_i cells ys h1 h2
   split at hd
   ·rename_i y hy
    cases hd
    unfold Zu at hg
    rw [Z9] at hg
    by_cases e':s=t
    ·subst e'
     rw [if_pos rfl] at hg;cases hg
     rw [Option.bind_eq_some_iff] at h1
     obtain ⟨t',h3,h4⟩:=h1
     exact ⟨t',_,h3,h4,Z9c hU hy,hP u y,List.mem_cons_self ..⟩
    ·rw [if_neg e'] at hg
     exact step ys h2 hg
   ·cases hd
  ·rename_i ct v n f ys h1 h2
   cases hn:Nat.beq n 1 with
   |false=>simp [hn] at hd
   |true=>
    simp only [hn,cond_true] at hd
    have:=QH hn
    subst this
    split at hd
    ·rename_i e1 _
     subst e1
     cases hd
     unfold Zu at hg
     rw [Z9] at hg
     by_cases e':s=t
     ·subst e'
      rw [if_pos rfl] at hg;cases hg
      rw [Option.bind_eq_some_iff] at h1
      obtain ⟨t',h3,h4⟩:=h1
      exact ⟨t',_,h3,h4,Z8E hU,hP _ _,List.mem_cons_self ..⟩
     ·rw [if_neg e'] at hg
      exact step ys h2 hg
    ·cases hd
  ·cases hd
 |(s,.fam ct u n)::r,h,x,hd,t,e,hg=>by
  unfold ZE at hd
  split at hd
  ·rename_i ct' v n' f ys h1 h2
   cases hb:(ct==ct') && Nat.beq n n' with
   |false=>simp [hb] at hd
   |true=>
    simp only [hb,cond_true] at hd
    rw [Bool.and_eq_true] at hb
    have e1:ct=ct':=by simpa using hb.1
    have e2:=QH hb.2
    subst e1;subst e2
    split at hd
    ·rename_i e3 _
     subst e3
     cases hd
     unfold Zu at hg
     rw [Z9] at hg
     by_cases e':s=t
     ·subst e'
      rw [if_pos rfl] at hg;cases hg
      rw [Option.bind_eq_some_iff] at h1
      obtain ⟨t',h3,h4⟩:=h1
      exact ⟨t',_,h3,h4,λ_ _ _ _ h=>h,trivial,List.mem_cons_self ..⟩
     ·rw [if_neg e'] at hg
      obtain ⟨t',e',h3,h4,h5,h6,h7⟩:=ZJ hU hP r h ys h2 t e hg
      exact ⟨t',e',h3,h4,h5,h6,List.mem_cons_of_mem _ h7⟩
    ·cases hd
  ·cases hd
 |(s,.Qf ct u)::r,h,x,hd,t,e,hg=>by
  unfold ZE at hd
  split at hd
  ·rename_i ct' v n' f ys h1 h2
   cases hb:(ct==ct') with
   |false=>simp [hb] at hd
   |true=>
    simp only [hb,cond_true] at hd
    have e1:ct=ct':=by simpa using hb
    subst e1
    split at hd
    ·rename_i e3 _
     subst e3
     cases hd
     unfold Zu at hg
     rw [Z9] at hg
     by_cases e':s=t
     ·subst e'
      rw [if_pos rfl] at hg;cases hg
      rw [Option.bind_eq_some_iff] at h1
      obtain ⟨t',h3,h4⟩:=h1
      exact ⟨t',_,h3,h4,λ_ _ _ _ h=>h,trivial,List.mem_cons_self ..⟩
     ·rw [if_neg e'] at hg
      obtain ⟨t',e',h3,h4,h5,h6,h7⟩:=ZJ hU hP r h ys h2 t e hg
      exact ⟨t',e',h3,h4,h5,h6,List.mem_cons_of_mem _ h7⟩
    ·cases hd
  ·cases hd
 |(s,.tok)::r,h,x,hd,t,e,hg=>by
  unfold ZE at hd
  split at hd
  ·rename_i h1
   unfold Zu at hg
   rw [Z9] at hg
   by_cases e':s=t
   ·subst e'
    rw [if_pos rfl] at hg;cases hg
    rw [Option.bind_eq_some_iff] at h1
    obtain ⟨t',h3,h4⟩:=h1
    exact ⟨t',_,h3,h4,λ_ _ _ _ h=>h,trivial,List.mem_cons_self ..⟩
   ·rw [if_neg e'] at hg
    obtain ⟨t',e',h3,h4,h5,h6,h7⟩:=ZJ hU hP r h x hd t e hg
    exact ⟨t',e',h3,h4,h5,h6,List.mem_cons_of_mem _ h7⟩
  ·cases hd
 |(s,.iter)::r,h,x,hd,t,e,hg=>by
  unfold ZE at hd
  split at hd
  ·rename_i t0 pos ys h1 h2
   cases hd
   unfold Zu at hg
   rw [Z9] at hg
   by_cases e':s=t
   ·subst e'
    rw [if_pos rfl] at hg;cases hg
    rw [Option.bind_eq_some_iff] at h1
    obtain ⟨t',h3,h4⟩:=h1
    exact ⟨t',_,h3,h4,λ_ _ _ _ h=>h,trivial,List.mem_cons_self ..⟩
   ·rw [if_neg e'] at hg
    obtain ⟨t',e',h3,h4,h5,h6,h7⟩:=ZJ hU hP r h ys h2 t e hg
    exact ⟨t',e',h3,h4,h5,h6,List.mem_cons_of_mem _ h7⟩
  ·cases hd
 |(s,.Q20 gk gv ku vu)::r,h,x,hd,t,e,hg=>by
  unfold ZE at hd
  split at hd
  ·rename_i gk' gv' ku' vu' n g ys h1 h2
   cases hb:Z1T gk gk' && Z1T gv gv' with
   |false=>rw [hb] at hd;cases hd
   |true=>
    rw [hb] at hd
    simp only [cond_true] at hd
    rw [Bool.and_eq_true] at hb
    have e1:gk=gk':=by cases gk <;> cases gk' <;> first|rfl|(have:=hb.1;cases this)
    have e2:gv=gv':=by cases gv <;> cases gv' <;> first|rfl|(have:=hb.2;cases this)
    subst e1;subst e2
    split at hd
    ·rename_i e3 e4 _ _
     subst e3
     subst e4
     cases hd
     unfold Zu at hg
     rw [Z9] at hg
     by_cases e':s=t
     ·subst e'
      rw [if_pos rfl] at hg;cases hg
      rw [Option.bind_eq_some_iff] at h1
      obtain ⟨t',h3,h4⟩:=h1
      exact ⟨t',_,h3,h4,λ_ _ _ _ h=>h,trivial,List.mem_cons_self ..⟩
     ·rw [if_neg e'] at hg
      obtain ⟨t',e',h3,h4,h5,h6,h7⟩:=ZJ hU hP r h ys h2 t e hg
      exact ⟨t',e',h3,h4,h5,h6,List.mem_cons_of_mem _ h7⟩
    ·cases hd
  ·cases hd
 |(s,.Q1a u)::r,h,x,hd,t,e,hg=>by
  unfold ZE at hd
  split at hd
  ·rename_i v n g ys h1 h2
   split at hd
   ·rename_i e3 _
    subst e3
    cases hd
    unfold Zu at hg
    rw [Z9] at hg
    by_cases e':s=t
    ·subst e'
     rw [if_pos rfl] at hg;cases hg
     rw [Option.bind_eq_some_iff] at h1
     obtain ⟨t',h3,h4⟩:=h1
     exact ⟨t',_,h3,h4,λ_ _ _ _ h=>h,trivial,List.mem_cons_self ..⟩
    ·rw [if_neg e'] at hg
     obtain ⟨t',e',h3,h4,h5,h6,h7⟩:=ZJ hU hP r h ys h2 t e hg
     exact ⟨t',e',h3,h4,h5,h6,List.mem_cons_of_mem _ h7⟩
   ·cases hd
  ·cases hd
 |(s,.Q5O u)::r,h,x,hd,t,e,hg=>by
  unfold ZE at hd
  split at hd
  ·rename_i v n z f ys h1 h2
   split at hd
   ·rename_i e3 _
    subst e3
    cases hd
    unfold Zu at hg
    rw [Z9] at hg
    by_cases e':s=t
    ·subst e'
     rw [if_pos rfl] at hg;cases hg
     rw [Option.bind_eq_some_iff] at h1
     obtain ⟨t',h3,h4⟩:=h1
     exact ⟨t',_,h3,h4,λ_ _ _ _ h=>h,trivial,List.mem_cons_self ..⟩
    ·rw [if_neg e'] at hg
     obtain ⟨t',e',h3,h4,h5,h6,h7⟩:=ZJ hU hP r h ys h2 t e hg
     exact ⟨t',e',h3,h4,h5,h6,List.mem_cons_of_mem _ h7⟩
   ·cases hd
  ·rename_i v n f ys h1 h2
   cases hpl:U.plain v with
   |false=>rw [hpl] at hd;cases hd
   |true=>
    rw [hpl] at hd
    simp only [cond_true] at hd
    split at hd
    ·rename_i e3 _
     subst e3
     cases hd
     unfold Zu at hg
     rw [Z9] at hg
     by_cases e':s=t
     ·subst e'
      rw [if_pos rfl] at hg;cases hg
      rw [Option.bind_eq_some_iff] at h1
      obtain ⟨t',h3,h4⟩:=h1
      exact ⟨t',_,h3,h4,Z8B hU hpl,trivial,List.mem_cons_self ..⟩
     ·rw [if_neg e'] at hg
      obtain ⟨t',e',h3,h4,h5,h6,h7⟩:=ZJ hU hP r h ys h2 t e hg
      exact ⟨t',e',h3,h4,h5,h6,List.mem_cons_of_mem _ h7⟩
    ·cases hd
  ·cases hd
end
theorem Shape.at0 (hU:U.Ok) (hP:U.Pure) {base:Nat} {p:Shape U} {st:St U} {x:p.T} (h:p.dec0 base st=some x) {B:Q4A U} (hb:B.nx<=base) {a:Act} {w:World} (hA:B.At st a w):B.At (p.enc x) a w:=by
 obtain ⟨c,Φ,hn,hS,hE⟩:=hA
 unfold Shape.dec0 at h
 split at h
 ·rename_i m hm
  cases hc:Nat.beq st.n p.n && Nat.ble U.nf base && Nat.ble base p.nx && Z3N base p.nx m && p.heap.all (λq=>Nat.blt q.1 p.nx) with
  |false=>simp [hc] at h
  |true=>
   rw [hc] at h
   simp only [cond_true] at h
   simp only [Bool.and_eq_true] at hc
   obtain ⟨⟨⟨⟨hc1,hnf⟩,hc2⟩,hc3⟩,hc4⟩:=hc
   have hnf:=Nat.le_of_ble_eq_true hnf
   have hbx:=Nat.le_of_ble_eq_true hc2
   rw [List.all_eq_true] at hc4
   split at h
   ·rename_i x1 x2 h1 h2
    cases h
    have hent:=ZJ (m:=m) (base:=base) hU hP _ _ _ h2
    have hL:∀s i,s < base->(c.ren m base).L s i=c.L s i:=λs i hs=>Cx.Q3m (Z2a hs) i
    have hkeep:∀s,s < B.nx->∀i,(c.ren m base).L s i=c.L s i:=λs hs i=>hL s i (by omega)
    let Φ2:Nat->Nat->Nat->Prop:=λs b o=>∃t,Rf.ren m base s=some t/\Φ t b o
    have hΦ:∀s t b o,Rf.ren m base s=some t->(Φ2 s b o↔Φ t b o):=λs t b o hr=>⟨λ⟨t',h3,h4⟩=>by rw [hr] at h3;cases h3;exact h4,λh=>⟨t,hr,h⟩⟩
    have hΦ':∀s t,Rf.ren m base s=some t->Φ2 s=Φ t:=λs t hr=>by funext b o;exact propext (hΦ s t b o hr)
    have hin:∀s,(get (Zu p.heap x2) s).isSome->∃t,Rf.ren m base s=some t/\(get st.h t).isSome:=λs hs=>by
     obtain ⟨e,he⟩:=Option.isSome_iff_exists.1 hs
     obtain ⟨t,e',h3,h4,_⟩:=hent s e he
     exact ⟨t,h3,by simp [h4]⟩
    refine ⟨c.ren m base,Φ2,Nat.le_trans hb hbx,⟨by rw [hS.size];exact QH hc1,hS.defers,λt v hv=>?_,⟨λs e he=>?_,λs s' b o hne h3 h4 h5 h6=>?_,hS.g.imm,λs b o h3 h4=>?_⟩,λs hs=>?_⟩,⟨⟨λs i q hq=>?_,hE.le.I⟩,λs i hs hf=>?_,λs hs h3=>?_,hE.fr,λs hs=>?_,λs b o hs h3 h4=>?_,hE.Q32⟩⟩
    ·obtain ⟨v',h3,h4⟩:=ZT (c:=c) (m:=m) (base:=base) hU hP hnf _ _ _ _ h1 hm (λq hq=>QaL hc3 hq) t v hv
     exact h4 _ (hS.env t v' h3)
    ·obtain ⟨t,e',h3,h4,h5,h6,_⟩:=hent s e he
     rw [hΦ' s t h3]
     exact Q1s.ren hU hP hnf (h5 _ _ _ _ (hS.g.Q1M t e' h4)) h3 h6
    ·obtain ⟨t,h7,h8⟩:=hin s h3
     obtain ⟨t',h9,h10⟩:=hin s' h4
     refine hS.g.apart t t' b o (λe=>hne ?_) h8 h10 ((hΦ s t b o h7).1 h5) ((hΦ s' t' b o h9).1 h6)
     subst e
     exact QaH hc3 h7 h9
    ·obtain ⟨t,h7,h8⟩:=hin s h3
     exact hS.g.Q15 t b o h8 ((hΦ s t b o h7).1 h4)
    ·have hs:p.nx<=s:=hs
     refine ⟨?_,λk=>?_⟩
     ·cases hg:get (Zu p.heap x2) s with
      |none=>exact hg
      |some e=>
       obtain ⟨t,e',_,_,_,_,h8⟩:=hent s e hg
       obtain ⟨q,hq,rfl⟩:=List.mem_map.1 h8
       have:=Nat.le_of_ble_eq_true (hc4 q hq)
       omega
     ·show (Rf.ren m base s).bind _=none
      cases hr:Rf.ren m base s with
      |none=>rfl
      |some t=>
       have:=(Z3C hc3 (by omega) hr).2.1
       omega
    ·by_cases hs:s < B.nx
     ·rw [hkeep s hs];exact hE.le.L s i q hq
     ·rw [B.new s (by omega) i] at hq;cases hq
    ·rw [hkeep s hs];exact hE.L s i hs hf
    ·obtain ⟨t,h7,h8⟩:=hin s h3
     rw [Z2a (by omega)] at h7;cases h7
     exact hE.old s hs h8
    ·rw [hΦ' s s (Z2a (by have:=B.rw;omega))]
     exact hE.Q2p s hs
    ·obtain ⟨t,h7,h8⟩:=hin s h3
     refine hE.Q2g t b o ?_ h8 ((hΦ s t b o h7).1 h4)
     by_cases hlt:s < base
     ·rw [Z2a hlt] at h7;cases h7;exact hs
     ·have:=(Z3C hc3 hlt h7).1
      have:=B.rw
      omega
   ·cases h
 ·cases h
theorem QaF (hU:U.Ok) {t:Nat} {u:U.C} {st:St U} {B:Q4A U} {a:Act} {w:World} (hA:B.At st a w):B.At (own1 t u st) a w:=by
 unfold own1
 split
 ·rename_i x hx
  split
  ·rename_i xs hl
   obtain ⟨c,Φ,hn,hS,hE⟩:=hA
   have hr:=hS.env t _ hx
   obtain ⟨ad,cap,b,o,g,hv,hc,hT,ha,hi,hrr⟩:=(Z1Y hl (show R U c x _ from hr)).ex
   have hT:cap=xs.length:=hT
   let c':Cx:={ L:=λs i=>if s=st.nx then (if i=0\/i=1 then some (b,o+xs.length*U.size u) else none) else c.L s i,I:=c.I}
   have hnx:∀i,c.L st.nx i=none:=(hS.fresh st.nx (Nat.le_refl _)).2
   have hle:c.Le c':=⟨λs i q hq=>by
    by_cases e:s=st.nx
    ·subst e;rw [hnx] at hq;cases hq
    ·simp only [c',if_neg e];exact hq,λ_ _ _ h=>h⟩
   have hold:∀s i,s≠st.nx->c'.L s i=c.L s i:=λs i e=>by simp only [c',if_neg e]
   let Φ':Nat->Nat->Nat->Prop:=λs b o=>s≠st.nx/\Φ s b o
   have hΦ:∀s,s≠st.nx->Φ' s=Φ s:=λs e=>by funext b o;exact propext ⟨λh=>h.2,λh=>⟨e,h⟩⟩
   have hsome:∀s,(get st.h s).isSome->s≠st.nx:=λs hs e=>by subst e;rw [(hS.fresh st.nx (Nat.le_refl _)).1] at hs;cases hs
   have hcase:∀s,s≠st.nx->get ((st.nx,(Ent.tok:Ent U))::st.h) s=get st.h s:=λs e=>by rw [Z9,if_neg (λh=>e h.symm)]
   refine ⟨c',Φ',Nat.le_succ_of_le hn,⟨hS.size,hS.defers,λt' v hv'=>?_,⟨λs e he=>?_,λs s' b' o' hne h3 h4 h5 h6=>?_,hS.g.imm,λs b' o' h3 h4=>?_⟩,λs hs=>?_⟩,⟨hE.le.trans hle,λs i hs hf=>?_,λs hs h3=>?_,hE.fr,λs hs=>?_,λs b' o' hs h3 h4=>?_,hE.Q32⟩⟩
   ·rw [Z9] at hv'
    by_cases e:t=t'
    ·subst e
     rw [if_pos rfl] at hv';cases hv'
     rw [hv]
     refine R.isl (c:=c') g hc ⟨b,o+xs.length*U.size u,o+xs.length*U.size u,by simp [c'],by simp [c'],λhpos=>⟨ha (by omega),rfl,rfl,by rw [hT];exact Nat.le_refl _⟩⟩ ha hi λi k h1 h2=>(hrr i k h1 h2).mono hle
    ·rw [if_neg e] at hv'
     exact (hS.env t' v hv').mono hle
   ·by_cases e1:s=st.nx
    ·subst e1
     rw [Z9,if_pos rfl] at he;cases he
     exact ⟨b,o+xs.length*U.size u,o+xs.length*U.size u,by simp [c'],by simp [c'],λx h1 h2=>by omega,λb' x h=>absurd rfl h.1⟩
    ·rw [hcase s e1] at he
     rw [hΦ s e1]
     exact (hS.g.Q1M s e he).stays hU hle (λi=>hold s i e1) (Agr.refl _ _)
   ·exact hS.g.apart s s' b' o' hne (by rw [←hcase s h5.1];exact h3) (by rw [←hcase s' h6.1];exact h4) h5.2 h6.2
   ·exact hS.g.Q15 s b' o' (by rw [←hcase s h4.1];exact h3) h4.2
   ·have hs:st.nx+1<=s:=hs
    obtain ⟨h3,h4⟩:=hS.fresh s (by omega)
    exact ⟨by rw [hcase s (by omega)];exact h3,λk=>by rw [hold s k (by omega)];exact h4 k⟩
   ·rw [hold s i (by omega)];exact hE.L s i hs hf
   ·exact hE.old s hs (by rw [←hcase s (by omega)];exact h3)
   ·have:=B.rw
    rw [hΦ s (by omega)];exact hE.Q2p s hs
   ·exact hE.Q2g s b' o' hs (by rw [←hcase s h4.1];exact h3) h4.2
  ·exact hA
 ·exact hA
theorem Z17 (hU:U.Ok):∀(l:List (Nat×JV U.C)) {st:St U} {B:Q4A U} {a:Act} {w:World},B.At st a w->B.At (Z61 l st) a w
 | [],st,B,a,w,h=>h
 |(t,.own u k)::r,st,B,a,w,h=>Z17 hU r (QaF hU h)
 |(t,.val s)::r,st,B,a,w,h=>Z17 hU r h
 |(t,.ptr s i off)::r,st,B,a,w,h=>Z17 hU r h
 |(t,.Q6S)::r,st,B,a,w,h=>Z17 hU r h
 |(t,.full u)::r,st,B,a,w,h=>Z17 hU r h
 |(t,.Q1q _ _ _ _ _)::r,st,B,a,w,h=>Z17 hU r h
 |(t,.asl _ _ _ _)::r,st,B,a,w,h=>Z17 hU r h
 |(t,.rsl _)::r,st,B,a,w,h=>Z17 hU r h
 |(t,.clo _ _)::r,st,B,a,w,h=>Z17 hU r h
theorem Shape.at1 (hU:U.Ok) (hP:U.Pure) {b:Nat×Nat} {p:Shape U} {st:St U} {x:p.T} (h:p.dec1 b st=some x) {B:Q4A U} (hb:B.ro=b.1/\B.nx<=b.2) {a:Act} {w:World} (hA:B.At st a w):B.At (p.enc x) a w:=by
 unfold Shape.dec1 at h
 split at h
 ·rename_i m hm
  cases hw:Q4U b.1 (ZC (Q4q (Z1B b.2 m p.heap) st.h) st.h) with
  |false=>rw [hw] at h;cases h
  |true=>
   rw [hw] at h
   simp only [cond_true] at h
   refine Shape.at0 hU hP h hb.2 ?_
   obtain ⟨c,Φ,hn,hS,hE⟩:=hA
   obtain ⟨Φ',h1⟩:=Z2G (nx:=st.nx) hU (Q4q (Z1B b.2 m p.heap) st.h) st.h Φ hS.g
   have hE':=hE.step h1 (by rw [hb.1];exact hw) hn
   refine ⟨c,Φ',hn,⟨hS.size,hS.defers,hS.env,h1.g,λs hs=>⟨?_,(hS.fresh s hs).2⟩⟩,hE'⟩
   show get (ZC (Q4q (Z1B b.2 m p.heap) st.h) st.h++st.h) s=none
   rw [Zh]
   have h2:=(hS.fresh s hs).1
   by_cases hm:s∈(ZC (Q4q (Z1B b.2 m p.heap) st.h) st.h).map (·.1)
   ·rcases h1.names s hm with ⟨h3,h4⟩|h3
    ·have h4:s < st.nx+0:=h4
     have hs:st.nx<=s:=hs
     omega
    ·rw [h2] at h3;cases h3
   ·rw [Zg hm];exact h2
 ·cases h
theorem Shape.at (hU:U.Ok) (hP:U.Pure) {b:Nat×Nat} {p:Shape U} {st:St U} {x:p.T} (h:p.dec b st=some x) {B:Q4A U} (hb:B.ro=b.1/\B.nx<=b.2) {a:Act} {w:World} (hA:B.At st a w):B.At (p.enc x) a w:=
 Shape.at1 hU hP h hb (Z17 hU p.env hA)
def Form (ops:List Oper) (st st':St U):Prop:=∃pe ph,st'.env=pe++st.env/\(∀p∈pe,p.1∈ops.filterMap (·.dst))/\st'.h=ph++st.h
theorem Z3i {Γ:Nat->Option (Native U)} {ro:Nat} {dr:Bool} {ops:List Oper} {ms:List Nat} {ρ:Type} {J:Bool->ρ->ρ->ρ} {fail:ρ}:∀(rest:List Oper) (j:Nat) (acc:List (Nat×Info)) (st:St U) (K K':St U->ρ),
  (∀st',Form rest st st'->K st'=K' st')->Z12 P Γ ro dr ops ms J fail rest j acc st K=Z12 P Γ ro dr ops ms J fail rest j acc st K'
 | [],j,acc,st,K,K',h=>h st ⟨[],[],rfl,λp hp=>(by cases hp),rfl⟩
 |o::rest,j,acc,st,K,K',h=>by
  have ih:∀j acc out,Z12 P Γ ro dr ops ms J fail rest j acc (st.apply o.dst out) K=Z12 P Γ ro dr ops ms J fail rest j acc (st.apply o.dst out) K':=λj acc out=>
   Z3i rest j acc _ K K' λst' ⟨pe,ph,h1,h2,h3⟩=>h st' (by
    cases hd:o.dst with
    |none=>
     refine ⟨pe,ph++out.w,by rw [h1];simp [St.apply,hd],λp hp=>?_,by rw [h3];simp [St.apply]⟩
     have:=h2 p hp
     simp only [List.filterMap_cons,hd];exact this
    |some d=>
     refine ⟨pe++ [(d,out.v)],ph++out.w,by rw [h1];simp [St.apply,hd],λp hp=>?_,by rw [h3];simp [St.apply]⟩
     simp only [List.filterMap_cons,hd,List.mem_cons]
     rcases List.mem_append.1 hp with hp|hp
     ·exact .inr (h2 p hp)
     ·simp at hp;subst hp;exact .inl rfl)
  unfold Z12
  simp only [ih]
theorem Z3Z {α:Type} (f:Nat->Bool):∀(l:List (Nat×α)) (t:Nat),get (l.filter λp=>f p.1) t=if f t then get l t else none
 | [],t=>by simp [get]
 |(k,v)::l,t=>by
  rw [List.filter_cons]
  by_cases hk:f k=true
  ·rw [if_pos hk,Z9,Z9,Z3Z f l t]
   by_cases e:k=t
   ·subst e;simp [hk]
   ·simp [e]
  ·rw [if_neg hk,Z3Z f l t,Z9]
   by_cases e:k=t
   ·subst e;simp [hk]
   ·simp [e]
theorem Z5c (hU:U.Ok) (hP:U.Pure):∀(l:List (Nat×JV U.C)) (env:Env U) (x:JVs U l),ZG l env=some x->l.all (λp=>p.2.isVal)=true->
  ∀t v,get (Zv l x) t=some v->∃v',get env t=some v'/\∀c u,RA U c v' u->RA U c v u
 | [],env,x,h,ha,t,v,hg=>by cases hg
 |(s,.val sh)::r,env,x,h,ha,t,v,hg=>by
  simp only [List.all_cons,JV.isVal,Bool.true_and] at ha
  unfold ZG at h
  split at h
  ·rename_i y ys h1 h2
   cases hp:sh.Q4S||sh.Q5w with
   |true=>simp [hp] at h
   |false=>
    simp only [hp,cond_false] at h
    rw [Bool.or_eq_false_iff] at hp
    split at h
    ·rename_i z hz
     cases h
     unfold Zv at hg
     rw [Z9] at hg
     by_cases e:s=t
     ·subst e
      rw [if_pos rfl] at hg;cases hg
      exact ⟨_,h1,λc u hr=>Z6n (c:=c) (d:=c) hP hU (.refl c) hz hp.1 hp.2 hr 0⟩
     ·rw [if_neg e] at hg
      exact Z5c hU hP r env ys h2 ha t v hg
    ·cases h
  ·cases h
 |(s,.ptr a i off)::r,env,x,h,ha,t,v,hg=>by simp [JV.isVal] at ha
 |(s,.Q6S)::r,env,x,h,ha,t,v,hg=>by simp [JV.isVal] at ha
 |(s,.own u k)::r,env,x,h,ha,t,v,hg=>by simp [JV.isVal] at ha
 |(s,.full u)::r,env,x,h,ha,t,v,hg=>by simp [JV.isVal] at ha
 |(s,.Q1q _ _ _ _ _)::r,env,x,h,ha,t,v,hg=>by simp [JV.isVal] at ha
 |(s,.asl _ _ _ _)::r,env,x,h,ha,t,v,hg=>by simp [JV.isVal] at ha
 |(s,.rsl _)::r,env,x,h,ha,t,v,hg=>by simp [JV.isVal] at ha
 |(s,.clo _ _)::r,env,x,h,ha,t,v,hg=>by simp [JV.isVal] at ha
theorem Z8X (hU:U.Ok) (hP:U.Pure) {l:List (Nat×JV U.C)} {ops:List Oper} {st st':St U} (hF:Form ops st st') {x:JVs U l}
  (h:Z4v l st st'=some x):
  Imp U st' { n:=st.n,env:=Zv l x++st.env.filter (λp=>!mem p.1 (ops.filterMap (·.dst))),h:=st.h,nx:=st.nx}:=by
 obtain ⟨pe,ph,h1,h2,h3⟩:=hF
 unfold Z4v at h
 cases hb:l.all (λp=>p.2.isVal) && Nat.beq st'.n st.n && Nat.beq st'.nx st.nx && Nat.beq st'.h.length st.h.length with
 |false=>rw [hb] at h;cases h
 |true=>
  rw [hb] at h
  simp only [cond_true] at h
  simp only [Bool.and_eq_true] at hb
  obtain ⟨⟨⟨hb1,hb2⟩,hb3⟩,hb4⟩:=hb
  have hph:ph= []:=by
   have:=QH hb4
   rw [h3,List.length_append] at this
   exact List.eq_nil_of_length_eq_zero (by omega)
  subst hph
  refine Imp.of (QH hb2) (λt v hv=>?_) (λs e hs=>⟨e,by rw [h3];exact hs,λ_ _ _ _ h=>h⟩) (Nat.le_of_eq (QH hb3))
  rw [Zh] at hv
  cases hg:get (Zv l x) t with
  |some u=>
   rw [hg] at hv
   cases hv
   exact Z5c hU hP l _ x h hb1 t v hg
  |none=>
   rw [hg] at hv
   simp only at hv
   rw [Z3Z (λk=>!mem k (ops.filterMap (·.dst)))] at hv
   split at hv
   ·rename_i hm
    refine ⟨v,?_,λ_ _ h=>h⟩
    rw [h1,Zh,Zg,hv]
    intro hin
    obtain ⟨p,hp,rfl⟩:=List.mem_map.1 hin
    have:=Z2k.2 (h2 p hp)
    simp [this] at hm
   ·cases hv
theorem Z8h {e e':Exit} (h:Q8m e e'=true):e=e':=by
 cases e <;> cases e' <;> first|rfl|(cases h;done)|(have:=QH h;subst this;rfl)
theorem Z3L (hU:U.Ok) (hP:U.Pure) {base:Nat×Nat} {ρ:Type} {K:Exit->St U->ρ}:∀(l:Qt U) (e:Exit) (st:St U) (x:ExT l),Z1S base l e st=some x->
  ∃st',Q7f l x K=K e st'/\∀(B:Q4A U) (a:Act) (w:World),(B.ro=base.1/\B.nx<=base.2)->B.At st a w->B.At st' a w
 | [],e,st,x,h=>by cases h
 | [(e',p)],e,st,x,h=>by
  unfold Z1S at h
  cases hb:Q8m e' e with
  |false=>simp [hb] at h
  |true=>
   simp only [hb,cond_true] at h
   have:=Z8h hb
   subst this
   exact ⟨_,rfl,λB a w h1 h2=>Shape.at hU hP h h1 h2⟩
 |(e',p)::q::r,e,st,x,h=>by
  unfold Z1S at h
  cases hb:Q8m e' e with
  |false=>
   simp only [hb,cond_false] at h
   split at h
   ·rename_i y hy
    cases h
    exact Z3L hU hP (q::r) e st y hy
   ·cases h
  |true=>
   simp only [hb,cond_true] at h
   have:=Z8h hb
   subst this
   split at h
   ·rename_i y hy
    cases h
    exact ⟨_,rfl,λB a w h1 h2=>Shape.at hU hP hy h1 h2⟩
   ·cases h
end Go.Rf
