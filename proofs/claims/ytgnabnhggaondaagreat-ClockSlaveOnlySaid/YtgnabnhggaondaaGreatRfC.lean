/- An evaluator of the model's code, and the proof that it is sound. Own work; no program in it. -/
import Derived.Test.YtgnabnhggaondaaGreatRfB
import Derived.Scope
namespace Go.Rf
set_option linter.unusedVariables false
set_option linter.unusedSimpArgs false
variable {U : QY} {P : Program} {c : Cx} {Φ : Nat -> Nat -> Nat -> Prop} {h : Qq U} {nx : Nat} {w : World}
def PlF (c:Cx) (w:World) (b o:Nat) (cells:List U.S) (F:Nat->Nat->Prop):Prop:=
 ∃G,Pl U c w b o cells G/\∀b' o',F b' o'↔∃k,k < cells.length/\G k b' o'
theorem Qcf (hU:U.Ok) {b o k n:Nat} {F:Nat->Nat->Prop} {v:U.C} {cells cells':List U.S} (hp:Z4u k v n cells=some cells') (hE:PlF c w b o cells F):PlF c w b o cells' F/\cells'.length=cells.length:=by
 unfold Z4u at hp
 cases hb:Nat.beq (QO k (n*U.size v) cells).length (n*U.size v) && (QO k (n*U.size v) cells).all Z1Y && Nat.ble 1 (n*U.size v) with
 |false=>rw [hb] at hp;cases hp
 |true=>
  rw [hb] at hp
  simp only [cond_true] at hp
  simp only [Bool.and_eq_true] at hb
  obtain ⟨⟨h1,_⟩,h2⟩:=hb
  have h1:=QV h1
  have h2:=Nat.le_of_ble_eq_true h2
  split at hp
  ·rename_i xs hx
   cases hp
   obtain ⟨Gk,hP,hΦ⟩:=hE
   obtain ⟨hxl,hxa⟩:=Z30 _ _ _ hx
   have hcl:k+n*U.size v<=cells.length:=by
    have:=h1;unfold QO at this;simp at this;omega
   have hnl:(S.Q1l v n (λj=>xs.getD j (U.dft v))::List.replicate (n*U.size v - 1) S.hole:List U.S).length=n*U.size v:=by simp;omega
   have hle:k+(S.Q1l v n (λj=>xs.getD j (U.dft v))::List.replicate (n*U.size v - 1) S.hole:List U.S).length<=cells.length:=by rw [hnl];exact hcl
   refine ⟨⟨λj b' o'=>if k<=j/\j < k+n*U.size v then (j=k/\∃i,i < n*U.size v/\Gk (k+i) b' o') else Gk j b' o',⟨λj x hj=>?_,λi j b' o' hi hj hne f1 f2=>?_⟩,λb' o'=>?_⟩,Zo hle⟩
   ·try dsimp only
    by_cases hin:k<=j/\j < k+n*U.size v
    ·obtain ⟨i,rfl⟩:∃i,j=k+i:=⟨j - k,by omega⟩
     rw [Zx hle (by rw [hnl];omega)] at hj
     simp only [if_pos hin]
     cases i with
     |zero=>
      simp at hj;subst hj
      refine .Q1l (λj=>Gk (k+j)) (λq x hq=>?_) (λj1 j2 b' o' q1 q2 q3=>hP.dis _ _ b' o' (by omega) (by omega) (by omega)) λb' o'=>⟨λhh=>hh.2,λhh=>⟨by omega,hh⟩⟩
      obtain ⟨i,k',hi,hk',rfl,hx'⟩:=Z2E hU v n _ hq
      have hle2:i*U.size v+U.size v<=n*U.size v:=by
       have:(i+1)*U.size v<=n*U.size v:=Nat.mul_le_mul_right _ hi
       rwa [Nat.succ_mul] at this
      have h3:=hxa i hi
      rw [Z52 hle2] at h3
      have h4:=((hP.sub (off:=k+i*U.size v) (n:=U.size v) (hU.Q4G _ _ _ h3)).dec hU h3).own k' x hx'
      rw [show o+(k+0)+(i*U.size v+k')=o+(k+i*U.size v)+k' by omega,show k+(i*U.size v+k')=k+i*U.size v+k' by omega]
      exact h4
     |succ i=>
      have hj':i < n*U.size v - 1:=by omega
      simp [List.getElem?_replicate,hj'] at hj
      subst hj
      exact .hole λ_ _ hh=>by have:=hh.1;omega
    ·rw [Zp hle (by rw [hnl];omega)] at hj
     simp only [if_neg hin]
     exact hP.own j x hj
   ·rw [Zo hle] at hi hj
    try dsimp only at f1 f2
    by_cases hi':k<=i/\i < k+n*U.size v
    ·rw [if_pos hi'] at f1
     obtain ⟨rfl,q,hq,f1⟩:=f1
     by_cases hj':i<=j/\j < i+n*U.size v
     ·rw [if_pos hj'] at f2
      exact hne f2.1.symm
     ·rw [if_neg hj'] at f2
      exact hP.dis (i+q) j b' o' (by omega) hj (by omega) f1 f2
    ·rw [if_neg hi'] at f1
     by_cases hj':k<=j/\j < k+n*U.size v
     ·rw [if_pos hj'] at f2
      obtain ⟨rfl,q,hq,f2⟩:=f2
      exact hP.dis i (j+q) b' o' hi (by omega) (by omega) f1 f2
     ·rw [if_neg hj'] at f2
      exact hP.dis i j b' o' hi hj hne f1 f2
   ·rw [Zo hle,hΦ]
    constructor
    ·rintro ⟨j,hj,hf⟩
     by_cases hin:k<=j/\j < k+n*U.size v
     ·exact ⟨k,by omega,by dsimp only;rw [if_pos ⟨Nat.le_refl _,by omega⟩];exact ⟨rfl,j - k,by omega,by rw [show k+(j - k)=j by omega];exact hf⟩⟩
     ·exact ⟨j,hj,by dsimp only;rw [if_neg hin];exact hf⟩
    ·rintro ⟨j,hj,hf⟩
     try dsimp only at hf
     by_cases hin:k<=j/\j < k+n*U.size v
     ·rw [if_pos hin] at hf
      obtain ⟨_,q,hq,hf⟩:=hf
      exact ⟨k+q,by omega,hf⟩
     ·rw [if_neg hin] at hf
      exact ⟨j,hj,hf⟩
  ·cases hp
theorem Qdo (hU:U.Ok) {s k n:Nat} {F:Nat->Nat->Prop} {v:U.C} {cells cells':List U.S} (hp:Z4u k v n cells=some cells') (hE:Q1J c w s F (.obj cells:Ent U)):Q1J c w s F (.obj cells':Ent U):=by
 obtain ⟨b,o,G,e1,e2,hP,hF⟩:=hE
 obtain ⟨⟨G',h1,h2⟩,_⟩:=Qcf hU hp ⟨G,hP,hF⟩
 exact ⟨b,o,G',e1,e2,h1,h2⟩
theorem Z5m (hU:U.Ok) {s:Nat} {F:Nat->Nat->Prop}:∀(tm:List U.S) (k:Nat) (cells:List U.S),Q1J c w s F (.obj cells:Ent U)->Q1J c w s F (.obj (Q8O tm k cells):Ent U)
 | [],k,cells,h=>h
 |x::r,k,cells,h=>by
  unfold Q8O
  split
  ·rename_i h1;cases h1
  ·rename_i v n f r' k' cells' heq
   cases heq
   refine Z5m hU _ _ _ ?_
   split
   ·exact h
   ·split
    ·rename_i l hl;exact Qdo hU hl h
    ·exact h
  ·rename_i x' r' k' cells' hne heq
   cases heq
   exact Z5m hU _ _ _ h
theorem Qbh {α:Type} {k j:Nat} {x:α} {l:List α} (hk:k < l.length):(Zk k x l)[j]? =if j=k then some x else l[j]? :=by
 unfold Zk
 by_cases e:j=k
 ·subst e
  rw [if_pos rfl]
  have:=Zx (off:=j) (k:=0) (new:= [x]) (l:=l) (by simp;omega) (by simp)
  rw [Nat.add_zero] at this
  rw [this];rfl
 ·rw [if_neg e,Zp (by simp;omega) (by simp;omega)]
theorem Z3g {α:Type} {k:Nat} {x:α} {l:List α} (hk:k < l.length):(Zk k x l).length=l.length:=by unfold Zk;exact Zo (by simp;omega)
theorem Z2y {b o:Nat} {u:U.C} {xs:List (U.D u)} {Gk:Nat->Nat->Prop} (h:Own U c w b o (.isl .full u xs) Gk):Own U c w b o (.Q2d u xs) (λb' o'=>Gk b' o'\/False):=by
 obtain ⟨⟨v,h1,h2⟩,h3,h4⟩:=h.plain rfl
 cases h2 with
 | @isl _ _ _ a cap b1 o1 g hc ht ha hi hr=>
  have ht:cap=xs.length:=ht
  subst ht
  exact .Q2d (b1:=b1) (o1:=o1) g h1 h3 (Nat.le_refl _) (λhpos=>ha hpos) hi hr (λx q1 q2=>by omega) (λ_ q1 q2=>by omega) λb' o'=>by
   rw [h4]
   constructor
   ·rintro (h|h)
    ·exact .inl h
    ·exact h.elim
   ·rintro (h|h)
    ·exact .inl h
    ·omega
theorem Z7L {b o:Nat} {F:Nat->Nat->Prop} {cells:List U.S} (hE:PlF c w b o cells F) {k:Nat} {x:U.S} (hk:k < cells.length)
  (hx:∀G,Pl U c w b o cells G->Own U c w b (o+k) x (G k)):PlF c w b o (Zk k x cells) F:=by
 obtain ⟨G,hP,hF⟩:=hE
 refine ⟨G,⟨λj y hj=>?_,λi j b' o' hi hj hne f1 f2=>?_⟩,λb' o'=>?_⟩
 ·rw [Qbh hk] at hj
  by_cases e:j=k
  ·subst e
   rw [if_pos rfl] at hj;cases hj
   exact hx G hP
  ·rw [if_neg e] at hj
   exact hP.own j y hj
 ·rw [Z3g hk] at hi hj
  exact hP.dis i j b' o' hi hj hne f1 f2
 ·rw [Z3g hk];exact hF b' o'
theorem Z83 {G:Nat->Nat->Prop}:(λb' o'=>G b' o'\/False)=G:=by funext b' o';simp
theorem Z7f (hU:U.Ok) {b o:Nat} {F:Nat->Nat->Prop}:∀(tm:List U.S) (k:Nat) (cells:List U.S),PlF c w b o cells F->PlF c w b o (Z2w tm k cells) F/\(Z2w tm k cells).length=cells.length
 | [],k,cells,h=>⟨h,rfl⟩
 |x::r,k,cells,h=>by
  have step:∀l:List U.S,PlF c w b o l F/\l.length=cells.length->PlF c w b o (Z2w r (k+1) l) F/\(Z2w r (k+1) l).length=cells.length:=λl ⟨h1,h2⟩=>by
   obtain ⟨h3,h4⟩:=Z7f hU r (k+1) l h1
   exact ⟨h3,h4.trans h2⟩
  cases x with
  |Q1l v n f=>
   refine step _ ?_
   split
   ·rename_i l hl;exact Qcf hU hl h
   ·exact ⟨h,rfl⟩
  |Q2d u ys=>
   refine step _ ?_
   split
   ·rename_i v xs hc
    split
    ·rename_i e _
     subst e
     have hk:=(List.getElem?_eq_some_iff.1 hc).1
     exact ⟨Z7L h hk λG hP=>Z83 (G:=G k)▸Z2y (hP.own k _ hc),Z3g hk⟩
    ·exact ⟨h,rfl⟩
   ·rename_i hc
    have hk:=(List.getElem?_eq_some_iff.1 hc).1
    exact ⟨Z7L h hk λG hP=>Z83 (G:=G k)▸Z2y (Own.le (hP.own k _ hc) ⟨rfl,λc v hr=>by
     cases R.Q1z hr
     exact R.isl (xs:= []) (b:=0) (o:=0) (λ_ _=>undef) (Nat.le_refl _) (by rfl) (λhh=>by simp at hh) (λi k hi=>by simp at hi) (λi k hi=>by simp at hi),λh=>by cases h⟩),Z3g hk⟩
   ·exact ⟨h,rfl⟩
  |_=>exact step _ ⟨h,rfl⟩
theorem PlF.dec (hU:U.Ok) {b o:Nat} {l:List U.S} {u:U.C} {x:U.D u} {F:Nat->Nat->Prop} (h:PlF c w b o l F) (hd:U.dec u l=some x):PlF c w b o (U.enc u x) F:=
 let ⟨G,hP,hF⟩:=h
 ⟨G,hP.dec hU hd,λb' o'=>by rw [hF,hU.QH,←hU.Q4G u l x hd]⟩
theorem QC.QdC (hU:U.Ok) {F n:Nat} {u:U.C} {f:Nat->U.D u} {x:U.D u} {l:List U.S} {vs:List Value} {t:TypeId} (hg:G U c Φ h w) (hk:get h F=some (.fam false u n f)) (hF:F < U.nf)
  (hl:RL U c l vs) {tm:List U.S} (hd:U.dec u (Z2w tm 0 l)=some x):
  ∃c' Φ',QC U c Φ h nx { v:=Rf.sc (.ptr F n 0),rd:= [F],w:= [(F,.fam false u (n+1) (Qr f n x))]} w c' Φ' (.pointer (some (at_ w.heap.size 0))) (w.alloc (.cells vs.toArray t)):=by
 have hsome:(get h F).isSome:=by rw [hk];rfl
 have hE:=hg.Q1U F _ hk
 obtain ⟨A,Gn,h0,h1,h2,h3,h4,_⟩:=id hE
 let c':Cx:={ L:=λt i=>if t=F/\i=n then some (w.heap.size,0) else c.L t i,I:=c.I}
 have hcn:c.L F n=none:=by
  cases hx:c.L F n with
  |none=>rfl
  |some q=>have:=h1 n q hx;omega
 have hc:c.Le c':=⟨λt i q hq=>by
  by_cases e:t=F/\i=n
  ·obtain ⟨rfl,rfl⟩:=e;rw [hcn] at hq;cases hq
  ·simp [c',e,hq],λ_ _ _ h=>h⟩
 have hLo:∀t i,t≠F->c'.L t i=c.L t i:=λt i ht=>by simp [c',ht]
 let N:Nat->Nat->Prop:=λb o=>b=w.heap.size/\o < l.length
 let F':Nat->Nat->Prop:=λb o=>Φ F b o\/N b o
 have hlt:∀t b o,(get h t).isSome->Φ t b o->b < w.heap.size:=λt b o ht hf=>hg.lt hU ht hf
 refine ⟨c',fup Φ F F',?_⟩
 refine { le:=hc,L:=λs i hs hs2=>hLo s i λe=>hs2 ⟨e▸hF,by simp [e]⟩,val:= ?_,g:= ?_,fr:=Fr.alloc _ _ _,Q2T:=λs hsn=>?_,Q2q:=λs b o hsn hf=>?_,names:=λs hsn=>?_,Q3w:=λ_ _ _ h=>.inl h}
 ·exact .ptr (o:=0) (by simp [c'])
 ·refine hg.put hU hc hLo ?_ (λt _ h1=>(Fr.alloc (λ_ _=>False) w _).agr (λb o hf=>hlt t b o h1 hf) (λ_ _ _ h=>h))
   (λt b o hne h1 hf hF'=>by
    rcases hF' with hF'|hF'
    ·exact hg.apart t F b o hne h1 hsome hf hF'
    ·exact Nat.lt_irrefl _ (hF'.1▸hlt t b o h1 hf))
   (λb o v hv=>(Z18 w _ (Zi (hg.imm b o v hv))).trans (hg.imm b o v hv))
   (λt b o _ h1 hf=>hg.Q1a t b o h1 hf)
   (λb o hF'=>?_)
  ·have hold:Agr (Φ F) w (w.alloc (.cells vs.toArray t)):=(Fr.alloc (λ_ _=>False) w _).agr (λb o hf=>hlt F b o hsome hf) (λ_ _ _ h=>h)
   obtain ⟨Gx,hPx,hGx⟩:PlF c' (w.alloc (.cells vs.toArray t)) w.heap.size 0 (U.enc u x) N:=
    (Z7f hU tm 0 l ⟨λk b' o'=>b'=w.heap.size/\o'=0+k,Pl.Qcr (hl.mono hc) (λk v hv=>by simpa using hv) (λk hk=>by simp),λb' o'=>⟨λhh=>⟨o',hh.2,hh.1,by omega⟩,λ⟨k,h1,h2,h3⟩=>⟨h2,by omega⟩⟩⟩).1.dec hU hd
   have hxn:∀k b o,k < U.size u->Gx k b o->b=w.heap.size:=λk b o hk hf=>((hGx b o).2 ⟨k,by rw [hU.QH];exact hk,hf⟩).1
   refine ⟨λi=>if i=n then (w.heap.size,0) else A i,λi k b o=>if i=n then Gx k b o else Gn i k b o,λi hi=>?_,λi q hq=>?_,λi hi=>?_,λi j k l' b o hi hj hk hl' hne f1 f2=>?_,λb o=>?_,λhh=>by cases hh⟩
   ·by_cases e:i=n
    ·subst e;simp [c']
    ·simp only [if_neg e];rw [show c'.L F i=c.L F i by simp [c',e]];exact h0 i (by omega)
   ·by_cases e:i=n
    ·omega
    ·rw [show c'.L F i=c.L F i by simp [c',e]] at hq
     have:=h1 i q hq;omega
   ·by_cases e:i=n
    ·subst e
     simp only [if_pos rfl,Qr]
     exact hPx
    ·simp only [if_neg e,Qr]
     exact (h2 i (by omega)).stays hU hc λk hk=>hold.sub λb o hf=>(h4 _ _).2 ⟨i,k,by omega,by rw [←hU.QH u (f i)];exact hk,hf⟩
   ·dsimp only at f1 f2
    have hin:∀i k b o,i < n->k < U.size u->Gn i k b o->b < w.heap.size:=λi k b o hi hk hf=>hlt F b o hsome ((h4 _ _).2 ⟨i,k,hi,hk,hf⟩)
    by_cases e:i=n
    ·rw [if_pos e] at f1
     rw [if_neg (by omega)] at f2
     have:=hin j l' b o (by omega) hl' f2
     have:=hxn k b o hk f1
     omega
    ·rw [if_neg e] at f1
     by_cases e2:j=n
     ·rw [if_pos e2] at f2
      have:=hin i k b o (by omega) hk f1
      have:=hxn l' b o hl' f2
      omega
     ·rw [if_neg e2] at f2
      exact h3 i j k l' b o (by omega) (by omega) hk hl' hne f1 f2
   ·constructor
    ·rintro (hf|hf)
     ·obtain ⟨i,k,hi,hk,hf⟩:=(h4 _ _).1 hf
      exact ⟨i,k,by omega,hk,by dsimp only;rw [if_neg (by omega)];exact hf⟩
     ·obtain ⟨k,hk,hf⟩:=(hGx _ _).1 hf
      exact ⟨n,k,by omega,by rw [hU.QH] at hk;exact hk,by dsimp only;rw [if_pos rfl];exact hf⟩
    ·rintro ⟨i,k,hi,hk,hf⟩
     by_cases e:i=n
     ·rw [if_pos e] at hf
      exact .inr ((hGx _ _).2 ⟨k,by rw [hU.QH];exact hk,hf⟩)
     ·rw [if_neg e] at hf
      exact .inl ((h4 _ _).2 ⟨i,k,by omega,hk,hf⟩)
  ·rcases hF' with hF'|hF'
   ·exact hg.Q1a F b o hsome hF'
   ·cases hI:c.I b o with
    |none=>rfl
    |some v=>
     have:=Zi (hg.imm b o v hI)
     rw [hF'.1] at this
     exact absurd this (Nat.lt_irrefl _)
 ·simp at hsn;simp [fup,hsn]
 ·simp at hsn;subst hsn
  simp [fup] at hf
  rcases hf with hf|hf
  ·exact .inr ⟨s,by simp,hsome,hf⟩
  ·exact .inl (by rw [hf.1];exact Nat.le_refl _)
 ·simp at hsn;subst hsn;exact .inr hsome
theorem Qb7 (hU:U.Ok) {t t':TypeId} {h':Qq U} {l:List U.S} {vs:List Value} {out:Out U} (ho:(Q9s nx t l h').outs=some out) (hag:∀s,s∈out.rd\/s∈out.w.map (·.1)->get h s=get h' s)
  (hg:G U c Φ h w) (hf:∀s,nx<=s->s < nx+out.nw->get h s=none/\∀i,c.L s i=none) (hl:RL U c l vs):
  ∃c' Φ',QC U c Φ h nx out w c' Φ' (.pointer (some (at_ w.heap.size 0))) (w.alloc (.cells vs.toArray t')):=by
 have plain:out={ v:=Rf.sc (.ptr nx 0 0),w:= [(nx,.obj l)],nw:=1}->∃c' Φ',QC U c Φ h nx out w c' Φ' (.pointer (some (at_ w.heap.size 0))) (w.alloc (.cells vs.toArray t')):=λe=>by
  subst e
  obtain ⟨h1,h2⟩:=hf nx (Nat.le_refl _) (by simp)
  exact QC.obj hU hg hl h2 h1
 unfold Q9s at ho
 split at ho
 ·rename_i F u hu
  split at ho
  ·rename_i v n f he
   split at ho
   ·rename_i e heq
    subst e
    cases hb:Nat.blt F U.nf with
    |false=>rw [hb] at ho;cases ho
    |true=>
     rw [hb] at ho
     simp only [cond_true] at ho
     split at ho
     ·rename_i x hx
      cases ho
      have he':get h F=some (.fam false v n f):=by rw [hag F (.inl (by simp))];exact he
      exact QC.QdC hU hg he' (Nat.le_of_ble_eq_true hb) hl hx
     ·cases ho
   ·cases ho
  ·cases ho;exact plain rfl
 ·cases ho;exact plain rfl
theorem Z8X (hU:U.Ok) {t:TypeId} {h':Qq U} {out:Out U} (ho:(Z5k (U:=U) P nx t h').outs=some out) (hag:∀s,s∈out.rd\/s∈out.w.map (·.1)->get h s=get h' s) (hg:G U c Φ h w)
  (hf:∀s,nx<=s->s < nx+out.nw->get h s=none/\∀i,c.L s i=none):
  ∃u w' c' Φ',(Instr.alloc t true (.tuple #[])).run P w= .ok u w'/\QC U c Φ h nx out w c' Φ' u w':=by
 unfold Z5k at ho
 split at ho
 ·rename_i l hl
  obtain ⟨z,hz,hr⟩:=Z13 (c:=c) hl
  obtain ⟨c',Φ',hs1⟩:=Qb7 (t':=t) hU ho hag hg hf hr
  refine ⟨_,_,c',Φ',?_,hs1⟩
  simp [Instr.alloc,hz,newVar,newRow,World.alloc_eq]
 ·cases ho
theorem Qe2 (hU:U.Ok) {t:TypeId} {h':Qq U} {a:A U} {out:Out U} {v:Value} (ho:(Z6J nx t a h').outs=some out) (hag:∀s,s∈out.rd\/s∈out.w.map (·.1)->get h s=get h' s) (ha:RA U c a v) (hg:G U c Φ h w)
  (hf:∀s,nx<=s->s < nx+out.nw->get h s=none/\∀i,c.L s i=none):
  ∃u w' c' Φ',(Instr.box t v).run P w= .ok u w'/\QC U c Φ h nx out w c' Φ' u w':=by
 unfold Z6J at ho
 split at ho
 ·rename_i x
  cases hb:x.l.all Zh with
  |false=>rw [hb] at ho;cases ho
  |true=>
   rw [hb] at ho
   obtain ⟨c',Φ',hs1⟩:=Qb7 (t':=t) hU ho hag hg hf (RV.cells ha)
   refine ⟨_,_,c',Φ',?_,hs1⟩
   simp [Instr.box,newVar,newRow,World.alloc_eq]
 ·cases ho
end Go.Rf
namespace Go.Rf
set_option linter.unusedVariables false
set_option linter.unusedSimpArgs false
variable {U : QY} {P : Program} {c : Cx} {Φ : Nat -> Nat -> Nat -> Prop} {h : Qq U} {nx : Nat} {w : World}
theorem QC.QaP {c':Cx} {Φ':Nat->Nat->Nat->Prop} {w':World} {v v2:A U} {rd:List Nat} {es:List (Nat×Ent U)} {nw:Nat} {p p2:Value}
  (h1:QC U c Φ h nx { v:=v,rd:=rd,w:=es,nw:=nw} w c' Φ' p w') (hv:RA U c' v2 p2):QC U c Φ h nx { v:=v2,rd:=rd,w:=es,nw:=nw} w c' Φ' p2 w':=
 { le:=h1.le,L:=h1.L,val:=hv,g:=h1.g,fr:=h1.fr,Q2T:=h1.Q2T,Q2q:=h1.Q2q,names:=h1.names,Q3w:=h1.Q3w}
theorem Z6O (hU:U.Ok) {s n:Nat} {u:U.C} {f:Nat->U.D u} {F:Nat->Nat->Prop} (hp:U.plain u=true) (h:Q1J c w s F (.fam true u n f:Ent U)):Q1J c w s F (.Q3d u n 0 f:Ent U):=by
 obtain ⟨A,G,h0,h1,h2,h3,h4,h5⟩:=h
 have hc:=hU.Q5f u
 have hcell:∀i k x,i < n->(U.enc u (f i))[k]? =some x->(∃v,w.cell? (at_ (A i).1 ((A i).2+k))=some v/\R U c x v)/\w.frozen? (at_ (A i).1 ((A i).2+k))=false/\∀b' o',G i k b' o'↔(b'=(A i).1/\o'=(A i).2+k):=λi k x hi hx=>by
  have hx':Zh x=true:=by
   have:=hc (f i) hp
   rw [List.all_eq_true] at this
   exact this x (List.mem_of_getElem? hx)
  exact (h2 i hi).cell hx hx'
 refine ⟨A,h0,h1,h5 rfl,hp,λi k x _ hz=>absurd hz (Nat.not_lt_zero _),λi k x hi _ hx=>?_,λb o=>?_⟩
 ·obtain ⟨⟨v,p1,p2⟩,p3,_⟩:=hcell i k x hi hx
  exact ⟨v,p1,p2,p3⟩
 ·rw [h4]
  constructor
  ·rintro ⟨i,k,hi,hk,hf⟩
   have hlt:k < (U.enc u (f i)).length:=by rw [hU.QH];exact hk
   obtain ⟨_,_,h6⟩:=hcell i k _ hi (List.getElem?_eq_getElem hlt)
   obtain ⟨e1,e2⟩:=(h6 b o).1 hf
   exact ⟨i,k,hi,Nat.zero_le _,hk,e1,e2⟩
  ·rintro ⟨i,k,hi,_,hk,e1,e2⟩
   have hlt:k < (U.enc u (f i)).length:=by rw [hU.QH];exact hk
   obtain ⟨_,_,h6⟩:=hcell i k _ hi (List.getElem?_eq_getElem hlt)
   exact ⟨i,k,hi,hk,(h6 b o).2 ⟨e1,e2⟩⟩
theorem Z5Q (hU:U.Ok) {s n z z':Nat} {v:U.C} {f:Nat->U.D v} {rd:List Nat} (hg:G U c Φ h w) (hsome:(get h s).isSome) (hE:Q1J c w s (Φ s) (.Q3d v n z f:Ent U)) (hz:z<=z') (hn:z'<=n):
  ∃c' Φ',QC U c Φ h nx { v:= .t [],rd:=rd,w:= [(s,.Q3d v n z' f)]} w c' Φ' undef w:=by
 obtain ⟨A,h0,h1,h2,h3,h4,h5,h6⟩:=hE
 generalize hsz:U.size v=sz at*
 let b:=(A 0).1
 let o:=(A 0).2+z*sz
 let N:=(z' - z)*sz
 have hin:∀o',o<=o'->o' < o+N->∃i k,z<=i/\i < z'/\k < sz/\b=(A i).1/\o'=(A i).2+k:=λo' ha hb=>by
  have hpos:0 < sz:=by
   rcases Nat.eq_zero_or_pos sz with e|e
   ·simp only [N,e,Nat.mul_zero] at hb;omega
   ·exact e
  have hN:z*sz+N=z'*sz:=by
   simp only [N];rw [←Nat.add_mul];congr 1;omega
  have hq1:z*sz<=o' - (A 0).2:=by simp only [o] at ha;omega
  have hq2:o' - (A 0).2 < z'*sz:=by simp only [o] at ha hb;omega
  have hi1:z<=(o' - (A 0).2) / sz:=(Nat.le_div_iff_mul_le hpos).2 hq1
  have hi2:(o' - (A 0).2) / sz < z':=(Nat.div_lt_iff_lt_mul hpos).2 hq2
  have e:=h2 _ (Nat.lt_of_lt_of_le hi2 hn)
  refine ⟨(o' - (A 0).2) / sz,(o' - (A 0).2) % sz,hi1,hi2,Nat.mod_lt _ hpos,by rw [e],?_⟩
  rw [e]
  have:=Nat.div_add_mod (o' - (A 0).2) sz
  rw [Nat.mul_comm] at this
  simp only [o] at ha
  simp only;omega
 have hcell:∀i k,z<=i->i < z'->k < sz->∃u,w.cell? (at_ (A i).1 ((A i).2+k))=some u/\R U c ((U.enc v (f i)).getD k .hole) u/\Φ s (A i).1 ((A i).2+k):=λi k p1 p2 p3=>by
  have hlt:k < (U.enc v (f i)).length:=by rw [hU.QH,hsz];exact p3
  obtain ⟨u,q1,q2,_⟩:=h5 i k _ (by omega) p1 (List.getElem?_eq_getElem hlt)
  exact ⟨u,q1,by rw [getD_of_getElem? (List.getElem?_eq_getElem hlt)];exact q2,(h6 _ _).2 ⟨i,k,by omega,p1,p3,rfl,rfl⟩⟩
 have hfoot:∀o',o<=o'->o' < o+N->∃u,w.cell? (at_ b o')=some u/\Φ s b o':=λo' ha hb=>by
  obtain ⟨i,k,p1,p2,p3,p4,p5⟩:=hin o' ha hb
  obtain ⟨u,q1,_,q3⟩:=hcell i k p1 p2 p3
  rw [p4,p5];exact ⟨u,q1,q3⟩
 have hrange:∀i k,z<=i->i < z'->k < sz->(A i).1=b/\o<=(A i).2+k/\(A i).2+k < o+N:=λi k p1 p2 p3=>by
  have e:=h2 i (by omega)
  have h7:z*sz<=i*sz:=Nat.mul_le_mul_right _ p1
  have h8:(i+1)*sz<=z'*sz:=Nat.mul_le_mul_right _ p2
  rw [Nat.succ_mul] at h8
  have hN:z*sz+N=z'*sz:=by
   simp only [N];rw [←Nat.add_mul];congr 1;omega
  rw [e]
  refine ⟨rfl,?_,?_⟩ <;> simp only [o] <;> omega
 have hle:c.Le (c.freeze w b o N):=⟨λ_ _ _ h=>h,λb' o' u hI=>by
  show (if _ then _ else _)=_
  by_cases hc:b'=b/\o<=o'/\o' < o+N
  ·obtain ⟨rfl,ha,hb⟩:=hc
   obtain ⟨_,_,h8⟩:=hfoot o' ha hb
   have:=hg.Q1a s _ _ hsome h8
   rw [this] at hI;cases hI
  ·rw [if_neg hc];exact hI⟩
 let F':Nat->Nat->Prop:=λb' o'=>∃i k,i < n/\z'<=i/\k < sz/\b'=(A i).1/\o'=(A i).2+k
 have hF':∀b' o',F' b' o'->Φ s b' o':=λb' o' ⟨i,k,p1,p2,p3,p4,p5⟩=>(h6 _ _).2 ⟨i,k,p1,by omega,p3,p4,p5⟩
 have hout:∀b' o',F' b' o'->¬(b'=b/\o<=o'/\o' < o+N):=λb' o' ⟨i,k,p1,p2,p3,p4,p5⟩ ⟨q1,q2,q3⟩=>by
  have e:=h2 i p1
  rw [e] at p5
  simp only at p5
  have h7:z'*sz<=i*sz:=Nat.mul_le_mul_right _ p2
  have hN:z*sz+N=z'*sz:=by
   simp only [N];rw [←Nat.add_mul];congr 1;omega
  simp only [o] at q3;omega
 refine ⟨c.freeze w b o N,fup Φ s F',⟨hle,λ_ _ _ _=>rfl,RA.undef,?_,.refl _ _,?_,?_,?_,?_⟩⟩
 ·have hE:Q1J (c.freeze w b o N) w s F' (.Q3d v n z' f:Ent U):=by
   refine ⟨A,h0,h1,λi hi=>by rw [hsz];exact h2 i hi,h3,λi k x hi hzi hx=>?_,λi k x hi hzi hx=>?_,λ_ _=>by rw [hsz]⟩
   ·have hk':k < sz:=by rw [←hsz,←hU.QH v (f i)];exact (List.getElem?_eq_some_iff.1 hx).1
    by_cases e:i < z
    ·obtain ⟨u,p1,p2⟩:=h4 i k x hi e hx
     exact ⟨u,hle.I _ _ _ p1,p2.mono hle⟩
    ·obtain ⟨u,p1,p2,_⟩:=hcell i k (by omega) hzi hk'
     rw [getD_of_getElem? hx] at p2
     refine ⟨u,?_,p2.mono hle⟩
     show (if _ then _ else _)=_
     rw [if_pos (hrange i k (by omega) hzi hk')]
     obtain ⟨q1,_⟩:=hrange i k (by omega) hzi hk'
     rw [←q1]
     exact p1
   ·obtain ⟨u,p1,p2,p3⟩:=h5 i k x hi (by omega) hx
    exact ⟨u,p1,p2.mono hle,p3⟩
  refine G.put hU hg hle (λ_ _ _=>rfl) hE (λ_ _ _=>Agr.refl _ _) (λt b' o' ht h1 hf hF=>hg.apart t s b' o' ht h1 hsome hf (hF' _ _ hF)) (λb' o' u hI=>?_) (λt b' o' ht h1 hf=>?_) (λb' o' hF=>?_)
  ·have hI:(if b'=b/\o<=o'/\o' < o+N then w.cell? (at_ b o') else c.I b' o')=some u:=hI
   split at hI
   ·rename_i hc;rw [hc.1];exact hI
   ·exact hg.imm _ _ _ hI
  ·show (if _ then _ else _)=_
   split
   ·rename_i hc
    obtain ⟨rfl,ha,hb⟩:=hc
    obtain ⟨_,_,h8⟩:=hfoot o' ha hb
    exact absurd h8 (hg.apart t s _ _ ht h1 hsome hf)
   ·exact hg.Q1a t _ _ h1 hf
  ·show (if _ then _ else _)=_
   rw [if_neg (hout _ _ hF)]
   exact hg.Q1a s _ _ hsome (hF' _ _ hF)
 ·intro t ht
  have:t≠s:=λe=>ht (by simp [e])
  simp [fup,this]
 ·intro t b' o' ht hf
  have:t=s:=by simpa using ht
  subst this
  simp [fup] at hf
  exact .inr ⟨t,by simp,hsome,hF' _ _ hf⟩
 ·intro t ht
  have:t=s:=by simpa using ht
  subst this
  exact .inr hsome
 ·intro b' o' u hI
  have hI:(if b'=b/\o<=o'/\o' < o+N then w.cell? (at_ b o') else c.I b' o')=some u:=hI
  split at hI
  ·rename_i hc
   obtain ⟨rfl,ha,hb⟩:=hc
   obtain ⟨_,_,h8⟩:=hfoot o' ha hb
   exact .inr (.inr ⟨s,by simp,hsome,h8⟩)
  ·exact .inl hI
theorem Z5w {s n z i:Nat} {v:U.C} {f:Nat->U.D v} {F:Nat->Nat->Prop} (hE:Q1J c w s F (.Q3d v n z f:Ent U)) (hi:i < n) (hz:i < z) {b o:Nat} (hL:c.L s i=some (b,o)):
  ∀k x,(U.enc v (f i))[k]? =some x->∃u,c.I b (o+k)=some u/\R U c x u:=by
 obtain ⟨A,h0,_,_,_,h4,_⟩:=hE
 have:=h0 i hi
 rw [hL] at this
 simp only [Option.some.injEq] at this
 intro k x hx
 have:=h4 i k x hi hz hx
 rw [←‹(b,o)=A i›] at this
 exact this
theorem Z7w (hU:U.Ok) {h':Qq U} {t:TypeId} {a v:A U} {r:OpR U} {out:Out U} {p q:Value} (hr:Z5j P t a v h'=some r) (ho:r.outs=some out)
  (hag:∀s,s∈out.rd\/s∈out.w.map (·.1)->get h s=get h' s) (hg:G U c Φ h w) (ha:RA U c a p) (hv:RA U c v q):
  ∃w' c' Φ',(Instr.storeAt t p q).run P w= .ok () w'/\QC U c Φ h nx out w c' Φ' undef w':=by
 unfold Z5j at hr
 split at hr
 ·rename_i s i off
  split at hr
  ·rename_i u n z g se he hu
   split at hr
   ·rename_i vv hvv
    split at hr
    ·rename_i y hy
     cases hr
     obtain ⟨o,hO,rfl⟩:=Z4d ho
     have he':get h s=some (.Q3d u n z g):=by rw [hag s (.inl (by simp))];exact he
     have hE:=hg.Q1U s _ he'
     obtain ⟨b,x,hL,rfl⟩:∃b x,c.L s i=some (b,x)/\q= .pointer (some (at_ b (x+off))):=by
      cases (show R U c _ q from hv) with|ptr h0=>exact ⟨_,_,h0,rfl⟩
     have hin:i < n:=by obtain ⟨A,_,h1,_⟩:=id hE;exact h1 _ _ hL
     have hst:∃c' Φ',QC U c Φ h nx { v:= .t [],rd:= [s],w:= [(s,.Q3d u n (Nat.max z (i+1)) g)]} w c' Φ' undef w:=by
      by_cases hzi:i+1<=z
      ·rw [show Nat.max z (i+1)=z from Nat.max_eq_left hzi]
       exact ⟨c,Φ,Z1U hg he' λF hF=>hF⟩
      ·exact Z5Q hU hg (by rw [he'];rfl) hE (Nat.le_max_left _ _) (Nat.max_le.2 ⟨by omega,hin⟩)
     obtain ⟨c',Φ1,hst⟩:=hst
     have hL':=hst.le.L _ _ _ hL
     have hcs:=Z5w (hst.g.Q1U s (.Q3d u n (Nat.max z (i+1)) g) (by show get ((s,_)::h) s=_;rw [Z6,if_pos rfl])) hin (Nat.lt_of_lt_of_le (Nat.lt_succ_self i) (Nat.le_max_right _ _)) hL'
     have hlen:=hU.Q4G _ _ _ hy
     have hk0:∀k,k < U.size vv->∃val,c'.I b (x+off+k)=some val/\R U c' ((U.enc vv y).getD k .hole) val:=λk hk=>by
      have hlt:k < (QO off (U.size vv) (U.enc u (g i))).length:=by rw [hlen];exact hk
      have hx':=List.getElem?_eq_getElem hlt
      obtain ⟨z',h2,h3⟩:=hU.QE _ _ _ hy k _ hx'
      have h4:(U.enc u (g i))[off+k]? =some (QO off (U.size vv) (U.enc u (g i)))[k]:=by
       rw [←hx']
       unfold QO
       rw [List.getElem?_take,if_pos hk,List.getElem?_drop]
      obtain ⟨val,h5,h6⟩:=hcs _ _ h4
      refine ⟨val,by rw [show x+off+k=x+(off+k) by omega];exact h5,?_⟩
      rw [getD_of_getElem? h2]
      exact h3.val _ _ h6
     have hv':RA U c' (Rf.sc (.Q3i vv (some y))) (.pointer (some (at_ b (x+off)))):=
      R.Q5u (λk=>if hk:k < U.size vv then (hk0 k hk).choose else undef) (λk hk=>by
       simp only [dif_pos hk];exact (hk0 k hk).choose_spec.1) λk hk=>by
       simp only [dif_pos hk];exact (hk0 k hk).choose_spec.2
     obtain ⟨u',w',⟨h1,rfl⟩,c2,Φ2,h2⟩:=Z40 (h:=(s,.Q3d u n (Nat.max z (i+1)) g)::h) (nx:=nx) (post:=λu' w'=>(Instr.storeAt t p (.pointer (some (at_ b (x+off))))).run P w= .ok () w'/\u'=undef) hU hO (λx hx=>by
       rw [Z6,Z6]
       by_cases e:s=x
       ·rw [if_pos e,if_pos e]
       ·rw [if_neg e,if_neg e]
        refine hag x ?_
        rcases hx with hx|hx
        ·exact .inl (List.mem_append_right _ hx)
        ·exact .inr (by rw [List.map_append];exact List.mem_append_left _ hx)) hst.g λh1 h1' Φ1 o h2 h3 h4=>by
      obtain ⟨w',c',Φ',p1,p2⟩:=Z6L (nx:=nx) hU h2 h3 h4 (ha.mono hst.le) hv'
      exact ⟨undef,w',⟨p1,rfl⟩,c',Φ',p2⟩
     refine ⟨w',c2,Φ2,h1,?_⟩
     have:=hst.comp (rd:= [s]++o.rd) h2
     simp only [Nat.zero_add] at this
     exact this
    ·cases hr
   ·cases hr
  ·cases hr
 ·cases hr
theorem band {a b:Bool} (h:(bif a then b else false)=true):a=true/\b=true:=by cases a <;> simp_all
theorem Z92 {s n:Nat} {u:U.C} (hr:Z4E h s=some (u,n)) (hg:G U c Φ h w):∃A:Nat->Nat×Nat,(∀i,i < n->c.L s i=some (A i))/\(∀i x,c.L s i=some x->i < n)/\∀i,i < n->A i=((A 0).1,(A 0).2+i*U.size u):=by
 unfold Z4E at hr
 split at hr
 ·rename_i he
  cases hr
  obtain ⟨A,h1,h2,_,h3⟩:=(hg.Q1U s _ he).Q7s
  exact ⟨A,h1,h2,h3 rfl⟩
 ·rename_i he
  cases hr
  obtain ⟨A,h1,h2,h3,_⟩:=hg.Q1U s _ he
  exact ⟨A,h1,h2,h3⟩
 ·cases hr
theorem Z7C {h':Qq U} {s:Nat} (e:get h s=get h' s):Z4E h s=Z4E h' s:=by unfold Z4E;rw [e]
theorem Z8k {h':Qq U} {t:TypeId} {a b:A U} {r:OpR U} {out:Out U} {p q:Value} (hr:Z6e P t a b h'=some r) (ho:r.outs=some out)
  (hag:∀s,s∈out.rd\/s∈out.w.map (·.1)->get h s=get h' s) (hg:G U c Φ h w) (ha:RA U c a p) (hb:RA U c b q):
  Q4y U c w P (Instr.indexAt t p q) out:=by
 unfold Z6e at hr
 split at hr
 ·rename_i s i0 off k n
  split at hr
  ·rename_i u nn len e hat hu
   split at hr
   ·rename_i m hm
    cases hc:Nat.beq m (U.size u) && Nat.beq i0 0 && Nat.beq off 0 with
    |false=>rw [hc] at hr;cases hr
    |true=>
     rw [hc] at hr
     simp only [Bool.and_eq_true] at hc
     obtain ⟨⟨c1,c3⟩,c4⟩:=hc
     have c1:=QV c1;have c3:=QV c3;have c4:=QV c4
     subst c1;subst c3;subst c4
     cases hr
     obtain ⟨hin,rfl⟩:=Zc ho
     obtain ⟨hin,hin2⟩:=band hin
     obtain ⟨h0,h1,_⟩:=ZS hin
     obtain ⟨_,_,h2⟩:=ZS hin2
     rw [←Z7C (hag s (.inl (by simp)))] at hat
     obtain ⟨A,hA,hA1,hct⟩:=Z92 hat hg
     cases R.int (show R U c _ q from hb)
     obtain ⟨b,x,hL,rfl⟩:∃b x,c.L s 0=some (b,x)/\p= .pointer (some (at_ b (x+0))):=by
      cases (show R U c _ p from ha) with|ptr h0=>exact ⟨_,_,h0,rfl⟩
     have e2:=hA 0 (by omega)
     rw [hL] at e2
     simp only [Option.some.injEq] at e2
     have e3:A n.toNat=(b,x+n.toNat*U.size u):=by rw [hct _ h2,←e2]
     refine ⟨.pointer (some (at_ b (x+n.toNat*U.size u+0))),?_,?_,rfl,rfl⟩
     ·simp only [Instr.indexAt,Sem.run_bind,Z19,Result.andThen_ok,run_underlying hu]
      simp [h0,h1,Za hm,Zv,Instr.sureAddr]
     ·exact R.ptr (by rw [hA _ h2,e3])
   ·cases hr
  ·cases hr
 ·cases hr
theorem Z7z (hU:U.Ok) {h':Qq U} {t:TypeId} {a:A U} {xl xh xm:Option (Option (A U))} {yl yh ym:Option Value} {r:OpR U} {out:Out U} {p:Value} (hr:Z58 P t a xl xh xm h'=some r) (ho:r.outs=some out)
  (hag:∀s,s∈out.rd\/s∈out.w.map (·.1)->get h s=get h' s) (hg:G U c Φ h w) (ha:RA U c a p) (hl:Z1o U c xl yl) (hh:Z1o U c xh yh) (hm:Z1o U c xm ym):
  ∃u w' c' Φ',(Instr.sliceAt t p yl yh ym).run P w= .ok u w'/\QC U c Φ h nx out w c' Φ' u w':=by
 unfold Z58 at hr
 split at hr
 ·rename_i s i off
  split at hr
  ·rename_i u n g len e he hu
   split at hr
   ·rename_i m rr hm1 hrr
    cases hc:Nat.beq m (U.size u) && U.plain u && Nat.beq i 0 && Nat.beq off 0 with
    |false=>rw [hc] at hr;cases hr
    |true=>
     rw [hc] at hr
     simp only [Bool.and_eq_true] at hc
     obtain ⟨⟨⟨c1,cp⟩,c3⟩,c4⟩:=hc
     have c1:=QV c1;have c3:=QV c3;have c4:=QV c4
     subst c1;subst c3;subst c4
     cases hr
     obtain ⟨hin,rfl⟩:=Zc ho
     obtain ⟨hin,hin2⟩:=band hin
     obtain ⟨e0,e1,e2⟩:=ZU hin
     obtain ⟨_,_,e22⟩:=ZU hin2
     have he':get h s=some (.fam true u n g):=by rw [hag s (.inl (by simp))];exact he
     have hE:=Z6O hU cp (hg.Q1U s _ he')
     obtain ⟨c',Φ',hst⟩:=Z5Q (nx:=nx) (rd:= [s]) hU hg (by rw [he'];rfl) hE (Nat.zero_le _) (Nat.le_refl _)
     obtain ⟨b,x,hL,rfl⟩:∃b x,c.L s 0=some (b,x)/\p= .pointer (some (at_ b (x+0))):=by
      cases (show R U c _ p from ha) with|ptr h0=>exact ⟨_,_,h0,rfl⟩
     cases ym with
     |some v=>exact hm.elim
     |none=>
      cases yl with
      |some v=>exact hl.elim
      |none=>
       have hb:=ZZ (P:=P) (w:=w) (isS:=false) (l:=0) (.inl ⟨rfl,rfl⟩) (Zl hrr hh) (Int.le_refl _) e1 e2 (Nat.le_refl _)
       have hE':=hst.g.Q1U s (.Q3d u n n g) (by show get ((s,_)::h) s=_;rw [Z6,if_pos rfl])
       obtain ⟨A,hA,hA1,hct,_⟩:=id hE'
       have hlen:((List.range rr.toNat).map g).length=rr.toNat:=by simp
       have hL':=hst.le.L _ _ _ hL
       have hcell:∀i k,i < rr.toNat->k < U.size u->∃val,c'.I b (x+(i*U.size u+k))=some val/\R U c' ((U.enc u (((List.range rr.toNat).map g).getD i (U.dft u))).getD k .hole) val:=λi k hi hk=>by
        have hin':i < n:=by omega
        have e3:=hA 0 (by omega)
        rw [hL'] at e3
        simp only [Option.some.injEq] at e3
        have e4:c'.L s i=some (b,x+i*U.size u):=by rw [hA i hin',hct i hin',←e3]
        have hlt:k < (U.enc u (g i)).length:=by rw [hU.QH];exact hk
        obtain ⟨val,h5,h6⟩:=Z5w hE' hin' hin' e4 k _ (List.getElem?_eq_getElem hlt)
        refine ⟨val,by rw [←Nat.add_assoc];exact h5,?_⟩
        have:((List.range rr.toNat).map g).getD i (U.dft u)=g i:=by simp [List.getD,hi]
        rw [this,getD_of_getElem? (List.getElem?_eq_getElem hlt)]
        exact h6
       refine ⟨_,w,c',Φ',?_,hst.QaP (v2:=Rf.sc (.isl .none u ((List.range rr.toNat).map g))) (p2:= .slice (some (if len=0 then at_ b (x+0) else (at_ b (x+0)).add (0*U.size u))) rr.toNat len) ?_⟩
       ·simp [Instr.sliceAt,run_underlying hu,Instr.sureAddr,hb,Za hm1]
       ·have:=R.isl (c:=c') (t:= .none) (u:=u) (xs:=(List.range rr.toNat).map g) (a:=some (if len=0 then at_ b (x+0) else (at_ b (x+0)).add (0*U.size u))) (cap:=len) (b:=b) (o:=x)
         (λi k=>if hh:i < rr.toNat/\k < U.size u then (hcell i k hh.1 hh.2).choose else undef) (by rw [hlen];omega) trivial (λhpos=>by
          rw [Zv];simp) (λi k hi hk=>by
          rw [hlen] at hi;simp only [dif_pos (And.intro hi hk)];exact (hcell i k hi hk).choose_spec.1) (λi k hi hk=>by
          rw [hlen] at hi;simp only [dif_pos (And.intro hi hk)];exact (hcell i k hi hk).choose_spec.2)
        rw [hlen] at this
        exact this
   ·cases hr
  ·cases hr
 ·cases hr
theorem Z8v {h':Qq U} {t:TypeId} {a:A U} {xl xh xm:Option (Option (A U))} {yl yh ym:Option Value} {r:OpR U} {out:Out U} {p:Value} (hr:Z6V P t a xl xh xm h'=some r) (ho:r.outs=some out)
  (hag:∀s,s∈out.rd\/s∈out.w.map (·.1)->get h s=get h' s) (hg:G U c Φ h w) (ha:RA U c a p) (hl:Z1o U c xl yl) (hh:Z1o U c xh yh) (hm:Z1o U c xm ym):
  Q4y U c w P (Instr.sliceAt t p yl yh ym) out:=by
 unfold Z6V at hr
 split at hr
 ·rename_i s i off
  split at hr
  ·rename_i u n g len e he hu
   split at hr
   ·rename_i m ll rr hm1 hll hrr
    cases hc:Nat.beq m (U.size u) && Nat.beq i 0 && Nat.beq off 0 with
    |false=>rw [hc] at hr;cases hr
    |true=>
     rw [hc] at hr
     simp only [Bool.and_eq_true] at hc
     obtain ⟨⟨c1,c3⟩,c4⟩:=hc
     have c1:=QV c1;have c3:=QV c3;have c4:=QV c4
     subst c1;subst c3;subst c4
     cases hr
     obtain ⟨hin,rfl⟩:=Zc ho
     obtain ⟨hin,hin2⟩:=band hin
     obtain ⟨e0,e1,e2⟩:=ZU hin
     obtain ⟨_,_,e22⟩:=ZU hin2
     have he':get h s=some (.fam true u n g):=by rw [hag s (.inl (by simp))];exact he
     obtain ⟨A,hA,hA1,_,hct⟩:=(hg.Q1U s _ he').Q7s
     obtain ⟨b,x,hL,rfl⟩:∃b x,c.L s 0=some (b,x)/\p= .pointer (some (at_ b (x+0))):=by
      cases (show R U c _ p from ha) with|ptr h0=>exact ⟨_,_,h0,rfl⟩
     cases ym with
     |some v=>exact hm.elim
     |none=>
      have hb:=ZZ (P:=P) (w:=w) (isS:=false) (Zl hll hl) (Zl hrr hh) e0 e1 e2 (Nat.le_refl _)
      refine ⟨.slice (some (if len=ll.toNat then at_ b (x+0) else (at_ b (x+0)).add (ll.toNat*U.size u))) (rr.toNat - ll.toNat) (len - ll.toNat),?_,?_,rfl,rfl⟩
      ·simp [Instr.sliceAt,run_underlying hu,Instr.sureAddr,hb,Za hm1]
      ·have hpos:=hA1 _ _ hL
       have e3:=hA 0 hpos
       rw [hL] at e3
       simp only [Option.some.injEq] at e3
       refine R.sl (b:=b) (o:=x+ll.toNat*U.size u) (by omega) (λh0=>⟨?_,?_⟩) λj hj=>⟨_,hA _ (by omega)⟩
       ·rw [hA _ (by omega),hct rfl _ (by omega),←e3]
       ·rw [if_neg (by omega),Zv];simp
   ·cases hr
  ·cases hr
 ·cases hr
theorem Z7A (hU:U.Ok) {f z:Bool} {t:TypeId} {r:OpR U} {out:Out U} (hr:Z56 (U:=U) P f z t nx=some r) (ho:r.outs=some out) (hg:G U c Φ h w) (hf:∀s,nx<=s->s < nx+out.nw->get h s=none/\∀i,c.L s i=none):
  ∃u w' c' Φ',(Instr.alloc t true (.tuple #[])).run P w= .ok u w'/\QC U c Φ h nx out w c' Φ' u w':=by
 unfold Z56 at hr
 cases hfz:f||z with
 |false=>rw [hfz] at hr;cases hr
 |true=>
  rw [hfz] at hr
  simp only [cond_true] at hr
  split at hr
  ·rename_i len e hu
   split at hr
   ·rename_i u l hue hl
    cases hc:U.plain u && Nat.ble 1 len && Nat.beq l.length (len*U.size u) with
    |false=>rw [hc] at hr;cases hr
    |true=>
     rw [hc] at hr
     simp only [Bool.and_eq_true] at hc
     obtain ⟨⟨cp,c1⟩,c2⟩:=hc
     have c1:=Nat.le_of_ble_eq_true c1
     have c2:=QV c2
     simp only [cond_true] at hr
     split at hr
     ·rename_i xs hxs
      cases hr
      cases ho
      obtain ⟨zv,hz,hrl⟩:=Z13 (c:=c) hl
      obtain ⟨hxl,hxa⟩:=Z30 _ _ _ hxs
      obtain ⟨hn,hs0⟩:=hf nx (Nat.le_refl _) (by simp)
      have hvl:zv.cells.toList.length=len*U.size u:=by rw [hrl.len,c2]
      have hnew:∀(j:Nat) v,zv.cells.toList[j]? =some v->(w.alloc (.cells zv.cells.toList.toArray t)).cell? (at_ w.heap.size j)=some v:=λj v hj=>by simpa using hj
      obtain ⟨c',Φ',hst⟩:=QC.fam (nx:=nx) (h:=h) (rd:= []) (n:=len) (f:=λj=>xs.getD j (U.dft u)) (vs:=zv.cells.toList) (w':=w.alloc (.cells zv.cells.toList.toArray t)) (N:=w.heap.size) (a:=some (at_ w.heap.size 0)) (cap:=len) hU hg hs0 hn
       (Fr.alloc _ _ _) (Nat.le_refl _) cp hvl hnew (λj hj=>by simp) (λi k hi hk=>by
        have h3:=hxa i hi
        have hrow:i*U.size u+U.size u<=len*U.size u:=by
         have:(i+1)*U.size u<=len*U.size u:=Nat.mul_le_mul_right _ hi
         rwa [Nat.succ_mul] at this
        have hlt:k < (QO (i*U.size u) (U.size u) l).length:=by rw [hU.Q4G _ _ _ h3];exact hk
        have hx':=List.getElem?_eq_getElem hlt
        obtain ⟨z',h4,h5⟩:=hU.QE _ _ _ h3 k _ hx'
        have h6:l[i*U.size u+k]? =some (QO (i*U.size u) (U.size u) l)[k]:=by
         rw [←hx']
         unfold QO
         rw [List.getElem?_take,if_pos hk,List.getElem?_drop]
        obtain ⟨v,h7,h8⟩:=hrl.at_ _ _ h6
        refine ⟨v,h7,?_⟩
        rw [getD_of_getElem? h4]
        exact h5.val _ _ h8) (Nat.le_refl _) (λ_=>rfl)
      have hp:c'.L nx 0=some (w.heap.size,0):=by
       cases (show R U c' (.sl nx 0 len) _ from hst.val) with
       |sl hc' ha' hl'=>
        obtain ⟨h1,h2⟩:=ha' (by omega)
        rw [h1]
        simp only [Option.some.injEq,at_,Addr.mk.injEq] at h2
        simp_all
      have hv:RA U c' (Rf.sc (.ptr nx 0 0)) (.pointer (some (at_ w.heap.size 0))):=R.ptr (o:=0) hp
      have hst:=hst.QaP hv
      cases z with
      |false=>
       refine ⟨_,_,c',Φ',?_,hst⟩
       simp [Instr.alloc,hz,newVar,newRow,World.alloc_eq]
      |true=>
       have h2:=Z1U (nx:=nx+1) (rd:= []) hst.g (s:=nx) (e:= .fam true u len λj=>xs.getD j (U.dft u)) (by rw [Zf];simp [Z6]) λF hF=>Z6O hU cp hF
       refine ⟨_,_,c',Φ',?_,((hst.comp (rd:= []) h2).QaP hv)⟩
       simp [Instr.alloc,hz,newVar,newRow,World.alloc_eq]
     ·cases hr
   ·cases hr
  ·cases hr
theorem Z8K (hU:U.Ok) {u:U.C} {xs:List (U.D u)} {v:Value} {rd:List Nat} (hg:G U c Φ h w) (hs:∀i,c.L nx i=none) (hn:get h nx=none) (hv:R U c (.isl .full u xs) v):
  ∃c' Φ',QC U c Φ h nx { v:=Rf.sc (.isl (.own nx) u xs),rd:=rd,w:= [(nx,.tok)],nw:=1} w c' Φ' v w:=by
 cases hv with
 | @isl _ _ _ a cap b o g hc ht ha hi hr=>
  have ht:cap=xs.length:=ht
  subst ht
  let c':=c.Q20 nx λi=>if i=0 then some (b,o+xs.length*U.size u) else if i=1 then some (b,o+xs.length*U.size u) else none
  have hle:c.Le c':=Cx.Q55 hs
  have hE:Q1J c' w nx (λ_ _=>False) (.tok:Ent U):=⟨b,o+xs.length*U.size u,o+xs.length*U.size u,by simp [c',Cx.Q20],by simp [c',Cx.Q20],λx h1 h2=>by omega,λ_ _ h=>h.elim⟩
  refine ⟨c',fup Φ nx (λ_ _=>False),{ le:=hle,L:=λs i hsi _=>?_,val:= ?_,g:= ?_,fr:= .refl _ _,Q2T:=λs hsn=>?_,Q2q:=λs b o hsn hf=>?_,names:=λs hsn=>?_,Q3w:=λ_ _ _ h=>.inl h}⟩
  ·have:s≠nx:=λe=>hsi (by subst e;simp)
   simp [c',Cx.Q20,this]
  ·exact R.isl (b:=b) (o:=o) g (Nat.le_refl _) ⟨b,_,_,by simp [c',Cx.Q20],by simp [c',Cx.Q20],λhp=>⟨ha hp,rfl,rfl,Nat.le_refl _⟩⟩ ha hi λi k h1 h2=>(hr i k h1 h2).mono hle
  ·exact hg.put hU hle (λt i ht=>by simp [c',Cx.Q20,ht]) hE (λt _ h1=>Agr.refl _ _) (λt b o _ h1 hf hF=>hF.elim) (λb o v hv=>hg.imm b o v hv) (λt b o _ h1 hf=>hg.Q1a t b o h1 hf) (λb o hF=>hF.elim)
  ·simp at hsn;simp [fup,hsn]
  ·simp at hsn;subst hsn
   simp [fup] at hf
  ·simp at hsn;subst hsn;exact .inl (by simp)
theorem Z8p {o o':Out U} (h:Z5s o nx=some o'):∃u xs rd,o={ v:=Rf.sc (.isl .full u xs),rd:=rd}/\o'={ v:=Rf.sc (.isl (.own nx) u xs),rd:=rd,w:= [(nx,.tok)],nw:=1}:=by
 unfold Z5s at h
 split at h
 ·cases h;exact ⟨_,_,_,rfl,rfl⟩
 ·cases h
theorem Z60 {b:Bool} {r:OpR U} {out:Out U} (ho:(Z5h b r nx).outs=some out):r.outs=some out\/∃o,r.outs=some o/\Z5s o nx=some out:=by
 unfold Z5h at ho
 cases b with
 |false=>exact .inl ho
 |true=>
  simp only [cond_true] at ho
  split at ho
  ·rename_i c o
   split at ho
   ·rename_i o' h1
    obtain ⟨hc,rfl⟩:=Zc ho
    exact .inr ⟨o,by subst hc;rfl,h1⟩
   ·exact .inl ho
  ·exact .inl ho
end Go.Rf
namespace Go.Rf
set_option linter.unusedVariables false
set_option linter.unusedSimpArgs false
variable {U : QY} {P : Program} {c : Cx} {Φ : Nat -> Nat -> Nat -> Prop} {h : Qq U} {nx : Nat} {w : World}
theorem Z6S {ρ:Operand->Option (A U)} {a:Act} {x:Option Operand} (h:∀y∈x.toArray.toList,∀v,ρ y=some v->RA U c v (a.eval y)):Z1o U c (x.map ρ) (x.map a.eval):=by
 cases x with
 |none=>trivial
 |some y=>exact λb hb=>h y (by simp) b hb
theorem Z7W (hU:U.Ok) {Γ:Nat->Option (Native U)} (hΓ:ZK U P Γ) {h':Qq U} {o:Oper} {a:Act} {ρ:Operand->Option (A U)} {out:Out U}
  (ho:(step P Γ nx ρ h' o).outs=some out) (hag:∀s,s∈out.rd\/s∈out.w.map (·.1)->get h s=get h' s) (hg:G U c Φ h w)
  (hf:Q72 c h nx out.nw) (hρ:∀x∈o.op.operands.toList,∀v,ρ x=some v->RA U c v (a.eval x)):
  Q3a P (Q7t U c Φ h nx out w) ((execOp a.eval o).run P w):=by
 have wr:∀{s:Sem Value} {Q:Value->World->Prop},(∃u w' c' Φ',s.run P w= .ok u w'/\QC U c Φ h nx out w c' Φ' u w')->Q3a P (Q7t U c Φ h nx out w) ((do pure (Next.value (←s)):Sem Next).run P w):=by
  intro s _ ⟨u,w',c',Φ',h1,h2⟩
  exact Q3a.value h1 ⟨c',Φ',h2⟩
 have mv:∀{x:Operand},(Q9v (ρ x)).outs=some out->(∀v,ρ x=some v->RA U c v (a.eval x))->Q3a P (Q7t U c Φ h nx out w) ((pure (Next.value (a.eval x)):Sem Next).run P w):=by
  intro x h1 h2
  obtain ⟨v,h3,rfl⟩:=Z90 h1
  exact ⟨c,Φ,QC.pure hg (h2 v h3)⟩
 obtain ⟨dst,op,type,pos,after,guard⟩:=o
 cases op <;> simp only [step] at ho <;> simp only [Op.operands] at hρ <;> try (exact (Z1 ho).elim)
 case move x=>exact mv ho λv hv=>hρ x (by simp) v hv
 case assign x=>exact mv ho λv hv=>hρ x (by simp) v hv
 case pick x y z=>
  obtain ⟨v',rd,w',nw⟩:=out
  obtain ⟨t,h1,h2,h3,h4⟩:=Qdk ho (λv hv=>hρ x (by simp) v hv) (λv hv=>hρ y (by simp) v hv) (λv hv=>hρ z (by simp) v hv)
  simp only at h2 h3 h4
  subst h3;subst h4
  simp only [execOp,h1]
  show Q3a P _ (.ok (.value (if t then a.eval y else a.eval z)) w)
  exact ⟨c,Φ,QC.pure hg h2⟩
 case alloc t=>
  split at ho
  ·rename_i r hr
   exact wr (Q:=λ_ _=>True) (Z7A hU hr ho hg hf)
  ·exact wr (Q:=λ_ _=>True) (Z8X hU ho hag hg hf)
 case box t x=>
  split at ho
  ·rename_i v hv
   exact wr (Q:=λ_ _=>True) (Qe2 hU ho hag (hρ x (by simp) v hv) hg hf)
  ·exact (Z1 ho).elim
 case build t ps=>exact (Z9r (ev:=a.eval) ho λp hp v hv=>hρ p.2 (by simp;exact ⟨p.1,Array.mem_toList_iff.1 hp⟩) v hv).Q62 hg
 case buildSlice t n ps=>exact wr (Q:=λ_ _=>True) (Z6c (ev:=a.eval) hU ho hag hg λp hp v hv=>hρ p.2 (by simp;exact ⟨p.1,Array.mem_toList_iff.1 hp⟩) v hv)
 case load t x=>
  split at ho
  ·rename_i v hv
   have hra:=hρ x (by simp) v hv
   unfold Z82 at ho
   split at ho
   ·rename_i o hol
    have:=Zs ho
    subst this
    split at hol
    ·rename_i hagg
     cases hlk:(Γ Z7V).isSome with
     |true=>
      rw [hlk] at hol
      obtain ⟨u,h1,h2⟩:=Z8P (P:=P) (nx:=nx) hU hol hagg hag hg hra
      exact Q3a.value h1 ⟨c,Φ,h2⟩
     |false=>
      rw [hlk] at hol
      obtain ⟨u,c',Φ',h1,h2⟩:=Z8y (P:=P) hU hol hagg hag hg hf hra
      exact Q3a.value h1 ⟨c',Φ',h2⟩
    ·cases hol
   obtain ⟨u,w',h1,c',Φ',h2⟩:=Z40 (nx:=nx) (post:=λu w'=>(Instr.loadAt t (a.eval x)).run P w= .ok u w') hU ho hag hg λh1 h1' Φ1 o h2 h3 h4=>by
    obtain ⟨v',rd,w1,nw⟩:=o
    obtain ⟨u,p1,p2,p3,p4⟩:=QcQ hU h2 h3 h4 hra
    simp only at p2 p3 p4
    subst p3;subst p4
    exact ⟨u,w,p1,c,Φ1,QC.pure h4 p2⟩
   exact Q3a.value h1 ⟨c',Φ',h2⟩
  ·exact (Z1 ho).elim
 case store t x y=>
  split at ho
  ·rename_i u v hu hv
   have hra:=hρ x (by simp) u hu
   have hrb:=hρ y (by simp) v hv
   split at ho
   ·rename_i r hr
    obtain ⟨w',c',Φ',h1,h2⟩:=Z7w (nx:=nx) hU hr ho hag hg hra hrb
    exact Q3a.unit h1 ⟨c',Φ',h2⟩
   obtain ⟨u',w',⟨h1,rfl⟩,c',Φ',h2⟩:=Z40 (nx:=nx) (post:=λu' w'=>(Instr.storeAt t (a.eval x) (a.eval y)).run P w= .ok () w'/\u'=undef) hU ho hag hg λh1 h1' Φ1 o h2 h3 h4=>by
    obtain ⟨w',c',Φ',p1,p2⟩:=Z6L (nx:=nx) hU h2 h3 h4 hra hrb
    exact ⟨undef,w',⟨p1,rfl⟩,c',Φ',p2⟩
   exact Q3a.unit h1 ⟨c',Φ',h2⟩
  ·exact (Z1 ho).elim
 case nilCheck x=>
  split at ho
  ·rename_i v hv
   obtain ⟨v',rd,w',nw⟩:=out
   obtain ⟨h1,h2,h3,q,h4⟩:=Qdx ho (hρ x (by simp) v hv)
   simp only at h1 h2 h3
   subst h1;subst h2
   simp only [execOp,h4]
   rw [h4] at h3
   exact ⟨c,Φ,QC.pure hg h3⟩
  ·exact (Z1 ho).elim
 case binOp op t x y yt=>
  split at ho
  ·rename_i u v hu hv;exact (Qb5 ho (hρ x (by simp) u hu) (hρ y (by simp) v hv)).Q62 hg
  ·exact (Z1 ho).elim
 case unOp op t x=>
  split at ho
  ·rename_i v hv;exact (un_ok ho (hρ x (by simp) v hv)).Q62 hg
  ·exact (Z1 ho).elim
 case convert s d x=>
  split at ho
  ·rename_i v hv;exact wr (Q:=λ_ _=>True) (Z7x hU ho hag hg (hρ x (by simp) v hv) (λh0=>hf nx (Nat.le_refl _) (by omega)))
  ·exact (Z1 ho).elim
 case slice t x lo hi mx=>
  split at ho
  ·rename_i v hv
   have q1:=Z6S (U:=U) (c:=c) (ρ:=ρ) (a:=a) (x:=lo) λy hy v hv=>hρ y (by simp at hy ⊢;simp [hy]) v hv
   have q2:=Z6S (U:=U) (c:=c) (ρ:=ρ) (a:=a) (x:=hi) λy hy v hv=>hρ y (by simp at hy ⊢;simp [hy]) v hv
   have q3:=Z6S (U:=U) (c:=c) (ρ:=ρ) (a:=a) (x:=mx) λy hy v hv=>hρ y (by simp at hy ⊢;simp [hy]) v hv
   split at ho
   ·rename_i r hr
    exact wr (Q:=λ_ _=>True) (Z7z hU hr ho hag hg (hρ x (by simp) v hv) q1 q2 q3)
   split at ho
   ·rename_i r hr
    exact (Z8v hr ho hag hg (hρ x (by simp) v hv) q1 q2 q3).Q62 hg
   have hslice:∀(out:Out U),(Z5i P (Γ (Z4l t)).isSome t v (lo.map ρ) (hi.map ρ) (mx.map ρ) h' nx).outs=some out->(∀s,s∈out.rd\/s∈out.w.map (·.1)->get h s=get h' s)->Q72 c h nx out.nw->
     ∃u w' c' Φ',(Instr.sliceAt t (a.eval x) (lo.map a.eval) (hi.map a.eval) (mx.map a.eval)).run P w= .ok u w'/\QC U c Φ h nx out w c' Φ' u w':=λout ho hag hf=>by
    have quiet:(Z2H P t v (lo.map ρ) (hi.map ρ) (mx.map ρ) h').outs=some out->∃u w' c' Φ',(Instr.sliceAt t (a.eval x) (lo.map a.eval) (hi.map a.eval) (mx.map a.eval)).run P w= .ok u w'/\QC U c Φ h nx out w c' Φ' u w':=λho=>by
     obtain ⟨u,p1,p2,p3,p4⟩:=Z9p hU ho hag hg (hρ x (by simp) v hv) q1 q2 q3
     obtain ⟨v',rd,w',nw⟩:=out
     simp only at p2 p3 p4
     subst p3;subst p4
     exact ⟨u,w,c,Φ,p1,QC.pure hg p2⟩
    unfold Z5i at ho
    cases ha0:Z3W h' v with
    |true=>rw [ha0] at ho;exact quiet ho
    |false=>
     rw [ha0] at ho
     simp only [cond_false] at ho
     cases hop:(Γ (Z4l t)).isSome with
     |false=>rw [hop] at ho;exact quiet ho
     |true=>
      rw [hop] at ho
      simp only [cond_true] at ho
      split at ho
      ·rename_i r hr
       exact Z7h hU hr ho hag hg hf (hρ x (by simp) v hv) q1 q2 q3
      ·exact quiet ho
   rcases Z60 ho with ho2|⟨o,ho2,hoo⟩
   ·exact wr (Q:=λ_ _=>True) (hslice out ho2 hag hf)
   ·obtain ⟨uu,xs,rd,rfl,rfl⟩:=Z8p hoo
    obtain ⟨u,w',c',Φ',h1,h2⟩:=hslice _ ho2 (λs hs=>hag s (.inl (by simpa using hs))) (λs h1 h2=>by simp at h2;omega)
    obtain ⟨hn,hs0⟩:=hf nx (Nat.le_refl _) (by simp)
    obtain ⟨c2,Φ2,h3⟩:=Z8K (nx:=nx) (rd:=rd) hU h2.g (λi=>by rw [h2.L nx i (by simp) (by simp)];exact hs0 i) (by simpa using hn) h2.val
    have h4:=h2.comp (rd:=rd) h3
    exact wr (Q:=λ_ _=>True) ⟨u,w',c2,Φ2,h1,h4⟩
  ·exact (Z1 ho).elim
 case fieldAddr t x f=>
  split at ho
  ·rename_i v hv;exact (Z6Q ho (hρ x (by simp) v hv)).Q62 hg
  ·exact (Z1 ho).elim
 case field t x f=>
  split at ho
  ·rename_i v hv;exact (Z9e ho (hρ x (by simp) v hv)).Q62 hg
  ·exact (Z1 ho).elim
 case indexAddr t x i=>
  split at ho
  ·rename_i u v hu hv
   split at ho
   ·rename_i r hr
    exact (Z8k hr ho hag hg (hρ x (by simp) u hu) (hρ i (by simp) v hv)).Q62 hg
   unfold Z48 at ho
   cases ha0:Z3W h' u with
   |true=>
    rw [ha0] at ho
    exact (Z2N hU ho hag hg (hρ x (by simp) u hu) (hρ i (by simp) v hv)).Q62 hg
   |false=>
   rw [ha0] at ho
   simp only [cond_false] at ho
   cases hop:(Γ (Z4l t)).isSome with
   |false=>
    rw [hop] at ho
    exact (Z2N hU ho hag hg (hρ x (by simp) u hu) (hρ i (by simp) v hv)).Q62 hg
   |true=>
    rw [hop] at ho
    simp only [cond_true] at ho
    split at ho
    ·rename_i r hr
     exact wr (Q:=λ_ _=>True) (Z7G hU hr ho hag hg hf (hρ x (by simp) u hu) (hρ i (by simp) v hv))
    ·exact (Z2N hU ho hag hg (hρ x (by simp) u hu) (hρ i (by simp) v hv)).Q62 hg
  ·exact (Z1 ho).elim
 case index t x i=>
  split at ho
  ·rename_i u v hu hv;exact (Z8U ho (hρ x (by simp) u hu) (hρ i (by simp) v hv)).Q62 hg
  ·exact (Z1 ho).elim
 case makeSlice t x y=>
  split at ho
  ·rename_i u v hu hv
   exact wr (Q:=λ_ _=>True) (Z9o (ev:=a.eval) hU ho hg (hρ x (by simp) u hu) (hρ y (by simp) v hv) rfl rfl (λh0=>hf nx (Nat.le_refl _) (by omega)))
  ·exact (Z1 ho).elim
 case range t x=>
  split at ho
  ·rename_i v hv
   obtain ⟨hn,hs⟩:=hf nx (Nat.le_refl _) (by rw [Z8W ho];omega)
   exact wr (Q:=λ_ _=>True) (Z8Z hU ho (hρ x (by simp) v hv) hg hs hn)
  ·exact (Z1 ho).elim
 case next x str=>
  split at ho
  ·rename_i v hv
   exact wr (Q:=λ_ _=>True) (QcI hU ho hag (hρ x (by simp) v hv) hg)
  ·exact (Z1 ho).elim
 case makeMap t r=>
  cases r with
  |some y=>exact (Z1 ho).elim
  |none=>exact wr (Q:=λ_ _=>True) (Z8i hU ho hag hg)
 case lookup t x i k=>
  split at ho
  ·rename_i u v hu hv
   obtain ⟨v',rd,w1,nw⟩:=out
   obtain ⟨u',p1,p2,p3,p4⟩:=Z8s hU ho hag hg (hρ x (by simp) u hu) (hρ i (by simp) v hv)
   simp only at p2 p3 p4
   subst p3;subst p4
   exact wr (Q:=λ_ _=>True) ⟨u',w,c,Φ,p1,QC.pure hg p2⟩
  ·exact (Z1 ho).elim
 case mapUpdate t m k v=>
  split at ho
  ·rename_i u v v' hu hv hv'
   obtain ⟨w',c',Φ',p1,p2⟩:=Z71 (nx:=nx) hU ho hag hg (hρ m (by simp) u hu) (hρ k (by simp) v hv) (hρ _ (by simp) v' hv')
   exact Q3a.unit p1 ⟨c',Φ',p2⟩
  ·exact (Z1 ho).elim
 case extract x i=>
  split at ho
  ·rename_i v hv;exact (Z8a ho (hρ x (by simp) v hv)).Q62 hg
  ·exact (Z1 ho).elim
 case makeFunc fn first captured=>exact (Z7E ho λx hx v hv=>hρ x (by simp [Op.operands];simp [Array.mem_toList_iff.1 hx]) v hv).Q62 hg
 case call cl=>exact Qd7 hU hΓ ho hag hg hf (λx hx v hv=>hρ x (by simp [Call.operands];simp [Array.mem_toList_iff.1 hx]) v hv) λx hx v hv=>hρ x (by simp [Call.operands,hx]) v hv
end Go.Rf
namespace Go.Rf
set_option linter.unusedVariables false
set_option linter.unusedSimpArgs false
variable {U : QY} {P : Program} {Γ : Nat -> Option (Native U)} {ro : Nat} {dr : Bool} {ops : List Oper} {ms : List Nat}
inductive Trace (P:Program) (Γ:Nat->Option (Native U)) (ro:Nat) (dr:Bool) (ops:List Oper) (ms:List Nat):List Oper->Nat->List (Nat×Info)->St U->List (Out U)->St U->Prop
 |nil {j:Nat} {acc:List (Nat×Info)} {st:St U}:Trace P Γ ro dr ops ms [] j acc st [] st
 |cons {o:Oper} {rest:List Oper} {j:Nat} {acc:List (Nat×Info)} {st st':St U} {out:Out U} {outs:List (Out U)} (hd:Z38 st.n o.dst=true)
   (hw:(want ops st.env o= .yes/\(step P Γ st.nx (opd st.env) st.h o).outs=some out)\/(want ops st.env o= .no/\out={ v:= .t []}))
   (ho:Z2D dr ms j o (info ops o out) acc=true) (hr:Q5x ro out.w=true)
   (ht:Trace P Γ ro dr ops ms rest (j+1) ((j,info ops o out)::acc) (st.apply o.dst out) outs st'):Trace P Γ ro dr ops ms (o::rest) j acc st (out::outs) st'
theorem QbK {ρ:Type} {S:ρ->Prop} {fail:ρ} (hf:¬S fail) {r:OpR U} {K:Out U->ρ} (h:S (r.elim fail K)):∃out,r.outs=some out/\S (K out):=by
 cases r with
 |fail=>exact (hf h).elim
 |ok o=>exact ⟨o,rfl,h⟩
 |chk b o=>cases b with
  |true=>exact ⟨o,rfl,h⟩
  |false=>exact (hf h).elim
 |opt α x k=>cases x with
  |none=>exact (hf h).elim
  |some y=>exact ⟨k y,rfl,h⟩
 |two b x y=>cases b with
  |true=>exact ⟨x,rfl,h⟩
  |false=>exact ⟨y,rfl,h⟩
theorem Z7R {ρ:Type} {S:ρ->Prop} {J:Bool->ρ->ρ->ρ} (hJ:∀b x y,S (J b x y)->S (bif b then x else y)) {g:Bool} {dst:Option Tmp} {o:Out U} {K:Out U->ρ}
  (h:S (split J g dst o K)):S (K o):=by
 unfold split at h
 split at h
 ·rename_i b rd w nw
  have:=hJ _ _ _ h
  cases b <;> exact this
 ·exact h
theorem Z2O {ρ:Type} {S:ρ->Prop} {J:Bool->ρ->ρ->ρ} {fail:ρ} (hf:¬S fail) (hJ:∀b x y,S (J b x y)->S (bif b then x else y)):
  ∀(rest:List Oper) (j:Nat) (acc:List (Nat×Info)) (st:St U) (K:St U->ρ),S (ZX P Γ ro dr ops ms J fail rest j acc st K)->
   ∃outs st',Trace P Γ ro dr ops ms rest j acc st outs st'/\S (K st')
 | [],j,acc,st,K,h=>⟨[],st,.nil,h⟩
 |o::rest,j,acc,st,K,h=>by
  unfold ZX at h
  cases hd:Z38 st.n o.dst with
  |false=>rw [hd] at h;exact (hf h).elim
  |true=>
   rw [hd] at h
   simp only [Bool.not_true,cond_false] at h
   cases hw:want ops st.env o with
   |bad=>rw [hw] at h;exact (hf h).elim
   |no=>
    rw [hw] at h
    simp only at h
    cases ho:Z2D dr ms j o (info ops o ({ v:= .t []}:Out U)) acc with
    |false=>rw [ho] at h;exact (hf h).elim
    |true=>
     rw [ho] at h
     simp only [cond_true] at h
     obtain ⟨outs,st',h1,h2⟩:=Z2O hf hJ rest _ _ _ K h
     exact ⟨_::outs,st',.cons hd (.inr ⟨hw,rfl⟩) ho rfl h1,h2⟩
   |yes=>
    rw [hw] at h
    simp only at h
    obtain ⟨out,h1,h2⟩:=QbK hf h
    cases ho:Z2D dr ms j o (info ops o out) acc && Q5x ro out.w with
    |false=>rw [ho] at h2;exact (hf h2).elim
    |true=>
     rw [ho] at h2
     simp only [cond_true] at h2
     rw [Bool.and_eq_true] at ho
     obtain ⟨outs,st',h3,h4⟩:=Z2O hf hJ rest _ _ _ K (Z7R hJ h2)
     exact ⟨_::outs,st',.cons hd (.inl ⟨hw,h1⟩) ho.1 ho.2 h3,h4⟩
theorem Z2Y:∀(l m:List Nat),l.Pairwise (· > ·)->m.Pairwise (· > ·)->(∀x,x∈l↔x∈m)->l=m
 | [],[],_,_,_=>rfl
 | [],y::m,_,_,h=>by have:=(h y).2 (List.mem_cons_self ..);cases this
 |x::l,[],_,_,h=>by have:=(h x).1 (List.mem_cons_self ..);cases this
 |x::l,y::m,hl,hm,h=>by
  rw [List.pairwise_cons] at hl hm
  have hxy:x=y:=by
   rcases List.mem_cons.1 ((h x).1 (List.mem_cons_self ..)) with e|e
   ·exact e
   ·rcases List.mem_cons.1 ((h y).2 (List.mem_cons_self ..)) with e'|e'
    ·exact e'.symm
    ·have:=hl.1 y e';have:=hm.1 x e;omega
  subst hxy
  congr 1
  refine Z2Y l m hl.2 hm.2 λz=>?_
  constructor
  ·intro hz
   rcases List.mem_cons.1 ((h z).1 (List.mem_cons_of_mem _ hz)) with e|e
   ·subst e;have:=hl.1 z hz;omega
   ·exact e
  ·intro hz
   rcases List.mem_cons.1 ((h z).2 (List.mem_cons_of_mem _ hz)) with e|e
   ·subst e;have:=hm.1 z hz;omega
   ·exact e
theorem ZG {α β:Type} (f:α->Option β):∀l:List α,l.findSome? f=(l.filter λx=>(f x).isSome).findSome? f
 | []=>rfl
 |x::l=>by
  rw [List.findSome?_cons,List.filter_cons]
  cases hx:f x with
  |none=>simp;exact ZG f l
  |some y=>simp [List.findSome?_cons,hx]
def down (j:Nat):List Nat:=(List.range j).reverse
theorem Z3b (j:Nat):down (j+1)=j::down j:=by simp [down,List.range_succ]
theorem Z1M {i j:Nat}:i∈down j↔i < j:=by simp [down]
theorem Z2f:∀j,(down j).Pairwise (· > ·)
 |0=>by simp [down]
 |j+1=>by
  rw [Z3b,List.pairwise_cons]
  exact ⟨λi hi=>Z1M.1 hi,Z2f j⟩
theorem Z4Y {β:Type} {f:Nat->Option β} {L:List Nat} {j:Nat} (hs:(L.filter λi=>(f i).isSome).Pairwise (· > ·)) (hm:∀i,(f i).isSome->(i∈L↔i < j)):
  L.findSome? f=(down j).findSome? f:=by
 rw [ZG f L,ZG f (down j)]
 congr 1
 refine Z2Y _ _ hs ((Z2f j).filter _) λx=>?_
 simp only [List.mem_filter,Z1M]
 constructor
 ·rintro ⟨h1,h2⟩;exact ⟨(hm x h2).1 h1,h2⟩
 ·rintro ⟨h1,h2⟩;exact ⟨(hm x h2).2 h1,h2⟩
end Go.Rf
namespace Go.Rf
set_option linter.unusedVariables false
set_option linter.unusedSimpArgs false
variable {U : QY} {P : Program} {Γ : Nat -> Option (Native U)} {ro : Nat} {dr : Bool}
theorem Trace.facts {ops:List Oper} {ms:List Nat} {rest:List Oper} {j:Nat} {acc:List (Nat×Info)} {st st':St U} {outs:List (Out U)} (h:Trace P Γ ro dr ops ms rest j acc st outs st'):
  ∃(X:Nat->Out U) (T:Nat->St U),T j=st/\T (j+rest.length)=st'/\∀k o,rest[k]? =some o->
   T (j+k+1)=(T (j+k)).apply o.dst (X (j+k))/\Z38 (T (j+k)).n o.dst=true/\
   ((want ops (T (j+k)).env o= .yes/\(step P Γ (T (j+k)).nx (opd (T (j+k)).env) (T (j+k)).h o).outs=some (X (j+k)))\/(want ops (T (j+k)).env o= .no/\X (j+k)={ v:= .t []}))/\
   Q5x ro (X (j+k)).w=true/\(dr=true->Z2b (j+k) o=true/\
    (∀p∈acc,Q4E p.2 (info ops o (X (j+k)))=true->(ms.getD (j+k) 0).testBit p.1=true)/\
    ∀i o',rest[i]? =some o'->i < k->Q4E (info ops o' (X (j+i))) (info ops o (X (j+k)))=true->(ms.getD (j+k) 0).testBit (j+i)=true):=by
 induction h with
 | @nil j acc st=>exact ⟨λ_=>{ v:= .t []},λ_=>st,rfl,rfl,λk o hk=>by simp at hk⟩
 | @cons o rest j acc st st' out outs hd hw ho hr ht ih=>
  obtain ⟨X,T,h1,h2,h3⟩:=ih
  let X':Nat->Out U:=λi=>if i=j then out else X i
  let T':Nat->St U:=λi=>if i=j then st else T i
  have hX0:X' j=out:=by simp [X']
  have hT0:T' j=st:=by simp [T']
  have hXs:∀i,X' (j+(i+1))=X (j+1+i):=λi=>by
   simp only [X'];rw [if_neg (by omega)];congr 1;omega
  have hTs:∀i,T' (j+(i+1))=T (j+1+i):=λi=>by
   simp only [T'];rw [if_neg (by omega)];congr 1;omega
  have hor:dr=true->Z2b j o=true/\∀p∈acc,Q4E p.2 (info ops o out)=true->(ms.getD j 0).testBit p.1=true:=λhdr=>by
   subst hdr
   simp only [Z2D,Bool.not_true,Bool.false_or,Bool.and_eq_true,List.all_eq_true] at ho
   refine ⟨ho.1,λp hp hc=>?_⟩
   have:=ho.2 p hp
   simpa [hc] using this
  refine ⟨X',T',hT0,?_,λk x hk=>?_⟩
  ·rw [List.length_cons,hTs];exact h2
  ·cases k with
   |zero=>
    simp at hk;subst hk
    simp only [Nat.add_zero]
    rw [hX0,hT0]
    refine ⟨?_,hd,hw,hr,λhdr=>⟨(hor hdr).1,(hor hdr).2,λi o' _ hi=>by omega⟩⟩
    have:=hTs 0
    simp only [Nat.add_zero,Nat.zero_add] at this
    rw [this,h1]
   |succ k=>
    simp at hk
    obtain ⟨h4,h5,h6,h7,h8⟩:=h3 k x hk
    have e:j+(k+1)+1=j+(k+1+1):=by omega
    rw [e,hTs (k+1),hTs k,hXs k]
    refine ⟨h4,h5,h6,h7,λhdr=>?_⟩
    obtain ⟨h9,h10,h11⟩:=h8 hdr
    have e2:j+(k+1)=j+1+k:=by omega
    refine ⟨by rw [e2];exact h9,λp hp=>by rw [e2];exact h10 p (List.mem_cons_of_mem _ hp),λi o' hi hik hc=>?_⟩
    cases i with
    |zero=>
     simp at hi;subst hi
     simp only [Nat.add_zero] at hc ⊢
     rw [hX0] at hc
     rw [e2]
     exact h10 (j,info ops o out) (List.mem_cons_self ..) hc
    |succ i=>
     simp at hi
     rw [hXs i] at hc
     rw [e2,show j+(i+1)=j+1+i by omega]
     exact h11 i o' hi (by omega) hc
structure Reg (U:QY) (P:Program) (Γ:Nat->Option (Native U)) (ro:Nat) (dr:Bool) (ops:Array Oper) (ms:List Nat) (st0:St U) (X:Nat->Out U) (T:Nat->St U):Prop where
 t0:T 0=st0
 ts:∀(j:Nat) o,ops[j]? =some o->T (j+1)=(T j).apply o.dst (X j)
 dst:∀(j:Nat) o,ops[j]? =some o->Z38 (T j).n o.dst=true
 run:∀(j:Nat) o,ops[j]? =some o->(want ops.toList (T j).env o= .yes/\(step P Γ (T j).nx (opd (T j).env) (T j).h o).outs=some (X j))\/(want ops.toList (T j).env o= .no/\X j={ v:= .t []})
 wr:∀(j:Nat) o,ops[j]? =some o->Q5x ro (X j).w=true
 edge:dr=true->∀(j:Nat) o,ops[j]? =some o->Z2b j o=true
 Q4E:dr=true->∀(j:Nat) o i o',ops[j]? =some o->ops[i]? =some o'->i < j->Rf.Q4E (info ops.toList o' (X i)) (info ops.toList o (X j))=true->(ms.getD j 0).testBit i=true
theorem Trace.reg {ops:Array Oper} {ms:List Nat} {st st':St U} {outs:List (Out U)} (h:Trace P Γ ro dr ops.toList ms ops.toList 0 [] st outs st'):
  ∃X T,Reg U P Γ ro dr ops ms st X T/\T ops.size=st':=by
 obtain ⟨X,T,h1,h2,h3⟩:=h.facts
 simp only [Nat.zero_add] at h1 h2 h3
 have hl:∀(j:Nat) o,ops[j]? =some o->ops.toList[j]? =some o:=λj o hj=>by rw [Array.getElem?_toList];exact hj
 refine ⟨X,T,⟨h1,λj o hj=>(h3 j o (hl j o hj)).1,λj o hj=>(h3 j o (hl j o hj)).2.1,λj o hj=>(h3 j o (hl j o hj)).2.2.1,λj o hj=>(h3 j o (hl j o hj)).2.2.2.1,
  λhdr j o hj=>((h3 j o (hl j o hj)).2.2.2.2 hdr).1,λhdr j o i o' hj hi hlt hc=>((h3 j o (hl j o hj)).2.2.2.2 hdr).2.2 i o' (hl i o' hi) hlt hc⟩,by simpa using h2⟩
structure Ext (U:QY) (ro:Nat) (c0:Cx) (Φ0:Nat->Nat->Nat->Prop) (h0:Qq U) (nx0:Nat) (w0:World) (c:Cx) (Φ:Nat->Nat->Nat->Prop) (h:Qq U) (w:World):Prop where
 le:c0.Le c
 L:∀s i,s < nx0->(U.nf<=s\/get h0 s=none\/s < ro)->c.L s i=c0.L s i
 old:∀s,s < nx0->(get h s).isSome->(get h0 s).isSome
 fr:Fr (λb o=>∃s,ro<=s/\(get h0 s).isSome/\Φ0 s b o) w0 w
 Q2T:∀s,s < ro->Φ s=Φ0 s
 Q2q:∀s b o,ro<=s->(get h s).isSome->Φ s b o->w0.heap.size<=b\/∃s',ro<=s'/\(get h0 s').isSome/\Φ0 s' b o
 Q3w:∀b o v,c.I b o=some v->c0.I b o=some v\/w0.heap.size<=b\/∃s',ro<=s'/\(get h0 s').isSome/\Φ0 s' b o
section
variable {c0 : Cx} {Φ0 : Nat -> Nat -> Nat -> Prop} {h0 : Qq U} {nx0 : Nat} {w0 : World} {c : Cx} {Φ : Nat -> Nat -> Nat -> Prop} {h : Qq U} {w : World}
theorem Ext.refl:Ext U ro c0 Φ0 h0 nx0 w0 c0 Φ0 h0 w0:=
 ⟨.refl _,λ_ _ _ _=>rfl,λ_ _ h=>h,.refl _ _,λ_ _=>rfl,λs b o h1 h2 h3=>.inr ⟨s,h1,h2,h3⟩,λ_ _ _ h=>.inl h⟩
theorem Ext.less {h':Qq U} (he:Ext U ro c0 Φ0 h0 nx0 w0 c Φ h w) (hh:∀s,(get h' s).isSome->(get h s).isSome):Ext U ro c0 Φ0 h0 nx0 w0 c Φ h' w:=
 ⟨he.le,he.L,λs h1 h2=>he.old s h1 (hh s h2),he.fr,he.Q2T,λs b o h1 h2 h3=>he.Q2q s b o h1 (hh s h2) h3,he.Q3w⟩
theorem Ext.drew (he:Ext U ro c0 Φ0 h0 nx0 w0 c Φ h w):Ext U ro c0 Φ0 h0 nx0 w0 c Φ h { w with drawn:=w.drawn+1}:=
 ⟨he.le,he.L,he.old,he.fr.trans (Fr.drew _ w) λ_ _ _ h=>h,he.Q2T,he.Q2q,he.Q3w⟩
theorem Z2W {s:Nat} {l:List (Nat×Ent U)} (hw:Q5x ro l=true) (hs:s∈l.map (·.1)):ro<=s:=by
 unfold Q5x at hw
 rw [List.all_eq_true] at hw
 obtain ⟨p,hp,rfl⟩:=List.mem_map.1 hs
 exact Nat.le_of_ble_eq_true (hw p hp)
theorem Ext.step {nx:Nat} {out:Out U} {c':Cx} {Φ':Nat->Nat->Nat->Prop} {v:Value} {w':World} (he:Ext U ro c0 Φ0 h0 nx0 w0 c Φ h w) (hs:QC U c Φ h nx out w c' Φ' v w')
  (hw:Q5x ro out.w=true) (hn:nx0<=nx):Ext U ro c0 Φ0 h0 nx0 w0 c' Φ' (out.w++h) w' where
 le:=he.le.trans hs.le
 L s i hsi hf:=(hs.L s i (by omega) (λ⟨h1,h2⟩=>by
  rcases hs.names s h2 with h3|h3
  ·omega
  ·have:=he.old s hsi h3
   rcases hf with h4|h4|h4
   ·omega
   ·rw [h4] at this;cases this
   ·have:=Z2W hw h2;omega)).trans (he.L s i hsi hf)
 old s hsi h1:=by
  by_cases hm:s∈out.w.map (·.1)
  ·rcases hs.names s hm with h3|h3
   ·omega
   ·exact he.old s hsi h3
  ·rw [Zf,Ze hm] at h1
   exact he.old s hsi h1
 fr:=he.fr.trans hs.fr λb o hb ⟨s,h1,h2,h3⟩=>by
  rcases he.Q2q s b o (Z2W hw h1) h2 h3 with h4|h4
  ·exact absurd hb (Nat.not_lt.2 h4)
  ·exact h4
 Q2T s hsr:=by
  rw [hs.Q2T s λhm=>by have:=Z2W hw hm;omega]
  exact he.Q2T s hsr
 Q2q s b o hsr h1 h2:=by
  by_cases hm:s∈out.w.map (·.1)
  ·rcases hs.Q2q s b o hm h2 with h3|⟨s',h3,h4,h5⟩
   ·exact .inl (Nat.le_trans he.fr.size h3)
   ·exact he.Q2q s' b o (Z2W hw h3) h4 h5
  ·rw [hs.Q2T s hm] at h2
   rw [Zf,Ze hm] at h1
   exact he.Q2q s b o hsr h1 h2
 Q3w b o v hI:=by
  rcases hs.Q3w b o v hI with h1|h1|⟨s,h1,h2,h3⟩
  ·exact he.Q3w b o v h1
  ·exact .inr (.inl (Nat.le_trans he.fr.size h1))
  ·rcases he.Q2q s b o (Z2W hw h1) h2 h3 with h4|h4
   ·exact .inr (.inl h4)
   ·exact .inr (.inr h4)
theorem G.congr {h':Qq U} (hg:G U c Φ h w) (hh:∀s,get h' s=get h s):G U c Φ h' w:=
 ⟨λs e he=>hg.Q1U s e (by rw [←hh];exact he),λs s' b o h1 h2 h3=>hg.apart s s' b o h1 (by rw [←hh];exact h2) (by rw [←hh];exact h3),hg.imm,λs b o h1=>hg.Q1a s b o (by rw [←hh];exact h1)⟩
end
end Go.Rf
namespace Go.Rf
set_option linter.unusedVariables false
set_option linter.unusedSimpArgs false
variable {U : QY} {P : Program} {c : Cx} {Φ : Nat -> Nat -> Nat -> Prop} {h : Qq U} {nx : Nat} {w : World}
theorem Z54:∀(l:List U.S) (k j t:Nat),Z1L l k=some (j,t)->k<=j/\l[j - k]? =some (.arr t)
 | [],k,j,t,h=>by cases h
 |y::r,k,j,t,h=>by
  have rest:Z1L r (k+1)=some (j,t)->k<=j/\(y::r)[j - k]? =some (.arr t):=λh=>by
   obtain ⟨h1,h2⟩:=Z54 r (k+1) j t h
   refine ⟨by omega,?_⟩
   rw [show j - k=(j - (k+1))+1 by omega,List.getElem?_cons_succ]
   exact h2
  cases y with
  |arr t'=>
   simp only [Z1L,Option.some.injEq,Prod.mk.injEq] at h
   obtain ⟨rfl,rfl⟩:=h
   exact ⟨Nat.le_refl _,by simp⟩
  |_=>exact rest h
theorem Z6T (hU:U.Ok) (s:Nat):∀(fu:Nat) (h:Qq U) (Φ:Nat->Nat->Nat->Prop),G U c Φ h w->∃Φ',QC U c Φ h nx { v:= .t [],w:=Z16 fu s h} w c Φ' undef w
 |0,h,Φ,hg=>⟨Φ,QC.pure hg RA.undef⟩
 |fu+1,h,Φ,hg=>by
  unfold Z16
  split
  ·rename_i cells he
   split
   ·rename_i k t hfa
    split
    ·rename_i u m f ht
     have:=(Z54 _ _ _ _ hfa).2
     obtain ⟨Φ1,h1⟩:=Z5R (nx:=nx) (rd:= []) hU hg he (by simpa using this) ht
     obtain ⟨Φ2,h2⟩:=Z6T hU s fu _ Φ1 h1.g
     exact ⟨Φ2,h1.comp (rd:= []) h2⟩
    ·exact ⟨Φ,QC.pure hg RA.undef⟩
   ·exact ⟨Φ,QC.pure hg RA.undef⟩
  ·exact ⟨Φ,QC.pure hg RA.undef⟩
theorem QcX (fu s:Nat) (h:Qq U):s∈Z3Z fu s h:=by
 induction fu generalizing h with
 |zero=>simp [Z3Z]
 |succ fu ih=>
  unfold Z3Z
  split
  ·split
   ·split
    ·exact List.mem_cons_of_mem _ (ih _)
    ·simp
   ·simp
  ·simp
theorem Z5L (s:Nat):∀(fu:Nat) (h h':Qq U),(∀x,x∈Z3Z fu s h'->get h x=get h' x)->Z16 fu s h=Z16 fu s h'
 |0,h,h',_=>rfl
 |fu+1,h,h',ha=>by
  have hs:=ha s (QcX _ _ _)
  unfold Z16
  unfold Z3Z at ha
  rw [hs]
  cases he:get h' s with
  |none=>rfl
  |some e=>
   rw [he] at ha
   cases e with
   |obj cells=>
    simp only at ha ⊢
    cases hfa:Z1L cells 0 with
    |none=>rfl
    |some p=>
     obtain ⟨k,t⟩:=p
     rw [hfa] at ha
     simp only at ha ⊢
     have ht:get h t=get h' t:=ha t (by
      split
      ·exact List.mem_cons_self ..
      ·simp)
     rw [ht]
     cases htt:get h' t with
     |none=>rfl
     |some e=>
      rw [htt] at ha
      cases e with
      |fam ct u m f=>
       cases ct with
       |true=>
        simp only at ha ⊢
        rw [Z5L s fu _ _ λx hx=>ZT (ha x (List.mem_cons_of_mem _ hx))]
       |false=>rfl
      |_=>rfl
   |_=>rfl
theorem Z8Y (hU:U.Ok) (u:U.C) (s:Nat) (h:Qq U) (hg:G U c Φ h w):QC U c Φ h nx { v:= .t [],w:=Z22 u s h} w c Φ undef w:=by
 unfold Z22
 split
 ·rename_i cells he
  exact Z1U (rd:= []) hg he λF hF=>Z5m hU _ _ _ hF
 ·exact QC.pure hg RA.undef
theorem Q64.own {k b o n cap sz:Nat} {a:Option Addr} (h:Q64 c (.own k) a b o n cap sz):∃b' o' e,c.L k 0=some (b',o')/\c.L k 1=some (b',e)/\(0 < cap->a=some (at_ b o)/\b'=b/\o'=o+n*sz/\o+cap*sz<=e):=h
theorem Z4p {s:Nat} {F:Nat->Nat->Prop} {cells:List U.S} (hE:∃b o G,c.L s 0=some (b,o)/\(∀i x,c.L s i=some x->i=0)/\Pl U c w b o cells G/\(∀b' o',F b' o'↔∃k,k < cells.length/\G k b' o')) {k:Nat} {x:U.S} (hk:k < cells.length)
  {Fk Fx:Nat->Nat->Prop} (hx:∀b o G,c.L s 0=some (b,o)->Pl U c w b o cells G->(∀b' o',F b' o'↔∃k,k < cells.length/\G k b' o')->Own U c w b (o+k) x (λb' o'=>G k b' o'\/Fx b' o')/\∀b' o',Fx b' o'->F b' o'->False):
  Q1J c w s (λb' o'=>F b' o'\/Fx b' o') (.obj (Zk k x cells):Ent U):=by
 obtain ⟨b,o,G,e1,e2,hP,hF⟩:=hE
 obtain ⟨h1,h2⟩:=hx b o G e1 hP hF
 have hin:∀j b' o',j < cells.length->G j b' o'->F b' o':=λj b' o' hj hf=>(hF _ _).2 ⟨j,hj,hf⟩
 refine ⟨b,o,λj b' o'=>G j b' o'\/(j=k/\Fx b' o'),e1,e2,⟨λj y hj=>?_,λi j b' o' hi hj hne f1 f2=>?_⟩,λb' o'=>?_⟩
 ·rw [Qbh hk] at hj
  by_cases e:j=k
  ·subst e
   rw [if_pos rfl] at hj;cases hj
   exact h1.iff λb' o'=>⟨λh=>h.imp id λh=>⟨rfl,h⟩,λh=>h.imp id λh=>h.2⟩
  ·rw [if_neg e] at hj
   exact (hP.own j y hj).iff λb' o'=>⟨.inl,λh=>h.elim id λh=>absurd h.1 e⟩
 ·rw [Z3g hk] at hi hj
  rcases f1 with f1|⟨e1,f1⟩
  ·rcases f2 with f2|⟨e2,f2⟩
   ·exact hP.dis i j b' o' hi hj hne f1 f2
   ·exact h2 _ _ f2 (hin i _ _ hi f1)
  ·rcases f2 with f2|⟨e2,f2⟩
   ·exact h2 _ _ f1 (hin j _ _ hj f2)
   ·omega
 ·rw [Z3g hk]
  constructor
  ·rintro (hf|hf)
   ·obtain ⟨j,hj,hf⟩:=(hF _ _).1 hf
    exact ⟨j,hj,.inl hf⟩
   ·exact ⟨k,hk,.inr ⟨rfl,hf⟩⟩
  ·rintro ⟨j,hj,hf|⟨_,hf⟩⟩
   ·exact .inl (hin j _ _ hj hf)
   ·exact .inr hf
theorem Qdm (hU:U.Ok) {s k:Nat} {u:U.C} {h:Qq U} {Φ:Nat->Nat->Nat->Prop} (hg:G U c Φ h w):∃Φ',QC U c Φ h nx { v:= .t [],w:=Q69 s k u h} w c Φ' undef w:=by
 unfold Q69
 split
 ·rename_i cells he
  split
  ·rename_i t v xs hc
   split
   ·rename_i e _
    subst e
    split
    ·rename_i ht
     cases hsb:Nat.beq s t with
     |true=>exact ⟨Φ,QC.pure hg RA.undef⟩
     |false=>
      simp only [cond_false]
      have hne:s≠t:=λe=>by subst e;simp at hsb
      have hk:=(List.getElem?_eq_some_iff.1 hc).1
      obtain ⟨bt,ot,et,t1,t2,t3,t4⟩:=hg.Q1U t _ ht
      have hss:(get h s).isSome:=by rw [he];rfl
      have hst:(get h t).isSome:=by rw [ht];rfl
      have hE:=hg.Q1U s _ he

      obtain ⟨b,o,Gk,e1,e2,hP,hF⟩:=id hE
      obtain ⟨⟨vv,q1,q2⟩,q3,q4⟩:=(hP.own k _ hc).plain rfl
      cases q2 with
      | @isl _ _ _ a cap b1 o1 g hcap htok ha hi hr=>
       obtain ⟨b',o',e,r1,r2,r3⟩:=htok.own
       rw [t1] at r1;cases r1
       rw [t2] at r2;cases r2
       let Fx:Nat->Nat->Prop:=λb' o'=>0 < cap/\b'=b1/\o1+xs.length*U.size v<=o'/\o' < o1+cap*U.size v
       have hFx:∀b' o',Fx b' o'->Φ t b' o':=λb' o' ⟨p0,p1,p2,p3⟩=>by
        obtain ⟨_,r4,r5,r6⟩:=r3 p0
        subst p1
        have:=(t3 o' (by omega) (by omega)).2.2
        rwa [←r4]
       refine ⟨_,G.QaE (Fs:=λz=>if z=s then (λb' o'=>Φ s b' o'\/Fx b' o') else λ_ _=>False) (nw:=0) hU hg (.refl c) (λ_ _ _=>rfl) (λz h1 h2=>by omega) rfl (λz en hz=>?_) (λz b' o' hz hf=>?_) (λz z' b' o' hz hz' hne' h1 h2=>?_) (λz hz=>?_) RA.undef⟩
       ·rw [Z6] at hz
        by_cases e:s=z
        ·subst e
         rw [if_pos rfl] at hz;cases hz
         simp only [if_pos rfl]
         refine Z4p (Fk:=λ_ _=>False) hE hk λb2 o2 G2 w1 w2 w3=>?_
         have hnd:∀b' o',Fx b' o'->Φ s b' o'->False:=λb' o' h1 h2=>hg.apart s t b' o' hne hss hst h2 (hFx _ _ h1)
         refine ⟨?_,hnd⟩
         obtain ⟨⟨vv2,p1,p2⟩,p3,p4⟩:=(w2.own k _ hc).plain rfl
         rw [e1] at w1;cases w1
         rw [q1] at p1;cases p1
         have hroom:∀x,o1+xs.length*U.size v<=x->x < o1+cap*U.size v->Fx b1 x:=λx h1 h2=>by
          have:0 < cap:=by
           rcases Nat.eq_zero_or_pos cap with h0|h0
           ·subst h0;omega
           ·exact h0
          exact ⟨this,rfl,h1,h2⟩
         refine .Q2d (b1:=b1) (o1:=o1) g q1 p3 hcap (λhp=>(r3 hp).1) hi hr (λx h1 h2=>?_) (λhb h1 h2=>?_) λb' o'=>?_
         ·have h3:=hroom x h1 h2
          obtain ⟨p0,_,_,_⟩:=id h3
          obtain ⟨_,r4,r5,r6⟩:=r3 p0
          obtain ⟨h4,h5,_⟩:=t3 x (by omega) (by omega)
          rw [r4] at h4 h5
          exact ⟨h4,h5⟩
         ·refine hnd b1 (o+k) (hroom _ h1 h2) ?_
          rw [←hb]
          exact (w3 _ _).2 ⟨k,hk,(p4 _ _).2 ⟨rfl,rfl⟩⟩
         ·rw [p4]
          refine or_congr Iff.rfl ⟨λh=>⟨h.2.1,h.2.2⟩,λ⟨h1,h2,h3⟩=>by subst h1;exact hroom _ h2 h3⟩
        ·rw [if_neg e,Z6] at hz
         by_cases e2:t=z
         ·subst e2
          rw [if_pos rfl] at hz;cases hz
          rw [if_neg (λe3:t=s=>e e3.symm)]
          exact λ_ _ h=>h
         ·rw [if_neg e2] at hz;cases hz
       ·simp at hz
        by_cases e:z=s
        ·subst e
         simp only [if_pos rfl] at hf
         rcases hf with hf|hf
         ·exact ⟨z,by simp,hss,hf⟩
         ·exact ⟨t,by simp,hst,hFx _ _ hf⟩
        ·simp only [if_neg e] at hf
       ·by_cases e:z=s
        ·have e':z'≠s:=λe2=>hne' (e.trans e2.symm)
         simp only [if_neg e'] at h2
        ·simp only [if_neg e] at h1
       ·simp at hz
        rcases hz with rfl|rfl
        ·exact .inr hss
        ·exact .inr hst
    ·exact ⟨Φ,QC.pure hg RA.undef⟩
   ·exact ⟨Φ,QC.pure hg RA.undef⟩
  ·rename_i v xs hc
   split
   ·rename_i e _
    subst e
    have hk:=(List.getElem?_eq_some_iff.1 hc).1
    refine ⟨Φ,Z1U (rd:= []) hg he λF hE=>?_⟩
    have:=Z4p (Fk:=λ_ _=>False) (Fx:=λ_ _=>False) (x:= .Q2d v xs) hE hk λb o G w1 w2 w3=>⟨Z2y (w2.own k _ hc),λ_ _ h _=>h⟩
    have e:(λb' o'=>F b' o'\/False)=F:=by funext b' o';simp
    rwa [e] at this
   ·exact ⟨Φ,QC.pure hg RA.undef⟩
  ·rename_i hc
   have hk:=(List.getElem?_eq_some_iff.1 hc).1
   refine ⟨Φ,Z1U (rd:= []) hg he λF hE=>?_⟩
   have:=Z4p (Fk:=λ_ _=>False) (Fx:=λ_ _=>False) (x:= .Q2d u []) hE hk λb o G w1 w2 w3=>⟨Z2y (Own.le (w2.own k _ hc) ⟨rfl,λc v hr=>by
     cases R.Q1z hr
     exact R.isl (xs:= []) (b:=0) (o:=0) (λ_ _=>undef) (Nat.le_refl _) (by rfl) (λhh=>by simp at hh) (λi k hi=>by simp at hi) (λi k hi=>by simp at hi),λh=>by cases h⟩),λ_ _ h _=>h⟩
   have e:(λb' o'=>F b' o'\/False)=F:=by funext b' o';simp
   rwa [e] at this
  ·exact ⟨Φ,QC.pure hg RA.undef⟩
 ·exact ⟨Φ,QC.pure hg RA.undef⟩
theorem Z7i (hU:U.Ok) (s:Nat):∀(tm:List U.S) (k:Nat) (h:Qq U) (Φ:Nat->Nat->Nat->Prop),G U c Φ h w->∃Φ',QC U c Φ h nx { v:= .t [],w:=olW s tm k h} w c Φ' undef w
 | [],k,h,Φ,hg=>⟨Φ,QC.pure hg RA.undef⟩
 |x::r,k,h,Φ,hg=>by
  cases x with
  |Q2d u xs=>
   obtain ⟨Φ1,h1⟩:=Qdm (nx:=nx) (s:=s) (k:=k) (u:=u) hU hg
   obtain ⟨Φ2,h2⟩:=Z7i hU s r (k+1) _ Φ1 h1.g
   exact ⟨Φ2,h1.comp (rd:= []) h2⟩
  |_=>exact Z7i hU s r (k+1) h Φ hg
theorem Z8b {s k:Nat} {u:U.C} {h h':Qq U} (ha:∀x,x∈Qat s k h'->get h x=get h' x):Q69 s k u h=Q69 s k u h':=by
 have hs:=ha s (by unfold Qat;split <;> (try split) <;> simp)
 unfold Q69
 rw [hs]
 cases he:get h' s with
 |none=>rfl
 |some e=>
  cases e with
  |obj cells=>
   simp only
   cases hc:cells[k]? with
   |none=>rfl
   |some x=>
    cases x with
    |isl t v xs=>
     cases t with
     |own t=>
      simp only
      have:=ha t (by unfold Qat;rw [he];simp only;rw [hc];simp)
      rw [this]
     |_=>rfl
    |val v=>
     cases v with
     |slice a n m=>
      cases a with
      |some a=>rfl
      |none=>
       cases n with
       |succ n=>rfl
       |zero=>cases m <;> rfl
     |_=>rfl
    |_=>rfl
  |_=>rfl
theorem Z4x (s:Nat):∀(tm:List U.S) (k:Nat) (h h':Qq U),(∀x,x∈olR s tm k h'->get h x=get h' x)->olW s tm k h=olW s tm k h'
 | [],k,h,h',ha=>rfl
 |x::r,k,h,h',ha=>by
  cases x with
  |Q2d u xs=>
   have h1:Q69 s k u h=Q69 s k u h':=Z8b λx hx=>ha x (List.mem_append_left _ hx)
   show olW s r (k+1) (Q69 s k u h++h)++Q69 s k u h=olW s r (k+1) (Q69 s k u h'++h')++Q69 s k u h'
   rw [h1,Z4x s r (k+1) _ _ λx hx=>ZT (ha x (List.mem_append_right _ hx))]
  |_=>exact Z4x s r (k+1) h h' ha
theorem Z2u (hU:U.Ok):∀(l:List (Nat×U.C)) (h:Qq U) (Φ:Nat->Nat->Nat->Prop),G U c Φ h w->∃Φ',QC U c Φ h nx { v:= .t [],w:=Zr l h} w c Φ' undef w
 | [],h,Φ,hg=>⟨Φ,QC.pure hg RA.undef⟩
 |(s,u)::r,h,Φ,hg=>by
  unfold Zr
  obtain ⟨Φ1,h1⟩:=Z6T (nx:=nx) hU s 20 h Φ hg
  have h2:=Z8Y (nx:=nx) hU u s _ h1.g
  have h3:=h1.comp (rd:= []) h2
  obtain ⟨Φ2,h4⟩:=Z7i (nx:=nx) hU s (U.enc u (U.dft u)) 0 _ Φ1 h3.g
  have h5:=h3.comp (rd:= []) h4
  obtain ⟨Φ3,h6⟩:=Z2u hU r _ Φ2 h5.g
  exact ⟨Φ3,h5.comp (rd:= []) h6⟩
theorem Z5A:∀(l:List (Nat×U.C)) (h h':Qq U),(∀x,x∈Z4q l h'->get h x=get h' x)->Zr l h=Zr l h'
 | [],h,h',_=>rfl
 |(s,u)::r,h,h',ha=>by
  unfold Zr
  unfold Z4q at ha
  have h1:=Z5L s 20 h h' λx hx=>ha x (by simp [hx])
  have hs:=ha s (by simp)
  have h2:Z22 u s (Z16 20 s h++h)=Z22 u s (Z16 20 s h'++h'):=by
   unfold Z22
   rw [h1,ZT hs]
  simp only [h1] at h2 ⊢
  rw [h2]
  have h3:olW s (U.enc u (U.dft u)) 0 (Z22 u s (Z16 20 s h'++h')++Z16 20 s h'++h)=olW s (U.enc u (U.dft u)) 0 (Z22 u s (Z16 20 s h'++h')++Z16 20 s h'++h'):=
   Z4x s _ 0 _ _ λx hx=>ZT (ha x (by
    simp only [List.cons_append,List.mem_cons,List.mem_append]
    exact .inr (.inr (.inl hx))))
  rw [h3,Z5A r _ (olW s (U.enc u (U.dft u)) 0 (Z22 u s (Z16 20 s h'++h')++Z16 20 s h'++h')++(Z22 u s (Z16 20 s h'++h')++Z16 20 s h')++h') λx hx=>ZT (ha x (by
   simp only [List.cons_append,List.mem_cons,List.mem_append]
   exact .inr (.inr (.inr hx))))]
end Go.Rf
namespace Go.Rf
set_option linter.unusedVariables false
set_option linter.unusedSimpArgs false
variable {U : QY} {P : Program} {Γ : Nat -> Option (Native U)} {ro : Nat} {dr : Bool}
section
variable {ops : Array Oper} {ms : List Nat} {st0 : St U} {X : Nat -> Out U} {T : Nat -> St U}
def Z1p (ops:Array Oper) (i:Nat):Option Nat:=(ops[i]?).bind (·.dst)
def wE (ops:Array Oper) (X:Nat->Out U) (t i:Nat):Option (A U):=if Z1p ops i=some t then some (X i).v else none
def wH (X:Nat->Out U) (s i:Nat):Option (Ent U):=get (X i).w s
def Q7a (ops:Array Oper) (X:Nat->Out U) (st0:St U) (L:List Nat) (t:Nat):Option (A U):=
 match L.findSome? (wE ops X t) with
 |some v=>some v
 |none=>get st0.env t
def hL (X:Nat->Out U) (st0:St U) (L:List Nat):Qq U:=L.foldr (λi h=>(X i).w++h) st0.h
theorem Z5I (L:List Nat) (s:Nat):get (hL X st0 L) s=match L.findSome? (wH X s) with|some e=>some e|none=>get st0.h s:=by
 induction L with
 |nil=>rfl
 |cons i L ih=>
  rw [List.findSome?_cons]
  show get ((X i).w++hL X st0 L) s=_
  rw [Zf]
  simp only [wH]
  cases get (X i).w s with
  |some e=>rfl
  |none=>exact ih
theorem Z63 (hR:Reg U P Γ ro dr ops ms st0 X T):∀j,j<=ops.size->(T j).h=hL X st0 (down j)
 |0,_=>by rw [hR.t0];rfl
 |j+1,hj=>by
  have ho:ops[j]? =some ops[j]:=Array.getElem?_eq_getElem (by omega)
  rw [hR.ts j _ ho,Z3b]
  show (X j).w++(T j).h=(X j).w++hL X st0 (down j)
  rw [Z63 hR j (by omega)]
theorem Z5l (hR:Reg U P Γ ro dr ops ms st0 X T) (t:Nat):∀j,j<=ops.size->get (T j).env t=Q7a ops X st0 (down j) t
 |0,_=>by rw [hR.t0];rfl
 |j+1,hj=>by
  have ho:ops[j]? =some ops[j]:=Array.getElem?_eq_getElem (by omega)
  have ih:=Z5l hR t j (by omega)
  rw [hR.ts j _ ho,Z3b]
  unfold Q7a at ih ⊢
  rw [List.findSome?_cons]
  have hd:Z1p ops j=ops[j].dst:=by simp [Z1p,ho]
  simp only [St.apply,wE,hd]
  cases hdst:ops[j].dst with
  |none=>simpa using ih
  |some d=>
   rw [Z6]
   by_cases e:d=t
   ·subst e;simp
   ·rw [if_neg e,if_neg (λh=>e (Option.some.inj h))]
    exact ih
theorem Z4H (hR:Reg U P Γ ro dr ops ms st0 X T) {i:Nat}:∀k,i < k->k<=ops.size->(T i).nx+(X i).nw<=(T k).nx
 |0,h,_=>by omega
 |k+1,h,hk=>by
  have ho:ops[k]? =some ops[k]:=Array.getElem?_eq_getElem (by omega)
  rw [hR.ts k _ ho]
  show _<=(T k).nx+(X k).nw
  by_cases e:i=k
  ·subst e;exact Nat.le_refl _
  ·have:=Z4H (i:=i) hR k (by omega) (by omega);omega
theorem Q8R (hR:Reg U P Γ ro dr ops ms st0 X T):∀k,k<=ops.size->st0.nx<=(T k).nx
 |0,_=>by rw [hR.t0];exact Nat.le_refl _
 |k+1,hk=>by
  have ho:ops[k]? =some ops[k]:=Array.getElem?_eq_getElem (by omega)
  rw [hR.ts k _ ho]
  show _<=(T k).nx+(X k).nw
  have:=Q8R hR k (by omega);omega
theorem Z7k (hR:Reg U P Γ ro dr ops ms st0 X T):∀k,k<=ops.size->(T k).n=st0.n
 |0,_=>by rw [hR.t0]
 |k+1,hk=>by
  have ho:ops[k]? =some ops[k]:=Array.getElem?_eq_getElem (by omega)
  rw [hR.ts k _ ho]
  exact Z7k hR k (by omega)
structure Q67 (U:QY) (ops:Array Oper) (st0:St U) (X:Nat->Out U) (T:Nat->St U) (B:Cx->(Nat->Nat->Nat->Prop)->Qq U->World->Prop) (L:List Nat) (c:Cx) (Φ:Nat->Nat->Nat->Prop) (a:Act) (w:World):Prop where
 size:a.tmps.size=st0.n
 defers:a.defers= []
 env:∀t v,Q7a ops X st0 L t=some v->RA U c v (a.eval (.tmp t))
 g:G U c Φ (hL X st0 L) w
 fresh:∀s,st0.nx<=s->(∀i∈L,¬((T i).nx<=s/\s < (T i).nx+(X i).nw))->get (hL X st0 L) s=none/\∀k,c.L s k=none
 b:B c Φ (hL X st0 L) w
structure Agree (ops:Array Oper) (st0:St U) (X:Nat->Out U) (L:List Nat) (j:Nat) (o:Oper):Prop where
 env:∀t,t∈Z1l ops.toList o->Q7a ops X st0 L t=Q7a ops X st0 (down j) t
 heap:∀s,s∈(X j).rd\/s∈(X j).w.map (·.1)->get (hL X st0 L) s=get (hL X st0 (down j)) s
theorem Z3E {c:Cx} {v:Value} {x:A U} (h:Z5X v=some x):RA U c x v:=by
 unfold Z5X at h
 split at h
 ·rename_i cs
  cases hb:cs.toList.all okV with
  |false=>simp [hb] at h
  |true=>
   simp [hb] at h
   subst h
   rw [List.all_eq_true] at hb
   refine ⟨cs,rfl,by simp,λk x hk=>?_⟩
   rw [List.getElem?_map] at hk
   cases hv:cs.toList[k]? with
   |none=>simp [hv] at hk
   |some v=>simp [hv] at hk;subst hk;exact ⟨v,rfl,.val (hb v (List.mem_of_getElem? hv))⟩
 ·rename_i cs
  cases hb:Nat.beq cs.size 0 with
  |false=>simp [hb] at h
  |true=>
   simp [hb] at h
   subst h
   have:cs= #[]:=Array.eq_empty_of_size_eq_zero (QV hb)
   subst this
   exact RA.undef
 ·rename_i h1 h2
  cases hb:okV v with
  |false=>rw [hb] at h;cases h
  |true=>rw [hb] at h;cases h;exact R.val hb
theorem Z46 {a:Act} {d:Nat} {v:Value} (hd:d < a.tmps.size):(a.put (some d) v).eval (.tmp d)=v:=by
 simp [Act.eval,Act.put,hd]
theorem Z51 {a:Act} {d t:Nat} {v:Value} (hd:d≠t):(a.put (some d) v).eval (.tmp t)=a.eval (.tmp t):=by
 simp [Act.eval,Act.put,Array.getElem?_setIfInBounds_ne hd]
theorem Z4A {a:Act} {t:Nat} {b:Bool} (h:a.eval (.tmp t)= .bool b):a.tmps[t]? =some (.bool b):=by
 unfold Act.eval at h
 simp only at h
 cases ht:a.tmps[t]? with
 |none=>simp [ht,undef] at h
 |some v=>simp [ht] at h;rw [h]
theorem Z6C {a:Act} {t:Nat} {vs:Array Value} (h:a.eval (.tmp t)= .tuple vs):∀b,a.tmps[t]? ≠some (.bool b):=by
 intro b hb
 unfold Act.eval at h
 simp [hb] at h
theorem Z6w {c:Cx} {a:Act} {o:Oper} {env:Env U} (he:∀t,t∈Z1l ops.toList o->∀v,get env t=some v->RA U c v (a.eval (.tmp t))):
  (want ops.toList env o= .yes->Region.wanted o (yielded ops a.tmps)=true)/\(want ops.toList env o= .no->Region.wanted o (yielded ops a.tmps)=false):=by
 unfold want Region.wanted
 cases hg:o.guard with
 |none=>simp
 |some p=>
  obtain ⟨g,b⟩:=p
  simp only [yielded]
  have e1:ops.toList[g]? =ops[g]? :=Array.getElem?_toList ..
  rw [e1]
  cases ht:(ops[g]?).bind (·.dst) with
  |none=>simp
  |some t=>
   simp only [Option.bind_some]
   have hl:t∈Z1l ops.toList o:=by simp [Z1l,hg,e1,ht]
   cases hv:get env t with
   |none=>simp
   |some v=>
    have hr:=he t hl v hv
    refine ⟨λh=>?_,λh=>?_⟩
    ·split at h
     ·rename_i x heq
      cases heq
      have:=Z4A (R.Q1z (show R U c (.val (.bool x)) _ from hr))
      rw [this]
      cases x <;> cases b <;> simp at h ⊢
     ·cases h
     ·cases h
    ·split at h
     ·rename_i x heq
      cases heq
      have:=Z4A (R.Q1z (show R U c (.val (.bool x)) _ from hr))
      rw [this]
      cases x <;> cases b <;> simp at h ⊢
     ·rename_i heq
      cases heq
      obtain ⟨vs,h1,h2,h3⟩:=hr
      have:=Z6C h1
      split
      ·rename_i b' hb';exact absurd hb' (this b')
      ·rfl
     ·cases h
end
end Go.Rf
namespace Go.Rf
set_option linter.unusedVariables false
set_option linter.unusedSimpArgs false
variable {U : QY} {P : Program} {Γ : Nat -> Option (Native U)} {ro : Nat} {dr : Bool}
section
variable {ops : Array Oper} {ms : List Nat} {st0 : St U} {X : Nat -> Out U} {T : Nat -> St U}
variable {c0 : Cx} {Φ0 : Nat -> Nat -> Nat -> Prop} {h0 : Qq U} {nx0 : Nat} {w0 : World}
abbrev Q7D (U:QY) (ro:Nat) (c0:Cx) (Φ0:Nat->Nat->Nat->Prop) (h0:Qq U) (nx0:Nat) (w0:World):Cx->(Nat->Nat->Nat->Prop)->Qq U->World->Prop:=
 λc Φ h w=>Ext U ro c0 Φ0 h0 nx0 w0 c Φ h w
theorem Q67.put (hR:Reg U P Γ ro dr ops ms st0 X T) (hn:nx0<=st0.nx) {L:List Nat} {c:Cx} {Φ:Nat->Nat->Nat->Prop} {a:Act} {w:World} (hI:Q67 U ops st0 X T (Q7D U ro c0 Φ0 h0 nx0 w0) L c Φ a w)
  {j:Nat} {o:Oper} (ho:ops[j]? =some o) {c':Cx} {Φ':Nat->Nat->Nat->Prop} {u:Value} {w':World} (hS:QC U c Φ (hL X st0 L) (T j).nx (X j) w c' Φ' u w'):
  Q67 U ops st0 X T (Q7D U ro c0 Φ0 h0 nx0 w0) (j::L) c' Φ' (a.put o.dst u) w':=by
 have hj:j < ops.size:=(Array.getElem?_eq_some_iff.1 ho).1
 have hnj:=Q8R hR j (by omega)
 refine ⟨?_,?_,λt v hv=>?_,hS.g,λs hs hall=>?_,hI.b.step hS (hR.wr j o ho) (by omega)⟩
 ·cases o.dst <;> simp [Act.put,hI.size]
 ·cases o.dst <;> simp [Act.put,hI.defers]
 ·have hd:Z1p ops j=o.dst:=by simp [Z1p,ho]
  unfold Q7a at hv
  rw [List.findSome?_cons] at hv
  simp only [wE,hd] at hv
  cases hdst:o.dst with
  |none=>
   simp only [hdst] at hv
   exact (hI.env t v hv).mono hS.le
  |some d=>
   simp only [hdst] at hv
   have hlt:d < a.tmps.size:=by
    have:=hR.dst j o ho
    rw [hdst] at this
    have:=Nat.le_of_ble_eq_true (show Nat.ble (d+1) (T j).n=true from this)
    rw [Z7k hR j (by omega)] at this
    have h2:=hI.size
    exact h2▸this
   by_cases e:d=t
   ·subst e
    simp at hv
    subst hv
    rw [Z46 hlt]
    exact hS.val
   ·rw [if_neg (λh=>e (Option.some.inj h))] at hv
    rw [Z51 e]
    exact (hI.env t v hv).mono hS.le
 ·have h1:=hall j (List.mem_cons_self ..)
  obtain ⟨h2,h3⟩:=hI.fresh s hs λi hi=>hall i (List.mem_cons_of_mem _ hi)
  have hnm:s∉(X j).w.map (·.1):=λhm=>by
   rcases hS.names s hm with h4|h4
   ·exact h1 h4
   ·rw [h2] at h4;cases h4
  refine ⟨?_,λk=>(hS.L s k h1 λhh=>hnm hh.2).trans (h3 k)⟩
  show get ((X j).w++hL X st0 L) s=none
  rw [Zf]
  by_cases hm:s∈(X j).w.map (·.1)
  ·rcases hS.names s hm with h4|h4
   ·exact absurd h4 h1
   ·rw [h2] at h4;cases h4
  ·rw [Ze hm];exact h2
theorem QbO (hU:U.Ok) (hΓ:ZK U P Γ) (hR:Reg U P Γ ro dr ops ms st0 X T) (hn:nx0<=st0.nx) {L:List Nat} {c:Cx} {Φ:Nat->Nat->Nat->Prop} {a:Act} {w:World}
  (hI:Q67 U ops st0 X T (Q7D U ro c0 Φ0 h0 nx0 w0) L c Φ a w) {j:Nat} {o:Oper} (ho:ops[j]? =some o) (hjL:j∉L) (hLn:∀i∈L,i < ops.size) (hA:Agree ops st0 X L j o)
  {K:Act->World->Prop} {Q:Exit->Act->World->Prop} (hK:∀c' Φ' a' w',Q67 U ops st0 X T (Q7D U ro c0 Φ0 h0 nx0 w0) (j::L) c' Φ' a' w'->K a' w'):wpOp P ops Q j K a w:=by
 have hj:j < ops.size:=(Array.getElem?_eq_some_iff.1 ho).1
 unfold wpOp
 rw [ho]
 show (if Region.wanted o (yielded ops a.tmps)=true then Oper.wp P o a w K Q\/Oper.asks P o a w/\LetsOut Q else K (a.put o.dst undef) w)
 have henv:∀t,t∈Z1l ops.toList o->∀v,get (T j).env t=some v->RA U c v (a.eval (.tmp t)):=λt ht v hv=>by
  rw [Z5l hR t j (by omega),←hA.env t ht] at hv
  exact hI.env t v hv
 have hw:=Z6w (ops:=ops) (a:=a) (o:=o) henv
 rcases hR.run j o ho with ⟨h1,h2⟩|⟨h1,h2⟩
 ·rw [if_pos (hw.1 h1)]
  refine .inl ?_
  have hD:=Z7W (nx:=(T j).nx) (h:=hL X st0 L) hU hΓ h2 (λs hs=>by rw [Z63 hR j (by omega)];exact hA.heap s hs) hI.g
   (λs h3 h4=>hI.fresh s (by have:=Q8R hR j (by omega);omega) λi hi h5=>by
    have hne:i≠j:=λe=>hjL (e▸hi)
    have hil:=hLn i hi
    rcases Nat.lt_or_gt_of_ne hne with h6|h6
    ·have:=Z4H hR j h6 (by omega);omega
    ·have:=Z4H hR i h6 (by omega);omega)
   (λx hx v hv=>by
    cases x with
    |tmp t=>
     refine henv t ?_ v hv
     unfold Z1l
     exact List.mem_append_left _ (List.mem_filterMap.2 ⟨.tmp t,hx,rfl⟩)
    |const k=>exact Z3E hv
    |func f=>cases hv;exact R.val rfl
    |global g=>cases hv)
  exact hD.wp λu w' ⟨c',Φ',hS⟩=>hK _ _ _ _ (hI.put hR hn ho hS)
 ·rw [if_neg (by rw [hw.2 h1];simp)]
  exact hK _ _ _ _ (hI.put hR hn ho (by rw [h2];exact QC.pure hI.g RA.undef))
structure SOK (U:QY) (c:Cx) (Φ:Nat->Nat->Nat->Prop) (st:St U) (a:Act) (w:World):Prop where
 size:a.tmps.size=st.n
 defers:a.defers= []
 env:∀t v,get st.env t=some v->RA U c v (a.eval (.tmp t))
 g:G U c Φ st.h w
 fresh:∀s,st.nx<=s->get st.h s=none/\∀k,c.L s k=none
theorem Q67.start {c:Cx} {Φ:Nat->Nat->Nat->Prop} {a:Act} {w:World} (hS:SOK U c Φ st0 a w) (hB:Ext U ro c0 Φ0 h0 nx0 w0 c Φ st0.h w):Q67 U ops st0 X T (Q7D U ro c0 Φ0 h0 nx0 w0) [] c Φ a w where
 size:=hS.size
 defers:=hS.defers
 env t v hv:=hS.env t v hv
 g:=hS.g
 fresh s hs _:=hS.fresh s hs
 b:=hB
theorem Q67.finish (hR:Reg U P Γ ro dr ops ms st0 X T) {L:List Nat} {c:Cx} {Φ:Nat->Nat->Nat->Prop} {a:Act} {w:World} (hI:Q67 U ops st0 X T (Q7D U ro c0 Φ0 h0 nx0 w0) L c Φ a w)
  (hLn:∀i∈L,i < ops.size) (he:∀t,Q7a ops X st0 L t=Q7a ops X st0 (down ops.size) t) (hh:∀s,get (hL X st0 L) s=get (hL X st0 (down ops.size)) s):
  SOK U c Φ (T ops.size) a w/\Ext U ro c0 Φ0 h0 nx0 w0 c Φ (T ops.size).h w:=by
 have e1:=Z63 hR ops.size (Nat.le_refl _)
 refine ⟨⟨by rw [hI.size,Z7k hR _ (Nat.le_refl _)],hI.defers,λt v hv=>?_,by rw [e1];exact hI.g.congr λs=>(hh s).symm,λs hs=>?_⟩,by rw [e1];exact hI.b.less λs hs=>by rw [hh s];exact hs⟩
 ·rw [Z5l hR t _ (Nat.le_refl _),←he t] at hv
  exact hI.env t v hv
 ·rw [e1,←hh s]
  refine hI.fresh s (by have:=Q8R hR ops.size (Nat.le_refl _);omega) λi hi h1=>?_
  have:=Z4H hR ops.size (hLn i hi) (Nat.le_refl _)
  omega
theorem Z7U (hU:U.Ok) (hΓ:ZK U P Γ) (hR:Reg U P Γ ro dr ops ms st0 X T) (hn:nx0<=st0.nx) {Q:Exit->Act->World->Prop}
  (hQ:∀c' Φ' a' w',SOK U c' Φ' (T ops.size) a' w'->Ext U ro c0 Φ0 h0 nx0 w0 c' Φ' (T ops.size).h w'->Q .normal a' w'):
  ∀(k j:Nat) (c:Cx) (Φ:Nat->Nat->Nat->Prop) (a:Act) (w:World),j+k=ops.size->Q67 U ops st0 X T (Q7D U ro c0 Φ0 h0 nx0 w0) (down j) c Φ a w->wpOps P ops Q (List.range' j k) a w
 |0,j,c,Φ,a,w,hk,hI=>by
  have hj:j=ops.size:=by omega
  subst hj
  obtain ⟨h1,h2⟩:=hI.finish hR (λi hi=>Z1M.1 hi) (λ_=>rfl) (λ_=>rfl)
  exact hQ _ _ _ _ h1 h2
 |k+1,j,c,Φ,a,w,hk,hI=>by
  have ho:ops[j]? =some ops[j]:=Array.getElem?_eq_getElem (by omega)
  rw [List.range'_succ,wpOps_cons]
  refine QbO hU hΓ hR hn hI ho (λh=>by have:=Z1M.1 h;omega) (λi hi=>by have:=Z1M.1 hi;omega) ⟨λ_ _=>rfl,λ_ _=>rfl⟩ λc' Φ' a' w' hI'=>?_
  rw [←Z3b] at hI'
  exact Z7U hU hΓ hR hn hQ k (j+1) c' Φ' a' w' (by omega) hI'
end
end Go.Rf
namespace Go.Rf
set_option linter.unusedVariables false
set_option linter.unusedSimpArgs false
variable {U : QY} {P : Program} {Γ : Nat -> Option (Native U)} {ro : Nat} {dr : Bool}
theorem Z5K (ms:List Nat):∀(l:List Edge) (m i:Nat),((l.foldl (λm e=>bif Region.binds .any e then m|||2^e.on|||ms.getD e.on 0 else m) m).testBit i=true)->
  m.testBit i=true\/∃e∈l,Region.binds .any e=true/\(i=e.on\/(ms.getD e.on 0).testBit i=true)
 | [],m,i,h=>.inl h
 |e::l,m,i,h=>by
  rw [List.foldl_cons] at h
  rcases Z5K ms l _ i h with h1|⟨e',h1,h2⟩
  ·cases hb:Region.binds .any e with
   |false=>rw [hb] at h1;exact .inl h1
   |true=>
    rw [hb] at h1
    simp only [cond_true,Nat.testBit_or,Bool.or_eq_true,Nat.testBit_two_pow,decide_eq_true_eq] at h1
    rcases h1 with (h1|h1)|h1
    ·exact .inl h1
    ·exact .inr ⟨e,List.mem_cons_self ..,hb,.inl h1.symm⟩
    ·exact .inr ⟨e,List.mem_cons_self ..,hb,.inr h1⟩
  ·exact .inr ⟨e',List.mem_cons_of_mem _ h1,h2⟩
theorem Z5u:∀(rest:List Oper) (ms0:List Nat),∃r,Q42 rest ms0=ms0++r/\∀(k:Nat) o,rest[k]? =some o->(ms0++r).getD (ms0.length+k) 0=mask ((ms0++r).take (ms0.length+k)) o
 | [],ms0=>⟨[],by simp [Q42],λk o hk=>by simp at hk⟩
 |x::rest,ms0=>by
  obtain ⟨r,h1,h2⟩:=Z5u rest (ms0++ [mask ms0 x])
  refine ⟨mask ms0 x::r,by rw [Q42,h1];simp,λk o hk=>?_⟩
  have e:ms0++ [mask ms0 x]++r=ms0++mask ms0 x::r:=by simp
  rw [e] at h2
  cases k with
  |zero=>
   simp at hk;subst hk
   simp [List.getD]
  |succ k=>
   simp at hk
   have:=h2 k o hk
   rw [List.length_append,List.length_singleton,Nat.add_assoc,Nat.add_comm 1 k] at this
   exact this
theorem Z8n {ops:Array Oper} {j:Nat} {o:Oper} (ho:ops[j]? =some o) (he:Z2b j o=true) {i:Nat} (hb:((Q42 ops.toList []).getD j 0).testBit i=true):
  ∃e∈o.after.toList,Region.binds .any e=true/\e.on < j/\(i=e.on\/((Q42 ops.toList []).getD e.on 0).testBit i=true):=by
 obtain ⟨r,h1,h2⟩:=Z5u ops.toList []
 simp only [List.nil_append,List.length_nil,Nat.zero_add] at h1 h2
 rw [h1] at hb ⊢
 rw [h2 j o (by rw [Array.getElem?_toList];exact ho)] at hb
 unfold mask at hb
 rcases Z5K _ _ _ _ hb with h3|⟨e,h3,h4,h5⟩
 ·simp at h3
 ·have hlt:e.on < j:=by
   unfold Z2b at he
   rw [List.all_eq_true] at he
   have:=he e h3
   rw [h4] at this
   simp at this
   exact this
  refine ⟨e,h3,h4,hlt,?_⟩
  rcases h5 with h5|h5
  ·exact .inl h5
  ·refine .inr ?_
   have:(r.take j).getD e.on 0=r.getD e.on 0:=by simp [List.getD,List.getElem?_take,hlt]
   rwa [this] at h5
theorem Q9M:∀(n:Nat) (L:List Nat),L.Nodup->(∀i∈L,i < n)->L.length<=n/\(L.length=n->∀i,i < n->i∈L)
 |0,L,_,h=>by
  cases L with
  |nil=>exact ⟨Nat.le_refl _,λ_ i hi=>by omega⟩
  |cons x L=>have:=h x (List.mem_cons_self ..);omega
 |n+1,L,hd,h=>by
  by_cases hm:n∈L
  ·obtain ⟨h1,h2⟩:=Q9M n (L.erase n) (hd.erase n) λi hi=>by
    have h3:=h i (List.mem_of_mem_erase hi)
    have h4:i≠n:=λe=>by subst e;exact (hd.mem_erase_iff.1 hi).1 rfl
    omega
   rw [List.length_erase_of_mem hm] at h1 h2
   have hpos:0 < L.length:=List.length_pos_of_mem hm
   refine ⟨by omega,λhl i hi=>?_⟩
   by_cases e:i=n
   ·subst e;exact hm
   ·exact List.mem_of_mem_erase (h2 (by omega) i (by omega))
  ·obtain ⟨h1,h2⟩:=Q9M n L hd λi hi=>by
    have:=h i hi
    have:i≠n:=λe=>hm (e▸hi)
    omega
   exact ⟨by omega,λhl=>by omega⟩
theorem Z2d {t:Nat} {l:List Nat}:mem t l=true↔t∈l:=by
 unfold mem
 rw [List.any_eq_true]
 constructor
 ·rintro ⟨x,h1,h2⟩;rw [QV h2];exact h1
 ·intro h;exact ⟨t,h,by simp⟩
theorem Z34 {a b:List Nat} {t:Nat} (ha:t∈a) (hb:t∈b):meets a b=true:=by
 unfold meets
 rw [List.any_eq_true]
 exact ⟨t,ha,Z2d.2 hb⟩
section
variable {ops : Array Oper} {st0 : St U} {X : Nat -> Out U} {T : Nat -> St U}
variable {c0 : Cx} {Φ0 : Nat -> Nat -> Nat -> Prop} {h0 : Qq U} {nx0 : Nat} {w0 : World}
def Con (ops:Array Oper) (i j:Nat):Prop:=(i < j->((Q42 ops.toList []).getD j 0).testBit i=true)/\(j < i->((Q42 ops.toList []).getD i 0).testBit j=true)
theorem Qb3 (hR:Reg U P Γ ro true ops (Q42 ops.toList []) st0 X T) {i j:Nat} {oi oj:Oper} (hi:ops[i]? =some oi) (hj:ops[j]? =some oj)
  (h:Q4E (info ops.toList oi (X i)) (info ops.toList oj (X j))=true) (h':Q4E (info ops.toList oj (X j)) (info ops.toList oi (X i))=true):Con ops i j:=
 ⟨λhlt=>hR.Q4E rfl j oj i oi hj hi hlt h,λhlt=>hR.Q4E rfl i oi j oj hi hj hlt h'⟩
theorem Z67 (hR:Reg U P Γ ro true ops (Q42 ops.toList []) st0 X T) {i j t:Nat} {oj:Oper} (hi:Z1p ops i=some t) (hj:ops[j]? =some oj) (h:t∈Z1l ops.toList oj\/Z1p ops j=some t):Con ops i j:=by
 cases hoi:ops[i]? with
 |none=>simp [Z1p,hoi] at hi
 |some oi=>
  have e1:oi.dst=some t:=by simpa [Z1p,hoi] using hi
  have e2:Z1p ops j=oj.dst:=by simp [Z1p,hj]
  rw [e2] at h
  refine Qb3 hR hoi hj ?_ ?_
  ·rcases h with h|h
   ·have:Q8w oi.dst (Z1l ops.toList oj)=true:=by rw [e1];exact Z2d.2 h
    simp [Q4E,info,this]
   ·have:Q8w oi.dst oj.dst.toList=true:=by rw [e1,h];exact Z2d.2 (by simp)
    simp [Q4E,info,this]
  ·rcases h with h|h
   ·have:Q8w oi.dst (Z1l ops.toList oj)=true:=by rw [e1];exact Z2d.2 h
    simp [Q4E,info,this]
   ·have:Q8w oj.dst oi.dst.toList=true:=by rw [e1,h];exact Z2d.2 (by simp)
    simp [Q4E,info,this]
theorem Z5c (hR:Reg U P Γ ro true ops (Q42 ops.toList []) st0 X T) {i j s:Nat} {oi oj:Oper} (hoi:ops[i]? =some oi) (hj:ops[j]? =some oj) (hi:s∈(X i).w.map (·.1)) (h:s∈(X j).rd\/s∈(X j).w.map (·.1)):Con ops i j:=by
 refine Qb3 hR hoi hj ?_ ?_
 ·rcases h with h|h
  ·have:=Z34 hi h;simp [Q4E,info,this]
  ·have:=Z34 hi h;simp [Q4E,info,this]
 ·rcases h with h|h
  ·have:=Z34 h hi;simp [Q4E,info,this]
  ·have:=Z34 h hi;simp [Q4E,info,this]
structure Q8s (ops:Array Oper) (L:List Nat) (Q27:Array Bool):Prop where
 nodup:L.Nodup
 lt:∀i∈L,i < ops.size
 Q27:∀i,i < ops.size->Q27[i]? =some (decide (i∈L))
 closed:∀k∈L,∀i,((Q42 ops.toList []).getD k 0).testBit i=true->i∈L
 ord:L.Pairwise λk i=>Con ops i k->i < k
theorem Z1k {p:Nat->Bool} (hp:∀i k,p i=true->p k=true->Con ops i k):∀(L:List Nat),L.Pairwise (λk i=>Con ops i k->i < k)->(L.filter p).Pairwise (· > ·)
 | [],_=>by simp
 |k::L,h=>by
  rw [List.pairwise_cons] at h
  rw [List.filter_cons]
  have ih:=Z1k hp L h.2
  split
  ·rename_i hk
   rw [List.pairwise_cons]
   refine ⟨λi hi=>?_,ih⟩
   rw [List.mem_filter] at hi
   exact h.1 i hi.1 (hp i k hi.2 hk)
  ·exact ih
theorem Z2j {Q27:Array Bool} {j:Nat}:j∈Region.ready .any ops Q27↔j < ops.size/\Q27.getD j true=false/\∃o,ops[j]? =some o/\∀e∈o.after.toList,Region.binds .any e=true->Q27.getD e.on false=true:=by
 unfold Region.ready
 rw [List.mem_filter,List.mem_range]
 constructor
 ·rintro ⟨h1,h2⟩
  have ho:ops[j]? =some ops[j]:=Array.getElem?_eq_getElem h1
  rw [Bool.and_eq_true] at h2
  refine ⟨h1,by simpa using h2.1,ops[j],ho,λe he hb=>?_⟩
  have h3:=h2.2
  rw [ho] at h3
  simp only [Option.map_some,Option.getD_some] at h3
  rw [Array.all_toList.symm,List.all_eq_true] at h3
  have:=h3 e he
  rw [hb] at this
  simpa using this
 ·rintro ⟨h1,h2,o,ho,h3⟩
  refine ⟨h1,?_⟩
  rw [Bool.and_eq_true]
  refine ⟨by simp [h2],?_⟩
  rw [ho]
  simp only [Option.map_some,Option.getD_some]
  rw [Array.all_toList.symm,List.all_eq_true]
  intro e he
  cases hb:Region.binds .any e with
  |false=>rfl
  |true=>rw [h3 e he hb];rfl
end
end Go.Rf
namespace Go.Rf
set_option linter.unusedVariables false
set_option linter.unusedSimpArgs false
variable {U : QY} {P : Program} {Γ : Nat -> Option (Native U)} {ro : Nat} {dr : Bool}
section
variable {ops : Array Oper} {st0 : St U} {X : Nat -> Out U} {T : Nat -> St U}
variable {c0 : Cx} {Φ0 : Nat -> Nat -> Nat -> Prop} {h0 : Qq U} {nx0 : Nat} {w0 : World}
theorem Q8H {t i:Nat} (h:(wE ops X t i).isSome):Z1p ops i=some t/\i < ops.size:=by
 unfold wE at h
 by_cases hd:Z1p ops i=some t
 ·refine ⟨hd,?_⟩
  cases ho:ops[i]? with
  |none=>simp [Z1p,ho] at hd
  |some o=>exact (Array.getElem?_eq_some_iff.1 ho).1
 ·rw [if_neg hd] at h;cases h
theorem side (hR:Reg U P Γ ro true ops (Q42 ops.toList []) st0 X T) {L:List Nat} {Q27:Array Bool} (hD:Q8s ops L Q27) {j:Nat} (hj:j∈Region.ready .any ops Q27):
  j∉L/\(∀i,i < ops.size->i≠j->Con ops i j->(i∈L↔i < j))/\(∀i,((Q42 ops.toList []).getD j 0).testBit i=true->i∈L):=by
 obtain ⟨h1,h2,o,ho,h3⟩:=Z2j.1 hj
 have hjL:j∉L:=λhm=>by
  have:=hD.Q27 j h1
  rw [Array.getD_eq_getD_getElem?,this] at h2
  simp [hm] at h2
 have hbits:∀i,((Q42 ops.toList []).getD j 0).testBit i=true->i∈L:=λi hi=>by
  obtain ⟨e,he,hb,hlt,h4⟩:=Z8n ho (hR.edge rfl j o ho) hi
  have h5:=h3 e he hb
  have h6:=hD.Q27 e.on (by omega)
  rw [Array.getD_eq_getD_getElem?,h6] at h5
  have h7:e.on∈L:=by simpa using h5
  rcases h4 with rfl|h4
  ·exact h7
  ·exact hD.closed e.on h7 i h4
 refine ⟨hjL,λi hi hne hc=>⟨λhm=>?_,λhlt=>hbits i (hc.1 hlt)⟩,hbits⟩
 rcases Nat.lt_or_gt_of_ne hne with h4|h4
 ·exact h4
 ·exact absurd (hD.closed i hm j (hc.2 h4)) hjL
theorem Q8s.push (hR:Reg U P Γ ro true ops (Q42 ops.toList []) st0 X T) {L:List Nat} {Q27:Array Bool} (hD:Q8s ops L Q27) {j:Nat} (hj:j∈Region.ready .any ops Q27):
  Q8s ops (j::L) (Q27.setIfInBounds j true):=by
 obtain ⟨h1,h2,h3⟩:=side hR hD hj
 have hlt:=(Z2j.1 hj).1
 refine ⟨List.nodup_cons.2 ⟨h1,hD.nodup⟩,λi hi=>?_,λi hi=>?_,λk hk i hi=>?_,?_⟩
 ·rcases List.mem_cons.1 hi with rfl|hi
  ·exact hlt
  ·exact hD.lt i hi
 ·by_cases e:j=i
  ·subst e
   have:=hD.Q27 j hi
   have hsz:j < Q27.size:=(Array.getElem?_eq_some_iff.1 this).1
   simp [Array.getElem?_setIfInBounds,hsz]
  ·rw [Array.getElem?_setIfInBounds_ne e,hD.Q27 i hi]
   congr 1
   have e':¬i=j:=λh=>e h.symm
   simp [e']
 ·rcases List.mem_cons.1 hk with rfl|hk
  ·exact List.mem_cons_of_mem _ (h3 i hi)
  ·exact List.mem_cons_of_mem _ (hD.closed k hk i hi)
 ·rw [List.pairwise_cons]
  refine ⟨λi hi hc=>?_,hD.ord⟩
  exact (h2 i (hD.lt i hi) (λe=>h1 (e▸hi)) hc).1 hi
theorem Qdr (hR:Reg U P Γ ro true ops (Q42 ops.toList []) st0 X T) {L:List Nat} {Q27:Array Bool} (hD:Q8s ops L Q27) (h:Region.ready .any ops Q27= []):∀i,i < ops.size->i∈L:=by
 intro i
 induction i using Nat.strongRecOn with
 |_ i ih=>
  intro hi
  rcases Decidable.em (i∈L) with hm|hm
  ·exact hm
  ·exfalso
   have ho:ops[i]? =some ops[i]:=Array.getElem?_eq_getElem hi
   have:i∈Region.ready .any ops Q27:=by
    refine Z2j.2 ⟨hi,?_,ops[i],ho,λe he hb=>?_⟩
    ·rw [Array.getD_eq_getD_getElem?,hD.Q27 i hi];simp [hm]
    ·have hlt:e.on < i:=by
      have:=hR.edge rfl i _ ho
      unfold Z2b at this
      rw [List.all_eq_true] at this
      have:=this e he
      rw [hb] at this
      simp at this
      exact this
     rw [Array.getD_eq_getD_getElem?,hD.Q27 e.on (by omega)]
     simpa using ih e.on hlt (by omega)
   rw [h] at this;cases this
theorem Z8M (hU:U.Ok) (hΓ:ZK U P Γ) (hR:Reg U P Γ ro true ops (Q42 ops.toList []) st0 X T) (hn:nx0<=st0.nx) {Q:Exit->Act->World->Prop}
  (hQ:∀c' Φ' a' w',SOK U c' Φ' (T ops.size) a' w'->Ext U ro c0 Φ0 h0 nx0 w0 c' Φ' (T ops.size).h w'->Q .normal a' w'):
  ∀(fuel:Nat) (L:List Nat) (Q27:Array Bool) (c:Cx) (Φ:Nat->Nat->Nat->Prop) (a:Act) (w:World),fuel+L.length=ops.size->Q8s ops L Q27->
   Q67 U ops st0 X T (Q7D U ro c0 Φ0 h0 nx0 w0) L c Φ a w->wpAny P .any ops Q fuel Q27 a w:=by
 have hfin:∀(L:List Nat) (Q27:Array Bool) (c:Cx) (Φ:Nat->Nat->Nat->Prop) (a:Act) (w:World),Q8s ops L Q27->(∀i,i < ops.size->i∈L)->
   Q67 U ops st0 X T (Q7D U ro c0 Φ0 h0 nx0 w0) L c Φ a w->Q .normal a w:=by
  intro L Q27 c Φ a w hD hall hI
  obtain ⟨h1,h2⟩:=hI.finish hR hD.lt (λt=>by
    unfold Q7a
    rw [Z4Y (j:=ops.size) (Z1k (λi k hi hk=>?_) L hD.ord) (λi hi=>⟨hD.lt i,hall i⟩)]
    obtain ⟨h3,h4⟩:=Q8H hi
    obtain ⟨h5,h6⟩:=Q8H hk
    exact Z67 hR h3 (Array.getElem?_eq_getElem h6) (.inr h5)) (λs=>by
    rw [Z5I,Z5I]
    rw [ZG (wH X s) L,ZG (wH X s) (down ops.size)]
    have:(L.filter λi=>(wH X s i).isSome)=(down ops.size).filter λi=>(wH X s i).isSome:=by
     have hs:(L.filter λi=>decide (i < ops.size) && (wH X s i).isSome).Pairwise (· > ·):=Z1k (λi k hi hk=>by
      rw [Bool.and_eq_true] at hi hk
      have hi1:i < ops.size:=of_decide_eq_true hi.1
      have hk1:k < ops.size:=of_decide_eq_true hk.1
      obtain ⟨ei,hei⟩:=Option.isSome_iff_exists.1 hi.2
      obtain ⟨ek,hek⟩:=Option.isSome_iff_exists.1 hk.2
      exact Z5c hR (Array.getElem?_eq_getElem hi1) (Array.getElem?_eq_getElem hk1) (Z2G hei) (.inr (Z2G hek))) L hD.ord
     have e:(L.filter λi=>decide (i < ops.size) && (wH X s i).isSome)=L.filter λi=>(wH X s i).isSome:=by
      refine List.filter_congr λi hi=>?_
      simp [hD.lt i hi]
     rw [e] at hs
     refine Z2Y _ _ hs ((Z2f _).filter _) λi=>?_
     simp only [List.mem_filter,Z1M]
     exact ⟨λ⟨h1,h2⟩=>⟨hD.lt i h1,h2⟩,λ⟨h1,h2⟩=>⟨hall i h1,h2⟩⟩
    rw [this])
  exact hQ _ _ _ _ h1 h2
 intro fuel
 induction fuel with
 |zero=>
  intro L Q27 c Φ a w hf hD hI
  have hall:=(Q9M ops.size L hD.nodup hD.lt).2 (by omega)
  refine ⟨?_,hfin L Q27 c Φ a w hD hall hI⟩
  cases hr:Region.ready .any ops Q27 with
  |nil=>rfl
  |cons i l=>
   have hm:i∈Region.ready .any ops Q27:=by rw [hr];exact List.mem_cons_self ..
   exact absurd (hall i (Z2j.1 hm).1) (side hR hD hm).1
 |succ fuel ih=>
  intro L Q27 c Φ a w hf hD hI
  refine ⟨λhr=>hfin L Q27 c Φ a w hD (Qdr hR hD hr) hI,λj hj=>?_⟩
  obtain ⟨h1,h2,h3⟩:=side hR hD hj
  obtain ⟨hlt,_,o,ho,_⟩:=Z2j.1 hj
  refine QbO hU hΓ hR hn hI ho h1 hD.lt ⟨λt ht=>?_,λs hs=>?_⟩ λc' Φ' a' w' hI'=>ih (j::L) _ c' Φ' a' w' (by simp;omega) (hD.push hR hj) hI'
  ·unfold Q7a
   rw [Z4Y (j:=j) (Z1k (λi k hi hk=>?_) L hD.ord) (λi hi=>?_)]
   ·obtain ⟨h3,h4⟩:=Q8H hi
    obtain ⟨h5,h6⟩:=Q8H hk
    exact Z67 hR h3 (Array.getElem?_eq_getElem h6) (.inr h5)
   ·obtain ⟨h4,h5⟩:=Q8H hi
    by_cases e:i=j
    ·subst e;exact ⟨λh=>absurd h h1,λh=>by omega⟩
    ·exact h2 i h5 e (Z67 hR h4 ho (.inl ht))
  ·rw [Z5I,Z5I]
   rw [ZG (wH X s) L,ZG (wH X s) (down j)]
   have:(L.filter λi=>(wH X s i).isSome)=(down j).filter λi=>(wH X s i).isSome:=by
    have hs':(L.filter λi=>decide (i < ops.size) && (wH X s i).isSome).Pairwise (· > ·):=Z1k (λi k hi hk=>by
     rw [Bool.and_eq_true] at hi hk
     have hi1:i < ops.size:=of_decide_eq_true hi.1
     have hk1:k < ops.size:=of_decide_eq_true hk.1
     obtain ⟨ei,hei⟩:=Option.isSome_iff_exists.1 hi.2
     obtain ⟨ek,hek⟩:=Option.isSome_iff_exists.1 hk.2
     exact Z5c hR (Array.getElem?_eq_getElem hi1) (Array.getElem?_eq_getElem hk1) (Z2G hei) (.inr (Z2G hek))) L hD.ord
    have e:(L.filter λi=>decide (i < ops.size) && (wH X s i).isSome)=L.filter λi=>(wH X s i).isSome:=by
     refine List.filter_congr λi hi=>?_
     simp [hD.lt i hi]
    rw [e] at hs'
    refine Z2Y _ _ hs' ((Z2f _).filter _) λi=>?_
    simp only [List.mem_filter,Z1M]
    have hside:i < ops.size->(wH X s i).isSome=true->(i∈L↔i < j):=λh5 h4=>by
     obtain ⟨ei,hei⟩:=Option.isSome_iff_exists.1 h4
     by_cases e:i=j
     ·subst e;exact ⟨λh=>absurd h h1,λh=>by omega⟩
     ·exact h2 i h5 e (Z5c hR (Array.getElem?_eq_getElem h5) ho (Z2G hei) hs)
    exact ⟨λ⟨h5,h6⟩=>⟨(hside (hD.lt i h5) h6).1 h5,h6⟩,λ⟨h5,h6⟩=>⟨(hside (by omega) h6).2 h5,h6⟩⟩
   rw [this]
end
end Go.Rf
namespace Go.Rf
set_option linter.unusedVariables false
set_option linter.unusedSimpArgs false
variable {U : QY} {P : Program} {Γ : Nat -> Option (Native U)} {ro : Nat}
section
variable {c0 : Cx} {Φ0 : Nat -> Nat -> Nat -> Prop} {h0 : Qq U} {nx0 : Nat} {w0 : World}
theorem SOK.drew (hU:U.Ok) {c:Cx} {Φ:Nat->Nat->Nat->Prop} {st:St U} {a:Act} {w:World} (h:SOK U c Φ st a w):SOK U c Φ st a { w with drawn:=w.drawn+1}:=
 ⟨h.size,h.defers,h.env,h.g.drew hU,h.fresh⟩
theorem Z37 (hU:U.Ok) (hΓ:ZK U P Γ) (hm:P.follows .mixedOrders=true) {ρ:Type} {S:ρ->Prop} {J:Bool->ρ->ρ->ρ} {fail:ρ} (hf:¬S fail) (hJ:∀b x y,S (J b x y)->S (bif b then x else y))
  {id:Nat} {ops:Array Oper} {dr:Bool} {st:St U} {K:St U->ρ} (h:S (ZX P Γ ro dr ops.toList (bif dr then Q42 ops.toList [] else []) J fail ops.toList 0 [] st K))
  {c:Cx} {Φ:Nat->Nat->Nat->Prop} {a:Act} {w:World} (hn:nx0<=st.nx) (hS:SOK U c Φ st a w) (hE:Ext U ro c0 Φ0 h0 nx0 w0 c Φ st.h w) {Q:Exit->Act->World->Prop}
  (hQ:∀st' c' Φ' a' w',S (K st')->nx0<=st'.nx->SOK U c' Φ' st' a' w'->Ext U ro c0 Φ0 h0 nx0 w0 c' Φ' st'.h w'->Q .normal a' w'):(Code.region id ops dr).wp P Q a w:=by
 obtain ⟨outs,st',hT,hSK⟩:=Z2O hf hJ _ _ _ _ _ h
 obtain ⟨X,T,hR,hTn⟩:=hT.reg
 have hnx:nx0<=st'.nx:=by rw [←hTn];exact Nat.le_trans hn (Q8R hR _ (Nat.le_refl _))
 have hfin:∀c' Φ' a' w',SOK U c' Φ' (T ops.size) a' w'->Ext U ro c0 Φ0 h0 nx0 w0 c' Φ' (T ops.size).h w'->Q .normal a' w':=by
  rw [hTn];exact λc' Φ' a' w' h1 h2=>hQ st' c' Φ' a' w' hSK hnx h1 h2
 cases dr with
 |false=>
  refine wp_region ?_
  have:=Z7U hU hΓ hR hn hfin ops.size 0 c Φ a w (by omega) (Q67.start hS hE)
  rwa [List.range_eq_range']
 |true=>
  simp only [cond_true] at hR
  refine wp_region_any hm (Z8M hU hΓ hR hn hfin ops.size [] _ c Φ a _ (by simp) ⟨List.nodup_nil,λi hi=>(nomatch hi),λi hi=>?_,λk hk=>(nomatch hk),List.Pairwise.nil⟩ (Q67.start (hS.drew hU) hE.drew))
  simp [hi]
end
structure Imp (U:QY) (st st':St U):Prop where
 sok:∀c Φ a w,SOK U c Φ st a w->SOK U c Φ st' a w
 less:∀s,(get st'.h s).isSome->(get st.h s).isSome
 nx:st.nx<=st'.nx
theorem Imp.refl (st:St U):Imp U st st:=⟨λ_ _ _ _ h=>h,λ_ h=>h,Nat.le_refl _⟩
theorem Imp.trans {x y z:St U} (h:Imp U x y) (h':Imp U y z):Imp U x z:=
 ⟨λc Φ a w hs=>h'.sok c Φ a w (h.sok c Φ a w hs),λs hs=>h.less s (h'.less s hs),Nat.le_trans h.nx h'.nx⟩
def Q5G (U:QY) (e e':Ent U):Prop:=∀c w s F,Q1J c w s F e->Q1J c w s F e'
theorem Imp.of {x y:St U} (hn:x.n=y.n) (he:∀t v,get y.env t=some v->∃v',get x.env t=some v'/\∀c u,RA U c v' u->RA U c v u)
  (hh:∀s e,get y.h s=some e->∃e',get x.h s=some e'/\Q5G U e' e) (hx:x.nx<=y.nx):Imp U x y:=by
 have hless:∀s,(get y.h s).isSome->(get x.h s).isSome:=λs hs=>by
  obtain ⟨e,h1⟩:=Option.isSome_iff_exists.1 hs
  obtain ⟨e',h2,_⟩:=hh s e h1
  simp [h2]
 refine ⟨λc Φ a w hS=>⟨by rw [←hn];exact hS.size,hS.defers,λt v hv=>?_,⟨λs e hs=>?_,λs s' b o h1 h2 h3=>hS.g.apart s s' b o h1 (hless s h2) (hless s' h3),hS.g.imm,λs b o h1=>hS.g.Q1a s b o (hless s h1)⟩,λs hs=>?_⟩,hless,hx⟩
 ·obtain ⟨v',h1,h2⟩:=he t v hv
  exact h2 _ _ (hS.env t v' h1)
 ·obtain ⟨e',h1,h2⟩:=hh s e hs
  exact h2 _ _ _ _ (hS.g.Q1U s e' h1)
 ·obtain ⟨h1,h2⟩:=hS.fresh s (by omega)
  refine ⟨?_,h2⟩
  cases hg:get y.h s with
  |none=>rfl
  |some e=>
   have:=hless s (by simp [hg])
   rw [h1] at this;cases this
theorem Z3f (x:Env U):∀(l:List Nat) (t:Nat) (v:A U),get (Z3v x l) t=some v->get x t=some v
 | [],t,v,h=>by cases h
 |s::l,t,v,h=>by
  unfold Z3v at h
  split at h
  ·rename_i a ha
   rw [Z6] at h
   by_cases e:s=t
   ·subst e;simp at h;subst h;exact ha
   ·rw [if_neg e] at h;exact Z3f x l t v h
  ·exact Z3f x l t v h
theorem Z2R (x:Qq U):∀(l:List Nat) (t:Nat) (v:Ent U),get (Z2V x l) t=some v->get x t=some v
 | [],t,v,h=>by cases h
 |s::l,t,v,h=>by
  unfold Z2V at h
  split at h
  ·rename_i a ha
   rw [Z6] at h
   by_cases e:s=t
   ·subst e;simp at h;subst h;exact ha
   ·rw [if_neg e] at h;exact Z2R x l t v h
  ·exact Z2R x l t v h
theorem Imp.only (st:St U) (l:Live):Imp U st (st.only l):=
 Imp.of rfl (λt v hv=>⟨v,Z3f _ _ _ _ hv,λ_ _ h=>h⟩) (λs e hs=>⟨e,Z2R _ _ _ _ hs,λ_ _ _ _ h=>h⟩) (Nat.le_refl _)
theorem Z8E {b:Bool} {x y z:U.S} (h:Z7q b x y=some z):SLe U (bif b then x else y) z:=by
 unfold Z7q at h
 split at h
 ·cases h;cases b <;> exact ⟨rfl,λ_ _ h=>h,λh=>by cases h⟩
 ·rename_i j a k c
  cases hjk:decide (j=k) with
  |false=>simp [hjk] at h
  |true=>
   simp [hjk] at h
   have:=of_decide_eq_true hjk
   subst this;subst h
   cases b <;> exact ⟨rfl,λ_ _ h=>h,λh=>by cases h⟩
 ·cases h;cases b <;> exact ⟨rfl,λ_ _ h=>h,λh=>by cases h⟩
 ·split at h
  ·rename_i e _
   subst e
   cases h
   have key:∀(t:Tok) (u:U.C) (xs:List (U.D u)),SLe U (.isl t u xs) (.isl .none u xs):=λt u xs=>⟨rfl,λc v hr=>by
    cases hr with
    |isl g hc ht ha hi hr=>exact .isl g hc trivial ha hi hr,λh=>by cases h⟩
   cases b
   ·exact key _ _ _
   ·exact key _ _ _
  ·cases h
 ·rename_i s i off s' i' off'
  cases hb:Nat.beq s s' && Nat.beq off off' with
  |false=>simp [hb] at h
  |true=>
   simp [hb] at h
   rw [Bool.and_eq_true] at hb
   have e1:=QV hb.1
   have e2:=QV hb.2
   subst e1;subst e2;subst h
   cases b <;> exact ⟨rfl,λ_ _ h=>h,λh=>by cases h⟩
 ·rename_i s off m n i k s' off' m' n' i' k'
  cases hb:Nat.beq s s' && Nat.beq off off' && Nat.beq m m' && Nat.beq n n' && Nat.beq k k' with
  |false=>simp [hb] at h
  |true=>
   simp [hb] at h
   simp only [Bool.and_eq_true] at hb
   obtain ⟨⟨⟨⟨e1,e2⟩,e3⟩,e4⟩,e5⟩:=hb
   have e1:=QV e1
   have e2:=QV e2
   have e3:=QV e3
   have e4:=QV e4
   have e5:=QV e5
   subst e1;subst e2;subst e3;subst e4;subst e5;subst h
   cases b <;> exact ⟨rfl,λ_ _ h=>h,λh=>by cases h⟩
 ·cases h;cases b <;> exact ⟨rfl,λ_ _ h=>h,λ_=>rfl⟩
 ·rename_i s s'
  cases hb:Nat.beq s s' with
  |false=>simp [hb] at h
  |true=>
   simp [hb] at h
   have e1:=QV hb
   subst e1;subst h
   cases b <;> exact ⟨rfl,λ_ _ h=>h,λ_=>rfl⟩
 ·rename_i f x f' x'
  cases hb:Nat.beq f f' with
  |false=>simp [hb] at h
  |true=>
   simp [hb] at h
   have e1:=QV hb
   subst e1;subst h
   cases b <;> exact ⟨rfl,λ_ _ h=>h,λh=>by cases h⟩
 ·cases h
theorem Z4v {b:Bool}:∀(l r m:List U.S),Z2U b l r=some m->m.length=(bif b then l else r).length/\∀(k:Nat) z,m[k]? =some z->∃x,(bif b then l else r)[k]? =some x/\SLe U x z
 | [],[],m,h=>by
  simp [Z2U] at h;subst h
  cases b <;> exact ⟨rfl,λk z hk=>by simp at hk⟩
 |x::l,y::r,m,h=>by
  unfold Z2U at h
  split at h
  ·rename_i z m' hz hm
   cases h
   have h1:=Z8E hz
   obtain ⟨h2,h3⟩:=Z4v l r m' hm
   cases b
   ·refine ⟨by simpa using h2,λk z' hk=>?_⟩
    cases k with
    |zero=>simp at hk;subst hk;exact ⟨y,rfl,h1⟩
    |succ k=>simp at hk;simpa using h3 k z' hk
   ·refine ⟨by simpa using h2,λk z' hk=>?_⟩
    cases k with
    |zero=>simp at hk;subst hk;exact ⟨x,rfl,h1⟩
    |succ k=>simp at hk;simpa using h3 k z' hk
  ·cases h
 | [],y::r,m,h=>by cases h
 |x::l,[],m,h=>by cases h
theorem RL.le {c:Cx} {l m:List U.S} {vs:List Value} (hl:RL U c l vs) (hlen:m.length=l.length) (h:∀(k:Nat) z,m[k]? =some z->∃x,l[k]? =some x/\SLe U x z):RL U c m vs:=
 ⟨by rw [hlen];exact hl.len,λk z hk=>let ⟨x,h1,h2⟩:=h k z hk;let ⟨v,h3,h4⟩:=hl.at_ k x h1;⟨v,h3,h2.val _ _ h4⟩⟩
theorem Z8Q {b:Bool} {x y z:V U} (h:Z7l b x y=some z):∀c u,RV U c (bif b then x else y) u->RV U c z u:=by
 unfold Z7l at h
 split at h
 ·rename_i l hl
  cases hg:x.g==y.g with
  |false=>simp [hg] at h
  |true=>
   simp [hg] at h
   subst h
   have hg':x.g=y.g:=by simpa using hg
   obtain ⟨h1,h2⟩:=Z4v _ _ _ hl
   intro c u hr
   have key:∀q:V U,q.g=y.g->l.length=q.l.length->(∀(k:Nat) z,l[k]? =some z->∃x,q.l[k]? =some x/\SLe U x z)->RV U c q u->RV U c ⟨y.g,l⟩ u:=by
    intro q hq hlen hz hr
    obtain ⟨qg,ql⟩:=q
    simp only at hq hlen hz
    subst hq
    cases hyg:y.g with
    |true=>
     rw [hyg] at hr
     obtain ⟨cs,h3,h4⟩:=hr
     exact ⟨cs,h3,h4.le hlen hz⟩
    |false=>
     rw [hyg] at hr
     match ql,hr with
     | [w],hr=>
      match l,hlen with
      | [z],_=>
       obtain ⟨x',h3,h4⟩:=hz 0 z rfl
       simp at h3;subst h3
       exact h4.val _ _ hr
   cases b
   ·exact key y rfl h1 h2 hr
   ·exact key x hg' h1 h2 hr
 ·cases h
theorem Q5G.obj {l m:List U.S} (hlen:m.length=l.length) (h:∀(k:Nat) z,m[k]? =some z->∃x,l[k]? =some x/\SLe U x z):Q5G U (.obj l) (.obj m):=by
 rintro c w s F ⟨b,o,G,h0,h1,h2,h3⟩
 exact ⟨b,o,G,h0,h1,h2.le hlen h,by rw [hlen];exact h3⟩
theorem Z8B {b:Bool} {x y z:Ent U} (h:Z6X b x y=some z):Q5G U (bif b then x else y) z:=by
 unfold Z6X at h
 split at h
 ·rename_i l r
  cases hm:Z2U b l r with
  |none=>simp [hm] at h
  |some m=>
   simp [hm] at h;subst h
   obtain ⟨h1,h2⟩:=Z4v _ _ _ hm
   cases b
   ·exact Q5G.obj h1 h2
   ·exact Q5G.obj h1 h2
 ·rename_i c u n f d v m g
  split at h
  ·rename_i e _
   subst e
   cases hc:c==d && Nat.beq n m with
   |false=>simp [hc] at h
   |true=>
    simp [hc] at h
    rw [Bool.and_eq_true] at hc
    have e1:c=d:=by simpa using hc.1
    have e2:=QV hc.2
    subst e1;subst e2;subst h
    cases b <;> exact λ_ _ _ _ h=>h
  ·cases h
 ·cases h;cases b <;> exact λ_ _ _ _ h=>h
 ·cases h
theorem Z21 {b:Bool} {x y:Env U}:∀(l:List Nat) (t:Nat) (v:A U),get (Z29 b x y l) t=some v->∃v',get (bif b then x else y) t=some v'/\∀c u,RA U c v' u->RA U c v u
 | [],t,v,h=>by cases h
 |s::l,t,v,h=>by
  unfold Z29 at h
  split at h
  ·rename_i a c ha hc
   split at h
   ·rename_i z hz
    rw [Z6] at h
    by_cases e:s=t
    ·subst e;simp at h;subst h
     have:=Z8Q hz
     cases b
     ·exact ⟨_,hc,this⟩
     ·exact ⟨_,ha,this⟩
    ·rw [if_neg e] at h;exact Z21 l t v h
   ·exact Z21 l t v h
  ·exact Z21 l t v h
theorem Z1F {b:Bool} {x y:Qq U}:∀(l:List Nat) (t:Nat) (v:Ent U),get (Z1S b x y l) t=some v->∃v',get (bif b then x else y) t=some v'/\Q5G U v' v
 | [],t,v,h=>by cases h
 |s::l,t,v,h=>by
  unfold Z1S at h
  split at h
  ·rename_i a c ha hc
   split at h
   ·rename_i z hz
    rw [Z6] at h
    by_cases e:s=t
    ·subst e;simp at h;subst h
     have:=Z8B hz
     cases b
     ·exact ⟨_,hc,this⟩
     ·exact ⟨_,ha,this⟩
    ·rw [if_neg e] at h;exact Z1F l t v h
   ·exact Z1F l t v h
  ·exact Z1F l t v h
theorem Z5C {b:Bool} {l:Live} {x y z:St U} (h:Z4L b l x y=some z):Imp U (bif b then x else y) z:=by
 unfold Z4L at h
 cases hn:Nat.beq x.n y.n with
 |false=>simp [hn] at h
 |true=>
  simp [hn] at h
  have hn:=QV hn
  subst h
  refine Imp.of ?_ (λt v hv=>?_) (λs e hs=>?_) ?_
  ·cases b
   ·rfl
   ·exact hn
  ·have:=Z21 _ _ _ hv
   cases b <;> exact this
  ·have:=Z1F _ _ _ hs
   cases b <;> exact this
  ·cases hb:Nat.ble x.nx y.nx with
   |true=>
    have:=Nat.le_of_ble_eq_true hb
    cases b
    ·exact Nat.le_refl _
    ·exact this
   |false=>
    have:¬x.nx<=y.nx:=λh=>by rw [Nat.ble_eq_true_of_le h] at hb;cases hb
    cases b
    ·simp only [cond_false];omega
    ·exact Nat.le_refl _
end Go.Rf
namespace Go.Rf
set_option linter.unusedVariables false
set_option linter.unusedSimpArgs false
variable {U : QY} {P : Program}
def Z1Z:U.S->Bool
 | .val _=>true
 | .isl .none _ _=>true
 | .isl .full _ _=>true
 | .Q3f _ _ _=>true
 | .Q3i _ _=>true
 | .hole=>true
 | .box _ _=>true
 | .row _ _=>true
 | .Q2d _ _=>true
 | .Q1l _ _ _=>true
 | .ref _ _=>true
 | .Q3O _ _=>true
 |_=>false
def QY.Pure (U:QY):Prop:=∀u x,(U.enc u x).all Z1Z=true
theorem R.pure (hP:U.Pure) (hU:U.Ok) {c d:Cx} (hI:Cx.LeI U c d) {x:U.S} {v:Value} (hr:R U c x v):Z1Z x=true->R U d x v:=by
 have cellp:∀(u:U.C) (y:U.D u) k,k < U.size u->Z1Z ((U.enc u y).getD k .hole)=true:=λu y k hk=>by
  have h1:=hP u y
  rw [List.all_eq_true] at h1
  have hlt:k < (U.enc u y).length:=by rw [hU.QH];exact hk
  rw [getD_of_getElem? (List.getElem?_eq_getElem hlt)]
  exact h1 _ (List.getElem_mem hlt)
 induction hr with
 |val hv=>exact λ_=>.val hv
 |ptr h1=>exact λh=>by cases h
 | @isl t u xs a cap b o g hc ht ha hi hr ih=>
  intro hp
  refine .isl g hc ?_ ha (λi k h1 h2=>hI.I _ _ _ (hi i k h1 h2)) λi k h1 h2=>ih i k h1 h2 (cellp u _ k h2)
  cases t with
  |none=>trivial
  |full=>exact ht
  |own k=>cases hp
 | @Q3f u x off b o g hi hr ih=>exact λ_=>.Q3f g (λk h1=>hI.I _ _ _ (hi k h1)) λk h1=>ih k h1 (cellp u x k h1)
 |Q8j=>exact λ_=>.Q8j
 | @Q5u u x b o g hi hr ih=>exact λ_=>.Q5u g (λk h1=>hI.I _ _ _ (hi k h1)) λk h1=>ih k h1 (cellp u x k h1)
 |sl=>exact λh=>by cases h
 |Q1g=>exact λh=>by cases h
 |asl=>exact λh=>by cases h
 |Q8k=>exact λ_=>.Q8k
 |Q65 hf h1=>exact λ_=>.Q65 hf (hI.F _ _ _ hf h1)
 |Q9j=>exact λ_=>.Q9j
 |Q7H hf h1=>exact λ_=>.Q7H hf (hI.F _ _ _ hf h1)
 |clo=>exact λh=>by cases h
theorem Z8T {c:Cx} {f:Nat} {y:U.S} {t:Option Nat} {v:Value} (hd:QaQ f y=some t) (hr:R U c y v):R U c (.ref f t) v:=by
 unfold QaQ at hd
 split at hd
 ·rename_i g y
  cases hb:Nat.beq g f with
  |false=>rw [hb] at hd;cases hd
  |true=>
   rw [hb] at hd;cases hd
   rw [←QV hb];exact hr
 ·rename_i g i off
  cases hb:Nat.beq g f && Nat.beq off 0 && Nat.blt f U.nf with
  |false=>rw [hb] at hd;cases hd
  |true=>
   rw [hb] at hd;cases hd
   simp only [Bool.and_eq_true] at hb
   have e1:=QV hb.1.1
   have e2:=QV hb.1.2
   subst e1;subst e2
   cases hr with
   |ptr h0=>exact .Q65 (Nat.le_of_ble_eq_true hb.2) h0
 ·cases hd
  cases R.Q1z hr
  exact .Q8k
 ·cases hd
theorem Z8H {c:Cx} {f:Nat} {y:U.S} {t:Option Nat} {v:Value} (hd:Z7j f y=some t) (hr:R U c y v):R U c (.Q3O f t) v:=by
 unfold Z7j at hd
 split at hd
 ·rename_i g y
  cases hb:Nat.beq g f with
  |false=>rw [hb] at hd;cases hd
  |true=>
   rw [hb] at hd;cases hd
   rw [←QV hb];exact hr
 ·cases hd
  cases R.Q1z hr
  exact .Q9j
 ·cases hd
theorem Z8m {c:Cx} {u:U.C} {y:U.S} {t:Option (U.D u)} {v:Value} (hd:Z6H u y=some t) (hr:R U c y v):R U c (.Q3i u t) v:=by
 unfold Z6H at hd
 split at hd
 ·split at hd
  ·rename_i e _;subst e;cases hd;exact hr
  ·cases hd
 ·rename_i v' y' off
  split at hd
  ·rename_i e _
   subst e
   cases ho:Nat.beq off 0 with
   |false=>simp [ho] at hd
   |true=>
    simp [ho] at hd
    have:=QV ho
    subst this;subst hd
    cases hr with
    |Q3f g hi hr=>exact R.Q5u g hi hr
  ·cases hd
 ·cases hd
  cases R.Q1z hr
  exact .Q8j
 ·cases hd
theorem Z62 (hP:U.Pure) (hU:U.Ok) {c d:Cx} (hI:Cx.LeI U c d) {s:Sh U.C} {x:V U} {t:s.T U} {v:Value} (hd:Q82 s x=some t) (hs:s.Q5d=false) (hs2:s.Q63=false) (hr:RV U c x v) (p:Nat):
  RV U d (Q5O s t p) v:=by
 unfold Q82 at hd
 split at hd
 ·rename_i k j n
  cases hb:decide (j=k) with
  |false=>simp [hb] at hd
  |true=>
   simp [hb] at hd
   subst hd
   have:=of_decide_eq_true hb
   subst this
   exact (show R U c (.val (.int j _)) v from hr).pure hP hU hI rfl
 ·cases hd;exact (show R U c (.val _) v from hr).pure hP hU hI rfl
 ·cases hd;exact (show R U c (.val _) v from hr).pure hP hU hI rfl
 ·rename_i u y
  split at hd
  ·rename_i tk xs hx
   cases hd
   obtain ⟨a,cap,b,o,g,rfl,hc,hT,ha,hi,hrr⟩:=(Z1O hx (show R U c y v from hr)).ex
   have h1:R U c (.isl .none u t) (.slice a t.length cap):=R.isl g hc trivial ha hi hrr
   exact h1.pure hP hU hI rfl
  ·cases hd
 ·rename_i u l
  obtain ⟨cs,rfl,hl⟩:=(show ∃cs:Array Value,v= .agg cs/\RL U c l cs.toList from hr)
  have h1:=hU.Q5g u l t hd c _ hl
  have h2:=hP u t
  rw [List.all_eq_true] at h2
  exact ⟨cs,rfl,h1.len,λk x hk=>let ⟨v,h3,h4⟩:=h1.at_ k x hk;⟨v,h3,h4.pure hP hU hI (h2 _ (List.mem_of_getElem? hk))⟩⟩
 ·cases hs
 ·cases hs
 ·rename_i u v' x' off
  split at hd
  ·rename_i e _
   subst e
   cases ho:Nat.beq off 0 with
   |false=>simp [ho] at hd
   |true=>
    simp [ho] at hd
    have:=QV ho
    subst this;subst hd
    exact (show R U c (.Q3f _ _ 0) v from hr).pure hP hU hI rfl
  ·cases hd
 ·rename_i u y
  exact (Z8m hd (show R U c y v from hr)).pure hP hU hI rfl
 ·cases hs
 ·exact (Z8T hd (show R U c _ v from hr)).pure hP hU hI rfl
 ·exact (Z8H hd (show R U c _ v from hr)).pure hP hU hI rfl
 ·cases hs2
 ·cases hs
 ·cases hd;exact (show R U c (.val _) v from hr).pure hP hU hI rfl
 ·cases hd;exact (show R U c (.val _) v from hr).pure hP hU hI rfl
 ·cases hd
structure Q4U (U:QY) where
 c:Cx
 Φ:Nat->Nat->Nat->Prop
 h:Qq U
 nx:Nat
 ro:Nat
 w:World
 new:∀s,nx<=s->∀k,c.L s k=none
 rw:ro<=nx
def Q4U.At (B:Q4U U) (st:St U) (a:Act) (w:World):Prop:=
 ∃c Φ,B.nx<=st.nx/\SOK U c Φ st a w/\Ext U B.ro B.c B.Φ B.h B.nx B.w c Φ st.h w
theorem Z8C (hU:U.Ok) {u:U.C} {cells:List U.S} {y:U.D u} (hd:U.dec u cells=some y):Q5G U (.obj cells) (.obj (U.enc u y)):=by
 rintro c w s F ⟨b,o,G,h0,h1,h2,h3⟩
 have hl:(U.enc u y).length=cells.length:=by rw [hU.QH,hU.Q4G _ _ _ hd]
 exact ⟨b,o,G,h0,h1,h2.dec hU hd,by rw [hl];exact h3⟩
theorem Z8e (hU:U.Ok) {u:U.C} {n:Nat} {f:Nat->U.D u} (hpl:U.plain u=true):Q5G U (.fam true u n f) (.Q3d u n 0 f):=by
 rintro c w s F ⟨A,G,h0,h1,h2,h3,h4,h5⟩
 have hcl:∀i,(U.enc u (f i)).all Zh=true:=λi=>hU.Q5f _ _ hpl
 have key:∀i k x,i < n->(U.enc u (f i))[k]? =some x->(∃v,w.cell? (at_ (A i).1 ((A i).2+k))=some v/\R U c x v)/\w.frozen? (at_ (A i).1 ((A i).2+k))=false/\∀b' o',G i k b' o'↔(b'=(A i).1/\o'=(A i).2+k):=λi k x hi hx=>by
  have:=hcl i
  rw [List.all_eq_true] at this
  exact (h2 i hi).cell hx (this _ (List.mem_of_getElem? hx))
 refine ⟨A,h0,h1,h5 rfl,hpl,λi k x hi hz=>by omega,λi k x hi _ hx=>?_,λb o=>?_⟩
 ·obtain ⟨⟨v,p1,p2⟩,p3,_⟩:=key i k x hi hx
  exact ⟨v,p1,p2,p3⟩
 ·rw [h4]
  constructor
  ·rintro ⟨i,k,hi,hk,hg⟩
   obtain ⟨_,_,p⟩:=key i k _ hi (List.getElem?_eq_getElem (by rw [hU.QH];exact hk))
   obtain ⟨p1,p2⟩:=(p _ _).1 hg
   exact ⟨i,k,hi,Nat.zero_le _,hk,p1,p2⟩
  ·rintro ⟨i,k,hi,_,hk,p1,p2⟩
   obtain ⟨_,_,p⟩:=key i k _ hi (List.getElem?_eq_getElem (by rw [hU.QH];exact hk))
   exact ⟨i,k,hi,hk,(p _ _).2 ⟨p1,p2⟩⟩
theorem Z88 (hU:U.Ok) {ct:Bool} {u:U.C} {f:Nat->U.D u}:Q5G U (.fam ct u 1 f) (.obj (U.enc u (f 0))):=by
 rintro c w s F ⟨A,G,h0,h1,h2,h3,h4,h5⟩
 refine ⟨(A 0).1,(A 0).2,G 0,h0 0 (by omega),λi x hx=>by have:=h1 i x hx;omega,h2 0 (by omega),λb' o'=>?_⟩
 rw [h4,hU.QH]
 constructor
 ·rintro ⟨i,k,hi,hk,hf⟩
  have:i=0:=by omega
  subst this
  exact ⟨k,hk,hf⟩
 ·rintro ⟨k,hk,hf⟩;exact ⟨0,k,by omega,hk,hf⟩
theorem Z4b {base nx:Nat} {m:List (Nat×Nat)} (h:Z3K base nx m=true) {s t:Nat} (hm:(s,t)∈m):
  s < nx/\(s < base↔t < base)/\(s < base->s=t)/\∀s' t',(s',t')∈m->(s=s'↔t=t'):=by
 unfold Z3K at h
 rw [List.all_eq_true] at h
 have h1:=h _ hm
 simp only [Bool.and_eq_true] at h1
 obtain ⟨⟨⟨h2,h3⟩,h4⟩,h5⟩:=h1
 have blt:∀a b,Nat.blt a b=true↔a < b:=λa b=>by unfold Nat.blt;exact ⟨λh=>Nat.le_of_ble_eq_true h,λh=>Nat.ble_eq_true_of_le h⟩
 have same:∀{a b:Bool},Z1I a b=true->a=b:=λ{a b} h=>by cases a <;> cases b <;> simp_all [Z1I]
 refine ⟨(blt _ _).1 h2,?_,λhs=>?_,λs' t' hm'=>?_⟩
 ·have:=same h3
  rw [←blt,←blt,this]
 ·have hb:=(blt s base).2 hs
  rw [hb] at h4
  exact QV h4
 ·rw [List.all_eq_true] at h5
  have:=same (h5 _ hm')
  simp only at this
  constructor
  ·intro e;subst e;simp at this;exact this
  ·intro e;subst e;simp at this;exact this
theorem Z5r {α:Type} {l:List (Nat×α)} {t:Nat} {v:α} (h:get l t=some v):(t,v)∈l:=by
 induction l with
 |nil=>cases h
 |cons p l ih=>
  obtain ⟨k,u⟩:=p
  rw [Z6] at h
  by_cases e:k=t
  ·subst e;simp at h;subst h;exact List.mem_cons_self ..
  ·rw [if_neg e] at h;exact List.mem_cons_of_mem _ (ih h)
theorem Z91 {a b:Nat} (h:a < b):Nat.blt a b=true:=Nat.ble_eq_true_of_le h
theorem Z6j {a b:Nat} (h:¬a < b):Nat.blt a b=false:=by
 cases hb:Nat.blt a b with
 |false=>rfl
 |true=>exact absurd (Nat.le_of_ble_eq_true hb) h
theorem Z1V {base:Nat} {m:List (Nat×Nat)} {s:Nat} (h:s < base):ren m base s=some s:=by unfold ren;rw [Z91 h];rfl
theorem Z3l {base nx:Nat} {m:List (Nat×Nat)} (hm:Z3K base nx m=true) {s t:Nat} (h:¬s < base) (hr:ren m base s=some t):¬t < base/\s < nx/\(s,t)∈m:=by
 unfold ren at hr
 rw [Z6j h] at hr
 have:=Z5r hr
 obtain ⟨h1,h2,_⟩:=Z4b hm this
 exact ⟨λh'=>h (h2.2 h'),h1,this⟩
theorem Qdg {base nx:Nat} {m:List (Nat×Nat)} (hm:Z3K base nx m=true) {s t:Nat} (h:(s,t)∈m):ren m base s=some t:=by
 obtain ⟨h1,h2,h3,h4⟩:=Z4b hm h
 by_cases hs:s < base
 ·rw [Z1V hs,h3 hs]
 ·unfold ren
  rw [Z6j hs]
  have:(get m s).isSome:=Z1e (List.mem_map.2 ⟨_,h,rfl⟩)
  obtain ⟨t',ht⟩:=Option.isSome_iff_exists.1 this
  have:=(h4 s t' (Z5r ht)).1 rfl
  subst this
  exact ht
theorem Qdd {base nx:Nat} {m:List (Nat×Nat)} (hm:Z3K base nx m=true) {s s' t:Nat} (h:ren m base s=some t) (h':ren m base s'=some t):s=s':=by
 by_cases hs:s < base
 ·rw [Z1V hs] at h;cases h
  by_cases hs':s' < base
  ·rw [Z1V hs'] at h';cases h';rfl
  ·exact absurd hs (Z3l hm hs' h').1
 ·by_cases hs':s' < base
  ·rw [Z1V hs'] at h';cases h'
   exact absurd hs' (Z3l hm hs h).1
  ·exact ((Z4b hm (Z3l hm hs h).2.2).2.2.2 _ _ (Z3l hm hs' h').2.2).2 rfl
def Cx.ren (c:Cx) (m:List (Nat×Nat)) (base:Nat):Cx:={ L:=λs i=>(Rf.ren m base s).bind λt=>c.L t i,I:=c.I}
section
variable {c : Cx} {m : List (Nat × Nat)} {base nx : Nat}
theorem Cx.Q43 {s t:Nat} (h:Rf.ren m base s=some t) (i:Nat):(c.ren m base).L s i=c.L t i:=by simp [Cx.ren,h]
theorem Z4n (hU:U.Ok) (hP:U.Pure) (u:U.C) (y:U.D u) (k:Nat) (hk:k < U.size u):Z1Z ((U.enc u y).getD k .hole)=true:=by
 have h1:=hP u y
 rw [List.all_eq_true] at h1
 have hlt:k < (U.enc u y).length:=by rw [hU.QH];exact hk
 rw [getD_of_getElem? (List.getElem?_eq_getElem hlt)]
 exact h1 _ (List.getElem_mem hlt)
theorem Cx.Q6f (hnf:U.nf<=base):Cx.LeI U c (c.ren m base):=⟨λ_ _ _ h=>h,λf i x hf hx=>by rw [Cx.Q43 (Z1V (Nat.lt_of_lt_of_le hf hnf))];exact hx⟩
theorem Z7O (hU:U.Ok) (hP:U.Pure) (hnf:U.nf<=base) {t t':Tok} {u:U.C} {xs:List (U.D u)} {v:Value} (h:R U c (.isl t u xs) v) (ht:∀a b o n cap sz,Q64 c t a b o n cap sz->Q64 (c.ren m base) t' a b o n cap sz):R U (c.ren m base) (.isl t' u xs) v:=by
 cases h with
 |isl g hc hT ha hi hr=>exact R.isl g hc (ht _ _ _ _ _ _ hT) ha hi λi k h1 h2=>R.pure (c:=c) (d:=c.ren m base) hP hU (Cx.Q6f hnf) (hr i k h1 h2) (Z4n hU hP u _ k h2)
theorem Z6Y:∀{ps ps':List (Nat×Nat×Nat)} {l:List (Nat×Nat)},Q8U ps ps'=some l->ps'.length=ps.length/\∀(k:Nat) p,ps[k]? =some p->∃s',ps'[k]? =some (s',p.2)/\(p.1,s')∈l
 | [],[],l,h=>by cases h;exact ⟨rfl,λk p hk=>by simp at hk⟩
 |(s,i,off)::r,(s',i',off')::r',l,h=>by
  unfold Q8U at h
  cases hb:Nat.beq i i' && Nat.beq off off' with
  |false=>simp [hb] at h
  |true=>
   simp only [hb,cond_true] at h
   rw [Bool.and_eq_true] at hb
   have e2:=QV hb.1
   have e3:=QV hb.2
   subst e2;subst e3
   split at h
   ·rename_i l' hl
    cases h
    obtain ⟨h1,h2⟩:=Z6Y hl
    refine ⟨by simp [h1],λk p hk=>?_⟩
    cases k with
    |zero=>simp at hk;subst hk;exact ⟨s',rfl,List.mem_cons_self ..⟩
    |succ k=>
     simp at hk
     obtain ⟨s2,h3,h4⟩:=h2 k p hk
     exact ⟨s2,by simpa using h3,List.mem_cons_of_mem _ h4⟩
   ·cases h
 | [],_::_,l,h=>by cases h
 |_::_,[],l,h=>by cases h
theorem Z9f {ps ps':List (Nat×Nat×Nat)} {l:List (Nat×Nat)} {f:Nat} {vs:Array Value} (hz:Q8U ps ps'=some l) (hr:∀q∈l,Rf.ren m base q.1=some q.2) (hn:vs.size=ps'.length)
  (hp:∀(k:Nat) p,ps'[k]? =some p->∃b o,c.L p.1 p.2.1=some (b,o)/\vs[k]? =some (.pointer (some (at_ b (o+p.2.2))))):R U (c.ren m base) (.clo f ps) (.func (.func f) #[] vs):=by
 obtain ⟨h1,h2⟩:=Z6Y hz
 refine R.clo (by rw [hn,h1]) λk p hk=>?_
 obtain ⟨s',h3,h4⟩:=h2 k p hk
 obtain ⟨b,o,h5,h6⟩:=hp k _ h3
 exact ⟨b,o,by rw [Cx.Q43 (hr _ h4)];exact h5,h6⟩
theorem ZN (hU:U.Ok) (hP:U.Pure) (hnf:U.nf<=base):∀(l:List (Nat×JV U.C)) (env:Env U) (x:JVs U l) (m0:List (Nat×Nat)),ZB l env=some x->ZH l env=some m0->(∀q∈m0,Rf.ren m base q.1=some q.2)->
  ∀t v,get (Zq l x) t=some v->∃v',get env t=some v'/\∀u,RA U c v' u->RA U (c.ren m base) v u
 | [],env,x,m0,h,hm,hr,t,v,hg=>by cases hg
 |(s,.val sh)::r,env,x,m0,h,hm,hr,t,v,hg=>by
  unfold ZB at h
  split at h
  ·rename_i y ys h1 h2
   cases hp:sh.Q5d||sh.Q63 with
   |true=>simp [hp] at h
   |false=>
    simp only [hp,cond_false] at h
    rw [Bool.or_eq_false_iff] at hp
    split at h
    ·rename_i z hz
     cases h
     unfold Zq at hg
     rw [Z6] at hg
     by_cases e:s=t
     ·subst e
      rw [if_pos rfl] at hg;cases hg
      exact ⟨_,h1,λu hr=>Z62 (c:=c) (d:=c.ren m base) hP hU (Cx.Q6f hnf) hz hp.1 hp.2 hr 0⟩
     ·rw [if_neg e] at hg
      exact ZN hU hP hnf r env ys m0 h2 hm hr t v hg
    ·cases h
  ·cases h
 |(s,.ptr a i off)::r,env,x,m0,h,hm,hr,t,v,hg=>by
  unfold ZH at hm
  split at hm
  ·rename_i a' i' off' l h1 h2
   cases hb:Nat.beq i i' && Nat.beq off off' with
   |false=>simp [hb] at hm
   |true=>
    simp only [hb,cond_true] at hm
    rw [Bool.and_eq_true] at hb
    have e2:=QV hb.1
    have e3:=QV hb.2
    subst e2;subst e3
    cases hm
    unfold Zq at hg
    rw [Z6] at hg
    by_cases e:s=t
    ·subst e
     rw [if_pos rfl] at hg;cases hg
     refine ⟨_,h1,λu hu=>?_⟩
     have hra:=hr (a,a') (List.mem_cons_self ..)
     cases (show R U c (.ptr a' i off) u from hu) with
     |ptr h0=>exact R.ptr (by rw [Cx.Q43 hra];exact h0)
    ·rw [if_neg e] at hg
     exact ZN hU hP hnf r env x l h h2 (λq hq=>hr q (List.mem_cons_of_mem _ hq)) t v hg
  ·cases hm
 |(s,.Q8q)::r,env,x,m0,h,hm,hr,t,v,hg=>by
  unfold ZB at h
  split at h
  ·rename_i h1
   unfold Zq at hg
   rw [Z6] at hg
   by_cases e:s=t
   ·subst e
    rw [if_pos rfl] at hg;cases hg
    refine ⟨_,h1,λu hu=>?_⟩
    cases R.Q1z (show R U c (.val (.pointer none)) u from hu)
    exact R.val rfl
   ·rw [if_neg e] at hg
    exact ZN hU hP hnf r env x m0 h hm hr t v hg
  ·cases h
 |(s,.own u k)::r,env,x,m0,h,hm,hr,t,v,hg=>by
  unfold ZB at h
  split at h
  ·rename_i k' v' xs ys h1 h2
   unfold ZH at hm
   rw [h1] at hm
   split at hm
   ·rename_i k2 _ _ l he h3
    cases hm
    cases he
    split at h
    ·rename_i e' _
     subst e'
     cases h
     unfold Zq at hg
     rw [Z6] at hg
     by_cases e:s=t
     ·subst e
      rw [if_pos rfl] at hg;cases hg
      have hra:=hr (k,_) (List.mem_cons_self ..)
      refine ⟨_,h1,λw hu=>Z7O hU hP hnf (show R U c (.isl _ _ _) w from hu) λa b o n cap sz ⟨b',o',e,h4,h5,h6⟩=>⟨b',o',e,?_,?_,h6⟩⟩
      ·rw [Cx.Q43 hra];exact h4
      ·rw [Cx.Q43 hra];exact h5
     ·rw [if_neg e] at hg
      exact ZN hU hP hnf r env ys l h2 h3 (λq hq=>hr q (List.mem_cons_of_mem _ hq)) t v hg
    ·cases h
   ·cases hm
  ·cases h
 |(s,.full u)::r,env,x,m0,h,hm,hr,t,v,hg=>by
  unfold ZB at h
  split at h
  ·rename_i y ys h1 h2
   split at h
   ·rename_i xs hx
    cases h
    unfold Zq at hg
    rw [Z6] at hg
    by_cases e:s=t
    ·subst e
     rw [if_pos rfl] at hg;cases hg
     refine ⟨_,h1,λw hu=>?_⟩
     obtain ⟨a,cap,b,o,g,rfl,hc,hT,ha,hi,hrr⟩:=(Z1O hx (show R U c y w from hu)).ex
     exact Z7O (c:=c) hU hP hnf (R.isl (t:= .full) g hc hT ha hi hrr) λ_ _ _ _ _ _ h=>h
    ·rw [if_neg e] at hg
     exact ZN hU hP hnf r env ys m0 h2 hm hr t v hg
   ·cases h
  ·cases h
 |(s,.Q1g a off m n k)::r,env,x,m0,h,hm,hr,t,v,hg=>by
  unfold ZB at h
  split at h
  ·rename_i a1 off1 m1 n1 i1 k1 ys h1 h2
   cases h
   unfold ZH at hm
   rw [h1] at hm
   split at hm
   ·rename_i a' off' m' n' i' k' l he h3
    cases he
    cases hb:Nat.beq off off1 && Nat.beq m m1 && Nat.beq n n1 && Nat.beq k k1 with
    |false=>simp [hb] at hm
    |true=>
     simp only [hb,cond_true] at hm
     simp only [Bool.and_eq_true] at hb
     obtain ⟨⟨⟨e1,e2⟩,e3⟩,e4⟩:=hb
     have e1:=QV e1
     have e2:=QV e2
     have e3:=QV e3
     have e4:=QV e4
     subst e1;subst e2;subst e3;subst e4
     cases hm
     unfold Zq at hg
     rw [Z6] at hg
     by_cases e:s=t
     ·subst e
      rw [if_pos rfl] at hg;cases hg
      refine ⟨_,h1,λu hu=>?_⟩
      have hra:=hr (a,a1) (List.mem_cons_self ..)
      cases (show R U c (.Q1g a1 off m n i1 k) u from hu) with
      |Q1g hi h0=>exact R.Q1g hi (by rw [Cx.Q43 hra];exact h0)
     ·rw [if_neg e] at hg
      exact ZN hU hP hnf r env ys l h2 h3 (λq hq=>hr q (List.mem_cons_of_mem _ hq)) t v hg
   ·cases hm
  ·cases h
 |(s,.asl a off m n)::r,env,x,m0,h,hm,hr,t,v,hg=>by
  unfold ZB at h
  split at h
  ·rename_i a1 off1 m1 n1 b1 l1 ys h1 h2
   cases h
   unfold ZH at hm
   rw [h1] at hm
   split at hm
   ·rename_i a' off' m' n' i' k' l he h3
    cases he
    cases hb:Nat.beq off off1 && Nat.beq m m1 && Nat.beq n n1 with
    |false=>simp [hb] at hm
    |true=>
     simp only [hb,cond_true] at hm
     simp only [Bool.and_eq_true] at hb
     obtain ⟨⟨e1,e2⟩,e3⟩:=hb
     have e1:=QV e1
     have e2:=QV e2
     have e3:=QV e3
     subst e1;subst e2;subst e3
     cases hm
     unfold Zq at hg
     rw [Z6] at hg
     by_cases e:s=t
     ·subst e
      rw [if_pos rfl] at hg;cases hg
      refine ⟨_,h1,λu hu=>?_⟩
      have hra:=hr (a,a1) (List.mem_cons_self ..)
      cases (show R U c (.asl a1 off m n b1 l1) u from hu) with
      |asl hc hb h0 ha=>exact R.asl hc hb (by rw [Cx.Q43 hra];exact h0) ha
     ·rw [if_neg e] at hg
      exact ZN hU hP hnf r env ys l h2 h3 (λq hq=>hr q (List.mem_cons_of_mem _ hq)) t v hg
   ·cases hm
  ·cases h
 |(s,.rsl a)::r,env,x,m0,h,hm,hr,t,v,hg=>by
  unfold ZB at h
  split at h
  ·rename_i a1 b1 l1 ys h1 h2
   cases h
   unfold ZH at hm
   rw [h1] at hm
   split at hm
   ·rename_i a' i' k' l he h3
    cases he
    cases hm
    unfold Zq at hg
    rw [Z6] at hg
    by_cases e:s=t
    ·subst e
     rw [if_pos rfl] at hg;cases hg
     refine ⟨_,h1,λu hu=>?_⟩
     have hra:=hr (a,a1) (List.mem_cons_self ..)
     cases (show R U c (.sl a1 b1 l1) u from hu) with
     |sl hc ha hl=>exact R.sl hc (λhn=>by rw [Cx.Q43 hra];exact ha hn) (λj hj=>by rw [Cx.Q43 hra];exact hl j hj)
    ·rw [if_neg e] at hg
     exact ZN hU hP hnf r env ys l h2 h3 (λq hq=>hr q (List.mem_cons_of_mem _ hq)) t v hg
   ·cases hm
  ·cases h
 |(s,.clo f ps)::r,env,x,m0,h,hm,hr,t,v,hg=>by
  unfold ZH at hm
  split at hm
  ·rename_i f' ps' l h1 h2
   cases hb:Nat.beq f f' with
   |false=>simp [hb] at hm
   |true=>
    simp only [hb,cond_true] at hm
    have e2:=QV hb
    subst e2
    split at hm
    ·rename_i mm hz
     cases hm
     unfold Zq at hg
     rw [Z6] at hg
     by_cases e:s=t
     ·subst e
      rw [if_pos rfl] at hg;cases hg
      refine ⟨_,h1,λu hu=>?_⟩
      cases (show R U c (.clo f ps') u from hu) with
      |clo hn hp=>exact Z9f hz (λq hq=>hr q (List.mem_append_left _ hq)) hn hp
     ·rw [if_neg e] at hg
      exact ZN hU hP hnf r env x l h h2 (λq hq=>hr q (List.mem_append_right _ hq)) t v hg
    ·cases hm
  ·cases hm
def Qai:Ent U->Prop
 | .obj cells=>cells.all Z1Z=true
 |_=>True
theorem Own.pure (hU:U.Ok) (hP:U.Pure) {c d:Cx} (hI:Cx.LeI U c d) {w:World} {b o:Nat} {x:U.S} {F:Nat->Nat->Prop} (h:Own U c w b o x F):Z1Z x=true->Own U d w b o x F:=by
 have hp:∀(u:U.C) (y:U.D u) (k:Nat) z,(U.enc u y)[k]? =some z->Z1Z z=true:=λu y k z hk=>by
  have:=hP u y
  rw [List.all_eq_true] at this
  exact this _ (List.mem_of_getElem? hk)
 have hpf:∀(u:U.C) (n:Nat) (f:Nat->U.D u) (k:Nat) z,(flat u n f)[k]? =some z->Z1Z z=true:=λu n f k z hk=>by
  obtain ⟨i,j,_,_,_,h⟩:=Z2E hU u n f hk
  exact hp u (f i) j z h
 induction h with
 |cell hr hc hf hF=>intro hx;exact .cell (R.pure hP hU hI hr hx) hc hf hF
 |hole hF=>intro _;exact .hole hF
 |arr hL hF=>intro hx;cases hx
 |Q97 hc hf hF=>intro _;exact .Q97 hc hf hF
 |box G hc hf hk hd h0 hF ih=>intro _;exact .box G hc hf (λk x hx=>ih k x hx (hp _ _ k x hx)) hd h0 hF
 |row G hc hf hl ha hk hd hs h0 h1 hF ih=>intro _;exact .row G hc hf hl ha (λk x hx=>ih k x hx (hpf _ _ _ k x hx)) hd hs h0 h1 hF
 |Q2d g hc hf hl ha hi hr hs h1 hF=>
  intro _
  refine .Q2d g hc hf hl ha (λi k h2 h3=>hI.I _ _ _ (hi i k h2 h3)) (λi k h2 h3=>R.pure hP hU hI (hr i k h2 h3) ?_) hs h1 hF
  exact Z4n hU hP _ _ _ h3
 |Q1l G hk hd hF ih=>intro _;exact .Q1l G (λk x hx=>ih k x hx (hpf _ _ _ k x hx)) hd hF
theorem Pl.pure (hU:U.Ok) (hP:U.Pure) {c d:Cx} (hI:Cx.LeI U c d) {w:World} {b o:Nat} {l:List U.S} {G:Nat->Nat->Nat->Prop} (h:Pl U c w b o l G) (hp:l.all Z1Z=true):Pl U d w b o l G:=by
 rw [List.all_eq_true] at hp
 exact ⟨λk x hx=>(h.own k x hx).pure hU hP hI (hp _ (List.mem_of_getElem? hx)),h.dis⟩
theorem RV.pure (hU:U.Ok) (hP:U.Pure) {c d:Cx} (hI:Cx.LeI U c d) {g:Bool} {u:U.C} {x:U.D u} {v:Value} (h:RV U c ⟨g,U.enc u x⟩ v):RV U d ⟨g,U.enc u x⟩ v:=by
 have h1:=hP u x
 rw [List.all_eq_true] at h1
 cases g with
 |true=>
  obtain ⟨cs,rfl,hl⟩:=h
  exact ⟨cs,rfl,hl.len,λk y hk=>let ⟨a,h3,h4⟩:=hl.at_ k y hk;⟨a,h3,h4.pure hP hU hI (h1 _ (List.mem_of_getElem? hk))⟩⟩
 |false=>
  match hl:U.enc u x,h,h1 with
  | [y],h,h1=>exact (show R U c y v from h).pure hP hU hI (h1 y (by simp))
  | [],h,h1=>exact h.elim
  |a::b::r,h,h1=>exact h.elim
theorem Q4X.pure (hU:U.Ok) (hP:U.Pure) {c d:Cx} (hI:Cx.LeI U c d) {gk gv:Bool} {ku vu:U.C} {l:List (U.D ku×U.D vu)} {es:List MapEntry} (h:Q4X U c gk gv l es):Q4X U d gk gv l es:=
 ⟨h.1,λk p hk=>let ⟨e,h1,h2,h3⟩:=h.2 k p hk;⟨e,h1,RV.pure hU hP hI h2,RV.pure hU hP hI h3⟩⟩
theorem Q1J.ren (hU:U.Ok) (hP:U.Pure) (hnf:U.nf<=base) {w:World} {s t:Nat} {F:Nat->Nat->Prop} {e:Ent U} (h:Q1J c w t F e) (hr:Rf.ren m base s=some t) (hp:Qai e):Q1J (c.ren m base) w s F e:=by
 cases e with
 |obj cells=>
  have hp:cells.all Z1Z=true:=hp
  obtain ⟨b,o,G,h0,h1,h2,h3⟩:=h
  exact ⟨b,o,G,by rw [Cx.Q43 hr];exact h0,λi x hx=>h1 i x (by rw [←Cx.Q43 hr];exact hx),h2.pure (c:=c) (d:=c.ren m base) hU hP (Cx.Q6f hnf) hp,h3⟩
 |fam ct u n f=>
  obtain ⟨A,G,h0,h1,h2,h3,h4,h5⟩:=h
  exact ⟨A,G,λi hi=>by rw [Cx.Q43 hr];exact h0 i hi,λi x hx=>h1 i x (by rw [←Cx.Q43 hr];exact hx),λi hi=>(h2 i hi).pure (c:=c) (d:=c.ren m base) hU hP (Cx.Q6f hnf) (hP _ _),h3,h4,h5⟩
 |tok=>
  obtain ⟨b,o,e,h0,h1,h2,h3⟩:=h
  exact ⟨b,o,e,by rw [Cx.Q43 hr];exact h0,by rw [Cx.Q43 hr];exact h1,h2,h3⟩
 |dead=>exact h
 |iter t pos=>
  obtain ⟨b,h0,h1,h2,h3⟩:=h
  exact ⟨b,by rw [Cx.Q43 hr];exact h0,λi x hx=>h1 i x (by rw [←Cx.Q43 hr];exact hx),h2,h3⟩
 |Q3d u n z f=>
  obtain ⟨A,h0,h1,h2,h3,h4,h5,h6⟩:=h
  have hpu:∀i k x,(U.enc u (f i))[k]? =some x->Z1Z x=true:=λi k x hx=>by
   have:=hP u (f i)
   rw [List.all_eq_true] at this
   exact this _ (List.mem_of_getElem? hx)
  refine ⟨A,λi hi=>by rw [Cx.Q43 hr];exact h0 i hi,λi x hx=>h1 i x (by rw [←Cx.Q43 hr];exact hx),h2,h3,λi k x hi hz hx=>?_,λi k x hi hz hx=>?_,h6⟩
  ·obtain ⟨v,p1,p2⟩:=h4 i k x hi hz hx
   exact ⟨v,p1,R.pure (c:=c) (d:=c.ren m base) hP hU (Cx.Q6f hnf) p2 (hpu i k x hx)⟩
  ·obtain ⟨v,p1,p2,p3⟩:=h5 i k x hi hz hx
   exact ⟨v,p1,R.pure (c:=c) (d:=c.ren m base) hP hU (Cx.Q6f hnf) p2 (hpu i k x hx),p3⟩
 |Q3u gk gv ku vu n g=>
  obtain ⟨A,h0,h1,h2,h3,h4⟩:=h
  refine ⟨A,λi hi=>by rw [Cx.Q43 hr];exact h0 i hi,λi x hx=>h1 i x (by rw [←Cx.Q43 hr];exact hx),λi hi=>?_,h3,h4⟩
  obtain ⟨es,cl,q1,q2⟩:=h2 i hi
  exact ⟨es,cl,q1,Q4X.pure (c:=c) (d:=c.ren m base) hU hP (Cx.Q6f hnf) q2⟩
theorem ZM (hU:U.Ok) (hP:U.Pure):∀(l:List (Nat×JH U.C)) (h:Qq U) (x:JHs U l),ZE base m l h=some x->∀s e,get (Zw l x) s=some e->∃t e',Rf.ren m base s=some t/\get h t=some e'/\Q5G U e' e/\Qai e/\s∈l.map (·.1)
 | [],h,x,hd,t,e,hg=>by cases hg
 |(s,.obj u)::r,h,x,hd,t,e,hg=>by
  have step:∀ys,ZE base m r h=some ys->get (Zw r ys) t=some e->∃t' e',Rf.ren m base t=some t'/\get h t'=some e'/\Q5G U e' e/\Qai e/\t∈((s,JH.obj u)::r).map (·.1):=λys h2 hg=>by
   obtain ⟨t',e',h3,h4,h5,h6,h7⟩:=ZM hU hP r h ys h2 t e hg
   exact ⟨t',e',h3,h4,h5,h6,List.mem_cons_of_mem _ h7⟩
  unfold ZE at hd
  split at hd
  ·rename_i cells ys h1 h2
   split at hd
   ·rename_i y hy
    cases hd
    unfold Zw at hg
    rw [Z6] at hg
    by_cases e':s=t
    ·subst e'
     rw [if_pos rfl] at hg;cases hg
     rw [Option.bind_eq_some_iff] at h1
     obtain ⟨t',h3,h4⟩:=h1
     exact ⟨t',_,h3,h4,Z8C hU hy,hP u y,List.mem_cons_self ..⟩
    ·rw [if_neg e'] at hg
     exact step ys h2 hg
   ·cases hd
  ·rename_i ct v n f ys h1 h2
   cases hn:Nat.beq n 1 with
   |false=>simp [hn] at hd
   |true=>
    simp only [hn,cond_true] at hd
    have:=QV hn
    subst this
    split at hd
    ·rename_i e1 _
     subst e1
     cases hd
     unfold Zw at hg
     rw [Z6] at hg
     by_cases e':s=t
     ·subst e'
      rw [if_pos rfl] at hg;cases hg
      rw [Option.bind_eq_some_iff] at h1
      obtain ⟨t',h3,h4⟩:=h1
      exact ⟨t',_,h3,h4,Z88 hU,hP _ _,List.mem_cons_self ..⟩
     ·rw [if_neg e'] at hg
      exact step ys h2 hg
    ·cases hd
  ·cases hd
 |(s,.fam ct u n)::r,h,x,hd,t,e,hg=>by
  unfold ZE at hd
  split at hd
  ·rename_i ct' v n' f ys h1 h2
   cases hb:(ct==ct') && Nat.beq n n' with
   |false=>simp [hb] at hd
   |true=>
    simp only [hb,cond_true] at hd
    rw [Bool.and_eq_true] at hb
    have e1:ct=ct':=by simpa using hb.1
    have e2:=QV hb.2
    subst e1;subst e2
    split at hd
    ·rename_i e3 _
     subst e3
     cases hd
     unfold Zw at hg
     rw [Z6] at hg
     by_cases e':s=t
     ·subst e'
      rw [if_pos rfl] at hg;cases hg
      rw [Option.bind_eq_some_iff] at h1
      obtain ⟨t',h3,h4⟩:=h1
      exact ⟨t',_,h3,h4,λ_ _ _ _ h=>h,trivial,List.mem_cons_self ..⟩
     ·rw [if_neg e'] at hg
      obtain ⟨t',e',h3,h4,h5,h6,h7⟩:=ZM hU hP r h ys h2 t e hg
      exact ⟨t',e',h3,h4,h5,h6,List.mem_cons_of_mem _ h7⟩
    ·cases hd
  ·cases hd
 |(s,.Q1R ct u)::r,h,x,hd,t,e,hg=>by
  unfold ZE at hd
  split at hd
  ·rename_i ct' v n' f ys h1 h2
   cases hb:(ct==ct') with
   |false=>simp [hb] at hd
   |true=>
    simp only [hb,cond_true] at hd
    have e1:ct=ct':=by simpa using hb
    subst e1
    split at hd
    ·rename_i e3 _
     subst e3
     cases hd
     unfold Zw at hg
     rw [Z6] at hg
     by_cases e':s=t
     ·subst e'
      rw [if_pos rfl] at hg;cases hg
      rw [Option.bind_eq_some_iff] at h1
      obtain ⟨t',h3,h4⟩:=h1
      exact ⟨t',_,h3,h4,λ_ _ _ _ h=>h,trivial,List.mem_cons_self ..⟩
     ·rw [if_neg e'] at hg
      obtain ⟨t',e',h3,h4,h5,h6,h7⟩:=ZM hU hP r h ys h2 t e hg
      exact ⟨t',e',h3,h4,h5,h6,List.mem_cons_of_mem _ h7⟩
    ·cases hd
  ·cases hd
 |(s,.tok)::r,h,x,hd,t,e,hg=>by
  unfold ZE at hd
  split at hd
  ·rename_i h1
   unfold Zw at hg
   rw [Z6] at hg
   by_cases e':s=t
   ·subst e'
    rw [if_pos rfl] at hg;cases hg
    rw [Option.bind_eq_some_iff] at h1
    obtain ⟨t',h3,h4⟩:=h1
    exact ⟨t',_,h3,h4,λ_ _ _ _ h=>h,trivial,List.mem_cons_self ..⟩
   ·rw [if_neg e'] at hg
    obtain ⟨t',e',h3,h4,h5,h6,h7⟩:=ZM hU hP r h x hd t e hg
    exact ⟨t',e',h3,h4,h5,h6,List.mem_cons_of_mem _ h7⟩
  ·cases hd
 |(s,.iter)::r,h,x,hd,t,e,hg=>by
  unfold ZE at hd
  split at hd
  ·rename_i t0 pos ys h1 h2
   cases hd
   unfold Zw at hg
   rw [Z6] at hg
   by_cases e':s=t
   ·subst e'
    rw [if_pos rfl] at hg;cases hg
    rw [Option.bind_eq_some_iff] at h1
    obtain ⟨t',h3,h4⟩:=h1
    exact ⟨t',_,h3,h4,λ_ _ _ _ h=>h,trivial,List.mem_cons_self ..⟩
   ·rw [if_neg e'] at hg
    obtain ⟨t',e',h3,h4,h5,h6,h7⟩:=ZM hU hP r h ys h2 t e hg
    exact ⟨t',e',h3,h4,h5,h6,List.mem_cons_of_mem _ h7⟩
  ·cases hd
 |(s,.Q3u gk gv ku vu)::r,h,x,hd,t,e,hg=>by
  unfold ZE at hd
  split at hd
  ·rename_i gk' gv' ku' vu' n g ys h1 h2
   cases hb:Z1I gk gk' && Z1I gv gv' with
   |false=>rw [hb] at hd;cases hd
   |true=>
    rw [hb] at hd
    simp only [cond_true] at hd
    rw [Bool.and_eq_true] at hb
    have e1:gk=gk':=by cases gk <;> cases gk' <;> first|rfl|(have:=hb.1;cases this)
    have e2:gv=gv':=by cases gv <;> cases gv' <;> first|rfl|(have:=hb.2;cases this)
    subst e1;subst e2
    split at hd
    ·rename_i e3 e4 _ _
     subst e3
     subst e4
     cases hd
     unfold Zw at hg
     rw [Z6] at hg
     by_cases e':s=t
     ·subst e'
      rw [if_pos rfl] at hg;cases hg
      rw [Option.bind_eq_some_iff] at h1
      obtain ⟨t',h3,h4⟩:=h1
      exact ⟨t',_,h3,h4,λ_ _ _ _ h=>h,trivial,List.mem_cons_self ..⟩
     ·rw [if_neg e'] at hg
      obtain ⟨t',e',h3,h4,h5,h6,h7⟩:=ZM hU hP r h ys h2 t e hg
      exact ⟨t',e',h3,h4,h5,h6,List.mem_cons_of_mem _ h7⟩
    ·cases hd
  ·cases hd
 |(s,.Q6z u)::r,h,x,hd,t,e,hg=>by
  unfold ZE at hd
  split at hd
  ·rename_i v n z f ys h1 h2
   split at hd
   ·rename_i e3 _
    subst e3
    cases hd
    unfold Zw at hg
    rw [Z6] at hg
    by_cases e':s=t
    ·subst e'
     rw [if_pos rfl] at hg;cases hg
     rw [Option.bind_eq_some_iff] at h1
     obtain ⟨t',h3,h4⟩:=h1
     exact ⟨t',_,h3,h4,λ_ _ _ _ h=>h,trivial,List.mem_cons_self ..⟩
    ·rw [if_neg e'] at hg
     obtain ⟨t',e',h3,h4,h5,h6,h7⟩:=ZM hU hP r h ys h2 t e hg
     exact ⟨t',e',h3,h4,h5,h6,List.mem_cons_of_mem _ h7⟩
   ·cases hd
  ·rename_i v n f ys h1 h2
   cases hpl:U.plain v with
   |false=>rw [hpl] at hd;cases hd
   |true=>
    rw [hpl] at hd
    simp only [cond_true] at hd
    split at hd
    ·rename_i e3 _
     subst e3
     cases hd
     unfold Zw at hg
     rw [Z6] at hg
     by_cases e':s=t
     ·subst e'
      rw [if_pos rfl] at hg;cases hg
      rw [Option.bind_eq_some_iff] at h1
      obtain ⟨t',h3,h4⟩:=h1
      exact ⟨t',_,h3,h4,Z8e hU hpl,trivial,List.mem_cons_self ..⟩
     ·rw [if_neg e'] at hg
      obtain ⟨t',e',h3,h4,h5,h6,h7⟩:=ZM hU hP r h ys h2 t e hg
      exact ⟨t',e',h3,h4,h5,h6,List.mem_cons_of_mem _ h7⟩
    ·cases hd
  ·cases hd
end
theorem Shape.at0 (hU:U.Ok) (hP:U.Pure) {base:Nat} {p:Shape U} {st:St U} {x:p.T} (h:p.dec0 base st=some x) {B:Q4U U} (hb:B.nx<=base) {a:Act} {w:World} (hA:B.At st a w):B.At (p.enc x) a w:=by
 obtain ⟨c,Φ,hn,hS,hE⟩:=hA
 unfold Shape.dec0 at h
 split at h
 ·rename_i m hm
  cases hc:Nat.beq st.n p.n && Nat.ble U.nf base && Nat.ble base p.nx && Z3K base p.nx m && p.heap.all (λq=>Nat.blt q.1 p.nx) with
  |false=>simp [hc] at h
  |true=>
   rw [hc] at h
   simp only [cond_true] at h
   simp only [Bool.and_eq_true] at hc
   obtain ⟨⟨⟨⟨hc1,hnf⟩,hc2⟩,hc3⟩,hc4⟩:=hc
   have hnf:=Nat.le_of_ble_eq_true hnf
   have hbx:=Nat.le_of_ble_eq_true hc2
   rw [List.all_eq_true] at hc4
   split at h
   ·rename_i x1 x2 h1 h2
    cases h
    have hent:=ZM (m:=m) (base:=base) hU hP _ _ _ h2
    have hL:∀s i,s < base->(c.ren m base).L s i=c.L s i:=λs i hs=>Cx.Q43 (Z1V hs) i
    have hkeep:∀s,s < B.nx->∀i,(c.ren m base).L s i=c.L s i:=λs hs i=>hL s i (by omega)
    let Φ2:Nat->Nat->Nat->Prop:=λs b o=>∃t,Rf.ren m base s=some t/\Φ t b o
    have hΦ:∀s t b o,Rf.ren m base s=some t->(Φ2 s b o↔Φ t b o):=λs t b o hr=>⟨λ⟨t',h3,h4⟩=>by rw [hr] at h3;cases h3;exact h4,λh=>⟨t,hr,h⟩⟩
    have hΦ':∀s t,Rf.ren m base s=some t->Φ2 s=Φ t:=λs t hr=>by funext b o;exact propext (hΦ s t b o hr)
    have hin:∀s,(get (Zw p.heap x2) s).isSome->∃t,Rf.ren m base s=some t/\(get st.h t).isSome:=λs hs=>by
     obtain ⟨e,he⟩:=Option.isSome_iff_exists.1 hs
     obtain ⟨t,e',h3,h4,_⟩:=hent s e he
     exact ⟨t,h3,by simp [h4]⟩
    refine ⟨c.ren m base,Φ2,Nat.le_trans hb hbx,⟨by rw [hS.size];exact QV hc1,hS.defers,λt v hv=>?_,⟨λs e he=>?_,λs s' b o hne h3 h4 h5 h6=>?_,hS.g.imm,λs b o h3 h4=>?_⟩,λs hs=>?_⟩,⟨⟨λs i q hq=>?_,hE.le.I⟩,λs i hs hf=>?_,λs hs h3=>?_,hE.fr,λs hs=>?_,λs b o hs h3 h4=>?_,hE.Q3w⟩⟩
    ·obtain ⟨v',h3,h4⟩:=ZN (c:=c) (m:=m) (base:=base) hU hP hnf _ _ _ _ h1 hm (λq hq=>Qdg hc3 hq) t v hv
     exact h4 _ (hS.env t v' h3)
    ·obtain ⟨t,e',h3,h4,h5,h6,_⟩:=hent s e he
     rw [hΦ' s t h3]
     exact Q1J.ren hU hP hnf (h5 _ _ _ _ (hS.g.Q1U t e' h4)) h3 h6
    ·obtain ⟨t,h7,h8⟩:=hin s h3
     obtain ⟨t',h9,h10⟩:=hin s' h4
     refine hS.g.apart t t' b o (λe=>hne ?_) h8 h10 ((hΦ s t b o h7).1 h5) ((hΦ s' t' b o h9).1 h6)
     subst e
     exact Qdd hc3 h7 h9
    ·obtain ⟨t,h7,h8⟩:=hin s h3
     exact hS.g.Q1a t b o h8 ((hΦ s t b o h7).1 h4)
    ·have hs:p.nx<=s:=hs
     refine ⟨?_,λk=>?_⟩
     ·cases hg:get (Zw p.heap x2) s with
      |none=>exact hg
      |some e=>
       obtain ⟨t,e',_,_,_,_,h8⟩:=hent s e hg
       obtain ⟨q,hq,rfl⟩:=List.mem_map.1 h8
       have:=Nat.le_of_ble_eq_true (hc4 q hq)
       omega
     ·show (Rf.ren m base s).bind _=none
      cases hr:Rf.ren m base s with
      |none=>rfl
      |some t=>
       have:=(Z3l hc3 (by omega) hr).2.1
       omega
    ·by_cases hs:s < B.nx
     ·rw [hkeep s hs];exact hE.le.L s i q hq
     ·rw [B.new s (by omega) i] at hq;cases hq
    ·rw [hkeep s hs];exact hE.L s i hs hf
    ·obtain ⟨t,h7,h8⟩:=hin s h3
     rw [Z1V (by omega)] at h7;cases h7
     exact hE.old s hs h8
    ·rw [hΦ' s s (Z1V (by have:=B.rw;omega))]
     exact hE.Q2T s hs
    ·obtain ⟨t,h7,h8⟩:=hin s h3
     refine hE.Q2q t b o ?_ h8 ((hΦ s t b o h7).1 h4)
     by_cases hlt:s < base
     ·rw [Z1V hlt] at h7;cases h7;exact hs
     ·have:=(Z3l hc3 hlt h7).1
      have:=B.rw
      omega
   ·cases h
 ·cases h
theorem Qd3 (hU:U.Ok) {t:Nat} {u:U.C} {st:St U} {B:Q4U U} {a:Act} {w:World} (hA:B.At st a w):B.At (own1 t u st) a w:=by
 unfold own1
 split
 ·rename_i x hx
  split
  ·rename_i xs hl
   obtain ⟨c,Φ,hn,hS,hE⟩:=hA
   have hr:=hS.env t _ hx
   obtain ⟨ad,cap,b,o,g,hv,hc,hT,ha,hi,hrr⟩:=(Z1O hl (show R U c x _ from hr)).ex
   have hT:cap=xs.length:=hT
   let c':Cx:={ L:=λs i=>if s=st.nx then (if i=0\/i=1 then some (b,o+xs.length*U.size u) else none) else c.L s i,I:=c.I}
   have hnx:∀i,c.L st.nx i=none:=(hS.fresh st.nx (Nat.le_refl _)).2
   have hle:c.Le c':=⟨λs i q hq=>by
    by_cases e:s=st.nx
    ·subst e;rw [hnx] at hq;cases hq
    ·simp only [c',if_neg e];exact hq,λ_ _ _ h=>h⟩
   have hold:∀s i,s≠st.nx->c'.L s i=c.L s i:=λs i e=>by simp only [c',if_neg e]
   let Φ':Nat->Nat->Nat->Prop:=λs b o=>s≠st.nx/\Φ s b o
   have hΦ:∀s,s≠st.nx->Φ' s=Φ s:=λs e=>by funext b o;exact propext ⟨λh=>h.2,λh=>⟨e,h⟩⟩
   have hsome:∀s,(get st.h s).isSome->s≠st.nx:=λs hs e=>by subst e;rw [(hS.fresh st.nx (Nat.le_refl _)).1] at hs;cases hs
   have hcase:∀s,s≠st.nx->get ((st.nx,(Ent.tok:Ent U))::st.h) s=get st.h s:=λs e=>by rw [Z6,if_neg (λh=>e h.symm)]
   refine ⟨c',Φ',Nat.le_succ_of_le hn,⟨hS.size,hS.defers,λt' v hv'=>?_,⟨λs e he=>?_,λs s' b' o' hne h3 h4 h5 h6=>?_,hS.g.imm,λs b' o' h3 h4=>?_⟩,λs hs=>?_⟩,⟨hE.le.trans hle,λs i hs hf=>?_,λs hs h3=>?_,hE.fr,λs hs=>?_,λs b' o' hs h3 h4=>?_,hE.Q3w⟩⟩
   ·rw [Z6] at hv'
    by_cases e:t=t'
    ·subst e
     rw [if_pos rfl] at hv';cases hv'
     rw [hv]
     refine R.isl (c:=c') g hc ⟨b,o+xs.length*U.size u,o+xs.length*U.size u,by simp [c'],by simp [c'],λhpos=>⟨ha (by omega),rfl,rfl,by rw [hT];exact Nat.le_refl _⟩⟩ ha hi λi k h1 h2=>(hrr i k h1 h2).mono hle
    ·rw [if_neg e] at hv'
     exact (hS.env t' v hv').mono hle
   ·by_cases e1:s=st.nx
    ·subst e1
     rw [Z6,if_pos rfl] at he;cases he
     exact ⟨b,o+xs.length*U.size u,o+xs.length*U.size u,by simp [c'],by simp [c'],λx h1 h2=>by omega,λb' x h=>absurd rfl h.1⟩
    ·rw [hcase s e1] at he
     rw [hΦ s e1]
     exact (hS.g.Q1U s e he).stays hU hle (λi=>hold s i e1) (Agr.refl _ _)
   ·exact hS.g.apart s s' b' o' hne (by rw [←hcase s h5.1];exact h3) (by rw [←hcase s' h6.1];exact h4) h5.2 h6.2
   ·exact hS.g.Q1a s b' o' (by rw [←hcase s h4.1];exact h3) h4.2
   ·have hs:st.nx+1<=s:=hs
    obtain ⟨h3,h4⟩:=hS.fresh s (by omega)
    exact ⟨by rw [hcase s (by omega)];exact h3,λk=>by rw [hold s k (by omega)];exact h4 k⟩
   ·rw [hold s i (by omega)];exact hE.L s i hs hf
   ·exact hE.old s hs (by rw [←hcase s (by omega)];exact h3)
   ·have:=B.rw
    rw [hΦ s (by omega)];exact hE.Q2T s hs
   ·exact hE.Q2q s b' o' hs (by rw [←hcase s h4.1];exact h3) h4.2
  ·exact hA
 ·exact hA
theorem Z11 (hU:U.Ok):∀(l:List (Nat×JV U.C)) {st:St U} {B:Q4U U} {a:Act} {w:World},B.At st a w->B.At (Z5y l st) a w
 | [],st,B,a,w,h=>h
 |(t,.own u k)::r,st,B,a,w,h=>Z11 hU r (Qd3 hU h)
 |(t,.val s)::r,st,B,a,w,h=>Z11 hU r h
 |(t,.ptr s i off)::r,st,B,a,w,h=>Z11 hU r h
 |(t,.Q8q)::r,st,B,a,w,h=>Z11 hU r h
 |(t,.full u)::r,st,B,a,w,h=>Z11 hU r h
 |(t,.Q1g _ _ _ _ _)::r,st,B,a,w,h=>Z11 hU r h
 |(t,.asl _ _ _ _)::r,st,B,a,w,h=>Z11 hU r h
 |(t,.rsl _)::r,st,B,a,w,h=>Z11 hU r h
 |(t,.clo _ _)::r,st,B,a,w,h=>Z11 hU r h
theorem Shape.at1 (hU:U.Ok) (hP:U.Pure) {b:Nat×Nat} {p:Shape U} {st:St U} {x:p.T} (h:p.dec1 b st=some x) {B:Q4U U} (hb:B.ro=b.1/\B.nx<=b.2) {a:Act} {w:World} (hA:B.At st a w):B.At (p.enc x) a w:=by
 unfold Shape.dec1 at h
 split at h
 ·rename_i m hm
  cases hw:Q5x b.1 (Zr (Q4F (Z1m b.2 m p.heap) st.h) st.h) with
  |false=>rw [hw] at h;cases h
  |true=>
   rw [hw] at h
   simp only [cond_true] at h
   refine Shape.at0 hU hP h hb.2 ?_
   obtain ⟨c,Φ,hn,hS,hE⟩:=hA
   obtain ⟨Φ',h1⟩:=Z2u (nx:=st.nx) hU (Q4F (Z1m b.2 m p.heap) st.h) st.h Φ hS.g
   have hE':=hE.step h1 (by rw [hb.1];exact hw) hn
   refine ⟨c,Φ',hn,⟨hS.size,hS.defers,hS.env,h1.g,λs hs=>⟨?_,(hS.fresh s hs).2⟩⟩,hE'⟩
   show get (Zr (Q4F (Z1m b.2 m p.heap) st.h) st.h++st.h) s=none
   rw [Zf]
   have h2:=(hS.fresh s hs).1
   by_cases hm:s∈(Zr (Q4F (Z1m b.2 m p.heap) st.h) st.h).map (·.1)
   ·rcases h1.names s hm with ⟨h3,h4⟩|h3
    ·have h4:s < st.nx+0:=h4
     have hs:st.nx<=s:=hs
     omega
    ·rw [h2] at h3;cases h3
   ·rw [Ze hm];exact h2
 ·cases h
theorem Shape.at (hU:U.Ok) (hP:U.Pure) {b:Nat×Nat} {p:Shape U} {st:St U} {x:p.T} (h:p.dec b st=some x) {B:Q4U U} (hb:B.ro=b.1/\B.nx<=b.2) {a:Act} {w:World} (hA:B.At st a w):B.At (p.enc x) a w:=
 Shape.at1 hU hP h hb (Z11 hU p.env hA)
def Form (ops:List Oper) (st st':St U):Prop:=∃pe ph,st'.env=pe++st.env/\(∀p∈pe,p.1∈ops.filterMap (·.dst))/\st'.h=ph++st.h
theorem Z3e {Γ:Nat->Option (Native U)} {ro:Nat} {dr:Bool} {ops:List Oper} {ms:List Nat} {ρ:Type} {J:Bool->ρ->ρ->ρ} {fail:ρ}:∀(rest:List Oper) (j:Nat) (acc:List (Nat×Info)) (st:St U) (K K':St U->ρ),
  (∀st',Form rest st st'->K st'=K' st')->ZX P Γ ro dr ops ms J fail rest j acc st K=ZX P Γ ro dr ops ms J fail rest j acc st K'
 | [],j,acc,st,K,K',h=>h st ⟨[],[],rfl,λp hp=>(by cases hp),rfl⟩
 |o::rest,j,acc,st,K,K',h=>by
  have ih:∀j acc out,ZX P Γ ro dr ops ms J fail rest j acc (st.apply o.dst out) K=ZX P Γ ro dr ops ms J fail rest j acc (st.apply o.dst out) K':=λj acc out=>
   Z3e rest j acc _ K K' λst' ⟨pe,ph,h1,h2,h3⟩=>h st' (by
    cases hd:o.dst with
    |none=>
     refine ⟨pe,ph++out.w,by rw [h1];simp [St.apply,hd],λp hp=>?_,by rw [h3];simp [St.apply]⟩
     have:=h2 p hp
     simp only [List.filterMap_cons,hd];exact this
    |some d=>
     refine ⟨pe++ [(d,out.v)],ph++out.w,by rw [h1];simp [St.apply,hd],λp hp=>?_,by rw [h3];simp [St.apply]⟩
     simp only [List.filterMap_cons,hd,List.mem_cons]
     rcases List.mem_append.1 hp with hp|hp
     ·exact .inr (h2 p hp)
     ·simp at hp;subst hp;exact .inl rfl)
  unfold ZX
  simp only [ih]
theorem Z3C {α:Type} (f:Nat->Bool):∀(l:List (Nat×α)) (t:Nat),get (l.filter λp=>f p.1) t=if f t then get l t else none
 | [],t=>by simp [get]
 |(k,v)::l,t=>by
  rw [List.filter_cons]
  by_cases hk:f k=true
  ·rw [if_pos hk,Z6,Z6,Z3C f l t]
   by_cases e:k=t
   ·subst e;simp [hk]
   ·simp [e]
  ·rw [if_neg hk,Z3C f l t,Z6]
   by_cases e:k=t
   ·subst e;simp [hk]
   ·simp [e]
theorem Z4R (hU:U.Ok) (hP:U.Pure):∀(l:List (Nat×JV U.C)) (env:Env U) (x:JVs U l),ZB l env=some x->l.all (λp=>p.2.isVal)=true->
  ∀t v,get (Zq l x) t=some v->∃v',get env t=some v'/\∀c u,RA U c v' u->RA U c v u
 | [],env,x,h,ha,t,v,hg=>by cases hg
 |(s,.val sh)::r,env,x,h,ha,t,v,hg=>by
  simp only [List.all_cons,JV.isVal,Bool.true_and] at ha
  unfold ZB at h
  split at h
  ·rename_i y ys h1 h2
   cases hp:sh.Q5d||sh.Q63 with
   |true=>simp [hp] at h
   |false=>
    simp only [hp,cond_false] at h
    rw [Bool.or_eq_false_iff] at hp
    split at h
    ·rename_i z hz
     cases h
     unfold Zq at hg
     rw [Z6] at hg
     by_cases e:s=t
     ·subst e
      rw [if_pos rfl] at hg;cases hg
      exact ⟨_,h1,λc u hr=>Z62 (c:=c) (d:=c) hP hU (.refl c) hz hp.1 hp.2 hr 0⟩
     ·rw [if_neg e] at hg
      exact Z4R hU hP r env ys h2 ha t v hg
    ·cases h
  ·cases h
 |(s,.ptr a i off)::r,env,x,h,ha,t,v,hg=>by simp [JV.isVal] at ha
 |(s,.Q8q)::r,env,x,h,ha,t,v,hg=>by simp [JV.isVal] at ha
 |(s,.own u k)::r,env,x,h,ha,t,v,hg=>by simp [JV.isVal] at ha
 |(s,.full u)::r,env,x,h,ha,t,v,hg=>by simp [JV.isVal] at ha
 |(s,.Q1g _ _ _ _ _)::r,env,x,h,ha,t,v,hg=>by simp [JV.isVal] at ha
 |(s,.asl _ _ _ _)::r,env,x,h,ha,t,v,hg=>by simp [JV.isVal] at ha
 |(s,.rsl _)::r,env,x,h,ha,t,v,hg=>by simp [JV.isVal] at ha
 |(s,.clo _ _)::r,env,x,h,ha,t,v,hg=>by simp [JV.isVal] at ha
theorem Z8G (hU:U.Ok) (hP:U.Pure) {l:List (Nat×JV U.C)} {ops:List Oper} {st st':St U} (hF:Form ops st st') {x:JVs U l}
  (h:Z4i l st st'=some x):
  Imp U st' { n:=st.n,env:=Zq l x++st.env.filter (λp=>!mem p.1 (ops.filterMap (·.dst))),h:=st.h,nx:=st.nx}:=by
 obtain ⟨pe,ph,h1,h2,h3⟩:=hF
 unfold Z4i at h
 cases hb:l.all (λp=>p.2.isVal) && Nat.beq st'.n st.n && Nat.beq st'.nx st.nx && Nat.beq st'.h.length st.h.length with
 |false=>rw [hb] at h;cases h
 |true=>
  rw [hb] at h
  simp only [cond_true] at h
  simp only [Bool.and_eq_true] at hb
  obtain ⟨⟨⟨hb1,hb2⟩,hb3⟩,hb4⟩:=hb
  have hph:ph= []:=by
   have:=QV hb4
   rw [h3,List.length_append] at this
   exact List.eq_nil_of_length_eq_zero (by omega)
  subst hph
  refine Imp.of (QV hb2) (λt v hv=>?_) (λs e hs=>⟨e,by rw [h3];exact hs,λ_ _ _ _ h=>h⟩) (Nat.le_of_eq (QV hb3))
  rw [Zf] at hv
  cases hg:get (Zq l x) t with
  |some u=>
   rw [hg] at hv
   cases hv
   exact Z4R hU hP l _ x h hb1 t v hg
  |none=>
   rw [hg] at hv
   simp only at hv
   rw [Z3C (λk=>!mem k (ops.filterMap (·.dst)))] at hv
   split at hv
   ·rename_i hm
    refine ⟨v,?_,λ_ _ h=>h⟩
    rw [h1,Zf,Ze,hv]
    intro hin
    obtain ⟨p,hp,rfl⟩:=List.mem_map.1 hin
    have:=Z2d.2 (h2 p hp)
    simp [this] at hm
   ·cases hv
theorem Z81 {e e':Exit} (h:Q9W e e'=true):e=e':=by
 cases e <;> cases e' <;> first|rfl|(cases h;done)|(have:=QV h;subst this;rfl)
theorem Z3B (hU:U.Ok) (hP:U.Pure) {base:Nat×Nat} {ρ:Type} {K:Exit->St U->ρ}:∀(l:Ql U) (e:Exit) (st:St U) (x:ExT l),Z1G base l e st=some x->
  ∃st',Q8C l x K=K e st'/\∀(B:Q4U U) (a:Act) (w:World),(B.ro=base.1/\B.nx<=base.2)->B.At st a w->B.At st' a w
 | [],e,st,x,h=>by cases h
 | [(e',p)],e,st,x,h=>by
  unfold Z1G at h
  cases hb:Q9W e' e with
  |false=>simp [hb] at h
  |true=>
   simp only [hb,cond_true] at h
   have:=Z81 hb
   subst this
   exact ⟨_,rfl,λB a w h1 h2=>Shape.at hU hP h h1 h2⟩
 |(e',p)::q::r,e,st,x,h=>by
  unfold Z1G at h
  cases hb:Q9W e' e with
  |false=>
   simp only [hb,cond_false] at h
   split at h
   ·rename_i y hy
    cases h
    exact Z3B hU hP (q::r) e st y hy
   ·cases h
  |true=>
   simp only [hb,cond_true] at h
   have:=Z81 hb
   subst this
   split at h
   ·rename_i y hy
    cases h
    exact ⟨_,rfl,λB a w h1 h2=>Shape.at hU hP hy h1 h2⟩
   ·cases h
end Go.Rf
namespace Go.Rf
set_option linter.unusedVariables false
set_option linter.unusedSimpArgs false
variable {U : QY} {P : Program} {ro : Nat}
theorem Ext.trans {c0:Cx} {Φ0:Nat->Nat->Nat->Prop} {h0:Qq U} {nx0:Nat} {w0:World} {c:Cx} {Φ:Nat->Nat->Nat->Prop} {h:Qq U} {nx:Nat} {w:World} {c':Cx} {Φ':Nat->Nat->Nat->Prop} {h':Qq U} {w':World}
  (he:Ext U ro c0 Φ0 h0 nx0 w0 c Φ h w) (hs:Ext U ro c Φ h nx w c' Φ' h' w') (hn:nx0<=nx):Ext U ro c0 Φ0 h0 nx0 w0 c' Φ' h' w' where
 le:=he.le.trans hs.le
 L s i hsi hf:=(hs.L s i (by omega) (hf.imp id λh1=>h1.imp (λh1=>by
  cases h2:get h s with
  |none=>rfl
  |some e=>have:=he.old s hsi (by simp [h2]);rw [h1] at this;cases this) id)).trans (he.L s i hsi hf)
 old s hsi h1:=he.old s hsi (hs.old s (by omega) h1)
 fr:=he.fr.trans hs.fr λb o hb ⟨s,h1,h2,h3⟩=>by
  rcases he.Q2q s b o h1 h2 h3 with h4|h4
  ·exact absurd hb (Nat.not_lt.2 h4)
  ·exact h4
 Q2T s hsr:=by rw [hs.Q2T s hsr];exact he.Q2T s hsr
 Q2q s b o hsr h1 h2:=by
  rcases hs.Q2q s b o hsr h1 h2 with h3|⟨s',h3,h4,h5⟩
  ·exact .inl (Nat.le_trans he.fr.size h3)
  ·exact he.Q2q s' b o h3 h4 h5
 Q3w b o v hI:=by
  rcases hs.Q3w b o v hI with h1|h1|⟨s,h1,h2,h3⟩
  ·exact he.Q3w b o v h1
  ·exact .inr (.inl (Nat.le_trans he.fr.size h1))
  ·rcases he.Q2q s b o h1 h2 h3 with h4|h4
   ·exact .inr (.inl h4)
   ·exact .inr (.inr h4)
def Qdz (U:QY) (P:Program) (ro:Nat) (f:Nat) (N:Q7c U):Prop:=
 ∀(ρ:Type) (S:ρ->Prop) (fail:ρ) (as:List (A U)) (h:Qq U) (nx:Nat) (K:A U->Qq U->Nat->ρ),¬S fail->S (N ρ fail as h nx K)->
  ∀(c:Cx) (Φ:Nat->Nat->Nat->Prop) (w:World) (vs:Array Value),G U c Φ h w->(∀s,nx<=s->get h s=none/\∀k,c.L s k=none)->RAs U c as vs.toList->
   (∃fn,P.funcs[f]? =some fn/\(fn.name== "runtime.NumGoroutine")=false/\fn.body.isNone=false)/\
   Calls P f vs w λe w'=>∃v,e= .returned v/\∃x h' nx' c' Φ',S (K x h' nx')/\nx<=nx'/\RA U c' x v/\G U c' Φ' h' w'/\(∀s,nx'<=s->get h' s=none/\∀k,c'.L s k=none)/\Ext U ro c Φ h nx w c' Φ' h' w'
def Q9z (U:QY) (P:Program) (ro:Nat) (I:Nat->Option (Q7c U)):Prop:=∀f N,I f=some N->Qdz U P ro f N
theorem SOK.put {c:Cx} {Φ:Nat->Nat->Nat->Prop} {st:St U} {a:Act} {w:World} {dst:Option Tmp} {x:A U} {u:Value} {h':Qq U} {nx':Nat} {c':Cx} {Φ':Nat->Nat->Nat->Prop} {w':World} (hS:SOK U c Φ st a w) (hd:Z38 st.n dst=true) (hle:c.Le c')
  (hv:RA U c' x u) (hg:G U c' Φ' h' w') (hf:∀s,nx'<=s->get h' s=none/\∀k,c'.L s k=none):
  SOK U c' Φ' { n:=st.n,env:=QaC dst x st.env,h:=h',nx:=nx'} (a.put dst u) w':=by
 refine ⟨by cases dst <;> simp [Act.put,hS.size],by cases dst <;> simp [Act.put,hS.defers],λt v ht=>?_,hg,hf⟩
 unfold QaC at ht
 cases dst with
 |none=>exact (hS.env t v ht).mono hle
 |some d=>
  have hlt:d < a.tmps.size:=by
   have:=Nat.le_of_ble_eq_true (show Nat.ble (d+1) st.n=true from hd)
   rw [hS.size];exact this
  have ht:get ((d,x)::st.env) t=some v:=ht
  rw [Z6] at ht
  by_cases e:d=t
  ·subst e
   rw [if_pos rfl] at ht;cases ht
   rw [Z46 hlt];exact hv
  ·rw [if_neg e] at ht
   rw [Z51 e]
   exact (hS.env t v ht).mono hle
theorem QC.fresh {c:Cx} {Φ:Nat->Nat->Nat->Prop} {h:Qq U} {nx:Nat} {out:Out U} {w:World} {c':Cx} {Φ':Nat->Nat->Nat->Prop} {u:Value} {w':World} (hs:QC U c Φ h nx out w c' Φ' u w')
  (hf:∀s,nx<=s->get h s=none/\∀k,c.L s k=none):∀s,nx+out.nw<=s->get (out.w++h) s=none/\∀k,c'.L s k=none:=by
 intro s hle
 obtain ⟨h1,h2⟩:=hf s (by omega)
 refine ⟨?_,λk=>(hs.L s k (by omega) λhh=>by
  rcases hs.names s hh.2 with h3|h3
  ·omega
  ·rw [h1] at h3;cases h3).trans (h2 k)⟩
 rw [Zf]
 by_cases hm:s∈out.w.map (·.1)
 ·rcases hs.names s hm with h3|h3
  ·omega
  ·rw [h1] at h3;cases h3
 ·rw [Ze hm];exact h1
theorem Z96 {I:Nat->Option (Q7c U)} {c:Cx} {ρ:Operand->Option (A U)} {o:Oper} {N:Q7c U} {as:List (A U)} {a:Act} (h:QaZ I ρ o=some (N,as)) (hρ:∀x∈o.op.operands.toList,∀v,ρ x=some v->RA U c v (a.eval x)):
  ∃f vs,I f=some N/\RAs U c as vs.toList/\∀w,(∃fn,P.funcs[f]? =some fn/\(fn.name== "runtime.NumGoroutine")=false/\fn.body.isNone=false)->(execOp a.eval o).run P w= .ok (.enter f vs) w:=by
 obtain ⟨dst,op,type,pos,after,guard⟩:=o
 unfold QaZ at h
 split at h
 ·rename_i cl hop
  simp only at hop
  subst hop
  simp only [Op.operands] at hρ
  have args:∀l,ZA (cl.args.toList.map ρ)=some l->RAs U c l (cl.args.map a.eval).toList:=λl hl=>by
   have hargs:=Z3J _ _ hl
   refine ⟨by have:=congrArg List.length hargs;simpa using this,λk x hk=>?_⟩
   have h1:(cl.args.toList.map ρ)[k]? =some (some x):=by rw [hargs,List.getElem?_map,hk];rfl
   rw [List.getElem?_map] at h1
   cases hz:cl.args.toList[k]? with
   |none=>simp [hz] at h1
   |some z=>
    simp [hz] at h1
    refine ⟨a.eval z,?_,hρ z (by simp [Call.operands];simp [Array.mem_toList_iff.1 (List.mem_of_getElem? hz)]) _ h1⟩
    rw [Array.toList_map,List.getElem?_map,hz];rfl
  split at h
  ·rename_i f hc
   split at h
   ·rename_i N' l hN hl
    cases h
    refine ⟨f,_,hN,args _ hl,λw ⟨fn,h1,h2,h3⟩=>?_⟩
    show (do let d←resolve a.eval cl type;invoke d.target d.args:Sem Next).run P w=_
    rw [Z4s hc];exact Z1h h1 h2 h3 _
   ·cases h
  ·rename_i t hc
   split at h
   ·rename_i f hfn
    split at h
    ·rename_i N' l hN hl
     cases h
     refine ⟨f,_,hN,args _ hl,λw ⟨fn,h1,h2,h3⟩=>?_⟩
     show (do let d←resolve a.eval cl type;invoke d.target d.args:Sem Next).run P w=_
     have hres:(do let d←resolve a.eval cl type;invoke d.target d.args:Sem Next)=callFunc f (cl.args.map a.eval):=by
      cases hr:ρ (.tmp t) with
      |none=>rw [hr] at hfn;cases hfn
      |some v=>
       rw [hr] at hfn
       have hv:=hρ (.tmp t) (by simp [Call.operands,hc]) v hr
       unfold QaR at hfn
       split at hfn
       ·rename_i f' x y he
        cases he
        simp only [Bool.cond_eq_ite,Bool.and_eq_true,Nat.beq_eq] at hfn
        split at hfn
        ·rename_i hz
         cases hfn
         have e:a.eval (.tmp t)= .func (.func f) x y:=R.val' (show R U c (.val (.func (.func f) x y)) _ from hv)
         exact Z4W hc (by rw [e,Array.eq_empty_of_size_eq_zero hz.1,Array.eq_empty_of_size_eq_zero hz.2])
        ·cases hfn
       ·cases hfn
     rw [hres];exact Z1h h1 h2 h3 _
    ·cases h
   ·split at h
    ·rename_i f ps hcl
     split at h
     ·rename_i N' l hN hl
      cases h
      have hr:=Z6G hcl
      obtain ⟨vs,hv,hps⟩:=Z5E (show R U c (.clo f ps) _ from hρ (.tmp t) (by simp [Call.operands,hc]) _ hr)
      refine ⟨f,cl.args.map a.eval++vs,hN,by rw [Array.toList_append];exact RAs.append (args _ hl) hps,λw ⟨fn,h1,h2,h3⟩=>?_⟩
      show (do let d←resolve a.eval cl type;invoke d.target d.args:Sem Next).run P w=_
      rw [Z4X hc hv];exact Z1h h1 h2 h3 _
     ·cases h
    ·cases h
  ·cases h
 ·cases h
theorem Z3a (hU:U.Ok) {Γ:Nat->Option (Native U)} (hΓ:ZK U P Γ) {I:Nat->Option (Q7c U)} (hI:Q9z U P ro I) {ρ:Type} {S:ρ->Prop} {fail:ρ} (hf:¬S fail) {ops:Array Oper} {Q:Exit->Act->World->Prop} {B:Q4U U} (hB:B.ro=ro) {K:St U->ρ}
  (hQ:∀st' a' w',S (K st')->B.At st' a' w'->Q .normal a' w'):∀(rest:List Oper) (j:Nat) (st:St U) (a:Act) (w:World),ops.toList.drop j=rest->S (Z23 P Γ I ro ops.toList fail rest j st K)->B.At st a w->wpOps P ops Q (List.range' j rest.length) a w
 | [],j,st,a,w,hd,h,hA=>hQ st a w h hA
 |o::rest,j,st,a,w,hd,h,hA=>by
  have hoL:ops.toList[j]? =some o:=by rw [←List.head?_drop,hd];rfl
  have ho:ops[j]? =some o:=by rw [←Array.getElem?_toList];exact hoL
  have hd':ops.toList.drop (j+1)=rest:=by rw [←List.tail_drop,hd];rfl
  obtain ⟨c,Φ,hn,hS,hE⟩:=hA
  rw [List.length_cons,List.range'_succ,wpOps_cons]
  unfold wpOp
  rw [ho]
  show (if Region.wanted o (yielded ops a.tmps)=true then Oper.wp P o a w (wpOps P ops Q (List.range' (j+1) rest.length)) Q\/Oper.asks P o a w/\LetsOut Q else wpOps P ops Q (List.range' (j+1) rest.length) (a.put o.dst undef) w)
  have hw:=Z6w (ops:=ops) (a:=a) (o:=o) (env:=st.env) λt _ v hv=>hS.env t v hv
  have hρ:∀x∈o.op.operands.toList,∀v,opd st.env x=some v->RA U c v (a.eval x):=λx hx v hv=>by
   cases x with
   |tmp t=>exact hS.env t v hv
   |const k=>exact Z3E hv
   |func f=>cases hv;exact R.val rfl
   |global g=>cases hv
  unfold Z23 at h
  cases hds:Z38 st.n o.dst with
  |false=>rw [hds] at h;exact (hf h).elim
  |true=>
   rw [hds] at h
   simp only [Bool.not_true,cond_false] at h
   have go:∀out c' Φ' u w',Q5x ro out.w=true->QC U c Φ st.h st.nx out w c' Φ' u w'->B.At (st.apply o.dst out) (a.put o.dst u) w':=λout c' Φ' u w' hwr h1=>
    ⟨c',Φ',by simp only [St.apply];omega,by have:=hS.put (x:=out.v) (h':=out.w++st.h) (nx':=st.nx+out.nw) hds h1.le h1.val h1.g (h1.fresh hS.fresh);cases hdd:o.dst <;> rw [hdd] at this <;> exact this,hE.step h1 (by rw [hB];exact hwr) hn⟩
   cases hwt:want ops.toList st.env o with
   |bad=>rw [hwt] at h;exact (hf h).elim
   |no=>
    rw [hwt] at h
    simp only at h
    rw [if_neg (by rw [hw.2 hwt];simp)]
    exact Z3a hU hΓ hI hf hB hQ rest (j+1) _ _ _ hd' h (go { v:= .t []} c Φ undef w rfl (QC.pure hS.g RA.undef))
   |yes=>
    rw [hwt] at h
    simp only at h
    rw [if_pos (hw.1 hwt)]
    refine .inl ?_
    split at h
    ·rename_i N as hin
     obtain ⟨f,vs,h1,h2,h3⟩:=Z96 (P:=P) hin hρ
     obtain ⟨h4,h5⟩:=hI f N h1 ρ S fail as st.h st.nx _ hf h c Φ w vs hS.g hS.fresh h2
     have hD:Q3a P (λv w'=>∃x h' nx' c' Φ',S (Z23 P Γ I ro ops.toList fail rest (j+1) { n:=st.n,env:=QaC o.dst x st.env,h:=h',nx:=nx'} K)/\st.nx<=nx'/\RA U c' x v/\G U c' Φ' h' w'/\(∀s,nx'<=s->get h' s=none/\∀k,c'.L s k=none)/\Ext U ro c Φ st.h st.nx w c' Φ' h' w') ((execOp a.eval o).run P w):=by
      rw [h3 w h4];exact h5
     refine hD.wp λu w' ⟨x,h',nx',c',Φ',g1,g2,g3,g4,g5,g6⟩=>?_
     exact Z3a hU hΓ hI hf hB hQ rest (j+1) _ _ _ hd' g1 ⟨c',Φ',Nat.le_trans hn g2,hS.put hds g6.le g3 g4 g5,hE.trans (by rw [hB];exact g6) hn⟩
    ·obtain ⟨out,h1,h2⟩:=QbK hf h
     cases hwr:Q5x ro out.w with
     |false=>rw [hwr] at h2;exact (hf h2).elim
     |true=>
      rw [hwr] at h2
      simp only [cond_true] at h2
      have h3:=Z7R (λ_ _ _ h=>h) h2
      have hD:=Z7W (nx:=st.nx) (h:=st.h) hU hΓ h1 (λ_ _=>rfl) hS.g (λs h4 _=>hS.fresh s h4) hρ
      exact hD.wp λu w' ⟨c',Φ',hSt⟩=>Z3a hU hΓ hI hf hB hQ rest (j+1) _ _ _ hd' h3 (go out c' Φ' u w' hwr hSt)
end Go.Rf
namespace Go.Rf
set_option linter.unusedVariables false
set_option linter.unusedSimpArgs false
variable {U : QY} {P : Program}
theorem Q4U.At.imp {B:Q4U U} {st st':St U} {a:Act} {w:World} (h:B.At st a w) (hi:Imp U st st'):B.At st' a w:=by
 obtain ⟨c,Φ,h1,h2,h3⟩:=h
 exact ⟨c,Φ,Nat.le_trans h1 hi.nx,hi.sok _ _ _ _ h2,h3.less hi.less⟩
def QK (B:Q4U U) {ρ:Type} (S:ρ->Prop) (K:Exit->St U->ρ):Exit->Act->World->Prop:=
 λe a w=>∃st,S (K e st)/\B.At st a w
def Q5C (P:Program) (b:Code) (Q:Exit->Act->World->Prop) (a:Act) (w:World):Prop:=
 ∀(fr:Frame) (k:List Item) (cs:List Frame),∃e a' w',Q e a' w'/\Arrives P (lone (fr.at a (.code b:: .inLoop b::k)) cs w) fr k cs e a' w'
theorem Q5C.wp {b:Code} {Q:Exit->Act->World->Prop} {a:Act} {w:World} (h:Q5C P b Q a w):(Code.loop b).wp P Q a w:=
 λfr k cs=>let ⟨e,a',w',q,r⟩:=h fr k cs;⟨e,a',w',q,.of_steps (.one step_loop) r⟩
theorem Q5C.round {c:Code} {Q:Exit->Act->World->Prop} {a:Act} {w:World} (h:c.wp P (Exit.then (Q5C P c Q) Q) a w):Q5C P c Q a w:=by
 intro b k cs
 obtain ⟨e,a₁,w₁,hq,harr⟩:=h b (.inLoop c::k) cs
 cases e with
 |normal=>
  obtain ⟨e₂,a₂,w₂,hq₂,harr₂⟩:=hq b k cs
  exact ⟨e₂,a₂,w₂,hq₂,.of_steps (Steps.trans harr (.one step_inLoop)) harr₂⟩
 |exit id=>exact ⟨_,a₁,w₁,hq,.pass (x:= .inLoop c) rfl (λ_ _=>.inl (by simp)) harr⟩
 |goto l=>exact ⟨_,a₁,w₁,hq,.pass (x:= .inLoop c) rfl (λ_ _=>.inl (by simp)) harr⟩
 |ret=>exact ⟨_,a₁,w₁,hq,.pass (x:= .inLoop c) rfl (λ_ _=>.inl (by simp)) harr⟩
 |panic ch=>exact ⟨_,a₁,w₁,hq,.pass (x:= .inLoop c) rfl (λ_ _=>.inl (by simp)) harr⟩
 |outgrown=>exact ⟨_,a₁,w₁,hq,.pass (x:= .inLoop c) rfl (λ_ _=>.inl (by simp)) harr⟩
def Q5v (P:Program) (c rest:Code) (Q:Exit->Act->World->Prop) (a:Act) (w:World):Prop:=
 ∀(fr:Frame) (k:List Item) (cs:List Frame),∃e a' w',Q e a' w'/\Arrives P (lone (fr.at a (.code rest:: .inScope c::k)) cs w) fr k cs e a' w'
def Z1s (P:Program) (c:Code) (Q:Exit->Act->World->Prop):Exit->Act->World->Prop
 | .goto l,a,w=>match findLabel c l with
  |some rest=>Q5v P c rest Q a w
  |none=>Q (.goto l) a w
 |e,a,w=>Q e a w
theorem Q5v.of {c rest:Code} {Q:Exit->Act->World->Prop} {a:Act} {w:World} (h:rest.wp P (Z1s P c Q) a w):Q5v P c rest Q a w:=by
 intro b k cs
 obtain ⟨e,a₁,w₁,hq,harr⟩:=h b (.inScope c::k) cs
 cases e with
 |normal=>exact ⟨.normal,a₁,w₁,hq,Steps.trans harr (.one step_inScope)⟩
 |exit id=>exact ⟨.exit id,a₁,w₁,hq,λk' hk=>harr k' (by simp [exitTo,hk])⟩
 |goto l=>
  simp only [Z1s] at hq
  cases hl:findLabel c l with
  |none=>
   rw [hl] at hq
   exact ⟨.goto l,a₁,w₁,hq,λk' hk=>harr k' (by simp [gotoIn,hl,hk])⟩
  |some r=>
   rw [hl] at hq
   obtain ⟨e₂,a₂,w₂,hq₂,harr₂⟩:=hq b k cs
   exact ⟨e₂,a₂,w₂,hq₂,.of_steps (harr _ (by simp [gotoIn,hl])) harr₂⟩
 |ret=>exact ⟨_,a₁,w₁,hq,harr⟩
 |panic ch=>exact ⟨_,a₁,w₁,hq,harr⟩
 |outgrown=>exact ⟨_,a₁,w₁,hq,harr⟩
theorem Z7y {c:Code} {Q:Exit->Act->World->Prop} {a:Act} {w:World} (h:c.wp P (Z1s P c Q) a w):(Code.scope c).wp P Q a w:=by
 intro b k cs
 obtain ⟨e,a',w',hq,harr⟩:=Q5v.of h b k cs
 exact ⟨e,a',w',hq,.of_steps (.one step_scope) harr⟩
def ZF (U:QY) (P:Program) (ro base:Nat) (b:Code) (N:Z2z U):Prop:=
 ∀(ρ:Type) (S:ρ->Prop) (fail:ρ),¬S fail->∀(st:St U) (K:Exit->St U->ρ),S (N ρ st fail K)->
  ∀(B:Q4U U) (a:Act) (w:World),B.ro=ro/\B.nx<=base->B.At st a w->Q5C P b (QK B S K) a w
def ZQ (U:QY) (P:Program) (ro base:Nat) (b rest:Code) (N:Z2z U):Prop:=
 ∀(ρ:Type) (S:ρ->Prop) (fail:ρ),¬S fail->∀(st:St U) (K:Exit->St U->ρ),S (N ρ st fail K)->
  ∀(B:Q4U U) (a:Act) (w:World),B.ro=ro/\B.nx<=base->B.At st a w->Q5v P b rest (QK B S K) a w
def Z3:Code->List Code
 | .seq a b=>Z3 a++Z3 b
 | .cond _ a b=>Z3 a++Z3 b
 | .block _ b=>Z3 b
 | .loop b=>.loop b::Z3 b
 | .scope b=>.scope b::Z3 b
 |_=>[]
theorem Z2p:∀(c:Code) (l:Nat) (r:Code),findLabel c l=some r->∀b,b∈Z3 r->b∈Z3 c
 | .seq x y,l,r,h,b,hb=>by
  unfold findLabel at h
  split at h
  ·rename_i rest hr
   cases h
   simp only [Z3,List.mem_append] at hb ⊢
   rcases hb with hb|hb
   ·exact .inl (Z2p x l rest hr b hb)
   ·exact .inr hb
  ·simp only [Z3,List.mem_append]
   exact .inr (Z2p y l r h b hb)
 | .label l',l,r,h,b,hb=>by
  unfold findLabel at h
  split at h
  ·cases h;simp [Z3] at hb
  ·cases h
 | .skip,l,r,h,b,hb=>by simp [findLabel] at h
 | .region ..,l,r,h,b,hb=>by simp [findLabel] at h
 | .cond ..,l,r,h,b,hb=>by simp [findLabel] at h
 | .block ..,l,r,h,b,hb=>by simp [findLabel] at h
 | .loop ..,l,r,h,b,hb=>by simp [findLabel] at h
 | .exit ..,l,r,h,b,hb=>by simp [findLabel] at h
 | .scope ..,l,r,h,b,hb=>by simp [findLabel] at h
 | .goto ..,l,r,h,b,hb=>by simp [findLabel] at h
 | .ret,l,r,h,b,hb=>by simp [findLabel] at h
 | .rangeFunc ..,l,r,h,b,hb=>by simp [findLabel] at h
 | .refuse ..,l,r,h,b,hb=>by simp [findLabel] at h
def Q8M (U:QY) (P:Program) (ro base:Nat) (L:Code->Prop) (run:(ρ:Type)->ρ->Code->St U->(Exit->St U->ρ)->ρ):Prop:=
 ∀(code:Code),(∀b,b∈Z3 code->L b)->∀(ρ:Type) (S:ρ->Prop) (fail:ρ),¬S fail->∀(st:St U) (K:Exit->St U->ρ),S (run ρ fail code st K)->
  ∀(B:Q4U U) (a:Act) (w:World),B.ro=ro/\B.nx<=base->B.At st a w->code.wp P (QK B S K) a w
structure Q3Z (U:QY) (P:Program) (Hn:Hints U) (L:Code->Prop):Prop where
 u:U.Ok
 pure:U.Pure
 mixed:P.follows .mixedOrders=true
 Γ:ZK U P Hn.Γ
 loop:∀b N,L (.loop b)->Hn.loop (Zg b)=some N->ZF U P Hn.ro Hn.base b N
 label:∀b l rest N,L (.scope b)->findLabel b l=some rest->Hn.label l=some N->ZQ U P Hn.ro Hn.base b rest N
 inl:Q9z U P Hn.ro Hn.inl
theorem Z9a {l:Live} {T:St U} {b:Bool} {x y:Option (St U)} (h:∃z,Z6R l b x y=some z/\Imp U z T):∃z,(bif b then x else y)=some z/\Imp U z T:=by
 obtain ⟨z,h1,h2⟩:=h
 unfold Z6R at h1
 split at h1
 ·rename_i x y
  have:=(Z5C h1).trans h2
  cases b
  ·exact ⟨y,rfl,this⟩
  ·exact ⟨x,rfl,this⟩
 ·cases h1
theorem Z3R (hU:U.Ok) (hP:U.Pure) {base:Nat×Nat} {l:Ql U} {ρ:Type} {S:ρ->Prop} {fail:ρ} (hf:¬S fail) {K:Exit->St U->ρ} {f:(ρ':Type)->ρ'->(Exit->St U->ρ')->ρ'} (h:S (Z4F base l ρ f fail K)) {code:Code} {B:Q4U U} (hB:B.ro=base.1/\B.nx<=base.2) {a:Act} {w:World}
  (hr:∀(ρ':Type) (S':ρ'->Prop) (fail':ρ') (K':Exit->St U->ρ'),¬S' fail'->S' (f ρ' fail' K')->code.wp P (QK B S' K') a w):code.wp P (QK B S K) a w:=by
 unfold Z4F at h
 cases hx:f (Option (ExT l)) none (Z1G base l) with
 |none=>rw [hx] at h;exact (hf h).elim
 |some x=>
  rw [hx] at h
  refine wp_mono (hr (Option (ExT l)) (λy=>y=some x) none (Z1G base l) (λh=>by cases h) hx) λe a' w' ⟨st',h1,h2⟩=>?_
  obtain ⟨st2,h3,h4⟩:=Z3B hU hP l e st' x h1 (K:=K)
  have h:S (Q8C l x K):=h
  rw [h3] at h
  exact ⟨st2,h,h4 B a' w' hB h2⟩
def QP (B:Q4U U) {ρ:Type} (S:ρ->Prop) (K:St U->ρ):Exit->Act->World->Prop:=
 λe a w=>e= .normal/\∃st,S (K st)/\B.At st a w
theorem Z7b (hU:U.Ok) (hP:U.Pure) {l:List (Nat×JV U.C)} {ops:List Oper} {ρ:Type} {S:ρ->Prop} {fail:ρ} (hf:¬S fail) {st:St U} {K:Exit->St U->ρ} {f:(ρ':Type)->ρ'->(St U->ρ')->ρ'} (h:S (Q1L l ops ρ f st fail K)) {code:Code} {B:Q4U U} {a:Act} {w:World}
  (hform:∀(ρ':Type) (fail':ρ') (K' K'':St U->ρ'),(∀st',Form ops st st'->K' st'=K'' st')->f ρ' fail' K'=f ρ' fail' K'')
  (hr:∀(ρ':Type) (S':ρ'->Prop) (fail':ρ') (K':St U->ρ'),¬S' fail'->S' (f ρ' fail' K')->code.wp P (QP B S' K') a w):code.wp P (QK B S K) a w:=by
 unfold Q1L at h
 have hsame:=hform (Option (JVs U l)) none (Z4i l st) (λst'=>open Classical in if Form ops st st' then Z4i l st st' else none) (λst' hF=>by rw [if_pos hF])
 rw [hsame] at h
 generalize hx:f (Option (JVs U l)) none _=y at h
 cases y with
 |none=>exact (hf h).elim
 |some x=>
  have h:S (K .normal { n:=st.n,env:=Zq l x++st.env.filter (λp=>!mem p.1 (ops.filterMap (·.dst))),h:=st.h,nx:=st.nx}):=h
  refine wp_mono (hr (Option (JVs U l)) (λy=>y=some x) none _ (λh=>by cases h) hx) λe a' w' ⟨he,st',h4,h5⟩=>?_
  subst he
  simp only at h4
  split at h4
  ·rename_i hF
   exact ⟨_,h,h5.imp (Z8G hU hP hF h4)⟩
  ·cases h4
theorem Form.more {ops ops':List Oper} {st st':St U} (h:Form ops st st') (hs:∀o,o∈ops->o∈ops'):Form ops' st st':=by
 obtain ⟨pe,ph,h1,h2,h3⟩:=h
 refine ⟨pe,ph,h1,λp hp=>?_,h3⟩
 obtain ⟨o,ho,hd⟩:=List.mem_filterMap.1 (h2 p hp)
 exact List.mem_filterMap.2 ⟨o,hs o ho,hd⟩
theorem Z6g {Γ:Nat->Option (Native U)} {ro:Nat} {st:St U} {ρ':Type} {fail':ρ'} {K' K'':St U->ρ'} {ops:List Oper}:∀(x:Code),(∀o,o∈opsOf x->o∈ops)->(∀st',Form ops st st'->K' st'=K'' st')->Q9X P Γ ro st x ρ' fail' K'=Q9X P Γ ro st x ρ' fail' K'':=by
 intro x hx hk
 cases x with
 |skip=>exact hk st ⟨[],[],rfl,λp hp=>(by cases hp),rfl⟩
 |region id o dr=>exact Z3e _ _ _ _ _ _ λst' hF=>hk st' (hF.more hx)
 |_=>rfl
theorem Z7Z {Hn:Hints U} {L:Code->Prop} (hH:Q3Z U P Hn L) {again:(ρ:Type)->ρ->Code->St U->(Exit->St U->ρ)->ρ} (ha:Q8M U P Hn.ro Hn.base L again):Q8M U P Hn.ro Hn.base L (Q4Q P Hn again):=by
 intro code
 induction code with
 |skip=>
  intro hL ρ S fail hf st K h B a w hro hA
  exact wp_skip ⟨st,h,hA⟩
 |region id ops dr=>
  intro hL ρ S fail hf st K h B a w hro hA0
  have hA:=hA0
  obtain ⟨c,Φ,h1,h2,h3⟩:=hA
  rw [hro.1] at h3
  simp only [Q4Q] at h
  cases hsq:Hn.seq id && !dr with
  |true=>
   rw [hsq] at h
   simp only [cond_true] at h
   have hdr:dr=false:=by
    rw [Bool.and_eq_true] at hsq
    simpa using hsq.2
   subst hdr
   have key:∀(ρ:Type) (S:ρ->Prop) (fail:ρ) (K:Exit->St U->ρ),¬S fail->S (Z23 P Hn.Γ Hn.inl Hn.ro ops.toList fail ops.toList 0 st (λst=>K .normal st))->(Code.region id ops false).wp P (QK B S K) a w:=λρ S fail K hf h=>by
    refine wp_region ?_
    have:=Z3a hH.u hH.Γ hH.inl hf (ops:=ops) (B:=B) hro.1 (Q:=QK B S K) (K:=λst=>K .normal st) (λst' a' w' h4 h5=>⟨st',h4,h5⟩) ops.toList 0 st a w rfl h hA0
    rw [List.range_eq_range']
    simpa using this
   split at h
   ·exact Z3R hH.u hH.pure hf h hro key
   ·exact key ρ S fail K hf h
  |false=>
  rw [hsq] at h
  simp only [cond_false] at h
  cases hm:Hn.meet id with
  |none=>
   rw [hm] at h
   simp only at h
   have key:∀(ρ:Type) (S:ρ->Prop) (fail:ρ) (K:Exit->St U->ρ),¬S fail->S (ZX P Hn.Γ Hn.ro dr ops.toList (bif dr then Q42 ops.toList [] else []) (λb x y=>bif b then x else y) fail ops.toList 0 [] st (λst=>K .normal st))->(Code.region id ops dr).wp P (QK B S K) a w:=λρ S fail K hf h=>
    Z37 (J:=λb x y=>bif b then x else y) hH.u hH.Γ hH.mixed hf (λ_ _ _ h=>h) h h1 h2 h3 λst' c' Φ' a' w' h4 h5 h6 h7=>⟨st',h4,c',Φ',h5,h6,by rw [hro.1];exact h7⟩
   split at h
   ·exact Z3R hH.u hH.pure hf h hro key
   ·split at h
    ·rename_i l _
     exact Z7b hH.u hH.pure hf h (λρ' fail' K' K'' hk=>Z3e _ _ _ _ _ _ hk) (λρ' S' fail' K' hf' h'=>
      Z37 (J:=λb x y=>bif b then x else y) hH.u hH.Γ hH.mixed hf' (λ_ _ _ h=>h) h' h1 h2 h3 λst' c' Φ' a' w' h4 h5 h6 h7=>⟨rfl,st',h4,c',Φ',h5,h6,by rw [hro.1];exact h7⟩)
    ·exact key ρ S fail K hf h
  |some l=>
   rw [hm] at h
   simp only at h
   split at h
   ·rename_i T hT
    refine Z37 (S:=λr:Option (St U)=>∃z,r=some z/\Imp U z T) hH.u hH.Γ hH.mixed (λ⟨z,hz,_⟩=>by cases hz) (λb x y=>Z9a) ⟨T,hT,Imp.refl T⟩ h1 h2 h3
     λst' c' Φ' a' w' ⟨z,h4,h8⟩ h5 h6 h7=>⟨T,h,?_⟩
    cases h4
    exact Q4U.At.imp (B:=B) (st:=st') ⟨c',Φ',h5,h6,by rw [hro.1];exact h7⟩ ((Imp.only st' l).trans h8)
   ·exact (hf h).elim
 |seq x y ihx ihy=>
  intro hL ρ S fail hf st K h B a w hro hA
  simp only [Z3,List.mem_append] at hL
  refine wp_seq (wp_mono (ihx (λb hb=>hL b (.inl hb)) ρ S fail hf st _ h B a w hro hA) λe a' w' ⟨st',h1,h2⟩=>?_)
  cases e with
  |normal=>exact ihy (λb hb=>hL b (.inr hb)) ρ S fail hf st' K h1 B a' w' hro h2
  |exit i=>exact ⟨st',h1,h2⟩
  |goto l=>exact ⟨st',h1,h2⟩
  |ret=>exact ⟨st',h1,h2⟩
  |panic ch=>exact ⟨st',h1,h2⟩
  |outgrown=>exact ⟨st',h1,h2⟩
 |cond c x y ihx ihy=>
  intro hL ρ S fail hf st K h B a w hro hA
  simp only [Z3,List.mem_append] at hL
  simp only [Q4Q] at h
  split at h
  ·rename_i t ht
   have hc:a.eval c= .bool t:=by
    obtain ⟨c',Φ',h1,h2,h3⟩:=hA
    cases c with
    |tmp k=>exact R.Q1z (show R U c' (.val (.bool t)) _ from h2.env k _ ht)
    |const v=>exact R.Q1z (show R U c' (.val (.bool t)) _ from Z3E ht)
    |func f=>cases ht
    |global g=>cases ht
   refine wp_cond hc ?_
   split at h
   ·rename_i l hl
    split at h
    ·rename_i st1 st2 h1 h2
     split at h
     ·rename_i T hT
      have hi:=Z5C hT
      cases t
      ·refine wp_mono (ihy (λb hb=>hL b (.inr hb)) (Option (Exit×St U)) (λr=>r=some (.normal,st2)) none (λh=>by cases h) st _ h2 B a w hro hA) λe a' w' ⟨st',h3,h4⟩=>?_
       cases h3
       exact ⟨T,h,h4.imp hi⟩
      ·refine wp_mono (ihx (λb hb=>hL b (.inl hb)) (Option (Exit×St U)) (λr=>r=some (.normal,st1)) none (λh=>by cases h) st _ h1 B a w hro hA) λe a' w' ⟨st',h3,h4⟩=>?_
       cases h3
       exact ⟨T,h,h4.imp hi⟩
     ·exact (hf h).elim
    ·exact (hf h).elim
   ·have key:∀(ρ:Type) (S:ρ->Prop) (fail:ρ) (K:Exit->St U->ρ),¬S fail->S (bif t then Q4Q P Hn again ρ fail x st K else Q4Q P Hn again ρ fail y st K)->(bif t then x else y).wp P (QK B S K) a w:=λρ S fail K hf h=>by
     cases t
     ·exact ihy (λb hb=>hL b (.inr hb)) ρ S fail hf st K h B a w hro hA
     ·exact ihx (λb hb=>hL b (.inl hb)) ρ S fail hf st K h B a w hro hA
    have plain:∀(z:Code) (ρ':Type) (S':ρ'->Prop) (fail':ρ') (K':St U->ρ'),¬S' fail'->S' (Q9X P Hn.Γ Hn.ro st z ρ' fail' K')->z.wp P (QP B S' K') a w:=λz ρ' S' fail' K' hf' h'=>by
     cases z with
     |skip=>exact wp_skip ⟨rfl,st,h',hA⟩
     |region id ops dr=>
      obtain ⟨c',Φ',g1,g2,g3⟩:=hA
      rw [hro.1] at g3
      exact Z37 (J:=λb x y=>bif b then x else y) hH.u hH.Γ hH.mixed hf' (λ_ _ _ h=>h) h' g1 g2 g3 λst' c' Φ' a' w' h4 h5 h6 h7=>⟨rfl,st',h4,c',Φ',h5,h6,by rw [hro.1];exact h7⟩
     |_=>exact (hf' h').elim
    have goal:(bif t then x else y).wp P (QK B S K) a w:=by
     split at h
     ·exact Z3R hH.u hH.pure hf h hro key
     ·split at h
      ·refine Z7b hH.u hH.pure hf h (λρ' fail' K' K'' hk=>?_) (λρ' S' fail' K' hf' h'=>?_)
       ·rw [Z6g x (λo ho=>List.mem_append_left _ ho) hk,Z6g y (λo ho=>List.mem_append_right _ ho) hk]
       ·cases t
        ·exact plain y ρ' S' fail' K' hf' h'
        ·exact plain x ρ' S' fail' K' hf' h'
      ·exact key ρ S fail K hf h
    cases t
    ·exact goal
    ·exact goal
  ·exact (hf h).elim
 |block id b ih=>
  intro hL ρ S fail hf st K h B a w hro hA
  have key:∀(ρ:Type) (S:ρ->Prop) (fail:ρ) (K:Exit->St U->ρ),¬S fail->S (Q4Q P Hn again ρ fail b st λe st=>match e with
   | .exit i=>bif Nat.beq i id then K .normal st else K (.exit i) st
   |e=>K e st)->(Code.block id b).wp P (QK B S K) a w:=by
   intro ρ S fail K hf h
   refine wp_block (wp_mono (ih hL ρ S fail hf st _ h B a w hro hA) λe a' w' ⟨st',h1,h2⟩=>?_)
   cases e with
   |exit i=>
    simp only [Exit.inBlock]
    simp only at h1
    cases hb:Nat.beq i id with
    |true=>rw [hb] at h1;rw [if_pos (QV hb)];exact ⟨st',h1,h2⟩
    |false=>
     rw [hb] at h1
     rw [if_neg (λe=>by subst e;simp at hb)]
     exact ⟨st',h1,h2⟩
   |normal=>exact ⟨st',h1,h2⟩
   |goto l=>exact ⟨st',h1,h2⟩
   |ret=>exact ⟨st',h1,h2⟩
   |panic ch=>exact ⟨st',h1,h2⟩
   |outgrown=>exact ⟨st',h1,h2⟩
  simp only [Q4Q] at h
  split at h
  ·exact Z3R hH.u hH.pure hf h hro key
  ·exact key ρ S fail K hf h
 |loop b ih=>
  intro hL ρ S fail hf st K h B a w hro hA
  simp only [Q4Q] at h
  split at h
  ·rename_i N hN
   exact (hH.loop b N (hL _ (by simp [Z3])) hN ρ S fail hf st K h B a w hro hA).wp
  ·exact (hf h).elim
 |exit i=>
  intro hL ρ S fail hf st K h B a w hro hA
  exact wp_exit ⟨st,h,hA⟩
 |scope b ih=>
  intro hL ρ S fail hf st K h B a w hro hA
  have hLb:∀x,x∈Z3 b->L x:=λx hx=>hL x (by simp only [Z3];exact List.mem_cons_of_mem _ hx)
  have key:∀(k l:Nat) (st:St U) (a:Act) (w:World),S (Z3s again b ρ fail K k l st)->B.At st a w->Z1s P b (QK B S K) (.goto l) a w:=by
   intro k
   induction k with
   |zero=>
    intro l st a w h hA
    unfold Z3s at h
    simp only [Z1s]
    split at h
    ·exact (hf h).elim
    ·rename_i hl
     rw [hl];exact ⟨st,h,hA⟩
   |succ k ihk=>
    intro l st a w h hA
    unfold Z3s at h
    simp only [Z1s]
    split at h
    ·rename_i rest hl
     rw [hl]
     refine Q5v.of (wp_mono (ha rest (λx hx=>hLb x (Z2p b l rest hl x hx)) ρ S fail hf st _ h B a w hro hA) λe a'' w'' ⟨st'',h3,h4⟩=>?_)
     cases e with
     |goto l=>exact ihk l st'' a'' w'' h3 h4
     |normal=>exact ⟨st'',h3,h4⟩
     |exit i=>exact ⟨st'',h3,h4⟩
     |ret=>exact ⟨st'',h3,h4⟩
     |panic ch=>exact ⟨st'',h3,h4⟩
     |outgrown=>exact ⟨st'',h3,h4⟩
    ·rename_i hl
     rw [hl];exact ⟨st,h,hA⟩
  refine Z7y (wp_mono (ih hLb ρ S fail hf st _ h B a w hro hA) λe a' w' ⟨st',h1,h2⟩=>?_)
  cases e with
  |goto l=>
   simp only at h1
   split at h1
   ·rename_i rest N hl hN
    simp only [Z1s]
    rw [hl]
    exact hH.label b l rest N (hL _ (by simp [Z3])) hl hN ρ S fail hf st' K h1 B a' w' hro h2
   ·exact key _ l st' a' w' h1 h2
  |normal=>exact ⟨st',h1,h2⟩
  |exit i=>exact ⟨st',h1,h2⟩
  |ret=>exact ⟨st',h1,h2⟩
  |panic ch=>exact ⟨st',h1,h2⟩
  |outgrown=>exact ⟨st',h1,h2⟩
 |label l=>
  intro hL ρ S fail hf st K h B a w hro hA
  exact wp_label ⟨st,h,hA⟩
 |goto l=>
  intro hL ρ S fail hf st K h B a w hro hA
  exact wp_goto ⟨st,h,hA⟩
 |ret=>
  intro hL ρ S fail hf st K h B a w hro hA
  exact wp_ret ⟨st,h,hA⟩
 |rangeFunc=>
  intro hL ρ S fail hf st K h B a w hro hA
  exact (hf h).elim
 |refuse=>
  intro hL ρ S fail hf st K h B a w hro hA
  exact (hf h).elim
theorem Z2Q {Hn:Hints U} {L:Code->Prop} {run:(ρ:Type)->ρ->Code->St U->(Exit->St U->ρ)->ρ} (hU:U.Ok) (hP:U.Pure) (hR:Q8M U P Hn.ro Hn.base L run) {b:Code} (hL:∀b',b'∈Z3 b->L b')
  {p:Shape U} {l:Ql U} {F:p.T->Option (ExT l)} {rounds:p.T->Nat} {round:p.T->Option (p.T⊕ExT l)} (hF:∀x,F x=Z8 (rounds x) round x) (heq:∀x,run (Option (p.T⊕ExT l)) none b (p.enc x) (Zj (Hn.ro,Hn.base) p l)=round x):ZF U P Hn.ro Hn.base b (Z9 (Hn.ro,Hn.base) p l F):=by
 intro ρ S fail hf st K h B a w hro hA
 have main:∀(n:Nat) (x:p.T) (r:ExT l),Z8 n round x=some r->S (Q8C l r K)->∀(a:Act) (w:World),B.At (p.enc x) a w->Q5C P b (QK B S K) a w:=by
  intro n
  induction n with
  |zero=>intro x r h;cases h
  |succ n ih=>
   intro x r h hS a w hA
   unfold Z8 at h
   have body:∀y,round x=some y->b.wp P (QK B (λz=>z=some y) (Zj (Hn.ro,Hn.base) p l)) a w:=λy hy=>
    hR b hL (Option (p.T⊕ExT l)) (λz=>z=some y) none (λh=>by cases h) (p.enc x) (Zj (Hn.ro,Hn.base) p l) ((heq x).trans hy) B a w hro hA
   split at h
   ·rename_i x' hx
    refine Q5C.round (wp_mono (body _ hx) λe a' w' ⟨st',h1,h2⟩=>?_)
    unfold Zj at h1
    split at h1
    ·split at h1
     ·rename_i z hz
      cases h1
      exact ih _ r h hS a' w' (Shape.at hU hP hz hro h2)
     ·cases h1
    ·split at h1 <;> cases h1
   ·rename_i y hx
    cases h
    refine Q5C.round (wp_mono (body _ hx) λe a' w' ⟨st',h1,h2⟩=>?_)
    have other:∀e,(match Z1G (Hn.ro,Hn.base) l e st' with|some x=>some (Sum.inr x)|none=>none)=some (Sum.inr r:p.T⊕ExT l)->QK B S K e a' w':=λe h1=>by
     split at h1
     ·rename_i z hz
      cases h1
      obtain ⟨st2,h3,h4⟩:=Z3B hU hP l _ st' _ hz (K:=K)
      rw [h3] at hS
      exact ⟨st2,hS,h4 B a' w' hro h2⟩
     ·cases h1
    cases e with
    |normal=>
     unfold Zj at h1
     simp only at h1
     split at h1 <;> cases h1
    |exit i=>exact other _ h1
    |goto i=>exact other _ h1
    |ret=>exact other _ h1
    |panic ch=>exact other _ h1
    |outgrown=>exact other _ h1
   ·cases h
 unfold Z9 at h
 split at h
 ·rename_i x hx
  rw [hF] at h
  cases hr:Z8 (rounds x) round x with
  |none=>rw [hr] at h;exact (hf h).elim
  |some r=>
   rw [hr] at h
   exact main _ x r hr h a w (Shape.at hU hP hx hro hA)
 ·exact (hf h).elim
theorem Z6h {Hn:Hints U} {L:Code->Prop} {run:(ρ:Type)->ρ->Code->St U->(Exit->St U->ρ)->ρ} (hU:U.Ok) (hP:U.Pure) (hR:Q8M U P Hn.ro Hn.base L run) {b rest:Code} {lb:Nat} (hl:findLabel b lb=some rest) (hL:∀b',b'∈Z3 rest->L b')
  {p:Shape U} {l:Ql U} {F:p.T->Option (ExT l)} {rounds:p.T->Nat} {round:p.T->Option (p.T⊕ExT l)} (hF:∀x,F x=Z8 (rounds x) round x) (heq:∀x,run (Option (p.T⊕ExT l)) none rest (p.enc x) (Z2S (Hn.ro,Hn.base) lb p l)=round x):ZQ U P Hn.ro Hn.base b rest (Z9 (Hn.ro,Hn.base) p l F):=by
 intro ρ S fail hf st K h B a w hro hA
 have main:∀(n:Nat) (x:p.T) (r:ExT l),Z8 n round x=some r->S (Q8C l r K)->∀(a:Act) (w:World),B.At (p.enc x) a w->Q5v P b rest (QK B S K) a w:=by
  intro n
  induction n with
  |zero=>intro x r h;cases h
  |succ n ih=>
   intro x r h hS a w hA
   unfold Z8 at h
   have body:∀y,round x=some y->rest.wp P (QK B (λz=>z=some y) (Z2S (Hn.ro,Hn.base) lb p l)) a w:=λy hy=>
    hR rest hL (Option (p.T⊕ExT l)) (λz=>z=some y) none (λh=>by cases h) (p.enc x) (Z2S (Hn.ro,Hn.base) lb p l) ((heq x).trans hy) B a w hro hA
   split at h
   ·rename_i x' hx
    refine Q5v.of (wp_mono (body _ hx) λe a' w' ⟨st',h1,h2⟩=>?_)
    have no:∀e,(match Z1G (Hn.ro,Hn.base) l e st' with|some x=>some (Sum.inr x)|none=>none)=some (Sum.inl x':p.T⊕ExT l)->False:=λe h1=>by
     split at h1 <;> cases h1
    cases e with
    |goto i=>
     unfold Z2S at h1
     simp only at h1
     cases hb:Nat.beq i lb with
     |false=>rw [hb] at h1;cases h1
     |true=>
      rw [hb] at h1
      have:=QV hb
      subst this
      simp only [cond_true] at h1
      split at h1
      ·rename_i z hz
       cases h1
       simp only [Z1s,hl]
       exact ih _ r h hS a' w' (Shape.at hU hP hz hro h2)
      ·cases h1
    |exit i=>exact (no _ h1).elim
    |normal=>exact (no _ h1).elim
    |ret=>exact (no _ h1).elim
    |panic ch=>exact (no _ h1).elim
    |outgrown=>exact (no _ h1).elim
   ·rename_i y hx
    cases h
    refine Q5v.of (wp_mono (body _ hx) λe a' w' ⟨st',h1,h2⟩=>?_)
    have other:∀e,(match Z1G (Hn.ro,Hn.base) l e st' with|some x=>some (Sum.inr x)|none=>none)=some (Sum.inr r:p.T⊕ExT l)->QK B S K e a' w':=λe h1=>by
     split at h1
     ·rename_i z hz
      cases h1
      obtain ⟨st2,h3,h4⟩:=Z3B hU hP l _ st' _ hz (K:=K)
      rw [h3] at hS
      exact ⟨st2,hS,h4 B a' w' hro h2⟩
     ·cases h1
    cases e with
    |goto i=>
     unfold Z2S at h1
     simp only at h1
     cases hb:Nat.beq i lb with
     |false=>rw [hb] at h1;cases h1
     |true=>
      rw [hb] at h1
      simp only [cond_true] at h1
      split at h1 <;> cases h1
    |exit i=>exact other _ h1
    |normal=>exact other _ h1
    |ret=>exact other _ h1
    |panic ch=>exact other _ h1
    |outgrown=>exact other _ h1
   ·cases h
 unfold Z9 at h
 split at h
 ·rename_i x hx
  rw [hF] at h
  cases hr:Z8 (rounds x) round x with
  |none=>rw [hr] at h;exact (hf h).elim
  |some r=>
   rw [hr] at h
   exact main _ x r hr h a w (Shape.at hU hP hx hro hA)
 ·exact (hf h).elim
theorem Z1B {Hn:Hints U} {L:Code->Prop} (hH:Q3Z U P Hn L):∀n,Q8M U P Hn.ro Hn.base L (run P Hn n)
 |0=>Z7Z hH λcode hL ρ S fail hf st K h=>(hf h).elim
 |n+1=>Z7Z hH (Z1B hH n)
end Go.Rf
namespace Go.Rf
set_option linter.unusedVariables false
set_option linter.unusedSimpArgs false
variable {U : QY} {P : Program} {c : Cx} {Φ : Nat -> Nat -> Nat -> Prop} {h : Qq U} {nx : Nat} {w : World}
def Z4O (tmps:Array Value):ResultVar->Sem Value
 | .tmp t=>pure (tmps.getD t undef)
 | .cell a t=>do loadVar t (←asAddr (tmps.getD a undef))
theorem Z7v (hU:U.Ok) {st:St U} {a:Act} (hS:SOK U c Φ st a w) {r:ResultVar} {x:V U} (h:Z28 P st.env st.h r=some x):
  ∃v,(Z4O a.tmps r).run P w= .ok v w/\RV U c x v:=by
 unfold Z28 at h
 split at h
 ·rename_i t
  split at h
  ·rename_i x' hx
   cases h
   exact ⟨a.eval (.tmp t),rfl,hS.env t _ hx⟩
  ·cases h
 ·rename_i ad t
  split at h
  ·rename_i s i off g n he hg hn
   split at h
   ·rename_i l hl
    split at h
    ·rename_i x' hx
     cases h
     have hr:=hS.env ad _ he
     obtain ⟨b,o,hL,hp⟩:∃b o,c.L s i=some (b,o)/\a.eval (.tmp ad)= .pointer (some (at_ b (o+off))):=by
      generalize a.eval (.tmp ad)=q at hr ⊢
      cases (show R U c (.ptr s i off) q from hr) with|ptr h0=>exact ⟨_,_,h0,rfl⟩
     obtain ⟨vs,h1,h2,h3⟩:=Qcj hU hl hS.g hL
     obtain ⟨u,h4,h5⟩:=Z1v (P:=P) hg hn h1 h2 h3 hx
     refine ⟨u,?_,h5⟩
     have e:a.tmps.getD ad undef= .pointer (some (at_ b (o+off))):=hp
     simp only [Z4O,e]
     simpa [asAddr] using h4
    ·cases h
   ·cases h
  ·cases h
theorem Z53 (hU:U.Ok) {st:St U} {a:Act} (hS:SOK U c Φ st a w):∀(rs:List ResultVar) (xs:List (V U)),ZA (rs.map (Z28 P st.env st.h))=some xs->
  ∃vs:List Value,(rs.mapM (Z4O a.tmps):Sem (List Value)).run P w= .ok vs w/\vs.length=xs.length/\∀(k:Nat) x,xs[k]? =some x->∃v,vs[k]? =some v/\RV U c x v
 | [],xs,h=>by simp [ZA] at h;subst h;exact ⟨[],rfl,rfl,λk x hk=>by simp at hk⟩
 |r::rs,xs,h=>by
  rw [List.map_cons] at h
  cases hr:Z28 P st.env st.h r with
  |none=>rw [hr] at h;cases h
  |some x=>
   rw [hr] at h
   unfold ZA at h
   split at h
   ·rename_i ys hy
    cases h
    obtain ⟨v,h1,h2⟩:=Z7v hU hS hr
    obtain ⟨vs,h3,h4,h5⟩:=Z53 hU hS rs ys hy
    refine ⟨v::vs,?_,by simp [h4],λk z hk=>?_⟩
    ·rw [List.mapM_cons]
     simp only [Sem.run_bind,h1,Result.andThen_ok,h3,Sem.run_pure]
    ·cases k with
     |zero=>simp at hk;subst hk;exact ⟨v,rfl,h2⟩
     |succ k=>simp at hk;simpa using h5 k z hk
   ·cases h
theorem Z8f (hU:U.Ok) {st:St U} {a:Act} (hS:SOK U c Φ st a w) {fn:Func} {x:A U} (h:Rf.results P fn st.env st.h=some x):
  ∃v,(Go.results fn a.tmps).run P w= .ok v w/\RA U c x v:=by
 unfold Rf.results at h
 have key:∀xs,ZA (fn.results.toList.map (Z28 P st.env st.h))=some xs->∃vs:List Value,(Go.results fn a.tmps).run P w= .ok (if h:vs.toArray.size=1 then vs.toArray[0] else .tuple vs.toArray) w/\vs.length=xs.length/\
   ∀(k:Nat) x,xs[k]? =some x->∃v,vs[k]? =some v/\RV U c x v:=by
  intro xs hx
  obtain ⟨vs,h1,h2,h3⟩:=Z53 hU hS _ xs hx
  refine ⟨vs,?_,h2,h3⟩
  show (do let vs←fn.results.mapM (Z4O a.tmps);pure (if h:vs.size=1 then vs[0] else .tuple vs):Sem Value).run P w=_
  rw [Array.mapM_eq_mapM_toList]
  simp only [Sem.run_bind,Sem.run_map,h1,Result.andThen_ok,Sem.run_pure]
 split at h
 ·rename_i y hy
  cases h
  obtain ⟨vs,h1,h2,h3⟩:=key _ hy
  match vs,h2 with
  | [v],_=>
   obtain ⟨v',h4,h5⟩:=h3 0 y rfl
   simp at h4;subst h4
   exact ⟨v,by simpa using h1,h5⟩
 ·rename_i l hne hy
  cases h
  obtain ⟨vs,h1,h2,h3⟩:=key _ hy
  have:¬vs.toArray.size=1:=by
   simp only [List.size_toArray]
   rw [h2]
   intro he
   match l,he with
   | [z],_=>exact hne z rfl
  rw [dif_neg this] at h1
  exact ⟨_,h1,vs.toArray,rfl,by simpa using h2,λk x hk=>by simpa using h3 k x hk⟩
 ·cases h
theorem Z89 {as:List (A U)}:∀(i t:Nat) (v:A U),get (Z5P i as) t=some v->∃k,t=i+k/\as[k]? =some v:=by
 induction as with
 |nil=>intro i t v h;cases h
 |cons x as ih=>
  intro i t v h
  unfold Z5P at h
  rw [Z6] at h
  by_cases e:i=t
  ·subst e;simp at h;subst h;exact ⟨0,rfl,rfl⟩
  ·rw [if_neg e] at h
   obtain ⟨k,h1,h2⟩:=ih _ _ _ h
   exact ⟨k+1,by omega,h2⟩
theorem Z7N {Hn:Hints U} {L:Code->Prop} (hH:Q3Z U P Hn L) {f:Nat} {fn:Func} {code:Code} (hf:P.funcs[f]? =some fn) (hb:fn.body=some code) (hL:∀b,b∈Z3 code->L b)
    {gos:Nat} {args:List (A U)} {ρ:Type} {fail:ρ} {fin:A U->Qq U->ρ} {S:ρ->Prop} (hS:¬S fail) (h':S (Q7U P Hn fn gos fail fin args h nx)) (hn:args.length<=fn.ntmps) (hrn:Hn.ro<=nx) (hbn:nx<=Hn.base)
    {vs:Array Value} (hg:G U c Φ h w) (hfr:∀s,nx<=s->get h s=none/\∀k,c.L s k=none) (ha:RAs U c args vs.toList):
    Calls P f vs w λe w'=>∃v,e= .returned v/\∃x h' c' Φ',S (fin x h')/\RA U c' x v/\G U c' Φ' h' w'/\Ext U Hn.ro c Φ h nx w c' Φ' h' w':=by
  unfold Q7U at h'
  rw [hb] at h'
  simp only at h'
  have hsz:vs.size=args.length:=by have:=ha.len;simpa using this
  refine calls_of_wp hf hb (wp_mono (Z1B hH gos code hL ρ S fail hS _ _ h' { c:=c,Φ:=Φ,h:=h,nx:=nx,ro:=Hn.ro,w:=w,new:=λs hs=>(hfr s hs).2,rw:=hrn} _ w ⟨rfl,hbn⟩ ⟨c,Φ,Nat.le_refl _,⟨?_,rfl,λt v hv=>?_,hg,hfr⟩,Ext.refl⟩) ?_)
  · simp [hsz];omega
  · obtain ⟨k,h1,h2⟩:=Z89 _ _ _ hv
    obtain ⟨u,h3,h4⟩:=ha.at_ k v h2
    simp at h3
    have hlt:k < vs.size:=(Array.getElem?_eq_some_iff.1 h3).1
    have:({ tmps:=vs++Array.replicate (fn.ntmps - vs.size) undef,defers:= []}:Act).eval (.tmp t)=u:=by
      rw [h1,Nat.zero_add]
      simp only [Act.eval]
      rw [Array.getD_eq_getD_getElem?,Array.getElem?_append_left hlt,h3];rfl
    rw [this];exact h4
  · have hend : ∀ (st : St U) (a : Act) (w' : World), S (match Rf.results P fn st.env st.h with | some v =>fin v st.h | none =>fail) -> Q4U.At { c := c, Φ := Φ, h := h, nx := nx, ro := Hn.ro, w := w, new := λs hs =>(hfr s hs).2, rw := hrn } st a w' ->
        a.defers= []/\∃v,(Go.results fn a.tmps).run P w'= .ok v w'/\∃v',(Ending.returned v)= .returned v'/\∃x h' c' Φ',S (fin x h')/\RA U c' x v'/\G U c' Φ' h' w'/\Ext U Hn.ro c Φ h nx w c' Φ' h' w':=by
      intro st a w' hs hA
      obtain ⟨c',Φ',h1,h2,h3⟩:=hA
      split at hs
      · rename_i x hx
        obtain ⟨v,h4,h5⟩:=Z8f hH.u h2 hx
        exact ⟨h2.defers,v,h4,v,rfl,x,st.h,c',Φ',hs,h5,h2.g,h3⟩
      · exact (hS hs).elim
    intro e a w' ⟨st,h1,h2⟩
    cases e with
    |normal=>exact hend st a w' h1 h2
    |ret=>exact hend st a w' h1 h2
    |exit i=>exact (hS h1).elim
    |goto l=>exact (hS h1).elim
    |panic ch=>exact (hS h1).elim
    |outgrown=>exact (hS h1).elim
end Go.Rf
