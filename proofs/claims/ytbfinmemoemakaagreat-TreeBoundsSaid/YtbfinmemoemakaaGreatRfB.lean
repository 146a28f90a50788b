/- An evaluator of the model's code, and the proof that it is sound. Own work; no program in it. -/
import Derived.Test.YtbfinmemoemakaaGreatRfA
import Derived.Great.FillDense
import Derived.Great.BuildSlice
import Derived.Laws.Append
import Derived.Laws.AppendOwn
import Derived.Laws.IdiomStrings
import Derived.Laws.IdiomCopy
import Derived.Lib.Bytealg
import Derived.Laws.Externs
import Derived.Laws.MakeOwn
import Derived.Lib.OthersKept
import Derived.MapKept
namespace Go.Rf
set_option linter.unusedVariables false
set_option linter.unusedSimpArgs false
variable {U : QV} {P : Program} {c : Cx} {Φ : Nat -> Nat -> Nat -> Prop} {h : Qr U} {nx : Nat} {w : World}
def Z1g (U:QV) (c:Cx) (x:Option (Option (A U))) (y:Option Value):Prop:=
 match x,y with
 | .none,.none=>True
 |some a,some v=>∀b,a=some b->RA U c b v
 |_,_=>False
def Bd (y:Option Value) (d:Nat) (n:Int):Prop:=(y=none/\n=(d:Int))\/∃k,y=some (.int k n)
theorem Zk {x:Option (Option (A U))} {y:Option Value} {d:Nat} {n:Int} (h:ZD x d=some n) (hx:Z1g U c x y):Bd y d n:=by
 unfold ZD at h
 split at h
 ·cases h
  cases y with
  |none=>exact .inl ⟨rfl,rfl⟩
  |some v=>exact hx.elim
 ·rename_i k n'
  cases h
  cases y with
  |none=>exact hx.elim
  |some v=>exact .inr ⟨k,by rw [R.int (show R U c _ v from hx _ rfl)]⟩
 ·cases h
theorem ZK {a b:Int} {n:Nat} (h:le3 a b n=true):0<=a/\a<=b/\b<=(n:Int):=by
 unfold le3 ile at h
 by_cases h1:0<=a <;> by_cases h2:a<=b <;> simp [h1,h2] at h
 exact ⟨h1,h2,h⟩
theorem ZV {isS:Bool} {len cap:Nat} {lo hi:Option Value} {l r:Int} (hl:Bd lo 0 l) (hr:Bd hi len r) (h0:0<=l) (h1:l<=r) (h2:r<=(len:Int)) (hlc:len<=cap):
  (Instr.sliceBounds isS len cap lo hi none).run P w= .ok (l.toNat,r.toNat,cap) w:=by
 have hb:∀(k:IntKind) (i:Int) (y:Nat) (code:BoundsCode),0<=i->i<=(y:Int)->(Instr.sliceBound (.int k i) y code).run P w= .ok i.toNat w:=λk i y code a b=>run_sliceBound w k i y code a b
 have er:(r.toNat:Int)=r:=Int.toNat_of_nonneg (by omega)
 rcases hl with ⟨rfl,rfl⟩|⟨kl,rfl⟩ <;> rcases hr with ⟨rfl,rfl⟩|⟨kr,rfl⟩
 ·simp [Instr.sliceBounds]
 ·simp [Instr.sliceBounds,hb kr r cap _ (by omega) (by omega)]
 ·simp [Instr.sliceBounds,hb kl l len _ h0 (by omega)]
 ·simp [Instr.sliceBounds,hb kr r cap _ (by omega) (by omega),hb kl l r.toNat _ h0 (by omega)]
theorem Z51 {len cap:Nat} {lo hi:Option Value} {km:IntKind} {l r m:Int} (hl:Bd lo 0 l) (hr:Bd hi len r) (hsome:hi.isSome) (h0:0<=l) (h1:l<=r) (h2:r<=m) (h3:m<=(cap:Int)):
  (Instr.sliceBounds true len cap lo hi (some (.int km m))).run P w= .ok (l.toNat,r.toNat,m.toNat) w:=by
 have hb:∀(k:IntKind) (i:Int) (y:Nat) (code:BoundsCode),0<=i->i<=(y:Int)->(Instr.sliceBound (.int k i) y code).run P w= .ok i.toNat w:=λk i y code a b=>run_sliceBound w k i y code a b
 have er:(r.toNat:Int)=r:=Int.toNat_of_nonneg (by omega)
 have em:(m.toNat:Int)=m:=Int.toNat_of_nonneg (by omega)
 rcases hr with ⟨rfl,rfl⟩|⟨kr,rfl⟩
 ·cases hsome
 ·rcases hl with ⟨rfl,rfl⟩|⟨kl,rfl⟩
  ·simp [Instr.sliceBounds,hb km m cap _ (by omega) h3,hb kr r m.toNat _ (by omega) (by omega)]
  ·simp [Instr.sliceBounds,hb km m cap _ (by omega) h3,hb kr r m.toNat _ (by omega) (by omega),hb kl l r.toNat _ h0 (by omega)]
theorem Z6j {α:Type} {l:List α} {a b i:Nat} {d:α} (hi:i < ((l.take b).drop a).length):((l.take b).drop a).getD i d=l.getD (a+i) d:=by
 have h:((l.take b).drop a)[i]? =l[a+i]? :=by
  rw [List.getElem?_drop,List.getElem?_take]
  simp at hi
  rw [if_pos (by omega)]
 simp [List.getD,h]
theorem Z9v (hU:U.Ok) {h':Qr U} {t:TypeId} {a:A U} {xl xh xm:Option (Option (A U))} {yl yh ym:Option Value} {out:Out U} {p:Value}
  (ho:(Z2J P t a xl xh xm h').outs=some out) (hag:∀s,s∈out.rd\/s∈out.w.map (·.1)->get h s=get h' s) (hg:G U c Φ h w) (ha:RA U c a p)
  (hl:Z1g U c xl yl) (hh:Z1g U c xh yh) (hm:Z1g U c xm ym):Q3C U c w P (Instr.sliceAt t p yl yh ym) out:=by
 unfold Z2J at ho
 split at ho
 ·rename_i s hu
  split at ho
  ·rename_i l r h1 h2
   obtain ⟨hr,rfl⟩:=Zb ho
   obtain ⟨e0,e1,e2⟩:=ZK hr
   cases ym with
   |some v=>exact hm.elim
   |none=>
    cases R.Q1z (show R U c _ p from ha)
    have hb:=ZV (P:=P) (w:=w) (isS:=false) (Zk h1 hl) (Zk h2 hh) e0 e1 e2 (Nat.le_refl _)
    refine ⟨.string (s.extract l.toNat r.toNat),?_,.val rfl,rfl,rfl⟩
    simp [Instr.sliceAt,run_underlying hu,Instr.slice,hb]
  ·exact (Z1 ho).elim
 ·rename_i e tk u xs hu
  split at ho
  ·rename_i m l r hs h1 h2
   cases hmu:Nat.beq m (U.size u) with
   |false=>simp [hmu] at ho;exact (Z1 ho).elim
   |true=>
    simp only [hmu,cond_true] at ho
    have hmu':=QH hmu
    subst hmu'
    cases (show R U c _ p from ha) with
    | @isl _ _ _ a' cap b o g hc ht ha' hi hrr=>
     have mk:∀(tk':Tok) (m':Nat),0<=l->l<=r->r<=(xs.length:Int)->r.toNat<=m'->m'<=cap->(tk'= .full->m'=r.toNat)->(∀k,tk'≠ .own k)->
       R U c (.isl tk' u ((xs.take r.toNat).drop l.toNat)) (.slice (if m'=l.toNat then a' else a'.map (·.add (l.toNat*U.size u))) (r.toNat - l.toNat) (m' - l.toNat)):=by
      intro tk' m' e0 e1 e2 e3 e4 e5 e6
      have hlen:((xs.take r.toNat).drop l.toNat).length=r.toNat - l.toNat:=by simp;omega
      rw [←hlen]
      refine R.isl (b:=b) (o:=o+l.toNat*U.size u) (λi k=>g (l.toNat+i) k) (by omega) ?_ (λhpos=>?_) (λi k h3 h4=>?_) (λi k h3 h4=>?_)
      ·cases tk' with
       |none=>trivial
       |full=>simp only [Q5q];rw [e5 rfl,hlen]
       |own k=>exact absurd rfl (e6 k)
      ·rw [hlen] at hpos
       have:=ha' (by omega)
       subst this
       rw [if_neg (by omega)]
       simp [Zq]
      ·rw [hlen] at h3
       have:=hi (l.toNat+i) k (by omega) h4
       rwa [Nat.add_mul,show o+(l.toNat*U.size u+i*U.size u+k)=o+l.toNat*U.size u+(i*U.size u+k) by omega] at this
      ·rw [Z6j h3]
       rw [hlen] at h3
       exact hrr (l.toNat+i) k (by omega) h4
     split at ho
     ·obtain ⟨hr,rfl⟩:=Zb ho
      obtain ⟨e0,e1,e2⟩:=ZK hr
      cases ym with
      |some v=>exact hm.elim
      |none=>
       have hb:=ZV (P:=P) (w:=w) (isS:=true) (Zk h1 hl) (Zk h2 hh) e0 e1 e2 hc
       refine ⟨_,?_,mk .none cap e0 e1 e2 (by omega) (Nat.le_refl _) (λhh=>by cases hh) (λk hh=>by cases hh),rfl,rfl⟩
       simp [Instr.sliceAt,run_underlying hu,Instr.slice,hb,Za hs]
     ·rename_i k cc
      cases hsx:xh.isSome with
      |false=>simp [hsx] at ho;exact (Z1 ho).elim
      |true=>
      simp only [hsx,cond_true] at ho
      obtain ⟨hr,rfl⟩:=Zb ho
      have hr1:le3 l r xs.length=true/\ieq r cc=true:=by
       cases h3:le3 l r xs.length <;> simp [h3] at hr
       exact ⟨rfl,hr⟩
      obtain ⟨e0,e1,e2⟩:=ZK hr1.1
      have e3:r=cc:=by simpa [ieq] using hr1.2
      subst e3
      cases ym with
      |none=>exact hm.elim
      |some v=>
       cases R.int (show R U c _ v from hm _ rfl)
       ·have hsome:yh.isSome:=by
         cases yh with
         |none=>cases xh with
          |none=>cases hsx
          |some a=>exact hh.elim
         |some v=>rfl
        have hb:=Z51 (P:=P) (w:=w) (km:=k) (m:=r) (cap:=cap) (Zk h1 hl) (Zk h2 hh) hsome e0 e1 (Int.le_refl _) (by omega)
        refine ⟨_,?_,mk .full r.toNat e0 e1 e2 (Nat.le_refl _) (by omega) (λ_=>rfl) (λk hh=>by cases hh),rfl,rfl⟩
        simp [Instr.sliceAt,run_underlying hu,Instr.slice,hb,Za hs]
     ·exact (Z1 ho).elim
  ·exact (Z1 ho).elim
 ·rename_i e s i0 n hu
  split at ho
  ·rename_i m l r u nn f hs h1 h2 he
   cases hmu:Nat.beq m (U.size u) with
   |false=>simp [hmu] at ho;exact (Z1 ho).elim
   |true=>
    simp only [hmu,cond_true] at ho
    have hmu':=QH hmu
    subst hmu'
    obtain ⟨hr,rfl⟩:=Zb ho
    obtain ⟨e0,e1,e2⟩:=ZK hr
    have he':get h s=some (.fam true u nn f):=by rw [hag s (.inl (by simp))];exact he
    obtain ⟨A,hA,hA1,_,hct⟩:=(hg.Q1M s _ he').Q6y
    cases ym with
    |some v=>exact hm.elim
    |none=>
     cases (show R U c _ p from ha) with
     | @sl _ _ _ cap b o a' hc ha' hl'=>
      have hb:=ZV (P:=P) (w:=w) (isS:=true) (Zk h1 hl) (Zk h2 hh) e0 e1 e2 hc
      refine ⟨.slice (if cap=l.toNat then a' else a'.map (·.add (l.toNat*U.size u))) (r.toNat - l.toNat) (cap - l.toNat),?_,?_,rfl,rfl⟩
      ·simp [Instr.sliceAt,run_underlying hu,Instr.slice,hb,Za hs]
      ·refine R.sl (b:=b) (o:=o+l.toNat*U.size u) (by omega) (λhpos=>?_) (λj hj=>?_)
       ·obtain ⟨hL,rfl⟩:=ha' (by omega)
        obtain ⟨x,hx⟩:=hl' l.toNat (by omega)
        have hi0:=hA1 _ _ hL
        have hin:=hA1 _ _ hx
        have e4:=hct rfl i0 hi0
        have e5:=hct rfl (i0+l.toNat) hin
        have e6:=hA i0 hi0
        rw [hL] at e6
        simp only [Option.some.injEq] at e6
        refine ⟨?_,?_⟩
        ·rw [hA _ hin,e5]
         rw [←e6] at e4
         simp only [Prod.mk.injEq] at e4
         rw [e4.1,e4.2,Nat.add_mul,Nat.add_assoc]
        ·rw [if_neg (by omega)]
         simp [Zq]
       ·obtain ⟨x,hx⟩:=hl' (l.toNat+j) (by omega)
        exact ⟨x,by rw [Nat.add_assoc];exact hx⟩
  ·exact (Z1 ho).elim
 ·rename_i e s off m' len b0 n hu
  split at ho
  ·rename_i m l r hs h1 h2
   cases hmu:Nat.beq m m' with
   |false=>simp [hmu] at ho;exact (Z1 ho).elim
   |true=>
    simp only [hmu,cond_true] at ho
    have hmu':=QH hmu
    subst hmu'
    obtain ⟨hr,rfl⟩:=Zb ho
    obtain ⟨e0,e1,e2⟩:=ZK hr
    cases ym with
    |some v=>exact hm.elim
    |none=>
     cases (show R U c _ p from ha) with
     | @asl _ _ _ _ _ _ cap b o a' hc hbn hL ha'=>
      have hb:=ZV (P:=P) (w:=w) (isS:=true) (Zk h1 hl) (Zk h2 hh) e0 e1 e2 hc
      refine ⟨.slice (if cap=l.toNat then a' else a'.map (·.add (l.toNat*m))) (r.toNat - l.toNat) (cap - l.toNat),?_,?_,rfl,rfl⟩
      ·simp [Instr.sliceAt,run_underlying hu,Instr.slice,hb,Za hs]
      ·refine R.asl (b:=b) (o:=o) (by omega) (by omega) hL λhpos=>?_
       have:=ha' (by omega)
       subst this
       rw [if_neg (by omega)]
       simp [Zq,Nat.add_mul,Nat.add_assoc]
  ·exact (Z1 ho).elim
 ·rename_i len e s i off hu
  split at ho
  ·rename_i m l r cells hs h1 h2 he
   split at ho
   ·rename_i u len' f hs'
    cases hc3:Nat.beq m (U.size u) && Nat.beq len len' with
    |false=>simp [hc3] at ho;exact (Z1 ho).elim
    |true=>
     simp only [hc3,cond_true] at ho
     obtain ⟨hr,rfl⟩:=Zb ho
     obtain ⟨e0,e1,e2⟩:=ZK hr
     have he':get h s=some (.obj cells):=by rw [hag s (.inl (by simp))];exact he
     obtain ⟨b,o,hL,hp⟩:∃b o,c.L s i=some (b,o)/\p= .pointer (some (at_ b (o+off))):=by
      cases (show R U c _ p from ha) with|ptr h0=>exact ⟨_,_,h0,rfl⟩
     subst hp
     obtain ⟨b',o',h0,h3,_,h4⟩:=(hg.Q1M s _ he').Q7T
     have hi:=h3 _ _ hL
     subst hi
     cases ym with
     |some v=>exact hm.elim
     |none=>
      have hb:=ZV (P:=P) (w:=w) (isS:=false) (Zk h1 hl) (Zk h2 hh) e0 e1 e2 (Nat.le_refl _)
      refine ⟨.slice (some (if len=l.toNat then at_ b (o+off) else (at_ b (o+off)).add (l.toNat*m))) (r.toNat - l.toNat) (len - l.toNat),?_,?_,rfl,rfl⟩
      ·simp [Instr.sliceAt,run_underlying hu,Instr.sureAddr,hb,Za hs]
      ·refine R.asl (b:=b) (o:=o) (by omega) (by omega) hL λhpos=>?_
       rw [if_neg (by omega),Zq]
   ·rename_i s' hs'
    split at ho
    ·rename_i u len' f he2
     cases hc3:Nat.beq m (U.size u) && Nat.beq len len' && Nat.beq i 0 with
     |false=>simp [hc3] at ho;exact (Z1 ho).elim
     |true=>
      simp only [hc3,cond_true] at ho
      obtain ⟨hr,rfl⟩:=Zb ho
      simp only [Bool.and_eq_true] at hc3
      obtain ⟨⟨e3,e4⟩,_⟩:=hc3
      have e3:=QH e3
      have e4:=QH e4
      subst e3;subst e4
      obtain ⟨e0,e1,e2⟩:=ZK hr
      have he':get h s=some (.obj cells):=by rw [hag s (.inl (by simp))];exact he
      have he2':get h s'=some (.fam true u len f):=by rw [hag s' (.inl (by simp))];exact he2
      obtain ⟨b,o,hL,hp⟩:∃b o,c.L s i=some (b,o)/\p= .pointer (some (at_ b (o+off))):=by
       cases (show R U c _ p from ha) with|ptr h0=>exact ⟨_,_,h0,rfl⟩
      subst hp
      obtain ⟨b',o',h0,h3,_,h4⟩:=(hg.Q1M s _ he').Q7T
      have hi:=h3 _ _ hL
      subst hi
      rw [hL] at h0;cases h0
      have hb0:=h4 off s' hs'
      obtain ⟨A,hA,hA1,_,hct⟩:=(hg.Q1M s' _ he2').Q6y
      cases ym with
      |some v=>exact hm.elim
      |none=>
       have hb:=ZV (P:=P) (w:=w) (isS:=false) (Zk h1 hl) (Zk h2 hh) e0 e1 e2 (Nat.le_refl _)
       refine ⟨.slice (some (if len=l.toNat then at_ b (o+off) else (at_ b (o+off)).add (l.toNat*U.size u))) (r.toNat - l.toNat) (len - l.toNat),?_,?_,rfl,rfl⟩
       ·simp [Instr.sliceAt,run_underlying hu,Instr.sureAddr,hb,Za hs]
       ·have hlpos:∀j,l.toNat+j < len->c.L s' (l.toNat+j)=some (b,o+off+(l.toNat+j)*U.size u):=λj hj=>by
         have hz:0 < len:=by omega
         have e7:=hA 0 hz
         rw [hb0] at e7
         simp only [Option.some.injEq] at e7
         have e8:=hct rfl (l.toNat+j) hj
         rw [←e7] at e8
         rw [hA _ hj,e8]
        refine R.sl (b:=b) (o:=o+off+l.toNat*U.size u) (by omega) (λhpos=>⟨?_,?_⟩) (λj hj=>⟨_,hlpos j (by omega)⟩)
        ·have:=hlpos 0 (by omega)
         simpa using this
        ·rw [if_neg (by omega),Zq]
    ·exact (Z1 ho).elim
   ·exact (Z1 ho).elim
  ·exact (Z1 ho).elim
 ·exact (Z1 ho).elim
end Go.Rf
namespace Go.Rf
set_option linter.unusedVariables false
set_option linter.unusedSimpArgs false
variable {U : QV} {P : Program} {c : Cx} {Φ : Nat -> Nat -> Nat -> Prop} {h : Qr U} {nx : Nat} {w : World}
structure Q8P (U:QV) (c:Cx) (ps:List (Nat×List U.S)) (qs:List (Nat×Value)):Prop where
 len:qs.length=ps.length
 at_:∀(k:Nat) i l,ps[k]? =some (i,l)->∃v,qs[k]? =some (i,v)/\RL U c l v.cells.toList
theorem RL.Q1v {l new:List U.S} {vs ns:List Value} {off:Nat} (hl:RL U c l vs) (hn:RL U c new ns):RL U c (Rf.Q1v off new l) (Rf.Q1v off ns vs):=by
 unfold Rf.Q1v
 rw [hn.len]
 exact ((hl.take off).append hn).append (hl.drop _)
theorem Z7g (off:Nat) (v cs:Array Value) (h:off+v.size<=cs.size):
  (v.zipIdx.foldl (λcs (x:Value×Nat)=>cs.setIfInBounds (off+x.2) x.1) cs).toList=Q1v off v.toList cs.toList:=by
 rw [←Array.foldl_toList,Array.toList_zipIdx]
 obtain ⟨h1,h2⟩:=Great.foldl_set off v.toList 0 cs
 apply List.ext_getElem?
 intro k
 rw [Array.getElem?_toList,h2 k]
 by_cases hin:off<=k/\k < off+v.toList.length
 ·obtain ⟨j,rfl⟩:∃j,k=off+j:=⟨k - off,by omega⟩
  rw [if_pos (by simp at hin ⊢;omega),Zw (by simpa using h) (by omega)]
  congr 1;omega
 ·rw [if_neg (by omega),Zp (by simpa using h) (by omega),Array.getElem?_toList]
theorem Z4X {place:Nat->Option (Nat×Nat)}:∀(ps:List (Nat×List U.S)) (qs:List (Nat×Value)) (cells l:List U.S) (cs:Array Value),
  Z3P place cells ps=some l->Q8P U c ps qs->RL U c cells cs.toList->∃r:Array Value,Instr.fill place cs qs=some r/\RL U c l r.toList
 | [],qs,cells,l,cs,hf,hp,hc=>by
  have:qs= []:=by have:=hp.len;simpa using this
  subst this
  simp [Z3P] at hf;subst hf
  exact ⟨cs,rfl,hc⟩
 |(i,x)::ps,qs,cells,l,cs,hf,hp,hc=>by
  cases qs with
  |nil=>have:=hp.len;simp at this
  |cons q qs=>
   obtain ⟨v,hv,hr⟩:=hp.at_ 0 i x rfl
   simp at hv;subst hv
   simp only [Z3P] at hf
   cases hpl:place i with
   |none=>simp [hpl] at hf
   |some os=>
    obtain ⟨off,size⟩:=os
    simp only [hpl] at hf
    cases hb:Nat.beq x.length size && Nat.ble (off+size) cells.length with
    |false=>simp [hb] at hf
    |true=>
     simp only [hb,cond_true] at hf
     simp only [Bool.and_eq_true] at hb
     have e1:=QH hb.1
     have e2:=Nat.le_of_ble_eq_true hb.2
     have e3:v.cells.size=size:=by have:=hr.len;simp at this;omega
     have e4:cs.size=cells.length:=by have:=hc.len;simpa using this
     have hle:off+v.cells.size<=cs.size:=by omega
     have hsp:=Z7g off v.cells cs hle
     obtain ⟨r,hr1,hr2⟩:=Z4X ps qs (Q1v off x cells) l (v.cells.zipIdx.foldl (λcs (x:Value×Nat)=>cs.setIfInBounds (off+x.2) x.1) cs) hf
      ⟨by have:=hp.len;simpa using this,λk i l hk=>by have:=hp.at_ (k+1) i l (by simpa using hk);simpa using this⟩ (by rw [hsp];exact hc.Q1v hr)
     refine ⟨r,?_,hr2⟩
     simp only [Instr.fill,hpl]
     rw [if_neg (by simp [e3];omega)]
     exact hr1
theorem Z44 {ρ:Operand->Option (A U)} {ev:Operand->Value}:∀(ps:List (Nat×Operand)) (l:List (Nat×List U.S)) (hρ:∀p∈ps,∀v,ρ p.2=some v->RA U c v (ev p.2)),
  Z2N (ps.map λp=>(p.1,ρ p.2))=some l->Q8P U c l (ps.map λp=>(p.1,ev p.2))
 | [],l,hρ,h=>by simp [Z2N] at h;subst h;exact ⟨rfl,λk i l hk=>by simp at hk⟩
 |(i,x)::ps,l,hρ,h=>by
  simp only [List.map_cons] at h
  unfold Z2N at h
  split at h
  ·rename_i he;cases he
  ·rename_i i' y r he
   simp only [List.cons.injEq,Prod.mk.injEq] at he
   obtain ⟨⟨rfl,hx⟩,rfl⟩:=he
   split at h
   ·rename_i l' hl'
    cases h
    have ih:=Z44 ps l' (λp hp=>hρ p (List.mem_cons_of_mem _ hp)) hl'
    refine ⟨by simp [ih.len],λk j m hk=>?_⟩
    cases k with
    |zero=>simp at hk;obtain ⟨rfl,rfl⟩:=hk;exact ⟨_,rfl,RV.cells (hρ (i,x) (List.mem_cons_self ..) _ hx)⟩
    |succ k=>simp at hk;have:=ih.at_ k j m hk;simpa using this
   ·cases h
  ·cases h
theorem Z6r:∀(fs:List Field) (pl:List (Nat×Nat)),Q6v P fs=some pl->∀w,(fs.mapM (λf=>do pure (f.offset,←sizeOf f.type)):Sem (List (Nat×Nat))).run P w= .ok pl w
 | [],pl,h,w=>by simp [Q6v] at h;subst h;rfl
 |f::fs,pl,h,w=>by
  unfold Q6v at h
  split at h
  ·rename_i i l hi hl
   cases h
   have hsz:(sizeOf f.type).run P w= .ok i.size w:=Za (by simp [size?,hi]) w
   rw [List.mapM_cons]
   simp only [Sem.run_bind,hsz,Result.andThen_ok,Sem.run_pure]
   rw [Z6r fs l hl w]
   rfl
  ·cases h
theorem Z9p {ρ:Operand->Option (A U)} {ev:Operand->Value} {t:TypeId} {ps:Array (Nat×Operand)} {out:Out U} (ho:(Z6d P t (ps.toList.map λp=>(p.1,ρ p.2))).outs=some out)
  (hρ:∀p∈ps.toList,∀v,ρ p.2=some v->RA U c v (ev p.2)):Q3C U c w P (Instr.build t (ps.map λp=>(p.1,ev p.2))) out:=by
 unfold Z6d at ho
 split at ho
 ·rename_i z parts hz hp
  have hP:=Z44 ps.toList parts hρ hp
  obtain ⟨zv,hzr,hzl⟩:=ZZ (c:=c) hz
  have hqs:(ps.map λp=>(p.1,ev p.2)).toList=ps.toList.map λp=>(p.1,ev p.2):=by simp
  split at ho
  ·rename_i fs hfs
   split at ho
   ·rename_i pl hpl
    split at ho
    ·rename_i l hl
     have:=Zx ho;subst this
     obtain ⟨r,hr1,hr2⟩:=Z4X parts _ z l zv.cells hl hP hzl
     refine ⟨.agg r,?_,⟨r,rfl,hr2⟩,rfl,rfl⟩
     have hm:(fs.mapM (λf=>do pure (f.offset,←sizeOf f.type)):Sem (Array (Nat×Nat))).run P w= .ok pl.toArray w:=by
      rw [Array.mapM_eq_mapM_toList]
      simp only [Sem.run_map,Z6r fs.toList pl hpl w,Result.andThen_ok]
     simp only [Instr.build,Sem.run_bind,hzr,Result.andThen_ok,run_underlying hfs,hm]
     rw [hqs,show (λi=>(pl.toArray)[i]?)=(λi=>pl[i]?) by funext i;simp,hr1]
     rfl
    ·exact (Z1 ho).elim
   ·exact (Z1 ho).elim
  ·rename_i n e hu
   split at ho
   ·rename_i m hm
    split at ho
    ·rename_i l hl
     have:=Zx ho;subst this
     obtain ⟨r,hr1,hr2⟩:=Z4X parts _ z l zv.cells hl hP hzl
     refine ⟨.agg r,?_,⟨r,rfl,hr2⟩,rfl,rfl⟩
     simp only [Instr.build,Sem.run_bind,hzr,Result.andThen_ok,run_underlying hu,Za hm]
     rw [hqs,hr1]
     rfl
    ·exact (Z1 ho).elim
   ·exact (Z1 ho).elim
  ·exact (Z1 ho).elim
 ·exact (Z1 ho).elim
def Cx.Q3Z (c:Cx) (N m:Nat) (g:Nat->Value):Cx:={ c with I:=λb o=>if b=N/\o < m then some (g o) else c.I b o}
theorem Cx.Q7o {N m:Nat} {g:Nat->Value} (hN:∀o,c.I N o=none):c.Le (c.Q3Z N m g) where
 L _ _ _ hx:=hx
 I b o v hx:=by
  simp only [Cx.Q3Z]
  by_cases hb:b=N/\o < m
  ·obtain ⟨rfl,_⟩:=hb;rw [hN] at hx;cases hx
  ·rw [if_neg hb];exact hx
theorem QB.imm (hU:U.Ok) {w':World} {m:Nat} {g:Nat->Value} {v:A U} {u:Value} {rd:List Nat} (hg:G U c Φ h w) (hfr:Fr (λ_ _=>False) w w')
  (hc:∀o,o < m->w'.cell? (at_ w.heap.size o)=some (g o)) (hv:RA U (c.Q3Z w.heap.size m g) v u):
  QB U c Φ h nx { v:=v,rd:=rd} w (c.Q3Z w.heap.size m g) Φ u w':=by
 have hN:∀o,c.I w.heap.size o=none:=λo=>by
  cases hI:c.I w.heap.size o with
  |none=>rfl
  |some v=>exact absurd (hg.Q78 hI) (Nat.lt_irrefl _)
 have hle:c.Le (c.Q3Z w.heap.size m g):=Cx.Q7o hN
 refine ⟨hle,λ_ _ _ _=>rfl,hv,⟨λs e he=>?_,λs s' b o h1 h2 h3 h4 h5=>hg.apart s s' b o h1 (by simpa using h2) (by simpa using h3) h4 h5,λb o v hI=>?_,λs b o hs hf=>?_⟩,
  hfr.mono (λ_ _ _ hf=>hf.elim),λ_ _=>rfl,λs b o hs=>by simp at hs,λs hs=>by simp at hs,λb o v hI=>by
   simp only [Cx.Q3Z] at hI
   by_cases hb:b=w.heap.size/\o < m
   ·exact .inr (.inl (by omega))
   ·rw [if_neg hb] at hI;exact .inl hI⟩
 ·exact (hg.Q1M s e (by simpa using he)).stays hU hle (λ_=>rfl) (hfr.agr (λb o hf=>hg.lt hU (t:=s) (by simp at he;simp [he]) hf) λ_ _ _ h=>h)
 ·simp only [Cx.Q3Z] at hI
  by_cases hb:b=w.heap.size/\o < m
  ·rw [if_pos hb] at hI
   obtain ⟨rfl,ho⟩:=hb
   cases hI
   exact hc o ho
  ·rw [if_neg hb] at hI
   exact (hfr.cell b o (hg.Q78 hI) (λhf=>hf)).trans (hg.imm b o v hI)
 ·have hlt:=hg.lt hU (t:=s) (by simpa using hs) hf
  simp only [Cx.Q3Z]
  rw [if_neg (λhb=>by rw [hb.1] at hlt;exact Nat.lt_irrefl _ hlt)]
  exact hg.Q15 s b o (by simpa using hs) hf
theorem Z6w (hU:U.Ok) {u:U.C}:∀(n:Nat) (l:List U.S) (xs:List (U.D u)) (vs:List Value),Z1E u n l=some xs->RL U c l vs->
  xs.length=n/\vs.length=n*U.size u/\∀i k,i < n->k < U.size u->∃v,vs[i*U.size u+k]? =some v/\R U c ((U.enc u (xs.getD i (U.dft u))).getD k .hole) v
 |0,l,xs,vs,hd,hl=>by
  unfold Z1E at hd
  cases l with
  |nil=>simp at hd;subst hd;cases hl.Q88;exact ⟨rfl,by simp,λi k hi=>by omega⟩
  |cons x l=>cases hd
 |n+1,l,xs,vs,hd,hl=>by
  unfold Z1E at hd
  split at hd
  ·rename_i x r hx hr
   cases hd
   have h1:=hU.Q4M u _ x hx c _ (hl.take (U.size u))
   obtain ⟨h2,h3,h4⟩:=Z6w hU n _ r _ hr (hl.drop (U.size u))
   have hlen1:(vs.take (U.size u)).length=U.size u:=by rw [h1.len,hU.QD]
   have hge:U.size u<=vs.length:=by simp at hlen1;omega
   refine ⟨by simp [h2],?_,λi k hi hk=>?_⟩
   ·simp at h3;rw [Nat.succ_mul];omega
   ·cases i with
    |zero=>
     have hlt:k < (U.enc u x).length:=by rw [hU.QD];exact hk
     obtain ⟨v,hv,hr⟩:=h1.at_ k _ (List.getElem?_eq_getElem hlt)
     rw [List.getElem?_take,if_pos hk] at hv
     refine ⟨v,by simpa using hv,?_⟩
     simp only [List.getD_cons_zero]
     rw [getD_of_getElem? (List.getElem?_eq_getElem hlt)]
     exact hr
    |succ i=>
     obtain ⟨v,hv,hr⟩:=h4 i k (by omega) hk
     rw [List.getElem?_drop] at hv
     refine ⟨v,?_,by simpa using hr⟩
     rw [Nat.succ_mul,show i*U.size u+U.size u+k=U.size u+(i*U.size u+k) by omega]
     exact hv
  ·cases hd
theorem Z6H (z:Array Value) (n:Nat) (hz:0 < z.size):((Array.range (n*z.size)).map (z[· % z.size]!)).toList=(List.replicate n z.toList).flatten:=by
 rw [Array.toList_map,Array.toList_range]
 induction n with
 |zero=>simp
 |succ n ih=>
  rw [Nat.succ_mul,List.range_add,List.map_append,ih,List.replicate_succ',List.flatten_append]
  congr 1
  simp only [List.map_map,List.flatten_cons,List.flatten_nil,List.append_nil]
  apply List.ext_getElem?
  intro k
  by_cases hk:k < z.size
  ·rw [List.getElem?_map,List.getElem?_range hk]
   simp only [Option.map_some,Function.comp]
   rw [Nat.add_comm,Nat.add_mul_mod_self_right,Nat.mod_eq_of_lt hk]
   simp [hk]
  ·rw [List.getElem?_eq_none (by simp;omega),List.getElem?_eq_none (by simp;omega)]
theorem RL.replicate {l:List U.S} {vs:List Value} (hl:RL U c l vs) (n:Nat):RL U c (List.replicate n l).flatten (List.replicate n vs).flatten:=by
 induction n with
 |zero=>exact .nil
 |succ n ih=>rw [List.replicate_succ,List.replicate_succ,List.flatten_cons,List.flatten_cons];exact hl.append ih
theorem Z1R (hU:U.Ok) {ρ:Operand->Option (A U)} {ev:Operand->Value} {t:TypeId} {n:Nat} {ps:Array (Nat×Operand)} {out:Out U}
  (ho:(ZX P t n (ps.toList.map λp=>(p.1,ρ p.2))).outs=some out) (hg:G U c Φ h w) (hρ:∀p∈ps.toList,∀v,ρ p.2=some v->RA U c v (ev p.2)):
  ∃u w' c' Φ',(Instr.buildSlice t n (ps.map λp=>(p.1,ev p.2))).run P w= .ok u w'/\QB U c Φ h nx out w c' Φ' u w':=by
 unfold ZX at ho
 split at ho
 ·rename_i e hu
  split at ho
  ·rename_i u z parts hue hz hp
   split at ho
   ·rename_i m hm
    cases hb:Nat.beq m (U.size u) && Nat.ble 1 m && Nat.beq z.length m && Nat.ble (n*m) 16777216 with
    |false=>simp [hb] at ho;exact (Z1 ho).elim
    |true=>
     simp only [hb,cond_true] at ho
     simp only [Bool.and_eq_true] at hb
     obtain ⟨⟨⟨e1,e2⟩,e3⟩,e4⟩:=hb
     have e1:=QH e1
     have e2:=Nat.le_of_ble_eq_true e2
     have e3:=QH e3
     have e4:=Nat.le_of_ble_eq_true e4
     split at ho
     ·rename_i l hl
      split at ho
      ·rename_i xs hxs
       have:=Zx ho;subst this
       have hP:=Z44 ps.toList parts hρ hp
       obtain ⟨zv,hzr,hzl⟩:=ZZ (c:=c) hz
       have hzs:zv.cells.size=m:=by have:=hzl.len;simp at this;omega
       have hcells:RL U c (List.replicate n z).flatten ((Array.range (n*m)).map (zv.cells[· % zv.cells.size]!)).toList:=by
        rw [show n*m=n*zv.cells.size by rw [hzs],Z6H zv.cells n (by omega)]
        exact hzl.replicate n
       obtain ⟨r,hr1,hr2⟩:=Z4X parts _ _ l ((Array.range (n*m)).map (zv.cells[· % zv.cells.size]!)) hl hP hcells
       obtain ⟨hx1,hx2,hx3⟩:=Z6w hU n l xs r.toList hxs hr2
       have hqs:(ps.map λp=>(p.1,ev p.2)).toList=ps.toList.map λp=>(p.1,ev p.2):=by simp
       obtain ⟨ie,hie,hiz⟩:∃ie,P.info? e=some ie/\ie.zero=some zv:=by
        unfold zeroCells at hz
        split at hz
        ·rename_i i hi
         split at hz
         ·rename_i z' hz'
          have:=Z18 (P:=P) hi hz' w
          rw [hzr w] at this
          cases this
          exact ⟨i,hi,hz'⟩
         ·cases hz
        ·cases hz
       have hies:ie.size=m:=by unfold size? at hm;rw [hie] at hm;simpa using hm
       by_cases hn:n=0
       ·subst hn
        refine ⟨.slice (some (at_ w.heap.size 0)) 0 0,w.alloc (.cells r e),c.Q3Z w.heap.size 0 (λ_=>undef),Φ,?_,QB.imm hU hg (Fr.alloc _ _ _) (λo ho=>by omega) ?_⟩
        ·have hz0:∀f:Nat->Value,(Array.range (0*m)).map f= #[]:=λf=>by rw [Nat.zero_mul];apply Array.ext';rw [Array.toList_map,Array.toList_range];rfl
         rw [hz0] at hr1
         have hsz:(sizeOf e).run P w= .ok m w:=Za hm w
         unfold Instr.buildSlice
         simp only [Sem.run_bind,run_underlying hu,Result.andThen_ok,hsz]
         rw [if_neg (by omega),if_pos (by omega)]
         simp only [Sem.run_pure,Result.andThen_ok,hz0,hqs,hr1]
         rfl
        ·have hx0:xs= []:=by simpa using hx1
         subst hx0
         exact R.isl (b:=w.heap.size) (o:=0) (λ_ _=>undef) (Nat.le_refl _) rfl (λhh=>by simp at hh) (λi k hi=>by simp at hi) (λi k hi=>by simp at hi)
       ·have hpos:¬n*ie.size=0:=by rw [hies];intro hh;rcases Nat.mul_eq_zero.1 hh with h'|h' <;> omega
        have hrun:=run_buildSlice (P:=P) w t e n (ps.map λp=>(p.1,ev p.2)) r ie zv hu hie hiz (by rw [hies];omega) hpos (by rw [hqs,hies];exact hr1)
        let g:Nat->Value:=λo=>r.toList.getD o undef
        have hcell:∀o,o < n*m->(w.alloc (.cells r e)).cell? (at_ w.heap.size o)=some (g o):=λo ho=>by
         have hlt:o < r.toList.length:=by rw [hx2,←e1];exact ho
         rw [World.cell?_alloc_new]
         simp only [g,List.getD,List.getElem?_eq_getElem hlt,Option.getD_some]
         simp
        refine ⟨_,_,c.Q3Z w.heap.size (n*m) g,Φ,hrun,QB.imm hU hg (Fr.alloc _ _ _) hcell ?_⟩
        have hle:c.Le (c.Q3Z w.heap.size (n*m) g):=Cx.Q7o λo=>by
         cases hI:c.I w.heap.size o with
         |none=>rfl
         |some v=>exact absurd (hg.Q78 hI) (Nat.lt_irrefl _)
        show R U _ (.isl .full u xs) (.slice (some (at_ w.heap.size 0)) n n)
        have hmain:R U (c.Q3Z w.heap.size (n*m) g) (.isl .full u xs) (.slice (some (at_ w.heap.size 0)) xs.length n):=by
         refine R.isl (b:=w.heap.size) (o:=0) (λi k=>g (i*U.size u+k)) (by omega) hx1.symm (λ_=>rfl) (λi k hi hk=>?_) (λi k hi hk=>?_)
         ·rw [hx1] at hi
          have hb:i*U.size u+k < n*m:=by
           rw [e1]
           calc i*U.size u+k < i*U.size u+U.size u:=by omega
            _=(i+1)*U.size u:=by rw [Nat.succ_mul]
            _<=n*U.size u:=Nat.mul_le_mul_right _ (by omega)
          simp only [Cx.Q3Z,Nat.zero_add,true_and]
          rw [if_pos hb]
         ·rw [hx1] at hi
          obtain ⟨v,hv,hr⟩:=hx3 i k hi hk
          have:g (i*U.size u+k)=v:=by simp only [g];rw [getD_of_getElem? hv]
          rw [this]
          exact hr.mono hle
        rwa [hx1] at hmain
      ·exact (Z1 ho).elim
     ·exact (Z1 ho).elim
   ·exact (Z1 ho).elim
  ·exact (Z1 ho).elim
 ·exact (Z1 ho).elim
end Go.Rf
namespace Go.Rf
set_option linter.unusedVariables false
set_option linter.unusedSimpArgs false
variable {U : QV} {P : Program} {c : Cx} {Φ : Nat -> Nat -> Nat -> Prop} {h : Qr U} {nx : Nat} {w : World}
def Cx.freeze (c:Cx) (w:World) (b o n:Nat):Cx:={ L:=c.L,I:=λb' o'=>if b'=b/\o<=o'/\o' < o+n then w.cell? (at_ b o') else c.I b' o'}
theorem Z8R (hU:U.Ok) {s:Nat} {cells:List U.S} {v:U.C} {x:U.D v} {rd:List Nat} (hg:G U c Φ h w) (hk:get h s=some (.obj cells)) (hall:cells.all Ze=true) (hx:U.dec v cells=some x) {b o:Nat} (hL:c.L s 0=some (b,o)):
  ∃c' Φ',QB U c Φ h nx { v:=Rf.sc (.Q37 v (some x)),rd:=rd,w:= [(s,.dead)]} w c' Φ' (.pointer (some (at_ b o))) w/\c'.L=c.L:=by
 obtain ⟨b1,o1,h1,h2,h3,h4⟩:=(hg.Q1M s _ hk).Q7T
 rw [hL] at h1;cases h1
 rw [List.all_eq_true] at hall
 have hsome:(get h s).isSome:=by rw [hk];rfl
 have hcell:∀k,k < cells.length->∃u,w.cell? (at_ b (o+k))=some u/\R U c (cells.getD k .hole) u/\Φ s b (o+k):=λk hk'=>by
  obtain ⟨⟨u,h6,h7⟩,_,h8⟩:=h3 k cells[k] (List.getElem?_eq_getElem hk') (hall _ (List.getElem_mem hk'))
  exact ⟨u,h6,by simpa [List.getD,hk'] using h7,h8⟩
 have hin:∀o',o<=o'->o' < o+cells.length->∃u,w.cell? (at_ b o')=some u/\Φ s b o':=λo' ha hb=>by
  obtain ⟨u,h6,_,h8⟩:=hcell (o' - o) (by omega)
  rw [show o+(o' - o)=o' by omega] at h6 h8
  exact ⟨u,h6,h8⟩
 have hle:c.Le (c.freeze w b o cells.length):=⟨λ_ _ _ h=>h,λb' o' u hI=>by
  show (if _ then _ else _)=_
  by_cases hc:b'=b/\o<=o'/\o' < o+cells.length
  ·obtain ⟨rfl,ha,hb⟩:=hc
   obtain ⟨_,_,h8⟩:=hin o' ha hb
   have:=hg.Q15 s _ _ hsome h8
   rw [this] at hI;cases hI
  ·rw [if_neg hc];exact hI⟩
 obtain ⟨g,hgc⟩:∃g:Nat->Value,∀k,k < cells.length->w.cell? (at_ b (o+k))=some (g k)/\R U c (cells.getD k .hole) (g k):=
  ⟨λk=>if hk:k < cells.length then (hcell k hk).choose else undef,λk hk=>by
   simp only [dif_pos hk]
   have h6:=(hcell k hk).choose_spec
   exact ⟨h6.1,h6.2.1⟩⟩
 have hRL:RL U c cells ((List.range cells.length).map g):=⟨by simp,λk y hk'=>by
  have hlt:=(List.getElem?_eq_some_iff.1 hk').1
  have h7:=(hgc k hlt).2
  rw [getD_of_getElem? hk'] at h7
  exact ⟨g k,by simp [hlt],h7⟩⟩
 have hRL':=hU.Q4M v cells x hx c _ hRL
 have hlen:U.size v=cells.length:=by rw [←hU.QD v x,←hRL'.len];simp
 refine ⟨c.freeze w b o cells.length,fup Φ s (λ_ _=>False),⟨hle,λ_ _ _ _=>rfl,?_,?_,.refl _ _,?_,?_,?_,?_⟩,rfl⟩
 ·refine R.Q56 g (λk hk'=>?_) λk hk'=>?_
  ·rw [hlen] at hk'
   show (if _ then _ else _)=_
   rw [if_pos ⟨rfl,by omega,by omega⟩,(hgc k hk').1]
  ·have hk2:k < (U.enc v x).length:=by rw [hU.QD];exact hk'
   obtain ⟨u,h6,h7⟩:=hRL'.at_ k _ (List.getElem?_eq_getElem hk2)
   rw [hlen] at hk'
   have:u=g k:=by simpa [hk'] using h6.symm
   subst this
   rw [getD_of_getElem? (List.getElem?_eq_getElem hk2)]
   exact h7.mono hle
 ·refine G.put hU hg hle (λ_ _ _=>rfl) (λ_ _ hf=>hf) (λ_ _ _=>Agr.refl _ _) (λ_ _ _ _ _ _ hf=>hf) (λb' o' u hI=>?_) (λt b' o' ht h1 hf=>?_) (λ_ _ hf=>hf.elim)
  ·have hI:(if b'=b/\o<=o'/\o' < o+cells.length then w.cell? (at_ b o') else c.I b' o')=some u:=hI
   split at hI
   ·rename_i hc;rw [hc.1];exact hI
   ·exact hg.imm _ _ _ hI
  ·show (if _ then _ else _)=_
   split
   ·rename_i hc
    obtain ⟨rfl,ha,hb⟩:=hc
    obtain ⟨_,_,h8⟩:=hin o' ha hb
    exact absurd h8 (hg.apart t s _ _ ht h1 hsome hf)
   ·exact hg.Q15 t _ _ h1 hf
 ·intro t ht
  have:t≠s:=λe=>ht (by simp [e])
  simp [fup,this]
 ·intro t b' o' ht hf
  have:t=s:=by simpa using ht
  subst this
  simp [fup] at hf
 ·intro t ht
  have:t=s:=by simpa using ht
  subst this
  exact .inr hsome
 ·intro b' o' u hI
  have hI:(if b'=b/\o<=o'/\o' < o+cells.length then w.cell? (at_ b o') else c.I b' o')=some u:=hI
  split at hI
  ·rename_i hc
   obtain ⟨rfl,ha,hb⟩:=hc
   obtain ⟨_,_,h8⟩:=hin o' ha hb
   exact .inr (.inr ⟨s,by simp,hsome,h8⟩)
  ·exact .inl hI
theorem QB.after {c1 c':Cx} {Φ1 Φ':Nat->Nat->Nat->Prop} {w':World} {v v1:A U} {rd rd1 rd2:List Nat} {p u:Value} {s:Nat} {e:Ent U} (h1:QB U c Φ h nx { v:=v1,rd:=rd1,w:= [(s,e)]} w c1 Φ1 p w)
  (h2:QB U c1 Φ1 ((s,e)::h) nx { v:=v,rd:=rd2} w c' Φ' u w'):QB U c Φ h nx { v:=v,rd:=rd,w:= [(s,e)]} w c' Φ' u w' where
 le:=h1.le.trans h2.le
 L t i ht hf:=(h2.L t i (λhh=>by simp at hh;omega) (λhh=>by simp at hh)).trans (h1.L t i (λhh=>by simp at hh;omega) hf)
 val:=h2.val
 g:=h2.g
 fr:=h2.fr.mono λb o _ ⟨t,ht,_⟩=>by simp at ht
 Q2p t ht:=(h2.Q2p t (by simp)).trans (h1.Q2p t ht)
 Q2g t b o ht hf:=h1.Q2g t b o ht (by rw [←h2.Q2p t (by simp)];exact hf)
 names:=h1.names
 Q32 b o v hI:=by
  rcases h2.Q32 b o v hI with h3|h3|⟨t,ht,_⟩
  ·exact h1.Q32 b o v h3
  ·exact .inr (.inl h3)
  ·simp at ht
theorem QaV {s:Nat} {r:OpR U} {out:Out U} (h:(r.frz s).outs=some out):∃o,r.outs=some o/\out={ v:=o.v,rd:= [s],w:= [(s,.dead)]}:=by
 cases r with
 |ok o=>cases h;exact ⟨o,rfl,rfl⟩
 |_=>cases h
theorem Qar {s:Nat} {b:Bool} {e:Ent U} {r:OpR U} {out:Out U} (h:(r.frzE s b e).outs=some out):∃o,r.outs=some o/\b=true/\out={ v:=o.v,rd:= [s],w:= [(s,e)]}:=by
 cases r with
 |ok o=>
  obtain ⟨hb,rfl⟩:=Zb (show (OpR.chk b { v:=o.v,rd:= [s],w:= [(s,e)]}).outs=some out from h)
  exact ⟨o,rfl,hb,rfl⟩
 |_=>cases h
theorem Z8w (hU:U.Ok) {s n z:Nat} {v:U.C} {f:Nat->U.D v} {rd:List Nat} (hg:G U c Φ h w) (hk:get h s=some (.Q30 v n z f)) {b o:Nat} (hL:c.L s z=some (b,o)):
  ∃c' Φ',QB U c Φ h nx { v:=Rf.sc (.Q37 v (some (f z))),rd:=rd,w:= [(s,.Q30 v n (z+1) f)]} w c' Φ' (.pointer (some (at_ b o))) w:=by
 obtain ⟨A,h0,h1,h2,h3,h4,h5,h6⟩:=hg.Q1M s _ hk
 have hzn:=h1 _ _ hL
 have hA:=h0 z hzn
 rw [hL] at hA
 simp only [Option.some.injEq] at hA
 have hsome:(get h s).isSome:=by rw [hk];rfl
 have hel:=hU.QD v (f z)
 have hcell:∀k,k < U.size v->∃u,w.cell? (at_ b (o+k))=some u/\R U c ((U.enc v (f z)).getD k .hole) u/\Φ s b (o+k):=λk hk'=>by
  have hlt:k < (U.enc v (f z)).length:=by rw [hel];exact hk'
  obtain ⟨u,p1,p2,_⟩:=h5 z k _ hzn (Nat.le_refl _) (List.getElem?_eq_getElem hlt)
  rw [←hA] at p1
  exact ⟨u,p1,by rw [getD_of_getElem? (List.getElem?_eq_getElem hlt)];exact p2,(h6 _ _).2 ⟨z,k,hzn,Nat.le_refl _,hk',by rw [←hA],by rw [←hA]⟩⟩
 have hin:∀o',o<=o'->o' < o+U.size v->∃u,w.cell? (at_ b o')=some u/\Φ s b o':=λo' ha hb=>by
  obtain ⟨u,p1,_,p3⟩:=hcell (o' - o) (by omega)
  rw [show o+(o' - o)=o' by omega] at p1 p3
  exact ⟨u,p1,p3⟩
 have hle:c.Le (c.freeze w b o (U.size v)):=⟨λ_ _ _ h=>h,λb' o' u hI=>by
  show (if _ then _ else _)=_
  by_cases hc:b'=b/\o<=o'/\o' < o+U.size v
  ·obtain ⟨rfl,ha,hb⟩:=hc
   obtain ⟨_,_,h8⟩:=hin o' ha hb
   have:=hg.Q15 s _ _ hsome h8
   rw [this] at hI;cases hI
  ·rw [if_neg hc];exact hI⟩
 let F':Nat->Nat->Prop:=λb' o'=>∃i k,i < n/\z+1<=i/\k < U.size v/\b'=(A i).1/\o'=(A i).2+k
 have hF':∀b' o',F' b' o'->Φ s b' o':=λb' o' ⟨i,k,p1,p2,p3,p4,p5⟩=>(h6 _ _).2 ⟨i,k,p1,by omega,p3,p4,p5⟩
 have hout:∀b' o',F' b' o'->¬(b'=b/\o<=o'/\o' < o+U.size v):=λb' o' ⟨i,k,p1,p2,p3,p4,p5⟩ ⟨q1,q2,q3⟩=>by
  have e1:=h2 z hzn
  have e2:=h2 i p1
  rw [←hA] at e1
  simp only [Prod.mk.injEq] at e1
  rw [e2] at p5
  simp only at p5
  have:(z+1)*U.size v<=i*U.size v:=Nat.mul_le_mul_right _ p2
  rw [Nat.succ_mul] at this
  omega
 refine ⟨c.freeze w b o (U.size v),fup Φ s F',⟨hle,λ_ _ _ _=>rfl,?_,?_,.refl _ _,?_,?_,?_,?_⟩⟩
 ·refine R.Q56 (λk=>if hk:k < U.size v then (hcell k hk).choose else undef) (λk hk'=>?_) λk hk'=>?_
  ·show (if _ then _ else _)=_
   rw [if_pos ⟨rfl,by omega,by omega⟩]
   simp only [dif_pos hk']
   exact (hcell k hk').choose_spec.1
  ·simp only [dif_pos hk']
   exact (hcell k hk').choose_spec.2.1.mono hle
 ·have hE:Q1s (c.freeze w b o (U.size v)) w s F' (.Q30 v n (z+1) f:Ent U):=by
   refine ⟨A,h0,h1,h2,h3,λi k x hi hz hx=>?_,λi k x hi hz hx=>?_,λ_ _=>Iff.rfl⟩
   ·by_cases e:i=z
    ·subst e
     have hk':k < U.size v:=by rw [←hel];exact (List.getElem?_eq_some_iff.1 hx).1
     obtain ⟨u,p1,p2,_⟩:=hcell k hk'
     rw [getD_of_getElem? hx] at p2
     refine ⟨u,?_,p2.mono hle⟩
     rw [←hA]
     show (if _ then _ else _)=_
     rw [if_pos ⟨rfl,by simp only;omega,by simp only;omega⟩]
     exact p1
    ·obtain ⟨u,p1,p2⟩:=h4 i k x hi (by omega) hx
     exact ⟨u,hle.I _ _ _ p1,p2.mono hle⟩
   ·obtain ⟨u,p1,p2,p3⟩:=h5 i k x hi (by omega) hx
    exact ⟨u,p1,p2.mono hle,p3⟩
  refine G.put hU hg hle (λ_ _ _=>rfl) hE (λ_ _ _=>Agr.refl _ _) (λt b' o' ht h1 hf hF=>hg.apart t s b' o' ht h1 hsome hf (hF' _ _ hF)) (λb' o' u hI=>?_) (λt b' o' ht h1 hf=>?_) (λb' o' hF=>?_)
  ·have hI:(if b'=b/\o<=o'/\o' < o+U.size v then w.cell? (at_ b o') else c.I b' o')=some u:=hI
   split at hI
   ·rename_i hc;rw [hc.1];exact hI
   ·exact hg.imm _ _ _ hI
  ·show (if _ then _ else _)=_
   split
   ·rename_i hc
    obtain ⟨rfl,ha,hb⟩:=hc
    obtain ⟨_,_,h8⟩:=hin o' ha hb
    exact absurd h8 (hg.apart t s _ _ ht h1 hsome hf)
   ·exact hg.Q15 t _ _ h1 hf
  ·show (if _ then _ else _)=_
   rw [if_neg (hout _ _ hF)]
   exact hg.Q15 s _ _ hsome (hF' _ _ hF)
 ·intro t ht
  have:t≠s:=λe=>ht (by simp [e])
  simp [fup,this]
 ·intro t b' o' ht hf
  have:t=s:=by simpa using ht
  subst this
  simp [fup] at hf
  exact .inr ⟨t,by simp,hsome,hF' _ _ hf⟩
 ·intro t ht
  have:t=s:=by simpa using ht
  subst this
  exact .inr hsome
 ·intro b' o' u hI
  have hI:(if b'=b/\o<=o'/\o' < o+U.size v then w.cell? (at_ b o') else c.I b' o')=some u:=hI
  split at hI
  ·rename_i hc
   obtain ⟨rfl,ha,hb⟩:=hc
   obtain ⟨_,_,h8⟩:=hin o' ha hb
   exact .inr (.inr ⟨s,by simp,hsome,h8⟩)
  ·exact .inl hI
theorem Z3B {t:TypeId} {n:Nat} {parts:List (Nat×Option (A U))} {out:Out U} (h:(ZX P t n parts).outs=some out):out={ v:=out.v}:=by
 unfold ZX at h
 split at h
 ·split at h
  ·split at h
   ·simp only [Bool.cond_eq_ite] at h
    split at h
    ·split at h
     ·split at h
      ·cases h;rfl
      ·exact (Z1 h).elim
     ·exact (Z1 h).elim
    ·exact (Z1 h).elim
   ·exact (Z1 h).elim
  ·exact (Z1 h).elim
 ·exact (Z1 h).elim
theorem Z66 (hU:U.Ok) {h':Qr U} {ρ:Operand->Option (A U)} {ev:Operand->Value} {t:TypeId} {n:Nat} {ps:Array (Nat×Operand)} {out:Out U}
  (ho:(Z2z P t n (ps.toList.map λp=>(p.1,ρ p.2)) h').outs=some out) (hag:∀s,s∈out.rd\/s∈out.w.map (·.1)->get h s=get h' s) (hg:G U c Φ h w) (hρ:∀p∈ps.toList,∀v,ρ p.2=some v->RA U c v (ev p.2)):
  ∃u w' c' Φ',(Instr.buildSlice t n (ps.map λp=>(p.1,ev p.2))).run P w= .ok u w'/\QB U c Φ h nx out w c' Φ' u w':=by
 unfold Z2z at ho
 split at ho
 ·rename_i i a hps
  split at ho
  ·rename_i a' s bz ez hfz
   obtain ⟨o,ho1,hbz,rfl⟩:=Qar ho
   have hout:=Z3B ho1
   obtain ⟨p,hp,hpi,hpa⟩:∃p,ps= #[p]/\p.1=i/\ρ p.2=some a:=by
    cases hl:ps.toList with
    |nil=>rw [hl] at hps;cases hps
    |cons p r=>
     rw [hl] at hps
     cases r with
     |nil=>
      simp at hps
      exact ⟨p,by rw [←Array.toArray_toList (xs:=ps),hl],hps.1,hps.2⟩
     |cons q r=>simp at hps
   subst hp
   have hra:=hρ p (by simp) a hpa
   unfold Z88 at hfz
   split at hfz
   ·split at hfz
    ·split at hfz
     ·rename_i v s1 i1 off hv
      split at hfz
      ·rename_i v' nn z f hk'
       split at hfz
       ·rename_i q _
        subst q
        cases hoff:Nat.beq off 0 with
        |false=>rw [hoff] at hfz;cases hfz
        |true=>
         rw [hoff] at hfz
         simp only [cond_true,Option.some.injEq,Prod.mk.injEq] at hfz
         obtain ⟨rfl,rfl,rfl,rfl⟩:=hfz
         have hoff:=QH hoff
         subst hoff
         have hiz:=QH hbz
         subst hiz
         have hk:get h s1=some (.Q30 v' nn i1 f):=by rw [hag s1 (.inl (by simp))];exact hk'
         obtain ⟨b,o',hL,hpv⟩:∃b o',c.L s1 i1=some (b,o')/\ev p.2= .pointer (some (at_ b (o'+0))):=by
          have hra':R U c (.ptr s1 i1 0) (ev p.2):=hra
          generalize hq:ev p.2=pv at hra'
          cases hra' with|ptr h0=>exact ⟨_,_,h0,rfl⟩
         obtain ⟨c1,Φ1,hS⟩:=Z8w (nx:=nx) (rd:= []) hU hg hk hL
         obtain ⟨u,w',c',Φ',hrun,hS2⟩:=Z1R (P:=P) (nx:=nx) (ρ:=λ_=>some (Rf.sc (.Q37 v' (some (f i1))))) (ev:=ev) (t:=t) (n:=n) (ps:= #[p]) (out:=o) hU (by rw [←hpi] at ho1;exact ho1) hS.g (λq hq y hy=>by
          have:q=p:=by simpa using hq
          subst this
          cases hy
          show R U c1 (.Q37 v' (some (f i1))) (ev q.2)
          rw [hpv]
          exact hS.val)
         rw [hout] at hS2
         exact ⟨u,w',c',Φ',hrun,hS.after hS2⟩
       ·cases hfz
      ·cases hfz
     ·cases hfz
    ·cases hfz
   ·cases hfz
  rename_i hz0
  clear hz0
  split at ho
  ·rename_i a' s hfz
   obtain ⟨o,ho1,rfl⟩:=QaV ho
   have hout:=Z3B ho1
   obtain ⟨p,hp,hpi,hpa⟩:∃p,ps= #[p]/\p.1=i/\ρ p.2=some a:=by
    cases hl:ps.toList with
    |nil=>rw [hl] at hps;cases hps
    |cons p r=>
     rw [hl] at hps
     cases r with
     |nil=>
      simp at hps
      exact ⟨p,by rw [←Array.toArray_toList (xs:=ps),hl],hps.1,hps.2⟩
     |cons q r=>simp at hps
   subst hp
   have hra:=hρ p (by simp) a hpa
   unfold Z82 at hfz
   split at hfz
   ·split at hfz
    ·split at hfz
     ·rename_i v s1 hv
      split at hfz
      ·rename_i cells hk'
       cases hall:cells.all Ze with
       |false=>simp [hall] at hfz
       |true=>
        simp only [hall,cond_true] at hfz
        split at hfz
        ·rename_i x hx
         simp only [Option.some.injEq,Prod.mk.injEq] at hfz
         obtain ⟨rfl,rfl⟩:=hfz
         have hk:get h s1=some (.obj cells):=by rw [hag s1 (.inl (by simp))];exact hk'
         obtain ⟨b,o',hL,hpv⟩:∃b o',c.L s1 0=some (b,o')/\ev p.2= .pointer (some (at_ b (o'+0))):=by
          have hra':R U c (.ptr s1 0 0) (ev p.2):=hra
          generalize hq:ev p.2=pv at hra'
          cases hra' with|ptr h0=>exact ⟨_,_,h0,rfl⟩
         obtain ⟨c1,Φ1,hS,_⟩:=Z8R (nx:=nx) (rd:= []) hU hg hk hall hx hL
         obtain ⟨u,w',c',Φ',hrun,hS2⟩:=Z1R (P:=P) (nx:=nx) (ρ:=λ_=>some (Rf.sc (.Q37 v (some x)))) (ev:=ev) (t:=t) (n:=n) (ps:= #[p]) (out:=o) hU (by rw [←hpi] at ho1;exact ho1) hS.g (λq hq y hy=>by
          have:q=p:=by simpa using hq
          subst this
          cases hy
          show R U c1 (.Q37 v (some x)) (ev q.2)
          rw [hpv]
          exact hS.val)
         rw [hout] at hS2
         exact ⟨u,w',c',Φ',hrun,hS.after hS2⟩
        ·cases hfz
      ·cases hfz
     ·cases hfz
    ·cases hfz
   ·cases hfz
  ·exact Z1R hU ho hg hρ
 ·exact Z1R hU ho hg hρ
end Go.Rf
namespace Go.Rf
set_option linter.unusedVariables false
set_option linter.unusedSimpArgs false
variable {U : QV} {P : Program} {c : Cx} {Φ : Nat -> Nat -> Nat -> Prop} {h : Qr U} {nx : Nat} {w : World}
theorem Z98 {f:Nat->Value->Prop} {g:Nat->Nat->Value->Prop} {n sz:Nat} (h:∀i k,i < n->k < sz->∃v,f (i*sz+k) v/\g i k v):
  ∃vs:List Value,vs.length=n*sz/\(∀(j:Nat) v,vs[j]? =some v->f j v)/\∀i k,i < n->k < sz->∃v,vs[i*sz+k]? =some v/\g i k v:=by
 rcases Nat.eq_zero_or_pos sz with rfl|hsz
 ·exact ⟨[],by simp,λj v hj=>by simp at hj,λi k _ hk=>by omega⟩
 ·have hsel:∀j,j < n*sz->∃v,f j v/\g (j / sz) (j % sz) v:=λj hj=>by
   obtain ⟨v,h1,h2⟩:=h (j / sz) (j % sz) ((Nat.div_lt_iff_lt_mul hsz).2 hj) (Nat.mod_lt j hsz)
   rw [Nat.div_add_mod' j sz] at h1
   exact ⟨v,h1,h2⟩
  let pick:Nat->Value:=λj=>if hj:j < n*sz then (hsel j hj).choose else undef
  have hpick:∀j,j < n*sz->f j (pick j)/\g (j / sz) (j % sz) (pick j):=λj hj=>by
   simp only [pick,dif_pos hj];exact (hsel j hj).choose_spec
  refine ⟨(List.range (n*sz)).map pick,by simp,λj v hj=>?_,λi k hi hk=>?_⟩
  ·rw [List.getElem?_map] at hj
   by_cases hlt:j < n*sz
   ·rw [List.getElem?_range hlt] at hj
    simp at hj;subst hj
    exact (hpick j hlt).1
   ·rw [List.getElem?_eq_none (by simp;omega)] at hj;simp at hj
  ·have hlt:i*sz+k < n*sz:=by
    calc i*sz+k < i*sz+sz:=by omega
     _=(i+1)*sz:=by rw [Nat.succ_mul]
     _<=n*sz:=Nat.mul_le_mul_right _ (by omega)
   refine ⟨pick (i*sz+k),by rw [List.getElem?_map,List.getElem?_range hlt];rfl,?_⟩
   have:=(hpick _ hlt).2
   have e1:(i*sz+k) / sz=i:=by rw [Nat.add_comm,Nat.add_mul_div_right _ _ hsz,Nat.div_eq_of_lt hk];omega
   have e2:(i*sz+k) % sz=k:=by rw [Nat.add_comm,Nat.add_mul_mod_self_right,Nat.mod_eq_of_lt hk]
   rwa [e1,e2] at this
structure Q9y (U:QV) (c:Cx) (t:Tok) (u:U.C) (xs:List (U.D u)) (p:Value):Prop where
 ex:∃(a:Option Addr) (cap b o:Nat) (g:Nat->Nat->Value),p= .slice a xs.length cap/\xs.length<=cap/\Q5q c t a b o xs.length cap (U.size u)/\(0 < xs.length->a=some (at_ b o))/\
  (∀i k,i < xs.length->k < U.size u->c.I b (o+(i*U.size u+k))=some (g i k))/\
  (∀i k,i < xs.length->k < U.size u->R U c ((U.enc u (xs.getD i (U.dft u))).getD k .hole) (g i k))
theorem Z7r {t:Tok} {u:U.C} {xs:List (U.D u)} {p:Value} (h:R U c (.isl t u xs) p):Q9y U c t u xs p:=by
 cases h with
 | @isl _ _ _ a cap b o g hc ht ha hi hr=>exact ⟨a,cap,b,o,g,rfl,hc,ht,ha,hi,hr⟩
theorem Z1Y {u:U.C} {x:U.S} {t:Tok} {xs:List (U.D u)} {p:Value} (h:Z2V u x=some (t,xs)) (hr:R U c x p):Q9y U c t u xs p:=by
 unfold Z2V at h
 split at h
 ·split at h
  ·rename_i e _
   subst e
   cases h
   exact Z7r hr
  ·cases h
 ·cases h
  cases R.Q1z hr
  exact ⟨none,0,0,0,λ_ _=>undef,rfl,Nat.le_refl _,rfl,λhh=>by simp at hh,λi k hi=>by simp at hi,λi k hi=>by simp at hi⟩
 ·cases h
def Z1t (U:QV) (c:Cx) (w:World) (P:Program) (u:U.C) (ys:List (U.D u)) (q:Value):Prop:=
 (Builtin.lenOf q).run P w= .ok ys.length w/\∃vs:List Value,vs.length=ys.length*U.size u/\
  (Builtin.firstCells (U.size u) ys.length q).run P w= .ok vs.toArray w/\(∀v∈vs,v.oneCell'=true)/\
  ∀i k,i < ys.length->k < U.size u->∃v,vs[i*U.size u+k]? =some v/\R U c ((U.enc u (ys.getD i (U.dft u))).getD k .hole) v
theorem Z7K {u:U.C} {ys:List (U.D u)} {vs:List Value} (h1:vs.length=ys.length*U.size u)
    (h2:∀i k,i < ys.length->k < U.size u->∃v,vs[i*U.size u+k]? =some v/\R U c ((U.enc u (ys.getD i (U.dft u))).getD k .hole) v):∀v∈vs,v.oneCell'=true:=by
  intro v hv
  obtain ⟨j,hj⟩:=List.getElem?_of_mem hv
  have hlt:=(List.getElem?_eq_some_iff.1 hj).1
  rw [h1] at hlt
  have hsz : 0 < U.size u := by rcases Nat.eq_zero_or_pos (U.size u) with h | h; · rw [h] at hlt; simp at hlt
                                · exact h
  obtain ⟨v',h3,h4⟩:=h2 (j / U.size u) (j % U.size u) ((Nat.div_lt_iff_lt_mul hsz).2 hlt) (Nat.mod_lt j hsz)
  rw [Nat.div_add_mod',hj] at h3
  cases h3
  exact h4.one
theorem Z1f {u:U.C} {ys:List (U.D u)} {a:Option Addr} {cap b o:Nat} (ha:0 < ys.length->a=some (at_ b o))
    (hc:∀i k,i < ys.length->k < U.size u->∃v,w.cell? (at_ b (o+(i*U.size u+k)))=some v/\R U c ((U.enc u (ys.getD i (U.dft u))).getD k .hole) v):
    Z1t U c w P u ys (.slice a ys.length cap):=by
  refine ⟨rfl,?_⟩
  obtain ⟨vs,h1,h2,h3⟩:=Z98 (f:=λj v=>w.cell? (at_ b (o+j))=some v) hc
  refine ⟨vs,h1,?_,Z7K h1 h3,h3⟩
  cases a with
  |none=>
    have hz : ys.length = 0 := by rcases Nat.eq_zero_or_pos ys.length with h | h; · exact h
                                  · have:=ha h;cases this
    have:vs= []:=List.eq_nil_of_length_eq_zero (by rw [h1,hz];simp)
    subst this
    rfl
  |some x=>
    have hl:(loadCells x (ys.length*U.size u)).run P w= .ok vs.toArray w:=by
      rw [←h1]
      refine run_loadCells_list (P:=P) w x vs λj v hj=>?_
      have hlt:=(List.getElem?_eq_some_iff.1 hj).1
      have hpos : 0 < ys.length := by rcases Nat.eq_zero_or_pos ys.length with h | h; · rw [h1, h] at hlt; simp at hlt
                                      · exact h
      have:=ha hpos
      cases this
      rw [Zq]
      exact h2 j v hj
    simpa [Builtin.firstCells] using hl
theorem Q9y.src (hg:G U c Φ h w) {t:Tok} {u:U.C} {xs:List (U.D u)} {p:Value} (hs:Q9y U c t u xs p):Z1t U c w P u xs p:=by
 obtain ⟨a,cap,b,o,g,rfl,hc,ht,ha,hi,hr⟩:=hs.ex
 exact Z1f ha λi k h1 h2=>⟨g i k,hg.imm _ _ _ (hi i k h1 h2),hr i k h1 h2⟩
theorem Z97 (hU:U.Ok) (hg:G U c Φ h w) {s off len i k b o:Nat} {cells:List U.S} {u:U.C} {f:Nat->U.D u} {x:U.S} (he:get h s=some (.obj cells)) (hc:cells[off]? =some (.Q1n u len f)) (hL:c.L s 0=some (b,o))
  (hi:i < len) (hk:(U.enc u (f i))[k]? =some x) (hx:Ze x=true):∃v,w.cell? (at_ b (o+off+(i*U.size u+k)))=some v/\R U c x v:=by
 obtain ⟨b',o',Gk,h0,h1,h2,h3⟩:=hg.Q1M s _ he
 rw [hL] at h0;cases h0
 cases h2.own off _ hc with
 |cell hr _ _ _=>cases hr
 |Q1n Gn hk' hd hF=>
  have hku:k < U.size u:=by
   have:=(List.getElem?_eq_some_iff.1 hk).1
   rwa [hU.QD] at this
  exact ((hk' (i*U.size u+k) x (by rw [Z1j hU u len f hi hku];exact hk)).plain hx).1
theorem Z1G (hU:U.Ok) {h':Qr U} {u:U.C} {y:A U} {ys:List (U.D u)} {rd:List Nat} {q:Value} (he:elems u y h'=some (ys,rd)) (hag:∀s,s∈rd->get h s=get h' s)
  (hg:G U c Φ h w) (hy:RA U c y q):Z1t U c w P u ys q:=by
 unfold elems at he
 split at he
 ·split at he
  ·rename_i e _
   subst e
   cases he
   exact (Z7r (show R U c _ q from hy)).src hg
  ·cases he
 ·cases he
  cases R.Q1z (show R U c _ q from hy)
  exact Z1f (ys:= []) (a:=none) (cap:=0) (b:=0) (o:=0) (λhh=>by simp at hh) λi k hi=>by simp at hi
 ·rename_i s
  split at he
  ·rename_i e _
   subst e
   cases he
   cases R.Q1z (show R U c _ q from hy)
   obtain ⟨hlen,henc⟩:=hU.ofBytes s.data.toList
   have hs1:=hU.u8
   refine ⟨by rw [hlen];rfl,s.data.toList.map λb=>.int .u8 b.toNat,by rw [hlen,hs1];simp,?_,λv hv=>?_,λi k hi hk=>?_⟩
   ·rw [hlen]
    simp only [Builtin.firstCells,Sem.run_pure]
    congr 1
    have:s.extract 0 s.data.toList.length=s:=by rw [Array.length_toList];exact ByteArray.extract_zero_size
    rw [this]
    apply Array.ext'
    simp
   ·simp at hv;obtain ⟨b,_,rfl⟩:=hv;rfl
   ·rw [hs1] at hk ⊢
    have hk0:k=0:=by omega
    subst hk0
    rw [hlen] at hi
    rw [henc i hi]
    refine ⟨.int .u8 ((s.data.toList.getD i 0).toNat:Int),?_,.val (Z3T _)⟩
    simp only [Nat.mul_one,Nat.add_zero,List.getElem?_map,List.getElem?_eq_getElem hi,Option.map_some,List.getD,Option.getD_some]
  ·cases he
 ·rename_i s b n
  split at he
  ·rename_i v nn f hgs
   cases hpl:U.plain v with
   |false=>rw [hpl] at he;cases he
   |true=>
   rw [hpl] at he
   simp only [cond_true] at he
   split at he
   ·rename_i e _
    subst e
    cases he
    have he':get h s=some (.fam true v nn f):=by rw [hag s (by simp)];exact hgs
    obtain ⟨A,hA,hA1,h2,hct⟩:=(hg.Q1M s _ he').Q6y
    cases (show R U c _ q from hy) with
    | @sl _ _ _ cap b' o' a' hc ha' hl'=>
     have hlen:((List.range n).map λj=>f (b+j)).length=n:=by simp
     have:=Z1f (P:=P) (c:=c) (w:=w) (u:=v) (ys:=(List.range n).map λj=>f (b+j)) (a:=a') (cap:=cap) (b:=b') (o:=o') (λhh=>(ha' (by rwa [hlen] at hh)).2) (λi k hi hk=>by
      rw [hlen] at hi
      obtain ⟨x,hx⟩:=hl' i hi
      have hin:=hA1 _ _ hx
      obtain ⟨hL,_⟩:=ha' (by omega)
      have hb0:=hA1 _ _ hL
      have e4:=hct rfl b hb0
      have e5:=hct rfl (b+i) hin
      have e6:=hA b hb0
      rw [hL] at e6
      simp only [Option.some.injEq] at e6
      have hkl:k < (U.enc v (f (b+i))).length:=by rw [hU.QD];exact hk
      have hcl:=hU.Q52 v (f (b+i)) hpl
      rw [List.all_eq_true] at hcl
      obtain ⟨⟨v',hv',hr'⟩,_⟩:=h2 (b+i) k _ hin (List.getElem?_eq_getElem hkl) (hcl _ (List.getElem_mem hkl))
      rw [←getD_of_getElem? (d:=S.hole) (List.getElem?_eq_getElem hkl)] at hr'
      refine ⟨v',?_,?_⟩
      ·rw [e5] at hv'
       rw [←e6] at e4
       simp only [Prod.mk.injEq] at e4
       rw [e4.1,e4.2]
       rw [Nat.add_mul] at hv'
       rwa [show (A 0).2+b*U.size v+(i*U.size v+k)=(A 0).2+(b*U.size v+i*U.size v)+k by omega]
      ·have:((List.range n).map λj=>f (b+j)).getD i (U.dft v)=f (b+i):=by
        simp [List.getD,List.getElem?_map,List.getElem?_range hi]
       rw [this];exact hr')
     rwa [hlen] at this
   ·cases he
  ·cases he
 ·rename_i s off m len b n
  split at he
  ·rename_i cells hgs
   split at he
   ·rename_i v len' f hc
    cases hpl:U.plain v && Nat.beq m (U.size v) && Nat.beq len len' with
    |false=>rw [hpl] at he;cases he
    |true=>
     rw [hpl] at he
     simp only [cond_true] at he
     simp only [Bool.and_eq_true] at hpl
     obtain ⟨⟨p1,p2⟩,p3⟩:=hpl
     have p2:=QH p2
     have p3:=QH p3
     subst p2;subst p3
     split at he
     ·rename_i e _
      subst e
      cases he
      have he':get h s=some (.obj cells):=by rw [hag s (by simp)];exact hgs
      cases (show R U c _ q from hy) with
      | @asl _ _ _ _ _ _ cap b' o' a' hcp hbn hL ha'=>
       have hlen:((List.range n).map λj=>f (b+j)).length=n:=by simp
       have:=Z1f (P:=P) (c:=c) (w:=w) (u:=v) (ys:=(List.range n).map λj=>f (b+j)) (a:=a') (cap:=cap) (b:=b') (o:=o'+off+b*U.size v) (λhh=>ha' (by rwa [hlen] at hh)) (λi k hi hk=>by
        rw [hlen] at hi
        have hkl:k < (U.enc v (f (b+i))).length:=by rw [hU.QD];exact hk
        have hcell:=hU.Q52 v (f (b+i)) p1
        rw [List.all_eq_true] at hcell
        obtain ⟨u',q1,q2⟩:=Z97 hU hg he' hc hL (i:=b+i) (by omega) (List.getElem?_eq_getElem hkl) (hcell _ (List.getElem_mem hkl))
        refine ⟨u',?_,?_⟩
        ·rw [Nat.add_mul] at q1
         rw [←q1];congr 2;omega
        ·have q6:((List.range n).map λj=>f (b+j)).getD i (U.dft v)=f (b+i):=by simp [List.getD,List.getElem?_map,List.getElem?_range hi]
         rw [q6,getD_of_getElem? (List.getElem?_eq_getElem hkl)]
         exact q2)
       rw [hlen] at this
       exact this
     ·cases he
   ·cases he
  ·cases he
 ·cases he
end Go.Rf
namespace Go.Rf
set_option linter.unusedVariables false
set_option linter.unusedSimpArgs false
variable {U : QV} {P : Program} {c : Cx} {Φ : Nat -> Nat -> Nat -> Prop} {h : Qr U} {nx : Nat} {w : World}
theorem G.drew (hU:U.Ok) (hg:G U c Φ h w):G U c Φ h w.drew where
 Q1M s e he:=(hg.Q1M s e he).stays hU (.refl c) (λ_=>rfl) (Agr.drew _ _)
 apart:=hg.apart
 imm:=hg.imm
 Q15:=hg.Q15
theorem Q1s.iff {c:Cx} {w:World} {s:Nat} {F F':Nat->Nat->Prop} {e:Ent U} (h:Q1s c w s F e) (hf:∀b o,F b o↔F' b o):Q1s c w s F' e:=by
 have:F=F':=by funext b o;exact propext (hf b o)
 rwa [←this]
def ZI:TypeDesc->Bool
 | .slice _=>true
 | .string=>true
 |_=>false
theorem Z1V {t t2 ty e:TypeId} {d2:TypeDesc} {size n m cap:Nat} {base:Option Addr} {q:Value} {vs:List Value} {w':World} (ht:P.underlying t=some (.slice e)) (ht2:P.underlying t2=some d2)
  (hd2:ZI d2=true) (hs:size? P e=some size) (hl:(Builtin.lenOf q).run P w= .ok m w) (hf:(Builtin.firstCells size m q).run P w= .ok vs.toArray w)
  (hroom:n+m<=cap) (hst:∀a,base=some a->(storeCells (a.add (n*size)) vs).run P w= .ok () w') (hn:base=none->w'=w):
  (Builtin.append_ #[t,t2] ty #[.slice base n cap,q]).run P w= .ok (.slice base (n+m) cap) w':=by
 have hz:(do pure ((←underlying t2) matches .int _):Sem Bool).run P w= .ok false w:=by
  simp only [Sem.run_bind,run_underlying ht2,Result.andThen_ok,Sem.run_pure]
  cases d2 <;> first|rfl|(simp [ZI] at hd2;done)
 unfold Builtin.append_
 cases base with
 |none=>
  have:=hn rfl
  subst this
  cases d2 <;> first|(simp [ZI] at hd2;done)|(simp [run_underlying ht,Za hs,run_underlying ht2,hl,hf,hroom];done)
 |some a=>
  have hst':=hst a rfl
  cases d2 <;> first|(simp [ZI] at hd2;done)|(simp [run_underlying ht,Za hs,run_underlying ht2,hl,hf,hroom,hst'];done)
theorem Z2i {t t2 ty e:TypeId} {d2:TypeDesc} {i:TypeInfo} {z:Value} {n m cap:Nat} {base:Option Addr} {q:Value} {vs olds:List Value} (ht:P.underlying t=some (.slice e)) (ht2:P.underlying t2=some d2)
  (hd2:ZI d2=true) (hi:P.info? e=some i) (hz:i.zero=some z) (hl:(Builtin.lenOf q).run P w= .ok m w) (hf:(Builtin.firstCells i.size m q).run P w.drew= .ok vs.toArray w.drew)
  (hfo:(Builtin.firstCells i.size n (.slice base n cap)).run P w.drew= .ok olds.toArray w.drew) (hg:cap < n+m) (hb:(n+m)*i.bytes<=140737488355328) (h63:n+m<=9223372036854775807):
  (Builtin.append_ #[t,t2] ty #[.slice base n cap,q]).run P w=
   .ok (.slice (some (at_ w.heap.size 0)) (n+m) (grownCap w (n+m) cap e))
    (w.drew.alloc (.cells (olds.toArray++vs.toArray++Builtin.zeroCells z.cells (grownCap w (n+m) cap e - (n+m))) e)):=by
 have hn:¬(n+m<=cap):=by omega
 have h48:=growslice_fits hg hb
 have h48':¬(281474976710656 < Builtin.nextslicecap (n+m) cap*i.bytes):=by omega
 have h63':¬(9223372036854775807 < ((n:Int)+(m:Int))):=by omega
 unfold Builtin.append_
 cases d2 <;> first
  |(simp [ZI] at hd2;done)
  |(simp [run_underlying ht,sizeOf,typeInfo,zeroValue,hi,hz,run_underlying ht2,hl,hn,h63',h48',Question.forced,hf,hfo,newRow,grownCap];congr 2;apply Array.ext';simp [List.append_assoc])
theorem Z1w {α:Type} {l r:List α} {i:Nat} {d:α} (h:i < l.length):(l++r).getD i d=l.getD i d:=by
 simp [List.getD,List.getElem?_append_left h]
theorem Z1m {α:Type} {l r:List α} {i:Nat} {d:α} (h:l.length<=i):(l++r).getD i d=r.getD (i - l.length) d:=by
 simp [List.getD,List.getElem?_append_right h]
def Q6l (b o e:Nat):Nat->Option (Nat×Nat):=λi=>if i=0 then some (b,o) else if i=1 then some (b,e) else none
theorem QB.append (hU:U.Ok) {w':World} {u:U.C} {xs ys:List (U.D u)} {v:Value} {rd:List Nat} {kk:List (Nat×Ent U)} {Φ0:Nat->Nat->Nat->Prop} {I':Nat->Nat->Option Value} {b o e:Nat}
  (hg:G U c Φ h w) (hg0:G U c Φ0 (kk++h) w) (hs:∀i,c.L nx i=none) (hn:get (kk++h) nx=none)
  (hI:∀b o v,c.I b o=some v->I' b o=some v)
  (hw':Fr (λb o=>∃s,s∈kk.map (·.1)/\(get h s).isSome/\Φ s b o) w w')
  (hkk:∀s,s∈kk.map (·.1)->(get h s).isSome)
  (hfoot:∀s,s∉kk.map (·.1)->Φ0 s=Φ s)
  (hfootk:∀s,s∈kk.map (·.1)->∀b o,¬Φ0 s b o)
  (hcells:∀x,o<=x->x < e->(∃v,w'.cell? (at_ b x)=some v)/\w'.frozen? (at_ b x)=false)
  (howned:∀x,o<=x->x < e->w.heap.size<=b\/∃s,s∈kk.map (·.1)/\Φ s b x)
  (himm:∀b o v,I' b o=some v->w'.cell? (at_ b o)=some v)
  (hI1:∀b' o' v,I' b' o'=some v->c.I b' o'=some v\/w.heap.size<=b'\/∃s,s∈kk.map (·.1)/\Φ s b' o')
  (hI2:∀x,o<=x->x < e->I' b x=none)
  (hval:R U { L:=(c.Q21 nx (Q6l b o e)).L,I:=I'} (.isl (.own nx) u (xs++ys)) v):
  ∃c' Φ',QB U c Φ h nx { v:=Rf.sc (.isl (.own nx) u (xs++ys)),rd:=rd,w:=(nx,.tok)::kk,nw:=1} w c' Φ' v w':=by
 let c':Cx:={ L:=(c.Q21 nx (Q6l b o e)).L,I:=I'}
 have hle:c.Le c':=⟨(Cx.Q4F hs).L,hI⟩
 let F:Nat->Nat->Prop:=λb' x=>b'=b/\o<=x/\x < e
 have hkh:∀t,(get (kk++h) t).isSome->t∉kk.map (·.1)->(get h t).isSome:=λt ht hk=>by
  rw [Zh,Zg hk] at ht;exact ht
 have hold:∀t b' o',t≠nx->(get (kk++h) t).isSome->Φ0 t b' o'->t∉kk.map (·.1)/\(get h t).isSome/\Φ t b' o'/\b' < w.heap.size:=λt b' o' hts h1 hf=>by
  have hk:t∉kk.map (·.1):=λhk=>hfootk t hk b' o' hf
  rw [hfoot t hk] at hf
  exact ⟨hk,hkh t h1 hk,hf,hg.lt hU (hkh t h1 hk) hf⟩
 have hapart:∀t b' o' s,t∉kk.map (·.1)->s∈kk.map (·.1)->(get h t).isSome->Φ t b' o'->Φ s b' o'->False:=λt b' o' s h1 h2 h3 h4 h5=>
  hg.apart t s b' o' (λe=>h1 (e▸h2)) h3 (hkk s h2) h4 h5
 have hsame:∀t,t≠nx->(get (kk++h) t).isSome->Agr (Φ0 t) w w':=λt hts h1=>
  hw'.agr (λb' o' hf=>(hold t b' o' hts h1 hf).2.2.2) λb' o' hf ⟨s,h6,_,h7⟩=>by
   obtain ⟨h2,h3,h4,_⟩:=hold t b' o' hts h1 hf
   exact hapart t b' o' s h2 h6 h3 h4 h7
 refine ⟨c',fup Φ0 nx F,hle,λs i hsi=>?_,hval,?_,hw'.mono ?_,λs hsn=>?_,λs b' o' hsn hf=>?_,λs hsn=>?_,λb' o' v hI'=>?_⟩
 ·have:s≠nx:=λe=>hsi (by subst e;simp)
  simp [c',Cx.Q21,this]
 ·have hx0:c'.L nx 0=some (b,o):=by simp [c',Cx.Q21,Q6l]
  have hx1:c'.L nx 1=some (b,e):=by simp [c',Cx.Q21,Q6l]
  refine hg0.put hU hle (λt i ht=>by simp [c',Cx.Q21,ht]) ⟨b,o,e,hx0,hx1,λx h1 h2=>⟨(hcells x h1 h2).1,(hcells x h1 h2).2,rfl,h1,h2⟩,λb' x hF=>hF⟩ hsame
   (λt b' o' hts h1 hf hF=>?_) himm (λt b' o' hts h1 hf=>?_) (λb' o' hF=>?_)
  ·obtain ⟨h2,h3,h4,h5⟩:=hold t b' o' hts h1 hf
   obtain ⟨rfl,h6,h7⟩:=hF
   rcases howned o' h6 h7 with h8|⟨s,h8,h9⟩
   ·exact absurd h5 (Nat.not_lt.2 h8)
   ·exact hapart t b' o' s h2 h8 h3 h4 h9
  ·obtain ⟨h2,h3,h4,h5⟩:=hold t b' o' hts h1 hf
   cases hI':I' b' o' with
   |none=>exact hI'
   |some v'=>
    exfalso
    rcases hI1 b' o' v' hI' with h6|h6|⟨s,h6,h7⟩
    ·rw [hg.Q15 t b' o' h3 h4] at h6;cases h6
    ·exact absurd h5 (Nat.not_lt.2 h6)
    ·exact hapart t b' o' s h2 h6 h3 h4 h7
  ·obtain ⟨rfl,h6,h7⟩:=hF
   exact hI2 o' h6 h7
 ·rintro b' o' _ ⟨s,h1,h2,h3⟩
  exact ⟨s,by simp;exact .inr (by simpa using h1),h2,h3⟩
 ·simp at hsn
  have h1:s≠nx:=hsn.1
  have h2:s∉kk.map (·.1):=by simpa using hsn.2
  simp only [fup,if_neg h1]
  exact hfoot s h2
 ·by_cases h1:s=nx
  ·subst h1
   simp only [fup,if_true] at hf
   obtain ⟨rfl,h2,h3⟩:=hf
   rcases howned o' h2 h3 with h4|⟨s',h4,h5⟩
   ·exact .inl h4
   ·exact .inr ⟨s',by simp;exact .inr (by simpa using h4),hkk s' h4,h5⟩
  ·simp only [fup,if_neg h1] at hf
   have h2:s∈kk.map (·.1):=by simp at hsn;rcases hsn with h2|h2;exact absurd h2 h1;simpa using h2
   exact absurd hf (hfootk s h2 b' o')
 ·simp at hsn
  rcases hsn with rfl|h1
  ·exact .inl (by simp)
  ·exact .inr (hkk s (by simpa using h1))
 ·rcases hI1 b' o' v hI' with h1|h1|⟨s,h1,h2⟩
  ·exact .inl h1
  ·exact .inr (.inl h1)
  ·exact .inr (.inr ⟨s,by simp;exact .inr (by simpa using h1),hkk s h1,h2⟩)
end Go.Rf
namespace Go.Rf
set_option linter.unusedVariables false
set_option linter.unusedSimpArgs false
variable {U : QV} {P : Program} {c : Cx} {Φ : Nat -> Nat -> Nat -> Prop} {h : Qr U} {nx : Nat} {w : World}
structure Q5r (U:QV) (c:Cx) (Φ:Nat->Nat->Nat->Prop) (h:Qr U) (nx:Nat) (w:World) (kk:List (Nat×Ent U)) (Φ0:Nat->Nat->Nat->Prop):Prop where
 g:G U c Φ0 (kk++h) w
 n:get (kk++h) nx=none
 old:∀s,s∈kk.map (·.1)->(get h s).isSome
 Q2p:∀s,s∉kk.map (·.1)->Φ0 s=Φ s
 Q9q:∀s,s∈kk.map (·.1)->∀b o,¬Φ0 s b o
theorem Q5r.none (hg:G U c Φ h w) (hn:get h nx=none):Q5r U c Φ h nx w [] Φ:=
 ⟨hg,hn,λs hs=>by simp at hs,λ_ _=>rfl,λs hs=>by simp at hs⟩
theorem Q5r.one (hU:U.Ok) {k:Nat} (hg:G U c Φ h w) (hn:get h nx=Option.none) (hk:get h k=some .tok):Q5r U c Φ h nx w [(k,.dead)] (fup Φ k λ_ _=>False) where
 g:=hg.put hU (.refl c) (λ_ _ _=>rfl) (λ_ _ h=>h) (λ_ _ _=>Agr.refl _ _) (λ_ _ _ _ _ _ h=>h) hg.imm (λt b o _ h1 hf=>hg.Q15 t b o h1 hf) (λ_ _ h=>h.elim)
 n:=by
  show get ((k,.dead)::h) nx=Option.none
  rw [Z9,if_neg (λe=>by rw [e,hn] at hk;cases hk)];exact hn
 old s hs:=by simp at hs;subst hs;simp [hk]
 Q2p s hs:=by simp at hs;simp [fup,hs]
 Q9q s hs b o hf:=by simp at hs;subst hs;(simp [fup] at hf)
structure Free (U:QV) (c:Cx) (Φ:Nat->Nat->Nat->Prop) (w:World) (kk:List (Nat×Ent U)) (a:Option Addr) (b o n cap sz b' o' e:Nat):Prop where
 at_:0 < cap->a=some (at_ b o)/\b'=b/\o'=o+n*sz/\o+cap*sz<=e
 cells:∀x,o'<=x->x < e->(∃v,w.cell? (Rf.at_ b' x)=some v)/\w.frozen? (Rf.at_ b' x)=false/\∃s,s∈kk.map (·.1)/\Φ s b' x
theorem Z3V {n sz i:Nat} (hn:n<=i):i*sz=n*sz+(i - n)*sz:=by rw [←Nat.add_mul];congr 1;omega
theorem Qad (hU:U.Ok) {u:U.C} {xs ys:List (U.D u)} {kk:List (Nat×Ent U)} {Φ0:Nat->Nat->Nat->Prop} {t t2 ty e:TypeId} {d2:TypeDesc} {q:Value} {rd:List Nat} {a:Option Addr} {cap b o b' o' e':Nat} {g:Nat->Nat->Value}
    (hg:G U c Φ h w) (hst:Q5r U c Φ h nx w kk Φ0) (hs:∀i,c.L nx i=none)
    (ht:P.underlying t=some (.slice e)) (ht2:P.underlying t2=some d2) (hd2:ZI d2=true) (hsz:size? P e=some (U.size u))
    (hx:xs.length<=cap) (hfree:Free U c Φ w kk a b o xs.length cap (U.size u) b' o' e')
    (hi:∀i k,i < xs.length->k < U.size u->c.I b (o+(i*U.size u+k))=some (g i k))
    (hr:∀i k,i < xs.length->k < U.size u->R U c ((U.enc u (xs.getD i (U.dft u))).getD k .hole) (g i k))
    (hq:Z1t U c w P u ys q) (hroom:xs.length+ys.length<=cap):
    ∃v w' c' Φ',(Builtin.append_ #[t,t2] ty #[.slice a xs.length cap,q]).run P w= .ok v w'/\
      QB U c Φ h nx { v:=Rf.sc (.isl (.own nx) u (xs++ys)),rd:=rd,w:=(nx,.tok)::kk,nw:=1} w c' Φ' v w':=by
  obtain ⟨hlen,vs,hvl,hfc,hone,hrows⟩:=hq
  have hcap0:cap=0->vs= []:=λh0=>List.eq_nil_of_length_eq_zero (by rw [hvl,show ys.length=0 by omega];simp)
  have hin:∀j,j < vs.length->o'<=o'+j/\o'+j < e':=λj hj=>by
    refine ⟨by omega,?_⟩
    have hc : 0 < cap := by rcases Nat.eq_zero_or_pos cap with h0 | h0; · rw [hcap0 h0] at hj; simp at hj
                            · exact h0
    obtain ⟨_,_,h3,h4⟩:=hfree.at_ hc
    have:(xs.length+ys.length)*U.size u<=cap*U.size u:=Nat.mul_le_mul_right _ hroom
    rw [Nat.add_mul] at this
    omega
  have hrun:(Builtin.append_ #[t,t2] ty #[.slice a xs.length cap,q]).run P w= .ok (.slice a (xs.length+ys.length) cap) (w.setCells b' o' vs):=by
    refine Z1V ht ht2 hd2 hsz hlen hfc hroom (λx hx'=>?_) (λhn=>?_)
    · rcases Nat.eq_zero_or_pos cap with h0|h0
      · rw [hcap0 h0];rfl
      · obtain ⟨h1,h2,h3,h4⟩:=hfree.at_ h0
        rw [hx'] at h1;cases h1
        rw [Zq,←h3,←h2]
        have := run_storeCells_cells (P := P) b' o' vs 0 w (λj hj =>by
            obtain ⟨v,hv⟩:=(hfree.cells (o'+j) (hin j hj).1 (hin j hj).2).1
            simp [hv]) (λj hj=>by
            have:=(hfree.cells (o'+j) (hin j hj).1 (hin j hj).2).2.1
            simpa using this) hone
        simpa using this
    · rcases Nat.eq_zero_or_pos cap with h0|h0
      · rw [hcap0 h0];rfl
      · obtain ⟨h1,_⟩:=hfree.at_ h0;rw [hn] at h1;cases h1
  let I':Nat->Nat->Option Value:=λbb x=>if bb=b'/\o'<=x/\x < o'+vs.length then vs[x - o']? else c.I bb x
  have hfreeI:∀x,o'<=x->x < e'->c.I b' x=none:=λx h1 h2=>by
    obtain ⟨_,_,s,h3,h4⟩:=hfree.cells x h1 h2
    exact hg.Q15 s b' x (hst.old s h3) h4
  have hI:∀bb x v,c.I bb x=some v->I' bb x=some v:=λbb x v hv=>by
    simp only [I']
    split
    · rename_i hh
      obtain ⟨rfl,h1,h2⟩:=hh
      rw [hfreeI x h1 (by have:=(hin (x - o') (by omega)).2;omega)] at hv;cases hv
    · exact hv
  have hIn:∀j v,vs[j]? =some v->I' b' (o'+j)=some v:=λj v hv=>by
    have hlt:=(List.getElem?_eq_some_iff.1 hv).1
    refine (if_pos ⟨rfl,by omega,by omega⟩).trans ?_
    rw [show o'+j - o'=j by omega];exact hv
  have hle:c.Le { L:=(c.Q21 nx (Q6l b' (o'+vs.length) e')).L,I:=I'}:=⟨(Cx.Q4F hs).L,hI⟩
  have hcellin:∀j,j < vs.length->(w.cell? (at_ b' (o'+j))).isSome=true:=λj hj=>by
    obtain ⟨v,hv⟩:=(hfree.cells (o'+j) (hin j hj).1 (hin j hj).2).1
    simp [hv]
  have key:=QB.append hU (U:=U) (w':=w.setCells b' o' vs) (u:=u) (xs:=xs) (ys:=ys) (v:= .slice a (xs.length+ys.length) cap) (rd:=rd) (kk:=kk) (Φ0:=Φ0) (I':=I') (b:=b') (o:=o'+vs.length) (e:=e')
    hg hst.g hs hst.n hI
    (Fr.setCells λj hj=>by
      obtain ⟨_,_,s,h3,h4⟩:=hfree.cells (o'+j) (hin j hj).1 (hin j hj).2
      exact ⟨s,h3,hst.old s h3,h4⟩)
    hst.old hst.Q2p hst.Q9q
    (λx h1 h2=>by
      obtain ⟨⟨v,hv⟩,hf,_⟩:=hfree.cells x (by omega) h2
      refine ⟨⟨v,?_⟩,by rw [World.frozen?_setCells];exact hf⟩
      rw [Zm (λ_=>.inr h1)];exact hv)
    (λx h1 h2=>by
      obtain ⟨_,_,s,h3,h4⟩:=hfree.cells x (by omega) h2
      exact .inr ⟨s,h3,h4⟩)
    (λbb x v hv=>by
      simp only [I'] at hv
      split at hv
      · rename_i hh
        obtain ⟨rfl,h1,h2⟩:=hh
        have:=Zy hcellin hv
        rwa [show o'+(x - o')=x by omega] at this
      · rename_i hh
        refine (Zm λe=>?_).trans (hg.imm bb x v hv)
        subst e
        by_cases h1:x < o'
        · exact .inl h1
        · by_cases h2:o'+vs.length<=x
          · exact .inr h2
          · exact absurd ⟨rfl,by omega,by omega⟩ hh)
    (λbb x v hv=>by
      simp only [I'] at hv
      split at hv
      · rename_i hh
        obtain ⟨rfl,h1,h2⟩:=hh
        obtain ⟨_,_,s,h3,h4⟩:=hfree.cells x h1 (by have:=(hin (x - o') (by omega)).2;omega)
        exact .inr (.inr ⟨s,h3,h4⟩)
      · exact .inl hv)
    (λx h1 h2=>by
      simp only [I']
      rw [if_neg (by omega)]
      exact hfreeI x (by omega) h2)
    (by
      rw [←List.length_append]
      refine R.isl (b:=b) (o:=o) (λi k=>if i < xs.length then g i k else vs.getD ((i - xs.length)*U.size u+k) undef) (by simpa using hroom) ?_ (λhpos=>?_) (λi k h1 h2=>?_) (λi k h1 h2=>?_)
      · refine ⟨b',o'+vs.length,e',by simp [Cx.Q21,Q6l],by simp [Cx.Q21,Q6l],λhc=>?_⟩
        obtain ⟨h1,h2,h3,h4⟩:=hfree.at_ hc
        refine ⟨h1,h2,?_,h4⟩
        rw [List.length_append,Nat.add_mul,hvl];omega
      · simp only [List.length_append] at hpos
        exact (hfree.at_ (by omega)).1
      · simp only [List.length_append] at h1
        by_cases h3:i < xs.length
        · simp only [if_pos h3];exact hI _ _ _ (hi i k h3 h2)
        · simp only [if_neg h3]
          obtain ⟨_,h5,h6,_⟩:=hfree.at_ (by omega)
          obtain ⟨v,hv,_⟩:=hrows (i - xs.length) k (by omega) h2
          have:=hIn _ v hv
          rw [getD_of_getElem? hv,←this,h5,h6,Z3V (sz:=U.size u) (Nat.le_of_not_lt h3)]
          congr 1;omega
      · simp only [List.length_append] at h1
        by_cases h3:i < xs.length
        · simp only [if_pos h3]
          rw [Z1w h3]
          exact (hr i k h3 h2).mono hle
        · simp only [if_neg h3]
          obtain ⟨v,hv,hrv⟩:=hrows (i - xs.length) k (by omega) h2
          rw [Z1m (by omega),getD_of_getElem? hv]
          exact hrv.mono hle)
  obtain ⟨c',Φ',hS⟩:=key
  exact ⟨_,_,c',Φ',hrun,hS⟩
theorem Z9j (hU:U.Ok) {u:U.C} {xs ys:List (U.D u)} {kk:List (Nat×Ent U)} {Φ0:Nat->Nat->Nat->Prop} {t t2 ty e:TypeId} {d2:TypeDesc} {i:TypeInfo} {z:Value} {q:Value} {rd:List Nat} {a:Option Addr} {cap:Nat}
  (hg:G U c Φ h w) (hst:Q5r U c Φ h nx w kk Φ0) (hs:∀i,c.L nx i=none)
  (ht:P.underlying t=some (.slice e)) (ht2:P.underlying t2=some d2) (hd2:ZI d2=true)
  (hi:P.info? e=some i) (hz:i.zero=some z) (hsz:i.size=U.size u) (hzs:z.cells.size=i.size) (hb1:1<=i.bytes) (hs1:1<=i.size) (hroom:(xs.length+ys.length)*i.bytes<=140737488355328)
  (hp:Z1t U c w.drew P u xs (.slice a xs.length cap)) (hl:(Builtin.lenOf q).run P w= .ok ys.length w)
  (hq:Z1t U c w.drew P u ys q) (hcap:cap < xs.length+ys.length):
  ∃v w' c' Φ',(Builtin.append_ #[t,t2] ty #[.slice a xs.length cap,q]).run P w= .ok v w'/\
   QB U c Φ h nx { v:=Rf.sc (.isl (.own nx) u (xs++ys)),rd:=rd,w:=(nx,.tok)::kk,nw:=1} w c' Φ' v w':=by
 obtain ⟨_,os,hol,hoc,_,horows⟩:=hp
 obtain ⟨_,vs,hvl,hfc,_,hrows⟩:=hq
 have h63:xs.length+ys.length<=9223372036854775807:=by
  have:(xs.length+ys.length)*1<=(xs.length+ys.length)*i.bytes:=Nat.mul_le_mul_left _ hb1
  omega
 have hrun:=Z2i (P:=P) (w:=w) (t:=t) (t2:=t2) (ty:=ty) ht ht2 hd2 hi hz hl (by rw [hsz];exact hfc) (by rw [hsz];exact hoc) hcap (by omega) h63
 have hge:=grownCap_ge w (xs.length+ys.length) cap e
 generalize hC:grownCap w (xs.length+ys.length) cap e=C at hrun hge
 generalize hN:w.heap.size=N at hrun
 have hlen:(os++vs).length=(xs.length+ys.length)*U.size u:=by rw [List.length_append,hol,hvl,Nat.add_mul]
 let I':Nat->Nat->Option Value:=λbb x=>if bb=N/\x < (os++vs).length then (os++vs)[x]? else c.I bb x
 have hIN:∀x,c.I N x=none:=λx=>by
  cases hI:c.I N x with
  |none=>rfl
  |some v=>exact absurd (hg.Q78 hI) (by omega)
 have hI:∀bb x v,c.I bb x=some v->I' bb x=some v:=λbb x v hv=>by
  simp only [I']
  split
  ·rename_i hh;rw [hh.1,hIN] at hv;cases hv
  ·exact hv
 have hIn:∀(j:Nat) v,(os++vs)[j]? =some v->I' N j=some v:=λj v hv=>by
  have hlt:=(List.getElem?_eq_some_iff.1 hv).1
  exact (if_pos ⟨rfl,hlt⟩).trans hv
 have hle:c.Le { L:=(c.Q21 nx (Q6l N (os++vs).length (C*U.size u))).L,I:=I'}:=⟨(Cx.Q4F hs).L,hI⟩
 let arr:Array Value:=os.toArray++vs.toArray++Builtin.zeroCells z.cells (C - (xs.length+ys.length))
 have hasz:arr.size=C*U.size u:=by
  simp only [arr,Array.size_append,List.size_toArray,Builtin.zeroCells,Array.size_map,Array.size_range,hzs,hsz]
  rw [hol,hvl,←Nat.add_mul,←Nat.add_mul]
  congr 1;omega
 have harr:∀j v,(os++vs)[j]? =some v->arr[j]? =some v:=λj v hv=>by
  have hlt:=(List.getElem?_eq_some_iff.1 hv).1
  simp only [arr]
  rw [Array.getElem?_append_left (by simpa using hlt)]
  simpa using hv
 have hcell:∀x,(w.drew.alloc (.cells arr e)).cell? (at_ N x)=arr[x]? :=λx=>by
  have:=World.cell?_alloc_new w.drew arr e x
  rw [show w.drew.heap.size=N from hN] at this
  exact this
 have key:=QB.append hU (U:=U) (w':=w.drew.alloc (.cells arr e)) (u:=u) (xs:=xs) (ys:=ys) (v:= .slice (some (at_ N 0)) (xs.length+ys.length) C) (rd:=rd) (kk:=kk) (Φ0:=Φ0) (I':=I') (b:=N) (o:=(os++vs).length) (e:=C*U.size u)
  hg hst.g hs hst.n hI
  ((Fr.drew _ w).trans (Fr.alloc _ w.drew _) (λb o hb hf=>hf))
  hst.old hst.Q2p hst.Q9q
  (λx h1 h2=>by
   refine ⟨⟨arr[x]'(by rw [hasz];exact h2),?_⟩,?_⟩
   ·rw [hcell];simp [hasz,h2]
   ·exact World.frozen?_alloc_at (w:=w.drew) arr e N x hN.symm)
  (λx h1 h2=>.inl (by omega))
  (λbb x v hv=>by
   simp only [I'] at hv
   split at hv
   ·rename_i hh
    obtain ⟨rfl,h1⟩:=hh
    rw [hcell];exact harr _ _ hv
   ·have:=ZN w.drew (.cells arr e) (b:=bb) (x:=x) (hg.Q78 hv)
    exact this.trans (hg.imm bb x v hv))
  (λbb x v hv=>by
   simp only [I'] at hv
   split at hv
   ·rename_i hh;exact .inr (.inl (by omega))
   ·exact .inl hv)
  (λx h1 h2=>by
   simp only [I']
   rw [if_neg (by omega)]
   exact hIN x)
  (by
   rw [←List.length_append]
   refine R.isl (b:=N) (o:=0) (λi k=>(os++vs).getD (i*U.size u+k) undef) (by simpa using hge) ?_ (λhpos=>rfl) (λi k h1 h2=>?_) (λi k h1 h2=>?_)
   ·refine ⟨N,(os++vs).length,C*U.size u,by simp [Cx.Q21,Q6l],by simp [Cx.Q21,Q6l],λhc=>⟨rfl,rfl,?_,by omega⟩⟩
    rw [hlen];simp
   ·simp only [List.length_append] at h1
    rw [Nat.zero_add]
    by_cases h3:i < xs.length
    ·obtain ⟨v,hv,_⟩:=horows i k h3 h2
     have hv':(os++vs)[i*U.size u+k]? =some v:=by rw [List.getElem?_append_left (List.getElem?_eq_some_iff.1 hv).1];exact hv
     rw [getD_of_getElem? hv'];exact hIn _ _ hv'
    ·obtain ⟨v,hv,_⟩:=hrows (i - xs.length) k (by omega) h2
     have hv':(os++vs)[i*U.size u+k]? =some v:=by
      rw [Z3V (sz:=U.size u) (Nat.le_of_not_lt h3),List.getElem?_append_right (by omega),hol]
      rw [show xs.length*U.size u+(i - xs.length)*U.size u+k - xs.length*U.size u=(i - xs.length)*U.size u+k by omega];exact hv
     rw [getD_of_getElem? hv'];exact hIn _ _ hv'
   ·simp only [List.length_append] at h1
    by_cases h3:i < xs.length
    ·obtain ⟨v,hv,hrv⟩:=horows i k h3 h2
     have hv':(os++vs)[i*U.size u+k]? =some v:=by rw [List.getElem?_append_left (List.getElem?_eq_some_iff.1 hv).1];exact hv
     rw [getD_of_getElem? hv',Z1w h3];exact hrv.mono hle
    ·obtain ⟨v,hv,hrv⟩:=hrows (i - xs.length) k (by omega) h2
     have hv':(os++vs)[i*U.size u+k]? =some v:=by
      rw [Z3V (sz:=U.size u) (Nat.le_of_not_lt h3),List.getElem?_append_right (by omega),hol]
      rw [show xs.length*U.size u+(i - xs.length)*U.size u+k - xs.length*U.size u=(i - xs.length)*U.size u+k by omega];exact hv
     rw [getD_of_getElem? hv',Z1m (by omega)];exact hrv.mono hle)
 obtain ⟨c',Φ',hS⟩:=key
 exact ⟨_,_,c',Φ',hrun,hS⟩
end Go.Rf
namespace Go.Rf
set_option linter.unusedVariables false
set_option linter.unusedSimpArgs false
variable {U : QV} {P : Program} {c : Cx} {Φ : Nat -> Nat -> Nat -> Prop} {h : Qr U} {nx : Nat} {w : World}
theorem Z5a (hU:U.Ok) {h':Qr U} {u:U.C} {xs ys:List (U.D u)} {kk:List (Nat×Ent U)} {Φ0:Nat->Nat->Nat->Prop} {t t2 ty e:TypeId} {d2:TypeDesc} {i:TypeInfo} {y:A U} {q:Value} {rd:List Nat} {a:Option Addr} {cap b o b' o' e':Nat} {g:Nat->Nat->Value}
  (hg:G U c Φ h w) (hst:Q5r U c Φ h nx w kk Φ0) (hs:∀i,c.L nx i=none)
  (ht:P.underlying t=some (.slice e)) (ht2:P.underlying t2=some d2) (hd2:ZI d2=true)
  (hi:P.info? e=some i) (hz:i.zero.any (λz=>Nat.beq z.cells.size i.size)=true) (hsz:i.size=U.size u) (hb1:1<=i.bytes) (hs1:1<=i.size) (hroom:room (xs.length+ys.length) i.bytes=true)
  (hx:xs.length<=cap) (hfree:Free U c Φ w kk a b o xs.length cap (U.size u) b' o' e') (ha:0 < xs.length->a=some (at_ b o))
  (hgi:∀i k,i < xs.length->k < U.size u->c.I b (o+(i*U.size u+k))=some (g i k))
  (hr:∀i k,i < xs.length->k < U.size u->R U c ((U.enc u (xs.getD i (U.dft u))).getD k .hole) (g i k))
  (he:elems u y h'=some (ys,rd)) (hag:∀s,s∈rd->get h s=get h' s) (hy:RA U c y q):
  ∃v w' c' Φ',(Builtin.append_ #[t,t2] ty #[.slice a xs.length cap,q]).run P w= .ok v w'/\
   QB U c Φ h nx { v:=Rf.sc (.isl (.own nx) u (xs++ys)),rd:=rd,w:=(nx,.tok)::kk,nw:=1} w c' Φ' v w':=by
 have hq:=Z1G (P:=P) hU he hag hg hy
 by_cases hc:xs.length+ys.length<=cap
 ·exact Qad hU hg hst hs ht ht2 hd2 (by simp [size?,hi,hsz]) hx hfree hgi hr hq hc
 ·cases hzz:i.zero with
  |none=>simp [hzz] at hz
  |some z=>
   rw [hzz] at hz
   have hzs:z.cells.size=i.size:=QH (by simpa using hz)
   have hroom':(xs.length+ys.length)*i.bytes<=140737488355328:=Nat.le_of_ble_eq_true hroom
   exact Z9j hU hg hst hs ht ht2 hd2 hi hzz hsz hzs hb1 hs1 hroom' (Z1f ha λi k h1 h2=>⟨g i k,(hg.drew hU).imm _ _ _ (hgi i k h1 h2),hr i k h1 h2⟩) hq.1
    (Z1G hU he hag (hg.drew hU) hy) (by omega)
theorem Z8I (hU:U.Ok) {h':Qr U} {t t2 ty:TypeId} {x y:A U} {out:Out U} {p q:Value} (ho:(Z1u P t t2 x y h' nx).outs=some out)
  (hag:∀s,s∈out.rd\/s∈out.w.map (·.1)->get h s=get h' s) (hg:G U c Φ h w) (hx:RA U c x p) (hy:RA U c y q)
  (hs:∀i,c.L nx i=none) (hn:get h nx=none):
  ∃v w' c' Φ',(Builtin.append_ #[t,t2] ty #[p,q]).run P w= .ok v w'/\QB U c Φ h nx out w c' Φ' v w':=by
 unfold Z1u at ho
 split at ho
 ·rename_i e ht hd
  split at ho
  ·rename_i u i cx hu hi hel
   cases hb:Nat.beq i.size (U.size u) && Nat.ble 1 i.size && Nat.ble 1 i.bytes && i.zero.any (λz=>Nat.beq z.cells.size i.size) with
   |false=>simp [hb] at ho;exact (Z1 ho).elim
   |true=>
    simp only [hb,cond_true] at ho
    simp only [Bool.and_eq_true] at hb
    obtain ⟨⟨⟨e1,e2⟩,e3⟩,e4⟩:=hb
    have e1:=QH e1
    have e2:=Nat.le_of_ble_eq_true e2
    have e3:=Nat.le_of_ble_eq_true e3
    obtain ⟨d2,ht2,hd2⟩:∃d2,P.underlying t2=some d2/\ZI d2=true:=by
     cases h2:P.underlying t2 with
     |none=>simp [h2] at hd
     |some d2=>
      refine ⟨d2,rfl,?_⟩
      rw [h2] at hd
      cases d2 <;> first|rfl|(cases hd;done)
    split at ho
    ·rename_i xs ys rd hxl hyl
     obtain ⟨hr,rfl⟩:=Zb ho
     obtain ⟨a,cap,b,o,g,rfl,hc,hT,ha,hgi,hrr⟩:=(Z1Y hxl (show R U c cx p from hx)).ex
     have hT:cap=xs.length:=hT
     refine Z5a hU hg (Q5r.none hg hn) hs ht ht2 hd2 hi e4 e1 e3 e2 hr hc (b':=b) (o':=o+xs.length*U.size u) (e':=o+xs.length*U.size u) ⟨λh0=>⟨ha (by omega),rfl,rfl,by rw [hT];exact Nat.le_refl _⟩,λx h1 h2=>by omega⟩ ha hgi hrr hyl (λs hs=>hag s (.inl hs)) hy
    ·rename_i k xs ys rd hxl hyl
     split at ho
     ·rename_i hk'
      obtain ⟨hr,rfl⟩:=Zb ho
      obtain ⟨a,cap,b,o,g,rfl,hc,hT,ha,hgi,hrr⟩:=(Z1Y hxl (show R U c cx p from hx)).ex
      have hk:get h k=some .tok:=by rw [hag k (.inr (by simp))];exact hk'
      obtain ⟨b1,o1,e1',hL0,hL1,hcap⟩:=hT
      obtain ⟨b2,o2,e2',hM0,hM1,hcell,_⟩:=hg.Q1M k _ hk
      rw [hL0] at hM0;cases hM0
      rw [hL1] at hM1;cases hM1
      refine Z5a hU hg (Q5r.one hU hg hn hk) hs ht ht2 hd2 hi e4 e1 e3 e2 hr hc (b':=b1) (o':=o1) (e':=e1') ⟨hcap,λx h1 h2=>?_⟩ ha hgi hrr hyl (λs hs=>hag s (.inl hs)) hy
      obtain ⟨h3,h4,h5⟩:=hcell x h1 h2
      exact ⟨h3,h4,k,by simp,h5⟩
     ·exact (Z1 ho).elim
    ·exact (Z1 ho).elim
  ·exact (Z1 ho).elim
 ·exact (Z1 ho).elim
end Go.Rf
namespace Go.Rf
set_option linter.unusedVariables false
set_option linter.unusedSimpArgs false
variable {U : QV} {P : Program} {c : Cx} {Φ : Nat -> Nat -> Nat -> Prop} {h : Qr U} {nx : Nat} {w : World}
theorem QB.fam (hU:U.Ok) {u:U.C} {n N:Nat} {f:Nat->U.D u} {vs:List Value} {w':World} {rd:List Nat} {a:Option Addr} {cap:Nat} (hg:G U c Φ h w) (hs:∀i,c.L nx i=none) (hn:get h nx=none) (hfr:Fr (λ_ _=>False) w w') (hN:w.heap.size<=N)
  (hpl:U.plain u=true) (hlen:vs.length=n*U.size u) (hc:∀(j:Nat) v,vs[j]? =some v->w'.cell? (at_ N j)=some v) (hf:∀j,j < vs.length->w'.frozen? (at_ N j)=false)
  (hr:∀i k,i < n->k < U.size u->∃v,vs[i*U.size u+k]? =some v/\R U c ((U.enc u (f i)).getD k .hole) v) (hca:n<=cap) (ha:0 < n->a=some (at_ N 0)):
  ∃c' Φ',QB U c Φ h nx { v:=Rf.sc (.sl nx 0 n),rd:=rd,w:= [(nx,.fam true u n f)],nw:=1} w c' Φ' (.slice a n cap) w':=by
 let c':=c.Q21 nx λi=>if i < n then some (N,i*U.size u) else none
 have hle:c.Le c':=Cx.Q4F hs
 have hL:∀i,i < n->c'.L nx i=some (N,i*U.size u):=λi hi=>by simp [c',Cx.Q21,hi]
 have hL1:∀i x,c'.L nx i=some x->i < n:=λi x hx=>by
  simp only [c',Cx.Q21,if_true] at hx
  by_cases hi:i < n
  ·exact hi
  ·simp [hi] at hx
 have hrow:∀i k,i < n->k < U.size u->i*U.size u+k < n*U.size u:=λi k hi hk=>by
  have:(i+1)*U.size u<=n*U.size u:=Nat.mul_le_mul_right _ hi
  rw [Nat.succ_mul] at this;omega
 let F:Nat->Nat->Prop:=λb o=>∃i k,i < n/\k < U.size u/\(b=N/\o=i*U.size u+k)
 have hFN:∀b o,F b o->b=N:=λb o ⟨i,k,_,_,h,_⟩=>h
 have hlt:∀t b o,(get h t).isSome->Φ t b o->b < w.heap.size:=λt b o ht hf=>hg.lt hU ht hf
 have hE:Q1s c' w' nx F (.fam true u n f:Ent U):=by
  refine ⟨λi=>(N,i*U.size u),λi k b o=>b=N/\o=i*U.size u+k,hL,hL1,λi hi=>⟨λk x hx=>?_,λj k b' o' hj hk hne h1 h2=>by omega⟩,λi j k l b o hi hj hk hl hne h1 h2=>?_,λb o=>Iff.rfl,λ_ i hi=>by simp⟩
  ·have hk:k < U.size u:=by rw [←hU.QD u (f i)];exact (List.getElem?_eq_some_iff.1 hx).1
   obtain ⟨v,h1,h2⟩:=hr i k hi hk
   rw [getD_of_getElem? hx] at h2
   exact .cell (h2.mono hle) (hc _ v h1) (hf _ (by rw [hlen];exact hrow i k hi hk)) λ_ _=>Iff.rfl
  ·have e:i*U.size u+k=j*U.size u+l:=by omega
   rcases Nat.lt_or_gt_of_ne hne with h4|h4
   ·have:(i+1)*U.size u<=j*U.size u:=Nat.mul_le_mul_right _ h4
    rw [Nat.succ_mul] at this;omega
   ·have:(j+1)*U.size u<=i*U.size u:=Nat.mul_le_mul_right _ h4
    rw [Nat.succ_mul] at this;omega
 refine ⟨c',fup Φ nx F,{ le:=hle,L:=λs i hsi _=>?_,val:= ?_,g:= ?_,fr:=hfr.mono λ_ _ _ h=>h.elim,Q2p:=λs hsn=>?_,Q2g:=λs b o hsn hf=>?_,names:=λs hsn=>?_,Q32:=λ_ _ _ h=>.inl h}⟩
 ·have:s≠nx:=λe=>hsi (by subst e;simp)
  simp [c',Cx.Q21,this]
 ·refine R.sl (b:=N) (o:=0) hca (λh0=>⟨by rw [hL 0 h0];simp,ha h0⟩) λj hj=>⟨_,by rw [Nat.zero_add];exact hL j hj⟩
 ·refine hg.put hU hle (λt i ht=>by simp [c',Cx.Q21,ht]) hE (λt _ h1=>hfr.agr (λb o hf=>hlt t b o h1 hf) (λ_ _ _ h=>h))
   (λt b o _ h1 hf hF=>by have:=hlt t b o h1 hf;rw [hFN b o hF] at this;omega)
   (λb o v hv=>(hfr.cell b o (Zf (hg.imm b o v hv)) (λh=>h)).trans (hg.imm b o v hv))
   (λt b o _ h1 hf=>hg.Q15 t b o h1 hf)
   (λb o hF=>?_)
  cases hI:c.I b o with
  |none=>exact hI
  |some v=>
   have:=Zf (hg.imm b o v hI)
   rw [hFN b o hF] at this
   omega
 ·simp at hsn;simp [fup,hsn]
 ·simp at hsn;subst hsn
  simp [fup] at hf
  exact .inl (by rw [hFN b o hf];exact hN)
 ·simp at hsn;subst hsn;exact .inl (by simp)
theorem Z7C (hU:U.Ok) {h':Qr U} {t t2 ty:TypeId} {x y:A U} {r:OpR U} {out:Out U} {p q:Value} (hro:Z1N P t t2 x y h' nx=some r) (ho:r.outs=some out)
  (hag:∀s,s∈out.rd\/s∈out.w.map (·.1)->get h s=get h' s) (hg:G U c Φ h w) (hx:RA U c x p) (hy:RA U c y q)
  (hs:∀i,c.L nx i=none) (hn:get h nx=none):
  ∃v w' c' Φ',(Builtin.append_ #[t,t2] ty #[p,q]).run P w= .ok v w'/\QB U c Φ h nx out w c' Φ' v w':=by
 unfold Z1N at hro
 split at hro
 ·rename_i e e2 cx tk v zs ht ht2
  split at hro
  ·rename_i u i hu hi
   cases hb:Nat.beq i.size (U.size u) && Nat.ble 1 i.size && Nat.ble 1 i.bytes && i.zero.any (λz=>Nat.beq z.cells.size i.size) && U.plain u with
   |false=>rw [hb] at hro;cases hro
   |true=>
    rw [hb] at hro
    simp only [cond_true] at hro
    simp only [Bool.and_eq_true] at hb
    obtain ⟨⟨⟨⟨e1,e2'⟩,e3⟩,e4⟩,e5⟩:=hb
    have e1:=QH e1
    have e2':=Nat.le_of_ble_eq_true e2'
    have e3:=Nat.le_of_ble_eq_true e3
    split at hro
    ·rename_i ys rd hxl hyl
     cases hro
     obtain ⟨hr,rfl⟩:=Zb ho
     obtain ⟨a,cap,b,o,g,rfl,hc,hT,ha,hgi,hrr⟩:=(Z1Y hxl (show R U c cx p from hx)).ex
     have hT:cap=0:=hT
     subst hT
     have hq:=Z1G (P:=P) hU hyl (λs hs=>hag s (.inl hs)) hg hy
     have hq2:=Z1G (P:=P) hU hyl (λs hs=>hag s (.inl hs)) (hg.drew hU) hy
     obtain ⟨hl,vs0,hvl0,hfc0,hone0,hrows0⟩:=hq
     obtain ⟨_,vs,hvl,hfc,hone,hrows⟩:=hq2
     have hd2:ZI (.slice e2)=true:=rfl
     by_cases h0:ys.length=0
     ·have hvs:vs0= []:=List.eq_nil_of_length_eq_zero (by rw [hvl0,h0];simp)
      subst hvs
      have hrun:=Z1V (P:=P) (w:=w) (w':=w) (t:=t) (t2:=t2) (ty:=ty) (n:=0) (m:=ys.length) (cap:=0) (base:=a) ht ht2 hd2 (by simp [size?,hi,e1]) hl hfc0 (by omega) (λx _=>by simp [storeCells]) (λ_=>rfl)
      obtain ⟨c',Φ',hS⟩:=QB.fam (nx:=nx) (rd:=rd) (f:=λj=>ys.getD j (U.dft u)) (n:=ys.length) (vs:= []) (a:=a) (cap:=0) (N:=w.heap.size) hU hg hs hn (Fr.refl _ w) (Nat.le_refl _) e5 (by rw [h0];simp) (λj v hv=>by simp at hv) (λj hj=>by simp at hj) (λi k hi=>by omega) (by omega) (λh=>by omega)
      exact ⟨_,_,c',Φ',by have:=hrun;simp only [Nat.zero_add] at this;exact this,hS⟩
     ·cases hzz:i.zero with
      |none=>simp [hzz] at e4
      |some z=>
       rw [hzz] at e4
       have hzs:z.cells.size=i.size:=QH (by simpa using e4)
       have hroom':ys.length*i.bytes<=140737488355328:=Nat.le_of_ble_eq_true hr
       have h63:ys.length<=9223372036854775807:=by
        have:ys.length*1<=ys.length*i.bytes:=Nat.mul_le_mul_left _ e3
        omega
       have hfo:(Builtin.firstCells i.size 0 (.slice a 0 0)).run P w.drew= .ok ([]:List Value).toArray w.drew:=by
        obtain ⟨_,os,hol,hoc,_,_⟩:=(Z1f (P:=P) (c:=c) (w:=w.drew) (u:=u) (ys:= []) (a:=a) (cap:=0) (b:=b) (o:=o) (λhh=>by simp at hh) (λi k hi=>by simp at hi):Z1t U c w.drew P u [] (.slice a 0 0))
        have:os= []:=List.eq_nil_of_length_eq_zero (by rw [hol];simp)
        subst this
        rw [e1];exact hoc
       have hrun:=Z2i (P:=P) (w:=w) (t:=t) (t2:=t2) (ty:=ty) (n:=0) (m:=ys.length) (cap:=0) (base:=a) (olds:= []) ht ht2 hd2 hi hzz hl (by rw [e1];exact hfc) hfo (by omega) (by simpa using hroom') (by simpa using h63)
       generalize hA:([]:List Value).toArray++vs.toArray++Builtin.zeroCells z.cells (grownCap w (0+ys.length) 0 e - (0+ys.length))=arr at hrun
       have hge:=grownCap_ge w (0+ys.length) 0 e
       have harr:∀(j:Nat) v,vs[j]? =some v->arr[j]? =some v:=λj v hv=>by
        have hlt:=(List.getElem?_eq_some_iff.1 hv).1
        rw [←hA,Array.getElem?_append_left (by simpa using hlt)]
        simpa using hv
       have hcell:∀x,(w.drew.alloc (.cells arr e)).cell? (at_ w.heap.size x)=arr[x]? :=λx=>World.cell?_alloc_new w.drew arr e x
       obtain ⟨c',Φ',hS⟩:=QB.fam (nx:=nx) (rd:=rd) (f:=λj=>ys.getD j (U.dft u)) (n:=ys.length) (vs:=vs) (a:=some (at_ w.heap.size 0)) (cap:=grownCap w (0+ys.length) 0 e) (N:=w.heap.size) hU hg hs hn
        ((Fr.drew _ w).trans (Fr.alloc _ w.drew _) (λb o hb hf=>hf)) (Nat.le_refl _) e5 hvl (λj v hv=>by rw [hcell];exact harr j v hv) (λj hj=>World.frozen?_alloc_at (w:=w.drew) arr e w.heap.size j rfl) hrows (by omega) (λ_=>rfl)
       exact ⟨_,_,c',Φ',by have:=hrun;simp only [Nat.zero_add] at this hS ⊢;exact this,by simpa using hS⟩
    ·cases hro
  ·cases hro
 ·cases hro
theorem Z99 {h':Qr U} {t t2:TypeId} {x y:A U} {out:Out U} (ho:(Z1u P t t2 x y h' nx).outs=some out):out.nw=1:=by
 unfold Z1u at ho
 split at ho
 ·split at ho
  ·cases hb:(Nat.beq _ _ && _ && _ && _:Bool) with
   |false=>rw [hb] at ho;exact (Z1 ho).elim
   |true=>
    rw [hb] at ho
    simp only [cond_true] at ho
    split at ho
    ·obtain ⟨_,rfl⟩:=Zb ho;rfl
    ·split at ho
     ·obtain ⟨_,rfl⟩:=Zb ho;rfl
     ·exact (Z1 ho).elim
    ·exact (Z1 ho).elim
  ·exact (Z1 ho).elim
 ·exact (Z1 ho).elim
theorem Z6Z {h':Qr U} {t t2:TypeId} {x y:A U} {r:OpR U} {out:Out U} (hro:Z1N P t t2 x y h' nx=some r) (ho:r.outs=some out):out.nw=1:=by
 unfold Z1N at hro
 split at hro
 ·split at hro
  ·cases hb:(Nat.beq _ _ && _ && _ && _ && _:Bool) with
   |false=>rw [hb] at hro;cases hro
   |true=>
    rw [hb] at hro
    simp only [cond_true] at hro
    split at hro
    ·cases hro
     obtain ⟨_,rfl⟩:=Zb ho;rfl
    ·cases hro
  ·cases hro
 ·cases hro
theorem Z8s (hU:U.Ok) {h':Qr U} {row:Bool} {t t2 ty:TypeId} {x y:A U} {out:Out U} {p q:Value} (ho:(Z4g P row t t2 x y h' nx).outs=some out)
  (hag:∀s,s∈out.rd\/s∈out.w.map (·.1)->get h s=get h' s) (hg:G U c Φ h w) (hx:RA U c x p) (hy:RA U c y q)
  (hf:0 < out.nw->get h nx=none/\∀i,c.L nx i=none):
  ∃v w' c' Φ',(Builtin.append_ #[t,t2] ty #[p,q]).run P w= .ok v w'/\QB U c Φ h nx out w c' Φ' v w':=by
 have plain:(Z1u P t t2 x y h' nx).outs=some out->∃v w' c' Φ',(Builtin.append_ #[t,t2] ty #[p,q]).run P w= .ok v w'/\QB U c Φ h nx out w c' Φ' v w':=λho=>by
  obtain ⟨hn,hs⟩:=hf (by rw [Z99 ho];decide)
  exact Z8I (ty:=ty) hU ho hag hg hx hy hs hn
 unfold Z4g at ho
 cases row with
 |false=>exact plain ho
 |true=>
  simp only [cond_true] at ho
  split at ho
  ·rename_i r hr
   obtain ⟨hn,hs⟩:=hf (by rw [Z6Z hr ho];decide)
   exact Z7C (ty:=ty) hU hr ho hag hg hx hy hs hn
  ·exact plain ho
end Go.Rf
namespace Go.Rf
set_option linter.unusedVariables false
set_option linter.unusedSimpArgs false
variable {U : QV} {P : Program} {c : Cx} {Φ : Nat -> Nat -> Nat -> Prop} {h : Qr U} {nx : Nat} {w : World}
theorem Z5S (hU:U.Ok) {h':Qr U} {src dst:TypeId} {x:A U} {out:Out U} {p:Value} (ho:(Z37 P src dst x h').outs=some out)
    (hag:∀s,s∈out.rd->get h s=get h' s) (hg:G U c Φ h w) (hx:RA U c x p):
    ∃v w' c' Φ',(convert src dst p).run P w= .ok v w'/\QB U c Φ h nx out w c' Φ' v w':=by
  unfold Z37 at ho
  split at ho
  · rename_i s
    cases R.Q1z (show R U c _ p from hx)
    split at ho
    · rename_i hs hd
      have:=Zx ho;subst this
      exact ⟨_,w,c,Φ,by simp [convert,run_underlying hs,run_underlying hd],QB.pure hg (.val rfl)⟩
    · rename_i e hs hd
      split at ho
      · rename_i he
        have:=Zx ho;subst this
        obtain ⟨hlen,henc⟩:=hU.ofBytes s.data.toList
        have hs1:=hU.u8
        have hrun:=run_bytes_of_string (P:=P) w src dst e s hs hd he
        have hge:=grownCap_ge w s.size 0 e
        have hsl:(U.ofBytes s.data.toList).length=s.size:=by rw [hlen];rfl
        refine ⟨_,_,c.Q3Z w.heap.size s.size (λo=>.int .u8 ((s.data.toList.getD o 0).toNat:Int)),Φ,hrun,QB.imm hU hg ((Fr.drew _ w).trans (Fr.alloc _ w.drew _) λ_ _ _ h=>h) (λo ho=>?_) ?_⟩
        · have h1:=World.cell?_alloc_mark w.drew (bytesRow s (grownCap w s.size 0 e)) e ((bytesRow s (grownCap w s.size 0 e)).size,(bytesRow s (grownCap w s.size 0 e)).size+1) o
          have h2:=bytesRow_at s (grownCap w s.size 0 e) o ho
          rw [h2] at h1
          refine h1.trans ?_
          have:s.data.toList.getD o 0=s.data[o]:=by
            rw [getD_of_getElem? (x:=s.data[o])]
            rw [Array.getElem?_toList];exact Array.getElem?_eq_getElem ho
          rw [this]
        · have hmain : R U (c.Q3Z w.heap.size s.size (λo =>.int .u8 ((s.data.toList.getD o 0).toNat : Int))) (.isl .none U.u8 (U.ofBytes s.data.toList)) (.slice (some (at_ w.heap.size 0)) (U.ofBytes s.data.toList).length (grownCap w s.size 0 e)) := by
            refine R.isl (b:=w.heap.size) (o:=0) (λi k=>.int .u8 ((s.data.toList.getD i 0).toNat:Int)) (by rw [hsl];exact hge) trivial (λ_=>rfl) (λi k hi hk=>?_) (λi k hi hk=>?_)
            · rw [hs1] at hk ⊢
              rw [hsl] at hi
              have:k=0:=by omega
              subst this
              simp only [Cx.Q3Z,Nat.zero_add,Nat.mul_one,Nat.add_zero]
              rw [if_pos ⟨trivial,hi⟩]
            · rw [hs1] at hk
              have:k=0:=by omega
              subst this
              rw [hlen] at hi
              rw [henc i hi]
              exact .val (Z3T _)
          rw [hsl] at hmain
          exact hmain
      · exact (Z1 ho).elim
    · exact (Z1 ho).elim
  · rename_i tk u xs
    split at ho
    · rename_i e hs hd
      split at ho
      · rename_i bs he hb
        have:=Zx ho;subst this
        obtain ⟨h1,h2,h3⟩:=hU.Q5k u xs bs hb
        cases (show R U c _ p from hx) with
        | @isl _ _ _ a cap b o g hc ht ha hi hr=>
          refine ⟨.string ⟨bs.toArray⟩,w,c,Φ,?_,QB.pure hg (.val rfl)⟩
          rw [←h2]
          cases a with
          |none=>
            have h0 : xs.length = 0 := by rcases Nat.eq_zero_or_pos xs.length with h | h; · exact h
                                          · have:=ha h;cases this
            have:bs= []:=List.eq_nil_of_length_eq_zero (by omega)
            subst this
            rw [run_convert_bytes_string w src dst e none _ cap hs he hd]
            rfl
          |some x=>
            refine run_convert_bytes_back w src dst e x cap bs hs he hd λj hj=>?_
            have:=ha (by omega)
            cases this
            have h4:=hi j 0 (by omega) (by omega)
            have h5:=hr j 0 (by omega) (by omega)
            rw [h3 j (by omega)] at h5
            have h6:=hg.imm _ _ _ h4
            rw [h1,Nat.mul_one,Nat.add_zero] at h6
            rw [Zq,h6,R.Q1z (show R U c (.val _) _ from h5)]
            rw [getD_of_getElem? (List.getElem?_eq_getElem hj)]
      · exact (Z1 ho).elim
    · exact (Z1 ho).elim
  · rename_i s b n
    split at ho
    · rename_i e hs hd
      split at ho
      · rename_i ys rd he hel
        split at ho
        · rename_i bs hb
          have:=Zx ho;subst this
          obtain ⟨h1,h2,h3⟩:=hU.Q5k U.u8 ys bs hb
          unfold elems at hel
          simp only [] at hel
          split at hel
          · rename_i v nn f hgs
            cases hpl:U.plain v with
            |false=>rw [hpl] at hel;cases hel
            |true=>
            rw [hpl] at hel
            simp only [cond_true] at hel
            split at hel
            · rename_i e' _
              subst e'
              cases hel
              have he':get h s=some (.fam true U.u8 nn f):=by rw [hag s (by simp)];exact hgs
              obtain ⟨A,hA,hA1,hh2,hct⟩:=(hg.Q1M s _ he').Q6y
              cases (show R U c _ p from hx) with
              | @sl _ _ _ cap b' o' a' hc ha' hl'=>
                have hlen:((List.range n).map λj=>f (b+j)).length=n:=by simp
                rw [hlen] at h2 h3
                refine ⟨.string ⟨bs.toArray⟩,w,c,Φ,?_,QB.pure hg (.val rfl)⟩
                by_cases hn0:n=0
                · subst hn0
                  have:bs= []:=List.eq_nil_of_length_eq_zero (by omega)
                  subst this
                  rw [run_convert_bytes_string w src dst e _ _ cap hs he hd]
                  cases a' <;> rfl
                · have hpos:0 < n:=by omega
                  obtain ⟨hL,ha1⟩:=ha' hpos
                  subst ha1
                  have hgoal:=run_convert_bytes_back (P:=P) w src dst e (at_ b' o') cap bs hs he hd λj hj=>by
                    obtain ⟨x,hx'⟩:=hl' j (by omega)
                    have hin:=hA1 _ _ hx'
                    have hb0:=hA1 _ _ hL
                    have e4:=hct rfl b hb0
                    have e5:=hct rfl (b+j) hin
                    have e6:=hA b hb0
                    rw [hL] at e6
                    simp only [Option.some.injEq] at e6
                    have hkl:0 < (U.enc U.u8 (f (b+j))).length:=by rw [hU.QD,h1];decide
                    have hcl:=hU.Q52 U.u8 (f (b+j)) hpl
                    rw [List.all_eq_true] at hcl
                    obtain ⟨⟨v',hv',hr'⟩,_⟩:=hh2 (b+j) 0 _ hin (List.getElem?_eq_getElem hkl) (hcl _ (List.getElem_mem hkl))
                    rw [←getD_of_getElem? (d:=S.hole) (List.getElem?_eq_getElem hkl)] at hr'
                    have h5:=h3 j (by omega)
                    rw [show ((List.range n).map λj=>f (b+j)).getD j (U.dft U.u8)=f (b+j) by simp [List.getD,List.getElem?_map,List.getElem?_range (show j < n by omega)]] at h5
                    rw [h5] at hr'
                    have hv:=R.Q1z (show R U c (.val (.int .u8 ((bs.getD j 0).toNat:Int))) v' from hr')
                    rw [e5] at hv'
                    rw [←e6] at e4
                    simp only [Prod.mk.injEq] at e4
                    rw [h1,Nat.mul_one] at e4
                    rw [h1,Nat.mul_one,Nat.add_zero] at hv'
                    rw [Zq,e4.1,e4.2,show (A 0).2+b+j=(A 0).2+(b+j) by omega,hv',hv]
                    rw [getD_of_getElem? (List.getElem?_eq_getElem hj)]
                  rw [h2] at hgoal
                  exact hgoal
            · cases hel
          · cases hel
        · exact (Z1 ho).elim
      · exact (Z1 ho).elim
    · exact (Z1 ho).elim
  · rename_i n
    split at ho
    · rename_i d k hs hd
      have:=Zx ho;subst this
      cases R.Q1z (show R U c _ p from hx)
      refine ⟨.int k (k.wrap n),w,c,Φ,?_,QB.pure hg (.val (Z3W _ _))⟩
      simp [convert,run_underlying hs,run_underlying hd,Conv.intToInt]
    · rename_i d k hs hd
      have:=Zx ho;subst this
      cases R.Q1z (show R U c _ p from hx)
      refine ⟨.float k (floatOfInt k n),w,c,Φ,?_,QB.pure hg (.val rfl)⟩
      simp [convert,run_underlying hs,run_underlying hd,Conv.intToFloat,floatOfInt]
    · exact (Z1 ho).elim
  · rename_i s b
    split at ho
    · rename_i d hs hd
      obtain ⟨n,hn,rfl⟩:=Z48 ho
      cases R.Q1z (show R U c _ p from hx)
      exact ⟨.int .i64 n,w,c,Φ,run_convert_float_int w src dst s .i64 b n (by rw [hs];rfl) hd hn,QB.pure hg (.val rfl)⟩
    · exact (Z1 ho).elim
  · rename_i a _
    split at ho
    · rename_i v hv
      cases hb:okR v with
      |false=>simp [hb] at ho;exact (Z1 ho).elim
      |true=>
        simp only [hb,cond_true] at ho
        have:=Zl ho;subst this
        cases R.Q1z (show R U c _ p from hx)
        exact ⟨v,w,c,Φ,Z40 hv w,QB.pure hg (.val (Z77 hb))⟩
    · exact (Z1 ho).elim
  · exact (Z1 ho).elim
end Go.Rf
namespace Go.Rf
set_option linter.unusedVariables false
set_option linter.unusedSimpArgs false
variable {U : QV} {P : Program} {c : Cx} {Φ : Nat -> Nat -> Nat -> Prop} {h : Qr U} {nx : Nat} {w : World}
theorem Z6K (hU:U.Ok) {src dst:TypeId} {x:A U} {r:OpR U} {out:Out U} {p:Value} (hro:Z26 P src dst x nx=some r) (ho:r.outs=some out)
  (hg:G U c Φ h w) (hx:RA U c x p) (hs:∀i,c.L nx i=none) (hn:get h nx=none):
  ∃v w' c' Φ',(convert src dst p).run P w= .ok v w'/\QB U c Φ h nx out w c' Φ' v w':=by
 unfold Z26 at hro
 split at hro
 ·rename_i s
  cases R.Q1z (show R U c _ p from hx)
  split at hro
  ·rename_i e hsr hd
   split at hro
   ·rename_i he
    cases hpl:U.plain U.u8 with
    |false=>rw [hpl] at hro;cases hro
    |true=>
     rw [hpl] at hro
     cases hro
     have:=Zx ho;subst this
     obtain ⟨hlen,henc⟩:=hU.ofBytes s.data.toList
     have hs1:=hU.u8
     have hrun:=run_bytes_of_string (P:=P) w src dst e s hsr hd he
     have hge:=grownCap_ge w s.size 0 e
     have hat:∀o,o < s.size->(bytesRow s (grownCap w s.size 0 e))[o]? =some (.int .u8 ((s.data.toList.getD o 0).toNat:Int)):=λo ho=>by
      rw [bytesRow_at s (grownCap w s.size 0 e) o ho]
      have:s.data.toList.getD o 0=s.data[o]:=by
       rw [getD_of_getElem? (x:=s.data[o])]
       rw [Array.getElem?_toList];exact Array.getElem?_eq_getElem ho
      rw [this]
     have hsz:(s.data.toList).length=s.size:=rfl
     obtain ⟨c',Φ',hS⟩:=QB.fam (nx:=nx) (rd:= []) (u:=U.u8) (f:=λj=>(U.ofBytes s.data.toList).getD j (U.dft U.u8)) (n:=s.size) (vs:=s.data.toList.map λb=>Value.int .u8 (b.toNat:Int)) (a:=some (at_ w.heap.size 0)) (cap:=grownCap w s.size 0 e) (N:=w.heap.size)
      (w':=w.drew.alloc (.cells (bytesRow s (grownCap w s.size 0 e)) e ((bytesRow s (grownCap w s.size 0 e)).size,(bytesRow s (grownCap w s.size 0 e)).size+1))) hU hg hs hn
      ((Fr.drew _ w).trans (Fr.alloc _ w.drew _) λ_ _ _ h=>h) (Nat.le_refl _) hpl (by rw [hs1,List.length_map,hsz,Nat.mul_one]) (λj v hv=>by
       have hj:j < s.size:=by
        have:=(List.getElem?_eq_some_iff.1 hv).1
        rwa [List.length_map,hsz] at this
       refine (World.cell?_alloc_mark w.drew _ e _ j).trans ?_
       rw [hat j hj,←hv,List.getElem?_map,List.getElem?_eq_getElem (by rw [hsz];exact hj)]
       simp [List.getD,List.getElem?_eq_getElem (show j < s.data.toList.length by rw [hsz];exact hj)]) (λj hj=>by
       rw [List.length_map,hsz] at hj
       have h1:j < (bytesRow s (grownCap w s.size 0 e)).size:=(Array.getElem?_eq_some_iff.1 (hat j hj)).1
       refine (World.frozen?_alloc_mark w.drew _ e _ _ j).trans ?_
       simp;omega) (λi k hi hk=>by
       rw [hs1] at hk ⊢
       have hk0:k=0:=by omega
       subst hk0
       have hi':i < s.data.toList.length:=by rw [hsz];exact hi
       rw [henc i hi']
       refine ⟨.int .u8 ((s.data.toList.getD i 0).toNat:Int),?_,.val (Z3T _)⟩
       simp only [Nat.mul_one,Nat.add_zero,List.getElem?_map,List.getElem?_eq_getElem hi',Option.map_some,List.getD,Option.getD_some]) hge (λ_=>rfl)
     exact ⟨_,_,c',Φ',hrun,hS⟩
   ·cases hro
  ·cases hro
 ·cases hro
theorem Z7T (hU:U.Ok) {h':Qr U} {row:Bool} {src dst:TypeId} {x:A U} {out:Out U} {p:Value} (ho:(Z3Q P row src dst x h' nx).outs=some out)
  (hag:∀s,s∈out.rd\/s∈out.w.map (·.1)->get h s=get h' s) (hg:G U c Φ h w) (hx:RA U c x p) (hf:1<=out.nw->get h nx=none/\∀i,c.L nx i=none):
  ∃v w' c' Φ',(convert src dst p).run P w= .ok v w'/\QB U c Φ h nx out w c' Φ' v w':=by
 unfold Z3Q at ho
 cases row with
 |false=>exact Z5S hU ho (λs hs=>hag s (.inl hs)) hg hx
 |true=>
  simp only [cond_true] at ho
  split at ho
  ·rename_i r hr
   have hnw:out.nw=1:=by
    unfold Z26 at hr
    split at hr
    ·split at hr
     ·split at hr
      ·cases hpl:U.plain U.u8 with
       |false=>rw [hpl] at hr;cases hr
       |true=>rw [hpl] at hr;cases hr;have:=Zx ho;subst this;rfl
      ·cases hr
     ·cases hr
    ·cases hr
   obtain ⟨h1,h2⟩:=hf (by omega)
   exact Z6K hU hr ho hg hx h2 h1
  ·exact Z5S hU ho (λs hs=>hag s (.inl hs)) hg hx
end Go.Rf
namespace Go.Rf
set_option linter.unusedVariables false
set_option linter.unusedSimpArgs false
variable {U : QV} {P : Program} {c : Cx} {Φ : Nat -> Nat -> Nat -> Prop} {h : Qr U} {nx : Nat} {w : World}
theorem Z46 {n sz j:Nat} (hsz:0 < sz) (hj:j < n*sz):j / sz < n/\j % sz < sz/\j / sz*sz+j % sz=j:=⟨(Nat.div_lt_iff_lt_mul hsz).2 hj,Nat.mod_lt j hsz,Nat.div_add_mod' j sz⟩
theorem Z7i {i n k m:Nat} (hi:i < n) (hk:k < m):i*m+k < n*m:=by
 have:(i+1)*m<=n*m:=Nat.mul_le_mul_right _ hi
 rw [Nat.succ_mul] at this
 omega
theorem Z9D (hU:U.Ok) {h':Qr U} {t t2 ty:TypeId} {e:TypeId} {s off b n s' off' b' n' len len2:Nat} {cells cells':List U.S} {v:U.C} {f f':Nat->U.D v} {p q:Value}
  (hu:P.underlying t=some (.slice e)) (hsz:size? P e=some (U.size v)) (hpl:U.plain v=true) (b3:1<=U.size v) (hes:get h s=some (.obj cells)) (hc0:cells[off]? =some (.Q1n v len f))
  (he2:get h' s'=some (.obj cells')) (hag2:get h s'=get h' s') (hc2:cells'[off']? =some (.Q1n v len2 f'))
  (hg:G U c Φ h w) (hx:RA U c (.v ⟨false,[.asl s off (U.size v) len b n]⟩) p) (hy:RA U c (.v ⟨false,[.asl s' off' (U.size v) len2 b' n']⟩) q) (heq:∃z,U.eq? v v=some ⟨z⟩):
  ∃u w' c' Φ',(Builtin.copy_ #[t,t2] ty #[p,q]).run P w= .ok u w'/\QB U c Φ h nx { v:=scv (.int .i64 ((Nat.min n' n:Nat):Int)),rd:= [s'],w:= [(s,.obj (Zn off (.Q1n v len λi=>bif Nat.ble b i && Nat.blt i (b+Nat.min n' n) then f' (b'+(i - b)) else f i) cells))]} w c' Φ' u w':=by
 obtain ⟨z,hz⟩:=heq
 generalize hM:Nat.min n' n=M at*
 have hMn:M<=n:=by rw [←hM];exact Nat.min_le_right _ _
 have hMn':M<=n':=by rw [←hM];exact Nat.min_le_left _ _
 cases (show R U c _ p from hx) with
 | @asl _ _ _ _ _ _ cap bb oo a hc hbn hL ha=>
 cases (show R U c _ q from hy) with
 | @asl _ _ _ _ _ _ cap' bb' oo' a' hc' hbn' hL' ha'=>
 have hel:elems v (.v ⟨false,[.asl s' off' (U.size v) len2 b' M]⟩:A U) h'=some ((List.range M).map λj=>f' (b'+j),[s']):=by
  unfold elems
  simp only [he2,hc2,hpl,Nat.beq_refl,Bool.and_self,Bool.true_and,cond_true,hz]
 have hsrc:Z1t U c w P v ((List.range M).map λj=>f' (b'+j)) (.slice a' M cap'):=Z1G hU hel (λz hz=>by simp at hz;subst hz;exact hag2) hg
  (show RA U c (.v ⟨false,[.asl s' off' (U.size v) len2 b' M]⟩) _ from R.asl (b:=bb') (o:=oo') (by omega) (by omega) hL' (λhp=>ha' (by omega)))
 obtain ⟨_,vs,hvl,hfc,hone,hrows⟩:=hsrc
 have hyl:((List.range M).map λj=>f' (b'+j)).length=M:=by simp
 rw [hyl] at hvl hfc hrows
 have hfc':(Builtin.firstCells (U.size v) M (.slice a' n' cap')).run P w= .ok vs.toArray w:=by
  cases a' <;> exact hfc
 obtain ⟨bq,oq,Gk,h0,h1,h2,h3⟩:=hg.Q1M s _ hes
 rw [hL] at h0;cases h0
 have hlt:=(List.getElem?_eq_some_iff.1 hc0).1
 cases h2.own off _ hc0 with
 |cell hr _ _ _=>cases hr
 |Q1n Gn hk hd hF=>
 have hcell:∀i,(U.enc v (f i)).all Ze=true:=λi=>hU.Q52 _ _ hpl
 generalize hQ:oo+off+b*U.size v=Q at*
 have hrowle:∀i k,i < M->k < U.size v->(b+i)*U.size v+k < len*U.size v:=λi k hi hk=>by
  have:(b+i+1)*U.size v<=len*U.size v:=Nat.mul_le_mul_right _ (by omega)
  rw [Nat.succ_mul] at this;omega
 have hpt:∀i k,i < M->k < U.size v->(∃u,w.cell? (at_ bb (Q+(i*U.size v+k)))=some u)/\w.frozen? (at_ bb (Q+(i*U.size v+k)))=false/\∀b2 o2,Gn ((b+i)*U.size v+k) b2 o2↔b2=bb/\o2=Q+(i*U.size v+k):=λi k hi hk'=>by
  have hkl:k < (U.enc v (f (b+i))).length:=by rw [hU.QD];exact hk'
  have hcl:=hcell (b+i)
  rw [List.all_eq_true] at hcl
  have:=(hk ((b+i)*U.size v+k) _ (by rw [Z1j hU v len f (by omega) hk'];exact List.getElem?_eq_getElem hkl)).plain (hcl _ (List.getElem_mem hkl))
  rw [show oo+off+((b+i)*U.size v+k)=Q+(i*U.size v+k) by rw [←hQ,Nat.add_mul];omega] at this
  obtain ⟨⟨u,q4,_⟩,q5,q6⟩:=this
  exact ⟨⟨u,q4⟩,q5,q6⟩
 have hth:∀j,j < vs.length->(w.cell? (at_ bb (Q+j))).isSome=true/\w.frozen? (at_ bb (Q+j))=false/\Gk off bb (Q+j):=λj hj=>by
  rw [hvl] at hj
  obtain ⟨r1,r2,r3⟩:=Z46 (by omega) hj
  obtain ⟨⟨u,q1⟩,q2,q3⟩:=hpt _ _ r1 r2
  rw [r3] at q1 q2 q3
  exact ⟨by rw [q1];rfl,q2,(hF _ _).2 ⟨_,hrowle _ _ r1 r2,(q3 _ _).2 ⟨rfl,rfl⟩⟩⟩
 have hrun:(Builtin.copy_ #[t,t2] ty #[.slice a n cap,.slice a' n' cap']).run P w= .ok (goInt M) (w.setCells bb Q vs):=by
  unfold Builtin.copy_
  rcases Nat.eq_zero_or_pos M with hz|hpos
  ·have hvs:vs= []:=List.eq_nil_of_length_eq_zero (by rw [hvl,hz];simp)
   subst hvs
   cases a with
   |none=>simp [run_underlying hu,Builtin.lenOf,Za hsz,hM,hfc',World.setCells]
   |some ad=>simp [run_underlying hu,Builtin.lenOf,Za hsz,hM,hfc',World.setCells,storeCells]
  ·have:=ha (by omega)
   subst this
   have hst:=run_storeCells_cells (P:=P) bb Q vs 0 w (λj hj=>by simpa using (hth j hj).1) (λj hj=>by simpa using (hth j hj).2.1) hone
   simp only [Nat.add_zero] at hst
   simp [run_underlying hu,Builtin.lenOf,Za hsz,hM,hfc',hst]
 have hfr:Fr (λb2 o2=>b2=bb/\Q<=o2/\o2 < Q+vs.length) w (w.setCells bb Q vs):=Fr.setCells λj hj=>⟨rfl,by omega,by omega⟩
 have hsome:(get h s).isSome:=by rw [hes];rfl
 have hinG:∀b2 o2,(b2=bb/\Q<=o2/\o2 < Q+vs.length)->Gk off b2 o2:=λb2 o2 ⟨q1,q2,q3⟩=>by
  subst q1
  have:=(hth (o2 - Q) (by omega)).2.2
  rwa [show Q+(o2 - Q)=o2 by omega] at this
 have hinΦ:∀b2 o2,(b2=bb/\Q<=o2/\o2 < Q+vs.length)->Φ s b2 o2:=λb2 o2 hq=>(h3 _ _).2 ⟨off,hlt,hinG _ _ hq⟩
 have hOn:Own U c (w.setCells bb Q vs) bb (oo+off) (.Q1n v len λi=>bif Nat.ble b i && Nat.blt i (b+M) then f' (b'+(i - b)) else f i) (Gk off):=by
  refine .Q1n Gn (λx y hy=>?_) hd hF
  obtain ⟨i,k,hi,hk',rfl,hy'⟩:=Z2K hU v len _ hy
  by_cases hr:b<=i/\i < b+M
  ·have hcond:(Nat.ble b i && Nat.blt i (b+M))=true:=by
    rw [Bool.and_eq_true];exact ⟨Nat.ble_eq_true_of_le hr.1,Nat.ble_eq_true_of_le hr.2⟩
   simp only [hcond,cond_true] at hy'
   obtain ⟨j,rfl⟩:∃j,i=b+j:=⟨i - b,by omega⟩
   have hjM:j < M:=by omega
   rw [show b+j - b=j by omega] at hy'
   obtain ⟨⟨u0,q1⟩,q2,q3⟩:=hpt j k hjM hk'
   obtain ⟨u1,q4,q5⟩:=hrows j k hjM hk'
   have q6:((List.range M).map λj=>f' (b'+j)).getD j (U.dft v)=f' (b'+j):=by simp [List.getD,List.getElem?_map,List.getElem?_range hjM]
   rw [q6,getD_of_getElem? hy'] at q5
   rw [show oo+off+((b+j)*U.size v+k)=Q+(j*U.size v+k) by rw [←hQ,Nat.add_mul];omega]
   exact .cell q5 (Zy (λj hj=>(hth j hj).1) q4) ((World.frozen?_setCells _ _ _ _ _).trans q2) q3
  ·have hcond:(Nat.ble b i && Nat.blt i (b+M))=false:=by
    cases hcc:(Nat.ble b i && Nat.blt i (b+M)) with
    |false=>rfl
    |true=>
     rw [Bool.and_eq_true] at hcc
     exact absurd ⟨Nat.le_of_ble_eq_true hcc.1,Nat.le_of_ble_eq_true hcc.2⟩ hr
   simp only [hcond,cond_false] at hy'
   have hold:=hk (i*U.size v+k) y (by rw [Z1j hU v len f hi hk'];exact hy')
   have hil:i*U.size v+k < len*U.size v:=Z7i hi hk'
   refine hold.stays hU (.refl c) (hfr.agr (λb2 o2 hf=>hold.lt hU _ _ hf) λb2 o2 hf ⟨q1,q2,q3⟩=>?_)
   rw [hvl] at q3
   obtain ⟨r1,r2,r3⟩:=Z46 (n:=M) (sz:=U.size v) (j:=o2 - Q) (by omega) (by omega)
   refine hd _ ((b+(o2 - Q) / U.size v)*U.size v+(o2 - Q) % U.size v) b2 o2 hil (hrowle _ _ r1 r2) (λe=>hr ?_) hf ((((hpt _ _ r1 r2).2.2) _ _).2 ⟨q1,by rw [r3];omega⟩)
   have hdiv:∀i k,k < U.size v->(i*U.size v+k) / U.size v=i:=λi k hk=>by
    rw [Nat.add_comm,Nat.add_mul_div_right _ _ (by omega),Nat.div_eq_of_lt hk];omega
   have e1:=hdiv i k hk'
   rw [e,hdiv _ _ r2] at e1
   exact ⟨by rw [←e1];exact Nat.le_add_right _ _,by rw [←e1];exact Nat.add_lt_add_left r1 _⟩
 obtain ⟨s1,s2⟩:=Z7b hU (s:=s) h2 hc0 hOn (λ_ _ h=>h) hfr hinG
 have hE:Q1s c (w.setCells bb Q vs) s (Φ s) (.obj (Zn off (.Q1n v len λi=>bif Nat.ble b i && Nat.blt i (b+M) then f' (b'+(i - b)) else f i) cells):Ent U):=by
  refine ⟨bb,oo,_,hL,h1,s1,λb2 o2=>?_⟩
  rw [h3,Z2r hlt]
  constructor
  ·rintro ⟨k,hk,hf⟩
   refine ⟨k,hk,?_⟩
   by_cases e:k=off
   ·subst e;rw [if_pos rfl];exact hf
   ·rw [if_neg e];exact hf
  ·rintro ⟨k,hk,hf⟩
   exact ⟨k,hk,s2 _ _ _ hk hf⟩
 refine ⟨_,_,c,fup Φ s (Φ s),hrun,{ le:= .refl c,L:=λ_ _ _ _=>rfl,val:= ?_,g:= ?_,fr:= ?_,Q2p:=λt ht=>?_,Q2g:=λt b' o' ht hf=>?_,names:=λt ht=>?_,Q32:=λ_ _ _ h=>.inl h}⟩
 ·exact R.val rfl
 ·refine hg.put hU (.refl c) (λ_ _ _=>rfl) hE (λt hts h1=>hfr.agr (λb' o' hf=>hg.lt hU h1 hf) λb' o' hf hn=>hg.apart t s b' o' hts h1 hsome hf (hinΦ _ _ hn))
   (λt b' o' hts h1 hf hF=>hg.apart t s b' o' hts h1 hsome hf hF) (λb' o' u hu=>?_) (λt b' o' _ h1 hf=>hg.Q15 t b' o' h1 hf) (λb' o' hf=>hg.Q15 s b' o' hsome hf)
  refine (hfr.cell b' o' (Zf (hg.imm b' o' u hu)) λhn=>?_).trans (hg.imm b' o' u hu)
  have:=hg.Q15 s b' o' hsome (hinΦ _ _ hn)
  rw [hu] at this;cases this
 ·exact hfr.mono λb' o' _ hn=>⟨s,by simp,hsome,hinΦ _ _ hn⟩
 ·simp at ht;simp [fup,ht]
 ·simp at ht;subst ht
  simp [fup] at hf
  exact .inr ⟨t,by simp,hsome,hf⟩
 ·simp at ht;subst ht;exact .inr hsome
theorem QaE (hU:U.Ok) {h':Qr U} {t t2 ty:TypeId} {x y:A U} {out:Out U} {p q:Value} (ho:(Z72 P t x y h').outs=some out)
  (hag:∀s,s∈out.rd\/s∈out.w.map (·.1)->get h s=get h' s) (hg:G U c Φ h w) (hx:RA U c x p) (hy:RA U c y q):
  ∃v w' c' Φ',(Builtin.copy_ #[t,t2] ty #[p,q]).run P w= .ok v w'/\QB U c Φ h nx out w c' Φ' v w':=by
 unfold Z72 at ho
 split at ho
 ·rename_i e s off m' len b n hu
  split at ho
  ·rename_i u m cells hue hsz he
   split at ho
   ·rename_i v len' f hc
    split at ho
    ·rename_i qe hq1
     subst qe
     cases hb:Nat.beq m (U.size v) && Nat.beq m m' && Nat.beq len len' && U.plain v && Nat.ble 1 m with
     |false=>rw [hb] at ho;exact (Z1 ho).elim
     |true=>
      rw [hb] at ho
      simp only [cond_true] at ho
      simp only [Bool.and_eq_true] at hb
      obtain ⟨⟨⟨⟨b1,b2⟩,b3⟩,b4⟩,b5⟩:=hb
      have b2:=QH b2
      subst b2
      have b1:=QH b1
      subst b1
      have b3:=QH b3
      subst b3
      split at ho
      ·rename_i s' off' mm llen b' n'
       split at ho
       ·rename_i cells' he2
        split at ho
        ·rename_i v' len2 f' hc2
         split at ho
         ·rename_i qe' heq'
          subst qe'
          cases hb2:Nat.beq mm (U.size v') && Nat.beq llen len2 with
          |false=>rw [hb2] at ho;exact (Z1 ho).elim
          |true=>
           rw [hb2] at ho
           simp only [cond_true] at ho
           simp only [Bool.and_eq_true] at hb2
           obtain ⟨b6,b7⟩:=hb2
           have b6:=QH b6
           have b7:=QH b7
           subst b6;subst b7
           have hout:=Zx ho
           subst hout
           exact Z9D hU hu hsz b4 (Nat.le_of_ble_eq_true b5) (by rw [hag s (.inr (by simp))];exact he) hc he2 (hag s' (.inl (by simp))) hc2 hg hx hy ⟨_,heq'⟩
         ·exact (Z1 ho).elim
        ·exact (Z1 ho).elim
       ·exact (Z1 ho).elim
      ·exact (Z1 ho).elim
    ·exact (Z1 ho).elim
   ·exact (Z1 ho).elim
  ·exact (Z1 ho).elim
 ·rename_i e s b n hu
  split at ho
  ·rename_i u m v nn f hue hsz he
   split at ho
   ·rename_i qe _
    subst qe
    cases hb:Nat.beq m (U.size v) && U.plain v && Nat.ble 1 m with
    |false=>rw [hb] at ho;exact (Z1 ho).elim
    |true=>
     rw [hb] at ho
     simp only [cond_true] at ho
     simp only [Bool.and_eq_true] at hb
     obtain ⟨⟨b1,hpl⟩,b3⟩:=hb
     have b1:=QH b1
     subst b1
     have b3:=Nat.le_of_ble_eq_true b3
     split at ho
     ·rename_i s' b' n'
      split at ho
      ·rename_i v' nn' f' he2
       split at ho
       ·rename_i qe' heq'
        subst qe'
        have hout:=Zx ho
        subst hout
        generalize hM:Nat.min n' n=M at*
        have hMn:M<=n:=by rw [←hM];exact Nat.min_le_right _ _
        have hMn':M<=n':=by rw [←hM];exact Nat.min_le_left _ _
        have hes:get h s=some (.fam true v' nn f):=by rw [hag s (.inr (by simp))];exact he
        cases (show R U c _ p from hx) with
        | @sl _ _ _ cap bb oo a hc ha hl=>
        cases (show R U c _ q from hy) with
        | @sl _ _ _ cap' bb' oo' a' hc' ha' hl'=>
        have hel:elems v' (.v ⟨false,[.sl s' b' M]⟩:A U) h'=some ((List.range M).map λj=>f' (b'+j),[s']):=by
         unfold elems
         simp only [he2,hpl,cond_true,heq']
        have hsrc:Z1t U c w P v' ((List.range M).map λj=>f' (b'+j)) (.slice a' M cap'):=Z1G hU hel (λz hz=>hag z (.inl hz)) hg
         (show RA U c (.v ⟨false,[.sl s' b' M]⟩) _ from R.sl (b:=bb') (o:=oo') (by omega) (λhp=>ha' (by omega)) λj hj=>hl' j (by omega))
        obtain ⟨_,vs,hvl,hfc,hone,hrows⟩:=hsrc
        have hyl:((List.range M).map λj=>f' (b'+j)).length=M:=by simp
        rw [hyl] at hvl hfc hrows
        have hfc':(Builtin.firstCells (U.size v') M (.slice a' n' cap')).run P w= .ok vs.toArray w:=by
         cases a' <;> exact hfc
        obtain ⟨A,Gk,h0,h1,h2,h3,h4,h5⟩:=hg.Q1M s _ hes
        have hcell:∀i,(U.enc v' (f i)).all Ze=true:=λi=>hU.Q52 _ _ hpl
        have hin:∀i,i < M->b+i < nn/\∀hpos:0 < M,A (b+i)=(bb,oo+i*U.size v'):=λi hi=>by
         obtain ⟨z,hz⟩:=hl i (by omega)
         have hin:=h1 _ _ hz
         refine ⟨hin,λhpos=>?_⟩
         obtain ⟨hL,_⟩:=ha (by omega)
         have hb0:=h1 _ _ hL
         have e1:=h0 _ hb0
         rw [hL] at e1
         simp only [Option.some.injEq] at e1
         have e2:=h5 rfl b hb0
         have e3:=h5 rfl (b+i) hin
         rw [←e1] at e2
         simp only [Prod.mk.injEq] at e2
         rw [e3,e2.1,e2.2,Nat.add_mul,Nat.add_assoc]

        have hpt:∀i k,i < M->k < U.size v'->(∃u,w.cell? (at_ bb (oo+(i*U.size v'+k)))=some u)/\w.frozen? (at_ bb (oo+(i*U.size v'+k)))=false/\∀b2 o2,Gk (b+i) k b2 o2↔b2=bb/\o2=oo+(i*U.size v'+k):=λi k hi hk=>by
         obtain ⟨q1,q2⟩:=hin i hi
         have q3:=q2 (by omega)
         have hkl:k < (U.enc v' (f (b+i))).length:=by rw [hU.QD];exact hk
         have hcl:=hcell (b+i)
         rw [List.all_eq_true] at hcl
         obtain ⟨⟨u,q4,_⟩,q5,q6⟩:=(h2 _ q1).cell (List.getElem?_eq_getElem hkl) (hcl _ (List.getElem_mem hkl))
         rw [q3] at q4 q5 q6
         rw [←Nat.add_assoc]
         exact ⟨⟨u,q4⟩,q5,q6⟩
        have hth:∀j,j < vs.length->(w.cell? (at_ bb (oo+j))).isSome=true/\w.frozen? (at_ bb (oo+j))=false/\Φ s bb (oo+j):=λj hj=>by
         rw [hvl] at hj
         obtain ⟨r1,r2,r3⟩:=Z46 (by omega) hj
         obtain ⟨⟨u,q1⟩,q2,q3⟩:=hpt _ _ r1 r2
         rw [r3] at q1 q2 q3
         exact ⟨by rw [q1];rfl,q2,(h4 _ _).2 ⟨b+j / U.size v',j % U.size v',(hin _ r1).1,r2,(q3 _ _).2 ⟨rfl,rfl⟩⟩⟩
        have hrun:(Builtin.copy_ #[t,t2] ty #[.slice a n cap,.slice a' n' cap']).run P w= .ok (goInt M) (w.setCells bb oo vs):=by
         unfold Builtin.copy_
         rcases Nat.eq_zero_or_pos M with hz|hpos
         ·have hvs:vs= []:=List.eq_nil_of_length_eq_zero (by rw [hvl,hz];simp)
          subst hvs
          cases a with
          |none=>simp [run_underlying hu,Builtin.lenOf,Za hsz,hM,hfc',World.setCells]
          |some ad=>simp [run_underlying hu,Builtin.lenOf,Za hsz,hM,hfc',World.setCells,storeCells]
         ·obtain ⟨_,rfl⟩:=ha (by omega)
          have hst:=run_storeCells_cells (P:=P) bb oo vs 0 w (λj hj=>by simpa using (hth j hj).1) (λj hj=>by simpa using (hth j hj).2.1) hone
          simp only [Nat.add_zero] at hst
          simp [run_underlying hu,Builtin.lenOf,Za hsz,hM,hfc',hst]
        have hfr:Fr (λb2 o2=>b2=bb/\oo<=o2/\o2 < oo+vs.length) w (w.setCells bb oo vs):=Fr.setCells λj hj=>⟨rfl,by omega,by omega⟩
        have hsome:(get h s).isSome:=by rw [hes];rfl
        have hinΦ:∀b2 o2,(b2=bb/\oo<=o2/\o2 < oo+vs.length)->Φ s b2 o2:=λb2 o2 ⟨q1,q2,q3⟩=>by
         subst q1
         have:=(hth (o2 - oo) (by omega)).2.2
         rwa [show oo+(o2 - oo)=o2 by omega] at this
        have hE:Q1s c (w.setCells bb oo vs) s (Φ s) (.fam true v' nn (λi=>bif Nat.ble b i && Nat.blt i (b+M) then f' (b'+(i - b)) else f i):Ent U):=by
         refine ⟨A,Gk,h0,h1,λi hi=>?_,h3,h4,h5⟩
         by_cases hr:b<=i/\i < b+M
         ·have hcond:(Nat.ble b i && Nat.blt i (b+M))=true:=by
           rw [Bool.and_eq_true];exact ⟨Nat.ble_eq_true_of_le hr.1,Nat.ble_eq_true_of_le hr.2⟩
          simp only [hcond,cond_true]
          obtain ⟨j,rfl⟩:∃j,i=b+j:=⟨i - b,by omega⟩
          have hjM:j < M:=by omega
          have hA:=(hin j hjM).2 (by omega)
          rw [hA,show b+j - b=j by omega]
          refine ⟨λk x hx=>?_,λj1 k1 b2 o2 g1 g2=>(h2 _ hi).dis j1 k1 b2 o2 (by rw [hU.QD];rw [hU.QD] at g1;exact g1) (by rw [hU.QD];rw [hU.QD] at g2;exact g2)⟩
          have hk:k < U.size v':=by have:=(List.getElem?_eq_some_iff.1 hx).1;rwa [hU.QD] at this
          obtain ⟨⟨u0,q1⟩,q2,q3⟩:=hpt j k hjM hk
          obtain ⟨u1,q4,q5⟩:=hrows j k hjM hk
          have q6:((List.range M).map λj=>f' (b'+j)).getD j (U.dft v')=f' (b'+j):=by simp [List.getD,List.getElem?_map,List.getElem?_range hjM]
          rw [q6,getD_of_getElem? hx] at q5
          rw [Nat.add_assoc]
          exact .cell q5 (Zy (λj hj=>(hth j hj).1) q4) ((World.frozen?_setCells _ _ _ _ _).trans q2) q3
         ·have hcond:(Nat.ble b i && Nat.blt i (b+M))=false:=by
           cases hcc:(Nat.ble b i && Nat.blt i (b+M)) with
           |false=>rfl
           |true=>
            rw [Bool.and_eq_true] at hcc
            exact absurd ⟨Nat.le_of_ble_eq_true hcc.1,Nat.le_of_ble_eq_true hcc.2⟩ hr
          simp only [hcond,cond_false]
          refine (h2 i hi).stays hU (.refl c) λk hk=>hfr.agr (λb2 o2 hf=>(h2 i hi).lt hU hk hf) λb2 o2 hf ⟨q1,q2,q3⟩=>?_
          rw [hvl] at q3
          obtain ⟨r1,r2,r3⟩:=Z46 (n:=M) (sz:=U.size v') (j:=o2 - oo) (by omega) (by omega)
          rw [hU.QD] at hk
          exact h3 i (b+(o2 - oo) / U.size v') k _ b2 o2 hi (hin _ r1).1 hk r2 (λe=>hr ⟨by rw [e];exact Nat.le_add_right _ _,by rw [e];exact Nat.add_lt_add_left r1 _⟩) hf ((((hpt _ _ r1 r2).2.2) _ _).2 ⟨q1,by rw [r3];omega⟩)
        refine ⟨_,_,c,fup Φ s (Φ s),hrun,{ le:= .refl c,L:=λ_ _ _ _=>rfl,val:= ?_,g:= ?_,fr:= ?_,Q2p:=λt ht=>?_,Q2g:=λt b' o' ht hf=>?_,names:=λt ht=>?_,Q32:=λ_ _ _ h=>.inl h}⟩
        ·exact R.val rfl
        ·refine hg.put hU (.refl c) (λ_ _ _=>rfl) hE (λt hts h1=>hfr.agr (λb' o' hf=>hg.lt hU h1 hf) λb' o' hf hn=>hg.apart t s b' o' hts h1 hsome hf (hinΦ _ _ hn))
          (λt b' o' hts h1 hf hF=>hg.apart t s b' o' hts h1 hsome hf hF) (λb' o' u hu=>?_) (λt b' o' _ h1 hf=>hg.Q15 t b' o' h1 hf) (λb' o' hf=>hg.Q15 s b' o' hsome hf)
         refine (hfr.cell b' o' (Zf (hg.imm b' o' u hu)) λhn=>?_).trans (hg.imm b' o' u hu)
         have:=hg.Q15 s b' o' hsome (hinΦ _ _ hn)
         rw [hu] at this;cases this
        ·exact hfr.mono λb' o' _ hn=>⟨s,by simp,hsome,hinΦ _ _ hn⟩
        ·simp at ht;simp [fup,ht]
        ·simp at ht;subst ht
         simp [fup] at hf
         exact .inr ⟨t,by simp,hsome,hf⟩
        ·simp at ht;subst ht;exact .inr hsome
       ·exact (Z1 ho).elim
      ·exact (Z1 ho).elim
     ·exact (Z1 ho).elim
   ·exact (Z1 ho).elim
  ·exact (Z1 ho).elim
 ·exact (Z1 ho).elim
end Go.Rf
namespace Go.Rf
set_option linter.unusedVariables false
set_option linter.unusedSimpArgs false
variable {U : QV} {P : Program} {c : Cx} {Φ : Nat -> Nat -> Nat -> Prop} {h : Qr U} {nx : Nat} {w : World}
def Q5R (c:Cx) (h:Qr U) (nx n:Nat):Prop:=∀s,nx<=s->s < nx+n->get h s=none/\∀i,c.L s i=none
structure RAs (U:QV) (c:Cx) (as:List (A U)) (vs:List Value):Prop where
 len:vs.length=as.length
 at_:∀(k:Nat) a,as[k]? =some a->∃v,vs[k]? =some v/\RA U c a v
abbrev Q5N (U:QV) (c:Cx) (Φ:Nat->Nat->Nat->Prop) (h:Qr U) (nx:Nat) (out:Out U) (w:World):Value->World->Prop:=
 λu w'=>∃c' Φ',QB U c Φ h nx out w c' Φ' u w'
def Zi (U:QV) (P:Program) (f:Nat) (N:Native U):Prop:=
 ∀(as:List (A U)) (h':Qr U) (nx:Nat) (out:Out U),(N as h' nx).outs=some out->
  ∀(c:Cx) (Φ:Nat->Nat->Nat->Prop) (h:Qr U) (w:World) (vs:Array Value),G U c Φ h w->(∀s,s∈out.rd\/s∈out.w.map (·.1)->get h s=get h' s)->
   Q5R c h nx out.nw->RAs U c as vs.toList->
   Q2B P (Q5N U c Φ h nx out w) ((callFunc f vs).run P w)
def ZM (U:QV) (P:Program) (Γ:Nat->Option (Native U)):Prop:=∀f N,Γ f=some N->Zi U P f N
theorem Q3C.Q4R {s:Sem Value} {out:Out U} (hq:Q3C U c w P s out) (hg:G U c Φ h w):Q2B P (Q5N U c Φ h nx out w) ((do pure (Next.value (←s)):Sem Next).run P w):=by
 obtain ⟨v,rd,w',nw⟩:=out
 obtain ⟨u,h1,h2,h3,h4⟩:=hq
 simp only at h2 h3 h4
 subst h3;subst h4
 exact Q2B.value h1 ⟨c,Φ,QB.pure hg h2⟩
theorem Z9E {x:Option (A U)} {out:Out U} (ho:(Q87 x).outs=some out):∃v,x=some v/\out={ v:=v}:=by
 cases x with
 |none=>exact (Z1 ho).elim
 |some v=>exact ⟨v,rfl,Zx ho⟩
theorem Z3R {α:Type}:∀(l:List (Option α)) (r:List α),ZF l=some r->l=r.map some
 | [],r,h=>by simp [ZF] at h;subst h;rfl
 |some a::l,r,h=>by
  unfold ZF at h
  split at h
  ·rename_i r' hr;cases h;rw [Z3R l r' hr];rfl
  ·cases h
 |none::l,r,h=>by cases h
theorem Zr {cl:Call} {b:Go.Builtin} {ev:Operand->Value} {ty:TypeId} (hc:cl.callee= .builtin b):
  (do let d←resolve ev cl ty;invoke d.target d.args:Sem Next)=builtin b cl.argTypes ty (cl.args.map fun| .const _=>true|_=>false) (cl.args.map ev):=by
 unfold resolve
 rw [hc]
 rfl
theorem Z4L {cl:Call} {f:Nat} {a:Act} {ty:TypeId} (hc:cl.callee= .value (.func f)):
  (do let d←resolve a.eval cl ty;invoke d.target d.args:Sem Next)=callFunc f (cl.args.map a.eval):=by
 have h:(do let d←resolve a.eval cl ty;invoke d.target d.args:Sem Next)=callFunc f (#[]++cl.args.map a.eval++ #[]):=by
  unfold resolve
  rw [hc]
  rfl
 rw [h]
 simp
theorem Z5d {cl:Call} {f:Nat} {a:Act} {ty:TypeId} {t:Tmp} (hc:cl.callee= .value (.tmp t)) (he:a.eval (.tmp t)= .func (.func f) #[] #[]):
  (do let d←resolve a.eval cl ty;invoke d.target d.args:Sem Next)=callFunc f (cl.args.map a.eval):=by
 have h:(do let d←resolve a.eval cl ty;invoke d.target d.args:Sem Next)=callFunc f (#[]++cl.args.map a.eval++ #[]):=by
  unfold resolve
  rw [hc]
  simp only [he]
  rfl
 rw [h]
 simp
theorem Z59 {cl:Call} {f:Nat} {vs:Array Value} {a:Act} {ty:TypeId} {t:Tmp} (hc:cl.callee= .value (.tmp t)) (he:a.eval (.tmp t)= .func (.func f) #[] vs):
  (do let d←resolve a.eval cl ty;invoke d.target d.args:Sem Next)=callFunc f (cl.args.map a.eval++vs):=by
 have h:(do let d←resolve a.eval cl ty;invoke d.target d.args:Sem Next)=callFunc f (#[]++cl.args.map a.eval++vs):=by
  unfold resolve
  rw [hc]
  simp only [he]
  rfl
 rw [h]
 simp
theorem RAs.append {l m:List (A U)} {vs us:List Value} (h:RAs U c l vs) (h':RAs U c m us):RAs U c (l++m) (vs++us):=by
 refine ⟨by simp [h.len,h'.len],λk x hk=>?_⟩
 by_cases hl:k < l.length
 ·rw [List.getElem?_append_left hl] at hk
  rw [List.getElem?_append_left (by rw [h.len];exact hl)]
  exact h.at_ k x hk
 ·rw [List.getElem?_append_right (by omega)] at hk
  rw [List.getElem?_append_right (by rw [h.len];omega),h.len]
  exact h'.at_ _ x hk
theorem Z5H {f:Nat} {ps:List (Nat×Nat×Nat)} {u:Value} (h:R U c (.clo f ps) u):∃vs:Array Value,u= .func (.func f) #[] vs/\RAs U c (Z3p ps) vs.toList:=by
 cases h with
 | @clo _ _ vs hn hp=>
  refine ⟨vs,rfl,by simp [Z3p,hn],λk x hk=>?_⟩
  simp only [Z3p,List.getElem?_map] at hk
  cases hz:ps[k]? with
  |none=>simp [hz] at hk
  |some p=>
   simp [hz] at hk
   subst hk
   obtain ⟨b,o,h1,h2⟩:=hp k p hz
   exact ⟨_,by rw [Array.getElem?_toList];exact h2,R.ptr h1⟩
theorem Z7m {x:Option (A U)} {f:Nat} {ps:List (Nat×Nat×Nat)} (h:Q85 x=some (f,ps)):x=some (sc (.clo f ps)):=by
 unfold Q85 at h
 split at h
 ·cases h;rfl
 ·cases h
theorem R.val' {v u:Value} (h:R U c (.val v) u):u=v:=by cases h;rfl
theorem Z1o {f:Nat} {fn:Func} (h1:P.funcs[f]? =some fn) (h2:(fn.name== "runtime.NumGoroutine")=false) (h3:fn.body.isNone=false) (args:Array Value):
  (callFunc f args).run P w= .ok (.enter f args) w:=by
 have h4:fn.name≠ "runtime.NumGoroutine" :=by simpa using h2
 have h5:¬fn.body=none:=by intro e;simp [e] at h3
 simp [callFunc,h1,h4,h5]
theorem Z6G:∀(l:List (Option (A U))) (ps:List (Nat×Nat×Nat)),Z5E l=some ps->l=ps.map λp=>some (sc (.ptr p.1 p.2.1 p.2.2))
 | [],ps,h=>by cases h;rfl
 |some (.v ⟨false,[.ptr s i off]⟩)::r,ps,h=>by
  unfold Z5E at h
  split at h
  ·rename_i l hl;cases h;rw [Z6G r l hl];rfl
  ·cases h
theorem Z7J {fn:Fn} {first captured:Array Operand} {a:Act} {ρ:Operand->Option (A U)} {out:Out U} (ho:(Z3S fn (first.toList.map ρ) (captured.toList.map ρ)).outs=some out)
  (hρ:∀x∈captured.toList,∀v,ρ x=some v->RA U c v (a.eval x)):Q3C U c w P (Instr.makeFunc fn (first.map a.eval) (captured.map a.eval)) out:=by
 unfold Z3S at ho
 split at ho
 ·rename_i f hfe
  split at ho
  ·rename_i ps hps
   have:=Zx ho
   subst this
   have h1:first= #[]:=by
    have:first.toList= []:=by simpa using hfe
    simpa using this
   subst h1
   have h2:=Z6G _ _ hps
   refine ⟨.func (.func f) #[] (captured.map a.eval),by simp [Instr.makeFunc],?_,rfl,rfl⟩
   have hlen:=congrArg List.length h2
   simp at hlen
   refine R.clo (by simp [hlen]) λk p hk=>?_
   have h3:(captured.toList.map ρ)[k]? =some (some (sc (.ptr p.1 p.2.1 p.2.2))):=by rw [h2,List.getElem?_map,hk];rfl
   rw [List.getElem?_map] at h3
   cases hz:captured.toList[k]? with
   |none=>simp [hz] at h3
   |some z=>
    simp [hz] at h3
    have h4:=hρ z (List.mem_of_getElem? hz) _ h3
    cases hv:a.eval z with
    |_=>
     rw [hv] at h4
     first
     |(cases (show R U c (.ptr p.1 p.2.1 p.2.2) _ from h4) with
       |ptr h5=>exact ⟨_,_,h5,by rw [Array.getElem?_map];rw [Array.getElem?_toList] at hz;rw [hz];simp [hv]⟩)
     |(cases (show R U c (.ptr p.1 p.2.1 p.2.2) _ from h4))
  ·exact (Z1 ho).elim
 ·exact (Z1 ho).elim
theorem QaG (hU:U.Ok) {Γ:Nat->Option (Native U)} (hΓ:ZM U P Γ) {h':Qr U} {cl:Call} {a:Act} {ty:TypeId} {ρ:Operand->Option (A U)} {out:Out U}
  (ho:(Z7H P Γ cl ρ (cl.args.toList.map ρ) h' nx).outs=some out) (hag:∀s,s∈out.rd\/s∈out.w.map (·.1)->get h s=get h' s) (hg:G U c Φ h w)
  (hf:Q5R c h nx out.nw) (hρ:∀x∈cl.args.toList,∀v,ρ x=some v->RA U c v (a.eval x)) (hce:∀x,cl.callee= .value x->∀v,ρ x=some v->RA U c v (a.eval x)):
  Q2B P (Q5N U c Φ h nx out w) ((do let d←resolve a.eval cl ty;invoke d.target d.args:Sem Next).run P w):=by
 have hfold:∀(mx:Bool) (x:Int) (r:List (Option (A U))) (n:Int),cl.args.toList.map ρ=some (.v ⟨false,[.val (.int .i64 x)]⟩)::r->Z2s mx x r=some n->
   ∃rest,cl.args.toList.map a.eval= .int .i64 x::rest/\(rest.foldlM (bif mx then Builtin.max2 else Builtin.min2) (.int .i64 x):Sem Value)=pure (.int .i64 n):=by
  intro mx x r n he hfm
  cases hl:cl.args.toList with
  |nil=>rw [hl] at he;cases he
  |cons y ys=>
   rw [hl] at he
   simp only [List.map_cons,List.cons.injEq] at he
   obtain ⟨h1,h2⟩:=he
   have hx:=hρ y (by rw [hl];exact List.mem_cons_self ..) _ h1
   refine ⟨ys.map a.eval,?_,?_⟩
   ·rw [List.map_cons,R.int (show R U c (.val (.int .i64 x)) _ from hx)]
   ·subst h2
    refine Z6B (c:=c) _ _ _ _ hfm (by simp) λk v u h3 h4=>?_
    rw [List.getElem?_map] at h3 h4
    cases hk:ys[k]? with
    |none=>simp [hk] at h3
    |some z=>
     simp [hk] at h3 h4
     subst h4
     exact hρ z (by rw [hl];exact List.mem_cons_of_mem _ (List.mem_of_getElem? hk)) _ h3
 have two:∀x y,cl.args.toList.map ρ= [some x,some y]->∃x' y',cl.args= #[x',y']/\ρ x'=some x/\ρ y'=some y:=λx y hx=>by
  cases hl:cl.args.toList with
  |nil=>rw [hl] at hx;cases hx
  |cons x' ys=>
   rw [hl] at hx
   cases ys with
   |nil=>simp at hx
   |cons y' zs=>
    simp at hx
    obtain ⟨h1,h2,h3⟩:=hx
    subst h3
    exact ⟨x',y',by rw [←Array.toArray_toList (xs:=cl.args),hl],h1,h2⟩
 have single:∀x,cl.args.toList.map ρ= [some x]->∃x',cl.args= #[x']/\ρ x'=some x:=λx hx=>by
  cases hl:cl.args.toList with
  |nil=>rw [hl] at hx;cases hx
  |cons x' ys=>
   rw [hl] at hx
   simp at hx
   obtain ⟨h1,h2⟩:=hx
   subst h2
   exact ⟨x',by rw [←Array.toArray_toList (xs:=cl.args),hl],h1⟩
 have argsOk:∀l:List (A U),ZF (cl.args.toList.map ρ)=some l->RAs U c l (cl.args.map a.eval).toList:=λl hl=>by
  have hargs:=Z3R _ _ hl
  refine ⟨by have:=congrArg List.length hargs;simpa using this,λk x hk=>?_⟩
  have h1:(cl.args.toList.map ρ)[k]? =some (some x):=by rw [hargs,List.getElem?_map,hk];rfl
  rw [List.getElem?_map] at h1
  cases hz:cl.args.toList[k]? with
  |none=>simp [hz] at h1
  |some z=>
   simp [hz] at h1
   refine ⟨a.eval z,?_,hρ z (List.mem_of_getElem? hz) _ h1⟩
   rw [Array.toList_map,List.getElem?_map,hz];rfl
 have enter:∀(f:Nat) (N:Native U) (l:List (A U)),Γ f=some N->ZF (cl.args.toList.map ρ)=some l->(N l h' nx).outs=some out->
   ((do let d←resolve a.eval cl ty;invoke d.target d.args:Sem Next)=callFunc f (cl.args.map a.eval))->
   Q2B P (Q5N U c Φ h nx out w) ((do let d←resolve a.eval cl ty;invoke d.target d.args:Sem Next).run P w):=λf N l hN hl ho hres=>by
  have hR:=argsOk l hl
  rw [hres]
  exact hΓ f N hN l h' nx out ho c Φ h w (cl.args.map a.eval) hg hag hf hR
 unfold Z7H at ho
 split at ho
 ·rename_i f hc
  split at ho
  ·rename_i N l hN hl
   exact enter f N l hN hl ho (Z4L hc)
  ·exact (Z1 ho).elim
 ·rename_i t hc
  split at ho
  ·rename_i f hfn
   split at ho
   ·rename_i N l hN hl
    refine enter f N l hN hl ho ?_
    cases hr:ρ (.tmp t) with
    |none=>rw [hr] at hfn;cases hfn
    |some v=>
     rw [hr] at hfn
     have hv:=hce _ hc v hr
     unfold Q9g at hfn
     split at hfn
     ·rename_i f' x y he
      cases he
      simp only [Bool.cond_eq_ite,Bool.and_eq_true,Nat.beq_eq] at hfn
      split at hfn
      ·rename_i hz
       cases hfn
       have e:a.eval (.tmp t)= .func (.func f) x y:=R.val' (show R U c (.val (.func (.func f) x y)) _ from hv)
       exact Z5d hc (by rw [e,Array.eq_empty_of_size_eq_zero hz.1,Array.eq_empty_of_size_eq_zero hz.2])
      ·cases hfn
     ·cases hfn
   ·exact (Z1 ho).elim
  ·split at ho
   ·rename_i f ps hcl
    split at ho
    ·rename_i N l hN hl
     have hr:=Z7m hcl
     obtain ⟨vs,hv,hps⟩:=Z5H (show R U c (.clo f ps) _ from hce _ hc _ hr)
     rw [Z59 hc hv]
     refine hΓ f N hN _ h' nx out ho c Φ h w (cl.args.map a.eval++vs) hg hag hf ?_
     rw [Array.toList_append]
     exact RAs.append (argsOk l hl) hps
    ·exact (Z1 ho).elim
   ·exact (Z1 ho).elim
 ·rename_i hc
  split at ho
  ·rename_i x t hx ht
   cases hb:Q92 P t x with
   |false=>simp [hb] at ho;exact (Z1 ho).elim
   |true=>
    simp only [hb,cond_true] at ho
    have hl:∃y,cl.args= #[y]/\ρ y=some x:=by
     cases hl:cl.args.toList with
     |nil=>rw [hl] at hx;cases hx
     |cons y ys=>
      rw [hl] at hx
      simp at hx
      obtain ⟨h1,h2⟩:=hx
      subst h2
      exact ⟨y,by rw [←Array.toArray_toList (xs:=cl.args),hl],h1⟩
    obtain ⟨y,hy,hy2⟩:=hl
    have hq:=len_ok' (P:=P) (w:=w) (c:=c) (ty:=ty) (ts:=cl.argTypes) ho (hρ y (by rw [hy];simp) _ hy2) (by rw [←Array.getElem?_toList,ht];rfl) hb
    have:=hq.Q4R (nx:=nx) hg
    rw [Zr hc,show cl.args.map a.eval= #[a.eval y] by rw [hy];simp]
    exact this
  ·exact (Z1 ho).elim
 ·rename_i hc
  split at ho
  ·rename_i x y t t2 hx ht
   have hl:∃x' y',cl.args= #[x',y']/\ρ x'=some x/\ρ y'=some y:=by
    cases hl:cl.args.toList with
    |nil=>rw [hl] at hx;cases hx
    |cons x' ys=>
     rw [hl] at hx
     cases ys with
     |nil=>simp at hx
     |cons y' zs=>
      simp at hx
      obtain ⟨h1,h2,h3⟩:=hx
      subst h3
      exact ⟨x',y',by rw [←Array.toArray_toList (xs:=cl.args),hl],h1,h2⟩
   obtain ⟨x',y',hl,h1,h2⟩:=hl
   have htt:cl.argTypes= #[t,t2]:=by rw [←Array.toArray_toList (xs:=cl.argTypes),ht]
   obtain ⟨v,w',c',Φ',hrun,hS⟩:=Z8s (ty:=ty) hU ho hag hg (hρ x' (by rw [hl];simp) _ h1) (hρ y' (by rw [hl];simp) _ h2) (λh0=>hf nx (Nat.le_refl _) (by omega))
   rw [Zr hc,show cl.args.map a.eval= #[a.eval x',a.eval y'] by rw [hl];simp,htt]
   exact Q2B.value hrun ⟨c',Φ',hS⟩
  ·exact (Z1 ho).elim
 ·rename_i hc
  split at ho
  ·rename_i x y t t2 hx ht
   have hl:∃x' y',cl.args= #[x',y']/\ρ x'=some x/\ρ y'=some y:=by
    cases hl:cl.args.toList with
    |nil=>rw [hl] at hx;cases hx
    |cons x' ys=>
     rw [hl] at hx
     cases ys with
     |nil=>simp at hx
     |cons y' zs=>
      simp at hx
      obtain ⟨h1,h2,h3⟩:=hx
      subst h3
      exact ⟨x',y',by rw [←Array.toArray_toList (xs:=cl.args),hl],h1,h2⟩
   obtain ⟨x',y',hl,h1,h2⟩:=hl
   have htt:cl.argTypes= #[t,t2]:=by rw [←Array.toArray_toList (xs:=cl.argTypes),ht]
   obtain ⟨v,w',c',Φ',hrun,hS⟩:=QaE (ty:=ty) (t2:=t2) (nx:=nx) hU ho hag hg (hρ x' (by rw [hl];simp) _ h1) (hρ y' (by rw [hl];simp) _ h2)
   rw [Zr hc,show cl.args.map a.eval= #[a.eval x',a.eval y'] by rw [hl];simp,htt]
   exact Q2B.value hrun ⟨c',Φ',hS⟩
  ·exact (Z1 ho).elim
 ·rename_i hc
  split at ho
  ·rename_i x y hx
   obtain ⟨x',y',hl,h1,h2⟩:=two _ _ hx
   have e1:=R.Q1z (show R U c _ _ from hρ x' (by rw [hl];simp) _ h1)
   have e2:=R.Q1z (show R U c _ _ from hρ y' (by rw [hl];simp) _ h2)
   have:=Zl ho;subst this
   rw [Zr hc,show cl.args.map a.eval= #[a.eval x',a.eval y'] by rw [hl];simp,e1,e2]
   exact Q2B.value (show (Builtin.complex_ cl.argTypes ty #[.float .f64 x,.float .f64 y]).run P w= .ok (.complex .f64 x y) w from rfl) ⟨c,Φ,QB.pure hg (.val rfl)⟩
  ·exact (Z1 ho).elim
 ·rename_i hc
  split at ho
  ·rename_i x y hx
   obtain ⟨x',hl,h1⟩:=single _ hx
   have e1:=R.Q1z (show R U c _ _ from hρ x' (by rw [hl];simp) _ h1)
   have:=Zl ho;subst this
   rw [Zr hc,show cl.args.map a.eval= #[a.eval x'] by rw [hl];simp,e1]
   exact Q2B.value (show (Builtin.real_ cl.argTypes ty #[.complex .f64 x y]).run P w= .ok (.float .f64 x) w from rfl) ⟨c,Φ,QB.pure hg (.val rfl)⟩
  ·exact (Z1 ho).elim
 ·rename_i hc
  split at ho
  ·rename_i x y hx
   obtain ⟨x',hl,h1⟩:=single _ hx
   have e1:=R.Q1z (show R U c _ _ from hρ x' (by rw [hl];simp) _ h1)
   have:=Zl ho;subst this
   rw [Zr hc,show cl.args.map a.eval= #[a.eval x'] by rw [hl];simp,e1]
   exact Q2B.value (show (Builtin.imag_ cl.argTypes ty #[.complex .f64 x y]).run P w= .ok (.float .f64 y) w from rfl) ⟨c,Φ,QB.pure hg (.val rfl)⟩
  ·exact (Z1 ho).elim
 ·rename_i hc
  split at ho
  ·rename_i x r hx
   split at ho
   ·rename_i n hn
    have:=Zl ho;subst this
    obtain ⟨rest,h1,h2⟩:=hfold false x r n hx hn
    have hrun:(Builtin.min_ cl.argTypes ty (cl.args.map a.eval)).run P w= .ok (.int .i64 n) w:=by
     unfold Builtin.min_
     rw [Array.toList_map,h1]
     show (rest.foldlM Builtin.min2 _).run P w=_
     rw [show (rest.foldlM Builtin.min2 (Value.int .i64 x):Sem Value)=pure (.int .i64 n) from h2];rfl
    rw [Zr hc]
    exact Q2B.value hrun ⟨c,Φ,QB.pure hg (.val rfl)⟩
   ·exact (Z1 ho).elim
  ·exact (Z1 ho).elim
 ·rename_i hc
  split at ho
  ·rename_i x r hx
   split at ho
   ·rename_i n hn
    have:=Zl ho;subst this
    obtain ⟨rest,h1,h2⟩:=hfold true x r n hx hn
    have hrun:(Builtin.max_ cl.argTypes ty (cl.args.map a.eval)).run P w= .ok (.int .i64 n) w:=by
     unfold Builtin.max_
     rw [Array.toList_map,h1]
     show (rest.foldlM Builtin.max2 _).run P w=_
     rw [show (rest.foldlM Builtin.max2 (Value.int .i64 x):Sem Value)=pure (.int .i64 n) from h2];rfl
    rw [Zr hc]
    exact Q2B.value hrun ⟨c,Φ,QB.pure hg (.val rfl)⟩
   ·exact (Z1 ho).elim
  ·exact (Z1 ho).elim
 ·exact (Z1 ho).elim
end Go.Rf
namespace Go.Rf
set_option linter.unusedVariables false
variable {U : QV} {P : Program}
def idxB (s:ByteArray) (c:Int):Int:=Lib.indexByte s.data.toList c.toNat.toUInt8
def Z9Y:Native U:=λas _ _=>
 match as with
 | [.v ⟨false,[.val (.string s)]⟩,.v ⟨false,[.val (.int .u8 c)]⟩]=>.ok { v:=scv (.int .i64 (idxB s c))}
 |_=>.fail
theorem Z87 {as:List (A U)} {c:Cx} {vs:Array Value} {v:Value} (hRA:RAs U c [.v ⟨false,[.val v]⟩] vs.toList):vs= #[v]:=by
 obtain ⟨v0,h1,h2⟩:=hRA.at_ 0 _ rfl
 have hlen:=hRA.len
 rw [R.Q1z (show R U c _ v0 from h2)] at h1
 obtain ⟨l⟩:=vs
 match l,hlen with
 | [x],_=>
  simp at h1
  rw [h1]
def Z4q (x:Nat):Option Nat:=
 match FloatKind.f64.decode x with
 | .nan _ _=>none
 |d=>some (FloatKind.f64.encode (d.integral .zero))
def Z5i:Native U:=λas _ _=>
 match as with
 | [.v ⟨false,[.val (.float .f64 b)]⟩]=>.opt Nat (Z4q b) λr=>{ v:=scv (.float .f64 r)}
 |_=>.fail
theorem Z7S {f:Nat} {fn:Func} (hf:P.funcs[f]? =some fn) (hname:(fn.name== "runtime.NumGoroutine")=false) (hb:fn.body.isNone=true) (hn:Extern.findNext fn=none) (he:Extern.find fn=some (Extern.MathFloor.toIntegral "math.archTrunc" .zero)):
  Zi U P f Z5i:=by
 intro as h' nx out ho c Φ h w vs hg hag hfresh hRA
 unfold Z5i at ho
 split at ho
 ·rename_i b
  obtain ⟨r,hr,rfl⟩:=Z48 ho
  rw [Z87 (as:= []) hRA]
  rw [run_callFunc_extern hf hname hb hn he]
  have hrun:(Extern.MathFloor.toIntegral "math.archTrunc" .zero #[.float .f64 b]).run P w= .ok (.float .f64 r) w:=by
   obtain ⟨F,key⟩:∃F:Bool->Nat->Sem Value,Extern.MathFloor.toIntegral "math.archTrunc" .zero #[.float .f64 b]=(match FloatKind.f64.decode b with
    | .nan s t=>F s t
    |d=>pure (.float .f64 (FloatKind.f64.encode (d.integral .zero)))):=⟨_,rfl⟩
   rw [key]
   unfold Z4q at hr
   cases hd:FloatKind.f64.decode b with
   |nan s t=>rw [hd] at hr;cases hr
   |number s m e=>rw [hd] at hr;cases hr;rfl
   |infinity s=>rw [hd] at hr;cases hr;rfl
  rw [hrun]
  exact ⟨c,Φ,QB.pure hg (R.val rfl)⟩
 ·exact (Z1 ho).elim
def Z4a:Native U:=λas _ _=>
 match as with
 | [.v ⟨false,[.val (.float .f64 b)]⟩]=>.ok { v:=scv (.int .u64 (b:Int))}
 |_=>.fail
theorem Z6M {f:Nat} {fn:Func} (hf:P.funcs[f]? =some fn) (hname:(fn.name== "runtime.NumGoroutine")=false) (hb:fn.body.isNone=true) (hn:Extern.findNext fn=none) (he:Extern.find fn=some Extern.MathFloatBits.float64bits):
  Zi U P f Z4a:=by
 intro as h' nx out ho c Φ h w vs hg hag hfresh hRA
 unfold Z4a at ho
 split at ho
 ·rename_i b
  have:=Zx ho
  subst this
  rw [Z87 (as:= []) hRA]
  rw [run_callFunc_extern hf hname hb hn he]
  exact ⟨c,Φ,QB.pure hg (R.val rfl)⟩
 ·exact (Z1 ho).elim
end Go.Rf
namespace Go.Rf
set_option linter.unusedVariables false
set_option linter.unusedSimpArgs false
variable {U : QV} {P : Program} {c : Cx} {Φ : Nat -> Nat -> Nat -> Prop} {h : Qr U} {nx : Nat} {w : World}
def Q6D (es:List (Nat×Ent U)) (Fs Φ:Nat->Nat->Nat->Prop):Nat->Nat->Nat->Prop:=λt=>if t∈es.map (·.1) then Fs t else Φ t
theorem QaC {es:List (Nat×Ent U)} {Fs Φ:Nat->Nat->Nat->Prop} {t:Nat} (ht:t∈es.map (·.1)):Q6D es Fs Φ t=Fs t:=by unfold Q6D;rw [if_pos ht]
theorem Z9Q {es:List (Nat×Ent U)} {Fs Φ:Nat->Nat->Nat->Prop} {t:Nat} (ht:t∉es.map (·.1)):Q6D es Fs Φ t=Φ t:=by unfold Q6D;rw [if_neg ht]
theorem G.Q97 (hU:U.Ok) (hg:G U c Φ h w) {es:List (Nat×Ent U)} {Fs:Nat->Nat->Nat->Prop} {nw:Nat} {c':Cx} {v:A U} {p:Value} {rd:List Nat} (hle:c.Le c')
  (hL:∀t i,¬(nx<=t/\t < nx+nw)->c'.L t i=c.L t i) (hf:Q5R c h nx nw) (hI:c'.I=c.I)
  (hents:∀t e,get es t=some e->Q1s c' w t (Fs t) e)
  (hsub:∀t b o,t∈es.map (·.1)->Fs t b o->∃t',t'∈es.map (·.1)/\(get h t').isSome/\Φ t' b o)
  (hdis:∀t t' b o,t∈es.map (·.1)->t'∈es.map (·.1)->t≠t'->Fs t b o->¬Fs t' b o)
  (hnames:∀t,t∈es.map (·.1)->(nx<=t/\t < nx+nw)\/(get h t).isSome) (hv:RA U c' v p):
  QB U c Φ h nx { v:=v,rd:=rd,w:=es,nw:=nw} w c' (Q6D es Fs Φ) p w:=by
 have hin:∀t,t∈es.map (·.1)->Q6D es Fs Φ t=Fs t:=λt ht=>QaC ht
 have hout:∀t,t∉es.map (·.1)->Q6D es Fs Φ t=Φ t:=λt ht=>Z9Q ht
 have Q3f:∀t,t∉es.map (·.1)->get (es++h) t=get h t:=λt ht=>by rw [Zh,Zg ht]
 refine ⟨hle,λt i h _=>hL t i h,hv,⟨λt e ht=>?_,λt t' b o hne h1 h2 h3 h4=>?_,λb o u hu=>hg.imm b o u (by rw [←hI];exact hu),λt b o h1 h2=>?_⟩,.refl _ _,hout,λt b o ht hF=>?_,hnames,λb o u hu=>.inl (by rw [←hI];exact hu)⟩
 ·by_cases hm:t∈es.map (·.1)
  ·rw [hin t hm]
   rw [Zh] at ht
   obtain ⟨e',he'⟩:=Option.isSome_iff_exists.1 (Z1n hm)
   rw [he'] at ht;cases ht
   exact hents t e he'
  ·rw [hout t hm]
   rw [Q3f t hm] at ht
   refine (hg.Q1M t e ht).stays hU hle (λi=>hL t i λhn=>?_) (Agr.refl _ _)
   rw [(hf t hn.1 hn.2).1] at ht;cases ht
 ·by_cases hm:t∈es.map (·.1)
  ·rw [hin t hm] at h3
   by_cases hm':t'∈es.map (·.1)
   ·rw [hin t' hm'] at h4;exact hdis t t' b o hm hm' hne h3 h4
   ·rw [hout t' hm'] at h4
    rw [Q3f t' hm'] at h2
    obtain ⟨t2,p1,p2,p3⟩:=hsub t b o hm h3
    exact hg.apart t2 t' b o (λe=>hm' (e▸p1)) p2 h2 p3 h4
  ·rw [hout t hm] at h3
   rw [Q3f t hm] at h1
   by_cases hm':t'∈es.map (·.1)
   ·rw [hin t' hm'] at h4
    obtain ⟨t2,p1,p2,p3⟩:=hsub t' b o hm' h4
    exact hg.apart t2 t b o (λe=>hm (e▸p1)) p2 h1 p3 h3
   ·rw [hout t' hm'] at h4
    rw [Q3f t' hm'] at h2
    exact hg.apart t t' b o hne h1 h2 h3 h4
 ·rw [hI]
  by_cases hm:t∈es.map (·.1)
  ·rw [hin t hm] at h2
   obtain ⟨t2,_,p2,p3⟩:=hsub t b o hm h2
   exact hg.Q15 t2 b o p2 p3
  ·rw [hout t hm] at h2
   rw [Q3f t hm] at h1
   exact hg.Q15 t b o h1 h2
 ·rw [hin t ht] at hF
  obtain ⟨t2,p1,p2,p3⟩:=hsub t b o ht hF
  exact .inr ⟨t2,p1,p2,p3⟩
theorem Z3b {u:U.C}:∀(n:Nat) (l:List U.S) (xs:List (U.D u)),Z1E u n l=some xs->xs.length=n/\∀i,i < n->U.dec u (QM (i*U.size u) (U.size u) l)=some (xs.getD i (U.dft u))
 |0,l,xs,hd=>by
  unfold Z1E at hd
  cases l with
  |nil=>simp at hd;subst hd;exact ⟨rfl,λi hi=>by omega⟩
  |cons x l=>cases hd
 |n+1,l,xs,hd=>by
  unfold Z1E at hd
  split at hd
  ·rename_i x r hx hr
   cases hd
   obtain ⟨h2,h3⟩:=Z3b n _ r hr
   refine ⟨by simp [h2],λi hi=>?_⟩
   cases i with
   |zero=>simpa [QM] using hx
   |succ i=>
    have:=h3 i (by omega)
    simp only [List.getD_cons_succ]
    rw [←this]
    unfold QM
    rw [List.drop_drop,Nat.succ_mul,Nat.add_comm]
  ·cases hd
theorem Pl.sub {b o off n:Nat} {cells:List U.S} {Gk:Nat->Nat->Nat->Prop} (hP:Pl U c w b o cells Gk) (hl:(QM off n cells).length=n):Pl U c w b (o+off) (QM off n cells) (λk=>Gk (off+k)):=by
 have hlt:∀k,k < n->off+k < cells.length:=λk hk=>by
  have:(QM off n cells)[k]? =some (QM off n cells)[k]:=List.getElem?_eq_getElem (by omega)
  exact (List.getElem?_eq_some_iff.1 (ZW this).2).1
 refine ⟨λk x hk=>?_,λj k b' o' hj hk hne=>hP.dis (off+j) (off+k) b' o' (hlt j (by omega)) (hlt k (by omega)) (by omega)⟩
 rw [Nat.add_assoc]
 exact hP.own _ _ (ZW hk).2
theorem Z58 {α:Type} {off n i m:Nat} {l:List α} (h:i+m<=n):QM i m (QM off n l)=QM (off+i) m l:=by
 apply List.ext_getElem?
 intro k
 by_cases hk:k < m
 ·rw [Z1s hk,Z1s (by omega),Z1s hk,Nat.add_assoc]
 ·rw [List.getElem?_eq_none (by simp [QM];omega),List.getElem?_eq_none (by simp [QM];omega)]
theorem Z1k {i n k m:Nat} (hi:i < n) (hk:k < m):i*m+k < n*m:=by
 calc i*m+k < i*m+m:=by omega
  _=(i+1)*m:=by rw [Nat.succ_mul]
  _<=n*m:=Nat.mul_le_mul_right _ hi
theorem Z7U (hU:U.Ok) {s b o n:Nat} {u:U.C} {f:Nat->U.D u} {Gk:Nat->Nat->Nat->Prop} (hL:∀i,i < n->c.L s i=some (b,o+i*U.size u)) (hL1:∀i x,c.L s i=some x->i < n)
  (hP:∀i,i < n->Pl U c w b (o+i*U.size u) (U.enc u (f i)) (λk=>Gk (i*U.size u+k))) (hd:∀j k b' o',j < n*U.size u->k < n*U.size u->j≠k->Gk j b' o'->¬Gk k b' o'):
  Q1s c w s (λb' o'=>∃k,k < n*U.size u/\Gk k b' o') (.fam true u n f:Ent U):=by
 refine ⟨λi=>(b,o+i*U.size u),λi k=>Gk (i*U.size u+k),hL,hL1,λi hi=>hP i hi,λi j k l b' o' hi hj hk hl hne h1 h2=>?_,λb' o'=>⟨?_,?_⟩,λ_ i _=>by simp⟩
 ·refine hd _ _ _ _ (Z1k hi hk) (Z1k hj hl) (λe=>hne ?_) h1 h2
  have hpos:0 < U.size u:=by omega
  have d1:(i*U.size u+k) / U.size u=i:=by rw [Nat.add_comm,Nat.add_mul_div_right _ _ hpos,Nat.div_eq_of_lt hk];omega
  have d2:(j*U.size u+l) / U.size u=j:=by rw [Nat.add_comm,Nat.add_mul_div_right _ _ hpos,Nat.div_eq_of_lt hl];omega
  rw [←d1,e,d2]
 ·rintro ⟨k,hk,hg⟩
  have hpos:0 < U.size u:=by
   rcases Nat.eq_zero_or_pos (U.size u) with h0|h0
   ·rw [h0] at hk;simp at hk
   ·exact h0
  exact ⟨k / U.size u,k % U.size u,(Nat.div_lt_iff_lt_mul hpos).2 hk,Nat.mod_lt k hpos,by show Gk (k / U.size u*U.size u+k % U.size u) b' o';rw [Nat.div_add_mod'];exact hg⟩
 ·rintro ⟨i,k,hi,hk,hg⟩
  exact ⟨_,Z1k hi hk,hg⟩
theorem Z7n (hU:U.Ok) {s n off:Nat} {cells cells':List U.S} {u:U.C} {f:Nat->U.D u} {v:A U} {p:Value} {rd:List Nat} (hg:G U c Φ h w) (hk:get h s=some (.obj cells))
  (hn:get h nx=none) (hc:∀k,c.L nx k=none) {b o:Nat} {Gk:Nat->Nat->Nat->Prop} (hL:c.L s 0=some (b,o)) (hL1:∀i x,c.L s i=some x->i=0)
  {K:Nat->Prop} {Gn:Nat->Nat->Nat->Prop} (hΦ:∀b' o',Φ s b' o'↔∃k,k < cells.length/\Gk k b' o')
  (hKn:∀b' o',(∃k,k < n*U.size u/\Gn k b' o')↔∃k,k < cells.length/\K k/\Gk k b' o')
  (hdis:∀j k b' o',j < cells.length->k < cells.length->j≠k->Gk j b' o'->¬Gk k b' o')
  (hdn:∀j k b' o',j < n*U.size u->k < n*U.size u->j≠k->Gn j b' o'->¬Gn k b' o')
  (hlen:cells'.length=cells.length)
  (hcells:∀c':Cx,c.Le c'->c'.L nx 0=some (b,o+off)->∀k x,cells'[k]? =some x->(K k->x= .hole\/(x= .arr nx/\k=off))/\(¬K k->Own U c' w b (o+k) x (Gk k)))
  (hP:∀i,i < n->Pl U c w b (o+off+i*U.size u) (U.enc u (f i)) (λk=>Gn (i*U.size u+k))) (hn0:0 < n)
  (hv:∀c':Cx,c.Le c'->(∀i,i < n->c'.L nx i=some (b,o+off+i*U.size u))->RA U c' v p):
  ∃c' Φ',QB U c Φ h nx { v:=v,rd:=rd,w:= [(nx,.fam true u n f),(s,.obj cells')],nw:=1} w c' Φ' p w:=by
 have hsome:(get h s).isSome:=by rw [hk];rfl
 have hne:s≠nx:=λe=>by rw [e,hn] at hk;cases hk
 let c':=c.Q21 nx λi=>if i < n then some (b,o+off+i*U.size u) else none
 have hle:c.Le c':=Cx.Q4F hc
 have hL':∀i,i < n->c'.L nx i=some (b,o+off+i*U.size u):=λi hi=>by simp [c',Cx.Q21,hi]
 have hLo:∀t i,t≠nx->c'.L t i=c.L t i:=λt i ht=>by simp [c',Cx.Q21,ht]
 let F1:Nat->Nat->Prop:=λb' o'=>∃k,k < cells.length/\¬K k/\Gk k b' o'
 let F2:Nat->Nat->Prop:=λb' o'=>∃k,k < n*U.size u/\Gn k b' o'
 have hm:∀t,t∈ [(nx,(Ent.fam true u n f:Ent U)),(s,.obj cells')].map (·.1)↔t=nx\/t=s:=λt=>by simp
 refine ⟨c',_,G.Q97 (Fs:=λt=>if t=nx then F2 else F1) hU hg hle (λt i ht=>hLo t i λe=>ht (by omega)) (λt h1 h2=>(show t=nx by omega)▸⟨hn,hc⟩) rfl (λt e ht=>?_) (λt b' o' ht hF=>?_) (λt t' b' o' ht ht' hne' h1 h2=>?_) (λt ht=>?_) (hv c' hle hL')⟩
 ·rw [Z9] at ht
  by_cases ha:nx=t
  ·subst ha
   rw [if_pos rfl] at ht;cases ht
   simp only [if_pos rfl]
   refine Z7U hU hL' (λi x hx=>?_) (λi hi=>(hP i hi).stays hU hle λ_ _=>Agr.refl _ _) hdn
   by_cases hi:i < n
   ·exact hi
   ·simp [c',Cx.Q21,hi] at hx
  ·rw [if_neg ha,Z9] at ht
   by_cases hb:s=t
   ·subst hb
    rw [if_pos rfl] at ht;cases ht
    rw [if_neg (λe=>ha e.symm)]
    refine ⟨b,o,λk b' o'=>¬K k/\Gk k b' o',by rw [hLo s 0 hne];exact hL,λi x hx=>hL1 i x (by rw [←hLo s i hne];exact hx),⟨λk x hx=>?_,λj k b' o' hj hk hne h1 h2=>hdis j k b' o' (by omega) (by omega) hne h1.2 h2.2⟩,λb' o'=>by rw [hlen]⟩
    have h0:=hL' 0 hn0
    rw [Nat.zero_mul,Nat.add_zero] at h0
    obtain ⟨h1,h2⟩:=hcells c' hle h0 k x hx
    rcases Classical.em (K k) with hK|hK
    ·rcases h1 hK with rfl|⟨rfl,rfl⟩
     ·exact .hole λ_ _ hh=>hh.1 hK
     ·exact .arr h0 λ_ _ hh=>hh.1 hK
    ·exact (h2 hK).iff λb' o'=>⟨λhh=>⟨hK,hh⟩,λhh=>hh.2⟩
   ·rw [if_neg hb] at ht;cases ht
 ·refine ⟨s,(hm s).2 (.inr rfl),hsome,(hΦ _ _).2 ?_⟩
  by_cases ha:t=nx
  ·subst ha
   simp only [if_pos rfl] at hF
   obtain ⟨k,h1,_,h2⟩:=(hKn _ _).1 hF
   exact ⟨k,h1,h2⟩
  ·simp only [if_neg ha] at hF
   obtain ⟨k,h1,_,h2⟩:=hF
   exact ⟨k,h1,h2⟩
 ·have main:F1 b' o'->F2 b' o'->False:=λ⟨k,h1,h2,h3⟩ hF=>by
   obtain ⟨j,h4,h5,h6⟩:=(hKn _ _).1 hF
   by_cases e:k=j
   ·subst e;exact h2 h5
   ·exact hdis k j b' o' h1 h4 e h3 h6
  rcases (hm t).1 ht with rfl|rfl
  ·rcases (hm t').1 ht' with rfl|rfl
   ·exact hne' rfl
   ·simp only [if_pos rfl] at h1
    rw [if_neg hne] at h2
    exact main h2 h1
  ·rcases (hm t').1 ht' with rfl|rfl
   ·rw [if_neg hne] at h1
    simp only [if_pos rfl] at h2
    exact main h1 h2
   ·exact hne' rfl
 ·rcases (hm t).1 ht with rfl|rfl
  ·exact .inl ⟨by omega,by omega⟩
  ·exact .inr hsome
theorem Z4K (hU:U.Ok) {s len e off m:Nat} {cells cells':List U.S} {en:Ent U} {v:A U} {p:Value} {rd:List Nat} (ho:Z35 P len e off cells nx=some (en,cells',m)) (hg:G U c Φ h w) (hk:get h s=some (.obj cells))
  (h2:1<=len) (hn:get h nx=none) (hc:∀k,c.L nx k=none) {b o:Nat} (hL:c.L s 0=some (b,o))
  (hv:∀c':Cx,c.Le c'->(∀i,i < len->c'.L nx i=some (b,o+off+i*m))->RA U c' v p):
  ∃c' Φ',QB U c Φ h nx { v:=v,rd:=rd,w:= [(nx,en),(s,.obj cells')],nw:=1} w c' Φ' p w:=by
 obtain ⟨b1,o1,Gk,e1,e2,hP,hΦ⟩:=hg.Q1M s _ hk
 rw [hL] at e1;cases e1
 have hne:s≠nx:=λe=>by rw [e,hn] at hk;cases hk
 unfold Z35 at ho
 split at ho
 ·rename_i u n f hcell
  cases hb:Nat.beq n len with
  |false=>rw [hb] at ho;cases ho
  |true=>
   rw [hb] at ho
   have:=QH hb
   subst this
   cases ho
   have hlt:=(List.getElem?_eq_some_iff.1 hcell).1
   have hown:=hP.own off _ hcell
   cases hown with
   |cell hr _ _ _=>cases hr
   | @Q1n _ _ _ _ _ _ Gn hkn hdn hFn=>
    refine Z7n (K:=λk=>k=off) (Gn:=Gn) hU hg hk hn hc hL e2 hΦ (λb' o'=>?_) hP.dis hdn (by rw [Zo];simp;omega) (λc' hle hL0 k x hx=>⟨λhK=>?_,λhK=>?_⟩) (λi hi=>⟨λk x hx=>?_,λj k b' o' hj hk hne=>?_⟩) h2 hv
    ·rw [←hFn]
     constructor
     ·intro hh;exact ⟨off,hlt,rfl,hh⟩
     ·rintro ⟨k,_,rfl,hh⟩;exact hh
    ·subst hK
     have:=Zw (off:=k) (k:=0) (new:= [S.arr nx]) (l:=cells) (by simp;omega) (by simp)
     rw [Nat.add_zero] at this
     rw [this] at hx
     simp at hx;subst hx
     exact .inr ⟨rfl,rfl⟩
    ·rw [Zp (by simp;omega) (by simp;omega)] at hx
     exact (hP.own k x hx).stays hU hle (Agr.refl _ _)
    ·have hk':k < U.size u:=by have:=(List.getElem?_eq_some_iff.1 hx).1;rwa [hU.QD] at this
     have:=hkn (i*U.size u+k) x (by rw [Z1j hU u n f hi hk'];exact hx)
     rwa [←Nat.add_assoc] at this
    ·rw [hU.QD] at hj hk
     exact hdn _ _ _ _ (Z1k hi hj) (Z1k hi hk) (by omega)
 ·split at ho
  ·rename_i m' u hm hu
   cases hb:Nat.beq m' (U.size u) && Nat.ble 1 m' && Nat.beq (QM off (len*m') cells).length (len*m') && (QM off (len*m') cells).all Ze with
   |false=>rw [hb] at ho;cases ho
   |true=>
    rw [hb] at ho
    simp only [cond_true] at ho
    simp only [Bool.and_eq_true] at hb
    obtain ⟨⟨⟨c1,c2⟩,c4⟩,c5⟩:=hb
    have c1:=QH c1
    subst c1
    have c2:=Nat.le_of_ble_eq_true c2
    have c4:=QH c4
    split at ho
    ·rename_i xs hx
     cases ho
     have hpos:1<=len*U.size u:=Nat.mul_pos h2 c2
     have hcl:off+len*U.size u<=cells.length:=by
      have:=c4;unfold QM at this;simp at this;omega
     have hnl:(S.arr nx::List.replicate (len*U.size u - 1) S.hole:List U.S).length=len*U.size u:=by simp;omega
     obtain ⟨hxl,hxa⟩:=Z3b _ _ _ hx
     refine Z7n (K:=λk=>off<=k/\k < off+len*U.size u) (Gn:=λk=>Gk (off+k)) hU hg hk hn hc hL e2 hΦ (λb' o'=>?_) hP.dis (λj k b' o' hj hk hne=>hP.dis _ _ _ _ (by omega) (by omega) (by omega)) (by rw [Zo];omega)
      (λc' hle hL0 k x hx=>⟨λhK=>?_,λhK=>?_⟩) (λi hi=>?_) h2 hv
     ·constructor
      ·rintro ⟨k,h3,h4⟩;exact ⟨off+k,by omega,⟨by omega,by omega⟩,h4⟩
      ·rintro ⟨k,h3,h4,h5⟩;exact ⟨k - off,by omega,by rw [show off+(k - off)=k by omega];exact h5⟩
     ·obtain ⟨j,rfl⟩:∃j,k=off+j:=⟨k - off,by omega⟩
      rw [Zw (by omega) (by omega)] at hx
      cases j with
      |zero=>simp at hx;subst hx;exact .inr ⟨rfl,by omega⟩
      |succ j=>
       have hj':j < len*U.size u - 1:=by omega
       simp [List.getElem?_replicate,hj'] at hx
       exact .inl hx.symm
     ·rw [Zp (by omega) (by omega)] at hx
      exact (hP.own k x hx).stays hU hle (Agr.refl _ _)
     ·have hle2:i*U.size u+U.size u<=len*U.size u:=by
       have:(i+1)*U.size u<=len*U.size u:=Nat.mul_le_mul_right _ hi
       rwa [Nat.succ_mul] at this
      have h3:=hxa i hi
      rw [Z58 hle2] at h3
      have h4:=(hP.sub (off:=off+i*U.size u) (n:=U.size u) (hU.Q49 _ _ _ h3)).dec hU h3
      have e5:o+(off+i*U.size u)=o+off+i*U.size u:=by omega
      rw [e5] at h4
      have e6:(λk=>Gk (off+i*U.size u+k))=λk=>Gk (off+(i*U.size u+k)):=by funext k;rw [Nat.add_assoc]
      rw [e6] at h4
      exact h4
    ·cases ho
  ·cases ho
theorem Z7V (hU:U.Ok) {h':Qr U} {t:TypeId} {a b:A U} {r:OpR U} {out:Out U} {p q:Value} (hr:Z5g P t a b h' nx=some r) (ho:r.outs=some out)
  (hag:∀s,s∈out.rd\/s∈out.w.map (·.1)->get h s=get h' s) (hg:G U c Φ h w) (hf:Q5R c h nx out.nw) (ha:RA U c a p) (hb:RA U c b q):
  ∃u w' c' Φ',(Instr.indexAt t p q).run P w= .ok u w'/\QB U c Φ h nx out w c' Φ' u w':=by
 unfold Z5g at hr
 split at hr
 ·rename_i len e s off k n hu
  split at hr
  ·rename_i m cells hm he
   cases hc:Nat.ble 2 len with
   |false=>rw [hc] at hr;cases hr
   |true=>
    rw [hc] at hr
    simp only [cond_true] at hr
    split at hr
    ·rename_i en cells' m' hx
     cases hmm:Nat.beq m m' with
     |false=>rw [hmm] at hr;cases hr
     |true=>
      rw [hmm] at hr
      have:=QH hmm
      subst this
      cases hr
      obtain ⟨hin,rfl⟩:=Zb ho
      have he':get h s=some (.obj cells):=by rw [hag s (.inl (by simp))];exact he
      cases R.int (show R U c _ q from hb)
      obtain ⟨b,o,hL,rfl⟩:∃b o,c.L s 0=some (b,o)/\p= .pointer (some (at_ b (o+off))):=by
       cases (show R U c _ p from ha) with|ptr h0=>exact ⟨_,_,h0,rfl⟩
      obtain ⟨h0,h1,h2⟩:=ZS hin
      obtain ⟨hn,hs⟩:=hf nx (Nat.le_refl _) (by simp)
      obtain ⟨c',Φ',hst⟩:=Z4K (v:=Rf.sc (.ptr nx n.toNat 0)) (p:= .pointer (some (at_ b (o+off+n.toNat*m)))) (rd:= [s]) hU hx hg he' (by have:=Nat.le_of_ble_eq_true hc;omega) hn hs hL
       (λc' hle hL'=>by
        have:=R.ptr (U:=U) (c:=c') (s:=nx) (i:=n.toNat) (off:=0) (hL' n.toNat h2)
        exact this)
      refine ⟨_,w,c',Φ',?_,hst⟩
      simp only [Instr.indexAt,Sem.run_bind,Z16,Result.andThen_ok,run_underlying hu]
      simp [h0,h1,Za hm,Zq,Instr.sureAddr]
    ·cases hr
  ·cases hr
 ·cases hr
end Go.Rf
namespace Go.Rf
set_option linter.unusedVariables false
set_option linter.unusedSimpArgs false
variable {U : QV} {P : Program} {c : Cx} {Φ : Nat -> Nat -> Nat -> Prop} {h : Qr U} {nx : Nat} {w : World}
theorem QB.comp {c1 c2:Cx} {Φ1 Φ2:Nat->Nat->Nat->Prop} {w1 w2:World} {o1 o2:Out U} {p u:Value} {rd:List Nat} (h1:QB U c Φ h nx o1 w c1 Φ1 p w1)
  (h2:QB U c1 Φ1 (o1.w++h) (nx+o1.nw) o2 w1 c2 Φ2 u w2):QB U c Φ h nx { v:=o2.v,rd:=rd,w:=o2.w++o1.w,nw:=o1.nw+o2.nw} w c2 Φ2 u w2:=by
 have hmem:∀s,s∈(o2.w++o1.w).map (·.1)↔s∈o2.w.map (·.1)\/s∈o1.w.map (·.1):=λs=>by rw [List.map_append,List.mem_append]
 have hback:∀s b o,s∈o2.w.map (·.1)->(get (o1.w++h) s).isSome->Φ1 s b o->w.heap.size<=b\/∃s',s'∈(o2.w++o1.w).map (·.1)/\(get h s').isSome/\Φ s' b o:=λs b o hs hg hf=>by
  by_cases hm:s∈o1.w.map (·.1)
  ·rcases h1.Q2g s b o hm hf with h3|⟨s',h3,h4,h5⟩
   ·exact .inl h3
   ·exact .inr ⟨s',(hmem s').2 (.inr h3),h4,h5⟩
  ·rw [h1.Q2p s hm] at hf
   rw [Zh,Zg hm] at hg
   exact .inr ⟨s,(hmem s).2 (.inl hs),hg,hf⟩
 refine ⟨h1.le.trans h2.le,λs i hs hf=>(h2.L s i (λhh=>hs ?_) (λhh=>hf ⟨hh.1,(hmem s).2 (.inl hh.2)⟩)).trans (h1.L s i (λhh=>hs ?_) (λhh=>hf ⟨hh.1,(hmem s).2 (.inr hh.2)⟩)),h2.val,?_,?_,λs hs=>?_,λs b o hs hf=>?_,λs hs=>?_,λb o v hI=>?_⟩
 ·simp only;omega
 ·simp only;omega
 ·rw [List.append_assoc];exact h2.g
 ·refine (h1.fr.mono λb o _ ⟨s,p1,p2,p3⟩=>⟨s,(hmem s).2 (.inr p1),p2,p3⟩).trans h2.fr λb o hb ⟨s,p1,p2,p3⟩=>?_
  rcases hback s b o p1 p2 p3 with p4|p4
  ·omega
  ·exact p4
 ·have hs':=λhh=>hs ((hmem s).2 hh)
  rw [h2.Q2p s λhh=>hs' (.inl hh),h1.Q2p s λhh=>hs' (.inr hh)]
 ·by_cases hm:s∈o2.w.map (·.1)
  ·rcases h2.Q2g s b o hm hf with p1|⟨s',p1,p2,p3⟩
   ·exact .inl (Nat.le_trans h1.fr.size p1)
   ·exact hback s' b o p1 p2 p3
  ·rw [h2.Q2p s hm] at hf
   have hm1:s∈o1.w.map (·.1):=((hmem s).1 hs).resolve_left hm
   rcases h1.Q2g s b o hm1 hf with p1|⟨s',p1,p2,p3⟩
   ·exact .inl p1
   ·exact .inr ⟨s',(hmem s').2 (.inr p1),p2,p3⟩
 ·rcases (hmem s).1 hs with hm|hm
  ·rcases h2.names s hm with p1|p1
   ·left;simp only;omega
   ·rw [Zh] at p1
    by_cases hm1:s∈o1.w.map (·.1)
    ·rcases h1.names s hm1 with p2|p2
     ·left;simp only;omega
     ·exact .inr p2
    ·rw [Zg hm1] at p1;exact .inr p1
  ·rcases h1.names s hm with p2|p2
   ·left;simp only;omega
   ·exact .inr p2
 ·rcases h2.Q32 b o v hI with p1|p1|⟨s,p1,p2,p3⟩
  ·rcases h1.Q32 b o v p1 with p4|p4|⟨s,p4,p5,p6⟩
   ·exact .inl p4
   ·exact .inr (.inl p4)
   ·exact .inr (.inr ⟨s,(hmem s).2 (.inr p4),p5,p6⟩)
  ·exact .inr (.inl (Nat.le_trans h1.fr.size p1))
  ·exact .inr (hback s b o p1 p2 p3)
theorem Z1Z (hg:G U c Φ h w) {s:Nat} {e e':Ent U} {rd:List Nat} (hk:get h s=some e) (hle:∀F,Q1s c w s F e->Q1s c w s F e'):
  QB U c Φ h nx { v:= .t [],rd:=rd,w:= [(s,e')]} w c Φ undef w:=by
 have hsome:(get h s).isSome:=by rw [hk];rfl
 have Q3f:∀t,(get ((s,e')::h) t).isSome->(get h t).isSome:=λt ht=>by
  rw [Z9] at ht
  by_cases e:s=t
  ·subst e;exact hsome
  ·rwa [if_neg e] at ht
 refine ⟨.refl c,λ_ _ _ _=>rfl,RA.undef,⟨λt e1 ht=>?_,λt t' b o hne h1 h2 h3=>hg.apart t t' b o hne (Q3f t h1) (Q3f t' h2) h3,hg.imm,λt b o h1 h2=>hg.Q15 t b o (Q3f t h1) h2⟩,.refl _ _,λ_ _=>rfl,λt b o ht hF=>?_,λt ht=>?_,λ_ _ _ h=>.inl h⟩
 ·have ht:get ((s,e')::h) t=some e1:=ht
  rw [Z9] at ht
  by_cases e2:s=t
  ·subst e2;rw [if_pos rfl] at ht;cases ht;exact hle _ (hg.Q1M s e hk)
  ·rw [if_neg e2] at ht;exact hg.Q1M t e1 ht
 ·have:t=s:=by simpa using ht
  subst this
  exact .inr ⟨t,ht,hsome,hF⟩
 ·have:t=s:=by simpa using ht
  subst this
  exact .inr hsome
theorem Z9l (hU:U.Ok) {t b o n:Nat} {u:U.C} {f:Nat->U.D u} {F:Nat->Nat->Prop} (h:Q1s c w t F (.fam true u n f:Ent U)) (hL:c.L t 0=some (b,o)):
  ∃Gn:Nat->Nat->Nat->Prop,(∀(k:Nat) x,(flat u n f)[k]? =some x->Own U c w b (o+k) x (Gn k))/\(∀j k b' o',j < n*U.size u->k < n*U.size u->j≠k->Gn j b' o'->¬Gn k b' o')/\
   (∀b' o',F b' o'↔∃k,k < n*U.size u/\Gn k b' o')/\0 < n/\(∀i,i < n->c.L t i=some (b,o+i*U.size u)):=by
 obtain ⟨A,G,h0,h1,h2,h3,h4,h5⟩:=h
 have hn:=h1 0 _ hL
 have hA0:=h0 0 hn
 rw [hL] at hA0
 simp only [Option.some.injEq] at hA0
 have hA:∀i,i < n->A i=(b,o+i*U.size u):=λi hi=>by rw [h5 rfl i hi,←hA0]
 have hdm:∀i k,k < U.size u->(i*U.size u+k) / U.size u=i/\(i*U.size u+k) % U.size u=k:=λi k hk=>by
  have hpos:0 < U.size u:=by omega
  exact ⟨by rw [Nat.add_comm,Nat.add_mul_div_right _ _ hpos,Nat.div_eq_of_lt hk];omega,by rw [Nat.add_comm,Nat.add_mul_mod_self_right,Nat.mod_eq_of_lt hk]⟩
 refine ⟨λj=>G (j / U.size u) (j % U.size u),λk x hk=>?_,λj k b' o' hj hk hne hf hf'=>?_,λb' o'=>?_,hn,λi hi=>by rw [h0 i hi,hA i hi]⟩
 ·obtain ⟨i,k',hi,hk',rfl,hx⟩:=Z2K hU u n f hk
  have:=(h2 i hi).own k' x hx
  rw [hA i hi] at this
  try dsimp only
  rw [(hdm i k' hk').1,(hdm i k' hk').2,←Nat.add_assoc]
  exact this
 ·have hpos:0 < U.size u:=by
   rcases Nat.eq_zero_or_pos (U.size u) with hz|hz
   ·rw [hz] at hj;simp at hj
   ·exact hz
  have hji:j / U.size u < n:=(Nat.div_lt_iff_lt_mul hpos).2 hj
  have hki:k / U.size u < n:=(Nat.div_lt_iff_lt_mul hpos).2 hk
  by_cases e:j / U.size u=k / U.size u
  ·have hm:j % U.size u≠k % U.size u:=λe2=>hne (by rw [←Nat.div_add_mod' j (U.size u),←Nat.div_add_mod' k (U.size u),e,e2])
   try dsimp only at hf hf'
   rw [e] at hf
   exact (h2 _ hki).dis _ _ b' o' (by rw [hU.QD];exact Nat.mod_lt _ hpos) (by rw [hU.QD];exact Nat.mod_lt _ hpos) hm hf hf'
  ·exact h3 _ _ _ _ b' o' hji hki (Nat.mod_lt _ hpos) (Nat.mod_lt _ hpos) e hf hf'
 ·rw [h4]
  constructor
  ·rintro ⟨i,k,hi,hk,hf⟩
   exact ⟨i*U.size u+k,Z1k hi hk,by dsimp only;rw [(hdm i k hk).1,(hdm i k hk).2];exact hf⟩
  ·rintro ⟨k,hk,hf⟩
   have hpos:0 < U.size u:=by
    rcases Nat.eq_zero_or_pos (U.size u) with hz|hz
    ·rw [hz] at hk;simp at hk
    ·exact hz
   exact ⟨_,_,(Nat.div_lt_iff_lt_mul hpos).2 hk,Nat.mod_lt _ hpos,hf⟩
theorem Z5M (hU:U.Ok) (hg:G U c Φ h w) {s t k m:Nat} {cells:List U.S} {u:U.C} {f:Nat->U.D u} {rd:List Nat} (hk:get h s=some (.obj cells)) (hc:cells[k]? =some (.arr t)) (ht:get h t=some (.fam true u m f)):
  ∃Φ',QB U c Φ h nx { v:= .t [],rd:=rd,w:= [(s,.obj (Zn k (.Q1n u m f) cells)),(t,.dead)]} w c Φ' undef w:=by
 have hne:s≠t:=λe=>by rw [e,ht] at hk;cases hk
 have hlt:=(List.getElem?_eq_some_iff.1 hc).1
 obtain ⟨b,o,Gk,e1,e2,hP,hΦ⟩:=hg.Q1M s _ hk
 obtain ⟨hL,hnone⟩:=(hP.own k _ hc).arrL
 obtain ⟨Gn,n1,n2,n3,n4,_⟩:=Z9l hU (hg.Q1M t _ ht) hL
 have hss:(get h s).isSome:=by rw [hk];rfl
 have hts:(get h t).isSome:=by rw [ht];rfl
 have hm:∀x,x∈ [(s,(Ent.obj (Zn k (.Q1n u m f) cells):Ent U)),(t,.dead)].map (·.1)↔x=s\/x=t:=λx=>by simp
 have hcross:∀j b' o',j < cells.length->Gk j b' o'->¬Φ t b' o':=λj b' o' hj hf=>hg.apart s t b' o' hne hss hts ((hΦ _ _).2 ⟨j,hj,hf⟩)
 refine ⟨_,G.Q97 (Fs:=λx=>if x=s then (λb' o'=>Φ s b' o'\/Φ t b' o') else λ_ _=>False) hU hg (.refl c) (λ_ _ _=>rfl) (λ_ h1 h2=>by omega) rfl (λx e hx=>?_) (λx b' o' hx hF=>?_) (λx x' b' o' hx hx' hxx h1 h2=>?_) (λx hx=>?_) RA.undef⟩
 ·rw [Z9] at hx
  by_cases ha:s=x
  ·subst ha
   rw [if_pos rfl] at hx;cases hx
   simp only [if_pos rfl]
   refine ⟨b,o,λj=>if j=k then Φ t else Gk j,e1,e2,⟨λj x hj=>?_,λi j b' o' hi hj hne' h1 h2=>?_⟩,λb' o'=>?_⟩
   ·rw [Z6E hlt] at hj
    by_cases e:j=k
    ·subst e
     rw [if_pos rfl] at hj;cases hj
     try dsimp only
     rw [if_pos rfl]
     exact .Q1n Gn n1 n2 n3
    ·rw [if_neg e] at hj
     try dsimp only
     rw [if_neg e]
     exact hP.own j x hj
   ·rw [Z2r hlt] at hi hj
    try dsimp only at h1 h2
    by_cases e:i=k
    ·rw [if_pos e] at h1
     rw [if_neg (λe'=>hne' (e.trans e'.symm))] at h2
     exact hcross j b' o' hj h2 h1
    ·rw [if_neg e] at h1
     by_cases e':j=k
     ·rw [if_pos e'] at h2
      exact hcross i b' o' hi h1 h2
     ·rw [if_neg e'] at h2
      exact hP.dis i j b' o' hi hj hne' h1 h2
   ·rw [Z2r hlt]
    constructor
    ·rintro (q|q)
     ·obtain ⟨j,hj,hf⟩:=(hΦ _ _).1 q
      have:j≠k:=λe=>hnone _ _ (e▸hf)
      exact ⟨j,hj,by dsimp only;rw [if_neg this];exact hf⟩
     ·exact ⟨k,hlt,by dsimp only;rw [if_pos rfl];exact q⟩
    ·rintro ⟨j,hj,hf⟩
     try dsimp only at hf
     by_cases e:j=k
     ·rw [if_pos e] at hf;exact .inr hf
     ·rw [if_neg e] at hf;exact .inl ((hΦ _ _).2 ⟨j,hj,hf⟩)
  ·rw [if_neg ha,Z9] at hx
   by_cases hb:t=x
   ·subst hb
    rw [if_pos rfl] at hx;cases hx
    rw [if_neg (λe=>ha e.symm)]
    exact λ_ _ h=>h
   ·rw [if_neg hb] at hx;cases hx
 ·by_cases ha:x=s
  ·simp only [if_pos ha] at hF
   rcases hF with q|q
   ·exact ⟨s,(hm s).2 (.inl rfl),hss,q⟩
   ·exact ⟨t,(hm t).2 (.inr rfl),hts,q⟩
  ·simp only [if_neg ha] at hF
 ·rcases (hm x).1 hx with rfl|rfl
  ·rcases (hm x').1 hx' with rfl|rfl
   ·exact hxx rfl
   ·rw [if_neg (λe=>hne e.symm)] at h2;exact h2
  ·rw [if_neg (λe=>hne e.symm)] at h1;exact h1
 ·rcases (hm x).1 hx with rfl|rfl
  ·exact .inr hss
  ·exact .inr hts
theorem Z9a (hU:U.Ok) {s k m:Nat} {F:Nat->Nat->Prop} {cells:List U.S} {u:U.C} {f:Nat->U.D u} (hc:cells[k]? =some (.Q1n u m f)) (hlen:(QM (k+1) (m*U.size u - 1) cells).length=m*U.size u - 1)
  (hh:(QM (k+1) (m*U.size u - 1) cells).all Z4F=true) (h1:1<=m*U.size u) (hE:Q1s c w s F (.obj cells:Ent U)):Q1s c w s F (.obj (Q1v k (flat u m f) cells):Ent U):=by
 obtain ⟨b,o,Gk,e1,e2,hP,hΦ⟩:=hE
 have hlt:=(List.getElem?_eq_some_iff.1 hc).1
 have hfl:=ZQ hU u m f
 have hcl:k+m*U.size u<=cells.length:=by
  have:=hlen;unfold QM at this;simp at this;omega
 have hhole:∀j,k < j->j < k+m*U.size u->cells[j]? =some .hole:=λj h2 h3=>by
  have hj:j - (k+1) < m*U.size u - 1:=by omega
  have h4:(QM (k+1) (m*U.size u - 1) cells)[j - (k+1)]? =cells[j]? :=by rw [Z1s hj];congr 1;omega
  have h5:j < cells.length:=by omega
  rw [List.getElem?_eq_getElem h5] at h4
  have:=List.all_eq_true.1 hh _ (List.mem_of_getElem? h4)
  rw [List.getElem?_eq_getElem h5]
  cases hx:cells[j] <;> rw [hx] at this <;> first|rfl|cases this
 cases hP.own k _ hc with
 |cell hr _ _ _=>cases hr
 | @Q1n _ _ _ _ _ _ Gn hkn hdn hFn=>
  have hempty:∀j b' o',k < j->j < k+m*U.size u->¬Gk j b' o':=λj b' o' h2 h3 hf=>by
   cases hP.own j _ (hhole j h2 h3) with
   |cell hr _ _ _=>cases hr
   |hole hF=>exact hF _ _ hf
  refine ⟨b,o,λj b' o'=>if k<=j/\j < k+m*U.size u then Gn (j - k) b' o' else Gk j b' o',e1,e2,⟨λj x hj=>?_,λi j b' o' hi hj hne f1 f2=>?_⟩,λb' o'=>?_⟩
  ·try dsimp only
   by_cases hin:k<=j/\j < k+m*U.size u
   ·obtain ⟨i,rfl⟩:∃i,j=k+i:=⟨j - k,by omega⟩
    rw [Zw (by rw [hfl];exact hcl) (by rw [hfl];omega)] at hj
    simp only [if_pos hin]
    rw [show k+i - k=i by omega,←Nat.add_assoc]
    exact hkn i x hj
   ·rw [Zp (by rw [hfl];exact hcl) (by rw [hfl];omega)] at hj
    simp only [if_neg hin]
    exact hP.own j x hj
  ·rw [Zo (by rw [hfl];exact hcl)] at hi hj
   try dsimp only at f1 f2
   by_cases hi':k<=i/\i < k+m*U.size u
   ·rw [if_pos hi'] at f1
    by_cases hj':k<=j/\j < k+m*U.size u
    ·rw [if_pos hj'] at f2
     exact hdn _ _ b' o' (by omega) (by omega) (by omega) f1 f2
    ·rw [if_neg hj'] at f2
     exact hP.dis k j b' o' hlt hj (by omega) ((hFn _ _).2 ⟨i - k,by omega,f1⟩) f2
   ·rw [if_neg hi'] at f1
    by_cases hj':k<=j/\j < k+m*U.size u
    ·rw [if_pos hj'] at f2
     exact hP.dis i k b' o' hi hlt (by omega) f1 ((hFn _ _).2 ⟨j - k,by omega,f2⟩)
    ·rw [if_neg hj'] at f2
     exact hP.dis i j b' o' hi hj hne f1 f2
  ·rw [Zo (by rw [hfl];exact hcl),hΦ]
   constructor
   ·rintro ⟨j,hj,hf⟩
    by_cases e:j=k
    ·subst e
     obtain ⟨i,hi,hf⟩:=(hFn _ _).1 hf
     exact ⟨j+i,by omega,by dsimp only;rw [if_pos ⟨by omega,by omega⟩,show j+i - j=i by omega];exact hf⟩
    ·by_cases hin:k<=j/\j < k+m*U.size u
     ·exact (hempty j b' o' (by omega) hin.2 hf).elim
     ·exact ⟨j,hj,by dsimp only;rw [if_neg hin];exact hf⟩
   ·rintro ⟨j,hj,hf⟩
    by_cases hin:k<=j/\j < k+m*U.size u
    ·rw [if_pos hin] at hf
     exact ⟨k,hlt,(hFn _ _).2 ⟨j - k,by omega,hf⟩⟩
    ·rw [if_neg hin] at hf
     exact ⟨j,hj,hf⟩
theorem Z5G:∀(l:List U.S) (k j:Nat) (x:U.S),Z2f l k=some (j,x)->k<=j/\l[j - k]? =some x
 | [],k,j,x,h=>by cases h
 |y::r,k,j,x,h=>by
  unfold Z2f at h
  cases hb:Qa5 y with
  |true=>
   rw [hb] at h
   cases h
   exact ⟨Nat.le_refl _,by simp⟩
  |false=>
   rw [hb] at h
   obtain ⟨h1,h2⟩:=Z5G r (k+1) j x h
   refine ⟨by omega,?_⟩
   rw [show j - k=(j - (k+1))+1 by omega,List.getElem?_cons_succ]
   exact h2
theorem Z4s {l:List U.S} {off n j:Nat} {x:U.S} (h:Z2f (QM off n l) 0=some (j,x)):l[off+j]? =some x:=by
 obtain ⟨_,h2⟩:=Z5G _ _ _ _ h
 rw [Nat.sub_zero] at h2
 exact (ZW h2).2
theorem Qaq (fu s off n:Nat) (h:Qr U):s∈Z2F fu s off n h:=by
 induction fu generalizing h with
 |zero=>simp [Z2F]
 |succ fu ih=>
  unfold Z2F
  split
  ·split
   ·split
    ·exact List.mem_cons_of_mem _ (ih _)
    ·simp
   ·cases hb:Nat.beq _ _ && _ && _ with
    |true=>simp only [cond_true];exact ih _
    |false=>simp
   ·simp
  ·simp
theorem Z11 {e h h':Qr U} {x:Nat} (hx:get h x=get h' x):get (e++h) x=get (e++h') x:=by rw [Zh,Zh,hx]
theorem Z47 (s off n:Nat):∀(fu:Nat) (h h':Qr U),(∀x,x∈Z2F fu s off n h'->get h x=get h' x)->Z1K fu s off n h=Z1K fu s off n h'
 |0,h,h',_=>rfl
 |fu+1,h,h',ha=>by
  have hs:=ha s (Qaq _ _ _ _ _)
  unfold Z1K
  unfold Z2F at ha
  rw [hs]
  cases he:get h' s with
  |none=>rfl
  |some e=>
   rw [he] at ha
   cases e with
   |obj cells=>
    simp only at ha ⊢
    cases hfa:Z2f (QM off n cells) 0 with
    |none=>rfl
    |some p=>
     obtain ⟨k,x⟩:=p
     rw [hfa] at ha
     cases x with
     |arr t=>
      simp only at ha ⊢
      have ht:get h t=get h' t:=ha t (by
       split
       ·exact List.mem_cons_self ..
       ·simp)
      rw [ht]
      cases htt:get h' t with
      |none=>rfl
      |some e=>
       rw [htt] at ha
       cases e with
       |fam ct u m f=>
        cases ct with
        |true=>
         simp only at ha ⊢
         rw [Z47 s off n fu _ _ λx hx=>Z11 (ha x (List.mem_cons_of_mem _ hx))]
        |false=>rfl
       |_=>rfl
     |Q1n u m f=>
      simp only at ha ⊢
      cases hb:Nat.beq (QM (off+k+1) (m*U.size u - 1) cells).length (m*U.size u - 1) && (QM (off+k+1) (m*U.size u - 1) cells).all Z4F && Nat.ble 1 (m*U.size u) with
      |false=>rfl
      |true=>
       rw [hb] at ha
       simp only [cond_true] at ha ⊢
       rw [Z47 s off n fu _ _ λx hx=>Z11 (ha x hx)]
     |_=>rfl
   |_=>rfl
theorem Z5q (hU:U.Ok) (s off n:Nat):∀(fu:Nat) (h:Qr U) (Φ:Nat->Nat->Nat->Prop),G U c Φ h w->∃Φ',QB U c Φ h nx { v:= .t [],w:=Z1K fu s off n h} w c Φ' undef w
 |0,h,Φ,hg=>⟨Φ,QB.pure hg RA.undef⟩
 |fu+1,h,Φ,hg=>by
  unfold Z1K
  split
  ·rename_i cells he
   split
   ·rename_i k t hfa
    split
    ·rename_i u m f ht
     obtain ⟨Φ1,h1⟩:=Z5M (nx:=nx) (rd:= []) hU hg he (Z4s hfa) ht
     obtain ⟨Φ2,h2⟩:=Z5q hU s off n fu _ Φ1 h1.g
     exact ⟨Φ2,h1.comp (rd:= []) h2⟩
    ·exact ⟨Φ,QB.pure hg RA.undef⟩
   ·rename_i k u m f hfa
    cases hb:Nat.beq (QM (off+k+1) (m*U.size u - 1) cells).length (m*U.size u - 1) && (QM (off+k+1) (m*U.size u - 1) cells).all Z4F && Nat.ble 1 (m*U.size u) with
    |false=>exact ⟨Φ,QB.pure hg RA.undef⟩
    |true=>
     simp only [cond_true]
     simp only [Bool.and_eq_true] at hb
     have h1:=Z1Z (nx:=nx) (rd:= []) hg he λF=>Z9a (c:=c) (w:=w) (s:=s) (F:=F) hU (Z4s hfa) (QH hb.1.1) hb.1.2 (Nat.le_of_ble_eq_true hb.2)
     obtain ⟨Φ2,h2⟩:=Z5q hU s off n fu _ Φ h1.g
     exact ⟨Φ2,h1.comp (rd:= []) h2⟩
   ·exact ⟨Φ,QB.pure hg RA.undef⟩
  ·exact ⟨Φ,QB.pure hg RA.undef⟩
theorem Z34 {r:OpR U} {e:List (Nat×Ent U)} {rd:List Nat} {out:Out U} (h:(r.Q8U e rd).outs=some out):∃o,r.outs=some o/\out={ v:=o.v,rd:=rd++o.rd,w:=o.w++e,nw:=o.nw}:=by
 cases r with
 |fail=>cases h
 |ok o=>cases h;exact ⟨o,rfl,rfl⟩
 |chk b o=>
  cases b with
  |true=>cases h;exact ⟨o,rfl,rfl⟩
  |false=>cases h
 |opt α x k=>
  cases x with
  |none=>cases h
  |some y=>cases h;exact ⟨k y,rfl,rfl⟩
 |two b x y=>
  cases b with
  |true=>cases h;exact ⟨x,rfl,rfl⟩
  |false=>cases h;exact ⟨y,rfl,rfl⟩
theorem Z3X (hU:U.Ok) {h':Qr U} {t:TypeId} {a:A U} {k:Qr U->OpR U} {out:Out U} (ho:(Q75 P t a h' k).outs=some out)
  (hag:∀s,s∈out.rd\/s∈out.w.map (·.1)->get h s=get h' s) (hg:G U c Φ h w) {post:Value->World->Prop}
  (hk:∀(h1 h1':Qr U) (Φ1:Nat->Nat->Nat->Prop) (o:Out U),(k h1').outs=some o->(∀s,s∈o.rd\/s∈o.w.map (·.1)->get h1 s=get h1' s)->G U c Φ1 h1 w->
   ∃u w',post u w'/\∃c' Φ',QB U c Φ1 h1 nx o w c' Φ' u w'):∃u w',post u w'/\∃c' Φ',QB U c Φ h nx out w c' Φ' u w':=by
 unfold Q75 at ho
 split at ho
 ·rename_i s off n _
  have plain:(k h').outs=some out->∃u w',post u w'/\∃c' Φ',QB U c Φ h nx out w c' Φ' u w':=λho=>hk h h' Φ out ho hag hg
  split at ho
  ·exact plain ho
  ·rename_i e hne
   obtain ⟨o,h1,rfl⟩:=Z34 ho
   have hc:Z1K 8 s off n h=Z1K 8 s off n h':=Z47 s off n 8 h h' λx hx=>hag x (.inl (by simp [hx]))
   obtain ⟨Φ1,h2⟩:=Z5q (nx:=nx) hU s off n 8 h Φ hg
   rw [hc] at h2
   obtain ⟨u,w',h3,c',Φ',h4⟩:=hk (Z1K 8 s off n h'++h) (Z1K 8 s off n h'++h') Φ1 o h1 (λx hx=>by
    rw [Zh,Zh]
    cases hm:get (Z1K 8 s off n h') x with
    |some e=>rfl
    |none=>
     refine hag x ?_
     rcases hx with hx|hx
     ·exact .inl (List.mem_append_right _ hx)
     ·exact .inr (by rw [List.map_append];exact List.mem_append_left _ hx)) h2.g
   refine ⟨u,w',h3,c',Φ',?_⟩
   have:=h2.comp (rd:=Z2F 8 s off n h'++o.rd) h4
   simp only [Nat.zero_add] at this
   exact this
 ·exact hk h h' Φ out ho hag hg
theorem Z78 (hU:U.Ok) {h':Qr U} {t:TypeId} {a:A U} {xl xh xm:Option (Option (A U))} {yl yh ym:Option Value} {r:OpR U} {out:Out U} {p:Value} (hr:Z4k P t a xl xh xm h' nx=some r) (ho:r.outs=some out)
  (hag:∀s,s∈out.rd\/s∈out.w.map (·.1)->get h s=get h' s) (hg:G U c Φ h w) (hf:Q5R c h nx out.nw) (ha:RA U c a p) (hl:Z1g U c xl yl) (hh:Z1g U c xh yh) (hm:Z1g U c xm ym):
  ∃u w' c' Φ',(Instr.sliceAt t p yl yh ym).run P w= .ok u w'/\QB U c Φ h nx out w c' Φ' u w':=by
 unfold Z4k at hr
 split at hr
 ·rename_i len e s off hu
  split at hr
  ·rename_i m l rr cells hs h1 h2 he
   cases hc:Nat.ble 1 len with
   |false=>rw [hc] at hr;cases hr
   |true=>
    rw [hc] at hr
    simp only [cond_true] at hr
    split at hr
    ·rename_i en cells' m' hx
     cases hmm:Nat.beq m m' with
     |false=>rw [hmm] at hr;cases hr
     |true=>
      rw [hmm] at hr
      have:=QH hmm
      subst this
      cases hr
      obtain ⟨hin,rfl⟩:=Zb ho
      obtain ⟨e0,e1,e2⟩:=ZK hin
      have he':get h s=some (.obj cells):=by rw [hag s (.inl (by simp))];exact he
      obtain ⟨b,o,hL,rfl⟩:∃b o,c.L s 0=some (b,o)/\p= .pointer (some (at_ b (o+off))):=by
       cases (show R U c _ p from ha) with|ptr h0=>exact ⟨_,_,h0,rfl⟩
      obtain ⟨hn,hs0⟩:=hf nx (Nat.le_refl _) (by simp)
      cases ym with
      |some v=>exact hm.elim
      |none=>
       have hb:=ZV (P:=P) (w:=w) (isS:=false) (Zk h1 hl) (Zk h2 hh) e0 e1 e2 (Nat.le_refl _)
       obtain ⟨c',Φ',hst⟩:=Z4K (v:=Rf.sc (.sl nx l.toNat (rr.toNat - l.toNat))) (p:= .slice (some (if len=l.toNat then at_ b (o+off) else (at_ b (o+off)).add (l.toNat*m))) (rr.toNat - l.toNat) (len - l.toNat)) (rd:= [s]) hU hx hg he' (Nat.le_of_ble_eq_true hc) hn hs0 hL
        (λc' hle hL'=>by
         refine R.sl (b:=b) (o:=o+off+l.toNat*m) (by omega) (λhpos=>⟨hL' _ (by omega),?_⟩) (λj hj=>⟨_,hL' _ (by omega)⟩)
         rw [if_neg (by omega),Zq])
       refine ⟨_,w,c',Φ',?_,hst⟩
       simp [Instr.sliceAt,run_underlying hu,Instr.sureAddr,hb,Za hs]
    ·cases hr
  ·cases hr
 ·cases hr
end Go.Rf
namespace Go.Rf
set_option linter.unusedVariables false
set_option linter.unusedSimpArgs false
variable {U : QV} {P : Program} {c : Cx} {Φ : Nat -> Nat -> Nat -> Prop} {h : Qr U} {nx : Nat} {w : World}
theorem Z3I (z:Array Value) (n:Nat) (hz:0 < z.size):(madeCells z (n*z.size)).toList=(List.replicate n z.toList).flatten:=Z6H z n hz
theorem Z6p {α:Type} (l:List α) (n i k:Nat) (hi:i < n) (hk:k < l.length):(List.replicate n l).flatten[i*l.length+k]? =l[k]? :=by
 induction n generalizing i with
 |zero=>omega
 |succ n ih=>
  rw [List.replicate_succ,List.flatten_cons]
  cases i with
  |zero=>rw [Nat.zero_mul,Nat.zero_add,List.getElem?_append_left hk]
  |succ i=>
   rw [List.getElem?_append_right (by rw [Nat.succ_mul];omega),show (i+1)*l.length+k - l.length=i*l.length+k by rw [Nat.succ_mul];omega]
   exact ih i (by omega)
theorem Z89 (hU:U.Ok) {t:TypeId} {lo co:Operand} {x y:A U} {p q:Value} {ev:Operand->Value} {out:Out U} (ho:(Z5P P t (Z19 lo co) x y).outs=some out) (hg:G U c Φ h w)
  (hx:RA U c x p) (hy:RA U c y q) (hp:p=ev lo) (hq:q=ev co):
  ∃u w' c' Φ',(Instr.makeSlice t p q).run P w= .ok u w'/\QB U c Φ h nx out w c' Φ' u w':=by
 unfold Z5P at ho
 split at ho
 ·rename_i e k1 n k2 m hu
  split at ho
  ·rename_i u i z hue hi hz
   cases hb:Z19 lo co && Nat.beq i.size (U.size u) && Nat.ble 1 i.size && i.zero.any (λv=>Nat.beq v.cells.size i.size) with
   |false=>rw [hb] at ho;exact (Z1 ho).elim
   |true=>
    rw [hb] at ho
    simp only [cond_true] at ho
    simp only [Bool.and_eq_true] at hb
    obtain ⟨⟨⟨e0,e1⟩,e2⟩,e3⟩:=hb
    split at ho
    ·rename_i d hd
     obtain ⟨hr,rfl⟩:=Zb ho
     have e1:=QH e1
     have e2:=Nat.le_of_ble_eq_true e2
     have hpq:p=q:=by
      rw [hp,hq]
      unfold Z19 at e0
      split at e0
      ·rw [QH e0]
      ·cases e0
     have hp':=R.int (show R U c _ p from hx)
     have hq':=R.int (show R U c _ q from hy)
     rw [hp',hq'] at hpq
     simp only [Value.int.injEq] at hpq
     obtain ⟨rfl,rfl⟩:=hpq
     subst hp';subst hq'
     have h0:0<=n/\n<=9223372036854775807/\room n.toNat i.bytes=true:=by
      cases h1:ile 0 n with
      |false=>rw [h1] at hr;cases hr
      |true=>
       rw [h1] at hr
       simp only [cond_true] at hr
       cases h2:ile n 9223372036854775807 with
       |false=>rw [h2] at hr;cases hr
       |true=>
        rw [h2] at hr
        exact ⟨by simpa [ile] using h1,by simpa [ile] using h2,hr⟩
     obtain ⟨h0,h63,hroom⟩:=h0
     have hroom:=Nat.le_of_ble_eq_true hroom
     obtain ⟨zv,hzr,hzl⟩:=ZZ (c:=c) hz
     obtain ⟨iz,hiz⟩:∃v,i.zero=some v:=by
      cases hiz:i.zero with
      |none=>rw [hiz] at e3;cases e3
      |some v=>exact ⟨v,rfl⟩
     have hzv:zv=iz:=by
      have:=Z18 (P:=P) hi hiz w
      rw [hzr w] at this
      cases this;rfl
     subst hzv
     rw [hiz] at e3
     have e3:zv.cells.size=i.size:=QH e3
     obtain ⟨N,rfl⟩:∃N:Nat,n=(N:Int):=⟨n.toNat,by omega⟩
     simp only [Int.toNat_natCast] at hroom ⊢
     have hb':(i.bytes:Int)*(N:Int)<=281474976710656:=by
      have h:((i.bytes*N:Nat):Int)<=281474976710656:=by rw [Nat.mul_comm] at hroom;omega
      rwa [Int.natCast_mul] at h
     have hrun:=run_make (P:=P) w t e i zv hu hi hiz k1 k1 N N (by omega) (Int.le_refl _) hb' h63
     simp only [Int.toNat_natCast] at hrun
     let r:=madeCells zv.cells (N*i.size)
     have hrl:r.toList=(List.replicate N zv.cells.toList).flatten:=by
      show (madeCells zv.cells (N*i.size)).toList=_
      rw [←e3];exact Z3I _ _ (by omega)
     have hsz:r.size=N*i.size:=size_madeCells _ _
     let g:Nat->Value:=λo=>r.toList.getD o undef
     have hcell:∀o,o < N*i.size->(w.alloc (.cells r e)).cell? (at_ w.heap.size o)=some (g o):=λo ho=>by
      have hlt:o < r.toList.length:=by simp [hsz];exact ho
      rw [World.cell?_alloc_new]
      simp only [g,List.getD,List.getElem?_eq_getElem hlt,Option.getD_some]
      simp
     have hle:c.Le (c.Q3Z w.heap.size (N*i.size) g):=Cx.Q7o λo=>by
      cases hI:c.I w.heap.size o with
      |none=>rfl
      |some v=>exact absurd (hg.Q78 hI) (Nat.lt_irrefl _)
     refine ⟨_,_,c.Q3Z w.heap.size (N*i.size) g,Φ,hrun,QB.imm hU hg (Fr.alloc _ _ _) hcell ?_⟩
     have hds:=hU.Q4M u z d hd c _ hzl
     have hzlen:zv.cells.toList.length=U.size u:=by rw [←e1,←e3];simp
     have hmain:R U (c.Q3Z w.heap.size (N*i.size) g) (.isl .full u (List.replicate N d)) (.slice (some (at_ w.heap.size 0)) (List.replicate N d).length N):=by
      refine R.isl (b:=w.heap.size) (o:=0) (λi k=>g (i*U.size u+k)) (by simp) (by simp [Q5q]) (λ_=>rfl) (λj k hj hk=>?_) (λj k hj hk=>?_)
      ·simp only [List.length_replicate] at hj
       have hb:j*U.size u+k < N*i.size:=by
        rw [e1]
        calc j*U.size u+k < j*U.size u+U.size u:=by omega
         _=(j+1)*U.size u:=by rw [Nat.succ_mul]
         _<=N*U.size u:=Nat.mul_le_mul_right _ (by omega)
       simp only [Cx.Q3Z,Nat.zero_add,true_and]
       rw [if_pos hb]
      ·simp only [List.length_replicate] at hj
       have hlt:k < (U.enc u d).length:=by rw [hU.QD];exact hk
       obtain ⟨v,hv,hr⟩:=hds.at_ k _ (List.getElem?_eq_getElem hlt)
       have hgv:g (j*U.size u+k)=v:=by
        simp only [g]
        refine getD_of_getElem? ?_
        rw [hrl,←hzlen]
        rw [Z6p _ _ _ _ hj (by rw [hzlen];exact hk)]
        exact hv
       have hrep:(List.replicate N d).getD j (U.dft u)=d:=by simp [List.getD,hj]
       rw [hrep,hgv,getD_of_getElem? (List.getElem?_eq_getElem hlt)]
       exact hr.mono hle
     rw [List.length_replicate] at hmain
     exact hmain
    ·exact (Z1 ho).elim
  ·exact (Z1 ho).elim
 ·exact (Z1 ho).elim
end Go.Rf
namespace Go.Rf
set_option linter.unusedVariables false
set_option linter.unusedSimpArgs false
variable {U : QV} {P : Program} {c : Cx} {Φ : Nat -> Nat -> Nat -> Prop} {h : Qr U} {nx : Nat} {w : World}
theorem Z8u (hU:U.Ok) {t:TypeId} {lo co:Operand} {x y:A U} {p q:Value} {ev:Operand->Value} {ro:OpR U} {out:Out U} (hro:Z3e P t (Z19 lo co) x y nx=some ro) (ho:ro.outs=some out) (hg:G U c Φ h w) (hs:∀i,c.L nx i=none) (hn:get h nx=none)
  (hx:RA U c x p) (hy:RA U c y q) (hp:p=ev lo) (hq:q=ev co):
  ∃u w' c' Φ',(Instr.makeSlice t p q).run P w= .ok u w'/\QB U c Φ h nx out w c' Φ' u w':=by
 unfold Z3e at hro
 split at hro
 ·rename_i e k1 n k2 m hu
  split at hro
  ·rename_i u i z hue hi hz
   cases hb:Z19 lo co && Nat.beq i.size (U.size u) && Nat.ble 1 i.size && i.zero.any (λv=>Nat.beq v.cells.size i.size) && U.plain u with
   |false=>rw [hb] at hro;cases hro
   |true=>
    rw [hb] at hro
    simp only [cond_true] at hro
    simp only [Bool.and_eq_true] at hb
    obtain ⟨⟨⟨⟨e0,e1⟩,e2⟩,e3⟩,e5⟩:=hb
    split at hro
    ·rename_i d hd
     cases hro
     obtain ⟨hr,rfl⟩:=Zb ho
     have e1:=QH e1
     have e2:=Nat.le_of_ble_eq_true e2
     have hpq:p=q:=by
      rw [hp,hq]
      unfold Z19 at e0
      split at e0
      ·rw [QH e0]
      ·cases e0
     have hp':=R.int (show R U c _ p from hx)
     have hq':=R.int (show R U c _ q from hy)
     rw [hp',hq'] at hpq
     simp only [Value.int.injEq] at hpq
     obtain ⟨rfl,rfl⟩:=hpq
     subst hp';subst hq'
     have h0:0<=n/\n<=9223372036854775807/\room n.toNat i.bytes=true:=by
      cases h1:ile 0 n with
      |false=>rw [h1] at hr;cases hr
      |true=>
       rw [h1] at hr
       simp only [cond_true] at hr
       cases h2:ile n 9223372036854775807 with
       |false=>rw [h2] at hr;cases hr
       |true=>
        rw [h2] at hr
        exact ⟨by simpa [ile] using h1,by simpa [ile] using h2,hr⟩
     obtain ⟨h0,h63,hroom⟩:=h0
     have hroom:=Nat.le_of_ble_eq_true hroom
     obtain ⟨zv,hzr,hzl⟩:=ZZ (c:=c) hz
     obtain ⟨iz,hiz⟩:∃v,i.zero=some v:=by
      cases hiz:i.zero with
      |none=>rw [hiz] at e3;cases e3
      |some v=>exact ⟨v,rfl⟩
     have hzv:zv=iz:=by
      have:=Z18 (P:=P) hi hiz w
      rw [hzr w] at this
      cases this;rfl
     subst hzv
     rw [hiz] at e3
     have e3:zv.cells.size=i.size:=QH e3
     obtain ⟨N,rfl⟩:∃N:Nat,n=(N:Int):=⟨n.toNat,by omega⟩
     simp only [Int.toNat_natCast] at hroom ⊢
     have hb':(i.bytes:Int)*(N:Int)<=281474976710656:=by
      have h:((i.bytes*N:Nat):Int)<=281474976710656:=by rw [Nat.mul_comm] at hroom;omega
      rwa [Int.natCast_mul] at h
     have hrun:=run_make (P:=P) w t e i zv hu hi hiz k1 k1 N N (by omega) (Int.le_refl _) hb' h63
     simp only [Int.toNat_natCast] at hrun
     let r:=madeCells zv.cells (N*i.size)
     have hrl:r.toList=(List.replicate N zv.cells.toList).flatten:=by
      show (madeCells zv.cells (N*i.size)).toList=_
      rw [←e3];exact Z3I _ _ (by omega)
     have hsz:r.size=N*i.size:=size_madeCells _ _
     have hcell:∀(o:Nat) v,r.toList[o]? =some v->(w.alloc (.cells r e)).cell? (at_ w.heap.size o)=some v:=λo v hv=>by
      rw [World.cell?_alloc_new]
      rw [Array.getElem?_toList] at hv
      exact hv
     have hds:=hU.Q4M u z d hd c _ hzl
     have hzlen:zv.cells.toList.length=U.size u:=by rw [←e1,←e3];simp
     obtain ⟨c',Φ',hS⟩:=QB.fam (nx:=nx) (rd:= []) (u:=u) (f:=λ_=>d) (n:=N) (vs:=r.toList) (a:=some (at_ w.heap.size 0)) (cap:=N) (N:=w.heap.size) (w':=w.alloc (.cells r e)) hU hg hs hn
      ((Fr.alloc _ _ _).mono λ_ _ _ h=>h) (Nat.le_refl _) e5 (by rw [Array.length_toList,hsz,e1]) hcell (λj hj=>World.frozen?_alloc_at (w:=w) r e w.heap.size j rfl) (λj k hj hk=>by
       have hlt:k < (U.enc u d).length:=by rw [hU.QD];exact hk
       obtain ⟨v,hv,hr⟩:=hds.at_ k _ (List.getElem?_eq_getElem hlt)
       refine ⟨v,?_,?_⟩
       ·rw [hrl,←hzlen]
        rw [Z6p _ _ _ _ hj (by rw [hzlen];exact hk)]
        exact hv
       ·rw [getD_of_getElem? (List.getElem?_eq_getElem hlt)]
        exact hr) (Nat.le_refl _) (λ_=>rfl)
     exact ⟨_,_,c',Φ',hrun,hS⟩
    ·cases hro
  ·cases hro
 ·cases hro
theorem Z9N (hU:U.Ok) {row:Bool} {t:TypeId} {lo co:Operand} {x y:A U} {p q:Value} {ev:Operand->Value} {out:Out U} (ho:(Z6b P row t (Z19 lo co) x y nx).outs=some out) (hg:G U c Φ h w)
  (hx:RA U c x p) (hy:RA U c y q) (hp:p=ev lo) (hq:q=ev co) (hf:1<=out.nw->get h nx=none/\∀i,c.L nx i=none):
  ∃u w' c' Φ',(Instr.makeSlice t p q).run P w= .ok u w'/\QB U c Φ h nx out w c' Φ' u w':=by
 unfold Z6b at ho
 cases row with
 |false=>exact Z89 hU ho hg hx hy hp hq
 |true=>
  simp only [cond_true] at ho
  split at ho
  ·rename_i r hr
   have hnw:out.nw=1:=by
    unfold Z3e at hr
    split at hr
    ·split at hr
     ·cases hb:(Z19 lo co && Nat.beq _ _ && _ && _ && _:Bool) with
      |false=>rw [hb] at hr;cases hr
      |true=>
       rw [hb] at hr
       simp only [cond_true] at hr
       split at hr
       ·cases hr
        obtain ⟨_,rfl⟩:=Zb ho;rfl
       ·cases hr
     ·cases hr
    ·cases hr
   obtain ⟨h1,h2⟩:=hf (by omega)
   exact Z8u hU hr ho hg h2 h1 hx hy hp hq
  ·exact Z89 hU ho hg hx hy hp hq
end Go.Rf
namespace Go.Rf
set_option linter.unusedVariables false
set_option linter.unusedSimpArgs false
variable {U : QV} {P : Program} {c : Cx} {Φ : Nat -> Nat -> Nat -> Prop} {h : Qr U} {nx : Nat} {w : World}
theorem Z9L {t:TypeId} {x:A U} {out:Out U} (ho:(Z3G (U:=U) P t x nx).outs=some out):out.nw=1:=by
 unfold Z3G at ho
 split at ho
 ·have:=Zx ho;subst this;rfl
 ·exact (Z1 ho).elim
theorem Z9f (hU:U.Ok) {t:TypeId} {x:A U} {out:Out U} {p:Value} (ho:(Z3G (U:=U) P t x nx).outs=some out) (hx:RA U c x p) (hg:G U c Φ h w) (hs:∀i,c.L nx i=none) (hn:get h nx=none):
  ∃u w' c' Φ',(Instr.range t p).run P w= .ok u w'/\QB U c Φ h nx out w c' Φ' u w':=by
 unfold Z3G at ho
 split at ho
 ·rename_i s hu
  have:=Zx ho
  subst this
  cases R.Q1z (show R U c _ p from hx)
  let c':=c.Q21 nx λi=>if i=0 then some (w.heap.size,0) else none
  have hc:c.Le c':=Cx.Q4F hs
  let F:Nat->Nat->Prop:=λb o=>b=w.heap.size
  have hlt:∀t b o,(get h t).isSome->Φ t b o->b < w.heap.size:=λt b o ht hf=>hg.lt hU ht hf
  have hx0:c'.L nx 0=some (w.heap.size,0):=by simp [c',Cx.Q21]
  refine ⟨_,_,c',fup Φ nx F,run_range_string w t s hu,?_⟩
  refine { le:=hc,L:=λs i hsi _=>?_,val:= ?_,g:= ?_,fr:=Fr.alloc _ _ _,Q2p:=λs hsn=>?_,Q2g:=λs b o hsn hf=>?_,names:=λs hsn=>?_,Q32:=λ_ _ _ h=>.inl h}
  ·have:s≠nx:=λe=>hsi (by subst e;simp)
   simp [c',Cx.Q21,this]
  ·exact R.ptr (o:=0) hx0
  ·refine hg.put hU hc (λt i ht=>by simp [c',Cx.Q21,ht]) ?_ (λt _ h1=>(Fr.alloc (λ_ _=>False) w _).agr (λb o hf=>hlt t b o h1 hf) (λ_ _ _ h=>h))
    (λt b o _ h1 hf hF=>Nat.lt_irrefl _ (hF▸hlt t b o h1 hf))
    (λb o v hv=>(ZN w _ (Zf (hg.imm b o v hv))).trans (hg.imm b o v hv))
    (λt b o _ h1 hf=>hg.Q15 t b o h1 hf)
    (λb o hF=>?_)
   ·refine ⟨w.heap.size,hx0,λi x hx=>?_,World.iter_heap w s 0,λb' o'=>Iff.rfl⟩
    simp only [c',Cx.Q21,if_true] at hx
    by_cases hi:i=0
    ·exact hi
    ·simp [hi] at hx
   ·cases hI:c.I b o with
    |none=>exact hI
    |some v=>
     have:=Zf (hg.imm b o v hI)
     rw [show b=w.heap.size from hF] at this
     exact absurd this (Nat.lt_irrefl _)
  ·simp at hsn;simp [fup,hsn]
  ·simp at hsn;subst hsn
   simp [fup] at hf
   exact .inl (by rw [show b=w.heap.size from hf];exact Nat.le_refl _)
  ·simp at hsn;subst hsn;exact .inl (by simp)
 ·exact (Z1 ho).elim
theorem Fr.iterAt {F:Nat->Nat->Prop} {k pos pos':Nat} {s:ByteArray} (hk:w.heap[k]? =some (.stringIter s pos)) (hF:∀o,F k o):Fr F w (w.iterAt k s pos') where
 size:=by simp [World.iterAt]
 cell b x hb hn:=by
  have hne:b≠k:=λe=>hn (by rw [e];exact hF x)
  unfold World.cell?
  rw [Lib.iterAt_other w k b s pos' hne]
 frozen b x hb:=by
  unfold World.frozen?
  by_cases e:b=k
  ·subst e
   simp only [at_]
   rw [Lib.iterAt_heap w b s pos pos' hk,hk]
  ·simp only [at_]
   rw [Lib.iterAt_other w k b s pos' e]
 shape b hb:=by
  unfold World.shape?
  by_cases e:b=k
  ·subst e
   rw [Lib.iterAt_heap w b s pos pos' hk,hk]
  ·rw [Lib.iterAt_other w k b s pos' e]
 obj b hb hn:=by
  have hne:b≠k:=λe=>hn 0 (by rw [e];exact hF 0)
  exact Lib.iterAt_other w k b s pos' hne
 rest:=⟨rfl,rfl,rfl⟩
theorem QaB (hU:U.Ok) {h':Qr U} {str:Bool} {ty:TypeId} {x:A U} {out:Out U} {p:Value} (ho:(Z7u str x h').outs=some out) (hag:∀s,s∈out.rd\/s∈out.w.map (·.1)->get h s=get h' s) (hx:RA U c x p) (hg:G U c Φ h w):
  ∃u w' c' Φ',(Instr.next p str ty).run P w= .ok u w'/\QB U c Φ h nx out w c' Φ' u w':=by
 unfold Z7u at ho
 split at ho
 ·rename_i s
  split at ho
  ·rename_i t pos hk
   obtain ⟨b,o,hL,hp⟩:∃b o,c.L s 0=some (b,o)/\p= .pointer (some (at_ b (o+0))):=by
    cases (show R U c _ p from hx) with|ptr h0=>exact ⟨_,_,h0,rfl⟩
   subst hp
   have hks:get h s=some (.iter t pos):=by
    rw [hag s (.inl ?_)];exact hk
    simp only [OpR.outs] at ho
    cases hb:Nat.blt pos t.size <;> rw [hb] at ho <;> cases ho <;> simp
   have hE:=hg.Q1M s _ hks
   obtain ⟨b',h0,h1,h2,h3⟩:=hE
   rw [hL] at h0;cases h0
   have hpos:(Nat.blt pos t.size)=true↔pos < t.size:=⟨Nat.le_of_ble_eq_true,Nat.ble_eq_true_of_le⟩
   have hsome:(get h s).isSome:=by rw [hks];rfl
   simp only [OpR.outs] at ho
   cases hb:Nat.blt pos t.size with
   |true=>
    rw [hb] at ho
    cases ho
    have hlt:=hpos.1 hb
    have hfr:Fr (λb o=>Φ s b o) w (w.iterAt b t (pos+(Utf8.decode t pos).2)):=Fr.iterAt h2 λo=>(h3 _ _).2 rfl
    refine ⟨_,_,c,fup Φ s (Φ s),Lib.run_next_any_at w b t pos ty h2 hlt,{ le:= .refl c,L:=λ_ _ _ _=>rfl,val:= ?_,g:= ?_,fr:=hfr.mono λb' o' _ hn=>⟨s,by simp,hsome,hn⟩,Q2p:=λt ht=>?_,Q2g:=λt b' o' ht hf=>?_,names:=λt ht=>?_,Q32:=λ_ _ _ h=>.inl h}⟩
    ·refine ⟨_,rfl,rfl,λk x hk=>?_⟩
     match k,hk with
     |0,hk=>cases hk;exact ⟨_,rfl,R.val rfl⟩
     |1,hk=>cases hk;exact ⟨_,rfl,R.val rfl⟩
     |2,hk=>cases hk;exact ⟨_,rfl,R.val rfl⟩
     |k+3,hk=>simp at hk
    ·have hE':Q1s c (w.iterAt b t (pos+(Utf8.decode t pos).2)) s (Φ s) (.iter t (pos+(Utf8.decode t pos).2):Ent U):=⟨b,hL,h1,Lib.iterAt_heap w b t pos _ h2,h3⟩
     refine hg.put hU (.refl c) (λ_ _ _=>rfl) hE' (λt hts h1=>hfr.agr (λb' o' hf=>hg.lt hU h1 hf) λb' o' hf hn=>hg.apart t s b' o' hts h1 hsome hf hn)
      (λt b' o' hts h1 hf hF=>hg.apart t s b' o' hts h1 hsome hf hF) (λb' o' u hu=>?_) (λt b' o' _ h1 hf=>hg.Q15 t b' o' h1 hf) (λb' o' hf=>hg.Q15 s b' o' hsome hf)
     refine (hfr.cell b' o' (Zf (hg.imm b' o' u hu)) λhn=>?_).trans (hg.imm b' o' u hu)
     have:=hg.Q15 s b' o' hsome hn
     rw [hu] at this;cases this
    ·simp at ht;simp [fup,ht]
    ·simp at ht;subst ht
     simp [fup] at hf
     exact .inr ⟨t,by simp,hsome,hf⟩
    ·simp at ht;subst ht;exact .inr hsome
   |false=>
    rw [hb] at ho
    cases ho
    have hlt:¬pos < t.size:=λh=>by rw [hpos.2 h] at hb;cases hb
    have hv:RA U c (.t [⟨false,[.val (.bool false)]⟩]:A U) (.tuple #[.bool false]):=by
     refine ⟨_,rfl,rfl,λk x hk=>?_⟩
     match k,hk with
     |0,hk=>cases hk;exact ⟨_,rfl,R.val rfl⟩
     |k+1,hk=>simp at hk
    exact ⟨_,_,c,Φ,Lib.run_next_end_at w b t pos ty h2 hlt,QB.pure hg hv⟩
  ·exact (Z1 ho).elim
 ·exact (Z1 ho).elim
end Go.Rf
namespace Go.Rf
set_option linter.unusedVariables false
set_option linter.unusedSimpArgs false
variable {U : QV} {P : Program} {c : Cx} {Φ : Nat -> Nat -> Nat -> Prop} {h : Qr U} {nx : Nat} {w : World}
def Z2T:Value->Bool
 | .int _ _=>true
 | .bool _=>true
 | .string _=>true
 |_=>false
theorem Z67 {t:TypeId} {v:Value} {e:Bool} {n:Nat} (hb:(match P.underlying t with|some (.int _)=>true|some .bool=>true|some .string=>true|_=>false)=true):(Instr.checkKey e (n+1) t v).run P w= .ok () w:=by
 unfold Instr.checkKey
 cases hu:P.underlying t with
 |none=>rw [hu] at hb;cases hb
 |some d=>
  simp only [Sem.run_bind,run_underlying hu,Result.andThen]
  rw [hu] at hb
  cases d <;> first|(cases hb;done)|rfl
theorem Z5o:∀(fs:List Field) (o:Nat),Z31 P fs o=true->∀(i:Nat) f,fs[i]? =some f->f.offset=o+i/\(f.name== "_")=false/\(match P.underlying f.type with|some (.int _)=>true|some .bool=>true|some .string=>true|_=>false)=true
 | [],o,h,i,f,hi=>by simp at hi
 |f0::r,o,h,i,f,hi=>by
  unfold Z31 at h
  simp only [Bool.and_eq_true] at h
  obtain ⟨⟨⟨h1,h2⟩,h3⟩,h4⟩:=h
  cases i with
  |zero=>simp at hi;subst hi;exact ⟨QH h1,by simpa using h2,h3⟩
  |succ i=>
   obtain ⟨h5,h6⟩:=Z5o r (o+1) h4 i f (by simpa using hi)
   exact ⟨by omega,h6⟩
theorem Z6v {t:TypeId} (hb:(match P.underlying t with|some (.int _)=>true|some .bool=>true|some .string=>true|_=>false)=true):agg? P t=some false:=by
 unfold agg?
 cases hu:P.underlying t with
 |none=>rw [hu] at hb;cases hb
 |some d=>rw [hu] at hb;cases d <;> first|rfl|cases hb
theorem Z56 {cs:Array Value} {e:Bool} {n:Nat}:∀(fs:List Field),(∀f∈fs,(match P.underlying f.type with|some (.int _)=>true|some .bool=>true|some .string=>true|_=>false)=true/\f.offset < cs.size)->
  (forIn fs PUnit.unit λ(f:Field) (_:PUnit)=>(do
   if f.name≠ "_" then Instr.checkKey e (n+1) f.type (←part f.type cs f.offset)
   pure (ForInStep.yield PUnit.unit):Sem (ForInStep PUnit))).run P w= .ok PUnit.unit w
 | [],_=>rfl
 |f::r,h=>by
  obtain ⟨h1,h2⟩:=h f (List.mem_cons_self ..)
  have hp:(part f.type cs f.offset).run P w= .ok (cs.getD f.offset undef) w:=by
   have:=Z1h (Z6v h1) (w:=w)
   simp [part,this,h2]
  rw [List.forIn_cons]
  have ih:=Z56 (e:=e) (n:=n) r λf hf=>h f (List.mem_cons_of_mem _ hf)
  by_cases hn:f.name≠ "_"
  ·simp only [Sem.run_bind,if_pos hn,hp,Result.andThen_ok,Z67 h1,Sem.run_pure]
   exact ih
  ·simp only [Sem.run_bind,if_neg hn,Sem.run_pure,Result.andThen_ok]
   exact ih
theorem Z2P {kt n:Nat} (h:Z1J P kt n=true):∃fs,P.underlying kt=some (.struct fs)/\fs.size=n/\Z31 P fs.toList 0=true:=by
 unfold Z1J at h
 split at h
 ·rename_i fs hu
  rw [Bool.and_eq_true] at h
  exact ⟨fs,hu,QH h.2,h.1⟩
 ·cases h
theorem Z2y {kt n:Nat} {cs:Array Value} {e:Bool} (h:Z1J P kt n=true) (hn:cs.size=n):(Instr.checkKey e 10000 kt (.agg cs)).run P w= .ok () w:=by
 obtain ⟨fs,hu,hs,hf⟩:=Z2P h
 show (Instr.checkKey e (9998+1+1) kt (.agg cs)).run P w= .ok () w
 unfold Instr.checkKey
 simp only [Sem.run_bind,run_underlying hu,Result.andThen]
 have h1:=Z56 (P:=P) (w:=w) (cs:=cs) (e:=e) (n:=9998) fs.toList λf hf'=>by
  obtain ⟨i,hi⟩:=List.getElem?_of_mem hf'
  obtain ⟨q1,_,q3⟩:=Z5o _ _ hf i f hi
  refine ⟨q3,?_⟩
  have:i < fs.toList.length:=(List.getElem?_eq_some_iff.1 hi).1
  simp at this
  omega
 rw [←Array.forIn_toList]
 rw [h1]
 rfl
def Z2u (P:Program) (kt:TypeId) {ku vu:U.C} (k:U.D ku):List (U.D ku×U.D vu)->Option (Option Nat)
 | []=>some none
 |(a,v)::r=>match eqS P 20 kt (U.enc ku k) (U.enc ku a) with
  |some b=>bif b then some (some 0) else (match Z2u P kt k r with
   |some (some i)=>some (some (i+1))
   |some none=>some none
   |none=>none)
  |none=>none
theorem Z5v {kt:TypeId} {ku vu:U.C} {k:U.D ku}:∀(l:List (U.D ku×U.D vu)) (r:Option (U.D vu)),Z3n P kt k l=some r->∃q,Z2u P kt k l=some q/\r=q.bind λj=>(l[j]?).map (·.2)
 | [],r,h=>by cases h;exact ⟨none,rfl,rfl⟩
 |(a,v)::l,r,h=>by
  unfold Z3n at h
  unfold Z2u
  split at h
  ·rename_i b hb
   rw [hb]
   cases b with
   |true=>cases h;exact ⟨some 0,rfl,rfl⟩
   |false=>
    obtain ⟨q,h1,h2⟩:=Z5v l r h
    simp only [cond_false]
    rw [h1]
    cases q with
    |none=>exact ⟨none,rfl,h2⟩
    |some i=>exact ⟨some (i+1),rfl,by rw [h2];simp⟩
  ·cases h
theorem Z62 {kt:TypeId} {ku vu:U.C} {k:U.D ku} {v:U.D vu}:∀(l r:List (U.D ku×U.D vu)),Z3x P kt k v l=some r->∃q,Z2u P kt k l=some q/\r=match q with|some j=>l.set j (k,v)|none=>l++ [(k,v)]
 | [],r,h=>by cases h;exact ⟨none,rfl,rfl⟩
 |(a,x)::l,r,h=>by
  unfold Z3x at h
  unfold Z2u
  split at h
  ·rename_i b hb
   rw [hb]
   cases b with
   |true=>cases h;exact ⟨some 0,rfl,rfl⟩
   |false=>
    simp only [cond_false] at h ⊢
    split at h
    ·rename_i l' hl
     cases h
     obtain ⟨q,h1,h2⟩:=Z62 l l' hl
     rw [h1]
     cases q with
     |none=>exact ⟨none,rfl,by rw [h2];rfl⟩
     |some i=>exact ⟨some (i+1),rfl,by rw [h2];rfl⟩
    ·cases h
  ·cases h
theorem Z3z {kt:TypeId} {ku vu:U.C} {gv:Bool} {k:U.D ku} {kv:Value} (ha:agg? P kt=some true) (hk:RV U c ⟨true,U.enc ku k⟩ kv):∀(l:List (U.D ku×U.D vu)) (es:List MapEntry) (q:Option Nat) (i:Nat),Z2u P kt k l=some q->Q4w U c true gv l es->
  (Instr.findAsking kt kv es i).run P w= .ok (q.bind λj=>(es[j]?).map λe=>(i+j,e.val)) w/\∀j,q=some j->∃e p,es[j]? =some e/\l[j]? =some p/\eqS P 20 kt (U.enc ku k) (U.enc ku p.1)=some true
 | [],es,q,i,hq,hm=>by
  have:es= []:=List.eq_nil_of_length_eq_zero (by simpa using hm.1)
  subst this
  cases hq
  exact ⟨rfl,λj hj=>by cases hj⟩
 |(a,v)::l,es,q,i,hq,hm=>by
  cases es with
  |nil=>have:=hm.1;simp at this
  |cons e es=>
   have hm':Q4w U c true gv l es:=⟨by have:=hm.1;simpa using this,λj p hj=>by simpa using hm.2 (j+1) p (by simpa using hj)⟩
   obtain ⟨e',h1,h2,_⟩:=hm.2 0 (a,v) rfl
   simp at h1;subst h1
   unfold Z2u at hq
   split at hq
   ·rename_i b hb
    obtain ⟨cs,rfl,hl⟩:=hk
    obtain ⟨ds,hd,hr⟩:=h2
    have heq:(Op.equal kt (.agg cs) e.key).run P w= .ok b w:=by
     rw [hd]
     have:=Z7e (P:=P) (w:=w) 20 kt _ _ b hb _ _ true ha hl hr 10000 (by decide)
     exact this
    cases b with
    |true=>
     cases hq
     refine ⟨?_,λj hj=>by cases hj;exact ⟨e,(a,v),rfl,rfl,hb⟩⟩
     unfold Instr.findAsking
     simp only [Sem.run_bind,heq,Result.andThen_ok]
     rfl
    |false=>
     simp only [cond_false] at hq
     split at hq
     ·rename_i i0 hi0
      cases hq
      obtain ⟨h3,h4⟩:=Z3z ha ⟨cs,rfl,hl⟩ l es (some i0) (i+1) hi0 hm'
      refine ⟨?_,λj hj=>?_⟩
      ·unfold Instr.findAsking
       simp only [Sem.run_bind,heq,Result.andThen_ok]
       rw [show (if false=true then (pure (some (i,e.val)):Sem _) else Instr.findAsking kt (.agg cs) es (i+1))=Instr.findAsking kt (.agg cs) es (i+1) from rfl,h3]
       simp [Nat.add_assoc,Nat.add_comm 1]
      ·cases hj
       obtain ⟨e2,p,h5,h6,h7⟩:=h4 i0 rfl
       exact ⟨e2,p,by simpa using h5,by simpa using h6,h7⟩
     ·rename_i hi0
      cases hq
      obtain ⟨h3,_⟩:=Z3z ha ⟨cs,rfl,hl⟩ l es none (i+1) hi0 hm'
      refine ⟨?_,λj hj=>by cases hj⟩
      unfold Instr.findAsking
      simp only [Sem.run_bind,heq,Result.andThen_ok]
      exact h3
     ·cases hq
   ·cases hq
theorem Z5B {kt:TypeId} {ku vu:U.C} {gv:Bool} {k:U.D ku} {kv:Value} {n:Nat} (hfk:Z1J P kt n=true) (ha:agg? P kt=some true) (hk:RV U c ⟨true,U.enc ku k⟩ kv) {l:List (U.D ku×U.D vu)} {es:List MapEntry} {q:Option Nat} (hq:Z2u P kt k l=some q) (hm:Q4w U c true gv l es):
  (Instr.findKey kt kv es).run P w= .ok (q.bind λj=>(es[j]?).map λe=>(j,e.val)) w:=by
 obtain ⟨fs,hu,_,_⟩:=Z2P hfk
 unfold Instr.findKey
 simp only [Sem.run_bind,run_underlying hu,Result.andThen_ok]
 have h1:=(Z3z (P:=P) (w:=w) ha hk l es q 0 hq hm).1
 cases es with
 |nil=>
  have:l= []:=List.eq_nil_of_length_eq_zero (by have:=hm.1;simpa using this.symm)
  subst this
  cases hq
  rfl
 |cons e es=>
  have h2:Instr.findNow (.struct fs) kv (e::es) 0=none:=by
   unfold Instr.findNow
   have:Instr.sameNow (.struct fs) kv e.key=none:=by
    unfold Instr.sameNow
    rfl
   rw [this]
  rw [h2]
  simpa using h1
theorem Z6y {α:Type} {off:Nat} {l:List α} {x:α} (h:QM off 1 l= [x]):l[off]? =some x:=by
 have h0:(QM off 1 l)[0]? =some x:=by rw [h];rfl
 simpa using (ZW h0).2
theorem Z9t {a b:ByteArray} (h:Q8b a b=true):a=b:=by
 unfold Q8b at h
 have h1:a.data.toList=b.data.toList:=eq_of_beq h
 have h2:a.data=b.data:=Array.toList_inj.1 h1
 cases a;cases b;simp at h2;rw [h2]
theorem Z8S {d:Nat} {t:TypeId} {xs ys:List U.S} (hb:(match P.underlying t with|some (.int _)=>true|some .bool=>true|some .string=>true|_=>false)=true) (h:eqS P d t xs ys=some true):∃v,xs= [.val v]/\ys= [.val v]/\Z2T v=true:=by
 cases d with
 |zero=>cases h
 |succ d=>
  unfold eqS at h
  cases hu:P.underlying t with
  |none=>rw [hu] at hb;cases hb
  |some desc=>
   rw [hu] at hb h
   cases desc <;> try (cases hb;done)
   case int k0=>
    simp only at h
    split at h
    ·rename_i j a k b
     cases hjk:decide (j=k) with
     |false=>rw [hjk] at h;cases h
     |true=>
      rw [hjk] at h
      have e1:=of_decide_eq_true hjk
      subst e1
      simp only [cond_true,Option.some.injEq,ieq,beq_iff_eq] at h
      subst h
      exact ⟨_,rfl,rfl,rfl⟩
    ·cases h
   case bool=>
    simp only at h
    split at h
    ·rename_i a b
     simp only [Option.some.injEq,beq_iff_eq] at h
     subst h
     exact ⟨_,rfl,rfl,rfl⟩
    ·cases h
   case string=>
    simp only at h
    split at h
    ·rename_i a b
     simp only [Option.some.injEq] at h
     have:=Z9t h
     subst this
     exact ⟨_,rfl,rfl,rfl⟩
    ·cases h
theorem Z6Y {d:Nat} {xs ys:List U.S}:∀(fs:List Field) (o:Nat),Z31 P fs o=true->eqF P (eqS P d) fs xs ys=some true->∀(i:Nat),i < fs.length->∃v,xs[o+i]? =some (.val v)/\ys[o+i]? =some (.val v)/\Z2T v=true
 | [],o,hf,h,i,hi=>by simp at hi
 |f::r,o,hf,h,i,hi=>by
  obtain ⟨q1,q2,q3⟩:=Z5o _ _ hf 0 f rfl
  have hfr:Z31 P r (o+1)=true:=by
   unfold Z31 at hf
   simp only [Bool.and_eq_true] at hf
   exact hf.2
  simp only [eqF,q2,cond_false] at h
  rw [Z6v q3] at h
  split at h
  ·rename_i g i' hg hi'
   cases hg
   simp only [cond_false] at h
   split at h
   ·rename_i a b ha hb
    cases a with
    |false=>simp at h
    |true=>
     simp only [cond_true,Option.some.injEq] at h
     subst h
     cases i with
     |zero=>
      obtain ⟨v,h1,h2,h3⟩:=Z8S q3 ha
      rw [q1] at h1 h2
      exact ⟨v,Z6y h1,Z6y h2,h3⟩
     |succ i=>
      obtain ⟨v,h1,h2,h3⟩:=Z6Y r (o+1) hfr hb i (by simpa using hi)
      exact ⟨v,by rw [show o+(i+1)=o+1+i by omega];exact h1,by rw [show o+(i+1)=o+1+i by omega];exact h2,h3⟩
   ·cases h
  ·cases h
theorem Z9h {kt n:Nat} {xs ys:List U.S} {vs us:List Value} (hf:Z1J P kt n=true) (he:eqS P 20 kt xs ys=some true) (hx:xs.length=n) (hy:ys.length=n) (h1:RL U c xs vs) (h2:RL U c ys us):vs=us/\∀v∈vs,Z2T v=true:=by
 obtain ⟨fs,hu,hs,hff⟩:=Z2P hf
 have hF:eqF P (eqS P 19) fs.toList xs ys=some true:=by
  have he:eqS P (19+1) kt xs ys=some true:=he
  unfold eqS at he
  rw [hu] at he
  simp only at he
  cases hst:P.stoodInHeld kt with
  |true=>rw [hst] at he;cases he
  |false=>rw [hst] at he;exact he
 have hat:∀i,i < n->∃v,xs[i]? =some (.val v)/\ys[i]? =some (.val v)/\Z2T v=true:=λi hi=>by
  have:=Z6Y fs.toList 0 hff hF i (by simp;omega)
  simpa using this
 have hval:∀i,i < n->∃v,vs[i]? =some v/\us[i]? =some v/\Z2T v=true:=λi hi=>by
  obtain ⟨v,q1,q2,q3⟩:=hat i hi
  obtain ⟨a,r1,r2⟩:=h1.at_ i _ q1
  obtain ⟨b,r3,r4⟩:=h2.at_ i _ q2
  have:=R.Q1z r2
  subst this
  have:=R.Q1z r4
  subst this
  exact ⟨_,r1,r3,q3⟩
 refine ⟨List.ext_getElem? λi=>?_,λv hv=>?_⟩
 ·by_cases hi:i < n
  ·obtain ⟨v,q1,q2,_⟩:=hval i hi
   rw [q1,q2]
  ·rw [List.getElem?_eq_none (by rw [h1.len];omega),List.getElem?_eq_none (by rw [h2.len];omega)]
 ·obtain ⟨i,hi⟩:=List.getElem?_of_mem hv
  have hlt:=(List.getElem?_eq_some_iff.1 hi).1
  obtain ⟨v',q1,_,q3⟩:=hval i (by rw [h1.len] at hlt;omega)
  rw [hi] at q1;cases q1
  exact q3
theorem Z6c {v:Value} (h:Z2T v=true) (n:Nat):Instr.sameBits n v v=true:=by
 cases v <;> first|(cases h;done)|simp [Instr.sameBits,MapKept.bytes_beq]
theorem Z6R {vs:List Value} (h:∀v∈vs,Z2T v=true):Instr.sameBits 10000 (.agg vs.toArray) (.agg vs.toArray)=true:=by
 rw [Instr.sameBits]
 rw [Bool.and_eq_true,List.all_eq_true]
 refine ⟨beq_self_eq_true _,λp hp=>?_⟩
 obtain ⟨a,b⟩:=p
 obtain ⟨i,hi⟩:=List.getElem?_of_mem hp
 rw [List.getElem?_zip_eq_some] at hi
 obtain ⟨h1,h2⟩:=hi
 simp only [List.toList_toArray] at h1 h2
 rw [h1] at h2
 have e:a=b:=Option.some.inj h2
 subst e
 exact Z6c (h _ (List.mem_of_getElem? h1)) 9999
theorem Fr.QaW {F:Nat->Nat->Prop} {r:Nat} {es es':Array MapEntry} {k k':Nat} (hk:w.heap[r]? =some (.map es k)) (hF:∀o,F r o):Fr F w { w with heap:=w.heap.setIfInBounds r (.map es' k')} where
 size:=by simp
 cell b x hb hn:=by
  have hne:b≠r:=λe=>hn (by rw [e];exact hF x)
  unfold World.cell?
  simp only [at_]
  rw [(MapKept.heap_set hk).2 b hne]
 frozen b x hb:=by
  unfold World.frozen?
  simp only [at_]
  by_cases e:b=r
  ·subst e
   rw [(MapKept.heap_set hk).1,hk]
  ·rw [(MapKept.heap_set hk).2 b e]
 shape b hb:=by
  unfold World.shape?
  by_cases e:b=r
  ·subst e
   rw [(MapKept.heap_set hk).1,hk]
  ·rw [(MapKept.heap_set hk).2 b e]
 obj b hb hn:=by
  have hne:b≠r:=λe=>hn 0 (by rw [e];exact hF 0)
  exact (MapKept.heap_set hk).2 b hne
 rest:=⟨rfl,rfl,rfl⟩
theorem Z8z (hU:U.Ok) {t:TypeId} {F? :Option Nat} {h':Qr U} {out:Out U} (ho:(Z4u P F? h').outs=some out) (hag:∀s,s∈out.rd\/s∈out.w.map (·.1)->get h s=get h' s) (hg:G U c Φ h w):
  ∃u w' c' Φ',(Instr.makeMap t none).run P w= .ok u w'/\QB U c Φ h nx out w c' Φ' u w':=by
 unfold Z4u at ho
 split at ho
 ·rename_i F
  split at ho
  ·rename_i gk gv ku vu n g he
   cases hb:Nat.blt F U.nf with
   |false=>rw [hb] at ho;cases ho
   |true=>
    rw [hb] at ho
    cases ho
    have hF:F < U.nf:=Nat.le_of_ble_eq_true hb
    have he':get h F=some (.Q20 gk gv ku vu n g):=by rw [hag F (.inl (by simp))];exact he
    have hsome:(get h F).isSome:=by rw [he'];rfl
    obtain ⟨A,h0,h1,h2,h3,h4⟩:=hg.Q1M F _ he'
    let c':Cx:={ L:=λt i=>if t=F/\i=n then some (w.heap.size,0) else c.L t i,I:=c.I}
    have hcn:c.L F n=none:=by
     cases hx:c.L F n with
     |none=>rfl
     |some q=>have:=h1 n q hx;omega
    have hc:c.Le c':=⟨λt i q hq=>by
     by_cases e:t=F/\i=n
     ·obtain ⟨rfl,rfl⟩:=e;rw [hcn] at hq;cases hq
     ·simp [c',e,hq],λ_ _ _ h=>h⟩
    have hLo:∀t i,t≠F->c'.L t i=c.L t i:=λt i ht=>by simp [c',ht]
    let F':Nat->Nat->Prop:=λb o=>Φ F b o\/b=w.heap.size
    have hlt:∀t b o,(get h t).isSome->Φ t b o->b < w.heap.size:=λt b o ht hf=>hg.lt hU ht hf
    have hAlt:∀i,i < n->A i < w.heap.size:=λi hi=>by
     obtain ⟨es,cl,q1,_⟩:=h2 i hi
     exact (Array.getElem?_eq_some_iff.1 q1).1
    refine ⟨.map (some w.heap.size),w.alloc (.map #[] 0),c',fup Φ F F',by simp [Instr.makeMap,Result.andThen,World.alloc_eq],?_⟩
    refine { le:=hc,L:=λs i hs hs2=>hLo s i λe=>hs2 ⟨e▸hF,by simp [e]⟩,val:= ?_,g:= ?_,fr:=Fr.alloc _ _ _,Q2p:=λs hsn=>?_,Q2g:=λs b o hsn hf=>?_,names:=λs hsn=>?_,Q32:=λ_ _ _ h=>.inl h}
    ·exact R.Q6C hF (by simp [c'])
    ·refine hg.put hU hc hLo ?_ (λt _ h1=>(Fr.alloc (λ_ _=>False) w _).agr (λb o hf=>hlt t b o h1 hf) (λ_ _ _ h=>h))
      (λt b o hne h1 hf hF'=>by
       rcases hF' with hF'|hF'
       ·exact hg.apart t F b o hne h1 hsome hf hF'
       ·exact Nat.lt_irrefl _ (hF'▸hlt t b o h1 hf))
      (λb o v hv=>(ZN w _ (Zf (hg.imm b o v hv))).trans (hg.imm b o v hv))
      (λt b o _ h1 hf=>hg.Q15 t b o h1 hf)
      (λb o hF'=>?_)
     ·refine ⟨λi=>if i=n then w.heap.size else A i,λi hi=>?_,λi q hq=>?_,λi hi=>?_,λi j hi hj e=>?_,λb o=>?_⟩
      ·by_cases e:i=n
       ·subst e;simp [c']
       ·simp only [if_neg e];rw [show c'.L F i=c.L F i by simp [c',e]];exact h0 i (by omega)
      ·by_cases e:i=n
       ·omega
       ·rw [show c'.L F i=c.L F i by simp [c',e]] at hq
        have:=h1 i q hq;omega
      ·by_cases e:i=n
       ·subst e
        simp only [if_pos rfl,QA]
        exact ⟨#[],0,(MapKept.heap_alloc w _).1,rfl,λk p hk=>by simp at hk⟩
       ·simp only [if_neg e,QA]
        obtain ⟨es,cl,q1,q2⟩:=h2 i (by omega)
        exact ⟨es,cl,((MapKept.heap_alloc w _).2 _ (hAlt i (by omega))).trans q1,q2.mono hc⟩
      ·simp only at e
       by_cases e1:i=n
       ·by_cases e2:j=n
        ·omega
        ·rw [if_pos e1,if_neg e2] at e
         have:=hAlt j (by omega);omega
       ·by_cases e2:j=n
        ·rw [if_neg e1,if_pos e2] at e
         have:=hAlt i (by omega);omega
        ·rw [if_neg e1,if_neg e2] at e
         exact h3 i j (by omega) (by omega) e
      ·constructor
       ·rintro (hf|hf)
        ·obtain ⟨i,hi,rfl⟩:=(h4 _ _).1 hf
         exact ⟨i,by omega,by simp [show i≠n by omega]⟩
        ·exact ⟨n,by omega,by simpa using hf⟩
       ·rintro ⟨i,hi,hb⟩
        by_cases e:i=n
        ·dsimp only at hb;rw [if_pos e] at hb;exact .inr hb
        ·dsimp only at hb;rw [if_neg e] at hb;exact .inl ((h4 _ _).2 ⟨i,by omega,hb⟩)
     ·rcases hF' with hF'|hF'
      ·exact hg.Q15 F b o hsome hF'
      ·cases hI:c.I b o with
       |none=>rfl
       |some v=>
        have:=Zf (hg.imm b o v hI)
        rw [hF'] at this
        exact absurd this (Nat.lt_irrefl _)
    ·simp at hsn;simp [fup,hsn]
    ·simp at hsn;subst hsn
     simp [fup] at hf
     rcases hf with hf|hf
     ·exact .inr ⟨s,by simp,hsome,hf⟩
     ·exact .inl (by rw [hf];exact Nat.le_refl _)
    ·simp at hsn;subst hsn;exact .inr hsome
  ·cases ho
 ·cases ho
theorem Z7s {t:TypeId} (h:Z4O P t=true):agg? P t=some true:=by
 unfold Z4O at h
 split at h
 ·rename_i h9;exact h9
 ·cases h
theorem Z8U (hU:U.Ok) {h':Qr U} {t:TypeId} {m k:A U} {ok:Bool} {out:Out U} {mv kv:Value} (ho:(Z5s P t m k ok h').outs=some out) (hag:∀s,s∈out.rd\/s∈out.w.map (·.1)->get h s=get h' s) (hg:G U c Φ h w)
  (hm:RA U c m mv) (hk:RA U c k kv):∃u,(Instr.lookup t mv kv ok).run P w= .ok u w/\RA U c out.v u/\out.w= []/\out.nw=0:=by
 unfold Z5s at ho
 split at ho
 ·rename_i kt et F x hu
  split at ho
  ·rename_i ku vu n g he
   split at ho
   ·rename_i kc z hkc hz
    split at ho
    ·rename_i kk zz hkk hzz
     cases hb:Z1J P kt (U.size ku) && Nat.beq (U.size vu) 1 && Z6e P et && Z4O P kt with
     |false=>rw [hb] at ho;cases ho
     |true=>
      rw [hb] at ho
      simp only [Bool.and_eq_true] at hb
      obtain ⟨⟨⟨hfk,hvs⟩,hae⟩,hak⟩:=hb
      have hak:=Z7s hak
      cases x with
      |none=>cases ho
      |some i=>
       simp only [cond_true,OpR.outs,Option.map_eq_some_iff] at ho
       obtain ⟨r,hr,hout⟩:=ho
       have hrd:F∈out.rd:=by rw [←hout];cases ok <;> simp
       have he':get h F=some (.Q20 true false ku vu n g):=by rw [hag F (.inl hrd)];exact he
       obtain ⟨A,h0,h1,h2,h3,h4⟩:=hg.Q1M F _ he'
       obtain ⟨b,rfl,hL⟩:∃b,mv= .map (some b)/\c.L F i=some (b,0):=by
        cases (show R U c (.Q3p F (some i)) mv from hm) with|Q6C hf h0=>exact ⟨_,rfl,h0⟩
       have hi:=h1 i _ hL
       have hAi:=h0 i hi
       rw [hL] at hAi
       simp only [Option.some.injEq,Prod.mk.injEq,and_true] at hAi
       obtain ⟨es,cl,q1,q2⟩:=h2 i hi
       rw [←hAi] at q1
       obtain ⟨q,hq,hrq⟩:=Z5v _ _ hr
       have hkv:RV U c ⟨true,U.enc ku kk⟩ kv:=by
        unfold Z3t at hkc
        split at hkc
        ·rename_i g' l
         simp only [cond_true] at hkc
         cases g' with
         |false=>cases hkc
         |true=>
          cases hkc
          obtain ⟨cs,rfl,hl⟩:=(show ∃cs:Array Value,kv= .agg cs/\RL U c kc cs.toList from hk)
          exact ⟨cs,rfl,hU.Q4M _ _ _ hkk _ _ hl⟩
        ·cases hkc
       obtain ⟨cs,rfl,hcl⟩:=id hkv
       have hcs:cs.size=U.size ku:=by have:=hcl.len;rw [hU.QD] at this;simpa using this
       have hfind:=Z5B (P:=P) (w:=w) hfk hak hkv hq q2
       obtain ⟨zv,hzv,hzr⟩:=ZZ (c:=c) hz
       have hzr:=hU.Q4M _ _ _ hzz c _ hzr
       have h1l:∀y:U.D vu,∃s,U.enc vu y= [s]:=λy=>by
        have:=hU.QD vu y
        rw [QH hvs] at this
        exact List.length_eq_one_iff.1 this
       have hzone:RV U c ⟨false,U.enc vu zz⟩ zv:=by
        obtain ⟨s,hs⟩:=h1l zz
        rw [hs] at hzr ⊢
        unfold Z6e at hae
        cases hi9:P.info? et with
        |none=>rw [hi9] at hae;cases hae
        |some i9=>
         rw [hi9] at hae
         simp only at hae
         cases hz9:i9.zero with
         |none=>rw [hz9] at hae;cases hae
         |some z9=>
          rw [hz9] at hae
          have e9:=Z18 hi9 hz9 w
          rw [hzv w] at e9
          cases e9
          show R U c s zv
          rw [Z2O hae] at hzr
          obtain ⟨u9,vs9,r1,r2,_⟩:=hzr.Q44
          simp only [List.cons.injEq] at r1
          rw [r1.1];exact r2
       have hval:∃v,RV U c ⟨false,U.enc vu (r.getD zz)⟩ v/\(Instr.lookup t (.map (some b)) (.agg cs) ok).run P w= .ok (if ok then .tuple #[v,.bool r.isSome] else v) w:=by
        unfold Instr.lookup
        simp only [Sem.run_bind,run_underlying hu,Result.andThen_ok,MapKept.run_getObj_map q1,Sem.run_pure,Z2y hfk hcs,hfind]
        cases q with
        |none=>
         simp only [Option.bind_none] at hrq
         subst hrq
         refine ⟨zv,hzone,?_⟩
         simp [hzv]
        |some j=>
         obtain ⟨_,h5⟩:=Z3z (P:=P) (w:=w) hak hkv _ _ _ 0 hq q2
         obtain ⟨e,p,h6,h7,_⟩:=h5 j rfl
         simp only [Option.bind_some,h7,Option.map_some] at hrq
         subst hrq
         obtain ⟨e',h8,_,h9⟩:=q2.2 j p h7
         rw [h6] at h8;cases h8
         have h6':es[j]? =some e:=by rw [←Array.getElem?_toList];exact h6
         refine ⟨e.val,h9,?_⟩
         simp [h6']
       obtain ⟨v,hv,hrun⟩:=hval
       subst hout
       refine ⟨_,hrun,?_,by cases ok <;> rfl,by cases ok <;> rfl⟩
       cases ok with
       |false=>exact hv
       |true=>
        refine ⟨#[v,.bool r.isSome],rfl,rfl,λk y hk=>?_⟩
        match k,hk with
        |0,hk=>cases hk;exact ⟨_,rfl,hv⟩
        |1,hk=>cases hk;exact ⟨_,rfl,R.val rfl⟩
        |k+2,hk=>simp at hk
    ·cases ho
   ·cases ho
  ·cases ho
 ·cases ho
theorem Z6W (hU:U.Ok) {h':Qr U} {t:TypeId} {m k v:A U} {out:Out U} {mv kv vv:Value} (ho:(Z3h P t m k v h').outs=some out) (hag:∀s,s∈out.rd\/s∈out.w.map (·.1)->get h s=get h' s) (hg:G U c Φ h w)
  (hm:RA U c m mv) (hk:RA U c k kv) (hv:RA U c v vv):∃w' c' Φ',(Instr.mapUpdate t mv kv vv).run P w= .ok () w'/\QB U c Φ h nx out w c' Φ' undef w':=by
 unfold Z3h at ho
 split at ho
 ·rename_i kt et F x hu
  split at ho
  ·rename_i ku vu n g he
   split at ho
   ·rename_i kc vc hkc hvc
    split at ho
    ·rename_i kk vt hkk hvt
     cases hb:Z1J P kt (U.size ku) && Z4O P kt with
     |false=>rw [hb] at ho;cases ho
     |true=>
      rw [hb] at ho
      simp only [Bool.and_eq_true] at hb
      obtain ⟨hfk,hak⟩:=hb
      have hak:=Z7s hak
      cases x with
      |none=>cases ho
      |some i=>
       simp only [cond_true,OpR.outs,Option.map_eq_some_iff] at ho
       obtain ⟨r,hr,hout⟩:=ho
       split at hr
       ·rename_i l hl
        cases hr
        subst hout
        have he':get h F=some (.Q20 true false ku vu n g):=by rw [hag F (.inl (by simp))];exact he
        have hsome:(get h F).isSome:=by rw [he'];rfl
        obtain ⟨A,h0,h1,h2,h3,h4⟩:=id (hg.Q1M F _ he')
        obtain ⟨b,rfl,hL⟩:∃b,mv= .map (some b)/\c.L F i=some (b,0):=by
         cases (show R U c (.Q3p F (some i)) mv from hm) with|Q6C hf h0=>exact ⟨_,rfl,h0⟩
        have hi:=h1 i _ hL
        have hAi:=h0 i hi
        rw [hL] at hAi
        simp only [Option.some.injEq,Prod.mk.injEq,and_true] at hAi
        subst hAi
        obtain ⟨es,cl,q1,q2⟩:=h2 i hi
        obtain ⟨q,hq,hlq⟩:=Z62 _ _ hl
        have hkv:RV U c ⟨true,U.enc ku kk⟩ kv:=by
         unfold Z3t at hkc
         split at hkc
         ·rename_i g' l
          simp only [cond_true] at hkc
          cases g' with
          |false=>cases hkc
          |true=>
           cases hkc
           obtain ⟨cs,rfl,hl⟩:=(show ∃cs:Array Value,kv= .agg cs/\RL U c kc cs.toList from hk)
           exact ⟨cs,rfl,hU.Q4M _ _ _ hkk _ _ hl⟩
         ·cases hkc
        have hvv:RV U c ⟨false,U.enc vu vt⟩ vv:=by
         unfold Z3t at hvc
         split at hvc
         ·rename_i g' l
          simp only [cond_false] at hvc
          cases g' with
          |true=>cases hvc
          |false=>
           cases hvc
           match vc,hv,hvt with
           | [s],hv,hvt=>
            have hv:R U c s vv:=hv
            have h9:RL U c [s] [vv]:= .cons hv .nil
            have h9:=hU.Q4M _ _ _ hvt _ _ h9
            match hen:U.enc vu vt,h9 with
            | [s'],h9=>
             obtain ⟨u9,vs9,r1,r2,_⟩:=h9.Q44
             simp only [List.cons.injEq] at r1
             show R U c s' vv
             rw [r1.1];exact r2
            | [],h9=>have:=h9.len;simp at this
            |a::b::r,h9=>have:=h9.len;simp at this
           | [],hv,hvt=>exact hv.elim
           |a::b::r,hv,hvt=>exact hv.elim
         ·cases hvc
        obtain ⟨cs,rfl,hcl⟩:=id hkv
        have hcs:cs.size=U.size ku:=by have:=hcl.len;rw [hU.QD] at this;simpa using this
        have hfind:=Z5B (P:=P) (w:=w) hfk hak hkv hq q2

        have hrun:∃es' cl',(Instr.mapUpdate t (.map (some (A i))) (.agg cs) vv).run P w= .ok () { w with heap:=w.heap.setIfInBounds (A i) (.map es' cl')}/\Q4w U c true false l es'.toList:=by
         unfold Instr.mapUpdate
         cases q with
         |none=>
          refine ⟨es.push { key:= .agg cs,val:=vv,born:=cl},cl+1,?_,?_⟩
          ·simp only [Sem.run_bind,run_underlying hu,Result.andThen_ok,MapKept.run_getObj_map q1,Z2y hfk hcs,hfind]
           exact MapKept.run_setObj_map _ q1
          ·simp only at hlq
           subst hlq
           refine ⟨by simp [q2.1],λj p hj=>?_⟩
           by_cases hlt:j < (g i).length
           ·rw [List.getElem?_append_left hlt] at hj
            obtain ⟨e,r1,r2,r3⟩:=q2.2 j p hj
            exact ⟨e,by simp only [Array.toList_push];rw [List.getElem?_append_left (by rw [q2.1];exact hlt)];exact r1,r2,r3⟩
           ·rw [List.getElem?_append_right (by omega)] at hj
            have hj0:j - (g i).length=0:=by
             have:=(List.getElem?_eq_some_iff.1 hj).1
             simp at this;omega
            rw [hj0] at hj
            simp at hj;subst hj
            refine ⟨{ key:= .agg cs,val:=vv,born:=cl},?_,hkv,hvv⟩
            simp only [Array.toList_push]
            rw [List.getElem?_append_right (by rw [q2.1];omega),q2.1,hj0];rfl
         |some j=>
          obtain ⟨_,h5⟩:=Z3z (P:=P) (w:=w) hak hkv _ _ _ 0 hq q2
          obtain ⟨e,p,h6,h7,h8⟩:=h5 j rfl
          obtain ⟨e',h9,h10,_⟩:=q2.2 j p h7
          rw [h6] at h9;cases h9
          obtain ⟨ds,hds,hdl⟩:=h10
          obtain ⟨s1,s2⟩:=Z9h hfk h8 (hU.QD _ _) (hU.QD _ _) hcl hdl
          have hkk:e.key= .agg cs:=by rw [hds,Array.toList_inj.1 s1]
          have hes:es[j]? =some e:=by rw [←Array.getElem?_toList];exact h6
          refine ⟨es.modify j λe=>{ e with key:= .agg cs,val:=vv},cl,?_,?_⟩
          ·have hst:(Instr.keyThatStays (.agg cs) (.agg cs)).run P w= .ok (.agg cs) w:=by
            unfold Instr.keyThatStays
            have:=Z6R s2
            simp only [Array.toArray_toList] at this
            rw [if_pos this];rfl
           simp only [Sem.run_bind,run_underlying hu,Result.andThen_ok,MapKept.run_getObj_map q1,Z2y hfk hcs,hfind,Option.bind_some,h6,Option.map_some,hes,Option.getD_some,hkk,hst]
           exact MapKept.run_setObj_map _ q1
          ·simp only at hlq
           subst hlq
           refine ⟨by simp [q2.1],λj' p' hj=>?_⟩
           by_cases e1:j=j'
           ·subst e1
            have hlt:=(List.getElem?_eq_some_iff.1 h7).1
            rw [List.getElem?_set_self hlt] at hj
            cases hj
            refine ⟨{ e with key:= .agg cs,val:=vv},?_,hkv,hvv⟩
            rw [Array.getElem?_toList,Array.getElem?_modify]
            simp [hes]
           ·rw [List.getElem?_set_ne e1] at hj
            obtain ⟨e2,r1,r2,r3⟩:=q2.2 j' p' hj
            refine ⟨e2,?_,r2,r3⟩
            rw [Array.getElem?_toList,Array.getElem?_modify,if_neg e1,←Array.getElem?_toList]
            exact r1
        obtain ⟨es',cl',hrun,hrel⟩:=hrun
        have hfr:Fr (λb o=>Φ F b o) w { w with heap:=w.heap.setIfInBounds (A i) (.map es' cl')}:=Fr.QaW q1 λo=>(h4 _ _).2 ⟨i,hi,rfl⟩
        refine ⟨_,c,fup Φ F (Φ F),hrun,{ le:= .refl c,L:=λ_ _ _ _=>rfl,val:=RA.undef,g:= ?_,fr:=hfr.mono λb' o' _ hn=>⟨F,by simp,hsome,hn⟩,Q2p:=λt ht=>?_,Q2g:=λt b' o' ht hf=>?_,names:=λt ht=>?_,Q32:=λ_ _ _ h=>.inl h}⟩
        ·have hE':Q1s c { w with heap:=w.heap.setIfInBounds (A i) (.map es' cl')} F (Φ F) (.Q20 true false ku vu n (QA g i l):Ent U):=by
          refine ⟨A,h0,h1,λj hj=>?_,h3,h4⟩
          by_cases e:j=i
          ·subst e
           simp only [QA,if_true]
           exact ⟨es',cl',(MapKept.heap_set q1).1,hrel⟩
          ·simp only [QA,if_neg e]
           obtain ⟨es2,cl2,r1,r2⟩:=h2 j hj
           exact ⟨es2,cl2,((MapKept.heap_set q1).2 _ λe2=>e (h3 j i hj hi e2)).trans r1,r2⟩
         refine hg.put hU (.refl c) (λ_ _ _=>rfl) hE' (λt hts h1=>hfr.agr (λb' o' hf=>hg.lt hU h1 hf) λb' o' hf hn=>hg.apart t F b' o' hts h1 hsome hf hn)
          (λt b' o' hts h1 hf hF=>hg.apart t F b' o' hts h1 hsome hf hF) (λb' o' u hu=>?_) (λt b' o' _ h1 hf=>hg.Q15 t b' o' h1 hf) (λb' o' hf=>hg.Q15 F b' o' hsome hf)
         refine (hfr.cell b' o' (Zf (hg.imm b' o' u hu)) λhn=>?_).trans (hg.imm b' o' u hu)
         have:=hg.Q15 F b' o' hsome hn
         rw [hu] at this;cases this
        ·simp at ht;simp [fup,ht]
        ·simp at ht;subst ht
         simp [fup] at hf
         exact .inr ⟨t,by simp,hsome,hf⟩
        ·simp at ht;subst ht;exact .inr hsome
       ·cases hr
    ·cases ho
   ·cases ho
  ·cases ho
 ·cases ho
end Go.Rf
namespace Go.Rf
set_option linter.unusedVariables false
set_option linter.unusedSimpArgs false
variable {U : QV} {P : Program} {c : Cx} {Φ : Nat -> Nat -> Nat -> Prop} {h : Qr U} {nx : Nat} {w : World}
theorem Z9s {α:Type} {k j:Nat} {x:α} {l:List α} (hk:k < l.length):(Zn k x l)[j]? =if j=k then some x else l[j]? :=by
 unfold Zn
 by_cases e:j=k
 ·subst e
  rw [if_pos rfl]
  have:=Zw (off:=j) (k:=0) (new:= [x]) (l:=l) (by simp;omega) (by simp)
  rw [Nat.add_zero] at this
  rw [this];rfl
 ·rw [if_neg e,Zp (by simp;omega) (by simp;omega)]
theorem Z92 (hU:U.Ok) {t:TypeId} {h':Qr U} {a:A U} {out:Out U} {p:Value} (ho:Z7f a h' nx=some out) (ht:agg? P t=some false) (hag:∀s,s∈out.rd\/s∈out.w.map (·.1)->get h s=get h' s)
  (hg:G U c Φ h w) (hf:Q5R c h nx out.nw) (ha:RA U c a p):∃u c' Φ',(Instr.loadAt t p).run P w= .ok u w/\QB U c Φ h nx out w c' Φ' u w:=by
 unfold Z7f at ho
 split at ho
 ·rename_i s i off
  split at ho
  ·rename_i cells he
   split at ho
   ·rename_i u xs hc
    cases hi:Nat.beq i 0 with
    |false=>rw [hi] at ho;cases ho
    |true=>
     rw [hi] at ho
     have:=QH hi
     subst this
     cases ho
     have he':get h s=some (.obj cells):=by rw [hag s (.inl (by simp))];exact he
     obtain ⟨b,o,hL,rfl⟩:∃b o,c.L s 0=some (b,o)/\p= .pointer (some (at_ b (o+off))):=by
      cases (show R U c (.ptr s 0 off) p from ha) with|ptr h0=>exact ⟨_,_,h0,rfl⟩
     obtain ⟨hn,hs0⟩:=hf nx (Nat.le_refl _) (by simp)
     have hne:s≠nx:=λe=>by rw [e,hn] at he';cases he'
     have hss:(get h s).isSome:=by rw [he'];rfl
     obtain ⟨b0,o0,Gk,e1,e2,hP,hF⟩:=hg.Q1M s _ he'
     rw [hL] at e1;cases e1
     have hk:=(List.getElem?_eq_some_iff.1 hc).1
     cases hP.own off _ hc with
     |cell hr _ _ _=>cases hr
     | @Q2d _ _ b1 o1 cap _ _ ad _ g hcl hfz hl hpos hI hR hroom hself hFo=>
      let st:=o1+xs.length*U.size u
      let en:=o1+cap*U.size u
      let c':=c.Q21 nx λi=>if i=0 then some (b1,st) else if i=1 then some (b1,en) else none
      have hle:c.Le c':=Cx.Q4F hs0
      have hLo:∀z i,z≠nx->c'.L z i=c.L z i:=λz i hz=>by simp [c',Cx.Q21,hz]
      let Ft:Nat->Nat->Prop:=λb' o'=>b'=b1/\st<=o'/\o' < en
      let Gk':Nat->Nat->Nat->Prop:=λj b' o'=>if j=off then b'=b/\o'=o+off else Gk j b' o'
      let Fs:Nat->Nat->Prop:=λb' o'=>∃j,j < cells.length/\Gk' j b' o'
      have hGk:∀j b' o',j < cells.length->Gk' j b' o'->Gk j b' o':=λj b' o' hj hf=>by
       by_cases e:j=off
       ·subst e
        simp only [Gk',if_pos rfl] at hf
        exact (hFo _ _).2 (.inl hf)
       ·simpa only [Gk',if_neg e] using hf
      have hFs:∀b' o',Fs b' o'->Φ s b' o':=λb' o' ⟨j,hj,hf⟩=>(hF _ _).2 ⟨j,hj,hGk j _ _ hj hf⟩
      have hFt:∀b' o',Ft b' o'->Φ s b' o':=λb' o' hf=>(hF _ _).2 ⟨off,hk,(hFo _ _).2 (.inr hf)⟩
      have hdis:∀b' o',Ft b' o'->Fs b' o'->False:=λb' o' h1 ⟨j,hj,h2⟩=>by
       by_cases e:j=off
       ·subst e
        simp only [Gk',if_pos rfl] at h2
        obtain ⟨p1,p2,p3⟩:=h1
        exact hself (h2.1.symm.trans p1) (by rw [←h2.2];exact p2) (by rw [←h2.2];exact p3)
       ·simp only [Gk',if_neg e] at h2
        exact hP.dis off j b' o' hk hj (λe2=>e e2.symm) ((hFo _ _).2 (.inr h1)) h2
      have hval:R U c' (.isl (.own nx) u xs) (.slice ad xs.length cap):=
       .isl (b:=b1) (o:=o1) g hl ⟨b1,st,en,by simp [c',Cx.Q21],by simp [c',Cx.Q21],λhp=>⟨hpos hp,rfl,rfl,Nat.le_refl _⟩⟩ (λh0=>hpos (by omega)) hI λi k h1 h2=>(hR i k h1 h2).mono hle
      refine ⟨.slice ad xs.length cap,c',_,?_,G.Q97 (Fs:=λz=>if z=nx then Ft else Fs) (nw:=1) hU hg hle (λz i hz=>hLo z i λe=>hz (by omega)) (λz h1 h2=>(show z=nx by omega)▸⟨hn,hs0⟩) rfl (λz e hz=>?_) (λz b' o' hz hf=>?_) (λz z' b' o' hz hz' hne' h1 h2=>?_) (λz hz=>?_) hval⟩
      ·have:=Z1h ht (w:=w)
       simp [Instr.loadAt,Instr.sureAddr,loadVar,this,hcl]
      ·rw [Z9] at hz
       by_cases e1:nx=z
       ·subst e1
        rw [if_pos rfl] at hz;cases hz
        simp only [if_pos rfl]
        exact ⟨b1,st,en,by simp [c',Cx.Q21],by simp [c',Cx.Q21],λx h1 h2=>⟨(hroom x h1 h2).1,(hroom x h1 h2).2,rfl,h1,h2⟩,λb' x hx=>hx⟩
       ·rw [if_neg e1,Z9] at hz
        by_cases e2':s=z
        ·subst e2'
         rw [if_pos rfl] at hz;cases hz
         rw [if_neg (λe=>e1 e.symm)]
         have hlen:(Zn off (S.isl (.own nx) u xs) cells).length=cells.length:=by unfold Zn;exact Zo (by simp;omega)
         refine ⟨b,o,Gk',by rw [hLo s 0 hne];exact hL,λi x hx=>e2 i x (by rw [←hLo s i hne];exact hx),⟨λj x hj=>?_,λi j b' o' hi hj hne' f1 f2=>?_⟩,λb' o'=>by rw [hlen]⟩
         ·rw [Z9s hk] at hj
          by_cases e:j=off
          ·subst e
           rw [if_pos rfl] at hj;cases hj
           exact .cell hval hcl hfz λb' o'=>by simp [Gk']
          ·rw [if_neg e] at hj
           exact ((hP.own j x hj).stays hU hle (Agr.refl _ _)).iff λb' o'=>by simp [Gk',e]
         ·rw [hlen] at hi hj
          exact hP.dis i j b' o' hi hj hne' (hGk i _ _ hi f1) (hGk j _ _ hj f2)
        ·rw [if_neg e2'] at hz;cases hz
      ·by_cases e:z=nx
       ·simp only [if_pos e] at hf
        exact ⟨s,by simp,hss,hFt _ _ hf⟩
       ·simp only [if_neg e] at hf
        exact ⟨s,by simp,hss,hFs _ _ hf⟩
      ·simp at hz hz'
       rcases hz with rfl|rfl
       ·rcases hz' with rfl|rfl
        ·exact hne' rfl
        ·simp only [if_pos rfl] at h1
         rw [if_neg hne] at h2
         exact hdis _ _ h1 h2
       ·rcases hz' with rfl|rfl
        ·rw [if_neg hne] at h1
         simp only [if_pos rfl] at h2
         exact hdis _ _ h2 h1
        ·exact hne' rfl
      ·simp at hz
       rcases hz with rfl|rfl
       ·exact .inl ⟨by omega,by omega⟩
       ·exact .inr hss
   ·cases ho
  ·cases ho
 ·cases ho
theorem Z8G (hU:U.Ok) {t:TypeId} {h':Qr U} {a:A U} {out:Out U} {p:Value} (ho:Z7o a h'=some out) (ht:agg? P t=some false) (hag:∀s,s∈out.rd\/s∈out.w.map (·.1)->get h s=get h' s)
  (hg:G U c Φ h w) (ha:RA U c a p):∃u,(Instr.loadAt t p).run P w= .ok u w/\QB U c Φ h nx out w c Φ u w:=by
 unfold Z7o at ho
 split at ho
 ·rename_i s i off
  split at ho
  ·rename_i cells he
   split at ho
   ·rename_i u xs hc
    cases hi:Nat.beq i 0 with
    |false=>rw [hi] at ho;cases ho
    |true=>
     rw [hi] at ho
     have:=QH hi
     subst this
     cases ho
     have he':get h s=some (.obj cells):=by rw [hag s (.inl (by simp))];exact he
     obtain ⟨b,o,hL,rfl⟩:∃b o,c.L s 0=some (b,o)/\p= .pointer (some (at_ b (o+off))):=by
      cases (show R U c (.ptr s 0 off) p from ha) with|ptr h0=>exact ⟨_,_,h0,rfl⟩
     obtain ⟨b0,o0,Gk,e1,e2,hP,hF⟩:=hg.Q1M s _ he'
     rw [hL] at e1;cases e1
     cases hP.own off _ hc with
     |cell hr _ _ _=>cases hr
     | @Q2d _ _ b1 o1 cap _ _ ad _ g hcl hfz hl hpos hI hR hroom hself hFo=>
      refine ⟨.slice ad xs.length cap,?_,QB.pure hg (R.isl (b:=b1) (o:=o1) g hl trivial (λh0=>hpos (by omega)) hI hR)⟩
      have:=Z1h ht (w:=w)
      simp [Instr.loadAt,Instr.sureAddr,loadVar,this,hcl]
   ·cases ho
  ·cases ho
 ·cases ho
end Go.Rf
