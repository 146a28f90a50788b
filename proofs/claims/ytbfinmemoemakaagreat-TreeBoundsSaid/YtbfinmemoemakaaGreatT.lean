/- Typed forms of the functions that these statements reach, proved equal to what the model runs, and laws over them. -/
import Derived.Test.YtbfinmemoemakaaGreatRfD
import Derived.KernelRfl
import Derived.Test.YtbfinmemoemakaaGreatProg
namespace Go.Proofs.YtbfinmemoemakaaGreat
open Go.Rf
set_option linter.unusedVariables false
set_option linter.unusedSimpArgs false
set_option maxRecDepth 100000
structure QU where
 Q2Y:Int
 Q2l:Int
 Q2k:Int
structure Q1u where
 Q4e:Int
 Q2H:Int
 Q2F:Int
structure Qb where
 QO:Int
 Q2Z:Int
 Q2i:Int
 Q1y:Int
 Q1C:Int
 QY:QU
 Q3u:Bool
 Q2j:Int
 Q4v:Int
 Q4D:Int
 Q22:Int
 Q4J:Bool
 Q51:Bool
 Q5A:Int
 fKp:Int
 fKi:Int
 Q6B:Int
 Q2q:Q1u
 Q6w:Bool
structure Qk where
 QO:Int
 Q18:Int
 Q4o:Int
structure Q2D where
 Q2C:Int
 fA:Int
 fB:Int
 fC:Int
 fN:Int
 Q1U:Qb
 Q6a:ByteArray
structure Qa where
 fk:Option Nat
 fo:Option Nat
 Q8E:Int
structure Q3 where
 Q7e:Int
 Q1K:Nat×Nat
 Q62:List (Qk)
 Q8t:Nat->Option Nat
structure Q9 where
 QO:Int
 Q18:Int
structure Qv where
 Q1y:Int
 QY:QU
 Q1C:Int
 Q3g:Int
 Q2o:Int
 Q4m:Q9
 Q53:Q9
structure QT where
 Q5T:Int
structure Q1b where
 fv:Int
 fis:Bool
structure Qg where
 fType:Int
 Q2i:Int
 Q2H:Int
 Q4L:Int
 Q25:Q9
 Q3w:Int
 Q63:Int
 Q4n:Int
 Q36:Q9
 Q4e:Int
 Q1y:Int
 QY:QU
 Q1C:Int
 Q3g:Int
 Q2o:Int
 Q2F:Int
 Q3E:Int
 Q5t:Int
 Q4x:Int
structure Qc where
 Q1Z:Int
 QaS:Option Nat
 Q9C:Option Nat
 Q43:QT
 Q4Z:QT
 Q4E:QT
 fsync:QT
 Q6k:QT
 Q5P:Int
 Q7F:Int
 Q5L:Int
 QaP:Option Nat
 Q6s:Option Nat
 fpeer:Option Nat
 Q6x:Q1b
 Q5n:Q1b
 Q2E:Qg
 Q6c:Bool
structure QX where
 Q18:Q9
 Q3g:Int
 QY:QU
 Q1y:Int
 Q1C:Int
 Q2o:Int
 Q2q:Q1u
structure Q12 where
 Q2C:Int
 Q18:Int
 fN:Int
 Q9X:Bool
 fType:Int
 Q3w:Int
 Q6a:ByteArray
structure Q1 where
 Q1d:Qb
 Qu:Nat->Qc
 Q61:Int
 Q2I:QX
 Qb7:Option Nat
 QaI:Option Nat
 Q8L:Int
 Q6s:Q1b
 Q5Z:Int
 Q4T:List (Q12)
structure Qw where
 fat:Int
 Q72:Int
 Q6H:Int
 Q4G:Int
structure Qj where
 Qa3:Int
 fb:ByteArray
structure Qn where
 fl:Nat×Nat
 Q8h:Int
structure Q1Q where
 Q2C:Int
 Q18:Int
 Q8T:Int
 fType:Int
 Q3w:Int
 Q6a:ByteArray
 Q1U:Qb
structure Qd where
 fkp:Int
 fki:Int
 Q8g:Int
 Q1Z:Int
 Q4G:Int
 Q8q:Int
 Q77:Int
structure Q8 where
 fl:Nat->Int
 fn:Int
 Q7H:Int
structure Qe where
 Q3b:Qv
 Q2q:Q1u
 Q3w:Int
 Q6W:Int
 Q8f:Int
structure Q5 where
 Q8R:Q9
 Q8M:Int
 fl:Nat->Qe
 fn:Int
structure Qh where
 fsync:Qg
 Q2m:Qg
 fat:Int
 Q8B:Bool
 Q5s:Bool
structure Q10 where
 Q5p:Int
 fat:Int
 Q7j:Bool
 Q5Q:Bool
structure Q6 where
 Q5F:Q9
 Q5X:Int
 fr:Q10
structure Q7 where
 Q5F:Q9
 Q5X:Int
 Q5p:Int
 fat:Int
 Q7j:Bool
 Q5Q:Bool
 Q6c:Bool
 Qap:Bool
 Q2b:Qg
 fback:Int
structure QL where
 fType:Int
 Q4I:ByteArray
structure Q23 where
 Q4P:Q9
 Q5p:Int
abbrev QU.Q7C (x:QU) (v:Int):QU:={ x with Q2Y:=v}
abbrev Qb.Q7A (x:Qb) (v:Int):Qb:={ x with Q2Z:=v}
abbrev Qb.Q4C (x:Qb) (v:Int):Qb:={ x with Q1y:=v}
abbrev Qb.Q4B (x:Qb) (v:QU):Qb:={ x with QY:=v}
abbrev Qb.Q7W (x:Qb) (v:Bool):Qb:={ x with Q3u:=v}
abbrev Qb.Q8I (x:Qb) (v:Int):Qb:={ x with Q2j:=v}
abbrev Qb.Q8w (x:Qb) (v:Int):Qb:={ x with Q4v:=v}
abbrev Qb.Q80 (x:Qb) (v:Int):Qb:={ x with Q4D:=v}
abbrev Qb.Q8i (x:Qb) (v:Int):Qb:={ x with Q22:=v}
abbrev Qb.Q9O (x:Qb) (v:Bool):Qb:={ x with Q4J:=v}
abbrev Qb.Q8r (x:Qb) (v:Bool):Qb:={ x with Q51:=v}
abbrev Qb.Q8K (x:Qb) (v:Int):Qb:={ x with Q5A:=v}
abbrev Qb.Q9M (x:Qb) (v:Int):Qb:={ x with Q6B:=v}
abbrev Qb.Q9s (x:Qb) (v:Bool):Qb:={ x with Q6w:=v}
abbrev Qa.Q95 (x:Qa) (v:Int):Qa:={ x with Q8E:=v}
abbrev Q3.Q9V (x:Q3) (v:Int):Q3:={ x with Q7e:=v}
abbrev Q3.Q8F (x:Q3) (v:Nat×Nat):Q3:={ x with Q1K:=v}
abbrev Q3.Q9m (x:Q3) (v:Nat->Option Nat):Q3:={ x with Q8t:=v}
abbrev Qg.Q8H (x:Qg) (v:Int):Qg:={ x with Q2i:=v}
abbrev Qg.Q8V (x:Qg) (v:Int):Qg:={ x with Q2H:=v}
abbrev Qg.Q6K (x:Qg) (v:Int):Qg:={ x with Q4n:=v}
abbrev Qg.Q6n (x:Qg) (v:Q9):Qg:={ x with Q36:=v}
abbrev Qg.Q7n (x:Qg) (v:Int):Qg:={ x with Q4e:=v}
abbrev Qg.Q4C (x:Qg) (v:Int):Qg:={ x with Q1y:=v}
abbrev Qg.Q4B (x:Qg) (v:QU):Qg:={ x with QY:=v}
abbrev Qg.Q5D (x:Qg) (v:Int):Qg:={ x with Q1C:=v}
abbrev Qg.Q6F (x:Qg) (v:Int):Qg:={ x with Q3g:=v}
abbrev Qg.Q6G (x:Qg) (v:Int):Qg:={ x with Q2o:=v}
abbrev Qg.Q6i (x:Qg) (v:Int):Qg:={ x with Q2F:=v}
abbrev Qg.Q5E (x:Qg) (v:Int):Qg:={ x with Q3E:=v}
abbrev Qg.Q6V (x:Qg) (v:Int):Qg:={ x with Q5t:=v}
abbrev Qg.Q6o (x:Qg) (v:Int):Qg:={ x with Q4x:=v}
abbrev Qc.Q3v (x:Qc) (v:Int):Qc:={ x with Q1Z:=v}
abbrev Qc.Q7t (x:Qc) (v:Option Nat):Qc:={ x with Q9C:=v}
abbrev Qc.Q3x (x:Qc) (v:QT):Qc:={ x with Q43:=v}
abbrev Qc.Q4V (x:Qc) (v:QT):Qc:={ x with Q4Z:=v}
abbrev Qc.Q4N (x:Qc) (v:QT):Qc:={ x with Q4E:=v}
abbrev Qc.Q5I (x:Qc) (v:QT):Qc:={ x with fsync:=v}
abbrev Qc.Q5C (x:Qc) (v:QT):Qc:={ x with Q6k:=v}
abbrev Qc.Q7O (x:Qc) (v:Int):Qc:={ x with Q5P:=v}
abbrev Qc.Q94 (x:Qc) (v:Int):Qc:={ x with Q7F:=v}
abbrev Qc.Q81 (x:Qc) (v:Int):Qc:={ x with Q5L:=v}
abbrev Qc.Q5i (x:Qc) (v:Q1b):Qc:={ x with Q6x:=v}
abbrev Q1.Q1k (x:Q1) (v:Nat->Qc):Q1:={ x with Qu:=v}
abbrev Q1.Q9f (x:Q1) (v:Int):Q1:={ x with Q61:=v}
abbrev Q1.Q79 (x:Q1) (v:QX):Q1:={ x with Q2I:=v}
abbrev Q1.Q8G (x:Q1) (v:Int):Q1:={ x with Q8L:=v}
abbrev Q1.Q6J (x:Q1) (v:Q1b):Q1:={ x with Q6s:=v}
abbrev Q1.Q5o (x:Q1) (v:Int):Q1:={ x with Q5Z:=v}
abbrev Q1.Q3q (x:Q1) (v:List (Q12)):Q1:={ x with Q4T:=v}
abbrev Qw.Q6t (x:Qw) (v:Int):Qw:={ x with fat:=v}
abbrev Qw.Q6L (x:Qw) (v:Int):Qw:={ x with Q72:=v}
abbrev Qw.Q5h (x:Qw) (v:Int):Qw:={ x with Q4G:=v}
abbrev Qd.Q3v (x:Qd) (v:Int):Qd:={ x with Q1Z:=v}
abbrev Qd.Q5h (x:Qd) (v:Int):Qd:={ x with Q4G:=v}
abbrev Qd.Q7y (x:Qd) (v:Int):Qd:={ x with Q8q:=v}
abbrev Qd.Q5H (x:Qd) (v:Int):Qd:={ x with Q77:=v}
abbrev Q8.Q6P (x:Q8) (v:Int):Q8:={ x with fn:=v}
abbrev Qe.Q9c (x:Qe) (v:Int):Qe:={ x with Q6W:=v}
abbrev Q5.Q8A (x:Q5) (v:Nat->Qe):Q5:={ x with fl:=v}
abbrev Q5.Q6P (x:Q5) (v:Int):Q5:={ x with fn:=v}
abbrev Qh.Q8J (x:Qh) (v:Qg):Qh:={ x with Q2m:=v}
abbrev Qh.Q7b (x:Qh) (v:Bool):Qh:={ x with Q5s:=v}
abbrev Q10.Q6t (x:Q10) (v:Int):Q10:={ x with fat:=v}
abbrev Q10.Q6Z (x:Q10) (v:Bool):Q10:={ x with Q5Q:=v}
abbrev Q6.Q8l (x:Q6) (v:Q10):Q6:={ x with fr:=v}
abbrev Q7.Q9S (x:Q7) (v:Int):Q7:={ x with Q5p:=v}
abbrev Q7.Q6t (x:Q7) (v:Int):Q7:={ x with fat:=v}
abbrev Q7.Q9W (x:Q7) (v:Bool):Q7:={ x with Q7j:=v}
abbrev Q7.Q6Z (x:Q7) (v:Bool):Q7:={ x with Q5Q:=v}
def QU.zero:QU:=⟨0,0,0⟩
def Q1u.zero:Q1u:=⟨0,0,0⟩
def Qb.zero:Qb:=⟨0,0,0,0,0,QU.zero,false,0,0,0,0,false,false,0,0,0,0,Q1u.zero,false⟩
def Qk.zero:Qk:=⟨0,0,0⟩
def Q2D.zero:Q2D:=⟨0,0,0,0,0,Qb.zero,ByteArray.empty⟩
def Qa.zero:Qa:=⟨none,none,0⟩
def Q3.zero:Q3:=⟨0,(0,0),[],(λ_=>none)⟩
def Q9.zero:Q9:=⟨0,0⟩
def Qv.zero:Qv:=⟨0,QU.zero,0,0,0,Q9.zero,Q9.zero⟩
def QT.zero:QT:=⟨0⟩
def Q1b.zero:Q1b:=⟨0,false⟩
def Qg.zero:Qg:=⟨0,0,0,0,Q9.zero,0,0,0,Q9.zero,0,0,QU.zero,0,0,0,0,0,0,0⟩
def Qc.zero:Qc:=⟨0,none,none,QT.zero,QT.zero,QT.zero,QT.zero,QT.zero,0,0,0,none,none,none,Q1b.zero,Q1b.zero,Qg.zero,false⟩
def QX.zero:QX:=⟨Q9.zero,0,QU.zero,0,0,0,Q1u.zero⟩
def Q12.zero:Q12:=⟨0,0,0,false,0,0,ByteArray.empty⟩
def Q1.zero:Q1:=⟨Qb.zero,(λ_=>Qc.zero),0,QX.zero,none,none,0,Q1b.zero,0,[]⟩
def Qw.zero:Qw:=⟨0,0,0,0⟩
def Qj.zero:Qj:=⟨0,ByteArray.empty⟩
def Qn.zero:Qn:=⟨(0,0),0⟩
def Q1Q.zero:Q1Q:=⟨0,0,0,0,0,ByteArray.empty,Qb.zero⟩
def Qd.zero:Qd:=⟨0,0,0,0,0,0,0⟩
def Q8.zero:Q8:=⟨(λ_=>0),0,0⟩
def Qe.zero:Qe:=⟨Qv.zero,Q1u.zero,0,0,0⟩
def Q5.zero:Q5:=⟨Q9.zero,0,(λ_=>Qe.zero),0⟩
def Qh.zero:Qh:=⟨Qg.zero,Qg.zero,0,false,false⟩
def Q10.zero:Q10:=⟨0,0,false,false⟩
def Q6.zero:Q6:=⟨Q9.zero,0,Q10.zero⟩
def Q7.zero:Q7:=⟨Q9.zero,0,0,0,false,false,false,false,Qg.zero,0⟩
def QL.zero:QL:=⟨0,ByteArray.empty⟩
def Q23.zero:Q23:=⟨Q9.zero,0⟩
inductive UC where
 |u8|Q40|int|Q1j|Q11|Q2y|Q3U|Qo|bool|Qm|QI|Q1L|Q27|QJ|Q2W|QQ|QE|Q16|Q1m|Q1P|u64|Q4d|Qi|Q2U|Q1x|Q4|Q1g|Q13|Q3d|Q3k|QR|QC|Ql|QS|Q3j|Qy|QF|Q45|Q1o
 deriving DecidableEq
abbrev D:UC->Type
 | .u8=>UInt8
 | .Q40=>List (Int)
 | .int=>Int
 | .Q1j=>Qk
 | .Q11=>Qb
 | .Q2y=>QU
 | .Q3U=>Q1u
 | .Qo=>Qa
 | .bool=>Bool
 | .Qm=>Q9
 | .QI=>Qc
 | .Q1L=>QT
 | .Q27=>Q1b
 | .QJ=>Qg
 | .Q2W=>Q12
 | .QQ=>Qj
 | .QE=>Qe
 | .Q16=>Qv
 | .Q1m=>QL
 | .Q1P=>Option (Qv)
 | .u64=>Int
 | .Q4d=>Q2D
 | .Qi=>Q3
 | .Q2U=>Option Nat
 | .Q1x=>QX
 | .Q4=>Q1
 | .Q1g=>Qw
 | .Q13=>Qn
 | .Q3d=>List (Qj)
 | .Q3k=>Q1Q
 | .QR=>Qd
 | .QC=>Q8
 | .Ql=>Q5
 | .QS=>Qh
 | .Q3j=>Q10
 | .Qy=>Q6
 | .QF=>Q7
 | .Q45=>Q23
 | .Q1o=>List (Int)
abbrev Cel:=S UC D
def QU.enc (x:QU):List (Cel):= [.val (.int .i64 x.Q2Y),.val (.int .i64 x.Q2l),.val (.int .i64 x.Q2k)]
def QU.ls:List (Lf UC):= [.int .i64,.int .i64,.int .i64]
def QU.toS (t:HL D QU.ls):QU:=⟨t.1,t.2.1,t.2.2.1⟩
def QU.dec (l:List Cel):Option QU:=match Q3a QU.ls l with
 |some t=>some (QU.toS t)
 |none=>none
def Q1u.enc (x:Q1u):List (Cel):= [.val (.int .i64 x.Q4e),.val (.int .i64 x.Q2H),.val (.int .i64 x.Q2F)]
def Q1u.ls:List (Lf UC):= [.int .i64,.int .i64,.int .i64]
def Q1u.toS (t:HL D Q1u.ls):Q1u:=⟨t.1,t.2.1,t.2.2.1⟩
def Q1u.dec (l:List Cel):Option Q1u:=match Q3a Q1u.ls l with
 |some t=>some (Q1u.toS t)
 |none=>none
def Qb.enc (x:Qb):List (Cel):= [.val (.int .u64 x.QO),.val (.int .i64 x.Q2Z),.val (.int .i64 x.Q2i),.val (.int .i64 x.Q1y),.val (.int .i64 x.Q1C),.val (.int .i64 x.QY.Q2Y),.val (.int .i64 x.QY.Q2l),.val (.int .i64 x.QY.Q2k),.val (.bool x.Q3u),.val (.int .i64 x.Q2j),.val (.int .i64 x.Q4v),.val (.int .i64 x.Q4D),.val (.int .i64 x.Q22),.val (.bool x.Q4J),.val (.bool x.Q51),.val (.int .i64 x.Q5A),.val (.int .i64 x.fKp),.val (.int .i64 x.fKi),.val (.int .i64 x.Q6B),.val (.int .i64 x.Q2q.Q4e),.val (.int .i64 x.Q2q.Q2H),.val (.int .i64 x.Q2q.Q2F),.val (.bool x.Q6w)]
def Qb.ls:List (Lf UC):= [.int .u64,.int .i64,.int .i64,.int .i64,.int .i64,.int .i64,.int .i64,.int .i64,.bool,.int .i64,.int .i64,.int .i64,.int .i64,.bool,.bool,.int .i64,.int .i64,.int .i64,.int .i64,.int .i64,.int .i64,.int .i64,.bool]
def Qb.toS (t:HL D Qb.ls):Qb:=let t6:=t.2.2.2.2.2.2;let t12:=t6.2.2.2.2.2.2;let t18:=t12.2.2.2.2.2.2;⟨t.1,t.2.1,t.2.2.1,t.2.2.2.1,t.2.2.2.2.1,⟨t.2.2.2.2.2.1,t6.1,t6.2.1⟩,t6.2.2.1,t6.2.2.2.1,t6.2.2.2.2.1,t6.2.2.2.2.2.1,t12.1,t12.2.1,t12.2.2.1,t12.2.2.2.1,t12.2.2.2.2.1,t12.2.2.2.2.2.1,t18.1,⟨t18.2.1,t18.2.2.1,t18.2.2.2.1⟩,t18.2.2.2.2.1⟩
def Qb.dec (l:List Cel):Option Qb:=match Q3a Qb.ls l with
 |some t=>some (Qb.toS t)
 |none=>none
def Qk.enc (x:Qk):List (Cel):= [.val (.int .i64 x.QO),.val (.int .i64 x.Q18),.val (.int .i64 x.Q4o)]
def Qk.ls:List (Lf UC):= [.int .i64,.int .i64,.int .i64]
def Qk.toS (t:HL D Qk.ls):Qk:=⟨t.1,t.2.1,t.2.2.1⟩
def Qk.dec (l:List Cel):Option Qk:=match Q3a Qk.ls l with
 |some t=>some (Qk.toS t)
 |none=>none
def Q2D.enc (x:Q2D):List (Cel):= [.val (.int .i64 x.Q2C),.val (.int .i64 x.fA),.val (.int .i64 x.fB),.val (.int .i64 x.fC),.val (.int .i64 x.fN),.val (.int .u64 x.Q1U.QO),.val (.int .i64 x.Q1U.Q2Z),.val (.int .i64 x.Q1U.Q2i),.val (.int .i64 x.Q1U.Q1y),.val (.int .i64 x.Q1U.Q1C),.val (.int .i64 x.Q1U.QY.Q2Y),.val (.int .i64 x.Q1U.QY.Q2l),.val (.int .i64 x.Q1U.QY.Q2k),.val (.bool x.Q1U.Q3u),.val (.int .i64 x.Q1U.Q2j),.val (.int .i64 x.Q1U.Q4v),.val (.int .i64 x.Q1U.Q4D),.val (.int .i64 x.Q1U.Q22),.val (.bool x.Q1U.Q4J),.val (.bool x.Q1U.Q51),.val (.int .i64 x.Q1U.Q5A),.val (.int .i64 x.Q1U.fKp),.val (.int .i64 x.Q1U.fKi),.val (.int .i64 x.Q1U.Q6B),.val (.int .i64 x.Q1U.Q2q.Q4e),.val (.int .i64 x.Q1U.Q2q.Q2H),.val (.int .i64 x.Q1U.Q2q.Q2F),.val (.bool x.Q1U.Q6w),.val (.string x.Q6a)]
def Q2D.ls:List (Lf UC):= [.int .i64,.int .i64,.int .i64,.int .i64,.int .i64,.int .u64,.int .i64,.int .i64,.int .i64,.int .i64,.int .i64,.int .i64,.int .i64,.bool,.int .i64,.int .i64,.int .i64,.int .i64,.bool,.bool,.int .i64,.int .i64,.int .i64,.int .i64,.int .i64,.int .i64,.int .i64,.bool,.str]
def Q2D.toS (t:HL D Q2D.ls):Q2D:=let t6:=t.2.2.2.2.2.2;let t12:=t6.2.2.2.2.2.2;let t18:=t12.2.2.2.2.2.2;let t24:=t18.2.2.2.2.2.2;⟨t.1,t.2.1,t.2.2.1,t.2.2.2.1,t.2.2.2.2.1,⟨t.2.2.2.2.2.1,t6.1,t6.2.1,t6.2.2.1,t6.2.2.2.1,⟨t6.2.2.2.2.1,t6.2.2.2.2.2.1,t12.1⟩,t12.2.1,t12.2.2.1,t12.2.2.2.1,t12.2.2.2.2.1,t12.2.2.2.2.2.1,t18.1,t18.2.1,t18.2.2.1,t18.2.2.2.1,t18.2.2.2.2.1,t18.2.2.2.2.2.1,⟨t24.1,t24.2.1,t24.2.2.1⟩,t24.2.2.2.1⟩,t24.2.2.2.2.1⟩
def Q2D.dec (l:List Cel):Option Q2D:=match Q3a Q2D.ls l with
 |some t=>some (Q2D.toS t)
 |none=>none
def Qa.enc (x:Qa):List (Cel):= [.ref 0 x.fk,.ref 8 x.fo,.val (.int .i64 x.Q8E)]
def Qa.ls:List (Lf UC):= [.ref 0 13,.ref 8 13,.int .i64]
def Qa.toS (t:HL D Qa.ls):Qa:=⟨t.1,t.2.1,t.2.2.1⟩
def Qa.dec (l:List Cel):Option Qa:=match Q3a Qa.ls l with
 |some t=>some (Qa.toS t)
 |none=>none
def Q3.enc (x:Q3):List (Cel):= [.val (.int .i64 x.Q7e),.rsl true 11 3 x.Q1K.1 0 x.Q1K.2,.isl .none .Q1j x.Q62,.Q1n .Q2U 8 x.Q8t,.hole,.hole,.hole,.hole,.hole,.hole,.hole]
def Q3.ls:List (Lf UC):= [.int .i64,.Q7P 11 3,.list .Q1j,.Q1n .Q2U 8,.hole,.hole,.hole,.hole,.hole,.hole,.hole]
def Q3.toS (t:HL D Q3.ls):Q3:=⟨t.1,t.2.1,t.2.2.1,t.2.2.2.1⟩
def Q3.dec (l:List Cel):Option Q3:=match Q3a Q3.ls l with
 |some t=>some (Q3.toS t)
 |none=>none
def Q9.enc (x:Q9):List (Cel):= [.val (.int .u64 x.QO),.val (.int .i64 x.Q18)]
def Q9.ls:List (Lf UC):= [.int .u64,.int .i64]
def Q9.toS (t:HL D Q9.ls):Q9:=⟨t.1,t.2.1⟩
def Q9.dec (l:List Cel):Option Q9:=match Q3a Q9.ls l with
 |some t=>some (Q9.toS t)
 |none=>none
def Qv.enc (x:Qv):List (Cel):= [.val (.int .i64 x.Q1y),.val (.int .i64 x.QY.Q2Y),.val (.int .i64 x.QY.Q2l),.val (.int .i64 x.QY.Q2k),.val (.int .i64 x.Q1C),.val (.int .u64 x.Q3g),.val (.int .i64 x.Q2o),.val (.int .u64 x.Q4m.QO),.val (.int .i64 x.Q4m.Q18),.val (.int .u64 x.Q53.QO),.val (.int .i64 x.Q53.Q18)]
def Qv.ls:List (Lf UC):= [.int .i64,.int .i64,.int .i64,.int .i64,.int .i64,.int .u64,.int .i64,.int .u64,.int .i64,.int .u64,.int .i64]
def Qv.toS (t:HL D Qv.ls):Qv:=let t6:=t.2.2.2.2.2.2;⟨t.1,⟨t.2.1,t.2.2.1,t.2.2.2.1⟩,t.2.2.2.2.1,t.2.2.2.2.2.1,t6.1,⟨t6.2.1,t6.2.2.1⟩,⟨t6.2.2.2.1,t6.2.2.2.2.1⟩⟩
def Qv.dec (l:List Cel):Option Qv:=match Q3a Qv.ls l with
 |some t=>some (Qv.toS t)
 |none=>none
def QT.enc (x:QT):List (Cel):= [.val (.int .i64 x.Q5T)]
def QT.ls:List (Lf UC):= [.int .i64]
def QT.toS (t:HL D QT.ls):QT:=⟨t.1⟩
def QT.dec (l:List Cel):Option QT:=match Q3a QT.ls l with
 |some t=>some (QT.toS t)
 |none=>none
def Q1b.enc (x:Q1b):List (Cel):= [.val (.int .i64 x.fv),.val (.bool x.fis)]
def Q1b.ls:List (Lf UC):= [.int .i64,.bool]
def Q1b.toS (t:HL D Q1b.ls):Q1b:=⟨t.1,t.2.1⟩
def Q1b.dec (l:List Cel):Option Q1b:=match Q3a Q1b.ls l with
 |some t=>some (Q1b.toS t)
 |none=>none
def Qg.enc (x:Qg):List (Cel):= [.val (.int .i64 x.fType),.val (.int .i64 x.Q2i),.val (.int .i64 x.Q2H),.val (.int .i64 x.Q4L),.val (.int .u64 x.Q25.QO),.val (.int .i64 x.Q25.Q18),.val (.int .i64 x.Q3w),.val (.int .i64 x.Q63),.val (.int .i64 x.Q4n),.val (.int .u64 x.Q36.QO),.val (.int .i64 x.Q36.Q18),.val (.int .i64 x.Q4e),.val (.int .i64 x.Q1y),.val (.int .i64 x.QY.Q2Y),.val (.int .i64 x.QY.Q2l),.val (.int .i64 x.QY.Q2k),.val (.int .i64 x.Q1C),.val (.int .u64 x.Q3g),.val (.int .i64 x.Q2o),.val (.int .i64 x.Q2F),.val (.int .i64 x.Q3E),.val (.int .i64 x.Q5t),.val (.int .i64 x.Q4x)]
def Qg.ls:List (Lf UC):= [.int .i64,.int .i64,.int .i64,.int .i64,.int .u64,.int .i64,.int .i64,.int .i64,.int .i64,.int .u64,.int .i64,.int .i64,.int .i64,.int .i64,.int .i64,.int .i64,.int .i64,.int .u64,.int .i64,.int .i64,.int .i64,.int .i64,.int .i64]
def Qg.toS (t:HL D Qg.ls):Qg:=let t6:=t.2.2.2.2.2.2;let t12:=t6.2.2.2.2.2.2;let t18:=t12.2.2.2.2.2.2;⟨t.1,t.2.1,t.2.2.1,t.2.2.2.1,⟨t.2.2.2.2.1,t.2.2.2.2.2.1⟩,t6.1,t6.2.1,t6.2.2.1,⟨t6.2.2.2.1,t6.2.2.2.2.1⟩,t6.2.2.2.2.2.1,t12.1,⟨t12.2.1,t12.2.2.1,t12.2.2.2.1⟩,t12.2.2.2.2.1,t12.2.2.2.2.2.1,t18.1,t18.2.1,t18.2.2.1,t18.2.2.2.1,t18.2.2.2.2.1⟩
def Qg.dec (l:List Cel):Option Qg:=match Q3a Qg.ls l with
 |some t=>some (Qg.toS t)
 |none=>none
def Qc.enc (x:Qc):List (Cel):= [.val (.int .i64 x.Q1Z),.ref 2 x.QaS,.Q3p 10 x.Q9C,.val (.int .i64 x.Q43.Q5T),.val (.int .i64 x.Q4Z.Q5T),.val (.int .i64 x.Q4E.Q5T),.val (.int .i64 x.fsync.Q5T),.val (.int .i64 x.Q6k.Q5T),.val (.int .i64 x.Q5P),.val (.int .i64 x.Q7F),.val (.int .i64 x.Q5L),.ref 6 x.QaP,.ref 3 x.Q6s,.ref 4 x.fpeer,.val (.int .i64 x.Q6x.fv),.val (.bool x.Q6x.fis),.val (.int .i64 x.Q5n.fv),.val (.bool x.Q5n.fis),.val (.int .i64 x.Q2E.fType),.val (.int .i64 x.Q2E.Q2i),.val (.int .i64 x.Q2E.Q2H),.val (.int .i64 x.Q2E.Q4L),.val (.int .u64 x.Q2E.Q25.QO),.val (.int .i64 x.Q2E.Q25.Q18),.val (.int .i64 x.Q2E.Q3w),.val (.int .i64 x.Q2E.Q63),.val (.int .i64 x.Q2E.Q4n),.val (.int .u64 x.Q2E.Q36.QO),.val (.int .i64 x.Q2E.Q36.Q18),.val (.int .i64 x.Q2E.Q4e),.val (.int .i64 x.Q2E.Q1y),.val (.int .i64 x.Q2E.QY.Q2Y),.val (.int .i64 x.Q2E.QY.Q2l),.val (.int .i64 x.Q2E.QY.Q2k),.val (.int .i64 x.Q2E.Q1C),.val (.int .u64 x.Q2E.Q3g),.val (.int .i64 x.Q2E.Q2o),.val (.int .i64 x.Q2E.Q2F),.val (.int .i64 x.Q2E.Q3E),.val (.int .i64 x.Q2E.Q5t),.val (.int .i64 x.Q2E.Q4x),.val (.bool x.Q6c)]
def Qc.ls:List (Lf UC):= [.int .i64,.ref 2 13,.Q3p 10,.int .i64,.int .i64,.int .i64,.int .i64,.int .i64,.int .i64,.int .i64,.int .i64,.ref 6 13,.ref 3 13,.ref 4 13,.int .i64,.bool,.int .i64,.bool,.int .i64,.int .i64,.int .i64,.int .i64,.int .u64,.int .i64,.int .i64,.int .i64,.int .i64,.int .u64,.int .i64,.int .i64,.int .i64,.int .i64,.int .i64,.int .i64,.int .i64,.int .u64,.int .i64,.int .i64,.int .i64,.int .i64,.int .i64,.bool]
def Qc.toS (t:HL D Qc.ls):Qc:=let t6:=t.2.2.2.2.2.2;let t12:=t6.2.2.2.2.2.2;let t18:=t12.2.2.2.2.2.2;let t24:=t18.2.2.2.2.2.2;let t30:=t24.2.2.2.2.2.2;let t36:=t30.2.2.2.2.2.2;⟨t.1,t.2.1,t.2.2.1,⟨t.2.2.2.1⟩,⟨t.2.2.2.2.1⟩,⟨t.2.2.2.2.2.1⟩,⟨t6.1⟩,⟨t6.2.1⟩,t6.2.2.1,t6.2.2.2.1,t6.2.2.2.2.1,t6.2.2.2.2.2.1,t12.1,t12.2.1,⟨t12.2.2.1,t12.2.2.2.1⟩,⟨t12.2.2.2.2.1,t12.2.2.2.2.2.1⟩,⟨t18.1,t18.2.1,t18.2.2.1,t18.2.2.2.1,⟨t18.2.2.2.2.1,t18.2.2.2.2.2.1⟩,t24.1,t24.2.1,t24.2.2.1,⟨t24.2.2.2.1,t24.2.2.2.2.1⟩,t24.2.2.2.2.2.1,t30.1,⟨t30.2.1,t30.2.2.1,t30.2.2.2.1⟩,t30.2.2.2.2.1,t30.2.2.2.2.2.1,t36.1,t36.2.1,t36.2.2.1,t36.2.2.2.1,t36.2.2.2.2.1⟩,t36.2.2.2.2.2.1⟩
def Qc.dec (l:List Cel):Option Qc:=match Q3a Qc.ls l with
 |some t=>some (Qc.toS t)
 |none=>none
def QX.enc (x:QX):List (Cel):= [.val (.int .u64 x.Q18.QO),.val (.int .i64 x.Q18.Q18),.val (.int .u64 x.Q3g),.val (.int .i64 x.QY.Q2Y),.val (.int .i64 x.QY.Q2l),.val (.int .i64 x.QY.Q2k),.val (.int .i64 x.Q1y),.val (.int .i64 x.Q1C),.val (.int .i64 x.Q2o),.val (.int .i64 x.Q2q.Q4e),.val (.int .i64 x.Q2q.Q2H),.val (.int .i64 x.Q2q.Q2F)]
def QX.ls:List (Lf UC):= [.int .u64,.int .i64,.int .u64,.int .i64,.int .i64,.int .i64,.int .i64,.int .i64,.int .i64,.int .i64,.int .i64,.int .i64]
def QX.toS (t:HL D QX.ls):QX:=let t6:=t.2.2.2.2.2.2;⟨⟨t.1,t.2.1⟩,t.2.2.1,⟨t.2.2.2.1,t.2.2.2.2.1,t.2.2.2.2.2.1⟩,t6.1,t6.2.1,t6.2.2.1,⟨t6.2.2.2.1,t6.2.2.2.2.1,t6.2.2.2.2.2.1⟩⟩
def QX.dec (l:List Cel):Option QX:=match Q3a QX.ls l with
 |some t=>some (QX.toS t)
 |none=>none
def Q12.enc (x:Q12):List (Cel):= [.val (.int .i64 x.Q2C),.val (.int .i64 x.Q18),.val (.int .i64 x.fN),.val (.bool x.Q9X),.val (.int .i64 x.fType),.val (.int .i64 x.Q3w),.val (.string x.Q6a)]
def Q12.ls:List (Lf UC):= [.int .i64,.int .i64,.int .i64,.bool,.int .i64,.int .i64,.str]
def Q12.toS (t:HL D Q12.ls):Q12:=⟨t.1,t.2.1,t.2.2.1,t.2.2.2.1,t.2.2.2.2.1,t.2.2.2.2.2.1,t.2.2.2.2.2.2.1⟩
def Q12.dec (l:List Cel):Option Q12:=match Q3a Q12.ls l with
 |some t=>some (Q12.toS t)
 |none=>none
def Q1.enc (x:Q1):List (Cel):= [.val (.int .u64 x.Q1d.QO),.val (.int .i64 x.Q1d.Q2Z),.val (.int .i64 x.Q1d.Q2i),.val (.int .i64 x.Q1d.Q1y),.val (.int .i64 x.Q1d.Q1C),.val (.int .i64 x.Q1d.QY.Q2Y),.val (.int .i64 x.Q1d.QY.Q2l),.val (.int .i64 x.Q1d.QY.Q2k),.val (.bool x.Q1d.Q3u),.val (.int .i64 x.Q1d.Q2j),.val (.int .i64 x.Q1d.Q4v),.val (.int .i64 x.Q1d.Q4D),.val (.int .i64 x.Q1d.Q22),.val (.bool x.Q1d.Q4J),.val (.bool x.Q1d.Q51),.val (.int .i64 x.Q1d.Q5A),.val (.int .i64 x.Q1d.fKp),.val (.int .i64 x.Q1d.fKi),.val (.int .i64 x.Q1d.Q6B),.val (.int .i64 x.Q1d.Q2q.Q4e),.val (.int .i64 x.Q1d.Q2q.Q2H),.val (.int .i64 x.Q1d.Q2q.Q2F),.val (.bool x.Q1d.Q6w),.Q1n .QI 8 x.Qu,.hole,.hole,.hole,.hole,.hole,.hole,.hole,.hole,.hole,.hole,.hole,.hole,.hole,.hole,.hole,.hole,.hole,.hole,.hole,.hole,.hole,.hole,.hole,.hole,.hole,.hole,.hole,.hole,.hole,.hole,.hole,.hole,.hole,.hole,.hole,.hole,.hole,.hole,.hole,.hole,.hole,.hole,.hole,.hole,.hole,.hole,.hole,.hole,.hole,.hole,.hole,.hole,.hole,.hole,.hole,.hole,.hole,.hole,.hole,.hole,.hole,.hole,.hole,.hole,.hole,.hole,.hole,.hole,.hole,.hole,.hole,.hole,.hole,.hole,.hole,.hole,.hole,.hole,.hole,.hole,.hole,.hole,.hole,.hole,.hole,.hole,.hole,.hole,.hole,.hole,.hole,.hole,.hole,.hole,.hole,.hole,.hole,.hole,.hole,.hole,.hole,.hole,.hole,.hole,.hole,.hole,.hole,.hole,.hole,.hole,.hole,.hole,.hole,.hole,.hole,.hole,.hole,.hole,.hole,.hole,.hole,.hole,.hole,.hole,.hole,.hole,.hole,.hole,.hole,.hole,.hole,.hole,.hole,.hole,.hole,.hole,.hole,.hole,.hole,.hole,.hole,.hole,.hole,.hole,.hole,.hole,.hole,.hole,.hole,.hole,.hole,.hole,.hole,.hole,.hole,.hole,.hole,.hole,.hole,.hole,.hole,.hole,.hole,.hole,.hole,.hole,.hole,.hole,.hole,.hole,.hole,.hole,.hole,.hole,.hole,.hole,.hole,.hole,.hole,.hole,.hole,.hole,.hole,.hole,.hole,.hole,.hole,.hole,.hole,.hole,.hole,.hole,.hole,.hole,.hole,.hole,.hole,.hole,.hole,.hole,.hole,.hole,.hole,.hole,.hole,.hole,.hole,.hole,.hole,.hole,.hole,.hole,.hole,.hole,.hole,.hole,.hole,.hole,.hole,.hole,.hole,.hole,.hole,.hole,.hole,.hole,.hole,.hole,.hole,.hole,.hole,.hole,.hole,.hole,.hole,.hole,.hole,.hole,.hole,.hole,.hole,.hole,.hole,.hole,.hole,.hole,.hole,.hole,.hole,.hole,.hole,.hole,.hole,.hole,.hole,.hole,.hole,.hole,.hole,.hole,.hole,.hole,.hole,.hole,.hole,.hole,.hole,.hole,.hole,.hole,.hole,.hole,.hole,.hole,.hole,.hole,.hole,.hole,.hole,.hole,.hole,.hole,.hole,.hole,.hole,.hole,.hole,.hole,.hole,.hole,.hole,.hole,.hole,.hole,.hole,.hole,.hole,.hole,.hole,.hole,.hole,.hole,.hole,.hole,.hole,.hole,.hole,.hole,.hole,.hole,.hole,.hole,.hole,.hole,.hole,.hole,.hole,.hole,.hole,.hole,.hole,.hole,.hole,.hole,.hole,.hole,.hole,.hole,.hole,.hole,.hole,.hole,.hole,.hole,.hole,.val (.int .i64 x.Q61),.val (.int .u64 x.Q2I.Q18.QO),.val (.int .i64 x.Q2I.Q18.Q18),.val (.int .u64 x.Q2I.Q3g),.val (.int .i64 x.Q2I.QY.Q2Y),.val (.int .i64 x.Q2I.QY.Q2l),.val (.int .i64 x.Q2I.QY.Q2k),.val (.int .i64 x.Q2I.Q1y),.val (.int .i64 x.Q2I.Q1C),.val (.int .i64 x.Q2I.Q2o),.val (.int .i64 x.Q2I.Q2q.Q4e),.val (.int .i64 x.Q2I.Q2q.Q2H),.val (.int .i64 x.Q2I.Q2q.Q2F),.ref 1 x.Qb7,.ref 5 x.QaI,.val (.int .i64 x.Q8L),.val (.int .i64 x.Q6s.fv),.val (.bool x.Q6s.fis),.val (.int .i64 x.Q5Z),.Q2d .Q2W x.Q4T]
def Q1.ls:List (Lf UC):= [.int .u64,.int .i64,.int .i64,.int .i64,.int .i64,.int .i64,.int .i64,.int .i64,.bool,.int .i64,.int .i64,.int .i64,.int .i64,.bool,.bool,.int .i64,.int .i64,.int .i64,.int .i64,.int .i64,.int .i64,.int .i64,.bool,.Q1n .QI 8,.hole,.hole,.hole,.hole,.hole,.hole,.hole,.hole,.hole,.hole,.hole,.hole,.hole,.hole,.hole,.hole,.hole,.hole,.hole,.hole,.hole,.hole,.hole,.hole,.hole,.hole,.hole,.hole,.hole,.hole,.hole,.hole,.hole,.hole,.hole,.hole,.hole,.hole,.hole,.hole,.hole,.hole,.hole,.hole,.hole,.hole,.hole,.hole,.hole,.hole,.hole,.hole,.hole,.hole,.hole,.hole,.hole,.hole,.hole,.hole,.hole,.hole,.hole,.hole,.hole,.hole,.hole,.hole,.hole,.hole,.hole,.hole,.hole,.hole,.hole,.hole,.hole,.hole,.hole,.hole,.hole,.hole,.hole,.hole,.hole,.hole,.hole,.hole,.hole,.hole,.hole,.hole,.hole,.hole,.hole,.hole,.hole,.hole,.hole,.hole,.hole,.hole,.hole,.hole,.hole,.hole,.hole,.hole,.hole,.hole,.hole,.hole,.hole,.hole,.hole,.hole,.hole,.hole,.hole,.hole,.hole,.hole,.hole,.hole,.hole,.hole,.hole,.hole,.hole,.hole,.hole,.hole,.hole,.hole,.hole,.hole,.hole,.hole,.hole,.hole,.hole,.hole,.hole,.hole,.hole,.hole,.hole,.hole,.hole,.hole,.hole,.hole,.hole,.hole,.hole,.hole,.hole,.hole,.hole,.hole,.hole,.hole,.hole,.hole,.hole,.hole,.hole,.hole,.hole,.hole,.hole,.hole,.hole,.hole,.hole,.hole,.hole,.hole,.hole,.hole,.hole,.hole,.hole,.hole,.hole,.hole,.hole,.hole,.hole,.hole,.hole,.hole,.hole,.hole,.hole,.hole,.hole,.hole,.hole,.hole,.hole,.hole,.hole,.hole,.hole,.hole,.hole,.hole,.hole,.hole,.hole,.hole,.hole,.hole,.hole,.hole,.hole,.hole,.hole,.hole,.hole,.hole,.hole,.hole,.hole,.hole,.hole,.hole,.hole,.hole,.hole,.hole,.hole,.hole,.hole,.hole,.hole,.hole,.hole,.hole,.hole,.hole,.hole,.hole,.hole,.hole,.hole,.hole,.hole,.hole,.hole,.hole,.hole,.hole,.hole,.hole,.hole,.hole,.hole,.hole,.hole,.hole,.hole,.hole,.hole,.hole,.hole,.hole,.hole,.hole,.hole,.hole,.hole,.hole,.hole,.hole,.hole,.hole,.hole,.hole,.hole,.hole,.hole,.hole,.hole,.hole,.hole,.hole,.hole,.hole,.hole,.hole,.hole,.hole,.hole,.hole,.hole,.hole,.hole,.hole,.hole,.hole,.hole,.hole,.hole,.hole,.hole,.hole,.hole,.hole,.hole,.hole,.hole,.hole,.hole,.hole,.hole,.hole,.hole,.hole,.hole,.hole,.hole,.hole,.hole,.hole,.hole,.hole,.hole,.hole,.hole,.hole,.hole,.hole,.hole,.int .i64,.int .u64,.int .i64,.int .u64,.int .i64,.int .i64,.int .i64,.int .i64,.int .i64,.int .i64,.int .i64,.int .i64,.int .i64,.ref 1 13,.ref 5 13,.int .i64,.int .i64,.bool,.int .i64,.Q2d .Q2W]
def Q1.toS (t:HL D Q1.ls):Q1:=let t6:=t.2.2.2.2.2.2;let t12:=t6.2.2.2.2.2.2;let t18:=t12.2.2.2.2.2.2;let t24:=t18.2.2.2.2.2.2;let t30:=t24.2.2.2.2.2.2;let t36:=t30.2.2.2.2.2.2;let t42:=t36.2.2.2.2.2.2;let t48:=t42.2.2.2.2.2.2;let t54:=t48.2.2.2.2.2.2;let t60:=t54.2.2.2.2.2.2;let t66:=t60.2.2.2.2.2.2;let t72:=t66.2.2.2.2.2.2;let t78:=t72.2.2.2.2.2.2;let t84:=t78.2.2.2.2.2.2;let t90:=t84.2.2.2.2.2.2;let t96:=t90.2.2.2.2.2.2;let t102:=t96.2.2.2.2.2.2;let t108:=t102.2.2.2.2.2.2;let t114:=t108.2.2.2.2.2.2;let t120:=t114.2.2.2.2.2.2;let t126:=t120.2.2.2.2.2.2;let t132:=t126.2.2.2.2.2.2;let t138:=t132.2.2.2.2.2.2;let t144:=t138.2.2.2.2.2.2;let t150:=t144.2.2.2.2.2.2;let t156:=t150.2.2.2.2.2.2;let t162:=t156.2.2.2.2.2.2;let t168:=t162.2.2.2.2.2.2;let t174:=t168.2.2.2.2.2.2;let t180:=t174.2.2.2.2.2.2;let t186:=t180.2.2.2.2.2.2;let t192:=t186.2.2.2.2.2.2;let t198:=t192.2.2.2.2.2.2;let t204:=t198.2.2.2.2.2.2;let t210:=t204.2.2.2.2.2.2;let t216:=t210.2.2.2.2.2.2;let t222:=t216.2.2.2.2.2.2;let t228:=t222.2.2.2.2.2.2;let t234:=t228.2.2.2.2.2.2;let t240:=t234.2.2.2.2.2.2;let t246:=t240.2.2.2.2.2.2;let t252:=t246.2.2.2.2.2.2;let t258:=t252.2.2.2.2.2.2;let t264:=t258.2.2.2.2.2.2;let t270:=t264.2.2.2.2.2.2;let t276:=t270.2.2.2.2.2.2;let t282:=t276.2.2.2.2.2.2;let t288:=t282.2.2.2.2.2.2;let t294:=t288.2.2.2.2.2.2;let t300:=t294.2.2.2.2.2.2;let t306:=t300.2.2.2.2.2.2;let t312:=t306.2.2.2.2.2.2;let t318:=t312.2.2.2.2.2.2;let t324:=t318.2.2.2.2.2.2;let t330:=t324.2.2.2.2.2.2;let t336:=t330.2.2.2.2.2.2;let t342:=t336.2.2.2.2.2.2;let t348:=t342.2.2.2.2.2.2;let t354:=t348.2.2.2.2.2.2;let t360:=t354.2.2.2.2.2.2;let t366:=t360.2.2.2.2.2.2;let t372:=t366.2.2.2.2.2.2;let t378:=t372.2.2.2.2.2.2;⟨⟨t.1,t.2.1,t.2.2.1,t.2.2.2.1,t.2.2.2.2.1,⟨t.2.2.2.2.2.1,t6.1,t6.2.1⟩,t6.2.2.1,t6.2.2.2.1,t6.2.2.2.2.1,t6.2.2.2.2.2.1,t12.1,t12.2.1,t12.2.2.1,t12.2.2.2.1,t12.2.2.2.2.1,t12.2.2.2.2.2.1,t18.1,⟨t18.2.1,t18.2.2.1,t18.2.2.2.1⟩,t18.2.2.2.2.1⟩,t18.2.2.2.2.2.1,t354.2.2.2.2.2.1,⟨⟨t360.1,t360.2.1⟩,t360.2.2.1,⟨t360.2.2.2.1,t360.2.2.2.2.1,t360.2.2.2.2.2.1⟩,t366.1,t366.2.1,t366.2.2.1,⟨t366.2.2.2.1,t366.2.2.2.2.1,t366.2.2.2.2.2.1⟩⟩,t372.1,t372.2.1,t372.2.2.1,⟨t372.2.2.2.1,t372.2.2.2.2.1⟩,t372.2.2.2.2.2.1,t378.1⟩
def Q1.dec (l:List Cel):Option Q1:=match Q3a Q1.ls l with
 |some t=>some (Q1.toS t)
 |none=>none
def Qw.enc (x:Qw):List (Cel):= [.val (.int .i64 x.fat),.val (.int .i64 x.Q72),.val (.int .i64 x.Q6H),.val (.int .i64 x.Q4G)]
def Qw.ls:List (Lf UC):= [.int .i64,.int .i64,.int .i64,.int .i64]
def Qw.toS (t:HL D Qw.ls):Qw:=⟨t.1,t.2.1,t.2.2.1,t.2.2.2.1⟩
def Qw.dec (l:List Cel):Option Qw:=match Q3a Qw.ls l with
 |some t=>some (Qw.toS t)
 |none=>none
def Qj.enc (x:Qj):List (Cel):= [.val (.int .i64 x.Qa3),.val (.string x.fb)]
def Qj.ls:List (Lf UC):= [.int .i64,.str]
def Qj.toS (t:HL D Qj.ls):Qj:=⟨t.1,t.2.1⟩
def Qj.dec (l:List Cel):Option Qj:=match Q3a Qj.ls l with
 |some t=>some (Qj.toS t)
 |none=>none
def Qn.enc (x:Qn):List (Cel):= [.rsl true 12 2 x.fl.1 0 x.fl.2,.val (.int .i64 x.Q8h)]
def Qn.ls:List (Lf UC):= [.Q7P 12 2,.int .i64]
def Qn.toS (t:HL D Qn.ls):Qn:=⟨t.1,t.2.1⟩
def Qn.dec (l:List Cel):Option Qn:=match Q3a Qn.ls l with
 |some t=>some (Qn.toS t)
 |none=>none
def Q1Q.enc (x:Q1Q):List (Cel):= [.val (.int .i64 x.Q2C),.val (.int .i64 x.Q18),.val (.int .i64 x.Q8T),.val (.int .i64 x.fType),.val (.int .i64 x.Q3w),.val (.string x.Q6a),.val (.int .u64 x.Q1U.QO),.val (.int .i64 x.Q1U.Q2Z),.val (.int .i64 x.Q1U.Q2i),.val (.int .i64 x.Q1U.Q1y),.val (.int .i64 x.Q1U.Q1C),.val (.int .i64 x.Q1U.QY.Q2Y),.val (.int .i64 x.Q1U.QY.Q2l),.val (.int .i64 x.Q1U.QY.Q2k),.val (.bool x.Q1U.Q3u),.val (.int .i64 x.Q1U.Q2j),.val (.int .i64 x.Q1U.Q4v),.val (.int .i64 x.Q1U.Q4D),.val (.int .i64 x.Q1U.Q22),.val (.bool x.Q1U.Q4J),.val (.bool x.Q1U.Q51),.val (.int .i64 x.Q1U.Q5A),.val (.int .i64 x.Q1U.fKp),.val (.int .i64 x.Q1U.fKi),.val (.int .i64 x.Q1U.Q6B),.val (.int .i64 x.Q1U.Q2q.Q4e),.val (.int .i64 x.Q1U.Q2q.Q2H),.val (.int .i64 x.Q1U.Q2q.Q2F),.val (.bool x.Q1U.Q6w)]
def Q1Q.ls:List (Lf UC):= [.int .i64,.int .i64,.int .i64,.int .i64,.int .i64,.str,.int .u64,.int .i64,.int .i64,.int .i64,.int .i64,.int .i64,.int .i64,.int .i64,.bool,.int .i64,.int .i64,.int .i64,.int .i64,.bool,.bool,.int .i64,.int .i64,.int .i64,.int .i64,.int .i64,.int .i64,.int .i64,.bool]
def Q1Q.toS (t:HL D Q1Q.ls):Q1Q:=let t6:=t.2.2.2.2.2.2;let t12:=t6.2.2.2.2.2.2;let t18:=t12.2.2.2.2.2.2;let t24:=t18.2.2.2.2.2.2;⟨t.1,t.2.1,t.2.2.1,t.2.2.2.1,t.2.2.2.2.1,t.2.2.2.2.2.1,⟨t6.1,t6.2.1,t6.2.2.1,t6.2.2.2.1,t6.2.2.2.2.1,⟨t6.2.2.2.2.2.1,t12.1,t12.2.1⟩,t12.2.2.1,t12.2.2.2.1,t12.2.2.2.2.1,t12.2.2.2.2.2.1,t18.1,t18.2.1,t18.2.2.1,t18.2.2.2.1,t18.2.2.2.2.1,t18.2.2.2.2.2.1,t24.1,⟨t24.2.1,t24.2.2.1,t24.2.2.2.1⟩,t24.2.2.2.2.1⟩⟩
def Q1Q.dec (l:List Cel):Option Q1Q:=match Q3a Q1Q.ls l with
 |some t=>some (Q1Q.toS t)
 |none=>none
def Qd.enc (x:Qd):List (Cel):= [.val (.int .i64 x.fkp),.val (.int .i64 x.fki),.val (.int .i64 x.Q8g),.val (.int .i64 x.Q1Z),.val (.int .i64 x.Q4G),.val (.int .i64 x.Q8q),.val (.int .i64 x.Q77)]
def Qd.ls:List (Lf UC):= [.int .i64,.int .i64,.int .i64,.int .i64,.int .i64,.int .i64,.int .i64]
def Qd.toS (t:HL D Qd.ls):Qd:=⟨t.1,t.2.1,t.2.2.1,t.2.2.2.1,t.2.2.2.2.1,t.2.2.2.2.2.1,t.2.2.2.2.2.2.1⟩
def Qd.dec (l:List Cel):Option Qd:=match Q3a Qd.ls l with
 |some t=>some (Qd.toS t)
 |none=>none
def Q8.enc (x:Q8):List (Cel):= [.Q1n .int 15 x.fl,.hole,.hole,.hole,.hole,.hole,.hole,.hole,.hole,.hole,.hole,.hole,.hole,.hole,.hole,.val (.int .i64 x.fn),.val (.int .i64 x.Q7H)]
def Q8.ls:List (Lf UC):= [.Q1n .int 15,.hole,.hole,.hole,.hole,.hole,.hole,.hole,.hole,.hole,.hole,.hole,.hole,.hole,.hole,.int .i64,.int .i64]
def Q8.toS (t:HL D Q8.ls):Q8:=let t6:=t.2.2.2.2.2.2;let t12:=t6.2.2.2.2.2.2;⟨t.1,t12.2.2.2.1,t12.2.2.2.2.1⟩
def Q8.dec (l:List Cel):Option Q8:=match Q3a Q8.ls l with
 |some t=>some (Q8.toS t)
 |none=>none
def Qe.enc (x:Qe):List (Cel):= [.val (.int .i64 x.Q3b.Q1y),.val (.int .i64 x.Q3b.QY.Q2Y),.val (.int .i64 x.Q3b.QY.Q2l),.val (.int .i64 x.Q3b.QY.Q2k),.val (.int .i64 x.Q3b.Q1C),.val (.int .u64 x.Q3b.Q3g),.val (.int .i64 x.Q3b.Q2o),.val (.int .u64 x.Q3b.Q4m.QO),.val (.int .i64 x.Q3b.Q4m.Q18),.val (.int .u64 x.Q3b.Q53.QO),.val (.int .i64 x.Q3b.Q53.Q18),.val (.int .i64 x.Q2q.Q4e),.val (.int .i64 x.Q2q.Q2H),.val (.int .i64 x.Q2q.Q2F),.val (.int .i64 x.Q3w),.val (.int .i64 x.Q6W),.val (.int .i64 x.Q8f)]
def Qe.ls:List (Lf UC):= [.int .i64,.int .i64,.int .i64,.int .i64,.int .i64,.int .u64,.int .i64,.int .u64,.int .i64,.int .u64,.int .i64,.int .i64,.int .i64,.int .i64,.int .i64,.int .i64,.int .i64]
def Qe.toS (t:HL D Qe.ls):Qe:=let t6:=t.2.2.2.2.2.2;let t12:=t6.2.2.2.2.2.2;⟨⟨t.1,⟨t.2.1,t.2.2.1,t.2.2.2.1⟩,t.2.2.2.2.1,t.2.2.2.2.2.1,t6.1,⟨t6.2.1,t6.2.2.1⟩,⟨t6.2.2.2.1,t6.2.2.2.2.1⟩⟩,⟨t6.2.2.2.2.2.1,t12.1,t12.2.1⟩,t12.2.2.1,t12.2.2.2.1,t12.2.2.2.2.1⟩
def Qe.dec (l:List Cel):Option Qe:=match Q3a Qe.ls l with
 |some t=>some (Qe.toS t)
 |none=>none
def Q5.enc (x:Q5):List (Cel):= [.val (.int .u64 x.Q8R.QO),.val (.int .i64 x.Q8R.Q18),.val (.int .i64 x.Q8M),.Q1n .QE 5 x.fl,.hole,.hole,.hole,.hole,.hole,.hole,.hole,.hole,.hole,.hole,.hole,.hole,.hole,.hole,.hole,.hole,.hole,.hole,.hole,.hole,.hole,.hole,.hole,.hole,.hole,.hole,.hole,.hole,.hole,.hole,.hole,.hole,.hole,.hole,.hole,.hole,.hole,.hole,.hole,.hole,.hole,.hole,.hole,.hole,.hole,.hole,.hole,.hole,.hole,.hole,.hole,.hole,.hole,.hole,.hole,.hole,.hole,.hole,.hole,.hole,.hole,.hole,.hole,.hole,.hole,.hole,.hole,.hole,.hole,.hole,.hole,.hole,.hole,.hole,.hole,.hole,.hole,.hole,.hole,.hole,.hole,.hole,.hole,.hole,.val (.int .i64 x.fn)]
def Q5.ls:List (Lf UC):= [.int .u64,.int .i64,.int .i64,.Q1n .QE 5,.hole,.hole,.hole,.hole,.hole,.hole,.hole,.hole,.hole,.hole,.hole,.hole,.hole,.hole,.hole,.hole,.hole,.hole,.hole,.hole,.hole,.hole,.hole,.hole,.hole,.hole,.hole,.hole,.hole,.hole,.hole,.hole,.hole,.hole,.hole,.hole,.hole,.hole,.hole,.hole,.hole,.hole,.hole,.hole,.hole,.hole,.hole,.hole,.hole,.hole,.hole,.hole,.hole,.hole,.hole,.hole,.hole,.hole,.hole,.hole,.hole,.hole,.hole,.hole,.hole,.hole,.hole,.hole,.hole,.hole,.hole,.hole,.hole,.hole,.hole,.hole,.hole,.hole,.hole,.hole,.hole,.hole,.hole,.hole,.int .i64]
def Q5.toS (t:HL D Q5.ls):Q5:=let t6:=t.2.2.2.2.2.2;let t12:=t6.2.2.2.2.2.2;let t18:=t12.2.2.2.2.2.2;let t24:=t18.2.2.2.2.2.2;let t30:=t24.2.2.2.2.2.2;let t36:=t30.2.2.2.2.2.2;let t42:=t36.2.2.2.2.2.2;let t48:=t42.2.2.2.2.2.2;let t54:=t48.2.2.2.2.2.2;let t60:=t54.2.2.2.2.2.2;let t66:=t60.2.2.2.2.2.2;let t72:=t66.2.2.2.2.2.2;let t78:=t72.2.2.2.2.2.2;let t84:=t78.2.2.2.2.2.2;⟨⟨t.1,t.2.1⟩,t.2.2.1,t.2.2.2.1,t84.2.2.2.2.1⟩
def Q5.dec (l:List Cel):Option Q5:=match Q3a Q5.ls l with
 |some t=>some (Q5.toS t)
 |none=>none
def Qh.enc (x:Qh):List (Cel):= [.val (.int .i64 x.fsync.fType),.val (.int .i64 x.fsync.Q2i),.val (.int .i64 x.fsync.Q2H),.val (.int .i64 x.fsync.Q4L),.val (.int .u64 x.fsync.Q25.QO),.val (.int .i64 x.fsync.Q25.Q18),.val (.int .i64 x.fsync.Q3w),.val (.int .i64 x.fsync.Q63),.val (.int .i64 x.fsync.Q4n),.val (.int .u64 x.fsync.Q36.QO),.val (.int .i64 x.fsync.Q36.Q18),.val (.int .i64 x.fsync.Q4e),.val (.int .i64 x.fsync.Q1y),.val (.int .i64 x.fsync.QY.Q2Y),.val (.int .i64 x.fsync.QY.Q2l),.val (.int .i64 x.fsync.QY.Q2k),.val (.int .i64 x.fsync.Q1C),.val (.int .u64 x.fsync.Q3g),.val (.int .i64 x.fsync.Q2o),.val (.int .i64 x.fsync.Q2F),.val (.int .i64 x.fsync.Q3E),.val (.int .i64 x.fsync.Q5t),.val (.int .i64 x.fsync.Q4x),.val (.int .i64 x.Q2m.fType),.val (.int .i64 x.Q2m.Q2i),.val (.int .i64 x.Q2m.Q2H),.val (.int .i64 x.Q2m.Q4L),.val (.int .u64 x.Q2m.Q25.QO),.val (.int .i64 x.Q2m.Q25.Q18),.val (.int .i64 x.Q2m.Q3w),.val (.int .i64 x.Q2m.Q63),.val (.int .i64 x.Q2m.Q4n),.val (.int .u64 x.Q2m.Q36.QO),.val (.int .i64 x.Q2m.Q36.Q18),.val (.int .i64 x.Q2m.Q4e),.val (.int .i64 x.Q2m.Q1y),.val (.int .i64 x.Q2m.QY.Q2Y),.val (.int .i64 x.Q2m.QY.Q2l),.val (.int .i64 x.Q2m.QY.Q2k),.val (.int .i64 x.Q2m.Q1C),.val (.int .u64 x.Q2m.Q3g),.val (.int .i64 x.Q2m.Q2o),.val (.int .i64 x.Q2m.Q2F),.val (.int .i64 x.Q2m.Q3E),.val (.int .i64 x.Q2m.Q5t),.val (.int .i64 x.Q2m.Q4x),.val (.int .i64 x.fat),.val (.bool x.Q8B),.val (.bool x.Q5s)]
def Qh.ls:List (Lf UC):= [.int .i64,.int .i64,.int .i64,.int .i64,.int .u64,.int .i64,.int .i64,.int .i64,.int .i64,.int .u64,.int .i64,.int .i64,.int .i64,.int .i64,.int .i64,.int .i64,.int .i64,.int .u64,.int .i64,.int .i64,.int .i64,.int .i64,.int .i64,.int .i64,.int .i64,.int .i64,.int .i64,.int .u64,.int .i64,.int .i64,.int .i64,.int .i64,.int .u64,.int .i64,.int .i64,.int .i64,.int .i64,.int .i64,.int .i64,.int .i64,.int .u64,.int .i64,.int .i64,.int .i64,.int .i64,.int .i64,.int .i64,.bool,.bool]
def Qh.toS (t:HL D Qh.ls):Qh:=let t6:=t.2.2.2.2.2.2;let t12:=t6.2.2.2.2.2.2;let t18:=t12.2.2.2.2.2.2;let t24:=t18.2.2.2.2.2.2;let t30:=t24.2.2.2.2.2.2;let t36:=t30.2.2.2.2.2.2;let t42:=t36.2.2.2.2.2.2;let t48:=t42.2.2.2.2.2.2;⟨⟨t.1,t.2.1,t.2.2.1,t.2.2.2.1,⟨t.2.2.2.2.1,t.2.2.2.2.2.1⟩,t6.1,t6.2.1,t6.2.2.1,⟨t6.2.2.2.1,t6.2.2.2.2.1⟩,t6.2.2.2.2.2.1,t12.1,⟨t12.2.1,t12.2.2.1,t12.2.2.2.1⟩,t12.2.2.2.2.1,t12.2.2.2.2.2.1,t18.1,t18.2.1,t18.2.2.1,t18.2.2.2.1,t18.2.2.2.2.1⟩,⟨t18.2.2.2.2.2.1,t24.1,t24.2.1,t24.2.2.1,⟨t24.2.2.2.1,t24.2.2.2.2.1⟩,t24.2.2.2.2.2.1,t30.1,t30.2.1,⟨t30.2.2.1,t30.2.2.2.1⟩,t30.2.2.2.2.1,t30.2.2.2.2.2.1,⟨t36.1,t36.2.1,t36.2.2.1⟩,t36.2.2.2.1,t36.2.2.2.2.1,t36.2.2.2.2.2.1,t42.1,t42.2.1,t42.2.2.1,t42.2.2.2.1⟩,t42.2.2.2.2.1,t42.2.2.2.2.2.1,t48.1⟩
def Qh.dec (l:List Cel):Option Qh:=match Q3a Qh.ls l with
 |some t=>some (Qh.toS t)
 |none=>none
def Q10.enc (x:Q10):List (Cel):= [.val (.int .i64 x.Q5p),.val (.int .i64 x.fat),.val (.bool x.Q7j),.val (.bool x.Q5Q)]
def Q10.ls:List (Lf UC):= [.int .i64,.int .i64,.bool,.bool]
def Q10.toS (t:HL D Q10.ls):Q10:=⟨t.1,t.2.1,t.2.2.1,t.2.2.2.1⟩
def Q10.dec (l:List Cel):Option Q10:=match Q3a Q10.ls l with
 |some t=>some (Q10.toS t)
 |none=>none
def Q6.enc (x:Q6):List (Cel):= [.val (.int .u64 x.Q5F.QO),.val (.int .i64 x.Q5F.Q18),.val (.int .i64 x.Q5X),.val (.int .i64 x.fr.Q5p),.val (.int .i64 x.fr.fat),.val (.bool x.fr.Q7j),.val (.bool x.fr.Q5Q)]
def Q6.ls:List (Lf UC):= [.int .u64,.int .i64,.int .i64,.int .i64,.int .i64,.bool,.bool]
def Q6.toS (t:HL D Q6.ls):Q6:=⟨⟨t.1,t.2.1⟩,t.2.2.1,⟨t.2.2.2.1,t.2.2.2.2.1,t.2.2.2.2.2.1,t.2.2.2.2.2.2.1⟩⟩
def Q6.dec (l:List Cel):Option Q6:=match Q3a Q6.ls l with
 |some t=>some (Q6.toS t)
 |none=>none
def Q7.enc (x:Q7):List (Cel):= [.val (.int .u64 x.Q5F.QO),.val (.int .i64 x.Q5F.Q18),.val (.int .i64 x.Q5X),.val (.int .i64 x.Q5p),.val (.int .i64 x.fat),.val (.bool x.Q7j),.val (.bool x.Q5Q),.val (.bool x.Q6c),.val (.bool x.Qap),.val (.int .i64 x.Q2b.fType),.val (.int .i64 x.Q2b.Q2i),.val (.int .i64 x.Q2b.Q2H),.val (.int .i64 x.Q2b.Q4L),.val (.int .u64 x.Q2b.Q25.QO),.val (.int .i64 x.Q2b.Q25.Q18),.val (.int .i64 x.Q2b.Q3w),.val (.int .i64 x.Q2b.Q63),.val (.int .i64 x.Q2b.Q4n),.val (.int .u64 x.Q2b.Q36.QO),.val (.int .i64 x.Q2b.Q36.Q18),.val (.int .i64 x.Q2b.Q4e),.val (.int .i64 x.Q2b.Q1y),.val (.int .i64 x.Q2b.QY.Q2Y),.val (.int .i64 x.Q2b.QY.Q2l),.val (.int .i64 x.Q2b.QY.Q2k),.val (.int .i64 x.Q2b.Q1C),.val (.int .u64 x.Q2b.Q3g),.val (.int .i64 x.Q2b.Q2o),.val (.int .i64 x.Q2b.Q2F),.val (.int .i64 x.Q2b.Q3E),.val (.int .i64 x.Q2b.Q5t),.val (.int .i64 x.Q2b.Q4x),.val (.int .i64 x.fback)]
def Q7.ls:List (Lf UC):= [.int .u64,.int .i64,.int .i64,.int .i64,.int .i64,.bool,.bool,.bool,.bool,.int .i64,.int .i64,.int .i64,.int .i64,.int .u64,.int .i64,.int .i64,.int .i64,.int .i64,.int .u64,.int .i64,.int .i64,.int .i64,.int .i64,.int .i64,.int .i64,.int .i64,.int .u64,.int .i64,.int .i64,.int .i64,.int .i64,.int .i64,.int .i64]
def Q7.toS (t:HL D Q7.ls):Q7:=let t6:=t.2.2.2.2.2.2;let t12:=t6.2.2.2.2.2.2;let t18:=t12.2.2.2.2.2.2;let t24:=t18.2.2.2.2.2.2;let t30:=t24.2.2.2.2.2.2;⟨⟨t.1,t.2.1⟩,t.2.2.1,t.2.2.2.1,t.2.2.2.2.1,t.2.2.2.2.2.1,t6.1,t6.2.1,t6.2.2.1,⟨t6.2.2.2.1,t6.2.2.2.2.1,t6.2.2.2.2.2.1,t12.1,⟨t12.2.1,t12.2.2.1⟩,t12.2.2.2.1,t12.2.2.2.2.1,t12.2.2.2.2.2.1,⟨t18.1,t18.2.1⟩,t18.2.2.1,t18.2.2.2.1,⟨t18.2.2.2.2.1,t18.2.2.2.2.2.1,t24.1⟩,t24.2.1,t24.2.2.1,t24.2.2.2.1,t24.2.2.2.2.1,t24.2.2.2.2.2.1,t30.1,t30.2.1⟩,t30.2.2.1⟩
def Q7.dec (l:List Cel):Option Q7:=match Q3a Q7.ls l with
 |some t=>some (Q7.toS t)
 |none=>none
def QL.enc (x:QL):List (Cel):= [.val (.int .i64 x.fType),.val (.string x.Q4I)]
def QL.ls:List (Lf UC):= [.int .i64,.str]
def QL.toS (t:HL D QL.ls):QL:=⟨t.1,t.2.1⟩
def QL.dec (l:List Cel):Option QL:=match Q3a QL.ls l with
 |some t=>some (QL.toS t)
 |none=>none
def Q23.enc (x:Q23):List (Cel):= [.val (.int .u64 x.Q4P.QO),.val (.int .i64 x.Q4P.Q18),.val (.int .i64 x.Q5p)]
def Q23.ls:List (Lf UC):= [.int .u64,.int .i64,.int .i64]
def Q23.toS (t:HL D Q23.ls):Q23:=⟨⟨t.1,t.2.1⟩,t.2.2.1⟩
def Q23.dec (l:List Cel):Option Q23:=match Q3a Q23.ls l with
 |some t=>some (Q23.toS t)
 |none=>none
def Q8u:List Cel->Option UInt8
 | [.val (.int .u8 n)]=>some (UInt8.ofNat n.toNat)
 |_=>none
def Q73:List Cel->Option (List (Int))
 | [c]=>Z2H (C:=UC) (D:=D) .int c
 |_=>none
def Q7K:List Cel->Option (Int)
 | [c]=>Q6R .i64 c
 |_=>none
def Q7d:List Cel->Option (Bool)
 | [c]=>Z3K c
 |_=>none
def Q4W:List Cel->Option (Option (Qv))
 | [c]=>Z4Q (C:=UC) (D:=D) .Q16 c
 |_=>none
def Q7N:List Cel->Option (Int)
 | [c]=>Q6R .u64 c
 |_=>none
def Q59:List Cel->Option (Option Nat)
 | [c]=>Q7l (C:=UC) (D:=D) 9 13 c
 |_=>none
def Q4X:List Cel->Option (List (Qj))
 | [c]=>Z2H (C:=UC) (D:=D) .QQ c
 |_=>none
def Q71:List Cel->Option (List (Int))
 | [c]=>Z2H (C:=UC) (D:=D) .u64 c
 |_=>none
def ofT (t:Nat):Option UC:=match t with|2=>some .int|3=>some .int|4=>some .bool|5=>some .u8|6=>some .u8|12=>some .u64|30=>some .int|36=>some .Q40|42=>some .u64|44=>some .Q2y|46=>some .Q3U|48=>some .Q11|51=>some .Q1j|55=>some .Q4d|65=>some .Q2U|74=>some .Qo|82=>some .Qm|84=>some .Q16|101=>some .Q1L|106=>some .Q27|108=>some .QJ|116=>some .Q1x|124=>some .Q1g|125=>some .Q3d|134=>some .Q3k|158=>some .Q2W|161=>some .QQ|164=>some .QR|169=>some .QE|174=>some .QS|176=>some .Q3j|178=>some .Qy|180=>some .QF|199=>some .Q1P|216=>some .Q1m|219=>some .Q1o|258=>some .Q45|269=>some .u64|314=>some .u8|315=>some .u8|_=>none
def U:QV where
 C:=UC
 D:=D
 dft:=λu=>match u with| .u8=>0| .Q40=>[]| .int=>0| .Q1j=>Qk.zero| .Q11=>Qb.zero| .Q2y=>QU.zero| .Q3U=>Q1u.zero| .Qo=>Qa.zero| .bool=>false| .Qm=>Q9.zero| .QI=>Qc.zero| .Q1L=>QT.zero| .Q27=>Q1b.zero| .QJ=>Qg.zero| .Q2W=>Q12.zero| .QQ=>Qj.zero| .QE=>Qe.zero| .Q16=>Qv.zero| .Q1m=>QL.zero| .Q1P=>none| .u64=>0| .Q4d=>Q2D.zero| .Qi=>Q3.zero| .Q2U=>none| .Q1x=>QX.zero| .Q4=>Q1.zero| .Q1g=>Qw.zero| .Q13=>Qn.zero| .Q3d=>[]| .Q3k=>Q1Q.zero| .QR=>Qd.zero| .QC=>Q8.zero| .Ql=>Q5.zero| .QS=>Qh.zero| .Q3j=>Q10.zero| .Qy=>Q6.zero| .QF=>Q7.zero| .Q45=>Q23.zero| .Q1o=>[]
 size:=λu=>match u with| .u8=>1| .Q40=>1| .int=>1| .Q1j=>3| .Q11=>23| .Q2y=>3| .Q3U=>3| .Qo=>3| .bool=>1| .Qm=>2| .QI=>42| .Q1L=>1| .Q27=>2| .QJ=>23| .Q2W=>7| .QQ=>2| .QE=>17| .Q16=>11| .Q1m=>2| .Q1P=>1| .u64=>1| .Q4d=>29| .Qi=>11| .Q2U=>1| .Q1x=>12| .Q4=>379| .Q1g=>4| .Q13=>2| .Q3d=>1| .Q3k=>29| .QR=>7| .QC=>17| .Ql=>89| .QS=>49| .Q3j=>4| .Qy=>7| .QF=>33| .Q45=>3| .Q1o=>1
 enc:=λu=>match u with
  | .u8=>λx=>[.val (.int .u8 x.toNat)]
  | .Q40=>λx=>[.isl .none .int x]
  | .int=>λx=>[.val (.int .i64 x)]
  | .Q1j=>Qk.enc
  | .Q11=>Qb.enc
  | .Q2y=>QU.enc
  | .Q3U=>Q1u.enc
  | .Qo=>Qa.enc
  | .bool=>λx=>[.val (.bool x)]
  | .Qm=>Q9.enc
  | .QI=>Qc.enc
  | .Q1L=>QT.enc
  | .Q27=>Q1b.enc
  | .QJ=>Qg.enc
  | .Q2W=>Q12.enc
  | .QQ=>Qj.enc
  | .QE=>Qe.enc
  | .Q16=>Qv.enc
  | .Q1m=>QL.enc
  | .Q1P=>λx=>[.Q37 .Q16 x]
  | .u64=>λx=>[.val (.int .u64 x)]
  | .Q4d=>Q2D.enc
  | .Qi=>Q3.enc
  | .Q2U=>λx=>[.ref 9 x]
  | .Q1x=>QX.enc
  | .Q4=>Q1.enc
  | .Q1g=>Qw.enc
  | .Q13=>Qn.enc
  | .Q3d=>λx=>[.isl .none .QQ x]
  | .Q3k=>Q1Q.enc
  | .QR=>Qd.enc
  | .QC=>Q8.enc
  | .Ql=>Q5.enc
  | .QS=>Qh.enc
  | .Q3j=>Q10.enc
  | .Qy=>Q6.enc
  | .QF=>Q7.enc
  | .Q45=>Q23.enc
  | .Q1o=>λx=>[.isl .none .u64 x]
 dec:=λu=>match u with
  | .u8=>Q8u
  | .Q40=>Q73
  | .int=>Q7K
  | .Q1j=>Qk.dec
  | .Q11=>Qb.dec
  | .Q2y=>QU.dec
  | .Q3U=>Q1u.dec
  | .Qo=>Qa.dec
  | .bool=>Q7d
  | .Qm=>Q9.dec
  | .QI=>Qc.dec
  | .Q1L=>QT.dec
  | .Q27=>Q1b.dec
  | .QJ=>Qg.dec
  | .Q2W=>Q12.dec
  | .QQ=>Qj.dec
  | .QE=>Qe.dec
  | .Q16=>Qv.dec
  | .Q1m=>QL.dec
  | .Q1P=>Q4W
  | .u64=>Q7N
  | .Q4d=>Q2D.dec
  | .Qi=>Q3.dec
  | .Q2U=>Q59
  | .Q1x=>QX.dec
  | .Q4=>Q1.dec
  | .Q1g=>Qw.dec
  | .Q13=>Qn.dec
  | .Q3d=>Q4X
  | .Q3k=>Q1Q.dec
  | .QR=>Qd.dec
  | .QC=>Q8.dec
  | .Ql=>Q5.dec
  | .QS=>Qh.dec
  | .Q3j=>Q10.dec
  | .Qy=>Q6.dec
  | .QF=>Q7.dec
  | .Q45=>Q23.dec
  | .Q1o=>Q71
 ofType:=ofT
 eq? :=λu v=>if h:u=v then some ⟨h⟩ else none
 plain:=λu=>match u with| .Qi=>false| .Q4=>false| .QC=>false| .Ql=>false|_=>true
 Q5k:=λu=>match u with| .u8=>λl=>some l|_=>λ_=>none
 u8:= .u8
 ofBytes:=λl=>l
 Q9Y:=λt=>match t with|99=>some 10|_=>none
 nf:=13
 famT:=λt=>match t with|121=>some (0,.Q4)|164=>some (1,.QR)|172=>some (2,.Ql)|178=>some (3,.Qy)|180=>some (4,.QF)|167=>some (5,.QC)|174=>some (6,.QS)|124=>some (8,.Q1g)|127=>some (9,.Q13)|_=>none
 nn:=λf=>match f with|7=>false|_=>true
 rowT:=λt=>match t with|74=>some (11,.Qo)|161=>some (12,.QQ)|_=>none
 Q6p:=λv u k=>match v with| .QI=>(match u with| .Q1L=>(bif Nat.beq k 3 then some (λx y=>({ x with Q43:=y}:Qc)) else bif Nat.beq k 4 then some (λx y=>({ x with Q4Z:=y}:Qc)) else bif Nat.beq k 5 then some (λx y=>({ x with Q4E:=y}:Qc)) else bif Nat.beq k 6 then some (λx y=>({ x with fsync:=y}:Qc)) else bif Nat.beq k 7 then some (λx y=>({ x with Q6k:=y}:Qc)) else none)| .Q27=>(bif Nat.beq k 14 then some (λx y=>({ x with Q6x:=y}:Qc)) else bif Nat.beq k 16 then some (λx y=>({ x with Q5n:=y}:Qc)) else none)| .QJ=>(bif Nat.beq k 18 then some (λx y=>({ x with Q2E:=y}:Qc)) else none)|_=>none)|_=>none
abbrev DC {α:Type} (enc:α->List Cel) (ls:List (Lf UC)) (dec:List Cel->Option α):Prop:=∀{l:List Cel} {x:α},dec l=some x->l.length=ls.length/\∀(k:Nat) y,l[k]? =some y->∃z,(enc x)[k]? =some z/\SLe U y z
theorem dcl {α:Type} {ls:List (Lf UC)} {enc:α->List Cel} {dec:List Cel->Option α} (toS:HL D ls->α) (hd:∀l,dec l=match Q3a ls l with|some t=>some (toS t)|none=>none) (he:∀t,enc (toS t)=Q8S ls t) (hb:ls.all (Lf.okN U.nf)=true):DC enc ls dec:=by
 intro l x h
 rw [hd] at h
 split at h
 ·rename_i t ht
  cases h
  rw [he]
  exact Z6t (U:=U) hb ht
 ·cases h
theorem QU.Qz:DC QU.enc QU.ls QU.dec:=dcl (enc:=QU.enc) (dec:=QU.dec) QU.toS (λ_=>by kernel_rfl) (λt=>by kernel_rfl) (by decide)
theorem Q1u.Qz:DC Q1u.enc Q1u.ls Q1u.dec:=dcl (enc:=Q1u.enc) (dec:=Q1u.dec) Q1u.toS (λ_=>by kernel_rfl) (λt=>by kernel_rfl) (by decide)
theorem Qb.Qz:DC Qb.enc Qb.ls Qb.dec:=dcl (enc:=Qb.enc) (dec:=Qb.dec) Qb.toS (λ_=>by kernel_rfl) (λt=>by kernel_rfl) (by decide)
theorem Qk.Qz:DC Qk.enc Qk.ls Qk.dec:=dcl (enc:=Qk.enc) (dec:=Qk.dec) Qk.toS (λ_=>by kernel_rfl) (λt=>by kernel_rfl) (by decide)
theorem Q2D.Qz:DC Q2D.enc Q2D.ls Q2D.dec:=dcl (enc:=Q2D.enc) (dec:=Q2D.dec) Q2D.toS (λ_=>by kernel_rfl) (λt=>by kernel_rfl) (by decide)
theorem Qa.Qz:DC Qa.enc Qa.ls Qa.dec:=dcl (enc:=Qa.enc) (dec:=Qa.dec) Qa.toS (λ_=>by kernel_rfl) (λt=>by kernel_rfl) (by decide)
theorem Q3.Qz:DC Q3.enc Q3.ls Q3.dec:=dcl (enc:=Q3.enc) (dec:=Q3.dec) Q3.toS (λ_=>by kernel_rfl) (λt=>by kernel_rfl) (by decide)
theorem Q9.Qz:DC Q9.enc Q9.ls Q9.dec:=dcl (enc:=Q9.enc) (dec:=Q9.dec) Q9.toS (λ_=>by kernel_rfl) (λt=>by kernel_rfl) (by decide)
theorem Qv.Qz:DC Qv.enc Qv.ls Qv.dec:=dcl (enc:=Qv.enc) (dec:=Qv.dec) Qv.toS (λ_=>by kernel_rfl) (λt=>by kernel_rfl) (by decide)
theorem QT.Qz:DC QT.enc QT.ls QT.dec:=dcl (enc:=QT.enc) (dec:=QT.dec) QT.toS (λ_=>by kernel_rfl) (λt=>by kernel_rfl) (by decide)
theorem Q1b.Qz:DC Q1b.enc Q1b.ls Q1b.dec:=dcl (enc:=Q1b.enc) (dec:=Q1b.dec) Q1b.toS (λ_=>by kernel_rfl) (λt=>by kernel_rfl) (by decide)
theorem Qg.Qz:DC Qg.enc Qg.ls Qg.dec:=dcl (enc:=Qg.enc) (dec:=Qg.dec) Qg.toS (λ_=>by kernel_rfl) (λt=>by kernel_rfl) (by decide)
theorem Qc.Qz:DC Qc.enc Qc.ls Qc.dec:=dcl (enc:=Qc.enc) (dec:=Qc.dec) Qc.toS (λ_=>by kernel_rfl) (λt=>by kernel_rfl) (by decide)
theorem QX.Qz:DC QX.enc QX.ls QX.dec:=dcl (enc:=QX.enc) (dec:=QX.dec) QX.toS (λ_=>by kernel_rfl) (λt=>by kernel_rfl) (by decide)
theorem Q12.Qz:DC Q12.enc Q12.ls Q12.dec:=dcl (enc:=Q12.enc) (dec:=Q12.dec) Q12.toS (λ_=>by kernel_rfl) (λt=>by kernel_rfl) (by decide)
theorem Q1.Qz:DC Q1.enc Q1.ls Q1.dec:=dcl (enc:=Q1.enc) (dec:=Q1.dec) Q1.toS (λ_=>by kernel_rfl) (λt=>by kernel_rfl) (by decide)
theorem Qw.Qz:DC Qw.enc Qw.ls Qw.dec:=dcl (enc:=Qw.enc) (dec:=Qw.dec) Qw.toS (λ_=>by kernel_rfl) (λt=>by kernel_rfl) (by decide)
theorem Qj.Qz:DC Qj.enc Qj.ls Qj.dec:=dcl (enc:=Qj.enc) (dec:=Qj.dec) Qj.toS (λ_=>by kernel_rfl) (λt=>by kernel_rfl) (by decide)
theorem Qn.Qz:DC Qn.enc Qn.ls Qn.dec:=dcl (enc:=Qn.enc) (dec:=Qn.dec) Qn.toS (λ_=>by kernel_rfl) (λt=>by kernel_rfl) (by decide)
theorem Q1Q.Qz:DC Q1Q.enc Q1Q.ls Q1Q.dec:=dcl (enc:=Q1Q.enc) (dec:=Q1Q.dec) Q1Q.toS (λ_=>by kernel_rfl) (λt=>by kernel_rfl) (by decide)
theorem Qd.Qz:DC Qd.enc Qd.ls Qd.dec:=dcl (enc:=Qd.enc) (dec:=Qd.dec) Qd.toS (λ_=>by kernel_rfl) (λt=>by kernel_rfl) (by decide)
theorem Q8.Qz:DC Q8.enc Q8.ls Q8.dec:=dcl (enc:=Q8.enc) (dec:=Q8.dec) Q8.toS (λ_=>by kernel_rfl) (λt=>by kernel_rfl) (by decide)
theorem Qe.Qz:DC Qe.enc Qe.ls Qe.dec:=dcl (enc:=Qe.enc) (dec:=Qe.dec) Qe.toS (λ_=>by kernel_rfl) (λt=>by kernel_rfl) (by decide)
theorem Q5.Qz:DC Q5.enc Q5.ls Q5.dec:=dcl (enc:=Q5.enc) (dec:=Q5.dec) Q5.toS (λ_=>by kernel_rfl) (λt=>by kernel_rfl) (by decide)
theorem Qh.Qz:DC Qh.enc Qh.ls Qh.dec:=dcl (enc:=Qh.enc) (dec:=Qh.dec) Qh.toS (λ_=>by kernel_rfl) (λt=>by kernel_rfl) (by decide)
theorem Q10.Qz:DC Q10.enc Q10.ls Q10.dec:=dcl (enc:=Q10.enc) (dec:=Q10.dec) Q10.toS (λ_=>by kernel_rfl) (λt=>by kernel_rfl) (by decide)
theorem Q6.Qz:DC Q6.enc Q6.ls Q6.dec:=dcl (enc:=Q6.enc) (dec:=Q6.dec) Q6.toS (λ_=>by kernel_rfl) (λt=>by kernel_rfl) (by decide)
theorem Q7.Qz:DC Q7.enc Q7.ls Q7.dec:=dcl (enc:=Q7.enc) (dec:=Q7.dec) Q7.toS (λ_=>by kernel_rfl) (λt=>by kernel_rfl) (by decide)
theorem QL.Qz:DC QL.enc QL.ls QL.dec:=dcl (enc:=QL.enc) (dec:=QL.dec) QL.toS (λ_=>by kernel_rfl) (λt=>by kernel_rfl) (by decide)
theorem Q23.Qz:DC Q23.enc Q23.ls Q23.dec:=dcl (enc:=Q23.enc) (dec:=Q23.dec) Q23.toS (λ_=>by kernel_rfl) (λt=>by kernel_rfl) (by decide)
theorem Q7a {l:List Cel} {x:UInt8} (h:Q8u l=some x):l.length=1/\∀(k:Nat) y,l[k]? =some y->∃z,(U.enc .u8 x)[k]? =some z/\SLe U y z:=by
 unfold Q8u at h
 split at h
 ·cases h
  exact Z1v (U:=U) (Z91 (U:=U) trivial)
 ·cases h
theorem Q6u {l:List Cel} {x:List (Int)} (h:Q73 l=some x):l.length=1/\∀(k:Nat) y,l[k]? =some y->∃z,(U.enc .Q40 x)[k]? =some z/\SLe U y z:=by
 unfold Q73 at h
 split at h
 ·exact Z1v (U:=U) (Z2I h)
 ·cases h
theorem Q6O {l:List Cel} {x:Int} (h:Q7K l=some x):l.length=1/\∀(k:Nat) y,l[k]? =some y->∃z,(U.enc .int x)[k]? =some z/\SLe U y z:=by
 unfold Q7K at h
 split at h
 ·exact Z1v (U:=U) (Z4r h)
 ·cases h
theorem Q6N {l:List Cel} {x:Bool} (h:Q7d l=some x):l.length=1/\∀(k:Nat) y,l[k]? =some y->∃z,(U.enc .bool x)[k]? =some z/\SLe U y z:=by
 unfold Q7d at h
 split at h
 ·exact Z1v (U:=U) (Z5z h)
 ·cases h
theorem Q58 {l:List Cel} {x:Option (Qv)} (h:Q4W l=some x):l.length=1/\∀(k:Nat) y,l[k]? =some y->∃z,(U.enc .Q1P x)[k]? =some z/\SLe U y z:=by
 unfold Q4W at h
 split at h
 ·exact Z1v (U:=U) (Z8r h)
 ·cases h
theorem Q6Q {l:List Cel} {x:Int} (h:Q7N l=some x):l.length=1/\∀(k:Nat) y,l[k]? =some y->∃z,(U.enc .u64 x)[k]? =some z/\SLe U y z:=by
 unfold Q7N at h
 split at h
 ·exact Z1v (U:=U) (Z4r h)
 ·cases h
theorem Q5b {l:List Cel} {x:Option Nat} (h:Q59 l=some x):l.length=1/\∀(k:Nat) y,l[k]? =some y->∃z,(U.enc .Q2U x)[k]? =some z/\SLe U y z:=by
 unfold Q59 at h
 split at h
 ·exact Z1v (U:=U) (Z6D (Nat.le_refl _) h)
 ·cases h
theorem Q57 {l:List Cel} {x:List (Qj)} (h:Q4X l=some x):l.length=1/\∀(k:Nat) y,l[k]? =some y->∃z,(U.enc .Q3d x)[k]? =some z/\SLe U y z:=by
 unfold Q4X at h
 split at h
 ·exact Z1v (U:=U) (Z2I h)
 ·cases h
theorem Q6r {l:List Cel} {x:List (Int)} (h:Q71 l=some x):l.length=1/\∀(k:Nat) y,l[k]? =some y->∃z,(U.enc .Q1o x)[k]? =some z/\SLe U y z:=by
 unfold Q71 at h
 split at h
 ·exact Z1v (U:=U) (Z2I h)
 ·cases h
theorem Q5l {k:Nat} {g:D .QI->D .Q1L->D .QI} (h:U.Q6p .QI .Q1L k=some g):(∀x y,U.dec .QI (Q1v k (U.enc .Q1L y) (U.enc .QI x))=some (g x y))/\k+U.size .Q1L<=U.size .QI:=by
 change (bif Nat.beq k 3 then some (λ(x:D .QI) (y:D .Q1L)=>({ x with Q43:=y}:D .QI)) else bif Nat.beq k 4 then some (λ(x:D .QI) (y:D .Q1L)=>({ x with Q4Z:=y}:D .QI)) else bif Nat.beq k 5 then some (λ(x:D .QI) (y:D .Q1L)=>({ x with Q4E:=y}:D .QI)) else bif Nat.beq k 6 then some (λ(x:D .QI) (y:D .Q1L)=>({ x with fsync:=y}:D .QI)) else bif Nat.beq k 7 then some (λ(x:D .QI) (y:D .Q1L)=>({ x with Q6k:=y}:D .QI)) else none)=some g at h
 cases h3:Nat.beq k 3 with
 |true=>rw [h3] at h;cases h;have:=QH h3;subst this;exact ⟨λx y=>by kernel_rfl,by decide⟩
 |false=>
 rw [h3] at h;simp only [cond_false] at h
 cases h4:Nat.beq k 4 with
 |true=>rw [h4] at h;cases h;have:=QH h4;subst this;exact ⟨λx y=>by kernel_rfl,by decide⟩
 |false=>
 rw [h4] at h;simp only [cond_false] at h
 cases h5:Nat.beq k 5 with
 |true=>rw [h5] at h;cases h;have:=QH h5;subst this;exact ⟨λx y=>by kernel_rfl,by decide⟩
 |false=>
 rw [h5] at h;simp only [cond_false] at h
 cases h6:Nat.beq k 6 with
 |true=>rw [h6] at h;cases h;have:=QH h6;subst this;exact ⟨λx y=>by kernel_rfl,by decide⟩
 |false=>
 rw [h6] at h;simp only [cond_false] at h
 cases h7:Nat.beq k 7 with
 |true=>rw [h7] at h;cases h;have:=QH h7;subst this;exact ⟨λx y=>by kernel_rfl,by decide⟩
 |false=>
 rw [h7] at h;simp only [cond_false] at h
 cases h
theorem Q5m {k:Nat} {g:D .QI->D .Q27->D .QI} (h:U.Q6p .QI .Q27 k=some g):(∀x y,U.dec .QI (Q1v k (U.enc .Q27 y) (U.enc .QI x))=some (g x y))/\k+U.size .Q27<=U.size .QI:=by
 change (bif Nat.beq k 14 then some (λ(x:D .QI) (y:D .Q27)=>({ x with Q6x:=y}:D .QI)) else bif Nat.beq k 16 then some (λ(x:D .QI) (y:D .Q27)=>({ x with Q5n:=y}:D .QI)) else none)=some g at h
 cases h14:Nat.beq k 14 with
 |true=>rw [h14] at h;cases h;have:=QH h14;subst this;exact ⟨λx y=>by kernel_rfl,by decide⟩
 |false=>
 rw [h14] at h;simp only [cond_false] at h
 cases h16:Nat.beq k 16 with
 |true=>rw [h16] at h;cases h;have:=QH h16;subst this;exact ⟨λx y=>by kernel_rfl,by decide⟩
 |false=>
 rw [h16] at h;simp only [cond_false] at h
 cases h
theorem Q5K {k:Nat} {g:D .QI->D .QJ->D .QI} (h:U.Q6p .QI .QJ k=some g):(∀x y,U.dec .QI (Q1v k (U.enc .QJ y) (U.enc .QI x))=some (g x y))/\k+U.size .QJ<=U.size .QI:=by
 change (bif Nat.beq k 18 then some (λ(x:D .QI) (y:D .QJ)=>({ x with Q2E:=y}:D .QI)) else none)=some g at h
 cases h18:Nat.beq k 18 with
 |true=>rw [h18] at h;cases h;have:=QH h18;subst this;exact ⟨λx y=>by kernel_rfl,by decide⟩
 |false=>
 rw [h18] at h;simp only [cond_false] at h
 cases h
theorem Q3X:U.Ok where
 QD u x:=by cases u <;> rfl
 Q52 u x hp:=by cases u <;> first|rfl|(cases hp;done)
 Q49 u l x h:=by
  cases u
  case u8=>exact (Q7a h).1
  case Q40=>exact (Q6u h).1
  case int=>exact (Q6O h).1
  case Q1j=>exact (Qk.Qz h).1
  case Q11=>exact (Qb.Qz h).1
  case Q2y=>exact (QU.Qz h).1
  case Q3U=>exact (Q1u.Qz h).1
  case Qo=>exact (Qa.Qz h).1
  case bool=>exact (Q6N h).1
  case Qm=>exact (Q9.Qz h).1
  case QI=>exact (Qc.Qz h).1
  case Q1L=>exact (QT.Qz h).1
  case Q27=>exact (Q1b.Qz h).1
  case QJ=>exact (Qg.Qz h).1
  case Q2W=>exact (Q12.Qz h).1
  case QQ=>exact (Qj.Qz h).1
  case QE=>exact (Qe.Qz h).1
  case Q16=>exact (Qv.Qz h).1
  case Q1m=>exact (QL.Qz h).1
  case Q1P=>exact (Q58 h).1
  case u64=>exact (Q6Q h).1
  case Q4d=>exact (Q2D.Qz h).1
  case Qi=>exact (Q3.Qz h).1
  case Q2U=>exact (Q5b h).1
  case Q1x=>exact (QX.Qz h).1
  case Q4=>exact (Q1.Qz h).1
  case Q1g=>exact (Qw.Qz h).1
  case Q13=>exact (Qn.Qz h).1
  case Q3d=>exact (Q57 h).1
  case Q3k=>exact (Q1Q.Qz h).1
  case QR=>exact (Qd.Qz h).1
  case QC=>exact (Q8.Qz h).1
  case Ql=>exact (Q5.Qz h).1
  case QS=>exact (Qh.Qz h).1
  case Q3j=>exact (Q10.Qz h).1
  case Qy=>exact (Q6.Qz h).1
  case QF=>exact (Q7.Qz h).1
  case Q45=>exact (Q23.Qz h).1
  case Q1o=>exact (Q6r h).1
 Qz u l x h:=by
  cases u
  case u8=>exact (Q7a h).2
  case Q40=>exact (Q6u h).2
  case int=>exact (Q6O h).2
  case Q1j=>exact (Qk.Qz h).2
  case Q11=>exact (Qb.Qz h).2
  case Q2y=>exact (QU.Qz h).2
  case Q3U=>exact (Q1u.Qz h).2
  case Qo=>exact (Qa.Qz h).2
  case bool=>exact (Q6N h).2
  case Qm=>exact (Q9.Qz h).2
  case QI=>exact (Qc.Qz h).2
  case Q1L=>exact (QT.Qz h).2
  case Q27=>exact (Q1b.Qz h).2
  case QJ=>exact (Qg.Qz h).2
  case Q2W=>exact (Q12.Qz h).2
  case QQ=>exact (Qj.Qz h).2
  case QE=>exact (Qe.Qz h).2
  case Q16=>exact (Qv.Qz h).2
  case Q1m=>exact (QL.Qz h).2
  case Q1P=>exact (Q58 h).2
  case u64=>exact (Q6Q h).2
  case Q4d=>exact (Q2D.Qz h).2
  case Qi=>exact (Q3.Qz h).2
  case Q2U=>exact (Q5b h).2
  case Q1x=>exact (QX.Qz h).2
  case Q4=>exact (Q1.Qz h).2
  case Q1g=>exact (Qw.Qz h).2
  case Q13=>exact (Qn.Qz h).2
  case Q3d=>exact (Q57 h).2
  case Q3k=>exact (Q1Q.Qz h).2
  case QR=>exact (Qd.Qz h).2
  case QC=>exact (Q8.Qz h).2
  case Ql=>exact (Q5.Qz h).2
  case QS=>exact (Qh.Qz h).2
  case Q3j=>exact (Q10.Qz h).2
  case Qy=>exact (Q6.Qz h).2
  case QF=>exact (Q7.Qz h).2
  case Q45=>exact (Q23.Qz h).2
  case Q1o=>exact (Q6r h).2
 Q5k u xs bs h:=by
  cases u <;> first
   |(cases h;done)
   |(cases h;exact ⟨rfl,rfl,λi hi=>rfl⟩)
 Q6p v u k g h:=by
  cases v <;> first
   |(cases h;done)
   |(cases u <;> first|(cases h;done)|exact Q5l h|exact Q5m h|exact Q5K h)
 u8:=rfl
 ofBytes bs:=⟨rfl,λi hi=>rfl⟩
theorem Q2t:U.Pure:=λu x=>by cases u <;> rfl
theorem QaT {l:List U.S} (h:Q2Q U Tryz.prog 3 l):∃x:D .int,U.dec .int l=some x/\Q2Q U Tryz.prog 3 (U.enc .int x):=by
 obtain ⟨x,rfl,w⟩:=h.toInt Tryz.underlying3
 exact ⟨x,by kernel_rfl,h⟩
theorem QaN {l:List U.S} (h:Q2Q U Tryz.prog 36 l):∃x:D .Q40,U.dec .Q40 l=some x/\Q2Q U Tryz.prog 36 (U.enc .Q40 x):=by
 obtain ⟨x,rfl,w⟩:=h.Q8n (u:=UC.int) Tryz.underlying36 rfl
 exact ⟨x,by kernel_rfl,h⟩
def dTs (e:TypeId):Bool:= [3,36].contains e
theorem decs:Q9o U Tryz.prog dTs:=by
 intro e u l hd hu h
 have hd:e∈([3,36]:List Nat):=List.contains_iff_mem.1 hd
 have hu:ofT e=some u:=hu
 simp only [List.mem_cons,List.not_mem_nil,or_false] at hd
 rcases hd with rfl|rfl
 ·cases hu;exact QaT h
 ·cases hu;exact QaN h
theorem mixed:Tryz.prog.follows .mixedOrders=true:=by kernel_rfl
end Go.Proofs.YtbfinmemoemakaaGreat
