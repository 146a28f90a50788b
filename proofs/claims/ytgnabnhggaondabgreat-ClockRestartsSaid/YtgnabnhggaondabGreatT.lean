/- Typed forms of the functions that these statements reach, proved equal to what the model runs, and laws over them. -/
import Derived.Test.YtgnabnhggaondabGreatRfD
import Derived.KernelRfl
import Derived.Test.YtgnabnhggaondabGreatProg
namespace Go.Proofs.YtgnabnhggaondabGreat
open Go.Rf
set_option linter.unusedVariables false
set_option linter.unusedSimpArgs false
set_option maxRecDepth 100000
structure Qy where
 Q1M:Int
 Q1r:Int
 Q1B:Int
structure Q1d where
 Q37:Int
 Q1W:Int
 Q1N:Int
structure Q8 where
 QF:Int
 Qv:Int
 Q1v:Int
 Q17:Int
 Q18:Int
 Qu:Qy
 Q25:Bool
 Q3z:Int
 Q2G:Int
 Q2E:Int
 Q3b:Int
 Q4g:Bool
 Q4C:Bool
 Q3M:Int
 fKp:Int
 fKi:Int
 Q55:Int
 Q1b:Q1d
 Q6j:Bool
structure Qz where
 Q5j:Int
 QW:Int
 Q6O:Int
 fType:Int
 Q36:Int
 Q3h:ByteArray
 QS:Q8
structure Qf where
 QF:Int
 QW:Int
structure Q9 where
 fType:Int
 Q1v:Int
 Q1W:Int
 Q4B:Int
 Q1G:Qf
 Q36:Int
 Q6y:Int
 Q4h:Int
 Q2i:Qf
 Q37:Int
 Q17:Int
 Qu:Qy
 Q18:Int
 Q2Q:Int
 Q2g:Int
 Q1N:Int
 Q2X:Int
 Q4X:Int
 Q3E:Int
structure Qi where
 fType:Int
 Q2y:ByteArray
structure QD where
 fHow:Int
 fN:Int
 fAt:Int
 fBy:Int
 fE:Qz
 fM:Q9
 fL:List (Qi)
structure QT where
 Q6V:Int
structure Q16 where
 fv:Int
 fis:Bool
structure Q5 where
 Q1u:Int
 Q4O:Option Nat
 Q5K:Option Nat
 Q4j:QT
 Q5n:QT
 Q4Y:QT
 fsync:QT
 Q79:QT
 Q6h:Int
 Q8d:Int
 Q65:Int
 Q6q:Option Nat
 Q48:Option Nat
 Q6U:Option Nat
 Q7f:Q16
 Q3g:Q16
 Q2C:Q9
 Q4Z:Bool
structure QY where
 QW:Qf
 Q2Q:Int
 Qu:Qy
 Q17:Int
 Q18:Int
 Q2g:Int
 Q1b:Q1d
structure QJ where
 Q5j:Int
 QW:Int
 fN:Int
 Qb8:Bool
 fType:Int
 Q36:Int
 Q3h:ByteArray
structure Q1 where
 Qo:Q8
 Qe:Nat->Q5
 Q5s:Int
 Q2d:QY
 Q6K:Option Nat
 Q6W:Option Nat
 Q5d:Int
 Q48:Q16
 Q2h:Int
 Q2j:List (QJ)
structure Qj where
 Q17:Int
 Qu:Qy
 Q18:Int
 Q2Q:Int
 Q2g:Int
 Q4U:Qf
 Q5A:Qf
structure Qd where
 Q3r:Qj
 Q1b:Q1d
 Q36:Int
 Q8e:Int
 Q9V:Int
structure Qb where
 Qbe:Qf
 QaB:Int
 fl:Nat->Qd
 fn:Int
structure Qp where
 fkp:Int
 fki:Int
 Q9R:Int
 Q1u:Int
 Q8q:Int
 Qan:Int
 Q8s:Int
structure Qh where
 fl:Nat->Int
 fn:Int
 Q4W:Int
structure QB where
 fsync:Q9
 Q2r:Q9
 fat:Int
 Qaa:Bool
 Q6p:Bool
structure Q12 where
 Q60:Int
 fat:Int
 Q8G:Bool
 Q6D:Bool
structure Qg where
 Q5V:Qf
 Q6Y:Int
 fr:Q12
structure Qc where
 Q5V:Qf
 Q6Y:Int
 Q60:Int
 fat:Int
 Q8G:Bool
 Q6D:Bool
 Q4Z:Bool
 Q9v:Bool
 Q1Q:Q9
 Qb6:Int
structure Q29 where
 Q5t:Qf
 Q60:Int
structure Q1w where
 QS:Q8
 Q39:QY
 QaG:Int
 Qbp:Int
 Q6O:Int
 QbW:Int
 Q4g:Int
 QW:Int
abbrev Qy.Q99 (x:Qy) (v:Int):Qy:={ x with Q1M:=v}
abbrev Qy.Q9I (x:Qy) (v:Int):Qy:={ x with Q1r:=v}
abbrev Q8.Q9d (x:Q8) (v:Int):Q8:={ x with Qv:=v}
abbrev Q8.Q7r (x:Q8) (v:Int):Q8:={ x with Q1v:=v}
abbrev Q8.Q4K (x:Q8) (v:Int):Q8:={ x with Q17:=v}
abbrev Q8.Q56 (x:Q8) (v:Int):Q8:={ x with Q18:=v}
abbrev Q8.Q4L (x:Q8) (v:Qy):Q8:={ x with Qu:=v}
abbrev Q8.Q7C (x:Q8) (v:Bool):Q8:={ x with Q25:=v}
abbrev Q8.Q8w (x:Q8) (v:Int):Q8:={ x with Q3z:=v}
abbrev Q8.Q86 (x:Q8) (v:Int):Q8:={ x with Q2G:=v}
abbrev Q8.Q9G (x:Q8) (v:Int):Q8:={ x with Q2E:=v}
abbrev Q8.Q8g (x:Q8) (v:Int):Q8:={ x with Q3b:=v}
abbrev Q8.QbA (x:Q8) (v:Bool):Q8:={ x with Q4g:=v}
abbrev Q8.Q9X (x:Q8) (v:Bool):Q8:={ x with Q4C:=v}
abbrev Q8.Qar (x:Q8) (v:Int):Q8:={ x with Q3M:=v}
abbrev Q8.QbU (x:Q8) (v:Int):Q8:={ x with Q55:=v}
abbrev Q8.Qbb (x:Q8) (v:Bool):Q8:={ x with Q6j:=v}
abbrev Qz.Q6F (x:Qz) (v:Int):Qz:={ x with Q5j:=v}
abbrev Qz.QaO (x:Qz) (v:ByteArray):Qz:={ x with Q3h:=v}
abbrev Q9.Q7r (x:Q9) (v:Int):Q9:={ x with Q1v:=v}
abbrev Q9.QaS (x:Q9) (v:Int):Q9:={ x with Q1W:=v}
abbrev Q9.Q7W (x:Q9) (v:Int):Q9:={ x with Q4h:=v}
abbrev Q9.Q7l (x:Q9) (v:Qf):Q9:={ x with Q2i:=v}
abbrev Q9.Q8T (x:Q9) (v:Int):Q9:={ x with Q37:=v}
abbrev Q9.Q4K (x:Q9) (v:Int):Q9:={ x with Q17:=v}
abbrev Q9.Q4L (x:Q9) (v:Qy):Q9:={ x with Qu:=v}
abbrev Q9.Q56 (x:Q9) (v:Int):Q9:={ x with Q18:=v}
abbrev Q9.Q7J (x:Q9) (v:Int):Q9:={ x with Q2Q:=v}
abbrev Q9.Q7Z (x:Q9) (v:Int):Q9:={ x with Q2g:=v}
abbrev Q9.Q7j (x:Q9) (v:Int):Q9:={ x with Q1N:=v}
abbrev Q9.Q6u (x:Q9) (v:Int):Q9:={ x with Q2X:=v}
abbrev Q9.Q7i (x:Q9) (v:Int):Q9:={ x with Q4X:=v}
abbrev Q9.Q6B (x:Q9) (v:Int):Q9:={ x with Q3E:=v}
abbrev Q5.Q3Q (x:Q5) (v:Int):Q5:={ x with Q1u:=v}
abbrev Q5.Q5N (x:Q5) (v:Option Nat):Q5:={ x with Q5K:=v}
abbrev Q5.Q4a (x:Q5) (v:QT):Q5:={ x with Q4j:=v}
abbrev Q5.Q5F (x:Q5) (v:QT):Q5:={ x with Q5n:=v}
abbrev Q5.Q5r (x:Q5) (v:QT):Q5:={ x with Q4Y:=v}
abbrev Q5.Q6G (x:Q5) (v:QT):Q5:={ x with fsync:=v}
abbrev Q5.Q6v (x:Q5) (v:QT):Q5:={ x with Q79:=v}
abbrev Q5.Q9i (x:Q5) (v:Int):Q5:={ x with Q6h:=v}
abbrev Q5.Qbj (x:Q5) (v:Int):Q5:={ x with Q8d:=v}
abbrev Q5.Q9H (x:Q5) (v:Int):Q5:={ x with Q65:=v}
abbrev Q5.Q63 (x:Q5) (v:Q16):Q5:={ x with Q7f:=v}
abbrev Q5.Q5f (x:Q5) (v:Q16):Q5:={ x with Q3g:=v}
abbrev Q5.Q94 (x:Q5) (v:Q9):Q5:={ x with Q2C:=v}
abbrev Q5.Q6M (x:Q5) (v:Bool):Q5:={ x with Q4Z:=v}
abbrev Q1.Q85 (x:Q1) (v:Q8):Q1:={ x with Qo:=v}
abbrev Q1.QU (x:Q1) (v:Nat->Q5):Q1:={ x with Qe:=v}
abbrev Q1.Q9b (x:Q1) (v:Int):Q1:={ x with Q5s:=v}
abbrev Q1.Q4l (x:Q1) (v:QY):Q1:={ x with Q2d:=v}
abbrev Q1.Qaq (x:Q1) (v:Int):Q1:={ x with Q5d:=v}
abbrev Q1.Q6Q (x:Q1) (v:Q16):Q1:={ x with Q48:=v}
abbrev Q1.Q4b (x:Q1) (v:Int):Q1:={ x with Q2h:=v}
abbrev Q1.Q13 (x:Q1) (v:List (QJ)):Q1:={ x with Q2j:=v}
abbrev Qd.Qbk (x:Qd) (v:Int):Qd:={ x with Q8e:=v}
abbrev Qb.Qaf (x:Qb) (v:Nat->Qd):Qb:={ x with fl:=v}
abbrev Qb.Q8k (x:Qb) (v:Int):Qb:={ x with fn:=v}
abbrev Qp.Q3Q (x:Qp) (v:Int):Qp:={ x with Q1u:=v}
abbrev Qp.Q7d (x:Qp) (v:Int):Qp:={ x with Q8q:=v}
abbrev Qp.Q96 (x:Qp) (v:Int):Qp:={ x with Qan:=v}
abbrev Qp.Q6J (x:Qp) (v:Int):Qp:={ x with Q8s:=v}
abbrev Qh.Q8k (x:Qh) (v:Int):Qh:={ x with fn:=v}
abbrev QB.Qap (x:QB) (v:Q9):QB:={ x with Q2r:=v}
abbrev QB.Q8D (x:QB) (v:Bool):QB:={ x with Q6p:=v}
abbrev Q12.Q9y (x:Q12) (v:Int):Q12:={ x with fat:=v}
abbrev Q12.Q87 (x:Q12) (v:Bool):Q12:={ x with Q6D:=v}
abbrev Qg.Qa2 (x:Qg) (v:Q12):Qg:={ x with fr:=v}
abbrev Qc.Qcd (x:Qc) (v:Int):Qc:={ x with Q60:=v}
abbrev Qc.Q9y (x:Qc) (v:Int):Qc:={ x with fat:=v}
abbrev Qc.Qce (x:Qc) (v:Bool):Qc:={ x with Q8G:=v}
abbrev Qc.Q87 (x:Qc) (v:Bool):Qc:={ x with Q6D:=v}
abbrev Qc.Q6M (x:Qc) (v:Bool):Qc:={ x with Q4Z:=v}
abbrev Qc.Qas (x:Qc) (v:Bool):Qc:={ x with Q9v:=v}
abbrev Qc.Q9J (x:Qc) (v:Q9):Qc:={ x with Q1Q:=v}
abbrev Qc.Qbs (x:Qc) (v:Int):Qc:={ x with Qb6:=v}
abbrev Q1w.Qc5 (x:Q1w) (v:Q8):Q1w:={ x with QS:=v}
def Qy.zero:Qy:=⟨0,0,0⟩
def Q1d.zero:Q1d:=⟨0,0,0⟩
def Q8.zero:Q8:=⟨0,0,0,0,0,Qy.zero,false,0,0,0,0,false,false,0,0,0,0,Q1d.zero,false⟩
def Qz.zero:Qz:=⟨0,0,0,0,0,ByteArray.empty,Q8.zero⟩
def Qf.zero:Qf:=⟨0,0⟩
def Q9.zero:Q9:=⟨0,0,0,0,Qf.zero,0,0,0,Qf.zero,0,0,Qy.zero,0,0,0,0,0,0,0⟩
def Qi.zero:Qi:=⟨0,ByteArray.empty⟩
def QD.zero:QD:=⟨0,0,0,0,Qz.zero,Q9.zero,[]⟩
def QT.zero:QT:=⟨0⟩
def Q16.zero:Q16:=⟨0,false⟩
def Q5.zero:Q5:=⟨0,none,none,QT.zero,QT.zero,QT.zero,QT.zero,QT.zero,0,0,0,none,none,none,Q16.zero,Q16.zero,Q9.zero,false⟩
def QY.zero:QY:=⟨Qf.zero,0,Qy.zero,0,0,0,Q1d.zero⟩
def QJ.zero:QJ:=⟨0,0,0,false,0,0,ByteArray.empty⟩
def Q1.zero:Q1:=⟨Q8.zero,(λ_=>Q5.zero),0,QY.zero,none,none,0,Q16.zero,0,[]⟩
def Qj.zero:Qj:=⟨0,Qy.zero,0,0,0,Qf.zero,Qf.zero⟩
def Qd.zero:Qd:=⟨Qj.zero,Q1d.zero,0,0,0⟩
def Qb.zero:Qb:=⟨Qf.zero,0,(λ_=>Qd.zero),0⟩
def Qp.zero:Qp:=⟨0,0,0,0,0,0,0⟩
def Qh.zero:Qh:=⟨(λ_=>0),0,0⟩
def QB.zero:QB:=⟨Q9.zero,Q9.zero,0,false,false⟩
def Q12.zero:Q12:=⟨0,0,false,false⟩
def Qg.zero:Qg:=⟨Qf.zero,0,Q12.zero⟩
def Qc.zero:Qc:=⟨Qf.zero,0,0,0,false,false,false,false,Q9.zero,0⟩
def Q29.zero:Q29:=⟨Qf.zero,0⟩
def Q1w.zero:Q1w:=⟨Q8.zero,QY.zero,0,0,0,0,0,0⟩
inductive UC where
 |u8|int|Q1n|Q2p|Q1e|Q2v|Q4n|Ql|Qw|Q4k|QX|Q3x|QC|Q1a|QI|Q1H|Q2b|bool|Q1L|u64|Q6e|Q1F|Q7|QA|Q1t|Q19|Q1k|Q3L|Q14|Q15|Q4G|Q3a|Q1R
 deriving DecidableEq
abbrev D:UC->Type
 | .u8=>UInt8
 | .int=>Int
 | .Q1n=>QD
 | .Q2p=>Qz
 | .Q1e=>Q8
 | .Q2v=>Qy
 | .Q4n=>Q1d
 | .Ql=>Q9
 | .Qw=>Qf
 | .Q4k=>List (Qi)
 | .QX=>Qi
 | .Q3x=>QJ
 | .QC=>Qd
 | .Q1a=>Qj
 | .QI=>Q5
 | .Q1H=>QT
 | .Q2b=>Q16
 | .bool=>Bool
 | .Q1L=>Option (Qj)
 | .u64=>Int
 | .Q6e=>List (Int)
 | .Q1F=>QY
 | .Q7=>Q1
 | .QA=>Qb
 | .Q1t=>Qp
 | .Q19=>Qh
 | .Q1k=>QB
 | .Q3L=>Q12
 | .Q14=>Qg
 | .Q15=>Qc
 | .Q4G=>Q29
 | .Q3a=>Q1w
 | .Q1R=>List (Int)
abbrev Cel:=S UC D
def Qy.enc (x:Qy):List (Cel):= [.val (.int .i64 x.Q1M),.val (.int .i64 x.Q1r),.val (.int .i64 x.Q1B)]
def Qy.ls:List (Lf UC):= [.int .i64,.int .i64,.int .i64]
def Qy.toS (t:HL D Qy.ls):Qy:=⟨t.1,t.2.1,t.2.2.1⟩
def Qy.dec (l:List Cel):Option Qy:=match Q47 Qy.ls l with
 |some t=>some (Qy.toS t)
 |none=>none
def Q1d.enc (x:Q1d):List (Cel):= [.val (.int .i64 x.Q37),.val (.int .i64 x.Q1W),.val (.int .i64 x.Q1N)]
def Q1d.ls:List (Lf UC):= [.int .i64,.int .i64,.int .i64]
def Q1d.toS (t:HL D Q1d.ls):Q1d:=⟨t.1,t.2.1,t.2.2.1⟩
def Q1d.dec (l:List Cel):Option Q1d:=match Q47 Q1d.ls l with
 |some t=>some (Q1d.toS t)
 |none=>none
def Q8.enc (x:Q8):List (Cel):= [.val (.int .u64 x.QF),.val (.int .i64 x.Qv),.val (.int .i64 x.Q1v),.val (.int .i64 x.Q17),.val (.int .i64 x.Q18),.val (.int .i64 x.Qu.Q1M),.val (.int .i64 x.Qu.Q1r),.val (.int .i64 x.Qu.Q1B),.val (.bool x.Q25),.val (.int .i64 x.Q3z),.val (.int .i64 x.Q2G),.val (.int .i64 x.Q2E),.val (.int .i64 x.Q3b),.val (.bool x.Q4g),.val (.bool x.Q4C),.val (.int .i64 x.Q3M),.val (.int .i64 x.fKp),.val (.int .i64 x.fKi),.val (.int .i64 x.Q55),.val (.int .i64 x.Q1b.Q37),.val (.int .i64 x.Q1b.Q1W),.val (.int .i64 x.Q1b.Q1N),.val (.bool x.Q6j)]
def Q8.ls:List (Lf UC):= [.int .u64,.int .i64,.int .i64,.int .i64,.int .i64,.int .i64,.int .i64,.int .i64,.bool,.int .i64,.int .i64,.int .i64,.int .i64,.bool,.bool,.int .i64,.int .i64,.int .i64,.int .i64,.int .i64,.int .i64,.int .i64,.bool]
def Q8.toS (t:HL D Q8.ls):Q8:=let t6:=t.2.2.2.2.2.2;let t12:=t6.2.2.2.2.2.2;let t18:=t12.2.2.2.2.2.2;⟨t.1,t.2.1,t.2.2.1,t.2.2.2.1,t.2.2.2.2.1,⟨t.2.2.2.2.2.1,t6.1,t6.2.1⟩,t6.2.2.1,t6.2.2.2.1,t6.2.2.2.2.1,t6.2.2.2.2.2.1,t12.1,t12.2.1,t12.2.2.1,t12.2.2.2.1,t12.2.2.2.2.1,t12.2.2.2.2.2.1,t18.1,⟨t18.2.1,t18.2.2.1,t18.2.2.2.1⟩,t18.2.2.2.2.1⟩
def Q8.dec (l:List Cel):Option Q8:=match Q47 Q8.ls l with
 |some t=>some (Q8.toS t)
 |none=>none
def Qz.enc (x:Qz):List (Cel):= [.val (.int .i64 x.Q5j),.val (.int .i64 x.QW),.val (.int .i64 x.Q6O),.val (.int .i64 x.fType),.val (.int .i64 x.Q36),.val (.string x.Q3h),.val (.int .u64 x.QS.QF),.val (.int .i64 x.QS.Qv),.val (.int .i64 x.QS.Q1v),.val (.int .i64 x.QS.Q17),.val (.int .i64 x.QS.Q18),.val (.int .i64 x.QS.Qu.Q1M),.val (.int .i64 x.QS.Qu.Q1r),.val (.int .i64 x.QS.Qu.Q1B),.val (.bool x.QS.Q25),.val (.int .i64 x.QS.Q3z),.val (.int .i64 x.QS.Q2G),.val (.int .i64 x.QS.Q2E),.val (.int .i64 x.QS.Q3b),.val (.bool x.QS.Q4g),.val (.bool x.QS.Q4C),.val (.int .i64 x.QS.Q3M),.val (.int .i64 x.QS.fKp),.val (.int .i64 x.QS.fKi),.val (.int .i64 x.QS.Q55),.val (.int .i64 x.QS.Q1b.Q37),.val (.int .i64 x.QS.Q1b.Q1W),.val (.int .i64 x.QS.Q1b.Q1N),.val (.bool x.QS.Q6j)]
def Qz.ls:List (Lf UC):= [.int .i64,.int .i64,.int .i64,.int .i64,.int .i64,.str,.int .u64,.int .i64,.int .i64,.int .i64,.int .i64,.int .i64,.int .i64,.int .i64,.bool,.int .i64,.int .i64,.int .i64,.int .i64,.bool,.bool,.int .i64,.int .i64,.int .i64,.int .i64,.int .i64,.int .i64,.int .i64,.bool]
def Qz.toS (t:HL D Qz.ls):Qz:=let t6:=t.2.2.2.2.2.2;let t12:=t6.2.2.2.2.2.2;let t18:=t12.2.2.2.2.2.2;let t24:=t18.2.2.2.2.2.2;⟨t.1,t.2.1,t.2.2.1,t.2.2.2.1,t.2.2.2.2.1,t.2.2.2.2.2.1,⟨t6.1,t6.2.1,t6.2.2.1,t6.2.2.2.1,t6.2.2.2.2.1,⟨t6.2.2.2.2.2.1,t12.1,t12.2.1⟩,t12.2.2.1,t12.2.2.2.1,t12.2.2.2.2.1,t12.2.2.2.2.2.1,t18.1,t18.2.1,t18.2.2.1,t18.2.2.2.1,t18.2.2.2.2.1,t18.2.2.2.2.2.1,t24.1,⟨t24.2.1,t24.2.2.1,t24.2.2.2.1⟩,t24.2.2.2.2.1⟩⟩
def Qz.dec (l:List Cel):Option Qz:=match Q47 Qz.ls l with
 |some t=>some (Qz.toS t)
 |none=>none
def Qf.enc (x:Qf):List (Cel):= [.val (.int .u64 x.QF),.val (.int .i64 x.QW)]
def Qf.ls:List (Lf UC):= [.int .u64,.int .i64]
def Qf.toS (t:HL D Qf.ls):Qf:=⟨t.1,t.2.1⟩
def Qf.dec (l:List Cel):Option Qf:=match Q47 Qf.ls l with
 |some t=>some (Qf.toS t)
 |none=>none
def Q9.enc (x:Q9):List (Cel):= [.val (.int .i64 x.fType),.val (.int .i64 x.Q1v),.val (.int .i64 x.Q1W),.val (.int .i64 x.Q4B),.val (.int .u64 x.Q1G.QF),.val (.int .i64 x.Q1G.QW),.val (.int .i64 x.Q36),.val (.int .i64 x.Q6y),.val (.int .i64 x.Q4h),.val (.int .u64 x.Q2i.QF),.val (.int .i64 x.Q2i.QW),.val (.int .i64 x.Q37),.val (.int .i64 x.Q17),.val (.int .i64 x.Qu.Q1M),.val (.int .i64 x.Qu.Q1r),.val (.int .i64 x.Qu.Q1B),.val (.int .i64 x.Q18),.val (.int .u64 x.Q2Q),.val (.int .i64 x.Q2g),.val (.int .i64 x.Q1N),.val (.int .i64 x.Q2X),.val (.int .i64 x.Q4X),.val (.int .i64 x.Q3E)]
def Q9.ls:List (Lf UC):= [.int .i64,.int .i64,.int .i64,.int .i64,.int .u64,.int .i64,.int .i64,.int .i64,.int .i64,.int .u64,.int .i64,.int .i64,.int .i64,.int .i64,.int .i64,.int .i64,.int .i64,.int .u64,.int .i64,.int .i64,.int .i64,.int .i64,.int .i64]
def Q9.toS (t:HL D Q9.ls):Q9:=let t6:=t.2.2.2.2.2.2;let t12:=t6.2.2.2.2.2.2;let t18:=t12.2.2.2.2.2.2;⟨t.1,t.2.1,t.2.2.1,t.2.2.2.1,⟨t.2.2.2.2.1,t.2.2.2.2.2.1⟩,t6.1,t6.2.1,t6.2.2.1,⟨t6.2.2.2.1,t6.2.2.2.2.1⟩,t6.2.2.2.2.2.1,t12.1,⟨t12.2.1,t12.2.2.1,t12.2.2.2.1⟩,t12.2.2.2.2.1,t12.2.2.2.2.2.1,t18.1,t18.2.1,t18.2.2.1,t18.2.2.2.1,t18.2.2.2.2.1⟩
def Q9.dec (l:List Cel):Option Q9:=match Q47 Q9.ls l with
 |some t=>some (Q9.toS t)
 |none=>none
def Qi.enc (x:Qi):List (Cel):= [.val (.int .i64 x.fType),.val (.string x.Q2y)]
def Qi.ls:List (Lf UC):= [.int .i64,.str]
def Qi.toS (t:HL D Qi.ls):Qi:=⟨t.1,t.2.1⟩
def Qi.dec (l:List Cel):Option Qi:=match Q47 Qi.ls l with
 |some t=>some (Qi.toS t)
 |none=>none
def QD.enc (x:QD):List (Cel):= [.val (.int .i64 x.fHow),.val (.int .i64 x.fN),.val (.int .i64 x.fAt),.val (.int .i64 x.fBy),.val (.int .i64 x.fE.Q5j),.val (.int .i64 x.fE.QW),.val (.int .i64 x.fE.Q6O),.val (.int .i64 x.fE.fType),.val (.int .i64 x.fE.Q36),.val (.string x.fE.Q3h),.val (.int .u64 x.fE.QS.QF),.val (.int .i64 x.fE.QS.Qv),.val (.int .i64 x.fE.QS.Q1v),.val (.int .i64 x.fE.QS.Q17),.val (.int .i64 x.fE.QS.Q18),.val (.int .i64 x.fE.QS.Qu.Q1M),.val (.int .i64 x.fE.QS.Qu.Q1r),.val (.int .i64 x.fE.QS.Qu.Q1B),.val (.bool x.fE.QS.Q25),.val (.int .i64 x.fE.QS.Q3z),.val (.int .i64 x.fE.QS.Q2G),.val (.int .i64 x.fE.QS.Q2E),.val (.int .i64 x.fE.QS.Q3b),.val (.bool x.fE.QS.Q4g),.val (.bool x.fE.QS.Q4C),.val (.int .i64 x.fE.QS.Q3M),.val (.int .i64 x.fE.QS.fKp),.val (.int .i64 x.fE.QS.fKi),.val (.int .i64 x.fE.QS.Q55),.val (.int .i64 x.fE.QS.Q1b.Q37),.val (.int .i64 x.fE.QS.Q1b.Q1W),.val (.int .i64 x.fE.QS.Q1b.Q1N),.val (.bool x.fE.QS.Q6j),.val (.int .i64 x.fM.fType),.val (.int .i64 x.fM.Q1v),.val (.int .i64 x.fM.Q1W),.val (.int .i64 x.fM.Q4B),.val (.int .u64 x.fM.Q1G.QF),.val (.int .i64 x.fM.Q1G.QW),.val (.int .i64 x.fM.Q36),.val (.int .i64 x.fM.Q6y),.val (.int .i64 x.fM.Q4h),.val (.int .u64 x.fM.Q2i.QF),.val (.int .i64 x.fM.Q2i.QW),.val (.int .i64 x.fM.Q37),.val (.int .i64 x.fM.Q17),.val (.int .i64 x.fM.Qu.Q1M),.val (.int .i64 x.fM.Qu.Q1r),.val (.int .i64 x.fM.Qu.Q1B),.val (.int .i64 x.fM.Q18),.val (.int .u64 x.fM.Q2Q),.val (.int .i64 x.fM.Q2g),.val (.int .i64 x.fM.Q1N),.val (.int .i64 x.fM.Q2X),.val (.int .i64 x.fM.Q4X),.val (.int .i64 x.fM.Q3E),.isl .none .QX x.fL]
def QD.ls:List (Lf UC):= [.int .i64,.int .i64,.int .i64,.int .i64,.int .i64,.int .i64,.int .i64,.int .i64,.int .i64,.str,.int .u64,.int .i64,.int .i64,.int .i64,.int .i64,.int .i64,.int .i64,.int .i64,.bool,.int .i64,.int .i64,.int .i64,.int .i64,.bool,.bool,.int .i64,.int .i64,.int .i64,.int .i64,.int .i64,.int .i64,.int .i64,.bool,.int .i64,.int .i64,.int .i64,.int .i64,.int .u64,.int .i64,.int .i64,.int .i64,.int .i64,.int .u64,.int .i64,.int .i64,.int .i64,.int .i64,.int .i64,.int .i64,.int .i64,.int .u64,.int .i64,.int .i64,.int .i64,.int .i64,.int .i64,.list .QX]
def QD.toS (t:HL D QD.ls):QD:=let t6:=t.2.2.2.2.2.2;let t12:=t6.2.2.2.2.2.2;let t18:=t12.2.2.2.2.2.2;let t24:=t18.2.2.2.2.2.2;let t30:=t24.2.2.2.2.2.2;let t36:=t30.2.2.2.2.2.2;let t42:=t36.2.2.2.2.2.2;let t48:=t42.2.2.2.2.2.2;let t54:=t48.2.2.2.2.2.2;⟨t.1,t.2.1,t.2.2.1,t.2.2.2.1,⟨t.2.2.2.2.1,t.2.2.2.2.2.1,t6.1,t6.2.1,t6.2.2.1,t6.2.2.2.1,⟨t6.2.2.2.2.1,t6.2.2.2.2.2.1,t12.1,t12.2.1,t12.2.2.1,⟨t12.2.2.2.1,t12.2.2.2.2.1,t12.2.2.2.2.2.1⟩,t18.1,t18.2.1,t18.2.2.1,t18.2.2.2.1,t18.2.2.2.2.1,t18.2.2.2.2.2.1,t24.1,t24.2.1,t24.2.2.1,t24.2.2.2.1,t24.2.2.2.2.1,⟨t24.2.2.2.2.2.1,t30.1,t30.2.1⟩,t30.2.2.1⟩⟩,⟨t30.2.2.2.1,t30.2.2.2.2.1,t30.2.2.2.2.2.1,t36.1,⟨t36.2.1,t36.2.2.1⟩,t36.2.2.2.1,t36.2.2.2.2.1,t36.2.2.2.2.2.1,⟨t42.1,t42.2.1⟩,t42.2.2.1,t42.2.2.2.1,⟨t42.2.2.2.2.1,t42.2.2.2.2.2.1,t48.1⟩,t48.2.1,t48.2.2.1,t48.2.2.2.1,t48.2.2.2.2.1,t48.2.2.2.2.2.1,t54.1,t54.2.1⟩,t54.2.2.1⟩
def QD.dec (l:List Cel):Option QD:=match Q47 QD.ls l with
 |some t=>some (QD.toS t)
 |none=>none
def QT.enc (x:QT):List (Cel):= [.val (.int .i64 x.Q6V)]
def QT.ls:List (Lf UC):= [.int .i64]
def QT.toS (t:HL D QT.ls):QT:=⟨t.1⟩
def QT.dec (l:List Cel):Option QT:=match Q47 QT.ls l with
 |some t=>some (QT.toS t)
 |none=>none
def Q16.enc (x:Q16):List (Cel):= [.val (.int .i64 x.fv),.val (.bool x.fis)]
def Q16.ls:List (Lf UC):= [.int .i64,.bool]
def Q16.toS (t:HL D Q16.ls):Q16:=⟨t.1,t.2.1⟩
def Q16.dec (l:List Cel):Option Q16:=match Q47 Q16.ls l with
 |some t=>some (Q16.toS t)
 |none=>none
def Q5.enc (x:Q5):List (Cel):= [.val (.int .i64 x.Q1u),.ref 2 x.Q4O,.Q3Z 7 x.Q5K,.val (.int .i64 x.Q4j.Q6V),.val (.int .i64 x.Q5n.Q6V),.val (.int .i64 x.Q4Y.Q6V),.val (.int .i64 x.fsync.Q6V),.val (.int .i64 x.Q79.Q6V),.val (.int .i64 x.Q6h),.val (.int .i64 x.Q8d),.val (.int .i64 x.Q65),.ref 6 x.Q6q,.ref 3 x.Q48,.ref 4 x.Q6U,.val (.int .i64 x.Q7f.fv),.val (.bool x.Q7f.fis),.val (.int .i64 x.Q3g.fv),.val (.bool x.Q3g.fis),.val (.int .i64 x.Q2C.fType),.val (.int .i64 x.Q2C.Q1v),.val (.int .i64 x.Q2C.Q1W),.val (.int .i64 x.Q2C.Q4B),.val (.int .u64 x.Q2C.Q1G.QF),.val (.int .i64 x.Q2C.Q1G.QW),.val (.int .i64 x.Q2C.Q36),.val (.int .i64 x.Q2C.Q6y),.val (.int .i64 x.Q2C.Q4h),.val (.int .u64 x.Q2C.Q2i.QF),.val (.int .i64 x.Q2C.Q2i.QW),.val (.int .i64 x.Q2C.Q37),.val (.int .i64 x.Q2C.Q17),.val (.int .i64 x.Q2C.Qu.Q1M),.val (.int .i64 x.Q2C.Qu.Q1r),.val (.int .i64 x.Q2C.Qu.Q1B),.val (.int .i64 x.Q2C.Q18),.val (.int .u64 x.Q2C.Q2Q),.val (.int .i64 x.Q2C.Q2g),.val (.int .i64 x.Q2C.Q1N),.val (.int .i64 x.Q2C.Q2X),.val (.int .i64 x.Q2C.Q4X),.val (.int .i64 x.Q2C.Q3E),.val (.bool x.Q4Z)]
def Q5.ls:List (Lf UC):= [.int .i64,.ref 2 8,.Q3Z 7,.int .i64,.int .i64,.int .i64,.int .i64,.int .i64,.int .i64,.int .i64,.int .i64,.ref 6 8,.ref 3 8,.ref 4 8,.int .i64,.bool,.int .i64,.bool,.int .i64,.int .i64,.int .i64,.int .i64,.int .u64,.int .i64,.int .i64,.int .i64,.int .i64,.int .u64,.int .i64,.int .i64,.int .i64,.int .i64,.int .i64,.int .i64,.int .i64,.int .u64,.int .i64,.int .i64,.int .i64,.int .i64,.int .i64,.bool]
def Q5.toS (t:HL D Q5.ls):Q5:=let t6:=t.2.2.2.2.2.2;let t12:=t6.2.2.2.2.2.2;let t18:=t12.2.2.2.2.2.2;let t24:=t18.2.2.2.2.2.2;let t30:=t24.2.2.2.2.2.2;let t36:=t30.2.2.2.2.2.2;⟨t.1,t.2.1,t.2.2.1,⟨t.2.2.2.1⟩,⟨t.2.2.2.2.1⟩,⟨t.2.2.2.2.2.1⟩,⟨t6.1⟩,⟨t6.2.1⟩,t6.2.2.1,t6.2.2.2.1,t6.2.2.2.2.1,t6.2.2.2.2.2.1,t12.1,t12.2.1,⟨t12.2.2.1,t12.2.2.2.1⟩,⟨t12.2.2.2.2.1,t12.2.2.2.2.2.1⟩,⟨t18.1,t18.2.1,t18.2.2.1,t18.2.2.2.1,⟨t18.2.2.2.2.1,t18.2.2.2.2.2.1⟩,t24.1,t24.2.1,t24.2.2.1,⟨t24.2.2.2.1,t24.2.2.2.2.1⟩,t24.2.2.2.2.2.1,t30.1,⟨t30.2.1,t30.2.2.1,t30.2.2.2.1⟩,t30.2.2.2.2.1,t30.2.2.2.2.2.1,t36.1,t36.2.1,t36.2.2.1,t36.2.2.2.1,t36.2.2.2.2.1⟩,t36.2.2.2.2.2.1⟩
def Q5.dec (l:List Cel):Option Q5:=match Q47 Q5.ls l with
 |some t=>some (Q5.toS t)
 |none=>none
def QY.enc (x:QY):List (Cel):= [.val (.int .u64 x.QW.QF),.val (.int .i64 x.QW.QW),.val (.int .u64 x.Q2Q),.val (.int .i64 x.Qu.Q1M),.val (.int .i64 x.Qu.Q1r),.val (.int .i64 x.Qu.Q1B),.val (.int .i64 x.Q17),.val (.int .i64 x.Q18),.val (.int .i64 x.Q2g),.val (.int .i64 x.Q1b.Q37),.val (.int .i64 x.Q1b.Q1W),.val (.int .i64 x.Q1b.Q1N)]
def QY.ls:List (Lf UC):= [.int .u64,.int .i64,.int .u64,.int .i64,.int .i64,.int .i64,.int .i64,.int .i64,.int .i64,.int .i64,.int .i64,.int .i64]
def QY.toS (t:HL D QY.ls):QY:=let t6:=t.2.2.2.2.2.2;⟨⟨t.1,t.2.1⟩,t.2.2.1,⟨t.2.2.2.1,t.2.2.2.2.1,t.2.2.2.2.2.1⟩,t6.1,t6.2.1,t6.2.2.1,⟨t6.2.2.2.1,t6.2.2.2.2.1,t6.2.2.2.2.2.1⟩⟩
def QY.dec (l:List Cel):Option QY:=match Q47 QY.ls l with
 |some t=>some (QY.toS t)
 |none=>none
def QJ.enc (x:QJ):List (Cel):= [.val (.int .i64 x.Q5j),.val (.int .i64 x.QW),.val (.int .i64 x.fN),.val (.bool x.Qb8),.val (.int .i64 x.fType),.val (.int .i64 x.Q36),.val (.string x.Q3h)]
def QJ.ls:List (Lf UC):= [.int .i64,.int .i64,.int .i64,.bool,.int .i64,.int .i64,.str]
def QJ.toS (t:HL D QJ.ls):QJ:=⟨t.1,t.2.1,t.2.2.1,t.2.2.2.1,t.2.2.2.2.1,t.2.2.2.2.2.1,t.2.2.2.2.2.2.1⟩
def QJ.dec (l:List Cel):Option QJ:=match Q47 QJ.ls l with
 |some t=>some (QJ.toS t)
 |none=>none
def Q1.enc (x:Q1):List (Cel):= [.val (.int .u64 x.Qo.QF),.val (.int .i64 x.Qo.Qv),.val (.int .i64 x.Qo.Q1v),.val (.int .i64 x.Qo.Q17),.val (.int .i64 x.Qo.Q18),.val (.int .i64 x.Qo.Qu.Q1M),.val (.int .i64 x.Qo.Qu.Q1r),.val (.int .i64 x.Qo.Qu.Q1B),.val (.bool x.Qo.Q25),.val (.int .i64 x.Qo.Q3z),.val (.int .i64 x.Qo.Q2G),.val (.int .i64 x.Qo.Q2E),.val (.int .i64 x.Qo.Q3b),.val (.bool x.Qo.Q4g),.val (.bool x.Qo.Q4C),.val (.int .i64 x.Qo.Q3M),.val (.int .i64 x.Qo.fKp),.val (.int .i64 x.Qo.fKi),.val (.int .i64 x.Qo.Q55),.val (.int .i64 x.Qo.Q1b.Q37),.val (.int .i64 x.Qo.Q1b.Q1W),.val (.int .i64 x.Qo.Q1b.Q1N),.val (.bool x.Qo.Q6j),.Q1m .QI 8 x.Qe,.hole,.hole,.hole,.hole,.hole,.hole,.hole,.hole,.hole,.hole,.hole,.hole,.hole,.hole,.hole,.hole,.hole,.hole,.hole,.hole,.hole,.hole,.hole,.hole,.hole,.hole,.hole,.hole,.hole,.hole,.hole,.hole,.hole,.hole,.hole,.hole,.hole,.hole,.hole,.hole,.hole,.hole,.hole,.hole,.hole,.hole,.hole,.hole,.hole,.hole,.hole,.hole,.hole,.hole,.hole,.hole,.hole,.hole,.hole,.hole,.hole,.hole,.hole,.hole,.hole,.hole,.hole,.hole,.hole,.hole,.hole,.hole,.hole,.hole,.hole,.hole,.hole,.hole,.hole,.hole,.hole,.hole,.hole,.hole,.hole,.hole,.hole,.hole,.hole,.hole,.hole,.hole,.hole,.hole,.hole,.hole,.hole,.hole,.hole,.hole,.hole,.hole,.hole,.hole,.hole,.hole,.hole,.hole,.hole,.hole,.hole,.hole,.hole,.hole,.hole,.hole,.hole,.hole,.hole,.hole,.hole,.hole,.hole,.hole,.hole,.hole,.hole,.hole,.hole,.hole,.hole,.hole,.hole,.hole,.hole,.hole,.hole,.hole,.hole,.hole,.hole,.hole,.hole,.hole,.hole,.hole,.hole,.hole,.hole,.hole,.hole,.hole,.hole,.hole,.hole,.hole,.hole,.hole,.hole,.hole,.hole,.hole,.hole,.hole,.hole,.hole,.hole,.hole,.hole,.hole,.hole,.hole,.hole,.hole,.hole,.hole,.hole,.hole,.hole,.hole,.hole,.hole,.hole,.hole,.hole,.hole,.hole,.hole,.hole,.hole,.hole,.hole,.hole,.hole,.hole,.hole,.hole,.hole,.hole,.hole,.hole,.hole,.hole,.hole,.hole,.hole,.hole,.hole,.hole,.hole,.hole,.hole,.hole,.hole,.hole,.hole,.hole,.hole,.hole,.hole,.hole,.hole,.hole,.hole,.hole,.hole,.hole,.hole,.hole,.hole,.hole,.hole,.hole,.hole,.hole,.hole,.hole,.hole,.hole,.hole,.hole,.hole,.hole,.hole,.hole,.hole,.hole,.hole,.hole,.hole,.hole,.hole,.hole,.hole,.hole,.hole,.hole,.hole,.hole,.hole,.hole,.hole,.hole,.hole,.hole,.hole,.hole,.hole,.hole,.hole,.hole,.hole,.hole,.hole,.hole,.hole,.hole,.hole,.hole,.hole,.hole,.hole,.hole,.hole,.hole,.hole,.hole,.hole,.hole,.hole,.hole,.hole,.hole,.hole,.hole,.hole,.hole,.hole,.hole,.hole,.hole,.hole,.hole,.hole,.hole,.hole,.hole,.hole,.hole,.hole,.hole,.hole,.hole,.hole,.hole,.hole,.hole,.hole,.hole,.hole,.hole,.hole,.hole,.hole,.hole,.hole,.hole,.hole,.hole,.hole,.hole,.hole,.hole,.hole,.hole,.val (.int .i64 x.Q5s),.val (.int .u64 x.Q2d.QW.QF),.val (.int .i64 x.Q2d.QW.QW),.val (.int .u64 x.Q2d.Q2Q),.val (.int .i64 x.Q2d.Qu.Q1M),.val (.int .i64 x.Q2d.Qu.Q1r),.val (.int .i64 x.Q2d.Qu.Q1B),.val (.int .i64 x.Q2d.Q17),.val (.int .i64 x.Q2d.Q18),.val (.int .i64 x.Q2d.Q2g),.val (.int .i64 x.Q2d.Q1b.Q37),.val (.int .i64 x.Q2d.Q1b.Q1W),.val (.int .i64 x.Q2d.Q1b.Q1N),.ref 1 x.Q6K,.ref 5 x.Q6W,.val (.int .i64 x.Q5d),.val (.int .i64 x.Q48.fv),.val (.bool x.Q48.fis),.val (.int .i64 x.Q2h),.Q2f .Q3x x.Q2j]
def Q1.ls:List (Lf UC):= [.int .u64,.int .i64,.int .i64,.int .i64,.int .i64,.int .i64,.int .i64,.int .i64,.bool,.int .i64,.int .i64,.int .i64,.int .i64,.bool,.bool,.int .i64,.int .i64,.int .i64,.int .i64,.int .i64,.int .i64,.int .i64,.bool,.Q1m .QI 8,.hole,.hole,.hole,.hole,.hole,.hole,.hole,.hole,.hole,.hole,.hole,.hole,.hole,.hole,.hole,.hole,.hole,.hole,.hole,.hole,.hole,.hole,.hole,.hole,.hole,.hole,.hole,.hole,.hole,.hole,.hole,.hole,.hole,.hole,.hole,.hole,.hole,.hole,.hole,.hole,.hole,.hole,.hole,.hole,.hole,.hole,.hole,.hole,.hole,.hole,.hole,.hole,.hole,.hole,.hole,.hole,.hole,.hole,.hole,.hole,.hole,.hole,.hole,.hole,.hole,.hole,.hole,.hole,.hole,.hole,.hole,.hole,.hole,.hole,.hole,.hole,.hole,.hole,.hole,.hole,.hole,.hole,.hole,.hole,.hole,.hole,.hole,.hole,.hole,.hole,.hole,.hole,.hole,.hole,.hole,.hole,.hole,.hole,.hole,.hole,.hole,.hole,.hole,.hole,.hole,.hole,.hole,.hole,.hole,.hole,.hole,.hole,.hole,.hole,.hole,.hole,.hole,.hole,.hole,.hole,.hole,.hole,.hole,.hole,.hole,.hole,.hole,.hole,.hole,.hole,.hole,.hole,.hole,.hole,.hole,.hole,.hole,.hole,.hole,.hole,.hole,.hole,.hole,.hole,.hole,.hole,.hole,.hole,.hole,.hole,.hole,.hole,.hole,.hole,.hole,.hole,.hole,.hole,.hole,.hole,.hole,.hole,.hole,.hole,.hole,.hole,.hole,.hole,.hole,.hole,.hole,.hole,.hole,.hole,.hole,.hole,.hole,.hole,.hole,.hole,.hole,.hole,.hole,.hole,.hole,.hole,.hole,.hole,.hole,.hole,.hole,.hole,.hole,.hole,.hole,.hole,.hole,.hole,.hole,.hole,.hole,.hole,.hole,.hole,.hole,.hole,.hole,.hole,.hole,.hole,.hole,.hole,.hole,.hole,.hole,.hole,.hole,.hole,.hole,.hole,.hole,.hole,.hole,.hole,.hole,.hole,.hole,.hole,.hole,.hole,.hole,.hole,.hole,.hole,.hole,.hole,.hole,.hole,.hole,.hole,.hole,.hole,.hole,.hole,.hole,.hole,.hole,.hole,.hole,.hole,.hole,.hole,.hole,.hole,.hole,.hole,.hole,.hole,.hole,.hole,.hole,.hole,.hole,.hole,.hole,.hole,.hole,.hole,.hole,.hole,.hole,.hole,.hole,.hole,.hole,.hole,.hole,.hole,.hole,.hole,.hole,.hole,.hole,.hole,.hole,.hole,.hole,.hole,.hole,.hole,.hole,.hole,.hole,.hole,.hole,.hole,.hole,.hole,.hole,.hole,.hole,.hole,.hole,.hole,.hole,.hole,.hole,.hole,.hole,.hole,.hole,.hole,.hole,.hole,.hole,.hole,.hole,.hole,.hole,.hole,.hole,.hole,.hole,.hole,.hole,.hole,.hole,.hole,.hole,.hole,.hole,.hole,.hole,.hole,.hole,.int .i64,.int .u64,.int .i64,.int .u64,.int .i64,.int .i64,.int .i64,.int .i64,.int .i64,.int .i64,.int .i64,.int .i64,.int .i64,.ref 1 8,.ref 5 8,.int .i64,.int .i64,.bool,.int .i64,.Q2f .Q3x]
def Q1.toS (t:HL D Q1.ls):Q1:=let t6:=t.2.2.2.2.2.2;let t12:=t6.2.2.2.2.2.2;let t18:=t12.2.2.2.2.2.2;let t24:=t18.2.2.2.2.2.2;let t30:=t24.2.2.2.2.2.2;let t36:=t30.2.2.2.2.2.2;let t42:=t36.2.2.2.2.2.2;let t48:=t42.2.2.2.2.2.2;let t54:=t48.2.2.2.2.2.2;let t60:=t54.2.2.2.2.2.2;let t66:=t60.2.2.2.2.2.2;let t72:=t66.2.2.2.2.2.2;let t78:=t72.2.2.2.2.2.2;let t84:=t78.2.2.2.2.2.2;let t90:=t84.2.2.2.2.2.2;let t96:=t90.2.2.2.2.2.2;let t102:=t96.2.2.2.2.2.2;let t108:=t102.2.2.2.2.2.2;let t114:=t108.2.2.2.2.2.2;let t120:=t114.2.2.2.2.2.2;let t126:=t120.2.2.2.2.2.2;let t132:=t126.2.2.2.2.2.2;let t138:=t132.2.2.2.2.2.2;let t144:=t138.2.2.2.2.2.2;let t150:=t144.2.2.2.2.2.2;let t156:=t150.2.2.2.2.2.2;let t162:=t156.2.2.2.2.2.2;let t168:=t162.2.2.2.2.2.2;let t174:=t168.2.2.2.2.2.2;let t180:=t174.2.2.2.2.2.2;let t186:=t180.2.2.2.2.2.2;let t192:=t186.2.2.2.2.2.2;let t198:=t192.2.2.2.2.2.2;let t204:=t198.2.2.2.2.2.2;let t210:=t204.2.2.2.2.2.2;let t216:=t210.2.2.2.2.2.2;let t222:=t216.2.2.2.2.2.2;let t228:=t222.2.2.2.2.2.2;let t234:=t228.2.2.2.2.2.2;let t240:=t234.2.2.2.2.2.2;let t246:=t240.2.2.2.2.2.2;let t252:=t246.2.2.2.2.2.2;let t258:=t252.2.2.2.2.2.2;let t264:=t258.2.2.2.2.2.2;let t270:=t264.2.2.2.2.2.2;let t276:=t270.2.2.2.2.2.2;let t282:=t276.2.2.2.2.2.2;let t288:=t282.2.2.2.2.2.2;let t294:=t288.2.2.2.2.2.2;let t300:=t294.2.2.2.2.2.2;let t306:=t300.2.2.2.2.2.2;let t312:=t306.2.2.2.2.2.2;let t318:=t312.2.2.2.2.2.2;let t324:=t318.2.2.2.2.2.2;let t330:=t324.2.2.2.2.2.2;let t336:=t330.2.2.2.2.2.2;let t342:=t336.2.2.2.2.2.2;let t348:=t342.2.2.2.2.2.2;let t354:=t348.2.2.2.2.2.2;let t360:=t354.2.2.2.2.2.2;let t366:=t360.2.2.2.2.2.2;let t372:=t366.2.2.2.2.2.2;let t378:=t372.2.2.2.2.2.2;⟨⟨t.1,t.2.1,t.2.2.1,t.2.2.2.1,t.2.2.2.2.1,⟨t.2.2.2.2.2.1,t6.1,t6.2.1⟩,t6.2.2.1,t6.2.2.2.1,t6.2.2.2.2.1,t6.2.2.2.2.2.1,t12.1,t12.2.1,t12.2.2.1,t12.2.2.2.1,t12.2.2.2.2.1,t12.2.2.2.2.2.1,t18.1,⟨t18.2.1,t18.2.2.1,t18.2.2.2.1⟩,t18.2.2.2.2.1⟩,t18.2.2.2.2.2.1,t354.2.2.2.2.2.1,⟨⟨t360.1,t360.2.1⟩,t360.2.2.1,⟨t360.2.2.2.1,t360.2.2.2.2.1,t360.2.2.2.2.2.1⟩,t366.1,t366.2.1,t366.2.2.1,⟨t366.2.2.2.1,t366.2.2.2.2.1,t366.2.2.2.2.2.1⟩⟩,t372.1,t372.2.1,t372.2.2.1,⟨t372.2.2.2.1,t372.2.2.2.2.1⟩,t372.2.2.2.2.2.1,t378.1⟩
def Q1.dec (l:List Cel):Option Q1:=match Q47 Q1.ls l with
 |some t=>some (Q1.toS t)
 |none=>none
def Qj.enc (x:Qj):List (Cel):= [.val (.int .i64 x.Q17),.val (.int .i64 x.Qu.Q1M),.val (.int .i64 x.Qu.Q1r),.val (.int .i64 x.Qu.Q1B),.val (.int .i64 x.Q18),.val (.int .u64 x.Q2Q),.val (.int .i64 x.Q2g),.val (.int .u64 x.Q4U.QF),.val (.int .i64 x.Q4U.QW),.val (.int .u64 x.Q5A.QF),.val (.int .i64 x.Q5A.QW)]
def Qj.ls:List (Lf UC):= [.int .i64,.int .i64,.int .i64,.int .i64,.int .i64,.int .u64,.int .i64,.int .u64,.int .i64,.int .u64,.int .i64]
def Qj.toS (t:HL D Qj.ls):Qj:=let t6:=t.2.2.2.2.2.2;⟨t.1,⟨t.2.1,t.2.2.1,t.2.2.2.1⟩,t.2.2.2.2.1,t.2.2.2.2.2.1,t6.1,⟨t6.2.1,t6.2.2.1⟩,⟨t6.2.2.2.1,t6.2.2.2.2.1⟩⟩
def Qj.dec (l:List Cel):Option Qj:=match Q47 Qj.ls l with
 |some t=>some (Qj.toS t)
 |none=>none
def Qd.enc (x:Qd):List (Cel):= [.val (.int .i64 x.Q3r.Q17),.val (.int .i64 x.Q3r.Qu.Q1M),.val (.int .i64 x.Q3r.Qu.Q1r),.val (.int .i64 x.Q3r.Qu.Q1B),.val (.int .i64 x.Q3r.Q18),.val (.int .u64 x.Q3r.Q2Q),.val (.int .i64 x.Q3r.Q2g),.val (.int .u64 x.Q3r.Q4U.QF),.val (.int .i64 x.Q3r.Q4U.QW),.val (.int .u64 x.Q3r.Q5A.QF),.val (.int .i64 x.Q3r.Q5A.QW),.val (.int .i64 x.Q1b.Q37),.val (.int .i64 x.Q1b.Q1W),.val (.int .i64 x.Q1b.Q1N),.val (.int .i64 x.Q36),.val (.int .i64 x.Q8e),.val (.int .i64 x.Q9V)]
def Qd.ls:List (Lf UC):= [.int .i64,.int .i64,.int .i64,.int .i64,.int .i64,.int .u64,.int .i64,.int .u64,.int .i64,.int .u64,.int .i64,.int .i64,.int .i64,.int .i64,.int .i64,.int .i64,.int .i64]
def Qd.toS (t:HL D Qd.ls):Qd:=let t6:=t.2.2.2.2.2.2;let t12:=t6.2.2.2.2.2.2;⟨⟨t.1,⟨t.2.1,t.2.2.1,t.2.2.2.1⟩,t.2.2.2.2.1,t.2.2.2.2.2.1,t6.1,⟨t6.2.1,t6.2.2.1⟩,⟨t6.2.2.2.1,t6.2.2.2.2.1⟩⟩,⟨t6.2.2.2.2.2.1,t12.1,t12.2.1⟩,t12.2.2.1,t12.2.2.2.1,t12.2.2.2.2.1⟩
def Qd.dec (l:List Cel):Option Qd:=match Q47 Qd.ls l with
 |some t=>some (Qd.toS t)
 |none=>none
def Qb.enc (x:Qb):List (Cel):= [.val (.int .u64 x.Qbe.QF),.val (.int .i64 x.Qbe.QW),.val (.int .i64 x.QaB),.Q1m .QC 5 x.fl,.hole,.hole,.hole,.hole,.hole,.hole,.hole,.hole,.hole,.hole,.hole,.hole,.hole,.hole,.hole,.hole,.hole,.hole,.hole,.hole,.hole,.hole,.hole,.hole,.hole,.hole,.hole,.hole,.hole,.hole,.hole,.hole,.hole,.hole,.hole,.hole,.hole,.hole,.hole,.hole,.hole,.hole,.hole,.hole,.hole,.hole,.hole,.hole,.hole,.hole,.hole,.hole,.hole,.hole,.hole,.hole,.hole,.hole,.hole,.hole,.hole,.hole,.hole,.hole,.hole,.hole,.hole,.hole,.hole,.hole,.hole,.hole,.hole,.hole,.hole,.hole,.hole,.hole,.hole,.hole,.hole,.hole,.hole,.hole,.val (.int .i64 x.fn)]
def Qb.ls:List (Lf UC):= [.int .u64,.int .i64,.int .i64,.Q1m .QC 5,.hole,.hole,.hole,.hole,.hole,.hole,.hole,.hole,.hole,.hole,.hole,.hole,.hole,.hole,.hole,.hole,.hole,.hole,.hole,.hole,.hole,.hole,.hole,.hole,.hole,.hole,.hole,.hole,.hole,.hole,.hole,.hole,.hole,.hole,.hole,.hole,.hole,.hole,.hole,.hole,.hole,.hole,.hole,.hole,.hole,.hole,.hole,.hole,.hole,.hole,.hole,.hole,.hole,.hole,.hole,.hole,.hole,.hole,.hole,.hole,.hole,.hole,.hole,.hole,.hole,.hole,.hole,.hole,.hole,.hole,.hole,.hole,.hole,.hole,.hole,.hole,.hole,.hole,.hole,.hole,.hole,.hole,.hole,.hole,.int .i64]
def Qb.toS (t:HL D Qb.ls):Qb:=let t6:=t.2.2.2.2.2.2;let t12:=t6.2.2.2.2.2.2;let t18:=t12.2.2.2.2.2.2;let t24:=t18.2.2.2.2.2.2;let t30:=t24.2.2.2.2.2.2;let t36:=t30.2.2.2.2.2.2;let t42:=t36.2.2.2.2.2.2;let t48:=t42.2.2.2.2.2.2;let t54:=t48.2.2.2.2.2.2;let t60:=t54.2.2.2.2.2.2;let t66:=t60.2.2.2.2.2.2;let t72:=t66.2.2.2.2.2.2;let t78:=t72.2.2.2.2.2.2;let t84:=t78.2.2.2.2.2.2;⟨⟨t.1,t.2.1⟩,t.2.2.1,t.2.2.2.1,t84.2.2.2.2.1⟩
def Qb.dec (l:List Cel):Option Qb:=match Q47 Qb.ls l with
 |some t=>some (Qb.toS t)
 |none=>none
def Qp.enc (x:Qp):List (Cel):= [.val (.int .i64 x.fkp),.val (.int .i64 x.fki),.val (.int .i64 x.Q9R),.val (.int .i64 x.Q1u),.val (.int .i64 x.Q8q),.val (.int .i64 x.Qan),.val (.int .i64 x.Q8s)]
def Qp.ls:List (Lf UC):= [.int .i64,.int .i64,.int .i64,.int .i64,.int .i64,.int .i64,.int .i64]
def Qp.toS (t:HL D Qp.ls):Qp:=⟨t.1,t.2.1,t.2.2.1,t.2.2.2.1,t.2.2.2.2.1,t.2.2.2.2.2.1,t.2.2.2.2.2.2.1⟩
def Qp.dec (l:List Cel):Option Qp:=match Q47 Qp.ls l with
 |some t=>some (Qp.toS t)
 |none=>none
def Qh.enc (x:Qh):List (Cel):= [.Q1m .int 15 x.fl,.hole,.hole,.hole,.hole,.hole,.hole,.hole,.hole,.hole,.hole,.hole,.hole,.hole,.hole,.val (.int .i64 x.fn),.val (.int .i64 x.Q4W)]
def Qh.ls:List (Lf UC):= [.Q1m .int 15,.hole,.hole,.hole,.hole,.hole,.hole,.hole,.hole,.hole,.hole,.hole,.hole,.hole,.hole,.int .i64,.int .i64]
def Qh.toS (t:HL D Qh.ls):Qh:=let t6:=t.2.2.2.2.2.2;let t12:=t6.2.2.2.2.2.2;⟨t.1,t12.2.2.2.1,t12.2.2.2.2.1⟩
def Qh.dec (l:List Cel):Option Qh:=match Q47 Qh.ls l with
 |some t=>some (Qh.toS t)
 |none=>none
def QB.enc (x:QB):List (Cel):= [.val (.int .i64 x.fsync.fType),.val (.int .i64 x.fsync.Q1v),.val (.int .i64 x.fsync.Q1W),.val (.int .i64 x.fsync.Q4B),.val (.int .u64 x.fsync.Q1G.QF),.val (.int .i64 x.fsync.Q1G.QW),.val (.int .i64 x.fsync.Q36),.val (.int .i64 x.fsync.Q6y),.val (.int .i64 x.fsync.Q4h),.val (.int .u64 x.fsync.Q2i.QF),.val (.int .i64 x.fsync.Q2i.QW),.val (.int .i64 x.fsync.Q37),.val (.int .i64 x.fsync.Q17),.val (.int .i64 x.fsync.Qu.Q1M),.val (.int .i64 x.fsync.Qu.Q1r),.val (.int .i64 x.fsync.Qu.Q1B),.val (.int .i64 x.fsync.Q18),.val (.int .u64 x.fsync.Q2Q),.val (.int .i64 x.fsync.Q2g),.val (.int .i64 x.fsync.Q1N),.val (.int .i64 x.fsync.Q2X),.val (.int .i64 x.fsync.Q4X),.val (.int .i64 x.fsync.Q3E),.val (.int .i64 x.Q2r.fType),.val (.int .i64 x.Q2r.Q1v),.val (.int .i64 x.Q2r.Q1W),.val (.int .i64 x.Q2r.Q4B),.val (.int .u64 x.Q2r.Q1G.QF),.val (.int .i64 x.Q2r.Q1G.QW),.val (.int .i64 x.Q2r.Q36),.val (.int .i64 x.Q2r.Q6y),.val (.int .i64 x.Q2r.Q4h),.val (.int .u64 x.Q2r.Q2i.QF),.val (.int .i64 x.Q2r.Q2i.QW),.val (.int .i64 x.Q2r.Q37),.val (.int .i64 x.Q2r.Q17),.val (.int .i64 x.Q2r.Qu.Q1M),.val (.int .i64 x.Q2r.Qu.Q1r),.val (.int .i64 x.Q2r.Qu.Q1B),.val (.int .i64 x.Q2r.Q18),.val (.int .u64 x.Q2r.Q2Q),.val (.int .i64 x.Q2r.Q2g),.val (.int .i64 x.Q2r.Q1N),.val (.int .i64 x.Q2r.Q2X),.val (.int .i64 x.Q2r.Q4X),.val (.int .i64 x.Q2r.Q3E),.val (.int .i64 x.fat),.val (.bool x.Qaa),.val (.bool x.Q6p)]
def QB.ls:List (Lf UC):= [.int .i64,.int .i64,.int .i64,.int .i64,.int .u64,.int .i64,.int .i64,.int .i64,.int .i64,.int .u64,.int .i64,.int .i64,.int .i64,.int .i64,.int .i64,.int .i64,.int .i64,.int .u64,.int .i64,.int .i64,.int .i64,.int .i64,.int .i64,.int .i64,.int .i64,.int .i64,.int .i64,.int .u64,.int .i64,.int .i64,.int .i64,.int .i64,.int .u64,.int .i64,.int .i64,.int .i64,.int .i64,.int .i64,.int .i64,.int .i64,.int .u64,.int .i64,.int .i64,.int .i64,.int .i64,.int .i64,.int .i64,.bool,.bool]
def QB.toS (t:HL D QB.ls):QB:=let t6:=t.2.2.2.2.2.2;let t12:=t6.2.2.2.2.2.2;let t18:=t12.2.2.2.2.2.2;let t24:=t18.2.2.2.2.2.2;let t30:=t24.2.2.2.2.2.2;let t36:=t30.2.2.2.2.2.2;let t42:=t36.2.2.2.2.2.2;let t48:=t42.2.2.2.2.2.2;⟨⟨t.1,t.2.1,t.2.2.1,t.2.2.2.1,⟨t.2.2.2.2.1,t.2.2.2.2.2.1⟩,t6.1,t6.2.1,t6.2.2.1,⟨t6.2.2.2.1,t6.2.2.2.2.1⟩,t6.2.2.2.2.2.1,t12.1,⟨t12.2.1,t12.2.2.1,t12.2.2.2.1⟩,t12.2.2.2.2.1,t12.2.2.2.2.2.1,t18.1,t18.2.1,t18.2.2.1,t18.2.2.2.1,t18.2.2.2.2.1⟩,⟨t18.2.2.2.2.2.1,t24.1,t24.2.1,t24.2.2.1,⟨t24.2.2.2.1,t24.2.2.2.2.1⟩,t24.2.2.2.2.2.1,t30.1,t30.2.1,⟨t30.2.2.1,t30.2.2.2.1⟩,t30.2.2.2.2.1,t30.2.2.2.2.2.1,⟨t36.1,t36.2.1,t36.2.2.1⟩,t36.2.2.2.1,t36.2.2.2.2.1,t36.2.2.2.2.2.1,t42.1,t42.2.1,t42.2.2.1,t42.2.2.2.1⟩,t42.2.2.2.2.1,t42.2.2.2.2.2.1,t48.1⟩
def QB.dec (l:List Cel):Option QB:=match Q47 QB.ls l with
 |some t=>some (QB.toS t)
 |none=>none
def Q12.enc (x:Q12):List (Cel):= [.val (.int .i64 x.Q60),.val (.int .i64 x.fat),.val (.bool x.Q8G),.val (.bool x.Q6D)]
def Q12.ls:List (Lf UC):= [.int .i64,.int .i64,.bool,.bool]
def Q12.toS (t:HL D Q12.ls):Q12:=⟨t.1,t.2.1,t.2.2.1,t.2.2.2.1⟩
def Q12.dec (l:List Cel):Option Q12:=match Q47 Q12.ls l with
 |some t=>some (Q12.toS t)
 |none=>none
def Qg.enc (x:Qg):List (Cel):= [.val (.int .u64 x.Q5V.QF),.val (.int .i64 x.Q5V.QW),.val (.int .i64 x.Q6Y),.val (.int .i64 x.fr.Q60),.val (.int .i64 x.fr.fat),.val (.bool x.fr.Q8G),.val (.bool x.fr.Q6D)]
def Qg.ls:List (Lf UC):= [.int .u64,.int .i64,.int .i64,.int .i64,.int .i64,.bool,.bool]
def Qg.toS (t:HL D Qg.ls):Qg:=⟨⟨t.1,t.2.1⟩,t.2.2.1,⟨t.2.2.2.1,t.2.2.2.2.1,t.2.2.2.2.2.1,t.2.2.2.2.2.2.1⟩⟩
def Qg.dec (l:List Cel):Option Qg:=match Q47 Qg.ls l with
 |some t=>some (Qg.toS t)
 |none=>none
def Qc.enc (x:Qc):List (Cel):= [.val (.int .u64 x.Q5V.QF),.val (.int .i64 x.Q5V.QW),.val (.int .i64 x.Q6Y),.val (.int .i64 x.Q60),.val (.int .i64 x.fat),.val (.bool x.Q8G),.val (.bool x.Q6D),.val (.bool x.Q4Z),.val (.bool x.Q9v),.val (.int .i64 x.Q1Q.fType),.val (.int .i64 x.Q1Q.Q1v),.val (.int .i64 x.Q1Q.Q1W),.val (.int .i64 x.Q1Q.Q4B),.val (.int .u64 x.Q1Q.Q1G.QF),.val (.int .i64 x.Q1Q.Q1G.QW),.val (.int .i64 x.Q1Q.Q36),.val (.int .i64 x.Q1Q.Q6y),.val (.int .i64 x.Q1Q.Q4h),.val (.int .u64 x.Q1Q.Q2i.QF),.val (.int .i64 x.Q1Q.Q2i.QW),.val (.int .i64 x.Q1Q.Q37),.val (.int .i64 x.Q1Q.Q17),.val (.int .i64 x.Q1Q.Qu.Q1M),.val (.int .i64 x.Q1Q.Qu.Q1r),.val (.int .i64 x.Q1Q.Qu.Q1B),.val (.int .i64 x.Q1Q.Q18),.val (.int .u64 x.Q1Q.Q2Q),.val (.int .i64 x.Q1Q.Q2g),.val (.int .i64 x.Q1Q.Q1N),.val (.int .i64 x.Q1Q.Q2X),.val (.int .i64 x.Q1Q.Q4X),.val (.int .i64 x.Q1Q.Q3E),.val (.int .i64 x.Qb6)]
def Qc.ls:List (Lf UC):= [.int .u64,.int .i64,.int .i64,.int .i64,.int .i64,.bool,.bool,.bool,.bool,.int .i64,.int .i64,.int .i64,.int .i64,.int .u64,.int .i64,.int .i64,.int .i64,.int .i64,.int .u64,.int .i64,.int .i64,.int .i64,.int .i64,.int .i64,.int .i64,.int .i64,.int .u64,.int .i64,.int .i64,.int .i64,.int .i64,.int .i64,.int .i64]
def Qc.toS (t:HL D Qc.ls):Qc:=let t6:=t.2.2.2.2.2.2;let t12:=t6.2.2.2.2.2.2;let t18:=t12.2.2.2.2.2.2;let t24:=t18.2.2.2.2.2.2;let t30:=t24.2.2.2.2.2.2;⟨⟨t.1,t.2.1⟩,t.2.2.1,t.2.2.2.1,t.2.2.2.2.1,t.2.2.2.2.2.1,t6.1,t6.2.1,t6.2.2.1,⟨t6.2.2.2.1,t6.2.2.2.2.1,t6.2.2.2.2.2.1,t12.1,⟨t12.2.1,t12.2.2.1⟩,t12.2.2.2.1,t12.2.2.2.2.1,t12.2.2.2.2.2.1,⟨t18.1,t18.2.1⟩,t18.2.2.1,t18.2.2.2.1,⟨t18.2.2.2.2.1,t18.2.2.2.2.2.1,t24.1⟩,t24.2.1,t24.2.2.1,t24.2.2.2.1,t24.2.2.2.2.1,t24.2.2.2.2.2.1,t30.1,t30.2.1⟩,t30.2.2.1⟩
def Qc.dec (l:List Cel):Option Qc:=match Q47 Qc.ls l with
 |some t=>some (Qc.toS t)
 |none=>none
def Q29.enc (x:Q29):List (Cel):= [.val (.int .u64 x.Q5t.QF),.val (.int .i64 x.Q5t.QW),.val (.int .i64 x.Q60)]
def Q29.ls:List (Lf UC):= [.int .u64,.int .i64,.int .i64]
def Q29.toS (t:HL D Q29.ls):Q29:=⟨⟨t.1,t.2.1⟩,t.2.2.1⟩
def Q29.dec (l:List Cel):Option Q29:=match Q47 Q29.ls l with
 |some t=>some (Q29.toS t)
 |none=>none
def Q1w.enc (x:Q1w):List (Cel):= [.val (.int .u64 x.QS.QF),.val (.int .i64 x.QS.Qv),.val (.int .i64 x.QS.Q1v),.val (.int .i64 x.QS.Q17),.val (.int .i64 x.QS.Q18),.val (.int .i64 x.QS.Qu.Q1M),.val (.int .i64 x.QS.Qu.Q1r),.val (.int .i64 x.QS.Qu.Q1B),.val (.bool x.QS.Q25),.val (.int .i64 x.QS.Q3z),.val (.int .i64 x.QS.Q2G),.val (.int .i64 x.QS.Q2E),.val (.int .i64 x.QS.Q3b),.val (.bool x.QS.Q4g),.val (.bool x.QS.Q4C),.val (.int .i64 x.QS.Q3M),.val (.int .i64 x.QS.fKp),.val (.int .i64 x.QS.fKi),.val (.int .i64 x.QS.Q55),.val (.int .i64 x.QS.Q1b.Q37),.val (.int .i64 x.QS.Q1b.Q1W),.val (.int .i64 x.QS.Q1b.Q1N),.val (.bool x.QS.Q6j),.val (.int .u64 x.Q39.QW.QF),.val (.int .i64 x.Q39.QW.QW),.val (.int .u64 x.Q39.Q2Q),.val (.int .i64 x.Q39.Qu.Q1M),.val (.int .i64 x.Q39.Qu.Q1r),.val (.int .i64 x.Q39.Qu.Q1B),.val (.int .i64 x.Q39.Q17),.val (.int .i64 x.Q39.Q18),.val (.int .i64 x.Q39.Q2g),.val (.int .i64 x.Q39.Q1b.Q37),.val (.int .i64 x.Q39.Q1b.Q1W),.val (.int .i64 x.Q39.Q1b.Q1N),.val (.int .i64 x.QaG),.val (.int .i64 x.Qbp),.val (.int .i64 x.Q6O),.val (.int .i64 x.QbW),.val (.int .i64 x.Q4g),.val (.int .i64 x.QW)]
def Q1w.ls:List (Lf UC):= [.int .u64,.int .i64,.int .i64,.int .i64,.int .i64,.int .i64,.int .i64,.int .i64,.bool,.int .i64,.int .i64,.int .i64,.int .i64,.bool,.bool,.int .i64,.int .i64,.int .i64,.int .i64,.int .i64,.int .i64,.int .i64,.bool,.int .u64,.int .i64,.int .u64,.int .i64,.int .i64,.int .i64,.int .i64,.int .i64,.int .i64,.int .i64,.int .i64,.int .i64,.int .i64,.int .i64,.int .i64,.int .i64,.int .i64,.int .i64]
def Q1w.toS (t:HL D Q1w.ls):Q1w:=let t6:=t.2.2.2.2.2.2;let t12:=t6.2.2.2.2.2.2;let t18:=t12.2.2.2.2.2.2;let t24:=t18.2.2.2.2.2.2;let t30:=t24.2.2.2.2.2.2;let t36:=t30.2.2.2.2.2.2;⟨⟨t.1,t.2.1,t.2.2.1,t.2.2.2.1,t.2.2.2.2.1,⟨t.2.2.2.2.2.1,t6.1,t6.2.1⟩,t6.2.2.1,t6.2.2.2.1,t6.2.2.2.2.1,t6.2.2.2.2.2.1,t12.1,t12.2.1,t12.2.2.1,t12.2.2.2.1,t12.2.2.2.2.1,t12.2.2.2.2.2.1,t18.1,⟨t18.2.1,t18.2.2.1,t18.2.2.2.1⟩,t18.2.2.2.2.1⟩,⟨⟨t18.2.2.2.2.2.1,t24.1⟩,t24.2.1,⟨t24.2.2.1,t24.2.2.2.1,t24.2.2.2.2.1⟩,t24.2.2.2.2.2.1,t30.1,t30.2.1,⟨t30.2.2.1,t30.2.2.2.1,t30.2.2.2.2.1⟩⟩,t30.2.2.2.2.2.1,t36.1,t36.2.1,t36.2.2.1,t36.2.2.2.1,t36.2.2.2.2.1⟩
def Q1w.dec (l:List Cel):Option Q1w:=match Q47 Q1w.ls l with
 |some t=>some (Q1w.toS t)
 |none=>none
def Qah:List Cel->Option UInt8
 | [.val (.int .u8 n)]=>some (UInt8.ofNat n.toNat)
 |_=>none
def Q9m:List Cel->Option (Int)
 | [c]=>Q88 .i64 c
 |_=>none
def Q6i:List Cel->Option (List (Qi))
 | [c]=>Z2v (C:=UC) (D:=D) .QX c
 |_=>none
def Q8I:List Cel->Option (Bool)
 | [c]=>Z3J c
 |_=>none
def Q5J:List Cel->Option (Option (Qj))
 | [c]=>Z4E (C:=UC) (D:=D) .Q1a c
 |_=>none
def Q9l:List Cel->Option (Int)
 | [c]=>Q88 .u64 c
 |_=>none
def Q84:List Cel->Option (List (Int))
 | [c]=>Z2v (C:=UC) (D:=D) .int c
 |_=>none
def Q8j:List Cel->Option (List (Int))
 | [c]=>Z2v (C:=UC) (D:=D) .u64 c
 |_=>none
def ofT (t:Nat):Option UC:=match t with|2=>some .int|3=>some .int|4=>some .bool|5=>some .u8|6=>some .u8|12=>some .u64|22=>some .Q6e|26=>some .int|28=>some .u64|30=>some .Q2v|32=>some .Q4n|34=>some .Q1e|43=>some .Q2p|49=>some .Qw|51=>some .Ql|52=>some .Q4k|54=>some .Q1n|69=>some .Q1H|74=>some .Q2b|79=>some .Q1F|97=>some .Q3x|125=>some .Q1a|127=>some .QC|136=>some .Q1t|141=>some .Q1k|143=>some .Q3L|145=>some .Q14|147=>some .Q15|149=>some .Q1L|168=>some .QX|171=>some .Q1R|214=>some .Q4G|221=>some .u64|226=>some .Q3a|265=>some .u8|266=>some .u8|_=>none
def U:QZ where
 C:=UC
 D:=D
 dft:=λu=>match u with| .u8=>0| .int=>0| .Q1n=>QD.zero| .Q2p=>Qz.zero| .Q1e=>Q8.zero| .Q2v=>Qy.zero| .Q4n=>Q1d.zero| .Ql=>Q9.zero| .Qw=>Qf.zero| .Q4k=>[]| .QX=>Qi.zero| .Q3x=>QJ.zero| .QC=>Qd.zero| .Q1a=>Qj.zero| .QI=>Q5.zero| .Q1H=>QT.zero| .Q2b=>Q16.zero| .bool=>false| .Q1L=>none| .u64=>0| .Q6e=>[]| .Q1F=>QY.zero| .Q7=>Q1.zero| .QA=>Qb.zero| .Q1t=>Qp.zero| .Q19=>Qh.zero| .Q1k=>QB.zero| .Q3L=>Q12.zero| .Q14=>Qg.zero| .Q15=>Qc.zero| .Q4G=>Q29.zero| .Q3a=>Q1w.zero| .Q1R=>[]
 size:=λu=>match u with| .u8=>1| .int=>1| .Q1n=>57| .Q2p=>29| .Q1e=>23| .Q2v=>3| .Q4n=>3| .Ql=>23| .Qw=>2| .Q4k=>1| .QX=>2| .Q3x=>7| .QC=>17| .Q1a=>11| .QI=>42| .Q1H=>1| .Q2b=>2| .bool=>1| .Q1L=>1| .u64=>1| .Q6e=>1| .Q1F=>12| .Q7=>379| .QA=>89| .Q1t=>7| .Q19=>17| .Q1k=>49| .Q3L=>4| .Q14=>7| .Q15=>33| .Q4G=>3| .Q3a=>41| .Q1R=>1
 enc:=λu=>match u with
  | .u8=>λx=>[.val (.int .u8 x.toNat)]
  | .int=>λx=>[.val (.int .i64 x)]
  | .Q1n=>QD.enc
  | .Q2p=>Qz.enc
  | .Q1e=>Q8.enc
  | .Q2v=>Qy.enc
  | .Q4n=>Q1d.enc
  | .Ql=>Q9.enc
  | .Qw=>Qf.enc
  | .Q4k=>λx=>[.isl .none .QX x]
  | .QX=>Qi.enc
  | .Q3x=>QJ.enc
  | .QC=>Qd.enc
  | .Q1a=>Qj.enc
  | .QI=>Q5.enc
  | .Q1H=>QT.enc
  | .Q2b=>Q16.enc
  | .bool=>λx=>[.val (.bool x)]
  | .Q1L=>λx=>[.Q3v .Q1a x]
  | .u64=>λx=>[.val (.int .u64 x)]
  | .Q6e=>λx=>[.isl .none .int x]
  | .Q1F=>QY.enc
  | .Q7=>Q1.enc
  | .QA=>Qb.enc
  | .Q1t=>Qp.enc
  | .Q19=>Qh.enc
  | .Q1k=>QB.enc
  | .Q3L=>Q12.enc
  | .Q14=>Qg.enc
  | .Q15=>Qc.enc
  | .Q4G=>Q29.enc
  | .Q3a=>Q1w.enc
  | .Q1R=>λx=>[.isl .none .u64 x]
 dec:=λu=>match u with
  | .u8=>Qah
  | .int=>Q9m
  | .Q1n=>QD.dec
  | .Q2p=>Qz.dec
  | .Q1e=>Q8.dec
  | .Q2v=>Qy.dec
  | .Q4n=>Q1d.dec
  | .Ql=>Q9.dec
  | .Qw=>Qf.dec
  | .Q4k=>Q6i
  | .QX=>Qi.dec
  | .Q3x=>QJ.dec
  | .QC=>Qd.dec
  | .Q1a=>Qj.dec
  | .QI=>Q5.dec
  | .Q1H=>QT.dec
  | .Q2b=>Q16.dec
  | .bool=>Q8I
  | .Q1L=>Q5J
  | .u64=>Q9l
  | .Q6e=>Q84
  | .Q1F=>QY.dec
  | .Q7=>Q1.dec
  | .QA=>Qb.dec
  | .Q1t=>Qp.dec
  | .Q19=>Qh.dec
  | .Q1k=>QB.dec
  | .Q3L=>Q12.dec
  | .Q14=>Qg.dec
  | .Q15=>Qc.dec
  | .Q4G=>Q29.dec
  | .Q3a=>Q1w.dec
  | .Q1R=>Q8j
 ofType:=ofT
 eq? :=λu v=>if h:u=v then some ⟨h⟩ else none
 plain:=λu=>match u with| .Q7=>false| .QA=>false| .Q19=>false|_=>true
 Q64:=λu=>match u with| .u8=>λl=>some l|_=>λ_=>none
 u8:= .u8
 ofBytes:=λl=>l
 QcF:=λt=>match t with|67=>some 7|_=>none
 nf:=8
 famT:=λt=>match t with|83=>some (0,.Q7)|136=>some (1,.Q1t)|130=>some (2,.QA)|145=>some (3,.Q14)|147=>some (4,.Q15)|139=>some (5,.Q19)|141=>some (6,.Q1k)|_=>none
 nn:=λf=>match f with|_=>true
 Q7p:=λv u k=>match v with| .QI=>(match u with| .Q1H=>(bif Nat.beq k 3 then some (λx y=>({ x with Q4j:=y}:Q5)) else bif Nat.beq k 4 then some (λx y=>({ x with Q5n:=y}:Q5)) else bif Nat.beq k 5 then some (λx y=>({ x with Q4Y:=y}:Q5)) else bif Nat.beq k 6 then some (λx y=>({ x with fsync:=y}:Q5)) else bif Nat.beq k 7 then some (λx y=>({ x with Q79:=y}:Q5)) else none)| .Q2b=>(bif Nat.beq k 14 then some (λx y=>({ x with Q7f:=y}:Q5)) else bif Nat.beq k 16 then some (λx y=>({ x with Q3g:=y}:Q5)) else none)| .Ql=>(bif Nat.beq k 18 then some (λx y=>({ x with Q2C:=y}:Q5)) else none)|_=>none)|_=>none
abbrev DC {α:Type} (enc:α->List Cel) (ls:List (Lf UC)) (dec:List Cel->Option α):Prop:=∀{l:List Cel} {x:α},dec l=some x->l.length=ls.length/\∀(k:Nat) y,l[k]? =some y->∃z,(enc x)[k]? =some z/\SLe U y z
theorem dcl {α:Type} {ls:List (Lf UC)} {enc:α->List Cel} {dec:List Cel->Option α} (toS:HL D ls->α) (hd:∀l,dec l=match Q47 ls l with|some t=>some (toS t)|none=>none) (he:∀t,enc (toS t)=Qb9 ls t) (hb:ls.all (Lf.okN U.nf)=true):DC enc ls dec:=by
 intro l x h
 rw [hd] at h
 split at h
 ·rename_i t ht
  cases h
  rw [he]
  exact Z6h (U:=U) hb ht
 ·cases h
theorem Qy.QH:DC Qy.enc Qy.ls Qy.dec:=dcl (enc:=Qy.enc) (dec:=Qy.dec) Qy.toS (λ_=>by kernel_rfl) (λt=>by kernel_rfl) (by decide)
theorem Q1d.QH:DC Q1d.enc Q1d.ls Q1d.dec:=dcl (enc:=Q1d.enc) (dec:=Q1d.dec) Q1d.toS (λ_=>by kernel_rfl) (λt=>by kernel_rfl) (by decide)
theorem Q8.QH:DC Q8.enc Q8.ls Q8.dec:=dcl (enc:=Q8.enc) (dec:=Q8.dec) Q8.toS (λ_=>by kernel_rfl) (λt=>by kernel_rfl) (by decide)
theorem Qz.QH:DC Qz.enc Qz.ls Qz.dec:=dcl (enc:=Qz.enc) (dec:=Qz.dec) Qz.toS (λ_=>by kernel_rfl) (λt=>by kernel_rfl) (by decide)
theorem Qf.QH:DC Qf.enc Qf.ls Qf.dec:=dcl (enc:=Qf.enc) (dec:=Qf.dec) Qf.toS (λ_=>by kernel_rfl) (λt=>by kernel_rfl) (by decide)
theorem Q9.QH:DC Q9.enc Q9.ls Q9.dec:=dcl (enc:=Q9.enc) (dec:=Q9.dec) Q9.toS (λ_=>by kernel_rfl) (λt=>by kernel_rfl) (by decide)
theorem Qi.QH:DC Qi.enc Qi.ls Qi.dec:=dcl (enc:=Qi.enc) (dec:=Qi.dec) Qi.toS (λ_=>by kernel_rfl) (λt=>by kernel_rfl) (by decide)
theorem QD.QH:DC QD.enc QD.ls QD.dec:=dcl (enc:=QD.enc) (dec:=QD.dec) QD.toS (λ_=>by kernel_rfl) (λt=>by kernel_rfl) (by decide)
theorem QT.QH:DC QT.enc QT.ls QT.dec:=dcl (enc:=QT.enc) (dec:=QT.dec) QT.toS (λ_=>by kernel_rfl) (λt=>by kernel_rfl) (by decide)
theorem Q16.QH:DC Q16.enc Q16.ls Q16.dec:=dcl (enc:=Q16.enc) (dec:=Q16.dec) Q16.toS (λ_=>by kernel_rfl) (λt=>by kernel_rfl) (by decide)
theorem Q5.QH:DC Q5.enc Q5.ls Q5.dec:=dcl (enc:=Q5.enc) (dec:=Q5.dec) Q5.toS (λ_=>by kernel_rfl) (λt=>by kernel_rfl) (by decide)
theorem QY.QH:DC QY.enc QY.ls QY.dec:=dcl (enc:=QY.enc) (dec:=QY.dec) QY.toS (λ_=>by kernel_rfl) (λt=>by kernel_rfl) (by decide)
theorem QJ.QH:DC QJ.enc QJ.ls QJ.dec:=dcl (enc:=QJ.enc) (dec:=QJ.dec) QJ.toS (λ_=>by kernel_rfl) (λt=>by kernel_rfl) (by decide)
theorem Q1.QH:DC Q1.enc Q1.ls Q1.dec:=dcl (enc:=Q1.enc) (dec:=Q1.dec) Q1.toS (λ_=>by kernel_rfl) (λt=>by kernel_rfl) (by decide)
theorem Qj.QH:DC Qj.enc Qj.ls Qj.dec:=dcl (enc:=Qj.enc) (dec:=Qj.dec) Qj.toS (λ_=>by kernel_rfl) (λt=>by kernel_rfl) (by decide)
theorem Qd.QH:DC Qd.enc Qd.ls Qd.dec:=dcl (enc:=Qd.enc) (dec:=Qd.dec) Qd.toS (λ_=>by kernel_rfl) (λt=>by kernel_rfl) (by decide)
theorem Qb.QH:DC Qb.enc Qb.ls Qb.dec:=dcl (enc:=Qb.enc) (dec:=Qb.dec) Qb.toS (λ_=>by kernel_rfl) (λt=>by kernel_rfl) (by decide)
theorem Qp.QH:DC Qp.enc Qp.ls Qp.dec:=dcl (enc:=Qp.enc) (dec:=Qp.dec) Qp.toS (λ_=>by kernel_rfl) (λt=>by kernel_rfl) (by decide)
theorem Qh.QH:DC Qh.enc Qh.ls Qh.dec:=dcl (enc:=Qh.enc) (dec:=Qh.dec) Qh.toS (λ_=>by kernel_rfl) (λt=>by kernel_rfl) (by decide)
theorem QB.QH:DC QB.enc QB.ls QB.dec:=dcl (enc:=QB.enc) (dec:=QB.dec) QB.toS (λ_=>by kernel_rfl) (λt=>by kernel_rfl) (by decide)
theorem Q12.QH:DC Q12.enc Q12.ls Q12.dec:=dcl (enc:=Q12.enc) (dec:=Q12.dec) Q12.toS (λ_=>by kernel_rfl) (λt=>by kernel_rfl) (by decide)
theorem Qg.QH:DC Qg.enc Qg.ls Qg.dec:=dcl (enc:=Qg.enc) (dec:=Qg.dec) Qg.toS (λ_=>by kernel_rfl) (λt=>by kernel_rfl) (by decide)
theorem Qc.QH:DC Qc.enc Qc.ls Qc.dec:=dcl (enc:=Qc.enc) (dec:=Qc.dec) Qc.toS (λ_=>by kernel_rfl) (λt=>by kernel_rfl) (by decide)
theorem Q29.QH:DC Q29.enc Q29.ls Q29.dec:=dcl (enc:=Q29.enc) (dec:=Q29.dec) Q29.toS (λ_=>by kernel_rfl) (λt=>by kernel_rfl) (by decide)
theorem Q1w.QH:DC Q1w.enc Q1w.ls Q1w.dec:=dcl (enc:=Q1w.enc) (dec:=Q1w.dec) Q1w.toS (λ_=>by kernel_rfl) (λt=>by kernel_rfl) (by decide)
theorem Q8x {l:List Cel} {x:UInt8} (h:Qah l=some x):l.length=1/\∀(k:Nat) y,l[k]? =some y->∃z,(U.enc .u8 x)[k]? =some z/\SLe U y z:=by
 unfold Qah at h
 split at h
 ·cases h
  exact Z1v (U:=U) (Z8P (U:=U) trivial)
 ·cases h
theorem Q8b {l:List Cel} {x:Int} (h:Q9m l=some x):l.length=1/\∀(k:Nat) y,l[k]? =some y->∃z,(U.enc .int x)[k]? =some z/\SLe U y z:=by
 unfold Q9m at h
 split at h
 ·exact Z1v (U:=U) (Z4p h)
 ·cases h
theorem Q6g {l:List Cel} {x:List (Qi)} (h:Q6i l=some x):l.length=1/\∀(k:Nat) y,l[k]? =some y->∃z,(U.enc .Q4k x)[k]? =some z/\SLe U y z:=by
 unfold Q6i at h
 split at h
 ·exact Z1v (U:=U) (Z2C h)
 ·cases h
theorem Q82 {l:List Cel} {x:Bool} (h:Q8I l=some x):l.length=1/\∀(k:Nat) y,l[k]? =some y->∃z,(U.enc .bool x)[k]? =some z/\SLe U y z:=by
 unfold Q8I at h
 split at h
 ·exact Z1v (U:=U) (Z5S h)
 ·cases h
theorem Q5P {l:List Cel} {x:Option (Qj)} (h:Q5J l=some x):l.length=1/\∀(k:Nat) y,l[k]? =some y->∃z,(U.enc .Q1L x)[k]? =some z/\SLe U y z:=by
 unfold Q5J at h
 split at h
 ·exact Z1v (U:=U) (Z8e h)
 ·cases h
theorem Q8f {l:List Cel} {x:Int} (h:Q9l l=some x):l.length=1/\∀(k:Nat) y,l[k]? =some y->∃z,(U.enc .u64 x)[k]? =some z/\SLe U y z:=by
 unfold Q9l at h
 split at h
 ·exact Z1v (U:=U) (Z4p h)
 ·cases h
theorem Q7y {l:List Cel} {x:List (Int)} (h:Q84 l=some x):l.length=1/\∀(k:Nat) y,l[k]? =some y->∃z,(U.enc .Q6e x)[k]? =some z/\SLe U y z:=by
 unfold Q84 at h
 split at h
 ·exact Z1v (U:=U) (Z2C h)
 ·cases h
theorem Q7v {l:List Cel} {x:List (Int)} (h:Q8j l=some x):l.length=1/\∀(k:Nat) y,l[k]? =some y->∃z,(U.enc .Q1R x)[k]? =some z/\SLe U y z:=by
 unfold Q8j at h
 split at h
 ·exact Z1v (U:=U) (Z2C h)
 ·cases h
theorem Q68 {k:Nat} {g:D .QI->D .Q1H->D .QI} (h:U.Q7p .QI .Q1H k=some g):(∀x y,U.dec .QI (Q1D k (U.enc .Q1H y) (U.enc .QI x))=some (g x y))/\k+U.size .Q1H<=U.size .QI:=by
 change (bif Nat.beq k 3 then some (λ(x:D .QI) (y:D .Q1H)=>({ x with Q4j:=y}:D .QI)) else bif Nat.beq k 4 then some (λ(x:D .QI) (y:D .Q1H)=>({ x with Q5n:=y}:D .QI)) else bif Nat.beq k 5 then some (λ(x:D .QI) (y:D .Q1H)=>({ x with Q4Y:=y}:D .QI)) else bif Nat.beq k 6 then some (λ(x:D .QI) (y:D .Q1H)=>({ x with fsync:=y}:D .QI)) else bif Nat.beq k 7 then some (λ(x:D .QI) (y:D .Q1H)=>({ x with Q79:=y}:D .QI)) else none)=some g at h
 cases h3:Nat.beq k 3 with
 |true=>rw [h3] at h;cases h;have:=QV h3;subst this;exact ⟨λx y=>by kernel_rfl,by decide⟩
 |false=>
 rw [h3] at h;simp only [cond_false] at h
 cases h4:Nat.beq k 4 with
 |true=>rw [h4] at h;cases h;have:=QV h4;subst this;exact ⟨λx y=>by kernel_rfl,by decide⟩
 |false=>
 rw [h4] at h;simp only [cond_false] at h
 cases h5:Nat.beq k 5 with
 |true=>rw [h5] at h;cases h;have:=QV h5;subst this;exact ⟨λx y=>by kernel_rfl,by decide⟩
 |false=>
 rw [h5] at h;simp only [cond_false] at h
 cases h6:Nat.beq k 6 with
 |true=>rw [h6] at h;cases h;have:=QV h6;subst this;exact ⟨λx y=>by kernel_rfl,by decide⟩
 |false=>
 rw [h6] at h;simp only [cond_false] at h
 cases h7:Nat.beq k 7 with
 |true=>rw [h7] at h;cases h;have:=QV h7;subst this;exact ⟨λx y=>by kernel_rfl,by decide⟩
 |false=>
 rw [h7] at h;simp only [cond_false] at h
 cases h
theorem Q67 {k:Nat} {g:D .QI->D .Q2b->D .QI} (h:U.Q7p .QI .Q2b k=some g):(∀x y,U.dec .QI (Q1D k (U.enc .Q2b y) (U.enc .QI x))=some (g x y))/\k+U.size .Q2b<=U.size .QI:=by
 change (bif Nat.beq k 14 then some (λ(x:D .QI) (y:D .Q2b)=>({ x with Q7f:=y}:D .QI)) else bif Nat.beq k 16 then some (λ(x:D .QI) (y:D .Q2b)=>({ x with Q3g:=y}:D .QI)) else none)=some g at h
 cases h14:Nat.beq k 14 with
 |true=>rw [h14] at h;cases h;have:=QV h14;subst this;exact ⟨λx y=>by kernel_rfl,by decide⟩
 |false=>
 rw [h14] at h;simp only [cond_false] at h
 cases h16:Nat.beq k 16 with
 |true=>rw [h16] at h;cases h;have:=QV h16;subst this;exact ⟨λx y=>by kernel_rfl,by decide⟩
 |false=>
 rw [h16] at h;simp only [cond_false] at h
 cases h
theorem Q6L {k:Nat} {g:D .QI->D .Ql->D .QI} (h:U.Q7p .QI .Ql k=some g):(∀x y,U.dec .QI (Q1D k (U.enc .Ql y) (U.enc .QI x))=some (g x y))/\k+U.size .Ql<=U.size .QI:=by
 change (bif Nat.beq k 18 then some (λ(x:D .QI) (y:D .Ql)=>({ x with Q2C:=y}:D .QI)) else none)=some g at h
 cases h18:Nat.beq k 18 with
 |true=>rw [h18] at h;cases h;have:=QV h18;subst this;exact ⟨λx y=>by kernel_rfl,by decide⟩
 |false=>
 rw [h18] at h;simp only [cond_false] at h
 cases h
theorem Q61:U.Ok where
 QL u x:=by cases u <;> rfl
 Q5B u x hp:=by cases u <;> first|rfl|(cases hp;done)
 Q4T u l x h:=by
  cases u
  case u8=>exact (Q8x h).1
  case int=>exact (Q8b h).1
  case Q1n=>exact (QD.QH h).1
  case Q2p=>exact (Qz.QH h).1
  case Q1e=>exact (Q8.QH h).1
  case Q2v=>exact (Qy.QH h).1
  case Q4n=>exact (Q1d.QH h).1
  case Ql=>exact (Q9.QH h).1
  case Qw=>exact (Qf.QH h).1
  case Q4k=>exact (Q6g h).1
  case QX=>exact (Qi.QH h).1
  case Q3x=>exact (QJ.QH h).1
  case QC=>exact (Qd.QH h).1
  case Q1a=>exact (Qj.QH h).1
  case QI=>exact (Q5.QH h).1
  case Q1H=>exact (QT.QH h).1
  case Q2b=>exact (Q16.QH h).1
  case bool=>exact (Q82 h).1
  case Q1L=>exact (Q5P h).1
  case u64=>exact (Q8f h).1
  case Q6e=>exact (Q7y h).1
  case Q1F=>exact (QY.QH h).1
  case Q7=>exact (Q1.QH h).1
  case QA=>exact (Qb.QH h).1
  case Q1t=>exact (Qp.QH h).1
  case Q19=>exact (Qh.QH h).1
  case Q1k=>exact (QB.QH h).1
  case Q3L=>exact (Q12.QH h).1
  case Q14=>exact (Qg.QH h).1
  case Q15=>exact (Qc.QH h).1
  case Q4G=>exact (Q29.QH h).1
  case Q3a=>exact (Q1w.QH h).1
  case Q1R=>exact (Q7v h).1
 QH u l x h:=by
  cases u
  case u8=>exact (Q8x h).2
  case int=>exact (Q8b h).2
  case Q1n=>exact (QD.QH h).2
  case Q2p=>exact (Qz.QH h).2
  case Q1e=>exact (Q8.QH h).2
  case Q2v=>exact (Qy.QH h).2
  case Q4n=>exact (Q1d.QH h).2
  case Ql=>exact (Q9.QH h).2
  case Qw=>exact (Qf.QH h).2
  case Q4k=>exact (Q6g h).2
  case QX=>exact (Qi.QH h).2
  case Q3x=>exact (QJ.QH h).2
  case QC=>exact (Qd.QH h).2
  case Q1a=>exact (Qj.QH h).2
  case QI=>exact (Q5.QH h).2
  case Q1H=>exact (QT.QH h).2
  case Q2b=>exact (Q16.QH h).2
  case bool=>exact (Q82 h).2
  case Q1L=>exact (Q5P h).2
  case u64=>exact (Q8f h).2
  case Q6e=>exact (Q7y h).2
  case Q1F=>exact (QY.QH h).2
  case Q7=>exact (Q1.QH h).2
  case QA=>exact (Qb.QH h).2
  case Q1t=>exact (Qp.QH h).2
  case Q19=>exact (Qh.QH h).2
  case Q1k=>exact (QB.QH h).2
  case Q3L=>exact (Q12.QH h).2
  case Q14=>exact (Qg.QH h).2
  case Q15=>exact (Qc.QH h).2
  case Q4G=>exact (Q29.QH h).2
  case Q3a=>exact (Q1w.QH h).2
  case Q1R=>exact (Q7v h).2
 Q64 u xs bs h:=by
  cases u <;> first
   |(cases h;done)
   |(cases h;exact ⟨rfl,rfl,λi hi=>rfl⟩)
 Q7p v u k g h:=by
  cases v <;> first
   |(cases h;done)
   |(cases u <;> first|(cases h;done)|exact Q68 h|exact Q67 h|exact Q6L h)
 u8:=rfl
 ofBytes bs:=⟨rfl,λi hi=>rfl⟩
theorem Q4F:U.Pure:=λu x=>by cases u <;> rfl
theorem Qi.Q6z (x:Qi):Qi.dec x.enc=some x:=by kernel_rfl
theorem Qi.Q8l {x y:Qi} (h:x.enc=y.enc):x=y:=by
 have:=congrArg Qi.dec h
 rw [Qi.Q6z,Qi.Q6z] at this
 exact Option.some.inj this
theorem QD.Q6z (x:QD):QD.dec x.enc=some x:=by kernel_rfl
theorem QD.Q8l {x y:QD} (h:x.enc=y.enc):x=y:=by
 have:=congrArg QD.dec h
 rw [QD.Q6z,QD.Q6z] at this
 exact Option.some.inj this
theorem opq {t k n:Nat} {l:List U.S} (h:Q1Y U Tryz.prog t ((l.drop k).take (Tryz.prog.cellsOf t))) (e:Tryz.prog.cellsOf t=n):Q1Y U Tryz.prog t ((l.drop k).take n):=e▸h
theorem z3:Tryz.prog.cellsOf 3=1:=by kernel_rfl
theorem z30:Tryz.prog.cellsOf 30=3:=by kernel_rfl
def Qy.Wf (x:Qy):Prop:=(Lit.int .i64 x.Q1M).wf=true/\(Lit.int .i64 x.Q1r).wf=true/\(Lit.int .i64 x.Q1B).wf=true
theorem Qy.opened {l:List U.S} (h:Q1Y U Tryz.prog 30 l):∃x:Qy,l=x.enc/\x.Wf:=by
 obtain ⟨hl,hf⟩:=h.Q5D Tryz.underlying30
 rw [z30] at hl
 have q0:=opq (t:=3) (k:=0) (hf _ (List.mem_of_getElem? (i:=0) rfl)) z3
 obtain ⟨x0,e0,w0⟩:=q0.toInt Tryz.underlying3
 have q1:=opq (t:=3) (k:=1) (hf _ (List.mem_of_getElem? (i:=1) rfl)) z3
 obtain ⟨x1,e1,w1⟩:=q1.toInt Tryz.underlying3
 have q2:=opq (t:=3) (k:=2) (hf _ (List.mem_of_getElem? (i:=2) rfl)) z3
 obtain ⟨x2,e2,w2⟩:=q2.toInt Tryz.underlying3
 have hnil:l.drop 3= []:=List.drop_eq_nil_of_le (by omega)
 refine ⟨⟨x0,x1,x2⟩,?_,w0,w1,w2⟩
 have e:l.drop 0=l:=rfl
 rw [←e]
 rw [Zb l 0 1 1 rfl,e0,Zb l 1 1 2 rfl,e1,Zb l 2 1 3 rfl,e2,hnil]
 rfl
theorem z32:Tryz.prog.cellsOf 32=3:=by kernel_rfl
def Q1d.Wf (x:Q1d):Prop:=(Lit.int .i64 x.Q37).wf=true/\(Lit.int .i64 x.Q1W).wf=true/\(Lit.int .i64 x.Q1N).wf=true
theorem Q1d.opened {l:List U.S} (h:Q1Y U Tryz.prog 32 l):∃x:Q1d,l=x.enc/\x.Wf:=by
 obtain ⟨hl,hf⟩:=h.Q5D Tryz.underlying32
 rw [z32] at hl
 have q0:=opq (t:=3) (k:=0) (hf _ (List.mem_of_getElem? (i:=0) rfl)) z3
 obtain ⟨x0,e0,w0⟩:=q0.toInt Tryz.underlying3
 have q1:=opq (t:=3) (k:=1) (hf _ (List.mem_of_getElem? (i:=1) rfl)) z3
 obtain ⟨x1,e1,w1⟩:=q1.toInt Tryz.underlying3
 have q2:=opq (t:=3) (k:=2) (hf _ (List.mem_of_getElem? (i:=2) rfl)) z3
 obtain ⟨x2,e2,w2⟩:=q2.toInt Tryz.underlying3
 have hnil:l.drop 3= []:=List.drop_eq_nil_of_le (by omega)
 refine ⟨⟨x0,x1,x2⟩,?_,w0,w1,w2⟩
 have e:l.drop 0=l:=rfl
 rw [←e]
 rw [Zb l 0 1 1 rfl,e0,Zb l 1 1 2 rfl,e1,Zb l 2 1 3 rfl,e2,hnil]
 rfl
theorem z28:Tryz.prog.cellsOf 28=1:=by kernel_rfl
theorem z4:Tryz.prog.cellsOf 4=1:=by kernel_rfl
theorem z34:Tryz.prog.cellsOf 34=23:=by kernel_rfl
def Q8.Wf (x:Q8):Prop:=(Lit.int .u64 x.QF).wf=true/\(Lit.int .i64 x.Qv).wf=true/\(Lit.int .i64 x.Q1v).wf=true/\(Lit.int .i64 x.Q17).wf=true/\(Lit.int .i64 x.Q18).wf=true/\Qy.Wf x.Qu/\True/\(Lit.int .i64 x.Q3z).wf=true/\(Lit.int .i64 x.Q2G).wf=true/\(Lit.int .i64 x.Q2E).wf=true/\(Lit.int .i64 x.Q3b).wf=true/\True/\True/\(Lit.int .i64 x.Q3M).wf=true/\(Lit.int .i64 x.fKp).wf=true/\(Lit.int .i64 x.fKi).wf=true/\(Lit.int .i64 x.Q55).wf=true/\Q1d.Wf x.Q1b/\True
theorem Q8.opened {l:List U.S} (h:Q1Y U Tryz.prog 34 l):∃x:Q8,l=x.enc/\x.Wf:=by
 obtain ⟨hl,hf⟩:=h.Q5D Tryz.underlying34
 rw [z34] at hl
 have q0:=opq (t:=28) (k:=0) (hf _ (List.mem_of_getElem? (i:=0) rfl)) z28
 obtain ⟨x0,e0,w0⟩:=q0.toInt Tryz.underlying28
 have q1:=opq (t:=3) (k:=1) (hf _ (List.mem_of_getElem? (i:=1) rfl)) z3
 obtain ⟨x1,e1,w1⟩:=q1.toInt Tryz.underlying3
 have q2:=opq (t:=3) (k:=2) (hf _ (List.mem_of_getElem? (i:=2) rfl)) z3
 obtain ⟨x2,e2,w2⟩:=q2.toInt Tryz.underlying3
 have q3:=opq (t:=3) (k:=3) (hf _ (List.mem_of_getElem? (i:=3) rfl)) z3
 obtain ⟨x3,e3,w3⟩:=q3.toInt Tryz.underlying3
 have q4:=opq (t:=3) (k:=4) (hf _ (List.mem_of_getElem? (i:=4) rfl)) z3
 obtain ⟨x4,e4,w4⟩:=q4.toInt Tryz.underlying3
 have q5:=opq (t:=30) (k:=5) (hf _ (List.mem_of_getElem? (i:=5) rfl)) z30
 obtain ⟨x5,e5,w5⟩:=Qy.opened q5
 have q6:=opq (t:=4) (k:=8) (hf _ (List.mem_of_getElem? (i:=6) rfl)) z4
 obtain ⟨x6,e6⟩:=q6.toBool Tryz.underlying4
 have w6:=trivial
 have q7:=opq (t:=3) (k:=9) (hf _ (List.mem_of_getElem? (i:=7) rfl)) z3
 obtain ⟨x7,e7,w7⟩:=q7.toInt Tryz.underlying3
 have q8:=opq (t:=3) (k:=10) (hf _ (List.mem_of_getElem? (i:=8) rfl)) z3
 obtain ⟨x8,e8,w8⟩:=q8.toInt Tryz.underlying3
 have q9:=opq (t:=3) (k:=11) (hf _ (List.mem_of_getElem? (i:=9) rfl)) z3
 obtain ⟨x9,e9,w9⟩:=q9.toInt Tryz.underlying3
 have q10:=opq (t:=3) (k:=12) (hf _ (List.mem_of_getElem? (i:=10) rfl)) z3
 obtain ⟨x10,e10,w10⟩:=q10.toInt Tryz.underlying3
 have q11:=opq (t:=4) (k:=13) (hf _ (List.mem_of_getElem? (i:=11) rfl)) z4
 obtain ⟨x11,e11⟩:=q11.toBool Tryz.underlying4
 have w11:=trivial
 have q12:=opq (t:=4) (k:=14) (hf _ (List.mem_of_getElem? (i:=12) rfl)) z4
 obtain ⟨x12,e12⟩:=q12.toBool Tryz.underlying4
 have w12:=trivial
 have q13:=opq (t:=3) (k:=15) (hf _ (List.mem_of_getElem? (i:=13) rfl)) z3
 obtain ⟨x13,e13,w13⟩:=q13.toInt Tryz.underlying3
 have q14:=opq (t:=3) (k:=16) (hf _ (List.mem_of_getElem? (i:=14) rfl)) z3
 obtain ⟨x14,e14,w14⟩:=q14.toInt Tryz.underlying3
 have q15:=opq (t:=3) (k:=17) (hf _ (List.mem_of_getElem? (i:=15) rfl)) z3
 obtain ⟨x15,e15,w15⟩:=q15.toInt Tryz.underlying3
 have q16:=opq (t:=3) (k:=18) (hf _ (List.mem_of_getElem? (i:=16) rfl)) z3
 obtain ⟨x16,e16,w16⟩:=q16.toInt Tryz.underlying3
 have q17:=opq (t:=32) (k:=19) (hf _ (List.mem_of_getElem? (i:=17) rfl)) z32
 obtain ⟨x17,e17,w17⟩:=Q1d.opened q17
 have q18:=opq (t:=4) (k:=22) (hf _ (List.mem_of_getElem? (i:=18) rfl)) z4
 obtain ⟨x18,e18⟩:=q18.toBool Tryz.underlying4
 have w18:=trivial
 have hnil:l.drop 23= []:=List.drop_eq_nil_of_le (by omega)
 refine ⟨⟨x0,x1,x2,x3,x4,x5,x6,x7,x8,x9,x10,x11,x12,x13,x14,x15,x16,x17,x18⟩,?_,w0,w1,w2,w3,w4,w5,w6,w7,w8,w9,w10,w11,w12,w13,w14,w15,w16,w17,w18⟩
 have e:l.drop 0=l:=rfl
 rw [←e]
 rw [Zb l 0 1 1 rfl,e0,Zb l 1 1 2 rfl,e1,Zb l 2 1 3 rfl,e2,Zb l 3 1 4 rfl,e3,Zb l 4 1 5 rfl,e4,Zb l 5 3 8 rfl,e5,Zb l 8 1 9 rfl,e6,Zb l 9 1 10 rfl,e7,Zb l 10 1 11 rfl,e8,Zb l 11 1 12 rfl,e9,Zb l 12 1 13 rfl,e10,Zb l 13 1 14 rfl,e11,Zb l 14 1 15 rfl,e12,Zb l 15 1 16 rfl,e13,Zb l 16 1 17 rfl,e14,Zb l 17 1 18 rfl,e15,Zb l 18 1 19 rfl,e16,Zb l 19 3 22 rfl,e17,Zb l 22 1 23 rfl,e18,hnil]
 rfl
theorem z9:Tryz.prog.cellsOf 9=1:=by kernel_rfl
theorem z43:Tryz.prog.cellsOf 43=29:=by kernel_rfl
def Qz.Wf (x:Qz):Prop:=(Lit.int .i64 x.Q5j).wf=true/\(Lit.int .i64 x.QW).wf=true/\(Lit.int .i64 x.Q6O).wf=true/\(Lit.int .i64 x.fType).wf=true/\(Lit.int .i64 x.Q36).wf=true/\x.Q3h.size<=reachBytes/\Q8.Wf x.QS
theorem Qz.opened {l:List U.S} (h:Q1Y U Tryz.prog 43 l):∃x:Qz,l=x.enc/\x.Wf:=by
 obtain ⟨hl,hf⟩:=h.Q5D Tryz.underlying43
 rw [z43] at hl
 have q0:=opq (t:=3) (k:=0) (hf _ (List.mem_of_getElem? (i:=0) rfl)) z3
 obtain ⟨x0,e0,w0⟩:=q0.toInt Tryz.underlying3
 have q1:=opq (t:=3) (k:=1) (hf _ (List.mem_of_getElem? (i:=1) rfl)) z3
 obtain ⟨x1,e1,w1⟩:=q1.toInt Tryz.underlying3
 have q2:=opq (t:=3) (k:=2) (hf _ (List.mem_of_getElem? (i:=2) rfl)) z3
 obtain ⟨x2,e2,w2⟩:=q2.toInt Tryz.underlying3
 have q3:=opq (t:=3) (k:=3) (hf _ (List.mem_of_getElem? (i:=3) rfl)) z3
 obtain ⟨x3,e3,w3⟩:=q3.toInt Tryz.underlying3
 have q4:=opq (t:=3) (k:=4) (hf _ (List.mem_of_getElem? (i:=4) rfl)) z3
 obtain ⟨x4,e4,w4⟩:=q4.toInt Tryz.underlying3
 have q5:=opq (t:=9) (k:=5) (hf _ (List.mem_of_getElem? (i:=5) rfl)) z9
 obtain ⟨x5,e5,w5⟩:=q5.toStr Tryz.underlying9
 have q6:=opq (t:=34) (k:=6) (hf _ (List.mem_of_getElem? (i:=6) rfl)) z34
 obtain ⟨x6,e6,w6⟩:=Q8.opened q6
 have hnil:l.drop 29= []:=List.drop_eq_nil_of_le (by omega)
 refine ⟨⟨x0,x1,x2,x3,x4,x5,x6⟩,?_,w0,w1,w2,w3,w4,w5,w6⟩
 have e:l.drop 0=l:=rfl
 rw [←e]
 rw [Zb l 0 1 1 rfl,e0,Zb l 1 1 2 rfl,e1,Zb l 2 1 3 rfl,e2,Zb l 3 1 4 rfl,e3,Zb l 4 1 5 rfl,e4,Zb l 5 1 6 rfl,e5,Zb l 6 23 29 rfl,e6,hnil]
 rfl
theorem z49:Tryz.prog.cellsOf 49=2:=by kernel_rfl
def Qf.Wf (x:Qf):Prop:=(Lit.int .u64 x.QF).wf=true/\(Lit.int .i64 x.QW).wf=true
theorem Qf.opened {l:List U.S} (h:Q1Y U Tryz.prog 49 l):∃x:Qf,l=x.enc/\x.Wf:=by
 obtain ⟨hl,hf⟩:=h.Q5D Tryz.underlying49
 rw [z49] at hl
 have q0:=opq (t:=28) (k:=0) (hf _ (List.mem_of_getElem? (i:=0) rfl)) z28
 obtain ⟨x0,e0,w0⟩:=q0.toInt Tryz.underlying28
 have q1:=opq (t:=3) (k:=1) (hf _ (List.mem_of_getElem? (i:=1) rfl)) z3
 obtain ⟨x1,e1,w1⟩:=q1.toInt Tryz.underlying3
 have hnil:l.drop 2= []:=List.drop_eq_nil_of_le (by omega)
 refine ⟨⟨x0,x1⟩,?_,w0,w1⟩
 have e:l.drop 0=l:=rfl
 rw [←e]
 rw [Zb l 0 1 1 rfl,e0,Zb l 1 1 2 rfl,e1,hnil]
 rfl
theorem z51:Tryz.prog.cellsOf 51=23:=by kernel_rfl
def Q9.Wf (x:Q9):Prop:=(Lit.int .i64 x.fType).wf=true/\(Lit.int .i64 x.Q1v).wf=true/\(Lit.int .i64 x.Q1W).wf=true/\(Lit.int .i64 x.Q4B).wf=true/\Qf.Wf x.Q1G/\(Lit.int .i64 x.Q36).wf=true/\(Lit.int .i64 x.Q6y).wf=true/\(Lit.int .i64 x.Q4h).wf=true/\Qf.Wf x.Q2i/\(Lit.int .i64 x.Q37).wf=true/\(Lit.int .i64 x.Q17).wf=true/\Qy.Wf x.Qu/\(Lit.int .i64 x.Q18).wf=true/\(Lit.int .u64 x.Q2Q).wf=true/\(Lit.int .i64 x.Q2g).wf=true/\(Lit.int .i64 x.Q1N).wf=true/\(Lit.int .i64 x.Q2X).wf=true/\(Lit.int .i64 x.Q4X).wf=true/\(Lit.int .i64 x.Q3E).wf=true
theorem Q9.opened {l:List U.S} (h:Q1Y U Tryz.prog 51 l):∃x:Q9,l=x.enc/\x.Wf:=by
 obtain ⟨hl,hf⟩:=h.Q5D Tryz.underlying51
 rw [z51] at hl
 have q0:=opq (t:=3) (k:=0) (hf _ (List.mem_of_getElem? (i:=0) rfl)) z3
 obtain ⟨x0,e0,w0⟩:=q0.toInt Tryz.underlying3
 have q1:=opq (t:=3) (k:=1) (hf _ (List.mem_of_getElem? (i:=1) rfl)) z3
 obtain ⟨x1,e1,w1⟩:=q1.toInt Tryz.underlying3
 have q2:=opq (t:=3) (k:=2) (hf _ (List.mem_of_getElem? (i:=2) rfl)) z3
 obtain ⟨x2,e2,w2⟩:=q2.toInt Tryz.underlying3
 have q3:=opq (t:=3) (k:=3) (hf _ (List.mem_of_getElem? (i:=3) rfl)) z3
 obtain ⟨x3,e3,w3⟩:=q3.toInt Tryz.underlying3
 have q4:=opq (t:=49) (k:=4) (hf _ (List.mem_of_getElem? (i:=4) rfl)) z49
 obtain ⟨x4,e4,w4⟩:=Qf.opened q4
 have q5:=opq (t:=3) (k:=6) (hf _ (List.mem_of_getElem? (i:=5) rfl)) z3
 obtain ⟨x5,e5,w5⟩:=q5.toInt Tryz.underlying3
 have q6:=opq (t:=3) (k:=7) (hf _ (List.mem_of_getElem? (i:=6) rfl)) z3
 obtain ⟨x6,e6,w6⟩:=q6.toInt Tryz.underlying3
 have q7:=opq (t:=3) (k:=8) (hf _ (List.mem_of_getElem? (i:=7) rfl)) z3
 obtain ⟨x7,e7,w7⟩:=q7.toInt Tryz.underlying3
 have q8:=opq (t:=49) (k:=9) (hf _ (List.mem_of_getElem? (i:=8) rfl)) z49
 obtain ⟨x8,e8,w8⟩:=Qf.opened q8
 have q9:=opq (t:=3) (k:=11) (hf _ (List.mem_of_getElem? (i:=9) rfl)) z3
 obtain ⟨x9,e9,w9⟩:=q9.toInt Tryz.underlying3
 have q10:=opq (t:=3) (k:=12) (hf _ (List.mem_of_getElem? (i:=10) rfl)) z3
 obtain ⟨x10,e10,w10⟩:=q10.toInt Tryz.underlying3
 have q11:=opq (t:=30) (k:=13) (hf _ (List.mem_of_getElem? (i:=11) rfl)) z30
 obtain ⟨x11,e11,w11⟩:=Qy.opened q11
 have q12:=opq (t:=3) (k:=16) (hf _ (List.mem_of_getElem? (i:=12) rfl)) z3
 obtain ⟨x12,e12,w12⟩:=q12.toInt Tryz.underlying3
 have q13:=opq (t:=28) (k:=17) (hf _ (List.mem_of_getElem? (i:=13) rfl)) z28
 obtain ⟨x13,e13,w13⟩:=q13.toInt Tryz.underlying28
 have q14:=opq (t:=3) (k:=18) (hf _ (List.mem_of_getElem? (i:=14) rfl)) z3
 obtain ⟨x14,e14,w14⟩:=q14.toInt Tryz.underlying3
 have q15:=opq (t:=3) (k:=19) (hf _ (List.mem_of_getElem? (i:=15) rfl)) z3
 obtain ⟨x15,e15,w15⟩:=q15.toInt Tryz.underlying3
 have q16:=opq (t:=3) (k:=20) (hf _ (List.mem_of_getElem? (i:=16) rfl)) z3
 obtain ⟨x16,e16,w16⟩:=q16.toInt Tryz.underlying3
 have q17:=opq (t:=3) (k:=21) (hf _ (List.mem_of_getElem? (i:=17) rfl)) z3
 obtain ⟨x17,e17,w17⟩:=q17.toInt Tryz.underlying3
 have q18:=opq (t:=3) (k:=22) (hf _ (List.mem_of_getElem? (i:=18) rfl)) z3
 obtain ⟨x18,e18,w18⟩:=q18.toInt Tryz.underlying3
 have hnil:l.drop 23= []:=List.drop_eq_nil_of_le (by omega)
 refine ⟨⟨x0,x1,x2,x3,x4,x5,x6,x7,x8,x9,x10,x11,x12,x13,x14,x15,x16,x17,x18⟩,?_,w0,w1,w2,w3,w4,w5,w6,w7,w8,w9,w10,w11,w12,w13,w14,w15,w16,w17,w18⟩
 have e:l.drop 0=l:=rfl
 rw [←e]
 rw [Zb l 0 1 1 rfl,e0,Zb l 1 1 2 rfl,e1,Zb l 2 1 3 rfl,e2,Zb l 3 1 4 rfl,e3,Zb l 4 2 6 rfl,e4,Zb l 6 1 7 rfl,e5,Zb l 7 1 8 rfl,e6,Zb l 8 1 9 rfl,e7,Zb l 9 2 11 rfl,e8,Zb l 11 1 12 rfl,e9,Zb l 12 1 13 rfl,e10,Zb l 13 3 16 rfl,e11,Zb l 16 1 17 rfl,e12,Zb l 17 1 18 rfl,e13,Zb l 18 1 19 rfl,e14,Zb l 19 1 20 rfl,e15,Zb l 20 1 21 rfl,e16,Zb l 21 1 22 rfl,e17,Zb l 22 1 23 rfl,e18,hnil]
 rfl
theorem z168:Tryz.prog.cellsOf 168=2:=by kernel_rfl
def Qi.Wf (x:Qi):Prop:=(Lit.int .i64 x.fType).wf=true/\x.Q2y.size<=reachBytes
theorem Qi.opened {l:List U.S} (h:Q1Y U Tryz.prog 168 l):∃x:Qi,l=x.enc/\x.Wf:=by
 obtain ⟨hl,hf⟩:=h.Q5D Tryz.underlying168
 rw [z168] at hl
 have q0:=opq (t:=3) (k:=0) (hf _ (List.mem_of_getElem? (i:=0) rfl)) z3
 obtain ⟨x0,e0,w0⟩:=q0.toInt Tryz.underlying3
 have q1:=opq (t:=9) (k:=1) (hf _ (List.mem_of_getElem? (i:=1) rfl)) z9
 obtain ⟨x1,e1,w1⟩:=q1.toStr Tryz.underlying9
 have hnil:l.drop 2= []:=List.drop_eq_nil_of_le (by omega)
 refine ⟨⟨x0,x1⟩,?_,w0,w1⟩
 have e:l.drop 0=l:=rfl
 rw [←e]
 rw [Zb l 0 1 1 rfl,e0,Zb l 1 1 2 rfl,e1,hnil]
 rfl
theorem z52:Tryz.prog.cellsOf 52=1:=by kernel_rfl
theorem zb168:Tryz.prog.bytesOf 168=24:=by kernel_rfl
theorem z54:Tryz.prog.cellsOf 54=57:=by kernel_rfl
def QD.Wf (x:QD):Prop:=(Lit.int .i64 x.fHow).wf=true/\(Lit.int .i64 x.fN).wf=true/\(Lit.int .i64 x.fAt).wf=true/\(Lit.int .i64 x.fBy).wf=true/\Qz.Wf x.fE/\Q9.Wf x.fM/\(x.fL.length*24<=reachBytes/\∀y∈x.fL,Qi.Wf y)
theorem QD.opened {l:List U.S} (h:Q1Y U Tryz.prog 54 l):∃x:QD,l=x.enc/\x.Wf:=by
 obtain ⟨hl,hf⟩:=h.Q5D Tryz.underlying54
 rw [z54] at hl
 have q0:=opq (t:=3) (k:=0) (hf _ (List.mem_of_getElem? (i:=0) rfl)) z3
 obtain ⟨x0,e0,w0⟩:=q0.toInt Tryz.underlying3
 have q1:=opq (t:=3) (k:=1) (hf _ (List.mem_of_getElem? (i:=1) rfl)) z3
 obtain ⟨x1,e1,w1⟩:=q1.toInt Tryz.underlying3
 have q2:=opq (t:=3) (k:=2) (hf _ (List.mem_of_getElem? (i:=2) rfl)) z3
 obtain ⟨x2,e2,w2⟩:=q2.toInt Tryz.underlying3
 have q3:=opq (t:=3) (k:=3) (hf _ (List.mem_of_getElem? (i:=3) rfl)) z3
 obtain ⟨x3,e3,w3⟩:=q3.toInt Tryz.underlying3
 have q4:=opq (t:=43) (k:=4) (hf _ (List.mem_of_getElem? (i:=4) rfl)) z43
 obtain ⟨x4,e4,w4⟩:=Qz.opened q4
 have q5:=opq (t:=51) (k:=33) (hf _ (List.mem_of_getElem? (i:=5) rfl)) z51
 obtain ⟨x5,e5,w5⟩:=Q9.opened q5
 have q6:=opq (t:=52) (k:=56) (hf _ (List.mem_of_getElem? (i:=6) rfl)) z52
 obtain ⟨x6,e6,b6,a6⟩:=q6.Q9W (u:=UC.QX) Tryz.underlying52 rfl
 rw [zb168] at b6
 have w6:=And.intro b6 (λy hy=>(by obtain ⟨x,e,w⟩:=Qi.opened (a6 y hy);have:=Qi.Q8l e;subst this;exact w))
 have hnil:l.drop 57= []:=List.drop_eq_nil_of_le (by omega)
 refine ⟨⟨x0,x1,x2,x3,x4,x5,x6⟩,?_,w0,w1,w2,w3,w4,w5,w6⟩
 have e:l.drop 0=l:=rfl
 rw [←e]
 rw [Zb l 0 1 1 rfl,e0,Zb l 1 1 2 rfl,e1,Zb l 2 1 3 rfl,e2,Zb l 3 1 4 rfl,e3,Zb l 4 29 33 rfl,e4,Zb l 33 23 56 rfl,e5,Zb l 56 1 57 rfl,e6,hnil]
 rfl
theorem Qeh {l:List U.S} (h:Q1Y U Tryz.prog 3 l):∃x:D .int,U.dec .int l=some x/\Q1Y U Tryz.prog 3 (U.enc .int x):=by
 obtain ⟨x,rfl,w⟩:=h.toInt Tryz.underlying3
 exact ⟨x,by kernel_rfl,h⟩
theorem Qdy {l:List U.S} (h:Q1Y U Tryz.prog 54 l):∃x:D .Q1n,U.dec .Q1n l=some x/\Q1Y U Tryz.prog 54 (U.enc .Q1n x):=by
 obtain ⟨x,rfl,w⟩:=QD.opened h
 exact ⟨x,QD.Q6z x,h⟩
theorem Qco {l:List U.S} (h:Q1Y U Tryz.prog 168 l):∃x:D .QX,U.dec .QX l=some x/\Q1Y U Tryz.prog 168 (U.enc .QX x):=by
 obtain ⟨x,rfl,w⟩:=Qi.opened h
 exact ⟨x,Qi.Q6z x,h⟩
def dTs (e:TypeId):Bool:= [3,54,168].contains e
theorem decs:QaQ U Tryz.prog dTs:=by
 intro e u l hd hu h
 have hd:e∈([3,54,168]:List Nat):=List.contains_iff_mem.1 hd
 have hu:ofT e=some u:=hu
 simp only [List.mem_cons,List.not_mem_nil,or_false] at hd
 rcases hd with rfl|rfl|rfl
 ·cases hu;exact Qeh h
 ·cases hu;exact Qdy h
 ·cases hu;exact Qco h
theorem mixed:Tryz.prog.follows .mixedOrders=true:=by kernel_rfl
end Go.Proofs.YtgnabnhggaondabGreat
