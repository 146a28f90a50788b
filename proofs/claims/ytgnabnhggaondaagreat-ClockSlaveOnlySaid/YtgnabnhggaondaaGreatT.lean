/- Typed forms of the functions that these statements reach, proved equal to what the model runs, and laws over them. -/
import Derived.Test.YtgnabnhggaondaaGreatRfD
import Derived.KernelRfl
import Derived.Test.YtgnabnhggaondaaGreatProg
namespace Go.Proofs.YtgnabnhggaondaaGreat
open Go.Rf
set_option linter.unusedVariables false
set_option linter.unusedSimpArgs false
set_option maxRecDepth 100000
structure Qd where
 QI:Int
 QR:Int
structure Qx where
 Q1W:Int
 Q1u:Int
 Q1F:Int
structure Q1b where
 Q3c:Int
 Q1X:Int
 Q1Q:Int
structure Q9 where
 QI:Int
 QB:Int
 Q1D:Int
 Q16:Int
 Q15:Int
 Qv:Qx
 Q2t:Bool
 Q46:Int
 Q3h:Int
 Q3l:Int
 Q3U:Int
 Q4r:Bool
 Q4S:Bool
 Q4s:Int
 fKp:Int
 fKi:Int
 Q5E:Int
 Q1e:Q1b
 Q6L:Bool
structure Qw where
 Q4M:Int
 QR:Int
 Q6x:Int
 fType:Int
 Q2Y:Int
 Q35:ByteArray
 QQ:Q9
structure QJ where
 Q4M:Int
 QR:Int
 fN:Int
 QaM:Bool
 fType:Int
 Q2Y:Int
 Q35:ByteArray
structure Q8 where
 fType:Int
 Q1D:Int
 Q1X:Int
 Q4q:Int
 Q1H:Qd
 Q2Y:Int
 Q6g:Int
 Q44:Int
 Q2e:Qd
 Q3c:Int
 Q16:Int
 Qv:Qx
 Q15:Int
 Q2z:Int
 Q28:Int
 Q1Q:Int
 Q2U:Int
 Q4K:Int
 Q3p:Int
structure Qi where
 fType:Int
 Q2s:ByteArray
structure QF where
 fHow:Int
 fN:Int
 fAt:Int
 fBy:Int
 fE:Qw
 fM:Q8
 fL:List (Qi)
structure QX where
 QR:Qd
 Q2z:Int
 Qv:Qx
 Q16:Int
 Q15:Int
 Q28:Int
 Q1e:Q1b
structure QS where
 Q6F:Int
structure Q13 where
 fv:Int
 fis:Bool
structure Q5 where
 Q1w:Int
 Q5A:Option Nat
 Q5B:Option Nat
 Q45:QS
 Q54:QS
 Q4J:QS
 fsync:QS
 Q6R:QS
 Q6a:Int
 Q7Z:Int
 Q5S:Int
 Q6t:Option Nat
 Q4h:Option Nat
 Q74:Option Nat
 Q6Y:Q13
 Q4a:Q13
 Q2y:Q8
 Q4L:Bool
structure Q1 where
 Qs:Q9
 Qf:Nat->Q5
 Q5k:Int
 Q2b:QX
 Q7i:Option Nat
 Q6I:Option Nat
 Q4W:Int
 Q4h:Q13
 Q1k:Int
 Q2p:List (QJ)
structure Qo where
 fkp:Int
 fki:Int
 Q9t:Int
 Q1w:Int
 Q8d:Int
 Q9T:Int
 Q86:Int
structure Qj where
 Q16:Int
 Qv:Qx
 Q15:Int
 Q2z:Int
 Q28:Int
 Q4H:Qd
 Q5o:Qd
structure Qc where
 Q3g:Qj
 Q1e:Q1b
 Q2Y:Int
 Q7L:Int
 Q9x:Int
structure Qe where
 QaU:Qd
 Qag:Int
 fl:Nat->Qc
 fn:Int
structure QZ where
 Q5K:Int
 fat:Int
 Q8x:Bool
 Q6l:Bool
structure Qg where
 Q5D:Qd
 Q6H:Int
 fr:QZ
structure Qb where
 Q5D:Qd
 Q6H:Int
 Q5K:Int
 fat:Int
 Q8x:Bool
 Q6l:Bool
 Q4L:Bool
 Q92:Bool
 Q1N:Q8
 Qas:Int
structure Qh where
 fl:Nat->Int
 fn:Int
 Q4O:Int
structure Qz where
 fsync:Q8
 Q2o:Q8
 fat:Int
 Q9S:Bool
 Q5Y:Bool
structure Q24 where
 Q5b:Qd
 Q5K:Int
structure Q1t where
 QQ:Q9
 Q30:QX
 Qah:Int
 Qbw:Int
 Q6x:Int
 Qbx:Int
 Q4r:Int
 QR:Int
abbrev Qx.Q8N (x:Qx) (v:Int):Qx:={ x with Q1W:=v}
abbrev Qx.Q9n (x:Qx) (v:Int):Qx:={ x with Q1u:=v}
abbrev Q9.Q8E (x:Q9) (v:Int):Q9:={ x with QB:=v}
abbrev Q9.Q78 (x:Q9) (v:Int):Q9:={ x with Q1D:=v}
abbrev Q9.Q4z (x:Q9) (v:Int):Q9:={ x with Q16:=v}
abbrev Q9.Q50 (x:Q9) (v:Int):Q9:={ x with Q15:=v}
abbrev Q9.Q4D (x:Q9) (v:Qx):Q9:={ x with Qv:=v}
abbrev Q9.Q7j (x:Q9) (v:Bool):Q9:={ x with Q2t:=v}
abbrev Q9.Q8e (x:Q9) (v:Int):Q9:={ x with Q46:=v}
abbrev Q9.Q80 (x:Q9) (v:Int):Q9:={ x with Q3h:=v}
abbrev Q9.Q9o (x:Q9) (v:Int):Q9:={ x with Q3l:=v}
abbrev Q9.Q7Q (x:Q9) (v:Int):Q9:={ x with Q3U:=v}
abbrev Q9.Qbe (x:Q9) (v:Bool):Q9:={ x with Q4r:=v}
abbrev Q9.Q9U (x:Q9) (v:Bool):Q9:={ x with Q4S:=v}
abbrev Q9.Qa1 (x:Q9) (v:Int):Q9:={ x with Q4s:=v}
abbrev Q9.Qb6 (x:Q9) (v:Int):Q9:={ x with Q5E:=v}
abbrev Q9.Qau (x:Q9) (v:Bool):Q9:={ x with Q6L:=v}
abbrev Qw.Q6u (x:Qw) (v:Int):Qw:={ x with Q4M:=v}
abbrev Qw.Qar (x:Qw) (v:ByteArray):Qw:={ x with Q35:=v}
abbrev Q8.Q78 (x:Q8) (v:Int):Q8:={ x with Q1D:=v}
abbrev Q8.Qaj (x:Q8) (v:Int):Q8:={ x with Q1X:=v}
abbrev Q8.Q7x (x:Q8) (v:Int):Q8:={ x with Q44:=v}
abbrev Q8.Q7d (x:Q8) (v:Qd):Q8:={ x with Q2e:=v}
abbrev Q8.Q8t (x:Q8) (v:Int):Q8:={ x with Q3c:=v}
abbrev Q8.Q4z (x:Q8) (v:Int):Q8:={ x with Q16:=v}
abbrev Q8.Q4D (x:Q8) (v:Qx):Q8:={ x with Qv:=v}
abbrev Q8.Q50 (x:Q8) (v:Int):Q8:={ x with Q15:=v}
abbrev Q8.Q7G (x:Q8) (v:Int):Q8:={ x with Q2z:=v}
abbrev Q8.Q7I (x:Q8) (v:Int):Q8:={ x with Q28:=v}
abbrev Q8.Q77 (x:Q8) (v:Int):Q8:={ x with Q1Q:=v}
abbrev Q8.Q6k (x:Q8) (v:Int):Q8:={ x with Q2U:=v}
abbrev Q8.Q71 (x:Q8) (v:Int):Q8:={ x with Q4K:=v}
abbrev Q8.Q6m (x:Q8) (v:Int):Q8:={ x with Q3p:=v}
abbrev Q5.Q3C (x:Q5) (v:Int):Q5:={ x with Q1w:=v}
abbrev Q5.Q5t (x:Q5) (v:Option Nat):Q5:={ x with Q5B:=v}
abbrev Q5.Q3X (x:Q5) (v:QS):Q5:={ x with Q45:=v}
abbrev Q5.Q5j (x:Q5) (v:QS):Q5:={ x with Q54:=v}
abbrev Q5.Q5a (x:Q5) (v:QS):Q5:={ x with Q4J:=v}
abbrev Q5.Q6w (x:Q5) (v:QS):Q5:={ x with fsync:=v}
abbrev Q5.Q6i (x:Q5) (v:QS):Q5:={ x with Q6R:=v}
abbrev Q5.Q98 (x:Q5) (v:Int):Q5:={ x with Q6a:=v}
abbrev Q5.Qay (x:Q5) (v:Int):Q5:={ x with Q7Z:=v}
abbrev Q5.Q9l (x:Q5) (v:Int):Q5:={ x with Q5S:=v}
abbrev Q5.Q5T (x:Q5) (v:Q13):Q5:={ x with Q6Y:=v}
abbrev Q5.Q4Z (x:Q5) (v:Q13):Q5:={ x with Q4a:=v}
abbrev Q5.Q8Q (x:Q5) (v:Q8):Q5:={ x with Q2y:=v}
abbrev Q5.Q6y (x:Q5) (v:Bool):Q5:={ x with Q4L:=v}
abbrev Q1.Q7T (x:Q1) (v:Q9):Q1:={ x with Qs:=v}
abbrev Q1.QT (x:Q1) (v:Nat->Q5):Q1:={ x with Qf:=v}
abbrev Q1.Q8L (x:Q1) (v:Int):Q1:={ x with Q5k:=v}
abbrev Q1.Q48 (x:Q1) (v:QX):Q1:={ x with Q2b:=v}
abbrev Q1.Qa3 (x:Q1) (v:Int):Q1:={ x with Q4W:=v}
abbrev Q1.Q6A (x:Q1) (v:Q13):Q1:={ x with Q4h:=v}
abbrev Q1.Q1Y (x:Q1) (v:Int):Q1:={ x with Q1k:=v}
abbrev Q1.Q17 (x:Q1) (v:List (QJ)):Q1:={ x with Q2p:=v}
abbrev Qo.Q3C (x:Qo) (v:Int):Qo:={ x with Q1w:=v}
abbrev Qo.Q73 (x:Qo) (v:Int):Qo:={ x with Q8d:=v}
abbrev Qo.Q8J (x:Qo) (v:Int):Qo:={ x with Q9T:=v}
abbrev Qo.Q6v (x:Qo) (v:Int):Qo:={ x with Q86:=v}
abbrev Qc.Qb0 (x:Qc) (v:Int):Qc:={ x with Q7L:=v}
abbrev Qe.Q9K (x:Qe) (v:Nat->Qc):Qe:={ x with fl:=v}
abbrev Qe.Q7Y (x:Qe) (v:Int):Qe:={ x with fn:=v}
abbrev QZ.Q8V (x:QZ) (v:Int):QZ:={ x with fat:=v}
abbrev QZ.Q83 (x:QZ) (v:Bool):QZ:={ x with Q6l:=v}
abbrev Qg.Q9V (x:Qg) (v:QZ):Qg:={ x with fr:=v}
abbrev Qb.QbV (x:Qb) (v:Int):Qb:={ x with Q5K:=v}
abbrev Qb.Q8V (x:Qb) (v:Int):Qb:={ x with fat:=v}
abbrev Qb.Qcc (x:Qb) (v:Bool):Qb:={ x with Q8x:=v}
abbrev Qb.Q83 (x:Qb) (v:Bool):Qb:={ x with Q6l:=v}
abbrev Qb.Q6y (x:Qb) (v:Bool):Qb:={ x with Q4L:=v}
abbrev Qb.Q9Z (x:Qb) (v:Bool):Qb:={ x with Q92:=v}
abbrev Qb.Q9m (x:Qb) (v:Q8):Qb:={ x with Q1N:=v}
abbrev Qb.QbD (x:Qb) (v:Int):Qb:={ x with Qas:=v}
abbrev Qh.Q7Y (x:Qh) (v:Int):Qh:={ x with fn:=v}
abbrev Qz.Qa2 (x:Qz) (v:Q8):Qz:={ x with Q2o:=v}
abbrev Qz.Q8m (x:Qz) (v:Bool):Qz:={ x with Q5Y:=v}
abbrev Q1t.Qb9 (x:Q1t) (v:Q9):Q1t:={ x with QQ:=v}
def Qd.zero:Qd:=⟨0,0⟩
def Qx.zero:Qx:=⟨0,0,0⟩
def Q1b.zero:Q1b:=⟨0,0,0⟩
def Q9.zero:Q9:=⟨0,0,0,0,0,Qx.zero,false,0,0,0,0,false,false,0,0,0,0,Q1b.zero,false⟩
def Qw.zero:Qw:=⟨0,0,0,0,0,ByteArray.empty,Q9.zero⟩
def QJ.zero:QJ:=⟨0,0,0,false,0,0,ByteArray.empty⟩
def Q8.zero:Q8:=⟨0,0,0,0,Qd.zero,0,0,0,Qd.zero,0,0,Qx.zero,0,0,0,0,0,0,0⟩
def Qi.zero:Qi:=⟨0,ByteArray.empty⟩
def QF.zero:QF:=⟨0,0,0,0,Qw.zero,Q8.zero,[]⟩
def QX.zero:QX:=⟨Qd.zero,0,Qx.zero,0,0,0,Q1b.zero⟩
def QS.zero:QS:=⟨0⟩
def Q13.zero:Q13:=⟨0,false⟩
def Q5.zero:Q5:=⟨0,none,none,QS.zero,QS.zero,QS.zero,QS.zero,QS.zero,0,0,0,none,none,none,Q13.zero,Q13.zero,Q8.zero,false⟩
def Q1.zero:Q1:=⟨Q9.zero,(λ_=>Q5.zero),0,QX.zero,none,none,0,Q13.zero,0,[]⟩
def Qo.zero:Qo:=⟨0,0,0,0,0,0,0⟩
def Qj.zero:Qj:=⟨0,Qx.zero,0,0,0,Qd.zero,Qd.zero⟩
def Qc.zero:Qc:=⟨Qj.zero,Q1b.zero,0,0,0⟩
def Qe.zero:Qe:=⟨Qd.zero,0,(λ_=>Qc.zero),0⟩
def QZ.zero:QZ:=⟨0,0,false,false⟩
def Qg.zero:Qg:=⟨Qd.zero,0,QZ.zero⟩
def Qb.zero:Qb:=⟨Qd.zero,0,0,0,false,false,false,false,Q8.zero,0⟩
def Qh.zero:Qh:=⟨(λ_=>0),0,0⟩
def Qz.zero:Qz:=⟨Q8.zero,Q8.zero,0,false,false⟩
def Q24.zero:Q24:=⟨Qd.zero,0⟩
def Q1t.zero:Q1t:=⟨Q9.zero,QX.zero,0,0,0,0,0,0⟩
inductive UC where
 |u8|Q3j|QW|int|Q1r|Q2j|Q1d|Q2u|Q4b|Qk|Qt|Q49|QA|Q19|QG|Q1I|Q29|u64|bool|Q1K|Q68|Q1G|Q7|Q1x|Qy|Q3x|Q10|Q11|Q18|Q1j|Q4x|Q31|Q1P
 deriving DecidableEq
abbrev D:UC->Type
 | .u8=>UInt8
 | .Q3j=>QJ
 | .QW=>Qi
 | .int=>Int
 | .Q1r=>QF
 | .Q2j=>Qw
 | .Q1d=>Q9
 | .Q2u=>Qx
 | .Q4b=>Q1b
 | .Qk=>Q8
 | .Qt=>Qd
 | .Q49=>List (Qi)
 | .QA=>Qc
 | .Q19=>Qj
 | .QG=>Q5
 | .Q1I=>QS
 | .Q29=>Q13
 | .u64=>Int
 | .bool=>Bool
 | .Q1K=>Option (Qj)
 | .Q68=>List (Int)
 | .Q1G=>QX
 | .Q7=>Q1
 | .Q1x=>Qo
 | .Qy=>Qe
 | .Q3x=>QZ
 | .Q10=>Qg
 | .Q11=>Qb
 | .Q18=>Qh
 | .Q1j=>Qz
 | .Q4x=>Q24
 | .Q31=>Q1t
 | .Q1P=>List (Int)
abbrev Cel:=S UC D
def Qd.enc (x:Qd):List (Cel):= [.val (.int .u64 x.QI),.val (.int .i64 x.QR)]
def Qd.ls:List (Lf UC):= [.int .u64,.int .i64]
def Qd.toS (t:HL D Qd.ls):Qd:=⟨t.1,t.2.1⟩
def Qd.dec (l:List Cel):Option Qd:=match Q3Y Qd.ls l with
 |some t=>some (Qd.toS t)
 |none=>none
def Qx.enc (x:Qx):List (Cel):= [.val (.int .i64 x.Q1W),.val (.int .i64 x.Q1u),.val (.int .i64 x.Q1F)]
def Qx.ls:List (Lf UC):= [.int .i64,.int .i64,.int .i64]
def Qx.toS (t:HL D Qx.ls):Qx:=⟨t.1,t.2.1,t.2.2.1⟩
def Qx.dec (l:List Cel):Option Qx:=match Q3Y Qx.ls l with
 |some t=>some (Qx.toS t)
 |none=>none
def Q1b.enc (x:Q1b):List (Cel):= [.val (.int .i64 x.Q3c),.val (.int .i64 x.Q1X),.val (.int .i64 x.Q1Q)]
def Q1b.ls:List (Lf UC):= [.int .i64,.int .i64,.int .i64]
def Q1b.toS (t:HL D Q1b.ls):Q1b:=⟨t.1,t.2.1,t.2.2.1⟩
def Q1b.dec (l:List Cel):Option Q1b:=match Q3Y Q1b.ls l with
 |some t=>some (Q1b.toS t)
 |none=>none
def Q9.enc (x:Q9):List (Cel):= [.val (.int .u64 x.QI),.val (.int .i64 x.QB),.val (.int .i64 x.Q1D),.val (.int .i64 x.Q16),.val (.int .i64 x.Q15),.val (.int .i64 x.Qv.Q1W),.val (.int .i64 x.Qv.Q1u),.val (.int .i64 x.Qv.Q1F),.val (.bool x.Q2t),.val (.int .i64 x.Q46),.val (.int .i64 x.Q3h),.val (.int .i64 x.Q3l),.val (.int .i64 x.Q3U),.val (.bool x.Q4r),.val (.bool x.Q4S),.val (.int .i64 x.Q4s),.val (.int .i64 x.fKp),.val (.int .i64 x.fKi),.val (.int .i64 x.Q5E),.val (.int .i64 x.Q1e.Q3c),.val (.int .i64 x.Q1e.Q1X),.val (.int .i64 x.Q1e.Q1Q),.val (.bool x.Q6L)]
def Q9.ls:List (Lf UC):= [.int .u64,.int .i64,.int .i64,.int .i64,.int .i64,.int .i64,.int .i64,.int .i64,.bool,.int .i64,.int .i64,.int .i64,.int .i64,.bool,.bool,.int .i64,.int .i64,.int .i64,.int .i64,.int .i64,.int .i64,.int .i64,.bool]
def Q9.toS (t:HL D Q9.ls):Q9:=let t6:=t.2.2.2.2.2.2;let t12:=t6.2.2.2.2.2.2;let t18:=t12.2.2.2.2.2.2;⟨t.1,t.2.1,t.2.2.1,t.2.2.2.1,t.2.2.2.2.1,⟨t.2.2.2.2.2.1,t6.1,t6.2.1⟩,t6.2.2.1,t6.2.2.2.1,t6.2.2.2.2.1,t6.2.2.2.2.2.1,t12.1,t12.2.1,t12.2.2.1,t12.2.2.2.1,t12.2.2.2.2.1,t12.2.2.2.2.2.1,t18.1,⟨t18.2.1,t18.2.2.1,t18.2.2.2.1⟩,t18.2.2.2.2.1⟩
def Q9.dec (l:List Cel):Option Q9:=match Q3Y Q9.ls l with
 |some t=>some (Q9.toS t)
 |none=>none
def Qw.enc (x:Qw):List (Cel):= [.val (.int .i64 x.Q4M),.val (.int .i64 x.QR),.val (.int .i64 x.Q6x),.val (.int .i64 x.fType),.val (.int .i64 x.Q2Y),.val (.string x.Q35),.val (.int .u64 x.QQ.QI),.val (.int .i64 x.QQ.QB),.val (.int .i64 x.QQ.Q1D),.val (.int .i64 x.QQ.Q16),.val (.int .i64 x.QQ.Q15),.val (.int .i64 x.QQ.Qv.Q1W),.val (.int .i64 x.QQ.Qv.Q1u),.val (.int .i64 x.QQ.Qv.Q1F),.val (.bool x.QQ.Q2t),.val (.int .i64 x.QQ.Q46),.val (.int .i64 x.QQ.Q3h),.val (.int .i64 x.QQ.Q3l),.val (.int .i64 x.QQ.Q3U),.val (.bool x.QQ.Q4r),.val (.bool x.QQ.Q4S),.val (.int .i64 x.QQ.Q4s),.val (.int .i64 x.QQ.fKp),.val (.int .i64 x.QQ.fKi),.val (.int .i64 x.QQ.Q5E),.val (.int .i64 x.QQ.Q1e.Q3c),.val (.int .i64 x.QQ.Q1e.Q1X),.val (.int .i64 x.QQ.Q1e.Q1Q),.val (.bool x.QQ.Q6L)]
def Qw.ls:List (Lf UC):= [.int .i64,.int .i64,.int .i64,.int .i64,.int .i64,.str,.int .u64,.int .i64,.int .i64,.int .i64,.int .i64,.int .i64,.int .i64,.int .i64,.bool,.int .i64,.int .i64,.int .i64,.int .i64,.bool,.bool,.int .i64,.int .i64,.int .i64,.int .i64,.int .i64,.int .i64,.int .i64,.bool]
def Qw.toS (t:HL D Qw.ls):Qw:=let t6:=t.2.2.2.2.2.2;let t12:=t6.2.2.2.2.2.2;let t18:=t12.2.2.2.2.2.2;let t24:=t18.2.2.2.2.2.2;⟨t.1,t.2.1,t.2.2.1,t.2.2.2.1,t.2.2.2.2.1,t.2.2.2.2.2.1,⟨t6.1,t6.2.1,t6.2.2.1,t6.2.2.2.1,t6.2.2.2.2.1,⟨t6.2.2.2.2.2.1,t12.1,t12.2.1⟩,t12.2.2.1,t12.2.2.2.1,t12.2.2.2.2.1,t12.2.2.2.2.2.1,t18.1,t18.2.1,t18.2.2.1,t18.2.2.2.1,t18.2.2.2.2.1,t18.2.2.2.2.2.1,t24.1,⟨t24.2.1,t24.2.2.1,t24.2.2.2.1⟩,t24.2.2.2.2.1⟩⟩
def Qw.dec (l:List Cel):Option Qw:=match Q3Y Qw.ls l with
 |some t=>some (Qw.toS t)
 |none=>none
def QJ.enc (x:QJ):List (Cel):= [.val (.int .i64 x.Q4M),.val (.int .i64 x.QR),.val (.int .i64 x.fN),.val (.bool x.QaM),.val (.int .i64 x.fType),.val (.int .i64 x.Q2Y),.val (.string x.Q35)]
def QJ.ls:List (Lf UC):= [.int .i64,.int .i64,.int .i64,.bool,.int .i64,.int .i64,.str]
def QJ.toS (t:HL D QJ.ls):QJ:=⟨t.1,t.2.1,t.2.2.1,t.2.2.2.1,t.2.2.2.2.1,t.2.2.2.2.2.1,t.2.2.2.2.2.2.1⟩
def QJ.dec (l:List Cel):Option QJ:=match Q3Y QJ.ls l with
 |some t=>some (QJ.toS t)
 |none=>none
def Q8.enc (x:Q8):List (Cel):= [.val (.int .i64 x.fType),.val (.int .i64 x.Q1D),.val (.int .i64 x.Q1X),.val (.int .i64 x.Q4q),.val (.int .u64 x.Q1H.QI),.val (.int .i64 x.Q1H.QR),.val (.int .i64 x.Q2Y),.val (.int .i64 x.Q6g),.val (.int .i64 x.Q44),.val (.int .u64 x.Q2e.QI),.val (.int .i64 x.Q2e.QR),.val (.int .i64 x.Q3c),.val (.int .i64 x.Q16),.val (.int .i64 x.Qv.Q1W),.val (.int .i64 x.Qv.Q1u),.val (.int .i64 x.Qv.Q1F),.val (.int .i64 x.Q15),.val (.int .u64 x.Q2z),.val (.int .i64 x.Q28),.val (.int .i64 x.Q1Q),.val (.int .i64 x.Q2U),.val (.int .i64 x.Q4K),.val (.int .i64 x.Q3p)]
def Q8.ls:List (Lf UC):= [.int .i64,.int .i64,.int .i64,.int .i64,.int .u64,.int .i64,.int .i64,.int .i64,.int .i64,.int .u64,.int .i64,.int .i64,.int .i64,.int .i64,.int .i64,.int .i64,.int .i64,.int .u64,.int .i64,.int .i64,.int .i64,.int .i64,.int .i64]
def Q8.toS (t:HL D Q8.ls):Q8:=let t6:=t.2.2.2.2.2.2;let t12:=t6.2.2.2.2.2.2;let t18:=t12.2.2.2.2.2.2;⟨t.1,t.2.1,t.2.2.1,t.2.2.2.1,⟨t.2.2.2.2.1,t.2.2.2.2.2.1⟩,t6.1,t6.2.1,t6.2.2.1,⟨t6.2.2.2.1,t6.2.2.2.2.1⟩,t6.2.2.2.2.2.1,t12.1,⟨t12.2.1,t12.2.2.1,t12.2.2.2.1⟩,t12.2.2.2.2.1,t12.2.2.2.2.2.1,t18.1,t18.2.1,t18.2.2.1,t18.2.2.2.1,t18.2.2.2.2.1⟩
def Q8.dec (l:List Cel):Option Q8:=match Q3Y Q8.ls l with
 |some t=>some (Q8.toS t)
 |none=>none
def Qi.enc (x:Qi):List (Cel):= [.val (.int .i64 x.fType),.val (.string x.Q2s)]
def Qi.ls:List (Lf UC):= [.int .i64,.str]
def Qi.toS (t:HL D Qi.ls):Qi:=⟨t.1,t.2.1⟩
def Qi.dec (l:List Cel):Option Qi:=match Q3Y Qi.ls l with
 |some t=>some (Qi.toS t)
 |none=>none
def QF.enc (x:QF):List (Cel):= [.val (.int .i64 x.fHow),.val (.int .i64 x.fN),.val (.int .i64 x.fAt),.val (.int .i64 x.fBy),.val (.int .i64 x.fE.Q4M),.val (.int .i64 x.fE.QR),.val (.int .i64 x.fE.Q6x),.val (.int .i64 x.fE.fType),.val (.int .i64 x.fE.Q2Y),.val (.string x.fE.Q35),.val (.int .u64 x.fE.QQ.QI),.val (.int .i64 x.fE.QQ.QB),.val (.int .i64 x.fE.QQ.Q1D),.val (.int .i64 x.fE.QQ.Q16),.val (.int .i64 x.fE.QQ.Q15),.val (.int .i64 x.fE.QQ.Qv.Q1W),.val (.int .i64 x.fE.QQ.Qv.Q1u),.val (.int .i64 x.fE.QQ.Qv.Q1F),.val (.bool x.fE.QQ.Q2t),.val (.int .i64 x.fE.QQ.Q46),.val (.int .i64 x.fE.QQ.Q3h),.val (.int .i64 x.fE.QQ.Q3l),.val (.int .i64 x.fE.QQ.Q3U),.val (.bool x.fE.QQ.Q4r),.val (.bool x.fE.QQ.Q4S),.val (.int .i64 x.fE.QQ.Q4s),.val (.int .i64 x.fE.QQ.fKp),.val (.int .i64 x.fE.QQ.fKi),.val (.int .i64 x.fE.QQ.Q5E),.val (.int .i64 x.fE.QQ.Q1e.Q3c),.val (.int .i64 x.fE.QQ.Q1e.Q1X),.val (.int .i64 x.fE.QQ.Q1e.Q1Q),.val (.bool x.fE.QQ.Q6L),.val (.int .i64 x.fM.fType),.val (.int .i64 x.fM.Q1D),.val (.int .i64 x.fM.Q1X),.val (.int .i64 x.fM.Q4q),.val (.int .u64 x.fM.Q1H.QI),.val (.int .i64 x.fM.Q1H.QR),.val (.int .i64 x.fM.Q2Y),.val (.int .i64 x.fM.Q6g),.val (.int .i64 x.fM.Q44),.val (.int .u64 x.fM.Q2e.QI),.val (.int .i64 x.fM.Q2e.QR),.val (.int .i64 x.fM.Q3c),.val (.int .i64 x.fM.Q16),.val (.int .i64 x.fM.Qv.Q1W),.val (.int .i64 x.fM.Qv.Q1u),.val (.int .i64 x.fM.Qv.Q1F),.val (.int .i64 x.fM.Q15),.val (.int .u64 x.fM.Q2z),.val (.int .i64 x.fM.Q28),.val (.int .i64 x.fM.Q1Q),.val (.int .i64 x.fM.Q2U),.val (.int .i64 x.fM.Q4K),.val (.int .i64 x.fM.Q3p),.isl .none .QW x.fL]
def QF.ls:List (Lf UC):= [.int .i64,.int .i64,.int .i64,.int .i64,.int .i64,.int .i64,.int .i64,.int .i64,.int .i64,.str,.int .u64,.int .i64,.int .i64,.int .i64,.int .i64,.int .i64,.int .i64,.int .i64,.bool,.int .i64,.int .i64,.int .i64,.int .i64,.bool,.bool,.int .i64,.int .i64,.int .i64,.int .i64,.int .i64,.int .i64,.int .i64,.bool,.int .i64,.int .i64,.int .i64,.int .i64,.int .u64,.int .i64,.int .i64,.int .i64,.int .i64,.int .u64,.int .i64,.int .i64,.int .i64,.int .i64,.int .i64,.int .i64,.int .i64,.int .u64,.int .i64,.int .i64,.int .i64,.int .i64,.int .i64,.list .QW]
def QF.toS (t:HL D QF.ls):QF:=let t6:=t.2.2.2.2.2.2;let t12:=t6.2.2.2.2.2.2;let t18:=t12.2.2.2.2.2.2;let t24:=t18.2.2.2.2.2.2;let t30:=t24.2.2.2.2.2.2;let t36:=t30.2.2.2.2.2.2;let t42:=t36.2.2.2.2.2.2;let t48:=t42.2.2.2.2.2.2;let t54:=t48.2.2.2.2.2.2;⟨t.1,t.2.1,t.2.2.1,t.2.2.2.1,⟨t.2.2.2.2.1,t.2.2.2.2.2.1,t6.1,t6.2.1,t6.2.2.1,t6.2.2.2.1,⟨t6.2.2.2.2.1,t6.2.2.2.2.2.1,t12.1,t12.2.1,t12.2.2.1,⟨t12.2.2.2.1,t12.2.2.2.2.1,t12.2.2.2.2.2.1⟩,t18.1,t18.2.1,t18.2.2.1,t18.2.2.2.1,t18.2.2.2.2.1,t18.2.2.2.2.2.1,t24.1,t24.2.1,t24.2.2.1,t24.2.2.2.1,t24.2.2.2.2.1,⟨t24.2.2.2.2.2.1,t30.1,t30.2.1⟩,t30.2.2.1⟩⟩,⟨t30.2.2.2.1,t30.2.2.2.2.1,t30.2.2.2.2.2.1,t36.1,⟨t36.2.1,t36.2.2.1⟩,t36.2.2.2.1,t36.2.2.2.2.1,t36.2.2.2.2.2.1,⟨t42.1,t42.2.1⟩,t42.2.2.1,t42.2.2.2.1,⟨t42.2.2.2.2.1,t42.2.2.2.2.2.1,t48.1⟩,t48.2.1,t48.2.2.1,t48.2.2.2.1,t48.2.2.2.2.1,t48.2.2.2.2.2.1,t54.1,t54.2.1⟩,t54.2.2.1⟩
def QF.dec (l:List Cel):Option QF:=match Q3Y QF.ls l with
 |some t=>some (QF.toS t)
 |none=>none
def QX.enc (x:QX):List (Cel):= [.val (.int .u64 x.QR.QI),.val (.int .i64 x.QR.QR),.val (.int .u64 x.Q2z),.val (.int .i64 x.Qv.Q1W),.val (.int .i64 x.Qv.Q1u),.val (.int .i64 x.Qv.Q1F),.val (.int .i64 x.Q16),.val (.int .i64 x.Q15),.val (.int .i64 x.Q28),.val (.int .i64 x.Q1e.Q3c),.val (.int .i64 x.Q1e.Q1X),.val (.int .i64 x.Q1e.Q1Q)]
def QX.ls:List (Lf UC):= [.int .u64,.int .i64,.int .u64,.int .i64,.int .i64,.int .i64,.int .i64,.int .i64,.int .i64,.int .i64,.int .i64,.int .i64]
def QX.toS (t:HL D QX.ls):QX:=let t6:=t.2.2.2.2.2.2;⟨⟨t.1,t.2.1⟩,t.2.2.1,⟨t.2.2.2.1,t.2.2.2.2.1,t.2.2.2.2.2.1⟩,t6.1,t6.2.1,t6.2.2.1,⟨t6.2.2.2.1,t6.2.2.2.2.1,t6.2.2.2.2.2.1⟩⟩
def QX.dec (l:List Cel):Option QX:=match Q3Y QX.ls l with
 |some t=>some (QX.toS t)
 |none=>none
def QS.enc (x:QS):List (Cel):= [.val (.int .i64 x.Q6F)]
def QS.ls:List (Lf UC):= [.int .i64]
def QS.toS (t:HL D QS.ls):QS:=⟨t.1⟩
def QS.dec (l:List Cel):Option QS:=match Q3Y QS.ls l with
 |some t=>some (QS.toS t)
 |none=>none
def Q13.enc (x:Q13):List (Cel):= [.val (.int .i64 x.fv),.val (.bool x.fis)]
def Q13.ls:List (Lf UC):= [.int .i64,.bool]
def Q13.toS (t:HL D Q13.ls):Q13:=⟨t.1,t.2.1⟩
def Q13.dec (l:List Cel):Option Q13:=match Q3Y Q13.ls l with
 |some t=>some (Q13.toS t)
 |none=>none
def Q5.enc (x:Q5):List (Cel):= [.val (.int .i64 x.Q1w),.ref 6 x.Q5A,.Q3O 12 x.Q5B,.val (.int .i64 x.Q45.Q6F),.val (.int .i64 x.Q54.Q6F),.val (.int .i64 x.Q4J.Q6F),.val (.int .i64 x.fsync.Q6F),.val (.int .i64 x.Q6R.Q6F),.val (.int .i64 x.Q6a),.val (.int .i64 x.Q7Z),.val (.int .i64 x.Q5S),.ref 10 x.Q6t,.ref 7 x.Q4h,.ref 8 x.Q74,.val (.int .i64 x.Q6Y.fv),.val (.bool x.Q6Y.fis),.val (.int .i64 x.Q4a.fv),.val (.bool x.Q4a.fis),.val (.int .i64 x.Q2y.fType),.val (.int .i64 x.Q2y.Q1D),.val (.int .i64 x.Q2y.Q1X),.val (.int .i64 x.Q2y.Q4q),.val (.int .u64 x.Q2y.Q1H.QI),.val (.int .i64 x.Q2y.Q1H.QR),.val (.int .i64 x.Q2y.Q2Y),.val (.int .i64 x.Q2y.Q6g),.val (.int .i64 x.Q2y.Q44),.val (.int .u64 x.Q2y.Q2e.QI),.val (.int .i64 x.Q2y.Q2e.QR),.val (.int .i64 x.Q2y.Q3c),.val (.int .i64 x.Q2y.Q16),.val (.int .i64 x.Q2y.Qv.Q1W),.val (.int .i64 x.Q2y.Qv.Q1u),.val (.int .i64 x.Q2y.Qv.Q1F),.val (.int .i64 x.Q2y.Q15),.val (.int .u64 x.Q2y.Q2z),.val (.int .i64 x.Q2y.Q28),.val (.int .i64 x.Q2y.Q1Q),.val (.int .i64 x.Q2y.Q2U),.val (.int .i64 x.Q2y.Q4K),.val (.int .i64 x.Q2y.Q3p),.val (.bool x.Q4L)]
def Q5.ls:List (Lf UC):= [.int .i64,.ref 6 13,.Q3O 12,.int .i64,.int .i64,.int .i64,.int .i64,.int .i64,.int .i64,.int .i64,.int .i64,.ref 10 13,.ref 7 13,.ref 8 13,.int .i64,.bool,.int .i64,.bool,.int .i64,.int .i64,.int .i64,.int .i64,.int .u64,.int .i64,.int .i64,.int .i64,.int .i64,.int .u64,.int .i64,.int .i64,.int .i64,.int .i64,.int .i64,.int .i64,.int .i64,.int .u64,.int .i64,.int .i64,.int .i64,.int .i64,.int .i64,.bool]
def Q5.toS (t:HL D Q5.ls):Q5:=let t6:=t.2.2.2.2.2.2;let t12:=t6.2.2.2.2.2.2;let t18:=t12.2.2.2.2.2.2;let t24:=t18.2.2.2.2.2.2;let t30:=t24.2.2.2.2.2.2;let t36:=t30.2.2.2.2.2.2;⟨t.1,t.2.1,t.2.2.1,⟨t.2.2.2.1⟩,⟨t.2.2.2.2.1⟩,⟨t.2.2.2.2.2.1⟩,⟨t6.1⟩,⟨t6.2.1⟩,t6.2.2.1,t6.2.2.2.1,t6.2.2.2.2.1,t6.2.2.2.2.2.1,t12.1,t12.2.1,⟨t12.2.2.1,t12.2.2.2.1⟩,⟨t12.2.2.2.2.1,t12.2.2.2.2.2.1⟩,⟨t18.1,t18.2.1,t18.2.2.1,t18.2.2.2.1,⟨t18.2.2.2.2.1,t18.2.2.2.2.2.1⟩,t24.1,t24.2.1,t24.2.2.1,⟨t24.2.2.2.1,t24.2.2.2.2.1⟩,t24.2.2.2.2.2.1,t30.1,⟨t30.2.1,t30.2.2.1,t30.2.2.2.1⟩,t30.2.2.2.2.1,t30.2.2.2.2.2.1,t36.1,t36.2.1,t36.2.2.1,t36.2.2.2.1,t36.2.2.2.2.1⟩,t36.2.2.2.2.2.1⟩
def Q5.dec (l:List Cel):Option Q5:=match Q3Y Q5.ls l with
 |some t=>some (Q5.toS t)
 |none=>none
def Q1.enc (x:Q1):List (Cel):= [.val (.int .u64 x.Qs.QI),.val (.int .i64 x.Qs.QB),.val (.int .i64 x.Qs.Q1D),.val (.int .i64 x.Qs.Q16),.val (.int .i64 x.Qs.Q15),.val (.int .i64 x.Qs.Qv.Q1W),.val (.int .i64 x.Qs.Qv.Q1u),.val (.int .i64 x.Qs.Qv.Q1F),.val (.bool x.Qs.Q2t),.val (.int .i64 x.Qs.Q46),.val (.int .i64 x.Qs.Q3h),.val (.int .i64 x.Qs.Q3l),.val (.int .i64 x.Qs.Q3U),.val (.bool x.Qs.Q4r),.val (.bool x.Qs.Q4S),.val (.int .i64 x.Qs.Q4s),.val (.int .i64 x.Qs.fKp),.val (.int .i64 x.Qs.fKi),.val (.int .i64 x.Qs.Q5E),.val (.int .i64 x.Qs.Q1e.Q3c),.val (.int .i64 x.Qs.Q1e.Q1X),.val (.int .i64 x.Qs.Q1e.Q1Q),.val (.bool x.Qs.Q6L),.Q1l .QG 8 x.Qf,.hole,.hole,.hole,.hole,.hole,.hole,.hole,.hole,.hole,.hole,.hole,.hole,.hole,.hole,.hole,.hole,.hole,.hole,.hole,.hole,.hole,.hole,.hole,.hole,.hole,.hole,.hole,.hole,.hole,.hole,.hole,.hole,.hole,.hole,.hole,.hole,.hole,.hole,.hole,.hole,.hole,.hole,.hole,.hole,.hole,.hole,.hole,.hole,.hole,.hole,.hole,.hole,.hole,.hole,.hole,.hole,.hole,.hole,.hole,.hole,.hole,.hole,.hole,.hole,.hole,.hole,.hole,.hole,.hole,.hole,.hole,.hole,.hole,.hole,.hole,.hole,.hole,.hole,.hole,.hole,.hole,.hole,.hole,.hole,.hole,.hole,.hole,.hole,.hole,.hole,.hole,.hole,.hole,.hole,.hole,.hole,.hole,.hole,.hole,.hole,.hole,.hole,.hole,.hole,.hole,.hole,.hole,.hole,.hole,.hole,.hole,.hole,.hole,.hole,.hole,.hole,.hole,.hole,.hole,.hole,.hole,.hole,.hole,.hole,.hole,.hole,.hole,.hole,.hole,.hole,.hole,.hole,.hole,.hole,.hole,.hole,.hole,.hole,.hole,.hole,.hole,.hole,.hole,.hole,.hole,.hole,.hole,.hole,.hole,.hole,.hole,.hole,.hole,.hole,.hole,.hole,.hole,.hole,.hole,.hole,.hole,.hole,.hole,.hole,.hole,.hole,.hole,.hole,.hole,.hole,.hole,.hole,.hole,.hole,.hole,.hole,.hole,.hole,.hole,.hole,.hole,.hole,.hole,.hole,.hole,.hole,.hole,.hole,.hole,.hole,.hole,.hole,.hole,.hole,.hole,.hole,.hole,.hole,.hole,.hole,.hole,.hole,.hole,.hole,.hole,.hole,.hole,.hole,.hole,.hole,.hole,.hole,.hole,.hole,.hole,.hole,.hole,.hole,.hole,.hole,.hole,.hole,.hole,.hole,.hole,.hole,.hole,.hole,.hole,.hole,.hole,.hole,.hole,.hole,.hole,.hole,.hole,.hole,.hole,.hole,.hole,.hole,.hole,.hole,.hole,.hole,.hole,.hole,.hole,.hole,.hole,.hole,.hole,.hole,.hole,.hole,.hole,.hole,.hole,.hole,.hole,.hole,.hole,.hole,.hole,.hole,.hole,.hole,.hole,.hole,.hole,.hole,.hole,.hole,.hole,.hole,.hole,.hole,.hole,.hole,.hole,.hole,.hole,.hole,.hole,.hole,.hole,.hole,.hole,.hole,.hole,.hole,.hole,.hole,.hole,.hole,.hole,.hole,.hole,.hole,.hole,.hole,.hole,.hole,.hole,.hole,.hole,.hole,.hole,.hole,.hole,.hole,.hole,.hole,.hole,.hole,.hole,.hole,.hole,.hole,.hole,.hole,.hole,.hole,.hole,.hole,.hole,.hole,.hole,.hole,.hole,.hole,.hole,.hole,.hole,.val (.int .i64 x.Q5k),.val (.int .u64 x.Q2b.QR.QI),.val (.int .i64 x.Q2b.QR.QR),.val (.int .u64 x.Q2b.Q2z),.val (.int .i64 x.Q2b.Qv.Q1W),.val (.int .i64 x.Q2b.Qv.Q1u),.val (.int .i64 x.Q2b.Qv.Q1F),.val (.int .i64 x.Q2b.Q16),.val (.int .i64 x.Q2b.Q15),.val (.int .i64 x.Q2b.Q28),.val (.int .i64 x.Q2b.Q1e.Q3c),.val (.int .i64 x.Q2b.Q1e.Q1X),.val (.int .i64 x.Q2b.Q1e.Q1Q),.ref 5 x.Q7i,.ref 9 x.Q6I,.val (.int .i64 x.Q4W),.val (.int .i64 x.Q4h.fv),.val (.bool x.Q4h.fis),.val (.int .i64 x.Q1k),.Q2d .Q3j x.Q2p]
def Q1.ls:List (Lf UC):= [.int .u64,.int .i64,.int .i64,.int .i64,.int .i64,.int .i64,.int .i64,.int .i64,.bool,.int .i64,.int .i64,.int .i64,.int .i64,.bool,.bool,.int .i64,.int .i64,.int .i64,.int .i64,.int .i64,.int .i64,.int .i64,.bool,.Q1l .QG 8,.hole,.hole,.hole,.hole,.hole,.hole,.hole,.hole,.hole,.hole,.hole,.hole,.hole,.hole,.hole,.hole,.hole,.hole,.hole,.hole,.hole,.hole,.hole,.hole,.hole,.hole,.hole,.hole,.hole,.hole,.hole,.hole,.hole,.hole,.hole,.hole,.hole,.hole,.hole,.hole,.hole,.hole,.hole,.hole,.hole,.hole,.hole,.hole,.hole,.hole,.hole,.hole,.hole,.hole,.hole,.hole,.hole,.hole,.hole,.hole,.hole,.hole,.hole,.hole,.hole,.hole,.hole,.hole,.hole,.hole,.hole,.hole,.hole,.hole,.hole,.hole,.hole,.hole,.hole,.hole,.hole,.hole,.hole,.hole,.hole,.hole,.hole,.hole,.hole,.hole,.hole,.hole,.hole,.hole,.hole,.hole,.hole,.hole,.hole,.hole,.hole,.hole,.hole,.hole,.hole,.hole,.hole,.hole,.hole,.hole,.hole,.hole,.hole,.hole,.hole,.hole,.hole,.hole,.hole,.hole,.hole,.hole,.hole,.hole,.hole,.hole,.hole,.hole,.hole,.hole,.hole,.hole,.hole,.hole,.hole,.hole,.hole,.hole,.hole,.hole,.hole,.hole,.hole,.hole,.hole,.hole,.hole,.hole,.hole,.hole,.hole,.hole,.hole,.hole,.hole,.hole,.hole,.hole,.hole,.hole,.hole,.hole,.hole,.hole,.hole,.hole,.hole,.hole,.hole,.hole,.hole,.hole,.hole,.hole,.hole,.hole,.hole,.hole,.hole,.hole,.hole,.hole,.hole,.hole,.hole,.hole,.hole,.hole,.hole,.hole,.hole,.hole,.hole,.hole,.hole,.hole,.hole,.hole,.hole,.hole,.hole,.hole,.hole,.hole,.hole,.hole,.hole,.hole,.hole,.hole,.hole,.hole,.hole,.hole,.hole,.hole,.hole,.hole,.hole,.hole,.hole,.hole,.hole,.hole,.hole,.hole,.hole,.hole,.hole,.hole,.hole,.hole,.hole,.hole,.hole,.hole,.hole,.hole,.hole,.hole,.hole,.hole,.hole,.hole,.hole,.hole,.hole,.hole,.hole,.hole,.hole,.hole,.hole,.hole,.hole,.hole,.hole,.hole,.hole,.hole,.hole,.hole,.hole,.hole,.hole,.hole,.hole,.hole,.hole,.hole,.hole,.hole,.hole,.hole,.hole,.hole,.hole,.hole,.hole,.hole,.hole,.hole,.hole,.hole,.hole,.hole,.hole,.hole,.hole,.hole,.hole,.hole,.hole,.hole,.hole,.hole,.hole,.hole,.hole,.hole,.hole,.hole,.hole,.hole,.hole,.hole,.hole,.hole,.hole,.hole,.hole,.hole,.hole,.hole,.hole,.hole,.hole,.hole,.hole,.hole,.hole,.hole,.hole,.hole,.hole,.hole,.hole,.hole,.hole,.hole,.hole,.hole,.hole,.hole,.hole,.int .i64,.int .u64,.int .i64,.int .u64,.int .i64,.int .i64,.int .i64,.int .i64,.int .i64,.int .i64,.int .i64,.int .i64,.int .i64,.ref 5 13,.ref 9 13,.int .i64,.int .i64,.bool,.int .i64,.Q2d .Q3j]
def Q1.toS (t:HL D Q1.ls):Q1:=let t6:=t.2.2.2.2.2.2;let t12:=t6.2.2.2.2.2.2;let t18:=t12.2.2.2.2.2.2;let t24:=t18.2.2.2.2.2.2;let t30:=t24.2.2.2.2.2.2;let t36:=t30.2.2.2.2.2.2;let t42:=t36.2.2.2.2.2.2;let t48:=t42.2.2.2.2.2.2;let t54:=t48.2.2.2.2.2.2;let t60:=t54.2.2.2.2.2.2;let t66:=t60.2.2.2.2.2.2;let t72:=t66.2.2.2.2.2.2;let t78:=t72.2.2.2.2.2.2;let t84:=t78.2.2.2.2.2.2;let t90:=t84.2.2.2.2.2.2;let t96:=t90.2.2.2.2.2.2;let t102:=t96.2.2.2.2.2.2;let t108:=t102.2.2.2.2.2.2;let t114:=t108.2.2.2.2.2.2;let t120:=t114.2.2.2.2.2.2;let t126:=t120.2.2.2.2.2.2;let t132:=t126.2.2.2.2.2.2;let t138:=t132.2.2.2.2.2.2;let t144:=t138.2.2.2.2.2.2;let t150:=t144.2.2.2.2.2.2;let t156:=t150.2.2.2.2.2.2;let t162:=t156.2.2.2.2.2.2;let t168:=t162.2.2.2.2.2.2;let t174:=t168.2.2.2.2.2.2;let t180:=t174.2.2.2.2.2.2;let t186:=t180.2.2.2.2.2.2;let t192:=t186.2.2.2.2.2.2;let t198:=t192.2.2.2.2.2.2;let t204:=t198.2.2.2.2.2.2;let t210:=t204.2.2.2.2.2.2;let t216:=t210.2.2.2.2.2.2;let t222:=t216.2.2.2.2.2.2;let t228:=t222.2.2.2.2.2.2;let t234:=t228.2.2.2.2.2.2;let t240:=t234.2.2.2.2.2.2;let t246:=t240.2.2.2.2.2.2;let t252:=t246.2.2.2.2.2.2;let t258:=t252.2.2.2.2.2.2;let t264:=t258.2.2.2.2.2.2;let t270:=t264.2.2.2.2.2.2;let t276:=t270.2.2.2.2.2.2;let t282:=t276.2.2.2.2.2.2;let t288:=t282.2.2.2.2.2.2;let t294:=t288.2.2.2.2.2.2;let t300:=t294.2.2.2.2.2.2;let t306:=t300.2.2.2.2.2.2;let t312:=t306.2.2.2.2.2.2;let t318:=t312.2.2.2.2.2.2;let t324:=t318.2.2.2.2.2.2;let t330:=t324.2.2.2.2.2.2;let t336:=t330.2.2.2.2.2.2;let t342:=t336.2.2.2.2.2.2;let t348:=t342.2.2.2.2.2.2;let t354:=t348.2.2.2.2.2.2;let t360:=t354.2.2.2.2.2.2;let t366:=t360.2.2.2.2.2.2;let t372:=t366.2.2.2.2.2.2;let t378:=t372.2.2.2.2.2.2;⟨⟨t.1,t.2.1,t.2.2.1,t.2.2.2.1,t.2.2.2.2.1,⟨t.2.2.2.2.2.1,t6.1,t6.2.1⟩,t6.2.2.1,t6.2.2.2.1,t6.2.2.2.2.1,t6.2.2.2.2.2.1,t12.1,t12.2.1,t12.2.2.1,t12.2.2.2.1,t12.2.2.2.2.1,t12.2.2.2.2.2.1,t18.1,⟨t18.2.1,t18.2.2.1,t18.2.2.2.1⟩,t18.2.2.2.2.1⟩,t18.2.2.2.2.2.1,t354.2.2.2.2.2.1,⟨⟨t360.1,t360.2.1⟩,t360.2.2.1,⟨t360.2.2.2.1,t360.2.2.2.2.1,t360.2.2.2.2.2.1⟩,t366.1,t366.2.1,t366.2.2.1,⟨t366.2.2.2.1,t366.2.2.2.2.1,t366.2.2.2.2.2.1⟩⟩,t372.1,t372.2.1,t372.2.2.1,⟨t372.2.2.2.1,t372.2.2.2.2.1⟩,t372.2.2.2.2.2.1,t378.1⟩
def Q1.dec (l:List Cel):Option Q1:=match Q3Y Q1.ls l with
 |some t=>some (Q1.toS t)
 |none=>none
def Qo.enc (x:Qo):List (Cel):= [.val (.int .i64 x.fkp),.val (.int .i64 x.fki),.val (.int .i64 x.Q9t),.val (.int .i64 x.Q1w),.val (.int .i64 x.Q8d),.val (.int .i64 x.Q9T),.val (.int .i64 x.Q86)]
def Qo.ls:List (Lf UC):= [.int .i64,.int .i64,.int .i64,.int .i64,.int .i64,.int .i64,.int .i64]
def Qo.toS (t:HL D Qo.ls):Qo:=⟨t.1,t.2.1,t.2.2.1,t.2.2.2.1,t.2.2.2.2.1,t.2.2.2.2.2.1,t.2.2.2.2.2.2.1⟩
def Qo.dec (l:List Cel):Option Qo:=match Q3Y Qo.ls l with
 |some t=>some (Qo.toS t)
 |none=>none
def Qj.enc (x:Qj):List (Cel):= [.val (.int .i64 x.Q16),.val (.int .i64 x.Qv.Q1W),.val (.int .i64 x.Qv.Q1u),.val (.int .i64 x.Qv.Q1F),.val (.int .i64 x.Q15),.val (.int .u64 x.Q2z),.val (.int .i64 x.Q28),.val (.int .u64 x.Q4H.QI),.val (.int .i64 x.Q4H.QR),.val (.int .u64 x.Q5o.QI),.val (.int .i64 x.Q5o.QR)]
def Qj.ls:List (Lf UC):= [.int .i64,.int .i64,.int .i64,.int .i64,.int .i64,.int .u64,.int .i64,.int .u64,.int .i64,.int .u64,.int .i64]
def Qj.toS (t:HL D Qj.ls):Qj:=let t6:=t.2.2.2.2.2.2;⟨t.1,⟨t.2.1,t.2.2.1,t.2.2.2.1⟩,t.2.2.2.2.1,t.2.2.2.2.2.1,t6.1,⟨t6.2.1,t6.2.2.1⟩,⟨t6.2.2.2.1,t6.2.2.2.2.1⟩⟩
def Qj.dec (l:List Cel):Option Qj:=match Q3Y Qj.ls l with
 |some t=>some (Qj.toS t)
 |none=>none
def Qc.enc (x:Qc):List (Cel):= [.val (.int .i64 x.Q3g.Q16),.val (.int .i64 x.Q3g.Qv.Q1W),.val (.int .i64 x.Q3g.Qv.Q1u),.val (.int .i64 x.Q3g.Qv.Q1F),.val (.int .i64 x.Q3g.Q15),.val (.int .u64 x.Q3g.Q2z),.val (.int .i64 x.Q3g.Q28),.val (.int .u64 x.Q3g.Q4H.QI),.val (.int .i64 x.Q3g.Q4H.QR),.val (.int .u64 x.Q3g.Q5o.QI),.val (.int .i64 x.Q3g.Q5o.QR),.val (.int .i64 x.Q1e.Q3c),.val (.int .i64 x.Q1e.Q1X),.val (.int .i64 x.Q1e.Q1Q),.val (.int .i64 x.Q2Y),.val (.int .i64 x.Q7L),.val (.int .i64 x.Q9x)]
def Qc.ls:List (Lf UC):= [.int .i64,.int .i64,.int .i64,.int .i64,.int .i64,.int .u64,.int .i64,.int .u64,.int .i64,.int .u64,.int .i64,.int .i64,.int .i64,.int .i64,.int .i64,.int .i64,.int .i64]
def Qc.toS (t:HL D Qc.ls):Qc:=let t6:=t.2.2.2.2.2.2;let t12:=t6.2.2.2.2.2.2;⟨⟨t.1,⟨t.2.1,t.2.2.1,t.2.2.2.1⟩,t.2.2.2.2.1,t.2.2.2.2.2.1,t6.1,⟨t6.2.1,t6.2.2.1⟩,⟨t6.2.2.2.1,t6.2.2.2.2.1⟩⟩,⟨t6.2.2.2.2.2.1,t12.1,t12.2.1⟩,t12.2.2.1,t12.2.2.2.1,t12.2.2.2.2.1⟩
def Qc.dec (l:List Cel):Option Qc:=match Q3Y Qc.ls l with
 |some t=>some (Qc.toS t)
 |none=>none
def Qe.enc (x:Qe):List (Cel):= [.val (.int .u64 x.QaU.QI),.val (.int .i64 x.QaU.QR),.val (.int .i64 x.Qag),.Q1l .QA 5 x.fl,.hole,.hole,.hole,.hole,.hole,.hole,.hole,.hole,.hole,.hole,.hole,.hole,.hole,.hole,.hole,.hole,.hole,.hole,.hole,.hole,.hole,.hole,.hole,.hole,.hole,.hole,.hole,.hole,.hole,.hole,.hole,.hole,.hole,.hole,.hole,.hole,.hole,.hole,.hole,.hole,.hole,.hole,.hole,.hole,.hole,.hole,.hole,.hole,.hole,.hole,.hole,.hole,.hole,.hole,.hole,.hole,.hole,.hole,.hole,.hole,.hole,.hole,.hole,.hole,.hole,.hole,.hole,.hole,.hole,.hole,.hole,.hole,.hole,.hole,.hole,.hole,.hole,.hole,.hole,.hole,.hole,.hole,.hole,.hole,.val (.int .i64 x.fn)]
def Qe.ls:List (Lf UC):= [.int .u64,.int .i64,.int .i64,.Q1l .QA 5,.hole,.hole,.hole,.hole,.hole,.hole,.hole,.hole,.hole,.hole,.hole,.hole,.hole,.hole,.hole,.hole,.hole,.hole,.hole,.hole,.hole,.hole,.hole,.hole,.hole,.hole,.hole,.hole,.hole,.hole,.hole,.hole,.hole,.hole,.hole,.hole,.hole,.hole,.hole,.hole,.hole,.hole,.hole,.hole,.hole,.hole,.hole,.hole,.hole,.hole,.hole,.hole,.hole,.hole,.hole,.hole,.hole,.hole,.hole,.hole,.hole,.hole,.hole,.hole,.hole,.hole,.hole,.hole,.hole,.hole,.hole,.hole,.hole,.hole,.hole,.hole,.hole,.hole,.hole,.hole,.hole,.hole,.hole,.hole,.int .i64]
def Qe.toS (t:HL D Qe.ls):Qe:=let t6:=t.2.2.2.2.2.2;let t12:=t6.2.2.2.2.2.2;let t18:=t12.2.2.2.2.2.2;let t24:=t18.2.2.2.2.2.2;let t30:=t24.2.2.2.2.2.2;let t36:=t30.2.2.2.2.2.2;let t42:=t36.2.2.2.2.2.2;let t48:=t42.2.2.2.2.2.2;let t54:=t48.2.2.2.2.2.2;let t60:=t54.2.2.2.2.2.2;let t66:=t60.2.2.2.2.2.2;let t72:=t66.2.2.2.2.2.2;let t78:=t72.2.2.2.2.2.2;let t84:=t78.2.2.2.2.2.2;⟨⟨t.1,t.2.1⟩,t.2.2.1,t.2.2.2.1,t84.2.2.2.2.1⟩
def Qe.dec (l:List Cel):Option Qe:=match Q3Y Qe.ls l with
 |some t=>some (Qe.toS t)
 |none=>none
def QZ.enc (x:QZ):List (Cel):= [.val (.int .i64 x.Q5K),.val (.int .i64 x.fat),.val (.bool x.Q8x),.val (.bool x.Q6l)]
def QZ.ls:List (Lf UC):= [.int .i64,.int .i64,.bool,.bool]
def QZ.toS (t:HL D QZ.ls):QZ:=⟨t.1,t.2.1,t.2.2.1,t.2.2.2.1⟩
def QZ.dec (l:List Cel):Option QZ:=match Q3Y QZ.ls l with
 |some t=>some (QZ.toS t)
 |none=>none
def Qg.enc (x:Qg):List (Cel):= [.val (.int .u64 x.Q5D.QI),.val (.int .i64 x.Q5D.QR),.val (.int .i64 x.Q6H),.val (.int .i64 x.fr.Q5K),.val (.int .i64 x.fr.fat),.val (.bool x.fr.Q8x),.val (.bool x.fr.Q6l)]
def Qg.ls:List (Lf UC):= [.int .u64,.int .i64,.int .i64,.int .i64,.int .i64,.bool,.bool]
def Qg.toS (t:HL D Qg.ls):Qg:=⟨⟨t.1,t.2.1⟩,t.2.2.1,⟨t.2.2.2.1,t.2.2.2.2.1,t.2.2.2.2.2.1,t.2.2.2.2.2.2.1⟩⟩
def Qg.dec (l:List Cel):Option Qg:=match Q3Y Qg.ls l with
 |some t=>some (Qg.toS t)
 |none=>none
def Qb.enc (x:Qb):List (Cel):= [.val (.int .u64 x.Q5D.QI),.val (.int .i64 x.Q5D.QR),.val (.int .i64 x.Q6H),.val (.int .i64 x.Q5K),.val (.int .i64 x.fat),.val (.bool x.Q8x),.val (.bool x.Q6l),.val (.bool x.Q4L),.val (.bool x.Q92),.val (.int .i64 x.Q1N.fType),.val (.int .i64 x.Q1N.Q1D),.val (.int .i64 x.Q1N.Q1X),.val (.int .i64 x.Q1N.Q4q),.val (.int .u64 x.Q1N.Q1H.QI),.val (.int .i64 x.Q1N.Q1H.QR),.val (.int .i64 x.Q1N.Q2Y),.val (.int .i64 x.Q1N.Q6g),.val (.int .i64 x.Q1N.Q44),.val (.int .u64 x.Q1N.Q2e.QI),.val (.int .i64 x.Q1N.Q2e.QR),.val (.int .i64 x.Q1N.Q3c),.val (.int .i64 x.Q1N.Q16),.val (.int .i64 x.Q1N.Qv.Q1W),.val (.int .i64 x.Q1N.Qv.Q1u),.val (.int .i64 x.Q1N.Qv.Q1F),.val (.int .i64 x.Q1N.Q15),.val (.int .u64 x.Q1N.Q2z),.val (.int .i64 x.Q1N.Q28),.val (.int .i64 x.Q1N.Q1Q),.val (.int .i64 x.Q1N.Q2U),.val (.int .i64 x.Q1N.Q4K),.val (.int .i64 x.Q1N.Q3p),.val (.int .i64 x.Qas)]
def Qb.ls:List (Lf UC):= [.int .u64,.int .i64,.int .i64,.int .i64,.int .i64,.bool,.bool,.bool,.bool,.int .i64,.int .i64,.int .i64,.int .i64,.int .u64,.int .i64,.int .i64,.int .i64,.int .i64,.int .u64,.int .i64,.int .i64,.int .i64,.int .i64,.int .i64,.int .i64,.int .i64,.int .u64,.int .i64,.int .i64,.int .i64,.int .i64,.int .i64,.int .i64]
def Qb.toS (t:HL D Qb.ls):Qb:=let t6:=t.2.2.2.2.2.2;let t12:=t6.2.2.2.2.2.2;let t18:=t12.2.2.2.2.2.2;let t24:=t18.2.2.2.2.2.2;let t30:=t24.2.2.2.2.2.2;⟨⟨t.1,t.2.1⟩,t.2.2.1,t.2.2.2.1,t.2.2.2.2.1,t.2.2.2.2.2.1,t6.1,t6.2.1,t6.2.2.1,⟨t6.2.2.2.1,t6.2.2.2.2.1,t6.2.2.2.2.2.1,t12.1,⟨t12.2.1,t12.2.2.1⟩,t12.2.2.2.1,t12.2.2.2.2.1,t12.2.2.2.2.2.1,⟨t18.1,t18.2.1⟩,t18.2.2.1,t18.2.2.2.1,⟨t18.2.2.2.2.1,t18.2.2.2.2.2.1,t24.1⟩,t24.2.1,t24.2.2.1,t24.2.2.2.1,t24.2.2.2.2.1,t24.2.2.2.2.2.1,t30.1,t30.2.1⟩,t30.2.2.1⟩
def Qb.dec (l:List Cel):Option Qb:=match Q3Y Qb.ls l with
 |some t=>some (Qb.toS t)
 |none=>none
def Qh.enc (x:Qh):List (Cel):= [.Q1l .int 15 x.fl,.hole,.hole,.hole,.hole,.hole,.hole,.hole,.hole,.hole,.hole,.hole,.hole,.hole,.hole,.val (.int .i64 x.fn),.val (.int .i64 x.Q4O)]
def Qh.ls:List (Lf UC):= [.Q1l .int 15,.hole,.hole,.hole,.hole,.hole,.hole,.hole,.hole,.hole,.hole,.hole,.hole,.hole,.hole,.int .i64,.int .i64]
def Qh.toS (t:HL D Qh.ls):Qh:=let t6:=t.2.2.2.2.2.2;let t12:=t6.2.2.2.2.2.2;⟨t.1,t12.2.2.2.1,t12.2.2.2.2.1⟩
def Qh.dec (l:List Cel):Option Qh:=match Q3Y Qh.ls l with
 |some t=>some (Qh.toS t)
 |none=>none
def Qz.enc (x:Qz):List (Cel):= [.val (.int .i64 x.fsync.fType),.val (.int .i64 x.fsync.Q1D),.val (.int .i64 x.fsync.Q1X),.val (.int .i64 x.fsync.Q4q),.val (.int .u64 x.fsync.Q1H.QI),.val (.int .i64 x.fsync.Q1H.QR),.val (.int .i64 x.fsync.Q2Y),.val (.int .i64 x.fsync.Q6g),.val (.int .i64 x.fsync.Q44),.val (.int .u64 x.fsync.Q2e.QI),.val (.int .i64 x.fsync.Q2e.QR),.val (.int .i64 x.fsync.Q3c),.val (.int .i64 x.fsync.Q16),.val (.int .i64 x.fsync.Qv.Q1W),.val (.int .i64 x.fsync.Qv.Q1u),.val (.int .i64 x.fsync.Qv.Q1F),.val (.int .i64 x.fsync.Q15),.val (.int .u64 x.fsync.Q2z),.val (.int .i64 x.fsync.Q28),.val (.int .i64 x.fsync.Q1Q),.val (.int .i64 x.fsync.Q2U),.val (.int .i64 x.fsync.Q4K),.val (.int .i64 x.fsync.Q3p),.val (.int .i64 x.Q2o.fType),.val (.int .i64 x.Q2o.Q1D),.val (.int .i64 x.Q2o.Q1X),.val (.int .i64 x.Q2o.Q4q),.val (.int .u64 x.Q2o.Q1H.QI),.val (.int .i64 x.Q2o.Q1H.QR),.val (.int .i64 x.Q2o.Q2Y),.val (.int .i64 x.Q2o.Q6g),.val (.int .i64 x.Q2o.Q44),.val (.int .u64 x.Q2o.Q2e.QI),.val (.int .i64 x.Q2o.Q2e.QR),.val (.int .i64 x.Q2o.Q3c),.val (.int .i64 x.Q2o.Q16),.val (.int .i64 x.Q2o.Qv.Q1W),.val (.int .i64 x.Q2o.Qv.Q1u),.val (.int .i64 x.Q2o.Qv.Q1F),.val (.int .i64 x.Q2o.Q15),.val (.int .u64 x.Q2o.Q2z),.val (.int .i64 x.Q2o.Q28),.val (.int .i64 x.Q2o.Q1Q),.val (.int .i64 x.Q2o.Q2U),.val (.int .i64 x.Q2o.Q4K),.val (.int .i64 x.Q2o.Q3p),.val (.int .i64 x.fat),.val (.bool x.Q9S),.val (.bool x.Q5Y)]
def Qz.ls:List (Lf UC):= [.int .i64,.int .i64,.int .i64,.int .i64,.int .u64,.int .i64,.int .i64,.int .i64,.int .i64,.int .u64,.int .i64,.int .i64,.int .i64,.int .i64,.int .i64,.int .i64,.int .i64,.int .u64,.int .i64,.int .i64,.int .i64,.int .i64,.int .i64,.int .i64,.int .i64,.int .i64,.int .i64,.int .u64,.int .i64,.int .i64,.int .i64,.int .i64,.int .u64,.int .i64,.int .i64,.int .i64,.int .i64,.int .i64,.int .i64,.int .i64,.int .u64,.int .i64,.int .i64,.int .i64,.int .i64,.int .i64,.int .i64,.bool,.bool]
def Qz.toS (t:HL D Qz.ls):Qz:=let t6:=t.2.2.2.2.2.2;let t12:=t6.2.2.2.2.2.2;let t18:=t12.2.2.2.2.2.2;let t24:=t18.2.2.2.2.2.2;let t30:=t24.2.2.2.2.2.2;let t36:=t30.2.2.2.2.2.2;let t42:=t36.2.2.2.2.2.2;let t48:=t42.2.2.2.2.2.2;⟨⟨t.1,t.2.1,t.2.2.1,t.2.2.2.1,⟨t.2.2.2.2.1,t.2.2.2.2.2.1⟩,t6.1,t6.2.1,t6.2.2.1,⟨t6.2.2.2.1,t6.2.2.2.2.1⟩,t6.2.2.2.2.2.1,t12.1,⟨t12.2.1,t12.2.2.1,t12.2.2.2.1⟩,t12.2.2.2.2.1,t12.2.2.2.2.2.1,t18.1,t18.2.1,t18.2.2.1,t18.2.2.2.1,t18.2.2.2.2.1⟩,⟨t18.2.2.2.2.2.1,t24.1,t24.2.1,t24.2.2.1,⟨t24.2.2.2.1,t24.2.2.2.2.1⟩,t24.2.2.2.2.2.1,t30.1,t30.2.1,⟨t30.2.2.1,t30.2.2.2.1⟩,t30.2.2.2.2.1,t30.2.2.2.2.2.1,⟨t36.1,t36.2.1,t36.2.2.1⟩,t36.2.2.2.1,t36.2.2.2.2.1,t36.2.2.2.2.2.1,t42.1,t42.2.1,t42.2.2.1,t42.2.2.2.1⟩,t42.2.2.2.2.1,t42.2.2.2.2.2.1,t48.1⟩
def Qz.dec (l:List Cel):Option Qz:=match Q3Y Qz.ls l with
 |some t=>some (Qz.toS t)
 |none=>none
def Q24.enc (x:Q24):List (Cel):= [.val (.int .u64 x.Q5b.QI),.val (.int .i64 x.Q5b.QR),.val (.int .i64 x.Q5K)]
def Q24.ls:List (Lf UC):= [.int .u64,.int .i64,.int .i64]
def Q24.toS (t:HL D Q24.ls):Q24:=⟨⟨t.1,t.2.1⟩,t.2.2.1⟩
def Q24.dec (l:List Cel):Option Q24:=match Q3Y Q24.ls l with
 |some t=>some (Q24.toS t)
 |none=>none
def Q1t.enc (x:Q1t):List (Cel):= [.val (.int .u64 x.QQ.QI),.val (.int .i64 x.QQ.QB),.val (.int .i64 x.QQ.Q1D),.val (.int .i64 x.QQ.Q16),.val (.int .i64 x.QQ.Q15),.val (.int .i64 x.QQ.Qv.Q1W),.val (.int .i64 x.QQ.Qv.Q1u),.val (.int .i64 x.QQ.Qv.Q1F),.val (.bool x.QQ.Q2t),.val (.int .i64 x.QQ.Q46),.val (.int .i64 x.QQ.Q3h),.val (.int .i64 x.QQ.Q3l),.val (.int .i64 x.QQ.Q3U),.val (.bool x.QQ.Q4r),.val (.bool x.QQ.Q4S),.val (.int .i64 x.QQ.Q4s),.val (.int .i64 x.QQ.fKp),.val (.int .i64 x.QQ.fKi),.val (.int .i64 x.QQ.Q5E),.val (.int .i64 x.QQ.Q1e.Q3c),.val (.int .i64 x.QQ.Q1e.Q1X),.val (.int .i64 x.QQ.Q1e.Q1Q),.val (.bool x.QQ.Q6L),.val (.int .u64 x.Q30.QR.QI),.val (.int .i64 x.Q30.QR.QR),.val (.int .u64 x.Q30.Q2z),.val (.int .i64 x.Q30.Qv.Q1W),.val (.int .i64 x.Q30.Qv.Q1u),.val (.int .i64 x.Q30.Qv.Q1F),.val (.int .i64 x.Q30.Q16),.val (.int .i64 x.Q30.Q15),.val (.int .i64 x.Q30.Q28),.val (.int .i64 x.Q30.Q1e.Q3c),.val (.int .i64 x.Q30.Q1e.Q1X),.val (.int .i64 x.Q30.Q1e.Q1Q),.val (.int .i64 x.Qah),.val (.int .i64 x.Qbw),.val (.int .i64 x.Q6x),.val (.int .i64 x.Qbx),.val (.int .i64 x.Q4r),.val (.int .i64 x.QR)]
def Q1t.ls:List (Lf UC):= [.int .u64,.int .i64,.int .i64,.int .i64,.int .i64,.int .i64,.int .i64,.int .i64,.bool,.int .i64,.int .i64,.int .i64,.int .i64,.bool,.bool,.int .i64,.int .i64,.int .i64,.int .i64,.int .i64,.int .i64,.int .i64,.bool,.int .u64,.int .i64,.int .u64,.int .i64,.int .i64,.int .i64,.int .i64,.int .i64,.int .i64,.int .i64,.int .i64,.int .i64,.int .i64,.int .i64,.int .i64,.int .i64,.int .i64,.int .i64]
def Q1t.toS (t:HL D Q1t.ls):Q1t:=let t6:=t.2.2.2.2.2.2;let t12:=t6.2.2.2.2.2.2;let t18:=t12.2.2.2.2.2.2;let t24:=t18.2.2.2.2.2.2;let t30:=t24.2.2.2.2.2.2;let t36:=t30.2.2.2.2.2.2;⟨⟨t.1,t.2.1,t.2.2.1,t.2.2.2.1,t.2.2.2.2.1,⟨t.2.2.2.2.2.1,t6.1,t6.2.1⟩,t6.2.2.1,t6.2.2.2.1,t6.2.2.2.2.1,t6.2.2.2.2.2.1,t12.1,t12.2.1,t12.2.2.1,t12.2.2.2.1,t12.2.2.2.2.1,t12.2.2.2.2.2.1,t18.1,⟨t18.2.1,t18.2.2.1,t18.2.2.2.1⟩,t18.2.2.2.2.1⟩,⟨⟨t18.2.2.2.2.2.1,t24.1⟩,t24.2.1,⟨t24.2.2.1,t24.2.2.2.1,t24.2.2.2.2.1⟩,t24.2.2.2.2.2.1,t30.1,t30.2.1,⟨t30.2.2.1,t30.2.2.2.1,t30.2.2.2.2.1⟩⟩,t30.2.2.2.2.2.1,t36.1,t36.2.1,t36.2.2.1,t36.2.2.2.1,t36.2.2.2.2.1⟩
def Q1t.dec (l:List Cel):Option Q1t:=match Q3Y Q1t.ls l with
 |some t=>some (Q1t.toS t)
 |none=>none
def Q9C:List Cel->Option UInt8
 | [.val (.int .u8 n)]=>some (UInt8.ofNat n.toNat)
 |_=>none
def Q91:List Cel->Option (Int)
 | [c]=>Q7X .i64 c
 |_=>none
def Q6c:List Cel->Option (List (Qi))
 | [c]=>Z2C (C:=UC) (D:=D) .QW c
 |_=>none
def Q9h:List Cel->Option (Int)
 | [c]=>Q7X .u64 c
 |_=>none
def Q8n:List Cel->Option (Bool)
 | [c]=>Z41 c
 |_=>none
def Q5p:List Cel->Option (Option (Qj))
 | [c]=>Z4G (C:=UC) (D:=D) .Q19 c
 |_=>none
def Q7V:List Cel->Option (List (Int))
 | [c]=>Z2C (C:=UC) (D:=D) .int c
 |_=>none
def Q81:List Cel->Option (List (Int))
 | [c]=>Z2C (C:=UC) (D:=D) .u64 c
 |_=>none
def ofT (t:Nat):Option UC:=match t with|2=>some .int|3=>some .int|4=>some .bool|5=>some .u8|6=>some .u8|12=>some .u64|24=>some .u64|31=>some .Qt|33=>some .Q2u|35=>some .Q4b|37=>some .Q1d|39=>some .Q2j|42=>some .Q3j|46=>some .int|50=>some .Qk|51=>some .Q49|55=>some .Q68|60=>some .Q1r|78=>some .Q1G|92=>some .Q1I|97=>some .Q29|112=>some .QW|186=>some .Q1x|194=>some .Q19|196=>some .QA|203=>some .Q1P|207=>some .Q1K|242=>some .Q3x|244=>some .Q10|246=>some .Q11|251=>some .Q1j|261=>some .u64|272=>some .Q4x|282=>some .Q31|311=>some .u8|312=>some .u8|_=>none
def U:QY where
 C:=UC
 D:=D
 dft:=λu=>match u with| .u8=>0| .Q3j=>QJ.zero| .QW=>Qi.zero| .int=>0| .Q1r=>QF.zero| .Q2j=>Qw.zero| .Q1d=>Q9.zero| .Q2u=>Qx.zero| .Q4b=>Q1b.zero| .Qk=>Q8.zero| .Qt=>Qd.zero| .Q49=>[]| .QA=>Qc.zero| .Q19=>Qj.zero| .QG=>Q5.zero| .Q1I=>QS.zero| .Q29=>Q13.zero| .u64=>0| .bool=>false| .Q1K=>none| .Q68=>[]| .Q1G=>QX.zero| .Q7=>Q1.zero| .Q1x=>Qo.zero| .Qy=>Qe.zero| .Q3x=>QZ.zero| .Q10=>Qg.zero| .Q11=>Qb.zero| .Q18=>Qh.zero| .Q1j=>Qz.zero| .Q4x=>Q24.zero| .Q31=>Q1t.zero| .Q1P=>[]
 size:=λu=>match u with| .u8=>1| .Q3j=>7| .QW=>2| .int=>1| .Q1r=>57| .Q2j=>29| .Q1d=>23| .Q2u=>3| .Q4b=>3| .Qk=>23| .Qt=>2| .Q49=>1| .QA=>17| .Q19=>11| .QG=>42| .Q1I=>1| .Q29=>2| .u64=>1| .bool=>1| .Q1K=>1| .Q68=>1| .Q1G=>12| .Q7=>379| .Q1x=>7| .Qy=>89| .Q3x=>4| .Q10=>7| .Q11=>33| .Q18=>17| .Q1j=>49| .Q4x=>3| .Q31=>41| .Q1P=>1
 enc:=λu=>match u with
  | .u8=>λx=>[.val (.int .u8 x.toNat)]
  | .Q3j=>QJ.enc
  | .QW=>Qi.enc
  | .int=>λx=>[.val (.int .i64 x)]
  | .Q1r=>QF.enc
  | .Q2j=>Qw.enc
  | .Q1d=>Q9.enc
  | .Q2u=>Qx.enc
  | .Q4b=>Q1b.enc
  | .Qk=>Q8.enc
  | .Qt=>Qd.enc
  | .Q49=>λx=>[.isl .none .QW x]
  | .QA=>Qc.enc
  | .Q19=>Qj.enc
  | .QG=>Q5.enc
  | .Q1I=>QS.enc
  | .Q29=>Q13.enc
  | .u64=>λx=>[.val (.int .u64 x)]
  | .bool=>λx=>[.val (.bool x)]
  | .Q1K=>λx=>[.Q3i .Q19 x]
  | .Q68=>λx=>[.isl .none .int x]
  | .Q1G=>QX.enc
  | .Q7=>Q1.enc
  | .Q1x=>Qo.enc
  | .Qy=>Qe.enc
  | .Q3x=>QZ.enc
  | .Q10=>Qg.enc
  | .Q11=>Qb.enc
  | .Q18=>Qh.enc
  | .Q1j=>Qz.enc
  | .Q4x=>Q24.enc
  | .Q31=>Q1t.enc
  | .Q1P=>λx=>[.isl .none .u64 x]
 dec:=λu=>match u with
  | .u8=>Q9C
  | .Q3j=>QJ.dec
  | .QW=>Qi.dec
  | .int=>Q91
  | .Q1r=>QF.dec
  | .Q2j=>Qw.dec
  | .Q1d=>Q9.dec
  | .Q2u=>Qx.dec
  | .Q4b=>Q1b.dec
  | .Qk=>Q8.dec
  | .Qt=>Qd.dec
  | .Q49=>Q6c
  | .QA=>Qc.dec
  | .Q19=>Qj.dec
  | .QG=>Q5.dec
  | .Q1I=>QS.dec
  | .Q29=>Q13.dec
  | .u64=>Q9h
  | .bool=>Q8n
  | .Q1K=>Q5p
  | .Q68=>Q7V
  | .Q1G=>QX.dec
  | .Q7=>Q1.dec
  | .Q1x=>Qo.dec
  | .Qy=>Qe.dec
  | .Q3x=>QZ.dec
  | .Q10=>Qg.dec
  | .Q11=>Qb.dec
  | .Q18=>Qh.dec
  | .Q1j=>Qz.dec
  | .Q4x=>Q24.dec
  | .Q31=>Q1t.dec
  | .Q1P=>Q81
 ofType:=ofT
 eq? :=λu v=>if h:u=v then some ⟨h⟩ else none
 plain:=λu=>match u with| .Q7=>false| .Qy=>false| .Q18=>false|_=>true
 Q5Q:=λu=>match u with| .u8=>λl=>some l|_=>λ_=>none
 u8:= .u8
 ofBytes:=λl=>l
 Qcn:=λt=>match t with|90=>some 12|_=>none
 nf:=13
 famT:=λt=>match t with|104=>some (0,.Q7)|186=>some (5,.Q1x)|199=>some (6,.Qy)|244=>some (7,.Q10)|246=>some (8,.Q11)|249=>some (9,.Q18)|251=>some (10,.Q1j)|_=>none
 nn:=λf=>match f with|_=>true
 Q7e:=λv u k=>match v with| .QG=>(match u with| .Q1I=>(bif Nat.beq k 3 then some (λx y=>({ x with Q45:=y}:Q5)) else bif Nat.beq k 4 then some (λx y=>({ x with Q54:=y}:Q5)) else bif Nat.beq k 5 then some (λx y=>({ x with Q4J:=y}:Q5)) else bif Nat.beq k 6 then some (λx y=>({ x with fsync:=y}:Q5)) else bif Nat.beq k 7 then some (λx y=>({ x with Q6R:=y}:Q5)) else none)| .Q29=>(bif Nat.beq k 14 then some (λx y=>({ x with Q6Y:=y}:Q5)) else bif Nat.beq k 16 then some (λx y=>({ x with Q4a:=y}:Q5)) else none)| .Qk=>(bif Nat.beq k 18 then some (λx y=>({ x with Q2y:=y}:Q5)) else none)|_=>none)|_=>none
abbrev DC {α:Type} (enc:α->List Cel) (ls:List (Lf UC)) (dec:List Cel->Option α):Prop:=∀{l:List Cel} {x:α},dec l=some x->l.length=ls.length/\∀(k:Nat) y,l[k]? =some y->∃z,(enc x)[k]? =some z/\SLe U y z
theorem dcl {α:Type} {ls:List (Lf UC)} {enc:α->List Cel} {dec:List Cel->Option α} (toS:HL D ls->α) (hd:∀l,dec l=match Q3Y ls l with|some t=>some (toS t)|none=>none) (he:∀t,enc (toS t)=Qaq ls t) (hb:ls.all (Lf.okN U.nf)=true):DC enc ls dec:=by
 intro l x h
 rw [hd] at h
 split at h
 ·rename_i t ht
  cases h
  rw [he]
  exact Z6u (U:=U) hb ht
 ·cases h
theorem Qd.QE:DC Qd.enc Qd.ls Qd.dec:=dcl (enc:=Qd.enc) (dec:=Qd.dec) Qd.toS (λ_=>by kernel_rfl) (λt=>by kernel_rfl) (by decide)
theorem Qx.QE:DC Qx.enc Qx.ls Qx.dec:=dcl (enc:=Qx.enc) (dec:=Qx.dec) Qx.toS (λ_=>by kernel_rfl) (λt=>by kernel_rfl) (by decide)
theorem Q1b.QE:DC Q1b.enc Q1b.ls Q1b.dec:=dcl (enc:=Q1b.enc) (dec:=Q1b.dec) Q1b.toS (λ_=>by kernel_rfl) (λt=>by kernel_rfl) (by decide)
theorem Q9.QE:DC Q9.enc Q9.ls Q9.dec:=dcl (enc:=Q9.enc) (dec:=Q9.dec) Q9.toS (λ_=>by kernel_rfl) (λt=>by kernel_rfl) (by decide)
theorem Qw.QE:DC Qw.enc Qw.ls Qw.dec:=dcl (enc:=Qw.enc) (dec:=Qw.dec) Qw.toS (λ_=>by kernel_rfl) (λt=>by kernel_rfl) (by decide)
theorem QJ.QE:DC QJ.enc QJ.ls QJ.dec:=dcl (enc:=QJ.enc) (dec:=QJ.dec) QJ.toS (λ_=>by kernel_rfl) (λt=>by kernel_rfl) (by decide)
theorem Q8.QE:DC Q8.enc Q8.ls Q8.dec:=dcl (enc:=Q8.enc) (dec:=Q8.dec) Q8.toS (λ_=>by kernel_rfl) (λt=>by kernel_rfl) (by decide)
theorem Qi.QE:DC Qi.enc Qi.ls Qi.dec:=dcl (enc:=Qi.enc) (dec:=Qi.dec) Qi.toS (λ_=>by kernel_rfl) (λt=>by kernel_rfl) (by decide)
theorem QF.QE:DC QF.enc QF.ls QF.dec:=dcl (enc:=QF.enc) (dec:=QF.dec) QF.toS (λ_=>by kernel_rfl) (λt=>by kernel_rfl) (by decide)
theorem QX.QE:DC QX.enc QX.ls QX.dec:=dcl (enc:=QX.enc) (dec:=QX.dec) QX.toS (λ_=>by kernel_rfl) (λt=>by kernel_rfl) (by decide)
theorem QS.QE:DC QS.enc QS.ls QS.dec:=dcl (enc:=QS.enc) (dec:=QS.dec) QS.toS (λ_=>by kernel_rfl) (λt=>by kernel_rfl) (by decide)
theorem Q13.QE:DC Q13.enc Q13.ls Q13.dec:=dcl (enc:=Q13.enc) (dec:=Q13.dec) Q13.toS (λ_=>by kernel_rfl) (λt=>by kernel_rfl) (by decide)
theorem Q5.QE:DC Q5.enc Q5.ls Q5.dec:=dcl (enc:=Q5.enc) (dec:=Q5.dec) Q5.toS (λ_=>by kernel_rfl) (λt=>by kernel_rfl) (by decide)
theorem Q1.QE:DC Q1.enc Q1.ls Q1.dec:=dcl (enc:=Q1.enc) (dec:=Q1.dec) Q1.toS (λ_=>by kernel_rfl) (λt=>by kernel_rfl) (by decide)
theorem Qo.QE:DC Qo.enc Qo.ls Qo.dec:=dcl (enc:=Qo.enc) (dec:=Qo.dec) Qo.toS (λ_=>by kernel_rfl) (λt=>by kernel_rfl) (by decide)
theorem Qj.QE:DC Qj.enc Qj.ls Qj.dec:=dcl (enc:=Qj.enc) (dec:=Qj.dec) Qj.toS (λ_=>by kernel_rfl) (λt=>by kernel_rfl) (by decide)
theorem Qc.QE:DC Qc.enc Qc.ls Qc.dec:=dcl (enc:=Qc.enc) (dec:=Qc.dec) Qc.toS (λ_=>by kernel_rfl) (λt=>by kernel_rfl) (by decide)
theorem Qe.QE:DC Qe.enc Qe.ls Qe.dec:=dcl (enc:=Qe.enc) (dec:=Qe.dec) Qe.toS (λ_=>by kernel_rfl) (λt=>by kernel_rfl) (by decide)
theorem QZ.QE:DC QZ.enc QZ.ls QZ.dec:=dcl (enc:=QZ.enc) (dec:=QZ.dec) QZ.toS (λ_=>by kernel_rfl) (λt=>by kernel_rfl) (by decide)
theorem Qg.QE:DC Qg.enc Qg.ls Qg.dec:=dcl (enc:=Qg.enc) (dec:=Qg.dec) Qg.toS (λ_=>by kernel_rfl) (λt=>by kernel_rfl) (by decide)
theorem Qb.QE:DC Qb.enc Qb.ls Qb.dec:=dcl (enc:=Qb.enc) (dec:=Qb.dec) Qb.toS (λ_=>by kernel_rfl) (λt=>by kernel_rfl) (by decide)
theorem Qh.QE:DC Qh.enc Qh.ls Qh.dec:=dcl (enc:=Qh.enc) (dec:=Qh.dec) Qh.toS (λ_=>by kernel_rfl) (λt=>by kernel_rfl) (by decide)
theorem Qz.QE:DC Qz.enc Qz.ls Qz.dec:=dcl (enc:=Qz.enc) (dec:=Qz.dec) Qz.toS (λ_=>by kernel_rfl) (λt=>by kernel_rfl) (by decide)
theorem Q24.QE:DC Q24.enc Q24.ls Q24.dec:=dcl (enc:=Q24.enc) (dec:=Q24.dec) Q24.toS (λ_=>by kernel_rfl) (λt=>by kernel_rfl) (by decide)
theorem Q1t.QE:DC Q1t.enc Q1t.ls Q1t.dec:=dcl (enc:=Q1t.enc) (dec:=Q1t.dec) Q1t.toS (λ_=>by kernel_rfl) (λt=>by kernel_rfl) (by decide)
theorem Q8g {l:List Cel} {x:UInt8} (h:Q9C l=some x):l.length=1/\∀(k:Nat) y,l[k]? =some y->∃z,(U.enc .u8 x)[k]? =some z/\SLe U y z:=by
 unfold Q9C at h
 split at h
 ·cases h
  exact Z1t (U:=U) (Z8A (U:=U) trivial)
 ·cases h
theorem Q7P {l:List Cel} {x:Int} (h:Q91 l=some x):l.length=1/\∀(k:Nat) y,l[k]? =some y->∃z,(U.enc .int x)[k]? =some z/\SLe U y z:=by
 unfold Q91 at h
 split at h
 ·exact Z1t (U:=U) (Z4z h)
 ·cases h
theorem Q60 {l:List Cel} {x:List (Qi)} (h:Q6c l=some x):l.length=1/\∀(k:Nat) y,l[k]? =some y->∃z,(U.enc .Q49 x)[k]? =some z/\SLe U y z:=by
 unfold Q6c at h
 split at h
 ·exact Z1t (U:=U) (Z2v h)
 ·cases h
theorem Q7R {l:List Cel} {x:Int} (h:Q9h l=some x):l.length=1/\∀(k:Nat) y,l[k]? =some y->∃z,(U.enc .u64 x)[k]? =some z/\SLe U y z:=by
 unfold Q9h at h
 split at h
 ·exact Z1t (U:=U) (Z4z h)
 ·cases h
theorem Q7J {l:List Cel} {x:Bool} (h:Q8n l=some x):l.length=1/\∀(k:Nat) y,l[k]? =some y->∃z,(U.enc .bool x)[k]? =some z/\SLe U y z:=by
 unfold Q8n at h
 split at h
 ·exact Z1t (U:=U) (Z5S h)
 ·cases h
theorem Q5w {l:List Cel} {x:Option (Qj)} (h:Q5p l=some x):l.length=1/\∀(k:Nat) y,l[k]? =some y->∃z,(U.enc .Q1K x)[k]? =some z/\SLe U y z:=by
 unfold Q5p at h
 split at h
 ·exact Z1t (U:=U) (Z8j h)
 ·cases h
theorem Q7n {l:List Cel} {x:List (Int)} (h:Q7V l=some x):l.length=1/\∀(k:Nat) y,l[k]? =some y->∃z,(U.enc .Q68 x)[k]? =some z/\SLe U y z:=by
 unfold Q7V at h
 split at h
 ·exact Z1t (U:=U) (Z2v h)
 ·cases h
theorem Q7g {l:List Cel} {x:List (Int)} (h:Q81 l=some x):l.length=1/\∀(k:Nat) y,l[k]? =some y->∃z,(U.enc .Q1P x)[k]? =some z/\SLe U y z:=by
 unfold Q81 at h
 split at h
 ·exact Z1t (U:=U) (Z2v h)
 ·cases h
theorem Q5V {k:Nat} {g:D .QG->D .Q1I->D .QG} (h:U.Q7e .QG .Q1I k=some g):(∀x y,U.dec .QG (Q1C k (U.enc .Q1I y) (U.enc .QG x))=some (g x y))/\k+U.size .Q1I<=U.size .QG:=by
 change (bif Nat.beq k 3 then some (λ(x:D .QG) (y:D .Q1I)=>({ x with Q45:=y}:D .QG)) else bif Nat.beq k 4 then some (λ(x:D .QG) (y:D .Q1I)=>({ x with Q54:=y}:D .QG)) else bif Nat.beq k 5 then some (λ(x:D .QG) (y:D .Q1I)=>({ x with Q4J:=y}:D .QG)) else bif Nat.beq k 6 then some (λ(x:D .QG) (y:D .Q1I)=>({ x with fsync:=y}:D .QG)) else bif Nat.beq k 7 then some (λ(x:D .QG) (y:D .Q1I)=>({ x with Q6R:=y}:D .QG)) else none)=some g at h
 cases h3:Nat.beq k 3 with
 |true=>rw [h3] at h;cases h;have:=QV h3;subst this;exact ⟨λx y=>by kernel_rfl,by decide⟩
 |false=>
 rw [h3] at h;simp only [cond_false] at h
 cases h4:Nat.beq k 4 with
 |true=>rw [h4] at h;cases h;have:=QV h4;subst this;exact ⟨λx y=>by kernel_rfl,by decide⟩
 |false=>
 rw [h4] at h;simp only [cond_false] at h
 cases h5:Nat.beq k 5 with
 |true=>rw [h5] at h;cases h;have:=QV h5;subst this;exact ⟨λx y=>by kernel_rfl,by decide⟩
 |false=>
 rw [h5] at h;simp only [cond_false] at h
 cases h6:Nat.beq k 6 with
 |true=>rw [h6] at h;cases h;have:=QV h6;subst this;exact ⟨λx y=>by kernel_rfl,by decide⟩
 |false=>
 rw [h6] at h;simp only [cond_false] at h
 cases h7:Nat.beq k 7 with
 |true=>rw [h7] at h;cases h;have:=QV h7;subst this;exact ⟨λx y=>by kernel_rfl,by decide⟩
 |false=>
 rw [h7] at h;simp only [cond_false] at h
 cases h
theorem Q5U {k:Nat} {g:D .QG->D .Q29->D .QG} (h:U.Q7e .QG .Q29 k=some g):(∀x y,U.dec .QG (Q1C k (U.enc .Q29 y) (U.enc .QG x))=some (g x y))/\k+U.size .Q29<=U.size .QG:=by
 change (bif Nat.beq k 14 then some (λ(x:D .QG) (y:D .Q29)=>({ x with Q6Y:=y}:D .QG)) else bif Nat.beq k 16 then some (λ(x:D .QG) (y:D .Q29)=>({ x with Q4a:=y}:D .QG)) else none)=some g at h
 cases h14:Nat.beq k 14 with
 |true=>rw [h14] at h;cases h;have:=QV h14;subst this;exact ⟨λx y=>by kernel_rfl,by decide⟩
 |false=>
 rw [h14] at h;simp only [cond_false] at h
 cases h16:Nat.beq k 16 with
 |true=>rw [h16] at h;cases h;have:=QV h16;subst this;exact ⟨λx y=>by kernel_rfl,by decide⟩
 |false=>
 rw [h16] at h;simp only [cond_false] at h
 cases h
theorem Q6p {k:Nat} {g:D .QG->D .Qk->D .QG} (h:U.Q7e .QG .Qk k=some g):(∀x y,U.dec .QG (Q1C k (U.enc .Qk y) (U.enc .QG x))=some (g x y))/\k+U.size .Qk<=U.size .QG:=by
 change (bif Nat.beq k 18 then some (λ(x:D .QG) (y:D .Qk)=>({ x with Q2y:=y}:D .QG)) else none)=some g at h
 cases h18:Nat.beq k 18 with
 |true=>rw [h18] at h;cases h;have:=QV h18;subst this;exact ⟨λx y=>by kernel_rfl,by decide⟩
 |false=>
 rw [h18] at h;simp only [cond_false] at h
 cases h
theorem Q5L:U.Ok where
 QH u x:=by cases u <;> rfl
 Q5f u x hp:=by cases u <;> first|rfl|(cases hp;done)
 Q4G u l x h:=by
  cases u
  case u8=>exact (Q8g h).1
  case Q3j=>exact (QJ.QE h).1
  case QW=>exact (Qi.QE h).1
  case int=>exact (Q7P h).1
  case Q1r=>exact (QF.QE h).1
  case Q2j=>exact (Qw.QE h).1
  case Q1d=>exact (Q9.QE h).1
  case Q2u=>exact (Qx.QE h).1
  case Q4b=>exact (Q1b.QE h).1
  case Qk=>exact (Q8.QE h).1
  case Qt=>exact (Qd.QE h).1
  case Q49=>exact (Q60 h).1
  case QA=>exact (Qc.QE h).1
  case Q19=>exact (Qj.QE h).1
  case QG=>exact (Q5.QE h).1
  case Q1I=>exact (QS.QE h).1
  case Q29=>exact (Q13.QE h).1
  case u64=>exact (Q7R h).1
  case bool=>exact (Q7J h).1
  case Q1K=>exact (Q5w h).1
  case Q68=>exact (Q7n h).1
  case Q1G=>exact (QX.QE h).1
  case Q7=>exact (Q1.QE h).1
  case Q1x=>exact (Qo.QE h).1
  case Qy=>exact (Qe.QE h).1
  case Q3x=>exact (QZ.QE h).1
  case Q10=>exact (Qg.QE h).1
  case Q11=>exact (Qb.QE h).1
  case Q18=>exact (Qh.QE h).1
  case Q1j=>exact (Qz.QE h).1
  case Q4x=>exact (Q24.QE h).1
  case Q31=>exact (Q1t.QE h).1
  case Q1P=>exact (Q7g h).1
 QE u l x h:=by
  cases u
  case u8=>exact (Q8g h).2
  case Q3j=>exact (QJ.QE h).2
  case QW=>exact (Qi.QE h).2
  case int=>exact (Q7P h).2
  case Q1r=>exact (QF.QE h).2
  case Q2j=>exact (Qw.QE h).2
  case Q1d=>exact (Q9.QE h).2
  case Q2u=>exact (Qx.QE h).2
  case Q4b=>exact (Q1b.QE h).2
  case Qk=>exact (Q8.QE h).2
  case Qt=>exact (Qd.QE h).2
  case Q49=>exact (Q60 h).2
  case QA=>exact (Qc.QE h).2
  case Q19=>exact (Qj.QE h).2
  case QG=>exact (Q5.QE h).2
  case Q1I=>exact (QS.QE h).2
  case Q29=>exact (Q13.QE h).2
  case u64=>exact (Q7R h).2
  case bool=>exact (Q7J h).2
  case Q1K=>exact (Q5w h).2
  case Q68=>exact (Q7n h).2
  case Q1G=>exact (QX.QE h).2
  case Q7=>exact (Q1.QE h).2
  case Q1x=>exact (Qo.QE h).2
  case Qy=>exact (Qe.QE h).2
  case Q3x=>exact (QZ.QE h).2
  case Q10=>exact (Qg.QE h).2
  case Q11=>exact (Qb.QE h).2
  case Q18=>exact (Qh.QE h).2
  case Q1j=>exact (Qz.QE h).2
  case Q4x=>exact (Q24.QE h).2
  case Q31=>exact (Q1t.QE h).2
  case Q1P=>exact (Q7g h).2
 Q5Q u xs bs h:=by
  cases u <;> first
   |(cases h;done)
   |(cases h;exact ⟨rfl,rfl,λi hi=>rfl⟩)
 Q7e v u k g h:=by
  cases v <;> first
   |(cases h;done)
   |(cases u <;> first|(cases h;done)|exact Q5V h|exact Q5U h|exact Q6p h)
 u8:=rfl
 ofBytes bs:=⟨rfl,λi hi=>rfl⟩
theorem Q4v:U.Pure:=λu x=>by cases u <;> rfl
theorem Qi.Q6h (x:Qi):Qi.dec x.enc=some x:=by kernel_rfl
theorem Qi.Q88 {x y:Qi} (h:x.enc=y.enc):x=y:=by
 have:=congrArg Qi.dec h
 rw [Qi.Q6h,Qi.Q6h] at this
 exact Option.some.inj this
theorem QF.Q6h (x:QF):QF.dec x.enc=some x:=by kernel_rfl
theorem QF.Q88 {x y:QF} (h:x.enc=y.enc):x=y:=by
 have:=congrArg QF.dec h
 rw [QF.Q6h,QF.Q6h] at this
 exact Option.some.inj this
theorem opq {t k n:Nat} {l:List U.S} (h:Q1T U Tryz.prog t ((l.drop k).take (Tryz.prog.cellsOf t))) (e:Tryz.prog.cellsOf t=n):Q1T U Tryz.prog t ((l.drop k).take n):=e▸h
theorem z24:Tryz.prog.cellsOf 24=1:=by kernel_rfl
theorem z3:Tryz.prog.cellsOf 3=1:=by kernel_rfl
theorem z31:Tryz.prog.cellsOf 31=2:=by kernel_rfl
def Qd.Wf (x:Qd):Prop:=(Lit.int .u64 x.QI).wf=true/\(Lit.int .i64 x.QR).wf=true
theorem Qd.opened {l:List U.S} (h:Q1T U Tryz.prog 31 l):∃x:Qd,l=x.enc/\x.Wf:=by
 obtain ⟨hl,hf⟩:=h.Q5l Tryz.underlying31
 rw [z31] at hl
 have q0:=opq (t:=24) (k:=0) (hf _ (List.mem_of_getElem? (i:=0) rfl)) z24
 obtain ⟨x0,e0,w0⟩:=q0.toInt Tryz.underlying24
 have q1:=opq (t:=3) (k:=1) (hf _ (List.mem_of_getElem? (i:=1) rfl)) z3
 obtain ⟨x1,e1,w1⟩:=q1.toInt Tryz.underlying3
 have hnil:l.drop 2= []:=List.drop_eq_nil_of_le (by omega)
 refine ⟨⟨x0,x1⟩,?_,w0,w1⟩
 have e:l.drop 0=l:=rfl
 rw [←e]
 rw [Zb l 0 1 1 rfl,e0,Zb l 1 1 2 rfl,e1,hnil]
 rfl
theorem z33:Tryz.prog.cellsOf 33=3:=by kernel_rfl
def Qx.Wf (x:Qx):Prop:=(Lit.int .i64 x.Q1W).wf=true/\(Lit.int .i64 x.Q1u).wf=true/\(Lit.int .i64 x.Q1F).wf=true
theorem Qx.opened {l:List U.S} (h:Q1T U Tryz.prog 33 l):∃x:Qx,l=x.enc/\x.Wf:=by
 obtain ⟨hl,hf⟩:=h.Q5l Tryz.underlying33
 rw [z33] at hl
 have q0:=opq (t:=3) (k:=0) (hf _ (List.mem_of_getElem? (i:=0) rfl)) z3
 obtain ⟨x0,e0,w0⟩:=q0.toInt Tryz.underlying3
 have q1:=opq (t:=3) (k:=1) (hf _ (List.mem_of_getElem? (i:=1) rfl)) z3
 obtain ⟨x1,e1,w1⟩:=q1.toInt Tryz.underlying3
 have q2:=opq (t:=3) (k:=2) (hf _ (List.mem_of_getElem? (i:=2) rfl)) z3
 obtain ⟨x2,e2,w2⟩:=q2.toInt Tryz.underlying3
 have hnil:l.drop 3= []:=List.drop_eq_nil_of_le (by omega)
 refine ⟨⟨x0,x1,x2⟩,?_,w0,w1,w2⟩
 have e:l.drop 0=l:=rfl
 rw [←e]
 rw [Zb l 0 1 1 rfl,e0,Zb l 1 1 2 rfl,e1,Zb l 2 1 3 rfl,e2,hnil]
 rfl
theorem z35:Tryz.prog.cellsOf 35=3:=by kernel_rfl
def Q1b.Wf (x:Q1b):Prop:=(Lit.int .i64 x.Q3c).wf=true/\(Lit.int .i64 x.Q1X).wf=true/\(Lit.int .i64 x.Q1Q).wf=true
theorem Q1b.opened {l:List U.S} (h:Q1T U Tryz.prog 35 l):∃x:Q1b,l=x.enc/\x.Wf:=by
 obtain ⟨hl,hf⟩:=h.Q5l Tryz.underlying35
 rw [z35] at hl
 have q0:=opq (t:=3) (k:=0) (hf _ (List.mem_of_getElem? (i:=0) rfl)) z3
 obtain ⟨x0,e0,w0⟩:=q0.toInt Tryz.underlying3
 have q1:=opq (t:=3) (k:=1) (hf _ (List.mem_of_getElem? (i:=1) rfl)) z3
 obtain ⟨x1,e1,w1⟩:=q1.toInt Tryz.underlying3
 have q2:=opq (t:=3) (k:=2) (hf _ (List.mem_of_getElem? (i:=2) rfl)) z3
 obtain ⟨x2,e2,w2⟩:=q2.toInt Tryz.underlying3
 have hnil:l.drop 3= []:=List.drop_eq_nil_of_le (by omega)
 refine ⟨⟨x0,x1,x2⟩,?_,w0,w1,w2⟩
 have e:l.drop 0=l:=rfl
 rw [←e]
 rw [Zb l 0 1 1 rfl,e0,Zb l 1 1 2 rfl,e1,Zb l 2 1 3 rfl,e2,hnil]
 rfl
theorem z4:Tryz.prog.cellsOf 4=1:=by kernel_rfl
theorem z37:Tryz.prog.cellsOf 37=23:=by kernel_rfl
def Q9.Wf (x:Q9):Prop:=(Lit.int .u64 x.QI).wf=true/\(Lit.int .i64 x.QB).wf=true/\(Lit.int .i64 x.Q1D).wf=true/\(Lit.int .i64 x.Q16).wf=true/\(Lit.int .i64 x.Q15).wf=true/\Qx.Wf x.Qv/\True/\(Lit.int .i64 x.Q46).wf=true/\(Lit.int .i64 x.Q3h).wf=true/\(Lit.int .i64 x.Q3l).wf=true/\(Lit.int .i64 x.Q3U).wf=true/\True/\True/\(Lit.int .i64 x.Q4s).wf=true/\(Lit.int .i64 x.fKp).wf=true/\(Lit.int .i64 x.fKi).wf=true/\(Lit.int .i64 x.Q5E).wf=true/\Q1b.Wf x.Q1e/\True
theorem Q9.opened {l:List U.S} (h:Q1T U Tryz.prog 37 l):∃x:Q9,l=x.enc/\x.Wf:=by
 obtain ⟨hl,hf⟩:=h.Q5l Tryz.underlying37
 rw [z37] at hl
 have q0:=opq (t:=24) (k:=0) (hf _ (List.mem_of_getElem? (i:=0) rfl)) z24
 obtain ⟨x0,e0,w0⟩:=q0.toInt Tryz.underlying24
 have q1:=opq (t:=3) (k:=1) (hf _ (List.mem_of_getElem? (i:=1) rfl)) z3
 obtain ⟨x1,e1,w1⟩:=q1.toInt Tryz.underlying3
 have q2:=opq (t:=3) (k:=2) (hf _ (List.mem_of_getElem? (i:=2) rfl)) z3
 obtain ⟨x2,e2,w2⟩:=q2.toInt Tryz.underlying3
 have q3:=opq (t:=3) (k:=3) (hf _ (List.mem_of_getElem? (i:=3) rfl)) z3
 obtain ⟨x3,e3,w3⟩:=q3.toInt Tryz.underlying3
 have q4:=opq (t:=3) (k:=4) (hf _ (List.mem_of_getElem? (i:=4) rfl)) z3
 obtain ⟨x4,e4,w4⟩:=q4.toInt Tryz.underlying3
 have q5:=opq (t:=33) (k:=5) (hf _ (List.mem_of_getElem? (i:=5) rfl)) z33
 obtain ⟨x5,e5,w5⟩:=Qx.opened q5
 have q6:=opq (t:=4) (k:=8) (hf _ (List.mem_of_getElem? (i:=6) rfl)) z4
 obtain ⟨x6,e6⟩:=q6.toBool Tryz.underlying4
 have w6:=trivial
 have q7:=opq (t:=3) (k:=9) (hf _ (List.mem_of_getElem? (i:=7) rfl)) z3
 obtain ⟨x7,e7,w7⟩:=q7.toInt Tryz.underlying3
 have q8:=opq (t:=3) (k:=10) (hf _ (List.mem_of_getElem? (i:=8) rfl)) z3
 obtain ⟨x8,e8,w8⟩:=q8.toInt Tryz.underlying3
 have q9:=opq (t:=3) (k:=11) (hf _ (List.mem_of_getElem? (i:=9) rfl)) z3
 obtain ⟨x9,e9,w9⟩:=q9.toInt Tryz.underlying3
 have q10:=opq (t:=3) (k:=12) (hf _ (List.mem_of_getElem? (i:=10) rfl)) z3
 obtain ⟨x10,e10,w10⟩:=q10.toInt Tryz.underlying3
 have q11:=opq (t:=4) (k:=13) (hf _ (List.mem_of_getElem? (i:=11) rfl)) z4
 obtain ⟨x11,e11⟩:=q11.toBool Tryz.underlying4
 have w11:=trivial
 have q12:=opq (t:=4) (k:=14) (hf _ (List.mem_of_getElem? (i:=12) rfl)) z4
 obtain ⟨x12,e12⟩:=q12.toBool Tryz.underlying4
 have w12:=trivial
 have q13:=opq (t:=3) (k:=15) (hf _ (List.mem_of_getElem? (i:=13) rfl)) z3
 obtain ⟨x13,e13,w13⟩:=q13.toInt Tryz.underlying3
 have q14:=opq (t:=3) (k:=16) (hf _ (List.mem_of_getElem? (i:=14) rfl)) z3
 obtain ⟨x14,e14,w14⟩:=q14.toInt Tryz.underlying3
 have q15:=opq (t:=3) (k:=17) (hf _ (List.mem_of_getElem? (i:=15) rfl)) z3
 obtain ⟨x15,e15,w15⟩:=q15.toInt Tryz.underlying3
 have q16:=opq (t:=3) (k:=18) (hf _ (List.mem_of_getElem? (i:=16) rfl)) z3
 obtain ⟨x16,e16,w16⟩:=q16.toInt Tryz.underlying3
 have q17:=opq (t:=35) (k:=19) (hf _ (List.mem_of_getElem? (i:=17) rfl)) z35
 obtain ⟨x17,e17,w17⟩:=Q1b.opened q17
 have q18:=opq (t:=4) (k:=22) (hf _ (List.mem_of_getElem? (i:=18) rfl)) z4
 obtain ⟨x18,e18⟩:=q18.toBool Tryz.underlying4
 have w18:=trivial
 have hnil:l.drop 23= []:=List.drop_eq_nil_of_le (by omega)
 refine ⟨⟨x0,x1,x2,x3,x4,x5,x6,x7,x8,x9,x10,x11,x12,x13,x14,x15,x16,x17,x18⟩,?_,w0,w1,w2,w3,w4,w5,w6,w7,w8,w9,w10,w11,w12,w13,w14,w15,w16,w17,w18⟩
 have e:l.drop 0=l:=rfl
 rw [←e]
 rw [Zb l 0 1 1 rfl,e0,Zb l 1 1 2 rfl,e1,Zb l 2 1 3 rfl,e2,Zb l 3 1 4 rfl,e3,Zb l 4 1 5 rfl,e4,Zb l 5 3 8 rfl,e5,Zb l 8 1 9 rfl,e6,Zb l 9 1 10 rfl,e7,Zb l 10 1 11 rfl,e8,Zb l 11 1 12 rfl,e9,Zb l 12 1 13 rfl,e10,Zb l 13 1 14 rfl,e11,Zb l 14 1 15 rfl,e12,Zb l 15 1 16 rfl,e13,Zb l 16 1 17 rfl,e14,Zb l 17 1 18 rfl,e15,Zb l 18 1 19 rfl,e16,Zb l 19 3 22 rfl,e17,Zb l 22 1 23 rfl,e18,hnil]
 rfl
theorem z9:Tryz.prog.cellsOf 9=1:=by kernel_rfl
theorem z39:Tryz.prog.cellsOf 39=29:=by kernel_rfl
def Qw.Wf (x:Qw):Prop:=(Lit.int .i64 x.Q4M).wf=true/\(Lit.int .i64 x.QR).wf=true/\(Lit.int .i64 x.Q6x).wf=true/\(Lit.int .i64 x.fType).wf=true/\(Lit.int .i64 x.Q2Y).wf=true/\x.Q35.size<=reachBytes/\Q9.Wf x.QQ
theorem Qw.opened {l:List U.S} (h:Q1T U Tryz.prog 39 l):∃x:Qw,l=x.enc/\x.Wf:=by
 obtain ⟨hl,hf⟩:=h.Q5l Tryz.underlying39
 rw [z39] at hl
 have q0:=opq (t:=3) (k:=0) (hf _ (List.mem_of_getElem? (i:=0) rfl)) z3
 obtain ⟨x0,e0,w0⟩:=q0.toInt Tryz.underlying3
 have q1:=opq (t:=3) (k:=1) (hf _ (List.mem_of_getElem? (i:=1) rfl)) z3
 obtain ⟨x1,e1,w1⟩:=q1.toInt Tryz.underlying3
 have q2:=opq (t:=3) (k:=2) (hf _ (List.mem_of_getElem? (i:=2) rfl)) z3
 obtain ⟨x2,e2,w2⟩:=q2.toInt Tryz.underlying3
 have q3:=opq (t:=3) (k:=3) (hf _ (List.mem_of_getElem? (i:=3) rfl)) z3
 obtain ⟨x3,e3,w3⟩:=q3.toInt Tryz.underlying3
 have q4:=opq (t:=3) (k:=4) (hf _ (List.mem_of_getElem? (i:=4) rfl)) z3
 obtain ⟨x4,e4,w4⟩:=q4.toInt Tryz.underlying3
 have q5:=opq (t:=9) (k:=5) (hf _ (List.mem_of_getElem? (i:=5) rfl)) z9
 obtain ⟨x5,e5,w5⟩:=q5.toStr Tryz.underlying9
 have q6:=opq (t:=37) (k:=6) (hf _ (List.mem_of_getElem? (i:=6) rfl)) z37
 obtain ⟨x6,e6,w6⟩:=Q9.opened q6
 have hnil:l.drop 29= []:=List.drop_eq_nil_of_le (by omega)
 refine ⟨⟨x0,x1,x2,x3,x4,x5,x6⟩,?_,w0,w1,w2,w3,w4,w5,w6⟩
 have e:l.drop 0=l:=rfl
 rw [←e]
 rw [Zb l 0 1 1 rfl,e0,Zb l 1 1 2 rfl,e1,Zb l 2 1 3 rfl,e2,Zb l 3 1 4 rfl,e3,Zb l 4 1 5 rfl,e4,Zb l 5 1 6 rfl,e5,Zb l 6 23 29 rfl,e6,hnil]
 rfl
theorem z50:Tryz.prog.cellsOf 50=23:=by kernel_rfl
def Q8.Wf (x:Q8):Prop:=(Lit.int .i64 x.fType).wf=true/\(Lit.int .i64 x.Q1D).wf=true/\(Lit.int .i64 x.Q1X).wf=true/\(Lit.int .i64 x.Q4q).wf=true/\Qd.Wf x.Q1H/\(Lit.int .i64 x.Q2Y).wf=true/\(Lit.int .i64 x.Q6g).wf=true/\(Lit.int .i64 x.Q44).wf=true/\Qd.Wf x.Q2e/\(Lit.int .i64 x.Q3c).wf=true/\(Lit.int .i64 x.Q16).wf=true/\Qx.Wf x.Qv/\(Lit.int .i64 x.Q15).wf=true/\(Lit.int .u64 x.Q2z).wf=true/\(Lit.int .i64 x.Q28).wf=true/\(Lit.int .i64 x.Q1Q).wf=true/\(Lit.int .i64 x.Q2U).wf=true/\(Lit.int .i64 x.Q4K).wf=true/\(Lit.int .i64 x.Q3p).wf=true
theorem Q8.opened {l:List U.S} (h:Q1T U Tryz.prog 50 l):∃x:Q8,l=x.enc/\x.Wf:=by
 obtain ⟨hl,hf⟩:=h.Q5l Tryz.underlying50
 rw [z50] at hl
 have q0:=opq (t:=3) (k:=0) (hf _ (List.mem_of_getElem? (i:=0) rfl)) z3
 obtain ⟨x0,e0,w0⟩:=q0.toInt Tryz.underlying3
 have q1:=opq (t:=3) (k:=1) (hf _ (List.mem_of_getElem? (i:=1) rfl)) z3
 obtain ⟨x1,e1,w1⟩:=q1.toInt Tryz.underlying3
 have q2:=opq (t:=3) (k:=2) (hf _ (List.mem_of_getElem? (i:=2) rfl)) z3
 obtain ⟨x2,e2,w2⟩:=q2.toInt Tryz.underlying3
 have q3:=opq (t:=3) (k:=3) (hf _ (List.mem_of_getElem? (i:=3) rfl)) z3
 obtain ⟨x3,e3,w3⟩:=q3.toInt Tryz.underlying3
 have q4:=opq (t:=31) (k:=4) (hf _ (List.mem_of_getElem? (i:=4) rfl)) z31
 obtain ⟨x4,e4,w4⟩:=Qd.opened q4
 have q5:=opq (t:=3) (k:=6) (hf _ (List.mem_of_getElem? (i:=5) rfl)) z3
 obtain ⟨x5,e5,w5⟩:=q5.toInt Tryz.underlying3
 have q6:=opq (t:=3) (k:=7) (hf _ (List.mem_of_getElem? (i:=6) rfl)) z3
 obtain ⟨x6,e6,w6⟩:=q6.toInt Tryz.underlying3
 have q7:=opq (t:=3) (k:=8) (hf _ (List.mem_of_getElem? (i:=7) rfl)) z3
 obtain ⟨x7,e7,w7⟩:=q7.toInt Tryz.underlying3
 have q8:=opq (t:=31) (k:=9) (hf _ (List.mem_of_getElem? (i:=8) rfl)) z31
 obtain ⟨x8,e8,w8⟩:=Qd.opened q8
 have q9:=opq (t:=3) (k:=11) (hf _ (List.mem_of_getElem? (i:=9) rfl)) z3
 obtain ⟨x9,e9,w9⟩:=q9.toInt Tryz.underlying3
 have q10:=opq (t:=3) (k:=12) (hf _ (List.mem_of_getElem? (i:=10) rfl)) z3
 obtain ⟨x10,e10,w10⟩:=q10.toInt Tryz.underlying3
 have q11:=opq (t:=33) (k:=13) (hf _ (List.mem_of_getElem? (i:=11) rfl)) z33
 obtain ⟨x11,e11,w11⟩:=Qx.opened q11
 have q12:=opq (t:=3) (k:=16) (hf _ (List.mem_of_getElem? (i:=12) rfl)) z3
 obtain ⟨x12,e12,w12⟩:=q12.toInt Tryz.underlying3
 have q13:=opq (t:=24) (k:=17) (hf _ (List.mem_of_getElem? (i:=13) rfl)) z24
 obtain ⟨x13,e13,w13⟩:=q13.toInt Tryz.underlying24
 have q14:=opq (t:=3) (k:=18) (hf _ (List.mem_of_getElem? (i:=14) rfl)) z3
 obtain ⟨x14,e14,w14⟩:=q14.toInt Tryz.underlying3
 have q15:=opq (t:=3) (k:=19) (hf _ (List.mem_of_getElem? (i:=15) rfl)) z3
 obtain ⟨x15,e15,w15⟩:=q15.toInt Tryz.underlying3
 have q16:=opq (t:=3) (k:=20) (hf _ (List.mem_of_getElem? (i:=16) rfl)) z3
 obtain ⟨x16,e16,w16⟩:=q16.toInt Tryz.underlying3
 have q17:=opq (t:=3) (k:=21) (hf _ (List.mem_of_getElem? (i:=17) rfl)) z3
 obtain ⟨x17,e17,w17⟩:=q17.toInt Tryz.underlying3
 have q18:=opq (t:=3) (k:=22) (hf _ (List.mem_of_getElem? (i:=18) rfl)) z3
 obtain ⟨x18,e18,w18⟩:=q18.toInt Tryz.underlying3
 have hnil:l.drop 23= []:=List.drop_eq_nil_of_le (by omega)
 refine ⟨⟨x0,x1,x2,x3,x4,x5,x6,x7,x8,x9,x10,x11,x12,x13,x14,x15,x16,x17,x18⟩,?_,w0,w1,w2,w3,w4,w5,w6,w7,w8,w9,w10,w11,w12,w13,w14,w15,w16,w17,w18⟩
 have e:l.drop 0=l:=rfl
 rw [←e]
 rw [Zb l 0 1 1 rfl,e0,Zb l 1 1 2 rfl,e1,Zb l 2 1 3 rfl,e2,Zb l 3 1 4 rfl,e3,Zb l 4 2 6 rfl,e4,Zb l 6 1 7 rfl,e5,Zb l 7 1 8 rfl,e6,Zb l 8 1 9 rfl,e7,Zb l 9 2 11 rfl,e8,Zb l 11 1 12 rfl,e9,Zb l 12 1 13 rfl,e10,Zb l 13 3 16 rfl,e11,Zb l 16 1 17 rfl,e12,Zb l 17 1 18 rfl,e13,Zb l 18 1 19 rfl,e14,Zb l 19 1 20 rfl,e15,Zb l 20 1 21 rfl,e16,Zb l 21 1 22 rfl,e17,Zb l 22 1 23 rfl,e18,hnil]
 rfl
theorem z112:Tryz.prog.cellsOf 112=2:=by kernel_rfl
def Qi.Wf (x:Qi):Prop:=(Lit.int .i64 x.fType).wf=true/\x.Q2s.size<=reachBytes
theorem Qi.opened {l:List U.S} (h:Q1T U Tryz.prog 112 l):∃x:Qi,l=x.enc/\x.Wf:=by
 obtain ⟨hl,hf⟩:=h.Q5l Tryz.underlying112
 rw [z112] at hl
 have q0:=opq (t:=3) (k:=0) (hf _ (List.mem_of_getElem? (i:=0) rfl)) z3
 obtain ⟨x0,e0,w0⟩:=q0.toInt Tryz.underlying3
 have q1:=opq (t:=9) (k:=1) (hf _ (List.mem_of_getElem? (i:=1) rfl)) z9
 obtain ⟨x1,e1,w1⟩:=q1.toStr Tryz.underlying9
 have hnil:l.drop 2= []:=List.drop_eq_nil_of_le (by omega)
 refine ⟨⟨x0,x1⟩,?_,w0,w1⟩
 have e:l.drop 0=l:=rfl
 rw [←e]
 rw [Zb l 0 1 1 rfl,e0,Zb l 1 1 2 rfl,e1,hnil]
 rfl
theorem z51:Tryz.prog.cellsOf 51=1:=by kernel_rfl
theorem zb112:Tryz.prog.bytesOf 112=24:=by kernel_rfl
theorem z60:Tryz.prog.cellsOf 60=57:=by kernel_rfl
def QF.Wf (x:QF):Prop:=(Lit.int .i64 x.fHow).wf=true/\(Lit.int .i64 x.fN).wf=true/\(Lit.int .i64 x.fAt).wf=true/\(Lit.int .i64 x.fBy).wf=true/\Qw.Wf x.fE/\Q8.Wf x.fM/\(x.fL.length*24<=reachBytes/\∀y∈x.fL,Qi.Wf y)
theorem QF.opened {l:List U.S} (h:Q1T U Tryz.prog 60 l):∃x:QF,l=x.enc/\x.Wf:=by
 obtain ⟨hl,hf⟩:=h.Q5l Tryz.underlying60
 rw [z60] at hl
 have q0:=opq (t:=3) (k:=0) (hf _ (List.mem_of_getElem? (i:=0) rfl)) z3
 obtain ⟨x0,e0,w0⟩:=q0.toInt Tryz.underlying3
 have q1:=opq (t:=3) (k:=1) (hf _ (List.mem_of_getElem? (i:=1) rfl)) z3
 obtain ⟨x1,e1,w1⟩:=q1.toInt Tryz.underlying3
 have q2:=opq (t:=3) (k:=2) (hf _ (List.mem_of_getElem? (i:=2) rfl)) z3
 obtain ⟨x2,e2,w2⟩:=q2.toInt Tryz.underlying3
 have q3:=opq (t:=3) (k:=3) (hf _ (List.mem_of_getElem? (i:=3) rfl)) z3
 obtain ⟨x3,e3,w3⟩:=q3.toInt Tryz.underlying3
 have q4:=opq (t:=39) (k:=4) (hf _ (List.mem_of_getElem? (i:=4) rfl)) z39
 obtain ⟨x4,e4,w4⟩:=Qw.opened q4
 have q5:=opq (t:=50) (k:=33) (hf _ (List.mem_of_getElem? (i:=5) rfl)) z50
 obtain ⟨x5,e5,w5⟩:=Q8.opened q5
 have q6:=opq (t:=51) (k:=56) (hf _ (List.mem_of_getElem? (i:=6) rfl)) z51
 obtain ⟨x6,e6,b6,a6⟩:=q6.Q9Y (u:=UC.QW) Tryz.underlying51 rfl
 rw [zb112] at b6
 have w6:=And.intro b6 (λy hy=>(by obtain ⟨x,e,w⟩:=Qi.opened (a6 y hy);have:=Qi.Q88 e;subst this;exact w))
 have hnil:l.drop 57= []:=List.drop_eq_nil_of_le (by omega)
 refine ⟨⟨x0,x1,x2,x3,x4,x5,x6⟩,?_,w0,w1,w2,w3,w4,w5,w6⟩
 have e:l.drop 0=l:=rfl
 rw [←e]
 rw [Zb l 0 1 1 rfl,e0,Zb l 1 1 2 rfl,e1,Zb l 2 1 3 rfl,e2,Zb l 3 1 4 rfl,e3,Zb l 4 29 33 rfl,e4,Zb l 33 23 56 rfl,e5,Zb l 56 1 57 rfl,e6,hnil]
 rfl
theorem QdV {l:List U.S} (h:Q1T U Tryz.prog 3 l):∃x:D .int,U.dec .int l=some x/\Q1T U Tryz.prog 3 (U.enc .int x):=by
 obtain ⟨x,rfl,w⟩:=h.toInt Tryz.underlying3
 exact ⟨x,by kernel_rfl,h⟩
theorem QcB {l:List U.S} (h:Q1T U Tryz.prog 60 l):∃x:D .Q1r,U.dec .Q1r l=some x/\Q1T U Tryz.prog 60 (U.enc .Q1r x):=by
 obtain ⟨x,rfl,w⟩:=QF.opened h
 exact ⟨x,QF.Q6h x,h⟩
theorem QbX {l:List U.S} (h:Q1T U Tryz.prog 112 l):∃x:D .QW,U.dec .QW l=some x/\Q1T U Tryz.prog 112 (U.enc .QW x):=by
 obtain ⟨x,rfl,w⟩:=Qi.opened h
 exact ⟨x,Qi.Q6h x,h⟩
def dTs (e:TypeId):Bool:= [3,60,112].contains e
theorem decs:QaX U Tryz.prog dTs:=by
 intro e u l hd hu h
 have hd:e∈([3,60,112]:List Nat):=List.contains_iff_mem.1 hd
 have hu:ofT e=some u:=hu
 simp only [List.mem_cons,List.not_mem_nil,or_false] at hd
 rcases hd with rfl|rfl|rfl
 ·cases hu;exact QdV h
 ·cases hu;exact QcB h
 ·cases hu;exact QbX h
theorem mixed:Tryz.prog.follows .mixedOrders=true:=by kernel_rfl
end Go.Proofs.YtgnabnhggaondaaGreat
