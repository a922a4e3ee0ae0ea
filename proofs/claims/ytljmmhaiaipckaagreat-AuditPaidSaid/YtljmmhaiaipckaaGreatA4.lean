/- Parts of the proofs, merged by a program. -/
import Derived.Test.YtljmmhaiaipckaaGreatA3
set_option maxRecDepth 100000
set_option linter.all false
noncomputable section
namespace Go.Proofs.YtljmmhaiaipckaaGreat
open Go Go.Bv Go.Cv Go.Md Go.RowKit
open Go.IntKind (i64 u64)
structure wP where
 wAk:Int
 wD:Int
 wAG:Int
 wAA:Int
 ww:Int
 wd:Int
 wAe:Int
 wAQ:Int
 wBA:Int
 deriving Inhabited,DecidableEq
structure wBW where
 wm:Int
 wAm:Int
 wAl:Int
 wAF:Li
 deriving Inhabited,DecidableEq
structure wy where
 wM:Int
 wE:Li
 wA:List wBW
 wH:Int
 wL:Int
 Fee:Int
 wQ:Int
 wS:Int
 wAc:Int
 wh:Li
 deriving Inhabited,DecidableEq
structure wU where
 wBj:Int
 wO:Int
 wBP:Int
 wBA:Int
 wS:Int
 Txs:List wy
 deriving Inhabited,DecidableEq
structure wG where
 wBF:Int
 wAp:Li
 wAo:Int
 deriving Inhabited,DecidableEq
structure wAy where
 wBU:Int
 wBM:Int
 wBT:Int
 deriving Inhabited,DecidableEq
structure wI where
 wD:Int
 wAY:Int
 wAa:Li
 deriving Inhabited,DecidableEq
structure wAh where
 P:Int
 deriving Inhabited,DecidableEq
structure wAf where
 a0:Int
 a1:Int
 a2:Int
 deriving Inhabited,DecidableEq
structure wB where
 ID:Int
 wb:Int
 wS:Int
 deriving Inhabited,DecidableEq
structure wAB where
 wBY:Int
 wBZ:Int
 wBa:Li
 leaves:Int
 marks:Li
 wBV:List wB
 hidden:Int
 deriving Inhabited,DecidableEq
structure wN where
 wR:Int
 we:Int
 wY:Int
 wz:Int
 Key:Int
 wAP:Int
 wC:Int
 wj:Li
 wBQ:Bool
 deriving Inhabited,DecidableEq
structure wAb where
 root:Int
 leaves:Int
 deriving Inhabited,DecidableEq
structure wJ where
 Value:Int
 wAg:Int
 Rho:Int
 wBL:Int
 deriving Inhabited,DecidableEq
structure wAn where
 a0:Int
 a1:Int
 deriving Inhabited,DecidableEq
structure wAN where
 wF:List wB
 deriving Inhabited,DecidableEq
structure wZ where
 Ins:List wN
 wA:List wJ
 wAV:Int
 deriving Inhabited,DecidableEq
structure wAd where
 wD:Int
 wM:Int
 wE:Li
 wt:Li
 wAi:Li
 wH:Int
 wL:Int
 Fee:Int
 wQ:Int
 wBb:Int
 deriving Inhabited,DecidableEq
structure wAX where
 wAW:Int
 wO:Int
 Tx:Int
 wBH:Int
 wBJ:Li
 wAw:Int
 wBK:Int
 wBI:Li
 wAv:Int
 deriving Inhabited,DecidableEq
structure wK where
 wBR:Int
 wBS:Int
 wAE:Int
 wAx:Int
 wAU:Int
 wT:Int
 wAR:Int
 wAq:Int
 wAL:Int
 wAD:Li
 wAH:Int
 wAM:Int
 wAC:Li
 wAI:Int
 deriving Inhabited,DecidableEq
structure wc where
 wR:Int
 we:Int
 wY:Int
 wz:Int
 wAP:Int
 wC:Int
 wO:Int
 wAU:Int
 deriving Inhabited,DecidableEq
structure wAj where
 Key:Int
 wS:Int
 wBs:Li
 wBr:Li
 deriving Inhabited,DecidableEq
structure wBG where
 wAK:List wN
 wBO:List wJ
 wBe:Int
 Is:Bool
 deriving Inhabited,DecidableEq
structure wAr where
 wAz:Bool
 wBl:Int
 wBo:Int
 wBk:List wG
 wBn:List wAj
 wBh:List wAj
 deriving Inhabited,DecidableEq
structure wAZ where
 wAT:Int
 wn:Int
 wa:Int
 wX:Int
 wW:Int
 wo:Int
 wV:Int
 wx:Int
 wAS:Int
 wO:Int
 wAO:Li
 wE:Li
 wF:List wB
 wAE:Int
 wg:Li
 deriving Inhabited,DecidableEq
structure wAs where
 wC:Int
 wBX:Int
 wBc:Int
 wBf:Int
 wBd:Int
 wBq:Int
 wBi:Int
 wBg:Int
 wBp:Li
 wBm:Bool
 deriving Inhabited,DecidableEq
structure wv where
 wBN:Bool
 wBC:Int
 wBB:Int
 wBE:List wG
 wBD:List wAj
 wAt:List wAj
 wD:Int
 wg:Li
 wAu:Li
 wl:List wJ
 wAJ:List wAs
 deriving Inhabited,DecidableEq
def denT:Nat->Type
 |0=>wP
 |1=>wBW
 |2=>wy
 |3=>wU
 |4=>wG
 |5=>wAy
 |6=>wI
 |7=>wAh
 |8=>wAf
 |9=>wB
 |10=>wAB
 |11=>wN
 |12=>wAb
 |13=>wJ
 |14=>wAn
 |15=>wAN
 |16=>wZ
 |17=>wAd
 |18=>wAX
 |19=>wK
 |20=>wc
 |21=>wAj
 |22=>wBG
 |23=>wAr
 |24=>wAZ
 |25=>wAs
 |26=>wv
 |_=>Unit
def tysT:Nat->List Ty
 |0=>[.int .i64,.int .i64,.int .i64,.int .i64,.int .i64,.int .u64,.int .i64,.int .i64,.int .u64]
 |1=>[.int .u64,.int .u64,.int .u64,.sl (.int .u64)]
 |2=>[.int .u64,.sl (.int .u64),.sl (.st 1),.int .u64,.int .u64,.int .u64,.int .u64,.int .u64,.int .i64,.sl (.int .u8)]
 |3=>[.int .u64,.int .i64,.int .u64,.int .u64,.int .u64,.sl (.st 2)]
 |4=>[.int .u64,.sl (.int .u64),.int .u64]
 |5=>[.int .i64,.int .i64,.int .i64]
 |6=>[.int .i64,.int .i64,.sl (.int .u64)]
 |7=>[.int .u64]
 |8=>[.int .u64,.int .u64,.int .u64]
 |9=>[.int .u64,.int .u64,.int .u64]
 |10=>[.int .i64,.int .i64,.sl (.int .u64),.int .i64,.sl (.int .u64),.sl (.st 9),.int .u64]
 |11=>[.int .u64,.int .u64,.int .u64,.int .u64,.int .u64,.int .i64,.int .i64,.sl (.int .u64),.bool]
 |12=>[.int .u64,.int .i64]
 |13=>[.int .u64,.int .u64,.int .u64,.int .u64]
 |14=>[.int .u64,.int .u64]
 |15=>[.sl (.st 9)]
 |16=>[.sl (.st 11),.sl (.st 13),.int .u64]
 |17=>[.int .i64,.int .u64,.sl (.int .u64),.sl (.int .u64),.sl (.int .u64),.int .u64,.int .u64,.int .u64,.int .u64,.int .u64]
 |18=>[.int .i64,.int .i64,.int .i64,.int .u64,.sl (.int .u64),.int .u64,.int .u64,.sl (.int .u64),.int .u64]
 |19=>[.int .u64,.int .u64,.int .u64,.int .i64,.int .i64,.int .i64,.int .i64,.int .i64,.int .u64,.sl (.int .u64),.int .u64,.int .u64,.sl (.int .u64),.int .u64]
 |20=>[.int .u64,.int .u64,.int .u64,.int .u64,.int .i64,.int .i64,.int .i64,.int .i64]
 |21=>[.int .u64,.int .u64,.sl (.int .u64),.sl (.int .u64)]
 |22=>[.sl (.st 11),.sl (.st 13),.int .u64,.bool]
 |23=>[.bool,.int .u64,.int .i64,.sl (.st 4),.sl (.st 21),.sl (.st 21)]
 |24=>[.int .i64,.int .i64,.int .i64,.int .i64,.int .i64,.int .u64,.int .i64,.int .i64,.int .u64,.int .i64,.sl (.int .u64),.sl (.int .u64),.sl (.st 9),.int .u64,.sl (.int .u64)]
 |25=>[.int .i64,.int .u64,.int .u64,.int .u64,.int .u64,.int .u64,.int .i64,.int .i64,.sl (.int .u64),.bool]
 |26=>[.bool,.int .u64,.int .i64,.sl (.st 4),.sl (.st 21),.sl (.st 21),.int .i64,.sl (.int .u64),.sl (.int .i64),.sl (.st 13),.sl (.st 25)]
 |_=>[]
theorem kor (x:wN):wN.mk x.wR x.we x.wY x.wz x.Key x.wAP x.wC x.wj x.wBQ=x:=rfl
theorem k5b (x:wJ):wJ.mk x.Value x.wAg x.Rho x.wBL=x:=rfl
def encTRules (x:wP):D:= .agg [.int .i64 x.wAk,.int .i64 x.wD,.int .i64 x.wAG,.int .i64 x.wAA,.int .i64 x.ww,.int .u64 x.wd,.int .i64 x.wAe,.int .i64 x.wAQ,.int .u64 x.wBA]
def encTOut (x:wBW):D:= .agg [.int .u64 x.wm,.int .u64 x.wAm,.int .u64 x.wAl,.slice 1 (x.wAF.map (D.int .u64))]
def encTTx (x:wy):D:= .agg [.int .u64 x.wM,.slice 1 (x.wE.map (D.int .u64)),.slice 4 (x.wA.map encTOut),.int .u64 x.wH,.int .u64 x.wL,.int .u64 x.Fee,.int .u64 x.wQ,.int .u64 x.wS,.int .i64 x.wAc,.slice 1 (x.wh.map (D.int .u8))]
def encTBlock (x:wU):D:= .agg [.int .u64 x.wBj,.int .i64 x.wO,.int .u64 x.wBP,.int .u64 x.wBA,.int .u64 x.wS,.slice 10 (x.Txs.map encTTx)]
def encTQuestion (x:wG):D:= .agg [.int .u64 x.wBF,.slice 1 (x.wAp.map (D.int .u64)),.int .u64 x.wAo]
def encTProofParams (x:wAy):D:= .agg [.int .i64 x.wBU,.int .i64 x.wBM,.int .i64 x.wBT]
def encTFrontier (x:wI):D:= .agg [.int .i64 x.wD,.int .i64 x.wAY,.slice 1 (x.wAa.map (D.int .u64))]
def encTField (x:wAh):D:= .agg [.int .u64 x.P]
def encTA3 (x:wAf):D:= .agg [.int .u64 x.a0,.int .u64 x.a1,.int .u64 x.a2]
def encTAccount (x:wB):D:= .agg [.int .u64 x.ID,.int .u64 x.wb,.int .u64 x.wS]
def encTbefore (x:wAB):D:= .agg [.int .i64 x.wBY,.int .i64 x.wBZ,.slice 1 (x.wBa.map (D.int .u64)),.int .i64 x.leaves,.slice 1 (x.marks.map (D.int .u64)),.slice 3 (x.wBV.map encTAccount),.int .u64 x.hidden]
def encTSpent (x:wN):D:= .agg [.int .u64 x.wR,.int .u64 x.we,.int .u64 x.wY,.int .u64 x.wz,.int .u64 x.Key,.int .i64 x.wAP,.int .i64 x.wC,.slice 1 (x.wj.map (D.int .u64)),.bool x.wBQ]
def encTtree (x:wAb):D:= .agg [.int .u64 x.root,.int .i64 x.leaves]
def encTNote (x:wJ):D:= .agg [.int .u64 x.Value,.int .u64 x.wAg,.int .u64 x.Rho,.int .u64 x.wBL]
def encTA2 (x:wAn):D:= .agg [.int .u64 x.a0,.int .u64 x.a1]
def encTLedger (x:wAN):D:= .agg [.slice 3 (x.wF.map encTAccount)]
def encTWitness (x:wZ):D:= .agg [.slice 9 (x.Ins.map encTSpent),.slice 4 (x.wA.map encTNote),.int .u64 x.wAV]
def encTStatement (x:wAd):D:= .agg [.int .i64 x.wD,.int .u64 x.wM,.slice 1 (x.wE.map (D.int .u64)),.slice 1 (x.wt.map (D.int .u64)),.slice 1 (x.wAi.map (D.int .u64)),.int .u64 x.wH,.int .u64 x.wL,.int .u64 x.Fee,.int .u64 x.wQ,.int .u64 x.wBb]
def encTFault (x:wAX):D:= .agg [.int .i64 x.wAW,.int .i64 x.wO,.int .i64 x.Tx,.int .u64 x.wBH,.slice 1 (x.wBJ.map (D.int .u64)),.int .u64 x.wAw,.int .u64 x.wBK,.slice 1 (x.wBI.map (D.int .u64)),.int .u64 x.wAv]
def encTReport (x:wK):D:= .agg [.int .u64 x.wBR,.int .u64 x.wBS,.int .u64 x.wAE,.int .i64 x.wAx,.int .i64 x.wAU,.int .i64 x.wT,.int .i64 x.wAR,.int .i64 x.wAq,.int .u64 x.wAL,.slice 1 (x.wAD.map (D.int .u64)),.int .u64 x.wAH,.int .u64 x.wAM,.slice 1 (x.wAC.map (D.int .u64)),.int .u64 x.wAI]
def encTOwned (x:wc):D:= .agg [.int .u64 x.wR,.int .u64 x.we,.int .u64 x.wY,.int .u64 x.wz,.int .i64 x.wAP,.int .i64 x.wC,.int .i64 x.wO,.int .i64 x.wAU]
def encTStored (x:wAj):D:= .agg [.int .u64 x.Key,.int .u64 x.wS,.slice 1 (x.wBs.map (D.int .u64)),.slice 1 (x.wBr.map (D.int .u64))]
def encTKnown (x:wBG):D:= .agg [.slice 9 (x.wAK.map encTSpent),.slice 4 (x.wBO.map encTNote),.int .u64 x.wBe,.bool x.Is]
def encTPlace (x:wAr):D:= .agg [.bool x.wAz,.int .u64 x.wBl,.int .i64 x.wBo,.slice 3 (x.wBk.map encTQuestion),.slice 4 (x.wBn.map encTStored),.slice 4 (x.wBh.map encTStored)]
def encTState (x:wAZ):D:= .agg [.int .i64 x.wAT,.int .i64 x.wn,.int .i64 x.wa,.int .i64 x.wX,.int .i64 x.wW,.int .u64 x.wo,.int .i64 x.wV,.int .i64 x.wx,.int .u64 x.wAS,.int .i64 x.wO,.slice 1 (x.wAO.map (D.int .u64)),.slice 1 (x.wE.map (D.int .u64)),.slice 3 (x.wF.map encTAccount),.int .u64 x.wAE,.slice 1 (x.wg.map (D.int .u64))]
def encTuse (x:wAs):D:= .agg [.int .i64 x.wC,.int .u64 x.wBX,.int .u64 x.wBc,.int .u64 x.wBf,.int .u64 x.wBd,.int .u64 x.wBq,.int .i64 x.wBi,.int .i64 x.wBg,.slice 1 (x.wBp.map (D.int .u64)),.bool x.wBm]
def encTbook (x:wv):D:= .agg [.bool x.wBN,.int .u64 x.wBC,.int .i64 x.wBB,.slice 3 (x.wBE.map encTQuestion),.slice 4 (x.wBD.map encTStored),.slice 4 (x.wAt.map encTStored),.int .i64 x.wD,.slice 1 (x.wg.map (D.int .u64)),.slice 1 (x.wAu.map (D.int .i64)),.slice 4 (x.wl.map encTNote),.slice 10 (x.wAJ.map encTuse)]
def TB:Tab where
 den:=denT
 tys:=tysT
 inh:=fun n=>match n with
  |0=>(default:wP)
  |1=>(default:wBW)
  |2=>(default:wy)
  |3=>(default:wU)
  |4=>(default:wG)
  |5=>(default:wAy)
  |6=>(default:wI)
  |7=>(default:wAh)
  |8=>(default:wAf)
  |9=>(default:wB)
  |10=>(default:wAB)
  |11=>(default:wN)
  |12=>(default:wAb)
  |13=>(default:wJ)
  |14=>(default:wAn)
  |15=>(default:wAN)
  |16=>(default:wZ)
  |17=>(default:wAd)
  |18=>(default:wAX)
  |19=>(default:wK)
  |20=>(default:wc)
  |21=>(default:wAj)
  |22=>(default:wBG)
  |23=>(default:wAr)
  |24=>(default:wAZ)
  |25=>(default:wAs)
  |26=>(default:wv)
  |_+27=>()
 cells:=fun n=>match n with
  |0=>fun(x:wP)=>(x.wAk,x.wD,x.wAG,x.wAA,x.ww,x.wd,x.wAe,x.wAQ,x.wBA,())
  |1=>fun(x:wBW)=>(x.wm,x.wAm,x.wAl,x.wAF,())
  |2=>fun(x:wy)=>(x.wM,x.wE,x.wA,x.wH,x.wL,x.Fee,x.wQ,x.wS,x.wAc,x.wh,())
  |3=>fun(x:wU)=>(x.wBj,x.wO,x.wBP,x.wBA,x.wS,x.Txs,())
  |4=>fun(x:wG)=>(x.wBF,x.wAp,x.wAo,())
  |5=>fun(x:wAy)=>(x.wBU,x.wBM,x.wBT,())
  |6=>fun(x:wI)=>(x.wD,x.wAY,x.wAa,())
  |7=>fun(x:wAh)=>(x.P,())
  |8=>fun(x:wAf)=>(x.a0,x.a1,x.a2,())
  |9=>fun(x:wB)=>(x.ID,x.wb,x.wS,())
  |10=>fun(x:wAB)=>(x.wBY,x.wBZ,x.wBa,x.leaves,x.marks,x.wBV,x.hidden,())
  |11=>fun(x:wN)=>(x.wR,x.we,x.wY,x.wz,x.Key,x.wAP,x.wC,x.wj,x.wBQ,())
  |12=>fun(x:wAb)=>(x.root,x.leaves,())
  |13=>fun(x:wJ)=>(x.Value,x.wAg,x.Rho,x.wBL,())
  |14=>fun(x:wAn)=>(x.a0,x.a1,())
  |15=>fun(x:wAN)=>(x.wF,())
  |16=>fun(x:wZ)=>(x.Ins,x.wA,x.wAV,())
  |17=>fun(x:wAd)=>(x.wD,x.wM,x.wE,x.wt,x.wAi,x.wH,x.wL,x.Fee,x.wQ,x.wBb,())
  |18=>fun(x:wAX)=>(x.wAW,x.wO,x.Tx,x.wBH,x.wBJ,x.wAw,x.wBK,x.wBI,x.wAv,())
  |19=>fun(x:wK)=>(x.wBR,x.wBS,x.wAE,x.wAx,x.wAU,x.wT,x.wAR,x.wAq,x.wAL,x.wAD,x.wAH,x.wAM,x.wAC,x.wAI,())
  |20=>fun(x:wc)=>(x.wR,x.we,x.wY,x.wz,x.wAP,x.wC,x.wO,x.wAU,())
  |21=>fun(x:wAj)=>(x.Key,x.wS,x.wBs,x.wBr,())
  |22=>fun(x:wBG)=>(x.wAK,x.wBO,x.wBe,x.Is,())
  |23=>fun(x:wAr)=>(x.wAz,x.wBl,x.wBo,x.wBk,x.wBn,x.wBh,())
  |24=>fun(x:wAZ)=>(x.wAT,x.wn,x.wa,x.wX,x.wW,x.wo,x.wV,x.wx,x.wAS,x.wO,x.wAO,x.wE,x.wF,x.wAE,x.wg,())
  |25=>fun(x:wAs)=>(x.wC,x.wBX,x.wBc,x.wBf,x.wBd,x.wBq,x.wBi,x.wBg,x.wBp,x.wBm,())
  |26=>fun(x:wv)=>(x.wBN,x.wBC,x.wBB,x.wBE,x.wBD,x.wAt,x.wD,x.wg,x.wAu,x.wl,x.wAJ,())
  |_+27=>fun _=>()
 pack:=fun n=>match n with
  |0=>fun(q0,q1,q2,q3,q4,q5,q6,q7,q8,())=>wP.mk q0 q1 q2 q3 q4 q5 q6 q7 q8
  |1=>fun(q0,q1,q2,q3,())=>wBW.mk q0 q1 q2 q3
  |2=>fun(q0,q1,q2,q3,q4,q5,q6,q7,q8,q9,())=>wy.mk q0 q1 q2 q3 q4 q5 q6 q7 q8 q9
  |3=>fun(q0,q1,q2,q3,q4,q5,())=>wU.mk q0 q1 q2 q3 q4 q5
  |4=>fun(q0,q1,q2,())=>wG.mk q0 q1 q2
  |5=>fun(q0,q1,q2,())=>wAy.mk q0 q1 q2
  |6=>fun(q0,q1,q2,())=>wI.mk q0 q1 q2
  |7=>fun(q0,())=>wAh.mk q0
  |8=>fun(q0,q1,q2,())=>wAf.mk q0 q1 q2
  |9=>fun(q0,q1,q2,())=>wB.mk q0 q1 q2
  |10=>fun(q0,q1,q2,q3,q4,q5,q6,())=>wAB.mk q0 q1 q2 q3 q4 q5 q6
  |11=>fun(q0,q1,q2,q3,q4,q5,q6,q7,q8,())=>wN.mk q0 q1 q2 q3 q4 q5 q6 q7 q8
  |12=>fun(q0,q1,())=>wAb.mk q0 q1
  |13=>fun(q0,q1,q2,q3,())=>wJ.mk q0 q1 q2 q3
  |14=>fun(q0,q1,())=>wAn.mk q0 q1
  |15=>fun(q0,())=>wAN.mk q0
  |16=>fun(q0,q1,q2,())=>wZ.mk q0 q1 q2
  |17=>fun(q0,q1,q2,q3,q4,q5,q6,q7,q8,q9,())=>wAd.mk q0 q1 q2 q3 q4 q5 q6 q7 q8 q9
  |18=>fun(q0,q1,q2,q3,q4,q5,q6,q7,q8,())=>wAX.mk q0 q1 q2 q3 q4 q5 q6 q7 q8
  |19=>fun(q0,q1,q2,q3,q4,q5,q6,q7,q8,q9,q10,q11,q12,q13,())=>wK.mk q0 q1 q2 q3 q4 q5 q6 q7 q8 q9 q10 q11 q12 q13
  |20=>fun(q0,q1,q2,q3,q4,q5,q6,q7,())=>wc.mk q0 q1 q2 q3 q4 q5 q6 q7
  |21=>fun(q0,q1,q2,q3,())=>wAj.mk q0 q1 q2 q3
  |22=>fun(q0,q1,q2,q3,())=>wBG.mk q0 q1 q2 q3
  |23=>fun(q0,q1,q2,q3,q4,q5,())=>wAr.mk q0 q1 q2 q3 q4 q5
  |24=>fun(q0,q1,q2,q3,q4,q5,q6,q7,q8,q9,q10,q11,q12,q13,q14,())=>wAZ.mk q0 q1 q2 q3 q4 q5 q6 q7 q8 q9 q10 q11 q12 q13 q14
  |25=>fun(q0,q1,q2,q3,q4,q5,q6,q7,q8,q9,())=>wAs.mk q0 q1 q2 q3 q4 q5 q6 q7 q8 q9
  |26=>fun(q0,q1,q2,q3,q4,q5,q6,q7,q8,q9,q10,())=>wv.mk q0 q1 q2 q3 q4 q5 q6 q7 q8 q9 q10
  |_+27=>fun _=>()
 enc:=fun n=>match n with
  |0=>encTRules
  |1=>encTOut
  |2=>encTTx
  |3=>encTBlock
  |4=>encTQuestion
  |5=>encTProofParams
  |6=>encTFrontier
  |7=>encTField
  |8=>encTA3
  |9=>encTAccount
  |10=>encTbefore
  |11=>encTSpent
  |12=>encTtree
  |13=>encTNote
  |14=>encTA2
  |15=>encTLedger
  |16=>encTWitness
  |17=>encTStatement
  |18=>encTFault
  |19=>encTReport
  |20=>encTOwned
  |21=>encTStored
  |22=>encTKnown
  |23=>encTPlace
  |24=>encTState
  |25=>encTuse
  |26=>encTbook
  |_+27=>fun _=> .agg []
abbrev Ct:=Con TB.den
abbrev _root_.Go.Cv.Con.O (k:Ct):Prop:=k.Ok Tryz.prog TB
theorem TBok:TB.Ok where
 one:=fun n=>match n with
  |0=>rfl
  |1=>rfl
  |2=>rfl
  |3=>rfl
  |4=>rfl
  |5=>rfl
  |6=>rfl
  |7=>rfl
  |8=>rfl
  |9=>rfl
  |10=>rfl
  |11=>rfl
  |12=>rfl
  |13=>rfl
  |14=>rfl
  |15=>rfl
  |16=>rfl
  |17=>rfl
  |18=>rfl
  |19=>rfl
  |20=>rfl
  |21=>rfl
  |22=>rfl
  |23=>rfl
  |24=>rfl
  |25=>rfl
  |26=>rfl
  |_+27=>rfl
 pc:=fun n x=>match n with
  |0=>rfl
  |1=>rfl
  |2=>rfl
  |3=>rfl
  |4=>rfl
  |5=>rfl
  |6=>rfl
  |7=>rfl
  |8=>rfl
  |9=>rfl
  |10=>rfl
  |11=>rfl
  |12=>rfl
  |13=>rfl
  |14=>rfl
  |15=>rfl
  |16=>rfl
  |17=>rfl
  |18=>rfl
  |19=>rfl
  |20=>rfl
  |21=>rfl
  |22=>rfl
  |23=>rfl
  |24=>rfl
  |25=>rfl
  |26=>rfl
  |_+27=>rfl
 en:=fun n x=>match n with
  |0=>rfl
  |1=>rfl
  |2=>rfl
  |3=>rfl
  |4=>rfl
  |5=>rfl
  |6=>rfl
  |7=>rfl
  |8=>rfl
  |9=>rfl
  |10=>rfl
  |11=>rfl
  |12=>rfl
  |13=>rfl
  |14=>rfl
  |15=>rfl
  |16=>rfl
  |17=>rfl
  |18=>rfl
  |19=>rfl
  |20=>rfl
  |21=>rfl
  |22=>rfl
  |23=>rfl
  |24=>rfl
  |25=>rfl
  |26=>rfl
  |_+27=>rfl
def ti3:TI TB.den:={ty:=some (false,1),ze:=some [.d (.int .i64) (0:Int)],un:=some (.int .i64)}
theorem ti3_ok:TI.Ok Tryz.prog TB 3 ti3:={  }
def ti4:TI TB.den:={ty:=some (false,1),ze:=some [.d (.bool) (false:Bool)],un:=some (.bool)}
theorem ti4_ok:TI.Ok Tryz.prog TB 4 ti4:={  }
def ti5:TI TB.den:={ty:=some (false,1),ze:=some [.d (.int .u8) (0:Int)],un:=some (.int .u8)}
theorem ti5_ok:TI.Ok Tryz.prog TB 5 ti5:={  }
def ti9:TI TB.den:={ty:=some (false,1),ze:=some [.d (.str) (ByteArray.empty:ByteArray)],un:=some (.string)}
theorem ti9_ok:TI.Ok Tryz.prog TB 9 ti9:={  }
def ti23:TI TB.den:={ty:=some (true,3),fl:=[(0,false,1),(1,false,1),(2,false,1)],ze:=some [.d (.int .i64) (0:Int),.d (.int .i64) (0:Int),.d (.int .i64) (0:Int)],pl:=[(0,1),(1,1),(2,1)],eq:=some [.int .i64,.int .i64,.int .i64]}
theorem ti23_ok:TI.Ok Tryz.prog TB 23 ti23:={fl:=kf ⟨by kernel_rfl,by kernel_rfl,by kernel_rfl,trivial⟩}
def ti24:TI TB.den:={ty:=some (false,1),ze:=some [.d (.int .u64) (0:Int)],un:=some (.int .u64)}
theorem ti24_ok:TI.Ok Tryz.prog TB 24 ti24:={  }
def ti26:TI TB.den:={ty:=some (true,9),fl:=[(0,false,1),(1,false,1),(2,true,3),(5,false,1),(6,false,1),(7,false,1),(8,false,1)],ze:=some [.d (.int .i64) (0:Int),.d (.int .i64) (0:Int),.d (.int .i64) (0:Int),.d (.int .i64) (0:Int),.d (.int .i64) (0:Int),.d (.int .u64) (0:Int),.d (.int .i64) (0:Int),.d (.int .i64) (0:Int),.d (.int .u64) (0:Int)],pl:=[(0,1),(1,1),(2,3),(5,1),(6,1),(7,1),(8,1)],eq:=some [.int .i64,.int .i64,.int .i64,.int .i64,.int .i64,.int .u64,.int .i64,.int .i64,.int .u64]}
theorem ti26_ok:TI.Ok Tryz.prog TB 26 ti26:={fl:=kf ⟨by kernel_rfl,by kernel_rfl,by kernel_rfl,by kernel_rfl,by kernel_rfl,by kernel_rfl,by kernel_rfl,trivial⟩}
def ti27:TI TB.den:={ty:=some (false,1),el:=some (.st 3,64),ez:=true,ze:=some [.full (.st 3) []],un:=some (.slice 56)}
theorem ti27_ok:TI.Ok Tryz.prog TB 27 ti27:={ez:=fun _ _ _ h=>by cases h;exact⟨[.d (.int .u64 0),.d (.int .i64 0),.d (.int .u64 0),.d (.int .u64 0),.d (.int .u64 0),.full 10 []],by kernel_rfl,⟨⟨ka _,rfl⟩,⟨ka _,rfl⟩,⟨ka _,rfl⟩,⟨ka _,rfl⟩,⟨ka _,rfl⟩,⟨⟨rfl,rfl⟩,rfl⟩,trivial⟩⟩}
def ti30:TI TB.den:={ty:=some (false,1),el:=some (.st 20,64),ez:=true,ze:=some [.full (.st 20) []],un:=some (.slice 68)}
theorem ti30_ok:TI.Ok Tryz.prog TB 30 ti30:={ez:=fun _ _ _ h=>by cases h;exact⟨[.d (.int .u64 0),.d (.int .u64 0),.d (.int .u64 0),.d (.int .u64 0),.d (.int .i64 0),.d (.int .i64 0),.d (.int .i64 0),.d (.int .i64 0)],by kernel_rfl,⟨⟨ka _,rfl⟩,⟨ka _,rfl⟩,⟨ka _,rfl⟩,⟨ka _,rfl⟩,⟨ka _,rfl⟩,⟨ka _,rfl⟩,⟨ka _,rfl⟩,⟨ka _,rfl⟩,trivial⟩⟩}
def ti34:TI TB.den:={ty:=some (false,1),ze:=some [.k KC.nilPtr.v],un:=some (.pointer 108)}
theorem ti34_ok:TI.Ok Tryz.prog TB 34 ti34:={  }
def ti36:TI TB.den:={ty:=some (false,1),el:=some (.int .u64,8),ez:=true,ze:=some [.full (.int .u64) []],un:=some (.slice 24)}
theorem ti36_ok:TI.Ok Tryz.prog TB 36 ti36:={ez:=fun _ _ _ h=>by cases h;exact⟨[.d (.int .u64 0)],by kernel_rfl,⟨⟨ka _,rfl⟩,trivial⟩⟩}
def ti38:TI TB.den:={ty:=some (true,3),fl:=[(0,false,1),(1,false,1),(2,false,1)],ze:=some [.d (.int .u64) (0:Int),.full (.int .u64) [],.d (.int .u64) (0:Int)],pl:=[(0,1),(1,1),(2,1)]}
theorem ti38_ok:TI.Ok Tryz.prog TB 38 ti38:={fl:=kf ⟨by kernel_rfl,by kernel_rfl,by kernel_rfl,trivial⟩}
def ti40:TI TB.den:={ty:=some (true,9),fl:=[(0,false,1),(1,false,1),(2,false,1),(3,true,3),(6,true,3)],ze:=some [.d (.int .i64) (0:Int),.d (.int .i64) (0:Int),.d (.int .i64) (0:Int),.d (.int .u64) (0:Int),.full (.int .u64) [],.d (.int .u64) (0:Int),.d (.int .u64) (0:Int),.full (.int .u64) [],.d (.int .u64) (0:Int)],pl:=[(0,1),(1,1),(2,1),(3,3),(6,3)]}
theorem ti40_ok:TI.Ok Tryz.prog TB 40 ti40:={fl:=kf ⟨by kernel_rfl,by kernel_rfl,by kernel_rfl,by kernel_rfl,by kernel_rfl,trivial⟩}
def ti42:TI TB.den:={ty:=some (true,14),fl:=[(0,false,1),(1,false,1),(2,false,1),(3,false,1),(4,false,1),(5,true,9)],ze:=some [.d (.int .u64) (0:Int),.d (.int .u64) (0:Int),.d (.int .u64) (0:Int),.d (.int .i64) (0:Int),.d (.int .i64) (0:Int),.d (.int .i64) (0:Int),.d (.int .i64) (0:Int),.d (.int .i64) (0:Int),.d (.int .u64) (0:Int),.full (.int .u64) [],.d (.int .u64) (0:Int),.d (.int .u64) (0:Int),.full (.int .u64) [],.d (.int .u64) (0:Int)],pl:=[(0,1),(1,1),(2,1),(3,1),(4,1),(5,9)]}
theorem ti42_ok:TI.Ok Tryz.prog TB 42 ti42:={fl:=kf ⟨by kernel_rfl,by kernel_rfl,by kernel_rfl,by kernel_rfl,by kernel_rfl,by kernel_rfl,trivial⟩}
def ti48:TI TB.den:={ty:=some (true,9),fl:=[(0,false,1),(1,false,1),(2,false,1),(3,true,3),(6,true,3)],ze:=some [.d (.int .i64) (0:Int),.d (.int .i64) (0:Int),.d (.int .i64) (0:Int),.d (.int .u64) (0:Int),.full (.int .u64) [],.d (.int .u64) (0:Int),.d (.int .u64) (0:Int),.full (.int .u64) [],.d (.int .u64) (0:Int)],pl:=[(0,1),(1,1),(2,1),(3,3),(6,3)]}
theorem ti48_ok:TI.Ok Tryz.prog TB 48 ti48:={fl:=kf ⟨by kernel_rfl,by kernel_rfl,by kernel_rfl,by kernel_rfl,by kernel_rfl,trivial⟩}
def ti50:TI TB.den:={ty:=some (true,14),fl:=[(0,false,1),(1,false,1),(2,false,1),(3,false,1),(4,false,1),(5,true,9)],ze:=some [.d (.int .u64) (0:Int),.d (.int .u64) (0:Int),.d (.int .u64) (0:Int),.d (.int .i64) (0:Int),.d (.int .i64) (0:Int),.d (.int .i64) (0:Int),.d (.int .i64) (0:Int),.d (.int .i64) (0:Int),.d (.int .u64) (0:Int),.full (.int .u64) [],.d (.int .u64) (0:Int),.d (.int .u64) (0:Int),.full (.int .u64) [],.d (.int .u64) (0:Int)],pl:=[(0,1),(1,1),(2,1),(3,1),(4,1),(5,9)]}
theorem ti50_ok:TI.Ok Tryz.prog TB 50 ti50:={fl:=kf ⟨by kernel_rfl,by kernel_rfl,by kernel_rfl,by kernel_rfl,by kernel_rfl,by kernel_rfl,trivial⟩}
def ti54:TI TB.den:={ty:=some (false,1),el:=some (.st 2,128),ez:=true,ze:=some [.full (.st 2) []],un:=some (.slice 63)}
theorem ti54_ok:TI.Ok Tryz.prog TB 54 ti54:={ez:=fun _ _ _ h=>by cases h;exact⟨[.d (.int .u64 0),.full 1 [],.full 4 [],.d (.int .u64 0),.d (.int .u64 0),.d (.int .u64 0),.d (.int .u64 0),.d (.int .u64 0),.d (.int .i64 0),.full 1 []],by kernel_rfl,⟨⟨ka _,rfl⟩,⟨⟨rfl,rfl⟩,rfl⟩,⟨⟨rfl,rfl⟩,rfl⟩,⟨ka _,rfl⟩,⟨ka _,rfl⟩,⟨ka _,rfl⟩,⟨ka _,rfl⟩,⟨ka _,rfl⟩,⟨ka _,rfl⟩,⟨⟨rfl,rfl⟩,rfl⟩,trivial⟩⟩}
def ti56:TI TB.den:={ty:=some (true,6),fl:=[(0,false,1),(1,false,1),(2,false,1),(3,false,1),(4,false,1),(5,false,1)],ze:=some [.d (.int .u64) (0:Int),.d (.int .i64) (0:Int),.d (.int .u64) (0:Int),.d (.int .u64) (0:Int),.d (.int .u64) (0:Int),.full (.st 2) []],pl:=[(0,1),(1,1),(2,1),(3,1),(4,1),(5,1)]}
theorem ti56_ok:TI.Ok Tryz.prog TB 56 ti56:={fl:=kf ⟨by kernel_rfl,by kernel_rfl,by kernel_rfl,by kernel_rfl,by kernel_rfl,by kernel_rfl,trivial⟩}
def ti60:TI TB.den:={ty:=some (false,1),el:=some (.st 1,48),ez:=true,ze:=some [.full (.st 1) []],un:=some (.slice 98)}
theorem ti60_ok:TI.Ok Tryz.prog TB 60 ti60:={ez:=fun _ _ _ h=>by cases h;exact⟨[.d (.int .u64 0),.d (.int .u64 0),.d (.int .u64 0),.full 1 []],by kernel_rfl,⟨⟨ka _,rfl⟩,⟨ka _,rfl⟩,⟨ka _,rfl⟩,⟨⟨rfl,rfl⟩,rfl⟩,trivial⟩⟩}
def ti61:TI TB.den:={ty:=some (false,1),el:=some (.int .u8,1),ez:=true,ze:=some [.full (.int .u8) []],un:=some (.slice 5)}
theorem ti61_ok:TI.Ok Tryz.prog TB 61 ti61:={ez:=fun _ _ _ h=>by cases h;exact⟨[.d (.int .u8 0)],by kernel_rfl,⟨⟨ka _,rfl⟩,trivial⟩⟩}
def ti63:TI TB.den:={ty:=some (true,10),fl:=[(0,false,1),(1,false,1),(2,false,1),(3,false,1),(4,false,1),(5,false,1),(6,false,1),(7,false,1),(8,false,1),(9,false,1)],ze:=some [.d (.int .u64) (0:Int),.full (.int .u64) [],.full (.st 1) [],.d (.int .u64) (0:Int),.d (.int .u64) (0:Int),.d (.int .u64) (0:Int),.d (.int .u64) (0:Int),.d (.int .u64) (0:Int),.d (.int .i64) (0:Int),.full (.int .u8) []],pl:=[(0,1),(1,1),(2,1),(3,1),(4,1),(5,1),(6,1),(7,1),(8,1),(9,1)]}
theorem ti63_ok:TI.Ok Tryz.prog TB 63 ti63:={fl:=kf ⟨by kernel_rfl,by kernel_rfl,by kernel_rfl,by kernel_rfl,by kernel_rfl,by kernel_rfl,by kernel_rfl,by kernel_rfl,by kernel_rfl,by kernel_rfl,trivial⟩}
def ti66:TI TB.den:={ty:=some (true,4),fl:=[(0,false,1),(1,false,1),(2,false,1),(3,false,1)],ze:=some [.d (.int .u64) (0:Int),.d (.int .u64) (0:Int),.d (.int .u64) (0:Int),.d (.int .u64) (0:Int)],pl:=[(0,1),(1,1),(2,1),(3,1)],eq:=some [.int .u64,.int .u64,.int .u64,.int .u64]}
theorem ti66_ok:TI.Ok Tryz.prog TB 66 ti66:={fl:=kf ⟨by kernel_rfl,by kernel_rfl,by kernel_rfl,by kernel_rfl,trivial⟩}
def ti68:TI TB.den:={ty:=some (true,8),fl:=[(0,true,4),(4,false,1),(5,false,1),(6,false,1),(7,false,1)],ze:=some [.d (.int .u64) (0:Int),.d (.int .u64) (0:Int),.d (.int .u64) (0:Int),.d (.int .u64) (0:Int),.d (.int .i64) (0:Int),.d (.int .i64) (0:Int),.d (.int .i64) (0:Int),.d (.int .i64) (0:Int)],pl:=[(0,4),(4,1),(5,1),(6,1),(7,1)],eq:=some [.int .u64,.int .u64,.int .u64,.int .u64,.int .i64,.int .i64,.int .i64,.int .i64]}
theorem ti68_ok:TI.Ok Tryz.prog TB 68 ti68:={fl:=kf ⟨by kernel_rfl,by kernel_rfl,by kernel_rfl,by kernel_rfl,by kernel_rfl,trivial⟩}
def ti70:TI TB.den:={ty:=some (false,1),el:=some (.st 11,88),ez:=true,ze:=some [.full (.st 11) []],un:=some (.slice 159)}
theorem ti70_ok:TI.Ok Tryz.prog TB 70 ti70:={ez:=fun _ _ _ h=>by cases h;exact⟨[.d (.int .u64 0),.d (.int .u64 0),.d (.int .u64 0),.d (.int .u64 0),.d (.int .u64 0),.d (.int .i64 0),.d (.int .i64 0),.full 1 [],.d (.bool false)],by kernel_rfl,⟨⟨ka _,rfl⟩,⟨ka _,rfl⟩,⟨ka _,rfl⟩,⟨ka _,rfl⟩,⟨ka _,rfl⟩,⟨ka _,rfl⟩,⟨ka _,rfl⟩,⟨⟨rfl,rfl⟩,rfl⟩,⟨ka _,rfl⟩,trivial⟩⟩}
def ti71:TI TB.den:={ty:=some (false,1),el:=some (.st 13,32),ez:=true,ze:=some [.full (.st 13) []],un:=some (.slice 66)}
theorem ti71_ok:TI.Ok Tryz.prog TB 71 ti71:={ez:=fun _ _ _ h=>by cases h;exact⟨[.d (.int .u64 0),.d (.int .u64 0),.d (.int .u64 0),.d (.int .u64 0)],by kernel_rfl,⟨⟨ka _,rfl⟩,⟨ka _,rfl⟩,⟨ka _,rfl⟩,⟨ka _,rfl⟩,trivial⟩⟩}
def ti73:TI TB.den:={ty:=some (true,3),fl:=[(0,false,1),(1,false,1),(2,false,1)],ze:=some [.full (.st 11) [],.full (.st 13) [],.d (.int .u64) (0:Int)],pl:=[(0,1),(1,1),(2,1)]}
theorem ti73_ok:TI.Ok Tryz.prog TB 73 ti73:={fl:=kf ⟨by kernel_rfl,by kernel_rfl,by kernel_rfl,trivial⟩}
def ti81:TI TB.den:={ty:=some (false,1),el:=some (.st 4,40),ez:=true,ze:=some [.full (.st 4) []],un:=some (.slice 38)}
theorem ti81_ok:TI.Ok Tryz.prog TB 81 ti81:={ez:=fun _ _ _ h=>by cases h;exact⟨[.d (.int .u64 0),.full 1 [],.d (.int .u64 0)],by kernel_rfl,⟨⟨ka _,rfl⟩,⟨⟨rfl,rfl⟩,rfl⟩,⟨ka _,rfl⟩,trivial⟩⟩}
def ti84:TI TB.den:={ty:=some (true,5),fl:=[(0,false,1),(1,false,1),(2,false,1),(3,false,1),(4,false,1)],ze:=some [.d (.int .u64) (0:Int),.d (.int .i64) (0:Int),.full (.st 4) [],.full (.st 21) [],.full (.st 21) []],pl:=[(0,1),(1,1),(2,1),(3,1),(4,1)]}
theorem ti84_ok:TI.Ok Tryz.prog TB 84 ti84:={fl:=kf ⟨by kernel_rfl,by kernel_rfl,by kernel_rfl,by kernel_rfl,by kernel_rfl,trivial⟩}
def ti86:TI TB.den:={ty:=some (true,6),fl:=[(0,false,1),(1,true,5)],ze:=some [.d (.bool) (false:Bool),.d (.int .u64) (0:Int),.d (.int .i64) (0:Int),.full (.st 4) [],.full (.st 21) [],.full (.st 21) []],pl:=[(0,1),(1,5)]}
theorem ti86_ok:TI.Ok Tryz.prog TB 86 ti86:={fl:=kf ⟨by kernel_rfl,by kernel_rfl,trivial⟩}
def ti87:TI TB.den:={ty:=some (false,1),el:=some (.st 22,64),ez:=true,ze:=some [.full (.st 22) []],un:=some (.slice 91)}
theorem ti87_ok:TI.Ok Tryz.prog TB 87 ti87:={ez:=fun _ _ _ h=>by cases h;exact⟨[.full 9 [],.full 4 [],.d (.int .u64 0),.d (.bool false)],by kernel_rfl,⟨⟨⟨rfl,rfl⟩,rfl⟩,⟨⟨rfl,rfl⟩,rfl⟩,⟨ka _,rfl⟩,⟨ka _,rfl⟩,trivial⟩⟩}
def ti91:TI TB.den:={ty:=some (true,4),fl:=[(0,true,3),(3,false,1)],ze:=some [.full (.st 11) [],.full (.st 13) [],.d (.int .u64) (0:Int),.d (.bool) (false:Bool)],pl:=[(0,3),(3,1)]}
theorem ti91_ok:TI.Ok Tryz.prog TB 91 ti91:={fl:=kf ⟨by kernel_rfl,by kernel_rfl,trivial⟩}
def ti96:TI TB.den:={ty:=some (true,2),ar:=some (2,false,1),ze:=some [.d (.int .u64) (0:Int),.d (.int .u64) (0:Int)],pl:=[(0,1),(1,1)],un:=some (.array 2 24),eq:=some [.int .u64,.int .u64]}
theorem ti96_ok:TI.Ok Tryz.prog TB 96 ti96:={  }
def ti98:TI TB.den:={ty:=some (true,4),fl:=[(0,false,1),(1,true,2),(3,false,1)],ze:=some [.d (.int .u64) (0:Int),.d (.int .u64) (0:Int),.d (.int .u64) (0:Int),.full (.int .u64) []],pl:=[(0,1),(1,2),(3,1)]}
theorem ti98_ok:TI.Ok Tryz.prog TB 98 ti98:={fl:=kf ⟨by kernel_rfl,by kernel_rfl,by kernel_rfl,trivial⟩}
def ti104:TI TB.den:={ty:=some (false,1),ze:=some [.k KC.nilMap.v],mp:=some (.str,.int .i64),un:=some (.map 9 3)}
theorem kqu:TI.Ok Tryz.prog TB 104 ti104:={mp:=fun _ _ h=>by cases h;exact⟨3,.string,⟨9,by kernel_rfl,by kernel_rfl⟩,fun _=>rfl,zIs_mk (z0:= .d (.int .i64 0)) qqk (ka (V.d (.int .i64 0)))⟩}
def ti105:TI TB.den:={ty:=some (false,1),ze:=some [.k KC.nilMap.v],mp:=some (.str,.sl (.int .u64)),un:=some (.map 9 36)}
theorem ktb:TI.Ok Tryz.prog TB 105 ti105:={mp:=fun _ _ h=>by cases h;exact⟨36,.string,⟨9,by kernel_rfl,by kernel_rfl⟩,fun _=>rfl,zIs_mk (z0:= .k (.slice none 0 0)) qqk (rfl)⟩}
def ti106:TI TB.den:={ty:=some (false,1),ze:=some [.k KC.nilMap.v],mp:=some (.str,.bool),un:=some (.map 9 4)}
theorem ksl:TI.Ok Tryz.prog TB 106 ti106:={mp:=fun _ _ h=>by cases h;exact⟨4,.string,⟨9,by kernel_rfl,by kernel_rfl⟩,fun _=>rfl,zIs_mk (z0:= .d (.bool false)) qqk (ka (V.d (.bool false)))⟩}
def ti108:TI TB.den:={ty:=some (true,7),fl:=[(0,false,1),(1,false,1),(2,false,1),(3,false,1),(4,false,1),(5,false,1),(6,false,1)],ze:=some [.d (.bool) (false:Bool),.d (.int .u64) (0:Int),.d (.int .i64) (0:Int),.full (.st 4) [],.k KC.nilMap.v,.k KC.nilMap.v,.k KC.nilMap.v],pl:=[(0,1),(1,1),(2,1),(3,1),(4,1),(5,1),(6,1)]}
theorem ktf:TI.Ok Tryz.prog TB 108 ti108:={fl:=kf ⟨by kernel_rfl,by kernel_rfl,by kernel_rfl,by kernel_rfl,by kernel_rfl,by kernel_rfl,by kernel_rfl,trivial⟩}
def ti110:TI TB.den:={ty:=some (false,1),el:=some (.st 9,24),ez:=true,ze:=some [.full (.st 9) []],un:=some (.slice 126)}
theorem ksg:TI.Ok Tryz.prog TB 110 ti110:={ez:=fun _ _ _ h=>by cases h;exact⟨[.d (.int .u64 0),.d (.int .u64 0),.d (.int .u64 0)],by kernel_rfl,⟨⟨ka _,rfl⟩,⟨ka _,rfl⟩,⟨ka _,rfl⟩,trivial⟩⟩}
def ti112:TI TB.den:={ty:=some (true,15),fl:=[(0,true,9),(9,false,1),(10,false,1),(11,false,1),(12,false,1),(13,false,1),(14,false,1)],ze:=some [.d (.int .i64) (0:Int),.d (.int .i64) (0:Int),.d (.int .i64) (0:Int),.d (.int .i64) (0:Int),.d (.int .i64) (0:Int),.d (.int .u64) (0:Int),.d (.int .i64) (0:Int),.d (.int .i64) (0:Int),.d (.int .u64) (0:Int),.d (.int .i64) (0:Int),.full (.int .u64) [],.full (.int .u64) [],.full (.st 9) [],.d (.int .u64) (0:Int),.full (.int .u64) []],pl:=[(0,9),(9,1),(10,1),(11,1),(12,1),(13,1),(14,1)]}
theorem ks1:TI.Ok Tryz.prog TB 112 ti112:={fl:=kf ⟨by kernel_rfl,by kernel_rfl,by kernel_rfl,by kernel_rfl,by kernel_rfl,by kernel_rfl,by kernel_rfl,trivial⟩}
def ti114:TI TB.den:={ty:=some (false,1),el:=some (.int .i64,8),ez:=true,ze:=some [.full (.int .i64) []],un:=some (.slice 3)}
theorem kry:TI.Ok Tryz.prog TB 114 ti114:={ez:=fun _ _ _ h=>by cases h;exact⟨[.d (.int .i64 0)],by kernel_rfl,⟨⟨ka _,rfl⟩,trivial⟩⟩}
def ti115:TI TB.den:={ty:=some (false,1),el:=some (.st 25,96),ez:=true,ze:=some [.full (.st 25) []],un:=some (.slice 177)}
theorem kr9:TI.Ok Tryz.prog TB 115 ti115:={ez:=fun _ _ _ h=>by cases h;exact⟨[.d (.int .i64 0),.d (.int .u64 0),.d (.int .u64 0),.d (.int .u64 0),.d (.int .u64 0),.d (.int .u64 0),.d (.int .i64 0),.d (.int .i64 0),.full 1 [],.d (.bool false)],by kernel_rfl,⟨⟨ka _,rfl⟩,⟨ka _,rfl⟩,⟨ka _,rfl⟩,⟨ka _,rfl⟩,⟨ka _,rfl⟩,⟨ka _,rfl⟩,⟨ka _,rfl⟩,⟨ka _,rfl⟩,⟨⟨rfl,rfl⟩,rfl⟩,⟨ka _,rfl⟩,trivial⟩⟩}
def ti117:TI TB.den:={ty:=some (true,11),fl:=[(0,true,6),(6,false,1),(7,false,1),(8,false,1),(9,false,1),(10,false,1)],ze:=some [.d (.bool) (false:Bool),.d (.int .u64) (0:Int),.d (.int .i64) (0:Int),.full (.st 4) [],.full (.st 21) [],.full (.st 21) [],.d (.int .i64) (0:Int),.full (.int .u64) [],.full (.int .i64) [],.full (.st 13) [],.full (.st 25) []],pl:=[(0,6),(6,1),(7,1),(8,1),(9,1),(10,1)]}
theorem kss:TI.Ok Tryz.prog TB 117 ti117:={fl:=kf ⟨by kernel_rfl,by kernel_rfl,by kernel_rfl,by kernel_rfl,by kernel_rfl,by kernel_rfl,trivial⟩}
def ti126:TI TB.den:={ty:=some (true,3),fl:=[(0,false,1),(1,false,1),(2,false,1)],ze:=some [.d (.int .u64) (0:Int),.d (.int .u64) (0:Int),.d (.int .u64) (0:Int)],pl:=[(0,1),(1,1),(2,1)],eq:=some [.int .u64,.int .u64,.int .u64]}
theorem krt:TI.Ok Tryz.prog TB 126 ti126:={fl:=kf ⟨by kernel_rfl,by kernel_rfl,by kernel_rfl,trivial⟩}
def ti136:TI TB.den:={ty:=some (false,1),ze:=some [.k KC.nilMap.v],mp:=some (.int .i64,.st 11),un:=some (.map 3 159)}
theorem ksb:TI.Ok Tryz.prog TB 136 ti136:={mp:=fun _ _ h=>by cases h;exact⟨159,.int .i64,⟨3,by kernel_rfl,by kernel_rfl⟩,fun _=>rfl,zIs_mk (z0:= .agg [.d (.int .u64 0),.d (.int .u64 0),.d (.int .u64 0),.d (.int .u64 0),.d (.int .u64 0),.d (.int .i64 0),.d (.int .i64 0),.k (.slice none 0 0),.d (.bool false)]) qqk (⟨⟨ka (V.d (.int .u64 0)),rfl⟩,⟨ka (V.d (.int .u64 0)),rfl⟩,⟨ka (V.d (.int .u64 0)),rfl⟩,⟨ka (V.d (.int .u64 0)),rfl⟩,⟨ka (V.d (.int .u64 0)),rfl⟩,⟨ka (V.d (.int .i64 0)),rfl⟩,⟨ka (V.d (.int .i64 0)),rfl⟩,⟨rfl,rfl⟩,⟨ka (V.d (.bool false)),rfl⟩,trivial⟩)⟩}
def ti137:TI TB.den:={ty:=some (false,1),el:=some (.st 12,16),ez:=true,ze:=some [.full (.st 12) []],un:=some (.slice 142)}
theorem ksp:TI.Ok Tryz.prog TB 137 ti137:={ez:=fun _ _ _ h=>by cases h;exact⟨[.d (.int .u64 0),.d (.int .i64 0)],by kernel_rfl,⟨⟨ka _,rfl⟩,⟨ka _,rfl⟩,trivial⟩⟩}
def ti139:TI TB.den:={ty:=some (true,20),fl:=[(0,false,1),(1,false,1),(2,false,1),(3,false,1),(4,false,1),(5,false,1),(6,true,14)],ze:=some [.k KC.nilPtr.v,.d (.int .i64) (0:Int),.full (.st 12) [],.full (.int .u64) [],.full (.st 13) [],.k KC.nilMap.v,.d (.int .u64) (0:Int),.d (.int .u64) (0:Int),.d (.int .u64) (0:Int),.d (.int .i64) (0:Int),.d (.int .i64) (0:Int),.d (.int .i64) (0:Int),.d (.int .i64) (0:Int),.d (.int .i64) (0:Int),.d (.int .u64) (0:Int),.full (.int .u64) [],.d (.int .u64) (0:Int),.d (.int .u64) (0:Int),.full (.int .u64) [],.d (.int .u64) (0:Int)],pl:=[(0,1),(1,1),(2,1),(3,1),(4,1),(5,1),(6,14)]}
theorem ks0:TI.Ok Tryz.prog TB 139 ti139:={fl:=kf ⟨by kernel_rfl,by kernel_rfl,by kernel_rfl,by kernel_rfl,by kernel_rfl,by kernel_rfl,by kernel_rfl,trivial⟩}
def ti142:TI TB.den:={ty:=some (true,2),fl:=[(0,false,1),(1,false,1)],ze:=some [.d (.int .u64) (0:Int),.d (.int .i64) (0:Int)],pl:=[(0,1),(1,1)],eq:=some [.int .u64,.int .i64]}
theorem kru:TI.Ok Tryz.prog TB 142 ti142:={fl:=kf ⟨by kernel_rfl,by kernel_rfl,trivial⟩}
def ti147:TI TB.den:={ty:=some (false,1),el:=some (.st 9,24),ez:=true,ze:=some [.full (.st 9) []],un:=some (.slice 200)}
theorem kt4:TI.Ok Tryz.prog TB 147 ti147:={ez:=fun _ _ _ h=>by cases h;exact⟨[.d (.int .u64 0),.d (.int .u64 0),.d (.int .u64 0)],by kernel_rfl,⟨⟨ka _,rfl⟩,⟨ka _,rfl⟩,⟨ka _,rfl⟩,trivial⟩⟩}
def ti149:TI TB.den:={ty:=some (true,1),fl:=[(0,false,1)],ze:=some [.full (.st 9) []],pl:=[(0,1)]}
theorem krf:TI.Ok Tryz.prog TB 149 ti149:={fl:=kf ⟨by kernel_rfl,trivial⟩}
def ti159:TI TB.den:={ty:=some (true,9),fl:=[(0,true,4),(4,false,1),(5,false,1),(6,false,1),(7,false,1),(8,false,1)],ze:=some [.d (.int .u64) (0:Int),.d (.int .u64) (0:Int),.d (.int .u64) (0:Int),.d (.int .u64) (0:Int),.d (.int .u64) (0:Int),.d (.int .i64) (0:Int),.d (.int .i64) (0:Int),.full (.int .u64) [],.d (.bool) (false:Bool)],pl:=[(0,4),(4,1),(5,1),(6,1),(7,1),(8,1)]}
theorem kro:TI.Ok Tryz.prog TB 159 ti159:={fl:=kf ⟨by kernel_rfl,by kernel_rfl,by kernel_rfl,by kernel_rfl,by kernel_rfl,by kernel_rfl,trivial⟩}
def ti168:TI TB.den:={ty:=some (true,10),fl:=[(0,false,1),(1,false,1),(2,false,1),(3,false,1),(4,false,1),(5,false,1),(6,false,1),(7,false,1),(8,false,1),(9,false,1)],ze:=some [.d (.int .i64) (0:Int),.d (.int .u64) (0:Int),.full (.int .u64) [],.full (.int .u64) [],.full (.int .u64) [],.d (.int .u64) (0:Int),.d (.int .u64) (0:Int),.d (.int .u64) (0:Int),.d (.int .u64) (0:Int),.d (.int .u64) (0:Int)],pl:=[(0,1),(1,1),(2,1),(3,1),(4,1),(5,1),(6,1),(7,1),(8,1),(9,1)]}
theorem ktn:TI.Ok Tryz.prog TB 168 ti168:={fl:=kf ⟨by kernel_rfl,by kernel_rfl,by kernel_rfl,by kernel_rfl,by kernel_rfl,by kernel_rfl,by kernel_rfl,by kernel_rfl,by kernel_rfl,by kernel_rfl,trivial⟩}
def ti177:TI TB.den:={ty:=some (true,10),fl:=[(0,false,1),(1,true,9)],ze:=some [.d (.int .i64) (0:Int),.d (.int .u64) (0:Int),.d (.int .u64) (0:Int),.d (.int .u64) (0:Int),.d (.int .u64) (0:Int),.d (.int .u64) (0:Int),.d (.int .i64) (0:Int),.d (.int .i64) (0:Int),.full (.int .u64) [],.d (.bool) (false:Bool)],pl:=[(0,1),(1,9)]}
theorem kr6:TI.Ok Tryz.prog TB 177 ti177:={fl:=kf ⟨by kernel_rfl,by kernel_rfl,trivial⟩}
def ti180:TI TB.den:={ty:=some (true,2),fl:=[(0,false,1),(1,false,1)],ze:=some [.full (.int .u8) [],.d (.bool) (false:Bool)],pl:=[(0,1),(1,1)]}
theorem ksf:TI.Ok Tryz.prog TB 180 ti180:={fl:=kf ⟨by kernel_rfl,by kernel_rfl,trivial⟩}
def ti183:TI TB.den:={ty:=some (true,3),ar:=some (3,false,1),ze:=some [.d (.int .u64) (0:Int),.d (.int .u64) (0:Int),.d (.int .u64) (0:Int)],pl:=[(0,1),(1,1),(2,1)],un:=some (.array 3 24),eq:=some [.int .u64,.int .u64,.int .u64]}
theorem ksm:TI.Ok Tryz.prog TB 183 ti183:={  }
def ti186:TI TB.den:={ty:=some (true,3),fl:=[(0,false,1),(1,false,1),(2,false,1)],ze:=some [.d (.int .i64) (0:Int),.d (.int .i64) (0:Int),.full (.int .u64) []],pl:=[(0,1),(1,1),(2,1)]}
theorem ks9:TI.Ok Tryz.prog TB 186 ti186:={fl:=kf ⟨by kernel_rfl,by kernel_rfl,by kernel_rfl,trivial⟩}
def ti188:TI TB.den:={ty:=some (false,1),ze:=some [.k KC.nilPtr.v],un:=some (.pointer 239)}
theorem ktm:TI.Ok Tryz.prog TB 188 ti188:={  }
def ti191:TI TB.den:={ty:=some (false,1),el:=some (.st 10,104),ez:=true,ze:=some [.full (.st 10) []],un:=some (.slice 195)}
theorem kr3:TI.Ok Tryz.prog TB 191 ti191:={ez:=fun _ _ _ h=>by cases h;exact⟨[.d (.int .i64 0),.d (.int .i64 0),.full 1 [],.d (.int .i64 0),.full 1 [],.full 3 [],.d (.int .u64 0)],by kernel_rfl,⟨⟨ka _,rfl⟩,⟨ka _,rfl⟩,⟨⟨rfl,rfl⟩,rfl⟩,⟨ka _,rfl⟩,⟨⟨rfl,rfl⟩,rfl⟩,⟨⟨rfl,rfl⟩,rfl⟩,⟨ka _,rfl⟩,trivial⟩⟩}
def ti193:TI TB.den:={ty:=some (true,18),fl:=[(0,true,9),(9,true,3),(12,false,1),(13,false,1),(14,true,1),(15,false,1),(16,false,1),(17,false,1)],ze:=some [.d (.int .i64) (0:Int),.d (.int .i64) (0:Int),.d (.int .i64) (0:Int),.d (.int .i64) (0:Int),.d (.int .i64) (0:Int),.d (.int .u64) (0:Int),.d (.int .i64) (0:Int),.d (.int .i64) (0:Int),.d (.int .u64) (0:Int),.d (.int .i64) (0:Int),.d (.int .i64) (0:Int),.full (.int .u64) [],.full (.int .u64) [],.k KC.nilPtr.v,.full (.st 9) [],.d (.int .u64) (0:Int),.full (.int .u64) [],.full (.st 10) []],pl:=[(0,9),(9,3),(12,1),(13,1),(14,1),(15,1),(16,1),(17,1)]}
theorem kti:TI.Ok Tryz.prog TB 193 ti193:={fl:=kf ⟨by kernel_rfl,by kernel_rfl,by kernel_rfl,by kernel_rfl,by kernel_rfl,by kernel_rfl,by kernel_rfl,by kernel_rfl,trivial⟩}
def ti195:TI TB.den:={ty:=some (true,7),fl:=[(0,true,3),(3,false,1),(4,false,1),(5,true,1),(6,false,1)],ze:=some [.d (.int .i64) (0:Int),.d (.int .i64) (0:Int),.full (.int .u64) [],.d (.int .i64) (0:Int),.full (.int .u64) [],.full (.st 9) [],.d (.int .u64) (0:Int)],pl:=[(0,3),(3,1),(4,1),(5,1),(6,1)]}
theorem kt1:TI.Ok Tryz.prog TB 195 ti195:={fl:=kf ⟨by kernel_rfl,by kernel_rfl,by kernel_rfl,by kernel_rfl,by kernel_rfl,trivial⟩}
def ti200:TI TB.den:={ty:=some (true,3),fl:=[(0,false,1),(1,false,1),(2,false,1)],ze:=some [.d (.int .u64) (0:Int),.d (.int .u64) (0:Int),.d (.int .u64) (0:Int)],pl:=[(0,1),(1,1),(2,1)],eq:=some [.int .u64,.int .u64,.int .u64]}
theorem krr:TI.Ok Tryz.prog TB 200 ti200:={fl:=kf ⟨by kernel_rfl,by kernel_rfl,by kernel_rfl,trivial⟩}
def ti207:TI TB.den:={ty:=some (true,1),fl:=[(0,false,1)],ze:=some [.d (.int .u64) (0:Int)],pl:=[(0,1)],eq:=some [.int .u64]}
theorem krg:TI.Ok Tryz.prog TB 207 ti207:={fl:=kf ⟨by kernel_rfl,trivial⟩}
def ti210:TI TB.den:={ty:=some (true,3),fl:=[(0,false,1),(1,false,1),(2,false,1)],ze:=some [.full (.int .u8) [],.d (.int .i64) (0:Int),.d (.bool) (false:Bool)],pl:=[(0,1),(1,1),(2,1)]}
theorem ktj:TI.Ok Tryz.prog TB 210 ti210:={fl:=kf ⟨by kernel_rfl,by kernel_rfl,by kernel_rfl,trivial⟩}
def ti237:TI TB.den:={ty:=some (false,1),ze:=some [.k KC.nilMap.v],mp:=some (.int .u64,.bool),un:=some (.map 24 4)}
theorem kr2:TI.Ok Tryz.prog TB 237 ti237:={mp:=fun _ _ h=>by cases h;exact⟨4,.int .u64,⟨24,by kernel_rfl,by kernel_rfl⟩,fun _=>rfl,zIs_mk (z0:= .d (.bool false)) qqk (ka (V.d (.bool false)))⟩}
def ti239:TI TB.den:={ty:=some (true,1),fl:=[(0,false,1)],ze:=some [.k KC.nilMap.v],pl:=[(0,1)]}
theorem krk:TI.Ok Tryz.prog TB 239 ti239:={fl:=kf ⟨by kernel_rfl,trivial⟩}
def ti248:TI TB.den:={ty:=some (false,1),ze:=some [.d (.int .u64) (0:Int)],un:=some (.int .u64)}
theorem ktc:TI.Ok Tryz.prog TB 248 ti248:={  }
def ti271:TI TB.den:={ty:=some (false,1),el:=some (.st 14,16),ez:=true,ze:=some [.full (.st 14) []],un:=some (.slice 96)}
theorem kqy:TI.Ok Tryz.prog TB 271 ti271:={ez:=fun _ _ _ h=>by cases h;exact⟨[.d (.int .u64 0),.d (.int .u64 0)],by kernel_rfl,⟨⟨ka _,rfl⟩,⟨ka _,rfl⟩,trivial⟩⟩}
def inf:BT (TI TB.den):=(.nd (.nd (.nd (.nd (.nd (.nd (.nd .lf 3 ti3 .lf) 4 ti4 .lf) 5 ti5 (.nd .lf 9 ti9 .lf)) 23 ti23 (.nd (.nd .lf 24 ti24 .lf) 26 ti26 (.nd .lf 27 ti27 .lf))) 30 ti30 (.nd (.nd (.nd .lf 34 ti34 .lf) 36 ti36 (.nd .lf 38 ti38 .lf)) 40 ti40 (.nd (.nd .lf 42 ti42 .lf) 48 ti48 (.nd .lf 50 ti50 .lf)))) 54 ti54 (.nd (.nd (.nd (.nd (.nd .lf 56 ti56 .lf) 60 ti60 .lf) 61 ti61 (.nd .lf 63 ti63 .lf)) 66 ti66 (.nd (.nd .lf 68 ti68 .lf) 70 ti70 (.nd .lf 71 ti71 .lf))) 73 ti73 (.nd (.nd (.nd .lf 81 ti81 .lf) 84 ti84 (.nd .lf 86 ti86 .lf)) 87 ti87 (.nd (.nd .lf 91 ti91 .lf) 96 ti96 (.nd .lf 98 ti98 .lf))))) 104 ti104 (.nd (.nd (.nd (.nd (.nd (.nd .lf 105 ti105 .lf) 106 ti106 .lf) 108 ti108 (.nd .lf 110 ti110 .lf)) 112 ti112 (.nd (.nd .lf 114 ti114 .lf) 115 ti115 (.nd .lf 117 ti117 .lf))) 126 ti126 (.nd (.nd (.nd .lf 136 ti136 .lf) 137 ti137 (.nd .lf 139 ti139 .lf)) 142 ti142 (.nd (.nd .lf 147 ti147 .lf) 149 ti149 (.nd .lf 159 ti159 .lf)))) 168 ti168 (.nd (.nd (.nd (.nd .lf 177 ti177 .lf) 180 ti180 (.nd .lf 183 ti183 .lf)) 186 ti186 (.nd (.nd .lf 188 ti188 .lf) 191 ti191 (.nd .lf 193 ti193 .lf))) 195 ti195 (.nd (.nd (.nd .lf 200 ti200 .lf) 207 ti207 (.nd .lf 210 ti210 .lf)) 237 ti237 (.nd (.nd .lf 239 ti239 .lf) 248 ti248 (.nd .lf 271 ti271 .lf))))))
theorem inf_ok:InfoOk Tryz.prog TB inf:=(find_nd kqu (find_nd ti54_ok (find_nd ti30_ok (find_nd ti23_ok (find_nd ti5_ok (find_nd ti4_ok (find_nd ti3_ok kc kc) kc) (find_nd ti9_ok kc kc)) (find_nd ti26_ok (find_nd ti24_ok kc kc) (find_nd ti27_ok kc kc))) (find_nd ti40_ok (find_nd ti36_ok (find_nd ti34_ok kc kc) (find_nd ti38_ok kc kc)) (find_nd ti48_ok (find_nd ti42_ok kc kc) (find_nd ti50_ok kc kc)))) (find_nd ti73_ok (find_nd ti66_ok (find_nd ti61_ok (find_nd ti60_ok (find_nd ti56_ok kc kc) kc) (find_nd ti63_ok kc kc)) (find_nd ti70_ok (find_nd ti68_ok kc kc) (find_nd ti71_ok kc kc))) (find_nd ti87_ok (find_nd ti84_ok (find_nd ti81_ok kc kc) (find_nd ti86_ok kc kc)) (find_nd ti96_ok (find_nd ti91_ok kc kc) (find_nd ti98_ok kc kc))))) (find_nd ktn (find_nd krt (find_nd ks1 (find_nd ktf (find_nd ksl (find_nd ktb kc kc) kc) (find_nd ksg kc kc)) (find_nd kr9 (find_nd kry kc kc) (find_nd kss kc kc))) (find_nd kru (find_nd ksp (find_nd ksb kc kc) (find_nd ks0 kc kc)) (find_nd krf (find_nd kt4 kc kc) (find_nd kro kc kc)))) (find_nd kt1 (find_nd ks9 (find_nd ksf (find_nd kr6 kc kc) (find_nd ksm kc kc)) (find_nd kr3 (find_nd ktm kc kc) (find_nd kti kc kc))) (find_nd kr2 (find_nd krg (find_nd krr kc kc) (find_nd ktj kc kc)) (find_nd ktc (find_nd krk kc kc) (find_nd kqy kc kc))))))
theorem mix:Tryz.prog.follows .mixedOrders=true:=by kernel_rfl
theorem Bs:Base Tryz.prog TB inf:=⟨TBok,inf_ok,mix⟩
def x90:XCon TB.den:=⟨90,[.int .u64,.int .u64,.int .u64],[.int .u64,.int .u64],fun x=>(fun(a0 a1 a2:Int)=>0<=a0/\0<=a1/\0<=a2/\a2<=1) x.1 x.2.1 x.2.2.1,fun x=>((fun(a0 a1 a2:Int)=>(a0+a1+a2)%18446744073709551616) x.1 x.2.1 x.2.2.1,(fun(a0 a1 a2:Int)=>(a0+a1+a2)/18446744073709551616) x.1 x.2.1 x.2.2.1,())⟩
theorem x90_ok:x90.Ok Tryz.prog TB:=⟨rfl,fun x h=>klk Tryz.func90 qqk qqk qqk qqk x.1 x.2.1 x.2.2.1 h.1 h.2.1 h.2.2.1 h.2.2.2⟩
abbrev yqi:Ty:= .int .i64
abbrev yqu:Ty:= .int .u64
abbrev yqb:Ty:= .int .u8
abbrev zqi:Sh1:= .d yqi
abbrev zqu:Sh1:= .d yqu
abbrev zqb:Sh1:= .d yqb
abbrev zql:Sh1:= .d (.sl yqu)
abbrev yO1:List Ty:=[yqu,yqu,.sl yqu]
abbrev yN1:List OSh:=[.map yqu (.bool)]
abbrev yM1:List Ty:=[yqi,.sl yqb,.bool]
abbrev yL1:List Ty:=[.sl yqb,yqi,.bool]
abbrev yK1:List OSh:=[.cells [zqu,zqu,zqu]]
abbrev yJ1:List Ty:=[yqi,.sl yqb,yqi,.bool]
abbrev yI1:List OSh:=[.cells [.mp 1],.map yqu (.bool)]
abbrev yH1:List OSh:=[.cells [.d (.sl yqb),.d (.bool)]]
abbrev yG1:List Sh1:=[zqi,zqi,zqi,zqi,zqi,zqu,zqi,zqi,zqu]
abbrev yF1:List Sh1:=[zqi,zqi,zqi,zqu,zql,zqu,zqu,zql,zqu]
abbrev yE1:List OSh:=[.cells [.d (.sl yqb),zqi,.d (.bool)]]
abbrev yD1:List Sh1:=[zqu,zqi,zqu,zqu,zqu,.d (.sl (.st 2))]
abbrev yC1:List Sh1:=[.d (.sl (.st 11)),.d (.sl (.st 13)),zqu]
abbrev yB1:List Sh1:=[zqi,zqu,zql,zql,zql,zqu,zqu,zqu,zqu,zqu]
abbrev yA1:List Sh1:=[zqu,zqu,zqu,zqu,zqu,zqi,zqi,zql,.d (.bool)]
abbrev yZ:List Sh1:=[zqu,zqu,zqu,zqi,zqi,zqi,zqi,zqi,zqu,zql,zqu,zqu,zql,zqu]
abbrev yY:List Sh1:=[zqu,zql,.d (.sl (.st 1)),zqu,zqu,zqu,zqu,zqu,zqi,.d (.sl yqb)]
abbrev yX:List OSh:=[.cells [.own 2,.full (.st 13),zqu],.cells [.d (.sl yqb),.d (.bool)],.tip (.st 11)]
abbrev yW:List OSh:=[.cells [zqi,zqi,zqi,zqi,zqi,zqu,zqi,zqi,zqu,zqi,zql,zql,.d (.sl (.st 9)),zqu,zql]]
abbrev yV:List OSh:=[.cells [.own 2,.own 3,zqu],.cells [.d (.sl yqb),.d (.bool)],.tip (.st 11),.tip (.st 13)]
abbrev yU:List OSh:=[.cells [.own 2,.own 3,zqu],.cells [.d (.sl yqb),zqi,.d (.bool)],.tip (.st 11),.tip (.st 13)]
abbrev yT:List Ty:=[.bool,yqu,yqi,.sl (.st 4),.sl (.str),.sl yqi,.sl (.str),.sl (.sl yqu),.sl (.str),.sl (.bool)]
abbrev yS:List OSh:=[.cells [zqi,zqi,zqi,zqi,zqi,zqu,zqi,zqi,zqu,zqi,.own 1,zql,.d (.sl (.st 9)),zqu,zql],.tip yqu]
abbrev yR:List Ty:=[yqi,.bool,yqu,yqi,.sl (.st 4),.sl (.str),.sl yqi,.sl (.str),.sl (.sl yqu),.sl (.str),.sl (.bool)]
abbrev yQ:List Ty:=[yqu,.bool,.bool,yqu,yqi,.sl (.st 4),.sl (.str),.sl yqi,.sl (.str),.sl (.sl yqu),.sl (.str),.sl (.bool)]
abbrev yP:List Ty:=[.st 19,yqi,.bool,yqu,yqi,.sl (.st 4),.sl (.str),.sl yqi,.sl (.str),.sl (.sl yqu),.sl (.str),.sl (.bool)]
abbrev yO:List Ty:=[.st 0,.sl (.st 3),.bool,yqu,yqi,.sl (.st 4),.sl (.str),.sl yqi,.sl (.str),.sl (.sl yqu),.sl (.str),.sl (.bool)]
abbrev yN:List Ty:=[yqi,yqi,yqi,yqi,yqi,yqu,yqi,yqi,yqu,yqi,yqi,.sl yqu,.sl (.st 9),yqu,.sl yqu,.sl yqu,.sl (.st 10),.sl yqu,.sl (.bool)]
abbrev yM:List OSh:=[.map (.str) (.bool),.map (.str) (.sl yqu),.map (.str) yqi,.cells [.d (.bool),zqu,zqi,.d (.sl (.st 4)),.mp 2,.mp 1,.mp 0]]
abbrev yL:List Ty:=[yqi,yqi,yqi,yqi,yqi,yqi,yqu,yqi,yqi,yqu,yqi,yqi,.sl yqu,.sl (.st 9),yqu,.sl yqu,.sl yqu,.sl (.st 10),.sl yqu,.sl (.bool)]
abbrev yK:List OSh:=[.cells [.d (.bool),zqu,zqi,.d (.sl (.st 4)),.mp 1,.mp 2,.mp 3],.map (.str) yqi,.map (.str) (.sl yqu),.map (.str) (.bool)]
abbrev yJ:List Sh1:=[.d (.bool),zqu,zqi,.d (.sl (.st 4)),.d (.sl (.st 21)),.d (.sl (.st 21)),zqi,zql,.d (.sl yqi),.d (.sl (.st 13)),.d (.sl (.st 25))]
abbrev yI:List OSh:=[.tip yqu,.map (.str) (.bool),.map (.str) (.sl yqu),.map (.str) yqi,.cells [.d (.bool),zqu,zqi,.d (.sl (.st 4)),.mp 3,.mp 2,.mp 1],.vec (.st 20)]
abbrev yH:List Ty:=[yqi,yqi,yqi,yqi,yqi,yqi,yqu,yqi,yqi,yqu,yqi,yqi,.sl yqu,.sl (.st 9),yqu,yqi,yqi,.sl yqu,yqi,.sl (.st 9),yqu,.sl yqu,.sl (.st 10),.sl yqu,.sl yqu,.sl (.bool),.sl yqu]
abbrev yG:List OSh:=[.cells [zqi,zqi,zqi,zqi,zqi,zqu,zqi,zqi,zqu,zqi,zqi,zql,.row 1,.ptr 2 0,.d (.sl (.st 9)),zqu,.row 3,.row 4],.vec yqu,.cells [.mp 5],.vec yqu,.vec (.st 10),.map yqu (.bool)]
abbrev yF:List Ty:=[yqi,.sl yqu,yqu,yqu,yqu,yqi,yqi,yqi,yqi,yqi,yqu,.sl yqu,yqu,yqu,.sl yqu,yqu,.bool,yqu,yqi,.sl (.st 4),.sl (.st 12),.sl (.st 13),.sl yqi,.sl (.st 11),.sl (.str),.sl yqi,.sl (.str),.sl (.sl yqu),.sl (.str),.sl (.bool)]
abbrev yE:List Ty:=[.st 18,yqi,.sl yqu,yqu,yqu,yqu,yqi,yqi,yqi,yqi,yqi,yqu,.sl yqu,yqu,yqu,.sl yqu,yqu,.bool,yqu,yqi,.sl (.st 4),.sl (.st 12),.sl (.st 13),.sl yqi,.sl (.st 11),.sl (.str),.sl yqi,.sl (.str),.sl (.sl yqu),.sl (.str),.sl (.bool)]
abbrev yD:List OSh:=[.cells [zqi,zqi,zqi,zqi,zqi,zqu,zqi,zqi,zqu,zqi,zqi,zql,.row 2,.ptr 3 0,.d (.sl (.st 9)),zqu,.row 4,.row 5],.cells [zqi,zqi,zql,zqi,.own 6,.d (.sl (.st 9)),zqu],.vec yqu,.cells [.mp 7],.vec yqu,.vec (.st 10),.tip yqu,.map yqu (.bool)]
abbrev yC:List OSh:=[.cells [zqi,zqi,zqi,zqi,zqi,zqu,zqi,zqi,zqu,zqi,zqi,zql,.row 8,.ptr 3 0,.d (.sl (.st 9)),zqu,.row 4,.row 5],.cells [zqi,zqi,zql,zqi,.own 6,.d (.sl (.st 9)),zqu],.dead,.cells [.mp 7],.vec yqu,.vec (.st 10),.tip yqu,.map yqu (.bool),.vec yqu]
abbrev yB:List OSh:=[.map (.str) (.bool),.map (.str) (.sl yqu),.map (.str) yqi,.map yqi (.st 11),.tip (.st 13),.tip (.st 12),.cells [.d (.bool),zqu,zqi,.d (.sl (.st 4)),.mp 2,.mp 1,.mp 0],.cells [.ptr 6 0,zqi,.own 5,zql,.own 4,.mp 3,zqu,zqu,zqu,zqi,zqi,zqi,zqi,zqi,zqu,zql,zqu,zqu,zql,zqu]]
abbrev yA:List OSh:=[.cells [.ptr 1 0,zqi,.own 2,zql,.own 3,.mp 4,zqu,zqu,zqu,zqi,zqi,zqi,zqi,zqi,zqu,zql,zqu,zqu,zql,zqu],.cells [.d (.bool),zqu,zqi,.d (.sl (.st 4)),.mp 5,.mp 6,.mp 7],.tip (.st 12),.tip (.st 13),.map yqi (.st 11),.map (.str) yqi,.map (.str) (.sl yqu),.map (.str) (.bool)]
end Go.Proofs.YtljmmhaiaipckaaGreat
namespace Go.Bv
open Go.RowKit Go.Deep
def limOf (w:World) (b:Nat):Nat:=match w.heap[b]? with
 |some (.cells c _ _)=>c.size
 |_=>0
theorem kos {w:World} {b o:Nat} {v:Value} (h:w.cell? ⟨b,o,none⟩=some v):o<limOf w b:=by unfold World.cell? at h;unfold limOf;grind
def isAggT (P:Program) (e:TypeId):Bool:=match P.underlying e with
 |some (.struct _)=>true
 |some (.array _ _)=>true
 |_=>false
def mkD (P:Program) (e:TypeId) (cs:List D):D:=if isAggT P e then .agg cs else cs.headD (.bool false)
def tiles (P:Program) (tot:Nat):List (TypeId×Nat)->Nat->Bool
 |[],o=>o==tot
 |p::r,o=>p.2==o&&tiles P tot r (o+P.cellsOf p.1)
def fsOf (fs:Array Field):List (TypeId×Nat):=fs.toList.map fun f=>(f.type,f.offset)
def arOf (P:Program) (n:Nat) (e:TypeId):List (TypeId×Nat):=(List.range n).map fun i=>(e,i*P.cellsOf e)
def dataT (P:Program):Nat->TypeId->Bool
 |0,_=>false
 |k+1,t=>match P.underlying t with
  |some .bool=>true
  |some (.int _)=>true
  |some .string=>true
  |some (.slice e)=>decide (0<P.cellsOf e)&&dataT P k e
  |some (.struct fs)=>tiles P (P.cellsOf t) (fsOf fs) 0&&(fsOf fs).all fun p=>dataT P k p.1
  |some (.array n e)=>tiles P (P.cellsOf t) (arOf P n e) 0&&dataT P k e
  |_=>false
def RelFs {H:Type} (R:TypeId->List D->DataW H->Prop):List (TypeId×Nat)->List D->List (DataW H)->Prop
 |[],ds,ps=>ds=[]/\ps=[]
 |t::ts,ds,ps=>∃d1 d2 p qs,R t.1 d1 p/\RelFs R ts d2 qs/\ds=d1++d2/\ps=p::qs
def Rel {H:Type} (P:Program):Nat->TypeId->List D->DataW H->Prop
 |0,_,_,_=>False
 |k+1,t,ds,d=>match P.underlying t with
  |some .bool=>∃b,ds=[.bool b]/\d= .lit (.bool b)
  |some (.int q)=>∃i,ds=[.int q i]/\d= .lit (.int q i)/\(Lit.int q i).wf=true
  |some .string=>∃s:ByteArray,ds=[.str s]/\d= .lit (.string s.data.toList)
  | some (.slice e)=>∃l:List (List D),ds=[.slice (P.cellsOf e) (l.map (mkD P e))]/\l.length<=maxLen/\
    ((l=[]/\d= .nil)∨∃elems spare,d= .slice elems spare/\l.length=elems.length/\∀(j:Nat) (x:List D) (y:DataW H),l[j]? =some x->elems[j]? =some y->Rel P k e x y)
  |some (.struct fs)=>∃ps,d= .agg ps/\RelFs (Rel P k) (fsOf fs) ds ps
  |some (.array n e)=>∃ps,d= .agg ps/\RelFs (Rel P k) (arOf P n e) ds ps
  |_=>False
def Holds (w:World) (cs:List Value) (ds:List D):Prop:=ds.length=cs.length/\∀(j:Nat) (v:Value) (c:D),cs[j]? =some v->ds[j]? =some c->RepD (limOf w) w v c
theorem Holds.append {w:World} {a b:List Value} {x y:List D} (h1:Holds w a x) (h2:Holds w b y):Holds w (a++b) (x++y):=by
 refine⟨by simp[h1.1,h2.1],fun j v c hv hc=> ?_⟩;by_cases hj:j<a.length
 ·rw[qaw hj]at hv;rw[qaw (by rw[h1.1];exact hj)]at hc;exact h1.2 j v c hv hc
 ·rw[qbi qqo]at hv;rw[qbi (by rw[h1.1];omega),h1.1]at hc;exact h2.2 _ v c hv hc
theorem Holds.one {w:World} {v:Value} {d:D} (h:RepD (limOf w) w v d):Holds w [v] [d]:=by refine⟨rfl,fun j u c hu hc=> ?_⟩;grind
section
variable {H:Type} {P:Program} {w:World} {cs:List Value}
theorem k9a {tot:Nat} (htot:cs.length=tot) (ok:Value->Prop) (hok:∀v∈cs,ok v) (R:TypeId->List D->DataW H->Prop) (g:TypeId->List Value->Option (DataW H×List MemPlace)):
  ∀(L:List (TypeId×Nat)) (o:Nat) (xs:List (DataW H×List MemPlace)),tiles P tot L o=true->xs.length=L.length->
   (∀p∈L,∀cs' y,(∀v∈cs',ok v)->g p.1 cs' =some y->∃ds,Holds w cs' ds/\R p.1 ds y.1)->
   (∀(i:Nat) (p:TypeId×Nat),L[i]? =some p->g p.1 ((cs.drop p.2).take (P.cellsOf p.1))=xs[i]?)->
   ∃ds,Holds w (cs.drop o) ds/\RelFs R L ds (xs.map (·.1))
 |[],o,xs,ht,hl,_,_=>by
  simp[tiles]at ht;have:xs=[]:=by grind
  subst this;refine⟨[],⟨?_,?_⟩,rfl,rfl⟩
  ·simp;omega
  grind
 |p::L,o,xs,ht,hl,hg,hx=>by
  simp[tiles]at ht;obtain⟨h0,ht⟩:=ht;cases xs with
  |nil=>simp at hl
  |cons y ys=>have h1:=hx 0 p rfl;simp only[qdn]at h1;obtain⟨d1,hd1,hr1⟩:=hg p qqs _ y (by grind) h1;obtain⟨d2,hd2,hr2⟩:=k9a htot ok hok R g L (o+P.cellsOf p.1) ys ht (by grind) (fun q hq=>hg q (by simp[hq])) (fun i q hq=>by simpa using hx (i+1) q (by grind));refine⟨d1++d2,?_,d1,d2,y.1,_,hr1,hr2,rfl,rfl⟩;have:=hd1.append hd2;grind[List.drop_drop,List.take_append_drop]
end
section
variable {H:Type} {enc:TypeId×Value->H} {P:Program} {w:World}
theorem rel_mk {k:Nat} {e:TypeId} {x:List D} {d:DataW H} (hr:Rel P k e x d) (h1:∀c∈x,c.one=true):(mkD P e x).cells=x:=by
 cases k with
 |zero=>exact hr.elim
 |succ k=>
  unfold mkD;split
  ·rfl
  ·rename_i ha;unfold Rel at hr;split at hr
   ·obtain⟨b,rfl,_⟩:=hr;rfl
   ·obtain⟨b,rfl,_⟩:=hr;rfl
   ·obtain⟨b,rfl,_⟩:=hr;rfl
   ·obtain⟨b,rfl,_⟩:=hr;rfl
   ·rename_i h;exact absurd (by simp[isAggT,h]) ha
   ·rename_i h;exact absurd (by simp[isAggT,h]) ha
   grind
theorem k4f:∀(k:Nat) (t:TypeId),dataT P k t=true->∀(n:Nat) (cs:List Value) (y:DataW H×List MemPlace),
  DataW.trod enc P w 0 (fun _=>true) true n t cs=some y->∃ds,Holds w cs ds/\Rel P k t ds y.1
 |0,_,h=>by cases h
 |k+1,t,hT=>by
  intro n cs y h;unfold dataT at hT;split at hT
  ·rename_i hu;obtain⟨b,rfl,rfl⟩:=DataW.trod_bool hu h;exact⟨[.bool b],Holds.one (.bool b),by simp[Rel,hu]⟩
  ·rename_i q hu;obtain⟨i,rfl,rfl,hw⟩:=DataW.trod_int hu h;exact⟨[.int q i],Holds.one (.int q i),by simp[Rel,hu,hw]⟩
  ·rename_i hu;obtain⟨s,rfl,rfl,hs⟩:=DataW.trod_string hu h;exact⟨[.str s],Holds.one (.str s),by simp only[Rel,hu];grind⟩
  ·rename_i e hu;simp only[qg,qai]at hT;obtain⟨hpos,hT⟩:=hT;rcases open_slice hu h with⟨rfl,rfl⟩|⟨a,len,cap,m,n',Dd,Pl,rfl,_,hlc,hcm,hm,rfl,hel⟩
   ·exact⟨[.slice (P.cellsOf e) []],Holds.one (.nil none _),by simp only[Rel,hu];grind⟩
   ·simp only[qch]at hm;subst hm;by_cases hm0:m=0
    ·subst hm0;have hl0:len=0:=by omega
     subst hl0;refine⟨[.slice (P.cellsOf e) []],Holds.one (.nil (some a) _),?_⟩;simp only[Rel,hu];simp_all
    have hel' :∀i,i<len->∃x:List D,∃cs',w.cells? 0 (a.add (i*P.cellsOf e)) (P.cellsOf e)=some cs'/\Holds w cs' x/\Rel P k e x (Dd i):=by intro i hi;obtain⟨cs',h1,h2⟩:=hel i qqo;obtain⟨ds,h3,h4⟩:=k4f k e hT n' cs' _ h2;exact⟨ds,cs',h1,h3,h4⟩
    obtain⟨f,hf⟩:=choose_lt hel'
    have hspot:a.spot=none:=by
     obtain⟨cs',h1,h2⟩:=hel 0 qqo;have h3:=(World.cells?_some h1).2.2 0 qqo;have h4:=(World.cells?_some h1).2.1;rw[qd qqo]at h3;unfold World.cell? at h3;split at h3
     ·split at h3
      ·cases h3
      ·rename_i hs;simpa[Addr.add]using hs
     ·cases h3
    obtain⟨b,off,sp⟩:=a;simp only at hspot;subst hspot
    have hone:∀i,i<len->∀c∈f i,c.one=true:=by
     intro i hi c hc;obtain⟨cs',h1,h2,h3⟩:=hf i hi;obtain⟨j,hj⟩:=qdg hc;have hjl:j<cs'.length:=by rw[<-h2.1];grind
     exact(h2.2 j _ c (qd hjl) hj).done
    have hmk:∀i,i<len->(mkD P e (f i)).cells=f i:=fun i hi=>by grind[rel_mk]
    have hsz:∀d∈((List.range len).map f).map (mkD P e),d.cells.length=P.cellsOf e/\∀c∈d.cells,c.one=true:=by intro d hd;simp only[qbq,qau,List.mem_range,Function.comp]at hd;obtain⟨i,hi,rfl⟩:=hd;obtain⟨cs',h1,h2,h3⟩:=hf i hi;rw[hmk i hi];exact⟨by rw[h2.1];exact(World.cells?_some h1).2.1,hone i hi⟩
    have hget:∀i,i<len->(((List.range len).map f).map (mkD P e))[i]? =some (mkD P e (f i)):=by grind
    have hfl:=kj hsz;simp only[qm,List.length_range]at hfl
    have hat:∀(j:Nat) (u:Value),((List.range (len*P.cellsOf e)).map fun j=>(w.cell? ⟨b,off+j,none⟩).getD undef)[j]? =some u->j<len*P.cellsOf e/\w.cell? ⟨b,off+j,none⟩=some u:=by
     intro j u hu;have hj:j<len*P.cellsOf e:=by grind
     refine⟨hj,?_⟩;simp only[qp,List.getElem?_range hj,qbp,qao]at hu;have hi:j/P.cellsOf e<len:=by rw[qem hpos];exact hj
     have hr:j%P.cellsOf e<P.cellsOf e:=Nat.mod_lt _ hpos;obtain⟨cs',h1,h2,h3⟩:=hf _ hi;have e1:j/P.cellsOf e*P.cellsOf e+j%P.cellsOf e=j:=by rw[qeg];exact Nat.div_add_mod j _
     have h4:=(World.cells?_some h1).2.2 _ hr;have h5:=(World.cells?_some h1).2.1;have e2:(Addr.add ⟨b,off,none⟩ (j/P.cellsOf e*P.cellsOf e)).add (j%P.cellsOf e)=⟨b,off+j,none⟩:=by rw[add_add,e1];simp[Addr.add]
     grind
    refine⟨[.slice (P.cellsOf e) (((List.range len).map f).map (mkD P e))],Holds.one ?_,?_⟩
    ·have:=RepD.slice (m:=limOf w) (w:=w) b off m (P.cellsOf e) (((List.range len).map f).map (mkD P e)) ((List.range (len*P.cellsOf e)).map fun j=>(w.cell? ⟨b,off+j,none⟩).getD undef) (by grind) hcm hsz (by grind) ?_ ?_
     ·grind
     ·intro j u hu;obtain⟨hj,hcell⟩:=hat j u hu;exact⟨kos hcell,hcell⟩
     ·intro j u c hu hc;obtain⟨hj,hcell⟩:=hat j u hu;have hi:j/P.cellsOf e<len:=by rw[qem hpos];exact hj
      have hr:j%P.cellsOf e<P.cellsOf e:=Nat.mod_lt _ hpos;obtain⟨cs',h1,h2,h3⟩:=hf _ hi;have e1:j/P.cellsOf e*P.cellsOf e+j%P.cellsOf e=j:=by rw[qeg];exact Nat.div_add_mod j _
      rw[<-e1,k6h hsz (hget _ hi) _ hr,hmk _ hi]at hc;refine h2.2 _ u c ?_ hc;rw[<-(World.cells?_some h1).2.2 _ hr,<-hcell];congr 1;rw[add_add,e1];simp[Addr.add]
    ·simp only[Rel,hu];grind
  ·rename_i fs hu;simp only[qg]at hT;obtain⟨xs,n',rfl,rfl,hl,hxl,hx⟩:=DataW.trod_struct hu h
   obtain⟨ds,h1,h2⟩:=k9a (P:=P) hl (fun _=>True) (fun _ _=>trivial) (Rel P k) (fun t c=>DataW.trod enc P w 0 (fun _=>true) true n' t c) (fsOf fs) 0 xs hT.1 (by simp[fsOf,hxl])
    (fun p hp cs' y _ hy=>k4f k p.1 (by grind) n' cs' y hy)
    (fun i p hp=>by
     simp only[fsOf,qp,qac]at hp;grind)
   exact⟨ds,by grind,by simp only[Rel,hu];grind⟩
  ·rename_i m e hu;simp only[qg]at hT;obtain⟨xs,n',rfl,rfl,hl,hxl,hx⟩:=DataW.trod_array hu h
   obtain⟨ds,h1,h2⟩:=k9a (P:=P) hl (fun _=>True) (fun _ _=>trivial) (Rel P k) (fun t c=>DataW.trod enc P w 0 (fun _=>true) true n' t c) (arOf P m e) 0 xs hT.1 (by simp[arOf,hxl])
    (fun p hp cs' y _ hy=>by
     simp only[arOf,qau]at hp;obtain⟨i,_,rfl⟩:=hp;exact k4f k e hT.2 n' cs' y hy)
    (fun i p hp=>by
     simp only[arOf,qp,qac]at hp;grind)
   exact⟨ds,by grind,by simp only[Rel,hu];grind⟩
  ·cases hT
end
end Go.Bv
namespace Go.Bv
open Go.RowKit Go.ChangeShapes Go.WideShapes
def G0 (W:World):Gh:=⟨fun _=>none,fun _=>none,limOf W⟩
def vOf (P:Program) (t:TypeId) (ds:List D):V:=if isAggT P t then .agg (ds.map V.d)else .d (ds.headD (.bool false))
section
variable {H:Type} {enc:TypeId×Value->H} {P:Program} {W:World}
theorem arg_rep {k:Nat} {r:Reach} {base:Nat} {t:TypeId} {v:Value} {d:DataW H} {ps:List MemPlace} {h:Hp} {nx:Nat} (hT:dataT P k t=true) (hval:Value.okWide P W r base t v)
  (hd:DataW.Trod enc P W 0 (fun _=>true) true t v d ps):∃ds,Rel P k t ds d/\RepV (G0 W) W h nx v (vOf P t ds):=by
 obtain⟨n,hn⟩:=hd;by_cases ha:isAggT P t=true
 ·have hval' :∃cs,v= .agg cs/\cs.size=P.cellsOf t/\Row.okWide P W r base t cs:=by unfold isAggT at ha;unfold Value.okWide at hval;grind
  obtain⟨cs,rfl,_,ts,_,_,hc⟩:=hval';obtain⟨ds,h1,h2⟩:=k4f k t hT n cs.toList _ hn;refine⟨ds,h2,?_⟩;unfold vOf;rw[qf ha];have:=RepV.agg (G:=G0 W) (w:=W) (h:=h) (nx:=nx) cs.toList (ds.map V.d) (by simpa using h1.1.symm) ?_ ?_
  ·omega
  ·intro x hx;obtain⟨c,hcm,rfl⟩:=qau.1 hx;obtain⟨j,hj⟩:=qdg hcm;have hjl:j<cs.toList.length:=by have:=h1.1;grind
   exact(h1.2 j _ c (qd hjl) hj).done
  ·intro j u x hu hx;rw[qp,qac]at hx;obtain⟨c,hcj,rfl⟩:=hx;exact .d _ _ (h1.2 j u c hu hcj)
 ·have hval' :Cell.okWide P W r base t v:=by
   unfold Value.okWide at hval;split at hval
   ·rename_i h1;exact absurd (by simp[isAggT,h1]) ha
   ·rename_i h1;exact absurd (by simp[isAggT,h1]) ha
   grind
  have hcs:v.cells.toList=[v]:=by
   cases v with
   |agg cs=>exfalso;unfold Cell.okWide Cell.ok at hval';grind
   |_=>rfl
  rw[hcs]at hn;obtain⟨ds,h1,h2⟩:=k4f k t hT n _ _ hn;refine⟨ds,h2,?_⟩;unfold vOf;rw[qe ha];have hl:=h1.1
  match ds,hl with
  |[c],_=>exact .d _ _ (h1.2 0 v c rfl rfl)
theorem law_of {f:FuncId} {xs:List V} {r:V} (hS:SoundH P f xs [] r []) {vs:List Value} (hlen:vs.length=xs.length)
  (hrep:∀(j:Nat) (v:Value) (x:V),vs[j]? =some v->xs[j]? =some x->RepV (G0 W) W [] 0 v x):
  Calls P f vs.toArray W fun e W' =>(∃v G',e= .returned v/\RepV G' W' [] 0 v r)/\Below W.heap.size W W' :=by
 refine(hS (G0 W) W vs hlen hrep ?_).mono fun e W' hh=> ?_
 ·refine⟨?_,?_,?_,?_,?_,?_⟩
  ·intro id l h;simp[hpOf,Hp.get]at h
  ·intro id es h;simp[hpOf,Hp.get]at h
  ·grind
  ·grind
  ·intro id ob h;simp[hpOf,Hp.get]at h
  ·intro b hb;show limOf W b=0;unfold limOf;grind
 ·obtain⟨v,G',rfl,h1,h2,h3,h4⟩:=hh;refine⟨⟨v,G',rfl,h1⟩,h3.os,h3.tape,h3.output,h3.size,fun b hb=>(h3.same b hb ?_).1⟩;rintro ⟨i,hi,_⟩;simp at hi
def typesOk (P:Program) (ts:List TypeId):Bool:=ts.all fun t=>P.readableRec t&&decide (t<P.types.size)
theorem k7v (hl:laidOutB P=true) {W' :World} (hb:Below W.heap.size W W'):∀{ts:List TypeId} {vs:List Value} {ds:List (DataW H)} {ps:List MemPlace},typesOk P ts=true->
  DataW.TrodAll enc P W 0 (fun _=>true) true ts vs ds ps->(∀x∈ps,x.block<W.heap.size)->DataW.TrodAll enc P W' 0 (fun b=>decide (b<W.heap.size)) true ts vs ds ps
 |[],[],[],_,_,h,_=>h
 |[],[],_::_,_,_,h,_=>h.elim
 |[],_::_,_,_,_,h,_=>h.elim
 |_::_,[],_,_,_,h,_=>h.elim
 |_::_,_::_,[],_,_,h,_=>h.elim
 |t::ts,v::vs,d::ds,ps,ht,h,hp=>by simp only[typesOk,qep,qg,qai]at ht;obtain⟨p,q,h1,h2,rfl⟩:=h;exact⟨p,q,Below.trod hl ht.1.1 ht.1.2 h1 hb (by grind),k7v hl hb (by simpa[typesOk]using ht.2) h2 (by grind),rfl⟩
theorem rel_int {k:Nat} {t:TypeId} {q:IntKind} {ds:List D} {d:DataW H} (hu:P.underlying t=some (.int q)) (h:Rel P (k+1) t ds d):∃i,ds=[.int q i]/\d= .lit (.int q i)/\(Lit.int q i).wf=true:=by unfold Rel at h;grind
theorem kox {k:Nat} {t:TypeId} {fs:Array Field} {ds:List D} {d:DataW H} (hu:P.underlying t=some (.struct fs)) (h:Rel P (k+1) t ds d):∃ps,d= .agg ps/\RelFs (Rel P k) (fsOf fs) ds ps:=by unfold Rel at h;grind
theorem kpx {k:Nat} {t e:TypeId} {n:Nat} {ds:List D} {d:DataW H} (hu:P.underlying t=some (.array n e)) (h:Rel P (k+1) t ds d):∃ps,d= .agg ps/\RelFs (Rel P k) (arOf P n e) ds ps:=by unfold Rel at h;grind
theorem kpv {k:Nat} {t e:TypeId} {ds:List D} {d:DataW H} {α:Type} [Inhabited α] (f:α->D) (p:α->Prop) (hu:P.underlying t=some (.slice e)) (h:Rel P (k+1) t ds d)
  (tp:∀(x:List D) (y:DataW H),Rel P k e x y->∃a,mkD P e x=f a/\p a):
  ∃l:List α,ds=[.slice (P.cellsOf e) (l.map f)]/\l.length<=maxLen/\(∀a∈l,p a)/\((l=[]/\d= .nil)∨∃elems spare,d= .slice elems spare/\l.length=elems.length):=by
 unfold Rel at h;rw[hu]at h;obtain⟨l,rfl,hmx,h⟩:=h;rcases h with⟨rfl,rfl⟩|⟨elems,spare,rfl,hlen,hh⟩
 ·simp_all
 ·have:∀i,i<l.length->∃a,mkD P e (l.getD i [])=f a/\p a:=by intro i hi;refine tp _ _ (hh i _ _ ?_ (qd qqo));grind
  obtain⟨g,hg⟩:=Deep.choose_lt this;refine⟨(List.range l.length).map g,?_,by grind,?_,(by grind)⟩
  ·have:l.map (mkD P e)=((List.range l.length).map g).map f:=by rw[Deep.map_by_index l [] (mkD P e),qbq];simp_all
   rw[this]
  grind
theorem ksu {fn:Func} {s:ChangeSpec} {W' :World} {args:Array Value} {ds:List (DataW H)} {before:List MemPlace} {tb:TypeId} (hv:s.vars=[]) (hW:DataW.Whole enc P fn.params.toList s.vars false W args.toList ds [] before)
  (hl:laidOutB P=true) (hty:typesOk P fn.params.toList=true) (hr:fn.resultTypes= #[tb]) (hub:P.underlying tb=some .bool)
  (h1:(s.fn H (ds++[])).results=[.lit (.bool true)]) (h2:(s.fn H (ds++[])).args=ds) (h3:(s.fn H (ds++[])).vars=[]) (hb:Below W.heap.size W W'):
  s.post enc P fn false true false false W args (.bool true) W' :=by
 have hW' :=hW;obtain⟨p,q,hA,hV,rfl,_,_⟩:=hW;have hq:q=[]:=by rw[hv]at hV;exact hV
 subst hq;refine⟨ds,[],p++[],[],p,[],hW',?_,?_,?_,hb.frame _,fun h=>by cases h⟩
 ·rw[h1,hr];exact trodAll_cons_mk (shut_bool hub _) trodAll_mk0
 ·rw[h2];exact k7v hl hb hty hA (fun x hx=>by simpa using hW'.lt x (by grind))
 ·rw[hv,h3];rfl
end
structure RelH {H:Type} (P:Program) (k:Nat) (t:TypeId) (ds:List D) (d:DataW H):Prop where
 h:Rel P k t ds d
section
variable {H:Type} {enc:TypeId×Value->H} {P:Program} {W:World} {k:Nat}
theorem relFs_h:∀{L:List (TypeId×Nat)} {ds:List D} {ps:List (DataW H)},RelFs (Rel P k) L ds ps->RelFs (RelH P k) L ds ps
 |[],_,_,h=>h
 |_::_,_,_,⟨d1,d2,p,qs,h1,h2,e1,e2⟩=>⟨d1,d2,p,qs,⟨h1⟩,relFs_h h2,e1,e2⟩
theorem kcn {t:TypeId} {q:IntKind} {ds:List D} {d:DataW H} (hu:P.underlying t=some (.int q)) (h:RelH P (k+1) t ds d):∃i,ds=[.int q i]/\d= .lit (.int q i)/\(Lit.int q i).wf=true:=rel_int hu h.h
theorem k2g {t:TypeId} {fs:Array Field} {ds:List D} {d:DataW H} {L:List (TypeId×Nat)} (hu:P.underlying t=some (.struct fs)) (hf:fsOf fs=L) (h:RelH P (k+1) t ds d):∃ps,d= .agg ps/\RelFs (RelH P k) L ds ps:=by obtain⟨ps,h1,h2⟩:=kox hu h.h;grind[relFs_h]
theorem kp1 {t e:TypeId} {n:Nat} {ds:List D} {d:DataW H} {L:List (TypeId×Nat)} (hu:P.underlying t=some (.array n e)) (hf:arOf P n e=L) (h:RelH P (k+1) t ds d):∃ps,d= .agg ps/\RelFs (RelH P k) L ds ps:=by obtain⟨ps,h1,h2⟩:=kpx hu h.h;grind[relFs_h]
theorem k2w {t e:TypeId} {ds:List D} {d:DataW H} {α:Type} [Inhabited α] (f:α->D) (p:α->Prop) (sz:Nat) (hu:P.underlying t=some (.slice e)) (hs:P.cellsOf e=sz) (h:RelH P (k+1) t ds d)
  (tp:∀(x:List D) (y:DataW H),RelH P k e x y->∃a,mkD P e x=f a/\p a):∃l:List α,ds=[.slice sz (l.map f)]/\l.length<=9223372036854775807/\∀a∈l,p a:=by
 obtain⟨l,h1,h2,h3,_⟩:=kpv f p hu h.h (fun x y hh=>tp x y ⟨hh⟩);subst hs;exact⟨l,h1,h2,h3⟩
theorem mk_agg {e:TypeId} {ds cs:List D} (ha:isAggT P e=true) (h:ds=(D.agg cs).cells):mkD P e ds= .agg cs:=by subst h;unfold mkD;rw[ha];rfl
theorem mk_one {e:TypeId} {ds:List D} {x:D} (ha:isAggT P e=false) (h:ds=[x]):mkD P e ds=x:=by subst h;unfold mkD;rw[ha];rfl
theorem kce {r:Reach} {base:Nat} {t:TypeId} {v:Value} {d:DataW H} {ps:List MemPlace} {h:Hp} {nx:Nat} (hT:dataT P k t=true) (hval:Value.okWide P W r base t v)
  (hd:DataW.Trod enc P W 0 (fun _=>true) true t v d ps):∃ds,RelH P k t ds d/\RepV (G0 W) W h nx v (vOf P t ds):=by
 obtain⟨ds,h1,h2⟩:=arg_rep hT hval hd;exact⟨ds,⟨h1⟩,h2⟩
end
end Go.Bv
namespace Go.Proofs.YtljmmhaiaipckaaGreat
open Go Go.Bv Go.Cv Go.Md Go.RowKit Go.ChangeShapes Go.WideShapes
theorem wf_u8 {i:Int} (h:(Lit.int .u8 i).wf=true):0<=i/\i<256:=by simp only[Lit.wf,IntKind.min,IntKind.max,IntKind.signed,IntKind.bits,qg]at h;simp at h;omega
theorem wf_u64 {i:Int} (h:(Lit.int .u64 i).wf=true):0<=i/\i<18446744073709551616:=by simp only[Lit.wf,IntKind.min,IntKind.max,IntKind.signed,IntKind.bits,qg]at h;simp at h;omega
theorem wf_i64 {i:Int} (h:(Lit.int .i64 i).wf=true):(-9223372036854775808)<=i/\i<9223372036854775808:=by simp only[Lit.wf,IntKind.min,IntKind.max,IntKind.signed,IntKind.bits,qg]at h;simp at h;omega
structure kcb (x:wP):Prop where
 wAk:((-9223372036854775808)<=x.wAk/\x.wAk<9223372036854775808)
 wD:((-9223372036854775808)<=x.wD/\x.wD<9223372036854775808)
 wAG:((-9223372036854775808)<=x.wAG/\x.wAG<9223372036854775808)
 wAA:((-9223372036854775808)<=x.wAA/\x.wAA<9223372036854775808)
 ww:((-9223372036854775808)<=x.ww/\x.ww<9223372036854775808)
 wd:(0<=x.wd/\x.wd<18446744073709551616)
 wAe:((-9223372036854775808)<=x.wAe/\x.wAe<9223372036854775808)
 wAQ:((-9223372036854775808)<=x.wAQ/\x.wAQ<9223372036854775808)
 wBA:(0<=x.wBA/\x.wBA<18446744073709551616)
theorem op3 {H:Type} {k:Nat} {ds:List D} {d:DataW H} (h:RelH Tryz.prog (k+1) 3 ds d):∃x:Int,ds=[D.int .i64 x]/\((-9223372036854775808)<=x/\x<9223372036854775808):=by obtain⟨i,rfl,_,w⟩:=kcn (q:= .i64) (show Tryz.prog.underlying 3=some (.int .i64)by kernel_rfl) h;exact⟨i,rfl,wf_i64 w⟩
structure kfq (x:wAy):Prop where
 wBU:((-9223372036854775808)<=x.wBU/\x.wBU<9223372036854775808)
 wBM:((-9223372036854775808)<=x.wBM/\x.wBM<9223372036854775808)
 wBT:((-9223372036854775808)<=x.wBT/\x.wBT<9223372036854775808)
theorem op23 {H:Type} {k:Nat} {ds:List D} {d:DataW H} (h:RelH Tryz.prog (k+2) 23 ds d):∃x:wAy,ds=(encTProofParams x).cells/\kfq x:=by obtain⟨ps,rfl,h1⟩:=k2g (L:=[(3,0),(3,1),(3,2)]) (Tryz.underlying23) qqk h;obtain⟨_,_,_,_,g0,⟨_,_,_,_,g1,⟨_,_,_,_,g2,⟨rfl,rfl⟩,rfl,rfl⟩,rfl,rfl⟩,rfl,rfl⟩:=h1;obtain⟨a0,rfl,r0⟩:=op3 (k:=k+0) g0;obtain⟨a1,rfl,r1⟩:=op3 (k:=k+0) g1;obtain⟨a2,rfl,r2⟩:=op3 (k:=k+0) g2;exact⟨⟨a0,a1,a2⟩,rfl,⟨r0,r1,r2⟩⟩
theorem op24 {H:Type} {k:Nat} {ds:List D} {d:DataW H} (h:RelH Tryz.prog (k+1) 24 ds d):∃x:Int,ds=[D.int .u64 x]/\(0<=x/\x<18446744073709551616):=by obtain⟨i,rfl,_,w⟩:=kcn (q:= .u64) (show Tryz.prog.underlying 24=some (.int .u64)by kernel_rfl) h;exact⟨i,rfl,wf_u64 w⟩
theorem op26 {H:Type} {k:Nat} {ds:List D} {d:DataW H} (h:RelH Tryz.prog (k+3) 26 ds d):∃x:wP,ds=(encTRules x).cells/\kcb x:=by obtain⟨ps,rfl,h1⟩:=k2g (L:=[(3,0),(3,1),(23,2),(24,5),(3,6),(3,7),(24,8)]) (Tryz.underlying26) qqk h;obtain⟨_,_,_,_,g0,⟨_,_,_,_,g1,⟨_,_,_,_,g2,⟨_,_,_,_,g3,⟨_,_,_,_,g4,⟨_,_,_,_,g5,⟨_,_,_,_,g6,⟨rfl,rfl⟩,rfl,rfl⟩,rfl,rfl⟩,rfl,rfl⟩,rfl,rfl⟩,rfl,rfl⟩,rfl,rfl⟩,rfl,rfl⟩:=h1;obtain⟨a0,rfl,r0⟩:=op3 (k:=k+1) g0;obtain⟨a1,rfl,r1⟩:=op3 (k:=k+1) g1;obtain⟨a2,rfl,r2⟩:=op23 (k:=k+0) g2;obtain⟨a3,rfl,r3⟩:=op24 (k:=k+1) g3;obtain⟨a4,rfl,r4⟩:=op3 (k:=k+1) g4;obtain⟨a5,rfl,r5⟩:=op3 (k:=k+1) g5;obtain⟨a6,rfl,r6⟩:=op24 (k:=k+1) g6;exact⟨⟨a0,a1,a2.wBU,a2.wBM,a2.wBT,a3,a4,a5,a6⟩,rfl,⟨r0,r1,r2.wBU,r2.wBM,r2.wBT,r3,r4,r5,r6⟩⟩
structure ke6 (x:wBW):Prop where
 wm:(0<=x.wm/\x.wm<18446744073709551616)
 wAm:(0<=x.wAm/\x.wAm<18446744073709551616)
 wAl:(0<=x.wAl/\x.wAl<18446744073709551616)
 wAF:(x.wAF.length<=9223372036854775807/\∀y∈x.wAF,(0<=y/\y<18446744073709551616))
structure k9y (x:wy):Prop where
 wM:(0<=x.wM/\x.wM<18446744073709551616)
 wE:(x.wE.length<=9223372036854775807/\∀y∈x.wE,(0<=y/\y<18446744073709551616))
 wA:(x.wA.length<=9223372036854775807/\∀y∈x.wA,ke6 y)
 wH:(0<=x.wH/\x.wH<18446744073709551616)
 wL:(0<=x.wL/\x.wL<18446744073709551616)
 Fee:(0<=x.Fee/\x.Fee<18446744073709551616)
 wQ:(0<=x.wQ/\x.wQ<18446744073709551616)
 wS:(0<=x.wS/\x.wS<18446744073709551616)
 wAc:((-9223372036854775808)<=x.wAc/\x.wAc<9223372036854775808)
 wh:(x.wh.length<=9223372036854775807/\∀y∈x.wh,(0<=y/\y<256))
structure k4j (x:wU):Prop where
 wBj:(0<=x.wBj/\x.wBj<18446744073709551616)
 wO:((-9223372036854775808)<=x.wO/\x.wO<9223372036854775808)
 wBP:(0<=x.wBP/\x.wBP<18446744073709551616)
 wBA:(0<=x.wBA/\x.wBA<18446744073709551616)
 wS:(0<=x.wS/\x.wS<18446744073709551616)
 Txs:(x.Txs.length<=9223372036854775807/\∀y∈x.Txs,k9y y)
theorem op36 {H:Type} {k:Nat} {ds:List D} {d:DataW H} (h:RelH Tryz.prog (k+2) 36 ds d):∃x:Li,ds=[D.slice 1 (x.map (D.int .u64))]/\(x.length<=9223372036854775807/\∀y∈x,(0<=y/\y<18446744073709551616)):=by
 obtain⟨l,rfl,hm,hl⟩:=k2w (D.int .u64) (fun(y:Int)=>(0<=y/\y<18446744073709551616)) 1 (show Tryz.prog.underlying 36=some (.slice 24)by kernel_rfl) qqk h (fun x y hh=>by
  obtain⟨a,e,ha⟩:=op24 (k:=k+0) hh;exact⟨a,mk_one qqk e,ha⟩)
 exact⟨l,rfl,⟨hm,hl⟩⟩
structure kto (x:wAn):Prop where
 a0:(0<=x.a0/\x.a0<18446744073709551616)
 a1:(0<=x.a1/\x.a1<18446744073709551616)
theorem op96 {H:Type} {k:Nat} {ds:List D} {d:DataW H} (h:RelH Tryz.prog (k+2) 96 ds d):∃x:wAn,ds=(encTA2 x).cells/\kto x:=by obtain⟨ps,rfl,h1⟩:=kp1 (n:=2) (e:=24) (L:=[(24,0),(24,1)]) (show Tryz.prog.underlying 96=some (.array 2 24)by kernel_rfl) qqk h;obtain⟨_,_,_,_,g0,⟨_,_,_,_,g1,⟨rfl,rfl⟩,rfl,rfl⟩,rfl,rfl⟩:=h1;obtain⟨a0,rfl,r0⟩:=op24 (k:=k+0) g0;obtain⟨a1,rfl,r1⟩:=op24 (k:=k+0) g1;exact⟨⟨a0,a1⟩,rfl,⟨r0,r1⟩⟩
theorem op98 {H:Type} {k:Nat} {ds:List D} {d:DataW H} (h:RelH Tryz.prog (k+3) 98 ds d):∃x:wBW,ds=(encTOut x).cells/\ke6 x:=by obtain⟨ps,rfl,h1⟩:=k2g (L:=[(24,0),(96,1),(36,3)]) (Tryz.underlying98) qqk h;obtain⟨_,_,_,_,g0,⟨_,_,_,_,g1,⟨_,_,_,_,g2,⟨rfl,rfl⟩,rfl,rfl⟩,rfl,rfl⟩,rfl,rfl⟩:=h1;obtain⟨a0,rfl,r0⟩:=op24 (k:=k+1) g0;obtain⟨a1,rfl,r1⟩:=op96 (k:=k+0) g1;obtain⟨a2,rfl,r2⟩:=op36 (k:=k+0) g2;exact⟨⟨a0,a1.a0,a1.a1,a2⟩,rfl,⟨r0,r1.a0,r1.a1,r2⟩⟩
theorem op60 {H:Type} {k:Nat} {ds:List D} {d:DataW H} (h:RelH Tryz.prog (k+4) 60 ds d):∃x:List wBW,ds=[D.slice 4 (x.map encTOut)]/\(x.length<=9223372036854775807/\∀y∈x,ke6 y):=by
 obtain⟨l,rfl,hm,hl⟩:=k2w encTOut (fun(y:wBW)=>ke6 y) 4 (show Tryz.prog.underlying 60=some (.slice 98)by kernel_rfl) qqk h (fun x y hh=>by
  obtain⟨a,e,ha⟩:=op98 (k:=k+0) hh;exact⟨a,mk_agg qqk e,ha⟩)
 exact⟨l,rfl,⟨hm,hl⟩⟩
theorem op5 {H:Type} {k:Nat} {ds:List D} {d:DataW H} (h:RelH Tryz.prog (k+1) 5 ds d):∃x:Int,ds=[D.int .u8 x]/\(0<=x/\x<256):=by obtain⟨i,rfl,_,w⟩:=kcn (q:= .u8) (show Tryz.prog.underlying 5=some (.int .u8)by kernel_rfl) h;exact⟨i,rfl,wf_u8 w⟩
theorem op61 {H:Type} {k:Nat} {ds:List D} {d:DataW H} (h:RelH Tryz.prog (k+2) 61 ds d):∃x:Li,ds=[D.slice 1 (x.map (D.int .u8))]/\(x.length<=9223372036854775807/\∀y∈x,(0<=y/\y<256)):=by
 obtain⟨l,rfl,hm,hl⟩:=k2w (D.int .u8) (fun(y:Int)=>(0<=y/\y<256)) 1 (show Tryz.prog.underlying 61=some (.slice 5)by kernel_rfl) qqk h (fun x y hh=>by
  obtain⟨a,e,ha⟩:=op5 (k:=k+0) hh;exact⟨a,mk_one qqk e,ha⟩)
 exact⟨l,rfl,⟨hm,hl⟩⟩
theorem op63 {H:Type} {k:Nat} {ds:List D} {d:DataW H} (h:RelH Tryz.prog (k+5) 63 ds d):∃x:wy,ds=(encTTx x).cells/\k9y x:=by obtain⟨ps,rfl,h1⟩:=k2g (L:=[(24,0),(36,1),(60,2),(24,3),(24,4),(24,5),(24,6),(24,7),(3,8),(61,9)]) (Tryz.underlying63) qqk h;obtain⟨_,_,_,_,g0,⟨_,_,_,_,g1,⟨_,_,_,_,g2,⟨_,_,_,_,g3,⟨_,_,_,_,g4,⟨_,_,_,_,g5,⟨_,_,_,_,g6,⟨_,_,_,_,g7,⟨_,_,_,_,g8,⟨_,_,_,_,g9,⟨rfl,rfl⟩,rfl,rfl⟩,rfl,rfl⟩,rfl,rfl⟩,rfl,rfl⟩,rfl,rfl⟩,rfl,rfl⟩,rfl,rfl⟩,rfl,rfl⟩,rfl,rfl⟩,rfl,rfl⟩:=h1;obtain⟨a0,rfl,r0⟩:=op24 (k:=k+3) g0;obtain⟨a1,rfl,r1⟩:=op36 (k:=k+2) g1;obtain⟨a2,rfl,r2⟩:=op60 (k:=k+0) g2;obtain⟨a3,rfl,r3⟩:=op24 (k:=k+3) g3;obtain⟨a4,rfl,r4⟩:=op24 (k:=k+3) g4;obtain⟨a5,rfl,r5⟩:=op24 (k:=k+3) g5;obtain⟨a6,rfl,r6⟩:=op24 (k:=k+3) g6;obtain⟨a7,rfl,r7⟩:=op24 (k:=k+3) g7;obtain⟨a8,rfl,r8⟩:=op3 (k:=k+3) g8;obtain⟨a9,rfl,r9⟩:=op61 (k:=k+2) g9;exact⟨⟨a0,a1,a2,a3,a4,a5,a6,a7,a8,a9⟩,rfl,⟨r0,r1,r2,r3,r4,r5,r6,r7,r8,r9⟩⟩
theorem op54 {H:Type} {k:Nat} {ds:List D} {d:DataW H} (h:RelH Tryz.prog (k+6) 54 ds d):∃x:List wy,ds=[D.slice 10 (x.map encTTx)]/\(x.length<=9223372036854775807/\∀y∈x,k9y y):=by
 obtain⟨l,rfl,hm,hl⟩:=k2w encTTx (fun(y:wy)=>k9y y) 10 (show Tryz.prog.underlying 54=some (.slice 63)by kernel_rfl) qqk h (fun x y hh=>by
  obtain⟨a,e,ha⟩:=op63 (k:=k+0) hh;exact⟨a,mk_agg qqk e,ha⟩)
 exact⟨l,rfl,⟨hm,hl⟩⟩
theorem op56 {H:Type} {k:Nat} {ds:List D} {d:DataW H} (h:RelH Tryz.prog (k+7) 56 ds d):∃x:wU,ds=(encTBlock x).cells/\k4j x:=by obtain⟨ps,rfl,h1⟩:=k2g (L:=[(24,0),(3,1),(24,2),(24,3),(24,4),(54,5)]) (Tryz.underlying56) qqk h;obtain⟨_,_,_,_,g0,⟨_,_,_,_,g1,⟨_,_,_,_,g2,⟨_,_,_,_,g3,⟨_,_,_,_,g4,⟨_,_,_,_,g5,⟨rfl,rfl⟩,rfl,rfl⟩,rfl,rfl⟩,rfl,rfl⟩,rfl,rfl⟩,rfl,rfl⟩,rfl,rfl⟩:=h1;obtain⟨a0,rfl,r0⟩:=op24 (k:=k+5) g0;obtain⟨a1,rfl,r1⟩:=op3 (k:=k+5) g1;obtain⟨a2,rfl,r2⟩:=op24 (k:=k+5) g2;obtain⟨a3,rfl,r3⟩:=op24 (k:=k+5) g3;obtain⟨a4,rfl,r4⟩:=op24 (k:=k+5) g4;obtain⟨a5,rfl,r5⟩:=op54 (k:=k+0) g5;exact⟨⟨a0,a1,a2,a3,a4,a5⟩,rfl,⟨r0,r1,r2,r3,r4,r5⟩⟩
theorem op27 {H:Type} {k:Nat} {ds:List D} {d:DataW H} (h:RelH Tryz.prog (k+8) 27 ds d):∃x:List wU,ds=[D.slice 6 (x.map encTBlock)]/\(x.length<=9223372036854775807/\∀y∈x,k4j y):=by
 obtain⟨l,rfl,hm,hl⟩:=k2w encTBlock (fun(y:wU)=>k4j y) 6 (show Tryz.prog.underlying 27=some (.slice 56)by kernel_rfl) qqk h (fun x y hh=>by
  obtain⟨a,e,ha⟩:=op56 (k:=k+0) hh;exact⟨a,mk_agg qqk e,ha⟩)
 exact⟨l,rfl,⟨hm,hl⟩⟩
theorem dt24:dataT Tryz.prog 1 24=true:=by kernel_rfl
theorem dt26:dataT Tryz.prog 3 26=true:=by kernel_rfl
theorem dt27:dataT Tryz.prog 8 27=true:=by kernel_rfl
theorem own:ownKnob Tryz.prog.godebug=none:=by kernel_rfl
theorem laid:laidOutB Tryz.prog=true:=by kernel_rfl
end Go.Proofs.YtljmmhaiaipckaaGreat
namespace Go.Md
open Go Go.Bv
theorem u64w (n:Int):IntKind.u64.wrap n=n%18446744073709551616:=IntKind.wrap_u64 n
theorem u8w (n:Int):IntKind.u8.wrap n=n%256:=IntKind.wrap_u8 n
theorem k1e (k:IntKind) (a b:Int):ishr k a b=a/((2^min b.toNat k.bits:Nat):Int):=by unfold ishr;rw[show(2:Int)^min b.toNat k.bits=((2^min b.toNat k.bits:Nat):Int)from(Int.natCast_pow 2 _).symm,Int.fdiv_eq_ediv_of_nonneg _ (qck _)]
theorem kkn (a b:Int):ishl .u64 a b=(a*((2^min b.toNat 64:Nat):Int))%18446744073709551616:=by unfold ishl;rw[u64w,show(2:Int)^min b.toNat IntKind.u64.bits=((2^min b.toNat 64:Nat):Int)by rw[show IntKind.u64.bits=64 from rfl];exact(Int.natCast_pow 2 _).symm]
theorem k2r (n:Nat) (h:n<18446744073709551616):(BitVec.ofInt 64 (n:Int)).toNat=n:=by rw[BitVec.toNat_ofInt];omega
theorem kjs (a b:Nat) (ha:a<18446744073709551616) (hb:b<18446744073709551616):iand .u64 a b=((a&&&b:Nat):Int):=by unfold iand;rw[u64w];show(((BitVec.ofInt 64 a&&&BitVec.ofInt 64 b).toNat:Nat):Int)%_=_;rw[BitVec.toNat_and,k2r a ha,k2r b hb];have:=Nat.and_le_left (n:=a) (m:=b);omega
theorem ior_nat (a b:Nat) (ha:a<18446744073709551616) (hb:b<18446744073709551616):ior .u64 a b=((a|||b:Nat):Int):=by unfold ior;rw[u64w];show(((BitVec.ofInt 64 a|||BitVec.ofInt 64 b).toNat:Nat):Int)%_=_;rw[BitVec.toNat_or,k2r a ha,k2r b hb];have:=Nat.or_lt_two_pow (x:=a) (y:=b) (n:=64) qqo qqo;omega
theorem k2f (a:Int) (h:0<=a/\a<18446744073709551616):iand .u64 a 4294967295=a%4294967296:=by obtain⟨n,rfl⟩:=qn h.1;have:=kjs n 4294967295 qqo qqo;rw[show((4294967295:Nat):Int)=4294967295 from rfl]at this;rw[this,show(4294967295:Nat)=2^32-1 from rfl,Nat.and_two_pow_sub_one_eq_mod];exact Int.natCast_emod _ _
theorem ksd (a:Int) (h:0<=a/\a<18446744073709551616):iand .u64 a 1=a%2:=by obtain⟨n,rfl⟩:=qn h.1;have:=kjs n 1 qqo qqo;rw[show((1:Nat):Int)=1 from rfl]at this;rw[this,Nat.and_one_is_mod];exact Int.natCast_emod _ _
theorem ior_add (a c k:Nat) (ha:a<2^k) (h:a+2^k*c<18446744073709551616):ior .u64 a ((2^k*c:Nat):Int)=((a+2^k*c:Nat):Int):=by rw[ior_nat _ _ qqo qqo,Nat.or_comm,<-Nat.two_pow_add_eq_or_of_lt ha,Nat.add_comm]
theorem ior_add' (a c k:Nat) (ha:a<2^k) (h:a+2^k*c<18446744073709551616):ior .u64 ((2^k*c:Nat):Int) a=((a+2^k*c:Nat):Int):=by rw[ior_nat _ _ qqo qqo,<-Nat.two_pow_add_eq_or_of_lt ha,Nat.add_comm]
theorem ishr32 (a:Int):ishr .u64 a 32=a/4294967296:=k1e _ _ _
theorem ishr16 (a:Int):ishr .u64 a 16=a/65536:=k1e _ _ _
theorem ishr8 (a:Int):ishr .u64 a 8=a/256:=k1e _ _ _
theorem ishr1 (a:Int):ishr .u64 a 1=a/2:=k1e _ _ _
theorem krq (a b:Int) (ha:0<=a/\a<18446744073709551616) (hb:0<=b/\b<18446744073709551616):
  ((a/4294967296*(b/4294967296)+((a/4294967296*(b%4294967296)+a%4294967296*(b%4294967296)/4294967296)/4294967296))+((a/4294967296*(b%4294967296)+a%4294967296*(b%4294967296)/4294967296)%4294967296+a%4294967296*(b/4294967296))/4294967296)=a*b/18446744073709551616/\
  a%4294967296*(b%4294967296)<18446744073709551616/\a/4294967296*(b%4294967296)+a%4294967296*(b%4294967296)/4294967296<18446744073709551616/\
  a%4294967296*(b/4294967296)<18446744073709551616-4294967296/\a/4294967296*(b/4294967296)<18446744065119617026/\0<=a%4294967296*(b%4294967296)/\0<=a/4294967296*(b%4294967296)/\0<=a%4294967296*(b/4294967296)/\0<=a/4294967296*(b/4294967296):=by
 have h1:∀x y:Int,0<=x->x<=4294967295->0<=y->y<=4294967295->0<=x*y/\x*y<=18446744065119617025:=by intro x y h0 h1 h2 h3;exact⟨qcs h0 h2,by have:=qdr h1 h3 h2 qqo;omega⟩
 have a1:=h1 (a%4294967296) (b%4294967296) qqo qqo qqo qqo;have a2:=h1 (a/4294967296) (b%4294967296) qqo qqo qqo qqo;have a3:=h1 (a%4294967296) (b/4294967296) qqo qqo qqo qqo;have a4:=h1 (a/4294967296) (b/4294967296) qqo qqo qqo qqo
 have e:a*b=a/4294967296*(b/4294967296)*18446744073709551616+(a/4294967296*(b%4294967296)+a%4294967296*(b/4294967296))*4294967296+a%4294967296*(b%4294967296):=by
  have ea:a=a/4294967296*4294967296+a%4294967296:=by omega
  have eb:b=b/4294967296*4294967296+b%4294967296:=by omega
  conv=>lhs;rw[ea,eb]
  generalize a/4294967296=x;generalize a%4294967296=y;generalize b/4294967296=z;generalize b%4294967296=t;grind
 generalize a%4294967296*(b%4294967296)=p0 at *
 generalize a/4294967296*(b%4294967296)=p1 at *
 generalize a%4294967296*(b/4294967296)=p2 at *
 generalize a/4294967296*(b/4294967296)=p3 at *
 generalize a*b=ab at *
 refine⟨?_,?_,?_,?_,?_,?_,?_,?_,?_⟩<;>omega
structure Half (U x a b Q:Int):Prop where
 hU:0<=U
 hUv:U<a*4294967296+b
 hx:0<=x/\x<4294967296
 ha:2147483648<=a/\a<4294967296
 hb:0<=b/\b<4294967296
 hQ:Q=(U*4294967296+x)/(a*4294967296+b)
theorem Half.q {U x a b Q:Int} (h:Half U x a b Q):0<=Q/\Q<4294967296/\Q*(a*4294967296+b)<=U*4294967296+x/\U*4294967296+x<(Q+1)*(a*4294967296+b):=by
 obtain⟨h1,h2,h3,h4,h5,h6⟩:=h;have hv:0<a*4294967296+b:=by omega
 have e:=qdz (U*4294967296+x) (a*4294967296+b);have l:=qcb (U*4294967296+x) (by omega:a*4294967296+b≠0);have r:=qbt (U*4294967296+x) hv;rw[<-h6]at e;generalize hvv:a*4294967296+b=v at *
 have e2:(Q+1)*v=Q*v+v:=by grind
 have e3:v*Q=Q*v:=by grind
 have q0:0<=Q:=by rw[h6];exact qdi qqo qqo
 have q1:Q<4294967296:=by rw[h6];exact qff hv qqo
 refine⟨q0,q1,by omega,by omega⟩
theorem Half.exit {U x a b Q q r:Int} (h:Half U x a b Q) (e:q*a+r=U) (hq:Q<=q) (h2:q*b<=r*4294967296+x):q=Q:=by
 obtain⟨q0,q1,q2,q3⟩:=h.q;have h4:=h.ha
 have:q*(a*4294967296+b)<=U*4294967296+x:=by
  have:q*(a*4294967296+b)=q*a*4294967296+q*b:=by grind
  rw[this];generalize q*a=qa at *
  omega
 have h5:q<Q+1:=by
  have hv:0<a*4294967296+b:=by have:=h.hb;omega
  exact qdd qqo (qcr hv)
 omega
theorem Half.down {U x a b Q q r:Int} (h:Half U x a b Q) (e:q*a+r=U) (h2:4294967296<=q∨r*4294967296+x<q*b):Q<=q-1:=by
 obtain⟨q0,q1,q2,q3⟩:=h.q;rcases h2 with h2|h2
 ·omega
 ·have:U*4294967296+x<q*(a*4294967296+b):=by
   have:q*(a*4294967296+b)=q*a*4294967296+q*b:=by grind
   rw[this];generalize q*a=qa at *
   omega
  have h5:Q<q:=by
   have hv:0<a*4294967296+b:=by have:=h.hb;have:=h.ha;omega
   exact qdd (a:=a*4294967296+b) qqo (qcr hv)
  omega
theorem Half.small {U x a b Q q r:Int} (h:Half U x a b Q) (e:q*a+r=U) (hr:4294967296<=r):q<4294967296:=by
 have h2:=h.hUv;have h4:=h.ha;have h5:=h.hb;have:q*a<4294967296*a:=by generalize q*a=qa at *;omega
 exact qdd this qqo
theorem Half.done {U x a b Q q r:Int} (h:Half U x a b Q) (e:q*a+r=U) (hq:Q<=q) (hr:4294967296<=r):q=Q:=by refine h.exit e hq ?_;have h1:=h.small e hr;obtain⟨q0,_⟩:=h.q;have h5:=h.hb;have h6:=h.hx;have:q*b<=4294967296*4294967296:=qdr qqo qqo qqo qqo;omega
theorem Half.rest {U x a b Q:Int} (h:Half U x a b Q):(U*4294967296+x)-Q*(a*4294967296+b)=(U*4294967296+x)%(a*4294967296+b)/\0<=(U*4294967296+x)%(a*4294967296+b)/\(U*4294967296+x)%(a*4294967296+b)<a*4294967296+b:=by
 have hv:0<a*4294967296+b:=by have:=h.hb;have:=h.ha;omega
 have e:=qdz (U*4294967296+x) (a*4294967296+b);rw[<-h.hQ]at e;have:=qeh (a*4294967296+b) Q;exact⟨by omega,qcb _ qqo,qbt _ hv⟩
theorem kof {N y p U un1 un0 Q1 R1 Q0 R0:Int} (hp:0<p) (hy:0<y) (hN:N*p=U*18446744073709551616+un1*4294967296+un0) (h1:U*4294967296+un1-Q1*(y*p)=R1) (h0:R1*4294967296+un0-Q0*(y*p)=R0)
  (hr:0<=R0/\R0<y*p):Q1*4294967296+Q0=N/y/\R0/p=N%y:=by
 have e:N*p=(Q1*4294967296+Q0)*(y*p)+R0:=by
  rw[hN];have:(Q1*4294967296+Q0)*(y*p)=Q1*(y*p)*4294967296+Q0*(y*p):=by grind
  rw[this];generalize Q1*(y*p)=a at *
  generalize Q0*(y*p)=b at *
  omega
 have e2:R0=(N-(Q1*4294967296+Q0)*y)*p:=by grind
 have h3:0<=N-(Q1*4294967296+Q0)*y:=by
  rcases Int.lt_or_le (N-(Q1*4294967296+Q0)*y) 0 with h|h
  ·exfalso;have:(N-(Q1*4294967296+Q0)*y)*p<0:=Int.mul_neg_of_neg_of_pos h hp;omega
  ·exact h
 have h4:N-(Q1*4294967296+Q0)*y<y:=by refine qdd (a:=p) ?_ (qcr hp);omega
 have e3:N=(N-(Q1*4294967296+Q0)*y)+y*(Q1*4294967296+Q0):=by grind
 constructor
 ·conv=>rhs;rw[e3]
  rw[Int.add_mul_ediv_left _ _ qqo,Int.ediv_eq_zero_of_lt h3 h4];omega
 ·rw[e2,Int.mul_ediv_cancel _ qqo];conv=>rhs;rw[e3]
  rw[Int.add_mul_emod_self_left,qdl h3 h4]
end Go.Md
namespace Go.Md
open Go Go.Bv
theorem ix_nat {α:Type} [Inhabited α] (l:List α) (i:Int) (h0:0<=i) (h1:i<(l.length:Int)):ix l i=l[i.toNat]' qqo:=by
 have:i.toNat<l.length:=by omega
 simp[ix,this]
theorem ix_mem {α:Type} [Inhabited α] (l:List α) (i:Int) (h0:0<=i) (h1:i<(l.length:Int)):ix l i∈l:=by rw[ix_nat l i h0 h1];exact qah _
theorem inc (i n:Int) (h0:0<=i) (h:i<n) (hn:n<=9223372036854775807):IntKind.i64.wrap (i+1)=i+1:=km _ qqo qqo
theorem wi (n:Int) (h0: -9223372036854775808<=n) (h:n<=9223372036854775807):IntKind.i64.wrap n=n:=km n h0 qqo
theorem wu (n:Int) (h0:0<=n) (h:n<=18446744073709551615):IntKind.u64.wrap n=n:=wrap_u64 n h0 qqo
theorem tdiv_nn (a b:Int) (h:0<=a):Int.tdiv a b=a/b:=Int.tdiv_eq_ediv_of_nonneg h
theorem tmod_nn (a b:Int) (h:0<=a):Int.tmod a b=a%b:=Int.tmod_eq_emod_of_nonneg h
theorem ke {α:Type} [Inhabited α] (l:List α) (i:Int) (h0:0<=i) (h1:i<(l.length:Int)):l.take (i+1).toNat=l.take i.toNat++[ix l i]:=by rw[ix_nat l i h0 h1,show(i+1).toNat=i.toNat+1 by omega,qr qqo]
theorem drop_ix {α:Type} [Inhabited α] (l:List α) (i:Int) (h0:0<=i) (h1:i<(l.length:Int)):l.drop i.toNat=ix l i::l.drop (i+1).toNat:=by rw[ix_nat l i h0 h1,show(i+1).toNat=i.toNat+1 by omega];exact qo qqo
theorem kb3 {α:Type} (l m:List α) (h:l.length=m.length):rowOver l m l.length=m:=by simp[rowOver,h]
theorem k6y (a m:Int):∀k:Nat,(a%m)^k%m=a^k%m
 |0=>by simp
 |k+1=>by rw[qcl,qcl,qcv,k6y a m k,qdj _ (qex _),<-qcv]
abbrev U64 (n:Int):Prop:=0<=n/\n<18446744073709551616
abbrev By (l:Li):Prop:=∀x∈l,0<=x/\x<256
abbrev Us (l:Li):Prop:=∀x∈l,0<=x/\x<18446744073709551616
def dig:Nat->Int->Li
 |0,_=>[]
 |k+1,n=>n%256::dig k (n/256)
def val:Li->Int
 |[]=>0
 |x::r=>x+256*val r
@[simp] theorem kg:∀(k:Nat) (n:Int),(dig k n).length=k
 |0,_=>rfl
 |k+1,n=>by simp[dig,kg k]
theorem k1x (k:Nat):(256:Int)^(k+1)=256*256^k:=by rw[qcl,qeh]
theorem k19 (k:Nat):(0:Int)<256^k:=Int.pow_pos qqo
theorem k4d:∀(k:Nat) (n:Int),dig (k+1) n=dig k n++[n/256^k%256]
 |0,n=>by simp[dig]
 |k+1,n=>by show n%256::dig (k+1) (n/256)=n%256::dig k (n/256)++_;rw[k4d k (n/256),k1x,qcn qqo];rfl
theorem dig_by:∀(k:Nat) (n:Int),By (dig k n)
 |0,_=>by intro x hx;cases hx
 |k+1,n=>by
  intro x hx;rcases qae.1 hx with rfl|hx
  ·omega
  ·exact dig_by k _ x hx
theorem val_dig:∀(k:Nat) (n:Int),0<=n->n<256^k->val (dig k n)=n
 |0,n,h0,h=>by simp at h;simp[dig,val];omega
 |k+1,n,h0,h=>by rw[k1x]at h;simp only[dig,val];rw[val_dig k (n/256) qqo (qff qqo (by rw[qeh];exact h))];omega
theorem k3g (k:Nat):(256:Int)^k=((2^(8*k):Nat):Int):=by rw[Nat.pow_mul,Int.natCast_pow];rfl
theorem k1y {k m:Nat} (h:k<=m):(256:Int)^k<=256^m:=by rw[k3g,k3g];exact Int.ofNat_le.2 (qcy qqo qqo)
theorem k1l:∀(l:Li),By l->0<=val l/\val l<256^l.length
 |[],_=>by simp[val]
 |x::r,h=>by have h1:=k1l r (fun y hy=>h y (by simp[hy]));have h2:=h x qqs;rw[qj,k1x];simp only[val];omega
theorem dig_val:∀(l:Li),By l->dig l.length (val l)=l
 |[],_=>rfl
 |x::r,h=>by have h1:=dig_val r (fun y hy=>h y (by simp[hy]));have h2:=h x qqs;simp only[qj,dig,val];rw[show(x+256*val r)%256=x by omega,show(x+256*val r)/256=val r by omega,h1]
theorem k76:∀(l:Li) (x:Int),val (l++[x])=val l+256^l.length*x
 |[],x=>by simp[val]
 |y::r,x=>by simp only[List.cons_append,val,k76 r x,qj,k1x];grind
theorem val8 (l:Li) (h:By l) (hl:l.length<=8):U64 (val l):=by have h1:=k1l l h;have:(256:Int)^l.length<=256^8:=k1y hl;exact⟨h1.1,by omega⟩
theorem ior_val (l:Li) (x:Int) (hl:By l) (h8:l.length<8) (hx:0<=x/\x<256):ior .u64 (val l) (ishl .u64 x (8*(l.length:Int)))=val (l++[x]):=by
 have h1:=k1l l hl;rw[k76,kkn,show min (8*(l.length:Int)).toNat 64=8*l.length by omega,<-k3g];have h2:x*256^l.length+256^l.length<=256*256^l.length:=by have:=k19 l.length;have:(x+1)*256^l.length<=256*256^l.length:=Int.mul_le_mul_of_nonneg_right qqo qqo;grind
 have h3:(256:Int)*256^l.length<=256^8:=by rw[<-k1x];exact k1y qqo
 have h4:0<=x*256^l.length:=qcs hx.1 (qcr (k19 _));rw[qdl h4 qqo];obtain⟨a,ha⟩:=qn h1.1;obtain⟨c,hc⟩:=qn hx.1;have key:=ior_add a c (8*l.length);rw[k3g]at h1 h2 h3 h4 ⊢;generalize 2^(8*l.length)=P at *
 rw[ha]at h1;rw[hc]at h2 h4;have e:(c:Int)*(P:Int)=((P*c:Nat):Int):=by rw[qeg];exact(qdu _ _).symm
 have e' :(P:Int)*(c:Int)=((P*c:Nat):Int):=(qdu _ _).symm;rw[e]at h2 h4;rw[ha,hc,e,e'];generalize P*c=R at *
 rw[key qqo qqo];exact Int.natCast_add _ _
def len4 (n:Int):Int:=if n<0∨4294967295<n then 0 else n
theorem len4_in {n:Int} (h:0<=n/\n<=4294967295):len4 n=n:=qe qqo
def encL (l:Li):Li:=dig 4 (len4 l.length)++l.flatMap (dig 8)
def encB (l:Li):Li:=dig 4 (len4 l.length)++l
theorem k1h (l:Li):(l.flatMap (dig 8)).length=8*l.length:=by
 induction l with
 |nil=>rfl
 |cons x r ih=>rw[qbb,qh,ih,kg,qj];omega
@[simp] theorem k1b (l:Li):(encL l).length=4+8*l.length:=by rw[encL,qh,k1h,kg]
@[simp] theorem k5n (l:Li):(encB l).length=4+l.length:=by simp[encB]
theorem By.append {a b:Li} (ha:By a) (hb:By b):By (a++b):=fun x hx=>(qak.1 hx).elim (ha x) (hb x)
theorem krm (l:Li):By (l.flatMap (dig 8)):=fun x hx=>by obtain⟨y,_,hy⟩:=qdq.1 hx;exact dig_by 8 y x hy
theorem encL_by (l:Li):By (encL l):=(dig_by _ _).append (krm l)
theorem encB_by {l:Li} (h:By l):By (encB l):=(dig_by _ _).append h
theorem By.take {l:Li} (h:By l) (n:Nat):By (l.take n):=fun x hx=>h x (qbk hx)
theorem By.drop {l:Li} (h:By l) (n:Nat):By (l.drop n):=fun x hx=>h x (qdf hx)
def packN:Nat->Li->Li
 |0,_=>[]
 |n+1,l=>match l with
  |[]=>[]
  |x::r=>val ((x::r).take 7)::packN n ((x::r).drop 7)
def packS (l:Li):Li:=(l.length:Int)::packN l.length l
theorem kdl:∀(n m:Nat) (l:Li),l.length<=n->l.length<=m->packN n l=packN m l
 |0,0,_,_,_=>rfl
 |0,m+1,[],_,_=>rfl
 |n+1,0,[],_,_=>rfl
 |n+1,m+1,[],_,_=>rfl
 |0,_,_::_,h,_=>by simp at h
 |n+1,0,_::_,_,h=>by simp at h
 |n+1,m+1,x::r,h,h' =>by simp only[packN];rw[kdl n m _ (by simp at h ⊢;omega) (by simp at h' ⊢;omega)]
theorem k49 (n:Nat) (l:Li) (h:l.length<=n) (h0:l≠[]):packN n l=val (l.take 7)::packN n (l.drop 7):=by
 cases l with
 |nil=>exact absurd rfl h0
 |cons x r=>
  cases n with
  |zero=>simp at h
  |succ n=>show val ((x::r).take 7)::packN n ((x::r).drop 7)=_;rw[kdl n (n+1) _ (by simp at h ⊢;omega) (by simp at h ⊢;omega)]
theorem kbz:∀(n:Nat) (l:Li),By l->Us (packN n l)
 |0,_,_=>by intro x hx;cases hx
 |n+1,[],_=>by intro x hx;cases hx
 |n+1,x::r,h=>by
  intro y hy;rcases qae.1 hy with rfl|hy
  ·exact val8 _ (h.take 7) qqm
  ·exact kbz n _ (h.drop 7) y hy
theorem k30:∀(n:Nat) (l:Li),(packN n l).length<=n
 |0,_=>by simp[packN]
 |n+1,[]=>by simp[packN]
 |n+1,x::r=>by simp only[packN,qj];have:=k30 n ((x::r).drop 7);omega
end Go.Md
namespace Go.Md
open Go Go.Bv
def len64 (x:Int):Int:=if x=0 then 0 else(Nat.log2 x.toNat+1:Nat)
theorem k5l (x:Int) (k:Nat) (h:((2^k:Nat):Int)<=x):len64 (x/((2^k:Nat):Int))+k=len64 x:=by
 obtain⟨n,rfl⟩:=qn (by have:=qbw k;omega:0<=x);have hp:0<2^k:=qbw k;have hn:2^k<=n:=by omega
 have e:((n:Int)/((2^k:Nat):Int))=((n/2^k:Nat):Int):=(Int.natCast_ediv _ _).symm;have h1:0<n/2^k:=Nat.div_pos hn hp;unfold len64;rw[e,qe qqo,qe qqo,qx,qx]
 have:Nat.log2 n=Nat.log2 (n/2^k)+k:=by
  rw[Nat.log2_eq_iff qqo];have a:=Nat.log2_self_le (n:=n/2^k) qqo;have b:=Nat.lt_log2_self (n:=n/2^k);rw[Nat.le_div_iff_mul_le hp]at a;rw[qem hp]at b;constructor
  ·rw[Nat.pow_add];exact a
  ·rw[show Nat.log2 (n/2^k)+k+1=Nat.log2 (n/2^k)+1+k by omega,Nat.pow_add];exact b
 omega
theorem kef (y:Int) (h:0<y/\y<18446744073709551616):∃s:Nat,64-len64 y=(s:Int)/\s<=63/\9223372036854775808<=y*((2^s:Nat):Int)/\y*((2^s:Nat):Int)<18446744073709551616:=by
 obtain⟨n,rfl⟩:=qn (by omega:0<=y);have l:Nat.log2 n<64:=(Nat.log2_lt qqo).2 qqo;have a:=Nat.log2_self_le (n:=n) qqo;have b:=Nat.lt_log2_self (n:=n);refine⟨63-Nat.log2 n,?_,by omega,?_,?_⟩
 ·unfold len64;rw[qe qqo,qx];omega
 ·have:2^63<=n*2^(63-Nat.log2 n):=by rw[show(63:Nat)=Nat.log2 n+(63-Nat.log2 n)by omega,Nat.pow_add,show Nat.log2 n+(63-Nat.log2 n)-Nat.log2 n=63-Nat.log2 n by omega];exact qbc _ a
  rw[<-qdu];generalize n*2^(63-Nat.log2 n)=m at *
  omega
 ·have:n*2^(63-Nat.log2 n)<2^64:=by rw[show(64:Nat)=Nat.log2 n+1+(63-Nat.log2 n)by omega,Nat.pow_add];exact Nat.mul_lt_mul_of_pos_right b (qbw _)
  rw[<-qdu];generalize n*2^(63-Nat.log2 n)=m at *
  omega
def tab8:ByteArray:=⟨#[0,1,2,2,3,3,3,3,4,4,4,4,4,4,4,4,5,5,5,5,5,5,5,5,5,5,5,5,5,5,5,5,6,6,6,6,6,6,6,6,6,6,6,6,6,6,6,6,6,6,6,6,6,6,6,6,6,6,6,6,6,6,6,6,7,7,7,7,7,7,7,7,7,7,7,7,7,7,7,7,7,7,7,7,7,7,7,7,7,7,7,7,7,7,7,7,7,7,7,7,7,7,7,7,7,7,7,7,7,7,7,7,7,7,7,7,7,7,7,7,7,7,7,7,7,7,7,7,8,8,8,8,8,8,8,8,8,8,8,8,8,8,8,8,8,8,8,8,8,8,8,8,8,8,8,8,8,8,8,8,8,8,8,8,8,8,8,8,8,8,8,8,8,8,8,8,8,8,8,8,8,8,8,8,8,8,8,8,8,8,8,8,8,8,8,8,8,8,8,8,8,8,8,8,8,8,8,8,8,8,8,8,8,8,8,8,8,8,8,8,8,8,8,8,8,8,8,8,8,8,8,8,8,8,8,8,8,8,8,8,8,8,8,8,8,8,8,8,8,8,8,8,8,8,8,8]⟩
theorem krc:∀b:Nat,b<256->Cv.byteAt tab8 (b:Int)=len64 (b:Int):=by decide +kernel
theorem kma (x:Int) (h:0<=x/\x<256):Cv.byteAt tab8 x=len64 x:=by obtain⟨n,rfl⟩:=qn h.1;exact krc n qqo
theorem kn8 (x:Int) (h:0<=x/\x<256):0<=len64 x/\len64 x<=8:=by
 rw[<-kma x h];obtain⟨n,rfl⟩:=qn h.1;have:∀b:Nat,b<256->0<=Cv.byteAt tab8 (b:Int)/\Cv.byteAt tab8 (b:Int)<=8:=by decide +kernel
 exact this n qqo
theorem kqm:tab8.size=256:=by decide +kernel
end Go.Md
namespace Go.Md
open Go Go.Bv Go.Cv Go.Md Go.RowKit
section
variable {α β:Type}
def AllI (f:α->Bool) (l:List α) (i:Int):Prop:=0<=i/\i<=l.length/\∀x∈l.take i.toNat,f x=true
theorem AllI.start {f:α->Bool} {l:List α}:AllI f l 0:=⟨by omega,by omega,by simp⟩
theorem AllI.next [Inhabited α] {f:α->Bool} {l:List α} {i:Int} (h:AllI f l i) (hh:i<l.length) (hl:(l.length:Int)<=9223372036854775807) (hf:f (ix l i)=true):
  AllI f l (IntKind.i64.wrap (i+1))/\(l.length-IntKind.i64.wrap (i+1)).toNat<(l.length-i).toNat:=by
 obtain⟨g0,g1,g2⟩:=h;rw[inc i l.length g0 hh hl];refine⟨⟨by omega,by omega,?_⟩,by omega⟩;rw[ke l i g0 hh];intro x hx;rcases qak.1 hx with hx|hx
 ·exact g2 x hx
 ·have:x=ix l i:=by simpa using hx
  rw[this];exact hf
theorem AllI.bad [Inhabited α] {f:α->Bool} {l:List α} {i:Int} (h:AllI f l i) (hh:i<l.length) (hf:f (ix l i)=false):l.all f=false:=qcm.2 ⟨ix l i,Md.ix_mem l i h.1 hh,by simp[hf]⟩
theorem AllI.done {f:α->Bool} {l:List α} {i:Int} (h:AllI f l i) (hh:¬i<l.length):l.all f=true:=by obtain⟨g0,g1,g2⟩:=h;rw[qv qqo]at g2;exact qbj.2 g2
def FoldI (f:β->α->β) (z:β) (l:List α) (i:Int) (s:β):Prop:=0<=i/\i<=l.length/\s=(l.take i.toNat).foldl f z
theorem FoldI.start {f:β->α->β} {z:β} {l:List α}:FoldI f z l 0 z:=⟨by omega,by omega,by simp⟩
theorem FoldI.next [Inhabited α] {f:β->α->β} {z:β} {l:List α} {i:Int} {s s' :β} (h:FoldI f z l i s) (hh:i<l.length) (hl:(l.length:Int)<=9223372036854775807) (hs:s' =f s (ix l i)):
  FoldI f z l (IntKind.i64.wrap (i+1)) s'/\(l.length-IntKind.i64.wrap (i+1)).toNat<(l.length-i).toNat:=by
 obtain⟨g0,g1,g2⟩:=h;rw[inc i l.length g0 hh hl];refine⟨⟨by omega,by omega,?_⟩,by omega⟩;rw[ke l i g0 hh,List.foldl_append,<-g2,hs];rfl
theorem FoldI.done {f:β->α->β} {z:β} {l:List α} {i:Int} {s:β} (h:FoldI f z l i s) (hh:¬i<l.length):s=l.foldl f z:=by
 obtain⟨g0,g1,g2⟩:=h
 rwa [qv qqo]at g2
def FlatI (f:α->List β) (z:List β) (l:List α) (i:Int) (s:List β):Prop:=0<=i/\i<=l.length/\s=z++(l.take i.toNat).flatMap f
theorem FlatI.start {f:α->List β} {z:List β} {l:List α}:FlatI f z l 0 z:=⟨by omega,by omega,by simp⟩
theorem FlatI.next [Inhabited α] {f:α->List β} {z:List β} {l:List α} {i:Int} {s s' :List β} (h:FlatI f z l i s) (hh:i<l.length) (hl:(l.length:Int)<=9223372036854775807) (hs:s' =s++f (ix l i)):
  FlatI f z l (IntKind.i64.wrap (i+1)) s'/\(l.length-IntKind.i64.wrap (i+1)).toNat<(l.length-i).toNat:=by
 obtain⟨g0,g1,g2⟩:=h;rw[inc i l.length g0 hh hl];refine⟨⟨by omega,by omega,?_⟩,by omega⟩;rw[ke l i g0 hh,qbo,hs,g2];simp
theorem FlatI.done {f:α->List β} {z:List β} {l:List α} {i:Int} {s:List β} (h:FlatI f z l i s) (hh:¬i<l.length):s=z++l.flatMap f:=by
 obtain⟨g0,g1,g2⟩:=h
 rwa [qv qqo]at g2
theorem FlatI.len {f:α->List β} {z:List β} {l:List α} {i:Int} {s:List β} (h:FlatI f z l i s) (k:Nat) (hk:∀x∈l,(f x).length<=k):s.length<=z.length+k*l.length:=by
 obtain⟨g0,g1,g2⟩:=h
 have key:∀(m:List α),(∀x∈m,(f x).length<=k)->(m.flatMap f).length<=k*m.length:=by
  intro m;induction m with
  |nil=>simp
  |cons a m ih=>intro hm;have h1:=ih (fun x hx=>hm x (by simp[hx]));have h2:=hm a qqs;rw[qbb,qh,qj,Nat.mul_add];omega
 have h1:=key (l.take i.toNat) (fun x hx=>hk x (qbk hx));have h2:k*(l.take i.toNat).length<=k*l.length:=Nat.mul_le_mul_left _ (by rw[qu];omega);rw[g2,qh];omega
def MapI (f:α->β) (l:List α) (i:Int) (s:List β):Prop:=0<=i/\i<=l.length/\s=(l.take i.toNat).map f
theorem MapI.start {f:α->β} {l:List α}:MapI f l 0 []:=⟨by omega,by omega,by simp⟩
theorem MapI.next [Inhabited α] {f:α->β} {l:List α} {i:Int} {s s' :List β} (h:MapI f l i s) (hh:i<l.length) (hl:(l.length:Int)<=9223372036854775807) (hs:s' =s++[f (ix l i)]):
  MapI f l (IntKind.i64.wrap (i+1)) s'/\(l.length-IntKind.i64.wrap (i+1)).toNat<(l.length-i).toNat:=by
 obtain⟨g0,g1,g2⟩:=h;rw[inc i l.length g0 hh hl];refine⟨⟨by omega,by omega,?_⟩,by omega⟩;rw[ke l i g0 hh,qbg,hs,g2];simp
theorem MapI.done {f:α->β} {l:List α} {i:Int} {s:List β} (h:MapI f l i s) (hh:¬i<l.length):s=l.map f:=by
 obtain⟨g0,g1,g2⟩:=h
 rwa [qv qqo]at g2
theorem MapI.len {f:α->β} {l:List α} {i:Int} {s:List β} (h:MapI f l i s):s.length=i.toNat:=by obtain⟨g0,g1,g2⟩:=h;rw[g2,qm,qu];omega
end
theorem khj {α:Type} {p:α->Bool}:∀{l:List α},mIdx p l=none↔∀x∈l,p x=false
 |[]=>by simp[mIdx]
 |x::l=>by
  cases hp:p x with
  |true=>simp[mIdx,hp]
  |false=>simp only[mIdx,hp,qce,Option.map_eq_none_iff,khj,qae,forall_eq_or_imp,true_and]
theorem k8k {α:Type} {p:α->Bool}:∀{l:List α} {j:Nat},mIdx p l=some j->∃x,l[j]? =some x/\p x=true
 |[],_,h=>by cases h
 |x::l,j,h=>by
  cases hp:p x with
  |true=>simp only[mIdx,hp,qdt,qao]at h;subst h;exact⟨x,rfl,hp⟩
  |false=>simp only[mIdx,hp,qce,qac]at h;obtain⟨i,h1,rfl⟩:=h;obtain⟨y,h2,h3⟩:=k8k h1;exact⟨y,by simpa using h2,h3⟩
@[simp] theorem ktr {α:Type} (p:α->Bool):mHas p []=false:=rfl
@[simp] theorem ktq {α β:Type} (p:α->Bool) (z:β) (vs:List β):mVal p [] vs z=z:=rfl
theorem ksj {α:Type} {p:α->Bool} {l:List α}:mHas p l=true↔∃x∈l,p x=true:=by
 unfold mHas;cases h:mIdx p l with
 |none=>simp only[Option.isSome_none,qbm,false_iff,not_exists,not_and];intro x hx;rw[khj.1 h x hx];simp
 |some j=>obtain⟨x,h1,h2⟩:=k8k h;simp only[Option.isSome_some,true_iff];exact⟨x,qbl h1,h2⟩
theorem krz {α β:Type} {p:α->Bool} {ks:List α} {vs:List β} {z:β} (h:mHas p ks=true) (hl:ks.length=vs.length):mVal p ks vs z∈vs:=by
 unfold mHas at h;unfold mVal;cases hm:mIdx p ks with
 |none=>rw[hm]at h;cases h
 |some j=>
  obtain⟨x,h1,h2⟩:=k8k hm;have hj:j<vs.length:=by have:=(qy.1 h1).1;omega
  simp only[qd hj,qbn];exact qah hj
theorem k4o (a:Int) (h:0<=a/\a<4611686018427387904):iand .i64 a 1=a%2:=by obtain⟨n,rfl⟩:=qn h.1;unfold iand;have e1:(BitVec.ofInt IntKind.i64.bits (n:Int)).toNat=n:=k2r n qqo;have e2:(BitVec.ofInt IntKind.i64.bits (1:Int)).toNat=1:=k2r 1 qqo;rw[BitVec.toNat_and,e1,e2,Nat.and_one_is_mod];rw[wi _ qqo qqo];omega
end Go.Md
namespace Go.Proofs.YtljmmhaiaipckaaGreat
open Go Go.Bv Go.Cv Go.Md Go.RowKit
open Go.IntKind (i64 u64)
def rc (r i:Int):Int:=(3*r+i+1)*11400714819323198485%18446744073709551616%18446744069414584321
def mixS (s:wAf):wAf:=⟨(s.a0+((s.a0+s.a1)%18446744069414584321+s.a2)%18446744069414584321)%18446744069414584321,(s.a1+((s.a0+s.a1)%18446744069414584321+s.a2)%18446744069414584321)%18446744069414584321,(s.a2+((s.a0+s.a1)%18446744069414584321+s.a2)%18446744069414584321)%18446744069414584321⟩
def pw (a e:Int):Int:=a^e.toNat%18446744069414584321
def rnd (s:wAf) (r:Int):wAf:=mixS ⟨pw ((s.a0+rc r 0)%18446744069414584321) 7,pw ((s.a1+rc r 1)%18446744069414584321) 7,pw ((s.a2+rc r 2)%18446744069414584321) 7⟩
def rnds:Nat->wAf->wAf
 |0,s=>s
 |n+1,s=>rnd (rnds n s) n
def permS (s:wAf):wAf:=rnds 8 s
def absL:Li->wAf->wAf
 |[],s=>s
 |[x],s=>permS ⟨(s.a0+x)%18446744069414584321,s.a1,s.a2⟩
 |x::y::r,s=>absL r (permS ⟨(s.a0+x)%18446744069414584321,(s.a1+y)%18446744069414584321,s.a2⟩)
def absI (label:Int) (l:Li):wAf:=⟨0,0,(label*65536%18446744069414584321+(l.length:Int))%18446744069414584321⟩
def absS (label:Int) (l:Li):wAf:=if l=[]then permS (absI label l)else absL l (absI label l)
def hashS (label:Int) (l:Li):Int:=(absS label l).a0
def hashB (label:Int) (b:Li):Int:=hashS label (packS b)
def S3 (s:wAf):Prop:=U64 s.a0/\U64 s.a1/\U64 s.a2
theorem S3m {a b c:Int} (ha:U64 a) (hb:U64 b) (hc:U64 c):S3 ⟨a,b,c⟩:=⟨ha,hb,hc⟩
theorem k1w (s:wAf):S3 (permS s):=by show S3 (rnd _ _);unfold rnd mixS S3;dsimp only;omega
theorem kes:∀(l:Li) (s:wAf),S3 s->S3 (absL l s)
 |[],_,h=>h
 |[_],_,_=>k1w _
 |_::_::r,_,_=>kes r _ (k1w _)
theorem kh (label:Int) (l:Li):U64 (hashS label l):=by
 unfold hashS absS;split
 ·exact(k1w _).1
 ·rename_i h
  match l,h with
  |[_],_=>exact(k1w _).1
  |_::_::r,_=>exact(kes r _ (k1w _)).1
theorem kc3 (s:wAf):(permS s).a0<18446744069414584321:=by show(rnd _ _).a0<_;unfold rnd mixS;dsimp only;omega
theorem absL_lt:∀(l:Li) (s:wAf),l≠[]->(absL l s).a0<18446744069414584321
 |[],_,h=>(h rfl).elim
 |[_],_,_=>kc3 _
 |[_,_],_,_=>kc3 _
 |_::_::x::r,s,_=>absL_lt (x::r) _ qqs
theorem k2n (label:Int) (l:Li):hashS label l<18446744069414584321:=by
 unfold hashS absS;split
 ·exact kc3 _
 ·rename_i h;exact absL_lt _ _ h
def idxI (l:Li) (v:Int):Int:=if v∈l then(l.idxOf v:Int)else -1
def vMarks (l:Li):Bool:=decide (l.length<=4)&&l.all (fun x=>decide (x<18446744069414584321))&&decide l.Nodup
def vPoint (a b:Int):Bool:=decide (a<18446744069414584321)&&(decide (b<18446744069414584321)&&(a !=0||b !=0))
def vOut (x:wBW):Bool:=decide (x.wm<18446744069414584321)&&vPoint x.wAm x.wAl&&decide (x.wAF.length=3)&&x.wAF.all (fun n=>decide (n<18446744069414584321))
def vOuts (l:List wBW):Bool:=decide (l.length<=4)&&l.all vOut
def vAmounts (t:wy):Bool:=decide (t.wH<=4294967295)&&decide (t.wL<=4294967295)&&decide (t.Fee<=4294967295)&&decide (t.wQ<18446744069414584321)&&decide (t.wS<18446744069414584321)&&
 (if 0<t.wH then t.wL==0 else !t.wE.isEmpty&&t.wS==0&&(decide (0<t.wL)||t.wQ==0))
def vRest (t:wy):Bool:=decide (t.wM<18446744069414584321)&&decide (0<=t.wAc)&&decide (t.wAc<=1048576)
def validE (t:wy):Int:=if vMarks t.wE&&vOuts t.wA&&vAmounts t&&vRest t then(if t.wh.length<=1048576 then 0 else 3)else 1
theorem k28 (t:wy):vAmounts t=true↔t.wH<=4294967295/\t.wL<=4294967295/\t.Fee<=4294967295/\t.wQ<18446744069414584321/\t.wS<18446744069414584321/\(0<t.wH->t.wL=0)/\(¬0<t.wH->t.wE≠[]/\t.wS=0/\(0<t.wL∨t.wQ=0)):=by
 unfold vAmounts;by_cases h:0<t.wH
 ·simp[h,and_assoc]
 ·simp[h,and_assoc]
structure OR (x:wBW):Prop where
 c:U64 x.wm
 p0:U64 x.wAm
 p1:U64 x.wAl
 ci:Us x.wAF
structure TR (t:wy):Prop where
 a:U64 t.wM
 m:Us t.wE
 o:∀x∈t.wA,OR x
 d:U64 t.wH
 w:U64 t.wL
 f:U64 t.Fee
 ac:U64 t.wQ
 n:U64 t.wS
 e: -9223372036854775808<=t.wAc/\t.wAc<=9223372036854775807
 p:By t.wh
def encO (x:wBW):Li:=dig 8 x.wm++dig 8 x.wAm++dig 8 x.wAl++encL x.wAF
def encT (t:wy) (p:Li):Li:=dig 8 t.wM++encL t.wE++dig 4 (len4 t.wA.length)++t.wA.flatMap encO++dig 8 t.wH++dig 8 t.wL++dig 8 t.Fee++dig 8 t.wQ++dig 8 t.wS++dig 4 (len4 t.wAc)++encB p
def bindS (t:wy):Int:=if validE t=0 then hashB 13 (encT t [])else 0
def originS (t:wy):Int:=if validE t=0 then(if t.wE=[]then hashS 5 [t.wQ,t.wS]else ix t.wE 0)else 0
def smallB (t:wy) (p:Int):Bool:=decide (t.wE.length<=10)&&decide (t.wA.length<=10)&&t.wA.all (fun x=>decide (x.wAF.length<=10))&&decide ((t.wh.length:Int)<=p)
structure TL (t:wy):Prop where
 m:t.wE.length<=4294967295
 o:t.wA.length<=4294967295
 c:∀x∈t.wA,x.wAF.length<=4294967295
 p:t.wh.length<=4294967295
structure VO (x:wBW):Prop where
 c:x.wm<18446744069414584321
 p:vPoint x.wAm x.wAl=true
 l:x.wAF.length=3
 ci:∀n∈x.wAF,n<18446744069414584321
theorem k7b (x:wBW):vOut x=true↔VO x:=by unfold vOut;simp only[qg,qai,qbj];exact⟨fun h=>⟨h.1.1.1,h.1.1.2,h.1.2,h.2⟩,fun h=>⟨⟨⟨h.c,h.p⟩,h.l⟩,h.ci⟩⟩
structure VT (t:wy):Prop where
 ml:t.wE.length<=4
 m:∀x∈t.wE,x<18446744069414584321
 mn:t.wE.Nodup
 ol:t.wA.length<=4
 o:∀x∈t.wA,VO x
 am:vAmounts t=true
 re:vRest t=true
 pl:t.wh.length<=1048576
theorem kz (t:wy):validE t=0↔VT t:=by
 unfold validE;constructor
 ·intro h;split at h
  ·rename_i h1;split at h
   ·rename_i h2;simp only[qg,vMarks,vOuts,qai,qbj]at h1;exact⟨h1.1.1.1.1.1,h1.1.1.1.1.2,h1.1.1.1.2,h1.1.1.2.1,fun x hx=>(k7b x).1 (h1.1.1.2.2 x hx),h1.1.2,h1.2,h2⟩
   ·simp at h
  ·simp at h
 ·intro h;have:(vMarks t.wE&&vOuts t.wA&&vAmounts t&&vRest t)=true:=by simp only[qg,vMarks,vOuts,qai,qbj];exact⟨⟨⟨⟨⟨h.ml,h.m⟩,h.mn⟩,h.ol,fun x hx=>(k7b x).2 (h.o x hx)⟩,h.am⟩,h.re⟩
  rw[qf this,qf h.pl]
theorem VT.tl {t:wy} (h:VT t):TL t:=⟨by have:=h.ml;omega,by have:=h.ol;omega,fun x hx=>by have:=(h.o x hx).l;omega,by have:=h.pl;omega⟩
theorem encO_by {x:wBW}:By (encO x):=((((dig_by _ _).append (dig_by _ _)).append (dig_by _ _)).append (encL_by _))
theorem ksa (l:List wBW):By (l.flatMap encO):=fun x hx=>by obtain⟨y,_,hy⟩:=qdq.1 hx;exact encO_by x hy
theorem encT_by {t:wy} {p:Li} (h:By p):By (encT t p):=((((((((((dig_by _ _).append (encL_by _)).append (dig_by _ _)).append (ksa _)).append (dig_by _ _)).append (dig_by _ _)).append (dig_by _ _)).append (dig_by _ _)).append (dig_by _ _)).append (dig_by _ _)).append (encB_by h)
theorem knc (x:wBW):(encO x).length=28+8*x.wAF.length:=by simp[encO];omega
theorem k25:∀(l:List wBW) (k:Nat),(∀x∈l,x.wAF.length<=k)->(l.flatMap encO).length<=(28+8*k)*l.length
 |[],_,_=>by simp
 |x::r,k,h=>by have h1:=k25 r k (fun y hy=>h y (by simp[hy]));have h2:=h x qqs;rw[qbb,qh,knc,qj,Nat.mul_add];omega
theorem ko2 (t:wy) (p:Li):(encT t p).length=64+8*t.wE.length+(t.wA.flatMap encO).length+p.length:=by simp only[encT,qh,kg,k1b,k5n];omega
theorem VT.enc_len {t:wy} (h:VT t) (p:Li):(encT t p).length<=304+p.length:=by have h1:=h.ml;have h2:=h.ol;have h3:=k25 t.wA 3 (fun x hx=>by have:=(h.o x hx).l;omega);rw[ko2];omega
theorem kb4 {t:wy} (h:TR t):U64 (originS t):=by
 unfold originS;split
 ·split
  ·exact kh _ _
  ·rename_i hne;exact h.m _ (ix_mem _ 0 qqo (by have:=qdb.2 hne;omega))
 ·omega
theorem krs {t:wy} {p:Int} (h:smallB t p=true) (hp:p<=1048576:=by omega):TL t:=by unfold smallB at h;simp only[qg,qai,qbj]at h;exact⟨by omega,by omega,fun x hx=>by have:=h.1.2 x hx;omega,by omega⟩
structure RD where
 n:Int
 ok:Bool
 pos:Int
 fail:Bool
structure RL where
 l:Li
 pos:Int
 fail:Bool
structure RdOk (b:Li) (pos:Int):Prop where
 by_:By b
 len:b.length<=137438953472
 pos0:0<=pos
 pos1:pos<=b.length
def rdD (b:Li) (pos:Int) (f:Bool) (size:Int):RD:=if f=true∨(b.length:Int)-pos<size then⟨0,false,pos,true⟩else⟨val ((b.drop pos.toNat).take size.toNat),true,pos+size,false⟩
def rdU (b:Li) (pos:Int) (f:Bool) (m:Int):RD:=if(rdD b pos f 8).ok=false∨m<(rdD b pos f 8).n then⟨0,false,(rdD b pos f 8).pos,true⟩else rdD b pos f 8
def rdI (b:Li) (pos:Int) (f:Bool) (m:Int):RD:=if(rdD b pos f 4).ok=false∨m<(rdD b pos f 4).n then⟨0,false,(rdD b pos f 4).pos,true⟩else rdD b pos f 4
def rdLs (b:Li) (p:Int):Nat->Int->Li->RL
 |0,pos,acc=>⟨acc,pos,false⟩
 |k+1,pos,acc=>if p<=val ((b.drop pos.toNat).take 8)then⟨[],pos+8,true⟩else rdLs b p k (pos+8) (acc++[val ((b.drop pos.toNat).take 8)])
def rdL (b:Li) (pos:Int) (f:Bool) (m p:Int):RL:=if(rdI b pos f m).fail=true∨((b.length:Int)-(rdI b pos f m).pos)/8<(rdI b pos f m).n then⟨[],(rdI b pos f m).pos,true⟩else rdLs b p (rdI b pos f m).n.toNat (rdI b pos f m).pos []
def rdB (b:Li) (pos:Int) (f:Bool) (m:Int):RL:=if(rdI b pos f m).fail=true∨(b.length:Int)-(rdI b pos f m).pos<(rdI b pos f m).n then⟨[],(rdI b pos f m).pos,true⟩else⟨(b.take ((rdI b pos f m).pos+(rdI b pos f m).n).toNat).drop (rdI b pos f m).pos.toNat,(rdI b pos f m).pos+(rdI b pos f m).n,false⟩
theorem k9t {b:Li} {pos p:Int} {f:Bool} (h:RdOk b pos) (h0:1<=p) (h1:p<=8):0<=(rdD b pos f p).n/\(rdD b pos f p).n<256^p.toNat:=by
 unfold rdD;split
 ·exact⟨qcc 0,k19 _⟩
 ·rename_i hn;have hb:=k1l _ ((h.by_.drop pos.toNat).take p.toNat);rw[qu,qan,qca (by have:=h.pos0;omega)]at hb;exact hb
theorem rdD_ok {b:Li} {pos p:Int} {f:Bool} (h:RdOk b pos) (h0:1<=p):RdOk b (rdD b pos f p).pos:=by
 unfold rdD;have:=h.pos0;split
 ·exact h
 ·rename_i hn;exact⟨h.by_,h.len,by show 0<=pos+p;omega,by show pos+p<=_;omega⟩
theorem rdU_ok {b:Li} {pos m:Int} {f:Bool} (h:RdOk b pos):RdOk b (rdU b pos f m).pos:=by
 unfold rdU;split
 ·exact rdD_ok h qqo
 ·exact rdD_ok h qqo
theorem rdI_ok {b:Li} {pos m:Int} {f:Bool} (h:RdOk b pos):RdOk b (rdI b pos f m).pos:=by
 unfold rdI;split
 ·exact rdD_ok h qqo
 ·exact rdD_ok h qqo
theorem rdI_n {b:Li} {pos m:Int} {f:Bool} (h:RdOk b pos) (hm:0<=m):0<=(rdI b pos f m).n/\(rdI b pos f m).n<=m:=by
 have:=k9t h (p:=4) (f:=f) qqo qqo;unfold rdI;split
 ·exact⟨qcc 0,hm⟩
 ·rename_i hn;exact⟨this.1,by omega⟩
theorem rdU_n {b:Li} {pos m:Int} {f:Bool} (h:RdOk b pos):U64 (rdU b pos f m).n:=by
 have:=k9t h (p:=8) (f:=f) qqo qqo;unfold rdU;split
 ·exact⟨qcc 0,(by decide:(0:Int)<18446744073709551616)⟩
 ·exact⟨this.1,this.2⟩
theorem cut_dig {b:Li} (h:By b) (k:Nat) (hk:k<=b.length):b=dig k (val (b.take k))++b.drop k:=by have:=dig_val (b.take k) (h.take k);rw[qu,qca hk]at this;rw[this,qbh]
theorem put_dig {b r:Li} {k:Nat} {n:Int} (h:b=dig k n++r) (h0:0<=n) (h1:n<256^k):val (b.take k)=n/\b.drop k=r/\k<=b.length:=by subst h;rw[qfo (kg k n),List.drop_left' (kg k n),qh,kg];exact⟨val_dig k n h0 h1,rfl,by omega⟩
def nums:Nat->Li->Li
 |0,_=>[]
 |k+1,b=>val (b.take 8)::nums k (b.drop 8)
@[simp] theorem k2i:∀(k:Nat) (b:Li),(nums k b).length=k
 |0,_=>rfl
 |k+1,b=>by simp[nums,k2i k]
theorem nums_us:∀(k:Nat) {b:Li},By b->Us (nums k b)
 |0,_,_=>by intro x hx;cases hx
 |k+1,b,h=>by
  intro x hx;rcases qae.1 hx with rfl|hx
  ·exact val8 _ (h.take 8) (by rw[qu];omega)
  ·exact nums_us k (h.drop 8) x hx
theorem kbw:∀(k:Nat) {b:Li},By b->8*k<=b.length->b=(nums k b).flatMap (dig 8)++b.drop (8*k)
 |0,_,_,_=>rfl
 |k+1,b,h,hk=>by have h1:=cut_dig h 8 qqo;have h2:=kbw k (h.drop 8) (by rw[qan];omega);rw[qcx,show 8+8*k=8*(k+1)by omega]at h2;simp only[nums,qbb,qw];rw[<-h2];exact h1
theorem kcw:∀(l:Li) {b r:Li},b=l.flatMap (dig 8)++r->Us l->nums l.length b=l/\b.drop (8*l.length)=r/\8*l.length<=b.length
 |[],b,r,h,_=>⟨rfl,by simpa using h,by simp⟩
 |x::l,b,r,h,hu=>by
  rw[qbb,qw]at h;have hx:=hu x qqs;obtain⟨h1,h2,h3⟩:=put_dig h hx.1 qqo;obtain⟨g1,g2,g3⟩:=kcw l h2 (fun y hy=>hu y (by simp[hy]));rw[qan]at g3;refine⟨?_,?_,?_⟩
  ·simp only[qj,nums,h1,g1]
  ·rw[qcx,show 8+8*l.length=8*(l.length+1)by omega]at g2;simpa using g2
  ·rw[qj];omega
section
variable {b:Li} {pos m p:Int} {f:Bool}
theorem k3d (h0:0<=pos) (k:Nat):b.drop (pos+(k:Int)).toNat=(b.drop pos.toNat).drop k:=by rw[qcx,show(pos+(k:Int)).toNat=pos.toNat+k by omega]
theorem rdD_snd (h:RdOk b pos) (k:Nat) (hf:(rdD b pos f k).ok=true):f=false/\b.drop pos.toNat=dig k (rdD b pos f k).n++b.drop (rdD b pos f k).pos.toNat/\(rdD b pos f k).fail=false:=by
 unfold rdD at *
 split at hf
 ·cases hf
 ·rename_i hn;rw[qe hn];have h0:=h.pos0;refine⟨?_,?_,rfl⟩
  ·cases f
   ·rfl
   ·exact absurd (.inl rfl) hn
  ·show b.drop pos.toNat=dig k (val ((b.drop pos.toNat).take (k:Int).toNat))++b.drop (pos+(k:Int)).toNat;rw[k3d h0,qx];refine cut_dig (h.by_.drop _) k ?_;have:¬(b.length:Int)-pos<k:=fun h=>hn (.inr h);rw[qan];omega
theorem rdD_cpl (h:RdOk b pos) (k:Nat) {n:Int} {r:Li} (hf:f=false) (hr:b.drop pos.toNat=dig k n++r) (h0:0<=n) (h1:n<256^k):rdD b pos f k=⟨n,true,pos+k,false⟩/\b.drop (pos+(k:Int)).toNat=r:=by
 obtain⟨g1,g2,g3⟩:=put_dig hr h0 h1;rw[qan]at g3;have hp:=h.pos1;have hp0:=h.pos0;refine⟨?_,by rw[k3d hp0];exact g2⟩;unfold rdD;have hk:¬(f=true∨(b.length:Int)-pos<k):=by rw[hf];simp only[qbm,false_or];rcases Nat.eq_zero_or_pos k with h|h<;>omega
 rw[qe hk,qx,g1]
theorem rdU_snd (h:RdOk b pos) (hf:(rdU b pos f m).fail=false):f=false/\b.drop pos.toNat=dig 8 (rdU b pos f m).n++b.drop (rdU b pos f m).pos.toNat/\(rdU b pos f m).n<=m:=by
 unfold rdU at *
 split at hf
 ·cases hf
 ·rename_i hn;rw[qe hn]
  have ho:(rdD b pos f 8).ok=true:=by
   cases hc:(rdD b pos f 8).ok
   ·exact absurd (.inl hc) hn
   ·rfl
  obtain⟨g1,g2,g3⟩:=rdD_snd h 8 ho;exact⟨g1,g2,by have:¬m<(rdD b pos f 8).n:=fun h=>hn (.inr h);omega⟩
theorem rdU_cpl (h:RdOk b pos) {n:Int} {r:Li} (hf:f=false) (hr:b.drop pos.toNat=dig 8 n++r) (hn:U64 n) (hm:n<=m):(rdU b pos f m).fail=false/\(rdU b pos f m).n=n/\b.drop (rdU b pos f m).pos.toNat=r:=by
 obtain⟨g1,g2⟩:=rdD_cpl h 8 hf hr hn.1 hn.2;have e:rdU b pos f m=⟨n,true,pos+8,false⟩:=by unfold rdU;have g1:rdD b pos f 8=⟨n,true,pos+8,false⟩:=g1;rw[g1];exact qe qqm
 rw[e];exact⟨rfl,rfl,g2⟩
theorem rdI_snd (h:RdOk b pos) (hf:(rdI b pos f m).fail=false):f=false/\b.drop pos.toNat=dig 4 (rdI b pos f m).n++b.drop (rdI b pos f m).pos.toNat/\(rdI b pos f m).n<=m:=by
 unfold rdI at *
 split at hf
 ·cases hf
 ·rename_i hn;rw[qe hn]
  have ho:(rdD b pos f 4).ok=true:=by
   cases hc:(rdD b pos f 4).ok
   ·exact absurd (.inl hc) hn
   ·rfl
  obtain⟨g1,g2,g3⟩:=rdD_snd h 4 ho;exact⟨g1,g2,by have:¬m<(rdD b pos f 4).n:=fun h=>hn (.inr h);omega⟩
theorem rdI_cpl (h:RdOk b pos) {n:Int} {r:Li} (hf:f=false) (hr:b.drop pos.toNat=dig 4 n++r) (h0:0<=n) (h1:n<4294967296) (hm:n<=m):(rdI b pos f m).fail=false/\(rdI b pos f m).n=n/\b.drop (rdI b pos f m).pos.toNat=r:=by
 obtain⟨g1,g2⟩:=rdD_cpl h 4 hf hr h0 h1;have e:rdI b pos f m=⟨n,true,pos+4,false⟩:=by unfold rdI;have g1:rdD b pos f 4=⟨n,true,pos+4,false⟩:=g1;rw[g1];exact qe qqm
 rw[e];exact⟨rfl,rfl,g2⟩
theorem rdLs_ok:∀(k:Nat) {pos:Int} {acc:Li},RdOk b pos->pos+8*k<=b.length->RdOk b (rdLs b p k pos acc).pos
 |0,pos,acc,h,_=>h
 |k+1,pos,acc,h,hk=>by
  have h2:RdOk b (pos+8):=⟨h.by_,h.len,by have:=h.pos0;omega,by omega⟩;unfold rdLs;split
  ·exact h2
  ·exact rdLs_ok k h2 qqo
theorem kc6:∀(k:Nat) {pos:Int} {acc:Li},RdOk b pos->pos+8*k<=b.length->(rdLs b p k pos acc).fail=false->
  (rdLs b p k pos acc).l=acc++nums k (b.drop pos.toNat)/\(∀x∈nums k (b.drop pos.toNat),x<p)/\(rdLs b p k pos acc).pos=pos+8*k
 |0,pos,acc,h,_,_=>⟨by simp[rdLs,nums],by simp[nums],by simp[rdLs]⟩
 |k+1,pos,acc,h,hk,hf=>by
  have h2:RdOk b (pos+8):=⟨h.by_,h.len,by have:=h.pos0;omega,by omega⟩;have hd:b.drop (pos+8).toNat=(b.drop pos.toNat).drop 8:=k3d h.pos0 8;unfold rdLs at *
  split at hf
  ·cases hf
  ·rename_i hn;rw[qe hn];obtain⟨g1,g2,g3⟩:=kc6 k h2 qqo hf;rw[hd]at g1 g2;refine⟨?_,?_,?_⟩
   ·rw[g1,qw];rfl
   ·intro x hx;rcases qae.1 hx with rfl|hx
    ·omega
    ·exact g2 x hx
   ·rw[g3];omega
theorem km1:∀(k:Nat) {pos:Int} {acc:Li},RdOk b pos->pos+8*k<=b.length->(∀x∈nums k (b.drop pos.toNat),x<p)->(rdLs b p k pos acc).fail=false
 |0,pos,acc,h,_,_=>rfl
 |k+1,pos,acc,h,hk,hf=>by have h2:RdOk b (pos+8):=⟨h.by_,h.len,by have:=h.pos0;omega,by omega⟩;have hd:b.drop (pos+8).toNat=(b.drop pos.toNat).drop 8:=k3d h.pos0 8;unfold rdLs;have h3:=hf (val ((b.drop pos.toNat).take 8)) (by simp[nums]);rw[qe qqo];exact km1 k h2 qqo (by rw[hd];exact fun x hx=>hf x (qbz _ hx))
theorem rdL_ok (h:RdOk b pos) (hm:0<=m):RdOk b (rdL b pos f m p).pos:=by
 unfold rdL;split
 ·exact rdI_ok h
 ·rename_i hn;have:=rdI_n h (f:=f) hm;have:¬((b.length:Int)-(rdI b pos f m).pos)/8<(rdI b pos f m).n:=fun h=>hn (.inr h);exact rdLs_ok _ (rdI_ok h) qqo
theorem rdL_snd (h:RdOk b pos) (hm:0<=m/\m<=4294967295) (hf:(rdL b pos f m p).fail=false):f=false/\b.drop pos.toNat=encL (rdL b pos f m p).l++b.drop (rdL b pos f m p).pos.toNat/\((rdL b pos f m p).l.length:Int)<=m/\(∀x∈(rdL b pos f m p).l,x<p)/\Us (rdL b pos f m p).l:=by
 unfold rdL at *
 split at hf
 ·cases hf
 ·rename_i hn;rw[qe hn]
  have hI:(rdI b pos f m).fail=false:=by
   cases hc:(rdI b pos f m).fail
   ·rfl
   ·exact absurd (.inl hc) hn
  have hI2:=rdI_n h (f:=f) hm.1;have hok:=rdI_ok h (f:=f) (m:=m);obtain⟨g1,g2,g3⟩:=rdI_snd h hI;have hle:¬((b.length:Int)-(rdI b pos f m).pos)/8<(rdI b pos f m).n:=fun h=>hn (.inr h);obtain⟨k1,k2,k3⟩:=kc6 _ hok qqo hf;rw[qci]at k1;rw[k1,k3];have hp0:=hok.pos0;have hp1:=hok.pos1;refine⟨g1,?_,by rw[k2i];omega,k2,nums_us _ (h.by_.drop _)⟩;rw[g2];unfold encL;rw[k2i,show(((rdI b pos f m).n.toNat:Nat):Int)=(rdI b pos f m).n by omega,len4_in qqo,qw];congr 1;have:=kbw (rdI b pos f m).n.toNat (h.by_.drop (rdI b pos f m).pos.toNat) (by rw[qan];omega);have e:=k3d (b:=b) hp0 (8*(rdI b pos f m).n.toNat);rw[show((rdI b pos f m).pos+((8*(rdI b pos f m).n.toNat:Nat):Int))=(rdI b pos f m).pos+8*((rdI b pos f m).n.toNat:Int)by omega,show(((rdI b pos f m).n.toNat:Nat):Int)=(rdI b pos f m).n by omega]at e;rw[e];exact this
theorem rdL_cpl (h:RdOk b pos) (hm:0<=m/\m<=4294967295) {l r:Li} (hf:f=false) (hr:b.drop pos.toNat=encL l++r) (hl:(l.length:Int)<=m) (hp:∀x∈l,x<p) (hu:Us l):(rdL b pos f m p).fail=false/\(rdL b pos f m p).l=l/\b.drop (rdL b pos f m p).pos.toNat=r:=by
 unfold encL at hr;rw[len4_in qqo,qw]at hr;have hok:=rdI_ok h (f:=f) (m:=m);obtain⟨g1,g2,g3⟩:=rdI_cpl h hf hr qqo qqo hl;obtain⟨k1,k2,k3⟩:=kcw l g3 hu;rw[qan]at k3;have hp0:=hok.pos0;have hp1:=hok.pos1;have hn:¬((rdI b pos f m).fail=true∨((b.length:Int)-(rdI b pos f m).pos)/8<(rdI b pos f m).n):=by rw[g1,g2];simp only[qbm,false_or];omega
 unfold rdL;rw[qe hn,g2,qx];have hc:=km1 (p:=p) (acc:=[]) l.length hok qqo (by rw[k1];exact hp);obtain⟨q1,q2,q3⟩:=kc6 _ hok qqo hc;refine⟨hc,by rw[q1,k1];rfl,?_⟩;rw[q3,show(rdI b pos f m).pos+8*(l.length:Int)=(rdI b pos f m).pos+((8*l.length:Nat):Int)by omega,k3d hp0];exact k2
end
open Classical in
structure TD (t:wy):Prop where
 r:TR t
 l:TL t
 o:t.wA.length<=1048576
 c:∀x∈t.wA,x.wAF.length<=1024
def sameT (a b:wy):Bool:=decide (a.wA.length=b.wA.length)&&a.wAc==b.wAc&&decide (a.wA.map (·.wAF.length)=b.wA.map (·.wAF.length))&&decide (encT a a.wh=encT b b.wh)
@[simp] theorem ktp (a:wy):sameT a a=true:=by simp[sameT]
def rhoS (o i:Int):Int:=if o<18446744069414584321 then hashS 4 [o,i]else 0
def stmtS (t:wy) (depth:Int):wAd:=if validE t=0 then⟨depth,t.wM,t.wE,t.wA.map (·.wm),(List.range t.wA.length).map (fun i:Nat=>rhoS (originS t) (i:Int)),t.wH,t.wL,t.Fee,t.wQ,bindS t⟩else⟨0,0,[],[],[],0,0,0,0,0⟩
structure RB where
 l:Li
 b:Li
 f:Bool
structure RN where
 n:Int
 b:Li
 f:Bool
def tkB (b:Li) (f:Bool) (k:Int):RB:=if f=true∨(b.length:Int)<k then⟨[],b,true⟩else⟨b.take k.toNat,b.drop k.toNat,false⟩
def nB (k:Int) (b:Li) (f:Bool) (m:Int):RN:=if(tkB b f k).f=true∨m<val (tkB b f k).l then⟨0,(tkB b f k).b,true⟩else⟨val (tkB b f k).l,(tkB b f k).b,false⟩
section
variable {b r:Li} {f:Bool} {k m n:Int}
theorem tkB_l (h:By b):By (tkB b f k).l:=by
 unfold tkB;split
 ·intro x hx;cases hx
 ·exact h.take _
theorem tkB_b (h:By b):By (tkB b f k).b/\(tkB b f k).b.length<=b.length:=by
 unfold tkB;split
 ·exact⟨h,qab _⟩
 ·exact⟨h.drop _,by show(b.drop _).length<=_;rw[qan];omega⟩
theorem tkB_len:((tkB b f k).l.length:Int)<=max k 0:=by
 unfold tkB;split
 ·simp;omega
 ·show((b.take _).length:Int)<=_;rw[qu];omega
theorem tkB_snd (hk:0<=k) (h:(tkB b f k).f=false):f=false/\b=(tkB b f k).l++(tkB b f k).b/\((tkB b f k).l.length:Int)=k:=by
 unfold tkB at *
 split at h
 ·cases h
 ·rename_i hn;rw[qe hn];refine⟨?_,(qbh _ _).symm,?_⟩
  ·cases f
   ·rfl
   ·exact absurd (.inl rfl) hn
  ·show((b.take k.toNat).length:Int)=k;have:¬(b.length:Int)<k:=fun h=>hn (.inr h);rw[qu];omega
theorem tkB_cpl {l:Li} (hf:f=false) (h:b=l++r) (hl:(l.length:Int)=k):tkB b f k=⟨l,r,false⟩:=by subst h;unfold tkB;rw[qe (by rw[hf,qh];simp;omega),show k.toNat=l.length by omega,qfo rfl,List.drop_left' rfl]
theorem nB_b (h:By b):By (nB k b f m).b/\(nB k b f m).b.length<=b.length:=by unfold nB;split<;>exact tkB_b h
theorem nB_n (h:By b) (hk:0<=k):0<=(nB k b f m).n/\(nB k b f m).n<256^k.toNat:=by
 unfold nB;split
 ·exact⟨qcc 0,k19 _⟩
 ·have h1:=k1l _ (tkB_l (f:=f) (k:=k) h);have h2:=tkB_len (b:=b) (f:=f) (k:=k);have h3:(256:Int)^(tkB b f k).l.length<=256^k.toNat:=k1y qqo;exact⟨h1.1,Int.lt_of_lt_of_le h1.2 h3⟩
theorem nB_snd (h:By b) (hk:0<=k) (hf:(nB k b f m).f=false):f=false/\b=dig k.toNat (nB k b f m).n++(nB k b f m).b/\(nB k b f m).n<=m:=by
 unfold nB at *
 split at hf
 ·cases hf
 ·rename_i hn;rw[qe hn]
  have ht:(tkB b f k).f=false:=by
   cases hc:(tkB b f k).f
   ·rfl
   ·exact absurd (.inl hc) hn
  obtain⟨h1,h2,h3⟩:=tkB_snd hk ht;refine⟨h1,?_,by show val _<=m;have:¬m<val (tkB b f k).l:=fun h=>hn (.inr h);omega⟩;show b=dig k.toNat (val (tkB b f k).l)++(tkB b f k).b;have:=dig_val (tkB b f k).l (tkB_l h);rw[show(tkB b f k).l.length=k.toNat by omega]at this;rw[this];exact h2
theorem nB_cpl (hk:0<=k) (hf:f=false) (h:b=dig k.toNat n++r) (h0:0<=n) (h1:n<256^k.toNat) (hm:n<=m):nB k b f m=⟨n,r,false⟩:=by unfold nB;rw[tkB_cpl hf h (by rw[kg];omega)];show(if false=true∨m<val (dig k.toNat n)then _ else _)=_;rw[val_dig k.toNat n h0 h1,qe qqm]
end
theorem k9j:∀(q n:Nat) (l m:Li),l.length=7*q->l.length+m.length<=n->packN n (l++m)=packN n l++packN n m
 |0,n,l,m,h,_=>by
  have:l=[]:=qav qqo;subst this;have:packN n []=[]:=by cases n<;>rfl
  rw[this];rfl
 |q+1,n,l,m,h,hn=>by
  have hl:l≠[]:=by rintro rfl;simp at h
  have hlm:l++m≠[]:=by simp[hl]
  rw[k49 n l qqo hl,k49 n (l++m) qqm hlm];have e1:(l++m).take 7=l.take 7:=by rw[List.take_append_of_le_length qqo]
  have e2:(l++m).drop 7=l.drop 7++m:=by rw[List.drop_append_of_le_length qqo]
  rw[e1,e2,k9j q n (l.drop 7) m qqm qqm];rfl
theorem kgn {n:Nat} {l:Li} (h0:l≠[]) (h7:l.length<=7) (hn:l.length<=n):packN n l=[val l]:=by rw[k49 n l hn h0,qv h7,qam h7];cases n<;>rfl
def pkF (p:Li) (i:Nat):Li:=packN p.length (p.take (7*(i/7)))
def pkV (p:Li) (i:Nat):Int:=val ((p.drop (7*(i/7))).take (i%7))
def pkI (p:Li) (i:Nat):Li:=if i%7=0 then pkF p i else pkF p i++[pkV p i]
theorem kjy {p:Li} {i:Nat} (h:i<p.length) (hr:(i+1)%7≠0):pkF p (i+1)=pkF p i/\pkV p (i+1)=pkV p i+256^(i%7)*p[i]:=by
 have e1:(i+1)/7=i/7:=by omega
 have e2:(i+1)%7=i%7+1:=by omega
 refine⟨by unfold pkF;rw[e1],?_⟩;unfold pkV;rw[e1,e2];have hlt:i%7<(p.drop (7*(i/7))).length:=by rw[qan];omega
 have e4:(p.drop (7*(i/7)))[i%7]=p[i]:=by rw[List.getElem_drop];congr 1;omega
 rw[qr hlt,k76,qu,qca qqo,e4]
theorem kt0 {p:Li} {i:Nat} (h:i<p.length) (hr:(i+1)%7=0):pkF p (i+1)=pkF p i++[pkV p i+256^(i%7)*p[i]]:=by
 have e1:(i+1)/7=i/7+1:=by omega
 have e2:i%7=6:=by omega
 unfold pkF pkV;rw[e1,show 7*(i/7+1)=7*(i/7)+7 by omega,List.take_add];have hl1:(p.take (7*(i/7))).length=7*(i/7):=by rw[qu];omega
 have hl2:((p.drop (7*(i/7))).take 7).length=7:=by rw[qu,qan];omega
 rw[k9j (i/7) p.length _ _ hl1 (by rw[hl1,hl2];omega),kgn (l:=(p.drop (7*(i/7))).take 7) (by intro h;rw[h]at hl2;simp at hl2) qqo qqo];have hlt:6<(p.drop (7*(i/7))).length:=by rw[qan];omega
 have e4:(p.drop (7*(i/7)))[6]=p[i]:=by rw[List.getElem_drop];congr 1;omega
 rw[qr hlt,k76,qu,qca qqo,e4,e2]
theorem krd {p:Li} {i:Nat} (h:i<p.length):pkI p (i+1)=pkF p i++[(if i%7=0 then 0 else pkV p i)+256^(i%7)*p[i]]:=by
 have hz:i%7=0->pkV p i=0:=fun h0=>by unfold pkV;rw[h0];rfl
 have e:(if i%7=0 then(0:Int)else pkV p i)=pkV p i:=by split<;>simp_all
 rw[e];unfold pkI;by_cases hr:(i+1)%7=0
 ·rw[qf hr,kt0 h hr]
 ·rw[qe hr,(kjy h hr).1,(kjy h hr).2]
theorem krb (p:Li):pkI p 0=[]:=by show packN p.length []=[];cases p.length<;>rfl
theorem ktd (p:Li):pkI p p.length=packN p.length p:=by
 unfold pkI;split
 ·rename_i h;unfold pkF;rw[qv qqo]
 ·rename_i h;unfold pkF pkV;have hl1:(p.take (7*(p.length/7))).length=7*(p.length/7):=by rw[qu];omega
  have hl2:(p.drop (7*(p.length/7))).length=p.length%7:=by rw[qan];omega
  have h1:=k9j (p.length/7) p.length (p.take (7*(p.length/7))) (p.drop (7*(p.length/7))) hl1 (by rw[hl1,hl2];omega);rw[qbh]at h1;rw[h1,kgn (l:=p.drop (7*(p.length/7))) (by intro h2;rw[h2]at hl2;simp at hl2;omega) qqo qqo,qv (l:=p.drop (7*(p.length/7))) qqo]
theorem kq2 {p:Li} (hp:By p) (i:Nat):0<=pkV p i/\pkV p i<256^(i%7):=by have h:=k1l ((p.drop (7*(i/7))).take (i%7)) ((hp.drop _).take _);refine⟨h.1,Int.lt_of_lt_of_le h.2 (k1y ?_)⟩;rw[qu];omega
theorem kez (p:Li) (i:Nat):(pkF p i).length<=p.length:=k30 _ _
theorem koc (p:Li) (i:Nat):(pkI p i).length<=p.length+1:=by
 unfold pkI;have:=kez p i;split
 ·omega
 ·simp;omega
theorem krj (l:Li) (a b:Int):(l++[a]).set l.length b=l++[b]:=by simp
def allB (l:Li):Bool:=l.all (fun x=>decide (x<18446744069414584321))
theorem k7e {l:Li}:allB l=true↔∀x∈l,x<18446744069414584321:=by unfold allB;simp
def keyB (ns l:Li):ByteArray:=strOfNums (ns.flatMap (dig 8)++l.flatMap (dig 8))
structure OrOk (ks:Lb) (vs:Li) (qs:List wG):Prop where
 len:ks.length=vs.length
 rng:∀v∈vs,0<=v/\v<qs.length
def pk (ideal:Bool) (qs:List wG) (ks:Lb) (vs:Li) (label:Int) (l:Li):Option Int:=if allB l=true then(if mHas (BEq.beq (keyB [label] l)) ks=true then some (ix qs (mVal (BEq.beq (keyB [label] l)) ks vs 0)).wAo else if ideal=true then none else some (hashS label l))else none
def pkR (label:Int) (l:Li):Option Int:=if allB l=true then some (hashS label l)else none
theorem pk_real (qs:List wG) (label:Int) (l:Li):pk false qs [] [] label l=pkR label l:=by unfold pk pkR;simp
def noteV (n:wJ):Bool:=decide (n.Value<=4294967295)&&decide (n.wAg<18446744069414584321)&&decide (n.Rho<18446744069414584321)&&decide (n.wBL<18446744069414584321)
def noteL (n:wJ):Li:=[n.Value,n.wAg,n.Rho,n.wBL]
def noteOf (x:wN):wJ:=⟨x.wR,x.we,x.wY,x.wz⟩
def spendV (x:wN):Bool:=noteV (noteOf x)&&decide (x.Key<18446744069414584321)&&decide (0<=x.wAP)&&decide (x.wAP<4)&&decide (0<=x.wC)&&decide (x.wC<=4095)&&decide (x.wj.length<=12)&&allB x.wj
def inV (depth:Int) (x:wN):Bool:=spendV x&&decide ((x.wj.length:Int)=depth)&&decide (x.wC<2^depth.toNat)
def relV (s:wAd) (w:wZ):Bool:=
 decide (1<=s.wD)&&decide (s.wD<=12)&&allB [s.wM,s.wQ,s.wBb,w.wAV]&&decide (s.wH<=4294967295)&&decide (s.wL<=4294967295)&&decide (s.Fee<=4294967295)&&
 allB s.wE&&allB s.wt&&allB s.wAi&&decide (w.Ins.length=s.wE.length)&&decide (w.Ins.length<=4)&&decide (w.wA.length=s.wt.length)&&decide (w.wA.length=s.wAi.length)&&decide (w.wA.length<=4)&&
 w.Ins.all (inV s.wD)&&w.wA.all noteV
def climbL:Int->Int->Li->Int
 |d,_,[]=>d
 |d,p,n::r=>climbL (if p%2=0 then hashS 6 [d,n]else hashS 6 [n,d]) (p/2) r
def climbS (leaf pos:Int) (path:Li):Int:=if path.length<=12/\0<=pos/\pos<2^path.length/\leaf<18446744069414584321/\allB path=true then climbL leaf pos path else 0
def ownerS (key number:Int):Int:=if 0<=number/\number<4 then hashS 1 [key,number]else 0
def acctS (secret:Int):Int:=hashS 7 [secret]
abbrev Ask:=Int->Li->Option Int
def markP (f:Ask) (key rho:Int):Option Int:=if key<18446744069414584321/\rho<18446744069414584321 then f 3 [key,rho]else none
def commP (f:Ask) (n:wJ):Option Int:=if noteV n=true then f 2 (noteL n)else none
def inE (f:Ask) (anchor mark:Int) (x:wN):Int:=
 if x.we≠ownerS x.Key x.wAP then 21 else
 if(markP f x.Key x.wY).isSome=false∨(markP f x.Key x.wY).getD 0≠mark then 12 else
 if x.wBQ=true then(if x.wR≠0 then 13 else 0)else
 if(commP f (noteOf x)).isSome=false∨climbS ((commP f (noteOf x)).getD 0) x.wC x.wj≠anchor then 11 else 0
def insE (f:Ask) (anchor:Int):List wN->Li->Int
 |x::r,m::ms=>if inE f anchor m x≠0 then inE f anchor m x else insE f anchor r ms
 |_,_=>0
def outB (f:Ask) (n:wJ) (c r:Int):Bool:=(commP f n).isSome&&(commP f n).getD 0==c&&n.Rho==r
def outsB (f:Ask):List wJ->Li->Li->Bool
 |n::l,c::cs,r::rs=>outB f n c r&&outsB f l cs rs
 |_,_,_=>true
def inS (l:List wN):Int:=l.foldl (fun s x=>(s+x.wR)%18446744073709551616) 0
def outS (l:List wJ):Int:=l.foldl (fun s x=>(s+x.Value)%18446744073709551616) 0
def checkS (f:Ask) (s:wAd) (w:wZ):Int:=
 if relV s w=false then 1 else
 if insE f s.wM w.Ins s.wE≠0 then insE f s.wM w.Ins s.wE else
 if outsB f w.wA s.wt s.wAi=false then 1 else
 if 0<s.wH/\s.wQ≠acctS w.wAV then 21 else
 if(inS w.Ins+s.wH)%18446744073709551616≠((outS w.wA+s.wL)%18446744073709551616+s.Fee)%18446744073709551616 then 13 else 0
structure NR (n:wJ):Prop where
 v:U64 n.Value
 o:U64 n.wAg
 r:U64 n.Rho
 b:U64 n.wBL
structure PR (x:wN):Prop where
 n:NR (noteOf x)
 k:U64 x.Key
 nu: -9223372036854775808<=x.wAP/\x.wAP<=9223372036854775807
 po: -9223372036854775808<=x.wC/\x.wC<=9223372036854775807
 pa:Us x.wj
 pl:x.wj.length<=1073741824
structure WR (w:wZ):Prop where
 i:∀x∈w.Ins,PR x
 il:w.Ins.length<=1073741824
 o:∀x∈w.wA,NR x
 ol:w.wA.length<=1073741824
 s:U64 w.wAV
structure SR (s:wAd):Prop where
 d: -9223372036854775808<=s.wD/\s.wD<=9223372036854775807
 a:U64 s.wM
 m:Us s.wE
 ml:s.wE.length<=1073741824
 c:Us s.wt
 cl:s.wt.length<=1073741824
 r:Us s.wAi
 rl:s.wAi.length<=1073741824
 de:U64 s.wH
 wi:U64 s.wL
 f:U64 s.Fee
 ac:U64 s.wQ
 b:U64 s.wBb
structure PQ (x:wN):Prop where
 n:NR (noteOf x)
 k:U64 x.Key
 nu: -9223372036854775808<=x.wAP/\x.wAP<=9223372036854775807
 po: -9223372036854775808<=x.wC/\x.wC<=9223372036854775807
 pa:Us x.wj
 pl:x.wj.length<=9223372036854775807
structure WQ (w:wZ):Prop where
 i:∀x∈w.Ins,PQ x
 il:w.Ins.length<=9223372036854775807
 o:∀x∈w.wA,NR x
 ol:w.wA.length<=9223372036854775807
 s:U64 w.wAV
theorem k36 {s:wAd} {w:wZ}:relV s w=true↔(1<=s.wD/\s.wD<=12/\allB [s.wM,s.wQ,s.wBb,w.wAV]=true/\s.wH<=4294967295/\s.wL<=4294967295/\s.Fee<=4294967295/\allB s.wE=true/\allB s.wt=true/\allB s.wAi=true/\w.Ins.length=s.wE.length/\w.Ins.length<=4/\w.wA.length=s.wt.length/\w.wA.length=s.wAi.length/\w.wA.length<=4/\w.Ins.all (inV s.wD)=true/\w.wA.all noteV=true):=by unfold relV;simp only[qg,qai,and_assoc]
theorem k2h {f:Ask} {s:wAd} {w:wZ}:checkS f s w=0↔relV s w=true/\insE f s.wM w.Ins s.wE=0/\outsB f w.wA s.wt s.wAi=true/\(0<s.wH->s.wQ=acctS w.wAV)/\
  (inS w.Ins+s.wH)%18446744073709551616=((outS w.wA+s.wL)%18446744073709551616+s.Fee)%18446744073709551616:=by
 unfold checkS;constructor
 ·intro h;split at h
  ·simp at h
  ·rename_i h1;split at h
   ·rename_i h2;exact(h2 h).elim
   ·rename_i h2;split at h
    ·simp at h
    ·rename_i h3;split at h
     ·simp at h
     ·rename_i h4;split at h
      ·simp at h
      ·rename_i h5
       exact⟨by simpa using h1,by simpa using h2,by simpa using h3,fun h=>by
        by_cases ha:s.wQ=acctS w.wAV
        ·exact ha
        ·exact(h4 ⟨h,ha⟩).elim,by simpa using h5⟩
 ·rintro ⟨h1,h2,h3,h4,h5⟩;rw[qe (by simp[h1]),qe (by simp[h2]),qe (by simp[h3]),qe (fun h=>h.2 (h4 h.1)),qe (fun h=>h h5)]
theorem pkR_u {l:Int} {a:Li}:pkR l a=none∨∃n,pkR l a=some n/\U64 n:=by
 unfold pkR;split
 ·exact .inr ⟨_,rfl,kh _ _⟩
 ·exact .inl rfl
structure Pz {α:Type} (enc:α->Li) (G:α->Prop) (r:Li) (f:Bool) (v:α) (r' :Li) (f' :Bool):Prop where
 snd:f' =false->f=false/\r=enc v++r'/\G v
 cpl:∀v0 s,f=false->r=enc v0++s->G v0->f' =false/\v=v0/\r' =s
theorem Pz.two {α β:Type} {e1:α->Li} {G1:α->Prop} {e2:β->Li} {G2:β->Prop} {r r1 r2:Li} {f f1 f2:Bool} {a:α} {b:β}
  (h1:Pz e1 G1 r f a r1 f1) (h2:Pz e2 G2 r1 f1 b r2 f2):Pz (fun p:α×β=>e1 p.1++e2 p.2) (fun p=>G1 p.1/\G2 p.2) r f (a,b) r2 f2 where
 snd h:=by obtain⟨x1,x2,x3⟩:=h2.snd h;obtain⟨y1,y2,y3⟩:=h1.snd x1;exact⟨y1,by rw[y2,x2,qw],y3,x3⟩
 cpl v0 s hf hr hG:=by rw[qw]at hr;obtain⟨y1,y2,y3⟩:=h1.cpl v0.1 _ hf hr hG.1;obtain⟨x1,x2,x3⟩:=h2.cpl v0.2 _ y1 y3 hG.2;exact⟨x1,by rw[y2,x2],x3⟩
theorem Pz.to {α β:Type} {e1:α->Li} {G1:α->Prop} {e2:β->Li} {G2:β->Prop} {r r1:Li} {f f1:Bool} {a:α}
  (h1:Pz e1 G1 r f a r1 f1) (φ:α->β) (ψ:β->α) (he:∀x,G1 x->e2 (φ x)=e1 x/\G2 (φ x)) (hi:∀y,G2 y->φ (ψ y)=y/\e1 (ψ y)=e2 y/\G1 (ψ y)):Pz e2 G2 r f (φ a) r1 f1 where
 snd h:=by obtain⟨x1,x2,x3⟩:=h1.snd h;exact⟨x1,by rw[x2,(he a x3).1],(he a x3).2⟩
 cpl v0 s hf hr hG:=by obtain⟨i1,i2,i3⟩:=hi v0 hG;obtain⟨y1,y2,y3⟩:=h1.cpl (ψ v0) s hf (by rw[i2];exact hr) i3;exact⟨y1,by rw[y2,i1],y3⟩
def Gl {α:Type} (G:α->Prop) (n:Nat) (l:List α):Prop:=l.length=n/\∀x∈l,G x
theorem Pz.nil {α:Type} {e:α->Li} {G:α->Prop} {r:Li} {f:Bool}:Pz (fun l:List α=>l.flatMap e) (Gl G 0) r f [] r f where
 snd h:=⟨h,rfl,rfl,by intro x hx;cases hx⟩
 cpl v0 s hf hr hG:=by have:v0=[]:=qcz.1 hG.1;subst this;exact⟨hf,rfl,hr⟩
theorem Pz.snoc {α:Type} {e:α->Li} {G:α->Prop} {r r1 r2:Li} {f f1 f2:Bool} {l:List α} {x:α} {n:Nat}
  (h1:Pz (fun l:List α=>l.flatMap e) (Gl G n) r f l r1 f1) (h2:Pz e G r1 f1 x r2 f2):Pz (fun l:List α=>l.flatMap e) (Gl G (n+1)) r f (l++[x]) r2 f2 where
 snd h:=by
  obtain⟨x1,x2,x3⟩:=h2.snd h;obtain⟨y1,y2,y3⟩:=h1.snd x1;refine⟨y1,by rw[y2,x2];simp,by simp[y3.1],?_⟩;intro y hy;rcases qak.1 hy with hy|hy
  ·exact y3.2 y hy
  ·rw[qal.1 hy];exact x3
 cpl v0 s hf hr hG:=by
  have hne:v0≠[]:=by intro h;have:=hG.1;rw[h]at this;simp at this
  have hd:=List.dropLast_concat_getLast hne;generalize v0.dropLast=i at *
  generalize v0.getLast hne=z at *
  subst hd;obtain⟨g1,g2⟩:=hG;have hr:r=i.flatMap e++(e z++s):=by rw[hr];simp
  obtain⟨y1,y2,y3⟩:=h1.cpl i _ hf hr ⟨by simpa using g1,fun y hy=>g2 y (by simp[hy])⟩;obtain⟨x1,x2,x3⟩:=h2.cpl z _ y1 y3 (g2 z qqs);exact⟨x1,by rw[y2,x2],x3⟩
theorem Pz.short {α:Type} {e:α->Li} {G:α->Prop} {r r1:Li} {f:Bool} {l:List α} {n m:Nat}
  (h1:Pz (fun l:List α=>l.flatMap e) (Gl G n) r f l r1 true) (hm:n<=m):Pz (fun l:List α=>l.flatMap e) (Gl G m) r f l r1 true where
 snd h:=by cases h
 cpl v0 s hf hr hG:=by
  have hr:r=(v0.take n).flatMap e++((v0.drop n).flatMap e++s):=by rw[hr,<-qw,<-qbo,qbh]
  have:=(h1.cpl (v0.take n) _ hf hr ⟨by rw[qu,hG.1];omega,fun x hx=>hG.2 x (qbk hx)⟩).1;cases this
def encC {α:Type} (e:α->Li) (l:List α):Li:=dig 4 (l.length:Int)++l.flatMap e
def Gn (m n:Int):Prop:=0<=n/\n<4294967296/\n<=m
def Gc {α:Type} (G:α->Prop) (m:Int) (l:List α):Prop:=Gn m (l.length:Int)/\∀x∈l,G x
theorem Pz.list {α:Type} {e:α->Li} {G:α->Prop} {r r1 r2:Li} {f f1 f2:Bool} {l:List α} {n m:Int}
  (h1:Pz (dig 4) (Gn m) r f n r1 f1) (h2:Pz (fun l:List α=>l.flatMap e) (Gl G n.toNat) r1 f1 l r2 f2):Pz (encC e) (Gc G m) r f l r2 f2 where
 snd h:=by
  obtain⟨x1,x2,x3⟩:=h2.snd h;obtain⟨y1,y2,y3⟩:=h1.snd x1;have hn:(l.length:Int)=n:=by rw[x3.1];have:=y3.1;omega
  exact⟨y1,by unfold encC;rw[hn,y2,x2,qw],by unfold Gc;rw[hn];exact⟨y3,x3.2⟩⟩
 cpl v0 s hf hr hG:=by unfold encC at hr;rw[qw]at hr;obtain⟨y1,y2,y3⟩:=h1.cpl _ _ hf hr hG.1;obtain⟨x1,x2,x3⟩:=h2.cpl v0 s y1 y3 ⟨by rw[y2];simp,hG.2⟩;exact⟨x1,x2,x3⟩
def Gu (m n:Int):Prop:=U64 n/\n<=m
def Gp (m p:Int) (l:Li):Prop:=(l.length:Int)<=m/\(∀x∈l,x<p)/\Us l
section
variable {b:Li} {pos m p:Int} {f:Bool}
theorem rdU_pz (h:RdOk b pos):Pz (dig 8) (Gu m) (b.drop pos.toNat) f (rdU b pos f m).n (b.drop (rdU b pos f m).pos.toNat) (rdU b pos f m).fail where
 snd hf:=by obtain⟨h1,h2,h3⟩:=rdU_snd h hf;exact⟨h1,h2,rdU_n h,h3⟩
 cpl v0 s hf hr hG:=rdU_cpl h hf hr hG.1 hG.2
theorem rdI_pz (h:RdOk b pos) (hm:0<=m/\m<4294967296):Pz (dig 4) (Gn m) (b.drop pos.toNat) f (rdI b pos f m).n (b.drop (rdI b pos f m).pos.toNat) (rdI b pos f m).fail where
 snd hf:=by obtain⟨h1,h2,h3⟩:=rdI_snd h hf;have:=rdI_n (f:=f) h hm.1;exact⟨h1,h2,this.1,by omega,h3⟩
 cpl v0 s hf hr hG:=rdI_cpl h hf hr hG.1 hG.2.1 hG.2.2
theorem rdL_pz (h:RdOk b pos) (hm:0<=m/\m<=4294967295):Pz encL (Gp m p) (b.drop pos.toNat) f (rdL b pos f m p).l (b.drop (rdL b pos f m p).pos.toNat) (rdL b pos f m p).fail where
 snd hf:=by obtain⟨h1,h2,h3,h4,h5⟩:=rdL_snd h hm hf;exact⟨h1,h2,h3,h4,h5⟩
 cpl v0 s hf hr hG:=rdL_cpl h hm hf hr hG.1 hG.2.1 hG.2.2
end
section
variable {b:Li} {f:Bool} {m p:Int}
theorem nB8_pz (h:By b) (hm:m<=18446744073709551615):Pz (dig 8) (Gu m) b f (nB 8 b f m).n (nB 8 b f m).b (nB 8 b f m).f where
 snd hf:=by obtain⟨h1,h2,h3⟩:=nB_snd h qqo hf;have:=nB_n (f:=f) (m:=m) h (k:=8) qqo;exact⟨h1,h2,⟨this.1,by omega⟩,h3⟩
 cpl v0 s hf hr hG:=by
  have p8:(256:Int)^(8:Int).toNat=18446744073709551616:=by decide
  have hu:=hG.1;rw[nB_cpl (k:=8) qqo hf hr hu.1 (by rw[p8];exact hu.2) hG.2];exact⟨rfl,rfl,rfl⟩
theorem nB4_pz (h:By b):Pz (dig 4) (Gn m) b f (nB 4 b f m).n (nB 4 b f m).b (nB 4 b f m).f where
 snd hf:=by
  have p4:(256:Int)^(4:Int).toNat=4294967296:=by decide
  obtain⟨h1,h2,h3⟩:=nB_snd h qqo hf;have:=nB_n (f:=f) (m:=m) h (k:=4) qqo;rw[p4]at this;exact⟨h1,h2,this.1,this.2,h3⟩
 cpl v0 s hf hr hG:=by
  have p4:(256:Int)^(4:Int).toNat=4294967296:=by decide
  rw[nB_cpl (k:=4) qqo hf hr hG.1 (by rw[p4];exact hG.2.1) hG.2.2];exact⟨rfl,rfl,rfl⟩
def lBs (p:Int):Nat->Li->Li->RB
 |0,b,acc=>⟨acc,b,false⟩
 |k+1,b,acc=>if p<=val (b.take 8)then⟨[],b.drop 8,true⟩else lBs p k (b.drop 8) (acc++[val (b.take 8)])
def lB (b:Li) (f:Bool) (m p:Int):RB:=if(nB 4 b f m).f=true∨((nB 4 b f m).b.length:Int)/8<(nB 4 b f m).n then⟨[],(nB 4 b f m).b,true⟩else lBs p (nB 4 b f m).n.toNat (nB 4 b f m).b []
theorem lBs_b:∀(k:Nat) {b acc:Li},By b->By (lBs p k b acc).b/\(lBs p k b acc).b.length<=b.length
 |0,_,_,h=>⟨h,qab _⟩
 |k+1,b,acc,h=>by
  unfold lBs;split
  ·exact⟨h.drop _,by show(b.drop 8).length<=_;rw[qan];omega⟩
  ·have:=lBs_b k (acc:=acc++[val (b.take 8)]) (h.drop 8);rw[qan]at this;exact⟨this.1,by omega⟩
theorem lBs_snd:∀(k:Nat) {b acc:Li},8*k<=b.length->(lBs p k b acc).f=false->
  (lBs p k b acc).l=acc++nums k b/\(∀x∈nums k b,x<p)/\(lBs p k b acc).b=b.drop (8*k)
 |0,b,acc,_,_=>⟨by simp[lBs,nums],by simp[nums],by simp[lBs]⟩
 |k+1,b,acc,hk,hf=>by
  unfold lBs at *
  split at hf
  ·cases hf
  ·rename_i hn;rw[qe hn];obtain⟨g1,g2,g3⟩:=lBs_snd k (by rw[qan];omega) hf;refine⟨?_,?_,?_⟩
   ·rw[g1,qw];rfl
   ·intro x hx;rcases qae.1 hx with rfl|hx
    ·omega
    ·exact g2 x hx
   ·rw[g3,qcx];congr 1;omega
theorem lBs_cpl:∀(k:Nat) {b acc:Li},(∀x∈nums k b,x<p)->(lBs p k b acc).f=false
 |0,_,_,_=>rfl
 |k+1,b,acc,hf=>by unfold lBs;have h3:=hf (val (b.take 8)) (by simp[nums]);rw[qe qqo];exact lBs_cpl k (fun x hx=>hf x (qbz _ hx))
theorem lB_b (h:By b):By (lB b f m p).b/\(lB b f m p).b.length<=b.length:=by
 unfold lB;have h1:=nB_b (k:=4) (f:=f) (m:=m) h;split
 ·exact h1
 ·have:=lBs_b (p:=p) (nB 4 b f m).n.toNat (acc:=[]) h1.1;exact⟨this.1,by omega⟩
theorem lB_pz (h:By b) (hm:m<=4294967295):Pz encL (Gp m p) b f (lB b f m p).l (lB b f m p).b (lB b f m p).f where
 snd hf:=by
  unfold lB at *
  split at hf
  ·cases hf
  ·rename_i hn;rw[qe hn]
   have hN:(nB 4 b f m).f=false:=by
    cases hc:(nB 4 b f m).f
    ·rfl
    ·exact absurd (.inl hc) hn
   obtain⟨y1,y2,y3⟩:=(nB4_pz (f:=f) (m:=m) h).snd hN;have hb:=(nB_b (k:=4) (f:=f) (m:=m) h).1;have hle:¬((nB 4 b f m).b.length:Int)/8<(nB 4 b f m).n:=fun h=>hn (.inr h);obtain⟨z1,z2,z3⟩:=y3;generalize nB 4 b f m=N at *
   obtain⟨k1,k2,k3⟩:=lBs_snd N.n.toNat qqo hf;rw[qci]at k1;rw[k1,k3];refine⟨y1,?_,by rw[k2i];omega,k2,nums_us _ hb⟩;rw[y2];unfold encL;rw[k2i,show((N.n.toNat:Nat):Int)=N.n by omega,len4_in qqo,qw];congr 1;exact kbw N.n.toNat hb qqo
 cpl v0 s hf hr hG:=by
  obtain⟨hl,hp,hu⟩:=hG;unfold encL at hr;rw[len4_in qqo,qw]at hr;obtain⟨y1,y2,y3⟩:=(nB4_pz (f:=f) (m:=m) h).cpl _ _ hf hr ⟨by omega,by omega,hl⟩;obtain⟨k1,k2,k3⟩:=kcw v0 y3 hu;have hn:¬((nB 4 b f m).f=true∨((nB 4 b f m).b.length:Int)/8<(nB 4 b f m).n):=by rw[y1,y2];simp only[qbm,false_or];omega
  unfold lB;rw[qe hn,y2,qx];have hc:=lBs_cpl (p:=p) (acc:=[]) v0.length (b:=(nB 4 b f m).b) (by rw[k1];exact hp);obtain⟨q1,q2,q3⟩:=lBs_snd _ k3 hc;exact⟨hc,by rw[q1,k1];rfl,by rw[q3];exact k2⟩
end
def encN (n:wJ):Li:=dig 8 n.Value++(dig 8 n.wAg++(dig 8 n.Rho++dig 8 n.wBL))
def encSp (x:wN):Li:=encN (noteOf x)++(dig 8 x.Key++(dig 4 (len4 x.wAP)++(dig 4 (len4 x.wC)++(encL x.wj++dig 4 (len4 (if x.wBQ=true then 1 else 0))))))
def encW (w:wZ):Li:=dig 4 (len4 (w.Ins.length:Int))++(w.Ins.flatMap encSp++(dig 4 (len4 (w.wA.length:Int))++(w.wA.flatMap encN++dig 8 w.wAV)))
def rightV (w:wZ):Bool:=decide (w.Ins.length<=4)&&decide (w.wA.length<=4)&&decide (w.wAV<18446744069414584321)&&w.Ins.all spendV&&w.wA.all noteV
structure Lim where
 m:Int
 p:Int
 n:Int
 q:Int
 hm:m<=18446744073709551615
 hp:p<=18446744073709551615
 hn:3<=n
 hq:4095<=q
 hm' :4294967295<=m
 hp' :18446744069414584320<=p
def limW:Lim:=⟨4294967295,18446744069414584320,3,4095,by omega,by omega,by omega,by omega,by omega,by omega⟩
def limR:Lim:=⟨18446744073709551615,18446744073709551615,4294967296,4294967296,by omega,by omega,by omega,by omega,by omega,by omega⟩
def GN (L:Lim) (n:wJ):Prop:=Gu L.m n.Value/\Gu L.p n.wAg/\Gu L.p n.Rho/\Gu L.p n.wBL
def GS (L:Lim) (x:wN):Prop:=GN L (noteOf x)/\Gu L.p x.Key/\Gn L.n x.wAP/\Gn L.q x.wC/\Gp 12 18446744069414584321 x.wj
theorem GN.nr {L:Lim} {n:wJ} (h:GN L n):NR n:=⟨h.1.1,h.2.1.1,h.2.2.1.1,h.2.2.2.1⟩
theorem GS.pq {L:Lim} {x:wN} (h:GS L x):PQ x:=by obtain⟨h1,h2,h3,h4,h5⟩:=h;obtain⟨a1,a2,a3⟩:=h3;obtain⟨b1,b2,b3⟩:=h4;obtain⟨c1,c2,c3⟩:=h5;exact⟨h1.nr,h2.1,by omega,by omega,c3,by omega⟩
theorem kgq {n:wJ}:noteV n=true↔n.Value<=4294967295/\n.wAg<18446744069414584321/\n.Rho<18446744069414584321/\n.wBL<18446744069414584321:=by unfold noteV;simp only[qg,qai,and_assoc]
theorem k18 {x:wN}:spendV x=true↔noteV (noteOf x)=true/\x.Key<18446744069414584321/\0<=x.wAP/\x.wAP<4/\0<=x.wC/\x.wC<=4095/\x.wj.length<=12/\allB x.wj=true:=by unfold spendV;simp only[qg,qai,and_assoc]
theorem k1r {w:wZ}:rightV w=true↔w.Ins.length<=4/\w.wA.length<=4/\w.wAV<18446744069414584321/\(∀x∈w.Ins,spendV x=true)/\∀x∈w.wA,noteV x=true:=by unfold rightV;simp only[qg,qai,and_assoc,qbj]
theorem NR.gn {n:wJ} (h:NR n) (hv:noteV n=true) (L:Lim):GN L n:=by obtain⟨h1,h2,h3,h4⟩:=kgq.1 hv;have:=L.hm';have:=L.hp';exact⟨⟨h.v,by omega⟩,⟨h.o,by omega⟩,⟨h.r,by omega⟩,⟨h.b,by omega⟩⟩
theorem PQ.gs {x:wN} (h:PQ x) (hv:spendV x=true) (L:Lim):GS L x:=by obtain⟨h1,h2,h3,h4,h5,h6,h7,h8⟩:=k18.1 hv;have:=L.hp';have:=L.hn;have:=L.hq;exact⟨h.n.gn h1 L,⟨h.k,by omega⟩,⟨h3,by omega,by omega⟩,⟨h5,by omega,by omega⟩,by omega,k7e.1 h8,h.pa⟩
theorem GN.noteV {n:wJ} (h:GN limW n):noteV n=true:=by obtain⟨h1,h2,h3,h4⟩:=h;have e1:n.Value<=4294967295:=h1.2;have e2:n.wAg<=18446744069414584320:=h2.2;have e3:n.Rho<=18446744069414584320:=h3.2;have e4:n.wBL<=18446744069414584320:=h4.2;exact kgq.2 ⟨e1,by omega,by omega,by omega⟩
theorem GS.spendV {x:wN} (h:GS limW x):spendV x=true:=by obtain⟨h1,h2,h3,h4,h5⟩:=h;have e1:x.Key<=18446744069414584320:=h2.2;have e2:x.wAP<=3:=h3.2.2;have e3:x.wC<=4095:=h4.2.2;have e4:=h5.1;exact k18.2 ⟨h1.noteV,by omega,h3.1,by omega,h4.1,e3,by omega,k7e.2 h5.2.1⟩
theorem pz_note {L:Lim} {r r1 r2 r3 r4:Li} {f f1 f2 f3 f4:Bool} {a b c d:Int} (h1:Pz (dig 8) (Gu L.m) r f a r1 f1) (h2:Pz (dig 8) (Gu L.p) r1 f1 b r2 f2) (h3:Pz (dig 8) (Gu L.p) r2 f2 c r3 f3) (h4:Pz (dig 8) (Gu L.p) r3 f3 d r4 f4):Pz encN (GN L) r f ⟨a,b,c,d⟩ r4 f4:=(((h3.two h4)|>h2.two)|>h1.two).to (fun p:Int×Int×Int×Int=>wJ.mk p.1 p.2.1 p.2.2.1 p.2.2.2) (fun n=>(n.Value,n.wAg,n.Rho,n.wBL)) (fun _ h=>⟨rfl,h⟩) (fun _ h=>⟨rfl,rfl,h⟩)
theorem kkt {L:Lim} {r r1 r2 r3 r4 r5 r6:Li} {f f1 f2 f3 f4 f5 f6:Bool} {a:wJ} {k n q:Int} {p:Li} {d:Int} (h1:Pz encN (GN L) r f a r1 f1) (h2:Pz (dig 8) (Gu L.p) r1 f1 k r2 f2) (h3:Pz (dig 4) (Gn L.n) r2 f2 n r3 f3) (h4:Pz (dig 4) (Gn L.q) r3 f3 q r4 f4)
  (h5:Pz encL (Gp 12 18446744069414584321) r4 f4 p r5 f5) (h6:Pz (dig 4) (Gn 1) r5 f5 d r6 f6):Pz encSp (GS L) r f ⟨a.Value,a.wAg,a.Rho,a.wBL,k,n,q,p,d==1⟩ r6 f6:=by
 refine(((((h5.two h6)|>h4.two)|>h3.two)|>h2.two)|>h1.two).to (fun x:wJ×Int×Int×Int×Li×Int=>wN.mk x.1.Value x.1.wAg x.1.Rho x.1.wBL x.2.1 x.2.2.1 x.2.2.2.1 x.2.2.2.2.1 (x.2.2.2.2.2==1)) (fun x=>(noteOf x,x.Key,x.wAP,x.wC,x.wj,if x.wBQ=true then 1 else 0)) ?_ ?_
 ·rintro ⟨a,k,n,q,p,d⟩ ⟨g1,g2,g3,g4,g5,g6⟩;refine⟨?_,g1,g2,g3,g4,g5⟩;obtain⟨d0,d1,d2⟩:=g6;obtain⟨n0,n1,n2⟩:=g3;obtain⟨q0,q1,q2⟩:=g4;have e:(if(d==1)=true then(1:Int)else 0)=d:=by have d2:d<=1:=d2;have d0:0<=d:=d0;rcases(by omega:d=0∨d=1)with rfl|rfl<;>rfl
  show encN a++(dig 8 k++(dig 4 (len4 n)++(dig 4 (len4 q)++(encL p++dig 4 (len4 (if(d==1)=true then 1 else 0))))))=encN a++(dig 8 k++(dig 4 n++(dig 4 q++(encL p++dig 4 d))));rw[e,len4_in (n:=n) ⟨n0,by have:n<4294967296:=n1;omega⟩,len4_in (n:=q) ⟨q0,by have:q<4294967296:=q1;omega⟩,len4_in (n:=d) ⟨d0,by have:d<4294967296:=d1;omega⟩]
 ·rintro ⟨v,o,rh,bl,k,n,q,p,d⟩ ⟨g1,g2,g3,g4,g5⟩;obtain⟨n0,n1,n2⟩:=g3;obtain⟨q0,q1,q2⟩:=g4;refine⟨?_,?_,g1,g2,⟨n0,n1,n2⟩,⟨q0,q1,q2⟩,g5,?_⟩
  ·cases d<;>rfl
  ·show encN ⟨v,o,rh,bl⟩++(dig 8 k++(dig 4 n++(dig 4 q++(encL p++dig 4 (if d=true then 1 else 0)))))=encN ⟨v,o,rh,bl⟩++(dig 8 k++(dig 4 (len4 n)++(dig 4 (len4 q)++(encL p++dig 4 (len4 (if d=true then 1 else 0))))));rw[len4_in (n:=n) (by exact⟨n0,by have:n<4294967296:=n1;omega⟩),len4_in (n:=q) (by exact⟨q0,by have:q<4294967296:=q1;omega⟩),len4_in (n:=if d=true then 1 else 0) (by split<;>omega)]
  ·cases d
   ·exact(⟨by decide,by decide,by decide⟩:Gn 1 0)
   ·exact(⟨by decide,by decide,by decide⟩:Gn 1 1)
structure EW (w:wZ) (b:Li):Prop where
 r:WQ w
 v:rightV w=true
 e:encW w=b
def zeroW:wZ:=⟨[],[],0⟩
open Classical in
def decW (b:Li):wZ×Int:=if h:∃w,EW w b then(Classical.choose h,0)else(zeroW,2)
theorem kmv {b:Li} {t:wZ} (h:EW t b) (hu:∀u,EW u b->t=u):decW b=(t,0):=by unfold decW;have hex:∃t,EW t b:=⟨t,h⟩;rw[dif_pos hex,<-hu _ (Classical.choose_spec hex)]
theorem decW_no {b:Li} (h:∀u,¬EW u b):decW b=(zeroW,2):=by unfold decW;rw[dif_neg fun⟨u,hu⟩=>h u hu]
def Gw (L:Lim) (w:wZ):Prop:=Gc (GS L) 4 w.Ins/\Gc (GN L) 4 w.wA/\Gu L.p w.wAV
theorem Gw.wq {L:Lim} {w:wZ} (h:Gw L w):WQ w:=by obtain⟨⟨i,hi⟩,⟨o,ho⟩,s⟩:=h;have:=i.2.2;have:=o.2.2;exact⟨fun x hx=>(hi x hx).pq,by omega,fun x hx=>(ho x hx).nr,by omega,s.1⟩
theorem encC_in {α:Type} (e:α->Li) (l:List α) (h:l.length<=4):encC e l=dig 4 (len4 (l.length:Int))++l.flatMap e:=by unfold encC;rw[len4_in qqo]
theorem pz_wit {L:Lim} {b r1 r2 r3:Li} {f1 f2 f3:Bool} {is:List wN} {os:List wJ} {s:Int} (h1:Pz (encC encSp) (Gc (GS L) 4) b false is r1 f1) (h2:Pz (encC encN) (Gc (GN L) 4) r1 f1 os r2 f2) (h3:Pz (dig 8) (Gu L.p) r2 f2 s r3 f3):
  (f3=false->r3=[]->encW ⟨is,os,s⟩=b/\Gw L ⟨is,os,s⟩)/\∀w,EW w b->f3=false/\r3=[]/\(⟨is,os,s⟩:wZ)=w:=by
 constructor
 ·rintro rfl rfl;obtain⟨a1,a2,a3⟩:=h3.snd rfl;obtain⟨b1,b2,b3⟩:=h2.snd a1;obtain⟨c1,c2,c3⟩:=h1.snd b1;refine⟨?_,c3,b3,a3⟩;have l1:=c3.1.2.2;have l2:=b3.1.2.2;rw[c2,b2,a2,encC_in _ _ qqo,encC_in _ _ qqo];simp[encW,qw]
 ·rintro ⟨is0,os0,s0⟩ ⟨hr,hv,he⟩;obtain⟨v1,v2,v3,v4,v5⟩:=k1r.1 hv;have v1:is0.length<=4:=v1;have v2:os0.length<=4:=v2;have v3:s0<18446744069414584321:=v3;have hp:=L.hp';have e:b=encC encSp is0++(encC encN os0++(dig 8 s0++[])):=by rw[<-he,encC_in _ _ v1,encC_in _ _ v2];simp[encW,qw]
  obtain⟨c1,c2,c3⟩:=h1.cpl is0 _ rfl e ⟨⟨by omega,by omega,by omega⟩,fun x hx=>(hr.i x hx).gs (v4 x hx) L⟩;obtain⟨b1,b2,b3⟩:=h2.cpl os0 _ c1 c3 ⟨⟨by omega,by omega,by omega⟩,fun x hx=>(hr.o x hx).gn (v5 x hx) L⟩;obtain⟨a1,a2,a3⟩:=h3.cpl s0 _ b1 b3 ⟨hr.s,by omega⟩;exact⟨a1,a3,by rw[c2,b2,a2]⟩
structure RNt where
 n:wJ
 pos:Int
 f:Bool
def rdNt (b:Li) (pos:Int) (f:Bool):RNt:=
 let A:=rdU b pos f 4294967295;let B:=rdU b A.pos A.fail 18446744069414584320;let C:=rdU b B.pos B.fail 18446744069414584320;let D:=rdU b C.pos C.fail 18446744069414584320
 ⟨⟨A.n,B.n,C.n,D.n⟩,D.pos,D.fail⟩
theorem rdNt_ok {b:Li} {pos:Int} {f:Bool} (h:RdOk b pos):RdOk b (rdNt b pos f).pos:=rdU_ok (rdU_ok (rdU_ok (rdU_ok h)))
theorem rdNt_pz {b:Li} {pos:Int} {f:Bool} (h:RdOk b pos):Pz encN (GN limW) (b.drop pos.toNat) f (rdNt b pos f).n (b.drop (rdNt b pos f).pos.toNat) (rdNt b pos f).f:=pz_note (L:=limW) (rdU_pz h) (rdU_pz (rdU_ok h)) (rdU_pz (rdU_ok (rdU_ok h))) (rdU_pz (rdU_ok (rdU_ok (rdU_ok h))))
structure RNb where
 n:wJ
 b:Li
 f:Bool
def nNt (b:Li) (f:Bool):RNb:=
 let A:=nB 8 b f 18446744073709551615;let B:=nB 8 A.b A.f 18446744073709551615;let C:=nB 8 B.b B.f 18446744073709551615;let D:=nB 8 C.b C.f 18446744073709551615
 ⟨⟨A.n,B.n,C.n,D.n⟩,D.b,D.f⟩
theorem nNt_b {b:Li} {f:Bool} (h:By b):By (nNt b f).b/\(nNt b f).b.length<=b.length:=
 have h1:=nB_b (k:=8) (f:=f) (m:=18446744073709551615) h;have h2:=nB_b (k:=8) (f:=(nB 8 b f 18446744073709551615).f) (m:=18446744073709551615) h1.1;have h3:=nB_b (k:=8) (f:=(nB 8 (nB 8 b f 18446744073709551615).b (nB 8 b f 18446744073709551615).f 18446744073709551615).f) (m:=18446744073709551615) h2.1;have h4:=nB_b (k:=8) (f:=(nB 8 (nB 8 (nB 8 b f 18446744073709551615).b (nB 8 b f 18446744073709551615).f 18446744073709551615).b (nB 8 (nB 8 b f 18446744073709551615).b (nB 8 b f 18446744073709551615).f 18446744073709551615).f 18446744073709551615).f) (m:=18446744073709551615) h3.1
 ⟨h4.1,qax h4.2 (qax h3.2 (qax h2.2 h1.2))⟩
theorem nNt_pz {b:Li} {f:Bool} (h:By b):Pz encN (GN limR) b f (nNt b f).n (nNt b f).b (nNt b f).f:=
 have h1:=(nB_b (k:=8) (f:=f) (m:=18446744073709551615) h).1;have h2:=(nB_b (k:=8) (f:=(nB 8 b f 18446744073709551615).f) (m:=18446744073709551615) h1).1;have h3:=(nB_b (k:=8) (f:=(nB 8 (nB 8 b f 18446744073709551615).b (nB 8 b f 18446744073709551615).f 18446744073709551615).f) (m:=18446744073709551615) h2).1
 pz_note (L:=limR) (nB8_pz h qqd) (nB8_pz h1 qqd) (nB8_pz h2 qqd) (nB8_pz h3 qqd)
theorem k12 {α:Type} (e:α->Li) (k:Nat):∀(l:List α),(∀x∈l,(e x).length<=k)->(l.flatMap e).length<=k*l.length
 |[],_=>by simp
 |x::r,h=>by have h1:=k12 e k r fun y hy=>h y (qbz _ hy);have h2:=h x qqs;rw[qbb,qh,qj,Nat.mul_add];omega
theorem nB_m {k:Int} {b:Li} {f:Bool} {m:Int} (hm:0<=m):(nB k b f m).n<=m:=by
 unfold nB;split
 ·exact hm
 ·rename_i h;exact Int.not_lt.1 fun x=>h (.inr x)
def inpV (x:wN) (d:Int):Bool:=noteV (noteOf x)&&decide (x.Key<18446744069414584321)&&decide (0<=x.wAP)&&decide (x.wAP<4)&&decide ((x.wj.length:Int)=d)&&allB x.wj&&decide (0<=x.wC)&&decide (x.wC<ishl .i64 1 d)
theorem ishl1 {d:Int} (h0:0<=d) (h1:d<=12):ishl .i64 1 d=2^d.toNat:=by
 obtain⟨d,rfl⟩:=qn h0;have key:∀d:Nat,d<=12->ishl .i64 1 (d:Int)=2^d:=by decide +kernel
 exact key d qqo
theorem kpr {x:wN} (hp:x.wj.length<=12) (h0:0<=x.wC) (h1:x.wC<4096):inpV ⟨x.wR,x.we,x.wY,x.wz,x.Key,x.wAP,0,x.wj,x.wBQ⟩ (x.wj.length:Int)=spendV x:=by unfold inpV spendV noteOf;rw[ishl1 qqo qqo];have e:(0:Int)<2^(x.wj.length:Int).toNat:=Int.pow_pos qqd;simp only[qas e,qas h0,qas (show x.wC<=4095 by omega),qas hp,Bool.and_true,decide_true,qcc]
theorem koi {x:wN} {d:Int} (h0:1<=d) (h1:d<=12):inpV x d=inV d x:=by
 rw[Bool.eq_iff_iff];unfold inpV inV;simp only[qg,qai,k18];rw[ishl1 qqo h1];have hb:∀n:Nat,n<=12->(2:Int)^n<=4096:=by decide
 have:=hb d.toNat qqo;constructor
 ·rintro ⟨⟨⟨⟨⟨⟨⟨a,b⟩,c⟩,e⟩,f⟩,g⟩,i⟩,j⟩;exact⟨⟨⟨a,b,c,e,i,by omega,by omega,g⟩,f⟩,j⟩
 ·rintro ⟨⟨⟨a,b,c,e,i,k,l,g⟩,f⟩,j⟩;exact⟨⟨⟨⟨⟨⟨⟨a,b⟩,c⟩,e⟩,f⟩,g⟩,i⟩,j⟩
theorem k7j (b:Li):(∃w,EW w b/\decW b=(w,0))∨decW b=(zeroW,2):=by
 unfold decW;by_cases h:∃w,EW w b
 ·rw[dif_pos h];exact .inl ⟨_,Classical.choose_spec h,rfl⟩
 ·rw[dif_neg h];exact .inr rfl
end Go.Proofs.YtljmmhaiaipckaaGreat
namespace Go.Md
open Go Go.Bv Go.Cv Go.Md Go.RowKit
section
variable {g:Li} {a b i j:Int} {d:Array Int}
def chS (g:Li) (hi first root:Int):Int:=if 2*root+2<hi/\ix g (first+(2*root+1))<ix g (first+(2*root+1)+1)then 2*root+2 else 2*root+1
end
end Go.Md
namespace Go.Proofs.YtljmmhaiaipckaaGreat
open Go Go.Bv Go.Cv Go.Md Go.RowKit
open Go.IntKind (i64 u64)
def insI (x:Int):Li->Li
 |[]=>[x]
 |y::r=>if x<=y then x::y::r else y::insI x r
def srt:Li->Li
 |[]=>[]
 |x::r=>insI x (srt r)
theorem k3n (x:Int):∀l,(insI x l).Perm (x::l)
 |[]=>List.Perm.refl _
 |y::r=>by
  unfold insI;split
  ·exact List.Perm.refl _
  ·exact((k3n x r).cons y).trans (List.Perm.swap x y r)
theorem k4z:∀l,(srt l).Perm l
 |[]=>List.Perm.refl _
 |x::r=>(k3n x (srt r)).trans ((k4z r).cons x)
theorem k5p (x:Int):∀l:Li,l.Pairwise (·<=·)->(insI x l).Pairwise (·<=·)
 |[],_=>by simp[insI]
 |y::r,h=>by
  unfold insI;rw[List.pairwise_cons]at h;split
  ·rename_i hxy;rw[List.pairwise_cons,List.pairwise_cons];refine⟨fun z hz=> ?_,h⟩;rcases qae.1 hz with rfl|hz
   ·exact hxy
   ·exact qef hxy (h.1 z hz)
  ·rename_i hxy;rw[List.pairwise_cons];refine⟨fun z hz=> ?_,k5p x r h.2⟩;rcases qae.1 ((k3n x r).mem_iff.1 hz)with rfl|hz
   ·omega
   ·exact h.1 z hz
theorem k6o:∀l,(srt l).Pairwise (·<=·)
 |[]=>List.Pairwise.nil
 |x::r=>k5p x _ (k6o r)
theorem k7y:∀(l m:Li),l.Perm m->l.Pairwise (·<=·)->m.Pairwise (·<=·)->l=m
 |[],m,h,_,_=>by rw[h.symm.eq_nil]
 |x::l,[],h,_,_=>by cases h.eq_nil
 |x::l,y::m,h,hl,hm=>by
  rw[List.pairwise_cons]at hl hm;have hx:x∈y::m:=h.mem_iff.1 qqs;have hy:y∈x::l:=h.mem_iff.2 qqs
  have e:x=y:=by
   rcases qae.1 hx with e|hx
   ·exact e
   ·rcases qae.1 hy with e|hy
    ·exact e.symm
    ·have:=hl.1 y hy;have:=hm.1 x hx;omega
  subst e;rw[k7y l m ((List.perm_cons x).1 h) hl.2 hm.2]
theorem srt_eq {l m:Li} (h:m.Perm l) (hs:m.Pairwise (·<=·)):m=srt l:=k7y _ _ (h.trans (k4z l).symm) hs (k6o l)
theorem kop (l:Li):(srt l).length=l.length:=(k4z l).length_eq
def lb (l:List wB) (t:Int):Nat:=(l.takeWhile (fun a=>decide (a.ID<t))).length
def fnd (l:List wB) (t:Int):Bool:=match l[lb l t]? with
 |some a=>decide (a.ID=t)
 |none=>false
def Srt (l:List wB):Prop:=∀i j (_:i<j) (hj:j<l.length),l[i].ID<l[j].ID
theorem lb_eq (l:List wB) (t:Int) (i:Nat) (hi:i<=l.length) (h1:∀k (h:k<l.length),k<i->l[k].ID<t) (h2:∀h:i<l.length,t<=l[i].ID):lb l t=i:=by
 unfold lb;induction l generalizing i with
 |nil=>simp at hi;simp[hi]
 |cons a l ih=>
  cases i with
  |zero=>have:=h2 qqs;simp at this;rw[qdp,qe qqm];rfl
  |succ i=>have h0:=h1 0 qqs qqo;simp at h0;rw[qdp,qf (by simpa using h0),qj,ih i (by simpa using hi) (fun k h hk=>by have:=h1 (k+1) qqh qqo;simpa using this) (fun h=>by have:=h2 qqh;simpa using this)]
theorem lb_le (l:List wB) (t:Int):lb l t<=l.length:=(List.takeWhile_sublist _).length_le
theorem lb_spec (l:List wB) (t:Int):(∀k (h:k<l.length),k<lb l t->l[k].ID<t)/\∀h:lb l t<l.length,t<=l[lb l t].ID:=by
 unfold lb;induction l with
 |nil=>exact⟨fun k h=>absurd h qqs,fun h=>absurd h qqs⟩
 |cons a l ih=>
  by_cases ha:a.ID<t
  ·simp only[qdp,ha,decide_true,qch,qj];refine⟨fun k h hk=> ?_,fun h=> ?_⟩
   ·cases k with
    |zero=>exact ha
    |succ k=>simpa using ih.1 k qqh (by simpa using hk)
   ·simpa using ih.2 qqh
  ·simp only[qdp,ha,decide_false,qbm,qei,qt];exact⟨fun k h hk=>absurd hk (Nat.not_lt_zero _),fun h=>by simpa using ha⟩
theorem k4w {l:List wB} {t:Int} (h:fnd l t=true):∃hl:lb l t<l.length,l[lb l t].ID=t:=by
 unfold fnd at h;split at h
 ·rename_i a ha;obtain⟨h1,h2⟩:=qy.1 ha;exact⟨h1,by rw[h2];simpa using h⟩
 ·cases h
def getA (l:List wB) (t:Int):wB:=match l.find? (fun a=>decide (a.ID=t))with
 |some a=>a
 |none=>⟨t,0,0⟩
theorem getA_of {l:List wB} {t:Int} (hs:Srt l) (h:fnd l t=true) (hl:lb l t<l.length):getA l t=l[lb l t]:=by
 obtain⟨_,he⟩:=k4w h;unfold getA;have:l.find? (fun a=>decide (a.ID=t))=some l[lb l t]:=by rw[List.find?_eq_some_iff_getElem];refine⟨by simpa using he,lb l t,hl,rfl,fun j hj=> ?_⟩;have:=(lb_spec l t).1 j qqo hj;simp;omega
 rw[this]
theorem getA_no {l:List wB} {t:Int} (hs:Srt l) (h:fnd l t=false):getA l t=⟨t,0,0⟩:=by
 unfold getA
 have:l.find? (fun a=>decide (a.ID=t))=none:=by
  rw[qeu];intro a ha hat;simp only[qai]at hat;obtain⟨k,hk,rfl⟩:=qby ha;obtain⟨g1,g2⟩:=lb_spec l t;rcases qar k (lb l t)with h1|h1
  ·have:=g1 k hk h1;omega
  ·have h2:lb l t<l.length:=by omega
   have h3:=g2 h2
   have h4:l[lb l t].ID≠t:=by
    intro he;have:fnd l t=true:=by unfold fnd;rw[qd h2];simpa using he
    rw[h]at this;cases this
   rcases qar (lb l t) k with h5|h5
   ·have:=hs _ _ h5 hk;omega
   ·have:k=lb l t:=by omega
    subst this;omega
 rw[this]
def AccOk (a:wB):Prop:=(0<=a.ID/\a.ID<18446744069414584321)/\(0<=a.wb/\a.wb<=9223372036854775807)/\0<=a.wS/\a.wS<18446744073709551616
def OkA (l:List wB):Prop:=Srt l/\l.length<=1000/\∀a∈l,AccOk a
theorem getA_ok {l:List wB} (h:OkA l) (t:Int):(0<=(getA l t).wb/\(getA l t).wb<=9223372036854775807)/\0<=(getA l t).wS/\(getA l t).wS<18446744073709551616:=by
 unfold getA;split
 ·rename_i a ha;exact(h.2.2 a (List.mem_of_find?_eq_some ha)).2
 ·simp
theorem getA_at {l:List wB} {t:Int} {i:Nat} (hi:i<l.length) (he:l[i].ID=t) (hb:∀k (h:k<l.length),k<i->l[k].ID≠t):getA l t=l[i]:=by
 unfold getA;have:l.find? (fun a=>decide (a.ID=t))=some l[i]:=by rw[List.find?_eq_some_iff_getElem];exact⟨by simpa using he,i,hi,rfl,fun j hj=>by have:=hb j qqo hj;simpa using this⟩
 rw[this]
theorem kqb {l:List wB} {t:Int} (hb:∀k (h:k<l.length),l[k].ID≠t):getA l t=⟨t,0,0⟩:=by
 unfold getA;have:l.find? (fun a=>decide (a.ID=t))=none:=by rw[qeu];intro a ha hat;obtain⟨k,hk,rfl⟩:=qby ha;exact hb k hk (by simpa using hat)
 rw[this]
theorem getA_id (l:List wB) (t:Int):(getA l t).ID=t:=by
 unfold getA;split
 ·rename_i a ha;simpa using List.find?_some ha
 ·rfl
def putA (l:List wB) (a:wB):List wB:=l.take (lb l a.ID)++(if a.wb≠0∨a.wS≠0 then [a]else [])++l.drop (lb l a.ID+if fnd l a.ID then 1 else 0)
def creditA (l:List wB) (id amt:Int):List wB×Int:=if 9223372036854775807-(getA l id).wb<amt then([],1)else(putA l ⟨id,(getA l id).wb+amt,(getA l id).wS⟩,0)
def debitA (l:List wB) (id amt non:Int):List wB×Int:=if amt=0 then([],1)else if non≠(getA l id).wS∨non=18446744073709551615 then([],20)else if(getA l id).wb<amt then([],15)else(putA l ⟨id,(getA l id).wb-amt,non+1⟩,0)
theorem tail_eq {l:List wB} (hs:Srt l) (t:Int):l.filter (fun x=>decide (t<x.ID))=l.drop (lb l t+if fnd l t then 1 else 0):=by
 obtain⟨g1,g2⟩:=lb_spec l t
 have key:∀(i:Nat),(∀k (h:k<l.length),k<i->l[k].ID<=t)->(∀k (h:k<l.length),i<=k->t<l[k].ID)->l.filter (fun x=>decide (t<x.ID))=l.drop i:=by
  intro i h1 h2;rw[<-qbh i l,List.filter_append,qbh];have e1:(l.take i).filter (fun x=>decide (t<x.ID))=[]:=by rw[qez];intro x hx;obtain⟨k,hk,rfl⟩:=qby hx;rw[qu]at hk;have:=h1 k qqo qqo;rw[List.getElem_take];simp;omega
  have e2:(l.drop i).filter (fun x=>decide (t<x.ID))=l.drop i:=by rw[List.filter_eq_self];intro x hx;obtain⟨k,hk,rfl⟩:=qby hx;rw[qan]at hk;have:=h2 (i+k) qqo qqo;rw[List.getElem_drop];simp;omega
  rw[e1,e2,qci]
 apply key
 ·intro k h hk;split at hk
  ·rename_i hf;obtain⟨h1,h2⟩:=k4w hf;rcases qar k (lb l t)with h3|h3
   ·have:=g1 k h h3;omega
   ·have:k=lb l t:=by omega
    subst this;omega
  ·have:=g1 k h qqo;omega
 ·intro k h hk;split at hk
  ·rename_i hf;obtain⟨h1,h2⟩:=k4w hf;have:=hs (lb l t) k qqo h;omega
  ·rename_i hf;have h1:lb l t<l.length:=by omega
   have h2:=g2 h1;have h3:l[lb l t].ID≠t:=by intro he;apply hf;unfold fnd;rw[qd h1];simpa using he
   rcases qar (lb l t) k with h5|h5
   ·have:=hs _ _ h5 h;omega
   ·have:k=lb l t:=by omega
    subst this;omega
theorem inc_i64 (i:Nat) (h:i<4611686018427387904):i64.wrap ((i:Int)+1)=((i+1:Nat):Int):=by rw[km _ qqo qqo];omega
theorem mid_eq (i j:Nat) (h:i+j<9223372036854775808):i64.wrap (ishr .u64 (u64.wrap (i64.wrap (↑i+↑j))) 1)=(((i+j)/2:Nat):Int):=by have e1:i64.wrap ((i:Int)+j)=(i:Int)+j:=km _ qqo qqo;have e2:u64.wrap ((i:Int)+j)=(i:Int)+j:=wrap_u64 _ qqo qqo;have e:(2:Int)^min (1:Int).toNat u64.bits=2:=rfl;have e3:((i:Int)+j).fdiv 2=((i:Int)+j)/2:=Int.fdiv_eq_ediv_of_nonneg _ qqo;unfold ishr;rw[e1,e2,e,e3,km _ qqo qqo];omega
def cmp3 (a b:Int):Int:=if a<b then -1 else if b<a then 1 else 0
theorem cmp3_lt {a b:Int}:(cmp3 a b<0)↔a<b:=by unfold cmp3;split<;>(try split)<;>omega
theorem cmp3_eq {a b:Int}:(cmp3 a b=0)↔a=b:=by unfold cmp3;split<;>(try split)<;>omega
theorem put_len (l:List wB) (a:wB):(putA l a).length<=l.length+1:=by have:=lb_le l a.ID;unfold putA;simp only[qh,qu,qan];split<;>simp<;>omega
theorem ok_nil:OkA []:=⟨fun i j _ h=>by simp at h,by simp,by simp⟩
theorem srt_pw {l:List wB}:Srt l↔l.Pairwise (fun a b=>a.ID<b.ID):=by rw[List.pairwise_iff_getElem];exact⟨fun h i j hi hj hij=>h i j hij hj,fun h i j hij hj=>h i j qqo hj hij⟩
def Mid (id:Int) (m:List wB):Prop:=m=[]∨∃x:wB,m=[x]/\x.ID=id
def Spl (l:List wB) (id:Int) (a m b:List wB):Prop:=l=a++(m++b)/\(∀x∈a,x.ID<id)/\Mid id m/\∀x∈b,id<x.ID
theorem spl_of {l:List wB} (hs:Srt l) (id:Int):∃a m b,Spl l id a m b:=by
 rw[srt_pw]at hs;induction l with
 |nil=>exact⟨[],[],[],rfl,by simp,.inl rfl,by simp⟩
 |cons x r ih=>
  obtain⟨h1,h2⟩:=List.pairwise_cons.1 hs;by_cases hx:x.ID<id
  ·obtain⟨a,m,b,rfl,g1,g2,g3⟩:=ih h2;refine⟨x::a,m,b,rfl,?_,g2,g3⟩;intro y hy;rcases qae.1 hy with rfl|hy
   ·exact hx
   ·exact g1 y hy
  ·by_cases he:x.ID=id
   ·exact⟨[],[x],r,rfl,by simp,.inr ⟨x,rfl,he⟩,fun y hy=>by have:=h1 y hy;omega⟩
   ·refine⟨[],[],x::r,rfl,by simp,.inl rfl,?_⟩;intro y hy;rcases qae.1 hy with rfl|hy
    ·omega
    ·have:=h1 y hy;omega
theorem take_lb (l:List wB) (t:Int):l.take (lb l t)=l.takeWhile (fun a=>decide (a.ID<t)):=(List.prefix_iff_eq_take.1 (List.takeWhile_prefix _)).symm
theorem put_spl {l a m b:List wB} {x:wB} (hs:Srt l) (h:Spl l x.ID a m b):putA l x=a++((if x.wb≠0∨x.wS≠0 then [x]else [])++b):=by
 obtain⟨rfl,h1,h2,h3⟩:=h;unfold putA;rw[<-tail_eq hs,take_lb,qw]
 have e1:(a++(m++b)).takeWhile (fun y=>decide (y.ID<x.ID))=a:=by
  rw[List.takeWhile_append_of_pos (by intro y hy;simpa using h1 y hy)]
  have:(m++b).takeWhile (fun y=>decide (y.ID<x.ID))=[]:=by
   rcases h2 with rfl|⟨y,rfl,hy⟩
   ·cases b with
    |nil=>rfl
    |cons y b=>rw[qci,qdp,qe];have:=h3 y qqs;simp;omega
   ·rw[List.cons_append,qdp,qe];simp;omega
  rw[this,qcd]
 have e2:(a++(m++b)).filter (fun y=>decide (x.ID<y.ID))=b:=by
  rw[List.filter_append,List.filter_append];have f1:a.filter (fun y=>decide (x.ID<y.ID))=[]:=by rw[qez];intro y hy;have:=h1 y hy;simp;omega
  have f2:m.filter (fun y=>decide (x.ID<y.ID))=[]:=by
   rw[qez];intro y hy;rcases h2 with rfl|⟨z,rfl,hz⟩
   ·simp at hy
   ·simp at hy;subst hy;simp;omega
  have f3:b.filter (fun y=>decide (x.ID<y.ID))=b:=by rw[List.filter_eq_self];intro y hy;have:=h3 y hy;simpa using this
  rw[f1,f2,f3];rfl
 rw[e1,e2]
theorem get_spl {l a m b:List wB} {id:Int} (h:Spl l id a m b):getA l id=m.headD ⟨id,0,0⟩:=by
 obtain⟨rfl,h1,h2,h3⟩:=h;unfold getA;have f1:a.find? (fun y=>decide (y.ID=id))=none:=by rw[qeu];intro y hy;have:=h1 y hy;simp;omega
 have f3:b.find? (fun y=>decide (y.ID=id))=none:=by rw[qeu];intro y hy;have:=h3 y hy;simp;omega
 rw[List.find?_append,List.find?_append,f1,f3];rcases h2 with rfl|⟨x,rfl,hx⟩
 ·rfl
 ·simp[hx]
theorem srt_spl {a m b:List wB} {id:Int} {l:List wB} (hs:Srt l) (h:Spl l id a m b) {m' :List wB} (hm:Mid id m'):Srt (a++(m' ++b)):=by
 obtain⟨rfl,h1,h2,h3⟩:=h;rw[srt_pw]at hs ⊢;rw[List.pairwise_append]at hs ⊢;obtain⟨k1,k2,k3⟩:=hs;rw[List.pairwise_append]at k2 ⊢;obtain⟨_,k4,_⟩:=k2;refine⟨k1,⟨?_,k4,?_⟩,?_⟩
 ·rcases hm with rfl|⟨x,rfl,_⟩<;>simp
 ·intro x hx y hy;rcases hm with rfl|⟨z,rfl,hz⟩
  ·simp at hx
  ·simp at hx;subst hx;have:=h3 y hy;omega
 ·intro x hx y hy;have h4:=h1 x hx;rcases qak.1 hy with hy|hy
  ·rcases hm with rfl|⟨z,rfl,hz⟩
   ·simp at hy
   ·simp at hy;subst hy;omega
  ·have:=h3 y hy;omega
theorem mid_put (x:wB):Mid x.ID (if x.wb≠0∨x.wS≠0 then [x]else []):=by
 split
 ·exact .inr ⟨x,rfl,rfl⟩
 ·exact .inl rfl
theorem put_ok {l:List wB} {x:wB} (h:OkA l) (hl:l.length<=999) (hx:AccOk x):OkA (putA l x):=by
 obtain⟨a,m,b,hS⟩:=spl_of h.1 x.ID;refine⟨?_,by have:=put_len l x;omega,?_⟩
 ·rw[put_spl h.1 hS];exact srt_spl h.1 hS (mid_put x)
 ·rw[put_spl h.1 hS];intro y hy;obtain⟨rfl,_,_,_⟩:=hS;simp only[qak]at hy;rcases hy with hy|hy|hy
  ·exact h.2.2 y (by simp[hy])
  ·split at hy
   ·simp at hy;subst hy;exact hx
   ·simp at hy
  ·exact h.2.2 y (by simp[hy])
def Nz (l:List wB):Prop:=∀a∈l,a.wb≠0∨a.wS≠0
theorem krw {l:List wB} {id amt non:Int} (h:OkA l) (hl:l.length<=999) (hid:0<=id/\id<18446744069414584321) (ha:0<=amt) (hn:0<=non/\non<18446744073709551616):OkA (debitA l id amt non).1:=by
 obtain⟨g1,g2⟩:=getA_ok h id;unfold debitA;split
 ·exact ok_nil
 ·split
  ·exact ok_nil
  ·split
   ·exact ok_nil
   ·rename_i h1 _;have:non≠18446744073709551615:=fun e=>h1 (.inr e);exact put_ok h hl ⟨hid,by simp only;omega,by simp only;omega⟩
def GoodA (n:Nat) (l:List wB):Prop:=OkA l/\Nz l/\l.length<=n
theorem k4y (n:Nat):GoodA n []:=⟨ok_nil,by simp[Nz],by simp⟩
theorem kmt {l:List wB} {x:wB} {n:Nat} (h:GoodA n l) (hn:n<=900) (hx:AccOk x):GoodA (n+1) (putA l x):=by
 obtain⟨h1,h2,h3⟩:=h;refine⟨put_ok h1 qqo hx,?_,by have:=put_len l x;omega⟩;obtain⟨a,m,b,hS⟩:=spl_of h1.1 x.ID;rw[put_spl h1.1 hS];obtain⟨rfl,_,_,_⟩:=hS;intro y hy;simp only[qak]at hy;rcases hy with hy|hy|hy
 ·exact h2 y (by simp[hy])
 ·split at hy
  ·rename_i hz;simp at hy;subst hy;exact hz
  ·simp at hy
 ·exact h2 y (by simp[hy])
theorem kb2 {l:List wB} {n:Nat} {id amt:Int} (h:GoodA n l) (hn:n<=900) (hid:0<=id/\id<18446744069414584321) (ha:0<=amt):GoodA (n+1) (creditA l id amt).1:=by
 obtain⟨g1,g2⟩:=getA_ok h.1 id;unfold creditA;split
 ·exact k4y _
 ·exact kmt h hn ⟨hid,by simp only;omega,g2⟩
theorem kf3 {l:List wB} {n:Nat} {id amt non:Int} (h:GoodA n l) (hn:n<=900) (hid:0<=id/\id<18446744069414584321) (ha:0<=amt) (hN:0<=non/\non<18446744073709551616):GoodA (n+1) (debitA l id amt non).1:=by
 obtain⟨g1,g2⟩:=getA_ok h.1 id;unfold debitA;split
 ·exact k4y _
 ·split
  ·exact k4y _
  ·split
   ·exact k4y _
   ·rename_i h1 _;have:non≠18446744073709551615:=fun e=>h1 (.inr e);exact kmt h hn ⟨hid,by simp only;omega,by simp only;omega⟩
def totA:Int->List wB->Int×Int
 |s,[]=>(s,0)
 |s,a::r=>if 18446744073709551616<=s+a.wb then(0,3)else totA (s+a.wb) r
theorem kr0 (s:Int) (l:List wB) (i:Nat) (h:i<l.length):totA s (l.drop i)=if 18446744073709551616<=s+l[i].wb then(0,3)else totA (s+l[i].wb) (l.drop (i+1)):=by rw[qo h];rfl
theorem len24 {α:Type} (m:List α) (x:α) (h:m.length<=90000):(m.length+[x].length)*24<=140737488355328/\m.length+[x].length<=maxLen:=by simp only[qj,qt];unfold maxLen;omega
def nd (a b:Int):Int:=hashS 6 [a,b]
def emp:Nat->Int
 |0=>hashS 6 []
 |i+1=>nd (emp i) (emp i)
theorem emp_u (i:Nat):U64 (emp i):=by cases i<;>exact kh _ _
theorem emp_lt (i:Nat):emp i<18446744069414584321:=by cases i<;>exact k2n _ _
theorem gD_lt {l:Li} {i:Nat} {z:Int} (h:i<l.length):l.getD i z=l[i]:=by simp[h]
theorem gD_ge {l:Li} {i:Nat} {z:Int} (h:l.length<=i):l.getD i z=z:=by simp[h]
def lf (l:Li) (p:Nat):Int:=l.getD p (emp 0)
def TT (f:Nat->Int):Nat->Nat->Int
 |0,k=>f k
 |i+1,k=>nd (TT f i (2*k)) (TT f i (2*k+1))
theorem kd0 {f g:Nat->Int}:∀(i k:Nat),(∀p,k*2^i<=p->p<(k+1)*2^i->f p=g p)->TT f i k=TT g i k
 |0,k,h=>h k qqs qqs
 |i+1,k,h=>by
  have e:2^(i+1)=2*2^i:=by rw[Nat.pow_succ];omega
  rw[e]at h;have e1:k*(2*2^i)=2*k*2^i:=by rw[<-Nat.mul_assoc,qeg k 2]
  have e2:(k+1)*(2*2^i)=(2*k+1+1)*2^i:=by rw[<-Nat.mul_assoc];congr 1;omega
  have e3:(2*k+1)*2^i=2*k*2^i+2^i:=by rw[qbr,qdc]
  have e4:(2*k+1+1)*2^i=(2*k+1)*2^i+2^i:=by rw[qbr (2*k+1),qdc]
  simp only[TT];rw[kd0 i (2*k) fun p h1 h2=>h p qqo qqo,kd0 i (2*k+1) fun p h1 h2=>h p qqo qqo]
theorem TT_emp {l:Li}:∀(i k:Nat),l.length<=k*2^i->TT (lf l) i k=emp i
 |0,k,h=>by simp only[TT,lf];rw[gD_ge qqh]
 |i+1,k,h=>by
  have e1:k*2^(i+1)=2*k*2^i:=by rw[Nat.pow_succ,qeg (2^i) 2,<-Nat.mul_assoc,qeg k 2]
  have e3:(2*k+1)*2^i=2*k*2^i+2^i:=by rw[qbr,qdc]
  have:=qbw i;simp only[TT,emp];rw[TT_emp i (2*k) qqo,TT_emp i (2*k+1) qqo]
theorem TT_r {l:Li} (hl:∀x∈l,0<=x/\x<18446744069414584321):∀(i k:Nat),0<=TT (lf l) i k/\TT (lf l) i k<18446744069414584321
 |0,k=>by
  simp only[TT,lf];by_cases h:k<l.length
  ·rw[gD_lt h];exact hl _ (qah h)
  ·rw[gD_ge qqo];exact⟨(emp_u 0).1,emp_lt 0⟩
 |i+1,k=>⟨(kh _ _).1,k2n _ _⟩
def bitN (n i:Nat):Bool:=n/2^i%2==1
def leftS (d:Nat) (l:Li):Li:=(List.range (d+1)).map fun i=>if bitN l.length i then TT (lf l) i (l.length/2^i-1)else 0
def frF (d:Int) (l:Li):wI:=⟨d,l.length,leftS d.toNat l⟩
theorem k1k (d:Nat) (l:Li):(leftS d l).length=d+1:=by simp[leftS]
theorem k2q (d:Nat) (l:Li) (i:Nat) (h:i<(leftS d l).length):(leftS d l)[i]=if bitN l.length i then TT (lf l) i (l.length/2^i-1)else 0:=by simp[leftS]
structure FV (f:wI):Prop where
 d1:1<=f.wD
 d2:f.wD<=12
 c0:0<=f.wAY
 c1:f.wAY<=((2^f.wD.toNat:Nat):Int)
 ll:f.wAa.length=f.wD.toNat+1
 u:∀x∈f.wAa,0<=x/\x<18446744069414584321
 z:∀(i:Nat) (h:i<f.wAa.length),bitN f.wAY.toNat i=false->f.wAa[i]=0
theorem frF_FV {d:Int} {l:Li} (h1:1<=d) (h2:d<=12) (hl:l.length<=2^d.toNat) (hu:∀x∈l,0<=x/\x<18446744069414584321):FV (frF d l):=by
 refine⟨h1,h2,by simp[frF],by simp only[frF];omega,k1k _ _,fun x hx=> ?_,fun i h hb=> ?_⟩
 ·simp only[frF,leftS,qau]at hx;obtain⟨i,_,rfl⟩:=hx;split
  ·exact TT_r hu _ _
  ·decide
 ·show(leftS d.toNat l)[i]=0;have hb:bitN l.length i=false:=by simpa[frF]using hb
  exact(k2q d.toNat l i h).trans (by rw[hb];rfl)
theorem shl1 (d:Nat) (h:d<=12):ishl .i64 1 (d:Int)=((2^d:Nat):Int):=by
 have:∀d∈List.range 13,ishl .i64 1 (d:Int)=((2^d:Nat):Int):=by decide
 exact this d qqm
theorem pow12 (d:Nat) (h:d<=12):2^d<=4096:=by have:2^d<=2^12:=qcy qqd h;omega
theorem bit1 (n i:Nat) (hn:n<=4096) (hi:i<=20):iand .i64 (ishr .i64 (n:Int) (i:Int)) 1=((n/2^i%2:Nat):Int):=by
 have e:min ((i:Int).toNat) i64.bits=i:=by rw[qx];exact qca (qax hi qqd)
 have e2:ishr .i64 (n:Int) (i:Int)=((n/2^i:Nat):Int):=by rw[k1e,e];simp
 have:=Nat.div_le_self n (2^i);rw[e2];generalize n/2^i=q at *
 rw[k4o _ qqo];omega
def carry:Nat->Nat->Li->Int->Nat->Li
 |0,lv,L,x,_=>L.set lv x
 |k+1,lv,L,x,n=>if bitN n lv then carry k (lv+1) (L.set lv 0) (nd (ix L (lv:Int)) x) n else L.set lv x
def apF (f:wI) (x:Int):wI:=⟨f.wD,f.wAY+1,carry (f.wD.toNat+1) 0 f.wAa x f.wAY.toNat⟩
theorem k16 (n i:Nat):n/2^(i+1)=n/2^i/2:=by rw[Nat.pow_succ,Nat.div_div_eq_div_mul]
theorem kp3 {n d:Nat} (h:n<2^d):bitN n d=false:=by unfold bitN;rw[qfb h];rfl
theorem succ_hi {n i:Nat} (h:bitN n i=true) (hq:(n+1)/2^i=n/2^i+1):(n+1)/2^(i+1)=n/2^(i+1)+1:=by
 have h:n/2^i%2=1:=by simpa[bitN]using h
 rw[k16,k16,hq];omega
theorem succ_lo {n i:Nat} (h:bitN n i=false) (hq:(n+1)/2^i=n/2^i+1):∀j,i<j->(n+1)/2^j=n/2^j:=by
 have h:¬n/2^i%2=1:=by simpa[bitN]using h
 intro j;induction j with
 |zero=>intro hj;omega
 |succ j ih=>
  intro hj;rcases qar i j with h1|h1
  ·rw[k16,k16,ih h1]
  ·have:j=i:=by omega
   subst this;rw[k16,k16,hq];omega
theorem TT_app {l:Li} {x:Int} {i k:Nat} (h:(k+1)*2^i<=l.length):TT (lf (l++[x])) i k=TT (lf l) i k:=by refine kd0 i k fun p _ h2=> ?_;unfold lf;rw[qfm,qfm,qaw qqo]
theorem kkd (d:Nat) (l:Li) (x:Int) (hn:l.length<2^d):∀(k lv:Nat) (L:Li) (y:Int),lv+k=d+1->L.length=d+1->
  (l.length+1)/2^lv=l.length/2^lv+1->y=TT (lf (l++[x])) lv (l.length/2^lv)->
  (∀(i:Nat) (h:i<L.length),L[i]=if i<lv then 0 else(leftS d l).getD i 0)->(∀i,i<lv->bitN (l.length+1) i=false)->carry k lv L y l.length=leftS d (l++[x])
 |0,lv,L,y,hk,hL,hq,hy,hg,hb=>by
  exfalso;have hlv:lv=d+1:=by omega
  subst hlv;have hp:2^(d+1)=2*2^d:=by rw[Nat.pow_succ];omega
  have h1:1<=2^d:=qbw d;rw[hp,qfb qqo,qfb qqo]at hq;omega
 |k+1,lv,L,y,hk,hL,hq,hy,hg,hb=>by
  unfold carry;have hlv:lv<L.length:=by omega
  by_cases hbit:bitN l.length lv=true
  ·rw[qf hbit];have hodd:l.length/2^lv%2=1:=by simpa[bitN]using hbit
   have hleft:ix L (lv:Int)=TT (lf (l++[x])) lv (2*(l.length/2^(lv+1))):=by
    have h2:lv<(leftS d l).length:=by rw[k1k];omega
    rw[ix_get _ _ hlv,hg lv hlv,qe qqo,gD_lt h2,k2q,qf hbit];have e:l.length/2^lv-1=2*(l.length/2^(lv+1)):=by rw[k16];omega
    rw[e];refine(TT_app ?_).symm;have:(2*(l.length/2^(lv+1))+1)=l.length/2^lv:=by rw[k16];omega
    rw[this];exact Nat.div_mul_le_self _ _
   refine kkd d l x hn k (lv+1) _ _ qqo (by simp[hL]) (succ_hi hbit hq) ?_ (fun i h=> ?_) (fun i hi=> ?_)
   ·simp only[TT];rw[hleft,hy];have:l.length/2^lv=2*(l.length/2^(lv+1))+1:=by rw[k16];omega
    rw[<-this]
   ·rw[List.getElem_set];by_cases h1:lv=i
    ·rw[qf h1,qf qqo]
    ·rw[qe h1,hg i qqh];by_cases h2:i<lv
     ·rw[qf h2,qf qqo]
     ·rw[qe h2,qe qqo]
   ·rcases qar i lv with h1|h1
    ·exact hb i h1
    ·have:i=lv:=by omega
     subst this;unfold bitN;rw[hq];have:(l.length/2^i+1)%2=0:=by omega
     rw[this];rfl
  ·have hbit:bitN l.length lv=false:=by simpa using hbit
   rw[qe (by rw[hbit];decide)];have hev:¬l.length/2^lv%2=1:=by simpa[bitN]using hbit
   have hlo:=succ_lo hbit hq;apply List.ext_getElem
   ·simp[k1k,hL]
   ·intro i h1 h2;rw[k2q,List.getElem_set,qh,qcg];have hi:i<L.length:=by simpa using h1
    by_cases h3:lv=i
    ·subst h3;rw[qf rfl,hy];have:bitN (l.length+1) lv=true:=by unfold bitN;rw[hq];simp;omega
     rw[qf this,hq];rfl
    ·rw[qe h3,hg i hi];rcases qar i lv with h4|h4
     ·rw[qf h4,hb i h4];rfl
     ·have h5:lv<i:=by omega
      have hs:i<(leftS d l).length:=by rw[k1k];omega
      rw[qe qqo,gD_lt hs,k2q];have eb:bitN (l.length+1) i=bitN l.length i:=by unfold bitN;rw[hlo i h5]
      rw[eb,hlo i h5];by_cases hb2:bitN l.length i=true
      ·rw[qf hb2,qf hb2];refine(TT_app ?_).symm;have ho:l.length/2^i%2=1:=by simpa[bitN]using hb2
       have:l.length/2^i-1+1=l.length/2^i:=Nat.sub_add_cancel (Nat.pos_of_ne_zero fun h=>by rw[h]at ho;cases ho);rw[this];exact Nat.div_mul_le_self _ _
      ·rw[qe hb2,qe hb2]
theorem apF_frF {d:Int} {l:Li} {x:Int} (hn:l.length<2^d.toNat):apF (frF d l) x=frF d (l++[x]):=by
 have:=kkd d.toNat l x hn (d.toNat+1) 0 (leftS d.toNat l) x qqo (k1k _ _) qqs (by simp[TT,lf]) (fun i h=>by
  rw[qe qqo,gD_lt h]) (fun i hi=>by omega)
 unfold apF frF;simp only[qx];rw[this];simp
def rootGo (f:wI):Nat->Nat->Int->Int->Int
 |0,_,_,x=>x
 |k+1,lv,e,x=>rootGo f k (lv+1) (nd e e) (if bitN f.wAY.toNat lv then nd (ix f.wAa (lv:Int)) x else nd x e)
def rootF (f:wI):Int:=if f.wAY=((2^f.wD.toNat:Nat):Int)then ix f.wAa f.wD else rootGo f f.wD.toNat 0 (emp 0) (emp 0)
theorem kgz (d:Int) (l:Li):∀(k lv:Nat) (x:Int),lv+k=d.toNat->x=TT (lf l) lv (l.length/2^lv)->rootGo (frF d l) k lv (emp lv) x=TT (lf l) (lv+k) (l.length/2^(lv+k))
 |0,lv,x,_,hx=>hx
 |k+1,lv,x,hk,hx=>by
  unfold rootGo;rw[show lv+(k+1)=lv+1+k by omega];have hc:(frF d l).wAY.toNat=l.length:=by simp[frF]
  rw[hc];refine kgz d l k (lv+1) _ qqo ?_;have hh:=k16 l.length lv;simp only[TT];by_cases hb:bitN l.length lv=true
  ·have ho:l.length/2^lv%2=1:=by simpa[bitN]using hb
   have hs:lv<(leftS d.toNat l).length:=by rw[k1k];omega
   rw[qf hb,show(frF d l).wAa=leftS d.toNat l from rfl,ix_get _ _ hs,k2q,qf hb,hx];have e1:l.length/2^lv-1=2*(l.length/2^(lv+1)):=by omega
   have e2:l.length/2^lv=2*(l.length/2^(lv+1))+1:=by omega
   rw[e1,<-e2]
  ·have ho:¬l.length/2^lv%2=1:=by simpa[bitN]using hb
   rw[qe hb,hx];have e2:l.length/2^lv=2*(l.length/2^(lv+1)):=by omega
   rw[<-e2];congr 1;refine(TT_emp lv _ ?_).symm;have:=Nat.lt_div_mul_add (a:=l.length) (b:=2^lv) (qbw lv);rw[qbr,qdc];omega
theorem k57 {d:Int} {l:Li} (h0:0<=d) (hn:l.length<=2^d.toNat):rootF (frF d l)=TT (lf l) d.toNat 0:=by
 unfold rootF;by_cases hc:(frF d l).wAY=((2^(frF d l).wD.toNat:Nat):Int)
 ·rw[qf hc];have hc:l.length=2^d.toNat:=by simp only[frF]at hc;omega
  have hs:d.toNat<(leftS d.toNat l).length:=by rw[k1k];omega
  have e:(frF d l).wD=(d.toNat:Int):=by simp only[frF];omega
  have e1:l.length/2^d.toNat=1:=by rw[hc];exact Nat.div_self (qbw _)
  have hb:bitN l.length d.toNat=true:=by unfold bitN;rw[e1];rfl
  rw[e,show(frF d l).wAa=leftS d.toNat l from rfl,ix_get _ _ hs,k2q,qf hb,e1]
 ·rw[qe hc];have hc:l.length<2^d.toNat:=by simp only[frF]at hc;omega
  have:=kgz d l d.toNat 0 (emp 0) qqo (by simp[TT,lf]);rw[show(frF d l).wD=d from rfl,this,qat,qfb hc]
def lvl (l:Li) (d i:Nat):Li:=(List.range (2^(d-i))).map (TT (lf l) i)
def pairs:Li->Li
 |a::b::r=>nd a b::pairs r
 |_=>[]
theorem knq {l:Li} (h:l.length<=1):pairs l=[]:=by
 match l,h with
 |[],_=>rfl
 |[_],_=>rfl
theorem kok {l:Li} {j:Nat} (h:j+1<l.length):pairs (l.drop j)=nd (l[j]' qqo) l[j+1]::pairs (l.drop (j+2)):=by rw[qo (show j<l.length by omega),qo (show j+1<l.length by omega)];rfl
theorem kb6 (f:Nat->Int):∀(n a:Nat),pairs ((List.range' a (2*n)).map f)=(List.range n).map fun k=>nd (f (a+2*k)) (f (a+2*k+1))
 |0,a=>rfl
 |n+1,a=>by rw[show 2*(n+1)=2*n+1+1 by omega,List.range'_succ,List.range'_succ,qad,qad,List.range_succ_eq_map,qad,qbq];rw[pairs,kb6 f n (a+1+1),Nat.mul_zero,qct];refine congrArg (List.cons _) (qap fun k _=> ?_);simp only[Function.comp,Nat.succ_eq_add_one];rw[show a+1+1+2*k=a+2*(k+1)by omega]
theorem klf {l:Li} {d i:Nat} (h:i<d):pairs (lvl l d i)=lvl l d (i+1):=by
 unfold lvl;have e:2^(d-i)=2*2^(d-(i+1)):=by rw[show d-i=d-(i+1)+1 by omega,Nat.pow_succ];omega
 rw[e,List.range_eq_range',kb6];refine qap fun k _=> ?_;simp only[TT,qat]
theorem lvl_len (l:Li) (d i:Nat):(lvl l d i).length=2^(d-i):=by simp[lvl]
theorem lvl_u {l:Li} (hl:∀x∈l,0<=x/\x<18446744069414584321) (d i:Nat):∀x∈lvl l d i,0<=x/\x<18446744069414584321:=by intro x hx;obtain⟨k,_,rfl⟩:=qau.1 hx;exact TT_r hl _ _
theorem kc1 {l:Li} {d:Nat} (h:l.length<=2^d):l++List.replicate (2^d-l.length) (emp 0)=lvl l d 0:=by
 apply List.ext_getElem
 ·simp[lvl_len];omega
 ·intro i h1 h2;simp only[lvl,List.getElem_map,List.getElem_range,TT,lf];by_cases hi:i<l.length
  ·rw[List.getElem_append_left hi,gD_lt hi]
  ·rw[List.getElem_append_right qqo,gD_ge qqo,List.getElem_replicate]
def trs (k:Li):Lo:=List.replicate k.length true
theorem k6z {m:Int}:∀{k:Li},(mIdx (BEq.beq m) k).isSome=decide (m∈k)
 |[]=>rfl
 |x::r=>by
  unfold mIdx;by_cases h:m=x
  ·subst h;simp
  ·have:BEq.beq m x=false:=by simpa using h
   rw[this,qce,Option.isSome_map,k6z];simp[h]
theorem sVal (k:Li) (m:Int):mVal (BEq.beq m) k (trs k) false=decide (m∈k):=by
 rw[<-k6z];unfold mVal;cases h:mIdx (BEq.beq m) k with
 |none=>rfl
 |some j=>simp[trs,mIdx_lt h]
theorem sPut {k:Li} {m:Int} (h:m∉k):mPutK (BEq.beq m) k m=k++[m]/\mPutV (BEq.beq m) k (trs k) true=trs (k++[m]):=by
 have:mIdx (BEq.beq m) k=none:=by
  have:=k6z (m:=m) (k:=k);rw[qay h]at this;cases hq:mIdx (BEq.beq m) k with
  |none=>rfl
  |some j=>rw[hq]at this;cases this
 unfold mPutK mPutV;rw[this];exact⟨rfl,by simp[trs,List.replicate_succ']⟩
theorem k78 {m:Int}:∀{k:Li} {j:Nat},mIdx (BEq.beq m) k=some j->k.eraseIdx j=k.erase m
 |x::r,j,h=>by
  unfold mIdx at h;by_cases e:m=x
  ·subst e;simp at h;subst h;simp
  ·have e2:BEq.beq m x=false:=by simpa using e
   rw[e2,qce]at h;cases hq:mIdx (BEq.beq m) r with
   |none=>rw[hq]at h;cases h
   |some i=>rw[hq]at h;simp at h;subst h;rw[List.eraseIdx_cons_succ,k78 hq,List.erase_cons_tail (by simpa using fun h=>e h.symm)]
theorem sDel (k:Li) (m:Int):mDelK (BEq.beq m) k=k.erase m/\mDelV (BEq.beq m) k (trs k)=trs (k.erase m):=by
 unfold mDelK mDelV;cases h:mIdx (BEq.beq m) k with
 |none=>
  have h2:m∉k:=by have:=k6z (m:=m) (k:=k);rw[h]at this;simpa using this.symm
  rw[List.erase_of_not_mem h2];exact⟨rfl,rfl⟩
 |some j=>
  refine⟨k78 h,?_⟩;have hj:=mIdx_lt h;rw[<-k78 h];unfold trs;refine List.eq_replicate_iff.2 ⟨?_,fun b hb=> ?_⟩
  ·simp[List.length_eraseIdx]
  ·exact(List.eq_replicate_iff.1 rfl).2 b (qev hb)
def addS (l k:Li):Int×Li:=if(l.any fun m=>decide (m∈k))|| !decide l.Nodup then(12,k)else(0,k++l)
def remS (l k:Li):Int×Li:=if(l.any fun m=> !decide (m∈k))|| !decide l.Nodup then(4,k)else(0,l.foldl List.erase k)
theorem kpl {m:Int} {k r:Li} (h:m∉k):(k++m::r).erase m=k++r:=by rw[List.erase_append_right _ h,List.erase_cons_head]
theorem rem_add:∀{l k:Li},(k++l).Nodup->l.foldl List.erase (k++l)=k
 |[],k,_=>by simp
 |m::r,k,h=>by
  have h1:m∉k:=fun hm=>by rw[qcf]at h;exact h.2.2 m hm m qqs rfl
  rw[qet,kpl h1];refine rem_add ?_;rw[qcf]at h ⊢;refine⟨h.1,(qdv.1 h.2.1).2,fun a ha b hb=>h.2.2 a ha b (by simp[hb])⟩
theorem kst (k:Li) (x:Int):srt (k++[x])=insI x (srt k):=(srt_eq ((k3n x (srt k)).trans (((k4z k).cons x).trans (List.perm_append_singleton x k).symm)) (k5p x _ (k6o k))).symm
theorem srt_app (k:Li):∀l:Li,srt (k++l)=l.foldl (fun a x=>insI x a) (srt k)
 |[]=>by simp
 |x::r=>by rw[qet,<-kst,<-srt_app (k++[x]) r,qw];rfl
def pws (n:Nat) (z b:Int):Bool:=(List.range n).any fun j=>b==z*((2^j:Nat):Int)
def prS (p:wAy):Bool:=pws 8 2 p.wBU&&pws 4 1 p.wBM&&decide (1<=p.wBT)&&decide (p.wBT<=64)
def rulesB (p:wP):Bool:=decide (1<=p.wAk)&&decide (p.wAk<=3)&&decide (1<=p.wD)&&decide (p.wD<=12)&&decide (1<=p.wAe)&&decide (p.wAe<=100)&&decide (1<=p.wAQ)&&decide (p.wAQ<=1048576)&&decide (p.wd<=4294967296)&&decide (1<=p.wBA)&&decide (p.wBA<=65536)
def rulesE (p:wP):Int:=if rulesB p then(if p.wAk=1 then(if prS ⟨p.wAG,p.wAA,p.ww⟩then 0 else 1)else 0)else 1
theorem pws_and (b:Nat) (h:2<=b/\b<=256):(iand .i64 (b:Int) (((b:Int))-1)==0)=pws 8 2 b:=by
 have:∀b∈List.range' 2 255,(iand .i64 ((b:Nat):Int) (((b:Nat):Int)-1)==0)=pws 8 2 ((b:Nat):Int):=by decide +kernel
 exact this b (by rw[List.mem_range'_1];omega)
theorem kgt {n:Nat} {z b:Int} (h:pws n z b=true) (hz:0<z):z<=b/\b<=z*((2^(n-1):Nat):Int):=by
 obtain⟨j,hj,e⟩:=List.any_eq_true.1 h;have hj:j<n:=by simpa using hj
 have e:b=z*((2^j:Nat):Int):=by simpa using e
 have h1:1<=2^j:=qbw j;have h2:2^j<=2^(n-1):=qcy qqd qqo;rw[e];constructor
 ·have:=qej (show(1:Int)<=((2^j:Nat):Int)by omega) (show 0<=z by omega);omega
 ·exact qej qqo qqo
theorem k7h (n:Nat) (z b:Int):pws (n+1) z b=(pws n z b||b==z*((2^n:Nat):Int)):=by simp[pws,List.range_succ]
structure PS where
 R:wP
 F:wI
 b:List wB
 n:Int
 l:Li
 r:Li
 p:List wAB
 k:Li
 v:Lo
def ancL (r:Li) (w:Int):Li:=r.drop (r.length-w.toNat)
def chk (h:Int) (anc k:Li) (b:List wB) (n:Int) (ll:Nat) (d:Int) (t:wy):Int:=
 if validE t≠0 then validE t else if t.wAc<h+1 then 14 else if t.wM∉anc then 11 else if t.wE.any (fun m=>decide (m∈k))=true then 12
 else if 0<t.wH/\(debitA b t.wQ t.wH t.wS).2≠0 then(debitA b t.wQ t.wH t.wS).2
 else if u64.wrap (n+t.wH)<u64.wrap (t.wL+t.Fee)then 13 else if 2^d.toNat<ll+t.wA.length then 16 else 0
def chkS (s:PS) (t:wy):Int:=chk (s.p.length:Int) (ancL s.r s.R.wAe) s.k s.b s.n s.l.length s.R.wD t
def outsF (F:wI) (o:List wBW):wI:=o.foldl (fun f x=>apF f x.wm) F
def depA (b:List wB) (t:wy):List wB:=if 0<t.wH then(debitA b t.wQ t.wH t.wS).1 else b
def wdA (b:List wB) (t:wy):List wB×Int:=if 0<t.wL then creditA (depA b t) t.wQ t.wL else(depA b t,0)
def hidN (n:Int) (t:wy):Int:=u64.wrap (u64.wrap (u64.wrap (n+t.wH)-t.wL)-t.Fee)
structure PE where
 e:Int
 s:PS
def perfS (s:PS) (t:wy):PE:=
 if(wdA s.b t).2≠0 then⟨(wdA s.b t).2,{s with F:=outsF s.F t.wA,l:=s.l++t.wA.map (·.wm),k:=s.k++t.wE,v:=trs (s.k++t.wE),b:=depA s.b t}⟩
 else⟨0,{s with F:=outsF s.F t.wA,l:=s.l++t.wA.map (·.wm),k:=s.k++t.wE,v:=trs (s.k++t.wE),b:=(wdA s.b t).1,n:=hidN s.n t}⟩
structure PB where
 e:Int
 s:PS
 m:Li
 f:Int
def blkGo:List wy->PS->Li->Int->PB
 |[],s,m,f=>⟨0,s,m,f⟩
 | t::r,s,m,f=>if chkS s t≠0 then⟨chkS s t,s,m,f⟩else if(perfS s t).e≠0 then⟨(perfS s t).e,(perfS s t).s,m++t.wE,f⟩
   else blkGo r (perfS s t).s (m++t.wE) (u64.wrap (f+t.Fee))
def crB (x:PB) (b:wU):List wB×Int:=creditA x.s.b b.wBP (u64.wrap (x.s.R.wd+x.f))
def blkS (s:PS) (m:Li) (b:wU):PB:=
 if(blkGo b.Txs s m 0).e≠0 then blkGo b.Txs s m 0
 else if(crB (blkGo b.Txs s m 0) b).2≠0 then {blkGo b.Txs s m 0 with e:=(crB (blkGo b.Txs s m 0) b).2}
 else {blkGo b.Txs s m 0 with e:=0,s:={(blkGo b.Txs s m 0).s with b:=(crB (blkGo b.Txs s m 0) b).1}}
def befS (s:PS) (m:Li):wAB:=⟨s.F.wD,s.F.wAY,s.F.wAa,s.l.length,m,s.b,s.n⟩
def applyS (s:PS) (b:wU):PE:=
 if b.wO≠(s.p.length:Int)+1 then⟨18,s⟩else if 18446744069414584321<=b.wBP then⟨1,s⟩else
 if(blkS s [] b).e≠0 then⟨(blkS s [] b).e,s⟩
 else⟨0,{(blkS s [] b).s with p:=s.p++[befS s (blkS s [] b).m],r:=s.r++[rootF (blkS s [] b).s.F]}⟩
def resS (s:PS) (q:wAB):PS:={s with F:=⟨q.wBY,q.wBZ,q.wBa⟩,b:=q.wBV,n:=q.hidden,l:=s.l.take q.leaves.toNat,k:=(remS q.marks s.k).2,v:=trs (remS q.marks s.k).2}
def newS (r:wP):PS:=⟨r,frF r.wD [],[],0,[],[rootF (frF r.wD [])],[],[],[]⟩
def BG (l:Li):Prop:=∀x∈l,0<=x/\x<18446744069414584321
def sumA (l:List wB):Int:=(l.map (·.wb)).sum
structure PI (s:PS) (c:Nat) (f:Int):Prop where
 d1:1<=s.R.wD
 d2:s.R.wD<=12
 w1:1<=s.R.wAe
 w2:s.R.wAe<=100
 rw:0<=s.R.wd/\s.R.wd<=4294967296
 F:s.F=frF s.R.wD s.l
 ll:s.l.length<=2^s.R.wD.toNat
 l:BG s.l
 b:GoodA c s.b
 n:0<=s.n
 ff:0<=f
 sup:sumA s.b+s.n+f=(s.p.length:Int)*s.R.wd
 r:BG s.r
 rl:s.r.length=s.p.length+1
 p:s.p.length<=c
 kn:s.k.Nodup
 kb:BG s.k
 kl:s.k.length<=4*c
 v:s.v=trs s.k
theorem sum_app (a b:List wB):sumA (a++b)=sumA a+sumA b:=by simp[sumA]
theorem sumA_nn {l:List wB} (h:∀a∈l,0<=a.wb):0<=sumA l:=by
 induction l with
 |nil=>exact qcc _
 |cons a l ih=>
  have h1:=h a qqs;have h2:=ih fun x hx=>h x (by simp[hx]);have:sumA (a::l)=a.wb+sumA l:=by simp[sumA]
  omega
theorem sum_put {l:List wB} {x:wB} (hs:Srt l):sumA (putA l x)=sumA l-(getA l x.ID).wb+x.wb:=by
 obtain⟨a,m,b,h⟩:=spl_of hs x.ID;rw[put_spl hs h,get_spl h,h.1]
 have e1:sumA (if x.wb≠0∨x.wS≠0 then [x]else [])=x.wb:=by
  split
  ·simp[sumA]
  ·rename_i hh;have:x.wb=0:=qz fun hb=>hh (.inl hb);rw[this];rfl
 have e2:sumA m=(m.headD ⟨x.ID,0,0⟩).wb:=by
  rcases h.2.2.1 with rfl|⟨y,rfl,_⟩
  ·rfl
  ·simp[sumA]
 simp only[sum_app,e1,e2];omega
theorem kdz {l:List wB} {id amt:Int} (hs:Srt l) (h:(creditA l id amt).2=0):sumA (creditA l id amt).1=sumA l+amt:=by
 unfold creditA at h ⊢;split at h
 ·cases h
 ·rename_i hh;rw[qe hh];have:=sum_put (x:=⟨id,(getA l id).wb+amt,(getA l id).wS⟩) hs;rw[this];simp only;omega
theorem kph {l:List wB} {id amt non:Int} (hs:Srt l) (h:(debitA l id amt non).2=0):sumA (debitA l id amt non).1=sumA l-amt:=by
 unfold debitA at h ⊢;split at h
 ·cases h
 ·rename_i h1;rw[qe h1];split at h
  ·cases h
  ·rename_i h2;rw[qe h2];split at h
   ·cases h
   ·rename_i h3;rw[qe h3];have:=sum_put (x:=⟨id,(getA l id).wb-amt,non+1⟩) hs;rw[this];simp only;omega
theorem tot_sum:∀{l:List wB} {s:Int},(∀a∈l,0<=a.wb)->s+sumA l<18446744073709551616->totA s l=(s+sumA l,0)
 |[],s,_,_=>by simp[totA,sumA]
 |a::r,s,hn,h=>by
  have e:sumA (a::r)=a.wb+sumA r:=by simp[sumA]
  have h1:=hn a qqs;have h2:=sumA_nn (l:=r) fun x hx=>hn x (by simp[hx]);rw[e]at h ⊢;unfold totA;rw[qe qqo,tot_sum (fun x hx=>hn x (by simp[hx])) qqo];rw[Int.add_assoc]
structure CK (s:PS) (t:wy):Prop where
 v:VT t
 m:∀m∈t.wE,m∉s.k
 d:0<t.wH->(debitA s.b t.wQ t.wH t.wS).2=0
 h:¬u64.wrap (s.n+t.wH)<u64.wrap (t.wL+t.Fee)
 l:s.l.length+t.wA.length<=2^s.R.wD.toNat
theorem k7i {s:PS} {t:wy} (h:chkS s t=0):CK s t:=by
 unfold chkS chk at h;split at h
 ·rename_i h1;exact(h1 h).elim
 ·rename_i h1;split at h
  ·cases h
  ·split at h
   ·cases h
   ·split at h
    ·cases h
    ·rename_i h4;split at h
     ·rename_i h5;exact(h5.2 h).elim
     ·rename_i h5;split at h
      ·cases h
      ·rename_i h6;split at h
       ·cases h
       ·rename_i h7;refine⟨(kz t).1 (qz h1),fun m hm hk=>h4 ?_,fun hd=>qz fun he=>h5 ⟨hd,he⟩,h6,by omega⟩;exact List.any_eq_true.2 ⟨m,hm,by simpa using hk⟩
theorem VT.am' {t:wy} (v:VT t):t.wH<=4294967295/\t.wL<=4294967295/\t.Fee<=4294967295/\t.wQ<18446744069414584321/\(0<t.wH->t.wL=0):=by have:=v.am;simp only[vAmounts,qg,qai]at this;obtain⟨⟨⟨⟨⟨a1,a2⟩,a3⟩,a4⟩,a5⟩,a6⟩:=this;refine⟨a1,a2,a3,a4,fun h=> ?_⟩;rw[qf h]at a6;simpa using a6
theorem kbs {d:Int}:∀{o:List wBW} {l:Li},l.length+o.length<=2^d.toNat->outsF (frF d l) o=frF d (l++o.map (·.wm))
 |[],l,_=>by simp[outsF]
 |x::o,l,h=>by have h:l.length+(o.length+1)<=2^d.toNat:=h;show outsF (apF (frF d l) x.wm) o=_;rw[apF_frF qqo,kbs qqm,qw];rfl
theorem sup_bd {s:PS} {c:Nat} {f:Int} (h:PI s c f) (hc:c<=800):sumA s.b<=3435973836800/\s.n<=3435973836800/\f<=3435973836800/\0<=sumA s.b:=by have h0:=sumA_nn (l:=s.b) fun a ha=>(h.b.1.2.2 a ha).2.1.1;have h1:=h.sup;have h2:=h.n;have h3:=h.ff;have h4:(s.p.length:Int)*s.R.wd<=800*4294967296:=qdr (by have:=h.p;omega) h.rw.2 h.rw.1 qqd;omega
theorem PI.perf {s:PS} {c:Nat} {f:Int} (h:PI s c f) (hc:c<=800) {t:wy} (ht:TR t) (k:CK s t):(∃g,PI {(perfS s t).s with b:=s.b,n:=s.n} (c+1) g)/\GoodA (c+1) (perfS s t).s.b/\
  ((perfS s t).e=0->PI (perfS s t).s (c+1) (f+t.Fee)):=by
 obtain⟨a1,a2,a3,a4,a5⟩:=k.v.am';obtain⟨s1,s2,s3,s4⟩:=sup_bd h hc;have hd0:=ht.d.1;have hw0:=ht.w.1;have hf0:=ht.f.1;have hk:=k.h;rw[wrap_u64 (s.n+t.wH) (by have:=h.n;omega) qqo,wrap_u64 (t.wL+t.Fee) qqo qqo]at hk;have hF:outsF s.F t.wA=frF s.R.wD (s.l++t.wA.map (·.wm)):=by rw[h.F];exact kbs k.l
 have hl:BG (s.l++t.wA.map (·.wm)):=by
  intro x hx;rcases qak.1 hx with hx|hx
  ·exact h.l x hx
  ·obtain⟨o,ho,rfl⟩:=qau.1 hx;exact⟨(ht.o o ho).c.1,(k.v.o o ho).c⟩
 have hkb:BG (s.k++t.wE):=by
  intro x hx;rcases qak.1 hx with hx|hx
  ·exact h.kb x hx
  ·exact⟨(ht.m x hx).1,k.v.m x hx⟩
 have hkn:(s.k++t.wE).Nodup:=by rw[qcf];exact⟨h.kn,k.v.mn,fun a ha b hb e=>k.m b hb (e▸ha)⟩
 have hkl:(s.k++t.wE).length<=4*(c+1):=by rw[qh];have:=h.kl;have:=k.v.ml;omega
 have hdep:GoodA (c+1) (depA s.b t)/\(t.wH=0->depA s.b t=s.b)/\sumA (depA s.b t)=sumA s.b-t.wH:=by
  unfold depA;split
  ·rename_i hd;exact⟨kf3 h.b qqo ⟨ht.ac.1,a4⟩ hd0 ⟨ht.n.1,by have:=ht.n.2;omega⟩,fun h0=>by omega,kph h.b.1.1 (k.d hd)⟩
  ·rename_i hd;exact⟨⟨h.b.1,h.b.2.1,Nat.le_succ_of_le h.b.2.2⟩,fun _=>rfl,by omega⟩
 have hwd:GoodA (c+1) (wdA s.b t).1/\((wdA s.b t).2=0->sumA (wdA s.b t).1=sumA s.b-t.wH+t.wL):=by
  unfold wdA;split
  ·rename_i hw
   have hz:t.wH=0:=by
    rcases Int.lt_or_le 0 t.wH with h1|h1
    ·have:=a5 h1;omega
    ·omega
   rw[hdep.2.1 hz];exact⟨kb2 h.b qqo ⟨ht.ac.1,a4⟩ hw0,fun he=>by rw[kdz h.b.1.1 he];omega⟩
  ·exact⟨hdep.1,fun _=>by simp only;omega⟩
 have hlen:(s.l++t.wA.map (·.wm)).length<=2^s.R.wD.toNat:=by simp only[qh,qm];exact k.l
 refine⟨⟨f,?_⟩,?_,?_⟩
 ·have base:PI {s with F:=outsF s.F t.wA,l:=s.l++t.wA.map (·.wm),k:=s.k++t.wE,v:=trs (s.k++t.wE)} (c+1) f:=
   ⟨h.d1,h.d2,h.w1,h.w2,h.rw,hF,hlen,hl,⟨h.b.1,h.b.2.1,Nat.le_succ_of_le h.b.2.2⟩,h.n,h.ff,h.sup,h.r,h.rl,by have:=h.p;simp only;omega,hkn,hkb,hkl,rfl⟩
  unfold perfS;split
  ·exact base
  ·exact base
 ·unfold perfS;split
  ·exact hdep.1
  ·exact hwd.1
 ·intro he;unfold perfS at he ⊢;split at he
  ·rename_i h1;exact(h1 he).elim
  ·rename_i h1;rw[qe h1];have hz:(wdA s.b t).2=0:=qz h1;have hn0:=h.n;have hh:hidN s.n t=s.n+t.wH-t.wL-t.Fee:=by unfold hidN;rw[wrap_u64 (s.n+t.wH) qqo qqo,wrap_u64 (s.n+t.wH-t.wL) qqo qqo,wrap_u64 _ qqo qqo]
   refine⟨h.d1,h.d2,h.w1,h.w2,h.rw,hF,hlen,hl,hwd.1,?_,by have:=h.ff;omega,?_,h.r,h.rl,by have:=h.p;simp only;omega,hkn,hkb,hkl,rfl⟩
   ·simp only[hh];omega
   ·have h9:=h.sup;simp only[hh,hwd.2 hz];omega
theorem k9v (s:PS) (t:wy):(perfS s t).s.R=s.R/\(perfS s t).s.p=s.p/\(perfS s t).s.r=s.r/\(perfS s t).s.l=s.l++t.wA.map (·.wm)/\(perfS s t).s.k=s.k++t.wE/\(perfS s t).s.v=trs (s.k++t.wE):=by unfold perfS;split<;>exact⟨rfl,rfl,rfl,rfl,rfl,rfl⟩
structure BI (s0 s:PS) (m:Li):Prop where
 R:s.R=s0.R
 p:s.p=s0.p
 r:s.r=s0.r
 l:∃x,s.l=s0.l++x
 k:s.k=s0.k++m
 kn:s.k.Nodup
 kb:BG s.k
 v:s.v=trs s.k
 lb:BG s.l
 F:s.F=frF s.R.wD s.l
 ll:s.l.length<=2^s.R.wD.toNat
theorem BI.refl {s:PS} {c:Nat} {f:Int} (h:PI s c f):BI s s []:=⟨rfl,rfl,rfl,⟨[],by simp⟩,by simp,h.kn,h.kb,h.v,h.l,h.F,h.ll⟩
theorem BI.perf {s0 s:PS} {m:Li} {c:Nat} {f:Int} (b:BI s0 s m) (h:PI s c f) (hc:c<=800) {t:wy} (ht:TR t) (k:CK s t):BI s0 (perfS s t).s (m++t.wE):=by
 obtain⟨⟨g,h1⟩,_,_⟩:=h.perf hc ht k;obtain⟨k1,k2,k3,k4,k5,k6⟩:=k9v s t;refine⟨k1.trans b.R,k2.trans b.p,k3.trans b.r,?_,?_,h1.kn,h1.kb,h1.v,h1.l,h1.F,h1.ll⟩
 ·obtain⟨x,hx⟩:=b.l;exact⟨x++t.wA.map (·.wm),by rw[k4,hx,qw]⟩
 ·rw[k5,b.k,qw]
structure BO (s0:PS) (x:PB) (c:Nat):Prop where
 b:BI s0 x.s x.m
 ok:x.e=0->PI x.s c x.f
theorem kbf {s:PS} {c:Nat} {f:Int} (h:PI s c f) (hc:c<=800) {t:wy} (ht:TR t) (k:CK s t):u64.wrap (f+t.Fee)=f+t.Fee:=by obtain⟨a1,a2,a3,a4,a5⟩:=k.v.am';obtain⟨s1,s2,s3,s4⟩:=sup_bd h hc;exact wrap_u64 _ (by have:=h.ff;have:=ht.f.1;omega) qqo
theorem k45:∀{r:List wy} {s0 s:PS} {m:Li} {c:Nat} {f:Int},BI s0 s m->PI s c f->c+r.length<=800->(∀t∈r,TR t)->BO s0 (blkGo r s m f) (c+r.length)
 |[],s0,s,m,c,f,b,h,_,_=>⟨b,fun _=>h⟩
 |t::r,s0,s,m,c,f,b,h,hc,ht=>by
  have hc:c+(r.length+1)<=800:=hc;unfold blkGo;split
  ·rename_i h1;exact⟨b,fun he=>(h1 he).elim⟩
  ·rename_i h1;have k:=k7i (qz h1);have tt:=ht t qqs;have b2:=b.perf h qqo tt k;split
   ·rename_i h2;exact⟨b2,fun he=>(h2 he).elim⟩
   ·rename_i h2;have h3:=(h.perf qqo tt k).2.2 (qz h2);rw[kbf h qqo tt k];have:=k45 (r:=r) b2 h3 qqo (fun t ht' =>ht t (by simp[ht']));rw[show c+(t::r).length=c+1+r.length by simp;omega];exact this
structure BR' (b:wU):Prop where
 m:U64 b.wBP
 t:∀t∈b.Txs,TR t
 l:∀t∈b.Txs,TL t
theorem kbx {x:PB} {c:Nat} (h:PI x.s c x.f) (hc:c<=800):u64.wrap (x.s.R.wd+x.f)=x.s.R.wd+x.f/\U64 (x.s.R.wd+x.f):=by obtain⟨s1,s2,s3,s4⟩:=sup_bd h hc;have h1:=h.rw;have h2:=h.ff;exact⟨wrap_u64 _ qqo qqo,by omega,by omega⟩
theorem blkS_BI {s:PS} {c:Nat} (h:PI s c 0) {b:wU} (hc:c+b.Txs.length<=800) (hb:BR' b):BI s (blkS s [] b).s (blkS s [] b).m:=by
 have:=(k45 (BI.refl h) h hc hb.t).b;unfold blkS;split
 ·exact this
 ·split
  ·exact this
  ·exact⟨this.R,this.p,this.r,this.l,this.k,this.kn,this.kb,this.v,this.lb,this.F,this.ll⟩
theorem ks7 {s0 s:PS} {m:Li} (h:BI s0 s m) (hv:s0.v=trs s0.k):resS s (befS s0 m)=s0:=by
 have hk:(remS m s.k).2=s0.k:=by
  have hn:=h.kn;rw[h.k]at hn ⊢;unfold remS;have e1:(m.any fun x=> !decide (x∈s0.k++m))=false:=by rw[List.any_eq_false];intro x hx;simp[hx]
  have e2:m.Nodup:=by rw[qcf]at hn;exact hn.2.1
  rw[e1,qas e2];exact rem_add hn
 obtain⟨x,hx⟩:=h.l;unfold resS befS;simp only[qx];rw[hk,h.R,h.p,h.r,hx,List.take_left,<-hv]
theorem k74 {s:PS} {c:Nat} (h:PI s c 0) {b:wU} (hc:c+b.Txs.length<=790) (hb:BR' b) (he:(applyS s b).e=0):PI (applyS s b).s (c+b.Txs.length+1) 0:=by
 have hB:=k45 (BI.refl h) h qqo hb.t;unfold applyS at he ⊢;split at he
 ·cases he
 ·rename_i h1;rw[qe h1];split at he
  ·cases he
  ·rename_i h2;rw[qe h2];unfold blkS at he ⊢;by_cases h3:(blkGo b.Txs s [] 0).e≠0
   ·rw[qf h3,qf h3]at he;exact(h3 he).elim
   ·rw[qe h3]at he ⊢;have hP:=hB.ok (qz h3);by_cases h4:(crB (blkGo b.Txs s [] 0) b).2≠0
    ·rw[qf h4,qf h4]at he;exact(h4 he).elim
    ·rw[qe h4,qe qqs];have h4:(crB (blkGo b.Txs s [] 0) b).2=0:=qz h4;generalize blkGo b.Txs s [] 0=x at *
     have hw:=kbx hP qqo;have hB:=hB.b;unfold crB at h4 ⊢;rw[hw.1]at h4 ⊢;have hF:=hP.F;have hr:=k57 (d:=x.s.R.wD) (l:=x.s.l) (by have:=hP.d1;omega) hP.ll;refine⟨hP.d1,hP.d2,hP.w1,hP.w2,hP.rw,hP.F,hP.ll,hP.l,kb2 hP.b qqo ⟨hb.m.1,by omega⟩ hw.2.1,hP.n,qcc _,?_,?_,?_,?_,hP.kn,hP.kb,?_,hP.v⟩
     ·have h9:=hP.sup;simp only[kdz hP.b.1.1 h4];rw[hB.p]at h9;rw[qh,qcg];have:((s.p.length+1:Nat):Int)*x.s.R.wd=(s.p.length:Int)*x.s.R.wd+x.s.R.wd:=by rw[Int.natCast_add,Int.add_mul];simp
      rw[this];omega
     ·intro y hy;rcases qak.1 hy with hy|hy
      ·exact h.r y hy
      ·rw[qal.1 hy,hF,hr];exact TT_r hP.l _ _
     ·have:=h.rl;simp only[qh,qcg];omega
     ·have:=h.p;simp only[qh,qcg];omega
     ·have:=hP.kl;simp only;omega
theorem klp:∀{r:List wy} {s:PS} {m:Li} {f:Int},(blkGo r s m f).m.length<=m.length+4*r.length
 |[],_,_,_=>by simp[blkGo]
 |t::r,s,m,f=>by
  unfold blkGo;split
  ·simp
  ·rename_i h1;have:=(k7i (qz h1:chkS s t=0)).v.ml;split
   ·simp;omega
   ·have:=klp (r:=r) (s:=(perfS s t).s) (m:=m++t.wE) (f:=u64.wrap (f+t.Fee));rw[qh]at this;simp;omega
theorem blkS_ml (s:PS) (b:wU):(blkS s [] b).m.length<=4*b.Txs.length:=by
 have:=klp (r:=b.Txs) (s:=s) (m:=[]) (f:=0);rw[qt,qat]at this;unfold blkS;split
 ·exact this
 ·split<;>exact this
def mOf (s:PS):wAZ:=⟨s.R.wAk,s.R.wD,s.R.wAG,s.R.wAA,s.R.ww,s.R.wd,s.R.wAe,s.R.wAQ,s.R.wBA,s.p.length,s.l,srt s.k,s.b,s.n,s.r⟩
def rchk (m:wAZ) (t:wy):Int:=chk m.wO (ancL m.wg m.wV) m.wE m.wF m.wAE m.wAO.length m.wn t
structure RE where
 e:Int
 m:wAZ
def rperf (m:wAZ) (t:wy):RE:=if rchk m t≠0 then⟨rchk m t,m⟩else
 ⟨(wdA m.wF t).2,{m with wE:=t.wE.foldl (fun a x=>insI x a) m.wE,wAO:=m.wAO++t.wA.map (·.wm),wF:=(wdA m.wF t).1,wAE:=hidN m.wAE t}⟩
structure RG where
 e:Int
 m:wAZ
 f:Int
def rGo:List wy->wAZ->Int->RG
 |[],m,f=>⟨0,m,f⟩
 |t::r,m,f=>if(rperf m t).e≠0 then⟨(rperf m t).e,(rperf m t).m,f⟩else rGo r (rperf m t).m (u64.wrap (f+t.Fee))
def rcr (x:RG) (w:Int) (b:wU):List wB×Int:=creditA x.m.wF b.wBP (u64.wrap (w+x.f))
def rapply (m:wAZ) (b:wU):RE:=
 if b.wO≠m.wO+1 then⟨18,m⟩else if 18446744069414584321<=b.wBP then⟨1,m⟩else
 if(rGo b.Txs m 0).e≠0 then⟨(rGo b.Txs m 0).e,m⟩else if(rcr (rGo b.Txs m 0) m.wo b).2≠0 then⟨(rcr (rGo b.Txs m 0) m.wo b).2,m⟩
 else⟨0,{(rGo b.Txs m 0).m with wF:=(rcr (rGo b.Txs m 0) m.wo b).1,wO:=(rGo b.Txs m 0).m.wO+1,wg:=(rGo b.Txs m 0).m.wg++[TT (lf (rGo b.Txs m 0).m.wAO) (rGo b.Txs m 0).m.wn.toNat 0]}⟩
theorem rchk_eq (s:PS) (t:wy):rchk (mOf s) t=chkS s t:=by
 unfold rchk chkS mOf chk;simp only;have:(t.wE.any fun m=>decide (m∈srt s.k))=t.wE.any fun m=>decide (m∈s.k):=by congr 1;funext m;rw[Bool.eq_iff_iff,decide_eq_true_iff,decide_eq_true_iff];exact(k4z s.k).mem_iff
 rw[this]
theorem klj {s:PS} {t:wy} (h:chkS s t=0):(rperf (mOf s) t).e=(perfS s t).e/\((perfS s t).e=0->(rperf (mOf s) t).m=mOf (perfS s t).s):=by
 unfold rperf;rw[rchk_eq,qe (by rw[h];decide)];unfold perfS;split
 ·rename_i h1;exact⟨rfl,fun he=>(h1 he).elim⟩
 ·rename_i h1;have h1:(wdA s.b t).2=0:=qz h1;refine⟨h1,fun _=> ?_⟩;unfold mOf;simp only;rw[srt_app]
theorem rGo_eq:∀{r:List wy} {s:PS} {m:Li} {f:Int},(rGo r (mOf s) f).e=(blkGo r s m f).e/\((blkGo r s m f).e=0->(rGo r (mOf s) f).m=mOf (blkGo r s m f).s/\(rGo r (mOf s) f).f=(blkGo r s m f).f)
 |[],_,_,_=>⟨rfl,fun _=>⟨rfl,rfl⟩⟩
 |t::r,s,m,f=>by
  unfold rGo blkGo;by_cases h1:chkS s t≠0
  ·have e:rperf (mOf s) t=⟨chkS s t,mOf s⟩:=by unfold rperf;rw[rchk_eq,qf h1]
   rw[e,qf h1,qf h1];exact⟨rfl,fun he=>(h1 he).elim⟩
  ·rw[qe h1];obtain⟨g1,g2⟩:=klj (qz h1:chkS s t=0);rw[g1];by_cases h2:(perfS s t).e≠0
   ·rw[qf h2,qf h2];exact⟨rfl,fun he=>(h2 he).elim⟩
   ·rw[qe h2,qe h2,g2 (qz h2)];exact rGo_eq
theorem k9h {s:PS} {c:Nat} (h:PI s c 0) {b:wU} (hc:c+b.Txs.length<=790) (hb:BR' b):rapply (mOf s) b=⟨(applyS s b).e,mOf (applyS s b).s⟩:=by
 have hB:=k45 (BI.refl h) h qqo hb.t;obtain⟨g1,g2⟩:=rGo_eq (r:=b.Txs) (s:=s) (m:=[]) (f:=0);unfold rapply applyS;rw[show(mOf s).wO=(s.p.length:Int)from rfl];split
 ·rfl
 ·split
  ·rfl
  ·unfold blkS;rw[g1];by_cases h3:(blkGo b.Txs s [] 0).e≠0
   ·rw[qf h3,qf h3,qf h3]
   ·rw[qe h3,qe h3];have h3:(blkGo b.Txs s [] 0).e=0:=qz h3;obtain⟨e1,e2⟩:=g2 h3;have hP:=hB.ok h3;have ec:rcr (rGo b.Txs (mOf s) 0) (mOf s).wo b=crB (blkGo b.Txs s [] 0) b:=by unfold rcr crB;rw[e1,e2,hB.b.R];rfl
    rw[ec,e1];by_cases h4:(crB (blkGo b.Txs s [] 0) b).2≠0
    ·rw[qf h4,qf h4,qf h4]
    ·rw[qe h4,qe h4,qe qqs];have hr:=k57 (d:=(blkGo b.Txs s [] 0).s.R.wD) (l:=(blkGo b.Txs s [] 0).s.l) (by have:=hP.d1;omega) hP.ll;have hp:=hB.b.p;have hrr:=hB.b.r;unfold mOf;simp only;rw[hP.F,hr,hp,hrr];simp
structure ROk (m:wAZ):Prop where
 w1:1<=m.wV
 w2:m.wV<=100
 d1:1<=m.wn
 d2:m.wn<=12
 h:0<=m.wO/\m.wO<=1000000
 rl:m.wg.length<=1000000
 ml:m.wE.length<=900000
 a:OkA m.wF
 al:m.wF.length<=999
 n:U64 m.wAE
 ll:m.wAO.length<=4096
theorem PI.rok {s:PS} {c:Nat} {f:Int} (h:PI s c f) (hc:c<=800):ROk (mOf s):=by
 obtain⟨s1,s2,s3,s4⟩:=sup_bd h hc;have hp:=h.p;have hk:=h.kl;have hr:=h.rl;have hp12:=pow12 s.R.wD.toNat (by have:=h.d2;omega);have hl:=h.ll;refine⟨h.w1,h.w2,h.d1,h.d2,?_,?_,?_,h.b.1,?_,⟨h.n,?_⟩,?_⟩
 ·show 0<=(s.p.length:Int)/\(s.p.length:Int)<=1000000;omega
 ·show s.r.length<=1000000;omega
 ·show(srt s.k).length<=900000;rw[kop];omega
 ·have:=h.b.2.2;show s.b.length<=999;omega
 ·show s.n<18446744073709551616;omega
 ·show s.l.length<=4096;omega
theorem krp {r:wP} (h:rulesE r=0):rulesB r=true:=by
 cases hb:rulesB r with
 |true=>rfl
 |false=>unfold rulesE at h;rw[hb]at h;cases h
theorem new_PI {r:wP} (h:rulesE r=0) (h0:0<=r.wd):PI (newS r) 0 0:=by
 have hb:=krp h;simp only[rulesB,qg,qai]at hb;have hr:=k57 (d:=r.wD) (l:=[]) qqo (qaq _);refine⟨(by show 1<=r.wD;omega),(by show r.wD<=12;omega),(by show 1<=r.wAe;omega),(by show r.wAe<=100;omega),⟨h0,(by show r.wd<=4294967296;omega)⟩,rfl,qaq _,(fun x hx=>by cases hx),k4y 0,qcc _,qcc _,?_,?_,rfl,qab _,qel,(fun x hx=>by cases hx),qaq _,rfl⟩
 ·show(0:Int)+0+0=((0:Nat):Int)*r.wd;simp
 ·intro x hx;rw[qal.1 hx,hr];exact TT_r (fun x hx=>by cases hx) _ _
theorem PI.mono {s:PS} {c d:Nat} {f:Int} (h:PI s c f) (hd:c<=d):PI s d f:=⟨h.d1,h.d2,h.w1,h.w2,h.rw,h.F,h.ll,h.l,⟨h.b.1,h.b.2.1,qax h.b.2.2 hd⟩,h.n,h.ff,h.sup,h.r,h.rl,qax h.p hd,h.kn,h.kb,qax h.kl (Nat.mul_le_mul_left 4 hd),h.v⟩
theorem apply_R {s:PS} {c:Nat} (h:PI s c 0) {b:wU} (hc:c+b.Txs.length<=790) (hb:BR' b):(applyS s b).s.R=s.R:=by
 have hB:=blkS_BI h qqo hb;unfold applyS;split
 ·rfl
 ·split
  ·rfl
  ·split
   ·rfl
   ·exact hB.R
theorem sup_PI {s:PS} {c:Nat} (h:PI s c 0) (hc:c<=800):totA 0 s.b=(sumA s.b,0)/\u64.wrap (sumA s.b+s.n)=u64.wrap (u64.wrap (s.p.length:Int)*s.R.wd):=by
 obtain⟨s1,s2,s3,s4⟩:=sup_bd h hc;have hp:=h.p;have hs:=h.sup;refine⟨?_,?_⟩
 ·have:=tot_sum (l:=s.b) (s:=0) (fun a ha=>(h.b.1.2.2 a ha).2.1.1) qqo;rw[this,Int.zero_add]
 ·rw[wrap_u64 (s.p.length:Int) qqo qqo,<-hs];congr 1;omega
def sameQ (a b:wG):Bool:=(a.wBF==b.wBF)&&((a.wAo==b.wAo)&&decide (a.wAp=b.wAp))
theorem koq (a:wG):sameQ a a=true:=by simp[sameQ]
def qA (r:wK):wG:=wG.mk r.wAL r.wAD r.wAH
def qB (r:wK):wG:=wG.mk r.wAM r.wAC r.wAI
def sameR (a b:wK):Bool:=(a.wBR==b.wBR)&&((a.wBS==b.wBS)&&((a.wAE==b.wAE)&&((a.wAx==b.wAx)&&((a.wAU==b.wAU)&&((a.wT==b.wT)&&((a.wAR==b.wAR)&&((a.wAq==b.wAq)&&(sameQ (qA a) (qA b)&&sameQ (qB a) (qB b)))))))))
theorem kog (a:wK):sameR a a=true:=by simp[sameR,koq]
def smA (r:wP) (l:List wU):Bool:=decide (1<=r.wD)&&(decide (r.wD<=6)&&(decide ((l.length:Int)<=8)&&l.all (fun b=>decide ((b.Txs.length:Int)<=4)&&b.Txs.all (fun t=>smallB t 1200))))
def zeroR:wK:=wK.mk 0 0 0 0 0 0 0 0 0 [] 0 0 [] 0
def auGo:List wU->PS->PE
 |[],s=>⟨0,s⟩
 |b::r,s=>if(applyS s b).e=0 then auGo r (applyS s b).s else⟨(applyS s b).e,s⟩
theorem kqs {l:List wU} {k:Nat} (h:k<l.length) (s:PS):auGo (l.drop k) s=if(applyS s l[k]).e=0 then auGo (l.drop (k+1)) (applyS s l[k]).s else⟨(applyS s l[k]).e,s⟩:=by rw[qo h];rfl
def ndA (x:wAn):Int:=nd x.a0 x.a1
def ownP (p leaf s:Int):wAn:=if p%2=1 then⟨s,leaf⟩else⟨leaf,s⟩
def ownsL:Int->Int->Li->List wAn
 |_,_,[]=>[]
 |p,leaf,s::r=>ownP p leaf s::ownsL (p/2) (ndA (ownP p leaf s)) r
def realP (f:Nat->Int) (p i:Nat):wAn:=⟨TT f i (2*(p/2^i/2)),TT f i (2*(p/2^i/2)+1)⟩
def realsL (f:Nat->Int) (p n:Nat):List wAn:=(List.range n).map (realP f p)
def abvS (lv:Nat):Li->Li
 |a::b::r=>nd a b::abvS lv r
 |[a]=>[nd a (emp lv)]
 |[]=>[]
theorem kkb (lv:Nat):∀l:Li,(abvS lv l).length<=l.length
 |[]=>qab _
 |[_]=>qab _
 |_::_::r=>by have:=kkb lv r;simp only[abvS,qj];omega
theorem abvS_u (lv:Nat):∀l:Li,Us (abvS lv l)
 |[]=>fun x hx=>by cases hx
 |[_]=>fun x hx=>by rw[qal.1 hx];exact kh _ _
 |_::_::r=>fun x hx=>by
  rcases qae.1 hx with rfl|hx
  ·exact kh _ _
  ·exact abvS_u lv r x hx
theorem kk6 (lv:Nat):∀(l:Li) (p:Nat),(abvS lv l).getD p (emp (lv+1))=nd (l.getD (2*p) (emp lv)) (l.getD (2*p+1) (emp lv))
 |[],p=>by simp[abvS,emp]
 |[a],0=>by simp[abvS]
 |[a],p+1=>by rw[gD_ge (l:=[a]) (by simp only[qcg];omega),gD_ge (l:=[a]) (by simp only[qcg];omega),gD_ge (by simp[abvS])];rfl
 |a::b::r,0=>by simp[abvS]
 |a::b::r,p+1=>by have:=kk6 lv r p;rw[show 2*(p+1)=2*p+1+1 by omega];simpa[abvS]using this
theorem kqk (lv:Nat) (l:Li) (k:Nat) (h:2*k<l.length):abvS lv (l.drop (2*k))=nd (l.getD (2*k) 0) (l.getD (2*k+1) (emp lv))::abvS lv (l.drop (2*(k+1))):=by
 rw[qo h,gD_lt h];by_cases h2:2*k+1<l.length
 ·rw[qo h2,gD_lt h2];rfl
 ·rw[qam qqo,gD_ge qqo,qam qqo];rfl
def zeroF:wAX:=⟨0,0,0,0,[],0,0,[],0⟩
def unF:wAX:=⟨1,0,0,0,[],0,0,[],0⟩
def ownQ (x:wN):wG:=⟨1,[x.Key,u64.wrap x.wAP],x.we⟩
def comQ (n:wJ) (a:Int):wG:=⟨2,noteL n,a⟩
def brQ (x:wAn) (a:Int):wG:=⟨6,[x.a0,x.a1],a⟩
def colF (a b:wG):wAX:=⟨2,0,0,a.wBF,a.wAp,a.wAo,b.wBF,b.wAp,b.wAo⟩
def wrgGo (o r:List wAn):Nat->On
 |0=>none
 |h+1=>if ix o (h:Int)≠ix r (h:Int)then some h else wrgGo o r h
def ancS (tr:List wAb) (lv:Li) (root:Int):Nat->Li
 |0=>[]
 |h+1=>if(ix tr (h:Int)).root=root then lv.take (ix tr (h:Int)).leaves.toNat else ancS tr lv root h
structure EC where
 t:List wAb
 l:Li
def leafS (x:wN):Int:=(commP pkR (noteOf x)).getD 0
def wrgF (ls:Li) (ns:List wJ) (x:wN) (o r:List wAn):wAX:=
 match wrgGo o r o.length with
 |some k=>colF (brQ (ix o (k:Int)) (ndA (ix o (k:Int)))) (brQ (ix r (k:Int)) (ndA (ix o (k:Int))))
 |none=>if x.wC<ls.length/\x.wC<ns.length then colF (comQ (noteOf x) (leafS x)) (comQ (ix ns x.wC) (leafS x))else colF (comQ (noteOf x) (leafS x)) ⟨6,[],leafS x⟩
def wrgS (C:EC) (ns:List wJ) (x:wN) (anchor h:Int):wAX:=wrgF (ancS C.t C.l anchor h.toNat) ns x (ownsL x.wC (leafS x) x.wj) (realsL (lf (ancS C.t C.l anchor h.toNat)) x.wC.toNat x.wj.length)
theorem k94 (ls:Li) (ns:List wJ) (x:wN) (o r:List wAn):(wrgF ls ns x o r).wAW=2:=by
 unfold wrgF;split
 ·rfl
 ·split<;>rfl
structure EX where
 n:List wJ
 k:Li
 v:List wN
 cr:Int
 sp:Int
 hd:Int
structure EIn where
 f:wAX
 c:Int
 a:Int
 k:Li
 v:List wN
def inpS (C:EC) (ns:List wJ) (anchor h:Int):List wN->EIn->EIn
 |[],I=>I
 |x::r,I=>if x.wBQ=true then inpS C ns anchor h r I
  else if(ns.length:Int)<=x.wC∨ix ns x.wC≠noteOf x then {I with f:=wrgS C ns x anchor h}
  else if x.wC∈I.k then {I with f:=colF (ownQ (mVal (BEq.beq x.wC) I.k I.v default)) (ownQ x)}
  else inpS C ns anchor h r ⟨I.f,i64.wrap (I.c+1),u64.wrap (I.a+x.wR),I.k++[x.wC],I.v++[x]⟩
def exIn (C:EC) (x:EX) (t:wy) (w:wZ) (h:Int):EIn:=inpS C x.n t.wM h w.Ins ⟨zeroF,0,0,x.k,x.v⟩
structure EF where
 f:wAX
 x:EX
def exTx (C:EC) (d:Int) (x:EX) (t:wy) (w:wZ) (known:Bool) (h:Int):EF:=
 if known=false∨checkS pkR (stmtS t d) w≠0 then⟨unF,x⟩
 else if(exIn C x t w h).f.wAW≠0 then⟨(exIn C x t w h).f,{x with k:=(exIn C x t w h).k,v:=(exIn C x t w h).v}⟩
 else⟨zeroF,⟨x.n++w.wA,(exIn C x t w h).k,(exIn C x t w h).v,i64.wrap (x.cr+(w.wA.length:Int)),i64.wrap (x.sp+(exIn C x t w h).c),u64.wrap (x.hd+u64.wrap (outS w.wA-(exIn C x t w h).a))⟩⟩
def exTd (C:EC) (d h:Int) (x:EX) (t:wy):EF:=exTx C d x t (decW t.wh).1 ((decW t.wh).2==0) h
def txsGo (C:EC) (d h:Int):Nat->List wy->EX->EF
 |_,[],x=>⟨zeroF,x⟩
 |i,t::r,x=>if(exTd C d h x t).f.wAW≠0 then⟨{(exTd C d h x t).f with wO:=h,Tx:=(i:Int)},(exTd C d h x t).x⟩else txsGo C d h (i+1) r (exTd C d h x t).x
def chnGo (C:EC) (d:Int):List wU->EX->EF
 |[],x=>⟨zeroF,x⟩
 |b::r,x=>if(txsGo C d b.wO 0 b.Txs x).f.wAW≠0 then txsGo C d b.wO 0 b.Txs x else chnGo C d r (txsGo C d b.wO 0 b.Txs x).x
structure ECk (C:EC):Prop where
 t:∀x∈C.t,0<=x.leaves/\x.leaves<=C.l.length
 l:Us C.l
 ll:C.l.length<=4096
structure EXk (x:EX) (c:Nat):Prop where
 nl:x.n.length<=4*c
 nr:∀y∈x.n,NR y
 kv:x.k.length=x.v.length
 kp:∀p∈x.k,0<=p/\p<x.n.length
 nd:x.k.Nodup
 vr:∀y∈x.v,PR y
 sp:x.sp=x.k.length
 cr:x.cr=x.n.length
structure SPk (x:wN):Prop where
 n:NR (noteOf x)
 p0:0<=x.wC
 pm:x.wC<=64
 pl:x.wj.length<=12
 pu:Us x.wj
theorem kmj {C:EC} (h:ECk C) (root:Int):∀n:Nat,(ancS C.t C.l root n).length<=4096/\Us (ancS C.t C.l root n)
 |0=>⟨qaq _,fun x hx=>by cases hx⟩
 |n+1=>by
  unfold ancS;split
  ·refine⟨by have:=h.ll;rw[qu];omega,fun x hx=>h.l x (qbk hx)⟩
  ·exact kmj h root n
theorem bitnot (n:Nat) (h:n<=64):ianot .i64 (n:Int) 1=((2*(n/2):Nat):Int)/\ior .i64 (n:Int) 1=((2*(n/2)+1:Nat):Int):=by
 have key:∀n∈List.range 65,ianot .i64 (n:Int) 1=((2*(n/2):Nat):Int)/\ior .i64 (n:Int) 1=((2*(n/2)+1:Nat):Int):=by decide
 exact key n qqm
theorem shr_nat (n i:Nat) (hi:i<=20):ishr .i64 (n:Int) (i:Int)=((n/2^i:Nat):Int):=by
 have e:min ((i:Int).toNat) i64.bits=i:=by rw[qx];exact qca (qax hi qqd)
 rw[k1e,e];simp
theorem us2 {a b:Int} (ha:U64 a) (hb:U64 b):Us [a,b]:=by
 intro x hx;simp only[qae,List.mem_nil_iff,or_false]at hx;rcases hx with rfl|rfl
 ·exact ha
 ·exact hb
theorem pk_emp (q:List wG):pk false q [] []=pkR:=by funext l a;exact pk_real _ _ _
theorem kbt (q:List wG):OrOk [] [] q:=⟨rfl,fun v hv=>by cases hv⟩
theorem kmo {p:Int} {l:Li}:mHas (BEq.beq p) l=true↔p∈l:=by
 rw[ksj];constructor
 ·rintro ⟨x,hx,h⟩;have:p=x:=by simpa using h
  exact this▸hx
 ·intro h;exact⟨p,h,by simp⟩
theorem kqw {β:Type} {p:Int} {l:Li} (h:mHas (BEq.beq p) l=false) (v:List β) (y:β):mPutK (BEq.beq p) l p=l++[p]/\mPutV (BEq.beq p) l v y=v++[y]:=by
 unfold mHas at h;unfold mPutK mPutV;cases hm:mIdx (BEq.beq p) l with
 |none=>exact⟨rfl,rfl⟩
 |some j=>rw[hm]at h;cases h
theorem note_ne (a:wJ) (x:wN):(!((a.Value==x.wR)&&((a.wAg==x.we)&&((a.Rho==x.wY)&&((a.wBL==x.wz)&&true)))))=true↔a≠noteOf x:=by
 obtain⟨a1,a2,a3,a4⟩:=a;simp only[noteOf,Bool.and_true,qbu,qfg,beq_eq_false_iff_ne,ne_eq,wJ.mk.injEq,not_and];constructor
 ·rintro (h|h|h|h) q1 q2 q3 q4
  ·exact h q1
  ·exact h q2
  ·exact h q3
  ·exact h q4
 ·intro h;by_cases q1:a1=x.wR
  ·by_cases q2:a2=x.we
   ·by_cases q3:a3=x.wY
    ·exact .inr (.inr (.inr (h q1 q2 q3)))
    ·exact .inr (.inr (.inl q3))
   ·exact .inr (.inl q2)
  ·exact .inl q1
theorem nd_le:∀(n:Nat) (l:Li),l.Nodup->(∀p∈l,0<=p/\p<(n:Int))->l.length<=n
 |0,[],_,_=>qab _
 |0,a::_,_,h=>by have:=h a qqs;omega
 |n+1,l,hn,h=>by
  have ih:=nd_le n (l.erase (n:Int)) (hn.erase _) (fun p hp=>by
   have h1:=(List.Nodup.mem_erase_iff hn).1 hp;have:=h p h1.2;have:=h1.1;omega)
  by_cases hm:(n:Int)∈l
  ·rw[List.length_erase_of_mem hm]at ih;omega
  ·rw[List.erase_of_not_mem hm]at ih;omega
theorem pair_ne (a b:wAn):(!((a.a0==b.a0)&&((a.a1==b.a1)&&true)))=true↔a≠b:=by
 obtain⟨a0,a1⟩:=a;obtain⟨b0,b1⟩:=b;simp only[Bool.and_true,qbu,qfg,beq_eq_false_iff_ne,ne_eq,wAn.mk.injEq,not_and];constructor
 ·rintro (h|h) q1 q2
  ·exact h q1
  ·exact h q2
 ·intro h;by_cases q1:a0=b0
  ·exact .inr (h q1)
  ·exact .inl q1
theorem leafS_u (x:wN):U64 (leafS x):=by
 unfold leafS commP;split
 ·rcases pkR_u (l:=2) (a:=noteL (noteOf x))with h|⟨n,h,hn⟩
  ·rw[h];decide
  ·rw[h];exact hn
 ·decide
theorem kgs:∀(p leaf:Int) (l:Li),(ownsL p leaf l).length=l.length
 |_,_,[]=>rfl
 |p,leaf,s::r=>by rw[ownsL,qj,kgs,qj]
theorem ownsL_u:∀(p leaf:Int) (l:Li),U64 leaf->Us l->∀x∈ownsL p leaf l,U64 x.a0/\U64 x.a1
 |_,_,[],_,_,x,hx=>by cases hx
 |p,leaf,s::r,hl,hu,x,hx=>by
  rw[ownsL]at hx;rcases qae.1 hx with rfl|hx
  ·unfold ownP;split
   ·exact⟨hu s qqs,hl⟩
   ·exact⟨hl,hu s qqs⟩
  ·exact ownsL_u _ _ r (kh _ _) (fun y hy=>hu y (by simp[hy])) x hx
theorem kp0 (f:Nat->Int) (p n:Nat):(realsL f p n).length=n:=by simp[realsL]
theorem rhoS_u (o i:Int):U64 (rhoS o i):=by
 unfold rhoS;split
 ·exact kh _ _
 ·decide
theorem bindS_u (t:wy):U64 (bindS t):=by
 unfold bindS;split
 ·exact kh _ _
 ·decide
theorem stmt_SR {t:wy} {d:Int} (h:TR t) (hd: -9223372036854775808<=d/\d<=9223372036854775807):SR (stmtS t d):=by
 unfold stmtS;split
 ·rename_i hv;have v:=(kz t).1 hv;refine⟨hd,h.a,h.m,(by show t.wE.length<=_;have:=v.ml;omega),fun x hx=> ?_,(by have:=v.ol;simp;omega),fun x hx=> ?_,(by have:=v.ol;simp;omega),h.d,h.w,h.f,h.ac,bindS_u t⟩
  ·obtain⟨o,ho,rfl⟩:=qau.1 hx;exact(h.o o ho).c
  ·obtain⟨i,_,rfl⟩:=qau.1 hx;exact rhoS_u _ _
 ·exact⟨⟨(by simp only;omega),(by simp only;omega)⟩,(by decide:U64 0),fun x hx=>(by cases hx),(by decide:(0:Nat)<=_),fun x hx=>(by cases hx),(by decide:(0:Nat)<=_),fun x hx=>(by cases hx),(by decide:(0:Nat)<=_),(by decide:U64 0),(by decide:U64 0),(by decide:U64 0),(by decide:U64 0),(by decide:U64 0)⟩
theorem pow6 {d:Int} (h:d<=6):(2:Int)^d.toNat<=64:=by
 have key:∀n:Nat,n<=6->(2:Int)^n<=64:=by decide
 exact key d.toNat qqo
theorem rel_in {s:wAd} {w:wZ} (h:relV s w=true) (hd:s.wD<=6) (hW:WR w):(∀x∈w.Ins,SPk x/\PR x)/\w.Ins.length<=4/\w.wA.length<=4/\∀x∈w.wA,NR x:=by have h:=k36.1 h;obtain⟨_,h2,_,_,_,_,_,_,_,_,h11,_,_,h14,h15,_⟩:=h;refine⟨fun x hx=> ?_,h11,h14,hW.o⟩;have hi:=qbj.1 h15 x hx;unfold inV at hi;simp only[qg,qai]at hi;obtain⟨⟨hs,hl⟩,hp⟩:=hi;have hs:=k18.1 hs;have:=pow6 hd;have hq:=hW.i x hx;exact⟨⟨hq.n,hs.2.2.2.2.1,by omega,by omega,hq.pa⟩,hq⟩
structure EIk (ns:List wJ) (I:EIn):Prop where
 kv:I.k.length=I.v.length
 kp:∀p∈I.k,0<=p/\p<ns.length
 nd:I.k.Nodup
 vr:∀y∈I.v,PR y
def valL (l:List wN):Int:=(l.map (fun x=>if x.wBQ=true then 0 else x.wR)).sum
theorem inpS_ok (C:EC) (ns:List wJ) (an h:Int):∀(l:List wN) (I:EIn),(∀x∈l,SPk x/\PR x)->EIk ns I->0<=I.c->I.c+l.length<=9223372036854775807->(inpS C ns an h l I).f.wAW≠2->
  EIk ns (inpS C ns an h l I)/\(inpS C ns an h l I).c-I.c=(inpS C ns an h l I).k.length-(I.k.length:Int)/\(inpS C ns an h l I).a%18446744073709551616=(I.a+valL l)%18446744073709551616
 |[],I,_,hI,_,_,_=>⟨hI,by simp[inpS],by simp[inpS,valL]⟩
 |x::r,I,hl,hI,hc,hb,hk=>by
  obtain⟨sx,px⟩:=hl x qqs;have hr:∀y∈r,SPk y/\PR y:=fun y hy=>hl y (by simp[hy]);have hb:I.c+(r.length+1:Nat)<=9223372036854775807:=by simpa using hb
  unfold inpS at hk ⊢;split at hk
  ·rename_i h1;rw[qf h1];obtain⟨g1,g2,g3⟩:=inpS_ok C ns an h r I hr hI hc qqo hk;refine⟨g1,g2,?_⟩;rw[g3,valL,valL,qad,qeq,qf h1,Int.zero_add]
  ·rename_i h1;rw[qe h1];split at hk
   ·exact(hk (k94 _ _ _ _ _)).elim
   ·rename_i h2;rw[qe h2];split at hk
    ·exact(hk rfl).elim
    ·rename_i h3;rw[qe h3];have h2:¬((ns.length:Int)<=x.wC):=fun hh=>h2 (.inl hh);have e1:i64.wrap (I.c+1)=I.c+1:=wi _ qqo qqo
     have hI2:EIk ns ⟨I.f,i64.wrap (I.c+1),u64.wrap (I.a+x.wR),I.k++[x.wC],I.v++[x]⟩:=by
      refine⟨by simp[hI.kv],fun p hp=> ?_,?_,fun y hy=> ?_⟩
      ·rcases qak.1 hp with hp|hp
       ·exact hI.kp p hp
       ·rw[qal.1 hp];exact⟨sx.p0,by omega⟩
      ·rw[qcf];exact⟨hI.nd,by simp,fun a ha b hb e=>by rw[qal.1 hb]at e;exact h3 (e▸ha)⟩
      ·rcases qak.1 hy with hy|hy
       ·exact hI.vr y hy
       ·rw[qal.1 hy];exact px
     obtain⟨g1,g2,g3⟩:=inpS_ok C ns an h r _ hr hI2 (by simp only[e1];omega) (by simp only[e1];omega) hk;refine⟨g1,?_,?_⟩
     ·simp only[e1,qh,qcg]at g2 ⊢;omega
     ·rw[g3,valL,valL,qad,qeq,qe h1];simp only;rw[show u64.wrap (I.a+x.wR)=(I.a+x.wR)%18446744073709551616 from rfl];omega
theorem exTx_un {C:EC} {d h:Int} {x:EX} {t:wy} {w:wZ} {k:Bool} (hf:(exTx C d x t w k h).f.wAW=0):k=true/\checkS pkR (stmtS t d) w=0/\(exIn C x t w h).f.wAW=0/\(exTx C d x t w k h).f=zeroF/\
  (exTx C d x t w k h).x=⟨x.n++w.wA,(exIn C x t w h).k,(exIn C x t w h).v,i64.wrap (x.cr+(w.wA.length:Int)),i64.wrap (x.sp+(exIn C x t w h).c),u64.wrap (x.hd+u64.wrap (outS w.wA-(exIn C x t w h).a))⟩:=by
 unfold exTx at hf ⊢;split at hf
 ·cases hf
 ·rename_i h1;rw[qe h1];split at hf
  ·rename_i h2;exact(h2 hf).elim
  ·rename_i h2;rw[qe h2];refine⟨?_,qz fun hh=>h1 (.inr hh),qz h2,rfl,rfl⟩;cases k with
   |true=>rfl
   |false=>exact(h1 (.inl rfl)).elim
theorem keu {t:wy} {d:Int} (h1:1<=d):(stmtS t d).wD<=d:=by
 unfold stmtS;split
 ·exact qcc _
 ·simp only;omega
theorem exTx_ok {C:EC} {d h:Int} {x:EX} {c:Nat} {t:wy} {w:wZ} {k:Bool} (hx:EXk x c) (hc:c<=1000) (hd:1<=d/\d<=6) (hW:k=true->WR w) (hf:(exTx C d x t w k h).f.wAW=0):
  EXk (exTx C d x t w k h).x (c+1)/\(exTx C d x t w k h).x.hd%18446744073709551616=(x.hd+outS w.wA-valL w.Ins)%18446744073709551616:=by
 obtain⟨rfl,f2,f3,f4,f5⟩:=exTx_un hf;have hr:=(k2h.1 f2).1;obtain⟨r1,r2,r3,r4⟩:=rel_in hr (qef (keu hd.1) hd.2) (hW rfl);have hkl:x.k.length<=x.n.length:=nd_le _ _ hx.nd hx.kp;have hnl:=hx.nl;have hb:0+(w.Ins.length:Int)<=9223372036854775807:=by omega
 obtain⟨g1,g2,g3⟩:=inpS_ok C x.n t.wM h w.Ins ⟨zeroF,0,0,x.k,x.v⟩ r1 ⟨hx.kv,hx.kp,hx.nd,hx.vr⟩ (qcc _) hb (by show(exIn C x t w h).f.wAW≠2;rw[f3];decide);rw[f5];have g2:(exIn C x t w h).c-0=(exIn C x t w h).k.length-(x.k.length:Int):=g2;have g3:(exIn C x t w h).a%18446744073709551616=(0+valL w.Ins)%18446744073709551616:=g3;have g1:EIk x.n (exIn C x t w h):=g1;have hsp:=hx.sp;have hcr:=hx.cr;have hkl2:(exIn C x t w h).k.length<=x.n.length:=nd_le _ _ g1.nd g1.kp;refine⟨⟨?_,?_,g1.kv,fun p hp=> ?_,g1.nd,g1.vr,?_,?_⟩,?_⟩
 ·simp only[qh];omega
 ·intro y hy;rcases qak.1 hy with hy|hy
  ·exact hx.nr y hy
  ·exact r4 y hy
 ·have:=g1.kp p hp;simp only[qh];omega
 ·simp only;rw[wi _ qqo qqo];omega
 ·simp only[qh];rw[wi _ qqo qqo];omega
 ·simp only;rw[show∀z,u64.wrap z=z%18446744073709551616 from fun _=>rfl,show∀z,u64.wrap z=z%18446744073709551616 from fun _=>rfl];omega
theorem decW_WR {b:Li} (h:((decW b).2==0)=true):WR (decW b).1:=by
 rcases k7j b with⟨w,hE,e⟩|e
 ·rw[e];obtain⟨v1,v2,v3,v4,v5⟩:=k1r.1 hE.v;have hq:=hE.r
  exact⟨fun x hx=>by
   have h1:=hq.i x hx;have h2:=(k18.1 (v4 x hx)).2.2.2.2.2.2.1;exact⟨h1.n,h1.k,h1.nu,h1.po,h1.pa,by omega⟩,by show w.Ins.length<=_;omega,hq.o,by show w.wA.length<=_;omega,hq.s⟩
 ·rw[e]at h;cases h
structure CHk (d:Int) (l:List wU) (t:List wAb) (lv:Li) (x:EX):Prop where
 C:ECk ⟨t,lv⟩
 d1:1<=d
 d6:l≠[]->d<=6
 h:∀b∈l,0<=b.wO/\b.wO<=t.length/\b.wO<=9223372036854775807
 tl:∀b∈l,b.Txs.length<=4
 t:∀b∈l,∀t∈b.Txs,TR t/\t.wh.length<=137438953472
 len:l.length<=12
 x:EXk x 0
theorem kol {C:EC} {d:Int} {l:List wU} {k:Nat} (h:k<l.length) (x:EX):chnGo C d (l.drop k) x=if(txsGo C d (ix l (k:Int)).wO 0 (ix l (k:Int)).Txs x).f.wAW≠0 then txsGo C d (ix l (k:Int)).wO 0 (ix l (k:Int)).Txs x else chnGo C d (l.drop (k+1)) (txsGo C d (ix l (k:Int)).wO 0 (ix l (k:Int)).Txs x).x:=by rw[qo h,ix_get _ _ h];rfl
def rtS (s:PS):Int:=if s.r=[]then 0 else ix s.r ((s.r.length:Int)-1)
def treS (s:PS):wAb:=⟨rtS s,(s.l.length:Int)⟩
def trGo:List wU->PS->List wAb
 |[],_=>[]
 |b::r,s=>treS (applyS s b).s::trGo r (applyS s b).s
def ex0:EX:=⟨[],[],[],0,0,0⟩
def exmC (r:wP) (l:List wU):EC:=⟨treS (newS r)::trGo l (newS r),(auGo l (newS r)).s.l⟩
def exmY (r:wP) (l:List wU):EF:=chnGo (exmC r l) r.wD l ex0
def exmS (r:wP) (l:List wU):wK×Int:=if rulesE r=0 then(if(auGo l (newS r)).e=0 then(wK.mk (u64.wrap (u64.wrap (l.length:Int)*r.wd)) (totA 0 (auGo l (newS r)).s.b).1 (exmY r l).x.hd (exmY r l).x.cr (exmY r l).x.sp (exmY r l).f.wAW (exmY r l).f.wO (exmY r l).f.Tx (exmY r l).f.wBH (exmY r l).f.wBJ (exmY r l).f.wAw (exmY r l).f.wBK (exmY r l).f.wBI (exmY r l).f.wAv,0)else(zeroR,(auGo l (newS r)).e))else(zeroR,rulesE r)
def audS (ideal:Bool) (r:wP) (l:List wU):wK×Int:=if rulesE r≠0 then(zeroR,rulesE r)else if r.wAk≠2∨ideal=true then(zeroR,1)else exmS r l
structure BLk (l:List wU):Prop where
 r:∀b∈l,BR' b
 tl:∀b∈l,b.Txs.length<=4
 len:l.length<=12
theorem smA_B {r:wP} {l:List wU} (h:smA r l=true) (hr:∀b∈l,U64 b.wBP/\∀t∈b.Txs,TR t):r.wD<=6/\BLk l:=by unfold smA at h;simp only[qg,qai,qbj]at h;obtain⟨_,h2,h3,h4⟩:=h;refine⟨h2,fun b hb=>⟨(hr b hb).1,(hr b hb).2,fun t ht=> ?_⟩,fun b hb=>by have:=(h4 b hb).1;omega,by omega⟩;exact krs ((h4 b hb).2 t ht)
theorem kpo {l:List wU} {k:Nat} (h:k<l.length) (s:PS):trGo (l.drop k) s=treS (applyS s l[k]).s::trGo (l.drop (k+1)) (applyS s l[k]).s:=by rw[qo h];rfl
theorem k31 {s:PS} {b:wU} (h:(applyS s b).e=0):b.wO=(s.p.length:Int)+1/\(applyS s b).s.p.length=s.p.length+1/\(blkS s [] b).e=0/\(applyS s b).s.n=(blkS s [] b).s.n/\(applyS s b).s.l=(blkS s [] b).s.l:=by
 unfold applyS at h ⊢;split at h
 ·cases h
 ·rename_i h1;rw[qe h1];split at h
  ·cases h
  ·rename_i h2;rw[qe h2];split at h
   ·rename_i h3;exact(h3 h).elim
   ·rename_i h3;rw[qe h3];exact⟨qz h1,by simp,qz h3,rfl,rfl⟩
theorem kpk {s:PS} {c:Nat} (h:PI s c 0) {b:wU} (hc:c+b.Txs.length<=790) (hb:BR' b) (he:(applyS s b).e=0):s.l.length<=(applyS s b).s.l.length:=by have hB:=blkS_BI h qqo hb;rw[(k31 he).2.2.2.2];obtain⟨x,hx⟩:=hB.l;rw[hx,qh];omega
theorem ex0_k:EXk ex0 0:=⟨qaq _,fun y hy=>(by cases hy),rfl,fun p hp=>(by cases hp),qel,fun y hy=>(by cases hy),rfl,rfl⟩
def txV (t:wy):Int:=t.wH-t.wL-t.Fee
theorem kdy {f:Ask} {an:Int}:∀(l:List wN) (ms:Li),l.length=ms.length->insE f an l ms=0->∀x∈l,x.wBQ=true->x.wR=0
 |[],_,_,_,x,hx,_=>by cases hx
 |y::r,[],hl,_,_,_,_=>by simp at hl
 |y::r,m::ms,hl,h,x,hx,hd=>by
  unfold insE at h;split at h
  ·rename_i h1;exact(h1 h).elim
  ·rename_i h1;rcases qae.1 hx with rfl|hx
   ·have h1:inE f an m x=0:=qz h1;unfold inE at h1;split at h1
    ·cases h1
    ·split at h1
     ·cases h1
     ·try rw[qf hd]at h1
      by_cases h5:x.wR=0
      ·exact h5
      ·rw[qf h5]at h1;cases h1
   ·exact kdy r ms (by simpa using hl) h x hx hd
theorem khb {α:Type} (g:α->Int):∀(l:List α) (s:Int),l.foldl (fun s x=>(s+g x)%18446744073709551616) s%18446744073709551616=(s+(l.map g).sum)%18446744073709551616
 |[],s=>by simp
 |x::r,s=>by rw[qet,khb g r,qad,qeq];omega
theorem valL_in:∀{l:List wN},(∀x∈l,x.wBQ=true->x.wR=0)->valL l=(l.map (·.wR)).sum
 |[],_=>rfl
 |x::r,h=>by
  have ih:=valL_in (l:=r) fun y hy=>h y (by simp[hy]);unfold valL at ih ⊢;rw[qad,qad,qeq,qeq,ih];split
  ·rename_i hd;rw[h x qqs hd]
  ·rfl
theorem check_V {t:wy} {d:Int} {w:wZ} (h:checkS pkR (stmtS t d) w=0):(outS w.wA-valL w.Ins)%18446744073709551616=txV t%18446744073709551616/\validE t=0:=by
 obtain⟨h1,h2,h3,h4,h5⟩:=k2h.1 h;have hr:=k36.1 h1;have hv:validE t=0:=qz fun hv=>by have:=hr.1;unfold stmtS at this;rw[qe hv]at this;simp at this
 have hst:stmtS t d=⟨d,t.wM,t.wE,t.wA.map (·.wm),(List.range t.wA.length).map (fun i:Nat=>rhoS (originS t) (i:Int)),t.wH,t.wL,t.Fee,t.wQ,bindS t⟩:=qf hv;have hd:=kdy _ _ hr.2.2.2.2.2.2.2.2.2.1 h2;have hi:=khb (·.wR) w.Ins 0;have hi:inS w.Ins%18446744073709551616=(0+(w.Ins.map (·.wR)).sum)%18446744073709551616:=hi;rw[<-valL_in hd]at hi;rw[hst]at h5;have h5:(inS w.Ins+t.wH)%18446744073709551616=((outS w.wA+t.wL)%18446744073709551616+t.Fee)%18446744073709551616:=h5;refine⟨?_,hv⟩;unfold txV;omega
end Go.Proofs.YtljmmhaiaipckaaGreat
end
