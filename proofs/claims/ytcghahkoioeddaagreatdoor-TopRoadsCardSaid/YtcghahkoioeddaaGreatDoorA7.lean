/-
  Parts of the proofs that the laws of this seat hold of every input, merged by a program: a machine over pure data that is sound for the model, what each function of the translation does in it, and plain lemmas. No conditions but those in each theorem.
-/
import Derived.Test.YtcghahkoioeddaaGreatDoorA6
set_option linter.all false
set_option maxRecDepth 100000
noncomputable section
namespace Go.Proofs.YtcghahkoioeddaaGreatDoor
open Go Go.Bv Go.Cv Go.Md Go.RowKit
open Go.IntKind (i64 u64)
noncomputable def kd2:Con TB.den:= .b ⟨13,[.one (.ptr 0 0),.agg yA1],yB,(.tup [.one (zqi),.one (zqi),.one (zqi)]),yA,false⟩ (.st 3:: .int .i64:: .int .i64:: .int .i64:: .int .i64:: .int .i64:: .int .u64:: .int .i64:: .int .i64:: .int .u64:: .sl yqu:: .int .u64:: .int .i64:: .bool::yF) (.int .i64:: .int .i64:: .int .i64:: .int .i64:: .int .i64:: .int .i64:: .int .i64:: .int .i64:: .int .u64:: .int .i64:: .int .i64:: .int .u64:: .sl yqu:: .int .u64:: .int .i64:: .bool::yG) fun(p1:wI) (Ab Ad Af Aj Ak Ag Al Ah Ai:Int) (Ac:List Int) (Av Ae:Int) (Ap:Bool) (Aw Ax:Int) (Ay:List wH) (Bb Bc Bd Be Bf Bg Bh Bi Bj Bk Az:Int) (A0:List Int) (A7:List wA) (A8:Int) (w2k:List Int) (w2v:List wK) (w4k:List ByteArray) (w4v:List Int) (w5k:List ByteArray) (w5v:List (List Int)) (w6k:List ByteArray) (w6v:List Bool) (w7 w9:List Int) (w10:List wG) (w11k:List Int) (w11v:List Bool)=>(SCh (CS.mk (wB.mk Ab Ad Af Aj Ak Ag Al Ah Ai) w2k w2v Ac (PS.mk (wB.mk Bb Bc Bd Be Bf Bg Bh Bi Bj) (wD.mk Bk Az A0) A7 A8 w7 w9 w10 w11k w11v) Av Ae) p1/\Ap=false/\w4k=([]:List ByteArray)/\w4v=([]:List Int),subS (CS.mk (wB.mk Ab Ad Af Aj Ak Ag Al Ah Ai) w2k w2v Ac (PS.mk (wB.mk Bb Bc Bd Be Bf Bg Bh Bi Bj) (wD.mk Bk Az A0) A7 A8 w7 w9 w10 w11k w11v) Av Ae) p1,fun R=>(R.u,R.a,R.e,Ab,Ad,Af,Aj,Ak,Ag,Al,Ah,Ai,R.c.be,R.c.fi,R.c.he,Ap,Aw,Ax,Ay,R.c.S.R.wX,R.c.S.R.wC,R.c.S.R.wN,R.c.S.R.wM,R.c.S.R.wJ,R.c.S.R.wS,R.c.S.R.wV,R.c.S.R.wO,R.c.S.R.wR,R.c.S.F.wC,R.c.S.F.wZ,R.c.S.F.wc,R.c.S.b,R.c.S.n,R.c.k,R.c.v,w4k,w4v,w5k,w5v,w6k,w6v,R.c.S.k,R.c.S.v,R.c.S.l,R.c.S.r,R.c.S.p,()))
abbrev kq (R:SubR) (Ab Ad Af Aj Ak Ag Al Ah Ai:Int) (Ap:Bool) (Aw Ax:Int) (Ay:List wH) (w4k:List ByteArray) (w4v:List Int) (w5k:List ByteArray) (w5v:List (List Int)) (w6k:List ByteArray) (w6v:List Bool) (o0 o1 o2 o3 o4 o5 o6 o7 o8 o9 o10 o11:Int) (o12:List Int) (o13 o14:Int) (o15:Bool) (o16 o17:Int) (o18:List wH) (o19 o20 o21 o22 o23 o24 o25 o26 o27 o28 o29:Int) (o30:List Int) (o31:List wA) (o32:Int) (o33:List Int) (o34:List wK) (o35:List ByteArray) (o36:List Int) (o37:List ByteArray) (o38:List (List Int)) (o39:List ByteArray) (o40:List Bool) (o41:List Int) (o42:List Bool) (o43 o44:List Int) (o45:List wG):Prop:=o0=R.u/\o1=R.a/\o2=R.e/\o3=Ab/\o4=Ad/\o5=Af/\o6=Aj/\o7=Ak/\o8=Ag/\o9=Al/\o10=Ah/\o11=Ai/\o12=R.c.be/\o13=R.c.fi/\o14=R.c.he/\o15=Ap/\o16=Aw/\o17=Ax/\o18=Ay/\o19=R.c.S.R.wX/\o20=R.c.S.R.wC/\o21=R.c.S.R.wN/\o22=R.c.S.R.wM/\o23=R.c.S.R.wJ/\o24=R.c.S.R.wS/\o25=R.c.S.R.wV/\o26=R.c.S.R.wO/\o27=R.c.S.R.wR/\o28=R.c.S.F.wC/\o29=R.c.S.F.wZ/\o30=R.c.S.F.wc/\o31=R.c.S.b/\o32=R.c.S.n/\o33=R.c.k/\o34=R.c.v/\o35=w4k/\o36=w4v/\o37=w5k/\o38=w5v/\o39=w6k/\o40=w6v/\o41=R.c.S.k/\o42=R.c.S.v/\o43=R.c.S.l/\o44=R.c.S.r/\o45=R.c.S.p
theorem k5q:kd2.Ok Tryz.prog TB:=pbv Bs Tryz.func13 (.r 0 (.nd [] (.r 1 (.nd [] (.r 0 (.rt [.trimc 3 12,.trimc 3 16,.trimc 3 17])) [] .no)) [] (.r 0 (.nd [] (.r 1 (.nd [] (.r 0 (.rt [.trimc 3 12,.trimc 3 16,.trimc 3 17])) [] .no)) [] (.nd [] (.r 1 (.nd [] (.r 0 (.rt [.trimc 3 12,.trimc 3 16,.trimc 3 17])) [] .no)) [] (.r 0 (.nd [] (.jn ⟨[],[],[78],[.one (.d (.bool))],[]⟩ [] .no [] (.nd [] (.r 0 (.rt [.trimc 3 12,.trimc 3 16,.trimc 3 17])) [] .no)) [] (.nd [] (.r 0 (.lp [] ⟨[6,5,4,1],yN,[82],[.one (zqi)],[]⟩ (.r 1 (.nd [] (.r 2 (.nd [] (.r 0 (.rt [.trimc 3 12,.trimc 3 16,.trimc 3 17])) [] .no)) [] .no)))) [] (.r 0 (.jn ⟨[],[],[16],[.one (zqi)],[]⟩ [] (.lp [] ⟨[],[],[16],[.one (zqi)],[]⟩ .no) [] (.r 2 (.jn ⟨[],[],[18],[.one (zqu)],[]⟩ [] .no [] .no)))))))))))) (kfc.c (klh.c (ke8.c (kb8.c (kbw.c (khw.c (k3l.c (kf6.c (k6t.c (kam.c c0)))))))))) (Q:=∀(p1:wI) (Ab Ad Af Aj Ak Ag Al Ah Ai:Int) (Ac:List Int) (Av Ae:Int) (Ap:Bool) (Aw Ax:Int) (Ay:List wH) (Bb Bc Bd Be Bf Bg Bh Bi Bj Bk Az:Int) (A0:List Int) (A7:List wA) (A8:Int) (w2k:List Int) (w2v:List wK) (w4k:List ByteArray) (w4v:List Int) (w5k:List ByteArray) (w5v:List (List Int)) (w6k:List ByteArray) (w6v:List Bool) (w7 w9:List Int) (w10:List wG) (w11k:List Int) (w11v:List Bool),(SCh (CS.mk (wB.mk Ab Ad Af Aj Ak Ag Al Ah Ai) w2k w2v Ac (PS.mk (wB.mk Bb Bc Bd Be Bf Bg Bh Bi Bj) (wD.mk Bk Az A0) A7 A8 w7 w9 w10 w11k w11v) Av Ae) p1/\Ap=false/\w4k=([]:List ByteArray)/\w4v=([]:List Int))->∀R,subS (CS.mk (wB.mk Ab Ad Af Aj Ak Ag Al Ah Ai) w2k w2v Ac (PS.mk (wB.mk Bb Bc Bd Be Bf Bg Bh Bi Bj) (wD.mk Bk Az A0) A7 A8 w7 w9 w10 w11k w11v) Av Ae) p1=R-> 
(BR p1)/\let r3:Int:=(checkB (wB.mk Ab Ad Af Aj Ak Ag Al Ah Ai).wR p1)
((r3 !=0)=true->
 lz w7/\lz w9/\lz w10/\lz w10/\lz w9/\lz w7/\kq R Ab Ad Af Aj Ak Ag Al Ah Ai Ap Aw Ax Ay w4k w4v w5k w5v w6k w6v 0 0 r3 Ab Ad Af Aj Ak Ag Al Ah Ai Ac Av Ae Ap Aw Ax Ay Bb Bc Bd Be Bf Bg Bh Bi Bj Bk Az A0 A7 A8 w2k w2v w4k w4v w5k w5v w6k w6v w11k w11v w7 w9 w10)/\
((r3 !=0)=false->
(BR p1)/\w2k.length=w2v.length/\let v4:wK:=mVal (BEq.beq (idB p1)) w2k w2v (default:wK)
(mHas (BEq.beq (idB p1)) w2k=true->
 lz w7/\lz w9/\lz w10/\lz w10/\lz w9/\lz w7/\kq R Ab Ad Af Aj Ak Ag Al Ah Ai Ap Aw Ax Ay w4k w4v w5k w5v w6k w6v 0 0 5 Ab Ad Af Aj Ak Ag Al Ah Ai Ac Av Ae Ap Aw Ax Ay Bb Bc Bd Be Bf Bg Bh Bi Bj Bk Az A0 A7 A8 w2k w2v w4k w4v w5k w5v w6k w6v w11k w11v w7 w9 w10)/\
(mHas (BEq.beq (idB p1)) w2k=false->
 lz w10/\lz w9/\lz w7/\(w2k.length=w2v.length)/\(((parS w2k w2v p1) !=0)=true->
 lz w7/\lz w9/\lz w10/\lz w10/\lz w9/\lz w7/\kq R Ab Ad Af Aj Ak Ag Al Ah Ai Ap Aw Ax Ay w4k w4v w5k w5v w6k w6v 0 0 (parS w2k w2v p1) Ab Ad Af Aj Ak Ag Al Ah Ai Ac Av Ae Ap Aw Ax Ay Bb Bc Bd Be Bf Bg Bh Bi Bj Bk Az A0 A7 A8 w2k w2v w4k w4v w5k w5v w6k w6v w11k w11v w7 w9 w10)/\
(((parS w2k w2v p1) !=0)=false->
 lz w10/\lz w9/\lz w7/\((∃(R:wB) (n:Nat),KI R w2k w2v n/\n<=20)/\PaOk w2k w2v p1/\1<=p1.wQ)/\∀J1:Bool->Prop,(∀(b1:Bool),
((b1=true->
 lz w7/\lz w9/\lz w10/\lz w10/\lz w9/\lz w7/\kq R Ab Ad Af Aj Ak Ag Al Ah Ai Ap Aw Ax Ay w4k w4v w5k w5v w6k w6v 0 0 19 Ab Ad Af Aj Ak Ag Al Ah Ai Ac Av Ae Ap Aw Ax Ay Bb Bc Bd Be Bf Bg Bh Bi Bj Bk Az A0 A7 A8 w2k w2v w4k w4v w5k w5v w6k w6v w11k w11v w7 w9 w10)/\
(b1=false->
 ∃(I1:Fz5 Prop) (M1:Fz5 Nat),I1 0 Ap Aw Ax Ay w6k w6v w5k w5v w4k w4v/\∀f1 i1 k1 l1 m1 n1 o1 q1 s1 t1 u1,(I1 f1 i1 k1 l1 m1 n1 o1 q1 s1 t1 u1->
(decide (f1<(p1.Txs.length:Int))=true->
(0<=f1)/\f1<(p1.Txs.length:Int)/\(((wB.mk Ab Ad Af Aj Ak Ag Al Ah Ai).wX=2/\TR (ix p1.Txs f1)/\(ix p1.Txs f1).ww.length<=137438953472)/\i1=false/\t1=([]:List ByteArray)/\u1=([]:List Int))/\let r7:Int:=(txE (wB.mk Ab Ad Af Aj Ak Ag Al Ah Ai) (ix p1.Txs f1))
((r7 !=0)=true->
 lz w7/\lz w9/\lz w10/\lz w10/\lz w9/\lz w7/\kq R Ab Ad Af Aj Ak Ag Al Ah Ai Ap Aw Ax Ay w4k w4v w5k w5v w6k w6v 0 0 r7 Ab Ad Af Aj Ak Ag Al Ah Ai Ac Av Ae i1 k1 l1 m1 Bb Bc Bd Be Bf Bg Bh Bi Bj Bk Az A0 A7 A8 w2k w2v t1 u1 q1 s1 n1 o1 w11k w11v w7 w9 w10)/\
((r7 !=0)=false->
 I1 (i64.wrap (f1+1)) i1 k1 l1 m1 n1 o1 q1 s1 t1 u1/\M1 (i64.wrap (f1+1)) i1 k1 l1 m1 n1 o1 q1 s1 t1 u1<M1 f1 i1 k1 l1 m1 n1 o1 q1 s1 t1 u1))/\
(decide (f1<(p1.Txs.length:Int))=false->
 ∀J2:Int->Prop,(∀(x1:Int),
((0<=x1)/\x1<=(Ac.length:Int)/\(0<=x1)/\x1<=((brB w2k w2v p1).length:Int)/\lz w10/\lz w9/\lz w7/\(w2k.length=w2v.length/\MvOk w2k w2v (PS.mk (wB.mk Bb Bc Bd Be Bf Bg Bh Bi Bj) (wD.mk Bk Az A0) A7 A8 w7 w9 w10 w11k w11v) (Ac.drop x1.toNat).length ((brB w2k w2v p1).drop x1.toNat))/\let r10:=mvS w2k w2v (PS.mk (wB.mk Bb Bc Bd Be Bf Bg Bh Bi Bj) (wD.mk Bk Az A0) A7 A8 w7 w9 w10 w11k w11v) (Ac.drop x1.toNat).length ((brB w2k w2v p1).drop x1.toNat)
 lz r10.p/\lz r10.r/\lz r10.l/\((∃c:Nat,c+p1.Txs.length<=790/\PI (r10) c 0)/\BR' p1)/\((((applyS (r10) p1).e) !=0)=true->
(0<=x1)/\x1<=((brB w2k w2v p1).length:Int)/\(0<=x1)/\x1<=(Ac.length:Int)/\lz (((applyS (r10) p1).s).p)/\lz (((applyS (r10) p1).s).r)/\lz (((applyS (r10) p1).s).l)/\(w2k.length=w2v.length/\MvOk w2k w2v (((applyS (r10) p1).s)) ((brB w2k w2v p1).drop x1.toNat).length (Ac.drop x1.toNat))/\let r11:=mvS w2k w2v (((applyS (r10) p1).s)) ((brB w2k w2v p1).drop x1.toNat).length (Ac.drop x1.toNat)
 lz r11.p/\lz r11.r/\lz r11.l/\kq R Ab Ad Af Aj Ak Ag Al Ah Ai Ap Aw Ax Ay w4k w4v w5k w5v w6k w6v 0 0 ((applyS (r10) p1).e) Ab Ad Af Aj Ak Ag Al Ah Ai Ac Av Ae i1 k1 l1 m1 r11.R.wX r11.R.wC r11.R.wN r11.R.wM r11.R.wJ r11.R.wS r11.R.wV r11.R.wO r11.R.wR r11.F.wC r11.F.wZ r11.F.wc r11.b r11.n w2k w2v t1 u1 q1 s1 n1 o1 r11.k r11.v r11.l r11.r r11.p)/\
((((applyS (r10) p1).e) !=0)=false->
 ∀J3:Int->Prop,(∀(b2:Int),
(lz (((applyS (r10) p1).s).p)/\lz (((applyS (r10) p1).s).r)/\lz (((applyS (r10) p1).s).l)/\(w2k.length=w2v.length/\Ac.length<=1000)/\(p1.Txs.length<=4294967295/\∀x∈p1.Txs,TL x)/\w2k.length=w2v.length/\let v14:List Int:=mPutK (BEq.beq (idB p1)) w2k (idB p1)
 let v15:List wK:=mPutV (BEq.beq (idB p1)) w2k w2v (wK.mk p1.wd p1.wQ p1.wAF p1.wR p1.wU p1.Txs b2)
 lz (brB w2k w2v p1)/\((brB w2k w2v p1).length+[(idB p1)].length)*8<=140737488355328/\(brB w2k w2v p1).length+[(idB p1)].length<=maxLen/\((!(betS w2k w2v Ac (idB p1) b2))=true->
(0<=x1)/\x1<=(((brB w2k w2v p1)++[(idB p1)]).length:Int)/\let v16:List Int:=((brB w2k w2v p1)++[(idB p1)]).drop x1.toNat
(0<=x1)/\x1<=(Ac.length:Int)/\lz (((applyS (r10) p1).s).p)/\lz (((applyS (r10) p1).s).r)/\lz (((applyS (r10) p1).s).l)/\(v14.length=v15.length/\MvOk v14 v15 (((applyS (r10) p1).s)) v16.length (Ac.drop x1.toNat))/\let r17:=mvS v14 v15 (((applyS (r10) p1).s)) v16.length (Ac.drop x1.toNat)
 lz r17.p/\lz r17.r/\lz r17.l/\kq R Ab Ad Af Aj Ak Ag Al Ah Ai Ap Aw Ax Ay w4k w4v w5k w5v w6k w6v 0 0 0 Ab Ad Af Aj Ak Ag Al Ah Ai Ac Av Ae i1 k1 l1 m1 r17.R.wX r17.R.wC r17.R.wN r17.R.wM r17.R.wJ r17.R.wS r17.R.wV r17.R.wO r17.R.wR r17.F.wC r17.F.wZ r17.F.wc r17.b r17.n v14 v15 t1 u1 q1 s1 n1 o1 r17.k r17.v r17.l r17.r r17.p)/\
((!(betS w2k w2v Ac (idB p1) b2))=false->
 let v18:Int:=i64.wrap ((Ac.length:Int)-x1)
 let v19:Int:=(((brB w2k w2v p1)++[(idB p1)]).length:Int)
 lz (((applyS (r10) p1).s).p)/\lz (((applyS (r10) p1).s).r)/\lz (((applyS (r10) p1).s).l)/\((brB w2k w2v p1)++[(idB p1)]=(brB w2k w2v p1)++[(idB p1)])/\((1<=Ah/\Ah<=1048576)/\((brB w2k w2v p1)++[(idB p1)]).length<=1000)/\let r20:=finS Ah ((brB w2k w2v p1)++[(idB p1)]) Av Ae
 lz (((applyS (r10) p1).s).p)/\lz (((applyS (r10) p1).s).r)/\lz (((applyS (r10) p1).s).l)/\kq R Ab Ad Af Aj Ak Ag Al Ah Ai Ap Aw Ax Ay w4k w4v w5k w5v w6k w6v v18 (i64.wrap (v19-x1)) 0 Ab Ad Af Aj Ak Ag Al Ah Ai ((brB w2k w2v p1)++[(idB p1)]) r20.f r20.h i1 k1 l1 m1 (((applyS (r10) p1).s).R.wX) (((applyS (r10) p1).s).R.wC) (((applyS (r10) p1).s).R.wN) (((applyS (r10) p1).s).R.wM) (((applyS (r10) p1).s).R.wJ) (((applyS (r10) p1).s).R.wS) (((applyS (r10) p1).s).R.wV) (((applyS (r10) p1).s).R.wO) (((applyS (r10) p1).s).R.wR) (((applyS (r10) p1).s).F.wC) (((applyS (r10) p1).s).F.wZ) (((applyS (r10) p1).s).F.wc) (((applyS (r10) p1).s).b) (((applyS (r10) p1).s).n) v14 v15 t1 u1 q1 s1 n1 o1 (((applyS (r10) p1).s).k) (((applyS (r10) p1).s).v) (((applyS (r10) p1).s).l) (((applyS (r10) p1).s).r) (((applyS (r10) p1).s).p)))->J3 b2)->
 let v12:Bool:=decide (0<((brB w2k w2v p1).length:Int))
(v12=true->
 w2k.length=w2v.length/\let v13:wK:=mVal (BEq.beq p1.wd) w2k w2v (default:wK)
 J3 (u64.wrap (p1.wR+v13.work)))/\
(v12=false->
 J3 p1.wR)))->J2 x1)->
 ∃(I2:Int->Prop) (M2:Int->Nat),I2 0/\∀y1,(I2 y1->
 let v8:Bool:=decide (y1<((brB w2k w2v p1).length:Int))
(v8=true->
(decide (y1<(Ac.length:Int))=true->
(0<=y1)/\y1<((brB w2k w2v p1).length:Int)/\(0<=y1)/\y1<(Ac.length:Int)/\let v9:Bool:=((ix (brB w2k w2v p1) y1)==(ix Ac y1))
(v9=true->
 I2 (i64.wrap (y1+1))/\M2 (i64.wrap (y1+1))<M2 y1)/\
(v9=false->
 J2 y1))/\
(decide (y1<(Ac.length:Int))=false->
 J2 y1))/\
(v8=false->
 J2 y1))))))->J1 b1)->
(decide (0<Ae)=true->
 let v5:Bool:=decide (((brB w2k w2v p1).length:Int)<Ae)
(v5=true->
 J1 true)/\
(v5=false->
(0<=i64.wrap (Ae-1))/\i64.wrap (Ae-1)<((brB w2k w2v p1).length:Int)/\let v6:Int:=ix (brB w2k w2v p1) (i64.wrap (Ae-1))
 J1 (v6 !=Av)))/\
(decide (0<Ae)=false->
 J1 false)))))<|by
 rintro p1 Ab Ad Af Aj Ak Ag Al Ah Ai Ac Av Ae Ap Aw Ax Ay Bb Bc Bd Be Bf Bg Bh Bi Bj Bk Az A0 A7 A8 w2k w2v w4k w4v w5k w5v w6k w6v w7 w9 w10 w11k w11v h R hR;obtain⟨hS,rfl,rfl,rfl⟩:=h;obtain⟨n,hn,hK,b1,b2,b3,hst,he0,hb,hm⟩:=hS.facts;have hkv:=hK.kv;have hF:=kh2 hK.ru;have h64:=hb.t;refine⟨hb.r,fun e1=> ?_,fun e1=> ?_⟩
 ·have hq:=hR.symm.trans (sub_e1 (bne_iff_ne.1 e1));subst hq;exact(by repeat' first|apply qaa|exact rfl|exact qq)
 ·have h1:=bne_eq_false_iff_eq.1 e1;refine⟨hb.r,hkv,fun e2=> ?_,fun e2=> ?_⟩
  ·have hq:=hR.symm.trans (sub_e2 h1 (k2j.1 e2));subst hq;exact(by repeat' first|apply qaa|exact rfl|exact qq)
  ·have h2:idB p1∉w2k:=fun h=>by rw[k2j.2 h]at e2;cases e2
   refine⟨rfl,rfl,rfl,hkv,fun e3=> ?_,fun e3=> ?_⟩
   ·have hq:=hR.symm.trans (sub_e3 h1 h2 (bne_iff_ne.1 e3));subst hq;exact(by repeat' first|apply qaa|exact rfl|exact qq)
   ·have h3:=bne_eq_false_iff_eq.1 e3;have hv:=kjo h1;have hp:=parS_ok h3 hv;obtain⟨q1,q2,q3,q4,q5⟩:=hK.br hp hv.h.h0;refine⟨rfl,rfl,rfl,⟨⟨_,n,hK,by omega⟩,hp,hv.h.h0⟩,?_⟩;intro J1 k1
    have j1:∀b:Bool,(b=true↔(0<Ae/\(((brB w2k w2v p1).length:Int)<Ae∨ix (brB w2k w2v p1) (Ae-1)≠Av)))->J1 b:=by
     intro b hbb;refine k1 b ⟨fun e4=> ?_,fun e4=> ?_⟩
     ·have hq:=hR.symm.trans (sub_e4 h1 h2 h3 (hbb.1 e4));subst hq;exact(by repeat' first|apply qaa|exact rfl|exact qq)
     ·have h4:¬(0<Ae/\(((brB w2k w2v p1).length:Int)<Ae∨ix (brB w2k w2v p1) (Ae-1)≠Av)):=fun h=>by rw[hbb.2 h]at e4;cases e4
      refine⟨(fun f i k l m n o q s t u=>∃j:Nat,f=(j:Int)/\j<=p1.Txs.length/\(false=i/\Aw=k/\Ax=l/\Ay=m/\w6k=n/\w6v=o/\w5k=q/\w5v=s/\[]=t/\[]=u)/\txsE (wB.mk Ab Ad Af Aj Ak Ag Al Ah Ai) (p1.Txs.drop j)=txsE (wB.mk Ab Ad Af Aj Ak Ag Al Ah Ai) p1.Txs),(fun f _ _ _ _ _ _ _ _ _ _=>(p1.Txs.length-f).toNat),⟨0,rfl,qbg _,⟨rfl,rfl,rfl,rfl,rfl,rfl,rfl,rfl,rfl,rfl⟩,rfl⟩,?_⟩;rintro _ _ _ _ _ _ _ _ _ _ _ ⟨j,rfl,hj,⟨rfl,rfl,rfl,rfl,rfl,rfl,rfl,rfl,rfl,rfl⟩,ht⟩;refine⟨fun e5=> ?_,fun e5=> ?_⟩
      ·have e5:(j:Int)<p1.Txs.length:=qb e5;have hjl:j<p1.Txs.length:=by omega
       have hmem:p1.Txs[j]∈p1.Txs:=qak hjl;rw[ix_get _ _ hjl,inc (j:Int) p1.Txs.length qqo e5 qqo];rw[kna hjl]at ht;refine⟨by omega,e5,⟨⟨hm,hb.r.t _ hmem,by have:=(hb.l _ hmem).p;omega⟩,rfl,rfl,rfl⟩,fun e6=> ?_,fun e6=> ?_⟩
       ·have e6:=bne_iff_ne.1 e6;rw[qh e6]at ht;have hq:=hR.symm.trans (sub_e5 h1 h2 h3 h4 (by rw[<-ht];exact e6));rw[<-ht]at hq;subst hq;exact(by repeat' first|apply qaa|exact rfl|exact qq)
       ·have e6:=bne_eq_false_iff_eq.1 e6;rw[qe (fun hh=>hh e6)]at ht;exact⟨⟨j+1,rfl,by omega,⟨rfl,rfl,rfl,rfl,rfl,rfl,rfl,rfl,rfl,rfl⟩,ht⟩,by(first|omega|(dsimp only;omega))⟩
      ·have e5:¬(j:Int)<p1.Txs.length:=qc e5;rw[qbp qqo]at ht;have h5:txsE (wB.mk Ab Ad Af Aj Ak Ag Al Ah Ai) p1.Txs=0:=ht.symm;intro J2 k2;obtain⟨c1,c2,hct⟩:=cpl_le (brB w2k w2v p1) Ac
       have j2:∀i:Nat,i=cpl (brB w2k w2v p1) Ac->J2 (i:Int):=by
        intro i hi;rw[<-hi]at c1 c2 hct;refine k2 _ ?_;rw[qr];obtain⟨m1,m2⟩:=hK.mv qqo b1 q2 qqo qqo b3 q3 c2 c1 hct.symm hst;have hP:=(hK.pi q2 qqo q3).1;refine⟨by omega,by omega,by omega,by omega,rfl,rfl,rfl,⟨hkv,m1⟩,?_⟩;dsimp only;rw[m2];refine⟨rfl,rfl,rfl,⟨⟨_,by have:=hb.t;omega,hP⟩,hb.r'⟩,fun e6=> ?_,fun e6=> ?_⟩
        ·have e6:=bne_iff_ne.1 e6;obtain⟨m3,m4⟩:=hK.mv qqo q2 b1 qqo qqo q3 b3 c1 c2 hct (kmk e6);refine⟨by omega,by omega,by omega,by omega,rfl,rfl,rfl,⟨hkv,m3⟩,?_⟩;rw[m4,<-hst];have hq:=hR.symm.trans (sub_e6 h1 h2 h3 h4 h5 e6);subst hq;exact(by repeat' first|apply qaa|exact rfl|exact qq)
        ·have e6:=bne_eq_false_iff_eq.1 e6;have hN:NB (wB.mk Ab Ad Af Aj Ak Ag Al Ah Ai) w2k w2v (idB p1) p1:=⟨h2,hp,hv.h.h0,hb.r',hb.t,e6,h5⟩;intro J3 k3
         have j3:∀w:Int,w=wk8 w2k w2v p1->J3 w:=by
          intro w hw;refine k3 w ?_;obtain⟨g1,g2⟩:=kns h2 w2v (stoS p1 w);have g2:mPutV (BEq.beq (idB p1)) w2k w2v (wK.mk p1.wd p1.wQ p1.wAF p1.wR p1.wU p1.Txs w)=w2v++[stoS p1 w]:=g2;refine⟨rfl,rfl,rfl,⟨hkv,by omega⟩,⟨by have:=hb.t;omega,hb.l⟩,hkv,?_⟩;rw[g1,g2];obtain⟨s1,s2,s3⟩:=hK.step (y:=stoS p1 w) hN;rw[blk_sto]at s3;have hl1:(brB w2k w2v p1++[idB p1]).length=(brB w2k w2v p1).length+1:=by simp
          refine⟨rfl,by simp only[qcl];omega,by simp only[qcl];unfold maxLen;omega,fun e7=> ?_,fun e7=> ?_⟩
          ·have hbt:betS w2k w2v Ac (idB p1) w=false:=by simpa using e7
           have hbo:=stL_old (R:=(wB.mk Ab Ad Af Aj Ak Ag Al Ah Ai)) (id:=idB p1) (y:=stoS p1 w) hkv b1
           obtain⟨m5,m6⟩:=s1.mv qqo (l:=brB w2k w2v p1++[idB p1]) (m:=Ac) (i:=i) (fun x hx=>by
            rcases qal.1 hx with hx|hx
            ·simp[q2 x hx]
            ·simp[qav.1 hx]) (fun x hx=>by simp[b1 x hx]) qqo qqo (by rw[s3]) (by rw[hbo];exact b3) qqo qqo (by rw[List.take_append_of_le_length c1];exact hct) (show(applyS (stL (wB.mk Ab Ad Af Aj Ak Ag Al Ah Ai) w2k w2v (brB w2k w2v p1)).s p1).s=_ by rw[s3])
           refine⟨by omega,by omega,by omega,by omega,rfl,rfl,rfl,⟨by simp[hkv],m5⟩,?_⟩;rw[m6,hbo,<-hst];have hq:=hR.symm.trans (sub_no h1 h2 h3 h4 h5 e6 hw hbt);subst hq;exact(by repeat' first|apply qaa|exact rfl|exact qq)
          ·have hbt:betS w2k w2v Ac (idB p1) w=true:=by simpa using e7
           have w1:i64.wrap ((Ac.length:Int)-(i:Int))=(Ac.length:Int)-(i:Int):=wi _ qqo qqo;have w2:i64.wrap (((brB w2k w2v p1++[idB p1]).length:Int)-(i:Int))=((brB w2k w2v p1).length:Int)+1-(i:Int):=by rw[hl1,wi _ qqo qqo];omega
           refine⟨rfl,rfl,rfl,rfl,⟨hF,by omega⟩,rfl,rfl,rfl,?_⟩;have hq:=hR.symm.trans (sub_yes h1 h2 h3 h4 h5 e6 hw hbt hi);subst hq;exact(by repeat' first|apply qaa|exact w1|exact w2|exact rfl|exact qq)
         refine⟨fun e7=>⟨hkv,j3 _ ?_⟩,fun e7=>j3 _ ?_⟩
         ·unfold wk8;rw[qe (fun hh=>by have:=qb e7;rw[hh]at this;simp at this)];rfl
         ·unfold wk8;rw[qh (qcx.1 (by have:=qc e7;omega))]
       refine⟨(fun y=>∃i:Nat,y=(i:Int)/\i<=cpl (brB w2k w2v p1) Ac),(fun y=>((brB w2k w2v p1).length-y).toNat),⟨0,rfl,qbg _⟩,?_⟩;rintro _ ⟨i,rfl,hi⟩;have hci:=cpl_ix hi;refine⟨fun e6=>⟨fun e7=> ?_,fun e7=> ?_⟩,fun e6=> ?_⟩
       ·have e6:(i:Int)<(brB w2k w2v p1).length:=qb e6;have e7:(i:Int)<Ac.length:=qb e7;refine⟨by omega,e6,by omega,e7,fun e8=> ?_,fun e8=> ?_⟩
        ·have e8:=eq_of_beq e8;rw[inc (i:Int) (brB w2k w2v p1).length qqo e6 qqo];refine⟨⟨i+1,rfl,?_⟩,by(first|omega|(dsimp only;omega))⟩;have:i≠cpl (brB w2k w2v p1) Ac:=fun hh=>hci.1 hh ⟨by omega,by omega,e8⟩;omega
        ·exact j2 i (hci.2 fun hh=>by rw[hh.2.2]at e8;simp at e8)
       ·have e7:¬(i:Int)<Ac.length:=qc e7;exact j2 i (hci.2 fun hh=>by omega)
       ·have e6:¬(i:Int)<(brB w2k w2v p1).length:=qc e6;exact j2 i (hci.2 fun hh=>by omega)
    refine⟨fun e4=>⟨fun e5=> ?_,fun e5=> ?_⟩,fun e4=> ?_⟩
    ·exact j1 true ⟨fun _=>⟨qb e4,.inl (qb e5)⟩,fun _=>rfl⟩
    ·have e4:=qb e4;have e5:¬((brB w2k w2v p1).length:Int)<Ae:=qc e5;rw[wi (Ae-1) qqo qqo];exact⟨by omega,by omega,j1 _ ⟨fun e6=>⟨e4,.inr (bne_iff_ne.1 e6)⟩,fun hh=>hh.2.elim (fun h=>(e5 h).elim) (fun h=>bne_iff_ne.2 h)⟩⟩
    ·exact j1 false ⟨fun h=>(by cases h),fun hh=>(qc e4 hh.1).elim⟩
noncomputable def kj1:Con TB.den:= .gp 220 [yqu] [yqi] [] fun(p0:Int)=>(U64 p0,(len64 p0:Int),())
theorem kbf:kj1.Ok Tryz.prog TB:=qrv Bs Tryz.func220 .no (k8i.c c0) (Q:=∀(p0:Int),(U64 p0)->∀r0:Int,len64 p0=r0-> 
(U64 p0)/\(len64 p0)=r0)<|by rintro p0 h _ rfl;exact⟨h,rfl⟩
noncomputable def kiy:Con TB.den:= .tp 292 [yqu,yqu] [.bool] [] fun(p0 p1:Int)=>((decide (p0<p1):Bool),())
theorem k1j:kiy.Ok Tryz.prog TB:=qtv Bs Tryz.func292 .no (k9o.c c0) (Q:=∀(p0 p1:Int),∀r0:Bool,(decide (p0<p1))=r0-> 
(false=true->
((!false)=true->
 true=r0)/\
((!false)=false->
 decide (p0<p1)=r0))/\
(false=false->
 decide (p0<p1)=r0))<|by rintro p0 p1 _ rfl;exact⟨fun h=>by simp at h,fun _=>rfl⟩
noncomputable def k4d:Con TB.den:= .gp 372 [yqi] [yqu] [] fun(p0:Int)=>(0<=p0/\p0<4611686018427387904,(((1<<<Sort.bitsLen p0.toNat:Nat):Int):Int),())
theorem k4q:k4d.Ok Tryz.prog TB:=qrv Bs Tryz.func372 .no (kbf.c c0) (Q:=∀(p0:Int),(0<=p0/\p0<4611686018427387904)->∀r0:Int,((1<<<Sort.bitsLen p0.toNat:Nat):Int)=r0-> 
(U64 (u64.wrap p0))/\(0<=(len64 (u64.wrap p0)))/\let v1:Int:=ishl .u64 1 (len64 (u64.wrap p0))
 v1=r0)<|by rintro p0 h _ rfl;obtain⟨h0,h1⟩:=h;have e:=npo p0.toNat qqo;rw[show((p0.toNat:Nat):Int)=p0 by omega]at e;have e2:=kdv p0.toNat;rw[show((p0.toNat:Nat):Int)=p0 by omega]at e2;refine ?_;rw[wu p0 h0 qqo,e];exact⟨⟨h0,by omega⟩,by rw[e2];omega,rfl⟩
noncomputable def kao:Con TB.den:= .t (gk 373 [.one (.ptr 0 0)] [.cells [zqu]] (.one (.one (zqu)))) [yqu] [yqu,yqu] [] fun(Aa:Int)=>((xnI Aa:Int),(xnI Aa:Int),())
theorem kct:kao.Ok Tryz.prog TB:=ptv Bs Tryz.func373 .no c0 (Q:=∀(Aa:Int),∀r0:Int,xnI Aa=r0->∀At:Int,xnI Aa=At-> 
 let v1:Int:=ishr .u64 (ixor .u64 Aa (ishl .u64 Aa 13)) 7
 let v2:Int:=ixor .u64 (ixor .u64 Aa (ishl .u64 Aa 13)) v1
 ixor .u64 v2 (ishl .u64 v2 17)=r0/\ixor .u64 v2 (ishl .u64 v2 17)=At)<|by rintro Aa _ rfl _ rfl;exact⟨rfl,rfl⟩
noncomputable def k2t:Con TB.den:= .g (gk 288 [.one (.row 0),.one (zqi),.one (zqi)] [.vec yqu] (.tup [])) yL1 [.sl yqu] [] fun(p1 p2:Int) (w0:List Int)=>((0<=p1/\p1<=p2/\p2<=w0.length)/\w0.length<=1099511627776,(brkS w0 p1 p2:List Int),())
set_option maxHeartbeats 1000000 in
theorem k2y:k2t.Ok Tryz.prog TB:=prv Bs Tryz.func288 (.r 1 (.nd [] (.r 2 (.lp [] ⟨[1,0],[.cells [zqu],.vec yqu],[9],[.one (zqi)],[]⟩ (.r 0 (.nd [] (.r 0 (.jn ⟨[],[],[10],[.one (zqi)],[]⟩ [] .no [] .no)) [] .no)))) [] .no)) (k4q.c (kct.c c0)) (Q:=∀(p1 p2:Int) (w0:List Int),((0<=p1/\p1<=p2/\p2<=w0.length)/\w0.length<=1099511627776)->∀e0:List Int,brkS w0 p1 p2=e0-> 
 let v1:Bool:=decide (8<=(i64.wrap (p2-p1)))
(v1=true->
 let v2:Int:=u64.wrap (i64.wrap (p2-p1))
(0<=(i64.wrap (p2-p1))/\(i64.wrap (p2-p1))<4611686018427387904)/\let r3:Int:=((1<<<Sort.bitsLen (i64.wrap (p2-p1)).toNat:Nat):Int)
 let v4:Int:=i64.wrap (Int.tdiv (i64.wrap (p2-p1)) 4)
 let v5:Int:=i64.wrap (p1+(i64.wrap (v4*2)))
 ∃(I1:Int->Int->(List Int)->Prop) (M1:Int->Int->(List Int)->Nat),I1 (i64.wrap (v5-1)) v2 w0/\∀b1 f1 i1,(I1 b1 f1 i1->
 let v6:Int:=i64.wrap (Int.tdiv (i64.wrap (p2-p1)) 4)
 let v7:Int:=i64.wrap (p1+(i64.wrap (v6*2)))
 let v8:Bool:=decide (b1<=(i64.wrap (v7+1)))
(v8=true->
 let v9:Int:=iand .u64 (xnI f1) (u64.wrap (r3-1))
 ∀J1:Int->Prop,(∀(k1:Int),
((0<=i64.wrap (p1+k1)/\i64.wrap (p1+k1)<(w0.length:Int))/\(0<=i64.wrap (p1+k1)/\i64.wrap (p1+k1)<(i1.length:Int))/\(0<=b1/\b1<(w0.length:Int))/\(0<=b1/\b1<(i1.length:Int))/\(0<=b1/\b1<(w0.length:Int))/\(0<=b1/\b1<(i1.length:Int))/\(0<=i64.wrap (p1+k1)/\i64.wrap (p1+k1)<(w0.length:Int))/\(0<=i64.wrap (p1+k1)/\i64.wrap (p1+k1)<((i1.set b1.toNat (ix i1 (i64.wrap (p1+k1)))).length:Int))/\I1 (i64.wrap (b1+1)) (xnI f1) ((i1.set b1.toNat (ix i1 (i64.wrap (p1+k1)))).set (i64.wrap (p1+k1)).toNat (ix i1 b1))/\M1 (i64.wrap (b1+1)) (xnI f1) ((i1.set b1.toNat (ix i1 (i64.wrap (p1+k1)))).set (i64.wrap (p1+k1)).toNat (ix i1 b1))<M1 b1 f1 i1)->J1 k1)->
 let v10:Bool:=decide ((i64.wrap (p2-p1))<=(i64.wrap v9))
(v10=true->
 let v11:Int:=i64.wrap ((i64.wrap v9)-(i64.wrap (p2-p1)))
 J1 v11)/\
(v10=false->
 J1 (i64.wrap v9)))/\
(v8=false->
 i1=e0)))/\
(v1=false->
 w0=e0))<|by
 rintro p1 p2 w0 h _ rfl;obtain⟨⟨h1,h2,h3⟩,h4⟩:=h;have e1:=wi (p2-p1) qqo qqo;have e5:=wu (p2-p1) qqo qqo;have e3:Int.tdiv (p2-p1) 4=(p2-p1)/4:=Int.tdiv_eq_ediv_of_nonneg qqo;have e4:=wi ((p2-p1)/4) qqo qqo;have e6:=wi ((p2-p1)/4*2) qqo qqo;have e7:=wi (p1+(p2-p1)/4*2) qqo qqo;have e8:=wi (p1+(p2-p1)/4*2-1) qqo qqo;have e9:=wi (p1+(p2-p1)/4*2+1) qqo qqo;dsimp only;rw[e1,e5,e3,e4,e6,e7,e8];refine⟨fun hh=> ?_,fun hh=> ?_⟩
 ·have hh:=qb hh;have hm:=npo_le (p2-p1).toNat qqo;have hb:=brk_eq w0.toArray p1.toNat p2.toNat qqo;rw[show p2.toNat-p1.toNat=(p2-p1).toNat by omega]at hb;have hR:(brkS w0 p1 p2)=(brkL p1.toNat (p2-p1).toNat (1<<<Sort.bitsLen (p2-p1).toNat) 3 (UInt64.ofNat (p2-p1).toNat,w0.toArray) (p1.toNat+(p2-p1).toNat/4*2-1)).toList:=by unfold brkS;rw[hb]
  refine⟨⟨by omega,by omega⟩,?_⟩;generalize 1<<<Sort.bitsLen (p2-p1).toNat=md at *
  generalize brkS w0 p1 p2=R at *
  clear hb;have e0:(UInt64.ofNat (p2-p1).toNat).toNat=(p2-p1).toNat:=by rw[UInt64.toNat_ofNat',Nat.mod_eq_of_lt qqo]
  refine⟨fun idx rnd g=>∃(k:Nat) (u:UInt64),(k<=3/\idx+k=p1+(p2-p1)/4*2+2)/\rnd=(u.toNat:Int)/\g.length=w0.length/\R=(brkL p1.toNat (p2-p1).toNat md k (u,g.toArray) idx.toNat).toList,fun idx _ _=>(p1+(p2-p1)/4*2+2-idx).toNat,⟨3,UInt64.ofNat (p2-p1).toNat,⟨by omega,by omega⟩,by omega,rfl,by rw[hR,show(p1+(p2-p1)/4*2-1).toNat=p1.toNat+(p2-p1).toNat/4*2-1 by omega]⟩,?_⟩;clear hR e0;have hq:0<=(p2-p1)/4/\4*((p2-p1)/4)<=p2-p1/\p2-p1<4*((p2-p1)/4)+4:=by omega
  generalize (p2-p1)/4=dq at *
  generalize hn:(p2-p1).toNat=n at *
  have hn2:(n:Int)=p2-p1:=by omega
  rintro idx rnd g ⟨k,u,⟨k0,k1⟩,rfl,g2,g3⟩;rw[e9];refine⟨fun q=> ?_,fun q=> ?_⟩
  ·have q:=qb q;intro J1 k1;obtain⟨k,rfl⟩:∃m,k=m+1:=⟨k-1,by omega⟩;rw[brkL_go]at g3;have hx:=xnI_eq u;have hlt:=(Sort.xorNext u).toNat_lt;generalize xnI (u.toNat:Int)=xu at *
   generalize Sort.xorNext u=u' at *
   subst hx;have hmd:(u'.toNat&&&(md-1))<=md-1:=Nat.and_le_right;have e10:iand .u64 (u'.toNat:Int) (u64.wrap ((md:Int)-1))=((u'.toNat&&&(md-1):Nat):Int):=by rw[wu _ qqo qqo,show(md:Int)-1=((md-1:Nat):Int)by omega,kd6 _ _ qqo qqo]
   rw[e10];generalize u'.toNat&&&(md-1)=z at *
   rw[wi (z:Int) qqo qqo];generalize ho:(if z≥n then z-n else z)=o at *
   have ho2:o<n:=by rw[<-ho];split<;>omega
   have w1:=wi (p1+(o:Int)) qqo qqo;have w2:=wi (idx+1) qqo qqo;have hs:=swp_arr (g:=g) (i:=idx) (j:=p1+(o:Int)) qqo qqo qqo qqo;rw[show p1.toNat+o=(p1+(o:Int)).toNat by omega,hs,show idx.toNat+1=(idx+1).toNat by omega]at g3;have fin:(∃(k:Nat) (u:UInt64),(k<=3/\i64.wrap (idx+1)+k=p1+dq*2+2)/\(u'.toNat:Int)=(u.toNat:Int)/\(swpL g idx (i64.wrap (p1+(o:Int)))).length=w0.length/\R=(brkL p1.toNat n md k (u,(swpL g idx (i64.wrap (p1+(o:Int)))).toArray) (i64.wrap (idx+1)).toNat).toList)/\(p1+dq*2+2-i64.wrap (idx+1)).toNat<(p1+dq*2+2-idx).toNat:=by rw[w1,w2];exact⟨⟨k,u',⟨by omega,by omega⟩,rfl,by rw[k7a];exact g2,g3⟩,by omega⟩
   have rng:(0<=i64.wrap (p1+(o:Int))/\i64.wrap (p1+(o:Int))<(g.length:Int))/\(0<=idx/\idx<(g.length:Int)):=by rw[w1];exact⟨⟨by omega,by omega⟩,⟨by omega,by omega⟩⟩
   have rng2:0<=i64.wrap (p1+(o:Int))/\i64.wrap (p1+(o:Int))<((g.set idx.toNat (ix g (i64.wrap (p1+(o:Int))))).length:Int):=by rw[qy];exact rng.1
   have rw1:0<=i64.wrap (p1+(o:Int))/\i64.wrap (p1+(o:Int))<(w0.length:Int):=by rw[<-g2];exact rng.1
   have rw2:0<=idx/\idx<(w0.length:Int):=by rw[<-g2];exact rng.2
   refine⟨fun e=> ?_,fun e=> ?_⟩
   ·have e:=qb e;rw[qh qqo]at ho;rw[show(z:Int)-(p2-p1)=(o:Int)by omega,wi (o:Int) qqo qqo];exact k1 _ ⟨rw1,rng.1,rw2,rng.2,rw2,rng.2,rw1,rng2,fin.1,fin.2⟩
   ·have e:=qc e;rw[qe qqo]at ho;subst ho;exact k1 _ ⟨rw1,rng.1,rw2,rng.2,rw2,rng.2,rw1,rng2,fin.1,fin.2⟩
  ·have q:=qc q;have:k=0:=by omega
   subst this;rw[g3];rfl
 ·have hh:=qc hh;unfold brkS;rw[brk_no _ _ _ qqo]
noncomputable def k5a:Con TB.den:= .g (gk 449 [.one (.row 0),.one (zqi),.one (zqi),.one (.ptr 1 0)] yF1 (.tup [.one (zqi),.one (zqi)])) yH1 yH1 [] fun(p1 p2 Ap:Int) (w0:List Int)=>((0<=p1/\p1<w0.length)/\(0<=p2/\p2<w0.length)/\0<=Ap/\Ap<=1000,(((Sort.order2 Sort.ltInt w0.toArray p1.toNat p2.toNat Ap.toNat).1:Int):Int),(((Sort.order2 Sort.ltInt w0.toArray p1.toNat p2.toNat Ap.toNat).2.1:Int):Int),(((Sort.order2 Sort.ltInt w0.toArray p1.toNat p2.toNat Ap.toNat).2.2:Int):Int),w0,())
theorem k5c:k5a.Ok Tryz.prog TB:=prv Bs Tryz.func449 .no (k1j.c c0) (Q:=∀(p1 p2 Ap:Int) (w0:List Int),((0<=p1/\p1<w0.length)/\(0<=p2/\p2<w0.length)/\0<=Ap/\Ap<=1000)->∀r0:Int,((Sort.order2 Sort.ltInt w0.toArray p1.toNat p2.toNat Ap.toNat).1:Int)=r0->∀r1:Int,((Sort.order2 Sort.ltInt w0.toArray p1.toNat p2.toNat Ap.toNat).2.1:Int)=r1->∀B1:Int,((Sort.order2 Sort.ltInt w0.toArray p1.toNat p2.toNat Ap.toNat).2.2:Int)=B1->∀e0:List Int,w0=e0-> 
(0<=p2/\p2<(w0.length:Int))/\(0<=p2/\p2<(w0.length:Int))/\(0<=p1/\p1<(w0.length:Int))/\(0<=p1/\p1<(w0.length:Int))/\((decide ((ix w0 p2)<(ix w0 p1)))=true->
 p2=r0/\p1=r1/\i64.wrap (Ap+1)=B1/\w0=e0)/\
((decide ((ix w0 p2)<(ix w0 p1)))=false->
 p1=r0/\p2=r1/\Ap=B1/\w0=e0))<|by
 rintro p1 p2 Ap w0 h _ rfl _ rfl _ rfl _ rfl;obtain⟨⟨h1,h2⟩,⟨h3,h4⟩,h5,h6⟩:=h;have x1:=arr_ix (g:=w0) h1 h2;have x2:=arr_ix (g:=w0) h3 h4;refine⟨⟨h3,h4⟩,⟨h3,h4⟩,⟨h1,h2⟩,⟨h1,h2⟩,fun e=> ?_,fun e=> ?_⟩
 ·unfold Sort.order2;rw[x1,x2,ltI_iff,e,qh rfl,wi (Ap+1) qqo qqo];exact⟨(Int.toNat_of_nonneg h3).symm,(Int.toNat_of_nonneg h1).symm,(by show Ap+1=((Ap.toNat+1:Nat):Int);omega),rfl⟩
 ·unfold Sort.order2;rw[x1,x2,ltI_iff,e,qe qqd];exact⟨(Int.toNat_of_nonneg h1).symm,(Int.toNat_of_nonneg h3).symm,(Int.toNat_of_nonneg h5).symm,rfl⟩
noncomputable def k5b:Con TB.den:= .g (gk 375 [.one (.row 0),.one (zqi),.one (zqi),.one (zqi),.one (.ptr 1 0)] yF1 (.one (.one (zqi)))) [yqi,yqi,yqi,yqi,.sl yqu] yL1 [] fun(p1 p2 p3 Ap:Int) (w0:List Int)=>((0<=p1/\p1<w0.length)/\(0<=p2/\p2<w0.length)/\(0<=p3/\p3<w0.length)/\0<=Ap/\Ap<=100,(((Sort.median Sort.ltInt w0.toArray p1.toNat p2.toNat p3.toNat Ap.toNat).1:Int):Int),(((Sort.median Sort.ltInt w0.toArray p1.toNat p2.toNat p3.toNat Ap.toNat).2:Int):Int),w0,())
theorem k29:k5b.Ok Tryz.prog TB:=prv Bs Tryz.func375 .no (k5c.c c0) (Q:=∀(p1 p2 p3 Ap:Int) (w0:List Int),((0<=p1/\p1<w0.length)/\(0<=p2/\p2<w0.length)/\(0<=p3/\p3<w0.length)/\0<=Ap/\Ap<=100)->∀r0:Int,((Sort.median Sort.ltInt w0.toArray p1.toNat p2.toNat p3.toNat Ap.toNat).1:Int)=r0->∀B1:Int,((Sort.median Sort.ltInt w0.toArray p1.toNat p2.toNat p3.toNat Ap.toNat).2:Int)=B1->∀e0:List Int,w0=e0-> 
 lz w0/\((0<=p1/\p1<w0.length)/\(0<=p2/\p2<w0.length)/\0<=Ap/\Ap<=1000)/\let r1:Int:=((Sort.order2 Sort.ltInt w0.toArray p1.toNat p2.toNat Ap.toNat).1:Int)
 let r2:Int:=((Sort.order2 Sort.ltInt w0.toArray p1.toNat p2.toNat Ap.toNat).2.1:Int)
 let r3:Int:=((Sort.order2 Sort.ltInt w0.toArray p1.toNat p2.toNat Ap.toNat).2.2:Int)
 lz w0/\((0<=r2/\r2<w0.length)/\(0<=p3/\p3<w0.length)/\0<=r3/\r3<=1000)/\let r4:Int:=((Sort.order2 Sort.ltInt w0.toArray r2.toNat p3.toNat r3.toNat).1:Int)
 let r5:Int:=((Sort.order2 Sort.ltInt w0.toArray r2.toNat p3.toNat r3.toNat).2.1:Int)
 let r6:Int:=((Sort.order2 Sort.ltInt w0.toArray r2.toNat p3.toNat r3.toNat).2.2:Int)
 lz w0/\((0<=r1/\r1<w0.length)/\(0<=r4/\r4<w0.length)/\0<=r6/\r6<=1000)/\let r7:Int:=((Sort.order2 Sort.ltInt w0.toArray r1.toNat r4.toNat r6.toNat).1:Int)
 let r8:Int:=((Sort.order2 Sort.ltInt w0.toArray r1.toNat r4.toNat r6.toNat).2.1:Int)
 let r9:Int:=((Sort.order2 Sort.ltInt w0.toArray r1.toNat r4.toNat r6.toNat).2.2:Int)
 r8=r0/\r9=B1/\w0=e0)<|by
 rintro p1 p2 p3 Ap w0 h _ rfl _ rfl _ rfl;obtain⟨⟨h1,h2⟩,⟨h3,h4⟩,⟨h5,h6⟩,h7,h8⟩:=h;refine ?_;unfold Sort.median;dsimp only;simp only[qr];have q1:=k25 (d:=w0.toArray) (a:=p1.toNat) (b:=p2.toNat) (c:=Ap.toNat) (n:=w0.length) qqo qqo;generalize Sort.order2 Sort.ltInt w0.toArray p1.toNat p2.toNat Ap.toNat=r1 at *
 have q2:=k25 (d:=w0.toArray) (a:=r1.2.1) (b:=p3.toNat) (c:=r1.2.2) (n:=w0.length) q1.2.1 qqo;generalize Sort.order2 Sort.ltInt w0.toArray r1.2.1 p3.toNat r1.2.2=r2 at *
 have q3:=k25 (d:=w0.toArray) (a:=r1.1) (b:=r2.1) (c:=r2.2.2) (n:=w0.length) q1.1 q2.1;exact⟨by trivial,⟨⟨h1,h2⟩,⟨h3,h4⟩,h7,by omega⟩,by trivial,⟨⟨by omega,by omega⟩,⟨h5,h6⟩,by omega,by omega⟩,by trivial,⟨⟨by omega,by omega⟩,⟨by omega,by omega⟩,by omega,by omega⟩,by trivial,by trivial,by trivial⟩
noncomputable def k2i:Con TB.den:= .g (gk 374 [.one (.row 0),.one (zqi),.one (.ptr 1 0)] yF1 (.one (.one (zqi)))) yL1 yL1 [] fun(p1 Ap:Int) (w0:List Int)=>((1<=p1/\p1+1<w0.length)/\w0.length<=1099511627776/\0<=Ap/\Ap<=100,(((Sort.medianAdjacent Sort.ltInt w0.toArray p1.toNat Ap.toNat).1:Int):Int),(((Sort.medianAdjacent Sort.ltInt w0.toArray p1.toNat Ap.toNat).2:Int):Int),w0,())
theorem k2u:k2i.Ok Tryz.prog TB:=prv Bs Tryz.func374 .no (k29.c c0) (Q:=∀(p1 Ap:Int) (w0:List Int),((1<=p1/\p1+1<w0.length)/\w0.length<=1099511627776/\0<=Ap/\Ap<=100)->∀r0:Int,((Sort.medianAdjacent Sort.ltInt w0.toArray p1.toNat Ap.toNat).1:Int)=r0->∀B1:Int,((Sort.medianAdjacent Sort.ltInt w0.toArray p1.toNat Ap.toNat).2:Int)=B1->∀e0:List Int,w0=e0-> 
 lz w0/\((0<=(i64.wrap (p1-1))/\(i64.wrap (p1-1))<w0.length)/\(0<=p1/\p1<w0.length)/\(0<=(i64.wrap (p1+1))/\(i64.wrap (p1+1))<w0.length)/\0<=Ap/\Ap<=100)/\let r1:Int:=((Sort.median Sort.ltInt w0.toArray (i64.wrap (p1-1)).toNat p1.toNat (i64.wrap (p1+1)).toNat Ap.toNat).1:Int)
 let r2:Int:=((Sort.median Sort.ltInt w0.toArray (i64.wrap (p1-1)).toNat p1.toNat (i64.wrap (p1+1)).toNat Ap.toNat).2:Int)
 r1=r0/\r2=B1/\w0=e0)<|by rintro p1 Ap w0 h _ rfl _ rfl _ rfl;obtain⟨⟨h1,h2⟩,h3,h4,h5⟩:=h;refine ?_;rw[wi (p1-1) qqo qqo,wi (p1+1) qqo qqo];unfold Sort.medianAdjacent;rw[show(p1-1).toNat=p1.toNat-1 by omega,show(p1+1).toNat=p1.toNat+1 by omega];exact⟨rfl,⟨⟨by omega,by omega⟩,⟨by omega,by omega⟩,⟨by omega,by omega⟩,h4,h5⟩,rfl,rfl,rfl⟩
noncomputable def k38:Con TB.den:= .g (gk 289 [.one (.row 0),.one (zqi),.one (zqi)] [.vec yqu] (.tup [.one (zqi),.one (zqi)])) yL1 yL1 [] fun(p1 p2:Int) (w0:List Int)=>((0<=p1/\p1<p2/\p2<=w0.length)/\w0.length<=1099511627776,(((cpS w0 p1 p2).1:Int):Int),(hintN (cpS w0 p1 p2).2:Int),w0,())
set_option maxHeartbeats 1000000 in
theorem k3q:k38.Ok Tryz.prog TB:=prv Bs Tryz.func289 (.r 5 (.jn ⟨[1,0],[.cells [zqi],.vec yqu],[10,11,12],[.one (.any),.one (zqi),.one (.any)],[]⟩ [] (.r 0 (.nd [] (.jn ⟨[1,0],[.cells [zqi],.vec yqu],[10,11,12],[.one (zqi),.one (zqi),.one (zqi)],[]⟩ [] .no [] .no) [] .no)) [] .no)) (k2u.c (k29.c c0)) (Q:=∀(p1 p2:Int) (w0:List Int),((0<=p1/\p1<p2/\p2<=w0.length)/\w0.length<=1099511627776)->∀r0:Int,((cpS w0 p1 p2).1:Int)=r0->∀r1:Int,(hintN (cpS w0 p1 p2).2)=r1->∀e0:List Int,w0=e0-> 
 let v2:Int:=i64.wrap (Int.tdiv (i64.wrap (p2-p1)) 4)
 let v3:Int:=i64.wrap (p1+(i64.wrap (v2*1)))
 let v4:Int:=i64.wrap (Int.tdiv (i64.wrap (p2-p1)) 4)
 let v5:Int:=i64.wrap (p1+(i64.wrap (v4*2)))
 let v6:Int:=i64.wrap (Int.tdiv (i64.wrap (p2-p1)) 4)
 let v7:Int:=i64.wrap (p1+(i64.wrap (v6*3)))
 ∀J1:Int->Int->(List Int)->Prop,(∀(b1 f1:Int) (i1:List Int),
(((f1==0)=true->
 b1=r0/\1=r1/\i1=e0)/\
((f1==0)=false->
((f1==12)=true->
 b1=r0/\2=r1/\i1=e0)/\
((f1==12)=false->
 b1=r0/\0=r1/\i1=e0)))->J1 b1 f1 i1)->
 let v8:Bool:=decide (8<=(i64.wrap (p2-p1)))
(v8=true->
 ∀J2:Int->Int->Int->Int->(List Int)->Prop,(∀(k1 l1 m1 n1:Int) (o1:List Int),
((w0.length=o1.length)/\((0<=k1/\k1<o1.length)/\(0<=l1/\l1<o1.length)/\(0<=m1/\m1<o1.length)/\0<=n1/\n1<=100)/\let r16:Int:=((Sort.median Sort.ltInt o1.toArray k1.toNat l1.toNat m1.toNat n1.toNat).1:Int)
 let r17:Int:=((Sort.median Sort.ltInt o1.toArray k1.toNat l1.toNat m1.toNat n1.toNat).2:Int)
 J1 r16 r17 o1)->J2 k1 l1 m1 n1 o1)->
 let v9:Bool:=decide (50<=(i64.wrap (p2-p1)))
(v9=true->
 lz w0/\((1<=v3/\v3+1<w0.length)/\w0.length<=1099511627776/\0<=(0:Int)/\(0:Int)<=100)/\let r10:Int:=((Sort.medianAdjacent Sort.ltInt w0.toArray v3.toNat (0:Int).toNat).1:Int)
 let r11:Int:=((Sort.medianAdjacent Sort.ltInt w0.toArray v3.toNat (0:Int).toNat).2:Int)
 lz w0/\((1<=v5/\v5+1<w0.length)/\w0.length<=1099511627776/\0<=r11/\r11<=100)/\let r12:Int:=((Sort.medianAdjacent Sort.ltInt w0.toArray v5.toNat r11.toNat).1:Int)
 let r13:Int:=((Sort.medianAdjacent Sort.ltInt w0.toArray v5.toNat r11.toNat).2:Int)
 lz w0/\((1<=v7/\v7+1<w0.length)/\w0.length<=1099511627776/\0<=r13/\r13<=100)/\let r14:Int:=((Sort.medianAdjacent Sort.ltInt w0.toArray v7.toNat r13.toNat).1:Int)
 let r15:Int:=((Sort.medianAdjacent Sort.ltInt w0.toArray v7.toNat r13.toNat).2:Int)
 J2 r10 r12 r14 r15 w0)/\
(v9=false->
 J2 v3 v5 v7 0 w0))/\
(v8=false->
 J1 v5 0 w0))<|by
 rintro p1 p2 w0 h _ rfl _ rfl _ rfl;obtain⟨⟨h1,h2,h3⟩,h4⟩:=h;have e1:=wi (p2-p1) qqo qqo;have e3:Int.tdiv (p2-p1) 4=(p2-p1)/4:=Int.tdiv_eq_ediv_of_nonneg qqo;have e4:=wi ((p2-p1)/4) qqo qqo;have e5:=wi ((p2-p1)/4*1) qqo qqo;have e6:=wi ((p2-p1)/4*2) qqo qqo;have e7:=wi ((p2-p1)/4*3) qqo qqo;have f5:=wi (p1+(p2-p1)/4*1) qqo qqo;have f6:=wi (p1+(p2-p1)/4*2) qqo qqo;have f7:=wi (p1+(p2-p1)/4*3) qqo qqo;have hcp:cpS w0 p1 p2=Sort.choosePivot Sort.ltInt w0.toArray p1.toNat p2.toNat:=rfl;dsimp only;rw[e1,e3,e4,e5,e6,e7,f5,f6,f7];have dq:(p2-p1)/4=(((p2.toNat-p1.toNat)/4:Nat):Int):=by omega
 intro J1 k1
 have j2:∀(r:Nat×Nat),cpS w0 p1 p2=(r.1,if r.2=0 then Sort.Hint.increasing else if r.2=12 then .decreasing else .unknown)->J1 (r.1:Int) (r.2:Int) w0:=by
  intro r hr;refine k1 _ _ _ ?_;rw[hr];refine⟨fun e=> ?_,fun e=>⟨fun e2=> ?_,fun e2=> ?_⟩⟩
  ·have e:(r.2:Int)=0:=by simpa using e
   rw[qh qqo];exact⟨rfl,rfl,rfl⟩
  ·have e:¬(r.2:Int)=0:=by simpa using e
   have e2:(r.2:Int)=12:=by simpa using e2
   rw[qe qqo,qh qqo];exact⟨rfl,rfl,rfl⟩
  ·have e:¬(r.2:Int)=0:=by simpa using e
   have e2:¬(r.2:Int)=12:=by simpa using e2
   rw[qe qqo,qe qqo];exact⟨rfl,rfl,rfl⟩
 refine⟨fun a J2 k2=> ?_,fun a=> ?_⟩
 ·have j1:∀(i j k s:Nat),(i<w0.length/\j<w0.length/\k<w0.length/\s<=100)->cpS w0 p1 p2=((Sort.median Sort.ltInt w0.toArray i j k s).1,if(Sort.median Sort.ltInt w0.toArray i j k s).2=0 then Sort.Hint.increasing else if(Sort.median Sort.ltInt w0.toArray i j k s).2=12 then .decreasing else .unknown)->J2 (i:Int) (j:Int) (k:Int) (s:Int) w0:=by intro i j k s ⟨i1,i2,i3,i4⟩ hr;refine k2 _ _ _ _ _ ⟨rfl,⟨⟨by omega,by omega⟩,⟨by omega,by omega⟩,⟨by omega,by omega⟩,by omega,by omega⟩,?_⟩;simp only[qr];exact j2 _ hr
  refine⟨fun b=> ?_,fun b=> ?_⟩
  ·have a:=qb a;have b:=qb b;have ei:(p1+(p2-p1)/4*1).toNat=p1.toNat+(p2.toNat-p1.toNat)/4*1:=by omega
   have ej:(p1+(p2-p1)/4*2).toNat=p1.toNat+(p2.toNat-p1.toNat)/4*2:=by omega
   have ek:(p1+(p2-p1)/4*3).toNat=p1.toNat+(p2.toNat-p1.toNat)/4*3:=by omega
   have key:=hcp;unfold Sort.choosePivot at key;simp only[qh (show p2.toNat-p1.toNat≥8 by omega),qh (show p2.toNat-p1.toNat≥50 by omega)]at key;rw[<-ei,<-ej,<-ek]at key;have r1:=k7q (d:=w0.toArray) (a:=(p1+(p2-p1)/4*1).toNat-1) (b:=(p1+(p2-p1)/4*1).toNat) (c:=(p1+(p2-p1)/4*1).toNat+1) (s:=0) (n:=w0.length) qqo qqo qqo;have m1:Sort.medianAdjacent Sort.ltInt w0.toArray (p1+(p2-p1)/4*1).toNat 0=Sort.median Sort.ltInt w0.toArray ((p1+(p2-p1)/4*1).toNat-1) (p1+(p2-p1)/4*1).toNat ((p1+(p2-p1)/4*1).toNat+1) 0:=rfl;rw[<-m1]at r1;rw[show(0:Int).toNat=0 from rfl];generalize Sort.medianAdjacent Sort.ltInt w0.toArray (p1+(p2-p1)/4*1).toNat 0=A at *
   have r2:=k7q (d:=w0.toArray) (a:=(p1+(p2-p1)/4*2).toNat-1) (b:=(p1+(p2-p1)/4*2).toNat) (c:=(p1+(p2-p1)/4*2).toNat+1) (s:=A.2) (n:=w0.length) qqo qqo qqo;have m2:Sort.medianAdjacent Sort.ltInt w0.toArray (p1+(p2-p1)/4*2).toNat A.2=Sort.median Sort.ltInt w0.toArray ((p1+(p2-p1)/4*2).toNat-1) (p1+(p2-p1)/4*2).toNat ((p1+(p2-p1)/4*2).toNat+1) A.2:=rfl;rw[<-m2]at r2;simp only[qr];generalize Sort.medianAdjacent Sort.ltInt w0.toArray (p1+(p2-p1)/4*2).toNat A.2=B at *
   have r3:=k7q (d:=w0.toArray) (a:=(p1+(p2-p1)/4*3).toNat-1) (b:=(p1+(p2-p1)/4*3).toNat) (c:=(p1+(p2-p1)/4*3).toNat+1) (s:=B.2) (n:=w0.length) qqo qqo qqo;have m3:Sort.medianAdjacent Sort.ltInt w0.toArray (p1+(p2-p1)/4*3).toNat B.2=Sort.median Sort.ltInt w0.toArray ((p1+(p2-p1)/4*3).toNat-1) (p1+(p2-p1)/4*3).toNat ((p1+(p2-p1)/4*3).toNat+1) B.2:=rfl;rw[<-m3]at r3;generalize Sort.medianAdjacent Sort.ltInt w0.toArray (p1+(p2-p1)/4*3).toNat B.2=C at *
   exact⟨by trivial,⟨⟨by omega,by omega⟩,h4,by omega,by omega⟩,by trivial,⟨⟨by omega,by omega⟩,h4,by omega,by omega⟩,by trivial,⟨⟨by omega,by omega⟩,h4,by omega,by omega⟩,j1 _ _ _ _ ⟨r1.1,r2.1,r3.1,by omega⟩ key⟩
  ·have a:=qb a;have b:=qc b;have key:=hcp;unfold Sort.choosePivot at key;simp only[qh (show p2.toNat-p1.toNat≥8 by omega),qe (show¬p2.toNat-p1.toNat≥50 by omega)]at key;have ei:p1+(p2-p1)/4*1=((p1.toNat+(p2.toNat-p1.toNat)/4*1:Nat):Int):=by omega
   have ej:p1+(p2-p1)/4*2=((p1.toNat+(p2.toNat-p1.toNat)/4*2:Nat):Int):=by omega
   have ek:p1+(p2-p1)/4*3=((p1.toNat+(p2.toNat-p1.toNat)/4*3:Nat):Int):=by omega
   rw[ei,ej,ek];exact j1 _ _ _ 0 ⟨by omega,by omega,by omega,by omega⟩ key
 ·have a:=qc a;have key:=hcp;unfold Sort.choosePivot at key;simp only[qe (show¬p2.toNat-p1.toNat≥8 by omega)]at key;have ej:p1+(p2-p1)/4*2=((p1.toNat+(p2.toNat-p1.toNat)/4*2:Nat):Int):=by omega
  rw[ej];exact j2 (_,0) key
noncomputable def k45:Con TB.den:= .g (gk 371 [.one (.row 0),.one (zqi),.one (zqi),.one (zqi)] [.vec yqu] (.tup [])) yH1 [.sl yqu] [] fun(p1 p2 p3:Int) (w0:List Int)=>((0<=p1/\p1<=1099511627776)/\(0<=p2/\0<=p3/\p3+p2<=w0.length)/\w0.length<=1099511627776,(sdS w0 p1 p2 p3:List Int),())
theorem k4a:k45.Ok Tryz.prog TB:=prv Bs Tryz.func371 (.r 0 (.lp [] ⟨[0],[.vec yqu],[8],[.one (zqi)],[]⟩ (.r 1 (.jn ⟨[],[],[9],[.one (zqi)],[]⟩ [] (.jn ⟨[],[],[36],[.one (.d (.bool))],[]⟩ [] .no [] .no) [] .no)))) (k1j.c c0) (Q:=∀(p1 p2 p3:Int) (w0:List Int),((0<=p1/\p1<=1099511627776)/\(0<=p2/\0<=p3/\p3+p2<=w0.length)/\w0.length<=1099511627776)->∀e0:List Int,sdS w0 p1 p2 p3=e0-> 
 ∃(I1:Int->(List Int)->Prop) (M1:Int->(List Int)->Nat),I1 p1 w0/\∀b1 f1,(I1 b1 f1->
 let v1:Int:=i64.wrap ((i64.wrap (2*b1))+1)
(decide (p2<=v1)=true->
 f1=e0)/\
(decide (p2<=v1)=false->
 ∀J1:Int->Prop,(∀(i1:Int),
((0<=i64.wrap (p3+b1)/\i64.wrap (p3+b1)<(w0.length:Int))/\(0<=i64.wrap (p3+b1)/\i64.wrap (p3+b1)<(f1.length:Int))/\(0<=i64.wrap (p3+i1)/\i64.wrap (p3+i1)<(w0.length:Int))/\(0<=i64.wrap (p3+i1)/\i64.wrap (p3+i1)<(f1.length:Int))/\let r5:Bool:=(decide ((ix f1 (i64.wrap (p3+b1)))<(ix f1 (i64.wrap (p3+i1)))))
((!r5)=true->
 f1=e0)/\
((!r5)=false->
(0<=i64.wrap (p3+i1)/\i64.wrap (p3+i1)<(w0.length:Int))/\(0<=i64.wrap (p3+i1)/\i64.wrap (p3+i1)<(f1.length:Int))/\(0<=i64.wrap (p3+b1)/\i64.wrap (p3+b1)<(w0.length:Int))/\(0<=i64.wrap (p3+b1)/\i64.wrap (p3+b1)<(f1.length:Int))/\(0<=i64.wrap (p3+b1)/\i64.wrap (p3+b1)<(w0.length:Int))/\(0<=i64.wrap (p3+b1)/\i64.wrap (p3+b1)<(f1.length:Int))/\(0<=i64.wrap (p3+i1)/\i64.wrap (p3+i1)<(w0.length:Int))/\(0<=i64.wrap (p3+i1)/\i64.wrap (p3+i1)<((f1.set (i64.wrap (p3+b1)).toNat (ix f1 (i64.wrap (p3+i1)))).length:Int))/\I1 i1 ((f1.set (i64.wrap (p3+b1)).toNat (ix f1 (i64.wrap (p3+i1)))).set (i64.wrap (p3+i1)).toNat (ix f1 (i64.wrap (p3+b1))))/\M1 i1 ((f1.set (i64.wrap (p3+b1)).toNat (ix f1 (i64.wrap (p3+i1)))).set (i64.wrap (p3+i1)).toNat (ix f1 (i64.wrap (p3+b1))))<M1 b1 f1))->J1 i1)->
 ∀J2:Bool->Prop,(∀(k1:Bool),
((k1=true->
 J1 (i64.wrap (v1+1)))/\
(k1=false->
 J1 v1))->J2 k1)->
 let v2:Bool:=decide ((i64.wrap (v1+1))<p2)
(v2=true->
(0<=i64.wrap (p3+v1)/\i64.wrap (p3+v1)<(w0.length:Int))/\(0<=i64.wrap (p3+v1)/\i64.wrap (p3+v1)<(f1.length:Int))/\let v3:Int:=i64.wrap ((i64.wrap (p3+v1))+1)
(0<=v3/\v3<(w0.length:Int))/\(0<=v3/\v3<(f1.length:Int))/\let r4:Bool:=(decide ((ix f1 (i64.wrap (p3+v1)))<(ix f1 v3)))
 J2 r4)/\
(v2=false->
 J2 false))))<|by
 rintro p1 p2 p3 w0 h _ rfl;obtain⟨⟨h0,h1⟩,⟨h2,h3,h4⟩,h5⟩:=h;refine⟨fun root g=>(0<=root/\root<=1099511627776)/\g.length=w0.length/\Sort.siftDown Sort.ltInt p2.toNat p3.toNat root.toNat g.toArray=Sort.siftDown Sort.ltInt p2.toNat p3.toNat p1.toNat w0.toArray,fun root _=>(p2-root).toNat,⟨⟨h0,h1⟩,rfl,rfl⟩,?_⟩;rintro root g ⟨⟨g0,g1⟩,g2,g3⟩;rw[wi (2*root) qqo qqo,wi (2*root+1) qqo qqo];dsimp only;rw[wi (2*root+1+1) qqo qqo];refine⟨fun hh=> ?_,fun hh=> ?_⟩
 ·have hh:=qb hh;rw[kja g0 hh]at g3;unfold sdS;rw[<-g3]
 have hh:=qc hh;have hc:=chS_rng (g:=g) (hi:=p2) (first:=p3) (root:=root) qqo;rw[kl2 g0 h3 qqo qqo]at g3;intro J1 k1
 have key:∀c:Int,c=chS g p2 p3 root->J1 c:=by
  rintro c rfl;rw[<-wi (p3+root) qqo qqo]at g3;rw[<-wi (p3+chS g p2 p3 root) qqo qqo]at g3;have w1:=wi (p3+root) qqo qqo;have w2:=wi (p3+chS g p2 p3 root) qqo qqo;generalize hcc:chS g p2 p3 root=c at *
  refine k1 _ ?_;generalize i64.wrap (p3+root)=u at *
  generalize i64.wrap (p3+c)=v at *
  refine⟨⟨by omega,by omega⟩,⟨by omega,by omega⟩,⟨by omega,by omega⟩,⟨by omega,by omega⟩,fun e=> ?_,fun e=> ?_⟩
  ·have e:¬ix g u<ix g v:=by simpa using e
   rw[qe e]at g3;unfold sdS;rw[<-g3]
  ·have e:ix g u<ix g v:=by simpa using e
   rw[qh e]at g3;exact⟨⟨by omega,by omega⟩,⟨by omega,by omega⟩,⟨by omega,by omega⟩,⟨by omega,by omega⟩,⟨by omega,by omega⟩,⟨by omega,by omega⟩,⟨by omega,by omega⟩,⟨by omega,by rw[qy];omega⟩,⟨⟨by omega,by omega⟩,by rw[qy,qy];exact g2,g3⟩,by omega⟩
 intro J2 k2;have j1:∀s:Bool,(s=true↔(2*root+2<p2/\ix g (p3+(2*root+1))<ix g (p3+(2*root+1)+1)))->J2 s:=by intro s hs;refine k2 _ ⟨fun e=>key _ ?_,fun e=>key _ (Eq.symm (qe fun q=>by rw[hs.2 q]at e;cases e))⟩;unfold Go.Md.chS;rw[qh (hs.1 e)];omega
 refine⟨fun e=> ?_,fun e=> ?_⟩
 ·have e:=qb e;have w1:=wi (p3+(2*root+1)) qqo qqo;rw[w1,wi (p3+(2*root+1)+1) qqo qqo];refine⟨⟨by omega,by omega⟩,⟨by omega,by omega⟩,⟨by omega,by omega⟩,⟨by omega,by omega⟩,?_⟩;exact j1 _ ⟨fun q=>⟨by omega,qb q⟩,fun q=>qbn q.2⟩
 ·have e:=qc e;exact j1 _ ⟨fun q=>(by cases q),fun q=>absurd q.1 qqo⟩
noncomputable def k41:Con TB.den:= .g (gk 287 [.one (.row 0),.one (zqi),.one (zqi)] [.vec yqu] (.tup [])) yL1 [.sl yqu] [] fun(p1 p2:Int) (w0:List Int)=>((0<=p1/\p1<p2/\p2<=w0.length)/\w0.length<=1099511627776,(heapS w0 p1 p2:List Int),())
theorem k4f:k41.Ok Tryz.prog TB:=prv Bs Tryz.func287 (.r 2 (.nd [] (.r 0 (.lp [] ⟨[0],[.vec yqu],[9],[.one (zqi)],[]⟩ .no)) [] (.r 0 (.lp [] ⟨[0],[.vec yqu],[10],[.one (zqi)],[]⟩ .no)))) (k4a.c c0) (Q:=∀(p1 p2:Int) (w0:List Int),((0<=p1/\p1<p2/\p2<=w0.length)/\w0.length<=1099511627776)->∀e0:List Int,heapS w0 p1 p2=e0-> 
 let v1:Int:=i64.wrap ((i64.wrap (p2-p1))-1)
 ∃(I1:Int->(List Int)->Prop) (M1:Int->(List Int)->Nat),I1 (i64.wrap (Int.tdiv v1 2)) w0/\∀b1 f1,(I1 b1 f1->
(decide (0<=b1)=true->
(w0.length=f1.length)/\((0<=b1/\b1<=1099511627776)/\(0<=(i64.wrap (p2-p1))/\0<=p1/\p1+(i64.wrap (p2-p1))<=f1.length)/\f1.length<=1099511627776)/\let r2:List Int:=(sdS f1 b1 (i64.wrap (p2-p1)) p1)
 I1 (i64.wrap (b1-1)) r2/\M1 (i64.wrap (b1-1)) r2<M1 b1 f1)/\
(decide (0<=b1)=false->
 let v3:Int:=i64.wrap ((i64.wrap (p2-p1))-1)
 ∃(I2:Int->(List Int)->Prop) (M2:Int->(List Int)->Nat),I2 v3 f1/\∀i1 k1,(I2 i1 k1->
(decide (0<=i1)=true->
(0<=i64.wrap (p1+i1)/\i64.wrap (p1+i1)<(w0.length:Int))/\(0<=i64.wrap (p1+i1)/\i64.wrap (p1+i1)<(k1.length:Int))/\(0<=p1/\p1<(w0.length:Int))/\(0<=p1/\p1<(k1.length:Int))/\(0<=p1/\p1<(w0.length:Int))/\(0<=p1/\p1<(k1.length:Int))/\(0<=i64.wrap (p1+i1)/\i64.wrap (p1+i1)<(w0.length:Int))/\(0<=i64.wrap (p1+i1)/\i64.wrap (p1+i1)<((k1.set p1.toNat (ix k1 (i64.wrap (p1+i1)))).length:Int))/\(w0.length=((k1.set p1.toNat (ix k1 (i64.wrap (p1+i1)))).set (i64.wrap (p1+i1)).toNat (ix k1 p1)).length)/\((0<=(0:Int)/\(0:Int)<=1099511627776)/\(0<=i1/\0<=p1/\p1+i1<=((k1.set p1.toNat (ix k1 (i64.wrap (p1+i1)))).set (i64.wrap (p1+i1)).toNat (ix k1 p1)).length)/\((k1.set p1.toNat (ix k1 (i64.wrap (p1+i1)))).set (i64.wrap (p1+i1)).toNat (ix k1 p1)).length<=1099511627776)/\let r4:List Int:=(sdS ((k1.set p1.toNat (ix k1 (i64.wrap (p1+i1)))).set (i64.wrap (p1+i1)).toNat (ix k1 p1)) (0:Int) i1 p1)
 I2 (i64.wrap (i1-1)) r4/\M2 (i64.wrap (i1-1)) r4<M2 i1 k1)/\
(decide (0<=i1)=false->
 k1=e0)))))<|by
 rintro p1 p2 w0 h _ rfl;obtain⟨⟨h1,h2,h3⟩,h4⟩:=h;have e1:=wi (p2-p1) qqo qqo;have e2:=wi (p2-p1-1) qqo qqo;have e3:Int.tdiv (p2-p1-1) 2=(p2-p1-1)/2:=Int.tdiv_eq_ediv_of_nonneg qqo;have e4:=wi ((p2-p1-1)/2) qqo qqo;dsimp only;rw[e1,e2,e3,e4];refine⟨(fun i g=>(-1<=i/\i<=1099511627776)/\g.length=w0.length/\Sort.heapPop Sort.ltInt p1.toNat (p2-p1).toNat (Sort.heapBuild Sort.ltInt (p2-p1).toNat p1.toNat (i+1).toNat g.toArray)=Sort.heapSort Sort.ltInt w0.toArray p1.toNat p2.toNat),(fun i _=>(i+1).toNat),⟨⟨by omega,by omega⟩,rfl,?_⟩,?_⟩
 ·unfold Sort.heapSort;rw[show(p2-p1).toNat=p2.toNat-p1.toNat by omega,show((p2-p1-1)/2+1).toNat=(p2.toNat-p1.toNat-1)/2+1 by omega]
 rintro i g ⟨⟨g0,g1⟩,g2,g3⟩;refine⟨fun hh=> ?_,fun hh=> ?_⟩
 ·have hh:=qb hh;rw[kj9 hh]at g3;have hl:(sdS g i (p2-p1) p1).length=g.length:=sdS_len;refine⟨g2.symm,⟨⟨by omega,by omega⟩,⟨by omega,by omega,by omega⟩,by omega⟩,?_⟩;dsimp only;rw[wi (i-1) qqo qqo];refine⟨⟨⟨by omega,by omega⟩,hl.trans g2,?_⟩,by omega⟩;rw[show(i-1+1).toNat=i.toNat by omega];exact g3
 ·have hh:=qc hh;rw[show(i+1).toNat=0 by omega,Sort.heapBuild]at g3;refine⟨(fun i g=>(-1<=i/\i<p2-p1)/\g.length=w0.length/\Sort.heapPop Sort.ltInt p1.toNat (i+1).toNat g.toArray=Sort.heapSort Sort.ltInt w0.toArray p1.toNat p2.toNat),(fun i _=>(i+1).toNat),⟨⟨by omega,by omega⟩,g2,by rw[show(p2-p1-1+1).toNat=(p2-p1).toNat by omega];exact g3⟩,?_⟩;rintro i g ⟨⟨g0,g1⟩,g2,g3⟩;refine⟨fun hh=> ?_,fun hh=> ?_⟩
  ·have hh:=qb hh;rw[km1 hh]at g3;have w1:=wi (p1+i) qqo qqo;rw[w1];have hs:=swp_arr (g:=g) (i:=p1) (j:=p1+i) qqo qqo qqo qqo;rw[show p1.toNat+i.toNat=(p1+i).toNat by omega,hs]at g3;have hl0:(swpL g p1 (p1+i)).length=g.length:=k7a;have hl:(sdS (swpL g p1 (p1+i)) 0 i p1).length=(swpL g p1 (p1+i)).length:=sdS_len;refine⟨⟨by omega,by omega⟩,⟨by omega,by omega⟩,⟨by omega,by omega⟩,⟨by omega,by omega⟩,⟨by omega,by omega⟩,⟨by omega,by omega⟩,⟨by omega,by omega⟩,⟨by omega,by rw[qy];omega⟩,by rw[qy,qy,g2],⟨⟨by omega,by omega⟩,⟨by omega,by omega,?_⟩,?_⟩,?_⟩
   ·rw[qy,qy];omega
   ·rw[qy,qy];omega
   dsimp only;rw[wi (i-1) qqo qqo];refine⟨⟨⟨by omega,by omega⟩,(hl.trans hl0).trans g2,?_⟩,by omega⟩;rw[show(i-1+1).toNat=i.toNat by omega];exact g3
  ·have hh:=qc hh;rw[show(i+1).toNat=0 by omega,Sort.heapPop]at g3;unfold heapS;rw[<-g3]
noncomputable def k2v:Con TB.den:= .g (gk 286 [.one (.row 0),.one (zqi),.one (zqi)] [.vec yqu] (.tup [])) yL1 [.sl yqu] [] fun(p1 p2:Int) (w0:List Int)=>((0<=p1/\p1<=p2/\p2<=w0.length)/\w0.length<=1099511627776,(insS w0 p1 p2:List Int),())
theorem k36:k2v.Ok Tryz.prog TB:=prv Bs Tryz.func286 (.r 0 (.lp [] ⟨[0],[.vec yqu],[6],[.one (zqi)],[]⟩ (.r 0 (.nd [] (.r 0 (.lp [] ⟨[0],[.vec yqu],[7],[.one (zqi)],[]⟩ .no)) [] .no)))) (k1j.c c0) (Q:=∀(p1 p2:Int) (w0:List Int),((0<=p1/\p1<=p2/\p2<=w0.length)/\w0.length<=1099511627776)->∀e0:List Int,insS w0 p1 p2=e0-> 
 ∃(I1:Int->(List Int)->Prop) (M1:Int->(List Int)->Nat),I1 (i64.wrap (p1+1)) w0/\∀b1 f1,(I1 b1 f1->
(decide (b1<p2)=true->
 ∃(I2:Int->(List Int)->Prop) (M2:Int->(List Int)->Nat),I2 b1 f1/\∀i1 k1,(I2 i1 k1->
(decide (p1<i1)=true->
(0<=i1/\i1<(w0.length:Int))/\(0<=i1/\i1<(k1.length:Int))/\(0<=i64.wrap (i1-1)/\i64.wrap (i1-1)<(w0.length:Int))/\(0<=i64.wrap (i1-1)/\i64.wrap (i1-1)<(k1.length:Int))/\let r1:Bool:=(decide ((ix k1 i1)<(ix k1 (i64.wrap (i1-1)))))
(r1=true->
(0<=i64.wrap (i1-1)/\i64.wrap (i1-1)<(w0.length:Int))/\(0<=i64.wrap (i1-1)/\i64.wrap (i1-1)<(k1.length:Int))/\(0<=i1/\i1<(w0.length:Int))/\(0<=i1/\i1<(k1.length:Int))/\(0<=i1/\i1<(w0.length:Int))/\(0<=i1/\i1<(k1.length:Int))/\(0<=i64.wrap (i1-1)/\i64.wrap (i1-1)<(w0.length:Int))/\(0<=i64.wrap (i1-1)/\i64.wrap (i1-1)<((k1.set i1.toNat (ix k1 (i64.wrap (i1-1)))).length:Int))/\I2 (i64.wrap (i1-1)) ((k1.set i1.toNat (ix k1 (i64.wrap (i1-1)))).set (i64.wrap (i1-1)).toNat (ix k1 i1))/\M2 (i64.wrap (i1-1)) ((k1.set i1.toNat (ix k1 (i64.wrap (i1-1)))).set (i64.wrap (i1-1)).toNat (ix k1 i1))<M2 i1 k1)/\
(r1=false->
 I1 (i64.wrap (b1+1)) k1/\M1 (i64.wrap (b1+1)) k1<M1 b1 f1))/\
(decide (p1<i1)=false->
 I1 (i64.wrap (b1+1)) k1/\M1 (i64.wrap (b1+1)) k1<M1 b1 f1)))/\
(decide (b1<p2)=false->
 f1=e0)))<|by
 rintro p1 p2 w0 h _ rfl;obtain⟨⟨h1,h2,h3⟩,h4⟩:=h;rw[wi (p1+1) qqo qqo];refine⟨(fun i g=>(p1+1<=i/\i<=1099511627777)/\g.length=w0.length/\Sort.insOuter Sort.ltInt p1.toNat p2.toNat i.toNat g.toArray=Sort.insertionSort Sort.ltInt w0.toArray p1.toNat p2.toNat),(fun i _=>(1099511627778-i).toNat),⟨⟨by omega,by omega⟩,rfl,by unfold Sort.insertionSort;rw[show(p1+1).toNat=p1.toNat+1 by omega]⟩,?_⟩;rintro i g ⟨⟨g0,g1⟩,g2,g3⟩;refine⟨fun hh=> ?_,fun hh=> ?_⟩
 ·have hh:=qb hh;rw[klf qqo hh]at g3;refine⟨(fun j g' =>(p1<=j/\j<=i)/\g'.length=w0.length/\Sort.insInner Sort.ltInt p1.toNat j.toNat g'.toArray=Sort.insInner Sort.ltInt p1.toNat i.toNat g.toArray),(fun j _=>j.toNat),⟨⟨by omega,by omega⟩,g2,rfl⟩,?_⟩;rintro j g' ⟨⟨k0,k1⟩,k2,k3⟩;have nxt:g'.toArray=Sort.insInner Sort.ltInt p1.toNat i.toNat g.toArray->((p1+1<=i64.wrap (i+1)/\i64.wrap (i+1)<=1099511627777)/\g'.length=w0.length/\Sort.insOuter Sort.ltInt p1.toNat p2.toNat (i64.wrap (i+1)).toNat g'.toArray=Sort.insertionSort Sort.ltInt w0.toArray p1.toNat p2.toNat)/\(1099511627778-i64.wrap (i+1)).toNat<(1099511627778-i).toNat:=by intro e;rw[wi (i+1) qqo qqo,e];exact⟨⟨⟨by omega,by omega⟩,k2,g3⟩,by omega⟩
  refine⟨fun h2=> ?_,fun h2=> ?_⟩
  ·have h2:=qb h2;rw[wi (j-1) qqo qqo];rw[kl6 h1 h2 qqo]at k3;refine⟨⟨by omega,by omega⟩,⟨by omega,by omega⟩,⟨by omega,by omega⟩,⟨by omega,by omega⟩,fun h5=> ?_,fun h5=> ?_⟩
   ·have h5:=qb h5;rw[qh h5]at k3;exact⟨⟨by omega,by omega⟩,⟨by omega,by omega⟩,⟨by omega,by omega⟩,⟨by omega,by omega⟩,⟨by omega,by omega⟩,⟨by omega,by omega⟩,⟨by omega,by omega⟩,⟨by omega,by rw[qy];omega⟩,⟨⟨by omega,by omega⟩,by rw[qy,qy];exact k2,k3⟩,by(dsimp only;omega)⟩
   ·have h5:=qc h5;rw[qe h5]at k3;exact nxt k3
  ·have h2:=qc h2;rw[kkc h2]at k3;exact nxt k3
 ·have hh:=qc hh;rw[kj5 qqo hh]at g3;unfold insS;rw[<-g3]
noncomputable def k1x:Con TB.den:= .b (gk 291 [.one (.row 0),.one (zqi),.one (zqi)] [.vec yqu] (.one (.one (.d (.bool))))) yL1 [.bool,.sl yqu] fun(p1 p2:Int) (w0:List Int)=>((0<=p1/\p1<p2/\p2<=w0.length)/\w0.length<=1099511627776,pisS w0 p1 p2,fun R=>(R.2,R.1.toList,()))
set_option maxHeartbeats 1000000 in
theorem k1z:k1x.Ok Tryz.prog TB:=pbv Bs Tryz.func291 (.r 1 (.nd [] (.r 0 (.lp [] ⟨[0],[.vec yqu],[7,8],[.one (zqi),.one (zqi)],[]⟩ (.r 0 (.nd [] (.jn ⟨[],[],[7],[.one (zqi)],[]⟩ [] (.lp [] ⟨[],[],[7],[.one (zqi)],[]⟩ .no) [] (.r 2 (.jn ⟨[0],[.vec yqu],[],[],[]⟩ [] (.r 0 (.nd [] (.r 0 (.lp [] ⟨[0],[.vec yqu],[9],[.one (zqi)],[]⟩ .no)) [] .no)) [] (.r 0 (.nd [] (.r 0 (.lp [] ⟨[0],[.vec yqu],[10],[.one (zqi)],[]⟩ .no)) [] .no))))) [] .no)))) [] .no)) (k1j.c c0) (Q:=∀(p1 p2:Int) (w0:List Int),((0<=p1/\p1<p2/\p2<=w0.length)/\w0.length<=1099511627776)->∀R,pisS w0 p1 p2=R-> 
 ∃(I1:Int->Int->(List Int)->Prop) (M1:Int->Int->(List Int)->Nat),I1 (i64.wrap (p1+1)) 0 w0/\∀b1 f1 i1,(I1 b1 f1 i1->
(decide (f1<5)=true->
 ∀J1:Int->Prop,(∀(k1:Int),
(((k1==p2)=true->
 true=R.2/\i1=R.1.toList)/\
((k1==p2)=false->
 let v2:Bool:=decide ((i64.wrap (p2-p1))<50)
(v2=true->
 false=R.2/\i1=R.1.toList)/\
(v2=false->
(0<=i64.wrap (k1-1)/\i64.wrap (k1-1)<(w0.length:Int))/\(0<=i64.wrap (k1-1)/\i64.wrap (k1-1)<(i1.length:Int))/\(0<=k1/\k1<(w0.length:Int))/\(0<=k1/\k1<(i1.length:Int))/\(0<=k1/\k1<(w0.length:Int))/\(0<=k1/\k1<(i1.length:Int))/\(0<=i64.wrap (k1-1)/\i64.wrap (k1-1)<(w0.length:Int))/\(0<=i64.wrap (k1-1)/\i64.wrap (k1-1)<((i1.set k1.toNat (ix i1 (i64.wrap (k1-1)))).length:Int))/\∀J2:(List Int)->Prop,(∀(m1:List Int),
(let v5:Bool:=decide (2<=(i64.wrap (p2-k1)))
(v5=true->
 ∃(I4:Int->(List Int)->Prop) (M4:Int->(List Int)->Nat),I4 (i64.wrap (k1+1)) m1/\∀q1 s1,(I4 q1 s1->
(decide (q1<p2)=true->
(0<=q1/\q1<(w0.length:Int))/\(0<=q1/\q1<(s1.length:Int))/\(0<=i64.wrap (q1-1)/\i64.wrap (q1-1)<(w0.length:Int))/\(0<=i64.wrap (q1-1)/\i64.wrap (q1-1)<(s1.length:Int))/\let r6:Bool:=(decide ((ix s1 q1)<(ix s1 (i64.wrap (q1-1)))))
((!r6)=true->
 I1 k1 (i64.wrap (f1+1)) s1/\M1 k1 (i64.wrap (f1+1)) s1<M1 b1 f1 i1)/\
((!r6)=false->
(0<=i64.wrap (q1-1)/\i64.wrap (q1-1)<(w0.length:Int))/\(0<=i64.wrap (q1-1)/\i64.wrap (q1-1)<(s1.length:Int))/\(0<=q1/\q1<(w0.length:Int))/\(0<=q1/\q1<(s1.length:Int))/\(0<=q1/\q1<(w0.length:Int))/\(0<=q1/\q1<(s1.length:Int))/\(0<=i64.wrap (q1-1)/\i64.wrap (q1-1)<(w0.length:Int))/\(0<=i64.wrap (q1-1)/\i64.wrap (q1-1)<((s1.set q1.toNat (ix s1 (i64.wrap (q1-1)))).length:Int))/\I4 (i64.wrap (q1+1)) ((s1.set q1.toNat (ix s1 (i64.wrap (q1-1)))).set (i64.wrap (q1-1)).toNat (ix s1 q1))/\M4 (i64.wrap (q1+1)) ((s1.set q1.toNat (ix s1 (i64.wrap (q1-1)))).set (i64.wrap (q1-1)).toNat (ix s1 q1))<M4 q1 s1))/\
(decide (q1<p2)=false->
 I1 k1 (i64.wrap (f1+1)) s1/\M1 k1 (i64.wrap (f1+1)) s1<M1 b1 f1 i1)))/\
(v5=false->
 I1 k1 (i64.wrap (f1+1)) m1/\M1 k1 (i64.wrap (f1+1)) m1<M1 b1 f1 i1))->J2 m1)->
 let v3:Bool:=decide (2<=(i64.wrap (k1-p1)))
(v3=true->
 ∃(I3:Int->(List Int)->Prop) (M3:Int->(List Int)->Nat),I3 (i64.wrap (k1-1)) ((i1.set k1.toNat (ix i1 (i64.wrap (k1-1)))).set (i64.wrap (k1-1)).toNat (ix i1 k1))/\∀n1 o1,(I3 n1 o1->
(decide (1<=n1)=true->
(0<=n1/\n1<(w0.length:Int))/\(0<=n1/\n1<(o1.length:Int))/\(0<=i64.wrap (n1-1)/\i64.wrap (n1-1)<(w0.length:Int))/\(0<=i64.wrap (n1-1)/\i64.wrap (n1-1)<(o1.length:Int))/\let r4:Bool:=(decide ((ix o1 n1)<(ix o1 (i64.wrap (n1-1)))))
((!r4)=true->
 J2 o1)/\
((!r4)=false->
(0<=i64.wrap (n1-1)/\i64.wrap (n1-1)<(w0.length:Int))/\(0<=i64.wrap (n1-1)/\i64.wrap (n1-1)<(o1.length:Int))/\(0<=n1/\n1<(w0.length:Int))/\(0<=n1/\n1<(o1.length:Int))/\(0<=n1/\n1<(w0.length:Int))/\(0<=n1/\n1<(o1.length:Int))/\(0<=i64.wrap (n1-1)/\i64.wrap (n1-1)<(w0.length:Int))/\(0<=i64.wrap (n1-1)/\i64.wrap (n1-1)<((o1.set n1.toNat (ix o1 (i64.wrap (n1-1)))).length:Int))/\I3 (i64.wrap (n1-1)) ((o1.set n1.toNat (ix o1 (i64.wrap (n1-1)))).set (i64.wrap (n1-1)).toNat (ix o1 n1))/\M3 (i64.wrap (n1-1)) ((o1.set n1.toNat (ix o1 (i64.wrap (n1-1)))).set (i64.wrap (n1-1)).toNat (ix o1 n1))<M3 n1 o1))/\
(decide (1<=n1)=false->
 J2 o1)))/\
(v3=false->
 J2 ((i1.set k1.toNat (ix i1 (i64.wrap (k1-1)))).set (i64.wrap (k1-1)).toNat (ix i1 k1))))))->J1 k1)->
 ∃(I2:Int->Prop) (M2:Int->Nat),I2 b1/\∀l1,(I2 l1->
(decide (l1<p2)=true->
(0<=l1/\l1<(w0.length:Int))/\(0<=l1/\l1<(i1.length:Int))/\(0<=i64.wrap (l1-1)/\i64.wrap (l1-1)<(w0.length:Int))/\(0<=i64.wrap (l1-1)/\i64.wrap (l1-1)<(i1.length:Int))/\let r1:Bool:=(decide ((ix i1 l1)<(ix i1 (i64.wrap (l1-1)))))
((!r1)=true->
 I2 (i64.wrap (l1+1))/\M2 (i64.wrap (l1+1))<M2 l1)/\
((!r1)=false->
 J1 l1))/\
(decide (l1<p2)=false->
 J1 l1)))/\
(decide (f1<5)=false->
 false=R.2/\i1=R.1.toList)))<|by
 rintro p1 p2 w0 h R hR;obtain⟨⟨h1,h2,h3⟩,h4⟩:=h;rw[wi (p1+1) qqo qqo];have hst:R=Sort.partialIns Sort.ltInt p1.toNat p2.toNat 5 (p1.toNat+1) w0.toArray:=hR.symm;clear hR;refine⟨fun i jj g=>(p1<i/\i<=p2)/\(0<=jj/\jj<=5)/\g.length=w0.length/\R=Sort.partialIns Sort.ltInt p1.toNat p2.toNat (5-jj).toNat i.toNat g.toArray,fun _ jj _=>(5-jj).toNat,⟨⟨by omega,by omega⟩,⟨by omega,by omega⟩,rfl,by rw[hst,show(p1+1).toNat=p1.toNat+1 by omega];rfl⟩,?_⟩;clear hst;rintro i jj g ⟨⟨i0,i1⟩,⟨j0,j1⟩,g2,g3⟩;refine⟨fun hh J1 kJ1=> ?_,fun hh=> ?_⟩
 ·have hh:=qb hh;rw[show(5-jj).toNat=(5-(jj+1)).toNat+1 by omega,Sort.partialIns_succ]at g3;have wj:=wi (jj+1) qqo qqo;have last:∀(i' :Int) (g' :List Int),(p1<i'/\i'<=p2)->g'.length=w0.length->R=Sort.partialIns Sort.ltInt p1.toNat p2.toNat (5-(jj+1)).toNat i'.toNat g'.toArray->(((p1<i'/\i'<=p2)/\(0<=i64.wrap (jj+1)/\i64.wrap (jj+1)<=5)/\g'.length=w0.length/\R=Sort.partialIns Sort.ltInt p1.toNat p2.toNat (5-i64.wrap (jj+1)).toNat i'.toNat g'.toArray)/\(5-i64.wrap (jj+1)).toNat<(5-jj).toNat):=by intro i' g' q1 q2 q3;rw[wj];exact⟨⟨q1,⟨by omega,by omega⟩,q2,q3⟩,by omega⟩
  have jj1:∀i' :Int,(p1<i'/\i'<=p2)->Sort.scanSorted Sort.ltInt g.toArray p2.toNat i.toNat=i'.toNat->J1 i' :=by
   intro i' ⟨q0,q1⟩ q2;rw[q2]at g3;refine kJ1 _ ?_;rw[wi (p2-p1) qqo qqo,wi (i' -1) qqo qqo,wi (i' -p1) qqo qqo];refine⟨fun e=> ?_,fun e=>⟨fun e2=> ?_,fun e2=> ?_⟩⟩
   ·have e:i' =p2:=by simpa using e
    rw[qh qqo]at g3;rw[g3];exact⟨rfl,rfl⟩
   ·have e:¬i' =p2:=by simpa using e
    have e2:=qb e2;rw[qe qqo,qh qqo]at g3;rw[g3];exact⟨rfl,rfl⟩
   ·have e:¬i' =p2:=by simpa using e
    have e2:=qc e2;rw[qe qqo,qe qqo]at g3;have hs:=swp_arr (g:=g) (i:=i') (j:=i' -1) qqo qqo qqo qqo;rw[show i'.toNat-1=(i' -1).toNat by omega,hs]at g3;have sl:(swpL g i' (i' -1)).length=w0.length:=by rw[k7a];exact g2
    refine⟨⟨by omega,by omega⟩,⟨by omega,by omega⟩,⟨by omega,by omega⟩,⟨by omega,by omega⟩,⟨by omega,by omega⟩,⟨by omega,by omega⟩,⟨by omega,by omega⟩,⟨by omega,by rw[qy];omega⟩,fun J2 kJ2=> ?_⟩
    have j2:∀g' :List Int,g'.length=w0.length->R=Sort.partialIns Sort.ltInt p1.toNat p2.toNat (5-(jj+1)).toNat i'.toNat (Sort.fixUp Sort.ltInt p2.toNat i'.toNat g'.toArray)->J2 g' :=by
     intro g' q2 q3;refine kJ2 _ ?_;rw[wi (p2-i') qqo qqo,wi (i' +1) qqo qqo];refine⟨fun e=> ?_,fun e=>last _ _ ⟨q0,by omega⟩ q2 ?_⟩
     ·have e:=qb e;unfold Sort.fixUp at q3;rw[qh qqo,show i'.toNat+1=(i' +1).toNat by omega]at q3;refine⟨fun k g2=>(i' +1<=k/\k<=p2)/\g2.length=w0.length/\Sort.shiftUp Sort.ltInt p2.toNat k.toNat g2.toArray=Sort.shiftUp Sort.ltInt p2.toNat (i' +1).toNat g'.toArray,fun k _=>(p2-k).toNat,⟨⟨by omega,by omega⟩,q2,rfl⟩,?_⟩;rintro k g2 ⟨⟨k0,k1⟩,k2,k3⟩;refine⟨fun c=> ?_,fun c=> ?_⟩
      ·have c:=qb c;rw[wi (k-1) qqo qqo,wi (k+1) qqo qqo];rw[km5 qqo c qqo]at k3;refine⟨⟨by omega,by omega⟩,⟨by omega,by omega⟩,⟨by omega,by omega⟩,⟨by omega,by omega⟩,fun d=> ?_,fun d=> ?_⟩
       ·have d:¬ix g2 k<ix g2 (k-1):=by simpa using d
        rw[qe d]at k3;exact last _ _ ⟨q0,by omega⟩ k2 (by rw[q3,<-k3])
       ·have d:ix g2 k<ix g2 (k-1):=by simpa using d
        rw[qh d]at k3;exact⟨⟨by omega,by omega⟩,⟨by omega,by omega⟩,⟨by omega,by omega⟩,⟨by omega,by omega⟩,⟨by omega,by omega⟩,⟨by omega,by omega⟩,⟨by omega,by omega⟩,⟨by omega,by rw[qy];omega⟩,⟨⟨by omega,by omega⟩,by rw[qy,qy];exact k2,k3⟩,by(dsimp only;omega)⟩
      ·have c:=qc c;rw[kld qqo c]at k3;exact last _ _ ⟨q0,by omega⟩ k2 (by rw[q3,<-k3])
     ·have e:=qc e;unfold Sort.fixUp at q3;rw[qe qqo]at q3;exact q3
    refine⟨fun e3=> ?_,fun e3=> ?_⟩
    ·have e3:=qb e3;unfold Sort.fixDown at g3;rw[qh qqo,show i'.toNat-1=(i' -1).toNat by omega]at g3;refine⟨fun k g2=>(0<=k/\k<p2)/\g2.length=w0.length/\Sort.shiftDown Sort.ltInt k.toNat g2.toArray=Sort.shiftDown Sort.ltInt (i' -1).toNat (swpL g i' (i' -1)).toArray,fun k _=>k.toNat,⟨⟨by omega,by omega⟩,sl,rfl⟩,?_⟩;rintro k g2 ⟨⟨k0,k1⟩,k2,k3⟩;refine⟨fun c=> ?_,fun c=> ?_⟩
     ·have c:=qb c;rw[wi (k-1) qqo qqo];rw[kjd c qqo]at k3;refine⟨⟨by omega,by omega⟩,⟨by omega,by omega⟩,⟨by omega,by omega⟩,⟨by omega,by omega⟩,fun d=> ?_,fun d=> ?_⟩
      ·have d:¬ix g2 k<ix g2 (k-1):=by simpa using d
       rw[qe d]at k3;exact j2 _ k2 (by rw[g3,k3])
      ·have d:ix g2 k<ix g2 (k-1):=by simpa using d
       rw[qh d]at k3;exact⟨⟨by omega,by omega⟩,⟨by omega,by omega⟩,⟨by omega,by omega⟩,⟨by omega,by omega⟩,⟨by omega,by omega⟩,⟨by omega,by omega⟩,⟨by omega,by omega⟩,⟨by omega,by rw[qy];omega⟩,⟨⟨by omega,by omega⟩,by rw[qy,qy];exact k2,k3⟩,by(dsimp only;omega)⟩
     ·have c:=qc c;rw[ki3 c]at k3;exact j2 _ k2 (by rw[g3,k3])
    ·have e3:=qc e3;unfold Sort.fixDown at g3;rw[qe qqo]at g3;exact j2 _ sl g3
  refine⟨fun i' =>(p1<i'/\i'<=p2)/\Sort.scanSorted Sort.ltInt g.toArray p2.toNat i'.toNat=Sort.scanSorted Sort.ltInt g.toArray p2.toNat i.toNat,fun i' =>(p2-i').toNat,⟨⟨i0,i1⟩,rfl⟩,?_⟩;rintro i' ⟨⟨q0,q1⟩,q2⟩;refine⟨fun c=> ?_,fun c=> ?_⟩
  ·have c:=qb c;rw[khg qqo c qqo]at q2;rw[wi (i' -1) qqo qqo,wi (i' +1) qqo qqo];refine⟨⟨by omega,by omega⟩,⟨by omega,by omega⟩,⟨by omega,by omega⟩,⟨by omega,by omega⟩,fun d=>⟨⟨⟨by omega,by omega⟩,?_⟩,by(dsimp only;omega)⟩,fun d=>jj1 _ ⟨q0,q1⟩ ?_⟩
   ·have d:¬ix g i' <ix g (i' -1):=by simpa using d
    rw[qe d]at q2;exact q2
   ·have d:ix g i' <ix g (i' -1):=by simpa using d
    rw[qh d]at q2;exact q2.symm
  ·have c:=qc c;rw[kfz qqo c]at q2;exact jj1 _ ⟨q0,q1⟩ q2.symm
 ·have hh:=qc hh;rw[show(5-jj).toNat=0 by omega]at g3;rw[g3];exact⟨rfl,rfl⟩
noncomputable def k2k:Con TB.den:= .g (gk 293 [.one (.row 0),.one (zqi),.one (zqi),.one (zqi)] [.vec yqu] (.one (.one (zqi)))) yH1 [yqi,.sl yqu] [] fun(p1 p2 p3:Int) (w0:List Int)=>((0<=p1/\p1<=p3/\p3<p2/\p2<=w0.length)/\w0.length<=1099511627776,(((peqS w0 p1 p2 p3).1:Int):Int),((peqS w0 p1 p2 p3).2.toList:List Int),())
set_option maxHeartbeats 1000000 in
theorem k2s:k2k.Ok Tryz.prog TB:=prv Bs Tryz.func293 (.r 2 (.nd [] (.lp [] ⟨[0],[.vec yqu],[9,10],[.one (zqi),.one (zqi)],[]⟩ (.jn ⟨[],[],[9],[.one (zqi)],[]⟩ [] (.lp [] ⟨[],[],[9],[.one (zqi)],[]⟩ .no) [] (.jn ⟨[],[],[10],[.one (zqi)],[]⟩ [] (.lp [] ⟨[],[],[10],[.one (zqi)],[]⟩ .no) [] .no))) [] .no)) (k1j.c c0) (Q:=∀(p1 p2 p3:Int) (w0:List Int),((0<=p1/\p1<=p3/\p3<p2/\p2<=w0.length)/\w0.length<=1099511627776)->∀r0:Int,((peqS w0 p1 p2 p3).1:Int)=r0->∀e0:List Int,((peqS w0 p1 p2 p3).2.toList)=e0-> 
(0<=p3/\p3<(w0.length:Int))/\(0<=p3/\p3<(w0.length:Int))/\(0<=p1/\p1<(w0.length:Int))/\(0<=p1/\p1<(w0.length:Int))/\(0<=p1/\p1<(w0.length:Int))/\(0<=p1/\p1<(w0.length:Int))/\(0<=p3/\p3<(w0.length:Int))/\(0<=p3/\p3<((w0.set p1.toNat (ix w0 p3)).length:Int))/\∃(I1:Int->Int->(List Int)->Prop) (M1:Int->Int->(List Int)->Nat),I1 (i64.wrap (p1+1)) (i64.wrap (p2-1)) ((w0.set p1.toNat (ix w0 p3)).set p3.toNat (ix w0 p1))/\∀b1 f1 i1,(I1 b1 f1 i1->
 ∀J1:Int->Prop,(∀(k1:Int),
(∀J2:Int->Prop,(∀(m1:Int),
((decide (m1<k1)=true->
 k1=r0/\i1=e0)/\
(decide (m1<k1)=false->
(0<=m1/\m1<(w0.length:Int))/\(0<=m1/\m1<(i1.length:Int))/\(0<=k1/\k1<(w0.length:Int))/\(0<=k1/\k1<(i1.length:Int))/\(0<=k1/\k1<(w0.length:Int))/\(0<=k1/\k1<(i1.length:Int))/\(0<=m1/\m1<(w0.length:Int))/\(0<=m1/\m1<((i1.set k1.toNat (ix i1 m1)).length:Int))/\I1 (i64.wrap (k1+1)) (i64.wrap (m1-1)) ((i1.set k1.toNat (ix i1 m1)).set m1.toNat (ix i1 k1))/\M1 (i64.wrap (k1+1)) (i64.wrap (m1-1)) ((i1.set k1.toNat (ix i1 m1)).set m1.toNat (ix i1 k1))<M1 b1 f1 i1))->J2 m1)->
 ∃(I3:Int->Prop) (M3:Int->Nat),I3 f1/\∀n1,(I3 n1->
(decide (k1<=n1)=true->
(0<=p1/\p1<(w0.length:Int))/\(0<=p1/\p1<(i1.length:Int))/\(0<=n1/\n1<(w0.length:Int))/\(0<=n1/\n1<(i1.length:Int))/\((decide ((ix i1 p1)<(ix i1 n1)))=true->
 I3 (i64.wrap (n1-1))/\M3 (i64.wrap (n1-1))<M3 n1)/\
((decide ((ix i1 p1)<(ix i1 n1)))=false->
 J2 n1))/\
(decide (k1<=n1)=false->
 J2 n1)))->J1 k1)->
 ∃(I2:Int->Prop) (M2:Int->Nat),I2 b1/\∀l1,(I2 l1->
(decide (l1<=f1)=true->
(0<=p1/\p1<(w0.length:Int))/\(0<=p1/\p1<(i1.length:Int))/\(0<=l1/\l1<(w0.length:Int))/\(0<=l1/\l1<(i1.length:Int))/\((!(decide ((ix i1 p1)<(ix i1 l1))))=true->
 I2 (i64.wrap (l1+1))/\M2 (i64.wrap (l1+1))<M2 l1)/\
((!(decide ((ix i1 p1)<(ix i1 l1))))=false->
 J1 l1))/\
(decide (l1<=f1)=false->
 J1 l1))))<|by
 rintro p1 p2 p3 w0 h _ rfl _ rfl;obtain⟨⟨h1,h2,h3,h4⟩,h5⟩:=h;have hs0:=swp_arr (g:=w0) (i:=p1) (j:=p3) qqo qqo qqo qqo;have hst:peqS w0 p1 p2 p3=Sort.partEqLoop Sort.ltInt p1.toNat (p1.toNat+1) (p2.toNat-1) (Sort.swp w0.toArray p1.toNat p3.toNat):=rfl;rw[hs0]at hst;refine⟨⟨by omega,by omega⟩,⟨by omega,by omega⟩,⟨by omega,by omega⟩,⟨by omega,by omega⟩,⟨by omega,by omega⟩,⟨by omega,by omega⟩,⟨by omega,by omega⟩,⟨by omega,by rw[qy];omega⟩,?_⟩;rw[wi (p1+1) qqo qqo,wi (p2-1) qqo qqo];generalize peqS w0 p1 p2 p3=R at *
 refine⟨fun i j g=>(p1<i/\i<=j+1/\j<p2)/\g.length=w0.length/\R=Sort.partEqLoop Sort.ltInt p1.toNat i.toNat j.toNat g.toArray,fun i j _=>(j+1-i).toNat,⟨⟨by omega,by omega,by omega⟩,by rw[qy,qy],by rw[hst,show(p1+1).toNat=p1.toNat+1 by omega,show(p2-1).toNat=p2.toNat-1 by omega]⟩,?_⟩;clear hst hs0;rintro i j g ⟨⟨i0,i1,i2⟩,g2,g3⟩ J1 kJ1;rw[Sort.partEqLoop_eq]at g3;have xa:=arr_ix (g:=g) (i:=p1) qqo qqo;rw[xa]at g3
 have jj1:∀i' :Int,(i<=i'/\i'<=j+1)->Sort.scanUp (fun x=> !Sort.ltInt (ix g p1) x) g.toArray j.toNat i.toNat=i'.toNat->(i'<=j->ix g p1<ix g i')->J1 i' :=by
  intro i' ⟨q0,q1⟩ e1 e2;refine kJ1 _ fun J2 kJ2=> ?_
  have jj2:∀j' :Int,(i' -1<=j'/\j'<=j)->Sort.scanDown (fun x=>Sort.ltInt (ix g p1) x) g.toArray i'.toNat j.toNat=j'.toNat->(i'<=j'->i' <j')->J2 j' :=by
   intro j' ⟨q2,q3⟩ e4 e3;rw[e1,e4]at g3;refine kJ2 _ ⟨fun c=> ?_,fun c=> ?_⟩
   ·have c:=qb c;rw[qh qqo]at g3;rw[g3];exact⟨(Int.toNat_of_nonneg qqo).symm,rfl⟩
   ·have c:=qc c;have hs:=swp_arr (g:=g) (i:=i') (j:=j') qqo qqo qqo qqo;rw[qe qqo,hs,show i'.toNat+1=(i' +1).toNat by omega,show j'.toNat-1=(j' -1).toNat by omega]at g3;have w1:=wi (i' +1) qqo qqo;have w2:=wi (j' -1) qqo qqo;have e4:=e3 qqo;rw[w1,w2];exact⟨⟨by omega,by omega⟩,⟨by omega,by omega⟩,⟨by omega,by omega⟩,⟨by omega,by omega⟩,⟨by omega,by omega⟩,⟨by omega,by omega⟩,⟨by omega,by omega⟩,⟨by omega,by rw[qy];omega⟩,⟨⟨by omega,by omega,by omega⟩,by rw[qy,qy];exact g2,g3⟩,by(dsimp only;omega)⟩
  refine⟨fun j' =>(i' -1<=j'/\j'<=j)/\Sort.scanDown (fun x=>Sort.ltInt (ix g p1) x) g.toArray i'.toNat j'.toNat=Sort.scanDown (fun x=>Sort.ltInt (ix g p1) x) g.toArray i'.toNat j.toNat,fun j' =>(j' +1).toNat,⟨⟨by omega,by omega⟩,rfl⟩,?_⟩;rintro j' ⟨⟨k0,k1⟩,k2⟩;refine⟨fun c=> ?_,fun c=> ?_⟩
  ·have c:=qb c;have xj:=arr_ix (g:=g) (i:=j') qqo qqo;rw[k6b qqo c,xj,ltI_iff]at k2;rw[wi (j' -1) qqo qqo];refine⟨⟨by omega,by omega⟩,⟨by omega,by omega⟩,⟨by omega,by omega⟩,⟨by omega,by omega⟩,fun d=>⟨⟨⟨by omega,by omega⟩,?_⟩,by(dsimp only;omega)⟩,fun d=> ?_⟩
   ·rw[qh d]at k2;exact k2
   ·rw[qe (by rw[d];decide)]at k2;refine jj2 j' ⟨k0,k1⟩ k2.symm fun e=> ?_;have:=e2 qqo;have d:=qc d;by_cases hij:i' =j'
    ·subst hij;exact absurd this d
    ·omega
  ·have c:=qc c;rw[k57 qqo c]at k2;exact jj2 j' ⟨k0,k1⟩ k2.symm fun e=>absurd e c
 refine⟨fun i' =>(i<=i'/\i'<=j+1)/\Sort.scanUp (fun x=> !Sort.ltInt (ix g p1) x) g.toArray j.toNat i'.toNat=Sort.scanUp (fun x=> !Sort.ltInt (ix g p1) x) g.toArray j.toNat i.toNat,fun i' =>(j+2-i').toNat,⟨⟨by omega,by omega⟩,rfl⟩,?_⟩;rintro i' ⟨⟨k0,k1⟩,k2⟩;refine⟨fun c=> ?_,fun c=> ?_⟩
 ·have c:=qb c;have xj:=arr_ix (g:=g) (i:=i') qqo qqo;rw[k9f qqo c,xj,ltI_iff]at k2;rw[wi (i' +1) qqo qqo];refine⟨⟨by omega,by omega⟩,⟨by omega,by omega⟩,⟨by omega,by omega⟩,⟨by omega,by omega⟩,fun d=>⟨⟨⟨by omega,by omega⟩,?_⟩,by(dsimp only;omega)⟩,fun d=> ?_⟩
  ·rw[qh d]at k2;exact k2
  ·rw[qe (by rw[d];decide)]at k2;exact jj1 i' ⟨k0,k1⟩ k2.symm fun _=>by simpa using d
 ·have c:=qc c;rw[k8b qqo c]at k2;exact jj1 i' ⟨k0,k1⟩ k2.symm fun e=>absurd e c
noncomputable def k3y:Con TB.den:= .b (gk 294 [.one (.row 0),.one (zqi),.one (zqi),.one (zqi)] [.vec yqu] (.tup [.one (zqi),.one (.d (.bool))])) yH1 [yqi,.bool,.sl yqu] fun(p1 p2 p3:Int) (w0:List Int)=>((0<=p1/\p1<=p3/\p3<p2/\p2<=w0.length)/\w0.length<=1099511627776,partS w0 p1 p2 p3,fun R=>((((partS w0 p1 p2 p3).1:Int):Int),R.2.1,R.2.2.toList,()))
set_option maxHeartbeats 1000000 in
theorem k44:k3y.Ok Tryz.prog TB:=pbv Bs Tryz.func294 (.r 2 (.jn ⟨[],[],[10],[.one (zqi)],[]⟩ [] (.lp [] ⟨[],[],[10],[.one (zqi)],[]⟩ .no) [] (.jn ⟨[],[],[11],[.one (zqi)],[]⟩ [] (.lp [] ⟨[],[],[11],[.one (zqi)],[]⟩ .no) [] (.r 3 (.nd [] (.lp [] ⟨[0],[.vec yqu],[10,11],[.one (zqi),.one (zqi)],[]⟩ (.jn ⟨[],[],[10],[.one (zqi)],[]⟩ [] (.lp [] ⟨[],[],[10],[.one (zqi)],[]⟩ .no) [] (.jn ⟨[],[],[11],[.one (zqi)],[]⟩ [] (.lp [] ⟨[],[],[11],[.one (zqi)],[]⟩ .no) [] .no))) [] .no))))) (k1j.c c0) (Q:=∀(p1 p2 p3:Int) (w0:List Int),((0<=p1/\p1<=p3/\p3<p2/\p2<=w0.length)/\w0.length<=1099511627776)->∀R,partS w0 p1 p2 p3=R-> 
(0<=p3/\p3<(w0.length:Int))/\(0<=p3/\p3<(w0.length:Int))/\(0<=p1/\p1<(w0.length:Int))/\(0<=p1/\p1<(w0.length:Int))/\(0<=p1/\p1<(w0.length:Int))/\(0<=p1/\p1<(w0.length:Int))/\(0<=p3/\p3<(w0.length:Int))/\(0<=p3/\p3<((w0.set p1.toNat (ix w0 p3)).length:Int))/\∀J1:Int->Prop,(∀(b1:Int),
(∀J2:Int->Prop,(∀(i1:Int),
((decide (i1<b1)=true->
(0<=p1/\p1<(w0.length:Int))/\(0<=p1/\p1<(((w0.set p1.toNat (ix w0 p3)).set p3.toNat (ix w0 p1)).length:Int))/\let v7:Int:=ix ((w0.set p1.toNat (ix w0 p3)).set p3.toNat (ix w0 p1)) p1
(0<=i1/\i1<(w0.length:Int))/\(0<=i1/\i1<(((w0.set p1.toNat (ix w0 p3)).set p3.toNat (ix w0 p1)).length:Int))/\let v8:Int:=ix ((w0.set p1.toNat (ix w0 p3)).set p3.toNat (ix w0 p1)) i1
(0<=i1/\i1<(w0.length:Int))/\(0<=i1/\i1<(((w0.set p1.toNat (ix w0 p3)).set p3.toNat (ix w0 p1)).length:Int))/\(0<=p1/\p1<(w0.length:Int))/\(0<=p1/\p1<((((w0.set p1.toNat (ix w0 p3)).set p3.toNat (ix w0 p1)).set i1.toNat v7).length:Int))/\i1=((partS w0 p1 p2 p3).1:Int)/\true=R.2.1/\(((w0.set p1.toNat (ix w0 p3)).set p3.toNat (ix w0 p1)).set i1.toNat v7).set p1.toNat v8=R.2.2.toList)/\
(decide (i1<b1)=false->
(0<=i1/\i1<(w0.length:Int))/\(0<=i1/\i1<(((w0.set p1.toNat (ix w0 p3)).set p3.toNat (ix w0 p1)).length:Int))/\let v9:Int:=ix ((w0.set p1.toNat (ix w0 p3)).set p3.toNat (ix w0 p1)) i1
(0<=b1/\b1<(w0.length:Int))/\(0<=b1/\b1<(((w0.set p1.toNat (ix w0 p3)).set p3.toNat (ix w0 p1)).length:Int))/\let v10:Int:=ix ((w0.set p1.toNat (ix w0 p3)).set p3.toNat (ix w0 p1)) b1
(0<=b1/\b1<(w0.length:Int))/\(0<=b1/\b1<(((w0.set p1.toNat (ix w0 p3)).set p3.toNat (ix w0 p1)).length:Int))/\(0<=i1/\i1<(w0.length:Int))/\(0<=i1/\i1<((((w0.set p1.toNat (ix w0 p3)).set p3.toNat (ix w0 p1)).set b1.toNat v9).length:Int))/\∃(I3:Int->Int->(List Int)->Prop) (M3:Int->Int->(List Int)->Nat),I3 (i64.wrap (b1+1)) (i64.wrap (i1-1)) ((((w0.set p1.toNat (ix w0 p3)).set p3.toNat (ix w0 p1)).set b1.toNat v9).set i1.toNat v10)/\∀l1 m1 n1,(I3 l1 m1 n1->
 ∀J3:Int->Prop,(∀(o1:Int),
(∀J4:Int->Prop,(∀(s1:Int),
((decide (s1<o1)=true->
(0<=p1/\p1<(w0.length:Int))/\(0<=p1/\p1<(n1.length:Int))/\(0<=s1/\s1<(w0.length:Int))/\(0<=s1/\s1<(n1.length:Int))/\(0<=s1/\s1<(w0.length:Int))/\(0<=s1/\s1<(n1.length:Int))/\(0<=p1/\p1<(w0.length:Int))/\(0<=p1/\p1<((n1.set s1.toNat (ix n1 p1)).length:Int))/\s1=((partS w0 p1 p2 p3).1:Int)/\false=R.2.1/\(n1.set s1.toNat (ix n1 p1)).set p1.toNat (ix n1 s1)=R.2.2.toList)/\
(decide (s1<o1)=false->
(0<=s1/\s1<(w0.length:Int))/\(0<=s1/\s1<(n1.length:Int))/\(0<=o1/\o1<(w0.length:Int))/\(0<=o1/\o1<(n1.length:Int))/\(0<=o1/\o1<(w0.length:Int))/\(0<=o1/\o1<(n1.length:Int))/\(0<=s1/\s1<(w0.length:Int))/\(0<=s1/\s1<((n1.set o1.toNat (ix n1 s1)).length:Int))/\I3 (i64.wrap (o1+1)) (i64.wrap (s1-1)) ((n1.set o1.toNat (ix n1 s1)).set s1.toNat (ix n1 o1))/\M3 (i64.wrap (o1+1)) (i64.wrap (s1-1)) ((n1.set o1.toNat (ix n1 s1)).set s1.toNat (ix n1 o1))<M3 l1 m1 n1))->J4 s1)->
 ∃(I5:Int->Prop) (M5:Int->Nat),I5 m1/\∀t1,(I5 t1->
(decide (o1<=t1)=true->
(0<=t1/\t1<(w0.length:Int))/\(0<=t1/\t1<(n1.length:Int))/\(0<=p1/\p1<(w0.length:Int))/\(0<=p1/\p1<(n1.length:Int))/\((!(decide ((ix n1 t1)<(ix n1 p1))))=true->
 I5 (i64.wrap (t1-1))/\M5 (i64.wrap (t1-1))<M5 t1)/\
((!(decide ((ix n1 t1)<(ix n1 p1))))=false->
 J4 t1))/\
(decide (o1<=t1)=false->
 J4 t1)))->J3 o1)->
 ∃(I4:Int->Prop) (M4:Int->Nat),I4 l1/\∀q1,(I4 q1->
(decide (q1<=m1)=true->
(0<=q1/\q1<(w0.length:Int))/\(0<=q1/\q1<(n1.length:Int))/\(0<=p1/\p1<(w0.length:Int))/\(0<=p1/\p1<(n1.length:Int))/\((decide ((ix n1 q1)<(ix n1 p1)))=true->
 I4 (i64.wrap (q1+1))/\M4 (i64.wrap (q1+1))<M4 q1)/\
((decide ((ix n1 q1)<(ix n1 p1)))=false->
 J3 q1))/\
(decide (q1<=m1)=false->
 J3 q1)))))->J2 i1)->
 ∃(I2:Int->Prop) (M2:Int->Nat),I2 (i64.wrap (p2-1))/\∀k1,(I2 k1->
(decide (b1<=k1)=true->
(0<=k1/\k1<(w0.length:Int))/\(0<=k1/\k1<(((w0.set p1.toNat (ix w0 p3)).set p3.toNat (ix w0 p1)).length:Int))/\let v5:Int:=ix ((w0.set p1.toNat (ix w0 p3)).set p3.toNat (ix w0 p1)) k1
(0<=p1/\p1<(w0.length:Int))/\(0<=p1/\p1<(((w0.set p1.toNat (ix w0 p3)).set p3.toNat (ix w0 p1)).length:Int))/\let v6:Int:=ix ((w0.set p1.toNat (ix w0 p3)).set p3.toNat (ix w0 p1)) p1
((!(decide (v5<v6)))=true->
 I2 (i64.wrap (k1-1))/\M2 (i64.wrap (k1-1))<M2 k1)/\
((!(decide (v5<v6)))=false->
 J2 k1))/\
(decide (b1<=k1)=false->
 J2 k1)))->J1 b1)->
 ∃(I1:Int->Prop) (M1:Int->Nat),I1 (i64.wrap (p1+1))/\∀f1,(I1 f1->
 let v2:Bool:=decide (f1<=(i64.wrap (p2-1)))
(v2=true->
(0<=f1/\f1<(w0.length:Int))/\(0<=f1/\f1<(((w0.set p1.toNat (ix w0 p3)).set p3.toNat (ix w0 p1)).length:Int))/\let v3:Int:=ix ((w0.set p1.toNat (ix w0 p3)).set p3.toNat (ix w0 p1)) f1
(0<=p1/\p1<(w0.length:Int))/\(0<=p1/\p1<(((w0.set p1.toNat (ix w0 p3)).set p3.toNat (ix w0 p1)).length:Int))/\let v4:Int:=ix ((w0.set p1.toNat (ix w0 p3)).set p3.toNat (ix w0 p1)) p1
((decide (v3<v4))=true->
 I1 (i64.wrap (f1+1))/\M1 (i64.wrap (f1+1))<M1 f1)/\
((decide (v3<v4))=false->
 J1 f1))/\
(v2=false->
 J1 f1)))<|by
 rintro p1 p2 p3 w0 h R hR;subst hR;obtain⟨⟨h1,h2,h3,h4⟩,h5⟩:=h;have hs0:=swp_arr (g:=w0) (i:=p1) (j:=p3) qqo qqo qqo qqo;have hst:partS w0 p1 p2 p3=Sort.partition Sort.ltInt w0.toArray p1.toNat p2.toNat p3.toNat:=rfl;unfold Sort.partition at hst;dsimp only at hst;rw[hs0]at hst;have hl0:(swpL w0 p1 p3).length=w0.length:=k7a;refine⟨⟨by omega,by omega⟩,⟨by omega,by omega⟩,⟨by omega,by omega⟩,⟨by omega,by omega⟩,⟨by omega,by omega⟩,⟨by omega,by omega⟩,⟨by omega,by omega⟩,⟨by omega,by rw[qy];omega⟩,?_⟩;rw[wi (p1+1) qqo qqo,wi (p2-1) qqo qqo,show(w0.set p1.toNat (ix w0 p3)).set p3.toNat (ix w0 p1)=swpL w0 p1 p3 from rfl];generalize partS w0 p1 p2 p3=R at *
 generalize swpL w0 p1 p3=gs at *
 rw[show p2.toNat-1=(p2-1).toNat by omega,show p1.toNat+1=(p1+1).toNat by omega,arr_ix (g:=gs) (i:=p1) qqo qqo]at hst;clear hs0;intro J1 kJ1
 have jj1:∀i' :Int,(p1+1<=i'/\i'<=p2)->Sort.scanUp (fun x=>Sort.ltInt x (ix gs p1)) gs.toArray (p2-1).toNat (p1+1).toNat=i'.toNat->(i'<=p2-1->¬ix gs i' <ix gs p1)->J1 i' :=by
  intro i' ⟨q0,q1⟩ e1 e2;refine kJ1 _ fun J2 kJ2=> ?_
  have jj2:∀j' :Int,(i' -1<=j'/\j'<=p2-1)->Sort.scanDown (fun x=> !Sort.ltInt x (ix gs p1)) gs.toArray i'.toNat (p2-1).toNat=j'.toNat->(i'<=j'->i' <j')->J2 j' :=by
   intro j' ⟨q2,q3⟩ e4 e3;rw[e1,e4]at hst;refine kJ2 _ ⟨fun c=> ?_,fun c=> ?_⟩
   ·have c:=qb c;rw[qh qqo]at hst;have hs:=swp_arr (g:=gs) (i:=j') (j:=p1) qqo qqo qqo qqo;rw[hs]at hst;rw[hst];exact⟨⟨by omega,by omega⟩,⟨by omega,by omega⟩,⟨by omega,by omega⟩,⟨by omega,by omega⟩,⟨by omega,by omega⟩,⟨by omega,by omega⟩,⟨by omega,by omega⟩,⟨by omega,by rw[qy];omega⟩,(Int.toNat_of_nonneg qqo).symm,rfl,rfl⟩
   ·have c:=qc c;have hs:=swp_arr (g:=gs) (i:=i') (j:=j') qqo qqo qqo qqo;rw[qe qqo,hs,show i'.toNat+1=(i' +1).toNat by omega,show j'.toNat-1=(j' -1).toNat by omega]at hst;have e5:=e3 qqo;rw[wi (i' +1) qqo qqo,wi (j' -1) qqo qqo];refine⟨⟨by omega,by omega⟩,⟨by omega,by omega⟩,⟨by omega,by omega⟩,⟨by omega,by omega⟩,⟨by omega,by omega⟩,⟨by omega,by omega⟩,⟨by omega,by omega⟩,⟨by omega,by rw[qy];omega⟩,fun i j g=>(p1<i/\i<=j+1/\j<p2)/\g.length=w0.length/\R=((Sort.partLoop Sort.ltInt p1.toNat i.toNat j.toNat g.toArray).1,false,Sort.swp (Sort.partLoop Sort.ltInt p1.toNat i.toNat j.toNat g.toArray).2 (Sort.partLoop Sort.ltInt p1.toNat i.toNat j.toNat g.toArray).1 p1.toNat),fun i j _=>(j+1-i).toNat,⟨⟨by omega,by omega,by omega⟩,by rw[qy,qy];exact hl0,hst⟩,?_⟩;clear hst hs e1 e4;rintro i j g ⟨⟨i0,i1,i2⟩,g2,g3⟩ J3 kJ3;rw[Sort.partLoop_eq]at g3;have xa:=arr_ix (g:=g) (i:=p1) qqo qqo;rw[xa]at g3
    have jj3:∀i' :Int,(i<=i'/\i'<=j+1)->Sort.scanUp (fun x=>Sort.ltInt x (ix g p1)) g.toArray j.toNat i.toNat=i'.toNat->(i'<=j->¬ix g i' <ix g p1)->J3 i' :=by
     intro i' ⟨q0,q1⟩ e1 e2;refine kJ3 _ fun J4 kJ4=> ?_
     have jj4:∀j' :Int,(i' -1<=j'/\j'<=j)->Sort.scanDown (fun x=> !Sort.ltInt x (ix g p1)) g.toArray i'.toNat j.toNat=j'.toNat->(i'<=j'->i' <j')->J4 j' :=by
      intro j' ⟨q2,q3⟩ e4 e3;rw[e1,e4]at g3;refine kJ4 _ ⟨fun c=> ?_,fun c=> ?_⟩
      ·have c:=qb c;rw[qh qqo]at g3;have hs:=swp_arr (g:=g) (i:=j') (j:=p1) qqo qqo qqo qqo;dsimp only at g3;rw[hs]at g3;rw[g3];exact⟨⟨by omega,by omega⟩,⟨by omega,by omega⟩,⟨by omega,by omega⟩,⟨by omega,by omega⟩,⟨by omega,by omega⟩,⟨by omega,by omega⟩,⟨by omega,by omega⟩,⟨by omega,by rw[qy];omega⟩,(Int.toNat_of_nonneg qqo).symm,rfl,rfl⟩
      ·have c:=qc c;have hs:=swp_arr (g:=g) (i:=i') (j:=j') qqo qqo qqo qqo;rw[qe qqo,hs,show i'.toNat+1=(i' +1).toNat by omega,show j'.toNat-1=(j' -1).toNat by omega]at g3;have w1:=wi (i' +1) qqo qqo;have w2:=wi (j' -1) qqo qqo;have e4:=e3 qqo;rw[w1,w2];exact⟨⟨by omega,by omega⟩,⟨by omega,by omega⟩,⟨by omega,by omega⟩,⟨by omega,by omega⟩,⟨by omega,by omega⟩,⟨by omega,by omega⟩,⟨by omega,by omega⟩,⟨by omega,by rw[qy];omega⟩,⟨⟨by omega,by omega,by omega⟩,by rw[qy,qy];exact g2,g3⟩,by(dsimp only;omega)⟩
     refine⟨fun j' =>(i' -1<=j'/\j'<=j)/\Sort.scanDown (fun x=> !Sort.ltInt x (ix g p1)) g.toArray i'.toNat j'.toNat=Sort.scanDown (fun x=> !Sort.ltInt x (ix g p1)) g.toArray i'.toNat j.toNat,fun j' =>(j' +1).toNat,⟨⟨by omega,by omega⟩,rfl⟩,?_⟩;rintro j' ⟨⟨k0,k1⟩,k2⟩;refine⟨fun c=> ?_,fun c=> ?_⟩
     ·have c:=qb c;have xj:=arr_ix (g:=g) (i:=j') qqo qqo;rw[k6b qqo c,xj,ltI_iff]at k2;rw[wi (j' -1) qqo qqo];refine⟨⟨by omega,by omega⟩,⟨by omega,by omega⟩,⟨by omega,by omega⟩,⟨by omega,by omega⟩,fun d=>⟨⟨⟨by omega,by omega⟩,?_⟩,by(dsimp only;omega)⟩,fun d=> ?_⟩
      ·rw[qh d]at k2;exact k2
      ·rw[qe (by rw[d];decide)]at k2;refine jj4 j' ⟨k0,k1⟩ k2.symm fun e=> ?_;have:=e2 qqo;have d:ix g j' <ix g p1:=by simpa using d
       by_cases hij:i' =j'
       ·subst hij;exact absurd d this
       ·omega
     ·have c:=qc c;rw[k57 qqo c]at k2;exact jj4 j' ⟨k0,k1⟩ k2.symm fun e=>absurd e c
    refine⟨fun i' =>(i<=i'/\i'<=j+1)/\Sort.scanUp (fun x=>Sort.ltInt x (ix g p1)) g.toArray j.toNat i'.toNat=Sort.scanUp (fun x=>Sort.ltInt x (ix g p1)) g.toArray j.toNat i.toNat,fun i' =>(j+2-i').toNat,⟨⟨by omega,by omega⟩,rfl⟩,?_⟩;rintro i' ⟨⟨k0,k1⟩,k2⟩;refine⟨fun c=> ?_,fun c=> ?_⟩
    ·have c:=qb c;have xj:=arr_ix (g:=g) (i:=i') qqo qqo;rw[k9f qqo c,xj,ltI_iff]at k2;rw[wi (i' +1) qqo qqo];refine⟨⟨by omega,by omega⟩,⟨by omega,by omega⟩,⟨by omega,by omega⟩,⟨by omega,by omega⟩,fun d=>⟨⟨⟨by omega,by omega⟩,?_⟩,by(dsimp only;omega)⟩,fun d=> ?_⟩
     ·rw[qh d]at k2;exact k2
     ·rw[qe (by rw[d];decide)]at k2;exact jj3 i' ⟨k0,k1⟩ k2.symm fun _=>qc d
    ·have c:=qc c;rw[k8b qqo c]at k2;exact jj3 i' ⟨k0,k1⟩ k2.symm fun e=>absurd e c
  refine⟨fun j' =>(i' -1<=j'/\j'<=p2-1)/\Sort.scanDown (fun x=> !Sort.ltInt x (ix gs p1)) gs.toArray i'.toNat j'.toNat=Sort.scanDown (fun x=> !Sort.ltInt x (ix gs p1)) gs.toArray i'.toNat (p2-1).toNat,fun j' =>(j' +1).toNat,⟨⟨by omega,by omega⟩,rfl⟩,?_⟩;rintro j' ⟨⟨k0,k1⟩,k2⟩;refine⟨fun c=> ?_,fun c=> ?_⟩
  ·have c:=qb c;have xj:=arr_ix (g:=gs) (i:=j') qqo qqo;rw[k6b qqo c,xj,ltI_iff]at k2;rw[wi (j' -1) qqo qqo];refine⟨⟨by omega,by omega⟩,⟨by omega,by omega⟩,⟨by omega,by omega⟩,⟨by omega,by omega⟩,fun d=>⟨⟨⟨by omega,by omega⟩,?_⟩,by(dsimp only;omega)⟩,fun d=> ?_⟩
   ·rw[qh d]at k2;exact k2
   ·rw[qe (by rw[d];decide)]at k2;refine jj2 j' ⟨k0,k1⟩ k2.symm fun e=> ?_;have:=e2 qqo;have d:ix gs j' <ix gs p1:=by simpa using d
    by_cases hij:i' =j'
    ·subst hij;exact absurd d this
    ·omega
  ·have c:=qc c;rw[k57 qqo c]at k2;exact jj2 j' ⟨k0,k1⟩ k2.symm fun e=>absurd e c
 refine⟨fun i' =>(p1+1<=i'/\i'<=p2)/\Sort.scanUp (fun x=>Sort.ltInt x (ix gs p1)) gs.toArray (p2-1).toNat i'.toNat=Sort.scanUp (fun x=>Sort.ltInt x (ix gs p1)) gs.toArray (p2-1).toNat (p1+1).toNat,fun i' =>(p2+2-i').toNat,⟨⟨by omega,by omega⟩,rfl⟩,?_⟩;rintro i' ⟨⟨k0,k1⟩,k2⟩;refine⟨fun c=> ?_,fun c=> ?_⟩
 ·have c:=qb c;have xj:=arr_ix (g:=gs) (i:=i') qqo qqo;rw[k9f qqo c,xj,ltI_iff]at k2;rw[wi (i' +1) qqo qqo];refine⟨⟨by omega,by omega⟩,⟨by omega,by omega⟩,⟨by omega,by omega⟩,⟨by omega,by omega⟩,fun d=>⟨⟨⟨by omega,by omega⟩,?_⟩,by(dsimp only;omega)⟩,fun d=> ?_⟩
  ·rw[qh d]at k2;exact k2
  ·rw[qe (by rw[d];decide)]at k2;exact jj1 i' ⟨k0,k1⟩ k2.symm fun _=>qc d
 ·have c:=qc c;rw[k8b qqo c]at k2;exact jj1 i' ⟨k0,k1⟩ k2.symm fun e=>absurd e c
noncomputable def k34:Con TB.den:= .g (gk 290 [.one (.row 0),.one (zqi),.one (zqi)] [.vec yqu] (.tup [])) yL1 [.sl yqu] [] fun(p1 p2:Int) (w0:List Int)=>((0<=p1/\p1<=p2/\p2<=w0.length)/\w0.length<=1099511627776,(revS w0 p1 p2:List Int),())
theorem k39:k34.Ok Tryz.prog TB:=prv Bs Tryz.func290 (.r 1 (.lp [] ⟨[0],[.vec yqu],[6,7],[.one (zqi),.one (zqi)],[]⟩ .no)) c0 (Q:=∀(p1 p2:Int) (w0:List Int),((0<=p1/\p1<=p2/\p2<=w0.length)/\w0.length<=1099511627776)->∀e0:List Int,revS w0 p1 p2=e0-> 
 ∃(I1:Int->Int->(List Int)->Prop) (M1:Int->Int->(List Int)->Nat),I1 p1 (i64.wrap (p2-1)) w0/\∀b1 f1 i1,(I1 b1 f1 i1->
(decide (b1<f1)=true->
(0<=f1/\f1<(w0.length:Int))/\(0<=f1/\f1<(i1.length:Int))/\(0<=b1/\b1<(w0.length:Int))/\(0<=b1/\b1<(i1.length:Int))/\(0<=b1/\b1<(w0.length:Int))/\(0<=b1/\b1<(i1.length:Int))/\(0<=f1/\f1<(w0.length:Int))/\(0<=f1/\f1<((i1.set b1.toNat (ix i1 f1)).length:Int))/\I1 (i64.wrap (b1+1)) (i64.wrap (f1-1)) ((i1.set b1.toNat (ix i1 f1)).set f1.toNat (ix i1 b1))/\M1 (i64.wrap (b1+1)) (i64.wrap (f1-1)) ((i1.set b1.toNat (ix i1 f1)).set f1.toNat (ix i1 b1))<M1 b1 f1 i1)/\
(decide (b1<f1)=false->
 i1=e0)))<|by
 rintro p1 p2 w0 h _ rfl;obtain⟨⟨h1,h2,h3⟩,h4⟩:=h;rw[wi (p2-1) qqo qqo];refine⟨(fun i j g=>(0<=i/\-1<=j/\i<=2199023255552/\j<w0.length)/\g.length=w0.length/\revS w0 p1 p2=(Sort.reverseLoop i.toNat j.toNat g.toArray).toList),(fun i j _=>(j-i).toNat),⟨⟨by omega,by omega,by omega,by omega⟩,rfl,by unfold revS Sort.reverseRange;rw[show(p2-1).toNat=p2.toNat-1 by omega]⟩,?_⟩;rintro i j g ⟨⟨g0,g1,g2,g3⟩,g4,g5⟩;refine⟨fun hh=> ?_,fun hh=> ?_⟩
 ·have hh:=qb hh;rw[kfp g0 hh qqo]at g5;rw[wi (i+1) qqo qqo,wi (j-1) qqo qqo];exact⟨⟨by omega,by omega⟩,⟨by omega,by omega⟩,⟨by omega,by omega⟩,⟨by omega,by omega⟩,⟨by omega,by omega⟩,⟨by omega,by omega⟩,⟨by omega,by omega⟩,⟨by omega,by rw[qy];omega⟩,⟨⟨by omega,by omega,by omega,by omega⟩,by rw[qy,qy];exact g4,g5⟩,by(dsimp only;omega)⟩
 ·have hh:=qc hh;rw[ke9 g0 hh]at g5;rw[g5]
noncomputable def k4i:Con TB.den:= .g (gk 219 [.one (.row 0),.one (zqi),.one (zqi),.one (zqi)] [.vec yqu] (.tup [])) yH1 [.sl yqu] [] fun(p1 p2 p3:Int) (w0:List Int)=>((0<=p1/\p1<=p2/\p2<=w0.length)/\w0.length<=1099511627776/\Sort.Below Sort.ltInt p1.toNat p2.toNat w0.toArray,(insS w0 p1 p2:List Int),())
abbrev Fz8 (r:Type):=Int->Int->Int->Bool->Bool->(List Int)->r
set_option maxHeartbeats 1000000 in
theorem k50:k4i.Ok Tryz.prog TB:=rec_ok (μ:=fun(p1 p2 p3:Int) (w0:List Int)=>(p2-p1).toNat) (cal Tryz.func219 qqk) fun rn hr=>prv Bs Tryz.func219 (.r 1 (.lp [] ⟨[0],[.vec yqu],[1,2,3,8,9],[.one (zqi),.one (zqi),.one (zqi),.one (.d (.bool)),.one (.d (.bool))],[]⟩ (.r 2 (.jn ⟨[0],[.vec yqu],[3],[.one (zqi)],[]⟩ [] .no [] (.r 0 (.jn ⟨[0],[.vec yqu],[11,12],[.one (zqi),.one (zqi)],[]⟩ [] .no [] (.jn ⟨[0],[.vec yqu],[],[],[]⟩ [] (.jn ⟨[],[],[68],[.one (.d (.bool))],[]⟩ [] .no [] .no) [] (.nd [] (.jn ⟨[],[],[87],[.one (.d (.bool))],[]⟩ [] .no [] .no) [] .no)))))))) (k36.c (k4f.c (k2y.c (k3q.c (k39.c (k1z.c (k1j.c (k2s.c (k44.c (hr.c c0)))))))))) (Q:=∀(p1 p2 p3:Int) (w0:List Int),(((0<=p1/\p1<=p2/\p2<=w0.length)/\w0.length<=1099511627776/\Sort.Below Sort.ltInt p1.toNat p2.toNat w0.toArray)/\((p2-p1).toNat)<rn+1)->∀e0:List Int,insS w0 p1 p2=e0-> 
 ∃(I1:Fz8 Prop) (M1:Fz8 Nat),I1 p1 p2 p3 true true w0/\∀b1 f1 i1 k1 l1 m1,(I1 b1 f1 i1 k1 l1 m1->
 let v1:Bool:=decide ((i64.wrap (f1-b1))<=12)
(v1=true->
(w0.length=m1.length)/\((0<=b1/\b1<=f1/\f1<=m1.length)/\m1.length<=1099511627776)/\(insS m1 b1 f1)=e0)/\
(v1=false->
((i1==0)=true->
(w0.length=m1.length)/\((0<=b1/\b1<f1/\f1<=m1.length)/\m1.length<=1099511627776)/\(heapS m1 b1 f1)=e0)/\
((i1==0)=false->
 ∀J1:Int->(List Int)->Prop,(∀(n1:Int) (o1:List Int),
((w0.length=o1.length)/\((0<=b1/\b1<f1/\f1<=o1.length)/\o1.length<=1099511627776)/\∀J2:Int->Int->(List Int)->Prop,(∀(q1 s1:Int) (t1:List Int),
(∀J3:(List Int)->Prop,(∀(u1:List Int),
(∀J5:Bool->Prop,(∀(y1:Bool),
((y1=true->
(w0.length=u1.length)/\((0<=b1/\b1<=q1/\q1<f1/\f1<=u1.length)/\u1.length<=1099511627776)/\I1 ((peqS u1 b1 f1 q1).1:Int) f1 n1 k1 l1 ((peqS u1 b1 f1 q1).2.toList)/\M1 ((peqS u1 b1 f1 q1).1:Int) f1 n1 k1 l1 ((peqS u1 b1 f1 q1).2.toList)<M1 b1 f1 i1 k1 l1 m1)/\
(y1=false->
(w0.length=u1.length)/\((0<=b1/\b1<=q1/\q1<f1/\f1<=u1.length)/\u1.length<=1099511627776)/\let v5:Int:=i64.wrap (((partS u1 b1 f1 q1).1:Int)-b1)
 let v6:Int:=i64.wrap (f1-((partS u1 b1 f1 q1).1:Int))
 let v7:Int:=i64.wrap (Int.tdiv (i64.wrap (f1-b1)) 8)
(decide (v5<v6)=true->
(w0.length=((partS u1 b1 f1 q1).2.2.toList).length)/\(((0<=b1/\b1<=((partS u1 b1 f1 q1).1:Int)/\((partS u1 b1 f1 q1).1:Int)<=((partS u1 b1 f1 q1).2.2.toList).length)/\((partS u1 b1 f1 q1).2.2.toList).length<=1099511627776/\Sort.Below Sort.ltInt b1.toNat ((partS u1 b1 f1 q1).1:Int).toNat ((partS u1 b1 f1 q1).2.2.toList).toArray)/\(((partS u1 b1 f1 q1).1:Int)-b1).toNat<rn)/\let r8:List Int:=(insS ((partS u1 b1 f1 q1).2.2.toList) b1 ((partS u1 b1 f1 q1).1:Int))
 let v9:Int:=i64.wrap (((partS u1 b1 f1 q1).1:Int)+1)
 I1 v9 f1 n1 (decide (v7<=v5)) ((partS u1 b1 f1 q1).2.1) r8/\M1 v9 f1 n1 (decide (v7<=v5)) ((partS u1 b1 f1 q1).2.1) r8<M1 b1 f1 i1 k1 l1 m1)/\
(decide (v5<v6)=false->
 let v10:Int:=i64.wrap (((partS u1 b1 f1 q1).1:Int)+1)
(w0.length=((partS u1 b1 f1 q1).2.2.toList).length)/\(((0<=v10/\v10<=f1/\f1<=((partS u1 b1 f1 q1).2.2.toList).length)/\((partS u1 b1 f1 q1).2.2.toList).length<=1099511627776/\Sort.Below Sort.ltInt v10.toNat f1.toNat ((partS u1 b1 f1 q1).2.2.toList).toArray)/\(f1-v10).toNat<rn)/\let r11:List Int:=(insS ((partS u1 b1 f1 q1).2.2.toList) v10 f1)
 I1 b1 ((partS u1 b1 f1 q1).1:Int) n1 (decide (v7<=v6)) ((partS u1 b1 f1 q1).2.1) r11/\M1 b1 ((partS u1 b1 f1 q1).1:Int) n1 (decide (v7<=v6)) ((partS u1 b1 f1 q1).2.1) r11<M1 b1 f1 i1 k1 l1 m1)))->J5 y1)->
(decide (0<b1)=true->
(0<=i64.wrap (b1-1)/\i64.wrap (b1-1)<(w0.length:Int))/\(0<=i64.wrap (b1-1)/\i64.wrap (b1-1)<(u1.length:Int))/\(0<=q1/\q1<(w0.length:Int))/\(0<=q1/\q1<(u1.length:Int))/\let r4:Bool:=(decide ((ix u1 (i64.wrap (b1-1)))<(ix u1 q1)))
 J5 (!r4))/\
(decide (0<b1)=false->
 J5 false))->J3 u1)->
 ∀J4:Bool->Prop,(∀(x1:Bool),
((x1=true->
(w0.length=t1.length)/\((0<=b1/\b1<f1/\f1<=t1.length)/\t1.length<=1099511627776)/\(((pisS t1 b1 f1).2)=true->
((pisS t1 b1 f1).1.toList)=e0)/\
(((pisS t1 b1 f1).2)=false->
 J3 ((pisS t1 b1 f1).1.toList)))/\
(x1=false->
 J3 t1))->J4 x1)->
(k1=true->
(l1=true->
 J4 (s1==1))/\
(l1=false->
 J4 false))/\
(k1=false->
 J4 false))->J2 q1 s1 t1)->
(((hintN (cpS o1 b1 f1).2)==2)=true->
(w0.length=o1.length)/\((0<=b1/\b1<=f1/\f1<=o1.length)/\o1.length<=1099511627776)/\let v2:Int:=i64.wrap (((cpS o1 b1 f1).1:Int)-b1)
 let v3:Int:=i64.wrap ((i64.wrap (f1-1))-v2)
 J2 v3 1 (revS o1 b1 f1))/\
(((hintN (cpS o1 b1 f1).2)==2)=false->
 J2 ((cpS o1 b1 f1).1:Int) (hintN (cpS o1 b1 f1).2) o1))->J1 n1 o1)->
((!k1)=true->
(w0.length=m1.length)/\((0<=b1/\b1<=f1/\f1<=m1.length)/\m1.length<=1099511627776)/\J1 (i64.wrap (i1-1)) (brkS m1 b1 f1))/\
((!k1)=false->
 J1 i1 m1)))))<|by
 rintro p1 p2 p3 w0 ⟨h,hm⟩ _ rfl;replace hm:=Nat.lt_succ_iff.1 hm;obtain⟨⟨h1,h2,h3⟩,h4,hB⟩:=h;have h0:=PdqI.start h1 h2 h3 hB;have hR:insS w0 p1 p2=(insS w0 p1 p2).toArray.toList:=rfl;rw[hR];generalize (insS w0 p1 p2).toArray=R at *
 refine⟨fun a b _ _ _ g=>PdqI R w0.length a b g/\(b-a).toNat<=rn,fun a b _ _ _ _=>(b-a).toNat,⟨h0,hm⟩,?_⟩;clear h0 hm h1 h2 h3 hB hR;rintro a b l wb wp g ⟨hP,hb⟩;have a0:=hP.a0;have ab:=hP.ab;have bl:=hP.bl;have gl:=hP.n;dsimp only;have w1:=wi (b-a) qqo qqo;refine⟨fun e=>⟨by omega,⟨⟨a0,ab,bl⟩,by omega⟩,hP.ins⟩,fun e=> ?_⟩;have e:¬b-a<=12:=by rw[w1]at e;exact qc e
 refine⟨fun e2=>⟨by omega,⟨⟨a0,by omega,bl⟩,by omega⟩,hP.heap⟩,fun e2 J1 k1=> ?_⟩
 have j1:∀(l:Int) (g:List Int),PdqI R w0.length a b g->J1 l g:=by
  intro l g hP;have bl:=hP.bl;have gl:=hP.n;have hc:=cpS_rng (g:=g) (a:=a) (b:=b) a0 qqo;have hr:=hP.rev;have rl:=hr.n;refine k1 _ _ ⟨by omega,⟨⟨a0,by omega,bl⟩,by omega⟩,fun J2 k2=> ?_⟩
  have j2:∀(p h:Int) (g:List Int),PdqI R w0.length a b g->(a<=p/\p<b)->J2 p h g:=by
   intro p h g hP hp;have bl:=hP.bl;have gl:=hP.n;refine k2 _ _ _ fun J3 k3=> ?_
   have j3:∀g:List Int,PdqI R w0.length a b g->J3 g:=by
    intro g hP;have bl:=hP.bl;have gl:=hP.n;refine k3 _ fun J5 k5=> ?_
    have j5:∀s:Bool,(s=true->0<a/\¬ix g (a-1)<ix g p)->J5 s:=by
     intro s hs;refine k5 _ ⟨fun e=> ?_,fun e=> ?_⟩
     ·obtain⟨s1,s2⟩:=hs e;obtain⟨m1,m2,m3⟩:=hP.peq s1 hp.1 hp.2 s2;have ml:=m3.n;exact⟨by omega,⟨⟨a0,hp.1,hp.2,bl⟩,by omega⟩,⟨m3,by omega⟩,by omega⟩
     ·obtain⟨m1,m2,m3,m4,m5,m6,m7⟩:=hP.part hp.1 hp.2;have l6:=m6.n;have l7:=m7.n;generalize partS g a b p=P at *
      have dl:P.2.2.toList.length=w0.length:=by simpa using m3
      refine⟨by omega,⟨⟨a0,hp.1,hp.2,bl⟩,by omega⟩,?_⟩;have w1:=wi ((P.1:Int)-a) qqo qqo;have w2:=wi (b-(P.1:Int)) qqo qqo;have w3:=wi ((P.1:Int)+1) qqo qqo;rw[w1,w2,w3];refine⟨fun c=>⟨by omega,⟨⟨⟨a0,m1,by omega⟩,by omega,by simpa using m4⟩,by omega⟩,⟨m6,by omega⟩,by omega⟩,fun c=>⟨by omega,⟨⟨⟨by omega,by omega,by omega⟩,by omega,?_⟩,by omega⟩,⟨m7,by omega⟩,by omega⟩⟩;rw[show((P.1:Int)+1).toNat=P.1+1 by omega];simpa using m5
    refine⟨fun e=> ?_,fun e=>j5 _ (fun h=>by cases h)⟩;have e:=qb e;rw[wi (a-1) qqo qqo];refine⟨⟨by omega,by omega⟩,⟨by omega,by omega⟩,⟨by omega,by omega⟩,⟨by omega,by omega⟩,j5 _ fun h=>⟨e,?_⟩⟩;simpa using h
   intro J4 k4;have j4:∀x,J4 x:=by intro x;refine k4 x ⟨fun e=> ?_,fun e=>j3 _ hP⟩;obtain⟨m1,m2⟩:=hP.pis qqo;have ml:=m1.n;exact⟨by omega,⟨⟨a0,by omega,bl⟩,by omega⟩,fun e2=>m2 e2,fun e2=>j3 _ m1⟩
   exact⟨fun e=>⟨fun e2=>j4 _,fun e2=>j4 _⟩,fun e=>j4 _⟩
  refine⟨fun e=>⟨by omega,⟨⟨a0,by omega,bl⟩,by omega⟩,?_⟩,fun e=>j2 _ _ _ hP ⟨hc.1,hc.2⟩⟩;rw[wi (((cpS g a b).1:Int)-a) qqo qqo,wi (b-1) qqo qqo,wi (b-1-(((cpS g a b).1:Int)-a)) qqo qqo];exact j2 _ _ _ hr ⟨by omega,by omega⟩
 refine⟨fun e3=> ?_,fun e3=>j1 _ _ hP⟩;have hk:=hP.brk;have kl:=hk.n;exact⟨by omega,⟨⟨a0,ab,bl⟩,by omega⟩,j1 _ _ hk⟩
noncomputable def ker:Con TB.den:= .g (gk 160 [.one (.row 0)] [.vec yqu] (.tup [])) [.sl yqu] [.sl yqu] [] fun(w0:List Int)=>(w0.length<=1099511627776,(srt w0:List Int),())
theorem kfx:ker.Ok Tryz.prog TB:=prv Bs Tryz.func160 .no (kbf.c (k50.c c0)) (Q:=∀(w0:List Int),(w0.length<=1099511627776)->∀e0:List Int,srt w0=e0-> 
(U64 (u64.wrap (w0.length:Int)))/\let r1:Int:=(len64 (u64.wrap (w0.length:Int)))
 lz w0/\((0<=(0:Int)/\(0:Int)<=(w0.length:Int)/\(w0.length:Int)<=w0.length)/\w0.length<=1099511627776/\Sort.Below Sort.ltInt (0:Int).toNat (w0.length:Int).toNat w0.toArray)/\(insS w0 (0:Int) (w0.length:Int))=e0)<|by rintro w0 h _ rfl;refine⟨by rw[wu _ qqo qqo];omega,?_⟩;refine⟨rfl,⟨⟨by omega,by omega,by omega⟩,h,Or.inl rfl⟩,?_⟩;exact koo w0
noncomputable def kis:Con TB.den:= .g ⟨106,[.one (.ptr 0 0)],yD1,(.one (.one (.row 2))),[.cells [.mp 1],.map yqu (.bool),.vec yqu],false⟩ [.sl yqu,.sl (.bool)] [.sl yqu,.sl (.bool),.sl yqu] [] fun(w1k:List Int) (w1v:List Bool)=>(w1v=trs w1k/\w1k.length<=1000000,w1k,w1v,(srt w1k:List Int),())
abbrev Fz9 (r:Type):=(List Int)->(List Bool)->(List Int)->(List Bool)->(List Int)->r
theorem kl7:kis.Ok Tryz.prog TB:=prx Bs [22,23] Tryz.func106 (.r 1 (.nd [] (.r 0 (.lp [] ⟨[3,1],[.it 1 yqu (.bool),.map yqu (.bool),.vec yqu],[3],[.one (.row 2)],[2]⟩ .no)) [] .no)) x0 (kfx.c c0) (Q:=∀(w1k:List Int) (w1v:List Bool),(w1v=trs w1k/\w1k.length<=1000000)->∀e1k:List Int,w1k=e1k->∀e1v:List Bool,w1v=e1v->∀e2:List Int,srt w1k=e2-> 
 w1k.length=w1v.length/\0<=(0:Int)/\(0:Int)<=(w1k.length:Int)/\((w1k.length:Int).toNat*8<=140737488355328)/\((w1k.length:Int).toNat<=maxLen)/\(0=(List.replicate 0 (0:Int)).length)/\∃(I1:Fz9 Prop) (M1:Fz9 Nat),I1 w1k w1v w1k w1v (List.replicate 0 (0:Int))/\∀b1 f1 i1 k1 l1,(I1 b1 f1 i1 k1 l1->
 b1.length=f1.length/\(b1=[]->
 lz l1/\(l1.length<=1099511627776)/\(l1.length=(srt l1).length)/\i1=e1k/\k1=e1v/\(srt l1)=e2)/\
(∀j4:Nat,j4<b1.length->
 lz l1/\lz [ix b1 (j4:Int)]/\(l1.length+[ix b1 (j4:Int)].length)*8<=140737488355328/\l1.length+[ix b1 (j4:Int)].length<=maxLen/\lz (l1++[ix b1 (j4:Int)])/\I1 (b1.eraseIdx j4) (f1.eraseIdx j4) i1 k1 (l1++[ix b1 (j4:Int)])/\M1 (b1.eraseIdx j4) (f1.eraseIdx j4) i1 k1 (l1++[ix b1 (j4:Int)])<M1 b1 f1 i1 k1 l1)))<|by
 rintro w1k w1v h _ rfl _ rfl _ rfl;obtain⟨h,hl⟩:=h;subst h;have hlv:w1k.length=(trs w1k).length:=by simp[trs]
 refine⟨hlv,by omega,by omega,by omega,by unfold maxLen;omega,rfl,?_⟩;refine⟨(fun a b x y g=>(w1k=x/\trs w1k=y)/\a.length=b.length/\(g++a).Perm w1k),(fun a _ _ _ _=>a.length),⟨⟨rfl,rfl⟩,hlv,by simp⟩,?_⟩;rintro a b _ _ g ⟨⟨rfl,rfl⟩,hab,hp⟩;have hln:=hp.length_eq;rw[qj]at hln;refine⟨hab,fun e=> ?_,fun j hj=> ?_⟩
 ·subst e;rw[qcu]at hp;have hln:g.length=w1k.length:=by simpa using hln
  exact⟨rfl,by omega,(k81 g).symm,rfl,rfl,knb hp⟩
 ·rw[ix_get _ _ hj];have he:=List.length_eraseIdx (l:=a) (i:=j);rw[qh hj]at he;have he2:=List.length_eraseIdx (l:=b) (i:=j);rw[qh qqo]at he2;refine⟨rfl,rfl,?_,?_,rfl,⟨⟨rfl,rfl⟩,by omega,?_⟩,by(dsimp only;omega)⟩
  ·simp only[qad,qbf];omega
  ·simp only[qad,qbf];unfold maxLen;omega
  ·refine List.Perm.trans ?_ hp;rw[qx];refine List.Perm.append_left g ?_;exact kdy hj
noncomputable def kex:Con TB.den:= .g (gk 66 [.one (.ptr 0 0)] yI (.one (.one (zql)))) yO [.sl yqu,yqi,yqi,yqi,yqi,yqi,yqu,yqi,yqi,yqu,yqi,yqi,.sl yqu,.sl (.st 9),yqu,.sl yqu,.sl yqu,.sl (.st 10),.sl yqu,.sl (.bool)] [] fun(Aa Ab Ad Af Aj Ak Ag Al Ah Ai Am:Int) (Ac:List Int) (Ae:List wA) (Ao:Int) (w1 w3:List Int) (w4:List wG) (w5k:List Int) (w5v:List Bool)=>(w5v=trs w5k/\w5k.length<=1000000,(srt w5k:List Int),Aa,Ab,Ad,Af,Aj,Ak,Ag,Al,Ah,Ai,Am,Ac,Ae,Ao,w1,w3,w4,w5k,w5v,())
theorem kfq:kex.Ok Tryz.prog TB:=prv Bs Tryz.func66 (.r 2 (.rt [.frz 6 [2]])) (kl7.c c0) (Q:=∀(Aa Ab Ad Af Aj Ak Ag Al Ah Ai Am:Int) (Ac:List Int) (Ae:List wA) (Ao:Int) (w1 w3:List Int) (w4:List wG) (w5k:List Int) (w5v:List Bool),(w5v=trs w5k/\w5k.length<=1000000)->∀r0:List Int,srt w5k=r0->∀At:Int,Aa=At->∀Aq:Int,Ab=Aq->∀As:Int,Ad=As->∀Au:Int,Af=Au->∀Bl:Int,Aj=Bl->∀Bm:Int,Ak=Bm->∀Bn:Int,Ag=Bn->∀Bo:Int,Al=Bo->∀Bp:Int,Ah=Bp->∀Bq:Int,Ai=Bq->∀Br:Int,Am=Br->∀A9:List Int,Ac=A9->∀Ba:List wA,Ae=Ba->∀Bt:Int,Ao=Bt->∀e1:List Int,w1=e1->∀e3:List Int,w3=e3->∀e4:List wG,w4=e4->∀e5k:List Int,w5k=e5k->∀e5v:List Bool,w5v=e5v-> 
(w5v=trs w5k/\w5k.length<=1000000)/\lz (srt w5k)/\lz w4/\lz w3/\lz w1/\(srt w5k)=r0/\Aa=At/\Ab=Aq/\Ad=As/\Af=Au/\Aj=Bl/\Ak=Bm/\Ag=Bn/\Al=Bo/\Ah=Bp/\Ai=Bq/\Am=Br/\Ac=A9/\Ae=Ba/\Ao=Bt/\w1=e1/\w3=e3/\w4=e4/\w5k=e5k/\w5v=e5v)<|by rintro Aa Ab Ad Af Aj Ak Ag Al Ah Ai Am Ac Ae Ao w1 w3 w4 w5k w5v h _ rfl _ rfl _ rfl _ rfl _ rfl _ rfl _ rfl _ rfl _ rfl _ rfl _ rfl _ rfl _ rfl _ rfl _ rfl _ rfl _ rfl _ rfl _ rfl _ rfl;exact⟨h,(by repeat' first|apply qaa|exact rfl|exact qq)⟩
noncomputable def ke1:Con TB.den:= .g (gk 65 [.one (.d (.sl yqb)),.one (.row 0)] [.vec yqu] (.one (.one (.d (.sl yqb))))) yK1 yK1 [] fun(p0 w0:List Int)=>(Us w0/\p0.length<=68719476736/\w0.length<=4294967295,(p0++encL w0:List Int),w0,())
theorem kf8:ke1.Ok Tryz.prog TB:=prv Bs Tryz.func65 (.r 1 (.nd [] (.r 0 (.lp [] ⟨[1],[.tip yqb],[5,19],[.one (.own 0),.one (zqi)],[]⟩ .no)) [] .no)) (k1d.c (kw.c (kx.c c0))) (Q:=∀(p0 w0:List Int),(Us w0/\p0.length<=68719476736/\w0.length<=4294967295)->∀r0:List Int,(p0++encL w0)=r0->∀e0:List Int,w0=e0-> 
 let v1:Int:=i64.wrap (4+(i64.wrap (8*(w0.length:Int))))
(0<=v1/\p0.length+v1<=140737488355328)/\(p0=p0)/\((-9223372036854775808<=(w0.length:Int)/\(w0.length:Int)<=9223372036854775807)/\p0.length<=137438953472)/\((p0++dig 4 (len4 (w0.length:Int)))=(p0++dig 4 (len4 (w0.length:Int))))/\∃(I1:Int->(List Int)->Prop) (M1:Int->(List Int)->Nat),I1 0 (p0++dig 4 (len4 (w0.length:Int)))/\∀b1 f1,(I1 b1 f1->
(decide (b1<(w0.length:Int))=true->
(0<=b1/\b1<(w0.length:Int))/\(0<=b1/\b1<(w0.length:Int))/\(f1=f1)/\(U64 (ix w0 b1)/\(0<=(8:Int)/\(8:Int)<=8)/\f1.length<=137438953472)/\((f1++dig (8:Int).toNat (ix w0 b1))=(f1++dig (8:Int).toNat (ix w0 b1)))/\I1 (i64.wrap (b1+1)) (f1++dig (8:Int).toNat (ix w0 b1))/\M1 (i64.wrap (b1+1)) (f1++dig (8:Int).toNat (ix w0 b1))<M1 b1 f1)/\
(decide (b1<(w0.length:Int))=false->
 f1=r0/\w0=e0)))<|by
 rintro p0 w0 h _ rfl _ rfl;obtain⟨h1,h2,h3⟩:=h;refine ?_;rw[wi (8*(w0.length:Int)) qqo qqo,wi (4+8*(w0.length:Int)) qqo qqo];refine⟨⟨by omega,by omega⟩,rfl,⟨by omega,by omega⟩,rfl,?_⟩;refine⟨(fun i g=>0<=i/\i<=w0.length/\g=p0++dig 4 (len4 w0.length)++(w0.take i.toNat).flatMap (dig 8)),(fun i _=>(w0.length-i).toNat),⟨by omega,by omega,by simp⟩,?_⟩;rintro i g ⟨g0,g1,rfl⟩;refine⟨fun h=> ?_,fun h=> ?_⟩
 ·have h:=qb h;have hx:=h1 _ (ix_mem w0 i g0 h);rw[inc i w0.length g0 h qqo];refine⟨⟨g0,h⟩,⟨g0,h⟩,rfl,⟨hx,by omega,?_⟩,rfl,⟨by omega,by omega,?_⟩,by(dsimp only;omega)⟩
  ·simp only[qj,ke,k1p,qo];omega
  ·rw[kg w0 i g0 h,qbh,qx];simp
 ·have h:=qc h;rw[qu qqo,qx];exact⟨rfl,rfl⟩
noncomputable def kb1:Con TB.den:= .g (gk 65 [.one (.d (.sl yqb)),.one (.view 0)] [.vec yqu] (.one (.one (.d (.sl yqb))))) [.sl yqb,yqi,yqi,.sl yqu] yK1 [] fun(p0:List Int) (p1o p1n:Int) (w0:List Int)=>(Us ((w0.drop p1o.toNat).take p1n.toNat)/\p0.length<=68719476736/\w0.length<=4294967295/\p1o.toNat+p1n.toNat<=w0.length,(p0++encL ((w0.drop p1o.toNat).take p1n.toNat):List Int),w0,())
theorem kcn:kb1.Ok Tryz.prog TB:=prv Bs Tryz.func65 (.r 1 (.nd [] (.r 0 (.lp [] ⟨[1],[.tip yqb],[5,19],[.one (.own 0),.one (zqi)],[]⟩ .no)) [] .no)) (k1d.c (kw.c (kx.c c0))) (Q:=∀(p0:List Int) (p1o p1n:Int) (w0:List Int),(Us ((w0.drop p1o.toNat).take p1n.toNat)/\p0.length<=68719476736/\w0.length<=4294967295/\p1o.toNat+p1n.toNat<=w0.length)->∀r0:List Int,(p0++encL ((w0.drop p1o.toNat).take p1n.toNat))=r0->∀e0:List Int,w0=e0-> 
 let v1:Int:=i64.wrap (4+(i64.wrap (8*(p1n.toNat:Int))))
(0<=v1/\p0.length+v1<=140737488355328)/\(p0=p0)/\((-9223372036854775808<=(p1n.toNat:Int)/\(p1n.toNat:Int)<=9223372036854775807)/\p0.length<=137438953472)/\((p0++dig 4 (len4 (p1n.toNat:Int)))=(p0++dig 4 (len4 (p1n.toNat:Int))))/\∃(I1:Int->(List Int)->Prop) (M1:Int->(List Int)->Nat),I1 0 (p0++dig 4 (len4 (p1n.toNat:Int)))/\∀b1 f1,(I1 b1 f1->
(decide (b1<(p1n.toNat:Int))=true->
(0<=b1/\b1<(p1n.toNat:Int))/\(0<=((p1o.toNat:Int)+b1)/\((p1o.toNat:Int)+b1)<(w0.length:Int))/\(f1=f1)/\(U64 (ix w0 ((p1o.toNat:Int)+b1))/\(0<=(8:Int)/\(8:Int)<=8)/\f1.length<=137438953472)/\let r2:List Int:=(f1++dig (8:Int).toNat (ix w0 ((p1o.toNat:Int)+b1)))
(r2=r2)/\I1 (i64.wrap (b1+1)) r2/\M1 (i64.wrap (b1+1)) r2<M1 b1 f1)/\
(decide (b1<(p1n.toNat:Int))=false->
 f1=r0/\w0=e0)))<|by
 rintro p0 p1o p1n w0 h _ rfl _ rfl;obtain⟨h1,h2,h3,h4⟩:=h;have hl:((w0.drop p1o.toNat).take p1n.toNat).length=p1n.toNat:=by rw[qo,qan];omega
 have hix:∀i:Nat,i<p1n.toNat->ix w0 ((p1o.toNat:Int)+i)=ix ((w0.drop p1o.toNat).take p1n.toNat) (i:Int):=by intro i hi;rw[show((p1o.toNat:Int)+i)=((p1o.toNat+i:Nat):Int)by omega,ix_get _ _ qqo,ix_get _ _ qqo,List.getElem_take,List.getElem_drop]
 generalize ((w0.drop p1o.toNat).take p1n.toNat)=w at *
 refine ?_;rw[wi (8*(p1n.toNat:Int)) qqo qqo,wi (4+8*(p1n.toNat:Int)) qqo qqo];refine⟨⟨by omega,by omega⟩,rfl,⟨by omega,by omega⟩,rfl,?_⟩;refine⟨(fun i g=>∃k:Nat,i=(k:Int)/\k<=w.length/\g=p0++dig 4 (len4 w.length)++(w.take k).flatMap (dig 8)),(fun i _=>(w.length-i).toNat),⟨0,rfl,by omega,by rw[hl];simp⟩,?_⟩;rintro _ _ ⟨k,rfl,g1,rfl⟩;refine⟨fun h=> ?_,fun h=> ?_⟩
 ·have h:k<w.length:=by have:=qb h;omega
  have hx:=h1 _ (ix_mem w (k:Int) qqo qqo);rw[inc_i64 _ qqo,hix k qqo];refine⟨⟨by omega,by omega⟩,⟨by omega,by omega⟩,rfl,⟨hx,by omega,?_⟩,rfl,⟨k+1,rfl,by omega,?_⟩,by(dsimp only;omega)⟩
  ·simp only[qj,ke,k1p,qo];omega
  ·rw[qai h,qbh,qx,ix_get _ _ h];simp
 ·have h:k=w.length:=by have:=qc h;omega
  rw[qu qqo,qx];exact⟨rfl,rfl⟩
noncomputable def kdc:Con TB.den:= .g (gk 19 [.one (.ptr 0 0)] yI (.one (.one (.d (.sl yqb))))) yO [.sl yqb,yqi,yqi,yqi,yqi,yqi,yqu,yqi,yqi,yqu,yqi,yqi,.sl yqu,.sl (.st 9),yqu,.sl yqu,.sl yqu,.sl (.st 10),.sl yqu,.sl (.bool)] [] fun(Aa Ab Ad Af Aj Ak Ag Al Ah Ai Am:Int) (Ac:List Int) (Ae:List wA) (Ao:Int) (w1 w3:List Int) (w4:List wG) (w5k:List Int) (w5v:List Bool)=>(∃(c:Nat) (f:Int),c<=800/\PI (PS.mk (wB.mk Aa Ab Ad Af Aj Ak Ag Al Ah) (wD.mk Ai Am Ac) Ae Ao w1 w3 w4 w5k w5v) c f,(encM (mOf (PS.mk (wB.mk Aa Ab Ad Af Aj Ak Ag Al Ah) (wD.mk Ai Am Ac) Ae Ao w1 w3 w4 w5k w5v)):List Int),Aa,Ab,Ad,Af,Aj,Ak,Ag,Al,Ah,Ai,Am,Ac,Ae,Ao,w1,w3,w4,w5k,w5v,())
theorem kes:kdc.Ok Tryz.prog TB:=prv Bs Tryz.func19 (.r 4 (.nd [] (.r 0 (.lp [] ⟨[],[],[3,36],[.one (.d (.sl yqb)),.one (zqi)],[]⟩ .no)) [] .no)) (k69.c (kf8.c (kfq.c (k9u.c (k35.c (k4w.c (kcn.c c0))))))) (Q:=∀(Aa Ab Ad Af Aj Ak Ag Al Ah Ai Am:Int) (Ac:List Int) (Ae:List wA) (Ao:Int) (w1 w3:List Int) (w4:List wG) (w5k:List Int) (w5v:List Bool),(∃(c:Nat) (f:Int),c<=800/\PI (PS.mk (wB.mk Aa Ab Ad Af Aj Ak Ag Al Ah) (wD.mk Ai Am Ac) Ae Ao w1 w3 w4 w5k w5v) c f)->∀r0:List Int,(encM (mOf (PS.mk (wB.mk Aa Ab Ad Af Aj Ak Ag Al Ah) (wD.mk Ai Am Ac) Ae Ao w1 w3 w4 w5k w5v)))=r0->∀At:Int,Aa=At->∀Aq:Int,Ab=Aq->∀As:Int,Ad=As->∀Au:Int,Af=Au->∀Bl:Int,Aj=Bl->∀Bm:Int,Ak=Bm->∀Bn:Int,Ag=Bn->∀Bo:Int,Al=Bo->∀Bp:Int,Ah=Bp->∀Bq:Int,Ai=Bq->∀Br:Int,Am=Br->∀A9:List Int,Ac=A9->∀Ba:List wA,Ae=Ba->∀Bt:Int,Ao=Bt->∀e1:List Int,w1=e1->∀e3:List Int,w3=e3->∀e4:List wG,w4=e4->∀e5k:List Int,w5k=e5k->∀e5v:List Bool,w5v=e5v-> 
((-9223372036854775808<=(w4.length:Int)/\(w4.length:Int)<=9223372036854775807)/\([]:List Int).length<=137438953472)/\let r1:List Int:=(([]:List Int)++dig 4 (len4 (w4.length:Int)))
 lz w1/\(Us w1/\r1.length<=68719476736/\w1.length<=4294967295)/\lz w4/\lz w3/\lz w1/\(w5v=trs w5k/\w5k.length<=1000000)/\(Us (srt w5k)/\(r1++encL w1).length<=68719476736/\(srt w5k).length<=4294967295)/\((-9223372036854775808<=(Ae.length:Int)/\(Ae.length:Int)<=9223372036854775807)/\((r1++encL w1)++encL (srt w5k)).length<=137438953472)/\let r2:List Int:=(((r1++encL w1)++encL (srt w5k))++dig 4 (len4 (Ae.length:Int)))
 ∃(I1:(List Int)->Int->Prop) (M1:(List Int)->Int->Nat),I1 r2 0/\∀b1 f1,(I1 b1 f1->
(decide (f1<(Ae.length:Int))=true->
(0<=f1)/\f1<(Ae.length:Int)/\(U64 ((ix Ae f1).ID)/\b1.length<=137438953472)/\(U64 ((ix Ae f1).wY)/\(b1++dig 8 ((ix Ae f1).ID)).length<=137438953472)/\let r3:List Int:=((b1++dig 8 ((ix Ae f1).ID))++dig 8 ((ix Ae f1).wY))
(U64 ((ix Ae f1).wU)/\r3.length<=137438953472)/\I1 (r3++dig 8 ((ix Ae f1).wU)) (i64.wrap (f1+1))/\M1 (r3++dig 8 ((ix Ae f1).wU)) (i64.wrap (f1+1))<M1 b1 f1)/\
(decide (f1<(Ae.length:Int))=false->
(U64 Ao/\b1.length<=137438953472)/\lz w4/\lz w3/\lz w1/\((1<=Ag/\Ag<=100)/\w3.length<=1000000)/\let r4:Int:=((w3.length-(w3.length-Ag.toNat):Nat):Int)
(Us ((w3.drop ((((w3.length-Ag.toNat:Nat):Int).toNat:Nat):Int).toNat).take (r4.toNat:Int).toNat)/\(b1++dig 8 Ao).length<=68719476736/\w3.length<=4294967295/\((((w3.length-Ag.toNat:Nat):Int).toNat:Nat):Int).toNat+(r4.toNat:Int).toNat<=w3.length)/\let r5:List Int:=((b1++dig 8 Ao)++encL ((w3.drop ((((w3.length-Ag.toNat:Nat):Int).toNat:Nat):Int).toNat).take (r4.toNat:Int).toNat))
 lz w4/\lz w3/\lz w1/\r5=r0/\Aa=At/\Ab=Aq/\Ad=As/\Af=Au/\Aj=Bl/\Ak=Bm/\Ag=Bn/\Al=Bo/\Ah=Bp/\Ai=Bq/\Am=Br/\Ac=A9/\Ae=Ba/\Ao=Bt/\w1=e1/\w3=e3/\w4=e4/\w5k=e5k/\w5v=e5v)))<|by
 rintro Aa Ab Ad Af Aj Ak Ag Al Ah Ai Am Ac Ae Ao w1 w3 w4 w5k w5v h _ rfl _ rfl _ rfl _ rfl _ rfl _ rfl _ rfl _ rfl _ rfl _ rfl _ rfl _ rfl _ rfl _ rfl _ rfl _ rfl _ rfl _ rfl _ rfl _ rfl;obtain⟨c,f,hc,hp⟩:=h;have he:=hp.eok hc;have hrl:w3.length=w4.length+1:=hp.rl;have hpl:w4.length<=c:=hp.p;have hll:w1.length<=4096:=he.r.ll;have hkl:w5k.length<=4*c:=hp.kl;have hv:w5v=trs w5k:=hp.v;have hw1:1<=Ag:=hp.w1;have hw2:Ag<=100:=hp.w2;have hal:Ae.length<=999:=he.r.al;have hok:OkA Ae:=he.r.a;have hn:U64 Ao:=he.r.n;have hul:Us w1:=BG.us hp.l;have huk:Us (srt w5k):=BG.us he.k;have hua:Us (ancL w3 Ag):=anc_us hp.r;have hsl:=k81 w5k;have hmin:=anc_len w3 Ag;have eA:(w3.drop (w3.length-Ag.toNat)).take (w3.length-(w3.length-Ag.toNat))=ancL w3 Ag:=by unfold ancL;exact qu (by rw[qan];omega)
 refine⟨⟨⟨by omega,by omega⟩,qbg _⟩,rfl,⟨hul,by simp only[qcc,ke];omega,by omega⟩,rfl,rfl,rfl,⟨hv,by omega⟩,⟨huk,?_,by omega⟩,⟨⟨by omega,by omega⟩,?_⟩,?_⟩
 ·simp only[qcc,qj,ke,k16];omega
 ·simp only[qcc,qj,ke,k16];omega
 rw[qcc];refine⟨fun g a=>∃i:Nat,a=(i:Int)/\i<=Ae.length/\g=dig 4 (len4 (w4.length:Int))++encL w1++encL (srt w5k)++dig 4 (len4 (Ae.length:Int))++(Ae.take i).flatMap encA,fun _ a=>(Ae.length-a).toNat,⟨0,rfl,by omega,by simp⟩,?_⟩;rintro _ _ ⟨i,rfl,hi,rfl⟩;have hlen:(dig 4 (len4 (w4.length:Int))++encL w1++encL (srt w5k)++dig 4 (len4 (Ae.length:Int))++(Ae.take i).flatMap encA).length<=1000000:=by simp only[qj,ke,k16,kbi,qo];omega
 refine⟨fun e=> ?_,fun e=> ?_⟩
 ·have e:i<Ae.length:=by have:=qb e;omega
  obtain⟨u1,u2,u3⟩:=acc_u hok (qak e);rw[ix_get _ _ e,inc_i64 _ qqo];refine⟨by omega,by omega,⟨u1,by omega⟩,⟨u2,?_⟩,⟨u3,?_⟩,⟨i+1,rfl,by omega,kon e _⟩,by(dsimp only;omega)⟩
  ·rw[qj,ke];omega
  ·rw[qj,qj,ke,ke];omega
 ·have e:i=Ae.length:=by have:=qc e;omega
  subst e;rw[qcn]at hlen ⊢;simp only[qr,eA];refine⟨⟨hn,by omega⟩,by trivial,by trivial,by trivial,⟨⟨hw1,hw2⟩,by omega⟩,⟨hua,?_,by omega,by omega⟩,by trivial,by trivial,by trivial,rfl,(by repeat' first|apply qaa|exact rfl|exact qq)⟩;rw[qj,ke];omega
noncomputable def kcw:Con TB.den:= .t (gk 26 [.one (.ptr 0 0)] yI (.one (.one (zqi)))) yO yL [] fun(Aa Ab Ad Af Aj Ak Ag Al Ah Ai Am:Int) (Ac:List Int) (Ae:List wA) (Ao:Int) (w1 w3:List Int) (w4:List wG) (w5k:List Int) (w5v:List Bool)=>((w4.length:Int),Aa,Ab,Ad,Af,Aj,Ak,Ag,Al,Ah,Ai,Am,Ac,Ae,Ao,w1,w3,w4,w5k,w5v,())
theorem k5j:kcw.Ok Tryz.prog TB:=ptv Bs Tryz.func26 .no c0 (Q:=∀(Aa Ab Ad Af Aj Ak Ag Al Ah Ai Am:Int) (Ac:List Int) (Ae:List wA) (Ao:Int) (w1 w3:List Int) (w4:List wG) (w5k:List Int) (w5v:List Bool),∀r0:Int,(w4.length:Int)=r0->∀At:Int,Aa=At->∀Aq:Int,Ab=Aq->∀As:Int,Ad=As->∀Au:Int,Af=Au->∀Bl:Int,Aj=Bl->∀Bm:Int,Ak=Bm->∀Bn:Int,Ag=Bn->∀Bo:Int,Al=Bo->∀Bp:Int,Ah=Bp->∀Bq:Int,Ai=Bq->∀Br:Int,Am=Br->∀A9:List Int,Ac=A9->∀Ba:List wA,Ae=Ba->∀Bt:Int,Ao=Bt->∀e1:List Int,w1=e1->∀e3:List Int,w3=e3->∀e4:List wG,w4=e4->∀e5k:List Int,w5k=e5k->∀e5v:List Bool,w5v=e5v-> 
 lz w4/\lz w3/\lz w1/\(w4.length:Int)=r0/\Aa=At/\Ab=Aq/\Ad=As/\Af=Au/\Aj=Bl/\Ak=Bm/\Ag=Bn/\Al=Bo/\Ah=Bp/\Ai=Bq/\Am=Br/\Ac=A9/\Ae=Ba/\Ao=Bt/\w1=e1/\w3=e3/\w4=e4/\w5k=e5k/\w5v=e5v)<|by rintro Aa Ab Ad Af Aj Ak Ag Al Ah Ai Am Ac Ae Ao w1 w3 w4 w5k w5v _ rfl _ rfl _ rfl _ rfl _ rfl _ rfl _ rfl _ rfl _ rfl _ rfl _ rfl _ rfl _ rfl _ rfl _ rfl _ rfl _ rfl _ rfl _ rfl _ rfl;exact(by repeat' first|apply qaa|exact rfl|exact qq)
noncomputable def kcl:Con TB.den:= .t (gk 25 [.one (.ptr 0 0)] yI (.one (.one (zqu)))) yO [yqu,yqi,yqi,yqi,yqi,yqi,yqu,yqi,yqi,yqu,yqi,yqi,.sl yqu,.sl (.st 9),yqu,.sl yqu,.sl yqu,.sl (.st 10),.sl yqu,.sl (.bool)] [] fun(Aa Ab Ad Af Aj Ak Ag Al Ah Ai Am:Int) (Ac:List Int) (Ae:List wA) (Ao:Int) (w1 w3:List Int) (w4:List wG) (w5k:List Int) (w5v:List Bool)=>(Ao,Aa,Ab,Ad,Af,Aj,Ak,Ag,Al,Ah,Ai,Am,Ac,Ae,Ao,w1,w3,w4,w5k,w5v,())
theorem kdm:kcl.Ok Tryz.prog TB:=ptv Bs Tryz.func25 .no c0 (Q:=∀(Aa Ab Ad Af Aj Ak Ag Al Ah Ai Am:Int) (Ac:List Int) (Ae:List wA) (Ao:Int) (w1 w3:List Int) (w4:List wG) (w5k:List Int) (w5v:List Bool),∀r0:Int,Ao=r0->∀At:Int,Aa=At->∀Aq:Int,Ab=Aq->∀As:Int,Ad=As->∀Au:Int,Af=Au->∀Bl:Int,Aj=Bl->∀Bm:Int,Ak=Bm->∀Bn:Int,Ag=Bn->∀Bo:Int,Al=Bo->∀Bp:Int,Ah=Bp->∀Bq:Int,Ai=Bq->∀Br:Int,Am=Br->∀A9:List Int,Ac=A9->∀Ba:List wA,Ae=Ba->∀Bt:Int,Ao=Bt->∀e1:List Int,w1=e1->∀e3:List Int,w3=e3->∀e4:List wG,w4=e4->∀e5k:List Int,w5k=e5k->∀e5v:List Bool,w5v=e5v-> 
 lz w4/\lz w3/\lz w1/\Ao=r0/\Aa=At/\Ab=Aq/\Ad=As/\Af=Au/\Aj=Bl/\Ak=Bm/\Ag=Bn/\Al=Bo/\Ah=Bp/\Ai=Bq/\Am=Br/\Ac=A9/\Ae=Ba/\Ao=Bt/\w1=e1/\w3=e3/\w4=e4/\w5k=e5k/\w5v=e5v)<|by rintro Aa Ab Ad Af Aj Ak Ag Al Ah Ai Am Ac Ae Ao w1 w3 w4 w5k w5v _ rfl _ rfl _ rfl _ rfl _ rfl _ rfl _ rfl _ rfl _ rfl _ rfl _ rfl _ rfl _ rfl _ rfl _ rfl _ rfl _ rfl _ rfl _ rfl _ rfl;exact(by repeat' first|apply qaa|exact rfl|exact qq)
noncomputable def k52:Con TB.den:= .gp 75 [.sl (.st 9)] [.sl (.st 9)] [] fun(p0:List wA)=>(p0.length<=100000,p0,())
theorem k5g:k52.Ok Tryz.prog TB:=qrv Bs Tryz.func75 .no c0 (Q:=∀(p0:List wA),(p0.length<=100000)->∀r0:List wA,p0=r0-> 
 ∀z4:Bool,(z4=true->p0=[])->(z4=true->
([]:List wA)=r0)/\
(z4=false->
(([]:List wA).length+p0.length)*24<=140737488355328/\([]:List wA).length+p0.length<=maxLen/\([]:List wA)++p0=r0))<|by rintro p0 h _ rfl;exact fun z hz=>⟨fun h=>(hz h).symm,fun _=>⟨by simp;omega,by simp;unfold maxLen;omega,rfl⟩⟩
noncomputable def kbt:Con TB.den:= .g (gk 24 [.one (.ptr 0 0)] yI (.one (.agg [.d (.sl (.st 9))]))) yO [.st 17,yqi,yqi,yqi,yqi,yqi,yqu,yqi,yqi,yqu,yqi,yqi,.sl yqu,.sl (.st 9),yqu,.sl yqu,.sl yqu,.sl (.st 10),.sl yqu,.sl (.bool)] [] fun(Aa Ab Ad Af Aj Ak Ag Al Ah Ai Am:Int) (Ac:List Int) (Ae:List wA) (Ao:Int) (w1 w3:List Int) (w4:List wG) (w5k:List Int) (w5v:List Bool)=>(Ae.length<=100000,(wl.mk Ae:wl),Aa,Ab,Ad,Af,Aj,Ak,Ag,Al,Ah,Ai,Am,Ac,Ae,Ao,w1,w3,w4,w5k,w5v,())
theorem k5i:kbt.Ok Tryz.prog TB:=prv Bs Tryz.func24 .no (k5g.c c0) (Q:=∀(Aa Ab Ad Af Aj Ak Ag Al Ah Ai Am:Int) (Ac:List Int) (Ae:List wA) (Ao:Int) (w1 w3:List Int) (w4:List wG) (w5k:List Int) (w5v:List Bool),(Ae.length<=100000)->∀r0:wl,wl.mk Ae=r0->∀At:Int,Aa=At->∀Aq:Int,Ab=Aq->∀As:Int,Ad=As->∀Au:Int,Af=Au->∀Bl:Int,Aj=Bl->∀Bm:Int,Ak=Bm->∀Bn:Int,Ag=Bn->∀Bo:Int,Al=Bo->∀Bp:Int,Ah=Bp->∀Bq:Int,Ai=Bq->∀Br:Int,Am=Br->∀A9:List Int,Ac=A9->∀Ba:List wA,Ae=Ba->∀Bt:Int,Ao=Bt->∀e1:List Int,w1=e1->∀e3:List Int,w3=e3->∀e4:List wG,w4=e4->∀e5k:List Int,w5k=e5k->∀e5v:List Bool,w5v=e5v-> 
(Ae.length<=100000)/\lz w4/\lz w3/\lz w1/\Ae=r0.wF/\Aa=At/\Ab=Aq/\Ad=As/\Af=Au/\Aj=Bl/\Ak=Bm/\Ag=Bn/\Al=Bo/\Ah=Bp/\Ai=Bq/\Am=Br/\Ac=A9/\Ae=Ba/\Ao=Bt/\w1=e1/\w3=e3/\w4=e4/\w5k=e5k/\w5v=e5v)<|by rintro Aa Ab Ad Af Aj Ak Ag Al Ah Ai Am Ac Ae Ao w1 w3 w4 w5k w5v h _ rfl _ rfl _ rfl _ rfl _ rfl _ rfl _ rfl _ rfl _ rfl _ rfl _ rfl _ rfl _ rfl _ rfl _ rfl _ rfl _ rfl _ rfl _ rfl _ rfl;exact⟨h,(by repeat' first|apply qaa|exact rfl|exact qq)⟩
noncomputable def kcb:Con TB.den:= .gp 69 [yqi] [.st 6] [] fun(p0:Int)=>(1<=p0/\p0<=12,(frF p0 []:wD),())
theorem k5v:kcb.Ok Tryz.prog TB:=qrv Bs Tryz.func69 (.r 0 (.nd [] (.jn ⟨[],[],[8],[.one (.d (.bool))],[]⟩ [] .no [] .no) [] (.r 0 (.rt [.frzc 1 0 2])))) c0 (Q:=∀(p0:Int),(1<=p0/\p0<=12)->∀r0:wD,(frF p0 [])=r0-> 
 ∀J1:Bool->Prop,(∀(b1:Bool),
((b1=true->
 0=r0.wC/\0=r0.wZ/\([]:List Int)=r0.wc)/\
(b1=false->
 0<=i64.wrap (p0+1)/\i64.wrap (p0+1)<=i64.wrap (p0+1)/\((i64.wrap (p0+1)).toNat*8<=140737488355328)/\((i64.wrap (p0+1)).toNat<=maxLen)/\((i64.wrap (p0+1)).toNat=(List.replicate ((i64.wrap (p0+1)).toNat) (0:Int)).length)/\p0=r0.wC/\0=r0.wZ/\List.replicate ((i64.wrap (p0+1)).toNat) (0:Int)=r0.wc))->J1 b1)->
(decide (p0<1)=true->
 J1 true)/\
(decide (p0<1)=false->
 J1 (decide (12<p0))))<|by
 rintro p0 h _ rfl;refine fun J1 j=>⟨fun e=>(by have:=qb e;omega),fun e=> ?_⟩;refine j _ ⟨fun e=>(by have:=qb e;omega),fun _=> ?_⟩;obtain⟨d,rfl⟩:=qn (show 0<=p0 by omega);rw[kp _ qqo qqo];have e2:((d:Int)+1).toNat=d+1:=by omega
 rw[e2];refine⟨by omega,by omega,by omega,by unfold maxLen;omega,by simp,rfl,rfl,?_⟩;show _=leftS (d:Int).toNat [];rw[qr];refine(List.eq_replicate_iff.2 ⟨k1q _ _,fun x hx=> ?_⟩).symm;obtain⟨i,hi,rfl⟩:=qag.1 hx;have:bitN ([]:List Int).length i=false:=by simp[bitN]
 rw[qe (by rw[this];decide)]
noncomputable def kdo:Con TB.den:= .t ⟨70,[],[],(.one (.one (.ptr 0 0))),yD1,false⟩ [] [.sl yqu,.sl (.bool)] [] (([]:List Int),([]:List Bool),())
theorem k6o:kdo.Ok Tryz.prog TB:=ptv Bs Tryz.func70 .no c0 (Q:=∀e1k:List Int,([]:List Int)=e1k->∀e1v:List Bool,([]:List Bool)=e1v-> 
([]:List Int)=e1k/\([]:List Bool)=e1v)<|by rintro _ rfl _ rfl;exact⟨rfl,rfl⟩
noncomputable def kjq:Con TB.den:= .g ⟨20,[.agg yC1],[],(.tup [.one (.ptr 0 0),.one (zqi)]),yI,true⟩ [.st 0] yL [] fun(p0:wB)=>(rulesE p0=0,(0:Int),((newS p0).R.wX:Int),((newS p0).R.wC:Int),((newS p0).R.wN:Int),((newS p0).R.wM:Int),((newS p0).R.wJ:Int),((newS p0).R.wS:Int),((newS p0).R.wV:Int),((newS p0).R.wO:Int),((newS p0).R.wR:Int),((newS p0).F.wC:Int),((newS p0).F.wZ:Int),((newS p0).F.wc:List Int),((newS p0).b:List wA),((newS p0).n:Int),((newS p0).l:List Int),((newS p0).r:List Int),((newS p0).p:List wG),((newS p0).k:List Int),((newS p0).v:List Bool),())
theorem k67:kjq.Ok Tryz.prog TB:=prx Bs [19] Tryz.func20 (.r 3 (.rt [.rnilc 114 12 yqu,.rnilc 114 17 (.st 10)])) x0 (k1h.c (k5v.c (k6o.c (k2f.c c0)))) (Q:=∀(p0:wB),(rulesE p0=0)->∀r1:Int,(0:Int)=r1->∀At:Int,((newS p0).R.wX)=At->∀Aq:Int,((newS p0).R.wC)=Aq->∀As:Int,((newS p0).R.wN)=As->∀Au:Int,((newS p0).R.wM)=Au->∀Bl:Int,((newS p0).R.wJ)=Bl->∀Bm:Int,((newS p0).R.wS)=Bm->∀Bn:Int,((newS p0).R.wV)=Bn->∀Bo:Int,((newS p0).R.wO)=Bo->∀Bp:Int,((newS p0).R.wR)=Bp->∀Bq:Int,((newS p0).F.wC)=Bq->∀Br:Int,((newS p0).F.wZ)=Br->∀A9:List Int,((newS p0).F.wc)=A9->∀Ba:List wA,((newS p0).b)=Ba->∀Bt:Int,((newS p0).n)=Bt->∀e1:List Int,((newS p0).l)=e1->∀e3:List Int,((newS p0).r)=e3->∀e4:List wG,((newS p0).p)=e4->∀e5k:List Int,((newS p0).k)=e5k->∀e5v:List Bool,((newS p0).v)=e5v-> 
(((rulesE p0) !=0)=true->
 False)/\
(((rulesE p0) !=0)=false->
(1<=p0.wC/\p0.wC<=12)/\(FV (frF p0.wC []))/\(0=([]:List wG).length)/\lz [(rootF (frF p0.wC []))]/\(0=([]:List Int).length)/\0=r1/\p0.wX=At/\p0.wC=Aq/\p0.wN=As/\p0.wM=Au/\p0.wJ=Bl/\p0.wS=Bm/\p0.wV=Bn/\p0.wO=Bo/\p0.wR=Bp/\(frF p0.wC []).wC=Bq/\(frF p0.wC []).wZ=Br/\(frF p0.wC []).wc=A9/\([]:List wA)=Ba/\0=Bt/\([]:List Int)=e1/\[(rootF (frF p0.wC []))]=e3/\([]:List wG)=e4/\[]=e5k/\[]=e5v))<|by
 rintro p0 h _ rfl _ rfl _ rfl _ rfl _ rfl _ rfl _ rfl _ rfl _ rfl _ rfl _ rfl _ rfl _ rfl _ rfl _ rfl _ rfl _ rfl _ rfl _ rfl _ rfl
 have hb:rulesB p0=true:=by
  cases hb:rulesB p0 with
  |true=>rfl
  |false=>unfold rulesE at h;rw[hb]at h;cases h
 have hd:1<=p0.wC/\p0.wC<=12:=by simp only[rulesB,qg,qaf]at hb;omega
 exact⟨fun e=>(by rw[h]at e;cases e),fun _=>⟨hd,frF_FV hd.1 hd.2 (qbg _) (fun x hx=>by cases hx),rfl,rfl,rfl,rfl,rfl,rfl,rfl,rfl,rfl,rfl,rfl,rfl,rfl,rfl,rfl,rfl,rfl,rfl,rfl,rfl,rfl,rfl,rfl⟩⟩
noncomputable def kdq:Con TB.den:= .g (gk 20 [.agg yC1] [] (.tup [.one (.k .nilPtr),.one (zqi)])) [.st 0] [yqi] [] fun(p0:wB)=>(rulesE p0≠0,(rulesE p0:Int),())
theorem k3g:kdq.Ok Tryz.prog TB:=prx Bs [19] Tryz.func20 (.r 3 (.rt [.rnilc 114 12 yqu,.rnilc 114 17 (.st 10)])) x0 (k1h.c (k5v.c (k6o.c (k2f.c c0)))) (Q:=∀(p0:wB),(rulesE p0≠0)->∀r1:Int,rulesE p0=r1-> 
(((rulesE p0) !=0)=true->
(rulesE p0)=r1)/\
(((rulesE p0) !=0)=false->
(1<=p0.wC/\p0.wC<=12)/\(FV (frF p0.wC []))/\False))<|by rintro p0 h _ rfl;exact⟨fun _=>rfl,fun e=>(h (by simpa using e)).elim⟩
noncomputable def khs:Con TB.den:= .g ⟨11,[.one (.ptr 0 0),.agg yC1],yM,(.tup [.one (.ptr 4 0),.one (zqi)]),[.cells [.d (.bool),zqu,zqi,.d (.sl (.st 4)),.mp 1,.mp 2,.mp 3],.map (.str) yqi,.map (.str) (.sl yqu),.map (.str) (.bool),.cells [.ptr 0 0,zqi,zqi,zqi,zqi,zqi,zqu,zqi,zqi,zqu,.mp 5,zql,.ptr 6 0,zqu,zqi],.map yqu (.st 11),.cells yQ,.vec yqu,.cells [.mp 11],.vec yqu,.vec (.st 10),.map yqu (.bool)],true⟩ yS (.int .i64:: .bool:: .int .u64:: .int .i64:: .sl (.st 4):: .int .i64:: .int .i64:: .int .i64:: .int .i64:: .int .i64:: .int .u64:: .int .i64:: .int .i64:: .int .u64::[.sl yqu,yqu,yqi,yqi,yqi,yqi,yqi,yqi,yqu,yqi,yqi,yqu,yqi,yqi,.sl yqu,.sl (.st 9),yqu,.sl (.str),.sl yqi,.sl (.str),.sl (.sl yqu),.sl (.str),.sl (.bool),.sl yqu,.sl (.st 11),.sl yqu,.sl yqu,.sl (.st 10),.sl yqu,.sl (.bool)]) [] fun(p1:wB) (Aa:Bool) (Ab Ad:Int) (Af:List wH) (w1k:List ByteArray) (w1v:List Int) (w2k:List ByteArray) (w2v:List (List Int)) (w3k:List ByteArray) (w3v:List Bool)=>(rulesE p1=0/\p1.wX=2/\Aa=false,(0:Int),Aa,Ab,Ad,Af,p1.wX,p1.wC,p1.wN,p1.wM,p1.wJ,p1.wS,p1.wV,p1.wO,p1.wR,(([]:List Int):List Int),(0:Int),(0:Int),((newS p1).R.wX:Int),((newS p1).R.wC:Int),((newS p1).R.wN:Int),((newS p1).R.wM:Int),((newS p1).R.wJ:Int),((newS p1).R.wS:Int),((newS p1).R.wV:Int),((newS p1).R.wO:Int),((newS p1).R.wR:Int),((newS p1).F.wC:Int),((newS p1).F.wZ:Int),((newS p1).F.wc:List Int),((newS p1).b:List wA),((newS p1).n:Int),w1k,w1v,w2k,w2v,w3k,w3v,(([]:List Int):List Int),(([]:List wK):List wK),((newS p1).l:List Int),((newS p1).r:List Int),((newS p1).p:List wG),((newS p1).k:List Int),((newS p1).v:List Bool),())
theorem k9i:khs.Ok Tryz.prog TB:=prv Bs Tryz.func11 .no (k1h.c (k2a.c (k67.c (k3g.c c0)))) (Q:=∀(p1:wB) (Aa:Bool) (Ab Ad:Int) (Af:List wH) (w1k:List ByteArray) (w1v:List Int) (w2k:List ByteArray) (w2v:List (List Int)) (w3k:List ByteArray) (w3v:List Bool),(rulesE p1=0/\p1.wX=2/\Aa=false)->∀r1:Int,(0:Int)=r1->∀At:Bool,Aa=At->∀Aq:Int,Ab=Aq->∀As:Int,Ad=As->∀Au:List wH,Af=Au->∀d4_1:Int,p1.wX=d4_1->∀d4_2:Int,p1.wC=d4_2->∀d4_3:Int,p1.wN=d4_3->∀d4_4:Int,p1.wM=d4_4->∀d4_5:Int,p1.wJ=d4_5->∀d4_6:Int,p1.wS=d4_6->∀d4_7:Int,p1.wV=d4_7->∀d4_8:Int,p1.wO=d4_8->∀d4_9:Int,p1.wR=d4_9->∀d4_11:List Int,(([]:List Int):List Int)=d4_11->∀d4_13:Int,(0:Int)=d4_13->∀d4_14:Int,(0:Int)=d4_14->∀d6_0:Int,((newS p1).R.wX)=d6_0->∀d6_1:Int,((newS p1).R.wC)=d6_1->∀d6_2:Int,((newS p1).R.wN)=d6_2->∀d6_3:Int,((newS p1).R.wM)=d6_3->∀d6_4:Int,((newS p1).R.wJ)=d6_4->∀d6_5:Int,((newS p1).R.wS)=d6_5->∀d6_6:Int,((newS p1).R.wV)=d6_6->∀d6_7:Int,((newS p1).R.wO)=d6_7->∀d6_8:Int,((newS p1).R.wR)=d6_8->∀d6_9:Int,((newS p1).F.wC)=d6_9->∀d6_10:Int,((newS p1).F.wZ)=d6_10->∀d6_11:List Int,((newS p1).F.wc)=d6_11->∀d6_14:List wA,((newS p1).b)=d6_14->∀d6_15:Int,((newS p1).n)=d6_15->∀e1k:List ByteArray,w1k=e1k->∀e1v:List Int,w1v=e1v->∀e2k:List ByteArray,w2k=e2k->∀e2v:List (List Int),w2v=e2v->∀e3k:List ByteArray,w3k=e3k->∀e3v:List Bool,w3v=e3v->∀e5k:List Int,(([]:List Int):List Int)=e5k->∀e5v:List wK,(([]:List wK):List wK)=e5v->∀e7:List Int,((newS p1).l)=e7->∀e9:List Int,((newS p1).r)=e9->∀e10:List wG,((newS p1).p)=e10->∀e11k:List Int,((newS p1).k)=e11k->∀e11v:List Bool,((newS p1).v)=e11v-> 
(((rulesE p1) !=0)=true->
 False)/\
(((rulesE p1) !=0)=false->
((!(Aa==(p1.wX==3)))=true->
 False)/\
((!(Aa==(p1.wX==3)))=false->
((rulesE p1=0)/\(((0:Int) !=0)=true->
 False)/\
(((0:Int) !=0)=false->
 lz ((newS p1).p)/\lz ((newS p1).r)/\lz ((newS p1).l)/\0=r1/\Aa=At/\Ab=Aq/\Ad=As/\Af=Au/\p1.wX=d4_1/\p1.wC=d4_2/\p1.wN=d4_3/\p1.wM=d4_4/\p1.wJ=d4_5/\p1.wS=d4_6/\p1.wV=d4_7/\p1.wO=d4_8/\p1.wR=d4_9/\([]:List Int)=d4_11/\0=d4_13/\0=d4_14/\((newS p1).R.wX)=d6_0/\((newS p1).R.wC)=d6_1/\((newS p1).R.wN)=d6_2/\((newS p1).R.wM)=d6_3/\((newS p1).R.wJ)=d6_4/\((newS p1).R.wS)=d6_5/\((newS p1).R.wV)=d6_6/\((newS p1).R.wO)=d6_7/\((newS p1).R.wR)=d6_8/\((newS p1).F.wC)=d6_9/\((newS p1).F.wZ)=d6_10/\((newS p1).F.wc)=d6_11/\((newS p1).b)=d6_14/\((newS p1).n)=d6_15/\w1k=e1k/\w1v=e1v/\w2k=e2k/\w2v=e2v/\w3k=e3k/\w3v=e3v/\([]:List Int)=e5k/\([]:List wK)=e5v/\((newS p1).l)=e7/\((newS p1).r)=e9/\((newS p1).p)=e10/\((newS p1).k)=e11k/\((newS p1).v)=e11v))∨((rulesE p1≠0)/\(((rulesE p1) !=0)=true->
 False)/\
(((rulesE p1) !=0)=false->
 False)))))<|by rintro p1 Aa Ab Ad Af w1k w1v w2k w2v w3k w3v h _ rfl _ rfl _ rfl _ rfl _ rfl _ rfl _ rfl _ rfl _ rfl _ rfl _ rfl _ rfl _ rfl _ rfl _ rfl _ rfl _ rfl _ rfl _ rfl _ rfl _ rfl _ rfl _ rfl _ rfl _ rfl _ rfl _ rfl _ rfl _ rfl _ rfl _ rfl _ rfl _ rfl _ rfl _ rfl _ rfl _ rfl _ rfl _ rfl _ rfl _ rfl _ rfl _ rfl _ rfl;obtain⟨h1,h2,rfl⟩:=h;refine⟨fun e=>(by simp[h1]at e),fun _=>⟨fun e=>(by simp[h2]at e),fun _=> .inl ⟨h1,fun e=>(by cases e),fun _=> ?_⟩⟩⟩;exact(by repeat' first|apply qaa|exact rfl|exact qq)
noncomputable def kd9:Con TB.den:= .g (gk 11 [.one (.ptr 0 0),.agg yC1] yM (.tup [.one (.k .nilPtr),.one (zqi)])) yS yT [] fun(p1:wB) (Aa:Bool) (Ab Ad:Int) (Af:List wH) (w1k:List ByteArray) (w1v:List Int) (w2k:List ByteArray) (w2v:List (List Int)) (w3k:List ByteArray) (w3v:List Bool)=>(rulesE p1≠0,(rulesE p1:Int),Aa,Ab,Ad,Af,w1k,w1v,w2k,w2v,w3k,w3v,())
theorem k5l:kd9.Ok Tryz.prog TB:=prv Bs Tryz.func11 .no (k1h.c (k2a.c (k67.c (k3g.c c0)))) (Q:=∀(p1:wB) (Aa:Bool) (Ab Ad:Int) (Af:List wH) (w1k:List ByteArray) (w1v:List Int) (w2k:List ByteArray) (w2v:List (List Int)) (w3k:List ByteArray) (w3v:List Bool),(rulesE p1≠0)->∀r1:Int,rulesE p1=r1->∀At:Bool,Aa=At->∀Aq:Int,Ab=Aq->∀As:Int,Ad=As->∀Au:List wH,Af=Au->∀e1k:List ByteArray,w1k=e1k->∀e1v:List Int,w1v=e1v->∀e2k:List ByteArray,w2k=e2k->∀e2v:List (List Int),w2v=e2v->∀e3k:List ByteArray,w3k=e3k->∀e3v:List Bool,w3v=e3v-> 
(((rulesE p1) !=0)=true->
(rulesE p1)=r1/\Aa=At/\Ab=Aq/\Ad=As/\Af=Au/\w1k=e1k/\w1v=e1v/\w2k=e2k/\w2v=e2v/\w3k=e3k/\w3v=e3v)/\
(((rulesE p1) !=0)=false->
((!(Aa==(p1.wX==3)))=true->
 1=r1/\Aa=At/\Ab=Aq/\Ad=As/\Af=Au/\w1k=e1k/\w1v=e1v/\w2k=e2k/\w2v=e2v/\w3k=e3k/\w3v=e3v)/\
((!(Aa==(p1.wX==3)))=false->
((rulesE p1=0)/\(((0:Int) !=0)=true->
 0=r1/\Aa=At/\Ab=Aq/\Ad=As/\Af=Au/\w1k=e1k/\w1v=e1v/\w2k=e2k/\w2v=e2v/\w3k=e3k/\w3v=e3v)/\
(((0:Int) !=0)=false->
 False))∨((rulesE p1≠0)/\(((rulesE p1) !=0)=true->
(rulesE p1)=r1/\Aa=At/\Ab=Aq/\Ad=As/\Af=Au/\w1k=e1k/\w1v=e1v/\w2k=e2k/\w2v=e2v/\w3k=e3k/\w3v=e3v)/\
(((rulesE p1) !=0)=false->
 False)))))<|by rintro p1 Aa Ab Ad Af w1k w1v w2k w2v w3k w3v h _ rfl _ rfl _ rfl _ rfl _ rfl _ rfl _ rfl _ rfl _ rfl _ rfl _ rfl;exact⟨fun _=>(by repeat' first|apply qaa|exact rfl|exact qq),fun e=>(h (by simpa using e)).elim⟩
noncomputable def k88:Con TB.den:= .t ⟨42,[],[],(.one (.one (.ptr 0 0))),yM,false⟩ [] yU [] (false,(0:Int),(0:Int),([]:List wH),([]:List ByteArray),([]:List Int),([]:List ByteArray),([]:List (List Int)),([]:List ByteArray),([]:List Bool),())
theorem k8w:k88.Ok Tryz.prog TB:=ptv Bs Tryz.func42 .no c0 (Q:=∀At:Bool,(false:Bool)=At->∀Aq:Int,(0:Int)=Aq->∀As:Int,(0:Int)=As->∀Au:List wH,([]:List wH)=Au->∀e1k:List ByteArray,([]:List ByteArray)=e1k->∀e1v:List Int,([]:List Int)=e1v->∀e2k:List ByteArray,([]:List ByteArray)=e2k->∀e2v:List (List Int),([]:List (List Int))=e2v->∀e3k:List ByteArray,([]:List ByteArray)=e3k->∀e3v:List Bool,([]:List Bool)=e3v-> 
 false=At/\0=Aq/\0=As/\([]:List wH)=Au/\([]:List ByteArray)=e1k/\([]:List Int)=e1v/\([]:List ByteArray)=e2k/\([]:List (List Int))=e2v/\([]:List ByteArray)=e3k/\([]:List Bool)=e3v)<|by rintro _ rfl _ rfl _ rfl _ rfl _ rfl _ rfl _ rfl _ rfl _ rfl _ rfl;exact⟨rfl,rfl,rfl,rfl,rfl,rfl,rfl,rfl,rfl,rfl⟩
noncomputable def kdl:Con TB.den:= .t ⟨12,[],[],(.one (.one (.ptr 0 0))),yM,false⟩ [] yU [] (false,(0:Int),(0:Int),([]:List wH),([]:List ByteArray),([]:List Int),([]:List ByteArray),([]:List (List Int)),([]:List ByteArray),([]:List Bool),())
theorem k6h:kdl.Ok Tryz.prog TB:=ptv Bs Tryz.func12 .no (k8w.c c0) (Q:=∀At:Bool,(false:Bool)=At->∀Aq:Int,(0:Int)=Aq->∀As:Int,(0:Int)=As->∀Au:List wH,([]:List wH)=Au->∀e1k:List ByteArray,([]:List ByteArray)=e1k->∀e1v:List Int,([]:List Int)=e1v->∀e2k:List ByteArray,([]:List ByteArray)=e2k->∀e2v:List (List Int),([]:List (List Int))=e2v->∀e3k:List ByteArray,([]:List ByteArray)=e3k->∀e3v:List Bool,([]:List Bool)=e3v-> 
 false=At/\0=Aq/\0=As/\[]=Au/\[]=e1k/\[]=e1v/\[]=e2k/\[]=e2v/\[]=e3k/\[]=e3v)<|by rintro _ rfl _ rfl _ rfl _ rfl _ rfl _ rfl _ rfl _ rfl _ rfl _ rfl;exact⟨rfl,rfl,rfl,rfl,rfl,rfl,rfl,rfl,rfl,rfl⟩
noncomputable def kg0:Con TB.den:= .tp 36 [.st 5] [.bool] [] fun(p0:wz)=>((prS p0:Bool),())
theorem khq:kg0.Ok Tryz.prog TB:=qtv Bs Tryz.func36 (.r 1 (.nd [] (.r 0 (.lp [] ⟨[],[],[3,5],[.one (.d (.bool)),.one (zqi)],[]⟩ .no)) [] (.nd [] (.r 0 (.lp [] ⟨[],[],[4,6],[.one (.d (.bool)),.one (zqi)],[]⟩ .no)) [] .no))) c0 (Q:=∀(p0:wz),∀r0:Bool,prS p0=r0-> 
 ∃(I1:Bool->Int->Prop) (M1:Bool->Int->Nat),I1 false 2/\∀b1 f1,(I1 b1 f1->
(decide (f1<=256)=true->
(b1=true->
 I1 true (i64.wrap (2*f1))/\M1 true (i64.wrap (2*f1))<M1 b1 f1)/\
(b1=false->
 I1 (p0.wAV==f1) (i64.wrap (2*f1))/\M1 (p0.wAV==f1) (i64.wrap (2*f1))<M1 b1 f1))/\
(decide (f1<=256)=false->
 ∃(I2:Bool->Int->Prop) (M2:Bool->Int->Nat),I2 false 1/\∀i1 k1,(I2 i1 k1->
(decide (k1<=8)=true->
(i1=true->
 I2 true (i64.wrap (2*k1))/\M2 true (i64.wrap (2*k1))<M2 i1 k1)/\
(i1=false->
 I2 (p0.wAI==k1) (i64.wrap (2*k1))/\M2 (p0.wAI==k1) (i64.wrap (2*k1))<M2 i1 k1))/\
(decide (k1<=8)=false->
(b1=true->
(i1=true->
(decide (1<=p0.wAU)=true->
 decide (p0.wAU<=64)=r0)/\
(decide (1<=p0.wAU)=false->
 false=r0))/\
(i1=false->
 false=r0))/\
(b1=false->
 false=r0))))))<|by
 rintro p0 _ rfl
 have hw:∀n k:Nat,k<=8->i64.wrap (2*(n*((2^k:Nat):Int)))=n*((2^(k+1):Nat):Int)∨2<n:=by
  intro n k hk;rcases qaz 2 n with h|h
  ·exact .inr h
  ·have h1:2^k<=2^8:=qcp qqd hk;have h2:2^(k+1)=2*2^k:=by rw[Nat.pow_succ];omega
   rw[h2];generalize 2^k=q at *
   refine .inl ?_;have:n=0∨n=1∨n=2:=by omega
   rcases this with rfl|rfl|rfl
   ·rw[kp _ qqo qqo];omega
   ·rw[kp _ qqo qqo];omega
   ·rw[kp _ qqo qqo];omega
 refine(⟨(fun s a=>∃k:Nat,k<=8/\a=2*((2^k:Nat):Int)/\s=pws k 2 p0.wAV),(fun _ a=>(1000-a).toNat),⟨0,by omega,rfl,rfl⟩,?_⟩);rintro _ _ ⟨k,hk,rfl,rfl⟩;have h1:=qcg k;have h2:2^(k+1)=2*2^k:=by rw[Nat.pow_succ];omega
 refine⟨fun e=> ?_,fun e=> ?_⟩
 ·have e:=qb e
  have hk7:k<=7:=by
   rcases qaz k 8 with h|h
   ·omega
   ·have:k=8:=by omega
    subst this;exact absurd e qqd
  have hwk:i64.wrap (2*(2*((2^k:Nat):Int)))=2*((2^(k+1):Nat):Int):=(hw 2 k hk).resolve_right qqd;rw[hwk];refine⟨fun e2=>⟨⟨k+1,by omega,rfl,?_⟩,?_⟩,fun e2=>⟨⟨k+1,by omega,rfl,?_⟩,?_⟩⟩
  ·rw[k6z,e2];rfl
  ·rw[h2];generalize 2^k=q at *;(dsimp only;omega)
  ·rw[k6z,e2];rfl
  ·rw[h2];generalize 2^k=q at *;(dsimp only;omega)
 have e:=qc e
 have hk8:k=8:=by
  rcases qaz k 8 with h|h
  ·have:2^k<=2^7:=qcp qqd qqo;omega
  ·omega
 subst hk8;refine⟨(fun s a=>∃k:Nat,k<=4/\a=1*((2^k:Nat):Int)/\s=pws k 1 p0.wAI),(fun _ a=>(1000-a).toNat),⟨0,by omega,rfl,rfl⟩,?_⟩;rintro _ _ ⟨k,hk,rfl,rfl⟩;have h1:=qcg k;have h2:2^(k+1)=2*2^k:=by rw[Nat.pow_succ];omega
 refine⟨fun e=> ?_,fun e=> ?_⟩
 ·have e:=qb e
  have hk7:k<=3:=by
   rcases qaz k 4 with h|h
   ·omega
   ·have:k=4:=by omega
    subst this;exact absurd e qqd
  have hwk:i64.wrap (2*(1*((2^k:Nat):Int)))=1*((2^(k+1):Nat):Int):=(hw 1 k qqo).resolve_right qqd;rw[hwk];refine⟨fun e2=>⟨⟨k+1,by omega,rfl,?_⟩,?_⟩,fun e2=>⟨⟨k+1,by omega,rfl,?_⟩,?_⟩⟩
  ·rw[k6z,e2];rfl
  ·rw[h2];generalize 2^k=q at *;(dsimp only;omega)
  ·rw[k6z,e2];rfl
  ·rw[h2];generalize 2^k=q at *;(dsimp only;omega)
 have e:=qc e
 have hk4:k=4:=by
  rcases qaz k 4 with h|h
  ·have:2^k<=2^3:=qcp qqd qqo;omega
  ·omega
 subst hk4;unfold prS;refine⟨fun e=>⟨fun e2=>⟨fun e3=> ?_,fun e3=> ?_⟩,fun e2=> ?_⟩,fun e=> ?_⟩
 ·rw[e,e2,e3];simp
 ·rw[e,e2,e3];simp
 ·rw[e,e2];simp
 ·rw[e];simp
noncomputable def khl:Con TB.den:= .tp 9 [.st 0] [yqi] [] fun(p0:wB)=>((rulesE p0:Int),())
theorem kje:khl.Ok Tryz.prog TB:=qtv Bs Tryz.func9 .no (khq.c c0) (Q:=∀(p0:wB),∀r0:Int,rulesE p0=r0-> 
(decide (p0.wX<1)=true->
 1=r0)/\
(decide (p0.wX<1)=false->
(decide (3<p0.wX)=true->
 1=r0)/\
(decide (3<p0.wX)=false->
(decide (p0.wC<1)=true->
 1=r0)/\
(decide (p0.wC<1)=false->
(decide (12<p0.wC)=true->
 1=r0)/\
(decide (12<p0.wC)=false->
(decide (p0.wV<1)=true->
 1=r0)/\
(decide (p0.wV<1)=false->
(decide (100<p0.wV)=true->
 1=r0)/\
(decide (100<p0.wV)=false->
(decide (p0.wO<1)=true->
 1=r0)/\
(decide (p0.wO<1)=false->
(decide (1048576<p0.wO)=true->
 1=r0)/\
(decide (1048576<p0.wO)=false->
(decide (4294967296<p0.wS)=true->
 1=r0)/\
(decide (4294967296<p0.wS)=false->
(decide (p0.wR<1)=true->
 1=r0)/\
(decide (p0.wR<1)=false->
(decide (65536<p0.wR)=true->
 1=r0)/\
(decide (65536<p0.wR)=false->
((p0.wX==1)=true->
 let r1:Bool:=(prS (wz.mk p0.wN p0.wM p0.wJ))
((!r1)=true->
 1=r0)/\
((!r1)=false->
 0=r0))/\
((p0.wX==1)=false->
 0=r0)))))))))))))<|by
 rintro p0 _ rfl;have no:¬rulesB p0=true->1=rulesE p0:=fun h=>by unfold rulesE;rw[qe h]
 have nb:∀c:Prop,(rulesB p0=true->¬c)->c->1=rulesE p0:=fun c h hc=>no fun hb=>h hb hc;have ub:rulesB p0=true->(1<=p0.wX/\p0.wX<=3)/\(1<=p0.wC/\p0.wC<=12)/\(1<=p0.wV/\p0.wV<=100)/\(1<=p0.wO/\p0.wO<=1048576)/\p0.wS<=4294967296/\1<=p0.wR/\p0.wR<=65536:=by intro hb;simp only[rulesB,qg,qaf]at hb;omega
 refine⟨fun e=>nb _ (fun hb h=>by have:=ub hb;omega) (qb e),fun e1=>⟨fun e=>nb _ (fun hb h=>by have:=ub hb;omega) (qb e),fun e2=>⟨fun e=>nb _ (fun hb h=>by have:=ub hb;omega) (qb e),fun e3=>⟨fun e=>nb _ (fun hb h=>by have:=ub hb;omega) (qb e),fun e4=>⟨fun e=>nb _ (fun hb h=>by have:=ub hb;omega) (qb e),fun e5=>⟨fun e=>nb _ (fun hb h=>by have:=ub hb;omega) (qb e),fun e6=>⟨fun e=>nb _ (fun hb h=>by have:=ub hb;omega) (qb e),fun e7=>⟨fun e=>nb _ (fun hb h=>by have:=ub hb;omega) (qb e),fun e8=>⟨fun e=>nb _ (fun hb h=>by have:=ub hb;omega) (qb e),fun e9=>⟨fun e=>nb _ (fun hb h=>by have:=ub hb;omega) (qb e),fun e10=>⟨fun e=>nb _ (fun hb h=>by have:=ub hb;omega) (qb e),fun e11=> ?_⟩⟩⟩⟩⟩⟩⟩⟩⟩⟩⟩;have e1:=qc e1;have e2:=qc e2;have e3:=qc e3;have e4:=qc e4;have e5:=qc e5;have e6:=qc e6;have e7:=qc e7;have e8:=qc e8;have e9:=qc e9;have e10:=qc e10;have e11:=qc e11;have hb:rulesB p0=true:=by simp only[rulesB,qg,qaf];omega
 unfold rulesE;rw[qh hb];refine⟨fun e=>⟨fun e3=> ?_,fun e3=> ?_⟩,fun e=> ?_⟩
 ·have e:p0.wX=1:=by simpa using e
  have e3:¬prS ⟨p0.wN,p0.wM,p0.wJ⟩=true:=by simpa using e3
  rw[qh e,qe e3]
 ·have e:p0.wX=1:=by simpa using e
  have e3:prS ⟨p0.wN,p0.wM,p0.wJ⟩=true:=by simpa using e3
  rw[qh e,qh e3]
 ·have e:¬p0.wX=1:=by simpa using e
  rw[qe e]
noncomputable def ki5:Con TB.den:= .gp 35 [.st 3] [.bool] [] fun(p0:wI)=>(p0.Txs.length<=9223372036854775807/\∀t∈p0.Txs,t.wE.length<=9223372036854775807,(smS p0:Bool),())
theorem kj6:ki5.Ok Tryz.prog TB:=qrv Bs Tryz.func35 (.r 0 (.nd [] (.r 0 (.lp [] ⟨[],[],[3],[.one (zqi)],[]⟩ (.r 0 (.nd [] (.r 2 (.lp [] ⟨[],[],[5],[.one (zqi)],[]⟩ .no)) [] .no)))) [] .no)) c0 (Q:=∀(p0:wI),(p0.Txs.length<=9223372036854775807/\∀t∈p0.Txs,t.wE.length<=9223372036854775807)->∀r0:Bool,smS p0=r0-> 
 ∃(I1:Int->Prop) (M1:Int->Nat),I1 0/\∀b1,(I1 b1->
(decide (b1<(p0.Txs.length:Int))=true->
(0<=b1)/\b1<(p0.Txs.length:Int)/\let v1:Bool:=decide (6<(((ix p0.Txs b1).wL).length:Int))
(v1=true->
 false=r0)/\
(v1=false->
 let v2:Bool:=decide (6<(((ix p0.Txs b1).wE).length:Int))
(v2=true->
 false=r0)/\
(v2=false->
 let v3:Bool:=decide (2000<(((ix p0.Txs b1).ww).length:Int))
(v3=true->
 false=r0)/\
(v3=false->
 ∃(I2:Int->Prop) (M2:Int->Nat),I2 0/\∀f1,(I2 f1->
 let v4:Bool:=decide (f1<(((ix p0.Txs b1).wE).length:Int))
(v4=true->
(0<=f1)/\f1<(((ix p0.Txs b1).wE).length:Int)/\let v5:Int:=(((ix ((ix p0.Txs b1).wE) f1).wm).length:Int)
(decide (10<v5)=true->
 false=r0)/\
(decide (10<v5)=false->
 I2 (i64.wrap (f1+1))/\M2 (i64.wrap (f1+1))<M2 f1))/\
(v4=false->
 I1 (i64.wrap (b1+1))/\M1 (i64.wrap (b1+1))<M1 b1))))))/\
(decide (b1<(p0.Txs.length:Int))=false->
 decide ((p0.Txs.length:Int)<=4)=r0)))<|by
 rintro p0 h _ rfl;obtain⟨hl,ho⟩:=h;refine⟨(fun i=>∃k:Nat,i=(k:Int)/\k<=p0.Txs.length/\(p0.Txs.take k).all smT=true),(fun i=>(p0.Txs.length-i).toNat),⟨0,rfl,qbg _,rfl⟩,?_⟩;rintro _ ⟨k,rfl,hk,hg⟩;refine⟨fun e=> ?_,fun e=> ?_⟩
 ·have e:(k:Int)<p0.Txs.length:=qb e;have hkl:k<p0.Txs.length:=by omega
  have hx:ix p0.Txs (k:Int)=p0.Txs[k]:=ix_get _ _ hkl;have hmem:p0.Txs[k]∈p0.Txs:=qak hkl;have no:smT p0.Txs[k]=false->false=smS p0:=fun hf=>by unfold smS;rw[show p0.Txs.all smT=false from qdm.2 ⟨_,hmem,by simp[hf]⟩];rfl
  rw[hx];generalize hX:p0.Txs[k]=X at *
  have hol:=ho X hmem;refine⟨by omega,e,fun e1=>no ?_,fun e1=>⟨fun e2=>no ?_,fun e2=>⟨fun e3=>no ?_,fun e3=> ?_⟩⟩⟩
  ·have:=qb e1;unfold smT;rw[qbr (p:=X.wL.length<=6) qqo];rfl
  ·have:=qb e2;unfold smT;rw[qbr (p:=X.wE.length<=6) qqo];simp
  ·have:=qb e3;unfold smT;rw[qbr (p:=X.ww.length<=2000) qqo];simp
  ·have e1:=qc e1;have e2:=qc e2;have e3:=qc e3;refine⟨(fun i=>∃j:Nat,i=(j:Int)/\j<=X.wE.length/\(X.wE.take j).all (fun o=>decide (o.wm.length<=10))=true),(fun i=>(X.wE.length-i).toNat),⟨0,rfl,qbg _,rfl⟩,?_⟩;rintro _ ⟨j,rfl,hj,hg2⟩;refine⟨fun e4=> ?_,fun e4=> ?_⟩
   ·have e4:(j:Int)<X.wE.length:=qb e4;have hjl:j<X.wE.length:=by omega
    rw[ix_get _ _ hjl];refine⟨by omega,e4,fun e5=>no ?_,fun e5=> ?_⟩
    ·have e5:=qb e5;unfold smT;rw[show X.wE.all (fun o=>decide (o.wm.length<=10))=false from qdm.2 ⟨_,qak hjl,by simp;omega⟩];simp
    ·have e5:=qc e5;rw[inc (j:Int) X.wE.length qqo e4 qqo];refine⟨⟨j+1,rfl,by omega,?_⟩,by(first|omega|(dsimp only;omega))⟩;rw[qai hjl,List.all_append,hg2];simp;omega
   ·have e4:¬(j:Int)<X.wE.length:=qc e4;rw[qu qqo]at hg2;rw[inc (k:Int) p0.Txs.length qqo e qqo];refine⟨⟨k+1,rfl,by omega,?_⟩,by(first|omega|(dsimp only;omega))⟩;rw[qai hkl,List.all_append,hg,hX];have:smT X=true:=by unfold smT;rw[hg2,qbn (p:=X.wL.length<=6) qqo,qbn (p:=X.wE.length<=6) qqo,qbn (p:=X.ww.length<=2000) qqo];rfl
    simp[this]
 ·have e:¬(k:Int)<p0.Txs.length:=qc e;rw[qu qqo]at hg;unfold smS;rw[hg,Bool.true_and];exact decide_eq_decide.2 qqo
noncomputable def kln:Con TB.den:= .gp 8 [.st 0,.sl (.st 3),yqi] [.bool] [] fun(p0:wB) (p1:List wI) (p2:Int)=>(p1.length<=9223372036854775807/\∀b∈p1,b.Txs.length<=9223372036854775807/\∀t∈b.Txs,t.wE.length<=9223372036854775807,(fewS p0 p1 p2:Bool),())
theorem km9:kln.Ok Tryz.prog TB:=qrv Bs Tryz.func8 (.r 0 (.nd [] (.r 0 (.lp [] ⟨[],[],[7],[.one (zqi)],[]⟩ .no)) [] .no)) (kj6.c c0) (Q:=∀(p0:wB) (p1:List wI) (p2:Int),(p1.length<=9223372036854775807/\∀b∈p1,b.Txs.length<=9223372036854775807/\∀t∈b.Txs,t.wE.length<=9223372036854775807)->∀r0:Bool,fewS p0 p1 p2=r0-> 
 ∃(I1:Int->Prop) (M1:Int->Nat),I1 0/\∀b1,(I1 b1->
(decide (b1<(p1.length:Int))=true->
(0<=b1)/\b1<(p1.length:Int)/\((ix p1 b1).Txs.length<=9223372036854775807/\∀t∈(ix p1 b1).Txs,t.wE.length<=9223372036854775807)/\((!(smS (ix p1 b1)))=true->
 false=r0)/\
((!(smS (ix p1 b1)))=false->
 I1 (i64.wrap (b1+1))/\M1 (i64.wrap (b1+1))<M1 b1))/\
(decide (b1<(p1.length:Int))=false->
((p0.wX==2)=true->
(decide (p0.wC<=5)=true->
 decide ((p1.length:Int)<=p2)=r0)/\
(decide (p0.wC<=5)=false->
 false=r0))/\
((p0.wX==2)=false->
 false=r0))))<|by
 rintro p0 p1 p2 h _ rfl;obtain⟨hl,ho⟩:=h;refine⟨(fun i=>∃k:Nat,i=(k:Int)/\k<=p1.length/\(p1.take k).all smS=true),(fun i=>(p1.length-i).toNat),⟨0,rfl,qbg _,rfl⟩,?_⟩;rintro _ ⟨k,rfl,hk,hg⟩;refine⟨fun e=> ?_,fun e=> ?_⟩
 ·have e:(k:Int)<p1.length:=qb e;have hkl:k<p1.length:=by omega
  have hmem:p1[k]∈p1:=qak hkl;rw[ix_get _ _ hkl];refine⟨by omega,e,ho _ hmem,fun e1=> ?_,fun e1=> ?_⟩
  ·have e1:smS p1[k]=false:=by simpa using e1
   unfold fewS;rw[show p1.all smS=false from qdm.2 ⟨_,hmem,by simp[e1]⟩];rfl
  ·have e1:smS p1[k]=true:=by simpa using e1
   rw[inc (k:Int) p1.length qqo e qqo];refine⟨⟨k+1,rfl,by omega,?_⟩,by(first|omega|(dsimp only;omega))⟩;rw[qai hkl,List.all_append,hg];simp[e1]
 ·have e:¬(k:Int)<p1.length:=qc e;rw[qu qqo]at hg;unfold fewS;rw[hg,Bool.true_and];refine⟨fun e1=>⟨fun e2=> ?_,fun e2=> ?_⟩,fun e1=> ?_⟩
  ·have e1:p0.wX=2:=by simpa using e1
   rw[e1,e2];simp
  ·rw[e2];simp
  ·have e1:¬p0.wX=2:=by simpa using e1
   rw[qbr e1];rfl
noncomputable def khm:Con TB.den:= .g (gk 34 [.one (.ptr 0 0)] yB (.tup [.one (zqu),.one (zqi)])) (.int .i64:: .int .i64:: .int .i64:: .int .i64:: .int .i64:: .int .u64:: .int .i64:: .int .i64:: .int .u64:: .sl yqu:: .int .u64:: .int .i64:: .bool::yF) (.int .u64:: .int .i64:: .int .i64:: .int .i64:: .int .i64:: .int .i64:: .int .i64:: .int .u64:: .int .i64:: .int .i64:: .int .u64:: .sl yqu:: .int .u64:: .int .i64:: .bool::yF) [] fun(Ab Ad Af Aj Ak Ag Al Ah Ai:Int) (Ac:List Int) (Av Ae:Int) (Ap:Bool) (Aw Ax:Int) (Ay:List wH) (Bb Bc Bd Be Bf Bg Bh Bi Bj Bk Az:Int) (A0:List Int) (A7:List wA) (A8:Int) (w2k:List Int) (w2v:List wK) (w4k:List ByteArray) (w4v:List Int) (w5k:List ByteArray) (w5v:List (List Int)) (w6k:List ByteArray) (w6v:List Bool) (w7 w9:List Int) (w10:List wG) (w11k:List Int) (w11v:List Bool)=>(Ac.length<=1000,((if Ac=[]then 0 else ix Ac ((Ac.length:Int)-1)):Int),(Ac.length:Int),Ab,Ad,Af,Aj,Ak,Ag,Al,Ah,Ai,Ac,Av,Ae,Ap,Aw,Ax,Ay,Bb,Bc,Bd,Be,Bf,Bg,Bh,Bi,Bj,Bk,Az,A0,A7,A8,w2k,w2v,w4k,w4v,w5k,w5v,w6k,w6v,w7,w9,w10,w11k,w11v,())
theorem kit:khm.Ok Tryz.prog TB:=prv Bs Tryz.func34 .no c0 (Q:=∀(Ab Ad Af Aj Ak Ag Al Ah Ai:Int) (Ac:List Int) (Av Ae:Int) (Ap:Bool) (Aw Ax:Int) (Ay:List wH) (Bb Bc Bd Be Bf Bg Bh Bi Bj Bk Az:Int) (A0:List Int) (A7:List wA) (A8:Int) (w2k:List Int) (w2v:List wK) (w4k:List ByteArray) (w4v:List Int) (w5k:List ByteArray) (w5v:List (List Int)) (w6k:List ByteArray) (w6v:List Bool) (w7 w9:List Int) (w10:List wG) (w11k:List Int) (w11v:List Bool),(Ac.length<=1000)->∀r0:Int,((if Ac=[]then 0 else ix Ac ((Ac.length:Int)-1)):Int)=r0->∀r1:Int,(Ac.length:Int)=r1->∀Aq:Int,Ab=Aq->∀As:Int,Ad=As->∀Au:Int,Af=Au->∀Bl:Int,Aj=Bl->∀Bm:Int,Ak=Bm->∀Bn:Int,Ag=Bn->∀Bo:Int,Al=Bo->∀Bp:Int,Ah=Bp->∀Bq:Int,Ai=Bq->∀A9:List Int,Ac=A9->∀Bu:Int,Av=Bu->∀Ba:Int,Ae=Ba->∀B1:Bool,Ap=B1->∀B2:Int,Aw=B2->∀B3:Int,Ax=B3->∀B4:List wH,Ay=B4->∀B5:Int,Bb=B5->∀B6:Int,Bc=B6->∀B7:Int,Bd=B7->∀B8:Int,Be=B8->∀B9:Int,Bf=B9->∀Ca:Int,Bg=Ca->∀Cb:Int,Bh=Cb->∀Cc:Int,Bi=Cc->∀Cd:Int,Bj=Cd->∀Ce:Int,Bk=Ce->∀Bw:Int,Az=Bw->∀Bx:List Int,A0=Bx->∀Bz:List wA,A7=Bz->∀B0:Int,A8=B0->∀e2k:List Int,w2k=e2k->∀e2v:List wK,w2v=e2v->∀e4k:List ByteArray,w4k=e4k->∀e4v:List Int,w4v=e4v->∀e5k:List ByteArray,w5k=e5k->∀e5v:List (List Int),w5v=e5v->∀e6k:List ByteArray,w6k=e6k->∀e6v:List Bool,w6v=e6v->∀e7:List Int,w7=e7->∀e9:List Int,w9=e9->∀e10:List wG,w10=e10->∀e11k:List Int,w11k=e11k->∀e11v:List Bool,w11v=e11v-> 
(((Ac.length:Int)==0)=true->
 lz w10/\lz w9/\lz w7/\0=r0/\0=r1/\Ab=Aq/\Ad=As/\Af=Au/\Aj=Bl/\Ak=Bm/\Ag=Bn/\Al=Bo/\Ah=Bp/\Ai=Bq/\Ac=A9/\Av=Bu/\Ae=Ba/\Ap=B1/\Aw=B2/\Ax=B3/\Ay=B4/\Bb=B5/\Bc=B6/\Bd=B7/\Be=B8/\Bf=B9/\Bg=Ca/\Bh=Cb/\Bi=Cc/\Bj=Cd/\Bk=Ce/\Az=Bw/\A0=Bx/\A7=Bz/\A8=B0/\w2k=e2k/\w2v=e2v/\w4k=e4k/\w4v=e4v/\w5k=e5k/\w5v=e5v/\w6k=e6k/\w6v=e6v/\w7=e7/\w9=e9/\w10=e10/\w11k=e11k/\w11v=e11v)/\
(((Ac.length:Int)==0)=false->
 let v2:Int:=i64.wrap ((Ac.length:Int)-1)
(0<=v2)/\v2<(Ac.length:Int)/\lz w10/\lz w9/\lz w7/\ix Ac v2=r0/\(Ac.length:Int)=r1/\Ab=Aq/\Ad=As/\Af=Au/\Aj=Bl/\Ak=Bm/\Ag=Bn/\Al=Bo/\Ah=Bp/\Ai=Bq/\Ac=A9/\Av=Bu/\Ae=Ba/\Ap=B1/\Aw=B2/\Ax=B3/\Ay=B4/\Bb=B5/\Bc=B6/\Bd=B7/\Be=B8/\Bf=B9/\Bg=Ca/\Bh=Cb/\Bi=Cc/\Bj=Cd/\Bk=Ce/\Az=Bw/\A0=Bx/\A7=Bz/\A8=B0/\w2k=e2k/\w2v=e2v/\w4k=e4k/\w4v=e4v/\w5k=e5k/\w5v=e5v/\w6k=e6k/\w6v=e6v/\w7=e7/\w9=e9/\w10=e10/\w11k=e11k/\w11v=e11v))<|by
 rintro Ab Ad Af Aj Ak Ag Al Ah Ai Ac Av Ae Ap Aw Ax Ay Bb Bc Bd Be Bf Bg Bh Bi Bj Bk Az A0 A7 A8 w2k w2v w4k w4v w5k w5v w6k w6v w7 w9 w10 w11k w11v h _ rfl _ rfl _ rfl _ rfl _ rfl _ rfl _ rfl _ rfl _ rfl _ rfl _ rfl _ rfl _ rfl _ rfl _ rfl _ rfl _ rfl _ rfl _ rfl _ rfl _ rfl _ rfl _ rfl _ rfl _ rfl _ rfl _ rfl _ rfl _ rfl _ rfl _ rfl _ rfl _ rfl _ rfl _ rfl _ rfl _ rfl _ rfl _ rfl _ rfl _ rfl _ rfl _ rfl _ rfl _ rfl;refine⟨fun e=> ?_,fun e=> ?_⟩
 ·have e:(Ac.length:Int)=0:=by simpa using e
  have e2:Ac=[]:=qcx.1 qqo;subst e2;exact(by repeat' first|apply qaa|exact rfl|exact qq)
 ·have e:¬(Ac.length:Int)=0:=by simpa using e
  rw[qe (fun hh=>e (by rw[hh];rfl)),wi ((Ac.length:Int)-1) qqo qqo];exact⟨by omega,by omega,(by repeat' first|apply qaa|exact rfl|exact qq)⟩
noncomputable def kax:Con TB.den:= .tp 33 [] [.st 0] [] ((wB.mk 2 2 0 0 0 10 3 9 1:wB),())
theorem kdb:kax.Ok Tryz.prog TB:=qtv Bs Tryz.func33 .no c0 (Q:=∀r0:wB,wB.mk 2 2 0 0 0 10 3 9 1=r0-> 
 2=r0.wX/\2=r0.wC/\0=r0.wN/\0=r0.wM/\0=r0.wJ/\10=r0.wS/\3=r0.wV/\9=r0.wO/\1=r0.wR)<|by rintro _ rfl;exact(by repeat' first|apply qaa|exact rfl|exact qq)
noncomputable def ke2:Con TB.den:= .tp 7 [] [.bool] [] (true,())
theorem kfh:ke2.Ok Tryz.prog TB:=qtv Bs Tryz.func7 .no (k6h.c (kdb.c (k9i.c (k5l.c (k5q.c (kit.c (k6g.c (k5j.c (k5i.c c0))))))))) (Q:=∀r0:Bool,(true:Bool)=r0-> 
((rulesE (wB.mk 2 2 0 0 0 10 3 9 1)=0/\(wB.mk 2 2 0 0 0 10 3 9 1).wX=2/\false=false)/\let r1:=wB.mk 2 2 0 0 0 10 3 9 1
 let r2:=newS (wB.mk 2 2 0 0 0 10 3 9 1)
(((0:Int) !=0)=true->
 false=r0)/\
(((0:Int) !=0)=false->
 lz r2.p/\lz r2.r/\lz r2.l/\(SCh (CS.mk (wB.mk ((wB.mk 2 2 0 0 0 10 3 9 1).wX) ((wB.mk 2 2 0 0 0 10 3 9 1).wC) r1.wN r1.wM r1.wJ ((wB.mk 2 2 0 0 0 10 3 9 1).wS) ((wB.mk 2 2 0 0 0 10 3 9 1).wV) r1.wO ((wB.mk 2 2 0 0 0 10 3 9 1).wR)) ([]:List Int) ([]:List wK) ([]:List Int) (r2) (0:Int) (0:Int)) (wI.mk 0 1 5 1 0 ([]:List wa))/\false=false/\[]=([]:List ByteArray)/\[]=([]:List Int))/\let r3:=subS (CS.mk (wB.mk ((wB.mk 2 2 0 0 0 10 3 9 1).wX) ((wB.mk 2 2 0 0 0 10 3 9 1).wC) r1.wN r1.wM r1.wJ ((wB.mk 2 2 0 0 0 10 3 9 1).wS) ((wB.mk 2 2 0 0 0 10 3 9 1).wV) r1.wO ((wB.mk 2 2 0 0 0 10 3 9 1).wR)) ([]:List Int) ([]:List wK) ([]:List Int) (r2) (0:Int) (0:Int)) (wI.mk 0 1 5 1 0 ([]:List wa))
 lz r3.c.S.p/\lz r3.c.S.r/\lz r3.c.S.l/\(r3.c.be.length<=1000)/\let r4:Int:=(if r3.c.be=[]then 0 else ix r3.c.be ((r3.c.be.length:Int)-1))
 lz r3.c.S.p/\lz r3.c.S.r/\lz r3.c.S.l/\(SCh (CS.mk (wB.mk ((wB.mk 2 2 0 0 0 10 3 9 1).wX) ((wB.mk 2 2 0 0 0 10 3 9 1).wC) r1.wN r1.wM r1.wJ ((wB.mk 2 2 0 0 0 10 3 9 1).wS) ((wB.mk 2 2 0 0 0 10 3 9 1).wV) r1.wO ((wB.mk 2 2 0 0 0 10 3 9 1).wR)) r3.c.k r3.c.v r3.c.be (r3.c.S) r3.c.fi r3.c.he) (wI.mk r4 2 5 1 0 ([]:List wa))/\false=false/\[]=([]:List ByteArray)/\[]=([]:List Int))/\let r5:=subS (CS.mk (wB.mk ((wB.mk 2 2 0 0 0 10 3 9 1).wX) ((wB.mk 2 2 0 0 0 10 3 9 1).wC) r1.wN r1.wM r1.wJ ((wB.mk 2 2 0 0 0 10 3 9 1).wS) ((wB.mk 2 2 0 0 0 10 3 9 1).wV) r1.wO ((wB.mk 2 2 0 0 0 10 3 9 1).wR)) r3.c.k r3.c.v r3.c.be (r3.c.S) r3.c.fi r3.c.he) (wI.mk r4 2 5 1 0 ([]:List wa))
 lz r5.c.S.p/\lz r5.c.S.r/\lz r5.c.S.l/\lz r5.c.S.p/\lz r5.c.S.r/\lz r5.c.S.l/\(((r5.c.S.p.length:Int)==2)=true->
 lz r5.c.S.p/\lz r5.c.S.r/\lz r5.c.S.l/\(r5.c.S.b.length<=100000)/\(((r5.c.S.b.length:Int)==1)=true->
 lz r5.c.S.p/\lz r5.c.S.r/\lz r5.c.S.l/\(r5.c.S.b.length<=100000)/\0<(r5.c.S.b.length:Int)/\(((ix r5.c.S.b 0).wY)==20)=r0)/\
(((r5.c.S.b.length:Int)==1)=false->
 false=r0))/\
(((r5.c.S.p.length:Int)==2)=false->
 false=r0)))∨((rulesE (wB.mk 2 2 0 0 0 10 3 9 1)≠0)/\let v6:Bool:=((rulesE (wB.mk 2 2 0 0 0 10 3 9 1)) !=0)
(v6=true->
 false=r0)/\
(v6=false->
 false=r0)))<|by
 rintro _ rfl;have hE:rulesE R48=0:=by kernel_rfl
 obtain⟨w1,w2,w3,w4⟩:=aw48;have g1:GB (wI.mk 0 1 5 1 0 []):=GB.emp qqd ⟨by decide,by decide⟩ qqd qqd;have g2:GB (wI.mk t481 2 5 1 0 []):=GB.emp w3 ⟨by decide,by decide⟩ qqd qqd;have hC0:=newC_CI hE qqd;have hC1:=(subS_CI hC0 qqo g1).eta;have hC2:=(subS_CI hC1 qqo g2).bek.2.1;have hl1:=hC1.bek.2.1;refine .inl ⟨⟨hE,rfl,rfl⟩,fun e=>(by cases e),fun _=>⟨rfl,rfl,rfl,⟨⟨⟨0,by omega,hC0⟩,g1,rfl⟩,rfl,rfl,rfl⟩,rfl,rfl,rfl,qbk hl1 qqd,rfl,rfl,rfl,⟨⟨⟨1,by omega,hC1⟩,g2,rfl⟩,rfl,rfl,rfl⟩,rfl,rfl,rfl,rfl,rfl,rfl,fun _=>⟨rfl,rfl,rfl,?_,fun _=>⟨rfl,rfl,rfl,?_,?_,?_⟩,fun e=> ?_⟩,fun e=> ?_⟩⟩
 ·show X482.c.S.b.length<=100000;rw[w2];decide
 ·show X482.c.S.b.length<=100000;rw[w2];decide
 ·show(0:Int)<(X482.c.S.b.length:Int);rw[w2];decide
 ·show((ix X482.c.S.b 0).wY==20)=true;rw[w2];rfl
 ·have e:((X482.c.S.b.length:Int)==1)=false:=e;rw[w2]at e;cases e
 ·have e:((X482.c.S.p.length:Int)==2)=false:=e;rw[w1]at e;cases e
noncomputable def k1f:Con TB.den:= .gp 4 [.st 0,.sl (.st 3)] [.bool] [] fun(p0:wB) (p1:List wI)=>(0<=p0.wS/\(∀b∈p1,BR b)/\p1.length<=9223372036854775807/\∀b∈p1,b.Txs.length<=9223372036854775807/\∀t∈b.Txs,t.wE.length<=9223372036854775807,true,())
abbrev Fz10 (r:Type):=Int->Int->Int->Int->Int->Int->Int->Int->Int->Int->(List Int)->Int->Int->Bool->Int->Int->(List wH)->Int->Int->Int->Int->Int->Int->Int->Int->Int->Int->Int->(List Int)->(List wA)->Int->(List Int)->(List wK)->(List ByteArray)->(List Int)->(List ByteArray)->(List (List Int))->(List ByteArray)->(List Bool)->(List Int)->(List Bool)->(List Int)->(List Int)->(List wG)->r
abbrev Fz11 (r:Type):=Int->Int->Int->Int->Int->Int->Int->Int->Int->Int->Int->Int->(List Int)->(List wA)->Int->Int->Int->Int->Int->Int->Int->Int->Int->Int->Int->Int->(List Int)->(List wA)->Int->Int->Int->Int->Int->Int->Int->Int->Int->Int->(List Int)->Int->Int->Bool->Int->Int->(List wH)->(List Int)->(List Int)->(List wG)->(List Int)->(List wK)->(List Int)->(List Bool)->(List Int)->(List Bool)->(List ByteArray)->(List Int)->(List ByteArray)->(List (List Int))->(List ByteArray)->(List Bool)->(List Int)->(List Int)->(List wG)->r
theorem kdp:k1f.Ok Tryz.prog TB:=qrv Bs Tryz.func4 (.r 0 (.nd [] (.jn ⟨[],[],[30],[.one (.d (.bool))],[]⟩ [] .no [] .no) [] (.r 1 (.nd [] (.r 0 (.lp [] ⟨[33,1,34,35,2,3,4,37,40],[.cells yW,.cells yY,.map yqu (.st 11),.cells [zqi,zqi,zqi,zqi,zqi,zqu,zqi,zqi,zqu,zqi,zqi,zql,.row 9,.ptr 7 0,.d (.sl (.st 9)),zqu,.row 10,.row 11],.map (.str) yqi,.map (.str) (.sl yqu),.map (.str) (.bool),.cells [.mp 8],.map yqu (.bool),.vec yqu,.vec yqu,.vec (.st 10)],[46],[.one (zqi)],[36,38,39]⟩ (.r 1 (.nd [] (.r 3 (.nd [] (.r 0 (.lp [] ⟨[136,35,33,138,133,37,134,135,1,34,141,40,2,3,4],[.cells [zqi,zqi,zqi,zqi,zqi,zqu,zqi,zqi,zqu,zqi,zqi,zql,.row 15,.ptr 3 0,.d (.sl (.st 9)),zqu,.row 16,.row 17],.cells [zqi,zqi,zqi,zqi,zqi,zqu,zqi,zqi,zqu,zqi,zqi,zql,.row 4,.ptr 5 0,.d (.sl (.st 9)),zqu,.row 6,.row 7],.cells [.ptr 8 0,zqi,zqi,zqi,zqi,zqi,zqu,zqi,zqi,zqu,.mp 9,zql,.ptr 1 0,zqu,zqi],.cells [.mp 10],.vec yqu,.cells [.mp 11],.vec yqu,.vec (.st 10),.cells [.d (.bool),zqu,zqi,.d (.sl (.st 4)),.mp 12,.mp 13,.mp 14],.map yqu (.st 11),.map yqu (.bool),.map yqu (.bool),.map (.str) yqi,.map (.str) (.sl yqu),.map (.str) (.bool),.vec yqu,.vec yqu,.vec (.st 10)],[72],[.one (zqi)],[137,139,140]⟩ .no)) [] (.r 1 (.nd [] (.r 0 (.lp [] ⟨[],[],[15,103],[.one (zqu),.one (zqi)],[]⟩ .no)) [] .no)))) [] .no)))) [] .no)))) (kfh.c (km9.c (kje.c (k6h.c (k9i.c (k5l.c (k5q.c (k67.c (k3g.c (k6g.c (khk.c (kfe.c (k3l.c (kes.c (k5i.c (kdm.c (k5j.c c0))))))))))))))))) (Q:=∀(p0:wB) (p1:List wI),(0<=p0.wS/\(∀b∈p1,BR b)/\p1.length<=9223372036854775807/\∀b∈p1,b.Txs.length<=9223372036854775807/\∀t∈b.Txs,t.wE.length<=9223372036854775807)->∀r0:Bool,(true:Bool)=r0-> 
 ∀J1:Bool->Prop,(∀(b1:Bool),
((b1=true->
 true=r0)/\
(b1=false->
((rulesE p0=0/\p0.wX=2/\false=false)/\(((0:Int) !=0)=true->
 false=r0)/\
(((0:Int) !=0)=false->
 lz ((newS p0).p)/\lz ((newS p0).r)/\lz ((newS p0).l)/\∃(I1:Fz10 Prop) (M1:Fz10 Nat),I1 0 p0.wX p0.wC p0.wN p0.wM p0.wJ p0.wS p0.wV p0.wO p0.wR ([]:List Int) (0:Int) (0:Int) false (0:Int) (0:Int) [] ((newS p0).R.wX) ((newS p0).R.wC) ((newS p0).R.wN) ((newS p0).R.wM) ((newS p0).R.wJ) ((newS p0).R.wS) ((newS p0).R.wV) ((newS p0).R.wO) ((newS p0).R.wR) ((newS p0).F.wC) ((newS p0).F.wZ) ((newS p0).F.wc) ((newS p0).b) ((newS p0).n) ([]:List Int) ([]:List wK) [] [] [] [] [] [] ((newS p0).k) ((newS p0).v) ((newS p0).l) ((newS p0).r) ((newS p0).p)/\∀f1 i1 k1 l1 m1 n1 o1 q1 s1 t1 u1 x1 y1 b2 f2 i2 k2 l2 m2 n2 o2 q2 s2 t2 u2 x2 y2 b3 f3 i3 k3 l3 m3 n3 o3 q3 s3 t3 u3 x3 y3 b4 f4 i4,(I1 f1 i1 k1 l1 m1 n1 o1 q1 s1 t1 u1 x1 y1 b2 f2 i2 k2 l2 m2 n2 o2 q2 s2 t2 u2 x2 y2 b3 f3 i3 k3 l3 m3 n3 o3 q3 s3 t3 u3 x3 y3 b4 f4 i4->
(decide (f1<(p1.length:Int))=true->
(0<=f1)/\f1<(p1.length:Int)/\lz i4/\lz f4/\lz b4/\(SCh (CS.mk (wB.mk i1 k1 l1 m1 n1 o1 q1 s1 t1) l3 m3 u1 (PS.mk (wB.mk l2 m2 n2 o2 q2 s2 t2 u2 x2) (wD.mk y2 b3 f3) i3 k3 b4 f4 i4 x3 y3) x1 y1) (ix p1 f1)/\b2=false/\n3=([]:List ByteArray)/\o3=([]:List Int))/\let r1:=subS (CS.mk (wB.mk i1 k1 l1 m1 n1 o1 q1 s1 t1) l3 m3 u1 (PS.mk (wB.mk l2 m2 n2 o2 q2 s2 t2 u2 x2) (wD.mk y2 b3 f3) i3 k3 b4 f4 i4 x3 y3) x1 y1) (ix p1 f1)
((rulesE p0=0)/\(((0:Int) !=0)=true->
 false=r0)/\
(((0:Int) !=0)=false->
 lz r1.c.S.p/\lz r1.c.S.r/\lz r1.c.S.l/\lz r1.c.S.p/\lz r1.c.S.r/\lz r1.c.S.l/\(r1.c.be.length<=1000)/\lz r1.c.S.p/\lz r1.c.S.r/\lz r1.c.S.l/\lz ((newS p0).p)/\lz ((newS p0).r)/\lz ((newS p0).l)/\∃(I2:Fz11 Prop) (M2:Fz11 Nat),I2 0 ((newS p0).R.wX) ((newS p0).R.wC) ((newS p0).R.wN) ((newS p0).R.wM) ((newS p0).R.wJ) ((newS p0).R.wS) ((newS p0).R.wV) ((newS p0).R.wO) ((newS p0).R.wR) ((newS p0).F.wC) ((newS p0).F.wZ) ((newS p0).F.wc) ((newS p0).b) ((newS p0).n) r1.c.S.R.wX r1.c.S.R.wC r1.c.S.R.wN r1.c.S.R.wM r1.c.S.R.wJ r1.c.S.R.wS r1.c.S.R.wV r1.c.S.R.wO r1.c.S.R.wR r1.c.S.F.wC r1.c.S.F.wZ r1.c.S.F.wc r1.c.S.b r1.c.S.n i1 k1 l1 m1 n1 o1 q1 s1 t1 r1.c.be r1.c.fi r1.c.he b2 f2 i2 k2 r1.c.S.l r1.c.S.r r1.c.S.p r1.c.k r1.c.v ((newS p0).k) ((newS p0).v) r1.c.S.k r1.c.S.v n3 o3 q3 s3 t3 u3 ((newS p0).l) ((newS p0).r) ((newS p0).p)/\∀k4 l4 m4 n4 o4 q4 s4 t4 u4 x4 y4 b5 f5 i5 k5 l5 m5 n5 o5 q5 s5 t5 u5 x5 y5 b6 f6 i6 k6 l6 m6 n6 o6 q6 s6 t6 u6 x6 y6 b7 f7 i7 k7 l7 m7 n7 o7 q7 s7 t7 u7 x7 y7 b8 f8 i8 k8 l8 m8 n8 o8 q8 s8,(I2 k4 l4 m4 n4 o4 q4 s4 t4 u4 x4 y4 b5 f5 i5 k5 l5 m5 n5 o5 q5 s5 t5 u5 x5 y5 b6 f6 i6 k6 l6 m6 n6 o6 q6 s6 t6 u6 x6 y6 b7 f7 i7 k7 l7 m7 n7 o7 q7 s7 t7 u7 x7 y7 b8 f8 i8 k8 l8 m8 n8 o8 q8 s8->
(decide (k4<(r1.c.be.length:Int))=true->
(0<=k4)/\k4<(r1.c.be.length:Int)/\lz q7/\lz o7/\lz n7/\((s7.length=t7.length/\(ix r1.c.be k4)∈s7)/\(gB s7 t7 (ix r1.c.be k4)).Txs.length<=4/\∀x∈(gB s7 t7 (ix r1.c.be k4)).Txs,TL x)/\((!true)=true->
 false=r0)/\
((!true)=false->
 lz s8/\lz q8/\lz o8/\((∃c:Nat,c+(gB s7 t7 (ix r1.c.be k4)).Txs.length<=790/\PI (PS.mk (wB.mk l4 m4 n4 o4 q4 s4 t4 u4 x4) (wD.mk y4 b5 f5) i5 k5 o8 q8 s8 u7 x7) c 0)/\BR' (gB s7 t7 (ix r1.c.be k4)))/\let r2:Int:=((applyS (PS.mk (wB.mk l4 m4 n4 o4 q4 s4 t4 u4 x4) (wD.mk y4 b5 f5) i5 k5 o8 q8 s8 u7 x7) (gB s7 t7 (ix r1.c.be k4))).e)
 let r3:=(applyS (PS.mk (wB.mk l4 m4 n4 o4 q4 s4 t4 u4 x4) (wD.mk y4 b5 f5) i5 k5 o8 q8 s8 u7 x7) (gB s7 t7 (ix r1.c.be k4))).s
((r2 !=0)=true->
 false=r0)/\
((r2 !=0)=false->
 lz q7/\lz o7/\lz n7/\lz r3.p/\lz r3.r/\lz r3.l/\I2 (i64.wrap (k4+1)) r3.R.wX r3.R.wC r3.R.wN r3.R.wM r3.R.wJ r3.R.wS r3.R.wV r3.R.wO r3.R.wR r3.F.wC r3.F.wZ r3.F.wc r3.b r3.n l5 m5 n5 o5 q5 s5 t5 u5 x5 y5 b6 f6 i6 k6 l6 m6 n6 o6 q6 s6 t6 u6 x6 y6 b7 f7 i7 k7 l7 m7 n7 o7 q7 s7 t7 r3.k r3.v y7 b8 f8 i8 k8 l8 m8 n8 r3.l r3.r r3.p/\M2 (i64.wrap (k4+1)) r3.R.wX r3.R.wC r3.R.wN r3.R.wM r3.R.wJ r3.R.wS r3.R.wV r3.R.wO r3.R.wR r3.F.wC r3.F.wZ r3.F.wc r3.b r3.n l5 m5 n5 o5 q5 s5 t5 u5 x5 y5 b6 f6 i6 k6 l6 m6 n6 o6 q6 s6 t6 u6 x6 y6 b7 f7 i7 k7 l7 m7 n7 o7 q7 s7 t7 r3.k r3.v y7 b8 f8 i8 k8 l8 m8 n8 r3.l r3.r r3.p<M2 k4 l4 m4 n4 o4 q4 s4 t4 u4 x4 y4 b5 f5 i5 k5 l5 m5 n5 o5 q5 s5 t5 u5 x5 y5 b6 f6 i6 k6 l6 m6 n6 o6 q6 s6 t6 u6 x6 y6 b7 f7 i7 k7 l7 m7 n7 o7 q7 s7 t7 u7 x7 y7 b8 f8 i8 k8 l8 m8 n8 o8 q8 s8)))/\
(decide (k4<(r1.c.be.length:Int))=false->
 lz s8/\lz q8/\lz o8/\(∃(c:Nat) (f:Int),c<=800/\PI (PS.mk (wB.mk l4 m4 n4 o4 q4 s4 t4 u4 x4) (wD.mk y4 b5 f5) i5 k5 o8 q8 s8 u7 x7) c f)/\let r4:List Int:=(encM (mOf (PS.mk (wB.mk l4 m4 n4 o4 q4 s4 t4 u4 x4) (wD.mk y4 b5 f5) i5 k5 o8 q8 s8 u7 x7)))
 lz q7/\lz o7/\lz n7/\lz q7/\lz o7/\lz n7/\(∃(c:Nat) (f:Int),c<=800/\PI (PS.mk (wB.mk l5 m5 n5 o5 q5 s5 t5 u5 x5) (wD.mk y5 b6 f6) i6 k6 n7 o7 q7 y7 b8) c f)/\let r5:List Int:=(encM (mOf (PS.mk (wB.mk l5 m5 n5 o5 q5 s5 t5 u5 x5) (wD.mk y5 b6 f6) i6 k6 n7 o7 q7 y7 b8)))
 let v6:Bool:=(!((strOfNums r4).toList==(strOfNums r5).toList))
(v6=true->
 false=r0)/\
(v6=false->
 lz s8/\lz q8/\lz o8/\(i5.length<=100000)/\∃(I3:Int->Int->Prop) (M3:Int->Int->Nat),I3 0 0/\∀t8 u8,(I3 t8 u8->
(decide (u8<(i5.length:Int))=true->
(0<=u8)/\u8<(i5.length:Int)/\let v7:Int:=u64.wrap (t8+((ix i5 u8).wY))
 I3 v7 (i64.wrap (u8+1))/\M3 v7 (i64.wrap (u8+1))<M3 t8 u8)/\
(decide (u8<(i5.length:Int))=false->
 lz s8/\lz q8/\lz o8/\lz s8/\lz q8/\lz o8/\let v8:Int:=u64.wrap ((u64.wrap (s8.length:Int))*p0.wS)
(((u64.wrap (t8+k5)) !=v8)=true->
 false=r0)/\
(((u64.wrap (t8+k5)) !=v8)=false->
 lz q7/\lz o7/\lz n7/\I1 (i64.wrap (f1+1)) l6 m6 n6 o6 q6 s6 t6 u6 x6 y6 b7 f7 i7 k7 l7 m7 l5 m5 n5 o5 q5 s5 t5 u5 x5 y5 b6 f6 i6 k6 s7 t7 f8 i8 k8 l8 m8 n8 y7 b8 n7 o7 q7/\M1 (i64.wrap (f1+1)) l6 m6 n6 o6 q6 s6 t6 u6 x6 y6 b7 f7 i7 k7 l7 m7 l5 m5 n5 o5 q5 s5 t5 u5 x5 y5 b6 f6 i6 k6 s7 t7 f8 i8 k8 l8 m8 n8 y7 b8 n7 o7 q7<M1 f1 i1 k1 l1 m1 n1 o1 q1 s1 t1 u1 x1 y1 b2 f2 i2 k2 l2 m2 n2 o2 q2 s2 t2 u2 x2 y2 b3 f3 i3 k3 l3 m3 n3 o3 q3 s3 t3 u3 x3 y3 b4 f4 i4))))))))∨((rulesE p0≠0)/\(((rulesE p0) !=0)=true->
 false=r0)/\
(((rulesE p0) !=0)=false->
 false=r0)))/\
(decide (f1<(p1.length:Int))=false->
 true=r0))))∨((rulesE p0≠0)/\(((rulesE p0) !=0)=true->
 false=r0)/\
(((rulesE p0) !=0)=false->
 false=r0))))->J1 b1)->
((!true)=true->
 J1 true)/\
((!true)=false->
(p1.length<=9223372036854775807/\∀b∈p1,b.Txs.length<=9223372036854775807/\∀t∈b.Txs,t.wE.length<=9223372036854775807)/\((!(fewS p0 p1 (10:Int)))=true->
 J1 true)/\
((!(fewS p0 p1 (10:Int)))=false->
 J1 ((rulesE p0) !=0))))<|by
 rintro p0 p1 h _ rfl;obtain⟨hw,hr,hs⟩:=h;intro J1 k1;have jt:J1 true:=k1 true ⟨fun _=>rfl,fun h=>by cases h⟩;refine⟨fun h=>(by cases h),fun _=>⟨hs,fun _=>jt,fun hf=> ?_⟩⟩;have hf:fewS p0 p1 10=true:=by simpa using hf
 obtain⟨hm,hl,hsm⟩:=kq3 hf;by_cases hE:rulesE p0=0
 ·have e0:((rulesE p0) !=0)=false:=bne_eq_false_iff_eq.2 hE;rw[e0];refine k1 false ⟨fun h=>(by cases h),fun _=> .inl ⟨⟨hE,hm,rfl⟩,fun h=>(by cases h),fun _=> ?_⟩⟩;refine⟨rfl,rfl,rfl,(fun f1 i1 k1 l1 m1 n1 o1 q1 s1 t1 u1 x1 y1 b2 f2 i2 k2 l2 m2 n2 o2 q2 s2 t2 u2 x2 y2 b3 f3 i3 k3 l3 m3 n3 o3 q3 s3 t3 u3 x3 y3 b4 f4 i4=>∃j:Nat,f1=(j:Int)/\j<=p1.length/\(p0.wX=i1/\p0.wC=k1/\p0.wN=l1/\p0.wM=m1/\p0.wJ=n1/\p0.wS=o1/\p0.wV=q1/\p0.wO=s1/\p0.wR=t1/\false=b2/\(0:Int)=f2/\(0:Int)=i2/\[]=k2/\[]=n3/\[]=o3/\[]=q3/\[]=s3/\[]=t3/\[]=u3)/\CI (CS.mk p0 l3 m3 u1 (PS.mk (wB.mk l2 m2 n2 o2 q2 s2 t2 u2 x2) (wD.mk y2 b3 f3) i3 k3 b4 f4 i4 x3 y3) x1 y1) j),(fun f1 _ _ _ _ _ _ _ _ _ _ _ _ _ _ _ _ _ _ _ _ _ _ _ _ _ _ _ _ _ _ _ _ _ _ _ _ _ _ _ _ _ _ _=>(p1.length-f1).toNat),⟨0,rfl,qbg _,⟨rfl,rfl,rfl,rfl,rfl,rfl,rfl,rfl,rfl,rfl,rfl,rfl,rfl,rfl,rfl,rfl,rfl,rfl,rfl⟩,newC_CI hE hw⟩,?_⟩;rintro _ _ _ _ _ _ _ _ _ _ u1 x1 y1 _ _ _ _ l2 m2 n2 o2 q2 s2 t2 u2 x2 y2 b3 f3 i3 k3 l3 m3 _ _ _ _ _ _ x3 y3 b4 f4 i4 ⟨j,rfl,hj,⟨rfl,rfl,rfl,rfl,rfl,rfl,rfl,rfl,rfl,rfl,rfl,rfl,rfl,rfl,rfl,rfl,rfl,rfl,rfl⟩,hC⟩;refine⟨fun e=> ?_,fun _=>rfl⟩;have e:(j:Int)<p1.length:=qb e;have hjl:j<p1.length:=by omega
  have hmem:p1[j]∈p1:=qak hjl;have hG:GB p1[j]:=smS_GB (hr _ hmem) (hsm _ hmem);have hD:=subS_CI hC qqo hG;have hDR:=subS_R (CS.mk p0 l3 m3 u1 (PS.mk (wB.mk l2 m2 n2 o2 q2 s2 t2 u2 x2) (wD.mk y2 b3 f3) i3 k3 b4 f4 i4 x3 y3) x1 y1) p1[j];rw[ix_get _ _ hjl,inc (j:Int) p1.length qqo e qqo];refine⟨by omega,e,rfl,rfl,rfl,⟨⟨⟨j,by omega,hC⟩,hG,hm⟩,rfl,rfl,rfl⟩,?_⟩;dsimp only;generalize subS (CS.mk p0 l3 m3 u1 (PS.mk (wB.mk l2 m2 n2 o2 q2 s2 t2 u2 x2) (wD.mk y2 b3 f3) i3 k3 b4 f4 i4 x3 y3) x1 y1) p1[j]=D at hD hDR ⊢;have hDR:D.c.R=p0:=hDR;obtain⟨b1,b2,b3⟩:=hD.bek;have hK:=hD.K;have hst:=hD.st;rw[hDR]at hK b3 hst;refine .inl ⟨hE,fun h=>(by cases h),fun _=> ?_⟩;refine⟨rfl,rfl,rfl,rfl,rfl,rfl,by omega,rfl,rfl,rfl,rfl,rfl,rfl,(fun k4 l4 m4 n4 o4 q4 s4 t4 u4 x4 y4 b5 f5 i5 k5 l5 m5 n5 o5 q5 s5 t5 u5 x5 y5 b6 f6 i6 k6 l6 m6 n6 o6 q6 s6 t6 u6 x6 y6 b7 f7 i7 k7 l7 m7 n7 o7 q7 s7 t7 u7 x7 y7 b8 f8 i8 k8 l8 m8 n8 o8 q8 s8=>∃m:Nat,k4=(m:Int)/\m<=D.c.be.length/\(D.c.S.R.wX=l5/\D.c.S.R.wC=m5/\D.c.S.R.wN=n5/\D.c.S.R.wM=o5/\D.c.S.R.wJ=q5/\D.c.S.R.wS=s5/\D.c.S.R.wV=t5/\D.c.S.R.wO=u5/\D.c.S.R.wR=x5/\D.c.S.F.wC=y5/\D.c.S.F.wZ=b6/\D.c.S.F.wc=f6/\D.c.S.b=i6/\D.c.S.n=k6/\p0.wX=l6/\p0.wC=m6/\p0.wN=n6/\p0.wM=o6/\p0.wJ=q6/\p0.wS=s6/\p0.wV=t6/\p0.wO=u6/\p0.wR=x6/\D.c.be=y6/\D.c.fi=b7/\D.c.he=f7/\false=i7/\(0:Int)=k7/\(0:Int)=l7/\[]=m7/\D.c.S.l=n7/\D.c.S.r=o7/\D.c.S.p=q7/\D.c.k=s7/\D.c.v=t7/\D.c.S.k=y7/\D.c.S.v=b8/\[]=f8/\[]=i8/\[]=k8/\[]=l8/\[]=m8/\[]=n8)/\(PS.mk (wB.mk l4 m4 n4 o4 q4 s4 t4 u4 x4) (wD.mk y4 b5 f5) i5 k5 o8 q8 s8 u7 x7)=(stL p0 D.c.k D.c.v (D.c.be.take m)).s),(fun k4 _ _ _ _ _ _ _ _ _ _ _ _ _ _ _ _ _ _ _ _ _ _ _ _ _ _ _ _ _ _ _ _ _ _ _ _ _ _ _ _ _ _ _ _ _ _ _ _ _ _ _ _ _ _ _ _ _ _ _ _ _ _=>(D.c.be.length-k4).toNat),⟨0,rfl,qbg _,⟨rfl,rfl,rfl,rfl,rfl,rfl,rfl,rfl,rfl,rfl,rfl,rfl,rfl,rfl,rfl,rfl,rfl,rfl,rfl,rfl,rfl,rfl,rfl,rfl,rfl,rfl,rfl,rfl,rfl,rfl,rfl,rfl,rfl,rfl,rfl,rfl,rfl,rfl,rfl,rfl,rfl,rfl,rfl⟩,rfl⟩,?_⟩;rintro _ l4 m4 n4 o4 q4 s4 t4 u4 x4 y4 b5 f5 i5 k5 _ _ _ _ _ _ _ _ _ _ _ _ _ _ _ _ _ _ _ _ _ _ _ _ _ _ _ _ _ _ _ _ _ _ _ u7 x7 _ _ _ _ _ _ _ _ o8 q8 s8 ⟨m,rfl,hmm,⟨rfl,rfl,rfl,rfl,rfl,rfl,rfl,rfl,rfl,rfl,rfl,rfl,rfl,rfl,rfl,rfl,rfl,rfl,rfl,rfl,rfl,rfl,rfl,rfl,rfl,rfl,rfl,rfl,rfl,rfl,rfl,rfl,rfl,rfl,rfl,rfl,rfl,rfl,rfl,rfl,rfl,rfl,rfl⟩,hT⟩;obtain⟨g1,g2⟩:=kog (R:=p0) b1 b3 m;have hPm:=(hK.pi g1 (by rw[qo];omega) g2).1;rw[<-hT]at hPm;refine⟨fun e2=> ?_,fun e2=> ?_⟩
  ·have e2:(m:Int)<D.c.be.length:=qb e2;have hml:m<D.c.be.length:=by omega
   have hin:=b1 _ (qak hml);obtain⟨q1,q2⟩:=hK.r _ hin;obtain⟨s1,s2⟩:=kpz b3 hml;rw[ix_get _ _ hml,inc (m:Int) D.c.be.length qqo e2 qqo];refine⟨by omega,e2,rfl,rfl,rfl,⟨⟨hK.kv,hin⟩,q2,q1.l⟩,fun h=>(by cases h),fun _=>⟨rfl,rfl,rfl,⟨⟨_,?_,hPm⟩,q1⟩,?_⟩⟩
   ·rw[qo];omega
   ·rw[hT];refine⟨fun e3=>(bne_iff_ne.1 e3 s1).elim,fun _=>⟨rfl,rfl,rfl,rfl,rfl,rfl,⟨m+1,rfl,by omega,⟨rfl,rfl,rfl,rfl,rfl,rfl,rfl,rfl,rfl,rfl,rfl,rfl,rfl,rfl,rfl,rfl,rfl,rfl,rfl,rfl,rfl,rfl,rfl,rfl,rfl,rfl,rfl,rfl,rfl,rfl,rfl,rfl,rfl,rfl,rfl,rfl,rfl,rfl,rfl,rfl,rfl,rfl,rfl⟩,?_⟩,by(first|omega|(dsimp only;omega))⟩⟩;rw[s2]
  ·have e2:¬(m:Int)<D.c.be.length:=qc e2;rw[qu qqo,<-hst]at hT;have hPD:=(hD.pi qqo).1;have hop:=hPm.open (by rw[qo];omega);have hb5:i5.length<=100000:=by have h1:i5.length<=_:=hPm.b.2.2;rw[qo]at h1;omega
   refine⟨rfl,rfl,rfl,⟨_,0,by rw[qo];omega,hPm⟩,rfl,rfl,rfl,rfl,rfl,rfl,⟨_,0,by omega,hPD⟩,?_⟩;refine⟨fun e3=> ?_,fun _=>⟨rfl,rfl,rfl,hb5,?_⟩⟩
   ·rw[hT]at e3;simp at e3
   ·refine⟨(fun t u=>∃r:Nat,u=(r:Int)/\r<=i5.length/\t=sumO (i5.take r)),(fun _ u=>(i5.length-u).toNat),⟨0,rfl,qbg _,rfl⟩,?_⟩;rintro _ _ ⟨r,rfl,hrr,rfl⟩;refine⟨fun e4=> ?_,fun e4=> ?_⟩
    ·have e4:(r:Int)<i5.length:=qb e4;have hrl:r<i5.length:=by omega
     rw[ix_get _ _ hrl,inc (r:Int) i5.length qqo e4 qqo];refine⟨by omega,e4,⟨r+1,rfl,by omega,?_⟩,by(first|omega|(dsimp only;omega))⟩;unfold sumO;rw[qai hrl,List.foldl_append];rfl
    ·have e4:¬(r:Int)<i5.length:=qc e4;rw[qu qqo];have hR5:wB.mk l4 m4 n4 o4 q4 s4 t4 u4 x4=p0:=by have h1:D.c.S.R=D.c.R:=(hD.pi qqo).2.2;rw[<-hT,hDR]at h1;exact h1
     have h2:u64.wrap (sumO i5+k5)=u64.wrap (u64.wrap (s8.length:Int)*p0.wS):=by rw[<-hR5];exact hop.2
     refine⟨rfl,rfl,rfl,rfl,rfl,rfl,fun e5=> ?_,fun _=>⟨rfl,rfl,rfl,⟨j+1,rfl,by omega,⟨rfl,rfl,rfl,rfl,rfl,rfl,rfl,rfl,rfl,rfl,rfl,rfl,rfl,rfl,rfl,rfl,rfl,rfl,rfl⟩,?_⟩,by(first|omega|(dsimp only;omega))⟩⟩
     ·exact(bne_iff_ne.1 e5 h2).elim
     ·have:=hD;rw[CS.eta_R hDR]at this;exact this
 ·have e0:((rulesE p0) !=0)=true:=bne_iff_ne.2 hE;rw[e0];exact jt
end Go.Proofs.YtcghahkoioeddaaGreatDoor
end
