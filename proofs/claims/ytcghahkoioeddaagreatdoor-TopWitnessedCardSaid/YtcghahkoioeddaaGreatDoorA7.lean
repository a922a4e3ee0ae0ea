/-
  Parts of the proofs that the laws of this seat hold of every input, merged by a program: a machine over pure data that is sound for the model, what each function of the translation does in it, and plain lemmas. No conditions but those in each theorem.
-/
import Derived.Test.YtcghahkoioeddaaGreatDoorA6
set_option linter.all false
set_option maxRecDepth 100000
noncomputable section
namespace Go.Proofs.YtcghahkoioeddaaGreatDoor
open Go Go.Bv Go.Cv Go.Md Go.RowKit
open Go.IntKind (i64 u64)
noncomputable def kbe:Con TB.den:= .b ⟨13,[.one (.ptr 0 0),.agg yI1],yB,(.tup [.one (zqi),.one (zqi),.one (zqi)]),yA,false⟩ (.st 3:: .int .i64:: .int .i64:: .int .i64:: .int .i64:: .int .i64:: .int .u64:: .int .i64:: .int .i64:: .int .u64:: .sl yqu:: .int .u64:: .int .i64:: .bool::yH) (.int .i64:: .int .i64:: .int .i64:: .int .i64:: .int .i64:: .int .i64:: .int .i64:: .int .i64:: .int .u64:: .int .i64:: .int .i64:: .int .u64:: .sl yqu:: .int .u64:: .int .i64:: .bool::yI) fun(p1:wH) (Aa Ae Ab Am Ao Ag Aj Ah Ai:Int) (Ad:Li) (Ap Af:Int) (At:Bool) (Au Av:Int) (As:List wD) (Bb Bc Bd Be Bf Bg Bh Bi Bj Bk Az:Int) (A0:Li) (A7:List wA) (A8:Int) (w2k:Li) (w2v:List wK) (w4k:Lb) (w4v:Li) (w5k:Lb) (w5v:List (Li)) (w6k:Lb) (w6v:Lo) (w7 w9:Li) (w10:List wJ) (w11k:Li) (w11v:Lo)=>(SCh (CS.mk (wE.mk Aa Ae Ab Am Ao Ag Aj Ah Ai) w2k w2v Ad (PS.mk (wE.mk Bb Bc Bd Be Bf Bg Bh Bi Bj) (wG.mk Bk Az A0) A7 A8 w7 w9 w10 w11k w11v) Ap Af) p1/\At=false/\w4k=([]:Lb)/\w4v=([]:Li),subS (CS.mk (wE.mk Aa Ae Ab Am Ao Ag Aj Ah Ai) w2k w2v Ad (PS.mk (wE.mk Bb Bc Bd Be Bf Bg Bh Bi Bj) (wG.mk Bk Az A0) A7 A8 w7 w9 w10 w11k w11v) Ap Af) p1,fun R=>(R.u,R.a,R.e,Aa,Ae,Ab,Am,Ao,Ag,Aj,Ah,Ai,R.c.be,R.c.fi,R.c.he,At,Au,Av,As,R.c.S.R.wb,R.c.S.R.wB,R.c.S.R.wP,R.c.S.R.wO,R.c.S.R.wL,R.c.S.R.wV,R.c.S.R.wc,R.c.S.R.wS,R.c.S.R.wW,R.c.S.F.wB,R.c.S.F.wd,R.c.S.F.wg,R.c.S.b,R.c.S.n,R.c.k,R.c.v,w4k,w4v,w5k,w5v,w6k,w6v,R.c.S.k,R.c.S.v,R.c.S.l,R.c.S.r,R.c.S.p,()))
abbrev ku (R:SubR) (Aa Ae Ab Am Ao Ag Aj Ah Ai:Int) (At:Bool) (Au Av:Int) (As:List wD) (w4k:Lb) (w4v:Li) (w5k:Lb) (w5v:List (Li)) (w6k:Lb) (w6v:Lo) (o0 o1 o2 o3 o4 o5 o6 o7 o8 o9 o10 o11:Int) (o12:Li) (o13 o14:Int) (o15:Bool) (o16 o17:Int) (o18:List wD) (o19 o20 o21 o22 o23 o24 o25 o26 o27 o28 o29:Int) (o30:Li) (o31:List wA) (o32:Int) (o33:Li) (o34:List wK) (o35:Lb) (o36:Li) (o37:Lb) (o38:List (Li)) (o39:Lb) (o40:Lo) (o41:Li) (o42:Lo) (o43 o44:Li) (o45:List wJ):Prop:=o0=R.u/\o1=R.a/\o2=R.e/\o3=Aa/\o4=Ae/\o5=Ab/\o6=Am/\o7=Ao/\o8=Ag/\o9=Aj/\o10=Ah/\o11=Ai/\o12=R.c.be/\o13=R.c.fi/\o14=R.c.he/\o15=At/\o16=Au/\o17=Av/\o18=As/\o19=R.c.S.R.wb/\o20=R.c.S.R.wB/\o21=R.c.S.R.wP/\o22=R.c.S.R.wO/\o23=R.c.S.R.wL/\o24=R.c.S.R.wV/\o25=R.c.S.R.wc/\o26=R.c.S.R.wS/\o27=R.c.S.R.wW/\o28=R.c.S.F.wB/\o29=R.c.S.F.wd/\o30=R.c.S.F.wg/\o31=R.c.S.b/\o32=R.c.S.n/\o33=R.c.k/\o34=R.c.v/\o35=w4k/\o36=w4v/\o37=w5k/\o38=w5v/\o39=w6k/\o40=w6v/\o41=R.c.S.k/\o42=R.c.S.v/\o43=R.c.S.l/\o44=R.c.S.r/\o45=R.c.S.p
theorem k4y:kbe.Ok Tryz.prog TB:=pbv Bs Tryz.func13 (.r 0 (.nd [] (.r 1 (.nd [] (.r 0 (.rt [.trimc 3 12,.trimc 3 16,.trimc 3 17])) [] .no)) [] (.r 0 (.nd [] (.r 1 (.nd [] (.r 0 (.rt [.trimc 3 12,.trimc 3 16,.trimc 3 17])) [] .no)) [] (.nd [] (.r 1 (.nd [] (.r 0 (.rt [.trimc 3 12,.trimc 3 16,.trimc 3 17])) [] .no)) [] (.r 0 (.nd [] (.jn ⟨[],[],[78],[.one (.d (.bool))],[]⟩ [] .no [] (.nd [] (.r 0 (.rt [.trimc 3 12,.trimc 3 16,.trimc 3 17])) [] .no)) [] (.nd [] (.r 0 (.lp [] ⟨[6,5,4,1],yR,[82],[.one (zqi)],[]⟩ (.r 1 (.nd [] (.r 2 (.nd [] (.r 0 (.rt [.trimc 3 12,.trimc 3 16,.trimc 3 17])) [] .no)) [] .no)))) [] (.r 0 (.jn ⟨[],[],[16],[.one (zqi)],[]⟩ [] (.lp [] ⟨[],[],[16],[.one (zqi)],[]⟩ .no) [] (.r 2 (.jn ⟨[],[],[18],[.one (zqu)],[]⟩ [] .no [] .no)))))))))))) (keb.c (kkm.c (kdv.c (k9y.c (kc4.c (kgy.c (k3d.c (kdz.c (k5u.c (kaa.c c0)))))))))) (Q:=∀(p1:wH) (Aa Ae Ab Am Ao Ag Aj Ah Ai:Int) (Ad:Li) (Ap Af:Int) (At:Bool) (Au Av:Int) (As:List wD) (Bb Bc Bd Be Bf Bg Bh Bi Bj Bk Az:Int) (A0:Li) (A7:List wA) (A8:Int) (w2k:Li) (w2v:List wK) (w4k:Lb) (w4v:Li) (w5k:Lb) (w5v:List (Li)) (w6k:Lb) (w6v:Lo) (w7 w9:Li) (w10:List wJ) (w11k:Li) (w11v:Lo),(SCh (CS.mk (wE.mk Aa Ae Ab Am Ao Ag Aj Ah Ai) w2k w2v Ad (PS.mk (wE.mk Bb Bc Bd Be Bf Bg Bh Bi Bj) (wG.mk Bk Az A0) A7 A8 w7 w9 w10 w11k w11v) Ap Af) p1/\At=false/\w4k=([]:Lb)/\w4v=([]:Li))->∀R,subS (CS.mk (wE.mk Aa Ae Ab Am Ao Ag Aj Ah Ai) w2k w2v Ad (PS.mk (wE.mk Bb Bc Bd Be Bf Bg Bh Bi Bj) (wG.mk Bk Az A0) A7 A8 w7 w9 w10 w11k w11v) Ap Af) p1=R-> 
(BR p1)/\let r3:Int:=(checkB (wE.mk Aa Ae Ab Am Ao Ag Aj Ah Ai).wW p1)
((r3 !=0)=true->
 lz w7/\lz w9/\lz w10/\lz w10/\lz w9/\lz w7/\ku R Aa Ae Ab Am Ao Ag Aj Ah Ai At Au Av As w4k w4v w5k w5v w6k w6v 0 0 r3 Aa Ae Ab Am Ao Ag Aj Ah Ai Ad Ap Af At Au Av As Bb Bc Bd Be Bf Bg Bh Bi Bj Bk Az A0 A7 A8 w2k w2v w4k w4v w5k w5v w6k w6v w11k w11v w7 w9 w10)/\
((r3 !=0)=false->
(BR p1)/\w2k.length=w2v.length/\let v4:wK:=mVal (BEq.beq (idB p1)) w2k w2v (default:wK)
(mHas (BEq.beq (idB p1)) w2k=true->
 lz w7/\lz w9/\lz w10/\lz w10/\lz w9/\lz w7/\ku R Aa Ae Ab Am Ao Ag Aj Ah Ai At Au Av As w4k w4v w5k w5v w6k w6v 0 0 5 Aa Ae Ab Am Ao Ag Aj Ah Ai Ad Ap Af At Au Av As Bb Bc Bd Be Bf Bg Bh Bi Bj Bk Az A0 A7 A8 w2k w2v w4k w4v w5k w5v w6k w6v w11k w11v w7 w9 w10)/\
(mHas (BEq.beq (idB p1)) w2k=false->
 lz w10/\lz w9/\lz w7/\(w2k.length=w2v.length)/\(((parS w2k w2v p1) !=0)=true->
 lz w7/\lz w9/\lz w10/\lz w10/\lz w9/\lz w7/\ku R Aa Ae Ab Am Ao Ag Aj Ah Ai At Au Av As w4k w4v w5k w5v w6k w6v 0 0 (parS w2k w2v p1) Aa Ae Ab Am Ao Ag Aj Ah Ai Ad Ap Af At Au Av As Bb Bc Bd Be Bf Bg Bh Bi Bj Bk Az A0 A7 A8 w2k w2v w4k w4v w5k w5v w6k w6v w11k w11v w7 w9 w10)/\
(((parS w2k w2v p1) !=0)=false->
 lz w10/\lz w9/\lz w7/\((∃(R:wE) (n:Nat),KI R w2k w2v n/\n<=20)/\PaOk w2k w2v p1/\1<=p1.wM)/\∀J1:Bool->Prop,(∀(b1:Bool),
((b1=true->
 lz w7/\lz w9/\lz w10/\lz w10/\lz w9/\lz w7/\ku R Aa Ae Ab Am Ao Ag Aj Ah Ai At Au Av As w4k w4v w5k w5v w6k w6v 0 0 19 Aa Ae Ab Am Ao Ag Aj Ah Ai Ad Ap Af At Au Av As Bb Bc Bd Be Bf Bg Bh Bi Bj Bk Az A0 A7 A8 w2k w2v w4k w4v w5k w5v w6k w6v w11k w11v w7 w9 w10)/\
(b1=false->
 ∃(I1:Fz5 Prop) (M1:Fz5 Nat),I1 0 At Au Av As w6k w6v w5k w5v w4k w4v/\∀f1 i1 k1 l1 m1 n1 o1 q1 s1 t1 u1,(I1 f1 i1 k1 l1 m1 n1 o1 q1 s1 t1 u1->
(decide (f1<(p1.Txs.length:Int))=true->
(0<=f1)/\f1<(p1.Txs.length:Int)/\(((wE.mk Aa Ae Ab Am Ao Ag Aj Ah Ai).wb=2/\TR (ix p1.Txs f1)/\(ix p1.Txs f1).wo.length<=137438953472)/\i1=false/\t1=([]:Lb)/\u1=([]:Li))/\let r7:Int:=(txE (wE.mk Aa Ae Ab Am Ao Ag Aj Ah Ai) (ix p1.Txs f1))
((r7 !=0)=true->
 lz w7/\lz w9/\lz w10/\lz w10/\lz w9/\lz w7/\ku R Aa Ae Ab Am Ao Ag Aj Ah Ai At Au Av As w4k w4v w5k w5v w6k w6v 0 0 r7 Aa Ae Ab Am Ao Ag Aj Ah Ai Ad Ap Af i1 k1 l1 m1 Bb Bc Bd Be Bf Bg Bh Bi Bj Bk Az A0 A7 A8 w2k w2v t1 u1 q1 s1 n1 o1 w11k w11v w7 w9 w10)/\
((r7 !=0)=false->
 I1 (i64.wrap (f1+1)) i1 k1 l1 m1 n1 o1 q1 s1 t1 u1/\M1 (i64.wrap (f1+1)) i1 k1 l1 m1 n1 o1 q1 s1 t1 u1<M1 f1 i1 k1 l1 m1 n1 o1 q1 s1 t1 u1))/\
(decide (f1<(p1.Txs.length:Int))=false->
 ∀J2:Int->Prop,(∀(x1:Int),
((0<=x1)/\x1<=(Ad.length:Int)/\(0<=x1)/\x1<=((brB w2k w2v p1).length:Int)/\lz w10/\lz w9/\lz w7/\(w2k.length=w2v.length/\MvOk w2k w2v (PS.mk (wE.mk Bb Bc Bd Be Bf Bg Bh Bi Bj) (wG.mk Bk Az A0) A7 A8 w7 w9 w10 w11k w11v) (Ad.drop x1.toNat).length ((brB w2k w2v p1).drop x1.toNat))/\let r10:=mvS w2k w2v (PS.mk (wE.mk Bb Bc Bd Be Bf Bg Bh Bi Bj) (wG.mk Bk Az A0) A7 A8 w7 w9 w10 w11k w11v) (Ad.drop x1.toNat).length ((brB w2k w2v p1).drop x1.toNat)
 lz r10.p/\lz r10.r/\lz r10.l/\((∃c:Nat,c+p1.Txs.length<=790/\PI (r10) c 0)/\BR' p1)/\((((applyS (r10) p1).e) !=0)=true->
(0<=x1)/\x1<=((brB w2k w2v p1).length:Int)/\(0<=x1)/\x1<=(Ad.length:Int)/\lz (((applyS (r10) p1).s).p)/\lz (((applyS (r10) p1).s).r)/\lz (((applyS (r10) p1).s).l)/\(w2k.length=w2v.length/\MvOk w2k w2v (((applyS (r10) p1).s)) ((brB w2k w2v p1).drop x1.toNat).length (Ad.drop x1.toNat))/\let r11:=mvS w2k w2v (((applyS (r10) p1).s)) ((brB w2k w2v p1).drop x1.toNat).length (Ad.drop x1.toNat)
 lz r11.p/\lz r11.r/\lz r11.l/\ku R Aa Ae Ab Am Ao Ag Aj Ah Ai At Au Av As w4k w4v w5k w5v w6k w6v 0 0 ((applyS (r10) p1).e) Aa Ae Ab Am Ao Ag Aj Ah Ai Ad Ap Af i1 k1 l1 m1 r11.R.wb r11.R.wB r11.R.wP r11.R.wO r11.R.wL r11.R.wV r11.R.wc r11.R.wS r11.R.wW r11.F.wB r11.F.wd r11.F.wg r11.b r11.n w2k w2v t1 u1 q1 s1 n1 o1 r11.k r11.v r11.l r11.r r11.p)/\
((((applyS (r10) p1).e) !=0)=false->
 ∀J3:Int->Prop,(∀(b2:Int),
(lz (((applyS (r10) p1).s).p)/\lz (((applyS (r10) p1).s).r)/\lz (((applyS (r10) p1).s).l)/\(w2k.length=w2v.length/\Ad.length<=1000)/\(p1.Txs.length<=4294967295/\∀x∈p1.Txs,TL x)/\w2k.length=w2v.length/\let v14:Li:=mPutK (BEq.beq (idB p1)) w2k (idB p1)
 let v15:List wK:=mPutV (BEq.beq (idB p1)) w2k w2v (wK.mk p1.wh p1.wM p1.wAT p1.wW p1.wY p1.Txs b2)
 lz (brB w2k w2v p1)/\((brB w2k w2v p1).length+[(idB p1)].length)*8<=140737488355328/\(brB w2k w2v p1).length+[(idB p1)].length<=maxLen/\((!(betS w2k w2v Ad (idB p1) b2))=true->
(0<=x1)/\x1<=(((brB w2k w2v p1)++[(idB p1)]).length:Int)/\let v16:Li:=((brB w2k w2v p1)++[(idB p1)]).drop x1.toNat
(0<=x1)/\x1<=(Ad.length:Int)/\lz (((applyS (r10) p1).s).p)/\lz (((applyS (r10) p1).s).r)/\lz (((applyS (r10) p1).s).l)/\(v14.length=v15.length/\MvOk v14 v15 (((applyS (r10) p1).s)) v16.length (Ad.drop x1.toNat))/\let r17:=mvS v14 v15 (((applyS (r10) p1).s)) v16.length (Ad.drop x1.toNat)
 lz r17.p/\lz r17.r/\lz r17.l/\ku R Aa Ae Ab Am Ao Ag Aj Ah Ai At Au Av As w4k w4v w5k w5v w6k w6v 0 0 0 Aa Ae Ab Am Ao Ag Aj Ah Ai Ad Ap Af i1 k1 l1 m1 r17.R.wb r17.R.wB r17.R.wP r17.R.wO r17.R.wL r17.R.wV r17.R.wc r17.R.wS r17.R.wW r17.F.wB r17.F.wd r17.F.wg r17.b r17.n v14 v15 t1 u1 q1 s1 n1 o1 r17.k r17.v r17.l r17.r r17.p)/\
((!(betS w2k w2v Ad (idB p1) b2))=false->
 let v18:Int:=i64.wrap ((Ad.length:Int)-x1)
 let v19:Int:=(((brB w2k w2v p1)++[(idB p1)]).length:Int)
 lz (((applyS (r10) p1).s).p)/\lz (((applyS (r10) p1).s).r)/\lz (((applyS (r10) p1).s).l)/\((brB w2k w2v p1)++[(idB p1)]=(brB w2k w2v p1)++[(idB p1)])/\((1<=Ah/\Ah<=1048576)/\((brB w2k w2v p1)++[(idB p1)]).length<=1000)/\let r20:=finS Ah ((brB w2k w2v p1)++[(idB p1)]) Ap Af
 lz (((applyS (r10) p1).s).p)/\lz (((applyS (r10) p1).s).r)/\lz (((applyS (r10) p1).s).l)/\ku R Aa Ae Ab Am Ao Ag Aj Ah Ai At Au Av As w4k w4v w5k w5v w6k w6v v18 (i64.wrap (v19-x1)) 0 Aa Ae Ab Am Ao Ag Aj Ah Ai ((brB w2k w2v p1)++[(idB p1)]) r20.f r20.h i1 k1 l1 m1 (((applyS (r10) p1).s).R.wb) (((applyS (r10) p1).s).R.wB) (((applyS (r10) p1).s).R.wP) (((applyS (r10) p1).s).R.wO) (((applyS (r10) p1).s).R.wL) (((applyS (r10) p1).s).R.wV) (((applyS (r10) p1).s).R.wc) (((applyS (r10) p1).s).R.wS) (((applyS (r10) p1).s).R.wW) (((applyS (r10) p1).s).F.wB) (((applyS (r10) p1).s).F.wd) (((applyS (r10) p1).s).F.wg) (((applyS (r10) p1).s).b) (((applyS (r10) p1).s).n) v14 v15 t1 u1 q1 s1 n1 o1 (((applyS (r10) p1).s).k) (((applyS (r10) p1).s).v) (((applyS (r10) p1).s).l) (((applyS (r10) p1).s).r) (((applyS (r10) p1).s).p)))->J3 b2)->
 let v12:Bool:=decide (0<((brB w2k w2v p1).length:Int))
(v12=true->
 w2k.length=w2v.length/\let v13:wK:=mVal (BEq.beq p1.wh) w2k w2v (default:wK)
 J3 (u64.wrap (p1.wW+v13.work)))/\
(v12=false->
 J3 p1.wW)))->J2 x1)->
 ∃(I2:Int->Prop) (M2:Int->Nat),I2 0/\∀y1,(I2 y1->
 let v8:Bool:=decide (y1<((brB w2k w2v p1).length:Int))
(v8=true->
(decide (y1<(Ad.length:Int))=true->
(0<=y1)/\y1<((brB w2k w2v p1).length:Int)/\(0<=y1)/\y1<(Ad.length:Int)/\let v9:Bool:=((ix (brB w2k w2v p1) y1)==(ix Ad y1))
(v9=true->
 I2 (i64.wrap (y1+1))/\M2 (i64.wrap (y1+1))<M2 y1)/\
(v9=false->
 J2 y1))/\
(decide (y1<(Ad.length:Int))=false->
 J2 y1))/\
(v8=false->
 J2 y1))))))->J1 b1)->
(decide (0<Af)=true->
 let v5:Bool:=decide (((brB w2k w2v p1).length:Int)<Af)
(v5=true->
 J1 true)/\
(v5=false->
(0<=i64.wrap (Af-1))/\i64.wrap (Af-1)<((brB w2k w2v p1).length:Int)/\let v6:Int:=ix (brB w2k w2v p1) (i64.wrap (Af-1))
 J1 (v6 !=Ap)))/\
(decide (0<Af)=false->
 J1 false)))))<|by
 rintro p1 Aa Ae Ab Am Ao Ag Aj Ah Ai Ad Ap Af At Au Av As Bb Bc Bd Be Bf Bg Bh Bi Bj Bk Az A0 A7 A8 w2k w2v w4k w4v w5k w5v w6k w6v w7 w9 w10 w11k w11v h R hR;obtain⟨hS,rfl,rfl,rfl⟩:=h;obtain⟨n,hn,hK,b1,b2,b3,hst,he0,hb,hm⟩:=hS.facts;have hkv:=hK.kv;have hF:=kgf hK.ru;have h64:=hb.t;refine⟨hb.r,fun e1=> ?_,fun e1=> ?_⟩
 ·have hq:=hR.symm.trans (sub_e1 (bne_iff_ne.1 e1));subst hq;exact(by repeat' first|apply qq|exact rfl|exact qn)
 ·have h1:=bne_eq_false_iff_eq.1 e1;refine⟨hb.r,hkv,fun e2=> ?_,fun e2=> ?_⟩
  ·have hq:=hR.symm.trans (sub_e2 h1 (k1x.1 e2));subst hq;exact(by repeat' first|apply qq|exact rfl|exact qn)
  ·have h2:idB p1∉w2k:=fun h=>by rw[k1x.2 h]at e2;cases e2
   refine⟨rfl,rfl,rfl,hkv,fun e3=> ?_,fun e3=> ?_⟩
   ·have hq:=hR.symm.trans (sub_e3 h1 h2 (bne_iff_ne.1 e3));subst hq;exact(by repeat' first|apply qq|exact rfl|exact qn)
   ·have h3:=bne_eq_false_iff_eq.1 e3;have hv:=khj h1;have hp:=parS_ok h3 hv;obtain⟨q1,q2,q3,q4,q5⟩:=hK.br hp hv.h.h0;refine⟨rfl,rfl,rfl,⟨⟨_,n,hK,by omega⟩,hp,hv.h.h0⟩,?_⟩;intro J1 k1
    have j1:∀b:Bool,(b=true↔(0<Af/\(((brB w2k w2v p1).length:Int)<Af∨ix (brB w2k w2v p1) (Af-1)≠Ap)))->J1 b:=by
     intro b hbb;refine k1 b ⟨fun e4=> ?_,fun e4=> ?_⟩
     ·have hq:=hR.symm.trans (sub_e4 h1 h2 h3 (hbb.1 e4));subst hq;exact(by repeat' first|apply qq|exact rfl|exact qn)
     ·have h4:¬(0<Af/\(((brB w2k w2v p1).length:Int)<Af∨ix (brB w2k w2v p1) (Af-1)≠Ap)):=fun h=>by rw[hbb.2 h]at e4;cases e4
      refine⟨(fun f i k l m n o q s t u=>∃j:Nat,f=(j:Int)/\j<=p1.Txs.length/\(false=i/\Au=k/\Av=l/\As=m/\w6k=n/\w6v=o/\w5k=q/\w5v=s/\[]=t/\[]=u)/\txsE (wE.mk Aa Ae Ab Am Ao Ag Aj Ah Ai) (p1.Txs.drop j)=txsE (wE.mk Aa Ae Ab Am Ao Ag Aj Ah Ai) p1.Txs),(fun f _ _ _ _ _ _ _ _ _ _=>(p1.Txs.length-f).toNat),⟨0,rfl,qax _,⟨rfl,rfl,rfl,rfl,rfl,rfl,rfl,rfl,rfl,rfl⟩,rfl⟩,?_⟩;rintro _ _ _ _ _ _ _ _ _ _ _ ⟨j,rfl,hj,⟨rfl,rfl,rfl,rfl,rfl,rfl,rfl,rfl,rfl,rfl⟩,ht⟩;refine⟨fun e5=> ?_,fun e5=> ?_⟩
      ·have e5:(j:Int)<p1.Txs.length:=qb e5;have hjl:j<p1.Txs.length:=by omega
       have hmem:p1.Txs[j]∈p1.Txs:=qal hjl;rw[ix_get _ _ hjl,inc (j:Int) p1.Txs.length qqo e5 qqo];rw[kmf hjl]at ht;refine⟨by omega,e5,⟨⟨hm,hb.r.t _ hmem,by have:=(hb.l _ hmem).p;omega⟩,rfl,rfl,rfl⟩,fun e6=> ?_,fun e6=> ?_⟩
       ·have e6:=bne_iff_ne.1 e6;rw[qi e6]at ht;have hq:=hR.symm.trans (sub_e5 h1 h2 h3 h4 (by rw[<-ht];exact e6));rw[<-ht]at hq;subst hq;exact(by repeat' first|apply qq|exact rfl|exact qn)
       ·have e6:=bne_eq_false_iff_eq.1 e6;rw[qf (fun hh=>hh e6)]at ht;exact⟨⟨j+1,rfl,by omega,⟨rfl,rfl,rfl,rfl,rfl,rfl,rfl,rfl,rfl,rfl⟩,ht⟩,by(first|omega|(dsimp only;omega))⟩
      ·have e5:¬(j:Int)<p1.Txs.length:=qc e5;rw[qav qqo]at ht;have h5:txsE (wE.mk Aa Ae Ab Am Ao Ag Aj Ah Ai) p1.Txs=0:=ht.symm;intro J2 k2;obtain⟨c1,c2,hct⟩:=cpl_le (brB w2k w2v p1) Ad
       have j2:∀i:Nat,i=cpl (brB w2k w2v p1) Ad->J2 (i:Int):=by
        intro i hi;rw[<-hi]at c1 c2 hct;refine k2 _ ?_;rw[qt];obtain⟨m1,m2⟩:=hK.mv qqo b1 q2 qqo qqo b3 q3 c2 c1 hct.symm hst;have hP:=(hK.pi q2 qqo q3).1;refine⟨by omega,by omega,by omega,by omega,rfl,rfl,rfl,⟨hkv,m1⟩,?_⟩;dsimp only;rw[m2];refine⟨rfl,rfl,rfl,⟨⟨_,by have:=hb.t;omega,hP⟩,hb.r'⟩,fun e6=> ?_,fun e6=> ?_⟩
        ·have e6:=bne_iff_ne.1 e6;obtain⟨m3,m4⟩:=hK.mv qqo q2 b1 qqo qqo q3 b3 c1 c2 hct (kku e6);refine⟨by omega,by omega,by omega,by omega,rfl,rfl,rfl,⟨hkv,m3⟩,?_⟩;rw[m4,<-hst];have hq:=hR.symm.trans (sub_e6 h1 h2 h3 h4 h5 e6);subst hq;exact(by repeat' first|apply qq|exact rfl|exact qn)
        ·have e6:=bne_eq_false_iff_eq.1 e6;have hN:NB (wE.mk Aa Ae Ab Am Ao Ag Aj Ah Ai) w2k w2v (idB p1) p1:=⟨h2,hp,hv.h.h0,hb.r',hb.t,e6,h5⟩;intro J3 k3
         have j3:∀w:Int,w=wk8 w2k w2v p1->J3 w:=by
          intro w hw;refine k3 w ?_;obtain⟨g1,g2⟩:=kly h2 w2v (stoS p1 w);have g2:mPutV (BEq.beq (idB p1)) w2k w2v (wK.mk p1.wh p1.wM p1.wAT p1.wW p1.wY p1.Txs w)=w2v++[stoS p1 w]:=g2;refine⟨rfl,rfl,rfl,⟨hkv,by omega⟩,⟨by have:=hb.t;omega,hb.l⟩,hkv,?_⟩;rw[g1,g2];obtain⟨s1,s2,s3⟩:=hK.step (y:=stoS p1 w) hN;rw[blk_sto]at s3;have hl1:(brB w2k w2v p1++[idB p1]).length=(brB w2k w2v p1).length+1:=by simp
          refine⟨rfl,by simp only[qbn];omega,by simp only[qbn];unfold maxLen;omega,fun e7=> ?_,fun e7=> ?_⟩
          ·have hbt:betS w2k w2v Ad (idB p1) w=false:=by simpa using e7
           have hbo:=stL_old (R:=(wE.mk Aa Ae Ab Am Ao Ag Aj Ah Ai)) (id:=idB p1) (y:=stoS p1 w) hkv b1
           obtain⟨m5,m6⟩:=s1.mv qqo (l:=brB w2k w2v p1++[idB p1]) (m:=Ad) (i:=i) (fun x hx=>by
            rcases qae.1 hx with hx|hx
            ·simp[q2 x hx]
            ·simp[qag.1 hx]) (fun x hx=>by simp[b1 x hx]) qqo qqo (by rw[s3]) (by rw[hbo];exact b3) qqo qqo (by rw[List.take_append_of_le_length c1];exact hct) (show(applyS (stL (wE.mk Aa Ae Ab Am Ao Ag Aj Ah Ai) w2k w2v (brB w2k w2v p1)).s p1).s=_ by rw[s3])
           refine⟨by omega,by omega,by omega,by omega,rfl,rfl,rfl,⟨by simp[hkv],m5⟩,?_⟩;rw[m6,hbo,<-hst];have hq:=hR.symm.trans (sub_no h1 h2 h3 h4 h5 e6 hw hbt);subst hq;exact(by repeat' first|apply qq|exact rfl|exact qn)
          ·have hbt:betS w2k w2v Ad (idB p1) w=true:=by simpa using e7
           have w1:i64.wrap ((Ad.length:Int)-(i:Int))=(Ad.length:Int)-(i:Int):=wi _ qqo qqo;have w2:i64.wrap (((brB w2k w2v p1++[idB p1]).length:Int)-(i:Int))=((brB w2k w2v p1).length:Int)+1-(i:Int):=by rw[hl1,wi _ qqo qqo];omega
           refine⟨rfl,rfl,rfl,rfl,⟨hF,by omega⟩,rfl,rfl,rfl,?_⟩;have hq:=hR.symm.trans (sub_yes h1 h2 h3 h4 h5 e6 hw hbt hi);subst hq;exact(by repeat' first|apply qq|exact w1|exact w2|exact rfl|exact qn)
         refine⟨fun e7=>⟨hkv,j3 _ ?_⟩,fun e7=>j3 _ ?_⟩
         ·unfold wk8;rw[qf (fun hh=>by have:=qb e7;rw[hh]at this;simp at this)];rfl
         ·unfold wk8;rw[qi (qdg.1 (by have:=qc e7;omega))]
       refine⟨(fun y=>∃i:Nat,y=(i:Int)/\i<=cpl (brB w2k w2v p1) Ad),(fun y=>((brB w2k w2v p1).length-y).toNat),⟨0,rfl,qax _⟩,?_⟩;rintro _ ⟨i,rfl,hi⟩;have hci:=cpl_ix hi;refine⟨fun e6=>⟨fun e7=> ?_,fun e7=> ?_⟩,fun e6=> ?_⟩
       ·have e6:(i:Int)<(brB w2k w2v p1).length:=qb e6;have e7:(i:Int)<Ad.length:=qb e7;refine⟨by omega,e6,by omega,e7,fun e8=> ?_,fun e8=> ?_⟩
        ·have e8:=eq_of_beq e8;rw[inc (i:Int) (brB w2k w2v p1).length qqo e6 qqo];refine⟨⟨i+1,rfl,?_⟩,by(first|omega|(dsimp only;omega))⟩;have:i≠cpl (brB w2k w2v p1) Ad:=fun hh=>hci.1 hh ⟨by omega,by omega,e8⟩;omega
        ·exact j2 i (hci.2 fun hh=>by rw[hh.2.2]at e8;simp at e8)
       ·have e7:¬(i:Int)<Ad.length:=qc e7;exact j2 i (hci.2 fun hh=>by omega)
       ·have e6:¬(i:Int)<(brB w2k w2v p1).length:=qc e6;exact j2 i (hci.2 fun hh=>by omega)
    refine⟨fun e4=>⟨fun e5=> ?_,fun e5=> ?_⟩,fun e4=> ?_⟩
    ·exact j1 true ⟨fun _=>⟨qb e4,.inl (qb e5)⟩,fun _=>rfl⟩
    ·have e4:=qb e4;have e5:¬((brB w2k w2v p1).length:Int)<Af:=qc e5;rw[wi (Af-1) qqo qqo];exact⟨by omega,by omega,j1 _ ⟨fun e6=>⟨e4,.inr (bne_iff_ne.1 e6)⟩,fun hh=>hh.2.elim (fun h=>(e5 h).elim) (fun h=>bne_iff_ne.2 h)⟩⟩
    ·exact j1 false ⟨fun h=>(by cases h),fun hh=>(qc e4 hh.1).elim⟩
noncomputable def k95:Con TB.den:= .g ⟨72,[.one (.row 0)],[.vec yqu],(.one (.one (.row 1))),[.vec yqu,.vec yqu],false⟩ [.sl yqu] [.sl yqu,.sl yqu] [] fun(w0:Li)=>(w0.length<=1000000,w0,w0,())
theorem ka1:k95.Ok Tryz.prog TB:=prx Bs [5,7] Tryz.func72 (.r 0 (.nd [] (.r 0 (.nd [] (.r 0 (.rt [.rnil 2 yqu])) [] .no)) [] .no)) x0 c0 (Q:=∀(w0:Li),(w0.length<=1000000)->∀e0:Li,w0=e0->∀e1:Li,w0=e1-> 
 ∀z4:Bool,(z4=true->w0.length=0)->(z4=true->
(0=([]:Li).length)/\w0=e0/\([]:Li)=e1)/\
(z4=false->
 lz ([]:Li)/\lz w0/\(([]:Li).length+w0.length)*8<=140737488355328/\([]:Li).length+w0.length<=maxLen/\lz (([]:Li)++w0)/\w0=e0/\([]:Li)++w0=e1))<|by rintro w0 h _ rfl _ rfl;exact fun z hz=>⟨fun e=>⟨rfl,rfl,(qaa (hz e)).symm⟩,fun e=>⟨rfl,rfl,by simp;omega,by simp;unfold maxLen;omega,rfl,rfl,rfl⟩⟩
noncomputable def kbf:Con TB.den:= .g (gk 116 [.one (.ptr 0 0)] yM (.one (.one (zql)))) yS [.sl yqu,yqi,yqi,yqi,yqi,yqi,yqu,yqi,yqi,yqu,yqi,yqi,.sl yqu,.sl (.st 9),yqu,.sl yqu,.sl yqu,.sl (.st 10),.sl yqu,.sl (.bool)] [] fun(Ac Aa Ae Ab Am Ao Ag Aj Ah Ai Ak:Int) (Ad:Li) (Af:List wA) (Al:Int) (w1 w3:Li) (w4:List wJ) (w5k:Li) (w5v:Lo)=>(w1.length<=1000000,w1,Ac,Aa,Ae,Ab,Am,Ao,Ag,Aj,Ah,Ai,Ak,Ad,Af,Al,w1,w3,w4,w5k,w5v,())
theorem kdo:kbf.Ok Tryz.prog TB:=prv Bs Tryz.func116 (.r 1 (.rt [.frz 6 [2]])) (ka1.c c0) (Q:=∀(Ac Aa Ae Ab Am Ao Ag Aj Ah Ai Ak:Int) (Ad:Li) (Af:List wA) (Al:Int) (w1 w3:Li) (w4:List wJ) (w5k:Li) (w5v:Lo),(w1.length<=1000000)->∀r0:Li,w1=r0->∀Ay:Int,Ac=Ay->∀Aq:Int,Aa=Aq->∀Aw:Int,Ae=Aw->∀Ax:Int,Ab=Ax->∀B0:Int,Am=B0->∀B1:Int,Ao=B1->∀Bl:Int,Ag=Bl->∀Bm:Int,Aj=Bm->∀Bn:Int,Ah=Bn->∀Bo:Int,Ai=Bo->∀Bw:Int,Ak=Bw->∀A9:Li,Ad=A9->∀Ba:List wA,Af=Ba->∀Bx:Int,Al=Bx->∀e1:Li,w1=e1->∀e3:Li,w3=e3->∀e4:List wJ,w4=e4->∀e5k:Li,w5k=e5k->∀e5v:Lo,w5v=e5v-> 
 lz w1/\(w1.length<=1000000)/\lz w1/\lz w4/\lz w3/\lz w1/\w1=r0/\Ac=Ay/\Aa=Aq/\Ae=Aw/\Ab=Ax/\Am=B0/\Ao=B1/\Ag=Bl/\Aj=Bm/\Ah=Bn/\Ai=Bo/\Ak=Bw/\Ad=A9/\Af=Ba/\Al=Bx/\w1=e1/\w3=e3/\w4=e4/\w5k=e5k/\w5v=e5v)<|by
 rintro Ac Aa Ae Ab Am Ao Ag Aj Ah Ai Ak Ad Af Al w1 w3 w4 w5k w5v h;repeat rintro _ rfl
 exact⟨rfl,h,(by repeat' first|apply qq|exact rfl|exact qn)⟩
noncomputable def k4g:Con TB.den:= .gp 75 [.sl (.st 9)] [.sl (.st 9)] [] fun(p0:List wA)=>(p0.length<=100000,p0,())
theorem k4q:k4g.Ok Tryz.prog TB:=qrv Bs Tryz.func75 .no c0 (Q:=∀(p0:List wA),(p0.length<=100000)->∀r0:List wA,p0=r0-> 
 ∀z4:Bool,(z4=true->p0=[])->(z4=true->
([]:List wA)=r0)/\
(z4=false->
(([]:List wA).length+p0.length)*24<=140737488355328/\([]:List wA).length+p0.length<=maxLen/\([]:List wA)++p0=r0))<|by rintro p0 h _ rfl;exact fun z hz=>⟨fun h=>(hz h).symm,fun _=>⟨by simp;omega,by simp;unfold maxLen;omega,rfl⟩⟩
noncomputable def kb9:Con TB.den:= .g (gk 24 [.one (.ptr 0 0)] yM (.one (.agg [.d (.sl (.st 9))]))) yS [.st 17,yqi,yqi,yqi,yqi,yqi,yqu,yqi,yqi,yqu,yqi,yqi,.sl yqu,.sl (.st 9),yqu,.sl yqu,.sl yqu,.sl (.st 10),.sl yqu,.sl (.bool)] [] fun(Ac Aa Ae Ab Am Ao Ag Aj Ah Ai Ak:Int) (Ad:Li) (Af:List wA) (Al:Int) (w1 w3:Li) (w4:List wJ) (w5k:Li) (w5v:Lo)=>(Af.length<=100000,(wm.mk Af:wm),Ac,Aa,Ae,Ab,Am,Ao,Ag,Aj,Ah,Ai,Ak,Ad,Af,Al,w1,w3,w4,w5k,w5v,())
theorem kcn:kb9.Ok Tryz.prog TB:=prv Bs Tryz.func24 .no (k4q.c c0) (Q:=∀(Ac Aa Ae Ab Am Ao Ag Aj Ah Ai Ak:Int) (Ad:Li) (Af:List wA) (Al:Int) (w1 w3:Li) (w4:List wJ) (w5k:Li) (w5v:Lo),(Af.length<=100000)->∀r0:wm,wm.mk Af=r0->∀Ay:Int,Ac=Ay->∀Aq:Int,Aa=Aq->∀Aw:Int,Ae=Aw->∀Ax:Int,Ab=Ax->∀B0:Int,Am=B0->∀B1:Int,Ao=B1->∀Bl:Int,Ag=Bl->∀Bm:Int,Aj=Bm->∀Bn:Int,Ah=Bn->∀Bo:Int,Ai=Bo->∀Bw:Int,Ak=Bw->∀A9:Li,Ad=A9->∀Ba:List wA,Af=Ba->∀Bx:Int,Al=Bx->∀e1:Li,w1=e1->∀e3:Li,w3=e3->∀e4:List wJ,w4=e4->∀e5k:Li,w5k=e5k->∀e5v:Lo,w5v=e5v-> 
(Af.length<=100000)/\lz w4/\lz w3/\lz w1/\Af=r0.wF/\Ac=Ay/\Aa=Aq/\Ae=Aw/\Ab=Ax/\Am=B0/\Ao=B1/\Ag=Bl/\Aj=Bm/\Ah=Bn/\Ai=Bo/\Ak=Bw/\Ad=A9/\Af=Ba/\Al=Bx/\w1=e1/\w3=e3/\w4=e4/\w5k=e5k/\w5v=e5v)<|by
 rintro Ac Aa Ae Ab Am Ao Ag Aj Ah Ai Ak Ad Af Al w1 w3 w4 w5k w5v h;repeat rintro _ rfl
 exact⟨h,(by repeat' first|apply qq|exact rfl|exact qn)⟩
noncomputable def ket:Con TB.den:= .g (gk 115 [.one (.ptr 0 0)] yM (.one (.one (zqu)))) yS [yqu,yqi,yqi,yqi,yqi,yqi,yqu,yqi,yqi,yqu,yqi,yqi,.sl yqu,.sl (.st 9),yqu,.sl yqu,.sl yqu,.sl (.st 10),.sl yqu,.sl (.bool)] [] fun(Ac Aa Ae Ab Am Ao Ag Aj Ah Ai Ak:Int) (Ad:Li) (Af:List wA) (Al:Int) (w1 w3:Li) (w4:List wJ) (w5k:Li) (w5v:Lo)=>(w3.length<=1000000,((if w3=[]then 0 else ix w3 ((w3.length:Int)-1)):Int),Ac,Aa,Ae,Ab,Am,Ao,Ag,Aj,Ah,Ai,Ak,Ad,Af,Al,w1,w3,w4,w5k,w5v,())
theorem khd:ket.Ok Tryz.prog TB:=prv Bs Tryz.func115 .no c0 (Q:=∀(Ac Aa Ae Ab Am Ao Ag Aj Ah Ai Ak:Int) (Ad:Li) (Af:List wA) (Al:Int) (w1 w3:Li) (w4:List wJ) (w5k:Li) (w5v:Lo),(w3.length<=1000000)->∀r0:Int,((if w3=[]then 0 else ix w3 ((w3.length:Int)-1)):Int)=r0->∀Ay:Int,Ac=Ay->∀Aq:Int,Aa=Aq->∀Aw:Int,Ae=Aw->∀Ax:Int,Ab=Ax->∀B0:Int,Am=B0->∀B1:Int,Ao=B1->∀Bl:Int,Ag=Bl->∀Bm:Int,Aj=Bm->∀Bn:Int,Ah=Bn->∀Bo:Int,Ai=Bo->∀Bw:Int,Ak=Bw->∀A9:Li,Ad=A9->∀Ba:List wA,Af=Ba->∀Bx:Int,Al=Bx->∀e1:Li,w1=e1->∀e3:Li,w3=e3->∀e4:List wJ,w4=e4->∀e5k:Li,w5k=e5k->∀e5v:Lo,w5v=e5v-> 
(((w3.length:Int)==0)=true->
 lz w4/\lz w3/\lz w1/\0=r0/\Ac=Ay/\Aa=Aq/\Ae=Aw/\Ab=Ax/\Am=B0/\Ao=B1/\Ag=Bl/\Aj=Bm/\Ah=Bn/\Ai=Bo/\Ak=Bw/\Ad=A9/\Af=Ba/\Al=Bx/\w1=e1/\w3=e3/\w4=e4/\w5k=e5k/\w5v=e5v)/\
(((w3.length:Int)==0)=false->
(0<=i64.wrap ((w3.length:Int)-1)/\i64.wrap ((w3.length:Int)-1)<(w3.length:Int))/\(0<=i64.wrap ((w3.length:Int)-1)/\i64.wrap ((w3.length:Int)-1)<(w3.length:Int))/\let v1:Int:=ix w3 (i64.wrap ((w3.length:Int)-1))
 lz w4/\lz w3/\lz w1/\v1=r0/\Ac=Ay/\Aa=Aq/\Ae=Aw/\Ab=Ax/\Am=B0/\Ao=B1/\Ag=Bl/\Aj=Bm/\Ah=Bn/\Ai=Bo/\Ak=Bw/\Ad=A9/\Af=Ba/\Al=Bx/\w1=e1/\w3=e3/\w4=e4/\w5k=e5k/\w5v=e5v))<|by
 rintro Ac Aa Ae Ab Am Ao Ag Aj Ah Ai Ak Ad Af Al w1 w3 w4 w5k w5v h;repeat rintro _ rfl
 refine⟨fun e=> ?_,fun e=> ?_⟩
 ·have e:w3=[]:=by simpa using e
  rw[qi e];exact(by repeat' first|apply qq|exact rfl|exact qn)
 ·have e:¬w3=[]:=by simpa using e
  have hne:1<=w3.length:=qcw.2 e;rw[qf e,ko _ qqo qqo];exact⟨⟨by omega,by omega⟩,⟨by omega,by omega⟩,(by repeat' first|apply qq|exact rfl|exact qn)⟩
noncomputable def ka3:Con TB.den:= .gp 78 [yqi,.st 2] [.st 16,.bool] [] fun(p0:Int) (p1:wZ)=>(By p1.wo/\p1.wo.length<=137438953472,((decW p1.wo).1:wj),((decW p1.wo).2==0:Bool),())
theorem kb5:ka3.Ok Tryz.prog TB:=qrv Bs Tryz.func78 .no (k3j.c c0) (Q:=∀(p0:Int) (p1:wZ),(By p1.wo/\p1.wo.length<=137438953472)->∀r0:wj,((decW p1.wo).1)=r0->∀r1:Bool,((decW p1.wo).2==0)=r1-> 
(By p1.wo/\p1.wo.length<=137438953472)/\∀(r4:wj) (r5:Int),(r4=((decW p1.wo).1)/\r5=((decW p1.wo).2))->r4.Ins=r0.Ins/\r4.wC=r0.wC/\r4.wAM=r0.wAM/\(r5==0)=r1)<|by rintro p0 p1 h _ rfl _ rfl;exact⟨h,fun r4 r5 hr=>by obtain⟨rfl,rfl⟩:=hr;exact⟨rfl,rfl,rfl,rfl⟩⟩
noncomputable def kco:Con TB.den:= .tp 226 [.st 14] [.st 4] [] fun(p0:wR)=>((ownQ p0:wD),())
theorem kee:kco.Ok Tryz.prog TB:=qtv Bs Tryz.func226 .no c0 (Q:=∀(p0:wR),∀r0:wD,ownQ p0=r0-> 
 1=r0.wBJ/\[p0.Key,u64.wrap p0.wAd]=r0.wBI/\p0.wAE=r0.wBA)<|by rintro p0 _ rfl;exact(by repeat' first|apply qq|exact rfl|exact qn)
noncomputable def kcj:Con TB.den:= .tp 305 [.st 12,yqu] [.st 4] [] fun(p0:wAF) (p1:Int)=>((brQ p0 p1:wD),())
theorem kdb:kcj.Ok Tryz.prog TB:=qtv Bs Tryz.func305 .no c0 (Q:=∀(p0:wAF) (p1:Int),∀r0:wD,brQ p0 p1=r0-> 
 6=r0.wBJ/\[p0.a0,p0.a1]=r0.wBI/\p1=r0.wBA)<|by rintro p0 p1 _ rfl;exact(by repeat' first|apply qq|exact rfl|exact qn)
noncomputable def k6f:Con TB.den:= .tp 307 [.st 15,yqu] [.st 4] [] fun(p0:wU) (p1:Int)=>((comQ p0 p1:wD),())
theorem k82:k6f.Ok Tryz.prog TB:=qtv Bs Tryz.func307 .no c0 (Q:=∀(p0:wU) (p1:Int),∀r0:wD,comQ p0 p1=r0-> 
 2=r0.wBJ/\[p0.Value,p0.wAs,p0.Rho,p0.wAu]=r0.wBI/\p1=r0.wBA)<|by rintro p0 p1 _ rfl;exact(by repeat' first|apply qq|exact rfl|exact qn)
noncomputable def kf4:Con TB.den:= .gp 306 [.st 12] [yqu] [] fun(p0:wAF)=>(U64 p0.a0/\U64 p0.a1,(ndA p0:Int),())
theorem k3q:kf4.Ok Tryz.prog TB:=by refine⟨cal Tryz.func306 qqk,fun x K hx=> ?_⟩;obtain⟨(a:Int),(b:Int),_⟩:=x;obtain⟨h,hK⟩:=hx;have h:U64 a/\U64 b:=h;have hs:=ky.at ((18446744069414584321:Int),(6:Int),([a,b]:Li),()) ((nd a b:Int),()) ⟨⟨rfl,(by decide:U64 6),us2 h.1 h.2,(by decide:(2:Nat)<=_)⟩,rfl⟩;exact⟨_,hK,kky hs⟩
noncomputable def k66:Con TB.den:= .g (gk 303 [.one (.ptr 0 0),.one (zqu),.one (zqi)] yC (.one (.one (zql)))) (.int .u64:: .int .i64::yK) [.sl yqu,yqi,.sl yqu,yqu,yqu,yqu,yqi,yqi,yqi,yqi,yqi,yqu,.sl yqu,yqu,yqu,.sl yqu,yqu,.bool,yqu,yqi,.sl (.st 4),.sl (.st 19),.sl (.st 15),.sl yqi,.sl (.st 14),.sl (.str),.sl yqi,.sl (.str),.sl (.sl yqu),.sl (.str),.sl (.bool)] [] fun(p1 p2 Aa:Int) (Ab:Li) (Ag Aj Ah Ai Ak Ad Bp Ap Af:Int) (Al:Li) (Bq Br:Int) (Bt:Li) (Bu:Int) (At:Bool) (Au Av:Int) (As:List wD) (w2:List wv) (w3:List wU) (w4k:Li) (w4v:List wR) (w5k:Lb) (w5v:Li) (w6k:Lb) (w6v:List (Li)) (w7k:Lb) (w7v:Lo)=>((0<=p2/\p2<=w2.length/\p2<=9223372036854775807)/\ECk ⟨w2,Ab⟩,(ancS w2 Ab p1 p2.toNat:Li),Aa,Ab,Ag,Aj,Ah,Ai,Ak,Ad,Bp,Ap,Af,Al,Bq,Br,Bt,Bu,At,Au,Av,As,w2,w3,w4k,w4v,w5k,w5v,w6k,w6v,w7k,w7v,())
theorem k7h:k66.Ok Tryz.prog TB:=prv Bs Tryz.func303 (.r 0 (.nd [] (.r 0 (.lp [] ⟨[],[],[7],[.one (zqi)],[]⟩ .no)) [] .no)) c0 (Q:=∀(p1 p2 Aa:Int) (Ab:Li) (Ag Aj Ah Ai Ak Ad Bp Ap Af:Int) (Al:Li) (Bq Br:Int) (Bt:Li) (Bu:Int) (At:Bool) (Au Av:Int) (As:List wD) (w2:List wv) (w3:List wU) (w4k:Li) (w4v:List wR) (w5k:Lb) (w5v:Li) (w6k:Lb) (w6v:List (Li)) (w7k:Lb) (w7v:Lo),((0<=p2/\p2<=w2.length/\p2<=9223372036854775807)/\ECk ⟨w2,Ab⟩)->∀r0:Li,ancS w2 Ab p1 p2.toNat=r0->∀Aq:Int,Aa=Aq->∀Ax:Li,Ab=Ax->∀Bl:Int,Ag=Bl->∀Bm:Int,Aj=Bm->∀Bn:Int,Ah=Bn->∀Bo:Int,Ai=Bo->∀Bw:Int,Ak=Bw->∀A9:Int,Ad=A9->∀Cm:Int,Bp=Cm->∀Bz:Int,Ap=Bz->∀Ba:Int,Af=Ba->∀Bx:Li,Al=Bx->∀Cn:Int,Bq=Cn->∀Co:Int,Br=Co->∀Cp:Li,Bt=Cp->∀Cq:Int,Bu=Cq->∀B6:Bool,At=B6->∀B7:Int,Au=B7->∀B8:Int,Av=B8->∀B9:List wD,As=B9->∀e2:List wv,w2=e2->∀e3:List wU,w3=e3->∀e4k:Li,w4k=e4k->∀e4v:List wR,w4v=e4v->∀e5k:Lb,w5k=e5k->∀e5v:Li,w5v=e5v->∀e6k:Lb,w6k=e6k->∀e6v:List (Li),w6v=e6v->∀e7k:Lb,w7k=e7k->∀e7v:Lo,w7v=e7v-> 
 ∃(I1:Int->Prop) (M1:Int->Nat),I1 (i64.wrap (p2-1))/\∀b1,(I1 b1->
(decide (0<=b1)=true->
(0<=b1)/\b1<(w2.length:Int)/\((((ix w2 b1).root)==p1)=true->
(0<=b1)/\b1<(w2.length:Int)/\(0<=(ix w2 b1).leaves)/\(ix w2 b1).leaves<=(Ab.length:Int)/\(w3=w3)/\(w2=w2)/\Ab.take ((ix w2 b1).leaves).toNat=r0/\Aa=Aq/\Ab=Ax/\Ag=Bl/\Aj=Bm/\Ah=Bn/\Ai=Bo/\Ak=Bw/\Ad=A9/\Bp=Cm/\Ap=Bz/\Af=Ba/\Al=Bx/\Bq=Cn/\Br=Co/\Bt=Cp/\Bu=Cq/\At=B6/\Au=B7/\Av=B8/\As=B9/\w2=e2/\w3=e3/\w4k=e4k/\w4v=e4v/\w5k=e5k/\w5v=e5v/\w6k=e6k/\w6v=e6v/\w7k=e7k/\w7v=e7v)/\
((((ix w2 b1).root)==p1)=false->
 I1 (i64.wrap (b1-1))/\M1 (i64.wrap (b1-1))<M1 b1))/\
(decide (0<=b1)=false->
(w3=w3)/\(w2=w2)/\([]:Li)=r0/\Aa=Aq/\Ab=Ax/\Ag=Bl/\Aj=Bm/\Ah=Bn/\Ai=Bo/\Ak=Bw/\Ad=A9/\Bp=Cm/\Ap=Bz/\Af=Ba/\Al=Bx/\Bq=Cn/\Br=Co/\Bt=Cp/\Bu=Cq/\At=B6/\Au=B7/\Av=B8/\As=B9/\w2=e2/\w3=e3/\w4k=e4k/\w4v=e4v/\w5k=e5k/\w5v=e5v/\w6k=e6k/\w6v=e6v/\w7k=e7k/\w7v=e7v)))<|by
 rintro p1 p2 Aa Ab Ag Aj Ah Ai Ak Ad Bp Ap Af Al Bq Br Bt Bu At Au Av As w2 w3 w4k w4v w5k w5v w6k w6v w7k w7v h;repeat rintro _ rfl
 obtain⟨⟨h1,h2,h3⟩,hC⟩:=h;obtain⟨n,rfl⟩:=qo h1;rw[qt,wi ((n:Int)-1) qqo qqo];refine⟨(fun i=>∃k:Nat,i=(k:Int)-1/\k<=n/\ancS w2 Ab p1 k=ancS w2 Ab p1 n),(fun i=>(i+1).toNat),⟨n,rfl,qr _,rfl⟩,?_⟩;rintro _ ⟨k,rfl,hk,hg⟩;refine⟨fun e=> ?_,fun e=> ?_⟩
 ·have e:0<=(k:Int)-1:=qb e;obtain⟨j,rfl⟩:∃j,k=j+1:=⟨k-1,by omega⟩;have ej:((j+1:Nat):Int)-1=(j:Int):=by omega
  rw[ej];have hm:=ix_mem w2 (j:Int) qqo qqo;obtain⟨t1,t2⟩:=hC.t _ hm;rw[ancS]at hg;refine⟨by omega,by omega,fun e2=> ?_,fun e2=> ?_⟩
  ·rw[qi (by simpa using e2)]at hg;rw[<-hg];exact⟨by omega,by omega,t1,t2,(by repeat' first|apply qq|exact rfl|exact qn)⟩
  ·rw[qf (by simpa using e2)]at hg;rw[wi ((j:Int)-1) qqo qqo];exact⟨⟨j,rfl,by omega,hg⟩,by(dsimp only;omega)⟩
 ·have e:¬0<=(k:Int)-1:=qc e;obtain rfl:k=0:=by omega
  rw[<-hg];exact(by repeat' first|apply qq|exact rfl|exact qn)
noncomputable def kj4:Con TB.den:= .gp 384 [yqi,.sl yqu,yqi] [yqu] [] fun(p0:Int) (p1:Li) (p2:Int)=>(0<=p2/\0<=p0/\p0<=12,(p1.getD p2.toNat (emp p0.toNat):Int),())
theorem kas:kj4.Ok Tryz.prog TB:=qrv Bs Tryz.func384 .no (k3t.c c0) (Q:=∀(p0:Int) (p1:Li) (p2:Int),(0<=p2/\0<=p0/\p0<=12)->∀r0:Int,(p1.getD p2.toNat (emp p0.toNat))=r0-> 
(decide (p2<(p1.length:Int))=true->
(0<=p2)/\p2<(p1.length:Int)/\ix p1 p2=r0)/\
(decide (p2<(p1.length:Int))=false->
(0<=p0/\p0<=12)/\(emp p0.toNat)=r0))<|by
 rintro p0 p1 p2 h _ rfl;obtain⟨h1,h2,h3⟩:=h;obtain⟨k,rfl⟩:=qo h1;refine⟨fun e=> ?_,fun e=> ?_⟩
 ·have e:=qb e;exact⟨h1,e,by rw[ix_get p1 k qqo,qt,gD_lt qqo]⟩
 ·have e:=qc e;exact⟨⟨h2,h3⟩,by rw[gD_ge qqo]⟩
noncomputable def kdt:Con TB.den:= .gp 385 [yqi,.sl yqu] [.sl yqu] [] fun(p0:Int) (p1:Li)=>((0<=p0/\p0<=12)/\Us p1/\p1.length<=4096,(abvS p0.toNat p1:Li),())
theorem keg:kdt.Ok Tryz.prog TB:=qrv Bs Tryz.func385 (.r 1 (.nd [] (.r 0 (.lp [.frz 0 [5]] ⟨[1],[.tip yqu],[5,6],[.one (.own 0),.one (zqi)],[]⟩ .no)) [] .no)) (kas.c (k3q.c c0)) (Q:=∀(p0:Int) (p1:Li),((0<=p0/\p0<=12)/\Us p1/\p1.length<=4096)->∀r0:Li,abvS p0.toNat p1=r0-> 
 let v1:Int:=i64.wrap (Int.tdiv (i64.wrap ((p1.length:Int)+1)) 2)
 0<=(0:Int)/\(0:Int)<=v1/\(v1.toNat*8<=140737488355328)/\(v1.toNat<=maxLen)/\(0=(List.replicate 0 (0:Int)).length)/\(List.replicate 0 (0:Int)=List.replicate 0 (0:Int))/\∃(I1:Int->(Li)->Prop) (M1:Int->(Li)->Nat),I1 0 (List.replicate 0 (0:Int))/\∀b1 f1,(I1 b1 f1->
(decide (b1<(p1.length:Int))=true->
(0<=b1)/\b1<(p1.length:Int)/\(0<=(i64.wrap (b1+1))/\0<=p0/\p0<=12)/\let r2:Int:=(p1.getD (i64.wrap (b1+1)).toNat (emp p0.toNat))
(U64 (wAF.mk (ix p1 b1) r2).a0/\U64 (wAF.mk (ix p1 b1) r2).a1)/\lz f1/\(f1.length+[(ndA (wAF.mk (ix p1 b1) r2))].length)*8<=140737488355328/\f1.length+[(ndA (wAF.mk (ix p1 b1) r2))].length<=maxLen/\(f1++[(ndA (wAF.mk (ix p1 b1) r2))]=f1++[(ndA (wAF.mk (ix p1 b1) r2))])/\I1 (i64.wrap (b1+2)) (f1++[(ndA (wAF.mk (ix p1 b1) r2))])/\M1 (i64.wrap (b1+2)) (f1++[(ndA (wAF.mk (ix p1 b1) r2))])<M1 b1 f1)/\
(decide (b1<(p1.length:Int))=false->
 f1=r0)))<|by
 rintro p0 p1 h _ rfl;obtain⟨⟨h1,h2⟩,hu,hl⟩:=h;have e1:i64.wrap (Int.tdiv (i64.wrap ((p1.length:Int)+1)) 2)=(((p1.length+1)/2:Nat):Int):=by rw[wi ((p1.length:Int)+1) qqo qqo,Int.tdiv_eq_ediv_of_nonneg qqo,wi _ qqo qqo];omega
 dsimp only;rw[e1];refine⟨by omega,by omega,by omega,(by unfold maxLen;omega),rfl,rfl,(fun i f=>∃k:Nat,i=2*(k:Int)/\f.length=k/\k<=p1.length/\f++abvS p0.toNat (p1.drop (2*k))=abvS p0.toNat p1),(fun i _=>(p1.length+1-i).toNat),⟨0,by simp,rfl,by omega,by simp⟩,?_⟩;rintro _ f1 ⟨k,rfl,hf,hk,hg⟩;refine⟨fun e=> ?_,fun e=> ?_⟩
 ·have e:2*(k:Int)<p1.length:=qb e;have hm:=ix_mem p1 (2*(k:Int)) qqo e;have hx:ix p1 (2*(k:Int))=p1.getD (2*k) 0:=by rw[show(2*(k:Int))=((2*k:Nat):Int)by omega,ix_get _ _ qqo,gD_lt qqo]
  have ht:(2*(k:Int)+1).toNat=2*k+1:=by omega
  rw[wi (2*(k:Int)+1) qqo qqo,wi (2*(k:Int)+2) qqo qqo,ht];rw[kmq _ _ _ qqo,<-hx]at hg
  have hu2:U64 (p1.getD (2*k+1) (emp p0.toNat)):=by
   by_cases hh:2*k+1<p1.length
   ·rw[gD_lt hh];exact hu _ (qal hh)
   ·rw[gD_ge qqo];exact emp_u _
  refine⟨by omega,e,⟨by omega,h1,h2⟩,⟨hu _ hm,hu2⟩,rfl,?_,?_,rfl,⟨k+1,by omega,by simp[hf],by omega,?_⟩,by(dsimp only;omega)⟩
  ·simp only[qu,qao];omega
  ·simp only[qu,qao];unfold maxLen;omega
  ·rw[<-hg,qz];rfl
 ·have e:¬2*(k:Int)<p1.length:=qc e;rw[qav qqo]at hg;rw[<-hg];exact(qcd _).symm
noncomputable def k90:Con TB.den:= .g (gk 304 [.one (.ptr 0 0),.agg yF1,.one (zqu),.one (zql)] yC (.tup [.one (.d (.sl (.st 12))),.one (.d (.sl (.st 12)))])) (.st 14:: .int .u64:: .sl yqu::yK) (.sl (.st 12):: .sl (.st 12)::yK) [] fun(p1:wR) (p2:Int) (p3:Li) (Aa:Int) (Ab:Li) (Ag Aj Ah Ai Ak Ad Bp Ap Af:Int) (Al:Li) (Bq Br:Int) (Bt:Li) (Bu:Int) (At:Bool) (Au Av:Int) (As:List wD) (w2:List wv) (w3:List wU) (w4k:Li) (w4v:List wR) (w5k:Lb) (w5v:Li) (w6k:Lb) (w6v:List (Li)) (w7k:Lb) (w7v:Lo)=>((U64 p2/\Us p3/\p3.length<=4096)/\SPk p1,(ownsL p1.wN p2 p1.wAA:List wAF),(realsL (lf p3) p1.wN.toNat p1.wAA.length:List wAF),Aa,Ab,Ag,Aj,Ah,Ai,Ak,Ad,Bp,Ap,Af,Al,Bq,Br,Bt,Bu,At,Au,Av,As,w2,w3,w4k,w4v,w5k,w5v,w6k,w6v,w7k,w7v,())
abbrev Fz7 (r:Type):=Int->(Li)->Int->(List wAF)->(List wAF)->r
theorem k9q:k90.Ok Tryz.prog TB:=prv Bs Tryz.func304 (.r 0 (.nd [] (.r 0 (.lp [.tok 8 (.st 12),.tok 9 (.st 12)] ⟨[9,10],[.tip (.st 12),.tip (.st 12)],[2,3,8,9,17],[.one (zqu),.one (zql),.one (.own 0),.one (.own 1),.one (zqi)],[]⟩ (.r 1 (.nd [] (.r 2 (.jn ⟨[11],[.cells [zqu,zqu]],[],[],[]⟩ [] .no [] .no)) [] .no)))) [] .no)) (kas.c (k3q.c (keg.c c0))) (Q:=∀(p1:wR) (p2:Int) (p3:Li) (Aa:Int) (Ab:Li) (Ag Aj Ah Ai Ak Ad Bp Ap Af:Int) (Al:Li) (Bq Br:Int) (Bt:Li) (Bu:Int) (At:Bool) (Au Av:Int) (As:List wD) (w2:List wv) (w3:List wU) (w4k:Li) (w4v:List wR) (w5k:Lb) (w5v:Li) (w6k:Lb) (w6v:List (Li)) (w7k:Lb) (w7v:Lo),((U64 p2/\Us p3/\p3.length<=4096)/\SPk p1)->∀r0:List wAF,ownsL p1.wN p2 p1.wAA=r0->∀r1:List wAF,(realsL (lf p3) p1.wN.toNat p1.wAA.length)=r1->∀Aq:Int,Aa=Aq->∀Ax:Li,Ab=Ax->∀Bl:Int,Ag=Bl->∀Bm:Int,Aj=Bm->∀Bn:Int,Ah=Bn->∀Bo:Int,Ai=Bo->∀Bw:Int,Ak=Bw->∀A9:Int,Ad=A9->∀Cm:Int,Bp=Cm->∀Bz:Int,Ap=Bz->∀Ba:Int,Af=Ba->∀Bx:Li,Al=Bx->∀Cn:Int,Bq=Cn->∀Co:Int,Br=Co->∀Cp:Li,Bt=Cp->∀Cq:Int,Bu=Cq->∀B6:Bool,At=B6->∀B7:Int,Au=B7->∀B8:Int,Av=B8->∀B9:List wD,As=B9->∀e2:List wv,w2=e2->∀e3:List wU,w3=e3->∀e4k:Li,w4k=e4k->∀e4v:List wR,w4v=e4v->∀e5k:Lb,w5k=e5k->∀e5v:Li,w5v=e5v->∀e6k:Lb,w6k=e6k->∀e6v:List (Li),w6v=e6v->∀e7k:Lb,w7k=e7k->∀e7v:Lo,w7v=e7v-> 
(([]:List wAF)=([]:List wAF))/\(([]:List wAF)=([]:List wAF))/\∃(I1:Fz7 Prop) (M1:Fz7 Nat),I1 p2 p3 0 ([]:List wAF) ([]:List wAF)/\∀b1 f1 i1 k1 l1,(I1 b1 f1 i1 k1 l1->
(decide (i1<(p1.wAA.length:Int))=true->
(0<=i1)/\i1<(p1.wAA.length:Int)/\(0<=i1)/\∀J1:Int->Int->Prop,(∀(m1 n1:Int),
(k1.length=k1.length/\(k1.length+[wAF.mk m1 n1].length)*16<=140737488355328/\k1.length+[wAF.mk m1 n1].length<=maxLen/\(0<=(ianot .i64 (ishr .i64 p1.wN i1) 1)/\0<=i1/\i1<=12)/\let r3:Int:=(f1.getD (ianot .i64 (ishr .i64 p1.wN i1) 1).toNat (emp i1.toNat))
(0<=(ior .i64 (ishr .i64 p1.wN i1) 1)/\0<=i1/\i1<=12)/\let r4:Int:=(f1.getD (ior .i64 (ishr .i64 p1.wN i1) 1).toNat (emp i1.toNat))
 lz l1/\(l1.length+[wAF.mk r3 r4].length)*16<=140737488355328/\l1.length+[wAF.mk r3 r4].length<=maxLen/\(U64 (wAF.mk m1 n1).a0/\U64 (wAF.mk m1 n1).a1)/\((0<=i1/\i1<=12)/\Us f1/\f1.length<=4096)/\(l1++[wAF.mk r3 r4]=l1++[wAF.mk r3 r4])/\(k1++[wAF.mk m1 n1]=k1++[wAF.mk m1 n1])/\I1 (ndA (wAF.mk m1 n1)) (abvS i1.toNat f1) (i64.wrap (i1+1)) (k1++[wAF.mk m1 n1]) (l1++[wAF.mk r3 r4])/\M1 (ndA (wAF.mk m1 n1)) (abvS i1.toNat f1) (i64.wrap (i1+1)) (k1++[wAF.mk m1 n1]) (l1++[wAF.mk r3 r4])<M1 b1 f1 i1 k1 l1)->J1 m1 n1)->
 let v2:Bool:=((iand .i64 (ishr .i64 p1.wN i1) 1)==1)
(v2=true->
 J1 (ix p1.wAA i1) b1)/\
(v2=false->
 J1 b1 (ix p1.wAA i1)))/\
(decide (i1<(p1.wAA.length:Int))=false->
(w3=w3)/\(w2=w2)/\k1=r0/\l1=r1/\Aa=Aq/\Ab=Ax/\Ag=Bl/\Aj=Bm/\Ah=Bn/\Ai=Bo/\Ak=Bw/\Ad=A9/\Bp=Cm/\Ap=Bz/\Af=Ba/\Al=Bx/\Bq=Cn/\Br=Co/\Bt=Cp/\Bu=Cq/\At=B6/\Au=B7/\Av=B8/\As=B9/\w2=e2/\w3=e3/\w4k=e4k/\w4v=e4v/\w5k=e5k/\w5v=e5v/\w6k=e6k/\w6v=e6v/\w7k=e7k/\w7v=e7v)))<|by
 rintro p1 p2 p3 Aa Ab Ag Aj Ah Ai Ak Ad Bp Ap Af Al Bq Br Bt Bu At Au Av As w2 w3 w4k w4v w5k w5v w6k w6v w7k w7v h;repeat rintro _ rfl
 obtain⟨⟨hu,hs,hl⟩,hp⟩:=h;obtain⟨p0,pm,pl,pu⟩:=hp.p0,hp.pm,hp.pl,hp.pu;generalize hP:p1.wN=P at *
 generalize hQ:p1.wAA=Q at *
 obtain⟨n,rfl⟩:=qo p0;rw[qt];refine⟨rfl,rfl,(fun b f i k l=>∃j:Nat,i=(j:Int)/\j<=Q.length/\U64 b/\Us f/\f.length<=4096/\(∀p,f.getD p (emp j)=TT (lf p3) j p)/\k.length=j/\k++ownsL ((n/2^j:Nat):Int) b (Q.drop j)=ownsL (n:Int) p2 Q/\l=realsL (lf p3) n j),(fun _ _ i _ _=>(Q.length-i).toNat),⟨0,rfl,qax _,hu,hs,hl,fun p=>rfl,rfl,by simp,rfl⟩,?_⟩;rintro b f _ k _ ⟨j,rfl,hj,hb,hf,hfl,hT,hk,hg,rfl⟩;refine⟨fun e=> ?_,fun e=> ?_⟩
 ·have e:(j:Int)<Q.length:=qb e;have hjl:j<Q.length:=by omega
  have hm:=ix_mem Q (j:Int) qqo e;have hq:n/2^j<=64:=qbf (Nat.div_le_self _ _) qqo;have hx:ix Q (j:Int)=Q[j]:=ix_get _ _ hjl;rw[shr_nat n j qqo,(bitnot _ hq).1,(bitnot _ hq).2,inc (j:Int) Q.length qqo qqo qqo,k4b _ ⟨qef _,Int.lt_of_le_of_lt (Int.ofNat_le.2 hq) qqd⟩];rw[qas hjl,<-hx]at hg;simp only[qt];refine⟨by omega,e,by omega,?_⟩;intro J kJ
  have j1:∀m s,wAF.mk m s=ownP ((n/2^j:Nat):Int) b (ix Q (j:Int))->U64 m->U64 s->J m s:=fun m s hms um us=>kJ m s (by
   rw[hms];have hr:realsL (lf p3) n j++[wAF.mk (f.getD (2*(n/2^j/2)) (emp j)) (f.getD (2*(n/2^j/2)+1) (emp j))]=realsL (lf p3) n (j+1):=by rw[hT,hT];unfold realsL;rw[List.range_succ,qbi];rfl
   rw[hr];have hrl:(realsL (lf p3) n j).length=j:=by simp[realsL]
   have h12:(j:Int)<=12:=by omega
   refine⟨by trivial,?_,?_,⟨qef _,by omega,h12⟩,⟨qef _,by omega,h12⟩,by trivial,?_,?_,?_,⟨⟨by omega,h12⟩,hf,hfl⟩,by trivial,by trivial,⟨j+1,by omega,by omega,kj _ _,abvS_u _ _,qbf (khv _ _) hfl,fun p=> ?_,by simp[hk],?_,rfl⟩,by(first|omega|(dsimp only;omega))⟩
   ·rw[hk];simp only[qu,qao];omega
   ·rw[hk];simp only[qu,qao];unfold maxLen;omega
   ·rw[hrl];simp only[qu,qao];omega
   ·rw[hrl];simp only[qu,qao];unfold maxLen;omega
   ·exact⟨um,us⟩
   ·rw[khr,hT,hT];rfl
   ·rw[<-hg,qz,k1f];congr 1)
  refine⟨fun e2=> ?_,fun e2=> ?_⟩
  ·exact j1 _ _ (by unfold ownP;rw[qi (by simpa using e2)]) (pu _ hm) hb
  ·exact j1 _ _ (by unfold ownP;rw[qf (by simpa using e2)]) hb (pu _ hm)
 ·have e:¬(j:Int)<Q.length:=qc e;obtain rfl:j=Q.length:=by omega
  rw[qes]at hg;have hg:k++[]=ownsL (n:Int) p2 Q:=hg;rw[qcd]at hg;subst hg;exact(by repeat' first|apply qq|exact rfl|exact qn)
noncomputable def k91:Con TB.den:= .g (gk 225 [.one (.ptr 0 0),.agg yF1,.one (zqu),.one (zqi)] yC (.one (.agg yL1))) (.st 14:: .int .u64:: .int .i64::yK) yJ [] fun(p1:wR) (p2 p3 Aa:Int) (Ab:Li) (Ag Aj Ah Ai Ak Ad Bp Ap Af:Int) (Al:Li) (Bq Br:Int) (Bt:Li) (Bu:Int) (At:Bool) (Au Av:Int) (As:List wD) (w2:List wv) (w3:List wU) (w4k:Li) (w4v:List wR) (w5k:Lb) (w5v:Li) (w6k:Lb) (w6v:List (Li)) (w7k:Lb) (w7v:Lo)=>(((0<=p3/\p3<=w2.length/\p3<=9223372036854775807)/\ECk ⟨w2,Ab⟩)/\SPk p1/\At=false/\w5k=[]/\w5v=[],(wrgS ⟨w2,Ab⟩ w3 p1 p2 p3:wBC),Aa,Ab,Ag,Aj,Ah,Ai,Ak,Ad,Bp,Ap,Af,Al,Bq,Br,Bt,Bu,At,Au,Av,As,w2,w3,w4k,w4v,w5k,w5v,w6k,w6v,w7k,w7v,())
theorem k9v:k91.Ok Tryz.prog TB:=prv Bs Tryz.func225 (.r 3 (.nd [] (.r 0 (.lp [] ⟨[],[],[14],[.one (zqi)],[]⟩ .no)) [] (.r 0 (.nd [] (.jn ⟨[],[],[94],[.one (.d (.bool))],[]⟩ [] .no [] .no) [] .no)))) (k7h.c (k27.c (k9q.c (k3q.c (kdb.c (k82.c c0)))))) (Q:=∀(p1:wR) (p2 p3 Aa:Int) (Ab:Li) (Ag Aj Ah Ai Ak Ad Bp Ap Af:Int) (Al:Li) (Bq Br:Int) (Bt:Li) (Bu:Int) (At:Bool) (Au Av:Int) (As:List wD) (w2:List wv) (w3:List wU) (w4k:Li) (w4v:List wR) (w5k:Lb) (w5v:Li) (w6k:Lb) (w6v:List (Li)) (w7k:Lb) (w7v:Lo),(((0<=p3/\p3<=w2.length/\p3<=9223372036854775807)/\ECk ⟨w2,Ab⟩)/\SPk p1/\At=false/\w5k=[]/\w5v=[])->∀r0:wBC,(wrgS ⟨w2,Ab⟩ w3 p1 p2 p3)=r0->∀Aq:Int,Aa=Aq->∀Ax:Li,Ab=Ax->∀Bl:Int,Ag=Bl->∀Bm:Int,Aj=Bm->∀Bn:Int,Ah=Bn->∀Bo:Int,Ai=Bo->∀Bw:Int,Ak=Bw->∀A9:Int,Ad=A9->∀Cm:Int,Bp=Cm->∀Bz:Int,Ap=Bz->∀Ba:Int,Af=Ba->∀Bx:Li,Al=Bx->∀Cn:Int,Bq=Cn->∀Co:Int,Br=Co->∀Cp:Li,Bt=Cp->∀Cq:Int,Bu=Cq->∀B6:Bool,At=B6->∀B7:Int,Au=B7->∀B8:Int,Av=B8->∀B9:List wD,As=B9->∀e2:List wv,w2=e2->∀e3:List wU,w3=e3->∀e4k:Li,w4k=e4k->∀e4v:List wR,w4v=e4v->∀e5k:Lb,w5k=e5k->∀e5v:Li,w5v=e5v->∀e6k:Lb,w6k=e6k->∀e6v:List (Li),w6v=e6v->∀e7k:Lb,w7k=e7k->∀e7v:Lo,w7v=e7v-> 
(w3=w3)/\(w2=w2)/\((0<=p3/\p3<=w2.length/\p3<=9223372036854775807)/\ECk ⟨w2,Ab⟩)/\(NR (wU.mk p1.ww p1.wAE p1.wAH p1.wAU)/\OrOk w5k w5v As)/\let r1:Int:=((commP (pk At As w5k w5v) (wU.mk p1.ww p1.wAE p1.wAH p1.wAU)).getD 0)
 let r2:Bool:=((commP (pk At As w5k w5v) (wU.mk p1.ww p1.wAE p1.wAH p1.wAU)).isSome)
(w3=w3)/\(w2=w2)/\((U64 r1/\Us (ancS w2 Ab p2 p3.toNat)/\(ancS w2 Ab p2 p3.toNat).length<=4096)/\SPk p1)/\let r3:List wAF:=(realsL (lf (ancS w2 Ab p2 p3.toNat)) p1.wN.toNat p1.wAA.length)
 let v4:Int:=((ownsL p1.wN r1 p1.wAA).length:Int)
 ∃(I1:Int->Prop) (M1:Int->Nat),I1 (i64.wrap (v4-1))/\∀b1,(I1 b1->
(decide (0<=b1)=true->
(0<=b1)/\b1<((ownsL p1.wN r1 p1.wAA).length:Int)/\(0<=b1)/\b1<(r3.length:Int)/\let v5:Bool:=(!(((ix (ownsL p1.wN r1 p1.wAA) b1).a0==(ix r3 b1).a0)&&(((ix (ownsL p1.wN r1 p1.wAA) b1).a1==(ix r3 b1).a1)&&true)))
(v5=true->
(0<=b1)/\b1<((ownsL p1.wN r1 p1.wAA).length:Int)/\(0<=b1)/\b1<((ownsL p1.wN r1 p1.wAA).length:Int)/\(U64 (ix (ownsL p1.wN r1 p1.wAA) b1).a0/\U64 (ix (ownsL p1.wN r1 p1.wAA) b1).a1)/\let r6:Int:=(ndA (ix (ownsL p1.wN r1 p1.wAA) b1))
 let r7:=brQ (ix (ownsL p1.wN r1 p1.wAA) b1) r6
(0<=b1)/\b1<(r3.length:Int)/\(0<=b1)/\b1<((ownsL p1.wN r1 p1.wAA).length:Int)/\(U64 (ix (ownsL p1.wN r1 p1.wAA) b1).a0/\U64 (ix (ownsL p1.wN r1 p1.wAA) b1).a1)/\let r8:Int:=(ndA (ix (ownsL p1.wN r1 p1.wAA) b1))
(w3=w3)/\(w2=w2)/\2=r0.wAb/\0=r0.wM/\0=r0.Tx/\r7.wBJ=r0.wAw/\r7.wBI=r0.wAy/\r7.wBA=r0.wAo/\(brQ (ix r3 b1) r8).wBJ=r0.wAz/\(brQ (ix r3 b1) r8).wBI=r0.wAx/\(brQ (ix r3 b1) r8).wBA=r0.wAn/\Aa=Aq/\Ab=Ax/\Ag=Bl/\Aj=Bm/\Ah=Bn/\Ai=Bo/\Ak=Bw/\Ad=A9/\Bp=Cm/\Ap=Bz/\Af=Ba/\Al=Bx/\Bq=Cn/\Br=Co/\Bt=Cp/\Bu=Cq/\At=B6/\Au=B7/\Av=B8/\As=B9/\w2=e2/\w3=e3/\w4k=e4k/\w4v=e4v/\w5k=e5k/\w5v=e5v/\w6k=e6k/\w6v=e6v/\w7k=e7k/\w7v=e7v)/\
(v5=false->
 I1 (i64.wrap (b1-1))/\M1 (i64.wrap (b1-1))<M1 b1))/\
(decide (0<=b1)=false->
 let r9:=comQ (wU.mk p1.ww p1.wAE p1.wAH p1.wAU) r1
 ∀J1:Bool->Prop,(∀(f1:Bool),
((f1=true->
(0<=p1.wN)/\p1.wN<(w3.length:Int)/\(w3=w3)/\(w2=w2)/\2=r0.wAb/\0=r0.wM/\0=r0.Tx/\r9.wBJ=r0.wAw/\r9.wBI=r0.wAy/\r9.wBA=r0.wAo/\(comQ (ix w3 p1.wN) r1).wBJ=r0.wAz/\(comQ (ix w3 p1.wN) r1).wBI=r0.wAx/\(comQ (ix w3 p1.wN) r1).wBA=r0.wAn/\Aa=Aq/\Ab=Ax/\Ag=Bl/\Aj=Bm/\Ah=Bn/\Ai=Bo/\Ak=Bw/\Ad=A9/\Bp=Cm/\Ap=Bz/\Af=Ba/\Al=Bx/\Bq=Cn/\Br=Co/\Bt=Cp/\Bu=Cq/\At=B6/\Au=B7/\Av=B8/\As=B9/\w2=e2/\w3=e3/\w4k=e4k/\w4v=e4v/\w5k=e5k/\w5v=e5v/\w6k=e6k/\w6v=e6v/\w7k=e7k/\w7v=e7v)/\
(f1=false->
(w3=w3)/\(w2=w2)/\2=r0.wAb/\0=r0.wM/\0=r0.Tx/\r9.wBJ=r0.wAw/\r9.wBI=r0.wAy/\r9.wBA=r0.wAo/\6=r0.wAz/\([]:Li)=r0.wAx/\r1=r0.wAn/\Aa=Aq/\Ab=Ax/\Ag=Bl/\Aj=Bm/\Ah=Bn/\Ai=Bo/\Ak=Bw/\Ad=A9/\Bp=Cm/\Ap=Bz/\Af=Ba/\Al=Bx/\Bq=Cn/\Br=Co/\Bt=Cp/\Bu=Cq/\At=B6/\Au=B7/\Av=B8/\As=B9/\w2=e2/\w3=e3/\w4k=e4k/\w4v=e4v/\w5k=e5k/\w5v=e5v/\w6k=e6k/\w6v=e6v/\w7k=e7k/\w7v=e7v))->J1 f1)->
 let v10:Int:=((ancS w2 Ab p2 p3.toNat).length:Int)
(decide (p1.wN<v10)=true->
 J1 (decide (p1.wN<(w3.length:Int))))/\
(decide (p1.wN<v10)=false->
 J1 false))))<|by
 rintro p1 p2 p3 Aa Ab Ag Aj Ah Ai Ak Ad Bp Ap Af Al Bq Br Bt Bu At Au Av As w2 w3 w4k w4v w5k w5v w6k w6v w7k w7v h;repeat rintro _ rfl
 obtain⟨⟨⟨a1,a2,a3⟩,hC⟩,hp,rfl,rfl,rfl⟩:=h;have hl1:(commP (pk false As [] []) (wU.mk p1.ww p1.wAE p1.wAH p1.wAU)).getD 0=leafS p1:=by rw[pk_emp];rfl
 have hlu:=leafS_u p1;have hA:=kjs hC p2 p3.toNat;have hol:=kfh p1.wN (leafS p1) p1.wAA;have hou:=ownsL_u p1.wN (leafS p1) p1.wAA hlu hp.pu;have hrl:=kl6 (lf (ancS w2 Ab p2 p3.toNat)) p1.wN.toNat p1.wAA.length;have h0:=hp.p0;have hpl:=hp.pl;generalize hG:wrgS ⟨w2,Ab⟩ w3 p1 p2 p3=G;unfold wrgS wrgF at hG;dsimp only at hG ⊢;rw[hl1];generalize ownsL p1.wN (leafS p1) p1.wAA=O at *
 generalize realsL (lf (ancS w2 Ab p2 p3.toNat)) p1.wN.toNat p1.wAA.length=Q at *
 refine⟨by trivial,by trivial,⟨⟨a1,a2,a3⟩,hC⟩,⟨hp.n,kic _⟩,by trivial,by trivial,⟨⟨hlu,hA.2,hA.1⟩,hp⟩,(fun i=>∃k:Nat,i=(k:Int)-1/\k<=O.length/\wrgGo O Q k=wrgGo O Q O.length),(fun i=>(i+1).toNat),⟨O.length,wi _ qqo qqo,qr _,rfl⟩,?_⟩;rintro _ ⟨k,rfl,hk,hg⟩;refine⟨fun e=> ?_,fun e=> ?_⟩
 ·have e:0<=(k:Int)-1:=qb e;obtain⟨j,rfl⟩:∃j,k=j+1:=⟨k-1,by omega⟩;have ej:((j+1:Nat):Int)-1=(j:Int):=by omega
  rw[ej];have hu:=hou _ (ix_mem O (j:Int) qqo qqo);rw[wrgGo]at hg;refine⟨by omega,by omega,by omega,by omega,fun e2=> ?_,fun e2=> ?_⟩
  ·rw[qi ((pair_ne _ _).1 e2)]at hg;rw[<-hg]at hG;have hG:colF _ _=G:=hG;subst hG;exact⟨by omega,by omega,by omega,by omega,hu,by omega,by omega,by omega,by omega,hu,(by repeat' first|apply qq|exact rfl|exact qn)⟩
  ·rw[qf (fun hn=>by rw[(pair_ne _ _).2 hn]at e2;cases e2)]at hg;rw[wi ((j:Int)-1) qqo qqo];exact⟨⟨j,rfl,by omega,hg⟩,by(first|omega|(dsimp only;omega))⟩
 ·have e:¬0<=(k:Int)-1:=qc e;obtain rfl:k=0:=by omega
  have hg:none=wrgGo O Q O.length:=hg;rw[<-hg]at hG;dsimp only at hG;intro J kJ
  have j:∀b:Bool,(b=true↔(p1.wN<(ancS w2 Ab p2 p3.toNat).length/\p1.wN<w3.length))->J b:=fun b hb=>kJ b ⟨fun e=>by
    rw[qi (hb.1 e)]at hG;subst hG;have:=(hb.1 e).2;exact⟨h0,this,(by repeat' first|apply qq|exact rfl|exact qn)⟩,fun e=>by
    rw[qf (fun hh=>by rw[hb.2 hh]at e;cases e)]at hG;subst hG;exact(by repeat' first|apply qq|exact rfl|exact qn)⟩
  refine⟨fun e2=>j _ ?_,fun e2=>j _ ?_⟩
  ·have e2:=qb e2;simp[e2]
  ·have e2:=qc e2;simp[e2]
noncomputable def k5b:Con TB.den:= .b (gk 172 [.one (.ptr 0 0),.agg yD1,.agg yH1,.one (.d (.bool)),.one (zqi)] yC (.one (.agg yL1))) (.st 2:: .st 16:: .bool:: .int .i64::yK) yJ fun(p1:wZ) (p2:wj) (p3:Bool) (p4 Aa:Int) (Ab:Li) (Ag Aj Ah Ai Ak Ad Bp Ap Af:Int) (Al:Li) (Bq Br:Int) (Bt:Li) (Bu:Int) (At:Bool) (Au Av:Int) (As:List wD) (w2:List wv) (w3:List wU) (w4k:Li) (w4v:List wR) (w5k:Lb) (w5v:Li) (w6k:Lb) (w6v:List (Li)) (w7k:Lb) (w7v:Lo)=>((∃c:Nat,c<=1000/\EXk ⟨w3,w4k,w4v,Ai,Ak,Ah⟩ c)/\ECk ⟨w2,Ab⟩/\(0<=p4/\p4<=w2.length/\p4<=9223372036854775807)/\(At=false/\w5k=[]/\w5v=[])/\TR p1/\(p3=true->WR p2)/\1<=Aa/\Aa<=6,exTx ⟨w2,Ab⟩ Aa ⟨w3,w4k,w4v,Ai,Ak,Ah⟩ p1 p2 p3 p4,fun R=>(R.f,Aa,Ab,Ag,Aj,R.x.hd,R.x.cr,R.x.sp,Ad,Bp,Ap,Af,Al,Bq,Br,Bt,Bu,At,Au,Av,As,w2,R.x.n,R.x.k,R.x.v,w5k,w5v,w6k,w6v,w7k,w7v,()))
abbrev kz (R:EF) (Aa:Int) (Ab:Li) (Ag Aj Ad Bp Ap Af:Int) (Al:Li) (Bq Br:Int) (Bt:Li) (Bu:Int) (At:Bool) (Au Av:Int) (As:List wD) (w2:List wv) (w5k:Lb) (w5v:Li) (w6k:Lb) (w6v:List (Li)) (w7k:Lb) (w7v:Lo) (o0 o1 o2 o3:Int) (o4:Li) (o5 o6:Int) (o7:Li) (o8 o9:Int) (o10:Li) (o11 o12 o13 o14 o15 o16 o17 o18 o19:Int) (o20:Li) (o21 o22:Int) (o23:Li) (o24:Int) (o25:Bool) (o26 o27:Int) (o28:List wD) (o29:List wv) (o30:List wU) (o31:Li) (o32:List wR) (o33:Lb) (o34:Li) (o35:Lb) (o36:List (Li)) (o37:Lb) (o38:Lo):Prop:=o0=R.f.wAb/\o1=R.f.wM/\o2=R.f.Tx/\o3=R.f.wAw/\o4=R.f.wAy/\o5=R.f.wAo/\o6=R.f.wAz/\o7=R.f.wAx/\o8=R.f.wAn/\o9=Aa/\o10=Ab/\o11=Ag/\o12=Aj/\o13=R.x.hd/\o14=R.x.cr/\o15=R.x.sp/\o16=Ad/\o17=Bp/\o18=Ap/\o19=Af/\o20=Al/\o21=Bq/\o22=Br/\o23=Bt/\o24=Bu/\o25=At/\o26=Au/\o27=Av/\o28=As/\o29=w2/\o30=R.x.n/\o31=R.x.k/\o32=R.x.v/\o33=w5k/\o34=w5v/\o35=w6k/\o36=w6v/\o37=w7k/\o38=w7v
abbrev Fz8 (r:Type):=Int->Bool->Int->Int->(List wD)->Int->(Li)->Int->Int->Int->Int->Int->Int->Int->Int->Int->(Li)->Int->Int->(Li)->Int->(Lb)->(Lo)->(Lb)->(List (Li))->(Lb)->(Li)->(Li)->(List wR)->(List wU)->(List wv)->r
theorem k64:k5b.Ok Tryz.prog TB:=pbv Bs Tryz.func172 (.r 0 (.nd [] (.jn ⟨[7,6,5,1],yR,[35],[.one (.d (.bool))],[]⟩ [] .no [] .no) [] (.r 0 (.nd [] (.r 0 (.lp [] ⟨[4],[.map yqi (.st 14)],[11,12,40],[.one (zqi),.one (zqu),.one (zqi)],[]⟩ .no)) [] (.nd [] (.r 0 (.lp [] ⟨[7,6,5,4,3,2,1,0],yD,[107],[.one (zqi)],[]⟩ .no)) [] .no))))) (k57.c (k3s.c (k9v.c (kee.c (k2z.c c0))))) (Q:=∀(p1:wZ) (p2:wj) (p3:Bool) (p4 Aa:Int) (Ab:Li) (Ag Aj Ah Ai Ak Ad Bp Ap Af:Int) (Al:Li) (Bq Br:Int) (Bt:Li) (Bu:Int) (At:Bool) (Au Av:Int) (As:List wD) (w2:List wv) (w3:List wU) (w4k:Li) (w4v:List wR) (w5k:Lb) (w5v:Li) (w6k:Lb) (w6v:List (Li)) (w7k:Lb) (w7v:Lo),((∃c:Nat,c<=1000/\EXk ⟨w3,w4k,w4v,Ai,Ak,Ah⟩ c)/\ECk ⟨w2,Ab⟩/\(0<=p4/\p4<=w2.length/\p4<=9223372036854775807)/\(At=false/\w5k=[]/\w5v=[])/\TR p1/\(p3=true->WR p2)/\1<=Aa/\Aa<=6)->∀R,exTx ⟨w2,Ab⟩ Aa ⟨w3,w4k,w4v,Ai,Ak,Ah⟩ p1 p2 p3 p4=R-> 
 ∀J1:Bool->Bool->Int->Int->(List wD)->(Lb)->(Lo)->(Lb)->(List (Li))->(Lb)->(Li)->Prop,(∀(b1 f1:Bool) (i1 k1:Int) (l1:List wD) (m1:Lb) (n1:Lo) (o1:Lb) (q1:List (Li)) (s1:Lb) (t1:Li),
((b1=true->
(w3=w3)/\(w2=w2)/\kz R Aa Ab Ag Aj Ad Bp Ap Af Al Bq Br Bt Bu At Au Av As w2 w5k w5v w6k w6v w7k w7v 1 0 0 0 ([]:Li) 0 0 ([]:Li) 0 Aa Ab Ag Aj Ah Ai Ak Ad Bp Ap Af Al Bq Br Bt Bu f1 i1 k1 l1 w2 w3 w4k w4v s1 t1 o1 q1 m1 n1)/\
(b1=false->
 ∃(I1:Int->Int->Int->(Li)->(List wR)->Prop) (M1:Int->Int->Int->(Li)->(List wR)->Nat),I1 0 0 0 w4k w4v/\∀u1 x1 y1 b2 f2,(I1 u1 x1 y1 b2 f2->
(decide (y1<(p2.Ins.length:Int))=true->
(0<=y1)/\y1<(p2.Ins.length:Int)/\((ix p2.Ins y1).wBM=true->
 I1 u1 x1 (i64.wrap (y1+1)) b2 f2/\M1 u1 x1 (i64.wrap (y1+1)) b2 f2<M1 u1 x1 y1 b2 f2)/\
((ix p2.Ins y1).wBM=false->
 let v2:Bool:=decide ((w3.length:Int)<=((ix p2.Ins y1).wN))
(v2=true->
(w3=w3)/\(w2=w2)/\(((0<=p4/\p4<=w2.length/\p4<=9223372036854775807)/\ECk ⟨w2,Ab⟩)/\SPk (ix p2.Ins y1)/\f1=false/\s1=[]/\t1=[])/\let r3:=wrgS ⟨w2,Ab⟩ w3 (ix p2.Ins y1) p1.we p4
(w3=w3)/\(w2=w2)/\kz R Aa Ab Ag Aj Ad Bp Ap Af Al Bq Br Bt Bu At Au Av As w2 w5k w5v w6k w6v w7k w7v r3.wAb r3.wM r3.Tx r3.wAw r3.wAy r3.wAo r3.wAz r3.wAx r3.wAn Aa Ab Ag Aj Ah Ai Ak Ad Bp Ap Af Al Bq Br Bt Bu f1 i1 k1 l1 w2 w3 b2 f2 s1 t1 o1 q1 m1 n1)/\
(v2=false->
(0<=(ix p2.Ins y1).wN)/\(ix p2.Ins y1).wN<(w3.length:Int)/\let v4:Bool:=(!(((ix w3 ((ix p2.Ins y1).wN)).Value==(ix p2.Ins y1).ww)&&(((ix w3 ((ix p2.Ins y1).wN)).wAs==(ix p2.Ins y1).wAE)&&(((ix w3 ((ix p2.Ins y1).wN)).Rho==(ix p2.Ins y1).wAH)&&(((ix w3 ((ix p2.Ins y1).wN)).wAu==(ix p2.Ins y1).wAU)&&true)))))
(v4=true->
(w3=w3)/\(w2=w2)/\(((0<=p4/\p4<=w2.length/\p4<=9223372036854775807)/\ECk ⟨w2,Ab⟩)/\SPk (ix p2.Ins y1)/\f1=false/\s1=[]/\t1=[])/\let r5:=wrgS ⟨w2,Ab⟩ w3 (ix p2.Ins y1) p1.we p4
(w3=w3)/\(w2=w2)/\kz R Aa Ab Ag Aj Ad Bp Ap Af Al Bq Br Bt Bu At Au Av As w2 w5k w5v w6k w6v w7k w7v r5.wAb r5.wM r5.Tx r5.wAw r5.wAy r5.wAo r5.wAz r5.wAx r5.wAn Aa Ab Ag Aj Ah Ai Ak Ad Bp Ap Af Al Bq Br Bt Bu f1 i1 k1 l1 w2 w3 b2 f2 s1 t1 o1 q1 m1 n1)/\
(v4=false->
 b2.length=f2.length/\let v6:wR:=mVal (BEq.beq ((ix p2.Ins y1).wN)) b2 f2 (default:wR)
 let v7:Bool:=mHas (BEq.beq ((ix p2.Ins y1).wN)) b2
(v7=true->
(w3=w3)/\(w2=w2)/\kz R Aa Ab Ag Aj Ad Bp Ap Af Al Bq Br Bt Bu At Au Av As w2 w5k w5v w6k w6v w7k w7v 2 0 0 ((ownQ v6).wBJ) ((ownQ v6).wBI) ((ownQ v6).wBA) ((ownQ (ix p2.Ins y1)).wBJ) ((ownQ (ix p2.Ins y1)).wBI) ((ownQ (ix p2.Ins y1)).wBA) Aa Ab Ag Aj Ah Ai Ak Ad Bp Ap Af Al Bq Br Bt Bu f1 i1 k1 l1 w2 w3 b2 f2 s1 t1 o1 q1 m1 n1)/\
(v7=false->
 b2.length=f2.length/\let v8:Li:=mPutK (BEq.beq ((ix p2.Ins y1).wN)) b2 ((ix p2.Ins y1).wN)
 let v9:List wR:=mPutV (BEq.beq ((ix p2.Ins y1).wN)) b2 f2 (ix p2.Ins y1)
 let v10:Int:=u64.wrap (x1+((ix p2.Ins y1).ww))
 I1 (i64.wrap (u1+1)) v10 (i64.wrap (y1+1)) v8 v9/\M1 (i64.wrap (u1+1)) v10 (i64.wrap (y1+1)) v8 v9<M1 u1 x1 y1 b2 f2)))))/\
(decide (y1<(p2.Ins.length:Int))=false->
(w3=w3)/\(w2=w2)/\∃(I2:Fz8 Prop) (M2:Fz8 Nat),I2 0 f1 i1 k1 l1 Aa Ab Ag Aj Ah Ai Ak Ad Bp Ap Af Al Bq Br Bt Bu m1 n1 o1 q1 s1 t1 b2 f2 w3 w2/\∀i2 k2 l2 m2 n2 o2 q2 s2 t2 u2 x2 y2 b3 f3 i3 k3 l3 m3 n3 o3 q3 s3 t3 u3 x3 y3 b4 f4 i4 k4 l4,(I2 i2 k2 l2 m2 n2 o2 q2 s2 t2 u2 x2 y2 b3 f3 i3 k3 l3 m3 n3 o3 q3 s3 t3 u3 x3 y3 b4 f4 i4 k4 l4->
(decide (i2<(p2.wC.length:Int))=true->
(0<=i2)/\i2<(p2.wC.length:Int)/\lz k4/\(k4.length+[(ix p2.wC i2)].length)*32<=140737488355328/\k4.length+[(ix p2.wC i2)].length<=maxLen/\(k4++[(ix p2.wC i2)]=k4++[(ix p2.wC i2)])/\(l4=l4)/\I2 (i64.wrap (i2+1)) k2 l2 m2 n2 o2 q2 s2 t2 u2 x2 y2 b3 f3 i3 k3 l3 m3 n3 o3 q3 s3 t3 u3 x3 y3 b4 f4 i4 (k4++[(ix p2.wC i2)]) l4/\M2 (i64.wrap (i2+1)) k2 l2 m2 n2 o2 q2 s2 t2 u2 x2 y2 b3 f3 i3 k3 l3 m3 n3 o3 q3 s3 t3 u3 x3 y3 b4 f4 i4 (k4++[(ix p2.wC i2)]) l4<M2 i2 k2 l2 m2 n2 o2 q2 s2 t2 u2 x2 y2 b3 f3 i3 k3 l3 m3 n3 o3 q3 s3 t3 u3 x3 y3 b4 f4 i4 k4 l4)/\
(decide (i2<(p2.wC.length:Int))=false->
 let v11:Int:=i64.wrap (x2+(p2.wC.length:Int))
(p2.wC.length<=9223372036854775807)/\let v12:Int:=u64.wrap (u2+(u64.wrap ((outS p2.wC)-x1)))
(k4=k4)/\(l4=l4)/\kz R Aa Ab Ag Aj Ad Bp Ap Af Al Bq Br Bt Bu At Au Av As w2 w5k w5v w6k w6v w7k w7v 0 0 0 0 ([]:Li) 0 0 ([]:Li) 0 o2 q2 s2 t2 v12 v11 (i64.wrap (y2+u1)) b3 f3 i3 k3 l3 m3 n3 o3 q3 k2 l2 m2 n2 l4 k4 f4 i4 y3 b4 u3 x3 s3 t3))))))->J1 b1 f1 i1 k1 l1 m1 n1 o1 q1 s1 t1)->
((!p3)=true->
 J1 true At Au Av As w7k w7v w6k w6v w5k w5v)/\
((!p3)=false->
(TR p1/\-9223372036854775808<=Aa/\Aa<=9223372036854775807)/\(SR (stmtS p1 Aa)/\WR p2/\OrOk w5k w5v As/\(∀l a,(pk At As w5k w5v) l a=none∨∃n,(pk At As w5k w5v) l a=some n/\U64 n))/\let r1:Int:=(checkS (pk At As w5k w5v) (stmtS p1 Aa) p2)
 J1 (r1 !=0) At Au Av As w7k w7v w6k w6v w5k w5v))<|by
 rintro p1 p2 p3 p4 Aa Ab Ag Aj Ah Ai Ak Ad Bp Ap Af Al Bq Br Bt Bu At Au Av As w2 w3 w4k w4v w5k w5v w6k w6v w7k w7v h R hR;obtain⟨⟨c,hc,hX⟩,hC,hh,⟨rfl,rfl,rfl⟩,hT,hW,hd1,hd6⟩:=h;have hF:checkS (pk false As [] [])=checkS pkR:=by rw[pk_emp]
 intro J kJ
 have j:∀b,(b=true↔(p3=false∨checkS pkR (stmtS p1 Aa) p2≠0))->J b false Au Av As w7k w7v w6k w6v [] []:=by
  intro b hb;refine kJ _ _ _ _ _ _ _ _ _ _ _ ⟨fun e=> ?_,fun e=> ?_⟩
  ·unfold exTx at hR;rw[qi (hb.1 e)]at hR;subst hR;exact(by repeat' first|apply qq|exact rfl|exact qn)
  ·have hn:¬(p3=false∨checkS pkR (stmtS p1 Aa) p2≠0):=fun hh=>by rw[hb.2 hh]at e;cases e
   have hk:p3=true:=by cases p3 with|true=>rfl|false=>exact(hn (.inl rfl)).elim
   have hck:checkS pkR (stmtS p1 Aa) p2=0:=qah fun hh=>hn (.inr hh);have hr:=(kao.1 hck).1;obtain⟨r1,r2,r3,r4⟩:=rel_in hr (qej (ke0 hd1) hd6) (hW hk);unfold exTx at hR;rw[qf hn]at hR;generalize hE:exIn ⟨w2,Ab⟩ ⟨w3,w4k,w4v,Ai,Ak,Ah⟩ p1 p2 p4=E at hR;have hnl:=hX.nl;have hnl:w3.length<=4*c:=hnl;refine⟨(fun u x y k v=>∃j:Nat,y=(j:Int)/\j<=p2.Ins.length/\k.length=v.length/\inpS ⟨w2,Ab⟩ w3 p1.we p4 (p2.Ins.drop j) ⟨zeroF,u,x,k,v⟩=E),(fun _ _ y _ _=>(p2.Ins.length-y).toNat),⟨0,rfl,qax _,hX.kv,hE⟩,?_⟩;rintro u x _ k v ⟨i,rfl,hi,hkv,hg⟩;refine⟨fun e2=> ?_,fun e2=> ?_⟩
   ·have e2:(i:Int)<p2.Ins.length:=qb e2;have hil:i<p2.Ins.length:=by omega
    have hx:ix p2.Ins (i:Int)=p2.Ins[i]:=ix_get _ _ hil;obtain⟨sx,px⟩:=r1 _ (ix_mem p2.Ins (i:Int) qqo e2);rw[qas hil,<-hx,inpS]at hg;rw[inc (i:Int) p2.Ins.length qqo e2 qqo];generalize ix p2.Ins (i:Int)=X at *
    have hkd:(wrgS ⟨w2,Ab⟩ w3 X p1.we p4).wAb≠0:=by unfold wrgS;rw[k8r];decide
    refine⟨by omega,e2,fun e3=> ?_,fun e3=> ?_⟩
    ·rw[qi e3]at hg;exact⟨⟨i+1,rfl,by omega,hkv,hg⟩,by(first|omega|(dsimp only;omega))⟩
    ·rw[qf (by simp[e3])]at hg;refine⟨fun e4=> ?_,fun e4=> ?_⟩
     ·have e4:=qb e4;rw[qi (.inl e4)]at hg;subst hg;rw[qi hkd]at hR;subst hR;exact⟨rfl,rfl,⟨⟨hh,hC⟩,sx,rfl,rfl,rfl⟩,(by repeat' first|apply qq|exact rfl|exact qn)⟩
     ·have e4:=qc e4;refine⟨sx.p0,by omega,fun e5=> ?_,fun e5=> ?_⟩
      ·rw[qi (.inr ((note_ne _ _).1 e5))]at hg;subst hg;rw[qi hkd]at hR;subst hR;exact⟨rfl,rfl,⟨⟨hh,hC⟩,sx,rfl,rfl,rfl⟩,(by repeat' first|apply qq|exact rfl|exact qn)⟩
      ·rw[qf (fun hq=>hq.elim e4 fun hq=>by rw[(note_ne _ _).2 hq]at e5;cases e5)]at hg;refine⟨hkv,fun e6=> ?_,fun e6=>⟨hkv,?_⟩⟩
       ·rw[qi (k1x.1 e6)]at hg;subst hg;have hR:EF.mk _ _=R:=hR;subst hR;exact(by repeat' first|apply qq|exact rfl|exact qn)
       ·rw[qf (fun hq=>by rw[k1x.2 hq]at e6;cases e6)]at hg;obtain⟨q1,q2⟩:=kn0 e6 v X;dsimp only;rw[q1,q2];exact⟨⟨i+1,rfl,by omega,by simp[hkv],hg⟩,by(first|omega|(dsimp only;omega))⟩
   ·have e2:¬(i:Int)<p2.Ins.length:=qc e2;rw[qav qqo]at hg;have hg:EIn.mk zeroF u x k v=E:=hg;subst hg;have hR:EF.mk zeroF ⟨w3++p2.wC,k,v,i64.wrap (Ai+(p2.wC.length:Int)),i64.wrap (Ak+u),u64.wrap (Ah+u64.wrap (outS p2.wC-x))⟩=R:=hR;subst hR;refine⟨rfl,rfl,(fun i z1 z2 z3 z4 z5 z6 z7 z8 z9 y0 y1 y2 y3 y4 y5 y6 y7 y8 y9 x0 x1 x2 x3 x4 x5 x6 x7 x8 n t=>∃j:Nat,i=(j:Int)/\j<=p2.wC.length/\(false=z1/\Au=z2/\Av=z3/\As=z4/\Aa=z5/\Ab=z6/\Ag=z7/\Aj=z8/\Ah=z9/\Ai=y0)/\(Ak=y1/\Ad=y2/\Bp=y3/\Ap=y4/\Af=y5/\Al=y6/\Bq=y7/\Br=y8/\Bt=y9/\Bu=x0)/\(w7k=x1/\w7v=x2/\w6k=x3/\w6v=x4/\[]=x5/\[]=x6/\k=x7/\v=x8)/\n=w3++p2.wC.take j/\w2=t),(fun i _ _ _ _ _ _ _ _ _ _ _ _ _ _ _ _ _ _ _ _ _ _ _ _ _ _ _ _ _ _=>(p2.wC.length-i).toNat),⟨0,rfl,qax _,⟨rfl,rfl,rfl,rfl,rfl,rfl,rfl,rfl,rfl,rfl⟩,⟨rfl,rfl,rfl,rfl,rfl,rfl,rfl,rfl,rfl,rfl⟩,⟨rfl,rfl,rfl,rfl,rfl,rfl,rfl,rfl⟩,by simp,rfl⟩,?_⟩;rintro _ _ _ _ _ _ _ _ _ _ _ _ _ _ _ _ _ _ _ _ _ _ _ _ _ _ _ _ _ _ _ ⟨j,rfl,hj,⟨rfl,rfl,rfl,rfl,rfl,rfl,rfl,rfl,rfl,rfl⟩,⟨rfl,rfl,rfl,rfl,rfl,rfl,rfl,rfl,rfl,rfl⟩,⟨rfl,rfl,rfl,rfl,rfl,rfl,rfl,rfl⟩,rfl,rfl⟩;refine⟨fun e3=> ?_,fun e3=> ?_⟩
    ·have e3:(j:Int)<p2.wC.length:=qb e3;have hjl:j<p2.wC.length:=by omega
     have hx:ix p2.wC (j:Int)=p2.wC[j]:=ix_get _ _ hjl;have hlen:(w3++p2.wC.take j).length<=4004:=by rw[qj,qab];omega
     rw[inc (j:Int) p2.wC.length qqo e3 qqo];refine⟨by omega,e3,rfl,?_,?_,rfl,rfl,⟨j+1,rfl,by omega,⟨rfl,rfl,rfl,rfl,rfl,rfl,rfl,rfl,rfl,rfl⟩,⟨rfl,rfl,rfl,rfl,rfl,rfl,rfl,rfl,rfl,rfl⟩,⟨rfl,rfl,rfl,rfl,rfl,rfl,rfl,rfl⟩,?_,rfl⟩,by(first|omega|(dsimp only;omega))⟩
     ·simp only[qu,qao];omega
     ·simp only[qu,qao];unfold maxLen;omega
     ·have tk:=ke p2.wC (j:Int) qqo e3;rw[show((j:Int)+1).toNat=j+1 by omega,qt]at tk;rw[qz,tk]
    ·have e3:¬(j:Int)<p2.wC.length:=qc e3;rw[qw qqo];exact⟨by omega,(by repeat' first|apply qq|exact rfl|exact qn)⟩
 refine⟨fun e=>j true ⟨fun _=> .inl (by simpa using e),fun _=>rfl⟩,fun e=> ?_⟩;have e:p3=true:=by simpa using e
 refine⟨⟨hT,by omega,by omega⟩,⟨stmt_SR hT ⟨by omega,by omega⟩,hW e,kic _,fun l a=>by rw[pk_emp];exact pkR_u⟩,?_⟩;dsimp only;rw[hF];exact j _ ⟨fun h1=> .inr (by simpa using h1),fun h1=>h1.elim (fun h2=>by rw[e]at h2;cases h2) (fun h2=>by simpa using h2)⟩
noncomputable def kc3:Con TB.den:= .b (gk 117 [.one (.ptr 0 0),.one (.d (.sl (.st 3))),.one (.k (.fn 78))] yC (.tup [])) [.sl (.st 3),yqi,.sl yqu,yqu,yqu,yqu,yqi,yqi,yqi,yqi,yqi,yqu,.sl yqu,yqu,yqu,.sl yqu,yqu,.bool,yqu,yqi,.sl (.st 4),.sl (.st 19),.sl (.st 15),.sl yqi,.sl (.st 14),.sl (.str),.sl yqi,.sl (.str),.sl (.sl yqu),.sl (.str),.sl (.bool)] yK fun(p1:List wH) (Aa:Int) (Ab:Li) (Ag Aj Ah Ai Ak Ad Bp Ap Af:Int) (Al:Li) (Bq Br:Int) (Bt:Li) (Bu:Int) (At:Bool) (Au Av:Int) (As:List wD) (w2:List wv) (w3:List wU) (w4k:Li) (w4v:List wR) (w5k:Lb) (w5v:Li) (w6k:Lb) (w6v:List (Li)) (w7k:Lb) (w7v:Lo)=>(CHk Aa p1 w2 Ab ⟨w3,w4k,w4v,Ai,Ak,Ah⟩/\(At=false/\w5k=[]/\w5v=[])/\(Ad=0/\Bp=0/\Ap=0/\Af=0/\Al=[]/\Bq=0)/\Br=0/\Bt=[]/\Bu=0,chnGo ⟨w2,Ab⟩ Aa p1 ⟨w3,w4k,w4v,Ai,Ak,Ah⟩,fun R=>(Aa,Ab,Ag,Aj,R.x.hd,R.x.cr,R.x.sp,R.f.wAb,R.f.wM,R.f.Tx,R.f.wAw,R.f.wAy,R.f.wAo,R.f.wAz,R.f.wAx,R.f.wAn,At,Au,Av,As,w2,R.x.n,R.x.k,R.x.v,w5k,w5v,w6k,w6v,w7k,w7v,()))
abbrev k53 (R:EF) (Aa:Int) (Ab:Li) (Ag Aj:Int) (At:Bool) (Au Av:Int) (As:List wD) (w2:List wv) (w5k:Lb) (w5v:Li) (w6k:Lb) (w6v:List (Li)) (w7k:Lb) (w7v:Lo) (o0:Int) (o1:Li) (o2 o3 o4 o5 o6 o7 o8 o9 o10:Int) (o11:Li) (o12 o13:Int) (o14:Li) (o15:Int) (o16:Bool) (o17 o18:Int) (o19:List wD) (o20:List wv) (o21:List wU) (o22:Li) (o23:List wR) (o24:Lb) (o25:Li) (o26:Lb) (o27:List (Li)) (o28:Lb) (o29:Lo):Prop:=o0=Aa/\o1=Ab/\o2=Ag/\o3=Aj/\o4=R.x.hd/\o5=R.x.cr/\o6=R.x.sp/\o7=R.f.wAb/\o8=R.f.wM/\o9=R.f.Tx/\o10=R.f.wAw/\o11=R.f.wAy/\o12=R.f.wAo/\o13=R.f.wAz/\o14=R.f.wAx/\o15=R.f.wAn/\o16=At/\o17=Au/\o18=Av/\o19=As/\o20=w2/\o21=R.x.n/\o22=R.x.k/\o23=R.x.v/\o24=w5k/\o25=w5v/\o26=w6k/\o27=w6v/\o28=w7k/\o29=w7v
abbrev Fz9 (r:Type):=Int->Int->Bool->Int->Int->(List wD)->Int->(Li)->Int->Int->Int->Int->Int->Int->Int->Int->Int->(Li)->Int->Int->(Li)->Int->(Lb)->(Lo)->(Lb)->(List (Li))->(Lb)->(Li)->(Li)->(List wR)->(List wU)->(List wv)->r
theorem kd5:kc3.Ok Tryz.prog TB:=pbv Bs Tryz.func117 (.r 1 (.lp [] ⟨[7,6,5,4,3,2,1,0],yD,[6,16],[.one (zqi),.one (zqi)],[]⟩ (.r 1 (.nd [] (.r 1 (.lp [] ⟨[7,6,5,4,3,2,1,0],yD,[6,23],[.one (zqi),.one (zqi)],[]⟩ .no)) [] .no)))) (kb5.c (k64.c c0)) (Q:=∀(p1:List wH) (Aa:Int) (Ab:Li) (Ag Aj Ah Ai Ak Ad Bp Ap Af:Int) (Al:Li) (Bq Br:Int) (Bt:Li) (Bu:Int) (At:Bool) (Au Av:Int) (As:List wD) (w2:List wv) (w3:List wU) (w4k:Li) (w4v:List wR) (w5k:Lb) (w5v:Li) (w6k:Lb) (w6v:List (Li)) (w7k:Lb) (w7v:Lo),(CHk Aa p1 w2 Ab ⟨w3,w4k,w4v,Ai,Ak,Ah⟩/\(At=false/\w5k=[]/\w5v=[])/\(Ad=0/\Bp=0/\Ap=0/\Af=0/\Al=[]/\Bq=0)/\Br=0/\Bt=[]/\Bu=0)->∀R,chnGo ⟨w2,Ab⟩ Aa p1 ⟨w3,w4k,w4v,Ai,Ak,Ah⟩=R-> 
(w3=w3)/\(w2=w2)/\∃(I1:Fz9 Prop) (M1:Fz9 Nat),I1 0 0 At Au Av As Aa Ab Ag Aj Ah Ai Ak Ad Bp Ap Af Al Bq Br Bt Bu w7k w7v w6k w6v w5k w5v w4k w4v w3 w2/\∀b1 f1 i1 k1 l1 m1 n1 o1 q1 s1 t1 u1 x1 y1 b2 f2 i2 k2 l2 m2 n2 o2 q2 s2 t2 u2 x2 y2 b3 f3 i3 k3,(I1 b1 f1 i1 k1 l1 m1 n1 o1 q1 s1 t1 u1 x1 y1 b2 f2 i2 k2 l2 m2 n2 o2 q2 s2 t2 u2 x2 y2 b3 f3 i3 k3->
(decide (f1<(p1.length:Int))=true->
(0<=f1)/\f1<(p1.length:Int)/\(i3=i3)/\(k3=k3)/\∃(I2:Fz9 Prop) (M2:Fz9 Nat),I2 b1 0 i1 k1 l1 m1 n1 o1 q1 s1 t1 u1 x1 y1 b2 f2 i2 k2 l2 m2 n2 o2 q2 s2 t2 u2 x2 y2 b3 f3 i3 k3/\∀l3 m3 n3 o3 q3 s3 t3 u3 x3 y3 b4 f4 i4 k4 l4 m4 n4 o4 q4 s4 t4 u4 x4 y4 b5 f5 i5 k5 l5 m5 n5 o5,(I2 l3 m3 n3 o3 q3 s3 t3 u3 x3 y3 b4 f4 i4 k4 l4 m4 n4 o4 q4 s4 t4 u4 x4 y4 b5 f5 i5 k5 l5 m5 n5 o5->
 let v1:Bool:=decide (m3<(((ix p1 f1).Txs).length:Int))
(v1=true->
(0<=m3)/\m3<(((ix p1 f1).Txs).length:Int)/\(By (ix ((ix p1 f1).Txs) m3).wo/\(ix ((ix p1 f1).Txs) m3).wo.length<=137438953472)/\let r2:=(decW (ix ((ix p1 f1).Txs) m3).wo).1
 let r3:Bool:=((decW (ix ((ix p1 f1).Txs) m3).wo).2==0)
(n5=n5)/\(o5=o5)/\((∃c:Nat,c<=1000/\EXk ⟨n5,l5,m5,f4,i4,b4⟩ c)/\ECk ⟨o5,u3⟩/\(0<=((ix p1 f1).wM)/\((ix p1 f1).wM)<=o5.length/\((ix p1 f1).wM)<=9223372036854775807)/\(n3=false/\i5=[]/\k5=[])/\TR (ix ((ix p1 f1).Txs) m3)/\(r3=true->WR r2)/\1<=t3/\t3<=6)/\let r4:=(exTx ⟨o5,u3⟩ t3 ⟨n5,l5,m5,f4,i4,b4⟩ (ix ((ix p1 f1).Txs) m3) r2 r3 ((ix p1 f1).wM)).f
 let r5:=exTx ⟨o5,u3⟩ t3 ⟨n5,l5,m5,f4,i4,b4⟩ (ix ((ix p1 f1).Txs) m3) r2 r3 ((ix p1 f1).wM)
((r4.wAb !=0)=true->
(r5.x.n=r5.x.n)/\(o5=o5)/\k53 R Aa Ab Ag Aj At Au Av As w2 w5k w5v w6k w6v w7k w7v t3 u3 x3 y3 r5.x.hd r5.x.cr r5.x.sp r4.wAb ((ix p1 f1).wM) m3 r4.wAw r4.wAy r4.wAo r4.wAz r4.wAx r4.wAn n3 o3 q3 s3 o5 r5.x.n r5.x.k r5.x.v i5 k5 b5 f5 x4 y4)/\
((r4.wAb !=0)=false->
(r5.x.n=r5.x.n)/\(o5=o5)/\I2 (i64.wrap (l3+1)) (i64.wrap (m3+1)) n3 o3 q3 s3 t3 u3 x3 y3 r5.x.hd r5.x.cr r5.x.sp k4 l4 m4 n4 o4 q4 s4 t4 u4 x4 y4 b5 f5 i5 k5 r5.x.k r5.x.v r5.x.n o5/\M2 (i64.wrap (l3+1)) (i64.wrap (m3+1)) n3 o3 q3 s3 t3 u3 x3 y3 r5.x.hd r5.x.cr r5.x.sp k4 l4 m4 n4 o4 q4 s4 t4 u4 x4 y4 b5 f5 i5 k5 r5.x.k r5.x.v r5.x.n o5<M2 l3 m3 n3 o3 q3 s3 t3 u3 x3 y3 b4 f4 i4 k4 l4 m4 n4 o4 q4 s4 t4 u4 x4 y4 b5 f5 i5 k5 l5 m5 n5 o5))/\
(v1=false->
(n5=n5)/\(o5=o5)/\I1 l3 (i64.wrap (f1+1)) n3 o3 q3 s3 t3 u3 x3 y3 b4 f4 i4 k4 l4 m4 n4 o4 q4 s4 t4 u4 x4 y4 b5 f5 i5 k5 l5 m5 n5 o5/\M1 l3 (i64.wrap (f1+1)) n3 o3 q3 s3 t3 u3 x3 y3 b4 f4 i4 k4 l4 m4 n4 o4 q4 s4 t4 u4 x4 y4 b5 f5 i5 k5 l5 m5 n5 o5<M1 b1 f1 i1 k1 l1 m1 n1 o1 q1 s1 t1 u1 x1 y1 b2 f2 i2 k2 l2 m2 n2 o2 q2 s2 t2 u2 x2 y2 b3 f3 i3 k3)))/\
(decide (f1<(p1.length:Int))=false->
(i3=i3)/\(k3=k3)/\k53 R Aa Ab Ag Aj At Au Av As w2 w5k w5v w6k w6v w7k w7v n1 o1 q1 s1 t1 u1 x1 y1 b2 f2 i2 k2 l2 m2 n2 o2 i1 k1 l1 m1 k3 i3 b3 f3 x2 y2 t2 u2 q2 s2)))<|by
 rintro p1 Aa Ab Ag Aj Ah Ai Ak Ad Bp Ap Af Al Bq Br Bt Bu At Au Av As w2 w3 w4k w4v w5k w5v w6k w6v w7k w7v h R hR;obtain⟨hH,⟨rfl,rfl,rfl⟩,⟨rfl,rfl,rfl,rfl,rfl,rfl⟩,rfl,rfl,rfl⟩:=h;have hlen:=hH.len;refine⟨rfl,rfl,(fun nb f z1 z2 z3 z4 z5 z6 z7 z8 hd cr sp y1 y2 y3 y4 y5 y6 y7 y8 y9 x1 x2 x3 x4 x5 x6 sk sv ns tr=>∃k:Nat,f=(k:Int)/\k<=p1.length/\(0<=nb/\nb<=4*k)/\(false=z1/\Au=z2/\Av=z3/\As=z4/\Aa=z5/\Ab=z6/\Ag=z7/\Aj=z8)/\(0=y1/\0=y2/\0=y3/\0=y4/\[]=y5/\0=y6/\0=y7/\[]=y8/\0=y9)/\(w7k=x1/\w7v=x2/\w6k=x3/\w6v=x4/\[]=x5/\[]=x6/\w2=tr)/\EXk ⟨ns,sk,sv,cr,sp,hd⟩ nb.toNat/\chnGo ⟨w2,Ab⟩ Aa (p1.drop k) ⟨ns,sk,sv,cr,sp,hd⟩=R),(fun _ f _ _ _ _ _ _ _ _ _ _ _ _ _ _ _ _ _ _ _ _ _ _ _ _ _ _ _ _ _ _=>(p1.length-f).toNat),⟨0,rfl,qax _,⟨by omega,by omega⟩,⟨rfl,rfl,rfl,rfl,rfl,rfl,rfl,rfl⟩,⟨rfl,rfl,rfl,rfl,rfl,rfl,rfl,rfl,rfl⟩,⟨rfl,rfl,rfl,rfl,rfl,rfl,rfl⟩,hH.x,hR⟩,?_⟩;rintro nb _ _ _ _ _ _ _ _ _ hd cr sp _ _ _ _ _ _ _ _ _ _ _ _ _ _ _ sk sv ns _ ⟨k,rfl,hk,⟨n0,n1⟩,⟨rfl,rfl,rfl,rfl,rfl,rfl,rfl,rfl⟩,⟨rfl,rfl,rfl,rfl,rfl,rfl,rfl,rfl,rfl⟩,⟨rfl,rfl,rfl,rfl,rfl,rfl,rfl⟩,hX,hg⟩;refine⟨fun e=> ?_,fun e=> ?_⟩
 ·have e:(k:Int)<p1.length:=qb e;have hkl:k<p1.length:=by omega
  have hm:=ix_mem p1 (k:Int) qqo e;rw[kkv hkl]at hg;have hh:=hH.h _ hm;have htl:=hH.tl _ hm;have htt:=hH.t _ hm;rw[inc (k:Int) p1.length qqo e qqo];generalize ix p1 (k:Int)=B at *
  refine⟨by omega,e,rfl,rfl,(fun nb2 m z1 z2 z3 z4 z5 z6 z7 z8 hd cr sp y1 y2 y3 y4 y5 y6 y7 y8 y9 x1 x2 x3 x4 x5 x6 sk sv ns tr=>∃j:Nat,m=(j:Int)/\j<=B.Txs.length/\nb2=nb+(j:Int)/\(false=z1/\Au=z2/\Av=z3/\As=z4/\Aa=z5/\Ab=z6/\Ag=z7/\Aj=z8)/\(0=y1/\0=y2/\0=y3/\0=y4/\[]=y5/\0=y6/\0=y7/\[]=y8/\0=y9)/\(w7k=x1/\w7v=x2/\w6k=x3/\w6v=x4/\[]=x5/\[]=x6/\w2=tr)/\EXk ⟨ns,sk,sv,cr,sp,hd⟩ nb2.toNat/\(if(txsGo ⟨w2,Ab⟩ Aa B.wM j (B.Txs.drop j) ⟨ns,sk,sv,cr,sp,hd⟩).f.wAb≠0 then txsGo ⟨w2,Ab⟩ Aa B.wM j (B.Txs.drop j) ⟨ns,sk,sv,cr,sp,hd⟩else chnGo ⟨w2,Ab⟩ Aa (p1.drop (k+1)) (txsGo ⟨w2,Ab⟩ Aa B.wM j (B.Txs.drop j) ⟨ns,sk,sv,cr,sp,hd⟩).x)=R),(fun _ m _ _ _ _ _ _ _ _ _ _ _ _ _ _ _ _ _ _ _ _ _ _ _ _ _ _ _ _ _ _=>(B.Txs.length-m).toNat),⟨0,rfl,qax _,by omega,⟨rfl,rfl,rfl,rfl,rfl,rfl,rfl,rfl⟩,⟨rfl,rfl,rfl,rfl,rfl,rfl,rfl,rfl,rfl⟩,⟨rfl,rfl,rfl,rfl,rfl,rfl,rfl⟩,hX,hg⟩,?_⟩;rintro _ _ _ _ _ _ _ _ _ _ hd cr sp _ _ _ _ _ _ _ _ _ _ _ _ _ _ _ sk sv ns _ ⟨j,rfl,hj,rfl,⟨rfl,rfl,rfl,rfl,rfl,rfl,rfl,rfl⟩,⟨rfl,rfl,rfl,rfl,rfl,rfl,rfl,rfl,rfl⟩,⟨rfl,rfl,rfl,rfl,rfl,rfl,rfl⟩,hX,hg⟩;refine⟨fun e2=> ?_,fun e2=> ?_⟩
  ·have e2:(j:Int)<B.Txs.length:=qb e2;have hjl:j<B.Txs.length:=by omega
   have hx:ix B.Txs (j:Int)=B.Txs[j]:=ix_get _ _ hjl;have ht:=htt _ (ix_mem B.Txs (j:Int) qqo e2);rw[qas hjl,<-hx,txsGo]at hg;rw[inc (j:Int) B.Txs.length qqo e2 qqo,wi (nb+(j:Int)+1) qqo qqo];generalize ix B.Txs (j:Int)=X at *
   have hW:((decW X.wo).2==0)=true->WR (decW X.wo).1:=decW_WR;have hc:(nb+(j:Int)).toNat<=1000:=by omega
   refine⟨by omega,e2,⟨ht.1.p,ht.2⟩,rfl,rfl,⟨⟨_,hc,hX⟩,hH.C,hh,⟨rfl,rfl,rfl⟩,ht.1,hW,hH.d1,hH.d6 (List.ne_nil_of_mem hm)⟩,fun e3=> ?_,fun e3=> ?_⟩
   ·have e3:(exTd ⟨w2,Ab⟩ Aa B.wM ⟨ns,sk,sv,cr,sp,hd⟩ X).f.wAb≠0:=bne_iff_ne.1 e3;rw[qi e3,qi e3]at hg;subst hg;exact(by repeat' first|apply qq|exact rfl|exact qn)
   ·have e3:(exTd ⟨w2,Ab⟩ Aa B.wM ⟨ns,sk,sv,cr,sp,hd⟩ X).f.wAb=0:=bne_eq_false_iff_eq.1 e3;rw[qf (fun hq:(exTd ⟨w2,Ab⟩ Aa B.wM ⟨ns,sk,sv,cr,sp,hd⟩ X).f.wAb≠0=>hq e3)]at hg;have hn:=(exTx_ok hX hc ⟨hH.d1,hH.d6 (List.ne_nil_of_mem hm)⟩ hW e3).1;rw[show(nb+(j:Int)).toNat+1=(nb+(j:Int)+1).toNat by omega]at hn;exact⟨rfl,rfl,⟨j+1,rfl,by omega,by omega,⟨rfl,rfl,rfl,rfl,rfl,rfl,rfl,rfl⟩,⟨rfl,rfl,rfl,rfl,rfl,rfl,rfl,rfl,rfl⟩,⟨rfl,rfl,rfl,rfl,rfl,rfl,rfl⟩,hn,hg⟩,by(first|omega|(dsimp only;omega))⟩
  ·have e2:¬(j:Int)<B.Txs.length:=qc e2;rw[qav qqo]at hg;have hg:chnGo ⟨w2,Ab⟩ Aa (p1.drop (k+1)) ⟨ns,sk,sv,cr,sp,hd⟩=R:=hg;exact⟨rfl,rfl,⟨k+1,rfl,by omega,⟨by omega,by omega⟩,⟨rfl,rfl,rfl,rfl,rfl,rfl,rfl,rfl⟩,⟨rfl,rfl,rfl,rfl,rfl,rfl,rfl,rfl,rfl⟩,⟨rfl,rfl,rfl,rfl,rfl,rfl,rfl⟩,hX,hg⟩,by(first|omega|(dsimp only;omega))⟩
 ·have e:¬(k:Int)<p1.length:=qc e;rw[qav qqo]at hg;have hg:EF.mk zeroF ⟨ns,sk,sv,cr,sp,hd⟩=R:=hg;subst hg;exact(by repeat' first|apply qq|exact rfl|exact qn)
noncomputable def kc8:Con TB.den:= .bp 32 [.st 17] [yqu,yqi] fun(p0:wm)=>(OkA p0.wF,totA 0 p0.wF,fun R=>(R.1,R.2,()))
theorem kcs:kc8.Ok Tryz.prog TB:=qbx Bs [] Tryz.func32 (.r 1 (.nd [] (.r 0 (.lp [] ⟨[],[],[4,12],[.one (zqu),.one (zqi)],[]⟩ .no)) [] .no)) (x1 x81_ok x0) c0 (Q:=∀(p0:wm),(OkA p0.wF)->∀R,totA 0 p0.wF=R-> 
 ∃(I1:Int->Int->Prop) (M1:Int->Int->Nat),I1 0 0/\∀b1 f1,(I1 b1 f1->
(decide (f1<(p0.wF.length:Int))=true->
(0<=f1)/\f1<(p0.wF.length:Int)/\(0<=b1/\0<=((ix p0.wF f1).wa)/\0<=(0:Int)/\(0:Int)<=1)/\let r2:Int:=(b1+((ix p0.wF f1).wa)+(0:Int))%18446744073709551616
 let r3:Int:=(b1+((ix p0.wF f1).wa)+(0:Int))/18446744073709551616
((r3 !=0)=true->
 0=R.1/\3=R.2)/\
((r3 !=0)=false->
 I1 r2 (i64.wrap (f1+1))/\M1 r2 (i64.wrap (f1+1))<M1 b1 f1))/\
(decide (f1<(p0.wF.length:Int))=false->
 b1=R.1/\0=R.2)))<|by
 rintro p0 h R hR;subst hR;have hl:=h.2.1;refine(⟨(fun t a=>∃i:Nat,a=(i:Int)/\i<=p0.wF.length/\(0<=t/\t<18446744073709551616)/\totA t (p0.wF.drop i)=totA 0 p0.wF),(fun _ a=>(p0.wF.length-a).toNat),⟨0,rfl,by omega,by omega,rfl⟩,?_⟩);rintro t _ ⟨i,rfl,hi,ht,he⟩;refine⟨fun hc=> ?_,fun hc=> ?_⟩
 ·have hc:=qb hc;have hi' :i<p0.wF.length:=by omega
  have hb:=h.2.2 _ (qal hi');unfold AccOk at hb;rw[kn6 _ _ _ hi']at he;rw[ix_get _ _ hi'];refine⟨by omega,hc,⟨ht.1,by omega,by omega,by omega⟩,fun hx=> ?_,fun hx=> ?_⟩
  ·have hx:(t+p0.wF[i].wa+0)/18446744073709551616≠0:=by simpa using hx
   rw[qi qqo]at he;rw[<-he];exact⟨rfl,rfl⟩
  ·have hx:(t+p0.wF[i].wa+0)/18446744073709551616=0:=by simpa using hx
   rw[qf qqo]at he;rw[inc_i64 _ qqo];have e:(t+p0.wF[i].wa+0)%18446744073709551616=t+p0.wF[i].wa:=by omega
   rw[e];exact⟨⟨i+1,rfl,by omega,by omega,he⟩,by(dsimp only;omega)⟩
 ·have hc:=qc hc;have:i=p0.wF.length:=by omega
  subst this;rw[qes]at he;rw[<-he];exact⟨rfl,rfl⟩
noncomputable def kc0:Con TB.den:= .gp 69 [yqi] [.st 6] [] fun(p0:Int)=>(1<=p0/\p0<=12,(frF p0 []:wG),())
theorem k54:kc0.Ok Tryz.prog TB:=qrv Bs Tryz.func69 (.r 0 (.nd [] (.jn ⟨[],[],[8],[.one (.d (.bool))],[]⟩ [] .no [] .no) [] (.r 0 (.rt [.frzc 1 0 2])))) c0 (Q:=∀(p0:Int),(1<=p0/\p0<=12)->∀r0:wG,(frF p0 [])=r0-> 
 ∀J1:Bool->Prop,(∀(b1:Bool),
((b1=true->
 0=r0.wB/\0=r0.wd/\([]:Li)=r0.wg)/\
(b1=false->
 0<=i64.wrap (p0+1)/\i64.wrap (p0+1)<=i64.wrap (p0+1)/\((i64.wrap (p0+1)).toNat*8<=140737488355328)/\((i64.wrap (p0+1)).toNat<=maxLen)/\((i64.wrap (p0+1)).toNat=(List.replicate ((i64.wrap (p0+1)).toNat) (0:Int)).length)/\p0=r0.wB/\0=r0.wd/\List.replicate ((i64.wrap (p0+1)).toNat) (0:Int)=r0.wg))->J1 b1)->
(decide (p0<1)=true->
 J1 true)/\
(decide (p0<1)=false->
 J1 (decide (12<p0))))<|by
 rintro p0 h _ rfl;refine fun J1 j=>⟨fun e=>(by have:=qb e;omega),fun e=> ?_⟩;refine j _ ⟨fun e=>(by have:=qb e;omega),fun _=> ?_⟩;obtain⟨d,rfl⟩:=qo (show 0<=p0 by omega);rw[ko _ qqo qqo];have e2:((d:Int)+1).toNat=d+1:=by omega
 rw[e2];refine⟨by omega,by omega,by omega,by unfold maxLen;omega,by simp,rfl,rfl,?_⟩;show _=leftS (d:Int).toNat [];rw[qt];refine(List.eq_replicate_iff.2 ⟨k1o _ _,fun x hx=> ?_⟩).symm;obtain⟨i,hi,rfl⟩:=qai.1 hx;have:bitN ([]:Li).length i=false:=by simp[bitN]
 rw[qf (by rw[this];decide)]
noncomputable def kdi:Con TB.den:= .t ⟨70,[],[],(.one (.one (.ptr 0 0))),yM1,false⟩ [] [.sl yqu,.sl (.bool)] [] (([]:Li),([]:Lo),())
theorem k5x:kdi.Ok Tryz.prog TB:=ptv Bs Tryz.func70 .no c0 (Q:=∀e1k:Li,([]:Li)=e1k->∀e1v:Lo,([]:Lo)=e1v-> 
([]:Li)=e1k/\([]:Lo)=e1v)<|by rintro _ rfl _ rfl;exact⟨rfl,rfl⟩
noncomputable def kjl:Con TB.den:= .g ⟨20,[.agg yK1],[],(.tup [.one (.ptr 0 0),.one (zqi)]),yM,true⟩ [.st 0] yP [] fun(p0:wE)=>(rulesE p0=0,(0:Int),((newS p0).R.wb:Int),((newS p0).R.wB:Int),((newS p0).R.wP:Int),((newS p0).R.wO:Int),((newS p0).R.wL:Int),((newS p0).R.wV:Int),((newS p0).R.wc:Int),((newS p0).R.wS:Int),((newS p0).R.wW:Int),((newS p0).F.wB:Int),((newS p0).F.wd:Int),((newS p0).F.wg:Li),((newS p0).b:List wA),((newS p0).n:Int),((newS p0).l:Li),((newS p0).r:Li),((newS p0).p:List wJ),((newS p0).k:Li),((newS p0).v:Lo),())
theorem k5f:kjl.Ok Tryz.prog TB:=prx Bs [19] Tryz.func20 (.r 3 (.rt [.rnilc 114 12 yqu,.rnilc 114 17 (.st 10)])) x0 (k15.c (k54.c (k5x.c (k2j.c c0)))) (Q:=∀(p0:wE),(rulesE p0=0)->∀r1:Int,(0:Int)=r1->∀Ay:Int,((newS p0).R.wb)=Ay->∀Aq:Int,((newS p0).R.wB)=Aq->∀Aw:Int,((newS p0).R.wP)=Aw->∀Ax:Int,((newS p0).R.wO)=Ax->∀B0:Int,((newS p0).R.wL)=B0->∀B1:Int,((newS p0).R.wV)=B1->∀Bl:Int,((newS p0).R.wc)=Bl->∀Bm:Int,((newS p0).R.wS)=Bm->∀Bn:Int,((newS p0).R.wW)=Bn->∀Bo:Int,((newS p0).F.wB)=Bo->∀Bw:Int,((newS p0).F.wd)=Bw->∀A9:Li,((newS p0).F.wg)=A9->∀Ba:List wA,((newS p0).b)=Ba->∀Bx:Int,((newS p0).n)=Bx->∀e1:Li,((newS p0).l)=e1->∀e3:Li,((newS p0).r)=e3->∀e4:List wJ,((newS p0).p)=e4->∀e5k:Li,((newS p0).k)=e5k->∀e5v:Lo,((newS p0).v)=e5v-> 
(((rulesE p0) !=0)=true->
 False)/\
(((rulesE p0) !=0)=false->
(1<=p0.wB/\p0.wB<=12)/\(FV (frF p0.wB []))/\(0=([]:List wJ).length)/\lz [(rootF (frF p0.wB []))]/\(0=([]:Li).length)/\0=r1/\p0.wb=Ay/\p0.wB=Aq/\p0.wP=Aw/\p0.wO=Ax/\p0.wL=B0/\p0.wV=B1/\p0.wc=Bl/\p0.wS=Bm/\p0.wW=Bn/\(frF p0.wB []).wB=Bo/\(frF p0.wB []).wd=Bw/\(frF p0.wB []).wg=A9/\([]:List wA)=Ba/\0=Bx/\([]:Li)=e1/\[(rootF (frF p0.wB []))]=e3/\([]:List wJ)=e4/\[]=e5k/\[]=e5v))<|by
 rintro p0 h;repeat rintro _ rfl
 have hb:rulesB p0=true:=by
  cases hb:rulesB p0 with
  |true=>rfl
  |false=>unfold rulesE at h;rw[hb]at h;cases h
 have hd:1<=p0.wB/\p0.wB<=12:=by simp only[rulesB,qe,qaf]at hb;omega
 exact⟨fun e=>(by rw[h]at e;cases e),fun _=>⟨hd,frF_FV hd.1 hd.2 (qax _) (fun x hx=>by cases hx),rfl,rfl,rfl,rfl,rfl,rfl,rfl,rfl,rfl,rfl,rfl,rfl,rfl,rfl,rfl,rfl,rfl,rfl,rfl,rfl,rfl,rfl,rfl⟩⟩
noncomputable def kcl:Con TB.den:= .g (gk 20 [.agg yK1] [] (.tup [.one (.k .nilPtr),.one (zqi)])) [.st 0] [yqi] [] fun(p0:wE)=>(rulesE p0≠0,(rulesE p0:Int),())
theorem k33:kcl.Ok Tryz.prog TB:=prx Bs [19] Tryz.func20 (.r 3 (.rt [.rnilc 114 12 yqu,.rnilc 114 17 (.st 10)])) x0 (k15.c (k54.c (k5x.c (k2j.c c0)))) (Q:=∀(p0:wE),(rulesE p0≠0)->∀r1:Int,rulesE p0=r1-> 
(((rulesE p0) !=0)=true->
(rulesE p0)=r1)/\
(((rulesE p0) !=0)=false->
(1<=p0.wB/\p0.wB<=12)/\(FV (frF p0.wB []))/\False))<|by rintro p0 h _ rfl;exact⟨fun _=>rfl,fun e=>(h (by simpa using e)).elim⟩
noncomputable def ka8:Con TB.den:= .g (gk 77 [.one (.ptr 0 0),.agg yK1,.one (.d (.sl (.st 3))),.one (.k (.fn 78))] yQ (.tup [.agg yE1,.one (zqi)])) yT yU [] fun(p1:wE) (p2:List wH) (Ac:Bool) (Aa Ae:Int) (Ab:List wD) (w1k:Lb) (w1v:Li) (w2k:Lb) (w2v:List (Li)) (w3k:Lb) (w3v:Lo)=>((BLk p2/\(p2≠[]->p1.wB<=6)/\0<=p1.wV)/\Ac=false/\w1k=([]:Lb)/\w1v=([]:Li),((exmS p1 p2).1:wAv),((exmS p1 p2).2:Int),Ac,Aa,Ae,Ab,w1k,w1v,w2k,w2v,w3k,w3v,())
abbrev Fz10 (r:Type):=Int->Int->(Li)->Int->Int->Int->Int->Int->Int->Int->Int->Int->(Li)->Int->Int->(Li)->Int->Int->Int->Int->Int->Int->Int->Int->Int->Int->Int->Int->(Li)->(List wA)->Int->Bool->Int->Int->(List wD)->(Lb)->(Lo)->(Lb)->(List (Li))->(Lb)->(Li)->(List wv)->(List wU)->(Li)->(List wR)->(Li)->(Lo)->(Li)->(Li)->(List wJ)->r
theorem kc7:ka8.Ok Tryz.prog TB:=prv Bs Tryz.func77 (.r 3 (.nd [.tokc 13 2 (.st 19)] .no [] (.nd [] (.r 0 (.lp [.tokc 13 4 (.st 15)] ⟨[13,6,3,2,1,0,14,159,12,8,11],[.cells [.ptr 5 0,zqi,.own 6,zql,.own 7,.mp 8,zqu,zqu,zqu,zqi,zqi,zqi,zqi,zqi,zqu,.full yqu,zqu,zqu,.full yqu,zqu],.cells [zqi,zqi,zqi,zqi,zqi,zqu,zqi,zqi,zqu,zqi,zqi,zql,.row 11,.ptr 9 0,.d (.sl (.st 9)),zqu,.row 12,.row 13],.map (.str) (.bool),.map (.str) (.sl yqu),.map (.str) yqi,.cells [.d (.bool),zqu,zqi,.d (.sl (.st 4)),.mp 4,.mp 3,.mp 2],.tip (.st 19),.tip (.st 15),.map yqi (.st 14),.cells [.mp 10],.map yqu (.bool),.vec yqu,.vec yqu,.vec (.st 10)],[41],[.one (zqi)],[7,9,10]⟩ .no)) [] .no))) (k5f.c (k33.c (khd.c (k3d.c (kdo.c (kcn.c (kcs.c (kd5.c c0)))))))) (Q:=∀(p1:wE) (p2:List wH) (Ac:Bool) (Aa Ae:Int) (Ab:List wD) (w1k:Lb) (w1v:Li) (w2k:Lb) (w2v:List (Li)) (w3k:Lb) (w3v:Lo),((BLk p2/\(p2≠[]->p1.wB<=6)/\0<=p1.wV)/\Ac=false/\w1k=([]:Lb)/\w1v=([]:Li))->∀r0:wAv,((exmS p1 p2).1)=r0->∀r1:Int,((exmS p1 p2).2)=r1->∀Ay:Bool,Ac=Ay->∀Aq:Int,Aa=Aq->∀Aw:Int,Ae=Aw->∀Ax:List wD,Ab=Ax->∀e1k:Lb,w1k=e1k->∀e1v:Li,w1v=e1v->∀e2k:Lb,w2k=e2k->∀e2v:List (Li),w2v=e2v->∀e3k:Lb,w3k=e3k->∀e3v:Lo,w3v=e3v-> 
((rulesE p1=0)/\(((0:Int) !=0)=true->
 0=r0.wBK/\0=r0.wBN/\0=r0.wBH/\0=r0.wBF/\0=r0.wBL/\0=r0.wAk/\0=r0.wAh/\0=r0.wBB/\0=r0.wAW/\([]:Li)=r0.wAa/\0=r0.wAN/\0=r0.wAX/\([]:Li)=r0.wAY/\0=r0.wAQ/\0=r1/\Ac=Ay/\Aa=Aq/\Ae=Aw/\Ab=Ax/\w1k=e1k/\w1v=e1v/\w2k=e2k/\w2v=e2v/\w3k=e3k/\w3v=e3v)/\
(((0:Int) !=0)=false->
 lz ((newS p1).p)/\lz ((newS p1).r)/\lz ((newS p1).l)/\(((newS p1).r).length<=1000000)/\let r2:Int:=(if((newS p1).r)=[]then 0 else ix ((newS p1).r) ((((newS p1).r).length:Int)-1))
 lz ([]:List wv)/\(([]:List wv).length+[wv.mk r2 0].length)*16<=140737488355328/\([]:List wv).length+[wv.mk r2 0].length<=maxLen/\lz ((newS p1).p)/\lz ((newS p1).r)/\lz ((newS p1).l)/\(([]:List wU)=([]:List wU))/\(([]:List wv)++[wv.mk r2 0]=([]:List wv)++[wv.mk r2 0])/\∃(I1:Fz10 Prop) (M1:Fz10 Nat),I1 0 p1.wB ([]:Li) 0 0 0 0 0 0 0 0 0 ([]:Li) 0 0 ([]:Li) 0 ((newS p1).R.wb) ((newS p1).R.wB) ((newS p1).R.wP) ((newS p1).R.wO) ((newS p1).R.wL) ((newS p1).R.wV) ((newS p1).R.wc) ((newS p1).R.wS) ((newS p1).R.wW) ((newS p1).F.wB) ((newS p1).F.wd) ((newS p1).F.wg) ((newS p1).b) ((newS p1).n) Ac Aa Ae Ab w3k w3v w2k w2v w1k w1v (([]:List wv)++[wv.mk r2 0]) ([]:List wU) ([]:Li) ([]:List wR) ((newS p1).k) ((newS p1).v) ((newS p1).l) ((newS p1).r) ((newS p1).p)/\∀b1 f1 i1 k1 l1 m1 n1 o1 q1 s1 t1 u1 x1 y1 b2 f2 i2 k2 l2 m2 n2 o2 q2 s2 t2 u2 x2 y2 b3 f3 i3 k3 l3 m3 n3 o3 q3 s3 t3 u3 x3 y3 b4 f4 i4 k4 l4 m4 n4 o4,(I1 b1 f1 i1 k1 l1 m1 n1 o1 q1 s1 t1 u1 x1 y1 b2 f2 i2 k2 l2 m2 n2 o2 q2 s2 t2 u2 x2 y2 b3 f3 i3 k3 l3 m3 n3 o3 q3 s3 t3 u3 x3 y3 b4 f4 i4 k4 l4 m4 n4 o4->
(decide (b1<(p2.length:Int))=true->
(0<=b1)/\b1<(p2.length:Int)/\lz o4/\lz n4/\lz m4/\((∃c:Nat,c+(ix p2 b1).Txs.length<=790/\PI (PS.mk (wE.mk k2 l2 m2 n2 o2 q2 s2 t2 u2) (wG.mk x2 y2 b3) f3 i3 m4 n4 o4 k4 l4) c 0)/\BR' (ix p2 b1))/\let r3:Int:=((applyS (PS.mk (wE.mk k2 l2 m2 n2 o2 q2 s2 t2 u2) (wG.mk x2 y2 b3) f3 i3 m4 n4 o4 k4 l4) (ix p2 b1)).e)
 let r4:=(applyS (PS.mk (wE.mk k2 l2 m2 n2 o2 q2 s2 t2 u2) (wG.mk x2 y2 b3) f3 i3 m4 n4 o4 k4 l4) (ix p2 b1)).s
((r3 !=0)=true->
 0=r0.wBK/\0=r0.wBN/\0=r0.wBH/\0=r0.wBF/\0=r0.wBL/\0=r0.wAk/\0=r0.wAh/\0=r0.wBB/\0=r0.wAW/\([]:Li)=r0.wAa/\0=r0.wAN/\0=r0.wAX/\([]:Li)=r0.wAY/\0=r0.wAQ/\r3=r1/\k3=Ay/\l3=Aq/\m3=Aw/\n3=Ax/\u3=e1k/\x3=e1v/\s3=e2k/\t3=e2v/\o3=e3k/\q3=e3v)/\
((r3 !=0)=false->
 lz r4.p/\lz r4.r/\lz r4.l/\(r4.l.length<=1000000)/\lz r4.p/\lz r4.r/\lz r4.l/\(r4.r.length<=1000000)/\let r5:Int:=(if r4.r=[]then 0 else ix r4.r ((r4.r.length:Int)-1))
 lz y3/\(y3.length+[wv.mk r5 (r4.l.length:Int)].length)*16<=140737488355328/\y3.length+[wv.mk r5 (r4.l.length:Int)].length<=maxLen/\lz r4.p/\lz r4.r/\lz r4.l/\(b4=b4)/\(y3++[wv.mk r5 (r4.l.length:Int)]=y3++[wv.mk r5 (r4.l.length:Int)])/\I1 (i64.wrap (b1+1)) f1 r4.l k1 l1 m1 n1 o1 q1 s1 t1 u1 x1 y1 b2 f2 i2 r4.R.wb r4.R.wB r4.R.wP r4.R.wO r4.R.wL r4.R.wV r4.R.wc r4.R.wS r4.R.wW r4.F.wB r4.F.wd r4.F.wg r4.b r4.n k3 l3 m3 n3 o3 q3 s3 t3 u3 x3 (y3++[wv.mk r5 (r4.l.length:Int)]) b4 f4 i4 r4.k r4.v r4.l r4.r r4.p/\M1 (i64.wrap (b1+1)) f1 r4.l k1 l1 m1 n1 o1 q1 s1 t1 u1 x1 y1 b2 f2 i2 r4.R.wb r4.R.wB r4.R.wP r4.R.wO r4.R.wL r4.R.wV r4.R.wc r4.R.wS r4.R.wW r4.F.wB r4.F.wd r4.F.wg r4.b r4.n k3 l3 m3 n3 o3 q3 s3 t3 u3 x3 (y3++[wv.mk r5 (r4.l.length:Int)]) b4 f4 i4 r4.k r4.v r4.l r4.r r4.p<M1 b1 f1 i1 k1 l1 m1 n1 o1 q1 s1 t1 u1 x1 y1 b2 f2 i2 k2 l2 m2 n2 o2 q2 s2 t2 u2 x2 y2 b3 f3 i3 k3 l3 m3 n3 o3 q3 s3 t3 u3 x3 y3 b4 f4 i4 k4 l4 m4 n4 o4))/\
(decide (b1<(p2.length:Int))=false->
 lz o4/\lz n4/\lz m4/\(f3.length<=100000)/\(OkA (wm.mk f3).wF)/\let v6:Bool:=(((totA 0 (wm.mk f3).wF).2) !=0)
(v6=true->
 0=r0.wBK/\0=r0.wBN/\0=r0.wBH/\0=r0.wBF/\0=r0.wBL/\0=r0.wAk/\0=r0.wAh/\0=r0.wBB/\0=r0.wAW/\([]:Li)=r0.wAa/\0=r0.wAN/\0=r0.wAX/\([]:Li)=r0.wAY/\0=r0.wAQ/\((totA 0 (wm.mk f3).wF).2)=r1/\k3=Ay/\l3=Aq/\m3=Aw/\n3=Ax/\u3=e1k/\x3=e1v/\s3=e2k/\t3=e2v/\o3=e3k/\q3=e3v)/\
(v6=false->
(b4=b4)/\(y3=y3)/\(CHk f1 p2 y3 i1 ⟨b4,f4,i4,n1,o1,m1⟩/\(k3=false/\u3=[]/\x3=[])/\(q1=0/\s1=0/\t1=0/\u1=0/\x1=[]/\y1=0)/\b2=0/\f2=[]/\i2=0)/\let r7:=chnGo ⟨y3,i1⟩ f1 p2 ⟨b4,f4,i4,n1,o1,m1⟩
 let v8:Int:=u64.wrap ((u64.wrap (p2.length:Int))*p1.wV)
 v8=r0.wBK/\((totA 0 (wm.mk f3).wF).1)=r0.wBN/\r7.x.hd=r0.wBH/\r7.x.cr=r0.wBF/\r7.x.sp=r0.wBL/\r7.f.wAb=r0.wAk/\r7.f.wM=r0.wAh/\r7.f.Tx=r0.wBB/\r7.f.wAw=r0.wAW/\r7.f.wAy=r0.wAa/\r7.f.wAo=r0.wAN/\r7.f.wAz=r0.wAX/\r7.f.wAx=r0.wAY/\r7.f.wAn=r0.wAQ/\0=r1/\k3=Ay/\l3=Aq/\m3=Aw/\n3=Ax/\u3=e1k/\x3=e1v/\s3=e2k/\t3=e2v/\o3=e3k/\q3=e3v)))))∨((rulesE p1≠0)/\(((rulesE p1) !=0)=true->
 0=r0.wBK/\0=r0.wBN/\0=r0.wBH/\0=r0.wBF/\0=r0.wBL/\0=r0.wAk/\0=r0.wAh/\0=r0.wBB/\0=r0.wAW/\([]:Li)=r0.wAa/\0=r0.wAN/\0=r0.wAX/\([]:Li)=r0.wAY/\0=r0.wAQ/\(rulesE p1)=r1/\Ac=Ay/\Aa=Aq/\Ae=Aw/\Ab=Ax/\w1k=e1k/\w1v=e1v/\w2k=e2k/\w2v=e2v/\w3k=e3k/\w3v=e3v)/\
(((rulesE p1) !=0)=false->
 False)))<|by
 rintro p1 p2 Ac Aa Ae Ab w1k w1v w2k w2v w3k w3v h;repeat rintro _ rfl
 obtain⟨⟨hl,h6,hw⟩,rfl,rfl,rfl⟩:=h;have h8:=hl.len;by_cases hE:rulesE p1=0
 ·refine .inl ⟨hE,fun e=>(by cases e),fun _=> ?_⟩;generalize hG:exmS p1 p2=G;have hP:PI (newS p1) 0 0:=new_PI hE hw;refine⟨rfl,rfl,rfl,(by show(1:Nat)<=_;omega),rfl,(by show(0+1)*16<=_;omega),(by show 0+1<=maxLen;unfold maxLen;omega),rfl,rfl,rfl,rfl,rfl,?_⟩;refine⟨(fun i f1 i1 k1 l1 m1 n1 o1 q1 s1 t1 u1 x1 y1 b2 f2 i2 k2 l2 m2 n2 o2 q2 s2 t2 u2 x2 y2 b3 f3 i3 k3 l3 m3 n3 o3 q3 s3 t3 u3 x3 y3 b4 f4 i4 k4 l4 m4 n4 o4=>∃k:Nat,i=(k:Int)/\k<=p2.length/\(p1.wB=f1/\m4=i1/\0=k1/\0=l1/\0=m1/\0=n1/\0=o1/\0=q1/\0=s1/\0=t1/\0=u1/\[]=x1/\0=y1/\0=b2/\[]=f2)/\(0=i2/\[]=b4/\[]=f4/\[]=i4/\false=k3/\Aa=l3/\Ae=m3/\Ab=n3/\w3k=o3/\w3v=q3)/\(w2k=s3/\w2v=t3/\[]=u3/\[]=x3)/\y3.length=k+1/\(∀t∈y3,0<=t.leaves/\t.leaves<=m4.length)/\(∀j:Nat,j<k->(ix p2 (j:Int)).wM=(j:Int)+1)/\o4.length=k/\PI (PS.mk (wE.mk k2 l2 m2 n2 o2 q2 s2 t2 u2) (wG.mk x2 y2 b3) f3 i3 m4 n4 o4 k4 l4) (5*k) 0/\y3++trGo (p2.drop k) (PS.mk (wE.mk k2 l2 m2 n2 o2 q2 s2 t2 u2) (wG.mk x2 y2 b3) f3 i3 m4 n4 o4 k4 l4)=treS (newS p1)::trGo p2 (newS p1)/\auGo (p2.drop k) (PS.mk (wE.mk k2 l2 m2 n2 o2 q2 s2 t2 u2) (wG.mk x2 y2 b3) f3 i3 m4 n4 o4 k4 l4)=auGo p2 (newS p1)),(fun i _ _ _ _ _ _ _ _ _ _ _ _ _ _ _ _ _ _ _ _ _ _ _ _ _ _ _ _ _ _ _ _ _ _ _ _ _ _ _ _ _ _ _ _ _ _ _ _ _=>(p2.length-i).toNat),⟨0,rfl,qax _,⟨rfl,rfl,rfl,rfl,rfl,rfl,rfl,rfl,rfl,rfl,rfl,rfl,rfl,rfl,rfl⟩,⟨rfl,rfl,rfl,rfl,rfl,rfl,rfl,rfl,rfl,rfl⟩,⟨rfl,rfl,rfl,rfl⟩,rfl,(fun t ht=>by rw[qag.1 ht];exact⟨qck _,qck _⟩),(fun j hj=>by omega),rfl,hP,rfl,rfl⟩,?_⟩;rintro _ _ _ _ _ _ _ _ _ _ _ _ _ _ _ _ _ k2 l2 m2 n2 o2 q2 s2 t2 u2 x2 y2 b3 f3 i3 _ _ _ _ _ _ _ _ _ _ y3 _ _ _ k4 l4 m4 n4 o4 ⟨k,rfl,g1,⟨rfl,rfl,rfl,rfl,rfl,rfl,rfl,rfl,rfl,rfl,rfl,rfl,rfl,rfl,rfl⟩,⟨rfl,rfl,rfl,rfl,rfl,rfl,rfl,rfl,rfl,rfl⟩,⟨rfl,rfl,rfl,rfl⟩,hy3,hyl,hhe,hol,hPI,htr,hgo⟩;refine⟨fun hh=> ?_,fun hh=> ?_⟩
  ·have hk:k<p2.length:=by have:=qb hh;omega
   have hx:ix p2 (k:Int)=p2[k]:=ix_get _ _ hk;have hmem:p2[k]∈p2:=qal hk;have htx:=hl.tl _ hmem;have hbr:BR' p2[k]:=hl.r _ hmem;rw[kmx hk]at hgo;rw[klw hk]at htr;rw[hx,inc (k:Int) p2.length qqo qqo qqo];refine⟨by omega,by omega,rfl,rfl,rfl,⟨⟨5*k,by omega,hPI⟩,hbr⟩,?_⟩;dsimp only;refine⟨fun e=> ?_,fun e=> ?_⟩
   ·have e:¬(applyS (PS.mk (wE.mk k2 l2 m2 n2 o2 q2 s2 t2 u2) (wG.mk x2 y2 b3) f3 i3 m4 n4 o4 k4 l4) p2[k]).e=0:=by simpa using e
    rw[qf e]at hgo;have hG2:G=(zeroR,(applyS (PS.mk (wE.mk k2 l2 m2 n2 o2 q2 s2 t2 u2) (wG.mk x2 y2 b3) f3 i3 m4 n4 o4 k4 l4) p2[k]).e):=by rw[<-hG];unfold exmS;rw[qi hE,<-hgo];exact qf e
    subst hG2;exact(by repeat' first|apply qq|exact rfl|exact qn)
   ·have e:(applyS (PS.mk (wE.mk k2 l2 m2 n2 o2 q2 s2 t2 u2) (wG.mk x2 y2 b3) f3 i3 m4 n4 o4 k4 l4) p2[k]).e=0:=by simpa using e
    rw[qi e]at hgo;have hlm:=klr hPI qqo hbr e;have hz:=k7b e;have hP2:=(kbl hPI qqo hbr e).mono (d:=5*(k+1)) qqo;have hlm:m4.length<=_:=hlm;have a1:=hP2.ll;have a2:=hP2.rl;have a3:=hP2.p;have a4:=pow12 (applyS (PS.mk (wE.mk k2 l2 m2 n2 o2 q2 s2 t2 u2) (wG.mk x2 y2 b3) f3 i3 m4 n4 o4 k4 l4) p2[k]).s.R.wB.toNat (by have:=hP2.d2;omega);have a5:p2[k].wM=(o4.length:Int)+1:=hz.1;have a6:(applyS (PS.mk (wE.mk k2 l2 m2 n2 o2 q2 s2 t2 u2) (wG.mk x2 y2 b3) f3 i3 m4 n4 o4 k4 l4) p2[k]).s.p.length=o4.length+1:=hz.2.1;refine⟨by trivial,by trivial,by trivial,by omega,by trivial,by trivial,by trivial,by omega,by trivial,?_,?_,by trivial,by trivial,by trivial,by trivial,by trivial,⟨k+1,rfl,by omega,⟨rfl,rfl,rfl,rfl,rfl,rfl,rfl,rfl,rfl,rfl,rfl,rfl,rfl,rfl,rfl⟩,⟨rfl,rfl,rfl,rfl,rfl,rfl,rfl,rfl,rfl,rfl⟩,⟨rfl,rfl,rfl,rfl⟩,?_,?_,?_,by omega,hP2,?_,hgo⟩,by(first|omega|(dsimp only;omega))⟩
    ·simp only[qu,qao];omega
    ·simp only[qu,qao];unfold maxLen;omega
    ·rw[qj,hy3];rfl
    ·intro t ht;rcases qae.1 ht with ht|ht
     ·have:=hyl t ht;exact⟨this.1,by omega⟩
     ·rw[qag.1 ht];exact⟨qef _,qck _⟩
    ·intro j hj;by_cases hjk:j=k
     ·subst hjk;rw[hx,a5,hol]
     ·exact hhe j qqo
    ·rw[<-htr,qz];rfl
  ·have hk:k=p2.length:=by have:=qc hh;omega
   subst hk;rw[qes]at hgo htr;have hgo:(⟨0,(PS.mk (wE.mk k2 l2 m2 n2 o2 q2 s2 t2 u2) (wG.mk x2 y2 b3) f3 i3 m4 n4 o4 k4 l4)⟩:PE)=auGo p2 (newS p1):=hgo;have htr:y3++[]=treS (newS p1)::trGo p2 (newS p1):=htr;rw[qcd]at htr;have hbl:=hPI.b.2.2;have ht:=(sup_PI hPI qqo).1;have hCl:(exmC p1 p2)=⟨y3,m4⟩:=by unfold exmC;rw[<-htr,<-hgo]
   have hG2:G=(wAv.mk (u64.wrap (u64.wrap (p2.length:Int)*p1.wV)) (totA 0 f3).1 (chnGo ⟨y3,m4⟩ p1.wB p2 ex0).x.hd (chnGo ⟨y3,m4⟩ p1.wB p2 ex0).x.cr (chnGo ⟨y3,m4⟩ p1.wB p2 ex0).x.sp (chnGo ⟨y3,m4⟩ p1.wB p2 ex0).f.wAb (chnGo ⟨y3,m4⟩ p1.wB p2 ex0).f.wM (chnGo ⟨y3,m4⟩ p1.wB p2 ex0).f.Tx (chnGo ⟨y3,m4⟩ p1.wB p2 ex0).f.wAw (chnGo ⟨y3,m4⟩ p1.wB p2 ex0).f.wAy (chnGo ⟨y3,m4⟩ p1.wB p2 ex0).f.wAo (chnGo ⟨y3,m4⟩ p1.wB p2 ex0).f.wAz (chnGo ⟨y3,m4⟩ p1.wB p2 ex0).f.wAx (chnGo ⟨y3,m4⟩ p1.wB p2 ex0).f.wAn,0):=by rw[<-hG];unfold exmS exmY;rw[qi hE,hCl,<-hgo];rfl
   have ht2:(totA 0 f3).2=0:=by have:totA 0 f3=(sumA f3,0):=ht;rw[this]
   have hll:=hPI.ll;have hp12:=pow12 l2.toNat (by have:=hPI.d2;have:l2<=12:=this;omega);have hll:m4.length<=2^l2.toNat:=hll;have hd1:1<=p1.wB:=hP.d1
   have hH:CHk p1.wB p2 y3 m4 ⟨[],[],[],0,0,0⟩:=by
    refine⟨⟨hyl,fun x hx=> ?_,?_⟩,hd1,h6,fun b hb=> ?_,hl.tl,fun b hb t ht=> ?_,h8,ex0_k⟩
    ·have:=hPI.l x hx;exact⟨this.1,by have:=this.2;omega⟩
    ·show m4.length<=4096;omega
    ·obtain⟨j,hj,rfl⟩:=qbt hb;have:=hhe j hj;rw[ix_get _ _ hj]at this;rw[this,hy3];exact⟨by omega,by omega,by omega⟩
    ·have h1:=(hl.r b hb).t t ht;have h2:=((hl.r b hb).l t ht).p;exact⟨h1,by omega⟩
   refine⟨rfl,rfl,rfl,(by have:f3.length<=_:=hbl;omega),hPI.b.1,?_⟩;subst hG2;refine⟨fun e=> ?_,fun e=> ?_⟩
   ·exfalso;have e:((totA 0 f3).2 !=0)=true:=e;rw[ht2]at e;cases e
   ·exact⟨rfl,rfl,⟨hH,⟨rfl,rfl,rfl⟩,⟨rfl,rfl,rfl,rfl,rfl,rfl⟩,rfl,rfl,rfl⟩,(by repeat' first|apply qq|exact rfl|exact qn)⟩
 ·refine .inr ⟨hE,fun e=> ?_,fun e=>(hE (by simpa using e)).elim⟩;have hG2:exmS p1 p2=(zeroR,rulesE p1):=qf hE;rw[hG2];exact(by repeat' first|apply qq|exact rfl|exact qn)
noncomputable def kd4:Con TB.den:= .b (gk 30 [.one (.ptr 0 0),.agg yK1,.one (.d (.sl (.st 3)))] yQ (.tup [.agg yE1,.one (zqi)])) yT yU fun(p1:wE) (p2:List wH) (Ac:Bool) (Aa Ae:Int) (Ab:List wD) (w1k:Lb) (w1v:Li) (w2k:Lb) (w2v:List (Li)) (w3k:Lb) (w3v:Lo)=>((BLk p2/\(p2≠[]->p1.wB<=6)/\0<=p1.wV)/\Ac=false/\w1k=([]:Lb)/\w1v=([]:Li),audS false p1 p2,fun R=>(R.1,R.2,Ac,Aa,Ae,Ab,w1k,w1v,w2k,w2v,w3k,w3v,()))
theorem k5p:kd4.Ok Tryz.prog TB:=pbv Bs Tryz.func30 (.r 1 (.nd [] (.jn ⟨[3,2,1,0],yR,[21],[.one (.d (.bool))],[]⟩ [] .no [] .no) [] .no)) (k15.c (k1n.c (kc7.c c0))) (Q:=∀(p1:wE) (p2:List wH) (Ac:Bool) (Aa Ae:Int) (Ab:List wD) (w1k:Lb) (w1v:Li) (w2k:Lb) (w2v:List (Li)) (w3k:Lb) (w3v:Lo),((BLk p2/\(p2≠[]->p1.wB<=6)/\0<=p1.wV)/\Ac=false/\w1k=([]:Lb)/\w1v=([]:Li))->∀R,audS false p1 p2=R-> 
(((rulesE p1) !=0)=true->
 0=R.1.wBK/\0=R.1.wBN/\0=R.1.wBH/\0=R.1.wBF/\0=R.1.wBL/\0=R.1.wAk/\0=R.1.wAh/\0=R.1.wBB/\0=R.1.wAW/\([]:Li)=R.1.wAa/\0=R.1.wAN/\0=R.1.wAX/\([]:Li)=R.1.wAY/\0=R.1.wAQ/\(rulesE p1)=R.2/\Ac=Ac/\Aa=Aa/\Ae=Ae/\Ab=Ab/\w1k=w1k/\w1v=w1v/\w2k=w2k/\w2v=w2v/\w3k=w3k/\w3v=w3v)/\
(((rulesE p1) !=0)=false->
 ∀J1:Bool->Bool->Int->Int->(List wD)->(Lb)->(Lo)->(Lb)->(List (Li))->(Lb)->(Li)->Prop,(∀(b1 f1:Bool) (i1 k1:Int) (l1:List wD) (m1:Lb) (n1:Lo) (o1:Lb) (q1:List (Li)) (s1:Lb) (t1:Li),
((b1=true->
 0=R.1.wBK/\0=R.1.wBN/\0=R.1.wBH/\0=R.1.wBF/\0=R.1.wBL/\0=R.1.wAk/\0=R.1.wAh/\0=R.1.wBB/\0=R.1.wAW/\([]:Li)=R.1.wAa/\0=R.1.wAN/\0=R.1.wAX/\([]:Li)=R.1.wAY/\0=R.1.wAQ/\1=R.2/\f1=Ac/\i1=Aa/\k1=Ae/\l1=Ab/\s1=w1k/\t1=w1v/\o1=w2k/\q1=w2v/\m1=w3k/\n1=w3v)/\
(b1=false->
((BLk p2/\(p2≠[]->p1.wB<=6)/\0<=p1.wV)/\f1=false/\s1=([]:Lb)/\t1=([]:Li))/\((exmS p1 p2).1).wBK=R.1.wBK/\((exmS p1 p2).1).wBN=R.1.wBN/\((exmS p1 p2).1).wBH=R.1.wBH/\((exmS p1 p2).1).wBF=R.1.wBF/\((exmS p1 p2).1).wBL=R.1.wBL/\((exmS p1 p2).1).wAk=R.1.wAk/\((exmS p1 p2).1).wAh=R.1.wAh/\((exmS p1 p2).1).wBB=R.1.wBB/\((exmS p1 p2).1).wAW=R.1.wAW/\((exmS p1 p2).1).wAa=R.1.wAa/\((exmS p1 p2).1).wAN=R.1.wAN/\((exmS p1 p2).1).wAX=R.1.wAX/\((exmS p1 p2).1).wAY=R.1.wAY/\((exmS p1 p2).1).wAQ=R.1.wAQ/\((exmS p1 p2).2)=R.2/\f1=Ac/\i1=Aa/\k1=Ae/\l1=Ab/\s1=w1k/\t1=w1v/\o1=w2k/\q1=w2v/\m1=w3k/\n1=w3v))->J1 b1 f1 i1 k1 l1 m1 n1 o1 q1 s1 t1)->
((p1.wb !=2)=true->
 J1 true Ac Aa Ae Ab w3k w3v w2k w2v w1k w1v)/\
((p1.wb !=2)=false->
 J1 Ac Ac Aa Ae Ab w3k w3v w2k w2v w1k w1v)))<|by
 rintro p1 p2 Ac Aa Ae Ab w1k w1v w2k w2v w3k w3v h R hR;obtain⟨hB,rfl,rfl,rfl⟩:=h;have hG:=hR;unfold audS at hG;refine⟨fun e=> ?_,fun e=> ?_⟩
 ·rw[qi (by simpa using e)]at hG;subst hG;exact(by repeat' first|apply qq|exact rfl|exact qn)
 ·have e:rulesE p1=0:=by simpa using e
  rw[qf (by simp[e])]at hG;intro J1 k1
  have j:∀b:Bool,(b=true↔(p1.wb≠2∨false=true))->J1 b false Aa Ae Ab w3k w3v w2k w2v [] []:=fun b hb2=>k1 _ _ _ _ _ _ _ _ _ _ _ ⟨fun eb=>by
    rw[qi (hb2.1 eb)]at hG;subst hG;exact(by repeat' first|apply qq|exact rfl|exact qn),fun eb=>by
    have hn:¬(p1.wb≠2∨false=true):=fun hh=>by rw[hb2.2 hh]at eb;cases eb
    rw[qf hn]at hG;subst hG;exact⟨⟨hB,rfl,rfl,rfl⟩,(by repeat' first|apply qq|exact rfl|exact qn)⟩⟩
  exact⟨fun em=>j true ⟨fun _=> .inl (by simpa using em),fun _=>rfl⟩,fun em=>j false ⟨fun hh=>(by cases hh),fun hh=>hh.elim (fun h2=>(h2 (by simpa using em)).elim) id⟩⟩
noncomputable def kgl:Con TB.den:= .g ⟨11,[.one (.ptr 0 0),.agg yK1],yQ,(.tup [.one (.ptr 4 0),.one (zqi)]),[.cells [.d (.bool),zqu,zqi,.d (.sl (.st 4)),.mp 1,.mp 2,.mp 3],.map (.str) yqi,.map (.str) (.sl yqu),.map (.str) (.bool),.cells yC1,.map yqu (.st 11),.cells yW,.vec yqu,.cells [.mp 11],.vec yqu,.vec (.st 10),.map yqu (.bool)],true⟩ yY (.int .i64:: .bool:: .int .u64:: .int .i64:: .sl (.st 4):: .int .i64:: .int .i64:: .int .i64:: .int .i64:: .int .i64:: .int .u64:: .int .i64:: .int .i64:: .int .u64::[.sl yqu,yqu,yqi,yqi,yqi,yqi,yqi,yqi,yqu,yqi,yqi,yqu,yqi,yqi,.sl yqu,.sl (.st 9),yqu,.sl (.str),.sl yqi,.sl (.str),.sl (.sl yqu),.sl (.str),.sl (.bool),.sl yqu,.sl (.st 11),.sl yqu,.sl yqu,.sl (.st 10),.sl yqu,.sl (.bool)]) [] fun(p1:wE) (Ac:Bool) (Aa Ae:Int) (Ab:List wD) (w1k:Lb) (w1v:Li) (w2k:Lb) (w2v:List (Li)) (w3k:Lb) (w3v:Lo)=>(rulesE p1=0/\p1.wb=2/\Ac=false,(0:Int),Ac,Aa,Ae,Ab,p1.wb,p1.wB,p1.wP,p1.wO,p1.wL,p1.wV,p1.wc,p1.wS,p1.wW,(([]:Li):Li),(0:Int),(0:Int),((newS p1).R.wb:Int),((newS p1).R.wB:Int),((newS p1).R.wP:Int),((newS p1).R.wO:Int),((newS p1).R.wL:Int),((newS p1).R.wV:Int),((newS p1).R.wc:Int),((newS p1).R.wS:Int),((newS p1).R.wW:Int),((newS p1).F.wB:Int),((newS p1).F.wd:Int),((newS p1).F.wg:Li),((newS p1).b:List wA),((newS p1).n:Int),w1k,w1v,w2k,w2v,w3k,w3v,(([]:Li):Li),(([]:List wK):List wK),((newS p1).l:Li),((newS p1).r:Li),((newS p1).p:List wJ),((newS p1).k:Li),((newS p1).v:Lo),())
theorem k9j:kgl.Ok Tryz.prog TB:=prv Bs Tryz.func11 .no (k15.c (k1n.c (k5f.c (k33.c c0)))) (Q:=∀(p1:wE) (Ac:Bool) (Aa Ae:Int) (Ab:List wD) (w1k:Lb) (w1v:Li) (w2k:Lb) (w2v:List (Li)) (w3k:Lb) (w3v:Lo),(rulesE p1=0/\p1.wb=2/\Ac=false)->∀r1:Int,(0:Int)=r1->∀Ay:Bool,Ac=Ay->∀Aq:Int,Aa=Aq->∀Aw:Int,Ae=Aw->∀Ax:List wD,Ab=Ax->∀d4_1:Int,p1.wb=d4_1->∀d4_2:Int,p1.wB=d4_2->∀d4_3:Int,p1.wP=d4_3->∀d4_4:Int,p1.wO=d4_4->∀d4_5:Int,p1.wL=d4_5->∀d4_6:Int,p1.wV=d4_6->∀d4_7:Int,p1.wc=d4_7->∀d4_8:Int,p1.wS=d4_8->∀d4_9:Int,p1.wW=d4_9->∀d4_11:Li,(([]:Li):Li)=d4_11->∀d4_13:Int,(0:Int)=d4_13->∀d4_14:Int,(0:Int)=d4_14->∀d6_0:Int,((newS p1).R.wb)=d6_0->∀d6_1:Int,((newS p1).R.wB)=d6_1->∀d6_2:Int,((newS p1).R.wP)=d6_2->∀d6_3:Int,((newS p1).R.wO)=d6_3->∀d6_4:Int,((newS p1).R.wL)=d6_4->∀d6_5:Int,((newS p1).R.wV)=d6_5->∀d6_6:Int,((newS p1).R.wc)=d6_6->∀d6_7:Int,((newS p1).R.wS)=d6_7->∀d6_8:Int,((newS p1).R.wW)=d6_8->∀d6_9:Int,((newS p1).F.wB)=d6_9->∀d6_10:Int,((newS p1).F.wd)=d6_10->∀d6_11:Li,((newS p1).F.wg)=d6_11->∀d6_14:List wA,((newS p1).b)=d6_14->∀d6_15:Int,((newS p1).n)=d6_15->∀e1k:Lb,w1k=e1k->∀e1v:Li,w1v=e1v->∀e2k:Lb,w2k=e2k->∀e2v:List (Li),w2v=e2v->∀e3k:Lb,w3k=e3k->∀e3v:Lo,w3v=e3v->∀e5k:Li,(([]:Li):Li)=e5k->∀e5v:List wK,(([]:List wK):List wK)=e5v->∀e7:Li,((newS p1).l)=e7->∀e9:Li,((newS p1).r)=e9->∀e10:List wJ,((newS p1).p)=e10->∀e11k:Li,((newS p1).k)=e11k->∀e11v:Lo,((newS p1).v)=e11v-> 
(((rulesE p1) !=0)=true->
 False)/\
(((rulesE p1) !=0)=false->
((!(Ac==(p1.wb==3)))=true->
 False)/\
((!(Ac==(p1.wb==3)))=false->
((rulesE p1=0)/\(((0:Int) !=0)=true->
 False)/\
(((0:Int) !=0)=false->
 lz ((newS p1).p)/\lz ((newS p1).r)/\lz ((newS p1).l)/\0=r1/\Ac=Ay/\Aa=Aq/\Ae=Aw/\Ab=Ax/\p1.wb=d4_1/\p1.wB=d4_2/\p1.wP=d4_3/\p1.wO=d4_4/\p1.wL=d4_5/\p1.wV=d4_6/\p1.wc=d4_7/\p1.wS=d4_8/\p1.wW=d4_9/\([]:Li)=d4_11/\0=d4_13/\0=d4_14/\((newS p1).R.wb)=d6_0/\((newS p1).R.wB)=d6_1/\((newS p1).R.wP)=d6_2/\((newS p1).R.wO)=d6_3/\((newS p1).R.wL)=d6_4/\((newS p1).R.wV)=d6_5/\((newS p1).R.wc)=d6_6/\((newS p1).R.wS)=d6_7/\((newS p1).R.wW)=d6_8/\((newS p1).F.wB)=d6_9/\((newS p1).F.wd)=d6_10/\((newS p1).F.wg)=d6_11/\((newS p1).b)=d6_14/\((newS p1).n)=d6_15/\w1k=e1k/\w1v=e1v/\w2k=e2k/\w2v=e2v/\w3k=e3k/\w3v=e3v/\([]:Li)=e5k/\([]:List wK)=e5v/\((newS p1).l)=e7/\((newS p1).r)=e9/\((newS p1).p)=e10/\((newS p1).k)=e11k/\((newS p1).v)=e11v))∨((rulesE p1≠0)/\(((rulesE p1) !=0)=true->
 False)/\
(((rulesE p1) !=0)=false->
 False)))))<|by
 rintro p1 Ac Aa Ae Ab w1k w1v w2k w2v w3k w3v h;repeat rintro _ rfl
 obtain⟨h1,h2,rfl⟩:=h;refine⟨fun e=>(by simp[h1]at e),fun _=>⟨fun e=>(by simp[h2]at e),fun _=> .inl ⟨h1,fun e=>(by cases e),fun _=> ?_⟩⟩⟩;exact(by repeat' first|apply qq|exact rfl|exact qn)
noncomputable def kcd:Con TB.den:= .g (gk 11 [.one (.ptr 0 0),.agg yK1] yQ (.tup [.one (.k .nilPtr),.one (zqi)])) yY yZ [] fun(p1:wE) (Ac:Bool) (Aa Ae:Int) (Ab:List wD) (w1k:Lb) (w1v:Li) (w2k:Lb) (w2v:List (Li)) (w3k:Lb) (w3v:Lo)=>(rulesE p1≠0,(rulesE p1:Int),Ac,Aa,Ae,Ab,w1k,w1v,w2k,w2v,w3k,w3v,())
theorem k51:kcd.Ok Tryz.prog TB:=prv Bs Tryz.func11 .no (k15.c (k1n.c (k5f.c (k33.c c0)))) (Q:=∀(p1:wE) (Ac:Bool) (Aa Ae:Int) (Ab:List wD) (w1k:Lb) (w1v:Li) (w2k:Lb) (w2v:List (Li)) (w3k:Lb) (w3v:Lo),(rulesE p1≠0)->∀r1:Int,rulesE p1=r1->∀Ay:Bool,Ac=Ay->∀Aq:Int,Aa=Aq->∀Aw:Int,Ae=Aw->∀Ax:List wD,Ab=Ax->∀e1k:Lb,w1k=e1k->∀e1v:Li,w1v=e1v->∀e2k:Lb,w2k=e2k->∀e2v:List (Li),w2v=e2v->∀e3k:Lb,w3k=e3k->∀e3v:Lo,w3v=e3v-> 
(((rulesE p1) !=0)=true->
(rulesE p1)=r1/\Ac=Ay/\Aa=Aq/\Ae=Aw/\Ab=Ax/\w1k=e1k/\w1v=e1v/\w2k=e2k/\w2v=e2v/\w3k=e3k/\w3v=e3v)/\
(((rulesE p1) !=0)=false->
((!(Ac==(p1.wb==3)))=true->
 1=r1/\Ac=Ay/\Aa=Aq/\Ae=Aw/\Ab=Ax/\w1k=e1k/\w1v=e1v/\w2k=e2k/\w2v=e2v/\w3k=e3k/\w3v=e3v)/\
((!(Ac==(p1.wb==3)))=false->
((rulesE p1=0)/\(((0:Int) !=0)=true->
 0=r1/\Ac=Ay/\Aa=Aq/\Ae=Aw/\Ab=Ax/\w1k=e1k/\w1v=e1v/\w2k=e2k/\w2v=e2v/\w3k=e3k/\w3v=e3v)/\
(((0:Int) !=0)=false->
 False))∨((rulesE p1≠0)/\(((rulesE p1) !=0)=true->
(rulesE p1)=r1/\Ac=Ay/\Aa=Aq/\Ae=Aw/\Ab=Ax/\w1k=e1k/\w1v=e1v/\w2k=e2k/\w2v=e2v/\w3k=e3k/\w3v=e3v)/\
(((rulesE p1) !=0)=false->
 False)))))<|by
 rintro p1 Ac Aa Ae Ab w1k w1v w2k w2v w3k w3v h;repeat rintro _ rfl
 exact⟨fun _=>(by repeat' first|apply qq|exact rfl|exact qn),fun e=>(h (by simpa using e)).elim⟩
noncomputable def k6m:Con TB.den:= .t ⟨42,[],[],(.one (.one (.ptr 0 0))),yQ,false⟩ [] yA1 [] (false,(0:Int),(0:Int),([]:List wD),([]:Lb),([]:Li),([]:Lb),([]:List (Li)),([]:Lb),([]:Lo),())
theorem k7w:k6m.Ok Tryz.prog TB:=ptv Bs Tryz.func42 .no c0 (Q:=∀Ay:Bool,(false:Bool)=Ay->∀Aq:Int,(0:Int)=Aq->∀Aw:Int,(0:Int)=Aw->∀Ax:List wD,([]:List wD)=Ax->∀e1k:Lb,([]:Lb)=e1k->∀e1v:Li,([]:Li)=e1v->∀e2k:Lb,([]:Lb)=e2k->∀e2v:List (Li),([]:List (Li))=e2v->∀e3k:Lb,([]:Lb)=e3k->∀e3v:Lo,([]:Lo)=e3v-> 
 false=Ay/\0=Aq/\0=Aw/\([]:List wD)=Ax/\([]:Lb)=e1k/\([]:Li)=e1v/\([]:Lb)=e2k/\([]:List (Li))=e2v/\([]:Lb)=e3k/\([]:Lo)=e3v)<|by
 repeat rintro _ rfl
 exact⟨rfl,rfl,rfl,rfl,rfl,rfl,rfl,rfl,rfl,rfl⟩
noncomputable def ke8:Con TB.den:= .t ⟨12,[],[],(.one (.one (.ptr 0 0))),yQ,false⟩ [] yA1 [] (false,(0:Int),(0:Int),([]:List wD),([]:Lb),([]:Li),([]:Lb),([]:List (Li)),([]:Lb),([]:Lo),())
theorem k5q:ke8.Ok Tryz.prog TB:=ptv Bs Tryz.func12 .no (k7w.c c0) (Q:=∀Ay:Bool,(false:Bool)=Ay->∀Aq:Int,(0:Int)=Aq->∀Aw:Int,(0:Int)=Aw->∀Ax:List wD,([]:List wD)=Ax->∀e1k:Lb,([]:Lb)=e1k->∀e1v:Li,([]:Li)=e1v->∀e2k:Lb,([]:Lb)=e2k->∀e2v:List (Li),([]:List (Li))=e2v->∀e3k:Lb,([]:Lb)=e3k->∀e3v:Lo,([]:Lo)=e3v-> 
 false=Ay/\0=Aq/\0=Aw/\[]=Ax/\[]=e1k/\[]=e1v/\[]=e2k/\[]=e2v/\[]=e3k/\[]=e3v)<|by
 repeat rintro _ rfl
 exact⟨rfl,rfl,rfl,rfl,rfl,rfl,rfl,rfl,rfl,rfl⟩
noncomputable def keh:Con TB.den:= .g (gk 21 [.one (.ptr 0 0)] yB (.one (.one (zql)))) (.int .i64:: .int .i64:: .int .i64:: .int .i64:: .int .i64:: .int .u64:: .int .i64:: .int .i64:: .int .u64:: .sl yqu:: .int .u64:: .int .i64:: .bool::yH) (.sl yqu:: .int .i64:: .int .i64:: .int .i64:: .int .i64:: .int .i64:: .int .u64:: .int .i64:: .int .i64:: .int .u64:: .sl yqu:: .int .u64:: .int .i64:: .bool::yH) [] fun(Aa Ae Ab Am Ao Ag Aj Ah Ai:Int) (Ad:Li) (Ap Af:Int) (At:Bool) (Au Av:Int) (As:List wD) (Bb Bc Bd Be Bf Bg Bh Bi Bj Bk Az:Int) (A0:Li) (A7:List wA) (A8:Int) (w2k:Li) (w2v:List wK) (w4k:Lb) (w4v:Li) (w5k:Lb) (w5v:List (Li)) (w6k:Lb) (w6v:Lo) (w7 w9:Li) (w10:List wJ) (w11k:Li) (w11v:Lo)=>(Ad.length<=1000,Ad,Aa,Ae,Ab,Am,Ao,Ag,Aj,Ah,Ai,Ad,Ap,Af,At,Au,Av,As,Bb,Bc,Bd,Be,Bf,Bg,Bh,Bi,Bj,Bk,Az,A0,A7,A8,w2k,w2v,w4k,w4v,w5k,w5v,w6k,w6v,w7,w9,w10,w11k,w11v,())
theorem kgq:keh.Ok Tryz.prog TB:=prv Bs Tryz.func21 (.r 1 (.rt [.frz 12 [2]])) (k2y.c c0) (Q:=∀(Aa Ae Ab Am Ao Ag Aj Ah Ai:Int) (Ad:Li) (Ap Af:Int) (At:Bool) (Au Av:Int) (As:List wD) (Bb Bc Bd Be Bf Bg Bh Bi Bj Bk Az:Int) (A0:Li) (A7:List wA) (A8:Int) (w2k:Li) (w2v:List wK) (w4k:Lb) (w4v:Li) (w5k:Lb) (w5v:List (Li)) (w6k:Lb) (w6v:Lo) (w7 w9:Li) (w10:List wJ) (w11k:Li) (w11v:Lo),(Ad.length<=1000)->∀r0:Li,Ad=r0->∀Aq:Int,Aa=Aq->∀Aw:Int,Ae=Aw->∀Ax:Int,Ab=Ax->∀B0:Int,Am=B0->∀B1:Int,Ao=B1->∀Bl:Int,Ag=Bl->∀Bm:Int,Aj=Bm->∀Bn:Int,Ah=Bn->∀Bo:Int,Ai=Bo->∀A9:Li,Ad=A9->∀Bz:Int,Ap=Bz->∀Ba:Int,Af=Ba->∀B6:Bool,At=B6->∀B7:Int,Au=B7->∀B8:Int,Av=B8->∀B9:List wD,As=B9->∀Cc:Int,Bb=Cc->∀Cd:Int,Bc=Cd->∀Ce:Int,Bd=Ce->∀Cf:Int,Be=Cf->∀Cg:Int,Bf=Cg->∀Ch:Int,Bg=Ch->∀Ci:Int,Bh=Ci->∀Cj:Int,Bi=Cj->∀Ck:Int,Bj=Ck->∀Cl:Int,Bk=Cl->∀B2:Int,Az=B2->∀B3:Li,A0=B3->∀B4:List wA,A7=B4->∀B5:Int,A8=B5->∀e2k:Li,w2k=e2k->∀e2v:List wK,w2v=e2v->∀e4k:Lb,w4k=e4k->∀e4v:Li,w4v=e4v->∀e5k:Lb,w5k=e5k->∀e5v:List (Li),w5v=e5v->∀e6k:Lb,w6k=e6k->∀e6v:Lo,w6v=e6v->∀e7:Li,w7=e7->∀e9:Li,w9=e9->∀e10:List wJ,w10=e10->∀e11k:Li,w11k=e11k->∀e11v:Lo,w11v=e11v-> 
(Ad.length<=4294967295)/\lz Ad/\lz w10/\lz w9/\lz w7/\Ad=r0/\Aa=Aq/\Ae=Aw/\Ab=Ax/\Am=B0/\Ao=B1/\Ag=Bl/\Aj=Bm/\Ah=Bn/\Ai=Bo/\Ad=A9/\Ap=Bz/\Af=Ba/\At=B6/\Au=B7/\Av=B8/\As=B9/\Bb=Cc/\Bc=Cd/\Bd=Ce/\Be=Cf/\Bf=Cg/\Bg=Ch/\Bh=Ci/\Bi=Cj/\Bj=Ck/\Bk=Cl/\Az=B2/\A0=B3/\A7=B4/\A8=B5/\w2k=e2k/\w2v=e2v/\w4k=e4k/\w4v=e4v/\w5k=e5k/\w5v=e5v/\w6k=e6k/\w6v=e6v/\w7=e7/\w9=e9/\w10=e10/\w11k=e11k/\w11v=e11v)<|by
 rintro Aa Ae Ab Am Ao Ag Aj Ah Ai Ad Ap Af At Au Av As Bb Bc Bd Be Bf Bg Bh Bi Bj Bk Az A0 A7 A8 w2k w2v w4k w4v w5k w5v w6k w6v w7 w9 w10 w11k w11v h;repeat rintro _ rfl
 exact⟨by omega,(by repeat' first|apply qq|exact rfl|exact qn)⟩
noncomputable def kdk:Con TB.den:= .g (gk 22 [.one (.ptr 0 0),.one (zqu)] yB (.tup [.agg yI1,.one (.d (.bool))])) (.int .u64:: .int .i64:: .int .i64:: .int .i64:: .int .i64:: .int .i64:: .int .u64:: .int .i64:: .int .i64:: .int .u64:: .sl yqu:: .int .u64:: .int .i64:: .bool::yH) (.st 3:: .bool:: .int .i64:: .int .i64:: .int .i64:: .int .i64:: .int .i64:: .int .u64:: .int .i64:: .int .i64:: .int .u64:: .sl yqu:: .int .u64:: .int .i64:: .bool::yH) [] fun(p1 Aa Ae Ab Am Ao Ag Aj Ah Ai:Int) (Ad:Li) (Ap Af:Int) (At:Bool) (Au Av:Int) (As:List wD) (Bb Bc Bd Be Bf Bg Bh Bi Bj Bk Az:Int) (A0:Li) (A7:List wA) (A8:Int) (w2k:Li) (w2v:List wK) (w4k:Lb) (w4v:Li) (w5k:Lb) (w5v:List (Li)) (w6k:Lb) (w6v:Lo) (w7 w9:Li) (w10:List wJ) (w11k:Li) (w11v:Lo)=>((w2k.length=w2v.length/\p1∈w2k)/\(gB w2k w2v p1).Txs.length<=4/\∀x∈(gB w2k w2v p1).Txs,TL x,(gB w2k w2v p1:wH),true,Aa,Ae,Ab,Am,Ao,Ag,Aj,Ah,Ai,Ad,Ap,Af,At,Au,Av,As,Bb,Bc,Bd,Be,Bf,Bg,Bh,Bi,Bj,Bk,Az,A0,A7,A8,w2k,w2v,w4k,w4v,w5k,w5v,w6k,w6v,w7,w9,w10,w11k,w11v,())
theorem kf2:kdk.Ok Tryz.prog TB:=prv Bs Tryz.func22 .no (k5u.c c0) (Q:=∀(p1 Aa Ae Ab Am Ao Ag Aj Ah Ai:Int) (Ad:Li) (Ap Af:Int) (At:Bool) (Au Av:Int) (As:List wD) (Bb Bc Bd Be Bf Bg Bh Bi Bj Bk Az:Int) (A0:Li) (A7:List wA) (A8:Int) (w2k:Li) (w2v:List wK) (w4k:Lb) (w4v:Li) (w5k:Lb) (w5v:List (Li)) (w6k:Lb) (w6v:Lo) (w7 w9:Li) (w10:List wJ) (w11k:Li) (w11v:Lo),((w2k.length=w2v.length/\p1∈w2k)/\(gB w2k w2v p1).Txs.length<=4/\∀x∈(gB w2k w2v p1).Txs,TL x)->∀r0:wH,gB w2k w2v p1=r0->∀r1:Bool,(true:Bool)=r1->∀Aq:Int,Aa=Aq->∀Aw:Int,Ae=Aw->∀Ax:Int,Ab=Ax->∀B0:Int,Am=B0->∀B1:Int,Ao=B1->∀Bl:Int,Ag=Bl->∀Bm:Int,Aj=Bm->∀Bn:Int,Ah=Bn->∀Bo:Int,Ai=Bo->∀A9:Li,Ad=A9->∀Bz:Int,Ap=Bz->∀Ba:Int,Af=Ba->∀B6:Bool,At=B6->∀B7:Int,Au=B7->∀B8:Int,Av=B8->∀B9:List wD,As=B9->∀Cc:Int,Bb=Cc->∀Cd:Int,Bc=Cd->∀Ce:Int,Bd=Ce->∀Cf:Int,Be=Cf->∀Cg:Int,Bf=Cg->∀Ch:Int,Bg=Ch->∀Ci:Int,Bh=Ci->∀Cj:Int,Bi=Cj->∀Ck:Int,Bj=Ck->∀Cl:Int,Bk=Cl->∀B2:Int,Az=B2->∀B3:Li,A0=B3->∀B4:List wA,A7=B4->∀B5:Int,A8=B5->∀e2k:Li,w2k=e2k->∀e2v:List wK,w2v=e2v->∀e4k:Lb,w4k=e4k->∀e4v:Li,w4v=e4v->∀e5k:Lb,w5k=e5k->∀e5v:List (Li),w5v=e5v->∀e6k:Lb,w6k=e6k->∀e6v:Lo,w6v=e6v->∀e7:Li,w7=e7->∀e9:Li,w9=e9->∀e10:List wJ,w10=e10->∀e11k:Li,w11k=e11k->∀e11v:Lo,w11v=e11v-> 
 w2k.length=w2v.length/\let v2:wK:=mVal (BEq.beq p1) w2k w2v (default:wK)
((!mHas (BEq.beq p1) w2k)=true->
 lz w10/\lz w9/\lz w7/\0=r0.wh/\0=r0.wM/\0=r0.wAT/\0=r0.wW/\0=r0.wY/\([]:List wZ)=r0.Txs/\false=r1/\Aa=Aq/\Ae=Aw/\Ab=Ax/\Am=B0/\Ao=B1/\Ag=Bl/\Aj=Bm/\Ah=Bn/\Ai=Bo/\Ad=A9/\Ap=Bz/\Af=Ba/\At=B6/\Au=B7/\Av=B8/\As=B9/\Bb=Cc/\Bc=Cd/\Bd=Ce/\Be=Cf/\Bf=Cg/\Bg=Ch/\Bh=Ci/\Bi=Cj/\Bj=Ck/\Bk=Cl/\Az=B2/\A0=B3/\A7=B4/\A8=B5/\w2k=e2k/\w2v=e2v/\w4k=e4k/\w4v=e4v/\w5k=e5k/\w5v=e5v/\w6k=e6k/\w6v=e6v/\w7=e7/\w9=e9/\w10=e10/\w11k=e11k/\w11v=e11v)/\
((!mHas (BEq.beq p1) w2k)=false->
((wH.mk v2.wAZ v2.wAO v2.wAi v2.wAl v2.wAj v2.wAp).Txs.length<=4294967295/\∀x∈(wH.mk v2.wAZ v2.wAO v2.wAi v2.wAl v2.wAj v2.wAp).Txs,TL x)/\lz w10/\lz w9/\lz w7/\v2.wAZ=r0.wh/\v2.wAO=r0.wM/\v2.wAi=r0.wAT/\v2.wAl=r0.wW/\v2.wAj=r0.wY/\v2.wAp=r0.Txs/\true=r1/\Aa=Aq/\Ae=Aw/\Ab=Ax/\Am=B0/\Ao=B1/\Ag=Bl/\Aj=Bm/\Ah=Bn/\Ai=Bo/\Ad=A9/\Ap=Bz/\Af=Ba/\At=B6/\Au=B7/\Av=B8/\As=B9/\Bb=Cc/\Bc=Cd/\Bd=Ce/\Be=Cf/\Bf=Cg/\Bg=Ch/\Bh=Ci/\Bi=Cj/\Bj=Ck/\Bk=Cl/\Az=B2/\A0=B3/\A7=B4/\A8=B5/\w2k=e2k/\w2v=e2v/\w4k=e4k/\w4v=e4v/\w5k=e5k/\w5v=e5v/\w6k=e6k/\w6v=e6v/\w7=e7/\w9=e9/\w10=e10/\w11k=e11k/\w11v=e11v))<|by
 rintro p1 Aa Ae Ab Am Ao Ag Aj Ah Ai Ad Ap Af At Au Av As Bb Bc Bd Be Bf Bg Bh Bi Bj Bk Az A0 A7 A8 w2k w2v w4k w4v w5k w5v w6k w6v w7 w9 w10 w11k w11v h;repeat rintro _ rfl
 obtain⟨⟨hkv,hm⟩,h4,ht⟩:=h;have hm:mHas (BEq.beq p1) w2k=true:=k1x.2 hm;refine⟨hkv,fun e=> ?_,fun _=>⟨⟨?_,ht⟩,(by repeat' first|apply qq|exact rfl|exact qn)⟩⟩
 ·rw[hm]at e;cases e
 ·show(gB w2k w2v p1).Txs.length<=4294967295;omega
noncomputable def ked:Con TB.den:= .g (gk 29 [.one (.ptr 0 0)] yB (.tup [.one (.d (.sl (.st 3))),.one (.d (.bool))])) (.int .i64:: .int .i64:: .int .i64:: .int .i64:: .int .i64:: .int .u64:: .int .i64:: .int .i64:: .int .u64:: .sl yqu:: .int .u64:: .int .i64:: .bool::yH) (.sl (.st 3):: .bool:: .int .i64:: .int .i64:: .int .i64:: .int .i64:: .int .i64:: .int .u64:: .int .i64:: .int .i64:: .int .u64:: .sl yqu:: .int .u64:: .int .i64:: .bool::yH) [] fun(Aa Ae Ab Am Ao Ag Aj Ah Ai:Int) (Ad:Li) (Ap Af:Int) (At:Bool) (Au Av:Int) (As:List wD) (Bb Bc Bd Be Bf Bg Bh Bi Bj Bk Az:Int) (A0:Li) (A7:List wA) (A8:Int) (w2k:Li) (w2v:List wK) (w4k:Lb) (w4v:Li) (w5k:Lb) (w5v:List (Li)) (w6k:Lb) (w6v:Lo) (w7 w9:Li) (w10:List wJ) (w11k:Li) (w11v:Lo)=>((w2k.length=w2v.length/\Ad.length<=1000)/\∀id∈Ad,id∈w2k/\(gB w2k w2v id).Txs.length<=4/\∀x∈(gB w2k w2v id).Txs,TL x,(Ad.map (gB w2k w2v):List wH),true,Aa,Ae,Ab,Am,Ao,Ag,Aj,Ah,Ai,Ad,Ap,Af,At,Au,Av,As,Bb,Bc,Bd,Be,Bf,Bg,Bh,Bi,Bj,Bk,Az,A0,A7,A8,w2k,w2v,w4k,w4v,w5k,w5v,w6k,w6v,w7,w9,w10,w11k,w11v,())
abbrev Fz11 (r:Type):=Int->Int->Int->Int->Int->Int->Int->Int->Int->Int->Int->Int->(Li)->(List wA)->Int->Bool->Int->Int->(List wD)->Int->Int->Int->Int->Int->Int->Int->Int->Int->(Li)->Int->Int->(List wH)->(Li)->(Lo)->(List wJ)->(Li)->(Li)->(Lb)->(Lo)->(Lb)->(List (Li))->(Lb)->(Li)->(Li)->(List wK)->r
theorem k7r:ked.Ok Tryz.prog TB:=prv Bs Tryz.func29 (.r 1 (.nd [] (.r 0 (.lp [.tok 4 (.st 3)] ⟨[12,11,10,9,8,7,6,5,4,3,2,1,0],[.tip (.st 3),.map yqu (.bool),.vec (.st 10),.vec yqu,.cells [.mp 1],.vec yqu,.map (.str) (.bool),.map (.str) (.sl yqu),.map (.str) yqi,.cells [zqi,zqi,zqi,zqi,zqi,zqu,zqi,zqi,zqu,zqi,zqi,zql,.row 5,.ptr 4 0,.d (.sl (.st 9)),zqu,.row 3,.row 2],.map yqu (.st 11),.cells [.d (.bool),zqu,zqi,.d (.sl (.st 4)),.mp 8,.mp 7,.mp 6],.cells [.ptr 11 0,zqi,zqi,zqi,zqi,zqi,zqu,zqi,zqi,zqu,.mp 10,zql,.ptr 9 0,zqu,zqi]],[4,12],[.one (.own 0),.one (zqi)],[]⟩ .no)) [] .no)) (kgq.c (kf2.c c0)) (Q:=∀(Aa Ae Ab Am Ao Ag Aj Ah Ai:Int) (Ad:Li) (Ap Af:Int) (At:Bool) (Au Av:Int) (As:List wD) (Bb Bc Bd Be Bf Bg Bh Bi Bj Bk Az:Int) (A0:Li) (A7:List wA) (A8:Int) (w2k:Li) (w2v:List wK) (w4k:Lb) (w4v:Li) (w5k:Lb) (w5v:List (Li)) (w6k:Lb) (w6v:Lo) (w7 w9:Li) (w10:List wJ) (w11k:Li) (w11v:Lo),((w2k.length=w2v.length/\Ad.length<=1000)/\∀id∈Ad,id∈w2k/\(gB w2k w2v id).Txs.length<=4/\∀x∈(gB w2k w2v id).Txs,TL x)->∀r0:List wH,(Ad.map (gB w2k w2v))=r0->∀r1:Bool,(true:Bool)=r1->∀Aq:Int,Aa=Aq->∀Aw:Int,Ae=Aw->∀Ax:Int,Ab=Ax->∀B0:Int,Am=B0->∀B1:Int,Ao=B1->∀Bl:Int,Ag=Bl->∀Bm:Int,Aj=Bm->∀Bn:Int,Ah=Bn->∀Bo:Int,Ai=Bo->∀A9:Li,Ad=A9->∀Bz:Int,Ap=Bz->∀Ba:Int,Af=Ba->∀B6:Bool,At=B6->∀B7:Int,Au=B7->∀B8:Int,Av=B8->∀B9:List wD,As=B9->∀Cc:Int,Bb=Cc->∀Cd:Int,Bc=Cd->∀Ce:Int,Bd=Ce->∀Cf:Int,Be=Cf->∀Cg:Int,Bf=Cg->∀Ch:Int,Bg=Ch->∀Ci:Int,Bh=Ci->∀Cj:Int,Bi=Cj->∀Ck:Int,Bj=Ck->∀Cl:Int,Bk=Cl->∀B2:Int,Az=B2->∀B3:Li,A0=B3->∀B4:List wA,A7=B4->∀B5:Int,A8=B5->∀e2k:Li,w2k=e2k->∀e2v:List wK,w2v=e2v->∀e4k:Lb,w4k=e4k->∀e4v:Li,w4v=e4v->∀e5k:Lb,w5k=e5k->∀e5v:List (Li),w5v=e5v->∀e6k:Lb,w6k=e6k->∀e6v:Lo,w6v=e6v->∀e7:Li,w7=e7->∀e9:Li,w9=e9->∀e10:List wJ,w10=e10->∀e11k:Li,w11k=e11k->∀e11v:Lo,w11v=e11v-> 
 lz w10/\lz w9/\lz w7/\(Ad.length<=1000)/\lz w10/\lz w9/\lz w7/\(([]:List wH)=([]:List wH))/\∃(I1:Fz11 Prop) (M1:Fz11 Nat),I1 0 Bb Bc Bd Be Bf Bg Bh Bi Bj Bk Az A0 A7 A8 At Au Av As Aa Ae Ab Am Ao Ag Aj Ah Ai Ad Ap Af ([]:List wH) w11k w11v w10 w9 w7 w6k w6v w5k w5v w4k w4v w2k w2v/\∀b1 f1 i1 k1 l1 m1 n1 o1 q1 s1 t1 u1 x1 y1 b2 f2 i2 k2 l2 m2 n2 o2 q2 s2 t2 u2 x2 y2 b3 f3 i3 k3 l3 m3 n3 o3 q3 s3 t3 u3 x3 y3 b4 f4 i4,(I1 b1 f1 i1 k1 l1 m1 n1 o1 q1 s1 t1 u1 x1 y1 b2 f2 i2 k2 l2 m2 n2 o2 q2 s2 t2 u2 x2 y2 b3 f3 i3 k3 l3 m3 n3 o3 q3 s3 t3 u3 x3 y3 b4 f4 i4->
(decide (b1<(Ad.length:Int))=true->
(0<=b1)/\b1<(Ad.length:Int)/\lz n3/\lz o3/\lz q3/\((f4.length=i4.length/\(ix Ad b1)∈f4)/\(gB f4 i4 (ix Ad b1)).Txs.length<=4/\∀x∈(gB f4 i4 (ix Ad b1)).Txs,TL x)/\((!true)=true->
 lz n3/\lz o3/\lz q3/\([]:List wH)=r0/\false=r1/\m2=Aq/\n2=Aw/\o2=Ax/\q2=B0/\s2=B1/\t2=Bl/\u2=Bm/\x2=Bn/\y2=Bo/\b3=A9/\f3=Bz/\i3=Ba/\f2=B6/\i2=B7/\k2=B8/\l2=B9/\f1=Cc/\i1=Cd/\k1=Ce/\l1=Cf/\m1=Cg/\n1=Ch/\o1=Ci/\q1=Cj/\s1=Ck/\t1=Cl/\u1=B2/\x1=B3/\y1=B4/\b2=B5/\f4=e2k/\i4=e2v/\y3=e4k/\b4=e4v/\u3=e5k/\x3=e5v/\s3=e6k/\t3=e6v/\q3=e7/\o3=e9/\n3=e10/\l3=e11k/\m3=e11v)/\
((!true)=false->
 lz k3/\(k3.length+[(gB f4 i4 (ix Ad b1))].length)*64<=140737488355328/\k3.length+[(gB f4 i4 (ix Ad b1))].length<=maxLen/\lz n3/\lz o3/\lz q3/\(k3++[(gB f4 i4 (ix Ad b1))]=k3++[(gB f4 i4 (ix Ad b1))])/\I1 (i64.wrap (b1+1)) f1 i1 k1 l1 m1 n1 o1 q1 s1 t1 u1 x1 y1 b2 f2 i2 k2 l2 m2 n2 o2 q2 s2 t2 u2 x2 y2 b3 f3 i3 (k3++[(gB f4 i4 (ix Ad b1))]) l3 m3 n3 o3 q3 s3 t3 u3 x3 y3 b4 f4 i4/\M1 (i64.wrap (b1+1)) f1 i1 k1 l1 m1 n1 o1 q1 s1 t1 u1 x1 y1 b2 f2 i2 k2 l2 m2 n2 o2 q2 s2 t2 u2 x2 y2 b3 f3 i3 (k3++[(gB f4 i4 (ix Ad b1))]) l3 m3 n3 o3 q3 s3 t3 u3 x3 y3 b4 f4 i4<M1 b1 f1 i1 k1 l1 m1 n1 o1 q1 s1 t1 u1 x1 y1 b2 f2 i2 k2 l2 m2 n2 o2 q2 s2 t2 u2 x2 y2 b3 f3 i3 k3 l3 m3 n3 o3 q3 s3 t3 u3 x3 y3 b4 f4 i4))/\
(decide (b1<(Ad.length:Int))=false->
 lz n3/\lz o3/\lz q3/\k3=r0/\true=r1/\m2=Aq/\n2=Aw/\o2=Ax/\q2=B0/\s2=B1/\t2=Bl/\u2=Bm/\x2=Bn/\y2=Bo/\b3=A9/\f3=Bz/\i3=Ba/\f2=B6/\i2=B7/\k2=B8/\l2=B9/\f1=Cc/\i1=Cd/\k1=Ce/\l1=Cf/\m1=Cg/\n1=Ch/\o1=Ci/\q1=Cj/\s1=Ck/\t1=Cl/\u1=B2/\x1=B3/\y1=B4/\b2=B5/\f4=e2k/\i4=e2v/\y3=e4k/\b4=e4v/\u3=e5k/\x3=e5v/\s3=e6k/\t3=e6v/\q3=e7/\o3=e9/\n3=e10/\l3=e11k/\m3=e11v)))<|by
 rintro Aa Ae Ab Am Ao Ag Aj Ah Ai Ad Ap Af At Au Av As Bb Bc Bd Be Bf Bg Bh Bi Bj Bk Az A0 A7 A8 w2k w2v w4k w4v w5k w5v w6k w6v w7 w9 w10 w11k w11v h;repeat rintro _ rfl
 obtain⟨⟨hkv,hl⟩,hb⟩:=h;refine⟨rfl,rfl,rfl,hl,rfl,rfl,rfl,rfl,(fun b a0 a1 a2 a3 a4 a5 a6 a7 a8 a9 a10 a11 a12 a13 a14 a15 a16 a17 a18 a19 a20 a21 a22 a23 a24 a25 a26 a27 a28 a29 K z0 z1 z2 z3 z4 z5 z6 z7 z8 z9 z10 z11 z12=>∃m:Nat,b=(m:Int)/\m<=Ad.length/\(Bb=a0/\Bc=a1/\Bd=a2/\Be=a3/\Bf=a4/\Bg=a5/\Bh=a6/\Bi=a7/\Bj=a8/\Bk=a9/\Az=a10/\A0=a11/\A7=a12/\A8=a13/\At=a14/\Au=a15/\Av=a16/\As=a17/\Aa=a18/\Ae=a19/\Ab=a20/\Am=a21/\Ao=a22/\Ag=a23/\Aj=a24/\Ah=a25/\Ai=a26/\Ad=a27/\Ap=a28/\Af=a29/\w11k=z0/\w11v=z1/\w10=z2/\w9=z3/\w7=z4/\w6k=z5/\w6v=z6/\w5k=z7/\w5v=z8/\w4k=z9/\w4v=z10/\w2k=z11/\w2v=z12)/\K=(Ad.take m).map (gB w2k w2v)),(fun b _ _ _ _ _ _ _ _ _ _ _ _ _ _ _ _ _ _ _ _ _ _ _ _ _ _ _ _ _ _ _ _ _ _ _ _ _ _ _ _ _ _ _ _=>(Ad.length-b).toNat),⟨0,rfl,qax _,⟨rfl,rfl,rfl,rfl,rfl,rfl,rfl,rfl,rfl,rfl,rfl,rfl,rfl,rfl,rfl,rfl,rfl,rfl,rfl,rfl,rfl,rfl,rfl,rfl,rfl,rfl,rfl,rfl,rfl,rfl,rfl,rfl,rfl,rfl,rfl,rfl,rfl,rfl,rfl,rfl,rfl,rfl,rfl⟩,rfl⟩,?_⟩;rintro _ _ _ _ _ _ _ _ _ _ _ _ _ _ _ _ _ _ _ _ _ _ _ _ _ _ _ _ _ _ _ _ _ _ _ _ _ _ _ _ _ _ _ _ _ ⟨m,rfl,hm,⟨rfl,rfl,rfl,rfl,rfl,rfl,rfl,rfl,rfl,rfl,rfl,rfl,rfl,rfl,rfl,rfl,rfl,rfl,rfl,rfl,rfl,rfl,rfl,rfl,rfl,rfl,rfl,rfl,rfl,rfl,rfl,rfl,rfl,rfl,rfl,rfl,rfl,rfl,rfl,rfl,rfl,rfl,rfl⟩,rfl⟩;refine⟨fun e=> ?_,fun e=> ?_⟩
 ·have e:(m:Int)<Ad.length:=qb e;have hml:m<Ad.length:=by omega
  obtain⟨h1,h2,h3⟩:=hb _ (qal hml);rw[ix_get _ _ hml,inc (m:Int) Ad.length qqo e qqo];refine⟨by omega,e,rfl,rfl,rfl,⟨⟨hkv,h1⟩,h2,h3⟩,fun h=>(by cases h),fun _=> ?_⟩;refine⟨rfl,?_,?_,rfl,rfl,rfl,rfl,⟨m+1,rfl,by omega,⟨rfl,rfl,rfl,rfl,rfl,rfl,rfl,rfl,rfl,rfl,rfl,rfl,rfl,rfl,rfl,rfl,rfl,rfl,rfl,rfl,rfl,rfl,rfl,rfl,rfl,rfl,rfl,rfl,rfl,rfl,rfl,rfl,rfl,rfl,rfl,rfl,rfl,rfl,rfl,rfl,rfl,rfl,rfl⟩,?_⟩,by(first|omega|(dsimp only;omega))⟩
  ·simp only[ql,qab,qbn];omega
  ·simp only[ql,qab,qbn];unfold maxLen;omega
  ·rw[qat hml,qbi];rfl
 ·have e:¬(m:Int)<Ad.length:=qc e;rw[qw qqo];exact(by repeat' first|apply qq|exact rfl|exact qn)
noncomputable def kd3:Con TB.den:= .tp 27 [] [.bool] [] (true,())
theorem kex:kd3.Ok Tryz.prog TB:=qtv Bs Tryz.func27 .no (k5q.c (k9j.c (k51.c (k4y.c (k7r.c (k5p.c c0)))))) (Q:=∀r0:Bool,(true:Bool)=r0-> 
((rulesE (wE.mk 2 2 0 0 0 50 3 5 1)=0/\(wE.mk 2 2 0 0 0 50 3 5 1).wb=2/\false=false)/\let r1:=wE.mk 2 2 0 0 0 50 3 5 1
 let r2:=newS (wE.mk 2 2 0 0 0 50 3 5 1)
(((0:Int) !=0)=true->
 false=r0)/\
(((0:Int) !=0)=false->
 lz r2.p/\lz r2.r/\lz r2.l/\(SCh (CS.mk (wE.mk ((wE.mk 2 2 0 0 0 50 3 5 1).wb) ((wE.mk 2 2 0 0 0 50 3 5 1).wB) r1.wP r1.wO r1.wL ((wE.mk 2 2 0 0 0 50 3 5 1).wV) ((wE.mk 2 2 0 0 0 50 3 5 1).wc) r1.wS ((wE.mk 2 2 0 0 0 50 3 5 1).wW)) ([]:Li) ([]:List wK) ([]:Li) (r2) (0:Int) (0:Int)) (wH.mk 0 1 7 1 0 ([]:List wZ))/\false=false/\[]=([]:Lb)/\[]=([]:Li))/\let r3:=subS (CS.mk (wE.mk ((wE.mk 2 2 0 0 0 50 3 5 1).wb) ((wE.mk 2 2 0 0 0 50 3 5 1).wB) r1.wP r1.wO r1.wL ((wE.mk 2 2 0 0 0 50 3 5 1).wV) ((wE.mk 2 2 0 0 0 50 3 5 1).wc) r1.wS ((wE.mk 2 2 0 0 0 50 3 5 1).wW)) ([]:Li) ([]:List wK) ([]:Li) (r2) (0:Int) (0:Int)) (wH.mk 0 1 7 1 0 ([]:List wZ))
 lz r3.c.S.p/\lz r3.c.S.r/\lz r3.c.S.l/\((r3.c.k.length=r3.c.v.length/\r3.c.be.length<=1000)/\∀id∈r3.c.be,id∈r3.c.k/\(gB r3.c.k r3.c.v id).Txs.length<=4/\∀x∈(gB r3.c.k r3.c.v id).Txs,TL x)/\((BLk (r3.c.be.map (gB r3.c.k r3.c.v))/\((r3.c.be.map (gB r3.c.k r3.c.v))≠[]->(wE.mk 2 2 0 0 0 50 3 5 1).wB<=6)/\0<=(wE.mk 2 2 0 0 0 50 3 5 1).wV)/\false=false/\[]=([]:Lb)/\[]=([]:Li))/\let r4:=(audS false (wE.mk 2 2 0 0 0 50 3 5 1) (r3.c.be.map (gB r3.c.k r3.c.v))).1
 let r5:Int:=((audS false (wE.mk 2 2 0 0 0 50 3 5 1) (r3.c.be.map (gB r3.c.k r3.c.v))).2)
((r3.e==0)=true->
((r3.a==1)=true->
(true=true->
 let v6:Int:=((r3.c.be.map (gB r3.c.k r3.c.v)).length:Int)
((v6==1)=true->
((r5==0)=true->
((r4.wBN==50)=true->
(r4.wBK==50)=r0)/\
((r4.wBN==50)=false->
 false=r0))/\
((r5==0)=false->
 false=r0))/\
((v6==1)=false->
 false=r0))/\
(true=false->
 false=r0))/\
((r3.a==1)=false->
 false=r0))/\
((r3.e==0)=false->
 false=r0)))∨((rulesE (wE.mk 2 2 0 0 0 50 3 5 1)≠0)/\false=r0))<|by
 rintro _ rfl;have hE:rulesE R55=0:=by kernel_rfl
 obtain⟨⟨w1,w2⟩,w3,w4⟩:=aw55;have g1:GB (wH.mk 0 1 7 1 0 []):=GB.emp qqd ⟨by decide,by decide⟩ qqd qqd;have hC0:=newC_CI hE qqd;have hC1:CI X55.c 1:=subS_CI hC0 qqo g1;refine .inl ⟨⟨hE,rfl,rfl⟩,fun e=>(by cases e),fun _=>⟨rfl,rfl,rfl,⟨⟨⟨0,by omega,hC0⟩,g1,rfl⟩,rfl,rfl,rfl⟩,rfl,rfl,rfl,hC1.best qqo,⟨⟨hC1.blk qqo,fun _=>by decide,by decide⟩,rfl,rfl,rfl⟩,fun e1=>⟨fun e2=>⟨fun _=>⟨fun e3=>⟨fun e4=>⟨fun e5=> ?_,fun e5=> ?_⟩,fun e4=> ?_⟩,fun e3=> ?_⟩,fun e=>(by cases e)⟩,fun e2=> ?_⟩,fun e1=> ?_⟩⟩
 ·show((audS false R55 (X55.c.be.map (gB X55.c.k X55.c.v))).1.wBK==50)=true;rw[w4];rfl
 ·have e5:((audS false R55 (X55.c.be.map (gB X55.c.k X55.c.v))).1.wBN==50)=false:=e5;rw[w4]at e5;cases e5
 ·have e4:((audS false R55 (X55.c.be.map (gB X55.c.k X55.c.v))).2==0)=false:=e4;rw[w4]at e4;cases e4
 ·have e3:(((X55.c.be.map (gB X55.c.k X55.c.v)).length:Int)==1)=false:=e3;rw[ql,w3]at e3;cases e3
 ·have e2:(X55.a==1)=false:=e2;rw[w2]at e2;cases e2
 ·have e1:(X55.e==0)=false:=e1;rw[w1]at e1;cases e1
noncomputable def ker:Con TB.den:= .tp 36 [.st 5] [.bool] [] fun(p0:wAI)=>((prS p0:Bool),())
theorem kgu:ker.Ok Tryz.prog TB:=qtv Bs Tryz.func36 (.r 1 (.nd [] (.r 0 (.lp [] ⟨[],[],[3,5],[.one (.d (.bool)),.one (zqi)],[]⟩ .no)) [] (.nd [] (.r 0 (.lp [] ⟨[],[],[4,6],[.one (.d (.bool)),.one (zqi)],[]⟩ .no)) [] .no))) c0 (Q:=∀(p0:wAI),∀r0:Bool,prS p0=r0-> 
 ∃(I1:Bool->Int->Prop) (M1:Bool->Int->Nat),I1 false 2/\∀b1 f1,(I1 b1 f1->
(decide (f1<=256)=true->
(b1=true->
 I1 true (i64.wrap (2*f1))/\M1 true (i64.wrap (2*f1))<M1 b1 f1)/\
(b1=false->
 I1 (p0.wAt==f1) (i64.wrap (2*f1))/\M1 (p0.wAt==f1) (i64.wrap (2*f1))<M1 b1 f1))/\
(decide (f1<=256)=false->
 ∃(I2:Bool->Int->Prop) (M2:Bool->Int->Nat),I2 false 1/\∀i1 k1,(I2 i1 k1->
(decide (k1<=8)=true->
(i1=true->
 I2 true (i64.wrap (2*k1))/\M2 true (i64.wrap (2*k1))<M2 i1 k1)/\
(i1=false->
 I2 (p0.wAc==k1) (i64.wrap (2*k1))/\M2 (p0.wAc==k1) (i64.wrap (2*k1))<M2 i1 k1))/\
(decide (k1<=8)=false->
(b1=true->
(i1=true->
(decide (1<=p0.wAr)=true->
 decide (p0.wAr<=64)=r0)/\
(decide (1<=p0.wAr)=false->
 false=r0))/\
(i1=false->
 false=r0))/\
(b1=false->
 false=r0))))))<|by
 rintro p0 _ rfl
 have hw:∀n k:Nat,k<=8->i64.wrap (2*(n*((2^k:Nat):Int)))=n*((2^(k+1):Nat):Int)∨2<n:=by
  intro n k hk;rcases qaw 2 n with h|h
  ·exact .inr h
  ·have h1:2^k<=2^8:=qco qqd hk;have h2:2^(k+1)=2*2^k:=by rw[Nat.pow_succ];omega
   rw[h2];generalize 2^k=q at *
   refine .inl ?_;have:n=0∨n=1∨n=2:=by omega
   rcases this with rfl|rfl|rfl
   ·rw[ko _ qqo qqo];omega
   ·rw[ko _ qqo qqo];omega
   ·rw[ko _ qqo qqo];omega
 refine(⟨(fun s a=>∃k:Nat,k<=8/\a=2*((2^k:Nat):Int)/\s=pws k 2 p0.wAt),(fun _ a=>(1000-a).toNat),⟨0,by omega,rfl,rfl⟩,?_⟩);rintro _ _ ⟨k,hk,rfl,rfl⟩;have h1:=qce k;have h2:2^(k+1)=2*2^k:=by rw[Nat.pow_succ];omega
 refine⟨fun e=> ?_,fun e=> ?_⟩
 ·have e:=qb e
  have hk7:k<=7:=by
   rcases qaw k 8 with h|h
   ·omega
   ·have:k=8:=by omega
    subst this;exact absurd e qqd
  have hwk:i64.wrap (2*(2*((2^k:Nat):Int)))=2*((2^(k+1):Nat):Int):=(hw 2 k hk).resolve_right qqd;rw[hwk];refine⟨fun e2=>⟨⟨k+1,by omega,rfl,?_⟩,?_⟩,fun e2=>⟨⟨k+1,by omega,rfl,?_⟩,?_⟩⟩
  ·rw[k7f,e2];rfl
  ·rw[h2];generalize 2^k=q at *;(dsimp only;omega)
  ·rw[k7f,e2];rfl
  ·rw[h2];generalize 2^k=q at *;(dsimp only;omega)
 have e:=qc e
 have hk8:k=8:=by
  rcases qaw k 8 with h|h
  ·have:2^k<=2^7:=qco qqd qqo;omega
  ·omega
 subst hk8;refine⟨(fun s a=>∃k:Nat,k<=4/\a=1*((2^k:Nat):Int)/\s=pws k 1 p0.wAc),(fun _ a=>(1000-a).toNat),⟨0,by omega,rfl,rfl⟩,?_⟩;rintro _ _ ⟨k,hk,rfl,rfl⟩;have h1:=qce k;have h2:2^(k+1)=2*2^k:=by rw[Nat.pow_succ];omega
 refine⟨fun e=> ?_,fun e=> ?_⟩
 ·have e:=qb e
  have hk7:k<=3:=by
   rcases qaw k 4 with h|h
   ·omega
   ·have:k=4:=by omega
    subst this;exact absurd e qqd
  have hwk:i64.wrap (2*(1*((2^k:Nat):Int)))=1*((2^(k+1):Nat):Int):=(hw 1 k qqo).resolve_right qqd;rw[hwk];refine⟨fun e2=>⟨⟨k+1,by omega,rfl,?_⟩,?_⟩,fun e2=>⟨⟨k+1,by omega,rfl,?_⟩,?_⟩⟩
  ·rw[k7f,e2];rfl
  ·rw[h2];generalize 2^k=q at *;(dsimp only;omega)
  ·rw[k7f,e2];rfl
  ·rw[h2];generalize 2^k=q at *;(dsimp only;omega)
 have e:=qc e
 have hk4:k=4:=by
  rcases qaw k 4 with h|h
  ·have:2^k<=2^3:=qco qqd qqo;omega
  ·omega
 subst hk4;unfold prS;refine⟨fun e=>⟨fun e2=>⟨fun e3=> ?_,fun e3=> ?_⟩,fun e2=> ?_⟩,fun e=> ?_⟩
 ·rw[e,e2,e3];simp
 ·rw[e,e2,e3];simp
 ·rw[e,e2];simp
 ·rw[e];simp
noncomputable def khe:Con TB.den:= .tp 9 [.st 0] [yqi] [] fun(p0:wE)=>((rulesE p0:Int),())
theorem kiw:khe.Ok Tryz.prog TB:=qtv Bs Tryz.func9 .no (kgu.c c0) (Q:=∀(p0:wE),∀r0:Int,rulesE p0=r0-> 
(decide (p0.wb<1)=true->
 1=r0)/\
(decide (p0.wb<1)=false->
(decide (3<p0.wb)=true->
 1=r0)/\
(decide (3<p0.wb)=false->
(decide (p0.wB<1)=true->
 1=r0)/\
(decide (p0.wB<1)=false->
(decide (12<p0.wB)=true->
 1=r0)/\
(decide (12<p0.wB)=false->
(decide (p0.wc<1)=true->
 1=r0)/\
(decide (p0.wc<1)=false->
(decide (100<p0.wc)=true->
 1=r0)/\
(decide (100<p0.wc)=false->
(decide (p0.wS<1)=true->
 1=r0)/\
(decide (p0.wS<1)=false->
(decide (1048576<p0.wS)=true->
 1=r0)/\
(decide (1048576<p0.wS)=false->
(decide (4294967296<p0.wV)=true->
 1=r0)/\
(decide (4294967296<p0.wV)=false->
(decide (p0.wW<1)=true->
 1=r0)/\
(decide (p0.wW<1)=false->
(decide (65536<p0.wW)=true->
 1=r0)/\
(decide (65536<p0.wW)=false->
((p0.wb==1)=true->
 let r1:Bool:=(prS (wAI.mk p0.wP p0.wO p0.wL))
((!r1)=true->
 1=r0)/\
((!r1)=false->
 0=r0))/\
((p0.wb==1)=false->
 0=r0)))))))))))))<|by
 rintro p0 _ rfl;have no:¬rulesB p0=true->1=rulesE p0:=fun h=>by unfold rulesE;rw[qf h]
 have nb:∀c:Prop,(rulesB p0=true->¬c)->c->1=rulesE p0:=fun c h hc=>no fun hb=>h hb hc;have ub:rulesB p0=true->(1<=p0.wb/\p0.wb<=3)/\(1<=p0.wB/\p0.wB<=12)/\(1<=p0.wc/\p0.wc<=100)/\(1<=p0.wS/\p0.wS<=1048576)/\p0.wV<=4294967296/\1<=p0.wW/\p0.wW<=65536:=by intro hb;simp only[rulesB,qe,qaf]at hb;omega
 refine⟨fun e=>nb _ (fun hb h=>by have:=ub hb;omega) (qb e),fun e1=>⟨fun e=>nb _ (fun hb h=>by have:=ub hb;omega) (qb e),fun e2=>⟨fun e=>nb _ (fun hb h=>by have:=ub hb;omega) (qb e),fun e3=>⟨fun e=>nb _ (fun hb h=>by have:=ub hb;omega) (qb e),fun e4=>⟨fun e=>nb _ (fun hb h=>by have:=ub hb;omega) (qb e),fun e5=>⟨fun e=>nb _ (fun hb h=>by have:=ub hb;omega) (qb e),fun e6=>⟨fun e=>nb _ (fun hb h=>by have:=ub hb;omega) (qb e),fun e7=>⟨fun e=>nb _ (fun hb h=>by have:=ub hb;omega) (qb e),fun e8=>⟨fun e=>nb _ (fun hb h=>by have:=ub hb;omega) (qb e),fun e9=>⟨fun e=>nb _ (fun hb h=>by have:=ub hb;omega) (qb e),fun e10=>⟨fun e=>nb _ (fun hb h=>by have:=ub hb;omega) (qb e),fun e11=> ?_⟩⟩⟩⟩⟩⟩⟩⟩⟩⟩⟩;have e1:=qc e1;have e2:=qc e2;have e3:=qc e3;have e4:=qc e4;have e5:=qc e5;have e6:=qc e6;have e7:=qc e7;have e8:=qc e8;have e9:=qc e9;have e10:=qc e10;have e11:=qc e11;have hb:rulesB p0=true:=by simp only[rulesB,qe,qaf];omega
 unfold rulesE;rw[qi hb];refine⟨fun e=>⟨fun e3=> ?_,fun e3=> ?_⟩,fun e=> ?_⟩
 ·have e:p0.wb=1:=by simpa using e
  have e3:¬prS ⟨p0.wP,p0.wO,p0.wL⟩=true:=by simpa using e3
  rw[qi e,qf e3]
 ·have e:p0.wb=1:=by simpa using e
  have e3:prS ⟨p0.wP,p0.wO,p0.wL⟩=true:=by simpa using e3
  rw[qi e,qi e3]
 ·have e:¬p0.wb=1:=by simpa using e
  rw[qf e]
noncomputable def kh0:Con TB.den:= .gp 114 [.st 2,yqi] [.bool] [] fun(p0:wZ) (p1:Int)=>(p0.wC.length<=9223372036854775807,(smallB p0 p1:Bool),())
theorem kjf:kh0.Ok Tryz.prog TB:=qrv Bs Tryz.func114 (.r 0 (.nd [] (.r 0 (.lp [] ⟨[],[],[5],[.one (zqi)],[]⟩ .no)) [] .no)) c0 (Q:=∀(p0:wZ) (p1:Int),(p0.wC.length<=9223372036854775807)->∀r0:Bool,smallB p0 p1=r0-> 
 ∃(I1:Int->Prop) (M1:Int->Nat),I1 0/\∀b1,(I1 b1->
(decide (b1<(p0.wC.length:Int))=true->
(0<=b1)/\b1<(p0.wC.length:Int)/\let v1:Bool:=decide (10<(((ix p0.wC b1).wy).length:Int))
(v1=true->
 false=r0)/\
(v1=false->
 I1 (i64.wrap (b1+1))/\M1 (i64.wrap (b1+1))<M1 b1))/\
(decide (b1<(p0.wC.length:Int))=false->
(decide ((p0.wI.length:Int)<=10)=true->
(decide ((p0.wC.length:Int)<=10)=true->
 decide ((p0.wo.length:Int)<=p1)=r0)/\
(decide ((p0.wC.length:Int)<=10)=false->
 false=r0))/\
(decide ((p0.wI.length:Int)<=10)=false->
 false=r0))))<|by
 rintro p0 p1 h _ rfl;refine(⟨(fun i=>0<=i/\i<=p0.wC.length/\∀x∈p0.wC.take i.toNat,x.wy.length<=10),(fun i=>(p0.wC.length-i).toNat),⟨by omega,by omega,by simp⟩,?_⟩);rintro i ⟨g0,g1,g2⟩;refine⟨fun hh=> ?_,fun hh=> ?_⟩
 ·have hh:=qb hh;refine⟨g0,hh,fun e=> ?_,fun e=> ?_⟩
  ·have e:=qb e;unfold smallB;have:p0.wC.all (fun x=>decide (x.wy.length<=10))=false:=qcl.2 ⟨_,ix_mem p0.wC i g0 hh,by simp;omega⟩;rw[this];simp
  ·have e:=qc e;rw[inc i p0.wC.length g0 hh qqo];refine⟨⟨by omega,by omega,?_⟩,by(dsimp only;omega)⟩;rw[ke p0.wC i g0 hh];intro x hx;rcases qae.1 hx with hx|hx
   ·exact g2 x hx
   ·have:x=ix p0.wC i:=by simpa using hx
    rw[this];omega
 ·have hh:=qc hh;rw[qw qqo]at g2;unfold smallB;have:p0.wC.all (fun x=>decide (x.wy.length<=10))=true:=by simpa using g2
  rw[this];refine⟨fun h1=>⟨fun h2=> ?_,fun h2=> ?_⟩,fun h1=> ?_⟩
  ·have h1:=qb h1;have h2:=qb h2;rw[qbr (p:=p0.wI.length<=10) qqo,qbr (p:=p0.wC.length<=10) qqo];simp
  ·have h2:=qc h2;rw[qbw (p:=p0.wC.length<=10) qqo];simp
  ·have h1:=qc h1;rw[qbw (p:=p0.wI.length<=10) qqo];simp
noncomputable def kh3:Con TB.den:= .gp 76 [.st 0,.sl (.st 3)] [.bool] [] fun(p0:wE) (p1:List wH)=>(p1.length<=9223372036854775807/\∀b∈p1,b.Txs.length<=9223372036854775807/\∀t∈b.Txs,t.wC.length<=9223372036854775807,(smA p0 p1:Bool),())
theorem khp:kh3.Ok Tryz.prog TB:=qrv Bs Tryz.func76 (.r 1 (.nd [] (.r 0 (.lp [] ⟨[],[],[5],[.one (zqi)],[]⟩ (.r 0 (.nd [] (.r 1 (.lp [] ⟨[],[],[6],[.one (zqi)],[]⟩ .no)) [] .no)))) [] .no)) (kjf.c c0) (Q:=∀(p0:wE) (p1:List wH),(p1.length<=9223372036854775807/\∀b∈p1,b.Txs.length<=9223372036854775807/\∀t∈b.Txs,t.wC.length<=9223372036854775807)->∀r0:Bool,smA p0 p1=r0-> 
(decide (p0.wB<1)=true->
 false=r0)/\
(decide (p0.wB<1)=false->
(decide (6<p0.wB)=true->
 false=r0)/\
(decide (6<p0.wB)=false->
(decide (8<(p1.length:Int))=true->
 false=r0)/\
(decide (8<(p1.length:Int))=false->
 ∃(I1:Int->Prop) (M1:Int->Nat),I1 0/\∀b1,(I1 b1->
(decide (b1<(p1.length:Int))=true->
(0<=b1)/\b1<(p1.length:Int)/\let v1:Bool:=decide (4<(((ix p1 b1).Txs).length:Int))
(v1=true->
 false=r0)/\
(v1=false->
 ∃(I2:Int->Prop) (M2:Int->Nat),I2 0/\∀f1,(I2 f1->
(0<=b1)/\b1<(p1.length:Int)/\let v2:Bool:=decide (f1<(((ix p1 b1).Txs).length:Int))
(v2=true->
(0<=b1)/\b1<(p1.length:Int)/\(0<=f1)/\f1<(((ix p1 b1).Txs).length:Int)/\((ix ((ix p1 b1).Txs) f1).wC.length<=9223372036854775807)/\let r3:Bool:=(smallB (ix ((ix p1 b1).Txs) f1) (1200:Int))
((!r3)=true->
 false=r0)/\
((!r3)=false->
 I2 (i64.wrap (f1+1))/\M2 (i64.wrap (f1+1))<M2 f1))/\
(v2=false->
 I1 (i64.wrap (b1+1))/\M1 (i64.wrap (b1+1))<M1 b1))))/\
(decide (b1<(p1.length:Int))=false->
 true=r0))))))<|by
 rintro p0 p1 h _ rfl;obtain⟨hl,hb⟩:=h;refine⟨fun e1=> ?_,fun e1=>⟨fun e2=> ?_,fun e2=>⟨fun e3=> ?_,fun e3=> ?_⟩⟩⟩
 ·have e1:=qb e1;unfold smA;rw[qbw (p:=1<=p0.wB) qqo];rfl
 ·have e2:=qb e2;unfold smA;rw[qbw (p:=p0.wB<=6) qqo];simp
 ·have e3:=qb e3;unfold smA;rw[qbw (p:=(p1.length:Int)<=8) qqo];simp
 have e1:=qc e1;have e2:=qc e2;have e3:=qc e3;have es:smA p0 p1=p1.all (fun b=>decide ((b.Txs.length:Int)<=4)&&b.Txs.all (fun t=>smallB t 1200)):=by unfold smA;rw[qbr (p:=1<=p0.wB) qqo,qbr (p:=p0.wB<=6) qqo,qbr (p:=(p1.length:Int)<=8) qqo];rfl
 rw[es];refine⟨(fun i=>0<=i/\i<=p1.length/\∀x∈p1.take i.toNat,(decide ((x.Txs.length:Int)<=4)&&x.Txs.all (fun t=>smallB t 1200))=true),(fun i=>(p1.length-i).toNat),⟨by omega,by omega,by simp⟩,?_⟩;rintro i ⟨g0,g1,g2⟩;refine⟨fun hh=> ?_,fun hh=> ?_⟩
 ·have hh:=qb hh;have hm:=ix_mem p1 i g0 hh;obtain⟨b1,b2⟩:=hb _ hm;refine⟨g0,hh,fun e=> ?_,fun e=> ?_⟩
  ·have e:=qb e;exact(qcl.2 ⟨_,hm,by rw[qbw (p:=((ix p1 i).Txs.length:Int)<=4) qqo];simp⟩).symm
  ·have e:=qc e;refine⟨(fun k=>0<=k/\k<=(ix p1 i).Txs.length/\∀x∈(ix p1 i).Txs.take k.toNat,smallB x 1200=true),(fun k=>((ix p1 i).Txs.length-k).toNat),⟨by omega,by omega,by simp⟩,?_⟩;rintro k ⟨k0,k1,k2⟩;refine⟨g0,hh,fun hk=> ?_,fun hk=> ?_⟩
   ·have hk:=qb hk;have hn:=ix_mem (ix p1 i).Txs k k0 hk;refine⟨g0,hh,k0,hk,b2 _ hn,fun e4=> ?_,fun e4=> ?_⟩
    ·have e4:smallB (ix (ix p1 i).Txs k) 1200=false:=by simpa using e4
     refine(qcl.2 ⟨_,hm,?_⟩).symm;have:(ix p1 i).Txs.all (fun t=>smallB t 1200)=false:=qcl.2 ⟨_,hn,by simp[e4]⟩;rw[this];simp
    ·rw[inc k (ix p1 i).Txs.length k0 hk qqo];refine⟨⟨by omega,by omega,?_⟩,by(first|omega|(dsimp only;omega))⟩;rw[ke (ix p1 i).Txs k k0 hk];intro t ht;rcases qae.1 ht with ht|ht
     ·exact k2 t ht
     ·rw[qag.1 ht];simpa using e4
   ·have hk:=qc hk;rw[qw qqo]at k2;rw[inc i p1.length g0 hh qqo];refine⟨⟨by omega,by omega,?_⟩,by(first|omega|(dsimp only;omega))⟩;rw[ke p1 i g0 hh];intro t ht;rcases qae.1 ht with ht|ht
    ·exact g2 t ht
    ·rw[qag.1 ht,qbr (p:=((ix p1 i).Txs.length:Int)<=4) qqo,qbo.2 k2];rfl
 ·have hh:=qc hh;rw[qw qqo]at g2;exact(qbo.2 g2).symm
noncomputable def ke6:Con TB.den:= .gp 28 [.st 18] [.bool] [] fun(p0:wAf)=>((p0.L.length<=9223372036854775807)/\∀b∈p0.L,b.Txs.length<=9223372036854775807/\∀t∈b.Txs,t.wC.length<=9223372036854775807,(rtB p0:Bool),())
theorem kem:ke6.Ok Tryz.prog TB:=qrv Bs Tryz.func28 (.r 0 (.nd [] (.r 0 (.lp [] ⟨[],[],[8],[.one (zqi)],[]⟩ .no)) [] .no)) (khp.c (kiw.c c0)) (Q:=∀(p0:wAf),((p0.L.length<=9223372036854775807)/\∀b∈p0.L,b.Txs.length<=9223372036854775807/\∀t∈b.Txs,t.wC.length<=9223372036854775807)->∀r0:Bool,rtB p0=r0-> 
 ∃(I1:Int->Prop) (M1:Int->Nat),I1 0/\∀b1,(I1 b1->
(decide (b1<(p0.L.length:Int))=true->
(0<=b1)/\b1<(p0.L.length:Int)/\let v1:Bool:=decide (4<(((ix p0.L b1).Txs).length:Int))
(v1=true->
 false=r0)/\
(v1=false->
([(ix p0.L b1)].length<=9223372036854775807/\∀b∈[(ix p0.L b1)],b.Txs.length<=9223372036854775807/\∀t∈b.Txs,t.wC.length<=9223372036854775807)/\let r2:Bool:=(smA (wE.mk p0.wAg p0.wAe p0.wz p0.wt p0.wn p0.wAG p0.wAR p0.wAD p0.wAm) [(ix p0.L b1)])
((!r2)=true->
 false=r0)/\
((!r2)=false->
 I1 (i64.wrap (b1+1))/\M1 (i64.wrap (b1+1))<M1 b1)))/\
(decide (b1<(p0.L.length:Int))=false->
((p0.wAg==2)=true->
 let r3:Int:=(rulesE (wE.mk p0.wAg p0.wAe p0.wz p0.wt p0.wn p0.wAG p0.wAR p0.wAD p0.wAm))
((r3==0)=true->
 decide ((p0.L.length:Int)<=12)=r0)/\
((r3==0)=false->
 false=r0))/\
((p0.wAg==2)=false->
 false=r0))))<|by
 rintro p0 h _ rfl;obtain⟨hl,hb⟩:=h;refine⟨(fun i=>∃k:Nat,i=(k:Int)/\k<=p0.L.length/\∀x∈p0.L.take k,(decide ((x.Txs.length:Int)<=4)&&smA (qC p0) [x])=true),(fun i=>(p0.L.length-i).toNat),⟨0,rfl,qax _,by simp⟩,?_⟩;rintro _ ⟨k,rfl,hk,hA⟩;refine⟨fun e=> ?_,fun e=> ?_⟩
 ·have e:(k:Int)<p0.L.length:=qb e;have hkl:k<p0.L.length:=by omega
  have hmem:p0.L[k]∈p0.L:=qal hkl;rw[ix_get _ _ hkl,inc (k:Int) p0.L.length qqo e qqo];refine⟨by omega,e,fun e2=> ?_,fun e2=>⟨⟨by simp,fun y hy=>by rw[qag.1 hy];exact hb _ hmem⟩,fun e3=> ?_,fun e3=>⟨⟨k+1,rfl,by omega,?_⟩,by(first|omega|(dsimp only;omega))⟩⟩⟩
  ·have e2:=qb e2;exact rtB_no hmem (by rw[qbw qqo];rfl)
  ·have e3:smA (qC p0) [p0.L[k]]=false:=(qbk _).mp e3;exact rtB_no hmem (by rw[e3,Bool.and_false])
  ·have e2:=qc e2;have e3:smA (qC p0) [p0.L[k]]=true:=(Bool.not_eq_false' _).mp e3;rw[qat hkl];intro x hx;rcases qae.1 hx with hx|hx
   ·exact hA x hx
   ·rw[qag.1 hx,e3,qbr qqo];rfl
 ·have e:¬(k:Int)<p0.L.length:=qc e;rw[qw qqo]at hA;have hall:=qbo.2 hA;unfold rtB;rw[hall];refine⟨fun e2=>⟨fun e3=> ?_,fun e3=> ?_⟩,fun e2=> ?_⟩
  ·have e3:(rulesE (qC p0)==0)=true:=e3;rw[e2,e3];rfl
  ·have e3:(rulesE (qC p0)==0)=false:=e3;rw[e2,e3];rfl
  ·rw[e2];rfl
noncomputable def k14:Con TB.den:= .gp 5 [.st 18] [.bool] [] fun(p0:wAf)=>(0<=p0.wAG/\(∀b∈p0.L,BR b)/\(p0.L.length<=9223372036854775807)/\∀b∈p0.L,b.Txs.length<=9223372036854775807/\∀t∈b.Txs,t.wC.length<=9223372036854775807,true,())
abbrev Fz12 (r:Type):=Int->Bool->Int->Int->(List wD)->Int->Int->Int->Int->Int->Int->Int->Int->Int->(Li)->Int->Int->Int->Int->Int->Int->Int->Int->Int->Int->Int->Int->Int->(Li)->(List wA)->Int->(Lb)->(Li)->(Lb)->(List (Li))->(Lb)->(Lo)->(Li)->(List wK)->(Li)->(Lo)->(Li)->(Li)->(List wJ)->r
theorem k81:k14.Ok Tryz.prog TB:=qrv Bs Tryz.func5 (.r 0 (.nd [] (.jn ⟨[],[],[18],[.one (.d (.bool))],[]⟩ [] .no [] .no) [] (.r 2 (.nd [] (.r 0 (.lp [] ⟨[1,5,2,3,4,6,7,9,12],[.cells [.d (.bool),zqu,zqi,.d (.sl (.st 4)),.mp 2,.mp 3,.mp 4],.cells yC1,.map (.str) yqi,.map (.str) (.sl yqu),.map (.str) (.bool),.map yqu (.st 11),.cells [zqi,zqi,zqi,zqi,zqi,zqu,zqi,zqi,zqu,zqi,zqi,zql,.row 9,.ptr 7 0,.d (.sl (.st 9)),zqu,.row 10,.row 11],.cells [.mp 8],.map yqu (.bool),.vec yqu,.vec yqu,.vec (.st 10)],[37],[.one (zqi)],[8,10,11]⟩ .no)) [] .no)))) (kex.c (kem.c (k5q.c (k9j.c (k51.c (k4y.c (k7r.c (k5p.c c0)))))))) (Q:=∀(p0:wAf),(0<=p0.wAG/\(∀b∈p0.L,BR b)/\(p0.L.length<=9223372036854775807)/\∀b∈p0.L,b.Txs.length<=9223372036854775807/\∀t∈b.Txs,t.wC.length<=9223372036854775807)->∀r0:Bool,(true:Bool)=r0-> 
 ∀J1:Bool->Prop,(∀(b1:Bool),
((b1=true->
 true=r0)/\
(b1=false->
((rulesE (wE.mk p0.wAg p0.wAe p0.wz p0.wt p0.wn p0.wAG p0.wAR p0.wAD p0.wAm)=0/\(wE.mk p0.wAg p0.wAe p0.wz p0.wt p0.wn p0.wAG p0.wAR p0.wAD p0.wAm).wb=2/\false=false)/\let r1:=wE.mk p0.wAg p0.wAe p0.wz p0.wt p0.wn p0.wAG p0.wAR p0.wAD p0.wAm
 let r2:=newS (wE.mk p0.wAg p0.wAe p0.wz p0.wt p0.wn p0.wAG p0.wAR p0.wAD p0.wAm)
(((0:Int) !=0)=true->
 false=r0)/\
(((0:Int) !=0)=false->
 lz r2.p/\lz r2.r/\lz r2.l/\∃(I1:Fz12 Prop) (M1:Fz12 Nat),I1 0 false (0:Int) (0:Int) [] r1.wb r1.wB r1.wP r1.wO r1.wL r1.wV r1.wc r1.wS r1.wW ([]:Li) (0:Int) (0:Int) r2.R.wb r2.R.wB r2.R.wP r2.R.wO r2.R.wL r2.R.wV r2.R.wc r2.R.wS r2.R.wW r2.F.wB r2.F.wd r2.F.wg r2.b r2.n [] [] [] [] [] [] ([]:Li) ([]:List wK) r2.k r2.v r2.l r2.r r2.p/\∀f1 i1 k1 l1 m1 n1 o1 q1 s1 t1 u1 x1 y1 b2 f2 i2 k2 l2 m2 n2 o2 q2 s2 t2 u2 x2 y2 b3 f3 i3 k3 l3 m3 n3 o3 q3 s3 t3 u3 x3 y3 b4 f4 i4,(I1 f1 i1 k1 l1 m1 n1 o1 q1 s1 t1 u1 x1 y1 b2 f2 i2 k2 l2 m2 n2 o2 q2 s2 t2 u2 x2 y2 b3 f3 i3 k3 l3 m3 n3 o3 q3 s3 t3 u3 x3 y3 b4 f4 i4->
(decide (f1<(p0.L.length:Int))=true->
(0<=f1)/\f1<(p0.L.length:Int)/\lz i4/\lz f4/\lz b4/\(SCh (CS.mk (wE.mk n1 o1 q1 s1 t1 u1 x1 y1 b2) t3 u3 f2 (PS.mk (wE.mk l2 m2 n2 o2 q2 s2 t2 u2 x2) (wG.mk y2 b3 f3) i3 k3 b4 f4 i4 x3 y3) i2 k2) (ix p0.L f1)/\i1=false/\l3=([]:Lb)/\m3=([]:Li))/\let r3:=subS (CS.mk (wE.mk n1 o1 q1 s1 t1 u1 x1 y1 b2) t3 u3 f2 (PS.mk (wE.mk l2 m2 n2 o2 q2 s2 t2 u2 x2) (wG.mk y2 b3 f3) i3 k3 b4 f4 i4 x3 y3) i2 k2) (ix p0.L f1)
 lz r3.c.S.p/\lz r3.c.S.r/\lz r3.c.S.l/\I1 (i64.wrap (f1+1)) i1 k1 l1 m1 n1 o1 q1 s1 t1 u1 x1 y1 b2 r3.c.be r3.c.fi r3.c.he r3.c.S.R.wb r3.c.S.R.wB r3.c.S.R.wP r3.c.S.R.wO r3.c.S.R.wL r3.c.S.R.wV r3.c.S.R.wc r3.c.S.R.wS r3.c.S.R.wW r3.c.S.F.wB r3.c.S.F.wd r3.c.S.F.wg r3.c.S.b r3.c.S.n l3 m3 n3 o3 q3 s3 r3.c.k r3.c.v r3.c.S.k r3.c.S.v r3.c.S.l r3.c.S.r r3.c.S.p/\M1 (i64.wrap (f1+1)) i1 k1 l1 m1 n1 o1 q1 s1 t1 u1 x1 y1 b2 r3.c.be r3.c.fi r3.c.he r3.c.S.R.wb r3.c.S.R.wB r3.c.S.R.wP r3.c.S.R.wO r3.c.S.R.wL r3.c.S.R.wV r3.c.S.R.wc r3.c.S.R.wS r3.c.S.R.wW r3.c.S.F.wB r3.c.S.F.wd r3.c.S.F.wg r3.c.S.b r3.c.S.n l3 m3 n3 o3 q3 s3 r3.c.k r3.c.v r3.c.S.k r3.c.S.v r3.c.S.l r3.c.S.r r3.c.S.p<M1 f1 i1 k1 l1 m1 n1 o1 q1 s1 t1 u1 x1 y1 b2 f2 i2 k2 l2 m2 n2 o2 q2 s2 t2 u2 x2 y2 b3 f3 i3 k3 l3 m3 n3 o3 q3 s3 t3 u3 x3 y3 b4 f4 i4)/\
(decide (f1<(p0.L.length:Int))=false->
 lz i4/\lz f4/\lz b4/\((t3.length=u3.length/\f2.length<=1000)/\∀id∈f2,id∈t3/\(gB t3 u3 id).Txs.length<=4/\∀x∈(gB t3 u3 id).Txs,TL x)/\((BLk (f2.map (gB t3 u3))/\((f2.map (gB t3 u3))≠[]->(wE.mk p0.wAg p0.wAe p0.wz p0.wt p0.wn p0.wAG p0.wAR p0.wAD p0.wAm).wB<=6)/\0<=(wE.mk p0.wAg p0.wAe p0.wz p0.wt p0.wn p0.wAG p0.wAR p0.wAD p0.wAm).wV)/\i1=false/\l3=([]:Lb)/\m3=([]:Li))/\let r4:=(audS false (wE.mk p0.wAg p0.wAe p0.wz p0.wt p0.wn p0.wAG p0.wAR p0.wAD p0.wAm) (f2.map (gB t3 u3))).1
 let r5:Int:=((audS false (wE.mk p0.wAg p0.wAe p0.wz p0.wt p0.wn p0.wAG p0.wAR p0.wAD p0.wAm) (f2.map (gB t3 u3))).2)
(true=true->
((r5==0)=true->
(r4.wAk !=1)=r0)/\
((r5==0)=false->
 false=r0))/\
(true=false->
 false=r0)))))∨((rulesE (wE.mk p0.wAg p0.wAe p0.wz p0.wt p0.wn p0.wAG p0.wAR p0.wAD p0.wAm)≠0)/\let r6:Int:=(rulesE (wE.mk p0.wAg p0.wAe p0.wz p0.wt p0.wn p0.wAG p0.wAR p0.wAD p0.wAm))
 false=r0)))->J1 b1)->
((!true)=true->
 J1 true)/\
((!true)=false->
((p0.L.length<=9223372036854775807)/\∀b∈p0.L,b.Txs.length<=9223372036854775807/\∀t∈b.Txs,t.wC.length<=9223372036854775807)/\J1 (!(rtB p0))))<|by
 rintro p0 h _ rfl;obtain⟨hw,hr,hs⟩:=h;intro J1 k1;have jt:J1 true:=k1 true ⟨fun _=>rfl,fun h=>(by cases h)⟩;refine⟨fun h=>(by cases h),fun _=>⟨hs,?_⟩⟩;cases hrt:rtB p0 with
 |false=>exact jt
 |true=>
  obtain⟨hE,hm,hl,hsm,h6⟩:=rtB_iff hrt;refine k1 false ⟨fun h=>(by cases h),fun _=> .inl ⟨⟨hE,hm,rfl⟩,fun h=>(by cases h),fun _=> ?_⟩⟩;refine⟨rfl,rfl,rfl,(fun f1 i1 k1 l1 m1 n1 o1 q1 s1 t1 u1 x1 y1 b2 f2 i2 k2 l2 m2 n2 o2 q2 s2 t2 u2 x2 y2 b3 f3 i3 k3 l3 m3 n3 o3 q3 s3 t3 u3 x3 y3 b4 f4 i4=>∃j:Nat,f1=(j:Int)/\j<=p0.L.length/\(p0.wAg=n1/\p0.wAe=o1/\p0.wz=q1/\p0.wt=s1/\p0.wn=t1/\p0.wAG=u1/\p0.wAR=x1/\p0.wAD=y1/\p0.wAm=b2/\false=i1/\[]=l3/\[]=m3)/\CI (CS.mk (wE.mk n1 o1 q1 s1 t1 u1 x1 y1 b2) t3 u3 f2 (PS.mk (wE.mk l2 m2 n2 o2 q2 s2 t2 u2 x2) (wG.mk y2 b3 f3) i3 k3 b4 f4 i4 x3 y3) i2 k2) j),(fun f1 _ _ _ _ _ _ _ _ _ _ _ _ _ _ _ _ _ _ _ _ _ _ _ _ _ _ _ _ _ _ _ _ _ _ _ _ _ _ _ _ _ _ _=>(p0.L.length-f1).toNat),⟨0,rfl,qax _,⟨rfl,rfl,rfl,rfl,rfl,rfl,rfl,rfl,rfl,rfl,rfl,rfl⟩,newC_CI hE hw⟩,?_⟩;rintro _ _ k1 l1 m1 _ _ _ _ _ _ _ _ _ f2 i2 k2 l2 m2 n2 o2 q2 s2 t2 u2 x2 y2 b3 f3 i3 k3 _ _ n3 o3 q3 s3 t3 u3 x3 y3 b4 f4 i4 ⟨j,rfl,hj,⟨rfl,rfl,rfl,rfl,rfl,rfl,rfl,rfl,rfl,rfl,rfl,rfl⟩,hC⟩;refine⟨fun e=> ?_,fun e=> ?_⟩
  ·have e:(j:Int)<p0.L.length:=qb e;have hjl:j<p0.L.length:=by omega
   have hmem:p0.L[j]∈p0.L:=qal hjl;have hG:GB p0.L[j]:=smA_GB (hr _ hmem) (hsm _ hmem).1 (hsm _ hmem).2;have hD:=subS_CI hC qqo hG;rw[ix_get _ _ hjl,inc (j:Int) p0.L.length qqo e qqo];exact⟨by omega,e,rfl,rfl,rfl,⟨⟨⟨j,by omega,hC⟩,hG,hm⟩,rfl,rfl,rfl⟩,rfl,rfl,rfl,⟨j+1,rfl,by omega,⟨rfl,rfl,rfl,rfl,rfl,rfl,rfl,rfl,rfl,rfl,rfl,rfl⟩,hD.eta⟩,by(first|omega|(dsimp only;omega))⟩
  ·have e:¬(j:Int)<p0.L.length:=qc e;have hB:=hC.blocks;obtain⟨a1,a2⟩:=kpj hE hm hB.2.2.2 hB.2.2.1;have hbk:f2.length<=j:=hC.bek.2.1;refine⟨rfl,rfl,rfl,hC.best qqo,⟨⟨hC.blk qqo,fun hn=>h6 fun hh=>hn ?_,hw⟩,rfl,rfl,rfl⟩,fun _=>⟨fun _=>bne_iff_ne.2 a2,fun e5=>(beq_eq_false_iff_ne.1 e5 a1).elim⟩,fun e=>(by cases e)⟩;rw[hh]at hj;have hj:j<=0:=hj;have:f2=[]:=qaa qqo;rw[this];rfl
end Go.Proofs.YtcghahkoioeddaaGreatDoor
end
