/-
  Parts of the proofs that the laws of this seat hold of every input, merged by a program: a machine over pure data that is sound for the model, what each function of the translation does in it, and plain lemmas. No conditions but those in each theorem.
-/
import Derived.Test.YtcghahkoioeddaaGreatDoorA5
set_option linter.all false
set_option maxRecDepth 100000
noncomputable section
namespace Go.Proofs.YtcghahkoioeddaaGreatDoor
open Go Go.Bv Go.Cv Go.Md Go.RowKit
open Go.IntKind (i64 u64)
noncomputable def k80:Con TB.den:= .b ⟨111,[.one (.ptr 0 0),.agg yD1,.one (.ptr 1 0)],yF,(.one (.one (zqi))),yE,false⟩ [.st 2,yqi,yqi,yqi,yqi,yqi,yqu,yqi,yqi,yqu,yqi,yqi,.sl yqu,.sl (.st 9),yqu,yqi,yqi,.sl yqu,yqi,.sl (.st 9),yqu,.sl yqu,.sl yqu,.sl (.st 10),.sl yqu,.sl yqu,.sl (.bool)] yO fun(p1:wZ) (Ac Aa Ae Ab Am Ao Ag Aj Ah Ai Ak:Int) (Ad:Li) (Af:List wA) (Al At Au:Int) (Av:Li) (As:Int) (Ca:List wA) (Cb:Int) (w2 w4:Li) (w5:List wJ) (w6 w7k:Li) (w7v:Lo)=>((∃(c:Nat) (f:Int),c<=800/\PI (PS.mk (wE.mk Ac Aa Ae Ab Am Ao Ag Aj Ah) (wG.mk Ai Ak Ad) Af Al w2 w4 w5 w7k w7v) c f)/\TR p1/\CK (PS.mk (wE.mk Ac Aa Ae Ab Am Ao Ag Aj Ah) (wG.mk Ai Ak Ad) Af Al w2 w4 w5 w7k w7v) p1/\w6.length<=1000000,perfS (PS.mk (wE.mk Ac Aa Ae Ab Am Ao Ag Aj Ah) (wG.mk Ai Ak Ad) Af Al w2 w4 w5 w7k w7v) p1,fun R=>(R.e,R.s.R.wb,R.s.R.wB,R.s.R.wP,R.s.R.wO,R.s.R.wL,R.s.R.wV,R.s.R.wc,R.s.R.wS,R.s.R.wW,R.s.F.wB,R.s.F.wd,R.s.F.wg,R.s.b,R.s.n,At,Au,Av,As,Ca,Cb,R.s.r,R.s.p,((w6++p1.wI):Li),R.s.k,R.s.v,R.s.l,()))
abbrev k1a (R:PE) (p1:wZ) (At Au:Int) (Av:Li) (As:Int) (Ca:List wA) (Cb:Int) (w6:Li) (o0 o1 o2 o3 o4 o5 o6 o7 o8 o9 o10 o11:Int) (o12:Li) (o13:List wA) (o14 o15 o16:Int) (o17:Li) (o18:Int) (o19:List wA) (o20:Int) (o21:Li) (o22:List wJ) (o23 o24:Li) (o25:Lo) (o26:Li):Prop:=o0=R.e/\o1=R.s.R.wb/\o2=R.s.R.wB/\o3=R.s.R.wP/\o4=R.s.R.wO/\o5=R.s.R.wL/\o6=R.s.R.wV/\o7=R.s.R.wc/\o8=R.s.R.wS/\o9=R.s.R.wW/\o10=R.s.F.wB/\o11=R.s.F.wd/\o12=R.s.F.wg/\o13=R.s.b/\o14=R.s.n/\o15=At/\o16=Au/\o17=Av/\o18=As/\o19=Ca/\o20=Cb/\o21=R.s.r/\o22=R.s.p/\o23=(w6++p1.wI)/\o24=R.s.k/\o25=R.s.v/\o26=R.s.l
abbrev Fz1 (r:Type):=Int->Int->Int->Int->Int->Int->Int->Int->Int->Int->Int->Int->(Li)->(List wA)->Int->(Li)->(Lo)->(List wJ)->(Li)->(Li)->r
theorem k8v:k80.Ok Tryz.prog TB:=pbx Bs [33,67,68] Tryz.func111 (.nd [.trimc 0 12] .no [] (.r 1 (.nd [] (.r 0 (.lp [] ⟨[7,5,4,3,0],[.map yqu (.bool),.vec (.st 10),.vec yqu,.cells [.mp 0],.cells [zqi,zqi,zqi,zqi,zqi,zqu,zqi,zqi,zqu,zqi,zqi,zql,.row 5,.ptr 3 0,.d (.sl (.st 9)),zqu,.row 2,.row 1],.vec yqu],[39],[.one (zqi)],[8]⟩ .no)) [] (.jn ⟨[0,314,3,4,5,7],yM,[],[],[]⟩ [] .no [] (.jn ⟨[0,314,3,4,5,7],yM,[],[],[]⟩ [] .no [] .no))))) x0 (klj.c (k89.c (k52.c (k44.c c0)))) (Q:=∀(p1:wZ) (Ac Aa Ae Ab Am Ao Ag Aj Ah Ai Ak:Int) (Ad:Li) (Af:List wA) (Al At Au:Int) (Av:Li) (As:Int) (Ca:List wA) (Cb:Int) (w2 w4:Li) (w5:List wJ) (w6 w7k:Li) (w7v:Lo),((∃(c:Nat) (f:Int),c<=800/\PI (PS.mk (wE.mk Ac Aa Ae Ab Am Ao Ag Aj Ah) (wG.mk Ai Ak Ad) Af Al w2 w4 w5 w7k w7v) c f)/\TR p1/\CK (PS.mk (wE.mk Ac Aa Ae Ab Am Ao Ag Aj Ah) (wG.mk Ai Ak Ad) Af Al w2 w4 w5 w7k w7v) p1/\w6.length<=1000000)->∀R,perfS (PS.mk (wE.mk Ac Aa Ae Ab Am Ao Ag Aj Ah) (wG.mk Ai Ak Ad) Af Al w2 w4 w5 w7k w7v) p1=R-> 
 lz w2/\(w7v=trs w7k/\p1.wI.length<=1000000)/\((((addS p1.wI w7k).1) !=0)=true->
(w6=w6)/\lz w5/\lz w4/\lz w2/\k1a R p1 At Au Av As Ca Cb w6 ((addS p1.wI w7k).1) Ac Aa Ae Ab Am Ao Ag Aj Ah Ai Ak Ad Af Al At Au Av As Ca Cb w4 w5 w6 ((addS p1.wI w7k).2) (trs (addS p1.wI w7k).2) w2)/\
((((addS p1.wI w7k).1) !=0)=false->
 lz w6/\(w6.length+p1.wI.length)*8<=140737488355328/\w6.length+p1.wI.length<=maxLen/\lz w5/\lz w4/\lz w2/\∃(I1:Fz1 Prop) (M1:Fz1 Nat),I1 0 Ac Aa Ae Ab Am Ao Ag Aj Ah Ai Ak Ad Af Al ((addS p1.wI w7k).2) (trs (addS p1.wI w7k).2) w5 w4 w2/\∀b1 f1 i1 k1 l1 m1 n1 o1 q1 s1 t1 u1 x1 y1 b2 f2 i2 k2 l2 m2,(I1 b1 f1 i1 k1 l1 m1 n1 o1 q1 s1 t1 u1 x1 y1 b2 f2 i2 k2 l2 m2->
(decide (b1<(p1.wC.length:Int))=true->
(0<=b1)/\b1<(p1.wC.length:Int)/\(FV (wG.mk t1 u1 x1)/\(wG.mk t1 u1 x1).wd<((2^(wG.mk t1 u1 x1).wB.toNat:Nat):Int)/\0<=((ix p1.wC b1).wl)/\((ix p1.wC b1).wl)<18446744069414584321)/\let r1:=apF (wG.mk t1 u1 x1) ((ix p1.wC b1).wl)
(((0:Int) !=0)=true->
(w6++p1.wI=w6++p1.wI)/\lz k2/\lz l2/\lz m2/\k1a R p1 At Au Av As Ca Cb w6 0 f1 i1 k1 l1 m1 n1 o1 q1 s1 t1 u1 x1 y1 b2 At Au Av As Ca Cb l2 k2 (w6++p1.wI) f2 i2 m2)/\
(((0:Int) !=0)=false->
 lz m2/\lz [(ix p1.wC b1).wl]/\(m2.length+[(ix p1.wC b1).wl].length)*8<=140737488355328/\m2.length+[(ix p1.wC b1).wl].length<=maxLen/\lz k2/\lz l2/\lz (m2++[(ix p1.wC b1).wl])/\I1 (i64.wrap (b1+1)) f1 i1 k1 l1 m1 n1 o1 q1 s1 r1.wB r1.wd r1.wg y1 b2 f2 i2 k2 l2 (m2++[(ix p1.wC b1).wl])/\M1 (i64.wrap (b1+1)) f1 i1 k1 l1 m1 n1 o1 q1 s1 r1.wB r1.wd r1.wg y1 b2 f2 i2 k2 l2 (m2++[(ix p1.wC b1).wl])<M1 b1 f1 i1 k1 l1 m1 n1 o1 q1 s1 t1 u1 x1 y1 b2 f2 i2 k2 l2 m2))/\
(decide (b1<(p1.wC.length:Int))=false->
 ∀J1:Int->Int->Int->Int->Int->Int->Int->Int->Int->Int->Int->(Li)->(List wA)->Int->(Li)->(Li)->(List wJ)->(Li)->(Lo)->Prop,(∀(n2 o2 q2 s2 t2 u2 x2 y2 b3 f3 i3:Int) (k3:Li) (l3:List wA) (m3:Int) (n3 o3:Li) (q3:List wJ) (s3:Li) (t3:Lo),
(∀J2:Int->Int->Int->Int->Int->Int->Int->Int->Int->Int->Int->(Li)->(List wA)->Int->(Li)->(Li)->(List wJ)->(Li)->(Lo)->Prop,(∀(u3 x3 y3 b4 f4 i4 k4 l4 m4 n4 o4:Int) (q4:Li) (s4:List wA) (t4:Int) (u4 x4:Li) (y4:List wJ) (b5:Li) (f5:Lo),
(let v4:Int:=u64.wrap ((u64.wrap (t4+p1.wQ))-p1.wT)
(w6++p1.wI=w6++p1.wI)/\lz y4/\lz x4/\lz u4/\k1a R p1 At Au Av As Ca Cb w6 0 u3 x3 y3 b4 f4 i4 k4 l4 m4 n4 o4 q4 s4 (u64.wrap (v4-p1.Fee)) At Au Av As Ca Cb x4 y4 (w6++p1.wI) b5 f5 u4)->J2 u3 x3 y3 b4 f4 i4 k4 l4 m4 n4 o4 q4 s4 t4 u4 x4 y4 b5 f5)->
(decide (0<p1.wT)=true->
(OkA (wm.mk l3).wF/\U64 p1.wT)/\let r3:=creditA (wm.mk l3).wF p1.wX p1.wT
((r3.2 !=0)=true->
(w6++p1.wI=w6++p1.wI)/\lz q3/\lz o3/\lz n3/\k1a R p1 At Au Av As Ca Cb w6 r3.2 n2 o2 q2 s2 t2 u2 x2 y2 b3 f3 i3 k3 l3 m3 At Au Av As Ca Cb o3 q3 (w6++p1.wI) s3 t3 n3)/\
((r3.2 !=0)=false->
 lz q3/\lz o3/\lz n3/\J2 n2 o2 q2 s2 t2 u2 x2 y2 b3 f3 i3 k3 r3.1 m3 n3 o3 q3 s3 t3))/\
(decide (0<p1.wT)=false->
 lz q3/\lz o3/\lz n3/\J2 n2 o2 q2 s2 t2 u2 x2 y2 b3 f3 i3 k3 l3 m3 n3 o3 q3 s3 t3))->J1 n2 o2 q2 s2 t2 u2 x2 y2 b3 f3 i3 k3 l3 m3 n3 o3 q3 s3 t3)->
(decide (0<p1.wQ)=true->
(OkA (wm.mk y1).wF/\U64 p1.wQ/\U64 p1.wY)/\let r2:=debitA (wm.mk y1).wF p1.wX p1.wQ p1.wY
((r2.2 !=0)=true->
(w6++p1.wI=w6++p1.wI)/\lz k2/\lz l2/\lz m2/\k1a R p1 At Au Av As Ca Cb w6 r2.2 f1 i1 k1 l1 m1 n1 o1 q1 s1 t1 u1 x1 y1 b2 At Au Av As Ca Cb l2 k2 (w6++p1.wI) f2 i2 m2)/\
((r2.2 !=0)=false->
 lz k2/\lz l2/\lz m2/\J1 f1 i1 k1 l1 m1 n1 o1 q1 s1 t1 u1 x1 r2.1 b2 m2 l2 k2 f2 i2))/\
(decide (0<p1.wQ)=false->
 lz k2/\lz l2/\lz m2/\J1 f1 i1 k1 l1 m1 n1 o1 q1 s1 t1 u1 x1 y1 b2 m2 l2 k2 f2 i2)))))<|by
 rintro p1 Ac Aa Ae Ab Am Ao Ag Aj Ah Ai Ak Ad Af Al At Au Av As Ca Cb w2 w4 w5 w6 w7k w7v h R hR;obtain⟨⟨c,f,hc,hp⟩,ht,hk,hw6⟩:=h;have hv:w7v=trs w7k:=hp.v
 have hA:addS p1.wI w7k=(0,w7k++p1.wI):=by
  unfold addS;have e1:(p1.wI.any fun m=>decide (m∈w7k))=false:=by rw[List.any_eq_false];intro m hm;simpa using hk.m m hm
  rw[e1,qbr hk.v.mn];rfl
 have hml:=hk.v.ml;have hol:=hk.v.ol;have hll:w2.length+p1.wC.length<=2^Aa.toNat:=hk.l;have hd1:1<=Aa:=hp.d1;have hd2:Aa<=12:=hp.d2;have hF0:wG.mk Ai Ak Ad=frF Aa w2:=hp.F;have hlb:BG w2:=hp.l;have hp12:=pow12 Aa.toNat qqo;obtain⟨a1,a2,a3,a4,a5⟩:=hk.v.am';have hgb:GoodA c Af:=hp.b
 have hdA:OkA (depA Af p1):=by
  unfold depA;split
  ·exact(ke7 hgb qqo ⟨ht.ac.1,a4⟩ ht.d.1 ht.n).1
  ·exact hgb.1
 have hdd:0<p1.wQ->(debitA Af p1.wX p1.wQ p1.wY).2=0:=hk.d;unfold perfS at hR;refine⟨rfl,⟨hv,by omega⟩,?_⟩;rw[hA];refine⟨fun e=>(by cases e),fun _=>⟨rfl,by omega,by unfold maxLen;omega,rfl,rfl,rfl,?_⟩⟩;refine⟨fun a y0 y1 y2 y3 y4 y5 y6 y7 y8 x y z bb nn kk vv pp rr g=>(Ac=y0/\Aa=y1/\Ae=y2/\Ab=y3/\Am=y4/\Ao=y5/\Ag=y6/\Aj=y7/\Ah=y8/\Af=bb/\Al=nn/\w7k++p1.wI=kk/\trs (w7k++p1.wI)=vv/\w5=pp/\w4=rr)/\∃i:Nat,a=(i:Int)/\i<=p1.wC.length/\wG.mk x y z=outsF (wG.mk Ai Ak Ad) (p1.wC.take i)/\g=w2++(p1.wC.take i).map (·.wl),fun a _ _ _ _ _ _ _ _ _ _ _ _ _ _ _ _ _ _ _=>(p1.wC.length-a).toNat,⟨⟨rfl,rfl,rfl,rfl,rfl,rfl,rfl,rfl,rfl,rfl,rfl,rfl,rfl,rfl,rfl⟩,0,rfl,by omega,rfl,by simp⟩,?_⟩;rintro _ _ _ _ _ _ _ _ _ _ x y z _ _ _ _ _ _ _ ⟨⟨rfl,rfl,rfl,rfl,rfl,rfl,rfl,rfl,rfl,rfl,rfl,rfl,rfl,rfl,rfl⟩,i,rfl,hi,hF,rfl⟩;have hx:x=(outsF (wG.mk Ai Ak Ad) (p1.wC.take i)).wB:=congrArg wG.wB hF;have hy:y=(outsF (wG.mk Ai Ak Ad) (p1.wC.take i)).wd:=congrArg wG.wd hF;have hz:z=(outsF (wG.mk Ai Ak Ad) (p1.wC.take i)).wg:=congrArg wG.wg hF;clear hF;subst hx;subst hy;subst hz;refine⟨fun e=> ?_,fun e=> ?_⟩
 ·have e:i<p1.wC.length:=by have:=qb e;omega
  have ho:=qal e;have hil:(p1.wC.take i).length=i:=by rw[qab];omega
  have hFi:outsF (wG.mk Ai Ak Ad) (p1.wC.take i)=frF Aa (w2++(p1.wC.take i).map (·.wl)):=by rw[hF0];exact kb8 qqo
  have hgl:(w2++(p1.wC.take i).map (·.wl)).length=w2.length+i:=by simp only[qj,ql];omega
  have hbg:BG (w2++(p1.wC.take i).map (·.wl)):=by
   intro q hq;rcases qae.1 hq with hq|hq
   ·exact hlb q hq
   ·obtain⟨o,h1,rfl⟩:=qai.1 hq;exact⟨(ht.o o (qbh h1)).c.1,(hk.v.o o (qbh h1)).c⟩
  rw[ix_get _ _ e,inc_i64 _ qqo];have hfv:FV (outsF (wG.mk Ai Ak Ad) (p1.wC.take i)):=by rw[hFi];exact frF_FV hd1 hd2 qqo hbg
  have hct:(outsF (wG.mk Ai Ak Ad) (p1.wC.take i)).wd<((2^(outsF (wG.mk Ai Ak Ad) (p1.wC.take i)).wB.toNat:Nat):Int):=by rw[hFi];show((w2++(p1.wC.take i).map (·.wl)).length:Int)<((2^Aa.toNat:Nat):Int);omega
  refine⟨by omega,by omega,⟨hfv,hct,(ht.o _ ho).c.1,(hk.v.o _ ho).c⟩,fun e2=>(by cases e2),fun _=>⟨rfl,rfl,?_,?_,rfl,rfl,rfl,⟨⟨rfl,rfl,rfl,rfl,rfl,rfl,rfl,rfl,rfl,rfl,rfl,rfl,rfl,rfl,rfl⟩,i+1,rfl,by omega,?_,?_⟩,by(dsimp only;omega)⟩⟩
  ·rw[hgl];simp only[qu,qao];omega
  ·rw[hgl];simp only[qu,qao];unfold maxLen;omega
  ·rw[qat e];unfold outsF;rw[List.foldl_append];rfl
  ·rw[qat e,qbi,qz];rfl
 ·have e:i=p1.wC.length:=by have:=qc e;omega
  subst e;rw[qcn];intro J1 j
  have j1:∀b',b' =depA Af p1->J1 Ac Aa Ae Ab Am Ao Ag Aj Ah (outsF (wG.mk Ai Ak Ad) p1.wC).wB (outsF (wG.mk Ai Ak Ad) p1.wC).wd (outsF (wG.mk Ai Ak Ad) p1.wC).wg b' Al (w2++p1.wC.map (·.wl)) w4 w5 (w7k++p1.wI) (trs (w7k++p1.wI)):=by
   intro b' h1;subst h1;refine j _ _ _ _ _ _ _ _ _ _ _ _ _ _ _ _ _ _ _ fun J2 k=> ?_;have j2:∀b',(wdA Af p1).2=0->b' =(wdA Af p1).1->J2 Ac Aa Ae Ab Am Ao Ag Aj Ah (outsF (wG.mk Ai Ak Ad) p1.wC).wB (outsF (wG.mk Ai Ak Ad) p1.wC).wd (outsF (wG.mk Ai Ak Ad) p1.wC).wg b' Al (w2++p1.wC.map (·.wl)) w4 w5 (w7k++p1.wI) (trs (w7k++p1.wI)):=by intro b' h0 h1;rw[qf (fun hh=>hh h0)]at hR;subst hR;subst h1;exact k _ _ _ _ _ _ _ _ _ _ _ _ _ _ _ _ _ _ _ (by repeat' first|apply qq|exact rfl|exact qn)
   refine⟨fun e=>⟨⟨hdA,ht.w⟩,fun e2=> ?_,fun e2=>⟨rfl,rfl,rfl,j2 _ ?_ ?_⟩⟩,fun e=>⟨rfl,rfl,rfl,j2 _ ?_ ?_⟩⟩
   ·have e2:(creditA (depA Af p1) p1.wX p1.wT).2≠0:=by simpa using e2
    have ew:wdA Af p1=creditA (depA Af p1) p1.wX p1.wT:=by unfold wdA;rw[qi (qb e)]
    rw[ew,qi e2]at hR;subst hR;exact(by repeat' first|apply qq|exact rfl|exact qn)
   ·have e2:(creditA (depA Af p1) p1.wX p1.wT).2=0:=by simpa using e2
    unfold wdA;rw[qi (qb e)];exact e2
   ·unfold wdA;rw[qi (qb e)]
   ·unfold wdA;rw[qf (qc e)]
   ·unfold wdA;rw[qf (qc e)]
  refine⟨fun e2=>⟨⟨hgb.1,ht.d,ht.n⟩,fun e3=> ?_,fun e3=>⟨rfl,rfl,rfl,j1 _ ?_⟩⟩,fun e2=>⟨rfl,rfl,rfl,j1 _ ?_⟩⟩
  ·have e3:(debitA Af p1.wX p1.wQ p1.wY).2≠0:=by simpa using e3
   exact(e3 (hdd (qb e2))).elim
  ·unfold depA;rw[qi (qb e2)]
  ·unfold depA;rw[qf (qc e2)]
noncomputable def kag:Con TB.den:= .b ⟨73,[.one (.ptr 0 0),.agg yI1,.one (.ptr 1 0)],yF,(.one (.one (zqi))),yE,false⟩ [.st 3,yqi,yqi,yqi,yqi,yqi,yqu,yqi,yqi,yqu,yqi,yqi,.sl yqu,.sl (.st 9),yqu,yqi,yqi,.sl yqu,yqi,.sl (.st 9),yqu,.sl yqu,.sl yqu,.sl (.st 10),.sl yqu,.sl yqu,.sl (.bool)] yO fun(p1:wH) (Ac Aa Ae Ab Am Ao Ag Aj Ah Ai Ak:Int) (Ad:Li) (Af:List wA) (Al At Au:Int) (Av:Li) (As:Int) (Ca:List wA) (Cb:Int) (w2 w4:Li) (w5:List wJ) (w6 w7k:Li) (w7v:Lo)=>((∃c:Nat,c+p1.Txs.length<=790/\PI (PS.mk (wE.mk Ac Aa Ae Ab Am Ao Ag Aj Ah) (wG.mk Ai Ak Ad) Af Al w2 w4 w5 w7k w7v) c 0)/\BR' p1/\w6=[],blkS (PS.mk (wE.mk Ac Aa Ae Ab Am Ao Ag Aj Ah) (wG.mk Ai Ak Ad) Af Al w2 w4 w5 w7k w7v) w6 p1,fun R=>(R.e,R.s.R.wb,R.s.R.wB,R.s.R.wP,R.s.R.wO,R.s.R.wL,R.s.R.wV,R.s.R.wc,R.s.R.wS,R.s.R.wW,R.s.F.wB,R.s.F.wd,R.s.F.wg,R.s.b,R.s.n,At,Au,Av,As,Ca,Cb,R.s.r,R.s.p,R.m,R.s.k,R.s.v,R.s.l,()))
abbrev k1u (R:PB) (At Au:Int) (Av:Li) (As:Int) (Ca:List wA) (Cb o0 o1 o2 o3 o4 o5 o6 o7 o8 o9 o10 o11:Int) (o12:Li) (o13:List wA) (o14 o15 o16:Int) (o17:Li) (o18:Int) (o19:List wA) (o20:Int) (o21:Li) (o22:List wJ) (o23 o24:Li) (o25:Lo) (o26:Li):Prop:=o0=R.e/\o1=R.s.R.wb/\o2=R.s.R.wB/\o3=R.s.R.wP/\o4=R.s.R.wO/\o5=R.s.R.wL/\o6=R.s.R.wV/\o7=R.s.R.wc/\o8=R.s.R.wS/\o9=R.s.R.wW/\o10=R.s.F.wB/\o11=R.s.F.wd/\o12=R.s.F.wg/\o13=R.s.b/\o14=R.s.n/\o15=At/\o16=Au/\o17=Av/\o18=As/\o19=Ca/\o20=Cb/\o21=R.s.r/\o22=R.s.p/\o23=R.m/\o24=R.s.k/\o25=R.s.v/\o26=R.s.l
abbrev Fz2 (r:Type):=Int->Int->Int->Int->(Li)->Int->(List wA)->Int->Int->Int->Int->Int->Int->Int->Int->Int->Int->Int->Int->(Li)->(List wA)->Int->(Li)->(Lo)->(Li)->(List wJ)->(Li)->(Li)->r
theorem kaz:kag.Ok Tryz.prog TB:=pbv Bs Tryz.func73 (.nd [.trimc 0 12] .no [] (.r 0 (.nd [] (.r 0 (.lp [] ⟨[7,6,5,4,3,1,0],[.map yqu (.bool),.tip yqu,.vec (.st 10),.vec yqu,.cells [.mp 0],.cells [zqi,zqi,zql,zqi,.own 1,.d (.sl (.st 9)),zqu],.cells [zqi,zqi,zqi,zqi,zqi,zqu,zqi,zqi,zqu,zqi,zqi,zql,.row 7,.ptr 4 0,.d (.sl (.st 9)),zqu,.row 3,.row 2],.vec yqu],[7,17],[.one (zqu),.one (zqi)],[8]⟩ .no)) [] .no))) (kei.c (k8v.c (k44.c c0))) (Q:=∀(p1:wH) (Ac Aa Ae Ab Am Ao Ag Aj Ah Ai Ak:Int) (Ad:Li) (Af:List wA) (Al At Au:Int) (Av:Li) (As:Int) (Ca:List wA) (Cb:Int) (w2 w4:Li) (w5:List wJ) (w6 w7k:Li) (w7v:Lo),((∃c:Nat,c+p1.Txs.length<=790/\PI (PS.mk (wE.mk Ac Aa Ae Ab Am Ao Ag Aj Ah) (wG.mk Ai Ak Ad) Af Al w2 w4 w5 w7k w7v) c 0)/\BR' p1/\w6=[])->∀R,blkS (PS.mk (wE.mk Ac Aa Ae Ab Am Ao Ag Aj Ah) (wG.mk Ai Ak Ad) Af Al w2 w4 w5 w7k w7v) w6 p1=R-> 
 lz w2/\lz w5/\lz w4/\lz w2/\(w6=w6)/\∃(I1:Fz2 Prop) (M1:Fz2 Nat),I1 0 0 At Au Av As Ca Cb Ac Aa Ae Ab Am Ao Ag Aj Ah Ai Ak Ad Af Al w7k w7v w6 w5 w4 w2/\∀b1 f1 i1 k1 l1 m1 n1 o1 q1 s1 t1 u1 x1 y1 b2 f2 i2 k2 l2 m2 n2 o2 q2 s2 t2 u2 x2 y2,(I1 b1 f1 i1 k1 l1 m1 n1 o1 q1 s1 t1 u1 x1 y1 b2 f2 i2 k2 l2 m2 n2 o2 q2 s2 t2 u2 x2 y2->
(decide (f1<(p1.Txs.length:Int))=true->
(0<=f1)/\f1<(p1.Txs.length:Int)/\lz u2/\lz x2/\lz y2/\((∃(c:Nat) (f:Int),c<=800/\PI (PS.mk (wE.mk q1 s1 t1 u1 x1 y1 b2 f2 i2) (wG.mk k2 l2 m2) n2 o2 y2 x2 u2 q2 s2) c f)/\TR (ix p1.Txs f1))/\let r1:Int:=(chkS (PS.mk (wE.mk q1 s1 t1 u1 x1 y1 b2 f2 i2) (wG.mk k2 l2 m2) n2 o2 y2 x2 u2 q2 s2) (ix p1.Txs f1))
((r1 !=0)=true->
(t2=t2)/\lz u2/\lz x2/\lz y2/\k1u R At Au Av As Ca Cb r1 q1 s1 t1 u1 x1 y1 b2 f2 i2 k2 l2 m2 n2 o2 i1 k1 l1 m1 n1 o1 x2 u2 t2 q2 s2 y2)/\
((r1 !=0)=false->
(t2=t2)/\lz u2/\lz x2/\lz y2/\((∃(c:Nat) (f:Int),c<=800/\PI (PS.mk (wE.mk q1 s1 t1 u1 x1 y1 b2 f2 i2) (wG.mk k2 l2 m2) n2 o2 y2 x2 u2 q2 s2) c f)/\TR (ix p1.Txs f1)/\CK (PS.mk (wE.mk q1 s1 t1 u1 x1 y1 b2 f2 i2) (wG.mk k2 l2 m2) n2 o2 y2 x2 u2 q2 s2) (ix p1.Txs f1)/\t2.length<=1000000)/\let r2:Int:=((perfS (PS.mk (wE.mk q1 s1 t1 u1 x1 y1 b2 f2 i2) (wG.mk k2 l2 m2) n2 o2 y2 x2 u2 q2 s2) (ix p1.Txs f1)).e)
 let r3:=(perfS (PS.mk (wE.mk q1 s1 t1 u1 x1 y1 b2 f2 i2) (wG.mk k2 l2 m2) n2 o2 y2 x2 u2 q2 s2) (ix p1.Txs f1)).s
((r2 !=0)=true->
((t2++(ix p1.Txs f1).wI)=(t2++(ix p1.Txs f1).wI))/\lz r3.p/\lz r3.r/\lz r3.l/\k1u R At Au Av As Ca Cb r2 r3.R.wb r3.R.wB r3.R.wP r3.R.wO r3.R.wL r3.R.wV r3.R.wc r3.R.wS r3.R.wW r3.F.wB r3.F.wd r3.F.wg r3.b r3.n i1 k1 l1 m1 n1 o1 r3.r r3.p (t2++(ix p1.Txs f1).wI) r3.k r3.v r3.l)/\
((r2 !=0)=false->
 let v4:Int:=u64.wrap (b1+((ix p1.Txs f1).Fee))
 lz r3.p/\lz r3.r/\lz r3.l/\((t2++(ix p1.Txs f1).wI)=(t2++(ix p1.Txs f1).wI))/\I1 v4 (i64.wrap (f1+1)) i1 k1 l1 m1 n1 o1 r3.R.wb r3.R.wB r3.R.wP r3.R.wO r3.R.wL r3.R.wV r3.R.wc r3.R.wS r3.R.wW r3.F.wB r3.F.wd r3.F.wg r3.b r3.n r3.k r3.v (t2++(ix p1.Txs f1).wI) r3.p r3.r r3.l/\M1 v4 (i64.wrap (f1+1)) i1 k1 l1 m1 n1 o1 r3.R.wb r3.R.wB r3.R.wP r3.R.wO r3.R.wL r3.R.wV r3.R.wc r3.R.wS r3.R.wW r3.F.wB r3.F.wd r3.F.wg r3.b r3.n r3.k r3.v (t2++(ix p1.Txs f1).wI) r3.p r3.r r3.l<M1 b1 f1 i1 k1 l1 m1 n1 o1 q1 s1 t1 u1 x1 y1 b2 f2 i2 k2 l2 m2 n2 o2 q2 s2 t2 u2 x2 y2)))/\
(decide (f1<(p1.Txs.length:Int))=false->
(OkA (wm.mk n2).wF/\U64 (u64.wrap (y1+b1)))/\let r5:=creditA (wm.mk n2).wF p1.wAT (u64.wrap (y1+b1))
((r5.2 !=0)=true->
(t2=t2)/\lz u2/\lz x2/\lz y2/\k1u R At Au Av As Ca Cb r5.2 q1 s1 t1 u1 x1 y1 b2 f2 i2 k2 l2 m2 n2 o2 i1 k1 l1 m1 n1 o1 x2 u2 t2 q2 s2 y2)/\
((r5.2 !=0)=false->
(t2=t2)/\lz u2/\lz x2/\lz y2/\k1u R At Au Av As Ca Cb 0 q1 s1 t1 u1 x1 y1 b2 f2 i2 k2 l2 m2 r5.1 o2 i1 k1 l1 m1 n1 o1 x2 u2 t2 q2 s2 y2))))<|by
 rintro p1 Ac Aa Ae Ab Am Ao Ag Aj Ah Ai Ak Ad Af Al At Au Av As Ca Cb w2 w4 w5 w6 w7k w7v h R hR;obtain⟨⟨c,hc,hp⟩,hb,hw⟩:=h;subst hw;unfold blkS at hR;generalize hG:blkGo p1.Txs (PS.mk (wE.mk Ac Aa Ae Ab Am Ao Ag Aj Ah) (wG.mk Ai Ak Ad) Af Al w2 w4 w5 w7k w7v) [] 0=G at hR;refine⟨rfl,rfl,rfl,rfl,rfl,⟨(fun fe a y0 y1 y2 y3 y4 y5 x0 x1 x2 x3 x4 x5 x6 x7 x8 x9 x10 x11 bb nn kk vv mm pp rr ll=>(y0=At/\y1=Au/\y2=Av/\y3=As/\y4=Ca/\y5=Cb)/\∃i:Nat,a=(i:Int)/\i<=p1.Txs.length/\(∃c' :Nat,c' +(p1.Txs.length-i)<=790/\PI (PS.mk (wE.mk x0 x1 x2 x3 x4 x5 x6 x7 x8) (wG.mk x9 x10 x11) bb nn ll rr pp kk vv) c' fe)/\mm.length<=4*i/\blkGo (p1.Txs.drop i) (PS.mk (wE.mk x0 x1 x2 x3 x4 x5 x6 x7 x8) (wG.mk x9 x10 x11) bb nn ll rr pp kk vv) mm fe=G),(fun _ a _ _ _ _ _ _ _ _ _ _ _ _ _ _ _ _ _ _ _ _ _ _ _ _ _ _=>(p1.Txs.length-a).toNat),⟨⟨rfl,rfl,rfl,rfl,rfl,rfl⟩,0,rfl,by omega,⟨c,by omega,hp⟩,by simp,hG⟩,?_⟩⟩;rintro fe _ y0 y1 y2 y3 y4 y5 x0 x1 x2 x3 x4 x5 x6 x7 x8 x9 x10 x11 bb nn kk vv mm pp rr ll ⟨⟨rfl,rfl,rfl,rfl,rfl,rfl⟩,i,rfl,hi,⟨c',hc',hq⟩,hm,hg⟩;refine⟨fun e=> ?_,fun e=> ?_⟩
 ·have e:i<p1.Txs.length:=by have:=qb e;omega
  have ht:=hb.t _ (qal e);rw[qas e]at hg;unfold blkGo at hg;rw[ix_get _ _ e,inc_i64 _ qqo];refine⟨by omega,by omega,rfl,rfl,rfl,⟨⟨c',fe,by omega,hq⟩,ht⟩,fun e2=> ?_,fun e2=> ?_⟩
  ·have e2:chkS (PS.mk (wE.mk x0 x1 x2 x3 x4 x5 x6 x7 x8) (wG.mk x9 x10 x11) bb nn ll rr pp kk vv) p1.Txs[i]≠0:=by simpa using e2
   rw[qi e2]at hg;subst hg;simp only at hR;rw[qi e2]at hR;subst hR;exact(by repeat' first|apply qq|exact rfl|exact qn)
  ·have e2:chkS (PS.mk (wE.mk x0 x1 x2 x3 x4 x5 x6 x7 x8) (wG.mk x9 x10 x11) bb nn ll rr pp kk vv) p1.Txs[i]=0:=by simpa using e2
   have k:=kcb e2;rw[qf (fun hh=>hh e2)]at hg;refine⟨rfl,rfl,rfl,rfl,⟨⟨c',fe,by omega,hq⟩,ht,k,by omega⟩,fun e3=> ?_,fun e3=>⟨rfl,rfl,rfl,rfl,⟨⟨rfl,rfl,rfl,rfl,rfl,rfl⟩,i+1,rfl,by omega,⟨c' +1,by omega,?_⟩,?_,?_⟩,by(dsimp only;omega)⟩⟩
   ·have e3:(perfS (PS.mk (wE.mk x0 x1 x2 x3 x4 x5 x6 x7 x8) (wG.mk x9 x10 x11) bb nn ll rr pp kk vv) p1.Txs[i]).e≠0:=by simpa using e3
    rw[qi e3]at hg;subst hg;simp only at hR;rw[qi e3]at hR;subst hR;exact(by repeat' first|apply qq|exact rfl|exact qn)
   ·have e3:(perfS (PS.mk (wE.mk x0 x1 x2 x3 x4 x5 x6 x7 x8) (wG.mk x9 x10 x11) bb nn ll rr pp kk vv) p1.Txs[i]).e=0:=by simpa using e3
    have h9:=(hq.perf qqo ht k).2.2 e3;rw[khi hq qqo ht k];exact h9
   ·have:=k.v.ml;rw[qj];omega
   ·have e3:(perfS (PS.mk (wE.mk x0 x1 x2 x3 x4 x5 x6 x7 x8) (wG.mk x9 x10 x11) bb nn ll rr pp kk vv) p1.Txs[i]).e=0:=by simpa using e3
    rw[qf (fun hh=>hh e3)]at hg;exact hg
 ·have e:i=p1.Txs.length:=by have:=qc e;omega
  subst e;rw[qes]at hg;unfold blkGo at hg;subst hg;have hw:=kii (x:=⟨0,(PS.mk (wE.mk x0 x1 x2 x3 x4 x5 x6 x7 x8) (wG.mk x9 x10 x11) bb nn ll rr pp kk vv),mm,fe⟩) hq qqo;simp only at hw;unfold crB at hR;simp only at hR;rw[qf (fun hh=>hh rfl)]at hR;refine⟨⟨hq.b.1,?_⟩,fun e2=> ?_,fun e2=> ?_⟩
  ·rw[hw.1];exact hw.2
  ·have e2:(creditA bb p1.wAT (u64.wrap (x5+fe))).2≠0:=by simpa using e2
   rw[qi e2]at hR;subst hR;exact(by repeat' first|apply qq|exact rfl|exact qn)
  ·have e2:(creditA bb p1.wAT (u64.wrap (x5+fe))).2=0:=by simpa using e2
   rw[qf (fun hh=>hh e2)]at hR;subst hR;exact(by repeat' first|apply qq|exact rfl|exact qn)
noncomputable def kec:Con TB.den:= .g (gk 113 [.one (.ptr 0 0),.one (zql)] yM1 (.one (.one (zqi)))) [.sl yqu,.sl yqu,.sl (.bool)] [yqi,.sl yqu,.sl (.bool)] [] fun(p1 w1k:Li) (w1v:Lo)=>(w1v=trs w1k/\p1.length<=1000000,((remS p1 w1k).1:Int),((remS p1 w1k).2:Li),(trs (remS p1 w1k).2:Lo),())
theorem kgs:kec.Ok Tryz.prog TB:=prv Bs Tryz.func113 (.r 1 (.nd [] (.r 0 (.lp [] ⟨[1],yQ1,[16],[.one (zqi)],[]⟩ .no)) [] .no)) (kaq.c (k31.c c0)) (Q:=∀(p1 w1k:Li) (w1v:Lo),(w1v=trs w1k/\p1.length<=1000000)->∀r0:Int,((remS p1 w1k).1)=r0->∀e1k:Li,((remS p1 w1k).2)=e1k->∀e1v:Lo,(trs (remS p1 w1k).2)=e1v-> 
(w1v=trs w1k/\p1.length<=1000000)/\let r1:Bool:=(p1.any (fun m=>decide (m∈w1k)==false))
(r1=true->
 4=r0/\w1k=e1k/\w1v=e1v)/\
(r1=false->
(p1.length<=1000000)/\((!decide p1.Nodup)=true->
 4=r0/\w1k=e1k/\w1v=e1v)/\
((!decide p1.Nodup)=false->
 ∃(I1:Int->(Li)->(Lo)->Prop) (M1:Int->(Li)->(Lo)->Nat),I1 0 w1k w1v/\∀b1 f1 i1,(I1 b1 f1 i1->
(decide (b1<(p1.length:Int))=true->
(0<=b1)/\b1<(p1.length:Int)/\f1.length=i1.length/\let v2:Li:=mDelK (BEq.beq (ix p1 b1)) f1
 let v3:Lo:=mDelV (BEq.beq (ix p1 b1)) f1 i1
 I1 (i64.wrap (b1+1)) v2 v3/\M1 (i64.wrap (b1+1)) v2 v3<M1 b1 f1 i1)/\
(decide (b1<(p1.length:Int))=false->
 0=r0/\f1=e1k/\i1=e1v)))))<|by
 rintro p1 w1k w1v h _ rfl _ rfl _ rfl;obtain⟨h,hl⟩:=h;subst h;have ea:(p1.any fun m=>decide (m∈w1k)==false)=p1.any fun m=> !decide (m∈w1k):=by congr 1;funext m;cases decide (m∈w1k)<;>rfl
 refine⟨⟨rfl,hl⟩,?_⟩;rw[ea];refine⟨fun e=> ?_,fun e=>⟨hl,fun e2=> ?_,fun e2=> ?_⟩⟩
 ·have:remS p1 w1k=(4,w1k):=by unfold remS;rw[e];rfl
  rw[this];exact⟨rfl,rfl,rfl⟩
 ·have:remS p1 w1k=(4,w1k):=by unfold remS;rw[e,e2];rfl
  rw[this];exact⟨rfl,rfl,rfl⟩
 ·have hA:remS p1 w1k=(0,p1.foldl List.erase w1k):=by unfold remS;rw[e,e2];rfl
  rw[hA];refine⟨(fun a k v=>∃i:Nat,a=(i:Int)/\i<=p1.length/\k=(p1.take i).foldl List.erase w1k/\v=trs k),(fun a _ _=>(p1.length-a).toNat),⟨0,rfl,by omega,rfl,rfl⟩,?_⟩;rintro _ _ _ ⟨i,rfl,hi,rfl,rfl⟩;refine⟨fun e3=> ?_,fun e3=> ?_⟩
  ·have e3:i<p1.length:=by have:=qb e3;omega
   rw[ix_get _ _ e3,inc_i64 _ qqo];obtain⟨q1,q2⟩:=sDel ((p1.take i).foldl List.erase w1k) p1[i];rw[q1,q2];refine⟨by omega,by omega,by simp[trs],⟨i+1,rfl,by omega,?_,rfl⟩,by(dsimp only;omega)⟩;rw[qat e3,List.foldl_append];rfl
  ·have e3:i=p1.length:=by have:=qc e3;omega
   subst e3;rw[qcn];exact⟨rfl,rfl,rfl⟩
noncomputable def k9x:Con TB.den:= .g ⟨74,[.one (.ptr 0 0),.agg [zqi,zqi,zql,zqi,zql,.d (.sl (.st 9)),zqu]],yM,(.tup []),[.cells [zqi,zqi,zqi,zqi,zqi,zqu,zqi,zqi,zqu,zqi,zqi,zql,.view 1,.ptr 2 0,.d (.sl (.st 9)),zqu,.row 3,.row 4],.vec yqu,.cells [.mp 5],.vec yqu,.vec (.st 10),.map yqu (.bool)],false⟩ [.st 10,yqi,yqi,yqi,yqi,yqi,yqu,yqi,yqi,yqu,yqi,yqi,.sl yqu,.sl (.st 9),yqu,.sl yqu,.sl yqu,.sl (.st 10),.sl yqu,.sl (.bool)] [yqi,yqi,yqi,yqi,yqi,yqu,yqi,yqi,yqu,yqi,yqi,.sl yqu,yqi,yqi,.sl (.st 9),yqu,.sl yqu,.sl yqu,.sl (.st 10),.sl yqu,.sl (.bool)] [] fun(p1:wJ) (Ac Aa Ae Ab Am Ao Ag Aj Ah Ai Ak:Int) (Ad:Li) (Af:List wA) (Al:Int) (w1 w3:Li) (w4:List wJ) (w5k:Li) (w5v:Lo)=>(w5v=trs w5k/\p1.marks.length<=1000000/\0<=p1.leaves/\p1.leaves<=(w1.length:Int),Ac,Aa,Ae,Ab,Am,Ao,Ag,Aj,Ah,p1.wBD,p1.wBE,p1.wBG,(0:Int),(p1.leaves.toNat:Int),p1.wAq,p1.hidden,w1,w3,w4,((remS p1.marks w5k).2:Li),(trs (remS p1.marks w5k).2:Lo),())
theorem k4k:k9x.Ok Tryz.prog TB:=prv Bs Tryz.func74 .no (kgs.c c0) (Q:=∀(p1:wJ) (Ac Aa Ae Ab Am Ao Ag Aj Ah Ai Ak:Int) (Ad:Li) (Af:List wA) (Al:Int) (w1 w3:Li) (w4:List wJ) (w5k:Li) (w5v:Lo),(w5v=trs w5k/\p1.marks.length<=1000000/\0<=p1.leaves/\p1.leaves<=(w1.length:Int))->∀Ay:Int,Ac=Ay->∀Aq:Int,Aa=Aq->∀Aw:Int,Ae=Aw->∀Ax:Int,Ab=Ax->∀B0:Int,Am=B0->∀B1:Int,Ao=B1->∀Bl:Int,Ag=Bl->∀Bm:Int,Aj=Bm->∀Bn:Int,Ah=Bn->∀Bo:Int,p1.wBD=Bo->∀Bw:Int,p1.wBE=Bw->∀A9:Li,p1.wBG=A9->∀d0_12o:Int,(0:Int)=d0_12o->∀d0_12n:Int,(p1.leaves.toNat:Int)=d0_12n->∀Ba:List wA,p1.wAq=Ba->∀Bx:Int,p1.hidden=Bx->∀e1:Li,w1=e1->∀e3:Li,w3=e3->∀e4:List wJ,w4=e4->∀e5k:Li,((remS p1.marks w5k).2)=e5k->∀e5v:Lo,(trs (remS p1.marks w5k).2)=e5v-> 
(w5v=trs w5k/\p1.marks.length<=1000000)/\(0<=p1.leaves)/\p1.leaves<=(w1.length:Int)/\lz w4/\lz w3/\Ac=Ay/\Aa=Aq/\Ae=Aw/\Ab=Ax/\Am=B0/\Ao=B1/\Ag=Bl/\Aj=Bm/\Ah=Bn/\p1.wBD=Bo/\p1.wBE=Bw/\p1.wBG=A9/\(0:Int)=d0_12o/\(p1.leaves.toNat:Int)=d0_12n/\p1.wAq=Ba/\p1.hidden=Bx/\w1=e1/\w3=e3/\w4=e4/\((remS p1.marks w5k).2)=e5k/\(trs (remS p1.marks w5k).2)=e5v)<|by
 rintro p1 Ac Aa Ae Ab Am Ao Ag Aj Ah Ai Ak Ad Af Al w1 w3 w4 w5k w5v h;repeat rintro _ rfl
 exact⟨⟨h.1,h.2.1⟩,h.2.2.1,h.2.2.2,rfl,rfl,rfl,rfl,rfl,rfl,rfl,rfl,rfl,rfl,rfl,rfl,rfl,rfl,rfl,rfl,rfl,rfl,rfl,rfl,rfl,rfl,rfl⟩
noncomputable def k8p:Con TB.den:= .gp 108 [yqi] [yqu] [] fun(p0:Int)=>(0<=p0/\p0<=12,(emp p0.toNat:Int),())
theorem k3t:k8p.Ok Tryz.prog TB:=qrv Bs Tryz.func108 (.r 2 (.nd [] (.r 0 (.lp [] ⟨[],[],[3,12],[.one (zqu),.one (zqi)],[]⟩ .no)) [] .no)) (ky.c (k1t.c c0)) (Q:=∀(p0:Int),(0<=p0/\p0<=12)->∀r0:Int,emp p0.toNat=r0-> 
(decide (p0<0)=true->
 0=r0)/\
(decide (p0<0)=false->
(decide (12<p0)=true->
 0=r0)/\
(decide (12<p0)=false->
((18446744069414584321:Int)=18446744069414584321/\U64 (6:Int)/\Us ([]:Li)/\([]:Li).length<=1099511627776)/\∃(I1:Int->Int->Prop) (M1:Int->Int->Nat),I1 (hashS (6:Int) ([]:Li)) 0/\∀b1 f1,(I1 b1 f1->
(decide (f1<p0)=true->
(U64 b1/\U64 b1)/\I1 (hashS 6 [b1,b1]) (i64.wrap (f1+1))/\M1 (hashS 6 [b1,b1]) (i64.wrap (f1+1))<M1 b1 f1)/\
(decide (f1<p0)=false->
 b1=r0)))))<|by
 rintro p0 h _ rfl;refine⟨fun e=>(by have:=qb e;omega),fun _=>⟨fun e=>(by have:=qb e;omega),fun _=>⟨⟨rfl,by decide,(by intro x hx;cases hx),by decide⟩,?_⟩⟩⟩;refine⟨(fun x a=>∃i:Nat,a=(i:Int)/\(i:Int)<=p0/\x=emp i),(fun _ a=>(p0-a).toNat),⟨0,rfl,by omega,rfl⟩,?_⟩;rintro _ _ ⟨i,rfl,hi,rfl⟩;refine⟨fun e=> ?_,fun e=> ?_⟩
 ·have e:=qb e;rw[inc_i64 _ qqo];exact⟨⟨emp_u i,emp_u i⟩,⟨i+1,rfl,by omega,rfl⟩,by(dsimp only;omega)⟩
 ·have e:=qc e;have:p0.toNat=i:=by omega
  rw[this]
noncomputable def kad:Con TB.den:= .gp 71 [.st 6] [yqu] [] fun(p0:wG)=>(FV p0,(rootF p0:Int),())
theorem k2j:kad.Ok Tryz.prog TB:=qrv Bs Tryz.func71 (.r 4 (.nd [] (.r 0 (.lp [] ⟨[],[],[3,4,25],[.one (zqu),.one (zqu),.one (zqi)],[]⟩ (.r 1 (.nd [] (.r 0 (.jn ⟨[],[],[4],[.one (zqu)],[]⟩ [] .no [] .no)) [] .no)))) [] .no)) (k3u.c (k3t.c (k1t.c c0))) (Q:=∀(p0:wG),(FV p0)->∀r0:Int,rootF p0=r0-> 
(FV p0)/\((!true)=true->
 0=r0)/\
((!true)=false->
(0<=p0.wB)/\((p0.wd==(ishl .i64 1 p0.wB))=true->
(0<=p0.wB)/\p0.wB<(p0.wg.length:Int)/\ix p0.wg p0.wB=r0)/\
((p0.wd==(ishl .i64 1 p0.wB))=false->
(0<=(0:Int)/\(0:Int)<=12)/\∃(I1:Int->Int->Int->Prop) (M1:Int->Int->Int->Nat),I1 (emp (0:Int).toNat) (emp (0:Int).toNat) 0/\∀b1 f1 i1,(I1 b1 f1 i1->
(decide (i1<p0.wB)=true->
 ∀J1:Int->Prop,(∀(k1:Int),
((U64 b1/\U64 b1)/\I1 (hashS 6 [b1,b1]) k1 (i64.wrap (i1+1))/\M1 (hashS 6 [b1,b1]) k1 (i64.wrap (i1+1))<M1 b1 f1 i1)->J1 k1)->
(0<=i1)/\let v1:Bool:=((iand .i64 (ishr .i64 p0.wd i1) 1)==1)
(v1=true->
(0<=i1)/\i1<(p0.wg.length:Int)/\(U64 (ix p0.wg i1)/\U64 f1)/\J1 (hashS 6 [(ix p0.wg i1),f1]))/\
(v1=false->
(U64 f1/\U64 b1)/\J1 (hashS 6 [f1,b1])))/\
(decide (i1<p0.wB)=false->
 f1=r0)))))<|by
 rintro p0 h _ rfl;have hv:=h;obtain⟨d1,d2,c0,c1,ll,u,z⟩:=h;obtain⟨d,hd⟩:=qo (show 0<=p0.wB by omega);obtain⟨n,hn⟩:=qo c0;have hdn:p0.wB.toNat=d:=by omega
 have hp:=pow12 d qqo;rw[hdn]at c1 ll;refine⟨hv,fun e=>(by cases e),fun _=>⟨by omega,?_⟩⟩;rw[hd,shl1 d qqo,hn];refine⟨fun e=>⟨by omega,by omega,?_⟩,fun e=>⟨by decide,?_⟩⟩
 ·have e:(n:Int)=((2^d:Nat):Int):=by simpa using e
  unfold rootF;rw[hdn,hn,qi e,hd]
 have e:¬(n:Int)=((2^d:Nat):Int):=by simpa using e
 have hr:rootF p0=rootGo p0 d 0 (emp 0) (emp 0):=by unfold rootF;rw[hdn,hn,qf e]
 rw[hr];refine⟨fun a x b=>∃i:Nat,b=(i:Int)/\i<=d/\a=emp i/\(0<=x/\x<18446744069414584321)/\rootGo p0 (d-i) i (emp i) x=rootGo p0 d 0 (emp 0) (emp 0),fun _ _ b=>(d-b).toNat,⟨0,rfl,by omega,rfl,⟨(emp_u 0).1,emp_lt 0⟩,rfl⟩,?_⟩;rintro _ x _ ⟨i,rfl,hi,rfl,hx,hg⟩;refine⟨fun e J1 j=> ?_,fun e=> ?_⟩
 ·have e:i<d:=by have:=qb e;omega
  have hs:i<p0.wg.length:=by omega
  have hxl:=u _ (qal hs);generalize hR:rootGo p0 d 0 (emp 0) (emp 0)=R at hg ⊢;rw[show d-i=d-(i+1)+1 by omega]at hg;unfold rootGo at hg;rw[hn,qt]at hg;rw[bit1 n i qqo qqo];refine⟨by omega,fun e2=>⟨by omega,by omega,?_,?_⟩,fun e2=>⟨⟨⟨hx.1,by omega⟩,emp_u i⟩,?_⟩⟩
  ·rw[ix_get _ _ hs];exact⟨⟨hxl.1,by omega⟩,hx.1,by omega⟩
  ·have e2:((n/2^i%2:Nat):Int)=1:=by simpa using e2
   have hb:bitN n i=true:=by unfold bitN;generalize n/2^i%2=q at *;simp;omega
   rw[qi hb]at hg;refine j _ ⟨⟨emp_u i,emp_u i⟩,?_⟩;rw[inc_i64 _ qqo];exact⟨⟨i+1,rfl,by omega,rfl,⟨(kj _ _).1,k4e _ _⟩,hg.trans hR.symm⟩,by show((d:Int)-((i+1:Nat):Int)).toNat<((d:Int)-(i:Int)).toNat;omega⟩
  ·have e2:¬((n/2^i%2:Nat):Int)=1:=by simpa using e2
   have hb:¬bitN n i=true:=by unfold bitN;generalize n/2^i%2=q at *;simp;omega
   rw[qf hb]at hg;refine j _ ⟨⟨emp_u i,emp_u i⟩,?_⟩;rw[inc_i64 _ qqo];exact⟨⟨i+1,rfl,by omega,rfl,⟨(kj _ _).1,k4e _ _⟩,hg.trans hR.symm⟩,by show((d:Int)-((i+1:Nat):Int)).toNat<((d:Int)-(i:Int)).toNat;omega⟩
 ·have e:d=i:=by have:=qc e;omega
  subst e;rw[Nat.sub_self]at hg;exact hg
noncomputable def kdc:Con TB.den:= .b ⟨23,[.one (.ptr 0 0),.agg yI1],yM,(.one (.one (zqi))),yL,false⟩ [.st 3,yqi,yqi,yqi,yqi,yqi,yqu,yqi,yqi,yqu,yqi,yqi,.sl yqu,.sl (.st 9),yqu,.sl yqu,.sl yqu,.sl (.st 10),.sl yqu,.sl (.bool)] [yqi,yqi,yqi,yqi,yqi,yqi,yqu,yqi,yqi,yqu,yqi,yqi,.sl yqu,.sl (.st 9),yqu,.sl yqu,.sl (.bool),.sl yqu,.sl yqu,.sl (.st 10)] fun(p1:wH) (Ac Aa Ae Ab Am Ao Ag Aj Ah Ai Ak:Int) (Ad:Li) (Af:List wA) (Al:Int) (w1 w3:Li) (w4:List wJ) (w5k:Li) (w5v:Lo)=>((∃c:Nat,c+p1.Txs.length<=790/\PI (PS.mk (wE.mk Ac Aa Ae Ab Am Ao Ag Aj Ah) (wG.mk Ai Ak Ad) Af Al w1 w3 w4 w5k w5v) c 0)/\BR' p1,applyS (PS.mk (wE.mk Ac Aa Ae Ab Am Ao Ag Aj Ah) (wG.mk Ai Ak Ad) Af Al w1 w3 w4 w5k w5v) p1,fun R=>(R.e,R.s.R.wb,R.s.R.wB,R.s.R.wP,R.s.R.wO,R.s.R.wL,R.s.R.wV,R.s.R.wc,R.s.R.wS,R.s.R.wW,R.s.F.wB,R.s.F.wd,R.s.F.wg,R.s.b,R.s.n,R.s.k,R.s.v,R.s.l,R.s.r,R.s.p,()))
abbrev k2a (R:PE) (o0 o1 o2 o3 o4 o5 o6 o7 o8 o9 o10 o11:Int) (o12:Li) (o13:List wA) (o14:Int) (o15:Li) (o16:Lo) (o17 o18:Li) (o19:List wJ):Prop:=o0=R.e/\o1=R.s.R.wb/\o2=R.s.R.wB/\o3=R.s.R.wP/\o4=R.s.R.wO/\o5=R.s.R.wL/\o6=R.s.R.wV/\o7=R.s.R.wc/\o8=R.s.R.wS/\o9=R.s.R.wW/\o10=R.s.F.wB/\o11=R.s.F.wd/\o12=R.s.F.wg/\o13=R.s.b/\o14=R.s.n/\o15=R.s.k/\o16=R.s.v/\o17=R.s.l/\o18=R.s.r/\o19=R.s.p
theorem k3d:kdc.Ok Tryz.prog TB:=pbx Bs [61,62,75,76] Tryz.func23 (.r 0 (.nd [] (.r 0 (.nd [] (.r 0 (.rt [.trimc 0 12,.trimc 0 16,.trimc 0 17])) [] .no)) [] (.nd [] (.r 0 (.nd [] (.r 0 (.rt [.trimc 0 12,.trimc 0 16,.trimc 0 17])) [] .no)) [] (.r 1 (.nd [] (.nd [.tokc 439 4 yqu] .no [] (.r 0 (.nd [] (.r 1 (.rt [.trimc 0 12,.trimc 0 16,.trimc 0 17])) [] .no))) [] .no))))) x0 (kaz.c (k4k.c (k2j.c c0))) (Q:=∀(p1:wH) (Ac Aa Ae Ab Am Ao Ag Aj Ah Ai Ak:Int) (Ad:Li) (Af:List wA) (Al:Int) (w1 w3:Li) (w4:List wJ) (w5k:Li) (w5v:Lo),((∃c:Nat,c+p1.Txs.length<=790/\PI (PS.mk (wE.mk Ac Aa Ae Ab Am Ao Ag Aj Ah) (wG.mk Ai Ak Ad) Af Al w1 w3 w4 w5k w5v) c 0)/\BR' p1)->∀R,applyS (PS.mk (wE.mk Ac Aa Ae Ab Am Ao Ag Aj Ah) (wG.mk Ai Ak Ad) Af Al w1 w3 w4 w5k w5v) p1=R-> 
 let v1:Bool:=(p1.wM !=(i64.wrap ((w4.length:Int)+1)))
(v1=true->
 lz w1/\lz w3/\lz w4/\lz w4/\lz w3/\lz w1/\k2a R 18 Ac Aa Ae Ab Am Ao Ag Aj Ah Ai Ak Ad Af Al w5k w5v w1 w3 w4)/\
(v1=false->
(decide (18446744069414584321<=p1.wAT)=true->
 lz w1/\lz w3/\lz w4/\lz w4/\lz w3/\lz w1/\k2a R 1 Ac Aa Ae Ab Am Ao Ag Aj Ah Ai Ak Ad Af Al w5k w5v w1 w3 w4)/\
(decide (18446744069414584321<=p1.wAT)=false->
(([]:Li)=([]:Li))/\lz w4/\lz w3/\lz w1/\((∃c:Nat,c+p1.Txs.length<=790/\PI (PS.mk (wE.mk Ac Aa Ae Ab Am Ao Ag Aj Ah) (wG.mk Ai Ak Ad) Af Al w1 w3 w4 w5k w5v) c 0)/\BR' p1/\([]:Li)=[])/\let r2:=blkS (PS.mk (wE.mk Ac Aa Ae Ab Am Ao Ag Aj Ah) (wG.mk Ai Ak Ad) Af Al w1 w3 w4 w5k w5v) ([]:Li) p1
 let r3:=(blkS (PS.mk (wE.mk Ac Aa Ae Ab Am Ao Ag Aj Ah) (wG.mk Ai Ak Ad) Af Al w1 w3 w4 w5k w5v) ([]:Li) p1).s
((r2.e !=0)=true->
 lz r3.p/\lz r3.r/\lz r3.l/\(r3.v=trs r3.k/\(wJ.mk Ai Ak Ad (w1.length:Int) r2.m Af Al).marks.length<=1000000/\0<=(wJ.mk Ai Ak Ad (w1.length:Int) r2.m Af Al).leaves/\(wJ.mk Ai Ak Ad (w1.length:Int) r2.m Af Al).leaves<=(r3.l.length:Int))/\let r4:=wJ.mk Ai Ak Ad (w1.length:Int) r2.m Af Al
 let r5:Int:=((wJ.mk Ai Ak Ad (w1.length:Int) r2.m Af Al).leaves.toNat:Int)
 let r6:Li:=((remS (wJ.mk Ai Ak Ad (w1.length:Int) r2.m Af Al).marks r3.k).2)
 let r7:Lo:=(trs (remS (wJ.mk Ai Ak Ad (w1.length:Int) r2.m Af Al).marks r3.k).2)
(0:Int).toNat=0/\r5.toNat<=r3.l.length/\lz r3.r/\lz r3.p/\lz r3.p/\lz r3.r/\lz (r3.l.take r5.toNat)/\k2a R r2.e r3.R.wb r3.R.wB r3.R.wP r3.R.wO r3.R.wL r3.R.wV r3.R.wc r3.R.wS r3.R.wW r4.wBD r4.wBE r4.wBG r4.wAq r4.hidden r6 r7 (r3.l.take r5.toNat) r3.r r3.p)/\
((r2.e !=0)=false->
 let v8:List wJ:=[wJ.mk Ai Ak Ad (w1.length:Int) r2.m Af Al]
 lz r3.p/\lz v8/\(r3.p.length+v8.length)*104<=140737488355328/\r3.p.length+v8.length<=maxLen/\(FV r3.F)/\lz r3.r/\lz [(rootF r3.F)]/\(r3.r.length+[(rootF r3.F)].length)*8<=140737488355328/\r3.r.length+[(rootF r3.F)].length<=maxLen/\lz (r3.p++v8)/\lz (r3.r++[(rootF r3.F)])/\lz r3.l/\k2a R 0 r3.R.wb r3.R.wB r3.R.wP r3.R.wO r3.R.wL r3.R.wV r3.R.wc r3.R.wS r3.R.wW r3.F.wB r3.F.wd r3.F.wg r3.b r3.n r3.k r3.v r3.l (r3.r++[(rootF r3.F)]) (r3.p++v8)))))<|by
 rintro p1 Ac Aa Ae Ab Am Ao Ag Aj Ah Ai Ak Ad Af Al w1 w3 w4 w5k w5v h R hR;obtain⟨⟨c,hc,hp⟩,hb⟩:=h;have hB:=blkS_BI hp qqo hb;have hml:=blkS_ml (PS.mk (wE.mk Ac Aa Ae Ab Am Ao Ag Aj Ah) (wG.mk Ai Ak Ad) Af Al w1 w3 w4 w5k w5v) p1;have hQ:=kiz hB hp.v;have hpl:w4.length<=c:=hp.p;have hrl:w3.length=w4.length+1:=hp.rl;unfold applyS at hR;generalize hx:blkS (PS.mk (wE.mk Ac Aa Ae Ab Am Ao Ag Aj Ah) (wG.mk Ai Ak Ad) Af Al w1 w3 w4 w5k w5v) [] p1=x at hB hml hQ hR;simp only at hR;have ei:i64.wrap ((w4.length:Int)+1)=(w4.length:Int)+1:=ko _ qqo qqo;rw[ei];refine⟨fun e=> ?_,fun e=>⟨fun e2=> ?_,fun e2=>⟨(by first|exact rfl|exact qn),rfl,rfl,rfl,⟨⟨c,hc,hp⟩,hb,rfl⟩,fun e3=> ?_,fun e3=> ?_⟩⟩⟩
 ·have e:p1.wM≠(w4.length:Int)+1:=by simpa using e
  rw[qi e]at hR;subst hR;exact(by repeat' first|apply qq|exact rfl|exact qn)
 ·have e:¬p1.wM≠(w4.length:Int)+1:=by simpa using e
  rw[qf e,qi (qb e2)]at hR;subst hR;exact(by repeat' first|apply qq|exact rfl|exact qn)
 ·have e:¬p1.wM≠(w4.length:Int)+1:=by simpa using e
  have e3:x.e≠0:=by simpa using e3
  rw[qf e,qf (qc e2),qi e3]at hR;subst hR;obtain⟨y,hy⟩:=hB.l;have hy:x.s.l=w1++y:=hy;have hR2:x.s.R=wE.mk Ac Aa Ae Ab Am Ao Ag Aj Ah:=hB.R;have hk2:(remS x.m x.s.k).2=w5k:=congrArg PS.k hQ;have hv2:trs (remS x.m x.s.k).2=w5v:=congrArg PS.v hQ;have hl2:x.s.l.take w1.length=w1:=by rw[hy];exact List.take_left
  have hr2:x.s.r=w3:=hB.r;have hp2:x.s.p=w4:=hB.p;refine⟨rfl,rfl,rfl,⟨hB.v,?_,?_,?_⟩,?_⟩
  ·show x.m.length<=1000000;omega
  ·show(0:Int)<=(w1.length:Int);omega
  ·show(w1.length:Int)<=(x.s.l.length:Int);rw[hy,qj];omega
  ·simp only[qt];rw[hR2,hk2,hl2,hr2,hp2];rw[hk2]at hv2;refine⟨(by first|exact rfl|exact qn),?_,?_⟩
   ·rw[hy,qj];omega
   ·rw[hv2];exact(by repeat' first|apply qq|exact rfl|exact qn)
 ·have e:¬p1.wM≠(w4.length:Int)+1:=by simpa using e
  have e3:x.e=0:=by simpa using e3
  rw[qf e,qf (qc e2),qf (fun hh=>hh e3)]at hR;subst hR;have hr2:x.s.r=w3:=hB.r;have hp2:x.s.p=w4:=hB.p;have hR2:x.s.R=wE.mk Ac Aa Ae Ab Am Ao Ag Aj Ah:=hB.R;have hfv:FV x.s.F:=by rw[hB.F];exact frF_FV (by rw[hR2];exact hp.d1) (by rw[hR2];exact hp.d2) hB.ll hB.lb
  rw[hr2,hp2];refine⟨rfl,rfl,?_,?_,hfv,rfl,rfl,?_,?_,(by repeat' first|apply qq|exact rfl|exact qn)⟩
  ·simp only[qu,qao];omega
  ·simp only[qu,qao];unfold maxLen;omega
  ·simp only[qu,qao];omega
  ·simp only[qu,qao];unfold maxLen;omega
noncomputable def keu:Con TB.den:= .b ⟨94,[.one (.ptr 0 0)],yM,(.one (.one (.d (.bool)))),yL,false⟩ yS [.bool,yqi,yqi,yqi,yqi,yqi,yqu,yqi,yqi,yqu,yqi,yqi,.sl yqu,.sl (.st 9),yqu,.sl yqu,.sl (.bool),.sl yqu,.sl yqu,.sl (.st 10)] fun(Ac Aa Ae Ab Am Ao Ag Aj Ah Ai Ak:Int) (Ad:Li) (Af:List wA) (Al:Int) (w1 w3:Li) (w4:List wJ) (w5k:Li) (w5v:Lo)=>(UOk (PS.mk (wE.mk Ac Aa Ae Ab Am Ao Ag Aj Ah) (wG.mk Ai Ak Ad) Af Al w1 w3 w4 w5k w5v),undoS (PS.mk (wE.mk Ac Aa Ae Ab Am Ao Ag Aj Ah) (wG.mk Ai Ak Ad) Af Al w1 w3 w4 w5k w5v),fun R=>(((decide (w4≠[])):Bool),R.R.wb,R.R.wB,R.R.wP,R.R.wO,R.R.wL,R.R.wV,R.R.wc,R.R.wS,R.R.wW,R.F.wB,R.F.wd,R.F.wg,R.b,R.n,R.k,R.v,R.l,R.r,R.p,()))
theorem kgp:keu.Ok Tryz.prog TB:=pbv Bs Tryz.func94 (.r 1 (.nd [] (.r 0 (.nd [] (.r 0 (.rt [.trimc 0 12,.trimc 0 16,.trimc 0 17])) [] .no)) [] (.r 4 (.rt [.trimc 0 12,.trimc 0 16,.trimc 0 17])))) (k4k.c c0) (Q:=∀(Ac Aa Ae Ab Am Ao Ag Aj Ah Ai Ak:Int) (Ad:Li) (Af:List wA) (Al:Int) (w1 w3:Li) (w4:List wJ) (w5k:Li) (w5v:Lo),(UOk (PS.mk (wE.mk Ac Aa Ae Ab Am Ao Ag Aj Ah) (wG.mk Ai Ak Ad) Af Al w1 w3 w4 w5k w5v))->∀R,undoS (PS.mk (wE.mk Ac Aa Ae Ab Am Ao Ag Aj Ah) (wG.mk Ai Ak Ad) Af Al w1 w3 w4 w5k w5v)=R-> 
(((w4.length:Int)==0)=true->
 lz w1/\lz w3/\lz w4/\lz w4/\lz w3/\lz w1/\false=(decide (w4≠[]))/\Ac=R.R.wb/\Aa=R.R.wB/\Ae=R.R.wP/\Ab=R.R.wO/\Am=R.R.wL/\Ao=R.R.wV/\Ag=R.R.wc/\Aj=R.R.wS/\Ah=R.R.wW/\Ai=R.F.wB/\Ak=R.F.wd/\Ad=R.F.wg/\Af=R.b/\Al=R.n/\w5k=R.k/\w5v=R.v/\w1=R.l/\w3=R.r/\w4=R.p)/\
(((w4.length:Int)==0)=false->
(0<=i64.wrap ((w4.length:Int)-1)/\i64.wrap ((w4.length:Int)-1)<(w4.length:Int))/\(0<=i64.wrap ((w4.length:Int)-1)/\i64.wrap ((w4.length:Int)-1)<(w4.length:Int))/\lz w4/\lz w3/\lz w1/\(w5v=trs w5k/\(ix w4 (i64.wrap ((w4.length:Int)-1))).marks.length<=1000000/\0<=(ix w4 (i64.wrap ((w4.length:Int)-1))).leaves/\(ix w4 (i64.wrap ((w4.length:Int)-1))).leaves<=(w1.length:Int))/\let r1:=ix w4 (i64.wrap ((w4.length:Int)-1))
 let r2:Int:=((ix w4 (i64.wrap ((w4.length:Int)-1))).leaves.toNat:Int)
 let r3:Li:=((remS (ix w4 (i64.wrap ((w4.length:Int)-1))).marks w5k).2)
 let r4:Lo:=(trs (remS (ix w4 (i64.wrap ((w4.length:Int)-1))).marks w5k).2)
(0<=i64.wrap ((w4.length:Int)-1)/\i64.wrap ((w4.length:Int)-1)<(w4.length:Int))/\(0<=i64.wrap ((w4.length:Int)-1)/\i64.wrap ((w4.length:Int)-1)<(w4.length:Int))/\(0<=i64.wrap ((w4.length:Int)-1))/\i64.wrap ((w4.length:Int)-1)<=(w4.length:Int)/\(0<=i64.wrap ((w3.length:Int)-1))/\i64.wrap ((w3.length:Int)-1)<=(w3.length:Int)/\(0:Int).toNat=0/\r2.toNat<=w1.length/\0=0/\(i64.wrap ((w3.length:Int)-1)).toNat<=w3.length/\0=0/\(i64.wrap ((w4.length:Int)-1)).toNat<=(w4.set (i64.wrap ((w4.length:Int)-1)).toNat (wJ.mk 0 0 ([]:Li) 0 ([]:Li) ([]:List wA) 0)).length/\lz ((w4.set (i64.wrap ((w4.length:Int)-1)).toNat (wJ.mk 0 0 ([]:Li) 0 ([]:Li) ([]:List wA) 0)).take ((i64.wrap ((w4.length:Int)-1)).toNat))/\lz (w3.take ((i64.wrap ((w3.length:Int)-1)).toNat))/\lz (w1.take r2.toNat)/\true=(decide (w4≠[]))/\Ac=R.R.wb/\Aa=R.R.wB/\Ae=R.R.wP/\Ab=R.R.wO/\Am=R.R.wL/\Ao=R.R.wV/\Ag=R.R.wc/\Aj=R.R.wS/\Ah=R.R.wW/\r1.wBD=R.F.wB/\r1.wBE=R.F.wd/\r1.wBG=R.F.wg/\r1.wAq=R.b/\r1.hidden=R.n/\r3=R.k/\r4=R.v/\w1.take r2.toNat=R.l/\w3.take ((i64.wrap ((w3.length:Int)-1)).toNat)=R.r/\(w4.set (i64.wrap ((w4.length:Int)-1)).toNat (wJ.mk 0 0 ([]:Li) 0 ([]:Li) ([]:List wA) 0)).take ((i64.wrap ((w4.length:Int)-1)).toNat)=R.p))<|by
 rintro Ac Aa Ae Ab Am Ao Ag Aj Ah Ai Ak Ad Af Al w1 w3 w4 w5k w5v h R hR;have hv:w5v=trs w5k:=h.v;have hr1:1<=w3.length:=h.r;have hr2:w3.length<=1000000:=h.rl;have hpl:w4.length<=1000000:=h.pl;have hq:w4≠[]->(ix w4 ((w4.length:Int)-1)).marks.length<=1000000/\0<=(ix w4 ((w4.length:Int)-1)).leaves/\(ix w4 ((w4.length:Int)-1)).leaves<=(w1.length:Int):=h.q;unfold undoS at hR;simp only at hR;refine⟨fun e=> ?_,fun e=> ?_⟩
 ·have e:w4=[]:=by simpa using e
  rw[qi e]at hR;subst hR;rw[qbw (fun hh=>hh e)];exact(by repeat' first|apply qq|exact rfl|exact qn)
 ·have e:¬w4=[]:=by simpa using e
  have hne:1<=w4.length:=qcw.2 e;rw[qf e]at hR;obtain⟨q1,q2,q3⟩:=hq e;have e1:i64.wrap ((w4.length:Int)-1)=((w4.length-1:Nat):Int):=by rw[ko _ qqo qqo];omega
  have e2:i64.wrap ((w3.length:Int)-1)=((w3.length-1:Nat):Int):=by rw[ko _ qqo qqo];omega
  have e3:((w4.length:Int)-1)=((w4.length-1:Nat):Int):=by omega
  rw[e3]at q1 q2 q3 hR;unfold resS at hR;subst hR;rw[e1,e2,qbr e];simp only[qt];rw[take_set'];refine⟨⟨by omega,by omega⟩,⟨by omega,by omega⟩,(by first|exact rfl|exact qn),(by first|exact rfl|exact qn),(by first|exact rfl|exact qn),⟨hv,q1,q2,q3⟩,⟨by omega,by omega⟩,⟨by omega,by omega⟩,by omega,by omega,by omega,by omega,(by first|exact rfl|exact qn),by omega,(by first|exact rfl|exact qn),by omega,(by first|exact rfl|exact qn),?_,(by repeat' first|apply qq|exact rfl|exact qn)⟩;rw[qdc];omega
noncomputable def kf1:Con TB.den:= .b ⟨48,[.one (.ptr 0 0),.one (zql),.one (zql)],yB,(.tup []),yA,false⟩ (.sl yqu:: .sl yqu:: .int .i64:: .int .i64:: .int .i64:: .int .i64:: .int .i64:: .int .u64:: .int .i64:: .int .i64:: .int .u64:: .sl yqu:: .int .u64:: .int .i64:: .bool::yH) (.int .i64:: .int .i64:: .int .i64:: .int .i64:: .int .i64:: .int .u64:: .int .i64:: .int .i64:: .int .u64:: .sl yqu:: .int .u64:: .int .i64:: .bool::yI) fun(p1 p2:Li) (Aa Ae Ab Am Ao Ag Aj Ah Ai:Int) (Ad:Li) (Ap Af:Int) (At:Bool) (Au Av:Int) (As:List wD) (Bb Bc Bd Be Bf Bg Bh Bi Bj Bk Az:Int) (A0:Li) (A7:List wA) (A8:Int) (w2k:Li) (w2v:List wK) (w4k:Lb) (w4v:Li) (w5k:Lb) (w5v:List (Li)) (w6k:Lb) (w6v:Lo) (w7 w9:Li) (w10:List wJ) (w11k:Li) (w11v:Lo)=>(w2k.length=w2v.length/\MvOk w2k w2v (PS.mk (wE.mk Bb Bc Bd Be Bf Bg Bh Bi Bj) (wG.mk Bk Az A0) A7 A8 w7 w9 w10 w11k w11v) p1.length p2,mvS w2k w2v (PS.mk (wE.mk Bb Bc Bd Be Bf Bg Bh Bi Bj) (wG.mk Bk Az A0) A7 A8 w7 w9 w10 w11k w11v) p1.length p2,fun R=>(Aa,Ae,Ab,Am,Ao,Ag,Aj,Ah,Ai,Ad,Ap,Af,At,Au,Av,As,R.R.wb,R.R.wB,R.R.wP,R.R.wO,R.R.wL,R.R.wV,R.R.wc,R.R.wS,R.R.wW,R.F.wB,R.F.wd,R.F.wg,R.b,R.n,w2k,w2v,w4k,w4v,w5k,w5v,w6k,w6v,R.k,R.v,R.l,R.r,R.p,()))
abbrev Fz3 (r:Type):=Int->Int->Int->Int->Int->Int->Int->Int->Int->Int->Int->Int->(Li)->(List wA)->Int->(Li)->(Lo)->(Li)->(Li)->(List wJ)->r
theorem kgy:kf1.Ok Tryz.prog TB:=pbv Bs Tryz.func48 (.nd [] (.nd [.trimc 3 17,.trimc 3 16,.trimc 3 12] .no [] (.lp [] ⟨[11,8,3],yN,[10],[.one (zqi)],[12,13,14]⟩ .no)) [] (.r 0 (.lp [] ⟨[11,8,3],yN,[20],[.one (zqi)],[15,16,17]⟩ .no))) (kgp.c (k3d.c c0)) (Q:=∀(p1 p2:Li) (Aa Ae Ab Am Ao Ag Aj Ah Ai:Int) (Ad:Li) (Ap Af:Int) (At:Bool) (Au Av:Int) (As:List wD) (Bb Bc Bd Be Bf Bg Bh Bi Bj Bk Az:Int) (A0:Li) (A7:List wA) (A8:Int) (w2k:Li) (w2v:List wK) (w4k:Lb) (w4v:Li) (w5k:Lb) (w5v:List (Li)) (w6k:Lb) (w6v:Lo) (w7 w9:Li) (w10:List wJ) (w11k:Li) (w11v:Lo),(w2k.length=w2v.length/\MvOk w2k w2v (PS.mk (wE.mk Bb Bc Bd Be Bf Bg Bh Bi Bj) (wG.mk Bk Az A0) A7 A8 w7 w9 w10 w11k w11v) p1.length p2)->∀R,mvS w2k w2v (PS.mk (wE.mk Bb Bc Bd Be Bf Bg Bh Bi Bj) (wG.mk Bk Az A0) A7 A8 w7 w9 w10 w11k w11v) p1.length p2=R-> 
 lz w10/\lz w9/\lz w7/\lz w10/\lz w9/\lz w7/\∃(I1:Fz3 Prop) (M1:Fz3 Nat),I1 0 Bb Bc Bd Be Bf Bg Bh Bi Bj Bk Az A0 A7 A8 w11k w11v w7 w9 w10/\∀b1 f1 i1 k1 l1 m1 n1 o1 q1 s1 t1 u1 x1 y1 b2 f2 i2 k2 l2 m2,(I1 b1 f1 i1 k1 l1 m1 n1 o1 q1 s1 t1 u1 x1 y1 b2 f2 i2 k2 l2 m2->
(decide (b1<(p1.length:Int))=true->
 lz m2/\lz l2/\lz k2/\(UOk (PS.mk (wE.mk f1 i1 k1 l1 m1 n1 o1 q1 s1) (wG.mk t1 u1 x1) y1 b2 k2 l2 m2 f2 i2))/\let r1:=undoS (PS.mk (wE.mk f1 i1 k1 l1 m1 n1 o1 q1 s1) (wG.mk t1 u1 x1) y1 b2 k2 l2 m2 f2 i2)
 lz r1.p/\lz r1.r/\lz r1.l/\I1 (i64.wrap (b1+1)) r1.R.wb r1.R.wB r1.R.wP r1.R.wO r1.R.wL r1.R.wV r1.R.wc r1.R.wS r1.R.wW r1.F.wB r1.F.wd r1.F.wg r1.b r1.n r1.k r1.v r1.l r1.r r1.p/\M1 (i64.wrap (b1+1)) r1.R.wb r1.R.wB r1.R.wP r1.R.wO r1.R.wL r1.R.wV r1.R.wc r1.R.wS r1.R.wW r1.F.wB r1.F.wd r1.F.wg r1.b r1.n r1.k r1.v r1.l r1.r r1.p<M1 b1 f1 i1 k1 l1 m1 n1 o1 q1 s1 t1 u1 x1 y1 b2 f2 i2 k2 l2 m2)/\
(decide (b1<(p1.length:Int))=false->
 lz m2/\lz l2/\lz k2/\∃(I2:Fz3 Prop) (M2:Fz3 Nat),I2 0 f1 i1 k1 l1 m1 n1 o1 q1 s1 t1 u1 x1 y1 b2 f2 i2 k2 l2 m2/\∀n2 o2 q2 s2 t2 u2 x2 y2 b3 f3 i3 k3 l3 m3 n3 o3 q3 s3 t3 u3,(I2 n2 o2 q2 s2 t2 u2 x2 y2 b3 f3 i3 k3 l3 m3 n3 o3 q3 s3 t3 u3->
(decide (n2<(p2.length:Int))=true->
(0<=n2)/\n2<(p2.length:Int)/\w2k.length=w2v.length/\let v2:wK:=mVal (BEq.beq (ix p2 n2)) w2k w2v (default:wK)
 lz u3/\lz t3/\lz s3/\((∃c:Nat,c+(wH.mk v2.wAZ v2.wAO v2.wAi v2.wAl v2.wAj v2.wAp).Txs.length<=790/\PI (PS.mk (wE.mk o2 q2 s2 t2 u2 x2 y2 b3 f3) (wG.mk i3 k3 l3) m3 n3 s3 t3 u3 o3 q3) c 0)/\BR' (wH.mk v2.wAZ v2.wAO v2.wAi v2.wAl v2.wAj v2.wAp))/\let r3:Int:=((applyS (PS.mk (wE.mk o2 q2 s2 t2 u2 x2 y2 b3 f3) (wG.mk i3 k3 l3) m3 n3 s3 t3 u3 o3 q3) (wH.mk v2.wAZ v2.wAO v2.wAi v2.wAl v2.wAj v2.wAp)).e)
 let r4:=(applyS (PS.mk (wE.mk o2 q2 s2 t2 u2 x2 y2 b3 f3) (wG.mk i3 k3 l3) m3 n3 s3 t3 u3 o3 q3) (wH.mk v2.wAZ v2.wAO v2.wAi v2.wAl v2.wAj v2.wAp)).s
 lz r4.p/\lz r4.r/\lz r4.l/\I2 (i64.wrap (n2+1)) r4.R.wb r4.R.wB r4.R.wP r4.R.wO r4.R.wL r4.R.wV r4.R.wc r4.R.wS r4.R.wW r4.F.wB r4.F.wd r4.F.wg r4.b r4.n r4.k r4.v r4.l r4.r r4.p/\M2 (i64.wrap (n2+1)) r4.R.wb r4.R.wB r4.R.wP r4.R.wO r4.R.wL r4.R.wV r4.R.wc r4.R.wS r4.R.wW r4.F.wB r4.F.wd r4.F.wg r4.b r4.n r4.k r4.v r4.l r4.r r4.p<M2 n2 o2 q2 s2 t2 u2 x2 y2 b3 f3 i3 k3 l3 m3 n3 o3 q3 s3 t3 u3)/\
(decide (n2<(p2.length:Int))=false->
 lz u3/\lz t3/\lz s3/\Aa=Aa/\Ae=Ae/\Ab=Ab/\Am=Am/\Ao=Ao/\Ag=Ag/\Aj=Aj/\Ah=Ah/\Ai=Ai/\Ad=Ad/\Ap=Ap/\Af=Af/\At=At/\Au=Au/\Av=Av/\As=As/\o2=R.R.wb/\q2=R.R.wB/\s2=R.R.wP/\t2=R.R.wO/\u2=R.R.wL/\x2=R.R.wV/\y2=R.R.wc/\b3=R.R.wS/\f3=R.R.wW/\i3=R.F.wB/\k3=R.F.wd/\l3=R.F.wg/\m3=R.b/\n3=R.n/\w2k=w2k/\w2v=w2v/\w4k=w4k/\w4v=w4v/\w5k=w5k/\w5v=w5v/\w6k=w6k/\w6v=w6v/\o3=R.k/\q3=R.v/\s3=R.l/\t3=R.r/\u3=R.p)))))<|by
 rintro p1 p2 Aa Ae Ab Am Ao Ag Aj Ah Ai Ad Ap Af At Au Av As Bb Bc Bd Be Bf Bg Bh Bi Bj Bk Az A0 A7 A8 w2k w2v w4k w4v w5k w5v w6k w6v w7 w9 w10 w11k w11v h R hR;obtain⟨hkv,s0,c,lf,hA⟩:=h;have hR' :(auGo (p2.map (gB w2k w2v)) s0).s=R:=by rw[<-hR];unfold mvS;rw[hA.base]
 have hc:=hA.hc;have hn:=hA.hn;refine⟨rfl,rfl,rfl,rfl,rfl,rfl,(fun b f1 f2 f3 f4 f5 f6 f7 f8 f9 t1 t2 t3 y n k v l r p=>∃i:Nat,b=(i:Int)/\i<=p1.length/\PS.mk (wE.mk f1 f2 f3 f4 f5 f6 f7 f8 f9) (wG.mk t1 t2 t3) y n l r p k v=undoN i (PS.mk (wE.mk Bb Bc Bd Be Bf Bg Bh Bi Bj) (wG.mk Bk Az A0) A7 A8 w7 w9 w10 w11k w11v)),(fun b _ _ _ _ _ _ _ _ _ _ _ _ _ _ _ _ _ _ _=>(p1.length-b).toNat),⟨0,rfl,qax _,rfl⟩,?_⟩;rintro _ f1 f2 f3 f4 f5 f6 f7 f8 f9 t1 t2 t3 y n k v l r p ⟨i,rfl,hi,hS⟩;refine⟨fun e=> ?_,fun e=> ?_⟩
 ·have e:(i:Int)<p1.length:=qb e;refine⟨rfl,rfl,rfl,by rw[hS];exact hA.uok qqo,?_⟩;rw[inc (i:Int) p1.length qqo e qqo];refine⟨rfl,rfl,rfl,⟨i+1,rfl,by omega,?_⟩,by(first|omega|(dsimp only;omega))⟩;rw[k6c,<-hS]
 ·have e:¬(i:Int)<p1.length:=qc e;have hi:i=p1.length:=by omega
  rw[hi,hA.base]at hS;refine⟨rfl,rfl,rfl,(fun b f1 f2 f3 f4 f5 f6 f7 f8 f9 t1 t2 t3 y n k v l r p=>∃j:Nat,b=(j:Int)/\j<=p2.length/\PS.mk (wE.mk f1 f2 f3 f4 f5 f6 f7 f8 f9) (wG.mk t1 t2 t3) y n l r p k v=(auGo ((p2.take j).map (gB w2k w2v)) s0).s),(fun b _ _ _ _ _ _ _ _ _ _ _ _ _ _ _ _ _ _ _=>(p2.length-b).toNat),⟨0,rfl,qax _,hS⟩,?_⟩;rintro _ f1 f2 f3 f4 f5 f6 f7 f8 f9 t1 t2 t3 y n k v l r p ⟨j,rfl,hj,hT⟩;refine⟨fun e=> ?_,fun e=> ?_⟩
  ·have e:(j:Int)<p2.length:=qb e;have hjl:j<p2.length:=by omega
   obtain⟨g1,g2,g3,g4⟩:=hA.fwd hjl;have hx:ix p2 (j:Int)=p2[j]:=ix_get _ _ hjl;rw[hx,inc (j:Int) p2.length qqo e qqo];refine⟨by omega,e,hkv,rfl,rfl,rfl,⟨⟨c+5*j,?_,?_⟩,g2⟩,?_⟩
   ·show c+5*j+(gB w2k w2v p2[j]).Txs.length<=790;omega
   ·rw[hT];exact g1
   ·refine⟨rfl,rfl,rfl,⟨j+1,rfl,by omega,?_⟩,by(first|omega|(dsimp only;omega))⟩;rw[g4,<-hT];rfl
  ·have e:¬(j:Int)<p2.length:=qc e;rw[qw qqo,hR']at hT;subst hT;exact(by repeat' first|apply qq|exact rfl|exact qn)
noncomputable def kbr:Con TB.den:= .g (gk 45 [.one (.ptr 0 0),.agg yI1] yB (.one (.one (zqi)))) (.st 3:: .int .i64:: .int .i64:: .int .i64:: .int .i64:: .int .i64:: .int .u64:: .int .i64:: .int .i64:: .int .u64:: .sl yqu:: .int .u64:: .int .i64:: .bool::yH) (.int .i64:: .int .i64:: .int .i64:: .int .i64:: .int .i64:: .int .i64:: .int .u64:: .int .i64:: .int .i64:: .int .u64:: .sl yqu:: .int .u64:: .int .i64:: .bool::yH) [] fun(p1:wH) (Aa Ae Ab Am Ao Ag Aj Ah Ai:Int) (Ad:Li) (Ap Af:Int) (At:Bool) (Au Av:Int) (As:List wD) (Bb Bc Bd Be Bf Bg Bh Bi Bj Bk Az:Int) (A0:Li) (A7:List wA) (A8:Int) (w2k:Li) (w2v:List wK) (w4k:Lb) (w4v:Li) (w5k:Lb) (w5v:List (Li)) (w6k:Lb) (w6v:Lo) (w7 w9:Li) (w10:List wJ) (w11k:Li) (w11v:Lo)=>(w2k.length=w2v.length,(parS w2k w2v p1:Int),Aa,Ae,Ab,Am,Ao,Ag,Aj,Ah,Ai,Ad,Ap,Af,At,Au,Av,As,Bb,Bc,Bd,Be,Bf,Bg,Bh,Bi,Bj,Bk,Az,A0,A7,A8,w2k,w2v,w4k,w4v,w5k,w5v,w6k,w6v,w7,w9,w10,w11k,w11v,())
theorem kdv:kbr.Ok Tryz.prog TB:=prv Bs Tryz.func45 .no c0 (Q:=∀(p1:wH) (Aa Ae Ab Am Ao Ag Aj Ah Ai:Int) (Ad:Li) (Ap Af:Int) (At:Bool) (Au Av:Int) (As:List wD) (Bb Bc Bd Be Bf Bg Bh Bi Bj Bk Az:Int) (A0:Li) (A7:List wA) (A8:Int) (w2k:Li) (w2v:List wK) (w4k:Lb) (w4v:Li) (w5k:Lb) (w5v:List (Li)) (w6k:Lb) (w6v:Lo) (w7 w9:Li) (w10:List wJ) (w11k:Li) (w11v:Lo),(w2k.length=w2v.length)->∀r0:Int,parS w2k w2v p1=r0->∀Aq:Int,Aa=Aq->∀Aw:Int,Ae=Aw->∀Ax:Int,Ab=Ax->∀B0:Int,Am=B0->∀B1:Int,Ao=B1->∀Bl:Int,Ag=Bl->∀Bm:Int,Aj=Bm->∀Bn:Int,Ah=Bn->∀Bo:Int,Ai=Bo->∀A9:Li,Ad=A9->∀Bz:Int,Ap=Bz->∀Ba:Int,Af=Ba->∀B6:Bool,At=B6->∀B7:Int,Au=B7->∀B8:Int,Av=B8->∀B9:List wD,As=B9->∀Cc:Int,Bb=Cc->∀Cd:Int,Bc=Cd->∀Ce:Int,Bd=Ce->∀Cf:Int,Be=Cf->∀Cg:Int,Bf=Cg->∀Ch:Int,Bg=Ch->∀Ci:Int,Bh=Ci->∀Cj:Int,Bi=Cj->∀Ck:Int,Bj=Ck->∀Cl:Int,Bk=Cl->∀B2:Int,Az=B2->∀B3:Li,A0=B3->∀B4:List wA,A7=B4->∀B5:Int,A8=B5->∀e2k:Li,w2k=e2k->∀e2v:List wK,w2v=e2v->∀e4k:Lb,w4k=e4k->∀e4v:Li,w4v=e4v->∀e5k:Lb,w5k=e5k->∀e5v:List (Li),w5v=e5v->∀e6k:Lb,w6k=e6k->∀e6v:Lo,w6v=e6v->∀e7:Li,w7=e7->∀e9:Li,w9=e9->∀e10:List wJ,w10=e10->∀e11k:Li,w11k=e11k->∀e11v:Lo,w11v=e11v-> 
((p1.wM==1)=true->
((p1.wh !=0)=true->
 lz w10/\lz w9/\lz w7/\18=r0/\Aa=Aq/\Ae=Aw/\Ab=Ax/\Am=B0/\Ao=B1/\Ag=Bl/\Aj=Bm/\Ah=Bn/\Ai=Bo/\Ad=A9/\Ap=Bz/\Af=Ba/\At=B6/\Au=B7/\Av=B8/\As=B9/\Bb=Cc/\Bc=Cd/\Bd=Ce/\Be=Cf/\Bf=Cg/\Bg=Ch/\Bh=Ci/\Bi=Cj/\Bj=Ck/\Bk=Cl/\Az=B2/\A0=B3/\A7=B4/\A8=B5/\w2k=e2k/\w2v=e2v/\w4k=e4k/\w4v=e4v/\w5k=e5k/\w5v=e5v/\w6k=e6k/\w6v=e6v/\w7=e7/\w9=e9/\w10=e10/\w11k=e11k/\w11v=e11v)/\
((p1.wh !=0)=false->
 lz w10/\lz w9/\lz w7/\0=r0/\Aa=Aq/\Ae=Aw/\Ab=Ax/\Am=B0/\Ao=B1/\Ag=Bl/\Aj=Bm/\Ah=Bn/\Ai=Bo/\Ad=A9/\Ap=Bz/\Af=Ba/\At=B6/\Au=B7/\Av=B8/\As=B9/\Bb=Cc/\Bc=Cd/\Bd=Ce/\Be=Cf/\Bf=Cg/\Bg=Ch/\Bh=Ci/\Bi=Cj/\Bj=Ck/\Bk=Cl/\Az=B2/\A0=B3/\A7=B4/\A8=B5/\w2k=e2k/\w2v=e2v/\w4k=e4k/\w4v=e4v/\w5k=e5k/\w5v=e5v/\w6k=e6k/\w6v=e6v/\w7=e7/\w9=e9/\w10=e10/\w11k=e11k/\w11v=e11v))/\
((p1.wM==1)=false->
 w2k.length=w2v.length/\let v1:wK:=mVal (BEq.beq p1.wh) w2k w2v (default:wK)
((!mHas (BEq.beq p1.wh) w2k)=true->
 lz w10/\lz w9/\lz w7/\18=r0/\Aa=Aq/\Ae=Aw/\Ab=Ax/\Am=B0/\Ao=B1/\Ag=Bl/\Aj=Bm/\Ah=Bn/\Ai=Bo/\Ad=A9/\Ap=Bz/\Af=Ba/\At=B6/\Au=B7/\Av=B8/\As=B9/\Bb=Cc/\Bc=Cd/\Bd=Ce/\Be=Cf/\Bf=Cg/\Bg=Ch/\Bh=Ci/\Bi=Cj/\Bj=Ck/\Bk=Cl/\Az=B2/\A0=B3/\A7=B4/\A8=B5/\w2k=e2k/\w2v=e2v/\w4k=e4k/\w4v=e4v/\w5k=e5k/\w5v=e5v/\w6k=e6k/\w6v=e6v/\w7=e7/\w9=e9/\w10=e10/\w11k=e11k/\w11v=e11v)/\
((!mHas (BEq.beq p1.wh) w2k)=false->
 let v2:Bool:=(v1.wAO !=(i64.wrap (p1.wM-1)))
(v2=true->
 lz w10/\lz w9/\lz w7/\18=r0/\Aa=Aq/\Ae=Aw/\Ab=Ax/\Am=B0/\Ao=B1/\Ag=Bl/\Aj=Bm/\Ah=Bn/\Ai=Bo/\Ad=A9/\Ap=Bz/\Af=Ba/\At=B6/\Au=B7/\Av=B8/\As=B9/\Bb=Cc/\Bc=Cd/\Bd=Ce/\Be=Cf/\Bf=Cg/\Bg=Ch/\Bh=Ci/\Bi=Cj/\Bj=Ck/\Bk=Cl/\Az=B2/\A0=B3/\A7=B4/\A8=B5/\w2k=e2k/\w2v=e2v/\w4k=e4k/\w4v=e4v/\w5k=e5k/\w5v=e5v/\w6k=e6k/\w6v=e6v/\w7=e7/\w9=e9/\w10=e10/\w11k=e11k/\w11v=e11v)/\
(v2=false->
 lz w10/\lz w9/\lz w7/\0=r0/\Aa=Aq/\Ae=Aw/\Ab=Ax/\Am=B0/\Ao=B1/\Ag=Bl/\Aj=Bm/\Ah=Bn/\Ai=Bo/\Ad=A9/\Ap=Bz/\Af=Ba/\At=B6/\Au=B7/\Av=B8/\As=B9/\Bb=Cc/\Bc=Cd/\Bd=Ce/\Be=Cf/\Bf=Cg/\Bg=Ch/\Bh=Ci/\Bi=Cj/\Bj=Ck/\Bk=Cl/\Az=B2/\A0=B3/\A7=B4/\A8=B5/\w2k=e2k/\w2v=e2v/\w4k=e4k/\w4v=e4v/\w5k=e5k/\w5v=e5v/\w6k=e6k/\w6v=e6v/\w7=e7/\w9=e9/\w10=e10/\w11k=e11k/\w11v=e11v))))<|by
 rintro p1 Aa Ae Ab Am Ao Ag Aj Ah Ai Ad Ap Af At Au Av As Bb Bc Bd Be Bf Bg Bh Bi Bj Bk Az A0 A7 A8 w2k w2v w4k w4v w5k w5v w6k w6v w7 w9 w10 w11k w11v h;repeat rintro _ rfl
 unfold parS;refine⟨fun e=> ?_,fun e=> ?_⟩
 ·rw[qi (by simpa using e)];refine⟨fun e2=> ?_,fun e2=> ?_⟩
  ·rw[qi (by simpa using e2)];exact(by repeat' first|apply qq|exact rfl|exact qn)
  ·rw[qf (by simpa using e2)];exact(by repeat' first|apply qq|exact rfl|exact qn)
 ·rw[qf (by simpa using e)];refine⟨h,?_⟩;refine⟨fun e2=> ?_,fun e2=>⟨fun e3=> ?_,fun e3=> ?_⟩⟩
  ·rw[qi (.inl (by simpa using e2))];exact(by repeat' first|apply qq|exact rfl|exact qn)
  ·rw[qi (.inr (bne_iff_ne.1 e3))];exact(by repeat' first|apply qq|exact rfl|exact qn)
  ·have e2:mHas (BEq.beq p1.wh) w2k=true:=by simpa using e2
   rw[qf (fun hh=>hh.elim (fun h2=>by rw[e2]at h2;cases h2) (fun h2=>h2 (bne_eq_false_iff_eq.1 e3)))];exact(by repeat' first|apply qq|exact rfl|exact qn)
noncomputable def k5w:Con TB.den:= .g (gk 105 [.one (.own 0),.one (zqu),.one (zqi)] [.tip yqb] (.one (.one (.own 0)))) [yqu,yqi,.sl yqb] [.sl yqb] [] fun(p1 p2:Int) (w0:Li)=>(U64 p1/\(0<=p2/\p2<=8)/\w0.length<=137438953472,(w0++dig p2.toNat p1:Li),())
theorem k1y:k5w.Ok Tryz.prog TB:=prv Bs Tryz.func105 (.r 0 (.nd [] (.r 0 (.lp [] ⟨[0],[.tip yqb],[0,1,8],[.one (.own 0),.one (zqu),.one (zqi)],[]⟩ .no)) [] .no)) c0 (Q:=∀(p1 p2:Int) (w0:Li),(U64 p1/\(0<=p2/\p2<=8)/\w0.length<=137438953472)->∀e0:Li,(w0++dig p2.toNat p1)=e0-> 
(w0=w0)/\∃(I1:Int->Int->(Li)->Prop) (M1:Int->Int->(Li)->Nat),I1 p1 0 w0/\∀b1 f1 i1,(I1 b1 f1 i1->
(decide (f1<p2)=true->
 lz i1/\(i1.length+[IntKind.u8.wrap b1].length)*1<=140737488355328/\i1.length+[IntKind.u8.wrap b1].length<=maxLen/\(i1++[IntKind.u8.wrap b1]=i1++[IntKind.u8.wrap b1])/\I1 (ishr .u64 b1 8) (i64.wrap (f1+1)) (i1++[IntKind.u8.wrap b1])/\M1 (ishr .u64 b1 8) (i64.wrap (f1+1)) (i1++[IntKind.u8.wrap b1])<M1 b1 f1 i1)/\
(decide (f1<p2)=false->
(i1=i1)/\i1=e0)))<|by
 rintro p1 p2 w0 h _ rfl;obtain⟨h1,h2,h3⟩:=h;refine⟨rfl,⟨(fun n i g=>0<=i/\i<=p2/\U64 n/\n=p1/256^i.toNat/\g=w0++dig i.toNat p1),(fun _ i _=>(p2-i).toNat),⟨by omega,by omega,h1,by simp,by simp[dig]⟩,?_⟩⟩;rintro n i g ⟨g0,g1,g2,g3,rfl⟩;refine⟨fun h=> ?_,fun h=> ?_⟩
 ·have h:=qb h;rw[inc i p2 g0 h qqo,ishr8,u8w];refine⟨rfl,?_,?_,rfl,⟨by omega,by omega,⟨by omega,by omega⟩,?_,?_⟩,by(dsimp only;omega)⟩
  ·simp;omega
  ·simp;unfold maxLen;omega
  ·rw[g3,show(i+1).toNat=i.toNat+1 by omega,qec (qea (k2s _)),qdm]
  ·rw[show(i+1).toNat=i.toNat+1 by omega,kb2,qz,g3]
 ·have h:=qc h;exact⟨rfl,by rw[show i=p2 by omega]⟩
noncomputable def k5r:Con TB.den:= .g (gk 103 [.one (.own 0),.one (zqi)] [.tip yqb] (.one (.one (.own 0)))) [yqi,.sl yqb] [.sl yqb] [] fun(p1:Int) (w0:Li)=>((-9223372036854775808<=p1/\p1<=9223372036854775807)/\w0.length<=137438953472,(w0++dig 4 (len4 p1):Li),())
theorem k1s:k5r.Ok Tryz.prog TB:=prv Bs Tryz.func103 (.r 0 (.jn ⟨[],[],[1],[.one (zqi)],[]⟩ [] .no [] .no)) (k1y.c c0) (Q:=∀(p1:Int) (w0:Li),((-9223372036854775808<=p1/\p1<=9223372036854775807)/\w0.length<=137438953472)->∀e0:Li,(w0++dig 4 (len4 p1))=e0-> 
 ∀J1:Int->Prop,(∀(b1:Int),
((w0=w0)/\(U64 (u64.wrap b1)/\(0<=(4:Int)/\(4:Int)<=8)/\w0.length<=137438953472)/\let r1:Li:=(w0++dig (4:Int).toNat (u64.wrap b1))
(r1=r1)/\r1=e0)->J1 b1)->
(decide (p1<0)=true->
 J1 0)/\
(decide (p1<0)=false->
(decide (4294967295<p1)=true->
 J1 0)/\
(decide (4294967295<p1)=false->
 J1 p1)))<|by
 rintro p1 w0 h _ rfl;obtain⟨h1,h2⟩:=h;intro J1 j1;have j:∀n,0<=n->n<=4294967295->len4 p1=n->J1 n:=by intro n h0 h1 e;refine j1 _ ?_;rw[wu n qqo qqo,e];exact⟨rfl,⟨⟨h0,by omega⟩,by omega,h2⟩,by trivial,rfl⟩
 refine⟨fun h=>j 0 qqo qqo ?_,fun h=>⟨fun h' =>j 0 qqo qqo ?_,fun h' =>j p1 ?_ ?_ ?_⟩⟩
 ·have h:=qb h;exact qi (.inl h)
 ·have h' :=qb h';exact qi (.inr h')
 ·have h:=qc h;omega
 ·have h' :=qc h';omega
 ·have h:=qc h;have h' :=qc h';exact len4_in ⟨by omega,by(first|omega|(dsimp only;omega))⟩
noncomputable def kdj:Con TB.den:= .g ⟨104,[.one (.d (.sl yqb)),.one (zqi)],[],(.one (.one (.own 0))),[.tip yqb],false⟩ [.sl yqb,yqi] [.sl yqb] [] fun(p0:Li) (p1:Int)=>(0<=p1/\p0.length+p1<=140737488355328,p0,())
theorem k2b:kdj.Ok Tryz.prog TB:=prv Bs Tryz.func104 (.r 3 (.rt [.frz 0 [4]])) c0 (Q:=∀(p0:Li) (p1:Int),(0<=p1/\p0.length+p1<=140737488355328)->∀e0:Li,p0=e0-> 
 let v1:Int:=i64.wrap ((p0.length:Int)+p1)
 0<=(p0.length:Int)/\(p0.length:Int)<=v1/\(v1.toNat*1<=140737488355328)/\(v1.toNat<=maxLen)/\(p0.length:Int).toNat=(List.replicate ((p0.length:Int).toNat) (0:Int)).length/\let v2:Int:=((min p0.length (List.replicate ((p0.length:Int).toNat) (0:Int)).length:Nat):Int)
((p0.length:Int).toNat=(rowOver (List.replicate ((p0.length:Int).toNat) (0:Int)) p0 (List.replicate ((p0.length:Int).toNat) (0:Int)).length).length)/\(rowOver (List.replicate ((p0.length:Int).toNat) (0:Int)) p0 (List.replicate ((p0.length:Int).toNat) (0:Int)).length=rowOver (List.replicate ((p0.length:Int).toNat) (0:Int)) p0 (List.replicate ((p0.length:Int).toNat) (0:Int)).length)/\rowOver (List.replicate ((p0.length:Int).toNat) (0:Int)) p0 (List.replicate ((p0.length:Int).toNat) (0:Int)).length=e0)<|by rintro p0 p1 h _ rfl;obtain⟨h1,h2⟩:=h;refine ?_;rw[wi _ qqo qqo];have e:rowOver (List.replicate ((p0.length:Int).toNat) (0:Int)) p0 (List.replicate ((p0.length:Int).toNat) (0:Int)).length=p0:=kan _ _ qqs;simp only[e];exact⟨by omega,by omega,by omega,by unfold maxLen;omega,by simp,by omega,by trivial,by trivial⟩
noncomputable def kep:Con TB.den:= .gp 275 [.sl yqb,.sl yqb] [.sl yqb] [] fun(p0 p1:Li)=>(p0.length<=68719476736/\p1.length<=4294967295,(p0++encB p1:Li),())
theorem kgm:kep.Ok Tryz.prog TB:=qrv Bs Tryz.func275 .no (k2b.c (k1s.c c0)) (Q:=∀(p0 p1:Li),(p0.length<=68719476736/\p1.length<=4294967295)->∀r0:Li,(p0++encB p1)=r0-> 
(0<=(i64.wrap (4+(p1.length:Int)))/\p0.length+(i64.wrap (4+(p1.length:Int)))<=140737488355328)/\(p0=p0)/\((-9223372036854775808<=(p1.length:Int)/\(p1.length:Int)<=9223372036854775807)/\p0.length<=137438953472)/\lz (p0++dig 4 (len4 (p1.length:Int)))/\((p0++dig 4 (len4 (p1.length:Int))).length+p1.length)*1<=140737488355328/\(p0++dig 4 (len4 (p1.length:Int))).length+p1.length<=maxLen/\let v1:Li:=(p0++dig 4 (len4 (p1.length:Int)))++p1
 v1=r0)<|by
 rintro p0 p1 h _ rfl;obtain⟨h1,h2⟩:=h;refine ?_;rw[wi (4+(p1.length:Int)) qqo qqo];refine⟨⟨by omega,by omega⟩,by trivial,⟨by omega,by omega⟩,by trivial,?_,?_,?_⟩
 ·simp;omega
 ·simp;unfold maxLen;omega
 ·rw[qz];rfl
noncomputable def kjh:Con TB.den:= .gp 64 [.sl yqb,yqi] [.sl yqb] [] fun(p0:Li) (p1:Int)=>((-9223372036854775808<=p1/\p1<=9223372036854775807)/\p0.length<=137438953472,(p0++dig 4 (len4 p1):Li),())
theorem kap:kjh.Ok Tryz.prog TB:=qrv Bs Tryz.func64 .no (k2b.c (k1s.c c0)) (Q:=∀(p0:Li) (p1:Int),((-9223372036854775808<=p1/\p1<=9223372036854775807)/\p0.length<=137438953472)->∀r0:Li,(p0++dig 4 (len4 p1))=r0-> 
(0<=(4:Int)/\p0.length+(4:Int)<=140737488355328)/\(p0=p0)/\((-9223372036854775808<=p1/\p1<=9223372036854775807)/\p0.length<=137438953472)/\(p0++dig 4 (len4 p1))=r0)<|by rintro p0 p1 h _ rfl;obtain⟨h1,h2⟩:=h;exact⟨⟨by omega,by omega⟩,by trivial,⟨h1,h2⟩,rfl⟩
noncomputable def kh4:Con TB.den:= .gp 65 [.sl yqb,.sl yqu] [.sl yqb] [] fun(p0 p1:Li)=>(Us p1/\p0.length<=68719476736/\p1.length<=4294967295,(p0++encL p1:Li),())
theorem kj3:kh4.Ok Tryz.prog TB:=qrv Bs Tryz.func65 (.r 1 (.nd [] (.r 0 (.lp [] ⟨[0],[.tip yqb],[5,19],[.one (.own 0),.one (zqi)],[]⟩ .no)) [] .no)) (k2b.c (k1s.c (k1y.c c0))) (Q:=∀(p0 p1:Li),(Us p1/\p0.length<=68719476736/\p1.length<=4294967295)->∀r0:Li,(p0++encL p1)=r0-> 
 let v1:Int:=i64.wrap (4+(i64.wrap (8*(p1.length:Int))))
(0<=v1/\p0.length+v1<=140737488355328)/\(p0=p0)/\((-9223372036854775808<=(p1.length:Int)/\(p1.length:Int)<=9223372036854775807)/\p0.length<=137438953472)/\((p0++dig 4 (len4 (p1.length:Int)))=(p0++dig 4 (len4 (p1.length:Int))))/\∃(I1:Int->(Li)->Prop) (M1:Int->(Li)->Nat),I1 0 (p0++dig 4 (len4 (p1.length:Int)))/\∀b1 f1,(I1 b1 f1->
(decide (b1<(p1.length:Int))=true->
(0<=b1)/\b1<(p1.length:Int)/\(f1=f1)/\(U64 (ix p1 b1)/\(0<=(8:Int)/\(8:Int)<=8)/\f1.length<=137438953472)/\((f1++dig (8:Int).toNat (ix p1 b1))=(f1++dig (8:Int).toNat (ix p1 b1)))/\I1 (i64.wrap (b1+1)) (f1++dig (8:Int).toNat (ix p1 b1))/\M1 (i64.wrap (b1+1)) (f1++dig (8:Int).toNat (ix p1 b1))<M1 b1 f1)/\
(decide (b1<(p1.length:Int))=false->
 f1=r0)))<|by
 rintro p0 p1 h _ rfl;obtain⟨h1,h2,h3⟩:=h;refine ?_;rw[wi (8*(p1.length:Int)) qqo qqo,wi (4+8*(p1.length:Int)) qqo qqo];refine⟨⟨by omega,by omega⟩,by trivial,⟨by omega,by omega⟩,by trivial,?_⟩;refine⟨(fun i g=>0<=i/\i<=p1.length/\g=p0++dig 4 (len4 p1.length)++(p1.take i.toNat).flatMap (dig 8)),(fun i _=>(p1.length-i).toNat),⟨by omega,by omega,by simp⟩,?_⟩;rintro i g ⟨g0,g1,rfl⟩;refine⟨fun h=> ?_,fun h=> ?_⟩
 ·have h:=qb h;have hx:=h1 _ (ix_mem p1 i g0 h);rw[inc i p1.length g0 h qqo];refine⟨g0,h,by trivial,⟨hx,by omega,?_⟩,by trivial,⟨by omega,by omega,?_⟩,by(dsimp only;omega)⟩
  ·simp only[qj,kr,k2u,qab];omega
  ·rw[ke p1 i g0 h,qbu,qz];simp
 ·have h:=qc h;rw[qw qqo,qz];rfl
noncomputable def kgv:Con TB.den:= .gp 67 [.sl yqb,yqu] [.sl yqb] [] fun(p0:Li) (p1:Int)=>(U64 p1/\p0.length<=137438953472,(p0++dig 8 p1:Li),())
theorem k4h:kgv.Ok Tryz.prog TB:=qrv Bs Tryz.func67 .no (k2b.c (k1y.c c0)) (Q:=∀(p0:Li) (p1:Int),(U64 p1/\p0.length<=137438953472)->∀r0:Li,(p0++dig 8 p1)=r0-> 
(0<=(8:Int)/\p0.length+(8:Int)<=140737488355328)/\(p0=p0)/\(U64 p1/\(0<=(8:Int)/\(8:Int)<=8)/\p0.length<=137438953472)/\(p0++dig (8:Int).toNat p1)=r0)<|by rintro p0 p1 h _ rfl;obtain⟨h1,h2⟩:=h;refine⟨⟨by omega,by omega⟩,by trivial,⟨h1,by omega,h2⟩,rfl⟩
noncomputable def kh7:Con TB.den:= .gp 201 [.st 2,.sl yqb] [.sl yqb] [] fun(p0:wZ) (p1:Li)=>(TR p0/\TL p0/\p0.wC.length<=1048576/\(∀x∈p0.wC,x.wy.length<=1024)/\p1.length<=4294967295,(encT p0 p1:Li),())
theorem k9k:kh7.Ok Tryz.prog TB:=qrv Bs Tryz.func201 (.r 3 (.nd [] (.r 0 (.lp [] ⟨[],[],[5,23],[.one (.d (.sl yqb)),.one (zqi)],[]⟩ .no)) [] .no)) (k4h.c (kj3.c (kap.c (kgm.c c0)))) (Q:=∀(p0:wZ) (p1:Li),(TR p0/\TL p0/\p0.wC.length<=1048576/\(∀x∈p0.wC,x.wy.length<=1024)/\p1.length<=4294967295)->∀r0:Li,encT p0 p1=r0-> 
(U64 p0.we/\([]:Li).length<=137438953472)/\(Us p0.wI/\(([]:Li)++dig 8 p0.we).length<=68719476736/\p0.wI.length<=4294967295)/\let r1:Li:=((([]:Li)++dig 8 p0.we)++encL p0.wI)
((-9223372036854775808<=(p0.wC.length:Int)/\(p0.wC.length:Int)<=9223372036854775807)/\r1.length<=137438953472)/\let r2:Li:=(r1++dig 4 (len4 (p0.wC.length:Int)))
 ∃(I1:(Li)->Int->Prop) (M1:(Li)->Int->Nat),I1 r2 0/\∀b1 f1,(I1 b1 f1->
(decide (f1<(p0.wC.length:Int))=true->
(0<=f1)/\f1<(p0.wC.length:Int)/\(U64 ((ix p0.wC f1).wl)/\b1.length<=137438953472)/\(U64 ((ix p0.wC f1).wAP)/\(b1++dig 8 ((ix p0.wC f1).wl)).length<=137438953472)/\let r3:Li:=((b1++dig 8 ((ix p0.wC f1).wl))++dig 8 ((ix p0.wC f1).wAP))
(U64 ((ix p0.wC f1).wAK)/\r3.length<=137438953472)/\(Us ((ix p0.wC f1).wy)/\(r3++dig 8 ((ix p0.wC f1).wAK)).length<=68719476736/\((ix p0.wC f1).wy).length<=4294967295)/\let r4:Li:=((r3++dig 8 ((ix p0.wC f1).wAK))++encL ((ix p0.wC f1).wy))
 I1 r4 (i64.wrap (f1+1))/\M1 r4 (i64.wrap (f1+1))<M1 b1 f1)/\
(decide (f1<(p0.wC.length:Int))=false->
(U64 p0.wQ/\b1.length<=137438953472)/\(U64 p0.wT/\(b1++dig 8 p0.wQ).length<=137438953472)/\let r5:Li:=((b1++dig 8 p0.wQ)++dig 8 p0.wT)
(U64 p0.Fee/\r5.length<=137438953472)/\(U64 p0.wX/\(r5++dig 8 p0.Fee).length<=137438953472)/\let r6:Li:=((r5++dig 8 p0.Fee)++dig 8 p0.wX)
(U64 p0.wY/\r6.length<=137438953472)/\((-9223372036854775808<=p0.wAL/\p0.wAL<=9223372036854775807)/\(r6++dig 8 p0.wY).length<=137438953472)/\let r7:Li:=((r6++dig 8 p0.wY)++dig 4 (len4 p0.wAL))
(r7.length<=68719476736/\p1.length<=4294967295)/\(r7++encB p1)=r0)))<|by
 rintro p0 p1 h _ rfl;obtain⟨hr,hl,ho,hc,hp⟩:=h;have hm:=hl.m;have hol:=k2x;refine⟨⟨hr.a,by simp⟩,⟨hr.m,by simp,hm⟩,⟨by omega,by simp;omega⟩,?_⟩;refine⟨(fun b i=>0<=i/\i<=p0.wC.length/\b=dig 8 p0.we++encL p0.wI++dig 4 (len4 p0.wC.length)++(p0.wC.take i.toNat).flatMap encO),(fun _ i=>(p0.wC.length-i).toNat),⟨by omega,by omega,by simp⟩,?_⟩;rintro b i ⟨g0,g1,rfl⟩;have hb:=k2x (p0.wC.take i.toNat) 1024 (fun x hx=>hc x (qbh hx));rw[qab]at hb
 have hb:((p0.wC.take i.toNat).flatMap encO).length<=8700000000:=by
  refine qbf hb ?_;have:min i.toNat p0.wC.length<=1048576:=by omega
  have:=Nat.mul_le_mul_left (28+8*1024) this;omega
 refine⟨fun h=> ?_,fun h=> ?_⟩
 ·have h:=qb h;have hx:=hr.o _ (ix_mem p0.wC i g0 h);have hxc:=hc _ (ix_mem p0.wC i g0 h);rw[inc i p0.wC.length g0 h qqo];refine⟨g0,h,⟨hx.c,?_⟩,⟨hx.p0,?_⟩,⟨hx.p1,?_⟩,⟨hx.ci,?_,by omega⟩,⟨by omega,by omega,?_⟩,by(dsimp only;omega)⟩
  ·simp only[qj,kr,k20];omega
  ·simp only[qj,kr,k20];omega
  ·simp only[qj,kr,k20];omega
  ·simp only[qj,kr,k20];omega
  ·rw[ke p0.wC i g0 h,qbu];simp[encO,qz]
 ·have h:=qc h;rw[qw qqo]at hb ⊢;refine⟨⟨hr.d,?_⟩,⟨hr.w,?_⟩,⟨hr.f,?_⟩,⟨hr.ac,?_⟩,⟨hr.n,?_⟩,⟨hr.e,?_⟩,⟨?_,hp⟩,rfl⟩<;>simp only[qj,kr,k20]<;>omega
noncomputable def kh2:Con TB.den:= .gp 183 [.st 2] [.sl yqb,yqi] [] fun(p0:wZ)=>(TR p0,((if validE p0=0 then encT p0 p0.wo else []):Li),(validE p0:Int),())
theorem k9g:kh2.Ok Tryz.prog TB:=qrv Bs Tryz.func183 .no (k1m.c (k9k.c c0)) (Q:=∀(p0:wZ),(TR p0)->∀r0:Li,((if validE p0=0 then encT p0 p0.wo else []):Li)=r0->∀r1:Int,validE p0=r1-> 
(((validE p0) !=0)=true->
([]:Li)=r0/\(validE p0)=r1)/\
(((validE p0) !=0)=false->
(TR p0/\TL p0/\p0.wC.length<=1048576/\(∀x∈p0.wC,x.wy.length<=1024)/\p0.wo.length<=4294967295)/\(encT p0 p0.wo)=r0/\0=r1))<|by
 rintro p0 h _ rfl _ rfl;refine⟨fun e=> ?_,fun e=> ?_⟩
 ·have e:validE p0≠0:=by simpa using e
  rw[qf e];exact⟨rfl,rfl⟩
 ·have e:validE p0=0:=by simpa using e
  have v:=(k12 p0).1 e;rw[qi e,e];exact⟨⟨h,v.tl,by have:=v.ol;omega,fun x hx=>by have:=(v.o x hx).l;omega,v.tl.p⟩,rfl,rfl⟩
noncomputable def kh6:Con TB.den:= .gp 129 [.st 2] [yqi] [] fun(p0:wZ)=>(TR p0,(weightS p0:Int),())
theorem khl:kh6.Ok Tryz.prog TB:=qrv Bs Tryz.func129 .no (k9g.c c0) (Q:=∀(p0:wZ),(TR p0)->∀r0:Int,weightS p0=r0-> 
(TR p0)/\let r1:Li:=(if validE p0=0 then encT p0 p0.wo else [])
(((validE p0) !=0)=true->
 0=r0)/\
(((validE p0) !=0)=false->
(r1.length:Int)=r0))<|by
 rintro p0 h _ rfl;refine⟨h,?_⟩;unfold weightS;refine⟨fun e=> ?_,fun e=> ?_⟩
 ·have e:validE p0≠0:=by simpa using e
  rw[qf e]
 ·have e:validE p0=0:=by simpa using e
  rw[qi e,qi e]
noncomputable def kdg:Con TB.den:= .gp 88 [.st 3] [yqi] [] fun(p0:wH)=>(∀x∈p0.Txs,TR x,(validB p0:Int),())
theorem k60:kdg.Ok Tryz.prog TB:=qrv Bs Tryz.func88 (.r 0 (.jn ⟨[],[],[],[],[]⟩ [] (.nd [] (.jn ⟨[],[],[6],[.one (.d (.bool))],[]⟩ [] .no [] (.r 0 (.jn ⟨[],[],[6],[.one (.d (.bool))],[]⟩ [] .no [] (.r 0 (.jn ⟨[],[],[6],[.one (.d (.bool))],[]⟩ [] .no [] .no))))) [] .no) [] (.r 0 (.nd [] (.r 0 (.lp [] ⟨[],[],[3,38],[.one (zqi),.one (zqi)],[]⟩ .no)) [] .no)))) (k1m.c (khl.c c0)) (Q:=∀(p0:wH),(∀x∈p0.Txs,TR x)->∀r0:Int,validB p0=r0-> 
 ∀J1:Prop,((∃(I1:Int->Int->Prop) (M1:Int->Int->Nat),I1 0 0/\∀k1 l1,(I1 k1 l1->
(decide (l1<(p0.Txs.length:Int))=true->
(0<=l1)/\l1<(p0.Txs.length:Int)/\(((validE (ix p0.Txs l1)) !=0)=true->
 1=r0)/\
(((validE (ix p0.Txs l1)) !=0)=false->
(TR (ix p0.Txs l1))/\let v2:Int:=i64.wrap (k1+(weightS (ix p0.Txs l1)))
 I1 v2 (i64.wrap (l1+1))/\M1 v2 (i64.wrap (l1+1))<M1 k1 l1))/\
(decide (l1<(p0.Txs.length:Int))=false->
(decide (2097152<k1)=true->
 3=r0)/\
(decide (2097152<k1)=false->
 0=r0))))->J1)->
 ∀J2:Bool->Prop,(∀(b1:Bool),
((b1=true->
(b1=true->
 1=r0)/\
(b1=false->
 J1))/\
(b1=false->
 ∀J3:Bool->Prop,(∀(f1:Bool),
((f1=true->
(f1=true->
 1=r0)/\
(f1=false->
 J1))/\
(f1=false->
 ∀J4:Bool->Prop,(∀(i1:Bool),
((i1=true->
(i1=true->
 1=r0)/\
(i1=false->
 J1))/\
(i1=false->
(decide (64<(p0.Txs.length:Int))=true->
 1=r0)/\
(decide (64<(p0.Txs.length:Int))=false->
 J1)))->J4 i1)->
 let v1:Bool:=decide (18446744069414584321<=p0.wh)
(v1=true->
 J4 true)/\
(v1=false->
 J4 (decide (18446744069414584321<=p0.wAT)))))->J3 f1)->
(decide (p0.wW<1)=true->
 J3 true)/\
(decide (p0.wW<1)=false->
 J3 (decide (65536<p0.wW)))))->J2 b1)->
(decide (p0.wM<1)=true->
 J2 true)/\
(decide (p0.wM<1)=false->
 J2 (decide (1048576<p0.wM))))<|by
 rintro p0 h _ rfl;have nv:¬VB0 p0->(1:Int)=validB p0:=fun hn=>(kkh hn).symm;intro J1 k1
 have j1:VB0 p0->J1:=fun hc=>k1 (by
  have hl:=hc.l;refine⟨(fun w i=>0<=i/\i<=p0.Txs.length/\w=sumW (p0.Txs.take i.toNat)/\∀t∈p0.Txs.take i.toNat,validE t=0),(fun _ i=>(p0.Txs.length-i).toNat),⟨by omega,by omega,by simp[sumW],by simp⟩,?_⟩;rintro w i ⟨g0,g1,rfl,g3⟩;have hb:=sumW_bd _ g3;rw[qab]at hb;refine⟨fun hh=> ?_,fun hh=> ?_⟩
  ·have hh:=qb hh;have hm:=ix_mem p0.Txs i g0 hh;refine⟨g0,hh,fun e=> ?_,fun e=>⟨h _ hm,?_⟩⟩
   ·have e:validE (ix p0.Txs i)≠0:=by simpa using e
    exact(kmm hm e).symm
   ·have e:validE (ix p0.Txs i)=0:=by simpa using e
    have hw:=kd7 e
    try simp only[]
    rw[inc i p0.Txs.length g0 hh qqo,wi (sumW (p0.Txs.take i.toNat)+weightS (ix p0.Txs i)) qqo qqo];refine⟨⟨by omega,by omega,?_,?_⟩,by(first|omega|(dsimp only;omega))⟩
    ·rw[ke p0.Txs i g0 hh,kow]
    ·rw[ke p0.Txs i g0 hh];intro t ht;rcases qae.1 ht with ht|ht
     ·exact g3 t ht
     ·rw[qag.1 ht];exact e
  ·have hh:=qc hh;rw[qw qqo]at g3 hb ⊢;rw[km9 hc g3];refine⟨fun e=> ?_,fun e=> ?_⟩
   ·have e:=qb e;rw[qf qqo]
   ·have e:=qc e;rw[qi qqo])
 intro J2 k2
 have j2:∀b:Bool,(b=true->¬VB0 p0)->(b=false->1<=p0.wM/\p0.wM<=1048576)->J2 b:=fun b h1 h2=>k2 b ⟨fun e=>⟨fun _=>nv (h1 e),fun e2=>by rw[e]at e2;cases e2⟩,fun e=>by
  intro J3 k3
  have j3:∀b:Bool,(b=true->¬VB0 p0)->(b=false->1<=p0.wW/\p0.wW<=65536)->J3 b:=fun b h3 h4=>k3 b ⟨fun e=>⟨fun _=>nv (h3 e),fun e2=>by rw[e]at e2;cases e2⟩,fun e3=>by
   intro J4 k4;have j4:∀b:Bool,(b=true->¬VB0 p0)->(b=false->p0.wh<18446744069414584321/\p0.wAT<18446744069414584321)->J4 b:=fun b h5 h6=>k4 b ⟨fun e=>⟨fun _=>nv (h5 e),fun e2=>by rw[e]at e2;cases e2⟩,fun e5=>⟨fun e6=>nv fun v=>by have:=qb e6;have:=v.l;omega,fun e6=>j1 ⟨(h2 e).1,(h2 e).2,(h4 e3).1,(h4 e3).2,(h6 e5).1,(h6 e5).2,by have:=qc e6;omega⟩⟩⟩;exact⟨fun e6=>j4 true (fun _ v=>by have:=qb e6;have:=v.p;omega) (fun h=>by cases h),fun e6=>j4 _ (fun e7 v=>by have:=qb e7;have:=v.m;omega) (fun e7=>⟨by have:=qc e6;omega,by have:=qc e7;omega⟩)⟩⟩
  exact⟨fun e6=>j3 true (fun _ v=>by have:=qb e6;have:=v.w0;omega) (fun h=>by cases h),fun e6=>j3 _ (fun e7 v=>by have:=qb e7;have:=v.w1;omega) (fun e7=>⟨by have:=qc e6;omega,by have:=qc e7;omega⟩)⟩⟩
 exact⟨fun e6=>j2 true (fun _ v=>by have:=qb e6;have:=v.h0;omega) (fun h=>by cases h),fun e6=>j2 _ (fun e7 v=>by have:=qb e7;have:=v.h1;omega) (fun e7=>⟨by have:=qc e6;omega,by have:=qc e7;omega⟩)⟩
noncomputable def kbd:Con TB.den:= .gp 130 [.st 3] [.sl yqb] [] fun(p0:wH)=>(BR p0/\p0.Txs.length<=64,(hdrS p0:Li),())
theorem kd9:kbd.Ok Tryz.prog TB:=qrv Bs Tryz.func130 .no (k4h.c (kap.c c0)) (Q:=∀(p0:wH),(BR p0/\p0.Txs.length<=64)->∀r0:Li,hdrS p0=r0-> 
(U64 p0.wh/\([]:Li).length<=137438953472)/\((-9223372036854775808<=p0.wM/\p0.wM<=9223372036854775807)/\(([]:Li)++dig 8 p0.wh).length<=137438953472)/\let r1:Li:=((([]:Li)++dig 8 p0.wh)++dig 4 (len4 p0.wM))
(U64 p0.wAT/\r1.length<=137438953472)/\(U64 p0.wW/\(r1++dig 8 p0.wAT).length<=137438953472)/\let r2:Li:=((r1++dig 8 p0.wAT)++dig 8 p0.wW)
(U64 p0.wY/\r2.length<=137438953472)/\((-9223372036854775808<=(p0.Txs.length:Int)/\(p0.Txs.length:Int)<=9223372036854775807)/\(r2++dig 8 p0.wY).length<=137438953472)/\let r3:Li:=((r2++dig 8 p0.wY)++dig 4 (len4 (p0.Txs.length:Int)))
 r3=r0)<|by rintro p0 h _ rfl;obtain⟨hr,hl⟩:=h;refine⟨⟨hr.p,by simp⟩,⟨hr.h,by simp⟩,⟨hr.m,by simp⟩,⟨hr.w,by simp⟩,⟨hr.n,by simp⟩,⟨⟨by omega,by omega⟩,by simp⟩,?_⟩;simp[hdrS]
noncomputable def kcx:Con TB.den:= .gp 184 [.sl yqb] [.sl yqu] [] fun(p0:Li)=>(By p0/\p0.length<=1099511627776,(packS p0:Li),())
theorem kes:kcx.Ok Tryz.prog TB:=qrv Bs Tryz.func184 (.r 2 (.nd [] (.r 0 (.lp [.frz 0 [3]] ⟨[1],[.tip yqu],[3,4],[.one (.own 0),.one (zqi)],[]⟩ (.r 0 (.nd [] (.r 1 (.nd [] (.r 0 (.lp [] ⟨[],[],[6,37],[.one (zqu),.one (zqi)],[]⟩ .no)) [] .no)) [] .no)))) [] .no)) c0 (Q:=∀(p0:Li),(By p0/\p0.length<=1099511627776)->∀r0:Li,packS p0=r0-> 
 let v1:Int:=i64.wrap ((i64.wrap ((p0.length:Int)+7))-1)
 let v2:Int:=i64.wrap (1+(i64.wrap (Int.tdiv v1 7)))
 0<=(1:Int)/\(1:Int)<=v2/\(v2.toNat*8<=140737488355328)/\(v2.toNat<=maxLen)/\(0<=(0:Int)/\0<(1:Int))/\(0<=(0:Int)/\0<((List.replicate 1 (0:Int)).length:Int))/\(1=((List.replicate 1 (0:Int)).set (0:Int).toNat (u64.wrap (p0.length:Int))).length)/\((List.replicate 1 (0:Int)).set (0:Int).toNat (u64.wrap (p0.length:Int))=(List.replicate 1 (0:Int)).set (0:Int).toNat (u64.wrap (p0.length:Int)))/\∃(I1:Int->(Li)->Prop) (M1:Int->(Li)->Nat),I1 0 ((List.replicate 1 (0:Int)).set (0:Int).toNat (u64.wrap (p0.length:Int)))/\∀b1 f1,(I1 b1 f1->
(decide (b1<(p0.length:Int))=true->
 let v3:Int:=(if(p0.length:Int)<i64.wrap (b1+7)then(p0.length:Int)else i64.wrap (b1+7))
(0<=b1)/\b1<=v3/\v3<=(p0.length:Int)/\let v4:Int:=(((p0.take v3.toNat).drop b1.toNat).length:Int)
 ∃(I2:Int->Int->Prop) (M2:Int->Int->Nat),I2 0 0/\∀i1 k1,(I2 i1 k1->
(decide (k1<v4)=true->
(0<=k1)/\k1<(((p0.take v3.toNat).drop b1.toNat).length:Int)/\let v5:Int:=u64.wrap (ix ((p0.take v3.toNat).drop b1.toNat) k1)
(0<=i64.wrap (8*k1))/\let v6:Int:=ior .u64 i1 (ishl .u64 v5 (i64.wrap (8*k1)))
 I2 v6 (i64.wrap (k1+1))/\M2 v6 (i64.wrap (k1+1))<M2 i1 k1)/\
(decide (k1<v4)=false->
 lz f1/\(f1.length+[i1].length)*8<=140737488355328/\f1.length+[i1].length<=maxLen/\(f1++[i1]=f1++[i1])/\I1 (i64.wrap (b1+7)) (f1++[i1])/\M1 (i64.wrap (b1+7)) (f1++[i1])<M1 b1 f1)))/\
(decide (b1<(p0.length:Int))=false->
 f1=r0)))<|by
 rintro p0 h _ rfl;obtain⟨hb,hl⟩:=h;refine ?_;rw[wi ((p0.length:Int)+7) qqo qqo,wi ((p0.length:Int)+7-1) qqo qqo]
 try simp only[]
 rw[tdiv_nn _ _ qqo,wi (((p0.length:Int)+7-1)/7) qqo qqo,wi (1+((p0.length:Int)+7-1)/7) qqo qqo,wu (p0.length:Int) qqo qqo];refine⟨by omega,by omega,by omega,by unfold maxLen;omega,by omega,⟨by omega,by decide⟩,by trivial,by trivial,?_⟩;refine⟨(fun i g=>0<=i/\i<=p0.length+7/\g++packN p0.length (p0.drop i.toNat)=packS p0/\(g.length:Int)<=1+i),(fun i _=>(p0.length+7-i).toNat),⟨by omega,by omega,rfl,by show(1:Int)<=_;omega⟩,?_⟩;rintro i g ⟨g0,g1,g2,g3⟩;refine⟨fun h=> ?_,fun h=> ?_⟩
 ·have h:=qb h;have h7:i64.wrap (i+7)=i+7:=wi (i+7) qqo qqo;rw[h7]
  have ev:((p0.take (if(p0.length:Int)<i+7 then(p0.length:Int)else i+7).toNat).drop i.toNat)=(p0.drop i.toNat).take 7:=by
   split
   ·rw[qt,qcn,qw qqm]
   ·rw[List.drop_take,show(i+7).toNat-i.toNat=7 by omega]
  simp only[ev];refine⟨g0,by split<;>omega,by split<;>omega,?_⟩;have hpb:By ((p0.drop i.toNat).take 7):=(hb.drop _).take _;have hpl:((p0.drop i.toNat).take 7).length<=7:=by simp;omega
  have hnext:g++[val ((p0.drop i.toNat).take 7)]++packN p0.length (p0.drop (i+7).toNat)=packS p0:=by
   rw[<-g2,qz];congr 1;have h5:(p0.drop i.toNat).length<=p0.length:=by simp
   have h6:=kle p0.length (p0.drop i.toNat) h5 (by intro h7;have:=congrArg List.length h7;simp at this;omega);rw[h6,qfa,show i.toNat+7=(i+7).toNat by omega];rfl
  generalize (p0.drop i.toNat).take 7=part at *
  refine⟨(fun n k=>0<=k/\k<=part.length/\n=val (part.take k.toNat)),(fun _ k=>(part.length-k).toNat),⟨by omega,by omega,rfl⟩,?_⟩;rintro n k ⟨k0,k1,rfl⟩;refine⟨fun hk=> ?_,fun hk=> ?_⟩
  ·have hk:=qb hk;have hx:=hpb _ (ix_mem part k k0 hk);have hlen:((part.take k.toNat).length:Int)=k:=by rw[qab];omega
   rw[wi (8*k) qqo qqo,wu (ix part k) qqo qqo,wi (k+1) qqo qqo];have:=ior_val (part.take k.toNat) (ix part k) (hpb.take _) qqo hx;rw[hlen]at this;simp only[this];refine⟨k0,hk,by omega,⟨by omega,by omega,?_⟩,by(first|omega|(dsimp only;omega))⟩;rw[ke part k k0 hk]
  ·have hk:=qc hk;have e1:part.take k.toNat=part:=qw qqo;rw[e1];refine⟨by trivial,by simp only[qu,qao];omega,by simp only[qu,qao];unfold maxLen;omega,by trivial,(?_:0<=i+7/\i+7<=p0.length+7/\_/\_),(?_:(p0.length+7-(i+7)).toNat<(p0.length+7-i).toNat)⟩
   ·exact⟨by omega,by omega,hnext,by simp only[qj,qu,qao];omega⟩
   ·omega
 ·have h:=qc h;rw[qav qqo]at g2;have:packN p0.length ([]:Li)=[]:=by cases p0.length<;>rfl
  rw[this,qcd]at g2;exact g2
noncomputable def k70:Con TB.den:= .gp 131 [yqu,.sl yqb] [yqu] [] fun(p0:Int) (p1:Li)=>(U64 p0/\By p1/\p1.length<=1099511627775,(hashB p0 p1:Int),())
theorem k21:k70.Ok Tryz.prog TB:=qrv Bs Tryz.func131 .no (kes.c (ky.c c0)) (Q:=∀(p0:Int) (p1:Li),(U64 p0/\By p1/\p1.length<=1099511627775)->∀r0:Int,hashB p0 p1=r0-> 
(By p1/\p1.length<=1099511627776)/\((18446744069414584321:Int)=18446744069414584321/\U64 p0/\Us (packS p1)/\(packS p1).length<=1099511627776)/\(hashS p0 (packS p1))=r0)<|by
 rintro p0 p1 h _ rfl;obtain⟨h1,h2,h3⟩:=h;refine⟨⟨h2,by omega⟩,⟨rfl,h1,?_,?_⟩,rfl⟩
 ·intro x hx;rcases qak.1 hx with rfl|hx
  ·omega
  ·exact kij _ _ h2 x hx
 ·have:=k94 p1.length p1;simp only[packS,qu];omega
noncomputable def k7e:Con TB.den:= .gp 89 [.st 3,.sl yqu] [yqu] [] fun(p0:wH) (p1:Li)=>(BR p0/\p0.Txs.length<=64/\Us p1/\p1.length<=64,(hashB 15 (hdrS p0++p1.flatMap (dig 8)):Int),())
theorem k30:k7e.Ok Tryz.prog TB:=qrv Bs Tryz.func89 (.r 1 (.nd [] (.r 0 (.lp [] ⟨[],[],[5,12],[.one (.d (.sl yqb)),.one (zqi)],[]⟩ .no)) [] .no)) (kd9.c (k4h.c (k21.c c0))) (Q:=∀(p0:wH) (p1:Li),(BR p0/\p0.Txs.length<=64/\Us p1/\p1.length<=64)->∀r0:Int,(hashB 15 (hdrS p0++p1.flatMap (dig 8)))=r0-> 
(BR p0/\p0.Txs.length<=64)/\∃(I1:(Li)->Int->Prop) (M1:(Li)->Int->Nat),I1 (hdrS p0) 0/\∀b1 f1,(I1 b1 f1->
(decide (f1<(p1.length:Int))=true->
(0<=f1)/\f1<(p1.length:Int)/\(U64 (ix p1 f1)/\b1.length<=137438953472)/\I1 (b1++dig 8 (ix p1 f1)) (i64.wrap (f1+1))/\M1 (b1++dig 8 (ix p1 f1)) (i64.wrap (f1+1))<M1 b1 f1)/\
(decide (f1<(p1.length:Int))=false->
(U64 (15:Int)/\By b1/\b1.length<=1099511627775)/\(hashB (15:Int) b1)=r0)))<|by
 rintro p0 p1 h _ rfl;obtain⟨hr,hl,hu,hul⟩:=h;refine⟨⟨hr,hl⟩,⟨(fun l i=>0<=i/\i<=p1.length/\l=hdrS p0++(p1.take i.toNat).flatMap (dig 8)),(fun _ i=>(p1.length-i).toNat),⟨by omega,by omega,by simp⟩,?_⟩⟩;rintro l i ⟨g0,g1,rfl⟩;have hle:(hdrS p0++(p1.take i.toNat).flatMap (dig 8)).length<=1000:=by rw[qj,kko,k2u,qab];omega
 refine⟨fun hh=> ?_,fun hh=> ?_⟩
 ·have hh:=qb hh;have hm:=ix_mem p1 i g0 hh;rw[inc i p1.length g0 hh qqo];refine⟨g0,hh,⟨hu _ hm,by omega⟩,⟨by omega,by omega,?_⟩,by(first|omega|(dsimp only;omega))⟩;rw[ke p1 i g0 hh,qbu,qz];simp
 ·have hh:=qc hh;rw[qw qqo]at hle ⊢;exact⟨⟨by omega,(hdrS_by p0).append (kid p1),by omega⟩,rfl⟩
noncomputable def kmr:Con TB.den:= .gp 132 [.st 2] [yqu] [] fun(p0:wZ)=>(TR p0,(idS p0:Int),())
theorem kng:kmr.Ok Tryz.prog TB:=qrv Bs Tryz.func132 .no (k9g.c (k21.c c0)) (Q:=∀(p0:wZ),(TR p0)->∀r0:Int,idS p0=r0-> 
(TR p0)/\let r1:Li:=(if validE p0=0 then encT p0 p0.wo else [])
(((validE p0) !=0)=true->
 0=r0)/\
(((validE p0) !=0)=false->
(U64 (14:Int)/\By r1/\r1.length<=1099511627775)/\(hashB (14:Int) r1)=r0))<|by
 rintro p0 h _ rfl;refine⟨h,?_⟩;unfold idS;refine⟨fun e=> ?_,fun e=> ?_⟩
 ·have e:validE p0≠0:=by simpa using e
  rw[qf e]
 ·have e:validE p0=0:=by simpa using e
  have v:=(k12 p0).1 e;rw[qi e,qi e];exact⟨⟨by omega,encT_by h.p,by have:=v.enc_len p0.wo;have:=v.pl;omega⟩,rfl⟩
noncomputable def k5s:Con TB.den:= .gp 90 [.st 3] [.sl yqu] [] fun(p0:wH)=>((∀x∈p0.Txs,TR x)/\p0.Txs.length<=64,(p0.Txs.map idS:Li),())
theorem k2v:k5s.Ok Tryz.prog TB:=qrv Bs Tryz.func90 (.r 1 (.nd [] (.r 0 (.lp [.frz 1 [3]] ⟨[2],[.tip yqu],[3,13],[.one (.own 0),.one (zqi)],[]⟩ .no)) [] .no)) (kng.c c0) (Q:=∀(p0:wH),((∀x∈p0.Txs,TR x)/\p0.Txs.length<=64)->∀r0:Li,p0.Txs.map idS=r0-> 
 0<=(0:Int)/\(0:Int)<=(p0.Txs.length:Int)/\((p0.Txs.length:Int).toNat*8<=140737488355328)/\((p0.Txs.length:Int).toNat<=maxLen)/\(0=(List.replicate 0 (0:Int)).length)/\(List.replicate 0 (0:Int)=List.replicate 0 (0:Int))/\∃(I1:Int->(Li)->Prop) (M1:Int->(Li)->Nat),I1 0 (List.replicate 0 (0:Int))/\∀b1 f1,(I1 b1 f1->
(decide (b1<(p0.Txs.length:Int))=true->
(0<=b1)/\b1<(p0.Txs.length:Int)/\(TR (ix p0.Txs b1))/\lz f1/\(f1.length+[(idS (ix p0.Txs b1))].length)*8<=140737488355328/\f1.length+[(idS (ix p0.Txs b1))].length<=maxLen/\(f1++[(idS (ix p0.Txs b1))]=f1++[(idS (ix p0.Txs b1))])/\I1 (i64.wrap (b1+1)) (f1++[(idS (ix p0.Txs b1))])/\M1 (i64.wrap (b1+1)) (f1++[(idS (ix p0.Txs b1))])<M1 b1 f1)/\
(decide (b1<(p0.Txs.length:Int))=false->
 f1=r0)))<|by
 rintro p0 h _ rfl;obtain⟨hr,hl⟩:=h;refine⟨by omega,by omega,by omega,by unfold maxLen;omega,by simp,rfl,?_⟩;refine⟨(fun i g=>0<=i/\i<=p0.Txs.length/\g=(p0.Txs.take i.toNat).map idS),(fun i _=>(p0.Txs.length-i).toNat),⟨by omega,by omega,by simp⟩,?_⟩;rintro i g ⟨g0,g1,rfl⟩;refine⟨fun hh=> ?_,fun hh=> ?_⟩
 ·have hh:=qb hh;have hm:=ix_mem p0.Txs i g0 hh;rw[inc i p0.Txs.length g0 hh qqo];refine⟨g0,hh,hr _ hm,rfl,by simp;omega,by simp;unfold maxLen;omega,rfl,⟨by omega,by omega,?_⟩,by(first|omega|(dsimp only;omega))⟩;rw[ke p0.Txs i g0 hh];simp
 ·have hh:=qc hh;rw[qw qqo]
noncomputable def kcz:Con TB.den:= .gp 43 [.st 0,.st 3] [yqi] [] fun(p0:wE) (p1:wH)=>(BR p1,(checkB p0.wW p1:Int),())
theorem keb:kcz.Ok Tryz.prog TB:=qrv Bs Tryz.func43 .no (k60.c (k2v.c (k30.c c0))) (Q:=∀(p0:wE) (p1:wH),(BR p1)->∀r0:Int,checkB p0.wW p1=r0-> 
(∀x∈p1.Txs,TR x)/\(((validB p1) !=0)=true->
(validB p1)=r0)/\
(((validB p1) !=0)=false->
((p1.wW !=p0.wW)=true->
 17=r0)/\
((p1.wW !=p0.wW)=false->
((∀x∈p1.Txs,TR x)/\p1.Txs.length<=64)/\(BR p1/\p1.Txs.length<=64/\Us (p1.Txs.map idS)/\(p1.Txs.map idS).length<=64)/\let r1:Int:=(hashB 15 (hdrS p1++(p1.Txs.map idS).flatMap (dig 8)))
(p1.wW≠0)/\(((Int.tmod r1 p1.wW) !=0)=true->
 17=r0)/\
(((Int.tmod r1 p1.wW) !=0)=false->
 0=r0))))<|by
 rintro p0 p1 h _ rfl;unfold checkB;refine⟨h.t,fun e=> ?_,fun e=> ?_⟩
 ·have e:validB p1≠0:=by simpa using e
  rw[qi e]
 ·have e:validB p1=0:=by simpa using e
  have v:=(k5m p1).1 e;have hl:=v.h.l;have hw:=v.h.w0;rw[qf (by simp[e])];refine⟨fun e2=> ?_,fun e2=> ?_⟩
  ·have e2:p1.wW≠p0.wW:=by simpa using e2
   rw[qi e2]
  ·have e2:p1.wW=p0.wW:=by simpa using e2
   rw[qf (by simp[e2])];have hu:Us (p1.Txs.map idS):=idS_us _;refine⟨⟨h.t,hl⟩,⟨h,hl,hu,by simp;omega⟩,by omega,fun e3=> ?_,fun e3=> ?_⟩
   ·rw[qi (by simpa[namS]using e3)]
   ·rw[qf (by simpa[namS]using e3)]
noncomputable def kil:Con TB.den:= .gp 44 [.st 3] [yqu] [] fun(p0:wH)=>(BR p0,(idB p0:Int),())
theorem kkm:kil.Ok Tryz.prog TB:=qrv Bs Tryz.func44 .no (k60.c (k2v.c (k30.c c0))) (Q:=∀(p0:wH),(BR p0)->∀r0:Int,idB p0=r0-> 
(∀x∈p0.Txs,TR x)/\(((validB p0) !=0)=true->
 0=r0)/\
(((validB p0) !=0)=false->
((∀x∈p0.Txs,TR x)/\p0.Txs.length<=64)/\(BR p0/\p0.Txs.length<=64/\Us (p0.Txs.map idS)/\(p0.Txs.map idS).length<=64)/\let r1:Int:=(hashB 15 (hdrS p0++(p0.Txs.map idS).flatMap (dig 8)))
 r1=r0))<|by
 rintro p0 h _ rfl;refine⟨h.t,fun e=> ?_,fun e=> ?_⟩
 ·have e:¬validB p0=0:=by simpa using e
  unfold idB;rw[qf e]
 ·have e:validB p0=0:=by simpa using e
  have v:=(k5m p0).1 e;have hl:=v.h.l;have hu:Us (p0.Txs.map idS):=fun x hx=>by obtain⟨y,_,rfl⟩:=qai.1 hx;exact idS_u64 y
  refine⟨⟨h.t,by omega⟩,⟨h,by omega,hu,by simp;omega⟩,?_⟩;unfold idB;rw[qi e];unfold namS;rw[List.flatMap_map]
noncomputable def k7a:Con TB.den:= .g ⟨96,[.one (.d (.sl (.st 1)))],[],(.one (.one (.row 0))),[.vec (.st 1)],false⟩ [.sl (.st 1)] [.sl (.st 1)] [] fun(p0:List wAJ)=>(p0.length<=4294967295,p0,())
theorem k7u:k7a.Ok Tryz.prog TB:=prx Bs [5,7] Tryz.func96 (.r 0 (.nd [] (.r 0 (.nd [] (.r 0 (.rt [.rnil 2 (.st 1)])) [] .no)) [] .no)) x0 c0 (Q:=∀(p0:List wAJ),(p0.length<=4294967295)->∀e0:List wAJ,p0=e0-> 
 ∀z4:Bool,(z4=true->p0=[])->(z4=true->
(0=([]:List wAJ).length)/\([]:List wAJ)=e0)/\
(z4=false->
 lz ([]:List wAJ)/\(([]:List wAJ).length+p0.length)*48<=140737488355328/\([]:List wAJ).length+p0.length<=maxLen/\lz (([]:List wAJ)++p0)/\([]:List wAJ)++p0=e0))<|by
 rintro p0 h _ rfl;intro z hz;refine⟨fun e=> ?_,fun e=> ?_⟩
 ·rw[hz e];exact⟨rfl,rfl⟩
 ·refine⟨rfl,?_,?_,rfl,rfl⟩<;>simp only[qao]<;>(try unfold maxLen)<;>omega
noncomputable def k84:Con TB.den:= .g ⟨95,[.one (.d (.sl (.st 2)))],[],(.one (.one (.row 0))),[.vec (.st 2)],false⟩ [.sl (.st 2)] [.sl (.st 2)] [] fun(p0:List wZ)=>(p0.length<=4294967295,p0,())
theorem k99:k84.Ok Tryz.prog TB:=prx Bs [5,7] Tryz.func95 (.r 0 (.nd [] (.r 0 (.nd [] (.r 0 (.rt [.rnil 2 (.st 2)])) [] .no)) [] .no)) x0 c0 (Q:=∀(p0:List wZ),(p0.length<=4294967295)->∀e0:List wZ,p0=e0-> 
 ∀z4:Bool,(z4=true->p0=[])->(z4=true->
(0=([]:List wZ).length)/\([]:List wZ)=e0)/\
(z4=false->
 lz ([]:List wZ)/\(([]:List wZ).length+p0.length)*128<=140737488355328/\([]:List wZ).length+p0.length<=maxLen/\lz (([]:List wZ)++p0)/\([]:List wZ)++p0=e0))<|by
 rintro p0 h _ rfl;intro z hz;refine⟨fun e=> ?_,fun e=> ?_⟩
 ·rw[hz e];exact⟨rfl,rfl⟩
 ·refine⟨rfl,?_,?_,rfl,rfl⟩<;>simp only[qao]<;>(try unfold maxLen)<;>omega
noncomputable def k5y:Con TB.den:= .gp 97 [.sl yqb] [.sl yqb] [] fun(p0:Li)=>(p0.length<=4294967295,p0,())
theorem k6z:k5y.Ok Tryz.prog TB:=qrv Bs Tryz.func97 .no c0 (Q:=∀(p0:Li),(p0.length<=4294967295)->∀r0:Li,p0=r0-> 
 ∀z4:Bool,(z4=true->p0=[])->(z4=true->
([]:Li)=r0)/\
(z4=false->
(([]:Li).length+p0.length)*1<=140737488355328/\([]:Li).length+p0.length<=maxLen/\([]:Li)++p0=r0))<|by rintro p0 h _ rfl;intro z hz;refine⟨fun e=>(hz e).symm,fun e=> ?_⟩;refine⟨?_,?_,rfl⟩<;>simp only[qao]<;>(try unfold maxLen)<;>omega
noncomputable def k8e:Con TB.den:= .gp 72 [.sl yqu] [.sl yqu] [] fun(p0:Li)=>(p0.length<=4294967295,p0,())
theorem k9w:k8e.Ok Tryz.prog TB:=qrx Bs [5,7] Tryz.func72 (.r 2 (.rt [.frz 1 [2]])) x0 c0 (Q:=∀(p0:Li),(p0.length<=4294967295)->∀r0:Li,p0=r0-> 
 ∀z4:Bool,(z4=true->p0=[])->(z4=true->
([]:Li)=r0)/\
(z4=false->
 lz ([]:Li)/\(([]:Li).length+p0.length)*8<=140737488355328/\([]:Li).length+p0.length<=maxLen/\lz (([]:Li)++p0)/\([]:Li)++p0=r0))<|by rintro p0 h _ rfl;intro z hz;refine⟨fun e=>(hz e).symm,fun e=> ?_⟩;refine⟨rfl,?_,?_,rfl,rfl⟩<;>simp only[qao]<;>(try unfold maxLen)<;>omega
noncomputable def kds:Con TB.den:= .gp 50 [.st 3] [.st 3] [] fun(p0:wH)=>(p0.Txs.length<=4294967295/\∀x∈p0.Txs,TL x,p0,())
theorem k5u:kds.Ok Tryz.prog TB:=qrv Bs Tryz.func50 (.r 1 (.nd [] (.r 0 (.lp [] ⟨[2],[.vec (.st 2)],[13],[.one (zqi)],[]⟩ (.r 1 (.nd [] (.r 3 (.nd [] (.r 0 (.lp [] ⟨[3],[.vec (.st 1)],[41],[.one (zqi)],[]⟩ .no)) [.frzf 3 2] .no)) [] .no)))) [] (.r 0 (.rt [.frzc 2 1 5])))) (k99.c (k9w.c (k7u.c (k6z.c c0)))) (Q:=∀(p0:wH),(p0.Txs.length<=4294967295/\∀x∈p0.Txs,TL x)->∀r0:wH,p0=r0-> 
(p0.Txs.length<=4294967295)/\∃(I1:Int->(List wZ)->Prop) (M1:Int->(List wZ)->Nat),I1 0 p0.Txs/\∀b1 f1,(I1 b1 f1->
(decide (b1<(p0.Txs.length:Int))=true->
(0<=b1/\b1<(p0.Txs.length:Int))/\(0<=b1/\b1<(f1.length:Int))/\(((ix f1 b1).wI).length<=4294967295)/\(0<=b1/\b1<(f1.length:Int))/\let v1:List wZ:=f1.set b1.toNat (wZ.mk ((ix f1 b1).we) ((ix f1 b1).wI) ((ix f1 b1).wC) ((ix f1 b1).wQ) ((ix f1 b1).wT) ((ix f1 b1).Fee) ((ix f1 b1).wX) ((ix f1 b1).wY) ((ix f1 b1).wAL) ((ix f1 b1).wo))
(0<=b1/\b1<(v1.length:Int))/\(((ix v1 b1).wC).length<=4294967295)/\(0<=b1/\b1<(v1.length:Int))/\(0<=b1/\b1<(v1.length:Int))/\b1=b1/\∃(I2:Int->(List wAJ)->Prop) (M2:Int->(List wAJ)->Nat),I2 0 ((ix v1 b1).wC)/\∀i1 k1,(I2 i1 k1->
 let v2:Bool:=decide (i1<(((ix v1 b1).wC).length:Int))
(v2=true->
(0<=b1/\b1<(v1.length:Int))/\b1=b1/\(0<=b1/\b1<(v1.length:Int))/\b1=b1/\(0<=i1/\i1<(((ix v1 b1).wC).length:Int))/\(0<=i1/\i1<(k1.length:Int))/\(((ix k1 i1).wy).length<=4294967295)/\(0<=i1/\i1<(((ix v1 b1).wC).length:Int))/\(0<=i1/\i1<(k1.length:Int))/\I2 (i64.wrap (i1+1)) (k1.set i1.toNat (wAJ.mk ((ix k1 i1).wl) ((ix k1 i1).wAP) ((ix k1 i1).wAK) ((ix k1 i1).wy)))/\M2 (i64.wrap (i1+1)) (k1.set i1.toNat (wAJ.mk ((ix k1 i1).wl) ((ix k1 i1).wAP) ((ix k1 i1).wAK) ((ix k1 i1).wy)))<M2 i1 k1)/\
(v2=false->
(((ix v1 b1).wC).length=k1.length/\0<=b1/\b1<(v1.length:Int))/\let v3:List wZ:=v1.set b1.toNat (wZ.mk ((ix v1 b1).we) ((ix v1 b1).wI) k1 ((ix v1 b1).wQ) ((ix v1 b1).wT) ((ix v1 b1).Fee) ((ix v1 b1).wX) ((ix v1 b1).wY) ((ix v1 b1).wAL) ((ix v1 b1).wo))
(0<=b1/\b1<(v3.length:Int))/\(((ix v3 b1).wo).length<=4294967295)/\(0<=b1/\b1<(v3.length:Int))/\let v4:List wZ:=v3.set b1.toNat (wZ.mk ((ix v3 b1).we) ((ix v3 b1).wI) ((ix v3 b1).wC) ((ix v3 b1).wQ) ((ix v3 b1).wT) ((ix v3 b1).Fee) ((ix v3 b1).wX) ((ix v3 b1).wY) ((ix v3 b1).wAL) ((ix v3 b1).wo))
 I1 (i64.wrap (b1+1)) v4/\M1 (i64.wrap (b1+1)) v4<M1 b1 f1)))/\
(decide (b1<(p0.Txs.length:Int))=false->
(p0.Txs.length=f1.length)/\p0.wh=r0.wh/\p0.wM=r0.wM/\p0.wAT=r0.wAT/\p0.wW=r0.wW/\p0.wY=r0.wY/\f1=r0.Txs)))<|by
 rintro p0 h _ rfl;obtain⟨hl,ht⟩:=h;refine⟨hl,?_⟩;refine⟨(fun i f=>f=p0.Txs/\∃k:Nat,i=(k:Int)/\k<=p0.Txs.length),fun i _=>(p0.Txs.length-i).toNat,⟨rfl,0,rfl,by omega⟩,?_⟩;rintro _ _ ⟨rfl,k,rfl,g1⟩;refine⟨fun e=> ?_,fun e=> ?_⟩
 ·have e:k<p0.Txs.length:=by have:=qb e;omega
  have et:=ht _ (qal e);have e1:p0.Txs.set (k:Int).toNat (wZ.mk (ix p0.Txs (k:Int)).we (ix p0.Txs (k:Int)).wI (ix p0.Txs (k:Int)).wC (ix p0.Txs (k:Int)).wQ (ix p0.Txs (k:Int)).wT (ix p0.Txs (k:Int)).Fee (ix p0.Txs (k:Int)).wX (ix p0.Txs (k:Int)).wY (ix p0.Txs (k:Int)).wAL (ix p0.Txs (k:Int)).wo)=p0.Txs:=by rw[ix_get _ _ e];exact List.set_getElem_self ..
  have hb:(0:Int)<=(k:Int)/\(k:Int)<(p0.Txs.length:Int):=⟨by omega,by omega⟩;have hx:ix p0.Txs (k:Int)=p0.Txs[k]:=ix_get _ _ e;refine⟨hb,hb,by rw[hx];exact et.m,hb,?_⟩;dsimp only;rw[e1];have ho:(ix p0.Txs (k:Int)).wC.length<=4294967295:=by rw[hx];exact et.o
  have hc:∀x∈(ix p0.Txs (k:Int)).wC,x.wy.length<=4294967295:=by rw[hx];exact et.c
  refine⟨hb,ho,hb,hb,rfl,?_⟩;refine⟨(fun i f=>f=(ix p0.Txs (k:Int)).wC/\∃j:Nat,i=(j:Int)/\j<=(ix p0.Txs (k:Int)).wC.length),fun i _=>((ix p0.Txs (k:Int)).wC.length-i).toNat,⟨rfl,0,rfl,by omega⟩,?_⟩;rintro _ _ ⟨rfl,j,rfl,g2⟩;refine⟨fun e2=> ?_,fun e2=> ?_⟩
  ·have e2:j<(ix p0.Txs (k:Int)).wC.length:=by have:=qb e2;omega
   have hj:(0:Int)<=(j:Int)/\(j:Int)<((ix p0.Txs (k:Int)).wC.length:Int):=⟨by omega,by omega⟩;have hy:ix (ix p0.Txs (k:Int)).wC (j:Int)=(ix p0.Txs (k:Int)).wC[j]:=ix_get _ _ e2;rw[inc (j:Int) (ix p0.Txs (k:Int)).wC.length qqo qqo qqo];have e3:(ix p0.Txs (k:Int)).wC.set (j:Int).toNat (wAJ.mk (ix (ix p0.Txs (k:Int)).wC (j:Int)).wl (ix (ix p0.Txs (k:Int)).wC (j:Int)).wAP (ix (ix p0.Txs (k:Int)).wC (j:Int)).wAK (ix (ix p0.Txs (k:Int)).wC (j:Int)).wy)=(ix p0.Txs (k:Int)).wC:=by rw[hy];exact List.set_getElem_self ..
   rw[e3];refine⟨hb,rfl,hb,rfl,hj,hj,?_,hj,hj,⟨rfl,j+1,rfl,by omega⟩,by(first|omega|(dsimp only;omega))⟩;rw[hy];exact hc _ (qal e2)
  ·rw[e1];refine⟨⟨rfl,hb⟩,hb,by rw[hx];exact et.p,hb,?_⟩;rw[inc (k:Int) p0.Txs.length qqo qqo qqo];exact⟨⟨e1,k+1,rfl,by omega⟩,by(first|omega|(dsimp only;omega))⟩
 ·exact⟨rfl,rfl,rfl,rfl,rfl,rfl,rfl⟩
noncomputable def k8t:Con TB.den:= .t (gk 41 [.one (.ptr 0 0)] yQ (.one (.one (.d (.bool))))) yA1 yX [] fun(Ac:Bool) (Aa Ae:Int) (Ab:List wD) (w1k:Lb) (w1v:Li) (w2k:Lb) (w2v:List (Li)) (w3k:Lb) (w3v:Lo)=>(Ac,Ac,Aa,Ae,Ab,w1k,w1v,w2k,w2v,w3k,w3v,())
theorem k1n:k8t.Ok Tryz.prog TB:=ptv Bs Tryz.func41 .no c0 (Q:=∀(Ac:Bool) (Aa Ae:Int) (Ab:List wD) (w1k:Lb) (w1v:Li) (w2k:Lb) (w2v:List (Li)) (w3k:Lb) (w3v:Lo),∀r0:Bool,Ac=r0->∀Ay:Bool,Ac=Ay->∀Aq:Int,Aa=Aq->∀Aw:Int,Ae=Aw->∀Ax:List wD,Ab=Ax->∀e1k:Lb,w1k=e1k->∀e1v:Li,w1v=e1v->∀e2k:Lb,w2k=e2k->∀e2v:List (Li),w2v=e2v->∀e3k:Lb,w3k=e3k->∀e3v:Lo,w3v=e3v-> 
 Ac=r0/\Ac=Ay/\Aa=Aq/\Ae=Aw/\Ab=Ax/\w1k=e1k/\w1v=e1v/\w2k=e2k/\w2v=e2v/\w3k=e3k/\w3v=e3v)<|by
 rintro Ac Aa Ae Ab w1k w1v w2k w2v w3k w3v;repeat rintro _ rfl
 exact(by repeat' first|apply qq|exact rfl|exact qn)
noncomputable def kjj:Con TB.den:= .gp 144 [yqu,yqi] [yqu] [] fun(p0 p1:Int)=>(U64 p0/\0<=p1/\p1<=9223372036854775807,(rhoS p0 p1:Int),())
theorem kk9:kjj.Ok Tryz.prog TB:=qrv Bs Tryz.func144 .no (ky.c c0) (Q:=∀(p0 p1:Int),(U64 p0/\0<=p1/\p1<=9223372036854775807)->∀r0:Int,rhoS p0 p1=r0-> 
(decide (18446744069414584321<=p0)=true->
 0=r0)/\
(decide (18446744069414584321<=p0)=false->
(decide (p1<0)=true->
 0=r0)/\
(decide (p1<0)=false->
((18446744069414584321:Int)=18446744069414584321/\U64 (4:Int)/\Us [p0,u64.wrap p1]/\[p0,u64.wrap p1].length<=1099511627776)/\let r1:Int:=(hashS (4:Int) [p0,u64.wrap p1])
 r1=r0)))<|by
 rintro p0 p1 h _ rfl;obtain⟨h1,h2,h3⟩:=h;refine ?_;unfold rhoS;rw[wu p1 h2 qqo];refine⟨fun e=> ?_,fun e=>⟨fun e2=> ?_,fun e2=> ?_⟩⟩
 ·have e:=qb e;rw[qf qqo]
 ·have e2:=qb e2;omega
 ·have e:=qc e;rw[qi qqo];refine⟨⟨rfl,by omega,?_,by simp⟩,rfl⟩;intro x hx;simp only[qak,qet,or_false]at hx;rcases hx with rfl|rfl
  ·exact h1
  ·omega
noncomputable def kkd:Con TB.den:= .gp 142 [.st 2] [yqu] [] fun(p0:wZ)=>(TR p0,(bindS p0:Int),())
theorem kl9:kkd.Ok Tryz.prog TB:=qrv Bs Tryz.func142 .no (k1m.c (k9k.c (k21.c c0))) (Q:=∀(p0:wZ),(TR p0)->∀r0:Int,bindS p0=r0-> 
(((validE p0) !=0)=true->
 0=r0)/\
(((validE p0) !=0)=false->
(TR p0/\TL p0/\p0.wC.length<=1048576/\(∀x∈p0.wC,x.wy.length<=1024)/\([]:Li).length<=4294967295)/\(U64 (13:Int)/\By (encT p0 ([]:Li))/\(encT p0 ([]:Li)).length<=1099511627775)/\let r1:Int:=(hashB (13:Int) (encT p0 ([]:Li)))
 r1=r0))<|by
 rintro p0 h _ rfl;refine ?_;unfold bindS;refine⟨fun e=> ?_,fun e=> ?_⟩
 ·have e:validE p0≠0:=by simpa using e
  rw[qf e]
 ·have e:validE p0=0:=by simpa using e
  have v:=(k12 p0).1 e;rw[qi e];refine⟨⟨h,v.tl,by have:=v.ol;omega,fun x hx=>by have:=(v.o x hx).l;omega,by simp⟩,⟨by omega,encT_by (by intro x hx;cases hx),?_⟩,rfl⟩;have:=v.enc_len [];simp at this ⊢;omega
noncomputable def kdh:Con TB.den:= .gp 202 [.sl yqu,yqu,yqu] [yqu] [] fun(p0:Li) (p1 p2:Int)=>(Us p0/\U64 p1/\U64 p2,((if p0=[]then(if p1<18446744069414584321/\p2<18446744069414584321 then hashS 5 [p1,p2]else 0)else if ix p0 0<18446744069414584321 then ix p0 0 else 0):Int),())
theorem kek:kdh.Ok Tryz.prog TB:=qrv Bs Tryz.func202 .no (ky.c c0) (Q:=∀(p0:Li) (p1 p2:Int),(Us p0/\U64 p1/\U64 p2)->∀r0:Int,((if p0=[]then(if p1<18446744069414584321/\p2<18446744069414584321 then hashS 5 [p1,p2]else 0)else if ix p0 0<18446744069414584321 then ix p0 0 else 0):Int)=r0-> 
(decide (0<(p0.length:Int))=true->
 0<(p0.length:Int)/\let v1:Bool:=decide (18446744069414584321<=(ix p0 0))
(v1=true->
 0=r0)/\
(v1=false->
 0<(p0.length:Int)/\ix p0 0=r0))/\
(decide (0<(p0.length:Int))=false->
(decide (18446744069414584321<=p1)=true->
 0=r0)/\
(decide (18446744069414584321<=p1)=false->
(decide (18446744069414584321<=p2)=true->
 0=r0)/\
(decide (18446744069414584321<=p2)=false->
((18446744069414584321:Int)=18446744069414584321/\U64 (5:Int)/\Us [p1,p2]/\[p1,p2].length<=1099511627776)/\(hashS (5:Int) [p1,p2])=r0))))<|by
 rintro p0 p1 p2 h _ rfl;obtain⟨h1,h2,h3⟩:=h;refine⟨fun h=> ?_,fun h=> ?_⟩
 ·have h:=qb h;rw[qf (by rintro rfl;simp at h)];exact⟨h,fun e=>(by rw[qf (by have:=qb e;omega)]),fun e=>⟨h,(by rw[qi (by have:=qc e;omega)])⟩⟩
 ·have h:=qc h;have h:p0=[]:=qdg.1 qqo;rw[qi h];refine⟨fun e=>(by rw[qf (by have:=qb e;omega)]),fun e=>⟨fun e2=>(by rw[qf (by have:=qb e2;omega)]),fun e2=> ?_⟩⟩;rw[qi (by have:=qc e;have:=qc e2;omega)];refine⟨⟨rfl,by omega,?_,by simp⟩,rfl⟩;intro x hx;rcases qak.1 hx with rfl|hx
  ·exact h2
  ·have:x=p2:=by simpa using hx
   rw[this];exact h3
noncomputable def kgn:Con TB.den:= .gp 143 [.st 2] [yqu] [] fun(p0:wZ)=>(TR p0,(originS p0:Int),())
theorem ki1:kgn.Ok Tryz.prog TB:=qrv Bs Tryz.func143 .no (k1m.c (kek.c c0)) (Q:=∀(p0:wZ),(TR p0)->∀r0:Int,originS p0=r0-> 
(((validE p0) !=0)=true->
 0=r0)/\
(((validE p0) !=0)=false->
(Us p0.wI/\U64 p0.wX/\U64 p0.wY)/\let r1:Int:=(if p0.wI=[]then(if p0.wX<18446744069414584321/\p0.wY<18446744069414584321 then hashS 5 [p0.wX,p0.wY]else 0)else if ix p0.wI 0<18446744069414584321 then ix p0.wI 0 else 0)
 r1=r0))<|by
 rintro p0 h _ rfl;refine ?_;unfold originS;refine⟨fun e=> ?_,fun e=> ?_⟩
 ·have e:validE p0≠0:=by simpa using e
  rw[qf e]
 ·have e:validE p0=0:=by simpa using e
  have v:=(k12 p0).1 e;rw[qi e];refine⟨⟨h.m,h.ac,h.n⟩,?_⟩;have va:=v.am;unfold vAmounts at va;simp only[qe,qaf]at va;split
  ·rw[qi ⟨va.1.1.2,va.1.2⟩]
  ·rename_i hne;rw[qi];exact v.m _ (ix_mem _ 0 qqo (by have:=qcw.2 hne;omega))
noncomputable def kcg:Con TB.den:= .gp 93 [.st 2,yqi] [.st 13] [] fun(p0:wZ) (p1:Int)=>(TR p0/\-9223372036854775808<=p1/\p1<=9223372036854775807,(stmtS p0 p1:wAC),())
abbrev Fz4 (r:Type):=Int->Int->Int->Int->Int->Int->Int->Int->(Li)->(Li)->(Li)->r
theorem k57:kcg.Ok Tryz.prog TB:=qrv Bs Tryz.func93 (.r 3 (.nd [] (.r 0 (.lp [.tokc 274 4 yqu,.tokc 274 3 yqu] ⟨[274,82,307,306],[.cells [zqi,zqu,.row 1,.own 2,.own 3,zqu,zqu,zqu,zqu,zqu],.vec yqu,.tip yqu,.tip yqu],[35],[.one (zqi)],[]⟩ .no)) [] (.r 0 (.rt [.frzc 82 1 2])))) (k1m.c (k2y.c (kl9.c (ki1.c (kk9.c c0))))) (Q:=∀(p0:wZ) (p1:Int),(TR p0/\-9223372036854775808<=p1/\p1<=9223372036854775807)->∀r0:wAC,stmtS p0 p1=r0-> 
(((validE p0) !=0)=true->
 0=r0.wB/\0=r0.we/\([]:Li)=r0.wI/\([]:Li)=r0.wx/\([]:Li)=r0.wAV/\0=r0.wQ/\0=r0.wT/\0=r0.Fee/\0=r0.wX/\0=r0.wBP)/\
(((validE p0) !=0)=false->
(p0.wI.length<=4294967295)/\(TR p0)/\(TR p0)/\(([]:Li)=([]:Li))/\(([]:Li)=([]:Li))/\lz p0.wI/\∃(I1:Fz4 Prop) (M1:Fz4 Nat),I1 0 p1 p0.we p0.wQ p0.wT p0.Fee p0.wX (bindS p0) p0.wI ([]:Li) ([]:Li)/\∀b1 f1 i1 k1 l1 m1 n1 o1 q1 s1 t1,(I1 b1 f1 i1 k1 l1 m1 n1 o1 q1 s1 t1->
(decide (b1<(p0.wC.length:Int))=true->
(0<=b1)/\b1<(p0.wC.length:Int)/\lz s1/\(s1.length+[(ix p0.wC b1).wl].length)*8<=140737488355328/\s1.length+[(ix p0.wC b1).wl].length<=maxLen/\(U64 (originS p0)/\0<=b1/\b1<=9223372036854775807)/\lz t1/\(t1.length+[(rhoS (originS p0) b1)].length)*8<=140737488355328/\t1.length+[(rhoS (originS p0) b1)].length<=maxLen/\(t1++[(rhoS (originS p0) b1)]=t1++[(rhoS (originS p0) b1)])/\(s1++[(ix p0.wC b1).wl]=s1++[(ix p0.wC b1).wl])/\lz q1/\I1 (i64.wrap (b1+1)) f1 i1 k1 l1 m1 n1 o1 q1 (s1++[(ix p0.wC b1).wl]) (t1++[(rhoS (originS p0) b1)])/\M1 (i64.wrap (b1+1)) f1 i1 k1 l1 m1 n1 o1 q1 (s1++[(ix p0.wC b1).wl]) (t1++[(rhoS (originS p0) b1)])<M1 b1 f1 i1 k1 l1 m1 n1 o1 q1 s1 t1)/\
(decide (b1<(p0.wC.length:Int))=false->
 lz q1/\f1=r0.wB/\i1=r0.we/\q1=r0.wI/\s1=r0.wx/\t1=r0.wAV/\k1=r0.wQ/\l1=r0.wT/\m1=r0.Fee/\n1=r0.wX/\o1=r0.wBP))))<|by
 rintro p0 p1 h _ rfl;obtain⟨hr,hd⟩:=h;refine ?_;refine⟨fun e=> ?_,fun e=> ?_⟩
 ·have e:validE p0≠0:=by simpa using e
  unfold stmtS;rw[qf e];exact⟨rfl,rfl,rfl,rfl,rfl,rfl,rfl,rfl,rfl,rfl⟩
 ·have e:validE p0=0:=by simpa using e
  have v:=(k12 _).1 e;have vo:=v.ol;have hor:=kke hr;have es:stmtS p0 p1=⟨p1,p0.we,p0.wI,p0.wC.map (·.wl),(List.range p0.wC.length).map (fun i:Nat=>rhoS (originS p0) (i:Int)),p0.wQ,p0.wT,p0.Fee,p0.wX,bindS p0⟩:=by unfold stmtS;rw[qi e]
  refine⟨by have:=v.ml;omega,hr,hr,rfl,rfl,rfl,?_⟩;refine⟨(fun i z1 z2 z3 z4 z5 z6 z7 z8 g g' =>(p1=z1/\p0.we=z2/\p0.wQ=z3/\p0.wT=z4/\p0.Fee=z5/\p0.wX=z6/\bindS p0=z7/\p0.wI=z8)/\0<=i/\i<=p0.wC.length/\g=(p0.wC.take i.toNat).map (·.wl)/\g' =(List.range i.toNat).map (fun i:Nat=>rhoS (originS p0) (i:Int))),(fun i _ _ _ _ _ _ _ _ _ _=>(p0.wC.length-i).toNat),⟨⟨rfl,rfl,rfl,rfl,rfl,rfl,rfl,rfl⟩,by omega,by omega,by simp,by simp⟩,?_⟩;rintro i _ _ _ _ _ _ _ _ g g' ⟨⟨rfl,rfl,rfl,rfl,rfl,rfl,rfl,rfl⟩,g0,g1,rfl,rfl⟩;refine⟨fun hh=> ?_,fun hh=> ?_⟩
  ·have hh:=qb hh;rw[inc i p0.wC.length g0 hh qqo];refine⟨g0,hh,rfl,by simp;omega,by simp;unfold maxLen;omega,⟨hor,by omega,by omega⟩,rfl,by simp;omega,by simp;unfold maxLen;omega,rfl,rfl,rfl,⟨⟨rfl,rfl,rfl,rfl,rfl,rfl,rfl,rfl⟩,by omega,by omega,?_,?_⟩,by(first|omega|(dsimp only;omega))⟩
   ·rw[ke p0.wC i g0 hh];simp
   ·rw[show(i+1).toNat=i.toNat+1 by omega,List.range_succ];simp[show max i 0=i by omega]
  ·have hh:=qc hh;rw[qw qqo,show i.toNat=p0.wC.length by omega];rw[es];exact⟨rfl,rfl,rfl,rfl,rfl,rfl,rfl,rfl,rfl,rfl,rfl⟩
noncomputable def k98:Con TB.den:= .tp 87 [.st 5] [.bool] [] fun(p0:wAI)=>((prS p0:Bool),())
theorem kae:k98.Ok Tryz.prog TB:=qtv Bs Tryz.func87 (.r 0 (.jn ⟨[],[],[3],[.one (.d (.bool))],[]⟩ [] .no [] (.jn ⟨[],[],[4],[.one (.d (.bool))],[]⟩ [] .no [] .no))) c0 (Q:=∀(p0:wAI),∀r0:Bool,prS p0=r0-> 
 ∀J1:Bool->Prop,(∀(b1:Bool),
(∀J2:Bool->Prop,(∀(f1:Bool),
((b1=true->
(f1=true->
(decide (1<=p0.wAr)=true->
 decide (p0.wAr<=64)=r0)/\
(decide (1<=p0.wAr)=false->
 false=r0))/\
(f1=false->
 false=r0))/\
(b1=false->
 false=r0))->J2 f1)->
((p0.wAc==1)=true->
 J2 true)/\
((p0.wAc==1)=false->
((p0.wAc==2)=true->
 J2 true)/\
((p0.wAc==2)=false->
((p0.wAc==4)=true->
 J2 true)/\
((p0.wAc==4)=false->
 J2 (p0.wAc==8)))))->J1 b1)->
(decide (2<=p0.wAt)=true->
(decide (p0.wAt<=256)=true->
 let v1:Int:=iand .i64 p0.wAt (i64.wrap (p0.wAt-1))
 J1 (v1==0))/\
(decide (p0.wAt<=256)=false->
 J1 false))/\
(decide (2<=p0.wAt)=false->
 J1 false))<|by
 rintro p0 _ rfl;have hb4:pws 4 1 p0.wAc=((p0.wAc==1)||(p0.wAc==2)||(p0.wAc==4)||(p0.wAc==8)):=by simp[pws,List.range_succ,Bool.or_assoc]
 intro J1 j1
 have j1:∀a,a=pws 8 2 p0.wAt->J1 a:=by
  intro a ha;refine j1 _ fun J2 j2=> ?_
  have j2:∀b,b=pws 4 1 p0.wAc->J2 b:=by
   intro b hb;refine j2 _ ?_;unfold prS;rw[<-ha,<-hb];refine⟨fun e=>⟨fun e2=>⟨fun e3=> ?_,fun e3=> ?_⟩,fun e2=> ?_⟩,fun e=> ?_⟩
   ·rw[e,e2,e3];simp
   ·rw[e,e2,e3];simp
   ·rw[e,e2];simp
   ·rw[e];simp
  refine⟨fun e=>j2 _ ?_,fun e=>⟨fun e2=>j2 _ ?_,fun e2=>⟨fun e3=>j2 _ ?_,fun e3=>j2 _ ?_⟩⟩⟩
  ·rw[hb4,e];rfl
  ·rw[hb4,e,e2];rfl
  ·rw[hb4,e,e2,e3];rfl
  ·rw[hb4,e,e2,e3];rfl
 refine⟨fun e=>⟨fun e2=> ?_,fun e2=>j1 _ ?_⟩,fun e=>j1 _ ?_⟩
 ·have e:=qb e;have e2:=qb e2;obtain⟨b,hb⟩:=qo (show 0<=p0.wAt by omega);refine j1 _ ?_;rw[hb,ko _ qqo qqo];exact pws_and b qqo
 ·have e2:=qc e2;cases hq:pws 8 2 p0.wAt with
  |false=>rfl
  |true=>have:=kfi hq qqd;simp at this;omega
 ·have e:=qc e;cases hq:pws 8 2 p0.wAt with
  |false=>rfl
  |true=>have:=kfi hq qqd;simp at this;omega
noncomputable def k9u:Con TB.den:= .tp 40 [.st 0] [yqi] [] fun(p0:wE)=>((rulesE p0:Int),())
theorem k15:k9u.Ok Tryz.prog TB:=qtv Bs Tryz.func40 (.r 0 (.jn ⟨[],[],[3],[.one (.d (.bool))],[]⟩ [] .no [] .no)) (kae.c c0) (Q:=∀(p0:wE),∀r0:Int,rulesE p0=r0-> 
 ∀J1:Bool->Prop,(∀(b1:Bool),
(((!b1)=true->
 1=r0)/\
((!b1)=false->
((p0.wb==1)=true->
 let r1:Bool:=(prS (wAI.mk p0.wP p0.wO p0.wL))
((!r1)=true->
 1=r0)/\
((!r1)=false->
 0=r0))/\
((p0.wb==1)=false->
 0=r0)))->J1 b1)->
(decide (1<=p0.wb)=true->
(decide (p0.wb<=3)=true->
(decide (1<=p0.wB)=true->
(decide (p0.wB<=12)=true->
(decide (1<=p0.wc)=true->
(decide (p0.wc<=100)=true->
(decide (1<=p0.wS)=true->
(decide (p0.wS<=1048576)=true->
(decide (p0.wV<=4294967296)=true->
(decide (1<=p0.wW)=true->
 J1 (decide (p0.wW<=65536)))/\
(decide (1<=p0.wW)=false->
 J1 false))/\
(decide (p0.wV<=4294967296)=false->
 J1 false))/\
(decide (p0.wS<=1048576)=false->
 J1 false))/\
(decide (1<=p0.wS)=false->
 J1 false))/\
(decide (p0.wc<=100)=false->
 J1 false))/\
(decide (1<=p0.wc)=false->
 J1 false))/\
(decide (p0.wB<=12)=false->
 J1 false))/\
(decide (1<=p0.wB)=false->
 J1 false))/\
(decide (p0.wb<=3)=false->
 J1 false))/\
(decide (1<=p0.wb)=false->
 J1 false))<|by
 rintro p0 _ rfl;intro J1 j1
 have j1:∀b,b=rulesB p0->J1 b:=by
  intro b hb;refine j1 _ ?_;unfold rulesE;rw[<-hb];refine⟨fun e=> ?_,fun e=> ?_⟩
  ·have e:b=false:=by simpa using e
   rw[e];rfl
  ·have e:b=true:=by simpa using e
   rw[e,qi rfl];refine⟨fun e2=>⟨fun e3=> ?_,fun e3=> ?_⟩,fun e2=> ?_⟩
   ·have e2:p0.wb=1:=by simpa using e2
    have e3:¬prS ⟨p0.wP,p0.wO,p0.wL⟩=true:=by simpa using e3
    rw[qi e2,qf e3]
   ·have e2:p0.wb=1:=by simpa using e2
    have e3:prS ⟨p0.wP,p0.wO,p0.wL⟩=true:=by simpa using e3
    rw[qi e2,qi e3]
   ·have e2:¬p0.wb=1:=by simpa using e2
    rw[qf e2]
 have no:∀b:Bool,(b=false->rulesB p0=false)->b=false->false=rulesB p0:=fun b h e=>(h e).symm;refine⟨fun e1=>⟨fun e2=>⟨fun e3=>⟨fun e4=>⟨fun e5=>⟨fun e6=>⟨fun e7=>⟨fun e8=>⟨fun e9=>⟨fun e10=>j1 _ ?_,fun e=>j1 _ ?_⟩,fun e=>j1 _ ?_⟩,fun e=>j1 _ ?_⟩,fun e=>j1 _ ?_⟩,fun e=>j1 _ ?_⟩,fun e=>j1 _ ?_⟩,fun e=>j1 _ ?_⟩,fun e=>j1 _ ?_⟩,fun e=>j1 _ ?_⟩,fun e=>j1 _ ?_⟩
 ·unfold rulesB;rw[e1,e2,e3,e4,e5,e6,e7,e8,e9,e10];simp
 all_goals unfold rulesB;rw[e];simp
noncomputable def kgx:Con TB.den:= .gp 273 [yqu,.sl yqu] [yqu] [] fun(p0:Int) (p1:Li)=>(U64 p0/\Us p1/\p1.length<=1099511627776,(hashS p0 p1:Int),())
theorem k8o:kgx.Ok Tryz.prog TB:=qrv Bs Tryz.func273 .no (ky.c c0) (Q:=∀(p0:Int) (p1:Li),(U64 p0/\Us p1/\p1.length<=1099511627776)->∀r0:Int,hashS p0 p1=r0-> 
((18446744069414584321:Int)=18446744069414584321/\U64 p0/\Us p1/\p1.length<=1099511627776)/\(hashS p0 p1)=r0)<|by rintro p0 p1 h _ rfl;exact⟨⟨rfl,h.1,h.2.1,h.2.2⟩,rfl⟩
noncomputable def kaw:Con TB.den:= .gp 195 [yqu] [yqu] [] fun(p0:Int)=>(U64 p0,(acctS p0:Int),())
theorem kck:kaw.Ok Tryz.prog TB:=qrv Bs Tryz.func195 .no (k8o.c c0) (Q:=∀(p0:Int),(U64 p0)->∀r0:Int,acctS p0=r0-> 
(U64 (7:Int)/\Us [p0]/\[p0].length<=1099511627776)/\(hashS (7:Int) [p0])=r0)<|by rintro p0 h _ rfl;exact⟨⟨by decide,(by intro x hx;rw[qag]at hx;subst hx;exact h),by simp⟩,rfl⟩
noncomputable def k7x:Con TB.den:= .gp 366 [.sl yqu] [.bool] [] fun(p0:Li)=>(p0.length<=9223372036854775807,(allB p0:Bool),())
theorem k8d:k7x.Ok Tryz.prog TB:=qrv Bs Tryz.func366 (.r 0 (.nd [] (.r 0 (.lp [] ⟨[],[],[7],[.one (zqi)],[]⟩ .no)) [] .no)) c0 (Q:=∀(p0:Li),(p0.length<=9223372036854775807)->∀r0:Bool,allB p0=r0-> 
 ∃(I1:Int->Prop) (M1:Int->Nat),I1 0/\∀b1,(I1 b1->
(decide (b1<(p0.length:Int))=true->
(0<=b1)/\b1<(p0.length:Int)/\let v1:Bool:=decide (18446744069414584321<=(ix p0 b1))
(v1=true->
 false=r0)/\
(v1=false->
 I1 (i64.wrap (b1+1))/\M1 (i64.wrap (b1+1))<M1 b1))/\
(decide (b1<(p0.length:Int))=false->
 true=r0)))<|by rintro p0 h _ rfl;refine(⟨(AllI (fun x=>decide (x<18446744069414584321)) p0),(fun i=>(p0.length-i).toNat),AllI.start,?_⟩);intro i hi;refine⟨fun hh=> ?_,fun hh=>(hi.done (qc hh)).symm⟩;have hh:=qb hh;exact⟨hi.1,hh,fun e=>(hi.bad hh (by simpa using e)).symm,fun e=>hi.next hh qqo (by simpa using e)⟩
noncomputable def k4p:Con TB.den:= .g (gk 367 [.one (.own 0),.one (zqu)] [.tip yqb] (.one (.one (.own 0)))) [yqu,.sl yqb] [.sl yqb] [] fun(p1:Int) (w0:Li)=>(U64 p1/\w0.length<=137438953472,(w0++dig 8 p1:Li),())
theorem k59:k4p.Ok Tryz.prog TB:=prv Bs Tryz.func367 (.r 0 (.nd [] (.r 0 (.lp [] ⟨[0],[.tip yqb],[0,1,5],[.one (.own 0),.one (zqu),.one (zqi)],[]⟩ .no)) [] .no)) c0 (Q:=∀(p1:Int) (w0:Li),(U64 p1/\w0.length<=137438953472)->∀e0:Li,(w0++dig 8 p1)=e0-> 
(w0=w0)/\∃(I1:Int->Int->(Li)->Prop) (M1:Int->Int->(Li)->Nat),I1 p1 0 w0/\∀b1 f1 i1,(I1 b1 f1 i1->
(decide (f1<8)=true->
 lz i1/\(i1.length+[IntKind.u8.wrap b1].length)*1<=140737488355328/\i1.length+[IntKind.u8.wrap b1].length<=maxLen/\(i1++[IntKind.u8.wrap b1]=i1++[IntKind.u8.wrap b1])/\I1 (ishr .u64 b1 8) (i64.wrap (f1+1)) (i1++[IntKind.u8.wrap b1])/\M1 (ishr .u64 b1 8) (i64.wrap (f1+1)) (i1++[IntKind.u8.wrap b1])<M1 b1 f1 i1)/\
(decide (f1<8)=false->
(i1=i1)/\i1=e0)))<|by
 rintro p1 w0 h _ rfl;obtain⟨h1,h2⟩:=h;refine⟨rfl,⟨(fun n i g=>0<=i/\i<=8/\U64 n/\n=p1/256^i.toNat/\g=w0++dig i.toNat p1),(fun _ i _=>(8-i).toNat),⟨by omega,by omega,h1,by simp,by simp[dig]⟩,?_⟩⟩;rintro n i g ⟨g0,g1,g2,g3,rfl⟩;refine⟨fun h=> ?_,fun h=> ?_⟩
 ·have h:=qb h;rw[inc i 8 g0 h qqo,ishr8,u8w];refine⟨rfl,?_,?_,rfl,⟨by omega,by omega,⟨by omega,by omega⟩,?_,?_⟩,by(first|omega|(dsimp only;omega))⟩
  ·simp;omega
  ·simp;unfold maxLen;omega
  ·rw[g3,show(i+1).toNat=i.toNat+1 by omega,qec (qea (k2s _)),qdm]
  ·rw[show(i+1).toNat=i.toNat+1 by omega,kb2,qz,g3]
 ·have h:=qc h;exact⟨rfl,by rw[show i=8 by omega];rfl⟩
noncomputable def ken:Con TB.den:= .gp 274 [.sl yqu,.sl yqu] [.str] [] fun(p0 p1:Li)=>(Us p0/\Us p1/\p0.length<=1073741824/\p1.length<=1073741824,(keyB p1 p0:ByteArray),())
theorem kh9:ken.Ok Tryz.prog TB:=qrv Bs Tryz.func274 (.r 1 (.nd [] (.r 0 (.lp [.frz 0 [5]] ⟨[1],[.tip yqb],[5,19],[.one (.own 0),.one (zqi)],[]⟩ .no)) [] (.nd [] (.r 0 (.lp [] ⟨[1],[.tip yqb],[5,29],[.one (.own 0),.one (zqi)],[]⟩ .no)) [] .no))) (k59.c c0) (Q:=∀(p0 p1:Li),(Us p0/\Us p1/\p0.length<=1073741824/\p1.length<=1073741824)->∀r0:ByteArray,keyB p1 p0=r0-> 
 let v1:Int:=i64.wrap ((p1.length:Int)+(p0.length:Int))
 0<=(0:Int)/\(0:Int)<=i64.wrap (8*v1)/\((i64.wrap (8*v1)).toNat*1<=140737488355328)/\((i64.wrap (8*v1)).toNat<=maxLen)/\(0=(List.replicate 0 (0:Int)).length)/\(List.replicate 0 (0:Int)=List.replicate 0 (0:Int))/\∃(I1:Int->(Li)->Prop) (M1:Int->(Li)->Nat),I1 0 (List.replicate 0 (0:Int))/\∀b1 f1,(I1 b1 f1->
(decide (b1<(p1.length:Int))=true->
(0<=b1)/\b1<(p1.length:Int)/\(f1=f1)/\(U64 (ix p1 b1)/\f1.length<=137438953472)/\((f1++dig 8 (ix p1 b1))=(f1++dig 8 (ix p1 b1)))/\I1 (i64.wrap (b1+1)) (f1++dig 8 (ix p1 b1))/\M1 (i64.wrap (b1+1)) (f1++dig 8 (ix p1 b1))<M1 b1 f1)/\
(decide (b1<(p1.length:Int))=false->
(f1=f1)/\∃(I2:Int->(Li)->Prop) (M2:Int->(Li)->Nat),I2 0 f1/\∀i1 k1,(I2 i1 k1->
(decide (i1<(p0.length:Int))=true->
(0<=i1)/\i1<(p0.length:Int)/\(k1=k1)/\(U64 (ix p0 i1)/\k1.length<=137438953472)/\((k1++dig 8 (ix p0 i1))=(k1++dig 8 (ix p0 i1)))/\I2 (i64.wrap (i1+1)) (k1++dig 8 (ix p0 i1))/\M2 (i64.wrap (i1+1)) (k1++dig 8 (ix p0 i1))<M2 i1 k1)/\
(decide (i1<(p0.length:Int))=false->
 strOfNums k1=r0)))))<|by
 rintro p0 p1 h _ rfl;obtain⟨h0,h1,h2,h3⟩:=h;refine ?_;rw[wi ((p1.length:Int)+p0.length) qqo qqo];dsimp only;rw[wi (8*((p1.length:Int)+p0.length)) qqo qqo];refine⟨by omega,by omega,by omega,by unfold maxLen;omega,rfl,rfl,?_⟩;refine⟨(fun i g=>FlatI (dig 8) [] p1 i g),(fun i _=>(p1.length-i).toNat),FlatI.start,?_⟩;intro i g hg;have hl:=hg.len 8 (fun x _=>by simp);refine⟨fun hh=> ?_,fun hh=> ?_⟩
 ·have hh:=qb hh;exact⟨hg.1,hh,rfl,⟨h1 _ (ix_mem p1 i hg.1 hh),by simp at hl;omega⟩,rfl,hg.next hh qqo rfl⟩
 ·have hh:=qc hh;have e:=hg.done hh;refine⟨rfl,⟨(fun j g=>FlatI (dig 8) (p1.flatMap (dig 8)) p0 j g),(fun j _=>(p0.length-j).toNat),(by rw[e];exact FlatI.start),?_⟩⟩;intro j g2 hg2;have hl2:=hg2.len 8 (fun x _=>by simp);have hl3:=k2u p1;refine⟨fun hh2=> ?_,fun hh2=> ?_⟩
  ·have hh2:=qb hh2;exact⟨hg2.1,hh2,rfl,⟨h0 _ (ix_mem p0 j hg2.1 hh2),by omega⟩,rfl,hg2.next hh2 qqo rfl⟩
  ·rw[hg2.done (qc hh2)];rfl
noncomputable def kcy:Con TB.den:= .g (gk 271 [.one (.ptr 0 0),.one (zqu),.one (zql)] yQ (.tup [.one (zqu),.one (.d (.bool))])) [yqu,.sl yqu,.bool,yqu,yqi,.sl (.st 4),.sl (.str),.sl yqi,.sl (.str),.sl (.sl yqu),.sl (.str),.sl (.bool)] yV [] fun(p1:Int) (p2:Li) (Ac:Bool) (Aa Ae:Int) (Ab:List wD) (w1k:Lb) (w1v:Li) (w2k:Lb) (w2v:List (Li)) (w3k:Lb) (w3v:Lo)=>(U64 p1/\Us p2/\p2.length<=1073741824/\OrOk w1k w1v Ab,((pk Ac Ab w1k w1v p1 p2).getD 0:Int),((pk Ac Ab w1k w1v p1 p2).isSome:Bool),Ac,Aa,Ae,Ab,w1k,w1v,w2k,w2v,w3k,w3v,())
theorem k63:kcy.Ok Tryz.prog TB:=prv Bs Tryz.func271 .no (k8d.c (kh9.c (ky.c c0))) (Q:=∀(p1:Int) (p2:Li) (Ac:Bool) (Aa Ae:Int) (Ab:List wD) (w1k:Lb) (w1v:Li) (w2k:Lb) (w2v:List (Li)) (w3k:Lb) (w3v:Lo),(U64 p1/\Us p2/\p2.length<=1073741824/\OrOk w1k w1v Ab)->∀r0:Int,((pk Ac Ab w1k w1v p1 p2).getD 0)=r0->∀r1:Bool,((pk Ac Ab w1k w1v p1 p2).isSome)=r1->∀Ay:Bool,Ac=Ay->∀Aq:Int,Aa=Aq->∀Aw:Int,Ae=Aw->∀Ax:List wD,Ab=Ax->∀e1k:Lb,w1k=e1k->∀e1v:Li,w1v=e1v->∀e2k:Lb,w2k=e2k->∀e2v:List (Li),w2v=e2v->∀e3k:Lb,w3k=e3k->∀e3v:Lo,w3v=e3v-> 
(p2.length<=9223372036854775807)/\((!(allB p2))=true->
 0=r0/\false=r1/\Ac=Ay/\Aa=Aq/\Ae=Aw/\Ab=Ax/\w1k=e1k/\w1v=e1v/\w2k=e2k/\w2v=e2v/\w3k=e3k/\w3v=e3v)/\
((!(allB p2))=false->
(Us p2/\Us [p1]/\p2.length<=1073741824/\[p1].length<=1073741824)/\w1k.length=w1v.length/\let v2:Int:=mVal (BEq.beq (keyB [p1] p2)) w1k w1v (0:Int)
(mHas (BEq.beq (keyB [p1] p2)) w1k=true->
(0<=v2)/\v2<(Ab.length:Int)/\(ix Ab v2).wBA=r0/\true=r1/\Ac=Ay/\Aa=Aq/\Ae=Aw/\Ab=Ax/\w1k=e1k/\w1v=e1v/\w2k=e2k/\w2v=e2v/\w3k=e3k/\w3v=e3v)/\
(mHas (BEq.beq (keyB [p1] p2)) w1k=false->
(Ac=true->
 0=r0/\false=r1/\Ac=Ay/\Aa=Aq/\Ae=Aw/\Ab=Ax/\w1k=e1k/\w1v=e1v/\w2k=e2k/\w2v=e2v/\w3k=e3k/\w3v=e3v)/\
(Ac=false->
((18446744069414584321:Int)=18446744069414584321/\U64 p1/\Us p2/\p2.length<=1099511627776)/\(hashS p1 p2)=r0/\true=r1/\Ac=Ay/\Aa=Aq/\Ae=Aw/\Ab=Ax/\w1k=e1k/\w1v=e1v/\w2k=e2k/\w2v=e2v/\w3k=e3k/\w3v=e3v))))<|by
 rintro p1 p2 Ac Aa Ae Ab w1k w1v w2k w2v w3k w3v h;repeat rintro _ rfl
 obtain⟨h1,h2,h3,ho⟩:=h;have hu:Us [p1]:=by intro x hx;rw[qag]at hx;subst hx;exact h1
 refine⟨by omega,fun e=> ?_,fun e=>⟨⟨h2,hu,h3,by simp⟩,ho.len,fun hm=> ?_,fun hm=>⟨fun hi=> ?_,fun hi=>⟨⟨rfl,h1,h2,by omega⟩,?_⟩⟩⟩⟩
 ·have e:allB p2=false:=by simpa using e
  simp[pk,e]
 ·have e:allB p2=true:=by simpa using e
  have hv:=ho.rng _ (ko3 (z:=(0:Int)) hm ho.len);refine⟨hv.1,hv.2,?_⟩;simp[pk,e,hm]
 ·have e:allB p2=true:=by simpa using e
  simp[pk,e,hm,hi]
 ·have e:allB p2=true:=by simpa using e
  simp[pk,e,hm,hi]
noncomputable def kej:Con TB.den:= .tp 270 [.st 15] [.bool] [] fun(p0:wU)=>((noteV p0:Bool),())
theorem k3o:kej.Ok Tryz.prog TB:=qtv Bs Tryz.func270 .no c0 (Q:=∀(p0:wU),∀r0:Bool,noteV p0=r0-> 
(decide (p0.Value<=4294967295)=true->
(decide (p0.wAs<18446744069414584321)=true->
(decide (p0.Rho<18446744069414584321)=true->
 decide (p0.wAu<18446744069414584321)=r0)/\
(decide (p0.Rho<18446744069414584321)=false->
 false=r0))/\
(decide (p0.wAs<18446744069414584321)=false->
 false=r0))/\
(decide (p0.Value<=4294967295)=false->
 false=r0))<|by rintro p0 _ rfl;refine ?_;unfold noteV;grind
noncomputable def k9z:Con TB.den:= .tp 272 [.st 15] [.sl yqu] [] fun(p0:wU)=>((noteL p0:Li),())
theorem kc9:k9z.Ok Tryz.prog TB:=qtv Bs Tryz.func272 .no c0 (Q:=∀(p0:wU),∀r0:Li,noteL p0=r0-> 
[p0.Value,p0.wAs,p0.Rho,p0.wAu]=r0)<|by rintro p0 _ rfl;exact rfl
noncomputable def k7z:Con TB.den:= .g (gk 194 [.one (.ptr 0 0),.agg [zqu,zqu,zqu,zqu]] yQ (.tup [.one (zqu),.one (.d (.bool))])) [.st 15,.bool,yqu,yqi,.sl (.st 4),.sl (.str),.sl yqi,.sl (.str),.sl (.sl yqu),.sl (.str),.sl (.bool)] yV [] fun(p1:wU) (Ac:Bool) (Aa Ae:Int) (Ab:List wD) (w1k:Lb) (w1v:Li) (w2k:Lb) (w2v:List (Li)) (w3k:Lb) (w3v:Lo)=>(NR p1/\OrOk w1k w1v Ab,((commP (pk Ac Ab w1k w1v) p1).getD 0:Int),((commP (pk Ac Ab w1k w1v) p1).isSome:Bool),Ac,Aa,Ae,Ab,w1k,w1v,w2k,w2v,w3k,w3v,())
theorem k27:k7z.Ok Tryz.prog TB:=prv Bs Tryz.func194 .no (k3o.c (kc9.c (k63.c c0))) (Q:=∀(p1:wU) (Ac:Bool) (Aa Ae:Int) (Ab:List wD) (w1k:Lb) (w1v:Li) (w2k:Lb) (w2v:List (Li)) (w3k:Lb) (w3v:Lo),(NR p1/\OrOk w1k w1v Ab)->∀r0:Int,((commP (pk Ac Ab w1k w1v) p1).getD 0)=r0->∀r1:Bool,((commP (pk Ac Ab w1k w1v) p1).isSome)=r1->∀Ay:Bool,Ac=Ay->∀Aq:Int,Aa=Aq->∀Aw:Int,Ae=Aw->∀Ax:List wD,Ab=Ax->∀e1k:Lb,w1k=e1k->∀e1v:Li,w1v=e1v->∀e2k:Lb,w2k=e2k->∀e2v:List (Li),w2v=e2v->∀e3k:Lb,w3k=e3k->∀e3v:Lo,w3v=e3v-> 
((!(noteV p1))=true->
 0=r0/\false=r1/\Ac=Ay/\Aa=Aq/\Ae=Aw/\Ab=Ax/\w1k=e1k/\w1v=e1v/\w2k=e2k/\w2v=e2v/\w3k=e3k/\w3v=e3v)/\
((!(noteV p1))=false->
(U64 (2:Int)/\Us (noteL p1)/\(noteL p1).length<=1073741824/\OrOk w1k w1v Ab)/\let r2:Int:=((pk Ac Ab w1k w1v (2:Int) (noteL p1)).getD 0)
 let r3:Bool:=((pk Ac Ab w1k w1v (2:Int) (noteL p1)).isSome)
 r2=r0/\r3=r1/\Ac=Ay/\Aa=Aq/\Ae=Aw/\Ab=Ax/\w1k=e1k/\w1v=e1v/\w2k=e2k/\w2v=e2v/\w3k=e3k/\w3v=e3v))<|by
 rintro p1 Ac Aa Ae Ab w1k w1v w2k w2v w3k w3v h;repeat rintro _ rfl
 obtain⟨h1,ho⟩:=h
 have hu:Us (noteL p1):=by
  intro x hx;simp only[noteL,qak,qet,or_false]at hx;rcases hx with rfl|rfl|rfl|rfl
  ·exact h1.v
  ·exact h1.o
  ·exact h1.r
  ·exact h1.b
 refine ?_;simp only[km2];unfold commP;refine⟨fun e=> ?_,fun e=>⟨⟨by decide,hu,by simp[noteL],ho⟩,?_⟩⟩
 ·have e:noteV p1=false:=by simpa using e
  simp[e]
 ·have e:noteV p1=true:=by simpa using e
  simp[e]
noncomputable def k86:Con TB.den:= .gp 196 [.st 16] [yqu] [] fun(p0:wj)=>(p0.Ins.length<=9223372036854775807,(inS p0.Ins:Int),())
theorem k8k:k86.Ok Tryz.prog TB:=qrv Bs Tryz.func196 (.r 1 (.nd [] (.r 0 (.lp [] ⟨[],[],[3,9],[.one (zqu),.one (zqi)],[]⟩ .no)) [] .no)) c0 (Q:=∀(p0:wj),(p0.Ins.length<=9223372036854775807)->∀r0:Int,inS p0.Ins=r0-> 
 ∃(I1:Int->Int->Prop) (M1:Int->Int->Nat),I1 0 0/\∀b1 f1,(I1 b1 f1->
(decide (f1<(p0.Ins.length:Int))=true->
(0<=f1)/\f1<(p0.Ins.length:Int)/\let v1:Int:=u64.wrap (b1+((ix p0.Ins f1).ww))
 I1 v1 (i64.wrap (f1+1))/\M1 v1 (i64.wrap (f1+1))<M1 b1 f1)/\
(decide (f1<(p0.Ins.length:Int))=false->
 b1=r0)))<|by rintro p0 h _ rfl;refine(⟨(fun s i=>FoldI (fun s x=>(s+x.ww)%18446744073709551616) 0 p0.Ins i s),(fun s i=>(p0.Ins.length-i).toNat),FoldI.start,?_⟩);intro s i hi;refine⟨fun hh=> ?_,fun hh=>hi.done (qc hh)⟩;have hh:=qb hh;exact⟨hi.1,hh,hi.next hh qqo (by rw[u64w])⟩
noncomputable def k7d:Con TB.den:= .gp 197 [.st 16] [yqu] [] fun(p0:wj)=>(p0.wC.length<=9223372036854775807,(outS p0.wC:Int),())
theorem k2z:k7d.Ok Tryz.prog TB:=qrv Bs Tryz.func197 (.r 1 (.nd [] (.r 0 (.lp [] ⟨[],[],[3,9],[.one (zqu),.one (zqi)],[]⟩ .no)) [] .no)) c0 (Q:=∀(p0:wj),(p0.wC.length<=9223372036854775807)->∀r0:Int,outS p0.wC=r0-> 
 ∃(I1:Int->Int->Prop) (M1:Int->Int->Nat),I1 0 0/\∀b1 f1,(I1 b1 f1->
(decide (f1<(p0.wC.length:Int))=true->
(0<=f1)/\f1<(p0.wC.length:Int)/\let v1:Int:=u64.wrap (b1+((ix p0.wC f1).Value))
 I1 v1 (i64.wrap (f1+1))/\M1 v1 (i64.wrap (f1+1))<M1 b1 f1)/\
(decide (f1<(p0.wC.length:Int))=false->
 b1=r0)))<|by rintro p0 h _ rfl;refine(⟨(fun s i=>FoldI (fun s x=>(s+x.Value)%18446744073709551616) 0 p0.wC i s),(fun s i=>(p0.wC.length-i).toNat),FoldI.start,?_⟩);intro s i hi;refine⟨fun hh=> ?_,fun hh=>hi.done (qc hh)⟩;have hh:=qb hh;exact⟨hi.1,hh,hi.next hh qqo (by rw[u64w])⟩
noncomputable def k5z:Con TB.den:= .gp 264 [.sl yqu] [.bool] [] fun(p0:Li)=>(p0.length<=9223372036854775807,(allB p0:Bool),())
theorem k2t:k5z.Ok Tryz.prog TB:=qrv Bs Tryz.func264 (.r 0 (.nd [] (.r 0 (.lp [] ⟨[],[],[7],[.one (zqi)],[]⟩ .no)) [] .no)) c0 (Q:=∀(p0:Li),(p0.length<=9223372036854775807)->∀r0:Bool,allB p0=r0-> 
 ∃(I1:Int->Prop) (M1:Int->Nat),I1 0/\∀b1,(I1 b1->
(decide (b1<(p0.length:Int))=true->
(0<=b1)/\b1<(p0.length:Int)/\let v1:Bool:=decide (18446744069414584321<=(ix p0 b1))
(v1=true->
 false=r0)/\
(v1=false->
 I1 (i64.wrap (b1+1))/\M1 (i64.wrap (b1+1))<M1 b1))/\
(decide (b1<(p0.length:Int))=false->
 true=r0)))<|by rintro p0 h _ rfl;refine(⟨(AllI (fun x=>decide (x<18446744069414584321)) p0),(fun i=>(p0.length-i).toNat),AllI.start,?_⟩);intro i hi;refine⟨fun hh=> ?_,fun hh=>(hi.done (qc hh)).symm⟩;have hh:=qb hh;exact⟨hi.1,hh,fun e=>(hi.bad hh (by simpa using e)).symm,fun e=>hi.next hh qqo (by simpa using e)⟩
noncomputable def k92:Con TB.den:= .gp 266 [.sl (.st 15)] [.bool] [] fun(p0:List wU)=>(p0.length<=9223372036854775807,(p0.all noteV:Bool),())
theorem k9r:k92.Ok Tryz.prog TB:=qrv Bs Tryz.func266 (.r 0 (.nd [] (.r 0 (.lp [] ⟨[],[],[7],[.one (zqi)],[]⟩ .no)) [] .no)) (k3o.c c0) (Q:=∀(p0:List wU),(p0.length<=9223372036854775807)->∀r0:Bool,p0.all noteV=r0-> 
 ∃(I1:Int->Prop) (M1:Int->Nat),I1 0/\∀b1,(I1 b1->
(decide (b1<(p0.length:Int))=true->
(0<=b1)/\b1<(p0.length:Int)/\((!(noteV (ix p0 b1)))=true->
 false=r0)/\
((!(noteV (ix p0 b1)))=false->
 I1 (i64.wrap (b1+1))/\M1 (i64.wrap (b1+1))<M1 b1))/\
(decide (b1<(p0.length:Int))=false->
 true=r0)))<|by rintro p0 h _ rfl;refine(⟨(AllI noteV p0),(fun i=>(p0.length-i).toNat),AllI.start,?_⟩);intro i hi;refine⟨fun hh=> ?_,fun hh=>(hi.done (qc hh)).symm⟩;have hh:=qb hh;exact⟨hi.1,hh,fun e=>(hi.bad hh (by simpa using e)).symm,fun e=>hi.next hh qqo (by simpa using e)⟩
noncomputable def k5l:Con TB.den:= .gp 265 [.st 14] [.bool] [] fun(p0:wR)=>(p0.wAA.length<=9223372036854775807,(spendV p0:Bool),())
theorem k67:k5l.Ok Tryz.prog TB:=qrv Bs Tryz.func265 .no (k3o.c (k2t.c c0)) (Q:=∀(p0:wR),(p0.wAA.length<=9223372036854775807)->∀r0:Bool,spendV p0=r0-> 
 let r1:Bool:=(noteV (wU.mk p0.ww p0.wAE p0.wAH p0.wAU))
(r1=true->
([p0.Key].length<=9223372036854775807)/\((allB [p0.Key])=true->
(decide (0<=p0.wAd)=true->
(decide (p0.wAd<4)=true->
(decide (0<=p0.wN)=true->
(decide (p0.wN<=4095)=true->
(decide ((p0.wAA.length:Int)<=12)=true->
(p0.wAA.length<=9223372036854775807)/\(allB p0.wAA)=r0)/\
(decide ((p0.wAA.length:Int)<=12)=false->
 false=r0))/\
(decide (p0.wN<=4095)=false->
 false=r0))/\
(decide (0<=p0.wN)=false->
 false=r0))/\
(decide (p0.wAd<4)=false->
 false=r0))/\
(decide (0<=p0.wAd)=false->
 false=r0))/\
((allB [p0.Key])=false->
 false=r0))/\
(r1=false->
 false=r0))<|by
 rintro p0 h _ rfl;have e1:allB [p0.Key]=decide (p0.Key<18446744069414584321):=by simp[allB]
 have e2:(decide ((p0.wAA.length:Int)<=12))=decide (p0.wAA.length<=12):=by congr 1;apply propext;omega
 refine ?_;simp only[e1,e2];unfold spendV noteOf;have:[p0.Key].length<=9223372036854775807:=by simp
 grind
noncomputable def k93:Con TB.den:= .gp 192 [.st 13,.st 16] [.bool] [] fun(p0:wAC) (p1:wj)=>(SR p0/\WR p1,(relV p0 p1:Bool),())
theorem k9n:k93.Ok Tryz.prog TB:=qrv Bs Tryz.func192 (.r 5 (.nd [] (.r 0 (.lp [] ⟨[],[],[95],[.one (zqi)],[]⟩ .no)) [] .no)) (k2t.c (k67.c (k9r.c c0))) (Q:=∀(p0:wAC) (p1:wj),(SR p0/\WR p1)->∀r0:Bool,relV p0 p1=r0-> 
(decide (p0.wB<1)=true->
 false=r0)/\
(decide (p0.wB<1)=false->
(decide (12<p0.wB)=true->
 false=r0)/\
(decide (12<p0.wB)=false->
([p0.we,p0.wX,p0.wBP,p1.wAM].length<=9223372036854775807)/\let r1:Bool:=(allB [p0.we,p0.wX,p0.wBP,p1.wAM])
((!r1)=true->
 false=r0)/\
((!r1)=false->
(decide (4294967295<p0.wQ)=true->
 false=r0)/\
(decide (4294967295<p0.wQ)=false->
(decide (4294967295<p0.wT)=true->
 false=r0)/\
(decide (4294967295<p0.wT)=false->
(decide (4294967295<p0.Fee)=true->
 false=r0)/\
(decide (4294967295<p0.Fee)=false->
(p0.wI.length<=9223372036854775807)/\((!(allB p0.wI))=true->
 false=r0)/\
((!(allB p0.wI))=false->
(p0.wx.length<=9223372036854775807)/\((!(allB p0.wx))=true->
 false=r0)/\
((!(allB p0.wx))=false->
(p0.wAV.length<=9223372036854775807)/\((!(allB p0.wAV))=true->
 false=r0)/\
((!(allB p0.wAV))=false->
 let v2:Bool:=((p1.Ins.length:Int) !=(p0.wI.length:Int))
(v2=true->
 false=r0)/\
(v2=false->
(decide (4<(p1.Ins.length:Int))=true->
 false=r0)/\
(decide (4<(p1.Ins.length:Int))=false->
 let v3:Bool:=((p1.wC.length:Int) !=(p0.wx.length:Int))
(v3=true->
 false=r0)/\
(v3=false->
 let v4:Bool:=((p1.wC.length:Int) !=(p0.wAV.length:Int))
(v4=true->
 false=r0)/\
(v4=false->
(decide (4<(p1.wC.length:Int))=true->
 false=r0)/\
(decide (4<(p1.wC.length:Int))=false->
 ∃(I1:Int->Prop) (M1:Int->Nat),I1 0/\∀b1,(I1 b1->
(decide (b1<(p1.Ins.length:Int))=true->
(0<=b1)/\b1<(p1.Ins.length:Int)/\((ix p1.Ins b1).wAA.length<=9223372036854775807)/\((!(spendV (ix p1.Ins b1)))=true->
 false=r0)/\
((!(spendV (ix p1.Ins b1)))=false->
 let v5:Bool:=((((ix p1.Ins b1).wAA).length:Int) !=p0.wB)
(v5=true->
 false=r0)/\
(v5=false->
(0<=p0.wB)/\let v6:Bool:=decide ((ishl .i64 1 p0.wB)<=((ix p1.Ins b1).wN))
(v6=true->
 false=r0)/\
(v6=false->
 I1 (i64.wrap (b1+1))/\M1 (i64.wrap (b1+1))<M1 b1))))/\
(decide (b1<(p1.Ins.length:Int))=false->
(p1.wC.length<=9223372036854775807)/\(p1.wC.all noteV)=r0)))))))))))))))))<|by
 rintro p0 p1 h _ rfl;obtain⟨hs,hw⟩:=h;have l1:=hs.ml;have l2:=hs.cl;have l3:=hs.rl;have l4:=hw.il;have l5:=hw.ol
 have bad:∀b:Bool,(relV p0 p1=true->b=true)->b=false->false=relV p0 p1:=by
  intro b h hb;cases hr:relV p0 p1 with
  |false=>rfl
  |true=>have:=h hr;rw[this]at hb;cases hb
 have hf:relV p0 p1=true↔(1<=p0.wB/\p0.wB<=12/\allB [p0.we,p0.wX,p0.wBP,p1.wAM]=true/\p0.wQ<=4294967295/\p0.wT<=4294967295/\p0.Fee<=4294967295/\allB p0.wI=true/\allB p0.wx=true/\allB p0.wAV=true/\p1.Ins.length=p0.wI.length/\p1.Ins.length<=4/\p1.wC.length=p0.wx.length/\p1.wC.length=p0.wAV.length/\p1.wC.length<=4/\p1.Ins.all (inV p0.wB)=true/\p1.wC.all noteV=true):=by unfold relV;simp only[qe,qaf,and_assoc]
 have no:¬(1<=p0.wB/\p0.wB<=12/\allB [p0.we,p0.wX,p0.wBP,p1.wAM]=true/\p0.wQ<=4294967295/\p0.wT<=4294967295/\p0.Fee<=4294967295/\allB p0.wI=true/\allB p0.wx=true/\allB p0.wAV=true/\p1.Ins.length=p0.wI.length/\p1.Ins.length<=4/\p1.wC.length=p0.wx.length/\p1.wC.length=p0.wAV.length/\p1.wC.length<=4/\p1.Ins.all (inV p0.wB)=true/\p1.wC.all noteV=true)->false=relV p0 p1:=by
  intro h;cases hr:relV p0 p1 with
  |false=>rfl
  |true=>exact(h (hf.1 hr)).elim
 clear bad;refine⟨fun h=>no fun a=> ?_,fun h1=>⟨fun h=>no fun a=> ?_,fun h2=>⟨by simp,fun h=>no fun a=> ?_,fun h3=>⟨fun h=>no fun a=> ?_,fun h4=>⟨fun h=>no fun a=> ?_,fun h5=>⟨fun h=>no fun a=> ?_,fun h6=>⟨by omega,fun h=>no fun a=> ?_,fun h7=>⟨by omega,fun h=>no fun a=> ?_,fun h8=>⟨by omega,fun h=>no fun a=> ?_,fun h9=>⟨fun h=>no fun a=> ?_,fun h10=>⟨fun h=>no fun a=> ?_,fun h11=>⟨fun h=>no fun a=> ?_,fun h12=>⟨fun h=>no fun a=> ?_,fun h13=>⟨fun h=>no fun a=> ?_,fun h14=> ?_⟩⟩⟩⟩⟩⟩⟩⟩⟩⟩⟩⟩⟩⟩
 ·have h:=qb h;omega
 ·have h:=qb h;omega
 ·rw[a.2.2.1]at h;cases h
 ·have h:=qb h;omega
 ·have h:=qb h;omega
 ·have h:=qb h;omega
 ·rw[a.2.2.2.2.2.2.1]at h;cases h
 ·rw[a.2.2.2.2.2.2.2.1]at h;cases h
 ·rw[a.2.2.2.2.2.2.2.2.1]at h;cases h
 ·have h:¬(p1.Ins.length:Int)=p0.wI.length:=by simpa using h
  omega
 ·have h:=qb h;omega
 ·have h:¬(p1.wC.length:Int)=p0.wx.length:=by simpa using h
  omega
 ·have h:¬(p1.wC.length:Int)=p0.wAV.length:=by simpa using h
  omega
 ·have h:=qb h;omega
 have h1:=qc h1;have h2:=qc h2;have h3:allB [p0.we,p0.wX,p0.wBP,p1.wAM]=true:=by simpa using h3
 have h4:=qc h4;have h5:=qc h5;have h6:=qc h6;have h7:allB p0.wI=true:=by simpa using h7
 have h8:allB p0.wx=true:=by simpa using h8
 have h9:allB p0.wAV=true:=by simpa using h9
 have h10:(p1.Ins.length:Int)=p0.wI.length:=by simpa using h10
 have h11:=qc h11;have h12:(p1.wC.length:Int)=p0.wx.length:=by simpa using h12
 have h13:(p1.wC.length:Int)=p0.wAV.length:=by simpa using h13
 have h14:=qc h14
 have hd:ishl .i64 1 p0.wB=2^p0.wB.toNat:=by
  have h0:0<=p0.wB/\p0.wB<=12:=by omega
  obtain⟨d,hd⟩:=qo h0.1;rw[hd]at h0 ⊢;have h0:d<=12:=by omega
  have key:∀d:Nat,d<=12->ishl .i64 1 (d:Int)=2^d:=by decide +kernel
  exact key d h0
 refine⟨(AllI (inV p0.wB) p1.Ins),(fun i=>(p1.Ins.length-i).toNat),AllI.start,?_⟩;intro i hi;refine⟨fun hh=> ?_,fun hh=> ?_⟩
 ·have hh:=qb hh;have hx:=hw.i _ (ix_mem p1.Ins i hi.1 hh);have nb:inV p0.wB (ix p1.Ins i)=false->false=relV p0 p1:=fun hb=>no fun a=>by rw[hi.bad hh hb]at a;exact absurd a.2.2.2.2.2.2.2.2.2.2.2.2.2.2.1 qqs
  refine⟨hi.1,hh,by have:=hx.pl;show(ix p1.Ins i).wAA.length<=_;omega,fun e=>nb ?_,fun e=>⟨fun e2=>nb ?_,fun e2=>⟨by omega,fun e3=>nb ?_,fun e3=>hi.next hh qqo ?_⟩⟩⟩
  ·have e:spendV (ix p1.Ins i)=false:=by simpa using e
   simp[inV,e]
  ·have e2:¬((ix p1.Ins i).wAA.length:Int)=p0.wB:=by simpa using e2
   simp[inV,e2]
  ·have e3:=qb e3;rw[hd]at e3;simp only[inV,qfl,decide_eq_false_iff_not];right;omega
  ·have e:spendV (ix p1.Ins i)=true:=by simpa using e
   have e2:((ix p1.Ins i).wAA.length:Int)=p0.wB:=by simpa using e2
   have e3:=qc e3;rw[hd]at e3;simp only[inV,e,Bool.true_and,qe,qaf];exact⟨e2,by(first|omega|(dsimp only;omega))⟩
 ·have ha:=hi.done (qc hh);refine⟨by omega,?_⟩;cases hn:p1.wC.all noteV with
  |false=>exact no fun a=>by rw[hn]at a;exact absurd a.2.2.2.2.2.2.2.2.2.2.2.2.2.2.2 qqs
  |true=>exact(hf.2 ⟨by omega,by omega,h3,by omega,by omega,by omega,h7,h8,h9,by omega,by omega,by omega,by omega,by omega,ha,hn⟩).symm
noncomputable def k9h:Con TB.den:= .gp 269 [yqu,yqi,.sl yqu] [yqu] [] fun(p0 p1:Int) (p2:Li)=>(U64 p0/\Us p2/\p2.length<=1073741824/\p1<=9223372036854775807,(climbS p0 p1 p2:Int),())
theorem k9s:k9h.Ok Tryz.prog TB:=qrv Bs Tryz.func269 (.r 1 (.nd [] (.r 0 (.lp [] ⟨[],[],[32],[.one (zqi)],[]⟩ .no)) [] (.r 0 (.nd [] (.r 0 (.lp [] ⟨[],[],[9,42],[.one (zqu),.one (zqi)],[]⟩ .no)) [] .no)))) (k1t.c c0) (Q:=∀(p0 p1:Int) (p2:Li),(U64 p0/\Us p2/\p2.length<=1073741824/\p1<=9223372036854775807)->∀r0:Int,climbS p0 p1 p2=r0-> 
(decide (12<(p2.length:Int))=true->
 0=r0)/\
(decide (12<(p2.length:Int))=false->
(decide (p1<0)=true->
 0=r0)/\
(decide (p1<0)=false->
(0<=(p2.length:Int))/\let v1:Bool:=decide ((ishl .i64 1 (p2.length:Int))<=p1)
(v1=true->
 0=r0)/\
(v1=false->
(decide (18446744069414584321<=p0)=true->
 0=r0)/\
(decide (18446744069414584321<=p0)=false->
 ∃(I1:Int->Prop) (M1:Int->Nat),I1 0/\∀b1,(I1 b1->
(decide (b1<(p2.length:Int))=true->
(0<=b1)/\b1<(p2.length:Int)/\let v2:Bool:=decide (18446744069414584321<=(ix p2 b1))
(v2=true->
 0=r0)/\
(v2=false->
 I1 (i64.wrap (b1+1))/\M1 (i64.wrap (b1+1))<M1 b1))/\
(decide (b1<(p2.length:Int))=false->
 ∃(I2:Int->Int->Prop) (M2:Int->Int->Nat),I2 p0 0/\∀f1 i1,(I2 f1 i1->
(decide (i1<(p2.length:Int))=true->
(0<=i1)/\i1<(p2.length:Int)/\(0<=i1)/\(((iand .i64 (ishr .i64 p1 i1) 1)==0)=true->
(U64 f1/\U64 (ix p2 i1))/\I2 (hashS 6 [f1,(ix p2 i1)]) (i64.wrap (i1+1))/\M2 (hashS 6 [f1,(ix p2 i1)]) (i64.wrap (i1+1))<M2 f1 i1)/\
(((iand .i64 (ishr .i64 p1 i1) 1)==0)=false->
(U64 (ix p2 i1)/\U64 f1)/\I2 (hashS 6 [(ix p2 i1),f1]) (i64.wrap (i1+1))/\M2 (hashS 6 [(ix p2 i1),f1]) (i64.wrap (i1+1))<M2 f1 i1))/\
(decide (i1<(p2.length:Int))=false->
 f1=r0)))))))))<|by
 rintro p0 p1 p2 h _ rfl;obtain⟨h0,h2,h3,h4⟩:=h;have sh:∀d:Nat,d<=12->ishl .i64 1 (d:Int)=2^d:=by decide +kernel
 refine⟨fun e=> ?_,fun e=>⟨fun e2=> ?_,fun e2=>⟨by omega,fun e3=> ?_,fun e3=>⟨fun e4=> ?_,fun e4=> ?_⟩⟩⟩⟩
 ·have e:=qb e;unfold climbS;rw[qf qqo]
 ·have e2:=qb e2;unfold climbS;rw[qf qqo]
 ·have e:=qc e;have e3:=qb e3;rw[sh _ qqo]at e3;unfold climbS;rw[qf (fun a=>by have:=a.2.2.1;omega)]
 ·have e4:=qb e4;unfold climbS;rw[qf qqo]
 have e:=qc e;have e2:=qc e2;have e3:=qc e3;have e4:=qc e4;rw[sh _ qqo]at e3;refine⟨(AllI (fun x=>decide (x<18446744069414584321)) p2),(fun i=>(p2.length-i).toNat),AllI.start,?_⟩;intro i hi;refine⟨fun hh=> ?_,fun hh=> ?_⟩
 ·have hh:=qb hh;refine⟨hi.1,hh,fun e5=> ?_,fun e5=>hi.next hh qqo (by simpa using e5)⟩;have hb:allB p2=false:=hi.bad hh (by simpa using e5);unfold climbS;rw[qf (fun a=>by rw[hb]at a;exact absurd a.2.2.2.2 qqs)]
 ·have ha:allB p2=true:=hi.done (qc hh);have hc:climbS p0 p1 p2=climbL p0 p1 p2:=by unfold climbS;rw[qi ⟨by omega,by omega,by omega,by omega,ha⟩]
  rw[hc]
  have hpos:p1<4096:=by
   have h1:(2:Int)^p2.length<=2^12:=by exact_mod_cast qco qqo qqo
   omega
  refine⟨(fun d i=>0<=i/\i<=p2.length/\U64 d/\climbL d (p1/2^i.toNat) (p2.drop i.toNat)=climbL p0 p1 p2),(fun d i=>(p2.length-i).toNat),⟨by omega,by omega,h0,by simp⟩,?_⟩;rintro d i ⟨g0,g1,g2,g3⟩;refine⟨fun hh=> ?_,fun hh=> ?_⟩
  ·have hh:=qb hh;have hx:=h2 _ (ix_mem p2 i g0 hh);rw[drop_ix p2 i g0 hh]at g3;have nx:=inc i p2.length g0 hh qqo;have hq:p1/2^i.toNat/2=p1/2^(i+1).toNat:=by rw[show(i+1).toNat=i.toNat+1 by omega,qdm,qec (qea (Int.pow_pos qqo))]
   have hbit:iand .i64 (ishr .i64 p1 i) 1=p1/2^i.toNat%2:=by
    have hs:ishr .i64 p1 i=p1/2^i.toNat:=by rw[k1v,show min i.toNat i64.bits=i.toNat from qca (by show i.toNat<=64;omega)];simp
    rw[hs];have hb0:0<=p1/2^i.toNat:=qeg qqo (qea (Int.pow_pos qqo));have hb1:p1/2^i.toNat<=p1:=Int.ediv_le_self _ qqo;exact k4b _ ⟨hb0,by(first|omega|(dsimp only;omega))⟩
   rw[hbit];have g3:climbL (if p1/2^i.toNat%2=0 then hashS 6 [d,ix p2 i]else hashS 6 [ix p2 i,d]) (p1/2^i.toNat/2) (p2.drop (i+1).toNat)=climbL p0 p1 p2:=g3;rw[hq]at g3;refine⟨g0,hh,g0,fun hb=> ?_,fun hb=> ?_⟩
   ·have hb:p1/2^i.toNat%2=0:=by simpa using hb
    rw[qi hb]at g3;rw[nx];exact⟨⟨g2,hx⟩,⟨by omega,by omega,kj _ _,g3⟩,by(first|omega|(dsimp only;omega))⟩
   ·have hb:¬p1/2^i.toNat%2=0:=by simpa using hb
    rw[qf hb]at g3;rw[nx];exact⟨⟨hx,g2⟩,⟨by omega,by omega,kj _ _,g3⟩,by(first|omega|(dsimp only;omega))⟩
  ·have hh:=qc hh;rw[qav qqo]at g3;exact g3
noncomputable def kab:Con TB.den:= .tp 365 [yqi] [.bool] [] fun(p0:Int)=>((decide (0<=p0)&&decide (p0<4):Bool),())
theorem kba:kab.Ok Tryz.prog TB:=qtv Bs Tryz.func365 .no c0 (Q:=∀(p0:Int),∀r0:Bool,(decide (0<=p0)&&decide (p0<4))=r0-> 
(decide (0<=p0)=true->
 decide (p0<4)=r0)/\
(decide (0<=p0)=false->
 false=r0))<|by rintro p0 _ rfl;refine ?_;grind
noncomputable def kf5:Con TB.den:= .gp 267 [yqu,yqi] [yqu] [] fun(p0 p1:Int)=>(U64 p0/\-9223372036854775808<=p1/\p1<=9223372036854775807,(ownerS p0 p1:Int),())
theorem khg:kf5.Ok Tryz.prog TB:=qrv Bs Tryz.func267 .no (kba.c (k8o.c c0)) (Q:=∀(p0 p1:Int),(U64 p0/\-9223372036854775808<=p1/\p1<=9223372036854775807)->∀r0:Int,ownerS p0 p1=r0-> 
((!(decide (0<=p1)&&decide (p1<4)))=true->
 0=r0)/\
((!(decide (0<=p1)&&decide (p1<4)))=false->
(U64 (1:Int)/\Us [p0,u64.wrap p1]/\[p0,u64.wrap p1].length<=1099511627776)/\let r1:Int:=(hashS (1:Int) [p0,u64.wrap p1])
 r1=r0))<|by
 rintro p0 p1 h _ rfl;obtain⟨h0,h1,h2⟩:=h;refine⟨fun e=> ?_,fun e=> ?_⟩
 ·unfold ownerS;rw[qf (by simp at e;omega)]
 ·have e:0<=p1/\p1<4:=by simpa using e
  rw[wu p1 qqo qqo];refine⟨⟨by decide,?_,by simp⟩,?_⟩
  ·intro x hx;simp only[qak,qet,or_false]at hx;rcases hx with rfl|rfl
   ·exact h0
   ·omega
  ·unfold ownerS;rw[qi e]
noncomputable def kcv:Con TB.den:= .g (gk 268 [.one (.ptr 0 0),.one (zqu),.one (zqu)] yQ (.tup [.one (zqu),.one (.d (.bool))])) [yqu,yqu,.bool,yqu,yqi,.sl (.st 4),.sl (.str),.sl yqi,.sl (.str),.sl (.sl yqu),.sl (.str),.sl (.bool)] yV [] fun(p1 p2:Int) (Ac:Bool) (Aa Ae:Int) (Ab:List wD) (w1k:Lb) (w1v:Li) (w2k:Lb) (w2v:List (Li)) (w3k:Lb) (w3v:Lo)=>(U64 p1/\U64 p2/\OrOk w1k w1v Ab,((markP (pk Ac Ab w1k w1v) p1 p2).getD 0:Int),((markP (pk Ac Ab w1k w1v) p1 p2).isSome:Bool),Ac,Aa,Ae,Ab,w1k,w1v,w2k,w2v,w3k,w3v,())
theorem kf3:kcv.Ok Tryz.prog TB:=prv Bs Tryz.func268 (.r 0 (.nd [] (.jn ⟨[],[],[13],[.one (.d (.bool))],[]⟩ [] .no [] .no) [] .no)) (k63.c c0) (Q:=∀(p1 p2:Int) (Ac:Bool) (Aa Ae:Int) (Ab:List wD) (w1k:Lb) (w1v:Li) (w2k:Lb) (w2v:List (Li)) (w3k:Lb) (w3v:Lo),(U64 p1/\U64 p2/\OrOk w1k w1v Ab)->∀r0:Int,((markP (pk Ac Ab w1k w1v) p1 p2).getD 0)=r0->∀r1:Bool,((markP (pk Ac Ab w1k w1v) p1 p2).isSome)=r1->∀Ay:Bool,Ac=Ay->∀Aq:Int,Aa=Aq->∀Aw:Int,Ae=Aw->∀Ax:List wD,Ab=Ax->∀e1k:Lb,w1k=e1k->∀e1v:Li,w1v=e1v->∀e2k:Lb,w2k=e2k->∀e2v:List (Li),w2v=e2v->∀e3k:Lb,w3k=e3k->∀e3v:Lo,w3v=e3v-> 
 ∀J1:Bool->Prop,(∀(b1:Bool),
((b1=true->
 0=r0/\false=r1/\Ac=Ay/\Aa=Aq/\Ae=Aw/\Ab=Ax/\w1k=e1k/\w1v=e1v/\w2k=e2k/\w2v=e2v/\w3k=e3k/\w3v=e3v)/\
(b1=false->
(U64 (3:Int)/\Us [p1,p2]/\[p1,p2].length<=1073741824/\OrOk w1k w1v Ab)/\let r2:Int:=((pk Ac Ab w1k w1v (3:Int) [p1,p2]).getD 0)
 let r3:Bool:=((pk Ac Ab w1k w1v (3:Int) [p1,p2]).isSome)
 r2=r0/\r3=r1/\Ac=Ay/\Aa=Aq/\Ae=Aw/\Ab=Ax/\w1k=e1k/\w1v=e1v/\w2k=e2k/\w2v=e2v/\w3k=e3k/\w3v=e3v))->J1 b1)->
(decide (18446744069414584321<=p1)=true->
 J1 true)/\
(decide (18446744069414584321<=p1)=false->
 J1 (decide (18446744069414584321<=p2))))<|by
 rintro p1 p2 Ac Aa Ae Ab w1k w1v w2k w2v w3k w3v h;repeat rintro _ rfl
 obtain⟨h1,h2,ho⟩:=h;intro J1 k1
 have j1:∀s:Bool,s=decide (¬(p1<18446744069414584321/\p2<18446744069414584321))->J1 s:=by
  intro s hs;refine k1 _ ⟨fun e=> ?_,fun e=> ?_⟩
  ·rw[e]at hs;have hs:=qb hs.symm;unfold markP;rw[qf hs];exact(by repeat' first|apply qq|exact rfl|exact qn)
  ·rw[e]at hs;have hs:p1<18446744069414584321/\p2<18446744069414584321:=by simpa using hs.symm
   unfold markP;rw[qi hs];refine⟨⟨by decide,?_,by simp,ho⟩,(by repeat' first|apply qq|exact rfl|exact qn)⟩;intro x hx;simp only[qak,qet,or_false]at hx;rcases hx with rfl|rfl
   ·exact h1
   ·exact h2
 refine⟨fun e=>j1 _ ?_,fun e=>j1 _ ?_⟩
 ·have e:=qb e;symm;apply qbr;omega
 ·have e:=qc e;congr 1;apply propext;omega
noncomputable def k7i:Con TB.den:= .g (gk 193 [.one (.ptr 0 0),.agg yG1,.agg yF1,.one (zqu)] yQ (.one (.one (zqi)))) [.st 13,.st 14,yqu,.bool,yqu,yqi,.sl (.st 4),.sl (.str),.sl yqi,.sl (.str),.sl (.sl yqu),.sl (.str),.sl (.bool)] yZ [] fun(p1:wAC) (p2:wR) (p3:Int) (Ac:Bool) (Aa Ae:Int) (Ab:List wD) (w1k:Lb) (w1v:Li) (w2k:Lb) (w2v:List (Li)) (w3k:Lb) (w3v:Lo)=>(PR p2/\OrOk w1k w1v Ab/\(∀l a,(pk Ac Ab w1k w1v) l a=none∨∃n,(pk Ac Ab w1k w1v) l a=some n/\U64 n),(inE (pk Ac Ab w1k w1v) p1.we p3 p2:Int),Ac,Aa,Ae,Ab,w1k,w1v,w2k,w2v,w3k,w3v,())
theorem k7s:k7i.Ok Tryz.prog TB:=prv Bs Tryz.func193 .no (khg.c (kf3.c (k27.c (k9s.c c0)))) (Q:=∀(p1:wAC) (p2:wR) (p3:Int) (Ac:Bool) (Aa Ae:Int) (Ab:List wD) (w1k:Lb) (w1v:Li) (w2k:Lb) (w2v:List (Li)) (w3k:Lb) (w3v:Lo),(PR p2/\OrOk w1k w1v Ab/\(∀l a,(pk Ac Ab w1k w1v) l a=none∨∃n,(pk Ac Ab w1k w1v) l a=some n/\U64 n))->∀r0:Int,(inE (pk Ac Ab w1k w1v) p1.we p3 p2)=r0->∀Ay:Bool,Ac=Ay->∀Aq:Int,Aa=Aq->∀Aw:Int,Ae=Aw->∀Ax:List wD,Ab=Ax->∀e1k:Lb,w1k=e1k->∀e1v:Li,w1v=e1v->∀e2k:Lb,w2k=e2k->∀e2v:List (Li),w2v=e2v->∀e3k:Lb,w3k=e3k->∀e3v:Lo,w3v=e3v-> 
(U64 p2.Key/\-9223372036854775808<=p2.wAd/\p2.wAd<=9223372036854775807)/\let v1:Bool:=(p2.wAE !=(ownerS p2.Key p2.wAd))
(v1=true->
 21=r0/\Ac=Ay/\Aa=Aq/\Ae=Aw/\Ab=Ax/\w1k=e1k/\w1v=e1v/\w2k=e2k/\w2v=e2v/\w3k=e3k/\w3v=e3v)/\
(v1=false->
(U64 p2.Key/\U64 p2.wAH/\OrOk w1k w1v Ab)/\let r2:Int:=((markP (pk Ac Ab w1k w1v) p2.Key p2.wAH).getD 0)
 let r3:Bool:=((markP (pk Ac Ab w1k w1v) p2.Key p2.wAH).isSome)
((!r3)=true->
 12=r0/\Ac=Ay/\Aa=Aq/\Ae=Aw/\Ab=Ax/\w1k=e1k/\w1v=e1v/\w2k=e2k/\w2v=e2v/\w3k=e3k/\w3v=e3v)/\
((!r3)=false->
((r2 !=p3)=true->
 12=r0/\Ac=Ay/\Aa=Aq/\Ae=Aw/\Ab=Ax/\w1k=e1k/\w1v=e1v/\w2k=e2k/\w2v=e2v/\w3k=e3k/\w3v=e3v)/\
((r2 !=p3)=false->
(p2.wBM=true->
((p2.ww !=0)=true->
 13=r0/\Ac=Ay/\Aa=Aq/\Ae=Aw/\Ab=Ax/\w1k=e1k/\w1v=e1v/\w2k=e2k/\w2v=e2v/\w3k=e3k/\w3v=e3v)/\
((p2.ww !=0)=false->
 0=r0/\Ac=Ay/\Aa=Aq/\Ae=Aw/\Ab=Ax/\w1k=e1k/\w1v=e1v/\w2k=e2k/\w2v=e2v/\w3k=e3k/\w3v=e3v))/\
(p2.wBM=false->
(NR (wU.mk p2.ww p2.wAE p2.wAH p2.wAU)/\OrOk w1k w1v Ab)/\let r4:Int:=((commP (pk Ac Ab w1k w1v) (wU.mk p2.ww p2.wAE p2.wAH p2.wAU)).getD 0)
 let r5:Bool:=((commP (pk Ac Ab w1k w1v) (wU.mk p2.ww p2.wAE p2.wAH p2.wAU)).isSome)
((!r5)=true->
 11=r0/\Ac=Ay/\Aa=Aq/\Ae=Aw/\Ab=Ax/\w1k=e1k/\w1v=e1v/\w2k=e2k/\w2v=e2v/\w3k=e3k/\w3v=e3v)/\
((!r5)=false->
(U64 r4/\Us p2.wAA/\p2.wAA.length<=1073741824/\p2.wN<=9223372036854775807)/\let v6:Bool:=((climbS r4 p2.wN p2.wAA) !=p1.we)
(v6=true->
 11=r0/\Ac=Ay/\Aa=Aq/\Ae=Aw/\Ab=Ax/\w1k=e1k/\w1v=e1v/\w2k=e2k/\w2v=e2v/\w3k=e3k/\w3v=e3v)/\
(v6=false->
 0=r0/\Ac=Ay/\Aa=Aq/\Ae=Aw/\Ab=Ax/\w1k=e1k/\w1v=e1v/\w2k=e2k/\w2v=e2v/\w3k=e3k/\w3v=e3v)))))))<|by
 rintro p1 p2 p3 Ac Aa Ae Ab w1k w1v w2k w2v w3k w3v h;repeat rintro _ rfl
 obtain⟨hp,ho,hu⟩:=h;have hm:markP (pk Ac Ab w1k w1v) p2.Key p2.wAH=none∨∃n,markP (pk Ac Ab w1k w1v) p2.Key p2.wAH=some n/\U64 n:=by unfold markP;split;exact hu _ _;exact .inl rfl
 have hc:commP (pk Ac Ab w1k w1v) (noteOf p2)=none∨∃n,commP (pk Ac Ab w1k w1v) (noteOf p2)=some n/\U64 n:=by unfold commP;split;exact hu _ _;exact .inl rfl
 have hcu:U64 ((commP (pk Ac Ab w1k w1v) (noteOf p2)).getD 0):=by
  rcases hc with h|⟨n,h,hn⟩
  ·rw[h];decide
  ·rw[h];exact hn
 have en:noteOf p2=⟨p2.ww,p2.wAE,p2.wAH,p2.wAU⟩:=rfl;refine⟨⟨hp.k,hp.nu.1,hp.nu.2⟩,?_⟩;simp only[<-en];unfold inE;refine⟨fun e=> ?_,fun e=>⟨⟨hp.k,hp.n.r,ho⟩,fun e2=> ?_,fun e2=>⟨fun e3=> ?_,fun e3=>⟨fun e4=>⟨fun e5=> ?_,fun e5=> ?_⟩,fun e4=>⟨⟨hp.n,ho⟩,fun e6=> ?_,fun e6=>⟨⟨hcu,hp.pa,hp.pl,hp.po.2⟩,fun e7=> ?_,fun e7=> ?_⟩⟩⟩⟩⟩⟩
 all_goals simp_all
noncomputable def k8i:Con TB.den:= .g (gk 140 [.one (.ptr 0 0),.agg yG1,.agg yH1] yQ (.one (.one (zqi)))) [.st 13,.st 16,.bool,yqu,yqi,.sl (.st 4),.sl (.str),.sl yqi,.sl (.str),.sl (.sl yqu),.sl (.str),.sl (.bool)] yZ [] fun(p1:wAC) (p2:wj) (Ac:Bool) (Aa Ae:Int) (Ab:List wD) (w1k:Lb) (w1v:Li) (w2k:Lb) (w2v:List (Li)) (w3k:Lb) (w3v:Lo)=>(SR p1/\WR p2/\OrOk w1k w1v Ab/\(∀l a,(pk Ac Ab w1k w1v) l a=none∨∃n,(pk Ac Ab w1k w1v) l a=some n/\U64 n),(checkS (pk Ac Ab w1k w1v) p1 p2:Int),Ac,Aa,Ae,Ab,w1k,w1v,w2k,w2v,w3k,w3v,())
abbrev Fz5 (r:Type):=Int->Bool->Int->Int->(List wD)->(Lb)->(Lo)->(Lb)->(List (Li))->(Lb)->(Li)->r
theorem k3s:k8i.Ok Tryz.prog TB:=prv Bs Tryz.func140 (.r 1 (.nd [] (.r 0 (.lp [] ⟨[3,2,1,0],yR,[21],[.one (zqi)],[]⟩ .no)) [] (.nd [] (.r 0 (.lp [] ⟨[3,2,1,0],yR,[42],[.one (zqi)],[]⟩ .no)) [] (.jn ⟨[],[],[],[],[]⟩ [] .no [] .no)))) (k9n.c (k7s.c (k27.c (kck.c (k8k.c (k2z.c c0)))))) (Q:=∀(p1:wAC) (p2:wj) (Ac:Bool) (Aa Ae:Int) (Ab:List wD) (w1k:Lb) (w1v:Li) (w2k:Lb) (w2v:List (Li)) (w3k:Lb) (w3v:Lo),(SR p1/\WR p2/\OrOk w1k w1v Ab/\(∀l a,(pk Ac Ab w1k w1v) l a=none∨∃n,(pk Ac Ab w1k w1v) l a=some n/\U64 n))->∀r0:Int,(checkS (pk Ac Ab w1k w1v) p1 p2)=r0->∀Ay:Bool,Ac=Ay->∀Aq:Int,Aa=Aq->∀Aw:Int,Ae=Aw->∀Ax:List wD,Ab=Ax->∀e1k:Lb,w1k=e1k->∀e1v:Li,w1v=e1v->∀e2k:Lb,w2k=e2k->∀e2v:List (Li),w2v=e2v->∀e3k:Lb,w3k=e3k->∀e3v:Lo,w3v=e3v-> 
(SR p1/\WR p2)/\((!(relV p1 p2))=true->
 1=r0/\Ac=Ay/\Aa=Aq/\Ae=Aw/\Ab=Ax/\w1k=e1k/\w1v=e1v/\w2k=e2k/\w2v=e2v/\w3k=e3k/\w3v=e3v)/\
((!(relV p1 p2))=false->
 ∃(I1:Fz5 Prop) (M1:Fz5 Nat),I1 0 Ac Aa Ae Ab w3k w3v w2k w2v w1k w1v/\∀b1 f1 i1 k1 l1 m1 n1 o1 q1 s1 t1,(I1 b1 f1 i1 k1 l1 m1 n1 o1 q1 s1 t1->
(decide (b1<(p2.Ins.length:Int))=true->
(0<=b1)/\b1<(p2.Ins.length:Int)/\(0<=b1)/\b1<(p1.wI.length:Int)/\(PR (ix p2.Ins b1)/\OrOk s1 t1 l1/\(∀l a,(pk f1 l1 s1 t1) l a=none∨∃n,(pk f1 l1 s1 t1) l a=some n/\U64 n))/\let r1:Int:=(inE (pk f1 l1 s1 t1) p1.we (ix p1.wI b1) (ix p2.Ins b1))
((r1 !=0)=true->
 r1=r0/\f1=Ay/\i1=Aq/\k1=Aw/\l1=Ax/\s1=e1k/\t1=e1v/\o1=e2k/\q1=e2v/\m1=e3k/\n1=e3v)/\
((r1 !=0)=false->
 I1 (i64.wrap (b1+1)) f1 i1 k1 l1 m1 n1 o1 q1 s1 t1/\M1 (i64.wrap (b1+1)) f1 i1 k1 l1 m1 n1 o1 q1 s1 t1<M1 b1 f1 i1 k1 l1 m1 n1 o1 q1 s1 t1))/\
(decide (b1<(p2.Ins.length:Int))=false->
 ∃(I2:Fz5 Prop) (M2:Fz5 Nat),I2 0 f1 i1 k1 l1 m1 n1 o1 q1 s1 t1/\∀u1 x1 y1 b2 f2 i2 k2 l2 m2 n2 o2,(I2 u1 x1 y1 b2 f2 i2 k2 l2 m2 n2 o2->
(decide (u1<(p2.wC.length:Int))=true->
(0<=u1)/\u1<(p2.wC.length:Int)/\(NR (ix p2.wC u1)/\OrOk n2 o2 f2)/\let r2:Int:=((commP (pk x1 f2 n2 o2) (ix p2.wC u1)).getD 0)
 let r3:Bool:=((commP (pk x1 f2 n2 o2) (ix p2.wC u1)).isSome)
((!r3)=true->
 1=r0/\x1=Ay/\y1=Aq/\b2=Aw/\f2=Ax/\n2=e1k/\o2=e1v/\l2=e2k/\m2=e2v/\i2=e3k/\k2=e3v)/\
((!r3)=false->
(0<=u1)/\u1<(p1.wx.length:Int)/\((r2 !=(ix p1.wx u1))=true->
 1=r0/\x1=Ay/\y1=Aq/\b2=Aw/\f2=Ax/\n2=e1k/\o2=e1v/\l2=e2k/\m2=e2v/\i2=e3k/\k2=e3v)/\
((r2 !=(ix p1.wx u1))=false->
(0<=u1)/\u1<(p1.wAV.length:Int)/\let v4:Bool:=(((ix p2.wC u1).Rho) !=(ix p1.wAV u1))
(v4=true->
 1=r0/\x1=Ay/\y1=Aq/\b2=Aw/\f2=Ax/\n2=e1k/\o2=e1v/\l2=e2k/\m2=e2v/\i2=e3k/\k2=e3v)/\
(v4=false->
 I2 (i64.wrap (u1+1)) x1 y1 b2 f2 i2 k2 l2 m2 n2 o2/\M2 (i64.wrap (u1+1)) x1 y1 b2 f2 i2 k2 l2 m2 n2 o2<M2 u1 x1 y1 b2 f2 i2 k2 l2 m2 n2 o2))))/\
(decide (u1<(p2.wC.length:Int))=false->
 ∀J1:Prop,(((p2.Ins.length<=9223372036854775807)/\let v5:Int:=u64.wrap ((inS p2.Ins)+p1.wQ)
(p2.wC.length<=9223372036854775807)/\let v6:Int:=u64.wrap ((outS p2.wC)+p1.wT)
((v5 !=(u64.wrap (v6+p1.Fee)))=true->
 13=r0/\x1=Ay/\y1=Aq/\b2=Aw/\f2=Ax/\n2=e1k/\o2=e1v/\l2=e2k/\m2=e2v/\i2=e3k/\k2=e3v)/\
((v5 !=(u64.wrap (v6+p1.Fee)))=false->
 0=r0/\x1=Ay/\y1=Aq/\b2=Aw/\f2=Ax/\n2=e1k/\o2=e1v/\l2=e2k/\m2=e2v/\i2=e3k/\k2=e3v))->J1)->
(decide (0<p1.wQ)=true->
(U64 p2.wAM)/\((p1.wX !=(acctS p2.wAM))=true->
 21=r0/\x1=Ay/\y1=Aq/\b2=Aw/\f2=Ax/\n2=e1k/\o2=e1v/\l2=e2k/\m2=e2v/\i2=e3k/\k2=e3v)/\
((p1.wX !=(acctS p2.wAM))=false->
 J1))/\
(decide (0<p1.wQ)=false->
 J1)))))))<|by
 rintro p1 p2 Ac Aa Ae Ab w1k w1v w2k w2v w3k w3v h;repeat rintro _ rfl
 obtain⟨hs,hw,ho,hu⟩:=h;refine⟨⟨hs,hw⟩,fun e=> ?_,fun e=> ?_⟩
 ·have e:relV p1 p2=false:=by simpa using e
  unfold checkS;rw[qi e]
  (repeat' apply qq)<;>first|rfl|exact qn
 have e:relV p1 p2=true:=by simpa using e
 have hv:p2.Ins.length=p1.wI.length/\p2.wC.length=p1.wx.length/\p2.wC.length=p1.wAV.length:=by unfold relV at e;simp only[qe,qaf]at e;exact⟨e.1.1.1.1.1.1.2,e.1.1.1.1.2,e.1.1.1.2⟩
 obtain⟨v1,v2,v3⟩:=hv;have hil:=hw.il;have hol:=hw.ol;refine⟨(fun i z0 z1 z2 z3 z4 z5 z6 z7 z8 z9=>(Ac=z0/\Aa=z1/\Ae=z2/\Ab=z3/\w3k=z4/\w3v=z5/\w2k=z6/\w2v=z7/\w1k=z8/\w1v=z9)/\(0<=i/\i<=p2.Ins.length/\insE (pk Ac Ab w1k w1v) p1.we (p2.Ins.drop i.toNat) (p1.wI.drop i.toNat)=insE (pk Ac Ab w1k w1v) p1.we p2.Ins p1.wI)),(fun i _ _ _ _ _ _ _ _ _ _=>(p2.Ins.length-i).toNat),⟨⟨rfl,rfl,rfl,rfl,rfl,rfl,rfl,rfl,rfl,rfl⟩,by omega,by omega,rfl⟩,?_⟩;rintro i _ _ _ _ _ _ _ _ _ _ ⟨⟨rfl,rfl,rfl,rfl,rfl,rfl,rfl,rfl,rfl,rfl⟩,g0,g1,g2⟩;refine⟨fun hh=> ?_,fun hh=> ?_⟩
 ·have hh:=qb hh;have hp:=hw.i _ (ix_mem p2.Ins i g0 hh);have hd:=drop_ix p2.Ins i g0 hh;have hd2:=drop_ix p1.wI i g0 qqo;rw[hd,hd2]at g2;have g2:(if inE (pk Ac Ab w1k w1v) p1.we (ix p1.wI i) (ix p2.Ins i)≠0 then inE (pk Ac Ab w1k w1v) p1.we (ix p1.wI i) (ix p2.Ins i)else insE (pk Ac Ab w1k w1v) p1.we (p2.Ins.drop (i+1).toNat) (p1.wI.drop (i+1).toNat))=insE (pk Ac Ab w1k w1v) p1.we p2.Ins p1.wI:=g2;have nx:=inc i p2.Ins.length g0 hh qqo;refine⟨g0,hh,g0,by omega,⟨hp,ho,hu⟩,?_⟩;refine⟨fun e2=> ?_,fun e2=> ?_⟩
  ·have e2:inE (pk Ac Ab w1k w1v) p1.we (ix p1.wI i) (ix p2.Ins i)≠0:=by simpa using e2
   rw[qi e2]at g2;refine⟨?_,by(repeat' apply qq)<;>first|rfl|exact qn⟩;have g2:_=insE (pk Ac Ab w1k w1v) p1.we p2.Ins p1.wI:=g2;unfold checkS;rw[qf (by simp[e]),qi (by rw[<-g2];exact e2),<-g2]
  ·have e2:inE (pk Ac Ab w1k w1v) p1.we (ix p1.wI i) (ix p2.Ins i)=0:=by simpa using e2
   rw[qf (by simp[e2])]at g2;rw[nx];exact⟨⟨⟨rfl,rfl,rfl,rfl,rfl,rfl,rfl,rfl,rfl,rfl⟩,by omega,by omega,g2⟩,by(dsimp only;omega)⟩
 ·have hh:=qc hh;rw[qav qqo]at g2;have g2:0=insE (pk Ac Ab w1k w1v) p1.we p2.Ins p1.wI:=g2
  have hck:checkS (pk Ac Ab w1k w1v) p1 p2=if outsB (pk Ac Ab w1k w1v) p2.wC p1.wx p1.wAV=false then 1 else if 0<p1.wQ/\p1.wX≠acctS p2.wAM then 21 else
    if(inS p2.Ins+p1.wQ)%18446744073709551616≠((outS p2.wC+p1.wT)%18446744073709551616+p1.Fee)%18446744073709551616 then 13 else 0:=by
   conv=>lhs;unfold checkS
   rw[qf (by simp[e]),qf (by rw[<-g2];simp)]
  refine⟨(fun i z0 z1 z2 z3 z4 z5 z6 z7 z8 z9=>(Ac=z0/\Aa=z1/\Ae=z2/\Ab=z3/\w3k=z4/\w3v=z5/\w2k=z6/\w2v=z7/\w1k=z8/\w1v=z9)/\(0<=i/\i<=p2.wC.length/\outsB (pk Ac Ab w1k w1v) (p2.wC.drop i.toNat) (p1.wx.drop i.toNat) (p1.wAV.drop i.toNat)=outsB (pk Ac Ab w1k w1v) p2.wC p1.wx p1.wAV)),(fun i _ _ _ _ _ _ _ _ _ _=>(p2.wC.length-i).toNat),⟨⟨rfl,rfl,rfl,rfl,rfl,rfl,rfl,rfl,rfl,rfl⟩,by omega,by omega,rfl⟩,?_⟩;rintro k _ _ _ _ _ _ _ _ _ _ ⟨⟨rfl,rfl,rfl,rfl,rfl,rfl,rfl,rfl,rfl,rfl⟩,k0,k1,k2⟩;refine⟨fun hk=> ?_,fun hk=> ?_⟩
  ·have hk:=qb hk;have hp:=hw.o _ (ix_mem p2.wC k k0 hk);rw[drop_ix p2.wC k k0 hk,drop_ix p1.wx k k0 qqo,drop_ix p1.wAV k k0 qqo]at k2;have k2:(outB (pk Ac Ab w1k w1v) (ix p2.wC k) (ix p1.wx k) (ix p1.wAV k)&&outsB (pk Ac Ab w1k w1v) (p2.wC.drop (k+1).toNat) (p1.wx.drop (k+1).toNat) (p1.wAV.drop (k+1).toNat))=outsB (pk Ac Ab w1k w1v) p2.wC p1.wx p1.wAV:=k2;have nx:=inc k p2.wC.length k0 hk qqo;have bad:outB (pk Ac Ab w1k w1v) (ix p2.wC k) (ix p1.wx k) (ix p1.wAV k)=false->outsB (pk Ac Ab w1k w1v) p2.wC p1.wx p1.wAV=false:=fun hb=>by rw[hb]at k2;exact k2.symm
   refine⟨k0,hk,⟨hp,ho⟩,?_⟩;refine⟨fun e3=> ?_,fun e3=>⟨k0,by omega,fun e4=> ?_,fun e4=>⟨k0,by omega,fun e5=> ?_,fun e5=> ?_⟩⟩⟩
   ·rw[hck,qi (bad (by unfold outB;rw[show(commP (pk Ac Ab w1k w1v) (ix p2.wC k)).isSome=false by simpa using e3];rfl))]
    (repeat' apply qq)<;>first|rfl|exact qn
   ·rw[hck,qi (bad (by
     have e4:¬(commP (pk Ac Ab w1k w1v) (ix p2.wC k)).getD 0=ix p1.wx k:=by simpa using e4
     simp[outB,e4]))]
    (repeat' apply qq)<;>first|rfl|exact qn
   ·rw[hck,qi (bad (by
     have e5:¬(ix p2.wC k).Rho=ix p1.wAV k:=by simpa using e5
     simp[outB,e5]))]
    (repeat' apply qq)<;>first|rfl|exact qn
   ·have e3:(commP (pk Ac Ab w1k w1v) (ix p2.wC k)).isSome=true:=by simpa using e3
    have e4:(commP (pk Ac Ab w1k w1v) (ix p2.wC k)).getD 0=ix p1.wx k:=by simpa using e4
    have e5:(ix p2.wC k).Rho=ix p1.wAV k:=by simpa using e5
    have hb:outB (pk Ac Ab w1k w1v) (ix p2.wC k) (ix p1.wx k) (ix p1.wAV k)=true:=by simp[outB,e3,e4,e5]
    rw[hb,Bool.true_and]at k2;rw[nx];exact⟨⟨⟨rfl,rfl,rfl,rfl,rfl,rfl,rfl,rfl,rfl,rfl⟩,by omega,by omega,k2⟩,by(dsimp only;omega)⟩
  ·have hk:=qc hk;rw[qav qqo]at k2;have k2:true=outsB (pk Ac Ab w1k w1v) p2.wC p1.wx p1.wAV:=k2;intro J1 kJ
   have j1:(checkS (pk Ac Ab w1k w1v) p1 p2=if(inS p2.Ins+p1.wQ)%18446744073709551616≠((outS p2.wC+p1.wT)%18446744073709551616+p1.Fee)%18446744073709551616 then 13 else 0)->J1:=by
    intro hr;refine kJ ⟨by show p2.Ins.length<=_;omega,by show p2.wC.length<=_;omega,?_⟩;simp only[u64w];refine⟨fun hb=> ?_,fun hb=> ?_⟩
    ·rw[hr,qi (by simpa using hb)]
     (repeat' apply qq)<;>first|rfl|exact qn
    ·rw[hr,qf (by simpa using hb)]
     (repeat' apply qq)<;>first|rfl|exact qn
   rw[<-k2,qf qqs]at hck;refine⟨fun hd=>⟨hw.s,fun ha=> ?_,fun ha=>j1 ?_⟩,fun hd=>j1 ?_⟩
   ·have ha:¬p1.wX=acctS p2.wAM:=by simpa using ha
    rw[hck,qi ⟨qb hd,ha⟩]
    (repeat' apply qq)<;>first|rfl|exact qn
   ·have ha:p1.wX=acctS p2.wAM:=by simpa using ha
    rw[hck,qf (fun h=>h.2 ha)]
   ·rw[hck,qf (fun h=>qc hd h.1)]
noncomputable def kd2:Con TB.den:= .t (gk 178 [.one (.ptr 0 0)] yJ1 (.one (.one (.d (.bool))))) yP1 [.bool,.sl yqb,yqi,.bool] [] fun(Ac:Li) (Aa:Int) (Ae:Bool)=>(((!Ae&&Aa==(Ac.length:Int)):Bool),Ac,Aa,Ae,())
theorem kf9:kd2.Ok Tryz.prog TB:=ptv Bs Tryz.func178 .no c0 (Q:=∀(Ac:Li) (Aa:Int) (Ae:Bool),∀r0:Bool,(!Ae&&Aa==(Ac.length:Int))=r0->∀Ay:Li,Ac=Ay->∀Aq:Int,Aa=Aq->∀Aw:Bool,Ae=Aw-> 
((!Ae)=true->
(Aa==(Ac.length:Int))=r0/\Ac=Ay/\Aa=Aq/\Ae=Aw)/\
((!Ae)=false->
 false=r0/\Ac=Ay/\Aa=Aq/\Ae=Aw))<|by rintro Ac Aa Ae _ rfl _ rfl _ rfl _ rfl;refine⟨fun e=>⟨by rw[e];rfl,rfl,rfl,rfl⟩,fun e=>⟨by rw[e];rfl,rfl,rfl,rfl⟩⟩
noncomputable def kd6:Con TB.den:= .g (gk 228 [.one (.ptr 0 0)] yJ1 (.one (.one (zqi)))) yP1 yN1 [] fun(Ac:Li) (Aa:Int) (Ae:Bool)=>((0<=Aa/\Aa<=Ac.length)/\Ac.length<=137438953472,((Ac.length:Int)-Aa:Int),Ac,Aa,Ae,())
theorem k62:kd6.Ok Tryz.prog TB:=prv Bs Tryz.func228 .no c0 (Q:=∀(Ac:Li) (Aa:Int) (Ae:Bool),((0<=Aa/\Aa<=Ac.length)/\Ac.length<=137438953472)->∀r0:Int,((Ac.length:Int)-Aa)=r0->∀Ay:Li,Ac=Ay->∀Aq:Int,Aa=Aq->∀Aw:Bool,Ae=Aw-> 
 let v1:Int:=i64.wrap ((Ac.length:Int)-Aa)
 v1=r0/\Ac=Ay/\Aa=Aq/\Ae=Aw)<|by rintro Ac Aa Ae h _ rfl _ rfl _ rfl _ rfl;exact⟨wi _ qqo qqo,rfl,rfl,rfl⟩
noncomputable def k9p:Con TB.den:= .g (gk 227 [.one (.ptr 0 0),.one (zqi)] yJ1 (.tup [.one (zqu),.one (.d (.bool))])) yN1 [yqu,.bool,.sl yqb,yqi,.bool] [true,true,false,true,true] fun(p1:Int) (Ac:Li) (Aa:Int) (Ae:Bool)=>(RdOk Ac Aa/\1<=p1/\p1<=8,((rdD Ac Aa Ae p1).n:Int),((rdD Ac Aa Ae p1).ok:Bool),Ac,((rdD Ac Aa Ae p1).pos:Int),((rdD Ac Aa Ae p1).fail:Bool),())
theorem k2k:k9p.Ok Tryz.prog TB:=prv Bs Tryz.func227 (.r 0 (.nd [] (.jn ⟨[0],yJ1,[17],[.one (.d (.bool))],[]⟩ [] .no [] .no) [] (.r 0 (.nd [] (.r 0 (.lp [] ⟨[],[],[6,22],[.one (zqu),.one (zqi)],[]⟩ .no)) [] .no)))) (k62.c c0) (Q:=∀(p1:Int) (Ac:Li) (Aa:Int) (Ae:Bool),(RdOk Ac Aa/\1<=p1/\p1<=8)->∀r0:Int,((rdD Ac Aa Ae p1).n)=r0->∀r1:Bool,((rdD Ac Aa Ae p1).ok)=r1->∀Ay:Li,Ac=Ay->∀Aq:Int,((rdD Ac Aa Ae p1).pos)=Aq->∀Aw:Bool,((rdD Ac Aa Ae p1).fail)=Aw-> 
 ∀J1:Bool->(Li)->Int->Bool->Prop,(∀(b1:Bool) (f1:Li) (i1:Int) (k1:Bool),
((b1=true->
 0=r0/\false=r1/\f1=Ay/\i1=Aq/\true=Aw)/\
(b1=false->
 ∃(I1:Int->Int->Prop) (M1:Int->Int->Nat),I1 0 0/\∀l1 m1,(I1 l1 m1->
(decide (m1<p1)=true->
(0<=i64.wrap (i1+m1))/\i64.wrap (i1+m1)<(f1.length:Int)/\let v3:Int:=u64.wrap (ix f1 (i64.wrap (i1+m1)))
(0<=i64.wrap (8*m1))/\let v4:Int:=ior .u64 l1 (ishl .u64 v3 (i64.wrap (8*m1)))
 I1 v4 (i64.wrap (m1+1))/\M1 v4 (i64.wrap (m1+1))<M1 l1 m1)/\
(decide (m1<p1)=false->
 l1=r0/\true=r1/\f1=Ay/\i64.wrap (i1+p1)=Aq/\k1=Aw))))->J1 b1 f1 i1 k1)->
(Ae=true->
 J1 true Ac Aa Ae)/\
(Ae=false->
((0<=Aa/\Aa<=Ac.length)/\Ac.length<=137438953472)/\let v2:Bool:=decide (((Ac.length:Int)-Aa)<p1)
 J1 v2 Ac Aa Ae))<|by
 rintro p1 Ac Aa Ae h;repeat rintro _ rfl
 obtain⟨⟨hb,hl,h0,h1⟩,h2,h3⟩:=h;intro J1 k1;have jf:(Ae=true∨(Ac.length:Int)-Aa<p1)->J1 true Ac Aa Ae:=by intro h;refine k1 _ _ _ _ ⟨fun _=> ?_,fun h=>by simp at h⟩;unfold rdD;rw[qi h];exact⟨rfl,rfl,rfl,rfl,rfl⟩
 have jt:¬(Ae=true∨(Ac.length:Int)-Aa<p1)->J1 false Ac Aa Ae:=by
  intro h;refine k1 _ _ _ _ ⟨fun h=>by simp at h,fun _=> ?_⟩;have hD:rdD Ac Aa Ae p1=⟨val ((Ac.drop Aa.toNat).take p1.toNat),true,Aa+p1,false⟩:=by unfold rdD;rw[qf h]
  rw[hD];refine⟨(fun n i=>0<=i/\i<=p1/\n=val ((Ac.drop Aa.toNat).take i.toNat)),(fun _ i=>(p1-i).toNat),⟨by omega,by omega,rfl⟩,?_⟩;rintro n i ⟨g0,g1,rfl⟩;refine⟨fun hh=> ?_,fun hh=> ?_⟩
  ·have hh:=qb hh;have hlen:(((Ac.drop Aa.toNat).take i.toNat).length:Int)=i:=by rw[qab,qbe];omega
   have hix:ix Ac (Aa+i)=ix (Ac.drop Aa.toNat) i:=by rw[ix_nat _ _ qqo qqo,ix_nat _ _ g0 (by rw[qbe];omega),List.getElem_drop];congr 1;omega
   have hx:=hb _ (ix_mem Ac (Aa+i) qqo qqo);have hv:=ior_val ((Ac.drop Aa.toNat).take i.toNat) (ix (Ac.drop Aa.toNat) i) ((hb.drop _).take _) qqo (by rw[<-hix];exact hx);rw[hlen]at hv;rw[inc i p1 g0 hh qqo,wi (Aa+i) qqo qqo,wi (8*i) qqo qqo,wu (ix Ac (Aa+i)) qqo qqo,hix];simp only[hv];refine⟨by omega,by omega,by omega,⟨by omega,by omega,?_⟩,by(first|omega|(dsimp only;omega))⟩;rw[ke _ i g0 (by rw[qbe];omega)]
  ·have hh:=qc hh
   have h4:Ae=false:=by
    cases hc:Ae
    ·rfl
    ·exact absurd (.inl hc) h
   exact⟨by rw[show i=p1 by omega],rfl,rfl,wi _ qqo qqo,h4⟩
 refine⟨fun h=>by have:=jf (.inl h);rw[h]at this;exact h▸this,fun h=>⟨⟨⟨h0,h1⟩,hl⟩,?_⟩⟩;by_cases hq:(Ac.length:Int)-Aa<p1
 ·rw[qbr hq];exact jf (.inr hq)
 ·rw[qbw hq];exact jt (by rw[h];simpa using hq)
noncomputable def kf7:Con TB.den:= .g (gk 174 [.one (.ptr 0 0),.one (zqi)] yJ1 (.one (.one (zqi)))) yN1 yN1 [true,false,true,true] fun(p1:Int) (Ac:Li) (Aa:Int) (Ae:Bool)=>(RdOk Ac Aa,((rdI Ac Aa Ae p1).n:Int),Ac,((rdI Ac Aa Ae p1).pos:Int),((rdI Ac Aa Ae p1).fail:Bool),())
theorem k7o:kf7.Ok Tryz.prog TB:=prv Bs Tryz.func174 (.r 1 (.nd [] (.jn ⟨[],[],[19],[.one (.d (.bool))],[]⟩ [] .no [] .no) [] .no)) (k2k.c c0) (Q:=∀(p1:Int) (Ac:Li) (Aa:Int) (Ae:Bool),(RdOk Ac Aa)->∀r0:Int,((rdI Ac Aa Ae p1).n)=r0->∀Ay:Li,Ac=Ay->∀Aq:Int,((rdI Ac Aa Ae p1).pos)=Aq->∀Aw:Bool,((rdI Ac Aa Ae p1).fail)=Aw-> 
(RdOk Ac Aa/\1<=(4:Int)/\(4:Int)<=8)/\∀(r5:Int) (r6:Bool) (r7:Int) (r8:Bool),(r5=((rdD Ac Aa Ae (4:Int)).n)/\r6=((rdD Ac Aa Ae (4:Int)).ok)/\r7=((rdD Ac Aa Ae (4:Int)).pos)/\r8=((rdD Ac Aa Ae (4:Int)).fail))->∀J1:Bool->Prop,(∀(b1:Bool),
((b1=true->
 0=r0/\Ac=Ay/\r7=Aq/\true=Aw)/\
(b1=false->
 i64.wrap r5=r0/\Ac=Ay/\r7=Aq/\r8=Aw))->J1 b1)->
((!r6)=true->
 J1 true)/\
((!r6)=false->
 J1 (decide (p1<(i64.wrap r5)))))<|by
 rintro p1 Ac Aa Ae h _ rfl _ rfl _ rfl _ rfl;have hn:0<=(rdD Ac Aa Ae 4).n/\(rdD Ac Aa Ae 4).n<4294967296:=k9f h (p:=4) (f:=Ae) qqo qqo;refine⟨⟨h,by omega,by omega⟩,?_⟩;rintro _ _ _ _ ⟨rfl,rfl,rfl,rfl⟩;intro J1 k1;unfold rdI at k1;rw[wi (rdD Ac Aa Ae 4).n qqo (by have:=hn.2;omega)];refine⟨fun e=>k1 _ ⟨fun _=> ?_,fun h=>by simp at h⟩,fun e=>k1 _ ⟨fun e2=> ?_,fun e2=> ?_⟩⟩
 ·have e:(rdD Ac Aa Ae 4).ok=false:=by simpa using e
  rw[e];exact⟨rfl,rfl,rfl,rfl⟩
 ·have e:(rdD Ac Aa Ae 4).ok=true:=by simpa using e
  have e2:=qb e2;rw[qi (.inr e2)];exact⟨rfl,rfl,rfl,rfl⟩
 ·have e:(rdD Ac Aa Ae 4).ok=true:=by simpa using e
  have e2:=qc e2;rw[qf (by rw[e];simpa using e2)];exact⟨wi _ qqo (by have:=hn.2;omega),rfl,rfl,rfl⟩
noncomputable def kcq:Con TB.den:= .g (gk 177 [.one (.ptr 0 0),.one (zqi),.one (zqu)] yJ1 (.one (.one (zql)))) [yqi,yqu,.sl yqb,yqi,.bool] [.sl yqu,.sl yqb,yqi,.bool] [true,false,true,true] fun(p1 p2:Int) (Ac:Li) (Aa:Int) (Ae:Bool)=>(RdOk Ac Aa/\(0<=p1/\p1<=4096),((rdL Ac Aa Ae p1 p2).l:Li),Ac,((rdL Ac Aa Ae p1 p2).pos:Int),((rdL Ac Aa Ae p1 p2).fail:Bool),())
theorem kef:kcq.Ok Tryz.prog TB:=prv Bs Tryz.func177 (.r 1 (.nd [] (.jn ⟨[0],yJ1,[23],[.one (.d (.bool))],[]⟩ [] .no [] .no) [] (.r 0 (.nd [] (.r 0 (.lp [] ⟨[1,0],[.vec yqu,.cells [.d (.sl yqb),zqi,.d (.bool)]],[31],[.one (zqi)],[]⟩ .no)) [] (.r 0 (.rt [.frz 1 [6]])))))) (k7o.c (k62.c (k2k.c c0))) (Q:=∀(p1 p2:Int) (Ac:Li) (Aa:Int) (Ae:Bool),(RdOk Ac Aa/\(0<=p1/\p1<=4096))->∀r0:Li,((rdL Ac Aa Ae p1 p2).l)=r0->∀Ay:Li,Ac=Ay->∀Aq:Int,((rdL Ac Aa Ae p1 p2).pos)=Aq->∀Aw:Bool,((rdL Ac Aa Ae p1 p2).fail)=Aw-> 
(RdOk Ac Aa)/\∀(r4 r5:Int) (r6:Bool),(r4=((rdI Ac Aa Ae p1).n)/\r5=((rdI Ac Aa Ae p1).pos)/\r6=((rdI Ac Aa Ae p1).fail))->∀J1:Bool->(Li)->Int->Bool->Prop,(∀(b1:Bool) (f1:Li) (i1:Int) (k1:Bool),
((b1=true->
([]:Li)=r0/\f1=Ay/\i1=Aq/\true=Aw)/\
(b1=false->
 0<=r4/\r4<=r4/\(r4.toNat*8<=140737488355328)/\(r4.toNat<=maxLen)/\∃(I1:Int->(Li)->Int->Bool->(Li)->Prop) (M1:Int->(Li)->Int->Bool->(Li)->Nat),I1 0 f1 i1 k1 (List.replicate r4.toNat (0:Int))/\∀l1 m1 n1 o1 q1,(I1 l1 m1 n1 o1 q1->
(decide (l1<(r4.toNat:Int))=true->
(RdOk m1 n1/\1<=(8:Int)/\(8:Int)<=8)/\∀(r40:Int) (r41:Bool) (r42:Int) (r43:Bool),(r40=((rdD m1 n1 o1 (8:Int)).n)/\r41=((rdD m1 n1 o1 (8:Int)).ok)/\r42=((rdD m1 n1 o1 (8:Int)).pos)/\r43=((rdD m1 n1 o1 (8:Int)).fail))->(0<=l1/\l1<(r4.toNat:Int))/\(0<=l1/\l1<(q1.length:Int))/\(0<=l1/\l1<(r4.toNat:Int))/\(0<=l1/\l1<((q1.set l1.toNat r40).length:Int))/\let v44:Bool:=decide (p2<=(ix (q1.set l1.toNat r40) l1))
(v44=true->
([]:Li)=r0/\m1=Ay/\r42=Aq/\true=Aw)/\
(v44=false->
 I1 (i64.wrap (l1+1)) m1 r42 r43 (q1.set l1.toNat r40)/\M1 (i64.wrap (l1+1)) m1 r42 r43 (q1.set l1.toNat r40)<M1 l1 m1 n1 o1 q1))/\
(decide (l1<(r4.toNat:Int))=false->
(r4.toNat=q1.length)/\q1=r0/\m1=Ay/\n1=Aq/\o1=Aw))))->J1 b1 f1 i1 k1)->
(r6=true->
 J1 true Ac r5 r6)/\
(r6=false->
((0<=r5/\r5<=Ac.length)/\Ac.length<=137438953472)/\let v7:Int:=i64.wrap (Int.tdiv ((Ac.length:Int)-r5) 8)
 J1 (decide (v7<r4)) Ac r5 r6))<|by
 rintro p1 p2 Ac Aa Ae h _ rfl _ rfl _ rfl _ rfl;obtain⟨h,hp0,hp1⟩:=h;have hI:=rdI_ok h (f:=Ae) (m:=p1);have hIn:=rdI_n h (f:=Ae) (m:=p1) hp0;have hb:=h.by_;have hl:=h.len;generalize hX:rdI Ac Aa Ae p1=X at *
 refine⟨h,?_⟩;rintro _ _ _ ⟨rfl,rfl,rfl⟩;intro J1 k1;have jf:(X.fail=true∨((Ac.length:Int)-X.pos)/8<X.n)->J1 true Ac X.pos X.fail:=by intro hf;refine k1 _ _ _ _ ⟨fun _=> ?_,fun h=>by simp at h⟩;unfold rdL;rw[hX,qi hf];exact⟨rfl,rfl,rfl,rfl⟩
 have jt:¬(X.fail=true∨((Ac.length:Int)-X.pos)/8<X.n)->J1 false Ac X.pos X.fail:=by
  intro hf
  have hff:X.fail=false:=by
   cases hc:X.fail
   ·rfl
   ·exact absurd (.inl hc) hf
  have hle:X.n*8<=(Ac.length:Int)-X.pos:=by have:¬((Ac.length:Int)-X.pos)/8<X.n:=fun h=>hf (.inr h);omega
  refine k1 _ _ _ _ ⟨fun h=>by simp at h,fun _=>⟨hIn.1,by omega,by have:=hIn.2;omega,by have:=hIn.2;unfold maxLen;omega,?_⟩⟩;have hL:rdL Ac Aa Ae p1 p2=rdLs Ac p2 X.n.toNat X.pos []:=by unfold rdL;rw[hX,qf hf]
  rw[hff];have hnn:((X.n.toNat:Int))=X.n:=by have:=hIn.1;omega
  rw[hnn,hL];refine⟨(fun i c pos f g=>Ac=c/\0<=i/\i<=X.n/\f=false/\0<=pos/\pos+(X.n-i)*8<=Ac.length/\(g.length:Int)=X.n/\rdLs Ac p2 (X.n-i).toNat pos (g.take i.toNat)=rdLs Ac p2 X.n.toNat X.pos []),(fun i _ _ _ _=>(X.n-i).toNat),⟨rfl,by omega,hIn.1,rfl,hI.pos0,by omega,by simp;have:=hIn.1;omega,by simp⟩,?_⟩;rintro i _ pos f g ⟨rfl,g0,g1,rfl,g2,g3,g4,g5⟩;have hok:RdOk Ac pos:=⟨hb,hl,g2,by(first|omega|(dsimp only;omega))⟩;refine⟨fun hh=> ?_,fun hh=> ?_⟩
  ·have hh:=qb hh;have hD:rdD Ac pos false 8=⟨val ((Ac.drop pos.toNat).take 8),true,pos+8,false⟩:=by unfold rdD;rw[qf qqm];rfl
   have hset:ix (g.set i.toNat (val ((Ac.drop pos.toNat).take 8))) i=val ((Ac.drop pos.toNat).take 8):=by rw[ix_nat _ i g0 (by rw[qdc];omega)];simp
   have hstep:rdLs Ac p2 (X.n-i).toNat pos (g.take i.toNat)=if p2<=val ((Ac.drop pos.toNat).take 8)then⟨[],pos+8,true⟩else rdLs Ac p2 (X.n-(i+1)).toNat (pos+8) (g.take i.toNat++[val ((Ac.drop pos.toNat).take 8)]):=by rw[show(X.n-i).toNat=(X.n-(i+1)).toNat+1 by omega];rfl
   refine⟨⟨hok,by omega,by omega⟩,fun n1 n2 n3 n4 e=> ?_⟩;rw[hD]at e;obtain⟨rfl,rfl,rfl,rfl⟩:=e;refine⟨⟨by omega,by omega⟩,⟨by omega,by omega⟩,⟨by omega,by omega⟩,⟨by omega,by rw[qdc];omega⟩,fun e=> ?_,fun e=> ?_⟩
   ·have e:=qb e;rw[hset]at e;rw[<-g5,hstep,qi e];exact⟨rfl,rfl,rfl,rfl⟩
   ·have e:=qc e;rw[hset]at e;rw[inc i X.n g0 hh (by have:=hIn.2;omega)];refine⟨⟨rfl,by omega,by omega,rfl,by show 0<=pos+8;omega,by show pos+8+(X.n-(i+1))*8<=_;omega,by rw[qdc];exact g4,?_⟩,by(dsimp only;omega)⟩;rw[<-g5,hstep,qf e];congr 1;rw[ke _ i g0 (by rw[qdc];omega),hset];congr 1;rw[List.take_set_of_le qqo]
  ·have hh:=qc hh;have hi:i=X.n:=by omega
   subst hi;rw[Int.sub_self,qw qqo]at g5;rw[<-g5];exact⟨by omega,rfl,rfl,rfl,rfl⟩
 refine⟨fun e=>by have:=jf (.inl e);rw[e]at this;exact e▸this,fun e=>⟨⟨⟨hI.pos0,hI.pos1⟩,hl⟩,?_⟩⟩;have:=hI.pos0;have:=hI.pos1
 try simp only[]
 rw[tdiv_nn _ _ qqo,wi _ qqo qqo];by_cases hq:((Ac.length:Int)-X.pos)/8<X.n
 ·rw[qbr hq];exact jf (.inr hq)
 ·rw[qbw hq];exact jt (by rw[e];simpa using hq)
noncomputable def ke5:Con TB.den:= .g (gk 176 [.one (.ptr 0 0),.one (zqu)] yJ1 (.one (.one (zqu)))) [yqu,.sl yqb,yqi,.bool] [yqu,.sl yqb,yqi,.bool] [true,false,true,true] fun(p1:Int) (Ac:Li) (Aa:Int) (Ae:Bool)=>(RdOk Ac Aa,((rdU Ac Aa Ae p1).n:Int),Ac,((rdU Ac Aa Ae p1).pos:Int),((rdU Ac Aa Ae p1).fail:Bool),())
theorem k5v:ke5.Ok Tryz.prog TB:=prv Bs Tryz.func176 (.r 1 (.nd [] (.jn ⟨[],[],[18],[.one (.d (.bool))],[]⟩ [] .no [] .no) [] .no)) (k2k.c c0) (Q:=∀(p1:Int) (Ac:Li) (Aa:Int) (Ae:Bool),(RdOk Ac Aa)->∀r0:Int,((rdU Ac Aa Ae p1).n)=r0->∀Ay:Li,Ac=Ay->∀Aq:Int,((rdU Ac Aa Ae p1).pos)=Aq->∀Aw:Bool,((rdU Ac Aa Ae p1).fail)=Aw-> 
(RdOk Ac Aa/\1<=(8:Int)/\(8:Int)<=8)/\∀(r5:Int) (r6:Bool) (r7:Int) (r8:Bool),(r5=((rdD Ac Aa Ae (8:Int)).n)/\r6=((rdD Ac Aa Ae (8:Int)).ok)/\r7=((rdD Ac Aa Ae (8:Int)).pos)/\r8=((rdD Ac Aa Ae (8:Int)).fail))->∀J1:Bool->Prop,(∀(b1:Bool),
((b1=true->
 0=r0/\Ac=Ay/\r7=Aq/\true=Aw)/\
(b1=false->
 r5=r0/\Ac=Ay/\r7=Aq/\r8=Aw))->J1 b1)->
((!r6)=true->
 J1 true)/\
((!r6)=false->
 J1 (decide (p1<r5))))<|by
 rintro p1 Ac Aa Ae h _ rfl _ rfl _ rfl _ rfl;refine⟨⟨h,by omega,by omega⟩,?_⟩;rintro _ _ _ _ ⟨rfl,rfl,rfl,rfl⟩;intro J1 k1;unfold rdU at k1;refine⟨fun e=>k1 _ ⟨fun _=> ?_,fun h=>by simp at h⟩,fun e=>k1 _ ⟨fun e2=> ?_,fun e2=> ?_⟩⟩
 ·have e:(rdD Ac Aa Ae 8).ok=false:=by simpa using e
  rw[e];exact⟨rfl,rfl,rfl,rfl⟩
 ·have e:(rdD Ac Aa Ae 8).ok=true:=by simpa using e
  have e2:=qb e2;rw[qi (.inr e2)];exact⟨rfl,rfl,rfl,rfl⟩
 ·have e:(rdD Ac Aa Ae 8).ok=true:=by simpa using e
  have e2:=qc e2;rw[qf (by rw[e];simpa using e2)];exact⟨rfl,rfl,rfl,rfl⟩
noncomputable def k5t:Con TB.den:= .g (gk 175 [.one (.ptr 0 0)] yJ1 (.one (.agg [zqu,zqu,zqu,zqu]))) yP1 [.st 15,.sl yqb,yqi,.bool] [true,false,true,true] fun(Ac:Li) (Aa:Int) (Ae:Bool)=>(RdOk Ac Aa,((rdNt Ac Aa Ae).n:wU),Ac,((rdNt Ac Aa Ae).pos:Int),((rdNt Ac Aa Ae).f:Bool),())
theorem k6j:k5t.Ok Tryz.prog TB:=prv Bs Tryz.func175 .no (k5v.c c0) (Q:=∀(Ac:Li) (Aa:Int) (Ae:Bool),(RdOk Ac Aa)->∀r0:wU,((rdNt Ac Aa Ae).n)=r0->∀Ay:Li,Ac=Ay->∀Aq:Int,((rdNt Ac Aa Ae).pos)=Aq->∀Aw:Bool,((rdNt Ac Aa Ae).f)=Aw-> 
(RdOk Ac Aa)/\∀(r4 r5:Int) (r6:Bool),(r4=((rdU Ac Aa Ae (4294967295:Int)).n)/\r5=((rdU Ac Aa Ae (4294967295:Int)).pos)/\r6=((rdU Ac Aa Ae (4294967295:Int)).fail))->(RdOk Ac r5)/\∀(r10 r11:Int) (r12:Bool),(r10=((rdU Ac r5 r6 (18446744069414584320:Int)).n)/\r11=((rdU Ac r5 r6 (18446744069414584320:Int)).pos)/\r12=((rdU Ac r5 r6 (18446744069414584320:Int)).fail))->(RdOk Ac r11)/\∀(r16 r17:Int) (r18:Bool),(r16=((rdU Ac r11 r12 (18446744069414584320:Int)).n)/\r17=((rdU Ac r11 r12 (18446744069414584320:Int)).pos)/\r18=((rdU Ac r11 r12 (18446744069414584320:Int)).fail))->(RdOk Ac r17)/\∀(r22 r23:Int) (r24:Bool),(r22=((rdU Ac r17 r18 (18446744069414584320:Int)).n)/\r23=((rdU Ac r17 r18 (18446744069414584320:Int)).pos)/\r24=((rdU Ac r17 r18 (18446744069414584320:Int)).fail))->r4=r0.Value/\r10=r0.wAs/\r16=r0.Rho/\r22=r0.wAu/\Ac=Ay/\r23=Aq/\r24=Aw)<|by rintro Ac Aa Ae h _ rfl _ rfl _ rfl _ rfl;refine⟨h,?_⟩;rintro _ _ _ ⟨rfl,rfl,rfl⟩;refine⟨rdU_ok h,?_⟩;rintro _ _ _ ⟨rfl,rfl,rfl⟩;refine⟨rdU_ok (rdU_ok h),?_⟩;rintro _ _ _ ⟨rfl,rfl,rfl⟩;refine⟨rdU_ok (rdU_ok (rdU_ok h)),?_⟩;rintro _ _ _ ⟨rfl,rfl,rfl⟩;exact⟨rfl,rfl,rfl,rfl,rfl,rfl,rfl⟩
noncomputable def kha:Con TB.den:= .gp 104 [.sl yqb,yqi] [.sl yqb] [] fun(p0:Li) (p1:Int)=>(0<=p1/\p0.length+p1<=140737488355328,p0,())
theorem kio:kha.Ok Tryz.prog TB:=qrv Bs Tryz.func104 (.r 3 (.rt [.frz 0 [4]])) c0 (Q:=∀(p0:Li) (p1:Int),(0<=p1/\p0.length+p1<=140737488355328)->∀r0:Li,p0=r0-> 
 let v1:Int:=i64.wrap ((p0.length:Int)+p1)
 0<=(p0.length:Int)/\(p0.length:Int)<=v1/\(v1.toNat*1<=140737488355328)/\(v1.toNat<=maxLen)/\(p0.length:Int).toNat=(List.replicate ((p0.length:Int).toNat) (0:Int)).length/\let v2:Int:=((min p0.length (List.replicate ((p0.length:Int).toNat) (0:Int)).length:Nat):Int)
((p0.length:Int).toNat=(rowOver (List.replicate ((p0.length:Int).toNat) (0:Int)) p0 (List.replicate ((p0.length:Int).toNat) (0:Int)).length).length)/\rowOver (List.replicate ((p0.length:Int).toNat) (0:Int)) p0 (List.replicate ((p0.length:Int).toNat) (0:Int)).length=r0)<|by rintro p0 p1 h _ rfl;obtain⟨h1,h2⟩:=h;refine ?_;rw[wi _ qqo qqo];have e:rowOver (List.replicate ((p0.length:Int).toNat) (0:Int)) p0 (List.replicate ((p0.length:Int).toNat) (0:Int)).length=p0:=kan _ _ qqs;simp only[e];exact⟨by omega,by omega,by omega,by unfold maxLen;omega,by simp,by omega,by trivial⟩
noncomputable def k8g:Con TB.den:= .g ⟨173,[.one (.d (.sl yqb))],[],(.one (.one (.ptr 0 0))),yJ1,false⟩ [.sl yqb] yP1 [] fun(p0:Li)=>(p0.length<=137438953472,p0,(0:Int),false,())
theorem k9t:k8g.Ok Tryz.prog TB:=prv Bs Tryz.func173 .no (kio.c c0) (Q:=∀(p0:Li),(p0.length<=137438953472)->∀Ay:Li,p0=Ay->∀Aq:Int,(0:Int)=Aq->∀Aw:Bool,(false:Bool)=Aw-> 
(0<=(0:Int)/\p0.length+(0:Int)<=140737488355328)/\p0=Ay/\0=Aq/\false=Aw)<|by rintro p0 h _ rfl _ rfl _ rfl;exact⟨⟨by omega,by omega⟩,rfl,rfl,rfl⟩
noncomputable def k7v:Con TB.den:= .gp 118 [.sl yqb] [.st 16,yqi] [true,true] fun(p0:Li)=>(By p0/\p0.length<=137438953472,((decW p0).1:wj),((decW p0).2:Int),())
abbrev Fz6 (r:Type):=Int->Int->(Li)->Int->Bool->(List wR)->(List wU)->r
theorem k3j:k7v.Ok Tryz.prog TB:=qrv Bs Tryz.func118 (.r 2 (.nd [] (.r 0 (.lp [.tokc 2 0 (.st 14),.tokc 2 1 (.st 15)] ⟨[2,1,3,4],yB1,[10],[.one (zqi)],[]⟩ .no)) [] (.nd [] (.r 0 (.lp [] ⟨[2,1,3,4],yB1,[34],[.one (zqi)],[]⟩ .no)) [] .no))) (k9t.c (k7o.c (k6j.c (k5v.c (kef.c (kf9.c c0)))))) (Q:=∀(p0:Li),(By p0/\p0.length<=137438953472)->∀r0:wj,((decW p0).1)=r0->∀r1:Int,((decW p0).2)=r1-> 
(p0.length<=137438953472)/\(RdOk p0 (0:Int))/\∀(r49 r50:Int) (r51:Bool),(r49=((rdI p0 (0:Int) false (4:Int)).n)/\r50=((rdI p0 (0:Int) false (4:Int)).pos)/\r51=((rdI p0 (0:Int) false (4:Int)).fail))->(([]:List wU)=([]:List wU))/\(([]:List wR)=([]:List wR))/\∃(I1:Fz6 Prop) (M1:Fz6 Nat),I1 0 0 p0 r50 r51 ([]:List wR) ([]:List wU)/\∀b1 f1 i1 k1 l1 m1 n1,(I1 b1 f1 i1 k1 l1 m1 n1->
(decide (b1<r49)=true->
(RdOk i1 k1)/\∀(r70:wU) (r71:Int) (r72:Bool),(r70=((rdNt i1 k1 l1).n)/\r71=((rdNt i1 k1 l1).pos)/\r72=((rdNt i1 k1 l1).f))->(RdOk i1 r71)/\∀(r73 r74:Int) (r75:Bool),(r73=((rdU i1 r71 r72 (18446744069414584320:Int)).n)/\r74=((rdU i1 r71 r72 (18446744069414584320:Int)).pos)/\r75=((rdU i1 r71 r72 (18446744069414584320:Int)).fail))->(RdOk i1 r74)/\∀(r76 r77:Int) (r78:Bool),(r76=((rdI i1 r74 r75 (3:Int)).n)/\r77=((rdI i1 r74 r75 (3:Int)).pos)/\r78=((rdI i1 r74 r75 (3:Int)).fail))->(RdOk i1 r77)/\∀(r79 r80:Int) (r81:Bool),(r79=((rdI i1 r77 r78 (4095:Int)).n)/\r80=((rdI i1 r77 r78 (4095:Int)).pos)/\r81=((rdI i1 r77 r78 (4095:Int)).fail))->(RdOk i1 r80/\(0<=(12:Int)/\(12:Int)<=4096))/\∀(r82:Li) (r83:Int) (r84:Bool),(r82=((rdL i1 r80 r81 (12:Int) (18446744069414584321:Int)).l)/\r83=((rdL i1 r80 r81 (12:Int) (18446744069414584321:Int)).pos)/\r84=((rdL i1 r80 r81 (12:Int) (18446744069414584321:Int)).fail))->(RdOk i1 r83)/\∀(r85 r86:Int) (r87:Bool),(r85=((rdI i1 r83 r84 (1:Int)).n)/\r86=((rdI i1 r83 r84 (1:Int)).pos)/\r87=((rdI i1 r83 r84 (1:Int)).fail))->let v88:List wR:=[wR.mk r70.Value r70.wAs r70.Rho r70.wAu r73 r76 r79 r82 (r85==1)]
 lz m1/\(m1.length+v88.length)*88<=140737488355328/\m1.length+v88.length<=maxLen/\(n1=n1)/\(m1++v88=m1++v88)/\I1 (i64.wrap (b1+1)) f1 i1 r86 r87 (m1++v88) n1/\M1 (i64.wrap (b1+1)) f1 i1 r86 r87 (m1++v88) n1<M1 b1 f1 i1 k1 l1 m1 n1)/\
(decide (b1<r49)=false->
(RdOk i1 k1)/\∀(r106 r107:Int) (r108:Bool),(r106=((rdI i1 k1 l1 (4:Int)).n)/\r107=((rdI i1 k1 l1 (4:Int)).pos)/\r108=((rdI i1 k1 l1 (4:Int)).fail))->(n1=n1)/\(m1=m1)/\∃(I2:Fz6 Prop) (M2:Fz6 Nat),I2 0 f1 i1 r107 r108 m1 n1/\∀o1 q1 s1 t1 u1 x1 y1,(I2 o1 q1 s1 t1 u1 x1 y1->
(decide (o1<r106)=true->
(RdOk s1 t1)/\∀(r112:wU) (r113:Int) (r114:Bool),(r112=((rdNt s1 t1 u1).n)/\r113=((rdNt s1 t1 u1).pos)/\r114=((rdNt s1 t1 u1).f))->lz y1/\(y1.length+[r112].length)*32<=140737488355328/\y1.length+[r112].length<=maxLen/\(y1++[r112]=y1++[r112])/\(x1=x1)/\I2 (i64.wrap (o1+1)) q1 s1 r113 r114 x1 (y1++[r112])/\M2 (i64.wrap (o1+1)) q1 s1 r113 r114 x1 (y1++[r112])<M2 o1 q1 s1 t1 u1 x1 y1)/\
(decide (o1<r106)=false->
(RdOk s1 t1)/\∀(r118 r119:Int) (r120:Bool),(r118=((rdU s1 t1 u1 (18446744069414584320:Int)).n)/\r119=((rdU s1 t1 u1 (18446744069414584320:Int)).pos)/\r120=((rdU s1 t1 u1 (18446744069414584320:Int)).fail))->((!(!r120&&r119==(s1.length:Int)))=true->
([]:List wR)=r0.Ins/\([]:List wU)=r0.wC/\0=r0.wAM/\2=r1)/\
((!(!r120&&r119==(s1.length:Int)))=false->
 x1=r0.Ins/\y1=r0.wC/\r118=r0.wAM/\0=r1))))))<|by
 rintro p0 h _ rfl _ rfl;obtain⟨hb,hl⟩:=h;have h0:RdOk p0 0:=⟨hb,hl,by omega,by(first|omega|(dsimp only;omega))⟩;refine⟨hl,h0,?_⟩;rintro _ _ _ ⟨rfl,rfl,rfl⟩;have hC:=rdI_ok (m:=4) (f:=false) h0;have nC:=rdI_n (m:=4) (f:=false) h0 qqo;have zC:=rdI_pz (m:=4) (f:=false) h0 qqo;generalize rdI p0 0 false 4=C at *
 refine⟨rfl,rfl,?_⟩;refine⟨(fun i sec l pos f g o=>(p0=l/\sec=0/\([]:List wU)=o)/\0<=i/\i<=C.n/\RdOk p0 pos/\(g.length:Int)=i/\Pz (fun l:List wR=>l.flatMap encSp) (Gl (GS limW) i.toNat) (p0.drop C.pos.toNat) C.fail g (p0.drop pos.toNat) f),(fun i _ _ _ _ _ _=>(C.n-i).toNat),⟨⟨rfl,rfl,rfl⟩,by omega,nC.1,hC,rfl,Pz.nil⟩,?_⟩;rintro i _ _ pos f g _ ⟨⟨rfl,rfl,rfl⟩,g0,g1,hp,g2,gz⟩;refine⟨fun hh=> ?_,fun hh=> ?_⟩
 ·have hh:=qb hh;refine⟨hp,?_⟩;rintro _ _ _ ⟨rfl,rfl,rfl⟩;have o1:=rdNt_ok (f:=f) hp;have z1:=rdNt_pz (f:=f) hp;generalize rdNt p0 pos f=A1 at *
  refine⟨o1,?_⟩;rintro _ _ _ ⟨rfl,rfl,rfl⟩;have o2:=rdU_ok (m:=18446744069414584320) (f:=A1.f) o1;have z2:=rdU_pz (m:=18446744069414584320) (f:=A1.f) o1;generalize rdU p0 A1.pos A1.f 18446744069414584320=A2 at *
  refine⟨o2,?_⟩;rintro _ _ _ ⟨rfl,rfl,rfl⟩;have o3:=rdI_ok (m:=3) (f:=A2.fail) o2;have z3:=rdI_pz (m:=3) (f:=A2.fail) o2 qqo;generalize rdI p0 A2.pos A2.fail 3=A3 at *
  refine⟨o3,?_⟩;rintro _ _ _ ⟨rfl,rfl,rfl⟩;have o4:=rdI_ok (m:=4095) (f:=A3.fail) o3;have z4:=rdI_pz (m:=4095) (f:=A3.fail) o3 qqo;generalize rdI p0 A3.pos A3.fail 4095=A4 at *
  refine⟨⟨o4,by omega,by omega⟩,?_⟩;rintro _ _ _ ⟨rfl,rfl,rfl⟩;have o5:=rdL_ok (m:=12) (p:=18446744069414584321) (f:=A4.fail) o4 qqo;have z5:=rdL_pz (m:=12) (p:=18446744069414584321) (f:=A4.fail) o4 qqo;generalize rdL p0 A4.pos A4.fail 12 18446744069414584321=A5 at *
  refine⟨o5,?_⟩;rintro _ _ _ ⟨rfl,rfl,rfl⟩;have o6:=rdI_ok (m:=1) (f:=A5.fail) o5;have z6:=rdI_pz (m:=1) (f:=A5.fail) o5 qqo;generalize rdI p0 A5.pos A5.fail 1=A6 at *
  have zz:=knv (L:=limW) z1 z2 z3 z4 z5 z6;rw[inc i C.n g0 hh qqo];refine⟨rfl,by simp;omega,by simp;unfold maxLen;omega,rfl,rfl,⟨⟨rfl,rfl,rfl⟩,by omega,by omega,o6,by simp;omega,?_⟩,by(dsimp only;omega)⟩;rw[show(i+1).toNat=i.toNat+1 by omega];exact gz.snoc zz
 ·have hh:=qc hh;have hi:i=C.n:=by omega
  subst hi;have zI:=Pz.list zC gz;refine⟨hp,?_⟩;rintro _ _ _ ⟨rfl,rfl,rfl⟩;have hD:=rdI_ok (m:=4) (f:=f) hp;have nD:=rdI_n (m:=4) (f:=f) hp qqo;have zD:=rdI_pz (m:=4) (f:=f) hp qqo;generalize rdI p0 pos f 4=D at *
  refine⟨rfl,rfl,?_⟩;refine⟨(fun i sec l pos' f' gg g' =>(p0=l/\sec=0/\g=gg)/\0<=i/\i<=D.n/\RdOk p0 pos'/\(g'.length:Int)=i/\Pz (fun l:List wU=>l.flatMap encN) (Gl (GN limW) i.toNat) (p0.drop D.pos.toNat) D.fail g' (p0.drop pos'.toNat) f'),(fun i _ _ _ _ _ _=>(D.n-i).toNat),⟨⟨rfl,rfl,rfl⟩,by omega,nD.1,hD,rfl,Pz.nil⟩,?_⟩;rintro i _ _ pos' f' _ g' ⟨⟨rfl,rfl,rfl⟩,g0',g1',hp',g2',gz'⟩;refine⟨fun hh=> ?_,fun hh=> ?_⟩
  ·have hh:=qb hh;refine⟨hp',?_⟩;rintro _ _ _ ⟨rfl,rfl,rfl⟩;have o1:=rdNt_ok (f:=f') hp';have z1:=rdNt_pz (f:=f') hp';generalize rdNt p0 pos' f' =A1 at *
   rw[inc i D.n g0' hh qqo];refine⟨rfl,by simp;omega,by simp;unfold maxLen;omega,rfl,rfl,⟨⟨rfl,rfl,rfl⟩,by omega,by omega,o1,by simp;omega,?_⟩,by(dsimp only;omega)⟩;rw[show(i+1).toNat=i.toNat+1 by omega];exact gz'.snoc z1
  ·have hh:=qc hh;have hi:i=D.n:=by omega
   subst hi;have zO:=Pz.list zD gz';refine⟨hp',?_⟩;rintro _ _ _ ⟨rfl,rfl,rfl⟩;have hS:=rdU_ok (m:=18446744069414584320) (f:=f') hp';have zS:=rdU_pz (m:=18446744069414584320) (f:=f') hp';generalize rdU p0 pos' f' 18446744069414584320=X at *
   obtain⟨snd,cpl⟩:=pz_wit (L:=limW) zI zO zS;refine⟨fun e=> ?_,fun e=> ?_⟩
   ·rw[decW_no]
    ·exact⟨rfl,rfl,rfl,rfl⟩
    intro u hu;obtain⟨c1,c2,c3⟩:=cpl u hu;obtain⟨_,_,q3,q4⟩:=hS;have:=List.drop_eq_nil_iff.1 c2;have e4:X.pos=(p0.length:Int):=by omega
    rw[c1,e4]at e;simp at e
   ·have e:X.fail=false/\X.pos=(p0.length:Int):=by simpa using e
    obtain⟨s1,s2⟩:=snd e.1 (qav qqo)
    have hE:EW ⟨g,g',X.n⟩ p0:=by
     refine⟨s2.wq,k41.2 ⟨?_,?_,?_,fun x hx=>(s2.1.2 x hx).spendV,fun x hx=>(s2.2.1.2 x hx).noteV⟩,s1⟩
     ·have:=s2.1.1.2.2;show g.length<=4;omega
     ·have:=s2.2.1.1.2.2;show g'.length<=4;omega
     ·have:X.n<=18446744069414584320:=s2.2.2.2;show X.n<_;omega
    rw[kpg hE fun u hu=>(cpl u hu).2.2];exact⟨rfl,rfl,rfl,rfl⟩
noncomputable def k71:Con TB.den:= .g (gk 92 [.one (.ptr 0 0),.agg yK1,.agg yG1,.one (.d (.sl yqb))] yQ (.one (.one (.d (.bool))))) [.st 0,.st 13,.sl yqb,.bool,yqu,yqi,.sl (.st 4),.sl (.str),.sl yqi,.sl (.str),.sl (.sl yqu),.sl (.str),.sl (.bool)] yX [] fun(p1:wE) (p2:wAC) (p3:Li) (Ac:Bool) (Aa Ae:Int) (Ab:List wD) (w1k:Lb) (w1v:Li) (w2k:Lb) (w2v:List (Li)) (w3k:Lb) (w3v:Lo)=>(p1.wb=2/\By p3/\p3.length<=137438953472/\SR p2/\Ac=false/\w1k=([]:Lb)/\w1v=([]:Li),(((decW p3).2==0&&checkS pkR p2 (decW p3).1==0):Bool),Ac,Aa,Ae,Ab,w1k,w1v,w2k,w2v,w3k,w3v,())
theorem k7y:k71.Ok Tryz.prog TB:=prv Bs Tryz.func92 .no (k3j.c (k3s.c c0)) (Q:=∀(p1:wE) (p2:wAC) (p3:Li) (Ac:Bool) (Aa Ae:Int) (Ab:List wD) (w1k:Lb) (w1v:Li) (w2k:Lb) (w2v:List (Li)) (w3k:Lb) (w3v:Lo),(p1.wb=2/\By p3/\p3.length<=137438953472/\SR p2/\Ac=false/\w1k=([]:Lb)/\w1v=([]:Li))->∀r0:Bool,((decW p3).2==0&&checkS pkR p2 (decW p3).1==0)=r0->∀Ay:Bool,Ac=Ay->∀Aq:Int,Aa=Aq->∀Aw:Int,Ae=Aw->∀Ax:List wD,Ab=Ax->∀e1k:Lb,w1k=e1k->∀e1v:Li,w1v=e1v->∀e2k:Lb,w2k=e2k->∀e2v:List (Li),w2v=e2v->∀e3k:Lb,w3k=e3k->∀e3v:Lo,w3v=e3v-> 
((p1.wb==1)=true->
 False)/\
((p1.wb==1)=false->
((p1.wb==2)=true->
(By p3/\p3.length<=137438953472)/\∀(r7:wj) (r8:Int),(r7=((decW p3).1)/\r8=((decW p3).2))->((r8==0)=true->
(SR p2/\WR r7/\OrOk w1k w1v Ab/\(∀l a,(pk Ac Ab w1k w1v) l a=none∨∃n,(pk Ac Ab w1k w1v) l a=some n/\U64 n))/\let v9:Bool:=((checkS (pk Ac Ab w1k w1v) p2 r7)==0)
 v9=r0/\Ac=Ay/\Aa=Aq/\Ae=Aw/\Ab=Ax/\w1k=e1k/\w1v=e1v/\w2k=e2k/\w2v=e2v/\w3k=e3k/\w3v=e3v)/\
((r8==0)=false->
 false=r0/\Ac=Ay/\Aa=Aq/\Ae=Aw/\Ab=Ax/\w1k=e1k/\w1v=e1v/\w2k=e2k/\w2v=e2v/\w3k=e3k/\w3v=e3v))/\
((p1.wb==2)=false->
 False)))<|by
 rintro p1 p2 p3 Ac Aa Ae Ab w1k w1v w2k w2v w3k w3v h;repeat rintro _ rfl
 obtain⟨hm,hb,hl,hs,rfl,rfl,rfl⟩:=h;have hp:pk false Ab [] []=pkR:=by funext l a;exact pk_real _ _ _
 refine⟨fun e=> ?_,fun _=>⟨fun _=>⟨⟨hb,hl⟩,?_⟩,fun e=> ?_⟩⟩
 ·rw[hm]at e;cases e
 ·rintro _ _ ⟨rfl,rfl⟩;refine⟨fun e=>⟨⟨hs,kpc e,orOk_q _,fun l a=>by rw[hp];exact pkR_u⟩,?_⟩,fun e=> ?_⟩
  ·rw[e,hp];exact(by repeat' first|apply qq|exact rfl|exact qn)
  ·rw[e];exact(by repeat' first|apply qq|exact rfl|exact qn)
 ·rw[hm]at e;cases e
noncomputable def k9o:Con TB.den:= .g (gk 47 [.one (.ptr 0 0),.agg yK1,.agg yD1] yQ (.one (.one (zqi)))) [.st 0,.st 2,.bool,yqu,yqi,.sl (.st 4),.sl (.str),.sl yqi,.sl (.str),.sl (.sl yqu),.sl (.str),.sl (.bool)] yZ [] fun(p1:wE) (p2:wZ) (Ac:Bool) (Aa Ae:Int) (Ab:List wD) (w1k:Lb) (w1v:Li) (w2k:Lb) (w2v:List (Li)) (w3k:Lb) (w3v:Lo)=>((p1.wb=2/\TR p2/\p2.wo.length<=137438953472)/\Ac=false/\w1k=([]:Lb)/\w1v=([]:Li),(txE p1 p2:Int),Ac,Aa,Ae,Ab,w1k,w1v,w2k,w2v,w3k,w3v,())
theorem kc4:k9o.Ok Tryz.prog TB:=prv Bs Tryz.func47 .no (k15.c (k1n.c (k1m.c (k57.c (k7y.c c0))))) (Q:=∀(p1:wE) (p2:wZ) (Ac:Bool) (Aa Ae:Int) (Ab:List wD) (w1k:Lb) (w1v:Li) (w2k:Lb) (w2v:List (Li)) (w3k:Lb) (w3v:Lo),((p1.wb=2/\TR p2/\p2.wo.length<=137438953472)/\Ac=false/\w1k=([]:Lb)/\w1v=([]:Li))->∀r0:Int,txE p1 p2=r0->∀Ay:Bool,Ac=Ay->∀Aq:Int,Aa=Aq->∀Aw:Int,Ae=Aw->∀Ax:List wD,Ab=Ax->∀e1k:Lb,w1k=e1k->∀e1v:Li,w1v=e1v->∀e2k:Lb,w2k=e2k->∀e2v:List (Li),w2v=e2v->∀e3k:Lb,w3k=e3k->∀e3v:Lo,w3v=e3v-> 
(((rulesE p1) !=0)=true->
(rulesE p1)=r0/\Ac=Ay/\Aa=Aq/\Ae=Aw/\Ab=Ax/\w1k=e1k/\w1v=e1v/\w2k=e2k/\w2v=e2v/\w3k=e3k/\w3v=e3v)/\
(((rulesE p1) !=0)=false->
((!(Ac==(p1.wb==3)))=true->
 1=r0/\Ac=Ay/\Aa=Aq/\Ae=Aw/\Ab=Ax/\w1k=e1k/\w1v=e1v/\w2k=e2k/\w2v=e2v/\w3k=e3k/\w3v=e3v)/\
((!(Ac==(p1.wb==3)))=false->
(((validE p2) !=0)=true->
(validE p2)=r0/\Ac=Ay/\Aa=Aq/\Ae=Aw/\Ab=Ax/\w1k=e1k/\w1v=e1v/\w2k=e2k/\w2v=e2v/\w3k=e3k/\w3v=e3v)/\
(((validE p2) !=0)=false->
(TR p2/\-9223372036854775808<=p1.wB/\p1.wB<=9223372036854775807)/\(p1.wb=2/\By p2.wo/\p2.wo.length<=137438953472/\SR (stmtS p2 p1.wB)/\Ac=false/\w1k=([]:Lb)/\w1v=([]:Li))/\let r1:Bool:=((decW p2.wo).2==0&&checkS pkR (stmtS p2 p1.wB) (decW p2.wo).1==0)
((!r1)=true->
 10=r0/\Ac=Ay/\Aa=Aq/\Ae=Aw/\Ab=Ax/\w1k=e1k/\w1v=e1v/\w2k=e2k/\w2v=e2v/\w3k=e3k/\w3v=e3v)/\
((!r1)=false->
 0=r0/\Ac=Ay/\Aa=Aq/\Ae=Aw/\Ab=Ax/\w1k=e1k/\w1v=e1v/\w2k=e2k/\w2v=e2v/\w3k=e3k/\w3v=e3v)))))<|by
 rintro p1 p2 Ac Aa Ae Ab w1k w1v w2k w2v w3k w3v h;repeat rintro _ rfl
 obtain⟨⟨hm,ht,hpl⟩,rfl,rfl,rfl⟩:=h;unfold txE;refine⟨fun e=> ?_,fun e=> ?_⟩
 ·rw[qi (by simpa using e)];exact(by repeat' first|apply qq|exact rfl|exact qn)
 ·have e:rulesE p1=0:=by simpa using e
  have hb:=kbb e;simp only[rulesB,qe,qaf]at hb;rw[qf (fun hh=>hh e)];refine⟨fun e2=> ?_,fun _=>⟨fun e3=> ?_,fun e3=> ?_⟩⟩
  ·rw[hm]at e2;cases e2
  ·rw[qi (by simpa using e3)];exact(by repeat' first|apply qq|exact rfl|exact qn)
  ·have e3:validE p2=0:=by simpa using e3
   rw[qf (fun hh=>hh e3)];refine⟨⟨ht,by omega,by omega⟩,⟨hm,ht.p,hpl,kp3 ht qqo,rfl,rfl,rfl⟩,fun e4=> ?_,fun e4=> ?_⟩
   ·have e4:(!accT p1 p2)=true:=e4;have e4:accT p1 p2=false:=by simpa using e4
    rw[qi e4];exact(by repeat' first|apply qq|exact rfl|exact qn)
   ·have e4:(!accT p1 p2)=false:=e4;have e4:accT p1 p2=true:=by simpa using e4
    rw[qf (by rw[e4];simp)];exact(by repeat' first|apply qq|exact rfl|exact qn)
end Go.Proofs.YtcghahkoioeddaaGreatDoor
end
