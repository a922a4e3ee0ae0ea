/- Parts of the proofs, merged by a program. -/
import Derived.Test.YtljmmhaiaipckaaGreatA5
set_option maxRecDepth 100000
set_option linter.all false
noncomputable section
namespace Go.Proofs.YtljmmhaiaipckaaGreat
open Go Go.Bv Go.Cv Go.Md Go.RowKit
open Go.IntKind (i64 u64)
noncomputable def k6e:Ct:= .b (gk 182 [.one (.ptr 0 0),.one (zqu),.one (zqi)] yA (.one (.one (zql)))) (.int .u64:: .int .i64::yF) [.sl yqu,yqi,.sl yqu,yqu,yqu,yqu,yqi,yqi,yqi,yqi,yqi,yqu,.sl yqu,yqu,yqu,.sl yqu,yqu,.bool,yqu,yqi,.sl (.st 4),.sl (.st 12),.sl (.st 13),.sl yqi,.sl (.st 11),.sl (.str),.sl yqi,.sl (.str),.sl (.sl yqu),.sl (.str),.sl (.bool)] fun(p1 p2 Ab:Int) (Ac:Li) (Ai Ak Al Aj Af Ag At Au Ae:Int) (Ah:Li) (Av Aw:Int) (Ax:Li) (Ay:Int) (Ap:Bool) (Aq As:Int) (Ao:List wG) (w2:List wAb) (w3:List wJ) (w4k:Li) (w4v:List wN) (w5k:Lb) (w5v:Li) (w6k:Lb) (w6v:List (Li)) (w7k:Lb) (w7v:Lo)=>((0<=p2/\p2<=w2.length/\p2<=9223372036854775807)/\ECk ⟨w2,Ac⟩,(),fun _=>((ancS w2 Ac p1 p2.toNat:Li),Ab,Ac,Ai,Ak,Al,Aj,Af,Ag,At,Au,Ae,Ah,Av,Aw,Ax,Ay,Ap,Aq,As,Ao,w2,w3,w4k,w4v,w5k,w5v,w6k,w6v,w7k,w7v,()))
theorem k7k:k6e.O:=pbv Bs Tryz.func182 (.r 0 (.nd [] (.r 0 (.lp [] ⟨[],[],[7],[.one (zqi)],[]⟩ .no)) [] .no)) c0 (Q:=∀(p1 p2 Ab:Int) (Ac:Li) (Ai Ak Al Aj Af Ag At Au Ae:Int) (Ah:Li) (Av Aw:Int) (Ax:Li) (Ay:Int) (Ap:Bool) (Aq As:Int) (Ao:List wG) (w2:List wAb) (w3:List wJ) (w4k:Li) (w4v:List wN) (w5k:Lb) (w5v:Li) (w6k:Lb) (w6v:List (Li)) (w7k:Lb) (w7v:Lo),((0<=p2/\p2<=w2.length/\p2<=9223372036854775807)/\ECk ⟨w2,Ac⟩)->∀R:Unit,()=R-> 
∃(I1:Int->Prop) (M1:Int->Nat),I1 (i64.wrap (p2-1))/\∀b1,(I1 b1->
(decide (0<=b1)=true->
(0<=b1)/\b1<(w2.length:Int)/\((((ix w2 b1).root)==p1)=true->
(0<=b1)/\b1<(w2.length:Int)/\(0<=(ix w2 b1).leaves)/\(ix w2 b1).leaves<=(Ac.length:Int)/\(w3=w3)/\(w2=w2)/\Ac.take ((ix w2 b1).leaves).toNat=(ancS w2 Ac p1 p2.toNat:Li)/\Ab=Ab/\Ac=Ac/\Ai=Ai/\Ak=Ak/\Al=Al/\Aj=Aj/\Af=Af/\Ag=Ag/\At=At/\Au=Au/\Ae=Ae/\Ah=Ah/\Av=Av/\Aw=Aw/\Ax=Ax/\Ay=Ay/\Ap=Ap/\Aq=Aq/\As=As/\Ao=Ao/\w2=w2/\w3=w3/\w4k=w4k/\w4v=w4v/\w5k=w5k/\w5v=w5v/\w6k=w6k/\w6v=w6v/\w7k=w7k/\w7v=w7v)/\
((((ix w2 b1).root)==p1)=false->
I1 (i64.wrap (b1-1))/\M1 (i64.wrap (b1-1))<M1 b1))/\
(decide (0<=b1)=false->
(w3=w3)/\(w2=w2)/\([]:Li)=(ancS w2 Ac p1 p2.toNat:Li)/\Ab=Ab/\Ac=Ac/\Ai=Ai/\Ak=Ak/\Al=Al/\Aj=Aj/\Af=Af/\Ag=Ag/\At=At/\Au=Au/\Ae=Ae/\Ah=Ah/\Av=Av/\Aw=Aw/\Ax=Ax/\Ay=Ay/\Ap=Ap/\Aq=Aq/\As=As/\Ao=Ao/\w2=w2/\w3=w3/\w4k=w4k/\w4v=w4v/\w5k=w5k/\w5v=w5v/\w6k=w6k/\w6v=w6v/\w7k=w7k/\w7v=w7v)))<|by
 rintro p1 p2 Ab Ac Ai Ak Al Aj Af Ag At Au Ae Ah Av Aw Ax Ay Ap Aq As Ao w2 w3 w4k w4v w5k w5v w6k w6v w7k w7v h R hR;obtain⟨⟨h1,h2,h3⟩,hC⟩:=h;obtain⟨n,rfl⟩:=qn h1;rw[qx,wi ((n:Int)-1) qqo qqo];refine⟨(fun i=>∃k:Nat,i=(k:Int)-1/\k<=n/\ancS w2 Ac p1 k=ancS w2 Ac p1 n),(fun i=>(i+1).toNat),⟨n,rfl,qab _,rfl⟩,?_⟩;rintro _ ⟨k,rfl,hk,hg⟩;refine⟨fun e=> ?_,fun e=> ?_⟩
 ·have e:0<=(k:Int)-1:=qb e;obtain⟨j,rfl⟩:∃j,k=j+1:=⟨k-1,by omega⟩;have ej:((j+1:Nat):Int)-1=(j:Int):=by omega
  rw[ej];have hm:=ix_mem w2 (j:Int) qqo qqo;obtain⟨t1,t2⟩:=hC.t _ hm;rw[ancS]at hg;refine⟨by omega,by omega,fun e2=> ?_,fun e2=> ?_⟩
  ·rw[qf (by simpa using e2)]at hg;rw[<-hg];exact⟨by omega,by omega,t1,t2,(by repeat' first|apply qaa|exact rfl|exact ql)⟩
  ·rw[qe (by simpa using e2)]at hg;rw[wi ((j:Int)-1) qqo qqo];exact⟨⟨j,rfl,by omega,hg⟩,by(dsimp only;omega)⟩
 ·have e:¬0<=(k:Int)-1:=qc e;obtain rfl:k=0:=by omega
  rw[<-hg];exact(by repeat' first|apply qaa|exact rfl|exact ql)
noncomputable def kln:Ct:= .gp 216 [yqi,.sl yqu,yqi] [yqu] [] fun(p0:Int) (p1:Li) (p2:Int)=>(0<=p2/\0<=p0/\p0<=12,(p1.getD p2.toNat (emp p0.toNat):Int),())
theorem kb9:kln.O:=qrv Bs Tryz.func216 .no (k3z.c c0) (Q:=∀(p0:Int) (p1:Li) (p2:Int),(0<=p2/\0<=p0/\p0<=12)->∀r0:Int,(p1.getD p2.toNat (emp p0.toNat))=r0-> 
(decide (p2<(p1.length:Int))=true->
(0<=p2)/\p2<(p1.length:Int)/\ix p1 p2=r0)/\
(decide (p2<(p1.length:Int))=false->
(0<=p0/\p0<=12)/\(emp p0.toNat)=r0))<|by
 rintro p0 p1 p2 h _ rfl;obtain⟨h1,h2,h3⟩:=h;obtain⟨k,rfl⟩:=qn h1;refine⟨fun e=> ?_,fun e=> ?_⟩
 ·have e:=qb e;exact⟨h1,e,by rw[ix_get p1 k qqo,qx,gD_lt qqo]⟩
 ·have e:=qc e;exact⟨⟨h2,h3⟩,by rw[gD_ge qqo]⟩
noncomputable def ken:Ct:= .gp 217 [yqi,.sl yqu] [.sl yqu] [] fun(p0:Int) (p1:Li)=>((0<=p0/\p0<=12)/\Us p1/\p1.length<=4096,(abvS p0.toNat p1:Li),())
theorem kfh:ken.O:=qrv Bs Tryz.func217 (.r 1 (.nd [] (.r 0 (.lp [.frz 0 [5]] ⟨[1],[.tip yqu],[5,6],[.one (.own 0),.one (zqi)],[]⟩ .no)) [] .no)) (kb9.c (k3y.c c0)) (Q:=∀(p0:Int) (p1:Li),((0<=p0/\p0<=12)/\Us p1/\p1.length<=4096)->∀r0:Li,abvS p0.toNat p1=r0-> 
let v1:Int:=i64.wrap (Int.tdiv (i64.wrap ((p1.length:Int)+1)) 2)
0<=(0:Int)/\(0:Int)<=v1/\(v1.toNat*8<=140737488355328)/\(v1.toNat<=maxLen)/\(0=(List.replicate 0 (0:Int)).length)/\(List.replicate 0 (0:Int)=List.replicate 0 (0:Int))/\∃(I1:Int->(Li)->Prop) (M1:Int->(Li)->Nat),I1 0 (List.replicate 0 (0:Int))/\∀b1 f1,(I1 b1 f1->
(decide (b1<(p1.length:Int))=true->
(0<=b1)/\b1<(p1.length:Int)/\(0<=(i64.wrap (b1+1))/\0<=p0/\p0<=12)/\let r2:Int:=(p1.getD (i64.wrap (b1+1)).toNat (emp p0.toNat))
(U64 (wAn.mk (ix p1 b1) r2).a0/\U64 (wAn.mk (ix p1 b1) r2).a1)/\lz f1/\(f1.length+[(ndA (wAn.mk (ix p1 b1) r2))].length)*8<=140737488355328/\f1.length+[(ndA (wAn.mk (ix p1 b1) r2))].length<=maxLen/\(f1++[(ndA (wAn.mk (ix p1 b1) r2))]=f1++[(ndA (wAn.mk (ix p1 b1) r2))])/\I1 (i64.wrap (b1+2)) (f1++[(ndA (wAn.mk (ix p1 b1) r2))])/\M1 (i64.wrap (b1+2)) (f1++[(ndA (wAn.mk (ix p1 b1) r2))])<M1 b1 f1)/\
(decide (b1<(p1.length:Int))=false->
f1=r0)))<|by
 rintro p0 p1 h _ rfl;obtain⟨⟨h1,h2⟩,hu,hl⟩:=h;have e1:i64.wrap (Int.tdiv (i64.wrap ((p1.length:Int)+1)) 2)=(((p1.length+1)/2:Nat):Int):=by rw[wi ((p1.length:Int)+1) qqo qqo,Int.tdiv_eq_ediv_of_nonneg qqo,wi _ qqo qqo];omega
 dsimp only;rw[e1];refine⟨by omega,by omega,by omega,(by unfold maxLen;omega),rfl,rfl,(fun i f=>∃k:Nat,i=2*(k:Int)/\f.length=k/\k<=p1.length/\f++abvS p0.toNat (p1.drop (2*k))=abvS p0.toNat p1),(fun i _=>(p1.length+1-i).toNat),⟨0,by simp,rfl,by omega,by simp⟩,?_⟩;rintro _ f1 ⟨k,rfl,hf,hk,hg⟩;refine⟨fun e=> ?_,fun e=> ?_⟩
 ·have e:2*(k:Int)<p1.length:=qb e;have hm:=ix_mem p1 (2*(k:Int)) qqo e;have hx:ix p1 (2*(k:Int))=p1.getD (2*k) 0:=by rw[show(2*(k:Int))=((2*k:Nat):Int)by omega,ix_get _ _ qqo,gD_lt qqo]
  have ht:(2*(k:Int)+1).toNat=2*k+1:=by omega
  rw[wi (2*(k:Int)+1) qqo qqo,wi (2*(k:Int)+2) qqo qqo,ht];rw[kqk _ _ _ qqo,<-hx]at hg
  have hu2:U64 (p1.getD (2*k+1) (emp p0.toNat)):=by
   by_cases hh:2*k+1<p1.length
   ·rw[gD_lt hh];exact hu _ (qah hh)
   ·rw[gD_ge qqo];exact emp_u _
  refine⟨by omega,e,⟨by omega,h1,h2⟩,⟨hu _ hm,hu2⟩,rfl,?_,?_,rfl,⟨k+1,by omega,by simp[hf],by omega,?_⟩,by(dsimp only;omega)⟩
  ·simp only[qj,qt];omega
  ·simp only[qj,qt];unfold maxLen;omega
  ·rw[<-hg,qw];rfl
 ·have e:¬2*(k:Int)<p1.length:=qc e;rw[qam qqo]at hg;rw[<-hg];exact(qcd _).symm
noncomputable def k9d:Ct:= .b (gk 183 [.one (.ptr 0 0),.agg yA1,.one (zqu),.one (zql)] yA (.tup [.one (.d (.sl (.st 14))),.one (.d (.sl (.st 14)))])) (.st 11:: .int .u64:: .sl yqu::yF) (.sl (.st 14):: .sl (.st 14)::yF) fun(p1:wN) (p2:Int) (p3:Li) (Ab:Int) (Ac:Li) (Ai Ak Al Aj Af Ag At Au Ae:Int) (Ah:Li) (Av Aw:Int) (Ax:Li) (Ay:Int) (Ap:Bool) (Aq As:Int) (Ao:List wG) (w2:List wAb) (w3:List wJ) (w4k:Li) (w4v:List wN) (w5k:Lb) (w5v:Li) (w6k:Lb) (w6v:List (Li)) (w7k:Lb) (w7v:Lo)=>((U64 p2/\Us p3/\p3.length<=4096)/\SPk p1,(),fun _=>((ownsL p1.wC p2 p1.wj:List wAn),(realsL (lf p3) p1.wC.toNat p1.wj.length:List wAn),Ab,Ac,Ai,Ak,Al,Aj,Af,Ag,At,Au,Ae,Ah,Av,Aw,Ax,Ay,Ap,Aq,As,Ao,w2,w3,w4k,w4v,w5k,w5v,w6k,w6v,w7k,w7v,()))
abbrev Fz3 (r:Type):=Int->(Li)->Int->(List wAn)->(List wAn)->r
theorem ka2:k9d.O:=pbv Bs Tryz.func183 (.r 0 (.nd [] (.r 0 (.lp [.tok 8 (.st 14),.tok 9 (.st 14)] ⟨[9,10],[.tip (.st 14),.tip (.st 14)],[2,3,8,9,17],[.one (zqu),.one (zql),.one (.own 0),.one (.own 1),.one (zqi)],[]⟩ (.r 1 (.nd [] (.r 2 (.jn ⟨[11],[.cells [zqu,zqu]],[],[],[]⟩ [] .no [] .no)) [] .no)))) [] .no)) (kb9.c (k3y.c (kfh.c c0))) (Q:=∀(p1:wN) (p2:Int) (p3:Li) (Ab:Int) (Ac:Li) (Ai Ak Al Aj Af Ag At Au Ae:Int) (Ah:Li) (Av Aw:Int) (Ax:Li) (Ay:Int) (Ap:Bool) (Aq As:Int) (Ao:List wG) (w2:List wAb) (w3:List wJ) (w4k:Li) (w4v:List wN) (w5k:Lb) (w5v:Li) (w6k:Lb) (w6v:List (Li)) (w7k:Lb) (w7v:Lo),((U64 p2/\Us p3/\p3.length<=4096)/\SPk p1)->∀R:Unit,()=R-> 
(([]:List wAn)=([]:List wAn))/\(([]:List wAn)=([]:List wAn))/\∃(I1:Fz3 Prop) (M1:Fz3 Nat),I1 p2 p3 0 ([]:List wAn) ([]:List wAn)/\∀b1 f1 i1 k1 l1,(I1 b1 f1 i1 k1 l1->
(decide (i1<(p1.wj.length:Int))=true->
(0<=i1)/\i1<(p1.wj.length:Int)/\(0<=i1)/\∀J1:Int->Int->Prop,(∀(m1 n1:Int),
(k1.length=k1.length/\(k1.length+[wAn.mk m1 n1].length)*16<=140737488355328/\k1.length+[wAn.mk m1 n1].length<=maxLen/\(0<=(ianot .i64 (ishr .i64 p1.wC i1) 1)/\0<=i1/\i1<=12)/\let r3:Int:=(f1.getD (ianot .i64 (ishr .i64 p1.wC i1) 1).toNat (emp i1.toNat))
(0<=(ior .i64 (ishr .i64 p1.wC i1) 1)/\0<=i1/\i1<=12)/\let r4:Int:=(f1.getD (ior .i64 (ishr .i64 p1.wC i1) 1).toNat (emp i1.toNat))
lz l1/\(l1.length+[wAn.mk r3 r4].length)*16<=140737488355328/\l1.length+[wAn.mk r3 r4].length<=maxLen/\(U64 (wAn.mk m1 n1).a0/\U64 (wAn.mk m1 n1).a1)/\((0<=i1/\i1<=12)/\Us f1/\f1.length<=4096)/\(l1++[wAn.mk r3 r4]=l1++[wAn.mk r3 r4])/\(k1++[wAn.mk m1 n1]=k1++[wAn.mk m1 n1])/\I1 (ndA (wAn.mk m1 n1)) (abvS i1.toNat f1) (i64.wrap (i1+1)) (k1++[wAn.mk m1 n1]) (l1++[wAn.mk r3 r4])/\M1 (ndA (wAn.mk m1 n1)) (abvS i1.toNat f1) (i64.wrap (i1+1)) (k1++[wAn.mk m1 n1]) (l1++[wAn.mk r3 r4])<M1 b1 f1 i1 k1 l1)->J1 m1 n1)->
let v2:Bool:=((iand .i64 (ishr .i64 p1.wC i1) 1)==1)
(v2=true->
J1 (ix p1.wj i1) b1)/\
(v2=false->
J1 b1 (ix p1.wj i1)))/\
(decide (i1<(p1.wj.length:Int))=false->
(w3=w3)/\(w2=w2)/\k1=(ownsL p1.wC p2 p1.wj:List wAn)/\l1=(realsL (lf p3) p1.wC.toNat p1.wj.length:List wAn)/\Ab=Ab/\Ac=Ac/\Ai=Ai/\Ak=Ak/\Al=Al/\Aj=Aj/\Af=Af/\Ag=Ag/\At=At/\Au=Au/\Ae=Ae/\Ah=Ah/\Av=Av/\Aw=Aw/\Ax=Ax/\Ay=Ay/\Ap=Ap/\Aq=Aq/\As=As/\Ao=Ao/\w2=w2/\w3=w3/\w4k=w4k/\w4v=w4v/\w5k=w5k/\w5v=w5v/\w6k=w6k/\w6v=w6v/\w7k=w7k/\w7v=w7v)))<|by
 rintro p1 p2 p3 Ab Ac Ai Ak Al Aj Af Ag At Au Ae Ah Av Aw Ax Ay Ap Aq As Ao w2 w3 w4k w4v w5k w5v w6k w6v w7k w7v h R hR;obtain⟨⟨hu,hs,hl⟩,hp⟩:=h;obtain⟨p0,pm,pl,pu⟩:=hp.p0,hp.pm,hp.pl,hp.pu;generalize hP:p1.wC=P at *
 generalize hQ:p1.wj=Q at *
 obtain⟨n,rfl⟩:=qn p0;rw[qx];refine⟨rfl,rfl,(fun b f i k l=>∃j:Nat,i=(j:Int)/\j<=Q.length/\U64 b/\Us f/\f.length<=4096/\(∀p,f.getD p (emp j)=TT (lf p3) j p)/\k.length=j/\k++ownsL ((n/2^j:Nat):Int) b (Q.drop j)=ownsL (n:Int) p2 Q/\l=realsL (lf p3) n j),(fun _ _ i _ _=>(Q.length-i).toNat),⟨0,rfl,qaq _,hu,hs,hl,fun p=>rfl,rfl,by simp,rfl⟩,?_⟩;rintro b f _ k _ ⟨j,rfl,hj,hb,hf,hfl,hT,hk,hg,rfl⟩;refine⟨fun e=> ?_,fun e=> ?_⟩
 ·have e:(j:Int)<Q.length:=qb e;have hjl:j<Q.length:=by omega
  have hm:=ix_mem Q (j:Int) qqo e;have hq:n/2^j<=64:=qax (Nat.div_le_self _ _) qqo;have hx:ix Q (j:Int)=Q[j]:=ix_get _ _ hjl;rw[shr_nat n j qqo,(bitnot _ hq).1,(bitnot _ hq).2,inc (j:Int) Q.length qqo qqo qqo,k4o _ ⟨qck _,Int.lt_of_le_of_lt (Int.ofNat_le.2 hq) qqd⟩];rw[qo hjl,<-hx]at hg;simp only[qx];refine⟨by omega,e,by omega,?_⟩;intro J kJ
  have j1:∀m s,wAn.mk m s=ownP ((n/2^j:Nat):Int) b (ix Q (j:Int))->U64 m->U64 s->J m s:=fun m s hms um us=>kJ m s (by
   rw[hms];have hr:realsL (lf p3) n j++[wAn.mk (f.getD (2*(n/2^j/2)) (emp j)) (f.getD (2*(n/2^j/2)+1) (emp j))]=realsL (lf p3) n (j+1):=by rw[hT,hT];unfold realsL;rw[List.range_succ,qbg];rfl
   rw[hr];have hrl:(realsL (lf p3) n j).length=j:=by simp[realsL]
   have h12:(j:Int)<=12:=by omega
   refine⟨by trivial,?_,?_,⟨qck _,by omega,h12⟩,⟨qck _,by omega,h12⟩,by trivial,?_,?_,?_,⟨⟨by omega,h12⟩,hf,hfl⟩,by trivial,by trivial,⟨j+1,by omega,by omega,kh _ _,abvS_u _ _,qax (kkb _ _) hfl,fun p=> ?_,by simp[hk],?_,rfl⟩,by(first|omega|(dsimp only;omega))⟩
   ·rw[hk];simp only[qj,qt];omega
   ·rw[hk];simp only[qj,qt];unfold maxLen;omega
   ·rw[hrl];simp only[qj,qt];omega
   ·rw[hrl];simp only[qj,qt];unfold maxLen;omega
   ·exact⟨um,us⟩
   ·rw[kk6,hT,hT];rfl
   ·rw[<-hg,qw,k16];congr 1)
  refine⟨fun e2=> ?_,fun e2=> ?_⟩
  ·exact j1 _ _ (by unfold ownP;rw[qf (by simpa using e2)]) (pu _ hm) hb
  ·exact j1 _ _ (by unfold ownP;rw[qe (by simpa using e2)]) hb (pu _ hm)
 ·have e:¬(j:Int)<Q.length:=qc e;obtain rfl:j=Q.length:=by omega
  rw[qbs]at hg;have hg:k++[]=ownsL (n:Int) p2 Q:=hg;rw[qcd]at hg;subst hg;exact(by repeat' first|apply qaa|exact rfl|exact ql)
noncomputable def k85:Ct:= .gp 67 [.sl yqu] [.bool] [] fun(p0:Li)=>(p0.length<=9223372036854775807,(allB p0:Bool),())
theorem k8o:k85.O:=qrv Bs Tryz.func67 (.r 0 (.nd [] (.r 0 (.lp [] ⟨[],[],[7],[.one (zqi)],[]⟩ .no)) [] .no)) c0 (Q:=∀(p0:Li),(p0.length<=9223372036854775807)->∀r0:Bool,allB p0=r0-> 
∃(I1:Int->Prop) (M1:Int->Nat),I1 0/\∀b1,(I1 b1->
(decide (b1<(p0.length:Int))=true->
(0<=b1)/\b1<(p0.length:Int)/\let v1:Bool:=decide (18446744069414584321<=(ix p0 b1))
(v1=true->
false=r0)/\
(v1=false->
I1 (i64.wrap (b1+1))/\M1 (i64.wrap (b1+1))<M1 b1))/\
(decide (b1<(p0.length:Int))=false->
true=r0)))<|by rintro p0 h _ rfl;refine(⟨(AllI (fun x=>decide (x<18446744069414584321)) p0),(fun i=>(p0.length-i).toNat),AllI.start,?_⟩);intro i hi;refine⟨fun hh=> ?_,fun hh=>(hi.done (qc hh)).symm⟩;have hh:=qb hh;exact⟨hi.1,hh,fun e=>(hi.bad hh (by simpa using e)).symm,fun e=>hi.next hh qqo (by simpa using e)⟩
noncomputable def k52:Ct:= .g (gk 98 [.one (.own 0),.one (zqu)] [.tip yqb] (.one (.one (.own 0)))) [yqu,.sl yqb] [.sl yqb] [] fun(p1:Int) (w0:Li)=>(U64 p1/\w0.length<=137438953472,(w0++dig 8 p1:Li),())
theorem k5m:k52.O:=prv Bs Tryz.func98 (.r 0 (.nd [] (.r 0 (.lp [] ⟨[0],[.tip yqb],[0,1,5],[.one (.own 0),.one (zqu),.one (zqi)],[]⟩ .no)) [] .no)) c0 (Q:=∀(p1:Int) (w0:Li),(U64 p1/\w0.length<=137438953472)->∀e0:Li,(w0++dig 8 p1)=e0-> 
(w0=w0)/\∃(I1:Int->Int->(Li)->Prop) (M1:Int->Int->(Li)->Nat),I1 p1 0 w0/\∀b1 f1 i1,(I1 b1 f1 i1->
(decide (f1<8)=true->
lz i1/\(i1.length+[IntKind.u8.wrap b1].length)*1<=140737488355328/\i1.length+[IntKind.u8.wrap b1].length<=maxLen/\(i1++[IntKind.u8.wrap b1]=i1++[IntKind.u8.wrap b1])/\I1 (ishr .u64 b1 8) (i64.wrap (f1+1)) (i1++[IntKind.u8.wrap b1])/\M1 (ishr .u64 b1 8) (i64.wrap (f1+1)) (i1++[IntKind.u8.wrap b1])<M1 b1 f1 i1)/\
(decide (f1<8)=false->
(i1=i1)/\i1=e0)))<|by
 rintro p1 w0 h _ rfl;obtain⟨h1,h2⟩:=h;refine⟨rfl,⟨(fun n i g=>0<=i/\i<=8/\U64 n/\n=p1/256^i.toNat/\g=w0++dig i.toNat p1),(fun _ i _=>(8-i).toNat),⟨by omega,by omega,h1,by simp,by simp[dig]⟩,?_⟩⟩;rintro n i g ⟨g0,g1,g2,g3,rfl⟩;refine⟨fun h=> ?_,fun h=> ?_⟩
 ·have h:=qb h;rw[inc i 8 g0 h qqo,ishr8,u8w];refine⟨rfl,?_,?_,rfl,⟨by omega,by omega,⟨by omega,by omega⟩,?_,?_⟩,by(first|omega|(dsimp only;omega))⟩
  ·simp;omega
  ·simp;unfold maxLen;omega
  ·rw[g3,show(i+1).toNat=i.toNat+1 by omega,qcn (qcr (k19 _)),qcl]
  ·rw[show(i+1).toNat=i.toNat+1 by omega,k4d,qw,g3]
 ·have h:=qc h;exact⟨rfl,by rw[show i=8 by omega];rfl⟩
noncomputable def kfo:Ct:= .gp 68 [.sl yqu,.sl yqu] [.str] [] fun(p0 p1:Li)=>(Us p0/\Us p1/\p0.length<=1073741824/\p1.length<=1073741824,(keyB p1 p0:ByteArray),())
theorem kj9:kfo.O:=qrv Bs Tryz.func68 (.r 1 (.nd [] (.r 0 (.lp [.frz 0 [5]] ⟨[1],[.tip yqb],[5,19],[.one (.own 0),.one (zqi)],[]⟩ .no)) [] (.nd [] (.r 0 (.lp [] ⟨[1],[.tip yqb],[5,29],[.one (.own 0),.one (zqi)],[]⟩ .no)) [] .no))) (k5m.c c0) (Q:=∀(p0 p1:Li),(Us p0/\Us p1/\p0.length<=1073741824/\p1.length<=1073741824)->∀r0:ByteArray,keyB p1 p0=r0-> 
let v1:Int:=i64.wrap ((p1.length:Int)+(p0.length:Int))
0<=(0:Int)/\(0:Int)<=i64.wrap (8*v1)/\((i64.wrap (8*v1)).toNat*1<=140737488355328)/\((i64.wrap (8*v1)).toNat<=maxLen)/\(0=(List.replicate 0 (0:Int)).length)/\(List.replicate 0 (0:Int)=List.replicate 0 (0:Int))/\∃(I1:Int->(Li)->Prop) (M1:Int->(Li)->Nat),I1 0 (List.replicate 0 (0:Int))/\∀b1 f1,(I1 b1 f1->
(decide (b1<(p1.length:Int))=true->
(0<=b1)/\b1<(p1.length:Int)/\(f1=f1)/\(U64 (ix p1 b1)/\f1.length<=137438953472)/\((f1++dig 8 (ix p1 b1))=(f1++dig 8 (ix p1 b1)))/\I1 (i64.wrap (b1+1)) (f1++dig 8 (ix p1 b1))/\M1 (i64.wrap (b1+1)) (f1++dig 8 (ix p1 b1))<M1 b1 f1)/\
(decide (b1<(p1.length:Int))=false->
(f1=f1)/\∃(I2:Int->(Li)->Prop) (M2:Int->(Li)->Nat),I2 0 f1/\∀i1 k1,(I2 i1 k1->
(decide (i1<(p0.length:Int))=true->
(0<=i1)/\i1<(p0.length:Int)/\(k1=k1)/\(U64 (ix p0 i1)/\k1.length<=137438953472)/\((k1++dig 8 (ix p0 i1))=(k1++dig 8 (ix p0 i1)))/\I2 (i64.wrap (i1+1)) (k1++dig 8 (ix p0 i1))/\M2 (i64.wrap (i1+1)) (k1++dig 8 (ix p0 i1))<M2 i1 k1)/\
(decide (i1<(p0.length:Int))=false->
strOfNums k1=r0)))))<|by
 rintro p0 p1 h _ rfl;obtain⟨h0,h1,h2,h3⟩:=h;refine ?_;rw[wi ((p1.length:Int)+p0.length) qqo qqo];dsimp only;rw[wi (8*((p1.length:Int)+p0.length)) qqo qqo];refine⟨by omega,by omega,by omega,by unfold maxLen;omega,rfl,rfl,?_⟩;refine⟨(fun i g=>FlatI (dig 8) [] p1 i g),(fun i _=>(p1.length-i).toNat),FlatI.start,?_⟩;intro i g hg;have hl:=hg.len 8 (fun x _=>by simp);refine⟨fun hh=> ?_,fun hh=> ?_⟩
 ·have hh:=qb hh;exact⟨hg.1,hh,rfl,⟨h1 _ (ix_mem p1 i hg.1 hh),by simp at hl;omega⟩,rfl,hg.next hh qqo rfl⟩
 ·have hh:=qc hh;have e:=hg.done hh;refine⟨rfl,⟨(fun j g=>FlatI (dig 8) (p1.flatMap (dig 8)) p0 j g),(fun j _=>(p0.length-j).toNat),(by rw[e];exact FlatI.start),?_⟩⟩;intro j g2 hg2;have hl2:=hg2.len 8 (fun x _=>by simp);have hl3:=k1h p1;refine⟨fun hh2=> ?_,fun hh2=> ?_⟩
  ·have hh2:=qb hh2;exact⟨hg2.1,hh2,rfl,⟨h0 _ (ix_mem p0 j hg2.1 hh2),by omega⟩,rfl,hg2.next hh2 qqo rfl⟩
  ·rw[hg2.done (qc hh2)];rfl
noncomputable def kdo:Ct:= .b (gk 38 [.one (.ptr 0 0),.one (zqu),.one (zql)] yK (.tup [.one (zqu),.one (.d (.bool))])) [yqu,.sl yqu,.bool,yqu,yqi,.sl (.st 4),.sl (.str),.sl yqi,.sl (.str),.sl (.sl yqu),.sl (.str),.sl (.bool)] yQ fun(p1:Int) (p2:Li) (Aa:Bool) (Ab Ad:Int) (Ac:List wG) (w1k:Lb) (w1v:Li) (w2k:Lb) (w2v:List (Li)) (w3k:Lb) (w3v:Lo)=>(U64 p1/\Us p2/\p2.length<=1073741824/\OrOk w1k w1v Ac,(),fun _=>(((pk Aa Ac w1k w1v p1 p2).getD 0:Int),((pk Aa Ac w1k w1v p1 p2).isSome:Bool),Aa,Ab,Ad,Ac,w1k,w1v,w2k,w2v,w3k,w3v,()))
theorem k6a:kdo.O:=pbv Bs Tryz.func38 .no (k8o.c (kj9.c (kx.c c0))) (Q:=∀(p1:Int) (p2:Li) (Aa:Bool) (Ab Ad:Int) (Ac:List wG) (w1k:Lb) (w1v:Li) (w2k:Lb) (w2v:List (Li)) (w3k:Lb) (w3v:Lo),(U64 p1/\Us p2/\p2.length<=1073741824/\OrOk w1k w1v Ac)->∀R:Unit,()=R-> 
(p2.length<=9223372036854775807)/\((!(allB p2))=true->
0=((pk Aa Ac w1k w1v p1 p2).getD 0:Int)/\false=((pk Aa Ac w1k w1v p1 p2).isSome:Bool)/\Aa=Aa/\Ab=Ab/\Ad=Ad/\Ac=Ac/\w1k=w1k/\w1v=w1v/\w2k=w2k/\w2v=w2v/\w3k=w3k/\w3v=w3v)/\
((!(allB p2))=false->
(Us p2/\Us [p1]/\p2.length<=1073741824/\[p1].length<=1073741824)/\w1k.length=w1v.length/\let v2:Int:=mVal (BEq.beq (keyB [p1] p2)) w1k w1v (0:Int)
(mHas (BEq.beq (keyB [p1] p2)) w1k=true->
(0<=v2)/\v2<(Ac.length:Int)/\(ix Ac v2).wAo=((pk Aa Ac w1k w1v p1 p2).getD 0:Int)/\true=((pk Aa Ac w1k w1v p1 p2).isSome:Bool)/\Aa=Aa/\Ab=Ab/\Ad=Ad/\Ac=Ac/\w1k=w1k/\w1v=w1v/\w2k=w2k/\w2v=w2v/\w3k=w3k/\w3v=w3v)/\
(mHas (BEq.beq (keyB [p1] p2)) w1k=false->
(Aa=true->
0=((pk Aa Ac w1k w1v p1 p2).getD 0:Int)/\false=((pk Aa Ac w1k w1v p1 p2).isSome:Bool)/\Aa=Aa/\Ab=Ab/\Ad=Ad/\Ac=Ac/\w1k=w1k/\w1v=w1v/\w2k=w2k/\w2v=w2v/\w3k=w3k/\w3v=w3v)/\
(Aa=false->
((18446744069414584321:Int)=18446744069414584321/\U64 p1/\Us p2/\p2.length<=1099511627776)/\(hashS p1 p2)=((pk Aa Ac w1k w1v p1 p2).getD 0:Int)/\true=((pk Aa Ac w1k w1v p1 p2).isSome:Bool)/\Aa=Aa/\Ab=Ab/\Ad=Ad/\Ac=Ac/\w1k=w1k/\w1v=w1v/\w2k=w2k/\w2v=w2v/\w3k=w3k/\w3v=w3v))))<|by
 rintro p1 p2 Aa Ab Ad Ac w1k w1v w2k w2v w3k w3v h R hR;obtain⟨h1,h2,h3,ho⟩:=h;have hu:Us [p1]:=by intro x hx;rw[qal]at hx;subst hx;exact h1
 refine⟨by omega,fun e=> ?_,fun e=>⟨⟨h2,hu,h3,by simp⟩,ho.len,fun hm=> ?_,fun hm=>⟨fun hi=> ?_,fun hi=>⟨⟨rfl,h1,h2,by omega⟩,?_⟩⟩⟩⟩
 ·have e:allB p2=false:=by simpa using e
  simp[pk,e]
 ·have e:allB p2=true:=by simpa using e
  have hv:=ho.rng _ (krz (z:=(0:Int)) hm ho.len);refine⟨hv.1,hv.2,?_⟩;simp[pk,e,hm]
 ·have e:allB p2=true:=by simpa using e
  simp[pk,e,hm,hi]
 ·have e:allB p2=true:=by simpa using e
  simp[pk,e,hm,hi]
noncomputable def kfk:Ct:= .tp 211 [.st 13] [.bool] [] fun(p0:wJ)=>((noteV p0:Bool),())
theorem k3w:kfk.O:=qtv Bs Tryz.func211 .no c0 (Q:=∀(p0:wJ),∀r0:Bool,noteV p0=r0-> 
(decide (p0.Value<=4294967295)=true->
(decide (p0.wAg<18446744069414584321)=true->
(decide (p0.Rho<18446744069414584321)=true->
decide (p0.wBL<18446744069414584321)=r0)/\
(decide (p0.Rho<18446744069414584321)=false->
false=r0))/\
(decide (p0.wAg<18446744069414584321)=false->
false=r0))/\
(decide (p0.Value<=4294967295)=false->
false=r0))<|by rintro p0 _ rfl;refine ?_;unfold noteV;grind
noncomputable def kaa:Ct:= .tp 212 [.st 13] [.sl yqu] [] fun(p0:wJ)=>((noteL p0:Li),())
theorem kcu:kaa.O:=qtv Bs Tryz.func212 .no c0 (Q:=∀(p0:wJ),∀r0:Li,noteL p0=r0-> 
[p0.Value,p0.wAg,p0.Rho,p0.wBL]=r0)<|by rintro p0 _ rfl;exact rfl
noncomputable def k88:Ct:= .b (gk 176 [.one (.ptr 0 0),.agg [zqu,zqu,zqu,zqu]] yK (.tup [.one (zqu),.one (.d (.bool))])) [.st 13,.bool,yqu,yqi,.sl (.st 4),.sl (.str),.sl yqi,.sl (.str),.sl (.sl yqu),.sl (.str),.sl (.bool)] yQ fun(p1:wJ) (Aa:Bool) (Ab Ad:Int) (Ac:List wG) (w1k:Lb) (w1v:Li) (w2k:Lb) (w2v:List (Li)) (w3k:Lb) (w3v:Lo)=>(NR p1/\OrOk w1k w1v Ac,(),fun _=>(((commP (pk Aa Ac w1k w1v) p1).getD 0:Int),((commP (pk Aa Ac w1k w1v) p1).isSome:Bool),Aa,Ab,Ad,Ac,w1k,w1v,w2k,w2v,w3k,w3v,()))
theorem k23:k88.O:=pbv Bs Tryz.func176 .no (k3w.c (kcu.c (k6a.c c0))) (Q:=∀(p1:wJ) (Aa:Bool) (Ab Ad:Int) (Ac:List wG) (w1k:Lb) (w1v:Li) (w2k:Lb) (w2v:List (Li)) (w3k:Lb) (w3v:Lo),(NR p1/\OrOk w1k w1v Ac)->∀R:Unit,()=R-> 
((!(noteV p1))=true->
0=((commP (pk Aa Ac w1k w1v) p1).getD 0:Int)/\false=((commP (pk Aa Ac w1k w1v) p1).isSome:Bool)/\Aa=Aa/\Ab=Ab/\Ad=Ad/\Ac=Ac/\w1k=w1k/\w1v=w1v/\w2k=w2k/\w2v=w2v/\w3k=w3k/\w3v=w3v)/\
((!(noteV p1))=false->
(U64 (2:Int)/\Us (noteL p1)/\(noteL p1).length<=1073741824/\OrOk w1k w1v Ac)/\let r2:Int:=((pk Aa Ac w1k w1v (2:Int) (noteL p1)).getD 0)
let r3:Bool:=((pk Aa Ac w1k w1v (2:Int) (noteL p1)).isSome)
r2=((commP (pk Aa Ac w1k w1v) p1).getD 0:Int)/\r3=((commP (pk Aa Ac w1k w1v) p1).isSome:Bool)/\Aa=Aa/\Ab=Ab/\Ad=Ad/\Ac=Ac/\w1k=w1k/\w1v=w1v/\w2k=w2k/\w2v=w2v/\w3k=w3k/\w3v=w3v))<|by
 rintro p1 Aa Ab Ad Ac w1k w1v w2k w2v w3k w3v h R hR;obtain⟨h1,ho⟩:=h
 have hu:Us (noteL p1):=by
  intro x hx;simp only[noteL,qae,qcq,or_false]at hx;rcases hx with rfl|rfl|rfl|rfl
  ·exact h1.v
  ·exact h1.o
  ·exact h1.r
  ·exact h1.b
 refine ?_;simp only[k5b];unfold commP;refine⟨fun e=> ?_,fun e=>⟨⟨by decide,hu,by simp[noteL],ho⟩,?_⟩⟩
 ·have e:noteV p1=false:=by simpa using e
  simp[e]
 ·have e:noteV p1=true:=by simpa using e
  simp[e]
noncomputable def k9e:Ct:= .b (gk 137 [.one (.ptr 0 0),.agg yA1,.one (zqu),.one (zqi)] yA (.one (.agg yF1))) (.st 11:: .int .u64:: .int .i64::yF) yE fun(p1:wN) (p2 p3 Ab:Int) (Ac:Li) (Ai Ak Al Aj Af Ag At Au Ae:Int) (Ah:Li) (Av Aw:Int) (Ax:Li) (Ay:Int) (Ap:Bool) (Aq As:Int) (Ao:List wG) (w2:List wAb) (w3:List wJ) (w4k:Li) (w4v:List wN) (w5k:Lb) (w5v:Li) (w6k:Lb) (w6v:List (Li)) (w7k:Lb) (w7v:Lo)=>(((0<=p3/\p3<=w2.length/\p3<=9223372036854775807)/\ECk ⟨w2,Ac⟩)/\SPk p1/\Ap=false/\w5k=[]/\w5v=[],(),fun _=>((wrgS ⟨w2,Ac⟩ w3 p1 p2 p3:wAX),Ab,Ac,Ai,Ak,Al,Aj,Af,Ag,At,Au,Ae,Ah,Av,Aw,Ax,Ay,Ap,Aq,As,Ao,w2,w3,w4k,w4v,w5k,w5v,w6k,w6v,w7k,w7v,()))
theorem ka8:k9e.O:=pbv Bs Tryz.func137 (.r 3 (.nd [] (.r 0 (.lp [] ⟨[],[],[14],[.one (zqi)],[]⟩ .no)) [] (.r 0 (.nd [] (.jn ⟨[],[],[94],[.one (.d (.bool))],[]⟩ [] .no [] .no) [] .no)))) (k7k.c (k23.c (ka2.c (k3y.c (ke0.c (k8a.c c0)))))) (Q:=∀(p1:wN) (p2 p3 Ab:Int) (Ac:Li) (Ai Ak Al Aj Af Ag At Au Ae:Int) (Ah:Li) (Av Aw:Int) (Ax:Li) (Ay:Int) (Ap:Bool) (Aq As:Int) (Ao:List wG) (w2:List wAb) (w3:List wJ) (w4k:Li) (w4v:List wN) (w5k:Lb) (w5v:Li) (w6k:Lb) (w6v:List (Li)) (w7k:Lb) (w7v:Lo),(((0<=p3/\p3<=w2.length/\p3<=9223372036854775807)/\ECk ⟨w2,Ac⟩)/\SPk p1/\Ap=false/\w5k=[]/\w5v=[])->∀R:Unit,()=R-> 
(w3=w3)/\(w2=w2)/\((0<=p3/\p3<=w2.length/\p3<=9223372036854775807)/\ECk ⟨w2,Ac⟩)/\(NR (wJ.mk p1.wR p1.we p1.wY p1.wz)/\OrOk w5k w5v Ao)/\let r1:Int:=((commP (pk Ap Ao w5k w5v) (wJ.mk p1.wR p1.we p1.wY p1.wz)).getD 0)
let r2:Bool:=((commP (pk Ap Ao w5k w5v) (wJ.mk p1.wR p1.we p1.wY p1.wz)).isSome)
(w3=w3)/\(w2=w2)/\((U64 r1/\Us (ancS w2 Ac p2 p3.toNat)/\(ancS w2 Ac p2 p3.toNat).length<=4096)/\SPk p1)/\let r3:List wAn:=(realsL (lf (ancS w2 Ac p2 p3.toNat)) p1.wC.toNat p1.wj.length)
let v4:Int:=((ownsL p1.wC r1 p1.wj).length:Int)
∃(I1:Int->Prop) (M1:Int->Nat),I1 (i64.wrap (v4-1))/\∀b1,(I1 b1->
(decide (0<=b1)=true->
(0<=b1)/\b1<((ownsL p1.wC r1 p1.wj).length:Int)/\(0<=b1)/\b1<(r3.length:Int)/\let v5:Bool:=(!(((ix (ownsL p1.wC r1 p1.wj) b1).a0==(ix r3 b1).a0)&&(((ix (ownsL p1.wC r1 p1.wj) b1).a1==(ix r3 b1).a1)&&true)))
(v5=true->
(0<=b1)/\b1<((ownsL p1.wC r1 p1.wj).length:Int)/\(0<=b1)/\b1<((ownsL p1.wC r1 p1.wj).length:Int)/\(U64 (ix (ownsL p1.wC r1 p1.wj) b1).a0/\U64 (ix (ownsL p1.wC r1 p1.wj) b1).a1)/\let r6:Int:=(ndA (ix (ownsL p1.wC r1 p1.wj) b1))
let r7:=brQ (ix (ownsL p1.wC r1 p1.wj) b1) r6
(0<=b1)/\b1<(r3.length:Int)/\(0<=b1)/\b1<((ownsL p1.wC r1 p1.wj).length:Int)/\(U64 (ix (ownsL p1.wC r1 p1.wj) b1).a0/\U64 (ix (ownsL p1.wC r1 p1.wj) b1).a1)/\let r8:Int:=(ndA (ix (ownsL p1.wC r1 p1.wj) b1))
(w3=w3)/\(w2=w2)/\2=(wrgS ⟨w2,Ac⟩ w3 p1 p2 p3:wAX).wAW/\0=(wrgS ⟨w2,Ac⟩ w3 p1 p2 p3:wAX).wO/\0=(wrgS ⟨w2,Ac⟩ w3 p1 p2 p3:wAX).Tx/\r7.wBF=(wrgS ⟨w2,Ac⟩ w3 p1 p2 p3:wAX).wBH/\r7.wAp=(wrgS ⟨w2,Ac⟩ w3 p1 p2 p3:wAX).wBJ/\r7.wAo=(wrgS ⟨w2,Ac⟩ w3 p1 p2 p3:wAX).wAw/\(brQ (ix r3 b1) r8).wBF=(wrgS ⟨w2,Ac⟩ w3 p1 p2 p3:wAX).wBK/\(brQ (ix r3 b1) r8).wAp=(wrgS ⟨w2,Ac⟩ w3 p1 p2 p3:wAX).wBI/\(brQ (ix r3 b1) r8).wAo=(wrgS ⟨w2,Ac⟩ w3 p1 p2 p3:wAX).wAv/\Ab=Ab/\Ac=Ac/\Ai=Ai/\Ak=Ak/\Al=Al/\Aj=Aj/\Af=Af/\Ag=Ag/\At=At/\Au=Au/\Ae=Ae/\Ah=Ah/\Av=Av/\Aw=Aw/\Ax=Ax/\Ay=Ay/\Ap=Ap/\Aq=Aq/\As=As/\Ao=Ao/\w2=w2/\w3=w3/\w4k=w4k/\w4v=w4v/\w5k=w5k/\w5v=w5v/\w6k=w6k/\w6v=w6v/\w7k=w7k/\w7v=w7v)/\
(v5=false->
I1 (i64.wrap (b1-1))/\M1 (i64.wrap (b1-1))<M1 b1))/\
(decide (0<=b1)=false->
let r9:=comQ (wJ.mk p1.wR p1.we p1.wY p1.wz) r1
∀J1:Bool->Prop,(∀(f1:Bool),
((f1=true->
(0<=p1.wC)/\p1.wC<(w3.length:Int)/\(w3=w3)/\(w2=w2)/\2=(wrgS ⟨w2,Ac⟩ w3 p1 p2 p3:wAX).wAW/\0=(wrgS ⟨w2,Ac⟩ w3 p1 p2 p3:wAX).wO/\0=(wrgS ⟨w2,Ac⟩ w3 p1 p2 p3:wAX).Tx/\r9.wBF=(wrgS ⟨w2,Ac⟩ w3 p1 p2 p3:wAX).wBH/\r9.wAp=(wrgS ⟨w2,Ac⟩ w3 p1 p2 p3:wAX).wBJ/\r9.wAo=(wrgS ⟨w2,Ac⟩ w3 p1 p2 p3:wAX).wAw/\(comQ (ix w3 p1.wC) r1).wBF=(wrgS ⟨w2,Ac⟩ w3 p1 p2 p3:wAX).wBK/\(comQ (ix w3 p1.wC) r1).wAp=(wrgS ⟨w2,Ac⟩ w3 p1 p2 p3:wAX).wBI/\(comQ (ix w3 p1.wC) r1).wAo=(wrgS ⟨w2,Ac⟩ w3 p1 p2 p3:wAX).wAv/\Ab=Ab/\Ac=Ac/\Ai=Ai/\Ak=Ak/\Al=Al/\Aj=Aj/\Af=Af/\Ag=Ag/\At=At/\Au=Au/\Ae=Ae/\Ah=Ah/\Av=Av/\Aw=Aw/\Ax=Ax/\Ay=Ay/\Ap=Ap/\Aq=Aq/\As=As/\Ao=Ao/\w2=w2/\w3=w3/\w4k=w4k/\w4v=w4v/\w5k=w5k/\w5v=w5v/\w6k=w6k/\w6v=w6v/\w7k=w7k/\w7v=w7v)/\
(f1=false->
(w3=w3)/\(w2=w2)/\2=(wrgS ⟨w2,Ac⟩ w3 p1 p2 p3:wAX).wAW/\0=(wrgS ⟨w2,Ac⟩ w3 p1 p2 p3:wAX).wO/\0=(wrgS ⟨w2,Ac⟩ w3 p1 p2 p3:wAX).Tx/\r9.wBF=(wrgS ⟨w2,Ac⟩ w3 p1 p2 p3:wAX).wBH/\r9.wAp=(wrgS ⟨w2,Ac⟩ w3 p1 p2 p3:wAX).wBJ/\r9.wAo=(wrgS ⟨w2,Ac⟩ w3 p1 p2 p3:wAX).wAw/\6=(wrgS ⟨w2,Ac⟩ w3 p1 p2 p3:wAX).wBK/\([]:Li)=(wrgS ⟨w2,Ac⟩ w3 p1 p2 p3:wAX).wBI/\r1=(wrgS ⟨w2,Ac⟩ w3 p1 p2 p3:wAX).wAv/\Ab=Ab/\Ac=Ac/\Ai=Ai/\Ak=Ak/\Al=Al/\Aj=Aj/\Af=Af/\Ag=Ag/\At=At/\Au=Au/\Ae=Ae/\Ah=Ah/\Av=Av/\Aw=Aw/\Ax=Ax/\Ay=Ay/\Ap=Ap/\Aq=Aq/\As=As/\Ao=Ao/\w2=w2/\w3=w3/\w4k=w4k/\w4v=w4v/\w5k=w5k/\w5v=w5v/\w6k=w6k/\w6v=w6v/\w7k=w7k/\w7v=w7v))->J1 f1)->
let v10:Int:=((ancS w2 Ac p2 p3.toNat).length:Int)
(decide (p1.wC<v10)=true->
J1 (decide (p1.wC<(w3.length:Int))))/\
(decide (p1.wC<v10)=false->
J1 false))))<|by
 rintro p1 p2 p3 Ab Ac Ai Ak Al Aj Af Ag At Au Ae Ah Av Aw Ax Ay Ap Aq As Ao w2 w3 w4k w4v w5k w5v w6k w6v w7k w7v h R hR;obtain⟨⟨⟨a1,a2,a3⟩,hC⟩,hp,rfl,rfl,rfl⟩:=h;have hl1:(commP (pk false Ao [] []) (wJ.mk p1.wR p1.we p1.wY p1.wz)).getD 0=leafS p1:=by rw[pk_emp];rfl
 have hlu:=leafS_u p1;have hA:=kmj hC p2 p3.toNat;have hol:=kgs p1.wC (leafS p1) p1.wj;have hou:=ownsL_u p1.wC (leafS p1) p1.wj hlu hp.pu;have hrl:=kp0 (lf (ancS w2 Ac p2 p3.toNat)) p1.wC.toNat p1.wj.length;have h0:=hp.p0;have hpl:=hp.pl;generalize hG:wrgS ⟨w2,Ac⟩ w3 p1 p2 p3=G;unfold wrgS wrgF at hG;dsimp only at hG ⊢;rw[hl1];generalize ownsL p1.wC (leafS p1) p1.wj=O at *
 generalize realsL (lf (ancS w2 Ac p2 p3.toNat)) p1.wC.toNat p1.wj.length=Q at *
 refine⟨by trivial,by trivial,⟨⟨a1,a2,a3⟩,hC⟩,⟨hp.n,kbt _⟩,by trivial,by trivial,⟨⟨hlu,hA.2,hA.1⟩,hp⟩,(fun i=>∃k:Nat,i=(k:Int)-1/\k<=O.length/\wrgGo O Q k=wrgGo O Q O.length),(fun i=>(i+1).toNat),⟨O.length,wi _ qqo qqo,qab _,rfl⟩,?_⟩;rintro _ ⟨k,rfl,hk,hg⟩;refine⟨fun e=> ?_,fun e=> ?_⟩
 ·have e:0<=(k:Int)-1:=qb e;obtain⟨j,rfl⟩:∃j,k=j+1:=⟨k-1,by omega⟩;have ej:((j+1:Nat):Int)-1=(j:Int):=by omega
  rw[ej];have hu:=hou _ (ix_mem O (j:Int) qqo qqo);rw[wrgGo]at hg;refine⟨by omega,by omega,by omega,by omega,fun e2=> ?_,fun e2=> ?_⟩
  ·rw[qf ((pair_ne _ _).1 e2)]at hg;rw[<-hg]at hG;have hG:colF _ _=G:=hG;subst hG;exact⟨by omega,by omega,by omega,by omega,hu,by omega,by omega,by omega,by omega,hu,(by repeat' first|apply qaa|exact rfl|exact ql)⟩
  ·rw[qe (fun hn=>by rw[(pair_ne _ _).2 hn]at e2;cases e2)]at hg;rw[wi ((j:Int)-1) qqo qqo];exact⟨⟨j,rfl,by omega,hg⟩,by(first|omega|(dsimp only;omega))⟩
 ·have e:¬0<=(k:Int)-1:=qc e;obtain rfl:k=0:=by omega
  have hg:none=wrgGo O Q O.length:=hg;rw[<-hg]at hG;dsimp only at hG;intro J kJ
  have j:∀b:Bool,(b=true↔(p1.wC<(ancS w2 Ac p2 p3.toNat).length/\p1.wC<w3.length))->J b:=fun b hb=>kJ b ⟨fun e=>by
    rw[qf (hb.1 e)]at hG;subst hG;have:=(hb.1 e).2;exact⟨h0,this,(by repeat' first|apply qaa|exact rfl|exact ql)⟩,fun e=>by
    rw[qe (fun hh=>by rw[hb.2 hh]at e;cases e)]at hG;subst hG;exact(by repeat' first|apply qaa|exact rfl|exact ql)⟩
  refine⟨fun e2=>j _ ?_,fun e2=>j _ ?_⟩
  ·have e2:=qb e2;simp[e2]
  ·have e2:=qc e2;simp[e2]
noncomputable def kif:Ct:= .gp 34 [yqu,.sl yqu] [yqu] [] fun(p0:Int) (p1:Li)=>(U64 p0/\Us p1/\p1.length<=1099511627776,(hashS p0 p1:Int),())
theorem k4h:kif.O:=qrv Bs Tryz.func34 .no (kx.c c0) (Q:=∀(p0:Int) (p1:Li),(U64 p0/\Us p1/\p1.length<=1099511627776)->∀r0:Int,hashS p0 p1=r0-> 
((18446744069414584321:Int)=18446744069414584321/\U64 p0/\Us p1/\p1.length<=1099511627776)/\(hashS p0 p1)=r0)<|by rintro p0 p1 h _ rfl;exact⟨⟨rfl,h.1,h.2.1,h.2.2⟩,rfl⟩
noncomputable def kbi:Ct:= .gp 177 [yqu] [yqu] [] fun(p0:Int)=>(U64 p0,(acctS p0:Int),())
theorem kd7:kbi.O:=qrv Bs Tryz.func177 .no (k4h.c c0) (Q:=∀(p0:Int),(U64 p0)->∀r0:Int,acctS p0=r0-> 
(U64 (7:Int)/\Us [p0]/\[p0].length<=1099511627776)/\(hashS (7:Int) [p0])=r0)<|by rintro p0 h _ rfl;exact⟨⟨by decide,(by intro x hx;rw[qal]at hx;subst hx;exact h),by simp⟩,rfl⟩
noncomputable def k8f:Ct:= .gp 178 [.st 16] [yqu] [] fun(p0:wZ)=>(p0.Ins.length<=9223372036854775807,(inS p0.Ins:Int),())
theorem k8w:k8f.O:=qrv Bs Tryz.func178 (.r 1 (.nd [] (.r 0 (.lp [] ⟨[],[],[3,9],[.one (zqu),.one (zqi)],[]⟩ .no)) [] .no)) c0 (Q:=∀(p0:wZ),(p0.Ins.length<=9223372036854775807)->∀r0:Int,inS p0.Ins=r0-> 
∃(I1:Int->Int->Prop) (M1:Int->Int->Nat),I1 0 0/\∀b1 f1,(I1 b1 f1->
(decide (f1<(p0.Ins.length:Int))=true->
(0<=f1)/\f1<(p0.Ins.length:Int)/\let v1:Int:=u64.wrap (b1+((ix p0.Ins f1).wR))
I1 v1 (i64.wrap (f1+1))/\M1 v1 (i64.wrap (f1+1))<M1 b1 f1)/\
(decide (f1<(p0.Ins.length:Int))=false->
b1=r0)))<|by rintro p0 h _ rfl;refine(⟨(fun s i=>FoldI (fun s x=>(s+x.wR)%18446744073709551616) 0 p0.Ins i s),(fun s i=>(p0.Ins.length-i).toNat),FoldI.start,?_⟩);intro s i hi;refine⟨fun hh=> ?_,fun hh=>hi.done (qc hh)⟩;have hh:=qb hh;exact⟨hi.1,hh,hi.next hh qqo (by rw[u64w])⟩
noncomputable def k7g:Ct:= .gp 139 [.st 16] [yqu] [] fun(p0:wZ)=>(p0.wA.length<=9223372036854775807,(outS p0.wA:Int),())
theorem k33:k7g.O:=qrv Bs Tryz.func139 (.r 1 (.nd [] (.r 0 (.lp [] ⟨[],[],[3,9],[.one (zqu),.one (zqi)],[]⟩ .no)) [] .no)) c0 (Q:=∀(p0:wZ),(p0.wA.length<=9223372036854775807)->∀r0:Int,outS p0.wA=r0-> 
∃(I1:Int->Int->Prop) (M1:Int->Int->Nat),I1 0 0/\∀b1 f1,(I1 b1 f1->
(decide (f1<(p0.wA.length:Int))=true->
(0<=f1)/\f1<(p0.wA.length:Int)/\let v1:Int:=u64.wrap (b1+((ix p0.wA f1).Value))
I1 v1 (i64.wrap (f1+1))/\M1 v1 (i64.wrap (f1+1))<M1 b1 f1)/\
(decide (f1<(p0.wA.length:Int))=false->
b1=r0)))<|by rintro p0 h _ rfl;refine(⟨(fun s i=>FoldI (fun s x=>(s+x.Value)%18446744073709551616) 0 p0.wA i s),(fun s i=>(p0.wA.length-i).toNat),FoldI.start,?_⟩);intro s i hi;refine⟨fun hh=> ?_,fun hh=>hi.done (qc hh)⟩;have hh:=qb hh;exact⟨hi.1,hh,hi.next hh qqo (by rw[u64w])⟩
noncomputable def k67:Ct:= .gp 207 [.sl yqu] [.bool] [] fun(p0:Li)=>(p0.length<=9223372036854775807,(allB p0:Bool),())
theorem k2x:k67.O:=qrv Bs Tryz.func207 (.r 0 (.nd [] (.r 0 (.lp [] ⟨[],[],[7],[.one (zqi)],[]⟩ .no)) [] .no)) c0 (Q:=∀(p0:Li),(p0.length<=9223372036854775807)->∀r0:Bool,allB p0=r0-> 
∃(I1:Int->Prop) (M1:Int->Nat),I1 0/\∀b1,(I1 b1->
(decide (b1<(p0.length:Int))=true->
(0<=b1)/\b1<(p0.length:Int)/\let v1:Bool:=decide (18446744069414584321<=(ix p0 b1))
(v1=true->
false=r0)/\
(v1=false->
I1 (i64.wrap (b1+1))/\M1 (i64.wrap (b1+1))<M1 b1))/\
(decide (b1<(p0.length:Int))=false->
true=r0)))<|by rintro p0 h _ rfl;refine(⟨(AllI (fun x=>decide (x<18446744069414584321)) p0),(fun i=>(p0.length-i).toNat),AllI.start,?_⟩);intro i hi;refine⟨fun hh=> ?_,fun hh=>(hi.done (qc hh)).symm⟩;have hh:=qb hh;exact⟨hi.1,hh,fun e=>(hi.bad hh (by simpa using e)).symm,fun e=>hi.next hh qqo (by simpa using e)⟩
noncomputable def k9f:Ct:= .gp 209 [.sl (.st 13)] [.bool] [] fun(p0:List wJ)=>(p0.length<=9223372036854775807,(p0.all noteV:Bool),())
theorem ka3:k9f.O:=qrv Bs Tryz.func209 (.r 0 (.nd [] (.r 0 (.lp [] ⟨[],[],[7],[.one (zqi)],[]⟩ .no)) [] .no)) (k3w.c c0) (Q:=∀(p0:List wJ),(p0.length<=9223372036854775807)->∀r0:Bool,p0.all noteV=r0-> 
∃(I1:Int->Prop) (M1:Int->Nat),I1 0/\∀b1,(I1 b1->
(decide (b1<(p0.length:Int))=true->
(0<=b1)/\b1<(p0.length:Int)/\((!(noteV (ix p0 b1)))=true->
false=r0)/\
((!(noteV (ix p0 b1)))=false->
I1 (i64.wrap (b1+1))/\M1 (i64.wrap (b1+1))<M1 b1))/\
(decide (b1<(p0.length:Int))=false->
true=r0)))<|by rintro p0 h _ rfl;refine(⟨(AllI noteV p0),(fun i=>(p0.length-i).toNat),AllI.start,?_⟩);intro i hi;refine⟨fun hh=> ?_,fun hh=>(hi.done (qc hh)).symm⟩;have hh:=qb hh;exact⟨hi.1,hh,fun e=>(hi.bad hh (by simpa using e)).symm,fun e=>hi.next hh qqo (by simpa using e)⟩
noncomputable def k5x:Ct:= .gp 208 [.st 11] [.bool] [] fun(p0:wN)=>(p0.wj.length<=9223372036854775807,(spendV p0:Bool),())
theorem k6f:k5x.O:=qrv Bs Tryz.func208 .no (k3w.c (k2x.c c0)) (Q:=∀(p0:wN),(p0.wj.length<=9223372036854775807)->∀r0:Bool,spendV p0=r0-> 
let r1:Bool:=(noteV (wJ.mk p0.wR p0.we p0.wY p0.wz))
(r1=true->
([p0.Key].length<=9223372036854775807)/\((allB [p0.Key])=true->
(decide (0<=p0.wAP)=true->
(decide (p0.wAP<4)=true->
(decide (0<=p0.wC)=true->
(decide (p0.wC<=4095)=true->
(decide ((p0.wj.length:Int)<=12)=true->
(p0.wj.length<=9223372036854775807)/\(allB p0.wj)=r0)/\
(decide ((p0.wj.length:Int)<=12)=false->
false=r0))/\
(decide (p0.wC<=4095)=false->
false=r0))/\
(decide (0<=p0.wC)=false->
false=r0))/\
(decide (p0.wAP<4)=false->
false=r0))/\
(decide (0<=p0.wAP)=false->
false=r0))/\
((allB [p0.Key])=false->
false=r0))/\
(r1=false->
false=r0))<|by
 rintro p0 h _ rfl;have e1:allB [p0.Key]=decide (p0.Key<18446744069414584321):=by simp[allB]
 have e2:(decide ((p0.wj.length:Int)<=12))=decide (p0.wj.length<=12):=by congr 1;apply propext;omega
 refine ?_;simp only[e1,e2];unfold spendV noteOf;have:[p0.Key].length<=9223372036854775807:=by simp
 grind
noncomputable def k9g:Ct:= .gp 174 [.st 17,.st 16] [.bool] [] fun(p0:wAd) (p1:wZ)=>(SR p0/\WR p1,(relV p0 p1:Bool),())
theorem k9z:k9g.O:=qrv Bs Tryz.func174 (.r 5 (.nd [] (.r 0 (.lp [] ⟨[],[],[95],[.one (zqi)],[]⟩ .no)) [] .no)) (k2x.c (k6f.c (ka3.c c0))) (Q:=∀(p0:wAd) (p1:wZ),(SR p0/\WR p1)->∀r0:Bool,relV p0 p1=r0-> 
(decide (p0.wD<1)=true->
false=r0)/\
(decide (p0.wD<1)=false->
(decide (12<p0.wD)=true->
false=r0)/\
(decide (12<p0.wD)=false->
([p0.wM,p0.wQ,p0.wBb,p1.wAV].length<=9223372036854775807)/\let r1:Bool:=(allB [p0.wM,p0.wQ,p0.wBb,p1.wAV])
((!r1)=true->
false=r0)/\
((!r1)=false->
(decide (4294967295<p0.wH)=true->
false=r0)/\
(decide (4294967295<p0.wH)=false->
(decide (4294967295<p0.wL)=true->
false=r0)/\
(decide (4294967295<p0.wL)=false->
(decide (4294967295<p0.Fee)=true->
false=r0)/\
(decide (4294967295<p0.Fee)=false->
(p0.wE.length<=9223372036854775807)/\((!(allB p0.wE))=true->
false=r0)/\
((!(allB p0.wE))=false->
(p0.wt.length<=9223372036854775807)/\((!(allB p0.wt))=true->
false=r0)/\
((!(allB p0.wt))=false->
(p0.wAi.length<=9223372036854775807)/\((!(allB p0.wAi))=true->
false=r0)/\
((!(allB p0.wAi))=false->
let v2:Bool:=((p1.Ins.length:Int) !=(p0.wE.length:Int))
(v2=true->
false=r0)/\
(v2=false->
(decide (4<(p1.Ins.length:Int))=true->
false=r0)/\
(decide (4<(p1.Ins.length:Int))=false->
let v3:Bool:=((p1.wA.length:Int) !=(p0.wt.length:Int))
(v3=true->
false=r0)/\
(v3=false->
let v4:Bool:=((p1.wA.length:Int) !=(p0.wAi.length:Int))
(v4=true->
false=r0)/\
(v4=false->
(decide (4<(p1.wA.length:Int))=true->
false=r0)/\
(decide (4<(p1.wA.length:Int))=false->
∃(I1:Int->Prop) (M1:Int->Nat),I1 0/\∀b1,(I1 b1->
(decide (b1<(p1.Ins.length:Int))=true->
(0<=b1)/\b1<(p1.Ins.length:Int)/\((ix p1.Ins b1).wj.length<=9223372036854775807)/\((!(spendV (ix p1.Ins b1)))=true->
false=r0)/\
((!(spendV (ix p1.Ins b1)))=false->
let v5:Bool:=((((ix p1.Ins b1).wj).length:Int) !=p0.wD)
(v5=true->
false=r0)/\
(v5=false->
(0<=p0.wD)/\let v6:Bool:=decide ((ishl .i64 1 p0.wD)<=((ix p1.Ins b1).wC))
(v6=true->
false=r0)/\
(v6=false->
I1 (i64.wrap (b1+1))/\M1 (i64.wrap (b1+1))<M1 b1))))/\
(decide (b1<(p1.Ins.length:Int))=false->
(p1.wA.length<=9223372036854775807)/\(p1.wA.all noteV)=r0)))))))))))))))))<|by
 rintro p0 p1 h _ rfl;obtain⟨hs,hw⟩:=h;have l1:=hs.ml;have l2:=hs.cl;have l3:=hs.rl;have l4:=hw.il;have l5:=hw.ol
 have bad:∀b:Bool,(relV p0 p1=true->b=true)->b=false->false=relV p0 p1:=by
  intro b h hb;cases hr:relV p0 p1 with
  |false=>rfl
  |true=>have:=h hr;rw[this]at hb;cases hb
 have hf:relV p0 p1=true↔(1<=p0.wD/\p0.wD<=12/\allB [p0.wM,p0.wQ,p0.wBb,p1.wAV]=true/\p0.wH<=4294967295/\p0.wL<=4294967295/\p0.Fee<=4294967295/\allB p0.wE=true/\allB p0.wt=true/\allB p0.wAi=true/\p1.Ins.length=p0.wE.length/\p1.Ins.length<=4/\p1.wA.length=p0.wt.length/\p1.wA.length=p0.wAi.length/\p1.wA.length<=4/\p1.Ins.all (inV p0.wD)=true/\p1.wA.all noteV=true):=by unfold relV;simp only[qg,qai,and_assoc]
 have no:¬(1<=p0.wD/\p0.wD<=12/\allB [p0.wM,p0.wQ,p0.wBb,p1.wAV]=true/\p0.wH<=4294967295/\p0.wL<=4294967295/\p0.Fee<=4294967295/\allB p0.wE=true/\allB p0.wt=true/\allB p0.wAi=true/\p1.Ins.length=p0.wE.length/\p1.Ins.length<=4/\p1.wA.length=p0.wt.length/\p1.wA.length=p0.wAi.length/\p1.wA.length<=4/\p1.Ins.all (inV p0.wD)=true/\p1.wA.all noteV=true)->false=relV p0 p1:=by
  intro h;cases hr:relV p0 p1 with
  |false=>rfl
  |true=>exact(h (hf.1 hr)).elim
 clear bad;refine⟨fun h=>no fun a=> ?_,fun h1=>⟨fun h=>no fun a=> ?_,fun h2=>⟨by simp,fun h=>no fun a=> ?_,fun h3=>⟨fun h=>no fun a=> ?_,fun h4=>⟨fun h=>no fun a=> ?_,fun h5=>⟨fun h=>no fun a=> ?_,fun h6=>⟨by omega,fun h=>no fun a=> ?_,fun h7=>⟨by omega,fun h=>no fun a=> ?_,fun h8=>⟨by omega,fun h=>no fun a=> ?_,fun h9=>⟨fun h=>no fun a=> ?_,fun h10=>⟨fun h=>no fun a=> ?_,fun h11=>⟨fun h=>no fun a=> ?_,fun h12=>⟨fun h=>no fun a=> ?_,fun h13=>⟨fun h=>no fun a=> ?_,fun h14=> ?_⟩⟩⟩⟩⟩⟩⟩⟩⟩⟩⟩⟩⟩⟩
 ·have h:=qb h;omega
 ·have h:=qb h;omega
 ·rw[a.2.2.1]at h;cases h
 ·have h:=qb h;omega
 ·have h:=qb h;omega
 ·have h:=qb h;omega
 ·rw[a.2.2.2.2.2.2.1]at h;cases h
 ·rw[a.2.2.2.2.2.2.2.1]at h;cases h
 ·rw[a.2.2.2.2.2.2.2.2.1]at h;cases h
 ·have h:¬(p1.Ins.length:Int)=p0.wE.length:=by simpa using h
  omega
 ·have h:=qb h;omega
 ·have h:¬(p1.wA.length:Int)=p0.wt.length:=by simpa using h
  omega
 ·have h:¬(p1.wA.length:Int)=p0.wAi.length:=by simpa using h
  omega
 ·have h:=qb h;omega
 have h1:=qc h1;have h2:=qc h2;have h3:allB [p0.wM,p0.wQ,p0.wBb,p1.wAV]=true:=by simpa using h3
 have h4:=qc h4;have h5:=qc h5;have h6:=qc h6;have h7:allB p0.wE=true:=by simpa using h7
 have h8:allB p0.wt=true:=by simpa using h8
 have h9:allB p0.wAi=true:=by simpa using h9
 have h10:(p1.Ins.length:Int)=p0.wE.length:=by simpa using h10
 have h11:=qc h11;have h12:(p1.wA.length:Int)=p0.wt.length:=by simpa using h12
 have h13:(p1.wA.length:Int)=p0.wAi.length:=by simpa using h13
 have h14:=qc h14
 have hd:ishl .i64 1 p0.wD=2^p0.wD.toNat:=by
  have h0:0<=p0.wD/\p0.wD<=12:=by omega
  obtain⟨d,hd⟩:=qn h0.1;rw[hd]at h0 ⊢;have h0:d<=12:=by omega
  have key:∀d:Nat,d<=12->ishl .i64 1 (d:Int)=2^d:=by decide +kernel
  exact key d h0
 refine⟨(AllI (inV p0.wD) p1.Ins),(fun i=>(p1.Ins.length-i).toNat),AllI.start,?_⟩;intro i hi;refine⟨fun hh=> ?_,fun hh=> ?_⟩
 ·have hh:=qb hh;have hx:=hw.i _ (ix_mem p1.Ins i hi.1 hh);have nb:inV p0.wD (ix p1.Ins i)=false->false=relV p0 p1:=fun hb=>no fun a=>by rw[hi.bad hh hb]at a;exact absurd a.2.2.2.2.2.2.2.2.2.2.2.2.2.2.1 qqs
  refine⟨hi.1,hh,by have:=hx.pl;show(ix p1.Ins i).wj.length<=_;omega,fun e=>nb ?_,fun e=>⟨fun e2=>nb ?_,fun e2=>⟨by omega,fun e3=>nb ?_,fun e3=>hi.next hh qqo ?_⟩⟩⟩
  ·have e:spendV (ix p1.Ins i)=false:=by simpa using e
   simp[inV,e]
  ·have e2:¬((ix p1.Ins i).wj.length:Int)=p0.wD:=by simpa using e2
   simp[inV,e2]
  ·have e3:=qb e3;rw[hd]at e3;simp only[inV,qfg,decide_eq_false_iff_not];right;omega
  ·have e:spendV (ix p1.Ins i)=true:=by simpa using e
   have e2:((ix p1.Ins i).wj.length:Int)=p0.wD:=by simpa using e2
   have e3:=qc e3;rw[hd]at e3;simp only[inV,e,Bool.true_and,qg,qai];exact⟨e2,by(first|omega|(dsimp only;omega))⟩
 ·have ha:=hi.done (qc hh);refine⟨by omega,?_⟩;cases hn:p1.wA.all noteV with
  |false=>exact no fun a=>by rw[hn]at a;exact absurd a.2.2.2.2.2.2.2.2.2.2.2.2.2.2.2 qqs
  |true=>exact(hf.2 ⟨by omega,by omega,h3,by omega,by omega,by omega,h7,h8,h9,by omega,by omega,by omega,by omega,by omega,ha,hn⟩).symm
noncomputable def k9u:Ct:= .gp 210 [yqu,yqi,.sl yqu] [yqu] [] fun(p0 p1:Int) (p2:Li)=>(U64 p0/\Us p2/\p2.length<=1073741824/\p1<=9223372036854775807,(climbS p0 p1 p2:Int),())
theorem ka4:k9u.O:=qrv Bs Tryz.func210 (.r 1 (.nd [] (.r 0 (.lp [] ⟨[],[],[32],[.one (zqi)],[]⟩ .no)) [] (.r 0 (.nd [] (.r 0 (.lp [] ⟨[],[],[9,42],[.one (zqu),.one (zqi)],[]⟩ .no)) [] .no)))) (k1p.c c0) (Q:=∀(p0 p1:Int) (p2:Li),(U64 p0/\Us p2/\p2.length<=1073741824/\p1<=9223372036854775807)->∀r0:Int,climbS p0 p1 p2=r0-> 
(decide (12<(p2.length:Int))=true->
0=r0)/\
(decide (12<(p2.length:Int))=false->
(decide (p1<0)=true->
0=r0)/\
(decide (p1<0)=false->
(0<=(p2.length:Int))/\let v1:Bool:=decide ((ishl .i64 1 (p2.length:Int))<=p1)
(v1=true->
0=r0)/\
(v1=false->
(decide (18446744069414584321<=p0)=true->
0=r0)/\
(decide (18446744069414584321<=p0)=false->
∃(I1:Int->Prop) (M1:Int->Nat),I1 0/\∀b1,(I1 b1->
(decide (b1<(p2.length:Int))=true->
(0<=b1)/\b1<(p2.length:Int)/\let v2:Bool:=decide (18446744069414584321<=(ix p2 b1))
(v2=true->
0=r0)/\
(v2=false->
I1 (i64.wrap (b1+1))/\M1 (i64.wrap (b1+1))<M1 b1))/\
(decide (b1<(p2.length:Int))=false->
∃(I2:Int->Int->Prop) (M2:Int->Int->Nat),I2 p0 0/\∀f1 i1,(I2 f1 i1->
(decide (i1<(p2.length:Int))=true->
(0<=i1)/\i1<(p2.length:Int)/\(0<=i1)/\(((iand .i64 (ishr .i64 p1 i1) 1)==0)=true->
(U64 f1/\U64 (ix p2 i1))/\I2 (hashS 6 [f1,(ix p2 i1)]) (i64.wrap (i1+1))/\M2 (hashS 6 [f1,(ix p2 i1)]) (i64.wrap (i1+1))<M2 f1 i1)/\
(((iand .i64 (ishr .i64 p1 i1) 1)==0)=false->
(U64 (ix p2 i1)/\U64 f1)/\I2 (hashS 6 [(ix p2 i1),f1]) (i64.wrap (i1+1))/\M2 (hashS 6 [(ix p2 i1),f1]) (i64.wrap (i1+1))<M2 f1 i1))/\
(decide (i1<(p2.length:Int))=false->
f1=r0)))))))))<|by
 rintro p0 p1 p2 h _ rfl;obtain⟨h0,h2,h3,h4⟩:=h;have sh:∀d:Nat,d<=12->ishl .i64 1 (d:Int)=2^d:=by decide +kernel
 refine⟨fun e=> ?_,fun e=>⟨fun e2=> ?_,fun e2=>⟨by omega,fun e3=> ?_,fun e3=>⟨fun e4=> ?_,fun e4=> ?_⟩⟩⟩⟩
 ·have e:=qb e;unfold climbS;rw[qe qqo]
 ·have e2:=qb e2;unfold climbS;rw[qe qqo]
 ·have e:=qc e;have e3:=qb e3;rw[sh _ qqo]at e3;unfold climbS;rw[qe (fun a=>by have:=a.2.2.1;omega)]
 ·have e4:=qb e4;unfold climbS;rw[qe qqo]
 have e:=qc e;have e2:=qc e2;have e3:=qc e3;have e4:=qc e4;rw[sh _ qqo]at e3;refine⟨(AllI (fun x=>decide (x<18446744069414584321)) p2),(fun i=>(p2.length-i).toNat),AllI.start,?_⟩;intro i hi;refine⟨fun hh=> ?_,fun hh=> ?_⟩
 ·have hh:=qb hh;refine⟨hi.1,hh,fun e5=> ?_,fun e5=>hi.next hh qqo (by simpa using e5)⟩;have hb:allB p2=false:=hi.bad hh (by simpa using e5);unfold climbS;rw[qe (fun a=>by rw[hb]at a;exact absurd a.2.2.2.2 qqs)]
 ·have ha:allB p2=true:=hi.done (qc hh);have hc:climbS p0 p1 p2=climbL p0 p1 p2:=by unfold climbS;rw[qf ⟨by omega,by omega,by omega,by omega,ha⟩]
  rw[hc]
  have hpos:p1<4096:=by
   have h1:(2:Int)^p2.length<=2^12:=by exact_mod_cast qcy qqo qqo
   omega
  refine⟨(fun d i=>0<=i/\i<=p2.length/\U64 d/\climbL d (p1/2^i.toNat) (p2.drop i.toNat)=climbL p0 p1 p2),(fun d i=>(p2.length-i).toNat),⟨by omega,by omega,h0,by simp⟩,?_⟩;rintro d i ⟨g0,g1,g2,g3⟩;refine⟨fun hh=> ?_,fun hh=> ?_⟩
  ·have hh:=qb hh;have hx:=h2 _ (ix_mem p2 i g0 hh);rw[drop_ix p2 i g0 hh]at g3;have nx:=inc i p2.length g0 hh qqo;have hq:p1/2^i.toNat/2=p1/2^(i+1).toNat:=by rw[show(i+1).toNat=i.toNat+1 by omega,qcl,qcn (qcr (Int.pow_pos qqo))]
   have hbit:iand .i64 (ishr .i64 p1 i) 1=p1/2^i.toNat%2:=by
    have hs:ishr .i64 p1 i=p1/2^i.toNat:=by rw[k1e,show min i.toNat i64.bits=i.toNat from qca (by show i.toNat<=64;omega)];simp
    rw[hs];have hb0:0<=p1/2^i.toNat:=qdi qqo (qcr (Int.pow_pos qqo));have hb1:p1/2^i.toNat<=p1:=Int.ediv_le_self _ qqo;exact k4o _ ⟨hb0,by(first|omega|(dsimp only;omega))⟩
   rw[hbit];have g3:climbL (if p1/2^i.toNat%2=0 then hashS 6 [d,ix p2 i]else hashS 6 [ix p2 i,d]) (p1/2^i.toNat/2) (p2.drop (i+1).toNat)=climbL p0 p1 p2:=g3;rw[hq]at g3;refine⟨g0,hh,g0,fun hb=> ?_,fun hb=> ?_⟩
   ·have hb:p1/2^i.toNat%2=0:=by simpa using hb
    rw[qf hb]at g3;rw[nx];exact⟨⟨g2,hx⟩,⟨by omega,by omega,kh _ _,g3⟩,by(first|omega|(dsimp only;omega))⟩
   ·have hb:¬p1/2^i.toNat%2=0:=by simpa using hb
    rw[qe hb]at g3;rw[nx];exact⟨⟨hx,g2⟩,⟨by omega,by omega,kh _ _,g3⟩,by(first|omega|(dsimp only;omega))⟩
  ·have hh:=qc hh;rw[qam qqo]at g3;exact g3
noncomputable def kaq:Ct:= .tp 66 [yqi] [.bool] [] fun(p0:Int)=>((decide (0<=p0)&&decide (p0<4):Bool),())
theorem kbv:kaq.O:=qtv Bs Tryz.func66 .no c0 (Q:=∀(p0:Int),∀r0:Bool,(decide (0<=p0)&&decide (p0<4))=r0-> 
(decide (0<=p0)=true->
decide (p0<4)=r0)/\
(decide (0<=p0)=false->
false=r0))<|by rintro p0 _ rfl;refine ?_;grind
noncomputable def kg8:Ct:= .gp 37 [yqu,yqi] [yqu] [] fun(p0 p1:Int)=>(U64 p0/\-9223372036854775808<=p1/\p1<=9223372036854775807,(ownerS p0 p1:Int),())
theorem k80:kg8.O:=qrv Bs Tryz.func37 .no (kbv.c (k4h.c c0)) (Q:=∀(p0 p1:Int),(U64 p0/\-9223372036854775808<=p1/\p1<=9223372036854775807)->∀r0:Int,ownerS p0 p1=r0-> 
((!(decide (0<=p1)&&decide (p1<4)))=true->
0=r0)/\
((!(decide (0<=p1)&&decide (p1<4)))=false->
(U64 (1:Int)/\Us [p0,u64.wrap p1]/\[p0,u64.wrap p1].length<=1099511627776)/\let r1:Int:=(hashS (1:Int) [p0,u64.wrap p1])
r1=r0))<|by
 rintro p0 p1 h _ rfl;obtain⟨h0,h1,h2⟩:=h;refine⟨fun e=> ?_,fun e=> ?_⟩
 ·unfold ownerS;rw[qe (by simp at e;omega)]
 ·have e:0<=p1/\p1<4:=by simpa using e
  rw[wu p1 qqo qqo];refine⟨⟨by decide,?_,by simp⟩,?_⟩
  ·intro x hx;simp only[qae,qcq,or_false]at hx;rcases hx with rfl|rfl
   ·exact h0
   ·omega
  ·unfold ownerS;rw[qf e]
noncomputable def kdj:Ct:= .b (gk 20 [.one (.ptr 0 0),.one (zqu),.one (zqu)] yK (.tup [.one (zqu),.one (.d (.bool))])) [yqu,yqu,.bool,yqu,yqi,.sl (.st 4),.sl (.str),.sl yqi,.sl (.str),.sl (.sl yqu),.sl (.str),.sl (.bool)] yQ fun(p1 p2:Int) (Aa:Bool) (Ab Ad:Int) (Ac:List wG) (w1k:Lb) (w1v:Li) (w2k:Lb) (w2v:List (Li)) (w3k:Lb) (w3v:Lo)=>(U64 p1/\U64 p2/\OrOk w1k w1v Ac,(),fun _=>(((markP (pk Aa Ac w1k w1v) p1 p2).getD 0:Int),((markP (pk Aa Ac w1k w1v) p1 p2).isSome:Bool),Aa,Ab,Ad,Ac,w1k,w1v,w2k,w2v,w3k,w3v,()))
theorem k6b:kdj.O:=pbv Bs Tryz.func20 (.r 0 (.nd [] (.jn ⟨[],[],[13],[.one (.d (.bool))],[]⟩ [] .no [] .no) [] .no)) (k6a.c c0) (Q:=∀(p1 p2:Int) (Aa:Bool) (Ab Ad:Int) (Ac:List wG) (w1k:Lb) (w1v:Li) (w2k:Lb) (w2v:List (Li)) (w3k:Lb) (w3v:Lo),(U64 p1/\U64 p2/\OrOk w1k w1v Ac)->∀R:Unit,()=R-> 
∀J1:Bool->Prop,(∀(b1:Bool),
((b1=true->
0=((markP (pk Aa Ac w1k w1v) p1 p2).getD 0:Int)/\false=((markP (pk Aa Ac w1k w1v) p1 p2).isSome:Bool)/\Aa=Aa/\Ab=Ab/\Ad=Ad/\Ac=Ac/\w1k=w1k/\w1v=w1v/\w2k=w2k/\w2v=w2v/\w3k=w3k/\w3v=w3v)/\
(b1=false->
(U64 (3:Int)/\Us [p1,p2]/\[p1,p2].length<=1073741824/\OrOk w1k w1v Ac)/\let r2:Int:=((pk Aa Ac w1k w1v (3:Int) [p1,p2]).getD 0)
let r3:Bool:=((pk Aa Ac w1k w1v (3:Int) [p1,p2]).isSome)
r2=((markP (pk Aa Ac w1k w1v) p1 p2).getD 0:Int)/\r3=((markP (pk Aa Ac w1k w1v) p1 p2).isSome:Bool)/\Aa=Aa/\Ab=Ab/\Ad=Ad/\Ac=Ac/\w1k=w1k/\w1v=w1v/\w2k=w2k/\w2v=w2v/\w3k=w3k/\w3v=w3v))->J1 b1)->
(decide (18446744069414584321<=p1)=true->
J1 true)/\
(decide (18446744069414584321<=p1)=false->
J1 (decide (18446744069414584321<=p2))))<|by
 rintro p1 p2 Aa Ab Ad Ac w1k w1v w2k w2v w3k w3v h R hR;obtain⟨h1,h2,ho⟩:=h;intro J1 k1
 have j1:∀s:Bool,s=decide (¬(p1<18446744069414584321/\p2<18446744069414584321))->J1 s:=by
  intro s hs;refine k1 _ ⟨fun e=> ?_,fun e=> ?_⟩
  ·rw[e]at hs;have hs:=qb hs.symm;unfold markP;rw[qe hs];exact(by repeat' first|apply qaa|exact rfl|exact ql)
  ·rw[e]at hs;have hs:p1<18446744069414584321/\p2<18446744069414584321:=by simpa using hs.symm
   unfold markP;rw[qf hs];refine⟨⟨by decide,?_,by simp,ho⟩,(by repeat' first|apply qaa|exact rfl|exact ql)⟩;intro x hx;simp only[qae,qcq,or_false]at hx;rcases hx with rfl|rfl
   ·exact h1
   ·exact h2
 refine⟨fun e=>j1 _ ?_,fun e=>j1 _ ?_⟩
 ·have e:=qb e;symm;apply qas;omega
 ·have e:=qc e;congr 1;apply propext;omega
noncomputable def k7l:Ct:= .b (gk 175 [.one (.ptr 0 0),.agg yB1,.agg yA1,.one (zqu)] yK (.one (.one (zqi)))) [.st 17,.st 11,yqu,.bool,yqu,yqi,.sl (.st 4),.sl (.str),.sl yqi,.sl (.str),.sl (.sl yqu),.sl (.str),.sl (.bool)] yR fun(p1:wAd) (p2:wN) (p3:Int) (Aa:Bool) (Ab Ad:Int) (Ac:List wG) (w1k:Lb) (w1v:Li) (w2k:Lb) (w2v:List (Li)) (w3k:Lb) (w3v:Lo)=>(PR p2/\OrOk w1k w1v Ac/\(∀l a,(pk Aa Ac w1k w1v) l a=none∨∃n,(pk Aa Ac w1k w1v) l a=some n/\U64 n),(),fun _=>((inE (pk Aa Ac w1k w1v) p1.wM p3 p2:Int),Aa,Ab,Ad,Ac,w1k,w1v,w2k,w2v,w3k,w3v,()))
theorem k81:k7l.O:=pbv Bs Tryz.func175 .no (k80.c (k6b.c (k23.c (ka4.c c0)))) (Q:=∀(p1:wAd) (p2:wN) (p3:Int) (Aa:Bool) (Ab Ad:Int) (Ac:List wG) (w1k:Lb) (w1v:Li) (w2k:Lb) (w2v:List (Li)) (w3k:Lb) (w3v:Lo),(PR p2/\OrOk w1k w1v Ac/\(∀l a,(pk Aa Ac w1k w1v) l a=none∨∃n,(pk Aa Ac w1k w1v) l a=some n/\U64 n))->∀R:Unit,()=R-> 
(U64 p2.Key/\-9223372036854775808<=p2.wAP/\p2.wAP<=9223372036854775807)/\let v1:Bool:=(p2.we !=(ownerS p2.Key p2.wAP))
(v1=true->
21=(inE (pk Aa Ac w1k w1v) p1.wM p3 p2:Int)/\Aa=Aa/\Ab=Ab/\Ad=Ad/\Ac=Ac/\w1k=w1k/\w1v=w1v/\w2k=w2k/\w2v=w2v/\w3k=w3k/\w3v=w3v)/\
(v1=false->
(U64 p2.Key/\U64 p2.wY/\OrOk w1k w1v Ac)/\let r2:Int:=((markP (pk Aa Ac w1k w1v) p2.Key p2.wY).getD 0)
let r3:Bool:=((markP (pk Aa Ac w1k w1v) p2.Key p2.wY).isSome)
((!r3)=true->
12=(inE (pk Aa Ac w1k w1v) p1.wM p3 p2:Int)/\Aa=Aa/\Ab=Ab/\Ad=Ad/\Ac=Ac/\w1k=w1k/\w1v=w1v/\w2k=w2k/\w2v=w2v/\w3k=w3k/\w3v=w3v)/\
((!r3)=false->
((r2 !=p3)=true->
12=(inE (pk Aa Ac w1k w1v) p1.wM p3 p2:Int)/\Aa=Aa/\Ab=Ab/\Ad=Ad/\Ac=Ac/\w1k=w1k/\w1v=w1v/\w2k=w2k/\w2v=w2v/\w3k=w3k/\w3v=w3v)/\
((r2 !=p3)=false->
(p2.wBQ=true->
((p2.wR !=0)=true->
13=(inE (pk Aa Ac w1k w1v) p1.wM p3 p2:Int)/\Aa=Aa/\Ab=Ab/\Ad=Ad/\Ac=Ac/\w1k=w1k/\w1v=w1v/\w2k=w2k/\w2v=w2v/\w3k=w3k/\w3v=w3v)/\
((p2.wR !=0)=false->
0=(inE (pk Aa Ac w1k w1v) p1.wM p3 p2:Int)/\Aa=Aa/\Ab=Ab/\Ad=Ad/\Ac=Ac/\w1k=w1k/\w1v=w1v/\w2k=w2k/\w2v=w2v/\w3k=w3k/\w3v=w3v))/\
(p2.wBQ=false->
(NR (wJ.mk p2.wR p2.we p2.wY p2.wz)/\OrOk w1k w1v Ac)/\let r4:Int:=((commP (pk Aa Ac w1k w1v) (wJ.mk p2.wR p2.we p2.wY p2.wz)).getD 0)
let r5:Bool:=((commP (pk Aa Ac w1k w1v) (wJ.mk p2.wR p2.we p2.wY p2.wz)).isSome)
((!r5)=true->
11=(inE (pk Aa Ac w1k w1v) p1.wM p3 p2:Int)/\Aa=Aa/\Ab=Ab/\Ad=Ad/\Ac=Ac/\w1k=w1k/\w1v=w1v/\w2k=w2k/\w2v=w2v/\w3k=w3k/\w3v=w3v)/\
((!r5)=false->
(U64 r4/\Us p2.wj/\p2.wj.length<=1073741824/\p2.wC<=9223372036854775807)/\let v6:Bool:=((climbS r4 p2.wC p2.wj) !=p1.wM)
(v6=true->
11=(inE (pk Aa Ac w1k w1v) p1.wM p3 p2:Int)/\Aa=Aa/\Ab=Ab/\Ad=Ad/\Ac=Ac/\w1k=w1k/\w1v=w1v/\w2k=w2k/\w2v=w2v/\w3k=w3k/\w3v=w3v)/\
(v6=false->
0=(inE (pk Aa Ac w1k w1v) p1.wM p3 p2:Int)/\Aa=Aa/\Ab=Ab/\Ad=Ad/\Ac=Ac/\w1k=w1k/\w1v=w1v/\w2k=w2k/\w2v=w2v/\w3k=w3k/\w3v=w3v)))))))<|by
 rintro p1 p2 p3 Aa Ab Ad Ac w1k w1v w2k w2v w3k w3v h R hR;obtain⟨hp,ho,hu⟩:=h;have hm:markP (pk Aa Ac w1k w1v) p2.Key p2.wY=none∨∃n,markP (pk Aa Ac w1k w1v) p2.Key p2.wY=some n/\U64 n:=by unfold markP;split;exact hu _ _;exact .inl rfl
 have hc:commP (pk Aa Ac w1k w1v) (noteOf p2)=none∨∃n,commP (pk Aa Ac w1k w1v) (noteOf p2)=some n/\U64 n:=by unfold commP;split;exact hu _ _;exact .inl rfl
 have hcu:U64 ((commP (pk Aa Ac w1k w1v) (noteOf p2)).getD 0):=by
  rcases hc with h|⟨n,h,hn⟩
  ·rw[h];decide
  ·rw[h];exact hn
 have en:noteOf p2=⟨p2.wR,p2.we,p2.wY,p2.wz⟩:=rfl;refine⟨⟨hp.k,hp.nu.1,hp.nu.2⟩,?_⟩;simp only[<-en];unfold inE;refine⟨fun e=> ?_,fun e=>⟨⟨hp.k,hp.n.r,ho⟩,fun e2=> ?_,fun e2=>⟨fun e3=> ?_,fun e3=>⟨fun e4=>⟨fun e5=> ?_,fun e5=> ?_⟩,fun e4=>⟨⟨hp.n,ho⟩,fun e6=> ?_,fun e6=>⟨⟨hcu,hp.pa,hp.pl,hp.po.2⟩,fun e7=> ?_,fun e7=> ?_⟩⟩⟩⟩⟩⟩
 all_goals simp_all
noncomputable def k8u:Ct:= .b (gk 135 [.one (.ptr 0 0),.agg yB1,.agg yC1] yK (.one (.one (zqi)))) [.st 17,.st 16,.bool,yqu,yqi,.sl (.st 4),.sl (.str),.sl yqi,.sl (.str),.sl (.sl yqu),.sl (.str),.sl (.bool)] yR fun(p1:wAd) (p2:wZ) (Aa:Bool) (Ab Ad:Int) (Ac:List wG) (w1k:Lb) (w1v:Li) (w2k:Lb) (w2v:List (Li)) (w3k:Lb) (w3v:Lo)=>(SR p1/\WR p2/\OrOk w1k w1v Ac/\(∀l a,(pk Aa Ac w1k w1v) l a=none∨∃n,(pk Aa Ac w1k w1v) l a=some n/\U64 n),(),fun _=>((checkS (pk Aa Ac w1k w1v) p1 p2:Int),Aa,Ab,Ad,Ac,w1k,w1v,w2k,w2v,w3k,w3v,()))
abbrev Fz4 (r:Type):=Int->Bool->Int->Int->(List wG)->(Lb)->(Lo)->(Lb)->(List (Li))->(Lb)->(Li)->r
theorem ka0:k8u.O:=pbv Bs Tryz.func135 (.r 1 (.nd [] (.r 0 (.lp [] ⟨[3,2,1,0],yM,[21],[.one (zqi)],[]⟩ .no)) [] (.nd [] (.r 0 (.lp [] ⟨[3,2,1,0],yM,[42],[.one (zqi)],[]⟩ .no)) [] (.jn ⟨[],[],[],[],[]⟩ [] .no [] .no)))) (k9z.c (k81.c (k23.c (kd7.c (k8w.c (k33.c c0)))))) (Q:=∀(p1:wAd) (p2:wZ) (Aa:Bool) (Ab Ad:Int) (Ac:List wG) (w1k:Lb) (w1v:Li) (w2k:Lb) (w2v:List (Li)) (w3k:Lb) (w3v:Lo),(SR p1/\WR p2/\OrOk w1k w1v Ac/\(∀l a,(pk Aa Ac w1k w1v) l a=none∨∃n,(pk Aa Ac w1k w1v) l a=some n/\U64 n))->∀R:Unit,()=R-> 
(SR p1/\WR p2)/\((!(relV p1 p2))=true->
1=(checkS (pk Aa Ac w1k w1v) p1 p2:Int)/\Aa=Aa/\Ab=Ab/\Ad=Ad/\Ac=Ac/\w1k=w1k/\w1v=w1v/\w2k=w2k/\w2v=w2v/\w3k=w3k/\w3v=w3v)/\
((!(relV p1 p2))=false->
∃(I1:Fz4 Prop) (M1:Fz4 Nat),I1 0 Aa Ab Ad Ac w3k w3v w2k w2v w1k w1v/\∀b1 f1 i1 k1 l1 m1 n1 o1 q1 s1 t1,(I1 b1 f1 i1 k1 l1 m1 n1 o1 q1 s1 t1->
(decide (b1<(p2.Ins.length:Int))=true->
(0<=b1)/\b1<(p2.Ins.length:Int)/\(0<=b1)/\b1<(p1.wE.length:Int)/\(PR (ix p2.Ins b1)/\OrOk s1 t1 l1/\(∀l a,(pk f1 l1 s1 t1) l a=none∨∃n,(pk f1 l1 s1 t1) l a=some n/\U64 n))/\let r1:Int:=(inE (pk f1 l1 s1 t1) p1.wM (ix p1.wE b1) (ix p2.Ins b1))
((r1 !=0)=true->
r1=(checkS (pk Aa Ac w1k w1v) p1 p2:Int)/\f1=Aa/\i1=Ab/\k1=Ad/\l1=Ac/\s1=w1k/\t1=w1v/\o1=w2k/\q1=w2v/\m1=w3k/\n1=w3v)/\
((r1 !=0)=false->
I1 (i64.wrap (b1+1)) f1 i1 k1 l1 m1 n1 o1 q1 s1 t1/\M1 (i64.wrap (b1+1)) f1 i1 k1 l1 m1 n1 o1 q1 s1 t1<M1 b1 f1 i1 k1 l1 m1 n1 o1 q1 s1 t1))/\
(decide (b1<(p2.Ins.length:Int))=false->
∃(I2:Fz4 Prop) (M2:Fz4 Nat),I2 0 f1 i1 k1 l1 m1 n1 o1 q1 s1 t1/\∀u1 x1 y1 b2 f2 i2 k2 l2 m2 n2 o2,(I2 u1 x1 y1 b2 f2 i2 k2 l2 m2 n2 o2->
(decide (u1<(p2.wA.length:Int))=true->
(0<=u1)/\u1<(p2.wA.length:Int)/\(NR (ix p2.wA u1)/\OrOk n2 o2 f2)/\let r2:Int:=((commP (pk x1 f2 n2 o2) (ix p2.wA u1)).getD 0)
let r3:Bool:=((commP (pk x1 f2 n2 o2) (ix p2.wA u1)).isSome)
((!r3)=true->
1=(checkS (pk Aa Ac w1k w1v) p1 p2:Int)/\x1=Aa/\y1=Ab/\b2=Ad/\f2=Ac/\n2=w1k/\o2=w1v/\l2=w2k/\m2=w2v/\i2=w3k/\k2=w3v)/\
((!r3)=false->
(0<=u1)/\u1<(p1.wt.length:Int)/\((r2 !=(ix p1.wt u1))=true->
1=(checkS (pk Aa Ac w1k w1v) p1 p2:Int)/\x1=Aa/\y1=Ab/\b2=Ad/\f2=Ac/\n2=w1k/\o2=w1v/\l2=w2k/\m2=w2v/\i2=w3k/\k2=w3v)/\
((r2 !=(ix p1.wt u1))=false->
(0<=u1)/\u1<(p1.wAi.length:Int)/\let v4:Bool:=(((ix p2.wA u1).Rho) !=(ix p1.wAi u1))
(v4=true->
1=(checkS (pk Aa Ac w1k w1v) p1 p2:Int)/\x1=Aa/\y1=Ab/\b2=Ad/\f2=Ac/\n2=w1k/\o2=w1v/\l2=w2k/\m2=w2v/\i2=w3k/\k2=w3v)/\
(v4=false->
I2 (i64.wrap (u1+1)) x1 y1 b2 f2 i2 k2 l2 m2 n2 o2/\M2 (i64.wrap (u1+1)) x1 y1 b2 f2 i2 k2 l2 m2 n2 o2<M2 u1 x1 y1 b2 f2 i2 k2 l2 m2 n2 o2))))/\
(decide (u1<(p2.wA.length:Int))=false->
∀J1:Prop,(((p2.Ins.length<=9223372036854775807)/\let v5:Int:=u64.wrap ((inS p2.Ins)+p1.wH)
(p2.wA.length<=9223372036854775807)/\let v6:Int:=u64.wrap ((outS p2.wA)+p1.wL)
((v5 !=(u64.wrap (v6+p1.Fee)))=true->
13=(checkS (pk Aa Ac w1k w1v) p1 p2:Int)/\x1=Aa/\y1=Ab/\b2=Ad/\f2=Ac/\n2=w1k/\o2=w1v/\l2=w2k/\m2=w2v/\i2=w3k/\k2=w3v)/\
((v5 !=(u64.wrap (v6+p1.Fee)))=false->
0=(checkS (pk Aa Ac w1k w1v) p1 p2:Int)/\x1=Aa/\y1=Ab/\b2=Ad/\f2=Ac/\n2=w1k/\o2=w1v/\l2=w2k/\m2=w2v/\i2=w3k/\k2=w3v))->J1)->
(decide (0<p1.wH)=true->
(U64 p2.wAV)/\((p1.wQ !=(acctS p2.wAV))=true->
21=(checkS (pk Aa Ac w1k w1v) p1 p2:Int)/\x1=Aa/\y1=Ab/\b2=Ad/\f2=Ac/\n2=w1k/\o2=w1v/\l2=w2k/\m2=w2v/\i2=w3k/\k2=w3v)/\
((p1.wQ !=(acctS p2.wAV))=false->
J1))/\
(decide (0<p1.wH)=false->
J1)))))))<|by
 rintro p1 p2 Aa Ab Ad Ac w1k w1v w2k w2v w3k w3v h R hR;obtain⟨hs,hw,ho,hu⟩:=h;refine⟨⟨hs,hw⟩,fun e=> ?_,fun e=> ?_⟩
 ·have e:relV p1 p2=false:=by simpa using e
  unfold checkS;rw[qf e]
  (repeat' apply qaa)<;>first|rfl|exact ql
 have e:relV p1 p2=true:=by simpa using e
 have hv:p2.Ins.length=p1.wE.length/\p2.wA.length=p1.wt.length/\p2.wA.length=p1.wAi.length:=by unfold relV at e;simp only[qg,qai]at e;exact⟨e.1.1.1.1.1.1.2,e.1.1.1.1.2,e.1.1.1.2⟩
 obtain⟨v1,v2,v3⟩:=hv;have hil:=hw.il;have hol:=hw.ol;refine⟨(fun i z0 z1 z2 z3 z4 z5 z6 z7 z8 z9=>(Aa=z0/\Ab=z1/\Ad=z2/\Ac=z3/\w3k=z4/\w3v=z5/\w2k=z6/\w2v=z7/\w1k=z8/\w1v=z9)/\(0<=i/\i<=p2.Ins.length/\insE (pk Aa Ac w1k w1v) p1.wM (p2.Ins.drop i.toNat) (p1.wE.drop i.toNat)=insE (pk Aa Ac w1k w1v) p1.wM p2.Ins p1.wE)),(fun i _ _ _ _ _ _ _ _ _ _=>(p2.Ins.length-i).toNat),⟨⟨rfl,rfl,rfl,rfl,rfl,rfl,rfl,rfl,rfl,rfl⟩,by omega,by omega,rfl⟩,?_⟩;rintro i _ _ _ _ _ _ _ _ _ _ ⟨⟨rfl,rfl,rfl,rfl,rfl,rfl,rfl,rfl,rfl,rfl⟩,g0,g1,g2⟩;refine⟨fun hh=> ?_,fun hh=> ?_⟩
 ·have hh:=qb hh;have hp:=hw.i _ (ix_mem p2.Ins i g0 hh);have hd:=drop_ix p2.Ins i g0 hh;have hd2:=drop_ix p1.wE i g0 qqo;rw[hd,hd2]at g2;have g2:(if inE (pk Aa Ac w1k w1v) p1.wM (ix p1.wE i) (ix p2.Ins i)≠0 then inE (pk Aa Ac w1k w1v) p1.wM (ix p1.wE i) (ix p2.Ins i)else insE (pk Aa Ac w1k w1v) p1.wM (p2.Ins.drop (i+1).toNat) (p1.wE.drop (i+1).toNat))=insE (pk Aa Ac w1k w1v) p1.wM p2.Ins p1.wE:=g2;have nx:=inc i p2.Ins.length g0 hh qqo;refine⟨g0,hh,g0,by omega,⟨hp,ho,hu⟩,?_⟩;refine⟨fun e2=> ?_,fun e2=> ?_⟩
  ·have e2:inE (pk Aa Ac w1k w1v) p1.wM (ix p1.wE i) (ix p2.Ins i)≠0:=by simpa using e2
   rw[qf e2]at g2;refine⟨?_,by(repeat' apply qaa)<;>first|rfl|exact ql⟩;have g2:_=insE (pk Aa Ac w1k w1v) p1.wM p2.Ins p1.wE:=g2;unfold checkS;rw[qe (by simp[e]),qf (by rw[<-g2];exact e2),<-g2]
  ·have e2:inE (pk Aa Ac w1k w1v) p1.wM (ix p1.wE i) (ix p2.Ins i)=0:=by simpa using e2
   rw[qe (by simp[e2])]at g2;rw[nx];exact⟨⟨⟨rfl,rfl,rfl,rfl,rfl,rfl,rfl,rfl,rfl,rfl⟩,by omega,by omega,g2⟩,by(dsimp only;omega)⟩
 ·have hh:=qc hh;rw[qam qqo]at g2;have g2:0=insE (pk Aa Ac w1k w1v) p1.wM p2.Ins p1.wE:=g2
  have hck:checkS (pk Aa Ac w1k w1v) p1 p2=if outsB (pk Aa Ac w1k w1v) p2.wA p1.wt p1.wAi=false then 1 else if 0<p1.wH/\p1.wQ≠acctS p2.wAV then 21 else
    if(inS p2.Ins+p1.wH)%18446744073709551616≠((outS p2.wA+p1.wL)%18446744073709551616+p1.Fee)%18446744073709551616 then 13 else 0:=by
   conv=>lhs;unfold checkS
   rw[qe (by simp[e]),qe (by rw[<-g2];simp)]
  refine⟨(fun i z0 z1 z2 z3 z4 z5 z6 z7 z8 z9=>(Aa=z0/\Ab=z1/\Ad=z2/\Ac=z3/\w3k=z4/\w3v=z5/\w2k=z6/\w2v=z7/\w1k=z8/\w1v=z9)/\(0<=i/\i<=p2.wA.length/\outsB (pk Aa Ac w1k w1v) (p2.wA.drop i.toNat) (p1.wt.drop i.toNat) (p1.wAi.drop i.toNat)=outsB (pk Aa Ac w1k w1v) p2.wA p1.wt p1.wAi)),(fun i _ _ _ _ _ _ _ _ _ _=>(p2.wA.length-i).toNat),⟨⟨rfl,rfl,rfl,rfl,rfl,rfl,rfl,rfl,rfl,rfl⟩,by omega,by omega,rfl⟩,?_⟩;rintro k _ _ _ _ _ _ _ _ _ _ ⟨⟨rfl,rfl,rfl,rfl,rfl,rfl,rfl,rfl,rfl,rfl⟩,k0,k1,k2⟩;refine⟨fun hk=> ?_,fun hk=> ?_⟩
  ·have hk:=qb hk;have hp:=hw.o _ (ix_mem p2.wA k k0 hk);rw[drop_ix p2.wA k k0 hk,drop_ix p1.wt k k0 qqo,drop_ix p1.wAi k k0 qqo]at k2;have k2:(outB (pk Aa Ac w1k w1v) (ix p2.wA k) (ix p1.wt k) (ix p1.wAi k)&&outsB (pk Aa Ac w1k w1v) (p2.wA.drop (k+1).toNat) (p1.wt.drop (k+1).toNat) (p1.wAi.drop (k+1).toNat))=outsB (pk Aa Ac w1k w1v) p2.wA p1.wt p1.wAi:=k2;have nx:=inc k p2.wA.length k0 hk qqo;have bad:outB (pk Aa Ac w1k w1v) (ix p2.wA k) (ix p1.wt k) (ix p1.wAi k)=false->outsB (pk Aa Ac w1k w1v) p2.wA p1.wt p1.wAi=false:=fun hb=>by rw[hb]at k2;exact k2.symm
   refine⟨k0,hk,⟨hp,ho⟩,?_⟩;refine⟨fun e3=> ?_,fun e3=>⟨k0,by omega,fun e4=> ?_,fun e4=>⟨k0,by omega,fun e5=> ?_,fun e5=> ?_⟩⟩⟩
   ·rw[hck,qf (bad (by unfold outB;rw[show(commP (pk Aa Ac w1k w1v) (ix p2.wA k)).isSome=false by simpa using e3];rfl))]
    (repeat' apply qaa)<;>first|rfl|exact ql
   ·rw[hck,qf (bad (by
     have e4:¬(commP (pk Aa Ac w1k w1v) (ix p2.wA k)).getD 0=ix p1.wt k:=by simpa using e4
     simp[outB,e4]))]
    (repeat' apply qaa)<;>first|rfl|exact ql
   ·rw[hck,qf (bad (by
     have e5:¬(ix p2.wA k).Rho=ix p1.wAi k:=by simpa using e5
     simp[outB,e5]))]
    (repeat' apply qaa)<;>first|rfl|exact ql
   ·have e3:(commP (pk Aa Ac w1k w1v) (ix p2.wA k)).isSome=true:=by simpa using e3
    have e4:(commP (pk Aa Ac w1k w1v) (ix p2.wA k)).getD 0=ix p1.wt k:=by simpa using e4
    have e5:(ix p2.wA k).Rho=ix p1.wAi k:=by simpa using e5
    have hb:outB (pk Aa Ac w1k w1v) (ix p2.wA k) (ix p1.wt k) (ix p1.wAi k)=true:=by simp[outB,e3,e4,e5]
    rw[hb,Bool.true_and]at k2;rw[nx];exact⟨⟨⟨rfl,rfl,rfl,rfl,rfl,rfl,rfl,rfl,rfl,rfl⟩,by omega,by omega,k2⟩,by(dsimp only;omega)⟩
  ·have hk:=qc hk;rw[qam qqo]at k2;have k2:true=outsB (pk Aa Ac w1k w1v) p2.wA p1.wt p1.wAi:=k2;intro J1 kJ
   have j1:(checkS (pk Aa Ac w1k w1v) p1 p2=if(inS p2.Ins+p1.wH)%18446744073709551616≠((outS p2.wA+p1.wL)%18446744073709551616+p1.Fee)%18446744073709551616 then 13 else 0)->J1:=by
    intro hr;refine kJ ⟨by show p2.Ins.length<=_;omega,by show p2.wA.length<=_;omega,?_⟩;simp only[u64w];refine⟨fun hb=> ?_,fun hb=> ?_⟩
    ·rw[hr,qf (by simpa using hb)]
     (repeat' apply qaa)<;>first|rfl|exact ql
    ·rw[hr,qe (by simpa using hb)]
     (repeat' apply qaa)<;>first|rfl|exact ql
   rw[<-k2,qe qqs]at hck;refine⟨fun hd=>⟨hw.s,fun ha=> ?_,fun ha=>j1 ?_⟩,fun hd=>j1 ?_⟩
   ·have ha:¬p1.wQ=acctS p2.wAV:=by simpa using ha
    rw[hck,qf ⟨qb hd,ha⟩]
    (repeat' apply qaa)<;>first|rfl|exact ql
   ·have ha:p1.wQ=acctS p2.wAV:=by simpa using ha
    rw[hck,qe (fun h=>h.2 ha)]
   ·rw[hck,qe (fun h=>qc hd h.1)]
noncomputable def km8:Ct:= .gp 181 [yqu,yqi] [yqu] [] fun(p0 p1:Int)=>(U64 p0/\0<=p1/\p1<=9223372036854775807,(rhoS p0 p1:Int),())
theorem kne:km8.O:=qrv Bs Tryz.func181 .no (kx.c c0) (Q:=∀(p0 p1:Int),(U64 p0/\0<=p1/\p1<=9223372036854775807)->∀r0:Int,rhoS p0 p1=r0-> 
(decide (18446744069414584321<=p0)=true->
0=r0)/\
(decide (18446744069414584321<=p0)=false->
(decide (p1<0)=true->
0=r0)/\
(decide (p1<0)=false->
((18446744069414584321:Int)=18446744069414584321/\U64 (4:Int)/\Us [p0,u64.wrap p1]/\[p0,u64.wrap p1].length<=1099511627776)/\let r1:Int:=(hashS (4:Int) [p0,u64.wrap p1])
r1=r0)))<|by
 rintro p0 p1 h _ rfl;obtain⟨h1,h2,h3⟩:=h;refine ?_;unfold rhoS;rw[wu p1 h2 qqo];refine⟨fun e=> ?_,fun e=>⟨fun e2=> ?_,fun e2=> ?_⟩⟩
 ·have e:=qb e;rw[qe qqo]
 ·have e2:=qb e2;omega
 ·have e:=qc e;rw[qf qqo];refine⟨⟨rfl,by omega,?_,by simp⟩,rfl⟩;intro x hx;simp only[qae,qcq,or_false]at hx;rcases hx with rfl|rfl
  ·exact h1
  ·omega
noncomputable def kdm:Ct:= .gp 226 [.sl yqb] [.sl yqu] [] fun(p0:Li)=>(By p0/\p0.length<=1099511627776,(packS p0:Li),())
theorem kft:kdm.O:=qrv Bs Tryz.func226 (.r 2 (.nd [] (.r 0 (.lp [.frz 0 [3]] ⟨[1],[.tip yqu],[3,4],[.one (.own 0),.one (zqi)],[]⟩ (.r 0 (.nd [] (.r 1 (.nd [] (.r 0 (.lp [] ⟨[],[],[6,37],[.one (zqu),.one (zqi)],[]⟩ .no)) [] .no)) [] .no)))) [] .no)) c0 (Q:=∀(p0:Li),(By p0/\p0.length<=1099511627776)->∀r0:Li,packS p0=r0-> 
let v1:Int:=i64.wrap ((i64.wrap ((p0.length:Int)+7))-1)
let v2:Int:=i64.wrap (1+(i64.wrap (Int.tdiv v1 7)))
0<=(1:Int)/\(1:Int)<=v2/\(v2.toNat*8<=140737488355328)/\(v2.toNat<=maxLen)/\(0<=(0:Int)/\0<(1:Int))/\(0<=(0:Int)/\0<((List.replicate 1 (0:Int)).length:Int))/\(1=((List.replicate 1 (0:Int)).set (0:Int).toNat (u64.wrap (p0.length:Int))).length)/\((List.replicate 1 (0:Int)).set (0:Int).toNat (u64.wrap (p0.length:Int))=(List.replicate 1 (0:Int)).set (0:Int).toNat (u64.wrap (p0.length:Int)))/\∃(I1:Int->(Li)->Prop) (M1:Int->(Li)->Nat),I1 0 ((List.replicate 1 (0:Int)).set (0:Int).toNat (u64.wrap (p0.length:Int)))/\∀b1 f1,(I1 b1 f1->
(decide (b1<(p0.length:Int))=true->
let v3:Int:=(if(p0.length:Int)<i64.wrap (b1+7)then(p0.length:Int)else i64.wrap (b1+7))
(0<=b1)/\b1<=v3/\v3<=(p0.length:Int)/\let v4:Int:=(((p0.take v3.toNat).drop b1.toNat).length:Int)
∃(I2:Int->Int->Prop) (M2:Int->Int->Nat),I2 0 0/\∀i1 k1,(I2 i1 k1->
(decide (k1<v4)=true->
(0<=k1)/\k1<(((p0.take v3.toNat).drop b1.toNat).length:Int)/\let v5:Int:=u64.wrap (ix ((p0.take v3.toNat).drop b1.toNat) k1)
(0<=i64.wrap (8*k1))/\let v6:Int:=ior .u64 i1 (ishl .u64 v5 (i64.wrap (8*k1)))
I2 v6 (i64.wrap (k1+1))/\M2 v6 (i64.wrap (k1+1))<M2 i1 k1)/\
(decide (k1<v4)=false->
lz f1/\(f1.length+[i1].length)*8<=140737488355328/\f1.length+[i1].length<=maxLen/\(f1++[i1]=f1++[i1])/\I1 (i64.wrap (b1+7)) (f1++[i1])/\M1 (i64.wrap (b1+7)) (f1++[i1])<M1 b1 f1)))/\
(decide (b1<(p0.length:Int))=false->
f1=r0)))<|by
 rintro p0 h _ rfl;obtain⟨hb,hl⟩:=h;refine ?_;rw[wi ((p0.length:Int)+7) qqo qqo,wi ((p0.length:Int)+7-1) qqo qqo]
 try simp only[]
 rw[tdiv_nn _ _ qqo,wi (((p0.length:Int)+7-1)/7) qqo qqo,wi (1+((p0.length:Int)+7-1)/7) qqo qqo,wu (p0.length:Int) qqo qqo];refine⟨by omega,by omega,by omega,by unfold maxLen;omega,by omega,⟨by omega,by decide⟩,by trivial,by trivial,?_⟩;refine⟨(fun i g=>0<=i/\i<=p0.length+7/\g++packN p0.length (p0.drop i.toNat)=packS p0/\(g.length:Int)<=1+i),(fun i _=>(p0.length+7-i).toNat),⟨by omega,by omega,rfl,by show(1:Int)<=_;omega⟩,?_⟩;rintro i g ⟨g0,g1,g2,g3⟩;refine⟨fun h=> ?_,fun h=> ?_⟩
 ·have h:=qb h;have h7:i64.wrap (i+7)=i+7:=wi (i+7) qqo qqo;rw[h7]
  have ev:((p0.take (if(p0.length:Int)<i+7 then(p0.length:Int)else i+7).toNat).drop i.toNat)=(p0.drop i.toNat).take 7:=by
   split
   ·rw[qx,qbd,qv qqm]
   ·rw[List.drop_take,show(i+7).toNat-i.toNat=7 by omega]
  simp only[ev];refine⟨g0,by split<;>omega,by split<;>omega,?_⟩;have hpb:By ((p0.drop i.toNat).take 7):=(hb.drop _).take _;have hpl:((p0.drop i.toNat).take 7).length<=7:=by simp;omega
  have hnext:g++[val ((p0.drop i.toNat).take 7)]++packN p0.length (p0.drop (i+7).toNat)=packS p0:=by
   rw[<-g2,qw];congr 1;have h5:(p0.drop i.toNat).length<=p0.length:=by simp
   have h6:=k49 p0.length (p0.drop i.toNat) h5 (by intro h7;have:=congrArg List.length h7;simp at this;omega);rw[h6,qcx,show i.toNat+7=(i+7).toNat by omega];rfl
  generalize (p0.drop i.toNat).take 7=part at *
  refine⟨(fun n k=>0<=k/\k<=part.length/\n=val (part.take k.toNat)),(fun _ k=>(part.length-k).toNat),⟨by omega,by omega,rfl⟩,?_⟩;rintro n k ⟨k0,k1,rfl⟩;refine⟨fun hk=> ?_,fun hk=> ?_⟩
  ·have hk:=qb hk;have hx:=hpb _ (ix_mem part k k0 hk);have hlen:((part.take k.toNat).length:Int)=k:=by rw[qu];omega
   rw[wi (8*k) qqo qqo,wu (ix part k) qqo qqo,wi (k+1) qqo qqo];have:=ior_val (part.take k.toNat) (ix part k) (hpb.take _) qqo hx;rw[hlen]at this;simp only[this];refine⟨k0,hk,by omega,⟨by omega,by omega,?_⟩,by(first|omega|(dsimp only;omega))⟩;rw[ke part k k0 hk]
  ·have hk:=qc hk;have e1:part.take k.toNat=part:=qv qqo;rw[e1];refine⟨by trivial,by simp only[qj,qt];omega,by simp only[qj,qt];unfold maxLen;omega,by trivial,(?_:0<=i+7/\i+7<=p0.length+7/\_/\_),(?_:(p0.length+7-(i+7)).toNat<(p0.length+7-i).toNat)⟩
   ·exact⟨by omega,by omega,hnext,by simp only[qh,qj,qt];omega⟩
   ·omega
 ·have h:=qc h;rw[qam qqo]at g2;have:packN p0.length ([]:Li)=[]:=by cases p0.length<;>rfl
  rw[this,qcd]at g2;exact g2
noncomputable def k75:Ct:= .gp 213 [yqu,.sl yqb] [yqu] [] fun(p0:Int) (p1:Li)=>(U64 p0/\By p1/\p1.length<=1099511627775,(hashB p0 p1:Int),())
theorem k86:k75.O:=qrv Bs Tryz.func213 .no (kft.c (kx.c c0)) (Q:=∀(p0:Int) (p1:Li),(U64 p0/\By p1/\p1.length<=1099511627775)->∀r0:Int,hashB p0 p1=r0-> 
(By p1/\p1.length<=1099511627776)/\((18446744069414584321:Int)=18446744069414584321/\U64 p0/\Us (packS p1)/\(packS p1).length<=1099511627776)/\(hashS p0 (packS p1))=r0)<|by
 rintro p0 p1 h _ rfl;obtain⟨h1,h2,h3⟩:=h;refine⟨⟨h2,by omega⟩,⟨rfl,h1,?_,?_⟩,rfl⟩
 ·intro x hx;rcases qae.1 hx with rfl|hx
  ·omega
  ·exact kbz _ _ h2 x hx
 ·have:=k30 p1.length p1;simp only[packS,qj];omega
noncomputable def k65:Ct:= .g (gk 232 [.one (.own 0),.one (zqu),.one (zqi)] [.tip yqb] (.one (.one (.own 0)))) [yqu,yqi,.sl yqb] [.sl yqb] [] fun(p1 p2:Int) (w0:Li)=>(U64 p1/\(0<=p2/\p2<=8)/\w0.length<=137438953472,(w0++dig p2.toNat p1:Li),())
theorem k1v:k65.O:=prv Bs Tryz.func232 (.r 0 (.nd [] (.r 0 (.lp [] ⟨[0],[.tip yqb],[0,1,8],[.one (.own 0),.one (zqu),.one (zqi)],[]⟩ .no)) [] .no)) c0 (Q:=∀(p1 p2:Int) (w0:Li),(U64 p1/\(0<=p2/\p2<=8)/\w0.length<=137438953472)->∀e0:Li,(w0++dig p2.toNat p1)=e0-> 
(w0=w0)/\∃(I1:Int->Int->(Li)->Prop) (M1:Int->Int->(Li)->Nat),I1 p1 0 w0/\∀b1 f1 i1,(I1 b1 f1 i1->
(decide (f1<p2)=true->
lz i1/\(i1.length+[IntKind.u8.wrap b1].length)*1<=140737488355328/\i1.length+[IntKind.u8.wrap b1].length<=maxLen/\(i1++[IntKind.u8.wrap b1]=i1++[IntKind.u8.wrap b1])/\I1 (ishr .u64 b1 8) (i64.wrap (f1+1)) (i1++[IntKind.u8.wrap b1])/\M1 (ishr .u64 b1 8) (i64.wrap (f1+1)) (i1++[IntKind.u8.wrap b1])<M1 b1 f1 i1)/\
(decide (f1<p2)=false->
(i1=i1)/\i1=e0)))<|by
 rintro p1 p2 w0 h _ rfl;obtain⟨h1,h2,h3⟩:=h;refine⟨rfl,⟨(fun n i g=>0<=i/\i<=p2/\U64 n/\n=p1/256^i.toNat/\g=w0++dig i.toNat p1),(fun _ i _=>(p2-i).toNat),⟨by omega,by omega,h1,by simp,by simp[dig]⟩,?_⟩⟩;rintro n i g ⟨g0,g1,g2,g3,rfl⟩;refine⟨fun h=> ?_,fun h=> ?_⟩
 ·have h:=qb h;rw[inc i p2 g0 h qqo,ishr8,u8w];refine⟨rfl,?_,?_,rfl,⟨by omega,by omega,⟨by omega,by omega⟩,?_,?_⟩,by(dsimp only;omega)⟩
  ·simp;omega
  ·simp;unfold maxLen;omega
  ·rw[g3,show(i+1).toNat=i.toNat+1 by omega,qcn (qcr (k19 _)),qcl]
  ·rw[show(i+1).toNat=i.toNat+1 by omega,k4d,qw,g3]
 ·have h:=qc h;exact⟨rfl,by rw[show i=p2 by omega]⟩
noncomputable def k62:Ct:= .g (gk 233 [.one (.own 0),.one (zqi)] [.tip yqb] (.one (.one (.own 0)))) [yqi,.sl yqb] [.sl yqb] [] fun(p1:Int) (w0:Li)=>((-9223372036854775808<=p1/\p1<=9223372036854775807)/\w0.length<=137438953472,(w0++dig 4 (len4 p1):Li),())
theorem k1o:k62.O:=prv Bs Tryz.func233 (.r 0 (.jn ⟨[],[],[1],[.one (zqi)],[]⟩ [] .no [] .no)) (k1v.c c0) (Q:=∀(p1:Int) (w0:Li),((-9223372036854775808<=p1/\p1<=9223372036854775807)/\w0.length<=137438953472)->∀e0:Li,(w0++dig 4 (len4 p1))=e0-> 
∀J1:Int->Prop,(∀(b1:Int),
((w0=w0)/\(U64 (u64.wrap b1)/\(0<=(4:Int)/\(4:Int)<=8)/\w0.length<=137438953472)/\let r1:Li:=(w0++dig (4:Int).toNat (u64.wrap b1))
(r1=r1)/\r1=e0)->J1 b1)->
(decide (p1<0)=true->
J1 0)/\
(decide (p1<0)=false->
(decide (4294967295<p1)=true->
J1 0)/\
(decide (4294967295<p1)=false->
J1 p1)))<|by
 rintro p1 w0 h _ rfl;obtain⟨h1,h2⟩:=h;intro J1 j1;have j:∀n,0<=n->n<=4294967295->len4 p1=n->J1 n:=by intro n h0 h1 e;refine j1 _ ?_;rw[wu n qqo qqo,e];exact⟨rfl,⟨⟨h0,by omega⟩,by omega,h2⟩,by trivial,rfl⟩
 refine⟨fun h=>j 0 qqo qqo ?_,fun h=>⟨fun h' =>j 0 qqo qqo ?_,fun h' =>j p1 ?_ ?_ ?_⟩⟩
 ·have h:=qb h;exact qf (.inl h)
 ·have h' :=qb h';exact qf (.inr h')
 ·have h:=qc h;omega
 ·have h' :=qc h';omega
 ·have h:=qc h;have h' :=qc h';exact len4_in ⟨by omega,by(first|omega|(dsimp only;omega))⟩
noncomputable def kec:Ct:= .g ⟨95,[.one (.d (.sl yqb)),.one (zqi)],[],(.one (.one (.own 0))),[.tip yqb],false⟩ [.sl yqb,yqi] [.sl yqb] [] fun(p0:Li) (p1:Int)=>(0<=p1/\p0.length+p1<=140737488355328,p0,())
theorem k2a:kec.O:=prv Bs Tryz.func95 (.r 3 (.rt [.frz 0 [4]])) c0 (Q:=∀(p0:Li) (p1:Int),(0<=p1/\p0.length+p1<=140737488355328)->∀e0:Li,p0=e0-> 
let v1:Int:=i64.wrap ((p0.length:Int)+p1)
0<=(p0.length:Int)/\(p0.length:Int)<=v1/\(v1.toNat*1<=140737488355328)/\(v1.toNat<=maxLen)/\(p0.length:Int).toNat=(List.replicate ((p0.length:Int).toNat) (0:Int)).length/\let v2:Int:=((min p0.length (List.replicate ((p0.length:Int).toNat) (0:Int)).length:Nat):Int)
((p0.length:Int).toNat=(rowOver (List.replicate ((p0.length:Int).toNat) (0:Int)) p0 (List.replicate ((p0.length:Int).toNat) (0:Int)).length).length)/\(rowOver (List.replicate ((p0.length:Int).toNat) (0:Int)) p0 (List.replicate ((p0.length:Int).toNat) (0:Int)).length=rowOver (List.replicate ((p0.length:Int).toNat) (0:Int)) p0 (List.replicate ((p0.length:Int).toNat) (0:Int)).length)/\rowOver (List.replicate ((p0.length:Int).toNat) (0:Int)) p0 (List.replicate ((p0.length:Int).toNat) (0:Int)).length=e0)<|by rintro p0 p1 h _ rfl;obtain⟨h1,h2⟩:=h;refine ?_;rw[wi _ qqo qqo];have e:rowOver (List.replicate ((p0.length:Int).toNat) (0:Int)) p0 (List.replicate ((p0.length:Int).toNat) (0:Int)).length=p0:=kb3 _ _ qqs;simp only[e];exact⟨by omega,by omega,by omega,by unfold maxLen;omega,by simp,by omega,by trivial,by trivial⟩
noncomputable def kfr:Ct:= .gp 230 [.sl yqb,.sl yqb] [.sl yqb] [] fun(p0 p1:Li)=>(p0.length<=68719476736/\p1.length<=4294967295,(p0++encB p1:Li),())
theorem kht:kfr.O:=qrv Bs Tryz.func230 .no (k2a.c (k1o.c c0)) (Q:=∀(p0 p1:Li),(p0.length<=68719476736/\p1.length<=4294967295)->∀r0:Li,(p0++encB p1)=r0-> 
(0<=(i64.wrap (4+(p1.length:Int)))/\p0.length+(i64.wrap (4+(p1.length:Int)))<=140737488355328)/\(p0=p0)/\((-9223372036854775808<=(p1.length:Int)/\(p1.length:Int)<=9223372036854775807)/\p0.length<=137438953472)/\lz (p0++dig 4 (len4 (p1.length:Int)))/\((p0++dig 4 (len4 (p1.length:Int))).length+p1.length)*1<=140737488355328/\(p0++dig 4 (len4 (p1.length:Int))).length+p1.length<=maxLen/\let v1:Li:=(p0++dig 4 (len4 (p1.length:Int)))++p1
v1=r0)<|by
 rintro p0 p1 h _ rfl;obtain⟨h1,h2⟩:=h;refine ?_;rw[wi (4+(p1.length:Int)) qqo qqo];refine⟨⟨by omega,by omega⟩,by trivial,⟨by omega,by omega⟩,by trivial,?_,?_,?_⟩
 ·simp;omega
 ·simp;unfold maxLen;omega
 ·rw[qw];rfl
noncomputable def km3:Ct:= .gp 229 [.sl yqb,yqi] [.sl yqb] [] fun(p0:Li) (p1:Int)=>((-9223372036854775808<=p1/\p1<=9223372036854775807)/\p0.length<=137438953472,(p0++dig 4 (len4 p1):Li),())
theorem knp:km3.O:=qrv Bs Tryz.func229 .no (k2a.c (k1o.c c0)) (Q:=∀(p0:Li) (p1:Int),((-9223372036854775808<=p1/\p1<=9223372036854775807)/\p0.length<=137438953472)->∀r0:Li,(p0++dig 4 (len4 p1))=r0-> 
(0<=(4:Int)/\p0.length+(4:Int)<=140737488355328)/\(p0=p0)/\((-9223372036854775808<=p1/\p1<=9223372036854775807)/\p0.length<=137438953472)/\(p0++dig 4 (len4 p1))=r0)<|by rintro p0 p1 h _ rfl;obtain⟨h1,h2⟩:=h;exact⟨⟨by omega,by omega⟩,by trivial,⟨h1,h2⟩,rfl⟩
noncomputable def kj4:Ct:= .gp 228 [.sl yqb,.sl yqu] [.sl yqb] [] fun(p0 p1:Li)=>(Us p1/\p0.length<=68719476736/\p1.length<=4294967295,(p0++encL p1:Li),())
theorem kll:kj4.O:=qrv Bs Tryz.func228 (.r 1 (.nd [] (.r 0 (.lp [] ⟨[0],[.tip yqb],[5,19],[.one (.own 0),.one (zqi)],[]⟩ .no)) [] .no)) (k2a.c (k1o.c (k1v.c c0))) (Q:=∀(p0 p1:Li),(Us p1/\p0.length<=68719476736/\p1.length<=4294967295)->∀r0:Li,(p0++encL p1)=r0-> 
let v1:Int:=i64.wrap (4+(i64.wrap (8*(p1.length:Int))))
(0<=v1/\p0.length+v1<=140737488355328)/\(p0=p0)/\((-9223372036854775808<=(p1.length:Int)/\(p1.length:Int)<=9223372036854775807)/\p0.length<=137438953472)/\((p0++dig 4 (len4 (p1.length:Int)))=(p0++dig 4 (len4 (p1.length:Int))))/\∃(I1:Int->(Li)->Prop) (M1:Int->(Li)->Nat),I1 0 (p0++dig 4 (len4 (p1.length:Int)))/\∀b1 f1,(I1 b1 f1->
(decide (b1<(p1.length:Int))=true->
(0<=b1)/\b1<(p1.length:Int)/\(f1=f1)/\(U64 (ix p1 b1)/\(0<=(8:Int)/\(8:Int)<=8)/\f1.length<=137438953472)/\((f1++dig (8:Int).toNat (ix p1 b1))=(f1++dig (8:Int).toNat (ix p1 b1)))/\I1 (i64.wrap (b1+1)) (f1++dig (8:Int).toNat (ix p1 b1))/\M1 (i64.wrap (b1+1)) (f1++dig (8:Int).toNat (ix p1 b1))<M1 b1 f1)/\
(decide (b1<(p1.length:Int))=false->
f1=r0)))<|by
 rintro p0 p1 h _ rfl;obtain⟨h1,h2,h3⟩:=h;refine ?_;rw[wi (8*(p1.length:Int)) qqo qqo,wi (4+8*(p1.length:Int)) qqo qqo];refine⟨⟨by omega,by omega⟩,by trivial,⟨by omega,by omega⟩,by trivial,?_⟩;refine⟨(fun i g=>0<=i/\i<=p1.length/\g=p0++dig 4 (len4 p1.length)++(p1.take i.toNat).flatMap (dig 8)),(fun i _=>(p1.length-i).toNat),⟨by omega,by omega,by simp⟩,?_⟩;rintro i g ⟨g0,g1,rfl⟩;refine⟨fun h=> ?_,fun h=> ?_⟩
 ·have h:=qb h;have hx:=h1 _ (ix_mem p1 i g0 h);rw[inc i p1.length g0 h qqo];refine⟨g0,h,by trivial,⟨hx,by omega,?_⟩,by trivial,⟨by omega,by omega,?_⟩,by(dsimp only;omega)⟩
  ·simp only[qh,kg,k1h,qu];omega
  ·rw[ke p1 i g0 h,qbo,qw];simp
 ·have h:=qc h;rw[qv qqo,qw];rfl
noncomputable def kid:Ct:= .gp 227 [.sl yqb,yqu] [.sl yqb] [] fun(p0:Li) (p1:Int)=>(U64 p1/\p0.length<=137438953472,(p0++dig 8 p1:Li),())
theorem km9:kid.O:=qrv Bs Tryz.func227 .no (k2a.c (k1v.c c0)) (Q:=∀(p0:Li) (p1:Int),(U64 p1/\p0.length<=137438953472)->∀r0:Li,(p0++dig 8 p1)=r0-> 
(0<=(8:Int)/\p0.length+(8:Int)<=140737488355328)/\(p0=p0)/\(U64 p1/\(0<=(8:Int)/\(8:Int)<=8)/\p0.length<=137438953472)/\(p0++dig (8:Int).toNat p1)=r0)<|by rintro p0 p1 h _ rfl;obtain⟨h1,h2⟩:=h;refine⟨⟨by omega,by omega⟩,by trivial,⟨h1,by omega,h2⟩,rfl⟩
noncomputable def kj7:Ct:= .gp 214 [.st 2,.sl yqb] [.sl yqb] [] fun(p0:wy) (p1:Li)=>(TR p0/\TL p0/\p0.wA.length<=1048576/\(∀x∈p0.wA,x.wAF.length<=1024)/\p1.length<=4294967295,(encT p0 p1:Li),())
theorem kmz:kj7.O:=qrv Bs Tryz.func214 (.r 3 (.nd [] (.r 0 (.lp [] ⟨[],[],[5,23],[.one (.d (.sl yqb)),.one (zqi)],[]⟩ .no)) [] .no)) (km9.c (kll.c (knp.c (kht.c c0)))) (Q:=∀(p0:wy) (p1:Li),(TR p0/\TL p0/\p0.wA.length<=1048576/\(∀x∈p0.wA,x.wAF.length<=1024)/\p1.length<=4294967295)->∀r0:Li,encT p0 p1=r0-> 
(U64 p0.wM/\([]:Li).length<=137438953472)/\(Us p0.wE/\(([]:Li)++dig 8 p0.wM).length<=68719476736/\p0.wE.length<=4294967295)/\let r1:Li:=((([]:Li)++dig 8 p0.wM)++encL p0.wE)
((-9223372036854775808<=(p0.wA.length:Int)/\(p0.wA.length:Int)<=9223372036854775807)/\r1.length<=137438953472)/\let r2:Li:=(r1++dig 4 (len4 (p0.wA.length:Int)))
∃(I1:(Li)->Int->Prop) (M1:(Li)->Int->Nat),I1 r2 0/\∀b1 f1,(I1 b1 f1->
(decide (f1<(p0.wA.length:Int))=true->
(0<=f1)/\f1<(p0.wA.length:Int)/\(U64 ((ix p0.wA f1).wm)/\b1.length<=137438953472)/\(U64 ((ix p0.wA f1).wAm)/\(b1++dig 8 ((ix p0.wA f1).wm)).length<=137438953472)/\let r3:Li:=((b1++dig 8 ((ix p0.wA f1).wm))++dig 8 ((ix p0.wA f1).wAm))
(U64 ((ix p0.wA f1).wAl)/\r3.length<=137438953472)/\(Us ((ix p0.wA f1).wAF)/\(r3++dig 8 ((ix p0.wA f1).wAl)).length<=68719476736/\((ix p0.wA f1).wAF).length<=4294967295)/\let r4:Li:=((r3++dig 8 ((ix p0.wA f1).wAl))++encL ((ix p0.wA f1).wAF))
I1 r4 (i64.wrap (f1+1))/\M1 r4 (i64.wrap (f1+1))<M1 b1 f1)/\
(decide (f1<(p0.wA.length:Int))=false->
(U64 p0.wH/\b1.length<=137438953472)/\(U64 p0.wL/\(b1++dig 8 p0.wH).length<=137438953472)/\let r5:Li:=((b1++dig 8 p0.wH)++dig 8 p0.wL)
(U64 p0.Fee/\r5.length<=137438953472)/\(U64 p0.wQ/\(r5++dig 8 p0.Fee).length<=137438953472)/\let r6:Li:=((r5++dig 8 p0.Fee)++dig 8 p0.wQ)
(U64 p0.wS/\r6.length<=137438953472)/\((-9223372036854775808<=p0.wAc/\p0.wAc<=9223372036854775807)/\(r6++dig 8 p0.wS).length<=137438953472)/\let r7:Li:=((r6++dig 8 p0.wS)++dig 4 (len4 p0.wAc))
(r7.length<=68719476736/\p1.length<=4294967295)/\(r7++encB p1)=r0)))<|by
 rintro p0 p1 h _ rfl;obtain⟨hr,hl,ho,hc,hp⟩:=h;have hm:=hl.m;have hol:=k25;refine⟨⟨hr.a,by simp⟩,⟨hr.m,by simp,hm⟩,⟨by omega,by simp;omega⟩,?_⟩;refine⟨(fun b i=>0<=i/\i<=p0.wA.length/\b=dig 8 p0.wM++encL p0.wE++dig 4 (len4 p0.wA.length)++(p0.wA.take i.toNat).flatMap encO),(fun _ i=>(p0.wA.length-i).toNat),⟨by omega,by omega,by simp⟩,?_⟩;rintro b i ⟨g0,g1,rfl⟩;have hb:=k25 (p0.wA.take i.toNat) 1024 (fun x hx=>hc x (qbk hx));rw[qu]at hb
 have hb:((p0.wA.take i.toNat).flatMap encO).length<=8700000000:=by
  refine qax hb ?_;have:min i.toNat p0.wA.length<=1048576:=by omega
  have:=Nat.mul_le_mul_left (28+8*1024) this;omega
 refine⟨fun h=> ?_,fun h=> ?_⟩
 ·have h:=qb h;have hx:=hr.o _ (ix_mem p0.wA i g0 h);have hxc:=hc _ (ix_mem p0.wA i g0 h);rw[inc i p0.wA.length g0 h qqo];refine⟨g0,h,⟨hx.c,?_⟩,⟨hx.p0,?_⟩,⟨hx.p1,?_⟩,⟨hx.ci,?_,by omega⟩,⟨by omega,by omega,?_⟩,by(dsimp only;omega)⟩
  ·simp only[qh,kg,k1b];omega
  ·simp only[qh,kg,k1b];omega
  ·simp only[qh,kg,k1b];omega
  ·simp only[qh,kg,k1b];omega
  ·rw[ke p0.wA i g0 h,qbo];simp[encO,qw]
 ·have h:=qc h;rw[qv qqo]at hb ⊢;refine⟨⟨hr.d,?_⟩,⟨hr.w,?_⟩,⟨hr.f,?_⟩,⟨hr.ac,?_⟩,⟨hr.n,?_⟩,⟨hr.e,?_⟩,⟨?_,hp⟩,rfl⟩<;>simp only[qh,kg,k1b]<;>omega
noncomputable def knk:Ct:= .gp 179 [.st 2] [yqu] [] fun(p0:wy)=>(TR p0,(bindS p0:Int),())
theorem kp2:knk.O:=qrv Bs Tryz.func179 .no (k3l.c (kmz.c (k86.c c0))) (Q:=∀(p0:wy),(TR p0)->∀r0:Int,bindS p0=r0-> 
(((validE p0) !=0)=true->
0=r0)/\
(((validE p0) !=0)=false->
(TR p0/\TL p0/\p0.wA.length<=1048576/\(∀x∈p0.wA,x.wAF.length<=1024)/\([]:Li).length<=4294967295)/\(U64 (13:Int)/\By (encT p0 ([]:Li))/\(encT p0 ([]:Li)).length<=1099511627775)/\let r1:Int:=(hashB (13:Int) (encT p0 ([]:Li)))
r1=r0))<|by
 rintro p0 h _ rfl;refine ?_;unfold bindS;refine⟨fun e=> ?_,fun e=> ?_⟩
 ·have e:validE p0≠0:=by simpa using e
  rw[qe e]
 ·have e:validE p0=0:=by simpa using e
  have v:=(kz p0).1 e;rw[qf e];refine⟨⟨h,v.tl,by have:=v.ol;omega,fun x hx=>by have:=(v.o x hx).l;omega,by simp⟩,⟨by omega,encT_by (by intro x hx;cases hx),?_⟩,rfl⟩;have:=v.enc_len [];simp at this ⊢;omega
noncomputable def ke9:Ct:= .gp 215 [.sl yqu,yqu,yqu] [yqu] [] fun(p0:Li) (p1 p2:Int)=>(Us p0/\U64 p1/\U64 p2,((if p0=[]then(if p1<18446744069414584321/\p2<18446744069414584321 then hashS 5 [p1,p2]else 0)else if ix p0 0<18446744069414584321 then ix p0 0 else 0):Int),())
theorem kfl:ke9.O:=qrv Bs Tryz.func215 .no (kx.c c0) (Q:=∀(p0:Li) (p1 p2:Int),(Us p0/\U64 p1/\U64 p2)->∀r0:Int,((if p0=[]then(if p1<18446744069414584321/\p2<18446744069414584321 then hashS 5 [p1,p2]else 0)else if ix p0 0<18446744069414584321 then ix p0 0 else 0):Int)=r0-> 
(decide (0<(p0.length:Int))=true->
0<(p0.length:Int)/\let v1:Bool:=decide (18446744069414584321<=(ix p0 0))
(v1=true->
0=r0)/\
(v1=false->
0<(p0.length:Int)/\ix p0 0=r0))/\
(decide (0<(p0.length:Int))=false->
(decide (18446744069414584321<=p1)=true->
0=r0)/\
(decide (18446744069414584321<=p1)=false->
(decide (18446744069414584321<=p2)=true->
0=r0)/\
(decide (18446744069414584321<=p2)=false->
((18446744069414584321:Int)=18446744069414584321/\U64 (5:Int)/\Us [p1,p2]/\[p1,p2].length<=1099511627776)/\(hashS (5:Int) [p1,p2])=r0))))<|by
 rintro p0 p1 p2 h _ rfl;obtain⟨h1,h2,h3⟩:=h;refine⟨fun h=> ?_,fun h=> ?_⟩
 ·have h:=qb h;rw[qe (by rintro rfl;simp at h)];exact⟨h,fun e=>(by rw[qe (by have:=qb e;omega)]),fun e=>⟨h,(by rw[qf (by have:=qc e;omega)])⟩⟩
 ·have h:=qc h;have h:p0=[]:=qcz.1 qqo;rw[qf h];refine⟨fun e=>(by rw[qe (by have:=qb e;omega)]),fun e=>⟨fun e2=>(by rw[qe (by have:=qb e2;omega)]),fun e2=> ?_⟩⟩;rw[qf (by have:=qc e;have:=qc e2;omega)];refine⟨⟨rfl,by omega,?_,by simp⟩,rfl⟩;intro x hx;rcases qae.1 hx with rfl|hx
  ·exact h2
  ·have:x=p2:=by simpa using hx
   rw[this];exact h3
noncomputable def ki0:Ct:= .gp 180 [.st 2] [yqu] [] fun(p0:wy)=>(TR p0,(originS p0:Int),())
theorem kkg:ki0.O:=qrv Bs Tryz.func180 .no (k3l.c (kfl.c c0)) (Q:=∀(p0:wy),(TR p0)->∀r0:Int,originS p0=r0-> 
(((validE p0) !=0)=true->
0=r0)/\
(((validE p0) !=0)=false->
(Us p0.wE/\U64 p0.wQ/\U64 p0.wS)/\let r1:Int:=(if p0.wE=[]then(if p0.wQ<18446744069414584321/\p0.wS<18446744069414584321 then hashS 5 [p0.wQ,p0.wS]else 0)else if ix p0.wE 0<18446744069414584321 then ix p0.wE 0 else 0)
r1=r0))<|by
 rintro p0 h _ rfl;refine ?_;unfold originS;refine⟨fun e=> ?_,fun e=> ?_⟩
 ·have e:validE p0≠0:=by simpa using e
  rw[qe e]
 ·have e:validE p0=0:=by simpa using e
  have v:=(kz p0).1 e;rw[qf e];refine⟨⟨h.m,h.ac,h.n⟩,?_⟩;have va:=v.am;unfold vAmounts at va;simp only[qg,qai]at va;split
  ·rw[qf ⟨va.1.1.2,va.1.2⟩]
  ·rename_i hne;rw[qf];exact v.m _ (ix_mem _ 0 qqo (by have:=qdb.2 hne;omega))
noncomputable def kd3:Ct:= .gp 136 [.st 2,yqi] [.st 17] [] fun(p0:wy) (p1:Int)=>(TR p0/\-9223372036854775808<=p1/\p1<=9223372036854775807,(stmtS p0 p1:wAd),())
abbrev Fz5 (r:Type):=Int->Int->Int->Int->Int->Int->Int->Int->(Li)->(Li)->(Li)->r
theorem kf6:kd3.O:=qrv Bs Tryz.func136 (.r 3 (.nd [] (.r 0 (.lp [.tokc 274 4 yqu,.tokc 274 3 yqu] ⟨[274,82,307,306],[.cells [zqi,zqu,.row 1,.own 2,.own 3,zqu,zqu,zqu,zqu,zqu],.vec yqu,.tip yqu,.tip yqu],[35],[.one (zqi)],[]⟩ .no)) [] (.r 0 (.rt [.frzc 82 1 2])))) (k3l.c (k5i.c (kp2.c (kkg.c (kne.c c0))))) (Q:=∀(p0:wy) (p1:Int),(TR p0/\-9223372036854775808<=p1/\p1<=9223372036854775807)->∀r0:wAd,stmtS p0 p1=r0-> 
(((validE p0) !=0)=true->
0=r0.wD/\0=r0.wM/\([]:Li)=r0.wE/\([]:Li)=r0.wt/\([]:Li)=r0.wAi/\0=r0.wH/\0=r0.wL/\0=r0.Fee/\0=r0.wQ/\0=r0.wBb)/\
(((validE p0) !=0)=false->
(p0.wE.length<=4294967295)/\(TR p0)/\(TR p0)/\(([]:Li)=([]:Li))/\(([]:Li)=([]:Li))/\lz p0.wE/\∃(I1:Fz5 Prop) (M1:Fz5 Nat),I1 0 p1 p0.wM p0.wH p0.wL p0.Fee p0.wQ (bindS p0) p0.wE ([]:Li) ([]:Li)/\∀b1 f1 i1 k1 l1 m1 n1 o1 q1 s1 t1,(I1 b1 f1 i1 k1 l1 m1 n1 o1 q1 s1 t1->
(decide (b1<(p0.wA.length:Int))=true->
(0<=b1)/\b1<(p0.wA.length:Int)/\lz s1/\(s1.length+[(ix p0.wA b1).wm].length)*8<=140737488355328/\s1.length+[(ix p0.wA b1).wm].length<=maxLen/\(U64 (originS p0)/\0<=b1/\b1<=9223372036854775807)/\lz t1/\(t1.length+[(rhoS (originS p0) b1)].length)*8<=140737488355328/\t1.length+[(rhoS (originS p0) b1)].length<=maxLen/\(t1++[(rhoS (originS p0) b1)]=t1++[(rhoS (originS p0) b1)])/\(s1++[(ix p0.wA b1).wm]=s1++[(ix p0.wA b1).wm])/\lz q1/\I1 (i64.wrap (b1+1)) f1 i1 k1 l1 m1 n1 o1 q1 (s1++[(ix p0.wA b1).wm]) (t1++[(rhoS (originS p0) b1)])/\M1 (i64.wrap (b1+1)) f1 i1 k1 l1 m1 n1 o1 q1 (s1++[(ix p0.wA b1).wm]) (t1++[(rhoS (originS p0) b1)])<M1 b1 f1 i1 k1 l1 m1 n1 o1 q1 s1 t1)/\
(decide (b1<(p0.wA.length:Int))=false->
lz q1/\f1=r0.wD/\i1=r0.wM/\q1=r0.wE/\s1=r0.wt/\t1=r0.wAi/\k1=r0.wH/\l1=r0.wL/\m1=r0.Fee/\n1=r0.wQ/\o1=r0.wBb))))<|by
 rintro p0 p1 h _ rfl;obtain⟨hr,hd⟩:=h;refine ?_;refine⟨fun e=> ?_,fun e=> ?_⟩
 ·have e:validE p0≠0:=by simpa using e
  unfold stmtS;rw[qe e];exact⟨rfl,rfl,rfl,rfl,rfl,rfl,rfl,rfl,rfl,rfl⟩
 ·have e:validE p0=0:=by simpa using e
  have v:=(kz _).1 e;have vo:=v.ol;have hor:=kb4 hr;have es:stmtS p0 p1=⟨p1,p0.wM,p0.wE,p0.wA.map (·.wm),(List.range p0.wA.length).map (fun i:Nat=>rhoS (originS p0) (i:Int)),p0.wH,p0.wL,p0.Fee,p0.wQ,bindS p0⟩:=by unfold stmtS;rw[qf e]
  refine⟨by have:=v.ml;omega,hr,hr,rfl,rfl,rfl,?_⟩;refine⟨(fun i z1 z2 z3 z4 z5 z6 z7 z8 g g' =>(p1=z1/\p0.wM=z2/\p0.wH=z3/\p0.wL=z4/\p0.Fee=z5/\p0.wQ=z6/\bindS p0=z7/\p0.wE=z8)/\0<=i/\i<=p0.wA.length/\g=(p0.wA.take i.toNat).map (·.wm)/\g' =(List.range i.toNat).map (fun i:Nat=>rhoS (originS p0) (i:Int))),(fun i _ _ _ _ _ _ _ _ _ _=>(p0.wA.length-i).toNat),⟨⟨rfl,rfl,rfl,rfl,rfl,rfl,rfl,rfl⟩,by omega,by omega,by simp,by simp⟩,?_⟩;rintro i _ _ _ _ _ _ _ _ g g' ⟨⟨rfl,rfl,rfl,rfl,rfl,rfl,rfl,rfl⟩,g0,g1,rfl,rfl⟩;refine⟨fun hh=> ?_,fun hh=> ?_⟩
  ·have hh:=qb hh;rw[inc i p0.wA.length g0 hh qqo];refine⟨g0,hh,rfl,by simp;omega,by simp;unfold maxLen;omega,⟨hor,by omega,by omega⟩,rfl,by simp;omega,by simp;unfold maxLen;omega,rfl,rfl,rfl,⟨⟨rfl,rfl,rfl,rfl,rfl,rfl,rfl,rfl⟩,by omega,by omega,?_,?_⟩,by(first|omega|(dsimp only;omega))⟩
   ·rw[ke p0.wA i g0 hh];simp
   ·rw[show(i+1).toNat=i.toNat+1 by omega,List.range_succ];simp[show max i 0=i by omega]
  ·have hh:=qc hh;rw[qv qqo,show i.toNat=p0.wA.length by omega];rw[es];exact⟨rfl,rfl,rfl,rfl,rfl,rfl,rfl,rfl,rfl,rfl,rfl⟩
noncomputable def k5q:Ct:= .b (gk 92 [.one (.ptr 0 0),.agg yY,.agg yC1,.one (.d (.bool)),.one (zqi)] yA (.one (.agg yF1))) (.st 2:: .st 16:: .bool:: .int .i64::yF) yE fun(p1:wy) (p2:wZ) (p3:Bool) (p4 Ab:Int) (Ac:Li) (Ai Ak Al Aj Af Ag At Au Ae:Int) (Ah:Li) (Av Aw:Int) (Ax:Li) (Ay:Int) (Ap:Bool) (Aq As:Int) (Ao:List wG) (w2:List wAb) (w3:List wJ) (w4k:Li) (w4v:List wN) (w5k:Lb) (w5v:Li) (w6k:Lb) (w6v:List (Li)) (w7k:Lb) (w7v:Lo)=>((∃c:Nat,c<=1000/\EXk ⟨w3,w4k,w4v,Aj,Af,Al⟩ c)/\ECk ⟨w2,Ac⟩/\(0<=p4/\p4<=w2.length/\p4<=9223372036854775807)/\(Ap=false/\w5k=[]/\w5v=[])/\TR p1/\(p3=true->WR p2)/\1<=Ab/\Ab<=6,exTx ⟨w2,Ac⟩ Ab ⟨w3,w4k,w4v,Aj,Af,Al⟩ p1 p2 p3 p4,fun R=>(R.f,Ab,Ac,Ai,Ak,R.x.hd,R.x.cr,R.x.sp,Ag,At,Au,Ae,Ah,Av,Aw,Ax,Ay,Ap,Aq,As,Ao,w2,R.x.n,R.x.k,R.x.v,w5k,w5v,w6k,w6v,w7k,w7v,()))
abbrev ky (R:EF) (Ab:Int) (Ac:Li) (Ai Ak Ag At Au Ae:Int) (Ah:Li) (Av Aw:Int) (Ax:Li) (Ay:Int) (Ap:Bool) (Aq As:Int) (Ao:List wG) (w2:List wAb) (w5k:Lb) (w5v:Li) (w6k:Lb) (w6v:List (Li)) (w7k:Lb) (w7v:Lo) (o0 o1 o2 o3:Int) (o4:Li) (o5 o6:Int) (o7:Li) (o8 o9:Int) (o10:Li) (o11 o12 o13 o14 o15 o16 o17 o18 o19:Int) (o20:Li) (o21 o22:Int) (o23:Li) (o24:Int) (o25:Bool) (o26 o27:Int) (o28:List wG) (o29:List wAb) (o30:List wJ) (o31:Li) (o32:List wN) (o33:Lb) (o34:Li) (o35:Lb) (o36:List (Li)) (o37:Lb) (o38:Lo):Prop:=o0=R.f.wAW/\o1=R.f.wO/\o2=R.f.Tx/\o3=R.f.wBH/\o4=R.f.wBJ/\o5=R.f.wAw/\o6=R.f.wBK/\o7=R.f.wBI/\o8=R.f.wAv/\o9=Ab/\o10=Ac/\o11=Ai/\o12=Ak/\o13=R.x.hd/\o14=R.x.cr/\o15=R.x.sp/\o16=Ag/\o17=At/\o18=Au/\o19=Ae/\o20=Ah/\o21=Av/\o22=Aw/\o23=Ax/\o24=Ay/\o25=Ap/\o26=Aq/\o27=As/\o28=Ao/\o29=w2/\o30=R.x.n/\o31=R.x.k/\o32=R.x.v/\o33=w5k/\o34=w5v/\o35=w6k/\o36=w6v/\o37=w7k/\o38=w7v
abbrev Fz6 (r:Type):=Int->Bool->Int->Int->(List wG)->Int->(Li)->Int->Int->Int->Int->Int->Int->Int->Int->Int->(Li)->Int->Int->(Li)->Int->(Lb)->(Lo)->(Lb)->(List (Li))->(Lb)->(Li)->(Li)->(List wN)->(List wJ)->(List wAb)->r
theorem k6c:k5q.O:=pbv Bs Tryz.func92 (.r 0 (.nd [] (.jn ⟨[7,6,5,1],yM,[35],[.one (.d (.bool))],[]⟩ [] .no [] .no) [] (.r 0 (.nd [] (.r 0 (.lp [] ⟨[4],[.map yqi (.st 11)],[11,12,40],[.one (zqi),.one (zqu),.one (zqi)],[]⟩ .no)) [] (.nd [] (.r 0 (.lp [] ⟨[7,6,5,4,3,2,1,0],yB,[107],[.one (zqi)],[]⟩ .no)) [] .no))))) (kf6.c (ka0.c (ka8.c (kfe.c (k33.c c0))))) (Q:=∀(p1:wy) (p2:wZ) (p3:Bool) (p4 Ab:Int) (Ac:Li) (Ai Ak Al Aj Af Ag At Au Ae:Int) (Ah:Li) (Av Aw:Int) (Ax:Li) (Ay:Int) (Ap:Bool) (Aq As:Int) (Ao:List wG) (w2:List wAb) (w3:List wJ) (w4k:Li) (w4v:List wN) (w5k:Lb) (w5v:Li) (w6k:Lb) (w6v:List (Li)) (w7k:Lb) (w7v:Lo),((∃c:Nat,c<=1000/\EXk ⟨w3,w4k,w4v,Aj,Af,Al⟩ c)/\ECk ⟨w2,Ac⟩/\(0<=p4/\p4<=w2.length/\p4<=9223372036854775807)/\(Ap=false/\w5k=[]/\w5v=[])/\TR p1/\(p3=true->WR p2)/\1<=Ab/\Ab<=6)->∀R,exTx ⟨w2,Ac⟩ Ab ⟨w3,w4k,w4v,Aj,Af,Al⟩ p1 p2 p3 p4=R-> 
∀J1:Bool->Bool->Int->Int->(List wG)->(Lb)->(Lo)->(Lb)->(List (Li))->(Lb)->(Li)->Prop,(∀(b1 f1:Bool) (i1 k1:Int) (l1:List wG) (m1:Lb) (n1:Lo) (o1:Lb) (q1:List (Li)) (s1:Lb) (t1:Li),
((b1=true->
(w3=w3)/\(w2=w2)/\ky R Ab Ac Ai Ak Ag At Au Ae Ah Av Aw Ax Ay Ap Aq As Ao w2 w5k w5v w6k w6v w7k w7v 1 0 0 0 ([]:Li) 0 0 ([]:Li) 0 Ab Ac Ai Ak Al Aj Af Ag At Au Ae Ah Av Aw Ax Ay f1 i1 k1 l1 w2 w3 w4k w4v s1 t1 o1 q1 m1 n1)/\
(b1=false->
∃(I1:Int->Int->Int->(Li)->(List wN)->Prop) (M1:Int->Int->Int->(Li)->(List wN)->Nat),I1 0 0 0 w4k w4v/\∀u1 x1 y1 b2 f2,(I1 u1 x1 y1 b2 f2->
(decide (y1<(p2.Ins.length:Int))=true->
(0<=y1)/\y1<(p2.Ins.length:Int)/\((ix p2.Ins y1).wBQ=true->
I1 u1 x1 (i64.wrap (y1+1)) b2 f2/\M1 u1 x1 (i64.wrap (y1+1)) b2 f2<M1 u1 x1 y1 b2 f2)/\
((ix p2.Ins y1).wBQ=false->
let v2:Bool:=decide ((w3.length:Int)<=((ix p2.Ins y1).wC))
(v2=true->
(w3=w3)/\(w2=w2)/\(((0<=p4/\p4<=w2.length/\p4<=9223372036854775807)/\ECk ⟨w2,Ac⟩)/\SPk (ix p2.Ins y1)/\f1=false/\s1=[]/\t1=[])/\let r3:=wrgS ⟨w2,Ac⟩ w3 (ix p2.Ins y1) p1.wM p4
(w3=w3)/\(w2=w2)/\ky R Ab Ac Ai Ak Ag At Au Ae Ah Av Aw Ax Ay Ap Aq As Ao w2 w5k w5v w6k w6v w7k w7v r3.wAW r3.wO r3.Tx r3.wBH r3.wBJ r3.wAw r3.wBK r3.wBI r3.wAv Ab Ac Ai Ak Al Aj Af Ag At Au Ae Ah Av Aw Ax Ay f1 i1 k1 l1 w2 w3 b2 f2 s1 t1 o1 q1 m1 n1)/\
(v2=false->
(0<=(ix p2.Ins y1).wC)/\(ix p2.Ins y1).wC<(w3.length:Int)/\let v4:Bool:=(!(((ix w3 ((ix p2.Ins y1).wC)).Value==(ix p2.Ins y1).wR)&&(((ix w3 ((ix p2.Ins y1).wC)).wAg==(ix p2.Ins y1).we)&&(((ix w3 ((ix p2.Ins y1).wC)).Rho==(ix p2.Ins y1).wY)&&(((ix w3 ((ix p2.Ins y1).wC)).wBL==(ix p2.Ins y1).wz)&&true)))))
(v4=true->
(w3=w3)/\(w2=w2)/\(((0<=p4/\p4<=w2.length/\p4<=9223372036854775807)/\ECk ⟨w2,Ac⟩)/\SPk (ix p2.Ins y1)/\f1=false/\s1=[]/\t1=[])/\let r5:=wrgS ⟨w2,Ac⟩ w3 (ix p2.Ins y1) p1.wM p4
(w3=w3)/\(w2=w2)/\ky R Ab Ac Ai Ak Ag At Au Ae Ah Av Aw Ax Ay Ap Aq As Ao w2 w5k w5v w6k w6v w7k w7v r5.wAW r5.wO r5.Tx r5.wBH r5.wBJ r5.wAw r5.wBK r5.wBI r5.wAv Ab Ac Ai Ak Al Aj Af Ag At Au Ae Ah Av Aw Ax Ay f1 i1 k1 l1 w2 w3 b2 f2 s1 t1 o1 q1 m1 n1)/\
(v4=false->
b2.length=f2.length/\let v6:wN:=mVal (BEq.beq ((ix p2.Ins y1).wC)) b2 f2 (default:wN)
let v7:Bool:=mHas (BEq.beq ((ix p2.Ins y1).wC)) b2
(v7=true->
(w3=w3)/\(w2=w2)/\ky R Ab Ac Ai Ak Ag At Au Ae Ah Av Aw Ax Ay Ap Aq As Ao w2 w5k w5v w6k w6v w7k w7v 2 0 0 ((ownQ v6).wBF) ((ownQ v6).wAp) ((ownQ v6).wAo) ((ownQ (ix p2.Ins y1)).wBF) ((ownQ (ix p2.Ins y1)).wAp) ((ownQ (ix p2.Ins y1)).wAo) Ab Ac Ai Ak Al Aj Af Ag At Au Ae Ah Av Aw Ax Ay f1 i1 k1 l1 w2 w3 b2 f2 s1 t1 o1 q1 m1 n1)/\
(v7=false->
b2.length=f2.length/\let v8:Li:=mPutK (BEq.beq ((ix p2.Ins y1).wC)) b2 ((ix p2.Ins y1).wC)
let v9:List wN:=mPutV (BEq.beq ((ix p2.Ins y1).wC)) b2 f2 (ix p2.Ins y1)
let v10:Int:=u64.wrap (x1+((ix p2.Ins y1).wR))
I1 (i64.wrap (u1+1)) v10 (i64.wrap (y1+1)) v8 v9/\M1 (i64.wrap (u1+1)) v10 (i64.wrap (y1+1)) v8 v9<M1 u1 x1 y1 b2 f2)))))/\
(decide (y1<(p2.Ins.length:Int))=false->
(w3=w3)/\(w2=w2)/\∃(I2:Fz6 Prop) (M2:Fz6 Nat),I2 0 f1 i1 k1 l1 Ab Ac Ai Ak Al Aj Af Ag At Au Ae Ah Av Aw Ax Ay m1 n1 o1 q1 s1 t1 b2 f2 w3 w2/\∀i2 k2 l2 m2 n2 o2 q2 s2 t2 u2 x2 y2 b3 f3 i3 k3 l3 m3 n3 o3 q3 s3 t3 u3 x3 y3 b4 f4 i4 k4 l4,(I2 i2 k2 l2 m2 n2 o2 q2 s2 t2 u2 x2 y2 b3 f3 i3 k3 l3 m3 n3 o3 q3 s3 t3 u3 x3 y3 b4 f4 i4 k4 l4->
(decide (i2<(p2.wA.length:Int))=true->
(0<=i2)/\i2<(p2.wA.length:Int)/\lz k4/\(k4.length+[(ix p2.wA i2)].length)*32<=140737488355328/\k4.length+[(ix p2.wA i2)].length<=maxLen/\(k4++[(ix p2.wA i2)]=k4++[(ix p2.wA i2)])/\(l4=l4)/\I2 (i64.wrap (i2+1)) k2 l2 m2 n2 o2 q2 s2 t2 u2 x2 y2 b3 f3 i3 k3 l3 m3 n3 o3 q3 s3 t3 u3 x3 y3 b4 f4 i4 (k4++[(ix p2.wA i2)]) l4/\M2 (i64.wrap (i2+1)) k2 l2 m2 n2 o2 q2 s2 t2 u2 x2 y2 b3 f3 i3 k3 l3 m3 n3 o3 q3 s3 t3 u3 x3 y3 b4 f4 i4 (k4++[(ix p2.wA i2)]) l4<M2 i2 k2 l2 m2 n2 o2 q2 s2 t2 u2 x2 y2 b3 f3 i3 k3 l3 m3 n3 o3 q3 s3 t3 u3 x3 y3 b4 f4 i4 k4 l4)/\
(decide (i2<(p2.wA.length:Int))=false->
let v11:Int:=i64.wrap (x2+(p2.wA.length:Int))
(p2.wA.length<=9223372036854775807)/\let v12:Int:=u64.wrap (u2+(u64.wrap ((outS p2.wA)-x1)))
(k4=k4)/\(l4=l4)/\ky R Ab Ac Ai Ak Ag At Au Ae Ah Av Aw Ax Ay Ap Aq As Ao w2 w5k w5v w6k w6v w7k w7v 0 0 0 0 ([]:Li) 0 0 ([]:Li) 0 o2 q2 s2 t2 v12 v11 (i64.wrap (y2+u1)) b3 f3 i3 k3 l3 m3 n3 o3 q3 k2 l2 m2 n2 l4 k4 f4 i4 y3 b4 u3 x3 s3 t3))))))->J1 b1 f1 i1 k1 l1 m1 n1 o1 q1 s1 t1)->
((!p3)=true->
J1 true Ap Aq As Ao w7k w7v w6k w6v w5k w5v)/\
((!p3)=false->
(TR p1/\-9223372036854775808<=Ab/\Ab<=9223372036854775807)/\(SR (stmtS p1 Ab)/\WR p2/\OrOk w5k w5v Ao/\(∀l a,(pk Ap Ao w5k w5v) l a=none∨∃n,(pk Ap Ao w5k w5v) l a=some n/\U64 n))/\let r1:Int:=(checkS (pk Ap Ao w5k w5v) (stmtS p1 Ab) p2)
J1 (r1 !=0) Ap Aq As Ao w7k w7v w6k w6v w5k w5v))<|by
 rintro p1 p2 p3 p4 Ab Ac Ai Ak Al Aj Af Ag At Au Ae Ah Av Aw Ax Ay Ap Aq As Ao w2 w3 w4k w4v w5k w5v w6k w6v w7k w7v h R hR;obtain⟨⟨c,hc,hX⟩,hC,hh,⟨rfl,rfl,rfl⟩,hT,hW,hd1,hd6⟩:=h;have hF:checkS (pk false Ao [] [])=checkS pkR:=by rw[pk_emp]
 intro J kJ
 have j:∀b,(b=true↔(p3=false∨checkS pkR (stmtS p1 Ab) p2≠0))->J b false Aq As Ao w7k w7v w6k w6v [] []:=by
  intro b hb;refine kJ _ _ _ _ _ _ _ _ _ _ _ ⟨fun e=> ?_,fun e=> ?_⟩
  ·unfold exTx at hR;rw[qf (hb.1 e)]at hR;subst hR;exact(by repeat' first|apply qaa|exact rfl|exact ql)
  ·have hn:¬(p3=false∨checkS pkR (stmtS p1 Ab) p2≠0):=fun hh=>by rw[hb.2 hh]at e;cases e
   have hk:p3=true:=by cases p3 with|true=>rfl|false=>exact(hn (.inl rfl)).elim
   have hck:checkS pkR (stmtS p1 Ab) p2=0:=qz fun hh=>hn (.inr hh);have hr:=(k2h.1 hck).1;obtain⟨r1,r2,r3,r4⟩:=rel_in hr (qef (keu hd1) hd6) (hW hk);unfold exTx at hR;rw[qe hn]at hR;generalize hE:exIn ⟨w2,Ac⟩ ⟨w3,w4k,w4v,Aj,Af,Al⟩ p1 p2 p4=E at hR;have hnl:=hX.nl;have hnl:w3.length<=4*c:=hnl;refine⟨(fun u x y k v=>∃j:Nat,y=(j:Int)/\j<=p2.Ins.length/\k.length=v.length/\inpS ⟨w2,Ac⟩ w3 p1.wM p4 (p2.Ins.drop j) ⟨zeroF,u,x,k,v⟩=E),(fun _ _ y _ _=>(p2.Ins.length-y).toNat),⟨0,rfl,qaq _,hX.kv,hE⟩,?_⟩;rintro u x _ k v ⟨i,rfl,hi,hkv,hg⟩;refine⟨fun e2=> ?_,fun e2=> ?_⟩
   ·have e2:(i:Int)<p2.Ins.length:=qb e2;have hil:i<p2.Ins.length:=by omega
    have hx:ix p2.Ins (i:Int)=p2.Ins[i]:=ix_get _ _ hil;obtain⟨sx,px⟩:=r1 _ (ix_mem p2.Ins (i:Int) qqo e2);rw[qo hil,<-hx,inpS]at hg;rw[inc (i:Int) p2.Ins.length qqo e2 qqo];generalize ix p2.Ins (i:Int)=X at *
    have hkd:(wrgS ⟨w2,Ac⟩ w3 X p1.wM p4).wAW≠0:=by unfold wrgS;rw[k94];decide
    refine⟨by omega,e2,fun e3=> ?_,fun e3=> ?_⟩
    ·rw[qf e3]at hg;exact⟨⟨i+1,rfl,by omega,hkv,hg⟩,by(first|omega|(dsimp only;omega))⟩
    ·rw[qe (by simp[e3])]at hg;refine⟨fun e4=> ?_,fun e4=> ?_⟩
     ·have e4:=qb e4;rw[qf (.inl e4)]at hg;subst hg;rw[qf hkd]at hR;subst hR;exact⟨rfl,rfl,⟨⟨hh,hC⟩,sx,rfl,rfl,rfl⟩,(by repeat' first|apply qaa|exact rfl|exact ql)⟩
     ·have e4:=qc e4;refine⟨sx.p0,by omega,fun e5=> ?_,fun e5=> ?_⟩
      ·rw[qf (.inr ((note_ne _ _).1 e5))]at hg;subst hg;rw[qf hkd]at hR;subst hR;exact⟨rfl,rfl,⟨⟨hh,hC⟩,sx,rfl,rfl,rfl⟩,(by repeat' first|apply qaa|exact rfl|exact ql)⟩
      ·rw[qe (fun hq=>hq.elim e4 fun hq=>by rw[(note_ne _ _).2 hq]at e5;cases e5)]at hg;refine⟨hkv,fun e6=> ?_,fun e6=>⟨hkv,?_⟩⟩
       ·rw[qf (kmo.1 e6)]at hg;subst hg;have hR:EF.mk _ _=R:=hR;subst hR;exact(by repeat' first|apply qaa|exact rfl|exact ql)
       ·rw[qe (fun hq=>by rw[kmo.2 hq]at e6;cases e6)]at hg;obtain⟨q1,q2⟩:=kqw e6 v X;dsimp only;rw[q1,q2];exact⟨⟨i+1,rfl,by omega,by simp[hkv],hg⟩,by(first|omega|(dsimp only;omega))⟩
   ·have e2:¬(i:Int)<p2.Ins.length:=qc e2;rw[qam qqo]at hg;have hg:EIn.mk zeroF u x k v=E:=hg;subst hg;have hR:EF.mk zeroF ⟨w3++p2.wA,k,v,i64.wrap (Aj+(p2.wA.length:Int)),i64.wrap (Af+u),u64.wrap (Al+u64.wrap (outS p2.wA-x))⟩=R:=hR;subst hR;refine⟨rfl,rfl,(fun i z1 z2 z3 z4 z5 z6 z7 z8 z9 y0 y1 y2 y3 y4 y5 y6 y7 y8 y9 x0 x1 x2 x3 x4 x5 x6 x7 x8 n t=>∃j:Nat,i=(j:Int)/\j<=p2.wA.length/\(false=z1/\Aq=z2/\As=z3/\Ao=z4/\Ab=z5/\Ac=z6/\Ai=z7/\Ak=z8/\Al=z9/\Aj=y0)/\(Af=y1/\Ag=y2/\At=y3/\Au=y4/\Ae=y5/\Ah=y6/\Av=y7/\Aw=y8/\Ax=y9/\Ay=x0)/\(w7k=x1/\w7v=x2/\w6k=x3/\w6v=x4/\[]=x5/\[]=x6/\k=x7/\v=x8)/\n=w3++p2.wA.take j/\w2=t),(fun i _ _ _ _ _ _ _ _ _ _ _ _ _ _ _ _ _ _ _ _ _ _ _ _ _ _ _ _ _ _=>(p2.wA.length-i).toNat),⟨0,rfl,qaq _,⟨rfl,rfl,rfl,rfl,rfl,rfl,rfl,rfl,rfl,rfl⟩,⟨rfl,rfl,rfl,rfl,rfl,rfl,rfl,rfl,rfl,rfl⟩,⟨rfl,rfl,rfl,rfl,rfl,rfl,rfl,rfl⟩,by simp,rfl⟩,?_⟩;rintro _ _ _ _ _ _ _ _ _ _ _ _ _ _ _ _ _ _ _ _ _ _ _ _ _ _ _ _ _ _ _ ⟨j,rfl,hj,⟨rfl,rfl,rfl,rfl,rfl,rfl,rfl,rfl,rfl,rfl⟩,⟨rfl,rfl,rfl,rfl,rfl,rfl,rfl,rfl,rfl,rfl⟩,⟨rfl,rfl,rfl,rfl,rfl,rfl,rfl,rfl⟩,rfl,rfl⟩;refine⟨fun e3=> ?_,fun e3=> ?_⟩
    ·have e3:(j:Int)<p2.wA.length:=qb e3;have hjl:j<p2.wA.length:=by omega
     have hx:ix p2.wA (j:Int)=p2.wA[j]:=ix_get _ _ hjl;have hlen:(w3++p2.wA.take j).length<=4004:=by rw[qh,qu];omega
     rw[inc (j:Int) p2.wA.length qqo e3 qqo];refine⟨by omega,e3,rfl,?_,?_,rfl,rfl,⟨j+1,rfl,by omega,⟨rfl,rfl,rfl,rfl,rfl,rfl,rfl,rfl,rfl,rfl⟩,⟨rfl,rfl,rfl,rfl,rfl,rfl,rfl,rfl,rfl,rfl⟩,⟨rfl,rfl,rfl,rfl,rfl,rfl,rfl,rfl⟩,?_,rfl⟩,by(first|omega|(dsimp only;omega))⟩
     ·simp only[qj,qt];omega
     ·simp only[qj,qt];unfold maxLen;omega
     ·have tk:=ke p2.wA (j:Int) qqo e3;rw[show((j:Int)+1).toNat=j+1 by omega,qx]at tk;rw[qw,tk]
    ·have e3:¬(j:Int)<p2.wA.length:=qc e3;rw[qv qqo];exact⟨by omega,(by repeat' first|apply qaa|exact rfl|exact ql)⟩
 refine⟨fun e=>j true ⟨fun _=> .inl (by simpa using e),fun _=>rfl⟩,fun e=> ?_⟩;have e:p3=true:=by simpa using e
 refine⟨⟨hT,by omega,by omega⟩,⟨stmt_SR hT ⟨by omega,by omega⟩,hW e,kbt _,fun l a=>by rw[pk_emp];exact pkR_u⟩,?_⟩;dsimp only;rw[hF];exact j _ ⟨fun h1=> .inr (by simpa using h1),fun h1=>h1.elim (fun h2=>by rw[e]at h2;cases h2) (fun h2=>by simpa using h2)⟩
noncomputable def kcp:Ct:= .b (gk 57 [.one (.ptr 0 0),.one (.d (.sl (.st 3))),.one (.k (.fn 18))] yA (.tup [])) [.sl (.st 3),yqi,.sl yqu,yqu,yqu,yqu,yqi,yqi,yqi,yqi,yqi,yqu,.sl yqu,yqu,yqu,.sl yqu,yqu,.bool,yqu,yqi,.sl (.st 4),.sl (.st 12),.sl (.st 13),.sl yqi,.sl (.st 11),.sl (.str),.sl yqi,.sl (.str),.sl (.sl yqu),.sl (.str),.sl (.bool)] yF fun(p1:List wU) (Ab:Int) (Ac:Li) (Ai Ak Al Aj Af Ag At Au Ae:Int) (Ah:Li) (Av Aw:Int) (Ax:Li) (Ay:Int) (Ap:Bool) (Aq As:Int) (Ao:List wG) (w2:List wAb) (w3:List wJ) (w4k:Li) (w4v:List wN) (w5k:Lb) (w5v:Li) (w6k:Lb) (w6v:List (Li)) (w7k:Lb) (w7v:Lo)=>(CHk Ab p1 w2 Ac ⟨w3,w4k,w4v,Aj,Af,Al⟩/\(Ap=false/\w5k=[]/\w5v=[])/\(Ag=0/\At=0/\Au=0/\Ae=0/\Ah=[]/\Av=0)/\Aw=0/\Ax=[]/\Ay=0,chnGo ⟨w2,Ac⟩ Ab p1 ⟨w3,w4k,w4v,Aj,Af,Al⟩,fun R=>(Ab,Ac,Ai,Ak,R.x.hd,R.x.cr,R.x.sp,R.f.wAW,R.f.wO,R.f.Tx,R.f.wBH,R.f.wBJ,R.f.wAw,R.f.wBK,R.f.wBI,R.f.wAv,Ap,Aq,As,Ao,w2,R.x.n,R.x.k,R.x.v,w5k,w5v,w6k,w6v,w7k,w7v,()))
abbrev k5g (R:EF) (Ab:Int) (Ac:Li) (Ai Ak:Int) (Ap:Bool) (Aq As:Int) (Ao:List wG) (w2:List wAb) (w5k:Lb) (w5v:Li) (w6k:Lb) (w6v:List (Li)) (w7k:Lb) (w7v:Lo) (o0:Int) (o1:Li) (o2 o3 o4 o5 o6 o7 o8 o9 o10:Int) (o11:Li) (o12 o13:Int) (o14:Li) (o15:Int) (o16:Bool) (o17 o18:Int) (o19:List wG) (o20:List wAb) (o21:List wJ) (o22:Li) (o23:List wN) (o24:Lb) (o25:Li) (o26:Lb) (o27:List (Li)) (o28:Lb) (o29:Lo):Prop:=o0=Ab/\o1=Ac/\o2=Ai/\o3=Ak/\o4=R.x.hd/\o5=R.x.cr/\o6=R.x.sp/\o7=R.f.wAW/\o8=R.f.wO/\o9=R.f.Tx/\o10=R.f.wBH/\o11=R.f.wBJ/\o12=R.f.wAw/\o13=R.f.wBK/\o14=R.f.wBI/\o15=R.f.wAv/\o16=Ap/\o17=Aq/\o18=As/\o19=Ao/\o20=w2/\o21=R.x.n/\o22=R.x.k/\o23=R.x.v/\o24=w5k/\o25=w5v/\o26=w6k/\o27=w6v/\o28=w7k/\o29=w7v
abbrev Fz7 (r:Type):=Int->Int->Bool->Int->Int->(List wG)->Int->(Li)->Int->Int->Int->Int->Int->Int->Int->Int->Int->(Li)->Int->Int->(Li)->Int->(Lb)->(Lo)->(Lb)->(List (Li))->(Lb)->(Li)->(Li)->(List wN)->(List wJ)->(List wAb)->r
theorem kdu:kcp.O:=pbv Bs Tryz.func57 (.r 1 (.lp [] ⟨[7,6,5,4,3,2,1,0],yB,[6,16],[.one (zqi),.one (zqi)],[]⟩ (.r 1 (.nd [] (.r 1 (.lp [] ⟨[7,6,5,4,3,2,1,0],yB,[6,23],[.one (zqi),.one (zqi)],[]⟩ .no)) [] .no)))) (k4e.c (k6c.c c0)) (Q:=∀(p1:List wU) (Ab:Int) (Ac:Li) (Ai Ak Al Aj Af Ag At Au Ae:Int) (Ah:Li) (Av Aw:Int) (Ax:Li) (Ay:Int) (Ap:Bool) (Aq As:Int) (Ao:List wG) (w2:List wAb) (w3:List wJ) (w4k:Li) (w4v:List wN) (w5k:Lb) (w5v:Li) (w6k:Lb) (w6v:List (Li)) (w7k:Lb) (w7v:Lo),(CHk Ab p1 w2 Ac ⟨w3,w4k,w4v,Aj,Af,Al⟩/\(Ap=false/\w5k=[]/\w5v=[])/\(Ag=0/\At=0/\Au=0/\Ae=0/\Ah=[]/\Av=0)/\Aw=0/\Ax=[]/\Ay=0)->∀R,chnGo ⟨w2,Ac⟩ Ab p1 ⟨w3,w4k,w4v,Aj,Af,Al⟩=R-> 
(w3=w3)/\(w2=w2)/\∃(I1:Fz7 Prop) (M1:Fz7 Nat),I1 0 0 Ap Aq As Ao Ab Ac Ai Ak Al Aj Af Ag At Au Ae Ah Av Aw Ax Ay w7k w7v w6k w6v w5k w5v w4k w4v w3 w2/\∀b1 f1 i1 k1 l1 m1 n1 o1 q1 s1 t1 u1 x1 y1 b2 f2 i2 k2 l2 m2 n2 o2 q2 s2 t2 u2 x2 y2 b3 f3 i3 k3,(I1 b1 f1 i1 k1 l1 m1 n1 o1 q1 s1 t1 u1 x1 y1 b2 f2 i2 k2 l2 m2 n2 o2 q2 s2 t2 u2 x2 y2 b3 f3 i3 k3->
(decide (f1<(p1.length:Int))=true->
(0<=f1)/\f1<(p1.length:Int)/\(i3=i3)/\(k3=k3)/\∃(I2:Fz7 Prop) (M2:Fz7 Nat),I2 b1 0 i1 k1 l1 m1 n1 o1 q1 s1 t1 u1 x1 y1 b2 f2 i2 k2 l2 m2 n2 o2 q2 s2 t2 u2 x2 y2 b3 f3 i3 k3/\∀l3 m3 n3 o3 q3 s3 t3 u3 x3 y3 b4 f4 i4 k4 l4 m4 n4 o4 q4 s4 t4 u4 x4 y4 b5 f5 i5 k5 l5 m5 n5 o5,(I2 l3 m3 n3 o3 q3 s3 t3 u3 x3 y3 b4 f4 i4 k4 l4 m4 n4 o4 q4 s4 t4 u4 x4 y4 b5 f5 i5 k5 l5 m5 n5 o5->
let v1:Bool:=decide (m3<(((ix p1 f1).Txs).length:Int))
(v1=true->
(0<=m3)/\m3<(((ix p1 f1).Txs).length:Int)/\(By (ix ((ix p1 f1).Txs) m3).wh/\(ix ((ix p1 f1).Txs) m3).wh.length<=137438953472)/\let r2:=(decW (ix ((ix p1 f1).Txs) m3).wh).1
let r3:Bool:=((decW (ix ((ix p1 f1).Txs) m3).wh).2==0)
(n5=n5)/\(o5=o5)/\((∃c:Nat,c<=1000/\EXk ⟨n5,l5,m5,f4,i4,b4⟩ c)/\ECk ⟨o5,u3⟩/\(0<=((ix p1 f1).wO)/\((ix p1 f1).wO)<=o5.length/\((ix p1 f1).wO)<=9223372036854775807)/\(n3=false/\i5=[]/\k5=[])/\TR (ix ((ix p1 f1).Txs) m3)/\(r3=true->WR r2)/\1<=t3/\t3<=6)/\let r4:=(exTx ⟨o5,u3⟩ t3 ⟨n5,l5,m5,f4,i4,b4⟩ (ix ((ix p1 f1).Txs) m3) r2 r3 ((ix p1 f1).wO)).f
let r5:=exTx ⟨o5,u3⟩ t3 ⟨n5,l5,m5,f4,i4,b4⟩ (ix ((ix p1 f1).Txs) m3) r2 r3 ((ix p1 f1).wO)
((r4.wAW !=0)=true->
(r5.x.n=r5.x.n)/\(o5=o5)/\k5g R Ab Ac Ai Ak Ap Aq As Ao w2 w5k w5v w6k w6v w7k w7v t3 u3 x3 y3 r5.x.hd r5.x.cr r5.x.sp r4.wAW ((ix p1 f1).wO) m3 r4.wBH r4.wBJ r4.wAw r4.wBK r4.wBI r4.wAv n3 o3 q3 s3 o5 r5.x.n r5.x.k r5.x.v i5 k5 b5 f5 x4 y4)/\
((r4.wAW !=0)=false->
(r5.x.n=r5.x.n)/\(o5=o5)/\I2 (i64.wrap (l3+1)) (i64.wrap (m3+1)) n3 o3 q3 s3 t3 u3 x3 y3 r5.x.hd r5.x.cr r5.x.sp k4 l4 m4 n4 o4 q4 s4 t4 u4 x4 y4 b5 f5 i5 k5 r5.x.k r5.x.v r5.x.n o5/\M2 (i64.wrap (l3+1)) (i64.wrap (m3+1)) n3 o3 q3 s3 t3 u3 x3 y3 r5.x.hd r5.x.cr r5.x.sp k4 l4 m4 n4 o4 q4 s4 t4 u4 x4 y4 b5 f5 i5 k5 r5.x.k r5.x.v r5.x.n o5<M2 l3 m3 n3 o3 q3 s3 t3 u3 x3 y3 b4 f4 i4 k4 l4 m4 n4 o4 q4 s4 t4 u4 x4 y4 b5 f5 i5 k5 l5 m5 n5 o5))/\
(v1=false->
(n5=n5)/\(o5=o5)/\I1 l3 (i64.wrap (f1+1)) n3 o3 q3 s3 t3 u3 x3 y3 b4 f4 i4 k4 l4 m4 n4 o4 q4 s4 t4 u4 x4 y4 b5 f5 i5 k5 l5 m5 n5 o5/\M1 l3 (i64.wrap (f1+1)) n3 o3 q3 s3 t3 u3 x3 y3 b4 f4 i4 k4 l4 m4 n4 o4 q4 s4 t4 u4 x4 y4 b5 f5 i5 k5 l5 m5 n5 o5<M1 b1 f1 i1 k1 l1 m1 n1 o1 q1 s1 t1 u1 x1 y1 b2 f2 i2 k2 l2 m2 n2 o2 q2 s2 t2 u2 x2 y2 b3 f3 i3 k3)))/\
(decide (f1<(p1.length:Int))=false->
(i3=i3)/\(k3=k3)/\k5g R Ab Ac Ai Ak Ap Aq As Ao w2 w5k w5v w6k w6v w7k w7v n1 o1 q1 s1 t1 u1 x1 y1 b2 f2 i2 k2 l2 m2 n2 o2 i1 k1 l1 m1 k3 i3 b3 f3 x2 y2 t2 u2 q2 s2)))<|by
 rintro p1 Ab Ac Ai Ak Al Aj Af Ag At Au Ae Ah Av Aw Ax Ay Ap Aq As Ao w2 w3 w4k w4v w5k w5v w6k w6v w7k w7v h R hR;obtain⟨hH,⟨rfl,rfl,rfl⟩,⟨rfl,rfl,rfl,rfl,rfl,rfl⟩,rfl,rfl,rfl⟩:=h;have hlen:=hH.len;refine⟨rfl,rfl,(fun nb f z1 z2 z3 z4 z5 z6 z7 z8 hd cr sp y1 y2 y3 y4 y5 y6 y7 y8 y9 x1 x2 x3 x4 x5 x6 sk sv ns tr=>∃k:Nat,f=(k:Int)/\k<=p1.length/\(0<=nb/\nb<=4*k)/\(false=z1/\Aq=z2/\As=z3/\Ao=z4/\Ab=z5/\Ac=z6/\Ai=z7/\Ak=z8)/\(0=y1/\0=y2/\0=y3/\0=y4/\[]=y5/\0=y6/\0=y7/\[]=y8/\0=y9)/\(w7k=x1/\w7v=x2/\w6k=x3/\w6v=x4/\[]=x5/\[]=x6/\w2=tr)/\EXk ⟨ns,sk,sv,cr,sp,hd⟩ nb.toNat/\chnGo ⟨w2,Ac⟩ Ab (p1.drop k) ⟨ns,sk,sv,cr,sp,hd⟩=R),(fun _ f _ _ _ _ _ _ _ _ _ _ _ _ _ _ _ _ _ _ _ _ _ _ _ _ _ _ _ _ _ _=>(p1.length-f).toNat),⟨0,rfl,qaq _,⟨by omega,by omega⟩,⟨rfl,rfl,rfl,rfl,rfl,rfl,rfl,rfl⟩,⟨rfl,rfl,rfl,rfl,rfl,rfl,rfl,rfl,rfl⟩,⟨rfl,rfl,rfl,rfl,rfl,rfl,rfl⟩,hH.x,hR⟩,?_⟩;rintro nb _ _ _ _ _ _ _ _ _ hd cr sp _ _ _ _ _ _ _ _ _ _ _ _ _ _ _ sk sv ns _ ⟨k,rfl,hk,⟨n0,n1⟩,⟨rfl,rfl,rfl,rfl,rfl,rfl,rfl,rfl⟩,⟨rfl,rfl,rfl,rfl,rfl,rfl,rfl,rfl,rfl⟩,⟨rfl,rfl,rfl,rfl,rfl,rfl,rfl⟩,hX,hg⟩;refine⟨fun e=> ?_,fun e=> ?_⟩
 ·have e:(k:Int)<p1.length:=qb e;have hkl:k<p1.length:=by omega
  have hm:=ix_mem p1 (k:Int) qqo e;rw[kol hkl]at hg;have hh:=hH.h _ hm;have htl:=hH.tl _ hm;have htt:=hH.t _ hm;rw[inc (k:Int) p1.length qqo e qqo];generalize ix p1 (k:Int)=B at *
  refine⟨by omega,e,rfl,rfl,(fun nb2 m z1 z2 z3 z4 z5 z6 z7 z8 hd cr sp y1 y2 y3 y4 y5 y6 y7 y8 y9 x1 x2 x3 x4 x5 x6 sk sv ns tr=>∃j:Nat,m=(j:Int)/\j<=B.Txs.length/\nb2=nb+(j:Int)/\(false=z1/\Aq=z2/\As=z3/\Ao=z4/\Ab=z5/\Ac=z6/\Ai=z7/\Ak=z8)/\(0=y1/\0=y2/\0=y3/\0=y4/\[]=y5/\0=y6/\0=y7/\[]=y8/\0=y9)/\(w7k=x1/\w7v=x2/\w6k=x3/\w6v=x4/\[]=x5/\[]=x6/\w2=tr)/\EXk ⟨ns,sk,sv,cr,sp,hd⟩ nb2.toNat/\(if(txsGo ⟨w2,Ac⟩ Ab B.wO j (B.Txs.drop j) ⟨ns,sk,sv,cr,sp,hd⟩).f.wAW≠0 then txsGo ⟨w2,Ac⟩ Ab B.wO j (B.Txs.drop j) ⟨ns,sk,sv,cr,sp,hd⟩else chnGo ⟨w2,Ac⟩ Ab (p1.drop (k+1)) (txsGo ⟨w2,Ac⟩ Ab B.wO j (B.Txs.drop j) ⟨ns,sk,sv,cr,sp,hd⟩).x)=R),(fun _ m _ _ _ _ _ _ _ _ _ _ _ _ _ _ _ _ _ _ _ _ _ _ _ _ _ _ _ _ _ _=>(B.Txs.length-m).toNat),⟨0,rfl,qaq _,by omega,⟨rfl,rfl,rfl,rfl,rfl,rfl,rfl,rfl⟩,⟨rfl,rfl,rfl,rfl,rfl,rfl,rfl,rfl,rfl⟩,⟨rfl,rfl,rfl,rfl,rfl,rfl,rfl⟩,hX,hg⟩,?_⟩;rintro _ _ _ _ _ _ _ _ _ _ hd cr sp _ _ _ _ _ _ _ _ _ _ _ _ _ _ _ sk sv ns _ ⟨j,rfl,hj,rfl,⟨rfl,rfl,rfl,rfl,rfl,rfl,rfl,rfl⟩,⟨rfl,rfl,rfl,rfl,rfl,rfl,rfl,rfl,rfl⟩,⟨rfl,rfl,rfl,rfl,rfl,rfl,rfl⟩,hX,hg⟩;refine⟨fun e2=> ?_,fun e2=> ?_⟩
  ·have e2:(j:Int)<B.Txs.length:=qb e2;have hjl:j<B.Txs.length:=by omega
   have hx:ix B.Txs (j:Int)=B.Txs[j]:=ix_get _ _ hjl;have ht:=htt _ (ix_mem B.Txs (j:Int) qqo e2);rw[qo hjl,<-hx,txsGo]at hg;rw[inc (j:Int) B.Txs.length qqo e2 qqo,wi (nb+(j:Int)+1) qqo qqo];generalize ix B.Txs (j:Int)=X at *
   have hW:((decW X.wh).2==0)=true->WR (decW X.wh).1:=decW_WR;have hc:(nb+(j:Int)).toNat<=1000:=by omega
   refine⟨by omega,e2,⟨ht.1.p,ht.2⟩,rfl,rfl,⟨⟨_,hc,hX⟩,hH.C,hh,⟨rfl,rfl,rfl⟩,ht.1,hW,hH.d1,hH.d6 (List.ne_nil_of_mem hm)⟩,fun e3=> ?_,fun e3=> ?_⟩
   ·have e3:(exTd ⟨w2,Ac⟩ Ab B.wO ⟨ns,sk,sv,cr,sp,hd⟩ X).f.wAW≠0:=bne_iff_ne.1 e3;rw[qf e3,qf e3]at hg;subst hg;exact(by repeat' first|apply qaa|exact rfl|exact ql)
   ·have e3:(exTd ⟨w2,Ac⟩ Ab B.wO ⟨ns,sk,sv,cr,sp,hd⟩ X).f.wAW=0:=bne_eq_false_iff_eq.1 e3;rw[qe (fun hq:(exTd ⟨w2,Ac⟩ Ab B.wO ⟨ns,sk,sv,cr,sp,hd⟩ X).f.wAW≠0=>hq e3)]at hg;have hn:=(exTx_ok hX hc ⟨hH.d1,hH.d6 (List.ne_nil_of_mem hm)⟩ hW e3).1;rw[show(nb+(j:Int)).toNat+1=(nb+(j:Int)+1).toNat by omega]at hn;exact⟨rfl,rfl,⟨j+1,rfl,by omega,by omega,⟨rfl,rfl,rfl,rfl,rfl,rfl,rfl,rfl⟩,⟨rfl,rfl,rfl,rfl,rfl,rfl,rfl,rfl,rfl⟩,⟨rfl,rfl,rfl,rfl,rfl,rfl,rfl⟩,hn,hg⟩,by(first|omega|(dsimp only;omega))⟩
  ·have e2:¬(j:Int)<B.Txs.length:=qc e2;rw[qam qqo]at hg;have hg:chnGo ⟨w2,Ac⟩ Ab (p1.drop (k+1)) ⟨ns,sk,sv,cr,sp,hd⟩=R:=hg;exact⟨rfl,rfl,⟨k+1,rfl,by omega,⟨by omega,by omega⟩,⟨rfl,rfl,rfl,rfl,rfl,rfl,rfl,rfl⟩,⟨rfl,rfl,rfl,rfl,rfl,rfl,rfl,rfl,rfl⟩,⟨rfl,rfl,rfl,rfl,rfl,rfl,rfl⟩,hX,hg⟩,by(first|omega|(dsimp only;omega))⟩
 ·have e:¬(k:Int)<p1.length:=qc e;rw[qam qqo]at hg;have hg:EF.mk zeroF ⟨ns,sk,sv,cr,sp,hd⟩=R:=hg;subst hg;exact(by repeat' first|apply qaa|exact rfl|exact ql)
noncomputable def kct:Ct:= .bp 55 [.st 15] [yqu,yqi] fun(p0:wAN)=>(OkA p0.wF,totA 0 p0.wF,fun R=>(R.1,R.2,()))
theorem kdh:kct.O:=qbx Bs [] Tryz.func55 (.r 1 (.nd [] (.r 0 (.lp [] ⟨[],[],[4,12],[.one (zqu),.one (zqi)],[]⟩ .no)) [] .no)) (x1 x90_ok x0) c0 (Q:=∀(p0:wAN),(OkA p0.wF)->∀R,totA 0 p0.wF=R-> 
∃(I1:Int->Int->Prop) (M1:Int->Int->Nat),I1 0 0/\∀b1 f1,(I1 b1 f1->
(decide (f1<(p0.wF.length:Int))=true->
(0<=f1)/\f1<(p0.wF.length:Int)/\(0<=b1/\0<=((ix p0.wF f1).wb)/\0<=(0:Int)/\(0:Int)<=1)/\let r2:Int:=(b1+((ix p0.wF f1).wb)+(0:Int))%18446744073709551616
let r3:Int:=(b1+((ix p0.wF f1).wb)+(0:Int))/18446744073709551616
((r3 !=0)=true->
0=R.1/\3=R.2)/\
((r3 !=0)=false->
I1 r2 (i64.wrap (f1+1))/\M1 r2 (i64.wrap (f1+1))<M1 b1 f1))/\
(decide (f1<(p0.wF.length:Int))=false->
b1=R.1/\0=R.2)))<|by
 rintro p0 h R hR;subst hR;have hl:=h.2.1;refine(⟨(fun t a=>∃i:Nat,a=(i:Int)/\i<=p0.wF.length/\(0<=t/\t<18446744073709551616)/\totA t (p0.wF.drop i)=totA 0 p0.wF),(fun _ a=>(p0.wF.length-a).toNat),⟨0,rfl,by omega,by omega,rfl⟩,?_⟩);rintro t _ ⟨i,rfl,hi,ht,he⟩;refine⟨fun hc=> ?_,fun hc=> ?_⟩
 ·have hc:=qb hc;have hi' :i<p0.wF.length:=by omega
  have hb:=h.2.2 _ (qah hi');unfold AccOk at hb;rw[kr0 _ _ _ hi']at he;rw[ix_get _ _ hi'];refine⟨by omega,hc,⟨ht.1,by omega,by omega,by omega⟩,fun hx=> ?_,fun hx=> ?_⟩
  ·have hx:(t+p0.wF[i].wb+0)/18446744073709551616≠0:=by simpa using hx
   rw[qf qqo]at he;rw[<-he];exact⟨rfl,rfl⟩
  ·have hx:(t+p0.wF[i].wb+0)/18446744073709551616=0:=by simpa using hx
   rw[qe qqo]at he;rw[inc_i64 _ qqo];have e:(t+p0.wF[i].wb+0)%18446744073709551616=t+p0.wF[i].wb:=by omega
   rw[e];exact⟨⟨i+1,rfl,by omega,by omega,he⟩,by(dsimp only;omega)⟩
 ·have hc:=qc hc;have:i=p0.wF.length:=by omega
  subst this;rw[qbs]at he;rw[<-he];exact⟨rfl,rfl⟩
noncomputable def kcm:Ct:= .gp 84 [yqi] [.st 6] [] fun(p0:Int)=>(1<=p0/\p0<=12,(frF p0 []:wI),())
theorem k5h:kcm.O:=qrv Bs Tryz.func84 (.r 0 (.nd [] (.jn ⟨[],[],[8],[.one (.d (.bool))],[]⟩ [] .no [] .no) [] (.r 0 (.rt [.frzc 1 0 2])))) c0 (Q:=∀(p0:Int),(1<=p0/\p0<=12)->∀r0:wI,(frF p0 [])=r0-> 
∀J1:Bool->Prop,(∀(b1:Bool),
((b1=true->
0=r0.wD/\0=r0.wAY/\([]:Li)=r0.wAa)/\
(b1=false->
0<=i64.wrap (p0+1)/\i64.wrap (p0+1)<=i64.wrap (p0+1)/\((i64.wrap (p0+1)).toNat*8<=140737488355328)/\((i64.wrap (p0+1)).toNat<=maxLen)/\((i64.wrap (p0+1)).toNat=(List.replicate ((i64.wrap (p0+1)).toNat) (0:Int)).length)/\p0=r0.wD/\0=r0.wAY/\List.replicate ((i64.wrap (p0+1)).toNat) (0:Int)=r0.wAa))->J1 b1)->
(decide (p0<1)=true->
J1 true)/\
(decide (p0<1)=false->
J1 (decide (12<p0))))<|by
 rintro p0 h _ rfl;refine fun J1 j=>⟨fun e=>(by have:=qb e;omega),fun e=> ?_⟩;refine j _ ⟨fun e=>(by have:=qb e;omega),fun _=> ?_⟩;obtain⟨d,rfl⟩:=qn (show 0<=p0 by omega);rw[km _ qqo qqo];have e2:((d:Int)+1).toNat=d+1:=by omega
 rw[e2];refine⟨by omega,by omega,by omega,by unfold maxLen;omega,by simp,rfl,rfl,?_⟩;show _=leftS (d:Int).toNat [];rw[qx];refine(List.eq_replicate_iff.2 ⟨k1k _ _,fun x hx=> ?_⟩).symm;obtain⟨i,hi,rfl⟩:=qau.1 hx;have:bitN ([]:Li).length i=false:=by simp[bitN]
 rw[qe (by rw[this];decide)]
noncomputable def keb:Ct:= .t ⟨85,[],[],(.one (.one (.ptr 0 0))),yI1,false⟩ [] [.sl yqu,.sl (.bool)] [] (([]:Li),([]:Lo),())
theorem k66:keb.O:=ptv Bs Tryz.func85 .no c0 (Q:=∀e1k:Li,([]:Li)=e1k->∀e1v:Lo,([]:Lo)=e1v-> 
([]:Li)=e1k/\([]:Lo)=e1v)<|by rintro _ rfl _ rfl;exact⟨rfl,rfl⟩
noncomputable def k9n:Ct:= .tp 50 [.st 5] [.bool] [] fun(p0:wAy)=>((prS p0:Bool),())
theorem kat:k9n.O:=qtv Bs Tryz.func50 (.r 0 (.jn ⟨[],[],[3],[.one (.d (.bool))],[]⟩ [] .no [] (.jn ⟨[],[],[4],[.one (.d (.bool))],[]⟩ [] .no [] .no))) c0 (Q:=∀(p0:wAy),∀r0:Bool,prS p0=r0-> 
∀J1:Bool->Prop,(∀(b1:Bool),
(∀J2:Bool->Prop,(∀(f1:Bool),
((b1=true->
(f1=true->
(decide (1<=p0.wBT)=true->
decide (p0.wBT<=64)=r0)/\
(decide (1<=p0.wBT)=false->
false=r0))/\
(f1=false->
false=r0))/\
(b1=false->
false=r0))->J2 f1)->
((p0.wBM==1)=true->
J2 true)/\
((p0.wBM==1)=false->
((p0.wBM==2)=true->
J2 true)/\
((p0.wBM==2)=false->
((p0.wBM==4)=true->
J2 true)/\
((p0.wBM==4)=false->
J2 (p0.wBM==8)))))->J1 b1)->
(decide (2<=p0.wBU)=true->
(decide (p0.wBU<=256)=true->
let v1:Int:=iand .i64 p0.wBU (i64.wrap (p0.wBU-1))
J1 (v1==0))/\
(decide (p0.wBU<=256)=false->
J1 false))/\
(decide (2<=p0.wBU)=false->
J1 false))<|by
 rintro p0 _ rfl;have hb4:pws 4 1 p0.wBM=((p0.wBM==1)||(p0.wBM==2)||(p0.wBM==4)||(p0.wBM==8)):=by simp[pws,List.range_succ,Bool.or_assoc]
 intro J1 j1
 have j1:∀a,a=pws 8 2 p0.wBU->J1 a:=by
  intro a ha;refine j1 _ fun J2 j2=> ?_
  have j2:∀b,b=pws 4 1 p0.wBM->J2 b:=by
   intro b hb;refine j2 _ ?_;unfold prS;rw[<-ha,<-hb];refine⟨fun e=>⟨fun e2=>⟨fun e3=> ?_,fun e3=> ?_⟩,fun e2=> ?_⟩,fun e=> ?_⟩
   ·rw[e,e2,e3];simp
   ·rw[e,e2,e3];simp
   ·rw[e,e2];simp
   ·rw[e];simp
  refine⟨fun e=>j2 _ ?_,fun e=>⟨fun e2=>j2 _ ?_,fun e2=>⟨fun e3=>j2 _ ?_,fun e3=>j2 _ ?_⟩⟩⟩
  ·rw[hb4,e];rfl
  ·rw[hb4,e,e2];rfl
  ·rw[hb4,e,e2,e3];rfl
  ·rw[hb4,e,e2,e3];rfl
 refine⟨fun e=>⟨fun e2=> ?_,fun e2=>j1 _ ?_⟩,fun e=>j1 _ ?_⟩
 ·have e:=qb e;have e2:=qb e2;obtain⟨b,hb⟩:=qn (show 0<=p0.wBU by omega);refine j1 _ ?_;rw[hb,km _ qqo qqo];exact pws_and b qqo
 ·have e2:=qc e2;cases hq:pws 8 2 p0.wBU with
  |false=>rfl
  |true=>have:=kgt hq qqd;simp at this;omega
 ·have e:=qc e;cases hq:pws 8 2 p0.wBU with
  |false=>rfl
  |true=>have:=kgt hq qqd;simp at this;omega
noncomputable def ka7:Ct:= .tp 29 [.st 0] [yqi] [] fun(p0:wP)=>((rulesE p0:Int),())
theorem k2k:ka7.O:=qtv Bs Tryz.func29 (.r 0 (.jn ⟨[],[],[3],[.one (.d (.bool))],[]⟩ [] .no [] .no)) (kat.c c0) (Q:=∀(p0:wP),∀r0:Int,rulesE p0=r0-> 
∀J1:Bool->Prop,(∀(b1:Bool),
(((!b1)=true->
1=r0)/\
((!b1)=false->
((p0.wAk==1)=true->
let r1:Bool:=(prS (wAy.mk p0.wAG p0.wAA p0.ww))
((!r1)=true->
1=r0)/\
((!r1)=false->
0=r0))/\
((p0.wAk==1)=false->
0=r0)))->J1 b1)->
(decide (1<=p0.wAk)=true->
(decide (p0.wAk<=3)=true->
(decide (1<=p0.wD)=true->
(decide (p0.wD<=12)=true->
(decide (1<=p0.wAe)=true->
(decide (p0.wAe<=100)=true->
(decide (1<=p0.wAQ)=true->
(decide (p0.wAQ<=1048576)=true->
(decide (p0.wd<=4294967296)=true->
(decide (1<=p0.wBA)=true->
J1 (decide (p0.wBA<=65536)))/\
(decide (1<=p0.wBA)=false->
J1 false))/\
(decide (p0.wd<=4294967296)=false->
J1 false))/\
(decide (p0.wAQ<=1048576)=false->
J1 false))/\
(decide (1<=p0.wAQ)=false->
J1 false))/\
(decide (p0.wAe<=100)=false->
J1 false))/\
(decide (1<=p0.wAe)=false->
J1 false))/\
(decide (p0.wD<=12)=false->
J1 false))/\
(decide (1<=p0.wD)=false->
J1 false))/\
(decide (p0.wAk<=3)=false->
J1 false))/\
(decide (1<=p0.wAk)=false->
J1 false))<|by
 rintro p0 _ rfl;intro J1 j1
 have j1:∀b,b=rulesB p0->J1 b:=by
  intro b hb;refine j1 _ ?_;unfold rulesE;rw[<-hb];refine⟨fun e=> ?_,fun e=> ?_⟩
  ·have e:b=false:=by simpa using e
   rw[e];rfl
  ·have e:b=true:=by simpa using e
   rw[e,qf rfl];refine⟨fun e2=>⟨fun e3=> ?_,fun e3=> ?_⟩,fun e2=> ?_⟩
   ·have e2:p0.wAk=1:=by simpa using e2
    have e3:¬prS ⟨p0.wAG,p0.wAA,p0.ww⟩=true:=by simpa using e3
    rw[qf e2,qe e3]
   ·have e2:p0.wAk=1:=by simpa using e2
    have e3:prS ⟨p0.wAG,p0.wAA,p0.ww⟩=true:=by simpa using e3
    rw[qf e2,qf e3]
   ·have e2:¬p0.wAk=1:=by simpa using e2
    rw[qe e2]
 have no:∀b:Bool,(b=false->rulesB p0=false)->b=false->false=rulesB p0:=fun b h e=>(h e).symm;refine⟨fun e1=>⟨fun e2=>⟨fun e3=>⟨fun e4=>⟨fun e5=>⟨fun e6=>⟨fun e7=>⟨fun e8=>⟨fun e9=>⟨fun e10=>j1 _ ?_,fun e=>j1 _ ?_⟩,fun e=>j1 _ ?_⟩,fun e=>j1 _ ?_⟩,fun e=>j1 _ ?_⟩,fun e=>j1 _ ?_⟩,fun e=>j1 _ ?_⟩,fun e=>j1 _ ?_⟩,fun e=>j1 _ ?_⟩,fun e=>j1 _ ?_⟩,fun e=>j1 _ ?_⟩
 ·unfold rulesB;rw[e1,e2,e3,e4,e5,e6,e7,e8,e9,e10];simp
 all_goals unfold rulesB;rw[e];simp
noncomputable def kmb:Ct:= .b ⟨51,[.agg yG1],[],(.tup [.one (.ptr 0 0),.one (zqi)]),yG,true⟩ [.st 0] yL fun(p0:wP)=>(rulesE p0=0,(),fun _=>((0:Int),((newS p0).R.wAk:Int),((newS p0).R.wD:Int),((newS p0).R.wAG:Int),((newS p0).R.wAA:Int),((newS p0).R.ww:Int),((newS p0).R.wd:Int),((newS p0).R.wAe:Int),((newS p0).R.wAQ:Int),((newS p0).R.wBA:Int),((newS p0).F.wD:Int),((newS p0).F.wAY:Int),((newS p0).F.wAa:Li),((newS p0).b:List wB),((newS p0).n:Int),((newS p0).l:Li),((newS p0).r:Li),((newS p0).p:List wAB),((newS p0).k:Li),((newS p0).v:Lo),()))
theorem knt:kmb.O:=pbx Bs [19] Tryz.func51 (.r 3 (.rt [.rnilc 114 12 yqu,.rnilc 114 17 (.st 10)])) x0 (k2k.c (k5h.c (k66.c (k2o.c c0)))) (Q:=∀(p0:wP),(rulesE p0=0)->∀R:Unit,()=R-> 
(((rulesE p0) !=0)=true->
False)/\
(((rulesE p0) !=0)=false->
(1<=p0.wD/\p0.wD<=12)/\(FV (frF p0.wD []))/\(0=([]:List wAB).length)/\lz [(rootF (frF p0.wD []))]/\(0=([]:Li).length)/\0=(0:Int)/\p0.wAk=((newS p0).R.wAk:Int)/\p0.wD=((newS p0).R.wD:Int)/\p0.wAG=((newS p0).R.wAG:Int)/\p0.wAA=((newS p0).R.wAA:Int)/\p0.ww=((newS p0).R.ww:Int)/\p0.wd=((newS p0).R.wd:Int)/\p0.wAe=((newS p0).R.wAe:Int)/\p0.wAQ=((newS p0).R.wAQ:Int)/\p0.wBA=((newS p0).R.wBA:Int)/\(frF p0.wD []).wD=((newS p0).F.wD:Int)/\(frF p0.wD []).wAY=((newS p0).F.wAY:Int)/\(frF p0.wD []).wAa=((newS p0).F.wAa:Li)/\([]:List wB)=((newS p0).b:List wB)/\0=((newS p0).n:Int)/\([]:Li)=((newS p0).l:Li)/\[(rootF (frF p0.wD []))]=((newS p0).r:Li)/\([]:List wAB)=((newS p0).p:List wAB)/\[]=((newS p0).k:Li)/\[]=((newS p0).v:Lo)))<|by
 rintro p0 h R hR
 have hb:rulesB p0=true:=by
  cases hb:rulesB p0 with
  |true=>rfl
  |false=>unfold rulesE at h;rw[hb]at h;cases h
 have hd:1<=p0.wD/\p0.wD<=12:=by simp only[rulesB,qg,qai]at hb;omega
 exact⟨fun e=>(by rw[h]at e;cases e),fun _=>⟨hd,frF_FV hd.1 hd.2 (qaq _) (fun x hx=>by cases hx),rfl,rfl,rfl,rfl,rfl,rfl,rfl,rfl,rfl,rfl,rfl,rfl,rfl,rfl,rfl,rfl,rfl,rfl,rfl,rfl,rfl,rfl,rfl⟩⟩
noncomputable def kd9:Ct:= .g (gk 51 [.agg yG1] [] (.tup [.one (.k .nilPtr),.one (zqi)])) [.st 0] [yqi] [] fun(p0:wP)=>(rulesE p0≠0,(rulesE p0:Int),())
theorem kf8:kd9.O:=prx Bs [19] Tryz.func51 (.r 3 (.rt [.rnilc 114 12 yqu,.rnilc 114 17 (.st 10)])) x0 (k2k.c (k5h.c (k66.c (k2o.c c0)))) (Q:=∀(p0:wP),(rulesE p0≠0)->∀r1:Int,rulesE p0=r1-> 
(((rulesE p0) !=0)=true->
(rulesE p0)=r1)/\
(((rulesE p0) !=0)=false->
(1<=p0.wD/\p0.wD<=12)/\(FV (frF p0.wD []))/\False))<|by rintro p0 h _ rfl;exact⟨fun _=>rfl,fun e=>(h (by simpa using e)).elim⟩
noncomputable def kao:Ct:= .b (gk 31 [.one (.ptr 0 0),.agg yG1,.one (.d (.sl (.st 3))),.one (.k (.fn 18))] yK (.tup [.agg yZ,.one (zqi)])) yO yP fun(p1:wP) (p2:List wU) (Aa:Bool) (Ab Ad:Int) (Ac:List wG) (w1k:Lb) (w1v:Li) (w2k:Lb) (w2v:List (Li)) (w3k:Lb) (w3v:Lo)=>((BLk p2/\(p2≠[]->p1.wD<=6)/\0<=p1.wd)/\Aa=false/\w1k=([]:Lb)/\w1v=([]:Li),(),fun _=>(((exmS p1 p2).1:wK),((exmS p1 p2).2:Int),Aa,Ab,Ad,Ac,w1k,w1v,w2k,w2v,w3k,w3v,()))
abbrev Fz8 (r:Type):=Int->Int->(Li)->Int->Int->Int->Int->Int->Int->Int->Int->Int->(Li)->Int->Int->(Li)->Int->Int->Int->Int->Int->Int->Int->Int->Int->Int->Int->Int->(Li)->(List wB)->Int->Bool->Int->Int->(List wG)->(Lb)->(Lo)->(Lb)->(List (Li))->(Lb)->(Li)->(List wAb)->(List wJ)->(Li)->(List wN)->(Li)->(Lo)->(Li)->(Li)->(List wAB)->r
theorem kcs:kao.O:=pbv Bs Tryz.func31 (.r 3 (.nd [.tokc 13 2 (.st 12)] .no [] (.nd [] (.r 0 (.lp [.tokc 13 4 (.st 13)] ⟨[13,6,3,2,1,0,14,159,12,8,11],[.cells [.ptr 5 0,zqi,.own 6,zql,.own 7,.mp 8,zqu,zqu,zqu,zqi,zqi,zqi,zqi,zqi,zqu,.full yqu,zqu,zqu,.full yqu,zqu],.cells [zqi,zqi,zqi,zqi,zqi,zqu,zqi,zqi,zqu,zqi,zqi,zql,.row 11,.ptr 9 0,.d (.sl (.st 9)),zqu,.row 12,.row 13],.map (.str) (.bool),.map (.str) (.sl yqu),.map (.str) yqi,.cells [.d (.bool),zqu,zqi,.d (.sl (.st 4)),.mp 4,.mp 3,.mp 2],.tip (.st 12),.tip (.st 13),.map yqi (.st 11),.cells [.mp 10],.map yqu (.bool),.vec yqu,.vec yqu,.vec (.st 10)],[41],[.one (zqi)],[7,9,10]⟩ .no)) [] .no))) (knt.c (kf8.c (kje.c (kgk.c (keh.c (kdc.c (kdh.c (kdu.c c0)))))))) (Q:=∀(p1:wP) (p2:List wU) (Aa:Bool) (Ab Ad:Int) (Ac:List wG) (w1k:Lb) (w1v:Li) (w2k:Lb) (w2v:List (Li)) (w3k:Lb) (w3v:Lo),((BLk p2/\(p2≠[]->p1.wD<=6)/\0<=p1.wd)/\Aa=false/\w1k=([]:Lb)/\w1v=([]:Li))->∀R:Unit,()=R-> 
((rulesE p1=0)/\(((0:Int) !=0)=true->
0=((exmS p1 p2).1:wK).wBR/\0=((exmS p1 p2).1:wK).wBS/\0=((exmS p1 p2).1:wK).wAE/\0=((exmS p1 p2).1:wK).wAx/\0=((exmS p1 p2).1:wK).wAU/\0=((exmS p1 p2).1:wK).wT/\0=((exmS p1 p2).1:wK).wAR/\0=((exmS p1 p2).1:wK).wAq/\0=((exmS p1 p2).1:wK).wAL/\([]:Li)=((exmS p1 p2).1:wK).wAD/\0=((exmS p1 p2).1:wK).wAH/\0=((exmS p1 p2).1:wK).wAM/\([]:Li)=((exmS p1 p2).1:wK).wAC/\0=((exmS p1 p2).1:wK).wAI/\0=((exmS p1 p2).2:Int)/\Aa=Aa/\Ab=Ab/\Ad=Ad/\Ac=Ac/\w1k=w1k/\w1v=w1v/\w2k=w2k/\w2v=w2v/\w3k=w3k/\w3v=w3v)/\
(((0:Int) !=0)=false->
lz ((newS p1).p)/\lz ((newS p1).r)/\lz ((newS p1).l)/\(((newS p1).r).length<=1000000)/\let r2:Int:=(if((newS p1).r)=[]then 0 else ix ((newS p1).r) ((((newS p1).r).length:Int)-1))
lz ([]:List wAb)/\(([]:List wAb).length+[wAb.mk r2 0].length)*16<=140737488355328/\([]:List wAb).length+[wAb.mk r2 0].length<=maxLen/\lz ((newS p1).p)/\lz ((newS p1).r)/\lz ((newS p1).l)/\(([]:List wJ)=([]:List wJ))/\(([]:List wAb)++[wAb.mk r2 0]=([]:List wAb)++[wAb.mk r2 0])/\∃(I1:Fz8 Prop) (M1:Fz8 Nat),I1 0 p1.wD ([]:Li) 0 0 0 0 0 0 0 0 0 ([]:Li) 0 0 ([]:Li) 0 ((newS p1).R.wAk) ((newS p1).R.wD) ((newS p1).R.wAG) ((newS p1).R.wAA) ((newS p1).R.ww) ((newS p1).R.wd) ((newS p1).R.wAe) ((newS p1).R.wAQ) ((newS p1).R.wBA) ((newS p1).F.wD) ((newS p1).F.wAY) ((newS p1).F.wAa) ((newS p1).b) ((newS p1).n) Aa Ab Ad Ac w3k w3v w2k w2v w1k w1v (([]:List wAb)++[wAb.mk r2 0]) ([]:List wJ) ([]:Li) ([]:List wN) ((newS p1).k) ((newS p1).v) ((newS p1).l) ((newS p1).r) ((newS p1).p)/\∀b1 f1 i1 k1 l1 m1 n1 o1 q1 s1 t1 u1 x1 y1 b2 f2 i2 k2 l2 m2 n2 o2 q2 s2 t2 u2 x2 y2 b3 f3 i3 k3 l3 m3 n3 o3 q3 s3 t3 u3 x3 y3 b4 f4 i4 k4 l4 m4 n4 o4,(I1 b1 f1 i1 k1 l1 m1 n1 o1 q1 s1 t1 u1 x1 y1 b2 f2 i2 k2 l2 m2 n2 o2 q2 s2 t2 u2 x2 y2 b3 f3 i3 k3 l3 m3 n3 o3 q3 s3 t3 u3 x3 y3 b4 f4 i4 k4 l4 m4 n4 o4->
(decide (b1<(p2.length:Int))=true->
(0<=b1)/\b1<(p2.length:Int)/\lz o4/\lz n4/\lz m4/\((∃c:Nat,c+(ix p2 b1).Txs.length<=790/\PI (PS.mk (wP.mk k2 l2 m2 n2 o2 q2 s2 t2 u2) (wI.mk x2 y2 b3) f3 i3 m4 n4 o4 k4 l4) c 0)/\BR' (ix p2 b1))/\let r3:Int:=((applyS (PS.mk (wP.mk k2 l2 m2 n2 o2 q2 s2 t2 u2) (wI.mk x2 y2 b3) f3 i3 m4 n4 o4 k4 l4) (ix p2 b1)).e)
let r4:=(applyS (PS.mk (wP.mk k2 l2 m2 n2 o2 q2 s2 t2 u2) (wI.mk x2 y2 b3) f3 i3 m4 n4 o4 k4 l4) (ix p2 b1)).s
((r3 !=0)=true->
0=((exmS p1 p2).1:wK).wBR/\0=((exmS p1 p2).1:wK).wBS/\0=((exmS p1 p2).1:wK).wAE/\0=((exmS p1 p2).1:wK).wAx/\0=((exmS p1 p2).1:wK).wAU/\0=((exmS p1 p2).1:wK).wT/\0=((exmS p1 p2).1:wK).wAR/\0=((exmS p1 p2).1:wK).wAq/\0=((exmS p1 p2).1:wK).wAL/\([]:Li)=((exmS p1 p2).1:wK).wAD/\0=((exmS p1 p2).1:wK).wAH/\0=((exmS p1 p2).1:wK).wAM/\([]:Li)=((exmS p1 p2).1:wK).wAC/\0=((exmS p1 p2).1:wK).wAI/\r3=((exmS p1 p2).2:Int)/\k3=Aa/\l3=Ab/\m3=Ad/\n3=Ac/\u3=w1k/\x3=w1v/\s3=w2k/\t3=w2v/\o3=w3k/\q3=w3v)/\
((r3 !=0)=false->
lz r4.p/\lz r4.r/\lz r4.l/\(r4.l.length<=1000000)/\lz r4.p/\lz r4.r/\lz r4.l/\(r4.r.length<=1000000)/\let r5:Int:=(if r4.r=[]then 0 else ix r4.r ((r4.r.length:Int)-1))
lz y3/\(y3.length+[wAb.mk r5 (r4.l.length:Int)].length)*16<=140737488355328/\y3.length+[wAb.mk r5 (r4.l.length:Int)].length<=maxLen/\lz r4.p/\lz r4.r/\lz r4.l/\(b4=b4)/\(y3++[wAb.mk r5 (r4.l.length:Int)]=y3++[wAb.mk r5 (r4.l.length:Int)])/\I1 (i64.wrap (b1+1)) f1 r4.l k1 l1 m1 n1 o1 q1 s1 t1 u1 x1 y1 b2 f2 i2 r4.R.wAk r4.R.wD r4.R.wAG r4.R.wAA r4.R.ww r4.R.wd r4.R.wAe r4.R.wAQ r4.R.wBA r4.F.wD r4.F.wAY r4.F.wAa r4.b r4.n k3 l3 m3 n3 o3 q3 s3 t3 u3 x3 (y3++[wAb.mk r5 (r4.l.length:Int)]) b4 f4 i4 r4.k r4.v r4.l r4.r r4.p/\M1 (i64.wrap (b1+1)) f1 r4.l k1 l1 m1 n1 o1 q1 s1 t1 u1 x1 y1 b2 f2 i2 r4.R.wAk r4.R.wD r4.R.wAG r4.R.wAA r4.R.ww r4.R.wd r4.R.wAe r4.R.wAQ r4.R.wBA r4.F.wD r4.F.wAY r4.F.wAa r4.b r4.n k3 l3 m3 n3 o3 q3 s3 t3 u3 x3 (y3++[wAb.mk r5 (r4.l.length:Int)]) b4 f4 i4 r4.k r4.v r4.l r4.r r4.p<M1 b1 f1 i1 k1 l1 m1 n1 o1 q1 s1 t1 u1 x1 y1 b2 f2 i2 k2 l2 m2 n2 o2 q2 s2 t2 u2 x2 y2 b3 f3 i3 k3 l3 m3 n3 o3 q3 s3 t3 u3 x3 y3 b4 f4 i4 k4 l4 m4 n4 o4))/\
(decide (b1<(p2.length:Int))=false->
lz o4/\lz n4/\lz m4/\(f3.length<=100000)/\(OkA (wAN.mk f3).wF)/\let v6:Bool:=(((totA 0 (wAN.mk f3).wF).2) !=0)
(v6=true->
0=((exmS p1 p2).1:wK).wBR/\0=((exmS p1 p2).1:wK).wBS/\0=((exmS p1 p2).1:wK).wAE/\0=((exmS p1 p2).1:wK).wAx/\0=((exmS p1 p2).1:wK).wAU/\0=((exmS p1 p2).1:wK).wT/\0=((exmS p1 p2).1:wK).wAR/\0=((exmS p1 p2).1:wK).wAq/\0=((exmS p1 p2).1:wK).wAL/\([]:Li)=((exmS p1 p2).1:wK).wAD/\0=((exmS p1 p2).1:wK).wAH/\0=((exmS p1 p2).1:wK).wAM/\([]:Li)=((exmS p1 p2).1:wK).wAC/\0=((exmS p1 p2).1:wK).wAI/\((totA 0 (wAN.mk f3).wF).2)=((exmS p1 p2).2:Int)/\k3=Aa/\l3=Ab/\m3=Ad/\n3=Ac/\u3=w1k/\x3=w1v/\s3=w2k/\t3=w2v/\o3=w3k/\q3=w3v)/\
(v6=false->
(b4=b4)/\(y3=y3)/\(CHk f1 p2 y3 i1 ⟨b4,f4,i4,n1,o1,m1⟩/\(k3=false/\u3=[]/\x3=[])/\(q1=0/\s1=0/\t1=0/\u1=0/\x1=[]/\y1=0)/\b2=0/\f2=[]/\i2=0)/\let r7:=chnGo ⟨y3,i1⟩ f1 p2 ⟨b4,f4,i4,n1,o1,m1⟩
let v8:Int:=u64.wrap ((u64.wrap (p2.length:Int))*p1.wd)
v8=((exmS p1 p2).1:wK).wBR/\((totA 0 (wAN.mk f3).wF).1)=((exmS p1 p2).1:wK).wBS/\r7.x.hd=((exmS p1 p2).1:wK).wAE/\r7.x.cr=((exmS p1 p2).1:wK).wAx/\r7.x.sp=((exmS p1 p2).1:wK).wAU/\r7.f.wAW=((exmS p1 p2).1:wK).wT/\r7.f.wO=((exmS p1 p2).1:wK).wAR/\r7.f.Tx=((exmS p1 p2).1:wK).wAq/\r7.f.wBH=((exmS p1 p2).1:wK).wAL/\r7.f.wBJ=((exmS p1 p2).1:wK).wAD/\r7.f.wAw=((exmS p1 p2).1:wK).wAH/\r7.f.wBK=((exmS p1 p2).1:wK).wAM/\r7.f.wBI=((exmS p1 p2).1:wK).wAC/\r7.f.wAv=((exmS p1 p2).1:wK).wAI/\0=((exmS p1 p2).2:Int)/\k3=Aa/\l3=Ab/\m3=Ad/\n3=Ac/\u3=w1k/\x3=w1v/\s3=w2k/\t3=w2v/\o3=w3k/\q3=w3v)))))∨((rulesE p1≠0)/\(((rulesE p1) !=0)=true->
0=((exmS p1 p2).1:wK).wBR/\0=((exmS p1 p2).1:wK).wBS/\0=((exmS p1 p2).1:wK).wAE/\0=((exmS p1 p2).1:wK).wAx/\0=((exmS p1 p2).1:wK).wAU/\0=((exmS p1 p2).1:wK).wT/\0=((exmS p1 p2).1:wK).wAR/\0=((exmS p1 p2).1:wK).wAq/\0=((exmS p1 p2).1:wK).wAL/\([]:Li)=((exmS p1 p2).1:wK).wAD/\0=((exmS p1 p2).1:wK).wAH/\0=((exmS p1 p2).1:wK).wAM/\([]:Li)=((exmS p1 p2).1:wK).wAC/\0=((exmS p1 p2).1:wK).wAI/\(rulesE p1)=((exmS p1 p2).2:Int)/\Aa=Aa/\Ab=Ab/\Ad=Ad/\Ac=Ac/\w1k=w1k/\w1v=w1v/\w2k=w2k/\w2v=w2v/\w3k=w3k/\w3v=w3v)/\
(((rulesE p1) !=0)=false->
False)))<|by
 rintro p1 p2 Aa Ab Ad Ac w1k w1v w2k w2v w3k w3v h R hR;obtain⟨⟨hl,h6,hw⟩,rfl,rfl,rfl⟩:=h;have h8:=hl.len;by_cases hE:rulesE p1=0
 ·refine .inl ⟨hE,fun e=>(by cases e),fun _=> ?_⟩;generalize hG:exmS p1 p2=G;have hP:PI (newS p1) 0 0:=new_PI hE hw;refine⟨rfl,rfl,rfl,(by show(1:Nat)<=_;omega),rfl,(by show(0+1)*16<=_;omega),(by show 0+1<=maxLen;unfold maxLen;omega),rfl,rfl,rfl,rfl,rfl,?_⟩;refine⟨(fun i f1 i1 k1 l1 m1 n1 o1 q1 s1 t1 u1 x1 y1 b2 f2 i2 k2 l2 m2 n2 o2 q2 s2 t2 u2 x2 y2 b3 f3 i3 k3 l3 m3 n3 o3 q3 s3 t3 u3 x3 y3 b4 f4 i4 k4 l4 m4 n4 o4=>∃k:Nat,i=(k:Int)/\k<=p2.length/\(p1.wD=f1/\m4=i1/\0=k1/\0=l1/\0=m1/\0=n1/\0=o1/\0=q1/\0=s1/\0=t1/\0=u1/\[]=x1/\0=y1/\0=b2/\[]=f2)/\(0=i2/\[]=b4/\[]=f4/\[]=i4/\false=k3/\Ab=l3/\Ad=m3/\Ac=n3/\w3k=o3/\w3v=q3)/\(w2k=s3/\w2v=t3/\[]=u3/\[]=x3)/\y3.length=k+1/\(∀t∈y3,0<=t.leaves/\t.leaves<=m4.length)/\(∀j:Nat,j<k->(ix p2 (j:Int)).wO=(j:Int)+1)/\o4.length=k/\PI (PS.mk (wP.mk k2 l2 m2 n2 o2 q2 s2 t2 u2) (wI.mk x2 y2 b3) f3 i3 m4 n4 o4 k4 l4) (5*k) 0/\y3++trGo (p2.drop k) (PS.mk (wP.mk k2 l2 m2 n2 o2 q2 s2 t2 u2) (wI.mk x2 y2 b3) f3 i3 m4 n4 o4 k4 l4)=treS (newS p1)::trGo p2 (newS p1)/\auGo (p2.drop k) (PS.mk (wP.mk k2 l2 m2 n2 o2 q2 s2 t2 u2) (wI.mk x2 y2 b3) f3 i3 m4 n4 o4 k4 l4)=auGo p2 (newS p1)),(fun i _ _ _ _ _ _ _ _ _ _ _ _ _ _ _ _ _ _ _ _ _ _ _ _ _ _ _ _ _ _ _ _ _ _ _ _ _ _ _ _ _ _ _ _ _ _ _ _ _=>(p2.length-i).toNat),⟨0,rfl,qaq _,⟨rfl,rfl,rfl,rfl,rfl,rfl,rfl,rfl,rfl,rfl,rfl,rfl,rfl,rfl,rfl⟩,⟨rfl,rfl,rfl,rfl,rfl,rfl,rfl,rfl,rfl,rfl⟩,⟨rfl,rfl,rfl,rfl⟩,rfl,(fun t ht=>by rw[qal.1 ht];exact⟨qcc _,qcc _⟩),(fun j hj=>by omega),rfl,hP,rfl,rfl⟩,?_⟩;rintro _ _ _ _ _ _ _ _ _ _ _ _ _ _ _ _ _ k2 l2 m2 n2 o2 q2 s2 t2 u2 x2 y2 b3 f3 i3 _ _ _ _ _ _ _ _ _ _ y3 _ _ _ k4 l4 m4 n4 o4 ⟨k,rfl,g1,⟨rfl,rfl,rfl,rfl,rfl,rfl,rfl,rfl,rfl,rfl,rfl,rfl,rfl,rfl,rfl⟩,⟨rfl,rfl,rfl,rfl,rfl,rfl,rfl,rfl,rfl,rfl⟩,⟨rfl,rfl,rfl,rfl⟩,hy3,hyl,hhe,hol,hPI,htr,hgo⟩;refine⟨fun hh=> ?_,fun hh=> ?_⟩
  ·have hk:k<p2.length:=by have:=qb hh;omega
   have hx:ix p2 (k:Int)=p2[k]:=ix_get _ _ hk;have hmem:p2[k]∈p2:=qah hk;have htx:=hl.tl _ hmem;have hbr:BR' p2[k]:=hl.r _ hmem;rw[kqs hk]at hgo;rw[kpo hk]at htr;rw[hx,inc (k:Int) p2.length qqo qqo qqo];refine⟨by omega,by omega,rfl,rfl,rfl,⟨⟨5*k,by omega,hPI⟩,hbr⟩,?_⟩;dsimp only;refine⟨fun e=> ?_,fun e=> ?_⟩
   ·have e:¬(applyS (PS.mk (wP.mk k2 l2 m2 n2 o2 q2 s2 t2 u2) (wI.mk x2 y2 b3) f3 i3 m4 n4 o4 k4 l4) p2[k]).e=0:=by simpa using e
    rw[qe e]at hgo;have hG2:G=(zeroR,(applyS (PS.mk (wP.mk k2 l2 m2 n2 o2 q2 s2 t2 u2) (wI.mk x2 y2 b3) f3 i3 m4 n4 o4 k4 l4) p2[k]).e):=by rw[<-hG];unfold exmS;rw[qf hE,<-hgo];exact qe e
    subst hG2;exact(by repeat' first|apply qaa|exact rfl|exact ql)
   ·have e:(applyS (PS.mk (wP.mk k2 l2 m2 n2 o2 q2 s2 t2 u2) (wI.mk x2 y2 b3) f3 i3 m4 n4 o4 k4 l4) p2[k]).e=0:=by simpa using e
    rw[qf e]at hgo;have hlm:=kpk hPI qqo hbr e;have hz:=k31 e;have hP2:=(k74 hPI qqo hbr e).mono (d:=5*(k+1)) qqo;have hlm:m4.length<=_:=hlm;have a1:=hP2.ll;have a2:=hP2.rl;have a3:=hP2.p;have a4:=pow12 (applyS (PS.mk (wP.mk k2 l2 m2 n2 o2 q2 s2 t2 u2) (wI.mk x2 y2 b3) f3 i3 m4 n4 o4 k4 l4) p2[k]).s.R.wD.toNat (by have:=hP2.d2;omega);have a5:p2[k].wO=(o4.length:Int)+1:=hz.1;have a6:(applyS (PS.mk (wP.mk k2 l2 m2 n2 o2 q2 s2 t2 u2) (wI.mk x2 y2 b3) f3 i3 m4 n4 o4 k4 l4) p2[k]).s.p.length=o4.length+1:=hz.2.1;refine⟨by trivial,by trivial,by trivial,by omega,by trivial,by trivial,by trivial,by omega,by trivial,?_,?_,by trivial,by trivial,by trivial,by trivial,by trivial,⟨k+1,rfl,by omega,⟨rfl,rfl,rfl,rfl,rfl,rfl,rfl,rfl,rfl,rfl,rfl,rfl,rfl,rfl,rfl⟩,⟨rfl,rfl,rfl,rfl,rfl,rfl,rfl,rfl,rfl,rfl⟩,⟨rfl,rfl,rfl,rfl⟩,?_,?_,?_,by omega,hP2,?_,hgo⟩,by(first|omega|(dsimp only;omega))⟩
    ·simp only[qj,qt];omega
    ·simp only[qj,qt];unfold maxLen;omega
    ·rw[qh,hy3];rfl
    ·intro t ht;rcases qak.1 ht with ht|ht
     ·have:=hyl t ht;exact⟨this.1,by omega⟩
     ·rw[qal.1 ht];exact⟨qck _,qcc _⟩
    ·intro j hj;by_cases hjk:j=k
     ·subst hjk;rw[hx,a5,hol]
     ·exact hhe j qqo
    ·rw[<-htr,qw];rfl
  ·have hk:k=p2.length:=by have:=qc hh;omega
   subst hk;rw[qbs]at hgo htr;have hgo:(⟨0,(PS.mk (wP.mk k2 l2 m2 n2 o2 q2 s2 t2 u2) (wI.mk x2 y2 b3) f3 i3 m4 n4 o4 k4 l4)⟩:PE)=auGo p2 (newS p1):=hgo;have htr:y3++[]=treS (newS p1)::trGo p2 (newS p1):=htr;rw[qcd]at htr;have hbl:=hPI.b.2.2;have ht:=(sup_PI hPI qqo).1;have hCl:(exmC p1 p2)=⟨y3,m4⟩:=by unfold exmC;rw[<-htr,<-hgo]
   have hG2:G=(wK.mk (u64.wrap (u64.wrap (p2.length:Int)*p1.wd)) (totA 0 f3).1 (chnGo ⟨y3,m4⟩ p1.wD p2 ex0).x.hd (chnGo ⟨y3,m4⟩ p1.wD p2 ex0).x.cr (chnGo ⟨y3,m4⟩ p1.wD p2 ex0).x.sp (chnGo ⟨y3,m4⟩ p1.wD p2 ex0).f.wAW (chnGo ⟨y3,m4⟩ p1.wD p2 ex0).f.wO (chnGo ⟨y3,m4⟩ p1.wD p2 ex0).f.Tx (chnGo ⟨y3,m4⟩ p1.wD p2 ex0).f.wBH (chnGo ⟨y3,m4⟩ p1.wD p2 ex0).f.wBJ (chnGo ⟨y3,m4⟩ p1.wD p2 ex0).f.wAw (chnGo ⟨y3,m4⟩ p1.wD p2 ex0).f.wBK (chnGo ⟨y3,m4⟩ p1.wD p2 ex0).f.wBI (chnGo ⟨y3,m4⟩ p1.wD p2 ex0).f.wAv,0):=by rw[<-hG];unfold exmS exmY;rw[qf hE,hCl,<-hgo];rfl
   have ht2:(totA 0 f3).2=0:=by have:totA 0 f3=(sumA f3,0):=ht;rw[this]
   have hll:=hPI.ll;have hp12:=pow12 l2.toNat (by have:=hPI.d2;have:l2<=12:=this;omega);have hll:m4.length<=2^l2.toNat:=hll;have hd1:1<=p1.wD:=hP.d1
   have hH:CHk p1.wD p2 y3 m4 ⟨[],[],[],0,0,0⟩:=by
    refine⟨⟨hyl,fun x hx=> ?_,?_⟩,hd1,h6,fun b hb=> ?_,hl.tl,fun b hb t ht=> ?_,h8,ex0_k⟩
    ·have:=hPI.l x hx;exact⟨this.1,by have:=this.2;omega⟩
    ·show m4.length<=4096;omega
    ·obtain⟨j,hj,rfl⟩:=qby hb;have:=hhe j hj;rw[ix_get _ _ hj]at this;rw[this,hy3];exact⟨by omega,by omega,by omega⟩
    ·have h1:=(hl.r b hb).t t ht;have h2:=((hl.r b hb).l t ht).p;exact⟨h1,by omega⟩
   refine⟨rfl,rfl,rfl,(by have:f3.length<=_:=hbl;omega),hPI.b.1,?_⟩;subst hG2;refine⟨fun e=> ?_,fun e=> ?_⟩
   ·exfalso;have e:((totA 0 f3).2 !=0)=true:=e;rw[ht2]at e;cases e
   ·exact⟨rfl,rfl,⟨hH,⟨rfl,rfl,rfl⟩,⟨rfl,rfl,rfl,rfl,rfl,rfl⟩,rfl,rfl,rfl⟩,(by repeat' first|apply qaa|exact rfl|exact ql)⟩
 ·refine .inr ⟨hE,fun e=> ?_,fun e=>(hE (by simpa using e)).elim⟩;have hG2:exmS p1 p2=(zeroR,rulesE p1):=qe hE;rw[hG2];exact(by repeat' first|apply qaa|exact rfl|exact ql)
noncomputable def kdt:Ct:= .b (gk 11 [.one (.ptr 0 0),.agg yG1,.one (.d (.sl (.st 3)))] yK (.tup [.agg yZ,.one (zqi)])) yO yP fun(p1:wP) (p2:List wU) (Aa:Bool) (Ab Ad:Int) (Ac:List wG) (w1k:Lb) (w1v:Li) (w2k:Lb) (w2v:List (Li)) (w3k:Lb) (w3v:Lo)=>((BLk p2/\(p2≠[]->p1.wD<=6)/\0<=p1.wd)/\Aa=false/\w1k=([]:Lb)/\w1v=([]:Li),audS false p1 p2,fun R=>(R.1,R.2,Aa,Ab,Ad,Ac,w1k,w1v,w2k,w2v,w3k,w3v,()))
theorem k60:kdt.O:=pbv Bs Tryz.func11 (.r 1 (.nd [] (.jn ⟨[3,2,1,0],yM,[21],[.one (.d (.bool))],[]⟩ [] .no [] .no) [] .no)) (k2k.c (kam.c (kcs.c c0))) (Q:=∀(p1:wP) (p2:List wU) (Aa:Bool) (Ab Ad:Int) (Ac:List wG) (w1k:Lb) (w1v:Li) (w2k:Lb) (w2v:List (Li)) (w3k:Lb) (w3v:Lo),((BLk p2/\(p2≠[]->p1.wD<=6)/\0<=p1.wd)/\Aa=false/\w1k=([]:Lb)/\w1v=([]:Li))->∀R,audS false p1 p2=R-> 
(((rulesE p1) !=0)=true->
0=R.1.wBR/\0=R.1.wBS/\0=R.1.wAE/\0=R.1.wAx/\0=R.1.wAU/\0=R.1.wT/\0=R.1.wAR/\0=R.1.wAq/\0=R.1.wAL/\([]:Li)=R.1.wAD/\0=R.1.wAH/\0=R.1.wAM/\([]:Li)=R.1.wAC/\0=R.1.wAI/\(rulesE p1)=R.2/\Aa=Aa/\Ab=Ab/\Ad=Ad/\Ac=Ac/\w1k=w1k/\w1v=w1v/\w2k=w2k/\w2v=w2v/\w3k=w3k/\w3v=w3v)/\
(((rulesE p1) !=0)=false->
∀J1:Bool->Bool->Int->Int->(List wG)->(Lb)->(Lo)->(Lb)->(List (Li))->(Lb)->(Li)->Prop,(∀(b1 f1:Bool) (i1 k1:Int) (l1:List wG) (m1:Lb) (n1:Lo) (o1:Lb) (q1:List (Li)) (s1:Lb) (t1:Li),
((b1=true->
0=R.1.wBR/\0=R.1.wBS/\0=R.1.wAE/\0=R.1.wAx/\0=R.1.wAU/\0=R.1.wT/\0=R.1.wAR/\0=R.1.wAq/\0=R.1.wAL/\([]:Li)=R.1.wAD/\0=R.1.wAH/\0=R.1.wAM/\([]:Li)=R.1.wAC/\0=R.1.wAI/\1=R.2/\f1=Aa/\i1=Ab/\k1=Ad/\l1=Ac/\s1=w1k/\t1=w1v/\o1=w2k/\q1=w2v/\m1=w3k/\n1=w3v)/\
(b1=false->
((BLk p2/\(p2≠[]->p1.wD<=6)/\0<=p1.wd)/\f1=false/\s1=([]:Lb)/\t1=([]:Li))/\((exmS p1 p2).1).wBR=R.1.wBR/\((exmS p1 p2).1).wBS=R.1.wBS/\((exmS p1 p2).1).wAE=R.1.wAE/\((exmS p1 p2).1).wAx=R.1.wAx/\((exmS p1 p2).1).wAU=R.1.wAU/\((exmS p1 p2).1).wT=R.1.wT/\((exmS p1 p2).1).wAR=R.1.wAR/\((exmS p1 p2).1).wAq=R.1.wAq/\((exmS p1 p2).1).wAL=R.1.wAL/\((exmS p1 p2).1).wAD=R.1.wAD/\((exmS p1 p2).1).wAH=R.1.wAH/\((exmS p1 p2).1).wAM=R.1.wAM/\((exmS p1 p2).1).wAC=R.1.wAC/\((exmS p1 p2).1).wAI=R.1.wAI/\((exmS p1 p2).2)=R.2/\f1=Aa/\i1=Ab/\k1=Ad/\l1=Ac/\s1=w1k/\t1=w1v/\o1=w2k/\q1=w2v/\m1=w3k/\n1=w3v))->J1 b1 f1 i1 k1 l1 m1 n1 o1 q1 s1 t1)->
((p1.wAk !=2)=true->
J1 true Aa Ab Ad Ac w3k w3v w2k w2v w1k w1v)/\
((p1.wAk !=2)=false->
J1 Aa Aa Ab Ad Ac w3k w3v w2k w2v w1k w1v)))<|by
 rintro p1 p2 Aa Ab Ad Ac w1k w1v w2k w2v w3k w3v h R hR;obtain⟨hB,rfl,rfl,rfl⟩:=h;have hG:=hR;unfold audS at hG;refine⟨fun e=> ?_,fun e=> ?_⟩
 ·rw[qf (by simpa using e)]at hG;subst hG;exact(by repeat' first|apply qaa|exact rfl|exact ql)
 ·have e:rulesE p1=0:=by simpa using e
  rw[qe (by simp[e])]at hG;intro J1 k1
  have j:∀b:Bool,(b=true↔(p1.wAk≠2∨false=true))->J1 b false Ab Ad Ac w3k w3v w2k w2v [] []:=fun b hb2=>k1 _ _ _ _ _ _ _ _ _ _ _ ⟨fun eb=>by
    rw[qf (hb2.1 eb)]at hG;subst hG;exact(by repeat' first|apply qaa|exact rfl|exact ql),fun eb=>by
    have hn:¬(p1.wAk≠2∨false=true):=fun hh=>by rw[hb2.2 hh]at eb;cases eb
    rw[qe hn]at hG;subst hG;exact⟨⟨hB,rfl,rfl,rfl⟩,(by repeat' first|apply qaa|exact rfl|exact ql)⟩⟩
  exact⟨fun em=>j true ⟨fun _=> .inl (by simpa using em),fun _=>rfl⟩,fun em=>j false ⟨fun hh=>(by cases hh),fun hh=>hh.elim (fun h2=>(h2 (by simpa using em)).elim) id⟩⟩
noncomputable def ka5:Ct:= .gp 19 [yqu,yqu] [yqi] [] fun(p0 p1:Int)=>(U64 p0,(adF p0 p1 4:Int),())
theorem kd4:ka5.O:=qrv Bs Tryz.func19 (.r 0 (.nd [] (.r 0 (.lp [] ⟨[],[],[6],[.one (zqi)],[]⟩ .no)) [] .no)) (k80.c c0) (Q:=∀(p0 p1:Int),(U64 p0)->∀r0:Int,adF p0 p1 4=r0-> 
∃(I1:Int->Prop) (M1:Int->Nat),I1 0/\∀b1,(I1 b1->
(decide (b1<4)=true->
(U64 p0/\-9223372036854775808<=b1/\b1<=9223372036854775807)/\(((ownerS p0 b1)==p1)=true->
b1=r0)/\
(((ownerS p0 b1)==p1)=false->
I1 (i64.wrap (b1+1))/\M1 (i64.wrap (b1+1))<M1 b1))/\
(decide (b1<4)=false->
4=r0)))<|by
 rintro p0 p1 h _ rfl;refine⟨(fun a=>∃i:Nat,a=(i:Int)/\i<=4/\adF p0 p1 (4-i)=adF p0 p1 4),(fun a=>(4-a).toNat),⟨0,rfl,by omega,rfl⟩,?_⟩;rintro _ ⟨i,rfl,hi,hg⟩;refine⟨fun e=> ?_,fun e=> ?_⟩
 ·have e:i<4:=by have:=qb e;omega
  obtain⟨n,hn⟩:∃n,4-i=n+1:=⟨3-i,by omega⟩;have e3:3-(n:Int)=(i:Int):=by omega
  rw[hn,adF,e3]at hg;rw[inc_i64 _ qqo];refine⟨⟨h,by omega,by omega⟩,fun e2=> ?_,fun e2=> ?_⟩
  ·rw[qf (by simpa using e2)]at hg;exact hg
  ·rw[qe (by simpa using e2)]at hg;exact⟨⟨i+1,rfl,by omega,by rw[show 4-(i+1)=n by omega];exact hg⟩,by(dsimp only;omega)⟩
 ·have e:i=4:=by have:=qc e;omega
  subst e;exact hg
noncomputable def kff:Ct:= .gp 16 [yqu] [yqu] [] fun(p0:Int)=>(U64 p0,(hashS 8 [p0]:Int),())
theorem kiy:kff.O:=qrv Bs Tryz.func16 .no (k4h.c c0) (Q:=∀(p0:Int),(U64 p0)->∀r0:Int,(hashS 8 [p0])=r0-> 
(U64 (8:Int)/\Us [p0]/\[p0].length<=1099511627776)/\(hashS (8:Int) [p0])=r0)<|by rintro p0 h _ rfl;exact⟨⟨by decide,(by intro x hx;rw[qal]at hx;subst hx;exact h),by simp⟩,rfl⟩
noncomputable def kfv:Ct:= .b (gk 6 [.one (.ptr 0 0),.agg yG1,.one (zqu),.one (.d (.sl (.st 3)))] yK (.tup [.one (.d (.sl (.st 20))),.one (zqi)])) [.st 0,yqu,.sl (.st 3),.bool,yqu,yqi,.sl (.st 4),.sl (.str),.sl yqi,.sl (.str),.sl (.sl yqu),.sl (.str),.sl (.bool)] [.sl (.st 20),yqi,.bool,yqu,yqi,.sl (.st 4),.sl (.str),.sl yqi,.sl (.str),.sl (.sl yqu),.sl (.str),.sl (.bool)] fun(p1:wP) (p2:Int) (p3:List wU) (Aa:Bool) (Ab Ad:Int) (Ac:List wG) (w1k:Lb) (w1v:Li) (w2k:Lb) (w2v:List (Li)) (w3k:Lb) (w3v:Lo)=>((BLk p3/\p1.wD<=6/\0<=p1.wd)/\U64 p2/\Aa=false/\w1k=([]:Lb)/\w1v=([]:Li),(),fun _=>(((aPd p1 p2 p3).1:List wc),((aPd p1 p2 p3).2:Int),Aa,Ab,Ad,Ac,w1k,w1v,w2k,w2v,w3k,w3v,()))
abbrev Fz9 (r:Type):=Int->Int->Bool->Int->Int->(List wG)->(Li)->(Lb)->(Lo)->(Lb)->(List (Li))->(Lb)->(Li)->(List wc)->r
theorem kj3:kfv.O:=pbx Bs [117,118] Tryz.func6 (.r 7 (.nd [] (.r 0 (.lp [.rnil 13 (.st 20),.tok 14 yqu] ⟨[7,3,2,1,0],yI,[13,14,15,47],[.one (.row 5),.one (.own 0),.one (zqi),.one (zqi)],[6]⟩ (.r 1 (.nd [] (.r 1 (.lp [] ⟨[7,3,2,1,0],yI,[13,14,15,54],[.one (.row 5),.one (.own 0),.one (zqi),.one (zqi)],[8]⟩ (.r 1 (.nd [] (.r 0 (.nd [] (.r 0 (.lp [] ⟨[10],[.vec (.st 20)],[60],[.one (zqi)],[]⟩ .no)) [] (.r 1 (.lp [] ⟨[7,3,2,1,0],yI,[13,14,15,92],[.one (.row 5),.one (.own 0),.one (zqi),.one (zqi)],[10]⟩ .no)))) [] .no)))) [] .no)))) [] (.r 0 (.rt [.frz 8 [8]])))) x0 (k60.c (kiy.c (k3o.c (k4e.c (kd4.c (k6b.c c0)))))) (Q:=∀(p1:wP) (p2:Int) (p3:List wU) (Aa:Bool) (Ab Ad:Int) (Ac:List wG) (w1k:Lb) (w1v:Li) (w2k:Lb) (w2v:List (Li)) (w3k:Lb) (w3v:Lo),((BLk p3/\p1.wD<=6/\0<=p1.wd)/\U64 p2/\Aa=false/\w1k=([]:Lb)/\w1v=([]:Li))->∀R:Unit,()=R-> 
((BLk p3/\(p3≠[]->p1.wD<=6)/\0<=p1.wd)/\Aa=false/\w1k=([]:Lb)/\w1v=([]:Li))/\((((audS false p1 p3).2) !=0)=true->
([]:List wc)=((aPd p1 p2 p3).1:List wc)/\((audS false p1 p3).2)=((aPd p1 p2 p3).2:Int)/\Aa=Aa/\Ab=Ab/\Ad=Ad/\Ac=Ac/\w1k=w1k/\w1v=w1v/\w2k=w2k/\w2v=w2v/\w3k=w3k/\w3v=w3v)/\
((((audS false p1 p3).2) !=0)=false->
let v2:Bool:=((((audS false p1 p3).1).wT)==1)
(v2=true->
([]:List wc)=((aPd p1 p2 p3).1:List wc)/\10=((aPd p1 p2 p3).2:Int)/\Aa=Aa/\Ab=Ab/\Ad=Ad/\Ac=Ac/\w1k=w1k/\w1v=w1v/\w2k=w2k/\w2v=w2v/\w3k=w3k/\w3v=w3v)/\
(v2=false->
(U64 p2)/\(([]:Li)=([]:Li))/\(0=([]:List wc).length)/\∃(I1:Fz9 Prop) (M1:Fz9 Nat),I1 0 0 Aa Ab Ad Ac ([]:Li) w3k w3v w2k w2v w1k w1v ([]:List wc)/\∀b1 f1 i1 k1 l1 m1 n1 o1 q1 s1 t1 u1 x1 y1,(I1 b1 f1 i1 k1 l1 m1 n1 o1 q1 s1 t1 u1 x1 y1->
(decide (f1<(p3.length:Int))=true->
(0<=f1)/\f1<(p3.length:Int)/\(n1=n1)/\lz y1/\∃(I2:Fz9 Prop) (M2:Fz9 Nat),I2 b1 0 i1 k1 l1 m1 n1 o1 q1 s1 t1 u1 x1 y1/\∀b2 f2 i2 k2 l2 m2 n2 o2 q2 s2 t2 u2 x2 y2,(I2 b2 f2 i2 k2 l2 m2 n2 o2 q2 s2 t2 u2 x2 y2->
let v3:Bool:=decide (f2<(((ix p3 f1).Txs).length:Int))
(v3=true->
(0<=f2)/\f2<(((ix p3 f1).Txs).length:Int)/\∃(I3:Int->(List wc)->Prop) (M3:Int->(List wc)->Nat),I3 0 y2/\∀b3 f3,(I3 b3 f3->
(decide (b3<(n2.length:Int))=true->
(0<=b3)/\b3<(n2.length:Int)/\(0<=b3/\b3<(y2.length:Int))/\(0<=b3/\b3<(f3.length:Int))/\((((ix f3 b3).wAU)==0)=true->
(((ix ((ix p3 f1).Txs) f2).wE).length<=9223372036854775807)/\let r4:Bool:=(decide ((ix n2 b3)∈((ix ((ix p3 f1).Txs) f2).wE)))
(r4=true->
(0<=b3/\b3<(y2.length:Int))/\(0<=b3/\b3<(f3.length:Int))/\I3 (i64.wrap (b3+1)) (f3.set b3.toNat (wc.mk ((ix f3 b3).wR) ((ix f3 b3).we) ((ix f3 b3).wY) ((ix f3 b3).wz) ((ix f3 b3).wAP) ((ix f3 b3).wC) ((ix f3 b3).wO) ((ix p3 f1).wO)))/\M3 (i64.wrap (b3+1)) (f3.set b3.toNat (wc.mk ((ix f3 b3).wR) ((ix f3 b3).we) ((ix f3 b3).wY) ((ix f3 b3).wz) ((ix f3 b3).wAP) ((ix f3 b3).wC) ((ix f3 b3).wO) ((ix p3 f1).wO)))<M3 b3 f3)/\
(r4=false->
I3 (i64.wrap (b3+1)) f3/\M3 (i64.wrap (b3+1)) f3<M3 b3 f3))/\
((((ix f3 b3).wAU)==0)=false->
I3 (i64.wrap (b3+1)) f3/\M3 (i64.wrap (b3+1)) f3<M3 b3 f3))/\
(decide (b3<(n2.length:Int))=false->
(By (ix ((ix p3 f1).Txs) f2).wh/\(ix ((ix p3 f1).Txs) f2).wh.length<=137438953472)/\let r5:=(decW (ix ((ix p3 f1).Txs) f2).wh).1
let r6:Bool:=((decW (ix ((ix p3 f1).Txs) f2).wh).2==0)
(n2=n2)/\(y2.length=f3.length)/\∃(I4:Fz9 Prop) (M4:Fz9 Nat),I4 b2 0 i2 k2 l2 m2 n2 o2 q2 s2 t2 u2 x2 f3/\∀i3 k3 l3 m3 n3 o3 q3 s3 t3 u3 x3 y3 b4 f4,(I4 i3 k3 l3 m3 n3 o3 q3 s3 t3 u3 x3 y3 b4 f4->
(decide (k3<(r5.wA.length:Int))=true->
(0<=k3)/\k3<(r5.wA.length:Int)/\(U64 (hashS 8 [p2]))/\let r7:Int:=(adF (hashS 8 [p2]) ((ix r5.wA k3).wAg) 4)
(decide (r7<4)=true->
(U64 (hashS 8 [p2])/\U64 ((ix r5.wA k3).Rho)/\OrOk y3 b4 o3)/\let r8:Int:=((markP (pk l3 o3 y3 b4) (hashS 8 [p2]) ((ix r5.wA k3).Rho)).getD 0)
let r9:Bool:=((markP (pk l3 o3 y3 b4) (hashS 8 [p2]) ((ix r5.wA k3).Rho)).isSome)
let v10:List wc:=[wc.mk ((ix r5.wA k3).Value) ((ix r5.wA k3).wAg) ((ix r5.wA k3).Rho) ((ix r5.wA k3).wBL) r7 i3 ((ix p3 f1).wO) 0]
lz f4/\lz v10/\(f4.length+v10.length)*64<=140737488355328/\f4.length+v10.length<=maxLen/\lz q3/\(q3.length+[r8].length)*8<=140737488355328/\q3.length+[r8].length<=maxLen/\(q3++[r8]=q3++[r8])/\lz (f4++v10)/\I4 (i64.wrap (i3+1)) (i64.wrap (k3+1)) l3 m3 n3 o3 (q3++[r8]) s3 t3 u3 x3 y3 b4 (f4++v10)/\M4 (i64.wrap (i3+1)) (i64.wrap (k3+1)) l3 m3 n3 o3 (q3++[r8]) s3 t3 u3 x3 y3 b4 (f4++v10)<M4 i3 k3 l3 m3 n3 o3 q3 s3 t3 u3 x3 y3 b4 f4)/\
(decide (r7<4)=false->
(q3=q3)/\lz f4/\I4 (i64.wrap (i3+1)) (i64.wrap (k3+1)) l3 m3 n3 o3 q3 s3 t3 u3 x3 y3 b4 f4/\M4 (i64.wrap (i3+1)) (i64.wrap (k3+1)) l3 m3 n3 o3 q3 s3 t3 u3 x3 y3 b4 f4<M4 i3 k3 l3 m3 n3 o3 q3 s3 t3 u3 x3 y3 b4 f4))/\
(decide (k3<(r5.wA.length:Int))=false->
(q3=q3)/\lz f4/\I2 i3 (i64.wrap (f2+1)) l3 m3 n3 o3 q3 s3 t3 u3 x3 y3 b4 f4/\M2 i3 (i64.wrap (f2+1)) l3 m3 n3 o3 q3 s3 t3 u3 x3 y3 b4 f4<M2 b2 f2 i2 k2 l2 m2 n2 o2 q2 s2 t2 u2 x2 y2)))))/\
(v3=false->
(n2=n2)/\lz y2/\I1 b2 (i64.wrap (f1+1)) i2 k2 l2 m2 n2 o2 q2 s2 t2 u2 x2 y2/\M1 b2 (i64.wrap (f1+1)) i2 k2 l2 m2 n2 o2 q2 s2 t2 u2 x2 y2<M1 b1 f1 i1 k1 l1 m1 n1 o1 q1 s1 t1 u1 x1 y1)))/\
(decide (f1<(p3.length:Int))=false->
lz y1/\y1=((aPd p1 p2 p3).1:List wc)/\0=((aPd p1 p2 p3).2:Int)/\i1=Aa/\k1=Ab/\l1=Ad/\m1=Ac/\u1=w1k/\x1=w1v/\s1=w2k/\t1=w2v/\o1=w3k/\q1=w3v)))))<|by
 rintro p1 p2 p3 Aa Ab Ad Ac w1k w1v w2k w2v w3k w3v h R hR;obtain⟨⟨hl,h6,h0⟩,hs,rfl,rfl,rfl⟩:=h;have hln:=hl.len;generalize hV:aPd p1 p2 p3=V;unfold aPd at hV;refine⟨⟨⟨hl,fun _=>h6,h0⟩,rfl,rfl,rfl⟩,fun e=> ?_,fun e=> ?_⟩
 ·have e:(audS false p1 p3).2≠0:=by simpa using e
  rw[qf e]at hV;subst hV;exact(by repeat' first|apply qaa|exact rfl|exact ql)
 have e:(audS false p1 p3).2=0:=by simpa using e
 rw[qe (fun hh=>hh e)]at hV;refine⟨fun e2=> ?_,fun e2=> ?_⟩
 ·have e2:(audS false p1 p3).1.wT=1:=by simpa using e2
  rw[qf e2]at hV;subst hV;exact(by repeat' first|apply qaa|exact rfl|exact ql)
 have e2:¬(audS false p1 p3).1.wT=1:=by simpa using e2
 rw[qe e2]at hV;have hK:=kh 8 [p2];unfold paidS at hV;generalize hashS 8 [p2]=K at *
 generalize hG:pdL K p3 ⟨[],0⟩=G at hV;subst hV;refine⟨hs,by trivial,rfl,(fun a i y1 y2 y3 y4 ms y5 y6 y7 y8 y9 y10 o=>(false=y1/\Ab=y2/\Ad=y3/\Ac=y4/\w3k=y5/\w3v=y6/\w2k=y7/\w2v=y8/\([]:Lb)=y9/\([]:Li)=y10)/\ms=mkL K o/\∃j:Nat,i=(j:Int)/\j<=p3.length/\PDk ⟨o,a⟩ (16*j)/\pdL K (p3.drop j) ⟨o,a⟩=G),(fun _ i _ _ _ _ _ _ _ _ _ _ _ _=>(p3.length-i).toNat),⟨⟨rfl,rfl,rfl,rfl,rfl,rfl,rfl,rfl,rfl,rfl⟩,rfl,0,rfl,by omega,PDk.start,hG⟩,?_⟩;rintro a _ _ _ _ _ ms _ _ _ _ _ _ o ⟨⟨rfl,rfl,rfl,rfl,rfl,rfl,rfl,rfl,rfl,rfl⟩,rfl,j,rfl,hj,hk,hg⟩;refine⟨fun e=> ?_,fun e=> ?_⟩
 ·have e:j<p3.length:=by have:=qb e;omega
  have hb:=qah e;have hb1:=hl.r _ hb;have h4:=hl.tl _ hb;rw[qo e]at hg;have hg:pdL K (p3.drop (j+1)) (pdX K p3[j].wO p3[j].Txs ⟨o,a⟩)=G:=hg;rw[ix_get _ _ e,inc_i64 j qqo];have ht0:∀t∈p3[j].Txs,TR t/\TL t:=fun t h=>⟨hb1.t t h,hb1.l t h⟩;generalize p3[j].wO=H at *
  generalize p3[j].Txs=txs at *
  generalize hG2:pdX K H txs ⟨o,a⟩=G2 at hg;refine⟨by omega,by omega,by trivial,by trivial,(fun a' i y1 y2 y3 y4 ms y5 y6 y7 y8 y9 y10 o' =>(false=y1/\Ab=y2/\Ad=y3/\Ac=y4/\w3k=y5/\w3v=y6/\w2k=y7/\w2v=y8/\([]:Lb)=y9/\([]:Li)=y10)/\ms=mkL K o'/\∃m:Nat,i=(m:Int)/\m<=txs.length/\PDk ⟨o',a'⟩ (16*j+4*m)/\pdX K H (txs.drop m) ⟨o',a'⟩=G2),(fun _ i _ _ _ _ _ _ _ _ _ _ _ _=>(txs.length-i).toNat),⟨⟨rfl,rfl,rfl,rfl,rfl,rfl,rfl,rfl,rfl,rfl⟩,rfl,0,rfl,by omega,hk,hG2⟩,?_⟩;rintro a' _ _ _ _ _ ms _ _ _ _ _ _ o' ⟨⟨rfl,rfl,rfl,rfl,rfl,rfl,rfl,rfl,rfl,rfl⟩,rfl,m,rfl,hm,hk',hg'⟩;refine⟨fun e2=> ?_,fun e2=> ?_⟩
  ·have e2:m<txs.length:=by have:=qb e2;omega
   rw[qo e2]at hg';have hg' :pdX K H (txs.drop (m+1)) (pdT K H txs[m] ⟨o',a'⟩)=G2:=hg';have ht:=ht0 _ (qah e2);obtain⟨n1,n2⟩:=decW_NR txs[m].wh;have hpc:=hk'.pc;have hpc:a'<=((16*j+4*m:Nat):Int):=hpc;have hp0:=hk'.p0;have hp0:0<=a' :=hp0;have hol:=hk'.ol;have hol:(o'.length:Int)<=a' :=hol;have hsp:=hk'.spend K H txs[m].wE;rw[ix_get _ _ e2,inc_i64 m qqo];have hpt:pdT K H txs[m] ⟨o',a'⟩=⟨pdO K H (decW txs[m].wh).1.wA a' (o'.map (spO K H txs[m].wE)),a' +((decW txs[m].wh).1.wA.length:Int)⟩:=rfl;rw[hpt]at hg';refine⟨by omega,by omega,(fun q s=>∃i:Nat,q=(i:Int)/\i<=o'.length/\s=spL K H txs[m].wE o' i),(fun q _=>(o'.length-q).toNat),⟨0,rfl,qaq _,rfl⟩,?_⟩;rintro _ _ ⟨i,rfl,hi,rfl⟩;have hx2:=spL_len (key:=K) (h:=H) (ms:=txs[m].wE) (o:=o') (j:=i);rw[mkL_len];refine⟨fun e3=> ?_,fun e3=> ?_⟩
   ·have e3:i<o'.length:=by have:=qb e3;omega
    have hmi:ix (mkL K o') (i:Int)=markV K o'[i].wY:=by rw[ix_get _ _ (by rw[mkL_len];exact e3)];simp[mkL]
    rw[spL_ix e3,inc_i64 i qqo,hmi];have no:spO K H txs[m].wE o'[i]=o'[i]->∃k:Nat,((i+1:Nat):Int)=(k:Int)/\k<=o'.length/\spL K H txs[m].wE o' i=spL K H txs[m].wE o' k:=fun hh=>⟨i+1,rfl,e3,(kkk e3 hh).symm⟩;have hml:=ht.2.m;refine⟨by omega,by omega,⟨by omega,by omega⟩,⟨by omega,by omega⟩,fun e4=>⟨by omega,fun e5=> ?_,fun e5=> ?_⟩,fun e4=> ?_⟩
    ·have e4:o'[i].wAU=0:=by simpa using e4
     have e5:markV K o'[i].wY∈txs[m].wE:=qb e5;refine⟨⟨by omega,by omega⟩,⟨by omega,by omega⟩,⟨i+1,rfl,e3,?_⟩,by(dsimp only;omega)⟩;rw[kd2 e3,qx];unfold spO;rw[qf ⟨e4,e5⟩]
    ·have e5:¬markV K o'[i].wY∈txs[m].wE:=qc e5;exact⟨no (qe fun hh=>e5 hh.2),by(dsimp only;omega)⟩
    ·have e4:¬o'[i].wAU=0:=by simpa using e4
     exact⟨no (qe fun hh=>e4 hh.1),by(dsimp only;omega)⟩
   ·have e3:i=o'.length:=by have:=qc e3;omega
    rw[e3,spL_all];refine⟨⟨ht.1.p,by have:=ht.2.p;omega⟩,?_⟩;dsimp only;generalize (decW txs[m].wh).1.wA=outs at *
    generalize txs[m].wE=mk at *
    refine⟨by trivial,by rw[qm],(fun p i y1 y2 y3 y4 ms y5 y6 y7 y8 y9 y10 y=>(false=y1/\Ab=y2/\Ad=y3/\Ac=y4/\w3k=y5/\w3v=y6/\w2k=y7/\w2v=y8/\([]:Lb)=y9/\([]:Li)=y10)/\ms=mkL K y/\∃k:Nat,i=(k:Int)/\k<=outs.length/\p=a' +(k:Int)/\PDk ⟨y,p⟩ (16*j+4*m+k)/\pdO K H (outs.drop k) p y=pdO K H outs a' (o'.map (spO K H mk))),(fun _ i _ _ _ _ _ _ _ _ _ _ _ _=>(outs.length-i).toNat),⟨⟨rfl,rfl,rfl,rfl,rfl,rfl,rfl,rfl,rfl,rfl⟩,(mkL_sp K H mk o').symm,0,rfl,qaq _,by simp,hsp,rfl⟩,?_⟩;rintro p _ _ _ _ _ ms _ _ _ _ _ _ y ⟨⟨rfl,rfl,rfl,rfl,rfl,rfl,rfl,rfl,rfl,rfl⟩,rfl,k,rfl,hk2,hp,hky,hgy⟩;refine⟨fun e5=> ?_,fun e5=> ?_⟩
    ·have e5:k<outs.length:=by have:=qb e5;omega
     rw[qo e5,kk2]at hgy;have hnr:=n1 _ (qah e5);have hyl:=hky.ol;have hyl:(y.length:Int)<=p:=hyl;have hnx:=apS_ok (key:=K) (h:=H) hnr hky;rw[ix_get _ _ e5,inc_i64 k qqo,show i64.wrap (p+1)=p+1 from wi _ qqo qqo];generalize outs[k]=z at *
     refine⟨by omega,by omega,hK,fun e6=> ?_,fun e6=> ?_⟩
     ·have e6:adF K z.wAg 4<4:=qb e6;have ha:apS K H z p y 4=y++[mkO z (adF K z.wAg 4) p H]:=qf e6;rw[ha]at hnx hgy;rw[pk_emp];refine⟨⟨hK,hnr.r,kbt _⟩,rfl,rfl,?_,?_,?_,?_,?_,?_,by trivial,⟨⟨rfl,rfl,rfl,rfl,rfl,rfl,rfl,rfl,rfl,rfl⟩,?_,k+1,rfl,e5,by rw[hp];push_cast;omega,hnx,hgy⟩,by(dsimp only;omega)⟩
      ·simp only[qj,qt];omega
      ·simp only[qj,qt,maxLen];omega
      ·rfl
      ·simp only[qj,qt,mkL_len];omega
      ·simp only[qj,qt,mkL_len,maxLen];omega
      ·trivial
      ·unfold mkL;rw[qbg];rfl
     ·have e6:¬adF K z.wAg 4<4:=qc e6;have ha:apS K H z p y 4=y:=qe e6;rw[ha]at hnx hgy;exact⟨by trivial,by trivial,⟨⟨rfl,rfl,rfl,rfl,rfl,rfl,rfl,rfl,rfl,rfl⟩,rfl,k+1,rfl,e5,by rw[hp];push_cast;omega,hnx,hgy⟩,by(dsimp only;omega)⟩
    ·have e5:k=outs.length:=by have:=qc e5;omega
     rw[e5,qbs]at hgy;have hgy:y=pdO K H outs a' (o'.map (spO K H mk)):=hgy;rw[<-hgy]at hg';refine⟨by trivial,by trivial,⟨⟨rfl,rfl,rfl,rfl,rfl,rfl,rfl,rfl,rfl,rfl⟩,rfl,m+1,rfl,e2,hky.mono qqo,?_⟩,by omega⟩;rw[hp,e5];exact hg'
  ·have e2:m=txs.length:=by have:=qc e2;omega
   rw[e2,qbs]at hg';have hg' :(⟨o',a'⟩:PD)=G2:=hg';rw[<-hg']at hg;exact⟨by trivial,by trivial,⟨⟨rfl,rfl,rfl,rfl,rfl,rfl,rfl,rfl,rfl,rfl⟩,rfl,j+1,rfl,e,hk'.mono qqo,hg⟩,by(dsimp only;omega)⟩
 ·have e:j=p3.length:=by have:=qc e;omega
  rw[e,qbs]at hg;rw[<-hg];exact(by repeat' first|apply qaa|exact rfl|exact ql)
noncomputable def kiu:Ct:= .tp 33 [.st 18] [.st 18] [] fun(p0:wAX)=>(p0,())
theorem kn0:kiu.O:=qtv Bs Tryz.func33 .no c0 (Q:=∀(p0:wAX),∀r0:wAX,p0=r0-> 
p0.wAW=r0.wAW/\p0.wO=r0.wO/\p0.Tx=r0.Tx/\p0.wBH=r0.wBH/\p0.wBJ=r0.wBJ/\p0.wAw=r0.wAw/\p0.wBK=r0.wBK/\p0.wBI=r0.wBI/\p0.wAv=r0.wAv)<|by rintro p0 _ rfl;exact(by repeat' first|apply qaa|exact rfl|exact ql)
noncomputable def kgi:Ct:= .tp 14 [.st 19] [.st 19] [] fun(p0:wK)=>(p0,())
theorem kiv:kgi.O:=qtv Bs Tryz.func14 .no (kn0.c c0) (Q:=∀(p0:wK),∀r0:wK,p0=r0-> 
p0.wBR=r0.wBR/\p0.wBS=r0.wBS/\p0.wAE=r0.wAE/\p0.wAx=r0.wAx/\p0.wAU=r0.wAU/\p0.wT=r0.wT/\p0.wAR=r0.wAR/\p0.wAq=r0.wAq/\p0.wAL=r0.wAL/\p0.wAD=r0.wAD/\p0.wAH=r0.wAH/\p0.wAM=r0.wAM/\p0.wAC=r0.wAC/\p0.wAI=r0.wAI)<|by rintro p0 _ rfl;exact(by repeat' first|apply qaa|exact rfl|exact ql)
noncomputable def kip:Ct:= .tp 12 [] [.st 0] [] ((wP.mk 2 2 0 0 0 50 3 5 1:wP),())
theorem kjx:kip.O:=qtv Bs Tryz.func12 .no c0 (Q:=∀r0:wP,wP.mk 2 2 0 0 0 50 3 5 1=r0-> 
2=r0.wAk/\2=r0.wD/\0=r0.wAG/\0=r0.wAA/\0=r0.ww/\50=r0.wd/\3=r0.wAe/\5=r0.wAQ/\1=r0.wBA)<|by rintro _ rfl;exact(by repeat' first|apply qaa|exact rfl|exact ql)
noncomputable def k6u:Ct:= .t ⟨21,[],[],(.one (.one (.ptr 0 0))),yK,false⟩ [] yT [] (false,(0:Int),(0:Int),([]:List wG),([]:Lb),([]:Li),([]:Lb),([]:List (Li)),([]:Lb),([]:Lo),())
theorem k84:k6u.O:=ptv Bs Tryz.func21 .no c0 (Q:=∀Az:Bool,(false:Bool)=Az->∀A0:Int,(0:Int)=A0->∀A7:Int,(0:Int)=A7->∀d0_3:List wG,([]:List wG)=d0_3->∀e1k:Lb,([]:Lb)=e1k->∀e1v:Li,([]:Li)=e1v->∀e2k:Lb,([]:Lb)=e2k->∀e2v:List (Li),([]:List (Li))=e2v->∀e3k:Lb,([]:Lb)=e3k->∀e3v:Lo,([]:Lo)=e3v-> 
false=Az/\0=A0/\0=A7/\([]:List wG)=d0_3/\([]:Lb)=e1k/\([]:Li)=e1v/\([]:Lb)=e2k/\([]:List (Li))=e2v/\([]:Lb)=e3k/\([]:Lo)=e3v)<|by
 repeat rintro _ rfl
 exact⟨rfl,rfl,rfl,rfl,rfl,rfl,rfl,rfl,rfl,rfl⟩
noncomputable def kf4:Ct:= .t ⟨7,[],[],(.one (.one (.ptr 0 0))),yK,false⟩ [] yT [] (false,(0:Int),(0:Int),([]:List wG),([]:Lb),([]:Li),([]:Lb),([]:List (Li)),([]:Lb),([]:Lo),())
theorem k61:kf4.O:=ptv Bs Tryz.func7 .no (k84.c c0) (Q:=∀Az:Bool,(false:Bool)=Az->∀A0:Int,(0:Int)=A0->∀A7:Int,(0:Int)=A7->∀d0_3:List wG,([]:List wG)=d0_3->∀e1k:Lb,([]:Lb)=e1k->∀e1v:Li,([]:Li)=e1v->∀e2k:Lb,([]:Lb)=e2k->∀e2v:List (Li),([]:List (Li))=e2v->∀e3k:Lb,([]:Lb)=e3k->∀e3v:Lo,([]:Lo)=e3v-> 
false=Az/\0=A0/\0=A7/\[]=d0_3/\[]=e1k/\[]=e1v/\[]=e2k/\[]=e2v/\[]=e3k/\[]=e3v)<|by
 repeat rintro _ rfl
 exact⟨rfl,rfl,rfl,rfl,rfl,rfl,rfl,rfl,rfl,rfl⟩
noncomputable def kjz:Ct:= .gp 58 [.sl yqu,.sl yqu] [.bool] [] fun(p0 p1:Li)=>(p0.length<=9223372036854775807/\p1.length<=9223372036854775807,(decide (p0=p1):Bool),())
theorem kbd:kjz.O:=qrv Bs Tryz.func58 (.r 1 (.nd [] (.r 0 (.lp [] ⟨[],[],[5],[.one (zqi)],[]⟩ .no)) [] .no)) c0 (Q:=∀(p0 p1:Li),(p0.length<=9223372036854775807/\p1.length<=9223372036854775807)->∀r0:Bool,(decide (p0=p1))=r0-> 
(((p0.length:Int) !=(p1.length:Int))=true->
false=r0)/\
(((p0.length:Int) !=(p1.length:Int))=false->
∃(I1:Int->Prop) (M1:Int->Nat),I1 0/\∀b1,(I1 b1->
(decide (b1<(p0.length:Int))=true->
(0<=b1)/\b1<(p0.length:Int)/\(0<=b1)/\b1<(p1.length:Int)/\(((ix p0 b1) !=(ix p1 b1))=true->
false=r0)/\
(((ix p0 b1) !=(ix p1 b1))=false->
I1 (i64.wrap (b1+1))/\M1 (i64.wrap (b1+1))<M1 b1))/\
(decide (b1<(p0.length:Int))=false->
true=r0))))<|by
 rintro p0 p1 h _ rfl;obtain⟨h1,h2⟩:=h;have no:p0≠p1->false=decide (p0=p1):=fun h=>(qay h).symm;refine⟨fun e=>no ?_,fun e=> ?_⟩
 ·rintro rfl;simp at e
 have e:(p0.length:Int)=p1.length:=by simpa using e
 refine⟨(fun i=>0<=i/\i<=p0.length/\p0.take i.toNat=p1.take i.toNat),(fun i=>(p0.length-i).toNat),⟨by omega,by omega,by simp⟩,?_⟩;rintro i ⟨g0,g1,g2⟩;refine⟨fun hh=> ?_,fun hh=> ?_⟩
 ·have hh:=qb hh;refine⟨g0,hh,g0,by omega,fun e2=>no ?_,fun e2=> ?_⟩
  ·rintro rfl;simp at e2
  ·have e2:ix p0 i=ix p1 i:=by simpa using e2
   rw[inc i p0.length g0 hh qqo];refine⟨⟨by omega,by omega,?_⟩,by(first|omega|(dsimp only;omega))⟩;rw[ke p0 i g0 hh,ke p1 i g0 qqo,g2,e2]
 ·have hh:=qc hh;rw[qv qqo,qv qqo]at g2;exact(qas g2).symm
noncomputable def k6t:Ct:= .gp 32 [.st 4,.st 4] [.bool] [] fun(p0 p1:wG)=>(p0.wAp.length<=9223372036854775807/\p1.wAp.length<=9223372036854775807,(sameQ p0 p1:Bool),())
theorem k87:k6t.O:=qrv Bs Tryz.func32 .no (kbd.c c0) (Q:=∀(p0 p1:wG),(p0.wAp.length<=9223372036854775807/\p1.wAp.length<=9223372036854775807)->∀r0:Bool,sameQ p0 p1=r0-> 
((p0.wBF==p1.wBF)=true->
((p0.wAo==p1.wAo)=true->
(p0.wAp.length<=9223372036854775807/\p1.wAp.length<=9223372036854775807)/\(decide (p0.wAp=p1.wAp))=r0)/\
((p0.wAo==p1.wAo)=false->
false=r0))/\
((p0.wBF==p1.wBF)=false->
false=r0))<|by
 rintro p0 p1 h _ rfl;refine⟨fun e=>⟨fun e2=>⟨h,?_⟩,fun e2=> ?_⟩,fun e=> ?_⟩<;>unfold sameQ
 ·rw[e,e2];rfl
 ·rw[e,e2];rfl
 ·rw[e];rfl
noncomputable def kjm:Ct:= .gp 13 [.st 19,.st 19] [.bool] [] fun(p0 p1:wK)=>((p0.wAD.length<=9223372036854775807/\p1.wAD.length<=9223372036854775807)/\p0.wAC.length<=9223372036854775807/\p1.wAC.length<=9223372036854775807,(sameR p0 p1:Bool),())
theorem kob:kjm.O:=qrv Bs Tryz.func13 .no (k87.c c0) (Q:=∀(p0 p1:wK),((p0.wAD.length<=9223372036854775807/\p1.wAD.length<=9223372036854775807)/\p0.wAC.length<=9223372036854775807/\p1.wAC.length<=9223372036854775807)->∀r0:Bool,sameR p0 p1=r0-> 
((p0.wBR==p1.wBR)=true->
((p0.wBS==p1.wBS)=true->
((p0.wAE==p1.wAE)=true->
((p0.wAx==p1.wAx)=true->
((p0.wAU==p1.wAU)=true->
((p0.wT==p1.wT)=true->
((p0.wAR==p1.wAR)=true->
((p0.wAq==p1.wAq)=true->
((wG.mk p0.wAL p0.wAD p0.wAH).wAp.length<=9223372036854775807/\(wG.mk p1.wAL p1.wAD p1.wAH).wAp.length<=9223372036854775807)/\let r1:Bool:=(sameQ (wG.mk p0.wAL p0.wAD p0.wAH) (wG.mk p1.wAL p1.wAD p1.wAH))
(r1=true->
((wG.mk p0.wAM p0.wAC p0.wAI).wAp.length<=9223372036854775807/\(wG.mk p1.wAM p1.wAC p1.wAI).wAp.length<=9223372036854775807)/\let r2:Bool:=(sameQ (wG.mk p0.wAM p0.wAC p0.wAI) (wG.mk p1.wAM p1.wAC p1.wAI))
r2=r0)/\
(r1=false->
false=r0))/\
((p0.wAq==p1.wAq)=false->
false=r0))/\
((p0.wAR==p1.wAR)=false->
false=r0))/\
((p0.wT==p1.wT)=false->
false=r0))/\
((p0.wAU==p1.wAU)=false->
false=r0))/\
((p0.wAx==p1.wAx)=false->
false=r0))/\
((p0.wAE==p1.wAE)=false->
false=r0))/\
((p0.wBS==p1.wBS)=false->
false=r0))/\
((p0.wBR==p1.wBR)=false->
false=r0))<|by
 rintro p0 p1 h _ rfl;unfold sameR;refine⟨fun e1=>⟨fun e2=>⟨fun e3=>⟨fun e4=>⟨fun e5=>⟨fun e6=>⟨fun e7=>⟨fun e8=>⟨h.1,fun e9=>⟨h.2,?_⟩,fun e9=> ?_⟩,fun e8=> ?_⟩,fun e7=> ?_⟩,fun e6=> ?_⟩,fun e5=> ?_⟩,fun e4=> ?_⟩,fun e3=> ?_⟩,fun e2=> ?_⟩,fun e1=> ?_⟩
 ·rw[e1,e2,e3,e4,e5,e6,e7,e8,show sameQ (qA p0) (qA p1)=true from e9];rfl
 ·rw[e1,e2,e3,e4,e5,e6,e7,e8,show sameQ (qA p0) (qA p1)=false from e9];rfl
 ·rw[e1,e2,e3,e4,e5,e6,e7,e8];rfl
 ·rw[e1,e2,e3,e4,e5,e6,e7];rfl
 ·rw[e1,e2,e3,e4,e5,e6];rfl
 ·rw[e1,e2,e3,e4,e5];rfl
 ·rw[e1,e2,e3,e4];rfl
 ·rw[e1,e2,e3];rfl
 ·rw[e1,e2];rfl
 ·rw[e1];rfl
noncomputable def kih:Ct:= .tp 4 [] [.bool] [] (true,())
theorem klg:kih.O:=qtv Bs Tryz.func4 .no (k61.c (kjx.c (k60.c (kiv.c (kob.c c0))))) (Q:=∀r0:Bool,(true:Bool)=r0-> 
let v1:List wU:=[wU.mk 0 1 7 0 0 ([]:List wy),wU.mk 0 2 8 0 0 ([]:List wy)]
((BLk v1/\(v1≠[]->(wP.mk 2 2 0 0 0 50 3 5 1).wD<=6)/\0<=(wP.mk 2 2 0 0 0 50 3 5 1).wd)/\false=false/\[]=([]:Lb)/\[]=([]:Li))/\let r2:=(audS false (wP.mk 2 2 0 0 0 50 3 5 1) v1).1
let r3:Int:=((audS false (wP.mk 2 2 0 0 0 50 3 5 1) v1).2)
((BLk [wU.mk 0 2 0 0 0 ([]:List wy)]/\([wU.mk 0 2 0 0 0 ([]:List wy)]≠[]->(wP.mk 2 2 0 0 0 50 3 5 1).wD<=6)/\0<=(wP.mk 2 2 0 0 0 50 3 5 1).wd)/\false=false/\[]=([]:Lb)/\[]=([]:Li))/\let r4:=(audS false (wP.mk 2 2 0 0 0 50 3 5 1) [wU.mk 0 2 0 0 0 ([]:List wy)]).1
let r5:Int:=((audS false (wP.mk 2 2 0 0 0 50 3 5 1) [wU.mk 0 2 0 0 0 ([]:List wy)]).2)
((r3==0)=true->
((r2.wAD.length<=9223372036854775807/\(wK.mk 100 100 0 0 0 0 0 0 0 ([]:Li) 0 0 ([]:Li) 0).wAD.length<=9223372036854775807)/\r2.wAC.length<=9223372036854775807/\(wK.mk 100 100 0 0 0 0 0 0 0 ([]:Li) 0 0 ([]:Li) 0).wAC.length<=9223372036854775807)/\let r6:Bool:=(sameR r2 (wK.mk 100 100 0 0 0 0 0 0 0 ([]:Li) 0 0 ([]:Li) 0))
(r6=true->
(r5==18)=r0)/\
(r6=false->
false=r0))/\
((r3==0)=false->
false=r0))<|by
 rintro _ rfl;have hw:∀b:wU,b.Txs=[]->U64 b.wBP->BR' b:=fun b h1 h2=>⟨h2,fun t ht=>(by rw[h1]at ht;cases ht),fun t ht=>(by rw[h1]at ht;cases ht)⟩;have b2:BLk [wU.mk 0 1 7 0 0 [],wU.mk 0 2 8 0 0 []]:=⟨fun b hb=>(by simp at hb;rcases hb with rfl|rfl<;>exact hw _ rfl ⟨by decide,by decide⟩),fun b hb=>(by simp at hb;rcases hb with rfl|rfl<;>exact qaq _),by decide⟩;have b1:BLk [wU.mk 0 2 0 0 0 []]:=⟨fun b hb=>(by simp at hb;subst hb;exact hw _ rfl ⟨by decide,by decide⟩),fun b hb=>(by simp at hb;subst hb;exact qaq _),by decide⟩;have e1:audS false (wP.mk 2 2 0 0 0 50 3 5 1) [wU.mk 0 1 7 0 0 [],wU.mk 0 2 8 0 0 []]=(wK.mk 100 100 0 0 0 0 0 0 0 [] 0 0 [] 0,0):=by kernel_rfl
 have e2:(audS false (wP.mk 2 2 0 0 0 50 3 5 1) [wU.mk 0 2 0 0 0 []]).2=18:=by kernel_rfl
 refine⟨⟨⟨b2,fun _=>by decide,by decide⟩,rfl,rfl,rfl⟩,?_⟩;dsimp only;rw[e1,e2];refine⟨⟨⟨b1,fun _=>by decide,by decide⟩,by trivial,by trivial,by trivial⟩,fun _=>⟨⟨⟨by decide,by decide⟩,by decide,by decide⟩,?_⟩,fun h=>by cases h⟩;rw[kog];exact⟨fun _=>rfl,fun h=>by cases h⟩
noncomputable def kjk:Ct:= .gp 9 [.sl (.st 20),.sl (.st 20)] [.bool] [] fun(p0 p1:List wc)=>(p0=p1/\p0.length<=1000000,true,())
theorem ko4:kjk.O:=qrv Bs Tryz.func9 (.r 1 (.nd [] (.r 0 (.lp [] ⟨[],[],[5],[.one (zqi)],[]⟩ .no)) [] .no)) c0 (Q:=∀(p0 p1:List wc),(p0=p1/\p0.length<=1000000)->∀r0:Bool,(true:Bool)=r0-> 
(((p0.length:Int) !=(p1.length:Int))=true->
false=r0)/\
(((p0.length:Int) !=(p1.length:Int))=false->
∃(I1:Int->Prop) (M1:Int->Nat),I1 0/\∀b1,(I1 b1->
(decide (b1<(p0.length:Int))=true->
(0<=b1)/\b1<(p0.length:Int)/\(0<=b1)/\b1<(p1.length:Int)/\let v1:Bool:=(!(((ix p0 b1).wR==(ix p1 b1).wR)&&(((ix p0 b1).we==(ix p1 b1).we)&&(((ix p0 b1).wY==(ix p1 b1).wY)&&(((ix p0 b1).wz==(ix p1 b1).wz)&&(((ix p0 b1).wAP==(ix p1 b1).wAP)&&(((ix p0 b1).wC==(ix p1 b1).wC)&&(((ix p0 b1).wO==(ix p1 b1).wO)&&(((ix p0 b1).wAU==(ix p1 b1).wAU)&&true)))))))))
(v1=true->
false=r0)/\
(v1=false->
I1 (i64.wrap (b1+1))/\M1 (i64.wrap (b1+1))<M1 b1))/\
(decide (b1<(p0.length:Int))=false->
true=r0))))<|by
 rintro p0 p1 h _ rfl;obtain⟨rfl,hl⟩:=h;refine⟨fun e=>by simp at e,fun _=> ?_⟩;refine⟨(fun a=>0<=a/\a<=p0.length),(fun a=>(p0.length-a).toNat),⟨by omega,by omega⟩,?_⟩;rintro a ⟨g0,g1⟩;refine⟨fun e=> ?_,fun e=>rfl⟩;have e:=qb e;refine⟨g0,e,g0,e,fun e2=> ?_,fun e2=> ?_⟩
 ·simp at e2
 ·rw[inc a p0.length g0 e qqo];exact⟨⟨by omega,by omega⟩,by(dsimp only;omega)⟩
noncomputable def kfs:Ct:= .tp 39 [.st 5] [.bool] [] fun(p0:wAy)=>((prS p0:Bool),())
theorem kib:kfs.O:=qtv Bs Tryz.func39 (.r 1 (.nd [] (.r 0 (.lp [] ⟨[],[],[3,5],[.one (.d (.bool)),.one (zqi)],[]⟩ .no)) [] (.nd [] (.r 0 (.lp [] ⟨[],[],[4,6],[.one (.d (.bool)),.one (zqi)],[]⟩ .no)) [] .no))) c0 (Q:=∀(p0:wAy),∀r0:Bool,prS p0=r0-> 
∃(I1:Bool->Int->Prop) (M1:Bool->Int->Nat),I1 false 2/\∀b1 f1,(I1 b1 f1->
(decide (f1<=256)=true->
(b1=true->
I1 true (i64.wrap (2*f1))/\M1 true (i64.wrap (2*f1))<M1 b1 f1)/\
(b1=false->
I1 (p0.wBU==f1) (i64.wrap (2*f1))/\M1 (p0.wBU==f1) (i64.wrap (2*f1))<M1 b1 f1))/\
(decide (f1<=256)=false->
∃(I2:Bool->Int->Prop) (M2:Bool->Int->Nat),I2 false 1/\∀i1 k1,(I2 i1 k1->
(decide (k1<=8)=true->
(i1=true->
I2 true (i64.wrap (2*k1))/\M2 true (i64.wrap (2*k1))<M2 i1 k1)/\
(i1=false->
I2 (p0.wBM==k1) (i64.wrap (2*k1))/\M2 (p0.wBM==k1) (i64.wrap (2*k1))<M2 i1 k1))/\
(decide (k1<=8)=false->
(b1=true->
(i1=true->
(decide (1<=p0.wBT)=true->
decide (p0.wBT<=64)=r0)/\
(decide (1<=p0.wBT)=false->
false=r0))/\
(i1=false->
false=r0))/\
(b1=false->
false=r0))))))<|by
 rintro p0 _ rfl
 have hw:∀n k:Nat,k<=8->i64.wrap (2*(n*((2^k:Nat):Int)))=n*((2^(k+1):Nat):Int)∨2<n:=by
  intro n k hk;rcases qar 2 n with h|h
  ·exact .inr h
  ·have h1:2^k<=2^8:=qcy qqd hk;have h2:2^(k+1)=2*2^k:=by rw[Nat.pow_succ];omega
   rw[h2];generalize 2^k=q at *
   refine .inl ?_;have:n=0∨n=1∨n=2:=by omega
   rcases this with rfl|rfl|rfl
   ·rw[km _ qqo qqo];omega
   ·rw[km _ qqo qqo];omega
   ·rw[km _ qqo qqo];omega
 refine(⟨(fun s a=>∃k:Nat,k<=8/\a=2*((2^k:Nat):Int)/\s=pws k 2 p0.wBU),(fun _ a=>(1000-a).toNat),⟨0,by omega,rfl,rfl⟩,?_⟩);rintro _ _ ⟨k,hk,rfl,rfl⟩;have h1:=qbw k;have h2:2^(k+1)=2*2^k:=by rw[Nat.pow_succ];omega
 refine⟨fun e=> ?_,fun e=> ?_⟩
 ·have e:=qb e
  have hk7:k<=7:=by
   rcases qar k 8 with h|h
   ·omega
   ·have:k=8:=by omega
    subst this;exact absurd e qqd
  have hwk:i64.wrap (2*(2*((2^k:Nat):Int)))=2*((2^(k+1):Nat):Int):=(hw 2 k hk).resolve_right qqd;rw[hwk];refine⟨fun e2=>⟨⟨k+1,by omega,rfl,?_⟩,?_⟩,fun e2=>⟨⟨k+1,by omega,rfl,?_⟩,?_⟩⟩
  ·rw[k7h,e2];rfl
  ·rw[h2];generalize 2^k=q at *;(dsimp only;omega)
  ·rw[k7h,e2];rfl
  ·rw[h2];generalize 2^k=q at *;(dsimp only;omega)
 have e:=qc e
 have hk8:k=8:=by
  rcases qar k 8 with h|h
  ·have:2^k<=2^7:=qcy qqd qqo;omega
  ·omega
 subst hk8;refine⟨(fun s a=>∃k:Nat,k<=4/\a=1*((2^k:Nat):Int)/\s=pws k 1 p0.wBM),(fun _ a=>(1000-a).toNat),⟨0,by omega,rfl,rfl⟩,?_⟩;rintro _ _ ⟨k,hk,rfl,rfl⟩;have h1:=qbw k;have h2:2^(k+1)=2*2^k:=by rw[Nat.pow_succ];omega
 refine⟨fun e=> ?_,fun e=> ?_⟩
 ·have e:=qb e
  have hk7:k<=3:=by
   rcases qar k 4 with h|h
   ·omega
   ·have:k=4:=by omega
    subst this;exact absurd e qqd
  have hwk:i64.wrap (2*(1*((2^k:Nat):Int)))=1*((2^(k+1):Nat):Int):=(hw 1 k qqo).resolve_right qqd;rw[hwk];refine⟨fun e2=>⟨⟨k+1,by omega,rfl,?_⟩,?_⟩,fun e2=>⟨⟨k+1,by omega,rfl,?_⟩,?_⟩⟩
  ·rw[k7h,e2];rfl
  ·rw[h2];generalize 2^k=q at *;(dsimp only;omega)
  ·rw[k7h,e2];rfl
  ·rw[h2];generalize 2^k=q at *;(dsimp only;omega)
 have e:=qc e
 have hk4:k=4:=by
  rcases qar k 4 with h|h
  ·have:2^k<=2^3:=qcy qqd qqo;omega
  ·omega
 subst hk4;unfold prS;refine⟨fun e=>⟨fun e2=>⟨fun e3=> ?_,fun e3=> ?_⟩,fun e2=> ?_⟩,fun e=> ?_⟩
 ·rw[e,e2,e3];simp
 ·rw[e,e2,e3];simp
 ·rw[e,e2];simp
 ·rw[e];simp
noncomputable def kjf:Ct:= .tp 22 [.st 0] [yqi] [] fun(p0:wP)=>((rulesE p0:Int),())
theorem klc:kjf.O:=qtv Bs Tryz.func22 .no (kib.c c0) (Q:=∀(p0:wP),∀r0:Int,rulesE p0=r0-> 
(decide (p0.wAk<1)=true->
1=r0)/\
(decide (p0.wAk<1)=false->
(decide (3<p0.wAk)=true->
1=r0)/\
(decide (3<p0.wAk)=false->
(decide (p0.wD<1)=true->
1=r0)/\
(decide (p0.wD<1)=false->
(decide (12<p0.wD)=true->
1=r0)/\
(decide (12<p0.wD)=false->
(decide (p0.wAe<1)=true->
1=r0)/\
(decide (p0.wAe<1)=false->
(decide (100<p0.wAe)=true->
1=r0)/\
(decide (100<p0.wAe)=false->
(decide (p0.wAQ<1)=true->
1=r0)/\
(decide (p0.wAQ<1)=false->
(decide (1048576<p0.wAQ)=true->
1=r0)/\
(decide (1048576<p0.wAQ)=false->
(decide (4294967296<p0.wd)=true->
1=r0)/\
(decide (4294967296<p0.wd)=false->
(decide (p0.wBA<1)=true->
1=r0)/\
(decide (p0.wBA<1)=false->
(decide (65536<p0.wBA)=true->
1=r0)/\
(decide (65536<p0.wBA)=false->
((p0.wAk==1)=true->
let r1:Bool:=(prS (wAy.mk p0.wAG p0.wAA p0.ww))
((!r1)=true->
1=r0)/\
((!r1)=false->
0=r0))/\
((p0.wAk==1)=false->
0=r0)))))))))))))<|by
 rintro p0 _ rfl;have no:¬rulesB p0=true->1=rulesE p0:=fun h=>by unfold rulesE;rw[qe h]
 have nb:∀c:Prop,(rulesB p0=true->¬c)->c->1=rulesE p0:=fun c h hc=>no fun hb=>h hb hc;have ub:rulesB p0=true->(1<=p0.wAk/\p0.wAk<=3)/\(1<=p0.wD/\p0.wD<=12)/\(1<=p0.wAe/\p0.wAe<=100)/\(1<=p0.wAQ/\p0.wAQ<=1048576)/\p0.wd<=4294967296/\1<=p0.wBA/\p0.wBA<=65536:=by intro hb;simp only[rulesB,qg,qai]at hb;omega
 refine⟨fun e=>nb _ (fun hb h=>by have:=ub hb;omega) (qb e),fun e1=>⟨fun e=>nb _ (fun hb h=>by have:=ub hb;omega) (qb e),fun e2=>⟨fun e=>nb _ (fun hb h=>by have:=ub hb;omega) (qb e),fun e3=>⟨fun e=>nb _ (fun hb h=>by have:=ub hb;omega) (qb e),fun e4=>⟨fun e=>nb _ (fun hb h=>by have:=ub hb;omega) (qb e),fun e5=>⟨fun e=>nb _ (fun hb h=>by have:=ub hb;omega) (qb e),fun e6=>⟨fun e=>nb _ (fun hb h=>by have:=ub hb;omega) (qb e),fun e7=>⟨fun e=>nb _ (fun hb h=>by have:=ub hb;omega) (qb e),fun e8=>⟨fun e=>nb _ (fun hb h=>by have:=ub hb;omega) (qb e),fun e9=>⟨fun e=>nb _ (fun hb h=>by have:=ub hb;omega) (qb e),fun e10=>⟨fun e=>nb _ (fun hb h=>by have:=ub hb;omega) (qb e),fun e11=> ?_⟩⟩⟩⟩⟩⟩⟩⟩⟩⟩⟩;have e1:=qc e1;have e2:=qc e2;have e3:=qc e3;have e4:=qc e4;have e5:=qc e5;have e6:=qc e6;have e7:=qc e7;have e8:=qc e8;have e9:=qc e9;have e10:=qc e10;have e11:=qc e11;have hb:rulesB p0=true:=by simp only[rulesB,qg,qai];omega
 unfold rulesE;rw[qf hb];refine⟨fun e=>⟨fun e3=> ?_,fun e3=> ?_⟩,fun e=> ?_⟩
 ·have e:p0.wAk=1:=by simpa using e
  have e3:¬prS ⟨p0.wAG,p0.wAA,p0.ww⟩=true:=by simpa using e3
  rw[qf e,qe e3]
 ·have e:p0.wAk=1:=by simpa using e
  have e3:prS ⟨p0.wAG,p0.wAA,p0.ww⟩=true:=by simpa using e3
  rw[qf e,qf e3]
 ·have e:¬p0.wAk=1:=by simpa using e
  rw[qe e]
noncomputable def kn3:Ct:= .gp 124 [yqu] [.st 8] [] fun(p0:Int)=>(p0=18446744069414584321,(wAf.mk 7 32 7:wAf),())
theorem kel:kn3.O:=qrv Bs Tryz.func124 .no c0 (Q:=∀(p0:Int),(p0=18446744069414584321)->∀r0:wAf,wAf.mk 7 32 7=r0-> 
((p0==17)=true->
3=r0.a0/\4=r0.a1/\3=r0.a2)/\
((p0==17)=false->
((p0==97)=true->
5=r0.a0/\5=r0.a1/\5=r0.a2)/\
((p0==97)=false->
((p0==193)=true->
5=r0.a0/\6=r0.a1/\5=r0.a2)/\
((p0==193)=false->
((p0==257)=true->
3=r0.a0/\8=r0.a1/\3=r0.a2)/\
((p0==257)=false->
((p0==12289)=true->
11=r0.a0/\12=r0.a1/\5=r0.a2)/\
((p0==12289)=false->
((p0==65537)=true->
3=r0.a0/\16=r0.a1/\3=r0.a2)/\
((p0==65537)=false->
((p0==18446744069414584321)=true->
7=r0.a0/\32=r0.a1/\7=r0.a2)/\
((p0==18446744069414584321)=false->
0=r0.a0/\0=r0.a1/\0=r0.a2))))))))<|by rintro p0 h _ rfl;simp[h]
noncomputable def kj6:Ct:= .gp 82 [yqu] [.bool] [] fun(p0:Int)=>(p0=18446744069414584321,true,())
theorem k1j:kj6.O:=qrv Bs Tryz.func82 .no (kel.c c0) (Q:=∀(p0:Int),(p0=18446744069414584321)->∀r0:Bool,(true:Bool)=r0-> 
(p0=18446744069414584321)/\decide (0<(7:Int))=r0)<|by rintro p0 h _ rfl;exact⟨h,rfl⟩
noncomputable def kn4:Ct:= .gp 125 [yqu,yqu,yqu] [yqu] [] fun(p0 p1 p2:Int)=>(p0=18446744069414584321/\U64 p1/\U64 p2,((p1+p2)%18446744069414584321:Int),())
theorem k4b:kn4.O:=qrv Bs Tryz.func125 .no (k1j.c c0) (Q:=∀(p0 p1 p2:Int),(p0=18446744069414584321/\U64 p1/\U64 p2)->∀r0:Int,((p1+p2)%18446744069414584321)=r0-> 
(p0=18446744069414584321)/\((!true)=true->
0=r0)/\
((!true)=false->
(p0≠0)/\(p0≠0)/\let v1:Bool:=decide ((u64.wrap (p0-(Int.tmod p2 p0)))<=(Int.tmod p1 p0))
(v1=true->
let v2:Int:=u64.wrap ((Int.tmod p1 p0)-(u64.wrap (p0-(Int.tmod p2 p0))))
v2=r0)/\
(v1=false->
let v3:Int:=u64.wrap ((Int.tmod p1 p0)+(Int.tmod p2 p0))
v3=r0)))<|by
 rintro p0 p1 p2 h _ rfl;obtain⟨rfl,h1,h2⟩:=h;refine⟨rfl,fun h=>by simp at h,fun _=> ?_⟩;rw[tmod_nn _ _ h1.1,tmod_nn _ _ h2.1];simp only[u64w];refine⟨by omega,by omega,fun h=> ?_,fun h=> ?_⟩
 ·have h:=qb h;omega
 ·have h:=qc h;omega
noncomputable def knu:Ct:= .gp 126 [yqu,yqu,yqu] [yqu] [] fun(p0 p1 p2:Int)=>(p0=18446744069414584321/\U64 p1/\U64 p2,(p1*p2%18446744069414584321:Int),())
theorem kd8:knu.O:=qrv Bs Tryz.func126 .no (k1j.c (k7x.c (k7r.c c0))) (Q:=∀(p0 p1 p2:Int),(p0=18446744069414584321/\U64 p1/\U64 p2)->∀r0:Int,(p1*p2%18446744069414584321)=r0-> 
(p0=18446744069414584321)/\((!true)=true->
0=r0)/\
((!true)=false->
(p0≠0)/\(p0≠0)/\(U64 (Int.tmod p1 p0)/\U64 (Int.tmod p2 p0))/\let r1:Int:=((Int.tmod p1 p0)*(Int.tmod p2 p0)/18446744073709551616)
let r2:Int:=((Int.tmod p1 p0)*(Int.tmod p2 p0)%18446744073709551616)
(U64 r1/\U64 r2/\U64 p0/\r1<p0)/\((r1*18446744073709551616+r2)%p0)=r0))<|by
 rintro p0 p1 p2 h _ rfl;obtain⟨rfl,h1,h2⟩:=h;refine⟨rfl,fun h=>by simp at h,fun _=> ?_⟩;rw[tmod_nn _ _ h1.1,tmod_nn _ _ h2.1,qcv p1 p2];have a1:0<=p1%18446744069414584321/\p1%18446744069414584321<18446744069414584321:=by omega
 have a2:0<=p2%18446744069414584321/\p2%18446744069414584321<18446744069414584321:=by omega
 generalize p1%18446744069414584321=a at *
 generalize p2%18446744069414584321=b at *
 have h3:0<=a*b:=qcs a1.1 a2.1;have h4:a*b<=18446744069414584320*18446744069414584320:=qdr qqo qqo a2.1 qqo;generalize a*b=m at *
 refine⟨by omega,by omega,⟨⟨by omega,by omega⟩,⟨by omega,by omega⟩⟩,⟨⟨by omega,by omega⟩,⟨by omega,by omega⟩,⟨by omega,by omega⟩,by omega⟩,?_⟩;rw[show m/18446744073709551616*18446744073709551616+m%18446744073709551616=m by omega]
noncomputable def kch:Ct:= .gp 161 [yqu] [yqu] [] fun(p0:Int)=>(p0=18446744069414584321,(7:Int),())
theorem ke8:kch.O:=qrv Bs Tryz.func161 .no (kel.c c0) (Q:=∀(p0:Int),(p0=18446744069414584321)->∀r0:Int,(7:Int)=r0-> 
(p0=18446744069414584321)/\7=r0)<|by rintro p0 h _ rfl;exact⟨h,rfl⟩
noncomputable def kns:Ct:= .gp 159 [yqu,yqu,yqu] [yqu] [] fun(p0 p1 p2:Int)=>(p0=18446744069414584321/\U64 p1/\U64 p2,(pw p1 p2:Int),())
theorem kow:kns.O:=qrv Bs Tryz.func159 (.r 3 (.nd [] (.lp [] ⟨[],[],[1,2,7],[.one (zqu),.one (zqu),.one (zqu)],[]⟩ (.r 0 (.jn ⟨[],[],[7],[.one (zqu)],[]⟩ [] .no [] .no))) [] .no)) (k1j.c (kd8.c c0)) (Q:=∀(p0 p1 p2:Int),(p0=18446744069414584321/\U64 p1/\U64 p2)->∀r0:Int,pw p1 p2=r0-> 
(p0=18446744069414584321)/\((!true)=true->
0=r0)/\
((!true)=false->
(p0≠0)/\∃(I1:Int->Int->Int->Prop) (M1:Int->Int->Int->Nat),I1 (Int.tmod p1 p0) p2 1/\∀b1 f1 i1,(I1 b1 f1 i1->
(decide (0<f1)=true->
∀J1:Int->Prop,(∀(k1:Int),
((p0=18446744069414584321/\U64 b1/\U64 b1)/\I1 (b1*b1%18446744069414584321) (u64.wrap (Int.tdiv f1 2)) k1/\M1 (b1*b1%18446744069414584321) (u64.wrap (Int.tdiv f1 2)) k1<M1 b1 f1 i1)->J1 k1)->
(((Int.tmod f1 2)==1)=true->
(p0=18446744069414584321/\U64 i1/\U64 b1)/\J1 (i1*b1%18446744069414584321))/\
(((Int.tmod f1 2)==1)=false->
J1 i1))/\
(decide (0<f1)=false->
i1=r0))))<|by
 rintro p0 p1 p2 h _ rfl;obtain⟨rfl,h1,h2⟩:=h;refine⟨rfl,fun h=>by simp at h,fun _=>⟨by omega,?_⟩⟩;rw[tmod_nn _ _ h1.1];refine⟨fun a e r=>(0<=a/\a<18446744069414584321)/\U64 e/\(0<=r/\r<18446744069414584321)/\(r*a^e.toNat)%18446744069414584321=pw p1 p2,fun a e r=>e.toNat,⟨by omega,h2,by omega,by rw[Int.one_mul,k6y];rfl⟩,?_⟩;rintro a e r ⟨ha,he,hr,hv⟩;have hpow:∀k:Nat,a^(2*k)=(a*a)^k:=fun k=>by rw[Int.pow_mul];congr 1;rw[qcl,qcl,Int.pow_zero,Int.one_mul]
 refine⟨fun h J1 j=> ?_,fun h=> ?_⟩
 ·have h:=qb h;have jj:∀r',(0<=r'/\r' <18446744069414584321)->(r' *(a*a)^(e/2).toNat)%18446744069414584321=pw p1 p2->J1 r' :=by intro r' hr' hv';have hm:0<=a*a%18446744069414584321/\a*a%18446744069414584321<18446744069414584321:=⟨qcb _ qqo,qbt _ qqo⟩;refine j _ ⟨⟨rfl,by omega,by omega⟩,?_⟩;rw[tdiv_nn _ _ he.1,wu (e/2) qqo qqo];refine⟨⟨hm,⟨by omega,by omega⟩,hr',?_⟩,by(dsimp only;omega)⟩;rw[<-hv',qcv,qcv r' ((a*a)^_),k6y]
  rw[tmod_nn _ _ he.1];refine⟨fun h1=>⟨⟨rfl,by omega,by omega⟩,?_⟩,fun h1=> ?_⟩
  ·have h1:e%2=1:=by simpa using h1
   refine jj _ ⟨qcb _ qqo,qbt _ qqo⟩ ?_;rw[<-hv,show e.toNat=2*(e/2).toNat+1 by omega,qcl,hpow,qcv,qdj _ (qex _),<-qcv];congr 1;grind
  ·have h1:¬e%2=1:=by simpa using h1
   refine jj _ hr ?_;rw[<-hv,<-hpow,show e.toNat=2*(e/2).toNat by omega]
 ·have h:¬0<e:=qc h;rw[show e.toNat=0 by omega,Int.pow_zero,Int.mul_one,qdl hr.1 hr.2]at hv;exact hv
noncomputable def kbe:Ct:= .gp 160 [yqu,yqi,yqi] [yqu] [] fun(p0 p1 p2:Int)=>(p0=18446744069414584321/\(0<=p1/\p1<8)/\0<=p2/\p2<3,(rc p1 p2:Int),())
theorem kdv:kbe.O:=qrv Bs Tryz.func160 .no (k1j.c c0) (Q:=∀(p0 p1 p2:Int),(p0=18446744069414584321/\(0<=p1/\p1<8)/\0<=p2/\p2<3)->∀r0:Int,rc p1 p2=r0-> 
(p0=18446744069414584321)/\((!true)=true->
0=r0)/\
((!true)=false->
(decide (p1<0)=true->
0=r0)/\
(decide (p1<0)=false->
(decide (7<p1)=true->
0=r0)/\
(decide (7<p1)=false->
(decide (p2<0)=true->
0=r0)/\
(decide (p2<0)=false->
(decide (2<p2)=true->
0=r0)/\
(decide (2<p2)=false->
let v1:Int:=i64.wrap ((i64.wrap (3*p1))+p2)
let v2:Int:=u64.wrap (i64.wrap (v1+1))
let v3:Int:=u64.wrap (v2*11400714819323198485)
(p0≠0)/\Int.tmod v3 p0=r0))))))<|by
 rintro p0 p1 p2 h _ rfl;obtain⟨rfl,h1,h2⟩:=h;refine⟨rfl,fun h=>by simp at h,fun _=>⟨fun h=> ?_,fun _=>⟨fun h=> ?_,fun _=>⟨fun h=> ?_,fun _=>⟨fun h=> ?_,fun _=> ?_⟩⟩⟩⟩⟩
 ·simp at h;omega
 ·simp at h;omega
 ·simp at h;omega
 ·simp at h;omega
 ·simp only[];rw[wi (3*p1) qqo qqo,wi (3*p1+p2) qqo qqo,wi (3*p1+p2+1) qqo qqo,wu (3*p1+p2+1) qqo qqo,u64w];exact⟨by omega,by rw[tmod_nn _ _ qqo];rfl⟩
noncomputable def knm:Ct:= .gp 202 [yqu,.sl yqu] [yqu] [] fun(p0:Int) (p1:Li)=>(p0=18446744069414584321/\Us p1/\p1.length<=9223372036854775807,(p1.foldl (fun s x=>(s+x)%18446744069414584321) 0:Int),())
theorem koe:knm.O:=qrv Bs Tryz.func202 (.r 1 (.nd [] (.r 0 (.lp [] ⟨[],[],[5,6],[.one (zqu),.one (zqi)],[]⟩ .no)) [] .no)) (k4b.c c0) (Q:=∀(p0:Int) (p1:Li),(p0=18446744069414584321/\Us p1/\p1.length<=9223372036854775807)->∀r0:Int,(p1.foldl (fun s x=>(s+x)%18446744069414584321) 0)=r0-> 
∃(I1:Int->Int->Prop) (M1:Int->Int->Nat),I1 0 0/\∀b1 f1,(I1 b1 f1->
(decide (f1<(p1.length:Int))=true->
(0<=f1)/\f1<(p1.length:Int)/\(p0=18446744069414584321/\U64 b1/\U64 (ix p1 f1))/\let r1:Int:=((b1+(ix p1 f1))%18446744069414584321)
I1 r1 (i64.wrap (f1+1))/\M1 r1 (i64.wrap (f1+1))<M1 b1 f1)/\
(decide (f1<(p1.length:Int))=false->
b1=r0)))<|by rintro p0 p1 h _ rfl;obtain⟨rfl,h1,h2⟩:=h;refine(⟨(fun s i=>FoldI (fun s x=>(s+x)%18446744069414584321) 0 p1 i s/\U64 s),(fun s i=>(p1.length-i).toNat),⟨FoldI.start,by omega⟩,?_⟩);rintro s i ⟨hi,hs⟩;refine⟨fun hh=> ?_,fun hh=>hi.done (qc hh)⟩;have hh:=qb hh;have hx:=h1 _ (ix_mem p1 i hi.1 hh);have nx:=hi.next hh qqo rfl;exact⟨hi.1,hh,⟨rfl,hs,hx⟩,⟨nx.1,by omega⟩,nx.2⟩
noncomputable def ko8:Ct:= .gp 162 [yqu,.st 8] [.st 8] [] fun(p0:Int) (p1:wAf)=>(p0=18446744069414584321/\S3 p1,(mixS p1:wAf),())
theorem kod:ko8.O:=qrv Bs Tryz.func162 (.r 2 (.nd [] (.r 0 (.lp [] ⟨[3],yK1,[7],[.one (zqi)],[]⟩ .no)) [] .no)) (koe.c (k4b.c c0)) (Q:=∀(p0:Int) (p1:wAf),(p0=18446744069414584321/\S3 p1)->∀r0:wAf,mixS p1=r0-> 
(p0=18446744069414584321/\Us [p1.a0,p1.a1,p1.a2]/\[p1.a0,p1.a1,p1.a2].length<=9223372036854775807)/\let r1:Int:=([p1.a0,p1.a1,p1.a2].foldl (fun s x=>(s+x)%18446744069414584321) 0)
∃(I1:Int->Int->Int->Int->Prop) (M1:Int->Int->Int->Int->Nat),I1 0 0 0 0/\∀b1 f1 i1 k1,(I1 b1 f1 i1 k1->
(decide (b1<3)=true->
(0<=b1/\b1<(3:Int))/\(0<=b1/\b1<(3:Int))/\(p0=18446744069414584321/\U64 (ix [p1.a0,p1.a1,p1.a2] b1)/\U64 r1)/\let r2:Int:=(((ix [p1.a0,p1.a1,p1.a2] b1)+r1)%18446744069414584321)
(0<=b1/\b1<(3:Int))/\(0<=b1/\b1<(3:Int))/\I1 (i64.wrap (b1+1)) (bif decide (b1=(0:Int))then r2 else f1) (bif decide (b1=(1:Int))then r2 else i1) (bif decide (b1=(2:Int))then r2 else k1)/\M1 (i64.wrap (b1+1)) (bif decide (b1=(0:Int))then r2 else f1) (bif decide (b1=(1:Int))then r2 else i1) (bif decide (b1=(2:Int))then r2 else k1)<M1 b1 f1 i1 k1)/\
(decide (b1<3)=false->
f1=r0.a0/\i1=r0.a1/\k1=r0.a2)))<|by
 rintro p0 p1 h _ rfl;obtain⟨rfl,h0,h1,h2⟩:=h;have e:[p1.a0,p1.a1,p1.a2].foldl (fun s x=>(s+x)%18446744069414584321) 0=((p1.a0+p1.a1)%18446744069414584321+p1.a2)%18446744069414584321:=by show(((0+p1.a0)%18446744069414584321+p1.a1)%18446744069414584321+p1.a2)%18446744069414584321=_;omega
 refine⟨⟨rfl,?_,by simp⟩,?_⟩
 ·intro x hx;simp only[qae,qcq,or_false]at hx;rcases hx with rfl|rfl|rfl
  ·exact h0
  ·exact h1
  ·exact h2
 rw[e];have hu:U64 (((p1.a0+p1.a1)%18446744069414584321+p1.a2)%18446744069414584321):=⟨by omega,by(first|omega|(dsimp only;omega))⟩;generalize hg:((p1.a0+p1.a1)%18446744069414584321+p1.a2)%18446744069414584321=t at *
 refine⟨(fun i x y z=>(i=0)∨(i=1/\x=(p1.a0+t)%18446744069414584321)∨(i=2/\x=(p1.a0+t)%18446744069414584321/\y=(p1.a1+t)%18446744069414584321)∨(i=3/\x=(p1.a0+t)%18446744069414584321/\y=(p1.a1+t)%18446744069414584321/\z=(p1.a2+t)%18446744069414584321)),(fun i _ _ _=>(3-i).toNat),(.inl rfl),?_⟩;intro i x y z hi;refine⟨fun hh=> ?_,fun hh=> ?_⟩
 ·have hh:=qb hh;rcases hi with rfl|⟨rfl,rfl⟩|⟨rfl,rfl,rfl⟩|⟨rfl,_⟩
  ·exact⟨by omega,by omega,⟨rfl,h0,hu⟩,by omega,by omega,.inr (.inl ⟨rfl,rfl⟩),by(dsimp only;decide)⟩
  ·exact⟨by omega,by omega,⟨rfl,h1,hu⟩,by omega,by omega,.inr (.inr (.inl ⟨rfl,rfl,rfl⟩)),by(dsimp only;decide)⟩
  ·exact⟨by omega,by omega,⟨rfl,h2,hu⟩,by omega,by omega,.inr (.inr (.inr ⟨rfl,rfl,rfl,rfl⟩)),by(dsimp only;decide)⟩
  ·omega
 ·have hh:=qc hh;rcases hi with rfl|⟨rfl,rfl⟩|⟨rfl,rfl,rfl⟩|⟨rfl,rfl,rfl,rfl⟩
  ·omega
  ·omega
  ·omega
  ·unfold mixS;rw[hg];exact⟨rfl,rfl,rfl⟩
noncomputable def kdk:Ct:= .gp 127 [yqu,.st 8] [.st 8] [] fun(p0:Int) (p1:wAf)=>(p0=18446744069414584321/\S3 p1,(permS p1:wAf),())
theorem kgf:kdk.O:=qrv Bs Tryz.func127 (.r 1 (.nd [] (.r 0 (.lp [] ⟨[0],yK1,[5],[.one (zqi)],[]⟩ (.r 0 (.nd [] (.nd [] (.r 0 (.lp [] ⟨[0],yK1,[6],[.one (zqi)],[]⟩ .no)) [] .no) [] .no)))) [] .no)) (k1j.c (kdv.c (k4b.c (ke8.c (kow.c (kod.c c0)))))) (Q:=∀(p0:Int) (p1:wAf),(p0=18446744069414584321/\S3 p1)->∀r0:wAf,permS p1=r0-> 
(p0=18446744069414584321)/\((!true)=true->
0=r0.a0/\0=r0.a1/\0=r0.a2)/\
((!true)=false->
∃(I1:Int->Int->Int->Int->Prop) (M1:Int->Int->Int->Int->Nat),I1 0 p1.a0 p1.a1 p1.a2/\∀b1 f1 i1 k1,(I1 b1 f1 i1 k1->
(decide (b1<8)=true->
∃(I2:Int->Int->Int->Int->Prop) (M2:Int->Int->Int->Int->Nat),I2 0 f1 i1 k1/\∀l1 m1 n1 o1,(I2 l1 m1 n1 o1->
(decide (l1<3)=true->
(0<=l1/\l1<(3:Int))/\(0<=l1/\l1<(3:Int))/\(p0=18446744069414584321/\(0<=b1/\b1<8)/\0<=l1/\l1<3)/\(p0=18446744069414584321/\U64 (ix [m1,n1,o1] l1)/\U64 (rc b1 l1))/\let r1:Int:=(((ix [m1,n1,o1] l1)+(rc b1 l1))%18446744069414584321)
(p0=18446744069414584321)/\(p0=18446744069414584321/\U64 r1/\U64 (7:Int))/\(0<=l1/\l1<(3:Int))/\(0<=l1/\l1<(3:Int))/\I2 (i64.wrap (l1+1)) (bif decide (l1=(0:Int))then(pw r1 (7:Int))else m1) (bif decide (l1=(1:Int))then(pw r1 (7:Int))else n1) (bif decide (l1=(2:Int))then(pw r1 (7:Int))else o1)/\M2 (i64.wrap (l1+1)) (bif decide (l1=(0:Int))then(pw r1 (7:Int))else m1) (bif decide (l1=(1:Int))then(pw r1 (7:Int))else n1) (bif decide (l1=(2:Int))then(pw r1 (7:Int))else o1)<M2 l1 m1 n1 o1)/\
(decide (l1<3)=false->
(p0=18446744069414584321/\S3 (wAf.mk m1 n1 o1))/\I1 (i64.wrap (b1+1)) ((mixS (wAf.mk m1 n1 o1)).a0) ((mixS (wAf.mk m1 n1 o1)).a1) ((mixS (wAf.mk m1 n1 o1)).a2)/\M1 (i64.wrap (b1+1)) ((mixS (wAf.mk m1 n1 o1)).a0) ((mixS (wAf.mk m1 n1 o1)).a1) ((mixS (wAf.mk m1 n1 o1)).a2)<M1 b1 f1 i1 k1)))/\
(decide (b1<8)=false->
f1=r0.a0/\i1=r0.a1/\k1=r0.a2))))<|by
 rintro p0 p1 h _ rfl;obtain⟨hP,hs⟩:=h;subst hP;refine⟨rfl,fun h=>by simp at h,fun _=> ?_⟩;refine⟨(fun n a b c=>0<=n/\n<=8/\(⟨a,b,c⟩:wAf)=rnds n.toNat p1/\S3 ⟨a,b,c⟩),(fun n _ _ _=>(8-n).toNat),⟨by omega,by omega,rfl,hs⟩,?_⟩;rintro n a b c ⟨g0,g1,g2,g3⟩;refine⟨fun h=> ?_,fun h=> ?_⟩
 ·have h:=qb h;refine⟨(fun i x y z=>(i=0/\x=a/\y=b/\z=c)∨(i=1/\x=pw ((a+rc n 0)%18446744069414584321) 7/\y=b/\z=c)∨(i=2/\x=pw ((a+rc n 0)%18446744069414584321) 7/\y=pw ((b+rc n 1)%18446744069414584321) 7/\z=c)∨(i=3/\x=pw ((a+rc n 0)%18446744069414584321) 7/\y=pw ((b+rc n 1)%18446744069414584321) 7/\z=pw ((c+rc n 2)%18446744069414584321) 7)),(fun i _ _ _=>(3-i).toNat),(.inl ⟨rfl,rfl,rfl,rfl⟩),?_⟩;intro i x y z hi;have hrc:∀k,U64 (rc n k):=fun k=>by unfold rc;omega
  have hpw:∀k e,0<=pw k e/\pw k e<18446744069414584321:=fun k e=>⟨qcb _ qqo,qbt _ qqo⟩;obtain⟨h3a,h3b,h3c⟩:=g3;have u7:U64 7:=by decide
  have hm:∀q:Int,U64 (q%18446744069414584321):=fun q=>⟨qcb _ qqo,Int.lt_trans (qbt _ qqo) qqo⟩;refine⟨fun hh=> ?_,fun hh=> ?_⟩
  ·have hh:=qb hh;rcases hi with⟨rfl,rfl,rfl,rfl⟩|⟨rfl,rfl,rfl,rfl⟩|⟨rfl,rfl,rfl,rfl⟩|⟨rfl,_⟩
   ·exact⟨by omega,by omega,⟨rfl,by omega,by omega⟩,⟨rfl,h3a,hrc _⟩,rfl,⟨rfl,hm _,u7⟩,by omega,by omega,.inr (.inl ⟨rfl,rfl,rfl,rfl⟩),by(dsimp only;decide)⟩
   ·exact⟨by omega,by omega,⟨rfl,by omega,by omega⟩,⟨rfl,h3b,hrc _⟩,rfl,⟨rfl,hm _,u7⟩,by omega,by omega,.inr (.inr (.inl ⟨rfl,rfl,rfl,rfl⟩)),by(dsimp only;decide)⟩
   ·exact⟨by omega,by omega,⟨rfl,by omega,by omega⟩,⟨rfl,h3c,hrc _⟩,rfl,⟨rfl,hm _,u7⟩,by omega,by omega,.inr (.inr (.inr ⟨rfl,rfl,rfl,rfl⟩)),by(dsimp only;decide)⟩
   ·omega
  ·have hh:=qc hh;rcases hi with⟨rfl,_⟩|⟨rfl,_⟩|⟨rfl,_⟩|⟨rfl,rfl,rfl,rfl⟩
   ·omega
   ·omega
   ·omega
   ·have e:rnds (n+1).toNat p1=rnd ⟨a,b,c⟩ n:=by rw[show(n+1).toNat=n.toNat+1 by omega];show rnd (rnds n.toNat p1) (n.toNat:Int)=_;rw[<-g2,show(n.toNat:Int)=n by omega]
    have hS:S3 (rnds (n+1).toNat p1):=by rw[e];unfold rnd mixS S3;dsimp only;omega
    have hinc:i64.wrap (n+1)=n+1:=wi _ qqo qqo;rw[hinc];refine⟨⟨rfl,by unfold S3;have:=hpw ((a+rc n 0)%18446744069414584321) 7;have:=hpw ((b+rc n 1)%18446744069414584321) 7;have:=hpw ((c+rc n 2)%18446744069414584321) 7;dsimp only;omega⟩,(?_:0<=n+1/\n+1<=8/\_/\_),(?_:(8-(n+1)).toNat<(8-n).toNat)⟩
    ·refine⟨by omega,by omega,e.symm,?_⟩;rw[e]at hS;exact hS
    ·omega
 ·have h:=qc h;rw[show n=8 by omega]at g2;have g2:(⟨a,b,c⟩:wAf)=permS p1:=g2;rw[<-g2];exact⟨rfl,rfl,rfl⟩
noncomputable def kf9:Ct:= .gp 83 yO1 [.st 8] [] fun(p0 p1:Int) (p2:Li)=>(p0=18446744069414584321/\U64 p1/\Us p2/\p2.length<=1099511627776,(absS p1 p2:wAf),())
theorem ki3:kf9.O:=qrv Bs Tryz.func83 (.r 1 (.nd [] (.r 0 (.lp [] ⟨[1],yK1,[8],[.one (zqi)],[]⟩ (.jn ⟨[],[],[],[],[]⟩ [] .no [] (.nd [] (.jn ⟨[1],yK1,[],[],[]⟩ [] .no [] (.jn ⟨[1],yK1,[],[],[]⟩ [] .no [] .no)) [] .no)))) [] .no)) (kd8.c (k4b.c (kgf.c c0))) (Q:=∀(p0 p1:Int) (p2:Li),(p0=18446744069414584321/\U64 p1/\Us p2/\p2.length<=1099511627776)->∀r0:wAf,absS p1 p2=r0-> 
(p0=18446744069414584321/\U64 p1/\U64 (65536:Int))/\let r1:Int:=(p1*(65536:Int)%18446744069414584321)
(p0=18446744069414584321/\U64 r1/\U64 (u64.wrap (p2.length:Int)))/\let r2:Int:=((r1+(u64.wrap (p2.length:Int)))%18446744069414584321)
∃(I1:Int->Int->Int->Int->Prop) (M1:Int->Int->Int->Int->Nat),I1 0 0 0 r2/\∀b1 f1 i1 k1,(I1 b1 f1 i1 k1->
∀J1:Prop,((∀J2:Int->Int->Int->Prop,(∀(l1 m1 n1:Int),
(∀J3:Int->Int->Int->Prop,(∀(o1 q1 s1:Int),
((p0=18446744069414584321/\S3 (wAf.mk o1 q1 s1))/\I1 (i64.wrap (b1+2)) ((permS (wAf.mk o1 q1 s1)).a0) ((permS (wAf.mk o1 q1 s1)).a1) ((permS (wAf.mk o1 q1 s1)).a2)/\M1 (i64.wrap (b1+2)) ((permS (wAf.mk o1 q1 s1)).a0) ((permS (wAf.mk o1 q1 s1)).a1) ((permS (wAf.mk o1 q1 s1)).a2)<M1 b1 f1 i1 k1)->J3 o1 q1 s1)->
let v4:Bool:=decide ((i64.wrap (b1+1))<(p2.length:Int))
(v4=true->
(0<=i64.wrap (b1+1))/\i64.wrap (b1+1)<(p2.length:Int)/\(p0=18446744069414584321/\U64 m1/\U64 (ix p2 (i64.wrap (b1+1))))/\let r5:Int:=((m1+(ix p2 (i64.wrap (b1+1))))%18446744069414584321)
J3 l1 r5 n1)/\
(v4=false->
J3 l1 m1 n1))->J2 l1 m1 n1)->
(decide (b1<(p2.length:Int))=true->
(0<=b1)/\b1<(p2.length:Int)/\(p0=18446744069414584321/\U64 f1/\U64 (ix p2 b1))/\let r3:Int:=((f1+(ix p2 b1))%18446744069414584321)
J2 r3 i1 k1)/\
(decide (b1<(p2.length:Int))=false->
J2 f1 i1 k1))->J1)->
((b1==0)=true->
J1)/\
((b1==0)=false->
(decide (b1<(p2.length:Int))=true->
J1)/\
(decide (b1<(p2.length:Int))=false->
f1=r0.a0/\i1=r0.a1/\k1=r0.a2))))<|by
 rintro p0 p1 p2 h _ rfl;obtain⟨hP,h1,h2,h3⟩:=h;subst hP;have hp:=k1w;have hi:S3 (absI p1 p2):=by unfold absI S3;dsimp only;omega
 have e:u64.wrap (p2.length:Int)=p2.length:=wu _ qqo qqo;have em:(p1*65536%18446744069414584321+(p2.length:Int))%18446744069414584321=(absI p1 p2).a2:=rfl;rw[e];refine⟨⟨rfl,h1,by omega⟩,⟨rfl,by omega,by omega⟩,?_⟩;rw[em];refine⟨fun i a b c=>(i=0/\a=0/\b=0/\c=(absI p1 p2).a2)∨(0<i/\i<=p2.length+2/\absL (p2.drop i.toNat) ⟨a,b,c⟩=absS p1 p2/\S3 ⟨a,b,c⟩),fun i _ _ _=>(p2.length+4-i).toNat,.inl ⟨rfl,rfl,rfl,rfl⟩,?_⟩;intro i a b c hg J1 j1
 have body:0<=i->i<=p2.length->(i<p2.length->absL (p2.drop i.toNat) ⟨a,b,c⟩=absS p1 p2)->(¬i<p2.length->permS ⟨a,b,c⟩=absS p1 p2)->S3 ⟨a,b,c⟩->J1:=by
  intro g0 g1 hne hnil hS;obtain⟨h3a,h3b,h3c⟩:=hS;refine j1 fun J2 j2=> ?_
  have hJ2:∀x y z,S3 ⟨x,y,z⟩->(i+1<p2.length->absL (p2.drop (i+2).toNat) (permS ⟨x,(y+ix p2 (i+1))%18446744069414584321,z⟩)=absS p1 p2)->(¬i+1<p2.length->permS ⟨x,y,z⟩=absS p1 p2)->J2 x y z:=by
   intro x y z hS k1 k2;refine j2 _ _ _ fun J3 j3=> ?_;have hJ3:∀x y z:Int,S3 ⟨x,y,z⟩->absL (p2.drop (i+2).toNat) (permS ⟨x,y,z⟩)=absS p1 p2->J3 x y z:=by intro x y z hS k;refine j3 _ _ _ ?_;rw[wi (i+2) qqo qqo];exact⟨⟨rfl,hS⟩,.inr ⟨(by omega:0<i+2),(by omega:i+2<=p2.length+2),k,hp _⟩,by(dsimp only;omega)⟩
   rw[wi (i+1) qqo qqo];refine⟨fun h5=> ?_,fun h5=> ?_⟩
   ·have h5:=qb h5;have hy:=h2 _ (ix_mem p2 (i+1) qqo h5);exact⟨by omega,h5,⟨rfl,hS.2.1,hy⟩,hJ3 _ _ _ (S3m (by have:=hS.1;omega) qqo hS.2.2) (k1 h5)⟩
   ·have ed2:p2.drop (i+2).toNat=[]:=qam (by have:=qc h5;omega);exact hJ3 _ _ _ hS (by rw[ed2];exact k2 (qc h5))
  refine⟨fun hh=> ?_,fun hh=> ?_⟩
  ·have hh:=qb hh;have hx:=h2 _ (ix_mem p2 i g0 hh);have g2:=hne hh;rw[drop_ix p2 i g0 hh]at g2;refine⟨g0,hh,⟨rfl,h3a,hx⟩,hJ2 _ _ _ (S3m qqo h3b h3c) (fun h5=> ?_) (fun h5=> ?_)⟩
   ·rw[drop_ix p2 (i+1) qqo h5,show i+1+1=i+2 by omega]at g2;exact g2
   ·rw[show p2.drop (i+1).toNat=[]from qam qqo]at g2;exact g2
  ·have hh:=qc hh;exact hJ2 _ _ _ ⟨h3a,h3b,h3c⟩ (fun h5=>by omega) (fun _=>hnil hh)
 refine⟨fun h0=> ?_,fun h0=>⟨fun hh=> ?_,fun hh=> ?_⟩⟩
 ·have h0:i=0:=by simpa using h0
  rcases hg with⟨_,rfl,rfl,rfl⟩|⟨hp0,_⟩
  ·subst h0;refine body qqo qqo (fun hl=> ?_) (fun hl=> ?_) hi
   ·have hne:p2≠[]:=by rintro rfl;simp at hl
    unfold absS;rw[qe hne];rfl
   ·have hnil:p2=[]:=qav qqo;unfold absS;rw[qf hnil];rfl
  ·omega
 ·have h0:¬i=0:=by simpa using h0
  have hh:=qb hh;rcases hg with⟨h1,_⟩|⟨g0,g1,g2,g3⟩
  ·omega
  ·exact body qqo qqo (fun _=>g2) (fun hl=>absurd hh hl) g3
 ·have h0:¬i=0:=by simpa using h0
  have hh:=qc hh;rcases hg with⟨h1,_⟩|⟨g0,g1,g2,g3⟩
  ·omega
  ·rw[qam qqo]at g2;have hv:(⟨a,b,c⟩:wAf)=absS p1 p2:=g2;rw[<-hv];exact⟨rfl,rfl,rfl⟩
noncomputable def kmi:Ct:= .gp 48 yO1 [yqu] [] fun(p0 p1:Int) (p2:Li)=>(p0=18446744069414584321/\U64 p1/\Us p2/\p2.length<=1099511627776,(hashS p1 p2:Int),())
theorem k1a:kmi.O:=qrv Bs Tryz.func48 .no (k1j.c (ki3.c c0)) (Q:=∀(p0 p1:Int) (p2:Li),(p0=18446744069414584321/\U64 p1/\Us p2/\p2.length<=1099511627776)->∀r0:Int,hashS p1 p2=r0-> 
(p0=18446744069414584321)/\((!true)=true->
0=r0)/\
((!true)=false->
(p0=18446744069414584321/\U64 p1/\Us p2/\p2.length<=1099511627776)/\(absS p1 p2).a0=r0))<|by rintro p0 p1 p2 h _ rfl;obtain⟨hP,h1,h2,h3⟩:=h;subst hP;exact⟨rfl,fun h=>by simp at h,fun _=>⟨⟨rfl,h1,h2,h3⟩,rfl⟩⟩
noncomputable def kjw:Ct:= .gp 119 [yqu,yqu] [yqu] [] fun(p0 p1:Int)=>(U64 p0/\U64 p1,(nd p0 p1:Int),())
theorem k3j:kjw.O:=qrv Bs Tryz.func119 .no (k1a.c c0) (Q:=∀(p0 p1:Int),(U64 p0/\U64 p1)->∀r0:Int,nd p0 p1=r0-> 
((18446744069414584321:Int)=18446744069414584321/\U64 (6:Int)/\Us [p0,p1]/\[p0,p1].length<=1099511627776)/\(hashS (6:Int) [p0,p1])=r0)<|by rintro p0 p1 h _ rfl;exact⟨⟨rfl,by decide,(by intro x hx;rcases qae.1 hx with rfl|hx;exact h.1;rw[qal.1 hx];exact h.2),by simp⟩,rfl⟩
end Go.Proofs.YtljmmhaiaipckaaGreat
end
