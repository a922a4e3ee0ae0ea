/-
  Parts of the proofs that the laws of this seat hold of every input, merged by a program: a machine over pure data that is sound for the model, what each function of the translation does in it, and plain lemmas. No conditions but those in each theorem.
-/
import Derived.Test.YtijdfglbhaedoaaGreatA6
set_option maxRecDepth 100000
noncomputable section
namespace Go.Proofs.YtijdfglbhaedoaaGreat
open Go Go.Bv Go.Cv Go.Md Go.RowKit
open Go.IntKind (i64 u64)
noncomputable def k8q:Con TB.den:= .g ⟨23,[.one (.ptr 0 0),.agg [zqi,zqi,zqi,zqi,zqi,zqu,zqi,zqi,zqu],.one (.d (.sl (.st 3))),.one (.k (.fn 24))],[.cells [.d (.bool),zqu,zqi,.d (.sl (.st 4)),.mp 1,.mp 2,.mp 3],.map (.str) yqi,.map (.str) (.sl yqu),.map (.str) (.bool)],(.tup [.agg [zqu,zqu,zqu,zqi,zqi,zqi,zqi,zqi,zqu,zql,zqu,zqu,zql,zqu],.one (zqi)]),[.cells [.d (.bool),zqu,zqi,.d (.sl (.st 4)),.mp 1,.mp 2,.mp 3],.map (.str) yqi,.map (.str) (.sl yqu),.map (.str) (.bool)],false⟩ [.st 0,.sl (.st 3),.bool,yqu,yqi,.sl (.st 4),.sl (.str),.sl yqi,.sl (.str),.sl (.sl yqu),.sl (.str),.sl (.bool)] [.st 19,yqi,.bool,yqu,yqi,.sl (.st 4),.sl (.str),.sl yqi,.sl (.str),.sl (.sl yqu),.sl (.str),.sl (.bool)] [] fun(p1:wJ) (p2:List wT) (Aa:Bool) (Ab Ad:Int) (Ac:List wE) (w1k:List ByteArray) (w1v:List Int) (w2k:List ByteArray) (w2v:List (List Int)) (w3k:List ByteArray) (w3v:List Bool)=>((BLk p2/\p1.wC<=6/\0<=p1.wQ)/\Aa=false/\w1k=([]:List ByteArray)/\w1v=([]:List Int),((exmS p1 p2).1:wAI),((exmS p1 p2).2:Int),Aa,Ab,Ad,Ac,w1k,w1v,w2k,w2v,w3k,w3v,())
theorem ka1:k8q.Ok Tryz.prog TB:=prv Bs Tryz.func23 (.r 3 (.nd [.tokc 13 2 (.st 12)] .no [] (.nd [] (.r 0 (.lp [.tokc 13 4 (.st 13)] ⟨[13,6,3,2,1,0,14,51,12,8,11],[.cells [.ptr 5 0,zqi,.own 6,zql,.own 7,.mp 8,zqu,zqu,zqu,zqi,zqi,zqi,zqi,zqi,zqu,.full yqu,zqu,zqu,.full yqu,zqu],.cells [zqi,zqi,zqi,zqi,zqi,zqu,zqi,zqi,zqu,zqi,zqi,zql,.row 11,.ptr 9 0,.d (.sl (.st 9)),zqu,.row 12,.row 13],.map (.str) (.bool),.map (.str) (.sl yqu),.map (.str) yqi,.cells [.d (.bool),zqu,zqi,.d (.sl (.st 4)),.mp 4,.mp 3,.mp 2],.tip (.st 12),.tip (.st 13),.map yqi (.st 11),.cells [.mp 10],.map yqu (.bool),.vec yqu,.vec yqu,.vec (.st 10)],[41],[.one (zqi)],[7,9,10]⟩ .no)) [] .no))) (kib.c (kd8.c (kff.c (kd1.c (kbk.c (kck.c (kc4.c (kbe.c c0)))))))) (Q:=∀(p1:wJ) (p2:List wT) (Aa:Bool) (Ab Ad:Int) (Ac:List wE) (w1k:List ByteArray) (w1v:List Int) (w2k:List ByteArray) (w2v:List (List Int)) (w3k:List ByteArray) (w3v:List Bool),((BLk p2/\p1.wC<=6/\0<=p1.wQ)/\Aa=false/\w1k=([]:List ByteArray)/\w1v=([]:List Int))->∀r0:wAI,((exmS p1 p2).1)=r0->∀r1:Int,((exmS p1 p2).2)=r1->∀Ao:Bool,Aa=Ao->∀Am:Int,Ab=Am->∀Ap:Int,Ad=Ap->∀Aq:List wE,Ac=Aq->∀e1k:List ByteArray,w1k=e1k->∀e1v:List Int,w1v=e1v->∀e2k:List ByteArray,w2k=e2k->∀e2v:List (List Int),w2v=e2v->∀e3k:List ByteArray,w3k=e3k->∀e3v:List Bool,w3v=e3v-> 
((rulesE p1=0)/\(((0:Int) !=0)=true->
0=r0.wAg/\0=r0.wAr/\0=r0.wAe/\0=r0.wAW/\0=r0.wAh/\0=r0.wAC/\0=r0.wAB/\0=r0.wAR/\0=r0.wz/\([]:List Int)=r0.wd/\0=r0.wt/\0=r0.wy/\([]:List Int)=r0.we/\0=r0.wv/\0=r1/\Aa=Ao/\Ab=Am/\Ad=Ap/\Ac=Aq/\w1k=e1k/\w1v=e1v/\w2k=e2k/\w2v=e2v/\w3k=e3k/\w3v=e3v)/\
(((0:Int) !=0)=false->
(((newS p1).p).length=((newS p1).p).length)/\(((newS p1).r).length=((newS p1).r).length)/\(((newS p1).l).length=((newS p1).l).length)/\(((newS p1).r).length<=1000000)/\let r2:Int:=(if((newS p1).r)=[]then 0 else ix ((newS p1).r) ((((newS p1).r).length:Int)-1))
([]:List wo).length=([]:List wo).length/\(([]:List wo).length+[wo.mk r2 0].length)*16<=140737488355328/\([]:List wo).length+[wo.mk r2 0].length<=maxLen/\(((newS p1).p).length=((newS p1).p).length)/\(((newS p1).r).length=((newS p1).r).length)/\(((newS p1).l).length=((newS p1).l).length)/\(([]:List wM)=([]:List wM))/\(([]:List wo)++[wo.mk r2 0]=([]:List wo)++[wo.mk r2 0])/\∃(I1:Int->Int->(List Int)->Int->Int->Int->Int->Int->Int->Int->Int->Int->(List Int)->Int->Int->(List Int)->Int->Int->Int->Int->Int->Int->Int->Int->Int->Int->Int->Int->(List Int)->(List wA)->Int->Bool->Int->Int->(List wE)->(List ByteArray)->(List Bool)->(List ByteArray)->(List (List Int))->(List ByteArray)->(List Int)->(List wo)->(List wM)->(List Int)->(List wK)->(List Int)->(List Bool)->(List Int)->(List Int)->(List wS)->Prop) (M1:Int->Int->(List Int)->Int->Int->Int->Int->Int->Int->Int->Int->Int->(List Int)->Int->Int->(List Int)->Int->Int->Int->Int->Int->Int->Int->Int->Int->Int->Int->Int->(List Int)->(List wA)->Int->Bool->Int->Int->(List wE)->(List ByteArray)->(List Bool)->(List ByteArray)->(List (List Int))->(List ByteArray)->(List Int)->(List wo)->(List wM)->(List Int)->(List wK)->(List Int)->(List Bool)->(List Int)->(List Int)->(List wS)->Nat),I1 0 p1.wC ([]:List Int) 0 0 0 0 0 0 0 0 0 ([]:List Int) 0 0 ([]:List Int) 0 ((newS p1).R.wAE) ((newS p1).R.wC) ((newS p1).R.wR) ((newS p1).R.wO) ((newS p1).R.wN) ((newS p1).R.wQ) ((newS p1).R.wm) ((newS p1).R.wc) ((newS p1).R.wAJ) ((newS p1).F.wC) ((newS p1).F.wa) ((newS p1).F.wh) ((newS p1).b) ((newS p1).n) Aa Ab Ad Ac w3k w3v w2k w2v w1k w1v (([]:List wo)++[wo.mk r2 0]) ([]:List wM) ([]:List Int) ([]:List wK) ((newS p1).k) ((newS p1).v) ((newS p1).l) ((newS p1).r) ((newS p1).p)/\∀(b1 f1:Int) (i1:List Int) (k1 l1 m1 n1 o1 q1 s1 t1 u1:Int) (x1:List Int) (y1 b2:Int) (f2:List Int) (i2 k2 l2 m2 n2 o2 q2 s2 t2 u2 x2 y2:Int) (b3:List Int) (f3:List wA) (i3:Int) (k3:Bool) (l3 m3:Int) (n3:List wE) (o3:List ByteArray) (q3:List Bool) (s3:List ByteArray) (t3:List (List Int)) (u3:List ByteArray) (x3:List Int) (y3:List wo) (b4:List wM) (f4:List Int) (i4:List wK) (k4:List Int) (l4:List Bool) (m4 n4:List Int) (o4:List wS),(I1 b1 f1 i1 k1 l1 m1 n1 o1 q1 s1 t1 u1 x1 y1 b2 f2 i2 k2 l2 m2 n2 o2 q2 s2 t2 u2 x2 y2 b3 f3 i3 k3 l3 m3 n3 o3 q3 s3 t3 u3 x3 y3 b4 f4 i4 k4 l4 m4 n4 o4->
(decide (b1<(p2.length:Int))=true->
(0<=b1)/\b1<(p2.length:Int)/\(o4.length=o4.length)/\(n4.length=n4.length)/\(m4.length=m4.length)/\((∃c:Nat,c+(ix p2 b1).Txs.length<=790/\PI (PS.mk (wJ.mk k2 l2 m2 n2 o2 q2 s2 t2 u2) (wF.mk x2 y2 b3) f3 i3 m4 n4 o4 k4 l4) c 0)/\BR' (ix p2 b1))/\let r3:Int:=((applyS (PS.mk (wJ.mk k2 l2 m2 n2 o2 q2 s2 t2 u2) (wF.mk x2 y2 b3) f3 i3 m4 n4 o4 k4 l4) (ix p2 b1)).e)
let r4:=(applyS (PS.mk (wJ.mk k2 l2 m2 n2 o2 q2 s2 t2 u2) (wF.mk x2 y2 b3) f3 i3 m4 n4 o4 k4 l4) (ix p2 b1)).s
((r3 !=0)=true->
0=r0.wAg/\0=r0.wAr/\0=r0.wAe/\0=r0.wAW/\0=r0.wAh/\0=r0.wAC/\0=r0.wAB/\0=r0.wAR/\0=r0.wz/\([]:List Int)=r0.wd/\0=r0.wt/\0=r0.wy/\([]:List Int)=r0.we/\0=r0.wv/\r3=r1/\k3=Ao/\l3=Am/\m3=Ap/\n3=Aq/\u3=e1k/\x3=e1v/\s3=e2k/\t3=e2v/\o3=e3k/\q3=e3v)/\
((r3 !=0)=false->
(r4.p.length=r4.p.length)/\(r4.r.length=r4.r.length)/\(r4.l.length=r4.l.length)/\(r4.l.length<=1000000)/\(r4.p.length=r4.p.length)/\(r4.r.length=r4.r.length)/\(r4.l.length=r4.l.length)/\(r4.r.length<=1000000)/\let r5:Int:=(if r4.r=[]then 0 else ix r4.r ((r4.r.length:Int)-1))
y3.length=y3.length/\(y3.length+[wo.mk r5 (r4.l.length:Int)].length)*16<=140737488355328/\y3.length+[wo.mk r5 (r4.l.length:Int)].length<=maxLen/\(r4.p.length=r4.p.length)/\(r4.r.length=r4.r.length)/\(r4.l.length=r4.l.length)/\(b4=b4)/\(y3++[wo.mk r5 (r4.l.length:Int)]=y3++[wo.mk r5 (r4.l.length:Int)])/\I1 (i64.wrap (b1+1)) f1 r4.l k1 l1 m1 n1 o1 q1 s1 t1 u1 x1 y1 b2 f2 i2 r4.R.wAE r4.R.wC r4.R.wR r4.R.wO r4.R.wN r4.R.wQ r4.R.wm r4.R.wc r4.R.wAJ r4.F.wC r4.F.wa r4.F.wh r4.b r4.n k3 l3 m3 n3 o3 q3 s3 t3 u3 x3 (y3++[wo.mk r5 (r4.l.length:Int)]) b4 f4 i4 r4.k r4.v r4.l r4.r r4.p/\M1 (i64.wrap (b1+1)) f1 r4.l k1 l1 m1 n1 o1 q1 s1 t1 u1 x1 y1 b2 f2 i2 r4.R.wAE r4.R.wC r4.R.wR r4.R.wO r4.R.wN r4.R.wQ r4.R.wm r4.R.wc r4.R.wAJ r4.F.wC r4.F.wa r4.F.wh r4.b r4.n k3 l3 m3 n3 o3 q3 s3 t3 u3 x3 (y3++[wo.mk r5 (r4.l.length:Int)]) b4 f4 i4 r4.k r4.v r4.l r4.r r4.p<M1 b1 f1 i1 k1 l1 m1 n1 o1 q1 s1 t1 u1 x1 y1 b2 f2 i2 k2 l2 m2 n2 o2 q2 s2 t2 u2 x2 y2 b3 f3 i3 k3 l3 m3 n3 o3 q3 s3 t3 u3 x3 y3 b4 f4 i4 k4 l4 m4 n4 o4))/\
(decide (b1<(p2.length:Int))=false->
(o4.length=o4.length)/\(n4.length=n4.length)/\(m4.length=m4.length)/\(f3.length<=100000)/\(OkA (wg.mk f3).wD)/\let v6:Bool:=(((totA 0 (wg.mk f3).wD).2) !=0)
(v6=true->
0=r0.wAg/\0=r0.wAr/\0=r0.wAe/\0=r0.wAW/\0=r0.wAh/\0=r0.wAC/\0=r0.wAB/\0=r0.wAR/\0=r0.wz/\([]:List Int)=r0.wd/\0=r0.wt/\0=r0.wy/\([]:List Int)=r0.we/\0=r0.wv/\((totA 0 (wg.mk f3).wD).2)=r1/\k3=Ao/\l3=Am/\m3=Ap/\n3=Aq/\u3=e1k/\x3=e1v/\s3=e2k/\t3=e2v/\o3=e3k/\q3=e3v)/\
(v6=false->
(b4=b4)/\(y3=y3)/\(CHk f1 p2 y3 i1 ⟨b4,f4,i4,n1,o1,m1⟩/\(k3=false/\u3=[]/\x3=[])/\(q1=0/\s1=0/\t1=0/\u1=0/\x1=[]/\y1=0)/\b2=0/\f2=[]/\i2=0)/\let r7:=chnGo ⟨y3,i1⟩ f1 p2 ⟨b4,f4,i4,n1,o1,m1⟩
let v8:Int:=u64.wrap ((u64.wrap (p2.length:Int))*p1.wQ)
v8=r0.wAg/\((totA 0 (wg.mk f3).wD).1)=r0.wAr/\r7.x.hd=r0.wAe/\r7.x.cr=r0.wAW/\r7.x.sp=r0.wAh/\r7.f.wAK=r0.wAC/\r7.f.wY=r0.wAB/\r7.f.Tx=r0.wAR/\r7.f.wAT=r0.wz/\r7.f.wAS=r0.wd/\r7.f.wAL=r0.wt/\r7.f.wAV=r0.wy/\r7.f.wAU=r0.we/\r7.f.wAM=r0.wv/\0=r1/\k3=Ao/\l3=Am/\m3=Ap/\n3=Aq/\u3=e1k/\x3=e1v/\s3=e2k/\t3=e2v/\o3=e3k/\q3=e3v)))))∨((rulesE p1≠0)/\(((rulesE p1) !=0)=true->
0=r0.wAg/\0=r0.wAr/\0=r0.wAe/\0=r0.wAW/\0=r0.wAh/\0=r0.wAC/\0=r0.wAB/\0=r0.wAR/\0=r0.wz/\([]:List Int)=r0.wd/\0=r0.wt/\0=r0.wy/\([]:List Int)=r0.we/\0=r0.wv/\(rulesE p1)=r1/\Aa=Ao/\Ab=Am/\Ad=Ap/\Ac=Aq/\w1k=e1k/\w1v=e1v/\w2k=e2k/\w2v=e2v/\w3k=e3k/\w3v=e3v)/\
(((rulesE p1) !=0)=false->
False))) (by kernel_rfl)<|by
 rintro p1 p2 Aa Ab Ad Ac w1k w1v w2k w2v w3k w3v h _ rfl _ rfl _ rfl _ rfl _ rfl _ rfl _ rfl _ rfl _ rfl _ rfl _ rfl _ rfl
 obtain⟨⟨hl,h6,hw⟩,rfl,rfl,rfl⟩:=h
 have h8:=hl.len
 by_cases hE:rulesE p1=0
 ·refine .inl ⟨hE,fun e=>(by cases e),fun _=> ?_⟩
  generalize hG:exmS p1 p2=G
  have hP:PI (newS p1) 0 0:=new_PI hE hw
  refine⟨rfl,rfl,rfl,(by show(1:Nat)<=_;omega),rfl,(by show(0+1)*16<=_;omega),(by show 0+1<=maxLen;unfold maxLen;omega),rfl,rfl,rfl,rfl,rfl,?_⟩
  refine⟨(fun i f1 i1 k1 l1 m1 n1 o1 q1 s1 t1 u1 x1 y1 b2 f2 i2 k2 l2 m2 n2 o2 q2 s2 t2 u2 x2 y2 b3 f3 i3 k3 l3 m3 n3 o3 q3 s3 t3 u3 x3 y3 b4 f4 i4 k4 l4 m4 n4 o4=>∃k:Nat,i=(k:Int)/\k<=p2.length/\(p1.wC=f1/\m4=i1/\0=k1/\0=l1/\0=m1/\0=n1/\0=o1/\0=q1/\0=s1/\0=t1/\0=u1/\[]=x1/\0=y1/\0=b2/\[]=f2)/\(0=i2/\[]=b4/\[]=f4/\[]=i4/\false=k3/\Ab=l3/\Ad=m3/\Ac=n3/\w3k=o3/\w3v=q3)/\(w2k=s3/\w2v=t3/\[]=u3/\[]=x3)/\y3.length=k+1/\(∀t∈y3,0<=t.leaves/\t.leaves<=m4.length)/\(∀j:Nat,j<k->(ix p2 (j:Int)).wY=(j:Int)+1)/\o4.length=k/\PI (PS.mk (wJ.mk k2 l2 m2 n2 o2 q2 s2 t2 u2) (wF.mk x2 y2 b3) f3 i3 m4 n4 o4 k4 l4) (5*k) 0/\y3++trGo (p2.drop k) (PS.mk (wJ.mk k2 l2 m2 n2 o2 q2 s2 t2 u2) (wF.mk x2 y2 b3) f3 i3 m4 n4 o4 k4 l4)=treS (newS p1)::trGo p2 (newS p1)/\auGo (p2.drop k) (PS.mk (wJ.mk k2 l2 m2 n2 o2 q2 s2 t2 u2) (wF.mk x2 y2 b3) f3 i3 m4 n4 o4 k4 l4)=auGo p2 (newS p1)),(fun i _ _ _ _ _ _ _ _ _ _ _ _ _ _ _ _ _ _ _ _ _ _ _ _ _ _ _ _ _ _ _ _ _ _ _ _ _ _ _ _ _ _ _ _ _ _ _ _ _=>(p2.length-i).toNat),⟨0,rfl,Nat.zero_le _,⟨rfl,rfl,rfl,rfl,rfl,rfl,rfl,rfl,rfl,rfl,rfl,rfl,rfl,rfl,rfl⟩,⟨rfl,rfl,rfl,rfl,rfl,rfl,rfl,rfl,rfl,rfl⟩,⟨rfl,rfl,rfl,rfl⟩,rfl,(fun t ht=>by rw[List.mem_singleton.1 ht];exact⟨Int.le_refl _,Int.le_refl _⟩),(fun j hj=>by omega),rfl,hP,rfl,rfl⟩,?_⟩
  rintro _ _ _ _ _ _ _ _ _ _ _ _ _ _ _ _ _ k2 l2 m2 n2 o2 q2 s2 t2 u2 x2 y2 b3 f3 i3 _ _ _ _ _ _ _ _ _ _ y3 _ _ _ k4 l4 m4 n4 o4 ⟨k,rfl,g1,⟨rfl,rfl,rfl,rfl,rfl,rfl,rfl,rfl,rfl,rfl,rfl,rfl,rfl,rfl,rfl⟩,⟨rfl,rfl,rfl,rfl,rfl,rfl,rfl,rfl,rfl,rfl⟩,⟨rfl,rfl,rfl,rfl⟩,hy3,hyl,hhe,hol,hPI,htr,hgo⟩
  refine⟨fun hh=> ?_,fun hh=> ?_⟩
  ·have hk:k<p2.length:=by have:=of_decide_eq_true hh;omega
   have hx:ix p2 (k:Int)=p2[k]:=ix_get _ _ hk
   have hmem:p2[k]∈p2:=List.getElem_mem hk
   have htx:=hl.tl _ hmem
   have hbr:BR' p2[k]:=hl.r _ hmem
   rw[kkg hk]at hgo
   rw[kkr hk]at htr
   rw[hx,inc (k:Int) p2.length (by omega) (by omega) (by omega)]
   refine⟨by omega,by omega,rfl,rfl,rfl,⟨⟨5*k,by omega,hPI⟩,hbr⟩,?_⟩
   dsimp only
   refine⟨fun e=> ?_,fun e=> ?_⟩
   ·have e:¬(applyS (PS.mk (wJ.mk k2 l2 m2 n2 o2 q2 s2 t2 u2) (wF.mk x2 y2 b3) f3 i3 m4 n4 o4 k4 l4) p2[k]).e=0:=by simpa using e
    rw[if_neg e]at hgo
    have hG2:G=(zeroR,(applyS (PS.mk (wJ.mk k2 l2 m2 n2 o2 q2 s2 t2 u2) (wF.mk x2 y2 b3) f3 i3 m4 n4 o4 k4 l4) p2[k]).e):=by
     rw[<-hG]
     unfold exmS
     rw[if_pos hE,<-hgo]
     exact if_neg e
    subst hG2
    exact(by repeat' first|apply And.intro|exact rfl|exact True.intro)
   ·have e:(applyS (PS.mk (wJ.mk k2 l2 m2 n2 o2 q2 s2 t2 u2) (wF.mk x2 y2 b3) f3 i3 m4 n4 o4 k4 l4) p2[k]).e=0:=by simpa using e
    rw[if_pos e]at hgo
    have hlm:=kk8 hPI (by omega) hbr e
    have hz:=k3n e
    have hP2:=(kfu hPI (by omega) hbr e).mono (d:=5*(k+1)) (by omega)
    have hlm:m4.length<=_:=hlm
    have a1:=hP2.ll
    have a2:=hP2.rl
    have a3:=hP2.p
    have a4:=pow12 (applyS (PS.mk (wJ.mk k2 l2 m2 n2 o2 q2 s2 t2 u2) (wF.mk x2 y2 b3) f3 i3 m4 n4 o4 k4 l4) p2[k]).s.R.wC.toNat (by have:=hP2.d2;omega)
    have a5:p2[k].wY=(o4.length:Int)+1:=hz.1
    have a6:(applyS (PS.mk (wJ.mk k2 l2 m2 n2 o2 q2 s2 t2 u2) (wF.mk x2 y2 b3) f3 i3 m4 n4 o4 k4 l4) p2[k]).s.p.length=o4.length+1:=hz.2.1
    refine⟨by trivial,by trivial,by trivial,by omega,by trivial,by trivial,by trivial,by omega,by trivial,?_,?_,by trivial,by trivial,by trivial,by trivial,by trivial,⟨k+1,rfl,by omega,⟨rfl,rfl,rfl,rfl,rfl,rfl,rfl,rfl,rfl,rfl,rfl,rfl,rfl,rfl,rfl⟩,⟨rfl,rfl,rfl,rfl,rfl,rfl,rfl,rfl,rfl,rfl⟩,⟨rfl,rfl,rfl,rfl⟩,?_,?_,?_,by omega,hP2,?_,hgo⟩,by(first|omega|(dsimp only;omega))⟩
    ·simp only[List.length_cons,List.length_nil];omega
    ·simp only[List.length_cons,List.length_nil];unfold maxLen;omega
    ·rw[List.length_append,hy3];rfl
    ·intro t ht
     rcases List.mem_append.1 ht with ht|ht
     ·have:=hyl t ht
      exact⟨this.1,by omega⟩
     ·rw[List.mem_singleton.1 ht]
      exact⟨Int.natCast_nonneg _,Int.le_refl _⟩
    ·intro j hj
     by_cases hjk:j=k
     ·subst hjk
      rw[hx,a5,hol]
     ·exact hhe j (by omega)
    ·rw[<-htr,List.append_assoc]
     rfl
  ·have hk:k=p2.length:=by have:=of_decide_eq_false hh;omega
   subst hk
   rw[List.drop_length]at hgo htr
   have hgo:(⟨0,(PS.mk (wJ.mk k2 l2 m2 n2 o2 q2 s2 t2 u2) (wF.mk x2 y2 b3) f3 i3 m4 n4 o4 k4 l4)⟩:PE)=auGo p2 (newS p1):=hgo
   have htr:y3++[]=treS (newS p1)::trGo p2 (newS p1):=htr
   rw[List.append_nil]at htr
   have hbl:=hPI.b.2.2
   have ht:=(sup_PI hPI (by omega)).1
   have hCl:(exmC p1 p2)=⟨y3,m4⟩:=by
    unfold exmC
    rw[<-htr,<-hgo]
   have hG2:G=(wAI.mk (u64.wrap (u64.wrap (p2.length:Int)*p1.wQ)) (totA 0 f3).1 (chnGo ⟨y3,m4⟩ p1.wC p2 ex0).x.hd (chnGo ⟨y3,m4⟩ p1.wC p2 ex0).x.cr (chnGo ⟨y3,m4⟩ p1.wC p2 ex0).x.sp (chnGo ⟨y3,m4⟩ p1.wC p2 ex0).f.wAK (chnGo ⟨y3,m4⟩ p1.wC p2 ex0).f.wY (chnGo ⟨y3,m4⟩ p1.wC p2 ex0).f.Tx (chnGo ⟨y3,m4⟩ p1.wC p2 ex0).f.wAT (chnGo ⟨y3,m4⟩ p1.wC p2 ex0).f.wAS (chnGo ⟨y3,m4⟩ p1.wC p2 ex0).f.wAL (chnGo ⟨y3,m4⟩ p1.wC p2 ex0).f.wAV (chnGo ⟨y3,m4⟩ p1.wC p2 ex0).f.wAU (chnGo ⟨y3,m4⟩ p1.wC p2 ex0).f.wAM,0):=by
    rw[<-hG]
    unfold exmS exmY
    rw[if_pos hE,hCl,<-hgo]
    rfl
   have ht2:(totA 0 f3).2=0:=by
    have:totA 0 f3=(sumA f3,0):=ht
    rw[this]
   have hll:=hPI.ll
   have hp12:=pow12 l2.toNat (by have:=hPI.d2;have:l2<=12:=this;omega)
   have hll:m4.length<=2^l2.toNat:=hll
   have hd1:1<=p1.wC:=hP.d1
   have hH:CHk p1.wC p2 y3 m4 ⟨[],[],[],0,0,0⟩:=by
    refine⟨⟨hyl,fun x hx=> ?_,?_⟩,hd1,h6,fun b hb=> ?_,hl.tl,fun b hb t ht=> ?_,h8,ex0_k⟩
    ·have:=hPI.l x hx
     exact⟨this.1,by have:=this.2;omega⟩
    ·show m4.length<=4096;omega
    ·obtain⟨j,hj,rfl⟩:=List.getElem_of_mem hb
     have:=hhe j hj
     rw[ix_get _ _ hj]at this
     rw[this,hy3]
     exact⟨by omega,by omega,by omega⟩
    ·have h1:=(hl.r b hb).t t ht
     have h2:=((hl.r b hb).l t ht).p
     exact⟨h1,by omega⟩
   refine⟨rfl,rfl,rfl,(by have:f3.length<=_:=hbl;omega),hPI.b.1,?_⟩
   subst hG2
   refine⟨fun e=> ?_,fun e=> ?_⟩
   ·exfalso
    have e:((totA 0 f3).2 !=0)=true:=e
    rw[ht2]at e
    cases e
   ·exact⟨rfl,rfl,⟨hH,⟨rfl,rfl,rfl⟩,⟨rfl,rfl,rfl,rfl,rfl,rfl⟩,rfl,rfl,rfl⟩,(by repeat' first|apply And.intro|exact rfl|exact True.intro)⟩
 ·refine .inr ⟨hE,fun e=> ?_,fun e=>(hE (by simpa using e)).elim⟩
  have hG2:exmS p1 p2=(zeroR,rulesE p1):=if_neg hE
  rw[hG2]
  exact(by repeat' first|apply And.intro|exact rfl|exact True.intro)
noncomputable def kby:Con TB.den:= .b ⟨8,[.one (.ptr 0 0),.agg [zqi,zqi,zqi,zqi,zqi,zqu,zqi,zqi,zqu],.one (.d (.sl (.st 3)))],[.cells [.d (.bool),zqu,zqi,.d (.sl (.st 4)),.mp 1,.mp 2,.mp 3],.map (.str) yqi,.map (.str) (.sl yqu),.map (.str) (.bool)],(.tup [.agg [zqu,zqu,zqu,zqi,zqi,zqi,zqi,zqi,zqu,zql,zqu,zqu,zql,zqu],.one (zqi)]),[.cells [.d (.bool),zqu,zqi,.d (.sl (.st 4)),.mp 1,.mp 2,.mp 3],.map (.str) yqi,.map (.str) (.sl yqu),.map (.str) (.bool)],false⟩ [.st 0,.sl (.st 3),.bool,yqu,yqi,.sl (.st 4),.sl (.str),.sl yqi,.sl (.str),.sl (.sl yqu),.sl (.str),.sl (.bool)] [.st 19,yqi,.bool,yqu,yqi,.sl (.st 4),.sl (.str),.sl yqi,.sl (.str),.sl (.sl yqu),.sl (.str),.sl (.bool)] fun(p1:wJ) (p2:List wT) (Aa:Bool) (Ab Ad:Int) (Ac:List wE) (w1k:List ByteArray) (w1v:List Int) (w2k:List ByteArray) (w2v:List (List Int)) (w3k:List ByteArray) (w3v:List Bool)=>((BLk p2/\p1.wC<=6/\0<=p1.wQ)/\Aa=false/\w1k=([]:List ByteArray)/\w1v=([]:List Int),audS false p1 p2,fun R=>(R.1,R.2,Aa,Ab,Ad,Ac,w1k,w1v,w2k,w2v,w3k,w3v,()))
theorem k54:kby.Ok Tryz.prog TB:=pbv Bs Tryz.func8 (.r 1 (.nd [] (.jn ⟨[3,2,1,0],[.map (.str) (.bool),.map (.str) (.sl yqu),.map (.str) yqi,.cells [.d (.bool),zqu,zqi,.d (.sl (.st 4)),.mp 2,.mp 1,.mp 0]],[21],[.one (.d (.bool))],[]⟩ [] .no [] .no) [] .no)) (k2b.c (k8p.c (ka1.c c0))) (Q:=∀(p1:wJ) (p2:List wT) (Aa:Bool) (Ab Ad:Int) (Ac:List wE) (w1k:List ByteArray) (w1v:List Int) (w2k:List ByteArray) (w2v:List (List Int)) (w3k:List ByteArray) (w3v:List Bool),((BLk p2/\p1.wC<=6/\0<=p1.wQ)/\Aa=false/\w1k=([]:List ByteArray)/\w1v=([]:List Int))->∀R,audS false p1 p2=R-> 
(((rulesE p1) !=0)=true->
0=R.1.wAg/\0=R.1.wAr/\0=R.1.wAe/\0=R.1.wAW/\0=R.1.wAh/\0=R.1.wAC/\0=R.1.wAB/\0=R.1.wAR/\0=R.1.wz/\([]:List Int)=R.1.wd/\0=R.1.wt/\0=R.1.wy/\([]:List Int)=R.1.we/\0=R.1.wv/\(rulesE p1)=R.2/\Aa=Aa/\Ab=Ab/\Ad=Ad/\Ac=Ac/\w1k=w1k/\w1v=w1v/\w2k=w2k/\w2v=w2v/\w3k=w3k/\w3v=w3v)/\
(((rulesE p1) !=0)=false->
∀J1:Bool->Bool->Int->Int->(List wE)->(List ByteArray)->(List Bool)->(List ByteArray)->(List (List Int))->(List ByteArray)->(List Int)->Prop,(∀(b1 f1:Bool) (i1 k1:Int) (l1:List wE) (m1:List ByteArray) (n1:List Bool) (o1:List ByteArray) (q1:List (List Int)) (s1:List ByteArray) (t1:List Int),
((b1=true->
0=R.1.wAg/\0=R.1.wAr/\0=R.1.wAe/\0=R.1.wAW/\0=R.1.wAh/\0=R.1.wAC/\0=R.1.wAB/\0=R.1.wAR/\0=R.1.wz/\([]:List Int)=R.1.wd/\0=R.1.wt/\0=R.1.wy/\([]:List Int)=R.1.we/\0=R.1.wv/\1=R.2/\f1=Aa/\i1=Ab/\k1=Ad/\l1=Ac/\s1=w1k/\t1=w1v/\o1=w2k/\q1=w2v/\m1=w3k/\n1=w3v)/\
(b1=false->
((BLk p2/\p1.wC<=6/\0<=p1.wQ)/\f1=false/\s1=([]:List ByteArray)/\t1=([]:List Int))/\((exmS p1 p2).1).wAg=R.1.wAg/\((exmS p1 p2).1).wAr=R.1.wAr/\((exmS p1 p2).1).wAe=R.1.wAe/\((exmS p1 p2).1).wAW=R.1.wAW/\((exmS p1 p2).1).wAh=R.1.wAh/\((exmS p1 p2).1).wAC=R.1.wAC/\((exmS p1 p2).1).wAB=R.1.wAB/\((exmS p1 p2).1).wAR=R.1.wAR/\((exmS p1 p2).1).wz=R.1.wz/\((exmS p1 p2).1).wd=R.1.wd/\((exmS p1 p2).1).wt=R.1.wt/\((exmS p1 p2).1).wy=R.1.wy/\((exmS p1 p2).1).we=R.1.we/\((exmS p1 p2).1).wv=R.1.wv/\((exmS p1 p2).2)=R.2/\f1=Aa/\i1=Ab/\k1=Ad/\l1=Ac/\s1=w1k/\t1=w1v/\o1=w2k/\q1=w2v/\m1=w3k/\n1=w3v))->J1 b1 f1 i1 k1 l1 m1 n1 o1 q1 s1 t1)->
((p1.wAE !=2)=true->
J1 true Aa Ab Ad Ac w3k w3v w2k w2v w1k w1v)/\
((p1.wAE !=2)=false->
J1 Aa Aa Ab Ad Ac w3k w3v w2k w2v w1k w1v))) (by kernel_rfl)<|by
 rintro p1 p2 Aa Ab Ad Ac w1k w1v w2k w2v w3k w3v h R hR
 obtain⟨hB,rfl,rfl,rfl⟩:=h
 have hG:=hR
 unfold audS at hG
 refine⟨fun e=> ?_,fun e=> ?_⟩
 ·rw[if_pos (by simpa using e)]at hG
  subst hG
  exact(by repeat' first|apply And.intro|exact rfl|exact True.intro)
 ·have e:rulesE p1=0:=by simpa using e
  rw[if_neg (by simp[e])]at hG
  intro J1 k1
  have j:∀b:Bool,(b=true↔(p1.wAE≠2∨false=true))->J1 b false Ab Ad Ac w3k w3v w2k w2v [] []:=fun b hb2=>k1 _ _ _ _ _ _ _ _ _ _ _ ⟨fun eb=>by
    rw[if_pos (hb2.1 eb)]at hG
    subst hG
    exact(by repeat' first|apply And.intro|exact rfl|exact True.intro),fun eb=>by
    have hn:¬(p1.wAE≠2∨false=true):=fun hh=>by rw[hb2.2 hh]at eb;cases eb
    rw[if_neg hn]at hG
    subst hG
    exact⟨⟨hB,rfl,rfl,rfl⟩,(by repeat' first|apply And.intro|exact rfl|exact True.intro)⟩⟩
  exact⟨fun em=>j true ⟨fun _=> .inl (by simpa using em),fun _=>rfl⟩,fun em=>j false ⟨fun hh=>(by cases hh),fun hh=>hh.elim (fun h2=>(h2 (by simpa using em)).elim) id⟩⟩
noncomputable def kev:Con TB.den:= .tp 29 [.st 18] [.st 18] [] fun(p0:wAj)=>(p0,())
theorem kgv:kev.Ok Tryz.prog TB:=qtv Bs Tryz.func29 .no c0 (Q:=∀(p0:wAj),∀r0:wAj,p0=r0-> 
p0.wAK=r0.wAK/\p0.wY=r0.wY/\p0.Tx=r0.Tx/\p0.wAT=r0.wAT/\p0.wAS=r0.wAS/\p0.wAL=r0.wAL/\p0.wAV=r0.wAV/\p0.wAU=r0.wAU/\p0.wAM=r0.wAM) (by kernel_rfl)<|by
 rintro p0 _ rfl
 exact(by repeat' first|apply And.intro|exact rfl|exact True.intro)
noncomputable def kda:Con TB.den:= .tp 14 [.st 19] [.st 19] [] fun(p0:wAI)=>(p0,())
theorem kep:kda.Ok Tryz.prog TB:=qtv Bs Tryz.func14 .no (kgv.c c0) (Q:=∀(p0:wAI),∀r0:wAI,p0=r0-> 
p0.wAg=r0.wAg/\p0.wAr=r0.wAr/\p0.wAe=r0.wAe/\p0.wAW=r0.wAW/\p0.wAh=r0.wAh/\p0.wAC=r0.wAC/\p0.wAB=r0.wAB/\p0.wAR=r0.wAR/\p0.wz=r0.wz/\p0.wd=r0.wd/\p0.wt=r0.wt/\p0.wy=r0.wy/\p0.we=r0.we/\p0.wv=r0.wv) (by kernel_rfl)<|by
 rintro p0 _ rfl
 exact(by repeat' first|apply And.intro|exact rfl|exact True.intro)
noncomputable def keo:Con TB.den:= .tp 19 [] [.st 0] [] ((wJ.mk 2 2 0 0 0 50 3 5 1:wJ),())
theorem kgr:keo.Ok Tryz.prog TB:=qtv Bs Tryz.func19 .no c0 (Q:=∀r0:wJ,wJ.mk 2 2 0 0 0 50 3 5 1=r0-> 
2=r0.wAE/\2=r0.wC/\0=r0.wR/\0=r0.wO/\0=r0.wN/\50=r0.wQ/\3=r0.wm/\5=r0.wc/\1=r0.wAJ) (by kernel_rfl)<|by
 rintro _ rfl
 exact(by repeat' first|apply And.intro|exact rfl|exact True.intro)
noncomputable def k5j:Con TB.den:= .t ⟨25,[],[],(.one (.one (.ptr 0 0))),[.cells [.d (.bool),zqu,zqi,.d (.sl (.st 4)),.mp 1,.mp 2,.mp 3],.map (.str) yqi,.map (.str) (.sl yqu),.map (.str) (.bool)],false⟩ [] [.bool,yqu,yqi,.sl (.st 4),.sl (.str),.sl yqi,.sl (.str),.sl (.sl yqu),.sl (.str),.sl (.bool)] [] (false,(0:Int),(0:Int),([]:List wE),([]:List ByteArray),([]:List Int),([]:List ByteArray),([]:List (List Int)),([]:List ByteArray),([]:List Bool),())
theorem k71:k5j.Ok Tryz.prog TB:=ptv Bs Tryz.func25 .no c0 (Q:=∀Ao:Bool,(false:Bool)=Ao->∀Am:Int,(0:Int)=Am->∀Ap:Int,(0:Int)=Ap->∀Aq:List wE,([]:List wE)=Aq->∀e1k:List ByteArray,([]:List ByteArray)=e1k->∀e1v:List Int,([]:List Int)=e1v->∀e2k:List ByteArray,([]:List ByteArray)=e2k->∀e2v:List (List Int),([]:List (List Int))=e2v->∀e3k:List ByteArray,([]:List ByteArray)=e3k->∀e3v:List Bool,([]:List Bool)=e3v-> 
false=Ao/\0=Am/\0=Ap/\([]:List wE)=Aq/\([]:List ByteArray)=e1k/\([]:List Int)=e1v/\([]:List ByteArray)=e2k/\([]:List (List Int))=e2v/\([]:List ByteArray)=e3k/\([]:List Bool)=e3v) (by kernel_rfl)<|by
 rintro _ rfl _ rfl _ rfl _ rfl _ rfl _ rfl _ rfl _ rfl _ rfl _ rfl
 exact⟨rfl,rfl,rfl,rfl,rfl,rfl,rfl,rfl,rfl,rfl⟩
noncomputable def kba:Con TB.den:= .t ⟨9,[],[],(.one (.one (.ptr 0 0))),[.cells [.d (.bool),zqu,zqi,.d (.sl (.st 4)),.mp 1,.mp 2,.mp 3],.map (.str) yqi,.map (.str) (.sl yqu),.map (.str) (.bool)],false⟩ [] [.bool,yqu,yqi,.sl (.st 4),.sl (.str),.sl yqi,.sl (.str),.sl (.sl yqu),.sl (.str),.sl (.bool)] [] (false,(0:Int),(0:Int),([]:List wE),([]:List ByteArray),([]:List Int),([]:List ByteArray),([]:List (List Int)),([]:List ByteArray),([]:List Bool),())
theorem k5e:kba.Ok Tryz.prog TB:=ptv Bs Tryz.func9 .no (k71.c c0) (Q:=∀Ao:Bool,(false:Bool)=Ao->∀Am:Int,(0:Int)=Am->∀Ap:Int,(0:Int)=Ap->∀Aq:List wE,([]:List wE)=Aq->∀e1k:List ByteArray,([]:List ByteArray)=e1k->∀e1v:List Int,([]:List Int)=e1v->∀e2k:List ByteArray,([]:List ByteArray)=e2k->∀e2v:List (List Int),([]:List (List Int))=e2v->∀e3k:List ByteArray,([]:List ByteArray)=e3k->∀e3v:List Bool,([]:List Bool)=e3v-> 
false=Ao/\0=Am/\0=Ap/\[]=Aq/\[]=e1k/\[]=e1v/\[]=e2k/\[]=e2v/\[]=e3k/\[]=e3v) (by kernel_rfl)<|by
 rintro _ rfl _ rfl _ rfl _ rfl _ rfl _ rfl _ rfl _ rfl _ rfl _ rfl
 exact⟨rfl,rfl,rfl,rfl,rfl,rfl,rfl,rfl,rfl,rfl⟩
noncomputable def kgt:Con TB.den:= .gp 49 [.sl yqu,.sl yqu] [.bool] [] fun(p0 p1:List Int)=>(p0.length<=9223372036854775807/\p1.length<=9223372036854775807,(decide (p0=p1):Bool),())
theorem kir:kgt.Ok Tryz.prog TB:=qrv Bs Tryz.func49 (.r 1 (.nd [] (.r 0 (.lp [] ⟨[],[],[5],[.one (zqi)],[]⟩ .no)) [] .no)) c0 (Q:=∀(p0 p1:List Int),(p0.length<=9223372036854775807/\p1.length<=9223372036854775807)->∀r0:Bool,(decide (p0=p1))=r0-> 
(((p0.length:Int) !=(p1.length:Int))=true->
false=r0)/\
(((p0.length:Int) !=(p1.length:Int))=false->
∃(I1:Int->Prop) (M1:Int->Nat),I1 0/\∀(b1:Int),(I1 b1->
(decide (b1<(p0.length:Int))=true->
(0<=b1)/\b1<(p0.length:Int)/\(0<=b1)/\b1<(p1.length:Int)/\(((ix p0 b1) !=(ix p1 b1))=true->
false=r0)/\
(((ix p0 b1) !=(ix p1 b1))=false->
I1 (i64.wrap (b1+1))/\M1 (i64.wrap (b1+1))<M1 b1))/\
(decide (b1<(p0.length:Int))=false->
true=r0)))) (by kernel_rfl)<|by
 rintro p0 p1 h _ rfl
 obtain⟨h1,h2⟩:=h
 have no:p0≠p1->false=decide (p0=p1):=fun h=>(decide_eq_false h).symm
 refine⟨fun e=>no ?_,fun e=> ?_⟩
 ·rintro rfl
  simp at e
 have e:(p0.length:Int)=p1.length:=by simpa using e
 refine⟨(fun i=>0<=i/\i<=p0.length/\p0.take i.toNat=p1.take i.toNat),(fun i=>(p0.length-i).toNat),⟨by omega,by omega,by simp⟩,?_⟩
 rintro i ⟨g0,g1,g2⟩
 refine⟨fun hh=> ?_,fun hh=> ?_⟩
 ·have hh:=of_decide_eq_true hh
  refine⟨g0,hh,g0,by omega,fun e2=>no ?_,fun e2=> ?_⟩
  ·rintro rfl
   simp at e2
  ·have e2:ix p0 i=ix p1 i:=by simpa using e2
   rw[inc i p0.length g0 hh (by omega)]
   refine⟨⟨by omega,by omega,?_⟩,by(first|omega|(dsimp only;omega))⟩
   rw[kg p0 i g0 hh,kg p1 i g0 (by omega),g2,e2]
 ·have hh:=of_decide_eq_false hh
  rw[List.take_of_length_le (by omega),List.take_of_length_le (by omega)]at g2
  exact(decide_eq_true g2).symm
noncomputable def k60:Con TB.den:= .gp 28 [.st 4,.st 4] [.bool] [] fun(p0 p1:wE)=>(p0.wAa.length<=9223372036854775807/\p1.wAa.length<=9223372036854775807,(sameQ p0 p1:Bool),())
theorem k74:k60.Ok Tryz.prog TB:=qrv Bs Tryz.func28 .no (kir.c c0) (Q:=∀(p0 p1:wE),(p0.wAa.length<=9223372036854775807/\p1.wAa.length<=9223372036854775807)->∀r0:Bool,sameQ p0 p1=r0-> 
((p0.wAl==p1.wAl)=true->
((p0.wAd==p1.wAd)=true->
(p0.wAa.length<=9223372036854775807/\p1.wAa.length<=9223372036854775807)/\(decide (p0.wAa=p1.wAa))=r0)/\
((p0.wAd==p1.wAd)=false->
false=r0))/\
((p0.wAl==p1.wAl)=false->
false=r0)) (by kernel_rfl)<|by
 rintro p0 p1 h _ rfl
 refine⟨fun e=>⟨fun e2=>⟨h,?_⟩,fun e2=> ?_⟩,fun e=> ?_⟩<;>unfold sameQ
 ·rw[e,e2];rfl
 ·rw[e,e2];rfl
 ·rw[e];rfl
noncomputable def kh7:Con TB.den:= .gp 13 [.st 19,.st 19] [.bool] [] fun(p0 p1:wAI)=>((p0.wd.length<=9223372036854775807/\p1.wd.length<=9223372036854775807)/\p0.we.length<=9223372036854775807/\p1.we.length<=9223372036854775807,(sameR p0 p1:Bool),())
theorem kic:kh7.Ok Tryz.prog TB:=qrv Bs Tryz.func13 .no (k74.c c0) (Q:=∀(p0 p1:wAI),((p0.wd.length<=9223372036854775807/\p1.wd.length<=9223372036854775807)/\p0.we.length<=9223372036854775807/\p1.we.length<=9223372036854775807)->∀r0:Bool,sameR p0 p1=r0-> 
((p0.wAg==p1.wAg)=true->
((p0.wAr==p1.wAr)=true->
((p0.wAe==p1.wAe)=true->
((p0.wAW==p1.wAW)=true->
((p0.wAh==p1.wAh)=true->
((p0.wAC==p1.wAC)=true->
((p0.wAB==p1.wAB)=true->
((p0.wAR==p1.wAR)=true->
((wE.mk p0.wz p0.wd p0.wt).wAa.length<=9223372036854775807/\(wE.mk p1.wz p1.wd p1.wt).wAa.length<=9223372036854775807)/\let r1:Bool:=(sameQ (wE.mk p0.wz p0.wd p0.wt) (wE.mk p1.wz p1.wd p1.wt))
(r1=true->
((wE.mk p0.wy p0.we p0.wv).wAa.length<=9223372036854775807/\(wE.mk p1.wy p1.we p1.wv).wAa.length<=9223372036854775807)/\let r2:Bool:=(sameQ (wE.mk p0.wy p0.we p0.wv) (wE.mk p1.wy p1.we p1.wv))
r2=r0)/\
(r1=false->
false=r0))/\
((p0.wAR==p1.wAR)=false->
false=r0))/\
((p0.wAB==p1.wAB)=false->
false=r0))/\
((p0.wAC==p1.wAC)=false->
false=r0))/\
((p0.wAh==p1.wAh)=false->
false=r0))/\
((p0.wAW==p1.wAW)=false->
false=r0))/\
((p0.wAe==p1.wAe)=false->
false=r0))/\
((p0.wAr==p1.wAr)=false->
false=r0))/\
((p0.wAg==p1.wAg)=false->
false=r0)) (by kernel_rfl)<|by
 rintro p0 p1 h _ rfl
 unfold sameR
 refine⟨fun e1=>⟨fun e2=>⟨fun e3=>⟨fun e4=>⟨fun e5=>⟨fun e6=>⟨fun e7=>⟨fun e8=>⟨h.1,fun e9=>⟨h.2,?_⟩,fun e9=> ?_⟩,fun e8=> ?_⟩,fun e7=> ?_⟩,fun e6=> ?_⟩,fun e5=> ?_⟩,fun e4=> ?_⟩,fun e3=> ?_⟩,fun e2=> ?_⟩,fun e1=> ?_⟩
 ·rw[e1,e2,e3,e4,e5,e6,e7,e8,show sameQ (qA p0) (qA p1)=true from e9];rfl
 ·rw[e1,e2,e3,e4,e5,e6,e7,e8,show sameQ (qA p0) (qA p1)=false from e9];rfl
 ·rw[e1,e2,e3,e4,e5,e6,e7,e8];rfl
 ·rw[e1,e2,e3,e4,e5,e6,e7];rfl
 ·rw[e1,e2,e3,e4,e5,e6];rfl
 ·rw[e1,e2,e3,e4,e5];rfl
 ·rw[e1,e2,e3,e4];rfl
 ·rw[e1,e2,e3];rfl
 ·rw[e1,e2];rfl
 ·rw[e1];rfl
noncomputable def ker:Con TB.den:= .tp 6 [] [.bool] [] (true,())
theorem ki3:ker.Ok Tryz.prog TB:=qtv Bs Tryz.func6 .no (k5e.c (kgr.c (k54.c (kep.c (kic.c c0))))) (Q:=∀r0:Bool,(true:Bool)=r0-> 
let v1:List wT:=[wT.mk 0 1 7 0 0 ([]:List wl),wT.mk 0 2 8 0 0 ([]:List wl)]
((BLk v1/\(wJ.mk 2 2 0 0 0 50 3 5 1).wC<=6/\0<=(wJ.mk 2 2 0 0 0 50 3 5 1).wQ)/\false=false/\[]=([]:List ByteArray)/\[]=([]:List Int))/\let r2:=(audS false (wJ.mk 2 2 0 0 0 50 3 5 1) v1).1
let r3:Int:=((audS false (wJ.mk 2 2 0 0 0 50 3 5 1) v1).2)
((BLk [wT.mk 0 2 0 0 0 ([]:List wl)]/\(wJ.mk 2 2 0 0 0 50 3 5 1).wC<=6/\0<=(wJ.mk 2 2 0 0 0 50 3 5 1).wQ)/\false=false/\[]=([]:List ByteArray)/\[]=([]:List Int))/\let r4:=(audS false (wJ.mk 2 2 0 0 0 50 3 5 1) [wT.mk 0 2 0 0 0 ([]:List wl)]).1
let r5:Int:=((audS false (wJ.mk 2 2 0 0 0 50 3 5 1) [wT.mk 0 2 0 0 0 ([]:List wl)]).2)
((r3==0)=true->
((r2.wd.length<=9223372036854775807/\(wAI.mk 100 100 0 0 0 0 0 0 0 ([]:List Int) 0 0 ([]:List Int) 0).wd.length<=9223372036854775807)/\r2.we.length<=9223372036854775807/\(wAI.mk 100 100 0 0 0 0 0 0 0 ([]:List Int) 0 0 ([]:List Int) 0).we.length<=9223372036854775807)/\let r6:Bool:=(sameR r2 (wAI.mk 100 100 0 0 0 0 0 0 0 ([]:List Int) 0 0 ([]:List Int) 0))
(r6=true->
(r5==18)=r0)/\
(r6=false->
false=r0))/\
((r3==0)=false->
false=r0)) (by kernel_rfl)<|by
 rintro _ rfl
 have hw:∀b:wT,b.Txs=[]->U64 b.wAo->BR' b:=fun b h1 h2=>⟨h2,fun t ht=>(by rw[h1]at ht;cases ht),fun t ht=>(by rw[h1]at ht;cases ht)⟩
 have b2:BLk [wT.mk 0 1 7 0 0 [],wT.mk 0 2 8 0 0 []]:=⟨fun b hb=>(by simp at hb;rcases hb with rfl|rfl<;>exact hw _ rfl ⟨by decide,by decide⟩),fun b hb=>(by simp at hb;rcases hb with rfl|rfl<;>exact Nat.zero_le _),by decide⟩
 have b1:BLk [wT.mk 0 2 0 0 0 []]:=⟨fun b hb=>(by simp at hb;subst hb;exact hw _ rfl ⟨by decide,by decide⟩),fun b hb=>(by simp at hb;subst hb;exact Nat.zero_le _),by decide⟩
 have e1:audS false (wJ.mk 2 2 0 0 0 50 3 5 1) [wT.mk 0 1 7 0 0 [],wT.mk 0 2 8 0 0 []]=(wAI.mk 100 100 0 0 0 0 0 0 0 [] 0 0 [] 0,0):=by kernel_rfl
 have e2:(audS false (wJ.mk 2 2 0 0 0 50 3 5 1) [wT.mk 0 2 0 0 0 []]).2=18:=by kernel_rfl
 refine⟨⟨⟨b2,by decide,by decide⟩,rfl,rfl,rfl⟩,?_⟩
 dsimp only
 rw[e1,e2]
 refine⟨⟨⟨b1,by decide,by decide⟩,by trivial,by trivial,by trivial⟩,fun _=>⟨⟨⟨by decide,by decide⟩,by decide,by decide⟩,?_⟩,fun h=>by cases h⟩
 rw[kjq]
 exact⟨fun _=>rfl,fun h=>by cases h⟩
noncomputable def kez:Con TB.den:= .gp 20 [.st 2,yqi] [.bool] [] fun(p0:wl) (p1:Int)=>(p0.wB.length<=9223372036854775807,(smallB p0 p1:Bool),())
theorem kgl:kez.Ok Tryz.prog TB:=qrv Bs Tryz.func20 (.r 0 (.nd [] (.r 0 (.lp [] ⟨[],[],[5],[.one (zqi)],[]⟩ .no)) [] .no)) c0 (Q:=∀(p0:wl) (p1:Int),(p0.wB.length<=9223372036854775807)->∀r0:Bool,smallB p0 p1=r0-> 
∃(I1:Int->Prop) (M1:Int->Nat),I1 0/\∀(b1:Int),(I1 b1->
(decide (b1<(p0.wB.length:Int))=true->
(0<=b1)/\b1<(p0.wB.length:Int)/\let v1:Bool:=decide (10<(((ix p0.wB b1).wAA).length:Int))
(v1=true->
false=r0)/\
(v1=false->
I1 (i64.wrap (b1+1))/\M1 (i64.wrap (b1+1))<M1 b1))/\
(decide (b1<(p0.wB.length:Int))=false->
(decide ((p0.wG.length:Int)<=10)=true->
(decide ((p0.wB.length:Int)<=10)=true->
decide ((p0.wAH.length:Int)<=p1)=r0)/\
(decide ((p0.wB.length:Int)<=10)=false->
false=r0))/\
(decide ((p0.wG.length:Int)<=10)=false->
false=r0)))) (by kernel_rfl)<|by
 rintro p0 p1 h _ rfl
 refine(⟨(fun i=>0<=i/\i<=p0.wB.length/\∀x∈p0.wB.take i.toNat,x.wAA.length<=10),(fun i=>(p0.wB.length-i).toNat),⟨by omega,by omega,by simp⟩,?_⟩)
 rintro i ⟨g0,g1,g2⟩
 refine⟨fun hh=> ?_,fun hh=> ?_⟩
 ·have hh:=of_decide_eq_true hh
  refine⟨g0,hh,fun e=> ?_,fun e=> ?_⟩
  ·have e:=of_decide_eq_true e
   unfold smallB
   have:p0.wB.all (fun x=>decide (x.wAA.length<=10))=false:=List.all_eq_false.2 ⟨_,ix_mem p0.wB i g0 hh,by simp;omega⟩
   rw[this]
   simp
  ·have e:=of_decide_eq_false e
   rw[inc i p0.wB.length g0 hh (by omega)]
   refine⟨⟨by omega,by omega,?_⟩,by(dsimp only;omega)⟩
   rw[kg p0.wB i g0 hh]
   intro x hx
   rcases List.mem_append.1 hx with hx|hx
   ·exact g2 x hx
   ·have:x=ix p0.wB i:=by simpa using hx
    rw[this];omega
 ·have hh:=of_decide_eq_false hh
  rw[List.take_of_length_le (by omega)]at g2
  unfold smallB
  have:p0.wB.all (fun x=>decide (x.wAA.length<=10))=true:=by simpa using g2
  rw[this]
  refine⟨fun h1=>⟨fun h2=> ?_,fun h2=> ?_⟩,fun h1=> ?_⟩
  ·have h1:=of_decide_eq_true h1
   have h2:=of_decide_eq_true h2
   rw[decide_eq_true (p:=p0.wG.length<=10) (by omega),decide_eq_true (p:=p0.wB.length<=10) (by omega)]
   simp
  ·have h2:=of_decide_eq_false h2
   rw[decide_eq_false (p:=p0.wB.length<=10) (by omega)]
   simp
  ·have h1:=of_decide_eq_false h1
   rw[decide_eq_false (p:=p0.wG.length<=10) (by omega)]
   simp
noncomputable def kfa:Con TB.den:= .gp 7 [.st 0,.sl (.st 3)] [.bool] [] fun(p0:wJ) (p1:List wT)=>(p1.length<=9223372036854775807/\∀b∈p1,b.Txs.length<=9223372036854775807/\∀t∈b.Txs,t.wB.length<=9223372036854775807,(smA p0 p1:Bool),())
theorem kho:kfa.Ok Tryz.prog TB:=qrv Bs Tryz.func7 (.r 1 (.nd [] (.r 0 (.lp [] ⟨[],[],[5],[.one (zqi)],[]⟩ (.r 0 (.nd [] (.r 1 (.lp [] ⟨[],[],[6],[.one (zqi)],[]⟩ .no)) [] .no)))) [] .no)) (kgl.c c0) (Q:=∀(p0:wJ) (p1:List wT),(p1.length<=9223372036854775807/\∀b∈p1,b.Txs.length<=9223372036854775807/\∀t∈b.Txs,t.wB.length<=9223372036854775807)->∀r0:Bool,smA p0 p1=r0-> 
(decide (p0.wC<1)=true->
false=r0)/\
(decide (p0.wC<1)=false->
(decide (6<p0.wC)=true->
false=r0)/\
(decide (6<p0.wC)=false->
(decide (8<(p1.length:Int))=true->
false=r0)/\
(decide (8<(p1.length:Int))=false->
∃(I1:Int->Prop) (M1:Int->Nat),I1 0/\∀(b1:Int),(I1 b1->
(decide (b1<(p1.length:Int))=true->
(0<=b1)/\b1<(p1.length:Int)/\let v1:Bool:=decide (4<(((ix p1 b1).Txs).length:Int))
(v1=true->
false=r0)/\
(v1=false->
∃(I2:Int->Prop) (M2:Int->Nat),I2 0/\∀(f1:Int),(I2 f1->
(0<=b1)/\b1<(p1.length:Int)/\let v2:Bool:=decide (f1<(((ix p1 b1).Txs).length:Int))
(v2=true->
(0<=b1)/\b1<(p1.length:Int)/\(0<=f1)/\f1<(((ix p1 b1).Txs).length:Int)/\((ix ((ix p1 b1).Txs) f1).wB.length<=9223372036854775807)/\let r3:Bool:=(smallB (ix ((ix p1 b1).Txs) f1) (1200:Int))
((!r3)=true->
false=r0)/\
((!r3)=false->
I2 (i64.wrap (f1+1))/\M2 (i64.wrap (f1+1))<M2 f1))/\
(v2=false->
I1 (i64.wrap (b1+1))/\M1 (i64.wrap (b1+1))<M1 b1))))/\
(decide (b1<(p1.length:Int))=false->
true=r0)))))) (by kernel_rfl)<|by
 rintro p0 p1 h _ rfl
 obtain⟨hl,hb⟩:=h
 refine⟨fun e1=> ?_,fun e1=>⟨fun e2=> ?_,fun e2=>⟨fun e3=> ?_,fun e3=> ?_⟩⟩⟩
 ·have e1:=of_decide_eq_true e1
  unfold smA
  rw[decide_eq_false (p:=1<=p0.wC) (by omega)]
  rfl
 ·have e2:=of_decide_eq_true e2
  unfold smA
  rw[decide_eq_false (p:=p0.wC<=6) (by omega)]
  simp
 ·have e3:=of_decide_eq_true e3
  unfold smA
  rw[decide_eq_false (p:=(p1.length:Int)<=8) (by omega)]
  simp
 have e1:=of_decide_eq_false e1
 have e2:=of_decide_eq_false e2
 have e3:=of_decide_eq_false e3
 have es:smA p0 p1=p1.all (fun b=>decide ((b.Txs.length:Int)<=4)&&b.Txs.all (fun t=>smallB t 1200)):=by
  unfold smA
  rw[decide_eq_true (p:=1<=p0.wC) (by omega),decide_eq_true (p:=p0.wC<=6) (by omega),decide_eq_true (p:=(p1.length:Int)<=8) (by omega)]
  rfl
 rw[es]
 refine⟨(fun i=>0<=i/\i<=p1.length/\∀x∈p1.take i.toNat,(decide ((x.Txs.length:Int)<=4)&&x.Txs.all (fun t=>smallB t 1200))=true),(fun i=>(p1.length-i).toNat),⟨by omega,by omega,by simp⟩,?_⟩
 rintro i ⟨g0,g1,g2⟩
 refine⟨fun hh=> ?_,fun hh=> ?_⟩
 ·have hh:=of_decide_eq_true hh
  have hm:=ix_mem p1 i g0 hh
  obtain⟨b1,b2⟩:=hb _ hm
  refine⟨g0,hh,fun e=> ?_,fun e=> ?_⟩
  ·have e:=of_decide_eq_true e
   exact(List.all_eq_false.2 ⟨_,hm,by rw[decide_eq_false (p:=((ix p1 i).Txs.length:Int)<=4) (by omega)];simp⟩).symm
  ·have e:=of_decide_eq_false e
   refine⟨(fun k=>0<=k/\k<=(ix p1 i).Txs.length/\∀x∈(ix p1 i).Txs.take k.toNat,smallB x 1200=true),(fun k=>((ix p1 i).Txs.length-k).toNat),⟨by omega,by omega,by simp⟩,?_⟩
   rintro k ⟨k0,k1,k2⟩
   refine⟨g0,hh,fun hk=> ?_,fun hk=> ?_⟩
   ·have hk:=of_decide_eq_true hk
    have hn:=ix_mem (ix p1 i).Txs k k0 hk
    refine⟨g0,hh,k0,hk,b2 _ hn,fun e4=> ?_,fun e4=> ?_⟩
    ·have e4:smallB (ix (ix p1 i).Txs k) 1200=false:=by simpa using e4
     refine(List.all_eq_false.2 ⟨_,hm,?_⟩).symm
     have:(ix p1 i).Txs.all (fun t=>smallB t 1200)=false:=List.all_eq_false.2 ⟨_,hn,by simp[e4]⟩
     rw[this]
     simp
    ·rw[inc k (ix p1 i).Txs.length k0 hk (by omega)]
     refine⟨⟨by omega,by omega,?_⟩,by(first|omega|(dsimp only;omega))⟩
     rw[kg (ix p1 i).Txs k k0 hk]
     intro t ht
     rcases List.mem_append.1 ht with ht|ht
     ·exact k2 t ht
     ·rw[List.mem_singleton.1 ht];simpa using e4
   ·have hk:=of_decide_eq_false hk
    rw[List.take_of_length_le (by omega)]at k2
    rw[inc i p1.length g0 hh (by omega)]
    refine⟨⟨by omega,by omega,?_⟩,by(first|omega|(dsimp only;omega))⟩
    rw[kg p1 i g0 hh]
    intro t ht
    rcases List.mem_append.1 ht with ht|ht
    ·exact g2 t ht
    ·rw[List.mem_singleton.1 ht,decide_eq_true (p:=((ix p1 i).Txs.length:Int)<=4) (by omega),List.all_eq_true.2 k2]
     rfl
 ·have hh:=of_decide_eq_false hh
  rw[List.take_of_length_le (by omega)]at g2
  exact(List.all_eq_true.2 g2).symm
noncomputable def kz:Con TB.den:= .gp 3 [.st 0,.sl (.st 3)] [.bool] [] fun(p0:wJ) (p1:List wT)=>(0<=p0.wQ/\(∀b∈p1,U64 b.wAo/\∀t∈b.Txs,TR t)/\p1.length<=9223372036854775807/\∀b∈p1,b.Txs.length<=9223372036854775807/\∀t∈b.Txs,t.wB.length<=9223372036854775807,true,())
theorem k6u:kz.Ok Tryz.prog TB:=qrv Bs Tryz.func3 (.r 0 (.nd [] (.jn ⟨[],[],[14],[.one (.d (.bool))],[]⟩ [] .no [] .no) [] .no)) (ki3.c (kho.c (k5e.c (k54.c c0)))) (Q:=∀(p0:wJ) (p1:List wT),(0<=p0.wQ/\(∀b∈p1,U64 b.wAo/\∀t∈b.Txs,TR t)/\p1.length<=9223372036854775807/\∀b∈p1,b.Txs.length<=9223372036854775807/\∀t∈b.Txs,t.wB.length<=9223372036854775807)->∀r0:Bool,(true:Bool)=r0-> 
∀J1:Bool->Prop,(∀(b1:Bool),
((b1=true->
true=r0)/\
(b1=false->
((BLk p1/\p0.wC<=6/\0<=p0.wQ)/\false=false/\[]=([]:List ByteArray)/\[]=([]:List Int))/\((((audS false p0 p1).2) !=0)=true->
true=r0)/\
((((audS false p0 p1).2) !=0)=false->
let v1:Bool:=((((audS false p0 p1).1).wAC) !=0)
(v1=true->
true=r0)/\
(v1=false->
let v2:Int:=u64.wrap ((((audS false p0 p1).1).wAr)+(((audS false p0 p1).1).wAe))
(((((audS false p0 p1).1).wAg)==v2)=true->
let v3:Bool:=decide ((((audS false p0 p1).1).wAh)<=(((audS false p0 p1).1).wAW))
v3=r0)/\
(((((audS false p0 p1).1).wAg)==v2)=false->
false=r0)))))->J1 b1)->
((!true)=true->
J1 true)/\
((!true)=false->
(p1.length<=9223372036854775807/\∀b∈p1,b.Txs.length<=9223372036854775807/\∀t∈b.Txs,t.wB.length<=9223372036854775807)/\J1 (!(smA p0 p1)))) (by kernel_rfl)<|by
 rintro p0 p1 h _ rfl
 obtain⟨hw,hr,hs⟩:=h
 intro J1 k1
 refine⟨fun h=>by simp at h,fun _=>⟨hs,?_⟩⟩
 cases hsm:smA p0 p1 with
 |false=>exact k1 _ ⟨fun _=>rfl,fun h=>(by simp at h)⟩
 |true=>
  refine k1 _ ⟨fun h=>(by simp at h),fun _=> ?_⟩
  obtain⟨h6,hB⟩:=smA_B hsm hr
  refine⟨⟨⟨hB,h6,hw⟩,by trivial,by trivial,by trivial⟩,fun _=>rfl,fun he=>⟨fun _=>rfl,fun hk=> ?_⟩⟩
  have he:(audS false p0 p1).2=0:=bne_eq_false_iff_eq.1 he
  have hk:(audS false p0 p1).1.wAC=0:=bne_eq_false_iff_eq.1 hk
  obtain⟨q1,q2⟩:=aud_bal hw h6 hB he hk
  exact⟨fun _=>decide_eq_true q2,fun h=>by rw[q1]at h;simp at h⟩
end Go.Proofs.YtijdfglbhaedoaaGreat
end
