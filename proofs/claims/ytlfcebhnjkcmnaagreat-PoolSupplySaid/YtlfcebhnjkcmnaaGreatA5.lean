/-
  Parts of the proofs that the laws of this seat hold of every input, merged by a program: a machine over pure data that is sound for the model, what each function of the translation does in it, and plain lemmas. No conditions but those in each theorem.
-/
import Derived.Test.YtlfcebhnjkcmnaaGreatA4
set_option linter.all false
set_option maxRecDepth 100000
noncomputable section
namespace Go.Proofs.YtlfcebhnjkcmnaaGreat
open Go Go.Bv Go.Cv Go.Md Go.RowKit
def k18:Con TB.den:=Con.mk0 38 [.one (.d (.sl (.st 8)))] [] (.one (.one (.own 0))) [.tip (.st 8)]
abbrev kee:=CI k18
abbrev k6f:=CO k18
noncomputable def k8m:Cx TB:=⟨inf,[],[],4,[]⟩
noncomputable def kmq:Code:=Tryz.f38.body.getD .skip
noncomputable def kp2:List ResultVar:=Tryz.f38.results.toList
noncomputable def kp1 (o:k6f):An TB:= .nd [] .no [] (.nd [] (.nd [] .no [] (.rt [.tok 2 (.st 8)])) [] .no)
noncomputable def kow (o:k6f):An TB:= .nd [] .no [] (.nd [] (kp1 o) [] .no)
def k7y (x:kee) (o:k6f):Prop:=WPh TB k8m 8 0 kmq (kow o) (k18.st TB x) (retTQ TB k8m k18 kp2 o)
theorem kne {x:kee} {o:k6f} (h:k7y x o):k18.Snd Tryz.prog x o:=
 Con.soundH (c:=k18) (C:=k8m) TBok ⟨inf_ok,all_nil,all_nil⟩ mix Tryz.func38 (by kernel_rfl) (by kernel_rfl) (by kernel_rfl) rfl h (OblH.ofC (X:=True) (by kernel_rfl) trivial)
theorem kp0 {p0 e0:List wA} (h:
(∀z4:Bool,(z4=true->p0=[])->(z4=true->
(([]:List wA)=([]:List wA))/\([]:List wA)=e0)/\
(z4=false->
(([]:List wA).length+p0.length)*24<=140737488355328/\([]:List wA).length+p0.length<=maxLen/\(([]:List wA)++p0=([]:List wA)++p0)/\([]:List wA)++p0=e0))):k7y (p0,()) (e0,()):=WPh.of_eq (by kernel_rfl) h
theorem kmk (p0:List wA) (h:p0.length<=100000):k7y (p0,()) ((p0:List wA),()):=by
 exact kp0 fun z hz=>⟨fun h=>⟨rfl,(hz h).symm⟩,fun _=>⟨by simp;omega,by simp;unfold maxLen;omega,rfl,rfl⟩⟩
noncomputable def kdd:Con TB.den:=k18.fnR (fun x=>(fun(p0:List wA)=>p0.length<=100000) x.1) fun x=>(fun(p0:List wA)=>(p0,())) x.1
theorem kp8:kdd.Ok Tryz.prog TB:=Con.ok_fn k18 bd38 fun x h=>kne (kmk x.1 h)
def k2j:Con TB.den:=Con.mk0 75 [.agg [.d (.sl (.st 8))],.agg [zqu,zqu,zqu]] [] (.one (.agg [.d (.sl (.st 8))])) []
abbrev k13a:=CI k2j
abbrev k36:=CO k2j
noncomputable def k38:Cx TB:=⟨inf,[kjh,kdd],[],4,[]⟩
noncomputable def ka6:Code:=Tryz.f75.body.getD .skip
noncomputable def kdh:List ResultVar:=Tryz.f75.results.toList
def kbk:Tm:=⟨[0,2,3],[.cells [.d (.sl (.st 8))],.cells [.full (.st 8)],.tip (.st 8)],[2,4,5,7],[.one (.ptr 0 0),.one (.ptr 1 0),.one (zqi),.one (.own 2)],4⟩
def kvk (o:k36) (i:HL TB.den kbk.hs):Prop:=ghs TB [] (kbk.fill TB i) fun s=>WP TB k38 42 0 (cB (cB (cB (cB (cB ka6))))) .no s (retTQ TB k38 k2j kdh o)
structure k85 (o:k36) (i:HL TB.den kbk.hs):Prop where
 h:kvk o i
def kc2:Tm:=⟨[0,2,3],[.cells [.d (.sl (.st 8))],.cells [.full (.st 8)],.tip (.st 8)],[2,4,5,6,7],[.one (.ptr 0 0),.one (.ptr 1 0),.one (zqi),.one (.d (.bool)),.one (.own 2)],4⟩
def kw4 (o:k36) (i:HL TB.den kc2.hs):Prop:=ghs TB [] (kc2.fill TB i) fun s=>WP TB k38 42 0 (cB (cB (cB (cB ka6)))) (.jn kbk (k85 o) [] .no [] .no) s (retTQ TB k38 k2j kdh o)
structure k8b (o:k36) (i:HL TB.den kc2.hs):Prop where
 h:kw4 o i
def k1m2 (o:k36):=qM TB 0 kc2 (k8b o) (retTQ TB k38 k2j kdh o)
def kfz:Tm:=⟨[0,1,2,3],[.cells [.d (.sl (.st 8))],.cells [zqu,zqu,zqu],.cells [.full (.st 8)],.tip (.st 8)],[2,3,4,5,6,7,27],[.one (.ptr 0 0),.one (.ptr 1 0),.one (.ptr 2 0),.one (zqi),.one (.d (.bool)),.one (.own 3),.one (.d (.bool))],4⟩
def kwe (o:k36) (i:HL TB.den kfz.hs):Prop:=ghs TB [] (kfz.fill TB i) fun s=>WP TB k38 42 0 (cB (cA (cB (cB (cB ka6))))) .no s (k1m2 o)
structure k9z (o:k36) (i:HL TB.den kfz.hs):Prop where
 h:kwe o i
noncomputable def k1nd (o:k36):An TB:= .jn kc2 (k8b o) [] (.jn kfz (k9z o) [] .no [] .no) [] (.jn kbk (k85 o) [] .no [] .no)
noncomputable def kzd (o:k36):An TB:= .nd [] .no [] (.nd [] .no [] (.nd [] .no [] (k1nd o)))
def kjd (x:k13a) (o:k36):Prop:=WPh TB k38 42 0 ka6 (kzd o) (k2j.st TB x) (retTQ TB k38 k2j kdh o)
theorem k1gi (o:k36):OblH TB k38 42 0 ka6 (kzd o) (retTQ TB k38 k2j kdh o):=
 OblH.ofC (X:=((∀i,(k9z o) i=kwe o i)/\(∀i,(k8b o) i=kw4 o i)/\(∀i,(k85 o) i=kvk o i)/\True)) (by kernel_rfl) ⟨fun _=>propext ⟨fun h=>h.1,fun h=>⟨h⟩⟩,fun _=>propext ⟨fun h=>h.1,fun h=>⟨h⟩⟩,fun _=>propext ⟨fun h=>h.1,fun h=>⟨h⟩⟩,trivial⟩
theorem k1ht {x:k13a} {o:k36} (h:kjd x o):k2j.Snd Tryz.prog x o:=
 Con.soundH (c:=k2j) (C:=k38) TBok ⟨inf_ok,(all_cons kvb (all_cons kp8 all_nil)),all_nil⟩ mix Tryz.func75 (by kernel_rfl) (by kernel_rfl) (by kernel_rfl) rfl h (k1gi o)
theorem k1la {p0:wg} {p1:wA} {r0:wg} (h:
((Srt p0.wB/\p0.wB.length<4611686018427387904)/\(0<=(lb p0.wB p1.ID:Int))/\(lb p0.wB p1.ID:Int)<=(p0.wB.length:Int)/\let v1:List wA:=p0.wB.take (lb p0.wB p1.ID:Int).toNat
(v1.length<=100000)/\((p1.wX !=0)=true->
(v1=v1)/\k9z (r0.wB,()) (((lb p0.wB p1.ID:Int):Int),((fnd p0.wB p1.ID):Bool),true,p0.wB,p1.ID,p1.wX,p1.wO,(([]:List wA):List wA),v1,()))/\
((p1.wX !=0)=false->
(v1=v1)/\k9z (r0.wB,()) (((lb p0.wB p1.ID:Int):Int),((fnd p0.wB p1.ID):Bool),((p1.wO !=0):Bool),p0.wB,p1.ID,p1.wX,p1.wO,(([]:List wA):List wA),v1,())))):kjd (p0.wB,p1.ID,p1.wX,p1.wO,()) (r0.wB,()):=WPh.of_eq (by kernel_rfl) h
theorem k19u {r0:wg} {s5:Int} {s6 s27:Bool} {Aa:List wA} {Ai Aj Ak:Int} {Cc g3:List wA} (h:
((s27=true->
 g3.length=g3.length/\(g3.length+[wA.mk Ai Aj Ak].length)*24<=140737488355328/\g3.length+[wA.mk Ai Aj Ak].length<=maxLen/\(g3++[wA.mk Ai Aj Ak]=g3++[wA.mk Ai Aj Ak])/\k8b (r0.wB,()) (s5,s6,Aa,Cc,(g3++[wA.mk Ai Aj Ak]:List wA),()))/\
(s27=false->
(g3=g3)/\k8b (r0.wB,()) (s5,s6,Aa,Cc,g3,())))):k9z (r0.wB,()) (s5,s6,s27,Aa,Ai,Aj,Ak,Cc,g3,()):=⟨mpr_of (by kernel_rfl) h⟩
theorem k1bf {r0:wg} {s5:Int} {s6:Bool} {Aa Cc g3:List wA} (h:
((s6=true->
(g3=g3)/\k85 (r0.wB,()) ((IntKind.i64.wrap (s5+1):Int),Aa,Cc,g3,()))/\
(s6=false->
(g3=g3)/\k85 (r0.wB,()) (s5,Aa,Cc,g3,())))):k8b (r0.wB,()) (s5,s6,Aa,Cc,g3,()):=⟨mpr_of (by kernel_rfl) h⟩
theorem k1bi {r0:wg} {s5:Int} {Aa Cc g3:List wA} (h:
((0<=s5)/\s5<=(Aa.length:Int)/\g3.length=g3.length/\(g3.length+(Aa.drop s5.toNat).length)*24<=140737488355328/\g3.length+(Aa.drop s5.toNat).length<=maxLen/\g3++(Aa.drop s5.toNat)=r0.wB)):k85 (r0.wB,()) (s5,Aa,Cc,g3,()):=⟨mpr_of (by kernel_rfl) h⟩
theorem bd75:Callable Tryz.prog 75:=⟨by rw[Tryz.func75];kernel_rfl,by rw[Tryz.func75];show some _≠some _;decide⟩
theorem k1dx (p0:wg) (p1:wA) (h:Srt p0.wB/\p0.wB.length<=1000):kjd (p0.wB,p1.ID,p1.wX,p1.wO,()) (((putA p0.wB p1):List wA),()):=by
 obtain⟨hs,hl⟩:=h
 have hlb:=lb_le p0.wB p1.ID
 have hJ3:∀(n:Nat) (m x:List wA),n<=p0.wB.length->m.length<=1001->m++p0.wB.drop n=putA p0.wB p1->k85 (putA p0.wB p1,()) ((n:Int),p0.wB,x,m,()):=by
  intro n m x hn hm he
  have:=(List.length_drop:(p0.wB.drop n).length=_)
  refine k1bi ⟨by omega,by omega,rfl,?_,?_,?_⟩
  ·simp only[Int.toNat_natCast];omega
  ·simp only[Int.toNat_natCast];unfold maxLen;omega
  ·simp only[Int.toNat_natCast];exact he
 have hJ2:∀m x:List wA,m=p0.wB.take (lb p0.wB p1.ID)++(if p1.wX≠0∨p1.wO≠0 then [p1]else [])->k8b (putA p0.wB p1,()) ((lb p0.wB p1.ID:Int),fnd p0.wB p1.ID,p0.wB,x,m,()):=by
  intro m x hm
  have hml:m.length<=1001:=by
   rw[hm];simp only[List.length_append,List.length_take];split<;>simp<;>omega
  refine k1bf ⟨fun hf=>⟨rfl,?_⟩,fun hf=>⟨rfl,?_⟩⟩
  ·obtain⟨hb,_⟩:=krk hf
   rw[inc_i64 _ (by omega)]
   refine hJ3 _ _ _ (by omega) hml ?_
   rw[hm]
   unfold putA
   rw[hf]
   rfl
  ·refine hJ3 _ _ _ (by omega) hml ?_
   rw[hm]
   unfold putA
   rw[hf]
   rfl
 have hJ1:∀(b:Bool) (x:List wA),(b=true↔(p1.wX≠0∨p1.wO≠0))->k9z (putA p0.wB p1,()) ((lb p0.wB p1.ID:Int),fnd p0.wB p1.ID,b,p0.wB,p1.ID,p1.wX,p1.wO,x,p0.wB.take (lb p0.wB p1.ID),()):=by
  intro b x hb
  refine k19u ⟨fun e=> ?_,fun e=> ?_⟩
  ·have hlt:(p0.wB.take (lb p0.wB p1.ID)).length<=1000:=by rw[List.length_take];omega
   refine⟨rfl,(len24 _ _ (Nat.le_trans hlt (by decide))).1,(len24 _ _ (Nat.le_trans hlt (by decide))).2,by first|exact rfl|exact True.intro,hJ2 _ _ ?_⟩
   rw[if_pos (hb.1 e)]
   rfl
  ·refine⟨rfl,hJ2 _ _ ?_⟩
   rw[if_neg (fun hh=>by rw[hb.2 hh]at e;cases e)]
   exact(List.append_nil _).symm
 refine k1la (r0:=⟨putA p0.wB p1⟩) ⟨⟨hs,by omega⟩,by omega,by omega,?_⟩
 simp only[Int.toNat_natCast]
 refine⟨by simp;omega,fun e=>⟨by first|exact rfl|exact True.intro,hJ1 _ _ ?_⟩,fun e=>⟨by first|exact rfl|exact True.intro,hJ1 _ _ ?_⟩⟩
 ·have:p1.wX≠0:=by simpa using e
  simp[this]
 ·have:p1.wX=0:=by simpa using e
  simp[this]
noncomputable def klu:Con TB.den:=k2j.fnR (fun(a0,a1,a2,a3,())=>(fun(p0:wg) (p1:wA)=>Srt p0.wB/\p0.wB.length<=1000) (wg.mk a0) (wA.mk a1 a2 a3)) fun(a0,a1,a2,a3,())=>(fun(p0:wg) (p1:wA)=>(((putA p0.wB p1):List wA),())) (wg.mk a0) (wA.mk a1 a2 a3)
theorem kzx:klu.Ok Tryz.prog TB:=Con.ok_fn k2j bd75 fun(a0,a1,a2,a3,()) h=>k1ht (k1dx (wg.mk a0) (wA.mk a1 a2 a3) h)
def k2q:Con TB.den:=Con.mk0 44 [.agg [.d (.sl (.st 8))],.one (zqu),.one (zqu),.one (zqu)] [] (.tup [.agg [.d (.sl (.st 8))],.one (zqi)]) []
abbrev kvo:=CI k2q
abbrev k5y:=CO k2q
noncomputable def k4y:Cx TB:=⟨inf,[kfh,klu],[],4,[]⟩
noncomputable def kbf:Code:=Tryz.f44.body.getD .skip
noncomputable def kjo:List ResultVar:=Tryz.f44.results.toList
def k1cg (o:k5y):=qS TB k4y 42 0 (cB (cB (cB (cB kbf)))) .no (retTQ TB k4y k2q kjo o)
def kcr:Tm:=⟨[0,1],[.cells [.d (.sl (.st 8))],.cells [.full (.st 8)]],[1,2,3,4,8,10,27],[.one (zqu),.one (zqu),.one (zqu),.one (.ptr 0 0),.one (.ptr 1 0),.one (zqu),.one (.d (.bool))],2⟩
def krv (o:k5y) (i:HL TB.den kcr.hs):Prop:=ghs TB [] (kcr.fill TB i) fun s=>WP TB k4y 42 0 (cB (cA (cB (cB (cB kbf))))) .no s (k1cg o)
structure k82 (o:k5y) (i:HL TB.den kcr.hs):Prop where
 h:krv o i
noncomputable def k1d1 (o:k5y):An TB:= .nd [] (.jn kcr (k82 o) [] .no [] .no) [] .no
noncomputable def kt9 (o:k5y):An TB:= .nd [] .no [] (.nd [] .no [] (.nd [] .no [] (k1d1 o)))
def kgt (x:kvo) (o:k5y):Prop:=WPh TB k4y 42 0 kbf (kt9 o) (k2q.st TB x) (retTQ TB k4y k2q kjo o)
theorem k194 (o:k5y):OblH TB k4y 42 0 kbf (kt9 o) (retTQ TB k4y k2q kjo o):=
 OblH.ofC (X:=((∀i,(k82 o) i=krv o i)/\True)) (by kernel_rfl) ⟨fun _=>propext ⟨fun h=>h.1,fun h=>⟨h⟩⟩,trivial⟩
theorem k1b9 {x:kvo} {o:k5y} (h:kgt x o):k2q.Snd Tryz.prog x o:=
 Con.soundH (c:=k2q) (C:=k4y) TBok ⟨inf_ok,(all_cons ko4 (all_cons kzx all_nil)),all_nil⟩ mix Tryz.func44 (by kernel_rfl) (by kernel_rfl) (by kernel_rfl) rfl h (k194 o)
theorem k1dr {p0:wg} {p1 p2 p3:Int} {r0:wg} {r1:Int} (h:
((Srt p0.wB/\p0.wB.length<4611686018427387904)/\((p2==0)=true->
([]:List wA)=r0.wB/\1=r1)/\
((p2==0)=false->
((p3 !=((getA p0.wB p1).wO))=true->
 k82 (r0.wB,r1,()) (p1,p2,p3,(((getA p0.wB p1).wX):Int),true,p0.wB,(([]:List wA):List wA),()))/\
((p3 !=((getA p0.wB p1).wO))=false->
 k82 (r0.wB,r1,()) (p1,p2,p3,(((getA p0.wB p1).wX):Int),((p3==18446744073709551615):Bool),p0.wB,(([]:List wA):List wA),()))))):kgt (p0.wB,p1,p2,p3,()) (r0.wB,r1,()):=WPh.of_eq (by kernel_rfl) h
theorem k12e {r0:wg} {r1 s1 s2 s3 s10:Int} {s27:Bool} {Aa Ai:List wA} (h:
((s27=true->
([]:List wA)=r0.wB/\20=r1)/\
(s27=false->
(decide (s10<s2)=true->
([]:List wA)=r0.wB/\15=r1)/\
(decide (s10<s2)=false->
(Srt (wg.mk Aa).wB/\(wg.mk Aa).wB.length<=1000)/\let r2:List wA:=(putA (wg.mk Aa).wB (wA.mk s1 (IntKind.u64.wrap (s10-s2)) (IntKind.u64.wrap (s3+1))))
 r2=r0.wB/\0=r1)))):k82 (r0.wB,r1,()) (s1,s2,s3,s10,s27,Aa,Ai,()):=⟨mpr_of (by kernel_rfl) h⟩
theorem bd44:Callable Tryz.prog 44:=⟨by rw[Tryz.func44];kernel_rfl,by rw[Tryz.func44];show some _≠some _;decide⟩
theorem k15z (p0:wg) (p1 p2 p3:Int) (h:OkA p0.wB/\U64 p2/\U64 p3):kgt (p0.wB,p1,p2,p3,()) (((debitA p0.wB p1 p2 p3).1:List wA),(((debitA p0.wB p1 p2 p3).2):Int),()):=by
 obtain⟨h,⟨ha,ha'⟩,hn,hn'⟩:=h
 obtain⟨g1,g2⟩:=getA_ok h p1
 refine k1dr (r0:=⟨(debitA p0.wB p1 p2 p3).1⟩) ⟨⟨h.1,by have:=h.2.1;omega⟩,fun hh=> ?_,fun hh=> ?_⟩
 ·have:p2=0:=by simpa using hh
  simp[debitA,this]
 have h0:p2≠0:=by simpa using hh
 have key:∀b:Bool,(b=true↔(p3≠(getA p0.wB p1).wO∨p3=18446744073709551615))->∀x,k82 ((debitA p0.wB p1 p2 p3).1,(debitA p0.wB p1 p2 p3).2,()) (p1,p2,p3,(getA p0.wB p1).wX,b,p0.wB,x,()):=by
  intro b hb x
  refine k12e (r0:=⟨(debitA p0.wB p1 p2 p3).1⟩) ⟨fun e=> ?_,fun e=> ?_⟩
  ·simp only[debitA,if_neg h0,if_pos (hb.1 e)]
   exact⟨by first|exact rfl|exact True.intro,by first|exact rfl|exact True.intro⟩
  ·have h1:¬(p3≠(getA p0.wB p1).wO∨p3=18446744073709551615):=fun hh=>by rw[hb.2 hh]at e;cases e
   simp only[debitA,if_neg h0,if_neg h1]
   refine⟨fun hh=> ?_,fun hh=> ?_⟩
   ·have:=of_decide_eq_true hh
    simp[this]
   ·have h2:=of_decide_eq_false hh
    simp only[if_neg h2]
    have:p3≠18446744073709551615:=fun e=>h1 (.inr e)
    rw[wrap_u64 _ (by omega) (by omega),wrap_u64 (p3+1) (by omega) (by omega)]
    exact⟨⟨h.1,h.2.1⟩,rfl,by first|exact rfl|exact True.intro⟩
 refine⟨fun e=>key _ ?_ _,fun e=>key _ ?_ _⟩
 ·have:p3≠(getA p0.wB p1).wO:=by simpa using e
  simp[this]
 ·have:p3=(getA p0.wB p1).wO:=by simpa using e
  rw[this];simp
noncomputable def ki7:Con TB.den:=k2q.fnR (fun(a0,a1,a2,a3,())=>(fun(p0:wg) (p1 p2 p3:Int)=>OkA p0.wB/\U64 p2/\U64 p3) (wg.mk a0) a1 a2 a3) fun(a0,a1,a2,a3,())=>(fun(p0:wg) (p1 p2 p3:Int)=>(((debitA p0.wB p1 p2 p3).1:List wA),(((debitA p0.wB p1 p2 p3).2):Int),())) (wg.mk a0) a1 a2 a3
theorem kto:ki7.Ok Tryz.prog TB:=Con.ok_fn k2q bd44 fun(a0,a1,a2,a3,()) h=>k1b9 (k15z (wg.mk a0) a1 a2 a3 h)
def k2s:Con TB.den:=Con.mk0 74 [.one (zql),.one (zqu)] [] (.one (.one (zqi))) []
abbrev kwd:=CI k2s
abbrev k5q:=CO k2s
noncomputable def k4q:Cx TB:=⟨inf,[],[],4,[]⟩
noncomputable def kb9:Code:=Tryz.f74.body.getD .skip
noncomputable def kjf:List ResultVar:=Tryz.f74.results.toList
def k1d5 (o:k5q):=qS TB k4q 19 0 (cB (cB kb9)) .no (retTQ TB k4q k2s kjf o)
def k6a:Tm:=⟨[],[],[0,1,7,8],[.one (zql),.one (zqu),.one (zqi),.one (zqi)],0⟩
def k1el (o:k5q) (nx1:NX TB k6a):=qM TB 0 k6a nx1 (blockT TB 0 (k1d5 o))
def kap (o:k5q) (nx1:NX TB k6a) (i:HL TB.den k6a.hs):Prop:=WP TB k4q 19 0 (cA (cA (cB (cA (cB kb9))))) .no (k6a.fill TB i) (k1el o nx1)
noncomputable def k1f5 (o:k5q):An TB:= .nd [] .no [] (.lp [] k6a (kap o) fun nx1=> .no)
noncomputable def ktd (o:k5q):An TB:= .nd [] .no [] (.nd [] (k1f5 o) [] .no)
def kgc (x:kwd) (o:k5q):Prop:=WPh TB k4q 19 0 kb9 (ktd o) (k2s.st TB x) (retTQ TB k4q k2s kjf o)
theorem k19k (o:k5q):OblH TB k4q 19 0 kb9 (ktd o) (retTQ TB k4q k2s kjf o):=
 OblH.ofC (X:=((∀nx i,(kap o) nx i=(kap o) nx i)/\(∀nx1:NX TB k6a,True)/\True)) (by kernel_rfl) ⟨fun _ _=>rfl,fun _=>trivial,trivial⟩
theorem k1bk {x:kwd} {o:k5q} (h:kgc x o):k2s.Snd Tryz.prog x o:=
 Con.soundH (c:=k2s) (C:=k4q) TBok ⟨inf_ok,all_nil,all_nil⟩ mix Tryz.func74 (by kernel_rfl) (by kernel_rfl) (by kernel_rfl) rfl h (k19k o)
theorem k1dc {p0:List Int} {p1 r0:Int} (h:
(Md.Loop (p0,p1,((p0.length:Int):Int),(0:Int),()) (kap (r0,())))):kgc (p0,p1,()) (r0,()):=WPh.of_eq (by kernel_rfl) h
def ktr (r0:Int) (k1:Int->Prop) (s0:List Int) (s1 s7 s8:Int):Prop:=
(decide (s8<s7)=true->
(0<=s8)/\s8<(s0.length:Int)/\((s1==(ix s0 s8))=true->
 s8=r0)/\
((s1==(ix s0 s8))=false->
 k1 (IntKind.i64.wrap (s8+1):Int)))/\
(decide (s8<s7)=false->
(-1)=r0)
theorem k1b0 {r0:Int} {s0:List Int} {s1 s7 s8:Int} (inv:Int->Prop) (μ:Int->Nat) (h0:inv s8) (hs:∀(s8:Int),inv s8->ktr r0 (fun s8q=>inv s8q/\μ s8q<μ s8) s0 s1 s7 s8):Md.Loop (s0,s1,s7,s8,()) (kap (r0,())):=
 ⟨⟨fun((s0q,s1q,s7q,s8q,()):(List Int)×Int×Int×Int×Unit)=>(s0=s0q/\s1=s1q/\s7=s7q)/\inv s8q,fun((_,_,_,s8q,()):(List Int)×Int×Int×Int×Unit)=>μ s8q,⟨⟨rfl,rfl,rfl⟩,h0⟩,fun(s0p,s1p,s7p,s8p,()) ⟨eq,hi⟩=>by
  obtain⟨rfl,rfl,rfl⟩:=eq;exact mpr_of (by kernel_rfl) ((congrArg (fun k=>ktr r0 k s0 s1 s7 s8p) (lpk1 (⟨rfl,rfl,rfl⟩:s0=s0/\s1=s1/\s7=s7) inv (fun s8q=>μ s8q<μ s8p))).mpr (hs s8p hi))⟩⟩
theorem bd74:Callable Tryz.prog 74:=⟨by rw[Tryz.func74];kernel_rfl,by rw[Tryz.func74];show some _≠some _;decide⟩
theorem k16h (p0:List Int) (p1:Int) (h:p0.length<=9223372036854775807):kgc (p0,p1,()) (((idxI p0 p1):Int),()):=by
 refine k1dc (k1b0 (fun i=>0<=i/\i<=p0.length/\p1∉p0.take i.toNat) (fun i=>(p0.length-i).toNat) ⟨by omega,by omega,by simp⟩ ?_)
 rintro i ⟨g0,g1,g2⟩
 refine⟨fun h=> ?_,fun h=> ?_⟩
 ·have h:=of_decide_eq_true h
  refine⟨g0,h,fun e=> ?_,fun e=> ?_⟩
  ·have e:p1=ix p0 i:=by simpa using e
   unfold idxI
   rw[if_pos (by rw[e];exact ix_mem p0 i g0 h)]
   have:p0.idxOf p1=i.toNat:=by
    conv=>lhs;rw[<-List.take_append_drop i.toNat p0]
    rw[List.idxOf_append,if_neg g2,drop_ix p0 i g0 h,<-e,List.idxOf_cons_self,List.length_take]
    omega
   rw[this]
   omega
  ·have e:¬p1=ix p0 i:=by simpa using e
   rw[inc i p0.length g0 h (by omega)]
   refine⟨⟨by omega,by omega,?_⟩,by omega⟩
   rw[k1q p0 i g0 h]
   simp only[List.mem_append,List.mem_singleton]
   exact fun hh=>hh.elim g2 e
 ·have h:=of_decide_eq_false h
  rw[List.take_of_length_le (by omega)]at g2
  unfold idxI
  rw[if_neg g2]
noncomputable def kpk:Con TB.den:=k2s.fnR (fun x=>(fun(p0:List Int) (p1:Int)=>p0.length<=9223372036854775807) x.1 x.2.1) fun x=>(fun(p0:List Int) (p1:Int)=>(((idxI p0 p1):Int),())) x.1 x.2.1
theorem k1g8:kpk.Ok Tryz.prog TB:=Con.ok_fn k2s bd74 fun x h=>k1bk (k16h x.1 x.2.1 h)
def k2y:Con TB.den:=Con.mk0 41 [.one (zql),.one (zqu)] [] (.one (.one (.d (.bool)))) []
abbrev kof:=CI k2y
abbrev kgf:=CO k2y
noncomputable def keg:Cx TB:=⟨inf,[kpk],[],4,[]⟩
noncomputable def kxa:Code:=Tryz.f41.body.getD .skip
noncomputable def k12d:List ResultVar:=Tryz.f41.results.toList
noncomputable def k13e (o:kgf):An TB:= .no
def kct (x:kof) (o:kgf):Prop:=WPh TB keg 9 0 kxa (k13e o) (k2y.st TB x) (retTQ TB keg k2y k12d o)
theorem k10i {x:kof} {o:kgf} (h:kct x o):k2y.Snd Tryz.prog x o:=
 Con.soundH (c:=k2y) (C:=keg) TBok ⟨inf_ok,(all_cons k1g8 all_nil),all_nil⟩ mix Tryz.func41 (by kernel_rfl) (by kernel_rfl) (by kernel_rfl) rfl h (OblH.ofC (X:=True) (by kernel_rfl) trivial)
theorem k12y {p0:List Int} {p1:Int} {r0:Bool} (h:
((p0.length<=9223372036854775807)/\decide (0<=(idxI p0 p1))=r0)):kct (p0,p1,()) (r0,()):=WPh.of_eq (by kernel_rfl) h
theorem bd41:Callable Tryz.prog 41:=⟨by rw[Tryz.func41];kernel_rfl,by rw[Tryz.func41];show some _≠some _;decide⟩
theorem kx9 (p0:List Int) (p1:Int) (h:p0.length<=9223372036854775807):kct (p0,p1,()) (((decide (p1∈p0)):Bool),()):=by
 refine k12y ⟨h,?_⟩
 unfold idxI
 by_cases hm:p1∈p0
 ·simp[hm]
 ·simp[hm]
noncomputable def kkj:Con TB.den:=k2y.fnR (fun x=>(fun(p0:List Int) (p1:Int)=>p0.length<=9223372036854775807) x.1 x.2.1) fun x=>(fun(p0:List Int) (p1:Int)=>(((decide (p1∈p0)):Bool),())) x.1 x.2.1
theorem k11h:kkj.Ok Tryz.prog TB:=Con.ok_fn k2y bd41 fun x h=>k10i (kx9 x.1 x.2.1 h)
def k1w:Con TB.den:=Con.mk0 74 [.one (.view 0),.one (zqu)] [.vec yqu] (.one (.one (zqi))) [.vec yqu]
abbrev krc:=CI k1w
abbrev k3x:=CO k1w
noncomputable def k3j:Cx TB:=⟨inf,[],[],4,[]⟩
noncomputable def k9o:Code:=Tryz.f74.body.getD .skip
noncomputable def kgv:List ResultVar:=Tryz.f74.results.toList
def k16d (o:k3x):=qS TB k3j 19 1 (cB (cB k9o)) .no (retTQ TB k3j k1w kgv o)
def k4k:Tm:=⟨[0],[.vec yqu],[0,1,7,8],[.one (.view 0),.one (zqu),.one (zqi),.one (zqi)],1⟩
def k16j (o:k3x) (nx1:NX TB k4k):=qM TB 1 k4k nx1 (blockT TB 0 (k16d o))
def k8g (o:k3x) (nx1:NX TB k4k) (i:HL TB.den k4k.hs):Prop:=WP TB k3j 19 1 (cA (cA (cB (cA (cB k9o))))) .no (k4k.fill TB i) (k16j o nx1)
noncomputable def k16m (o:k3x):An TB:= .lp [] k4k (k8g o) fun nx1=> .no
noncomputable def kog (o:k3x):An TB:= .nd [] .no [] (.nd [] (.nd [] .no [] (k16m o)) [] .no)
def kdq (x:krc) (o:k3x):Prop:=WPh TB k3j 19 1 k9o (kog o) (k1w.st TB x) (retTQ TB k3j k1w kgv o)
theorem k13m (o:k3x):OblH TB k3j 19 1 k9o (kog o) (retTQ TB k3j k1w kgv o):=
 OblH.ofC (X:=((∀nx i,(k8g o) nx i=(k8g o) nx i)/\(∀nx1:NX TB k4k,True)/\True)) (by kernel_rfl) ⟨fun _ _=>rfl,fun _=>trivial,trivial⟩
theorem k11p {x:krc} {o:k3x} (h:kdq x o):k1w.Snd Tryz.prog x o:=
 Con.soundH (c:=k1w) (C:=k3j) TBok ⟨inf_ok,all_nil,all_nil⟩ mix Tryz.func74 (by kernel_rfl) (by kernel_rfl) (by kernel_rfl) rfl h (k13m o)
theorem k14z {p0o p0n p1:Int} {w0:List Int} {r0:Int} {e0:List Int} (h:
(Md.Loop (((p0o.toNat:Int):Int),((p0n.toNat:Int):Int),p1,((p0n.toNat:Int):Int),(0:Int),w0,()) (k8g (r0,e0,())))):kdq (p0o,p0n,p1,w0,()) (r0,e0,()):=WPh.of_eq (by kernel_rfl) h
def kou (r0:Int) (e0:List Int) (k1:Int->Int->Int->Prop) (s1 s7:Int) (g0:List Int) (s0o s0n s8:Int):Prop:=
(decide (s8<s7)=true->
(0<=s8/\s8<(s0n.toNat:Int))/\(0<=((s0o.toNat:Int)+s8)/\((s0o.toNat:Int)+s8)<(g0.length:Int))/\((s1==(ix g0 ((s0o.toNat:Int)+s8)))=true->
 s8=r0/\g0=e0)/\
((s1==(ix g0 ((s0o.toNat:Int)+s8)))=false->
 k1 ((s0o.toNat:Int):Int) ((s0n.toNat:Int):Int) (IntKind.i64.wrap (s8+1):Int)))/\
(decide (s8<s7)=false->
(-1)=r0/\g0=e0)
theorem k14c {r0:Int} {e0:List Int} {s1 s7:Int} {g0:List Int} {s0o s0n s8:Int} (inv:Int->Int->Int->Prop) (μ:Int->Int->Int->Nat) (h0:inv s0o s0n s8) (hs:∀(s0o s0n s8:Int),inv s0o s0n s8->kou r0 e0 (fun s0oq s0nq s8q=>inv s0oq s0nq s8q/\μ s0oq s0nq s8q<μ s0o s0n s8) s1 s7 g0 s0o s0n s8):Md.Loop (s0o,s0n,s1,s7,s8,g0,()) (k8g (r0,e0,())):=
 ⟨⟨fun((s0oq,s0nq,s1q,s7q,s8q,g0q,()):Int×Int×Int×Int×Int×(List Int)×Unit)=>(s1=s1q/\s7=s7q/\g0=g0q)/\inv s0oq s0nq s8q,fun((s0oq,s0nq,_,_,s8q,_,()):Int×Int×Int×Int×Int×(List Int)×Unit)=>μ s0oq s0nq s8q,⟨⟨rfl,rfl,rfl⟩,h0⟩,fun(s0op,s0np,s1p,s7p,s8p,g0p,()) ⟨eq,hi⟩=>by
  obtain⟨rfl,rfl,rfl⟩:=eq;exact mpr_of (by kernel_rfl) ((congrArg (fun k=>kou r0 e0 k s1 s7 g0 s0op s0np s8p) (lpk3 (⟨rfl,rfl,rfl⟩:s1=s1/\s7=s7/\g0=g0) inv (fun s0oq s0nq s8q=>μ s0oq s0nq s8q<μ s0op s0np s8p))).mpr (hs s0op s0np s8p hi))⟩⟩
theorem k10k (p0o p0n p1:Int) (w0:List Int) (h:0<=p0o/\0<=p0n/\p0o.toNat+p0n.toNat<=w0.length/\w0.length<=1000000):kdq (p0o,p0n,p1,w0,()) (((idxI ((w0.drop p0o.toNat).take p0n.toNat) p1):Int),(w0:List Int),()):=by
 obtain⟨h0,h1,h2,h3⟩:=h
 obtain⟨o,rfl⟩:=Int.eq_ofNat_of_zero_le h0
 obtain⟨n,rfl⟩:=Int.eq_ofNat_of_zero_le h1
 simp only[Int.toNat_natCast]at h2 ⊢
 have hl:((w0.drop o).take n).length=n:=by simp;omega
 refine k14z ?_
 simp only[Int.toNat_natCast]
 refine k14c (fun a b c=>a=(o:Int)/\b=(n:Int)/\∃i:Nat,c=(i:Int)/\i<=n/\p1∉((w0.drop o).take n).take i) (fun _ _ c=>(n-c).toNat) ⟨rfl,rfl,0,rfl,by omega,by simp⟩ ?_
 rintro _ _ _ ⟨rfl,rfl,i,rfl,hi,hm⟩
 refine⟨fun e=> ?_,fun e=> ?_⟩
 ·have e:i<n:=by have:=of_decide_eq_true e;omega
  have hw:o+i<w0.length:=by omega
  have hg:((w0.drop o).take n)[i]'(by omega)=w0[o+i]:=by simp
  have hx:ix w0 (((o:Int).toNat:Int)+(i:Int))=w0[o+i]:=by rw[Int.toNat_natCast,show(o:Int)+(i:Int)=((o+i:Nat):Int)by omega,ix_get _ _ hw]
  rw[hx]
  refine⟨by simp only[Int.toNat_natCast];omega,by simp only[Int.toNat_natCast];omega,fun e2=> ?_,fun e2=> ?_⟩
  ·have e2:p1=w0[o+i]:=by simpa using e2
   unfold idxI
   rw[if_pos (by rw[e2,<-hg];exact List.getElem_mem _)]
   have:((w0.drop o).take n).idxOf p1=i:=by
    conv=>lhs;rw[<-List.take_append_drop i ((w0.drop o).take n)]
    rw[List.idxOf_append,if_neg hm,List.drop_eq_getElem_cons (show i<((w0.drop o).take n).length by omega),hg,<-e2,List.idxOf_cons_self,List.length_take]
    omega
   rw[this]
   exact⟨rfl,rfl⟩
  ·have e2:¬p1=w0[o+i]:=by simpa using e2
   rw[inc_i64 _ (by omega)]
   simp only[Int.toNat_natCast]
   refine⟨⟨by first|exact rfl|exact True.intro,by first|exact rfl|exact True.intro,i+1,rfl,by omega,?_⟩,by omega⟩
   rw[List.take_succ_eq_append_getElem (show i<((w0.drop o).take n).length by omega),hg]
   simp only[List.mem_append,List.mem_singleton]
   exact fun hh=>hh.elim hm e2
 ·have e:i=n:=by have:=of_decide_eq_false e;omega
  rw[List.take_of_length_le (by omega)]at hm
  unfold idxI
  rw[if_neg hm]
  exact⟨rfl,rfl⟩
noncomputable def kn3:Con TB.den:=k1w.fnR (fun(a0,a1,a2,a3,())=>(fun(p0o p0n p1:Int) (w0:List Int)=>0<=p0o/\0<=p0n/\p0o.toNat+p0n.toNat<=w0.length/\w0.length<=1000000) a0 a1 a2 a3) fun(a0,a1,a2,a3,())=>(fun(p0o p0n p1:Int) (w0:List Int)=>(((idxI ((w0.drop p0o.toNat).take p0n.toNat) p1):Int),w0,())) a0 a1 a2 a3
theorem k168:kn3.Ok Tryz.prog TB:=Con.ok_fn k1w bd74 fun(a0,a1,a2,a3,()) h=>k11p (k10k a0 a1 a2 a3 h)
def k23:Con TB.den:=Con.mk0 41 [.one (.view 0),.one (zqu)] [.vec yqu] (.one (.one (.d (.bool)))) [.vec yqu]
abbrev kkp:=CI k23
abbrev kdn:=CO k23
noncomputable def kcs:Cx TB:=⟨inf,[kn3],[],4,[]⟩
noncomputable def kut:Code:=Tryz.f41.body.getD .skip
noncomputable def kyc:List ResultVar:=Tryz.f41.results.toList
noncomputable def kww (o:kdn):An TB:= .no
def kb3 (x:kkp) (o:kdn):Prop:=WPh TB kcs 9 1 kut (kww o) (k23.st TB x) (retTQ TB kcs k23 kyc o)
theorem kvi {x:kkp} {o:kdn} (h:kb3 x o):k23.Snd Tryz.prog x o:=
 Con.soundH (c:=k23) (C:=kcs) TBok ⟨inf_ok,(all_cons k168 all_nil),all_nil⟩ mix Tryz.func41 (by kernel_rfl) (by kernel_rfl) (by kernel_rfl) rfl h (OblH.ofC (X:=True) (by kernel_rfl) trivial)
theorem kx1 {p0o p0n p1:Int} {w0:List Int} {r0:Bool} {e0:List Int} (h:
((0<=(p0o.toNat:Int)/\0<=(p0n.toNat:Int)/\(p0o.toNat:Int).toNat+(p0n.toNat:Int).toNat<=w0.length/\w0.length<=1000000)/\let r1:Int:=(idxI ((w0.drop (p0o.toNat:Int).toNat).take (p0n.toNat:Int).toNat) p1)
 decide (0<=r1)=r0/\w0=e0)):kb3 (p0o,p0n,p1,w0,()) (r0,e0,()):=WPh.of_eq (by kernel_rfl) h
theorem ktu (p0o p0n p1:Int) (w0:List Int) (h:0<=p0o/\0<=p0n/\p0o.toNat+p0n.toNat<=w0.length/\w0.length<=1000000):kb3 (p0o,p0n,p1,w0,()) (((decide (p1∈(w0.drop p0o.toNat).take p0n.toNat)):Bool),(w0:List Int),()):=by
 have h' :=h
 obtain⟨h0,h1,h2,h3⟩:=h
 obtain⟨o,rfl⟩:=Int.eq_ofNat_of_zero_le h0
 obtain⟨n,rfl⟩:=Int.eq_ofNat_of_zero_le h1
 refine kx1 ⟨h',?_,rfl⟩
 simp only[Int.toNat_natCast]
 unfold idxI
 by_cases hm:p1∈(w0.drop o).take n
 ·simp[hm]
 ·simp[hm]
noncomputable def kit:Con TB.den:=k23.fnR (fun(a0,a1,a2,a3,())=>(fun(p0o p0n p1:Int) (w0:List Int)=>0<=p0o/\0<=p0n/\p0o.toNat+p0n.toNat<=w0.length/\w0.length<=1000000) a0 a1 a2 a3) fun(a0,a1,a2,a3,())=>(fun(p0o p0n p1:Int) (w0:List Int)=>(((decide (p1∈(w0.drop p0o.toNat).take p0n.toNat)):Bool),w0,())) a0 a1 a2 a3
theorem kyh:kit.Ok Tryz.prog TB:=Con.ok_fn k23 bd41 fun(a0,a1,a2,a3,()) h=>kvi (ktu a0 a1 a2 a3 h)
def k2x:Con TB.den:=Con.mk0 73 [.agg [zqu,zql,.d (.sl (.st 1)),zqu,zqu,zqu,zqu,zqu,zqi,.d (.sl yqb)]] [] (.one (.one (.d (.bool)))) []
abbrev koo:=CI k2x
abbrev kgd:=CO k2x
noncomputable def ke3:Cx TB:=⟨inf,[],[],4,[]⟩
noncomputable def ky9:Code:=Tryz.f73.body.getD .skip
noncomputable def k11m:List ResultVar:=Tryz.f73.results.toList
noncomputable def k13i (o:kgd):An TB:= .no
def kcn (x:koo) (o:kgd):Prop:=WPh TB ke3 47 0 ky9 (k13i o) (k2x.st TB x) (retTQ TB ke3 k2x k11m o)
theorem k10p {x:koo} {o:kgd} (h:kcn x o):k2x.Snd Tryz.prog x o:=
 Con.soundH (c:=k2x) (C:=ke3) TBok ⟨inf_ok,all_nil,all_nil⟩ mix Tryz.func73 (by kernel_rfl) (by kernel_rfl) (by kernel_rfl) rfl h (OblH.ofC (X:=True) (by kernel_rfl) trivial)
theorem k11v {p0:wm} {r0:Bool} (h:
((decide (4294967295<p0.wV)=true->
 false=r0)/\
(decide (4294967295<p0.wV)=false->
(decide (4294967295<p0.wZ)=true->
 false=r0)/\
(decide (4294967295<p0.wZ)=false->
(decide (4294967295<p0.Fee)=true->
 false=r0)/\
(decide (4294967295<p0.Fee)=false->
 let v1:Bool:=decide (18446744069414584321<=p0.we)
(v1=true->
 false=r0)/\
(v1=false->
(decide (18446744069414584321<=p0.wO)=true->
 false=r0)/\
(decide (18446744069414584321<=p0.wO)=false->
(decide (0<p0.wV)=true->
(p0.wZ==0)=r0)/\
(decide (0<p0.wV)=false->
(((p0.wE.length:Int)==0)=true->
 false=r0)/\
(((p0.wE.length:Int)==0)=false->
((p0.wO !=0)=true->
 false=r0)/\
((p0.wO !=0)=false->
(decide (0<p0.wZ)=true->
 true=r0)/\
(decide (0<p0.wZ)=false->
(p0.we==0)=r0))))))))))):kcn (p0.wy,p0.wE,p0.wT,p0.wV,p0.wZ,p0.Fee,p0.we,p0.wO,p0.wx,p0.wAD,()) (r0,()):=WPh.of_eq (by kernel_rfl) h
theorem bd73:Callable Tryz.prog 73:=⟨by rw[Tryz.func73];kernel_rfl,by rw[Tryz.func73];show some _≠some _;decide⟩
theorem ky0 (p0:wm):kcn (p0.wy,p0.wE,p0.wT,p0.wV,p0.wZ,p0.Fee,p0.we,p0.wO,p0.wx,p0.wAD,()) (((vAmounts p0):Bool),()):=by
 refine k11v ?_
 unfold vAmounts
 try simp only[]
 repeat' (apply And.intro<;>intro h)
 all_goals simp only[decide_eq_true_eq,decide_eq_false_iff_not,beq_iff_eq,bne_iff_ne,Bool.not_eq_true,beq_eq_false_iff_ne,bne_eq_false_iff_eq,List.isEmpty_iff,Int.natCast_eq_zero,List.length_eq_zero_iff]at *
 all_goals simp[*]
 all_goals grind
noncomputable def kkm:Con TB.den:=k2x.totR fun(a0,a1,a2,a3,a4,a5,a6,a7,a8,a9,())=>(fun(p0:wm)=>(((vAmounts p0):Bool),())) (wm.mk a0 a1 a2 a3 a4 a5 a6 a7 a8 a9)
theorem k12k:kkm.Ok Tryz.prog TB:=Con.ok_tot k2x bd73 fun(a0,a1,a2,a3,a4,a5,a6,a7,a8,a9,())=>k10p (ky0 (wm.mk a0 a1 a2 a3 a4 a5 a6 a7 a8 a9))
def k2a:Con TB.den:=Con.mk0 71 [.one (zql)] [] (.one (.one (.d (.bool)))) []
abbrev kt1:=CI k2a
abbrev k4v:=CO k2a
noncomputable def k48:Cx TB:=⟨inf,[kkj],[],4,[]⟩
noncomputable def kaq:Code:=Tryz.f71.body.getD .skip
noncomputable def khy:List ResultVar:=Tryz.f71.results.toList
def k1a7 (o:k4v):=qS TB k48 25 0 (cB (cB (cB kaq))) .no (retTQ TB k48 k2a khy o)
def k5n:Tm:=⟨[],[],[0,8,9,10],[.one (zql),.one (zql),.one (zqi),.one (zqi)],0⟩
def k19r (o:k4v) (nx1:NX TB k5n):=qM TB 0 k5n nx1 (blockT TB 0 (k1a7 o))
def k9h (o:k4v) (nx1:NX TB k5n) (i:HL TB.den k5n.hs):Prop:=WP TB k48 25 0 (cA (cA (cB (cA (cB (cB kaq)))))) .no (k5n.fill TB i) (k19r o nx1)
noncomputable def k18o (o:k4v):An TB:= .nd [] .no [] (.lp [] k5n (k9h o) fun nx1=> .no)
noncomputable def kpe (o:k4v):An TB:= .nd [] .no [] (.nd [] .no [] (.nd [] (k18o o) [] .no))
def ke6 (x:kt1) (o:k4v):Prop:=WPh TB k48 25 0 kaq (kpe o) (k2a.st TB x) (retTQ TB k48 k2a khy o)
theorem k156 (o:k4v):OblH TB k48 25 0 kaq (kpe o) (retTQ TB k48 k2a khy o):=
 OblH.ofC (X:=((∀nx i,(k9h o) nx i=(k9h o) nx i)/\(∀nx1:NX TB k5n,True)/\True)) (by kernel_rfl) ⟨fun _ _=>rfl,fun _=>trivial,trivial⟩
theorem k162 {x:kt1} {o:k4v} (h:ke6 x o):k2a.Snd Tryz.prog x o:=
 Con.soundH (c:=k2a) (C:=k48) TBok ⟨inf_ok,(all_cons k11h all_nil),all_nil⟩ mix Tryz.func71 (by kernel_rfl) (by kernel_rfl) (by kernel_rfl) rfl h (k156 o)
theorem k1a3 {p0:List Int} {r0:Bool} (h:
((decide (4<(p0.length:Int))=true->
 false=r0)/\
(decide (4<(p0.length:Int))=false->
 Md.Loop (p0,p0,((p0.length:Int):Int),(0:Int),()) (k9h (r0,()))))):ke6 (p0,()) (r0,()):=WPh.of_eq (by kernel_rfl) h
def kpj (r0:Bool) (k1:Int->Prop) (s0 s8:List Int) (s9 s10:Int):Prop:=
(decide (s10<s9)=true->
(0<=s10)/\s10<(s8.length:Int)/\let v1:Bool:=decide (18446744069414584321<=(ix s8 s10))
(v1=true->
 false=r0)/\
(v1=false->
(0<=s10)/\s10<=(s0.length:Int)/\((s0.take s10.toNat).length<=9223372036854775807)/\let r2:Bool:=(decide ((ix s8 s10)∈(s0.take s10.toNat)))
(r2=true->
 false=r0)/\
(r2=false->
 k1 (IntKind.i64.wrap (s10+1):Int))))/\
(decide (s10<s9)=false->
 true=r0)
theorem k15o {r0:Bool} {s0 s8:List Int} {s9 s10:Int} (inv:Int->Prop) (μ:Int->Nat) (h0:inv s10) (hs:∀(s10:Int),inv s10->kpj r0 (fun s10q=>inv s10q/\μ s10q<μ s10) s0 s8 s9 s10):Md.Loop (s0,s8,s9,s10,()) (k9h (r0,())):=
 ⟨⟨fun((s0q,s8q,s9q,s10q,()):(List Int)×(List Int)×Int×Int×Unit)=>(s0=s0q/\s8=s8q/\s9=s9q)/\inv s10q,fun((_,_,_,s10q,()):(List Int)×(List Int)×Int×Int×Unit)=>μ s10q,⟨⟨rfl,rfl,rfl⟩,h0⟩,fun(s0p,s8p,s9p,s10p,()) ⟨eq,hi⟩=>by
  obtain⟨rfl,rfl,rfl⟩:=eq;exact mpr_of (by kernel_rfl) ((congrArg (fun k=>kpj r0 k s0 s8 s9 s10p) (lpk1 (⟨rfl,rfl,rfl⟩:s0=s0/\s8=s8/\s9=s9) inv (fun s10q=>μ s10q<μ s10p))).mpr (hs s10p hi))⟩⟩
theorem bd71:Callable Tryz.prog 71:=⟨by rw[Tryz.func71];kernel_rfl,by rw[Tryz.func71];show some _≠some _;decide⟩
theorem k11t (p0:List Int):ke6 (p0,()) (((vMarks p0):Bool),()):=by
 refine k1a3 ⟨fun h=> ?_,fun h=> ?_⟩
 ·have h:=of_decide_eq_true h
  unfold vMarks
  rw[decide_eq_false (by omega)]
  rfl
 ·have h:=of_decide_eq_false h
  refine k15o (fun i=>0<=i/\i<=p0.length/\(∀x∈p0.take i.toNat,x<18446744069414584321)/\(p0.take i.toNat).Nodup) (fun i=>(p0.length-i).toNat) ⟨by omega,by omega,by simp,by simp⟩ ?_
  rintro i ⟨g0,g1,g2,g3⟩
  refine⟨fun hh=> ?_,fun hh=> ?_⟩
  ·have hh:=of_decide_eq_true hh
   have hm:=ix_mem p0 i g0 hh
   refine⟨g0,hh,fun e=> ?_,fun e=>⟨g0,by omega,by simp;omega,fun e2=> ?_,fun e2=> ?_⟩⟩
   ·have e:=of_decide_eq_true e
    unfold vMarks
    have:p0.all (fun x=>decide (x<18446744069414584321))=false:=List.all_eq_false.2 ⟨_,hm,by simp;omega⟩
    rw[this]
    simp
   ·have e2:=of_decide_eq_true e2
    unfold vMarks
    have:¬p0.Nodup:=by
     intro hn
     rw[<-List.take_append_drop i.toNat p0,drop_ix p0 i g0 hh]at hn
     have:=(List.nodup_append.1 hn).2.2 _ e2 _ (List.mem_cons_self ..)
     exact this rfl
    rw[decide_eq_false this]
    simp
   ·have e:=of_decide_eq_false e
    have e2:=of_decide_eq_false e2
    rw[inc i p0.length g0 hh (by omega)]
    refine⟨⟨by omega,by omega,?_,?_⟩,by omega⟩
    ·rw[k1q p0 i g0 hh]
     intro x hx
     rcases List.mem_append.1 hx with hx|hx
     ·exact g2 x hx
     ·have:x=ix p0 i:=by simpa using hx
      omega
    ·rw[k1q p0 i g0 hh]
     refine List.nodup_append.2 ⟨g3,by simp,fun a ha b hb=> ?_⟩
     have:b=ix p0 i:=by simpa using hb
     rintro rfl
     exact e2 (this▸ha)
  ·have hh:=of_decide_eq_false hh
   rw[List.take_of_length_le (by omega)]at g2 g3
   unfold vMarks
   have:p0.all (fun x=>decide (x<18446744069414584321))=true:=by simpa using g2
   rw[this,decide_eq_true g3,decide_eq_true (by omega)]
   rfl
noncomputable def kor:Con TB.den:=k2a.totR fun x=>(fun(p0:List Int)=>(((vMarks p0):Bool),())) x.1
theorem k1bn:kor.Ok Tryz.prog TB:=Con.ok_tot k2a bd71 fun x=>k162 (k11t x.1)
def k5z:Con TB.den:=Con.mk0 98 [.agg [zqu,zqu]] [] (.one (.one (.d (.bool)))) []
abbrev k103:=CI k5z
abbrev knh:=CO k5z
noncomputable def klt:Cx TB:=⟨inf,[],[],4,[]⟩
noncomputable def k1ae:Code:=Tryz.f98.body.getD .skip
noncomputable def k1ix:List ResultVar:=Tryz.f98.results.toList
noncomputable def k1jp (o:knh):An TB:= .no
def ki4 (x:k103) (o:knh):Prop:=WPh TB klt 21 0 k1ae (k1jp o) (k5z.st TB x) (retTQ TB klt k5z k1ix o)
theorem k1g2 {x:k103} {o:knh} (h:ki4 x o):k5z.Snd Tryz.prog x o:=
 Con.soundH (c:=k5z) (C:=klt) TBok ⟨inf_ok,all_nil,all_nil⟩ mix Tryz.func98 (by kernel_rfl) (by kernel_rfl) (by kernel_rfl) rfl h (OblH.ofC (X:=True) (by kernel_rfl) trivial)
theorem k1id {p0:wAW} {r0:Bool} (h:
((decide (p0.a0<18446744069414584321)=true->
(decide (p0.a1<18446744069414584321)=true->
((p0.a0 !=0)=true->
 true=r0)/\
((p0.a0 !=0)=false->
(p0.a1 !=0)=r0))/\
(decide (p0.a1<18446744069414584321)=false->
 false=r0))/\
(decide (p0.a0<18446744069414584321)=false->
 false=r0))):ki4 (p0.a0,p0.a1,()) (r0,()):=WPh.of_eq (by kernel_rfl) h
theorem bd98:Callable Tryz.prog 98:=⟨by rw[Tryz.func98];kernel_rfl,by rw[Tryz.func98];show some _≠some _;decide⟩
theorem k18n (p0:wAW):ki4 (p0.a0,p0.a1,()) (((vPoint p0.a0 p0.a1):Bool),()):=by
 refine k1id ?_
 unfold vPoint
 refine⟨fun h=>⟨fun h1=>⟨fun h2=> ?_,fun h2=> ?_⟩,fun h1=> ?_⟩,fun h=> ?_⟩<;>simp_all<;>omega
noncomputable def ktm:Con TB.den:=k5z.totR fun x=>(fun(p0:wAW)=>(((vPoint p0.a0 p0.a1):Bool),())) (wAW.mk x.1 x.2.1)
theorem k1iq:ktm.Ok Tryz.prog TB:=Con.ok_tot k5z bd98 fun x=>k1g2 (k18n (wAW.mk x.1 x.2.1))
def k2r:Con TB.den:=Con.mk0 72 [.one (.d (.sl (.st 1)))] [] (.one (.one (.d (.bool)))) []
abbrev kv2:=CI k2r
abbrev k1a:=CO k2r
noncomputable def k2v:Cx TB:=⟨inf,[ktm],[],4,[]⟩
noncomputable def k6h:Code:=Tryz.f72.body.getD .skip
noncomputable def kjp:List ResultVar:=Tryz.f72.results.toList
def k1g7 (o:k1a):=qS TB k2v 42 0 (cB (cB (cB k6h))) .no (retTQ TB k2v k2r kjp o)
def kq:Tm:=⟨[],[],[10,11,12],[.one (.d (.sl (.st 1))),.one (zqi),.one (zqi)],0⟩
def ksy (o:k1a) (nx2:NX TB kq):=qM TB 0 kq nx2 (blockT TB 0 (k1g7 o))
def k1dy (o:k1a) (nx2:NX TB kq):=qS TB k2v 42 0 (cB (cB (cB (cA (cA (cB (cA (cB (cB k6h))))))))) .no (ksy o nx2)
def k6b:Tm:=⟨[0],[.cells [zqu,zqu,zqu,zql]],[10,11,12,20,21,22,23,26,27,28,29,32,33,34],[.one (.d (.sl (.st 1))),.one (zqi),.one (zqi),.one (.ptr 0 1),.agg [zqu,zqu],.one (.d (.bool)),.one (.d (.bool)),.one (.ptr 0 3),.one (zql),.one (zqi),.one (.d (.bool)),.one (zql),.one (zqi),.one (zqi)],1⟩
def k1ei (o:k1a) (nx2:NX TB kq) (nx1:NX TB k6b):=qM TB 0 k6b nx1 (blockT TB 2 (blockT TB 1 (k1dy o nx2)))
def kau (o:k1a) (nx2:NX TB kq) (nx1:NX TB k6b) (i:HL TB.den k6b.hs):Prop:=WP TB k2v 42 0 (cA (cA (cB (cB (cB (cA (cA (cB (cB (cA (cA (cB (cA (cB (cB k6h))))))))))))))) .no (k6b.fill TB i) (k1ei o nx2 nx1)
noncomputable def k1dg (o:k1a) (nx2:NX TB kq):An TB:= .lp [] k6b (kau o nx2) fun nx1=> .no
noncomputable def k1eg (o:k1a) (nx2:NX TB kq):An TB:= .nd [] .no [] (.nd [] .no [] (.nd [] .no [] (k1dg o nx2)))
noncomputable def kqz (o:k1a) (nx2:NX TB kq):An TB:= .nd [] .no [] (.nd [] .no [] (.nd [] (k1eg o nx2) [] .no))
def ka7 (o:k1a) (nx2:NX TB kq) (i:HL TB.den kq.hs):Prop:=WP TB k2v 42 0 (cA (cA (cB (cA (cB (cB k6h)))))) (kqz o nx2) (kq.fill TB i) (ksy o nx2)
noncomputable def k1ad (o:k1a):An TB:= .lp [] kq (ka7 o) fun nx2=>(kqz o nx2)
noncomputable def k19t (o:k1a):An TB:= .nd [] .no [] (.nd [] (.nd [] .no [] (k1ad o)) [] .no)
noncomputable def ktb (o:k1a):An TB:= .nd [] .no [] (k19t o)
def kgm (x:kv2) (o:k1a):Prop:=WPh TB k2v 42 0 k6h (ktb o) (k2r.st TB x) (retTQ TB k2v k2r kjp o)
theorem k1a2 (o:k1a):OblH TB k2v 42 0 k6h (ktb o) (retTQ TB k2v k2r kjp o):=
 OblH.ofC (X:=((∀nx i,(ka7 o) nx i=(ka7 o) nx i)/\(∀nx2:NX TB kq,((∀nx i,(kau o nx2) nx i=(kau o nx2) nx i)/\(∀nx1:NX TB k6b,True)/\True))/\True)) (by kernel_rfl) ⟨fun _ _=>rfl,fun _=>⟨fun _ _=>rfl,fun _=>trivial,trivial⟩,trivial⟩
theorem k18q {x:kv2} {o:k1a} (h:kgm x o):k2r.Snd Tryz.prog x o:=
 Con.soundH (c:=k2r) (C:=k2v) TBok ⟨inf_ok,(all_cons k1iq all_nil),all_nil⟩ mix Tryz.func72 (by kernel_rfl) (by kernel_rfl) (by kernel_rfl) rfl h (k1a2 o)
theorem k1fr {p0:List ww} {r0:Bool} (h:
((decide (4<(p0.length:Int))=true->
 false=r0)/\
(decide (4<(p0.length:Int))=false->
 Md.Loop (p0,((p0.length:Int):Int),(0:Int),()) (ka7 (r0,()))))):kgm (p0,()) (r0,()):=WPh.of_eq (by kernel_rfl) h
def kt8 (r0:Bool) (nx2:NX TB kq) (k2:Int->Prop) (s10:List ww) (s11 s12:Int):Prop:=
(decide (s12<s11)=true->
(0<=s12)/\s12<(s10.length:Int)/\let v1:Bool:=decide (18446744069414584321<=((ix s10 s12).wz))
(v1=true->
 false=r0)/\
(v1=false->
 let r2:Bool:=(vPoint (wAW.mk ((ix s10 s12).wAF) ((ix s10 s12).wAE)).a0 (wAW.mk ((ix s10 s12).wAF) ((ix s10 s12).wAE)).a1)
((!r2)=true->
 false=r0)/\
((!r2)=false->
 let v3:Bool:=((((ix s10 s12).wAB).length:Int) !=3)
(v3=true->
 false=r0)/\
(v3=false->
 Md.Loop (s10,s11,s12,((ix s10 s12).wAF:Int),((ix s10 s12).wAE:Int),r2,((!r2):Bool),((ix s10 s12).wAB:List Int),((((ix s10 s12).wAB).length:Int):Int),v3,((ix s10 s12).wAB:List Int),((((ix s10 s12).wAB).length:Int):Int),(0:Int),((ix s10 s12).wz:Int),((ix s10 s12).wAF:Int),((ix s10 s12).wAE:Int),((ix s10 s12).wAB:List Int),()) (kau (r0,()) nx2)))))/\
(decide (s12<s11)=false->
 true=r0)
theorem k1a1 {r0:Bool} {s10:List ww} {s11 s12:Int} (inv:Int->Prop) (μ:Int->Nat) (h0:inv s12) (hs:∀(s12:Int),inv s12->kt8 r0 (fun((s10q,s11q,s12q,()):(List ww)×Int×Int×Unit)=>((s10=s10q/\s11=s11q)/\inv s12q)/\μ s12q<μ s12) (fun s12q=>inv s12q/\μ s12q<μ s12) s10 s11 s12):Md.Loop (s10,s11,s12,()) (ka7 (r0,())):=
 ⟨⟨fun((s10q,s11q,s12q,()):(List ww)×Int×Int×Unit)=>(s10=s10q/\s11=s11q)/\inv s12q,fun((_,_,s12q,()):(List ww)×Int×Int×Unit)=>μ s12q,⟨⟨rfl,rfl⟩,h0⟩,fun(s10p,s11p,s12p,()) ⟨eq,hi⟩=>by
  obtain⟨rfl,rfl⟩:=eq;exact mpr_of (by kernel_rfl) ((congrArg (fun k=>kt8 r0 (fun((s10q,s11q,s12q,()):(List ww)×Int×Int×Unit)=>((s10=s10q/\s11=s11q)/\inv s12q)/\μ s12q<μ s12p) k s10 s11 s12p) (lpk1 (⟨rfl,rfl⟩:s10=s10/\s11=s11) inv (fun s12q=>μ s12q<μ s12p))).mpr (hs s12p hi))⟩⟩
def ksu (r0:Bool) (nx2:NX TB kq) (k1:Int->Prop) (s10:List ww) (s11 s12 s21_0 s21_1:Int) (s22 s23:Bool) (s27:List Int) (s28:Int) (s29:Bool) (s32:List Int) (s33 Aa Ab Ac:Int) (Am:List Int) (s34:Int):Prop:=
(decide (s34<s33)=true->
(0<=s34)/\s34<(s32.length:Int)/\let v4:Bool:=decide (18446744069414584321<=(ix s32 s34))
(v4=true->
 false=r0)/\
(v4=false->
 k1 (IntKind.i64.wrap (s34+1):Int)))/\
(decide (s34<s33)=false->
 nx2 (s10,s11,(IntKind.i64.wrap (s12+1):Int),()))
theorem k198 {r0:Bool} {nx2:NX TB kq} {s10:List ww} {s11 s12 s21_0 s21_1:Int} {s22 s23:Bool} {s27:List Int} {s28:Int} {s29:Bool} {s32:List Int} {s33 Aa Ab Ac:Int} {Am:List Int} {s34:Int} (inv:Int->Prop) (μ:Int->Nat) (h0:inv s34) (hs:∀(s34:Int),inv s34->ksu r0 nx2 (fun s34q=>inv s34q/\μ s34q<μ s34) s10 s11 s12 s21_0 s21_1 s22 s23 s27 s28 s29 s32 s33 Aa Ab Ac Am s34):Md.Loop (s10,s11,s12,s21_0,s21_1,s22,s23,s27,s28,s29,s32,s33,s34,Aa,Ab,Ac,Am,()) (kau (r0,()) nx2):=
 ⟨⟨fun((s10q,s11q,s12q,s21_0q,s21_1q,s22q,s23q,s27q,s28q,s29q,s32q,s33q,s34q,Al,Ap,Aq,Ce,()):(List ww)×Int×Int×Int×Int×Bool×Bool×(List Int)×Int×Bool×(List Int)×Int×Int×Int×Int×Int×(List Int)×Unit)=>(s10=s10q/\s11=s11q/\s12=s12q/\s21_0=s21_0q/\s21_1=s21_1q/\s22=s22q/\s23=s23q/\s27=s27q/\s28=s28q/\s29=s29q/\s32=s32q/\s33=s33q/\Aa=Al/\Ab=Ap/\Ac=Aq/\Am=Ce)/\inv s34q,fun((_,_,_,_,_,_,_,_,_,_,_,_,s34q,_,_,_,_,()):(List ww)×Int×Int×Int×Int×Bool×Bool×(List Int)×Int×Bool×(List Int)×Int×Int×Int×Int×Int×(List Int)×Unit)=>μ s34q,⟨⟨rfl,rfl,rfl,rfl,rfl,rfl,rfl,rfl,rfl,rfl,rfl,rfl,rfl,rfl,rfl,rfl⟩,h0⟩,fun(s10p,s11p,s12p,s21_0p,s21_1p,s22p,s23p,s27p,s28p,s29p,s32p,s33p,s34p,B7,B9,Ca,Dy,()) ⟨eq,hi⟩=>by
  obtain⟨rfl,rfl,rfl,rfl,rfl,rfl,rfl,rfl,rfl,rfl,rfl,rfl,rfl,rfl,rfl,rfl⟩:=eq;exact mpr_of (by kernel_rfl) ((congrArg (fun k=>ksu r0 nx2 k s10 s11 s12 s21_0 s21_1 s22 s23 s27 s28 s29 s32 s33 Aa Ab Ac Am s34p) (lpk1 (⟨rfl,rfl,rfl,rfl,rfl,rfl,rfl,rfl,rfl,rfl,rfl,rfl,rfl,rfl,rfl,rfl⟩:s10=s10/\s11=s11/\s12=s12/\s21_0=s21_0/\s21_1=s21_1/\s22=s22/\s23=s23/\s27=s27/\s28=s28/\s29=s29/\s32=s32/\s33=s33/\Aa=Aa/\Ab=Ab/\Ac=Ac/\Am=Am) inv (fun s34q=>μ s34q<μ s34p))).mpr (hs s34p hi))⟩⟩
theorem bd72:Callable Tryz.prog 72:=⟨by rw[Tryz.func72];kernel_rfl,by rw[Tryz.func72];show some _≠some _;decide⟩
theorem k14y (p0:List ww):kgm (p0,()) (((vOuts p0):Bool),()):=by
 refine k1fr ⟨fun h=> ?_,fun h=> ?_⟩
 ·have h:=of_decide_eq_true h
  unfold vOuts
  rw[decide_eq_false (by omega)]
  rfl
 ·have h:=of_decide_eq_false h
  have bad:∀i,0<=i->i<(p0.length:Int)->vOut (ix p0 i)=false->false=vOuts p0:=by
   intro i h0 h1 hb
   unfold vOuts
   have:p0.all vOut=false:=List.all_eq_false.2 ⟨_,ix_mem p0 i h0 h1,by simp[hb]⟩
   rw[this]
   simp
  refine k1a1 (fun i=>0<=i/\i<=p0.length/\∀x∈p0.take i.toNat,vOut x=true) (fun i=>(p0.length-i).toNat) ⟨by omega,by omega,by simp⟩ ?_
  rintro i ⟨g0,g1,g2⟩
  refine⟨fun hh=> ?_,fun hh=> ?_⟩
  ·have hh:=of_decide_eq_true hh
   have bd:=bad i g0 hh
   unfold vOut at bd
   refine⟨g0,hh,fun e=>bd ?_,fun e=>⟨fun e2=>bd ?_,fun e2=>⟨fun e3=>bd ?_,fun e3=> ?_⟩⟩⟩
   ·have e:=of_decide_eq_true e
    rw[decide_eq_false (by omega)]
    rfl
   ·have e2:vPoint (ix p0 i).wAF (ix p0 i).wAE=false:=by simpa using e2
    simp[e2]
   ·have e3:¬(ix p0 i).wAB.length=3:=by
     have:¬((ix p0 i).wAB.length:Int)=3:=by simpa using e3
     omega
    simp[e3]
   ·have e:=of_decide_eq_false e
    have e2:vPoint (ix p0 i).wAF (ix p0 i).wAE=true:=by simpa using e2
    have e3:(ix p0 i).wAB.length=3:=by
     have:((ix p0 i).wAB.length:Int)=3:=by simpa using e3
     omega
    refine k198 (fun k=>0<=k/\k<=3/\∀x∈(ix p0 i).wAB.take k.toNat,x<18446744069414584321) (fun k=>(3-k).toNat) ⟨by omega,by omega,by simp⟩ ?_
    rintro k ⟨k0,k1,k2⟩
    refine⟨fun hk=> ?_,fun hk=> ?_⟩
    ·have hk:=of_decide_eq_true hk
     refine⟨k0,hk,fun e4=>bd ?_,fun e4=> ?_⟩
     ·have e4:=of_decide_eq_true e4
      have:(ix p0 i).wAB.all (fun n=>decide (n<18446744069414584321))=false:=List.all_eq_false.2 ⟨_,ix_mem _ k k0 hk,by simp;omega⟩
      rw[this]
      simp
     ·have e4:=of_decide_eq_false e4
      rw[inc k 3 k0 (by omega) (by omega)]
      refine⟨⟨by omega,by omega,?_⟩,by omega⟩
      rw[k1q _ k k0 hk]
      intro x hx
      rcases List.mem_append.1 hx with hx|hx
      ·exact k2 x hx
      ·have:x=ix (ix p0 i).wAB k:=by simpa using hx
       omega
    ·have hk:=of_decide_eq_false hk
     rw[List.take_of_length_le (by omega)]at k2
     have hv:vOut (ix p0 i)=true:=(kpp _).2 ⟨by omega,e2,e3,k2⟩
     have hi:=inc i p0.length g0 hh (by omega)
     rw[hi]
     have nxt:(0<=i+1/\i+1<=p0.length/\∀x∈p0.take (i+1).toNat,vOut x=true)/\(p0.length-(i+1)).toNat<(p0.length-i).toNat:=by
      refine⟨⟨by omega,by omega,?_⟩,by omega⟩
      rw[k1q p0 i g0 hh]
      intro x hx
      rcases List.mem_append.1 hx with hx|hx
      ·exact g2 x hx
      ·have:x=ix p0 i:=by simpa using hx
       rw[this];exact hv
     exact⟨⟨⟨rfl,rfl⟩,nxt.1⟩,nxt.2⟩
  ·have hh:=of_decide_eq_false hh
   rw[List.take_of_length_le (by omega)]at g2
   unfold vOuts
   have:p0.all vOut=true:=by simpa using g2
   rw[this,decide_eq_true (by omega)]
   rfl
noncomputable def krn:Con TB.den:=k2r.totR fun x=>(fun(p0:List ww)=>(((vOuts p0):Bool),())) x.1
theorem k1g5:krn.Ok Tryz.prog TB:=Con.ok_tot k2r bd72 fun x=>k18q (k14y x.1)
def k8v:Con TB.den:=Con.mk0 40 [.agg [zqu,zql,.d (.sl (.st 1)),zqu,zqu,zqu,zqu,zqu,zqi,.d (.sl yqb)]] [] (.one (.one (zqi))) []
abbrev k1fm:=CI k8v
abbrev kxp:=CO k8v
noncomputable def kuk:Cx TB:=⟨inf,[kor,krn,kkm],[],4,[]⟩
noncomputable def k1mu:Code:=Tryz.f40.body.getD .skip
noncomputable def k1tx:List ResultVar:=Tryz.f40.results.toList
noncomputable def k1t3 (o:kxp):An TB:= .no
def knc (x:k1fm) (o:kxp):Prop:=WPh TB kuk 35 0 k1mu (k1t3 o) (k8v.st TB x) (retTQ TB kuk k8v k1tx o)
theorem k1se {x:k1fm} {o:kxp} (h:knc x o):k8v.Snd Tryz.prog x o:=
 Con.soundH (c:=k8v) (C:=kuk) TBok ⟨inf_ok,(all_cons k1bn (all_cons k1g5 (all_cons k12k all_nil))),all_nil⟩ mix Tryz.func40 (by kernel_rfl) (by kernel_rfl) (by kernel_rfl) rfl h (OblH.ofC (X:=True) (by kernel_rfl) trivial)
theorem k1ts {p0:wm} {r0:Int} (h:
(((!(vMarks p0.wE))=true->
 1=r0)/\
((!(vMarks p0.wE))=false->
((!(vOuts p0.wT))=true->
 1=r0)/\
((!(vOuts p0.wT))=false->
((!(vAmounts p0))=true->
 1=r0)/\
((!(vAmounts p0))=false->
 let v1:Bool:=decide (18446744069414584321<=p0.wy)
(v1=true->
 1=r0)/\
(v1=false->
(decide (p0.wx<0)=true->
 1=r0)/\
(decide (p0.wx<0)=false->
(decide (1048576<p0.wx)=true->
 1=r0)/\
(decide (1048576<p0.wx)=false->
 let v2:Bool:=decide (1048576<(p0.wAD.length:Int))
(v2=true->
 3=r0)/\
(v2=false->
 0=r0))))))))):knc (p0.wy,p0.wE,p0.wT,p0.wV,p0.wZ,p0.Fee,p0.we,p0.wO,p0.wx,p0.wAD,()) (r0,()):=WPh.of_eq (by kernel_rfl) h
theorem bd40:Callable Tryz.prog 40:=⟨by rw[Tryz.func40];kernel_rfl,by rw[Tryz.func40];show some _≠some _;decide⟩
theorem k1ln (p0:wm):knc (p0.wy,p0.wE,p0.wT,p0.wV,p0.wZ,p0.Fee,p0.we,p0.wO,p0.wx,p0.wAD,()) (((validE p0):Int),()):=by
 refine k1ts ?_
 unfold validE vRest
 grind
noncomputable def k136:Con TB.den:=k8v.totR fun(a0,a1,a2,a3,a4,a5,a6,a7,a8,a9,())=>(fun(p0:wm)=>(((validE p0):Int),())) (wm.mk a0 a1 a2 a3 a4 a5 a6 a7 a8 a9)
theorem k1u2:k136.Ok Tryz.prog TB:=Con.ok_tot k8v bd40 fun(a0,a1,a2,a3,a4,a5,a6,a7,a8,a9,())=>k1se (k1ln (wm.mk a0 a1 a2 a3 a4 a5 a6 a7 a8 a9))
def k2p:Con TB.den:=Con.mk0 20 [.one (.ptr 0 0),.agg [zqu,zql,.d (.sl (.st 1)),zqu,zqu,zqu,zqu,zqu,zqi,.d (.sl yqb)]] [.cells [zqi,zqi,zqi,zqi,zqi,zqu,zqi,zqi,zqu,zqi,zqi,zql,.row 1,.ptr 2 0,.d (.sl (.st 8)),zqu,.row 3,.row 4],.vec yqu,.cells [.mp 5],.vec yqu,.vec (.st 9),.map yqu (.bool)] (.one (.one (zqi))) [.cells [zqi,zqi,zqi,zqi,zqi,zqu,zqi,zqi,zqu,zqi,zqi,zql,.row 1,.ptr 2 0,.d (.sl (.st 8)),zqu,.row 3,.row 4],.vec yqu,.cells [.mp 5],.vec yqu,.vec (.st 9),.map yqu (.bool)]
abbrev kzt:=CI k2p
abbrev k3c:=CO k2p
noncomputable def k3e:Cx TB:=⟨inf,[k136,kgz,kit,k185,ki7],[],4,[]⟩
noncomputable def k9c:Code:=Tryz.f20.body.getD .skip
noncomputable def kfx:List ResultVar:=Tryz.f20.results.toList
def kat:Tm:=⟨[0,1,2,3,4,5,6],[.cells [zqi,zqi,zqi,zqi,zqi,zqu,zqi,zqi,zqu,zqi,zqi,zql,.row 1,.ptr 2 0,.d (.sl (.st 8)),zqu,.row 3,.row 4],.vec yqu,.cells [.mp 5],.vec yqu,.vec (.st 9),.map yqu (.bool),.cells [zqu,zql,.d (.sl (.st 1)),zqu,zqu,zqu,zqu,zqu,zqi,.d (.sl yqb)]],[0,3],[.one (.ptr 0 0),.one (.ptr 6 0)],67⟩
def ktl (o:k3c) (i:HL TB.den kat.hs):Prop:=ghs TB [] (kat.fill TB i) fun s=>WP TB k3e 100 6 (cB (cB (cB (cB (cB (cB k9c)))))) .no s (retTQ TB k3e k2p kfx o)
structure k6y (o:k3c) (i:HL TB.den kat.hs):Prop where
 h:ktl o i
def k1it (o:k3c):=qS TB k3e 100 6 (cB (cB (cB (cB (cB k9c))))) (.jn kat (k6y o) [] .no [] .no) (retTQ TB k3e k2p kfx o)
def k8z:Tm:=⟨[0,1,2,3,4,5,6],[.cells [zqi,zqi,zqi,zqi,zqi,zqu,zqi,zqi,zqu,zqi,zqi,zql,.row 1,.ptr 2 0,.d (.sl (.st 8)),zqu,.row 3,.row 4],.vec yqu,.cells [.mp 5],.vec yqu,.vec (.st 9),.map yqu (.bool),.cells [zqu,zql,.d (.sl (.st 1)),zqu,zqu,zqu,zqu,zqu,zqi,.d (.sl yqb)]],[0,3,31,32,33],[.one (.ptr 0 0),.one (.ptr 6 0),.one (zql),.one (zqi),.one (zqi)],67⟩
def kbu (o:k3c) (nx1:NX TB k8z) (i:HL TB.den k8z.hs):Prop:=WP TB k3e 100 6 (cA (cA (cB (cA (cB (cB (cB (cB k9c)))))))) .no (k8z.fill TB i) (qM TB 6 k8z nx1 (blockT TB 0 (k1it o)))
noncomputable def k1h5 (o:k3c):An TB:= .nd [] .no [] (.lp [] k8z (kbu o) fun nx1=> .no)
noncomputable def k1hk (o:k3c):An TB:= .nd [] (k1h5 o) [] (.jn kat (k6y o) [] .no [] .no)
noncomputable def k1et (o:k3c):An TB:= .nd [] .no [] (.nd [] .no [] (.nd [] .no [] (k1hk o)))
noncomputable def kwk (o:k3c):An TB:= .nd [] .no [] (k1et o)
def kht (x:kzt) (o:k3c):Prop:=WPh TB k3e 100 6 k9c (kwk o) (k2p.st TB x) (retTQ TB k3e k2p kfx o)
theorem k1eb (o:k3c):OblH TB k3e 100 6 k9c (kwk o) (retTQ TB k3e k2p kfx o):=
 OblH.ofC (X:=((∀nx i,(kbu o) nx i=(kbu o) nx i)/\(∀nx1:NX TB k8z,True)/\(∀i,(k6y o) i=ktl o i)/\True)) (by kernel_rfl) ⟨fun _ _=>rfl,fun _=>trivial,fun _=>propext ⟨fun h=>h.1,fun h=>⟨h⟩⟩,trivial⟩
theorem k1cz {x:kzt} {o:k3c} (h:kht x o):k2p.Snd Tryz.prog x o:=
 Con.soundH (c:=k2p) (C:=k3e) TBok ⟨inf_ok,(all_cons k1u2 (all_cons kr7 (all_cons kyh (all_cons k1w6 (all_cons kto all_nil))))),all_nil⟩ mix Tryz.func20 (by kernel_rfl) (by kernel_rfl) (by kernel_rfl) rfl h (k1eb o)
theorem k1gz {p1:wm} {Ay As Az Ba Bb Bc Ah Bd Be At Ae:Int} {Af:List Int} {Ad:List wA} {Ag:Int} {w1 w3:List Int} {w4:List wI} {w5k:List Int} {w5v:List Bool} {r0 Bo Bp Bq Br Bs Bt Bu Bw Bx Bz Bh:Int} {Bi:List Int} {Bj:List wA} {Bk:Int} {e1 e3:List Int} {e4:List wI} {e5k:List Int} {e5v:List Bool} (h:
((((validE p1) !=0)=true->
(w4.length=w4.length)/\(w3.length=w3.length)/\(w1.length=w1.length)/\(validE p1)=r0/\Ay=Bo/\As=Bp/\Az=Bq/\Ba=Br/\Bb=Bs/\Bc=Bt/\Ah=Bu/\Bd=Bw/\Be=Bx/\At=Bz/\Ae=Bh/\Af=Bi/\Ad=Bj/\Ag=Bk/\w1=e1/\w3=e3/\w4=e4/\w5k=e5k/\w5v=e5v)/\
(((validE p1) !=0)=false->
 let v1:Bool:=decide (p1.wx<(IntKind.i64.wrap ((w4.length:Int)+1)))
(v1=true->
(w4.length=w4.length)/\(w3.length=w3.length)/\(w1.length=w1.length)/\14=r0/\Ay=Bo/\As=Bp/\Az=Bq/\Ba=Br/\Bb=Bs/\Bc=Bt/\Ah=Bu/\Bd=Bw/\Be=Bx/\At=Bz/\Ae=Bh/\Af=Bi/\Ad=Bj/\Ag=Bk/\w1=e1/\w3=e3/\w4=e4/\w5k=e5k/\w5v=e5v)/\
(v1=false->
(w4.length=w4.length)/\(w3.length=w3.length)/\(w1.length=w1.length)/\((1<=Ah/\Ah<=100)/\w3.length<=1000000)/\let r2:Int:=((w3.length-(w3.length-Ah.toNat):Nat):Int)
(0<=((((w3.length-Ah.toNat:Nat):Int).toNat:Nat):Int)/\0<=(r2.toNat:Int)/\((((w3.length-Ah.toNat:Nat):Int).toNat:Nat):Int).toNat+(r2.toNat:Int).toNat<=w3.length/\w3.length<=1000000)/\let r3:Bool:=(decide (p1.wy∈(w3.drop ((((w3.length-Ah.toNat:Nat):Int).toNat:Nat):Int).toNat).take (r2.toNat:Int).toNat))
((!r3)=true->
(w4.length=w4.length)/\(w3.length=w3.length)/\(w1.length=w1.length)/\11=r0/\Ay=Bo/\As=Bp/\Az=Bq/\Ba=Br/\Bb=Bs/\Bc=Bt/\Ah=Bu/\Bd=Bw/\Be=Bx/\At=Bz/\Ae=Bh/\Af=Bi/\Ad=Bj/\Ag=Bk/\w1=e1/\w3=e3/\w4=e4/\w5k=e5k/\w5v=e5v)/\
((!r3)=false->
(w4.length=w4.length)/\(w3.length=w3.length)/\(w1.length=w1.length)/\Md.Loop (p1.wE,((p1.wE.length:Int):Int),(0:Int),Ay,As,Az,Ba,Bb,Bc,Ah,Bd,Be,At,Ae,Af,Ad,Ag,p1.wy,p1.wE,p1.wT,p1.wV,p1.wZ,p1.Fee,p1.we,p1.wO,p1.wx,p1.wAD,w1,w3,w4,w5k,w5v,()) (kbu (r0,Bo,Bp,Bq,Br,Bs,Bt,Bu,Bw,Bx,Bz,Bh,Bi,Bj,Bk,e1,e3,e4,e5k,e5v,()))))))):kht (p1.wy,p1.wE,p1.wT,p1.wV,p1.wZ,p1.Fee,p1.we,p1.wO,p1.wx,p1.wAD,Ay,As,Az,Ba,Bb,Bc,Ah,Bd,Be,At,Ae,Af,Ad,Ag,w1,w3,w4,w5k,w5v,()) (r0,Bo,Bp,Bq,Br,Bs,Bt,Bu,Bw,Bx,Bz,Bh,Bi,Bj,Bk,e1,e3,e4,e5k,e5v,()):=WPh.of_eq (by kernel_rfl) h
theorem k161 {r0 Bo Bp Bq Br Bs Bt Bu Bw Bx Bz Bh:Int} {Bi:List Int} {Bj:List wA} {Bk:Int} {e1 e3:List Int} {e4:List wI} {e5k:List Int} {e5v:List Bool} {Aa Ab Ac Am Ar Ao Av Aw Au Bg Bl:Int} {Ax:List Int} {Bf:List wA} {B5 h6_0:Int} {h6_1:List Int} {h6_2:List ww} {E8 h6_4 h6_5 h6_6 h6_7 h6_8:Int} {h6_9 g1 g3:List Int} {g4:List wI} {g5k:List Int} {g5v:List Bool} (h:
(let v5:Bool:=decide ((IntKind.u64.wrap (B5+E8))<(IntKind.u64.wrap (h6_4+h6_5)))
(v5=true->
(g4.length=g4.length)/\(g3.length=g3.length)/\(g1.length=g1.length)/\13=r0/\Aa=Bo/\Ab=Bp/\Ac=Bq/\Am=Br/\Ar=Bs/\Ao=Bt/\Av=Bu/\Aw=Bw/\Au=Bx/\Bg=Bz/\Bl=Bh/\Ax=Bi/\Bf=Bj/\B5=Bk/\g1=e1/\g3=e3/\g4=e4/\g5k=e5k/\g5v=e5v)/\
(v5=false->
 let v6:Int:=IntKind.i64.wrap ((g1.length:Int)+(h6_2.length:Int))
(0<=Ab)/\(decide ((ishl .i64 1 Ab)<v6)=true->
(g4.length=g4.length)/\(g3.length=g3.length)/\(g1.length=g1.length)/\16=r0/\Aa=Bo/\Ab=Bp/\Ac=Bq/\Am=Br/\Ar=Bs/\Ao=Bt/\Av=Bu/\Aw=Bw/\Au=Bx/\Bg=Bz/\Bl=Bh/\Ax=Bi/\Bf=Bj/\B5=Bk/\g1=e1/\g3=e3/\g4=e4/\g5k=e5k/\g5v=e5v)/\
(decide ((ishl .i64 1 Ab)<v6)=false->
(g4.length=g4.length)/\(g3.length=g3.length)/\(g1.length=g1.length)/\0=r0/\Aa=Bo/\Ab=Bp/\Ac=Bq/\Am=Br/\Ar=Bs/\Ao=Bt/\Av=Bu/\Aw=Bw/\Au=Bx/\Bg=Bz/\Bl=Bh/\Ax=Bi/\Bf=Bj/\B5=Bk/\g1=e1/\g3=e3/\g4=e4/\g5k=e5k/\g5v=e5v)))):k6y (r0,Bo,Bp,Bq,Br,Bs,Bt,Bu,Bw,Bx,Bz,Bh,Bi,Bj,Bk,e1,e3,e4,e5k,e5v,()) (Aa,Ab,Ac,Am,Ar,Ao,Av,Aw,Au,Bg,Bl,Ax,Bf,B5,h6_0,h6_1,h6_2,E8,h6_4,h6_5,h6_6,h6_7,h6_8,h6_9,g1,g3,g4,g5k,g5v,()):=⟨mpr_of (by kernel_rfl) h⟩
def kvh (r0 Bo Bp Bq Br Bs Bt Bu Bw Bx Bz Bh:Int) (Bi:List Int) (Bj:List wA) (Bk:Int) (e1 e3:List Int) (e4:List wI) (e5k:List Int) (e5v:List Bool) (k1:Int->Prop) (s31:List Int) (s32 Aa Ab Ac Am Ar Ao Av Aw Au Bg Bl:Int) (Ax:List Int) (Bf:List wA) (B5 h6_0:Int) (h6_1:List Int) (h6_2:List ww) (E8 h6_4 h6_5 h6_6 h6_7 h6_8:Int) (h6_9 g1 g3:List Int) (g4:List wI) (g5k:List Int) (g5v:List Bool) (s33:Int):Prop:=
(decide (s33<s32)=true->
(0<=s33)/\s33<(s31.length:Int)/\(g5v=trs g5k)/\((decide ((ix s31 s33)∈g5k))=true->
(g4.length=g4.length)/\(g3.length=g3.length)/\(g1.length=g1.length)/\12=r0/\Aa=Bo/\Ab=Bp/\Ac=Bq/\Am=Br/\Ar=Bs/\Ao=Bt/\Av=Bu/\Aw=Bw/\Au=Bx/\Bg=Bz/\Bl=Bh/\Ax=Bi/\Bf=Bj/\B5=Bk/\g1=e1/\g3=e3/\g4=e4/\g5k=e5k/\g5v=e5v)/\
((decide ((ix s31 s33)∈g5k))=false->
(g4.length=g4.length)/\(g3.length=g3.length)/\(g1.length=g1.length)/\k1 (IntKind.i64.wrap (s33+1):Int)))/\
(decide (s33<s32)=false->
(decide (0<E8)=true->
(OkA (wg.mk Bf).wB/\U64 E8/\U64 h6_7)/\let r4:=debitA (wg.mk Bf).wB h6_6 E8 h6_7
((r4.2 !=0)=true->
(g4.length=g4.length)/\(g3.length=g3.length)/\(g1.length=g1.length)/\r4.2=r0/\Aa=Bo/\Ab=Bp/\Ac=Bq/\Am=Br/\Ar=Bs/\Ao=Bt/\Av=Bu/\Aw=Bw/\Au=Bx/\Bg=Bz/\Bl=Bh/\Ax=Bi/\Bf=Bj/\B5=Bk/\g1=e1/\g3=e3/\g4=e4/\g5k=e5k/\g5v=e5v)/\
((r4.2 !=0)=false->
(g4.length=g4.length)/\(g3.length=g3.length)/\(g1.length=g1.length)/\k6y (r0,Bo,Bp,Bq,Br,Bs,Bt,Bu,Bw,Bx,Bz,Bh,Bi,Bj,Bk,e1,e3,e4,e5k,e5v,()) (Aa,Ab,Ac,Am,Ar,Ao,Av,Aw,Au,Bg,Bl,Ax,Bf,B5,h6_0,h6_1,h6_2,E8,h6_4,h6_5,h6_6,h6_7,h6_8,h6_9,g1,g3,g4,g5k,g5v,())))/\
(decide (0<E8)=false->
(g4.length=g4.length)/\(g3.length=g3.length)/\(g1.length=g1.length)/\k6y (r0,Bo,Bp,Bq,Br,Bs,Bt,Bu,Bw,Bx,Bz,Bh,Bi,Bj,Bk,e1,e3,e4,e5k,e5v,()) (Aa,Ab,Ac,Am,Ar,Ao,Av,Aw,Au,Bg,Bl,Ax,Bf,B5,h6_0,h6_1,h6_2,E8,h6_4,h6_5,h6_6,h6_7,h6_8,h6_9,g1,g3,g4,g5k,g5v,())))
theorem k1ea {r0 Bo Bp Bq Br Bs Bt Bu Bw Bx Bz Bh:Int} {Bi:List Int} {Bj:List wA} {Bk:Int} {e1 e3:List Int} {e4:List wI} {e5k:List Int} {e5v:List Bool} {s31:List Int} {s32 Aa Ab Ac Am Ar Ao Av Aw Au Bg Bl:Int} {Ax:List Int} {Bf:List wA} {B5 h6_0:Int} {h6_1:List Int} {h6_2:List ww} {E8 h6_4 h6_5 h6_6 h6_7 h6_8:Int} {h6_9 g1 g3:List Int} {g4:List wI} {g5k:List Int} {g5v:List Bool} {s33:Int} (inv:Int->Prop) (μ:Int->Nat) (h0:inv s33) (hs:∀(s33:Int),inv s33->kvh r0 Bo Bp Bq Br Bs Bt Bu Bw Bx Bz Bh Bi Bj Bk e1 e3 e4 e5k e5v (fun s33q=>inv s33q/\μ s33q<μ s33) s31 s32 Aa Ab Ac Am Ar Ao Av Aw Au Bg Bl Ax Bf B5 h6_0 h6_1 h6_2 E8 h6_4 h6_5 h6_6 h6_7 h6_8 h6_9 g1 g3 g4 g5k g5v s33):Md.Loop (s31,s32,s33,Aa,Ab,Ac,Am,Ar,Ao,Av,Aw,Au,Bg,Bl,Ax,Bf,B5,h6_0,h6_1,h6_2,E8,h6_4,h6_5,h6_6,h6_7,h6_8,h6_9,g1,g3,g4,g5k,g5v,()) (kbu (r0,Bo,Bp,Bq,Br,Bs,Bt,Bu,Bw,Bx,Bz,Bh,Bi,Bj,Bk,e1,e3,e4,e5k,e5v,())):=
 ⟨⟨fun((s31q,s32q,s33q,Al,Ap,Aq,Ce,Cg,Ch,Ci,Cj,Ck,Cd,Cl,B8,Ct,Dx,h6_0q,h6_1q,h6_2q,h6_3q,h6_4q,h6_5q,h6_6q,h6_7q,h6_8q,h6_9q,g1q,g3q,g4q,g5kq,g5vq,()):(List Int)×Int×Int×Int×Int×Int×Int×Int×Int×Int×Int×Int×Int×Int×(List Int)×(List wA)×Int×Int×(List Int)×(List ww)×Int×Int×Int×Int×Int×Int×(List Int)×(List Int)×(List Int)×(List wI)×(List Int)×(List Bool)×Unit)=>(s31=s31q/\s32=s32q/\Aa=Al/\Ab=Ap/\Ac=Aq/\Am=Ce/\Ar=Cg/\Ao=Ch/\Av=Ci/\Aw=Cj/\Au=Ck/\Bg=Cd/\Bl=Cl/\Ax=B8/\Bf=Ct/\B5=Dx/\h6_0=h6_0q/\h6_1=h6_1q/\h6_2=h6_2q/\E8=h6_3q/\h6_4=h6_4q/\h6_5=h6_5q/\h6_6=h6_6q/\h6_7=h6_7q/\h6_8=h6_8q/\h6_9=h6_9q/\g1=g1q/\g3=g3q/\g4=g4q/\g5k=g5kq/\g5v=g5vq)/\inv s33q,fun((_,_,s33q,_,_,_,_,_,_,_,_,_,_,_,_,_,_,_,_,_,_,_,_,_,_,_,_,_,_,_,_,_,()):(List Int)×Int×Int×Int×Int×Int×Int×Int×Int×Int×Int×Int×Int×Int×(List Int)×(List wA)×Int×Int×(List Int)×(List ww)×Int×Int×Int×Int×Int×Int×(List Int)×(List Int)×(List Int)×(List wI)×(List Int)×(List Bool)×Unit)=>μ s33q,⟨⟨rfl,rfl,rfl,rfl,rfl,rfl,rfl,rfl,rfl,rfl,rfl,rfl,rfl,rfl,rfl,rfl,rfl,rfl,rfl,rfl,rfl,rfl,rfl,rfl,rfl,rfl,rfl,rfl,rfl,rfl,rfl⟩,h0⟩,fun(s31p,s32p,s33p,B7,B9,Ca,Dy,D3,D4,Ee,Ef,Eg,Dz,D5,Dc,Es,h0_15p,h6_0p,h6_1p,h6_2p,h6_3p,h6_4p,h6_5p,h6_6p,h6_7p,h6_8p,h6_9p,g1p,g3p,g4p,g5kp,g5vp,()) ⟨eq,hi⟩=>by
  obtain⟨rfl,rfl,rfl,rfl,rfl,rfl,rfl,rfl,rfl,rfl,rfl,rfl,rfl,rfl,rfl,rfl,rfl,rfl,rfl,rfl,rfl,rfl,rfl,rfl,rfl,rfl,rfl,rfl,rfl,rfl,rfl⟩:=eq;exact mpr_of (by kernel_rfl) ((congrArg (fun k=>kvh r0 Bo Bp Bq Br Bs Bt Bu Bw Bx Bz Bh Bi Bj Bk e1 e3 e4 e5k e5v k s31 s32 Aa Ab Ac Am Ar Ao Av Aw Au Bg Bl Ax Bf B5 h6_0 h6_1 h6_2 E8 h6_4 h6_5 h6_6 h6_7 h6_8 h6_9 g1 g3 g4 g5k g5v s33p) (lpk1 (⟨rfl,rfl,rfl,rfl,rfl,rfl,rfl,rfl,rfl,rfl,rfl,rfl,rfl,rfl,rfl,rfl,rfl,rfl,rfl,rfl,rfl,rfl,rfl,rfl,rfl,rfl,rfl,rfl,rfl,rfl,rfl⟩:s31=s31/\s32=s32/\Aa=Aa/\Ab=Ab/\Ac=Ac/\Am=Am/\Ar=Ar/\Ao=Ao/\Av=Av/\Aw=Aw/\Au=Au/\Bg=Bg/\Bl=Bl/\Ax=Ax/\Bf=Bf/\B5=B5/\h6_0=h6_0/\h6_1=h6_1/\h6_2=h6_2/\E8=E8/\h6_4=h6_4/\h6_5=h6_5/\h6_6=h6_6/\h6_7=h6_7/\h6_8=h6_8/\h6_9=h6_9/\g1=g1/\g3=g3/\g4=g4/\g5k=g5k/\g5v=g5v) inv (fun s33q=>μ s33q<μ s33p))).mpr (hs s33p hi))⟩⟩
theorem bd20:Callable Tryz.prog 20:=⟨by rw[Tryz.func20];kernel_rfl,by rw[Tryz.func20];show some _≠some _;decide⟩
theorem k1a0 (p1:wm) (Ay As Az Ba Bb Bc Ah Bd Be At Ae:Int) (Af:List Int) (Ad:List wA) (Ag:Int) (w1 w3:List Int) (w4:List wI) (w5k:List Int) (w5v:List Bool) (h:(∃(c:Nat) (f:Int),c<=800/\PI (PS.mk (wF.mk Ay As Az Ba Bb Bc Ah Bd Be) (wC.mk At Ae Af) Ad Ag w1 w3 w4 w5k w5v) c f)/\TR p1):kht (p1.wy,p1.wE,p1.wT,p1.wV,p1.wZ,p1.Fee,p1.we,p1.wO,p1.wx,p1.wAD,Ay,As,Az,Ba,Bb,Bc,Ah,Bd,Be,At,Ae,Af,Ad,Ag,w1,w3,w4,w5k,w5v,()) (((chkS (PS.mk (wF.mk Ay As Az Ba Bb Bc Ah Bd Be) (wC.mk At Ae Af) Ad Ag w1 w3 w4 w5k w5v) p1):Int),(Ay:Int),(As:Int),(Az:Int),(Ba:Int),(Bb:Int),(Bc:Int),(Ah:Int),(Bd:Int),(Be:Int),(At:Int),(Ae:Int),(Af:List Int),(Ad:List wA),(Ag:Int),(w1:List Int),(w3:List Int),(w4:List wI),(w5k:List Int),(w5v:List Bool),()):=by
 obtain⟨⟨c,f,hc,hp⟩,ht⟩:=h
 have hb:OkA Ad:=hp.b.1
 have hv:w5v=trs w5k:=hp.v
 have h1:1<=Ah:=hp.w1
 have h2:Ah<=100:=hp.w2
 have hd1:1<=As:=hp.d1
 have hd2:As<=12:=hp.d2
 have hrl:w3.length=w4.length+1:=hp.rl
 have hpl:w4.length<=c:=hp.p
 have hll:w1.length<=2^As.toNat:=hp.ll
 have hp12:=pow12 As.toNat (by omega)
 generalize hR0:chkS (PS.mk (wF.mk Ay As Az Ba Bb Bc Ah Bd Be) (wC.mk At Ae Af) Ad Ag w1 w3 w4 w5k w5v) p1=R
 have hR:chk (w4.length:Int) (ancL w3 Ah) w5k Ad Ag w1.length As p1=R:=hR0
 clear hR0
 unfold chk at hR
 refine k1gz ⟨fun e=> ?_,fun e=> ?_⟩
 ·have e:validE p1≠0:=by simpa using e
  rw[if_pos e]at hR
  subst hR
  exact(by repeat' first|apply And.intro|exact rfl|exact True.intro)
 have e:validE p1=0:=by simpa using e
 have vt:=(kax p1).1 e
 have hol:=vt.ol
 have hml:=vt.ml
 rw[if_neg (by rw[e];decide)]at hR
 have ei:IntKind.i64.wrap ((w4.length:Int)+1)=(w4.length:Int)+1:=k1i _ (by omega) (by omega)
 rw[ei]
 refine⟨fun e2=> ?_,fun e2=>⟨rfl,rfl,rfl,⟨⟨h1,h2⟩,by omega⟩,?_⟩⟩
 ·rw[if_pos (of_decide_eq_true e2)]at hR
  subst hR
  exact(by repeat' first|apply And.intro|exact rfl|exact True.intro)
 rw[if_neg (of_decide_eq_false e2)]at hR
 have eA:(w3.drop (w3.length-Ah.toNat)).take (w3.length-(w3.length-Ah.toNat))=ancL w3 Ah:=by
  unfold ancL
  exact List.take_of_length_le (by rw[List.length_drop];omega)
 simp only[Int.toNat_natCast,eA]
 refine⟨⟨by omega,by omega,by omega,by omega⟩,fun e3=> ?_,fun e3=>⟨(by first|exact rfl|exact True.intro),(by first|exact rfl|exact True.intro),(by first|exact rfl|exact True.intro),?_⟩⟩
 ·have e3:p1.wy∉ancL w3 Ah:=by simpa using e3
  rw[if_pos e3]at hR
  subst hR
  exact(by repeat' first|apply And.intro|exact rfl|exact True.intro)
 have e3:¬p1.wy∉ancL w3 Ah:=by simpa using e3
 rw[if_neg e3]at hR
 have j1:(p1.wE.any fun m=>decide (m∈w5k))=false->¬(0<p1.wV/\(debitA Ad p1.we p1.wV p1.wO).2≠0)->k6y (R,Ay,As,Az,Ba,Bb,Bc,Ah,Bd,Be,At,Ae,Af,Ad,Ag,w1,w3,w4,w5k,w5v,()) (Ay,As,Az,Ba,Bb,Bc,Ah,Bd,Be,At,Ae,Af,Ad,Ag,p1.wy,p1.wE,p1.wT,p1.wV,p1.wZ,p1.Fee,p1.we,p1.wO,p1.wx,p1.wAD,w1,w3,w4,w5k,w5v,()):=by
  intro g1 g2
  rw[if_neg (by rw[g1];decide),if_neg g2]at hR
  refine k161 ⟨fun e4=> ?_,fun e4=>⟨by omega,?_⟩⟩
  ·rw[if_pos (of_decide_eq_true e4)]at hR
   subst hR
   exact(by repeat' first|apply And.intro|exact rfl|exact True.intro)
  ·rw[if_neg (of_decide_eq_false e4)]at hR
   obtain⟨d,hd⟩:=Int.eq_ofNat_of_zero_le (show 0<=As by omega)
   have hdn:As.toNat=d:=by omega
   rw[hdn]at hR hp12 hll
   rw[k1i _ (by omega) (by omega),show ishl .i64 1 As=((2^d:Nat):Int)by rw[hd];exact shl1 d (by omega)]
   refine⟨fun e5=> ?_,fun e5=> ?_⟩
   ·rw[if_pos (by have:=of_decide_eq_true e5;omega)]at hR
    subst hR
    exact(by repeat' first|apply And.intro|exact rfl|exact True.intro)
   ·rw[if_neg (by have:=of_decide_eq_false e5;omega)]at hR
    subst hR
    exact(by repeat' first|apply And.intro|exact rfl|exact True.intro)
 refine k1ea (fun a=>∃i:Nat,a=(i:Int)/\i<=p1.wE.length/\((p1.wE.take i).any fun m=>decide (m∈w5k))=false) (fun a=>(p1.wE.length-a).toNat) ⟨0,rfl,by omega,rfl⟩ ?_
 rintro _ ⟨i,rfl,hi,hm⟩
 refine⟨fun e4=> ?_,fun e4=> ?_⟩
 ·have e4:i<p1.wE.length:=by have:=of_decide_eq_true e4;omega
  rw[ix_get _ _ e4,inc_i64 _ (by omega)]
  refine⟨by omega,by omega,hv,fun e5=> ?_,fun e5=>⟨rfl,rfl,rfl,⟨i+1,rfl,by omega,?_⟩,by omega⟩⟩
  ·rw[if_pos (List.any_eq_true.2 ⟨_,List.getElem_mem e4,e5⟩)]at hR
   subst hR
   exact(by repeat' first|apply And.intro|exact rfl|exact True.intro)
  ·rw[List.take_succ_eq_append_getElem e4,List.any_append,hm,List.any_cons,e5]
   rfl
 ·have e4:i=p1.wE.length:=by have:=of_decide_eq_false e4;omega
  subst e4
  rw[List.take_length]at hm
  refine⟨fun e5=>⟨⟨hb,ht.d,ht.n⟩,fun e6=> ?_,fun e6=>⟨rfl,rfl,rfl,j1 hm ?_⟩⟩,fun e5=>⟨rfl,rfl,rfl,j1 hm ?_⟩⟩
  ·have e5:=of_decide_eq_true e5
   have e6:(debitA Ad p1.we p1.wV p1.wO).2≠0:=by simpa using e6
   rw[if_neg (by rw[hm];decide),if_pos ⟨e5,e6⟩]at hR
   subst hR
   exact(by repeat' first|apply And.intro|exact rfl|exact True.intro)
  ·have e6:(debitA Ad p1.we p1.wV p1.wO).2=0:=by simpa using e6
   exact fun hh=>hh.2 e6
  ·have e5:=of_decide_eq_false e5
   exact fun hh=>e5 hh.1
noncomputable def kjl:Con TB.den:=k2p.fnR (fun(a0,a1,a2,a3,a4,a5,a6,a7,a8,a9,a10,a11,a12,a13,a14,a15,a16,a17,a18,a19,a20,a21,a22,a23,a24,a25,a26,a27,a28,())=>(fun(p1:wm) (Ay As Az Ba Bb Bc Ah Bd Be At Ae:Int) (Af:List Int) (Ad:List wA) (Ag:Int) (w1 w3:List Int) (w4:List wI) (w5k:List Int) (w5v:List Bool)=>(∃(c:Nat) (f:Int),c<=800/\PI (PS.mk (wF.mk Ay As Az Ba Bb Bc Ah Bd Be) (wC.mk At Ae Af) Ad Ag w1 w3 w4 w5k w5v) c f)/\TR p1) (wm.mk a0 a1 a2 a3 a4 a5 a6 a7 a8 a9) a10 a11 a12 a13 a14 a15 a16 a17 a18 a19 a20 a21 a22 a23 a24 a25 a26 a27 a28) fun(a0,a1,a2,a3,a4,a5,a6,a7,a8,a9,a10,a11,a12,a13,a14,a15,a16,a17,a18,a19,a20,a21,a22,a23,a24,a25,a26,a27,a28,())=>(fun(p1:wm) (Ay As Az Ba Bb Bc Ah Bd Be At Ae:Int) (Af:List Int) (Ad:List wA) (Ag:Int) (w1 w3:List Int) (w4:List wI) (w5k:List Int) (w5v:List Bool)=>(((chkS (PS.mk (wF.mk Ay As Az Ba Bb Bc Ah Bd Be) (wC.mk At Ae Af) Ad Ag w1 w3 w4 w5k w5v) p1):Int),Ay,As,Az,Ba,Bb,Bc,Ah,Bd,Be,At,Ae,Af,Ad,Ag,w1,w3,w4,w5k,w5v,())) (wm.mk a0 a1 a2 a3 a4 a5 a6 a7 a8 a9) a10 a11 a12 a13 a14 a15 a16 a17 a18 a19 a20 a21 a22 a23 a24 a25 a26 a27 a28
theorem kv7:kjl.Ok Tryz.prog TB:=Con.ok_fn k2p bd20 fun(a0,a1,a2,a3,a4,a5,a6,a7,a8,a9,a10,a11,a12,a13,a14,a15,a16,a17,a18,a19,a20,a21,a22,a23,a24,a25,a26,a27,a28,()) h=>k1cz (k1a0 (wm.mk a0 a1 a2 a3 a4 a5 a6 a7 a8 a9) a10 a11 a12 a13 a14 a15 a16 a17 a18 a19 a20 a21 a22 a23 a24 a25 a26 a27 a28 h)
def k67:Con TB.den:=Con.mk0 102 [.one (.ptr 0 0),.one (zql),.one (.d (.bool))] [.cells [.mp 1],.map yqu (.bool)] (.one (.one (.d (.bool)))) [.cells [.mp 1],.map yqu (.bool)]
abbrev k1g0:=CI k67
abbrev kcz:=CO k67
noncomputable def k8s:Cx TB:=⟨inf,[],[],4,[]⟩
noncomputable def kho:Code:=Tryz.f102.body.getD .skip
noncomputable def ku1:List ResultVar:=Tryz.f102.results.toList
def k1td (o:kcz):=qS TB k8s 24 2 (cB (cB kho)) .no (retTQ TB k8s k67 ku1 o)
def kdi:Tm:=⟨[0,1],[.cells [.mp 1],.map yqu (.bool)],[0,2,9,10,11],[.one (.ptr 0 0),.one (.d (.bool)),.one (zql),.one (zqi),.one (zqi)],2⟩
def kh4 (o:kcz) (nx1:NX TB kdi) (i:HL TB.den kdi.hs):Prop:=WP TB k8s 24 2 (cA (cA (cB (cA (cB kho))))) .no (kdi.fill TB i) (qM TB 2 kdi nx1 (blockT TB 0 (k1td o)))
noncomputable def k1t9 (o:kcz):An TB:= .nd [] .no [] (.lp [] kdi (kh4 o) fun nx1=> .no)
noncomputable def k17w (o:kcz):An TB:= .nd [] .no [] (.nd [] (k1t9 o) [] .no)
def kny (x:k1g0) (o:kcz):Prop:=WPh TB k8s 24 2 kho (k17w o) (k67.st TB x) (retTQ TB k8s k67 ku1 o)
theorem k1pn (o:kcz):OblH TB k8s 24 2 kho (k17w o) (retTQ TB k8s k67 ku1 o):=
 OblH.ofC (X:=((∀nx i,(kh4 o) nx i=(kh4 o) nx i)/\(∀nx1:NX TB kdi,True)/\True)) (by kernel_rfl) ⟨fun _ _=>rfl,fun _=>trivial,trivial⟩
theorem k1q5 {x:k1g0} {o:kcz} (h:kny x o):k67.Snd Tryz.prog x o:=
 Con.soundH (c:=k67) (C:=k8s) TBok ⟨inf_ok,all_nil,all_nil⟩ mix Tryz.func102 (by kernel_rfl) (by kernel_rfl) (by kernel_rfl) rfl h (k1pn o)
theorem k1tc {p1:List Int} {p2:Bool} {w1k:List Int} {w1v:List Bool} {r0:Bool} {e1k:List Int} {e1v:List Bool} (h:
(Md.Loop (p2,p1,((p1.length:Int):Int),(0:Int),w1k,w1v,()) (kh4 (r0,e1k,e1v,())))):kny (p1,p2,w1k,w1v,()) (r0,e1k,e1v,()):=WPh.of_eq (by kernel_rfl) h
def k17j (r0:Bool) (e1k:List Int) (e1v:List Bool) (k1:Int->Prop) (s2:Bool) (s9:List Int) (s10:Int) (g1k:List Int) (g1v:List Bool) (s11:Int):Prop:=
(decide (s11<s10)=true->
(0<=s11)/\s11<(s9.length:Int)/\g1k.length=g1v.length/\let v1:Bool:=mVal (BEq.beq (ix s9 s11)) g1k g1v false
((v1==s2)=true->
 true=r0/\g1k=e1k/\g1v=e1v)/\
((v1==s2)=false->
 k1 (IntKind.i64.wrap (s11+1):Int)))/\
(decide (s11<s10)=false->
 false=r0/\g1k=e1k/\g1v=e1v)
theorem k1ow {r0:Bool} {e1k:List Int} {e1v:List Bool} {s2:Bool} {s9:List Int} {s10:Int} {g1k:List Int} {g1v:List Bool} {s11:Int} (inv:Int->Prop) (μ:Int->Nat) (h0:inv s11) (hs:∀(s11:Int),inv s11->k17j r0 e1k e1v (fun s11q=>inv s11q/\μ s11q<μ s11) s2 s9 s10 g1k g1v s11):Md.Loop (s2,s9,s10,s11,g1k,g1v,()) (kh4 (r0,e1k,e1v,())):=
 ⟨⟨fun((s2q,s9q,s10q,s11q,g1kq,g1vq,()):Bool×(List Int)×Int×Int×(List Int)×(List Bool)×Unit)=>(s2=s2q/\s9=s9q/\s10=s10q/\g1k=g1kq/\g1v=g1vq)/\inv s11q,fun((_,_,_,s11q,_,_,()):Bool×(List Int)×Int×Int×(List Int)×(List Bool)×Unit)=>μ s11q,⟨⟨rfl,rfl,rfl,rfl,rfl⟩,h0⟩,fun(s2p,s9p,s10p,s11p,g1kp,g1vp,()) ⟨eq,hi⟩=>by
  obtain⟨rfl,rfl,rfl,rfl,rfl⟩:=eq;exact mpr_of (by kernel_rfl) ((congrArg (fun k=>k17j r0 e1k e1v k s2 s9 s10 g1k g1v s11p) (lpk1 (⟨rfl,rfl,rfl,rfl,rfl⟩:s2=s2/\s9=s9/\s10=s10/\g1k=g1k/\g1v=g1v) inv (fun s11q=>μ s11q<μ s11p))).mpr (hs s11p hi))⟩⟩
theorem bd102:Callable Tryz.prog 102:=⟨by rw[Tryz.func102];kernel_rfl,by rw[Tryz.func102];show some _≠some _;decide⟩
theorem k1lb (p1:List Int) (p2:Bool) (w1k:List Int) (w1v:List Bool) (h:w1v=trs w1k/\p1.length<=1000000):kny (p1,p2,w1k,w1v,()) (((p1.any (fun m=>decide (m∈w1k)==p2)):Bool),(w1k:List Int),(w1v:List Bool),()):=by
 obtain⟨h,hl⟩:=h
 subst h
 refine k1tc (k1ow (fun a=>∃i:Nat,a=(i:Int)/\i<=p1.length/\(p1.drop i).any (fun m=>decide (m∈w1k)==p2)=p1.any (fun m=>decide (m∈w1k)==p2)) (fun a=>(p1.length-a).toNat) ⟨0,rfl,by omega,rfl⟩ ?_)
 rintro _ ⟨i,rfl,hi,he⟩
 refine⟨fun e=> ?_,fun e=> ?_⟩
 ·have e:i<p1.length:=by have:=of_decide_eq_true e;omega
  rw[ix_get _ _ e,sVal,inc_i64 _ (by omega)]
  rw[List.drop_eq_getElem_cons e,List.any_cons]at he
  refine⟨by omega,by omega,by simp[trs],fun e2=> ?_,fun e2=> ?_⟩
  ·rw[e2,Bool.true_or]at he
   rw[<-he]
   exact⟨rfl,rfl,rfl⟩
  ·rw[e2,Bool.false_or]at he
   exact⟨⟨i+1,rfl,by omega,he⟩,by omega⟩
 ·have e:i=p1.length:=by have:=of_decide_eq_false e;omega
  subst e
  rw[List.drop_length]at he
  rw[<-he]
  exact⟨rfl,rfl,rfl⟩
noncomputable def krq:Con TB.den:=k67.fnR (fun(a0,a1,a2,a3,())=>(fun(p1:List Int) (p2:Bool) (w1k:List Int) (w1v:List Bool)=>w1v=trs w1k/\p1.length<=1000000) a0 a1 a2 a3) fun(a0,a1,a2,a3,())=>(fun(p1:List Int) (p2:Bool) (w1k:List Int) (w1v:List Bool)=>(((p1.any (fun m=>decide (m∈w1k)==p2)):Bool),w1k,w1v,())) a0 a1 a2 a3
theorem k18g:krq.Ok Tryz.prog TB:=Con.ok_fn k67 bd102 fun(a0,a1,a2,a3,()) h=>k1q5 (k1lb a0 a1 a2 a3 h)
def k1l:Con TB.den:=Con.mk0 103 [.one (zql)] [] (.one (.one (.d (.bool)))) []
abbrev kmo:=CI k1l
abbrev k22:=CO k1l
noncomputable def k2c:Cx TB:=⟨inf,[],[],4,[]⟩
noncomputable def k80:Code:=Tryz.f103.body.getD .skip
noncomputable def kdo:List ResultVar:=Tryz.f103.results.toList
def k10h (o:k22):=qS TB k2c 19 0 (cB (cB (cB k80))) .no (retTQ TB k2c k1l kdo o)
def k3p:Tm:=⟨[0],[.map yqu (.bool)],[3,7,8,9],[.one (.mp 0),.one (zql),.one (zqi),.one (zqi)],1⟩
def k110 (o:k22) (nx1:NX TB k3p):=qM TB 0 k3p nx1 (blockT TB 0 (k10h o))
def k6r (o:k22) (nx1:NX TB k3p) (i:HL TB.den k3p.hs):Prop:=WP TB k2c 19 0 (cA (cA (cB (cA (cB (cB k80)))))) .no (k3p.fill TB i) (k110 o nx1)
noncomputable def k10q (o:k22):An TB:= .lp [] k3p (k6r o) fun nx1=> .no
noncomputable def k11c (o:k22):An TB:= .nd [] .no [] (.nd [] (.nd [] .no [] (k10q o)) [] .no)
noncomputable def kki (o:k22):An TB:= .nd [] .no [] (k11c o)
def kcf (x:kmo) (o:k22):Prop:=WPh TB k2c 19 0 k80 (kki o) (k1l.st TB x) (retTQ TB k2c k1l kdo o)
theorem kxh (o:k22):OblH TB k2c 19 0 k80 (kki o) (retTQ TB k2c k1l kdo o):=
 OblH.ofC (X:=((∀nx i,(k6r o) nx i=(k6r o) nx i)/\(∀nx1:NX TB k3p,True)/\True)) (by kernel_rfl) ⟨fun _ _=>rfl,fun _=>trivial,trivial⟩
theorem ky7 {x:kmo} {o:k22} (h:kcf x o):k1l.Snd Tryz.prog x o:=
 Con.soundH (c:=k1l) (C:=k2c) TBok ⟨inf_ok,all_nil,all_nil⟩ mix Tryz.func103 (by kernel_rfl) (by kernel_rfl) (by kernel_rfl) rfl h (kxh o)
theorem k115 {p0:List Int} {r0:Bool} (h:
(Md.Loop (p0,((p0.length:Int):Int),(0:Int),(([]:List Int):List Int),(([]:List Bool):List Bool),()) (k6r (r0,())))):kcf (p0,()) (r0,()):=WPh.of_eq (by kernel_rfl) h
def kkh (r0:Bool) (k1:Int->List Int->List Bool->Prop) (s7:List Int) (s8 s9:Int) (g0k:List Int) (g0v:List Bool):Prop:=
(decide (s9<s8)=true->
(0<=s9)/\s9<(s7.length:Int)/\g0k.length=g0v.length/\let v1:Bool:=mVal (BEq.beq (ix s7 s9)) g0k g0v false
(v1=true->
 true=r0)/\
(v1=false->
 g0k.length=g0v.length/\let v2:List Int:=mPutK (BEq.beq (ix s7 s9)) g0k (ix s7 s9)
 let v3:List Bool:=mPutV (BEq.beq (ix s7 s9)) g0k g0v true
 k1 (IntKind.i64.wrap (s9+1):Int) v2 v3))/\
(decide (s9<s8)=false->
 false=r0)
theorem kyi {r0:Bool} {s7:List Int} {s8 s9:Int} {g0k:List Int} {g0v:List Bool} (inv:Int->List Int->List Bool->Prop) (μ:Int->List Int->List Bool->Nat) (h0:inv s9 g0k g0v) (hs:∀(s9:Int) (g0k:List Int) (g0v:List Bool),inv s9 g0k g0v->kkh r0 (fun s9q g0kq g0vq=>inv s9q g0kq g0vq/\μ s9q g0kq g0vq<μ s9 g0k g0v) s7 s8 s9 g0k g0v):Md.Loop (s7,s8,s9,g0k,g0v,()) (k6r (r0,())):=
 ⟨⟨fun((s7q,s8q,s9q,g0kq,g0vq,()):(List Int)×Int×Int×(List Int)×(List Bool)×Unit)=>(s7=s7q/\s8=s8q)/\inv s9q g0kq g0vq,fun((_,_,s9q,g0kq,g0vq,()):(List Int)×Int×Int×(List Int)×(List Bool)×Unit)=>μ s9q g0kq g0vq,⟨⟨rfl,rfl⟩,h0⟩,fun(s7p,s8p,s9p,g0kp,g0vp,()) ⟨eq,hi⟩=>by
  obtain⟨rfl,rfl⟩:=eq;exact mpr_of (by kernel_rfl) ((congrArg (fun k=>kkh r0 k s7 s8 s9p g0kp g0vp) (lpk3 (⟨rfl,rfl⟩:s7=s7/\s8=s8) inv (fun s9q g0kq g0vq=>μ s9q g0kq g0vq<μ s9p g0kp g0vp))).mpr (hs s9p g0kp g0vp hi))⟩⟩
theorem bd103:Callable Tryz.prog 103:=⟨by rw[Tryz.func103];kernel_rfl,by rw[Tryz.func103];show some _≠some _;decide⟩
theorem kv4 (p0:List Int) (h:p0.length<=1000000):kcf (p0,()) (((!decide p0.Nodup):Bool),()):=by
 refine k115 (kyi (fun a k v=>∃i:Nat,a=(i:Int)/\i<=p0.length/\k=p0.take i/\v=trs k/\k.Nodup) (fun a _ _=>(p0.length-a).toNat) ⟨0,rfl,by omega,rfl,rfl,List.nodup_nil⟩ ?_)
 rintro _ _ _ ⟨i,rfl,hi,rfl,rfl,hn⟩
 refine⟨fun e=> ?_,fun e=> ?_⟩
 ·have e:i<p0.length:=by have:=of_decide_eq_true e;omega
  rw[ix_get _ _ e,sVal,inc_i64 _ (by omega)]
  refine⟨by omega,by omega,by simp[trs],fun e2=> ?_,fun e2=>⟨by simp[trs],?_⟩⟩
  ·have e2:=of_decide_eq_true e2
   have:¬p0.Nodup:=fun hh=>by
    rw[<-List.take_append_drop i p0,List.drop_eq_getElem_cons e,List.nodup_append]at hh
    exact hh.2.2 _ e2 p0[i] List.mem_cons_self rfl
   simp[this]
  ·have e2:=of_decide_eq_false e2
   obtain⟨q1,q2⟩:=sPut e2
   rw[q1,q2,<-List.take_succ_eq_append_getElem]
   refine⟨⟨i+1,rfl,by omega,rfl,rfl,?_⟩,by omega⟩
   rw[List.take_succ_eq_append_getElem e,List.nodup_append]
   exact⟨hn,by simp,fun a ha b hb=>by rw[List.mem_singleton.1 hb];rintro rfl;exact e2 ha⟩
 ·have e:i=p0.length:=by have:=of_decide_eq_false e;omega
  subst e
  rw[List.take_length]at hn
  simp[hn]
noncomputable def kcv:Con TB.den:=k1l.fnR (fun x=>(fun(p0:List Int)=>p0.length<=1000000) x.1) fun x=>(fun(p0:List Int)=>(((!decide p0.Nodup):Bool),())) x.1
theorem kko:kcv.Ok Tryz.prog TB:=Con.ok_fn k1l bd103 fun x h=>ky7 (kv4 x.1 h)
def k73:Con TB.den:=Con.mk0 104 [.one (.ptr 0 0),.one (zql)] [.cells [.mp 1],.map yqu (.bool)] (.one (.one (zqi))) [.cells [.mp 1],.map yqu (.bool)]
abbrev k1kp:=CI k73
abbrev kea:=CO k73
noncomputable def kah:Cx TB:=⟨inf,[krq,kcv],[],4,[]⟩
noncomputable def kjy:Code:=Tryz.f104.body.getD .skip
noncomputable def kxq:List ResultVar:=Tryz.f104.results.toList
def k1wh (o:kea):=qS TB kah 35 2 (cB (cB (cB (cB kjy)))) .no (retTQ TB kah k73 kxq o)
def kfn:Tm:=⟨[0,1],[.cells [.mp 1],.map yqu (.bool)],[0,23,24,25],[.one (.ptr 0 0),.one (zql),.one (zqi),.one (zqi)],2⟩
def kkg (o:kea) (nx1:NX TB kfn) (i:HL TB.den kfn.hs):Prop:=WP TB kah 35 2 (cA (cA (cB (cA (cB (cB (cB kjy))))))) .no (kfn.fill TB i) (qM TB 2 kfn nx1 (blockT TB 0 (k1wh o)))
noncomputable def k1ww (o:kea):An TB:= .nd [] .no [] (.lp [] kfn (kkg o) fun nx1=> .no)
noncomputable def k1cn (o:kea):An TB:= .nd [] .no [] (.nd [] .no [] (.nd [] .no [] (.nd [] (k1ww o) [] .no)))
def kqo (x:k1kp) (o:kea):Prop:=WPh TB kah 35 2 kjy (k1cn o) (k73.st TB x) (retTQ TB kah k73 kxq o)
theorem k1tb (o:kea):OblH TB kah 35 2 kjy (k1cn o) (retTQ TB kah k73 kxq o):=
 OblH.ofC (X:=((∀nx i,(kkg o) nx i=(kkg o) nx i)/\(∀nx1:NX TB kfn,True)/\True)) (by kernel_rfl) ⟨fun _ _=>rfl,fun _=>trivial,trivial⟩
theorem k1u1 {x:k1kp} {o:kea} (h:kqo x o):k73.Snd Tryz.prog x o:=
 Con.soundH (c:=k73) (C:=kah) TBok ⟨inf_ok,(all_cons k18g (all_cons kko all_nil)),all_nil⟩ mix Tryz.func104 (by kernel_rfl) (by kernel_rfl) (by kernel_rfl) rfl h (k1tb o)
theorem k1vf {p1 w1k:List Int} {w1v:List Bool} {r0:Int} {e1k:List Int} {e1v:List Bool} (h:
((w1v=trs w1k/\p1.length<=1000000)/\let r1:Bool:=(p1.any (fun m=>decide (m∈w1k)==true))
(r1=true->
 12=r0/\w1k=e1k/\w1v=e1v)/\
(r1=false->
(p1.length<=1000000)/\((!decide p1.Nodup)=true->
 12=r0/\w1k=e1k/\w1v=e1v)/\
((!decide p1.Nodup)=false->
 Md.Loop (p1,((p1.length:Int):Int),(0:Int),w1k,w1v,()) (kkg (r0,e1k,e1v,())))))):kqo (p1,w1k,w1v,()) (r0,e1k,e1v,()):=WPh.of_eq (by kernel_rfl) h
def k1cw (r0:Int) (e1k:List Int) (e1v:List Bool) (k1:Int->List Int->List Bool->Prop) (s23:List Int) (s24 s25:Int) (g1k:List Int) (g1v:List Bool):Prop:=
(decide (s25<s24)=true->
(0<=s25)/\s25<(s23.length:Int)/\g1k.length=g1v.length/\let v2:List Int:=mPutK (BEq.beq (ix s23 s25)) g1k (ix s23 s25)
 let v3:List Bool:=mPutV (BEq.beq (ix s23 s25)) g1k g1v true
 k1 (IntKind.i64.wrap (s25+1):Int) v2 v3)/\
(decide (s25<s24)=false->
 0=r0/\g1k=e1k/\g1v=e1v)
theorem k1tl {r0:Int} {e1k:List Int} {e1v:List Bool} {s23:List Int} {s24 s25:Int} {g1k:List Int} {g1v:List Bool} (inv:Int->List Int->List Bool->Prop) (μ:Int->List Int->List Bool->Nat) (h0:inv s25 g1k g1v) (hs:∀(s25:Int) (g1k:List Int) (g1v:List Bool),inv s25 g1k g1v->k1cw r0 e1k e1v (fun s25q g1kq g1vq=>inv s25q g1kq g1vq/\μ s25q g1kq g1vq<μ s25 g1k g1v) s23 s24 s25 g1k g1v):Md.Loop (s23,s24,s25,g1k,g1v,()) (kkg (r0,e1k,e1v,())):=
 ⟨⟨fun((s23q,s24q,s25q,g1kq,g1vq,()):(List Int)×Int×Int×(List Int)×(List Bool)×Unit)=>(s23=s23q/\s24=s24q)/\inv s25q g1kq g1vq,fun((_,_,s25q,g1kq,g1vq,()):(List Int)×Int×Int×(List Int)×(List Bool)×Unit)=>μ s25q g1kq g1vq,⟨⟨rfl,rfl⟩,h0⟩,fun(s23p,s24p,s25p,g1kp,g1vp,()) ⟨eq,hi⟩=>by
  obtain⟨rfl,rfl⟩:=eq;exact mpr_of (by kernel_rfl) ((congrArg (fun k=>k1cw r0 e1k e1v k s23 s24 s25p g1kp g1vp) (lpk3 (⟨rfl,rfl⟩:s23=s23/\s24=s24) inv (fun s25q g1kq g1vq=>μ s25q g1kq g1vq<μ s25p g1kp g1vp))).mpr (hs s25p g1kp g1vp hi))⟩⟩
theorem bd104:Callable Tryz.prog 104:=⟨by rw[Tryz.func104];kernel_rfl,by rw[Tryz.func104];show some _≠some _;decide⟩
theorem k1sm (p1 w1k:List Int) (w1v:List Bool) (h:w1v=trs w1k/\p1.length<=1000000):kqo (p1,w1k,w1v,()) ((((addS p1 w1k).1):Int),(((addS p1 w1k).2):List Int),((trs (addS p1 w1k).2):List Bool),()):=by
 obtain⟨h,hl⟩:=h
 subst h
 have ea:(p1.any fun m=>decide (m∈w1k)==true)=p1.any fun m=>decide (m∈w1k):=by congr 1;funext m;simp
 refine k1vf ⟨⟨rfl,hl⟩,?_⟩
 rw[ea]
 refine⟨fun e=> ?_,fun e=>⟨hl,fun e2=> ?_,fun e2=> ?_⟩⟩
 ·have:addS p1 w1k=(12,w1k):=by unfold addS;rw[e];rfl
  rw[this]
  exact⟨rfl,rfl,rfl⟩
 ·have:addS p1 w1k=(12,w1k):=by unfold addS;rw[e,e2];rfl
  rw[this]
  exact⟨rfl,rfl,rfl⟩
 ·have hA:addS p1 w1k=(0,w1k++p1):=by unfold addS;rw[e,e2];rfl
  have hn:p1.Nodup:=by simpa using e2
  rw[hA]
  refine k1tl (fun a k v=>∃i:Nat,a=(i:Int)/\i<=p1.length/\k=w1k++p1.take i/\v=trs k) (fun a _ _=>(p1.length-a).toNat) ⟨0,rfl,by omega,by simp,by simp⟩ ?_
  rintro _ _ _ ⟨i,rfl,hi,rfl,rfl⟩
  refine⟨fun e3=> ?_,fun e3=> ?_⟩
  ·have e3:i<p1.length:=by have:=of_decide_eq_true e3;omega
   rw[ix_get _ _ e3,inc_i64 _ (by omega)]
   have hm:p1[i]∉w1k++p1.take i:=by
    intro hm
    rcases List.mem_append.1 hm with hm|hm
    ·have:=List.any_eq_false.1 e p1[i] (List.getElem_mem e3)
     simp[hm]at this
    ·rw[<-List.take_append_drop i p1,List.drop_eq_getElem_cons e3,List.nodup_append]at hn
     exact hn.2.2 _ hm p1[i] List.mem_cons_self rfl
   obtain⟨q1,q2⟩:=sPut hm
   rw[q1,q2]
   refine⟨by omega,by omega,by simp[trs],⟨i+1,rfl,by omega,?_,rfl⟩,by omega⟩
   rw[List.take_succ_eq_append_getElem e3,List.append_assoc]
  ·have e3:i=p1.length:=by have:=of_decide_eq_false e3;omega
   subst e3
   rw[List.take_length]
   exact⟨rfl,rfl,rfl⟩
noncomputable def k18l:Con TB.den:=k73.fnR (fun x=>(fun(p1 w1k:List Int) (w1v:List Bool)=>w1v=trs w1k/\p1.length<=1000000) x.1 x.2.1 x.2.2.1) fun x=>(fun(p1 w1k:List Int) (w1v:List Bool)=>((((addS p1 w1k).1):Int),(((addS p1 w1k).2):List Int),((trs (addS p1 w1k).2):List Bool),())) x.1 x.2.1 x.2.2.1
theorem k1w3:k18l.Ok Tryz.prog TB:=Con.ok_fn k73 bd104 fun x h=>k1u1 (k1sm x.1 x.2.1 x.2.2.1 h)
def k1y:Con TB.den:=Con.mk0 81 [.agg [zqi,zqi,zql]] [] (.one (.one (.d (.bool)))) []
abbrev krb:=CI k1y
abbrev k30:=CO k1y
noncomputable def k3l:Cx TB:=⟨inf,[],[],4,[]⟩
noncomputable def k9r:Code:=Tryz.f81.body.getD .skip
noncomputable def kgp:List ResultVar:=Tryz.f81.results.toList
def k15w (o:k30):=qS TB k3l 56 0 (cB (cB (cB (cB k9r)))) .no (retTQ TB k3l k1y kgp o)
def k4i:Tm:=⟨[0],[.cells [zqi,zqi,zql]],[1,34,35,36],[.one (.ptr 0 0),.one (zql),.one (zqi),.one (zqi)],81⟩
def k176 (o:k30) (nx1:NX TB k4i):=qM TB 0 k4i nx1 (blockT TB 0 (k15w o))
def k8j (o:k30) (nx1:NX TB k4i) (i:HL TB.den k4i.hs):Prop:=WP TB k3l 56 0 (cA (cA (cB (cA (cB (cB (cB k9r))))))) .no (k4i.fill TB i) (k176 o nx1)
noncomputable def k16y (o:k30):An TB:= .lp [] k4i (k8j o) fun nx1=> .no
noncomputable def k175 (o:k30):An TB:= .nd [] .no [] (.nd [] (.nd [] .no [] (k16y o)) [] .no)
noncomputable def ko9 (o:k30):An TB:= .nd [] .no [] (.nd [] .no [] (k175 o))
def kdw (x:krb) (o:k30):Prop:=WPh TB k3l 56 0 k9r (ko9 o) (k1y.st TB x) (retTQ TB k3l k1y kgp o)
theorem k12z (o:k30):OblH TB k3l 56 0 k9r (ko9 o) (retTQ TB k3l k1y kgp o):=
 OblH.ofC (X:=((∀nx i,(k8j o) nx i=(k8j o) nx i)/\(∀nx1:NX TB k4i,True)/\True)) (by kernel_rfl) ⟨fun _ _=>rfl,fun _=>trivial,trivial⟩
theorem k12v {x:krb} {o:k30} (h:kdw x o):k1y.Snd Tryz.prog x o:=
 Con.soundH (c:=k1y) (C:=k3l) TBok ⟨inf_ok,all_nil,all_nil⟩ mix Tryz.func81 (by kernel_rfl) (by kernel_rfl) (by kernel_rfl) rfl h (k12z o)
theorem k165 {p0:wC} {r0:Bool} (h:
((decide (p0.wD<1)=true->
 false=r0)/\
(decide (p0.wD<1)=false->
(decide (12<p0.wD)=true->
 false=r0)/\
(decide (12<p0.wD)=false->
(decide (p0.wh<0)=true->
 false=r0)/\
(decide (p0.wh<0)=false->
(0<=p0.wD)/\let v1:Bool:=decide ((ishl .i64 1 p0.wD)<p0.wh)
(v1=true->
 false=r0)/\
(v1=false->
 let v2:Bool:=((p0.wq.length:Int) !=(IntKind.i64.wrap (p0.wD+1)))
(v2=true->
 false=r0)/\
(v2=false->
 Md.Loop (p0.wq,((p0.wq.length:Int):Int),(0:Int),p0.wD,p0.wh,p0.wq,()) (k8j (r0,()))))))))):kdw (p0.wD,p0.wh,p0.wq,()) (r0,()):=WPh.of_eq (by kernel_rfl) h
def koc (r0:Bool) (k1:Int->Prop) (s34:List Int) (s35 Aa Ab:Int) (Ac:List Int) (s36:Int):Prop:=
(decide (s36<s35)=true->
(0<=s36)/\s36<(s34.length:Int)/\let v3:Bool:=decide (18446744069414584321<=(ix s34 s36))
(v3=true->
 false=r0)/\
(v3=false->
(((ix s34 s36) !=0)=true->
(0<=s36)/\let v4:Bool:=((iand .i64 (ishr .i64 Ab s36) 1)==0)
(v4=true->
 false=r0)/\
(v4=false->
 k1 (IntKind.i64.wrap (s36+1):Int)))/\
(((ix s34 s36) !=0)=false->
 k1 (IntKind.i64.wrap (s36+1):Int))))/\
(decide (s36<s35)=false->
 true=r0)
theorem k13g {r0:Bool} {s34:List Int} {s35 Aa Ab:Int} {Ac:List Int} {s36:Int} (inv:Int->Prop) (μ:Int->Nat) (h0:inv s36) (hs:∀(s36:Int),inv s36->koc r0 (fun s36q=>inv s36q/\μ s36q<μ s36) s34 s35 Aa Ab Ac s36):Md.Loop (s34,s35,s36,Aa,Ab,Ac,()) (k8j (r0,())):=
 ⟨⟨fun((s34q,s35q,s36q,Al,Ap,Aq,()):(List Int)×Int×Int×Int×Int×(List Int)×Unit)=>(s34=s34q/\s35=s35q/\Aa=Al/\Ab=Ap/\Ac=Aq)/\inv s36q,fun((_,_,s36q,_,_,_,()):(List Int)×Int×Int×Int×Int×(List Int)×Unit)=>μ s36q,⟨⟨rfl,rfl,rfl,rfl,rfl⟩,h0⟩,fun(s34p,s35p,s36p,B7,B9,Ca,()) ⟨eq,hi⟩=>by
  obtain⟨rfl,rfl,rfl,rfl,rfl⟩:=eq;exact mpr_of (by kernel_rfl) ((congrArg (fun k=>koc r0 k s34 s35 Aa Ab Ac s36p) (lpk1 (⟨rfl,rfl,rfl,rfl,rfl⟩:s34=s34/\s35=s35/\Aa=Aa/\Ab=Ab/\Ac=Ac) inv (fun s36q=>μ s36q<μ s36p))).mpr (hs s36p hi))⟩⟩
theorem bd81:Callable Tryz.prog 81:=⟨by rw[Tryz.func81];kernel_rfl,by rw[Tryz.func81];show some _≠some _;decide⟩
theorem k10s (p0:wC) (h:FV p0):kdw (p0.wD,p0.wh,p0.wq,()) ((true:Bool),()):=by
 obtain⟨d1,d2,c0,c1,ll,u,z⟩:=h
 obtain⟨d,hd⟩:=Int.eq_ofNat_of_zero_le (show 0<=p0.wD by omega)
 obtain⟨n,hn⟩:=Int.eq_ofNat_of_zero_le c0
 rw[hd,Int.toNat_natCast]at c1 ll
 rw[hn,Int.toNat_natCast]at z
 have hp:=pow12 d (by omega)
 refine k165 ⟨fun e=>(by have:=of_decide_eq_true e;omega),fun _=>⟨fun e=>(by have:=of_decide_eq_true e;omega),fun _=>⟨fun e=>(by have:=of_decide_eq_true e;omega),fun _=>⟨by omega,?_⟩⟩⟩⟩
 rw[hd,hn,shl1 d (by omega),k1i _ (by omega) (by omega)]
 refine⟨fun e=>(by have:=of_decide_eq_true e;omega),fun _=>⟨fun e=> ?_,fun _=> ?_⟩⟩
 ·have e:¬(p0.wq.length:Int)=(d:Int)+1:=by simpa using e
  omega
 refine k13g (fun a=>∃i:Nat,a=(i:Int)/\i<=p0.wq.length) (fun a=>(p0.wq.length-a).toNat) ⟨0,rfl,by omega⟩ ?_
 rintro _ ⟨i,rfl,hi⟩
 refine⟨fun hh=> ?_,fun _=>rfl⟩
 have hh:i<p0.wq.length:=by have:=of_decide_eq_true hh;omega
 have hx:=u _ (List.getElem_mem hh)
 rw[ix_get _ _ hh,inc_i64 _ (by omega),bit1 n i (by omega) (by omega)]
 have next:(∃j:Nat,((i+1:Nat):Int)=(j:Int)/\j<=p0.wq.length)/\((p0.wq.length:Int)-((i+1:Nat):Int)).toNat<((p0.wq.length:Int)-(i:Int)).toNat:=⟨⟨i+1,rfl,by omega⟩,by omega⟩
 refine⟨by omega,by omega,fun e=>(by have:=of_decide_eq_true e;omega),fun _=>⟨fun e=>⟨by omega,fun e2=> ?_,fun _=>next⟩,fun _=>next⟩⟩
 have e:p0.wq[i]≠0:=by simpa using e
 have e2:((n/2^i%2:Nat):Int)=0:=by simpa using e2
 refine(e (z i hh ?_)).elim
 unfold bitN
 generalize n/2^i%2=q at *
 have:q=0:=by omega
 rw[this]
 rfl
noncomputable def keb:Con TB.den:=k1y.fnR (fun x=>(fun(p0:wC)=>FV p0) (wC.mk x.1 x.2.1 x.2.2.1)) fun x=>(fun(p0:wC)=>(true,())) (wC.mk x.1 x.2.1 x.2.2.1)
theorem kol:keb.Ok Tryz.prog TB:=Con.ok_fn k1y bd81 fun x h=>k12v (k10s (wC.mk x.1 x.2.1 x.2.2.1) h)
def k5p:Con TB.den:=Con.mk0 119 [.agg [zqu]] [] (.one (.one (.d (.bool)))) []
abbrev k106:=CI k5p
abbrev knj:=CO k5p
noncomputable def klb:Cx TB:=⟨inf,[],[],4,[]⟩
noncomputable def k19m:Code:=Tryz.f119.body.getD .skip
noncomputable def k1i3:List ResultVar:=Tryz.f119.results.toList
noncomputable def k1hl (o:knj):An TB:= .no
def kiq (x:k106) (o:knj):Prop:=WPh TB klb 13 0 k19m (k1hl o) (k5p.st TB x) (retTQ TB klb k5p k1i3 o)
theorem k1ce {x:k106} {o:knj} (h:kiq x o):k5p.Snd Tryz.prog x o:=
 Con.soundH (c:=k5p) (C:=klb) TBok ⟨inf_ok,all_nil,all_nil⟩ mix Tryz.func119 (by kernel_rfl) (by kernel_rfl) (by kernel_rfl) rfl h (OblH.ofC (X:=True) (by kernel_rfl) trivial)
theorem k1jk {p0:wY} {r0:Bool} (h:
(((p0.P==18446744069414584321)=true->
((p0.P==18446744069414584321)=true->
 true=r0)/\
((p0.P==18446744069414584321)=false->
 false=r0))/\
((p0.P==18446744069414584321)=false->
((p0.P==17)=true->
((p0.P==17)=true->
 true=r0)/\
((p0.P==17)=false->
 false=r0))/\
((p0.P==17)=false->
((p0.P==97)=true->
((p0.P==97)=true->
 true=r0)/\
((p0.P==97)=false->
 false=r0))/\
((p0.P==97)=false->
((p0.P==193)=true->
((p0.P==193)=true->
 true=r0)/\
((p0.P==193)=false->
 false=r0))/\
((p0.P==193)=false->
((p0.P==257)=true->
((p0.P==257)=true->
 true=r0)/\
((p0.P==257)=false->
 false=r0))/\
((p0.P==257)=false->
((p0.P==12289)=true->
((p0.P==12289)=true->
 true=r0)/\
((p0.P==12289)=false->
 false=r0))/\
((p0.P==12289)=false->
((p0.P==65537)=true->
 true=r0)/\
((p0.P==65537)=false->
 false=r0))))))))):kiq (p0.P,()) (r0,()):=WPh.of_eq (by kernel_rfl) h
theorem bd119:Callable Tryz.prog 119:=⟨by rw[Tryz.func119];kernel_rfl,by rw[Tryz.func119];show some _≠some _;decide⟩
theorem k1a5 (p0:wY) (h:p0.P=18446744069414584321):kiq (p0.P,()) ((true:Bool),()):=by
 refine k1jk ?_
 simp[h]
noncomputable def k6e:Con TB.den:=k5p.fnR (fun x=>(fun(p0:wY)=>p0.P=18446744069414584321) (wY.mk x.1)) fun x=>(fun(p0:wY)=>(true,())) (wY.mk x.1)
theorem k94:k6e.Ok Tryz.prog TB:=Con.ok_fn k5p bd119 fun x h=>k1ce (k1a5 (wY.mk x.1) h)
def k5h:Con TB.den:=Con.mk0 133 [.agg [zqu],.one (zqu),.one (zqu)] [] (.one (.one (zqu))) []
abbrev k18k:=CI k5h
abbrev k8w:=CO k5h
noncomputable def k7n:Cx TB:=⟨inf,[],[x37],4,[]⟩
noncomputable def kfi:Code:=Tryz.f133.body.getD .skip
noncomputable def kpq:List ResultVar:=Tryz.f133.results.toList
def k1pz (o:k8w):=qS TB k7n 28 0 (cB (cB (cB kfi))) .no (retTQ TB k7n k5h kpq o)
def khm:Tm:=⟨[0],[.cells [zqu]],[3,7,22],[.one (.ptr 0 0),.one (zqu),.one (.d (.bool))],1⟩
def kzy (o:k8w) (i:HL TB.den khm.hs):Prop:=ghs TB [] (khm.fill TB i) fun s=>WP TB k7n 28 0 (cB (cA (cB (cB kfi)))) .no s (k1pz o)
structure kes (o:k8w) (i:HL TB.den khm.hs):Prop where
 h:kzy o i
noncomputable def k1qs (o:k8w):An TB:= .nd [] (.jn khm (kes o) [] .no [] .no) [] .no
noncomputable def k13l (o:k8w):An TB:= .nd [] .no [] (.nd [] .no [] (k1qs o))
def km8 (x:k18k) (o:k8w):Prop:=WPh TB k7n 28 0 kfi (k13l o) (k5h.st TB x) (retTQ TB k7n k5h kpq o)
theorem k1mw (o:k8w):OblH TB k7n 28 0 kfi (k13l o) (retTQ TB k7n k5h kpq o):=
 OblH.ofC (X:=((∀i,(kes o) i=kzy o i)/\True)) (by kernel_rfl) ⟨fun _=>propext ⟨fun h=>h.1,fun h=>⟨h⟩⟩,trivial⟩
theorem k1l3 {x:k18k} {o:k8w} (h:km8 x o):k5h.Snd Tryz.prog x o:=
 Con.soundH (c:=k5h) (C:=k7n) TBok ⟨inf_ok,all_nil,(all_cons x37_ok all_nil)⟩ mix Tryz.func133 (by kernel_rfl) (by kernel_rfl) (by kernel_rfl) rfl h (k1mw o)
theorem k1qk {p0:wY} {p1 p2 r0:Int} (h:
((0<=p1/\0<=p2/\0<=(0:Int)/\(0:Int)<=1)/\let r1:Int:=(p1+p2+(0:Int))%18446744073709551616
 let r2:Int:=(p1+p2+(0:Int))/18446744073709551616
((r2 !=0)=true->
 kes (r0,()) (r1,true,p0.P,()))/\
((r2 !=0)=false->
 kes (r0,()) (r1,(decide (p0.P<=r1):Bool),p0.P,())))):km8 (p0.P,p1,p2,()) (r0,()):=WPh.of_eq (by kernel_rfl) h
theorem ktj {r0 s7:Int} {s22:Bool} {Aa:Int} (h:
((s22=true->
 IntKind.u64.wrap (s7-Aa)=r0)/\
(s22=false->
 s7=r0))):kes (r0,()) (s7,s22,Aa,()):=⟨mpr_of (by kernel_rfl) h⟩
theorem bd133:Callable Tryz.prog 133:=⟨by rw[Tryz.func133];kernel_rfl,by rw[Tryz.func133];show some _≠some _;decide⟩
theorem k1j8 (p0:wY) (p1 p2:Int) (h:p0.P=18446744069414584321/\(0<=p1/\p1<18446744069414584321)/\(0<=p2/\p2<18446744069414584321)):km8 (p0.P,p1,p2,()) ((((p1+p2)%18446744069414584321):Int),()):=by
 obtain⟨hP,h1,h2⟩:=h
 refine k1qk ⟨by omega,?_,?_⟩
 ·intro h
  refine ktj ⟨fun _=> ?_,fun h=>by simp at h⟩
  have h:(p1+p2+0)/18446744073709551616≠0:=by simpa using h
  rw[hP,u64w];omega
 ·intro h
  have h:(p1+p2+0)/18446744073709551616=0:=by simpa using h
  refine ktj ⟨fun g=> ?_,fun g=> ?_⟩
  ·have g:=of_decide_eq_true g
   rw[hP]at g ⊢
   rw[u64w];omega
  ·have g:=of_decide_eq_false g
   rw[hP]at g
   omega
noncomputable def k102:Con TB.den:=k5h.fnR (fun x=>(fun(p0:wY) (p1 p2:Int)=>p0.P=18446744069414584321/\(0<=p1/\p1<18446744069414584321)/\(0<=p2/\p2<18446744069414584321)) (wY.mk x.1) x.2.1 x.2.2.1) fun x=>(fun(p0:wY) (p1 p2:Int)=>((((p1+p2)%18446744069414584321):Int),())) (wY.mk x.1) x.2.1 x.2.2.1
theorem k1qx:k102.Ok Tryz.prog TB:=Con.ok_fn k5h bd133 fun x h=>k1l3 (k1j8 (wY.mk x.1) x.2.1 x.2.2.1 h)
def k3t:Con TB.den:=Con.mk0 134 [.agg [zqu],.one (zqu)] [] (.one (.one (zqu))) []
abbrev ktc:=CI k3t
abbrev kk4:=CO k3t
noncomputable def khr:Cx TB:=⟨inf,[],[],4,[]⟩
noncomputable def k14e:Code:=Tryz.f134.body.getD .skip
noncomputable def k19l:List ResultVar:=Tryz.f134.results.toList
noncomputable def k1as (o:kk4):An TB:= .no
def kf0 (x:ktc) (o:kk4):Prop:=WPh TB khr 14 0 k14e (k1as o) (k3t.st TB x) (retTQ TB khr k3t k19l o)
theorem k160 {x:ktc} {o:kk4} (h:kf0 x o):k3t.Snd Tryz.prog x o:=
 Con.soundH (c:=k3t) (C:=khr) TBok ⟨inf_ok,all_nil,all_nil⟩ mix Tryz.func134 (by kernel_rfl) (by kernel_rfl) (by kernel_rfl) rfl h (OblH.ofC (X:=True) (by kernel_rfl) trivial)
theorem k1b3 {p0:wY} {p1 r0:Int} (h:
((decide (p0.P<=p1)=true->
(p0.P≠0)/\Int.tmod p1 p0.P=r0)/\
(decide (p0.P<=p1)=false->
 p1=r0))):kf0 (p0.P,p1,()) (r0,()):=WPh.of_eq (by kernel_rfl) h
theorem bd134:Callable Tryz.prog 134:=⟨by rw[Tryz.func134];kernel_rfl,by rw[Tryz.func134];show some _≠some _;decide⟩
theorem k11u (p0:wY) (p1:Int) (h:0<p0.P/\0<=p1):kf0 (p0.P,p1,()) (((p1%p0.P):Int),()):=by
 refine k1b3 ⟨fun h1=>⟨by omega,tmod_nn _ _ h.2⟩,fun h1=> ?_⟩
 simp at h1
 rw[Int.emod_eq_of_lt (by omega) (by omega)]
noncomputable def k8i:Con TB.den:=k3t.fnR (fun x=>(fun(p0:wY) (p1:Int)=>0<p0.P/\0<=p1) (wY.mk x.1) x.2.1) fun x=>(fun(p0:wY) (p1:Int)=>(((p1%p0.P):Int),())) (wY.mk x.1) x.2.1
theorem kco:k8i.Ok Tryz.prog TB:=Con.ok_fn k3t bd134 fun x h=>k160 (k11u (wY.mk x.1) x.2.1 h)
def k7k:Con TB.den:=Con.mk0 127 [.agg [zqu],.one (zqu),.one (zqu)] [] (.one (.one (zqu))) []
abbrev k17a:=CI k7k
abbrev ku7:=CO k7k
noncomputable def kpi:Cx TB:=⟨inf,[k6e,k8i,k102],[],4,[]⟩
noncomputable def k1h9:Code:=Tryz.f127.body.getD .skip
noncomputable def k1sr:List ResultVar:=Tryz.f127.results.toList
noncomputable def k1qv (o:ku7):An TB:= .no
def klw (x:k17a) (o:ku7):Prop:=WPh TB kpi 18 0 k1h9 (k1qv o) (k7k.st TB x) (retTQ TB kpi k7k k1sr o)
theorem k1nn {x:k17a} {o:ku7} (h:klw x o):k7k.Snd Tryz.prog x o:=
 Con.soundH (c:=k7k) (C:=kpi) TBok ⟨inf_ok,(all_cons k94 (all_cons kco (all_cons k1qx all_nil))),all_nil⟩ mix Tryz.func127 (by kernel_rfl) (by kernel_rfl) (by kernel_rfl) rfl h (OblH.ofC (X:=True) (by kernel_rfl) trivial)
theorem k1q4 {p0:wY} {p1 p2 r0:Int} (h:
((p0.P=18446744069414584321)/\((!true)=true->
 0=r0)/\
((!true)=false->
(0<p0.P/\0<=p1)/\(0<p0.P/\0<=p2)/\(p0.P=18446744069414584321/\(0<=(p1%p0.P)/\(p1%p0.P)<18446744069414584321)/\(0<=(p2%p0.P)/\(p2%p0.P)<18446744069414584321))/\let r1:Int:=(((p1%p0.P)+(p2%p0.P))%18446744069414584321)
 r1=r0))):klw (p0.P,p1,p2,()) (r0,()):=WPh.of_eq (by kernel_rfl) h
theorem bd127:Callable Tryz.prog 127:=⟨by rw[Tryz.func127];kernel_rfl,by rw[Tryz.func127];show some _≠some _;decide⟩
theorem k1jr (p0:wY) (p1 p2:Int) (h:p0.P=18446744069414584321/\U64 p1/\U64 p2):klw (p0.P,p1,p2,()) ((((p1+p2)%18446744069414584321):Int),()):=by
 obtain⟨hP,h1,h2⟩:=h
 refine k1q4 ⟨hP,?_⟩
 simp only[hP]
 refine⟨fun h=>by simp at h,fun _=>⟨by omega,by omega,⟨by trivial,by omega,by omega⟩,?_⟩⟩
 omega
noncomputable def khk:Con TB.den:=k7k.fnR (fun x=>(fun(p0:wY) (p1 p2:Int)=>p0.P=18446744069414584321/\U64 p1/\U64 p2) (wY.mk x.1) x.2.1 x.2.2.1) fun x=>(fun(p0:wY) (p1 p2:Int)=>((((p1+p2)%18446744069414584321):Int),())) (wY.mk x.1) x.2.1 x.2.2.1
theorem kqp:khk.Ok Tryz.prog TB:=Con.ok_fn k7k bd127 fun x h=>k1nn (k1jr (wY.mk x.1) x.2.1 x.2.2.1 h)
def k2k:Con TB.den:=Con.mk0 118 [.one (zqu)] [] (.one (.one (zqi))) []
abbrev k14n:=CI k2k
abbrev k34:=CO k2k
noncomputable def k3b:Cx TB:=⟨inf,[],[],4,[]⟩
noncomputable def kar:Code:=Tryz.f118.body.getD .skip
noncomputable def kd4:List ResultVar:=Tryz.f118.results.toList
def kc5:Tm:=⟨[],[],[0,2],[.one (zqu),.one (zqi)],0⟩
def kwo (o:k34) (i:HL TB.den kc5.hs):Prop:=ghs TB [] (kc5.fill TB i) fun s=>WP TB k3b 25 0 (cB (cB (cB (cB kar)))) .no s (retTQ TB k3b k2k kd4 o)
structure k8c (o:k34) (i:HL TB.den kc5.hs):Prop where
 h:kwo o i
def kfq:Tm:=⟨[],[],[0,2],[.one (zqu),.one (zqi)],0⟩
def kwm (o:k34) (i:HL TB.den kfq.hs):Prop:=ghs TB [] (kfq.fill TB i) fun s=>WP TB k3b 25 0 (cB (cB (cB kar))) (.jn kc5 (k8c o) [] .no [] .no) s (retTQ TB k3b k2k kd4 o)
structure ka0 (o:k34) (i:HL TB.den kfq.hs):Prop where
 h:kwm o i
noncomputable def kyu (o:k34):An TB:= .jn kfq (ka0 o) [] .no [] (.jn kc5 (k8c o) [] .no [] .no)
def kft:Tm:=⟨[],[],[0,2],[.one (zqu),.one (zqi)],0⟩
def kw0 (o:k34) (i:HL TB.den kft.hs):Prop:=ghs TB [] (kft.fill TB i) fun s=>WP TB k3b 25 0 (cB (cB kar)) (kyu o) s (retTQ TB k3b k2k kd4 o)
structure ka3 (o:k34) (i:HL TB.den kft.hs):Prop where
 h:kw0 o i
noncomputable def k1md (o:k34):An TB:= .jn kft (ka3 o) [] .no [] (kyu o)
noncomputable def kyv (o:k34):An TB:= .nd [] .no [] (k1md o)
def kjw (x:k14n) (o:k34):Prop:=WPh TB k3b 25 0 kar (kyv o) (k2k.st TB x) (retTQ TB k3b k2k kd4 o)
theorem k1iw (o:k34):OblH TB k3b 25 0 kar (kyv o) (retTQ TB k3b k2k kd4 o):=
 OblH.ofC (X:=((∀i,(ka3 o) i=kw0 o i)/\(∀i,(ka0 o) i=kwm o i)/\(∀i,(k8c o) i=kwo o i)/\True)) (by kernel_rfl) ⟨fun _=>propext ⟨fun h=>h.1,fun h=>⟨h⟩⟩,fun _=>propext ⟨fun h=>h.1,fun h=>⟨h⟩⟩,fun _=>propext ⟨fun h=>h.1,fun h=>⟨h⟩⟩,trivial⟩
theorem k1i9 {x:k14n} {o:k34} (h:kjw x o):k2k.Snd Tryz.prog x o:=
 Con.soundH (c:=k2k) (C:=k3b) TBok ⟨inf_ok,all_nil,all_nil⟩ mix Tryz.func118 (by kernel_rfl) (by kernel_rfl) (by kernel_rfl) rfl h (k1iw o)
theorem k1nk {p0 r0:Int} (h:
((decide (4294967296<=p0)=true->
 ka3 (r0,()) ((ishr .u64 p0 32:Int),(32:Int),()))/\
(decide (4294967296<=p0)=false->
 ka3 (r0,()) (p0,(0:Int),())))):kjw (p0,()) (r0,()):=WPh.of_eq (by kernel_rfl) h
theorem k1ah {r0 s0 s2:Int} (h:
((decide (65536<=s0)=true->
 ka0 (r0,()) ((ishr .u64 s0 16:Int),(IntKind.i64.wrap (s2+16):Int),()))/\
(decide (65536<=s0)=false->
 ka0 (r0,()) (s0,s2,())))):ka3 (r0,()) (s0,s2,()):=⟨mpr_of (by kernel_rfl) h⟩
theorem k19y {r0 s0 s2:Int} (h:
((decide (256<=s0)=true->
 k8c (r0,()) ((ishr .u64 s0 8:Int),(IntKind.i64.wrap (s2+8):Int),()))/\
(decide (256<=s0)=false->
 k8c (r0,()) (s0,s2,())))):ka0 (r0,()) (s0,s2,()):=⟨mpr_of (by kernel_rfl) h⟩
theorem k1ab {r0 s0 s2:Int} (h:
((0<=IntKind.u8.wrap s0/\IntKind.u8.wrap s0<((⟨#[0,1,2,2,3,3,3,3,4,4,4,4,4,4,4,4,5,5,5,5,5,5,5,5,5,5,5,5,5,5,5,5,6,6,6,6,6,6,6,6,6,6,6,6,6,6,6,6,6,6,6,6,6,6,6,6,6,6,6,6,6,6,6,6,7,7,7,7,7,7,7,7,7,7,7,7,7,7,7,7,7,7,7,7,7,7,7,7,7,7,7,7,7,7,7,7,7,7,7,7,7,7,7,7,7,7,7,7,7,7,7,7,7,7,7,7,7,7,7,7,7,7,7,7,7,7,7,7,8,8,8,8,8,8,8,8,8,8,8,8,8,8,8,8,8,8,8,8,8,8,8,8,8,8,8,8,8,8,8,8,8,8,8,8,8,8,8,8,8,8,8,8,8,8,8,8,8,8,8,8,8,8,8,8,8,8,8,8,8,8,8,8,8,8,8,8,8,8,8,8,8,8,8,8,8,8,8,8,8,8,8,8,8,8,8,8,8,8,8,8,8,8,8,8,8,8,8,8,8,8,8,8,8,8,8,8,8,8,8,8,8,8,8,8,8,8,8,8,8,8,8,8,8,8,8,8]⟩:ByteArray).size:Int))/\let v1:Int:=byteAt (⟨#[0,1,2,2,3,3,3,3,4,4,4,4,4,4,4,4,5,5,5,5,5,5,5,5,5,5,5,5,5,5,5,5,6,6,6,6,6,6,6,6,6,6,6,6,6,6,6,6,6,6,6,6,6,6,6,6,6,6,6,6,6,6,6,6,7,7,7,7,7,7,7,7,7,7,7,7,7,7,7,7,7,7,7,7,7,7,7,7,7,7,7,7,7,7,7,7,7,7,7,7,7,7,7,7,7,7,7,7,7,7,7,7,7,7,7,7,7,7,7,7,7,7,7,7,7,7,7,7,8,8,8,8,8,8,8,8,8,8,8,8,8,8,8,8,8,8,8,8,8,8,8,8,8,8,8,8,8,8,8,8,8,8,8,8,8,8,8,8,8,8,8,8,8,8,8,8,8,8,8,8,8,8,8,8,8,8,8,8,8,8,8,8,8,8,8,8,8,8,8,8,8,8,8,8,8,8,8,8,8,8,8,8,8,8,8,8,8,8,8,8,8,8,8,8,8,8,8,8,8,8,8,8,8,8,8,8,8,8,8,8,8,8,8,8,8,8,8,8,8,8,8,8,8,8,8,8]⟩:ByteArray) (IntKind.u8.wrap s0)
 let v2:Int:=IntKind.i64.wrap (s2+(IntKind.i64.wrap v1))
 v2=r0)):k8c (r0,()) (s0,s2,()):=⟨mpr_of (by kernel_rfl) h⟩
theorem bd118:Callable Tryz.prog 118:=⟨by rw[Tryz.func118];kernel_rfl,by rw[Tryz.func118];show some _≠some _;decide⟩
theorem k1fy (p0:Int) (h:U64 p0):kjw (p0,()) (((len64 p0):Int),()):=by
 have j3:∀s0 s2:Int,0<=s0->s0<256->0<=s2->s2<=56->k8c (s2+len64 s0,()) (s0,s2,()):=fun s0 s2 h0 h1 h2 h3=>by
  refine k1ab ?_
  have e:IntKind.u8.wrap s0=s0:=by rw[u8w];omega
  have l:=k1uh s0 ⟨h0,h1⟩
  show(0<=IntKind.u8.wrap s0/\IntKind.u8.wrap s0<(tab8.size:Int))/\IntKind.i64.wrap (s2+IntKind.i64.wrap (byteAt tab8 (IntKind.u8.wrap s0)))=_
  rw[e,k1x0,k1sp s0 ⟨h0,h1⟩,wi (len64 s0) (by omega) (by omega),wi (s2+len64 s0) (by omega) (by omega)]
  exact⟨⟨h0,h1⟩,rfl⟩
 have j2:∀s0 s2:Int,0<=s0->s0<65536->0<=s2->s2<=48->ka0 (s2+len64 s0,()) (s0,s2,()):=fun s0 s2 h0 h1 h2 h3=>by
  refine k19y ⟨fun h=> ?_,fun h=>j3 s0 s2 h0 (by simpa using h) h2 (by omega)⟩
  have h:=of_decide_eq_true h
  rw[ishr8,wi _ (by omega) (by omega),<-kuq s0 8 (by simpa using h),<-Int.add_assoc,Int.add_right_comm]
  exact j3 _ _ (by omega) (by omega) (by omega) (by omega)
 have j1:∀s0 s2:Int,0<=s0->s0<4294967296->0<=s2->s2<=32->ka3 (s2+len64 s0,()) (s0,s2,()):=fun s0 s2 h0 h1 h2 h3=>by
  refine k1ah ⟨fun h=> ?_,fun h=>j2 s0 s2 h0 (by simpa using h) h2 (by omega)⟩
  have h:=of_decide_eq_true h
  rw[ishr16,wi _ (by omega) (by omega),<-kuq s0 16 (by simpa using h),<-Int.add_assoc,Int.add_right_comm]
  exact j2 _ _ (by omega) (by omega) (by omega) (by omega)
 refine k1nk ⟨fun h1=> ?_,fun h1=> ?_⟩
 ·have h1:=of_decide_eq_true h1
  rw[ishr32,<-kuq p0 32 (by simpa using h1),Int.add_comm]
  exact j1 _ _ (by omega) (by omega) (by omega) (by omega)
 ·have:=j1 p0 0 h.1 (by simpa using h1) (by omega) (by omega)
  rwa [Int.zero_add]at this
noncomputable def kw5:Con TB.den:=k2k.fnR (fun x=>(fun(p0:Int)=>U64 p0) x.1) fun x=>(fun(p0:Int)=>(((len64 p0):Int),())) x.1
theorem k1mn:kw5.Ok Tryz.prog TB:=Con.ok_fn k2k bd118 fun x h=>k1i9 (k1fy x.1 h)
def k1s:Con TB.den:=Con.mk0 153 [.one (zqu)] [] (.one (.one (zqi))) []
abbrev kiu:=CI k1s
abbrev kc6:=CO k1s
noncomputable def kb2:Cx TB:=⟨inf,[kw5],[],4,[]⟩
noncomputable def kq7:Code:=Tryz.f153.body.getD .skip
noncomputable def kua:List ResultVar:=Tryz.f153.results.toList
noncomputable def ku5 (o:kc6):An TB:= .no
def k9i (x:kiu) (o:kc6):Prop:=WPh TB kb2 6 0 kq7 (ku5 o) (k1s.st TB x) (retTQ TB kb2 k1s kua o)
theorem ksj {x:kiu} {o:kc6} (h:k9i x o):k1s.Snd Tryz.prog x o:=
 Con.soundH (c:=k1s) (C:=kb2) TBok ⟨inf_ok,(all_cons k1mn all_nil),all_nil⟩ mix Tryz.func153 (by kernel_rfl) (by kernel_rfl) (by kernel_rfl) rfl h (OblH.ofC (X:=True) (by kernel_rfl) trivial)
theorem kuo {p0 r0:Int} (h:
((U64 p0)/\IntKind.i64.wrap (64-(len64 p0))=r0)):k9i (p0,()) (r0,()):=WPh.of_eq (by kernel_rfl) h
theorem bd153:Callable Tryz.prog 153:=⟨by rw[Tryz.func153];kernel_rfl,by rw[Tryz.func153];show some _≠some _;decide⟩
theorem kpg (p0:Int) (h:0<p0/\p0<18446744073709551616):k9i (p0,()) (((64-len64 p0):Int),()):=by
 obtain⟨s,e,h1,_⟩:=k1fh p0 h
 refine kuo ⟨⟨by omega,h.2⟩,?_⟩
 exact wi _ (by omega) (by omega)
noncomputable def kg6:Con TB.den:=k1s.fnR (fun x=>(fun(p0:Int)=>0<p0/\p0<18446744073709551616) x.1) fun x=>(fun(p0:Int)=>(((64-len64 p0):Int),())) x.1
theorem ktx:kg6.Ok Tryz.prog TB:=Con.ok_fn k1s bd153 fun x h=>ksj (kpg x.1 h)
def k1z:Con TB.den:=Con.mk0 145 [.one (zqu),.one (zqu),.one (zqu)] [] (.tup [.one (zqu),.one (zqu)]) []
abbrev k12u:=CI k1z
abbrev kg:=CO k1z
noncomputable def k1m:Cx TB:=⟨inf,[kg6],[],4,[]⟩
noncomputable def k50:Code:=Tryz.f145.body.getD .skip
noncomputable def k9w:List ResultVar:=Tryz.f145.results.toList
def kbw:Tm:=⟨[],[],[2,8,14,15,17,18],[.one (zqu),.one (zqu),.one (zqu),.one (zqu),.one (zqu),.one (zqu)],0⟩
def kvt (o:kg) (i:HL TB.den kbw.hs):Prop:=ghs TB [] (kbw.fill TB i) fun s=>WP TB k1m 135 0 (cB (cB (cB (cB (cB (cB (cB (cB (cB (cB (cB (cB (cB (cB (cB (cB (cB (cB (cB k50))))))))))))))))))) .no s (retTQ TB k1m k1z k9w o)
structure k84 (o:kg) (i:HL TB.den kbw.hs):Prop where
 h:kvt o i
def kyl (o:kg):=qM TB 0 kbw (k84 o) (retTQ TB k1m k1z k9w o)
def k33:Tm:=⟨[],[],[2,8,9,10,14,15,16,17,18],[.one (zqu),.one (zqu),.one (zqu),.one (zqu),.one (zqu),.one (zqu),.one (zqu),.one (zqu),.one (zqu)],0⟩
def kce:Tm:=⟨[],[],[2,8,9,10,14,15,16,17,18],[.one (zqu),.one (zqu),.one (zqu),.one (zqu),.one (zqu),.one (zqu),.one (zqu),.one (zqu),.one (zqu)],0⟩
def kvv (o:kg) (nx2:NX TB k33) (i:HL TB.den kce.hs):Prop:=ghs TB [] (kce.fill TB i) fun s=>WP TB k1m 135 0 (cB (cA (cA (cA (cB (cB (cB (cB (cB (cB (cB (cB (cB (cB (cB (cB (cB (cB (cB (cB (cB (cB k50)))))))))))))))))))))) .no s (qM TB 0 k33 nx2 (blockT TB 2 (kyl o)))
structure k8e (o:kg) (nx2:NX TB k33) (i:HL TB.den kce.hs):Prop where
 h:kvv o nx2 i
def kd5 (o:kg) (nx2:NX TB k33) (i:HL TB.den k33.hs):Prop:=WP TB k1m 135 0 (cA (cA (cA (cB (cB (cB (cB (cB (cB (cB (cB (cB (cB (cB (cB (cB (cB (cB (cB (cB (cB k50))))))))))))))))))))) (.jn kce (k8e o nx2) [] .no [] .no) (k33.fill TB i) (qM TB 0 k33 nx2 (blockT TB 2 (kyl o)))
noncomputable def k1m0 (o:kg):An TB:= .lp [] k33 (kd5 o) fun nx2=>(.jn kce (k8e o nx2) [] .no [] .no)
noncomputable def k1m4 (o:kg):An TB:= .jn kbw (k84 o) [] (k1m0 o) [] .no
noncomputable def k10d (o:kg):An TB:= .nd [] .no [] (.nd [] .no [] (.nd [] .no [] (k1m4 o)))
def kc8:Tm:=⟨[],[],[2,8,9,10,11,13,14,15],[.one (zqu),.one (zqu),.one (zqu),.one (zqu),.one (zqu),.one (zqu),.one (zqu),.one (zqu)],0⟩
def kvd (o:kg) (i:HL TB.den kc8.hs):Prop:=ghs TB [] (kc8.fill TB i) fun s=>WP TB k1m 135 0 (cB (cB (cB (cB (cB (cB (cB (cB (cB (cB (cB (cB (cB (cB (cB k50))))))))))))))) (k10d o) s (retTQ TB k1m k1z k9w o)
structure k89 (o:kg) (i:HL TB.den kc8.hs):Prop where
 h:kvd o i
def kyj (o:kg):=qM TB 0 kc8 (k89 o) (retTQ TB k1m k1z k9w o)
def k35:Tm:=⟨[],[],[2,8,9,10,11,13,14,15,16],[.one (zqu),.one (zqu),.one (zqu),.one (zqu),.one (zqu),.one (zqu),.one (zqu),.one (zqu),.one (zqu)],0⟩
def kc1:Tm:=⟨[],[],[2,8,9,10,11,13,14,15,16],[.one (zqu),.one (zqu),.one (zqu),.one (zqu),.one (zqu),.one (zqu),.one (zqu),.one (zqu),.one (zqu)],0⟩
def kvz (o:kg) (nx1:NX TB k35) (i:HL TB.den kc1.hs):Prop:=ghs TB [] (kc1.fill TB i) fun s=>WP TB k1m 135 0 (cB (cA (cA (cA (cB (cB (cB (cB (cB (cB (cB (cB (cB (cB (cB (cB (cB (cB k50)))))))))))))))))) .no s (qM TB 0 k35 nx1 (blockT TB 0 (kyj o)))
structure k83 (o:kg) (nx1:NX TB k35) (i:HL TB.den kc1.hs):Prop where
 h:kvz o nx1 i
def kd6 (o:kg) (nx1:NX TB k35) (i:HL TB.den k35.hs):Prop:=WP TB k1m 135 0 (cA (cA (cA (cB (cB (cB (cB (cB (cB (cB (cB (cB (cB (cB (cB (cB (cB k50))))))))))))))))) (.jn kc1 (k83 o nx1) [] .no [] .no) (k35.fill TB i) (qM TB 0 k35 nx1 (blockT TB 0 (kyj o)))
noncomputable def k1jl (o:kg):An TB:= .lp [] k35 (kd6 o) fun nx1=>(.jn kc1 (k83 o nx1) [] .no [] .no)
noncomputable def k1gy (o:kg):An TB:= .jn kc8 (k89 o) [] (k1jl o) [] (k10d o)
noncomputable def k1j3 (o:kg):An TB:= .nd [] .no [] (.nd [] .no [] (.nd [] .no [] (k1gy o)))
noncomputable def k1ir (o:kg):An TB:= .nd [] .no [] (.nd [] .no [] (.nd [] .no [] (k1j3 o)))
noncomputable def k1ji (o:kg):An TB:= .nd [] .no [] (.nd [] .no [] (.nd [] .no [] (k1ir o)))
noncomputable def k1hy (o:kg):An TB:= .nd [] .no [] (.nd [] .no [] (.nd [] .no [] (k1ji o)))
noncomputable def kz2 (o:kg):An TB:= .nd [] .no [] (.nd [] .no [] (k1hy o))
def kk1 (x:k12u) (o:kg):Prop:=WPh TB k1m 135 0 k50 (kz2 o) (k1z.st TB x) (retTQ TB k1m k1z k9w o)
theorem k1i8 (o:kg):OblH TB k1m 135 0 k50 (kz2 o) (retTQ TB k1m k1z k9w o):=
 OblH.ofC (X:=((∀nx i,(kd6 o) nx i=(kd6 o) nx i)/\(∀nx1:NX TB k35,((∀i,(k83 o nx1) i=kvz o nx1 i)/\True))/\(∀i,(k89 o) i=kvd o i)/\(∀nx i,(kd5 o) nx i=(kd5 o) nx i)/\(∀nx2:NX TB k33,((∀i,(k8e o nx2) i=kvv o nx2 i)/\True))/\(∀i,(k84 o) i=kvt o i)/\True)) (by kernel_rfl) ⟨fun _ _=>rfl,fun _=>⟨fun _=>propext ⟨fun h=>h.1,fun h=>⟨h⟩⟩,trivial⟩,fun _=>propext ⟨fun h=>h.1,fun h=>⟨h⟩⟩,fun _ _=>rfl,fun _=>⟨fun _=>propext ⟨fun h=>h.1,fun h=>⟨h⟩⟩,trivial⟩,fun _=>propext ⟨fun h=>h.1,fun h=>⟨h⟩⟩,trivial⟩
theorem k1ik {x:k12u} {o:kg} (h:kk1 x o):k1z.Snd Tryz.prog x o:=
 Con.soundH (c:=k1z) (C:=k1m) TBok ⟨inf_ok,(all_cons ktx all_nil),all_nil⟩ mix Tryz.func145 (by kernel_rfl) (by kernel_rfl) (by kernel_rfl) rfl h (k1i8 o)
theorem k1nb {p0 p1 p2 r0 r1:Int} (h:
(((p2==0)=true->
 False)/\
((p2==0)=false->
(decide (p2<=p0)=true->
 False)/\
(decide (p2<=p0)=false->
((p0==0)=true->
(p2≠0)/\(p2≠0)/\IntKind.u64.wrap (Int.tdiv p1 p2)=r0/\Int.tmod p1 p2=r1)/\
((p0==0)=false->
(0<p2/\p2<18446744073709551616)/\(0<=IntKind.u64.wrap (64-len64 p2))/\let v2:Int:=ishl .u64 p2 (IntKind.u64.wrap (64-len64 p2))
(0<=IntKind.u64.wrap (64-len64 p2))/\let v3:Int:=ishl .u64 p0 (IntKind.u64.wrap (64-len64 p2))
 let v4:Int:=IntKind.u64.wrap (64-(IntKind.u64.wrap (64-len64 p2)))
(0<=v4)/\(0<=IntKind.u64.wrap (64-len64 p2))/\let v5:Int:=ishl .u64 p1 (IntKind.u64.wrap (64-len64 p2))
(ishr .u64 v2 32≠0)/\let v6:Int:=IntKind.u64.wrap (Int.tdiv (ior .u64 v3 (ishr .u64 p1 v4)) (ishr .u64 v2 32))
 let v7:Int:=IntKind.u64.wrap (v6*(ishr .u64 v2 32))
 let v8:Int:=IntKind.u64.wrap ((ior .u64 v3 (ishr .u64 p1 v4))-v7)
 Md.Loop (v2,(IntKind.u64.wrap (64-len64 p2):Int),(ishr .u64 v2 32:Int),(iand .u64 v2 4294967295:Int),(ior .u64 v3 (ishr .u64 p1 v4):Int),(ishr .u64 v5 32:Int),(iand .u64 v5 4294967295:Int),v6,v8,()) (kd6 (r0,r1,()))))))):kk1 (p0,p1,p2,()) (r0,r1,()):=WPh.of_eq (by kernel_rfl) h
theorem k191 {r0 r1:Int} {nx1:NX TB k35} {s2 s8 s9 s10 s11 s13 s14 s15 s16:Int} (h:
(let v11:Bool:=decide (4294967296<=(IntKind.u64.wrap (s16+s9)))
(v11=true->
 k89 (r0,r1,()) (s2,s8,s9,s10,s11,s13,s14,(IntKind.u64.wrap (s15-1):Int),()))/\
(v11=false->
 nx1 (s2,s8,s9,s10,s11,s13,s14,(IntKind.u64.wrap (s15-1):Int),(IntKind.u64.wrap (s16+s9):Int),())))):k83 (r0,r1,()) nx1 (s2,s8,s9,s10,s11,s13,s14,s15,s16,()):=⟨mpr_of (by kernel_rfl) h⟩
theorem k1b1 {r0 r1 s2 s8 s9 s10 s11 s13 s14 s15:Int} (h:
(let v12:Int:=IntKind.u64.wrap ((IntKind.u64.wrap (s11*4294967296))+s13)
 let v13:Int:=IntKind.u64.wrap (v12-(IntKind.u64.wrap (s15*s2)))
(s9≠0)/\let v14:Int:=IntKind.u64.wrap ((IntKind.u64.wrap (Int.tdiv v13 s9))*s9)
 Md.Loop (s2,s8,s9,s10,s14,s15,(IntKind.u64.wrap (v13-v14):Int),v13,(IntKind.u64.wrap (Int.tdiv v13 s9):Int),()) (kd5 (r0,r1,())))):k89 (r0,r1,()) (s2,s8,s9,s10,s11,s13,s14,s15,()):=⟨mpr_of (by kernel_rfl) h⟩
theorem k19a {r0 r1:Int} {nx2:NX TB k33} {s2 s8 s9 s10 s14 s15 s16 s17 s18:Int} (h:
(let v17:Bool:=decide (4294967296<=(IntKind.u64.wrap (s16+s9)))
(v17=true->
 k84 (r0,r1,()) (s2,s8,s14,s15,s17,(IntKind.u64.wrap (s18-1):Int),()))/\
(v17=false->
 nx2 (s2,s8,s9,s10,s14,s15,(IntKind.u64.wrap (s16+s9):Int),s17,(IntKind.u64.wrap (s18-1):Int),())))):k8e (r0,r1,()) nx2 (s2,s8,s9,s10,s14,s15,s16,s17,s18,()):=⟨mpr_of (by kernel_rfl) h⟩
theorem k199 {r0 r1 s2 s8 s14 s15 s17 s18:Int} (h:
(let v18:Int:=IntKind.u64.wrap ((IntKind.u64.wrap (s15*4294967296))+s18)
 let v19:Int:=IntKind.u64.wrap ((IntKind.u64.wrap (s17*4294967296))+s14)
 let v20:Int:=IntKind.u64.wrap (v19-(IntKind.u64.wrap (s18*s2)))
(0<=s8)/\v18=r0/\ishr .u64 v20 s8=r1)):k84 (r0,r1,()) (s2,s8,s14,s15,s17,s18,()):=⟨mpr_of (by kernel_rfl) h⟩
def kza (r0 r1:Int) (nx1:NX TB k35) (k1:Int->Int->Prop) (s2 s8 s9 s10 s11 s13 s14 s15 s16:Int):Prop:=
(decide (4294967296<=s15)=true->
 k83 (r0,r1,()) nx1 (s2,s8,s9,s10,s11,s13,s14,s15,s16,()))/\
(decide (4294967296<=s15)=false->
 let v9:Int:=IntKind.u64.wrap ((IntKind.u64.wrap (4294967296*s16))+s13)
 let v10:Bool:=decide (v9<(IntKind.u64.wrap (s15*s10)))
(v10=true->
 k83 (r0,r1,()) nx1 (s2,s8,s9,s10,s11,s13,s14,s15,s16,()))/\
(v10=false->
 k89 (r0,r1,()) (s2,s8,s9,s10,s11,s13,s14,s15,())))
theorem k1hq {r0 r1 s2 s8 s9 s10 s11 s13 s14 s15 s16:Int} (inv:Int->Int->Prop) (μ:Int->Int->Nat) (h0:inv s15 s16) (hs:∀(s15 s16:Int),inv s15 s16->kza r0 r1 (fun((s2q,s8q,s9q,s10q,s11q,s13q,s14q,s15q,s16q,()):Int×Int×Int×Int×Int×Int×Int×Int×Int×Unit)=>((s2=s2q/\s8=s8q/\s9=s9q/\s10=s10q/\s11=s11q/\s13=s13q/\s14=s14q)/\inv s15q s16q)/\μ s15q s16q<μ s15 s16) (fun s15q s16q=>inv s15q s16q/\μ s15q s16q<μ s15 s16) s2 s8 s9 s10 s11 s13 s14 s15 s16):Md.Loop (s2,s8,s9,s10,s11,s13,s14,s15,s16,()) (kd6 (r0,r1,())):=
 ⟨⟨fun((s2q,s8q,s9q,s10q,s11q,s13q,s14q,s15q,s16q,()):Int×Int×Int×Int×Int×Int×Int×Int×Int×Unit)=>(s2=s2q/\s8=s8q/\s9=s9q/\s10=s10q/\s11=s11q/\s13=s13q/\s14=s14q)/\inv s15q s16q,fun((_,_,_,_,_,_,_,s15q,s16q,()):Int×Int×Int×Int×Int×Int×Int×Int×Int×Unit)=>μ s15q s16q,⟨⟨rfl,rfl,rfl,rfl,rfl,rfl,rfl⟩,h0⟩,fun(s2p,s8p,s9p,s10p,s11p,s13p,s14p,s15p,s16p,()) ⟨eq,hi⟩=>by
  obtain⟨rfl,rfl,rfl,rfl,rfl,rfl,rfl⟩:=eq;exact mpr_of (by kernel_rfl) ((congrArg (fun k=>kza r0 r1 (fun((s2q,s8q,s9q,s10q,s11q,s13q,s14q,s15q,s16q,()):Int×Int×Int×Int×Int×Int×Int×Int×Int×Unit)=>((s2=s2q/\s8=s8q/\s9=s9q/\s10=s10q/\s11=s11q/\s13=s13q/\s14=s14q)/\inv s15q s16q)/\μ s15q s16q<μ s15p s16p) k s2 s8 s9 s10 s11 s13 s14 s15p s16p) (lpk2 (⟨rfl,rfl,rfl,rfl,rfl,rfl,rfl⟩:s2=s2/\s8=s8/\s9=s9/\s10=s10/\s11=s11/\s13=s13/\s14=s14) inv (fun s15q s16q=>μ s15q s16q<μ s15p s16p))).mpr (hs s15p s16p hi))⟩⟩
def kyp (r0 r1:Int) (nx2:NX TB k33) (k2:Int->Int->Prop) (s2 s8 s9 s10 s14 s15 s17 s16 s18:Int):Prop:=
(decide (4294967296<=s18)=true->
 k8e (r0,r1,()) nx2 (s2,s8,s9,s10,s14,s15,s16,s17,s18,()))/\
(decide (4294967296<=s18)=false->
 let v15:Int:=IntKind.u64.wrap ((IntKind.u64.wrap (4294967296*s16))+s14)
 let v16:Bool:=decide (v15<(IntKind.u64.wrap (s18*s10)))
(v16=true->
 k8e (r0,r1,()) nx2 (s2,s8,s9,s10,s14,s15,s16,s17,s18,()))/\
(v16=false->
 k84 (r0,r1,()) (s2,s8,s14,s15,s17,s18,())))
theorem k1j1 {r0 r1 s2 s8 s9 s10 s14 s15 s17 s16 s18:Int} (inv:Int->Int->Prop) (μ:Int->Int->Nat) (h0:inv s16 s18) (hs:∀(s16 s18:Int),inv s16 s18->kyp r0 r1 (fun((s2q,s8q,s9q,s10q,s14q,s15q,s16q,s17q,s18q,()):Int×Int×Int×Int×Int×Int×Int×Int×Int×Unit)=>((s2=s2q/\s8=s8q/\s9=s9q/\s10=s10q/\s14=s14q/\s15=s15q/\s17=s17q)/\inv s16q s18q)/\μ s16q s18q<μ s16 s18) (fun s16q s18q=>inv s16q s18q/\μ s16q s18q<μ s16 s18) s2 s8 s9 s10 s14 s15 s17 s16 s18):Md.Loop (s2,s8,s9,s10,s14,s15,s16,s17,s18,()) (kd5 (r0,r1,())):=
 ⟨⟨fun((s2q,s8q,s9q,s10q,s14q,s15q,s16q,s17q,s18q,()):Int×Int×Int×Int×Int×Int×Int×Int×Int×Unit)=>(s2=s2q/\s8=s8q/\s9=s9q/\s10=s10q/\s14=s14q/\s15=s15q/\s17=s17q)/\inv s16q s18q,fun((_,_,_,_,_,_,s16q,_,s18q,()):Int×Int×Int×Int×Int×Int×Int×Int×Int×Unit)=>μ s16q s18q,⟨⟨rfl,rfl,rfl,rfl,rfl,rfl,rfl⟩,h0⟩,fun(s2p,s8p,s9p,s10p,s14p,s15p,s16p,s17p,s18p,()) ⟨eq,hi⟩=>by
  obtain⟨rfl,rfl,rfl,rfl,rfl,rfl,rfl⟩:=eq;exact mpr_of (by kernel_rfl) ((congrArg (fun k=>kyp r0 r1 (fun((s2q,s8q,s9q,s10q,s14q,s15q,s16q,s17q,s18q,()):Int×Int×Int×Int×Int×Int×Int×Int×Int×Unit)=>((s2=s2q/\s8=s8q/\s9=s9q/\s10=s10q/\s14=s14q/\s15=s15q/\s17=s17q)/\inv s16q s18q)/\μ s16q s18q<μ s16p s18p) k s2 s8 s9 s10 s14 s15 s17 s16p s18p) (lpk2 (⟨rfl,rfl,rfl,rfl,rfl,rfl,rfl⟩:s2=s2/\s8=s8/\s9=s9/\s10=s10/\s14=s14/\s15=s15/\s17=s17) inv (fun s16q s18q=>μ s16q s18q<μ s16p s18p))).mpr (hs s16p s18p hi))⟩⟩
theorem bd145:Callable Tryz.prog 145:=⟨by rw[Tryz.func145];kernel_rfl,by rw[Tryz.func145];show some _≠some _;decide⟩
theorem k1fu (p0 p1 p2:Int) (h:U64 p0/\U64 p1/\U64 p2/\p0<p2):kk1 (p0,p1,p2,()) ((((p0*18446744073709551616+p1)/p2):Int),(((p0*18446744073709551616+p1)%p2):Int),()):=by
 obtain⟨h0,h1,h2,hlt⟩:=h
 refine k1nb ⟨fun e=> ?_,fun _=>⟨fun e=> ?_,fun _=>⟨fun e=> ?_,fun _=> ?_⟩⟩⟩
 ·simp at e;omega
 ·simp at e;omega
 ·have e:p0=0:=by simpa using e
  subst e
  rw[tdiv_nn _ _ h1.1,tmod_nn _ _ h1.1,Int.zero_mul,Int.zero_add]
  have:=Int.ediv_le_self p2 h1.1
  have:=Int.ediv_nonneg h1.1 h2.1
  exact⟨by omega,by omega,wu _ (by omega) (by have:=Int.ediv_le_self p2 h1.1;omega),rfl⟩
 obtain⟨s,e,hs,n1,n2⟩:=k1fh p2 ⟨by omega,h2.2⟩
 have ew:IntKind.u64.wrap (64-len64 p2)=(s:Int):=by rw[e,wu _ (by omega) (by omega)]
 have ew3:IntKind.u64.wrap (64-(s:Int))=((64-s:Nat):Int):=by rw[wu _ (by omega) (by omega)];omega
 have hp:0<2^s:=Nat.two_pow_pos s
 have hp' :0<2^(64-s):=Nat.two_pow_pos _
 have hpp:2^s*2^(64-s)=18446744073709551616:=by rw[<-Nat.pow_add,show s+(64-s)=64 by omega]
 have hP:((2^s:Nat):Int)*((2^(64-s):Nat):Int)=18446744073709551616:=by rw[<-Int.natCast_mul,hpp];rfl
 have il:∀a:Int,ishl .u64 a (s:Int)=a*((2^s:Nat):Int)%18446744073709551616:=fun a=>by rw[k1yo,Int.toNat_natCast,Nat.min_eq_left (by omega)]
 have ir:∀a:Int,ishr .u64 a (s:Int)=a/((2^s:Nat):Int):=fun a=>by rw[kih,Int.toNat_natCast,show min s IntKind.u64.bits=s from Nat.min_eq_left (by show s<=64;omega)]
 have ir' :∀a:Int,ishr .u64 a ((64-s:Nat):Int)=a/((2^(64-s):Nat):Int):=fun a=>by rw[kih,Int.toNat_natCast,show min (64-s) IntKind.u64.bits=64-s from Nat.min_eq_left (by show 64-s<=64;omega)]
 have hor:∀c:Int,0<=c->c<((2^s:Nat):Int)->p0*((2^s:Nat):Int)+c<18446744073709551616->ior .u64 (p0*((2^s:Nat):Int)) c=p0*((2^s:Nat):Int)+c:=by
  intro c hc0 hc1 hc2
  obtain⟨a,rfl⟩:=Int.eq_ofNat_of_zero_le h0.1
  obtain⟨c,rfl⟩:=Int.eq_ofNat_of_zero_le hc0
  have key:=ior_add' c a s (by omega)
  rw[Int.mul_comm,<-Int.natCast_mul]at hc2 ⊢
  rw[key (by omega)]
  omega
 simp only[ew,ew3,il,ir',ishr32]
 have hP'0:(0:Int)<((2^(64-s):Nat):Int):=by omega
 generalize hPd:((2^s:Nat):Int)=P at *
 generalize hPd' :((2^(64-s):Nat):Int)=P' at *
 have hP0:0<P:=by omega
 have hlo:p1/P' <P:=Int.ediv_lt_of_lt_mul hP'0 (by omega)
 have hlo0:0<=p1/P' :=Int.ediv_nonneg h1.1 (by omega)
 have hUv:p0*P+P<=p2*P:=by
  have:(p0+1)*P<=p2*P:=Int.mul_le_mul_of_nonneg_right (by omega) (by omega)
  grind
 have hUp:0<=p0*P:=Int.mul_nonneg h0.1 (by omega)
 rw[Int.emod_eq_of_lt (a:=p2*P) (by omega) n2,Int.emod_eq_of_lt (a:=p0*P) hUp (by omega),hor _ hlo0 hlo (by omega)]
 have hN:(p0*18446744073709551616+p1)*P=(p0*P+p1/P')*18446744073709551616+(p1*P%18446744073709551616/4294967296)*4294967296+p1*P%18446744073709551616%4294967296:=by
  have h5:p1*P/18446744073709551616=p1/P' :=by
   rw[<-hP,Int.mul_comm p1 P,Int.mul_ediv_mul_of_pos _ _ hP0]
  have h6:=Int.emod_add_mul_ediv (p1*P) 18446744073709551616
  rw[h5]at h6
  have:(p0*18446744073709551616+p1)*P=p0*P*18446744073709551616+p1*P:=by grind
  rw[this]
  generalize p1*P=w at *
  generalize p0*P=w' at *
  omega
 have hlb:0<=p1*P%18446744073709551616/\p1*P%18446744073709551616<18446744073709551616:=⟨Int.emod_nonneg _ (by omega),Int.emod_lt_of_pos _ (by omega)⟩
 generalize hUd:p0*P+p1/P' =U at *
 generalize hLd:p1*P%18446744073709551616=L at *
 have hVd:p2*P/4294967296*4294967296+p2*P%4294967296=p2*P:=by omega
 have hw:∀{Q R V' :Int},R-Q=V'->0<=V'->V' <18446744073709551616->∀A,R=A*4294967296+(R-A*4294967296)->IntKind.u64.wrap (IntKind.u64.wrap (IntKind.u64.wrap (A*4294967296)+(R-A*4294967296))-IntKind.u64.wrap Q)=V' :=by
  intro Q R V' hv h0 h1 A hA
  simp only[u64w]
  omega
 rw[kh8 (p2*P) (by omega),kh8 L (by omega)]
 generalize ha:p2*P/4294967296=a at *
 generalize hb:p2*P%4294967296=b at *
 have hQ1:Half U (L/4294967296) a b ((U*4294967296+L/4294967296)/(a*4294967296+b)):=⟨by omega,by omega,by omega,by omega,by omega,rfl⟩
 have hr1:=hQ1.rest
 have hq1:=hQ1.q
 generalize (U*4294967296+L/4294967296)/(a*4294967296+b)=Q1 at *
 generalize (U*4294967296+L/4294967296)%(a*4294967296+b)=R1 at *
 have hQ0:Half R1 (L%4294967296) a b ((R1*4294967296+L%4294967296)/(a*4294967296+b)):=⟨by omega,by omega,by omega,by omega,by omega,rfl⟩
 have hr0:=hQ0.rest
 have hq0:=hQ0.q
 generalize (R1*4294967296+L%4294967296)/(a*4294967296+b)=Q0 at *
 generalize (R1*4294967296+L%4294967296)%(a*4294967296+b)=R0 at *
 rw[hVd]at hr1 hr0 hq1 hq0
 have fin:=k1v2 hP0 (by omega:0<p2) hN hr1.1 hr0.1 ⟨hr0.2.1,hr0.2.2⟩
 have j4:k84 (((p0*18446744073709551616+p1)/p2:Int),((p0*18446744073709551616+p1)%p2:Int),()) ((p2*P:Int),(s:Int),(L%4294967296:Int),Q1,R1,Q0,()):=by
  refine k199 ⟨by omega,?_,?_⟩
  ·rw[wu (Q1*4294967296) (by omega) (by omega),wu _ (by omega) (by omega)]
   exact fin.1
  ·have:=hw (Q:=Q0*(p2*P)) (R:=R1*4294967296+L%4294967296) hr0.1 hr0.2.1 (by omega) R1 (by omega)
   rw[show R1*4294967296+L%4294967296-R1*4294967296=L%4294967296 by omega]at this
   rw[this,ir]
   exact fin.2
 have aux:∀{U x Q q r:Int},Half U x a b Q->U<18446744073709551616->q*a+r=U->Q<=q->0<=r->q<=8589934592:=by
  intro U x Q q r hh hU e hQ hr
  have h1:=hh.ha
  refine Int.le_of_lt_add_one (Int.lt_of_mul_lt_mul_right (a:=a) ?_ (by omega))
  generalize q*a=w at *
  omega
 have init:∀{U x Q:Int},Half U x a b Q->Q<=U/a:=by
  intro U x Q hh
  have h1:=hh.ha
  have h2:=hh.q
  have h3:=hh.hb
  have h4:=hh.hx
  refine(Int.le_ediv_iff_mul_le (by omega)).2 ?_
  have h5:Q*(a*4294967296+b)=Q*a*4294967296+Q*b:=by grind
  have h6:0<=Q*b:=Int.mul_nonneg h2.1 h3.1
  generalize Q*a=w at *
  omega
 have j2:k89 (((p0*18446744073709551616+p1)/p2:Int),((p0*18446744073709551616+p1)%p2:Int),()) ((p2*P:Int),(s:Int),a,b,U,(L/4294967296:Int),(L%4294967296:Int),Q1,()):=by
  have e1:=hw (Q:=Q1*(p2*P)) (R:=U*4294967296+L/4294967296) hr1.1 hr1.2.1 (by omega) U (by omega)
  rw[show U*4294967296+L/4294967296-U*4294967296=L/4294967296 by omega]at e1
  refine k1b1 ?_
  simp only[e1]
  have hd:=Int.emod_add_mul_ediv R1 a
  have hd1:=Int.emod_nonneg R1 (by omega:a≠0)
  have hd2:=Int.emod_lt_of_pos R1 (by omega:0<a)
  have hd3:0<=R1/a:=Int.ediv_nonneg hr1.2.1 (by omega)
  rw[Int.mul_comm]at hd
  have hd5:0<=R1/a*a:=Int.mul_nonneg hd3 (by omega)
  have hd4:=aux hQ0 (by omega) (q:=R1/a) (r:=R1%a) (by omega) (init hQ0) hd1
  rw[tdiv_nn _ _ hr1.2.1,wu (R1/a) (by omega) (by omega),wu (R1/a*a) (by omega) (by omega),show R1-R1/a*a=R1%a by omega,wu (R1%a) (by omega) (by omega)]
  refine⟨by omega,?_⟩
  refine k1j1 (fun r q=>q*a+r=R1/\Q0<=q/\0<=r/\r<4294967296) (fun r q=>q.toNat) ⟨by omega,init hQ0,hd1,by omega⟩ ?_
  rintro r q ⟨g1,g2,g3,g4⟩
  have g5:=aux hQ0 (by omega) g1 g2 g3
  have j3:∀nx,(Q0<=q-1)->(r+a<4294967296->nx ((p2*P:Int),(s:Int),a,b,(L%4294967296:Int),Q1,(r+a:Int),R1,(q-1:Int),()))->k8e (((p0*18446744073709551616+p1)/p2:Int),((p0*18446744073709551616+p1)%p2:Int),()) nx ((p2*P:Int),(s:Int),a,b,(L%4294967296:Int),Q1,r,R1,q,()):=by
   intro nx hq hnx
   refine k19a ?_
   rw[wu (q-1) (by omega) (by omega),wu (r+a) (by omega) (by omega)]
   refine⟨fun hd=> ?_,fun hd=>hnx (by simpa using hd)⟩
   have hd:4294967296<=r+a:=of_decide_eq_true hd
   rw[hQ0.done (q:=q-1) (r:=r+a) (by grind) hq hd]
   exact j4
  have nxt:Q0<=q-1->r+a<4294967296->((q-1)*a+(r+a)=R1/\Q0<=q-1/\0<=r+a/\r+a<4294967296)/\(q-1).toNat<q.toNat:=fun h1 h2=>⟨⟨by grind,h1,by omega,h2⟩,by omega⟩
  refine⟨fun hd=>j3 _ (hQ0.down g1 (.inl (of_decide_eq_true hd))) fun h1=> ?_,fun hd=> ?_⟩
  ·obtain⟨n1,n2⟩:=nxt (hQ0.down g1 (.inl (of_decide_eq_true hd))) h1
   exact⟨⟨⟨rfl,rfl,rfl,rfl,rfl,rfl,rfl⟩,n1⟩,n2⟩
  ·have hd:q<4294967296:=by simpa using hd
   have hqb:0<=q*b/\q*b<18446744073709551616:=by
    have:=hQ0.hb
    have h1:q*b<=4294967295*4294967295:=Int.mul_le_mul (by omega) (by omega) (by omega) (by omega)
    exact⟨Int.mul_nonneg (by omega) (by omega),by omega⟩
   have:=hQ0.hx
   rw[wu (q*b) (by omega) (by omega),wu (4294967296*r) (by omega) (by omega),wu (4294967296*r+L%4294967296) (by omega) (by omega)]
   refine⟨fun ht=> ?_,fun ht=> ?_⟩
   ·have ht:4294967296*r+L%4294967296<q*b:=of_decide_eq_true ht
    have hdn:=hQ0.down g1 (.inr (by omega))
    refine j3 _ hdn fun h1=> ?_
    obtain⟨n1,n2⟩:=nxt hdn h1
    exact⟨⟨⟨rfl,rfl,rfl,rfl,rfl,rfl,rfl⟩,n1⟩,n2⟩
   ·have ht:¬(4294967296*r+L%4294967296<q*b):=of_decide_eq_false ht
    rw[hQ0.exit g1 g2 (by omega)]
    exact j4
 have hd:=Int.emod_add_mul_ediv U a
 have hd1:=Int.emod_nonneg U (by omega:a≠0)
 have hd2:=Int.emod_lt_of_pos U (by omega:0<a)
 have hd3:0<=U/a:=Int.ediv_nonneg (by omega) (by omega)
 rw[Int.mul_comm]at hd
 have hd5:0<=U/a*a:=Int.mul_nonneg hd3 (by omega)
 have hd4:=aux hQ1 (by omega) (q:=U/a) (r:=U%a) (by omega) (init hQ1) hd1
 rw[tdiv_nn _ _ (by omega),wu (U/a) (by omega) (by omega),wu (U/a*a) (by omega) (by omega),show U-U/a*a=U%a by omega,wu (U%a) (by omega) (by omega)]
 refine⟨⟨by omega,h2.2⟩,by omega,by omega,by omega,by omega,by omega,?_⟩
 refine k1hq (fun q r=>q*a+r=U/\Q1<=q/\0<=r/\r<4294967296) (fun q r=>q.toNat) ⟨by omega,init hQ1,hd1,by omega⟩ ?_
 rintro q r ⟨g1,g2,g3,g4⟩
 have g5:=aux hQ1 (by omega) g1 g2 g3
 have j1:∀nx,(Q1<=q-1)->(r+a<4294967296->nx ((p2*P:Int),(s:Int),a,b,U,(L/4294967296:Int),(L%4294967296:Int),(q-1:Int),(r+a:Int),()))->k83 (((p0*18446744073709551616+p1)/p2:Int),((p0*18446744073709551616+p1)%p2:Int),()) nx ((p2*P:Int),(s:Int),a,b,U,(L/4294967296:Int),(L%4294967296:Int),q,r,()):=by
  intro nx hq hnx
  refine k191 ?_
  rw[wu (q-1) (by omega) (by omega),wu (r+a) (by omega) (by omega)]
  refine⟨fun hd=> ?_,fun hd=>hnx (by simpa using hd)⟩
  have hd:4294967296<=r+a:=of_decide_eq_true hd
  rw[hQ1.done (q:=q-1) (r:=r+a) (by grind) hq hd]
  exact j2
 have nxt:Q1<=q-1->r+a<4294967296->((q-1)*a+(r+a)=U/\Q1<=q-1/\0<=r+a/\r+a<4294967296)/\(q-1).toNat<q.toNat:=fun h1 h2=>⟨⟨by grind,h1,by omega,h2⟩,by omega⟩
 refine⟨fun hd=>j1 _ (hQ1.down g1 (.inl (of_decide_eq_true hd))) fun h1=> ?_,fun hd=> ?_⟩
 ·obtain⟨n1,n2⟩:=nxt (hQ1.down g1 (.inl (of_decide_eq_true hd))) h1
  exact⟨⟨⟨rfl,rfl,rfl,rfl,rfl,rfl,rfl⟩,n1⟩,n2⟩
 ·have hd:q<4294967296:=by simpa using hd
  have hqb:0<=q*b/\q*b<18446744073709551616:=by
   have:=hQ1.hb
   have h1:q*b<=4294967295*4294967295:=Int.mul_le_mul (by omega) (by omega) (by omega) (by omega)
   exact⟨Int.mul_nonneg (by omega) (by omega),by omega⟩
  have:=hQ1.hx
  rw[wu (q*b) (by omega) (by omega),wu (4294967296*r) (by omega) (by omega),wu (4294967296*r+L/4294967296) (by omega) (by omega)]
  refine⟨fun ht=> ?_,fun ht=> ?_⟩
  ·have ht:4294967296*r+L/4294967296<q*b:=of_decide_eq_true ht
   have hdn:=hQ1.down g1 (.inr (by omega))
   refine j1 _ hdn fun h1=> ?_
   obtain⟨n1,n2⟩:=nxt hdn h1
   exact⟨⟨⟨rfl,rfl,rfl,rfl,rfl,rfl,rfl⟩,n1⟩,n2⟩
  ·have ht:¬(4294967296*r+L/4294967296<q*b):=of_decide_eq_false ht
   rw[hQ1.exit g1 g2 (by omega)]
   exact j2
noncomputable def klk:Con TB.den:=k1z.fnR (fun x=>(fun(p0 p1 p2:Int)=>U64 p0/\U64 p1/\U64 p2/\p0<p2) x.1 x.2.1 x.2.2.1) fun x=>(fun(p0 p1 p2:Int)=>((((p0*18446744073709551616+p1)/p2):Int),(((p0*18446744073709551616+p1)%p2):Int),())) x.1 x.2.1 x.2.2.1
theorem kz9:klk.Ok Tryz.prog TB:=Con.ok_fn k1z bd145 fun x h=>k1ik (k1fu x.1 x.2.1 x.2.2.1 h)
def k6i:Con TB.den:=Con.mk0 144 [.one (zqu),.one (zqu)] [] (.tup [.one (zqu),.one (zqu)]) []
abbrev k14f:=CI k6i
abbrev kr4:=CO k6i
noncomputable def ko2:Cx TB:=⟨inf,[],[],4,[]⟩
noncomputable def k1ef:Code:=Tryz.f144.body.getD .skip
noncomputable def k1mp:List ResultVar:=Tryz.f144.results.toList
noncomputable def k1ma (o:kr4):An TB:= .no
def kjb (x:k14f) (o:kr4):Prop:=WPh TB ko2 51 0 k1ef (k1ma o) (k6i.st TB x) (retTQ TB ko2 k6i k1mp o)
theorem k1i0 {x:k14f} {o:kr4} (h:kjb x o):k6i.Snd Tryz.prog x o:=
 Con.soundH (c:=k6i) (C:=ko2) TBok ⟨inf_ok,all_nil,all_nil⟩ mix Tryz.func144 (by kernel_rfl) (by kernel_rfl) (by kernel_rfl) rfl h (OblH.ofC (X:=True) (by kernel_rfl) trivial)
theorem k1mb {p0 p1 r0 r1:Int} (h:
(let v2:Int:=IntKind.u64.wrap ((iand .u64 p0 4294967295)*(iand .u64 p1 4294967295))
 let v3:Int:=IntKind.u64.wrap ((ishr .u64 p0 32)*(iand .u64 p1 4294967295))
 let v4:Int:=IntKind.u64.wrap (v3+(ishr .u64 v2 32))
 let v5:Int:=IntKind.u64.wrap ((iand .u64 p0 4294967295)*(ishr .u64 p1 32))
 let v6:Int:=IntKind.u64.wrap ((iand .u64 v4 4294967295)+v5)
 let v7:Int:=IntKind.u64.wrap ((ishr .u64 p0 32)*(ishr .u64 p1 32))
 let v8:Int:=IntKind.u64.wrap (v7+(ishr .u64 v4 32))
 let v9:Int:=IntKind.u64.wrap (v8+(ishr .u64 v6 32))
 v9=r0/\IntKind.u64.wrap (p0*p1)=r1)):kjb (p0,p1,()) (r0,r1,()):=WPh.of_eq (by kernel_rfl) h
theorem bd144:Callable Tryz.prog 144:=⟨by rw[Tryz.func144];kernel_rfl,by rw[Tryz.func144];show some _≠some _;decide⟩
theorem k1dm (p0 p1:Int) (h:U64 p0/\U64 p1):kjb (p0,p1,()) (((p0*p1/18446744073709551616):Int),((p0*p1%18446744073709551616):Int),()):=by
 obtain⟨h0,h1⟩:=h
 have k:=k1zb p0 p1 h0 h1
 refine k1mb ?_
 simp only[kh8 p0 h0,kh8 p1 h1,ishr32]
 obtain⟨e,k1,k2,k3,k4,k5,k6,k7,k8⟩:=k
 rw[<-e]
 rw[wu (p0%4294967296*(p1%4294967296)) (by omega) (by omega),wu (p0/4294967296*(p1%4294967296)) (by omega) (by omega),wu (p0%4294967296*(p1/4294967296)) (by omega) (by omega),wu (p0/4294967296*(p1/4294967296)) (by omega) (by omega)]
 generalize p0%4294967296*(p1%4294967296)=a at *
 generalize p0/4294967296*(p1%4294967296)=b at *
 generalize p0%4294967296*(p1/4294967296)=c at *
 generalize p0/4294967296*(p1/4294967296)=d at *
 rw[wu (b+a/4294967296) (by omega) (by omega),kh8 _ (by omega)]
 simp only[u64w]
 refine⟨?_,trivial⟩
 omega
noncomputable def kkw:Con TB.den:=k6i.fnR (fun x=>(fun(p0 p1:Int)=>U64 p0/\U64 p1) x.1 x.2.1) fun x=>(fun(p0 p1:Int)=>(((p0*p1/18446744073709551616):Int),((p0*p1%18446744073709551616):Int),())) x.1 x.2.1
theorem kz4:kkw.Ok Tryz.prog TB:=Con.ok_fn k6i bd144 fun x h=>k1i0 (k1dm x.1 x.2.1 h)
def k7o:Con TB.den:=Con.mk0 135 [.agg [zqu],.one (zqu),.one (zqu)] [] (.one (.one (zqu))) []
abbrev k18j:=CI k7o
abbrev ku9:=CO k7o
noncomputable def kpv:Cx TB:=⟨inf,[kkw,klk],[],4,[]⟩
noncomputable def k1i7:Code:=Tryz.f135.body.getD .skip
noncomputable def k1sw:List ResultVar:=Tryz.f135.results.toList
noncomputable def k1ok (o:ku9):An TB:= .no
def klm (x:k18j) (o:ku9):Prop:=WPh TB kpv 26 0 k1i7 (k1ok o) (k7o.st TB x) (retTQ TB kpv k7o k1sw o)
theorem k1mi {x:k18j} {o:ku9} (h:klm x o):k7o.Snd Tryz.prog x o:=
 Con.soundH (c:=k7o) (C:=kpv) TBok ⟨inf_ok,(all_cons kz4 (all_cons kz9 all_nil)),all_nil⟩ mix Tryz.func135 (by kernel_rfl) (by kernel_rfl) (by kernel_rfl) rfl h (OblH.ofC (X:=True) (by kernel_rfl) trivial)
theorem k1qm {p0:wY} {p1 p2 r0:Int} (h:
((U64 p1/\U64 p2)/\(U64 (p1*p2/18446744073709551616)/\U64 (p1*p2%18446744073709551616)/\U64 p0.P/\(p1*p2/18446744073709551616)<p0.P)/\let r1:Int:=(((p1*p2/18446744073709551616)*18446744073709551616+(p1*p2%18446744073709551616))/p0.P)
 let r2:Int:=(((p1*p2/18446744073709551616)*18446744073709551616+(p1*p2%18446744073709551616))%p0.P)
 r2=r0)):klm (p0.P,p1,p2,()) (r0,()):=WPh.of_eq (by kernel_rfl) h
theorem bd135:Callable Tryz.prog 135:=⟨by rw[Tryz.func135];kernel_rfl,by rw[Tryz.func135];show some _≠some _;decide⟩
theorem k1hd (p0:wY) (p1 p2:Int) (h:p0.P=18446744069414584321/\(0<=p1/\p1<18446744069414584321)/\(0<=p2/\p2<18446744069414584321)):klm (p0.P,p1,p2,()) (((p1*p2%18446744069414584321):Int),()):=by
 obtain⟨hP,h1,h2⟩:=h
 have h3:0<=p1*p2:=Int.mul_nonneg h1.1 h2.1
 have h4:p1*p2<=18446744069414584320*18446744069414584320:=Int.mul_le_mul (by omega) (by omega) h2.1 (by omega)
 refine k1qm ⟨⟨by omega,by omega⟩,?_⟩
 simp only[hP]
 generalize p1*p2=m at *
 refine⟨⟨⟨by omega,by omega⟩,⟨by omega,by omega⟩,by omega,by omega⟩,?_⟩
 rw[show m/18446744073709551616*18446744073709551616+m%18446744073709551616=m by omega]
noncomputable def kna:Con TB.den:=k7o.fnR (fun x=>(fun(p0:wY) (p1 p2:Int)=>p0.P=18446744069414584321/\(0<=p1/\p1<18446744069414584321)/\(0<=p2/\p2<18446744069414584321)) (wY.mk x.1) x.2.1 x.2.2.1) fun x=>(fun(p0:wY) (p1 p2:Int)=>(((p1*p2%18446744069414584321):Int),())) (wY.mk x.1) x.2.1 x.2.2.1
theorem k14l:kna.Ok Tryz.prog TB:=Con.ok_fn k7o bd135 fun x h=>k1mi (k1hd (wY.mk x.1) x.2.1 x.2.2.1 h)
def k79:Con TB.den:=Con.mk0 128 [.agg [zqu],.one (zqu),.one (zqu)] [] (.one (.one (zqu))) []
abbrev k188:=CI k79
abbrev kun:=CO k79
noncomputable def kq5:Cx TB:=⟨inf,[k6e,k8i,kna],[],4,[]⟩
noncomputable def k1he:Code:=Tryz.f128.body.getD .skip
noncomputable def k1qa:List ResultVar:=Tryz.f128.results.toList
noncomputable def k1qn (o:kun):An TB:= .no
def kla (x:k188) (o:kun):Prop:=WPh TB kq5 18 0 k1he (k1qn o) (k79.st TB x) (retTQ TB kq5 k79 k1qa o)
theorem k1m6 {x:k188} {o:kun} (h:kla x o):k79.Snd Tryz.prog x o:=
 Con.soundH (c:=k79) (C:=kq5) TBok ⟨inf_ok,(all_cons k94 (all_cons kco (all_cons k14l all_nil))),all_nil⟩ mix Tryz.func128 (by kernel_rfl) (by kernel_rfl) (by kernel_rfl) rfl h (OblH.ofC (X:=True) (by kernel_rfl) trivial)
theorem k1pi {p0:wY} {p1 p2 r0:Int} (h:
((p0.P=18446744069414584321)/\((!true)=true->
 0=r0)/\
((!true)=false->
(0<p0.P/\0<=p1)/\(0<p0.P/\0<=p2)/\(p0.P=18446744069414584321/\(0<=(p1%p0.P)/\(p1%p0.P)<18446744069414584321)/\(0<=(p2%p0.P)/\(p2%p0.P)<18446744069414584321))/\let r1:Int:=((p1%p0.P)*(p2%p0.P)%18446744069414584321)
 r1=r0))):kla (p0.P,p1,p2,()) (r0,()):=WPh.of_eq (by kernel_rfl) h
theorem bd128:Callable Tryz.prog 128:=⟨by rw[Tryz.func128];kernel_rfl,by rw[Tryz.func128];show some _≠some _;decide⟩
theorem k1j9 (p0:wY) (p1 p2:Int) (h:p0.P=18446744069414584321/\U64 p1/\U64 p2):kla (p0.P,p1,p2,()) (((p1*p2%18446744069414584321):Int),()):=by
 obtain⟨hP,h1,h2⟩:=h
 refine k1pi ⟨hP,?_⟩
 simp only[hP]
 refine⟨fun h=>by simp at h,fun _=>⟨by omega,by omega,⟨by trivial,by omega,by omega⟩,?_⟩⟩
 exact(Int.mul_emod _ _ _).symm
noncomputable def kz0:Con TB.den:=k79.fnR (fun x=>(fun(p0:wY) (p1 p2:Int)=>p0.P=18446744069414584321/\U64 p1/\U64 p2) (wY.mk x.1) x.2.1 x.2.2.1) fun x=>(fun(p0:wY) (p1 p2:Int)=>(((p1*p2%18446744069414584321):Int),())) (wY.mk x.1) x.2.1 x.2.2.1
theorem k1pd:kz0.Ok Tryz.prog TB:=Con.ok_fn k79 bd128 fun x h=>k1m6 (k1j9 (wY.mk x.1) x.2.1 x.2.2.1 h)
def k45:Con TB.den:=Con.mk0 146 [.agg [zqu]] [] (.tup [.one (zqu),.one (zqi),.one (zqu)]) []
abbrev kt5:=CI k45
abbrev kjv:=CO k45
noncomputable def ki0:Cx TB:=⟨inf,[],[],4,[]⟩
noncomputable def k13n:Code:=Tryz.f146.body.getD .skip
noncomputable def k1a8:List ResultVar:=Tryz.f146.results.toList
noncomputable def k19z (o:kjv):An TB:= .no
def kew (x:kt5) (o:kjv):Prop:=WPh TB ki0 21 0 k13n (k19z o) (k45.st TB x) (retTQ TB ki0 k45 k1a8 o)
theorem k15a {x:kt5} {o:kjv} (h:kew x o):k45.Snd Tryz.prog x o:=
 Con.soundH (c:=k45) (C:=ki0) TBok ⟨inf_ok,all_nil,all_nil⟩ mix Tryz.func146 (by kernel_rfl) (by kernel_rfl) (by kernel_rfl) rfl h (OblH.ofC (X:=True) (by kernel_rfl) trivial)
theorem k1bq {p0:wY} {r0 r1 r2:Int} (h:
(((p0.P==17)=true->
 3=r0/\4=r1/\3=r2)/\
((p0.P==17)=false->
((p0.P==97)=true->
 5=r0/\5=r1/\5=r2)/\
((p0.P==97)=false->
((p0.P==193)=true->
 5=r0/\6=r1/\5=r2)/\
((p0.P==193)=false->
((p0.P==257)=true->
 3=r0/\8=r1/\3=r2)/\
((p0.P==257)=false->
((p0.P==12289)=true->
 11=r0/\12=r1/\5=r2)/\
((p0.P==12289)=false->
((p0.P==65537)=true->
 3=r0/\16=r1/\3=r2)/\
((p0.P==65537)=false->
((p0.P==18446744069414584321)=true->
 7=r0/\32=r1/\7=r2)/\
((p0.P==18446744069414584321)=false->
 0=r0/\0=r1/\0=r2))))))))):kew (p0.P,()) (r0,r1,r2,()):=WPh.of_eq (by kernel_rfl) h
theorem bd146:Callable Tryz.prog 146:=⟨by rw[Tryz.func146];kernel_rfl,by rw[Tryz.func146];show some _≠some _;decide⟩
theorem k135 (p0:wY) (h:p0.P=18446744069414584321):kew (p0.P,()) ((7:Int),(32:Int),(7:Int),()):=by
 refine k1bq ?_
 simp[h]
noncomputable def kod:Con TB.den:=k45.fnR (fun x=>(fun(p0:wY)=>p0.P=18446744069414584321) (wY.mk x.1)) fun x=>(fun(p0:wY)=>((7:Int),(32:Int),(7:Int),())) (wY.mk x.1)
theorem k197:kod.Ok Tryz.prog TB:=Con.ok_fn k45 bd146 fun x h=>k15a (k135 (wY.mk x.1) h)
def k3i:Con TB.den:=Con.mk0 136 [.agg [zqu]] [] (.one (.one (zqu))) []
abbrev kqe:=CI k3i
abbrev kim:=CO k3i
noncomputable def kgi:Cx TB:=⟨inf,[kod],[],4,[]⟩
noncomputable def k10m:Code:=Tryz.f136.body.getD .skip
noncomputable def k16s:List ResultVar:=Tryz.f136.results.toList
noncomputable def k15j (o:kim):An TB:= .no
def kdp (x:kqe) (o:kim):Prop:=WPh TB kgi 13 0 k10m (k15j o) (k3i.st TB x) (retTQ TB kgi k3i k16s o)
theorem k14b {x:kqe} {o:kim} (h:kdp x o):k3i.Snd Tryz.prog x o:=
 Con.soundH (c:=k3i) (C:=kgi) TBok ⟨inf_ok,(all_cons k197 all_nil),all_nil⟩ mix Tryz.func136 (by kernel_rfl) (by kernel_rfl) (by kernel_rfl) rfl h (OblH.ofC (X:=True) (by kernel_rfl) trivial)
theorem k15h {p0:wY} {r0:Int} (h:
((p0.P=18446744069414584321)/\7=r0)):kdp (p0.P,()) (r0,()):=WPh.of_eq (by kernel_rfl) h
theorem bd136:Callable Tryz.prog 136:=⟨by rw[Tryz.func136];kernel_rfl,by rw[Tryz.func136];show some _≠some _;decide⟩
theorem k10r (p0:wY) (h:p0.P=18446744069414584321):kdp (p0.P,()) ((7:Int),()):=by
 exact k15h ⟨h,rfl⟩
noncomputable def kmx:Con TB.den:=k3i.fnR (fun x=>(fun(p0:wY)=>p0.P=18446744069414584321) (wY.mk x.1)) fun x=>(fun(p0:wY)=>((7:Int),())) (wY.mk x.1)
theorem k171:kmx.Ok Tryz.prog TB:=Con.ok_fn k3i bd136 fun x h=>k14b (k10r (wY.mk x.1) h)
def k57:Con TB.den:=Con.mk0 147 [.agg [zqu],.one (zqu),.one (zqu)] [] (.one (.one (zqu))) []
abbrev k17k:=CI k57
abbrev k5g:=CO k57
noncomputable def k6d:Cx TB:=⟨inf,[kna],[],4,[]⟩
noncomputable def kbl:Code:=Tryz.f147.body.getD .skip
noncomputable def kq9:List ResultVar:=Tryz.f147.results.toList
def k13d (o:k5g):=qS TB k6d 26 0 (cB (cB (cB kbl))) .no (retTQ TB k6d k57 kq9 o)
def k2o:Tm:=⟨[0],[.cells [zqu]],[1,2,3,7],[.one (zqu),.one (zqu),.one (.ptr 0 0),.one (zqu)],1⟩
def k1oz (o:k5g) (nx1:NX TB k2o):=blockT TB 1 (qM TB 0 k2o nx1 (blockT TB 0 (k13d o)))
def khp:Tm:=⟨[0],[.cells [zqu]],[1,2,3,7],[.one (zqu),.one (zqu),.one (.ptr 0 0),.one (zqu)],1⟩
def kzh (o:k5g) (nx1:NX TB k2o) (i:HL TB.den khp.hs):Prop:=ghs TB [] (khp.fill TB i) fun s=>WP TB k6d 26 0 (cB (cA (cB (cA (cA (cA (cB (cB kbl)))))))) .no s (k1oz o nx1)
structure kbi (o:k5g) (nx1:NX TB k2o) (i:HL TB.den khp.hs):Prop where
 h:kzh o nx1 i
noncomputable def k11k (o:k5g) (nx1:NX TB k2o):An TB:= .nd [] .no [] (.jn khp (kbi o nx1) [] .no [] .no)
def kef (o:k5g) (nx1:NX TB k2o) (i:HL TB.den k2o.hs):Prop:=WP TB k6d 26 0 (cA (cA (cA (cB (cB kbl))))) (k11k o nx1) (k2o.fill TB i) (qM TB 0 k2o nx1 (blockT TB 0 (k13d o)))
noncomputable def k1s8 (o:k5g):An TB:= .lp [] k2o (kef o) fun nx1=>(k11k o nx1)
noncomputable def k12o (o:k5g):An TB:= .nd [] .no [] (.nd [] .no [] (.nd [] (k1s8 o) [] .no))
def kl6 (x:k17k) (o:k5g):Prop:=WPh TB k6d 26 0 kbl (k12o o) (k57.st TB x) (retTQ TB k6d k57 kq9 o)
theorem k1nr (o:k5g):OblH TB k6d 26 0 kbl (k12o o) (retTQ TB k6d k57 kq9 o):=
 OblH.ofC (X:=((∀nx i,(kef o) nx i=(kef o) nx i)/\(∀nx1:NX TB k2o,((∀i,(kbi o nx1) i=kzh o nx1 i)/\True))/\True)) (by kernel_rfl) ⟨fun _ _=>rfl,fun _=>⟨fun _=>propext ⟨fun h=>h.1,fun h=>⟨h⟩⟩,trivial⟩,trivial⟩
theorem k1lg {x:k17k} {o:k5g} (h:kl6 x o):k57.Snd Tryz.prog x o:=
 Con.soundH (c:=k57) (C:=k6d) TBok ⟨inf_ok,(all_cons k14l all_nil),all_nil⟩ mix Tryz.func147 (by kernel_rfl) (by kernel_rfl) (by kernel_rfl) rfl h (k1nr o)
theorem k1rb {p0:wY} {p1 p2 r0:Int} (h:
(Md.Loop (p1,p2,(1:Int),p0.P,()) (kef (r0,())))):kl6 (p0.P,p1,p2,()) (r0,()):=WPh.of_eq (by kernel_rfl) h
theorem k1dj {r0:Int} {nx1:NX TB k2o} {s1 s2 s7 Aa:Int} (h:
((decide (0<(ishr .u64 s2 1))=true->
((wY.mk Aa).P=18446744069414584321/\(0<=s1/\s1<18446744069414584321)/\(0<=s1/\s1<18446744069414584321))/\nx1 (((s1*s1%18446744069414584321):Int),(ishr .u64 s2 1:Int),s7,Aa,()))/\
(decide (0<(ishr .u64 s2 1))=false->
 nx1 (s1,(ishr .u64 s2 1:Int),s7,Aa,())))):kbi (r0,()) nx1 (s1,s2,s7,Aa,()):=⟨mpr_of (by kernel_rfl) h⟩
def k14m (r0:Int) (nx1:NX TB k2o) (k1:Int->Int->Int->Prop) (Aa s1 s2 s7:Int):Prop:=
(decide (0<s2)=true->
(((iand .u64 s2 1)==1)=true->
((wY.mk Aa).P=18446744069414584321/\(0<=s7/\s7<18446744069414584321)/\(0<=s1/\s1<18446744069414584321))/\kbi (r0,()) nx1 (s1,s2,((s7*s1%18446744069414584321):Int),Aa,()))/\
(((iand .u64 s2 1)==1)=false->
 kbi (r0,()) nx1 (s1,s2,s7,Aa,())))/\
(decide (0<s2)=false->
 s7=r0)
theorem k1ly {r0 Aa s1 s2 s7:Int} (inv:Int->Int->Int->Prop) (μ:Int->Int->Int->Nat) (h0:inv s1 s2 s7) (hs:∀(s1 s2 s7:Int),inv s1 s2 s7->k14m r0 (fun((s1q,s2q,s7q,Al,()):Int×Int×Int×Int×Unit)=>((Aa=Al)/\inv s1q s2q s7q)/\μ s1q s2q s7q<μ s1 s2 s7) (fun s1q s2q s7q=>inv s1q s2q s7q/\μ s1q s2q s7q<μ s1 s2 s7) Aa s1 s2 s7):Md.Loop (s1,s2,s7,Aa,()) (kef (r0,())):=
 ⟨⟨fun((s1q,s2q,s7q,Al,()):Int×Int×Int×Int×Unit)=>(Aa=Al)/\inv s1q s2q s7q,fun((s1q,s2q,s7q,_,()):Int×Int×Int×Int×Unit)=>μ s1q s2q s7q,⟨rfl,h0⟩,fun(s1p,s2p,s7p,B7,()) ⟨eq,hi⟩=>by
  obtain rfl:=eq;exact mpr_of (by kernel_rfl) ((congrArg (fun k=>k14m r0 (fun((s1q,s2q,s7q,Al,()):Int×Int×Int×Int×Unit)=>((Aa=Al)/\inv s1q s2q s7q)/\μ s1q s2q s7q<μ s1p s2p s7p) k Aa s1p s2p s7p) (lpk3 (rfl:Aa=Aa) inv (fun s1q s2q s7q=>μ s1q s2q s7q<μ s1p s2p s7p))).mpr (hs s1p s2p s7p hi))⟩⟩
theorem bd147:Callable Tryz.prog 147:=⟨by rw[Tryz.func147];kernel_rfl,by rw[Tryz.func147];show some _≠some _;decide⟩
theorem k1h2 (p0:wY) (p1 p2:Int) (h:p0.P=18446744069414584321/\(0<=p1/\p1<18446744069414584321)/\U64 p2):kl6 (p0.P,p1,p2,()) (((pw p1 p2):Int),()):=by
 obtain⟨hP,h1,h2⟩:=h
 refine k1rb ?_
 rw[hP]
 refine k1ly (fun a e r=>(0<=a/\a<18446744069414584321)/\U64 e/\(0<=r/\r<18446744069414584321)/\(r*a^e.toNat)%18446744069414584321=pw p1 p2) (fun a e r=>e.toNat) ⟨h1,h2,by omega,by rw[Int.one_mul];rfl⟩ ?_
 rintro a e r ⟨ha,he,hr,hv⟩
 have jj:∀nx r',(0<=r'/\r' <18446744069414584321)->0<e->(r' *(a*a)^(e/2).toNat)%18446744069414584321=pw p1 p2->(∀a',(0<=a'/\a' <18446744069414584321)->r' *a' ^(e/2).toNat%18446744069414584321=pw p1 p2->nx (a',(e/2:Int),r',(18446744069414584321:Int),()))->kbi ((pw p1 p2:Int),()) nx (a,e,r',(18446744069414584321:Int),()):=by
  intro nx r' hr' he' hv' hn
  refine k1dj ?_
  rw[ishr1]
  refine⟨fun h=>⟨⟨rfl,ha,ha⟩,?_⟩,fun h=> ?_⟩
  ·refine hn _ ⟨Int.emod_nonneg _ (by omega),Int.emod_lt_of_pos _ (by omega)⟩ ?_
   rw[<-hv',Int.mul_emod,Int.mul_emod r' ((a*a)^_),kya]
  ·have h:¬0<e/2:=of_decide_eq_false h
   refine hn _ ha ?_
   rw[show(e/2).toNat=0 by omega]at hv' ⊢
   simpa using hv'
 refine⟨fun h=> ?_,fun h=> ?_⟩
 ·have h:=of_decide_eq_true h
  rw[k1yk e he]
  have nxt:∀a' r',(0<=a'/\a' <18446744069414584321)->(0<=r'/\r' <18446744069414584321)->r' *a' ^(e/2).toNat%18446744069414584321=pw p1 p2->((0<=a'/\a' <18446744069414584321)/\U64 (e/2)/\(0<=r'/\r' <18446744069414584321)/\r' *a' ^(e/2).toNat%18446744069414584321=pw p1 p2)/\(e/2).toNat<e.toNat:=fun a' r' h1 h2 h3=>⟨⟨h1,⟨by omega,by omega⟩,h2,h3⟩,by omega⟩
  have hpow:∀k:Nat,a^(2*k)=(a*a)^k:=fun k=>by rw[Int.pow_mul];congr 1;rw[Int.pow_succ,Int.pow_succ,Int.pow_zero,Int.one_mul]
  refine⟨fun h1=>⟨⟨rfl,hr,ha⟩,?_⟩,fun h1=> ?_⟩
  ·have h1:e%2=1:=by simpa using h1
   refine jj _ _ ⟨Int.emod_nonneg _ (by omega),Int.emod_lt_of_pos _ (by omega)⟩ h ?_ fun a' ha' hv' =>⟨⟨rfl,(nxt a' _ ha' ⟨Int.emod_nonneg _ (by omega),Int.emod_lt_of_pos _ (by omega)⟩ hv').1⟩,(nxt a' _ ha' ⟨Int.emod_nonneg _ (by omega),Int.emod_lt_of_pos _ (by omega)⟩ hv').2⟩
   rw[<-hv,show e.toNat=2*(e/2).toNat+1 by omega,Int.pow_succ,hpow,Int.mul_emod,Int.emod_emod_of_dvd _ (Int.dvd_refl _),<-Int.mul_emod]
   congr 1
   grind
  ·have h1:¬e%2=1:=by simpa using h1
   refine jj _ _ hr h ?_ fun a' ha' hv' =>⟨⟨rfl,(nxt a' _ ha' hr hv').1⟩,(nxt a' _ ha' hr hv').2⟩
   rw[<-hv,<-hpow,show e.toNat=2*(e/2).toNat by omega]
 ·have h:¬0<e:=of_decide_eq_false h
  rw[show e.toNat=0 by omega,Int.pow_zero,Int.mul_one,Int.emod_eq_of_lt hr.1 hr.2]at hv
  exact hv
noncomputable def kzr:Con TB.den:=k57.fnR (fun x=>(fun(p0:wY) (p1 p2:Int)=>p0.P=18446744069414584321/\(0<=p1/\p1<18446744069414584321)/\U64 p2) (wY.mk x.1) x.2.1 x.2.2.1) fun x=>(fun(p0:wY) (p1 p2:Int)=>(((pw p1 p2):Int),())) (wY.mk x.1) x.2.1 x.2.2.1
theorem k1pt:kzr.Ok Tryz.prog TB:=Con.ok_fn k57 bd147 fun x h=>k1lg (k1h2 (wY.mk x.1) x.2.1 x.2.2.1 h)
def k7e:Con TB.den:=Con.mk0 137 [.agg [zqu],.one (zqu),.one (zqu)] [] (.one (.one (zqu))) []
abbrev k18c:=CI k7e
abbrev ktw:=CO k7e
noncomputable def kq3:Cx TB:=⟨inf,[k6e,k8i,kzr],[],4,[]⟩
noncomputable def k1ih:Code:=Tryz.f137.body.getD .skip
noncomputable def k1r6:List ResultVar:=Tryz.f137.results.toList
noncomputable def k1ot (o:ktw):An TB:= .no
def kl0 (x:k18c) (o:ktw):Prop:=WPh TB kq3 16 0 k1ih (k1ot o) (k7e.st TB x) (retTQ TB kq3 k7e k1r6 o)
theorem k1oa {x:k18c} {o:ktw} (h:kl0 x o):k7e.Snd Tryz.prog x o:=
 Con.soundH (c:=k7e) (C:=kq3) TBok ⟨inf_ok,(all_cons k94 (all_cons kco (all_cons k1pt all_nil))),all_nil⟩ mix Tryz.func137 (by kernel_rfl) (by kernel_rfl) (by kernel_rfl) rfl h (OblH.ofC (X:=True) (by kernel_rfl) trivial)
theorem k1or {p0:wY} {p1 p2 r0:Int} (h:
((p0.P=18446744069414584321)/\((!true)=true->
 0=r0)/\
((!true)=false->
(0<p0.P/\0<=p1)/\(p0.P=18446744069414584321/\(0<=(p1%p0.P)/\(p1%p0.P)<18446744069414584321)/\U64 p2)/\(pw (p1%p0.P) p2)=r0))):kl0 (p0.P,p1,p2,()) (r0,()):=WPh.of_eq (by kernel_rfl) h
theorem bd137:Callable Tryz.prog 137:=⟨by rw[Tryz.func137];kernel_rfl,by rw[Tryz.func137];show some _≠some _;decide⟩
theorem k1hb (p0:wY) (p1 p2:Int) (h:p0.P=18446744069414584321/\U64 p1/\U64 p2):kl0 (p0.P,p1,p2,()) (((pw (p1%18446744069414584321) p2):Int),()):=by
 obtain⟨hP,h1,h2⟩:=h
 refine k1or ⟨hP,fun h=>by simp at h,fun _=>⟨by omega,?_⟩⟩
 simp only[hP]
 exact⟨⟨by trivial,by omega,h2⟩,trivial⟩
noncomputable def k10c:Con TB.den:=k7e.fnR (fun x=>(fun(p0:wY) (p1 p2:Int)=>p0.P=18446744069414584321/\U64 p1/\U64 p2) (wY.mk x.1) x.2.1 x.2.2.1) fun x=>(fun(p0:wY) (p1 p2:Int)=>(((pw (p1%18446744069414584321) p2):Int),())) (wY.mk x.1) x.2.1 x.2.2.1
theorem k1r1:k10c.Ok Tryz.prog TB:=Con.ok_fn k7e bd137 fun x h=>k1oa (k1hb (wY.mk x.1) x.2.1 x.2.2.1 h)
def k4r:Con TB.den:=Con.mk0 148 [.agg [zqu],.one (zqu)] [] (.one (.one (zqu))) []
abbrev kw3:=CI k4r
abbrev klh:=CO k4r
noncomputable def kkd:Cx TB:=⟨inf,[k6e,k8i],[],4,[]⟩
noncomputable def k15m:Code:=Tryz.f148.body.getD .skip
noncomputable def k1du:List ResultVar:=Tryz.f148.results.toList
noncomputable def k1g6 (o:klh):An TB:= .no
def kgs (x:kw3) (o:klh):Prop:=WPh TB kkd 11 0 k15m (k1g6 o) (k4r.st TB x) (retTQ TB kkd k4r k1du o)
theorem k1bc {x:kw3} {o:klh} (h:kgs x o):k4r.Snd Tryz.prog x o:=
 Con.soundH (c:=k4r) (C:=kkd) TBok ⟨inf_ok,(all_cons k94 (all_cons kco all_nil)),all_nil⟩ mix Tryz.func148 (by kernel_rfl) (by kernel_rfl) (by kernel_rfl) rfl h (OblH.ofC (X:=True) (by kernel_rfl) trivial)
theorem k1e8 {p0:wY} {p1 r0:Int} (h:
((p0.P=18446744069414584321)/\((!true)=true->
 0=r0)/\
((!true)=false->
(0<p0.P/\0<=p1)/\(p1%p0.P)=r0))):kgs (p0.P,p1,()) (r0,()):=WPh.of_eq (by kernel_rfl) h
theorem bd148:Callable Tryz.prog 148:=⟨by rw[Tryz.func148];kernel_rfl,by rw[Tryz.func148];show some _≠some _;decide⟩
theorem k16e (p0:wY) (p1:Int) (h:p0.P=18446744069414584321/\U64 p1):kgs (p0.P,p1,()) (((p1%18446744069414584321):Int),()):=by
 obtain⟨hP,h1⟩:=h
 refine k1e8 ⟨hP,fun h=>by simp at h,fun _=>⟨by omega,?_⟩⟩
 simp only[hP]
noncomputable def kpu:Con TB.den:=k4r.fnR (fun x=>(fun(p0:wY) (p1:Int)=>p0.P=18446744069414584321/\U64 p1) (wY.mk x.1) x.2.1) fun x=>(fun(p0:wY) (p1:Int)=>(((p1%18446744069414584321):Int),())) (wY.mk x.1) x.2.1
theorem k1ci:kpu.Ok Tryz.prog TB:=Con.ok_fn k4r bd148 fun x h=>k1bc (k16e (wY.mk x.1) x.2.1 h)
def k1p:Con TB.den:=Con.mk0 138 [.one (zqu),.one (zqi),.one (zqi)] [] (.one (.one (zqu))) []
abbrev kh2:=CI k1p
abbrev kav:=CO k1p
noncomputable def k9s:Cx TB:=⟨inf,[kpu],[],4,[]⟩
noncomputable def kp3:Code:=Tryz.f138.body.getD .skip
noncomputable def ksc:List ResultVar:=Tryz.f138.results.toList
noncomputable def ksa (o:kav):An TB:= .no
def k8k (x:kh2) (o:kav):Prop:=WPh TB k9s 31 0 kp3 (ksa o) (k1p.st TB x) (retTQ TB k9s k1p ksc o)
theorem kpf {x:kh2} {o:kav} (h:k8k x o):k1p.Snd Tryz.prog x o:=
 Con.soundH (c:=k1p) (C:=k9s) TBok ⟨inf_ok,(all_cons k1ci all_nil),all_nil⟩ mix Tryz.func138 (by kernel_rfl) (by kernel_rfl) (by kernel_rfl) rfl h (OblH.ofC (X:=True) (by kernel_rfl) trivial)
theorem ks9 {p0 p1 p2 r0:Int} (h:
((decide (p1<0)=true->
 0=r0)/\
(decide (p1<0)=false->
(decide (8<=p1)=true->
 0=r0)/\
(decide (8<=p1)=false->
(decide (p2<0)=true->
 0=r0)/\
(decide (p2<0)=false->
(decide (2<p2)=true->
 0=r0)/\
(decide (2<p2)=false->
 let v1:Int:=IntKind.i64.wrap ((IntKind.i64.wrap (3*p1))+p2)
 let v2:Int:=IntKind.u64.wrap (IntKind.i64.wrap (v1+1))
 let v3:Int:=IntKind.u64.wrap (v2*11400714819323198485)
((wY.mk p0).P=18446744069414584321/\U64 v3)/\(v3%18446744069414584321)=r0)))))):k8k (p0,p1,p2,()) (r0,()):=WPh.of_eq (by kernel_rfl) h
theorem bd138:Callable Tryz.prog 138:=⟨by rw[Tryz.func138];kernel_rfl,by rw[Tryz.func138];show some _≠some _;decide⟩
theorem koy (p0 p1 p2:Int) (h:p0=18446744069414584321/\(0<=p1/\p1<8)/\0<=p2/\p2<3):k8k (p0,p1,p2,()) (((rc p1 p2):Int),()):=by
 obtain⟨hP,h1,h2⟩:=h
 refine ks9 ⟨fun h=> ?_,fun _=>⟨fun h=> ?_,fun _=>⟨fun h=> ?_,fun _=>⟨fun h=> ?_,fun _=> ?_⟩⟩⟩⟩
 ·simp at h;omega
 ·simp at h;omega
 ·simp at h;omega
 ·simp at h;omega
 ·simp only[]
  rw[wi (3*p1) (by omega) (by omega),wi (3*p1+p2) (by omega) (by omega),wi (3*p1+p2+1) (by omega) (by omega),wu (3*p1+p2+1) (by omega) (by omega),u64w]
  exact⟨⟨hP,by omega,by omega⟩,rfl⟩
noncomputable def kex:Con TB.den:=k1p.fnR (fun x=>(fun(p0 p1 p2:Int)=>p0=18446744069414584321/\(0<=p1/\p1<8)/\0<=p2/\p2<3) x.1 x.2.1 x.2.2.1) fun x=>(fun(p0 p1 p2:Int)=>(((rc p1 p2):Int),())) x.1 x.2.1 x.2.2.1
theorem ksd:kex.Ok Tryz.prog TB:=Con.ok_fn k1p bd138 fun x h=>kpf (koy x.1 x.2.1 x.2.2.1 h)
def k2w:Con TB.den:=Con.mk0 139 [.one (zqu),.agg [zqu,zqu,zqu]] [] (.one (.agg [zqu,zqu,zqu])) []
abbrev kon:=CI k2w
abbrev kgq:=CO k2w
noncomputable def ken:Cx TB:=⟨inf,[khk],[],4,[]⟩
noncomputable def kx2:Code:=Tryz.f139.body.getD .skip
noncomputable def k11s:List ResultVar:=Tryz.f139.results.toList
noncomputable def k12t (o:kgq):An TB:= .no
def kcu (x:kon) (o:kgq):Prop:=WPh TB ken 35 0 kx2 (k12t o) (k2w.st TB x) (retTQ TB ken k2w k11s o)
theorem k11d {x:kon} {o:kgq} (h:kcu x o):k2w.Snd Tryz.prog x o:=
 Con.soundH (c:=k2w) (C:=ken) TBok ⟨inf_ok,(all_cons kqp all_nil),all_nil⟩ mix Tryz.func139 (by kernel_rfl) (by kernel_rfl) (by kernel_rfl) rfl h (OblH.ofC (X:=True) (by kernel_rfl) trivial)
theorem k143 {p0:Int} {p1 r0:wAA} (h:
(((wY.mk p0).P=18446744069414584321/\U64 p1.a0/\U64 p1.a1)/\((wY.mk p0).P=18446744069414584321/\U64 ((p1.a0+p1.a1)%18446744069414584321)/\U64 p1.a2)/\let r1:Int:=((((p1.a0+p1.a1)%18446744069414584321)+p1.a2)%18446744069414584321)
((wY.mk p0).P=18446744069414584321/\U64 p1.a0/\U64 r1)/\((wY.mk p0).P=18446744069414584321/\U64 p1.a1/\U64 r1)/\((wY.mk p0).P=18446744069414584321/\U64 p1.a2/\U64 r1)/\((p1.a0+r1)%18446744069414584321)=r0.a0/\((p1.a1+r1)%18446744069414584321)=r0.a1/\((p1.a2+r1)%18446744069414584321)=r0.a2)):kcu (p0,p1.a0,p1.a1,p1.a2,()) (r0.a0,r0.a1,r0.a2,()):=WPh.of_eq (by kernel_rfl) h
theorem bd139:Callable Tryz.prog 139:=⟨by rw[Tryz.func139];kernel_rfl,by rw[Tryz.func139];show some _≠some _;decide⟩
theorem kxc (p0:Int) (p1:wAA) (h:p0=18446744069414584321/\S3 p1):kcu (p0,p1.a0,p1.a1,p1.a2,()) (((mixS p1).a0:Int),((mixS p1).a1:Int),((mixS p1).a2:Int),()):=by
 obtain⟨hP,h0,h1,h2⟩:=h
 refine k143 ?_
 simp only[hP]
 exact⟨⟨by trivial,h0,h1⟩,⟨by trivial,by omega,h2⟩,⟨by trivial,h0,by omega⟩,⟨by trivial,h1,by omega⟩,⟨by trivial,h2,by omega⟩,rfl,rfl,rfl⟩
noncomputable def kkq:Con TB.den:=k2w.fnR (fun(a0,a1,a2,a3,())=>(fun(p0:Int) (p1:wAA)=>p0=18446744069414584321/\S3 p1) a0 (wAA.mk a1 a2 a3)) fun(a0,a1,a2,a3,())=>(fun(p0:Int) (p1:wAA)=>(((mixS p1).a0:Int),((mixS p1).a1:Int),((mixS p1).a2:Int),())) a0 (wAA.mk a1 a2 a3)
theorem k11y:kkq.Ok Tryz.prog TB:=Con.ok_fn k2w bd139 fun(a0,a1,a2,a3,()) h=>k11d (kxc a0 (wAA.mk a1 a2 a3) h)
def kx:Con TB.den:=Con.mk0 129 [.one (zqu),.agg [zqu,zqu,zqu]] [] (.one (.agg [zqu,zqu,zqu])) []
abbrev kiv:=CI kx
abbrev kf:=CO kx
noncomputable def ko:Cx TB:=⟨inf,[k6e,kmx,kex,khk,k10c,kkq],[],4,[]⟩
noncomputable def k1v:Code:=Tryz.f129.body.getD .skip
noncomputable def kay:List ResultVar:=Tryz.f129.results.toList
def kur (o:kf):=qS TB ko 43 0 (cB (cB (cB (cB (cB k1v))))) .no (retTQ TB ko kx kay o)
def ke:Tm:=⟨[0,1,2],[.cells [zqu,zqu,zqu],.cells [zqu,zqu,zqu],.cells [zqu]],[0,3,4,5,6,17],[.one (zqu),.one (.ptr 0 0),.one (.ptr 1 0),.one (.ptr 2 0),.one (zqu),.one (zqi)],3⟩
def khd (o:kf) (nx2:NX TB ke):=qM TB 0 ke nx2 (blockT TB 0 (kur o))
def kum (o:kf) (nx2:NX TB ke):=qS TB ko 43 0 (cB (cB (cB (cA (cA (cB (cA (cB (cB (cB (cB k1v))))))))))) .no (khd o nx2)
def kty (o:kf) (nx2:NX TB ke):=qS TB ko 43 0 (cB (cB (cA (cA (cB (cB (cA (cA (cB (cA (cB (cB (cB (cB k1v)))))))))))))) .no (blockT TB 1 (kum o nx2))
def k24:Tm:=⟨[0,1,2],[.cells [zqu,zqu,zqu],.cells [zqu,zqu,zqu],.cells [zqu]],[0,3,4,5,6,7,17,20],[.one (zqu),.one (.ptr 0 0),.one (.ptr 1 0),.one (.ptr 2 0),.one (zqu),.one (zqi),.one (zqi),.one (zqi)],3⟩
def kuu (o:kf) (nx2:NX TB ke) (nx1:NX TB k24):=qM TB 0 k24 nx1 (blockT TB 2 (kty o nx2))
def k5e (o:kf) (nx2:NX TB ke) (nx1:NX TB k24) (i:HL TB.den k24.hs):Prop:=WP TB ko 43 0 (cA (cA (cB (cA (cB (cA (cA (cB (cB (cA (cA (cB (cA (cB (cB (cB (cB k1v))))))))))))))))) .no (k24.fill TB i) (kuu o nx2 nx1)
noncomputable def ktv (o:kf) (nx2:NX TB ke):An TB:= .lp [] k24 (k5e o nx2) fun nx1=> .no
noncomputable def kus (o:kf) (nx2:NX TB ke):An TB:= .nd [] .no [] (.nd [] (.nd [] .no [] (ktv o nx2)) [] .no)
noncomputable def kg7 (o:kf) (nx2:NX TB ke):An TB:= .nd [] .no [] (.nd [] .no [] (.nd [] (kus o nx2) [] .no))
def k5a (o:kf) (nx2:NX TB ke) (i:HL TB.den ke.hs):Prop:=WP TB ko 43 0 (cA (cA (cB (cA (cB (cB (cB (cB k1v)))))))) (kg7 o nx2) (ke.fill TB i) (khd o nx2)
noncomputable def ksi (o:kf):An TB:= .lp [] ke (k5a o) fun nx2=>(kg7 o nx2)
noncomputable def ksm (o:kf):An TB:= .nd [] .no [] (.nd [] (.nd [] .no [] (ksi o)) [] .no)
noncomputable def kh7 (o:kf):An TB:= .nd [] .no [] (.nd [] .no [] (.nd [] .no [] (ksm o)))
def k99 (x:kiv) (o:kf):Prop:=WPh TB ko 43 0 k1v (kh7 o) (kx.st TB x) (retTQ TB ko kx kay o)
theorem ksb (o:kf):OblH TB ko 43 0 k1v (kh7 o) (retTQ TB ko kx kay o):=
 OblH.ofC (X:=((∀nx i,(k5a o) nx i=(k5a o) nx i)/\(∀nx2:NX TB ke,((∀nx i,(k5e o nx2) nx i=(k5e o nx2) nx i)/\(∀nx1:NX TB k24,True)/\True))/\True)) (by kernel_rfl) ⟨fun _ _=>rfl,fun _=>⟨fun _ _=>rfl,fun _=>trivial,trivial⟩,trivial⟩
theorem ksk {x:kiv} {o:kf} (h:k99 x o):kx.Snd Tryz.prog x o:=
 Con.soundH (c:=kx) (C:=ko) TBok ⟨inf_ok,(all_cons k94 (all_cons k171 (all_cons ksd (all_cons kqp (all_cons k1r1 (all_cons k11y all_nil)))))),all_nil⟩ mix Tryz.func129 (by kernel_rfl) (by kernel_rfl) (by kernel_rfl) rfl h (ksb o)
theorem kux {p0:Int} {p1 r0:wAA} (h:
(((wY.mk p0).P=18446744069414584321)/\((!true)=true->
 0=r0.a0/\0=r0.a1/\0=r0.a2)/\
((!true)=false->
((wY.mk p0).P=18446744069414584321)/\Md.Loop (p0,(7:Int),(0:Int),p1.a0,p1.a1,p1.a2,(0:Int),(0:Int),(0:Int),p0,()) (k5a (r0.a0,r0.a1,r0.a2,()))))):k99 (p0,p1.a0,p1.a1,p1.a2,()) (r0.a0,r0.a1,r0.a2,()):=WPh.of_eq (by kernel_rfl) h
def kh9 (r0:wAA) (nx2:NX TB ke) (k2:Int->Int->Int->Int->Prop) (s0 s6 Ai Aj Ak Cc s17 Aa Ab Ac:Int):Prop:=
(decide (s17<8)=true->
 Md.Loop (s0,s6,s17,s17,(0:Int),Aa,Ab,Ac,Ai,Aj,Ak,Cc,()) (k5e (r0.a0,r0.a1,r0.a2,()) nx2))/\
(decide (s17<8)=false->
 Aa=r0.a0/\Ab=r0.a1/\Ac=r0.a2)
theorem ksn {r0:wAA} {s0 s6 Ai Aj Ak Cc s17 Aa Ab Ac:Int} (inv:Int->Int->Int->Int->Prop) (μ:Int->Int->Int->Int->Nat) (h0:inv s17 Aa Ab Ac) (hs:∀(s17 Aa Ab Ac:Int),inv s17 Aa Ab Ac->kh9 r0 (fun((s0q,s6q,s17q,Al,Ap,Aq,B0,B2,B3,Em,()):Int×Int×Int×Int×Int×Int×Int×Int×Int×Int×Unit)=>((s0=s0q/\s6=s6q/\Ai=B0/\Aj=B2/\Ak=B3/\Cc=Em)/\inv s17q Al Ap Aq)/\μ s17q Al Ap Aq<μ s17 Aa Ab Ac) (fun s17q Al Ap Aq=>inv s17q Al Ap Aq/\μ s17q Al Ap Aq<μ s17 Aa Ab Ac) s0 s6 Ai Aj Ak Cc s17 Aa Ab Ac):Md.Loop (s0,s6,s17,Aa,Ab,Ac,Ai,Aj,Ak,Cc,()) (k5a (r0.a0,r0.a1,r0.a2,())):=
 ⟨⟨fun((s0q,s6q,s17q,Al,Ap,Aq,B0,B2,B3,Em,()):Int×Int×Int×Int×Int×Int×Int×Int×Int×Int×Unit)=>(s0=s0q/\s6=s6q/\Ai=B0/\Aj=B2/\Ak=B3/\Cc=Em)/\inv s17q Al Ap Aq,fun((_,_,s17q,Al,Ap,Aq,_,_,_,_,()):Int×Int×Int×Int×Int×Int×Int×Int×Int×Int×Unit)=>μ s17q Al Ap Aq,⟨⟨rfl,rfl,rfl,rfl,rfl,rfl⟩,h0⟩,fun(s0p,s6p,s17p,B7,B9,Ca,Cu,De,Df,h2_0p,()) ⟨eq,hi⟩=>by
  obtain⟨rfl,rfl,rfl,rfl,rfl,rfl⟩:=eq;exact mpr_of (by kernel_rfl) ((congrArg (fun k=>kh9 r0 (fun((s0q,s6q,s17q,Al,Ap,Aq,B0,B2,B3,Em,()):Int×Int×Int×Int×Int×Int×Int×Int×Int×Int×Unit)=>((s0=s0q/\s6=s6q/\Ai=B0/\Aj=B2/\Ak=B3/\Cc=Em)/\inv s17q Al Ap Aq)/\μ s17q Al Ap Aq<μ s17p B7 B9 Ca) k s0 s6 Ai Aj Ak Cc s17p B7 B9 Ca) (lpk4 (⟨rfl,rfl,rfl,rfl,rfl,rfl⟩:s0=s0/\s6=s6/\Ai=Ai/\Aj=Aj/\Ak=Ak/\Cc=Cc) inv (fun s17q Al Ap Aq=>μ s17q Al Ap Aq<μ s17p B7 B9 Ca))).mpr (hs s17p B7 B9 Ca hi))⟩⟩
def khc (r0:wAA) (nx2:NX TB ke) (k1:Int->Int->Int->Int->Prop) (s0 s6 s7 s17 Ai Aj Ak Cc s20 Aa Ab Ac:Int):Prop:=
(decide (s20<3)=true->
(0<=s20/\s20<(3:Int))/\(0<=s20/\s20<(3:Int))/\(s0=18446744069414584321/\(0<=s7/\s7<8)/\0<=s20/\s20<3)/\((wY.mk Cc).P=18446744069414584321/\U64 (ix [Aa,Ab,Ac] s20)/\U64 (rc s7 s20))/\let r1:Int:=(((ix [Aa,Ab,Ac] s20)+(rc s7 s20))%18446744069414584321)
((wY.mk Cc).P=18446744069414584321/\U64 r1/\U64 s6)/\(0<=s20/\s20<(3:Int))/\(0<=s20/\s20<(3:Int))/\k1 (IntKind.i64.wrap (s20+1):Int) ((bif decide (s20=(0:Int))then(pw (r1%18446744069414584321) s6)else Aa):Int) ((bif decide (s20=(1:Int))then(pw (r1%18446744069414584321) s6)else Ab):Int) ((bif decide (s20=(2:Int))then(pw (r1%18446744069414584321) s6)else Ac):Int))/\
(decide (s20<3)=false->
(s0=18446744069414584321/\S3 (wAA.mk Aa Ab Ac))/\nx2 (s0,s6,(IntKind.i64.wrap (s17+1):Int),((mixS (wAA.mk Aa Ab Ac)).a0:Int),((mixS (wAA.mk Aa Ab Ac)).a1:Int),((mixS (wAA.mk Aa Ab Ac)).a2:Int),Ai,Aj,Ak,Cc,()))
theorem ksh {r0:wAA} {nx2:NX TB ke} {s0 s6 s7 s17 Ai Aj Ak Cc s20 Aa Ab Ac:Int} (inv:Int->Int->Int->Int->Prop) (μ:Int->Int->Int->Int->Nat) (h0:inv s20 Aa Ab Ac) (hs:∀(s20 Aa Ab Ac:Int),inv s20 Aa Ab Ac->khc r0 nx2 (fun s20q Al Ap Aq=>inv s20q Al Ap Aq/\μ s20q Al Ap Aq<μ s20 Aa Ab Ac) s0 s6 s7 s17 Ai Aj Ak Cc s20 Aa Ab Ac):Md.Loop (s0,s6,s7,s17,s20,Aa,Ab,Ac,Ai,Aj,Ak,Cc,()) (k5e (r0.a0,r0.a1,r0.a2,()) nx2):=
 ⟨⟨fun((s0q,s6q,s7q,s17q,s20q,Al,Ap,Aq,B0,B2,B3,Em,()):Int×Int×Int×Int×Int×Int×Int×Int×Int×Int×Int×Int×Unit)=>(s0=s0q/\s6=s6q/\s7=s7q/\s17=s17q/\Ai=B0/\Aj=B2/\Ak=B3/\Cc=Em)/\inv s20q Al Ap Aq,fun((_,_,_,_,s20q,Al,Ap,Aq,_,_,_,_,()):Int×Int×Int×Int×Int×Int×Int×Int×Int×Int×Int×Int×Unit)=>μ s20q Al Ap Aq,⟨⟨rfl,rfl,rfl,rfl,rfl,rfl,rfl,rfl⟩,h0⟩,fun(s0p,s6p,s7p,s17p,s20p,B7,B9,Ca,Cu,De,Df,h2_0p,()) ⟨eq,hi⟩=>by
  obtain⟨rfl,rfl,rfl,rfl,rfl,rfl,rfl,rfl⟩:=eq;exact mpr_of (by kernel_rfl) ((congrArg (fun k=>khc r0 nx2 k s0 s6 s7 s17 Ai Aj Ak Cc s20p B7 B9 Ca) (lpk4 (⟨rfl,rfl,rfl,rfl,rfl,rfl,rfl,rfl⟩:s0=s0/\s6=s6/\s7=s7/\s17=s17/\Ai=Ai/\Aj=Aj/\Ak=Ak/\Cc=Cc) inv (fun s20q Al Ap Aq=>μ s20q Al Ap Aq<μ s20p B7 B9 Ca))).mpr (hs s20p B7 B9 Ca hi))⟩⟩
theorem bd129:Callable Tryz.prog 129:=⟨by rw[Tryz.func129];kernel_rfl,by rw[Tryz.func129];show some _≠some _;decide⟩
theorem kqb (p0:Int) (p1:wAA) (h:p0=18446744069414584321/\S3 p1):k99 (p0,p1.a0,p1.a1,p1.a2,()) (((permS p1).a0:Int),((permS p1).a1:Int),((permS p1).a2:Int),()):=by
 obtain⟨hP,hs⟩:=h
 subst hP
 refine kux ⟨rfl,fun h=>by simp at h,fun _=>⟨rfl,?_⟩⟩
 refine ksn (r0:=permS p1) (fun n a b c=>0<=n/\n<=8/\(⟨a,b,c⟩:wAA)=rnds n.toNat p1/\S3 ⟨a,b,c⟩) (fun n _ _ _=>(8-n).toNat) ⟨by omega,by omega,rfl,hs⟩ ?_
 rintro n a b c ⟨g0,g1,g2,g3⟩
 refine⟨fun h=> ?_,fun h=> ?_⟩
 ·have h:=of_decide_eq_true h
  refine ksh (r0:=permS p1) (fun i x y z=>(i=0/\x=a/\y=b/\z=c)∨(i=1/\x=pw ((a+rc n 0)%18446744069414584321) 7/\y=b/\z=c)∨(i=2/\x=pw ((a+rc n 0)%18446744069414584321) 7/\y=pw ((b+rc n 1)%18446744069414584321) 7/\z=c)∨(i=3/\x=pw ((a+rc n 0)%18446744069414584321) 7/\y=pw ((b+rc n 1)%18446744069414584321) 7/\z=pw ((c+rc n 2)%18446744069414584321) 7)) (fun i _ _ _=>(3-i).toNat) (.inl ⟨rfl,rfl,rfl,rfl⟩) ?_
  intro i x y z hi
  have hrc:∀k,U64 (rc n k):=fun k=>by unfold rc;omega
  have hpw:∀k e,0<=pw k e/\pw k e<18446744069414584321:=fun k e=>⟨Int.emod_nonneg _ (by omega),Int.emod_lt_of_pos _ (by omega)⟩
  obtain⟨h3a,h3b,h3c⟩:=g3
  refine⟨fun hh=> ?_,fun hh=> ?_⟩
  ·have hh:=of_decide_eq_true hh
   rcases hi with⟨rfl,rfl,rfl,rfl⟩|⟨rfl,rfl,rfl,rfl⟩|⟨rfl,rfl,rfl,rfl⟩|⟨rfl,_⟩
   ·refine⟨by omega,by omega,⟨rfl,by omega,by omega⟩,⟨rfl,h3a,hrc _⟩,⟨rfl,?_,by omega⟩,by omega,by omega,.inr (.inl ⟨rfl,?_,rfl,rfl⟩),by decide⟩
    ·exact⟨Int.emod_nonneg _ (by omega),Int.lt_trans (Int.emod_lt_of_pos _ (by omega)) (by omega)⟩
    ·show pw ((x+rc n 0)%18446744069414584321%18446744069414584321) 7=_
     rw[Int.emod_emod_of_dvd _ (Int.dvd_refl _)]
   ·refine⟨by omega,by omega,⟨rfl,by omega,by omega⟩,⟨rfl,h3b,hrc _⟩,⟨rfl,?_,by omega⟩,by omega,by omega,.inr (.inr (.inl ⟨rfl,rfl,?_,rfl⟩)),by decide⟩
    ·exact⟨Int.emod_nonneg _ (by omega),Int.lt_trans (Int.emod_lt_of_pos _ (by omega)) (by omega)⟩
    ·show pw ((y+rc n 1)%18446744069414584321%18446744069414584321) 7=_
     rw[Int.emod_emod_of_dvd _ (Int.dvd_refl _)]
   ·refine⟨by omega,by omega,⟨rfl,by omega,by omega⟩,⟨rfl,h3c,hrc _⟩,⟨rfl,?_,by omega⟩,by omega,by omega,.inr (.inr (.inr ⟨rfl,rfl,rfl,?_⟩)),by decide⟩
    ·exact⟨Int.emod_nonneg _ (by omega),Int.lt_trans (Int.emod_lt_of_pos _ (by omega)) (by omega)⟩
    ·show pw ((z+rc n 2)%18446744069414584321%18446744069414584321) 7=_
     rw[Int.emod_emod_of_dvd _ (Int.dvd_refl _)]
   ·omega
  ·have hh:=of_decide_eq_false hh
   rcases hi with⟨rfl,_⟩|⟨rfl,_⟩|⟨rfl,_⟩|⟨rfl,rfl,rfl,rfl⟩
   ·omega
   ·omega
   ·omega
   ·have e:rnds (n+1).toNat p1=rnd ⟨a,b,c⟩ n:=by
     rw[show(n+1).toNat=n.toNat+1 by omega]
     show rnd (rnds n.toNat p1) (n.toNat:Int)=_
     rw[<-g2,show(n.toNat:Int)=n by omega]
    have hS:S3 (rnds (n+1).toNat p1):=by
     rw[e]
     unfold rnd mixS S3
     dsimp only
     omega
    have hinc:IntKind.i64.wrap (n+1)=n+1:=wi _ (by omega) (by omega)
    rw[hinc]
    refine⟨⟨rfl,by unfold S3;have:=hpw ((a+rc n 0)%18446744069414584321) 7;have:=hpw ((b+rc n 1)%18446744069414584321) 7;have:=hpw ((c+rc n 2)%18446744069414584321) 7;dsimp only;omega⟩,⟨⟨rfl,rfl,rfl,rfl,rfl,rfl⟩,(?_:0<=n+1/\n+1<=8/\_/\_)⟩,(?_:(8-(n+1)).toNat<(8-n).toNat)⟩
    ·refine⟨by omega,by omega,e.symm,?_⟩
     rw[e]at hS
     exact hS
    ·omega
 ·have h:=of_decide_eq_false h
  rw[show n=8 by omega]at g2
  have g2:(⟨a,b,c⟩:wAA)=permS p1:=g2
  rw[<-g2]
  exact⟨rfl,rfl,rfl⟩
noncomputable def kg9:Con TB.den:=kx.fnR (fun(a0,a1,a2,a3,())=>(fun(p0:Int) (p1:wAA)=>p0=18446744069414584321/\S3 p1) a0 (wAA.mk a1 a2 a3)) fun(a0,a1,a2,a3,())=>(fun(p0:Int) (p1:wAA)=>(((permS p1).a0:Int),((permS p1).a1:Int),((permS p1).a2:Int),())) a0 (wAA.mk a1 a2 a3)
theorem kuh:kg9.Ok Tryz.prog TB:=Con.ok_fn kx bd129 fun(a0,a1,a2,a3,()) h=>ksk (kqb a0 (wAA.mk a1 a2 a3) h)
def k29:Con TB.den:=Con.mk0 120 [.one (zqu),.one (zqu),.one (zql)] [] (.one (.agg [zqu,zqu,zqu])) []
abbrev kts:=CI k29
abbrev k1j:=CO k29
noncomputable def k25:Cx TB:=⟨inf,[kz0,khk,kg9],[],4,[]⟩
noncomputable def k5o:Code:=Tryz.f120.body.getD .skip
noncomputable def ki9:List ResultVar:=Tryz.f120.results.toList
def k18r (o:k1j):=qS TB k25 61 0 (cB (cB (cB (cB (cB k5o))))) .no (retTQ TB k25 k29 ki9 o)
def k1b:Tm:=⟨[0,1,38],[.cells [zqu,zqu,zqu],.cells [zqu],.cells [zqu,zqu,zqu]],[0,2,6,7,8,9],[.one (zqu),.one (zql),.one (.ptr 0 0),.one (.ptr 1 0),.one (.ptr 2 0),.one (zqi)],46⟩
def kqf (o:k1j) (nx1:NX TB k1b):=qM TB 0 k1b nx1 (blockT TB 0 (k18r o))
def k1bh (o:k1j) (nx1:NX TB k1b):=qS TB k25 61 0 (cB (cB (cA (cA (cB (cA (cB (cB (cB (cB k5o)))))))))) .no (kqf o nx1)
def kbb:Tm:=⟨[0,1,38],[.cells [zqu,zqu,zqu],.cells [zqu],.cells [zqu,zqu,zqu]],[0,2,6,7,8,9],[.one (zqu),.one (zql),.one (.ptr 0 0),.one (.ptr 1 0),.one (.ptr 2 0),.one (zqi)],86⟩
def kop (o:k1j) (nx1:NX TB k1b) (i:HL TB.den kbb.hs):Prop:=ghs TB [] (kbb.fill TB i) fun s=>WP TB k25 61 0 (cB (cB (cA (cA (cB (cA (cA (cB (cA (cB (cB (cB (cB k5o))))))))))))) .no s (blockT TB 1 (k1bh o nx1))
structure k6t (o:k1j) (nx1:NX TB k1b) (i:HL TB.den kbb.hs):Prop where
 h:kop o nx1 i
noncomputable def kpw (o:k1j) (nx1:NX TB k1b):An TB:= .nd [] .no [] (.jn kbb (k6t o nx1) [] .no [] .no)
def k96 (o:k1j) (nx1:NX TB k1b) (i:HL TB.den k1b.hs):Prop:=WP TB k25 61 0 (cA (cA (cB (cA (cB (cB (cB (cB k5o)))))))) (.nd [] .no [] (.nd [] (kpw o nx1) [] .no)) (k1b.fill TB i) (kqf o nx1)
noncomputable def k1a4 (o:k1j):An TB:= .lp [] k1b (k96 o) fun nx1=>(.nd [] .no [] (.nd [] (kpw o nx1) [] .no))
noncomputable def k1bl (o:k1j):An TB:= .nd [] .no [] (.nd [] (.nd [] .no [] (k1a4 o)) [] .no)
noncomputable def kps (o:k1j):An TB:= .nd [] .no [] (.nd [] .no [] (.nd [] .no [] (k1bl o)))
def kfb (x:kts) (o:k1j):Prop:=WPh TB k25 61 0 k5o (kps o) (k29.st TB x) (retTQ TB k25 k29 ki9 o)
theorem k15i (o:k1j):OblH TB k25 61 0 k5o (kps o) (retTQ TB k25 k29 ki9 o):=
 OblH.ofC (X:=((∀nx i,(k96 o) nx i=(k96 o) nx i)/\(∀nx1:NX TB k1b,((∀i,(k6t o nx1) i=kop o nx1 i)/\True))/\True)) (by kernel_rfl) ⟨fun _ _=>rfl,fun _=>⟨fun _=>propext ⟨fun h=>h.1,fun h=>⟨h⟩⟩,trivial⟩,trivial⟩
theorem k169 {x:kts} {o:k1j} (h:kfb x o):k29.Snd Tryz.prog x o:=
 Con.soundH (c:=k29) (C:=k25) TBok ⟨inf_ok,(all_cons k1pd (all_cons kqp (all_cons kuh all_nil))),all_nil⟩ mix Tryz.func120 (by kernel_rfl) (by kernel_rfl) (by kernel_rfl) rfl h (k15i o)
theorem k19o {p0 p1:Int} {p2:List Int} {r0:wAA} (h:
(((wY.mk p0).P=18446744069414584321/\U64 p1/\U64 (65536:Int))/\let r1:Int:=(p1*(65536:Int)%18446744069414584321)
((wY.mk p0).P=18446744069414584321/\U64 r1/\U64 (IntKind.u64.wrap (p2.length:Int)))/\let r2:Int:=((r1+(IntKind.u64.wrap (p2.length:Int)))%18446744069414584321)
(((p2.length:Int)==0)=true->
(p0=18446744069414584321/\S3 (wAA.mk 0 0 r2))/\(permS (wAA.mk 0 0 r2)).a0=r0.a0/\(permS (wAA.mk 0 0 r2)).a1=r0.a1/\(permS (wAA.mk 0 0 r2)).a2=r0.a2)/\
(((p2.length:Int)==0)=false->
 Md.Loop (p0,p2,(0:Int),(0:Int),(0:Int),(0:Int),p0,(0:Int),(0:Int),r2,()) (k96 (r0.a0,r0.a1,r0.a2,()))))):kfb (p0,p1,p2,()) (r0.a0,r0.a1,r0.a2,()):=WPh.of_eq (by kernel_rfl) h
theorem k10x {r0:wAA} {nx1:NX TB k1b} {s0:Int} {s2:List Int} {s9 Aa Ab Ac Ai Dr Do Ds:Int} (h:
((s0=18446744069414584321/\S3 (wAA.mk Dr Do Ds))/\nx1 (s0,s2,(IntKind.i64.wrap (s9+2):Int),Aa,Ab,Ac,Ai,((permS (wAA.mk Dr Do Ds)).a0:Int),((permS (wAA.mk Dr Do Ds)).a1:Int),((permS (wAA.mk Dr Do Ds)).a2:Int),()))):k6t (r0.a0,r0.a1,r0.a2,()) nx1 (s0,s2,s9,Aa,Ab,Ac,Ai,Dr,Do,Ds,()):=⟨mpr_of (by kernel_rfl) h⟩
def kra (r0:wAA) (nx1:NX TB k1b) (k1:Int->Int->Int->Int->Prop) (s0:Int) (s2:List Int) (Aa Ab Ac Ai s9 Dr Do Ds:Int):Prop:=
(decide (s9<(s2.length:Int))=true->
(0<=s9)/\s9<(s2.length:Int)/\((wY.mk Ai).P=18446744069414584321/\U64 Dr/\U64 (ix s2 s9))/\let r3:Int:=((Dr+(ix s2 s9))%18446744069414584321)
 let v4:Bool:=decide ((IntKind.i64.wrap (s9+1))<(s2.length:Int))
(v4=true->
(0<=IntKind.i64.wrap (s9+1))/\IntKind.i64.wrap (s9+1)<(s2.length:Int)/\((wY.mk Ai).P=18446744069414584321/\U64 Do/\U64 (ix s2 (IntKind.i64.wrap (s9+1))))/\let r5:Int:=((Do+(ix s2 (IntKind.i64.wrap (s9+1))))%18446744069414584321)
 k6t (r0.a0,r0.a1,r0.a2,()) nx1 (s0,s2,s9,Aa,Ab,Ac,Ai,r3,r5,Ds,()))/\
(v4=false->
 k6t (r0.a0,r0.a1,r0.a2,()) nx1 (s0,s2,s9,Aa,Ab,Ac,Ai,r3,Do,Ds,())))/\
(decide (s9<(s2.length:Int))=false->
 Dr=r0.a0/\Do=r0.a1/\Ds=r0.a2)
theorem k151 {r0:wAA} {s0:Int} {s2:List Int} {Aa Ab Ac Ai s9 Dr Do Ds:Int} (inv:Int->Int->Int->Int->Prop) (μ:Int->Int->Int->Int->Nat) (h0:inv s9 Dr Do Ds) (hs:∀(s9 Dr Do Ds:Int),inv s9 Dr Do Ds->kra r0 (fun((s0q,s2q,s9q,Al,Ap,Aq,B0,Di,Dj,Dk,()):Int×(List Int)×Int×Int×Int×Int×Int×Int×Int×Int×Unit)=>((s0=s0q/\s2=s2q/\Aa=Al/\Ab=Ap/\Ac=Aq/\Ai=B0)/\inv s9q Di Dj Dk)/\μ s9q Di Dj Dk<μ s9 Dr Do Ds) (fun s9q Di Dj Dk=>inv s9q Di Dj Dk/\μ s9q Di Dj Dk<μ s9 Dr Do Ds) s0 s2 Aa Ab Ac Ai s9 Dr Do Ds):Md.Loop (s0,s2,s9,Aa,Ab,Ac,Ai,Dr,Do,Ds,()) (k96 (r0.a0,r0.a1,r0.a2,())):=
 ⟨⟨fun((s0q,s2q,s9q,Al,Ap,Aq,B0,Di,Dj,Dk,()):Int×(List Int)×Int×Int×Int×Int×Int×Int×Int×Int×Unit)=>(s0=s0q/\s2=s2q/\Aa=Al/\Ab=Ap/\Ac=Aq/\Ai=B0)/\inv s9q Di Dj Dk,fun((_,_,s9q,_,_,_,_,Di,Dj,Dk,()):Int×(List Int)×Int×Int×Int×Int×Int×Int×Int×Int×Unit)=>μ s9q Di Dj Dk,⟨⟨rfl,rfl,rfl,rfl,rfl,rfl⟩,h0⟩,fun(s0p,s2p,s9p,B7,B9,Ca,Cu,h38_0p,h38_1p,h38_2p,()) ⟨eq,hi⟩=>by
  obtain⟨rfl,rfl,rfl,rfl,rfl,rfl⟩:=eq;exact mpr_of (by kernel_rfl) ((congrArg (fun k=>kra r0 (fun((s0q,s2q,s9q,Al,Ap,Aq,B0,Di,Dj,Dk,()):Int×(List Int)×Int×Int×Int×Int×Int×Int×Int×Int×Unit)=>((s0=s0q/\s2=s2q/\Aa=Al/\Ab=Ap/\Ac=Aq/\Ai=B0)/\inv s9q Di Dj Dk)/\μ s9q Di Dj Dk<μ s9p h38_0p h38_1p h38_2p) k s0 s2 Aa Ab Ac Ai s9p h38_0p h38_1p h38_2p) (lpk4 (⟨rfl,rfl,rfl,rfl,rfl,rfl⟩:s0=s0/\s2=s2/\Aa=Aa/\Ab=Ab/\Ac=Ac/\Ai=Ai) inv (fun s9q Di Dj Dk=>μ s9q Di Dj Dk<μ s9p h38_0p h38_1p h38_2p))).mpr (hs s9p h38_0p h38_1p h38_2p hi))⟩⟩
theorem bd120:Callable Tryz.prog 120:=⟨by rw[Tryz.func120];kernel_rfl,by rw[Tryz.func120];show some _≠some _;decide⟩
theorem k11g (p0 p1:Int) (p2:List Int) (h:p0=18446744069414584321/\U64 p1/\Us p2/\p2.length<=1099511627776):kfb (p0,p1,p2,()) (((absS p1 p2).a0:Int),((absS p1 p2).a1:Int),((absS p1 p2).a2:Int),()):=by
 obtain⟨hP,h1,h2,h3⟩:=h
 subst hP
 have hp:∀s:wAA,S3 (permS s):=fun s=>by
  show S3 (rnd _ _)
  unfold rnd mixS S3
  dsimp only
  omega
 have hi:S3 (absI p1 p2):=by unfold absI S3;dsimp only;omega
 have e:IntKind.u64.wrap (p2.length:Int)=p2.length:=wu _ (by omega) (by omega)
 have em:(p1*65536%18446744069414584321+(p2.length:Int))%18446744069414584321=(absI p1 p2).a2:=rfl
 refine k19o ?_
 rw[e]
 refine⟨⟨rfl,h1,by omega⟩,⟨rfl,by omega,by omega⟩,fun h=> ?_,fun h=> ?_⟩
 ·have h:p2=[]:=by simpa using h
  refine⟨⟨rfl,?_⟩,?_⟩
  ·exact hi
  ·have:permS ⟨0,0,(p1*65536%18446744069414584321+(p2.length:Int))%18446744069414584321⟩=absS p1 p2:=by unfold absS;rw[if_pos h];rfl
   rw[this]
   exact⟨rfl,rfl,rfl⟩
 ·have h:p2≠[]:=by simpa using h
  have hv:absL p2 (absI p1 p2)=absS p1 p2:=by unfold absS;rw[if_neg h]
  rw[em]
  refine k151 (r0:=absS p1 p2) (fun i a b c=>0<=i/\i<=p2.length+1/\absL (p2.drop i.toNat) ⟨a,b,c⟩=absS p1 p2/\S3 ⟨a,b,c⟩) (fun i _ _ _=>(p2.length+2-i).toNat) ⟨by omega,by omega,hv,hi⟩ ?_
  rintro i a b c ⟨g0,g1,g2,g3⟩
  obtain⟨h3a,h3b,h3c⟩:=g3
  refine⟨fun hh=> ?_,fun hh=> ?_⟩
  ·have hh:=of_decide_eq_true hh
   have hx:=h2 _ (ix_mem p2 i g0 hh)
   rw[wi (i+1) (by omega) (by omega)]
   have fin:∀nx x y z,S3 ⟨x,y,z⟩->absL (p2.drop (i+2).toNat) (permS ⟨x,y,z⟩)=absS p1 p2->(0<=i+2/\i+2<=p2.length+1/\absL (p2.drop (i+2).toNat) (permS ⟨x,y,z⟩)=absS p1 p2/\S3 (permS ⟨x,y,z⟩)->(p2.length+2-(i+2)).toNat<(p2.length+2-i).toNat->nx ((18446744069414584321:Int),p2,(i+2:Int),(0:Int),(0:Int),(0:Int),(18446744069414584321:Int),(permS ⟨x,y,z⟩).a0,(permS ⟨x,y,z⟩).a1,(permS ⟨x,y,z⟩).a2,()))->k6t ((absS p1 p2).a0,(absS p1 p2).a1,(absS p1 p2).a2,()) nx ((18446744069414584321:Int),p2,i,(0:Int),(0:Int),(0:Int),(18446744069414584321:Int),x,y,z,()):=by
    intro nx x y z hS hv' hn
    refine k10x (r0:=absS p1 p2) ?_
    rw[wi (i+2) (by omega) (by omega)]
    exact⟨⟨rfl,hS⟩,hn ⟨by omega,by omega,hv',hp _⟩ (by omega)⟩
   have hdrop:=drop_ix p2 i g0 hh
   rw[hdrop]at g2
   refine⟨g0,hh,⟨rfl,h3a,hx⟩,fun h5=> ?_,fun h5=> ?_⟩
   ·have h5:=of_decide_eq_true h5
    have hy:=h2 _ (ix_mem p2 (i+1) (by omega) h5)
    rw[drop_ix p2 (i+1) (by omega) h5,show i+1+1=i+2 by omega]at g2
    refine⟨by omega,h5,⟨rfl,h3b,hy⟩,fin _ _ _ _ (S3m (by omega) (by omega) h3c) g2 fun k1 k2=>⟨⟨⟨rfl,rfl,rfl,rfl,rfl,rfl⟩,k1⟩,k2⟩⟩
   ·have h5:=of_decide_eq_false h5
    have ed:p2.drop (i+1).toNat=[]:=List.drop_eq_nil_of_le (by omega)
    have ed2:p2.drop (i+2).toNat=[]:=List.drop_eq_nil_of_le (by omega)
    rw[ed]at g2
    exact fin _ _ _ _ (S3m (by omega) h3b h3c) (by rw[ed2];exact g2) fun k1 k2=>⟨⟨⟨rfl,rfl,rfl,rfl,rfl,rfl⟩,k1⟩,k2⟩
  ·have hh:=of_decide_eq_false hh
   rw[List.drop_eq_nil_of_le (by omega)]at g2
   have g2:(⟨a,b,c⟩:wAA)=absS p1 p2:=g2
   rw[<-g2]
   exact⟨rfl,rfl,rfl⟩
noncomputable def koe:Con TB.den:=k29.fnR (fun x=>(fun(p0 p1:Int) (p2:List Int)=>p0=18446744069414584321/\U64 p1/\Us p2/\p2.length<=1099511627776) x.1 x.2.1 x.2.2.1) fun x=>(fun(p0 p1:Int) (p2:List Int)=>(((absS p1 p2).a0:Int),((absS p1 p2).a1:Int),((absS p1 p2).a2:Int),())) x.1 x.2.1 x.2.2.1
theorem k1aj:koe.Ok Tryz.prog TB:=Con.ok_fn k29 bd120 fun x h=>k169 (k11g x.1 x.2.1 x.2.2.1 h)
def k62:Con TB.den:=Con.mk0 99 [.one (zqu),.one (zqu),.one (zql)] [] (.one (.one (zqu))) []
abbrev k108:=CI k62
abbrev ko5:=CO k62
noncomputable def klz:Cx TB:=⟨inf,[k6e,koe],[],4,[]⟩
noncomputable def k1c1:Code:=Tryz.f99.body.getD .skip
noncomputable def k1hn:List ResultVar:=Tryz.f99.results.toList
noncomputable def k1hh (o:ko5):An TB:= .no
def khx (x:k108) (o:ko5):Prop:=WPh TB klz 16 0 k1c1 (k1hh o) (k62.st TB x) (retTQ TB klz k62 k1hn o)
theorem k1ed {x:k108} {o:ko5} (h:khx x o):k62.Snd Tryz.prog x o:=
 Con.soundH (c:=k62) (C:=klz) TBok ⟨inf_ok,(all_cons k94 (all_cons k1aj all_nil)),all_nil⟩ mix Tryz.func99 (by kernel_rfl) (by kernel_rfl) (by kernel_rfl) rfl h (OblH.ofC (X:=True) (by kernel_rfl) trivial)
theorem k1jh {p0 p1:Int} {p2:List Int} {r0:Int} (h:
(((wY.mk p0).P=18446744069414584321)/\((!true)=true->
 0=r0)/\
((!true)=false->
(p0=18446744069414584321/\U64 p1/\Us p2/\p2.length<=1099511627776)/\(absS p1 p2).a0=r0))):khx (p0,p1,p2,()) (r0,()):=WPh.of_eq (by kernel_rfl) h
theorem bd99:Callable Tryz.prog 99:=⟨by rw[Tryz.func99];kernel_rfl,by rw[Tryz.func99];show some _≠some _;decide⟩
theorem k1c0 (p0 p1:Int) (p2:List Int) (h:p0=18446744069414584321/\U64 p1/\Us p2/\p2.length<=1099511627776):khx (p0,p1,p2,()) (((hashS p1 p2):Int),()):=by
 obtain⟨hP,h1,h2,h3⟩:=h
 subst hP
 exact k1jh ⟨rfl,fun h=>by simp at h,fun _=>⟨⟨rfl,h1,h2,h3⟩,rfl⟩⟩
noncomputable def kka:Con TB.den:=k62.fnR (fun x=>(fun(p0 p1:Int) (p2:List Int)=>p0=18446744069414584321/\U64 p1/\Us p2/\p2.length<=1099511627776) x.1 x.2.1 x.2.2.1) fun x=>(fun(p0 p1:Int) (p2:List Int)=>(((hashS p1 p2):Int),())) x.1 x.2.1 x.2.2.1
theorem kwb:kka.Ok Tryz.prog TB:=Con.ok_fn k62 bd99 fun x h=>k1ed (k1c0 x.1 x.2.1 x.2.2.1 h)
def k3s:Con TB.den:=Con.mk0 83 [.one (zqu),.one (zqu)] [] (.one (.one (zqu))) []
abbrev kth:=CI k3s
abbrev kkc:=CO k3s
noncomputable def kil:Cx TB:=⟨inf,[kka],[],4,[]⟩
noncomputable def k12r:Code:=Tryz.f83.body.getD .skip
noncomputable def k1ag:List ResultVar:=Tryz.f83.results.toList
noncomputable def k196 (o:kkc):An TB:= .no
def kei (x:kth) (o:kkc):Prop:=WPh TB kil 9 0 k12r (k196 o) (k3s.st TB x) (retTQ TB kil k3s k1ag o)
theorem k15p {x:kth} {o:kkc} (h:kei x o):k3s.Snd Tryz.prog x o:=
 Con.soundH (c:=k3s) (C:=kil) TBok ⟨inf_ok,(all_cons kwb all_nil),all_nil⟩ mix Tryz.func83 (by kernel_rfl) (by kernel_rfl) (by kernel_rfl) rfl h (OblH.ofC (X:=True) (by kernel_rfl) trivial)
theorem k18s {p0 p1 r0:Int} (h:
(((18446744069414584321:Int)=18446744069414584321/\U64 (6:Int)/\Us [p0,p1]/\[p0,p1].length<=1099511627776)/\(hashS (6:Int) [p0,p1])=r0)):kei (p0,p1,()) (r0,()):=WPh.of_eq (by kernel_rfl) h
theorem bd83:Callable Tryz.prog 83:=⟨by rw[Tryz.func83];kernel_rfl,by rw[Tryz.func83];show some _≠some _;decide⟩
theorem k132 (p0 p1:Int) (h:U64 p0/\U64 p1):kei (p0,p1,()) (((hashS 6 [p0,p1]):Int),()):=by
 refine k18s ⟨⟨rfl,by decide,?_,by simp⟩,rfl⟩
 intro x hx
 simp only[List.mem_cons,List.not_mem_nil,or_false]at hx
 rcases hx with rfl|rfl
 ·exact h.1
 ·exact h.2
noncomputable def kbd:Con TB.den:=k3s.fnR (fun x=>(fun(p0 p1:Int)=>U64 p0/\U64 p1) x.1 x.2.1) fun x=>(fun(p0 p1:Int)=>(((hashS 6 [p0,p1]):Int),())) x.1 x.2.1
theorem khq:kbd.Ok Tryz.prog TB:=Con.ok_fn k3s bd83 fun x h=>k15p (k132 x.1 x.2.1 h)
def k1g:Con TB.den:=Con.mk0 105 [.agg [zqi,zqi,zql],.one (zqu)] [] (.tup [.agg [zqi,zqi,zql],.one (zqi)]) []
abbrev kos:=CI k1g
abbrev ku:=CO k1g
noncomputable def k1f:Cx TB:=⟨inf,[keb,krz,kbd],[],4,[]⟩
noncomputable def k4h:Code:=Tryz.f105.body.getD .skip
noncomputable def kan:List ResultVar:=Tryz.f105.results.toList
def k142 (o:ku):=qS TB k1f 56 0 (cB (cB (cB (cB (cB (cB k4h)))))) (.nd [] .no [] (.nd [] .no [] (.rt [.frzc 26 1 2]))) (retTQ TB k1f k1g kan o)
def k3w:Tm:=⟨[0,1,26],[.cells [zqi,zqi,zql],.cells [zqi,zqi,.full yqu],.vec yqu],[2,4,6,7,8],[.one (.ptr 0 0),.one (.ptr 1 0),.one (.row 2),.one (zqi),.one (zqu)],27⟩
def k13h (o:ku) (nx1:NX TB k3w):=qM TB 0 k3w nx1 (blockT TB 0 (k142 o))
def k7b (o:ku) (nx1:NX TB k3w) (i:HL TB.den k3w.hs):Prop:=WP TB k1f 56 0 (cA (cA (cA (cB (cB (cB (cB (cB k4h)))))))) .no (k3w.fill TB i) (k13h o nx1)
noncomputable def k12m (o:ku):An TB:= .lp [] k3w (k7b o) fun nx1=> .no
noncomputable def k123 (o:ku):An TB:= .nd [] (k12m o) [] (.nd [] .no [] (.nd [] .no [] (.rt [.frzc 26 1 2])))
noncomputable def kn0 (o:ku):An TB:= .nd [] .no [] (.nd [] .no [] (.nd [] .no [] (k123 o)))
def k14o (o:ku):=qS TB k1f 56 0 (cB (cB k4h)) (kn0 o) (retTQ TB k1f k1g kan o)
def k9n:Tm:=⟨[0,1],[.cells [zqi,zqi,zql],.cells [zqi,zqi,.full yqu]],[1,2,4,15],[.one (zqu),.one (.ptr 0 0),.one (.ptr 1 0),.one (.d (.bool))],2⟩
def kkt (o:ku) (i:HL TB.den k9n.hs):Prop:=ghs TB [] (k9n.fill TB i) fun s=>WP TB k1f 56 0 (cB (cA (cB k4h))) .no s (k14o o)
structure k7g (o:ku) (i:HL TB.den k9n.hs):Prop where
 h:kkt o i
noncomputable def k10f (o:ku):An TB:= .nd [] (.jn k9n (k7g o) [] .no [] .no) [] (kn0 o)
noncomputable def kn5 (o:ku):An TB:= .nd [] .no [] (k10f o)
def kcy (x:kos) (o:ku):Prop:=WPh TB k1f 56 0 k4h (kn5 o) (k1g.st TB x) (retTQ TB k1f k1g kan o)
theorem k114 (o:ku):OblH TB k1f 56 0 k4h (kn5 o) (retTQ TB k1f k1g kan o):=
 OblH.ofC (X:=((∀i,(k7g o) i=kkt o i)/\(∀nx i,(k7b o) nx i=(k7b o) nx i)/\(∀nx1:NX TB k3w,True)/\True)) (by kernel_rfl) ⟨fun _=>propext ⟨fun h=>h.1,fun h=>⟨h⟩⟩,fun _ _=>rfl,fun _=>trivial,trivial⟩
theorem k117 {x:kos} {o:ku} (h:kcy x o):k1g.Snd Tryz.prog x o:=
 Con.soundH (c:=k1g) (C:=k1f) TBok ⟨inf_ok,(all_cons kol (all_cons k1dp (all_cons khq all_nil))),all_nil⟩ mix Tryz.func105 (by kernel_rfl) (by kernel_rfl) (by kernel_rfl) rfl h (k114 o)
theorem k12i {p0:wC} {p1:Int} {r0:wC} {r1:Int} (h:
((FV p0)/\((!true)=true->
 k7g (r0.wD,r0.wh,r0.wq,r1,()) (p1,true,p0.wD,p0.wh,p0.wq,(0:Int),(0:Int),(([]:List Int):List Int),()))/\
((!true)=false->
 k7g (r0.wD,r0.wh,r0.wq,r1,()) (p1,(decide (18446744069414584321<=p1):Bool),p0.wD,p0.wh,p0.wq,(0:Int),(0:Int),(([]:List Int):List Int),())))):kcy (p0.wD,p0.wh,p0.wq,p1,()) (r0.wD,r0.wh,r0.wq,r1,()):=WPh.of_eq (by kernel_rfl) h
theorem kvn {r0:wC} {r1 s1:Int} {s15:Bool} {Aa Ab:Int} {Ac:List Int} {Ai Aj:Int} {Ak:List Int} (h:
((s15=true->
 0=r0.wD/\0=r0.wh/\([]:List Int)=r0.wq/\1=r1)/\
(s15=false->
(0<=Aa)/\((Ab==(ishl .i64 1 Aa))=true->
 0=r0.wD/\0=r0.wh/\([]:List Int)=r0.wq/\16=r1)/\
((Ab==(ishl .i64 1 Aa))=false->
(Ac.length<=4294967295)/\(Ac.length=Ac.length)/\Md.Loop ((0:Int),s1,Aa,Ab,Ac,Ai,Aj,Ak,Ac,()) (k7b (r0.wD,r0.wh,r0.wq,r1,())))))):k7g (r0.wD,r0.wh,r0.wq,r1,()) (s1,s15,Aa,Ab,Ac,Ai,Aj,Ak,()):=⟨mpr_of (by kernel_rfl) h⟩
def kmm (r0:wC) (r1:Int) (k1:Int->Int->List Int->Prop) (Aa Ab:Int) (Ac:List Int) (Ai Aj:Int) (Ak:List Int) (s7 s8:Int) (g26:List Int):Prop:=
(0<=s7)/\(((iand .i64 (ishr .i64 Ab s7) 1)==1)=true->
(0<=s7/\s7<(g26.length:Int))/\(0<=s7/\s7<(g26.length:Int))/\(U64 (ix g26 s7)/\U64 s8)/\(0<=s7/\s7<(g26.length:Int))/\(0<=s7/\s7<(g26.length:Int))/\(g26.length=(g26.set s7.toNat 0).length)/\k1 (IntKind.i64.wrap (s7+1):Int) ((hashS 6 [(ix g26 s7),s8]):Int) (g26.set s7.toNat 0:List Int))/\
(((iand .i64 (ishr .i64 Ab s7) 1)==1)=false->
(0<=s7/\s7<(g26.length:Int))/\(0<=s7/\s7<(g26.length:Int))/\(g26.length=(g26.set s7.toNat s8).length)/\Aa=r0.wD/\IntKind.i64.wrap (Ab+1)=r0.wh/\g26.set s7.toNat s8=r0.wq/\0=r1)
theorem k10t {r0:wC} {r1 Aa Ab:Int} {Ac:List Int} {Ai Aj:Int} {Ak:List Int} {s7 s8:Int} {g26:List Int} (inv:Int->Int->List Int->Prop) (μ:Int->Int->List Int->Nat) (h0:inv s7 s8 g26) (hs:∀(s7 s8:Int) (g26:List Int),inv s7 s8 g26->kmm r0 r1 (fun s7q s8q g26q=>inv s7q s8q g26q/\μ s7q s8q g26q<μ s7 s8 g26) Aa Ab Ac Ai Aj Ak s7 s8 g26):Md.Loop (s7,s8,Aa,Ab,Ac,Ai,Aj,Ak,g26,()) (k7b (r0.wD,r0.wh,r0.wq,r1,())):=
 ⟨⟨fun((s7q,s8q,Al,Ap,Aq,B0,B2,B3,g26q,()):Int×Int×Int×Int×(List Int)×Int×Int×(List Int)×(List Int)×Unit)=>(Aa=Al/\Ab=Ap/\Ac=Aq/\Ai=B0/\Aj=B2/\Ak=B3)/\inv s7q s8q g26q,fun((s7q,s8q,_,_,_,_,_,_,g26q,()):Int×Int×Int×Int×(List Int)×Int×Int×(List Int)×(List Int)×Unit)=>μ s7q s8q g26q,⟨⟨rfl,rfl,rfl,rfl,rfl,rfl⟩,h0⟩,fun(s7p,s8p,B7,B9,Ca,Cu,De,Df,g26p,()) ⟨eq,hi⟩=>by
  obtain⟨rfl,rfl,rfl,rfl,rfl,rfl⟩:=eq;exact mpr_of (by kernel_rfl) ((congrArg (fun k=>kmm r0 r1 k Aa Ab Ac Ai Aj Ak s7p s8p g26p) (lpk3 (⟨rfl,rfl,rfl,rfl,rfl,rfl⟩:Aa=Aa/\Ab=Ab/\Ac=Ac/\Ai=Ai/\Aj=Aj/\Ak=Ak) inv (fun s7q s8q g26q=>μ s7q s8q g26q<μ s7p s8p g26p))).mpr (hs s7p s8p g26p hi))⟩⟩
theorem bd105:Callable Tryz.prog 105:=⟨by rw[Tryz.func105];kernel_rfl,by rw[Tryz.func105];show some _≠some _;decide⟩
theorem ky4 (p0:wC) (p1:Int) (h:FV p0/\p0.wh<((2^p0.wD.toNat:Nat):Int)/\0<=p1/\p1<18446744069414584321):kcy (p0.wD,p0.wh,p0.wq,p1,()) (((apF p0 p1).wD:Int),((apF p0 p1).wh:Int),((apF p0 p1).wq:List Int),(0:Int),()):=by
 obtain⟨hv,hc,hx0,hx1⟩:=h
 obtain⟨d1,d2,c0,c1,ll,u,z⟩:=id hv
 obtain⟨d,hd⟩:=Int.eq_ofNat_of_zero_le (show 0<=p0.wD by omega)
 obtain⟨n,hn⟩:=Int.eq_ofNat_of_zero_le c0
 have hdn:p0.wD.toNat=d:=by omega
 have hp:=pow12 d (by omega)
 rw[hdn]at c1 ll hc
 have hnd:n<2^d:=by omega
 have hbd:=k1wf hnd
 refine k12i (r0:=apF p0 p1) ⟨hv,fun e=>(by cases e),fun _=> ?_⟩
 refine kvn (r0:=apF p0 p1) ⟨fun e=>(by have:=of_decide_eq_true e;omega),fun _=>⟨by omega,?_⟩⟩
 rw[hd,shl1 d (by omega),hn]
 have hne:¬(n:Int)=((2^d:Nat):Int):=by omega
 refine⟨fun e=>(hne (by simpa using e)).elim,fun _=>⟨by omega,rfl,?_⟩⟩
 refine k10t (r0:=apF p0 p1) (fun a x g=>∃i:Nat,a=(i:Int)/\i<=d/\g.length=d+1/\(∀y∈g,0<=y/\y<18446744069414584321)/\(0<=x/\x<18446744069414584321)/\carry (d+1-i) i g x n=carry (d+1) 0 p0.wq p1 n) (fun a _ _=>(d-a).toNat) ⟨0,rfl,by omega,ll,u,⟨hx0,hx1⟩,rfl⟩ ?_
 rintro _ x g ⟨i,rfl,hi,hgl,hgu,hx,hcy⟩
 have hs:i<g.length:=by omega
 have hgx:=hgu _ (List.getElem_mem hs)
 generalize hR:carry (d+1) 0 p0.wq p1 n=R at hcy
 rw[show d+1-i=d-i+1 by omega]at hcy
 unfold carry at hcy
 have hbit:=bit1 n i (by omega) (by omega)
 refine⟨by omega,fun e=> ?_,fun e=> ?_⟩
 ·have e2:((n/2^i%2:Nat):Int)=1:=by rw[hbit]at e;simpa using e
  have hb:bitN n i=true:=by unfold bitN;generalize n/2^i%2=q at *;simp;omega
  have hid:i<d:=by
   rcases Nat.lt_or_ge i d with h1|h1
   ·exact h1
   ·have:i=d:=by omega
    subst this
    rw[hbd]at hb
    cases hb
  rw[if_pos hb]at hcy
  rw[inc_i64 _ (by omega),Int.toNat_natCast]
  refine⟨⟨by omega,by omega⟩,⟨by omega,by omega⟩,?_,⟨by omega,by omega⟩,⟨by omega,by omega⟩,by simp,⟨i+1,rfl,by omega,by simp[hgl],?_,⟨(kmp _ _).1,kpy _ _⟩,?_⟩,by omega⟩
  ·rw[ix_get _ _ hs]
   exact⟨⟨hgx.1,by omega⟩,hx.1,by omega⟩
  ·intro y hy
   rcases List.mem_or_eq_of_mem_set hy with hy|rfl
   ·exact hgu y hy
   ·decide
  ·rw[show d+1-(i+1)=d-i by omega]
   exact hcy
 ·have e2:¬((n/2^i%2:Nat):Int)=1:=by rw[hbit]at e;simpa using e
  have hb:¬bitN n i=true:=by unfold bitN;generalize n/2^i%2=q at *;simp;omega
  rw[if_neg hb]at hcy
  rw[Int.toNat_natCast]
  refine⟨⟨by omega,by omega⟩,⟨by omega,by omega⟩,by simp,hd.symm,?_,?_,by first|exact rfl|exact True.intro⟩
  ·rw[inc_i64 _ (by omega)]
   show _=p0.wh+1
   omega
  ·show _=carry (p0.wD.toNat+1) 0 p0.wq p1 p0.wh.toNat
   rw[hdn,hn,Int.toNat_natCast,hR]
   exact hcy
noncomputable def kks:Con TB.den:=k1g.fnR (fun(a0,a1,a2,a3,())=>(fun(p0:wC) (p1:Int)=>FV p0/\p0.wh<((2^p0.wD.toNat:Nat):Int)/\0<=p1/\p1<18446744069414584321) (wC.mk a0 a1 a2) a3) fun(a0,a1,a2,a3,())=>(fun(p0:wC) (p1:Int)=>(((apF p0 p1).wD:Int),((apF p0 p1).wh:Int),((apF p0 p1).wq:List Int),(0:Int),())) (wC.mk a0 a1 a2) a3
theorem k149:kks.Ok Tryz.prog TB:=Con.ok_fn k1g bd105 fun(a0,a1,a2,a3,()) h=>k117 (ky4 (wC.mk a0 a1 a2) a3 h)
def k3n:Con TB.den:=Con.mk0 106 [.one (zqu),.one (zqu)] [] (.one (.one (.d (.bool)))) []
abbrev kpr:=CI k3n
abbrev khz:=CO k3n
noncomputable def kgu:Cx TB:=⟨inf,[],[],4,[]⟩
noncomputable def k11b:Code:=Tryz.f106.body.getD .skip
noncomputable def k16k:List ResultVar:=Tryz.f106.results.toList
noncomputable def k16o (o:khz):An TB:= .no
def kdt (x:kpr) (o:khz):Prop:=WPh TB kgu 13 0 k11b (k16o o) (k3n.st TB x) (retTQ TB kgu k3n k16k o)
theorem k11f {x:kpr} {o:khz} (h:kdt x o):k3n.Snd Tryz.prog x o:=
 Con.soundH (c:=k3n) (C:=kgu) TBok ⟨inf_ok,all_nil,all_nil⟩ mix Tryz.func106 (by kernel_rfl) (by kernel_rfl) (by kernel_rfl) rfl h (OblH.ofC (X:=True) (by kernel_rfl) trivial)
theorem k15v {p0 p1:Int} {r0:Bool} (h:
((decide (9223372036854775807<p0)=true->
 true=r0)/\
(decide (9223372036854775807<p0)=false->
 let v1:Int:=IntKind.u64.wrap (9223372036854775807-p0)
 decide (v1<p1)=r0))):kdt (p0,p1,()) (r0,()):=WPh.of_eq (by kernel_rfl) h
theorem bd106:Callable Tryz.prog 106:=⟨by rw[Tryz.func106];kernel_rfl,by rw[Tryz.func106];show some _≠some _;decide⟩
theorem k10u (p0 p1:Int) (h:0<=p0/\p0<=9223372036854775807):kdt (p0,p1,()) (((decide (9223372036854775807-p0<p1)):Bool),()):=by
 refine k15v ⟨fun e=> ?_,fun e=> ?_⟩
 ·have:=of_decide_eq_true e;omega
 ·rw[wrap_u64 _ (by omega) (by omega)]
noncomputable def kmr:Con TB.den:=k3n.fnR (fun x=>(fun(p0 p1:Int)=>0<=p0/\p0<=9223372036854775807) x.1 x.2.1) fun x=>(fun(p0 p1:Int)=>(((decide (9223372036854775807-p0<p1)):Bool),())) x.1 x.2.1
theorem k16z:kmr.Ok Tryz.prog TB:=Con.ok_fn k3n bd106 fun x h=>k11f (k10u x.1 x.2.1 h)
def k41:Con TB.den:=Con.mk0 91 [.agg [.d (.sl (.st 8))],.one (zqu),.one (zqu)] [] (.tup [.agg [.d (.sl (.st 8))],.one (zqi)]) []
abbrev ktg:=CI k41
abbrev kj3:=CO k41
noncomputable def ki5:Cx TB:=⟨inf,[kfh,kmr,klu],[],4,[]⟩
noncomputable def k13v:Code:=Tryz.f91.body.getD .skip
noncomputable def k1av:List ResultVar:=Tryz.f91.results.toList
noncomputable def k1bv (o:kj3):An TB:= .no
def kf5 (x:ktg) (o:kj3):Prop:=WPh TB ki5 28 0 k13v (k1bv o) (k41.st TB x) (retTQ TB ki5 k41 k1av o)
theorem k16t {x:ktg} {o:kj3} (h:kf5 x o):k41.Snd Tryz.prog x o:=
 Con.soundH (c:=k41) (C:=ki5) TBok ⟨inf_ok,(all_cons ko4 (all_cons k16z (all_cons kzx all_nil))),all_nil⟩ mix Tryz.func91 (by kernel_rfl) (by kernel_rfl) (by kernel_rfl) rfl h (OblH.ofC (X:=True) (by kernel_rfl) trivial)
theorem k19x {p0:wg} {p1 p2:Int} {r0:wg} {r1:Int} (h:
((Srt p0.wB/\p0.wB.length<4611686018427387904)/\(0<=((getA p0.wB p1).wX)/\((getA p0.wB p1).wX)<=9223372036854775807)/\let r2:Bool:=(decide (9223372036854775807-((getA p0.wB p1).wX)<p2))
(r2=true->
([]:List wA)=r0.wB/\1=r1)/\
(r2=false->
 let v3:Int:=IntKind.u64.wrap (((getA p0.wB p1).wX)+p2)
(Srt p0.wB/\p0.wB.length<=1000)/\let r4:List wA:=(putA p0.wB (wA.mk p1 v3 ((getA p0.wB p1).wO)))
 r4=r0.wB/\0=r1))):kf5 (p0.wB,p1,p2,()) (r0.wB,r1,()):=WPh.of_eq (by kernel_rfl) h
theorem bd91:Callable Tryz.prog 91:=⟨by rw[Tryz.func91];kernel_rfl,by rw[Tryz.func91];show some _≠some _;decide⟩
theorem k11w (p0:wg) (p1 p2:Int) (h:OkA p0.wB/\U64 p2):kf5 (p0.wB,p1,p2,()) (((creditA p0.wB p1 p2).1:List wA),(((creditA p0.wB p1 p2).2):Int),()):=by
 obtain⟨h,ha,ha'⟩:=h
 obtain⟨g1,g2⟩:=getA_ok h p1
 refine k19x (r0:=⟨(creditA p0.wB p1 p2).1⟩) ⟨⟨h.1,by have:=h.2.1;omega⟩,g1,fun hh=> ?_,fun hh=> ?_⟩
 ·have:=of_decide_eq_true hh
  simp[creditA,this]
 ·have:=of_decide_eq_false hh
  simp only[creditA,if_neg this]
  rw[wrap_u64 _ (by omega) (by omega)]
  exact⟨⟨h.1,h.2.1⟩,rfl,by first|exact rfl|exact True.intro⟩
noncomputable def kge:Con TB.den:=k41.fnR (fun x=>(fun(p0:wg) (p1 p2:Int)=>OkA p0.wB/\U64 p2) (wg.mk x.1) x.2.1 x.2.2.1) fun x=>(fun(p0:wg) (p1 p2:Int)=>(((creditA p0.wB p1 p2).1:List wA),(((creditA p0.wB p1 p2).2):Int),())) (wg.mk x.1) x.2.1 x.2.2.1
theorem kqd:kge.Ok Tryz.prog TB:=Con.ok_fn k41 bd91 fun x h=>k16t (k11w (wg.mk x.1) x.2.1 x.2.2.1 h)
end Go.Proofs.YtlfcebhnjkcmnaaGreat
end
