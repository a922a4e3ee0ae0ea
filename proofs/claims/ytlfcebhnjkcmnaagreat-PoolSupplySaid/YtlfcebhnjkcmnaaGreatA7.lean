/-
  Parts of the proofs that the laws of this seat hold of every input, merged by a program: a machine over pure data that is sound for the model, what each function of the translation does in it, and plain lemmas. No conditions but those in each theorem.
-/
import Derived.Test.YtlfcebhnjkcmnaaGreatA6
set_option linter.all false
set_option maxRecDepth 100000
noncomputable section
namespace Go.Proofs.YtlfcebhnjkcmnaaGreat
open Go Go.Bv Go.Cv Go.Md Go.RowKit
def k5c:Con TB.den:=Con.mk0 51 [.one (.d (.sl (.st 8))),.one (zqu),.one (zqu),.one (zqu)] [] (.tup [.one (.d (.sl (.st 8))),.one (zqi)]) []
abbrev k17p:=CI k5c
abbrev k74:=CO k5c
noncomputable def k7x:Cx TB:=⟨inf,[kul,kuj],[],4,[]⟩
noncomputable def kfg:Code:=Tryz.f51.body.getD .skip
noncomputable def ks0:List ResultVar:=Tryz.f51.results.toList
def k1sj (o:k74):=qS TB k7x 43 0 (cB (cB (cB kfg))) .no (retTQ TB k7x k5c ks0 o)
def khn:Tm:=⟨[0],[.cells [zqu,zqu,zqu]],[0,2,10,17],[.one (.d (.sl (.st 8))),.one (zqu),.one (.ptr 0 0),.one (.d (.bool))],1⟩
def kz3 (o:k74) (i:HL TB.den khn.hs):Prop:=ghs TB [] (khn.fill TB i) fun s=>WP TB k7x 43 0 (cB (cB (cB (cA (cA (cB (cB kfg))))))) .no s (blockT TB 0 (k1sj o))
structure kbm (o:k74) (i:HL TB.den khn.hs):Prop where
 h:kz3 o i
noncomputable def k1st (o:k74):An TB:= .nd [] .no [] (.jn khn (kbm o) [] .no [] .no)
noncomputable def k1qq (o:k74):An TB:= .nd [] .no [] (.nd [] (.nd [] .no [] (k1st o)) [] .no)
noncomputable def k145 (o:k74):An TB:= .nd [] .no [] (k1qq o)
def klj (x:k17p) (o:k74):Prop:=WPh TB k7x 43 0 kfg (k145 o) (k5c.st TB x) (retTQ TB k7x k5c ks0 o)
theorem k1l6 (o:k74):OblH TB k7x 43 0 kfg (k145 o) (retTQ TB k7x k5c ks0 o):=
 OblH.ofC (X:=((∀i,(kbm o) i=kz3 o i)/\True)) (by kernel_rfl) ⟨fun _=>propext ⟨fun h=>h.1,fun h=>⟨h⟩⟩,trivial⟩
theorem k1mh {x:k17p} {o:k74} (h:klj x o):k5c.Snd Tryz.prog x o:=
 Con.soundH (c:=k5c) (C:=k7x) TBok ⟨inf_ok,(all_cons k1em (all_cons k1ev all_nil)),all_nil⟩ mix Tryz.func51 (by kernel_rfl) (by kernel_rfl) (by kernel_rfl) rfl h (k1l6 o)
theorem k1r8 {p0:List wA} {p1 p2 p3:Int} {r0:List wA} {r1:Int} (h:
((p0.length<=1001)/\((p2==0)=true->
([]:List wA)=r0/\1=r1)/\
((p2==0)=false->
((p3 !=((getA p0 p1).wO))=true->
 kbm (r0,r1,()) (p0,p2,true,((getA p0 p1).ID:Int),((getA p0 p1).wX:Int),((getA p0 p1).wO:Int),()))/\
((p3 !=((getA p0 p1).wO))=false->
 kbm (r0,r1,()) (p0,p2,((p3==18446744073709551615):Bool),((getA p0 p1).ID:Int),((getA p0 p1).wX:Int),((getA p0 p1).wO:Int),()))))):klj (p0,p1,p2,p3,()) (r0,r1,()):=WPh.of_eq (by kernel_rfl) h
theorem k1eu {r0:List wA} {r1:Int} {s0:List wA} {s2:Int} {s17:Bool} {Aa Ab Ac:Int} (h:
((s17=true->
([]:List wA)=r0/\20=r1)/\
(s17=false->
(decide (Ab<s2)=true->
([]:List wA)=r0/\15=r1)/\
(decide (Ab<s2)=false->
(Srt s0/\s0.length<=1000/\0<=(wA.mk Aa (IntKind.u64.wrap (Ab-s2)) (IntKind.u64.wrap (Ac+1))).wX/\0<=(wA.mk Aa (IntKind.u64.wrap (Ab-s2)) (IntKind.u64.wrap (Ac+1))).wO)/\let r2:List wA:=(putA s0 (wA.mk Aa (IntKind.u64.wrap (Ab-s2)) (IntKind.u64.wrap (Ac+1))))
 r2=r0/\0=r1)))):kbm (r0,r1,()) (s0,s2,s17,Aa,Ab,Ac,()):=⟨mpr_of (by kernel_rfl) h⟩
theorem bd51:Callable Tryz.prog 51:=⟨by rw[Tryz.func51];kernel_rfl,by rw[Tryz.func51];show some _≠some _;decide⟩
theorem k1ig (p0:List wA) (p1 p2 p3:Int) (h:OkA p0/\U64 p2/\U64 p3):klj (p0,p1,p2,p3,()) ((((debitA p0 p1 p2 p3).1):List wA),(((debitA p0 p1 p2 p3).2):Int),()):=by
 obtain⟨h,⟨ha,ha'⟩,hn,hn'⟩:=h
 obtain⟨g1,g2⟩:=getA_ok h p1
 refine k1r8 ⟨by have:=h.2.1;omega,fun hh=> ?_,fun hh=> ?_⟩
 ·have:p2=0:=by simpa using hh
  simp[debitA,this]
 have h0:p2≠0:=by simpa using hh
 have key:∀b:Bool,(b=true↔(p3≠(getA p0 p1).wO∨p3=18446744073709551615))->kbm ((debitA p0 p1 p2 p3).1,(debitA p0 p1 p2 p3).2,()) (p0,p2,b,(getA p0 p1).ID,(getA p0 p1).wX,(getA p0 p1).wO,()):=by
  intro b hb
  refine k1eu ⟨fun e=> ?_,fun e=> ?_⟩
  ·simp only[debitA,if_neg h0,if_pos (hb.1 e)]
   exact⟨by first|exact rfl|exact True.intro,by first|exact rfl|exact True.intro⟩
  ·have h1:¬(p3≠(getA p0 p1).wO∨p3=18446744073709551615):=fun hh=>by rw[hb.2 hh]at e;cases e
   simp only[debitA,if_neg h0,if_neg h1]
   refine⟨fun hh=> ?_,fun hh=> ?_⟩
   ·have:=of_decide_eq_true hh
    simp[this]
   ·have h2:=of_decide_eq_false hh
    simp only[if_neg h2]
    have h3:p3≠18446744073709551615:=fun e=>h1 (.inr e)
    have h4:p3=(getA p0 p1).wO:=Classical.byContradiction fun e=>h1 (.inl e)
    rw[wrap_u64 _ (by omega) (by omega),wrap_u64 ((getA p0 p1).wO+1) (by omega) (by omega),getA_id,h4]
    exact⟨⟨h.1,h.2.1,by first|omega|(simp only;omega),by first|omega|(simp only;omega)⟩,rfl,by first|exact rfl|exact True.intro⟩
 refine⟨fun e=>key _ ?_,fun e=>key _ ?_⟩
 ·have:p3≠(getA p0 p1).wO:=by simpa using e
  simp[this]
 ·have:p3=(getA p0 p1).wO:=by simpa using e
  rw[this];simp
noncomputable def knp:Con TB.den:=k5c.fnR (fun(a0,a1,a2,a3,())=>(fun(p0:List wA) (p1 p2 p3:Int)=>OkA p0/\U64 p2/\U64 p3) a0 a1 a2 a3) fun(a0,a1,a2,a3,())=>(fun(p0:List wA) (p1 p2 p3:Int)=>((((debitA p0 p1 p2 p3).1):List wA),(((debitA p0 p1 p2 p3).2):Int),())) a0 a1 a2 a3
theorem k14d:knp.Ok Tryz.prog TB:=Con.ok_fn k5c bd51 fun(a0,a1,a2,a3,()) h=>k1mh (k1ig a0 a1 a2 a3 h)
def k7p:Con TB.den:=Con.mk0 77 [.agg [zqu,zqu]] [] (.one (.one (.d (.bool)))) []
abbrev k17l:=CI k7p
abbrev ku6:=CO k7p
noncomputable def kqi:Cx TB:=⟨inf,[],[],4,[]⟩
noncomputable def k1gw:Code:=Tryz.f77.body.getD .skip
noncomputable def k1qb:List ResultVar:=Tryz.f77.results.toList
noncomputable def k1oq (o:ku6):An TB:= .no
def kls (x:k17l) (o:ku6):Prop:=WPh TB kqi 21 0 k1gw (k1oq o) (k7p.st TB x) (retTQ TB kqi k7p k1qb o)
theorem k1o1 {x:k17l} {o:ku6} (h:kls x o):k7p.Snd Tryz.prog x o:=
 Con.soundH (c:=k7p) (C:=kqi) TBok ⟨inf_ok,all_nil,all_nil⟩ mix Tryz.func77 (by kernel_rfl) (by kernel_rfl) (by kernel_rfl) rfl h (OblH.ofC (X:=True) (by kernel_rfl) trivial)
theorem k1r0 {p0:wAW} {r0:Bool} (h:
((decide (p0.a0<18446744069414584321)=true->
(decide (p0.a1<18446744069414584321)=true->
(decide (0<p0.a0)=true->
 true=r0)/\
(decide (0<p0.a0)=false->
 decide (0<p0.a1)=r0))/\
(decide (p0.a1<18446744069414584321)=false->
 false=r0))/\
(decide (p0.a0<18446744069414584321)=false->
 false=r0))):kls (p0.a0,p0.a1,()) (r0,()):=WPh.of_eq (by kernel_rfl) h
theorem bd77:Callable Tryz.prog 77:=⟨by rw[Tryz.func77];kernel_rfl,by rw[Tryz.func77];show some _≠some _;decide⟩
theorem k1ho (p0:wAW) (h:0<=p0.a0/\0<=p0.a1):kls (p0.a0,p0.a1,()) (((vPoint p0.a0 p0.a1):Bool),()):=by
 refine k1r0 ?_
 unfold vPoint
 repeat' (apply And.intro<;>intro h)
 all_goals grind
noncomputable def kzo:Con TB.den:=k7p.fnR (fun x=>(fun(p0:wAW)=>0<=p0.a0/\0<=p0.a1) (wAW.mk x.1 x.2.1)) fun x=>(fun(p0:wAW)=>(((vPoint p0.a0 p0.a1):Bool),())) (wAW.mk x.1 x.2.1)
theorem k1rv:kzo.Ok Tryz.prog TB:=Con.ok_fn k7p bd77 fun x h=>k1o1 (k1ho (wAW.mk x.1 x.2.1) h)
def k3g:Con TB.den:=Con.mk0 76 [.one (zql)] [] (.one (.one (.d (.bool)))) []
abbrev kyk:=CI k3g
abbrev k87:=CO k3g
noncomputable def k63:Cx TB:=⟨inf,[],[],4,[]⟩
noncomputable def kcq:Code:=Tryz.f76.body.getD .skip
noncomputable def kkv:List ResultVar:=Tryz.f76.results.toList
def k1hg (o:k87):=qS TB k63 15 0 (cB (cB kcq)) .no (retTQ TB k63 k3g kkv o)
def k92:Tm:=⟨[],[],[0,3],[.one (zql),.one (zqi)],0⟩
def kcd (o:k87) (nx1:NX TB k92) (i:HL TB.den k92.hs):Prop:=WP TB k63 15 0 (cA (cA (cB (cA (cB kcq))))) .no (k92.fill TB i) (qM TB 0 k92 nx1 (blockT TB 0 (k1hg o)))
noncomputable def k1ic (o:k87):An TB:= .nd [] .no [] (.lp [] k92 (kcd o) fun nx1=> .no)
noncomputable def kvx (o:k87):An TB:= .nd [] .no [] (.nd [] (k1ic o) [] .no)
def kin (x:kyk) (o:k87):Prop:=WPh TB k63 15 0 kcq (kvx o) (k3g.st TB x) (retTQ TB k63 k3g kkv o)
theorem k1d6 (o:k87):OblH TB k63 15 0 kcq (kvx o) (retTQ TB k63 k3g kkv o):=
 OblH.ofC (X:=((∀nx i,(kcd o) nx i=(kcd o) nx i)/\(∀nx1:NX TB k92,True)/\True)) (by kernel_rfl) ⟨fun _ _=>rfl,fun _=>trivial,trivial⟩
theorem k1gh {x:kyk} {o:k87} (h:kin x o):k3g.Snd Tryz.prog x o:=
 Con.soundH (c:=k3g) (C:=k63) TBok ⟨inf_ok,all_nil,all_nil⟩ mix Tryz.func76 (by kernel_rfl) (by kernel_rfl) (by kernel_rfl) rfl h (k1d6 o)
theorem k1gj {p0:List Int} {r0:Bool} (h:
(Md.Loop (p0,(0:Int),()) (kcd (r0,())))):kin (p0,()) (r0,()):=WPh.of_eq (by kernel_rfl) h
def kwc (r0:Bool) (k1:Int->Prop) (s0:List Int) (s3:Int):Prop:=
(decide (s3<(s0.length:Int))=true->
(0<=s3)/\s3<(s0.length:Int)/\let v1:Bool:=decide (18446744069414584321<=(ix s0 s3))
(v1=true->
 false=r0)/\
(v1=false->
 k1 (IntKind.i64.wrap (s3+1):Int)))/\
(decide (s3<(s0.length:Int))=false->
 true=r0)
theorem k1ek {r0:Bool} {s0:List Int} {s3:Int} (inv:Int->Prop) (μ:Int->Nat) (h0:inv s3) (hs:∀(s3:Int),inv s3->kwc r0 (fun s3q=>inv s3q/\μ s3q<μ s3) s0 s3):Md.Loop (s0,s3,()) (kcd (r0,())):=
 ⟨⟨fun((s0q,s3q,()):(List Int)×Int×Unit)=>(s0=s0q)/\inv s3q,fun((_,s3q,()):(List Int)×Int×Unit)=>μ s3q,⟨rfl,h0⟩,fun(s0p,s3p,()) ⟨eq,hi⟩=>by
  obtain rfl:=eq;exact mpr_of (by kernel_rfl) ((congrArg (fun k=>kwc r0 k s0 s3p) (lpk1 (rfl:s0=s0) inv (fun s3q=>μ s3q<μ s3p))).mpr (hs s3p hi))⟩⟩
theorem bd76:Callable Tryz.prog 76:=⟨by rw[Tryz.func76];kernel_rfl,by rw[Tryz.func76];show some _≠some _;decide⟩
theorem k18p (p0:List Int) (h:p0.length<=9223372036854775807):kin (p0,()) (((p0.all (fun x=>decide (x<18446744069414584321))):Bool),()):=by
 refine k1gj (k1ek (fun i=>0<=i/\i<=p0.length/\∀x∈p0.take i.toNat,x<18446744069414584321) (fun i=>(p0.length-i).toNat) ⟨by omega,by omega,by simp⟩ ?_)
 rintro i ⟨g0,g1,g2⟩
 refine⟨fun hh=> ?_,fun hh=> ?_⟩
 ·have hh:=of_decide_eq_true hh
  refine⟨g0,hh,fun e=> ?_,fun e=> ?_⟩
  ·have e:=of_decide_eq_true e
   exact(List.all_eq_false.2 ⟨_,ix_mem p0 i g0 hh,by simp;omega⟩).symm
  ·have e:=of_decide_eq_false e
   rw[inc i p0.length g0 hh (by omega)]
   refine⟨⟨by omega,by omega,?_⟩,by omega⟩
   rw[k1q p0 i g0 hh]
   intro x hx
   rcases List.mem_append.1 hx with hx|hx
   ·exact g2 x hx
   ·have:x=ix p0 i:=by simpa using hx
    omega
 ·have hh:=of_decide_eq_false hh
  rw[List.take_of_length_le (by omega)]at g2
  symm
  simpa using g2
noncomputable def ksw:Con TB.den:=k3g.fnR (fun x=>(fun(p0:List Int)=>p0.length<=9223372036854775807) x.1) fun x=>(fun(p0:List Int)=>(((p0.all (fun x=>decide (x<18446744069414584321))):Bool),())) x.1
theorem k1ib:ksw.Ok Tryz.prog TB:=Con.ok_fn k3g bd76 fun x h=>k1gh (k18p x.1 h)
def k2n:Con TB.den:=Con.mk0 49 [.agg [zqu,zql,.d (.sl (.st 1)),zqu,zqu,zqu,zqu,zqu,zqi,.d (.sl yqb)]] [] (.one (.one (zqi))) []
abbrev k17x:=CI k2n
abbrev k17:=CO k2n
noncomputable def k1h:Cx TB:=⟨inf,[ksw,kzo],[],4,[]⟩
noncomputable def k3d:Code:=Tryz.f49.body.getD .skip
noncomputable def kc7:List ResultVar:=Tryz.f49.results.toList
def kda:Tm:=⟨[0],[.cells [zqu,zql,.d (.sl (.st 1)),zqu,zqu,zqu,zqu,zqu,zqi,.d (.sl yqb)]],[1],[.one (.ptr 0 0)],2⟩
def kz8 (o:k17) (i:HL TB.den kda.hs):Prop:=ghs TB [] (kda.fill TB i) fun s=>WP TB k1h 149 0 (cB (cB (cB (cB (cB (cB k3d)))))) .no s (retTQ TB k1h k2n kc7 o)
structure k7r (o:k17) (i:HL TB.den kda.hs):Prop where
 h:kz8 o i
def khh:Tm:=⟨[0],[.cells [zqu,zql,.d (.sl (.st 1)),zqu,zqu,zqu,zqu,zqu,zqi,.d (.sl yqb)]],[1],[.one (.ptr 0 0)],2⟩
def kzn (o:k17) (i:HL TB.den khh.hs):Prop:=ghs TB [] (khh.fill TB i) fun s=>WP TB k1h 149 0 (cB (cB (cB (cB (cB k3d))))) (.jn kda (k7r o) [] .no [] .no) s (retTQ TB k1h k2n kc7 o)
structure kbr (o:k17) (i:HL TB.den khh.hs):Prop where
 h:kzn o i
noncomputable def krf (o:k17):An TB:= .jn khh (kbr o) [] .no [] (.jn kda (k7r o) [] .no [] .no)
def k1so (o:k17):=qS TB k1h 149 0 (cB (cB (cB (cB k3d)))) (krf o) (retTQ TB k1h k2n kc7 o)
def kbp:Tm:=⟨[0],[.cells [zqu,zql,.d (.sl (.st 1)),zqu,zqu,zqu,zqu,zqu,zqi,.d (.sl yqb)]],[1,5],[.one (.ptr 0 0),.one (zqi)],2⟩
def kem (o:k17) (nx3:NX TB kbp) (i:HL TB.den kbp.hs):Prop:=WP TB k1h 149 0 (cA (cA (cB (cA (cB (cB (cB k3d))))))) .no (kbp.fill TB i) (qM TB 0 kbp nx3 (blockT TB 4 (k1so o)))
noncomputable def k11e (o:k17):An TB:= .nd [] .no [] (.lp [] kbp (kem o) fun nx3=> .no)
def kzk (o:k17):=qS TB k1h 149 0 (cB (cB (cB k3d))) (.nd [] (k11e o) [] (krf o)) (retTQ TB k1h k2n kc7 o)
def k21:Tm:=⟨[0],[.cells [zqu,zql,.d (.sl (.st 1)),zqu,zqu,zqu,zqu,zqu,zqi,.d (.sl yqb)]],[1,3],[.one (.ptr 0 0),.one (zqi)],2⟩
def k1my (o:k17) (nx2:NX TB k21):=qS TB k1h 149 0 (cB (cB (cA (cA (cB (cA (cB (cB k3d)))))))) .no (qM TB 0 k21 nx2 (blockT TB 0 (kzk o)))
def k9k:Tm:=⟨[0],[.cells [zqu,zql,.d (.sl (.st 1)),zqu,zqu,zqu,zqu,zqu,zqi,.d (.sl yqb)]],[1,3,4],[.one (.ptr 0 0),.one (zqi),.one (zqi)],2⟩
def k1nh (o:k17) (nx2:NX TB k21) (nx1:NX TB k9k):=qM TB 0 k9k nx1 (blockT TB 2 (blockT TB 1 (k1my o nx2)))
def kff (o:k17) (nx2:NX TB k21) (nx1:NX TB k9k) (i:HL TB.den k9k.hs):Prop:=WP TB k1h 149 0 (cA (cA (cB (cA (cA (cB (cA (cA (cB (cA (cB (cB k3d)))))))))))) .no (k9k.fill TB i) (k1nh o nx2 nx1)
noncomputable def k100 (o:k17) (nx2:NX TB k21):An TB:= .nd [] .no [] (.lp [] k9k (kff o nx2) fun nx1=> .no)
def ke7 (o:k17) (nx2:NX TB k21) (i:HL TB.den k21.hs):Prop:=WP TB k1h 149 0 (cA (cA (cB (cA (cB (cB k3d)))))) (.nd [] .no [] (.nd [] (k100 o nx2) [] .no)) (k21.fill TB i) (qM TB 0 k21 nx2 (blockT TB 0 (kzk o)))
noncomputable def k1nz (o:k17):An TB:= .lp [] k21 (ke7 o) fun nx2=>(.nd [] .no [] (.nd [] (k100 o nx2) [] .no))
noncomputable def k1n3 (o:k17):An TB:= .nd [] (.nd [] .no [] (k1nz o)) [] (.nd [] (k11e o) [] (krf o))
noncomputable def k12f (o:k17):An TB:= .nd [] .no [] (.nd [] .no [] (k1n3 o))
def km2 (x:k17x) (o:k17):Prop:=WPh TB k1h 149 0 k3d (k12f o) (k2n.st TB x) (retTQ TB k1h k2n kc7 o)
theorem k1mm (o:k17):OblH TB k1h 149 0 k3d (k12f o) (retTQ TB k1h k2n kc7 o):=
 OblH.ofC (X:=((∀nx i,(ke7 o) nx i=(ke7 o) nx i)/\(∀nx2:NX TB k21,((∀nx i,(kff o nx2) nx i=(kff o nx2) nx i)/\(∀nx1:NX TB k9k,True)/\True))/\(∀nx i,(kem o) nx i=(kem o) nx i)/\(∀nx3:NX TB kbp,True)/\(∀i,(kbr o) i=kzn o i)/\(∀i,(k7r o) i=kz8 o i)/\True)) (by kernel_rfl) ⟨fun _ _=>rfl,fun _=>⟨fun _ _=>rfl,fun _=>trivial,trivial⟩,fun _ _=>rfl,fun _=>trivial,fun _=>propext ⟨fun h=>h.1,fun h=>⟨h⟩⟩,fun _=>propext ⟨fun h=>h.1,fun h=>⟨h⟩⟩,trivial⟩
theorem k1le {x:k17x} {o:k17} (h:km2 x o):k2n.Snd Tryz.prog x o:=
 Con.soundH (c:=k2n) (C:=k1h) TBok ⟨inf_ok,(all_cons k1ib (all_cons k1rv all_nil)),all_nil⟩ mix Tryz.func49 (by kernel_rfl) (by kernel_rfl) (by kernel_rfl) rfl h (k1mm o)
theorem k1op {p0:wm} {r0:Int} (h:
((decide (4<(p0.wE.length:Int))=true->
 1=r0)/\
(decide (4<(p0.wE.length:Int))=false->
(decide (4<(p0.wT.length:Int))=true->
 1=r0)/\
(decide (4<(p0.wT.length:Int))=false->
(p0.wE.length<=9223372036854775807)/\let r1:Bool:=(p0.wE.all (fun x=>decide (x<18446744069414584321)))
((!r1)=true->
 1=r0)/\
((!r1)=false->
([p0.wy,p0.we,p0.wO].length<=9223372036854775807)/\let r2:Bool:=([p0.wy,p0.we,p0.wO].all (fun x=>decide (x<18446744069414584321)))
((!r2)=true->
 1=r0)/\
((!r2)=false->
 Md.Loop ((0:Int),p0.wy,p0.wE,p0.wT,p0.wV,p0.wZ,p0.Fee,p0.we,p0.wO,p0.wx,p0.wAD,()) (ke7 (r0,())))))))):km2 (p0.wy,p0.wE,p0.wT,p0.wV,p0.wZ,p0.Fee,p0.we,p0.wO,p0.wx,p0.wAD,()) (r0,()):=WPh.of_eq (by kernel_rfl) h
theorem k1e9 {r0 Aa:Int} {Ab:List Int} {Ac:List ww} {Am Ar Ao Av Aw Au:Int} {Bg:List Int} (h:
(((Am==0)=true->
((Aw !=0)=true->
 1=r0)/\
((Aw !=0)=false->
(((Ab.length:Int)==0)=true->
 1=r0)/\
(((Ab.length:Int)==0)=false->
((Ar==0)=true->
((Av !=0)=true->
 1=r0)/\
((Av !=0)=false->
 k7r (r0,()) (Aa,Ab,Ac,Am,Ar,Ao,Av,Aw,Au,Bg,())))/\
((Ar==0)=false->
 k7r (r0,()) (Aa,Ab,Ac,Am,Ar,Ao,Av,Aw,Au,Bg,())))))/\
((Am==0)=false->
 k7r (r0,()) (Aa,Ab,Ac,Am,Ar,Ao,Av,Aw,Au,Bg,())))):kbr (r0,()) (Aa,Ab,Ac,Am,Ar,Ao,Av,Aw,Au,Bg,()):=⟨mpr_of (by kernel_rfl) h⟩
theorem k1eo {r0 Aa:Int} {Ab:List Int} {Ac:List ww} {Am Ar Ao Av Aw Au:Int} {Bg:List Int} (h:
((decide (Au<0)=true->
 1=r0)/\
(decide (Au<0)=false->
(decide (1048576<Au)=true->
 1=r0)/\
(decide (1048576<Au)=false->
(decide (1048576<(Bg.length:Int))=true->
 3=r0)/\
(decide (1048576<(Bg.length:Int))=false->
 0=r0))))):k7r (r0,()) (Aa,Ab,Ac,Am,Ar,Ao,Av,Aw,Au,Bg,()):=⟨mpr_of (by kernel_rfl) h⟩
def k134 (r0:Int) (nx2:NX TB k21) (k2:Int->Prop) (Aa:Int) (Ab:List Int) (Ac:List ww) (Am Ar Ao Av Aw Au:Int) (Bg:List Int) (s3:Int):Prop:=
(decide (s3<(Ab.length:Int))=true->
 Md.Loop (s3,(0:Int),Aa,Ab,Ac,Am,Ar,Ao,Av,Aw,Au,Bg,()) (kff (r0,()) nx2))/\
(decide (s3<(Ab.length:Int))=false->
 Md.Loop ((0:Int),Aa,Ab,Ac,Am,Ar,Ao,Av,Aw,Au,Bg,()) (kem (r0,())))
theorem k1n5 {r0 Aa:Int} {Ab:List Int} {Ac:List ww} {Am Ar Ao Av Aw Au:Int} {Bg:List Int} {s3:Int} (inv:Int->Prop) (μ:Int->Nat) (h0:inv s3) (hs:∀(s3:Int),inv s3->k134 r0 (fun((s3q,Al,Ap,Aq,Ce,Cg,Ch,Ci,Cj,Ck,Cd,()):Int×Int×(List Int)×(List ww)×Int×Int×Int×Int×Int×Int×(List Int)×Unit)=>((Aa=Al/\Ab=Ap/\Ac=Aq/\Am=Ce/\Ar=Cg/\Ao=Ch/\Av=Ci/\Aw=Cj/\Au=Ck/\Bg=Cd)/\inv s3q)/\μ s3q<μ s3) (fun s3q=>inv s3q/\μ s3q<μ s3) Aa Ab Ac Am Ar Ao Av Aw Au Bg s3):Md.Loop (s3,Aa,Ab,Ac,Am,Ar,Ao,Av,Aw,Au,Bg,()) (ke7 (r0,())):=
 ⟨⟨fun((s3q,Al,Ap,Aq,Ce,Cg,Ch,Ci,Cj,Ck,Cd,()):Int×Int×(List Int)×(List ww)×Int×Int×Int×Int×Int×Int×(List Int)×Unit)=>(Aa=Al/\Ab=Ap/\Ac=Aq/\Am=Ce/\Ar=Cg/\Ao=Ch/\Av=Ci/\Aw=Cj/\Au=Ck/\Bg=Cd)/\inv s3q,fun((s3q,_,_,_,_,_,_,_,_,_,_,()):Int×Int×(List Int)×(List ww)×Int×Int×Int×Int×Int×Int×(List Int)×Unit)=>μ s3q,⟨⟨rfl,rfl,rfl,rfl,rfl,rfl,rfl,rfl,rfl,rfl⟩,h0⟩,fun(s3p,B7,B9,Ca,Dy,D3,D4,Ee,Ef,Eg,Dz,()) ⟨eq,hi⟩=>by
  obtain⟨rfl,rfl,rfl,rfl,rfl,rfl,rfl,rfl,rfl,rfl⟩:=eq;exact mpr_of (by kernel_rfl) ((congrArg (fun k=>k134 r0 (fun((s3q,Al,Ap,Aq,Ce,Cg,Ch,Ci,Cj,Ck,Cd,()):Int×Int×(List Int)×(List ww)×Int×Int×Int×Int×Int×Int×(List Int)×Unit)=>((Aa=Al/\Ab=Ap/\Ac=Aq/\Am=Ce/\Ar=Cg/\Ao=Ch/\Av=Ci/\Aw=Cj/\Au=Ck/\Bg=Cd)/\inv s3q)/\μ s3q<μ s3p) k Aa Ab Ac Am Ar Ao Av Aw Au Bg s3p) (lpk1 (⟨rfl,rfl,rfl,rfl,rfl,rfl,rfl,rfl,rfl,rfl⟩:Aa=Aa/\Ab=Ab/\Ac=Ac/\Am=Am/\Ar=Ar/\Ao=Ao/\Av=Av/\Aw=Aw/\Au=Au/\Bg=Bg) inv (fun s3q=>μ s3q<μ s3p))).mpr (hs s3p hi))⟩⟩
def k148 (r0:Int) (nx2:NX TB k21) (k1:Int->Prop) (s3 Aa:Int) (Ab:List Int) (Ac:List ww) (Am Ar Ao Av Aw Au:Int) (Bg:List Int) (s4:Int):Prop:=
(decide (s4<s3)=true->
(0<=s3)/\s3<(Ab.length:Int)/\(0<=s4)/\s4<(Ab.length:Int)/\(((ix Ab s3)==(ix Ab s4))=true->
 1=r0)/\
(((ix Ab s3)==(ix Ab s4))=false->
 k1 (IntKind.i64.wrap (s4+1):Int)))/\
(decide (s4<s3)=false->
 nx2 ((IntKind.i64.wrap (s3+1):Int),Aa,Ab,Ac,Am,Ar,Ao,Av,Aw,Au,Bg,()))
theorem k1nu {r0:Int} {nx2:NX TB k21} {s3 Aa:Int} {Ab:List Int} {Ac:List ww} {Am Ar Ao Av Aw Au:Int} {Bg:List Int} {s4:Int} (inv:Int->Prop) (μ:Int->Nat) (h0:inv s4) (hs:∀(s4:Int),inv s4->k148 r0 nx2 (fun s4q=>inv s4q/\μ s4q<μ s4) s3 Aa Ab Ac Am Ar Ao Av Aw Au Bg s4):Md.Loop (s3,s4,Aa,Ab,Ac,Am,Ar,Ao,Av,Aw,Au,Bg,()) (kff (r0,()) nx2):=
 ⟨⟨fun((s3q,s4q,Al,Ap,Aq,Ce,Cg,Ch,Ci,Cj,Ck,Cd,()):Int×Int×Int×(List Int)×(List ww)×Int×Int×Int×Int×Int×Int×(List Int)×Unit)=>(s3=s3q/\Aa=Al/\Ab=Ap/\Ac=Aq/\Am=Ce/\Ar=Cg/\Ao=Ch/\Av=Ci/\Aw=Cj/\Au=Ck/\Bg=Cd)/\inv s4q,fun((_,s4q,_,_,_,_,_,_,_,_,_,_,()):Int×Int×Int×(List Int)×(List ww)×Int×Int×Int×Int×Int×Int×(List Int)×Unit)=>μ s4q,⟨⟨rfl,rfl,rfl,rfl,rfl,rfl,rfl,rfl,rfl,rfl,rfl⟩,h0⟩,fun(s3p,s4p,B7,B9,Ca,Dy,D3,D4,Ee,Ef,Eg,Dz,()) ⟨eq,hi⟩=>by
  obtain⟨rfl,rfl,rfl,rfl,rfl,rfl,rfl,rfl,rfl,rfl,rfl⟩:=eq;exact mpr_of (by kernel_rfl) ((congrArg (fun k=>k148 r0 nx2 k s3 Aa Ab Ac Am Ar Ao Av Aw Au Bg s4p) (lpk1 (⟨rfl,rfl,rfl,rfl,rfl,rfl,rfl,rfl,rfl,rfl,rfl⟩:s3=s3/\Aa=Aa/\Ab=Ab/\Ac=Ac/\Am=Am/\Ar=Ar/\Ao=Ao/\Av=Av/\Aw=Aw/\Au=Au/\Bg=Bg) inv (fun s4q=>μ s4q<μ s4p))).mpr (hs s4p hi))⟩⟩
def k13q (r0:Int) (k3:Int->Prop) (Aa:Int) (Ab:List Int) (Ac:List ww) (Am Ar Ao Av Aw Au:Int) (Bg:List Int) (s5:Int):Prop:=
(decide (s5<(Ac.length:Int))=true->
(0<=s5)/\s5<(Ac.length:Int)/\let v3:Bool:=decide (18446744069414584321<=((ix Ac s5).wz))
(v3=true->
 1=r0)/\
(v3=false->
(0<=(wAW.mk ((ix Ac s5).wAF) ((ix Ac s5).wAE)).a0/\0<=(wAW.mk ((ix Ac s5).wAF) ((ix Ac s5).wAE)).a1)/\let r4:Bool:=(vPoint (wAW.mk ((ix Ac s5).wAF) ((ix Ac s5).wAE)).a0 (wAW.mk ((ix Ac s5).wAF) ((ix Ac s5).wAE)).a1)
((!r4)=true->
 1=r0)/\
((!r4)=false->
 let v5:Bool:=((((ix Ac s5).wAB).length:Int) !=3)
(v5=true->
 1=r0)/\
(v5=false->
(((ix Ac s5).wAB).length<=9223372036854775807)/\let r6:Bool:=(((ix Ac s5).wAB).all (fun x=>decide (x<18446744069414584321)))
((!r6)=true->
 1=r0)/\
((!r6)=false->
 k3 (IntKind.i64.wrap (s5+1):Int))))))/\
(decide (s5<(Ac.length:Int))=false->
(decide (4294967295<Am)=true->
 1=r0)/\
(decide (4294967295<Am)=false->
(decide (4294967295<Ar)=true->
 1=r0)/\
(decide (4294967295<Ar)=false->
(decide (4294967295<Ao)=true->
 1=r0)/\
(decide (4294967295<Ao)=false->
(decide (0<Am)=true->
(decide (0<Ar)=true->
 1=r0)/\
(decide (0<Ar)=false->
 kbr (r0,()) (Aa,Ab,Ac,Am,Ar,Ao,Av,Aw,Au,Bg,())))/\
(decide (0<Am)=false->
 kbr (r0,()) (Aa,Ab,Ac,Am,Ar,Ao,Av,Aw,Au,Bg,()))))))
theorem k1lr {r0 Aa:Int} {Ab:List Int} {Ac:List ww} {Am Ar Ao Av Aw Au:Int} {Bg:List Int} {s5:Int} (inv:Int->Prop) (μ:Int->Nat) (h0:inv s5) (hs:∀(s5:Int),inv s5->k13q r0 (fun s5q=>inv s5q/\μ s5q<μ s5) Aa Ab Ac Am Ar Ao Av Aw Au Bg s5):Md.Loop (s5,Aa,Ab,Ac,Am,Ar,Ao,Av,Aw,Au,Bg,()) (kem (r0,())):=
 ⟨⟨fun((s5q,Al,Ap,Aq,Ce,Cg,Ch,Ci,Cj,Ck,Cd,()):Int×Int×(List Int)×(List ww)×Int×Int×Int×Int×Int×Int×(List Int)×Unit)=>(Aa=Al/\Ab=Ap/\Ac=Aq/\Am=Ce/\Ar=Cg/\Ao=Ch/\Av=Ci/\Aw=Cj/\Au=Ck/\Bg=Cd)/\inv s5q,fun((s5q,_,_,_,_,_,_,_,_,_,_,()):Int×Int×(List Int)×(List ww)×Int×Int×Int×Int×Int×Int×(List Int)×Unit)=>μ s5q,⟨⟨rfl,rfl,rfl,rfl,rfl,rfl,rfl,rfl,rfl,rfl⟩,h0⟩,fun(s5p,B7,B9,Ca,Dy,D3,D4,Ee,Ef,Eg,Dz,()) ⟨eq,hi⟩=>by
  obtain⟨rfl,rfl,rfl,rfl,rfl,rfl,rfl,rfl,rfl,rfl⟩:=eq;exact mpr_of (by kernel_rfl) ((congrArg (fun k=>k13q r0 k Aa Ab Ac Am Ar Ao Av Aw Au Bg s5p) (lpk1 (⟨rfl,rfl,rfl,rfl,rfl,rfl,rfl,rfl,rfl,rfl⟩:Aa=Aa/\Ab=Ab/\Ac=Ac/\Am=Am/\Ar=Ar/\Ao=Ao/\Av=Av/\Aw=Aw/\Au=Au/\Bg=Bg) inv (fun s5q=>μ s5q<μ s5p))).mpr (hs s5p hi))⟩⟩
theorem bd49:Callable Tryz.prog 49:=⟨by rw[Tryz.func49];kernel_rfl,by rw[Tryz.func49];show some _≠some _;decide⟩
theorem k1ha (p0:wm) (h:TR p0/\TL p0):km2 (p0.wy,p0.wE,p0.wT,p0.wV,p0.wZ,p0.Fee,p0.we,p0.wO,p0.wx,p0.wAD,()) (((validE p0):Int),()):=by
 obtain⟨hr,hl⟩:=h
 have e3:[p0.wy,p0.we,p0.wO].all (fun x=>decide (x<18446744069414584321))=(decide (p0.wy<18446744069414584321)&&(decide (p0.we<18446744069414584321)&&decide (p0.wO<18446744069414584321))):=by simp
 have bad:(vMarks p0.wE&&vOuts p0.wT&&vAmounts p0&&vRest p0)=false->1=validE p0:=by intro h;unfold validE;rw[h];rfl
 have badM:vMarks p0.wE=false->1=validE p0:=fun h=>bad (by rw[h];rfl)
 have badO:vOuts p0.wT=false->1=validE p0:=fun h=>bad (by rw[h];simp)
 have badA:vAmounts p0=false->1=validE p0:=fun h=>bad (by rw[h];simp)
 have badR:vRest p0=false->1=validE p0:=fun h=>bad (by rw[h];simp)
 refine k1op ⟨fun h=>badM ?_,fun h=>⟨fun h2=>badO ?_,fun h2=>⟨by have:=hl.m;omega,fun h3=>badM ?_,fun h3=>⟨by simp,fun h4=> ?_,fun h4=> ?_⟩⟩⟩⟩
 ·have h:=of_decide_eq_true h
  unfold vMarks
  rw[decide_eq_false (by omega)]
  rfl
 ·have h2:=of_decide_eq_true h2
  unfold vOuts
  rw[decide_eq_false (by omega)]
  rfl
 ·have h3:p0.wE.all (fun x=>decide (x<18446744069414584321))=false:=by simpa using h3
  unfold vMarks
  rw[h3]
  simp
 ·rw[e3]at h4
  have:vAmounts p0=false∨vRest p0=false:=by
   unfold vAmounts vRest
   grind
  exact this.elim badA badR
 have h:=of_decide_eq_false h
 have h2:=of_decide_eq_false h2
 have h3:p0.wE.all (fun x=>decide (x<18446744069414584321))=true:=by simpa using h3
 have h4:[p0.wy,p0.we,p0.wO].all (fun x=>decide (x<18446744069414584321))=true:=by
  cases hq:[p0.wy,p0.we,p0.wO].all (fun x=>decide (x<18446744069414584321))
  ·rw[hq]at h4;simp at h4
  ·rfl
 rw[e3]at h4
 simp only[Bool.and_eq_true,decide_eq_true_eq]at h4
 obtain⟨a1,a2,a3⟩:=h4
 refine k1n5 (fun i=>0<=i/\i<=p0.wE.length/\(p0.wE.take i.toNat).Nodup) (fun i=>(p0.wE.length-i).toNat) ⟨by omega,by omega,by simp⟩ ?_
 rintro i ⟨g0,g1,g2⟩
 refine⟨fun hh=> ?_,fun hh=> ?_⟩
 ·have hh:=of_decide_eq_true hh
  refine k1nu (fun k=>0<=k/\k<=i/\∀x∈p0.wE.take k.toNat,x≠ix p0.wE i) (fun k=>(i-k).toNat) ⟨by omega,by omega,by simp⟩ ?_
  rintro k ⟨k0,k1,k2⟩
  refine⟨fun hk=> ?_,fun hk=> ?_⟩
  ·have hk:=of_decide_eq_true hk
   refine⟨g0,hh,k0,by omega,fun e=>badM ?_,fun e=> ?_⟩
   ·have e:ix p0.wE i=ix p0.wE k:=by simpa using e
    have:¬p0.wE.Nodup:=by
     intro hn
     rw[ix_nat _ i g0 hh,ix_nat _ k k0 (by omega)]at e
     have:=(List.getElem_inj hn).1 e
     omega
    unfold vMarks
    rw[decide_eq_false this]
    simp
   ·have e:¬ix p0.wE i=ix p0.wE k:=by simpa using e
    rw[inc k i k0 hk (by omega)]
    refine⟨⟨by omega,by omega,?_⟩,by omega⟩
    rw[k1q p0.wE k k0 (by omega)]
    intro x hx
    rcases List.mem_append.1 hx with hx|hx
    ·exact k2 x hx
    ·have:x=ix p0.wE k:=by simpa using hx
     rw[this];exact fun e' =>e e'.symm
  ·have hk:=of_decide_eq_false hk
   have hki:k=i:=by omega
   subst hki
   have nxt:(0<=k+1/\k+1<=p0.wE.length/\(p0.wE.take (k+1).toNat).Nodup)/\(p0.wE.length-(k+1)).toNat<(p0.wE.length-k).toNat:=by
    refine⟨⟨by omega,by omega,?_⟩,by omega⟩
    rw[k1q p0.wE k g0 hh]
    refine List.nodup_append.2 ⟨g2,by simp,fun a ha b hb=> ?_⟩
    have:b=ix p0.wE k:=by simpa using hb
    rw[this];exact k2 a ha
   have hi:=inc k p0.wE.length g0 hh (by omega)
   rw[hi]
   exact⟨⟨⟨rfl,rfl,rfl,rfl,rfl,rfl,rfl,rfl,rfl,rfl⟩,nxt.1⟩,nxt.2⟩
 ·have hh:=of_decide_eq_false hh
  rw[List.take_of_length_le (by omega)]at g2
  have vm:vMarks p0.wE=true:=by
   unfold vMarks
   rw[h3,decide_eq_true g2,decide_eq_true (by omega)]
   rfl
  have j2:vOuts p0.wT=true->vAmounts p0=true->k7r ((validE p0:Int),()) (p0.wy,p0.wE,p0.wT,p0.wV,p0.wZ,p0.Fee,p0.we,p0.wO,p0.wx,p0.wAD,()):=by
   intro vo va
   refine k1eo ⟨fun e=>badR ?_,fun e=>⟨fun e2=>badR ?_,fun e2=> ?_⟩⟩
   ·have e:=of_decide_eq_true e
    unfold vRest
    rw[decide_eq_false (p:=0<=p0.wx) (by omega)]
    simp
   ·have e2:=of_decide_eq_true e2
    unfold vRest
    rw[decide_eq_false (p:=p0.wx<=1048576) (by omega)]
    simp
   ·have e:=of_decide_eq_false e
    have e2:=of_decide_eq_false e2
    have vr:vRest p0=true:=by
     unfold vRest
     rw[decide_eq_true a1,decide_eq_true (p:=0<=p0.wx) (by omega),decide_eq_true (p:=p0.wx<=1048576) (by omega)]
     rfl
    unfold validE
    rw[vm,vo,va,vr]
    refine⟨fun e=> ?_,fun e=> ?_⟩
    ·have e:=of_decide_eq_true e
     simp;omega
    ·have e:=of_decide_eq_false e
     simp;omega
  have j1:vOuts p0.wT=true->p0.wV<=4294967295->p0.wZ<=4294967295->p0.Fee<=4294967295->(0<p0.wV->p0.wZ=0)->kbr ((validE p0:Int),()) (p0.wy,p0.wE,p0.wT,p0.wV,p0.wZ,p0.Fee,p0.we,p0.wO,p0.wx,p0.wAD,()):=by
   intro vo d1 d2 d3 d4
   have hd:=hr.d
   have hw:=hr.w
   have fA:¬(p0.wV<=4294967295/\p0.wZ<=4294967295/\p0.Fee<=4294967295/\p0.we<18446744069414584321/\p0.wO<18446744069414584321/\(0<p0.wV->p0.wZ=0)/\(¬0<p0.wV->p0.wE≠[]/\p0.wO=0/\(0<p0.wZ∨p0.we=0)))->1=validE p0:=fun h=>badA (Bool.eq_false_iff.2 fun h' =>h ((kbh p0).1 h'))
   refine k1e9 ⟨fun e=>⟨fun e2=>fA ?_,fun e2=>⟨fun e3=>fA ?_,fun e3=>⟨fun e4=>⟨fun e5=>fA ?_,fun e5=>j2 vo ((kbh p0).2 ?_)⟩,fun e4=>j2 vo ((kbh p0).2 ?_)⟩⟩⟩,fun e=>j2 vo ((kbh p0).2 ?_)⟩
   all_goals simp only[beq_iff_eq,bne_iff_ne,beq_eq_false_iff_ne,bne_eq_false_iff_eq,Int.natCast_eq_zero,List.length_eq_zero_iff]at *
   ·exact fun h=>by have:=h.2.2.2.2.2.2 (by omega);omega
   ·exact fun h=>(h.2.2.2.2.2.2 (by omega)).1 e3
   ·exact fun h=>by have:=(h.2.2.2.2.2.2 (by omega)).2.2;omega
   ·exact⟨d1,d2,d3,a2,a3,d4,fun _=>⟨fun hq=>e3 (by rw[hq];rfl),e2,.inr e5⟩⟩
   ·exact⟨d1,d2,d3,a2,a3,d4,fun _=>⟨fun hq=>e3 (by rw[hq];rfl),e2,.inl (by omega)⟩⟩
   ·exact⟨d1,d2,d3,a2,a3,d4,fun h=>by omega⟩
  refine k1lr (fun i=>0<=i/\i<=p0.wT.length/\∀x∈p0.wT.take i.toNat,vOut x=true) (fun i=>(p0.wT.length-i).toNat) ⟨by omega,by omega,by simp⟩ ?_
  rintro i ⟨g0,g1,g2⟩
  refine⟨fun hh=> ?_,fun hh=> ?_⟩
  ·have hh:=of_decide_eq_true hh
   have hx:=hr.o _ (ix_mem p0.wT i g0 hh)
   have hlc:=hl.c _ (ix_mem p0.wT i g0 hh)
   have bd:vOut (ix p0.wT i)=false->1=validE p0:=by
    intro hb
    refine badO ?_
    unfold vOuts
    have:p0.wT.all vOut=false:=List.all_eq_false.2 ⟨_,ix_mem p0.wT i g0 hh,by simp[hb]⟩
    rw[this]
    simp
   unfold vOut at bd
   refine⟨g0,hh,fun e=>bd ?_,fun e=>⟨⟨hx.p0.1,hx.p1.1⟩,fun e2=>bd ?_,fun e2=>⟨fun e3=>bd ?_,fun e3=>⟨by omega,fun e4=>bd ?_,fun e4=> ?_⟩⟩⟩⟩
   ·have e:=of_decide_eq_true e
    rw[decide_eq_false (by omega)]
    rfl
   ·have e2:vPoint (ix p0.wT i).wAF (ix p0.wT i).wAE=false:=by simpa using e2
    simp[e2]
   ·have e3:¬((ix p0.wT i).wAB.length:Int)=3:=by simpa using e3
    have e3:¬(ix p0.wT i).wAB.length=3:=by omega
    simp[e3]
   ·have e4:(ix p0.wT i).wAB.all (fun x=>decide (x<18446744069414584321))=false:=by
     cases hq:(ix p0.wT i).wAB.all (fun x=>decide (x<18446744069414584321))
     ·rfl
     ·rw[hq]at e4;simp at e4
    rw[e4]
    simp
   ·have e:=of_decide_eq_false e
    have e2:vPoint (ix p0.wT i).wAF (ix p0.wT i).wAE=true:=by simpa using e2
    have e3:((ix p0.wT i).wAB.length:Int)=3:=by simpa using e3
    have e4:(ix p0.wT i).wAB.all (fun x=>decide (x<18446744069414584321))=true:=by
     cases hq:(ix p0.wT i).wAB.all (fun x=>decide (x<18446744069414584321))
     ·rw[hq]at e4;simp at e4
     ·rfl
    have hv:vOut (ix p0.wT i)=true:=(kpp _).2 ⟨by omega,e2,by omega,by simpa using e4⟩
    rw[inc i p0.wT.length g0 hh (by omega)]
    refine⟨⟨by omega,by omega,?_⟩,by omega⟩
    rw[k1q p0.wT i g0 hh]
    intro x hx
    rcases List.mem_append.1 hx with hx|hx
    ·exact g2 x hx
    ·have:x=ix p0.wT i:=by simpa using hx
     rw[this];exact hv
  ·have hh:=of_decide_eq_false hh
   rw[List.take_of_length_le (by omega)]at g2
   have vo:vOuts p0.wT=true:=by
    unfold vOuts
    have:p0.wT.all vOut=true:=by simpa using g2
    rw[this,decide_eq_true (by omega)]
    rfl
   have hd:=hr.d
   have hw:=hr.w
   have fA:¬(p0.wV<=4294967295/\p0.wZ<=4294967295/\p0.Fee<=4294967295/\(0<p0.wV->p0.wZ=0))->1=validE p0:=fun h=>badA (Bool.eq_false_iff.2 fun h' =>h (by have:=(kbh p0).1 h';exact⟨this.1,this.2.1,this.2.2.1,this.2.2.2.2.2.1⟩))
   refine⟨fun e=>fA ?_,fun e=>⟨fun e2=>fA ?_,fun e2=>⟨fun e3=>fA ?_,fun e3=>⟨fun e4=>⟨fun e5=>fA ?_,fun e5=>j1 vo ?_ ?_ ?_ ?_⟩,fun e4=>j1 vo ?_ ?_ ?_ ?_⟩⟩⟩⟩
   all_goals simp only[decide_eq_true_eq,decide_eq_false_iff_not]at *
   all_goals omega
noncomputable def kzw:Con TB.den:=k2n.fnR (fun(a0,a1,a2,a3,a4,a5,a6,a7,a8,a9,())=>(fun(p0:wm)=>TR p0/\TL p0) (wm.mk a0 a1 a2 a3 a4 a5 a6 a7 a8 a9)) fun(a0,a1,a2,a3,a4,a5,a6,a7,a8,a9,())=>(fun(p0:wm)=>(((validE p0):Int),())) (wm.mk a0 a1 a2 a3 a4 a5 a6 a7 a8 a9)
theorem k1ry:kzw.Ok Tryz.prog TB:=Con.ok_fn k2n bd49 fun(a0,a1,a2,a3,a4,a5,a6,a7,a8,a9,()) h=>k1le (k1ha (wm.mk a0 a1 a2 a3 a4 a5 a6 a7 a8 a9) h)
def k5t:Con TB.den:=Con.mk0 48 [.agg [zqi,zqi,zqi,zqi,zqi,zqu,zqi,zqi,zqu,zqi,zql,zql,.d (.sl (.st 8)),zqu,zql]] [] (.one (.one (zql))) []
abbrev kzs:=CI k5t
abbrev ko0:=CO k5t
noncomputable def km4:Cx TB:=⟨inf,[],[],4,[]⟩
noncomputable def k18y:Code:=Tryz.f48.body.getD .skip
noncomputable def k1j0:List ResultVar:=Tryz.f48.results.toList
noncomputable def k1gn (o:ko0):An TB:= .no
def kif (x:kzs) (o:ko0):Prop:=WPh TB km4 22 0 k18y (k1gn o) (k5t.st TB x) (retTQ TB km4 k5t k1j0 o)
theorem k1ck {x:kzs} {o:ko0} (h:kif x o):k5t.Snd Tryz.prog x o:=
 Con.soundH (c:=k5t) (C:=km4) TBok ⟨inf_ok,all_nil,all_nil⟩ mix Tryz.func48 (by kernel_rfl) (by kernel_rfl) (by kernel_rfl) rfl h (OblH.ofC (X:=True) (by kernel_rfl) trivial)
theorem k1jf {p0:wj} {r0:List Int} (h:
(let v1:Bool:=decide ((p0.wn.length:Int)<=p0.wM)
(v1=true->
 p0.wn=r0)/\
(v1=false->
 let v2:Int:=IntKind.i64.wrap ((p0.wn.length:Int)-p0.wM)
(0<=v2)/\v2<=(p0.wn.length:Int)/\p0.wn.drop v2.toNat=r0))):kif (p0.wb,p0.wR,p0.wL,p0.wJ,p0.wG,p0.wQ,p0.wM,p0.wP,p0.wc,p0.wU,p0.wo,p0.wE,p0.wB,p0.wv,p0.wn,()) (r0,()):=WPh.of_eq (by kernel_rfl) h
theorem bd48:Callable Tryz.prog 48:=⟨by rw[Tryz.func48];kernel_rfl,by rw[Tryz.func48];show some _≠some _;decide⟩
theorem k1bt (p0:wj) (h:(1<=p0.wM/\p0.wM<=100)/\p0.wn.length<=1000000):kif (p0.wb,p0.wR,p0.wL,p0.wJ,p0.wG,p0.wQ,p0.wM,p0.wP,p0.wc,p0.wU,p0.wo,p0.wE,p0.wB,p0.wv,p0.wn,()) (((ancL p0.wn p0.wM):List Int),()):=by
 obtain⟨⟨h1,h2⟩,h3⟩:=h
 refine k1jf ⟨fun e=> ?_,fun e=> ?_⟩
 ·have e:=of_decide_eq_true e
  unfold ancL
  rw[show p0.wn.length-p0.wM.toNat=0 by omega]
  rfl
 ·have e:=of_decide_eq_false e
  rw[k1i _ (by omega) (by omega)]
  refine⟨by omega,by omega,?_⟩
  unfold ancL
  rw[show((p0.wn.length:Int)-p0.wM).toNat=p0.wn.length-p0.wM.toNat by omega]
noncomputable def ksr:Con TB.den:=k5t.fnR (fun(a0,a1,a2,a3,a4,a5,a6,a7,a8,a9,a10,a11,a12,a13,a14,())=>(fun(p0:wj)=>(1<=p0.wM/\p0.wM<=100)/\p0.wn.length<=1000000) (wj.mk a0 a1 a2 a3 a4 a5 a6 a7 a8 a9 a10 a11 a12 a13 a14)) fun(a0,a1,a2,a3,a4,a5,a6,a7,a8,a9,a10,a11,a12,a13,a14,())=>(fun(p0:wj)=>(((ancL p0.wn p0.wM):List Int),())) (wj.mk a0 a1 a2 a3 a4 a5 a6 a7 a8 a9 a10 a11 a12 a13 a14)
theorem k1jq:ksr.Ok Tryz.prog TB:=Con.ok_fn k5t bd48 fun(a0,a1,a2,a3,a4,a5,a6,a7,a8,a9,a10,a11,a12,a13,a14,()) h=>k1ck (k1bt (wj.mk a0 a1 a2 a3 a4 a5 a6 a7 a8 a9 a10 a11 a12 a13 a14) h)
def k76:Con TB.den:=Con.mk0 50 [.one (zql),.one (zqu)] [] (.one (.one (.d (.bool)))) []
abbrev k1kk:=CI k76
abbrev keu:=CO k76
noncomputable def kaa:Cx TB:=⟨inf,[],[],4,[]⟩
noncomputable def kjx:Code:=Tryz.f50.body.getD .skip
noncomputable def kxe:List ResultVar:=Tryz.f50.results.toList
def k1wk (o:keu):=qS TB kaa 18 0 (cB (cB kjx)) .no (retTQ TB kaa k76 kxe o)
def kfj:Tm:=⟨[],[],[0,1,5],[.one (zql),.one (zqu),.one (zqi)],0⟩
def kj2 (o:keu) (nx1:NX TB kfj) (i:HL TB.den kfj.hs):Prop:=WP TB kaa 18 0 (cA (cA (cB (cA (cB kjx))))) .no (kfj.fill TB i) (qM TB 0 kfj nx1 (blockT TB 0 (k1wk o)))
noncomputable def k1vi (o:keu):An TB:= .nd [] .no [] (.lp [] kfj (kj2 o) fun nx1=> .no)
noncomputable def k1fe (o:keu):An TB:= .nd [] .no [] (.nd [] (k1vi o) [] .no)
def kre (x:k1kk) (o:keu):Prop:=WPh TB kaa 18 0 kjx (k1fe o) (k76.st TB x) (retTQ TB kaa k76 kxe o)
theorem k1tr (o:keu):OblH TB kaa 18 0 kjx (k1fe o) (retTQ TB kaa k76 kxe o):=
 OblH.ofC (X:=((∀nx i,(kj2 o) nx i=(kj2 o) nx i)/\(∀nx1:NX TB kfj,True)/\True)) (by kernel_rfl) ⟨fun _ _=>rfl,fun _=>trivial,trivial⟩
theorem k1ui {x:k1kk} {o:keu} (h:kre x o):k76.Snd Tryz.prog x o:=
 Con.soundH (c:=k76) (C:=kaa) TBok ⟨inf_ok,all_nil,all_nil⟩ mix Tryz.func50 (by kernel_rfl) (by kernel_rfl) (by kernel_rfl) rfl h (k1tr o)
theorem k1w0 {p0:List Int} {p1:Int} {r0:Bool} (h:
(Md.Loop (p0,p1,(0:Int),()) (kj2 (r0,())))):kre (p0,p1,()) (r0,()):=WPh.of_eq (by kernel_rfl) h
def k1dl (r0:Bool) (k1:Int->Prop) (s0:List Int) (s1 s5:Int):Prop:=
(decide (s5<(s0.length:Int))=true->
(0<=s5)/\s5<(s0.length:Int)/\(((ix s0 s5)==s1)=true->
 true=r0)/\
(((ix s0 s5)==s1)=false->
 k1 (IntKind.i64.wrap (s5+1):Int)))/\
(decide (s5<(s0.length:Int))=false->
 false=r0)
theorem k1ul {r0:Bool} {s0:List Int} {s1 s5:Int} (inv:Int->Prop) (μ:Int->Nat) (h0:inv s5) (hs:∀(s5:Int),inv s5->k1dl r0 (fun s5q=>inv s5q/\μ s5q<μ s5) s0 s1 s5):Md.Loop (s0,s1,s5,()) (kj2 (r0,())):=
 ⟨⟨fun((s0q,s1q,s5q,()):(List Int)×Int×Int×Unit)=>(s0=s0q/\s1=s1q)/\inv s5q,fun((_,_,s5q,()):(List Int)×Int×Int×Unit)=>μ s5q,⟨⟨rfl,rfl⟩,h0⟩,fun(s0p,s1p,s5p,()) ⟨eq,hi⟩=>by
  obtain⟨rfl,rfl⟩:=eq;exact mpr_of (by kernel_rfl) ((congrArg (fun k=>k1dl r0 k s0 s1 s5p) (lpk1 (⟨rfl,rfl⟩:s0=s0/\s1=s1) inv (fun s5q=>μ s5q<μ s5p))).mpr (hs s5p hi))⟩⟩
theorem bd50:Callable Tryz.prog 50:=⟨by rw[Tryz.func50];kernel_rfl,by rw[Tryz.func50];show some _≠some _;decide⟩
theorem k1sc (p0:List Int) (p1:Int) (h:p0.length<=1000000):kre (p0,p1,()) (((decide (p1∈p0)):Bool),()):=by
 refine k1w0 (k1ul (fun a=>∃i:Nat,a=(i:Int)/\i<=p0.length/\p1∉p0.take i) (fun a=>(p0.length-a).toNat) ⟨0,rfl,by omega,by simp⟩ ?_)
 rintro _ ⟨i,rfl,hi,hm⟩
 refine⟨fun e=> ?_,fun e=> ?_⟩
 ·have e:i<p0.length:=by have:=of_decide_eq_true e;omega
  rw[ix_get _ _ e,inc_i64 _ (by omega)]
  refine⟨by omega,by omega,fun e2=> ?_,fun e2=>⟨⟨i+1,rfl,by omega,?_⟩,by omega⟩⟩
  ·have e2:p0[i]=p1:=by simpa using e2
   rw[<-e2,decide_eq_true (List.getElem_mem e)]
  ·have e2:¬p0[i]=p1:=by simpa using e2
   rw[List.take_succ_eq_append_getElem e]
   simp only[List.mem_append,List.mem_singleton]
   exact fun hh=>hh.elim hm fun h=>e2 h.symm
 ·have e:i=p0.length:=by have:=of_decide_eq_false e;omega
  subst e
  rw[List.take_length]at hm
  rw[decide_eq_false hm]
noncomputable def k17n:Con TB.den:=k76.fnR (fun x=>(fun(p0:List Int) (p1:Int)=>p0.length<=1000000) x.1 x.2.1) fun x=>(fun(p0:List Int) (p1:Int)=>(((decide (p1∈p0)):Bool),())) x.1 x.2.1
theorem k1vj:k17n.Ok Tryz.prog TB:=Con.ok_fn k76 bd50 fun x h=>k1ui (k1sc x.1 x.2.1 h)
def k3z:Con TB.den:=Con.mk0 22 [.agg [zqi,zqi,zqi,zqi,zqi,zqu,zqi,zqi,zqu,zqi,zql,zql,.d (.sl (.st 8)),zqu,zql],.agg [zqu,zql,.d (.sl (.st 1)),zqu,zqu,zqu,zqu,zqu,zqi,.d (.sl yqb)]] [] (.one (.one (zqi))) []
abbrev k17v:=CI k3z
abbrev k59:=CO k3z
noncomputable def k53:Cx TB:=⟨inf,[kzw,ksr,k17n,knp],[],4,[]⟩
noncomputable def kbn:Code:=Tryz.f22.body.getD .skip
noncomputable def kjk:List ResultVar:=Tryz.f22.results.toList
def kdf:Tm:=⟨[0,1],[.cells [zqi,zqi,zqi,zqi,zqi,zqu,zqi,zqi,zqu,zqi,zql,zql,.d (.sl (.st 8)),zqu,zql],.cells [zqu,zql,.d (.sl (.st 1)),zqu,zqu,zqu,zqu,zqu,zqi,.d (.sl yqb)]],[2,3],[.one (.ptr 0 0),.one (.ptr 1 0)],26⟩
def kz1 (o:k59) (i:HL TB.den kdf.hs):Prop:=ghs TB [] (kdf.fill TB i) fun s=>WP TB k53 83 0 (cB (cB (cB (cB (cB (cB kbn)))))) .no s (retTQ TB k53 k3z kjk o)
structure k9a (o:k59) (i:HL TB.den kdf.hs):Prop where
 h:kz1 o i
def k1su (o:k59):=qS TB k53 83 0 (cB (cB (cB (cB (cB kbn))))) (.jn kdf (k9a o) [] .no [] .no) (retTQ TB k53 k3z kjk o)
def kc4:Tm:=⟨[0,1],[.cells [zqi,zqi,zqi,zqi,zqi,zqu,zqi,zqi,zqu,zqi,zql,zql,.d (.sl (.st 8)),zqu,zql],.cells [zqu,zql,.d (.sl (.st 1)),zqu,zqu,zqu,zqu,zqu,zqi,.d (.sl yqb)]],[2,3,6],[.one (.ptr 0 0),.one (.ptr 1 0),.one (zqi)],26⟩
def ket (o:k59) (nx1:NX TB kc4) (i:HL TB.den kc4.hs):Prop:=WP TB k53 83 0 (cA (cA (cB (cA (cB (cB (cB (cB kbn)))))))) .no (kc4.fill TB i) (qM TB 0 kc4 nx1 (blockT TB 0 (k1su o)))
noncomputable def k1p9 (o:k59):An TB:= .nd [] .no [] (.lp [] kc4 (ket o) fun nx1=> .no)
noncomputable def k1qr (o:k59):An TB:= .nd [] (k1p9 o) [] (.jn kdf (k9a o) [] .no [] .no)
noncomputable def k1lu (o:k59):An TB:= .nd [] .no [] (.nd [] .no [] (.nd [] .no [] (k1qr o)))
noncomputable def k13p (o:k59):An TB:= .nd [] .no [] (k1lu o)
def kll (x:k17v) (o:k59):Prop:=WPh TB k53 83 0 kbn (k13p o) (k3z.st TB x) (retTQ TB k53 k3z kjk o)
theorem k1mz (o:k59):OblH TB k53 83 0 kbn (k13p o) (retTQ TB k53 k3z kjk o):=
 OblH.ofC (X:=((∀nx i,(ket o) nx i=(ket o) nx i)/\(∀nx1:NX TB kc4,True)/\(∀i,(k9a o) i=kz1 o i)/\True)) (by kernel_rfl) ⟨fun _ _=>rfl,fun _=>trivial,fun _=>propext ⟨fun h=>h.1,fun h=>⟨h⟩⟩,trivial⟩
theorem k1o8 {x:k17v} {o:k59} (h:kll x o):k3z.Snd Tryz.prog x o:=
 Con.soundH (c:=k3z) (C:=k53) TBok ⟨inf_ok,(all_cons k1ry (all_cons k1jq (all_cons k1vj (all_cons k14d all_nil)))),all_nil⟩ mix Tryz.func22 (by kernel_rfl) (by kernel_rfl) (by kernel_rfl) rfl h (k1mz o)
theorem k1rx {p0:wj} {p1:wm} {r0:Int} (h:
((TR p1/\TL p1)/\(((validE p1) !=0)=true->
(validE p1)=r0)/\
(((validE p1) !=0)=false->
 let v1:Bool:=decide (p1.wx<(IntKind.i64.wrap (p0.wU+1)))
(v1=true->
 14=r0)/\
(v1=false->
((1<=p0.wM/\p0.wM<=100)/\p0.wn.length<=1000000)/\((ancL p0.wn p0.wM).length<=1000000)/\let r2:Bool:=(decide (p1.wy∈(ancL p0.wn p0.wM)))
((!r2)=true->
 11=r0)/\
((!r2)=false->
 Md.Loop ((0:Int),p0.wb,p0.wR,p0.wL,p0.wJ,p0.wG,p0.wQ,p0.wM,p0.wP,p0.wc,p0.wU,p0.wo,p0.wE,p0.wB,p0.wv,p0.wn,p1.wy,p1.wE,p1.wT,p1.wV,p1.wZ,p1.Fee,p1.we,p1.wO,p1.wx,p1.wAD,()) (ket (r0,()))))))):kll (p0.wb,p0.wR,p0.wL,p0.wJ,p0.wG,p0.wQ,p0.wM,p0.wP,p0.wc,p0.wU,p0.wo,p0.wE,p0.wB,p0.wv,p0.wn,p1.wy,p1.wE,p1.wT,p1.wV,p1.wZ,p1.Fee,p1.we,p1.wO,p1.wx,p1.wAD,()) (r0,()):=WPh.of_eq (by kernel_rfl) h
theorem k1dh {r0 Aa Ab Ac Am Ar Ao Av Aw Au Bg:Int} {Bl Ax:List Int} {B4:List wA} {B6:Int} {Bf:List Int} {Ai:Int} {Aj:List Int} {Ak:List ww} {Bm Cb Bn B1 Cf Cm:Int} {Cn:List Int} (h:
(let v3:Bool:=decide ((IntKind.u64.wrap (B6+Bm))<(IntKind.u64.wrap (Cb+Bn)))
(v3=true->
 13=r0)/\
(v3=false->
 let v4:Int:=IntKind.i64.wrap ((Bl.length:Int)+(Ak.length:Int))
(0<=IntKind.u64.wrap Ab)/\let v5:Bool:=decide ((ishl .i64 1 (IntKind.u64.wrap Ab))<v4)
(v5=true->
 16=r0)/\
(v5=false->
 0=r0)))):k9a (r0,()) (Aa,Ab,Ac,Am,Ar,Ao,Av,Aw,Au,Bg,Bl,Ax,B4,B6,Bf,Ai,Aj,Ak,Bm,Cb,Bn,B1,Cf,Cm,Cn,()):=⟨mpr_of (by kernel_rfl) h⟩
def k14h (r0:Int) (k1:Int->Prop) (Aa Ab Ac Am Ar Ao Av Aw Au Bg:Int) (Bl Ax:List Int) (B4:List wA) (B6:Int) (Bf:List Int) (Ai:Int) (Aj:List Int) (Ak:List ww) (Bm Cb Bn B1 Cf Cm:Int) (Cn:List Int) (s6:Int):Prop:=
(decide (s6<(Aj.length:Int))=true->
(0<=s6)/\s6<(Aj.length:Int)/\(Ax.length<=1000000)/\((decide ((ix Aj s6)∈Ax))=true->
 12=r0)/\
((decide ((ix Aj s6)∈Ax))=false->
 k1 (IntKind.i64.wrap (s6+1):Int)))/\
(decide (s6<(Aj.length:Int))=false->
(decide (0<Bm)=true->
(OkA B4/\U64 Bm/\U64 Cf)/\((((debitA B4 B1 Bm Cf).2) !=0)=true->
((debitA B4 B1 Bm Cf).2)=r0)/\
((((debitA B4 B1 Bm Cf).2) !=0)=false->
 k9a (r0,()) (Aa,Ab,Ac,Am,Ar,Ao,Av,Aw,Au,Bg,Bl,Ax,B4,B6,Bf,Ai,Aj,Ak,Bm,Cb,Bn,B1,Cf,Cm,Cn,())))/\
(decide (0<Bm)=false->
 k9a (r0,()) (Aa,Ab,Ac,Am,Ar,Ao,Av,Aw,Au,Bg,Bl,Ax,B4,B6,Bf,Ai,Aj,Ak,Bm,Cb,Bn,B1,Cf,Cm,Cn,())))
theorem k1lx {r0 Aa Ab Ac Am Ar Ao Av Aw Au Bg:Int} {Bl Ax:List Int} {B4:List wA} {B6:Int} {Bf:List Int} {Ai:Int} {Aj:List Int} {Ak:List ww} {Bm Cb Bn B1 Cf Cm:Int} {Cn:List Int} {s6:Int} (inv:Int->Prop) (μ:Int->Nat) (h0:inv s6) (hs:∀(s6:Int),inv s6->k14h r0 (fun s6q=>inv s6q/\μ s6q<μ s6) Aa Ab Ac Am Ar Ao Av Aw Au Bg Bl Ax B4 B6 Bf Ai Aj Ak Bm Cb Bn B1 Cf Cm Cn s6):Md.Loop (s6,Aa,Ab,Ac,Am,Ar,Ao,Av,Aw,Au,Bg,Bl,Ax,B4,B6,Bf,Ai,Aj,Ak,Bm,Cb,Bn,B1,Cf,Cm,Cn,()) (ket (r0,())):=
 ⟨⟨fun((s6q,Al,Ap,Aq,Ce,Cg,Ch,Ci,Cj,Ck,Cd,Cl,B8,Fb,Fc,Ct,B0,B2,B3,Dg,D0,Dh,Dp,Eh,Ei,Ej,()):Int×Int×Int×Int×Int×Int×Int×Int×Int×Int×Int×(List Int)×(List Int)×(List wA)×Int×(List Int)×Int×(List Int)×(List ww)×Int×Int×Int×Int×Int×Int×(List Int)×Unit)=>(Aa=Al/\Ab=Ap/\Ac=Aq/\Am=Ce/\Ar=Cg/\Ao=Ch/\Av=Ci/\Aw=Cj/\Au=Ck/\Bg=Cd/\Bl=Cl/\Ax=B8/\B4=Fb/\B6=Fc/\Bf=Ct/\Ai=B0/\Aj=B2/\Ak=B3/\Bm=Dg/\Cb=D0/\Bn=Dh/\B1=Dp/\Cf=Eh/\Cm=Ei/\Cn=Ej)/\inv s6q,fun((s6q,_,_,_,_,_,_,_,_,_,_,_,_,_,_,_,_,_,_,_,_,_,_,_,_,_,()):Int×Int×Int×Int×Int×Int×Int×Int×Int×Int×Int×(List Int)×(List Int)×(List wA)×Int×(List Int)×Int×(List Int)×(List ww)×Int×Int×Int×Int×Int×Int×(List Int)×Unit)=>μ s6q,⟨⟨rfl,rfl,rfl,rfl,rfl,rfl,rfl,rfl,rfl,rfl,rfl,rfl,rfl,rfl,rfl,rfl,rfl,rfl,rfl,rfl,rfl,rfl,rfl,rfl,rfl⟩,h0⟩,fun(s6p,B7,B9,Ca,Dy,D3,D4,Ee,Ef,Eg,Dz,D5,Dc,h0_12p,h0_13p,Es,Cu,De,Df,Fd,h1_4p,Fe,h1_6p,h1_7p,h1_8p,h1_9p,()) ⟨eq,hi⟩=>by
  obtain⟨rfl,rfl,rfl,rfl,rfl,rfl,rfl,rfl,rfl,rfl,rfl,rfl,rfl,rfl,rfl,rfl,rfl,rfl,rfl,rfl,rfl,rfl,rfl,rfl,rfl⟩:=eq;exact mpr_of (by kernel_rfl) ((congrArg (fun k=>k14h r0 k Aa Ab Ac Am Ar Ao Av Aw Au Bg Bl Ax B4 B6 Bf Ai Aj Ak Bm Cb Bn B1 Cf Cm Cn s6p) (lpk1 (⟨rfl,rfl,rfl,rfl,rfl,rfl,rfl,rfl,rfl,rfl,rfl,rfl,rfl,rfl,rfl,rfl,rfl,rfl,rfl,rfl,rfl,rfl,rfl,rfl,rfl⟩:Aa=Aa/\Ab=Ab/\Ac=Ac/\Am=Am/\Ar=Ar/\Ao=Ao/\Av=Av/\Aw=Aw/\Au=Au/\Bg=Bg/\Bl=Bl/\Ax=Ax/\B4=B4/\B6=B6/\Bf=Bf/\Ai=Ai/\Aj=Aj/\Ak=Ak/\Bm=Bm/\Cb=Cb/\Bn=Bn/\B1=B1/\Cf=Cf/\Cm=Cm/\Cn=Cn) inv (fun s6q=>μ s6q<μ s6p))).mpr (hs s6p hi))⟩⟩
theorem bd22:Callable Tryz.prog 22:=⟨by rw[Tryz.func22];kernel_rfl,by rw[Tryz.func22];show some _≠some _;decide⟩
theorem k1h4 (p0:wj) (p1:wm) (h:ROk p0/\TR p1/\TL p1):kll (p0.wb,p0.wR,p0.wL,p0.wJ,p0.wG,p0.wQ,p0.wM,p0.wP,p0.wc,p0.wU,p0.wo,p0.wE,p0.wB,p0.wv,p0.wn,p1.wy,p1.wE,p1.wT,p1.wV,p1.wZ,p1.Fee,p1.we,p1.wO,p1.wx,p1.wAD,()) (((rchk p0 p1):Int),()):=by
 obtain⟨hr,ht,hl⟩:=h
 have hd1:=hr.d1
 have hd2:=hr.d2
 have hh:=hr.h
 have hml0:=hr.ml
 have hll:=hr.ll
 have hrl:=hr.rl
 have hp12:=pow12 p0.wR.toNat (by omega)
 generalize hR0:rchk p0 p1=R
 have hR:chk p0.wU (ancL p0.wn p0.wM) p0.wE p0.wB p0.wv p0.wo.length p0.wR p1=R:=hR0
 clear hR0
 unfold chk at hR
 refine k1rx ⟨⟨ht,hl⟩,fun e=> ?_,fun e=> ?_⟩
 ·have e:validE p1≠0:=by simpa using e
  rw[if_pos e]at hR
  exact hR
 have e:validE p1=0:=by simpa using e
 have vt:=(kax p1).1 e
 have hol:=vt.ol
 have hml:=vt.ml
 rw[if_neg (by rw[e];decide)]at hR
 have ei:IntKind.i64.wrap (p0.wU+1)=p0.wU+1:=k1i _ (by omega) (by omega)
 rw[ei]
 refine⟨fun e2=> ?_,fun e2=>⟨⟨⟨hr.w1,hr.w2⟩,hrl⟩,?_,fun e3=> ?_,fun e3=> ?_⟩⟩
 ·rw[if_pos (of_decide_eq_true e2)]at hR
  exact hR
 ·unfold ancL
  rw[List.length_drop]
  omega
 ·have e3:p1.wy∉ancL p0.wn p0.wM:=by simpa using e3
  rw[if_neg (of_decide_eq_false e2),if_pos e3]at hR
  exact hR
 have e3:¬p1.wy∉ancL p0.wn p0.wM:=by simpa using e3
 rw[if_neg (of_decide_eq_false e2),if_neg e3]at hR
 have j1:(p1.wE.any fun m=>decide (m∈p0.wE))=false->¬(0<p1.wV/\(debitA p0.wB p1.we p1.wV p1.wO).2≠0)->k9a (R,()) (p0.wb,p0.wR,p0.wL,p0.wJ,p0.wG,p0.wQ,p0.wM,p0.wP,p0.wc,p0.wU,p0.wo,p0.wE,p0.wB,p0.wv,p0.wn,p1.wy,p1.wE,p1.wT,p1.wV,p1.wZ,p1.Fee,p1.we,p1.wO,p1.wx,p1.wAD,()):=by
  intro g1 g2
  rw[if_neg (by rw[g1];decide),if_neg g2]at hR
  obtain⟨d,hd⟩:=Int.eq_ofNat_of_zero_le (show 0<=p0.wR by omega)
  have hdn:p0.wR.toNat=d:=by omega
  rw[hdn]at hR hp12
  have ew:IntKind.u64.wrap p0.wR=(d:Int):=by rw[wrap_u64 _ (by omega) (by omega)];exact hd
  refine k1dh ⟨fun e4=> ?_,fun e4=> ?_⟩
  ·rw[if_pos (of_decide_eq_true e4)]at hR
   exact hR
  ·rw[if_neg (of_decide_eq_false e4)]at hR
   rw[ew,k1i _ (by omega) (by omega),shl1 d (by omega)]
   refine⟨by omega,fun e5=> ?_,fun e5=> ?_⟩
   ·rw[if_pos (by have:=of_decide_eq_true e5;omega)]at hR
    exact hR
   ·rw[if_neg (by have:=of_decide_eq_false e5;omega)]at hR
    exact hR
 refine k1lx (fun a=>∃i:Nat,a=(i:Int)/\i<=p1.wE.length/\((p1.wE.take i).any fun m=>decide (m∈p0.wE))=false) (fun a=>(p1.wE.length-a).toNat) ⟨0,rfl,by omega,rfl⟩ ?_
 rintro _ ⟨i,rfl,hi,hm⟩
 refine⟨fun e4=> ?_,fun e4=> ?_⟩
 ·have e4:i<p1.wE.length:=by have:=of_decide_eq_true e4;omega
  rw[ix_get _ _ e4,inc_i64 _ (by omega)]
  refine⟨by omega,by omega,by omega,fun e5=> ?_,fun e5=>⟨⟨i+1,rfl,by omega,?_⟩,by omega⟩⟩
  ·rw[if_pos (List.any_eq_true.2 ⟨_,List.getElem_mem e4,e5⟩)]at hR
   exact hR
  ·rw[List.take_succ_eq_append_getElem e4,List.any_append,hm,List.any_cons,e5]
   rfl
 ·have e4:i=p1.wE.length:=by have:=of_decide_eq_false e4;omega
  subst e4
  rw[List.take_length]at hm
  refine⟨fun e5=>⟨⟨hr.a,ht.d,ht.n⟩,fun e6=> ?_,fun e6=>j1 hm ?_⟩,fun e5=>j1 hm ?_⟩
  ·have e5:=of_decide_eq_true e5
   have e6:(debitA p0.wB p1.we p1.wV p1.wO).2≠0:=by simpa using e6
   rw[if_neg (by rw[hm];decide),if_pos ⟨e5,e6⟩]at hR
   exact hR
  ·have e6:(debitA p0.wB p1.we p1.wV p1.wO).2=0:=by simpa using e6
   exact fun hh=>hh.2 e6
  ·have e5:=of_decide_eq_false e5
   exact fun hh=>e5 hh.1
noncomputable def kzf:Con TB.den:=k3z.fnR (fun(a0,a1,a2,a3,a4,a5,a6,a7,a8,a9,a10,a11,a12,a13,a14,a15,a16,a17,a18,a19,a20,a21,a22,a23,a24,())=>(fun(p0:wj) (p1:wm)=>ROk p0/\TR p1/\TL p1) (wj.mk a0 a1 a2 a3 a4 a5 a6 a7 a8 a9 a10 a11 a12 a13 a14) (wm.mk a15 a16 a17 a18 a19 a20 a21 a22 a23 a24)) fun(a0,a1,a2,a3,a4,a5,a6,a7,a8,a9,a10,a11,a12,a13,a14,a15,a16,a17,a18,a19,a20,a21,a22,a23,a24,())=>(fun(p0:wj) (p1:wm)=>(((rchk p0 p1):Int),())) (wj.mk a0 a1 a2 a3 a4 a5 a6 a7 a8 a9 a10 a11 a12 a13 a14) (wm.mk a15 a16 a17 a18 a19 a20 a21 a22 a23 a24)
theorem k1rr:kzf.Ok Tryz.prog TB:=Con.ok_fn k3z bd22 fun(a0,a1,a2,a3,a4,a5,a6,a7,a8,a9,a10,a11,a12,a13,a14,a15,a16,a17,a18,a19,a20,a21,a22,a23,a24,()) h=>k1o8 (k1h4 (wj.mk a0 a1 a2 a3 a4 a5 a6 a7 a8 a9 a10 a11 a12 a13 a14) (wm.mk a15 a16 a17 a18 a19 a20 a21 a22 a23 a24) h)
def k32:Con TB.den:=Con.mk0 95 [.one (zql),.one (zqu)] [] (.one (.one (zql))) []
abbrev k124:=CI k32
abbrev k69:=CO k32
noncomputable def k5i:Cx TB:=⟨inf,[],[],4,[]⟩
noncomputable def ke2:Code:=Tryz.f95.body.getD .skip
noncomputable def khg:List ResultVar:=Tryz.f95.results.toList
def kbs:Tm:=⟨[],[],[0,1,5],[.one (zql),.one (zqu),.one (zqi)],0⟩
def kvy (o:k69) (i:HL TB.den kbs.hs):Prop:=ghs TB [] (kbs.fill TB i) fun s=>WP TB k5i 35 0 (cB (cB (cB ke2))) .no s (retTQ TB k5i k32 khg o)
structure k86 (o:k69) (i:HL TB.den kbs.hs):Prop where
 h:kvy o i
def k1n1 (o:k69):=qM TB 0 kbs (k86 o) (retTQ TB k5i k32 khg o)
def ka4:Tm:=⟨[],[],[0,1,5],[.one (zql),.one (zqu),.one (zqi)],0⟩
def kd2 (o:k69) (nx1:NX TB ka4) (i:HL TB.den ka4.hs):Prop:=WP TB k5i 35 0 (cA (cA (cA (cB (cB ke2))))) .no (ka4.fill TB i) (qM TB 0 ka4 nx1 (blockT TB 0 (k1n1 o)))
noncomputable def k1mk (o:k69):An TB:= .jn kbs (k86 o) [] (.lp [] ka4 (kd2 o) fun nx1=> .no) [] .no
noncomputable def kyt (o:k69):An TB:= .nd [] .no [] (.nd [] .no [] (k1mk o))
def kjq (x:k124) (o:k69):Prop:=WPh TB k5i 35 0 ke2 (kyt o) (k32.st TB x) (retTQ TB k5i k32 khg o)
theorem k1hz (o:k69):OblH TB k5i 35 0 ke2 (kyt o) (retTQ TB k5i k32 khg o):=
 OblH.ofC (X:=((∀nx i,(kd2 o) nx i=(kd2 o) nx i)/\(∀nx1:NX TB ka4,True)/\(∀i,(k86 o) i=kvy o i)/\True)) (by kernel_rfl) ⟨fun _ _=>rfl,fun _=>trivial,fun _=>propext ⟨fun h=>h.1,fun h=>⟨h⟩⟩,trivial⟩
theorem k1jg {x:k124} {o:k69} (h:kjq x o):k32.Snd Tryz.prog x o:=
 Con.soundH (c:=k32) (C:=k5i) TBok ⟨inf_ok,all_nil,all_nil⟩ mix Tryz.func95 (by kernel_rfl) (by kernel_rfl) (by kernel_rfl) rfl h (k1hz o)
theorem k1li {p0:List Int} {p1:Int} {r0:List Int} (h:
(Md.Loop (p0,p1,(0:Int),()) (kd2 (r0,())))):kjq (p0,p1,()) (r0,()):=WPh.of_eq (by kernel_rfl) h
theorem k1an {r0 s0:List Int} {s1 s5:Int} (h:
((0<=s5)/\s5<=(s0.length:Int)/\(([]:List Int).length+(s0.take s5.toNat).length)*8<=140737488355328/\([]:List Int).length+(s0.take s5.toNat).length<=maxLen/\(([]:List Int)++(s0.take s5.toNat)).length=(([]:List Int)++(s0.take s5.toNat)).length/\((([]:List Int)++(s0.take s5.toNat)).length+[s1].length)*8<=140737488355328/\(([]:List Int)++(s0.take s5.toNat)).length+[s1].length<=maxLen/\let v1:List Int:=(([]:List Int)++(s0.take s5.toNat))++[s1]
(0<=s5)/\s5<=(s0.length:Int)/\v1.length=v1.length/\(v1.length+(s0.drop s5.toNat).length)*8<=140737488355328/\v1.length+(s0.drop s5.toNat).length<=maxLen/\v1++(s0.drop s5.toNat)=r0)):k86 (r0,()) (s0,s1,s5,()):=⟨mpr_of (by kernel_rfl) h⟩
def kzm (r0:List Int) (k1:Int->Prop) (s0:List Int) (s1 s5:Int):Prop:=
(decide (s5<(s0.length:Int))=true->
(0<=s5)/\s5<(s0.length:Int)/\(decide ((ix s0 s5)<s1)=true->
 k1 (IntKind.i64.wrap (s5+1):Int))/\
(decide ((ix s0 s5)<s1)=false->
 k86 (r0,()) (s0,s1,s5,())))/\
(decide (s5<(s0.length:Int))=false->
 k86 (r0,()) (s0,s1,s5,()))
theorem k1ja {r0 s0:List Int} {s1 s5:Int} (inv:Int->Prop) (μ:Int->Nat) (h0:inv s5) (hs:∀(s5:Int),inv s5->kzm r0 (fun s5q=>inv s5q/\μ s5q<μ s5) s0 s1 s5):Md.Loop (s0,s1,s5,()) (kd2 (r0,())):=
 ⟨⟨fun((s0q,s1q,s5q,()):(List Int)×Int×Int×Unit)=>(s0=s0q/\s1=s1q)/\inv s5q,fun((_,_,s5q,()):(List Int)×Int×Int×Unit)=>μ s5q,⟨⟨rfl,rfl⟩,h0⟩,fun(s0p,s1p,s5p,()) ⟨eq,hi⟩=>by
  obtain⟨rfl,rfl⟩:=eq;exact mpr_of (by kernel_rfl) ((congrArg (fun k=>kzm r0 k s0 s1 s5p) (lpk1 (⟨rfl,rfl⟩:s0=s0/\s1=s1) inv (fun s5q=>μ s5q<μ s5p))).mpr (hs s5p hi))⟩⟩
theorem bd95:Callable Tryz.prog 95:=⟨by rw[Tryz.func95];kernel_rfl,by rw[Tryz.func95];show some _≠some _;decide⟩
theorem k1fz (p0:List Int) (p1:Int) (h:p0.length<=1000000):kjq (p0,p1,()) (((insI p1 p0):List Int),()):=by
 have j1:∀i:Nat,i<=p0.length->insI p1 p0=p0.take i++[p1]++p0.drop i->k86 (insI p1 p0,()) (p0,p1,(i:Int),()):=by
  intro i hi he
  have h1:(p0.take i).length=i:=by rw[List.length_take];omega
  have h2:(p0.drop i).length=p0.length-i:=List.length_drop
  rw[he]
  refine k1an ?_
  simp only[Int.toNat_natCast,List.nil_append]
  refine⟨by omega,by omega,?_,?_,(by first|exact rfl|exact True.intro),?_,?_,by omega,by omega,(by first|exact rfl|exact True.intro),?_,?_,(by first|exact rfl|exact True.intro)⟩
  all_goals simp only[List.length_append,List.length_cons,List.length_nil]
  all_goals first|omega|(unfold maxLen;omega)
 have ins:∀(l r:List Int),(∀x∈l,x<p1)->(∀x∈r.head?,p1<=x)->insI p1 (l++r)=l++[p1]++r:=by
  intro l
  induction l with
  |nil=>
   intro r _ h2
   cases r with
   |nil=>rfl
   |cons y r=>show insI p1 (y::r)=_;unfold insI;rw[if_pos (h2 y (by simp))];rfl
  |cons y l ih=>
   intro r h1 h2
   have:=h1 y (by simp)
   show insI p1 (y::(l++r))=_
   unfold insI
   rw[if_neg (by omega),ih r (fun x hx=>h1 x (by simp[hx])) h2]
   rfl
 refine k1li (k1ja (fun a=>∃i:Nat,a=(i:Int)/\i<=p0.length/\∀x∈p0.take i,x<p1) (fun a=>(p0.length-a).toNat) ⟨0,rfl,by omega,by simp⟩ ?_)
 rintro _ ⟨i,rfl,hi,hm⟩
 refine⟨fun e=> ?_,fun e=>j1 i hi ?_⟩
 ·have e:i<p0.length:=by have:=of_decide_eq_true e;omega
  rw[ix_get _ _ e,inc_i64 _ (by omega)]
  refine⟨by omega,by omega,fun e2=>⟨⟨i+1,rfl,by omega,?_⟩,by omega⟩,fun e2=>j1 i hi ?_⟩
  ·have e2:=of_decide_eq_true e2
   rw[List.take_succ_eq_append_getElem e]
   intro x hx
   rcases List.mem_append.1 hx with hx|hx
   ·exact hm x hx
   ·rw[List.mem_singleton.1 hx];exact e2
  ·have e2:=of_decide_eq_false e2
   have:=ins (p0.take i) (p0.drop i) hm (by
    rw[List.drop_eq_getElem_cons e]
    intro x hx
    rw[List.head?_cons]at hx
    have hx:p0[i]=x:=Option.some.inj hx
    omega)
   rw[List.take_append_drop]at this
   exact this
 ·have e:i=p0.length:=by have:=of_decide_eq_false e;omega
  have:=ins (p0.take i) (p0.drop i) hm (by rw[List.drop_eq_nil_of_le (by omega)];intro x hx;cases hx)
  rw[List.take_append_drop]at this
  exact this
noncomputable def kvl:Con TB.den:=k32.fnR (fun x=>(fun(p0:List Int) (p1:Int)=>p0.length<=1000000) x.1 x.2.1) fun x=>(fun(p0:List Int) (p1:Int)=>(((insI p1 p0):List Int),())) x.1 x.2.1
theorem k1ni:kvl.Ok Tryz.prog TB:=Con.ok_fn k32 bd95 fun x h=>k1jg (k1fz x.1 x.2.1 h)
def k1t:Con TB.den:=Con.mk0 68 [.agg [zqi,zqi,zqi,zqi,zqi,zqu,zqi,zqi,zqu,zqi,zql,zql,.d (.sl (.st 8)),zqu,zql],.agg [zqu,zql,.d (.sl (.st 1)),zqu,zqu,zqu,zqu,zqu,zqi,.d (.sl yqb)]] [] (.tup [.agg [zqi,zqi,zqi,zqi,zqi,zqu,zqi,zqi,zqu,zqi,zql,zql,.d (.sl (.st 8)),zqu,zql],.one (zqi)]) []
abbrev kyo:=CI k1t
abbrev k13:=CO k1t
noncomputable def k19:Cx TB:=⟨inf,[kzf,kvl,knp,kl4],[],4,[]⟩
noncomputable def k42:Code:=Tryz.f68.body.getD .skip
noncomputable def k91:List ResultVar:=Tryz.f68.results.toList
def kal:Tm:=⟨[0,1,2,4],[.cells [zqi,zqi,zqi,zqi,zqi,zqu,zqi,zqi,zqu,zqi,.own 3,zql,.d (.sl (.st 8)),zqu,zql],.cells [zqu,zql,.d (.sl (.st 1)),zqu,zqu,zqu,zqu,zqu,zqi,.d (.sl yqb)],.cells [zqi,zqi,zqi,zqi,zqi,zqu,zqi,zqi,zqu,zqi,.full yqu,.full yqu,.full (.st 8),zqu,.full yqu],.tip yqu],[2,3,4,9],[.one (.ptr 0 0),.one (.ptr 1 0),.one (.ptr 2 0),.one (zqi)],5⟩
def ktq (o:k13) (i:HL TB.den kal.hs):Prop:=ghs TB [] (kal.fill TB i) fun s=>WP TB k19 100 0 (cB (cB (cB (cB (cB (cB (cB (cB k42)))))))) .no s (retTQ TB k19 k1t k91 o)
structure k6x (o:k13) (i:HL TB.den kal.hs):Prop where
 h:ktq o i
def kdz:Tm:=⟨[0,1,2,4],[.cells [zqi,zqi,zqi,zqi,zqi,zqu,zqi,zqi,zqu,zqi,.own 3,zql,.d (.sl (.st 8)),zqu,zql],.cells [zqu,zql,.d (.sl (.st 1)),zqu,zqu,zqu,zqu,zqu,zqi,.d (.sl yqb)],.cells [zqi,zqi,zqi,zqi,zqi,zqu,zqi,zqi,zqu,zqi,.full yqu,.full yqu,.full (.st 8),zqu,.full yqu],.tip yqu],[2,3,4,9],[.one (.ptr 0 0),.one (.ptr 1 0),.one (.ptr 2 0),.one (zqi)],5⟩
def kt3 (o:k13) (i:HL TB.den kdz.hs):Prop:=ghs TB [] (kdz.fill TB i) fun s=>WP TB k19 100 0 (cB (cB (cB (cB (cB (cB (cB k42))))))) (.jn kal (k6x o) [] .no [] .no) s (retTQ TB k19 k1t k91 o)
structure k93 (o:k13) (i:HL TB.den kdz.hs):Prop where
 h:kt3 o i
noncomputable def kvm (o:k13):An TB:= .jn kdz (k93 o) [] .no [] (.jn kal (k6x o) [] .no [] .no)
def k1h0 (o:k13):=qS TB k19 100 0 (cB (cB (cB (cB (cB k42))))) (.nd [] .no [] (kvm o)) (retTQ TB k19 k1t k91 o)
def k90:Tm:=⟨[0,1,2,4],[.cells [zqi,zqi,zqi,zqi,zqi,zqu,zqi,zqi,zqu,zqi,.own 3,zql,.d (.sl (.st 8)),zqu,zql],.cells [zqu,zql,.d (.sl (.st 1)),zqu,zqu,zqu,zqu,zqu,zqi,.d (.sl yqb)],.cells [zqi,zqi,zqi,zqi,zqi,zqu,zqi,zqi,zqu,zqi,.full yqu,.full yqu,.full (.st 8),zqu,.full yqu],.tip yqu],[2,3,4,8],[.one (.ptr 0 0),.one (.ptr 1 0),.one (.ptr 2 0),.one (zqi)],5⟩
def kc0 (o:k13) (nx2:NX TB k90) (i:HL TB.den k90.hs):Prop:=WP TB k19 100 0 (cA (cA (cB (cA (cB (cB (cB (cB k42)))))))) .no (k90.fill TB i) (qM TB 0 k90 nx2 (blockT TB 2 (k1h0 o)))
noncomputable def k1jt (o:k13):An TB:= .nd [] .no [] (.lp [] k90 (kc0 o) fun nx2=> .no)
noncomputable def kwa (o:k13):An TB:= .nd [] (k1jt o) [] (.nd [] .no [] (kvm o))
def k1iz (o:k13):=qS TB k19 100 0 (cB (cB (cB k42))) (.nd [] .no [] (kwa o)) (retTQ TB k19 k1t k91 o)
def k95:Tm:=⟨[0,1,2],[.cells [zqi,zqi,zqi,zqi,zqi,zqu,zqi,zqi,zqu,zqi,zql,zql,.d (.sl (.st 8)),zqu,zql],.cells [zqu,zql,.d (.sl (.st 1)),zqu,zqu,zqu,zqu,zqu,zqi,.d (.sl yqb)],.cells [zqi,zqi,zqi,zqi,zqi,zqu,zqi,zqi,zqu,zqi,.full yqu,.full yqu,.full (.st 8),zqu,.full yqu]],[2,3,4,7],[.one (.ptr 0 0),.one (.ptr 1 0),.one (.ptr 2 0),.one (zqi)],3⟩
def kbq (o:k13) (nx1:NX TB k95) (i:HL TB.den k95.hs):Prop:=WP TB k19 100 0 (cA (cA (cB (cA (cB (cB k42)))))) .no (k95.fill TB i) (qM TB 0 k95 nx1 (blockT TB 0 (k1iz o)))
noncomputable def k1es (o:k13):An TB:= .nd [] .no [] (.lp [] k95 (kbq o) fun nx1=> .no)
noncomputable def k1f7 (o:k13):An TB:= .nd [] (k1es o) [] (.nd [] .no [] (kwa o))
noncomputable def kv8 (o:k13):An TB:= .nd [] .no [] (.nd [] .no [] (k1f7 o))
def kie (x:kyo) (o:k13):Prop:=WPh TB k19 100 0 k42 (kv8 o) (k1t.st TB x) (retTQ TB k19 k1t k91 o)
theorem k1ft (o:k13):OblH TB k19 100 0 k42 (kv8 o) (retTQ TB k19 k1t k91 o):=
 OblH.ofC (X:=((∀nx i,(kbq o) nx i=(kbq o) nx i)/\(∀nx1:NX TB k95,True)/\(∀nx i,(kc0 o) nx i=(kc0 o) nx i)/\(∀nx2:NX TB k90,True)/\(∀i,(k93 o) i=kt3 o i)/\(∀i,(k6x o) i=ktq o i)/\True)) (by kernel_rfl) ⟨fun _ _=>rfl,fun _=>trivial,fun _ _=>rfl,fun _=>trivial,fun _=>propext ⟨fun h=>h.1,fun h=>⟨h⟩⟩,fun _=>propext ⟨fun h=>h.1,fun h=>⟨h⟩⟩,trivial⟩
theorem k1f0 {x:kyo} {o:k13} (h:kie x o):k1t.Snd Tryz.prog x o:=
 Con.soundH (c:=k1t) (C:=k19) TBok ⟨inf_ok,(all_cons k1rr (all_cons k1ni (all_cons k14d (all_cons kys all_nil)))),all_nil⟩ mix Tryz.func68 (by kernel_rfl) (by kernel_rfl) (by kernel_rfl) rfl h (k1ft o)
theorem k1j4 {p0:wj} {p1:wm} {r0:wj} {r1:Int} (h:
((ROk p0/\TR p1/\TL p1)/\(((rchk p0 p1) !=0)=true->
 p0.wb=r0.wb/\p0.wR=r0.wR/\p0.wL=r0.wL/\p0.wJ=r0.wJ/\p0.wG=r0.wG/\p0.wQ=r0.wQ/\p0.wM=r0.wM/\p0.wP=r0.wP/\p0.wc=r0.wc/\p0.wU=r0.wU/\p0.wo=r0.wo/\p0.wE=r0.wE/\p0.wB=r0.wB/\p0.wv=r0.wv/\p0.wn=r0.wn/\(rchk p0 p1)=r1)/\
(((rchk p0 p1) !=0)=false->
 Md.Loop ((0:Int),p0.wb,p0.wR,p0.wL,p0.wJ,p0.wG,p0.wQ,p0.wM,p0.wP,p0.wc,p0.wU,p0.wo,p0.wE,p0.wB,p0.wv,p0.wn,p1.wy,p1.wE,p1.wT,p1.wV,p1.wZ,p1.Fee,p1.we,p1.wO,p1.wx,p1.wAD,(0:Int),(0:Int),(0:Int),(0:Int),(0:Int),(0:Int),(0:Int),(0:Int),(0:Int),(0:Int),(([]:List Int):List Int),(([]:List Int):List Int),(([]:List wA):List wA),(0:Int),(([]:List Int):List Int),()) (kbq (r0.wb,r0.wR,r0.wL,r0.wJ,r0.wG,r0.wQ,r0.wM,r0.wP,r0.wc,r0.wU,r0.wo,r0.wE,r0.wB,r0.wv,r0.wn,r1,()))))):kie (p0.wb,p0.wR,p0.wL,p0.wJ,p0.wG,p0.wQ,p0.wM,p0.wP,p0.wc,p0.wU,p0.wo,p0.wE,p0.wB,p0.wv,p0.wn,p1.wy,p1.wE,p1.wT,p1.wV,p1.wZ,p1.Fee,p1.we,p1.wO,p1.wx,p1.wAD,()) (r0.wb,r0.wR,r0.wL,r0.wJ,r0.wG,r0.wQ,r0.wM,r0.wP,r0.wc,r0.wU,r0.wo,r0.wE,r0.wB,r0.wv,r0.wn,r1,()):=WPh.of_eq (by kernel_rfl) h
theorem k16a {r0:wj} {r1 s9 Aa Ab Ac Am Ar Ao Av Aw Au Bg:Int} {Ax:List Int} {B4:List wA} {B6:Int} {Bf:List Int} {Ai:Int} {Aj:List Int} {Ak:List ww} {Bm Cb Bn B1 Cf Cm:Int} {Cn:List Int} {Cc C3 C4 C5 C6 C7 C8 C9 Da Db:Int} {Co Cp:List Int} {Cq:List wA} {Cr:Int} {Cs g4:List Int} (h:
((decide (0<Cb)=true->
(OkA B4/\U64 Cb)/\(g4=g4)/\k6x (r0.wb,r0.wR,r0.wL,r0.wJ,r0.wG,r0.wQ,r0.wM,r0.wP,r0.wc,r0.wU,r0.wo,r0.wE,r0.wB,r0.wv,r0.wn,r1,()) ((((creditA B4 B1 Cb).2):Int),Aa,Ab,Ac,Am,Ar,Ao,Av,Aw,Au,Bg,Ax,(((creditA B4 B1 Cb).1):List wA),B6,Bf,Ai,Aj,Ak,Bm,Cb,Bn,B1,Cf,Cm,Cn,Cc,C3,C4,C5,C6,C7,C8,C9,Da,Db,Co,Cp,Cq,Cr,Cs,g4,()))/\
(decide (0<Cb)=false->
(g4=g4)/\k6x (r0.wb,r0.wR,r0.wL,r0.wJ,r0.wG,r0.wQ,r0.wM,r0.wP,r0.wc,r0.wU,r0.wo,r0.wE,r0.wB,r0.wv,r0.wn,r1,()) (s9,Aa,Ab,Ac,Am,Ar,Ao,Av,Aw,Au,Bg,Ax,B4,B6,Bf,Ai,Aj,Ak,Bm,Cb,Bn,B1,Cf,Cm,Cn,Cc,C3,C4,C5,C6,C7,C8,C9,Da,Db,Co,Cp,Cq,Cr,Cs,g4,())))):k93 (r0.wb,r0.wR,r0.wL,r0.wJ,r0.wG,r0.wQ,r0.wM,r0.wP,r0.wc,r0.wU,r0.wo,r0.wE,r0.wB,r0.wv,r0.wn,r1,()) (s9,Aa,Ab,Ac,Am,Ar,Ao,Av,Aw,Au,Bg,Ax,B4,B6,Bf,Ai,Aj,Ak,Bm,Cb,Bn,B1,Cf,Cm,Cn,Cc,C3,C4,C5,C6,C7,C8,C9,Da,Db,Co,Cp,Cq,Cr,Cs,g4,()):=⟨mpr_of (by kernel_rfl) h⟩
theorem k15u {r0:wj} {r1 s9 Aa Ab Ac Am Ar Ao Av Aw Au Bg:Int} {Ax:List Int} {B4:List wA} {B6:Int} {Bf:List Int} {Ai:Int} {Aj:List Int} {Ak:List ww} {Bm Cb Bn B1 Cf Cm:Int} {Cn:List Int} {Cc C3 C4 C5 C6 C7 C8 C9 Da Db:Int} {Co Cp:List Int} {Cq:List wA} {Cr:Int} {Cs g4:List Int} (h:
(let v2:Int:=IntKind.u64.wrap ((IntKind.u64.wrap (B6+Bm))-Cb)
 Aa=r0.wb/\Ab=r0.wR/\Ac=r0.wL/\Am=r0.wJ/\Ar=r0.wG/\Ao=r0.wQ/\Av=r0.wM/\Aw=r0.wP/\Au=r0.wc/\Bg=r0.wU/\g4=r0.wo/\Ax=r0.wE/\B4=r0.wB/\IntKind.u64.wrap (v2-Bn)=r0.wv/\Bf=r0.wn/\s9=r1)):k6x (r0.wb,r0.wR,r0.wL,r0.wJ,r0.wG,r0.wQ,r0.wM,r0.wP,r0.wc,r0.wU,r0.wo,r0.wE,r0.wB,r0.wv,r0.wn,r1,()) (s9,Aa,Ab,Ac,Am,Ar,Ao,Av,Aw,Au,Bg,Ax,B4,B6,Bf,Ai,Aj,Ak,Bm,Cb,Bn,B1,Cf,Cm,Cn,Cc,C3,C4,C5,C6,C7,C8,C9,Da,Db,Co,Cp,Cq,Cr,Cs,g4,()):=⟨mpr_of (by kernel_rfl) h⟩
def kwj (r0:wj) (r1:Int) (k1:Int->List Int->Prop) (Aa Ab Ac Am Ar Ao Av Aw Au Bg:Int) (Bl:List Int) (B4:List wA) (B6:Int) (Bf:List Int) (Ai:Int) (Aj:List Int) (Ak:List ww) (Bm Cb Bn B1 Cf Cm:Int) (Cn:List Int) (Cc C3 C4 C5 C6 C7 C8 C9 Da Db:Int) (Co Cp:List Int) (Cq:List wA) (Cr:Int) (Cs:List Int) (s7:Int) (Ax:List Int):Prop:=
(decide (s7<(Aj.length:Int))=true->
(0<=s7)/\s7<(Aj.length:Int)/\(Ax.length<=1000000)/\k1 (IntKind.i64.wrap (s7+1):Int) ((insI (ix Aj s7) Ax):List Int))/\
(decide (s7<(Aj.length:Int))=false->
(([]:List Int).length+Bl.length)*8<=140737488355328/\([]:List Int).length+Bl.length<=maxLen/\(([]:List Int)++Bl=([]:List Int)++Bl)/\Md.Loop ((0:Int),Aa,Ab,Ac,Am,Ar,Ao,Av,Aw,Au,Bg,Ax,B4,B6,Bf,Ai,Aj,Ak,Bm,Cb,Bn,B1,Cf,Cm,Cn,Cc,C3,C4,C5,C6,C7,C8,C9,Da,Db,Co,Cp,Cq,Cr,Cs,(([]:List Int)++Bl:List Int),()) (kc0 (r0.wb,r0.wR,r0.wL,r0.wJ,r0.wG,r0.wQ,r0.wM,r0.wP,r0.wc,r0.wU,r0.wo,r0.wE,r0.wB,r0.wv,r0.wn,r1,())))
set_option maxHeartbeats 4000000 in
theorem k1d7 {r0:wj} {r1 Aa Ab Ac Am Ar Ao Av Aw Au Bg:Int} {Bl:List Int} {B4:List wA} {B6:Int} {Bf:List Int} {Ai:Int} {Aj:List Int} {Ak:List ww} {Bm Cb Bn B1 Cf Cm:Int} {Cn:List Int} {Cc C3 C4 C5 C6 C7 C8 C9 Da Db:Int} {Co Cp:List Int} {Cq:List wA} {Cr:Int} {Cs:List Int} {s7:Int} {Ax:List Int} (inv:Int->List Int->Prop) (μ:Int->List Int->Nat) (h0:inv s7 Ax) (hs:∀(s7:Int) (Ax:List Int),inv s7 Ax->kwj r0 r1 (fun s7q B8=>inv s7q B8/\μ s7q B8<μ s7 Ax) Aa Ab Ac Am Ar Ao Av Aw Au Bg Bl B4 B6 Bf Ai Aj Ak Bm Cb Bn B1 Cf Cm Cn Cc C3 C4 C5 C6 C7 C8 C9 Da Db Co Cp Cq Cr Cs s7 Ax):Md.Loop (s7,Aa,Ab,Ac,Am,Ar,Ao,Av,Aw,Au,Bg,Bl,Ax,B4,B6,Bf,Ai,Aj,Ak,Bm,Cb,Bn,B1,Cf,Cm,Cn,Cc,C3,C4,C5,C6,C7,C8,C9,Da,Db,Co,Cp,Cq,Cr,Cs,()) (kbq (r0.wb,r0.wR,r0.wL,r0.wJ,r0.wG,r0.wQ,r0.wM,r0.wP,r0.wc,r0.wU,r0.wo,r0.wE,r0.wB,r0.wv,r0.wn,r1,())):=
 ⟨⟨fun((s7q,Al,Ap,Aq,Ce,Cg,Ch,Ci,Cj,Ck,Cd,Cl,B8,Fb,Fc,Ct,B0,B2,B3,Dg,D0,Dh,Dp,Eh,Ei,Ej,Em,h2_1q,h2_2q,h2_3q,h2_4q,h2_5q,h2_6q,h2_7q,h2_8q,h2_9q,h2_10q,h2_11q,h2_12q,h2_13q,h2_14q,()):Int×Int×Int×Int×Int×Int×Int×Int×Int×Int×Int×(List Int)×(List Int)×(List wA)×Int×(List Int)×Int×(List Int)×(List ww)×Int×Int×Int×Int×Int×Int×(List Int)×Int×Int×Int×Int×Int×Int×Int×Int×Int×Int×(List Int)×(List Int)×(List wA)×Int×(List Int)×Unit)=>(Aa=Al/\Ab=Ap/\Ac=Aq/\Am=Ce/\Ar=Cg/\Ao=Ch/\Av=Ci/\Aw=Cj/\Au=Ck/\Bg=Cd/\Bl=Cl/\B4=Fb/\B6=Fc/\Bf=Ct/\Ai=B0/\Aj=B2/\Ak=B3/\Bm=Dg/\Cb=D0/\Bn=Dh/\B1=Dp/\Cf=Eh/\Cm=Ei/\Cn=Ej/\Cc=Em/\C3=h2_1q/\C4=h2_2q/\C5=h2_3q/\C6=h2_4q/\C7=h2_5q/\C8=h2_6q/\C9=h2_7q/\Da=h2_8q/\Db=h2_9q/\Co=h2_10q/\Cp=h2_11q/\Cq=h2_12q/\Cr=h2_13q/\Cs=h2_14q)/\inv s7q B8,fun((s7q,_,_,_,_,_,_,_,_,_,_,_,B8,_,_,_,_,_,_,_,_,_,_,_,_,_,_,_,_,_,_,_,_,_,_,_,_,_,_,_,_,()):Int×Int×Int×Int×Int×Int×Int×Int×Int×Int×Int×(List Int)×(List Int)×(List wA)×Int×(List Int)×Int×(List Int)×(List ww)×Int×Int×Int×Int×Int×Int×(List Int)×Int×Int×Int×Int×Int×Int×Int×Int×Int×Int×(List Int)×(List Int)×(List wA)×Int×(List Int)×Unit)=>μ s7q B8,⟨⟨rfl,rfl,rfl,rfl,rfl,rfl,rfl,rfl,rfl,rfl,rfl,rfl,rfl,rfl,rfl,rfl,rfl,rfl,rfl,rfl,rfl,rfl,rfl,rfl,rfl,rfl,rfl,rfl,rfl,rfl,rfl,rfl,rfl,rfl,rfl,rfl,rfl,rfl,rfl⟩,h0⟩,fun(s7p,B7,B9,Ca,Dy,D3,D4,Ee,Ef,Eg,Dz,D5,Dc,h0_12p,h0_13p,Es,Cu,De,Df,Fd,h1_4p,Fe,h1_6p,h1_7p,h1_8p,h1_9p,h2_0p,h2_1p,h2_2p,h2_3p,h2_4p,h2_5p,h2_6p,h2_7p,h2_8p,h2_9p,h2_10p,h2_11p,h2_12p,h2_13p,h2_14p,()) ⟨eq,hi⟩=>by
  obtain⟨rfl,rfl,rfl,rfl,rfl,rfl,rfl,rfl,rfl,rfl,rfl,rfl,rfl,rfl,rfl,rfl,rfl,rfl,rfl,rfl,rfl,rfl,rfl,rfl,rfl,rfl,rfl,rfl,rfl,rfl,rfl,rfl,rfl,rfl,rfl,rfl,rfl,rfl,rfl⟩:=eq;exact mpr_of (by kernel_rfl) ((congrArg (fun k=>kwj r0 r1 k Aa Ab Ac Am Ar Ao Av Aw Au Bg Bl B4 B6 Bf Ai Aj Ak Bm Cb Bn B1 Cf Cm Cn Cc C3 C4 C5 C6 C7 C8 C9 Da Db Co Cp Cq Cr Cs s7p Dc) (lpk2 (⟨rfl,rfl,rfl,rfl,rfl,rfl,rfl,rfl,rfl,rfl,rfl,rfl,rfl,rfl,rfl,rfl,rfl,rfl,rfl,rfl,rfl,rfl,rfl,rfl,rfl,rfl,rfl,rfl,rfl,rfl,rfl,rfl,rfl,rfl,rfl,rfl,rfl,rfl,rfl⟩:Aa=Aa/\Ab=Ab/\Ac=Ac/\Am=Am/\Ar=Ar/\Ao=Ao/\Av=Av/\Aw=Aw/\Au=Au/\Bg=Bg/\Bl=Bl/\B4=B4/\B6=B6/\Bf=Bf/\Ai=Ai/\Aj=Aj/\Ak=Ak/\Bm=Bm/\Cb=Cb/\Bn=Bn/\B1=B1/\Cf=Cf/\Cm=Cm/\Cn=Cn/\Cc=Cc/\C3=C3/\C4=C4/\C5=C5/\C6=C6/\C7=C7/\C8=C8/\C9=C9/\Da=Da/\Db=Db/\Co=Co/\Cp=Cp/\Cq=Cq/\Cr=Cr/\Cs=Cs) inv (fun s7q B8=>μ s7q B8<μ s7p Dc))).mpr (hs s7p Dc hi))⟩⟩
def kw6 (r0:wj) (r1:Int) (k2:Int->List Int->Prop) (Aa Ab Ac Am Ar Ao Av Aw Au Bg:Int) (Ax:List Int) (B4:List wA) (B6:Int) (Bf:List Int) (Ai:Int) (Aj:List Int) (Ak:List ww) (Bm Cb Bn B1 Cf Cm:Int) (Cn:List Int) (Cc C3 C4 C5 C6 C7 C8 C9 Da Db:Int) (Co Cp:List Int) (Cq:List wA) (Cr:Int) (Cs:List Int) (s8:Int) (g4:List Int):Prop:=
(decide (s8<(Ak.length:Int))=true->
(0<=s8)/\s8<(Ak.length:Int)/\g4.length=g4.length/\(g4.length+[(ix Ak s8).wz].length)*8<=140737488355328/\g4.length+[(ix Ak s8).wz].length<=maxLen/\(g4++[(ix Ak s8).wz]=g4++[(ix Ak s8).wz])/\k2 (IntKind.i64.wrap (s8+1):Int) (g4++[(ix Ak s8).wz]:List Int))/\
(decide (s8<(Ak.length:Int))=false->
(decide (0<Bm)=true->
(OkA B4/\U64 Bm/\U64 Cf)/\(g4=g4)/\k93 (r0.wb,r0.wR,r0.wL,r0.wJ,r0.wG,r0.wQ,r0.wM,r0.wP,r0.wc,r0.wU,r0.wo,r0.wE,r0.wB,r0.wv,r0.wn,r1,()) ((((debitA B4 B1 Bm Cf).2):Int),Aa,Ab,Ac,Am,Ar,Ao,Av,Aw,Au,Bg,Ax,(((debitA B4 B1 Bm Cf).1):List wA),B6,Bf,Ai,Aj,Ak,Bm,Cb,Bn,B1,Cf,Cm,Cn,Cc,C3,C4,C5,C6,C7,C8,C9,Da,Db,Co,Cp,Cq,Cr,Cs,g4,()))/\
(decide (0<Bm)=false->
(g4=g4)/\k93 (r0.wb,r0.wR,r0.wL,r0.wJ,r0.wG,r0.wQ,r0.wM,r0.wP,r0.wc,r0.wU,r0.wo,r0.wE,r0.wB,r0.wv,r0.wn,r1,()) ((0:Int),Aa,Ab,Ac,Am,Ar,Ao,Av,Aw,Au,Bg,Ax,B4,B6,Bf,Ai,Aj,Ak,Bm,Cb,Bn,B1,Cf,Cm,Cn,Cc,C3,C4,C5,C6,C7,C8,C9,Da,Db,Co,Cp,Cq,Cr,Cs,g4,())))
set_option maxHeartbeats 4000000 in
theorem k1ch {r0:wj} {r1 Aa Ab Ac Am Ar Ao Av Aw Au Bg:Int} {Ax:List Int} {B4:List wA} {B6:Int} {Bf:List Int} {Ai:Int} {Aj:List Int} {Ak:List ww} {Bm Cb Bn B1 Cf Cm:Int} {Cn:List Int} {Cc C3 C4 C5 C6 C7 C8 C9 Da Db:Int} {Co Cp:List Int} {Cq:List wA} {Cr:Int} {Cs:List Int} {s8:Int} {g4:List Int} (inv:Int->List Int->Prop) (μ:Int->List Int->Nat) (h0:inv s8 g4) (hs:∀(s8:Int) (g4:List Int),inv s8 g4->kw6 r0 r1 (fun s8q g4q=>inv s8q g4q/\μ s8q g4q<μ s8 g4) Aa Ab Ac Am Ar Ao Av Aw Au Bg Ax B4 B6 Bf Ai Aj Ak Bm Cb Bn B1 Cf Cm Cn Cc C3 C4 C5 C6 C7 C8 C9 Da Db Co Cp Cq Cr Cs s8 g4):Md.Loop (s8,Aa,Ab,Ac,Am,Ar,Ao,Av,Aw,Au,Bg,Ax,B4,B6,Bf,Ai,Aj,Ak,Bm,Cb,Bn,B1,Cf,Cm,Cn,Cc,C3,C4,C5,C6,C7,C8,C9,Da,Db,Co,Cp,Cq,Cr,Cs,g4,()) (kc0 (r0.wb,r0.wR,r0.wL,r0.wJ,r0.wG,r0.wQ,r0.wM,r0.wP,r0.wc,r0.wU,r0.wo,r0.wE,r0.wB,r0.wv,r0.wn,r1,())):=
 ⟨⟨fun((s8q,Al,Ap,Aq,Ce,Cg,Ch,Ci,Cj,Ck,Cd,B8,Fb,Fc,Ct,B0,B2,B3,Dg,D0,Dh,Dp,Eh,Ei,Ej,Em,h2_1q,h2_2q,h2_3q,h2_4q,h2_5q,h2_6q,h2_7q,h2_8q,h2_9q,h2_10q,h2_11q,h2_12q,h2_13q,h2_14q,g4q,()):Int×Int×Int×Int×Int×Int×Int×Int×Int×Int×Int×(List Int)×(List wA)×Int×(List Int)×Int×(List Int)×(List ww)×Int×Int×Int×Int×Int×Int×(List Int)×Int×Int×Int×Int×Int×Int×Int×Int×Int×Int×(List Int)×(List Int)×(List wA)×Int×(List Int)×(List Int)×Unit)=>(Aa=Al/\Ab=Ap/\Ac=Aq/\Am=Ce/\Ar=Cg/\Ao=Ch/\Av=Ci/\Aw=Cj/\Au=Ck/\Bg=Cd/\Ax=B8/\B4=Fb/\B6=Fc/\Bf=Ct/\Ai=B0/\Aj=B2/\Ak=B3/\Bm=Dg/\Cb=D0/\Bn=Dh/\B1=Dp/\Cf=Eh/\Cm=Ei/\Cn=Ej/\Cc=Em/\C3=h2_1q/\C4=h2_2q/\C5=h2_3q/\C6=h2_4q/\C7=h2_5q/\C8=h2_6q/\C9=h2_7q/\Da=h2_8q/\Db=h2_9q/\Co=h2_10q/\Cp=h2_11q/\Cq=h2_12q/\Cr=h2_13q/\Cs=h2_14q)/\inv s8q g4q,fun((s8q,_,_,_,_,_,_,_,_,_,_,_,_,_,_,_,_,_,_,_,_,_,_,_,_,_,_,_,_,_,_,_,_,_,_,_,_,_,_,_,g4q,()):Int×Int×Int×Int×Int×Int×Int×Int×Int×Int×Int×(List Int)×(List wA)×Int×(List Int)×Int×(List Int)×(List ww)×Int×Int×Int×Int×Int×Int×(List Int)×Int×Int×Int×Int×Int×Int×Int×Int×Int×Int×(List Int)×(List Int)×(List wA)×Int×(List Int)×(List Int)×Unit)=>μ s8q g4q,⟨⟨rfl,rfl,rfl,rfl,rfl,rfl,rfl,rfl,rfl,rfl,rfl,rfl,rfl,rfl,rfl,rfl,rfl,rfl,rfl,rfl,rfl,rfl,rfl,rfl,rfl,rfl,rfl,rfl,rfl,rfl,rfl,rfl,rfl,rfl,rfl,rfl,rfl,rfl,rfl⟩,h0⟩,fun(s8p,B7,B9,Ca,Dy,D3,D4,Ee,Ef,Eg,Dz,Dc,h0_12p,h0_13p,Es,Cu,De,Df,Fd,h1_4p,Fe,h1_6p,h1_7p,h1_8p,h1_9p,h2_0p,h2_1p,h2_2p,h2_3p,h2_4p,h2_5p,h2_6p,h2_7p,h2_8p,h2_9p,h2_10p,h2_11p,h2_12p,h2_13p,h2_14p,g4p,()) ⟨eq,hi⟩=>by
  obtain⟨rfl,rfl,rfl,rfl,rfl,rfl,rfl,rfl,rfl,rfl,rfl,rfl,rfl,rfl,rfl,rfl,rfl,rfl,rfl,rfl,rfl,rfl,rfl,rfl,rfl,rfl,rfl,rfl,rfl,rfl,rfl,rfl,rfl,rfl,rfl,rfl,rfl,rfl,rfl⟩:=eq;exact mpr_of (by kernel_rfl) ((congrArg (fun k=>kw6 r0 r1 k Aa Ab Ac Am Ar Ao Av Aw Au Bg Ax B4 B6 Bf Ai Aj Ak Bm Cb Bn B1 Cf Cm Cn Cc C3 C4 C5 C6 C7 C8 C9 Da Db Co Cp Cq Cr Cs s8p g4p) (lpk2 (⟨rfl,rfl,rfl,rfl,rfl,rfl,rfl,rfl,rfl,rfl,rfl,rfl,rfl,rfl,rfl,rfl,rfl,rfl,rfl,rfl,rfl,rfl,rfl,rfl,rfl,rfl,rfl,rfl,rfl,rfl,rfl,rfl,rfl,rfl,rfl,rfl,rfl,rfl,rfl⟩:Aa=Aa/\Ab=Ab/\Ac=Ac/\Am=Am/\Ar=Ar/\Ao=Ao/\Av=Av/\Aw=Aw/\Au=Au/\Bg=Bg/\Ax=Ax/\B4=B4/\B6=B6/\Bf=Bf/\Ai=Ai/\Aj=Aj/\Ak=Ak/\Bm=Bm/\Cb=Cb/\Bn=Bn/\B1=B1/\Cf=Cf/\Cm=Cm/\Cn=Cn/\Cc=Cc/\C3=C3/\C4=C4/\C5=C5/\C6=C6/\C7=C7/\C8=C8/\C9=C9/\Da=Da/\Db=Db/\Co=Co/\Cp=Cp/\Cq=Cq/\Cr=Cr/\Cs=Cs) inv (fun s8q g4q=>μ s8q g4q<μ s8p g4p))).mpr (hs s8p g4p hi))⟩⟩
theorem bd68:Callable Tryz.prog 68:=⟨by rw[Tryz.func68];kernel_rfl,by rw[Tryz.func68];show some _≠some _;decide⟩
theorem k1az (p0:wj) (p1:wm) (h:ROk p0/\TR p1/\TL p1):kie (p0.wb,p0.wR,p0.wL,p0.wJ,p0.wG,p0.wQ,p0.wM,p0.wP,p0.wc,p0.wU,p0.wo,p0.wE,p0.wB,p0.wv,p0.wn,p1.wy,p1.wE,p1.wT,p1.wV,p1.wZ,p1.Fee,p1.we,p1.wO,p1.wx,p1.wAD,()) ((((rperf p0 p1).m).wb:Int),(((rperf p0 p1).m).wR:Int),(((rperf p0 p1).m).wL:Int),(((rperf p0 p1).m).wJ:Int),(((rperf p0 p1).m).wG:Int),(((rperf p0 p1).m).wQ:Int),(((rperf p0 p1).m).wM:Int),(((rperf p0 p1).m).wP:Int),(((rperf p0 p1).m).wc:Int),(((rperf p0 p1).m).wU:Int),(((rperf p0 p1).m).wo:List Int),(((rperf p0 p1).m).wE:List Int),(((rperf p0 p1).m).wB:List wA),(((rperf p0 p1).m).wv:Int),(((rperf p0 p1).m).wn:List Int),(((rperf p0 p1).e):Int),()):=by
 obtain⟨hr,ht,hl⟩:=h
 generalize hR:rperf p0 p1=R
 unfold rperf at hR
 refine k1j4 (r0:=R.m) ⟨⟨hr,ht,hl⟩,fun e=> ?_,fun e=> ?_⟩
 ·have e:rchk p0 p1≠0:=by simpa using e
  rw[if_pos e]at hR
  subst hR
  exact(by repeat' first|apply And.intro|exact rfl|exact True.intro)
 have e:rchk p0 p1=0:=by simpa using e
 rw[if_neg (fun hh=>hh e)]at hR
 have vt:VT p1/\(0<p1.wV->(debitA p0.wB p1.we p1.wV p1.wO).2=0):=by
  have e2:=e
  unfold rchk chk at e2
  split at e2
  ·rename_i h1;exact(h1 e2).elim
  ·rename_i h1
   refine⟨(kax p1).1 (Classical.byContradiction h1),fun hd=> ?_⟩
   split at e2
   ·cases e2
   ·split at e2
    ·cases e2
    ·split at e2
     ·cases e2
     ·split at e2
      ·rename_i h5;exact(h5.2 e2).elim
      ·rename_i h5;exact Classical.byContradiction fun hn=>h5 ⟨hd,hn⟩
 obtain⟨vt,hdd⟩:=vt
 have hml:=vt.ml
 have hol:=vt.ol
 have hml0:=hr.ml
 have hll:=hr.ll
 have hal:=hr.al
 obtain⟨a1,a2,a3,a4,a5⟩:=vt.am'
 have hdA:OkA (depA p0.wB p1):=by
  unfold depA
  split
  ·exact k1yz hr.a hal ⟨ht.ac.1,a4⟩ ht.d.1 ht.n
  ·exact hr.a
 have j2:∀(e:Int) b',e=(wdA p0.wB p1).2->b' =(wdA p0.wB p1).1->k6x (R.m.wb,R.m.wR,R.m.wL,R.m.wJ,R.m.wG,R.m.wQ,R.m.wM,R.m.wP,R.m.wc,R.m.wU,R.m.wo,R.m.wE,R.m.wB,R.m.wv,R.m.wn,R.e,()) (e,p0.wb,p0.wR,p0.wL,p0.wJ,p0.wG,p0.wQ,p0.wM,p0.wP,p0.wc,p0.wU,p1.wE.foldl (fun a x=>insI x a) p0.wE,b',p0.wv,p0.wn,p1.wy,p1.wE,p1.wT,p1.wV,p1.wZ,p1.Fee,p1.we,p1.wO,p1.wx,p1.wAD,(0:Int),(0:Int),(0:Int),(0:Int),(0:Int),(0:Int),(0:Int),(0:Int),(0:Int),(0:Int),([]:List Int),([]:List Int),([]:List wA),(0:Int),([]:List Int),p0.wo++p1.wT.map (·.wz),()):=by
  intro e b' h1 h2
  subst hR
  subst h1
  subst h2
  exact k15u (r0:=⟨p0.wb,p0.wR,p0.wL,p0.wJ,p0.wG,p0.wQ,p0.wM,p0.wP,p0.wc,p0.wU,p0.wo++p1.wT.map (·.wz),p1.wE.foldl (fun a x=>insI x a) p0.wE,(wdA p0.wB p1).1,hidN p0.wv p1,p0.wn⟩) (by repeat' first|apply And.intro|exact rfl|exact True.intro)
 have j1:∀b',b' =depA p0.wB p1->k93 (R.m.wb,R.m.wR,R.m.wL,R.m.wJ,R.m.wG,R.m.wQ,R.m.wM,R.m.wP,R.m.wc,R.m.wU,R.m.wo,R.m.wE,R.m.wB,R.m.wv,R.m.wn,R.e,()) ((0:Int),p0.wb,p0.wR,p0.wL,p0.wJ,p0.wG,p0.wQ,p0.wM,p0.wP,p0.wc,p0.wU,p1.wE.foldl (fun a x=>insI x a) p0.wE,b',p0.wv,p0.wn,p1.wy,p1.wE,p1.wT,p1.wV,p1.wZ,p1.Fee,p1.we,p1.wO,p1.wx,p1.wAD,(0:Int),(0:Int),(0:Int),(0:Int),(0:Int),(0:Int),(0:Int),(0:Int),(0:Int),(0:Int),([]:List Int),([]:List Int),([]:List wA),(0:Int),([]:List Int),p0.wo++p1.wT.map (·.wz),()):=by
  intro b' h1
  subst h1
  refine k16a (r0:=R.m) ⟨fun e=>⟨⟨hdA,ht.w⟩,rfl,j2 _ _ ?_ ?_⟩,fun e=>⟨rfl,j2 _ _ ?_ ?_⟩⟩
  ·unfold wdA;rw[if_pos (of_decide_eq_true e)]
  ·unfold wdA;rw[if_pos (of_decide_eq_true e)]
  ·unfold wdA;rw[if_neg (of_decide_eq_false e)]
  ·unfold wdA;rw[if_neg (of_decide_eq_false e)]
 have il:∀x (l:List Int),(insI x l).length=l.length+1:=fun x l=>(kmv x l).length_eq
 refine k1d7 (r0:=R.m) (fun a g=>∃i:Nat,a=(i:Int)/\i<=p1.wE.length/\g=(p1.wE.take i).foldl (fun a x=>insI x a) p0.wE/\g.length=p0.wE.length+i) (fun a _=>(p1.wE.length-a).toNat) ⟨0,rfl,by omega,rfl,by omega⟩ ?_
 rintro _ _ ⟨i,rfl,hi,rfl,hgl⟩
 refine⟨fun e=> ?_,fun e=> ?_⟩
 ·have e:i<p1.wE.length:=by have:=of_decide_eq_true e;omega
  rw[ix_get _ _ e,inc_i64 _ (by omega)]
  refine⟨by omega,by omega,by omega,⟨i+1,rfl,by omega,?_,?_⟩,by omega⟩
  ·rw[List.take_succ_eq_append_getElem e,List.foldl_append]
   rfl
  ·rw[il,hgl]
   omega
 have e:i=p1.wE.length:=by have:=of_decide_eq_false e;omega
 subst e
 rw[List.take_length]
 refine⟨by simp;omega,by simp;unfold maxLen;omega,rfl,?_⟩
 refine k1ch (r0:=R.m) (fun a g=>∃i:Nat,a=(i:Int)/\i<=p1.wT.length/\g=p0.wo++(p1.wT.take i).map (·.wz)) (fun a _=>(p1.wT.length-a).toNat) ⟨0,rfl,by omega,by simp⟩ ?_
 rintro _ _ ⟨i,rfl,hi,rfl⟩
 refine⟨fun e=> ?_,fun e=> ?_⟩
 ·have e:i<p1.wT.length:=by have:=of_decide_eq_true e;omega
  have hgl:(p0.wo++(p1.wT.take i).map (·.wz)).length=p0.wo.length+i:=by simp only[List.length_append,List.length_map,List.length_take];omega
  rw[ix_get _ _ e,inc_i64 _ (by omega)]
  refine⟨by omega,by omega,rfl,?_,?_,rfl,⟨i+1,rfl,by omega,?_⟩,by omega⟩
  ·rw[hgl];simp only[List.length_cons,List.length_nil];omega
  ·rw[hgl];simp only[List.length_cons,List.length_nil];unfold maxLen;omega
  ·rw[List.take_succ_eq_append_getElem e,List.map_append,List.append_assoc]
   rfl
 have e:i=p1.wT.length:=by have:=of_decide_eq_false e;omega
 subst e
 rw[List.take_length]
 refine⟨fun e2=>⟨⟨hr.a,ht.d,ht.n⟩,rfl,?_⟩,fun e2=>⟨rfl,j1 _ ?_⟩⟩
 ·rw[hdd (of_decide_eq_true e2)]
  refine j1 _ ?_
  unfold depA;rw[if_pos (of_decide_eq_true e2)]
 ·unfold depA;rw[if_neg (of_decide_eq_false e2)]
noncomputable def kso:Con TB.den:=k1t.fnR (fun(a0,a1,a2,a3,a4,a5,a6,a7,a8,a9,a10,a11,a12,a13,a14,a15,a16,a17,a18,a19,a20,a21,a22,a23,a24,())=>(fun(p0:wj) (p1:wm)=>ROk p0/\TR p1/\TL p1) (wj.mk a0 a1 a2 a3 a4 a5 a6 a7 a8 a9 a10 a11 a12 a13 a14) (wm.mk a15 a16 a17 a18 a19 a20 a21 a22 a23 a24)) fun(a0,a1,a2,a3,a4,a5,a6,a7,a8,a9,a10,a11,a12,a13,a14,a15,a16,a17,a18,a19,a20,a21,a22,a23,a24,())=>(fun(p0:wj) (p1:wm)=>((((rperf p0 p1).m).wb:Int),(((rperf p0 p1).m).wR:Int),(((rperf p0 p1).m).wL:Int),(((rperf p0 p1).m).wJ:Int),(((rperf p0 p1).m).wG:Int),(((rperf p0 p1).m).wQ:Int),(((rperf p0 p1).m).wM:Int),(((rperf p0 p1).m).wP:Int),(((rperf p0 p1).m).wc:Int),(((rperf p0 p1).m).wU:Int),(((rperf p0 p1).m).wo:List Int),(((rperf p0 p1).m).wE:List Int),(((rperf p0 p1).m).wB:List wA),(((rperf p0 p1).m).wv:Int),(((rperf p0 p1).m).wn:List Int),(((rperf p0 p1).e):Int),())) (wj.mk a0 a1 a2 a3 a4 a5 a6 a7 a8 a9 a10 a11 a12 a13 a14) (wm.mk a15 a16 a17 a18 a19 a20 a21 a22 a23 a24)
theorem k1hi:kso.Ok Tryz.prog TB:=Con.ok_fn k1t bd68 fun(a0,a1,a2,a3,a4,a5,a6,a7,a8,a9,a10,a11,a12,a13,a14,a15,a16,a17,a18,a19,a20,a21,a22,a23,a24,()) h=>k1f0 (k1az (wj.mk a0 a1 a2 a3 a4 a5 a6 a7 a8 a9 a10 a11 a12 a13 a14) (wm.mk a15 a16 a17 a18 a19 a20 a21 a22 a23 a24) h)
def k52:Con TB.den:=Con.mk0 36 [.agg [zqi,zqi,zqi,zqi,zqi,zqu,zqi,zqi,zqu,zqi,zql,zql,.d (.sl (.st 8)),zqu,zql],.agg [zqu,zqi,zqu,zqu,zqu,.d (.sl (.st 2))]] [] (.tup [.agg [zqi,zqi,zqi,zqi,zqi,zqu,zqi,zqi,zqu,zqi,zql,zql,.d (.sl (.st 8)),zqu,zql],.one (zqi)]) []
abbrev k180:=CI k52
abbrev k66:=CO k52
noncomputable def k7w:Cx TB:=⟨inf,[kso,kl4,kn7],[],4,[73,76,83,84]⟩
noncomputable def kg4:Code:=Tryz.f36.body.getD .skip
noncomputable def kqu:List ResultVar:=Tryz.f36.results.toList
noncomputable def k120 (o:k66):An TB:= .nd [] .no [] (.nd [] .no [] (.nd [] .no [] (.rt [.frzc 48 2 14])))
def k1s7 (o:k66):=qS TB k7w 87 0 (cB (cB (cB (cB (cB (cB (cB kg4))))))) (.nd [] .no [] (.nd [] .no [] (k120 o))) (retTQ TB k7w k52 kqu o)
def kc9:Tm:=⟨[0,1,2,3],[.cells [zqi,zqi,zqi,zqi,zqi,zqu,zqi,zqi,zqu,zqi,zql,zql,.d (.sl (.st 8)),zqu,zql],.cells [zqu,zqi,zqu,zqu,zqu,.d (.sl (.st 2))],.cells [zqi,zqi,zqi,zqi,zqi,zqu,zqi,zqi,zqu,zqi,.full yqu,.full yqu,.full (.st 8),zqu,.full yqu],.cells [zqi,zqi,zqi,zqi,zqi,zqu,zqi,zqi,zqu,zqi,zql,zql,.d (.sl (.st 8)),zqu,zql]],[2,3,4,6,7,9],[.one (.ptr 0 0),.one (.ptr 1 0),.one (.ptr 2 0),.one (.ptr 3 0),.one (zqu),.one (zqi)],4⟩
def kec (o:k66) (nx1:NX TB kc9) (i:HL TB.den kc9.hs):Prop:=WP TB k7w 87 0 (cA (cA (cB (cA (cB (cB (cB (cB (cB (cB kg4)))))))))) .no (kc9.fill TB i) (qM TB 0 kc9 nx1 (blockT TB 0 (k1s7 o)))
noncomputable def k1sb (o:k66):An TB:= .nd [] .no [] (.lp [] kc9 (kec o) fun nx1=> .no)
noncomputable def k1qz (o:k66):An TB:= .nd [] (k1sb o) [] (.nd [] .no [] (.nd [] .no [] (k120 o)))
noncomputable def k1pb (o:k66):An TB:= .nd [] .no [] (.nd [] .no [] (.nd [] .no [] (k1qz o)))
noncomputable def k13w (o:k66):An TB:= .nd [] .no [] (.nd [] .no [] (.nd [] .no [] (k1pb o)))
def km6 (x:k180) (o:k66):Prop:=WPh TB k7w 87 0 kg4 (k13w o) (k52.st TB x) (retTQ TB k7w k52 kqu o)
theorem k1m5 (o:k66):OblH TB k7w 87 0 kg4 (k13w o) (retTQ TB k7w k52 kqu o):=
 OblH.ofC (X:=((∀nx i,(kec o) nx i=(kec o) nx i)/\(∀nx1:NX TB kc9,True)/\True)) (by kernel_rfl) ⟨fun _ _=>rfl,fun _=>trivial,trivial⟩
theorem k1ld {x:k180} {o:k66} (h:km6 x o):k52.Snd Tryz.prog x o:=
 Con.soundH (c:=k52) (C:=k7w) TBok ⟨inf_ok,(all_cons k1hi (all_cons kys (all_cons k11j all_nil))),all_nil⟩ mix Tryz.func36 (by kernel_rfl) (by kernel_rfl) (by kernel_rfl) rfl h (k1m5 o)
theorem k1oy {p0:wj} {p1:wd} {r0:wj} {r1:Int} (h:
(let v2:Bool:=(p1.wU !=(IntKind.i64.wrap (p0.wU+1)))
(v2=true->
 p0.wb=r0.wb/\p0.wR=r0.wR/\p0.wL=r0.wL/\p0.wJ=r0.wJ/\p0.wG=r0.wG/\p0.wQ=r0.wQ/\p0.wM=r0.wM/\p0.wP=r0.wP/\p0.wc=r0.wc/\p0.wU=r0.wU/\p0.wo=r0.wo/\p0.wE=r0.wE/\p0.wB=r0.wB/\p0.wv=r0.wv/\p0.wn=r0.wn/\18=r1)/\
(v2=false->
(decide (18446744069414584321<=p1.wAG)=true->
 p0.wb=r0.wb/\p0.wR=r0.wR/\p0.wL=r0.wL/\p0.wJ=r0.wJ/\p0.wG=r0.wG/\p0.wQ=r0.wQ/\p0.wM=r0.wM/\p0.wP=r0.wP/\p0.wc=r0.wc/\p0.wU=r0.wU/\p0.wo=r0.wo/\p0.wE=r0.wE/\p0.wB=r0.wB/\p0.wv=r0.wv/\p0.wn=r0.wn/\1=r1)/\
(decide (18446744069414584321<=p1.wAG)=false->
 Md.Loop ((0:Int),(0:Int),p0.wb,p0.wR,p0.wL,p0.wJ,p0.wG,p0.wQ,p0.wM,p0.wP,p0.wc,p0.wU,p0.wo,p0.wE,p0.wB,p0.wv,p0.wn,p1.wAR,p1.wU,p1.wAG,p1.wl,p1.wO,p1.Txs,(0:Int),(0:Int),(0:Int),(0:Int),(0:Int),(0:Int),(0:Int),(0:Int),(0:Int),(0:Int),(([]:List Int):List Int),(([]:List Int):List Int),(([]:List wA):List wA),(0:Int),(([]:List Int):List Int),p0.wb,p0.wR,p0.wL,p0.wJ,p0.wG,p0.wQ,p0.wM,p0.wP,p0.wc,p0.wU,p0.wo,p0.wE,p0.wB,p0.wv,p0.wn,()) (kec (r0.wb,r0.wR,r0.wL,r0.wJ,r0.wG,r0.wQ,r0.wM,r0.wP,r0.wc,r0.wU,r0.wo,r0.wE,r0.wB,r0.wv,r0.wn,r1,())))))):km6 (p0.wb,p0.wR,p0.wL,p0.wJ,p0.wG,p0.wQ,p0.wM,p0.wP,p0.wc,p0.wU,p0.wo,p0.wE,p0.wB,p0.wv,p0.wn,p1.wAR,p1.wU,p1.wAG,p1.wl,p1.wO,p1.Txs,()) (r0.wb,r0.wR,r0.wL,r0.wJ,r0.wG,r0.wQ,r0.wM,r0.wP,r0.wc,r0.wU,r0.wo,r0.wE,r0.wB,r0.wv,r0.wn,r1,()):=WPh.of_eq (by kernel_rfl) h
def k138 (r0:wj) (r1:Int) (k1:Int->Int->Int->Int->Int->Int->Int->Int->Int->Int->Int->Int->List Int->List Int->List wA->Int->List Int->Prop) (Aa Ab Ac Am Ar Ao Av Aw Au Bg:Int) (Bl Ax:List Int) (B4:List wA) (B6:Int) (Bf:List Int) (Ai Aj Ak Bm Cb:Int) (Bn:List wm) (Cc C3 C4 C5 C6 C7 C8 C9 Da Db:Int) (Co Cp:List Int) (Cq:List wA) (Cr:Int) (Cs:List Int) (s7 s9 Ek Dl El h3_3 h3_4 h3_5 h3_6 h3_7 h3_8 h3_9:Int) (Dq Ew:List Int) (Et:List wA) (Ey:Int) (Dw:List Int):Prop:=
(decide (s9<(Bn.length:Int))=true->
(0<=s9)/\s9<(Bn.length:Int)/\(ROk (wj.mk Ek Dl El h3_3 h3_4 h3_5 h3_6 h3_7 h3_8 h3_9 Dq Ew Et Ey Dw)/\TR (ix Bn s9)/\TL (ix Bn s9))/\let r3:=(rperf (wj.mk Ek Dl El h3_3 h3_4 h3_5 h3_6 h3_7 h3_8 h3_9 Dq Ew Et Ey Dw) (ix Bn s9)).m
 let r4:Int:=((rperf (wj.mk Ek Dl El h3_3 h3_4 h3_5 h3_6 h3_7 h3_8 h3_9 Dq Ew Et Ey Dw) (ix Bn s9)).e)
((r4 !=0)=true->
 Aa=r0.wb/\Ab=r0.wR/\Ac=r0.wL/\Am=r0.wJ/\Ar=r0.wG/\Ao=r0.wQ/\Av=r0.wM/\Aw=r0.wP/\Au=r0.wc/\Bg=r0.wU/\Bl=r0.wo/\Ax=r0.wE/\B4=r0.wB/\B6=r0.wv/\Bf=r0.wn/\r4=r1)/\
((r4 !=0)=false->
(0<=s9)/\s9<(Bn.length:Int)/\let v5:Int:=IntKind.u64.wrap (s7+((ix Bn s9).Fee))
 k1 v5 (IntKind.i64.wrap (s9+1):Int) r3.wb r3.wR r3.wL r3.wJ r3.wG r3.wQ r3.wM r3.wP r3.wc r3.wU r3.wo r3.wE r3.wB r3.wv r3.wn))/\
(decide (s9<(Bn.length:Int))=false->
(OkA Et/\U64 (IntKind.u64.wrap (Ao+s7)))/\let r6:=creditA Et Ak (IntKind.u64.wrap (Ao+s7))
((r6.2 !=0)=true->
 Aa=r0.wb/\Ab=r0.wR/\Ac=r0.wL/\Am=r0.wJ/\Ar=r0.wG/\Ao=r0.wQ/\Av=r0.wM/\Aw=r0.wP/\Au=r0.wc/\Bg=r0.wU/\Bl=r0.wo/\Ax=r0.wE/\B4=r0.wB/\B6=r0.wv/\Bf=r0.wn/\r6.2=r1)/\
((r6.2 !=0)=false->
([]:List Int).length=([]:List Int).length/\(([]:List Int).length+Dw.length)*8<=140737488355328/\([]:List Int).length+Dw.length<=maxLen/\((0<=Dl/\Dl<=12)/\Dq.length<=2^Dl.toNat/\(∀x∈Dq,0<=x/\x<18446744069414584321))/\(([]:List Int)++Dw).length=(([]:List Int)++Dw).length/\[(TT (lf Dq) Dl.toNat 0)].length=[(TT (lf Dq) Dl.toNat 0)].length/\((([]:List Int)++Dw).length+[(TT (lf Dq) Dl.toNat 0)].length)*8<=140737488355328/\(([]:List Int)++Dw).length+[(TT (lf Dq) Dl.toNat 0)].length<=maxLen/\let v7:List Int:=(([]:List Int)++Dw)++[(TT (lf Dq) Dl.toNat 0)]
(v7.length=v7.length)/\Ek=r0.wb/\Dl=r0.wR/\El=r0.wL/\h3_3=r0.wJ/\h3_4=r0.wG/\h3_5=r0.wQ/\h3_6=r0.wM/\h3_7=r0.wP/\h3_8=r0.wc/\IntKind.i64.wrap (h3_9+1)=r0.wU/\Dq=r0.wo/\Ew=r0.wE/\r6.1=r0.wB/\Ey=r0.wv/\v7=r0.wn/\0=r1))
set_option maxHeartbeats 4000000 in
theorem k1lh {r0:wj} {r1 Aa Ab Ac Am Ar Ao Av Aw Au Bg:Int} {Bl Ax:List Int} {B4:List wA} {B6:Int} {Bf:List Int} {Ai Aj Ak Bm Cb:Int} {Bn:List wm} {Cc C3 C4 C5 C6 C7 C8 C9 Da Db:Int} {Co Cp:List Int} {Cq:List wA} {Cr:Int} {Cs:List Int} {s7 s9 Ek Dl El h3_3 h3_4 h3_5 h3_6 h3_7 h3_8 h3_9:Int} {Dq Ew:List Int} {Et:List wA} {Ey:Int} {Dw:List Int} (inv:Int->Int->Int->Int->Int->Int->Int->Int->Int->Int->Int->Int->List Int->List Int->List wA->Int->List Int->Prop) (μ:Int->Int->Int->Int->Int->Int->Int->Int->Int->Int->Int->Int->List Int->List Int->List wA->Int->List Int->Nat) (h0:inv s7 s9 Ek Dl El h3_3 h3_4 h3_5 h3_6 h3_7 h3_8 h3_9 Dq Ew Et Ey Dw) (hs:∀(s7 s9 Ek Dl El h3_3 h3_4 h3_5 h3_6 h3_7 h3_8 h3_9:Int) (Dq Ew:List Int) (Et:List wA) (Ey:Int) (Dw:List Int),inv s7 s9 Ek Dl El h3_3 h3_4 h3_5 h3_6 h3_7 h3_8 h3_9 Dq Ew Et Ey Dw->k138 r0 r1 (fun s7q s9q Dt Du Dv h3_3q h3_4q h3_5q h3_6q h3_7q h3_8q h3_9q Ez E0 E1 E2 E3=>inv s7q s9q Dt Du Dv h3_3q h3_4q h3_5q h3_6q h3_7q h3_8q h3_9q Ez E0 E1 E2 E3/\μ s7q s9q Dt Du Dv h3_3q h3_4q h3_5q h3_6q h3_7q h3_8q h3_9q Ez E0 E1 E2 E3<μ s7 s9 Ek Dl El h3_3 h3_4 h3_5 h3_6 h3_7 h3_8 h3_9 Dq Ew Et Ey Dw) Aa Ab Ac Am Ar Ao Av Aw Au Bg Bl Ax B4 B6 Bf Ai Aj Ak Bm Cb Bn Cc C3 C4 C5 C6 C7 C8 C9 Da Db Co Cp Cq Cr Cs s7 s9 Ek Dl El h3_3 h3_4 h3_5 h3_6 h3_7 h3_8 h3_9 Dq Ew Et Ey Dw):Md.Loop (s7,s9,Aa,Ab,Ac,Am,Ar,Ao,Av,Aw,Au,Bg,Bl,Ax,B4,B6,Bf,Ai,Aj,Ak,Bm,Cb,Bn,Cc,C3,C4,C5,C6,C7,C8,C9,Da,Db,Co,Cp,Cq,Cr,Cs,Ek,Dl,El,h3_3,h3_4,h3_5,h3_6,h3_7,h3_8,h3_9,Dq,Ew,Et,Ey,Dw,()) (kec (r0.wb,r0.wR,r0.wL,r0.wJ,r0.wG,r0.wQ,r0.wM,r0.wP,r0.wc,r0.wU,r0.wo,r0.wE,r0.wB,r0.wv,r0.wn,r1,())):=
 ⟨⟨fun((s7q,s9q,Al,Ap,Aq,Ce,Cg,Ch,Ci,Cj,Ck,Cd,Cl,B8,Fb,Fc,Ct,B0,B2,B3,Dg,D0,Dh,Em,h2_1q,h2_2q,h2_3q,h2_4q,h2_5q,h2_6q,h2_7q,h2_8q,h2_9q,h2_10q,h2_11q,h2_12q,h2_13q,h2_14q,Dt,Du,Dv,h3_3q,h3_4q,h3_5q,h3_6q,h3_7q,h3_8q,h3_9q,Ez,E0,E1,E2,E3,()):Int×Int×Int×Int×Int×Int×Int×Int×Int×Int×Int×Int×(List Int)×(List Int)×(List wA)×Int×(List Int)×Int×Int×Int×Int×Int×(List wm)×Int×Int×Int×Int×Int×Int×Int×Int×Int×Int×(List Int)×(List Int)×(List wA)×Int×(List Int)×Int×Int×Int×Int×Int×Int×Int×Int×Int×Int×(List Int)×(List Int)×(List wA)×Int×(List Int)×Unit)=>(Aa=Al/\Ab=Ap/\Ac=Aq/\Am=Ce/\Ar=Cg/\Ao=Ch/\Av=Ci/\Aw=Cj/\Au=Ck/\Bg=Cd/\Bl=Cl/\Ax=B8/\B4=Fb/\B6=Fc/\Bf=Ct/\Ai=B0/\Aj=B2/\Ak=B3/\Bm=Dg/\Cb=D0/\Bn=Dh/\Cc=Em/\C3=h2_1q/\C4=h2_2q/\C5=h2_3q/\C6=h2_4q/\C7=h2_5q/\C8=h2_6q/\C9=h2_7q/\Da=h2_8q/\Db=h2_9q/\Co=h2_10q/\Cp=h2_11q/\Cq=h2_12q/\Cr=h2_13q/\Cs=h2_14q)/\inv s7q s9q Dt Du Dv h3_3q h3_4q h3_5q h3_6q h3_7q h3_8q h3_9q Ez E0 E1 E2 E3,fun((s7q,s9q,_,_,_,_,_,_,_,_,_,_,_,_,_,_,_,_,_,_,_,_,_,_,_,_,_,_,_,_,_,_,_,_,_,_,_,_,Dt,Du,Dv,h3_3q,h3_4q,h3_5q,h3_6q,h3_7q,h3_8q,h3_9q,Ez,E0,E1,E2,E3,()):Int×Int×Int×Int×Int×Int×Int×Int×Int×Int×Int×Int×(List Int)×(List Int)×(List wA)×Int×(List Int)×Int×Int×Int×Int×Int×(List wm)×Int×Int×Int×Int×Int×Int×Int×Int×Int×Int×(List Int)×(List Int)×(List wA)×Int×(List Int)×Int×Int×Int×Int×Int×Int×Int×Int×Int×Int×(List Int)×(List Int)×(List wA)×Int×(List Int)×Unit)=>μ s7q s9q Dt Du Dv h3_3q h3_4q h3_5q h3_6q h3_7q h3_8q h3_9q Ez E0 E1 E2 E3,⟨⟨rfl,rfl,rfl,rfl,rfl,rfl,rfl,rfl,rfl,rfl,rfl,rfl,rfl,rfl,rfl,rfl,rfl,rfl,rfl,rfl,rfl,rfl,rfl,rfl,rfl,rfl,rfl,rfl,rfl,rfl,rfl,rfl,rfl,rfl,rfl,rfl⟩,h0⟩,fun(s7p,s9p,B7,B9,Ca,Dy,D3,D4,Ee,Ef,Eg,Dz,D5,Dc,h0_12p,h0_13p,Es,Cu,De,Df,Fd,h1_4p,Fe,h2_0p,h2_1p,h2_2p,h2_3p,h2_4p,h2_5p,h2_6p,h2_7p,h2_8p,h2_9p,h2_10p,h2_11p,h2_12p,h2_13p,h2_14p,h3_0p,h3_1p,h3_2p,h3_3p,h3_4p,h3_5p,h3_6p,h3_7p,h3_8p,h3_9p,h3_10p,h3_11p,h3_12p,h3_13p,h3_14p,()) ⟨eq,hi⟩=>by
  obtain⟨rfl,rfl,rfl,rfl,rfl,rfl,rfl,rfl,rfl,rfl,rfl,rfl,rfl,rfl,rfl,rfl,rfl,rfl,rfl,rfl,rfl,rfl,rfl,rfl,rfl,rfl,rfl,rfl,rfl,rfl,rfl,rfl,rfl,rfl,rfl,rfl⟩:=eq;exact mpr_of (by kernel_rfl) ((congrArg (fun k=>k138 r0 r1 k Aa Ab Ac Am Ar Ao Av Aw Au Bg Bl Ax B4 B6 Bf Ai Aj Ak Bm Cb Bn Cc C3 C4 C5 C6 C7 C8 C9 Da Db Co Cp Cq Cr Cs s7p s9p h3_0p h3_1p h3_2p h3_3p h3_4p h3_5p h3_6p h3_7p h3_8p h3_9p h3_10p h3_11p h3_12p h3_13p h3_14p) (lpk17 (⟨rfl,rfl,rfl,rfl,rfl,rfl,rfl,rfl,rfl,rfl,rfl,rfl,rfl,rfl,rfl,rfl,rfl,rfl,rfl,rfl,rfl,rfl,rfl,rfl,rfl,rfl,rfl,rfl,rfl,rfl,rfl,rfl,rfl,rfl,rfl,rfl⟩:Aa=Aa/\Ab=Ab/\Ac=Ac/\Am=Am/\Ar=Ar/\Ao=Ao/\Av=Av/\Aw=Aw/\Au=Au/\Bg=Bg/\Bl=Bl/\Ax=Ax/\B4=B4/\B6=B6/\Bf=Bf/\Ai=Ai/\Aj=Aj/\Ak=Ak/\Bm=Bm/\Cb=Cb/\Bn=Bn/\Cc=Cc/\C3=C3/\C4=C4/\C5=C5/\C6=C6/\C7=C7/\C8=C8/\C9=C9/\Da=Da/\Db=Db/\Co=Co/\Cp=Cp/\Cq=Cq/\Cr=Cr/\Cs=Cs) inv (fun s7q s9q Dt Du Dv h3_3q h3_4q h3_5q h3_6q h3_7q h3_8q h3_9q Ez E0 E1 E2 E3=>μ s7q s9q Dt Du Dv h3_3q h3_4q h3_5q h3_6q h3_7q h3_8q h3_9q Ez E0 E1 E2 E3<μ s7p s9p h3_0p h3_1p h3_2p h3_3p h3_4p h3_5p h3_6p h3_7p h3_8p h3_9p h3_10p h3_11p h3_12p h3_13p h3_14p))).mpr (hs s7p s9p h3_0p h3_1p h3_2p h3_3p h3_4p h3_5p h3_6p h3_7p h3_8p h3_9p h3_10p h3_11p h3_12p h3_13p h3_14p hi))⟩⟩
theorem bd36:Callable Tryz.prog 36:=⟨by rw[Tryz.func36];kernel_rfl,by rw[Tryz.func36];show some _≠some _;decide⟩
theorem k1i4 (p0:wj) (p1:wd) (h:(∃(s:PS) (c:Nat),p0=mOf s/\c+p1.Txs.length<=790/\PI s c 0)/\BR' p1):km6 (p0.wb,p0.wR,p0.wL,p0.wJ,p0.wG,p0.wQ,p0.wM,p0.wP,p0.wc,p0.wU,p0.wo,p0.wE,p0.wB,p0.wv,p0.wn,p1.wAR,p1.wU,p1.wAG,p1.wl,p1.wO,p1.Txs,()) ((((rapply p0 p1).m).wb:Int),(((rapply p0 p1).m).wR:Int),(((rapply p0 p1).m).wL:Int),(((rapply p0 p1).m).wJ:Int),(((rapply p0 p1).m).wG:Int),(((rapply p0 p1).m).wQ:Int),(((rapply p0 p1).m).wM:Int),(((rapply p0 p1).m).wP:Int),(((rapply p0 p1).m).wc:Int),(((rapply p0 p1).m).wU:Int),(((rapply p0 p1).m).wo:List Int),(((rapply p0 p1).m).wE:List Int),(((rapply p0 p1).m).wB:List wA),(((rapply p0 p1).m).wv:Int),(((rapply p0 p1).m).wn:List Int),(((rapply p0 p1).e):Int),()):=by
 obtain⟨⟨s,c,rfl,hc,hp⟩,hb⟩:=h
 have hpl:=hp.p
 generalize hR:rapply (mOf s) p1=R
 unfold rapply at hR
 generalize hG:rGo p1.Txs (mOf s) 0=G at hR
 have hH:(mOf s).wU=(s.p.length:Int):=rfl
 have ei:IntKind.i64.wrap ((mOf s).wU+1)=(mOf s).wU+1:=by rw[hH];exact k1i _ (by omega) (by omega)
 refine k1oy (r0:=R.m) ?_
 rw[ei]
 refine⟨fun e=> ?_,fun e=>⟨fun e2=> ?_,fun e2=> ?_⟩⟩
 ·have e:p1.wU≠(mOf s).wU+1:=by simpa using e
  rw[if_pos e]at hR
  subst hR
  exact(by repeat' first|apply And.intro|exact rfl|exact True.intro)
 ·have e:¬p1.wU≠(mOf s).wU+1:=by simpa using e
  rw[if_neg e,if_pos (of_decide_eq_true e2)]at hR
  subst hR
  exact(by repeat' first|apply And.intro|exact rfl|exact True.intro)
 have e:¬p1.wU≠(mOf s).wU+1:=by simpa using e
 rw[if_neg e,if_neg (of_decide_eq_false e2)]at hR
 refine k1lh (r0:=R.m) (fun fe a y0 y1 y2 y3 y4 y5 y6 y7 y8 y9 y10 y11 y12 y13 y14=>∃i:Nat,a=(i:Int)/\i<=p1.Txs.length/\∃(s' :PS) (c' :Nat),(y0=(mOf s').wb/\y1=(mOf s').wR/\y2=(mOf s').wL/\y3=(mOf s').wJ/\y4=(mOf s').wG/\y5=(mOf s').wQ/\y6=(mOf s').wM/\y7=(mOf s').wP/\y8=(mOf s').wc/\y9=(mOf s').wU/\y10=(mOf s').wo/\y11=(mOf s').wE/\y12=(mOf s').wB/\y13=(mOf s').wv/\y14=(mOf s').wn)/\c' +(p1.Txs.length-i)<=790/\PI s' c' fe/\s'.R=s.R/\rGo (p1.Txs.drop i) (mOf s') fe=G) (fun _ a _ _ _ _ _ _ _ _ _ _ _ _ _ _ _=>(p1.Txs.length-a).toNat) ⟨0,rfl,by omega,s,c,⟨rfl,rfl,rfl,rfl,rfl,rfl,rfl,rfl,rfl,rfl,rfl,rfl,rfl,rfl,rfl⟩,by omega,hp,rfl,hG⟩ ?_
 rintro fe _ _ _ _ _ _ _ _ _ _ _ _ _ _ _ _ ⟨i,rfl,hi,s',c',⟨rfl,rfl,rfl,rfl,rfl,rfl,rfl,rfl,rfl,rfl,rfl,rfl,rfl,rfl,rfl⟩,hc',hq,hsR,hg⟩
 have em:wj.mk (mOf s').wb (mOf s').wR (mOf s').wL (mOf s').wJ (mOf s').wG (mOf s').wQ (mOf s').wM (mOf s').wP (mOf s').wc (mOf s').wU (mOf s').wo (mOf s').wE (mOf s').wB (mOf s').wv (mOf s').wn=mOf s' :=rfl
 have hqk:=hq.rok (by omega)
 refine⟨fun e3=> ?_,fun e3=> ?_⟩
 ·have e3:i<p1.Txs.length:=by have:=of_decide_eq_true e3;omega
  have ht:=hb.t _ (List.getElem_mem e3)
  have hl:=hb.l _ (List.getElem_mem e3)
  rw[List.drop_eq_getElem_cons e3]at hg
  unfold rGo at hg
  rw[ix_get _ _ e3,inc_i64 _ (by omega),em]
  refine⟨by omega,by omega,⟨hqk,ht,hl⟩,fun e4=> ?_,fun e4=> ?_⟩
  ·have e4:(rperf (mOf s') p1.Txs[i]).e≠0:=by simpa using e4
   rw[if_pos e4]at hg
   subst hg
   simp only at hR
   rw[if_pos e4]at hR
   subst hR
   exact(by repeat' first|apply And.intro|exact rfl|exact True.intro)
  ·have e4:(rperf (mOf s') p1.Txs[i]).e=0:=by simpa using e4
   rw[if_neg (fun hh=>hh e4)]at hg
   have hk0:chkS s' p1.Txs[i]=0:=by
    rw[<-rchk_eq]
    refine Classical.byContradiction fun hn=> ?_
    unfold rperf at e4
    rw[if_pos hn]at e4
    exact hn e4
   have k:=kwx hk0
   obtain⟨g1,g2⟩:=k1sy hk0
   rw[g1]at e4
   have g2:=g2 e4
   have h9:=(hq.perf (by omega) ht k).2.2 e4
   rw[k1br hq (by omega) ht k]at hg ⊢
   rw[g2]at hg ⊢
   exact⟨by omega,by omega,⟨i+1,rfl,by omega,(perfS s' p1.Txs[i]).s,c' +1,⟨rfl,rfl,rfl,rfl,rfl,rfl,rfl,rfl,rfl,rfl,rfl,rfl,rfl,rfl,rfl⟩,by omega,h9,(k1kg s' p1.Txs[i]).1.trans hsR,hg⟩,by omega⟩
 ·have e3:i=p1.Txs.length:=by have:=of_decide_eq_false e3;omega
  subst e3
  rw[List.drop_length]at hg
  unfold rGo at hg
  subst hg
  have hw:=k1aq (x:=⟨0,s',[],fe⟩) hq (by omega)
  simp only at hw
  have hrr:(mOf s).wQ=s'.R.wW:=by rw[hsR];rfl
  rw[hrr]at hR ⊢
  unfold rcr at hR
  simp only at hR
  rw[if_neg (fun hh=>hh rfl)]at hR
  have hpq:=hq.p
  have hrq:=hq.rl
  have hgk:=hq.b.1
  have hrl2:(mOf s').wn.length<=1000000:=hqk.rl
  refine⟨⟨hgk,?_⟩,fun e4=> ?_,fun e4=> ?_⟩
  ·rw[hw.1];exact hw.2
  ·have e4:(creditA (mOf s').wB p1.wAG (IntKind.u64.wrap (s'.R.wW+fe))).2≠0:=by simpa using e4
   rw[if_pos e4]at hR
   subst hR
   rw[<-hrr]
   exact(by repeat' first|apply And.intro|exact rfl|exact True.intro)
  ·have e4:(creditA (mOf s').wB p1.wAG (IntKind.u64.wrap (s'.R.wW+fe))).2=0:=by simpa using e4
   rw[if_neg (fun hh=>hh e4)]at hR
   have eh:IntKind.i64.wrap ((mOf s').wU+1)=(mOf s').wU+1:=by
    show IntKind.i64.wrap ((s'.p.length:Int)+1)=(s'.p.length:Int)+1
    exact k1i _ (by omega) (by omega)
   have hd1:=hqk.d1
   have hd2:=hqk.d2
   rw[eh]
   simp only[List.nil_append]
   subst hR
   refine⟨(by first|exact rfl|exact True.intro),?_,?_,⟨⟨by omega,hd2⟩,hq.ll,hq.l⟩,(by first|exact rfl|exact True.intro),(by first|exact rfl|exact True.intro),?_,?_,(by repeat' first|apply And.intro|exact rfl|exact True.intro)⟩
   all_goals simp only[List.length_cons,List.length_nil]
   all_goals first|omega|(unfold maxLen;omega)
noncomputable def kzv:Con TB.den:=k52.fnR (fun(a0,a1,a2,a3,a4,a5,a6,a7,a8,a9,a10,a11,a12,a13,a14,a15,a16,a17,a18,a19,a20,())=>(fun(p0:wj) (p1:wd)=>(∃(s:PS) (c:Nat),p0=mOf s/\c+p1.Txs.length<=790/\PI s c 0)/\BR' p1) (wj.mk a0 a1 a2 a3 a4 a5 a6 a7 a8 a9 a10 a11 a12 a13 a14) (wd.mk a15 a16 a17 a18 a19 a20)) fun(a0,a1,a2,a3,a4,a5,a6,a7,a8,a9,a10,a11,a12,a13,a14,a15,a16,a17,a18,a19,a20,())=>(fun(p0:wj) (p1:wd)=>((((rapply p0 p1).m).wb:Int),(((rapply p0 p1).m).wR:Int),(((rapply p0 p1).m).wL:Int),(((rapply p0 p1).m).wJ:Int),(((rapply p0 p1).m).wG:Int),(((rapply p0 p1).m).wQ:Int),(((rapply p0 p1).m).wM:Int),(((rapply p0 p1).m).wP:Int),(((rapply p0 p1).m).wc:Int),(((rapply p0 p1).m).wU:Int),(((rapply p0 p1).m).wo:List Int),(((rapply p0 p1).m).wE:List Int),(((rapply p0 p1).m).wB:List wA),(((rapply p0 p1).m).wv:Int),(((rapply p0 p1).m).wn:List Int),(((rapply p0 p1).e):Int),())) (wj.mk a0 a1 a2 a3 a4 a5 a6 a7 a8 a9 a10 a11 a12 a13 a14) (wd.mk a15 a16 a17 a18 a19 a20)
theorem k1q6:kzv.Ok Tryz.prog TB:=Con.ok_fn k52 bd36 fun(a0,a1,a2,a3,a4,a5,a6,a7,a8,a9,a10,a11,a12,a13,a14,a15,a16,a17,a18,a19,a20,()) h=>k1ld (k1i4 (wj.mk a0 a1 a2 a3 a4 a5 a6 a7 a8 a9 a10 a11 a12 a13 a14) (wd.mk a15 a16 a17 a18 a19 a20) h)
def kai:Con TB.den:=Con.mk0 25 [.agg [zqi,zqi,zqi,zqi,zqi,zqu,zqi,zqi,zqu]] [] (.one (.agg [zqi,zqi,zqi,zqi,zqi,zqu,zqi,zqi,zqu,zqi,zql,zql,.d (.sl (.st 8)),zqu,zql])) []
abbrev k1k5:=CI kai
abbrev k13x:=CO kai
noncomputable def kxt:Cx TB:=⟨inf,[kn7],[],4,[]⟩
noncomputable def k1pk:Code:=Tryz.f25.body.getD .skip
noncomputable def k1vx:List ResultVar:=Tryz.f25.results.toList
noncomputable def k1vt (o:k13x):An TB:= .no
def krg (x:k1k5) (o:k13x):Prop:=WPh TB kxt 9 0 k1pk (k1vt o) (kai.st TB x) (retTQ TB kxt kai k1vx o)
theorem k1t6 {x:k1k5} {o:k13x} (h:krg x o):kai.Snd Tryz.prog x o:=
 Con.soundH (c:=kai) (C:=kxt) TBok ⟨inf_ok,(all_cons k11j all_nil),all_nil⟩ mix Tryz.func25 (by kernel_rfl) (by kernel_rfl) (by kernel_rfl) rfl h (OblH.ofC (X:=True) (by kernel_rfl) trivial)
theorem k1v4 {p0:wF} {r0:wj} (h:
(((0<=p0.wD/\p0.wD<=12)/\([]:List Int).length<=2^p0.wD.toNat/\(∀x∈([]:List Int),0<=x/\x<18446744069414584321))/\let r1:Int:=(TT (lf ([]:List Int)) p0.wD.toNat 0)
 p0.wt=r0.wb/\p0.wD=r0.wR/\p0.wN=r0.wL/\p0.wK=r0.wJ/\p0.wH=r0.wG/\p0.wW=r0.wQ/\p0.wa=r0.wM/\p0.wS=r0.wP/\p0.wl=r0.wc/\0=r0.wU/\([]:List Int)=r0.wo/\([]:List Int)=r0.wE/\([]:List wA)=r0.wB/\0=r0.wv/\[r1]=r0.wn)):krg (p0.wt,p0.wD,p0.wN,p0.wK,p0.wH,p0.wW,p0.wa,p0.wS,p0.wl,()) (r0.wb,r0.wR,r0.wL,r0.wJ,r0.wG,r0.wQ,r0.wM,r0.wP,r0.wc,r0.wU,r0.wo,r0.wE,r0.wB,r0.wv,r0.wn,()):=WPh.of_eq (by kernel_rfl) h
theorem bd25:Callable Tryz.prog 25:=⟨by rw[Tryz.func25];kernel_rfl,by rw[Tryz.func25];show some _≠some _;decide⟩
theorem k1q8 (p0:wF) (h:rulesE p0=0):krg (p0.wt,p0.wD,p0.wN,p0.wK,p0.wH,p0.wW,p0.wa,p0.wS,p0.wl,()) (((mOf (newS p0)).wb:Int),((mOf (newS p0)).wR:Int),((mOf (newS p0)).wL:Int),((mOf (newS p0)).wJ:Int),((mOf (newS p0)).wG:Int),((mOf (newS p0)).wQ:Int),((mOf (newS p0)).wM:Int),((mOf (newS p0)).wP:Int),((mOf (newS p0)).wc:Int),((mOf (newS p0)).wU:Int),((mOf (newS p0)).wo:List Int),((mOf (newS p0)).wE:List Int),((mOf (newS p0)).wB:List wA),((mOf (newS p0)).wv:Int),((mOf (newS p0)).wn:List Int),()):=by
 have hb:rulesB p0=true:=by
  cases hb:rulesB p0 with
  |true=>rfl
  |false=>unfold rulesE at h;rw[hb]at h;cases h
 have hd:1<=p0.wD/\p0.wD<=12:=by
  simp only[rulesB,Bool.and_eq_true,decide_eq_true_eq]at hb
  omega
 have hr:=kn6 (d:=p0.wD) (l:=[]) (by omega) (Nat.zero_le _)
 refine k1v4 (r0:=mOf (newS p0)) ⟨⟨⟨by omega,hd.2⟩,Nat.zero_le _,fun x hx=>by cases hx⟩,?_⟩
 rw[<-hr]
 exact(by repeat' first|apply And.intro|exact rfl|exact True.intro)
noncomputable def k17z:Con TB.den:=kai.fnR (fun(a0,a1,a2,a3,a4,a5,a6,a7,a8,())=>(fun(p0:wF)=>rulesE p0=0) (wF.mk a0 a1 a2 a3 a4 a5 a6 a7 a8)) fun(a0,a1,a2,a3,a4,a5,a6,a7,a8,())=>(fun(p0:wF)=>(((mOf (newS p0)).wb:Int),((mOf (newS p0)).wR:Int),((mOf (newS p0)).wL:Int),((mOf (newS p0)).wJ:Int),((mOf (newS p0)).wG:Int),((mOf (newS p0)).wQ:Int),((mOf (newS p0)).wM:Int),((mOf (newS p0)).wP:Int),((mOf (newS p0)).wc:Int),((mOf (newS p0)).wU:Int),((mOf (newS p0)).wo:List Int),((mOf (newS p0)).wE:List Int),((mOf (newS p0)).wB:List wA),((mOf (newS p0)).wv:Int),((mOf (newS p0)).wn:List Int),())) (wF.mk a0 a1 a2 a3 a4 a5 a6 a7 a8)
theorem k1vv:k17z.Ok Tryz.prog TB:=Con.ok_fn kai bd25 fun(a0,a1,a2,a3,a4,a5,a6,a7,a8,()) h=>k1t6 (k1q8 (wF.mk a0 a1 a2 a3 a4 a5 a6 a7 a8) h)
def k68:Con TB.den:=Con.mk0 13 [.agg [zqi,zqi,zqi,zqi,zqi,zqu,zqi,zqi,zqu],.one (.d (.sl (.st 3)))] [] (.tup [.one (.ptr 0 0),.one (.view 1),.one (.d (.bool))]) [.cells [zqi,zqi,zqi,zqi,zqi,zqu,zqi,zqi,zqu,zqi,zqi,zql,.row 2,.ptr 3 0,.d (.sl (.st 8)),zqu,.row 4,.row 5],.vec (.st 13),.vec yqu,.cells [.mp 6],.vec yqu,.vec (.st 9),.map yqu (.bool)]
abbrev k1e7:=CI k68
abbrev k3q:=CO k68
noncomputable def k8u:Cx TB:=⟨inf,[ks4,kjt,k17z,kvw,kzv,kja],[],4,[27,72,73]⟩
noncomputable def khf:Code:=Tryz.f13.body.getD .skip
noncomputable def ku3:List ResultVar:=Tryz.f13.results.toList
def k1uc (o:k3q):=qS TB k8u 77 0 (cB (cB (cB (cB (cB khf))))) .no (retTQ TB k8u k68 ku3 o)
def k55:Tm:=⟨[1,7,2,3,4,5,6],[.cells [zqi,zqi,zqi,zqi,zqi,zqu,zqi,zqi,zqu,zqi,zqi,zql,.row 2,.ptr 3 0,.d (.sl (.st 8)),zqu,.row 4,.row 5],.vec (.st 13),.vec yqu,.cells [.mp 6],.vec yqu,.vec (.st 9),.map yqu (.bool)],[7,9,28,29,30],[.one (.ptr 0 0),.one (.view 1),.one (.d (.sl (.st 3))),.one (zqi),.one (zqi)],8⟩
noncomputable def k1uk (o:k3q) (nx1:NX TB k55):An TB:= .nd [] .no [] (.nd [] (.nd [] .no [] (.rt [.rnil 5 (.st 13)])) [] .no)
noncomputable def k1ub (o:k3q) (nx1:NX TB k55):An TB:= .nd [] .no [] (.nd [] (.nd [] .no [] (.rt [.rnil 5 (.st 13)])) [] .no)
noncomputable def k1tn (o:k3q) (nx1:NX TB k55):An TB:= .nd [] .no [] (.nd [] (.nd [] (k1ub o nx1) [] .no) [] .no)
noncomputable def k1pr (o:k3q) (nx1:NX TB k55):An TB:= .nd [] (k1tn o nx1) [] (.nd [] .no [] (.nd [] (k1uk o nx1) [] .no))
noncomputable def k13j (o:k3q) (nx1:NX TB k55):An TB:= .nd [] .no [] (.nd [] (.nd [] .no [] (k1pr o nx1)) [] .no)
def kh1 (o:k3q) (nx1:NX TB k55) (i:HL TB.den k55.hs):Prop:=WP TB k8u 77 0 (cA (cA (cB (cA (cB (cB (cB (cB khf)))))))) (.nd [] .no [] (k13j o nx1)) (k55.fill TB i) (qM TB 0 k55 nx1 (blockT TB 0 (k1uc o)))
noncomputable def k1qo (o:k3q):An TB:= .lp [] k55 (kh1 o) fun nx1=>(.nd [] .no [] (k13j o nx1))
noncomputable def k1s1 (o:k3q):An TB:= .nd [] .no [] (.nd [] (.nd [] .no [] (k1qo o)) [] .no)
noncomputable def k1s6 (o:k3q):An TB:= .nd [] .no [] (.nd [] (.nd [] .no [] (.rt [.rnil 5 (.st 13)])) [] .no)
noncomputable def k17h (o:k3q):An TB:= .nd [] .no [] (.nd [] .no [] (.nd [] (k1s6 o) [] (k1s1 o)))
def knd (x:k1e7) (o:k3q):Prop:=WPh TB k8u 77 0 khf (k17h o) (k68.st TB x) (retTQ TB k8u k68 ku3 o)
theorem k1rk (o:k3q):OblH TB k8u 77 0 khf (k17h o) (retTQ TB k8u k68 ku3 o):=
 OblH.ofC (X:=((∀nx i,(kh1 o) nx i=(kh1 o) nx i)/\(∀nx1:NX TB k55,True)/\True)) (by kernel_rfl) ⟨fun _ _=>rfl,fun _=>trivial,trivial⟩
theorem k1s3 {x:k1e7} {o:k3q} (h:knd x o):k68.Snd Tryz.prog x o:=
 Con.soundH (c:=k68) (C:=k8u) TBok ⟨inf_ok,(all_cons k187 (all_cons kw7 (all_cons k1vv (all_cons k1n4 (all_cons k1q6 (all_cons kwp all_nil)))))),all_nil⟩ mix Tryz.func13 (by kernel_rfl) (by kernel_rfl) (by kernel_rfl) rfl h (k1rk o)
theorem k1uf {p0:wF} {p1:List wAO} {r1o r1n:Int} {r2:Bool} {Bo Bp Bq Br Bs Bt Bu Bw Bx Bz Bh:Int} {Bi:List Int} {Bj:List wA} {Bk:Int} {e1:List wj} {e2 e4:List Int} {e5:List wI} {e6k:List Int} {e6v:List Bool} (h:
(((rulesE p0=0)/\(((0:Int) !=0)=true->
 False)/\
(((0:Int) !=0)=false->
(rulesE p0=0)/\(((newS p0).p).length=((newS p0).p).length)/\(((newS p0).r).length=((newS p0).r).length)/\(((newS p0).l).length=((newS p0).l).length)/\Md.Loop (((0:Int):Int),((([(mOf (newS p0))].length:Nat):Int):Int),p1,((p1.length:Int):Int),(0:Int),(((newS p0).R.wt):Int),(((newS p0).R.wD):Int),(((newS p0).R.wN):Int),(((newS p0).R.wK):Int),(((newS p0).R.wH):Int),(((newS p0).R.wW):Int),(((newS p0).R.wa):Int),(((newS p0).R.wS):Int),(((newS p0).R.wl):Int),(((newS p0).F.wD):Int),(((newS p0).F.wh):Int),(((newS p0).F.wq):List Int),(((newS p0).b):List wA),(((newS p0).n):Int),([(mOf (newS p0))]:List wj),(((newS p0).l):List Int),(((newS p0).r):List Int),(((newS p0).p):List wI),(((newS p0).k):List Int),(((newS p0).v):List Bool),()) (kh1 (r1o,r1n,r2,Bo,Bp,Bq,Br,Bs,Bt,Bu,Bw,Bx,Bz,Bh,Bi,Bj,Bk,e1,e2,e4,e5,e6k,e6v,()))))∨((rulesE p0≠0)/\False))):knd (p0.wt,p0.wD,p0.wN,p0.wK,p0.wH,p0.wW,p0.wa,p0.wS,p0.wl,p1,()) (r1o,r1n,r2,Bo,Bp,Bq,Br,Bs,Bt,Bu,Bw,Bx,Bz,Bh,Bi,Bj,Bk,e1,e2,e4,e5,e6k,e6v,()):=WPh.of_eq (by kernel_rfl) h
def k18b (r1o r1n:Int) (r2:Bool) (Bo Bp Bq Br Bs Bt Bu Bw Bx Bz Bh:Int) (Bi:List Int) (Bj:List wA) (Bk:Int) (e1:List wj) (e2 e4:List Int) (e5:List wI) (e6k:List Int) (e6v:List Bool) (k1:Int->Int->Int->Int->Int->Int->Int->Int->Int->Int->Int->Int->Int->Int->List Int->List wA->Int->List wj->List Int->List Int->List wI->List Int->List Bool->Prop) (s28:List wAO) (s29 s9o s9n s30 Ai Aj Ak Bm Cb Bn B1 Cf Cm Cn En:Int) (Eo:List Int) (Ep:List wA) (Er:Int) (g7:List wj) (g2 g4:List Int) (g5:List wI) (g6k:List Int) (g6v:List Bool):Prop:=
(decide (s30<s29)=true->
(0<=s30)/\s30<(s28.length:Int)/\((ix s28 s30).wAX=true->
(g5.length=g5.length)/\(g4.length=g4.length)/\(g2.length=g2.length)/\(UOk (PS.mk (wF.mk Ai Aj Ak Bm Cb Bn B1 Cf Cm) (wC.mk Cn En Eo) Ep Er g2 g4 g5 g6k g6v))/\let r3:=undoS (PS.mk (wF.mk Ai Aj Ak Bm Cb Bn B1 Cf Cm) (wC.mk Cn En Eo) Ep Er g2 g4 g5 g6k g6v)
 let v4:Bool:=(!((decide (g5≠[]))==decide (1<(s9n.toNat:Int))))
(v4=true->
 False)/\
(v4=false->
(decide (1<(s9n.toNat:Int))=true->
(0<=IntKind.i64.wrap ((s9n.toNat:Int)-1))/\IntKind.i64.wrap ((s9n.toNat:Int)-1)<=(s9n.toNat:Int)/\(r3.p.length=r3.p.length)/\(r3.r.length=r3.r.length)/\(r3.l.length=r3.l.length)/\k1 ((s9o.toNat:Int):Int) ((((IntKind.i64.wrap ((s9n.toNat:Int)-1)).toNat:Nat):Int):Int) (IntKind.i64.wrap (s30+1):Int) r3.R.wt r3.R.wD r3.R.wN r3.R.wK r3.R.wH r3.R.wW r3.R.wa r3.R.wS r3.R.wl r3.F.wD r3.F.wh r3.F.wq r3.b r3.n g7 r3.l r3.r r3.p r3.k r3.v)/\
(decide (1<(s9n.toNat:Int))=false->
(r3.p.length=r3.p.length)/\(r3.r.length=r3.r.length)/\(r3.l.length=r3.l.length)/\k1 ((s9o.toNat:Int):Int) ((s9n.toNat:Int):Int) (IntKind.i64.wrap (s30+1):Int) r3.R.wt r3.R.wD r3.R.wN r3.R.wK r3.R.wH r3.R.wW r3.R.wa r3.R.wS r3.R.wl r3.F.wD r3.F.wh r3.F.wq r3.b r3.n g7 r3.l r3.r r3.p r3.k r3.v)))/\
((ix s28 s30).wAX=false->
(0<=IntKind.i64.wrap ((s9n.toNat:Int)-1)/\IntKind.i64.wrap ((s9n.toNat:Int)-1)<(s9n.toNat:Int))/\(0<=((s9o.toNat:Int)+IntKind.i64.wrap ((s9n.toNat:Int)-1))/\((s9o.toNat:Int)+IntKind.i64.wrap ((s9n.toNat:Int)-1))<(g7.length:Int))/\((∃(s:PS) (c:Nat),(ix g7 ((s9o.toNat:Int)+IntKind.i64.wrap ((s9n.toNat:Int)-1)))=mOf s/\c+(wd.mk ((ix s28 s30).wAI) ((ix s28 s30).wAJ) ((ix s28 s30).wAM) ((ix s28 s30).wAS) ((ix s28 s30).wAP) ((ix s28 s30).wAH)).Txs.length<=790/\PI s c 0)/\BR' (wd.mk ((ix s28 s30).wAI) ((ix s28 s30).wAJ) ((ix s28 s30).wAM) ((ix s28 s30).wAS) ((ix s28 s30).wAP) ((ix s28 s30).wAH)))/\let r5:=(rapply (ix g7 ((s9o.toNat:Int)+IntKind.i64.wrap ((s9n.toNat:Int)-1))) (wd.mk ((ix s28 s30).wAI) ((ix s28 s30).wAJ) ((ix s28 s30).wAM) ((ix s28 s30).wAS) ((ix s28 s30).wAP) ((ix s28 s30).wAH))).m
 let r6:Int:=((rapply (ix g7 ((s9o.toNat:Int)+IntKind.i64.wrap ((s9n.toNat:Int)-1))) (wd.mk ((ix s28 s30).wAI) ((ix s28 s30).wAJ) ((ix s28 s30).wAM) ((ix s28 s30).wAS) ((ix s28 s30).wAP) ((ix s28 s30).wAH))).e)
(g5.length=g5.length)/\(g4.length=g4.length)/\(g2.length=g2.length)/\((∃c:Nat,c+(wd.mk ((ix s28 s30).wAI) ((ix s28 s30).wAJ) ((ix s28 s30).wAM) ((ix s28 s30).wAS) ((ix s28 s30).wAP) ((ix s28 s30).wAH)).Txs.length<=790/\PI (PS.mk (wF.mk Ai Aj Ak Bm Cb Bn B1 Cf Cm) (wC.mk Cn En Eo) Ep Er g2 g4 g5 g6k g6v) c 0)/\BR' (wd.mk ((ix s28 s30).wAI) ((ix s28 s30).wAJ) ((ix s28 s30).wAM) ((ix s28 s30).wAS) ((ix s28 s30).wAP) ((ix s28 s30).wAH)))/\let r7:Int:=((applyS (PS.mk (wF.mk Ai Aj Ak Bm Cb Bn B1 Cf Cm) (wC.mk Cn En Eo) Ep Er g2 g4 g5 g6k g6v) (wd.mk ((ix s28 s30).wAI) ((ix s28 s30).wAJ) ((ix s28 s30).wAM) ((ix s28 s30).wAS) ((ix s28 s30).wAP) ((ix s28 s30).wAH))).e)
 let r8:=(applyS (PS.mk (wF.mk Ai Aj Ak Bm Cb Bn B1 Cf Cm) (wC.mk Cn En Eo) Ep Er g2 g4 g5 g6k g6v) (wd.mk ((ix s28 s30).wAI) ((ix s28 s30).wAJ) ((ix s28 s30).wAM) ((ix s28 s30).wAS) ((ix s28 s30).wAP) ((ix s28 s30).wAH))).s
((r7 !=r6)=true->
 False)/\
((r7 !=r6)=false->
((r6==0)=true->
 s9o.toNat=0/\s9n.toNat<=g7.length/\[r5].length=[r5].length/\((g7.take s9n.toNat).length+[r5].length)*184<=140737488355328/\(g7.take s9n.toNat).length+[r5].length<=maxLen/\(r8.p.length=r8.p.length)/\(r8.r.length=r8.r.length)/\(r8.l.length=r8.l.length)/\k1 ((0:Int):Int) ((((g7.take s9n.toNat)++[r5]).length:Int):Int) (IntKind.i64.wrap (s30+1):Int) r8.R.wt r8.R.wD r8.R.wN r8.R.wK r8.R.wH r8.R.wW r8.R.wa r8.R.wS r8.R.wl r8.F.wD r8.F.wh r8.F.wq r8.b r8.n ((g7.take s9n.toNat)++[r5]:List wj) r8.l r8.r r8.p r8.k r8.v)/\
((r6==0)=false->
(r8.p.length=r8.p.length)/\(r8.r.length=r8.r.length)/\(r8.l.length=r8.l.length)/\k1 ((s9o.toNat:Int):Int) ((s9n.toNat:Int):Int) (IntKind.i64.wrap (s30+1):Int) r8.R.wt r8.R.wD r8.R.wN r8.R.wK r8.R.wH r8.R.wW r8.R.wa r8.R.wS r8.R.wl r8.F.wD r8.F.wh r8.F.wq r8.b r8.n g7 r8.l r8.r r8.p r8.k r8.v))))/\
(decide (s30<s29)=false->
(g5.length=g5.length)/\(g4.length=g4.length)/\(g2.length=g2.length)/\(s9o.toNat:Int)=r1o/\(s9n.toNat:Int)=r1n/\true=r2/\Ai=Bo/\Aj=Bp/\Ak=Bq/\Bm=Br/\Cb=Bs/\Bn=Bt/\B1=Bu/\Cf=Bw/\Cm=Bx/\Cn=Bz/\En=Bh/\Eo=Bi/\Ep=Bj/\Er=Bk/\g7=e1/\g2=e2/\g4=e4/\g5=e5/\g6k=e6k/\g6v=e6v)
theorem k1r7 {r1o r1n:Int} {r2:Bool} {Bo Bp Bq Br Bs Bt Bu Bw Bx Bz Bh:Int} {Bi:List Int} {Bj:List wA} {Bk:Int} {e1:List wj} {e2 e4:List Int} {e5:List wI} {e6k:List Int} {e6v:List Bool} {s28:List wAO} {s29 s9o s9n s30 Ai Aj Ak Bm Cb Bn B1 Cf Cm Cn En:Int} {Eo:List Int} {Ep:List wA} {Er:Int} {g7:List wj} {g2 g4:List Int} {g5:List wI} {g6k:List Int} {g6v:List Bool} (inv:Int->Int->Int->Int->Int->Int->Int->Int->Int->Int->Int->Int->Int->Int->List Int->List wA->Int->List wj->List Int->List Int->List wI->List Int->List Bool->Prop) (μ:Int->Int->Int->Int->Int->Int->Int->Int->Int->Int->Int->Int->Int->Int->List Int->List wA->Int->List wj->List Int->List Int->List wI->List Int->List Bool->Nat) (h0:inv s9o s9n s30 Ai Aj Ak Bm Cb Bn B1 Cf Cm Cn En Eo Ep Er g7 g2 g4 g5 g6k g6v) (hs:∀(s9o s9n s30 Ai Aj Ak Bm Cb Bn B1 Cf Cm Cn En:Int) (Eo:List Int) (Ep:List wA) (Er:Int) (g7:List wj) (g2 g4:List Int) (g5:List wI) (g6k:List Int) (g6v:List Bool),inv s9o s9n s30 Ai Aj Ak Bm Cb Bn B1 Cf Cm Cn En Eo Ep Er g7 g2 g4 g5 g6k g6v->k18b r1o r1n r2 Bo Bp Bq Br Bs Bt Bu Bw Bx Bz Bh Bi Bj Bk e1 e2 e4 e5 e6k e6v (fun s9oq s9nq s30q B0 B2 B3 Dg D0 Dh Dp Eh Ei Ej E4 E5 E6 E7 g7q g2q g4q g5q g6kq g6vq=>inv s9oq s9nq s30q B0 B2 B3 Dg D0 Dh Dp Eh Ei Ej E4 E5 E6 E7 g7q g2q g4q g5q g6kq g6vq/\μ s9oq s9nq s30q B0 B2 B3 Dg D0 Dh Dp Eh Ei Ej E4 E5 E6 E7 g7q g2q g4q g5q g6kq g6vq<μ s9o s9n s30 Ai Aj Ak Bm Cb Bn B1 Cf Cm Cn En Eo Ep Er g7 g2 g4 g5 g6k g6v) s28 s29 s9o s9n s30 Ai Aj Ak Bm Cb Bn B1 Cf Cm Cn En Eo Ep Er g7 g2 g4 g5 g6k g6v):Md.Loop (s9o,s9n,s28,s29,s30,Ai,Aj,Ak,Bm,Cb,Bn,B1,Cf,Cm,Cn,En,Eo,Ep,Er,g7,g2,g4,g5,g6k,g6v,()) (kh1 (r1o,r1n,r2,Bo,Bp,Bq,Br,Bs,Bt,Bu,Bw,Bx,Bz,Bh,Bi,Bj,Bk,e1,e2,e4,e5,e6k,e6v,())):=
 ⟨⟨fun((s9oq,s9nq,s28q,s29q,s30q,B0,B2,B3,Dg,D0,Dh,Dp,Eh,Ei,Ej,E4,E5,E6,E7,g7q,g2q,g4q,g5q,g6kq,g6vq,()):Int×Int×(List wAO)×Int×Int×Int×Int×Int×Int×Int×Int×Int×Int×Int×Int×Int×(List Int)×(List wA)×Int×(List wj)×(List Int)×(List Int)×(List wI)×(List Int)×(List Bool)×Unit)=>(s28=s28q/\s29=s29q)/\inv s9oq s9nq s30q B0 B2 B3 Dg D0 Dh Dp Eh Ei Ej E4 E5 E6 E7 g7q g2q g4q g5q g6kq g6vq,fun((s9oq,s9nq,_,_,s30q,B0,B2,B3,Dg,D0,Dh,Dp,Eh,Ei,Ej,E4,E5,E6,E7,g7q,g2q,g4q,g5q,g6kq,g6vq,()):Int×Int×(List wAO)×Int×Int×Int×Int×Int×Int×Int×Int×Int×Int×Int×Int×Int×(List Int)×(List wA)×Int×(List wj)×(List Int)×(List Int)×(List wI)×(List Int)×(List Bool)×Unit)=>μ s9oq s9nq s30q B0 B2 B3 Dg D0 Dh Dp Eh Ei Ej E4 E5 E6 E7 g7q g2q g4q g5q g6kq g6vq,⟨⟨rfl,rfl⟩,h0⟩,fun(s9op,s9np,s28p,s29p,s30p,Cu,De,Df,Fd,h1_4p,Fe,h1_6p,h1_7p,h1_8p,h1_9p,h1_10p,h1_11p,h1_14p,h1_15p,g7p,g2p,g4p,g5p,g6kp,g6vp,()) ⟨eq,hi⟩=>by
  obtain⟨rfl,rfl⟩:=eq;exact mpr_of (by kernel_rfl) ((congrArg (fun k=>k18b r1o r1n r2 Bo Bp Bq Br Bs Bt Bu Bw Bx Bz Bh Bi Bj Bk e1 e2 e4 e5 e6k e6v k s28 s29 s9op s9np s30p Cu De Df Fd h1_4p Fe h1_6p h1_7p h1_8p h1_9p h1_10p h1_11p h1_14p h1_15p g7p g2p g4p g5p g6kp g6vp) (lpk23 (⟨rfl,rfl⟩:s28=s28/\s29=s29) inv (fun s9oq s9nq s30q B0 B2 B3 Dg D0 Dh Dp Eh Ei Ej E4 E5 E6 E7 g7q g2q g4q g5q g6kq g6vq=>μ s9oq s9nq s30q B0 B2 B3 Dg D0 Dh Dp Eh Ei Ej E4 E5 E6 E7 g7q g2q g4q g5q g6kq g6vq<μ s9op s9np s30p Cu De Df Fd h1_4p Fe h1_6p h1_7p h1_8p h1_9p h1_10p h1_11p h1_14p h1_15p g7p g2p g4p g5p g6kp g6vp))).mpr (hs s9op s9np s30p Cu De Df Fd h1_4p Fe h1_6p h1_7p h1_8p h1_9p h1_10p h1_11p h1_14p h1_15p g7p g2p g4p g5p g6kp g6vp hi))⟩⟩
theorem bd13:Callable Tryz.prog 13:=⟨by rw[Tryz.func13];kernel_rfl,by rw[Tryz.func13];show some _≠some _;decide⟩
theorem k1mc (p0:wF) (p1:List wAO) (h:rulesE p0=0/\0<=p0.wW/\p1.length<=60/\OpsR p1):knd (p0.wt,p0.wD,p0.wN,p0.wK,p0.wH,p0.wW,p0.wa,p0.wS,p0.wl,p1,()) (((0:Int):Int),(((plS p0 p1).n:Int):Int),(true:Bool),((((plS p0 p1).s).R.wt):Int),((((plS p0 p1).s).R.wD):Int),((((plS p0 p1).s).R.wN):Int),((((plS p0 p1).s).R.wK):Int),((((plS p0 p1).s).R.wH):Int),((((plS p0 p1).s).R.wW):Int),((((plS p0 p1).s).R.wa):Int),((((plS p0 p1).s).R.wS):Int),((((plS p0 p1).s).R.wl):Int),((((plS p0 p1).s).F.wD):Int),((((plS p0 p1).s).F.wh):Int),((((plS p0 p1).s).F.wq):List Int),((((plS p0 p1).s).b):List wA),((((plS p0 p1).s).n):Int),(((plS p0 p1).g):List wj),((((plS p0 p1).s).l):List Int),((((plS p0 p1).s).r):List Int),((((plS p0 p1).s).p):List wI),((((plS p0 p1).s).k):List Int),((((plS p0 p1).s).v):List Bool),()):=by
 obtain⟨h,h0,hl,ho⟩:=h
 generalize hG:plS p0 p1=G
 unfold plS at hG
 refine k1uf (.inl ⟨h,fun e=>(by cases e),fun _=>⟨h,rfl,rfl,rfl,?_⟩⟩)
 refine k1r7 (fun q n a x0 x1 x2 x3 x4 x5 x6 x7 x8 x9 x10 x11 bb nn gg ll rr pp kk vv=>∃i m:Nat,a=(i:Int)/\i<=p1.length/\q=0/\n=(m:Int)/\m<=i+1/\(∃(H:List PS) (c:Nat),PH ⟨gg,m,(PS.mk (wF.mk x0 x1 x2 x3 x4 x5 x6 x7 x8) (wC.mk x9 x10 x11) bb nn ll rr pp kk vv)⟩ H c p0/\c+9*(p1.length-i)<=760)/\(p1.drop i).foldl plStep ⟨gg,m,(PS.mk (wF.mk x0 x1 x2 x3 x4 x5 x6 x7 x8) (wC.mk x9 x10 x11) bb nn ll rr pp kk vv)⟩=G) (fun _ _ a _ _ _ _ _ _ _ _ _ _ _ _ _ _ _ _ _ _ _ _=>(p1.length-a).toNat) ⟨0,1,rfl,by omega,rfl,rfl,by omega,⟨[newS p0],0,PH.new h h0,by omega⟩,hG⟩ ?_
 rintro _ _ _ x0 x1 x2 x3 x4 x5 x6 x7 x8 x9 x10 x11 bb nn gg ll rr pp kk vv ⟨i,m,rfl,hi,rfl,rfl,hm,⟨H,c,hH,hc⟩,hg⟩
 generalize hS:(PS.mk (wF.mk x0 x1 x2 x3 x4 x5 x6 x7 x8) (wC.mk x9 x10 x11) bb nn ll rr pp kk vv)=S at hH hg
 refine⟨fun e=> ?_,fun e=> ?_⟩
 ·have e:i<p1.length:=by have:=of_decide_eq_true e;omega
  have hb:=ho.b _ (List.getElem_mem e)
  have hT:(opB p1[i]).Txs.length<=8:=ho.n _ (List.getElem_mem e)
  obtain⟨H2,hH2⟩:=hH.step (o:=p1[i]) (by omega) hb
  have so:=hH.uok (by omega) p1[i]
  obtain⟨hm1,hmg,htop⟩:=hH.top
  have hm1:1<=m:=hm1
  rw[List.drop_eq_getElem_cons e,List.foldl_cons]at hg
  obtain⟨rH,hrH⟩:=hH.pos
  have hPI:PI S c 0:=(hH.i S (by rw[hrH];simp)).1
  have hnl:H.length=m:=hH.n
  have hml:m<=gg.length:=hH.l
  have hmm:m-1<gg.length:=hmg
  have htop:gg[m-1]=mOf S:=htop
  have hse:decide (S.p≠[])=decide (1<m):=so.e
  have hsp:pp=S.p:=by rw[<-hS]
  rw[ix_get _ _ e,inc_i64 _ (by omega),hS]
  refine⟨by omega,by omega,fun hu=>⟨rfl,rfl,rfl,so.u,fun e2=> ?_,fun _=>⟨fun e3=> ?_,fun e3=> ?_⟩⟩,fun hu=> ?_⟩
  ·exfalso
   rw[hsp,hse,Int.toNat_natCast]at e2
   have:decide (1<(m:Int))=decide (1<m):=by
    rw[Bool.eq_iff_iff,decide_eq_true_iff,decide_eq_true_iff]
    omega
   rw[this]at e2
   simp at e2
  ·have e3:=of_decide_eq_true e3
   rw[Int.toNat_natCast]at e3
   have hst:plStep ⟨gg,m,S⟩ p1[i]=⟨gg,m-1,undoS S⟩:=by
    unfold plStep
    rw[if_pos hu,if_pos (show 1<m by omega)]
   rw[hst]at hg hH2
   have ew:IntKind.i64.wrap ((((m:Int).toNat:Nat):Int)-1)=((m-1:Nat):Int):=by
    rw[Int.toNat_natCast,k1i _ (by omega) (by omega)]
    omega
   rw[ew]
   simp only[Int.toNat_natCast]
   exact⟨by omega,by omega,(by first|exact rfl|exact True.intro),(by first|exact rfl|exact True.intro),(by first|exact rfl|exact True.intro),⟨i+1,m-1,(by first|exact rfl|exact True.intro),by omega,(by first|exact rfl|exact True.intro),(by first|exact rfl|exact True.intro),by omega,⟨H2,_,hH2,by omega⟩,hg⟩,by omega⟩
  ·have e3:=of_decide_eq_false e3
   rw[Int.toNat_natCast]at e3
   have hst:plStep ⟨gg,m,S⟩ p1[i]=⟨gg,m,undoS S⟩:=by
    unfold plStep
    rw[if_pos hu,if_neg (show¬1<m by omega)]
   rw[hst]at hg hH2
   simp only[Int.toNat_natCast]
   exact⟨(by first|exact rfl|exact True.intro),(by first|exact rfl|exact True.intro),(by first|exact rfl|exact True.intro),⟨i+1,m,(by first|exact rfl|exact True.intro),by omega,(by first|exact rfl|exact True.intro),(by first|exact rfl|exact True.intro),by omega,⟨H2,_,hH2,by omega⟩,hg⟩,by omega⟩
  ·have ew:IntKind.i64.wrap ((((m:Int).toNat:Nat):Int)-1)=((m-1:Nat):Int):=by
    rw[Int.toNat_natCast,k1i _ (by omega) (by omega)]
    omega
   have e0:(((0:Int).toNat:Nat):Int)+((m-1:Nat):Int)=((m-1:Nat):Int):=by
    rw[show(0:Int).toNat=0 from rfl]
    omega
   have hra:rapply (mOf S) (wd.mk p1[i].wAI p1[i].wAJ p1[i].wAM p1[i].wAS p1[i].wAP p1[i].wAH)=⟨(applyS S (opB p1[i])).e,mOf (applyS S (opB p1[i])).s⟩:=k1y0 (b:=opB p1[i]) hPI (by omega) hb
   rw[ew,e0,ix_get _ _ hmm,htop,hra,show wd.mk p1[i].wAI p1[i].wAJ p1[i].wAM p1[i].wAS p1[i].wAP p1[i].wAH=opB p1[i]from rfl]
   have hu2:¬p1[i].wAX=true:=by rw[hu];decide
   refine⟨⟨by omega,by rw[Int.toNat_natCast];omega⟩,⟨by omega,by omega⟩,⟨⟨S,c,rfl,by omega,hPI⟩,hb⟩,rfl,rfl,rfl,⟨⟨c,by omega,hPI⟩,hb⟩,fun e2=> ?_,fun _=>⟨fun e3=> ?_,fun e3=> ?_⟩⟩
   ·exfalso
    simp at e2
   ·have e3:(applyS S (opB p1[i])).e=0:=by simpa using e3
    have hst:plStep ⟨gg,m,S⟩ p1[i]=⟨gg.take m++[mOf (applyS S (opB p1[i])).s],m+1,(applyS S (opB p1[i])).s⟩:=by
     unfold plStep
     rw[if_neg hu2,if_pos e3]
    rw[hst]at hg hH2
    have htl:(gg.take m).length=m:=by rw[List.length_take];omega
    have hln:((gg.take m++[mOf (applyS S (opB p1[i])).s]).length:Int)=((m+1:Nat):Int):=by rw[List.length_append,htl];rfl
    simp only[Int.toNat_natCast]
    rw[hln]
    refine⟨(by first|exact rfl|exact True.intro),hml,(by first|exact rfl|exact True.intro),?_,?_,(by first|exact rfl|exact True.intro),(by first|exact rfl|exact True.intro),(by first|exact rfl|exact True.intro),⟨i+1,m+1,(by first|exact rfl|exact True.intro),by omega,(by first|exact rfl|exact True.intro),(by first|exact rfl|exact True.intro),by omega,⟨H2,_,hH2,by omega⟩,hg⟩,by omega⟩
    ·rw[htl];simp only[List.length_cons,List.length_nil];omega
    ·rw[htl];simp only[List.length_cons,List.length_nil];unfold maxLen;omega
   ·have e3:¬(applyS S (opB p1[i])).e=0:=by simpa using e3
    have hst:plStep ⟨gg,m,S⟩ p1[i]=⟨gg,m,(applyS S (opB p1[i])).s⟩:=by
     unfold plStep
     rw[if_neg hu2,if_neg e3]
    rw[hst]at hg hH2
    simp only[Int.toNat_natCast]
    exact⟨(by first|exact rfl|exact True.intro),(by first|exact rfl|exact True.intro),(by first|exact rfl|exact True.intro),⟨i+1,m,(by first|exact rfl|exact True.intro),by omega,(by first|exact rfl|exact True.intro),(by first|exact rfl|exact True.intro),by omega,⟨H2,_,hH2,by omega⟩,hg⟩,by omega⟩
 ·have e:i=p1.length:=by have:=of_decide_eq_false e;omega
  subst e
  rw[List.drop_length]at hg
  subst hg
  subst hS
  simp only[Int.toNat_natCast]
  exact(by repeat' first|apply And.intro|exact rfl|exact True.intro)
noncomputable def k14g:Con TB.den:=k68.fnR (fun(a0,a1,a2,a3,a4,a5,a6,a7,a8,a9,())=>(fun(p0:wF) (p1:List wAO)=>rulesE p0=0/\0<=p0.wW/\p1.length<=60/\OpsR p1) (wF.mk a0 a1 a2 a3 a4 a5 a6 a7 a8) a9) fun(a0,a1,a2,a3,a4,a5,a6,a7,a8,a9,())=>(fun(p0:wF) (p1:List wAO)=>((0:Int),(((plS p0 p1).n:Int):Int),true,((((plS p0 p1).s).R.wt):Int),((((plS p0 p1).s).R.wD):Int),((((plS p0 p1).s).R.wN):Int),((((plS p0 p1).s).R.wK):Int),((((plS p0 p1).s).R.wH):Int),((((plS p0 p1).s).R.wW):Int),((((plS p0 p1).s).R.wa):Int),((((plS p0 p1).s).R.wS):Int),((((plS p0 p1).s).R.wl):Int),((((plS p0 p1).s).F.wD):Int),((((plS p0 p1).s).F.wh):Int),((((plS p0 p1).s).F.wq):List Int),((((plS p0 p1).s).b):List wA),((((plS p0 p1).s).n):Int),(((plS p0 p1).g):List wj),((((plS p0 p1).s).l):List Int),((((plS p0 p1).s).r):List Int),((((plS p0 p1).s).p):List wI),((((plS p0 p1).s).k):List Int),((((plS p0 p1).s).v):List Bool),())) (wF.mk a0 a1 a2 a3 a4 a5 a6 a7 a8) a9
theorem k1ta:k14g.Ok Tryz.prog TB:=Con.ok_fn k68 bd13 fun(a0,a1,a2,a3,a4,a5,a6,a7,a8,a9,()) h=>k1s3 (k1mc (wF.mk a0 a1 a2 a3 a4 a5 a6 a7 a8) a9 h)
def k37:Con TB.den:=Con.mk0 56 [.agg [zqi,zqi,zqi]] [] (.one (.one (.d (.bool)))) []
abbrev k14i:=CI k37
abbrev k49:=CO k37
noncomputable def k3a:Cx TB:=⟨inf,[],[],4,[]⟩
noncomputable def k81:Code:=Tryz.f56.body.getD .skip
noncomputable def khj:List ResultVar:=Tryz.f56.results.toList
def k1nx (o:k49):=qS TB k3a 43 0 (cB (cB (cB (cB k81)))) .no (retTQ TB k3a k37 khj o)
def ka1:Tm:=⟨[0],[.cells [zqi,zqi,zqi]],[1,3,4,6],[.one (.ptr 0 0),.one (.d (.bool)),.one (.d (.bool)),.one (zqi)],1⟩
def kd3 (o:k49) (nx2:NX TB ka1) (i:HL TB.den ka1.hs):Prop:=WP TB k3a 43 0 (cA (cA (cB (cA (cB (cB (cB k81))))))) .no (ka1.fill TB i) (qM TB 0 ka1 nx2 (blockT TB 2 (k1nx o)))
noncomputable def kz5 (o:k49):An TB:= .nd [] .no [] (.lp [] ka1 (kd3 o) fun nx2=> .no)
def k1mg (o:k49):=qS TB k3a 43 0 (cB (cB (cB k81))) (.nd [] (kz5 o) [] .no) (retTQ TB k3a k37 khj o)
def k9v:Tm:=⟨[0],[.cells [zqi,zqi,zqi]],[1,3,4,5],[.one (.ptr 0 0),.one (.d (.bool)),.one (.d (.bool)),.one (zqi)],1⟩
def kdg (o:k49) (nx1:NX TB k9v) (i:HL TB.den k9v.hs):Prop:=WP TB k3a 43 0 (cA (cA (cB (cA (cB (cB k81)))))) .no (k9v.fill TB i) (qM TB 0 k9v nx1 (blockT TB 0 (k1mg o)))
noncomputable def k1ns (o:k49):An TB:= .nd [] .no [] (.lp [] k9v (kdg o) fun nx1=> .no)
noncomputable def k1nw (o:k49):An TB:= .nd [] (k1ns o) [] (.nd [] (kz5 o) [] .no)
noncomputable def kyw (o:k49):An TB:= .nd [] .no [] (.nd [] .no [] (k1nw o))
def kix (x:k14i) (o:k49):Prop:=WPh TB k3a 43 0 k81 (kyw o) (k37.st TB x) (retTQ TB k3a k37 khj o)
theorem k1j2 (o:k49):OblH TB k3a 43 0 k81 (kyw o) (retTQ TB k3a k37 khj o):=
 OblH.ofC (X:=((∀nx i,(kdg o) nx i=(kdg o) nx i)/\(∀nx1:NX TB k9v,True)/\(∀nx i,(kd3 o) nx i=(kd3 o) nx i)/\(∀nx2:NX TB ka1,True)/\True)) (by kernel_rfl) ⟨fun _ _=>rfl,fun _=>trivial,fun _ _=>rfl,fun _=>trivial,trivial⟩
theorem k1go {x:k14i} {o:k49} (h:kix x o):k37.Snd Tryz.prog x o:=
 Con.soundH (c:=k37) (C:=k3a) TBok ⟨inf_ok,all_nil,all_nil⟩ mix Tryz.func56 (by kernel_rfl) (by kernel_rfl) (by kernel_rfl) rfl h (k1j2 o)
theorem k1nc {p0:wAC} {r0:Bool} (h:
(Md.Loop (false,false,(2:Int),p0.wAL,p0.wAK,p0.wAQ,()) (kdg (r0,())))):kix (p0.wAL,p0.wAK,p0.wAQ,()) (r0,()):=WPh.of_eq (by kernel_rfl) h
def k104 (r0:Bool) (k1:Bool->Int->Prop) (s4:Bool) (Aa Ab Ac:Int) (s3:Bool) (s5:Int):Prop:=
(decide (s5<=256)=true->
(s3=true->
 k1 true (IntKind.i64.wrap (2*s5):Int))/\
(s3=false->
 k1 ((Aa==s5):Bool) (IntKind.i64.wrap (2*s5):Int)))/\
(decide (s5<=256)=false->
 Md.Loop (s3,s4,(1:Int),Aa,Ab,Ac,()) (kd3 (r0,())))
theorem k1gu {r0 s4:Bool} {Aa Ab Ac:Int} {s3:Bool} {s5:Int} (inv:Bool->Int->Prop) (μ:Bool->Int->Nat) (h0:inv s3 s5) (hs:∀(s3:Bool) (s5:Int),inv s3 s5->k104 r0 (fun s3q s5q=>inv s3q s5q/\μ s3q s5q<μ s3 s5) s4 Aa Ab Ac s3 s5):Md.Loop (s3,s4,s5,Aa,Ab,Ac,()) (kdg (r0,())):=
 ⟨⟨fun((s3q,s4q,s5q,Al,Ap,Aq,()):Bool×Bool×Int×Int×Int×Int×Unit)=>(s4=s4q/\Aa=Al/\Ab=Ap/\Ac=Aq)/\inv s3q s5q,fun((s3q,_,s5q,_,_,_,()):Bool×Bool×Int×Int×Int×Int×Unit)=>μ s3q s5q,⟨⟨rfl,rfl,rfl,rfl⟩,h0⟩,fun(s3p,s4p,s5p,B7,B9,Ca,()) ⟨eq,hi⟩=>by
  obtain⟨rfl,rfl,rfl,rfl⟩:=eq;exact mpr_of (by kernel_rfl) ((congrArg (fun k=>k104 r0 k s4 Aa Ab Ac s3p s5p) (lpk2 (⟨rfl,rfl,rfl,rfl⟩:s4=s4/\Aa=Aa/\Ab=Ab/\Ac=Ac) inv (fun s3q s5q=>μ s3q s5q<μ s3p s5p))).mpr (hs s3p s5p hi))⟩⟩
def kyz (r0:Bool) (k2:Bool->Int->Prop) (s3:Bool) (Aa Ab Ac:Int) (s4:Bool) (s6:Int):Prop:=
(decide (s6<=8)=true->
(s4=true->
 k2 true (IntKind.i64.wrap (2*s6):Int))/\
(s4=false->
 k2 ((Ab==s6):Bool) (IntKind.i64.wrap (2*s6):Int)))/\
(decide (s6<=8)=false->
(s3=true->
(s4=true->
(decide (1<=Ac)=true->
 decide (Ac<=64)=r0)/\
(decide (1<=Ac)=false->
 false=r0))/\
(s4=false->
 false=r0))/\
(s3=false->
 false=r0))
theorem k1h8 {r0 s3:Bool} {Aa Ab Ac:Int} {s4:Bool} {s6:Int} (inv:Bool->Int->Prop) (μ:Bool->Int->Nat) (h0:inv s4 s6) (hs:∀(s4:Bool) (s6:Int),inv s4 s6->kyz r0 (fun s4q s6q=>inv s4q s6q/\μ s4q s6q<μ s4 s6) s3 Aa Ab Ac s4 s6):Md.Loop (s3,s4,s6,Aa,Ab,Ac,()) (kd3 (r0,())):=
 ⟨⟨fun((s3q,s4q,s6q,Al,Ap,Aq,()):Bool×Bool×Int×Int×Int×Int×Unit)=>(s3=s3q/\Aa=Al/\Ab=Ap/\Ac=Aq)/\inv s4q s6q,fun((_,s4q,s6q,_,_,_,()):Bool×Bool×Int×Int×Int×Int×Unit)=>μ s4q s6q,⟨⟨rfl,rfl,rfl,rfl⟩,h0⟩,fun(s3p,s4p,s6p,B7,B9,Ca,()) ⟨eq,hi⟩=>by
  obtain⟨rfl,rfl,rfl,rfl⟩:=eq;exact mpr_of (by kernel_rfl) ((congrArg (fun k=>kyz r0 k s3 Aa Ab Ac s4p s6p) (lpk2 (⟨rfl,rfl,rfl,rfl⟩:s3=s3/\Aa=Aa/\Ab=Ab/\Ac=Ac) inv (fun s4q s6q=>μ s4q s6q<μ s4p s6p))).mpr (hs s4p s6p hi))⟩⟩
theorem bd56:Callable Tryz.prog 56:=⟨by rw[Tryz.func56];kernel_rfl,by rw[Tryz.func56];show some _≠some _;decide⟩
theorem k1cb (p0:wAC):kix (p0.wAL,p0.wAK,p0.wAQ,()) (((prS p0):Bool),()):=by
 have hw:∀n k:Nat,k<=8->IntKind.i64.wrap (2*(n*((2^k:Nat):Int)))=n*((2^(k+1):Nat):Int)∨2<n:=by
  intro n k hk
  rcases Nat.lt_or_ge 2 n with h|h
  ·exact .inr h
  ·have h1:2^k<=2^8:=Nat.pow_le_pow_right (by decide) hk
   have h2:2^(k+1)=2*2^k:=by rw[Nat.pow_succ];omega
   rw[h2]
   generalize 2^k=q at *
   refine .inl ?_
   have:n=0∨n=1∨n=2:=by omega
   rcases this with rfl|rfl|rfl
   ·rw[k1i _ (by omega) (by omega)];omega
   ·rw[k1i _ (by omega) (by omega)];omega
   ·rw[k1i _ (by omega) (by omega)];omega
 refine k1nc (k1gu (fun s a=>∃k:Nat,k<=8/\a=2*((2^k:Nat):Int)/\s=pws k 2 p0.wAL) (fun _ a=>(1000-a).toNat) ⟨0,by omega,rfl,rfl⟩ ?_)
 rintro _ _ ⟨k,hk,rfl,rfl⟩
 have h1:=Nat.two_pow_pos k
 have h2:2^(k+1)=2*2^k:=by rw[Nat.pow_succ];omega
 refine⟨fun e=> ?_,fun e=> ?_⟩
 ·have e:=of_decide_eq_true e
  have hk7:k<=7:=by
   rcases Nat.lt_or_ge k 8 with h|h
   ·omega
   ·have:k=8:=by omega
    subst this
    exact absurd e (by decide)
  have hwk:IntKind.i64.wrap (2*(2*((2^k:Nat):Int)))=2*((2^(k+1):Nat):Int):=(hw 2 k hk).resolve_right (by decide)
  rw[hwk]
  refine⟨fun e2=>⟨⟨k+1,by omega,rfl,?_⟩,?_⟩,fun e2=>⟨⟨k+1,by omega,rfl,?_⟩,?_⟩⟩
  ·rw[ky3,e2];rfl
  ·rw[h2];generalize 2^k=q at *;omega
  ·rw[ky3,e2];rfl
  ·rw[h2];generalize 2^k=q at *;omega
 have e:=of_decide_eq_false e
 have hk8:k=8:=by
  rcases Nat.lt_or_ge k 8 with h|h
  ·have:2^k<=2^7:=Nat.pow_le_pow_right (by decide) (by omega)
   omega
  ·omega
 subst hk8
 refine k1h8 (fun s a=>∃k:Nat,k<=4/\a=1*((2^k:Nat):Int)/\s=pws k 1 p0.wAK) (fun _ a=>(1000-a).toNat) ⟨0,by omega,rfl,rfl⟩ ?_
 rintro _ _ ⟨k,hk,rfl,rfl⟩
 have h1:=Nat.two_pow_pos k
 have h2:2^(k+1)=2*2^k:=by rw[Nat.pow_succ];omega
 refine⟨fun e=> ?_,fun e=> ?_⟩
 ·have e:=of_decide_eq_true e
  have hk7:k<=3:=by
   rcases Nat.lt_or_ge k 4 with h|h
   ·omega
   ·have:k=4:=by omega
    subst this
    exact absurd e (by decide)
  have hwk:IntKind.i64.wrap (2*(1*((2^k:Nat):Int)))=1*((2^(k+1):Nat):Int):=(hw 1 k (by omega)).resolve_right (by decide)
  rw[hwk]
  refine⟨fun e2=>⟨⟨k+1,by omega,rfl,?_⟩,?_⟩,fun e2=>⟨⟨k+1,by omega,rfl,?_⟩,?_⟩⟩
  ·rw[ky3,e2];rfl
  ·rw[h2];generalize 2^k=q at *;omega
  ·rw[ky3,e2];rfl
  ·rw[h2];generalize 2^k=q at *;omega
 have e:=of_decide_eq_false e
 have hk4:k=4:=by
  rcases Nat.lt_or_ge k 4 with h|h
  ·have:2^k<=2^3:=Nat.pow_le_pow_right (by decide) (by omega)
   omega
  ·omega
 subst hk4
 unfold prS
 refine⟨fun e=>⟨fun e2=>⟨fun e3=> ?_,fun e3=> ?_⟩,fun e2=> ?_⟩,fun e=> ?_⟩
 ·rw[e,e2,e3];simp
 ·rw[e,e2,e3];simp
 ·rw[e,e2];simp
 ·rw[e];simp
noncomputable def kw1:Con TB.den:=k37.totR fun x=>(fun(p0:wAC)=>(((prS p0):Bool),())) (wAC.mk x.1 x.2.1 x.2.2.1)
theorem k1mq:kw1.Ok Tryz.prog TB:=Con.ok_tot k37 bd56 fun x=>k1go (k1cb (wAC.mk x.1 x.2.1 x.2.2.1))
def k78:Con TB.den:=Con.mk0 24 [.agg [zqi,zqi,zqi,zqi,zqi,zqu,zqi,zqi,zqu]] [] (.one (.one (zqi))) []
abbrev k182:=CI k78
abbrev kug:=CO k78
noncomputable def kpl:Cx TB:=⟨inf,[kw1],[],4,[]⟩
noncomputable def k1gx:Code:=Tryz.f24.body.getD .skip
noncomputable def k1q7:List ResultVar:=Tryz.f24.results.toList
noncomputable def k1oi (o:kug):An TB:= .no
def km5 (x:k182) (o:kug):Prop:=WPh TB kpl 65 0 k1gx (k1oi o) (k78.st TB x) (retTQ TB kpl k78 k1q7 o)
theorem k1n0 {x:k182} {o:kug} (h:km5 x o):k78.Snd Tryz.prog x o:=
 Con.soundH (c:=k78) (C:=kpl) TBok ⟨inf_ok,(all_cons k1mq all_nil),all_nil⟩ mix Tryz.func24 (by kernel_rfl) (by kernel_rfl) (by kernel_rfl) rfl h (OblH.ofC (X:=True) (by kernel_rfl) trivial)
theorem k1pp {p0:wF} {r0:Int} (h:
((decide (p0.wt<1)=true->
 1=r0)/\
(decide (p0.wt<1)=false->
(decide (3<p0.wt)=true->
 1=r0)/\
(decide (3<p0.wt)=false->
(decide (p0.wD<1)=true->
 1=r0)/\
(decide (p0.wD<1)=false->
(decide (12<p0.wD)=true->
 1=r0)/\
(decide (12<p0.wD)=false->
(decide (p0.wa<1)=true->
 1=r0)/\
(decide (p0.wa<1)=false->
(decide (100<p0.wa)=true->
 1=r0)/\
(decide (100<p0.wa)=false->
(decide (p0.wS<1)=true->
 1=r0)/\
(decide (p0.wS<1)=false->
(decide (1048576<p0.wS)=true->
 1=r0)/\
(decide (1048576<p0.wS)=false->
(decide (4294967296<p0.wW)=true->
 1=r0)/\
(decide (4294967296<p0.wW)=false->
(decide (p0.wl<1)=true->
 1=r0)/\
(decide (p0.wl<1)=false->
(decide (65536<p0.wl)=true->
 1=r0)/\
(decide (65536<p0.wl)=false->
((p0.wt==1)=true->
 let r1:Bool:=(prS (wAC.mk p0.wN p0.wK p0.wH))
((!r1)=true->
 1=r0)/\
((!r1)=false->
 0=r0))/\
((p0.wt==1)=false->
 0=r0)))))))))))))):km5 (p0.wt,p0.wD,p0.wN,p0.wK,p0.wH,p0.wW,p0.wa,p0.wS,p0.wl,()) (r0,()):=WPh.of_eq (by kernel_rfl) h
theorem bd24:Callable Tryz.prog 24:=⟨by rw[Tryz.func24];kernel_rfl,by rw[Tryz.func24];show some _≠some _;decide⟩
theorem k1hc (p0:wF):km5 (p0.wt,p0.wD,p0.wN,p0.wK,p0.wH,p0.wW,p0.wa,p0.wS,p0.wl,()) (((rulesE p0):Int),()):=by
 have no:¬rulesB p0=true->1=rulesE p0:=fun h=>by unfold rulesE;rw[if_neg h]
 have nb:∀c:Prop,(rulesB p0=true->¬c)->c->1=rulesE p0:=fun c h hc=>no fun hb=>h hb hc
 have ub:rulesB p0=true->(1<=p0.wt/\p0.wt<=3)/\(1<=p0.wD/\p0.wD<=12)/\(1<=p0.wa/\p0.wa<=100)/\(1<=p0.wS/\p0.wS<=1048576)/\p0.wW<=4294967296/\1<=p0.wl/\p0.wl<=65536:=by
  intro hb
  simp only[rulesB,Bool.and_eq_true,decide_eq_true_eq]at hb
  omega
 refine k1pp ⟨fun e=>nb _ (fun hb h=>by have:=ub hb;omega) (of_decide_eq_true e),fun e1=>⟨fun e=>nb _ (fun hb h=>by have:=ub hb;omega) (of_decide_eq_true e),fun e2=>⟨fun e=>nb _ (fun hb h=>by have:=ub hb;omega) (of_decide_eq_true e),fun e3=>⟨fun e=>nb _ (fun hb h=>by have:=ub hb;omega) (of_decide_eq_true e),fun e4=>⟨fun e=>nb _ (fun hb h=>by have:=ub hb;omega) (of_decide_eq_true e),fun e5=>⟨fun e=>nb _ (fun hb h=>by have:=ub hb;omega) (of_decide_eq_true e),fun e6=>⟨fun e=>nb _ (fun hb h=>by have:=ub hb;omega) (of_decide_eq_true e),fun e7=>⟨fun e=>nb _ (fun hb h=>by have:=ub hb;omega) (of_decide_eq_true e),fun e8=>⟨fun e=>nb _ (fun hb h=>by have:=ub hb;omega) (of_decide_eq_true e),fun e9=>⟨fun e=>nb _ (fun hb h=>by have:=ub hb;omega) (of_decide_eq_true e),fun e10=>⟨fun e=>nb _ (fun hb h=>by have:=ub hb;omega) (of_decide_eq_true e),fun e11=> ?_⟩⟩⟩⟩⟩⟩⟩⟩⟩⟩⟩
 have e1:=of_decide_eq_false e1
 have e2:=of_decide_eq_false e2
 have e3:=of_decide_eq_false e3
 have e4:=of_decide_eq_false e4
 have e5:=of_decide_eq_false e5
 have e6:=of_decide_eq_false e6
 have e7:=of_decide_eq_false e7
 have e8:=of_decide_eq_false e8
 have e9:=of_decide_eq_false e9
 have e10:=of_decide_eq_false e10
 have e11:=of_decide_eq_false e11
 have hb:rulesB p0=true:=by
  simp only[rulesB,Bool.and_eq_true,decide_eq_true_eq]
  omega
 unfold rulesE
 rw[if_pos hb]
 refine⟨fun e=>⟨fun e3=> ?_,fun e3=> ?_⟩,fun e=> ?_⟩
 ·have e:p0.wt=1:=by simpa using e
  have e3:¬prS ⟨p0.wN,p0.wK,p0.wH⟩=true:=by simpa using e3
  rw[if_pos e,if_neg e3]
 ·have e:p0.wt=1:=by simpa using e
  have e3:prS ⟨p0.wN,p0.wK,p0.wH⟩=true:=by simpa using e3
  rw[if_pos e,if_pos e3]
 ·have e:¬p0.wt=1:=by simpa using e
  rw[if_neg e]
noncomputable def kzj:Con TB.den:=k78.totR fun(a0,a1,a2,a3,a4,a5,a6,a7,a8,())=>(fun(p0:wF)=>(((rulesE p0):Int),())) (wF.mk a0 a1 a2 a3 a4 a5 a6 a7 a8)
theorem k1rp:kzj.Ok Tryz.prog TB:=Con.ok_tot k78 bd24 fun(a0,a1,a2,a3,a4,a5,a6,a7,a8,())=>k1n0 (k1hc (wF.mk a0 a1 a2 a3 a4 a5 a6 a7 a8))
def k5f:Con TB.den:=Con.mk0 18 [.agg [zqu,zql,.d (.sl (.st 1)),zqu,zqu,zqu,zqu,zqu,zqi,.d (.sl yqb)],.one (zqi)] [] (.one (.one (.d (.bool)))) []
abbrev k17r:=CI k5f
abbrev kb1:=CO k5f
noncomputable def k7c:Cx TB:=⟨inf,[],[],4,[]⟩
noncomputable def kfm:Code:=Tryz.f18.body.getD .skip
noncomputable def kpo:List ResultVar:=Tryz.f18.results.toList
def k1p2 (o:kb1):=qS TB k7c 38 0 (cB (cB kfm)) .no (retTQ TB k7c k5f kpo o)
def kcb:Tm:=⟨[0],[.cells [zqu,zql,.d (.sl (.st 1)),zqu,zqu,zqu,zqu,zqu,zqi,.d (.sl yqb)]],[1,2,5],[.one (zqi),.one (.ptr 0 0),.one (zqi)],1⟩
def kfe (o:kb1) (nx1:NX TB kcb) (i:HL TB.den kcb.hs):Prop:=WP TB k7c 38 0 (cA (cA (cB (cA (cB kfm))))) .no (kcb.fill TB i) (qM TB 0 kcb nx1 (blockT TB 0 (k1p2 o)))
noncomputable def k1r3 (o:kb1):An TB:= .nd [] .no [] (.lp [] kcb (kfe o) fun nx1=> .no)
noncomputable def k121 (o:kb1):An TB:= .nd [] .no [] (.nd [] (k1r3 o) [] .no)
def kli (x:k17r) (o:kb1):Prop:=WPh TB k7c 38 0 kfm (k121 o) (k5f.st TB x) (retTQ TB k7c k5f kpo o)
theorem k1lv (o:kb1):OblH TB k7c 38 0 kfm (k121 o) (retTQ TB k7c k5f kpo o):=
 OblH.ofC (X:=((∀nx i,(kfe o) nx i=(kfe o) nx i)/\(∀nx1:NX TB kcb,True)/\True)) (by kernel_rfl) ⟨fun _ _=>rfl,fun _=>trivial,trivial⟩
theorem k1o5 {x:k17r} {o:kb1} (h:kli x o):k5f.Snd Tryz.prog x o:=
 Con.soundH (c:=k5f) (C:=k7c) TBok ⟨inf_ok,all_nil,all_nil⟩ mix Tryz.func18 (by kernel_rfl) (by kernel_rfl) (by kernel_rfl) rfl h (k1lv o)
theorem k1r9 {p0:wm} {p1:Int} {r0:Bool} (h:
(Md.Loop (p1,(0:Int),p0.wy,p0.wE,p0.wT,p0.wV,p0.wZ,p0.Fee,p0.we,p0.wO,p0.wx,p0.wAD,()) (kfe (r0,())))):kli (p0.wy,p0.wE,p0.wT,p0.wV,p0.wZ,p0.Fee,p0.we,p0.wO,p0.wx,p0.wAD,p1,()) (r0,()):=WPh.of_eq (by kernel_rfl) h
def k12l (r0:Bool) (k1:Int->Prop) (s1 Aa:Int) (Ab:List Int) (Ac:List ww) (Am Ar Ao Av Aw Au:Int) (Bg:List Int) (s5:Int):Prop:=
(decide (s5<(Ac.length:Int))=true->
(0<=s5)/\s5<(Ac.length:Int)/\let v1:Bool:=decide (10<(((ix Ac s5).wAB).length:Int))
(v1=true->
 false=r0)/\
(v1=false->
 k1 (IntKind.i64.wrap (s5+1):Int)))/\
(decide (s5<(Ac.length:Int))=false->
(decide ((Ab.length:Int)<=10)=true->
(decide ((Ac.length:Int)<=10)=true->
 decide ((Bg.length:Int)<=s1)=r0)/\
(decide ((Ac.length:Int)<=10)=false->
 false=r0))/\
(decide ((Ab.length:Int)<=10)=false->
 false=r0))
theorem k1ob {r0:Bool} {s1 Aa:Int} {Ab:List Int} {Ac:List ww} {Am Ar Ao Av Aw Au:Int} {Bg:List Int} {s5:Int} (inv:Int->Prop) (μ:Int->Nat) (h0:inv s5) (hs:∀(s5:Int),inv s5->k12l r0 (fun s5q=>inv s5q/\μ s5q<μ s5) s1 Aa Ab Ac Am Ar Ao Av Aw Au Bg s5):Md.Loop (s1,s5,Aa,Ab,Ac,Am,Ar,Ao,Av,Aw,Au,Bg,()) (kfe (r0,())):=
 ⟨⟨fun((s1q,s5q,Al,Ap,Aq,Ce,Cg,Ch,Ci,Cj,Ck,Cd,()):Int×Int×Int×(List Int)×(List ww)×Int×Int×Int×Int×Int×Int×(List Int)×Unit)=>(s1=s1q/\Aa=Al/\Ab=Ap/\Ac=Aq/\Am=Ce/\Ar=Cg/\Ao=Ch/\Av=Ci/\Aw=Cj/\Au=Ck/\Bg=Cd)/\inv s5q,fun((_,s5q,_,_,_,_,_,_,_,_,_,_,()):Int×Int×Int×(List Int)×(List ww)×Int×Int×Int×Int×Int×Int×(List Int)×Unit)=>μ s5q,⟨⟨rfl,rfl,rfl,rfl,rfl,rfl,rfl,rfl,rfl,rfl,rfl⟩,h0⟩,fun(s1p,s5p,B7,B9,Ca,Dy,D3,D4,Ee,Ef,Eg,Dz,()) ⟨eq,hi⟩=>by
  obtain⟨rfl,rfl,rfl,rfl,rfl,rfl,rfl,rfl,rfl,rfl,rfl⟩:=eq;exact mpr_of (by kernel_rfl) ((congrArg (fun k=>k12l r0 k s1 Aa Ab Ac Am Ar Ao Av Aw Au Bg s5p) (lpk1 (⟨rfl,rfl,rfl,rfl,rfl,rfl,rfl,rfl,rfl,rfl,rfl⟩:s1=s1/\Aa=Aa/\Ab=Ab/\Ac=Ac/\Am=Am/\Ar=Ar/\Ao=Ao/\Av=Av/\Aw=Aw/\Au=Au/\Bg=Bg) inv (fun s5q=>μ s5q<μ s5p))).mpr (hs s5p hi))⟩⟩
theorem bd18:Callable Tryz.prog 18:=⟨by rw[Tryz.func18];kernel_rfl,by rw[Tryz.func18];show some _≠some _;decide⟩
theorem k1jo (p0:wm) (p1:Int) (h:p0.wT.length<=9223372036854775807):kli (p0.wy,p0.wE,p0.wT,p0.wV,p0.wZ,p0.Fee,p0.we,p0.wO,p0.wx,p0.wAD,p1,()) (((smallB p0 p1):Bool),()):=by
 refine k1r9 (k1ob (fun i=>0<=i/\i<=p0.wT.length/\∀x∈p0.wT.take i.toNat,x.wAB.length<=10) (fun i=>(p0.wT.length-i).toNat) ⟨by omega,by omega,by simp⟩ ?_)
 rintro i ⟨g0,g1,g2⟩
 refine⟨fun hh=> ?_,fun hh=> ?_⟩
 ·have hh:=of_decide_eq_true hh
  refine⟨g0,hh,fun e=> ?_,fun e=> ?_⟩
  ·have e:=of_decide_eq_true e
   unfold smallB
   have:p0.wT.all (fun x=>decide (x.wAB.length<=10))=false:=List.all_eq_false.2 ⟨_,ix_mem p0.wT i g0 hh,by simp;omega⟩
   rw[this]
   simp
  ·have e:=of_decide_eq_false e
   rw[inc i p0.wT.length g0 hh (by omega)]
   refine⟨⟨by omega,by omega,?_⟩,by omega⟩
   rw[k1q p0.wT i g0 hh]
   intro x hx
   rcases List.mem_append.1 hx with hx|hx
   ·exact g2 x hx
   ·have:x=ix p0.wT i:=by simpa using hx
    rw[this];omega
 ·have hh:=of_decide_eq_false hh
  rw[List.take_of_length_le (by omega)]at g2
  unfold smallB
  have:p0.wT.all (fun x=>decide (x.wAB.length<=10))=true:=by simpa using g2
  rw[this]
  refine⟨fun h1=>⟨fun h2=> ?_,fun h2=> ?_⟩,fun h1=> ?_⟩
  ·have h1:=of_decide_eq_true h1
   have h2:=of_decide_eq_true h2
   rw[decide_eq_true (p:=p0.wE.length<=10) (by omega),decide_eq_true (p:=p0.wT.length<=10) (by omega)]
   simp
  ·have h2:=of_decide_eq_false h2
   rw[decide_eq_false (p:=p0.wT.length<=10) (by omega)]
   simp
  ·have h1:=of_decide_eq_false h1
   rw[decide_eq_false (p:=p0.wE.length<=10) (by omega)]
   simp
noncomputable def kze:Con TB.den:=k5f.fnR (fun(a0,a1,a2,a3,a4,a5,a6,a7,a8,a9,a10,())=>(fun(p0:wm) (p1:Int)=>p0.wT.length<=9223372036854775807) (wm.mk a0 a1 a2 a3 a4 a5 a6 a7 a8 a9) a10) fun(a0,a1,a2,a3,a4,a5,a6,a7,a8,a9,a10,())=>(fun(p0:wm) (p1:Int)=>(((smallB p0 p1):Bool),())) (wm.mk a0 a1 a2 a3 a4 a5 a6 a7 a8 a9) a10
theorem k1p5:kze.Ok Tryz.prog TB:=Con.ok_fn k5f bd18 fun(a0,a1,a2,a3,a4,a5,a6,a7,a8,a9,a10,()) h=>k1o5 (k1jo (wm.mk a0 a1 a2 a3 a4 a5 a6 a7 a8 a9) a10 h)
def k5b:Con TB.den:=Con.mk0 35 [.agg [zqu,zqi,zqu,zqu,zqu,.d (.sl (.st 2))]] [] (.one (.one (.d (.bool)))) []
abbrev k17m:=CI k5b
abbrev kb5:=CO k5b
noncomputable def k7q:Cx TB:=⟨inf,[kze],[],4,[]⟩
noncomputable def kg2:Code:=Tryz.f35.body.getD .skip
noncomputable def kq4:List ResultVar:=Tryz.f35.results.toList
def k1qd (o:kb5):=qS TB k7q 22 0 (cB (cB kg2)) .no (retTQ TB k7q k5b kq4 o)
def kbz:Tm:=⟨[0],[.cells [zqu,zqi,zqu,zqu,zqu,.d (.sl (.st 2))]],[1,3],[.one (.ptr 0 0),.one (zqi)],1⟩
def ke4 (o:kb5) (nx1:NX TB kbz) (i:HL TB.den kbz.hs):Prop:=WP TB k7q 22 0 (cA (cA (cB (cA (cB kg2))))) .no (kbz.fill TB i) (qM TB 0 kbz nx1 (blockT TB 0 (k1qd o)))
noncomputable def k1qc (o:kb5):An TB:= .nd [] .no [] (.lp [] kbz (ke4 o) fun nx1=> .no)
noncomputable def k12q (o:kb5):An TB:= .nd [] .no [] (.nd [] (k1qc o) [] .no)
def kl3 (x:k17m) (o:kb5):Prop:=WPh TB k7q 22 0 kg2 (k12q o) (k5b.st TB x) (retTQ TB k7q k5b kq4 o)
theorem k1lz (o:kb5):OblH TB k7q 22 0 kg2 (k12q o) (retTQ TB k7q k5b kq4 o):=
 OblH.ofC (X:=((∀nx i,(ke4 o) nx i=(ke4 o) nx i)/\(∀nx1:NX TB kbz,True)/\True)) (by kernel_rfl) ⟨fun _ _=>rfl,fun _=>trivial,trivial⟩
theorem k1o3 {x:k17m} {o:kb5} (h:kl3 x o):k5b.Snd Tryz.prog x o:=
 Con.soundH (c:=k5b) (C:=k7q) TBok ⟨inf_ok,(all_cons k1p5 all_nil),all_nil⟩ mix Tryz.func35 (by kernel_rfl) (by kernel_rfl) (by kernel_rfl) rfl h (k1lz o)
theorem k1rc {p0:wd} {r0:Bool} (h:
(Md.Loop ((0:Int),p0.wAR,p0.wU,p0.wAG,p0.wl,p0.wO,p0.Txs,()) (ke4 (r0,())))):kl3 (p0.wAR,p0.wU,p0.wAG,p0.wl,p0.wO,p0.Txs,()) (r0,()):=WPh.of_eq (by kernel_rfl) h
def k12b (r0:Bool) (k1:Int->Prop) (Aa Ab Ac Am Ar:Int) (Ao:List wm) (s3:Int):Prop:=
(decide (s3<(Ao.length:Int))=true->
(0<=s3)/\s3<(Ao.length:Int)/\((ix Ao s3).wT.length<=9223372036854775807)/\((!(smallB (ix Ao s3) (200:Int)))=true->
 false=r0)/\
((!(smallB (ix Ao s3) (200:Int)))=false->
 k1 (IntKind.i64.wrap (s3+1):Int)))/\
(decide (s3<(Ao.length:Int))=false->
 decide ((Ao.length:Int)<=8)=r0)
theorem k1ne {r0:Bool} {Aa Ab Ac Am Ar:Int} {Ao:List wm} {s3:Int} (inv:Int->Prop) (μ:Int->Nat) (h0:inv s3) (hs:∀(s3:Int),inv s3->k12b r0 (fun s3q=>inv s3q/\μ s3q<μ s3) Aa Ab Ac Am Ar Ao s3):Md.Loop (s3,Aa,Ab,Ac,Am,Ar,Ao,()) (ke4 (r0,())):=
 ⟨⟨fun((s3q,Al,Ap,Aq,Ce,Cg,Ch,()):Int×Int×Int×Int×Int×Int×(List wm)×Unit)=>(Aa=Al/\Ab=Ap/\Ac=Aq/\Am=Ce/\Ar=Cg/\Ao=Ch)/\inv s3q,fun((s3q,_,_,_,_,_,_,()):Int×Int×Int×Int×Int×Int×(List wm)×Unit)=>μ s3q,⟨⟨rfl,rfl,rfl,rfl,rfl,rfl⟩,h0⟩,fun(s3p,B7,B9,Ca,Dy,D3,D4,()) ⟨eq,hi⟩=>by
  obtain⟨rfl,rfl,rfl,rfl,rfl,rfl⟩:=eq;exact mpr_of (by kernel_rfl) ((congrArg (fun k=>k12b r0 k Aa Ab Ac Am Ar Ao s3p) (lpk1 (⟨rfl,rfl,rfl,rfl,rfl,rfl⟩:Aa=Aa/\Ab=Ab/\Ac=Ac/\Am=Am/\Ar=Ar/\Ao=Ao) inv (fun s3q=>μ s3q<μ s3p))).mpr (hs s3p hi))⟩⟩
theorem bd35:Callable Tryz.prog 35:=⟨by rw[Tryz.func35];kernel_rfl,by rw[Tryz.func35];show some _≠some _;decide⟩
theorem k1is (p0:wd) (h:p0.Txs.length<=9223372036854775807/\∀t∈p0.Txs,t.wT.length<=9223372036854775807):kl3 (p0.wAR,p0.wU,p0.wAG,p0.wl,p0.wO,p0.Txs,()) (((smB p0):Bool),()):=by
 obtain⟨hl,ho⟩:=h
 generalize hR:smB p0=R
 unfold smB at hR
 refine k1rc (k1ne (fun a=>∃i:Nat,a=(i:Int)/\i<=p0.Txs.length/\(p0.Txs.drop i).all (fun t=>smallB t 200)=p0.Txs.all fun t=>smallB t 200) (fun a=>(p0.Txs.length-a).toNat) ⟨0,rfl,by omega,rfl⟩ ?_)
 rintro _ ⟨i,rfl,hi,he⟩
 refine⟨fun e=> ?_,fun e=> ?_⟩
 ·have e:i<p0.Txs.length:=by have:=of_decide_eq_true e;omega
  rw[List.drop_eq_getElem_cons e,List.all_cons]at he
  rw[ix_get _ _ e,inc (i:Int) p0.Txs.length (by omega) (by omega) (by omega)]
  refine⟨by omega,by omega,ho _ (List.getElem_mem e),fun e2=> ?_,fun e2=>⟨⟨i+1,by omega,by omega,?_⟩,by omega⟩⟩
  ·have e2:smallB p0.Txs[i] 200=false:=by simpa using e2
   rw[e2,Bool.false_and]at he
   rw[<-he]at hR
   exact hR
  ·have e2:smallB p0.Txs[i] 200=true:=by simpa using e2
   rw[e2,Bool.true_and]at he
   exact he
 ·have e:i=p0.Txs.length:=by have:=of_decide_eq_false e;omega
  subst e
  rw[List.drop_length]at he
  rw[<-he]at hR
  simpa using hR
noncomputable def kyy:Con TB.den:=k5b.fnR (fun(a0,a1,a2,a3,a4,a5,())=>(fun(p0:wd)=>p0.Txs.length<=9223372036854775807/\∀t∈p0.Txs,t.wT.length<=9223372036854775807) (wd.mk a0 a1 a2 a3 a4 a5)) fun(a0,a1,a2,a3,a4,a5,())=>(fun(p0:wd)=>(((smB p0):Bool),())) (wd.mk a0 a1 a2 a3 a4 a5)
theorem k1qj:kyy.Ok Tryz.prog TB:=Con.ok_fn k5b bd35 fun(a0,a1,a2,a3,a4,a5,()) h=>k1o3 (k1is (wd.mk a0 a1 a2 a3 a4 a5) h)
def k54:Con TB.den:=Con.mk0 12 [.agg [zqi,zqi,zqi,zqi,zqi,zqu,zqi,zqi,zqu],.one (.d (.sl (.st 3)))] [] (.one (.one (.d (.bool)))) []
abbrev k184:=CI k54
abbrev kb4:=CO k54
noncomputable def k7s:Cx TB:=⟨inf,[kyy,kzj],[],4,[]⟩
noncomputable def kfu:Code:=Tryz.f12.body.getD .skip
noncomputable def kql:List ResultVar:=Tryz.f12.results.toList
def k1pm (o:kb4):=qS TB k7s 31 0 (cB (cB kfu)) .no (retTQ TB k7s k54 kql o)
def kcc:Tm:=⟨[0],[.cells [zqi,zqi,zqi,zqi,zqi,zqu,zqi,zqi,zqu]],[1,2,7,8,9],[.one (.d (.sl (.st 3))),.one (.ptr 0 0),.one (.d (.sl (.st 3))),.one (zqi),.one (zqi)],1⟩
def kf9 (o:kb4) (nx1:NX TB kcc) (i:HL TB.den kcc.hs):Prop:=WP TB k7s 31 0 (cA (cA (cB (cA (cB kfu))))) .no (kcc.fill TB i) (qM TB 0 kcc nx1 (blockT TB 0 (k1pm o)))
noncomputable def k1ql (o:kb4):An TB:= .nd [] .no [] (.lp [] kcc (kf9 o) fun nx1=> .no)
noncomputable def k12s (o:kb4):An TB:= .nd [] .no [] (.nd [] (k1ql o) [] .no)
def km7 (x:k184) (o:kb4):Prop:=WPh TB k7s 31 0 kfu (k12s o) (k54.st TB x) (retTQ TB k7s k54 kql o)
theorem k1od (o:kb4):OblH TB k7s 31 0 kfu (k12s o) (retTQ TB k7s k54 kql o):=
 OblH.ofC (X:=((∀nx i,(kf9 o) nx i=(kf9 o) nx i)/\(∀nx1:NX TB kcc,True)/\True)) (by kernel_rfl) ⟨fun _ _=>rfl,fun _=>trivial,trivial⟩
theorem k1mr {x:k184} {o:kb4} (h:km7 x o):k54.Snd Tryz.prog x o:=
 Con.soundH (c:=k54) (C:=k7s) TBok ⟨inf_ok,(all_cons k1qj (all_cons k1rp all_nil)),all_nil⟩ mix Tryz.func12 (by kernel_rfl) (by kernel_rfl) (by kernel_rfl) rfl h (k1od o)
theorem k1q0 {p0:wF} {p1:List wAO} {r0:Bool} (h:
(Md.Loop (p1,p1,((p1.length:Int):Int),(0:Int),p0.wt,p0.wD,p0.wN,p0.wK,p0.wH,p0.wW,p0.wa,p0.wS,p0.wl,()) (kf9 (r0,())))):km7 (p0.wt,p0.wD,p0.wN,p0.wK,p0.wH,p0.wW,p0.wa,p0.wS,p0.wl,p1,()) (r0,()):=WPh.of_eq (by kernel_rfl) h
def k12j (r0:Bool) (k1:Int->Prop) (s1 s7:List wAO) (s8 Aa Ab Ac Am Ar Ao Av Aw Au s9:Int):Prop:=
(decide (s9<s8)=true->
(0<=s9)/\s9<(s7.length:Int)/\((wd.mk ((ix s7 s9).wAI) ((ix s7 s9).wAJ) ((ix s7 s9).wAM) ((ix s7 s9).wAS) ((ix s7 s9).wAP) ((ix s7 s9).wAH)).Txs.length<=9223372036854775807/\∀t∈(wd.mk ((ix s7 s9).wAI) ((ix s7 s9).wAJ) ((ix s7 s9).wAM) ((ix s7 s9).wAS) ((ix s7 s9).wAP) ((ix s7 s9).wAH)).Txs,t.wT.length<=9223372036854775807)/\let r1:Bool:=(smB (wd.mk ((ix s7 s9).wAI) ((ix s7 s9).wAJ) ((ix s7 s9).wAM) ((ix s7 s9).wAS) ((ix s7 s9).wAP) ((ix s7 s9).wAH)))
((!r1)=true->
 false=r0)/\
((!r1)=false->
 k1 (IntKind.i64.wrap (s9+1):Int)))/\
(decide (s9<s8)=false->
(decide (Ab<=6)=true->
(decide ((s1.length:Int)<=12)=true->
 let r2:Int:=(rulesE (wF.mk Aa Ab Ac Am Ar Ao Av Aw Au))
(r2==0)=r0)/\
(decide ((s1.length:Int)<=12)=false->
 false=r0))/\
(decide (Ab<=6)=false->
 false=r0))
theorem k1oc {r0:Bool} {s1 s7:List wAO} {s8 Aa Ab Ac Am Ar Ao Av Aw Au s9:Int} (inv:Int->Prop) (μ:Int->Nat) (h0:inv s9) (hs:∀(s9:Int),inv s9->k12j r0 (fun s9q=>inv s9q/\μ s9q<μ s9) s1 s7 s8 Aa Ab Ac Am Ar Ao Av Aw Au s9):Md.Loop (s1,s7,s8,s9,Aa,Ab,Ac,Am,Ar,Ao,Av,Aw,Au,()) (kf9 (r0,())):=
 ⟨⟨fun((s1q,s7q,s8q,s9q,Al,Ap,Aq,Ce,Cg,Ch,Ci,Cj,Ck,()):(List wAO)×(List wAO)×Int×Int×Int×Int×Int×Int×Int×Int×Int×Int×Int×Unit)=>(s1=s1q/\s7=s7q/\s8=s8q/\Aa=Al/\Ab=Ap/\Ac=Aq/\Am=Ce/\Ar=Cg/\Ao=Ch/\Av=Ci/\Aw=Cj/\Au=Ck)/\inv s9q,fun((_,_,_,s9q,_,_,_,_,_,_,_,_,_,()):(List wAO)×(List wAO)×Int×Int×Int×Int×Int×Int×Int×Int×Int×Int×Int×Unit)=>μ s9q,⟨⟨rfl,rfl,rfl,rfl,rfl,rfl,rfl,rfl,rfl,rfl,rfl,rfl⟩,h0⟩,fun(s1p,s7p,s8p,s9p,B7,B9,Ca,Dy,D3,D4,Ee,Ef,Eg,()) ⟨eq,hi⟩=>by
  obtain⟨rfl,rfl,rfl,rfl,rfl,rfl,rfl,rfl,rfl,rfl,rfl,rfl⟩:=eq;exact mpr_of (by kernel_rfl) ((congrArg (fun k=>k12j r0 k s1 s7 s8 Aa Ab Ac Am Ar Ao Av Aw Au s9p) (lpk1 (⟨rfl,rfl,rfl,rfl,rfl,rfl,rfl,rfl,rfl,rfl,rfl,rfl⟩:s1=s1/\s7=s7/\s8=s8/\Aa=Aa/\Ab=Ab/\Ac=Ac/\Am=Am/\Ar=Ar/\Ao=Ao/\Av=Av/\Aw=Aw/\Au=Au) inv (fun s9q=>μ s9q<μ s9p))).mpr (hs s9p hi))⟩⟩
theorem bd12:Callable Tryz.prog 12:=⟨by rw[Tryz.func12];kernel_rfl,by rw[Tryz.func12];show some _≠some _;decide⟩
theorem k1gl (p0:wF) (p1:List wAO) (h:p1.length<=9223372036854775807/\∀o∈p1,o.wAH.length<=9223372036854775807/\∀t∈o.wAH,t.wT.length<=9223372036854775807):km7 (p0.wt,p0.wD,p0.wN,p0.wK,p0.wH,p0.wW,p0.wa,p0.wS,p0.wl,p1,()) (((smOps p0 p1):Bool),()):=by
 obtain⟨hl,ho⟩:=h
 generalize hR:smOps p0 p1=R
 unfold smOps at hR
 refine k1q0 (k1oc (fun a=>∃i:Nat,a=(i:Int)/\i<=p1.length/\(p1.drop i).all (fun o=>smB (opB o))=p1.all fun o=>smB (opB o)) (fun a=>(p1.length-a).toNat) ⟨0,rfl,by omega,rfl⟩ ?_)
 rintro _ ⟨i,rfl,hi,he⟩
 refine⟨fun e=> ?_,fun e=> ?_⟩
 ·have e:i<p1.length:=by have:=of_decide_eq_true e;omega
  rw[List.drop_eq_getElem_cons e,List.all_cons]at he
  rw[ix_get _ _ e,inc (i:Int) p1.length (by omega) (by omega) (by omega)]
  refine⟨by omega,by omega,ho _ (List.getElem_mem e),fun e2=> ?_,fun e2=>⟨⟨i+1,by omega,by omega,?_⟩,by omega⟩⟩
  ·have e2:(!(smB (opB p1[i])))=true:=e2
   have e2:smB (opB p1[i])=false:=by simpa using e2
   rw[e2,Bool.false_and]at he
   rw[<-he,Bool.false_and]at hR
   exact hR
  ·have e2:(!(smB (opB p1[i])))=false:=e2
   have e2:smB (opB p1[i])=true:=by simpa using e2
   rw[e2,Bool.true_and]at he
   exact he
 ·have e:i=p1.length:=by have:=of_decide_eq_false e;omega
  subst e
  rw[List.drop_length]at he
  rw[<-he,List.all_nil,Bool.true_and]at hR
  refine⟨fun e2=>⟨fun e3=> ?_,fun e3=> ?_⟩,fun e2=> ?_⟩
  ·rw[e2,e3,Bool.true_and,Bool.true_and]at hR
   exact hR
  ·rw[e2,e3,Bool.true_and,Bool.false_and]at hR
   exact hR
  ·rw[e2,Bool.false_and]at hR
   exact hR
noncomputable def k109:Con TB.den:=k54.fnR (fun(a0,a1,a2,a3,a4,a5,a6,a7,a8,a9,())=>(fun(p0:wF) (p1:List wAO)=>p1.length<=9223372036854775807/\∀o∈p1,o.wAH.length<=9223372036854775807/\∀t∈o.wAH,t.wT.length<=9223372036854775807) (wF.mk a0 a1 a2 a3 a4 a5 a6 a7 a8) a9) fun(a0,a1,a2,a3,a4,a5,a6,a7,a8,a9,())=>(fun(p0:wF) (p1:List wAO)=>(((smOps p0 p1):Bool),())) (wF.mk a0 a1 a2 a3 a4 a5 a6 a7 a8) a9
theorem k1sh:k109.Ok Tryz.prog TB:=Con.ok_fn k54 bd12 fun(a0,a1,a2,a3,a4,a5,a6,a7,a8,a9,()) h=>k1mr (k1gl (wF.mk a0 a1 a2 a3 a4 a5 a6 a7 a8) a9 h)
def k2u:Con TB.den:=Con.mk0 14 [.agg [.d (.sl (.st 8))]] [] (.tup [.one (zqu),.one (zqi)]) []
abbrev kwh:=CI k2u
abbrev k5x:=CO k2u
noncomputable def k4p:Cx TB:=⟨inf,[],[x37],4,[]⟩
noncomputable def kb8:Code:=Tryz.f14.body.getD .skip
noncomputable def kj0:List ResultVar:=Tryz.f14.results.toList
def k1di (o:k5x):=qS TB k4p 28 0 (cB (cB (cB kb8))) .no (retTQ TB k4p k2u kj0 o)
def k6c:Tm:=⟨[],[],[4,10,11,12],[.one (zqu),.one (.d (.sl (.st 8))),.one (zqi),.one (zqi)],1⟩
def k1d3 (o:k5x) (nx1:NX TB k6c):=qM TB 0 k6c nx1 (blockT TB 0 (k1di o))
def kam (o:k5x) (nx1:NX TB k6c) (i:HL TB.den k6c.hs):Prop:=WP TB k4p 28 0 (cA (cA (cB (cA (cB (cB kb8)))))) .no (k6c.fill TB i) (k1d3 o nx1)
noncomputable def k1d9 (o:k5x):An TB:= .nd [] .no [] (.lp [] k6c (kam o) fun nx1=> .no)
noncomputable def kt2 (o:k5x):An TB:= .nd [] .no [] (.nd [] .no [] (.nd [] (k1d9 o) [] .no))
def kga (x:kwh) (o:k5x):Prop:=WPh TB k4p 28 0 kb8 (kt2 o) (k2u.st TB x) (retTQ TB k4p k2u kj0 o)
theorem k1al (o:k5x):OblH TB k4p 28 0 kb8 (kt2 o) (retTQ TB k4p k2u kj0 o):=
 OblH.ofC (X:=((∀nx i,(kam o) nx i=(kam o) nx i)/\(∀nx1:NX TB k6c,True)/\True)) (by kernel_rfl) ⟨fun _ _=>rfl,fun _=>trivial,trivial⟩
theorem k1bu {x:kwh} {o:k5x} (h:kga x o):k2u.Snd Tryz.prog x o:=
 Con.soundH (c:=k2u) (C:=k4p) TBok ⟨inf_ok,all_nil,(all_cons x37_ok all_nil)⟩ mix Tryz.func14 (by kernel_rfl) (by kernel_rfl) (by kernel_rfl) rfl h (k1al o)
theorem k1fn {p0:wg} {r0 r1:Int} (h:
(Md.Loop ((0:Int),p0.wB,((p0.wB.length:Int):Int),(0:Int),()) (kam (r0,r1,())))):kga (p0.wB,()) (r0,r1,()):=WPh.of_eq (by kernel_rfl) h
def kti (r0 r1:Int) (k1:Int->Int->Prop) (s10:List wA) (s11 s4 s12:Int):Prop:=
(decide (s12<s11)=true->
(0<=s12)/\s12<(s10.length:Int)/\(0<=s4/\0<=((ix s10 s12).wX)/\0<=(0:Int)/\(0:Int)<=1)/\let r2:Int:=(s4+((ix s10 s12).wX)+(0:Int))%18446744073709551616
 let r3:Int:=(s4+((ix s10 s12).wX)+(0:Int))/18446744073709551616
((r3 !=0)=true->
 0=r0/\3=r1)/\
((r3 !=0)=false->
 k1 r2 (IntKind.i64.wrap (s12+1):Int)))/\
(decide (s12<s11)=false->
 s4=r0/\0=r1)
theorem k193 {r0 r1:Int} {s10:List wA} {s11 s4 s12:Int} (inv:Int->Int->Prop) (μ:Int->Int->Nat) (h0:inv s4 s12) (hs:∀(s4 s12:Int),inv s4 s12->kti r0 r1 (fun s4q s12q=>inv s4q s12q/\μ s4q s12q<μ s4 s12) s10 s11 s4 s12):Md.Loop (s4,s10,s11,s12,()) (kam (r0,r1,())):=
 ⟨⟨fun((s4q,s10q,s11q,s12q,()):Int×(List wA)×Int×Int×Unit)=>(s10=s10q/\s11=s11q)/\inv s4q s12q,fun((s4q,_,_,s12q,()):Int×(List wA)×Int×Int×Unit)=>μ s4q s12q,⟨⟨rfl,rfl⟩,h0⟩,fun(s4p,s10p,s11p,s12p,()) ⟨eq,hi⟩=>by
  obtain⟨rfl,rfl⟩:=eq;exact mpr_of (by kernel_rfl) ((congrArg (fun k=>kti r0 r1 k s10 s11 s4p s12p) (lpk2 (⟨rfl,rfl⟩:s10=s10/\s11=s11) inv (fun s4q s12q=>μ s4q s12q<μ s4p s12p))).mpr (hs s4p s12p hi))⟩⟩
theorem bd14:Callable Tryz.prog 14:=⟨by rw[Tryz.func14];kernel_rfl,by rw[Tryz.func14];show some _≠some _;decide⟩
theorem k15n (p0:wg) (h:OkA p0.wB):kga (p0.wB,()) ((((totA 0 p0.wB).1):Int),(((totA 0 p0.wB).2):Int),()):=by
 have hl:=h.2.1
 refine k1fn (k193 (fun t a=>∃i:Nat,a=(i:Int)/\i<=p0.wB.length/\(0<=t/\t<18446744073709551616)/\totA t (p0.wB.drop i)=totA 0 p0.wB) (fun _ a=>(p0.wB.length-a).toNat) ⟨0,rfl,by omega,by omega,rfl⟩ ?_)
 rintro t _ ⟨i,rfl,hi,ht,he⟩
 refine⟨fun hc=> ?_,fun hc=> ?_⟩
 ·have hc:=of_decide_eq_true hc
  have hi' :i<p0.wB.length:=by omega
  have hb:=h.2.2 _ (List.getElem_mem hi')
  unfold AccOk at hb
  rw[k1y7 _ _ _ hi']at he
  rw[ix_get _ _ hi']
  refine⟨by omega,hc,⟨ht.1,by omega,by omega,by omega⟩,fun hx=> ?_,fun hx=> ?_⟩
  ·have hx:(t+p0.wB[i].wX+0)/18446744073709551616≠0:=by simpa using hx
   rw[if_pos (by omega)]at he
   rw[<-he]
   exact⟨rfl,rfl⟩
  ·have hx:(t+p0.wB[i].wX+0)/18446744073709551616=0:=by simpa using hx
   rw[if_neg (by omega)]at he
   rw[inc_i64 _ (by omega)]
   have e:(t+p0.wB[i].wX+0)%18446744073709551616=t+p0.wB[i].wX:=by omega
   rw[e]
   exact⟨⟨i+1,rfl,by omega,by omega,he⟩,by omega⟩
 ·have hc:=of_decide_eq_false hc
  have:i=p0.wB.length:=by omega
  subst this
  rw[List.drop_length]at he
  rw[<-he]
  exact⟨rfl,rfl⟩
noncomputable def kqt:Con TB.den:=k2u.fnR (fun x=>(fun(p0:wg)=>OkA p0.wB) (wg.mk x.1)) fun x=>(fun(p0:wg)=>((((totA 0 p0.wB).1):Int),(((totA 0 p0.wB).2):Int),())) (wg.mk x.1)
theorem k1ff:kqt.Ok Tryz.prog TB:=Con.ok_fn k2u bd14 fun x h=>k1bu (k15n (wg.mk x.1) h)
def k3m:Con TB.den:=Con.mk0 3 [.agg [zqi,zqi,zqi,zqi,zqi,zqu,zqi,zqi,zqu],.one (.d (.sl (.st 3)))] [] (.one (.one (.d (.bool)))) []
abbrev ks1:=CI k3m
abbrev k46:=CO k3m
noncomputable def k3o:Cx TB:=⟨inf,[k101,k109,k14g,khw,kqt,kic,kq1],[],4,[]⟩
noncomputable def k9p:Code:=Tryz.f3.body.getD .skip
noncomputable def kgn:List ResultVar:=Tryz.f3.results.toList
def k166 (o:k46):=qS TB k3o 49 0 (cB (cB k9p)) .no (retTQ TB k3o k3m kgn o)
def ka5:Tm:=⟨[0],[.cells [zqi,zqi,zqi,zqi,zqi,zqu,zqi,zqi,zqu]],[1,2,17],[.one (.d (.sl (.st 3))),.one (.ptr 0 0),.one (.d (.bool))],1⟩
def kmz (o:k46) (i:HL TB.den ka5.hs):Prop:=ghs TB [] (ka5.fill TB i) fun s=>WP TB k3o 49 0 (cB (cA (cB k9p))) .no s (k166 o)
structure k6g (o:k46) (i:HL TB.den ka5.hs):Prop where
 h:kmz o i
noncomputable def k152 (o:k46):An TB:= .nd [] (.jn ka5 (k6g o) [] .no [] .no) [] .no
noncomputable def kom (o:k46):An TB:= .nd [] .no [] (k152 o)
def kdu (x:ks1) (o:k46):Prop:=WPh TB k3o 49 0 k9p (kom o) (k3m.st TB x) (retTQ TB k3o k3m kgn o)
theorem k12c (o:k46):OblH TB k3o 49 0 k9p (kom o) (retTQ TB k3o k3m kgn o):=
 OblH.ofC (X:=((∀i,(k6g o) i=kmz o i)/\True)) (by kernel_rfl) ⟨fun _=>propext ⟨fun h=>h.1,fun h=>⟨h⟩⟩,trivial⟩
theorem k13z {x:ks1} {o:k46} (h:kdu x o):k3m.Snd Tryz.prog x o:=
 Con.soundH (c:=k3m) (C:=k3o) TBok ⟨inf_ok,(all_cons k1qu (all_cons k1sh (all_cons k1ta (all_cons kst (all_cons k1ff (all_cons ksx (all_cons k1fa all_nil))))))),all_nil⟩ mix Tryz.func3 (by kernel_rfl) (by kernel_rfl) (by kernel_rfl) rfl h (k12c o)
theorem k174 {p0:wF} {p1:List wAO} {r0:Bool} (h:
(((!true)=true->
 k6g (r0,()) (p1,true,p0.wt,p0.wD,p0.wN,p0.wK,p0.wH,p0.wW,p0.wa,p0.wS,p0.wl,()))/\
((!true)=false->
(p1.length<=9223372036854775807/\∀o∈p1,o.wAH.length<=9223372036854775807/\∀t∈o.wAH,t.wT.length<=9223372036854775807)/\k6g (r0,()) (p1,((!(smOps p0 p1)):Bool),p0.wt,p0.wD,p0.wN,p0.wK,p0.wH,p0.wW,p0.wa,p0.wS,p0.wl,())))):kdu (p0.wt,p0.wD,p0.wN,p0.wK,p0.wH,p0.wW,p0.wa,p0.wS,p0.wl,p1,()) (r0,()):=WPh.of_eq (by kernel_rfl) h
theorem ky8 {r0:Bool} {s1:List wAO} {s17:Bool} {Aa Ab Ac Am Ar Ao Av Aw Au:Int} (h:
((s17=true->
 true=r0)/\
(s17=false->
(rulesE (wF.mk Aa Ab Ac Am Ar Ao Av Aw Au)=0/\0<=(wF.mk Aa Ab Ac Am Ar Ao Av Aw Au).wW/\s1.length<=60/\OpsR s1)/\let r1:Int:=((plS (wF.mk Aa Ab Ac Am Ar Ao Av Aw Au) s1).n:Int)
 let r2:=(plS (wF.mk Aa Ab Ac Am Ar Ao Av Aw Au) s1).s
 let r3:List wj:=((plS (wF.mk Aa Ab Ac Am Ar Ao Av Aw Au) s1).g)
((!true)=true->
 false=r0)/\
((!true)=false->
(r2.p.length=r2.p.length)/\(r2.r.length=r2.r.length)/\(r2.l.length=r2.l.length)/\(r2.b.length<=100000)/\(OkA (wg.mk r2.b).wB)/\let v4:Bool:=(((totA 0 (wg.mk r2.b).wB).2)==0)
(v4=true->
(r2.p.length=r2.p.length)/\(r2.r.length=r2.r.length)/\(r2.l.length=r2.l.length)/\let v5:Int:=IntKind.u64.wrap (((totA 0 (wg.mk r2.b).wB).1)+r2.n)
(r2.p.length=r2.p.length)/\(r2.r.length=r2.r.length)/\(r2.l.length=r2.l.length)/\let v6:Int:=IntKind.u64.wrap ((IntKind.u64.wrap (r2.p.length:Int))*Ao)
(v5==v6)=r0)/\
(v4=false->
 false=r0))))):k6g (r0,()) (s1,s17,Aa,Ab,Ac,Am,Ar,Ao,Av,Aw,Au,()):=⟨mpr_of (by kernel_rfl) h⟩
theorem k113 (p0:wF) (p1:List wAO) (h:OArg p0 p1):kdu (p0.wt,p0.wD,p0.wN,p0.wK,p0.wH,p0.wW,p0.wa,p0.wS,p0.wl,p1,()) ((true:Bool),()):=by
 have j1:∀b,(b=false->smOps p0 p1=true)->k6g (true,()) (p1,b,p0.wt,p0.wD,p0.wN,p0.wK,p0.wH,p0.wW,p0.wa,p0.wS,p0.wl,()):=by
  intro b hb
  refine ky8 ⟨fun _=>rfl,fun e=> ?_⟩
  obtain⟨q1,q2,q3,q4⟩:=k1z4 (hb e) h
  obtain⟨H,hH⟩:=play_PH q1 h.hr (by omega) q2
  obtain⟨r,hr⟩:=hH.pos
  obtain⟨hi,hR⟩:=hH.i (plS p0 p1).s (by rw[hr];simp)
  have hl:=hi.b.2.2
  obtain⟨t1,t2⟩:=sup_PI hi (by omega)
  refine⟨⟨q1,h.hr,by omega,q2⟩,?_⟩
  have ep:plS (wF.mk p0.wt p0.wD p0.wN p0.wK p0.wH p0.wW p0.wa p0.wS p0.wl) p1=plS p0 p1:=rfl
  rw[ep]
  generalize plS p0 p1=X at *
  have e3:IntKind.u64.wrap (sumA X.s.b+X.s.n)=IntKind.u64.wrap (IntKind.u64.wrap (X.s.p.length:Int)*p0.wW):=by rw[t2,hR]
  refine⟨fun e=>(by cases e),fun _=>⟨rfl,rfl,rfl,(by show X.s.b.length<=100000;omega),hi.b.1,fun _=>⟨rfl,rfl,rfl,rfl,rfl,rfl,?_⟩,fun e=> ?_⟩⟩
  ·show(IntKind.u64.wrap ((totA 0 X.s.b).1+X.s.n)==IntKind.u64.wrap (IntKind.u64.wrap (X.s.p.length:Int)*p0.wW))=true
   rw[t1,e3]
   simp
  ·have e:((totA 0 X.s.b).2==0)=false:=e
   rw[t1]at e
   cases e
 refine k174 ⟨fun e=>(by cases e),fun _=>⟨h.sm,j1 _ fun e=>by simpa using e⟩⟩
end Go.Proofs.YtlfcebhnjkcmnaaGreat
end
