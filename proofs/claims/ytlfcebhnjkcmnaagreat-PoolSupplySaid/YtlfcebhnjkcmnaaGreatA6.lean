/-
  Parts of the proofs that the laws of this seat hold of every input, merged by a program: a machine over pure data that is sound for the model, what each function of the translation does in it, and plain lemmas. No conditions but those in each theorem.
-/
import Derived.Test.YtlfcebhnjkcmnaaGreatA5
set_option linter.all false
set_option maxRecDepth 100000
noncomputable section
namespace Go.Proofs.YtlfcebhnjkcmnaaGreat
open Go Go.Bv Go.Cv Go.Md Go.RowKit
def k15:Con TB.den:=Con.mk0 90 [.one (.ptr 0 0),.agg [zqu,zql,.d (.sl (.st 1)),zqu,zqu,zqu,zqu,zqu,zqi,.d (.sl yqb)],.one (.ptr 1 0)] [.cells [zqi,zqi,zqi,zqi,zqi,zqu,zqi,zqi,zqu,zqi,zqi,zql,.row 2,.ptr 3 0,.d (.sl (.st 8)),zqu,.row 4,.row 5],.cells [zqi,zqi,zql,zqi,.own 6,.d (.sl (.st 8)),zqu],.vec yqu,.cells [.mp 7],.vec yqu,.vec (.st 9),.tip yqu,.map yqu (.bool)] (.one (.one (zqi))) [.cells [zqi,zqi,zqi,zqi,zqi,zqu,zqi,zqi,zqu,zqi,zqi,zql,.row 8,.ptr 3 0,.d (.sl (.st 8)),zqu,.row 4,.row 5],.cells [zqi,zqi,zql,zqi,.own 6,.d (.sl (.st 8)),zqu],.dead,.cells [.mp 7],.vec yqu,.vec (.st 9),.tip yqu,.map yqu (.bool),.vec yqu]
abbrev koq:=CI k15
abbrev kr:=CO k15
noncomputable def k16:Cx TB:=⟨inf,[k18l,kks,ki7,kge],[],4,[33,67,68]⟩
noncomputable def k4e:Code:=Tryz.f90.body.getD .skip
noncomputable def k7d:List ResultVar:=Tryz.f90.results.toList
def k6q:Tm:=⟨[0,1,3,4,5,6,7,9,8],[.cells [zqi,zqi,zqi,zqi,zqi,zqu,zqi,zqi,zqu,zqi,zqi,zql,.row 8,.ptr 2 0,.d (.sl (.st 8)),zqu,.row 3,.row 4],.cells [zqi,zqi,zql,zqi,.own 5,.d (.sl (.st 8)),zqu],.cells [.mp 6],.vec yqu,.vec (.st 9),.tip yqu,.map yqu (.bool),.cells [zqu,zql,.d (.sl (.st 1)),zqu,zqu,zqu,zqu,zqu,zqi,.d (.sl yqb)],.vec yqu],[0,4],[.one (.ptr 0 0),.one (.ptr 7 0)],86⟩
def kkr (o:kr) (i:HL TB.den k6q.hs):Prop:=ghs TB [] (k6q.fill TB i) fun s=>WP TB k16 134 8 (cB (cB (cB (cB (cB (cB k4e)))))) .no s (retTQ TB k16 k15 k7d o)
structure k44 (o:kr) (i:HL TB.den k6q.hs):Prop where
 h:kkr o i
def k9l:Tm:=⟨[0,1,3,4,5,6,7,9,8],[.cells [zqi,zqi,zqi,zqi,zqi,zqu,zqi,zqi,zqu,zqi,zqi,zql,.row 8,.ptr 2 0,.d (.sl (.st 8)),zqu,.row 3,.row 4],.cells [zqi,zqi,zql,zqi,.own 5,.d (.sl (.st 8)),zqu],.cells [.mp 6],.vec yqu,.vec (.st 9),.tip yqu,.map yqu (.bool),.cells [zqu,zql,.d (.sl (.st 1)),zqu,zqu,zqu,zqu,zqu,zqi,.d (.sl yqb)],.vec yqu],[0,4],[.one (.ptr 0 0),.one (.ptr 7 0)],86⟩
def kkk (o:kr) (i:HL TB.den k9l.hs):Prop:=ghs TB [] (k9l.fill TB i) fun s=>WP TB k16 134 8 (cB (cB (cB (cB (cB k4e))))) (.jn k6q (k44 o) [] .no [] .no) s (retTQ TB k16 k15 k7d o)
structure k5v (o:kr) (i:HL TB.den k9l.hs):Prop where
 h:kkk o i
noncomputable def kmu (o:kr):An TB:= .jn k9l (k5v o) [] .no [] (.jn k6q (k44 o) [] .no [] .no)
def k14j (o:kr):=qS TB k16 134 8 (cB (cB (cB (cB k4e)))) (kmu o) (retTQ TB k16 k15 k7d o)
def k3v:Tm:=⟨[0,1,3,4,5,6,7,9,8],[.cells [zqi,zqi,zqi,zqi,zqi,zqu,zqi,zqi,zqu,zqi,zqi,zql,.row 8,.ptr 2 0,.d (.sl (.st 8)),zqu,.row 3,.row 4],.cells [zqi,zqi,zql,zqi,.own 5,.d (.sl (.st 8)),zqu],.cells [.mp 6],.vec yqu,.vec (.st 9),.tip yqu,.map yqu (.bool),.cells [zqu,zql,.d (.sl (.st 1)),zqu,zqu,zqu,zqu,zqu,zqi,.d (.sl yqb)],.vec yqu],[0,4,37,38,39],[.one (.ptr 0 0),.one (.ptr 7 0),.one (.d (.sl (.st 1))),.one (zqi),.one (zqi)],86⟩
def k11l (o:kr) (nx1:NX TB k3v):=qM TB 8 k3v nx1 (blockT TB 0 (k14j o))
def k7t (o:kr) (nx1:NX TB k3v) (i:HL TB.den k3v.hs):Prop:=WP TB k16 134 8 (cA (cA (cB (cA (cB (cB (cB k4e))))))) .no (k3v.fill TB i) (k11l o nx1)
noncomputable def k10w (o:kr):An TB:= .lp [] k3v (k7t o) fun nx1=> .no
noncomputable def k10y (o:kr):An TB:= .nd [] (.nd [] .no [] (k10w o)) [] (kmu o)
noncomputable def kmy (o:kr):An TB:= .nd [.trimc 0 12] .no [] (.nd [] .no [] (.nd [] .no [] (k10y o)))
def kcl (x:koq) (o:kr):Prop:=WPh TB k16 134 8 k4e (kmy o) (k15.st TB x) (retTQ TB k16 k15 k7d o)
theorem k10v (o:kr):OblH TB k16 134 8 k4e (kmy o) (retTQ TB k16 k15 k7d o):=
 OblH.ofC (X:=((∀nx i,(k7t o) nx i=(k7t o) nx i)/\(∀nx1:NX TB k3v,True)/\(∀i,(k5v o) i=kkk o i)/\(∀i,(k44 o) i=kkr o i)/\True)) (by kernel_rfl) ⟨fun _ _=>rfl,fun _=>trivial,fun _=>propext ⟨fun h=>h.1,fun h=>⟨h⟩⟩,fun _=>propext ⟨fun h=>h.1,fun h=>⟨h⟩⟩,trivial⟩
theorem k10g {x:koq} {o:kr} (h:kcl x o):k15.Snd Tryz.prog x o:=
 Con.soundH (c:=k15) (C:=k16) TBok ⟨inf_ok,(all_cons k1w3 (all_cons k149 (all_cons kto (all_cons kqd all_nil)))),all_nil⟩ mix Tryz.func90 (by kernel_rfl) (by kernel_rfl) (by kernel_rfl) rfl h (k10v o)
theorem k11o {p1:wm} {Ay As Az Ba Bb Bc Ah Bd Be At Ae:Int} {Af:List Int} {Ad:List wA} {Ag D8 D9:Int} {Ea:List Int} {Eb:Int} {Ec:List wA} {Ed:Int} {w2 w4:List Int} {w5:List wI} {w6 w7k:List Int} {w7v:List Bool} {r0 Bo Bp Bq Br Bs Bt Bu Bw Bx Bz Bh:Int} {Bi:List Int} {Bj:List wA} {Bk Cw Cy:Int} {Cz:List Int} {C0:Int} {C1:List wA} {C2:Int} {e4:List Int} {e5:List wI} {e6 e7k:List Int} {e7v:List Bool} {e8:List Int} (h:
(w2.length=w2.length/\(w7v=trs w7k/\p1.wE.length<=1000000)/\((((addS p1.wE w7k).1) !=0)=true->
(w6=w6)/\(w5.length=w5.length)/\(w4.length=w4.length)/\(w2.length=w2.length)/\((addS p1.wE w7k).1)=r0/\Ay=Bo/\As=Bp/\Az=Bq/\Ba=Br/\Bb=Bs/\Bc=Bt/\Ah=Bu/\Bd=Bw/\Be=Bx/\At=Bz/\Ae=Bh/\Af=Bi/\Ad=Bj/\Ag=Bk/\D8=Cw/\D9=Cy/\Ea=Cz/\Eb=C0/\Ec=C1/\Ed=C2/\w4=e4/\w5=e5/\w6=e6/\((addS p1.wE w7k).2)=e7k/\(trs (addS p1.wE w7k).2)=e7v/\w2=e8)/\
((((addS p1.wE w7k).1) !=0)=false->
 w6.length=w6.length/\(w6.length+p1.wE.length)*8<=140737488355328/\w6.length+p1.wE.length<=maxLen/\(w6++p1.wE=w6++p1.wE)/\(w5.length=w5.length)/\(w4.length=w4.length)/\(w2.length=w2.length)/\Md.Loop (p1.wT,((p1.wT.length:Int):Int),(0:Int),Ay,As,Az,Ba,Bb,Bc,Ah,Bd,Be,At,Ae,Af,Ad,Ag,D8,D9,Ea,Eb,Ec,Ed,p1.wy,p1.wE,p1.wT,p1.wV,p1.wZ,p1.Fee,p1.we,p1.wO,p1.wx,p1.wAD,w4,w5,(w6++p1.wE:List Int),(((addS p1.wE w7k).2):List Int),((trs (addS p1.wE w7k).2):List Bool),w2,()) (k7t (r0,Bo,Bp,Bq,Br,Bs,Bt,Bu,Bw,Bx,Bz,Bh,Bi,Bj,Bk,Cw,Cy,Cz,C0,C1,C2,e4,e5,e6,e7k,e7v,e8,()))))):kcl (p1.wy,p1.wE,p1.wT,p1.wV,p1.wZ,p1.Fee,p1.we,p1.wO,p1.wx,p1.wAD,Ay,As,Az,Ba,Bb,Bc,Ah,Bd,Be,At,Ae,Af,Ad,Ag,D8,D9,Ea,Eb,Ec,Ed,w2,w4,w5,w6,w7k,w7v,()) (r0,Bo,Bp,Bq,Br,Bs,Bt,Bu,Bw,Bx,Bz,Bh,Bi,Bj,Bk,Cw,Cy,Cz,C0,C1,C2,e4,e5,e6,e7k,e7v,e8,()):=WPh.of_eq (by kernel_rfl) h
theorem kwn {r0 Bo Bp Bq Br Bs Bt Bu Bw Bx Bz Bh:Int} {Bi:List Int} {Bj:List wA} {Bk Cw Cy:Int} {Cz:List Int} {C0:Int} {C1:List wA} {C2:Int} {e4:List Int} {e5:List wI} {e6 e7k:List Int} {e7v:List Bool} {e8:List Int} {Aa Ab Ac Am Ar Ao Av Aw Au Bg Bl:Int} {Ax:List Int} {Bf:List wA} {B5 Ai Aj:Int} {Ak:List Int} {Bm:Int} {Bn:List wA} {B1 D6:Int} {D7:List Int} {D1:List ww} {Dm Dn D2 Eu Ev E9:Int} {Fa g4:List Int} {g5:List wI} {g6 g7k:List Int} {g7v:List Bool} {g8:List Int} (h:
((decide (0<Dn)=true->
(OkA (wg.mk Bf).wB/\U64 Dn)/\let r3:=creditA (wg.mk Bf).wB Eu Dn
((r3.2 !=0)=true->
(g6=g6)/\(g5.length=g5.length)/\(g4.length=g4.length)/\(g8.length=g8.length)/\r3.2=r0/\Aa=Bo/\Ab=Bp/\Ac=Bq/\Am=Br/\Ar=Bs/\Ao=Bt/\Av=Bu/\Aw=Bw/\Au=Bx/\Bg=Bz/\Bl=Bh/\Ax=Bi/\Bf=Bj/\B5=Bk/\Ai=Cw/\Aj=Cy/\Ak=Cz/\Bm=C0/\Bn=C1/\B1=C2/\g4=e4/\g5=e5/\g6=e6/\g7k=e7k/\g7v=e7v/\g8=e8)/\
((r3.2 !=0)=false->
(g6=g6)/\(g5.length=g5.length)/\(g4.length=g4.length)/\(g8.length=g8.length)/\k44 (r0,Bo,Bp,Bq,Br,Bs,Bt,Bu,Bw,Bx,Bz,Bh,Bi,Bj,Bk,Cw,Cy,Cz,C0,C1,C2,e4,e5,e6,e7k,e7v,e8,()) (Aa,Ab,Ac,Am,Ar,Ao,Av,Aw,Au,Bg,Bl,Ax,(r3.1:List wA),B5,Ai,Aj,Ak,Bm,Bn,B1,D6,D7,D1,Dm,Dn,D2,Eu,Ev,E9,Fa,g4,g5,g6,g7k,g7v,g8,())))/\
(decide (0<Dn)=false->
(g6=g6)/\(g5.length=g5.length)/\(g4.length=g4.length)/\(g8.length=g8.length)/\k44 (r0,Bo,Bp,Bq,Br,Bs,Bt,Bu,Bw,Bx,Bz,Bh,Bi,Bj,Bk,Cw,Cy,Cz,C0,C1,C2,e4,e5,e6,e7k,e7v,e8,()) (Aa,Ab,Ac,Am,Ar,Ao,Av,Aw,Au,Bg,Bl,Ax,Bf,B5,Ai,Aj,Ak,Bm,Bn,B1,D6,D7,D1,Dm,Dn,D2,Eu,Ev,E9,Fa,g4,g5,g6,g7k,g7v,g8,())))):k5v (r0,Bo,Bp,Bq,Br,Bs,Bt,Bu,Bw,Bx,Bz,Bh,Bi,Bj,Bk,Cw,Cy,Cz,C0,C1,C2,e4,e5,e6,e7k,e7v,e8,()) (Aa,Ab,Ac,Am,Ar,Ao,Av,Aw,Au,Bg,Bl,Ax,Bf,B5,Ai,Aj,Ak,Bm,Bn,B1,D6,D7,D1,Dm,Dn,D2,Eu,Ev,E9,Fa,g4,g5,g6,g7k,g7v,g8,()):=⟨mpr_of (by kernel_rfl) h⟩
theorem kwf {r0 Bo Bp Bq Br Bs Bt Bu Bw Bx Bz Bh:Int} {Bi:List Int} {Bj:List wA} {Bk Cw Cy:Int} {Cz:List Int} {C0:Int} {C1:List wA} {C2:Int} {e4:List Int} {e5:List wI} {e6 e7k:List Int} {e7v:List Bool} {e8:List Int} {Aa Ab Ac Am Ar Ao Av Aw Au Bg Bl:Int} {Ax:List Int} {Bf:List wA} {B5 Ai Aj:Int} {Ak:List Int} {Bm:Int} {Bn:List wA} {B1 D6:Int} {D7:List Int} {D1:List ww} {Dm Dn D2 Eu Ev E9:Int} {Fa g4:List Int} {g5:List wI} {g6 g7k:List Int} {g7v:List Bool} {g8:List Int} (h:
(let v4:Int:=IntKind.u64.wrap ((IntKind.u64.wrap (B5+Dm))-Dn)
(g6=g6)/\(g5.length=g5.length)/\(g4.length=g4.length)/\(g8.length=g8.length)/\0=r0/\Aa=Bo/\Ab=Bp/\Ac=Bq/\Am=Br/\Ar=Bs/\Ao=Bt/\Av=Bu/\Aw=Bw/\Au=Bx/\Bg=Bz/\Bl=Bh/\Ax=Bi/\Bf=Bj/\IntKind.u64.wrap (v4-D2)=Bk/\Ai=Cw/\Aj=Cy/\Ak=Cz/\Bm=C0/\Bn=C1/\B1=C2/\g4=e4/\g5=e5/\g6=e6/\g7k=e7k/\g7v=e7v/\g8=e8)):k44 (r0,Bo,Bp,Bq,Br,Bs,Bt,Bu,Bw,Bx,Bz,Bh,Bi,Bj,Bk,Cw,Cy,Cz,C0,C1,C2,e4,e5,e6,e7k,e7v,e8,()) (Aa,Ab,Ac,Am,Ar,Ao,Av,Aw,Au,Bg,Bl,Ax,Bf,B5,Ai,Aj,Ak,Bm,Bn,B1,D6,D7,D1,Dm,Dn,D2,Eu,Ev,E9,Fa,g4,g5,g6,g7k,g7v,g8,()):=⟨mpr_of (by kernel_rfl) h⟩
def kml (r0 Bo Bp Bq Br Bs Bt Bu Bw Bx Bz Bh:Int) (Bi:List Int) (Bj:List wA) (Bk Cw Cy:Int) (Cz:List Int) (C0:Int) (C1:List wA) (C2:Int) (e4:List Int) (e5:List wI) (e6 e7k:List Int) (e7v:List Bool) (e8:List Int) (k1:Int->Int->Int->List Int->List Int->Prop) (s37:List ww) (s38 Aa Ab Ac Am Ar Ao Av Aw Au:Int) (Bf:List wA) (B5 Ai Aj:Int) (Ak:List Int) (Bm:Int) (Bn:List wA) (B1 D6:Int) (D7:List Int) (D1:List ww) (Dm Dn D2 Eu Ev E9:Int) (Fa g4:List Int) (g5:List wI) (g6 g7k:List Int) (g7v:List Bool) (s39 Bg Bl:Int) (Ax g8:List Int):Prop:=
(decide (s39<s38)=true->
(0<=s39)/\s39<(s37.length:Int)/\(FV (wC.mk Bg Bl Ax)/\(wC.mk Bg Bl Ax).wh<((2^(wC.mk Bg Bl Ax).wD.toNat:Nat):Int)/\0<=((ix s37 s39).wz)/\((ix s37 s39).wz)<18446744069414584321)/\let r1:=apF (wC.mk Bg Bl Ax) ((ix s37 s39).wz)
(((0:Int) !=0)=true->
(g6=g6)/\(g5.length=g5.length)/\(g4.length=g4.length)/\(g8.length=g8.length)/\0=r0/\Aa=Bo/\Ab=Bp/\Ac=Bq/\Am=Br/\Ar=Bs/\Ao=Bt/\Av=Bu/\Aw=Bw/\Au=Bx/\Bg=Bz/\Bl=Bh/\Ax=Bi/\Bf=Bj/\B5=Bk/\Ai=Cw/\Aj=Cy/\Ak=Cz/\Bm=C0/\Bn=C1/\B1=C2/\g4=e4/\g5=e5/\g6=e6/\g7k=e7k/\g7v=e7v/\g8=e8)/\
(((0:Int) !=0)=false->
 g8.length=g8.length/\[(ix s37 s39).wz].length=[(ix s37 s39).wz].length/\(g8.length+[(ix s37 s39).wz].length)*8<=140737488355328/\g8.length+[(ix s37 s39).wz].length<=maxLen/\(g6=g6)/\(g5.length=g5.length)/\(g4.length=g4.length)/\((g8++[(ix s37 s39).wz]).length=(g8++[(ix s37 s39).wz]).length)/\k1 (IntKind.i64.wrap (s39+1):Int) r1.wD r1.wh r1.wq (g8++[(ix s37 s39).wz]:List Int)))/\
(decide (s39<s38)=false->
(decide (0<Dm)=true->
(OkA (wg.mk Bf).wB/\U64 Dm/\U64 Ev)/\let r2:=debitA (wg.mk Bf).wB Eu Dm Ev
((r2.2 !=0)=true->
(g6=g6)/\(g5.length=g5.length)/\(g4.length=g4.length)/\(g8.length=g8.length)/\r2.2=r0/\Aa=Bo/\Ab=Bp/\Ac=Bq/\Am=Br/\Ar=Bs/\Ao=Bt/\Av=Bu/\Aw=Bw/\Au=Bx/\Bg=Bz/\Bl=Bh/\Ax=Bi/\Bf=Bj/\B5=Bk/\Ai=Cw/\Aj=Cy/\Ak=Cz/\Bm=C0/\Bn=C1/\B1=C2/\g4=e4/\g5=e5/\g6=e6/\g7k=e7k/\g7v=e7v/\g8=e8)/\
((r2.2 !=0)=false->
(g6=g6)/\(g5.length=g5.length)/\(g4.length=g4.length)/\(g8.length=g8.length)/\k5v (r0,Bo,Bp,Bq,Br,Bs,Bt,Bu,Bw,Bx,Bz,Bh,Bi,Bj,Bk,Cw,Cy,Cz,C0,C1,C2,e4,e5,e6,e7k,e7v,e8,()) (Aa,Ab,Ac,Am,Ar,Ao,Av,Aw,Au,Bg,Bl,Ax,(r2.1:List wA),B5,Ai,Aj,Ak,Bm,Bn,B1,D6,D7,D1,Dm,Dn,D2,Eu,Ev,E9,Fa,g4,g5,g6,g7k,g7v,g8,())))/\
(decide (0<Dm)=false->
(g6=g6)/\(g5.length=g5.length)/\(g4.length=g4.length)/\(g8.length=g8.length)/\k5v (r0,Bo,Bp,Bq,Br,Bs,Bt,Bu,Bw,Bx,Bz,Bh,Bi,Bj,Bk,Cw,Cy,Cz,C0,C1,C2,e4,e5,e6,e7k,e7v,e8,()) (Aa,Ab,Ac,Am,Ar,Ao,Av,Aw,Au,Bg,Bl,Ax,Bf,B5,Ai,Aj,Ak,Bm,Bn,B1,D6,D7,D1,Dm,Dn,D2,Eu,Ev,E9,Fa,g4,g5,g6,g7k,g7v,g8,())))
set_option maxHeartbeats 4000000 in
theorem k118 {r0 Bo Bp Bq Br Bs Bt Bu Bw Bx Bz Bh:Int} {Bi:List Int} {Bj:List wA} {Bk Cw Cy:Int} {Cz:List Int} {C0:Int} {C1:List wA} {C2:Int} {e4:List Int} {e5:List wI} {e6 e7k:List Int} {e7v:List Bool} {e8:List Int} {s37:List ww} {s38 Aa Ab Ac Am Ar Ao Av Aw Au:Int} {Bf:List wA} {B5 Ai Aj:Int} {Ak:List Int} {Bm:Int} {Bn:List wA} {B1 D6:Int} {D7:List Int} {D1:List ww} {Dm Dn D2 Eu Ev E9:Int} {Fa g4:List Int} {g5:List wI} {g6 g7k:List Int} {g7v:List Bool} {s39 Bg Bl:Int} {Ax g8:List Int} (inv:Int->Int->Int->List Int->List Int->Prop) (μ:Int->Int->Int->List Int->List Int->Nat) (h0:inv s39 Bg Bl Ax g8) (hs:∀(s39 Bg Bl:Int) (Ax g8:List Int),inv s39 Bg Bl Ax g8->kml r0 Bo Bp Bq Br Bs Bt Bu Bw Bx Bz Bh Bi Bj Bk Cw Cy Cz C0 C1 C2 e4 e5 e6 e7k e7v e8 (fun s39q Cd Cl B8 g8q=>inv s39q Cd Cl B8 g8q/\μ s39q Cd Cl B8 g8q<μ s39 Bg Bl Ax g8) s37 s38 Aa Ab Ac Am Ar Ao Av Aw Au Bf B5 Ai Aj Ak Bm Bn B1 D6 D7 D1 Dm Dn D2 Eu Ev E9 Fa g4 g5 g6 g7k g7v s39 Bg Bl Ax g8):Md.Loop (s37,s38,s39,Aa,Ab,Ac,Am,Ar,Ao,Av,Aw,Au,Bg,Bl,Ax,Bf,B5,Ai,Aj,Ak,Bm,Bn,B1,D6,D7,D1,Dm,Dn,D2,Eu,Ev,E9,Fa,g4,g5,g6,g7k,g7v,g8,()) (k7t (r0,Bo,Bp,Bq,Br,Bs,Bt,Bu,Bw,Bx,Bz,Bh,Bi,Bj,Bk,Cw,Cy,Cz,C0,C1,C2,e4,e5,e6,e7k,e7v,e8,())):=
 ⟨⟨fun((s37q,s38q,s39q,Al,Ap,Aq,Ce,Cg,Ch,Ci,Cj,Ck,Cd,Cl,B8,Ct,Dx,B0,B2,B3,Dg,Dh,Dp,h9_0q,h9_1q,h9_2q,h9_3q,h9_4q,h9_5q,h9_6q,h9_7q,h9_8q,h9_9q,g4q,g5q,g6q,g7kq,g7vq,g8q,()):(List ww)×Int×Int×Int×Int×Int×Int×Int×Int×Int×Int×Int×Int×Int×(List Int)×(List wA)×Int×Int×Int×(List Int)×Int×(List wA)×Int×Int×(List Int)×(List ww)×Int×Int×Int×Int×Int×Int×(List Int)×(List Int)×(List wI)×(List Int)×(List Int)×(List Bool)×(List Int)×Unit)=>(s37=s37q/\s38=s38q/\Aa=Al/\Ab=Ap/\Ac=Aq/\Am=Ce/\Ar=Cg/\Ao=Ch/\Av=Ci/\Aw=Cj/\Au=Ck/\Bf=Ct/\B5=Dx/\Ai=B0/\Aj=B2/\Ak=B3/\Bm=Dg/\Bn=Dh/\B1=Dp/\D6=h9_0q/\D7=h9_1q/\D1=h9_2q/\Dm=h9_3q/\Dn=h9_4q/\D2=h9_5q/\Eu=h9_6q/\Ev=h9_7q/\E9=h9_8q/\Fa=h9_9q/\g4=g4q/\g5=g5q/\g6=g6q/\g7k=g7kq/\g7v=g7vq)/\inv s39q Cd Cl B8 g8q,fun((_,_,s39q,_,_,_,_,_,_,_,_,_,Cd,Cl,B8,_,_,_,_,_,_,_,_,_,_,_,_,_,_,_,_,_,_,_,_,_,_,_,g8q,()):(List ww)×Int×Int×Int×Int×Int×Int×Int×Int×Int×Int×Int×Int×Int×(List Int)×(List wA)×Int×Int×Int×(List Int)×Int×(List wA)×Int×Int×(List Int)×(List ww)×Int×Int×Int×Int×Int×Int×(List Int)×(List Int)×(List wI)×(List Int)×(List Int)×(List Bool)×(List Int)×Unit)=>μ s39q Cd Cl B8 g8q,⟨⟨rfl,rfl,rfl,rfl,rfl,rfl,rfl,rfl,rfl,rfl,rfl,rfl,rfl,rfl,rfl,rfl,rfl,rfl,rfl,rfl,rfl,rfl,rfl,rfl,rfl,rfl,rfl,rfl,rfl,rfl,rfl,rfl,rfl,rfl⟩,h0⟩,fun(s37p,s38p,s39p,B7,B9,Ca,Dy,D3,D4,Ee,Ef,Eg,Dz,D5,Dc,Es,h0_15p,Cu,De,Df,Fd,Fe,h1_6p,h9_0p,h9_1p,h9_2p,h9_3p,h9_4p,h9_5p,h9_6p,h9_7p,h9_8p,h9_9p,g4p,g5p,g6p,g7kp,g7vp,g8p,()) ⟨eq,hi⟩=>by
  obtain⟨rfl,rfl,rfl,rfl,rfl,rfl,rfl,rfl,rfl,rfl,rfl,rfl,rfl,rfl,rfl,rfl,rfl,rfl,rfl,rfl,rfl,rfl,rfl,rfl,rfl,rfl,rfl,rfl,rfl,rfl,rfl,rfl,rfl,rfl⟩:=eq;exact mpr_of (by kernel_rfl) ((congrArg (fun k=>kml r0 Bo Bp Bq Br Bs Bt Bu Bw Bx Bz Bh Bi Bj Bk Cw Cy Cz C0 C1 C2 e4 e5 e6 e7k e7v e8 k s37 s38 Aa Ab Ac Am Ar Ao Av Aw Au Bf B5 Ai Aj Ak Bm Bn B1 D6 D7 D1 Dm Dn D2 Eu Ev E9 Fa g4 g5 g6 g7k g7v s39p Dz D5 Dc g8p) (lpk5 (⟨rfl,rfl,rfl,rfl,rfl,rfl,rfl,rfl,rfl,rfl,rfl,rfl,rfl,rfl,rfl,rfl,rfl,rfl,rfl,rfl,rfl,rfl,rfl,rfl,rfl,rfl,rfl,rfl,rfl,rfl,rfl,rfl,rfl,rfl⟩:s37=s37/\s38=s38/\Aa=Aa/\Ab=Ab/\Ac=Ac/\Am=Am/\Ar=Ar/\Ao=Ao/\Av=Av/\Aw=Aw/\Au=Au/\Bf=Bf/\B5=B5/\Ai=Ai/\Aj=Aj/\Ak=Ak/\Bm=Bm/\Bn=Bn/\B1=B1/\D6=D6/\D7=D7/\D1=D1/\Dm=Dm/\Dn=Dn/\D2=D2/\Eu=Eu/\Ev=Ev/\E9=E9/\Fa=Fa/\g4=g4/\g5=g5/\g6=g6/\g7k=g7k/\g7v=g7v) inv (fun s39q Cd Cl B8 g8q=>μ s39q Cd Cl B8 g8q<μ s39p Dz D5 Dc g8p))).mpr (hs s39p Dz D5 Dc g8p hi))⟩⟩
theorem bd90:Callable Tryz.prog 90:=⟨by rw[Tryz.func90];kernel_rfl,by rw[Tryz.func90];show some _≠some _;decide⟩
theorem kwy (p1:wm) (Ay As Az Ba Bb Bc Ah Bd Be At Ae:Int) (Af:List Int) (Ad:List wA) (Ag D8 D9:Int) (Ea:List Int) (Eb:Int) (Ec:List wA) (Ed:Int) (w2 w4:List Int) (w5:List wI) (w6 w7k:List Int) (w7v:List Bool) (h:(∃(c:Nat) (f:Int),c<=800/\PI (PS.mk (wF.mk Ay As Az Ba Bb Bc Ah Bd Be) (wC.mk At Ae Af) Ad Ag w2 w4 w5 w7k w7v) c f)/\TR p1/\CK (PS.mk (wF.mk Ay As Az Ba Bb Bc Ah Bd Be) (wC.mk At Ae Af) Ad Ag w2 w4 w5 w7k w7v) p1/\w6.length<=1000000):kcl (p1.wy,p1.wE,p1.wT,p1.wV,p1.wZ,p1.Fee,p1.we,p1.wO,p1.wx,p1.wAD,Ay,As,Az,Ba,Bb,Bc,Ah,Bd,Be,At,Ae,Af,Ad,Ag,D8,D9,Ea,Eb,Ec,Ed,w2,w4,w5,w6,w7k,w7v,()) (let q0_:=(perfS (PS.mk (wF.mk Ay As Az Ba Bb Bc Ah Bd Be) (wC.mk At Ae Af) Ad Ag w2 w4 w5 w7k w7v) p1).s;((((perfS (PS.mk (wF.mk Ay As Az Ba Bb Bc Ah Bd Be) (wC.mk At Ae Af) Ad Ag w2 w4 w5 w7k w7v) p1).e):Int),q0_.R.wt,q0_.R.wD,q0_.R.wN,q0_.R.wK,q0_.R.wH,q0_.R.wW,q0_.R.wa,q0_.R.wS,q0_.R.wl,q0_.F.wD,q0_.F.wh,q0_.F.wq,q0_.b,q0_.n,(D8:Int),(D9:Int),(Ea:List Int),(Eb:Int),(Ec:List wA),(Ed:Int),q0_.r,q0_.p,((w6++p1.wE):List Int),q0_.k,q0_.v,q0_.l,())):=by
 obtain⟨⟨c,f,hc,hp⟩,ht,hk,hw6⟩:=h
 have hv:w7v=trs w7k:=hp.v
 have hA:addS p1.wE w7k=(0,w7k++p1.wE):=by
  unfold addS
  have e1:(p1.wE.any fun m=>decide (m∈w7k))=false:=by
   rw[List.any_eq_false]
   intro m hm
   simpa using hk.m m hm
  rw[e1,decide_eq_true hk.v.mn]
  rfl
 have hml:=hk.v.ml
 have hol:=hk.v.ol
 have hll:w2.length+p1.wT.length<=2^As.toNat:=hk.l
 have hd1:1<=As:=hp.d1
 have hd2:As<=12:=hp.d2
 have hF0:wC.mk At Ae Af=frF As w2:=hp.F
 have hlb:BG w2:=hp.l
 have hp12:=pow12 As.toNat (by omega)
 obtain⟨a1,a2,a3,a4,a5⟩:=hk.v.am'
 have hgb:GoodA c Ad:=hp.b
 have hdA:OkA (depA Ad p1):=by
  unfold depA
  split
  ·exact(k1ew hgb (by omega) ⟨ht.ac.1,a4⟩ ht.d.1 ht.n).1
  ·exact hgb.1
 have hdd:0<p1.wV->(debitA Ad p1.we p1.wV p1.wO).2=0:=hk.d
 generalize hR:perfS (PS.mk (wF.mk Ay As Az Ba Bb Bc Ah Bd Be) (wC.mk At Ae Af) Ad Ag w2 w4 w5 w7k w7v) p1=R
 unfold perfS at hR
 have j2:∀b',(wdA Ad p1).2=0->b' =(wdA Ad p1).1->k44 (R.e,R.s.R.wt,R.s.R.wD,R.s.R.wN,R.s.R.wK,R.s.R.wH,R.s.R.wW,R.s.R.wa,R.s.R.wS,R.s.R.wl,R.s.F.wD,R.s.F.wh,R.s.F.wq,R.s.b,R.s.n,D8,D9,Ea,Eb,Ec,Ed,R.s.r,R.s.p,w6++p1.wE,R.s.k,R.s.v,R.s.l,()) (Ay,As,Az,Ba,Bb,Bc,Ah,Bd,Be,(outsF (wC.mk At Ae Af) p1.wT).wD,(outsF (wC.mk At Ae Af) p1.wT).wh,(outsF (wC.mk At Ae Af) p1.wT).wq,b',Ag,D8,D9,Ea,Eb,Ec,Ed,p1.wy,p1.wE,p1.wT,p1.wV,p1.wZ,p1.Fee,p1.we,p1.wO,p1.wx,p1.wAD,w4,w5,w6++p1.wE,w7k++p1.wE,trs (w7k++p1.wE),w2++p1.wT.map (·.wz),()):=by
  intro b' h0 h1
  rw[if_neg (fun hh=>hh h0)]at hR
  subst hR
  subst h1
  exact kwf (by repeat' first|apply And.intro|exact rfl|exact True.intro)
 have j1:∀b',b' =depA Ad p1->k5v (R.e,R.s.R.wt,R.s.R.wD,R.s.R.wN,R.s.R.wK,R.s.R.wH,R.s.R.wW,R.s.R.wa,R.s.R.wS,R.s.R.wl,R.s.F.wD,R.s.F.wh,R.s.F.wq,R.s.b,R.s.n,D8,D9,Ea,Eb,Ec,Ed,R.s.r,R.s.p,w6++p1.wE,R.s.k,R.s.v,R.s.l,()) (Ay,As,Az,Ba,Bb,Bc,Ah,Bd,Be,(outsF (wC.mk At Ae Af) p1.wT).wD,(outsF (wC.mk At Ae Af) p1.wT).wh,(outsF (wC.mk At Ae Af) p1.wT).wq,b',Ag,D8,D9,Ea,Eb,Ec,Ed,p1.wy,p1.wE,p1.wT,p1.wV,p1.wZ,p1.Fee,p1.we,p1.wO,p1.wx,p1.wAD,w4,w5,w6++p1.wE,w7k++p1.wE,trs (w7k++p1.wE),w2++p1.wT.map (·.wz),()):=by
  intro b' h1
  subst h1
  refine kwn ⟨fun e=>⟨⟨hdA,ht.w⟩,fun e2=> ?_,fun e2=>⟨rfl,rfl,rfl,rfl,j2 _ ?_ ?_⟩⟩,fun e=>⟨rfl,rfl,rfl,rfl,j2 _ ?_ ?_⟩⟩
  ·have e2:(creditA (depA Ad p1) p1.we p1.wZ).2≠0:=by simpa using e2
   have ew:wdA Ad p1=creditA (depA Ad p1) p1.we p1.wZ:=by unfold wdA;rw[if_pos (of_decide_eq_true e)]
   rw[ew,if_pos e2]at hR
   subst hR
   exact(by repeat' first|apply And.intro|exact rfl|exact True.intro)
  ·have e2:(creditA (depA Ad p1) p1.we p1.wZ).2=0:=by simpa using e2
   unfold wdA;rw[if_pos (of_decide_eq_true e)];exact e2
  ·unfold wdA;rw[if_pos (of_decide_eq_true e)]
  ·unfold wdA;rw[if_neg (of_decide_eq_false e)]
  ·unfold wdA;rw[if_neg (of_decide_eq_false e)]
 refine k11o ⟨rfl,⟨hv,by omega⟩,?_⟩
 rw[hA]
 refine⟨fun e=>(by cases e),fun _=>⟨rfl,by omega,by unfold maxLen;omega,rfl,rfl,rfl,rfl,?_⟩⟩
 refine k118 (fun a x y z g=>∃i:Nat,a=(i:Int)/\i<=p1.wT.length/\wC.mk x y z=outsF (wC.mk At Ae Af) (p1.wT.take i)/\g=w2++(p1.wT.take i).map (·.wz)) (fun a _ _ _ _=>(p1.wT.length-a).toNat) ⟨0,rfl,by omega,rfl,by simp⟩ ?_
 rintro _ x y z _ ⟨i,rfl,hi,hF,rfl⟩
 have hx:x=(outsF (wC.mk At Ae Af) (p1.wT.take i)).wD:=congrArg wC.wD hF
 have hy:y=(outsF (wC.mk At Ae Af) (p1.wT.take i)).wh:=congrArg wC.wh hF
 have hz:z=(outsF (wC.mk At Ae Af) (p1.wT.take i)).wq:=congrArg wC.wq hF
 clear hF
 subst hx
 subst hy
 subst hz
 refine⟨fun e=> ?_,fun e=> ?_⟩
 ·have e:i<p1.wT.length:=by have:=of_decide_eq_true e;omega
  have ho:=List.getElem_mem e
  have hil:(p1.wT.take i).length=i:=by rw[List.length_take];omega
  have hFi:outsF (wC.mk At Ae Af) (p1.wT.take i)=frF As (w2++(p1.wT.take i).map (·.wz)):=by
   rw[hF0]
   exact k19c (by omega)
  have hgl:(w2++(p1.wT.take i).map (·.wz)).length=w2.length+i:=by simp only[List.length_append,List.length_map];omega
  have hbg:BG (w2++(p1.wT.take i).map (·.wz)):=by
   intro q hq
   rcases List.mem_append.1 hq with hq|hq
   ·exact hlb q hq
   ·obtain⟨o,h1,rfl⟩:=List.mem_map.1 hq
    exact⟨(ht.o o (List.mem_of_mem_take h1)).c.1,(hk.v.o o (List.mem_of_mem_take h1)).c⟩
  rw[ix_get _ _ e,inc_i64 _ (by omega)]
  have hfv:FV (outsF (wC.mk At Ae Af) (p1.wT.take i)):=by
   rw[hFi]
   exact frF_FV hd1 hd2 (by omega) hbg
  have hct:(outsF (wC.mk At Ae Af) (p1.wT.take i)).wh<((2^(outsF (wC.mk At Ae Af) (p1.wT.take i)).wD.toNat:Nat):Int):=by
   rw[hFi]
   show((w2++(p1.wT.take i).map (·.wz)).length:Int)<((2^As.toNat:Nat):Int)
   omega
  refine⟨by omega,by omega,⟨hfv,hct,(ht.o _ ho).c.1,(hk.v.o _ ho).c⟩,fun e2=>(by cases e2),fun _=>⟨rfl,rfl,?_,?_,rfl,rfl,rfl,rfl,⟨i+1,rfl,by omega,?_,?_⟩,by omega⟩⟩
  ·rw[hgl];simp only[List.length_cons,List.length_nil];omega
  ·rw[hgl];simp only[List.length_cons,List.length_nil];unfold maxLen;omega
  ·rw[List.take_succ_eq_append_getElem e]
   unfold outsF
   rw[List.foldl_append]
   rfl
  ·rw[List.take_succ_eq_append_getElem e,List.map_append,List.append_assoc]
   rfl
 ·have e:i=p1.wT.length:=by have:=of_decide_eq_false e;omega
  subst e
  rw[List.take_length]
  refine⟨fun e2=>⟨⟨hgb.1,ht.d,ht.n⟩,fun e3=> ?_,fun e3=>⟨rfl,rfl,rfl,rfl,j1 _ ?_⟩⟩,fun e2=>⟨rfl,rfl,rfl,rfl,j1 _ ?_⟩⟩
  ·have e3:(debitA Ad p1.we p1.wV p1.wO).2≠0:=by simpa using e3
   exact(e3 (hdd (of_decide_eq_true e2))).elim
  ·unfold depA;rw[if_pos (of_decide_eq_true e2)]
  ·unfold depA;rw[if_neg (of_decide_eq_false e2)]
noncomputable def kkl:Con TB.den:=k15.fnR (fun(a0,a1,a2,a3,a4,a5,a6,a7,a8,a9,a10,a11,a12,a13,a14,a15,a16,a17,a18,a19,a20,a21,a22,a23,a24,a25,a26,a27,a28,a29,a30,a31,a32,a33,a34,a35,())=>(fun(p1:wm) (Ay As Az Ba Bb Bc Ah Bd Be At Ae:Int) (Af:List Int) (Ad:List wA) (Ag D8 D9:Int) (Ea:List Int) (Eb:Int) (Ec:List wA) (Ed:Int) (w2 w4:List Int) (w5:List wI) (w6 w7k:List Int) (w7v:List Bool)=>(∃(c:Nat) (f:Int),c<=800/\PI (PS.mk (wF.mk Ay As Az Ba Bb Bc Ah Bd Be) (wC.mk At Ae Af) Ad Ag w2 w4 w5 w7k w7v) c f)/\TR p1/\CK (PS.mk (wF.mk Ay As Az Ba Bb Bc Ah Bd Be) (wC.mk At Ae Af) Ad Ag w2 w4 w5 w7k w7v) p1/\w6.length<=1000000) (wm.mk a0 a1 a2 a3 a4 a5 a6 a7 a8 a9) a10 a11 a12 a13 a14 a15 a16 a17 a18 a19 a20 a21 a22 a23 a24 a25 a26 a27 a28 a29 a30 a31 a32 a33 a34 a35) fun(a0,a1,a2,a3,a4,a5,a6,a7,a8,a9,a10,a11,a12,a13,a14,a15,a16,a17,a18,a19,a20,a21,a22,a23,a24,a25,a26,a27,a28,a29,a30,a31,a32,a33,a34,a35,())=>(fun(p1:wm) (Ay As Az Ba Bb Bc Ah Bd Be At Ae:Int) (Af:List Int) (Ad:List wA) (Ag D8 D9:Int) (Ea:List Int) (Eb:Int) (Ec:List wA) (Ed:Int) (w2 w4:List Int) (w5:List wI) (w6 w7k:List Int) (w7v:List Bool)=>(let q0_:=(perfS (PS.mk (wF.mk Ay As Az Ba Bb Bc Ah Bd Be) (wC.mk At Ae Af) Ad Ag w2 w4 w5 w7k w7v) p1).s;((((perfS (PS.mk (wF.mk Ay As Az Ba Bb Bc Ah Bd Be) (wC.mk At Ae Af) Ad Ag w2 w4 w5 w7k w7v) p1).e):Int),q0_.R.wt,q0_.R.wD,q0_.R.wN,q0_.R.wK,q0_.R.wH,q0_.R.wW,q0_.R.wa,q0_.R.wS,q0_.R.wl,q0_.F.wD,q0_.F.wh,q0_.F.wq,q0_.b,q0_.n,D8,D9,Ea,Eb,Ec,Ed,q0_.r,q0_.p,((w6++p1.wE):List Int),q0_.k,q0_.v,q0_.l,()))) (wm.mk a0 a1 a2 a3 a4 a5 a6 a7 a8 a9) a10 a11 a12 a13 a14 a15 a16 a17 a18 a19 a20 a21 a22 a23 a24 a25 a26 a27 a28 a29 a30 a31 a32 a33 a34 a35
theorem k13s:kkl.Ok Tryz.prog TB:=Con.ok_fn k15 bd90 fun(a0,a1,a2,a3,a4,a5,a6,a7,a8,a9,a10,a11,a12,a13,a14,a15,a16,a17,a18,a19,a20,a21,a22,a23,a24,a25,a26,a27,a28,a29,a30,a31,a32,a33,a34,a35,()) h=>k10g (kwy (wm.mk a0 a1 a2 a3 a4 a5 a6 a7 a8 a9) a10 a11 a12 a13 a14 a15 a16 a17 a18 a19 a20 a21 a22 a23 a24 a25 a26 a27 a28 a29 a30 a31 a32 a33 a34 a35 h)
def k2b:Con TB.den:=Con.mk0 65 [.one (.ptr 0 0),.agg [zqu,zqi,zqu,zqu,zqu,.d (.sl (.st 2))],.one (.ptr 1 0)] [.cells [zqi,zqi,zqi,zqi,zqi,zqu,zqi,zqi,zqu,zqi,zqi,zql,.row 2,.ptr 3 0,.d (.sl (.st 8)),zqu,.row 4,.row 5],.cells [zqi,zqi,zql,zqi,.own 6,.d (.sl (.st 8)),zqu],.vec yqu,.cells [.mp 7],.vec yqu,.vec (.st 9),.tip yqu,.map yqu (.bool)] (.one (.one (zqi))) [.cells [zqi,zqi,zqi,zqi,zqi,zqu,zqi,zqi,zqu,zqi,zqi,zql,.row 8,.ptr 3 0,.d (.sl (.st 8)),zqu,.row 4,.row 5],.cells [zqi,zqi,zql,zqi,.own 6,.d (.sl (.st 8)),zqu],.dead,.cells [.mp 7],.vec yqu,.vec (.st 9),.tip yqu,.map yqu (.bool),.vec yqu]
abbrev kte:=CI k2b
abbrev k4s:=CO k2b
noncomputable def k40:Cx TB:=⟨inf,[kjl,kkl,kge],[],4,[]⟩
noncomputable def kad:Code:=Tryz.f65.body.getD .skip
noncomputable def ki2:List ResultVar:=Tryz.f65.results.toList
def k1bz (o:k4s):=qS TB k40 63 8 (cB (cB (cB kad))) .no (retTQ TB k40 k2b ki2 o)
def k5j:Tm:=⟨[0,1,3,4,5,6,7,9,8],[.cells [zqi,zqi,zqi,zqi,zqi,zqu,zqi,zqi,zqu,zqi,zqi,zql,.row 8,.ptr 2 0,.d (.sl (.st 8)),zqu,.row 3,.row 4],.cells [zqi,zqi,zql,zqi,.own 5,.d (.sl (.st 8)),zqu],.cells [.mp 6],.vec yqu,.vec (.st 9),.tip yqu,.map yqu (.bool),.cells [zqu,zqi,zqu,zqu,zqu,.d (.sl (.st 2))],.vec yqu],[0,2,4,7,15,16,17],[.one (.ptr 0 0),.one (.ptr 1 0),.one (.ptr 7 0),.one (zqu),.one (.d (.sl (.st 2))),.one (zqi),.one (zqi)],10⟩
def k1bo (o:k4s) (nx1:NX TB k5j):=qM TB 8 k5j nx1 (blockT TB 0 (k1bz o))
def k9b (o:k4s) (nx1:NX TB k5j) (i:HL TB.den k5j.hs):Prop:=WP TB k40 63 8 (cA (cA (cB (cA (cB (cB kad)))))) .no (k5j.fill TB i) (k1bo o nx1)
noncomputable def k1bj (o:k4s):An TB:= .nd [] .no [] (.lp [] k5j (k9b o) fun nx1=> .no)
noncomputable def kq8 (o:k4s):An TB:= .nd [.trimc 0 12] .no [] (.nd [] .no [] (.nd [] (k1bj o) [] .no))
def kf4 (x:kte) (o:k4s):Prop:=WPh TB k40 63 8 kad (kq8 o) (k2b.st TB x) (retTQ TB k40 k2b ki2 o)
theorem k15r (o:k4s):OblH TB k40 63 8 kad (kq8 o) (retTQ TB k40 k2b ki2 o):=
 OblH.ofC (X:=((∀nx i,(k9b o) nx i=(k9b o) nx i)/\(∀nx1:NX TB k5j,True)/\True)) (by kernel_rfl) ⟨fun _ _=>rfl,fun _=>trivial,trivial⟩
theorem k15y {x:kte} {o:k4s} (h:kf4 x o):k2b.Snd Tryz.prog x o:=
 Con.soundH (c:=k2b) (C:=k40) TBok ⟨inf_ok,(all_cons kv7 (all_cons k13s (all_cons kqd all_nil))),all_nil⟩ mix Tryz.func65 (by kernel_rfl) (by kernel_rfl) (by kernel_rfl) rfl h (k15r o)
theorem k18z {p1:wd} {Ay As Az Ba Bb Bc Ah Bd Be At Ae:Int} {Af:List Int} {Ad:List wA} {Ag D8 D9:Int} {Ea:List Int} {Eb:Int} {Ec:List wA} {Ed:Int} {w2 w4:List Int} {w5:List wI} {w6 w7k:List Int} {w7v:List Bool} {r0 Bo Bp Bq Br Bs Bt Bu Bw Bx Bz Bh:Int} {Bi:List Int} {Bj:List wA} {Bk Cw Cy:Int} {Cz:List Int} {C0:Int} {C1:List wA} {C2:Int} {e4:List Int} {e5:List wI} {e6 e7k:List Int} {e7v:List Bool} {e8:List Int} (h:
(w2.length=w2.length/\(w6=w6)/\(w5.length=w5.length)/\(w4.length=w4.length)/\(w2.length=w2.length)/\Md.Loop ((0:Int),p1.Txs,((p1.Txs.length:Int):Int),(0:Int),Ay,As,Az,Ba,Bb,Bc,Ah,Bd,Be,At,Ae,Af,Ad,Ag,D8,D9,Ea,Eb,Ec,Ed,p1.wAR,p1.wU,p1.wAG,p1.wl,p1.wO,p1.Txs,w4,w5,w6,w7k,w7v,w2,()) (k9b (r0,Bo,Bp,Bq,Br,Bs,Bt,Bu,Bw,Bx,Bz,Bh,Bi,Bj,Bk,Cw,Cy,Cz,C0,C1,C2,e4,e5,e6,e7k,e7v,e8,())))):kf4 (p1.wAR,p1.wU,p1.wAG,p1.wl,p1.wO,p1.Txs,Ay,As,Az,Ba,Bb,Bc,Ah,Bd,Be,At,Ae,Af,Ad,Ag,D8,D9,Ea,Eb,Ec,Ed,w2,w4,w5,w6,w7k,w7v,()) (r0,Bo,Bp,Bq,Br,Bs,Bt,Bu,Bw,Bx,Bz,Bh,Bi,Bj,Bk,Cw,Cy,Cz,C0,C1,C2,e4,e5,e6,e7k,e7v,e8,()):=WPh.of_eq (by kernel_rfl) h
def krs (r0 Bo Bp Bq Br Bs Bt Bu Bw Bx Bz Bh:Int) (Bi:List Int) (Bj:List wA) (Bk Cw Cy:Int) (Cz:List Int) (C0:Int) (C1:List wA) (C2:Int) (e4:List Int) (e5:List wI) (e6 e7k:List Int) (e7v:List Bool) (e8:List Int) (k1:Int->Int->Int->Int->Int->Int->Int->Int->Int->Int->Int->Int->Int->List Int->List wA->Int->List Int->List wI->List Int->List Int->List Bool->List Int->Prop) (s15:List wm) (s16 Ai Aj:Int) (Ak:List Int) (Bm:Int) (Bn:List wA) (B1 D6 D7 D1 Dm Dn:Int) (D2:List wm) (s7 s17 Aa Ab Ac Am Ar Ao Av Aw Au Bg Bl:Int) (Ax:List Int) (Bf:List wA) (B5:Int) (g4:List Int) (g5:List wI) (g6 g7k:List Int) (g7v:List Bool) (g8:List Int):Prop:=
(decide (s17<s16)=true->
(0<=s17)/\s17<(s15.length:Int)/\(g5.length=g5.length)/\(g4.length=g4.length)/\(g8.length=g8.length)/\((∃(c:Nat) (f:Int),c<=800/\PI (PS.mk (wF.mk Aa Ab Ac Am Ar Ao Av Aw Au) (wC.mk Bg Bl Ax) Bf B5 g8 g4 g5 g7k g7v) c f)/\TR (ix s15 s17))/\let r1:Int:=(chkS (PS.mk (wF.mk Aa Ab Ac Am Ar Ao Av Aw Au) (wC.mk Bg Bl Ax) Bf B5 g8 g4 g5 g7k g7v) (ix s15 s17))
((r1 !=0)=true->
(g6=g6)/\(g5.length=g5.length)/\(g4.length=g4.length)/\(g8.length=g8.length)/\r1=r0/\Aa=Bo/\Ab=Bp/\Ac=Bq/\Am=Br/\Ar=Bs/\Ao=Bt/\Av=Bu/\Aw=Bw/\Au=Bx/\Bg=Bz/\Bl=Bh/\Ax=Bi/\Bf=Bj/\B5=Bk/\Ai=Cw/\Aj=Cy/\Ak=Cz/\Bm=C0/\Bn=C1/\B1=C2/\g4=e4/\g5=e5/\g6=e6/\g7k=e7k/\g7v=e7v/\g8=e8)/\
((r1 !=0)=false->
(g6=g6)/\(g5.length=g5.length)/\(g4.length=g4.length)/\(g8.length=g8.length)/\((∃(c:Nat) (f:Int),c<=800/\PI (PS.mk (wF.mk Aa Ab Ac Am Ar Ao Av Aw Au) (wC.mk Bg Bl Ax) Bf B5 g8 g4 g5 g7k g7v) c f)/\TR (ix s15 s17)/\CK (PS.mk (wF.mk Aa Ab Ac Am Ar Ao Av Aw Au) (wC.mk Bg Bl Ax) Bf B5 g8 g4 g5 g7k g7v) (ix s15 s17)/\g6.length<=1000000)/\let r2:Int:=((perfS (PS.mk (wF.mk Aa Ab Ac Am Ar Ao Av Aw Au) (wC.mk Bg Bl Ax) Bf B5 g8 g4 g5 g7k g7v) (ix s15 s17)).e)
 let r3:=(perfS (PS.mk (wF.mk Aa Ab Ac Am Ar Ao Av Aw Au) (wC.mk Bg Bl Ax) Bf B5 g8 g4 g5 g7k g7v) (ix s15 s17)).s
((r2 !=0)=true->
((g6++(ix s15 s17).wE)=(g6++(ix s15 s17).wE))/\(r3.p.length=r3.p.length)/\(r3.r.length=r3.r.length)/\(r3.l.length=r3.l.length)/\r2=r0/\r3.R.wt=Bo/\r3.R.wD=Bp/\r3.R.wN=Bq/\r3.R.wK=Br/\r3.R.wH=Bs/\r3.R.wW=Bt/\r3.R.wa=Bu/\r3.R.wS=Bw/\r3.R.wl=Bx/\r3.F.wD=Bz/\r3.F.wh=Bh/\r3.F.wq=Bi/\r3.b=Bj/\r3.n=Bk/\Ai=Cw/\Aj=Cy/\Ak=Cz/\Bm=C0/\Bn=C1/\B1=C2/\r3.r=e4/\r3.p=e5/\(g6++(ix s15 s17).wE)=e6/\r3.k=e7k/\r3.v=e7v/\r3.l=e8)/\
((r2 !=0)=false->
 let v4:Int:=IntKind.u64.wrap (s7+((ix s15 s17).Fee))
((g6++(ix s15 s17).wE)=(g6++(ix s15 s17).wE))/\(r3.p.length=r3.p.length)/\(r3.r.length=r3.r.length)/\(r3.l.length=r3.l.length)/\k1 v4 (IntKind.i64.wrap (s17+1):Int) r3.R.wt r3.R.wD r3.R.wN r3.R.wK r3.R.wH r3.R.wW r3.R.wa r3.R.wS r3.R.wl r3.F.wD r3.F.wh r3.F.wq r3.b r3.n r3.r r3.p ((g6++(ix s15 s17).wE):List Int) r3.k r3.v r3.l)))/\
(decide (s17<s16)=false->
(OkA (wg.mk Bf).wB/\U64 (IntKind.u64.wrap (Ao+s7)))/\let r5:=creditA (wg.mk Bf).wB D1 (IntKind.u64.wrap (Ao+s7))
((r5.2 !=0)=true->
(g6=g6)/\(g5.length=g5.length)/\(g4.length=g4.length)/\(g8.length=g8.length)/\r5.2=r0/\Aa=Bo/\Ab=Bp/\Ac=Bq/\Am=Br/\Ar=Bs/\Ao=Bt/\Av=Bu/\Aw=Bw/\Au=Bx/\Bg=Bz/\Bl=Bh/\Ax=Bi/\Bf=Bj/\B5=Bk/\Ai=Cw/\Aj=Cy/\Ak=Cz/\Bm=C0/\Bn=C1/\B1=C2/\g4=e4/\g5=e5/\g6=e6/\g7k=e7k/\g7v=e7v/\g8=e8)/\
((r5.2 !=0)=false->
(g6=g6)/\(g5.length=g5.length)/\(g4.length=g4.length)/\(g8.length=g8.length)/\0=r0/\Aa=Bo/\Ab=Bp/\Ac=Bq/\Am=Br/\Ar=Bs/\Ao=Bt/\Av=Bu/\Aw=Bw/\Au=Bx/\Bg=Bz/\Bl=Bh/\Ax=Bi/\r5.1=Bj/\B5=Bk/\Ai=Cw/\Aj=Cy/\Ak=Cz/\Bm=C0/\Bn=C1/\B1=C2/\g4=e4/\g5=e5/\g6=e6/\g7k=e7k/\g7v=e7v/\g8=e8))
theorem k16b {r0 Bo Bp Bq Br Bs Bt Bu Bw Bx Bz Bh:Int} {Bi:List Int} {Bj:List wA} {Bk Cw Cy:Int} {Cz:List Int} {C0:Int} {C1:List wA} {C2:Int} {e4:List Int} {e5:List wI} {e6 e7k:List Int} {e7v:List Bool} {e8:List Int} {s15:List wm} {s16 Ai Aj:Int} {Ak:List Int} {Bm:Int} {Bn:List wA} {B1 D6 D7 D1 Dm Dn:Int} {D2:List wm} {s7 s17 Aa Ab Ac Am Ar Ao Av Aw Au Bg Bl:Int} {Ax:List Int} {Bf:List wA} {B5:Int} {g4:List Int} {g5:List wI} {g6 g7k:List Int} {g7v:List Bool} {g8:List Int} (inv:Int->Int->Int->Int->Int->Int->Int->Int->Int->Int->Int->Int->Int->List Int->List wA->Int->List Int->List wI->List Int->List Int->List Bool->List Int->Prop) (μ:Int->Int->Int->Int->Int->Int->Int->Int->Int->Int->Int->Int->Int->List Int->List wA->Int->List Int->List wI->List Int->List Int->List Bool->List Int->Nat) (h0:inv s7 s17 Aa Ab Ac Am Ar Ao Av Aw Au Bg Bl Ax Bf B5 g4 g5 g6 g7k g7v g8) (hs:∀(s7 s17 Aa Ab Ac Am Ar Ao Av Aw Au Bg Bl:Int) (Ax:List Int) (Bf:List wA) (B5:Int) (g4:List Int) (g5:List wI) (g6 g7k:List Int) (g7v:List Bool) (g8:List Int),inv s7 s17 Aa Ab Ac Am Ar Ao Av Aw Au Bg Bl Ax Bf B5 g4 g5 g6 g7k g7v g8->krs r0 Bo Bp Bq Br Bs Bt Bu Bw Bx Bz Bh Bi Bj Bk Cw Cy Cz C0 C1 C2 e4 e5 e6 e7k e7v e8 (fun s7q s17q Al Ap Aq Ce Cg Ch Ci Cj Ck Cd Cl B8 Ct Dx g4q g5q g6q g7kq g7vq g8q=>inv s7q s17q Al Ap Aq Ce Cg Ch Ci Cj Ck Cd Cl B8 Ct Dx g4q g5q g6q g7kq g7vq g8q/\μ s7q s17q Al Ap Aq Ce Cg Ch Ci Cj Ck Cd Cl B8 Ct Dx g4q g5q g6q g7kq g7vq g8q<μ s7 s17 Aa Ab Ac Am Ar Ao Av Aw Au Bg Bl Ax Bf B5 g4 g5 g6 g7k g7v g8) s15 s16 Ai Aj Ak Bm Bn B1 D6 D7 D1 Dm Dn D2 s7 s17 Aa Ab Ac Am Ar Ao Av Aw Au Bg Bl Ax Bf B5 g4 g5 g6 g7k g7v g8):Md.Loop (s7,s15,s16,s17,Aa,Ab,Ac,Am,Ar,Ao,Av,Aw,Au,Bg,Bl,Ax,Bf,B5,Ai,Aj,Ak,Bm,Bn,B1,D6,D7,D1,Dm,Dn,D2,g4,g5,g6,g7k,g7v,g8,()) (k9b (r0,Bo,Bp,Bq,Br,Bs,Bt,Bu,Bw,Bx,Bz,Bh,Bi,Bj,Bk,Cw,Cy,Cz,C0,C1,C2,e4,e5,e6,e7k,e7v,e8,())):=
 ⟨⟨fun((s7q,s15q,s16q,s17q,Al,Ap,Aq,Ce,Cg,Ch,Ci,Cj,Ck,Cd,Cl,B8,Ct,Dx,B0,B2,B3,Dg,Dh,Dp,h9_0q,h9_1q,h9_2q,h9_3q,h9_4q,h9_5q,g4q,g5q,g6q,g7kq,g7vq,g8q,()):Int×(List wm)×Int×Int×Int×Int×Int×Int×Int×Int×Int×Int×Int×Int×Int×(List Int)×(List wA)×Int×Int×Int×(List Int)×Int×(List wA)×Int×Int×Int×Int×Int×Int×(List wm)×(List Int)×(List wI)×(List Int)×(List Int)×(List Bool)×(List Int)×Unit)=>(s15=s15q/\s16=s16q/\Ai=B0/\Aj=B2/\Ak=B3/\Bm=Dg/\Bn=Dh/\B1=Dp/\D6=h9_0q/\D7=h9_1q/\D1=h9_2q/\Dm=h9_3q/\Dn=h9_4q/\D2=h9_5q)/\inv s7q s17q Al Ap Aq Ce Cg Ch Ci Cj Ck Cd Cl B8 Ct Dx g4q g5q g6q g7kq g7vq g8q,fun((s7q,_,_,s17q,Al,Ap,Aq,Ce,Cg,Ch,Ci,Cj,Ck,Cd,Cl,B8,Ct,Dx,_,_,_,_,_,_,_,_,_,_,_,_,g4q,g5q,g6q,g7kq,g7vq,g8q,()):Int×(List wm)×Int×Int×Int×Int×Int×Int×Int×Int×Int×Int×Int×Int×Int×(List Int)×(List wA)×Int×Int×Int×(List Int)×Int×(List wA)×Int×Int×Int×Int×Int×Int×(List wm)×(List Int)×(List wI)×(List Int)×(List Int)×(List Bool)×(List Int)×Unit)=>μ s7q s17q Al Ap Aq Ce Cg Ch Ci Cj Ck Cd Cl B8 Ct Dx g4q g5q g6q g7kq g7vq g8q,⟨⟨rfl,rfl,rfl,rfl,rfl,rfl,rfl,rfl,rfl,rfl,rfl,rfl,rfl,rfl⟩,h0⟩,fun(s7p,s15p,s16p,s17p,B7,B9,Ca,Dy,D3,D4,Ee,Ef,Eg,Dz,D5,Dc,Es,h0_15p,Cu,De,Df,Fd,Fe,h1_6p,h9_0p,h9_1p,h9_2p,h9_3p,h9_4p,h9_5p,g4p,g5p,g6p,g7kp,g7vp,g8p,()) ⟨eq,hi⟩=>by
  obtain⟨rfl,rfl,rfl,rfl,rfl,rfl,rfl,rfl,rfl,rfl,rfl,rfl,rfl,rfl⟩:=eq;exact mpr_of (by kernel_rfl) ((congrArg (fun k=>krs r0 Bo Bp Bq Br Bs Bt Bu Bw Bx Bz Bh Bi Bj Bk Cw Cy Cz C0 C1 C2 e4 e5 e6 e7k e7v e8 k s15 s16 Ai Aj Ak Bm Bn B1 D6 D7 D1 Dm Dn D2 s7p s17p B7 B9 Ca Dy D3 D4 Ee Ef Eg Dz D5 Dc Es h0_15p g4p g5p g6p g7kp g7vp g8p) (lpk22 (⟨rfl,rfl,rfl,rfl,rfl,rfl,rfl,rfl,rfl,rfl,rfl,rfl,rfl,rfl⟩:s15=s15/\s16=s16/\Ai=Ai/\Aj=Aj/\Ak=Ak/\Bm=Bm/\Bn=Bn/\B1=B1/\D6=D6/\D7=D7/\D1=D1/\Dm=Dm/\Dn=Dn/\D2=D2) inv (fun s7q s17q Al Ap Aq Ce Cg Ch Ci Cj Ck Cd Cl B8 Ct Dx g4q g5q g6q g7kq g7vq g8q=>μ s7q s17q Al Ap Aq Ce Cg Ch Ci Cj Ck Cd Cl B8 Ct Dx g4q g5q g6q g7kq g7vq g8q<μ s7p s17p B7 B9 Ca Dy D3 D4 Ee Ef Eg Dz D5 Dc Es h0_15p g4p g5p g6p g7kp g7vp g8p))).mpr (hs s7p s17p B7 B9 Ca Dy D3 D4 Ee Ef Eg Dz D5 Dc Es h0_15p g4p g5p g6p g7kp g7vp g8p hi))⟩⟩
theorem bd65:Callable Tryz.prog 65:=⟨by rw[Tryz.func65];kernel_rfl,by rw[Tryz.func65];show some _≠some _;decide⟩
theorem k14p (p1:wd) (Ay As Az Ba Bb Bc Ah Bd Be At Ae:Int) (Af:List Int) (Ad:List wA) (Ag D8 D9:Int) (Ea:List Int) (Eb:Int) (Ec:List wA) (Ed:Int) (w2 w4:List Int) (w5:List wI) (w6 w7k:List Int) (w7v:List Bool) (h:(∃c:Nat,c+p1.Txs.length<=790/\PI (PS.mk (wF.mk Ay As Az Ba Bb Bc Ah Bd Be) (wC.mk At Ae Af) Ad Ag w2 w4 w5 w7k w7v) c 0)/\BR' p1/\w6=[]):kf4 (p1.wAR,p1.wU,p1.wAG,p1.wl,p1.wO,p1.Txs,Ay,As,Az,Ba,Bb,Bc,Ah,Bd,Be,At,Ae,Af,Ad,Ag,D8,D9,Ea,Eb,Ec,Ed,w2,w4,w5,w6,w7k,w7v,()) (let q0_:=(blkS (PS.mk (wF.mk Ay As Az Ba Bb Bc Ah Bd Be) (wC.mk At Ae Af) Ad Ag w2 w4 w5 w7k w7v) w6 p1).s;((((blkS (PS.mk (wF.mk Ay As Az Ba Bb Bc Ah Bd Be) (wC.mk At Ae Af) Ad Ag w2 w4 w5 w7k w7v) w6 p1).e):Int),q0_.R.wt,q0_.R.wD,q0_.R.wN,q0_.R.wK,q0_.R.wH,q0_.R.wW,q0_.R.wa,q0_.R.wS,q0_.R.wl,q0_.F.wD,q0_.F.wh,q0_.F.wq,q0_.b,q0_.n,(D8:Int),(D9:Int),(Ea:List Int),(Eb:Int),(Ec:List wA),(Ed:Int),q0_.r,q0_.p,(((blkS (PS.mk (wF.mk Ay As Az Ba Bb Bc Ah Bd Be) (wC.mk At Ae Af) Ad Ag w2 w4 w5 w7k w7v) w6 p1).m):List Int),q0_.k,q0_.v,q0_.l,())):=by
 obtain⟨⟨c,hc,hp⟩,hb,hw⟩:=h
 subst hw
 generalize hR:blkS (PS.mk (wF.mk Ay As Az Ba Bb Bc Ah Bd Be) (wC.mk At Ae Af) Ad Ag w2 w4 w5 w7k w7v) [] p1=R
 unfold blkS at hR
 generalize hG:blkGo p1.Txs (PS.mk (wF.mk Ay As Az Ba Bb Bc Ah Bd Be) (wC.mk At Ae Af) Ad Ag w2 w4 w5 w7k w7v) [] 0=G at hR
 refine k18z ⟨rfl,rfl,rfl,rfl,rfl,k16b (fun fe a x0 x1 x2 x3 x4 x5 x6 x7 x8 x9 x10 x11 bb nn rr pp mm kk vv ll=>∃i:Nat,a=(i:Int)/\i<=p1.Txs.length/\(∃c' :Nat,c' +(p1.Txs.length-i)<=790/\PI (PS.mk (wF.mk x0 x1 x2 x3 x4 x5 x6 x7 x8) (wC.mk x9 x10 x11) bb nn ll rr pp kk vv) c' fe)/\mm.length<=4*i/\blkGo (p1.Txs.drop i) (PS.mk (wF.mk x0 x1 x2 x3 x4 x5 x6 x7 x8) (wC.mk x9 x10 x11) bb nn ll rr pp kk vv) mm fe=G) (fun _ a _ _ _ _ _ _ _ _ _ _ _ _ _ _ _ _ _ _ _ _=>(p1.Txs.length-a).toNat) ⟨0,rfl,by omega,⟨c,by omega,hp⟩,by simp,hG⟩ ?_⟩
 rintro fe _ x0 x1 x2 x3 x4 x5 x6 x7 x8 x9 x10 x11 bb nn rr pp mm kk vv ll ⟨i,rfl,hi,⟨c',hc',hq⟩,hm,hg⟩
 refine⟨fun e=> ?_,fun e=> ?_⟩
 ·have e:i<p1.Txs.length:=by have:=of_decide_eq_true e;omega
  have ht:=hb.t _ (List.getElem_mem e)
  rw[List.drop_eq_getElem_cons e]at hg
  unfold blkGo at hg
  rw[ix_get _ _ e,inc_i64 _ (by omega)]
  refine⟨by omega,by omega,rfl,rfl,rfl,⟨⟨c',fe,by omega,hq⟩,ht⟩,fun e2=> ?_,fun e2=> ?_⟩
  ·have e2:chkS (PS.mk (wF.mk x0 x1 x2 x3 x4 x5 x6 x7 x8) (wC.mk x9 x10 x11) bb nn ll rr pp kk vv) p1.Txs[i]≠0:=by simpa using e2
   rw[if_pos e2]at hg
   subst hg
   simp only at hR
   rw[if_pos e2]at hR
   subst hR
   exact(by repeat' first|apply And.intro|exact rfl|exact True.intro)
  ·have e2:chkS (PS.mk (wF.mk x0 x1 x2 x3 x4 x5 x6 x7 x8) (wC.mk x9 x10 x11) bb nn ll rr pp kk vv) p1.Txs[i]=0:=by simpa using e2
   have k:=kwx e2
   rw[if_neg (fun hh=>hh e2)]at hg
   refine⟨rfl,rfl,rfl,rfl,⟨⟨c',fe,by omega,hq⟩,ht,k,by omega⟩,fun e3=> ?_,fun e3=>⟨(by first|exact rfl|exact True.intro),rfl,rfl,rfl,⟨i+1,rfl,by omega,⟨c' +1,by omega,?_⟩,?_,?_⟩,by omega⟩⟩
   ·have e3:(perfS (PS.mk (wF.mk x0 x1 x2 x3 x4 x5 x6 x7 x8) (wC.mk x9 x10 x11) bb nn ll rr pp kk vv) p1.Txs[i]).e≠0:=by simpa using e3
    rw[if_pos e3]at hg
    subst hg
    simp only at hR
    rw[if_pos e3]at hR
    subst hR
    exact(by repeat' first|apply And.intro|exact rfl|exact True.intro)
   ·have e3:(perfS (PS.mk (wF.mk x0 x1 x2 x3 x4 x5 x6 x7 x8) (wC.mk x9 x10 x11) bb nn ll rr pp kk vv) p1.Txs[i]).e=0:=by simpa using e3
    have h9:=(hq.perf (by omega) ht k).2.2 e3
    rw[k1br hq (by omega) ht k]
    exact h9
   ·have:=k.v.ml
    rw[List.length_append]
    omega
   ·have e3:(perfS (PS.mk (wF.mk x0 x1 x2 x3 x4 x5 x6 x7 x8) (wC.mk x9 x10 x11) bb nn ll rr pp kk vv) p1.Txs[i]).e=0:=by simpa using e3
    rw[if_neg (fun hh=>hh e3)]at hg
    exact hg
 ·have e:i=p1.Txs.length:=by have:=of_decide_eq_false e;omega
  subst e
  rw[List.drop_length]at hg
  unfold blkGo at hg
  subst hg
  have hw:=k1aq (x:=⟨0,(PS.mk (wF.mk x0 x1 x2 x3 x4 x5 x6 x7 x8) (wC.mk x9 x10 x11) bb nn ll rr pp kk vv),mm,fe⟩) hq (by omega)
  simp only at hw
  unfold crB at hR
  simp only at hR
  rw[if_neg (fun hh=>hh rfl)]at hR
  refine⟨⟨hq.b.1,?_⟩,fun e2=> ?_,fun e2=> ?_⟩
  ·rw[hw.1];exact hw.2
  ·have e2:(creditA bb p1.wAG (IntKind.u64.wrap (x5+fe))).2≠0:=by simpa using e2
   rw[if_pos e2]at hR
   subst hR
   exact(by repeat' first|apply And.intro|exact rfl|exact True.intro)
  ·have e2:(creditA bb p1.wAG (IntKind.u64.wrap (x5+fe))).2=0:=by simpa using e2
   rw[if_neg (fun hh=>hh e2)]at hR
   subst hR
   exact(by repeat' first|apply And.intro|exact rfl|exact True.intro)
noncomputable def kob:Con TB.den:=k2b.fnR (fun(a0,a1,a2,a3,a4,a5,a6,a7,a8,a9,a10,a11,a12,a13,a14,a15,a16,a17,a18,a19,a20,a21,a22,a23,a24,a25,a26,a27,a28,a29,a30,a31,())=>(fun(p1:wd) (Ay As Az Ba Bb Bc Ah Bd Be At Ae:Int) (Af:List Int) (Ad:List wA) (Ag D8 D9:Int) (Ea:List Int) (Eb:Int) (Ec:List wA) (Ed:Int) (w2 w4:List Int) (w5:List wI) (w6 w7k:List Int) (w7v:List Bool)=>(∃c:Nat,c+p1.Txs.length<=790/\PI (PS.mk (wF.mk Ay As Az Ba Bb Bc Ah Bd Be) (wC.mk At Ae Af) Ad Ag w2 w4 w5 w7k w7v) c 0)/\BR' p1/\w6=[]) (wd.mk a0 a1 a2 a3 a4 a5) a6 a7 a8 a9 a10 a11 a12 a13 a14 a15 a16 a17 a18 a19 a20 a21 a22 a23 a24 a25 a26 a27 a28 a29 a30 a31) fun(a0,a1,a2,a3,a4,a5,a6,a7,a8,a9,a10,a11,a12,a13,a14,a15,a16,a17,a18,a19,a20,a21,a22,a23,a24,a25,a26,a27,a28,a29,a30,a31,())=>(fun(p1:wd) (Ay As Az Ba Bb Bc Ah Bd Be At Ae:Int) (Af:List Int) (Ad:List wA) (Ag D8 D9:Int) (Ea:List Int) (Eb:Int) (Ec:List wA) (Ed:Int) (w2 w4:List Int) (w5:List wI) (w6 w7k:List Int) (w7v:List Bool)=>(let q0_:=(blkS (PS.mk (wF.mk Ay As Az Ba Bb Bc Ah Bd Be) (wC.mk At Ae Af) Ad Ag w2 w4 w5 w7k w7v) w6 p1).s;((((blkS (PS.mk (wF.mk Ay As Az Ba Bb Bc Ah Bd Be) (wC.mk At Ae Af) Ad Ag w2 w4 w5 w7k w7v) w6 p1).e):Int),q0_.R.wt,q0_.R.wD,q0_.R.wN,q0_.R.wK,q0_.R.wH,q0_.R.wW,q0_.R.wa,q0_.R.wS,q0_.R.wl,q0_.F.wD,q0_.F.wh,q0_.F.wq,q0_.b,q0_.n,D8,D9,Ea,Eb,Ec,Ed,q0_.r,q0_.p,(((blkS (PS.mk (wF.mk Ay As Az Ba Bb Bc Ah Bd Be) (wC.mk At Ae Af) Ad Ag w2 w4 w5 w7k w7v) w6 p1).m):List Int),q0_.k,q0_.v,q0_.l,()))) (wd.mk a0 a1 a2 a3 a4 a5) a6 a7 a8 a9 a10 a11 a12 a13 a14 a15 a16 a17 a18 a19 a20 a21 a22 a23 a24 a25 a26 a27 a28 a29 a30 a31
theorem k192:kob.Ok Tryz.prog TB:=Con.ok_fn k2b bd65 fun(a0,a1,a2,a3,a4,a5,a6,a7,a8,a9,a10,a11,a12,a13,a14,a15,a16,a17,a18,a19,a20,a21,a22,a23,a24,a25,a26,a27,a28,a29,a30,a31,()) h=>k15y (k14p (wd.mk a0 a1 a2 a3 a4 a5) a6 a7 a8 a9 a10 a11 a12 a13 a14 a15 a16 a17 a18 a19 a20 a21 a22 a23 a24 a25 a26 a27 a28 a29 a30 a31 h)
def k4c:Con TB.den:=Con.mk0 86 [.one (.ptr 0 0),.one (zql)] [.cells [.mp 1],.map yqu (.bool)] (.one (.one (zqi))) [.cells [.mp 1],.map yqu (.bool)]
abbrev k11q:=CI k4c
abbrev k98:=CO k4c
noncomputable def k6o:Cx TB:=⟨inf,[krq,kcv],[],4,[]⟩
noncomputable def kdy:Code:=Tryz.f86.body.getD .skip
noncomputable def knx:List ResultVar:=Tryz.f86.results.toList
def k1o0 (o:k98):=qS TB k6o 26 2 (cB (cB (cB kdy))) .no (retTQ TB k6o k4c knx o)
def ka2:Tm:=⟨[0,1],[.cells [.mp 1],.map yqu (.bool)],[0,14,15,16],[.one (.ptr 0 0),.one (zql),.one (zqi),.one (zqi)],2⟩
def kd9 (o:k98) (nx1:NX TB ka2) (i:HL TB.den ka2.hs):Prop:=WP TB k6o 26 2 (cA (cA (cB (cA (cB (cB kdy)))))) .no (ka2.fill TB i) (qM TB 2 ka2 nx1 (blockT TB 0 (k1o0 o)))
noncomputable def k1mx (o:k98):An TB:= .nd [] .no [] (.lp [] ka2 (kd9 o) fun nx1=> .no)
noncomputable def kz7 (o:k98):An TB:= .nd [] .no [] (.nd [] .no [] (.nd [] (k1mx o) [] .no))
def kjz (x:k11q) (o:k98):Prop:=WPh TB k6o 26 2 kdy (kz7 o) (k4c.st TB x) (retTQ TB k6o k4c knx o)
theorem k1jb (o:k98):OblH TB k6o 26 2 kdy (kz7 o) (retTQ TB k6o k4c knx o):=
 OblH.ofC (X:=((∀nx i,(kd9 o) nx i=(kd9 o) nx i)/\(∀nx1:NX TB ka2,True)/\True)) (by kernel_rfl) ⟨fun _ _=>rfl,fun _=>trivial,trivial⟩
theorem k1ju {x:k11q} {o:k98} (h:kjz x o):k4c.Snd Tryz.prog x o:=
 Con.soundH (c:=k4c) (C:=k6o) TBok ⟨inf_ok,(all_cons k18g (all_cons kko all_nil)),all_nil⟩ mix Tryz.func86 (by kernel_rfl) (by kernel_rfl) (by kernel_rfl) rfl h (k1jb o)
theorem k1o4 {p1 w1k:List Int} {w1v:List Bool} {r0:Int} {e1k:List Int} {e1v:List Bool} (h:
((w1v=trs w1k/\p1.length<=1000000)/\let r1:Bool:=(p1.any (fun m=>decide (m∈w1k)==false))
(r1=true->
 4=r0/\w1k=e1k/\w1v=e1v)/\
(r1=false->
(p1.length<=1000000)/\((!decide p1.Nodup)=true->
 4=r0/\w1k=e1k/\w1v=e1v)/\
((!decide p1.Nodup)=false->
 Md.Loop (p1,((p1.length:Int):Int),(0:Int),w1k,w1v,()) (kd9 (r0,e1k,e1v,())))))):kjz (p1,w1k,w1v,()) (r0,e1k,e1v,()):=WPh.of_eq (by kernel_rfl) h
def kzp (r0:Int) (e1k:List Int) (e1v:List Bool) (k1:Int->List Int->List Bool->Prop) (s14:List Int) (s15 s16:Int) (g1k:List Int) (g1v:List Bool):Prop:=
(decide (s16<s15)=true->
(0<=s16)/\s16<(s14.length:Int)/\g1k.length=g1v.length/\let v2:List Int:=mDelK (BEq.beq (ix s14 s16)) g1k
 let v3:List Bool:=mDelV (BEq.beq (ix s14 s16)) g1k g1v
 k1 (IntKind.i64.wrap (s16+1):Int) v2 v3)/\
(decide (s16<s15)=false->
 0=r0/\g1k=e1k/\g1v=e1v)
theorem k1gs {r0:Int} {e1k:List Int} {e1v:List Bool} {s14:List Int} {s15 s16:Int} {g1k:List Int} {g1v:List Bool} (inv:Int->List Int->List Bool->Prop) (μ:Int->List Int->List Bool->Nat) (h0:inv s16 g1k g1v) (hs:∀(s16:Int) (g1k:List Int) (g1v:List Bool),inv s16 g1k g1v->kzp r0 e1k e1v (fun s16q g1kq g1vq=>inv s16q g1kq g1vq/\μ s16q g1kq g1vq<μ s16 g1k g1v) s14 s15 s16 g1k g1v):Md.Loop (s14,s15,s16,g1k,g1v,()) (kd9 (r0,e1k,e1v,())):=
 ⟨⟨fun((s14q,s15q,s16q,g1kq,g1vq,()):(List Int)×Int×Int×(List Int)×(List Bool)×Unit)=>(s14=s14q/\s15=s15q)/\inv s16q g1kq g1vq,fun((_,_,s16q,g1kq,g1vq,()):(List Int)×Int×Int×(List Int)×(List Bool)×Unit)=>μ s16q g1kq g1vq,⟨⟨rfl,rfl⟩,h0⟩,fun(s14p,s15p,s16p,g1kp,g1vp,()) ⟨eq,hi⟩=>by
  obtain⟨rfl,rfl⟩:=eq;exact mpr_of (by kernel_rfl) ((congrArg (fun k=>kzp r0 e1k e1v k s14 s15 s16p g1kp g1vp) (lpk3 (⟨rfl,rfl⟩:s14=s14/\s15=s15) inv (fun s16q g1kq g1vq=>μ s16q g1kq g1vq<μ s16p g1kp g1vp))).mpr (hs s16p g1kp g1vp hi))⟩⟩
theorem bd86:Callable Tryz.prog 86:=⟨by rw[Tryz.func86];kernel_rfl,by rw[Tryz.func86];show some _≠some _;decide⟩
theorem k1e6 (p1 w1k:List Int) (w1v:List Bool) (h:w1v=trs w1k/\p1.length<=1000000):kjz (p1,w1k,w1v,()) ((((remS p1 w1k).1):Int),(((remS p1 w1k).2):List Int),((trs (remS p1 w1k).2):List Bool),()):=by
 obtain⟨h,hl⟩:=h
 subst h
 have ea:(p1.any fun m=>decide (m∈w1k)==false)=p1.any fun m=> !decide (m∈w1k):=by congr 1;funext m;cases decide (m∈w1k)<;>rfl
 refine k1o4 ⟨⟨rfl,hl⟩,?_⟩
 rw[ea]
 refine⟨fun e=> ?_,fun e=>⟨hl,fun e2=> ?_,fun e2=> ?_⟩⟩
 ·have:remS p1 w1k=(4,w1k):=by unfold remS;rw[e];rfl
  rw[this]
  exact⟨rfl,rfl,rfl⟩
 ·have:remS p1 w1k=(4,w1k):=by unfold remS;rw[e,e2];rfl
  rw[this]
  exact⟨rfl,rfl,rfl⟩
 ·have hA:remS p1 w1k=(0,p1.foldl List.erase w1k):=by unfold remS;rw[e,e2];rfl
  rw[hA]
  refine k1gs (fun a k v=>∃i:Nat,a=(i:Int)/\i<=p1.length/\k=(p1.take i).foldl List.erase w1k/\v=trs k) (fun a _ _=>(p1.length-a).toNat) ⟨0,rfl,by omega,rfl,rfl⟩ ?_
  rintro _ _ _ ⟨i,rfl,hi,rfl,rfl⟩
  refine⟨fun e3=> ?_,fun e3=> ?_⟩
  ·have e3:i<p1.length:=by have:=of_decide_eq_true e3;omega
   rw[ix_get _ _ e3,inc_i64 _ (by omega)]
   obtain⟨q1,q2⟩:=sDel ((p1.take i).foldl List.erase w1k) p1[i]
   rw[q1,q2]
   refine⟨by omega,by omega,by simp[trs],⟨i+1,rfl,by omega,?_,rfl⟩,by omega⟩
   rw[List.take_succ_eq_append_getElem e3,List.foldl_append]
   rfl
  ·have e3:i=p1.length:=by have:=of_decide_eq_false e3;omega
   subst e3
   rw[List.take_length]
   exact⟨rfl,rfl,rfl⟩
noncomputable def kvf:Con TB.den:=k4c.fnR (fun x=>(fun(p1 w1k:List Int) (w1v:List Bool)=>w1v=trs w1k/\p1.length<=1000000) x.1 x.2.1 x.2.2.1) fun x=>(fun(p1 w1k:List Int) (w1v:List Bool)=>((((remS p1 w1k).1):Int),(((remS p1 w1k).2):List Int),((trs (remS p1 w1k).2):List Bool),())) x.1 x.2.1 x.2.2.1
theorem k1ng:kvf.Ok Tryz.prog TB:=Con.ok_fn k4c bd86 fun x h=>k1ju (k1e6 x.1 x.2.1 x.2.2.1 h)
def k3u:Con TB.den:=Con.mk0 58 [.one (.ptr 0 0),.agg [zqi,zqi,zql,zqi,zql,.d (.sl (.st 8)),zqu]] [.cells [zqi,zqi,zqi,zqi,zqi,zqu,zqi,zqi,zqu,zqi,zqi,zql,.row 1,.ptr 2 0,.d (.sl (.st 8)),zqu,.row 3,.row 4],.vec yqu,.cells [.mp 5],.vec yqu,.vec (.st 9),.map yqu (.bool)] (.tup []) [.cells [zqi,zqi,zqi,zqi,zqi,zqu,zqi,zqi,zqu,zqi,zqi,zql,.view 1,.ptr 2 0,.d (.sl (.st 8)),zqu,.row 3,.row 4],.vec yqu,.cells [.mp 5],.vec yqu,.vec (.st 9),.map yqu (.bool)]
abbrev ktf:=CI k3u
abbrev kke:=CO k3u
noncomputable def ki3:Cx TB:=⟨inf,[kvf],[],4,[]⟩
noncomputable def k14v:Code:=Tryz.f58.body.getD .skip
noncomputable def k1b8:List ResultVar:=Tryz.f58.results.toList
noncomputable def k1by (o:kke):An TB:= .no
def keh (x:ktf) (o:kke):Prop:=WPh TB ki3 36 6 k14v (k1by o) (k3u.st TB x) (retTQ TB ki3 k3u k1b8 o)
theorem k15d {x:ktf} {o:kke} (h:keh x o):k3u.Snd Tryz.prog x o:=
 Con.soundH (c:=k3u) (C:=ki3) TBok ⟨inf_ok,(all_cons k1ng all_nil),all_nil⟩ mix Tryz.func58 (by kernel_rfl) (by kernel_rfl) (by kernel_rfl) rfl h (OblH.ofC (X:=True) (by kernel_rfl) trivial)
theorem k1c4 {p1:wI} {Ay As Az Ba Bb Bc Ah Bd Be At Ae:Int} {Af:List Int} {Ad:List wA} {Ag:Int} {w1 w3:List Int} {w4:List wI} {w5k:List Int} {w5v:List Bool} {Bo Bp Bq Br Bs Bt Bu Bw Bx Bz Bh:Int} {Bi:List Int} {d0_12o d0_12n:Int} {Bj:List wA} {Bk:Int} {e1 e3:List Int} {e4:List wI} {e5k:List Int} {e5v:List Bool} (h:
((w5v=trs w5k/\p1.marks.length<=1000000)/\(0<=p1.leaves)/\p1.leaves<=(w1.length:Int)/\(w4.length=w4.length)/\(w3.length=w3.length)/\Ay=Bo/\As=Bp/\Az=Bq/\Ba=Br/\Bb=Bs/\Bc=Bt/\Ah=Bu/\Bd=Bw/\Be=Bx/\p1.wAU=Bz/\p1.wAT=Bh/\p1.wAV=Bi/\(0:Int)=d0_12o/\(p1.leaves.toNat:Int)=d0_12n/\p1.wAN=Bj/\p1.hidden=Bk/\w1=e1/\w3=e3/\w4=e4/\((remS p1.marks w5k).2)=e5k/\(trs (remS p1.marks w5k).2)=e5v)):keh (p1.wAU,p1.wAT,p1.wAV,p1.leaves,p1.marks,p1.wAN,p1.hidden,Ay,As,Az,Ba,Bb,Bc,Ah,Bd,Be,At,Ae,Af,Ad,Ag,w1,w3,w4,w5k,w5v,()) (Bo,Bp,Bq,Br,Bs,Bt,Bu,Bw,Bx,Bz,Bh,Bi,d0_12o,d0_12n,Bj,Bk,e1,e3,e4,e5k,e5v,()):=WPh.of_eq (by kernel_rfl) h
theorem bd58:Callable Tryz.prog 58:=⟨by rw[Tryz.func58];kernel_rfl,by rw[Tryz.func58];show some _≠some _;decide⟩
theorem k14t (p1:wI) (Ay As Az Ba Bb Bc Ah Bd Be At Ae:Int) (Af:List Int) (Ad:List wA) (Ag:Int) (w1 w3:List Int) (w4:List wI) (w5k:List Int) (w5v:List Bool) (h:w5v=trs w5k/\p1.marks.length<=1000000/\0<=p1.leaves/\p1.leaves<=(w1.length:Int)):keh (p1.wAU,p1.wAT,p1.wAV,p1.leaves,p1.marks,p1.wAN,p1.hidden,Ay,As,Az,Ba,Bb,Bc,Ah,Bd,Be,At,Ae,Af,Ad,Ag,w1,w3,w4,w5k,w5v,()) ((Ay:Int),(As:Int),(Az:Int),(Ba:Int),(Bb:Int),(Bc:Int),(Ah:Int),(Bd:Int),(Be:Int),(p1.wAU:Int),(p1.wAT:Int),(p1.wAV:List Int),((0:Int):Int),((p1.leaves.toNat:Int):Int),(p1.wAN:List wA),(p1.hidden:Int),(w1:List Int),(w3:List Int),(w4:List wI),(((remS p1.marks w5k).2):List Int),((trs (remS p1.marks w5k).2):List Bool),()):=by
 exact k1c4 ⟨⟨h.1,h.2.1⟩,h.2.2.1,h.2.2.2,rfl,rfl,rfl,rfl,rfl,rfl,rfl,rfl,rfl,rfl,rfl,rfl,rfl,rfl,rfl,rfl,rfl,rfl,rfl,rfl,rfl,rfl,rfl⟩
noncomputable def kh0:Con TB.den:=k3u.fnR (fun(a0,a1,a2,a3,a4,a5,a6,a7,a8,a9,a10,a11,a12,a13,a14,a15,a16,a17,a18,a19,a20,a21,a22,a23,a24,a25,())=>(fun(p1:wI) (Ay As Az Ba Bb Bc Ah Bd Be At Ae:Int) (Af:List Int) (Ad:List wA) (Ag:Int) (w1 w3:List Int) (w4:List wI) (w5k:List Int) (w5v:List Bool)=>w5v=trs w5k/\p1.marks.length<=1000000/\0<=p1.leaves/\p1.leaves<=(w1.length:Int)) (wI.mk a0 a1 a2 a3 a4 a5 a6) a7 a8 a9 a10 a11 a12 a13 a14 a15 a16 a17 a18 a19 a20 a21 a22 a23 a24 a25) fun(a0,a1,a2,a3,a4,a5,a6,a7,a8,a9,a10,a11,a12,a13,a14,a15,a16,a17,a18,a19,a20,a21,a22,a23,a24,a25,())=>(fun(p1:wI) (Ay As Az Ba Bb Bc Ah Bd Be At Ae:Int) (Af:List Int) (Ad:List wA) (Ag:Int) (w1 w3:List Int) (w4:List wI) (w5k:List Int) (w5v:List Bool)=>(Ay,As,Az,Ba,Bb,Bc,Ah,Bd,Be,p1.wAU,p1.wAT,p1.wAV,(0:Int),(p1.leaves.toNat:Int),p1.wAN,p1.hidden,w1,w3,w4,(((remS p1.marks w5k).2):List Int),((trs (remS p1.marks w5k).2):List Bool),())) (wI.mk a0 a1 a2 a3 a4 a5 a6) a7 a8 a9 a10 a11 a12 a13 a14 a15 a16 a17 a18 a19 a20 a21 a22 a23 a24 a25
theorem kru:kh0.Ok Tryz.prog TB:=Con.ok_fn k3u bd58 fun(a0,a1,a2,a3,a4,a5,a6,a7,a8,a9,a10,a11,a12,a13,a14,a15,a16,a17,a18,a19,a20,a21,a22,a23,a24,a25,()) h=>k15d (k14t (wI.mk a0 a1 a2 a3 a4 a5 a6) a7 a8 a9 a10 a11 a12 a13 a14 a15 a16 a17 a18 a19 a20 a21 a22 a23 a24 a25 h)
def k1x:Con TB.den:=Con.mk0 82 [.one (zqi)] [] (.one (.one (zqu))) []
abbrev kr3:=CI k1x
abbrev k31:=CO k1x
noncomputable def k3k:Cx TB:=⟨inf,[kka,kbd],[],4,[]⟩
noncomputable def k9m:Code:=Tryz.f82.body.getD .skip
noncomputable def kgw:List ResultVar:=Tryz.f82.results.toList
def k16n (o:k31):=qS TB k3k 19 0 (cB (cB (cB (cB k9m)))) .no (retTQ TB k3k k1x kgw o)
def k4l:Tm:=⟨[],[],[3,11,12],[.one (zqu),.one (zqi),.one (zqi)],0⟩
def k16p (o:k31) (nx1:NX TB k4l):=qM TB 0 k4l nx1 (blockT TB 0 (k16n o))
def k8h (o:k31) (nx1:NX TB k4l) (i:HL TB.den k4l.hs):Prop:=WP TB k3k 19 0 (cA (cA (cB (cA (cB (cB (cB k9m))))))) .no (k4l.fill TB i) (k16p o nx1)
noncomputable def k16l (o:k31):An TB:= .lp [] k4l (k8h o) fun nx1=> .no
noncomputable def k153 (o:k31):An TB:= .nd [] .no [] (.nd [] (.nd [] .no [] (k16l o)) [] .no)
noncomputable def koa (o:k31):An TB:= .nd [] .no [] (.nd [] .no [] (k153 o))
def kdm (x:kr3) (o:k31):Prop:=WPh TB k3k 19 0 k9m (koa o) (k1x.st TB x) (retTQ TB k3k k1x kgw o)
theorem k122 (o:k31):OblH TB k3k 19 0 k9m (koa o) (retTQ TB k3k k1x kgw o):=
 OblH.ofC (X:=((∀nx i,(k8h o) nx i=(k8h o) nx i)/\(∀nx1:NX TB k4l,True)/\True)) (by kernel_rfl) ⟨fun _ _=>rfl,fun _=>trivial,trivial⟩
theorem k12n {x:kr3} {o:k31} (h:kdm x o):k1x.Snd Tryz.prog x o:=
 Con.soundH (c:=k1x) (C:=k3k) TBok ⟨inf_ok,(all_cons kwb (all_cons khq all_nil)),all_nil⟩ mix Tryz.func82 (by kernel_rfl) (by kernel_rfl) (by kernel_rfl) rfl h (k122 o)
theorem k15g {p0 r0:Int} (h:
((decide (p0<0)=true->
 0=r0)/\
(decide (p0<0)=false->
(decide (12<p0)=true->
 0=r0)/\
(decide (12<p0)=false->
((18446744069414584321:Int)=18446744069414584321/\U64 (6:Int)/\Us ([]:List Int)/\([]:List Int).length<=1099511627776)/\Md.Loop (((hashS (6:Int) ([]:List Int)):Int),p0,(0:Int),()) (k8h (r0,())))))):kdm (p0,()) (r0,()):=WPh.of_eq (by kernel_rfl) h
def kok (r0:Int) (k1:Int->Int->Prop) (s11 s3 s12:Int):Prop:=
(decide (s12<s11)=true->
(U64 s3/\U64 s3)/\k1 ((hashS 6 [s3,s3]):Int) (IntKind.i64.wrap (s12+1):Int))/\
(decide (s12<s11)=false->
 s3=r0)
theorem k13f {r0 s11 s3 s12:Int} (inv:Int->Int->Prop) (μ:Int->Int->Nat) (h0:inv s3 s12) (hs:∀(s3 s12:Int),inv s3 s12->kok r0 (fun s3q s12q=>inv s3q s12q/\μ s3q s12q<μ s3 s12) s11 s3 s12):Md.Loop (s3,s11,s12,()) (k8h (r0,())):=
 ⟨⟨fun((s3q,s11q,s12q,()):Int×Int×Int×Unit)=>(s11=s11q)/\inv s3q s12q,fun((s3q,_,s12q,()):Int×Int×Int×Unit)=>μ s3q s12q,⟨rfl,h0⟩,fun(s3p,s11p,s12p,()) ⟨eq,hi⟩=>by
  obtain rfl:=eq;exact mpr_of (by kernel_rfl) ((congrArg (fun k=>kok r0 k s11 s3p s12p) (lpk2 (rfl:s11=s11) inv (fun s3q s12q=>μ s3q s12q<μ s3p s12p))).mpr (hs s3p s12p hi))⟩⟩
theorem bd82:Callable Tryz.prog 82:=⟨by rw[Tryz.func82];kernel_rfl,by rw[Tryz.func82];show some _≠some _;decide⟩
theorem k10l (p0:Int) (h:0<=p0/\p0<=12):kdm (p0,()) (((emp p0.toNat):Int),()):=by
 refine k15g ⟨fun e=>(by have:=of_decide_eq_true e;omega),fun _=>⟨fun e=>(by have:=of_decide_eq_true e;omega),fun _=>⟨⟨rfl,by decide,(by intro x hx;cases hx),by decide⟩,?_⟩⟩⟩
 refine k13f (fun x a=>∃i:Nat,a=(i:Int)/\(i:Int)<=p0/\x=emp i) (fun _ a=>(p0-a).toNat) ⟨0,rfl,by omega,rfl⟩ ?_
 rintro _ _ ⟨i,rfl,hi,rfl⟩
 refine⟨fun e=> ?_,fun e=> ?_⟩
 ·have e:=of_decide_eq_true e
  rw[inc_i64 _ (by omega)]
  exact⟨⟨emp_u i,emp_u i⟩,⟨i+1,rfl,by omega,rfl⟩,by omega⟩
 ·have e:=of_decide_eq_false e
  have:p0.toNat=i:=by omega
  rw[this]
noncomputable def kmw:Con TB.den:=k1x.fnR (fun x=>(fun(p0:Int)=>0<=p0/\p0<=12) x.1) fun x=>(fun(p0:Int)=>(((emp p0.toNat):Int),())) x.1
theorem k16c:kmw.Ok Tryz.prog TB:=Con.ok_fn k1x bd82 fun x h=>k12n (k10l x.1 h)
def k27:Con TB.den:=Con.mk0 55 [.agg [zqi,zqi,zql]] [] (.one (.one (zqu))) []
abbrev kt4:=CI k27
abbrev kz:=CO k27
noncomputable def k26:Cx TB:=⟨inf,[keb,kmw,kbd],[],4,[]⟩
noncomputable def k5w:Code:=Tryz.f55.body.getD .skip
noncomputable def kik:List ResultVar:=Tryz.f55.results.toList
def k19p (o:kz):=qS TB k26 49 0 (cB (cB (cB (cB (cB (cB k5w)))))) .no (retTQ TB k26 k27 kik o)
def ky:Tm:=⟨[0],[.cells [zqi,zqi,zql]],[1,3,4,24,25],[.one (.ptr 0 0),.one (zqu),.one (zqu),.one (zqi),.one (zqi)],25⟩
def kqv (o:kz) (nx1:NX TB ky):=qM TB 0 ky nx1 (blockT TB 0 (k19p o))
def k18x (o:kz) (nx1:NX TB ky):=qS TB k26 49 0 (cB (cB (cB (cA (cA (cB (cA (cB (cB (cB (cB (cB k5w)))))))))))) .no (kqv o nx1)
def kbg:Tm:=⟨[0],[.cells [zqi,zqi,zql]],[1,3,4,24,25],[.one (.ptr 0 0),.one (zqu),.one (zqu),.one (zqi),.one (zqi)],25⟩
def koj (o:kz) (nx1:NX TB ky) (i:HL TB.den kbg.hs):Prop:=ghs TB [] (kbg.fill TB i) fun s=>WP TB k26 49 0 (cB (cB (cA (cA (cB (cB (cA (cA (cB (cA (cB (cB (cB (cB (cB k5w))))))))))))))) .no s (blockT TB 1 (k18x o nx1))
structure k9e (o:kz) (nx1:NX TB ky) (i:HL TB.den kbg.hs):Prop where
 h:koj o nx1 i
noncomputable def k19e (o:kz) (nx1:NX TB ky):An TB:= .nd [] .no [] (.jn kbg (k9e o nx1) [] .no [] .no)
noncomputable def kq2 (o:kz) (nx1:NX TB ky):An TB:= .nd [] .no [] (.nd [] .no [] (.nd [] (k19e o nx1) [] .no))
def k9f (o:kz) (nx1:NX TB ky) (i:HL TB.den ky.hs):Prop:=WP TB k26 49 0 (cA (cA (cB (cA (cB (cB (cB (cB (cB k5w))))))))) (kq2 o nx1) (ky.fill TB i) (kqv o nx1)
noncomputable def k1bg (o:kz):An TB:= .lp [] ky (k9f o) fun nx1=>(kq2 o nx1)
noncomputable def k1b6 (o:kz):An TB:= .nd [] .no [] (.nd [] (.nd [] .no [] (k1bg o)) [] .no)
noncomputable def k158 (o:kz):An TB:= .nd [] .no [] (.nd [] .no [] (.nd [] .no [] (k1b6 o)))
noncomputable def kqg (o:kz):An TB:= .nd [] .no [] (k158 o)
def ke9 (x:kt4) (o:kz):Prop:=WPh TB k26 49 0 k5w (kqg o) (k27.st TB x) (retTQ TB k26 k27 kik o)
theorem k167 (o:kz):OblH TB k26 49 0 k5w (kqg o) (retTQ TB k26 k27 kik o):=
 OblH.ofC (X:=((∀nx i,(k9f o) nx i=(k9f o) nx i)/\(∀nx1:NX TB ky,((∀i,(k9e o nx1) i=koj o nx1 i)/\True))/\True)) (by kernel_rfl) ⟨fun _ _=>rfl,fun _=>⟨fun _=>propext ⟨fun h=>h.1,fun h=>⟨h⟩⟩,trivial⟩,trivial⟩
theorem k150 {x:kt4} {o:kz} (h:ke9 x o):k27.Snd Tryz.prog x o:=
 Con.soundH (c:=k27) (C:=k26) TBok ⟨inf_ok,(all_cons kol (all_cons k16c (all_cons khq all_nil))),all_nil⟩ mix Tryz.func55 (by kernel_rfl) (by kernel_rfl) (by kernel_rfl) rfl h (k167 o)
theorem k1ba {p0:wC} {r0:Int} (h:
((FV p0)/\((!true)=true->
 0=r0)/\
((!true)=false->
(0<=p0.wD)/\((p0.wh==(ishl .i64 1 p0.wD))=true->
(0<=p0.wD)/\p0.wD<(p0.wq.length:Int)/\ix p0.wq p0.wD=r0)/\
((p0.wh==(ishl .i64 1 p0.wD))=false->
(0<=(0:Int)/\(0:Int)<=12)/\Md.Loop (((emp (0:Int).toNat):Int),((emp (0:Int).toNat):Int),p0.wD,(0:Int),p0.wD,p0.wh,p0.wq,()) (k9f (r0,())))))):ke9 (p0.wD,p0.wh,p0.wq,()) (r0,()):=WPh.of_eq (by kernel_rfl) h
theorem kkn {r0:Int} {nx1:NX TB ky} {s3 s4 s24 s25 Aa Ab:Int} {Ac:List Int} (h:
((U64 s3/\U64 s3)/\nx1 (((hashS 6 [s3,s3]):Int),s4,s24,(IntKind.i64.wrap (s25+1):Int),Aa,Ab,Ac,()))):k9e (r0,()) nx1 (s3,s4,s24,s25,Aa,Ab,Ac,()):=⟨mpr_of (by kernel_rfl) h⟩
def krp (r0:Int) (nx1:NX TB ky) (k1:Int->Int->Int->Prop) (s24 Aa Ab:Int) (Ac:List Int) (s3 s4 s25:Int):Prop:=
(decide (s25<s24)=true->
(0<=s25)/\let v1:Bool:=((iand .i64 (ishr .i64 Ab s25) 1)==1)
(v1=true->
(0<=s25)/\s25<(Ac.length:Int)/\(U64 (ix Ac s25)/\U64 s4)/\k9e (r0,()) nx1 (s3,((hashS 6 [(ix Ac s25),s4]):Int),s24,s25,Aa,Ab,Ac,()))/\
(v1=false->
(U64 s4/\U64 s3)/\k9e (r0,()) nx1 (s3,((hashS 6 [s4,s3]):Int),s24,s25,Aa,Ab,Ac,())))/\
(decide (s25<s24)=false->
 s4=r0)
theorem k16u {r0 s24 Aa Ab:Int} {Ac:List Int} {s3 s4 s25:Int} (inv:Int->Int->Int->Prop) (μ:Int->Int->Int->Nat) (h0:inv s3 s4 s25) (hs:∀(s3 s4 s25:Int),inv s3 s4 s25->krp r0 (fun((s3q,s4q,s24q,s25q,Al,Ap,Aq,()):Int×Int×Int×Int×Int×Int×(List Int)×Unit)=>((s24=s24q/\Aa=Al/\Ab=Ap/\Ac=Aq)/\inv s3q s4q s25q)/\μ s3q s4q s25q<μ s3 s4 s25) (fun s3q s4q s25q=>inv s3q s4q s25q/\μ s3q s4q s25q<μ s3 s4 s25) s24 Aa Ab Ac s3 s4 s25):Md.Loop (s3,s4,s24,s25,Aa,Ab,Ac,()) (k9f (r0,())):=
 ⟨⟨fun((s3q,s4q,s24q,s25q,Al,Ap,Aq,()):Int×Int×Int×Int×Int×Int×(List Int)×Unit)=>(s24=s24q/\Aa=Al/\Ab=Ap/\Ac=Aq)/\inv s3q s4q s25q,fun((s3q,s4q,_,s25q,_,_,_,()):Int×Int×Int×Int×Int×Int×(List Int)×Unit)=>μ s3q s4q s25q,⟨⟨rfl,rfl,rfl,rfl⟩,h0⟩,fun(s3p,s4p,s24p,s25p,B7,B9,Ca,()) ⟨eq,hi⟩=>by
  obtain⟨rfl,rfl,rfl,rfl⟩:=eq;exact mpr_of (by kernel_rfl) ((congrArg (fun k=>krp r0 (fun((s3q,s4q,s24q,s25q,Al,Ap,Aq,()):Int×Int×Int×Int×Int×Int×(List Int)×Unit)=>((s24=s24q/\Aa=Al/\Ab=Ap/\Ac=Aq)/\inv s3q s4q s25q)/\μ s3q s4q s25q<μ s3p s4p s25p) k s24 Aa Ab Ac s3p s4p s25p) (lpk3 (⟨rfl,rfl,rfl,rfl⟩:s24=s24/\Aa=Aa/\Ab=Ab/\Ac=Ac) inv (fun s3q s4q s25q=>μ s3q s4q s25q<μ s3p s4p s25p))).mpr (hs s3p s4p s25p hi))⟩⟩
theorem bd55:Callable Tryz.prog 55:=⟨by rw[Tryz.func55];kernel_rfl,by rw[Tryz.func55];show some _≠some _;decide⟩
theorem k12h (p0:wC) (h:FV p0):ke9 (p0.wD,p0.wh,p0.wq,()) (((rootF p0):Int),()):=by
 have hv:=h
 obtain⟨d1,d2,c0,c1,ll,u,z⟩:=h
 obtain⟨d,hd⟩:=Int.eq_ofNat_of_zero_le (show 0<=p0.wD by omega)
 obtain⟨n,hn⟩:=Int.eq_ofNat_of_zero_le c0
 have hdn:p0.wD.toNat=d:=by omega
 have hp:=pow12 d (by omega)
 rw[hdn]at c1 ll
 refine k1ba ⟨hv,fun e=>(by cases e),fun _=>⟨by omega,?_⟩⟩
 rw[hd,shl1 d (by omega),hn]
 refine⟨fun e=>⟨by omega,by omega,?_⟩,fun e=>⟨by decide,?_⟩⟩
 ·have e:(n:Int)=((2^d:Nat):Int):=by simpa using e
  unfold rootF
  rw[hdn,hn,if_pos e,hd]
 have e:¬(n:Int)=((2^d:Nat):Int):=by simpa using e
 have hr:rootF p0=rootGo p0 d 0 (emp 0) (emp 0):=by
  unfold rootF
  rw[hdn,hn,if_neg e]
 rw[hr]
 refine k16u (fun a x b=>∃i:Nat,b=(i:Int)/\i<=d/\a=emp i/\(0<=x/\x<18446744069414584321)/\rootGo p0 (d-i) i (emp i) x=rootGo p0 d 0 (emp 0) (emp 0)) (fun _ _ b=>(d-b).toNat) ⟨0,rfl,by omega,rfl,⟨(emp_u 0).1,emp_lt 0⟩,rfl⟩ ?_
 rintro _ x _ ⟨i,rfl,hi,rfl,hx,hg⟩
 refine⟨fun e=> ?_,fun e=> ?_⟩
 ·have e:i<d:=by have:=of_decide_eq_true e;omega
  have hs:i<p0.wq.length:=by omega
  have hxl:=u _ (List.getElem_mem hs)
  generalize hR:rootGo p0 d 0 (emp 0) (emp 0)=R at hg ⊢
  rw[show d-i=d-(i+1)+1 by omega]at hg
  unfold rootGo at hg
  rw[hn,Int.toNat_natCast]at hg
  rw[bit1 n i (by omega) (by omega)]
  refine⟨by omega,fun e2=>⟨by omega,by omega,?_,?_⟩,fun e2=>⟨⟨⟨hx.1,by omega⟩,emp_u i⟩,?_⟩⟩
  ·rw[ix_get _ _ hs]
   exact⟨⟨hxl.1,by omega⟩,hx.1,by omega⟩
  ·have e2:((n/2^i%2:Nat):Int)=1:=by simpa using e2
   have hb:bitN n i=true:=by unfold bitN;generalize n/2^i%2=q at *;simp;omega
   rw[if_pos hb]at hg
   refine kkn ⟨⟨emp_u i,emp_u i⟩,?_⟩
   rw[inc_i64 _ (by omega)]
   exact⟨⟨⟨rfl,rfl,rfl,rfl⟩,i+1,rfl,by omega,rfl,⟨(kmp _ _).1,kpy _ _⟩,hg⟩,by show((d:Int)-((i+1:Nat):Int)).toNat<((d:Int)-(i:Int)).toNat;omega⟩
  ·have e2:¬((n/2^i%2:Nat):Int)=1:=by simpa using e2
   have hb:¬bitN n i=true:=by unfold bitN;generalize n/2^i%2=q at *;simp;omega
   rw[if_neg hb]at hg
   refine kkn ⟨⟨emp_u i,emp_u i⟩,?_⟩
   rw[inc_i64 _ (by omega)]
   exact⟨⟨⟨rfl,rfl,rfl,rfl⟩,i+1,rfl,by omega,rfl,⟨(kmp _ _).1,kpy _ _⟩,hg⟩,by show((d:Int)-((i+1:Nat):Int)).toNat<((d:Int)-(i:Int)).toNat;omega⟩
 ·have e:d=i:=by have:=of_decide_eq_false e;omega
  subst e
  rw[Nat.sub_self]at hg
  exact hg
noncomputable def kbc:Con TB.den:=k27.fnR (fun x=>(fun(p0:wC)=>FV p0) (wC.mk x.1 x.2.1 x.2.2.1)) fun x=>(fun(p0:wC)=>(((rootF p0):Int),())) (wC.mk x.1 x.2.1 x.2.2.1)
theorem ki8:kbc.Ok Tryz.prog TB:=Con.ok_fn k27 bd55 fun x h=>k150 (k12h (wC.mk x.1 x.2.1 x.2.2.1) h)
def k5s:Con TB.den:=Con.mk0 29 [.one (.ptr 0 0),.agg [zqu,zqi,zqu,zqu,zqu,.d (.sl (.st 2))]] [.cells [zqi,zqi,zqi,zqi,zqi,zqu,zqi,zqi,zqu,zqi,zqi,zql,.row 1,.ptr 2 0,.d (.sl (.st 8)),zqu,.row 3,.row 4],.vec yqu,.cells [.mp 5],.vec yqu,.vec (.st 9),.map yqu (.bool)] (.one (.one (zqi))) [.cells [zqi,zqi,zqi,zqi,zqi,zqu,zqi,zqi,zqu,zqi,zqi,zql,.row 6,.ptr 2 0,.d (.sl (.st 8)),zqu,.row 7,.row 8],.dead,.cells [.mp 5],.dead,.dead,.map yqu (.bool),.vec yqu,.vec yqu,.vec (.st 9)]
abbrev kzi:=CI k5s
abbrev k4a:=CO k5s
noncomputable def klg:Cx TB:=⟨inf,[kob,kh0,kbc],[],4,[61,62,75,76]⟩
noncomputable def k1b5:Code:=Tryz.f29.body.getD .skip
noncomputable def k1ii:List ResultVar:=Tryz.f29.results.toList
noncomputable def k1gm (o:k4a):An TB:= .nd [] .no [] (.nd [] .no [] (.rt [.trimc 0 12,.trimc 0 16,.trimc 0 17]))
noncomputable def k1io (o:k4a):An TB:= .nd [.tokc 115 4 yqu] .no [] (.nd [] .no [] (.nd [] (k1gm o) [] .no))
noncomputable def k1gt (o:k4a):An TB:= .nd [] .no [] (.nd [] .no [] (.nd [] (k1io o) [] .no))
noncomputable def k1jd (o:k4a):An TB:= .nd [] (.nd [] .no [] (.rt [.trimc 0 12,.trimc 0 16,.trimc 0 17])) [] .no
noncomputable def k1if (o:k4a):An TB:= .nd [] (.nd [] .no [] (k1jd o)) [] (k1gt o)
noncomputable def k1ee (o:k4a):An TB:= .nd [] (.nd [] .no [] (.rt [.trimc 0 12,.trimc 0 16,.trimc 0 17])) [] .no
noncomputable def k1e5 (o:k4a):An TB:= .nd [] (.nd [] .no [] (k1ee o)) [] (k1if o)
noncomputable def k1jj (o:k4a):An TB:= .nd [] .no [] (k1e5 o)
def kij (x:kzi) (o:k4a):Prop:=WPh TB klg 79 6 k1b5 (k1jj o) (k5s.st TB x) (retTQ TB klg k5s k1ii o)
theorem k1ge {x:kzi} {o:k4a} (h:kij x o):k5s.Snd Tryz.prog x o:=
 Con.soundH (c:=k5s) (C:=klg) TBok ⟨inf_ok,(all_cons k192 (all_cons kru (all_cons ki8 all_nil))),all_nil⟩ mix Tryz.func29 (by kernel_rfl) (by kernel_rfl) (by kernel_rfl) rfl h (OblH.ofC (X:=True) (by kernel_rfl) trivial)
theorem k1hr {p1:wd} {Ay As Az Ba Bb Bc Ah Bd Be At Ae:Int} {Af:List Int} {Ad:List wA} {Ag:Int} {w1 w3:List Int} {w4:List wI} {w5k:List Int} {w5v:List Bool} {r0 Bo Bp Bq Br Bs Bt Bu Bw Bx Bz Bh:Int} {Bi:List Int} {Bj:List wA} {Bk:Int} {e5k:List Int} {e5v:List Bool} {e6 e7:List Int} {e8:List wI} (h:
(let v1:Bool:=(p1.wU !=(IntKind.i64.wrap ((w4.length:Int)+1)))
(v1=true->
 w1.length=w1.length/\w3.length=w3.length/\w4.length=w4.length/\(w4.length=w4.length)/\(w3.length=w3.length)/\(w1.length=w1.length)/\18=r0/\Ay=Bo/\As=Bp/\Az=Bq/\Ba=Br/\Bb=Bs/\Bc=Bt/\Ah=Bu/\Bd=Bw/\Be=Bx/\At=Bz/\Ae=Bh/\Af=Bi/\Ad=Bj/\Ag=Bk/\w5k=e5k/\w5v=e5v/\w1=e6/\w3=e7/\w4=e8)/\
(v1=false->
(decide (18446744069414584321<=p1.wAG)=true->
 w1.length=w1.length/\w3.length=w3.length/\w4.length=w4.length/\(w4.length=w4.length)/\(w3.length=w3.length)/\(w1.length=w1.length)/\1=r0/\Ay=Bo/\As=Bp/\Az=Bq/\Ba=Br/\Bb=Bs/\Bc=Bt/\Ah=Bu/\Bd=Bw/\Be=Bx/\At=Bz/\Ae=Bh/\Af=Bi/\Ad=Bj/\Ag=Bk/\w5k=e5k/\w5v=e5v/\w1=e6/\w3=e7/\w4=e8)/\
(decide (18446744069414584321<=p1.wAG)=false->
(([]:List Int)=([]:List Int))/\(w4.length=w4.length)/\(w3.length=w3.length)/\(w1.length=w1.length)/\((∃c:Nat,c+p1.Txs.length<=790/\PI (PS.mk (wF.mk Ay As Az Ba Bb Bc Ah Bd Be) (wC.mk At Ae Af) Ad Ag w1 w3 w4 w5k w5v) c 0)/\BR' p1/\([]:List Int)=[])/\let r2:=blkS (PS.mk (wF.mk Ay As Az Ba Bb Bc Ah Bd Be) (wC.mk At Ae Af) Ad Ag w1 w3 w4 w5k w5v) ([]:List Int) p1
 let r3:=(blkS (PS.mk (wF.mk Ay As Az Ba Bb Bc Ah Bd Be) (wC.mk At Ae Af) Ad Ag w1 w3 w4 w5k w5v) ([]:List Int) p1).s
((r2.e !=0)=true->
(r3.p.length=r3.p.length)/\(r3.r.length=r3.r.length)/\(r3.l.length=r3.l.length)/\(r3.v=trs r3.k/\(wI.mk At Ae Af (w1.length:Int) r2.m Ad Ag).marks.length<=1000000/\0<=(wI.mk At Ae Af (w1.length:Int) r2.m Ad Ag).leaves/\(wI.mk At Ae Af (w1.length:Int) r2.m Ad Ag).leaves<=(r3.l.length:Int))/\let r4:=wI.mk At Ae Af (w1.length:Int) r2.m Ad Ag
 let r5:Int:=((wI.mk At Ae Af (w1.length:Int) r2.m Ad Ag).leaves.toNat:Int)
 let r6:List Int:=((remS (wI.mk At Ae Af (w1.length:Int) r2.m Ad Ag).marks r3.k).2)
 let r7:List Bool:=(trs (remS (wI.mk At Ae Af (w1.length:Int) r2.m Ad Ag).marks r3.k).2)
(0:Int).toNat=0/\r5.toNat<=r3.l.length/\r3.r.length=r3.r.length/\r3.p.length=r3.p.length/\(r3.p.length=r3.p.length)/\(r3.r.length=r3.r.length)/\((r3.l.take r5.toNat).length=(r3.l.take r5.toNat).length)/\r2.e=r0/\r3.R.wt=Bo/\r3.R.wD=Bp/\r3.R.wN=Bq/\r3.R.wK=Br/\r3.R.wH=Bs/\r3.R.wW=Bt/\r3.R.wa=Bu/\r3.R.wS=Bw/\r3.R.wl=Bx/\r4.wAU=Bz/\r4.wAT=Bh/\r4.wAV=Bi/\r4.wAN=Bj/\r4.hidden=Bk/\r6=e5k/\r7=e5v/\r3.l.take r5.toNat=e6/\r3.r=e7/\r3.p=e8)/\
((r2.e !=0)=false->
 let v8:List wI:=[wI.mk At Ae Af (w1.length:Int) r2.m Ad Ag]
 r3.p.length=r3.p.length/\v8.length=v8.length/\(r3.p.length+v8.length)*104<=140737488355328/\r3.p.length+v8.length<=maxLen/\(FV r3.F)/\r3.r.length=r3.r.length/\[(rootF r3.F)].length=[(rootF r3.F)].length/\(r3.r.length+[(rootF r3.F)].length)*8<=140737488355328/\r3.r.length+[(rootF r3.F)].length<=maxLen/\((r3.p++v8).length=(r3.p++v8).length)/\((r3.r++[(rootF r3.F)]).length=(r3.r++[(rootF r3.F)]).length)/\(r3.l.length=r3.l.length)/\0=r0/\r3.R.wt=Bo/\r3.R.wD=Bp/\r3.R.wN=Bq/\r3.R.wK=Br/\r3.R.wH=Bs/\r3.R.wW=Bt/\r3.R.wa=Bu/\r3.R.wS=Bw/\r3.R.wl=Bx/\r3.F.wD=Bz/\r3.F.wh=Bh/\r3.F.wq=Bi/\r3.b=Bj/\r3.n=Bk/\r3.k=e5k/\r3.v=e5v/\r3.l=e6/\r3.r++[(rootF r3.F)]=e7/\r3.p++v8=e8))))):kij (p1.wAR,p1.wU,p1.wAG,p1.wl,p1.wO,p1.Txs,Ay,As,Az,Ba,Bb,Bc,Ah,Bd,Be,At,Ae,Af,Ad,Ag,w1,w3,w4,w5k,w5v,()) (r0,Bo,Bp,Bq,Br,Bs,Bt,Bu,Bw,Bx,Bz,Bh,Bi,Bj,Bk,e5k,e5v,e6,e7,e8,()):=WPh.of_eq (by kernel_rfl) h
theorem bd29:Callable Tryz.prog 29:=⟨by rw[Tryz.func29];kernel_rfl,by rw[Tryz.func29];show some _≠some _;decide⟩
theorem k1am (p1:wd) (Ay As Az Ba Bb Bc Ah Bd Be At Ae:Int) (Af:List Int) (Ad:List wA) (Ag:Int) (w1 w3:List Int) (w4:List wI) (w5k:List Int) (w5v:List Bool) (h:(∃c:Nat,c+p1.Txs.length<=790/\PI (PS.mk (wF.mk Ay As Az Ba Bb Bc Ah Bd Be) (wC.mk At Ae Af) Ad Ag w1 w3 w4 w5k w5v) c 0)/\BR' p1):kij (p1.wAR,p1.wU,p1.wAG,p1.wl,p1.wO,p1.Txs,Ay,As,Az,Ba,Bb,Bc,Ah,Bd,Be,At,Ae,Af,Ad,Ag,w1,w3,w4,w5k,w5v,()) (let q0_:=(applyS (PS.mk (wF.mk Ay As Az Ba Bb Bc Ah Bd Be) (wC.mk At Ae Af) Ad Ag w1 w3 w4 w5k w5v) p1).s;((((applyS (PS.mk (wF.mk Ay As Az Ba Bb Bc Ah Bd Be) (wC.mk At Ae Af) Ad Ag w1 w3 w4 w5k w5v) p1).e):Int),q0_.R.wt,q0_.R.wD,q0_.R.wN,q0_.R.wK,q0_.R.wH,q0_.R.wW,q0_.R.wa,q0_.R.wS,q0_.R.wl,q0_.F.wD,q0_.F.wh,q0_.F.wq,q0_.b,q0_.n,q0_.k,q0_.v,q0_.l,q0_.r,q0_.p,())):=by
 obtain⟨⟨c,hc,hp⟩,hb⟩:=h
 have hB:=blkS_BI hp (by omega) hb
 have hml:=blkS_ml (PS.mk (wF.mk Ay As Az Ba Bb Bc Ah Bd Be) (wC.mk At Ae Af) Ad Ag w1 w3 w4 w5k w5v) p1
 have hQ:=k1oh hB hp.v
 have hpl:w4.length<=c:=hp.p
 have hrl:w3.length=w4.length+1:=hp.rl
 generalize hR:applyS (PS.mk (wF.mk Ay As Az Ba Bb Bc Ah Bd Be) (wC.mk At Ae Af) Ad Ag w1 w3 w4 w5k w5v) p1=R
 unfold applyS at hR
 generalize hx:blkS (PS.mk (wF.mk Ay As Az Ba Bb Bc Ah Bd Be) (wC.mk At Ae Af) Ad Ag w1 w3 w4 w5k w5v) [] p1=x at hB hml hQ hR
 simp only at hR
 have ei:IntKind.i64.wrap ((w4.length:Int)+1)=(w4.length:Int)+1:=k1i _ (by omega) (by omega)
 refine k1hr ?_
 rw[ei,hx]
 refine⟨fun e=> ?_,fun e=>⟨fun e2=> ?_,fun e2=>⟨(by first|exact rfl|exact True.intro),rfl,rfl,rfl,⟨⟨c,hc,hp⟩,hb,rfl⟩,fun e3=> ?_,fun e3=> ?_⟩⟩⟩
 ·have e:p1.wU≠(w4.length:Int)+1:=by simpa using e
  rw[if_pos e]at hR
  subst hR
  exact(by repeat' first|apply And.intro|exact rfl|exact True.intro)
 ·have e:¬p1.wU≠(w4.length:Int)+1:=by simpa using e
  rw[if_neg e,if_pos (of_decide_eq_true e2)]at hR
  subst hR
  exact(by repeat' first|apply And.intro|exact rfl|exact True.intro)
 ·have e:¬p1.wU≠(w4.length:Int)+1:=by simpa using e
  have e3:x.e≠0:=by simpa using e3
  rw[if_neg e,if_neg (of_decide_eq_false e2),if_pos e3]at hR
  subst hR
  obtain⟨y,hy⟩:=hB.l
  have hy:x.s.l=w1++y:=hy
  have hR2:x.s.R=wF.mk Ay As Az Ba Bb Bc Ah Bd Be:=hB.R
  have hk2:(remS x.m x.s.k).2=w5k:=congrArg PS.k hQ
  have hv2:trs (remS x.m x.s.k).2=w5v:=congrArg PS.v hQ
  have hl2:x.s.l.take w1.length=w1:=by rw[hy];exact List.take_left
  have hr2:x.s.r=w3:=hB.r
  have hp2:x.s.p=w4:=hB.p
  refine⟨rfl,rfl,rfl,⟨hB.v,?_,?_,?_⟩,?_⟩
  ·show x.m.length<=1000000
   omega
  ·show(0:Int)<=(w1.length:Int)
   omega
  ·show(w1.length:Int)<=(x.s.l.length:Int)
   rw[hy,List.length_append]
   omega
  ·simp only[Int.toNat_natCast]
   rw[hR2,hk2,hl2,hr2,hp2]
   rw[hk2]at hv2
   refine⟨(by first|exact rfl|exact True.intro),?_,?_⟩
   ·rw[hy,List.length_append]
    omega
   ·rw[hv2]
    exact(by repeat' first|apply And.intro|exact rfl|exact True.intro)
 ·have e:¬p1.wU≠(w4.length:Int)+1:=by simpa using e
  have e3:x.e=0:=by simpa using e3
  rw[if_neg e,if_neg (of_decide_eq_false e2),if_neg (fun hh=>hh e3)]at hR
  subst hR
  have hr2:x.s.r=w3:=hB.r
  have hp2:x.s.p=w4:=hB.p
  have hR2:x.s.R=wF.mk Ay As Az Ba Bb Bc Ah Bd Be:=hB.R
  have hfv:FV x.s.F:=by
   rw[hB.F]
   exact frF_FV (by rw[hR2];exact hp.d1) (by rw[hR2];exact hp.d2) hB.ll hB.lb
  rw[hr2,hp2]
  refine⟨rfl,rfl,?_,?_,hfv,rfl,rfl,?_,?_,(by repeat' first|apply And.intro|exact rfl|exact True.intro)⟩
  ·simp only[List.length_cons,List.length_nil];omega
  ·simp only[List.length_cons,List.length_nil];unfold maxLen;omega
  ·simp only[List.length_cons,List.length_nil];omega
  ·simp only[List.length_cons,List.length_nil];unfold maxLen;omega
noncomputable def kja:Con TB.den:=k5s.fnR (fun(a0,a1,a2,a3,a4,a5,a6,a7,a8,a9,a10,a11,a12,a13,a14,a15,a16,a17,a18,a19,a20,a21,a22,a23,a24,())=>(fun(p1:wd) (Ay As Az Ba Bb Bc Ah Bd Be At Ae:Int) (Af:List Int) (Ad:List wA) (Ag:Int) (w1 w3:List Int) (w4:List wI) (w5k:List Int) (w5v:List Bool)=>(∃c:Nat,c+p1.Txs.length<=790/\PI (PS.mk (wF.mk Ay As Az Ba Bb Bc Ah Bd Be) (wC.mk At Ae Af) Ad Ag w1 w3 w4 w5k w5v) c 0)/\BR' p1) (wd.mk a0 a1 a2 a3 a4 a5) a6 a7 a8 a9 a10 a11 a12 a13 a14 a15 a16 a17 a18 a19 a20 a21 a22 a23 a24) fun(a0,a1,a2,a3,a4,a5,a6,a7,a8,a9,a10,a11,a12,a13,a14,a15,a16,a17,a18,a19,a20,a21,a22,a23,a24,())=>(fun(p1:wd) (Ay As Az Ba Bb Bc Ah Bd Be At Ae:Int) (Af:List Int) (Ad:List wA) (Ag:Int) (w1 w3:List Int) (w4:List wI) (w5k:List Int) (w5v:List Bool)=>(let q0_:=(applyS (PS.mk (wF.mk Ay As Az Ba Bb Bc Ah Bd Be) (wC.mk At Ae Af) Ad Ag w1 w3 w4 w5k w5v) p1).s;((((applyS (PS.mk (wF.mk Ay As Az Ba Bb Bc Ah Bd Be) (wC.mk At Ae Af) Ad Ag w1 w3 w4 w5k w5v) p1).e):Int),q0_.R.wt,q0_.R.wD,q0_.R.wN,q0_.R.wK,q0_.R.wH,q0_.R.wW,q0_.R.wa,q0_.R.wS,q0_.R.wl,q0_.F.wD,q0_.F.wh,q0_.F.wq,q0_.b,q0_.n,q0_.k,q0_.v,q0_.l,q0_.r,q0_.p,()))) (wd.mk a0 a1 a2 a3 a4 a5) a6 a7 a8 a9 a10 a11 a12 a13 a14 a15 a16 a17 a18 a19 a20 a21 a22 a23 a24
theorem kwp:kja.Ok Tryz.prog TB:=Con.ok_fn k5s bd29 fun(a0,a1,a2,a3,a4,a5,a6,a7,a8,a9,a10,a11,a12,a13,a14,a15,a16,a17,a18,a19,a20,a21,a22,a23,a24,()) h=>k1ge (k1am (wd.mk a0 a1 a2 a3 a4 a5) a6 a7 a8 a9 a10 a11 a12 a13 a14 a15 a16 a17 a18 a19 a20 a21 a22 a23 a24 h)
def k3h:Con TB.den:=Con.mk0 67 [.one (.row 0)] [.vec yqu] (.one (.one (.row 1))) [.vec yqu,.vec yqu]
abbrev kr6:=CI k3h
abbrev kck:=CO k3h
noncomputable def kgg:Cx TB:=⟨inf,[],[],4,[5,7]⟩
noncomputable def k119:Code:=Tryz.f67.body.getD .skip
noncomputable def k16f:List ResultVar:=Tryz.f67.results.toList
noncomputable def k15c (o:kck):An TB:= .nd [] .no [] (.nd [] (.nd [] .no [] (.rt [.rnil 2 yqu])) [] .no)
noncomputable def k15s (o:kck):An TB:= .nd [] .no [] (.nd [] (k15c o) [] .no)
def kdr (x:kr6) (o:kck):Prop:=WPh TB kgg 8 1 k119 (k15s o) (k3h.st TB x) (retTQ TB kgg k3h k16f o)
theorem k14u {x:kr6} {o:kck} (h:kdr x o):k3h.Snd Tryz.prog x o:=
 Con.soundH (c:=k3h) (C:=kgg) TBok ⟨inf_ok,all_nil,all_nil⟩ mix Tryz.func67 (by kernel_rfl) (by kernel_rfl) (by kernel_rfl) rfl h (OblH.ofC (X:=True) (by kernel_rfl) trivial)
theorem k15e {w0 e0 e1:List Int} (h:
(∀z4:Bool,(z4=true->w0.length=0)->(z4=true->
(0=([]:List Int).length)/\w0=e0/\([]:List Int)=e1)/\
(z4=false->
([]:List Int).length=([]:List Int).length/\w0.length=w0.length/\(([]:List Int).length+w0.length)*8<=140737488355328/\([]:List Int).length+w0.length<=maxLen/\((([]:List Int)++w0).length=(([]:List Int)++w0).length)/\w0=e0/\([]:List Int)++w0=e1))):kdr (w0,()) (e0,e1,()):=WPh.of_eq (by kernel_rfl) h
theorem k111 (w0:List Int) (h:w0.length<=1000000):kdr (w0,()) ((w0:List Int),(w0:List Int),()):=by
 exact k15e fun z hz=>⟨fun e=>⟨rfl,rfl,(List.eq_nil_of_length_eq_zero (hz e)).symm⟩,fun e=>⟨rfl,rfl,by simp;omega,by simp;unfold maxLen;omega,rfl,rfl,rfl⟩⟩
noncomputable def kmj:Con TB.den:=k3h.fnR (fun x=>(fun(w0:List Int)=>w0.length<=1000000) x.1) fun x=>(fun(w0:List Int)=>(w0,w0,())) x.1
theorem k164:kmj.Ok Tryz.prog TB:=Con.ok_fn k3h bd67 fun x h=>k14u (k111 x.1 h)
def k4o:Con TB.den:=Con.mk0 33 [.one (.ptr 0 0)] [.cells [zqi,zqi,zqi,zqi,zqi,zqu,zqi,zqi,zqu,zqi,zqi,zql,.row 1,.ptr 2 0,.d (.sl (.st 8)),zqu,.row 3,.row 4],.vec yqu,.cells [.mp 5],.vec yqu,.vec (.st 9),.map yqu (.bool)] (.one (.one (zql))) [.cells [zqi,zqi,zqi,zqi,zqi,zqu,zqi,zqi,zqu,zqi,zqi,zql,.row 1,.ptr 2 0,.d (.sl (.st 8)),zqu,.row 3,.row 4],.vec yqu,.cells [.mp 5],.vec yqu,.vec (.st 9),.map yqu (.bool)]
abbrev kwi:=CI k4o
abbrev kle:=CO k4o
noncomputable def kk8:Cx TB:=⟨inf,[kmj],[],4,[]⟩
noncomputable def k15q:Code:=Tryz.f33.body.getD .skip
noncomputable def k1dk:List ResultVar:=Tryz.f33.results.toList
noncomputable def k1c7 (o:kle):An TB:= .nd [] .no [] (.nd [] .no [] (.rt [.frz 6 [2]]))
def kgr (x:kwi) (o:kle):Prop:=WPh TB kk8 8 6 k15q (k1c7 o) (k4o.st TB x) (retTQ TB kk8 k4o k1dk o)
theorem k1bm {x:kwi} {o:kle} (h:kgr x o):k4o.Snd Tryz.prog x o:=
 Con.soundH (c:=k4o) (C:=kk8) TBok ⟨inf_ok,(all_cons k164 all_nil),all_nil⟩ mix Tryz.func33 (by kernel_rfl) (by kernel_rfl) (by kernel_rfl) rfl h (OblH.ofC (X:=True) (by kernel_rfl) trivial)
theorem k1g3 {Ay As Az Ba Bb Bc Ah Bd Be At Ae:Int} {Af:List Int} {Ad:List wA} {Ag:Int} {w1 w3:List Int} {w4:List wI} {w5k:List Int} {w5v:List Bool} {r0:List Int} {Bo Bp Bq Br Bs Bt Bu Bw Bx Bz Bh:Int} {Bi:List Int} {Bj:List wA} {Bk:Int} {e1 e3:List Int} {e4:List wI} {e5k:List Int} {e5v:List Bool} (h:
((w1.length=w1.length)/\(w1.length<=1000000)/\(w1.length=w1.length)/\(w4.length=w4.length)/\(w3.length=w3.length)/\(w1.length=w1.length)/\w1=r0/\Ay=Bo/\As=Bp/\Az=Bq/\Ba=Br/\Bb=Bs/\Bc=Bt/\Ah=Bu/\Bd=Bw/\Be=Bx/\At=Bz/\Ae=Bh/\Af=Bi/\Ad=Bj/\Ag=Bk/\w1=e1/\w3=e3/\w4=e4/\w5k=e5k/\w5v=e5v)):kgr (Ay,As,Az,Ba,Bb,Bc,Ah,Bd,Be,At,Ae,Af,Ad,Ag,w1,w3,w4,w5k,w5v,()) (r0,Bo,Bp,Bq,Br,Bs,Bt,Bu,Bw,Bx,Bz,Bh,Bi,Bj,Bk,e1,e3,e4,e5k,e5v,()):=WPh.of_eq (by kernel_rfl) h
theorem bd33:Callable Tryz.prog 33:=⟨by rw[Tryz.func33];kernel_rfl,by rw[Tryz.func33];show some _≠some _;decide⟩
theorem k15b (Ay As Az Ba Bb Bc Ah Bd Be At Ae:Int) (Af:List Int) (Ad:List wA) (Ag:Int) (w1 w3:List Int) (w4:List wI) (w5k:List Int) (w5v:List Bool) (h:w1.length<=1000000):kgr (Ay,As,Az,Ba,Bb,Bc,Ah,Bd,Be,At,Ae,Af,Ad,Ag,w1,w3,w4,w5k,w5v,()) ((w1:List Int),(Ay:Int),(As:Int),(Az:Int),(Ba:Int),(Bb:Int),(Bc:Int),(Ah:Int),(Bd:Int),(Be:Int),(At:Int),(Ae:Int),(Af:List Int),(Ad:List wA),(Ag:Int),(w1:List Int),(w3:List Int),(w4:List wI),(w5k:List Int),(w5v:List Bool),()):=by
 exact k1g3 ⟨rfl,h,(by repeat' first|apply And.intro|exact rfl|exact True.intro)⟩
noncomputable def kqr:Con TB.den:=k4o.fnR (fun(a0,a1,a2,a3,a4,a5,a6,a7,a8,a9,a10,a11,a12,a13,a14,a15,a16,a17,a18,())=>(fun(Ay As Az Ba Bb Bc Ah Bd Be At Ae:Int) (Af:List Int) (Ad:List wA) (Ag:Int) (w1 w3:List Int) (w4:List wI) (w5k:List Int) (w5v:List Bool)=>w1.length<=1000000) a0 a1 a2 a3 a4 a5 a6 a7 a8 a9 a10 a11 a12 a13 a14 a15 a16 a17 a18) fun(a0,a1,a2,a3,a4,a5,a6,a7,a8,a9,a10,a11,a12,a13,a14,a15,a16,a17,a18,())=>(fun(Ay As Az Ba Bb Bc Ah Bd Be At Ae:Int) (Af:List Int) (Ad:List wA) (Ag:Int) (w1 w3:List Int) (w4:List wI) (w5k:List Int) (w5v:List Bool)=>(w1,Ay,As,Az,Ba,Bb,Bc,Ah,Bd,Be,At,Ae,Af,Ad,Ag,w1,w3,w4,w5k,w5v,())) a0 a1 a2 a3 a4 a5 a6 a7 a8 a9 a10 a11 a12 a13 a14 a15 a16 a17 a18
theorem k1f3:kqr.Ok Tryz.prog TB:=Con.ok_fn k4o bd33 fun(a0,a1,a2,a3,a4,a5,a6,a7,a8,a9,a10,a11,a12,a13,a14,a15,a16,a17,a18,()) h=>k1bm (k15b a0 a1 a2 a3 a4 a5 a6 a7 a8 a9 a10 a11 a12 a13 a14 a15 a16 a17 a18 h)
def k6m:Con TB.den:=Con.mk0 30 [.one (.ptr 0 0)] [.cells [zqi,zqi,zqi,zqi,zqi,zqu,zqi,zqi,zqu,zqi,zqi,zql,.row 1,.ptr 2 0,.d (.sl (.st 8)),zqu,.row 3,.row 4],.vec yqu,.cells [.mp 5],.vec yqu,.vec (.st 9),.map yqu (.bool)] (.one (.one (zqu))) [.cells [zqi,zqi,zqi,zqi,zqi,zqu,zqi,zqi,zqu,zqi,zqi,zql,.row 1,.ptr 2 0,.d (.sl (.st 8)),zqu,.row 3,.row 4],.vec yqu,.cells [.mp 5],.vec yqu,.vec (.st 9),.map yqu (.bool)]
abbrev k131:=CI k6m
abbrev krx:=CO k6m
noncomputable def kno:Cx TB:=⟨inf,[],[],4,[]⟩
noncomputable def k1cl:Code:=Tryz.f30.body.getD .skip
noncomputable def k1o6:List ResultVar:=Tryz.f30.results.toList
noncomputable def k1l5 (o:krx):An TB:= .no
def kj5 (x:k131) (o:krx):Prop:=WPh TB kno 21 6 k1cl (k1l5 o) (k6m.st TB x) (retTQ TB kno k6m k1o6 o)
theorem k1jm {x:k131} {o:krx} (h:kj5 x o):k6m.Snd Tryz.prog x o:=
 Con.soundH (c:=k6m) (C:=kno) TBok ⟨inf_ok,all_nil,all_nil⟩ mix Tryz.func30 (by kernel_rfl) (by kernel_rfl) (by kernel_rfl) rfl h (OblH.ofC (X:=True) (by kernel_rfl) trivial)
theorem k1nv {Ay As Az Ba Bb Bc Ah Bd Be At Ae:Int} {Af:List Int} {Ad:List wA} {Ag:Int} {w1 w3:List Int} {w4:List wI} {w5k:List Int} {w5v:List Bool} {r0 Bo Bp Bq Br Bs Bt Bu Bw Bx Bz Bh:Int} {Bi:List Int} {Bj:List wA} {Bk:Int} {e1 e3:List Int} {e4:List wI} {e5k:List Int} {e5v:List Bool} (h:
((((w3.length:Int)==0)=true->
(w4.length=w4.length)/\(w3.length=w3.length)/\(w1.length=w1.length)/\0=r0/\Ay=Bo/\As=Bp/\Az=Bq/\Ba=Br/\Bb=Bs/\Bc=Bt/\Ah=Bu/\Bd=Bw/\Be=Bx/\At=Bz/\Ae=Bh/\Af=Bi/\Ad=Bj/\Ag=Bk/\w1=e1/\w3=e3/\w4=e4/\w5k=e5k/\w5v=e5v)/\
(((w3.length:Int)==0)=false->
(0<=IntKind.i64.wrap ((w3.length:Int)-1)/\IntKind.i64.wrap ((w3.length:Int)-1)<(w3.length:Int))/\(0<=IntKind.i64.wrap ((w3.length:Int)-1)/\IntKind.i64.wrap ((w3.length:Int)-1)<(w3.length:Int))/\let v1:Int:=ix w3 (IntKind.i64.wrap ((w3.length:Int)-1))
(w4.length=w4.length)/\(w3.length=w3.length)/\(w1.length=w1.length)/\v1=r0/\Ay=Bo/\As=Bp/\Az=Bq/\Ba=Br/\Bb=Bs/\Bc=Bt/\Ah=Bu/\Bd=Bw/\Be=Bx/\At=Bz/\Ae=Bh/\Af=Bi/\Ad=Bj/\Ag=Bk/\w1=e1/\w3=e3/\w4=e4/\w5k=e5k/\w5v=e5v))):kj5 (Ay,As,Az,Ba,Bb,Bc,Ah,Bd,Be,At,Ae,Af,Ad,Ag,w1,w3,w4,w5k,w5v,()) (r0,Bo,Bp,Bq,Br,Bs,Bt,Bu,Bw,Bx,Bz,Bh,Bi,Bj,Bk,e1,e3,e4,e5k,e5v,()):=WPh.of_eq (by kernel_rfl) h
theorem bd30:Callable Tryz.prog 30:=⟨by rw[Tryz.func30];kernel_rfl,by rw[Tryz.func30];show some _≠some _;decide⟩
theorem k1d2 (Ay As Az Ba Bb Bc Ah Bd Be At Ae:Int) (Af:List Int) (Ad:List wA) (Ag:Int) (w1 w3:List Int) (w4:List wI) (w5k:List Int) (w5v:List Bool) (h:w3.length<=1000000):kj5 (Ay,As,Az,Ba,Bb,Bc,Ah,Bd,Be,At,Ae,Af,Ad,Ag,w1,w3,w4,w5k,w5v,()) (((if w3=[]then 0 else ix w3 ((w3.length:Int)-1)):Int),(Ay:Int),(As:Int),(Az:Int),(Ba:Int),(Bb:Int),(Bc:Int),(Ah:Int),(Bd:Int),(Be:Int),(At:Int),(Ae:Int),(Af:List Int),(Ad:List wA),(Ag:Int),(w1:List Int),(w3:List Int),(w4:List wI),(w5k:List Int),(w5v:List Bool),()):=by
 refine k1nv ⟨fun e=> ?_,fun e=> ?_⟩
 ·have e:w3=[]:=by simpa using e
  rw[if_pos e]
  exact(by repeat' first|apply And.intro|exact rfl|exact True.intro)
 ·have e:¬w3=[]:=by simpa using e
  have hne:1<=w3.length:=List.length_pos_iff.2 e
  rw[if_neg e,k1i _ (by omega) (by omega)]
  exact⟨⟨by omega,by omega⟩,⟨by omega,by omega⟩,(by repeat' first|apply And.intro|exact rfl|exact True.intro)⟩
noncomputable def kv5:Con TB.den:=k6m.fnR (fun(a0,a1,a2,a3,a4,a5,a6,a7,a8,a9,a10,a11,a12,a13,a14,a15,a16,a17,a18,())=>(fun(Ay As Az Ba Bb Bc Ah Bd Be At Ae:Int) (Af:List Int) (Ad:List wA) (Ag:Int) (w1 w3:List Int) (w4:List wI) (w5k:List Int) (w5v:List Bool)=>w3.length<=1000000) a0 a1 a2 a3 a4 a5 a6 a7 a8 a9 a10 a11 a12 a13 a14 a15 a16 a17 a18) fun(a0,a1,a2,a3,a4,a5,a6,a7,a8,a9,a10,a11,a12,a13,a14,a15,a16,a17,a18,())=>(fun(Ay As Az Ba Bb Bc Ah Bd Be At Ae:Int) (Af:List Int) (Ad:List wA) (Ag:Int) (w1 w3:List Int) (w4:List wI) (w5k:List Int) (w5v:List Bool)=>(((if w3=[]then 0 else ix w3 ((w3.length:Int)-1)):Int),Ay,As,Az,Ba,Bb,Bc,Ah,Bd,Be,At,Ae,Af,Ad,Ag,w1,w3,w4,w5k,w5v,())) a0 a1 a2 a3 a4 a5 a6 a7 a8 a9 a10 a11 a12 a13 a14 a15 a16 a17 a18
theorem k1o7:kv5.Ok Tryz.prog TB:=Con.ok_fn k6m bd30 fun(a0,a1,a2,a3,a4,a5,a6,a7,a8,a9,a10,a11,a12,a13,a14,a15,a16,a17,a18,()) h=>k1jm (k1d2 a0 a1 a2 a3 a4 a5 a6 a7 a8 a9 a10 a11 a12 a13 a14 a15 a16 a17 a18 h)
def k2t:Con TB.den:=Con.mk0 53 [.one (zqi)] [] (.one (.agg [zqi,zqi,zql])) []
abbrev kv0:=CI k2t
abbrev k5u:=CO k2t
noncomputable def k51:Cx TB:=⟨inf,[],[],4,[]⟩
noncomputable def kb7:Code:=Tryz.f53.body.getD .skip
noncomputable def kj6:List ResultVar:=Tryz.f53.results.toList
def k1fo (o:k5u):=qS TB k51 15 0 (cB (cB kb7)) (.nd [] .no [] (.rt [.frzc 1 0 2])) (retTQ TB k51 k2t kj6 o)
def kcm:Tm:=⟨[0],[.cells [zqi,zqi,.full yqu]],[0,2,8],[.one (zqi),.one (.ptr 0 0),.one (.d (.bool))],1⟩
def kqn (o:k5u) (i:HL TB.den kcm.hs):Prop:=ghs TB [] (kcm.fill TB i) fun s=>WP TB k51 15 0 (cB (cA (cB kb7))) .no s (k1fo o)
structure kae (o:k5u) (i:HL TB.den kcm.hs):Prop where
 h:kqn o i
noncomputable def k1f1 (o:k5u):An TB:= .nd [] (.jn kcm (kae o) [] .no [] .no) [] (.nd [] .no [] (.rt [.frzc 1 0 2]))
noncomputable def ktp (o:k5u):An TB:= .nd [] .no [] (k1f1 o)
def kgj (x:kv0) (o:k5u):Prop:=WPh TB k51 15 0 kb7 (ktp o) (k2t.st TB x) (retTQ TB k51 k2t kj6 o)
theorem k18t (o:k5u):OblH TB k51 15 0 kb7 (ktp o) (retTQ TB k51 k2t kj6 o):=
 OblH.ofC (X:=((∀i,(kae o) i=kqn o i)/\True)) (by kernel_rfl) ⟨fun _=>propext ⟨fun h=>h.1,fun h=>⟨h⟩⟩,trivial⟩
theorem k1ax {x:kv0} {o:k5u} (h:kgj x o):k2t.Snd Tryz.prog x o:=
 Con.soundH (c:=k2t) (C:=k51) TBok ⟨inf_ok,all_nil,all_nil⟩ mix Tryz.func53 (by kernel_rfl) (by kernel_rfl) (by kernel_rfl) rfl h (k18t o)
theorem k1fs {p0:Int} {r0:wC} (h:
((decide (p0<1)=true->
 kae (r0.wD,r0.wh,r0.wq,()) (p0,true,(0:Int),(0:Int),(([]:List Int):List Int),()))/\
(decide (p0<1)=false->
 kae (r0.wD,r0.wh,r0.wq,()) (p0,(decide (12<p0):Bool),(0:Int),(0:Int),(([]:List Int):List Int),())))):kgj (p0,()) (r0.wD,r0.wh,r0.wq,()):=WPh.of_eq (by kernel_rfl) h
theorem k14k {r0:wC} {s0:Int} {s8:Bool} {Aa Ab:Int} {Ac:List Int} (h:
((s8=true->
 0=r0.wD/\0=r0.wh/\([]:List Int)=r0.wq)/\
(s8=false->
 0<=IntKind.i64.wrap (s0+1)/\IntKind.i64.wrap (s0+1)<=IntKind.i64.wrap (s0+1)/\((IntKind.i64.wrap (s0+1)).toNat*8<=140737488355328)/\((IntKind.i64.wrap (s0+1)).toNat<=maxLen)/\((IntKind.i64.wrap (s0+1)).toNat=(List.replicate ((IntKind.i64.wrap (s0+1)).toNat) (0:Int)).length)/\s0=r0.wD/\0=r0.wh/\List.replicate ((IntKind.i64.wrap (s0+1)).toNat) (0:Int)=r0.wq))):kae (r0.wD,r0.wh,r0.wq,()) (s0,s8,Aa,Ab,Ac,()):=⟨mpr_of (by kernel_rfl) h⟩
theorem bd53:Callable Tryz.prog 53:=⟨by rw[Tryz.func53];kernel_rfl,by rw[Tryz.func53];show some _≠some _;decide⟩
theorem k163 (p0:Int) (h:1<=p0/\p0<=12):kgj (p0,()) (((frF p0 []).wD:Int),((frF p0 []).wh:Int),((frF p0 []).wq:List Int),()):=by
 refine k1fs (r0:=frF p0 []) ⟨fun e=>(by have:=of_decide_eq_true e;omega),fun e=> ?_⟩
 refine k14k (r0:=frF p0 []) ⟨fun e=>(by have:=of_decide_eq_true e;omega),fun _=> ?_⟩
 obtain⟨d,rfl⟩:=Int.eq_ofNat_of_zero_le (show 0<=p0 by omega)
 rw[k1i _ (by omega) (by omega)]
 have e2:((d:Int)+1).toNat=d+1:=by omega
 rw[e2]
 refine⟨by omega,by omega,by omega,by unfold maxLen;omega,by simp,rfl,rfl,?_⟩
 show _=leftS (d:Int).toNat []
 rw[Int.toNat_natCast]
 refine(List.eq_replicate_iff.2 ⟨kch _ _,fun x hx=> ?_⟩).symm
 obtain⟨i,hi,rfl⟩:=List.mem_map.1 hx
 have:bitN ([]:List Int).length i=false:=by simp[bitN]
 rw[if_neg (by rw[this];decide)]
noncomputable def ki1:Con TB.den:=k2t.fnR (fun x=>(fun(p0:Int)=>1<=p0/\p0<=12) x.1) fun x=>(fun(p0:Int)=>(((frF p0 []).wD:Int),((frF p0 []).wh:Int),((frF p0 []).wq:List Int),())) x.1
theorem ktn:ki1.Ok Tryz.prog TB:=Con.ok_fn k2t bd53 fun x h=>k1ax (k163 x.1 h)
def k64:Con TB.den:=Con.mk0 54 [] [] (.one (.one (.ptr 0 0))) [.cells [.mp 1],.map yqu (.bool)]
abbrev kyx:=CI k64
abbrev knb:=CO k64
noncomputable def km1:Cx TB:=⟨inf,[],[],4,[]⟩
noncomputable def k1ay:Code:=Tryz.f54.body.getD .skip
noncomputable def k1j6:List ResultVar:=Tryz.f54.results.toList
noncomputable def k1i1 (o:knb):An TB:= .no
def kia (x:kyx) (o:knb):Prop:=WPh TB km1 4 0 k1ay (k1i1 o) (k64.st TB x) (retTQ TB km1 k64 k1j6 o)
theorem k1gc {x:kyx} {o:knb} (h:kia x o):k64.Snd Tryz.prog x o:=
 Con.soundH (c:=k64) (C:=km1) TBok ⟨inf_ok,all_nil,all_nil⟩ mix Tryz.func54 (by kernel_rfl) (by kernel_rfl) (by kernel_rfl) rfl h (OblH.ofC (X:=True) (by kernel_rfl) trivial)
theorem k1j7  {e1k:List Int} {e1v:List Bool} (h:
(([]:List Int)=e1k/\([]:List Bool)=e1v)):kia (()) (e1k,e1v,()):=WPh.of_eq (by kernel_rfl) h
theorem bd54:Callable Tryz.prog 54:=⟨by rw[Tryz.func54];kernel_rfl,by rw[Tryz.func54];show some _≠some _;decide⟩
theorem k1a9:kia (()) (([]:List Int),([]:List Bool),()):=by
 exact k1j7 ⟨rfl,rfl⟩
noncomputable def kj4:Con TB.den:=k64.totR fun x=>(([]:List Int),([]:List Bool),())
theorem kw2:kj4.Ok Tryz.prog TB:=Con.ok_tot k64 bd54 fun x=>k1gc (k1a9)
def k1r:Con TB.den:=Con.mk0 80 [.agg [zqi,zqi,zqi]] [] (.one (.one (.d (.bool)))) []
abbrev ks5:=CI k1r
abbrev k2z:=CO k1r
noncomputable def k2g:Cx TB:=⟨inf,[],[],4,[]⟩
noncomputable def k9q:Code:=Tryz.f80.body.getD .skip
noncomputable def kbe:List ResultVar:=Tryz.f80.results.toList
def k7f:Tm:=⟨[0],[.cells [zqi,zqi,zqi]],[1,3,4],[.one (.ptr 0 0),.one (.d (.bool)),.one (.d (.bool))],1⟩
def kmt (o:k2z) (i:HL TB.den k7f.hs):Prop:=ghs TB [] (k7f.fill TB i) fun s=>WP TB k2g 54 0 (cB (cB (cB k9q))) .no s (retTQ TB k2g k1r kbe o)
structure k2h (o:k2z) (i:HL TB.den k7f.hs):Prop where
 h:kmt o i
def ka9:Tm:=⟨[0],[.cells [zqi,zqi,zqi]],[1,3],[.one (.ptr 0 0),.one (.d (.bool))],1⟩
def kn1 (o:k2z) (i:HL TB.den ka9.hs):Prop:=ghs TB [] (ka9.fill TB i) fun s=>WP TB k2g 54 0 (cB (cB k9q)) (.jn k7f (k2h o) [] .no [] .no) s (retTQ TB k2g k1r kbe o)
structure k4j (o:k2z) (i:HL TB.den ka9.hs):Prop where
 h:kn1 o i
noncomputable def k15f (o:k2z):An TB:= .jn ka9 (k4j o) [] .no [] (.jn k7f (k2h o) [] .no [] .no)
noncomputable def koh (o:k2z):An TB:= .nd [] .no [] (k15f o)
def kds (x:ks5) (o:k2z):Prop:=WPh TB k2g 54 0 k9q (koh o) (k1r.st TB x) (retTQ TB k2g k1r kbe o)
theorem k144 (o:k2z):OblH TB k2g 54 0 k9q (koh o) (retTQ TB k2g k1r kbe o):=
 OblH.ofC (X:=((∀i,(k4j o) i=kn1 o i)/\(∀i,(k2h o) i=kmt o i)/\True)) (by kernel_rfl) ⟨fun _=>propext ⟨fun h=>h.1,fun h=>⟨h⟩⟩,fun _=>propext ⟨fun h=>h.1,fun h=>⟨h⟩⟩,trivial⟩
theorem k13b {x:ks5} {o:k2z} (h:kds x o):k1r.Snd Tryz.prog x o:=
 Con.soundH (c:=k1r) (C:=k2g) TBok ⟨inf_ok,all_nil,all_nil⟩ mix Tryz.func80 (by kernel_rfl) (by kernel_rfl) (by kernel_rfl) rfl h (k144 o)
theorem k16v {p0:wAC} {r0:Bool} (h:
((decide (2<=p0.wAL)=true->
(decide (p0.wAL<=256)=true->
 let v1:Int:=iand .i64 p0.wAL (IntKind.i64.wrap (p0.wAL-1))
 k4j (r0,()) (((v1==0):Bool),p0.wAL,p0.wAK,p0.wAQ,()))/\
(decide (p0.wAL<=256)=false->
 k4j (r0,()) (false,p0.wAL,p0.wAK,p0.wAQ,())))/\
(decide (2<=p0.wAL)=false->
 k4j (r0,()) (false,p0.wAL,p0.wAK,p0.wAQ,())))):kds (p0.wAL,p0.wAK,p0.wAQ,()) (r0,()):=WPh.of_eq (by kernel_rfl) h
theorem kxg {r0 s3:Bool} {Aa Ab Ac:Int} (h:
(((Ab==1)=true->
 k2h (r0,()) (s3,true,Aa,Ab,Ac,()))/\
((Ab==1)=false->
((Ab==2)=true->
 k2h (r0,()) (s3,true,Aa,Ab,Ac,()))/\
((Ab==2)=false->
((Ab==4)=true->
 k2h (r0,()) (s3,true,Aa,Ab,Ac,()))/\
((Ab==4)=false->
 k2h (r0,()) (s3,((Ab==8):Bool),Aa,Ab,Ac,())))))):k4j (r0,()) (s3,Aa,Ab,Ac,()):=⟨mpr_of (by kernel_rfl) h⟩
theorem kx6 {r0 s3 s4:Bool} {Aa Ab Ac:Int} (h:
((s3=true->
(s4=true->
(decide (1<=Ac)=true->
 decide (Ac<=64)=r0)/\
(decide (1<=Ac)=false->
 false=r0))/\
(s4=false->
 false=r0))/\
(s3=false->
 false=r0))):k2h (r0,()) (s3,s4,Aa,Ab,Ac,()):=⟨mpr_of (by kernel_rfl) h⟩
theorem bd80:Callable Tryz.prog 80:=⟨by rw[Tryz.func80];kernel_rfl,by rw[Tryz.func80];show some _≠some _;decide⟩
theorem k116 (p0:wAC):kds (p0.wAL,p0.wAK,p0.wAQ,()) (((prS p0):Bool),()):=by
 have j2:∀a b,a=pws 8 2 p0.wAL->b=pws 4 1 p0.wAK->k2h (prS p0,()) (a,b,p0.wAL,p0.wAK,p0.wAQ,()):=by
  intro a b ha hb
  unfold prS
  rw[<-ha,<-hb]
  refine kx6 ⟨fun e=>⟨fun e2=>⟨fun e3=> ?_,fun e3=> ?_⟩,fun e2=> ?_⟩,fun e=> ?_⟩
  ·rw[e,e2,e3];simp
  ·rw[e,e2,e3];simp
  ·rw[e,e2];simp
  ·rw[e];simp
 have hb4:pws 4 1 p0.wAK=((p0.wAK==1)||(p0.wAK==2)||(p0.wAK==4)||(p0.wAK==8)):=by simp[pws,List.range_succ,Bool.or_assoc]
 have j1:∀a,a=pws 8 2 p0.wAL->k4j (prS p0,()) (a,p0.wAL,p0.wAK,p0.wAQ,()):=by
  intro a ha
  refine kxg ⟨fun e=>j2 _ _ ha ?_,fun e=>⟨fun e2=>j2 _ _ ha ?_,fun e2=>⟨fun e3=>j2 _ _ ha ?_,fun e3=>j2 _ _ ha ?_⟩⟩⟩
  ·rw[hb4,e];rfl
  ·rw[hb4,e,e2];rfl
  ·rw[hb4,e,e2,e3];rfl
  ·rw[hb4,e,e2,e3];rfl
 refine k16v ⟨fun e=>⟨fun e2=> ?_,fun e2=>j1 _ ?_⟩,fun e=>j1 _ ?_⟩
 ·have e:=of_decide_eq_true e
  have e2:=of_decide_eq_true e2
  obtain⟨b,hb⟩:=Int.eq_ofNat_of_zero_le (show 0<=p0.wAL by omega)
  refine j1 _ ?_
  rw[hb,k1i _ (by omega) (by omega)]
  exact pws_and b (by omega)
 ·have e2:=of_decide_eq_false e2
  cases hq:pws 8 2 p0.wAL with
  |false=>rfl
  |true=>have:=k1k6 hq (by decide);simp at this;omega
 ·have e:=of_decide_eq_false e
  cases hq:pws 8 2 p0.wAL with
  |false=>rfl
  |true=>have:=k1k6 hq (by decide);simp at this;omega
noncomputable def kmg:Con TB.den:=k1r.totR fun x=>(fun(p0:wAC)=>(((prS p0):Bool),())) (wAC.mk x.1 x.2.1 x.2.2.1)
theorem k157:kmg.Ok Tryz.prog TB:=Con.ok_tot k1r bd80 fun x=>k13b (k116 (wAC.mk x.1 x.2.1 x.2.2.1))
def k28:Con TB.den:=Con.mk0 52 [.agg [zqi,zqi,zqi,zqi,zqi,zqu,zqi,zqi,zqu]] [] (.one (.one (zqi))) []
abbrev ksv:=CI k28
abbrev k7z:=CO k28
noncomputable def k5k:Cx TB:=⟨inf,[kmg],[],4,[]⟩
noncomputable def ke5:Code:=Tryz.f52.body.getD .skip
noncomputable def kio:List ResultVar:=Tryz.f52.results.toList
def kba:Tm:=⟨[0],[.cells [zqi,zqi,zqi,zqi,zqi,zqu,zqi,zqi,zqu]],[1,3],[.one (.ptr 0 0),.one (.d (.bool))],1⟩
def koi (o:k7z) (i:HL TB.den kba.hs):Prop:=ghs TB [] (kba.fill TB i) fun s=>WP TB k5k 70 0 (cB (cB ke5)) .no s (retTQ TB k5k k28 kio o)
structure kp (o:k7z) (i:HL TB.den kba.hs):Prop where
 h:koi o i
noncomputable def kq6 (o:k7z):An TB:= .nd [] .no [] (.jn kba (kp o) [] .no [] .no)
def kf6 (x:ksv) (o:k7z):Prop:=WPh TB k5k 70 0 ke5 (kq6 o) (k28.st TB x) (retTQ TB k5k k28 kio o)
theorem k16q (o:k7z):OblH TB k5k 70 0 ke5 (kq6 o) (retTQ TB k5k k28 kio o):=
 OblH.ofC (X:=((∀i,(kp o) i=koi o i)/\True)) (by kernel_rfl) ⟨fun _=>propext ⟨fun h=>h.1,fun h=>⟨h⟩⟩,trivial⟩
theorem k172 {x:ksv} {o:k7z} (h:kf6 x o):k28.Snd Tryz.prog x o:=
 Con.soundH (c:=k28) (C:=k5k) TBok ⟨inf_ok,(all_cons k157 all_nil),all_nil⟩ mix Tryz.func52 (by kernel_rfl) (by kernel_rfl) (by kernel_rfl) rfl h (k16q o)
theorem k1af {p0:wF} {r0:Int} (h:
((decide (1<=p0.wt)=true->
(decide (p0.wt<=3)=true->
(decide (1<=p0.wD)=true->
(decide (p0.wD<=12)=true->
(decide (1<=p0.wa)=true->
(decide (p0.wa<=100)=true->
(decide (1<=p0.wS)=true->
(decide (p0.wS<=1048576)=true->
(decide (p0.wW<=4294967296)=true->
(decide (1<=p0.wl)=true->
 kp (r0,()) ((decide (p0.wl<=65536):Bool),p0.wt,p0.wD,p0.wN,p0.wK,p0.wH,p0.wW,p0.wa,p0.wS,p0.wl,()))/\
(decide (1<=p0.wl)=false->
 kp (r0,()) (false,p0.wt,p0.wD,p0.wN,p0.wK,p0.wH,p0.wW,p0.wa,p0.wS,p0.wl,())))/\
(decide (p0.wW<=4294967296)=false->
 kp (r0,()) (false,p0.wt,p0.wD,p0.wN,p0.wK,p0.wH,p0.wW,p0.wa,p0.wS,p0.wl,())))/\
(decide (p0.wS<=1048576)=false->
 kp (r0,()) (false,p0.wt,p0.wD,p0.wN,p0.wK,p0.wH,p0.wW,p0.wa,p0.wS,p0.wl,())))/\
(decide (1<=p0.wS)=false->
 kp (r0,()) (false,p0.wt,p0.wD,p0.wN,p0.wK,p0.wH,p0.wW,p0.wa,p0.wS,p0.wl,())))/\
(decide (p0.wa<=100)=false->
 kp (r0,()) (false,p0.wt,p0.wD,p0.wN,p0.wK,p0.wH,p0.wW,p0.wa,p0.wS,p0.wl,())))/\
(decide (1<=p0.wa)=false->
 kp (r0,()) (false,p0.wt,p0.wD,p0.wN,p0.wK,p0.wH,p0.wW,p0.wa,p0.wS,p0.wl,())))/\
(decide (p0.wD<=12)=false->
 kp (r0,()) (false,p0.wt,p0.wD,p0.wN,p0.wK,p0.wH,p0.wW,p0.wa,p0.wS,p0.wl,())))/\
(decide (1<=p0.wD)=false->
 kp (r0,()) (false,p0.wt,p0.wD,p0.wN,p0.wK,p0.wH,p0.wW,p0.wa,p0.wS,p0.wl,())))/\
(decide (p0.wt<=3)=false->
 kp (r0,()) (false,p0.wt,p0.wD,p0.wN,p0.wK,p0.wH,p0.wW,p0.wa,p0.wS,p0.wl,())))/\
(decide (1<=p0.wt)=false->
 kp (r0,()) (false,p0.wt,p0.wD,p0.wN,p0.wK,p0.wH,p0.wW,p0.wa,p0.wS,p0.wl,())))):kf6 (p0.wt,p0.wD,p0.wN,p0.wK,p0.wH,p0.wW,p0.wa,p0.wS,p0.wl,()) (r0,()):=WPh.of_eq (by kernel_rfl) h
theorem k112 {r0:Int} {s3:Bool} {Aa Ab Ac Am Ar Ao Av Aw Au:Int} (h:
(((!s3)=true->
 1=r0)/\
((!s3)=false->
((Aa==1)=true->
 let v1:Bool:=(!(prS (wAC.mk Ac Am Ar)))
(v1=true->
 1=r0)/\
(v1=false->
 0=r0))/\
((Aa==1)=false->
 0=r0)))):kp (r0,()) (s3,Aa,Ab,Ac,Am,Ar,Ao,Av,Aw,Au,()):=⟨mpr_of (by kernel_rfl) h⟩
theorem bd52:Callable Tryz.prog 52:=⟨by rw[Tryz.func52];kernel_rfl,by rw[Tryz.func52];show some _≠some _;decide⟩
theorem k12g (p0:wF):kf6 (p0.wt,p0.wD,p0.wN,p0.wK,p0.wH,p0.wW,p0.wa,p0.wS,p0.wl,()) (((rulesE p0):Int),()):=by
 have j1:∀b,b=rulesB p0->kp (rulesE p0,()) (b,p0.wt,p0.wD,p0.wN,p0.wK,p0.wH,p0.wW,p0.wa,p0.wS,p0.wl,()):=by
  intro b hb
  unfold rulesE
  rw[<-hb]
  refine k112 ⟨fun e=> ?_,fun e=> ?_⟩
  ·have e:b=false:=by simpa using e
   rw[e];rfl
  ·have e:b=true:=by simpa using e
   rw[e,if_pos rfl]
   refine⟨fun e2=>⟨fun e3=> ?_,fun e3=> ?_⟩,fun e2=> ?_⟩
   ·have e2:p0.wt=1:=by simpa using e2
    have e3:¬prS ⟨p0.wN,p0.wK,p0.wH⟩=true:=by simpa using e3
    rw[if_pos e2,if_neg e3]
   ·have e2:p0.wt=1:=by simpa using e2
    have e3:prS ⟨p0.wN,p0.wK,p0.wH⟩=true:=by simpa using e3
    rw[if_pos e2,if_pos e3]
   ·have e2:¬p0.wt=1:=by simpa using e2
    rw[if_neg e2]
 have no:∀b:Bool,(b=false->rulesB p0=false)->b=false->false=rulesB p0:=fun b h e=>(h e).symm
 refine k1af ⟨fun e1=>⟨fun e2=>⟨fun e3=>⟨fun e4=>⟨fun e5=>⟨fun e6=>⟨fun e7=>⟨fun e8=>⟨fun e9=>⟨fun e10=>j1 _ ?_,fun e=>j1 _ ?_⟩,fun e=>j1 _ ?_⟩,fun e=>j1 _ ?_⟩,fun e=>j1 _ ?_⟩,fun e=>j1 _ ?_⟩,fun e=>j1 _ ?_⟩,fun e=>j1 _ ?_⟩,fun e=>j1 _ ?_⟩,fun e=>j1 _ ?_⟩,fun e=>j1 _ ?_⟩
 ·unfold rulesB;rw[e1,e2,e3,e4,e5,e6,e7,e8,e9,e10];simp
 all_goals unfold rulesB;rw[e];simp
noncomputable def kgx:Con TB.den:=k28.totR fun(a0,a1,a2,a3,a4,a5,a6,a7,a8,())=>(fun(p0:wF)=>(((rulesE p0):Int),())) (wF.mk a0 a1 a2 a3 a4 a5 a6 a7 a8)
theorem kqy:kgx.Ok Tryz.prog TB:=Con.ok_tot k28 bd52 fun(a0,a1,a2,a3,a4,a5,a6,a7,a8,())=>k172 (k12g (wF.mk a0 a1 a2 a3 a4 a5 a6 a7 a8))
def k8p:Con TB.den:=Con.mk1 23 [.agg [zqi,zqi,zqi,zqi,zqi,zqu,zqi,zqi,zqu]] [] (.tup [.one (.ptr 0 0),.one (zqi)]) [.cells [zqi,zqi,zqi,zqi,zqi,zqu,zqi,zqi,zqu,zqi,zqi,zql,.row 1,.ptr 2 0,.d (.sl (.st 8)),zqu,.row 3,.row 4],.vec yqu,.cells [.mp 5],.vec yqu,.vec (.st 9),.map yqu (.bool)]
abbrev k1cy:=CI k8p
abbrev kpc:=CO k8p
noncomputable def kuv:Cx TB:=⟨inf,[kgx,ki1,kj4,kbc],[],4,[19]⟩
noncomputable def k1lq:Code:=Tryz.f23.body.getD .skip
noncomputable def k1un:List ResultVar:=Tryz.f23.results.toList
noncomputable def k1t5 (o:kpc):An TB:= .nd [] .no [] (.rt [.rnilc 30 12 yqu,.rnilc 30 17 (.st 9)])
noncomputable def k1u4 (o:kpc):An TB:= .nd [] .no [] (.nd [] .no [] (.nd [] .no [] (k1t5 o)))
def knf (x:k1cy) (o:kpc):Prop:=WPh TB kuv 22 0 k1lq (k1u4 o) (k8p.st TB x) (retTQ TB kuv k8p k1un o)
theorem k1ro {x:k1cy} {o:kpc} (h:knf x o):k8p.Snd Tryz.prog x o:=
 Con.soundH (c:=k8p) (C:=kuv) TBok ⟨inf_ok,(all_cons kqy (all_cons ktn (all_cons kw2 (all_cons ki8 all_nil)))),all_nil⟩ mix Tryz.func23 (by kernel_rfl) (by kernel_rfl) (by kernel_rfl) rfl h (OblH.ofC (X:=True) (by kernel_rfl) trivial)
theorem k1tm {p0:wF} {r1 Bo Bp Bq Br Bs Bt Bu Bw Bx Bz Bh:Int} {Bi:List Int} {Bj:List wA} {Bk:Int} {e1 e3:List Int} {e4:List wI} {e5k:List Int} {e5v:List Bool} (h:
((((rulesE p0) !=0)=true->
 False)/\
(((rulesE p0) !=0)=false->
(1<=p0.wD/\p0.wD<=12)/\(FV (frF p0.wD []))/\(0=([]:List wI).length)/\([(rootF (frF p0.wD []))].length=[(rootF (frF p0.wD []))].length)/\(0=([]:List Int).length)/\0=r1/\p0.wt=Bo/\p0.wD=Bp/\p0.wN=Bq/\p0.wK=Br/\p0.wH=Bs/\p0.wW=Bt/\p0.wa=Bu/\p0.wS=Bw/\p0.wl=Bx/\(frF p0.wD []).wD=Bz/\(frF p0.wD []).wh=Bh/\(frF p0.wD []).wq=Bi/\([]:List wA)=Bj/\0=Bk/\([]:List Int)=e1/\[(rootF (frF p0.wD []))]=e3/\([]:List wI)=e4/\[]=e5k/\[]=e5v))):knf (p0.wt,p0.wD,p0.wN,p0.wK,p0.wH,p0.wW,p0.wa,p0.wS,p0.wl,()) (r1,Bo,Bp,Bq,Br,Bs,Bt,Bu,Bw,Bx,Bz,Bh,Bi,Bj,Bk,e1,e3,e4,e5k,e5v,()):=WPh.of_eq (by kernel_rfl) h
theorem bd23:Callable Tryz.prog 23:=⟨by rw[Tryz.func23];kernel_rfl,by rw[Tryz.func23];show some _≠some _;decide⟩
theorem k1lc (p0:wF) (h:rulesE p0=0):knf (p0.wt,p0.wD,p0.wN,p0.wK,p0.wH,p0.wW,p0.wa,p0.wS,p0.wl,()) ((0:Int),(((newS p0).R.wt):Int),(((newS p0).R.wD):Int),(((newS p0).R.wN):Int),(((newS p0).R.wK):Int),(((newS p0).R.wH):Int),(((newS p0).R.wW):Int),(((newS p0).R.wa):Int),(((newS p0).R.wS):Int),(((newS p0).R.wl):Int),(((newS p0).F.wD):Int),(((newS p0).F.wh):Int),(((newS p0).F.wq):List Int),(((newS p0).b):List wA),(((newS p0).n):Int),(((newS p0).l):List Int),(((newS p0).r):List Int),(((newS p0).p):List wI),(((newS p0).k):List Int),(((newS p0).v):List Bool),()):=by
 have hb:rulesB p0=true:=by
  cases hb:rulesB p0 with
  |true=>rfl
  |false=>unfold rulesE at h;rw[hb]at h;cases h
 have hd:1<=p0.wD/\p0.wD<=12:=by
  simp only[rulesB,Bool.and_eq_true,decide_eq_true_eq]at hb
  omega
 exact k1tm ⟨fun e=>(by rw[h]at e;cases e),fun _=>⟨hd,frF_FV hd.1 hd.2 (Nat.zero_le _) (fun x hx=>by cases hx),rfl,rfl,rfl,rfl,rfl,rfl,rfl,rfl,rfl,rfl,rfl,rfl,rfl,rfl,rfl,rfl,rfl,rfl,rfl,rfl,rfl,rfl,rfl⟩⟩
noncomputable def ks4:Con TB.den:=k8p.fnR (fun(a0,a1,a2,a3,a4,a5,a6,a7,a8,())=>(fun(p0:wF)=>rulesE p0=0) (wF.mk a0 a1 a2 a3 a4 a5 a6 a7 a8)) fun(a0,a1,a2,a3,a4,a5,a6,a7,a8,())=>(fun(p0:wF)=>((0:Int),(((newS p0).R.wt):Int),(((newS p0).R.wD):Int),(((newS p0).R.wN):Int),(((newS p0).R.wK):Int),(((newS p0).R.wH):Int),(((newS p0).R.wW):Int),(((newS p0).R.wa):Int),(((newS p0).R.wS):Int),(((newS p0).R.wl):Int),(((newS p0).F.wD):Int),(((newS p0).F.wh):Int),(((newS p0).F.wq):List Int),(((newS p0).b):List wA),(((newS p0).n):Int),(((newS p0).l):List Int),(((newS p0).r):List Int),(((newS p0).p):List wI),(((newS p0).k):List Int),(((newS p0).v):List Bool),())) (wF.mk a0 a1 a2 a3 a4 a5 a6 a7 a8)
theorem k187:ks4.Ok Tryz.prog TB:=Con.ok_fn k8p bd23 fun(a0,a1,a2,a3,a4,a5,a6,a7,a8,()) h=>k1ro (k1lc (wF.mk a0 a1 a2 a3 a4 a5 a6 a7 a8) h)
def k61:Con TB.den:=Con.mk0 23 [.agg [zqi,zqi,zqi,zqi,zqi,zqu,zqi,zqi,zqu]] [] (.tup [.one (.k .nilPtr),.one (zqi)]) []
abbrev kzq:=CI k61
abbrev khl:=CO k61
noncomputable def klv:Cx TB:=⟨inf,[kgx,ki1,kj4,kbc],[],4,[19]⟩
noncomputable def k18v:Code:=Tryz.f23.body.getD .skip
noncomputable def k1im:List ResultVar:=Tryz.f23.results.toList
noncomputable def k1iy (o:khl):An TB:= .nd [] .no [] (.rt [.rnilc 30 12 yqu,.rnilc 30 17 (.st 9)])
noncomputable def k1il (o:khl):An TB:= .nd [] .no [] (.nd [] .no [] (.nd [] .no [] (k1iy o)))
def khu (x:kzq) (o:khl):Prop:=WPh TB klv 22 0 k18v (k1il o) (k61.st TB x) (retTQ TB klv k61 k1im o)
theorem k1g4 {x:kzq} {o:khl} (h:khu x o):k61.Snd Tryz.prog x o:=
 Con.soundH (c:=k61) (C:=klv) TBok ⟨inf_ok,(all_cons kqy (all_cons ktn (all_cons kw2 (all_cons ki8 all_nil)))),all_nil⟩ mix Tryz.func23 (by kernel_rfl) (by kernel_rfl) (by kernel_rfl) rfl h (OblH.ofC (X:=True) (by kernel_rfl) trivial)
theorem k1jc {p0:wF} {r1:Int} (h:
((((rulesE p0) !=0)=true->
(rulesE p0)=r1)/\
(((rulesE p0) !=0)=false->
(1<=p0.wD/\p0.wD<=12)/\(FV (frF p0.wD []))/\False))):khu (p0.wt,p0.wD,p0.wN,p0.wK,p0.wH,p0.wW,p0.wa,p0.wS,p0.wl,()) (r1,()):=WPh.of_eq (by kernel_rfl) h
theorem k1aa (p0:wF) (h:rulesE p0≠0):khu (p0.wt,p0.wD,p0.wN,p0.wK,p0.wH,p0.wW,p0.wa,p0.wS,p0.wl,()) (((rulesE p0):Int),()):=by
 exact k1jc ⟨fun _=>rfl,fun e=>(h (by simpa using e)).elim⟩
noncomputable def kjt:Con TB.den:=k61.fnR (fun(a0,a1,a2,a3,a4,a5,a6,a7,a8,())=>(fun(p0:wF)=>rulesE p0≠0) (wF.mk a0 a1 a2 a3 a4 a5 a6 a7 a8)) fun(a0,a1,a2,a3,a4,a5,a6,a7,a8,())=>(fun(p0:wF)=>(((rulesE p0):Int),())) (wF.mk a0 a1 a2 a3 a4 a5 a6 a7 a8)
theorem kw7:kjt.Ok Tryz.prog TB:=Con.ok_fn k61 bd23 fun(a0,a1,a2,a3,a4,a5,a6,a7,a8,()) h=>k1g4 (k1aa (wF.mk a0 a1 a2 a3 a4 a5 a6 a7 a8) h)
def k65:Con TB.den:=Con.mk0 32 [.one (zql),.one (zql)] [] (.one (.one (.d (.bool)))) []
abbrev k1cv:=CI k65
abbrev kd1:=CO k65
noncomputable def k8q:Cx TB:=⟨inf,[],[],4,[]⟩
noncomputable def khi:Code:=Tryz.f32.body.getD .skip
noncomputable def kui:List ResultVar:=Tryz.f32.results.toList
def k1t7 (o:kd1):=qS TB k8q 26 0 (cB (cB (cB khi))) .no (retTQ TB k8q k65 kui o)
def kdk:Tm:=⟨[],[],[0,1,5],[.one (zql),.one (zql),.one (zqi)],0⟩
def kh5 (o:kd1) (nx1:NX TB kdk) (i:HL TB.den kdk.hs):Prop:=WP TB k8q 26 0 (cA (cA (cB (cA (cB (cB khi)))))) .no (kdk.fill TB i) (qM TB 0 kdk nx1 (blockT TB 0 (k1t7 o)))
noncomputable def k1u6 (o:kd1):An TB:= .nd [] .no [] (.lp [] kdk (kh5 o) fun nx1=> .no)
noncomputable def k17i (o:kd1):An TB:= .nd [] .no [] (.nd [] .no [] (.nd [] (k1u6 o) [] .no))
def ko3 (x:k1cv) (o:kd1):Prop:=WPh TB k8q 26 0 khi (k17i o) (k65.st TB x) (retTQ TB k8q k65 kui o)
theorem k1rz (o:kd1):OblH TB k8q 26 0 khi (k17i o) (retTQ TB k8q k65 kui o):=
 OblH.ofC (X:=((∀nx i,(kh5 o) nx i=(kh5 o) nx i)/\(∀nx1:NX TB kdk,True)/\True)) (by kernel_rfl) ⟨fun _ _=>rfl,fun _=>trivial,trivial⟩
theorem k1rn {x:k1cv} {o:kd1} (h:ko3 x o):k65.Snd Tryz.prog x o:=
 Con.soundH (c:=k65) (C:=k8q) TBok ⟨inf_ok,all_nil,all_nil⟩ mix Tryz.func32 (by kernel_rfl) (by kernel_rfl) (by kernel_rfl) rfl h (k1rz o)
theorem k1us {p0 p1:List Int} {r0:Bool} (h:
((((p0.length:Int) !=(p1.length:Int))=true->
 false=r0)/\
(((p0.length:Int) !=(p1.length:Int))=false->
 Md.Loop (p0,p1,(0:Int),()) (kh5 (r0,()))))):ko3 (p0,p1,()) (r0,()):=WPh.of_eq (by kernel_rfl) h
def k18h (r0:Bool) (k1:Int->Prop) (s0 s1:List Int) (s5:Int):Prop:=
(decide (s5<(s0.length:Int))=true->
(0<=s5)/\s5<(s0.length:Int)/\(0<=s5)/\s5<(s1.length:Int)/\(((ix s0 s5) !=(ix s1 s5))=true->
 false=r0)/\
(((ix s0 s5) !=(ix s1 s5))=false->
 k1 (IntKind.i64.wrap (s5+1):Int)))/\
(decide (s5<(s0.length:Int))=false->
 true=r0)
theorem k1rq {r0:Bool} {s0 s1:List Int} {s5:Int} (inv:Int->Prop) (μ:Int->Nat) (h0:inv s5) (hs:∀(s5:Int),inv s5->k18h r0 (fun s5q=>inv s5q/\μ s5q<μ s5) s0 s1 s5):Md.Loop (s0,s1,s5,()) (kh5 (r0,())):=
 ⟨⟨fun((s0q,s1q,s5q,()):(List Int)×(List Int)×Int×Unit)=>(s0=s0q/\s1=s1q)/\inv s5q,fun((_,_,s5q,()):(List Int)×(List Int)×Int×Unit)=>μ s5q,⟨⟨rfl,rfl⟩,h0⟩,fun(s0p,s1p,s5p,()) ⟨eq,hi⟩=>by
  obtain⟨rfl,rfl⟩:=eq;exact mpr_of (by kernel_rfl) ((congrArg (fun k=>k18h r0 k s0 s1 s5p) (lpk1 (⟨rfl,rfl⟩:s0=s0/\s1=s1) inv (fun s5q=>μ s5q<μ s5p))).mpr (hs s5p hi))⟩⟩
theorem bd32:Callable Tryz.prog 32:=⟨by rw[Tryz.func32];kernel_rfl,by rw[Tryz.func32];show some _≠some _;decide⟩
theorem k1l4 (p0 p1:List Int) (h:p0.length<=9223372036854775807):ko3 (p0,p1,()) (((decide (p0=p1)):Bool),()):=by
 refine k1us ⟨fun e=> ?_,fun e=> ?_⟩
 ·have e:¬(p0.length:Int)=p1.length:=by simpa using e
  rw[decide_eq_false (by rintro rfl;exact e rfl)]
 ·have e:(p0.length:Int)=p1.length:=by simpa using e
  refine k1rq (fun i=>0<=i/\i<=p0.length/\p0.take i.toNat=p1.take i.toNat) (fun i=>(p0.length-i).toNat) ⟨by omega,by omega,by simp⟩ ?_
  rintro i ⟨g0,g1,g2⟩
  refine⟨fun hh=> ?_,fun hh=> ?_⟩
  ·have hh:=of_decide_eq_true hh
   refine⟨g0,hh,g0,by omega,fun e2=> ?_,fun e2=> ?_⟩
   ·have e2:¬ix p0 i=ix p1 i:=by simpa using e2
    rw[decide_eq_false (by rintro rfl;exact e2 rfl)]
   ·have e2:ix p0 i=ix p1 i:=by simpa using e2
    rw[inc i p0.length g0 hh (by omega)]
    refine⟨⟨by omega,by omega,?_⟩,by omega⟩
    rw[k1q p0 i g0 hh,k1q p1 i g0 (by omega),g2,e2]
  ·have hh:=of_decide_eq_false hh
   rw[List.take_of_length_le (by omega),List.take_of_length_le (by omega)]at g2
   rw[decide_eq_true g2]
noncomputable def k13r:Con TB.den:=k65.fnR (fun x=>(fun(p0 p1:List Int)=>p0.length<=9223372036854775807) x.1 x.2.1) fun x=>(fun(p0 p1:List Int)=>(((decide (p0=p1)):Bool),())) x.1 x.2.1
theorem k1ty:k13r.Ok Tryz.prog TB:=Con.ok_fn k65 bd32 fun x h=>k1rn (k1l4 x.1 x.2.1 h)
def k7v:Con TB.den:=Con.mk0 11 [] [] (.one (.one (.d (.bool)))) []
abbrev k17t:=CI k7v
abbrev ktz:=CO k7v
noncomputable def kqw:Cx TB:=⟨inf,[ks4,kjt,kja,kv5,khw,kfh,kic,kqr,k13r,kot,kjl],[],4,[]⟩
noncomputable def k1je:Code:=Tryz.f11.body.getD .skip
noncomputable def k1rw:List ResultVar:=Tryz.f11.results.toList
noncomputable def k1s9 (o:ktz):An TB:= .no
def kkx (x:k17t) (o:ktz):Prop:=WPh TB kqw 71 0 k1je (k1s9 o) (k7v.st TB x) (retTQ TB kqw k7v k1rw o)
theorem k1mv {x:k17t} {o:ktz} (h:kkx x o):k7v.Snd Tryz.prog x o:=
 Con.soundH (c:=k7v) (C:=kqw) TBok ⟨inf_ok,(all_cons k187 (all_cons kw7 (all_cons kwp (all_cons k1o7 (all_cons kst (all_cons ko4 (all_cons ksx (all_cons k1f3 (all_cons k1ty (all_cons k195 (all_cons kv7 all_nil))))))))))),all_nil⟩ mix Tryz.func11 (by kernel_rfl) (by kernel_rfl) (by kernel_rfl) rfl h (OblH.ofC (X:=True) (by kernel_rfl) trivial)
theorem k1qi  {r0:Bool} (h:
(((rulesE (wF.mk 2 2 0 0 0 50 3 5 1)=0)/\let r1:=newS (wF.mk 2 2 0 0 0 50 3 5 1)
(((0:Int) !=0)=true->
 false=r0)/\
(((0:Int) !=0)=false->
(r1.p.length=r1.p.length)/\(r1.r.length=r1.r.length)/\(r1.l.length=r1.l.length)/\((∃c:Nat,c+(wd.mk 0 1 7 0 0 ([]:List wm)).Txs.length<=790/\PI (PS.mk (wF.mk r1.R.wt r1.R.wD r1.R.wN r1.R.wK r1.R.wH r1.R.wW r1.R.wa r1.R.wS r1.R.wl) (wC.mk r1.F.wD r1.F.wh r1.F.wq) r1.b r1.n r1.l r1.r r1.p r1.k r1.v) c 0)/\BR' (wd.mk 0 1 7 0 0 ([]:List wm)))/\let r2:Int:=((applyS (PS.mk (wF.mk r1.R.wt r1.R.wD r1.R.wN r1.R.wK r1.R.wH r1.R.wW r1.R.wa r1.R.wS r1.R.wl) (wC.mk r1.F.wD r1.F.wh r1.F.wq) r1.b r1.n r1.l r1.r r1.p r1.k r1.v) (wd.mk 0 1 7 0 0 ([]:List wm))).e)
 let r3:=(applyS (PS.mk (wF.mk r1.R.wt r1.R.wD r1.R.wN r1.R.wK r1.R.wH r1.R.wW r1.R.wa r1.R.wS r1.R.wl) (wC.mk r1.F.wD r1.F.wh r1.F.wq) r1.b r1.n r1.l r1.r r1.p r1.k r1.v) (wd.mk 0 1 7 0 0 ([]:List wm))).s
((r2 !=0)=true->
 false=r0)/\
((r2 !=0)=false->
(r3.p.length=r3.p.length)/\(r3.r.length=r3.r.length)/\(r3.l.length=r3.l.length)/\(r3.r.length<=1000000)/\let r4:Int:=(if r3.r=[]then 0 else ix r3.r ((r3.r.length:Int)-1))
 let v5:List wm:=[wm.mk r4 ([]:List Int) [ww.mk 3 2 1 [1,2,3]] 30 0 2 7 0 9 ([]:List Int)]
(r3.p.length=r3.p.length)/\(r3.r.length=r3.r.length)/\(r3.l.length=r3.l.length)/\((∃c:Nat,c+(wd.mk 0 2 7 0 0 v5).Txs.length<=790/\PI (PS.mk (wF.mk r3.R.wt r3.R.wD r3.R.wN r3.R.wK r3.R.wH r3.R.wW r3.R.wa r3.R.wS r3.R.wl) (wC.mk r3.F.wD r3.F.wh r3.F.wq) r3.b r3.n r3.l r3.r r3.p r3.k r3.v) c 0)/\BR' (wd.mk 0 2 7 0 0 v5))/\let r6:Int:=((applyS (PS.mk (wF.mk r3.R.wt r3.R.wD r3.R.wN r3.R.wK r3.R.wH r3.R.wW r3.R.wa r3.R.wS r3.R.wl) (wC.mk r3.F.wD r3.F.wh r3.F.wq) r3.b r3.n r3.l r3.r r3.p r3.k r3.v) (wd.mk 0 2 7 0 0 v5)).e)
 let r7:=(applyS (PS.mk (wF.mk r3.R.wt r3.R.wD r3.R.wN r3.R.wK r3.R.wH r3.R.wW r3.R.wa r3.R.wS r3.R.wl) (wC.mk r3.F.wD r3.F.wh r3.F.wq) r3.b r3.n r3.l r3.r r3.p r3.k r3.v) (wd.mk 0 2 7 0 0 v5)).s
((r6 !=0)=true->
 false=r0)/\
((r6 !=0)=false->
(r7.p.length=r7.p.length)/\(r7.r.length=r7.r.length)/\(r7.l.length=r7.l.length)/\(r7.b.length<=100000)/\(Srt (wg.mk r7.b).wB/\(wg.mk r7.b).wB.length<4611686018427387904)/\let r8:=getA (wg.mk r7.b).wB (7:Int)
((r8.wX==72)=true->
((r8.wO==1)=true->
(r7.p.length=r7.p.length)/\(r7.r.length=r7.r.length)/\(r7.l.length=r7.l.length)/\((r7.n==28)=true->
(r7.p.length=r7.p.length)/\(r7.r.length=r7.r.length)/\(r7.l.length=r7.l.length)/\(r7.l.length<=1000000)/\(r7.l.length<=9223372036854775807)/\((decide (r7.l=[3]))=true->
(r7.p.length=r7.p.length)/\(r7.r.length=r7.r.length)/\(r7.l.length=r7.l.length)/\((1<=r7.R.wa/\r7.R.wa<=100)/\r7.r.length<=1000000)/\let v9:Bool:=(((ancL r7.r r7.R.wa).length:Int)==3)
(v9=true->
(r7.p.length=r7.p.length)/\(r7.r.length=r7.r.length)/\(r7.l.length=r7.l.length)/\((∃(c:Nat) (f:Int),c<=800/\PI (PS.mk (wF.mk r7.R.wt r7.R.wD r7.R.wN r7.R.wK r7.R.wH r7.R.wW r7.R.wa r7.R.wS r7.R.wl) (wC.mk r7.F.wD r7.F.wh r7.F.wq) r7.b r7.n r7.l r7.r r7.p r7.k r7.v) c f)/\TR (wm.mk r4 ([]:List Int) [ww.mk 3 2 1 [1,2,3]] 30 0 2 7 0 9 ([]:List Int)))/\let r10:Int:=(chkS (PS.mk (wF.mk r7.R.wt r7.R.wD r7.R.wN r7.R.wK r7.R.wH r7.R.wW r7.R.wa r7.R.wS r7.R.wl) (wC.mk r7.F.wD r7.F.wh r7.F.wq) r7.b r7.n r7.l r7.r r7.p r7.k r7.v) (wm.mk r4 ([]:List Int) [ww.mk 3 2 1 [1,2,3]] 30 0 2 7 0 9 ([]:List Int)))
(r10==20)=r0)/\
(v9=false->
 false=r0))/\
((decide (r7.l=[3]))=false->
 false=r0))/\
((r7.n==28)=false->
 false=r0))/\
((r8.wO==1)=false->
 false=r0))/\
((r8.wX==72)=false->
 false=r0)))))∨((rulesE (wF.mk 2 2 0 0 0 50 3 5 1)≠0)/\false=r0))):kkx (()) (r0,()):=WPh.of_eq (by kernel_rfl) h
theorem bd11:Callable Tryz.prog 11:=⟨by rw[Tryz.func11];kernel_rfl,by rw[Tryz.func11];show some _≠some _;decide⟩
theorem k1hw:kkx (()) ((true:Bool),()):=by
 refine k1qi (.inl ⟨aR_ok,fun e=>(by cases e),fun _=>⟨rfl,rfl,rfl,⟨⟨0,by decide,a_PI1⟩,aB1_r⟩,?_⟩⟩)
 have h1:applyS (newS aR) aB1=⟨0,aS2⟩:=a_ap1
 rw[show applyS (PS.mk (wF.mk (newS (wF.mk 2 2 0 0 0 50 3 5 1)).R.wt (newS (wF.mk 2 2 0 0 0 50 3 5 1)).R.wD (newS (wF.mk 2 2 0 0 0 50 3 5 1)).R.wN (newS (wF.mk 2 2 0 0 0 50 3 5 1)).R.wK (newS (wF.mk 2 2 0 0 0 50 3 5 1)).R.wH (newS (wF.mk 2 2 0 0 0 50 3 5 1)).R.wW (newS (wF.mk 2 2 0 0 0 50 3 5 1)).R.wa (newS (wF.mk 2 2 0 0 0 50 3 5 1)).R.wS (newS (wF.mk 2 2 0 0 0 50 3 5 1)).R.wl) (wC.mk (newS (wF.mk 2 2 0 0 0 50 3 5 1)).F.wD (newS (wF.mk 2 2 0 0 0 50 3 5 1)).F.wh (newS (wF.mk 2 2 0 0 0 50 3 5 1)).F.wq) (newS (wF.mk 2 2 0 0 0 50 3 5 1)).b (newS (wF.mk 2 2 0 0 0 50 3 5 1)).n (newS (wF.mk 2 2 0 0 0 50 3 5 1)).l (newS (wF.mk 2 2 0 0 0 50 3 5 1)).r (newS (wF.mk 2 2 0 0 0 50 3 5 1)).p (newS (wF.mk 2 2 0 0 0 50 3 5 1)).k (newS (wF.mk 2 2 0 0 0 50 3 5 1)).v) (wd.mk 0 1 7 0 0 ([]:List wm))=⟨0,aS2⟩from a_ap1]
 refine⟨fun e=>(by cases e),fun _=>⟨(by first|exact rfl|exact True.intro),(by first|exact rfl|exact True.intro),(by first|exact rfl|exact True.intro),by decide,?_⟩⟩
 have hr:(if aS2.r=[]then 0 else ix aS2.r ((aS2.r.length:Int)-1))=aA:=by
  rw[if_neg (fun hh=>by cases hh)]
  rfl
 simp only[hr]
 refine⟨(by first|exact rfl|exact True.intro),(by first|exact rfl|exact True.intro),(by first|exact rfl|exact True.intro),⟨⟨1,by decide,a_PI2⟩,aB2_r⟩,?_⟩
 rw[show applyS (PS.mk (wF.mk aS2.R.wt aS2.R.wD aS2.R.wN aS2.R.wK aS2.R.wH aS2.R.wW aS2.R.wa aS2.R.wS aS2.R.wl) (wC.mk aS2.F.wD aS2.F.wh aS2.F.wq) aS2.b aS2.n aS2.l aS2.r aS2.p aS2.k aS2.v) (wd.mk 0 2 7 0 0 [wm.mk aA ([]:List Int) [ww.mk 3 2 1 [1,2,3]] 30 0 2 7 0 9 ([]:List Int)])=⟨0,aS4⟩from a_ap2]
 have hg:getA aS4.b 7=⟨7,72,1⟩:=by decide +kernel
 refine⟨fun e=>(by cases e),fun _=>⟨(by first|exact rfl|exact True.intro),(by first|exact rfl|exact True.intro),(by first|exact rfl|exact True.intro),by decide,⟨a_PI4.b.1.1,by decide⟩,?_⟩⟩
 simp only[hg]
 refine⟨fun _=>⟨fun _=>⟨(by first|exact rfl|exact True.intro),(by first|exact rfl|exact True.intro),(by first|exact rfl|exact True.intro),fun _=>⟨(by first|exact rfl|exact True.intro),(by first|exact rfl|exact True.intro),(by first|exact rfl|exact True.intro),by decide,by decide,fun _=>⟨(by first|exact rfl|exact True.intro),(by first|exact rfl|exact True.intro),(by first|exact rfl|exact True.intro),⟨by decide,by decide⟩,fun _=>⟨(by first|exact rfl|exact True.intro),(by first|exact rfl|exact True.intro),(by first|exact rfl|exact True.intro),⟨⟨3,0,by decide,a_PI4⟩,aT_r.1⟩,(congrArg (fun z:Int=>z==20) a_chk2).trans rfl⟩,fun e=>absurd e (by decide)⟩,fun e=>absurd e (by decide)⟩,fun e=>absurd e (by decide)⟩,fun e=>absurd e (by decide)⟩,fun e=>absurd e (by decide)⟩
noncomputable def k101:Con TB.den:=k7v.totR fun x=>(true,())
theorem k1qu:k101.Ok Tryz.prog TB:=Con.ok_tot k7v bd11 fun x=>k1mv (k1hw)
def k6k:Con TB.den:=Con.mk0 26 [.one (.ptr 0 0)] [.cells [zqi,zqi,zqi,zqi,zqi,zqu,zqi,zqi,zqu,zqi,zqi,zql,.row 1,.ptr 2 0,.d (.sl (.st 8)),zqu,.row 3,.row 4],.vec yqu,.cells [.mp 5],.vec yqu,.vec (.st 9),.map yqu (.bool)] (.one (.one (.d (.bool)))) [.cells [zqi,zqi,zqi,zqi,zqi,zqu,zqi,zqi,zqu,zqi,zqi,zql,.row 6,.ptr 2 0,.d (.sl (.st 8)),zqu,.row 7,.row 8],.dead,.cells [.mp 5],.dead,.dead,.map yqu (.bool),.vec yqu,.vec yqu,.vec (.st 9)]
abbrev k14w:=CI k6k
abbrev k9g:=CO k6k
noncomputable def knn:Cx TB:=⟨inf,[kh0],[],4,[]⟩
noncomputable def k1e4:Code:=Tryz.f26.body.getD .skip
noncomputable def k1mt:List ResultVar:=Tryz.f26.results.toList
noncomputable def k1mo (o:k9g):An TB:= .nd [] .no [] (.nd [] .no [] (.rt [.trimc 0 12,.trimc 0 16,.trimc 0 17]))
noncomputable def k1m7 (o:k9g):An TB:= .nd [] .no [] (.nd [] .no [] (.nd [] .no [] (k1mo o)))
noncomputable def k1no (o:k9g):An TB:= .nd [] (.nd [] .no [] (.rt [.trimc 0 12,.trimc 0 16,.trimc 0 17])) [] .no
noncomputable def k1m8 (o:k9g):An TB:= .nd [] (.nd [] .no [] (k1no o)) [] (k1m7 o)
noncomputable def k1lo (o:k9g):An TB:= .nd [] .no [] (.nd [] .no [] (k1m8 o))
def kjr (x:k14w) (o:k9g):Prop:=WPh TB knn 53 6 k1e4 (k1lo o) (k6k.st TB x) (retTQ TB knn k6k k1mt o)
theorem k1i6 {x:k14w} {o:k9g} (h:kjr x o):k6k.Snd Tryz.prog x o:=
 Con.soundH (c:=k6k) (C:=knn) TBok ⟨inf_ok,(all_cons kru all_nil),all_nil⟩ mix Tryz.func26 (by kernel_rfl) (by kernel_rfl) (by kernel_rfl) rfl h (OblH.ofC (X:=True) (by kernel_rfl) trivial)
theorem k1mj {Ay As Az Ba Bb Bc Ah Bd Be At Ae:Int} {Af:List Int} {Ad:List wA} {Ag:Int} {w1 w3:List Int} {w4:List wI} {w5k:List Int} {w5v:List Bool} {r0:Bool} {Bo Bp Bq Br Bs Bt Bu Bw Bx Bz Bh:Int} {Bi:List Int} {Bj:List wA} {Bk:Int} {e5k:List Int} {e5v:List Bool} {e6 e7:List Int} {e8:List wI} (h:
((((w4.length:Int)==0)=true->
 w1.length=w1.length/\w3.length=w3.length/\w4.length=w4.length/\(w4.length=w4.length)/\(w3.length=w3.length)/\(w1.length=w1.length)/\false=r0/\Ay=Bo/\As=Bp/\Az=Bq/\Ba=Br/\Bb=Bs/\Bc=Bt/\Ah=Bu/\Bd=Bw/\Be=Bx/\At=Bz/\Ae=Bh/\Af=Bi/\Ad=Bj/\Ag=Bk/\w5k=e5k/\w5v=e5v/\w1=e6/\w3=e7/\w4=e8)/\
(((w4.length:Int)==0)=false->
(0<=IntKind.i64.wrap ((w4.length:Int)-1)/\IntKind.i64.wrap ((w4.length:Int)-1)<(w4.length:Int))/\(0<=IntKind.i64.wrap ((w4.length:Int)-1)/\IntKind.i64.wrap ((w4.length:Int)-1)<(w4.length:Int))/\(w4.length=w4.length)/\(w3.length=w3.length)/\(w1.length=w1.length)/\(w5v=trs w5k/\(ix w4 (IntKind.i64.wrap ((w4.length:Int)-1))).marks.length<=1000000/\0<=(ix w4 (IntKind.i64.wrap ((w4.length:Int)-1))).leaves/\(ix w4 (IntKind.i64.wrap ((w4.length:Int)-1))).leaves<=(w1.length:Int))/\let r1:=ix w4 (IntKind.i64.wrap ((w4.length:Int)-1))
 let r2:Int:=((ix w4 (IntKind.i64.wrap ((w4.length:Int)-1))).leaves.toNat:Int)
 let r3:List Int:=((remS (ix w4 (IntKind.i64.wrap ((w4.length:Int)-1))).marks w5k).2)
 let r4:List Bool:=(trs (remS (ix w4 (IntKind.i64.wrap ((w4.length:Int)-1))).marks w5k).2)
(0<=IntKind.i64.wrap ((w4.length:Int)-1)/\IntKind.i64.wrap ((w4.length:Int)-1)<(w4.length:Int))/\(0<=IntKind.i64.wrap ((w4.length:Int)-1)/\IntKind.i64.wrap ((w4.length:Int)-1)<(w4.length:Int))/\(0<=IntKind.i64.wrap ((w4.length:Int)-1))/\IntKind.i64.wrap ((w4.length:Int)-1)<=(w4.length:Int)/\(0<=IntKind.i64.wrap ((w3.length:Int)-1))/\IntKind.i64.wrap ((w3.length:Int)-1)<=(w3.length:Int)/\(0:Int).toNat=0/\r2.toNat<=w1.length/\0=0/\(IntKind.i64.wrap ((w3.length:Int)-1)).toNat<=w3.length/\0=0/\(IntKind.i64.wrap ((w4.length:Int)-1)).toNat<=(w4.set (IntKind.i64.wrap ((w4.length:Int)-1)).toNat (wI.mk 0 0 ([]:List Int) 0 ([]:List Int) ([]:List wA) 0)).length/\(((w4.set (IntKind.i64.wrap ((w4.length:Int)-1)).toNat (wI.mk 0 0 ([]:List Int) 0 ([]:List Int) ([]:List wA) 0)).take ((IntKind.i64.wrap ((w4.length:Int)-1)).toNat)).length=((w4.set (IntKind.i64.wrap ((w4.length:Int)-1)).toNat (wI.mk 0 0 ([]:List Int) 0 ([]:List Int) ([]:List wA) 0)).take ((IntKind.i64.wrap ((w4.length:Int)-1)).toNat)).length)/\((w3.take ((IntKind.i64.wrap ((w3.length:Int)-1)).toNat)).length=(w3.take ((IntKind.i64.wrap ((w3.length:Int)-1)).toNat)).length)/\((w1.take r2.toNat).length=(w1.take r2.toNat).length)/\true=r0/\Ay=Bo/\As=Bp/\Az=Bq/\Ba=Br/\Bb=Bs/\Bc=Bt/\Ah=Bu/\Bd=Bw/\Be=Bx/\r1.wAU=Bz/\r1.wAT=Bh/\r1.wAV=Bi/\r1.wAN=Bj/\r1.hidden=Bk/\r3=e5k/\r4=e5v/\w1.take r2.toNat=e6/\w3.take ((IntKind.i64.wrap ((w3.length:Int)-1)).toNat)=e7/\(w4.set (IntKind.i64.wrap ((w4.length:Int)-1)).toNat (wI.mk 0 0 ([]:List Int) 0 ([]:List Int) ([]:List wA) 0)).take ((IntKind.i64.wrap ((w4.length:Int)-1)).toNat)=e8))):kjr (Ay,As,Az,Ba,Bb,Bc,Ah,Bd,Be,At,Ae,Af,Ad,Ag,w1,w3,w4,w5k,w5v,()) (r0,Bo,Bp,Bq,Br,Bs,Bt,Bu,Bw,Bx,Bz,Bh,Bi,Bj,Bk,e5k,e5v,e6,e7,e8,()):=WPh.of_eq (by kernel_rfl) h
theorem bd26:Callable Tryz.prog 26:=⟨by rw[Tryz.func26];kernel_rfl,by rw[Tryz.func26];show some _≠some _;decide⟩
theorem k1d4 (Ay As Az Ba Bb Bc Ah Bd Be At Ae:Int) (Af:List Int) (Ad:List wA) (Ag:Int) (w1 w3:List Int) (w4:List wI) (w5k:List Int) (w5v:List Bool) (h:UOk (PS.mk (wF.mk Ay As Az Ba Bb Bc Ah Bd Be) (wC.mk At Ae Af) Ad Ag w1 w3 w4 w5k w5v)):kjr (Ay,As,Az,Ba,Bb,Bc,Ah,Bd,Be,At,Ae,Af,Ad,Ag,w1,w3,w4,w5k,w5v,()) (let q0_:=undoS (PS.mk (wF.mk Ay As Az Ba Bb Bc Ah Bd Be) (wC.mk At Ae Af) Ad Ag w1 w3 w4 w5k w5v);(((decide (w4≠[])):Bool),q0_.R.wt,q0_.R.wD,q0_.R.wN,q0_.R.wK,q0_.R.wH,q0_.R.wW,q0_.R.wa,q0_.R.wS,q0_.R.wl,q0_.F.wD,q0_.F.wh,q0_.F.wq,q0_.b,q0_.n,q0_.k,q0_.v,q0_.l,q0_.r,q0_.p,())):=by
 have hv:w5v=trs w5k:=h.v
 have hr1:1<=w3.length:=h.r
 have hr2:w3.length<=1000000:=h.rl
 have hpl:w4.length<=1000000:=h.pl
 have hq:w4≠[]->(ix w4 ((w4.length:Int)-1)).marks.length<=1000000/\0<=(ix w4 ((w4.length:Int)-1)).leaves/\(ix w4 ((w4.length:Int)-1)).leaves<=(w1.length:Int):=h.q
 generalize hR:undoS (PS.mk (wF.mk Ay As Az Ba Bb Bc Ah Bd Be) (wC.mk At Ae Af) Ad Ag w1 w3 w4 w5k w5v)=R
 unfold undoS at hR
 simp only at hR
 refine k1mj ⟨fun e=> ?_,fun e=> ?_⟩
 ·have e:w4=[]:=by simpa using e
  rw[if_pos e]at hR
  subst hR
  rw[decide_eq_false (fun hh=>hh e)]
  exact(by repeat' first|apply And.intro|exact rfl|exact True.intro)
 ·have e:¬w4=[]:=by simpa using e
  have hne:1<=w4.length:=List.length_pos_iff.2 e
  rw[if_neg e]at hR
  obtain⟨q1,q2,q3⟩:=hq e
  have e1:IntKind.i64.wrap ((w4.length:Int)-1)=((w4.length-1:Nat):Int):=by rw[k1i _ (by omega) (by omega)];omega
  have e2:IntKind.i64.wrap ((w3.length:Int)-1)=((w3.length-1:Nat):Int):=by rw[k1i _ (by omega) (by omega)];omega
  have e3:((w4.length:Int)-1)=((w4.length-1:Nat):Int):=by omega
  rw[e3]at q1 q2 q3 hR
  unfold resS at hR
  subst hR
  rw[e1,e2,decide_eq_true e]
  simp only[Int.toNat_natCast]
  rw[take_set']
  refine⟨⟨by omega,by omega⟩,⟨by omega,by omega⟩,(by first|exact rfl|exact True.intro),(by first|exact rfl|exact True.intro),(by first|exact rfl|exact True.intro),⟨hv,q1,q2,q3⟩,⟨by omega,by omega⟩,⟨by omega,by omega⟩,by omega,by omega,by omega,by omega,(by first|exact rfl|exact True.intro),by omega,(by first|exact rfl|exact True.intro),by omega,(by first|exact rfl|exact True.intro),?_,(by repeat' first|apply And.intro|exact rfl|exact True.intro)⟩
  rw[List.length_set]
  omega
noncomputable def kvw:Con TB.den:=k6k.fnR (fun(a0,a1,a2,a3,a4,a5,a6,a7,a8,a9,a10,a11,a12,a13,a14,a15,a16,a17,a18,())=>(fun(Ay As Az Ba Bb Bc Ah Bd Be At Ae:Int) (Af:List Int) (Ad:List wA) (Ag:Int) (w1 w3:List Int) (w4:List wI) (w5k:List Int) (w5v:List Bool)=>UOk (PS.mk (wF.mk Ay As Az Ba Bb Bc Ah Bd Be) (wC.mk At Ae Af) Ad Ag w1 w3 w4 w5k w5v)) a0 a1 a2 a3 a4 a5 a6 a7 a8 a9 a10 a11 a12 a13 a14 a15 a16 a17 a18) fun(a0,a1,a2,a3,a4,a5,a6,a7,a8,a9,a10,a11,a12,a13,a14,a15,a16,a17,a18,())=>(fun(Ay As Az Ba Bb Bc Ah Bd Be At Ae:Int) (Af:List Int) (Ad:List wA) (Ag:Int) (w1 w3:List Int) (w4:List wI) (w5k:List Int) (w5v:List Bool)=>(let q0_:=undoS (PS.mk (wF.mk Ay As Az Ba Bb Bc Ah Bd Be) (wC.mk At Ae Af) Ad Ag w1 w3 w4 w5k w5v);(((decide (w4≠[])):Bool),q0_.R.wt,q0_.R.wD,q0_.R.wN,q0_.R.wK,q0_.R.wH,q0_.R.wW,q0_.R.wa,q0_.R.wS,q0_.R.wl,q0_.F.wD,q0_.F.wh,q0_.F.wq,q0_.b,q0_.n,q0_.k,q0_.v,q0_.l,q0_.r,q0_.p,()))) a0 a1 a2 a3 a4 a5 a6 a7 a8 a9 a10 a11 a12 a13 a14 a15 a16 a17 a18
theorem k1n4:kvw.Ok Tryz.prog TB:=Con.ok_fn k6k bd26 fun(a0,a1,a2,a3,a4,a5,a6,a7,a8,a9,a10,a11,a12,a13,a14,a15,a16,a17,a18,()) h=>k1i6 (k1d4 a0 a1 a2 a3 a4 a5 a6 a7 a8 a9 a10 a11 a12 a13 a14 a15 a16 a17 a18 h)
def kaj:Con TB.den:=Con.mk0 140 [.one (zqu)] [] (.one (.agg [zqu,zqu,zqu])) []
abbrev k1jw:=CI kaj
abbrev k11r:=CO kaj
noncomputable def kyb:Cx TB:=⟨inf,[],[],4,[]⟩
noncomputable def k1rf:Code:=Tryz.f140.body.getD .skip
noncomputable def k1vc:List ResultVar:=Tryz.f140.results.toList
noncomputable def k1wy (o:k11r):An TB:= .no
def kqk (x:k1jw) (o:k11r):Prop:=WPh TB kyb 26 0 k1rf (k1wy o) (kaj.st TB x) (retTQ TB kyb kaj k1vc o)
theorem k1u9 {x:k1jw} {o:k11r} (h:kqk x o):kaj.Snd Tryz.prog x o:=
 Con.soundH (c:=kaj) (C:=kyb) TBok ⟨inf_ok,all_nil,all_nil⟩ mix Tryz.func140 (by kernel_rfl) (by kernel_rfl) (by kernel_rfl) rfl h (OblH.ofC (X:=True) (by kernel_rfl) trivial)
theorem k1vw {p0:Int} {r0:wAA} (h:
(((p0==17)=true->
 3=r0.a0/\4=r0.a1/\3=r0.a2)/\
((p0==17)=false->
((p0==97)=true->
 5=r0.a0/\5=r0.a1/\5=r0.a2)/\
((p0==97)=false->
((p0==193)=true->
 5=r0.a0/\6=r0.a1/\5=r0.a2)/\
((p0==193)=false->
((p0==257)=true->
 3=r0.a0/\8=r0.a1/\3=r0.a2)/\
((p0==257)=false->
((p0==12289)=true->
 11=r0.a0/\12=r0.a1/\5=r0.a2)/\
((p0==12289)=false->
((p0==65537)=true->
 3=r0.a0/\16=r0.a1/\3=r0.a2)/\
((p0==65537)=false->
((p0==18446744069414584321)=true->
 7=r0.a0/\32=r0.a1/\7=r0.a2)/\
((p0==18446744069414584321)=false->
 0=r0.a0/\0=r0.a1/\0=r0.a2))))))))):kqk (p0,()) (r0.a0,r0.a1,r0.a2,()):=WPh.of_eq (by kernel_rfl) h
theorem bd140:Callable Tryz.prog 140:=⟨by rw[Tryz.func140];kernel_rfl,by rw[Tryz.func140];show some _≠some _;decide⟩
theorem k1ph (p0:Int) (h:p0=18446744069414584321):kqk (p0,()) ((7:Int),(32:Int),(7:Int),()):=by
 refine k1vw (r0:=wAA.mk 7 32 7) ?_
 simp[h]
noncomputable def kue:Con TB.den:=kaj.fnR (fun x=>(fun(p0:Int)=>p0=18446744069414584321) x.1) fun x=>(fun(p0:Int)=>((7:Int),(32:Int),(7:Int),())) x.1
theorem k1do:kue.Ok Tryz.prog TB:=Con.ok_fn kaj bd140 fun x h=>k1u9 (k1ph x.1 h)
def k7i:Con TB.den:=Con.mk0 130 [.one (zqu)] [] (.one (.one (.d (.bool)))) []
abbrev k17e:=CI k7i
abbrev ku8:=CO k7i
noncomputable def kr8:Cx TB:=⟨inf,[kue],[],4,[]⟩
noncomputable def k1iv:Code:=Tryz.f130.body.getD .skip
noncomputable def k1s0:List ResultVar:=Tryz.f130.results.toList
noncomputable def k1ss (o:ku8):An TB:= .no
def klo (x:k17e) (o:ku8):Prop:=WPh TB kr8 7 0 k1iv (k1ss o) (k7i.st TB x) (retTQ TB kr8 k7i k1s0 o)
theorem k1m9 {x:k17e} {o:ku8} (h:klo x o):k7i.Snd Tryz.prog x o:=
 Con.soundH (c:=k7i) (C:=kr8) TBok ⟨inf_ok,(all_cons k1do all_nil),all_nil⟩ mix Tryz.func130 (by kernel_rfl) (by kernel_rfl) (by kernel_rfl) rfl h (OblH.ofC (X:=True) (by kernel_rfl) trivial)
theorem k1ou {p0:Int} {r0:Bool} (h:
((p0=18446744069414584321)/\decide (0<(7:Int))=r0)):klo (p0,()) (r0,()):=WPh.of_eq (by kernel_rfl) h
theorem bd130:Callable Tryz.prog 130:=⟨by rw[Tryz.func130];kernel_rfl,by rw[Tryz.func130];show some _≠some _;decide⟩
theorem k1i2 (p0:Int) (h:p0=18446744069414584321):klo (p0,()) ((true:Bool),()):=by
 exact k1ou ⟨h,rfl⟩
noncomputable def k8f:Con TB.den:=k7i.fnR (fun x=>(fun(p0:Int)=>p0=18446744069414584321) x.1) fun x=>(fun(p0:Int)=>(true,())) x.1
theorem kbj:k8f.Ok Tryz.prog TB:=Con.ok_fn k7i bd130 fun x h=>k1m9 (k1i2 x.1 h)
def kac:Con TB.den:=Con.mk0 141 [.one (zqu),.one (zqu),.one (zqu)] [] (.one (.one (zqu))) []
abbrev k1jx:=CI kac
abbrev k11i:=CO kac
noncomputable def kxw:Cx TB:=⟨inf,[k8f],[],4,[]⟩
noncomputable def k1sg:Code:=Tryz.f141.body.getD .skip
noncomputable def k1wv:List ResultVar:=Tryz.f141.results.toList
noncomputable def k1vn (o:k11i):An TB:= .no
def kri (x:k1jx) (o:k11i):Prop:=WPh TB kxw 29 0 k1sg (k1vn o) (kac.st TB x) (retTQ TB kxw kac k1wv o)
theorem k1u8 {x:k1jx} {o:k11i} (h:kri x o):kac.Snd Tryz.prog x o:=
 Con.soundH (c:=kac) (C:=kxw) TBok ⟨inf_ok,(all_cons kbj all_nil),all_nil⟩ mix Tryz.func141 (by kernel_rfl) (by kernel_rfl) (by kernel_rfl) rfl h (OblH.ofC (X:=True) (by kernel_rfl) trivial)
theorem k1w7 {p0 p1 p2 r0:Int} (h:
((p0=18446744069414584321)/\((!true)=true->
 0=r0)/\
((!true)=false->
(p0≠0)/\(p0≠0)/\let v1:Bool:=decide ((IntKind.u64.wrap (p0-(Int.tmod p2 p0)))<=(Int.tmod p1 p0))
(v1=true->
 let v2:Int:=IntKind.u64.wrap ((Int.tmod p1 p0)-(IntKind.u64.wrap (p0-(Int.tmod p2 p0))))
 v2=r0)/\
(v1=false->
 let v3:Int:=IntKind.u64.wrap ((Int.tmod p1 p0)+(Int.tmod p2 p0))
 v3=r0)))):kri (p0,p1,p2,()) (r0,()):=WPh.of_eq (by kernel_rfl) h
theorem bd141:Callable Tryz.prog 141:=⟨by rw[Tryz.func141];kernel_rfl,by rw[Tryz.func141];show some _≠some _;decide⟩
theorem k1rl (p0 p1 p2:Int) (h:p0=18446744069414584321/\U64 p1/\U64 p2):kri (p0,p1,p2,()) ((((p1+p2)%18446744069414584321):Int),()):=by
 obtain⟨rfl,h1,h2⟩:=h
 refine k1w7 ⟨rfl,fun h=>by simp at h,fun _=> ?_⟩
 rw[tmod_nn _ _ h1.1,tmod_nn _ _ h2.1]
 simp only[u64w]
 refine⟨by omega,by omega,fun h=> ?_,fun h=> ?_⟩
 ·have h:=of_decide_eq_true h
  omega
 ·have h:=of_decide_eq_false h
  omega
noncomputable def kha:Con TB.den:=kac.fnR (fun x=>(fun(p0 p1 p2:Int)=>p0=18446744069414584321/\U64 p1/\U64 p2) x.1 x.2.1 x.2.2.1) fun x=>(fun(p0 p1 p2:Int)=>((((p1+p2)%18446744069414584321):Int),())) x.1 x.2.1 x.2.2.1
theorem kp5:kha.Ok Tryz.prog TB:=Con.ok_fn kac bd141 fun x h=>k1u8 (k1rl x.1 x.2.1 x.2.2.1 h)
def kab:Con TB.den:=Con.mk0 142 [.one (zqu),.one (zqu),.one (zqu)] [] (.one (.one (zqu))) []
abbrev k1ka:=CI kab
abbrev k13t:=CO kab
noncomputable def kxu:Cx TB:=⟨inf,[k8f,kkw,klk],[],4,[]⟩
noncomputable def k1pl:Code:=Tryz.f142.body.getD .skip
noncomputable def k1v8:List ResultVar:=Tryz.f142.results.toList
noncomputable def k1v7 (o:k13t):An TB:= .no
def ks6 (x:k1ka) (o:k13t):Prop:=WPh TB kxu 32 0 k1pl (k1v7 o) (kab.st TB x) (retTQ TB kxu kab k1v8 o)
theorem k1tq {x:k1ka} {o:k13t} (h:ks6 x o):kab.Snd Tryz.prog x o:=
 Con.soundH (c:=kab) (C:=kxu) TBok ⟨inf_ok,(all_cons kbj (all_cons kz4 (all_cons kz9 all_nil))),all_nil⟩ mix Tryz.func142 (by kernel_rfl) (by kernel_rfl) (by kernel_rfl) rfl h (OblH.ofC (X:=True) (by kernel_rfl) trivial)
theorem k1w5 {p0 p1 p2 r0:Int} (h:
((p0=18446744069414584321)/\((!true)=true->
 0=r0)/\
((!true)=false->
(p0≠0)/\(p0≠0)/\(U64 (Int.tmod p1 p0)/\U64 (Int.tmod p2 p0))/\let r1:Int:=((Int.tmod p1 p0)*(Int.tmod p2 p0)/18446744073709551616)
 let r2:Int:=((Int.tmod p1 p0)*(Int.tmod p2 p0)%18446744073709551616)
(U64 r1/\U64 r2/\U64 p0/\r1<p0)/\((r1*18446744073709551616+r2)%p0)=r0))):ks6 (p0,p1,p2,()) (r0,()):=WPh.of_eq (by kernel_rfl) h
theorem bd142:Callable Tryz.prog 142:=⟨by rw[Tryz.func142];kernel_rfl,by rw[Tryz.func142];show some _≠some _;decide⟩
theorem k1rm (p0 p1 p2:Int) (h:p0=18446744069414584321/\U64 p1/\U64 p2):ks6 (p0,p1,p2,()) (((p1*p2%18446744069414584321):Int),()):=by
 obtain⟨rfl,h1,h2⟩:=h
 refine k1w5 ⟨rfl,fun h=>by simp at h,fun _=> ?_⟩
 rw[tmod_nn _ _ h1.1,tmod_nn _ _ h2.1,Int.mul_emod p1 p2]
 have a1:0<=p1%18446744069414584321/\p1%18446744069414584321<18446744069414584321:=by omega
 have a2:0<=p2%18446744069414584321/\p2%18446744069414584321<18446744069414584321:=by omega
 generalize p1%18446744069414584321=a at *
 generalize p2%18446744069414584321=b at *
 have h3:0<=a*b:=Int.mul_nonneg a1.1 a2.1
 have h4:a*b<=18446744069414584320*18446744069414584320:=Int.mul_le_mul (by omega) (by omega) a2.1 (by omega)
 generalize a*b=m at *
 refine⟨by omega,by omega,⟨⟨by omega,by omega⟩,⟨by omega,by omega⟩⟩,⟨⟨by omega,by omega⟩,⟨by omega,by omega⟩,⟨by omega,by omega⟩,by omega⟩,?_⟩
 rw[show m/18446744073709551616*18446744073709551616+m%18446744073709551616=m by omega]
noncomputable def kud:Con TB.den:=kab.fnR (fun x=>(fun(p0 p1 p2:Int)=>p0=18446744069414584321/\U64 p1/\U64 p2) x.1 x.2.1 x.2.2.1) fun x=>(fun(p0 p1 p2:Int)=>(((p1*p2%18446744069414584321):Int),())) x.1 x.2.1 x.2.2.1
theorem k1fj:kud.Ok Tryz.prog TB:=Con.ok_fn kab bd142 fun x h=>k1tq (k1rm x.1 x.2.1 x.2.2.1 h)
def k4m:Con TB.den:=Con.mk0 151 [.one (zqu)] [] (.one (.one (zqu))) []
abbrev kv9:=CI k4m
abbrev kl7:=CO k4m
noncomputable def kk2:Cx TB:=⟨inf,[kue],[],4,[]⟩
noncomputable def k16g:Code:=Tryz.f151.body.getD .skip
noncomputable def k1d0:List ResultVar:=Tryz.f151.results.toList
noncomputable def k1cq (o:kl7):An TB:= .no
def kgl (x:kv9) (o:kl7):Prop:=WPh TB kk2 6 0 k16g (k1cq o) (k4m.st TB x) (retTQ TB kk2 k4m k1d0 o)
theorem k19w {x:kv9} {o:kl7} (h:kgl x o):k4m.Snd Tryz.prog x o:=
 Con.soundH (c:=k4m) (C:=kk2) TBok ⟨inf_ok,(all_cons k1do all_nil),all_nil⟩ mix Tryz.func151 (by kernel_rfl) (by kernel_rfl) (by kernel_rfl) rfl h (OblH.ofC (X:=True) (by kernel_rfl) trivial)
theorem k1e0 {p0 r0:Int} (h:
((p0=18446744069414584321)/\7=r0)):kgl (p0,()) (r0,()):=WPh.of_eq (by kernel_rfl) h
theorem bd151:Callable Tryz.prog 151:=⟨by rw[Tryz.func151];kernel_rfl,by rw[Tryz.func151];show some _≠some _;decide⟩
theorem k173 (p0:Int) (h:p0=18446744069414584321):kgl (p0,()) ((7:Int),()):=by
 exact k1e0 ⟨h,rfl⟩
noncomputable def krj:Con TB.den:=k4m.fnR (fun x=>(fun(p0:Int)=>p0=18446744069414584321) x.1) fun x=>(fun(p0:Int)=>((7:Int),())) x.1
theorem k1ga:krj.Ok Tryz.prog TB:=Con.ok_fn k4m bd151 fun x h=>k19w (k173 x.1 h)
def k71:Con TB.den:=Con.mk0 149 [.one (zqu),.one (zqu),.one (zqu)] [] (.one (.one (zqu))) []
abbrev k1ko:=CI k71
abbrev k6p:=CO k71
noncomputable def k8l:Cx TB:=⟨inf,[k8f,kud],[],4,[]⟩
noncomputable def kf2:Code:=Tryz.f149.body.getD .skip
noncomputable def kwt:List ResultVar:=Tryz.f149.results.toList
def k1fq (o:k6p):=qS TB k8l 30 0 (cB (cB (cB (cB (cB kf2))))) .no (retTQ TB k8l k71 kwt o)
def k4g:Tm:=⟨[],[],[0,1,2,7],[.one (zqu),.one (zqu),.one (zqu),.one (zqu)],0⟩
def k1vq (o:k6p) (nx1:NX TB k4g):=blockT TB 1 (qM TB 0 k4g nx1 (blockT TB 0 (k1fq o)))
def kme:Tm:=⟨[],[],[0,1,2,7],[.one (zqu),.one (zqu),.one (zqu),.one (zqu)],0⟩
def k17d (o:k6p) (nx1:NX TB k4g) (i:HL TB.den kme.hs):Prop:=ghs TB [] (kme.fill TB i) fun s=>WP TB k8l 30 0 (cB (cA (cB (cA (cA (cA (cB (cB (cB (cB kf2)))))))))) .no s (k1vq o nx1)
structure kg5 (o:k6p) (nx1:NX TB k4g) (i:HL TB.den kme.hs):Prop where
 h:k17d o nx1 i
noncomputable def k1f9 (o:k6p) (nx1:NX TB k4g):An TB:= .nd [] .no [] (.jn kme (kg5 o nx1) [] .no [] .no)
def kk3 (o:k6p) (nx1:NX TB k4g) (i:HL TB.den k4g.hs):Prop:=WP TB k8l 30 0 (cA (cA (cA (cB (cB (cB (cB kf2))))))) (k1f9 o nx1) (k4g.fill TB i) (qM TB 0 k4g nx1 (blockT TB 0 (k1fq o)))
noncomputable def k1w8 (o:k6p):An TB:= .lp [] k4g (kk3 o) fun nx1=>(k1f9 o nx1)
noncomputable def k1vh (o:k6p):An TB:= .nd [] .no [] (.nd [] .no [] (.nd [] .no [] (.nd [] (k1w8 o) [] .no)))
noncomputable def k1cs (o:k6p):An TB:= .nd [] .no [] (k1vh o)
def krt (x:k1ko) (o:k6p):Prop:=WPh TB k8l 30 0 kf2 (k1cs o) (k71.st TB x) (retTQ TB k8l k71 kwt o)
theorem k1ug (o:k6p):OblH TB k8l 30 0 kf2 (k1cs o) (retTQ TB k8l k71 kwt o):=
 OblH.ofC (X:=((∀nx i,(kk3 o) nx i=(kk3 o) nx i)/\(∀nx1:NX TB k4g,((∀i,(kg5 o nx1) i=k17d o nx1 i)/\True))/\True)) (by kernel_rfl) ⟨fun _ _=>rfl,fun _=>⟨fun _=>propext ⟨fun h=>h.1,fun h=>⟨h⟩⟩,trivial⟩,trivial⟩
theorem k1tf {x:k1ko} {o:k6p} (h:krt x o):k71.Snd Tryz.prog x o:=
 Con.soundH (c:=k71) (C:=k8l) TBok ⟨inf_ok,(all_cons kbj (all_cons k1fj all_nil)),all_nil⟩ mix Tryz.func149 (by kernel_rfl) (by kernel_rfl) (by kernel_rfl) rfl h (k1ug o)
theorem k1wl {p0 p1 p2 r0:Int} (h:
((p0=18446744069414584321)/\((!true)=true->
 0=r0)/\
((!true)=false->
(p0≠0)/\Md.Loop (p0,(Int.tmod p1 p0:Int),p2,(1:Int),()) (kk3 (r0,()))))):krt (p0,p1,p2,()) (r0,()):=WPh.of_eq (by kernel_rfl) h
theorem k1n2 {r0:Int} {nx1:NX TB k4g} {s0 s1 s2 s7:Int} (h:
((s0=18446744069414584321/\U64 s1/\U64 s1)/\nx1 (s0,((s1*s1%18446744069414584321):Int),(IntKind.u64.wrap (Int.tdiv s2 2):Int),s7,()))):kg5 (r0,()) nx1 (s0,s1,s2,s7,()):=⟨mpr_of (by kernel_rfl) h⟩
def k1cd (r0:Int) (nx1:NX TB k4g) (k1:Int->Int->Int->Prop) (s0 s1 s2 s7:Int):Prop:=
(decide (0<s2)=true->
(((Int.tmod s2 2)==1)=true->
(s0=18446744069414584321/\U64 s7/\U64 s1)/\kg5 (r0,()) nx1 (s0,s1,s2,((s7*s1%18446744069414584321):Int),()))/\
(((Int.tmod s2 2)==1)=false->
 kg5 (r0,()) nx1 (s0,s1,s2,s7,())))/\
(decide (0<s2)=false->
 s7=r0)
theorem k1ur {r0 s0 s1 s2 s7:Int} (inv:Int->Int->Int->Prop) (μ:Int->Int->Int->Nat) (h0:inv s1 s2 s7) (hs:∀(s1 s2 s7:Int),inv s1 s2 s7->k1cd r0 (fun((s0q,s1q,s2q,s7q,()):Int×Int×Int×Int×Unit)=>((s0=s0q)/\inv s1q s2q s7q)/\μ s1q s2q s7q<μ s1 s2 s7) (fun s1q s2q s7q=>inv s1q s2q s7q/\μ s1q s2q s7q<μ s1 s2 s7) s0 s1 s2 s7):Md.Loop (s0,s1,s2,s7,()) (kk3 (r0,())):=
 ⟨⟨fun((s0q,s1q,s2q,s7q,()):Int×Int×Int×Int×Unit)=>(s0=s0q)/\inv s1q s2q s7q,fun((_,s1q,s2q,s7q,()):Int×Int×Int×Int×Unit)=>μ s1q s2q s7q,⟨rfl,h0⟩,fun(s0p,s1p,s2p,s7p,()) ⟨eq,hi⟩=>by
  obtain rfl:=eq;exact mpr_of (by kernel_rfl) ((congrArg (fun k=>k1cd r0 (fun((s0q,s1q,s2q,s7q,()):Int×Int×Int×Int×Unit)=>((s0=s0q)/\inv s1q s2q s7q)/\μ s1q s2q s7q<μ s1p s2p s7p) k s0 s1p s2p s7p) (lpk3 (rfl:s0=s0) inv (fun s1q s2q s7q=>μ s1q s2q s7q<μ s1p s2p s7p))).mpr (hs s1p s2p s7p hi))⟩⟩
theorem bd149:Callable Tryz.prog 149:=⟨by rw[Tryz.func149];kernel_rfl,by rw[Tryz.func149];show some _≠some _;decide⟩
theorem k1s5 (p0 p1 p2:Int) (h:p0=18446744069414584321/\U64 p1/\U64 p2):krt (p0,p1,p2,()) (((pw p1 p2):Int),()):=by
 obtain⟨rfl,h1,h2⟩:=h
 refine k1wl ⟨rfl,fun h=>by simp at h,fun _=>⟨by omega,?_⟩⟩
 rw[tmod_nn _ _ h1.1]
 refine k1ur (fun a e r=>(0<=a/\a<18446744069414584321)/\U64 e/\(0<=r/\r<18446744069414584321)/\(r*a^e.toNat)%18446744069414584321=pw p1 p2) (fun a e r=>e.toNat) ⟨by omega,h2,by omega,by rw[Int.one_mul,kya];rfl⟩ ?_
 rintro a e r ⟨ha,he,hr,hv⟩
 have hpow:∀k:Nat,a^(2*k)=(a*a)^k:=fun k=>by rw[Int.pow_mul];congr 1;rw[Int.pow_succ,Int.pow_succ,Int.pow_zero,Int.one_mul]
 have jj:∀nx r',(0<=r'/\r' <18446744069414584321)->0<e->(r' *(a*a)^(e/2).toNat)%18446744069414584321=pw p1 p2->(∀a',(0<=a'/\a' <18446744069414584321)->r' *a' ^(e/2).toNat%18446744069414584321=pw p1 p2->nx ((18446744069414584321:Int),a',(e/2:Int),r',()))->kg5 ((pw p1 p2:Int),()) nx ((18446744069414584321:Int),a,e,r',()):=by
  intro nx r' hr' he' hv' hn
  refine k1n2 ⟨⟨rfl,by omega,by omega⟩,?_⟩
  rw[tdiv_nn _ _ he.1,wu (e/2) (by omega) (by omega)]
  refine hn _ ⟨Int.emod_nonneg _ (by omega),Int.emod_lt_of_pos _ (by omega)⟩ ?_
  rw[<-hv',Int.mul_emod,Int.mul_emod r' ((a*a)^_),kya]
 refine⟨fun h=> ?_,fun h=> ?_⟩
 ·have h:=of_decide_eq_true h
  rw[tmod_nn _ _ he.1]
  have nxt:∀a' r',(0<=a'/\a' <18446744069414584321)->(0<=r'/\r' <18446744069414584321)->r' *a' ^(e/2).toNat%18446744069414584321=pw p1 p2->((0<=a'/\a' <18446744069414584321)/\U64 (e/2)/\(0<=r'/\r' <18446744069414584321)/\r' *a' ^(e/2).toNat%18446744069414584321=pw p1 p2)/\(e/2).toNat<e.toNat:=fun a' r' h1 h2 h3=>⟨⟨h1,⟨by omega,by omega⟩,h2,h3⟩,by omega⟩
  refine⟨fun h1=>⟨⟨rfl,by omega,by omega⟩,?_⟩,fun h1=> ?_⟩
  ·have h1:e%2=1:=by simpa using h1
   refine jj _ _ ⟨Int.emod_nonneg _ (by omega),Int.emod_lt_of_pos _ (by omega)⟩ h ?_ fun a' ha' hv' =>⟨⟨rfl,(nxt a' _ ha' ⟨Int.emod_nonneg _ (by omega),Int.emod_lt_of_pos _ (by omega)⟩ hv').1⟩,(nxt a' _ ha' ⟨Int.emod_nonneg _ (by omega),Int.emod_lt_of_pos _ (by omega)⟩ hv').2⟩
   rw[<-hv,show e.toNat=2*(e/2).toNat+1 by omega,Int.pow_succ,hpow,Int.mul_emod,Int.emod_emod_of_dvd _ (Int.dvd_refl _),<-Int.mul_emod]
   congr 1
   grind
  ·have h1:¬e%2=1:=by simpa using h1
   refine jj _ _ hr h ?_ fun a' ha' hv' =>⟨⟨rfl,(nxt a' _ ha' hr hv').1⟩,(nxt a' _ ha' hr hv').2⟩
   rw[<-hv,<-hpow,show e.toNat=2*(e/2).toNat by omega]
 ·have h:¬0<e:=of_decide_eq_false h
  rw[show e.toNat=0 by omega,Int.pow_zero,Int.mul_one,Int.emod_eq_of_lt hr.1 hr.2]at hv
  exact hv
noncomputable def k18f:Con TB.den:=k71.fnR (fun x=>(fun(p0 p1 p2:Int)=>p0=18446744069414584321/\U64 p1/\U64 p2) x.1 x.2.1 x.2.2.1) fun x=>(fun(p0 p1 p2:Int)=>(((pw p1 p2):Int),())) x.1 x.2.1 x.2.2.1
theorem k1w1:k18f.Ok Tryz.prog TB:=Con.ok_fn k71 bd149 fun x h=>k1tf (k1s5 x.1 x.2.1 x.2.2.1 h)
def k4n:Con TB.den:=Con.mk0 150 [.one (zqu),.one (zqi),.one (zqi)] [] (.one (.one (zqu))) []
abbrev kuz:=CI k4n
abbrev kly:=CO k4n
noncomputable def kiw:Cx TB:=⟨inf,[k8f],[],4,[]⟩
noncomputable def k15t:Code:=Tryz.f150.body.getD .skip
noncomputable def k1fc:List ResultVar:=Tryz.f150.results.toList
noncomputable def k1ej (o:kly):An TB:= .no
def kgk (x:kuz) (o:kly):Prop:=WPh TB kiw 35 0 k15t (k1ej o) (k4n.st TB x) (retTQ TB kiw k4n k1fc o)
theorem k1ap {x:kuz} {o:kly} (h:kgk x o):k4n.Snd Tryz.prog x o:=
 Con.soundH (c:=k4n) (C:=kiw) TBok ⟨inf_ok,(all_cons kbj all_nil),all_nil⟩ mix Tryz.func150 (by kernel_rfl) (by kernel_rfl) (by kernel_rfl) rfl h (OblH.ofC (X:=True) (by kernel_rfl) trivial)
theorem k1er {p0 p1 p2 r0:Int} (h:
((p0=18446744069414584321)/\((!true)=true->
 0=r0)/\
((!true)=false->
(decide (p1<0)=true->
 0=r0)/\
(decide (p1<0)=false->
(decide (7<p1)=true->
 0=r0)/\
(decide (7<p1)=false->
(decide (p2<0)=true->
 0=r0)/\
(decide (p2<0)=false->
(decide (2<p2)=true->
 0=r0)/\
(decide (2<p2)=false->
 let v1:Int:=IntKind.i64.wrap ((IntKind.i64.wrap (3*p1))+p2)
 let v2:Int:=IntKind.u64.wrap (IntKind.i64.wrap (v1+1))
 let v3:Int:=IntKind.u64.wrap (v2*11400714819323198485)
(p0≠0)/\Int.tmod v3 p0=r0))))))):kgk (p0,p1,p2,()) (r0,()):=WPh.of_eq (by kernel_rfl) h
theorem bd150:Callable Tryz.prog 150:=⟨by rw[Tryz.func150];kernel_rfl,by rw[Tryz.func150];show some _≠some _;decide⟩
theorem k15x (p0 p1 p2:Int) (h:p0=18446744069414584321/\(0<=p1/\p1<8)/\0<=p2/\p2<3):kgk (p0,p1,p2,()) (((rc p1 p2):Int),()):=by
 obtain⟨rfl,h1,h2⟩:=h
 refine k1er ⟨rfl,fun h=>by simp at h,fun _=>⟨fun h=> ?_,fun _=>⟨fun h=> ?_,fun _=>⟨fun h=> ?_,fun _=>⟨fun h=> ?_,fun _=> ?_⟩⟩⟩⟩⟩
 ·simp at h;omega
 ·simp at h;omega
 ·simp at h;omega
 ·simp at h;omega
 ·simp only[]
  rw[wi (3*p1) (by omega) (by omega),wi (3*p1+p2) (by omega) (by omega),wi (3*p1+p2+1) (by omega) (by omega),wu (3*p1+p2+1) (by omega) (by omega),u64w]
  exact⟨by omega,by rw[tmod_nn _ _ (by omega)];rfl⟩
noncomputable def krm:Con TB.den:=k4n.fnR (fun x=>(fun(p0 p1 p2:Int)=>p0=18446744069414584321/\(0<=p1/\p1<8)/\0<=p2/\p2<3) x.1 x.2.1 x.2.2.1) fun x=>(fun(p0 p1 p2:Int)=>(((rc p1 p2):Int),())) x.1 x.2.1 x.2.2.1
theorem k1d8:krm.Ok Tryz.prog TB:=Con.ok_fn k4n bd150 fun x h=>k1ap (k15x x.1 x.2.1 x.2.2.1 h)
def k75:Con TB.den:=Con.mk0 154 [.one (zqu),.one (zql)] [] (.one (.one (zqu))) []
abbrev k1kq:=CI k75
abbrev kep:=CO k75
noncomputable def kaf:Cx TB:=⟨inf,[kha],[],4,[]⟩
noncomputable def kjn:Code:=Tryz.f154.body.getD .skip
noncomputable def kyf:List ResultVar:=Tryz.f154.results.toList
def k1wq (o:kep):=qS TB kaf 21 0 (cB (cB (cB kjn))) .no (retTQ TB kaf k75 kyf o)
def kfs:Tm:=⟨[],[],[0,1,5,6],[.one (zqu),.one (zql),.one (zqu),.one (zqi)],0⟩
def kji (o:kep) (nx1:NX TB kfs) (i:HL TB.den kfs.hs):Prop:=WP TB kaf 21 0 (cA (cA (cB (cA (cB (cB kjn)))))) .no (kfs.fill TB i) (qM TB 0 kfs nx1 (blockT TB 0 (k1wq o)))
noncomputable def k1wp (o:kep):An TB:= .nd [] .no [] (.lp [] kfs (kji o) fun nx1=> .no)
noncomputable def k1dt (o:kep):An TB:= .nd [] .no [] (.nd [] .no [] (.nd [] (k1wp o) [] .no))
def kpn (x:k1kq) (o:kep):Prop:=WPh TB kaf 21 0 kjn (k1dt o) (k75.st TB x) (retTQ TB kaf k75 kyf o)
theorem k1ue (o:kep):OblH TB kaf 21 0 kjn (k1dt o) (retTQ TB kaf k75 kyf o):=
 OblH.ofC (X:=((∀nx i,(kji o) nx i=(kji o) nx i)/\(∀nx1:NX TB kfs,True)/\True)) (by kernel_rfl) ⟨fun _ _=>rfl,fun _=>trivial,trivial⟩
theorem k1ux {x:k1kq} {o:kep} (h:kpn x o):k75.Snd Tryz.prog x o:=
 Con.soundH (c:=k75) (C:=kaf) TBok ⟨inf_ok,(all_cons kp5 all_nil),all_nil⟩ mix Tryz.func154 (by kernel_rfl) (by kernel_rfl) (by kernel_rfl) rfl h (k1ue o)
theorem k1wn {p0:Int} {p1:List Int} {r0:Int} (h:
(Md.Loop (p0,p1,(0:Int),(0:Int),()) (kji (r0,())))):kpn (p0,p1,()) (r0,()):=WPh.of_eq (by kernel_rfl) h
def k1fp (r0:Int) (k1:Int->Int->Prop) (s0:Int) (s1:List Int) (s5 s6:Int):Prop:=
(decide (s6<(s1.length:Int))=true->
(0<=s6)/\s6<(s1.length:Int)/\(s0=18446744069414584321/\U64 s5/\U64 (ix s1 s6))/\let r1:Int:=((s5+(ix s1 s6))%18446744069414584321)
 k1 r1 (IntKind.i64.wrap (s6+1):Int))/\
(decide (s6<(s1.length:Int))=false->
 s5=r0)
theorem k1u3 {r0 s0:Int} {s1:List Int} {s5 s6:Int} (inv:Int->Int->Prop) (μ:Int->Int->Nat) (h0:inv s5 s6) (hs:∀(s5 s6:Int),inv s5 s6->k1fp r0 (fun s5q s6q=>inv s5q s6q/\μ s5q s6q<μ s5 s6) s0 s1 s5 s6):Md.Loop (s0,s1,s5,s6,()) (kji (r0,())):=
 ⟨⟨fun((s0q,s1q,s5q,s6q,()):Int×(List Int)×Int×Int×Unit)=>(s0=s0q/\s1=s1q)/\inv s5q s6q,fun((_,_,s5q,s6q,()):Int×(List Int)×Int×Int×Unit)=>μ s5q s6q,⟨⟨rfl,rfl⟩,h0⟩,fun(s0p,s1p,s5p,s6p,()) ⟨eq,hi⟩=>by
  obtain⟨rfl,rfl⟩:=eq;exact mpr_of (by kernel_rfl) ((congrArg (fun k=>k1fp r0 k s0 s1 s5p s6p) (lpk2 (⟨rfl,rfl⟩:s0=s0/\s1=s1) inv (fun s5q s6q=>μ s5q s6q<μ s5p s6p))).mpr (hs s5p s6p hi))⟩⟩
theorem bd154:Callable Tryz.prog 154:=⟨by rw[Tryz.func154];kernel_rfl,by rw[Tryz.func154];show some _≠some _;decide⟩
theorem k1oj (p0:Int) (p1:List Int) (h:p0=18446744069414584321/\Us p1/\p1.length<=9223372036854775807):kpn (p0,p1,()) (((p1.foldl (fun s x=>(s+x)%18446744069414584321) 0):Int),()):=by
 obtain⟨rfl,h1,h2⟩:=h
 refine k1wn (k1u3 (fun s i=>FoldI (fun s x=>(s+x)%18446744069414584321) 0 p1 i s/\U64 s) (fun s i=>(p1.length-i).toNat) ⟨FoldI.start,by omega⟩ ?_)
 rintro s i ⟨hi,hs⟩
 refine⟨fun hh=> ?_,fun hh=>hi.done (of_decide_eq_false hh)⟩
 have hh:=of_decide_eq_true hh
 have hx:=h1 _ (ix_mem p1 i hi.1 hh)
 have nx:=hi.next hh (by omega) rfl
 exact⟨hi.1,hh,⟨rfl,hs,hx⟩,⟨nx.1,by omega⟩,nx.2⟩
noncomputable def k17s:Con TB.den:=k75.fnR (fun x=>(fun(p0:Int) (p1:List Int)=>p0=18446744069414584321/\Us p1/\p1.length<=9223372036854775807) x.1 x.2.1) fun x=>(fun(p0:Int) (p1:List Int)=>(((p1.foldl (fun s x=>(s+x)%18446744069414584321) 0):Int),())) x.1 x.2.1
theorem k1vb:k17s.Ok Tryz.prog TB:=Con.ok_fn k75 bd154 fun x h=>k1ux (k1oj x.1 x.2.1 h)
def k72:Con TB.den:=Con.mk0 152 [.one (zqu),.agg [zqu,zqu,zqu]] [] (.one (.agg [zqu,zqu,zqu])) []
abbrev k1kz:=CI k72
abbrev ked:=CO k72
noncomputable def ka8:Cx TB:=⟨inf,[k17s,kha],[],4,[]⟩
noncomputable def kk9:Code:=Tryz.f152.body.getD .skip
noncomputable def kxs:List ResultVar:=Tryz.f152.results.toList
def k1wo (o:ked):=qS TB ka8 30 0 (cB (cB (cB (cB kk9)))) .no (retTQ TB ka8 k72 kxs o)
def kfp:Tm:=⟨[0,1,3],[.cells [zqu,zqu,zqu],.cells [zqu,zqu,zqu],.cells [zqu,zqu,zqu]],[0,3,4,5,6,7],[.one (zqu),.one (.ptr 0 0),.one (.ptr 1 0),.one (zqu),.one (.ptr 2 0),.one (zqi)],4⟩
def kj9 (o:ked) (nx1:NX TB kfp) (i:HL TB.den kfp.hs):Prop:=WP TB ka8 30 0 (cA (cA (cB (cA (cB (cB (cB kk9))))))) .no (kfp.fill TB i) (qM TB 0 kfp nx1 (blockT TB 0 (k1wo o)))
noncomputable def k1wt (o:ked):An TB:= .nd [] .no [] (.lp [] kfp (kj9 o) fun nx1=> .no)
noncomputable def k1cj (o:ked):An TB:= .nd [] .no [] (.nd [] .no [] (.nd [] .no [] (.nd [] (k1wt o) [] .no)))
def kpm (x:k1kz) (o:ked):Prop:=WPh TB ka8 30 0 kk9 (k1cj o) (k72.st TB x) (retTQ TB ka8 k72 kxs o)
theorem k1ua (o:ked):OblH TB ka8 30 0 kk9 (k1cj o) (retTQ TB ka8 k72 kxs o):=
 OblH.ofC (X:=((∀nx i,(kj9 o) nx i=(kj9 o) nx i)/\(∀nx1:NX TB kfp,True)/\True)) (by kernel_rfl) ⟨fun _ _=>rfl,fun _=>trivial,trivial⟩
theorem k1uw {x:k1kz} {o:ked} (h:kpm x o):k72.Snd Tryz.prog x o:=
 Con.soundH (c:=k72) (C:=ka8) TBok ⟨inf_ok,(all_cons k1vb (all_cons kp5 all_nil)),all_nil⟩ mix Tryz.func152 (by kernel_rfl) (by kernel_rfl) (by kernel_rfl) rfl h (k1ua o)
theorem k1ws {p0:Int} {p1 r0:wAA} (h:
((p0=18446744069414584321/\Us [p1.a0,p1.a1,p1.a2]/\[p1.a0,p1.a1,p1.a2].length<=9223372036854775807)/\let r1:Int:=([p1.a0,p1.a1,p1.a2].foldl (fun s x=>(s+x)%18446744069414584321) 0)
 Md.Loop (p0,r1,(0:Int),p1.a0,p1.a1,p1.a2,(0:Int),(0:Int),(0:Int),(0:Int),(0:Int),(0:Int),()) (kj9 (r0.a0,r0.a1,r0.a2,())))):kpm (p0,p1.a0,p1.a1,p1.a2,()) (r0.a0,r0.a1,r0.a2,()):=WPh.of_eq (by kernel_rfl) h
def k1fb (r0:wAA) (k1:Int->Int->Int->Int->Prop) (s0 s5 Aa Ab Ac Ai Aj Ak s7 Ek Dl El:Int):Prop:=
(decide (s7<3)=true->
(0<=s7/\s7<(3:Int))/\(0<=s7/\s7<(3:Int))/\(s0=18446744069414584321/\U64 (ix [Aa,Ab,Ac] s7)/\U64 s5)/\let r2:Int:=(((ix [Aa,Ab,Ac] s7)+s5)%18446744069414584321)
(0<=s7/\s7<(3:Int))/\(0<=s7/\s7<(3:Int))/\k1 (IntKind.i64.wrap (s7+1):Int) ((bif decide (s7=(0:Int))then r2 else Ek):Int) ((bif decide (s7=(1:Int))then r2 else Dl):Int) ((bif decide (s7=(2:Int))then r2 else El):Int))/\
(decide (s7<3)=false->
 Ek=r0.a0/\Dl=r0.a1/\El=r0.a2)
theorem k1u7 {r0:wAA} {s0 s5 Aa Ab Ac Ai Aj Ak s7 Ek Dl El:Int} (inv:Int->Int->Int->Int->Prop) (μ:Int->Int->Int->Int->Nat) (h0:inv s7 Ek Dl El) (hs:∀(s7 Ek Dl El:Int),inv s7 Ek Dl El->k1fb r0 (fun s7q Dt Du Dv=>inv s7q Dt Du Dv/\μ s7q Dt Du Dv<μ s7 Ek Dl El) s0 s5 Aa Ab Ac Ai Aj Ak s7 Ek Dl El):Md.Loop (s0,s5,s7,Aa,Ab,Ac,Ai,Aj,Ak,Ek,Dl,El,()) (kj9 (r0.a0,r0.a1,r0.a2,())):=
 ⟨⟨fun((s0q,s5q,s7q,Al,Ap,Aq,B0,B2,B3,Dt,Du,Dv,()):Int×Int×Int×Int×Int×Int×Int×Int×Int×Int×Int×Int×Unit)=>(s0=s0q/\s5=s5q/\Aa=Al/\Ab=Ap/\Ac=Aq/\Ai=B0/\Aj=B2/\Ak=B3)/\inv s7q Dt Du Dv,fun((_,_,s7q,_,_,_,_,_,_,Dt,Du,Dv,()):Int×Int×Int×Int×Int×Int×Int×Int×Int×Int×Int×Int×Unit)=>μ s7q Dt Du Dv,⟨⟨rfl,rfl,rfl,rfl,rfl,rfl,rfl,rfl⟩,h0⟩,fun(s0p,s5p,s7p,B7,B9,Ca,Cu,De,Df,h3_0p,h3_1p,h3_2p,()) ⟨eq,hi⟩=>by
  obtain⟨rfl,rfl,rfl,rfl,rfl,rfl,rfl,rfl⟩:=eq;exact mpr_of (by kernel_rfl) ((congrArg (fun k=>k1fb r0 k s0 s5 Aa Ab Ac Ai Aj Ak s7p h3_0p h3_1p h3_2p) (lpk4 (⟨rfl,rfl,rfl,rfl,rfl,rfl,rfl,rfl⟩:s0=s0/\s5=s5/\Aa=Aa/\Ab=Ab/\Ac=Ac/\Ai=Ai/\Aj=Aj/\Ak=Ak) inv (fun s7q Dt Du Dv=>μ s7q Dt Du Dv<μ s7p h3_0p h3_1p h3_2p))).mpr (hs s7p h3_0p h3_1p h3_2p hi))⟩⟩
theorem bd152:Callable Tryz.prog 152:=⟨by rw[Tryz.func152];kernel_rfl,by rw[Tryz.func152];show some _≠some _;decide⟩
theorem k1qy (p0:Int) (p1:wAA) (h:p0=18446744069414584321/\S3 p1):kpm (p0,p1.a0,p1.a1,p1.a2,()) (((mixS p1).a0:Int),((mixS p1).a1:Int),((mixS p1).a2:Int),()):=by
 obtain⟨rfl,h0,h1,h2⟩:=h
 have e:[p1.a0,p1.a1,p1.a2].foldl (fun s x=>(s+x)%18446744069414584321) 0=((p1.a0+p1.a1)%18446744069414584321+p1.a2)%18446744069414584321:=by
  show(((0+p1.a0)%18446744069414584321+p1.a1)%18446744069414584321+p1.a2)%18446744069414584321=_
  omega
 refine k1ws (r0:=mixS p1) ⟨⟨rfl,?_,by simp⟩,?_⟩
 ·intro x hx
  simp only[List.mem_cons,List.not_mem_nil,or_false]at hx
  rcases hx with rfl|rfl|rfl
  ·exact h0
  ·exact h1
  ·exact h2
 rw[e]
 have hu:U64 (((p1.a0+p1.a1)%18446744069414584321+p1.a2)%18446744069414584321):=⟨by omega,by omega⟩
 generalize hg:((p1.a0+p1.a1)%18446744069414584321+p1.a2)%18446744069414584321=t at *
 refine k1u7 (r0:=mixS p1) (fun i x y z=>(i=0)∨(i=1/\x=(p1.a0+t)%18446744069414584321)∨(i=2/\x=(p1.a0+t)%18446744069414584321/\y=(p1.a1+t)%18446744069414584321)∨(i=3/\x=(p1.a0+t)%18446744069414584321/\y=(p1.a1+t)%18446744069414584321/\z=(p1.a2+t)%18446744069414584321)) (fun i _ _ _=>(3-i).toNat) (.inl rfl) ?_
 intro i x y z hi
 refine⟨fun hh=> ?_,fun hh=> ?_⟩
 ·have hh:=of_decide_eq_true hh
  rcases hi with rfl|⟨rfl,rfl⟩|⟨rfl,rfl,rfl⟩|⟨rfl,_⟩
  ·exact⟨by omega,by omega,⟨rfl,h0,hu⟩,by omega,by omega,.inr (.inl ⟨rfl,rfl⟩),by decide⟩
  ·exact⟨by omega,by omega,⟨rfl,h1,hu⟩,by omega,by omega,.inr (.inr (.inl ⟨rfl,rfl,rfl⟩)),by decide⟩
  ·exact⟨by omega,by omega,⟨rfl,h2,hu⟩,by omega,by omega,.inr (.inr (.inr ⟨rfl,rfl,rfl,rfl⟩)),by decide⟩
  ·omega
 ·have hh:=of_decide_eq_false hh
  rcases hi with rfl|⟨rfl,rfl⟩|⟨rfl,rfl,rfl⟩|⟨rfl,rfl,rfl,rfl⟩
  ·omega
  ·omega
  ·omega
  ·unfold mixS
   rw[hg]
   exact⟨rfl,rfl,rfl⟩
noncomputable def k186:Con TB.den:=k72.fnR (fun(a0,a1,a2,a3,())=>(fun(p0:Int) (p1:wAA)=>p0=18446744069414584321/\S3 p1) a0 (wAA.mk a1 a2 a3)) fun(a0,a1,a2,a3,())=>(fun(p0:Int) (p1:wAA)=>(((mixS p1).a0:Int),((mixS p1).a1:Int),((mixS p1).a2:Int),())) a0 (wAA.mk a1 a2 a3)
theorem k1vp:k186.Ok Tryz.prog TB:=Con.ok_fn k72 bd152 fun(a0,a1,a2,a3,()) h=>k1uw (k1qy a0 (wAA.mk a1 a2 a3) h)
def k3f:Con TB.den:=Con.mk0 143 [.one (zqu),.agg [zqu,zqu,zqu]] [] (.one (.agg [zqu,zqu,zqu])) []
abbrev kym:=CI k3f
abbrev k1u:=CO k3f
noncomputable def k2m:Cx TB:=⟨inf,[k8f,krm,kha,krj,k18f,k186],[],4,[]⟩
noncomputable def k5m:Code:=Tryz.f143.body.getD .skip
noncomputable def kl9:List ResultVar:=Tryz.f143.results.toList
def kva (o:k1u):=qS TB k2m 38 0 (cB (cB (cB k5m))) .no (retTQ TB k2m k3f kl9 o)
def k12:Tm:=⟨[0,1],[.cells [zqu,zqu,zqu],.cells [zqu,zqu,zqu]],[0,3,4,5],[.one (zqu),.one (.ptr 0 0),.one (.ptr 1 0),.one (zqi)],2⟩
def k1i5 (o:k1u) (nx2:NX TB k12):=qS TB k2m 38 0 (cB (cB (cA (cA (cB (cA (cB (cB k5m)))))))) .no (qM TB 0 k12 nx2 (blockT TB 0 (kva o)))
def k1hp (o:k1u) (nx2:NX TB k12):=qS TB k2m 38 0 (cB (cA (cA (cB (cA (cA (cB (cA (cB (cB k5m)))))))))) .no (blockT TB 1 (k1i5 o nx2))
def k6v:Tm:=⟨[0,1],[.cells [zqu,zqu,zqu],.cells [zqu,zqu,zqu]],[0,3,4,5,6],[.one (zqu),.one (.ptr 0 0),.one (.ptr 1 0),.one (zqi),.one (zqi)],2⟩
def k1hx (o:k1u) (nx2:NX TB k12) (nx1:NX TB k6v):=qM TB 0 k6v nx1 (blockT TB 2 (k1hp o nx2))
def kc3 (o:k1u) (nx2:NX TB k12) (nx1:NX TB k6v) (i:HL TB.den k6v.hs):Prop:=WP TB k2m 38 0 (cA (cA (cB (cA (cA (cA (cB (cA (cA (cB (cA (cB (cB k5m))))))))))))) .no (k6v.fill TB i) (k1hx o nx2 nx1)
noncomputable def k1hm (o:k1u) (nx2:NX TB k12):An TB:= .nd [] .no [] (.lp [] k6v (kc3 o nx2) fun nx1=> .no)
noncomputable def kv6 (o:k1u) (nx2:NX TB k12):An TB:= .nd [] .no [] (.nd [] (.nd [] (k1hm o nx2) [] .no) [] .no)
def kbv (o:k1u) (nx2:NX TB k12) (i:HL TB.den k12.hs):Prop:=WP TB k2m 38 0 (cA (cA (cB (cA (cB (cB k5m)))))) (kv6 o nx2) (k12.fill TB i) (qM TB 0 k12 nx2 (blockT TB 0 (kva o)))
noncomputable def k1fx (o:k1u):An TB:= .lp [] k12 (kbv o) fun nx2=>(kv6 o nx2)
noncomputable def k1eh (o:k1u):An TB:= .nd [] .no [] (.nd [] (.nd [] .no [] (k1fx o)) [] .no)
noncomputable def kw8 (o:k1u):An TB:= .nd [] .no [] (k1eh o)
def kig (x:kym) (o:k1u):Prop:=WPh TB k2m 38 0 k5m (kw8 o) (k3f.st TB x) (retTQ TB k2m k3f kl9 o)
theorem k1g9 (o:k1u):OblH TB k2m 38 0 k5m (kw8 o) (retTQ TB k2m k3f kl9 o):=
 OblH.ofC (X:=((∀nx i,(kbv o) nx i=(kbv o) nx i)/\(∀nx2:NX TB k12,((∀nx i,(kc3 o nx2) nx i=(kc3 o nx2) nx i)/\(∀nx1:NX TB k6v,True)/\True))/\True)) (by kernel_rfl) ⟨fun _ _=>rfl,fun _=>⟨fun _ _=>rfl,fun _=>trivial,trivial⟩,trivial⟩
theorem k1ez {x:kym} {o:k1u} (h:kig x o):k3f.Snd Tryz.prog x o:=
 Con.soundH (c:=k3f) (C:=k2m) TBok ⟨inf_ok,(all_cons kbj (all_cons k1d8 (all_cons kp5 (all_cons k1ga (all_cons k1w1 (all_cons k1vp all_nil)))))),all_nil⟩ mix Tryz.func143 (by kernel_rfl) (by kernel_rfl) (by kernel_rfl) rfl h (k1g9 o)
theorem k1h6 {p0:Int} {p1 r0:wAA} (h:
((p0=18446744069414584321)/\((!true)=true->
 0=r0.a0/\0=r0.a1/\0=r0.a2)/\
((!true)=false->
 Md.Loop (p0,(0:Int),p1.a0,p1.a1,p1.a2,(0:Int),(0:Int),(0:Int),()) (kbv (r0.a0,r0.a1,r0.a2,()))))):kig (p0,p1.a0,p1.a1,p1.a2,()) (r0.a0,r0.a1,r0.a2,()):=WPh.of_eq (by kernel_rfl) h
def kvs (r0:wAA) (nx2:NX TB k12) (k2:Int->Int->Int->Int->Prop) (s0 Ai Aj Ak s5 Aa Ab Ac:Int):Prop:=
(decide (s5<8)=true->
 Md.Loop (s0,s5,(0:Int),Aa,Ab,Ac,Ai,Aj,Ak,()) (kc3 (r0.a0,r0.a1,r0.a2,()) nx2))/\
(decide (s5<8)=false->
 Aa=r0.a0/\Ab=r0.a1/\Ac=r0.a2)
theorem k1cp {r0:wAA} {s0 Ai Aj Ak s5 Aa Ab Ac:Int} (inv:Int->Int->Int->Int->Prop) (μ:Int->Int->Int->Int->Nat) (h0:inv s5 Aa Ab Ac) (hs:∀(s5 Aa Ab Ac:Int),inv s5 Aa Ab Ac->kvs r0 (fun((s0q,s5q,Al,Ap,Aq,B0,B2,B3,()):Int×Int×Int×Int×Int×Int×Int×Int×Unit)=>((s0=s0q/\Ai=B0/\Aj=B2/\Ak=B3)/\inv s5q Al Ap Aq)/\μ s5q Al Ap Aq<μ s5 Aa Ab Ac) (fun s5q Al Ap Aq=>inv s5q Al Ap Aq/\μ s5q Al Ap Aq<μ s5 Aa Ab Ac) s0 Ai Aj Ak s5 Aa Ab Ac):Md.Loop (s0,s5,Aa,Ab,Ac,Ai,Aj,Ak,()) (kbv (r0.a0,r0.a1,r0.a2,())):=
 ⟨⟨fun((s0q,s5q,Al,Ap,Aq,B0,B2,B3,()):Int×Int×Int×Int×Int×Int×Int×Int×Unit)=>(s0=s0q/\Ai=B0/\Aj=B2/\Ak=B3)/\inv s5q Al Ap Aq,fun((_,s5q,Al,Ap,Aq,_,_,_,()):Int×Int×Int×Int×Int×Int×Int×Int×Unit)=>μ s5q Al Ap Aq,⟨⟨rfl,rfl,rfl,rfl⟩,h0⟩,fun(s0p,s5p,B7,B9,Ca,Cu,De,Df,()) ⟨eq,hi⟩=>by
  obtain⟨rfl,rfl,rfl,rfl⟩:=eq;exact mpr_of (by kernel_rfl) ((congrArg (fun k=>kvs r0 (fun((s0q,s5q,Al,Ap,Aq,B0,B2,B3,()):Int×Int×Int×Int×Int×Int×Int×Int×Unit)=>((s0=s0q/\Ai=B0/\Aj=B2/\Ak=B3)/\inv s5q Al Ap Aq)/\μ s5q Al Ap Aq<μ s5p B7 B9 Ca) k s0 Ai Aj Ak s5p B7 B9 Ca) (lpk4 (⟨rfl,rfl,rfl,rfl⟩:s0=s0/\Ai=Ai/\Aj=Aj/\Ak=Ak) inv (fun s5q Al Ap Aq=>μ s5q Al Ap Aq<μ s5p B7 B9 Ca))).mpr (hs s5p B7 B9 Ca hi))⟩⟩
def kve (r0:wAA) (nx2:NX TB k12) (k1:Int->Int->Int->Int->Prop) (s0 s5 Ai Aj Ak s6 Aa Ab Ac:Int):Prop:=
(decide (s6<3)=true->
(0<=s6/\s6<(3:Int))/\(0<=s6/\s6<(3:Int))/\(s0=18446744069414584321/\(0<=s5/\s5<8)/\0<=s6/\s6<3)/\(s0=18446744069414584321/\U64 (ix [Aa,Ab,Ac] s6)/\U64 (rc s5 s6))/\let r1:Int:=(((ix [Aa,Ab,Ac] s6)+(rc s5 s6))%18446744069414584321)
(s0=18446744069414584321)/\(s0=18446744069414584321/\U64 r1/\U64 (7:Int))/\(0<=s6/\s6<(3:Int))/\(0<=s6/\s6<(3:Int))/\k1 (IntKind.i64.wrap (s6+1):Int) ((bif decide (s6=(0:Int))then(pw r1 (7:Int))else Aa):Int) ((bif decide (s6=(1:Int))then(pw r1 (7:Int))else Ab):Int) ((bif decide (s6=(2:Int))then(pw r1 (7:Int))else Ac):Int))/\
(decide (s6<3)=false->
(s0=18446744069414584321/\S3 (wAA.mk Aa Ab Ac))/\nx2 (s0,(IntKind.i64.wrap (s5+1):Int),((mixS (wAA.mk Aa Ab Ac)).a0:Int),((mixS (wAA.mk Aa Ab Ac)).a1:Int),((mixS (wAA.mk Aa Ab Ac)).a2:Int),Ai,Aj,Ak,()))
theorem k1gf {r0:wAA} {nx2:NX TB k12} {s0 s5 Ai Aj Ak s6 Aa Ab Ac:Int} (inv:Int->Int->Int->Int->Prop) (μ:Int->Int->Int->Int->Nat) (h0:inv s6 Aa Ab Ac) (hs:∀(s6 Aa Ab Ac:Int),inv s6 Aa Ab Ac->kve r0 nx2 (fun s6q Al Ap Aq=>inv s6q Al Ap Aq/\μ s6q Al Ap Aq<μ s6 Aa Ab Ac) s0 s5 Ai Aj Ak s6 Aa Ab Ac):Md.Loop (s0,s5,s6,Aa,Ab,Ac,Ai,Aj,Ak,()) (kc3 (r0.a0,r0.a1,r0.a2,()) nx2):=
 ⟨⟨fun((s0q,s5q,s6q,Al,Ap,Aq,B0,B2,B3,()):Int×Int×Int×Int×Int×Int×Int×Int×Int×Unit)=>(s0=s0q/\s5=s5q/\Ai=B0/\Aj=B2/\Ak=B3)/\inv s6q Al Ap Aq,fun((_,_,s6q,Al,Ap,Aq,_,_,_,()):Int×Int×Int×Int×Int×Int×Int×Int×Int×Unit)=>μ s6q Al Ap Aq,⟨⟨rfl,rfl,rfl,rfl,rfl⟩,h0⟩,fun(s0p,s5p,s6p,B7,B9,Ca,Cu,De,Df,()) ⟨eq,hi⟩=>by
  obtain⟨rfl,rfl,rfl,rfl,rfl⟩:=eq;exact mpr_of (by kernel_rfl) ((congrArg (fun k=>kve r0 nx2 k s0 s5 Ai Aj Ak s6p B7 B9 Ca) (lpk4 (⟨rfl,rfl,rfl,rfl,rfl⟩:s0=s0/\s5=s5/\Ai=Ai/\Aj=Aj/\Ak=Ak) inv (fun s6q Al Ap Aq=>μ s6q Al Ap Aq<μ s6p B7 B9 Ca))).mpr (hs s6p B7 B9 Ca hi))⟩⟩
theorem bd143:Callable Tryz.prog 143:=⟨by rw[Tryz.func143];kernel_rfl,by rw[Tryz.func143];show some _≠some _;decide⟩
theorem k19v (p0:Int) (p1:wAA) (h:p0=18446744069414584321/\S3 p1):kig (p0,p1.a0,p1.a1,p1.a2,()) (((permS p1).a0:Int),((permS p1).a1:Int),((permS p1).a2:Int),()):=by
 obtain⟨hP,hs⟩:=h
 subst hP
 refine k1h6 ⟨rfl,fun h=>by simp at h,fun _=> ?_⟩
 refine k1cp (r0:=permS p1) (fun n a b c=>0<=n/\n<=8/\(⟨a,b,c⟩:wAA)=rnds n.toNat p1/\S3 ⟨a,b,c⟩) (fun n _ _ _=>(8-n).toNat) ⟨by omega,by omega,rfl,hs⟩ ?_
 rintro n a b c ⟨g0,g1,g2,g3⟩
 refine⟨fun h=> ?_,fun h=> ?_⟩
 ·have h:=of_decide_eq_true h
  refine k1gf (r0:=permS p1) (fun i x y z=>(i=0/\x=a/\y=b/\z=c)∨(i=1/\x=pw ((a+rc n 0)%18446744069414584321) 7/\y=b/\z=c)∨(i=2/\x=pw ((a+rc n 0)%18446744069414584321) 7/\y=pw ((b+rc n 1)%18446744069414584321) 7/\z=c)∨(i=3/\x=pw ((a+rc n 0)%18446744069414584321) 7/\y=pw ((b+rc n 1)%18446744069414584321) 7/\z=pw ((c+rc n 2)%18446744069414584321) 7)) (fun i _ _ _=>(3-i).toNat) (.inl ⟨rfl,rfl,rfl,rfl⟩) ?_
  intro i x y z hi
  have hrc:∀k,U64 (rc n k):=fun k=>by unfold rc;omega
  have hpw:∀k e,0<=pw k e/\pw k e<18446744069414584321:=fun k e=>⟨Int.emod_nonneg _ (by omega),Int.emod_lt_of_pos _ (by omega)⟩
  obtain⟨h3a,h3b,h3c⟩:=g3
  have u7:U64 7:=by decide
  have hm:∀q:Int,U64 (q%18446744069414584321):=fun q=>⟨Int.emod_nonneg _ (by omega),Int.lt_trans (Int.emod_lt_of_pos _ (by omega)) (by omega)⟩
  refine⟨fun hh=> ?_,fun hh=> ?_⟩
  ·have hh:=of_decide_eq_true hh
   rcases hi with⟨rfl,rfl,rfl,rfl⟩|⟨rfl,rfl,rfl,rfl⟩|⟨rfl,rfl,rfl,rfl⟩|⟨rfl,_⟩
   ·exact⟨by omega,by omega,⟨rfl,by omega,by omega⟩,⟨rfl,h3a,hrc _⟩,rfl,⟨rfl,hm _,u7⟩,by omega,by omega,.inr (.inl ⟨rfl,rfl,rfl,rfl⟩),by decide⟩
   ·exact⟨by omega,by omega,⟨rfl,by omega,by omega⟩,⟨rfl,h3b,hrc _⟩,rfl,⟨rfl,hm _,u7⟩,by omega,by omega,.inr (.inr (.inl ⟨rfl,rfl,rfl,rfl⟩)),by decide⟩
   ·exact⟨by omega,by omega,⟨rfl,by omega,by omega⟩,⟨rfl,h3c,hrc _⟩,rfl,⟨rfl,hm _,u7⟩,by omega,by omega,.inr (.inr (.inr ⟨rfl,rfl,rfl,rfl⟩)),by decide⟩
   ·omega
  ·have hh:=of_decide_eq_false hh
   rcases hi with⟨rfl,_⟩|⟨rfl,_⟩|⟨rfl,_⟩|⟨rfl,rfl,rfl,rfl⟩
   ·omega
   ·omega
   ·omega
   ·have e:rnds (n+1).toNat p1=rnd ⟨a,b,c⟩ n:=by
     rw[show(n+1).toNat=n.toNat+1 by omega]
     show rnd (rnds n.toNat p1) (n.toNat:Int)=_
     rw[<-g2,show(n.toNat:Int)=n by omega]
    have hS:S3 (rnds (n+1).toNat p1):=by
     rw[e]
     unfold rnd mixS S3
     dsimp only
     omega
    have hinc:IntKind.i64.wrap (n+1)=n+1:=wi _ (by omega) (by omega)
    rw[hinc]
    refine⟨⟨rfl,by unfold S3;have:=hpw ((a+rc n 0)%18446744069414584321) 7;have:=hpw ((b+rc n 1)%18446744069414584321) 7;have:=hpw ((c+rc n 2)%18446744069414584321) 7;dsimp only;omega⟩,⟨⟨rfl,rfl,rfl,rfl⟩,(?_:0<=n+1/\n+1<=8/\_/\_)⟩,(?_:(8-(n+1)).toNat<(8-n).toNat)⟩
    ·refine⟨by omega,by omega,e.symm,?_⟩
     rw[e]at hS
     exact hS
    ·omega
 ·have h:=of_decide_eq_false h
  rw[show n=8 by omega]at g2
  have g2:(⟨a,b,c⟩:wAA)=permS p1:=g2
  rw[<-g2]
  exact⟨rfl,rfl,rfl⟩
noncomputable def kt0:Con TB.den:=k3f.fnR (fun(a0,a1,a2,a3,())=>(fun(p0:Int) (p1:wAA)=>p0=18446744069414584321/\S3 p1) a0 (wAA.mk a1 a2 a3)) fun(a0,a1,a2,a3,())=>(fun(p0:Int) (p1:wAA)=>(((permS p1).a0:Int),((permS p1).a1:Int),((permS p1).a2:Int),())) a0 (wAA.mk a1 a2 a3)
theorem k1gr:kt0.Ok Tryz.prog TB:=Con.ok_fn k3f bd143 fun(a0,a1,a2,a3,()) h=>k1ez (k19v a0 (wAA.mk a1 a2 a3) h)
def k4d:Con TB.den:=Con.mk0 131 [.one (zqu),.one (zqu),.one (zql)] [] (.one (.agg [zqu,zqu,zqu])) []
abbrev k137:=CI k4d
abbrev k1e:=CO k4d
noncomputable def k2i:Cx TB:=⟨inf,[kud,kha,kt0],[],4,[]⟩
noncomputable def k4u:Code:=Tryz.f131.body.getD .skip
noncomputable def knr:List ResultVar:=Tryz.f131.results.toList
def knu (o:k1e):=qS TB k2i 60 0 (cB (cB (cB k4u))) .no (retTQ TB k2i k4d knr o)
def km:Tm:=⟨[0,1],[.cells [zqu,zqu,zqu],.cells [zqu,zqu,zqu]],[0,2,6,7,8],[.one (zqu),.one (zql),.one (.ptr 0 0),.one (.ptr 1 0),.one (zqi)],2⟩
def k10a (o:k1e) (nx1:NX TB km):=qS TB k2i 60 0 (cB (cB (cA (cA (cB (cA (cB (cB k4u)))))))) .no (qM TB 0 km nx1 (blockT TB 0 (knu o)))
def kby:Tm:=⟨[0,1],[.cells [zqu,zqu,zqu],.cells [zqu,zqu,zqu]],[0,2,6,7,8],[.one (zqu),.one (zql),.one (.ptr 0 0),.one (.ptr 1 0),.one (zqi)],2⟩
def kw9 (o:k1e) (nx1:NX TB km) (i:HL TB.den kby.hs):Prop:=ghs TB [] (kby.fill TB i) fun s=>WP TB k2i 60 0 (cB (cB (cA (cA (cB (cA (cA (cB (cA (cB (cB k4u))))))))))) .no s (blockT TB 1 (k10a o nx1))
structure k8a (o:k1e) (nx1:NX TB km) (i:HL TB.den kby.hs):Prop where
 h:kw9 o nx1 i
def kg1:Tm:=⟨[0,1],[.cells [zqu,zqu,zqu],.cells [zqu,zqu,zqu]],[0,2,6,7,8],[.one (zqu),.one (zql),.one (.ptr 0 0),.one (.ptr 1 0),.one (zqi)],2⟩
def kwl (o:k1e) (nx1:NX TB km) (i:HL TB.den kg1.hs):Prop:=ghs TB [] (kg1.fill TB i) fun s=>WP TB k2i 60 0 (cB (cA (cA (cB (cA (cA (cB (cA (cB (cB k4u)))))))))) (.jn kby (k8a o nx1) [] .no [] .no) s (blockT TB 1 (k10a o nx1))
structure kdc (o:k1e) (nx1:NX TB km) (i:HL TB.den kg1.hs):Prop where
 h:kwl o nx1 i
noncomputable def kyq (o:k1e) (nx1:NX TB km):An TB:= .jn kg1 (kdc o nx1) [] .no [] (.jn kby (k8a o nx1) [] .no [] .no)
def kfo:Tm:=⟨[0,1],[.cells [zqu,zqu,zqu],.cells [zqu,zqu,zqu]],[0,2,6,7,8],[.one (zqu),.one (zql),.one (.ptr 0 0),.one (.ptr 1 0),.one (zqi)],2⟩
def kvq (o:k1e) (nx1:NX TB km) (i:HL TB.den kfo.hs):Prop:=ghs TB [] (kfo.fill TB i) fun s=>WP TB k2i 60 0 (cB (cA (cA (cB (cA (cB (cB k4u))))))) (.nd [] (kyq o nx1) [] .no) s (qM TB 0 km nx1 (blockT TB 0 (knu o)))
structure k9x (o:k1e) (nx1:NX TB km) (i:HL TB.den kfo.hs):Prop where
 h:kvq o nx1 i
noncomputable def kzl (o:k1e) (nx1:NX TB km):An TB:= .jn kfo (k9x o nx1) [] .no [] (.nd [] (kyq o nx1) [] .no)
def kd7 (o:k1e) (nx1:NX TB km) (i:HL TB.den km.hs):Prop:=WP TB k2i 60 0 (cA (cA (cB (cA (cB (cB k4u)))))) (kzl o nx1) (km.fill TB i) (qM TB 0 km nx1 (blockT TB 0 (knu o)))
noncomputable def k1ml (o:k1e):An TB:= .lp [] km (kd7 o) fun nx1=>(kzl o nx1)
noncomputable def k1nj (o:k1e):An TB:= .nd [] .no [] (.nd [] (.nd [] .no [] (k1ml o)) [] .no)
noncomputable def k10e (o:k1e):An TB:= .nd [] .no [] (k1nj o)
def kjm (x:k137) (o:k1e):Prop:=WPh TB k2i 60 0 k4u (k10e o) (k4d.st TB x) (retTQ TB k2i k4d knr o)
theorem k1h1 (o:k1e):OblH TB k2i 60 0 k4u (k10e o) (retTQ TB k2i k4d knr o):=
 OblH.ofC (X:=((∀nx i,(kd7 o) nx i=(kd7 o) nx i)/\(∀nx1:NX TB km,((∀i,(k9x o nx1) i=kvq o nx1 i)/\(∀i,(kdc o nx1) i=kwl o nx1 i)/\(∀i,(k8a o nx1) i=kw9 o nx1 i)/\True))/\True)) (by kernel_rfl) ⟨fun _ _=>rfl,fun _=>⟨fun _=>propext ⟨fun h=>h.1,fun h=>⟨h⟩⟩,fun _=>propext ⟨fun h=>h.1,fun h=>⟨h⟩⟩,fun _=>propext ⟨fun h=>h.1,fun h=>⟨h⟩⟩,trivial⟩,trivial⟩
theorem k1hf {x:k137} {o:k1e} (h:kjm x o):k4d.Snd Tryz.prog x o:=
 Con.soundH (c:=k4d) (C:=k2i) TBok ⟨inf_ok,(all_cons k1fj (all_cons kp5 (all_cons k1gr all_nil))),all_nil⟩ mix Tryz.func131 (by kernel_rfl) (by kernel_rfl) (by kernel_rfl) rfl h (k1h1 o)
theorem k1ny {p0 p1:Int} {p2:List Int} {r0:wAA} (h:
((p0=18446744069414584321/\U64 p1/\U64 (65536:Int))/\let r1:Int:=(p1*(65536:Int)%18446744069414584321)
(p0=18446744069414584321/\U64 r1/\U64 (IntKind.u64.wrap (p2.length:Int)))/\let r2:Int:=((r1+(IntKind.u64.wrap (p2.length:Int)))%18446744069414584321)
 Md.Loop (p0,p2,(0:Int),(0:Int),(0:Int),(0:Int),(0:Int),(0:Int),r2,()) (kd7 (r0.a0,r0.a1,r0.a2,())))):kjm (p0,p1,p2,()) (r0.a0,r0.a1,r0.a2,()):=WPh.of_eq (by kernel_rfl) h
theorem k18m {r0:wAA} {nx1:NX TB km} {s0:Int} {s2:List Int} {s8 Aa Ab Ac Ai Aj Ak:Int} (h:
((decide (s8<(s2.length:Int))=true->
(0<=s8)/\s8<(s2.length:Int)/\(s0=18446744069414584321/\U64 Ai/\U64 (ix s2 s8))/\let r3:Int:=((Ai+(ix s2 s8))%18446744069414584321)
 kdc (r0.a0,r0.a1,r0.a2,()) nx1 (s0,s2,s8,Aa,Ab,Ac,r3,Aj,Ak,()))/\
(decide (s8<(s2.length:Int))=false->
 kdc (r0.a0,r0.a1,r0.a2,()) nx1 (s0,s2,s8,Aa,Ab,Ac,Ai,Aj,Ak,())))):k9x (r0.a0,r0.a1,r0.a2,()) nx1 (s0,s2,s8,Aa,Ab,Ac,Ai,Aj,Ak,()):=⟨mpr_of (by kernel_rfl) h⟩
theorem kpt {r0:wAA} {nx1:NX TB km} {s0:Int} {s2:List Int} {s8 Aa Ab Ac Ai Aj Ak:Int} (h:
(let v4:Bool:=decide ((IntKind.i64.wrap (s8+1))<(s2.length:Int))
(v4=true->
(0<=IntKind.i64.wrap (s8+1))/\IntKind.i64.wrap (s8+1)<(s2.length:Int)/\(s0=18446744069414584321/\U64 Aj/\U64 (ix s2 (IntKind.i64.wrap (s8+1))))/\let r5:Int:=((Aj+(ix s2 (IntKind.i64.wrap (s8+1))))%18446744069414584321)
 k8a (r0.a0,r0.a1,r0.a2,()) nx1 (s0,s2,s8,Aa,Ab,Ac,Ai,r5,Ak,()))/\
(v4=false->
 k8a (r0.a0,r0.a1,r0.a2,()) nx1 (s0,s2,s8,Aa,Ab,Ac,Ai,Aj,Ak,())))):kdc (r0.a0,r0.a1,r0.a2,()) nx1 (s0,s2,s8,Aa,Ab,Ac,Ai,Aj,Ak,()):=⟨mpr_of (by kernel_rfl) h⟩
theorem k19j {r0:wAA} {nx1:NX TB km} {s0:Int} {s2:List Int} {s8 Aa Ab Ac Ai Aj Ak:Int} (h:
((s0=18446744069414584321/\S3 (wAA.mk Ai Aj Ak))/\nx1 (s0,s2,(IntKind.i64.wrap (s8+2):Int),Aa,Ab,Ac,((permS (wAA.mk Ai Aj Ak)).a0:Int),((permS (wAA.mk Ai Aj Ak)).a1:Int),((permS (wAA.mk Ai Aj Ak)).a2:Int),()))):k8a (r0.a0,r0.a1,r0.a2,()) nx1 (s0,s2,s8,Aa,Ab,Ac,Ai,Aj,Ak,()):=⟨mpr_of (by kernel_rfl) h⟩
def kzb (r0:wAA) (nx1:NX TB km) (k1:Int->Int->Int->Int->Prop) (s0:Int) (s2:List Int) (Aa Ab Ac s8 Ai Aj Ak:Int):Prop:=
((s8==0)=true->
 k9x (r0.a0,r0.a1,r0.a2,()) nx1 (s0,s2,s8,Aa,Ab,Ac,Ai,Aj,Ak,()))/\
((s8==0)=false->
(decide (s8<(s2.length:Int))=true->
 k9x (r0.a0,r0.a1,r0.a2,()) nx1 (s0,s2,s8,Aa,Ab,Ac,Ai,Aj,Ak,()))/\
(decide (s8<(s2.length:Int))=false->
 Ai=r0.a0/\Aj=r0.a1/\Ak=r0.a2))
theorem k1js {r0:wAA} {s0:Int} {s2:List Int} {Aa Ab Ac s8 Ai Aj Ak:Int} (inv:Int->Int->Int->Int->Prop) (μ:Int->Int->Int->Int->Nat) (h0:inv s8 Ai Aj Ak) (hs:∀(s8 Ai Aj Ak:Int),inv s8 Ai Aj Ak->kzb r0 (fun((s0q,s2q,s8q,Al,Ap,Aq,B0,B2,B3,()):Int×(List Int)×Int×Int×Int×Int×Int×Int×Int×Unit)=>((s0=s0q/\s2=s2q/\Aa=Al/\Ab=Ap/\Ac=Aq)/\inv s8q B0 B2 B3)/\μ s8q B0 B2 B3<μ s8 Ai Aj Ak) (fun s8q B0 B2 B3=>inv s8q B0 B2 B3/\μ s8q B0 B2 B3<μ s8 Ai Aj Ak) s0 s2 Aa Ab Ac s8 Ai Aj Ak):Md.Loop (s0,s2,s8,Aa,Ab,Ac,Ai,Aj,Ak,()) (kd7 (r0.a0,r0.a1,r0.a2,())):=
 ⟨⟨fun((s0q,s2q,s8q,Al,Ap,Aq,B0,B2,B3,()):Int×(List Int)×Int×Int×Int×Int×Int×Int×Int×Unit)=>(s0=s0q/\s2=s2q/\Aa=Al/\Ab=Ap/\Ac=Aq)/\inv s8q B0 B2 B3,fun((_,_,s8q,_,_,_,B0,B2,B3,()):Int×(List Int)×Int×Int×Int×Int×Int×Int×Int×Unit)=>μ s8q B0 B2 B3,⟨⟨rfl,rfl,rfl,rfl,rfl⟩,h0⟩,fun(s0p,s2p,s8p,B7,B9,Ca,Cu,De,Df,()) ⟨eq,hi⟩=>by
  obtain⟨rfl,rfl,rfl,rfl,rfl⟩:=eq;exact mpr_of (by kernel_rfl) ((congrArg (fun k=>kzb r0 (fun((s0q,s2q,s8q,Al,Ap,Aq,B0,B2,B3,()):Int×(List Int)×Int×Int×Int×Int×Int×Int×Int×Unit)=>((s0=s0q/\s2=s2q/\Aa=Al/\Ab=Ap/\Ac=Aq)/\inv s8q B0 B2 B3)/\μ s8q B0 B2 B3<μ s8p Cu De Df) k s0 s2 Aa Ab Ac s8p Cu De Df) (lpk4 (⟨rfl,rfl,rfl,rfl,rfl⟩:s0=s0/\s2=s2/\Aa=Aa/\Ab=Ab/\Ac=Ac) inv (fun s8q B0 B2 B3=>μ s8q B0 B2 B3<μ s8p Cu De Df))).mpr (hs s8p Cu De Df hi))⟩⟩
theorem bd131:Callable Tryz.prog 131:=⟨by rw[Tryz.func131];kernel_rfl,by rw[Tryz.func131];show some _≠some _;decide⟩
theorem k1fd (p0 p1:Int) (p2:List Int) (h:p0=18446744069414584321/\U64 p1/\Us p2/\p2.length<=1099511627776):kjm (p0,p1,p2,()) (((absS p1 p2).a0:Int),((absS p1 p2).a1:Int),((absS p1 p2).a2:Int),()):=by
 obtain⟨hP,h1,h2,h3⟩:=h
 subst hP
 have hp:=kdl
 have hi:S3 (absI p1 p2):=by unfold absI S3;dsimp only;omega
 have e:IntKind.u64.wrap (p2.length:Int)=p2.length:=wu _ (by omega) (by omega)
 have em:(p1*65536%18446744069414584321+(p2.length:Int))%18446744069414584321=(absI p1 p2).a2:=rfl
 refine k1ny ?_
 rw[e]
 refine⟨⟨rfl,h1,by omega⟩,⟨rfl,by omega,by omega⟩,?_⟩
 rw[em]
 have j3:∀nx (i x y z:Int),0<=i->i<=p2.length->S3 ⟨x,y,z⟩->nx ((18446744069414584321:Int),p2,(i+2:Int),(0:Int),(0:Int),(0:Int),(permS ⟨x,y,z⟩).a0,(permS ⟨x,y,z⟩).a1,(permS ⟨x,y,z⟩).a2,())->k8a ((absS p1 p2).a0,(absS p1 p2).a1,(absS p1 p2).a2,()) nx ((18446744069414584321:Int),p2,i,(0:Int),(0:Int),(0:Int),x,y,z,()):=by
  intro nx i x y z g0 g1 hS hn
  refine k19j (r0:=absS p1 p2) ?_
  rw[wi (i+2) (by omega) (by omega)]
  exact⟨⟨rfl,hS⟩,hn⟩
 refine k1js (r0:=absS p1 p2) (fun i a b c=>(i=0/\a=0/\b=0/\c=(absI p1 p2).a2)∨(0<i/\i<=p2.length+2/\absL (p2.drop i.toNat) ⟨a,b,c⟩=absS p1 p2/\S3 ⟨a,b,c⟩)) (fun i _ _ _=>(p2.length+4-i).toNat) (.inl ⟨rfl,rfl,rfl,rfl⟩) ?_
 intro i a b c hg
 have body:∀(i a b c:Int),0<=i->i<=p2.length->(i<p2.length->absL (p2.drop i.toNat) ⟨a,b,c⟩=absS p1 p2)->(¬i<p2.length->permS ⟨a,b,c⟩=absS p1 p2)->S3 ⟨a,b,c⟩->∀nx,(∀x y z,absL (p2.drop (i+2).toNat) ⟨x,y,z⟩=absS p1 p2->S3 ⟨x,y,z⟩->nx ((18446744069414584321:Int),p2,(i+2:Int),(0:Int),(0:Int),(0:Int),x,y,z,()))->
   k9x ((absS p1 p2).a0,(absS p1 p2).a1,(absS p1 p2).a2,()) nx ((18446744069414584321:Int),p2,i,(0:Int),(0:Int),(0:Int),a,b,c,()):=by
  intro i a b c g0 g1 hne hnil hS nx hn
  obtain⟨h3a,h3b,h3c⟩:=hS
  refine k18m (r0:=absS p1 p2) ⟨fun hh=> ?_,fun hh=> ?_⟩
  ·have hh:=of_decide_eq_true hh
   have hx:=h2 _ (ix_mem p2 i g0 hh)
   have g2:=hne hh
   rw[drop_ix p2 i g0 hh]at g2
   refine⟨g0,hh,⟨rfl,h3a,hx⟩,kpt (r0:=absS p1 p2) ?_⟩
   rw[wi (i+1) (by omega) (by omega)]
   refine⟨fun h5=> ?_,fun h5=> ?_⟩
   ·have h5:=of_decide_eq_true h5
    have hy:=h2 _ (ix_mem p2 (i+1) (by omega) h5)
    rw[drop_ix p2 (i+1) (by omega) h5,show i+1+1=i+2 by omega]at g2
    exact⟨by omega,h5,⟨rfl,h3b,hy⟩,j3 _ _ _ _ _ g0 g1 (S3m (by omega) (by omega) h3c) (hn _ _ _ g2 (hp _))⟩
   ·have h5:=of_decide_eq_false h5
    have ed:p2.drop (i+1).toNat=[]:=List.drop_eq_nil_of_le (by omega)
    have ed2:p2.drop (i+2).toNat=[]:=List.drop_eq_nil_of_le (by omega)
    rw[ed]at g2
    exact j3 _ _ _ _ _ g0 g1 (S3m (by omega) h3b h3c) (hn _ _ _ (by rw[ed2];exact g2) (hp _))
  ·have hh:=of_decide_eq_false hh
   refine kpt (r0:=absS p1 p2) ?_
   rw[wi (i+1) (by omega) (by omega)]
   refine⟨fun h5=> ?_,fun h5=> ?_⟩
   ·have h5:=of_decide_eq_true h5
    omega
   ·have ed2:p2.drop (i+2).toNat=[]:=List.drop_eq_nil_of_le (by omega)
    exact j3 _ _ _ _ _ g0 g1 (S3m h3a h3b h3c) (hn _ _ _ (by rw[ed2];exact hnil hh) (hp _))
 refine⟨fun h0=> ?_,fun h0=>⟨fun hh=> ?_,fun hh=> ?_⟩⟩
 ·have h0:i=0:=by simpa using h0
  rcases hg with⟨_,rfl,rfl,rfl⟩|⟨hp0,_⟩
  ·subst h0
   refine body 0 _ _ _ (by omega) (by omega) (fun hl=> ?_) (fun hl=> ?_) hi _ fun x y z k1 k2=>⟨⟨⟨rfl,rfl,rfl,rfl,rfl⟩,.inr ⟨(by omega:(0:Int)<0+2),(by omega:(0:Int)+2<=p2.length+2),k1,k2⟩⟩,(by omega:(p2.length+4-((0:Int)+2)).toNat<(p2.length+4-0:Int).toNat)⟩
   ·have hne:p2≠[]:=by rintro rfl;simp at hl
    unfold absS
    rw[if_neg hne]
    rfl
   ·have hnil:p2=[]:=List.eq_nil_of_length_eq_zero (by omega)
    unfold absS
    rw[if_pos hnil]
    rfl
  ·omega
 ·have h0:¬i=0:=by simpa using h0
  have hh:=of_decide_eq_true hh
  rcases hg with⟨h1,_⟩|⟨g0,g1,g2,g3⟩
  ·omega
  ·exact body i _ _ _ (by omega) (by omega) (fun _=>g2) (fun hl=>absurd hh hl) g3 _ fun x y z k1 k2=>⟨⟨⟨rfl,rfl,rfl,rfl,rfl⟩,.inr ⟨(by omega:0<i+2),(by omega:i+2<=p2.length+2),k1,k2⟩⟩,(by omega:(p2.length+4-(i+2)).toNat<(p2.length+4-i).toNat)⟩
 ·have h0:¬i=0:=by simpa using h0
  have hh:=of_decide_eq_false hh
  rcases hg with⟨h1,_⟩|⟨g0,g1,g2,g3⟩
  ·omega
  ·rw[List.drop_eq_nil_of_le (by omega)]at g2
   have hv:(⟨a,b,c⟩:wAA)=absS p1 p2:=g2
   rw[<-hv]
   exact⟨rfl,rfl,rfl⟩
noncomputable def kvc:Con TB.den:=k4d.fnR (fun x=>(fun(p0 p1:Int) (p2:List Int)=>p0=18446744069414584321/\U64 p1/\Us p2/\p2.length<=1099511627776) x.1 x.2.1 x.2.2.1) fun x=>(fun(p0 p1:Int) (p2:List Int)=>(((absS p1 p2).a0:Int),((absS p1 p2).a1:Int),((absS p1 p2).a2:Int),())) x.1 x.2.1 x.2.2.1
theorem k1me:kvc.Ok Tryz.prog TB:=Con.ok_fn k4d bd131 fun x h=>k1hf (k1fd x.1 x.2.1 x.2.2.1 h)
def k8x:Con TB.den:=Con.mk0 121 [.one (zqu),.one (zqu),.one (zql)] [] (.one (.one (zqu))) []
abbrev k1gg:=CI k8x
abbrev kyd:=CO k8x
noncomputable def kuf:Cx TB:=⟨inf,[k8f,kvc],[],4,[]⟩
noncomputable def k1nf:Code:=Tryz.f121.body.getD .skip
noncomputable def k1uo:List ResultVar:=Tryz.f121.results.toList
noncomputable def k1tu (o:kyd):An TB:= .no
def knt (x:k1gg) (o:kyd):Prop:=WPh TB kuf 15 0 k1nf (k1tu o) (k8x.st TB x) (retTQ TB kuf k8x k1uo o)
theorem k1sx {x:k1gg} {o:kyd} (h:knt x o):k8x.Snd Tryz.prog x o:=
 Con.soundH (c:=k8x) (C:=kuf) TBok ⟨inf_ok,(all_cons kbj (all_cons k1me all_nil)),all_nil⟩ mix Tryz.func121 (by kernel_rfl) (by kernel_rfl) (by kernel_rfl) rfl h (OblH.ofC (X:=True) (by kernel_rfl) trivial)
theorem k1uv {p0 p1:Int} {p2:List Int} {r0:Int} (h:
((p0=18446744069414584321)/\((!true)=true->
 0=r0)/\
((!true)=false->
(p0=18446744069414584321/\U64 p1/\Us p2/\p2.length<=1099511627776)/\(absS p1 p2).a0=r0))):knt (p0,p1,p2,()) (r0,()):=WPh.of_eq (by kernel_rfl) h
theorem bd121:Callable Tryz.prog 121:=⟨by rw[Tryz.func121];kernel_rfl,by rw[Tryz.func121];show some _≠some _;decide⟩
theorem k1ll (p0 p1:Int) (p2:List Int) (h:p0=18446744069414584321/\U64 p1/\Us p2/\p2.length<=1099511627776):knt (p0,p1,p2,()) (((hashS p1 p2):Int),()):=by
 obtain⟨hP,h1,h2,h3⟩:=h
 subst hP
 exact k1uv ⟨rfl,fun h=>by simp at h,fun _=>⟨⟨rfl,h1,h2,h3⟩,rfl⟩⟩
noncomputable def kr9:Con TB.den:=k8x.fnR (fun x=>(fun(p0 p1:Int) (p2:List Int)=>p0=18446744069414584321/\U64 p1/\Us p2/\p2.length<=1099511627776) x.1 x.2.1 x.2.2.1) fun x=>(fun(p0 p1:Int) (p2:List Int)=>(((hashS p1 p2):Int),())) x.1 x.2.1 x.2.2.1
theorem k17b:kr9.Ok Tryz.prog TB:=Con.ok_fn k8x bd121 fun x h=>k1sx (k1ll x.1 x.2.1 x.2.2.1 h)
def k8y:Con TB.den:=Con.mk0 101 [.one (zqu),.one (zqu)] [] (.one (.one (zqu))) []
abbrev k1db:=CI k8y
abbrev kxz:=CO k8y
noncomputable def ktt:Cx TB:=⟨inf,[kr9],[],4,[]⟩
noncomputable def k1lw:Code:=Tryz.f101.body.getD .skip
noncomputable def k1tg:List ResultVar:=Tryz.f101.results.toList
noncomputable def k1ud (o:kxz):An TB:= .no
def kns (x:k1db) (o:kxz):Prop:=WPh TB ktt 9 0 k1lw (k1ud o) (k8y.st TB x) (retTQ TB ktt k8y k1tg o)
theorem k1s2 {x:k1db} {o:kxz} (h:kns x o):k8y.Snd Tryz.prog x o:=
 Con.soundH (c:=k8y) (C:=ktt) TBok ⟨inf_ok,(all_cons k17b all_nil),all_nil⟩ mix Tryz.func101 (by kernel_rfl) (by kernel_rfl) (by kernel_rfl) rfl h (OblH.ofC (X:=True) (by kernel_rfl) trivial)
theorem k1um {p0 p1 r0:Int} (h:
(((18446744069414584321:Int)=18446744069414584321/\U64 (6:Int)/\Us [p0,p1]/\[p0,p1].length<=1099511627776)/\(hashS (6:Int) [p0,p1])=r0)):kns (p0,p1,()) (r0,()):=WPh.of_eq (by kernel_rfl) h
theorem bd101:Callable Tryz.prog 101:=⟨by rw[Tryz.func101];kernel_rfl,by rw[Tryz.func101];show some _≠some _;decide⟩
theorem k1nq (p0 p1:Int) (h:U64 p0/\U64 p1):kns (p0,p1,()) (((nd p0 p1):Int),()):=by
 exact k1um ⟨⟨rfl,by decide,(by intro x hx;rcases List.mem_cons.1 hx with rfl|hx;exact h.1;rw[List.mem_singleton.1 hx];exact h.2),by simp⟩,rfl⟩
noncomputable def kro:Con TB.den:=k8y.fnR (fun x=>(fun(p0 p1:Int)=>U64 p0/\U64 p1) x.1 x.2.1) fun x=>(fun(p0 p1:Int)=>(((nd p0 p1):Int),())) x.1 x.2.1
theorem k183:kro.Ok Tryz.prog TB:=Con.ok_fn k8y bd101 fun x h=>k1s2 (k1nq x.1 x.2.1 h)
def k56:Con TB.den:=Con.mk0 85 [.one (zql)] [] (.one (.one (zql))) []
abbrev k189:=CI k56
abbrev k8t:=CO k56
noncomputable def k7j:Cx TB:=⟨inf,[kro],[],4,[23,24]⟩
noncomputable def kfl:Code:=Tryz.f85.body.getD .skip
noncomputable def kqs:List ResultVar:=Tryz.f85.results.toList
def k1om (o:k8t):=qS TB k7j 26 0 (cB (cB (cB kfl))) (.nd [] .no [] (.rt [.frz 0 [2]])) (retTQ TB k7j k56 kqs o)
def kbo:Tm:=⟨[0],[.vec yqu],[0,3,4],[.one (zql),.one (.row 0),.one (zqi)],1⟩
def kev (o:k8t) (nx1:NX TB kbo) (i:HL TB.den kbo.hs):Prop:=WP TB k7j 26 0 (cA (cA (cB (cA (cB (cB kfl)))))) .no (kbo.fill TB i) (qM TB 0 kbo nx1 (blockT TB 0 (k1om o)))
noncomputable def k1p6 (o:k8t):An TB:= .lp [.rnil 3 yqu] kbo (kev o) fun nx1=> .no
noncomputable def k1pv (o:k8t):An TB:= .nd [] (.nd [] .no [] (k1p6 o)) [] (.nd [] .no [] (.rt [.frz 0 [2]]))
noncomputable def k13c (o:k8t):An TB:= .nd [] .no [] (.nd [] .no [] (k1pv o))
def klx (x:k189) (o:k8t):Prop:=WPh TB k7j 26 0 kfl (k13c o) (k56.st TB x) (retTQ TB k7j k56 kqs o)
theorem k1lk (o:k8t):OblH TB k7j 26 0 kfl (k13c o) (retTQ TB k7j k56 kqs o):=
 OblH.ofC (X:=((∀nx i,(kev o) nx i=(kev o) nx i)/\(∀nx1:NX TB kbo,True)/\True)) (by kernel_rfl) ⟨fun _ _=>rfl,fun _=>trivial,trivial⟩
theorem k1lj {x:k189} {o:k8t} (h:klx x o):k56.Snd Tryz.prog x o:=
 Con.soundH (c:=k56) (C:=k7j) TBok ⟨inf_ok,(all_cons k183 all_nil),all_nil⟩ mix Tryz.func85 (by kernel_rfl) (by kernel_rfl) (by kernel_rfl) rfl h (k1lk o)
theorem k1r2 {p0 r0:List Int} (h:
((0=([]:List Int).length)/\Md.Loop (p0,(0:Int),(([]:List Int):List Int),()) (kev (r0,())))):klx (p0,()) (r0,()):=WPh.of_eq (by kernel_rfl) h
def k14r (r0:List Int) (k1:Int->List Int->Prop) (s0:List Int) (s4:Int) (g0:List Int):Prop:=
 let v1:Bool:=decide ((IntKind.i64.wrap (s4+1))<(s0.length:Int))
(v1=true->
(0<=s4)/\s4<(s0.length:Int)/\(0<=IntKind.i64.wrap (s4+1))/\IntKind.i64.wrap (s4+1)<(s0.length:Int)/\(U64 (ix s0 s4)/\U64 (ix s0 (IntKind.i64.wrap (s4+1))))/\let r2:Int:=(nd (ix s0 s4) (ix s0 (IntKind.i64.wrap (s4+1))))
 g0.length=g0.length/\[r2].length=[r2].length/\(g0.length+[r2].length)*8<=140737488355328/\g0.length+[r2].length<=maxLen/\((g0++[r2]).length=(g0++[r2]).length)/\k1 (IntKind.i64.wrap (s4+2):Int) (g0++[r2]:List Int))/\
(v1=false->
(g0.length=g0.length)/\g0=r0)
theorem k1np {r0 s0:List Int} {s4:Int} {g0:List Int} (inv:Int->List Int->Prop) (μ:Int->List Int->Nat) (h0:inv s4 g0) (hs:∀(s4:Int) (g0:List Int),inv s4 g0->k14r r0 (fun s4q g0q=>inv s4q g0q/\μ s4q g0q<μ s4 g0) s0 s4 g0):Md.Loop (s0,s4,g0,()) (kev (r0,())):=
 ⟨⟨fun((s0q,s4q,g0q,()):(List Int)×Int×(List Int)×Unit)=>(s0=s0q)/\inv s4q g0q,fun((_,s4q,g0q,()):(List Int)×Int×(List Int)×Unit)=>μ s4q g0q,⟨rfl,h0⟩,fun(s0p,s4p,g0p,()) ⟨eq,hi⟩=>by
  obtain rfl:=eq;exact mpr_of (by kernel_rfl) ((congrArg (fun k=>k14r r0 k s0 s4p g0p) (lpk2 (rfl:s0=s0) inv (fun s4q g0q=>μ s4q g0q<μ s4p g0p))).mpr (hs s4p g0p hi))⟩⟩
theorem bd85:Callable Tryz.prog 85:=⟨by rw[Tryz.func85];kernel_rfl,by rw[Tryz.func85];show some _≠some _;decide⟩
theorem k1ia (p0:List Int) (h:(∀x∈p0,0<=x/\x<18446744069414584321)/\p0.length<=100000):klx (p0,()) (((pairs p0):List Int),()):=by
 obtain⟨hu,hl⟩:=h
 refine k1r2 ⟨rfl,k1np (fun a g=>∃j:Nat,a=(j:Int)/\j<=p0.length/\g.length<=j/\g++pairs (p0.drop j)=pairs p0) (fun a _=>(p0.length-a).toNat) ⟨0,rfl,by omega,by simp,by simp⟩ ?_⟩
 rintro _ g ⟨j,rfl,hj,hg,he⟩
 have ei:=inc_i64 j (by omega)
 refine⟨fun e=> ?_,fun e=> ?_⟩
 ·have e:=of_decide_eq_true e
  rw[ei]at e ⊢
  have e:j+1<p0.length:=by omega
  have e0:j<p0.length:=by omega
  have u1:=hu _ (List.getElem_mem e0)
  have u2:=hu _ (List.getElem_mem e)
  rw[ix_get _ _ e0,ix_get _ _ e]
  rw[k1v5 e]at he
  rw[show IntKind.i64.wrap ((j:Int)+2)=((j+2:Nat):Int)by rw[k1i _ (by omega) (by omega)];omega]
  refine⟨by omega,by omega,by omega,by omega,⟨⟨u1.1,by omega⟩,u2.1,by omega⟩,rfl,rfl,?_,?_,rfl,⟨j+2,rfl,by omega,?_,?_⟩,by omega⟩
  ·simp only[List.length_cons,List.length_nil];omega
  ·simp only[List.length_cons,List.length_nil];unfold maxLen;omega
  ·simp only[List.length_append,List.length_cons,List.length_nil];omega
  ·rw[List.append_assoc];exact he
 ·have e:=of_decide_eq_false e
  rw[ei]at e
  rw[k1ti (by rw[List.length_drop];omega),List.append_nil]at he
  exact⟨rfl,he⟩
noncomputable def kzc:Con TB.den:=k56.fnR (fun x=>(fun(p0:List Int)=>(∀x∈p0,0<=x/\x<18446744069414584321)/\p0.length<=100000) x.1) fun x=>(fun(p0:List Int)=>(((pairs p0):List Int),())) x.1
theorem k1qw:kzc.Ok Tryz.prog TB:=Con.ok_fn k56 bd85 fun x h=>k1lj (k1ia x.1 h)
def k5d:Con TB.den:=Con.mk0 100 [.one (zqi)] [] (.one (.one (zqu))) []
abbrev k17q:=CI k5d
abbrev k8r:=CO k5d
noncomputable def k7a:Cx TB:=⟨inf,[kr9,kro],[],4,[]⟩
noncomputable def kfy:Code:=Tryz.f100.body.getD .skip
noncomputable def krd:List ResultVar:=Tryz.f100.results.toList
def k1ri (o:k8r):=qS TB k7a 21 0 (cB (cB (cB (cB kfy)))) .no (retTQ TB k7a k5d krd o)
def kca:Tm:=⟨[],[],[0,3,4],[.one (zqi),.one (zqu),.one (zqi)],0⟩
def kfd (o:k8r) (nx1:NX TB kca) (i:HL TB.den kca.hs):Prop:=WP TB k7a 21 0 (cA (cA (cB (cA (cB (cB (cB kfy))))))) .no (kca.fill TB i) (qM TB 0 kca nx1 (blockT TB 0 (k1ri o)))
noncomputable def k1pu (o:k8r):An TB:= .nd [] .no [] (.lp [] kca (kfd o) fun nx1=> .no)
noncomputable def k1ov (o:k8r):An TB:= .nd [] .no [] (.nd [] .no [] (.nd [] (k1pu o) [] .no))
noncomputable def k130 (o:k8r):An TB:= .nd [] .no [] (k1ov o)
def klr (x:k17q) (o:k8r):Prop:=WPh TB k7a 21 0 kfy (k130 o) (k5d.st TB x) (retTQ TB k7a k5d krd o)
theorem k1ms (o:k8r):OblH TB k7a 21 0 kfy (k130 o) (retTQ TB k7a k5d krd o):=
 OblH.ofC (X:=((∀nx i,(kfd o) nx i=(kfd o) nx i)/\(∀nx1:NX TB kca,True)/\True)) (by kernel_rfl) ⟨fun _ _=>rfl,fun _=>trivial,trivial⟩
theorem k1n6 {x:k17q} {o:k8r} (h:klr x o):k5d.Snd Tryz.prog x o:=
 Con.soundH (c:=k5d) (C:=k7a) TBok ⟨inf_ok,(all_cons k17b (all_cons k183 all_nil)),all_nil⟩ mix Tryz.func100 (by kernel_rfl) (by kernel_rfl) (by kernel_rfl) rfl h (k1ms o)
theorem k1rd {p0 r0:Int} (h:
((decide (p0<0)=true->
 0=r0)/\
(decide (p0<0)=false->
(decide (12<p0)=true->
 0=r0)/\
(decide (12<p0)=false->
((18446744069414584321:Int)=18446744069414584321/\U64 (6:Int)/\Us ([]:List Int)/\([]:List Int).length<=1099511627776)/\Md.Loop (p0,((hashS (6:Int) ([]:List Int)):Int),(0:Int),()) (kfd (r0,())))))):klr (p0,()) (r0,()):=WPh.of_eq (by kernel_rfl) h
def k13u (r0:Int) (k1:Int->Int->Prop) (s0 s3 s4:Int):Prop:=
(decide (s4<s0)=true->
(U64 s3/\U64 s3)/\k1 ((nd s3 s3):Int) (IntKind.i64.wrap (s4+1):Int))/\
(decide (s4<s0)=false->
 s3=r0)
theorem k1lm {r0 s0 s3 s4:Int} (inv:Int->Int->Prop) (μ:Int->Int->Nat) (h0:inv s3 s4) (hs:∀(s3 s4:Int),inv s3 s4->k13u r0 (fun s3q s4q=>inv s3q s4q/\μ s3q s4q<μ s3 s4) s0 s3 s4):Md.Loop (s0,s3,s4,()) (kfd (r0,())):=
 ⟨⟨fun((s0q,s3q,s4q,()):Int×Int×Int×Unit)=>(s0=s0q)/\inv s3q s4q,fun((_,s3q,s4q,()):Int×Int×Int×Unit)=>μ s3q s4q,⟨rfl,h0⟩,fun(s0p,s3p,s4p,()) ⟨eq,hi⟩=>by
  obtain rfl:=eq;exact mpr_of (by kernel_rfl) ((congrArg (fun k=>k13u r0 k s0 s3p s4p) (lpk2 (rfl:s0=s0) inv (fun s3q s4q=>μ s3q s4q<μ s3p s4p))).mpr (hs s3p s4p hi))⟩⟩
theorem bd100:Callable Tryz.prog 100:=⟨by rw[Tryz.func100];kernel_rfl,by rw[Tryz.func100];show some _≠some _;decide⟩
theorem k1in (p0:Int) (h:0<=p0/\p0<=12):klr (p0,()) (((emp p0.toNat):Int),()):=by
 refine k1rd ⟨fun e=>(by have:=of_decide_eq_true e;omega),fun _=>⟨fun e=>(by have:=of_decide_eq_true e;omega),fun _=>⟨⟨rfl,by decide,(by intro x hx;cases hx),by decide⟩,?_⟩⟩⟩
 refine k1lm (fun x a=>∃i:Nat,a=(i:Int)/\(i:Int)<=p0/\x=emp i) (fun _ a=>(p0-a).toNat) ⟨0,rfl,by omega,rfl⟩ ?_
 rintro _ _ ⟨i,rfl,hi,rfl⟩
 refine⟨fun e=> ?_,fun e=> ?_⟩
 ·have e:=of_decide_eq_true e
  rw[inc_i64 _ (by omega)]
  exact⟨⟨emp_u i,emp_u i⟩,⟨i+1,rfl,by omega,rfl⟩,by omega⟩
 ·have e:=of_decide_eq_false e
  have:p0.toNat=i:=by omega
  rw[this]
noncomputable def kyr:Con TB.den:=k5d.fnR (fun x=>(fun(p0:Int)=>0<=p0/\p0<=12) x.1) fun x=>(fun(p0:Int)=>(((emp p0.toNat):Int),())) x.1
theorem k1os:kyr.Ok Tryz.prog TB:=Con.ok_fn k5d bd100 fun x h=>k1n6 (k1in x.1 h)
def k4b:Con TB.den:=Con.mk0 84 [.one (zqi),.one (zql)] [] (.one (.one (zql))) []
abbrev k127:=CI k4b
abbrev k9d:=CO k4b
noncomputable def k6l:Cx TB:=⟨inf,[kyr],[],4,[]⟩
noncomputable def ke0:Code:=Tryz.f84.body.getD .skip
noncomputable def knl:List ResultVar:=Tryz.f84.results.toList
def k1l7 (o:k9d):=qS TB k6l 19 0 (cB (cB (cB ke0))) .no (retTQ TB k6l k4b knl o)
def k9y:Tm:=⟨[1],[.tip yqu],[0,5],[.one (zqi),.one (.own 0)],2⟩
def kd8 (o:k9d) (nx1:NX TB k9y) (i:HL TB.den k9y.hs):Prop:=WP TB k6l 19 0 (cA (cA (cA (cB (cB ke0))))) .no (k9y.fill TB i) (qM TB 0 k9y nx1 (blockT TB 0 (k1l7 o)))
noncomputable def k1n9 (o:k9d):An TB:= .nd [] (.lp [] k9y (kd8 o) fun nx1=> .no) [] .no
noncomputable def kz6 (o:k9d):An TB:= .nd [] .no [] (.nd [] .no [] (k1n9 o))
def kjj (x:k127) (o:k9d):Prop:=WPh TB k6l 19 0 ke0 (kz6 o) (k4b.st TB x) (retTQ TB k6l k4b knl o)
theorem k1h7 (o:k9d):OblH TB k6l 19 0 ke0 (kz6 o) (retTQ TB k6l k4b knl o):=
 OblH.ofC (X:=((∀nx i,(kd8 o) nx i=(kd8 o) nx i)/\(∀nx1:NX TB k9y,True)/\True)) (by kernel_rfl) ⟨fun _ _=>rfl,fun _=>trivial,trivial⟩
theorem k1gp {x:k127} {o:k9d} (h:kjj x o):k4b.Snd Tryz.prog x o:=
 Con.soundH (c:=k4b) (C:=k6l) TBok ⟨inf_ok,(all_cons k1os all_nil),all_nil⟩ mix Tryz.func84 (by kernel_rfl) (by kernel_rfl) (by kernel_rfl) rfl h (k1h7 o)
theorem k1ls {p0:Int} {p1 r0:List Int} (h:
((([]:List Int).length+p1.length)*8<=140737488355328/\([]:List Int).length+p1.length<=maxLen/\(([]:List Int)++p1=([]:List Int)++p1)/\Md.Loop (p0,(([]:List Int)++p1:List Int),()) (kd8 (r0,())))):kjj (p0,p1,()) (r0,()):=WPh.of_eq (by kernel_rfl) h
def kyn (r0:List Int) (k1:List Int->Prop) (s0:Int) (g1:List Int):Prop:=
(0<=s0)/\let v1:Bool:=decide ((g1.length:Int)<(ishl .i64 1 s0))
(v1=true->
(0<=(0:Int)/\(0:Int)<=12)/\g1.length=g1.length/\(g1.length+[(emp (0:Int).toNat)].length)*8<=140737488355328/\g1.length+[(emp (0:Int).toNat)].length<=maxLen/\(g1++[(emp (0:Int).toNat)]=g1++[(emp (0:Int).toNat)])/\k1 (g1++[(emp (0:Int).toNat)]:List Int))/\
(v1=false->
 g1=r0)
theorem k1ip {r0:List Int} {s0:Int} {g1:List Int} (inv:List Int->Prop) (μ:List Int->Nat) (h0:inv g1) (hs:∀(g1:List Int),inv g1->kyn r0 (fun g1q=>inv g1q/\μ g1q<μ g1) s0 g1):Md.Loop (s0,g1,()) (kd8 (r0,())):=
 ⟨⟨fun((s0q,g1q,()):Int×(List Int)×Unit)=>(s0=s0q)/\inv g1q,fun((_,g1q,()):Int×(List Int)×Unit)=>μ g1q,⟨rfl,h0⟩,fun(s0p,g1p,()) ⟨eq,hi⟩=>by
  obtain rfl:=eq;exact mpr_of (by kernel_rfl) ((congrArg (fun k=>kyn r0 k s0 g1p) (lpk1 (rfl:s0=s0) inv (fun g1q=>μ g1q<μ g1p))).mpr (hs g1p hi))⟩⟩
theorem bd84:Callable Tryz.prog 84:=⟨by rw[Tryz.func84];kernel_rfl,by rw[Tryz.func84];show some _≠some _;decide⟩
theorem k1g1 (p0:Int) (p1:List Int) (h:(0<=p0/\p0<=12)/\p1.length<=2^p0.toNat):kjj (p0,p1,()) (((p1++List.replicate (2^p0.toNat-p1.length) (emp 0)):List Int),()):=by
 obtain⟨⟨h0,h1⟩,h2⟩:=h
 obtain⟨d,rfl⟩:=Int.eq_ofNat_of_zero_le h0
 rw[Int.toNat_natCast]at h2 ⊢
 have hp:=pow12 d (by omega)
 refine k1ls ⟨by simp;omega,by simp;unfold maxLen;omega,rfl,?_⟩
 refine k1ip (fun g=>∃m:Nat,g=p1++List.replicate m (emp 0)/\p1.length+m<=2^d) (fun g=>2^d-g.length) ⟨0,by simp,by omega⟩ ?_
 rintro _ ⟨m,rfl,hm⟩
 have hl:(p1++List.replicate m (emp 0)).length=p1.length+m:=by simp
 refine⟨h0,?_⟩
 rw[shl1 d (by omega)]
 refine⟨fun e=> ?_,fun e=> ?_⟩
 ·have e:=of_decide_eq_true e
  rw[hl]at e
  refine⟨by decide,rfl,?_,?_,rfl,⟨m+1,?_,by omega⟩,?_⟩
  ·rw[hl];simp only[List.length_cons,List.length_nil];omega
  ·rw[hl];simp only[List.length_cons,List.length_nil];unfold maxLen;omega
  ·rw[List.append_assoc,List.replicate_succ'];rfl
  ·rw[List.length_append,hl];simp only[List.length_cons,List.length_nil];omega
 ·have e:=of_decide_eq_false e
  rw[hl]at e
  have:2^d-p1.length=m:=by omega
  rw[this]
noncomputable def kwg:Con TB.den:=k4b.fnR (fun x=>(fun(p0:Int) (p1:List Int)=>(0<=p0/\p0<=12)/\p1.length<=2^p0.toNat) x.1 x.2.1) fun x=>(fun(p0:Int) (p1:List Int)=>(((p1++List.replicate (2^p0.toNat-p1.length) (emp 0)):List Int),())) x.1 x.2.1
theorem k1nl:kwg.Ok Tryz.prog TB:=Con.ok_fn k4b bd84 fun x h=>k1gp (k1g1 x.1 x.2.1 h)
def k58:Con TB.den:=Con.mk0 57 [.one (zqi),.one (zql)] [] (.one (.one (zqu))) []
abbrev k18a:=CI k58
abbrev kb0:=CO k58
noncomputable def k77:Cx TB:=⟨inf,[kwg,kzc],[],4,[]⟩
noncomputable def kg3:Code:=Tryz.f57.body.getD .skip
noncomputable def kqj:List ResultVar:=Tryz.f57.results.toList
def k1sd (o:kb0):=qS TB k77 17 0 (cB (cB (cB kg3))) .no (retTQ TB k77 k58 kqj o)
def kbx:Tm:=⟨[],[],[5],[.one (zql)],0⟩
def kf3 (o:kb0) (nx1:NX TB kbx) (i:HL TB.den kbx.hs):Prop:=WP TB k77 17 0 (cA (cA (cA (cB (cB kg3))))) .no (kbx.fill TB i) (qM TB 0 kbx nx1 (blockT TB 0 (k1sd o)))
noncomputable def k1og (o:kb0):An TB:= .nd [] (.lp [] kbx (kf3 o) fun nx1=> .no) [] .no
noncomputable def k11n (o:kb0):An TB:= .nd [] .no [] (.nd [] .no [] (k1og o))
def kld (x:k18a) (o:kb0):Prop:=WPh TB k77 17 0 kg3 (k11n o) (k58.st TB x) (retTQ TB k77 k58 kqj o)
theorem k1lf (o:kb0):OblH TB k77 17 0 kg3 (k11n o) (retTQ TB k77 k58 kqj o):=
 OblH.ofC (X:=((∀nx i,(kf3 o) nx i=(kf3 o) nx i)/\(∀nx1:NX TB kbx,True)/\True)) (by kernel_rfl) ⟨fun _ _=>rfl,fun _=>trivial,trivial⟩
theorem k1l9 {x:k18a} {o:kb0} (h:kld x o):k58.Snd Tryz.prog x o:=
 Con.soundH (c:=k58) (C:=k77) TBok ⟨inf_ok,(all_cons k1nl (all_cons k1qw all_nil)),all_nil⟩ mix Tryz.func57 (by kernel_rfl) (by kernel_rfl) (by kernel_rfl) rfl h (k1lf o)
theorem k1qp {p0:Int} {p1:List Int} {r0:Int} (h:
(((0<=p0/\p0<=12)/\p1.length<=2^p0.toNat)/\let r1:List Int:=(p1++List.replicate (2^p0.toNat-p1.length) (emp 0))
 Md.Loop (r1,()) (kf3 (r0,())))):kld (p0,p1,()) (r0,()):=WPh.of_eq (by kernel_rfl) h
def k141 (r0:Int) (k1:List Int->Prop) (s5:List Int):Prop:=
(decide (1<(s5.length:Int))=true->
((∀x∈s5,0<=x/\x<18446744069414584321)/\s5.length<=100000)/\k1 ((pairs s5):List Int))/\
(decide (1<(s5.length:Int))=false->
 0<(s5.length:Int)/\ix s5 0=r0)
theorem k1o2 {r0:Int} {s5:List Int} (inv:List Int->Prop) (μ:List Int->Nat) (h0:inv s5) (hs:∀(s5:List Int),inv s5->k141 r0 (fun s5q=>inv s5q/\μ s5q<μ s5) s5):Md.Loop (s5,()) (kf3 (r0,())):=
 ⟨⟨fun((s5q,()):(List Int)×Unit)=>(True)/\inv s5q,fun((s5q,()):(List Int)×Unit)=>μ s5q,⟨trivial,h0⟩,fun(s5p,()) ⟨eq,hi⟩=>by
  exact mpr_of (by kernel_rfl) ((congrArg (fun k=>k141 r0 k s5p) (lpk1 (trivial:True) inv (fun s5q=>μ s5q<μ s5p))).mpr (hs s5p hi))⟩⟩
theorem bd57:Callable Tryz.prog 57:=⟨by rw[Tryz.func57];kernel_rfl,by rw[Tryz.func57];show some _≠some _;decide⟩
theorem k1hu (p0:Int) (p1:List Int) (h:(0<=p0/\p0<=12)/\p1.length<=2^p0.toNat/\(∀x∈p1,0<=x/\x<18446744069414584321)):kld (p0,p1,()) (((TT (lf p1) p0.toNat 0):Int),()):=by
 obtain⟨⟨h0,h1⟩,h2,h3⟩:=h
 refine k1qp ⟨⟨⟨h0,h1⟩,h2⟩,?_⟩
 obtain⟨d,rfl⟩:=Int.eq_ofNat_of_zero_le h0
 rw[Int.toNat_natCast]at h2 ⊢
 have hp:=pow12 d (by omega)
 rw[k1z8 h2]
 refine k1o2 (fun g=>∃i:Nat,i<=d/\g=lvl p1 d i) (fun g=>g.length) ⟨0,by omega,rfl⟩ ?_
 rintro _ ⟨i,hi,rfl⟩
 have hli:=lvl_len p1 d i
 refine⟨fun e=> ?_,fun e=> ?_⟩
 ·have e:=of_decide_eq_true e
  have hid:i<d:=by
   rcases Nat.lt_or_ge i d with h1|h1
   ·exact h1
   ·have:i=d:=by omega
    subst this
    rw[hli,Nat.sub_self]at e
    exact absurd e (by decide)
  have:2^(d-i)=2*2^(d-(i+1)):=by rw[show d-i=d-(i+1)+1 by omega,Nat.pow_succ];omega
  have hq:=Nat.two_pow_pos (d-(i+1))
  have hp2:=pow12 (d-i) (by omega)
  refine⟨⟨lvl_u h3 d i,by omega⟩,?_⟩
  rw[k1yh hid]
  refine⟨⟨i+1,by omega,rfl⟩,?_⟩
  rw[lvl_len,lvl_len]
  omega
 ·have e:=of_decide_eq_false e
  rw[hli]at e
  have hid:i=d:=by
   rcases Nat.lt_or_ge i d with h1|h1
   ·have:2^(d-i)=2*2^(d-(i+1)):=by rw[show d-i=d-(i+1)+1 by omega,Nat.pow_succ];omega
    have hq:=Nat.two_pow_pos (d-(i+1))
    omega
   ·omega
  subst hid
  have e1:lvl p1 i i=[TT (lf p1) i 0]:=by simp[lvl,List.range_succ]
  rw[e1]
  exact⟨by show(0:Int)<((1:Nat):Int);decide,rfl⟩
noncomputable def kn7:Con TB.den:=k58.fnR (fun x=>(fun(p0:Int) (p1:List Int)=>(0<=p0/\p0<=12)/\p1.length<=2^p0.toNat/\(∀x∈p1,0<=x/\x<18446744069414584321)) x.1 x.2.1) fun x=>(fun(p0:Int) (p1:List Int)=>(((TT (lf p1) p0.toNat 0):Int),())) x.1 x.2.1
theorem k11j:kn7.Ok Tryz.prog TB:=Con.ok_fn k58 bd57 fun x h=>k1l9 (k1hu x.1 x.2.1 h)
def k70:Con TB.den:=Con.mk0 78 [.one (.d (.sl (.st 8))),.one (zqu)] [] (.one (.agg [zqu,zqu,zqu])) []
abbrev k1l1:=CI k70
abbrev kel:=CO k70
noncomputable def kak:Cx TB:=⟨inf,[],[],4,[]⟩
noncomputable def kjg:Code:=Tryz.f78.body.getD .skip
noncomputable def kwz:List ResultVar:=Tryz.f78.results.toList
def k1wx (o:kel):=qS TB kak 25 0 (cB (cB kjg)) .no (retTQ TB kak k70 kwz o)
def kfk:Tm:=⟨[0],[.cells [zqu,zqu,zqu]],[0,1,4,5],[.one (.d (.sl (.st 8))),.one (zqu),.one (.ptr 0 0),.one (zqi)],1⟩
def kjs (o:kel) (nx1:NX TB kfk) (i:HL TB.den kfk.hs):Prop:=WP TB kak 25 0 (cA (cA (cB (cA (cB kjg))))) .no (kfk.fill TB i) (qM TB 0 kfk nx1 (blockT TB 0 (k1wx o)))
noncomputable def k1wg (o:kel):An TB:= .nd [] .no [] (.lp [] kfk (kjs o) fun nx1=> .no)
noncomputable def k1dz (o:kel):An TB:= .nd [] .no [] (.nd [] (k1wg o) [] .no)
def kpz (x:k1l1) (o:kel):Prop:=WPh TB kak 25 0 kjg (k1dz o) (k70.st TB x) (retTQ TB kak k70 kwz o)
theorem k1u5 (o:kel):OblH TB kak 25 0 kjg (k1dz o) (retTQ TB kak k70 kwz o):=
 OblH.ofC (X:=((∀nx i,(kjs o) nx i=(kjs o) nx i)/\(∀nx1:NX TB kfk,True)/\True)) (by kernel_rfl) ⟨fun _ _=>rfl,fun _=>trivial,trivial⟩
theorem k1tp {x:k1l1} {o:kel} (h:kpz x o):k70.Snd Tryz.prog x o:=
 Con.soundH (c:=k70) (C:=kak) TBok ⟨inf_ok,all_nil,all_nil⟩ mix Tryz.func78 (by kernel_rfl) (by kernel_rfl) (by kernel_rfl) rfl h (k1u5 o)
theorem k1v0 {p0:List wA} {p1:Int} {r0:wA} (h:
(Md.Loop (p0,p1,(0:Int),(0:Int),(0:Int),(0:Int),()) (kjs (r0.ID,r0.wX,r0.wO,())))):kpz (p0,p1,()) (r0.ID,r0.wX,r0.wO,()):=WPh.of_eq (by kernel_rfl) h
def k1e2 (r0:wA) (k1:Int->Prop) (s0:List wA) (s1 Aa Ab Ac s5:Int):Prop:=
(decide (s5<(s0.length:Int))=true->
(0<=s5)/\s5<(s0.length:Int)/\((((ix s0 s5).ID)==s1)=true->
(0<=s5)/\s5<(s0.length:Int)/\(ix s0 s5).ID=r0.ID/\(ix s0 s5).wX=r0.wX/\(ix s0 s5).wO=r0.wO)/\
((((ix s0 s5).ID)==s1)=false->
 k1 (IntKind.i64.wrap (s5+1):Int)))/\
(decide (s5<(s0.length:Int))=false->
 s1=r0.ID/\0=r0.wX/\0=r0.wO)
theorem k1up {r0:wA} {s0:List wA} {s1 Aa Ab Ac s5:Int} (inv:Int->Prop) (μ:Int->Nat) (h0:inv s5) (hs:∀(s5:Int),inv s5->k1e2 r0 (fun s5q=>inv s5q/\μ s5q<μ s5) s0 s1 Aa Ab Ac s5):Md.Loop (s0,s1,s5,Aa,Ab,Ac,()) (kjs (r0.ID,r0.wX,r0.wO,())):=
 ⟨⟨fun((s0q,s1q,s5q,Al,Ap,Aq,()):(List wA)×Int×Int×Int×Int×Int×Unit)=>(s0=s0q/\s1=s1q/\Aa=Al/\Ab=Ap/\Ac=Aq)/\inv s5q,fun((_,_,s5q,_,_,_,()):(List wA)×Int×Int×Int×Int×Int×Unit)=>μ s5q,⟨⟨rfl,rfl,rfl,rfl,rfl⟩,h0⟩,fun(s0p,s1p,s5p,B7,B9,Ca,()) ⟨eq,hi⟩=>by
  obtain⟨rfl,rfl,rfl,rfl,rfl⟩:=eq;exact mpr_of (by kernel_rfl) ((congrArg (fun k=>k1e2 r0 k s0 s1 Aa Ab Ac s5p) (lpk1 (⟨rfl,rfl,rfl,rfl,rfl⟩:s0=s0/\s1=s1/\Aa=Aa/\Ab=Ab/\Ac=Ac) inv (fun s5q=>μ s5q<μ s5p))).mpr (hs s5p hi))⟩⟩
theorem bd78:Callable Tryz.prog 78:=⟨by rw[Tryz.func78];kernel_rfl,by rw[Tryz.func78];show some _≠some _;decide⟩
theorem k1pq (p0:List wA) (p1:Int) (h:p0.length<=1001):kpz (p0,p1,()) (((getA p0 p1).ID:Int),((getA p0 p1).wX:Int),((getA p0 p1).wO:Int),()):=by
 refine k1v0 (k1up (fun a=>∃i:Nat,a=(i:Int)/\i<=p0.length/\∀k (h:k<p0.length),k<i->p0[k].ID≠p1) (fun a=>(p0.length-a).toNat) ⟨0,rfl,by omega,fun k _ h=>by omega⟩ ?_)
 rintro _ ⟨i,rfl,hi,hk⟩
 refine⟨fun h=> ?_,fun h=> ?_⟩
 ·have h:=of_decide_eq_true h
  have hi' :i<p0.length:=by omega
  rw[ix_get _ _ hi']
  refine⟨by omega,h,fun he=> ?_,fun he=> ?_⟩
  ·rw[getA_at hi' (by simpa using he) hk]
   exact⟨by omega,h,rfl,rfl,rfl⟩
  ·rw[inc_i64 _ (by omega)]
   refine⟨⟨i+1,rfl,by omega,fun k h1 h2=> ?_⟩,by omega⟩
   rcases Nat.lt_or_ge k i with h5|h5
   ·exact hk k h1 h5
   ·have:k=i:=by omega
    subst this;simpa using he
 ·have h:=of_decide_eq_false h
  rw[k1xc (fun k hk' =>hk k hk' (by omega))]
  exact⟨rfl,rfl,rfl⟩
noncomputable def kul:Con TB.den:=k70.fnR (fun x=>(fun(p0:List wA) (p1:Int)=>p0.length<=1001) x.1 x.2.1) fun x=>(fun(p0:List wA) (p1:Int)=>(((getA p0 p1).ID:Int),((getA p0 p1).wX:Int),((getA p0 p1).wO:Int),())) x.1 x.2.1
theorem k1em:kul.Ok Tryz.prog TB:=Con.ok_fn k70 bd78 fun x h=>k1tp (k1pq x.1 x.2.1 h)
def k3r:Con TB.den:=Con.mk0 79 [.one (.d (.sl (.st 8))),.agg [zqu,zqu,zqu]] [] (.one (.one (.d (.sl (.st 8))))) []
abbrev k1l2:=CI k3r
abbrev k20:=CO k3r
noncomputable def k2f:Cx TB:=⟨inf,[],[],4,[]⟩
noncomputable def k7u:Code:=Tryz.f79.body.getD .skip
noncomputable def kcw:List ResultVar:=Tryz.f79.results.toList
def k1vm (o:k20):=qS TB k2f 65 0 (cB (cB (cB (cB (cB k7u))))) .no (retTQ TB k2f k3r kcw o)
def kfr:Tm:=⟨[0,1],[.cells [zqu,zqu,zqu],.tip (.st 8)],[0,3,5,7],[.one (.d (.sl (.st 8))),.one (.ptr 0 0),.one (.own 1),.one (zqi)],58⟩
def kiy (o:k20) (nx2:NX TB kfr) (i:HL TB.den kfr.hs):Prop:=WP TB k2f 65 0 (cA (cA (cB (cA (cB (cB (cB (cB k7u)))))))) .no (kfr.fill TB i) (qM TB 0 kfr nx2 (blockT TB 2 (k1vm o)))
noncomputable def k1f4 (o:k20):An TB:= .nd [] .no [] (.lp [] kfr (kiy o) fun nx2=> .no)
def kh6:Tm:=⟨[0,1],[.cells [zqu,zqu,zqu],.tip (.st 8)],[0,3,5],[.one (.d (.sl (.st 8))),.one (.ptr 0 0),.one (.own 1)],58⟩
def k18i (o:k20) (i:HL TB.den kh6.hs):Prop:=ghs TB [] (kh6.fill TB i) fun s=>WP TB k2f 65 0 (cB (cB (cB (cB k7u)))) (.nd [] (k1f4 o) [] .no) s (retTQ TB k2f k3r kcw o)
structure kcp (o:k20) (i:HL TB.den kh6.hs):Prop where
 h:k18i o i
def k1wa (o:k20):=qM TB 0 kh6 (kcp o) (retTQ TB k2f k3r kcw o)
def kmd:Tm:=⟨[0,1],[.cells [zqu,zqu,zqu],.tip (.st 8)],[0,3,5,38],[.one (.d (.sl (.st 8))),.one (.ptr 0 0),.one (.own 1),.one (.d (.bool))],58⟩
def k181 (o:k20) (i:HL TB.den kmd.hs):Prop:=ghs TB [] (kmd.fill TB i) fun s=>WP TB k2f 65 0 (cB (cA (cB (cB (cB k7u))))) .no s (k1wa o)
structure kfw (o:k20) (i:HL TB.den kmd.hs):Prop where
 h:k181 o i
noncomputable def k1f2 (o:k20):An TB:= .jn kh6 (kcp o) [] (.jn kmd (kfw o) [] .no [] .no) [] (.nd [] (k1f4 o) [] .no)
def khb:Tm:=⟨[0,1],[.cells [zqu,zqu,zqu],.tip (.st 8)],[0,3,5],[.one (.d (.sl (.st 8))),.one (.ptr 0 0),.one (.own 1)],58⟩
def k17u (o:k20) (i:HL TB.den khb.hs):Prop:=ghs TB [] (khb.fill TB i) fun s=>WP TB k2f 65 0 (cB (cB (cB k7u))) (k1f2 o) s (retTQ TB k2f k3r kcw o)
structure kd0 (o:k20) (i:HL TB.den khb.hs):Prop where
 h:k17u o i
def k1wb (o:k20):=qM TB 0 khb (kd0 o) (retTQ TB k2f k3r kcw o)
def kg0:Tm:=⟨[0,1],[.cells [zqu,zqu,zqu],.tip (.st 8)],[0,3,5,6],[.one (.d (.sl (.st 8))),.one (.ptr 0 0),.one (.own 1),.one (zqi)],2⟩
def kju (o:k20) (nx1:NX TB kg0) (i:HL TB.den kg0.hs):Prop:=WP TB k2f 65 0 (cA (cA (cB (cA (cB (cB k7u)))))) .no (kg0.fill TB i) (qM TB 0 kg0 nx1 (blockT TB 0 (k1wb o)))
noncomputable def k1te (o:k20):An TB:= .lp [.tok 5 (.st 8)] kg0 (kju o) fun nx1=> .no
noncomputable def k1t8 (o:k20):An TB:= .jn khb (kd0 o) [] (.nd [] .no [] (k1te o)) [] (k1f2 o)
noncomputable def k1eq (o:k20):An TB:= .nd [] .no [] (.nd [] .no [] (k1t8 o))
def kqh (x:k1l2) (o:k20):Prop:=WPh TB k2f 65 0 k7u (k1eq o) (k3r.st TB x) (retTQ TB k2f k3r kcw o)
theorem k1to (o:k20):OblH TB k2f 65 0 k7u (k1eq o) (retTQ TB k2f k3r kcw o):=
 OblH.ofC (X:=((∀nx i,(kju o) nx i=(kju o) nx i)/\(∀nx1:NX TB kg0,True)/\(∀i,(kd0 o) i=k17u o i)/\(∀i,(kfw o) i=k181 o i)/\(∀i,(kcp o) i=k18i o i)/\(∀nx i,(kiy o) nx i=(kiy o) nx i)/\(∀nx2:NX TB kfr,True)/\True)) (by kernel_rfl) ⟨fun _ _=>rfl,fun _=>trivial,fun _=>propext ⟨fun h=>h.1,fun h=>⟨h⟩⟩,fun _=>propext ⟨fun h=>h.1,fun h=>⟨h⟩⟩,fun _=>propext ⟨fun h=>h.1,fun h=>⟨h⟩⟩,fun _ _=>rfl,fun _=>trivial,trivial⟩
theorem k1th {x:k1l2} {o:k20} (h:kqh x o):k3r.Snd Tryz.prog x o:=
 Con.soundH (c:=k3r) (C:=k2f) TBok ⟨inf_ok,all_nil,all_nil⟩ mix Tryz.func79 (by kernel_rfl) (by kernel_rfl) (by kernel_rfl) rfl h (k1to o)
theorem k1wi {p0:List wA} {p1:wA} {r0:List wA} (h:
((([]:List wA)=([]:List wA))/\Md.Loop (p0,(0:Int),p1.ID,p1.wX,p1.wO,(([]:List wA):List wA),()) (kju (r0,())))):kqh (p0,p1.ID,p1.wX,p1.wO,()) (r0,()):=WPh.of_eq (by kernel_rfl) h
theorem k1n8 {r0 s0:List wA} {Aa Ab Ac:Int} {g1:List wA} (h:
((decide (0<Ab)=true->
(g1=g1)/\kfw (r0,()) (s0,true,Aa,Ab,Ac,g1,()))/\
(decide (0<Ab)=false->
(g1=g1)/\kfw (r0,()) (s0,(decide (0<Ac):Bool),Aa,Ab,Ac,g1,())))):kd0 (r0,()) (s0,Aa,Ab,Ac,g1,()):=⟨mpr_of (by kernel_rfl) h⟩
theorem k1lt {r0 s0:List wA} {s38:Bool} {Aa Ab Ac:Int} {g1:List wA} (h:
((s38=true->
 g1.length=g1.length/\(g1.length+[wA.mk Aa Ab Ac].length)*24<=140737488355328/\g1.length+[wA.mk Aa Ab Ac].length<=maxLen/\(g1++[wA.mk Aa Ab Ac]=g1++[wA.mk Aa Ab Ac])/\kcp (r0,()) (s0,Aa,Ab,Ac,(g1++[wA.mk Aa Ab Ac]:List wA),()))/\
(s38=false->
(g1=g1)/\kcp (r0,()) (s0,Aa,Ab,Ac,g1,())))):kfw (r0,()) (s0,s38,Aa,Ab,Ac,g1,()):=⟨mpr_of (by kernel_rfl) h⟩
theorem k1nm {r0 s0:List wA} {Aa Ab Ac:Int} {g1:List wA} (h:
((g1=g1)/\Md.Loop (s0,(0:Int),Aa,Ab,Ac,g1,()) (kiy (r0,())))):kcp (r0,()) (s0,Aa,Ab,Ac,g1,()):=⟨mpr_of (by kernel_rfl) h⟩
def k1f8 (r0:List wA) (k1:Int->List wA->Prop) (s0:List wA) (Aa Ab Ac s6:Int) (g1:List wA):Prop:=
(decide (s6<(s0.length:Int))=true->
(0<=s6)/\s6<(s0.length:Int)/\(decide (((ix s0 s6).ID)<Aa)=true->
(0<=s6)/\s6<(s0.length:Int)/\g1.length=g1.length/\(g1.length+[(ix s0 s6)].length)*24<=140737488355328/\g1.length+[(ix s0 s6)].length<=maxLen/\(g1++[(ix s0 s6)]=g1++[(ix s0 s6)])/\k1 (IntKind.i64.wrap (s6+1):Int) (g1++[(ix s0 s6)]:List wA))/\
(decide (((ix s0 s6).ID)<Aa)=false->
(g1=g1)/\kd0 (r0,()) (s0,Aa,Ab,Ac,g1,())))/\
(decide (s6<(s0.length:Int))=false->
(g1=g1)/\kd0 (r0,()) (s0,Aa,Ab,Ac,g1,()))
theorem k1tt {r0 s0:List wA} {Aa Ab Ac s6:Int} {g1:List wA} (inv:Int->List wA->Prop) (μ:Int->List wA->Nat) (h0:inv s6 g1) (hs:∀(s6:Int) (g1:List wA),inv s6 g1->k1f8 r0 (fun s6q g1q=>inv s6q g1q/\μ s6q g1q<μ s6 g1) s0 Aa Ab Ac s6 g1):Md.Loop (s0,s6,Aa,Ab,Ac,g1,()) (kju (r0,())):=
 ⟨⟨fun((s0q,s6q,Al,Ap,Aq,g1q,()):(List wA)×Int×Int×Int×Int×(List wA)×Unit)=>(s0=s0q/\Aa=Al/\Ab=Ap/\Ac=Aq)/\inv s6q g1q,fun((_,s6q,_,_,_,g1q,()):(List wA)×Int×Int×Int×Int×(List wA)×Unit)=>μ s6q g1q,⟨⟨rfl,rfl,rfl,rfl⟩,h0⟩,fun(s0p,s6p,B7,B9,Ca,g1p,()) ⟨eq,hi⟩=>by
  obtain⟨rfl,rfl,rfl,rfl⟩:=eq;exact mpr_of (by kernel_rfl) ((congrArg (fun k=>k1f8 r0 k s0 Aa Ab Ac s6p g1p) (lpk2 (⟨rfl,rfl,rfl,rfl⟩:s0=s0/\Aa=Aa/\Ab=Ab/\Ac=Ac) inv (fun s6q g1q=>μ s6q g1q<μ s6p g1p))).mpr (hs s6p g1p hi))⟩⟩
def k1dv (r0:List wA) (k2:Int->List wA->Prop) (s0:List wA) (Aa Ab Ac s7:Int) (g1:List wA):Prop:=
(decide (s7<(s0.length:Int))=true->
(0<=s7)/\s7<(s0.length:Int)/\(decide (Aa<((ix s0 s7).ID))=true->
(0<=s7)/\s7<(s0.length:Int)/\g1.length=g1.length/\(g1.length+[(ix s0 s7)].length)*24<=140737488355328/\g1.length+[(ix s0 s7)].length<=maxLen/\(g1++[(ix s0 s7)]=g1++[(ix s0 s7)])/\k2 (IntKind.i64.wrap (s7+1):Int) (g1++[(ix s0 s7)]:List wA))/\
(decide (Aa<((ix s0 s7).ID))=false->
(g1=g1)/\k2 (IntKind.i64.wrap (s7+1):Int) g1))/\
(decide (s7<(s0.length:Int))=false->
 g1=r0)
theorem k1t2 {r0 s0:List wA} {Aa Ab Ac s7:Int} {g1:List wA} (inv:Int->List wA->Prop) (μ:Int->List wA->Nat) (h0:inv s7 g1) (hs:∀(s7:Int) (g1:List wA),inv s7 g1->k1dv r0 (fun s7q g1q=>inv s7q g1q/\μ s7q g1q<μ s7 g1) s0 Aa Ab Ac s7 g1):Md.Loop (s0,s7,Aa,Ab,Ac,g1,()) (kiy (r0,())):=
 ⟨⟨fun((s0q,s7q,Al,Ap,Aq,g1q,()):(List wA)×Int×Int×Int×Int×(List wA)×Unit)=>(s0=s0q/\Aa=Al/\Ab=Ap/\Ac=Aq)/\inv s7q g1q,fun((_,s7q,_,_,_,g1q,()):(List wA)×Int×Int×Int×Int×(List wA)×Unit)=>μ s7q g1q,⟨⟨rfl,rfl,rfl,rfl⟩,h0⟩,fun(s0p,s7p,B7,B9,Ca,g1p,()) ⟨eq,hi⟩=>by
  obtain⟨rfl,rfl,rfl,rfl⟩:=eq;exact mpr_of (by kernel_rfl) ((congrArg (fun k=>k1dv r0 k s0 Aa Ab Ac s7p g1p) (lpk2 (⟨rfl,rfl,rfl,rfl⟩:s0=s0/\Aa=Aa/\Ab=Ab/\Ac=Ac) inv (fun s7q g1q=>μ s7q g1q<μ s7p g1p))).mpr (hs s7p g1p hi))⟩⟩
theorem bd79:Callable Tryz.prog 79:=⟨by rw[Tryz.func79];kernel_rfl,by rw[Tryz.func79];show some _≠some _;decide⟩
theorem k1si (p0:List wA) (p1:wA) (h:Srt p0/\p0.length<=1000/\0<=p1.wX/\0<=p1.wO):kqh (p0,p1.ID,p1.wX,p1.wO,()) (((putA p0 p1):List wA),()):=by
 obtain⟨hs,hl,hb,hn⟩:=h
 have hlb:=lb_le p0 p1.ID
 have hJ3:∀m:List wA,m=p0.take (lb p0 p1.ID)++(if p1.wX≠0∨p1.wO≠0 then [p1]else [])->kcp (putA p0 p1,()) (p0,p1.ID,p1.wX,p1.wO,m,()):=by
  intro m hm
  have hml:m.length<=1001:=by
   rw[hm];simp only[List.length_append,List.length_take];split<;>simp<;>omega
  refine k1nm ⟨rfl,k1t2 (fun a g=>∃i:Nat,a=(i:Int)/\g=m++(p0.take i).filter (fun x=>decide (p1.ID<x.ID))/\i<=p0.length) (fun a _=>(p0.length-a).toNat) ⟨0,rfl,by simp,by omega⟩ ?_⟩
  rintro _ _ ⟨i,rfl,rfl,hi⟩
  refine⟨fun h=> ?_,fun h=> ?_⟩
  ·have h:=of_decide_eq_true h
   have hi' :i<p0.length:=by omega
   have hfl:((p0.take i).filter (fun x=>decide (p1.ID<x.ID))).length<=i:=by
    have:=List.length_filter_le (fun x=>decide (p1.ID<x.ID)) (p0.take i)
    simp at this ⊢
    omega
   have hlen:(m++(p0.take i).filter (fun x=>decide (p1.ID<x.ID))).length<=3000:=by rw[List.length_append];omega
   have e1:(p0.take (i+1)).filter (fun x=>decide (p1.ID<x.ID))=(p0.take i).filter (fun x=>decide (p1.ID<x.ID))++(if p1.ID<p0[i].ID then [p0[i]]else []):=by
    rw[List.take_succ_eq_append_getElem hi',List.filter_append]
    congr 1
    simp only[List.filter_cons,List.filter_nil,decide_eq_true_eq]
   rw[ix_get _ _ hi']
   refine⟨by omega,h,fun hc=>⟨by omega,h,rfl,?_,?_,rfl,?_⟩,fun hc=>⟨rfl,?_⟩⟩
   ·simp only[List.length_cons,List.length_nil];omega
   ·simp only[List.length_cons,List.length_nil];unfold maxLen;omega
   ·have hc:=of_decide_eq_true hc
    rw[inc_i64 _ (by omega)]
    refine⟨⟨i+1,rfl,?_,by omega⟩,by omega⟩
    rw[e1,if_pos hc,List.append_assoc]
   ·have hc:=of_decide_eq_false hc
    rw[inc_i64 _ (by omega)]
    refine⟨⟨i+1,rfl,?_,by omega⟩,by omega⟩
    rw[e1,if_neg hc,List.append_nil]
  ·have h:=of_decide_eq_false h
   have:i=p0.length:=by omega
   subst this
   simp only[List.take_length]
   rw[tail_eq hs,hm]
   unfold putA
   first|rfl|(rw[List.append_assoc];rfl)
 have hJ2:∀b:Bool,(b=true↔(p1.wX≠0∨p1.wO≠0))->kfw (putA p0 p1,()) (p0,b,p1.ID,p1.wX,p1.wO,p0.take (lb p0 p1.ID),()):=by
  intro b hb
  have hlt:(p0.take (lb p0 p1.ID)).length<=1000:=by rw[List.length_take];omega
  refine k1lt ⟨fun e=>⟨rfl,(len24 _ _ (Nat.le_trans hlt (by decide))).1,(len24 _ _ (Nat.le_trans hlt (by decide))).2,rfl,hJ3 _ ?_⟩,fun e=>⟨rfl,hJ3 _ ?_⟩⟩
  ·rw[if_pos (hb.1 e)]
   rfl
  ·rw[if_neg (fun hh=>by rw[hb.2 hh]at e;cases e)]
   exact(List.append_nil _).symm
 have hJ1:kd0 (putA p0 p1,()) (p0,p1.ID,p1.wX,p1.wO,p0.take (lb p0 p1.ID),()):=by
  refine k1n8 ⟨fun e=>⟨rfl,hJ2 _ ?_⟩,fun e=>⟨rfl,hJ2 _ ?_⟩⟩
  ·have:=of_decide_eq_true e
   simp;omega
  ·have:=of_decide_eq_false e
   simp;omega
 refine k1wi ⟨rfl,k1tt (fun a g=>∃i:Nat,a=(i:Int)/\g=p0.take i/\i<=p0.length/\∀k (h:k<p0.length),k<i->p0[k].ID<p1.ID) (fun a _=>(p0.length-a).toNat) ⟨0,rfl,rfl,by omega,fun k _ h=>by omega⟩ ?_⟩
 rintro _ _ ⟨i,rfl,rfl,hi,hk⟩
 refine⟨fun h=> ?_,fun h=> ?_⟩
 ·have h:=of_decide_eq_true h
  have hi' :i<p0.length:=by omega
  have hlt:(p0.take i).length<=1000:=by rw[List.length_take];omega
  rw[ix_get _ _ hi']
  refine⟨by omega,h,fun hc=>⟨by omega,h,rfl,?_,?_,rfl,?_⟩,fun hc=>⟨rfl,?_⟩⟩
  ·simp only[List.length_cons,List.length_nil];omega
  ·simp only[List.length_cons,List.length_nil];unfold maxLen;omega
  ·have hc:=of_decide_eq_true hc
   rw[inc_i64 _ (by omega),<-List.take_succ_eq_append_getElem]
   refine⟨⟨i+1,rfl,rfl,by omega,fun k h1 h2=> ?_⟩,by omega⟩
   rcases Nat.lt_or_ge k i with h5|h5
   ·exact hk k h1 h5
   ·have:k=i:=by omega
    subst this;exact hc
  ·have hc:=of_decide_eq_false hc
   have:lb p0 p1.ID=i:=lb_eq p0 p1.ID i hi hk fun _=>by omega
   rw[<-this]
   exact hJ1
 ·have h:=of_decide_eq_false h
  have:lb p0 p1.ID=i:=lb_eq p0 p1.ID i hi hk fun hh=>by omega
  rw[<-this]
  exact⟨rfl,hJ1⟩
noncomputable def kuj:Con TB.den:=k3r.fnR (fun(a0,a1,a2,a3,())=>(fun(p0:List wA) (p1:wA)=>Srt p0/\p0.length<=1000/\0<=p1.wX/\0<=p1.wO) a0 (wA.mk a1 a2 a3)) fun(a0,a1,a2,a3,())=>(fun(p0:List wA) (p1:wA)=>(((putA p0 p1):List wA),())) a0 (wA.mk a1 a2 a3)
theorem k1ev:kuj.Ok Tryz.prog TB:=Con.ok_fn k3r bd79 fun(a0,a1,a2,a3,()) h=>k1th (k1si a0 (wA.mk a1 a2 a3) h)
def k6n:Con TB.den:=Con.mk0 69 [.one (.d (.sl (.st 8))),.one (zqu),.one (zqu)] [] (.tup [.one (.d (.sl (.st 8))),.one (zqi)]) []
abbrev k12a:=CI k6n
abbrev kqx:=CO k6n
noncomputable def knz:Cx TB:=⟨inf,[kul,kuj],[],4,[]⟩
noncomputable def k1ep:Code:=Tryz.f69.body.getD .skip
noncomputable def k1lp:List ResultVar:=Tryz.f69.results.toList
noncomputable def k1m1 (o:kqx):An TB:= .no
def kj7 (x:k12a) (o:kqx):Prop:=WPh TB knz 25 0 k1ep (k1m1 o) (k6n.st TB x) (retTQ TB knz k6n k1lp o)
theorem k1hj {x:k12a} {o:kqx} (h:kj7 x o):k6n.Snd Tryz.prog x o:=
 Con.soundH (c:=k6n) (C:=knz) TBok ⟨inf_ok,(all_cons k1em (all_cons k1ev all_nil)),all_nil⟩ mix Tryz.func69 (by kernel_rfl) (by kernel_rfl) (by kernel_rfl) rfl h (OblH.ofC (X:=True) (by kernel_rfl) trivial)
theorem k1nt {p0:List wA} {p1 p2:Int} {r0:List wA} {r1:Int} (h:
((p0.length<=1001)/\let v2:Int:=IntKind.u64.wrap (9223372036854775807-((getA p0 p1).wX))
(decide (v2<p2)=true->
([]:List wA)=r0/\1=r1)/\
(decide (v2<p2)=false->
 let v3:Int:=IntKind.u64.wrap (((getA p0 p1).wX)+p2)
(Srt p0/\p0.length<=1000/\0<=(wA.mk ((getA p0 p1).ID) v3 ((getA p0 p1).wO)).wX/\0<=(wA.mk ((getA p0 p1).ID) v3 ((getA p0 p1).wO)).wO)/\let r4:List wA:=(putA p0 (wA.mk ((getA p0 p1).ID) v3 ((getA p0 p1).wO)))
 r4=r0/\0=r1))):kj7 (p0,p1,p2,()) (r0,r1,()):=WPh.of_eq (by kernel_rfl) h
theorem bd69:Callable Tryz.prog 69:=⟨by rw[Tryz.func69];kernel_rfl,by rw[Tryz.func69];show some _≠some _;decide⟩
theorem k1da (p0:List wA) (p1 p2:Int) (h:OkA p0/\U64 p2):kj7 (p0,p1,p2,()) ((((creditA p0 p1 p2).1):List wA),(((creditA p0 p1 p2).2):Int),()):=by
 obtain⟨h,ha,ha'⟩:=h
 obtain⟨g1,g2⟩:=getA_ok h p1
 refine k1nt ⟨by have:=h.2.1;omega,?_⟩
 rw[wrap_u64 (9223372036854775807-(getA p0 p1).wX) (by omega) (by omega),getA_id]
 refine⟨fun hh=> ?_,fun hh=> ?_⟩
 ·have:=of_decide_eq_true hh
  simp[creditA,this]
 ·have:=of_decide_eq_false hh
  simp only[creditA,if_neg this]
  rw[wrap_u64 _ (by omega) (by omega)]
  exact⟨⟨h.1,h.2.1,by first|omega|(simp only;omega),by first|omega|(simp only;omega)⟩,rfl,by first|exact rfl|exact True.intro⟩
noncomputable def kl4:Con TB.den:=k6n.fnR (fun x=>(fun(p0:List wA) (p1 p2:Int)=>OkA p0/\U64 p2) x.1 x.2.1 x.2.2.1) fun x=>(fun(p0:List wA) (p1 p2:Int)=>((((creditA p0 p1 p2).1):List wA),(((creditA p0 p1 p2).2):Int),())) x.1 x.2.1 x.2.2.1
theorem kys:kl4.Ok Tryz.prog TB:=Con.ok_fn k6n bd69 fun x h=>k1hj (k1da x.1 x.2.1 x.2.2.1 h)
end Go.Proofs.YtlfcebhnjkcmnaaGreat
end
